import Derived.Test.YtnnpgbleacapfaaGreatPa13
namespace Go.Proofs.YtnnpgbleacapfaaGreat
open Go.RowKit
set_option linter.unusedSimpArgs false
set_option linter.unusedVariables false

/-! ref12.granted, ref12.Cut -/
def grantedE (c : Cfg) (s : St) (e : Ent) : Int :=
  let t := tsAt s e.tenant
  let x := csAt s e.cell
  if x.mode = 3 ∨ (x.mode = 2 ∧ e.cell ≠ t.home) then 6
  else if e.epoch ≠ t.epoch + 1 ∧ ¬ (e.cell = t.home ∧ e.epoch = t.epoch) then 7
  else if e.n ≠ x.running ∨ x.running ≠ x.wanted then 8
  else if e.since < e.tick ∨ e.tick + c.lease < e.since ∨ e.till ≤ e.since ∨ c.lease < e.till - e.since ∨ e.since < t.win.till ∨ (e.cell ≠ t.home ∧ e.tick < t.win.till) then 9 else 0
theorem grantE_eq (c : Cfg) (s : St) (e : Ent) : grantE c s e = if (tsAt s e.tenant).placed = false ∨ ((tsAt s e.tenant).shed = true ∧ e.cell ≠ (tsAt s e.tenant).standby) then 4 else if e.cell ≠ (tsAt s e.tenant).home ∧ e.cell ≠ (tsAt s e.tenant).standby ∧ e.cell ≠ (tsAt s e.tenant).target then 5 else grantedE c s e := rfl
def gdD : List (Nat × DQ) := [
  (5000005, { k := 40, L := LA, sl := [3, 4, 5, 6, 7, 8, 9] }), (5000007, { k := 40, L := LA, sl := [3, 4, 5, 6, 7, 8, 9] }), (5000009, { k := 40, L := LA, sl := [3, 4, 5, 6, 7, 8, 9] }), (5000011, { k := 40, L := LA, sl := [3, 4, 5, 6, 7, 8, 9] }), (5000013, { k := 40, L := LA, sl := [3, 4, 5, 6, 7, 8, 9] })
]
abbrev gdPre (c : Cfg) (s : St) (e : Ent) : Prop := (0 ≤ e.tenant ∧ e.tenant < s.tenants.length) ∧ (0 ≤ e.cell ∧ e.cell < s.cells.length) ∧ (0 ≤ e.tick ∧ e.tick ≤ 1073741824) ∧ (0 ≤ e.since ∧ e.since ≤ 1073741824) ∧ (0 ≤ e.till ∧ e.till ≤ 1073741824) ∧ (0 ≤ (tsAt s e.tenant).epoch ∧ (tsAt s e.tenant).epoch ≤ 1048576)
set_option maxRecDepth 100000 in
set_option maxHeartbeats 4000000 in
theorem granted_sx (x : CfgK) (c : Cfg) (y : StK) (s : St) (e : Ent) (hV : CfgV c) (hp : gdPre c s e) : sx tt [] gdD (bodyOf Tryz.f144) (argF 0 [cfgV CN1 x c, stV SN1 y s, entV' e]) (rdM c s noS) 10 (endx tt Tryz.f144.results.toList fun v _ _ => v = .int .i64 (grantedE c s e) ∧ pureV v) := by
  have hls := hV.lease
  obtain ⟨p1, p2, p3, p4, p5, p6⟩ := hp
  have p6b : 0 ≤ (s.tenants.getD e.tenant.toNat default).epoch ∧ (s.tenants.getD e.tenant.toNat default).epoch ≤ 1048576 := p6
  have w1 : IntKind.i64.wrap ((s.tenants.getD e.tenant.toNat default).epoch + 1) = (s.tenants.getD e.tenant.toNat default).epoch + 1 := wrapi (by omega)
  have w2 : IntKind.i64.wrap (e.tick + c.lease) = e.tick + c.lease := wrapi (by omega)
  have w3 : IntKind.i64.wrap (e.till - e.since) = e.till - e.since := wrapi (by omega)
  refine ⟨⟨Nat.le_refl _, p1.1, p1.2⟩, ?_⟩
  refine ⟨⟨Nat.le_refl _, p2.1, p2.2⟩, ?_⟩
  refine ⟨Bool, fun b => [(27, .bool b)], fun _ => [], fun b => (b = true ↔ ((s.cells.getD e.cell.toNat default).mode = 3 ∨ ((s.cells.getD e.cell.toNat default).mode = 2 ∧ ¬ e.cell = (s.tenants.getD e.tenant.toNat default).home))), ?_, ?_⟩
  · repeat' (first | refine ⟨fun _ => ?_, fun h => Bool.noConfusion h⟩ | refine ⟨fun h => Bool.noConfusion h, fun _ => ?_⟩ | refine ⟨fun _ => ?_, fun _ => ?_⟩ | refine ⟨⟨Nat.le_refl _, by omega, by omega⟩, ?_⟩ | fail)
    all_goals (refine ⟨_, ?_, (by repeat (first | exact trivial | refine ⟨rfl, ?_⟩)), (by repeat (first | exact trivial | refine ⟨rfl, ?_⟩))⟩; dsimp only; grind)
  · rintro b1 hb1
    refine ⟨⟨by decide, rfl, rfl⟩, ?_⟩
    refine ⟨fun qb1 => ?_, fun qb1 => ?_⟩
    · unfold grantedE tsAt csAt
      refine ⟨?_, trivial⟩
      congr 1
      grind
    · refine ⟨Bool, fun b => [(40, .bool b)], fun _ => [], fun b => (b = true ↔ (e.epoch ≠ (s.tenants.getD e.tenant.toNat default).epoch + 1 ∧ ¬ (e.cell = (s.tenants.getD e.tenant.toNat default).home ∧ e.epoch = (s.tenants.getD e.tenant.toNat default).epoch))), ?_, ?_⟩
      · repeat' (first | refine ⟨fun _ => ?_, fun h => Bool.noConfusion h⟩ | refine ⟨fun h => Bool.noConfusion h, fun _ => ?_⟩ | refine ⟨fun _ => ?_, fun _ => ?_⟩ | refine ⟨⟨Nat.le_refl _, by omega, by omega⟩, ?_⟩ | fail)
        all_goals (refine ⟨_, ?_, (by repeat (first | exact trivial | refine ⟨rfl, ?_⟩)), (by repeat (first | exact trivial | refine ⟨rfl, ?_⟩))⟩; dsimp only; grind)
      · rintro b2 hb2
        refine ⟨⟨by decide, rfl, rfl⟩, ?_⟩
        refine ⟨fun qb2 => ?_, fun qb2 => ?_⟩
        · unfold grantedE tsAt csAt
          refine ⟨?_, trivial⟩
          congr 1
          grind
        · refine ⟨Bool, fun b => [(69, .bool b)], fun _ => [], fun b => (b = true ↔ (e.n ≠ (s.cells.getD e.cell.toNat default).running ∨ (s.cells.getD e.cell.toNat default).running ≠ (s.cells.getD e.cell.toNat default).wanted)), ?_, ?_⟩
          · repeat' (first | refine ⟨fun _ => ?_, fun h => Bool.noConfusion h⟩ | refine ⟨fun h => Bool.noConfusion h, fun _ => ?_⟩ | refine ⟨fun _ => ?_, fun _ => ?_⟩ | refine ⟨⟨Nat.le_refl _, by omega, by omega⟩, ?_⟩ | fail)
            all_goals (refine ⟨_, ?_, (by repeat (first | exact trivial | refine ⟨rfl, ?_⟩)), (by repeat (first | exact trivial | refine ⟨rfl, ?_⟩))⟩; dsimp only; grind)
          · rintro b3 hb3
            refine ⟨⟨by decide, rfl, rfl⟩, ?_⟩
            refine ⟨fun qb3 => ?_, fun qb3 => ?_⟩
            · unfold grantedE tsAt csAt
              refine ⟨?_, trivial⟩
              congr 1
              grind
            · refine ⟨Bool, fun b => [(82, .bool b)], fun _ => [], fun b => (b = true ↔ (e.since < e.tick ∨ e.tick + c.lease < e.since ∨ e.till ≤ e.since ∨ c.lease < e.till - e.since ∨ e.since < (s.tenants.getD e.tenant.toNat default).win.till)), ?_, ?_⟩
              · repeat' (first | refine ⟨fun _ => ?_, fun h => Bool.noConfusion h⟩ | refine ⟨fun h => Bool.noConfusion h, fun _ => ?_⟩ | refine ⟨fun _ => ?_, fun _ => ?_⟩ | refine ⟨⟨Nat.le_refl _, by omega, by omega⟩, ?_⟩ | fail)
                all_goals (refine ⟨_, ?_, (by repeat (first | exact trivial | refine ⟨rfl, ?_⟩)), (by repeat (first | exact trivial | refine ⟨rfl, ?_⟩))⟩; dsimp only; grind)
              · rintro b4 hb4
                refine ⟨⟨by decide, rfl, rfl⟩, ?_⟩
                refine ⟨fun qb4 => ?_, fun qb4 => ?_⟩
                · unfold grantedE tsAt csAt
                  refine ⟨?_, trivial⟩
                  congr 1
                  grind
                · refine ⟨Bool, fun b => [(123, .bool b)], fun _ => [], fun b => (b = true ↔ (¬ e.cell = (s.tenants.getD e.tenant.toNat default).home ∧ e.tick < (s.tenants.getD e.tenant.toNat default).win.till)), ?_, ?_⟩
                  · repeat' (first | refine ⟨fun _ => ?_, fun h => Bool.noConfusion h⟩ | refine ⟨fun h => Bool.noConfusion h, fun _ => ?_⟩ | refine ⟨fun _ => ?_, fun _ => ?_⟩ | refine ⟨⟨Nat.le_refl _, by omega, by omega⟩, ?_⟩ | fail)
                    all_goals (refine ⟨_, ?_, (by repeat (first | exact trivial | refine ⟨rfl, ?_⟩)), (by repeat (first | exact trivial | refine ⟨rfl, ?_⟩))⟩; dsimp only; grind)
                  · rintro b5 hb5
                    refine ⟨⟨by decide, rfl, rfl⟩, ?_⟩
                    refine ⟨fun qb5 => ?_, fun qb5 => ?_⟩
                    · unfold grantedE tsAt csAt
                      refine ⟨?_, trivial⟩
                      congr 1
                      grind
                    · unfold grantedE tsAt csAt
                      refine ⟨?_, trivial⟩
                      congr 1
                      grind
def ctGrantedR : CT := fun vs mem nx K => ∃ N x c M y nT nC s e, vs = [cfgV N x c, stVg M y nT nC s, entV' e] ∧ (keeps mem (cfgM N c) ∧ HasSt mem M nT nC s) ∧ (CfgV c ∧ gdPre c s e) ∧ K (.int .i64 (grantedE c s e)) mem nx
theorem grantedROk : CSound Tryz.prog 144 ctGrantedR := ⟨by kernel_rfl, fun {C ρ fr mem nx a w vs K} hc hs hv => by
  obtain ⟨N, x, c, M, y, nT, nC, s, e, rfl, ⟨h1, h2⟩, ⟨hV, hp⟩, hK⟩ := hc
  obtain ⟨rfl, rfl, h3, h4⟩ := h2
  have e0 : ([cfgV N x c, stV M y s, entV' e].map (den ρ)).toArray = #[.agg (cfgC (cfgX ρ N x) c), .agg (stC (stX ρ M y) s), entV' e] := by
    rw [List.map_cons, List.map_cons, den_cfg, den_st]
    simp [den, den2, den1]
  rw [e0]
  have hcc := hs.cfg (x := x) h1 (S := (· < w.heap.size)) (fun b h _ => h)
  have hss := hs.stRow (y := y) h3 h4
  have := rd_calls ft_nil Tryz.func144 rfl (D := gdD) (by kernel_rfl) (vs := [cfgV CN1 (ck (cfgX ρ N x)) c, stV SN1 (sk (stX ρ M y)) s, entV' e]) rfl (cfgX ρ N x) c (stX ρ M y) s noA noS w hcc hss (noS_ok w _) (fun v hv => by
    simp only [List.mem_cons, List.not_mem_nil, or_false] at hv
    rcases hv with rfl | rfl | rfl
    · exact rpl_cfg_ok _ c _ s noA noS
    · exact rpl_st_ok _ c _ s noA noS
    · exact (pure_den (pure_ent e) _ _).2) (R := fun v => v = .int .i64 (grantedE c s e)) (granted_sx _ c _ s e hV hp)
  rw [List.map_cons, List.map_cons, rpl_cfg, rpl_st, List.map_cons, (pure_den (pure_ent e) _ 0).1] at this
  refine this.mono ?_
  rintro r w' ⟨v, rfl, -, rfl, hb⟩
  exact ⟨.int .i64 (grantedE c s e), mem, nx, ρ, rfl, hK, hs.later hb, trivial, ExtS.refl _ _⟩⟩
abbrev winV (x : Win) : Value := .agg #[.int .i64 x.cell, .int .i64 x.epoch, .int .i64 x.version, .int .i64 x.since, .int .i64 x.till]
theorem pure_win (x : Win) : pureV (winV x) := fun v hv => by
  simp at hv
  rcases hv with rfl | rfl | rfl | rfl | rfl <;> trivial
def ctCutW : CT := fun vs mem nx K => ∃ (x : Win) (t : Int), vs = [winV x, .int .i64 t] ∧ (-1000000000000 ≤ t ∧ t ≤ 1000000000000) ∧ K (winV (cutW x t)) mem nx
set_option maxRecDepth 100000 in
theorem cut_sx (x : Win) (t : Int) (ht : -1000000000000 ≤ t ∧ t ≤ 1000000000000) : sx tt [] [] (bodyOf Tryz.f145) (argF 0 [winV x, .int .i64 t]) (rdM noC noS noS) 10 (endx tt Tryz.f145.results.toList fun v _ _ => v = winV (cutW x t) ∧ pureV v) := by
  have w1 : IntKind.i64.wrap (t + 1) = t + 1 := wrapi (by omega)
  have hm : ∀ a b : Int, (if b < a then b else a) = min a b := fun a b => by rw [Int.min_def]; split <;> split <;> omega
  refine ⟨?_, ?_⟩
  · show Value.agg #[_, _, _, .int .i64 (if (if IntKind.i64.wrap (t + 1) < x.till then IntKind.i64.wrap (t + 1) else x.till) < x.since then (if IntKind.i64.wrap (t + 1) < x.till then IntKind.i64.wrap (t + 1) else x.till) else x.since), .int .i64 (if IntKind.i64.wrap (t + 1) < x.till then IntKind.i64.wrap (t + 1) else x.till)] = _
    rw [w1, hm, hm]
    rfl
  · intro u hu
    simp at hu
    rcases hu with rfl | rfl | rfl | rfl | rfl <;> trivial
theorem cutWOk : CSound Tryz.prog 145 ctCutW := CSound.pure (by kernel_rfl) (by
  rintro vs mem nx K ⟨x, t, rfl, ht, hK⟩
  refine ⟨_, hK, fun ρ n => pure_den (pure_win _) ρ n, fun ρ w => ?_⟩
  have := rd_calls ft_nil Tryz.func145 rfl (D := []) (by kernel_rfl) (vs := [winV x, .int .i64 t]) rfl noX noC noA noS noA noS w (noC_ok _ _) (noS_ok w _) (noS_ok w _) (fun v hv => by
    simp only [List.mem_cons, List.not_mem_nil, or_false] at hv
    rcases hv with rfl | rfl
    · exact (pure_den (pure_win x) _ _).2
    · trivial) (R := fun v => v = winV (cutW x t)) (cut_sx x t ht)
  rw [List.map_cons, (pure_den (pure_win x) _ 0).1] at this
  rw [List.map_cons, (pure_den (pure_win x) _ 0).1]
  refine this.mono ?_
  rintro e w' ⟨v, rfl, -, rfl, hb⟩
  exact ⟨rfl, hb⟩)
end Go.Proofs.YtnnpgbleacapfaaGreat

namespace Go.Proofs.YtnnpgbleacapfaaGreat
open Go.RowKit
set_option linter.unusedSimpArgs false
set_option linter.unusedVariables false

/-! ref12.Apply: the functions that are walked inside. -/
theorem ov_yes {c : Cfg} {s : St} (h : decide (((overN c s c.cells.length : Nat) : Int) > 0) = true) : overB c s = true := by
  rw [← overN_pos]
  have := of_decide_eq_true h
  exact decide_eq_true (by omega)
theorem ov_no {c : Cfg} {s : St} (h : decide (((overN c s c.cells.length : Nat) : Int) > 0) = false) : overB c s = false := by
  rw [← overN_pos]
  have := of_decide_eq_false h
  exact decide_eq_false (by omega)
def placeF : FT := [(103, ctNo), (140, ctFrozenR), (141, ctMay), (142, ctTogether), (143, ctFit)]
def placeD : List (Nat × DQ) := [(9000000, { k := 0, L := [143] }), (11, { k := 13, L := [18], pre := [(0, false), (1, false), (2, false), (3, false), (4, false), (5, false), (6, false), (7, false), (8, false), (9, true), (10, false), (11, false), (12, true)] })]
theorem placeFok : FTokI Tryz.prog placeF (inlOf placeD) := fti_cons (noOk.i _) (fti_cons (frozenROk.i _) (fti_cons (mayOk.i _) (fti_cons (togetherOk.i _) (fti_cons (fitOk (by decide)) fti_nil))))
abbrev ctPlaceI : CT := ctInl ttU placeF placeD Tryz.f105 (bodyOf Tryz.f105)
theorem placeIOk {I : List Nat} (hI : I.contains 105 = true) : CSoundI Tryz.prog I 105 ctPlaceI := inl_ok ttUok placeFok mixed (by kernel_rfl) Tryz.func105 rfl (by kernel_rfl) hI
def grantF : FT := [(103, ctNo), (144, ctGrantedR), (143, ctFit)]
def grantD : List (Nat × DQ) := [(9000000, { k := 0, L := [143] }), (2, { k := 17, L := LA, pre := [(0, false), (1, false), (2, false), (3, false), (4, false), (5, false), (6, false), (7, false), (8, false), (9, false), (10, false), (11, false), (12, false), (13, false), (14, false), (15, false), (16, false)] }), (4, { k := 23, L := LA, pre := [(0, false), (1, false), (2, false), (3, false), (4, false), (5, false), (6, false), (7, false), (8, false), (9, false), (10, false), (11, false), (12, false), (13, false), (14, false), (15, false), (16, false), (17, false), (18, false), (19, false), (20, false), (21, false), (22, false)] }), (5000003, { k := 40, L := LA, sl := [3, 4, 5, 6, 7, 8] }), (5000005, { k := 40, L := LA, sl := [3, 4, 5, 6, 7, 8] })]
theorem grantFok : FTokI Tryz.prog grantF (inlOf grantD) := fti_cons (noOk.i _) (fti_cons (grantedROk.i _) (fti_cons (fitOk (by decide)) fti_nil))
abbrev ctGrantI : CT := ctInl ttU grantF grantD Tryz.f106 (bodyOf Tryz.f106)
theorem grantIOk {I : List Nat} (hI : I.contains 106 = true) : CSoundI Tryz.prog I 106 ctGrantI := inl_ok ttUok grantFok mixed (by kernel_rfl) Tryz.func106 rfl (by kernel_rfl) hI
def cutF : FT := [(103, ctNo), (145, ctCutW)]
def cutD : List (Nat × DQ) := [(9000000, { k := 0, L := [] }), (4, { k := 6, L := LA, pre := [(0, false), (1, false), (2, false), (3, false), (4, false), (5, false)] }), (6, { k := 8, L := LA, pre := [(0, false), (1, false), (2, false), (3, false), (4, false), (5, false), (6, false), (7, true)] })]
theorem cutFok : FTokI Tryz.prog cutF (inlOf cutD) := fti_cons (noOk.i _) (fti_cons (cutWOk.i _) fti_nil)
abbrev ctCutI : CT := ctInl ttU cutF cutD Tryz.f107 (bodyOf Tryz.f107)
theorem cutIOk {I : List Nat} (hI : I.contains 107 = true) : CSoundI Tryz.prog I 107 ctCutI := inl_ok ttUok cutFok mixed (by kernel_rfl) Tryz.func107 rfl (by kernel_rfl) hI
def standbyF : FT := [(103, ctNo), (140, ctFrozenR), (141, ctMay), (142, ctTogether), (143, ctFit)]
def standbyD : List (Nat × DQ) := [(9000000, { k := 0, L := [143] }), (5, { k := 23, L := LA, pre := [(0, false), (1, false), (2, false), (3, false), (4, false), (5, false), (6, false), (7, false), (8, false), (9, false), (10, false), (11, false), (12, false), (13, false), (14, false), (15, false), (16, false), (17, false), (18, false), (19, false), (20, false), (21, false), (22, false)] }), (11, { k := 25, L := LA, pre := [(0, false), (1, false), (2, false), (3, false), (4, false), (5, true), (6, false), (7, false), (8, false), (9, false), (10, false), (11, false), (12, false), (13, false), (14, false), (15, true), (16, false), (17, false), (18, false), (19, false), (20, false), (21, false), (22, false), (23, false), (24, false)] }), (5000006, { k := 40, L := LA, sl := [3, 4, 5, 6, 7, 8] }), (5000012, { k := 40, L := LA, sl := [3, 4, 5, 6, 7, 8] }), (1000013, { k := 40, L := LA, sl := [3, 4, 5, 6, 7, 8] })]
theorem standbyFok : FTokI Tryz.prog standbyF (inlOf standbyD) := fti_cons (noOk.i _) (fti_cons (frozenROk.i _) (fti_cons (mayOk.i _) (fti_cons (togetherOk.i _) (fti_cons (fitOk (by decide)) fti_nil))))
abbrev ctStandbyI : CT := ctInl ttU standbyF standbyD Tryz.f108 (bodyOf Tryz.f108)
theorem standbyIOk {I : List Nat} (hI : I.contains 108 = true) : CSoundI Tryz.prog I 108 ctStandbyI := inl_ok ttUok standbyFok mixed (by kernel_rfl) Tryz.func108 rfl (by kernel_rfl) hI
def readyF : FT := [(103, ctNo)]
def readyD : List (Nat × DQ) := [(9000000, { k := 0, L := [] }), (4, { k := 6, L := LA, pre := [(0, false), (1, false), (2, false), (3, false), (4, false), (5, false)] })]
theorem readyFok : FTokI Tryz.prog readyF (inlOf readyD) := fti_cons (noOk.i _) fti_nil
abbrev ctReadyI : CT := ctInl ttU readyF readyD Tryz.f109 (bodyOf Tryz.f109)
theorem readyIOk {I : List Nat} (hI : I.contains 109 = true) : CSoundI Tryz.prog I 109 ctReadyI := inl_ok ttUok readyFok mixed (by kernel_rfl) Tryz.func109 rfl (by kernel_rfl) hI
def migrateF : FT := [(103, ctNo), (140, ctFrozenR), (141, ctMay), (142, ctTogether), (143, ctFit)]
def migrateD : List (Nat × DQ) := [(9000000, { k := 0, L := [143] }), (4, { k := 23, L := LA, pre := [(0, false), (1, false), (2, false), (3, false), (4, false), (5, false), (6, false), (7, false), (8, false), (9, false), (10, false), (11, false), (12, false), (13, false), (14, false), (15, false), (16, false), (17, false), (18, false), (19, false), (20, false), (21, false), (22, false)] }), (10, { k := 25, L := LA, pre := [(0, false), (1, false), (2, false), (3, false), (4, false), (5, true), (6, false), (7, false), (8, false), (9, false), (10, false), (11, false), (12, false), (13, false), (14, false), (15, true), (16, false), (17, false), (18, false), (19, false), (20, false), (21, false), (22, false), (23, false), (24, false)] }), (5000003, { k := 40, L := LA, sl := [3, 4, 5, 6, 7, 8] }), (5000005, { k := 40, L := LA, sl := [3, 4, 5, 6, 7, 8] }), (5000011, { k := 40, L := LA, sl := [3, 4, 5, 6, 7, 8] })]
theorem migrateFok : FTokI Tryz.prog migrateF (inlOf migrateD) := fti_cons (noOk.i _) (fti_cons (frozenROk.i _) (fti_cons (mayOk.i _) (fti_cons (togetherOk.i _) (fti_cons (fitOk (by decide)) fti_nil))))
abbrev ctMigrateI : CT := ctInl ttU migrateF migrateD Tryz.f110 (bodyOf Tryz.f110)
theorem migrateIOk {I : List Nat} (hI : I.contains 110 = true) : CSoundI Tryz.prog I 110 ctMigrateI := inl_ok ttUok migrateFok mixed (by kernel_rfl) Tryz.func110 rfl (by kernel_rfl) hI
def abandonF : FT := [(103, ctNo)]
def abandonD : List (Nat × DQ) := [(9000000, { k := 0, L := [] }), (5000003, { k := 40, L := LA, sl := [2, 3, 4, 5, 6] })]
theorem abandonFok : FTokI Tryz.prog abandonF (inlOf abandonD) := fti_cons (noOk.i _) fti_nil
abbrev ctAbandonI : CT := ctInl ttU abandonF abandonD Tryz.f111 (bodyOf Tryz.f111)
theorem abandonIOk {I : List Nat} (hI : I.contains 111 = true) : CSoundI Tryz.prog I 111 ctAbandonI := inl_ok ttUok abandonFok mixed (by kernel_rfl) Tryz.func111 rfl (by kernel_rfl) hI
def shedF : FT := [(103, ctNo), (143, ctFit)]
def shedD : List (Nat × DQ) := [(9000000, { k := 0, L := [143] }), (5, { k := 7, L := LA, pre := [(0, false), (1, false), (2, false), (3, false), (4, false), (5, false), (6, false)] }), (11, { k := 6, L := LA, pre := [(0, false), (1, false), (2, false), (3, false), (4, false), (5, false)] }), (5000004, { k := 40, L := LA, sl := [3, 4, 5, 6, 7, 8] })]
theorem shedFok : FTokI Tryz.prog shedF (inlOf shedD) := fti_cons (noOk.i _) (fti_cons (fitOk (by decide)) fti_nil)
abbrev ctShedI : CT := ctInl ttU shedF shedD Tryz.f112 (bodyOf Tryz.f112)
theorem shedIOk {I : List Nat} (hI : I.contains 112 = true) : CSoundI Tryz.prog I 112 ctShedI := inl_ok ttUok shedFok mixed (by kernel_rfl) Tryz.func112 rfl (by kernel_rfl) hI
def wantF : FT := [(103, ctNo), (147, ctProvenR), (146, ctOpenR)]
def wantD : List (Nat × DQ) := [(9000000, { k := 0, L := [] }), (9, { k := 6, L := LA, pre := [(0, false), (1, false), (2, false), (3, false), (4, false), (5, false)] }), (13, { k := 11, L := LA, pre := [(0, false), (1, false), (2, false), (3, false), (4, false), (5, false), (6, false), (7, false), (8, false), (9, false), (10, false)] }), (15, { k := 18, L := LA, pre := [(0, false), (1, false), (2, false), (3, false), (4, false), (5, false), (6, false), (7, false), (8, false), (9, false), (10, false), (11, true), (12, false), (13, false), (14, false), (15, false), (16, false), (17, false)] }), (2000005, { k := 0, L := LA, sl := [3, 4, 5, 6, 7, 8, 9] }), (1000006, { k := 40, L := LA, sl := [3, 4, 5, 6, 7, 8, 9, 11] }), (5000012, { k := 40, L := LA, sl := [3, 4, 5, 6, 7, 8, 9, 10] }), (5000014, { k := 40, L := LA, sl := [3, 4, 5, 6, 7, 8, 9, 10] }), (5000016, { k := 40, L := LA, sl := [3, 4, 5, 6, 7, 8, 9, 10] })]
theorem wantFok : FTokI Tryz.prog wantF (inlOf wantD) := fti_cons (noOk.i _) (fti_cons (provenROk.i _) (fti_cons (openROk.i _) fti_nil))
abbrev ctWantI : CT := ctInl ttU wantF wantD Tryz.f113 (bodyOf Tryz.f113)
theorem wantIOk {I : List Nat} (hI : I.contains 113 = true) : CSoundI Tryz.prog I 113 ctWantI := inl_ok ttUok wantFok mixed (by kernel_rfl) Tryz.func113 rfl (by kernel_rfl) hI
def runsF : FT := [(103, ctNo), (147, ctProvenR)]
def runsD : List (Nat × DQ) := [(9000000, { k := 0, L := [] }), (2, { k := 16, L := LA, pre := [(0, false), (1, false), (2, false), (3, false), (4, false), (5, false), (6, false), (7, false), (8, false), (9, false), (10, false), (11, false), (12, false), (13, false), (14, false), (15, false)] }), (12, { k := 9, L := [17], pre := [(0, false), (1, false), (2, false), (3, false), (4, false), (5, false), (6, false), (7, false), (8, true)] }), (5000003, { k := 40, L := LA, sl := [2, 3, 4, 5, 6] }), (5000005, { k := 40, L := LA, sl := [2, 3, 4, 5, 6] }), (2000007, { k := 0, L := LA, sl := [2, 3, 4, 5, 6] }), (5000011, { k := 50, L := LA, sl := [2, 3, 4, 5, 6, 7] })]
theorem runsFok : FTokI Tryz.prog runsF (inlOf runsD) := fti_cons (noOk.i _) (fti_cons (provenROk.i _) fti_nil)
abbrev ctRunsI : CT := ctInl ttU runsF runsD Tryz.f114 (bodyOf Tryz.f114)
theorem runsIOk {I : List Nat} (hI : I.contains 114 = true) : CSoundI Tryz.prog I 114 ctRunsI := inl_ok ttUok runsFok mixed (by kernel_rfl) Tryz.func114 rfl (by kernel_rfl) hI
def proveF : FT := [(103, ctNo), (147, ctProvenR)]
def proveD : List (Nat × DQ) := [(9000000, { k := 0, L := [] }), (2000004, { k := 0, L := LA, sl := [3, 4, 5, 6, 7] }), (5000008, { k := 40, L := LA, sl := [3, 4, 5, 6, 7, 8] })]
theorem proveFok : FTokI Tryz.prog proveF (inlOf proveD) := fti_cons (noOk.i _) (fti_cons (provenROk.i _) fti_nil)
abbrev ctProveI : CT := ctInl ttU proveF proveD Tryz.f115 (bodyOf Tryz.f115)
theorem proveIOk {I : List Nat} (hI : I.contains 115 = true) : CSoundI Tryz.prog I 115 ctProveI := inl_ok ttUok proveFok mixed (by kernel_rfl) Tryz.func115 rfl (by kernel_rfl) hI
def expandF : FT := [(103, ctNo)]
def expandD : List (Nat × DQ) := [(9000000, { k := 0, L := [] }), (9, { k := 20, L := LA, pre := [(0, false), (1, false), (2, false), (3, false), (4, false), (5, false), (6, false), (7, false), (8, false), (9, false), (10, false), (11, false), (12, false), (13, false), (14, false), (15, false), (16, false), (17, false), (18, false), (19, false)] }), (2000006, { k := 0, L := LA, sl := [2, 3, 4, 5] }), (5000010, { k := 40, L := LA, sl := [2, 3, 4, 5, 6] })]
theorem expandFok : FTokI Tryz.prog expandF (inlOf expandD) := fti_cons (noOk.i _) fti_nil
abbrev ctExpandI : CT := ctInl ttU expandF expandD Tryz.f117 (bodyOf Tryz.f117)
theorem expandIOk {I : List Nat} (hI : I.contains 117 = true) : CSoundI Tryz.prog I 117 ctExpandI := inl_ok ttUok expandFok mixed (by kernel_rfl) Tryz.func117 rfl (by kernel_rfl) hI
def arF : FT := [(102, ctValid6), (103, ctNo), (104, ctCopied), (116, ctHas), (105, ctPlaceI), (106, ctGrantI), (107, ctCutI), (108, ctStandbyI), (109, ctReadyI), (110, ctMigrateI), (111, ctAbandonI), (112, ctShedI), (113, ctWantI), (114, ctRunsI), (115, ctProveI), (117, ctExpandI)]
def arD : List (Nat × DQ) := [(9000000, { k := 0, L := [105, 106, 107, 108, 109, 110, 111, 112, 113, 114, 115, 117] }), (27, { k := 9, L := [11, 12, 14], pre := [(0, false), (1, false), (2, false), (3, false), (4, false), (5, false), (6, false), (7, false), (8, false)] }), (29, { k := 15, L := [11, 12], pre := [(0, false), (1, false), (2, false), (3, false), (4, false), (5, false), (6, false), (7, false), (8, false), (9, false), (10, false), (11, false), (12, true), (13, false), (14, true)] }), (37, { k := 8, L := [11, 12], pre := [(0, false), (1, false), (2, false), (3, false), (5, false), (6, false), (7, false), (4, true)] })]
theorem arFok : FTokI Tryz.prog arF (inlOf arD) := fti_cons (valid6Ok.i _) (fti_cons (noOk.i _) (fti_cons (copiedOk.i _) (fti_cons (hasOk.i _) (fti_cons (placeIOk (by decide)) (fti_cons (grantIOk (by decide)) (fti_cons (cutIOk (by decide)) (fti_cons (standbyIOk (by decide)) (fti_cons (readyIOk (by decide)) (fti_cons (migrateIOk (by decide)) (fti_cons (abandonIOk (by decide)) (fti_cons (shedIOk (by decide)) (fti_cons (wantIOk (by decide)) (fti_cons (runsIOk (by decide)) (fti_cons (proveIOk (by decide)) (fti_cons (expandIOk (by decide)) (fti_nil))))))))))))))))
end Go.Proofs.YtnnpgbleacapfaaGreat

namespace Go.Proofs.YtnnpgbleacapfaaGreat
open Go.RowKit
set_option linter.unusedSimpArgs false
set_option linter.unusedVariables false

set_option maxRecDepth 100000 in
set_option maxHeartbeats 4000000 in
theorem apPlace (x : CfgK) (c : Cfg) (y : StK) (s : St) (e : Ent) (hA : ArH c s e) (hk : e.kind = 1) : sx ttU arF arD (bodyOf Tryz.f72) (argF 0 [cfgV CN1 x c, stV SN1 y s, entV' e]) (rdM c s noS) 10 (endx ttU Tryz.f72.results.toList fun v mem' _ => ApS mem' v (applyR c s e)) := by
  have hV := hA.cfg
  have hI := hA.inv
  have hE := hA.ent
  have hcn := hA.cnt
  have htk := hA.tick
  have hlt := hI.lt
  have hlc := hI.lc
  have hnt := hV.nt
  have hnc := hV.nc
  have hct := hI.count
  have hst := hI.tick
  have hev := hI.evac
  have hpv := hI.proven
  have htb := hA.tB
  have hP : kindE c s e = placeE c s e := by unfold kindE; simp [hk]
  have hf := hE
  simp [entV, entOk, inS, inR, fT, fC, fO, fE, fW, fN, hk] at hf
  refine ⟨CN1, x, c, e, rfl, (by repeat (first | exact trivial | refine ⟨rfl, ?_⟩)), hV, ?_⟩
  refine ⟨fun h => absurd h (by rw [hE]; decide), fun _ => ?_⟩
  refine ⟨fun h => absurd (of_decide_eq_true h) (by omega), fun _ => ?_⟩
  refine ⟨fun h => absurd (of_decide_eq_true h) (by omega), fun _ => ?_⟩
  refine ⟨SN1, y, s, rfl, ⟨.list rfl, .list rfl⟩, ⟨by omega, by omega⟩, ?_⟩
  intro y2
  refine ⟨fun _ => ?_, fun h => absurd h (by rw [hk]; decide)⟩
  rw [wrapi (n := s.count + 1) (by omega)]
  by_cases ho : 0 ≤ e.other
  · refine ⟨⟨Nat.le_refl _, by omega, by omega⟩, ?_⟩
    refine ⟨fun h1 => ?_, fun h1 => ?_⟩
    · repeat (first | refine ⟨fun _ => ?_, fun h => Bool.noConfusion h⟩ | refine ⟨fun h => Bool.noConfusion h, fun _ => ?_⟩ | fail)
      refine ⟨4, rfl, ?_⟩
      exact ApS.err (hA.err (by rw [hP]; unfold placeE tsAt csAt nearB; grind) (by decide))
    · refine ⟨⟨Nat.le_refl _, by omega, by omega⟩, ?_⟩
      refine ⟨fun h2 => ?_, fun h2 => ?_⟩
      · repeat (first | refine ⟨fun _ => ?_, fun h => Bool.noConfusion h⟩ | refine ⟨fun h => Bool.noConfusion h, fun _ => ?_⟩ | fail)
        refine ⟨6, rfl, ?_⟩
        exact ApS.err (hA.err (by rw [hP]; unfold placeE tsAt csAt nearB; grind) (by decide))
      · refine ⟨fun _ => ?_, fun h => absurd h (by simp; omega)⟩
        refine ⟨⟨Nat.le_refl _, by omega, by omega⟩, ?_⟩
        refine ⟨fun h3 => ?_, fun h3 => ?_⟩
        · repeat (first | refine ⟨fun _ => ?_, fun h => Bool.noConfusion h⟩ | refine ⟨fun h => Bool.noConfusion h, fun _ => ?_⟩ | fail)
          refine ⟨6, rfl, ?_⟩
          exact ApS.err (hA.err (by rw [hP]; unfold placeE tsAt csAt nearB; grind) (by decide))
        · refine ⟨CN1, x, c, ⟨15, 14, 0⟩, y2, _, _, ⟨e.tick, s.count + 1, s.tenants, s.cells, s.proven, s.evac, s.low, s.high⟩, e.cell, rfl, ⟨(by repeat (first | exact trivial | refine ⟨rfl, ?_⟩)), ⟨rfl, rfl, .list rfl, .list rfl⟩⟩, ⟨hV, by dsimp only; omega⟩, ?_⟩
          refine ⟨fun h4 => ?_, fun h4 => ?_⟩
          · replace h4 : frozenB c s e.cell = true := h4
            repeat (first | refine ⟨fun _ => ?_, fun h => Bool.noConfusion h⟩ | refine ⟨fun h => Bool.noConfusion h, fun _ => ?_⟩ | fail)
            refine ⟨12, rfl, ?_⟩
            exact ApS.err (hA.err (by rw [hP]; unfold placeE tsAt csAt nearB; grind) (by decide))
          · replace h4 : frozenB c s e.cell = false := h4
            refine ⟨fun _ => ?_, fun h => absurd h (by simp; omega)⟩
            refine ⟨CN1, x, c, ⟨15, 14, 0⟩, y2, _, _, ⟨e.tick, s.count + 1, s.tenants, s.cells, s.proven, s.evac, s.low, s.high⟩, e.other, rfl, ⟨(by repeat (first | exact trivial | refine ⟨rfl, ?_⟩)), ⟨rfl, rfl, .list rfl, .list rfl⟩⟩, ⟨hV, by dsimp only; omega⟩, ?_⟩
            refine ⟨fun h5 => ?_, fun h5 => ?_⟩
            · replace h5 : frozenB c s e.other = true := h5
              repeat (first | refine ⟨fun _ => ?_, fun h => Bool.noConfusion h⟩ | refine ⟨fun h => Bool.noConfusion h, fun _ => ?_⟩ | fail)
              refine ⟨12, rfl, ?_⟩
              exact ApS.err (hA.err (by rw [hP]; unfold placeE tsAt csAt nearB; grind) (by decide))
            · replace h5 : frozenB c s e.other = false := h5
              refine ⟨CN1, x, c, _, _, rfl, (by repeat (first | exact trivial | refine ⟨rfl, ?_⟩)), hV, ?_⟩
              refine ⟨fun h6 => ?_, fun h6 => ?_⟩
              · repeat (first | refine ⟨fun _ => ?_, fun h => Bool.noConfusion h⟩ | refine ⟨fun h => Bool.noConfusion h, fun _ => ?_⟩ | fail)
                refine ⟨11, rfl, ?_⟩
                exact ApS.err (hA.err (by rw [hP]; unfold placeE tsAt csAt nearB; grind) (by decide))
              · refine ⟨fun _ => ?_, fun h => absurd h (by simp; omega)⟩
                refine ⟨CN1, x, c, _, _, rfl, (by repeat (first | exact trivial | refine ⟨rfl, ?_⟩)), hV, ?_⟩
                refine ⟨fun h7 => ?_, fun h7 => ?_⟩
                · repeat (first | refine ⟨fun _ => ?_, fun h => Bool.noConfusion h⟩ | refine ⟨fun h => Bool.noConfusion h, fun _ => ?_⟩ | fail)
                  refine ⟨11, rfl, ?_⟩
                  exact ApS.err (hA.err (by rw [hP]; unfold placeE tsAt csAt nearB; grind) (by decide))
                · refine ⟨CN1, x, c, _, _, rfl, (by repeat (first | exact trivial | refine ⟨rfl, ?_⟩)), hV, ?_⟩
                  refine ⟨fun h8 => ?_, fun h8 => ?_⟩
                  · unfold togB at h8
                    repeat (first | refine ⟨fun _ => ?_, fun h => Bool.noConfusion h⟩ | refine ⟨fun h => Bool.noConfusion h, fun _ => ?_⟩ | fail)
                    refine ⟨11, rfl, ?_⟩
                    exact ApS.err (hA.err (by rw [hP]; unfold placeE tsAt csAt nearB; grind) (by decide))
                  · have hi : e.tenant.toNat < s.tenants.length := by omega
                    refine ⟨tsC { (s.tenants.getD e.tenant.toNat default) with placed := true }, (by first | rfl | (show putN _ _ (tsC (List.getD _ _ _)) = _; rw [getD_set hi]; rfl)), ?_⟩
                    rw [setEl_set (by first | exact hi | (rw [List.length_set]; exact hi))]
                    try rw [List.set_set]
                    refine ⟨(by repeat (first | exact trivial | refine ⟨rfl, ?_⟩)), ?_⟩
                    refine ⟨tsC { (s.tenants.getD e.tenant.toNat default) with placed := true, home := e.cell }, (by first | rfl | (show putN _ _ (tsC (List.getD _ _ _)) = _; rw [getD_set hi]; rfl)), ?_⟩
                    rw [setEl_set (by first | exact hi | (rw [List.length_set]; exact hi))]
                    try rw [List.set_set]
                    refine ⟨(by repeat (first | exact trivial | refine ⟨rfl, ?_⟩)), ?_⟩
                    refine ⟨tsC { (s.tenants.getD e.tenant.toNat default) with placed := true, home := e.cell, standby := e.other }, (by first | rfl | (show putN _ _ (tsC (List.getD _ _ _)) = _; rw [getD_set hi]; rfl)), ?_⟩
                    rw [setEl_set (by first | exact hi | (rw [List.length_set]; exact hi))]
                    try rw [List.set_set]
                    unfold togB at h8
                    have hk0 : kindE c s e = 0 := by rw [hP]; unfold placeE tsAt csAt nearB; grind
                    have heff : effOf s e = (⟨e.tick, s.count + 1, s.tenants.set e.tenant.toNat { (s.tenants.getD e.tenant.toNat default) with placed := true, home := e.cell, standby := e.other }, s.cells, s.proven, s.evac, s.low, s.high⟩ : St) := by simp [effOf, stamped, setTen, tenEff, tsAt, hk]
                    refine ⟨CN1, x, c, ⟨15, 14, 0⟩, y2, _, _, (⟨e.tick, s.count + 1, s.tenants.set e.tenant.toNat { (s.tenants.getD e.tenant.toNat default) with placed := true, home := e.cell, standby := e.other }, s.cells, s.proven, s.evac, s.low, s.high⟩ : St), rfl, ⟨(by repeat (first | exact trivial | refine ⟨rfl, ?_⟩)), ⟨(by first | rfl | (simp)), rfl, ⟨_, _, _, rfl, (by first | exact Nat.le_refl _ | (simp)), fun k hk => rfl⟩, .list rfl⟩⟩, ⟨hV, by simp; omega⟩, ?_⟩
                    intro cap
                    refine ⟨fun hov => ?_, fun hov => ?_⟩
                    · exact ApS.err (hA.over hk0 (by unfold fitsB; simp [hk]) (by rw [heff]; exact ov_yes hov))
                    · exact ApS.ok (M := ⟨15, 14, 0⟩) (y := y2) (s := (⟨e.tick, s.count + 1, s.tenants.set e.tenant.toNat { (s.tenants.getD e.tenant.toNat default) with placed := true, home := e.cell, standby := e.other }, s.cells, s.proven, s.evac, s.low, s.high⟩ : St)) (by rw [hA.fine hk0 (fun _ => by rw [heff]; exact ov_no hov), heff]) (by first | rfl | (simp)) rfl ⟨_, _, _, rfl, rfl, (by first | exact Nat.le_refl _ | (simp)), fun k hk => rfl⟩ ⟨_, _, _, rfl, rfl, Nat.le_refl _, fun k hk => rfl⟩
  · refine ⟨⟨Nat.le_refl _, by omega, by omega⟩, ?_⟩
    refine ⟨fun h1 => ?_, fun h1 => ?_⟩
    · repeat (first | refine ⟨fun _ => ?_, fun h => Bool.noConfusion h⟩ | refine ⟨fun h => Bool.noConfusion h, fun _ => ?_⟩ | fail)
      refine ⟨4, rfl, ?_⟩
      exact ApS.err (hA.err (by rw [hP]; unfold placeE tsAt csAt nearB; grind) (by decide))
    · refine ⟨⟨Nat.le_refl _, by omega, by omega⟩, ?_⟩
      refine ⟨fun h2 => ?_, fun h2 => ?_⟩
      · repeat (first | refine ⟨fun _ => ?_, fun h => Bool.noConfusion h⟩ | refine ⟨fun h => Bool.noConfusion h, fun _ => ?_⟩ | fail)
        refine ⟨6, rfl, ?_⟩
        exact ApS.err (hA.err (by rw [hP]; unfold placeE tsAt csAt nearB; grind) (by decide))
      · refine ⟨fun h => absurd h (by simp; omega), fun _ => ?_⟩
        repeat (first | refine ⟨fun _ => ?_, fun h => Bool.noConfusion h⟩ | refine ⟨fun h => Bool.noConfusion h, fun _ => ?_⟩ | fail)
        refine ⟨CN1, x, c, ⟨15, 14, 0⟩, y2, _, _, ⟨e.tick, s.count + 1, s.tenants, s.cells, s.proven, s.evac, s.low, s.high⟩, e.cell, rfl, ⟨(by repeat (first | exact trivial | refine ⟨rfl, ?_⟩)), ⟨rfl, rfl, .list rfl, .list rfl⟩⟩, ⟨hV, by dsimp only; omega⟩, ?_⟩
        refine ⟨fun h4 => ?_, fun h4 => ?_⟩
        · replace h4 : frozenB c s e.cell = true := h4
          repeat (first | refine ⟨fun _ => ?_, fun h => Bool.noConfusion h⟩ | refine ⟨fun h => Bool.noConfusion h, fun _ => ?_⟩ | fail)
          refine ⟨12, rfl, ?_⟩
          exact ApS.err (hA.err (by rw [hP]; unfold placeE tsAt csAt nearB; grind) (by decide))
        · replace h4 : frozenB c s e.cell = false := h4
          refine ⟨fun h => absurd h (by simp; omega), fun _ => ?_⟩
          repeat (first | refine ⟨fun _ => ?_, fun h => Bool.noConfusion h⟩ | refine ⟨fun h => Bool.noConfusion h, fun _ => ?_⟩ | fail)
          refine ⟨CN1, x, c, _, _, rfl, (by repeat (first | exact trivial | refine ⟨rfl, ?_⟩)), hV, ?_⟩
          refine ⟨fun h6 => ?_, fun h6 => ?_⟩
          · repeat (first | refine ⟨fun _ => ?_, fun h => Bool.noConfusion h⟩ | refine ⟨fun h => Bool.noConfusion h, fun _ => ?_⟩ | fail)
            refine ⟨11, rfl, ?_⟩
            exact ApS.err (hA.err (by rw [hP]; unfold placeE tsAt csAt nearB; grind) (by decide))
          · refine ⟨fun h => absurd h (by simp; omega), fun _ => ?_⟩
            repeat (first | refine ⟨fun _ => ?_, fun h => Bool.noConfusion h⟩ | refine ⟨fun h => Bool.noConfusion h, fun _ => ?_⟩ | fail)
            have hi : e.tenant.toNat < s.tenants.length := by omega
            refine ⟨tsC { (s.tenants.getD e.tenant.toNat default) with placed := true }, (by first | rfl | (show putN _ _ (tsC (List.getD _ _ _)) = _; rw [getD_set hi]; rfl)), ?_⟩
            rw [setEl_set (by first | exact hi | (rw [List.length_set]; exact hi))]
            try rw [List.set_set]
            refine ⟨(by repeat (first | exact trivial | refine ⟨rfl, ?_⟩)), ?_⟩
            refine ⟨tsC { (s.tenants.getD e.tenant.toNat default) with placed := true, home := e.cell }, (by first | rfl | (show putN _ _ (tsC (List.getD _ _ _)) = _; rw [getD_set hi]; rfl)), ?_⟩
            rw [setEl_set (by first | exact hi | (rw [List.length_set]; exact hi))]
            try rw [List.set_set]
            refine ⟨(by repeat (first | exact trivial | refine ⟨rfl, ?_⟩)), ?_⟩
            refine ⟨tsC { (s.tenants.getD e.tenant.toNat default) with placed := true, home := e.cell, standby := e.other }, (by first | rfl | (show putN _ _ (tsC (List.getD _ _ _)) = _; rw [getD_set hi]; rfl)), ?_⟩
            rw [setEl_set (by first | exact hi | (rw [List.length_set]; exact hi))]
            try rw [List.set_set]
            have hk0 : kindE c s e = 0 := by rw [hP]; unfold placeE tsAt csAt nearB; grind
            have heff : effOf s e = (⟨e.tick, s.count + 1, s.tenants.set e.tenant.toNat { (s.tenants.getD e.tenant.toNat default) with placed := true, home := e.cell, standby := e.other }, s.cells, s.proven, s.evac, s.low, s.high⟩ : St) := by simp [effOf, stamped, setTen, tenEff, tsAt, hk]
            refine ⟨CN1, x, c, ⟨15, 14, 0⟩, y2, _, _, (⟨e.tick, s.count + 1, s.tenants.set e.tenant.toNat { (s.tenants.getD e.tenant.toNat default) with placed := true, home := e.cell, standby := e.other }, s.cells, s.proven, s.evac, s.low, s.high⟩ : St), rfl, ⟨(by repeat (first | exact trivial | refine ⟨rfl, ?_⟩)), ⟨(by first | rfl | (simp)), rfl, ⟨_, _, _, rfl, (by first | exact Nat.le_refl _ | (simp)), fun k hk => rfl⟩, .list rfl⟩⟩, ⟨hV, by simp; omega⟩, ?_⟩
            intro cap
            refine ⟨fun hov => ?_, fun hov => ?_⟩
            · exact ApS.err (hA.over hk0 (by unfold fitsB; simp [hk]) (by rw [heff]; exact ov_yes hov))
            · exact ApS.ok (M := ⟨15, 14, 0⟩) (y := y2) (s := (⟨e.tick, s.count + 1, s.tenants.set e.tenant.toNat { (s.tenants.getD e.tenant.toNat default) with placed := true, home := e.cell, standby := e.other }, s.cells, s.proven, s.evac, s.low, s.high⟩ : St)) (by rw [hA.fine hk0 (fun _ => by rw [heff]; exact ov_no hov), heff]) (by first | rfl | (simp)) rfl ⟨_, _, _, rfl, rfl, (by first | exact Nat.le_refl _ | (simp)), fun k hk => rfl⟩ ⟨_, _, _, rfl, rfl, Nat.le_refl _, fun k hk => rfl⟩
set_option maxRecDepth 100000 in
set_option maxHeartbeats 4000000 in
theorem apCut (x : CfgK) (c : Cfg) (y : StK) (s : St) (e : Ent) (hA : ArH c s e) (hk : e.kind = 3) : sx ttU arF arD (bodyOf Tryz.f72) (argF 0 [cfgV CN1 x c, stV SN1 y s, entV' e]) (rdM c s noS) 10 (endx ttU Tryz.f72.results.toList fun v mem' _ => ApS mem' v (applyR c s e)) := by
  have hV := hA.cfg
  have hI := hA.inv
  have hE := hA.ent
  have hcn := hA.cnt
  have htk := hA.tick
  have hlt := hI.lt
  have hlc := hI.lc
  have hnt := hV.nt
  have hnc := hV.nc
  have hct := hI.count
  have hst := hI.tick
  have hev := hI.evac
  have hpv := hI.proven
  have htb := hA.tB
  have hP : kindE c s e = cutE s e := by unfold kindE; simp [hk]
  have hf := hE
  simp [entV, entOk, inS, inR, fT, fC, fO, fE, fW, fN, hk] at hf
  refine ⟨CN1, x, c, e, rfl, (by repeat (first | exact trivial | refine ⟨rfl, ?_⟩)), hV, ?_⟩
  refine ⟨fun h => absurd h (by rw [hE]; decide), fun _ => ?_⟩
  refine ⟨fun h => absurd (of_decide_eq_true h) (by omega), fun _ => ?_⟩
  refine ⟨fun h => absurd (of_decide_eq_true h) (by omega), fun _ => ?_⟩
  refine ⟨SN1, y, s, rfl, ⟨.list rfl, .list rfl⟩, ⟨by omega, by omega⟩, ?_⟩
  intro y2
  refine ⟨fun h => absurd h (by rw [hk]; decide), fun _ => ?_⟩
  refine ⟨fun h => absurd h (by rw [hk]; decide), fun _ => ?_⟩
  refine ⟨fun _ => ?_, fun h => absurd h (by rw [hk]; decide)⟩
  rw [wrapi (n := s.count + 1) (by omega)]
  have hi : e.tenant.toNat < s.tenants.length := by omega
  refine ⟨⟨Nat.le_refl _, by omega, by omega⟩, ?_⟩
  refine ⟨fun h1 => ?_, fun h1 => ?_⟩
  · repeat (first | refine ⟨fun _ => ?_, fun h => Bool.noConfusion h⟩ | refine ⟨fun h => Bool.noConfusion h, fun _ => ?_⟩ | fail)
    refine ⟨4, rfl, ?_⟩
    exact ApS.err (hA.err (by rw [hP]; unfold cutE tsAt; grind) (by decide))
  · refine ⟨fun h2 => ?_, fun h2 => ?_⟩
    · repeat (first | refine ⟨fun _ => ?_, fun h => Bool.noConfusion h⟩ | refine ⟨fun h => Bool.noConfusion h, fun _ => ?_⟩ | fail)
      refine ⟨7, rfl, ?_⟩
      exact ApS.err (hA.err (by rw [hP]; unfold cutE tsAt; grind) (by decide))
    · refine ⟨(s.tenants.getD e.tenant.toNat default).win, e.tick, rfl, by omega, ?_⟩
      refine ⟨(by repeat (first | exact trivial | refine ⟨rfl, ?_⟩)), ?_⟩
      refine ⟨tsC { (s.tenants.getD e.tenant.toNat default) with win := cutW (s.tenants.getD e.tenant.toNat default).win e.tick }, (by first | rfl | (show putN _ _ (tsC (List.getD _ _ _)) = _; rw [getD_set hi]; rfl)), ?_⟩
      rw [setEl_set (by first | exact hi | (rw [List.length_set]; exact hi))]
      try rw [List.set_set]
      have hk0 : kindE c s e = 0 := by rw [hP]; unfold cutE tsAt; grind
      have heff : effOf s e = (⟨e.tick, s.count + 1, s.tenants.set e.tenant.toNat { (s.tenants.getD e.tenant.toNat default) with win := cutW (s.tenants.getD e.tenant.toNat default).win e.tick }, s.cells, s.proven, s.evac, s.low, s.high⟩ : St) := by simp [effOf, stamped, setTen, setCel, tenEff, celEff, tsAt, csAt, hk]
      exact ApS.ok (M := ⟨15, 14, 0⟩) (y := y2) (s := (⟨e.tick, s.count + 1, s.tenants.set e.tenant.toNat { (s.tenants.getD e.tenant.toNat default) with win := cutW (s.tenants.getD e.tenant.toNat default).win e.tick }, s.cells, s.proven, s.evac, s.low, s.high⟩ : St)) (by rw [hA.fine hk0 (fun q => absurd q (by unfold fitsB; simp [hk])), heff]) (by first | rfl | (simp)) (by first | rfl | (simp)) ⟨_, _, _, rfl, rfl, (by first | exact Nat.le_refl _ | (simp)), fun k hk => rfl⟩ ⟨_, _, _, rfl, rfl, (by first | exact Nat.le_refl _ | (simp)), fun k hk => rfl⟩
set_option maxRecDepth 100000 in
set_option maxHeartbeats 4000000 in
theorem apReady (x : CfgK) (c : Cfg) (y : StK) (s : St) (e : Ent) (hA : ArH c s e) (hk : e.kind = 5) : sx ttU arF arD (bodyOf Tryz.f72) (argF 0 [cfgV CN1 x c, stV SN1 y s, entV' e]) (rdM c s noS) 10 (endx ttU Tryz.f72.results.toList fun v mem' _ => ApS mem' v (applyR c s e)) := by
  have hV := hA.cfg
  have hI := hA.inv
  have hE := hA.ent
  have hcn := hA.cnt
  have htk := hA.tick
  have hlt := hI.lt
  have hlc := hI.lc
  have hnt := hV.nt
  have hnc := hV.nc
  have hct := hI.count
  have hst := hI.tick
  have hev := hI.evac
  have hpv := hI.proven
  have htb := hA.tB
  have hP : kindE c s e = readyE s e := by unfold kindE; simp [hk]
  have hf := hE
  simp [entV, entOk, inS, inR, fT, fC, fO, fE, fW, fN, hk] at hf
  refine ⟨CN1, x, c, e, rfl, (by repeat (first | exact trivial | refine ⟨rfl, ?_⟩)), hV, ?_⟩
  refine ⟨fun h => absurd h (by rw [hE]; decide), fun _ => ?_⟩
  refine ⟨fun h => absurd (of_decide_eq_true h) (by omega), fun _ => ?_⟩
  refine ⟨fun h => absurd (of_decide_eq_true h) (by omega), fun _ => ?_⟩
  refine ⟨SN1, y, s, rfl, ⟨.list rfl, .list rfl⟩, ⟨by omega, by omega⟩, ?_⟩
  intro y2
  refine ⟨fun h => absurd h (by rw [hk]; decide), fun _ => ?_⟩
  refine ⟨fun h => absurd h (by rw [hk]; decide), fun _ => ?_⟩
  refine ⟨fun h => absurd h (by rw [hk]; decide), fun _ => ?_⟩
  refine ⟨fun h => absurd h (by rw [hk]; decide), fun _ => ?_⟩
  refine ⟨fun _ => ?_, fun h => absurd h (by rw [hk]; decide)⟩
  rw [wrapi (n := s.count + 1) (by omega)]
  have hi : e.tenant.toNat < s.tenants.length := by omega
  refine ⟨⟨Nat.le_refl _, by omega, by omega⟩, ?_⟩
  refine ⟨fun h1 => ?_, fun h1 => ?_⟩
  · repeat (first | refine ⟨fun _ => ?_, fun h => Bool.noConfusion h⟩ | refine ⟨fun h => Bool.noConfusion h, fun _ => ?_⟩ | fail)
    refine ⟨4, rfl, ?_⟩
    exact ApS.err (hA.err (by rw [hP]; unfold readyE tsAt csAt; grind) (by decide))
  · refine ⟨fun h2 => ?_, fun h2 => ?_⟩
    · repeat (first | refine ⟨fun _ => ?_, fun h => Bool.noConfusion h⟩ | refine ⟨fun h => Bool.noConfusion h, fun _ => ?_⟩ | fail)
      refine ⟨5, rfl, ?_⟩
      exact ApS.err (hA.err (by rw [hP]; unfold readyE tsAt csAt; grind) (by decide))
    · refine ⟨⟨Nat.le_refl _, by omega, by omega⟩, ?_⟩
      refine ⟨fun h3 => ?_, fun h3 => ?_⟩
      · repeat (first | refine ⟨fun _ => ?_, fun h => Bool.noConfusion h⟩ | refine ⟨fun h => Bool.noConfusion h, fun _ => ?_⟩ | fail)
        refine ⟨6, rfl, ?_⟩
        exact ApS.err (hA.err (by rw [hP]; unfold readyE tsAt csAt; grind) (by decide))
      · refine ⟨tsC { (s.tenants.getD e.tenant.toNat default) with standby := e.cell }, (by first | rfl | (show putN _ _ (tsC (List.getD _ _ _)) = _; rw [getD_set hi]; rfl)), ?_⟩
        rw [setEl_set (by first | exact hi | (rw [List.length_set]; exact hi))]
        try rw [List.set_set]
        refine ⟨tsC { (s.tenants.getD e.tenant.toNat default) with standby := e.cell, next := -1 }, (by first | rfl | (show putN _ _ (tsC (List.getD _ _ _)) = _; rw [getD_set hi]; rfl)), ?_⟩
        rw [setEl_set (by first | exact hi | (rw [List.length_set]; exact hi))]
        try rw [List.set_set]
        have hk0 : kindE c s e = 0 := by rw [hP]; unfold readyE tsAt csAt; grind
        have heff : effOf s e = (⟨e.tick, s.count + 1, s.tenants.set e.tenant.toNat { (s.tenants.getD e.tenant.toNat default) with standby := e.cell, next := -1 }, s.cells, s.proven, s.evac, s.low, s.high⟩ : St) := by simp [effOf, stamped, setTen, setCel, tenEff, celEff, tsAt, csAt, hk]
        exact ApS.ok (M := ⟨15, 14, 0⟩) (y := y2) (s := (⟨e.tick, s.count + 1, s.tenants.set e.tenant.toNat { (s.tenants.getD e.tenant.toNat default) with standby := e.cell, next := -1 }, s.cells, s.proven, s.evac, s.low, s.high⟩ : St)) (by rw [hA.fine hk0 (fun q => absurd q (by unfold fitsB; simp [hk])), heff]) (by first | rfl | (simp)) (by first | rfl | (simp)) ⟨_, _, _, rfl, rfl, (by first | exact Nat.le_refl _ | (simp)), fun k hk => rfl⟩ ⟨_, _, _, rfl, rfl, (by first | exact Nat.le_refl _ | (simp)), fun k hk => rfl⟩
set_option maxRecDepth 100000 in
set_option maxHeartbeats 4000000 in
theorem apAbandon (x : CfgK) (c : Cfg) (y : StK) (s : St) (e : Ent) (hA : ArH c s e) (hk : e.kind = 7) : sx ttU arF arD (bodyOf Tryz.f72) (argF 0 [cfgV CN1 x c, stV SN1 y s, entV' e]) (rdM c s noS) 10 (endx ttU Tryz.f72.results.toList fun v mem' _ => ApS mem' v (applyR c s e)) := by
  have hV := hA.cfg
  have hI := hA.inv
  have hE := hA.ent
  have hcn := hA.cnt
  have htk := hA.tick
  have hlt := hI.lt
  have hlc := hI.lc
  have hnt := hV.nt
  have hnc := hV.nc
  have hct := hI.count
  have hst := hI.tick
  have hev := hI.evac
  have hpv := hI.proven
  have htb := hA.tB
  have hP : kindE c s e = abandonE s e := by unfold kindE; simp [hk]
  have hf := hE
  simp [entV, entOk, inS, inR, fT, fC, fO, fE, fW, fN, hk] at hf
  refine ⟨CN1, x, c, e, rfl, (by repeat (first | exact trivial | refine ⟨rfl, ?_⟩)), hV, ?_⟩
  refine ⟨fun h => absurd h (by rw [hE]; decide), fun _ => ?_⟩
  refine ⟨fun h => absurd (of_decide_eq_true h) (by omega), fun _ => ?_⟩
  refine ⟨fun h => absurd (of_decide_eq_true h) (by omega), fun _ => ?_⟩
  refine ⟨SN1, y, s, rfl, ⟨.list rfl, .list rfl⟩, ⟨by omega, by omega⟩, ?_⟩
  intro y2
  refine ⟨fun h => absurd h (by rw [hk]; decide), fun _ => ?_⟩
  refine ⟨fun h => absurd h (by rw [hk]; decide), fun _ => ?_⟩
  refine ⟨fun h => absurd h (by rw [hk]; decide), fun _ => ?_⟩
  refine ⟨fun h => absurd h (by rw [hk]; decide), fun _ => ?_⟩
  refine ⟨fun h => absurd h (by rw [hk]; decide), fun _ => ?_⟩
  refine ⟨fun h => absurd h (by rw [hk]; decide), fun _ => ?_⟩
  refine ⟨fun _ => ?_, fun h => absurd h (by rw [hk]; decide)⟩
  rw [wrapi (n := s.count + 1) (by omega)]
  have hTi := hI.ten _ (List.mem_of_getElem? (getD_get (d := default) (show e.tenant.toNat < s.tenants.length by omega)))
  obtain ⟨hT1, hT2, hT3, hT4, hT5, hT6, hT7, hT8, hT9, hT10, hT11, hT12⟩ := hTi
  have hi : e.tenant.toNat < s.tenants.length := by omega
  refine ⟨⟨Nat.le_refl _, by omega, by omega⟩, ?_⟩
  refine ⟨Bool, fun b => [(23, .bool b)], fun _ => [], fun b => (b = true ↔ ((s.tenants.getD e.tenant.toNat default).placed = false ∨ (s.tenants.getD e.tenant.toNat default).target < 0)), ?_, ?_⟩
  · repeat' (first | refine ⟨fun _ => ?_, fun h => Bool.noConfusion h⟩ | refine ⟨fun h => Bool.noConfusion h, fun _ => ?_⟩ | refine ⟨fun _ => ?_, fun _ => ?_⟩ | refine ⟨⟨Nat.le_refl _, by omega, by omega⟩, ?_⟩ | fail)
    all_goals (refine ⟨_, ?_, (by repeat (first | exact trivial | refine ⟨rfl, ?_⟩)), (by repeat (first | exact trivial | refine ⟨rfl, ?_⟩))⟩; dsimp only; grind)
  · rintro b1 hb1
    refine ⟨⟨by decide, rfl, rfl⟩, ?_⟩
    refine ⟨fun h1 => ?_, fun h1 => ?_⟩
    · repeat (first | refine ⟨fun _ => ?_, fun h => Bool.noConfusion h⟩ | refine ⟨fun h => Bool.noConfusion h, fun _ => ?_⟩ | fail)
      refine ⟨4, rfl, ?_⟩
      exact ApS.err (hA.err (by rw [hP]; unfold abandonE tsAt; grind) (by decide))
    · refine ⟨tsC { (s.tenants.getD e.tenant.toNat default) with target := -1 }, (by first | rfl | (show putN _ _ (tsC (List.getD _ _ _)) = _; rw [getD_set hi]; rfl)), ?_⟩
      rw [setEl_set (by first | exact hi | (rw [List.length_set]; exact hi))]
      try rw [List.set_set]
      have hk0 : kindE c s e = 0 := by rw [hP]; unfold abandonE tsAt; grind
      have heff : effOf s e = (⟨e.tick, s.count + 1, s.tenants.set e.tenant.toNat { (s.tenants.getD e.tenant.toNat default) with target := -1 }, s.cells, s.proven, s.evac, s.low, s.high⟩ : St) := by simp [effOf, stamped, setTen, setCel, tenEff, celEff, tsAt, csAt, hk]
      exact ApS.ok (M := ⟨15, 14, 0⟩) (y := y2) (s := (⟨e.tick, s.count + 1, s.tenants.set e.tenant.toNat { (s.tenants.getD e.tenant.toNat default) with target := -1 }, s.cells, s.proven, s.evac, s.low, s.high⟩ : St)) (by rw [hA.fine hk0 (fun q => absurd q (by unfold fitsB; simp [hk])), heff]) (by first | rfl | (simp)) (by first | rfl | (simp)) ⟨_, _, _, rfl, rfl, (by first | exact Nat.le_refl _ | (simp)), fun k hk => rfl⟩ ⟨_, _, _, rfl, rfl, (by first | exact Nat.le_refl _ | (simp)), fun k hk => rfl⟩
end Go.Proofs.YtnnpgbleacapfaaGreat

namespace Go.Proofs.YtnnpgbleacapfaaGreat
open Go.RowKit
set_option linter.unusedSimpArgs false
set_option linter.unusedVariables false

set_option maxRecDepth 100000 in
set_option maxHeartbeats 4000000 in
theorem apGrant (x : CfgK) (c : Cfg) (y : StK) (s : St) (e : Ent) (hA : ArH c s e) (hk : e.kind = 2) : sx ttU arF arD (bodyOf Tryz.f72) (argF 0 [cfgV CN1 x c, stV SN1 y s, entV' e]) (rdM c s noS) 10 (endx ttU Tryz.f72.results.toList fun v mem' _ => ApS mem' v (applyR c s e)) := by
  have hV := hA.cfg
  have hI := hA.inv
  have hE := hA.ent
  have hcn := hA.cnt
  have htk := hA.tick
  have hlt := hI.lt
  have hlc := hI.lc
  have hnt := hV.nt
  have hnc := hV.nc
  have hct := hI.count
  have hst := hI.tick
  have hev := hI.evac
  have hpv := hI.proven
  have htb := hA.tB
  have hP : kindE c s e = grantE c s e := by unfold kindE; simp [hk]
  have hf := hE
  simp [entV, entOk, inS, inR, fT, fC, fO, fE, fW, fN, hk] at hf
  refine ⟨CN1, x, c, e, rfl, (by repeat (first | exact trivial | refine ⟨rfl, ?_⟩)), hV, ?_⟩
  refine ⟨fun h => absurd h (by rw [hE]; decide), fun _ => ?_⟩
  refine ⟨fun h => absurd (of_decide_eq_true h) (by omega), fun _ => ?_⟩
  refine ⟨fun h => absurd (of_decide_eq_true h) (by omega), fun _ => ?_⟩
  refine ⟨SN1, y, s, rfl, ⟨.list rfl, .list rfl⟩, ⟨by omega, by omega⟩, ?_⟩
  intro y2
  refine ⟨fun h => absurd h (by rw [hk]; decide), fun _ => ?_⟩
  refine ⟨fun _ => ?_, fun h => absurd h (by rw [hk]; decide)⟩
  rw [wrapi (n := s.count + 1) (by omega)]
  have hTi := hI.ten _ (List.mem_of_getElem? (getD_get (d := default) (show e.tenant.toNat < s.tenants.length by omega)))
  obtain ⟨hT1, hT2, hT3, hT4, hT5, hT6, hT7, hT8, hT9, hT10, hT11, hT12⟩ := hTi
  have hi : e.tenant.toNat < s.tenants.length := by omega
  refine ⟨⟨Nat.le_refl _, by omega, by omega⟩, ?_⟩
  refine ⟨Bool, fun b => [(15, .bool b)], fun _ => [], fun b => (b = true ↔ ((s.tenants.getD e.tenant.toNat default).placed = false ∨ ((s.tenants.getD e.tenant.toNat default).shed = true ∧ e.cell ≠ (s.tenants.getD e.tenant.toNat default).standby))), ?_, ?_⟩
  · repeat' (first | refine ⟨fun _ => ?_, fun h => Bool.noConfusion h⟩ | refine ⟨fun h => Bool.noConfusion h, fun _ => ?_⟩ | refine ⟨fun _ => ?_, fun _ => ?_⟩ | refine ⟨⟨Nat.le_refl _, by omega, by omega⟩, ?_⟩ | fail)
    all_goals (refine ⟨_, ?_, (by repeat (first | exact trivial | refine ⟨rfl, ?_⟩)), (by repeat (first | exact trivial | refine ⟨rfl, ?_⟩))⟩; dsimp only; grind)
  · rintro b1 hb1
    refine ⟨⟨by decide, rfl, rfl⟩, ?_⟩
    refine ⟨fun h1 => ?_, fun h1 => ?_⟩
    · refine ⟨4, rfl, ?_⟩
      exact ApS.err (hA.err (by rw [hP, grantE_eq]; unfold tsAt; grind) (by decide))
    · refine ⟨Bool, fun b => [(39, .bool b)], fun _ => [], fun b => (b = true ↔ (e.cell ≠ (s.tenants.getD e.tenant.toNat default).home ∧ e.cell ≠ (s.tenants.getD e.tenant.toNat default).standby ∧ e.cell ≠ (s.tenants.getD e.tenant.toNat default).target)), ?_, ?_⟩
      · repeat' (first | refine ⟨fun _ => ?_, fun h => Bool.noConfusion h⟩ | refine ⟨fun h => Bool.noConfusion h, fun _ => ?_⟩ | refine ⟨fun _ => ?_, fun _ => ?_⟩ | refine ⟨⟨Nat.le_refl _, by omega, by omega⟩, ?_⟩ | fail)
        all_goals (refine ⟨_, ?_, (by repeat (first | exact trivial | refine ⟨rfl, ?_⟩)), (by repeat (first | exact trivial | refine ⟨rfl, ?_⟩))⟩; dsimp only; grind)
      · rintro b2 hb2
        refine ⟨⟨by decide, rfl, rfl⟩, ?_⟩
        refine ⟨fun h2 => ?_, fun h2 => ?_⟩
        · refine ⟨5, rfl, ?_⟩
          exact ApS.err (hA.err (by rw [hP, grantE_eq]; unfold tsAt; grind) (by decide))
        · refine ⟨CN1, x, c, ⟨15, 14, 0⟩, y2, _, _, ⟨e.tick, s.count + 1, s.tenants, s.cells, s.proven, s.evac, s.low, s.high⟩, e, rfl, ⟨(by repeat (first | exact trivial | refine ⟨rfl, ?_⟩)), ⟨rfl, rfl, .list rfl, .list rfl⟩⟩, ⟨hV, by dsimp only; omega, by dsimp only; omega, by omega, by omega, by omega, ?_⟩, ?_⟩
          · show 0 ≤ (s.tenants.getD e.tenant.toNat default).epoch ∧ (s.tenants.getD e.tenant.toNat default).epoch ≤ 1048576
            exact hT5
          · have hgr : grantedE c ⟨e.tick, s.count + 1, s.tenants, s.cells, s.proven, s.evac, s.low, s.high⟩ e = grantedE c s e := rfl
            rw [hgr]
            refine ⟨fun h3 => ?_, fun h3 => ?_⟩
            · have h3b : grantedE c s e ≠ 0 := by simpa using h3
              refine ⟨_, rfl, ?_⟩
              exact ApS.err (hA.err (by rw [hP, grantE_eq]; unfold tsAt; grind) h3b)
            · have h3b : grantedE c s e = 0 := by simpa using h3
              refine ⟨tsC { (s.tenants.getD e.tenant.toNat default) with win := ⟨e.cell, e.epoch, e.n, e.since, e.till⟩ }, (by first | rfl | (show putN _ _ (tsC (List.getD _ _ _)) = _; rw [getD_set hi]; rfl)), ?_⟩
              rw [setEl_set (by first | exact hi | (rw [List.length_set]; exact hi))]
              try rw [List.set_set]
              refine ⟨tsC { (s.tenants.getD e.tenant.toNat default) with win := ⟨e.cell, e.epoch, e.n, e.since, e.till⟩, epoch := e.epoch }, (by first | rfl | (show putN _ _ (tsC (List.getD _ _ _)) = _; rw [getD_set hi]; rfl)), ?_⟩
              rw [setEl_set (by first | exact hi | (rw [List.length_set]; exact hi))]
              try rw [List.set_set]
              have hgd : (s.tenants.set e.tenant.toNat { (s.tenants.getD e.tenant.toNat default) with win := ⟨e.cell, e.epoch, e.n, e.since, e.till⟩, epoch := e.epoch }).getD e.tenant.toNat default = { (s.tenants.getD e.tenant.toNat default) with win := ⟨e.cell, e.epoch, e.n, e.since, e.till⟩, epoch := e.epoch } := getD_set hi
              refine ⟨fun q1 => ?_, fun q1 => ?_⟩
              · rw [hgd] at q1
                have q2 : e.cell = (s.tenants.getD e.tenant.toNat default).home := by simpa using q1
                have hk0 : kindE c s e = 0 := by rw [hP, grantE_eq]; unfold tsAt; grind
                have heff : effOf s e = (⟨e.tick, s.count + 1, s.tenants.set e.tenant.toNat { (s.tenants.getD e.tenant.toNat default) with win := ⟨e.cell, e.epoch, e.n, e.since, e.till⟩, epoch := e.epoch }, s.cells, s.proven, s.evac, s.low, s.high⟩ : St) := by
                  unfold effOf stamped setTen tenEff grantT tsAt
                  simp only [hk]
                  grind
                refine ⟨CN1, x, c, ⟨15, 14, 0⟩, y2, _, _, (⟨e.tick, s.count + 1, s.tenants.set e.tenant.toNat { (s.tenants.getD e.tenant.toNat default) with win := ⟨e.cell, e.epoch, e.n, e.since, e.till⟩, epoch := e.epoch }, s.cells, s.proven, s.evac, s.low, s.high⟩ : St), rfl, ⟨(by repeat (first | exact trivial | refine ⟨rfl, ?_⟩)), ⟨(by first | rfl | (simp)), rfl, ⟨_, _, _, rfl, (by first | exact Nat.le_refl _ | (simp)), fun k hk => rfl⟩, .list rfl⟩⟩, ⟨hV, by simp; omega⟩, ?_⟩
                intro cap
                refine ⟨fun hov => ?_, fun hov => ?_⟩
                · exact ApS.err (hA.over hk0 (by unfold fitsB; simp [hk]) (by rw [heff]; exact ov_yes hov))
                · exact ApS.ok (M := ⟨15, 14, 0⟩) (y := y2) (s := (⟨e.tick, s.count + 1, s.tenants.set e.tenant.toNat { (s.tenants.getD e.tenant.toNat default) with win := ⟨e.cell, e.epoch, e.n, e.since, e.till⟩, epoch := e.epoch }, s.cells, s.proven, s.evac, s.low, s.high⟩ : St)) (by rw [hA.fine hk0 (fun _ => by rw [heff]; exact ov_no hov), heff]) (by first | rfl | (simp)) rfl ⟨_, _, _, rfl, rfl, (by first | exact Nat.le_refl _ | (simp)), fun k hk => rfl⟩ ⟨_, _, _, rfl, rfl, Nat.le_refl _, fun k hk => rfl⟩
              · rw [hgd] at q1
                have q2 : ¬ e.cell = (s.tenants.getD e.tenant.toNat default).home := by simpa using q1
                refine ⟨fun q3 => ?_, fun q3 => ?_⟩
                · rw [hgd] at q3
                  refine ⟨tsC { (s.tenants.getD e.tenant.toNat default) with win := ⟨e.cell, e.epoch, e.n, e.since, e.till⟩, epoch := e.epoch, home := e.cell }, (by first | rfl | (show putN _ _ (tsC (List.getD _ _ _)) = _; rw [getD_set hi]; rfl)), ?_⟩
                  rw [setEl_set (by first | exact hi | (rw [List.length_set]; exact hi))]
                  try rw [List.set_set]
                  refine ⟨tsC { (s.tenants.getD e.tenant.toNat default) with win := ⟨e.cell, e.epoch, e.n, e.since, e.till⟩, epoch := e.epoch, home := e.cell, standby := -1 }, (by first | rfl | (show putN _ _ (tsC (List.getD _ _ _)) = _; rw [getD_set hi]; rfl)), ?_⟩
                  rw [setEl_set (by first | exact hi | (rw [List.length_set]; exact hi))]
                  try rw [List.set_set]
                  refine ⟨tsC { (s.tenants.getD e.tenant.toNat default) with win := ⟨e.cell, e.epoch, e.n, e.since, e.till⟩, epoch := e.epoch, home := e.cell, standby := -1, next := -1 }, (by first | rfl | (show putN _ _ (tsC (List.getD _ _ _)) = _; rw [getD_set hi]; rfl)), ?_⟩
                  rw [setEl_set (by first | exact hi | (rw [List.length_set]; exact hi))]
                  try rw [List.set_set]
                  refine ⟨tsC { (s.tenants.getD e.tenant.toNat default) with win := ⟨e.cell, e.epoch, e.n, e.since, e.till⟩, epoch := e.epoch, home := e.cell, standby := -1, next := -1, target := -1 }, (by first | rfl | (show putN _ _ (tsC (List.getD _ _ _)) = _; rw [getD_set hi]; rfl)), ?_⟩
                  rw [setEl_set (by first | exact hi | (rw [List.length_set]; exact hi))]
                  try rw [List.set_set]
                  refine ⟨tsC { (s.tenants.getD e.tenant.toNat default) with win := ⟨e.cell, e.epoch, e.n, e.since, e.till⟩, epoch := e.epoch, home := e.cell, standby := -1, next := -1, target := -1, shed := false }, (by first | rfl | (show putN _ _ (tsC (List.getD _ _ _)) = _; rw [getD_set hi]; rfl)), ?_⟩
                  rw [setEl_set (by first | exact hi | (rw [List.length_set]; exact hi))]
                  try rw [List.set_set]
                  have q4 : e.cell = (s.tenants.getD e.tenant.toNat default).standby := by simpa using q3
                  have hk0 : kindE c s e = 0 := by rw [hP, grantE_eq]; unfold tsAt; grind
                  have heff : effOf s e = (⟨e.tick, s.count + 1, s.tenants.set e.tenant.toNat { (s.tenants.getD e.tenant.toNat default) with win := ⟨e.cell, e.epoch, e.n, e.since, e.till⟩, epoch := e.epoch, home := e.cell, standby := -1, next := -1, target := -1, shed := false }, s.cells, s.proven, s.evac, s.low, s.high⟩ : St) := by
                    unfold effOf stamped setTen tenEff grantT tsAt
                    simp only [hk]
                    grind
                  refine ⟨CN1, x, c, ⟨15, 14, 0⟩, y2, _, _, (⟨e.tick, s.count + 1, s.tenants.set e.tenant.toNat { (s.tenants.getD e.tenant.toNat default) with win := ⟨e.cell, e.epoch, e.n, e.since, e.till⟩, epoch := e.epoch, home := e.cell, standby := -1, next := -1, target := -1, shed := false }, s.cells, s.proven, s.evac, s.low, s.high⟩ : St), rfl, ⟨(by repeat (first | exact trivial | refine ⟨rfl, ?_⟩)), ⟨(by first | rfl | (simp)), rfl, ⟨_, _, _, rfl, (by first | exact Nat.le_refl _ | (simp)), fun k hk => rfl⟩, .list rfl⟩⟩, ⟨hV, by simp; omega⟩, ?_⟩
                  intro cap
                  refine ⟨fun hov => ?_, fun hov => ?_⟩
                  · exact ApS.err (hA.over hk0 (by unfold fitsB; simp [hk]) (by rw [heff]; exact ov_yes hov))
                  · exact ApS.ok (M := ⟨15, 14, 0⟩) (y := y2) (s := (⟨e.tick, s.count + 1, s.tenants.set e.tenant.toNat { (s.tenants.getD e.tenant.toNat default) with win := ⟨e.cell, e.epoch, e.n, e.since, e.till⟩, epoch := e.epoch, home := e.cell, standby := -1, next := -1, target := -1, shed := false }, s.cells, s.proven, s.evac, s.low, s.high⟩ : St)) (by rw [hA.fine hk0 (fun _ => by rw [heff]; exact ov_no hov), heff]) (by first | rfl | (simp)) rfl ⟨_, _, _, rfl, rfl, (by first | exact Nat.le_refl _ | (simp)), fun k hk => rfl⟩ ⟨_, _, _, rfl, rfl, Nat.le_refl _, fun k hk => rfl⟩
                · rw [hgd] at q3
                  refine ⟨tsC { (s.tenants.getD e.tenant.toNat default) with win := ⟨e.cell, e.epoch, e.n, e.since, e.till⟩, epoch := e.epoch, home := e.cell }, (by first | rfl | (show putN _ _ (tsC (List.getD _ _ _)) = _; rw [getD_set hi]; rfl)), ?_⟩
                  rw [setEl_set (by first | exact hi | (rw [List.length_set]; exact hi))]
                  try rw [List.set_set]
                  refine ⟨tsC { (s.tenants.getD e.tenant.toNat default) with win := ⟨e.cell, e.epoch, e.n, e.since, e.till⟩, epoch := e.epoch, home := e.cell, target := -1 }, (by first | rfl | (show putN _ _ (tsC (List.getD _ _ _)) = _; rw [getD_set hi]; rfl)), ?_⟩
                  rw [setEl_set (by first | exact hi | (rw [List.length_set]; exact hi))]
                  try rw [List.set_set]
                  have q4 : ¬ e.cell = (s.tenants.getD e.tenant.toNat default).standby := by simpa using q3
                  have hk0 : kindE c s e = 0 := by rw [hP, grantE_eq]; unfold tsAt; grind
                  have heff : effOf s e = (⟨e.tick, s.count + 1, s.tenants.set e.tenant.toNat { (s.tenants.getD e.tenant.toNat default) with win := ⟨e.cell, e.epoch, e.n, e.since, e.till⟩, epoch := e.epoch, home := e.cell, target := -1 }, s.cells, s.proven, s.evac, s.low, s.high⟩ : St) := by
                    unfold effOf stamped setTen tenEff grantT tsAt
                    simp only [hk]
                    grind
                  refine ⟨CN1, x, c, ⟨15, 14, 0⟩, y2, _, _, (⟨e.tick, s.count + 1, s.tenants.set e.tenant.toNat { (s.tenants.getD e.tenant.toNat default) with win := ⟨e.cell, e.epoch, e.n, e.since, e.till⟩, epoch := e.epoch, home := e.cell, target := -1 }, s.cells, s.proven, s.evac, s.low, s.high⟩ : St), rfl, ⟨(by repeat (first | exact trivial | refine ⟨rfl, ?_⟩)), ⟨(by first | rfl | (simp)), rfl, ⟨_, _, _, rfl, (by first | exact Nat.le_refl _ | (simp)), fun k hk => rfl⟩, .list rfl⟩⟩, ⟨hV, by simp; omega⟩, ?_⟩
                  intro cap
                  refine ⟨fun hov => ?_, fun hov => ?_⟩
                  · exact ApS.err (hA.over hk0 (by unfold fitsB; simp [hk]) (by rw [heff]; exact ov_yes hov))
                  · exact ApS.ok (M := ⟨15, 14, 0⟩) (y := y2) (s := (⟨e.tick, s.count + 1, s.tenants.set e.tenant.toNat { (s.tenants.getD e.tenant.toNat default) with win := ⟨e.cell, e.epoch, e.n, e.since, e.till⟩, epoch := e.epoch, home := e.cell, target := -1 }, s.cells, s.proven, s.evac, s.low, s.high⟩ : St)) (by rw [hA.fine hk0 (fun _ => by rw [heff]; exact ov_no hov), heff]) (by first | rfl | (simp)) rfl ⟨_, _, _, rfl, rfl, (by first | exact Nat.le_refl _ | (simp)), fun k hk => rfl⟩ ⟨_, _, _, rfl, rfl, Nat.le_refl _, fun k hk => rfl⟩
end Go.Proofs.YtnnpgbleacapfaaGreat

namespace Go.Proofs.YtnnpgbleacapfaaGreat
open Go.RowKit
set_option linter.unusedSimpArgs false
set_option linter.unusedVariables false

set_option maxRecDepth 100000 in
set_option maxHeartbeats 4000000 in
theorem apStandby (x : CfgK) (c : Cfg) (y : StK) (s : St) (e : Ent) (hA : ArH c s e) (hk : e.kind = 4) : sx ttU arF arD (bodyOf Tryz.f72) (argF 0 [cfgV CN1 x c, stV SN1 y s, entV' e]) (rdM c s noS) 10 (endx ttU Tryz.f72.results.toList fun v mem' _ => ApS mem' v (applyR c s e)) := by
  have hV := hA.cfg
  have hI := hA.inv
  have hE := hA.ent
  have hcn := hA.cnt
  have htk := hA.tick
  have hlt := hI.lt
  have hlc := hI.lc
  have hnt := hV.nt
  have hnc := hV.nc
  have hct := hI.count
  have hst := hI.tick
  have hev := hI.evac
  have hpv := hI.proven
  have htb := hA.tB
  have hP : kindE c s e = standbyE c s e := by unfold kindE; simp [hk]
  have hf := hE
  simp [entV, entOk, inS, inR, fT, fC, fO, fE, fW, fN, hk] at hf
  refine ⟨CN1, x, c, e, rfl, (by repeat (first | exact trivial | refine ⟨rfl, ?_⟩)), hV, ?_⟩
  refine ⟨fun h => absurd h (by rw [hE]; decide), fun _ => ?_⟩
  refine ⟨fun h => absurd (of_decide_eq_true h) (by omega), fun _ => ?_⟩
  refine ⟨fun h => absurd (of_decide_eq_true h) (by omega), fun _ => ?_⟩
  refine ⟨SN1, y, s, rfl, ⟨.list rfl, .list rfl⟩, ⟨by omega, by omega⟩, ?_⟩
  intro y2
  refine ⟨fun h => absurd h (by rw [hk]; decide), fun _ => ?_⟩
  refine ⟨fun h => absurd h (by rw [hk]; decide), fun _ => ?_⟩
  refine ⟨fun h => absurd h (by rw [hk]; decide), fun _ => ?_⟩
  refine ⟨fun _ => ?_, fun h => absurd h (by rw [hk]; decide)⟩
  rw [wrapi (n := s.count + 1) (by omega)]
  have hTi := hI.ten _ (List.mem_of_getElem? (getD_get (d := default) (show e.tenant.toNat < s.tenants.length by omega)))
  obtain ⟨hT1, hT2, hT3, hT4, hT5, hT6, hT7, hT8, hT9, hT10, hT11, hT12⟩ := hTi
  have hi : e.tenant.toNat < s.tenants.length := by omega
  refine ⟨⟨Nat.le_refl _, by omega, by omega⟩, ?_⟩
  refine ⟨Unit, fun _ => [], fun _ => [], fun _ => kindE c s e = 0, ?_, ?_⟩
  · refine ⟨fun h1 => ?_, fun h1 => ?_⟩
    · repeat (first | refine ⟨fun _ => ?_, fun h => Bool.noConfusion h⟩ | refine ⟨fun h => Bool.noConfusion h, fun _ => ?_⟩ | fail)
      refine ⟨4, rfl, ?_⟩
      exact ApS.err (hA.err (by rw [hP]; unfold standbyE tsAt csAt nearB; grind) (by decide))
    · refine ⟨fun h0 => ?_, fun h0 => ?_⟩
      · refine ⟨(), ?_, (by repeat (first | exact trivial | refine ⟨rfl, ?_⟩)), (by repeat (first | exact trivial | refine ⟨rfl, ?_⟩))⟩
        rw [hP]; unfold standbyE tsAt csAt nearB; grind
      · have h0b : 0 ≤ e.cell := by have := of_decide_eq_false h0; omega
        refine ⟨Bool, fun b => [(27, .bool b)], fun _ => [], fun b => (b = true ↔ (e.cell = (s.tenants.getD e.tenant.toNat default).home ∨ e.cell = (s.tenants.getD e.tenant.toNat default).standby ∨ e.cell = (s.tenants.getD e.tenant.toNat default).target)), ?_, ?_⟩
        · repeat' (first | refine ⟨fun _ => ?_, fun h => Bool.noConfusion h⟩ | refine ⟨fun h => Bool.noConfusion h, fun _ => ?_⟩ | refine ⟨fun _ => ?_, fun _ => ?_⟩ | refine ⟨⟨Nat.le_refl _, by omega, by omega⟩, ?_⟩ | fail)
          all_goals (refine ⟨_, ?_, (by repeat (first | exact trivial | refine ⟨rfl, ?_⟩)), (by repeat (first | exact trivial | refine ⟨rfl, ?_⟩))⟩; dsimp only; grind)
        · rintro b1 hb1
          refine ⟨⟨by decide, rfl, rfl⟩, ?_⟩
          refine ⟨fun h2 => ?_, fun h2 => ?_⟩
          · repeat (first | refine ⟨fun _ => ?_, fun h => Bool.noConfusion h⟩ | refine ⟨fun h => Bool.noConfusion h, fun _ => ?_⟩ | fail)
            refine ⟨5, rfl, ?_⟩
            exact ApS.err (hA.err (by rw [hP]; unfold standbyE tsAt csAt nearB; grind) (by decide))
          · refine ⟨⟨Nat.le_refl _, by omega, by omega⟩, ?_⟩
            refine ⟨fun h3 => ?_, fun h3 => ?_⟩
            · repeat (first | refine ⟨fun _ => ?_, fun h => Bool.noConfusion h⟩ | refine ⟨fun h => Bool.noConfusion h, fun _ => ?_⟩ | fail)
              refine ⟨6, rfl, ?_⟩
              exact ApS.err (hA.err (by rw [hP]; unfold standbyE tsAt csAt nearB; grind) (by decide))
            · refine ⟨CN1, x, c, ⟨15, 14, 0⟩, y2, _, _, ⟨e.tick, s.count + 1, s.tenants, s.cells, s.proven, s.evac, s.low, s.high⟩, e.cell, rfl, ⟨(by repeat (first | exact trivial | refine ⟨rfl, ?_⟩)), ⟨rfl, rfl, .list rfl, .list rfl⟩⟩, ⟨hV, by dsimp only; omega⟩, ?_⟩
              refine ⟨fun h4 => ?_, fun h4 => ?_⟩
              · replace h4 : frozenB c s e.cell = true := h4
                repeat (first | refine ⟨fun _ => ?_, fun h => Bool.noConfusion h⟩ | refine ⟨fun h => Bool.noConfusion h, fun _ => ?_⟩ | fail)
                refine ⟨12, rfl, ?_⟩
                exact ApS.err (hA.err (by rw [hP]; unfold standbyE tsAt csAt nearB; grind) (by decide))
              · replace h4 : frozenB c s e.cell = false := h4
                refine ⟨Bool, fun b => [(77, .bool b)], fun _ => [], fun b => (b = true ↔ (mayB c e.tenant e.cell = false ∨ togB c e.cell (s.tenants.getD e.tenant.toNat default).home = true ∨ togB c e.cell (s.tenants.getD e.tenant.toNat default).target = true)), ?_, ?_⟩
                · repeat' (first | refine ⟨fun _ => ?_, fun h => Bool.noConfusion h⟩ | refine ⟨fun h => Bool.noConfusion h, fun _ => ?_⟩ | refine ⟨fun _ => ?_, fun _ => ?_⟩ | refine ⟨⟨Nat.le_refl _, by omega, by omega⟩, ?_⟩ | refine ⟨CN1, x, c, _, _, rfl, (by repeat (first | exact trivial | refine ⟨rfl, ?_⟩)), hV, (show keeps _ _ from (by repeat (first | exact trivial | refine ⟨rfl, ?_⟩))), ?_⟩ | refine ⟨CN1, x, c, _, _, rfl, (by repeat (first | exact trivial | refine ⟨rfl, ?_⟩)), hV, ?_⟩ | fail)
                  all_goals (refine ⟨_, ?_, (by repeat (first | exact trivial | refine ⟨rfl, ?_⟩)), (by repeat (first | exact trivial | refine ⟨rfl, ?_⟩))⟩; dsimp only; grind)
                · rintro b2 hb2
                  refine ⟨⟨by decide, rfl, rfl⟩, ?_⟩
                  refine ⟨fun h5 => ?_, fun h5 => ?_⟩
                  · unfold togB at hb2
                    repeat (first | refine ⟨fun _ => ?_, fun h => Bool.noConfusion h⟩ | refine ⟨fun h => Bool.noConfusion h, fun _ => ?_⟩ | fail)
                    refine ⟨11, rfl, ?_⟩
                    exact ApS.err (hA.err (by rw [hP]; unfold standbyE tsAt csAt nearB; grind) (by decide))
                  · refine ⟨(), ?_, (by repeat (first | exact trivial | refine ⟨rfl, ?_⟩)), (by repeat (first | exact trivial | refine ⟨rfl, ?_⟩))⟩
                    rw [hP]; unfold togB at hb2; unfold standbyE tsAt csAt nearB; grind
  · rintro - hmeet
    refine ⟨⟨by decide, rfl, rfl⟩, ?_⟩
    refine ⟨tsC { (s.tenants.getD e.tenant.toNat default) with next := e.cell }, (by first | rfl | (show putN _ _ (tsC (List.getD _ _ _)) = _; rw [getD_set hi]; rfl)), ?_⟩
    rw [setEl_set (by first | exact hi | (rw [List.length_set]; exact hi))]
    try rw [List.set_set]
    have hk0 := hmeet
    have heff : effOf s e = (⟨e.tick, s.count + 1, s.tenants.set e.tenant.toNat { (s.tenants.getD e.tenant.toNat default) with next := e.cell }, s.cells, s.proven, s.evac, s.low, s.high⟩ : St) := by simp [effOf, stamped, setTen, tenEff, tsAt, hk]
    refine ⟨CN1, x, c, ⟨15, 14, 0⟩, y2, _, _, (⟨e.tick, s.count + 1, s.tenants.set e.tenant.toNat { (s.tenants.getD e.tenant.toNat default) with next := e.cell }, s.cells, s.proven, s.evac, s.low, s.high⟩ : St), rfl, ⟨(by repeat (first | exact trivial | refine ⟨rfl, ?_⟩)), ⟨(by first | rfl | (simp)), rfl, ⟨_, _, _, rfl, (by first | exact Nat.le_refl _ | (simp)), fun k hk => rfl⟩, .list rfl⟩⟩, ⟨hV, by simp; omega⟩, ?_⟩
    intro cap
    refine ⟨fun hov => ?_, fun hov => ?_⟩
    · exact ApS.err (hA.over hk0 (by unfold fitsB; simp [hk]) (by rw [heff]; exact ov_yes hov))
    · exact ApS.ok (M := ⟨15, 14, 0⟩) (y := y2) (s := (⟨e.tick, s.count + 1, s.tenants.set e.tenant.toNat { (s.tenants.getD e.tenant.toNat default) with next := e.cell }, s.cells, s.proven, s.evac, s.low, s.high⟩ : St)) (by rw [hA.fine hk0 (fun _ => by rw [heff]; exact ov_no hov), heff]) (by first | rfl | (simp)) rfl ⟨_, _, _, rfl, rfl, (by first | exact Nat.le_refl _ | (simp)), fun k hk => rfl⟩ ⟨_, _, _, rfl, rfl, Nat.le_refl _, fun k hk => rfl⟩
end Go.Proofs.YtnnpgbleacapfaaGreat

namespace Go.Proofs.YtnnpgbleacapfaaGreat
open Go.RowKit
set_option linter.unusedSimpArgs false
set_option linter.unusedVariables false

set_option maxRecDepth 100000 in
set_option maxHeartbeats 4000000 in
theorem apMigrate (x : CfgK) (c : Cfg) (y : StK) (s : St) (e : Ent) (hA : ArH c s e) (hk : e.kind = 6) : sx ttU arF arD (bodyOf Tryz.f72) (argF 0 [cfgV CN1 x c, stV SN1 y s, entV' e]) (rdM c s noS) 10 (endx ttU Tryz.f72.results.toList fun v mem' _ => ApS mem' v (applyR c s e)) := by
  have hV := hA.cfg
  have hI := hA.inv
  have hE := hA.ent
  have hcn := hA.cnt
  have htk := hA.tick
  have hlt := hI.lt
  have hlc := hI.lc
  have hnt := hV.nt
  have hnc := hV.nc
  have hct := hI.count
  have hst := hI.tick
  have hev := hI.evac
  have hpv := hI.proven
  have htb := hA.tB
  have hP : kindE c s e = migrateE c s e := by unfold kindE; simp [hk]
  have hf := hE
  simp [entV, entOk, inS, inR, fT, fC, fO, fE, fW, fN, hk] at hf
  refine ⟨CN1, x, c, e, rfl, (by repeat (first | exact trivial | refine ⟨rfl, ?_⟩)), hV, ?_⟩
  refine ⟨fun h => absurd h (by rw [hE]; decide), fun _ => ?_⟩
  refine ⟨fun h => absurd (of_decide_eq_true h) (by omega), fun _ => ?_⟩
  refine ⟨fun h => absurd (of_decide_eq_true h) (by omega), fun _ => ?_⟩
  refine ⟨SN1, y, s, rfl, ⟨.list rfl, .list rfl⟩, ⟨by omega, by omega⟩, ?_⟩
  intro y2
  refine ⟨fun h => absurd h (by rw [hk]; decide), fun _ => ?_⟩
  refine ⟨fun h => absurd h (by rw [hk]; decide), fun _ => ?_⟩
  refine ⟨fun h => absurd h (by rw [hk]; decide), fun _ => ?_⟩
  refine ⟨fun h => absurd h (by rw [hk]; decide), fun _ => ?_⟩
  refine ⟨fun h => absurd h (by rw [hk]; decide), fun _ => ?_⟩
  refine ⟨fun _ => ?_, fun h => absurd h (by rw [hk]; decide)⟩
  rw [wrapi (n := s.count + 1) (by omega)]
  have hTi := hI.ten _ (List.mem_of_getElem? (getD_get (d := default) (show e.tenant.toNat < s.tenants.length by omega)))
  obtain ⟨hT1, hT2, hT3, hT4, hT5, hT6, hT7, hT8, hT9, hT10, hT11, hT12⟩ := hTi
  have hi : e.tenant.toNat < s.tenants.length := by omega
  refine ⟨⟨Nat.le_refl _, by omega, by omega⟩, ?_⟩
  refine ⟨Bool, fun b => [(14, .bool b)], fun _ => [], fun b => (b = true ↔ ((s.tenants.getD e.tenant.toNat default).placed = false ∨ (s.tenants.getD e.tenant.toNat default).shed = true ∨ 0 ≤ (s.tenants.getD e.tenant.toNat default).target)), ?_, ?_⟩
  · repeat' (first | refine ⟨fun _ => ?_, fun h => Bool.noConfusion h⟩ | refine ⟨fun h => Bool.noConfusion h, fun _ => ?_⟩ | refine ⟨fun _ => ?_, fun _ => ?_⟩ | refine ⟨⟨Nat.le_refl _, by omega, by omega⟩, ?_⟩ | fail)
    all_goals (refine ⟨_, ?_, (by repeat (first | exact trivial | refine ⟨rfl, ?_⟩)), (by repeat (first | exact trivial | refine ⟨rfl, ?_⟩))⟩; dsimp only; grind)
  · rintro b1 hb1
    refine ⟨⟨by decide, rfl, rfl⟩, ?_⟩
    refine ⟨fun h1 => ?_, fun h1 => ?_⟩
    · repeat (first | refine ⟨fun _ => ?_, fun h => Bool.noConfusion h⟩ | refine ⟨fun h => Bool.noConfusion h, fun _ => ?_⟩ | fail)
      refine ⟨4, rfl, ?_⟩
      exact ApS.err (hA.err (by rw [hP]; unfold migrateE tsAt csAt nearB; grind) (by decide))
    · refine ⟨Bool, fun b => [(36, .bool b)], fun _ => [], fun b => (b = true ↔ (e.cell = (s.tenants.getD e.tenant.toNat default).home ∨ e.cell = (s.tenants.getD e.tenant.toNat default).standby ∨ e.cell = (s.tenants.getD e.tenant.toNat default).next)), ?_, ?_⟩
      · repeat' (first | refine ⟨fun _ => ?_, fun h => Bool.noConfusion h⟩ | refine ⟨fun h => Bool.noConfusion h, fun _ => ?_⟩ | refine ⟨fun _ => ?_, fun _ => ?_⟩ | refine ⟨⟨Nat.le_refl _, by omega, by omega⟩, ?_⟩ | fail)
        all_goals (refine ⟨_, ?_, (by repeat (first | exact trivial | refine ⟨rfl, ?_⟩)), (by repeat (first | exact trivial | refine ⟨rfl, ?_⟩))⟩; dsimp only; grind)
      · rintro b2 hb2
        refine ⟨⟨by decide, rfl, rfl⟩, ?_⟩
        refine ⟨fun h2 => ?_, fun h2 => ?_⟩
        · repeat (first | refine ⟨fun _ => ?_, fun h => Bool.noConfusion h⟩ | refine ⟨fun h => Bool.noConfusion h, fun _ => ?_⟩ | fail)
          refine ⟨5, rfl, ?_⟩
          exact ApS.err (hA.err (by rw [hP]; unfold migrateE tsAt csAt nearB; grind) (by decide))
        · refine ⟨⟨Nat.le_refl _, by omega, by omega⟩, ?_⟩
          refine ⟨fun h3 => ?_, fun h3 => ?_⟩
          · repeat (first | refine ⟨fun _ => ?_, fun h => Bool.noConfusion h⟩ | refine ⟨fun h => Bool.noConfusion h, fun _ => ?_⟩ | fail)
            refine ⟨6, rfl, ?_⟩
            exact ApS.err (hA.err (by rw [hP]; unfold migrateE tsAt csAt nearB; grind) (by decide))
          · refine ⟨CN1, x, c, ⟨15, 14, 0⟩, y2, _, _, ⟨e.tick, s.count + 1, s.tenants, s.cells, s.proven, s.evac, s.low, s.high⟩, e.cell, rfl, ⟨(by repeat (first | exact trivial | refine ⟨rfl, ?_⟩)), ⟨rfl, rfl, .list rfl, .list rfl⟩⟩, ⟨hV, by dsimp only; omega⟩, ?_⟩
            refine ⟨fun h4 => ?_, fun h4 => ?_⟩
            · replace h4 : frozenB c s e.cell = true := h4
              repeat (first | refine ⟨fun _ => ?_, fun h => Bool.noConfusion h⟩ | refine ⟨fun h => Bool.noConfusion h, fun _ => ?_⟩ | fail)
              refine ⟨12, rfl, ?_⟩
              exact ApS.err (hA.err (by rw [hP]; unfold migrateE tsAt csAt nearB; grind) (by decide))
            · replace h4 : frozenB c s e.cell = false := h4
              refine ⟨Bool, fun b => [(86, .bool b)], fun _ => [], fun b => (b = true ↔ (mayB c e.tenant e.cell = false ∨ togB c e.cell (s.tenants.getD e.tenant.toNat default).standby = true ∨ togB c e.cell (s.tenants.getD e.tenant.toNat default).next = true)), ?_, ?_⟩
              · repeat' (first | refine ⟨fun _ => ?_, fun h => Bool.noConfusion h⟩ | refine ⟨fun h => Bool.noConfusion h, fun _ => ?_⟩ | refine ⟨fun _ => ?_, fun _ => ?_⟩ | refine ⟨⟨Nat.le_refl _, by omega, by omega⟩, ?_⟩ | refine ⟨CN1, x, c, _, _, rfl, (by repeat (first | exact trivial | refine ⟨rfl, ?_⟩)), hV, (show keeps _ _ from (by repeat (first | exact trivial | refine ⟨rfl, ?_⟩))), ?_⟩ | refine ⟨CN1, x, c, _, _, rfl, (by repeat (first | exact trivial | refine ⟨rfl, ?_⟩)), hV, ?_⟩ | fail)
                all_goals (refine ⟨_, ?_, (by repeat (first | exact trivial | refine ⟨rfl, ?_⟩)), (by repeat (first | exact trivial | refine ⟨rfl, ?_⟩))⟩; dsimp only; grind)
              · rintro b3 hb3
                refine ⟨⟨by decide, rfl, rfl⟩, ?_⟩
                unfold togB at hb3
                refine ⟨fun h5 => ?_, fun h5 => ?_⟩
                · repeat (first | refine ⟨fun _ => ?_, fun h => Bool.noConfusion h⟩ | refine ⟨fun h => Bool.noConfusion h, fun _ => ?_⟩ | fail)
                  refine ⟨11, rfl, ?_⟩
                  exact ApS.err (hA.err (by rw [hP]; unfold migrateE tsAt csAt nearB; grind) (by decide))
                · refine ⟨tsC { (s.tenants.getD e.tenant.toNat default) with target := e.cell }, (by first | rfl | (show putN _ _ (tsC (List.getD _ _ _)) = _; rw [getD_set hi]; rfl)), ?_⟩
                  rw [setEl_set (by first | exact hi | (rw [List.length_set]; exact hi))]
                  try rw [List.set_set]
                  have hk0 : kindE c s e = 0 := by rw [hP]; unfold migrateE tsAt csAt nearB; grind
                  have heff : effOf s e = (⟨e.tick, s.count + 1, s.tenants.set e.tenant.toNat { (s.tenants.getD e.tenant.toNat default) with target := e.cell }, s.cells, s.proven, s.evac, s.low, s.high⟩ : St) := by simp [effOf, stamped, setTen, tenEff, tsAt, hk]
                  refine ⟨CN1, x, c, ⟨15, 14, 0⟩, y2, _, _, (⟨e.tick, s.count + 1, s.tenants.set e.tenant.toNat { (s.tenants.getD e.tenant.toNat default) with target := e.cell }, s.cells, s.proven, s.evac, s.low, s.high⟩ : St), rfl, ⟨(by repeat (first | exact trivial | refine ⟨rfl, ?_⟩)), ⟨(by first | rfl | (simp)), rfl, ⟨_, _, _, rfl, (by first | exact Nat.le_refl _ | (simp)), fun k hk => rfl⟩, .list rfl⟩⟩, ⟨hV, by simp; omega⟩, ?_⟩
                  intro cap
                  refine ⟨fun hov => ?_, fun hov => ?_⟩
                  · exact ApS.err (hA.over hk0 (by unfold fitsB; simp [hk]) (by rw [heff]; exact ov_yes hov))
                  · exact ApS.ok (M := ⟨15, 14, 0⟩) (y := y2) (s := (⟨e.tick, s.count + 1, s.tenants.set e.tenant.toNat { (s.tenants.getD e.tenant.toNat default) with target := e.cell }, s.cells, s.proven, s.evac, s.low, s.high⟩ : St)) (by rw [hA.fine hk0 (fun _ => by rw [heff]; exact ov_no hov), heff]) (by first | rfl | (simp)) rfl ⟨_, _, _, rfl, rfl, (by first | exact Nat.le_refl _ | (simp)), fun k hk => rfl⟩ ⟨_, _, _, rfl, rfl, Nat.le_refl _, fun k hk => rfl⟩
end Go.Proofs.YtnnpgbleacapfaaGreat
