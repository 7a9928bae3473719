import Derived.Test.YtjobcfpnmfjlfaaGreatPa11
namespace Go.Proofs.YtjobcfpnmfjlfaaGreat
open Go.RowKit
set_option linter.unusedSimpArgs false
set_option linter.unusedVariables false

theorem r11Booked_calls (x : CfgA) (c : Cfg) (y : StA) (s : St) (w : World) (hV : CfgV c) (hlt : s.tenants.length = c.tenants.length) (hc : CfgOk w (· < w.heap.size) x c) (hs : StOk w (· < w.heap.size) y s) :
    Calls Tryz.prog 120 #[.agg (cfgC x c), .agg (stC y s)] w fun e w' => ∃ A cp, e = .returned (.slice A (booked c s).length cp) ∧ Rd w' (fun b => w.heap.size ≤ b ∧ b < w'.heap.size) A (flat intC (booked c s)) ∧ Below w.heap.size w w' := by
  have := rd_callsM ttOk bkFok Tryz.func120 rfl (D := bkD) (by kernel_rfl) (vs := [cfgV CN1 (ck x) c, stV SN1 (sk y) s]) rfl x c y s noA noS w hc hs (noS_ok w _) (fun v hv => by
    simp only [List.mem_cons, List.not_mem_nil, or_false] at hv
    rcases hv with rfl | rfl
    · exact rpl_cfg_ok x c y s noA noS
    · exact rpl_st_ok x c y s noA noS) (booked_sx (ck x) c (sk y) s hV hlt)
  rw [List.map_cons, List.map_cons, rpl_cfg, rpl_st] at this
  refine this.mono ?_
  rintro e w' ⟨v, mem', nx', ρ', rfl, hR, hv, hm', hb⟩
  obtain ⟨A, cp, e1, hr⟩ := hm'.slR (enc := intC) (sz := 1) (fun _ => rfl) (by omega) hR
  refine ⟨A, cp, ?_, hr, hb⟩
  congr 1
  rcases hR with ⟨rfl, -⟩ | ⟨r, cap, t, n, el, rfl, -⟩
  · exact e1
  · exact e1
def ctBookedR : CT := fun vs mem nx K => ∃ N x c M y s, vs = [cfgV N x c, stV M y s] ∧ (keeps mem (cfgM N c) ∧ HasRow mem M.t 12 tsC default s.tenants ∧ HasRow mem M.c 4 csC default s.cells) ∧ (CfgV c ∧ s.tenants.length = c.tenants.length) ∧ ∀ cap, K (slc nx (booked c s).length cap) ((nx, rowOfL 500000 1 intC 0 (booked c s)) :: mem) (nx + 1)
theorem bookedROk : CSound Tryz.prog 120 ctBookedR := ⟨by kernel_rfl, fun {C ρ fr mem nx a w vs K} hc hs hv => by
  obtain ⟨N, x, c, M, y, s, rfl, ⟨hk, h1, h2⟩, ⟨hV, hlt⟩, hK⟩ := hc
  rw [List.map_cons, List.map_cons, den_cfg, den_st]
  refine (r11Booked_calls (cfgX ρ N x) c (stX ρ M y) s w hV hlt (hs.cfg hk (fun b h _ => h)) (hs.stRow h1 h2)).mono ?_
  rintro e w' ⟨A, cp, rfl, hr, hb⟩
  obtain ⟨q1, -⟩ := (hs.later hb).addList hs.frB hs.rest.size (enc := intC) (sz := 1) (fun _ => rfl) (by omega) intC_plain 0 (t := 500000) rfl hr
  refine ⟨slc nx (booked c s).length cp, _, _, _, ?_, hK cp, q1, ⟨Nat.lt_succ_self nx, by rw [setPl_same]⟩, ⟨fun i hi => setPl_lt ρ _ hi, Nat.le_succ _⟩⟩
  show Ending.returned _ = Ending.returned _
  simp [den, den2, den1, dA_whole, setPl_same]⟩
/-- How many of the first k cells are booked beyond their capacity. -/
def ovB (c : Cfg) (s : St) (i : Nat) : Bool := decide ((c.cells.getD i (0, 0)).2 < (booked c s).getD i 0)
def overN (c : Cfg) (s : St) (k : Nat) : Nat := ((List.range k).filter (ovB c s)).length
theorem overN_succ (c : Cfg) (s : St) (k : Nat) : overN c s (k + 1) = overN c s k + (if ovB c s k = true then 1 else 0) := by
  unfold overN
  rw [List.range_succ, List.filter_append, List.length_append]
  congr 1
  by_cases h : ovB c s k = true
  · rw [if_pos h]; simp [List.filter, h]
  · rw [if_neg h]; simp [List.filter, h]
theorem overN_le (c : Cfg) (s : St) (k : Nat) : overN c s k ≤ k := by
  unfold overN
  have := List.length_filter_le (ovB c s) (List.range k)
  simpa using this
theorem overN_pos (c : Cfg) (s : St) : decide (0 < overN c s c.cells.length) = overB c s := by
  unfold overN overB
  cases h : (List.range c.cells.length).any fun i => decide ((c.cells.getD i (0, 0)).2 < (booked c s).getD i 0) with
  | true =>
    obtain ⟨i, hi, hp⟩ := List.any_eq_true.1 h
    have : i ∈ (List.range c.cells.length).filter (ovB c s) := List.mem_filter.2 ⟨hi, hp⟩
    exact decide_eq_true (List.length_pos_of_mem this)
  | false =>
    refine decide_eq_false fun hp => ?_
    obtain ⟨i, hi⟩ := List.exists_mem_of_length_pos hp
    obtain ⟨h1, h2⟩ := List.mem_filter.1 hi
    have : (List.range c.cells.length).any (fun i => decide ((c.cells.getD i (0, 0)).2 < (booked c s).getD i 0)) = true := List.any_eq_true.2 ⟨i, h1, h2⟩
    rw [h] at this
    cases this
theorem bookedR_len (c : Cfg) (s : St) : (booked c s).length = c.cells.length := by rw [← bookK_all c s (Nat.le_refl _)]; exact bookK_len c s _
def ovF : FT := [(120, ctBookedR)]
theorem ovFok : FTok Tryz.prog ovF := ft_cons bookedROk ft_nil
def ovD : List (Nat × DQ) := [(3000004, { k := 14, L := [0, 1, 2, 3, 4, 5, 6, 7, 8, 9, 10, 11, 12], sl := [2, 3, 6] }),
  (6, { k := 10, L := [0, 1, 2, 3, 4, 5, 6, 7, 8, 9, 10, 11, 12], pre := [(0, false), (1, false), (2, false), (3, false), (4, false), (5, false), (6, false), (7, false), (8, false), (9, false)] })]
set_option maxRecDepth 100000 in
set_option maxHeartbeats 4000000 in
theorem over_sx (x : CfgK) (c : Cfg) (y : StK) (s : St) (hV : CfgV c) (hlt : s.tenants.length = c.tenants.length) :
    sx tt ovF ovD (bodyOf Tryz.f113) (argF 0 [cfgV CN1 x c, stV SN1 y s]) (rdM c s noS) 10 (endx tt Tryz.f113.results.toList fun v _ _ => ∃ A n cap, v = .slice A n cap ∧ n = overN c s c.cells.length) := by
  have hnc := hV.nc
  have hbl := bookedR_len c s
  refine ⟨CN1, x, c, SN1, y, s, rfl, ⟨(by repeat (first | exact trivial | refine ⟨rfl, ?_⟩)), ⟨_, _, _, rfl, Nat.le_refl _, fun k hk => rfl⟩, ⟨_, _, _, rfl, Nat.le_refl _, fun k hk => rfl⟩⟩, ⟨hV, hlt⟩, ?_⟩
  intro cap0
  refine ⟨Int × Nat × Option (Nat × (Nat → List Value)), fun q => match q with | (i, n, none) => [(7, .int .i64 i), (5, zs0)] | (i, n, some (cap, el)) => [(7, .int .i64 i), (5, slc 13 n cap)], fun q => match q with | (i, n, none) => [] | (i, n, some (cap, el)) => [(13, .row (1000000 + 3) 1 cap el)], fun q => match q with | (i, n, o) => ((0 ≤ i ∧ i ≤ c.cells.length) ∧ n = overN c s i.toNat) ∧ match o with | none => n = 0 | some (cap, el) => n ≤ cap, fun q => match q with | (i, n, o) => ((c.cells.length : Int) - i).toNat, ⟨(0, 0, none), [], ⟨⟨by omega, rfl⟩, rfl⟩, ⟨rfl, rfl⟩, (by repeat (first | exact trivial | refine ⟨rfl, ?_⟩)), (by repeat (first | exact trivial | refine ⟨rfl, ?_⟩))⟩, ?_⟩
  rintro ⟨i, n, (_ | ⟨cap, el⟩)⟩ ⟨⟨hi, hn⟩, ho⟩
  · refine ⟨⟨by decide, rfl, rfl⟩, ?_⟩
    refine ⟨fun hlt1 => ?_, fun hge => ?_⟩
    · have hlt2 : i < (c.cells.length : Int) := by have q : i < ((booked c s).length : Int) := of_decide_eq_true hlt1; omega
      have hle := overN_le c s i.toNat
      refine ⟨⟨Nat.le_refl _, hi.1, by omega⟩, ?_⟩
      refine ⟨⟨Nat.le_refl _, hi.1, hlt2⟩, ?_⟩
      refine ⟨fun hb => ?_, fun hb => ?_⟩
      · have hov : ovB c s i.toNat = true := hb
        refine ⟨⟨Nat.le_refl _, fun k hk => by match k, hk with | 0, _ => rfl⟩, ?_⟩
        refine ⟨fun h => absurd h (by decide), fun _ => ⟨by decide, fun cap2 el2 hc2 hel2 => ?_⟩⟩
        refine ⟨(_, _, some (cap2, el2)), [(13, 15)], ?_, ⟨rfl, rfl⟩, (by repeat (first | exact trivial | refine ⟨rfl, ?_⟩)), (by repeat (first | exact trivial | refine ⟨rfl, ?_⟩))⟩
        dsimp only
        rw [wrapi (n := i + 1) (by omega)]
        refine ⟨⟨⟨by omega, ?_⟩, by omega⟩, by omega⟩
        rw [show (i + 1).toNat = i.toNat + 1 by omega, overN_succ, if_pos hov]
        omega
      · have hov : ¬ (ovB c s i.toNat = true) := fun q => absurd (q.symm.trans hb) (by decide)
        refine ⟨(_, n, none), [], ?_, ⟨rfl, rfl⟩, (by repeat (first | exact trivial | refine ⟨rfl, ?_⟩)), (by repeat (first | exact trivial | refine ⟨rfl, ?_⟩))⟩
        dsimp only
        rw [wrapi (n := i + 1) (by omega)]
        refine ⟨⟨⟨by omega, ?_⟩, by omega⟩, by omega⟩
        rw [show (i + 1).toNat = i.toNat + 1 by omega, overN_succ, if_neg hov]
        omega
    · have hge2 : ¬ i < (c.cells.length : Int) := by have q : ¬ i < ((booked c s).length : Int) := of_decide_eq_false hge; omega
      have hie : i.toNat = c.cells.length := by omega
      rw [hie] at hn
      exact ⟨_, _, _, rfl, by rw [← hn]; exact ho.symm⟩
  · refine ⟨⟨by decide, rfl, rfl⟩, ?_⟩
    refine ⟨fun hlt1 => ?_, fun hge => ?_⟩
    · have hlt2 : i < (c.cells.length : Int) := by have q : i < ((booked c s).length : Int) := of_decide_eq_true hlt1; omega
      have hle := overN_le c s i.toNat
      refine ⟨⟨Nat.le_refl _, hi.1, by omega⟩, ?_⟩
      refine ⟨⟨Nat.le_refl _, hi.1, hlt2⟩, ?_⟩
      refine ⟨fun hb => ?_, fun hb => ?_⟩
      · have hov : ovB c s i.toNat = true := hb
        refine ⟨⟨Nat.le_refl _, fun k hk => by match k, hk with | 0, _ => rfl⟩, ?_⟩
        refine ⟨⟨rfl, ho⟩, fun hin el2 h1 h2 => ?_, fun hgt => ⟨by show (n + 1) * 8 ≤ 140737488355328; omega, fun cap2 el2 hc2 h1 h2 => ?_⟩⟩
        · refine ⟨(_, _, some (cap, el2)), [], ?_, ⟨rfl, rfl⟩, (by repeat (first | exact trivial | refine ⟨rfl, ?_⟩)), (by repeat (first | exact trivial | refine ⟨rfl, ?_⟩))⟩
          dsimp only
          rw [wrapi (n := i + 1) (by omega)]
          refine ⟨⟨⟨by omega, ?_⟩, by omega⟩, by omega⟩
          rw [show (i + 1).toNat = i.toNat + 1 by omega, overN_succ, if_pos hov]
          omega
        · refine ⟨(_, _, some (cap2, el2)), [(13, 15)], ?_, ⟨rfl, rfl⟩, (by repeat (first | exact trivial | refine ⟨rfl, ?_⟩)), (by repeat (first | exact trivial | refine ⟨rfl, ?_⟩))⟩
          dsimp only
          rw [wrapi (n := i + 1) (by omega)]
          refine ⟨⟨⟨by omega, ?_⟩, by omega⟩, by omega⟩
          rw [show (i + 1).toNat = i.toNat + 1 by omega, overN_succ, if_pos hov]
          omega
      · have hov : ¬ (ovB c s i.toNat = true) := fun q => absurd (q.symm.trans hb) (by decide)
        refine ⟨(_, n, some (cap, el)), [], ?_, ⟨rfl, rfl⟩, (by repeat (first | exact trivial | refine ⟨rfl, ?_⟩)), (by repeat (first | exact trivial | refine ⟨rfl, ?_⟩))⟩
        dsimp only
        rw [wrapi (n := i + 1) (by omega)]
        refine ⟨⟨⟨by omega, ?_⟩, by omega⟩, by omega⟩
        rw [show (i + 1).toNat = i.toNat + 1 by omega, overN_succ, if_neg hov]
        omega
    · have hge2 : ¬ i < (c.cells.length : Int) := by have q : ¬ i < ((booked c s).length : Int) := of_decide_eq_false hge; omega
      have hie : i.toNat = c.cells.length := by omega
      rw [hie] at hn
      exact ⟨_, _, _, rfl, hn⟩
theorem r11Over_calls (x : CfgA) (c : Cfg) (y : StA) (s : St) (w : World) (hV : CfgV c) (hlt : s.tenants.length = c.tenants.length) (hc : CfgOk w (· < w.heap.size) x c) (hs : StOk w (· < w.heap.size) y s) :
    Calls Tryz.prog 113 #[.agg (cfgC x c), .agg (stC y s)] w fun e w' => ∃ A cp, e = .returned (.slice A (overN c s c.cells.length) cp) ∧ Below w.heap.size w w' := by
  have := rd_callsM ttOk (ovFok.i _) Tryz.func113 rfl (D := ovD) (by kernel_rfl) (vs := [cfgV CN1 (ck x) c, stV SN1 (sk y) s]) rfl x c y s noA noS w hc hs (noS_ok w _) (fun v hv => by
    simp only [List.mem_cons, List.not_mem_nil, or_false] at hv
    rcases hv with rfl | rfl
    · exact rpl_cfg_ok x c y s noA noS
    · exact rpl_st_ok x c y s noA noS) (over_sx (ck x) c (sk y) s hV hlt)
  rw [List.map_cons, List.map_cons, rpl_cfg, rpl_st] at this
  refine this.mono ?_
  rintro e w' ⟨v, mem', nx', ρ', rfl, ⟨A, n, cap, rfl, rfl⟩, hv, hm', hb⟩
  cases A with
  | none => exact ⟨none, cap, rfl, hb⟩
  | some a => exact ⟨_, cap, rfl, hb⟩
def ctOverR : CT := fun vs mem nx K => ∃ N x c M y s, vs = [cfgV N x c, stV M y s] ∧ (keeps mem (cfgM N c) ∧ HasRow mem M.t 12 tsC default s.tenants ∧ HasRow mem M.c 4 csC default s.cells) ∧ (CfgV c ∧ s.tenants.length = c.tenants.length) ∧ ∀ cap, K (slc nx (overN c s c.cells.length) cap) mem (nx + 1)
theorem overROk : CSound Tryz.prog 113 ctOverR := ⟨by kernel_rfl, fun {C ρ fr mem nx a w vs K} hc hs hv => by
  obtain ⟨N, x, c, M, y, s, rfl, ⟨hk, h1, h2⟩, ⟨hV, hlt⟩, hK⟩ := hc
  rw [List.map_cons, List.map_cons, den_cfg, den_st]
  refine (r11Over_calls (cfgX ρ N x) c (stX ρ M y) s w hV hlt (hs.cfg hk (fun b h _ => h)) (hs.stRow h1 h2)).mono ?_
  rintro e w' ⟨A, cp, rfl, hb⟩
  refine ⟨slc nx (overN c s c.cells.length) cp, _, _, setPl ρ nx ⟨A, 0, 0, false⟩, ?_, hK cp, (hs.later hb).ren (fun j hj _ => setPl_lt ρ _ hj) (Nat.le_succ _) (fun j hj => setPl_lt ρ _ (Nat.lt_of_lt_of_le hj hs.n0)), ⟨Nat.lt_succ_self nx, by rw [setPl_same]⟩, ⟨fun i hi => setPl_lt ρ _ hi, Nat.le_succ _⟩⟩
  show Ending.returned _ = Ending.returned _
  simp [den, den2, den1, dA_whole, setPl_same]⟩
end Go.Proofs.YtjobcfpnmfjlfaaGreat

namespace Go.Proofs.YtjobcfpnmfjlfaaGreat
open Go.RowKit
set_option linter.unusedSimpArgs false
set_option linter.unusedVariables false

/-! ref12.Apply: what its parts ask, and what it hands back. -/
abbrev stVg (M : SN) (y : StK) (nT nC : Nat) (s : St) : Value := .agg #[.int .i64 s.tick, .int .i64 s.count, slc M.t nT y.ct, slc M.c nC y.cc, .int .i64 s.proven, .int .i64 s.evac, .int .i64 s.low, .int .i64 s.high]
/-- A state in rows, whose lengths are written in another way. -/
structure HasSt (mem : AM) (M : SN) (nT nC : Nat) (s : St) : Prop where
  nT : nT = s.tenants.length
  nC : nC = s.cells.length
  t : HasRow mem M.t 12 tsC default s.tenants
  c : HasRow mem M.c 4 csC default s.cells
def ctOverG : CT := fun vs mem nx K => ∃ N x c M y nT nC s, vs = [cfgV N x c, stVg M y nT nC s] ∧ (keeps mem (cfgM N c) ∧ HasSt mem M nT nC s) ∧ (CfgV c ∧ s.tenants.length = c.tenants.length) ∧ ∀ cap, K (slc nx (overN c s c.cells.length) cap) mem (nx + 1)
theorem overGOk : CSound Tryz.prog 113 ctOverG := overROk.mono (by
  rintro vs mem nx K ⟨N, x, c, M, y, nT, nC, s, rfl, ⟨h1, h2⟩, hV, hK⟩
  obtain ⟨rfl, rfl, h3, h4⟩ := h2
  exact ⟨N, x, c, M, y, s, rfl, ⟨h1, h3, h4⟩, hV, hK⟩)
/-- Reading functions of a configuration and a state. -/
theorem CSound.reads {f : FuncId} (ent : ((Tryz.prog).funcs[f]?).map (fun fn => (fn.name == "runtime.NumGoroutine", fn.body.isNone)) = some (false, false)) {pre : Cfg → St → Int → Prop} {res : Cfg → St → Int → Value} (hp : ∀ c s k, pureV (res c s k))
    (h : ∀ x c y s k w, pre c s k → CfgOk w (· < w.heap.size) x c → StOk w (· < w.heap.size) y s → Calls Tryz.prog f #[.agg (cfgC x c), .agg (stC y s), .int .i64 k] w fun r w' => r = .returned (res c s k) ∧ Below w.heap.size w w') :
    CSound Tryz.prog f (fun vs mem nx K => ∃ N x c M y nT nC s k, vs = [cfgV N x c, stVg M y nT nC s, .int .i64 k] ∧ (keeps mem (cfgM N c) ∧ HasSt mem M nT nC s) ∧ pre c s k ∧ K (res c s k) mem nx) := ⟨ent, fun {C ρ fr mem nx a w vs K} hc hs hv => by
  obtain ⟨N, x, c, M, y, nT, nC, s, k, rfl, ⟨h1, h2⟩, hpre, hK⟩ := hc
  obtain ⟨rfl, rfl, h3, h4⟩ := h2
  rw [List.map_cons, List.map_cons, den_cfg, den_st]
  refine (h (cfgX ρ N x) c (stX ρ M y) s k w hpre (hs.cfg h1 (fun b h _ => h)) (hs.stRow h3 h4)).mono ?_
  rintro e w' ⟨rfl, hb⟩
  have hpp := pure_den (hp c s k) ρ nx
  exact ⟨_, mem, nx, ρ, by rw [hpp.1], hK, hs.later hb, hpp.2, ExtS.refl _ _⟩⟩
/-- The same, of a state alone. -/
theorem CSound.readsS {f : FuncId} (ent : ((Tryz.prog).funcs[f]?).map (fun fn => (fn.name == "runtime.NumGoroutine", fn.body.isNone)) = some (false, false)) {pre : St → Int → Prop} {res : St → Int → Value} (hp : ∀ s k, pureV (res s k))
    (h : ∀ y s k w, pre s k → StOk w (· < w.heap.size) y s → Calls Tryz.prog f #[.agg (stC y s), .int .i64 k] w fun r w' => r = .returned (res s k) ∧ Below w.heap.size w w') :
    CSound Tryz.prog f (fun vs mem nx K => ∃ M y nT nC s k, vs = [stVg M y nT nC s, .int .i64 k] ∧ HasSt mem M nT nC s ∧ pre s k ∧ K (res s k) mem nx) := ⟨ent, fun {C ρ fr mem nx a w vs K} hc hs hv => by
  obtain ⟨M, y, nT, nC, s, k, rfl, h2, hpre, hK⟩ := hc
  obtain ⟨rfl, rfl, h3, h4⟩ := h2
  rw [List.map_cons, den_st]
  refine (h (stX ρ M y) s k w hpre (hs.stRow h3 h4)).mono ?_
  rintro e w' ⟨rfl, hb⟩
  have hpp := pure_den (hp s k) ρ nx
  exact ⟨_, mem, nx, ρ, by rw [hpp.1], hK, hs.later hb, hpp.2, ExtS.refl _ _⟩⟩
/-! frozen, proven, open -/
def fzF : FT := [(112, ctRegOf), (61, ctHas)]
theorem fzFok : FTok Tryz.prog fzF := ft_cons regOfOk (ft_cons hasOk ft_nil)
def fzD : List (Nat × DQ) := [(1, { k := 5, L := [0, 1, 2, 3, 4, 5, 6, 7, 10, 11], pre := [(0, false), (1, false), (2, false), (3, false), (4, true)] })]
set_option maxRecDepth 100000 in
theorem frozen_sx (x : CfgK) (c : Cfg) (y : StK) (s : St) (k : Int) (hV : CfgV c) (he : 0 ≤ s.evac ∧ s.evac < 4294967296) :
    sx tt fzF fzD (bodyOf Tryz.f91) (argF 0 [cfgV CN1 x c, stV SN1 y s, .int .i64 k]) (rdM c s noS) 10 (endx tt Tryz.f91.results.toList fun v _ _ => v = .bool (frozenB c s k) ∧ pureV v) := by
  refine ⟨CN1, x, c, k, rfl, by repeat (first | exact trivial | refine ⟨rfl, ?_⟩), hV, ?_⟩
  refine ⟨by repeat (first | exact trivial | refine ⟨rfl, ?_⟩), ?_⟩
  exact ⟨_, _, rfl, he, rfl, trivial⟩
def ctFrozenR : CT := fun vs mem nx K => ∃ N x c M y nT nC s k, vs = [cfgV N x c, stVg M y nT nC s, .int .i64 k] ∧ (keeps mem (cfgM N c) ∧ HasSt mem M nT nC s) ∧ (CfgV c ∧ 0 ≤ s.evac ∧ s.evac < 4294967296) ∧ K (.bool (frozenB c s k)) mem nx
theorem frozenROk : CSound Tryz.prog 91 ctFrozenR := CSound.reads (by kernel_rfl) (pre := fun c s k => CfgV c ∧ 0 ≤ s.evac ∧ s.evac < 4294967296) (res := fun c s k => .bool (frozenB c s k)) (fun _ _ _ => trivial) (by
  rintro x c y s k w ⟨hV, he⟩ hc hs
  have := rd_calls fzFok Tryz.func91 rfl (D := fzD) (by kernel_rfl) (vs := [cfgV CN1 (ck x) c, stV SN1 (sk y) s, .int .i64 k]) rfl x c y s noA noS w hc hs (noS_ok w _) (fun v hv => by
    simp only [List.mem_cons, List.not_mem_nil, or_false] at hv
    rcases hv with rfl | rfl | rfl
    · exact rpl_cfg_ok x c y s noA noS
    · exact rpl_st_ok x c y s noA noS
    · trivial) (R := fun v => v = .bool (frozenB c s k)) (frozen_sx (ck x) c (sk y) s k hV he)
  rw [List.map_cons, List.map_cons, rpl_cfg, rpl_st] at this
  refine this.mono ?_
  rintro e w' ⟨v, rfl, -, rfl, hb⟩
  exact ⟨rfl, hb⟩)
def pvF : FT := [(61, ctHas)]
theorem pvFok : FTok Tryz.prog pvF := ft_cons hasOk ft_nil
set_option maxRecDepth 100000 in
theorem proven_sx (y : StK) (s : St) (k : Int) (he : 0 ≤ s.proven ∧ s.proven < 4294967296) :
    sx tt pvF [] (bodyOf Tryz.f96) (argF 0 [stV SN1 y s, .int .i64 k]) (rdM noC s noS) 10 (endx tt Tryz.f96.results.toList fun v _ _ => v = .bool (hasB s.proven k) ∧ pureV v) := by
  exact ⟨_, _, rfl, he, rfl, trivial⟩
def ctProvenR : CT := fun vs mem nx K => ∃ M y nT nC s k, vs = [stVg M y nT nC s, .int .i64 k] ∧ HasSt mem M nT nC s ∧ (0 ≤ s.proven ∧ s.proven < 4294967296) ∧ K (.bool (hasB s.proven k)) mem nx
theorem provenROk : CSound Tryz.prog 96 ctProvenR := CSound.readsS (by kernel_rfl) (pre := fun s k => 0 ≤ s.proven ∧ s.proven < 4294967296) (res := fun s k => .bool (hasB s.proven k)) (fun _ _ => trivial) (by
  rintro y s k w he hs
  have := rd_calls pvFok Tryz.func96 rfl (D := []) (by kernel_rfl) (vs := [stV SN1 (sk y) s, .int .i64 k]) rfl noX noC y s noA noS w (noC_ok _ _) hs (noS_ok w _) (fun v hv => by
    simp only [List.mem_cons, List.not_mem_nil, or_false] at hv
    rcases hv with rfl | rfl
    · exact rpl_st_ok noX noC y s noA noS
    · trivial) (R := fun v => v = .bool (hasB s.proven k)) (proven_sx (sk y) s k he)
  rw [List.map_cons, rpl_st] at this
  refine this.mono ?_
  rintro e w' ⟨v, rfl, -, rfl, hb⟩
  exact ⟨rfl, hb⟩)
def opF : FT := [(96, ctProvenR)]
theorem opFok : FTok Tryz.prog opF := ft_cons provenROk ft_nil
def opD : List (Nat × DQ) := [(1, { k := 17, L := [6, 7, 10], pre := [(0, false), (1, false), (2, false), (3, false), (4, false), (5, false), (6, false), (7, true), (8, false), (9, false), (10, false), (11, false), (12, false), (13, false), (14, false), (15, false), (16, false)] })]
set_option maxRecDepth 100000 in
theorem open_sx (y : StK) (s : St) (k : Int) (he : 0 ≤ s.proven ∧ s.proven < 4294967296) (hk : 0 ≤ k ∧ k < s.cells.length) :
    sx tt opF opD (bodyOf Tryz.f65) (argF 0 [stV SN1 y s, .int .i64 k]) (rdM noC s noS) 10 (endx tt Tryz.f65.results.toList fun v _ _ => v = .bool (openB s.proven (csAt s k)) ∧ pureV v) := by
  refine ⟨⟨Nat.le_refl _, hk.1, hk.2⟩, ?_⟩
  refine ⟨SN1, y, _, _, s, _, rfl, ⟨rfl, rfl, .list rfl, .list rfl⟩, he, ?_⟩
  refine ⟨by repeat (first | exact trivial | refine ⟨rfl, ?_⟩), ?_⟩
  unfold openB csAt
  refine ⟨fun h => ?_, fun h => ?_⟩
  · refine ⟨?_, trivial⟩
    have h2 : (!hasB s.proven (s.cells.getD k.toNat default).running) = true := h
    rw [h2]
    rfl
  · refine ⟨⟨Nat.le_refl _, hk.1, hk.2⟩, ?_⟩
    refine ⟨SN1, y, _, _, s, _, rfl, ⟨rfl, rfl, .list rfl, .list rfl⟩, he, ?_⟩
    refine ⟨?_, trivial⟩
    have h2 : (!hasB s.proven (s.cells.getD k.toNat default).running) = false := h
    rw [h2]
    rfl
def ctOpenR : CT := fun vs mem nx K => ∃ M y nT nC s k, vs = [stVg M y nT nC s, .int .i64 k] ∧ HasSt mem M nT nC s ∧ ((0 ≤ s.proven ∧ s.proven < 4294967296) ∧ 0 ≤ k ∧ k < s.cells.length) ∧ K (.bool (openB s.proven (csAt s k))) mem nx
theorem openROk : CSound Tryz.prog 65 ctOpenR := CSound.readsS (by kernel_rfl) (pre := fun s k => (0 ≤ s.proven ∧ s.proven < 4294967296) ∧ 0 ≤ k ∧ k < s.cells.length) (res := fun s k => .bool (openB s.proven (csAt s k))) (fun _ _ => trivial) (by
  rintro y s k w ⟨he, hk⟩ hs
  have := rd_calls opFok Tryz.func65 rfl (D := opD) (by kernel_rfl) (vs := [stV SN1 (sk y) s, .int .i64 k]) rfl noX noC y s noA noS w (noC_ok _ _) hs (noS_ok w _) (fun v hv => by
    simp only [List.mem_cons, List.not_mem_nil, or_false] at hv
    rcases hv with rfl | rfl
    · exact rpl_st_ok noX noC y s noA noS
    · trivial) (R := fun v => v = .bool (openB s.proven (csAt s k))) (open_sx (sk y) s k he hk)
  rw [List.map_cons, rpl_st] at this
  refine this.mono ?_
  rintro e w' ⟨v, rfl, -, rfl, hb⟩
  exact ⟨rfl, hb⟩)
/-! The result. -/
def ApS (mem : AM) (v : Value) (p : St × Int) : Prop := ∃ T Cc, v = .tuple #[.agg #[.int .i64 p.1.tick, .int .i64 p.1.count, T, Cc, .int .i64 p.1.proven, .int .i64 p.1.evac, .int .i64 p.1.low, .int .i64 p.1.high], .int .i64 p.2] ∧ SlR mem 12 tsC default p.1.tenants T ∧ SlR mem 4 csC default p.1.cells Cc
theorem ApS.err {mem : AM} {p : St × Int} {n : Int} (h : p = (St.zero, n)) : ApS mem (.tuple #[stZ, .int .i64 n]) p := by
  subst h
  exact ⟨zs0, zs0, rfl, .inl ⟨rfl, rfl⟩, .inl ⟨rfl, rfl⟩⟩
theorem ApS.ok {mem : AM} {p : St × Int} {s : St} {y : StK} {M : SN} {nT nC : Nat} {n : Int} (h : p = (s, n)) (hT : nT = s.tenants.length) (hC : nC = s.cells.length) (h1 : NewRow mem M.t 12 tsC default s.tenants) (h2 : NewRow mem M.c 4 csC default s.cells) : ApS mem (.tuple #[stVg M y nT nC s, .int .i64 n]) p := by
  subst h hT hC
  obtain ⟨t1, n1, e1, q1, q2, q3, q4⟩ := h1
  obtain ⟨t2, n2, e2, r1, r2, r3, r4⟩ := h2
  exact ⟨_, _, rfl, .inr ⟨M.t, _, _, _, _, rfl, q1, q2, q3, q4⟩, .inr ⟨M.c, _, _, _, _, rfl, r1, r2, r3, r4⟩⟩
structure ArH (c : Cfg) (s : St) (e : Ent) : Prop where
  cfg : CfgV c
  inv : StInv c s
  ent : entV c e = true
  cnt : s.count < 4096
  tick : s.tick ≤ e.tick
theorem ArH.ref {c : Cfg} {s : St} {e : Ent} (h : ArH c s e) : refusedE c s e = kindE c s e := by
  have h1 := h.ent
  have h2 := h.cnt
  have h3 := h.tick
  unfold refusedE
  rw [if_neg (by rw [h1]; decide), if_neg (by omega), if_neg (by omega)]
theorem ArH.err {c : Cfg} {s : St} {e : Ent} (h : ArH c s e) {n : Int} (hk : kindE c s e = n) (hn : n ≠ 0) : applyR c s e = (St.zero, n) := by
  unfold applyR
  rw [h.ref, hk, if_pos hn]
theorem ArH.over {c : Cfg} {s : St} {e : Ent} (h : ArH c s e) (hk : kindE c s e = 0) (hf : fitsB e = true) (ho : overB c (effOf s e) = true) : applyR c s e = (St.zero, 10) := by
  unfold applyR
  rw [h.ref, hk, if_neg (fun q => q rfl), if_pos ⟨hf, ho⟩]
theorem ArH.fine {c : Cfg} {s : St} {e : Ent} (h : ArH c s e) (hk : kindE c s e = 0) (hf : fitsB e = true → overB c (effOf s e) = false) : applyR c s e = (effOf s e, 0) := by
  unfold applyR
  rw [h.ref, hk, if_neg (fun q => q rfl), if_neg (fun ⟨q1, q2⟩ => by rw [hf q1] at q2; cases q2)]
theorem ArH.tB {c : Cfg} {s : St} {e : Ent} (h : ArH c s e) : 0 ≤ e.tick ∧ e.tick ≤ 1073741824 := by
  have h1 := h.ent
  simp only [entV, entOk, inR, Bool.and_eq_true, decide_eq_true_eq] at h1
  omega
def tiUint : TI := { size := 1, agg := false, zero := [.int .u64 0], ik := some .u64 }
def ttU : TT := (75, tiUint) :: tt
theorem ttUok : TTok Tryz.prog ttU := by
  refine tt_mem _ _ ?_
  unfold ttU tt
  repeat (refine tt_cons ⟨by kernel_rfl, by kernel_rfl, plains (by rfl), by kernel_rfl, by kernel_rfl⟩ ?_)
  exact tt_nil
/-! The functions that are walked where they are called. -/
def LA : List Nat := [0, 1, 2, 3, 4, 5, 6, 7, 8, 9, 10, 11, 12, 13, 14, 15, 16, 17, 18, 19, 20, 21, 22, 23, 24, 25, 26, 27, 28, 29, 30, 31, 32]
def fitF : FT := [(113, ctOverG)]
theorem fitFok : FTok Tryz.prog fitF := ft_cons overGOk ft_nil
abbrev ctFit : CT := ctInl ttU fitF [] Tryz.f93 (bodyOf Tryz.f93)
theorem fitOk {I : List Nat} (hI : I.contains 93 = true) : CSoundI Tryz.prog I 93 ctFit := inl_ok ttUok (fitFok.i _) mixed (by kernel_rfl) Tryz.func93 rfl (by kernel_rfl) hI
end Go.Proofs.YtjobcfpnmfjlfaaGreat

namespace Go.Proofs.YtjobcfpnmfjlfaaGreat
open Go.RowKit
set_option linter.unusedSimpArgs false
set_option linter.unusedVariables false

/-! ref12.granted, ref12.Cut -/
def grantedE (c : Cfg) (s : St) (e : Ent) : Int :=
  let t := tsAt s e.tenant
  let x := csAt s e.cell
  if x.mode = 3 ∨ (x.mode = 2 ∧ e.cell ≠ t.home) then 6
  else if e.epoch ≠ t.epoch + 1 ∧ ¬ (e.cell = t.home ∧ e.epoch = t.epoch) then 7
  else if e.n ≠ x.running ∨ x.running ≠ x.wanted then 8
  else if e.since < e.tick ∨ e.tick + c.lease < e.since ∨ e.till ≤ e.since ∨ c.lease < e.till - e.since ∨ e.since < t.win.till ∨ (e.cell ≠ t.home ∧ e.tick < t.win.till) then 9 else 0
theorem grantE_eq (c : Cfg) (s : St) (e : Ent) : grantE c s e = if (tsAt s e.tenant).placed = false ∨ ((tsAt s e.tenant).shed = true ∧ e.cell ≠ (tsAt s e.tenant).standby) then 4 else if e.cell ≠ (tsAt s e.tenant).home ∧ e.cell ≠ (tsAt s e.tenant).standby ∧ e.cell ≠ (tsAt s e.tenant).target then 5 else grantedE c s e := rfl
def gdD : List (Nat × DQ) := [
  (5000005, { k := 40, L := LA, sl := [3, 4, 5, 6, 7, 8, 9] }), (5000007, { k := 40, L := LA, sl := [3, 4, 5, 6, 7, 8, 9] }), (5000009, { k := 40, L := LA, sl := [3, 4, 5, 6, 7, 8, 9] }), (5000011, { k := 40, L := LA, sl := [3, 4, 5, 6, 7, 8, 9] }), (5000013, { k := 40, L := LA, sl := [3, 4, 5, 6, 7, 8, 9] })
]
abbrev gdPre (c : Cfg) (s : St) (e : Ent) : Prop := (0 ≤ e.tenant ∧ e.tenant < s.tenants.length) ∧ (0 ≤ e.cell ∧ e.cell < s.cells.length) ∧ (0 ≤ e.tick ∧ e.tick ≤ 1073741824) ∧ (0 ≤ e.since ∧ e.since ≤ 1073741824) ∧ (0 ≤ e.till ∧ e.till ≤ 1073741824) ∧ (0 ≤ (tsAt s e.tenant).epoch ∧ (tsAt s e.tenant).epoch ≤ 1048576)
set_option maxRecDepth 100000 in
set_option maxHeartbeats 4000000 in
theorem granted_sx (x : CfgK) (c : Cfg) (y : StK) (s : St) (e : Ent) (hV : CfgV c) (hp : gdPre c s e) : sx tt [] gdD (bodyOf Tryz.f94) (argF 0 [cfgV CN1 x c, stV SN1 y s, entV' e]) (rdM c s noS) 10 (endx tt Tryz.f94.results.toList fun v _ _ => v = .int .i64 (grantedE c s e) ∧ pureV v) := by
  have hls := hV.lease
  obtain ⟨p1, p2, p3, p4, p5, p6⟩ := hp
  have p6b : 0 ≤ (s.tenants.getD e.tenant.toNat default).epoch ∧ (s.tenants.getD e.tenant.toNat default).epoch ≤ 1048576 := p6
  have w1 : IntKind.i64.wrap ((s.tenants.getD e.tenant.toNat default).epoch + 1) = (s.tenants.getD e.tenant.toNat default).epoch + 1 := wrapi (by omega)
  have w2 : IntKind.i64.wrap (e.tick + c.lease) = e.tick + c.lease := wrapi (by omega)
  have w3 : IntKind.i64.wrap (e.till - e.since) = e.till - e.since := wrapi (by omega)
  refine ⟨⟨Nat.le_refl _, p1.1, p1.2⟩, ?_⟩
  refine ⟨⟨Nat.le_refl _, p2.1, p2.2⟩, ?_⟩
  refine ⟨Bool, fun b => [(27, .bool b)], fun _ => [], fun b => (b = true ↔ ((s.cells.getD e.cell.toNat default).mode = 3 ∨ ((s.cells.getD e.cell.toNat default).mode = 2 ∧ ¬ e.cell = (s.tenants.getD e.tenant.toNat default).home))), ?_, ?_⟩
  · repeat' (first | refine ⟨fun _ => ?_, fun h => Bool.noConfusion h⟩ | refine ⟨fun h => Bool.noConfusion h, fun _ => ?_⟩ | refine ⟨fun _ => ?_, fun _ => ?_⟩ | refine ⟨⟨Nat.le_refl _, by omega, by omega⟩, ?_⟩ | fail)
    all_goals (refine ⟨_, ?_, (by repeat (first | exact trivial | refine ⟨rfl, ?_⟩)), (by repeat (first | exact trivial | refine ⟨rfl, ?_⟩))⟩; dsimp only; grind)
  · rintro b1 hb1
    refine ⟨⟨by decide, rfl, rfl⟩, ?_⟩
    refine ⟨fun qb1 => ?_, fun qb1 => ?_⟩
    · unfold grantedE tsAt csAt
      refine ⟨?_, trivial⟩
      congr 1
      grind
    · refine ⟨Bool, fun b => [(40, .bool b)], fun _ => [], fun b => (b = true ↔ (e.epoch ≠ (s.tenants.getD e.tenant.toNat default).epoch + 1 ∧ ¬ (e.cell = (s.tenants.getD e.tenant.toNat default).home ∧ e.epoch = (s.tenants.getD e.tenant.toNat default).epoch))), ?_, ?_⟩
      · repeat' (first | refine ⟨fun _ => ?_, fun h => Bool.noConfusion h⟩ | refine ⟨fun h => Bool.noConfusion h, fun _ => ?_⟩ | refine ⟨fun _ => ?_, fun _ => ?_⟩ | refine ⟨⟨Nat.le_refl _, by omega, by omega⟩, ?_⟩ | fail)
        all_goals (refine ⟨_, ?_, (by repeat (first | exact trivial | refine ⟨rfl, ?_⟩)), (by repeat (first | exact trivial | refine ⟨rfl, ?_⟩))⟩; dsimp only; grind)
      · rintro b2 hb2
        refine ⟨⟨by decide, rfl, rfl⟩, ?_⟩
        refine ⟨fun qb2 => ?_, fun qb2 => ?_⟩
        · unfold grantedE tsAt csAt
          refine ⟨?_, trivial⟩
          congr 1
          grind
        · refine ⟨Bool, fun b => [(69, .bool b)], fun _ => [], fun b => (b = true ↔ (e.n ≠ (s.cells.getD e.cell.toNat default).running ∨ (s.cells.getD e.cell.toNat default).running ≠ (s.cells.getD e.cell.toNat default).wanted)), ?_, ?_⟩
          · repeat' (first | refine ⟨fun _ => ?_, fun h => Bool.noConfusion h⟩ | refine ⟨fun h => Bool.noConfusion h, fun _ => ?_⟩ | refine ⟨fun _ => ?_, fun _ => ?_⟩ | refine ⟨⟨Nat.le_refl _, by omega, by omega⟩, ?_⟩ | fail)
            all_goals (refine ⟨_, ?_, (by repeat (first | exact trivial | refine ⟨rfl, ?_⟩)), (by repeat (first | exact trivial | refine ⟨rfl, ?_⟩))⟩; dsimp only; grind)
          · rintro b3 hb3
            refine ⟨⟨by decide, rfl, rfl⟩, ?_⟩
            refine ⟨fun qb3 => ?_, fun qb3 => ?_⟩
            · unfold grantedE tsAt csAt
              refine ⟨?_, trivial⟩
              congr 1
              grind
            · refine ⟨Bool, fun b => [(82, .bool b)], fun _ => [], fun b => (b = true ↔ (e.since < e.tick ∨ e.tick + c.lease < e.since ∨ e.till ≤ e.since ∨ c.lease < e.till - e.since ∨ e.since < (s.tenants.getD e.tenant.toNat default).win.till)), ?_, ?_⟩
              · repeat' (first | refine ⟨fun _ => ?_, fun h => Bool.noConfusion h⟩ | refine ⟨fun h => Bool.noConfusion h, fun _ => ?_⟩ | refine ⟨fun _ => ?_, fun _ => ?_⟩ | refine ⟨⟨Nat.le_refl _, by omega, by omega⟩, ?_⟩ | fail)
                all_goals (refine ⟨_, ?_, (by repeat (first | exact trivial | refine ⟨rfl, ?_⟩)), (by repeat (first | exact trivial | refine ⟨rfl, ?_⟩))⟩; dsimp only; grind)
              · rintro b4 hb4
                refine ⟨⟨by decide, rfl, rfl⟩, ?_⟩
                refine ⟨fun qb4 => ?_, fun qb4 => ?_⟩
                · unfold grantedE tsAt csAt
                  refine ⟨?_, trivial⟩
                  congr 1
                  grind
                · refine ⟨Bool, fun b => [(123, .bool b)], fun _ => [], fun b => (b = true ↔ (¬ e.cell = (s.tenants.getD e.tenant.toNat default).home ∧ e.tick < (s.tenants.getD e.tenant.toNat default).win.till)), ?_, ?_⟩
                  · repeat' (first | refine ⟨fun _ => ?_, fun h => Bool.noConfusion h⟩ | refine ⟨fun h => Bool.noConfusion h, fun _ => ?_⟩ | refine ⟨fun _ => ?_, fun _ => ?_⟩ | refine ⟨⟨Nat.le_refl _, by omega, by omega⟩, ?_⟩ | fail)
                    all_goals (refine ⟨_, ?_, (by repeat (first | exact trivial | refine ⟨rfl, ?_⟩)), (by repeat (first | exact trivial | refine ⟨rfl, ?_⟩))⟩; dsimp only; grind)
                  · rintro b5 hb5
                    refine ⟨⟨by decide, rfl, rfl⟩, ?_⟩
                    refine ⟨fun qb5 => ?_, fun qb5 => ?_⟩
                    · unfold grantedE tsAt csAt
                      refine ⟨?_, trivial⟩
                      congr 1
                      grind
                    · unfold grantedE tsAt csAt
                      refine ⟨?_, trivial⟩
                      congr 1
                      grind
def ctGrantedR : CT := fun vs mem nx K => ∃ N x c M y nT nC s e, vs = [cfgV N x c, stVg M y nT nC s, entV' e] ∧ (keeps mem (cfgM N c) ∧ HasSt mem M nT nC s) ∧ (CfgV c ∧ gdPre c s e) ∧ K (.int .i64 (grantedE c s e)) mem nx
theorem grantedROk : CSound Tryz.prog 94 ctGrantedR := ⟨by kernel_rfl, fun {C ρ fr mem nx a w vs K} hc hs hv => by
  obtain ⟨N, x, c, M, y, nT, nC, s, e, rfl, ⟨h1, h2⟩, ⟨hV, hp⟩, hK⟩ := hc
  obtain ⟨rfl, rfl, h3, h4⟩ := h2
  have e0 : ([cfgV N x c, stV M y s, entV' e].map (den ρ)).toArray = #[.agg (cfgC (cfgX ρ N x) c), .agg (stC (stX ρ M y) s), entV' e] := by
    rw [List.map_cons, List.map_cons, den_cfg, den_st]
    simp [den, den2, den1]
  rw [e0]
  have hcc := hs.cfg (x := x) h1 (S := (· < w.heap.size)) (fun b h _ => h)
  have hss := hs.stRow (y := y) h3 h4
  have := rd_calls ft_nil Tryz.func94 rfl (D := gdD) (by kernel_rfl) (vs := [cfgV CN1 (ck (cfgX ρ N x)) c, stV SN1 (sk (stX ρ M y)) s, entV' e]) rfl (cfgX ρ N x) c (stX ρ M y) s noA noS w hcc hss (noS_ok w _) (fun v hv => by
    simp only [List.mem_cons, List.not_mem_nil, or_false] at hv
    rcases hv with rfl | rfl | rfl
    · exact rpl_cfg_ok _ c _ s noA noS
    · exact rpl_st_ok _ c _ s noA noS
    · exact (pure_den (pure_ent e) _ _).2) (R := fun v => v = .int .i64 (grantedE c s e)) (granted_sx _ c _ s e hV hp)
  rw [List.map_cons, List.map_cons, rpl_cfg, rpl_st, List.map_cons, (pure_den (pure_ent e) _ 0).1] at this
  refine this.mono ?_
  rintro r w' ⟨v, rfl, -, rfl, hb⟩
  exact ⟨.int .i64 (grantedE c s e), mem, nx, ρ, rfl, hK, hs.later hb, trivial, ExtS.refl _ _⟩⟩
abbrev winV (x : Win) : Value := .agg #[.int .i64 x.cell, .int .i64 x.epoch, .int .i64 x.version, .int .i64 x.since, .int .i64 x.till]
theorem pure_win (x : Win) : pureV (winV x) := fun v hv => by
  simp at hv
  rcases hv with rfl | rfl | rfl | rfl | rfl <;> trivial
def ctCutW : CT := fun vs mem nx K => ∃ (x : Win) (t : Int), vs = [winV x, .int .i64 t] ∧ (-1000000000000 ≤ t ∧ t ≤ 1000000000000) ∧ K (winV (cutW x t)) mem nx
set_option maxRecDepth 100000 in
theorem cut_sx (x : Win) (t : Int) (ht : -1000000000000 ≤ t ∧ t ≤ 1000000000000) : sx tt [] [] (bodyOf Tryz.f95) (argF 0 [winV x, .int .i64 t]) (rdM noC noS noS) 10 (endx tt Tryz.f95.results.toList fun v _ _ => v = winV (cutW x t) ∧ pureV v) := by
  have w1 : IntKind.i64.wrap (t + 1) = t + 1 := wrapi (by omega)
  have hm : ∀ a b : Int, (if b < a then b else a) = min a b := fun a b => by rw [Int.min_def]; split <;> split <;> omega
  refine ⟨?_, ?_⟩
  · show Value.agg #[_, _, _, .int .i64 (if (if IntKind.i64.wrap (t + 1) < x.till then IntKind.i64.wrap (t + 1) else x.till) < x.since then (if IntKind.i64.wrap (t + 1) < x.till then IntKind.i64.wrap (t + 1) else x.till) else x.since), .int .i64 (if IntKind.i64.wrap (t + 1) < x.till then IntKind.i64.wrap (t + 1) else x.till)] = _
    rw [w1, hm, hm]
    rfl
  · intro u hu
    simp at hu
    rcases hu with rfl | rfl | rfl | rfl | rfl <;> trivial
theorem cutWOk : CSound Tryz.prog 95 ctCutW := CSound.pure (by kernel_rfl) (by
  rintro vs mem nx K ⟨x, t, rfl, ht, hK⟩
  refine ⟨_, hK, fun ρ n => pure_den (pure_win _) ρ n, fun ρ w => ?_⟩
  have := rd_calls ft_nil Tryz.func95 rfl (D := []) (by kernel_rfl) (vs := [winV x, .int .i64 t]) rfl noX noC noA noS noA noS w (noC_ok _ _) (noS_ok w _) (noS_ok w _) (fun v hv => by
    simp only [List.mem_cons, List.not_mem_nil, or_false] at hv
    rcases hv with rfl | rfl
    · exact (pure_den (pure_win x) _ _).2
    · trivial) (R := fun v => v = winV (cutW x t)) (cut_sx x t ht)
  rw [List.map_cons, (pure_den (pure_win x) _ 0).1] at this
  rw [List.map_cons, (pure_den (pure_win x) _ 0).1]
  refine this.mono ?_
  rintro e w' ⟨v, rfl, -, rfl, hb⟩
  exact ⟨rfl, hb⟩)
end Go.Proofs.YtjobcfpnmfjlfaaGreat

namespace Go.Proofs.YtjobcfpnmfjlfaaGreat
open Go.RowKit
set_option linter.unusedSimpArgs false
set_option linter.unusedVariables false

/-! ref12.Apply: the functions that are walked inside. -/
theorem ov_yes {c : Cfg} {s : St} (h : decide (((overN c s c.cells.length : Nat) : Int) > 0) = true) : overB c s = true := by
  rw [← overN_pos]
  have := of_decide_eq_true h
  exact decide_eq_true (by omega)
theorem ov_no {c : Cfg} {s : St} (h : decide (((overN c s c.cells.length : Nat) : Int) > 0) = false) : overB c s = false := by
  rw [← overN_pos]
  have := of_decide_eq_false h
  exact decide_eq_false (by omega)
def placeF : FT := [(49, ctNo), (91, ctFrozenR), (89, ctMay), (92, ctTogether), (93, ctFit)]
def placeD : List (Nat × DQ) := [(9000000, { k := 0, L := [93] }), (11, { k := 13, L := [18], pre := [(0, false), (1, false), (2, false), (3, false), (4, false), (5, false), (6, false), (7, false), (8, false), (9, true), (10, false), (11, false), (12, true)] })]
theorem placeFok : FTokI Tryz.prog placeF (inlOf placeD) := fti_cons (noOk.i _) (fti_cons (frozenROk.i _) (fti_cons (mayOk.i _) (fti_cons (togetherOk.i _) (fti_cons (fitOk (by decide)) fti_nil))))
abbrev ctPlaceI : CT := ctInl ttU placeF placeD Tryz.f50 (bodyOf Tryz.f50)
theorem placeIOk {I : List Nat} (hI : I.contains 50 = true) : CSoundI Tryz.prog I 50 ctPlaceI := inl_ok ttUok placeFok mixed (by kernel_rfl) Tryz.func50 rfl (by kernel_rfl) hI
def grantF : FT := [(49, ctNo), (94, ctGrantedR), (93, ctFit)]
def grantD : List (Nat × DQ) := [(9000000, { k := 0, L := [93] }), (2, { k := 17, L := LA, pre := [(0, false), (1, false), (2, false), (3, false), (4, false), (5, false), (6, false), (7, false), (8, false), (9, false), (10, false), (11, false), (12, false), (13, false), (14, false), (15, false), (16, false)] }), (4, { k := 23, L := LA, pre := [(0, false), (1, false), (2, false), (3, false), (4, false), (5, false), (6, false), (7, false), (8, false), (9, false), (10, false), (11, false), (12, false), (13, false), (14, false), (15, false), (16, false), (17, false), (18, false), (19, false), (20, false), (21, false), (22, false)] }), (5000003, { k := 40, L := LA, sl := [3, 4, 5, 6, 7, 8] }), (5000005, { k := 40, L := LA, sl := [3, 4, 5, 6, 7, 8] })]
theorem grantFok : FTokI Tryz.prog grantF (inlOf grantD) := fti_cons (noOk.i _) (fti_cons (grantedROk.i _) (fti_cons (fitOk (by decide)) fti_nil))
abbrev ctGrantI : CT := ctInl ttU grantF grantD Tryz.f51 (bodyOf Tryz.f51)
theorem grantIOk {I : List Nat} (hI : I.contains 51 = true) : CSoundI Tryz.prog I 51 ctGrantI := inl_ok ttUok grantFok mixed (by kernel_rfl) Tryz.func51 rfl (by kernel_rfl) hI
def cutF : FT := [(49, ctNo), (95, ctCutW)]
def cutD : List (Nat × DQ) := [(9000000, { k := 0, L := [] }), (4, { k := 6, L := LA, pre := [(0, false), (1, false), (2, false), (3, false), (4, false), (5, false)] }), (6, { k := 8, L := LA, pre := [(0, false), (1, false), (2, false), (3, false), (4, false), (5, false), (6, false), (7, true)] })]
theorem cutFok : FTokI Tryz.prog cutF (inlOf cutD) := fti_cons (noOk.i _) (fti_cons (cutWOk.i _) fti_nil)
abbrev ctCutI : CT := ctInl ttU cutF cutD Tryz.f52 (bodyOf Tryz.f52)
theorem cutIOk {I : List Nat} (hI : I.contains 52 = true) : CSoundI Tryz.prog I 52 ctCutI := inl_ok ttUok cutFok mixed (by kernel_rfl) Tryz.func52 rfl (by kernel_rfl) hI
def standbyF : FT := [(49, ctNo), (91, ctFrozenR), (89, ctMay), (92, ctTogether), (93, ctFit)]
def standbyD : List (Nat × DQ) := [(9000000, { k := 0, L := [93] }), (5, { k := 23, L := LA, pre := [(0, false), (1, false), (2, false), (3, false), (4, false), (5, false), (6, false), (7, false), (8, false), (9, false), (10, false), (11, false), (12, false), (13, false), (14, false), (15, false), (16, false), (17, false), (18, false), (19, false), (20, false), (21, false), (22, false)] }), (11, { k := 25, L := LA, pre := [(0, false), (1, false), (2, false), (3, false), (4, false), (5, true), (6, false), (7, false), (8, false), (9, false), (10, false), (11, false), (12, false), (13, false), (14, false), (15, true), (16, false), (17, false), (18, false), (19, false), (20, false), (21, false), (22, false), (23, false), (24, false)] }), (5000006, { k := 40, L := LA, sl := [3, 4, 5, 6, 7, 8] }), (5000012, { k := 40, L := LA, sl := [3, 4, 5, 6, 7, 8] }), (1000013, { k := 40, L := LA, sl := [3, 4, 5, 6, 7, 8] })]
theorem standbyFok : FTokI Tryz.prog standbyF (inlOf standbyD) := fti_cons (noOk.i _) (fti_cons (frozenROk.i _) (fti_cons (mayOk.i _) (fti_cons (togetherOk.i _) (fti_cons (fitOk (by decide)) fti_nil))))
abbrev ctStandbyI : CT := ctInl ttU standbyF standbyD Tryz.f53 (bodyOf Tryz.f53)
theorem standbyIOk {I : List Nat} (hI : I.contains 53 = true) : CSoundI Tryz.prog I 53 ctStandbyI := inl_ok ttUok standbyFok mixed (by kernel_rfl) Tryz.func53 rfl (by kernel_rfl) hI
def readyF : FT := [(49, ctNo)]
def readyD : List (Nat × DQ) := [(9000000, { k := 0, L := [] }), (4, { k := 6, L := LA, pre := [(0, false), (1, false), (2, false), (3, false), (4, false), (5, false)] })]
theorem readyFok : FTokI Tryz.prog readyF (inlOf readyD) := fti_cons (noOk.i _) fti_nil
abbrev ctReadyI : CT := ctInl ttU readyF readyD Tryz.f54 (bodyOf Tryz.f54)
theorem readyIOk {I : List Nat} (hI : I.contains 54 = true) : CSoundI Tryz.prog I 54 ctReadyI := inl_ok ttUok readyFok mixed (by kernel_rfl) Tryz.func54 rfl (by kernel_rfl) hI
def migrateF : FT := [(49, ctNo), (91, ctFrozenR), (89, ctMay), (92, ctTogether), (93, ctFit)]
def migrateD : List (Nat × DQ) := [(9000000, { k := 0, L := [93] }), (4, { k := 23, L := LA, pre := [(0, false), (1, false), (2, false), (3, false), (4, false), (5, false), (6, false), (7, false), (8, false), (9, false), (10, false), (11, false), (12, false), (13, false), (14, false), (15, false), (16, false), (17, false), (18, false), (19, false), (20, false), (21, false), (22, false)] }), (10, { k := 25, L := LA, pre := [(0, false), (1, false), (2, false), (3, false), (4, false), (5, true), (6, false), (7, false), (8, false), (9, false), (10, false), (11, false), (12, false), (13, false), (14, false), (15, true), (16, false), (17, false), (18, false), (19, false), (20, false), (21, false), (22, false), (23, false), (24, false)] }), (5000003, { k := 40, L := LA, sl := [3, 4, 5, 6, 7, 8] }), (5000005, { k := 40, L := LA, sl := [3, 4, 5, 6, 7, 8] }), (5000011, { k := 40, L := LA, sl := [3, 4, 5, 6, 7, 8] })]
theorem migrateFok : FTokI Tryz.prog migrateF (inlOf migrateD) := fti_cons (noOk.i _) (fti_cons (frozenROk.i _) (fti_cons (mayOk.i _) (fti_cons (togetherOk.i _) (fti_cons (fitOk (by decide)) fti_nil))))
abbrev ctMigrateI : CT := ctInl ttU migrateF migrateD Tryz.f55 (bodyOf Tryz.f55)
theorem migrateIOk {I : List Nat} (hI : I.contains 55 = true) : CSoundI Tryz.prog I 55 ctMigrateI := inl_ok ttUok migrateFok mixed (by kernel_rfl) Tryz.func55 rfl (by kernel_rfl) hI
def abandonF : FT := [(49, ctNo)]
def abandonD : List (Nat × DQ) := [(9000000, { k := 0, L := [] }), (5000003, { k := 40, L := LA, sl := [2, 3, 4, 5, 6] })]
theorem abandonFok : FTokI Tryz.prog abandonF (inlOf abandonD) := fti_cons (noOk.i _) fti_nil
abbrev ctAbandonI : CT := ctInl ttU abandonF abandonD Tryz.f56 (bodyOf Tryz.f56)
theorem abandonIOk {I : List Nat} (hI : I.contains 56 = true) : CSoundI Tryz.prog I 56 ctAbandonI := inl_ok ttUok abandonFok mixed (by kernel_rfl) Tryz.func56 rfl (by kernel_rfl) hI
def shedF : FT := [(49, ctNo), (93, ctFit)]
def shedD : List (Nat × DQ) := [(9000000, { k := 0, L := [93] }), (5, { k := 7, L := LA, pre := [(0, false), (1, false), (2, false), (3, false), (4, false), (5, false), (6, false)] }), (11, { k := 6, L := LA, pre := [(0, false), (1, false), (2, false), (3, false), (4, false), (5, false)] }), (5000004, { k := 40, L := LA, sl := [3, 4, 5, 6, 7, 8] })]
theorem shedFok : FTokI Tryz.prog shedF (inlOf shedD) := fti_cons (noOk.i _) (fti_cons (fitOk (by decide)) fti_nil)
abbrev ctShedI : CT := ctInl ttU shedF shedD Tryz.f57 (bodyOf Tryz.f57)
theorem shedIOk {I : List Nat} (hI : I.contains 57 = true) : CSoundI Tryz.prog I 57 ctShedI := inl_ok ttUok shedFok mixed (by kernel_rfl) Tryz.func57 rfl (by kernel_rfl) hI
def wantF : FT := [(49, ctNo), (96, ctProvenR), (65, ctOpenR)]
def wantD : List (Nat × DQ) := [(9000000, { k := 0, L := [] }), (9, { k := 6, L := LA, pre := [(0, false), (1, false), (2, false), (3, false), (4, false), (5, false)] }), (13, { k := 11, L := LA, pre := [(0, false), (1, false), (2, false), (3, false), (4, false), (5, false), (6, false), (7, false), (8, false), (9, false), (10, false)] }), (15, { k := 18, L := LA, pre := [(0, false), (1, false), (2, false), (3, false), (4, false), (5, false), (6, false), (7, false), (8, false), (9, false), (10, false), (11, true), (12, false), (13, false), (14, false), (15, false), (16, false), (17, false)] }), (2000005, { k := 0, L := LA, sl := [3, 4, 5, 6, 7, 8, 9] }), (1000006, { k := 40, L := LA, sl := [3, 4, 5, 6, 7, 8, 9, 11] }), (5000012, { k := 40, L := LA, sl := [3, 4, 5, 6, 7, 8, 9, 10] }), (5000014, { k := 40, L := LA, sl := [3, 4, 5, 6, 7, 8, 9, 10] }), (5000016, { k := 40, L := LA, sl := [3, 4, 5, 6, 7, 8, 9, 10] })]
theorem wantFok : FTokI Tryz.prog wantF (inlOf wantD) := fti_cons (noOk.i _) (fti_cons (provenROk.i _) (fti_cons (openROk.i _) fti_nil))
abbrev ctWantI : CT := ctInl ttU wantF wantD Tryz.f58 (bodyOf Tryz.f58)
theorem wantIOk {I : List Nat} (hI : I.contains 58 = true) : CSoundI Tryz.prog I 58 ctWantI := inl_ok ttUok wantFok mixed (by kernel_rfl) Tryz.func58 rfl (by kernel_rfl) hI
def runsF : FT := [(49, ctNo), (96, ctProvenR)]
def runsD : List (Nat × DQ) := [(9000000, { k := 0, L := [] }), (2, { k := 16, L := LA, pre := [(0, false), (1, false), (2, false), (3, false), (4, false), (5, false), (6, false), (7, false), (8, false), (9, false), (10, false), (11, false), (12, false), (13, false), (14, false), (15, false)] }), (12, { k := 9, L := [17], pre := [(0, false), (1, false), (2, false), (3, false), (4, false), (5, false), (6, false), (7, false), (8, true)] }), (5000003, { k := 40, L := LA, sl := [2, 3, 4, 5, 6] }), (5000005, { k := 40, L := LA, sl := [2, 3, 4, 5, 6] }), (2000007, { k := 0, L := LA, sl := [2, 3, 4, 5, 6] }), (5000011, { k := 50, L := LA, sl := [2, 3, 4, 5, 6, 7] })]
theorem runsFok : FTokI Tryz.prog runsF (inlOf runsD) := fti_cons (noOk.i _) (fti_cons (provenROk.i _) fti_nil)
abbrev ctRunsI : CT := ctInl ttU runsF runsD Tryz.f59 (bodyOf Tryz.f59)
theorem runsIOk {I : List Nat} (hI : I.contains 59 = true) : CSoundI Tryz.prog I 59 ctRunsI := inl_ok ttUok runsFok mixed (by kernel_rfl) Tryz.func59 rfl (by kernel_rfl) hI
def proveF : FT := [(49, ctNo), (96, ctProvenR)]
def proveD : List (Nat × DQ) := [(9000000, { k := 0, L := [] }), (2000004, { k := 0, L := LA, sl := [3, 4, 5, 6, 7] }), (5000008, { k := 40, L := LA, sl := [3, 4, 5, 6, 7, 8] })]
theorem proveFok : FTokI Tryz.prog proveF (inlOf proveD) := fti_cons (noOk.i _) (fti_cons (provenROk.i _) fti_nil)
abbrev ctProveI : CT := ctInl ttU proveF proveD Tryz.f60 (bodyOf Tryz.f60)
theorem proveIOk {I : List Nat} (hI : I.contains 60 = true) : CSoundI Tryz.prog I 60 ctProveI := inl_ok ttUok proveFok mixed (by kernel_rfl) Tryz.func60 rfl (by kernel_rfl) hI
def expandF : FT := [(49, ctNo)]
def expandD : List (Nat × DQ) := [(9000000, { k := 0, L := [] }), (9, { k := 20, L := LA, pre := [(0, false), (1, false), (2, false), (3, false), (4, false), (5, false), (6, false), (7, false), (8, false), (9, false), (10, false), (11, false), (12, false), (13, false), (14, false), (15, false), (16, false), (17, false), (18, false), (19, false)] }), (2000006, { k := 0, L := LA, sl := [2, 3, 4, 5] }), (5000010, { k := 40, L := LA, sl := [2, 3, 4, 5, 6] })]
theorem expandFok : FTokI Tryz.prog expandF (inlOf expandD) := fti_cons (noOk.i _) fti_nil
abbrev ctExpandI : CT := ctInl ttU expandF expandD Tryz.f62 (bodyOf Tryz.f62)
theorem expandIOk {I : List Nat} (hI : I.contains 62 = true) : CSoundI Tryz.prog I 62 ctExpandI := inl_ok ttUok expandFok mixed (by kernel_rfl) Tryz.func62 rfl (by kernel_rfl) hI
def arF : FT := [(25, ctValid6), (49, ctNo), (18, ctCopied), (61, ctHas), (50, ctPlaceI), (51, ctGrantI), (52, ctCutI), (53, ctStandbyI), (54, ctReadyI), (55, ctMigrateI), (56, ctAbandonI), (57, ctShedI), (58, ctWantI), (59, ctRunsI), (60, ctProveI), (62, ctExpandI)]
def arD : List (Nat × DQ) := [(9000000, { k := 0, L := [50, 51, 52, 53, 54, 55, 56, 57, 58, 59, 60, 62] }), (27, { k := 9, L := [11, 12, 14], pre := [(0, false), (1, false), (2, false), (3, false), (4, false), (5, false), (6, false), (7, false), (8, false)] }), (29, { k := 15, L := [11, 12], pre := [(0, false), (1, false), (2, false), (3, false), (4, false), (5, false), (6, false), (7, false), (8, false), (9, false), (10, false), (11, false), (12, true), (13, false), (14, true)] }), (37, { k := 8, L := [11, 12], pre := [(0, false), (1, false), (2, false), (3, false), (5, false), (6, false), (7, false), (4, true)] })]
theorem arFok : FTokI Tryz.prog arF (inlOf arD) := fti_cons (valid6Ok.i _) (fti_cons (noOk.i _) (fti_cons (copiedOk.i _) (fti_cons (hasOk.i _) (fti_cons (placeIOk (by decide)) (fti_cons (grantIOk (by decide)) (fti_cons (cutIOk (by decide)) (fti_cons (standbyIOk (by decide)) (fti_cons (readyIOk (by decide)) (fti_cons (migrateIOk (by decide)) (fti_cons (abandonIOk (by decide)) (fti_cons (shedIOk (by decide)) (fti_cons (wantIOk (by decide)) (fti_cons (runsIOk (by decide)) (fti_cons (proveIOk (by decide)) (fti_cons (expandIOk (by decide)) (fti_nil))))))))))))))))
end Go.Proofs.YtjobcfpnmfjlfaaGreat

namespace Go.Proofs.YtjobcfpnmfjlfaaGreat
open Go.RowKit
set_option linter.unusedSimpArgs false
set_option linter.unusedVariables false

set_option maxRecDepth 100000 in
set_option maxHeartbeats 4000000 in
theorem apPlace (x : CfgK) (c : Cfg) (y : StK) (s : St) (e : Ent) (hA : ArH c s e) (hk : e.kind = 1) : sx ttU arF arD (bodyOf Tryz.f21) (argF 0 [cfgV CN1 x c, stV SN1 y s, entV' e]) (rdM c s noS) 10 (endx ttU Tryz.f21.results.toList fun v mem' _ => ApS mem' v (applyR c s e)) := by
  have hV := hA.cfg
  have hI := hA.inv
  have hE := hA.ent
  have hcn := hA.cnt
  have htk := hA.tick
  have hlt := hI.lt
  have hlc := hI.lc
  have hnt := hV.nt
  have hnc := hV.nc
  have hct := hI.count
  have hst := hI.tick
  have hev := hI.evac
  have hpv := hI.proven
  have htb := hA.tB
  have hP : kindE c s e = placeE c s e := by unfold kindE; simp [hk]
  have hf := hE
  simp [entV, entOk, inS, inR, fT, fC, fO, fE, fW, fN, hk] at hf
  refine ⟨CN1, x, c, e, rfl, (by repeat (first | exact trivial | refine ⟨rfl, ?_⟩)), hV, ?_⟩
  refine ⟨fun h => absurd h (by rw [hE]; decide), fun _ => ?_⟩
  refine ⟨fun h => absurd (of_decide_eq_true h) (by omega), fun _ => ?_⟩
  refine ⟨fun h => absurd (of_decide_eq_true h) (by omega), fun _ => ?_⟩
  refine ⟨SN1, y, s, rfl, ⟨.list rfl, .list rfl⟩, ⟨by omega, by omega⟩, ?_⟩
  intro y2
  refine ⟨fun _ => ?_, fun h => absurd h (by rw [hk]; decide)⟩
  rw [wrapi (n := s.count + 1) (by omega)]
  by_cases ho : 0 ≤ e.other
  · refine ⟨⟨Nat.le_refl _, by omega, by omega⟩, ?_⟩
    refine ⟨fun h1 => ?_, fun h1 => ?_⟩
    · repeat (first | refine ⟨fun _ => ?_, fun h => Bool.noConfusion h⟩ | refine ⟨fun h => Bool.noConfusion h, fun _ => ?_⟩ | fail)
      refine ⟨4, rfl, ?_⟩
      exact ApS.err (hA.err (by rw [hP]; unfold placeE tsAt csAt nearB; grind) (by decide))
    · refine ⟨⟨Nat.le_refl _, by omega, by omega⟩, ?_⟩
      refine ⟨fun h2 => ?_, fun h2 => ?_⟩
      · repeat (first | refine ⟨fun _ => ?_, fun h => Bool.noConfusion h⟩ | refine ⟨fun h => Bool.noConfusion h, fun _ => ?_⟩ | fail)
        refine ⟨6, rfl, ?_⟩
        exact ApS.err (hA.err (by rw [hP]; unfold placeE tsAt csAt nearB; grind) (by decide))
      · refine ⟨fun _ => ?_, fun h => absurd h (by simp; omega)⟩
        refine ⟨⟨Nat.le_refl _, by omega, by omega⟩, ?_⟩
        refine ⟨fun h3 => ?_, fun h3 => ?_⟩
        · repeat (first | refine ⟨fun _ => ?_, fun h => Bool.noConfusion h⟩ | refine ⟨fun h => Bool.noConfusion h, fun _ => ?_⟩ | fail)
          refine ⟨6, rfl, ?_⟩
          exact ApS.err (hA.err (by rw [hP]; unfold placeE tsAt csAt nearB; grind) (by decide))
        · refine ⟨CN1, x, c, ⟨15, 14, 0⟩, y2, _, _, ⟨e.tick, s.count + 1, s.tenants, s.cells, s.proven, s.evac, s.low, s.high⟩, e.cell, rfl, ⟨(by repeat (first | exact trivial | refine ⟨rfl, ?_⟩)), ⟨rfl, rfl, .list rfl, .list rfl⟩⟩, ⟨hV, by dsimp only; omega⟩, ?_⟩
          refine ⟨fun h4 => ?_, fun h4 => ?_⟩
          · replace h4 : frozenB c s e.cell = true := h4
            repeat (first | refine ⟨fun _ => ?_, fun h => Bool.noConfusion h⟩ | refine ⟨fun h => Bool.noConfusion h, fun _ => ?_⟩ | fail)
            refine ⟨12, rfl, ?_⟩
            exact ApS.err (hA.err (by rw [hP]; unfold placeE tsAt csAt nearB; grind) (by decide))
          · replace h4 : frozenB c s e.cell = false := h4
            refine ⟨fun _ => ?_, fun h => absurd h (by simp; omega)⟩
            refine ⟨CN1, x, c, ⟨15, 14, 0⟩, y2, _, _, ⟨e.tick, s.count + 1, s.tenants, s.cells, s.proven, s.evac, s.low, s.high⟩, e.other, rfl, ⟨(by repeat (first | exact trivial | refine ⟨rfl, ?_⟩)), ⟨rfl, rfl, .list rfl, .list rfl⟩⟩, ⟨hV, by dsimp only; omega⟩, ?_⟩
            refine ⟨fun h5 => ?_, fun h5 => ?_⟩
            · replace h5 : frozenB c s e.other = true := h5
              repeat (first | refine ⟨fun _ => ?_, fun h => Bool.noConfusion h⟩ | refine ⟨fun h => Bool.noConfusion h, fun _ => ?_⟩ | fail)
              refine ⟨12, rfl, ?_⟩
              exact ApS.err (hA.err (by rw [hP]; unfold placeE tsAt csAt nearB; grind) (by decide))
            · replace h5 : frozenB c s e.other = false := h5
              refine ⟨CN1, x, c, _, _, rfl, (by repeat (first | exact trivial | refine ⟨rfl, ?_⟩)), hV, ?_⟩
              refine ⟨fun h6 => ?_, fun h6 => ?_⟩
              · repeat (first | refine ⟨fun _ => ?_, fun h => Bool.noConfusion h⟩ | refine ⟨fun h => Bool.noConfusion h, fun _ => ?_⟩ | fail)
                refine ⟨11, rfl, ?_⟩
                exact ApS.err (hA.err (by rw [hP]; unfold placeE tsAt csAt nearB; grind) (by decide))
              · refine ⟨fun _ => ?_, fun h => absurd h (by simp; omega)⟩
                refine ⟨CN1, x, c, _, _, rfl, (by repeat (first | exact trivial | refine ⟨rfl, ?_⟩)), hV, ?_⟩
                refine ⟨fun h7 => ?_, fun h7 => ?_⟩
                · repeat (first | refine ⟨fun _ => ?_, fun h => Bool.noConfusion h⟩ | refine ⟨fun h => Bool.noConfusion h, fun _ => ?_⟩ | fail)
                  refine ⟨11, rfl, ?_⟩
                  exact ApS.err (hA.err (by rw [hP]; unfold placeE tsAt csAt nearB; grind) (by decide))
                · refine ⟨CN1, x, c, _, _, rfl, (by repeat (first | exact trivial | refine ⟨rfl, ?_⟩)), hV, ?_⟩
                  refine ⟨fun h8 => ?_, fun h8 => ?_⟩
                  · unfold togB at h8
                    repeat (first | refine ⟨fun _ => ?_, fun h => Bool.noConfusion h⟩ | refine ⟨fun h => Bool.noConfusion h, fun _ => ?_⟩ | fail)
                    refine ⟨11, rfl, ?_⟩
                    exact ApS.err (hA.err (by rw [hP]; unfold placeE tsAt csAt nearB; grind) (by decide))
                  · have hi : e.tenant.toNat < s.tenants.length := by omega
                    refine ⟨tsC { (s.tenants.getD e.tenant.toNat default) with placed := true }, (by first | rfl | (show putN _ _ (tsC (List.getD _ _ _)) = _; rw [getD_set hi]; rfl)), ?_⟩
                    rw [setEl_set (by first | exact hi | (rw [List.length_set]; exact hi))]
                    try rw [List.set_set]
                    refine ⟨(by repeat (first | exact trivial | refine ⟨rfl, ?_⟩)), ?_⟩
                    refine ⟨tsC { (s.tenants.getD e.tenant.toNat default) with placed := true, home := e.cell }, (by first | rfl | (show putN _ _ (tsC (List.getD _ _ _)) = _; rw [getD_set hi]; rfl)), ?_⟩
                    rw [setEl_set (by first | exact hi | (rw [List.length_set]; exact hi))]
                    try rw [List.set_set]
                    refine ⟨(by repeat (first | exact trivial | refine ⟨rfl, ?_⟩)), ?_⟩
                    refine ⟨tsC { (s.tenants.getD e.tenant.toNat default) with placed := true, home := e.cell, standby := e.other }, (by first | rfl | (show putN _ _ (tsC (List.getD _ _ _)) = _; rw [getD_set hi]; rfl)), ?_⟩
                    rw [setEl_set (by first | exact hi | (rw [List.length_set]; exact hi))]
                    try rw [List.set_set]
                    unfold togB at h8
                    have hk0 : kindE c s e = 0 := by rw [hP]; unfold placeE tsAt csAt nearB; grind
                    have heff : effOf s e = (⟨e.tick, s.count + 1, s.tenants.set e.tenant.toNat { (s.tenants.getD e.tenant.toNat default) with placed := true, home := e.cell, standby := e.other }, s.cells, s.proven, s.evac, s.low, s.high⟩ : St) := by simp [effOf, stamped, setTen, tenEff, tsAt, hk]
                    refine ⟨CN1, x, c, ⟨15, 14, 0⟩, y2, _, _, (⟨e.tick, s.count + 1, s.tenants.set e.tenant.toNat { (s.tenants.getD e.tenant.toNat default) with placed := true, home := e.cell, standby := e.other }, s.cells, s.proven, s.evac, s.low, s.high⟩ : St), rfl, ⟨(by repeat (first | exact trivial | refine ⟨rfl, ?_⟩)), ⟨(by first | rfl | (simp)), rfl, ⟨_, _, _, rfl, (by first | exact Nat.le_refl _ | (simp)), fun k hk => rfl⟩, .list rfl⟩⟩, ⟨hV, by simp; omega⟩, ?_⟩
                    intro cap
                    refine ⟨fun hov => ?_, fun hov => ?_⟩
                    · exact ApS.err (hA.over hk0 (by unfold fitsB; simp [hk]) (by rw [heff]; exact ov_yes hov))
                    · exact ApS.ok (M := ⟨15, 14, 0⟩) (y := y2) (s := (⟨e.tick, s.count + 1, s.tenants.set e.tenant.toNat { (s.tenants.getD e.tenant.toNat default) with placed := true, home := e.cell, standby := e.other }, s.cells, s.proven, s.evac, s.low, s.high⟩ : St)) (by rw [hA.fine hk0 (fun _ => by rw [heff]; exact ov_no hov), heff]) (by first | rfl | (simp)) rfl ⟨_, _, _, rfl, rfl, (by first | exact Nat.le_refl _ | (simp)), fun k hk => rfl⟩ ⟨_, _, _, rfl, rfl, Nat.le_refl _, fun k hk => rfl⟩
  · refine ⟨⟨Nat.le_refl _, by omega, by omega⟩, ?_⟩
    refine ⟨fun h1 => ?_, fun h1 => ?_⟩
    · repeat (first | refine ⟨fun _ => ?_, fun h => Bool.noConfusion h⟩ | refine ⟨fun h => Bool.noConfusion h, fun _ => ?_⟩ | fail)
      refine ⟨4, rfl, ?_⟩
      exact ApS.err (hA.err (by rw [hP]; unfold placeE tsAt csAt nearB; grind) (by decide))
    · refine ⟨⟨Nat.le_refl _, by omega, by omega⟩, ?_⟩
      refine ⟨fun h2 => ?_, fun h2 => ?_⟩
      · repeat (first | refine ⟨fun _ => ?_, fun h => Bool.noConfusion h⟩ | refine ⟨fun h => Bool.noConfusion h, fun _ => ?_⟩ | fail)
        refine ⟨6, rfl, ?_⟩
        exact ApS.err (hA.err (by rw [hP]; unfold placeE tsAt csAt nearB; grind) (by decide))
      · refine ⟨fun h => absurd h (by simp; omega), fun _ => ?_⟩
        repeat (first | refine ⟨fun _ => ?_, fun h => Bool.noConfusion h⟩ | refine ⟨fun h => Bool.noConfusion h, fun _ => ?_⟩ | fail)
        refine ⟨CN1, x, c, ⟨15, 14, 0⟩, y2, _, _, ⟨e.tick, s.count + 1, s.tenants, s.cells, s.proven, s.evac, s.low, s.high⟩, e.cell, rfl, ⟨(by repeat (first | exact trivial | refine ⟨rfl, ?_⟩)), ⟨rfl, rfl, .list rfl, .list rfl⟩⟩, ⟨hV, by dsimp only; omega⟩, ?_⟩
        refine ⟨fun h4 => ?_, fun h4 => ?_⟩
        · replace h4 : frozenB c s e.cell = true := h4
          repeat (first | refine ⟨fun _ => ?_, fun h => Bool.noConfusion h⟩ | refine ⟨fun h => Bool.noConfusion h, fun _ => ?_⟩ | fail)
          refine ⟨12, rfl, ?_⟩
          exact ApS.err (hA.err (by rw [hP]; unfold placeE tsAt csAt nearB; grind) (by decide))
        · replace h4 : frozenB c s e.cell = false := h4
          refine ⟨fun h => absurd h (by simp; omega), fun _ => ?_⟩
          repeat (first | refine ⟨fun _ => ?_, fun h => Bool.noConfusion h⟩ | refine ⟨fun h => Bool.noConfusion h, fun _ => ?_⟩ | fail)
          refine ⟨CN1, x, c, _, _, rfl, (by repeat (first | exact trivial | refine ⟨rfl, ?_⟩)), hV, ?_⟩
          refine ⟨fun h6 => ?_, fun h6 => ?_⟩
          · repeat (first | refine ⟨fun _ => ?_, fun h => Bool.noConfusion h⟩ | refine ⟨fun h => Bool.noConfusion h, fun _ => ?_⟩ | fail)
            refine ⟨11, rfl, ?_⟩
            exact ApS.err (hA.err (by rw [hP]; unfold placeE tsAt csAt nearB; grind) (by decide))
          · refine ⟨fun h => absurd h (by simp; omega), fun _ => ?_⟩
            repeat (first | refine ⟨fun _ => ?_, fun h => Bool.noConfusion h⟩ | refine ⟨fun h => Bool.noConfusion h, fun _ => ?_⟩ | fail)
            have hi : e.tenant.toNat < s.tenants.length := by omega
            refine ⟨tsC { (s.tenants.getD e.tenant.toNat default) with placed := true }, (by first | rfl | (show putN _ _ (tsC (List.getD _ _ _)) = _; rw [getD_set hi]; rfl)), ?_⟩
            rw [setEl_set (by first | exact hi | (rw [List.length_set]; exact hi))]
            try rw [List.set_set]
            refine ⟨(by repeat (first | exact trivial | refine ⟨rfl, ?_⟩)), ?_⟩
            refine ⟨tsC { (s.tenants.getD e.tenant.toNat default) with placed := true, home := e.cell }, (by first | rfl | (show putN _ _ (tsC (List.getD _ _ _)) = _; rw [getD_set hi]; rfl)), ?_⟩
            rw [setEl_set (by first | exact hi | (rw [List.length_set]; exact hi))]
            try rw [List.set_set]
            refine ⟨(by repeat (first | exact trivial | refine ⟨rfl, ?_⟩)), ?_⟩
            refine ⟨tsC { (s.tenants.getD e.tenant.toNat default) with placed := true, home := e.cell, standby := e.other }, (by first | rfl | (show putN _ _ (tsC (List.getD _ _ _)) = _; rw [getD_set hi]; rfl)), ?_⟩
            rw [setEl_set (by first | exact hi | (rw [List.length_set]; exact hi))]
            try rw [List.set_set]
            have hk0 : kindE c s e = 0 := by rw [hP]; unfold placeE tsAt csAt nearB; grind
            have heff : effOf s e = (⟨e.tick, s.count + 1, s.tenants.set e.tenant.toNat { (s.tenants.getD e.tenant.toNat default) with placed := true, home := e.cell, standby := e.other }, s.cells, s.proven, s.evac, s.low, s.high⟩ : St) := by simp [effOf, stamped, setTen, tenEff, tsAt, hk]
            refine ⟨CN1, x, c, ⟨15, 14, 0⟩, y2, _, _, (⟨e.tick, s.count + 1, s.tenants.set e.tenant.toNat { (s.tenants.getD e.tenant.toNat default) with placed := true, home := e.cell, standby := e.other }, s.cells, s.proven, s.evac, s.low, s.high⟩ : St), rfl, ⟨(by repeat (first | exact trivial | refine ⟨rfl, ?_⟩)), ⟨(by first | rfl | (simp)), rfl, ⟨_, _, _, rfl, (by first | exact Nat.le_refl _ | (simp)), fun k hk => rfl⟩, .list rfl⟩⟩, ⟨hV, by simp; omega⟩, ?_⟩
            intro cap
            refine ⟨fun hov => ?_, fun hov => ?_⟩
            · exact ApS.err (hA.over hk0 (by unfold fitsB; simp [hk]) (by rw [heff]; exact ov_yes hov))
            · exact ApS.ok (M := ⟨15, 14, 0⟩) (y := y2) (s := (⟨e.tick, s.count + 1, s.tenants.set e.tenant.toNat { (s.tenants.getD e.tenant.toNat default) with placed := true, home := e.cell, standby := e.other }, s.cells, s.proven, s.evac, s.low, s.high⟩ : St)) (by rw [hA.fine hk0 (fun _ => by rw [heff]; exact ov_no hov), heff]) (by first | rfl | (simp)) rfl ⟨_, _, _, rfl, rfl, (by first | exact Nat.le_refl _ | (simp)), fun k hk => rfl⟩ ⟨_, _, _, rfl, rfl, Nat.le_refl _, fun k hk => rfl⟩
set_option maxRecDepth 100000 in
set_option maxHeartbeats 4000000 in
theorem apCut (x : CfgK) (c : Cfg) (y : StK) (s : St) (e : Ent) (hA : ArH c s e) (hk : e.kind = 3) : sx ttU arF arD (bodyOf Tryz.f21) (argF 0 [cfgV CN1 x c, stV SN1 y s, entV' e]) (rdM c s noS) 10 (endx ttU Tryz.f21.results.toList fun v mem' _ => ApS mem' v (applyR c s e)) := by
  have hV := hA.cfg
  have hI := hA.inv
  have hE := hA.ent
  have hcn := hA.cnt
  have htk := hA.tick
  have hlt := hI.lt
  have hlc := hI.lc
  have hnt := hV.nt
  have hnc := hV.nc
  have hct := hI.count
  have hst := hI.tick
  have hev := hI.evac
  have hpv := hI.proven
  have htb := hA.tB
  have hP : kindE c s e = cutE s e := by unfold kindE; simp [hk]
  have hf := hE
  simp [entV, entOk, inS, inR, fT, fC, fO, fE, fW, fN, hk] at hf
  refine ⟨CN1, x, c, e, rfl, (by repeat (first | exact trivial | refine ⟨rfl, ?_⟩)), hV, ?_⟩
  refine ⟨fun h => absurd h (by rw [hE]; decide), fun _ => ?_⟩
  refine ⟨fun h => absurd (of_decide_eq_true h) (by omega), fun _ => ?_⟩
  refine ⟨fun h => absurd (of_decide_eq_true h) (by omega), fun _ => ?_⟩
  refine ⟨SN1, y, s, rfl, ⟨.list rfl, .list rfl⟩, ⟨by omega, by omega⟩, ?_⟩
  intro y2
  refine ⟨fun h => absurd h (by rw [hk]; decide), fun _ => ?_⟩
  refine ⟨fun h => absurd h (by rw [hk]; decide), fun _ => ?_⟩
  refine ⟨fun _ => ?_, fun h => absurd h (by rw [hk]; decide)⟩
  rw [wrapi (n := s.count + 1) (by omega)]
  have hi : e.tenant.toNat < s.tenants.length := by omega
  refine ⟨⟨Nat.le_refl _, by omega, by omega⟩, ?_⟩
  refine ⟨fun h1 => ?_, fun h1 => ?_⟩
  · repeat (first | refine ⟨fun _ => ?_, fun h => Bool.noConfusion h⟩ | refine ⟨fun h => Bool.noConfusion h, fun _ => ?_⟩ | fail)
    refine ⟨4, rfl, ?_⟩
    exact ApS.err (hA.err (by rw [hP]; unfold cutE tsAt; grind) (by decide))
  · refine ⟨fun h2 => ?_, fun h2 => ?_⟩
    · repeat (first | refine ⟨fun _ => ?_, fun h => Bool.noConfusion h⟩ | refine ⟨fun h => Bool.noConfusion h, fun _ => ?_⟩ | fail)
      refine ⟨7, rfl, ?_⟩
      exact ApS.err (hA.err (by rw [hP]; unfold cutE tsAt; grind) (by decide))
    · refine ⟨(s.tenants.getD e.tenant.toNat default).win, e.tick, rfl, by omega, ?_⟩
      refine ⟨(by repeat (first | exact trivial | refine ⟨rfl, ?_⟩)), ?_⟩
      refine ⟨tsC { (s.tenants.getD e.tenant.toNat default) with win := cutW (s.tenants.getD e.tenant.toNat default).win e.tick }, (by first | rfl | (show putN _ _ (tsC (List.getD _ _ _)) = _; rw [getD_set hi]; rfl)), ?_⟩
      rw [setEl_set (by first | exact hi | (rw [List.length_set]; exact hi))]
      try rw [List.set_set]
      have hk0 : kindE c s e = 0 := by rw [hP]; unfold cutE tsAt; grind
      have heff : effOf s e = (⟨e.tick, s.count + 1, s.tenants.set e.tenant.toNat { (s.tenants.getD e.tenant.toNat default) with win := cutW (s.tenants.getD e.tenant.toNat default).win e.tick }, s.cells, s.proven, s.evac, s.low, s.high⟩ : St) := by simp [effOf, stamped, setTen, setCel, tenEff, celEff, tsAt, csAt, hk]
      exact ApS.ok (M := ⟨15, 14, 0⟩) (y := y2) (s := (⟨e.tick, s.count + 1, s.tenants.set e.tenant.toNat { (s.tenants.getD e.tenant.toNat default) with win := cutW (s.tenants.getD e.tenant.toNat default).win e.tick }, s.cells, s.proven, s.evac, s.low, s.high⟩ : St)) (by rw [hA.fine hk0 (fun q => absurd q (by unfold fitsB; simp [hk])), heff]) (by first | rfl | (simp)) (by first | rfl | (simp)) ⟨_, _, _, rfl, rfl, (by first | exact Nat.le_refl _ | (simp)), fun k hk => rfl⟩ ⟨_, _, _, rfl, rfl, (by first | exact Nat.le_refl _ | (simp)), fun k hk => rfl⟩
set_option maxRecDepth 100000 in
set_option maxHeartbeats 4000000 in
theorem apReady (x : CfgK) (c : Cfg) (y : StK) (s : St) (e : Ent) (hA : ArH c s e) (hk : e.kind = 5) : sx ttU arF arD (bodyOf Tryz.f21) (argF 0 [cfgV CN1 x c, stV SN1 y s, entV' e]) (rdM c s noS) 10 (endx ttU Tryz.f21.results.toList fun v mem' _ => ApS mem' v (applyR c s e)) := by
  have hV := hA.cfg
  have hI := hA.inv
  have hE := hA.ent
  have hcn := hA.cnt
  have htk := hA.tick
  have hlt := hI.lt
  have hlc := hI.lc
  have hnt := hV.nt
  have hnc := hV.nc
  have hct := hI.count
  have hst := hI.tick
  have hev := hI.evac
  have hpv := hI.proven
  have htb := hA.tB
  have hP : kindE c s e = readyE s e := by unfold kindE; simp [hk]
  have hf := hE
  simp [entV, entOk, inS, inR, fT, fC, fO, fE, fW, fN, hk] at hf
  refine ⟨CN1, x, c, e, rfl, (by repeat (first | exact trivial | refine ⟨rfl, ?_⟩)), hV, ?_⟩
  refine ⟨fun h => absurd h (by rw [hE]; decide), fun _ => ?_⟩
  refine ⟨fun h => absurd (of_decide_eq_true h) (by omega), fun _ => ?_⟩
  refine ⟨fun h => absurd (of_decide_eq_true h) (by omega), fun _ => ?_⟩
  refine ⟨SN1, y, s, rfl, ⟨.list rfl, .list rfl⟩, ⟨by omega, by omega⟩, ?_⟩
  intro y2
  refine ⟨fun h => absurd h (by rw [hk]; decide), fun _ => ?_⟩
  refine ⟨fun h => absurd h (by rw [hk]; decide), fun _ => ?_⟩
  refine ⟨fun h => absurd h (by rw [hk]; decide), fun _ => ?_⟩
  refine ⟨fun h => absurd h (by rw [hk]; decide), fun _ => ?_⟩
  refine ⟨fun _ => ?_, fun h => absurd h (by rw [hk]; decide)⟩
  rw [wrapi (n := s.count + 1) (by omega)]
  have hi : e.tenant.toNat < s.tenants.length := by omega
  refine ⟨⟨Nat.le_refl _, by omega, by omega⟩, ?_⟩
  refine ⟨fun h1 => ?_, fun h1 => ?_⟩
  · repeat (first | refine ⟨fun _ => ?_, fun h => Bool.noConfusion h⟩ | refine ⟨fun h => Bool.noConfusion h, fun _ => ?_⟩ | fail)
    refine ⟨4, rfl, ?_⟩
    exact ApS.err (hA.err (by rw [hP]; unfold readyE tsAt csAt; grind) (by decide))
  · refine ⟨fun h2 => ?_, fun h2 => ?_⟩
    · repeat (first | refine ⟨fun _ => ?_, fun h => Bool.noConfusion h⟩ | refine ⟨fun h => Bool.noConfusion h, fun _ => ?_⟩ | fail)
      refine ⟨5, rfl, ?_⟩
      exact ApS.err (hA.err (by rw [hP]; unfold readyE tsAt csAt; grind) (by decide))
    · refine ⟨⟨Nat.le_refl _, by omega, by omega⟩, ?_⟩
      refine ⟨fun h3 => ?_, fun h3 => ?_⟩
      · repeat (first | refine ⟨fun _ => ?_, fun h => Bool.noConfusion h⟩ | refine ⟨fun h => Bool.noConfusion h, fun _ => ?_⟩ | fail)
        refine ⟨6, rfl, ?_⟩
        exact ApS.err (hA.err (by rw [hP]; unfold readyE tsAt csAt; grind) (by decide))
      · refine ⟨tsC { (s.tenants.getD e.tenant.toNat default) with standby := e.cell }, (by first | rfl | (show putN _ _ (tsC (List.getD _ _ _)) = _; rw [getD_set hi]; rfl)), ?_⟩
        rw [setEl_set (by first | exact hi | (rw [List.length_set]; exact hi))]
        try rw [List.set_set]
        refine ⟨tsC { (s.tenants.getD e.tenant.toNat default) with standby := e.cell, next := -1 }, (by first | rfl | (show putN _ _ (tsC (List.getD _ _ _)) = _; rw [getD_set hi]; rfl)), ?_⟩
        rw [setEl_set (by first | exact hi | (rw [List.length_set]; exact hi))]
        try rw [List.set_set]
        have hk0 : kindE c s e = 0 := by rw [hP]; unfold readyE tsAt csAt; grind
        have heff : effOf s e = (⟨e.tick, s.count + 1, s.tenants.set e.tenant.toNat { (s.tenants.getD e.tenant.toNat default) with standby := e.cell, next := -1 }, s.cells, s.proven, s.evac, s.low, s.high⟩ : St) := by simp [effOf, stamped, setTen, setCel, tenEff, celEff, tsAt, csAt, hk]
        exact ApS.ok (M := ⟨15, 14, 0⟩) (y := y2) (s := (⟨e.tick, s.count + 1, s.tenants.set e.tenant.toNat { (s.tenants.getD e.tenant.toNat default) with standby := e.cell, next := -1 }, s.cells, s.proven, s.evac, s.low, s.high⟩ : St)) (by rw [hA.fine hk0 (fun q => absurd q (by unfold fitsB; simp [hk])), heff]) (by first | rfl | (simp)) (by first | rfl | (simp)) ⟨_, _, _, rfl, rfl, (by first | exact Nat.le_refl _ | (simp)), fun k hk => rfl⟩ ⟨_, _, _, rfl, rfl, (by first | exact Nat.le_refl _ | (simp)), fun k hk => rfl⟩
set_option maxRecDepth 100000 in
set_option maxHeartbeats 4000000 in
theorem apAbandon (x : CfgK) (c : Cfg) (y : StK) (s : St) (e : Ent) (hA : ArH c s e) (hk : e.kind = 7) : sx ttU arF arD (bodyOf Tryz.f21) (argF 0 [cfgV CN1 x c, stV SN1 y s, entV' e]) (rdM c s noS) 10 (endx ttU Tryz.f21.results.toList fun v mem' _ => ApS mem' v (applyR c s e)) := by
  have hV := hA.cfg
  have hI := hA.inv
  have hE := hA.ent
  have hcn := hA.cnt
  have htk := hA.tick
  have hlt := hI.lt
  have hlc := hI.lc
  have hnt := hV.nt
  have hnc := hV.nc
  have hct := hI.count
  have hst := hI.tick
  have hev := hI.evac
  have hpv := hI.proven
  have htb := hA.tB
  have hP : kindE c s e = abandonE s e := by unfold kindE; simp [hk]
  have hf := hE
  simp [entV, entOk, inS, inR, fT, fC, fO, fE, fW, fN, hk] at hf
  refine ⟨CN1, x, c, e, rfl, (by repeat (first | exact trivial | refine ⟨rfl, ?_⟩)), hV, ?_⟩
  refine ⟨fun h => absurd h (by rw [hE]; decide), fun _ => ?_⟩
  refine ⟨fun h => absurd (of_decide_eq_true h) (by omega), fun _ => ?_⟩
  refine ⟨fun h => absurd (of_decide_eq_true h) (by omega), fun _ => ?_⟩
  refine ⟨SN1, y, s, rfl, ⟨.list rfl, .list rfl⟩, ⟨by omega, by omega⟩, ?_⟩
  intro y2
  refine ⟨fun h => absurd h (by rw [hk]; decide), fun _ => ?_⟩
  refine ⟨fun h => absurd h (by rw [hk]; decide), fun _ => ?_⟩
  refine ⟨fun h => absurd h (by rw [hk]; decide), fun _ => ?_⟩
  refine ⟨fun h => absurd h (by rw [hk]; decide), fun _ => ?_⟩
  refine ⟨fun h => absurd h (by rw [hk]; decide), fun _ => ?_⟩
  refine ⟨fun h => absurd h (by rw [hk]; decide), fun _ => ?_⟩
  refine ⟨fun _ => ?_, fun h => absurd h (by rw [hk]; decide)⟩
  rw [wrapi (n := s.count + 1) (by omega)]
  have hTi := hI.ten _ (List.mem_of_getElem? (getD_get (d := default) (show e.tenant.toNat < s.tenants.length by omega)))
  obtain ⟨hT1, hT2, hT3, hT4, hT5, hT6, hT7, hT8, hT9, hT10, hT11, hT12⟩ := hTi
  have hi : e.tenant.toNat < s.tenants.length := by omega
  refine ⟨⟨Nat.le_refl _, by omega, by omega⟩, ?_⟩
  refine ⟨Bool, fun b => [(23, .bool b)], fun _ => [], fun b => (b = true ↔ ((s.tenants.getD e.tenant.toNat default).placed = false ∨ (s.tenants.getD e.tenant.toNat default).target < 0)), ?_, ?_⟩
  · repeat' (first | refine ⟨fun _ => ?_, fun h => Bool.noConfusion h⟩ | refine ⟨fun h => Bool.noConfusion h, fun _ => ?_⟩ | refine ⟨fun _ => ?_, fun _ => ?_⟩ | refine ⟨⟨Nat.le_refl _, by omega, by omega⟩, ?_⟩ | fail)
    all_goals (refine ⟨_, ?_, (by repeat (first | exact trivial | refine ⟨rfl, ?_⟩)), (by repeat (first | exact trivial | refine ⟨rfl, ?_⟩))⟩; dsimp only; grind)
  · rintro b1 hb1
    refine ⟨⟨by decide, rfl, rfl⟩, ?_⟩
    refine ⟨fun h1 => ?_, fun h1 => ?_⟩
    · repeat (first | refine ⟨fun _ => ?_, fun h => Bool.noConfusion h⟩ | refine ⟨fun h => Bool.noConfusion h, fun _ => ?_⟩ | fail)
      refine ⟨4, rfl, ?_⟩
      exact ApS.err (hA.err (by rw [hP]; unfold abandonE tsAt; grind) (by decide))
    · refine ⟨tsC { (s.tenants.getD e.tenant.toNat default) with target := -1 }, (by first | rfl | (show putN _ _ (tsC (List.getD _ _ _)) = _; rw [getD_set hi]; rfl)), ?_⟩
      rw [setEl_set (by first | exact hi | (rw [List.length_set]; exact hi))]
      try rw [List.set_set]
      have hk0 : kindE c s e = 0 := by rw [hP]; unfold abandonE tsAt; grind
      have heff : effOf s e = (⟨e.tick, s.count + 1, s.tenants.set e.tenant.toNat { (s.tenants.getD e.tenant.toNat default) with target := -1 }, s.cells, s.proven, s.evac, s.low, s.high⟩ : St) := by simp [effOf, stamped, setTen, setCel, tenEff, celEff, tsAt, csAt, hk]
      exact ApS.ok (M := ⟨15, 14, 0⟩) (y := y2) (s := (⟨e.tick, s.count + 1, s.tenants.set e.tenant.toNat { (s.tenants.getD e.tenant.toNat default) with target := -1 }, s.cells, s.proven, s.evac, s.low, s.high⟩ : St)) (by rw [hA.fine hk0 (fun q => absurd q (by unfold fitsB; simp [hk])), heff]) (by first | rfl | (simp)) (by first | rfl | (simp)) ⟨_, _, _, rfl, rfl, (by first | exact Nat.le_refl _ | (simp)), fun k hk => rfl⟩ ⟨_, _, _, rfl, rfl, (by first | exact Nat.le_refl _ | (simp)), fun k hk => rfl⟩
end Go.Proofs.YtjobcfpnmfjlfaaGreat

namespace Go.Proofs.YtjobcfpnmfjlfaaGreat
open Go.RowKit
set_option linter.unusedSimpArgs false
set_option linter.unusedVariables false

set_option maxRecDepth 100000 in
set_option maxHeartbeats 4000000 in
theorem apGrant (x : CfgK) (c : Cfg) (y : StK) (s : St) (e : Ent) (hA : ArH c s e) (hk : e.kind = 2) : sx ttU arF arD (bodyOf Tryz.f21) (argF 0 [cfgV CN1 x c, stV SN1 y s, entV' e]) (rdM c s noS) 10 (endx ttU Tryz.f21.results.toList fun v mem' _ => ApS mem' v (applyR c s e)) := by
  have hV := hA.cfg
  have hI := hA.inv
  have hE := hA.ent
  have hcn := hA.cnt
  have htk := hA.tick
  have hlt := hI.lt
  have hlc := hI.lc
  have hnt := hV.nt
  have hnc := hV.nc
  have hct := hI.count
  have hst := hI.tick
  have hev := hI.evac
  have hpv := hI.proven
  have htb := hA.tB
  have hP : kindE c s e = grantE c s e := by unfold kindE; simp [hk]
  have hf := hE
  simp [entV, entOk, inS, inR, fT, fC, fO, fE, fW, fN, hk] at hf
  refine ⟨CN1, x, c, e, rfl, (by repeat (first | exact trivial | refine ⟨rfl, ?_⟩)), hV, ?_⟩
  refine ⟨fun h => absurd h (by rw [hE]; decide), fun _ => ?_⟩
  refine ⟨fun h => absurd (of_decide_eq_true h) (by omega), fun _ => ?_⟩
  refine ⟨fun h => absurd (of_decide_eq_true h) (by omega), fun _ => ?_⟩
  refine ⟨SN1, y, s, rfl, ⟨.list rfl, .list rfl⟩, ⟨by omega, by omega⟩, ?_⟩
  intro y2
  refine ⟨fun h => absurd h (by rw [hk]; decide), fun _ => ?_⟩
  refine ⟨fun _ => ?_, fun h => absurd h (by rw [hk]; decide)⟩
  rw [wrapi (n := s.count + 1) (by omega)]
  have hTi := hI.ten _ (List.mem_of_getElem? (getD_get (d := default) (show e.tenant.toNat < s.tenants.length by omega)))
  obtain ⟨hT1, hT2, hT3, hT4, hT5, hT6, hT7, hT8, hT9, hT10, hT11, hT12⟩ := hTi
  have hi : e.tenant.toNat < s.tenants.length := by omega
  refine ⟨⟨Nat.le_refl _, by omega, by omega⟩, ?_⟩
  refine ⟨Bool, fun b => [(15, .bool b)], fun _ => [], fun b => (b = true ↔ ((s.tenants.getD e.tenant.toNat default).placed = false ∨ ((s.tenants.getD e.tenant.toNat default).shed = true ∧ e.cell ≠ (s.tenants.getD e.tenant.toNat default).standby))), ?_, ?_⟩
  · repeat' (first | refine ⟨fun _ => ?_, fun h => Bool.noConfusion h⟩ | refine ⟨fun h => Bool.noConfusion h, fun _ => ?_⟩ | refine ⟨fun _ => ?_, fun _ => ?_⟩ | refine ⟨⟨Nat.le_refl _, by omega, by omega⟩, ?_⟩ | fail)
    all_goals (refine ⟨_, ?_, (by repeat (first | exact trivial | refine ⟨rfl, ?_⟩)), (by repeat (first | exact trivial | refine ⟨rfl, ?_⟩))⟩; dsimp only; grind)
  · rintro b1 hb1
    refine ⟨⟨by decide, rfl, rfl⟩, ?_⟩
    refine ⟨fun h1 => ?_, fun h1 => ?_⟩
    · refine ⟨4, rfl, ?_⟩
      exact ApS.err (hA.err (by rw [hP, grantE_eq]; unfold tsAt; grind) (by decide))
    · refine ⟨Bool, fun b => [(39, .bool b)], fun _ => [], fun b => (b = true ↔ (e.cell ≠ (s.tenants.getD e.tenant.toNat default).home ∧ e.cell ≠ (s.tenants.getD e.tenant.toNat default).standby ∧ e.cell ≠ (s.tenants.getD e.tenant.toNat default).target)), ?_, ?_⟩
      · repeat' (first | refine ⟨fun _ => ?_, fun h => Bool.noConfusion h⟩ | refine ⟨fun h => Bool.noConfusion h, fun _ => ?_⟩ | refine ⟨fun _ => ?_, fun _ => ?_⟩ | refine ⟨⟨Nat.le_refl _, by omega, by omega⟩, ?_⟩ | fail)
        all_goals (refine ⟨_, ?_, (by repeat (first | exact trivial | refine ⟨rfl, ?_⟩)), (by repeat (first | exact trivial | refine ⟨rfl, ?_⟩))⟩; dsimp only; grind)
      · rintro b2 hb2
        refine ⟨⟨by decide, rfl, rfl⟩, ?_⟩
        refine ⟨fun h2 => ?_, fun h2 => ?_⟩
        · refine ⟨5, rfl, ?_⟩
          exact ApS.err (hA.err (by rw [hP, grantE_eq]; unfold tsAt; grind) (by decide))
        · refine ⟨CN1, x, c, ⟨15, 14, 0⟩, y2, _, _, ⟨e.tick, s.count + 1, s.tenants, s.cells, s.proven, s.evac, s.low, s.high⟩, e, rfl, ⟨(by repeat (first | exact trivial | refine ⟨rfl, ?_⟩)), ⟨rfl, rfl, .list rfl, .list rfl⟩⟩, ⟨hV, by dsimp only; omega, by dsimp only; omega, by omega, by omega, by omega, ?_⟩, ?_⟩
          · show 0 ≤ (s.tenants.getD e.tenant.toNat default).epoch ∧ (s.tenants.getD e.tenant.toNat default).epoch ≤ 1048576
            exact hT5
          · have hgr : grantedE c ⟨e.tick, s.count + 1, s.tenants, s.cells, s.proven, s.evac, s.low, s.high⟩ e = grantedE c s e := rfl
            rw [hgr]
            refine ⟨fun h3 => ?_, fun h3 => ?_⟩
            · have h3b : grantedE c s e ≠ 0 := by simpa using h3
              refine ⟨_, rfl, ?_⟩
              exact ApS.err (hA.err (by rw [hP, grantE_eq]; unfold tsAt; grind) h3b)
            · have h3b : grantedE c s e = 0 := by simpa using h3
              refine ⟨tsC { (s.tenants.getD e.tenant.toNat default) with win := ⟨e.cell, e.epoch, e.n, e.since, e.till⟩ }, (by first | rfl | (show putN _ _ (tsC (List.getD _ _ _)) = _; rw [getD_set hi]; rfl)), ?_⟩
              rw [setEl_set (by first | exact hi | (rw [List.length_set]; exact hi))]
              try rw [List.set_set]
              refine ⟨tsC { (s.tenants.getD e.tenant.toNat default) with win := ⟨e.cell, e.epoch, e.n, e.since, e.till⟩, epoch := e.epoch }, (by first | rfl | (show putN _ _ (tsC (List.getD _ _ _)) = _; rw [getD_set hi]; rfl)), ?_⟩
              rw [setEl_set (by first | exact hi | (rw [List.length_set]; exact hi))]
              try rw [List.set_set]
              have hgd : (s.tenants.set e.tenant.toNat { (s.tenants.getD e.tenant.toNat default) with win := ⟨e.cell, e.epoch, e.n, e.since, e.till⟩, epoch := e.epoch }).getD e.tenant.toNat default = { (s.tenants.getD e.tenant.toNat default) with win := ⟨e.cell, e.epoch, e.n, e.since, e.till⟩, epoch := e.epoch } := getD_set hi
              refine ⟨fun q1 => ?_, fun q1 => ?_⟩
              · rw [hgd] at q1
                have q2 : e.cell = (s.tenants.getD e.tenant.toNat default).home := by simpa using q1
                have hk0 : kindE c s e = 0 := by rw [hP, grantE_eq]; unfold tsAt; grind
                have heff : effOf s e = (⟨e.tick, s.count + 1, s.tenants.set e.tenant.toNat { (s.tenants.getD e.tenant.toNat default) with win := ⟨e.cell, e.epoch, e.n, e.since, e.till⟩, epoch := e.epoch }, s.cells, s.proven, s.evac, s.low, s.high⟩ : St) := by
                  unfold effOf stamped setTen tenEff grantT tsAt
                  simp only [hk]
                  grind
                refine ⟨CN1, x, c, ⟨15, 14, 0⟩, y2, _, _, (⟨e.tick, s.count + 1, s.tenants.set e.tenant.toNat { (s.tenants.getD e.tenant.toNat default) with win := ⟨e.cell, e.epoch, e.n, e.since, e.till⟩, epoch := e.epoch }, s.cells, s.proven, s.evac, s.low, s.high⟩ : St), rfl, ⟨(by repeat (first | exact trivial | refine ⟨rfl, ?_⟩)), ⟨(by first | rfl | (simp)), rfl, ⟨_, _, _, rfl, (by first | exact Nat.le_refl _ | (simp)), fun k hk => rfl⟩, .list rfl⟩⟩, ⟨hV, by simp; omega⟩, ?_⟩
                intro cap
                refine ⟨fun hov => ?_, fun hov => ?_⟩
                · exact ApS.err (hA.over hk0 (by unfold fitsB; simp [hk]) (by rw [heff]; exact ov_yes hov))
                · exact ApS.ok (M := ⟨15, 14, 0⟩) (y := y2) (s := (⟨e.tick, s.count + 1, s.tenants.set e.tenant.toNat { (s.tenants.getD e.tenant.toNat default) with win := ⟨e.cell, e.epoch, e.n, e.since, e.till⟩, epoch := e.epoch }, s.cells, s.proven, s.evac, s.low, s.high⟩ : St)) (by rw [hA.fine hk0 (fun _ => by rw [heff]; exact ov_no hov), heff]) (by first | rfl | (simp)) rfl ⟨_, _, _, rfl, rfl, (by first | exact Nat.le_refl _ | (simp)), fun k hk => rfl⟩ ⟨_, _, _, rfl, rfl, Nat.le_refl _, fun k hk => rfl⟩
              · rw [hgd] at q1
                have q2 : ¬ e.cell = (s.tenants.getD e.tenant.toNat default).home := by simpa using q1
                refine ⟨fun q3 => ?_, fun q3 => ?_⟩
                · rw [hgd] at q3
                  refine ⟨tsC { (s.tenants.getD e.tenant.toNat default) with win := ⟨e.cell, e.epoch, e.n, e.since, e.till⟩, epoch := e.epoch, home := e.cell }, (by first | rfl | (show putN _ _ (tsC (List.getD _ _ _)) = _; rw [getD_set hi]; rfl)), ?_⟩
                  rw [setEl_set (by first | exact hi | (rw [List.length_set]; exact hi))]
                  try rw [List.set_set]
                  refine ⟨tsC { (s.tenants.getD e.tenant.toNat default) with win := ⟨e.cell, e.epoch, e.n, e.since, e.till⟩, epoch := e.epoch, home := e.cell, standby := -1 }, (by first | rfl | (show putN _ _ (tsC (List.getD _ _ _)) = _; rw [getD_set hi]; rfl)), ?_⟩
                  rw [setEl_set (by first | exact hi | (rw [List.length_set]; exact hi))]
                  try rw [List.set_set]
                  refine ⟨tsC { (s.tenants.getD e.tenant.toNat default) with win := ⟨e.cell, e.epoch, e.n, e.since, e.till⟩, epoch := e.epoch, home := e.cell, standby := -1, next := -1 }, (by first | rfl | (show putN _ _ (tsC (List.getD _ _ _)) = _; rw [getD_set hi]; rfl)), ?_⟩
                  rw [setEl_set (by first | exact hi | (rw [List.length_set]; exact hi))]
                  try rw [List.set_set]
                  refine ⟨tsC { (s.tenants.getD e.tenant.toNat default) with win := ⟨e.cell, e.epoch, e.n, e.since, e.till⟩, epoch := e.epoch, home := e.cell, standby := -1, next := -1, target := -1 }, (by first | rfl | (show putN _ _ (tsC (List.getD _ _ _)) = _; rw [getD_set hi]; rfl)), ?_⟩
                  rw [setEl_set (by first | exact hi | (rw [List.length_set]; exact hi))]
                  try rw [List.set_set]
                  refine ⟨tsC { (s.tenants.getD e.tenant.toNat default) with win := ⟨e.cell, e.epoch, e.n, e.since, e.till⟩, epoch := e.epoch, home := e.cell, standby := -1, next := -1, target := -1, shed := false }, (by first | rfl | (show putN _ _ (tsC (List.getD _ _ _)) = _; rw [getD_set hi]; rfl)), ?_⟩
                  rw [setEl_set (by first | exact hi | (rw [List.length_set]; exact hi))]
                  try rw [List.set_set]
                  have q4 : e.cell = (s.tenants.getD e.tenant.toNat default).standby := by simpa using q3
                  have hk0 : kindE c s e = 0 := by rw [hP, grantE_eq]; unfold tsAt; grind
                  have heff : effOf s e = (⟨e.tick, s.count + 1, s.tenants.set e.tenant.toNat { (s.tenants.getD e.tenant.toNat default) with win := ⟨e.cell, e.epoch, e.n, e.since, e.till⟩, epoch := e.epoch, home := e.cell, standby := -1, next := -1, target := -1, shed := false }, s.cells, s.proven, s.evac, s.low, s.high⟩ : St) := by
                    unfold effOf stamped setTen tenEff grantT tsAt
                    simp only [hk]
                    grind
                  refine ⟨CN1, x, c, ⟨15, 14, 0⟩, y2, _, _, (⟨e.tick, s.count + 1, s.tenants.set e.tenant.toNat { (s.tenants.getD e.tenant.toNat default) with win := ⟨e.cell, e.epoch, e.n, e.since, e.till⟩, epoch := e.epoch, home := e.cell, standby := -1, next := -1, target := -1, shed := false }, s.cells, s.proven, s.evac, s.low, s.high⟩ : St), rfl, ⟨(by repeat (first | exact trivial | refine ⟨rfl, ?_⟩)), ⟨(by first | rfl | (simp)), rfl, ⟨_, _, _, rfl, (by first | exact Nat.le_refl _ | (simp)), fun k hk => rfl⟩, .list rfl⟩⟩, ⟨hV, by simp; omega⟩, ?_⟩
                  intro cap
                  refine ⟨fun hov => ?_, fun hov => ?_⟩
                  · exact ApS.err (hA.over hk0 (by unfold fitsB; simp [hk]) (by rw [heff]; exact ov_yes hov))
                  · exact ApS.ok (M := ⟨15, 14, 0⟩) (y := y2) (s := (⟨e.tick, s.count + 1, s.tenants.set e.tenant.toNat { (s.tenants.getD e.tenant.toNat default) with win := ⟨e.cell, e.epoch, e.n, e.since, e.till⟩, epoch := e.epoch, home := e.cell, standby := -1, next := -1, target := -1, shed := false }, s.cells, s.proven, s.evac, s.low, s.high⟩ : St)) (by rw [hA.fine hk0 (fun _ => by rw [heff]; exact ov_no hov), heff]) (by first | rfl | (simp)) rfl ⟨_, _, _, rfl, rfl, (by first | exact Nat.le_refl _ | (simp)), fun k hk => rfl⟩ ⟨_, _, _, rfl, rfl, Nat.le_refl _, fun k hk => rfl⟩
                · rw [hgd] at q3
                  refine ⟨tsC { (s.tenants.getD e.tenant.toNat default) with win := ⟨e.cell, e.epoch, e.n, e.since, e.till⟩, epoch := e.epoch, home := e.cell }, (by first | rfl | (show putN _ _ (tsC (List.getD _ _ _)) = _; rw [getD_set hi]; rfl)), ?_⟩
                  rw [setEl_set (by first | exact hi | (rw [List.length_set]; exact hi))]
                  try rw [List.set_set]
                  refine ⟨tsC { (s.tenants.getD e.tenant.toNat default) with win := ⟨e.cell, e.epoch, e.n, e.since, e.till⟩, epoch := e.epoch, home := e.cell, target := -1 }, (by first | rfl | (show putN _ _ (tsC (List.getD _ _ _)) = _; rw [getD_set hi]; rfl)), ?_⟩
                  rw [setEl_set (by first | exact hi | (rw [List.length_set]; exact hi))]
                  try rw [List.set_set]
                  have q4 : ¬ e.cell = (s.tenants.getD e.tenant.toNat default).standby := by simpa using q3
                  have hk0 : kindE c s e = 0 := by rw [hP, grantE_eq]; unfold tsAt; grind
                  have heff : effOf s e = (⟨e.tick, s.count + 1, s.tenants.set e.tenant.toNat { (s.tenants.getD e.tenant.toNat default) with win := ⟨e.cell, e.epoch, e.n, e.since, e.till⟩, epoch := e.epoch, home := e.cell, target := -1 }, s.cells, s.proven, s.evac, s.low, s.high⟩ : St) := by
                    unfold effOf stamped setTen tenEff grantT tsAt
                    simp only [hk]
                    grind
                  refine ⟨CN1, x, c, ⟨15, 14, 0⟩, y2, _, _, (⟨e.tick, s.count + 1, s.tenants.set e.tenant.toNat { (s.tenants.getD e.tenant.toNat default) with win := ⟨e.cell, e.epoch, e.n, e.since, e.till⟩, epoch := e.epoch, home := e.cell, target := -1 }, s.cells, s.proven, s.evac, s.low, s.high⟩ : St), rfl, ⟨(by repeat (first | exact trivial | refine ⟨rfl, ?_⟩)), ⟨(by first | rfl | (simp)), rfl, ⟨_, _, _, rfl, (by first | exact Nat.le_refl _ | (simp)), fun k hk => rfl⟩, .list rfl⟩⟩, ⟨hV, by simp; omega⟩, ?_⟩
                  intro cap
                  refine ⟨fun hov => ?_, fun hov => ?_⟩
                  · exact ApS.err (hA.over hk0 (by unfold fitsB; simp [hk]) (by rw [heff]; exact ov_yes hov))
                  · exact ApS.ok (M := ⟨15, 14, 0⟩) (y := y2) (s := (⟨e.tick, s.count + 1, s.tenants.set e.tenant.toNat { (s.tenants.getD e.tenant.toNat default) with win := ⟨e.cell, e.epoch, e.n, e.since, e.till⟩, epoch := e.epoch, home := e.cell, target := -1 }, s.cells, s.proven, s.evac, s.low, s.high⟩ : St)) (by rw [hA.fine hk0 (fun _ => by rw [heff]; exact ov_no hov), heff]) (by first | rfl | (simp)) rfl ⟨_, _, _, rfl, rfl, (by first | exact Nat.le_refl _ | (simp)), fun k hk => rfl⟩ ⟨_, _, _, rfl, rfl, Nat.le_refl _, fun k hk => rfl⟩
end Go.Proofs.YtjobcfpnmfjlfaaGreat

namespace Go.Proofs.YtjobcfpnmfjlfaaGreat
open Go.RowKit
set_option linter.unusedSimpArgs false
set_option linter.unusedVariables false

set_option maxRecDepth 100000 in
set_option maxHeartbeats 4000000 in
theorem apStandby (x : CfgK) (c : Cfg) (y : StK) (s : St) (e : Ent) (hA : ArH c s e) (hk : e.kind = 4) : sx ttU arF arD (bodyOf Tryz.f21) (argF 0 [cfgV CN1 x c, stV SN1 y s, entV' e]) (rdM c s noS) 10 (endx ttU Tryz.f21.results.toList fun v mem' _ => ApS mem' v (applyR c s e)) := by
  have hV := hA.cfg
  have hI := hA.inv
  have hE := hA.ent
  have hcn := hA.cnt
  have htk := hA.tick
  have hlt := hI.lt
  have hlc := hI.lc
  have hnt := hV.nt
  have hnc := hV.nc
  have hct := hI.count
  have hst := hI.tick
  have hev := hI.evac
  have hpv := hI.proven
  have htb := hA.tB
  have hP : kindE c s e = standbyE c s e := by unfold kindE; simp [hk]
  have hf := hE
  simp [entV, entOk, inS, inR, fT, fC, fO, fE, fW, fN, hk] at hf
  refine ⟨CN1, x, c, e, rfl, (by repeat (first | exact trivial | refine ⟨rfl, ?_⟩)), hV, ?_⟩
  refine ⟨fun h => absurd h (by rw [hE]; decide), fun _ => ?_⟩
  refine ⟨fun h => absurd (of_decide_eq_true h) (by omega), fun _ => ?_⟩
  refine ⟨fun h => absurd (of_decide_eq_true h) (by omega), fun _ => ?_⟩
  refine ⟨SN1, y, s, rfl, ⟨.list rfl, .list rfl⟩, ⟨by omega, by omega⟩, ?_⟩
  intro y2
  refine ⟨fun h => absurd h (by rw [hk]; decide), fun _ => ?_⟩
  refine ⟨fun h => absurd h (by rw [hk]; decide), fun _ => ?_⟩
  refine ⟨fun h => absurd h (by rw [hk]; decide), fun _ => ?_⟩
  refine ⟨fun _ => ?_, fun h => absurd h (by rw [hk]; decide)⟩
  rw [wrapi (n := s.count + 1) (by omega)]
  have hTi := hI.ten _ (List.mem_of_getElem? (getD_get (d := default) (show e.tenant.toNat < s.tenants.length by omega)))
  obtain ⟨hT1, hT2, hT3, hT4, hT5, hT6, hT7, hT8, hT9, hT10, hT11, hT12⟩ := hTi
  have hi : e.tenant.toNat < s.tenants.length := by omega
  refine ⟨⟨Nat.le_refl _, by omega, by omega⟩, ?_⟩
  refine ⟨Unit, fun _ => [], fun _ => [], fun _ => kindE c s e = 0, ?_, ?_⟩
  · refine ⟨fun h1 => ?_, fun h1 => ?_⟩
    · repeat (first | refine ⟨fun _ => ?_, fun h => Bool.noConfusion h⟩ | refine ⟨fun h => Bool.noConfusion h, fun _ => ?_⟩ | fail)
      refine ⟨4, rfl, ?_⟩
      exact ApS.err (hA.err (by rw [hP]; unfold standbyE tsAt csAt nearB; grind) (by decide))
    · refine ⟨fun h0 => ?_, fun h0 => ?_⟩
      · refine ⟨(), ?_, (by repeat (first | exact trivial | refine ⟨rfl, ?_⟩)), (by repeat (first | exact trivial | refine ⟨rfl, ?_⟩))⟩
        rw [hP]; unfold standbyE tsAt csAt nearB; grind
      · have h0b : 0 ≤ e.cell := by have := of_decide_eq_false h0; omega
        refine ⟨Bool, fun b => [(27, .bool b)], fun _ => [], fun b => (b = true ↔ (e.cell = (s.tenants.getD e.tenant.toNat default).home ∨ e.cell = (s.tenants.getD e.tenant.toNat default).standby ∨ e.cell = (s.tenants.getD e.tenant.toNat default).target)), ?_, ?_⟩
        · repeat' (first | refine ⟨fun _ => ?_, fun h => Bool.noConfusion h⟩ | refine ⟨fun h => Bool.noConfusion h, fun _ => ?_⟩ | refine ⟨fun _ => ?_, fun _ => ?_⟩ | refine ⟨⟨Nat.le_refl _, by omega, by omega⟩, ?_⟩ | fail)
          all_goals (refine ⟨_, ?_, (by repeat (first | exact trivial | refine ⟨rfl, ?_⟩)), (by repeat (first | exact trivial | refine ⟨rfl, ?_⟩))⟩; dsimp only; grind)
        · rintro b1 hb1
          refine ⟨⟨by decide, rfl, rfl⟩, ?_⟩
          refine ⟨fun h2 => ?_, fun h2 => ?_⟩
          · repeat (first | refine ⟨fun _ => ?_, fun h => Bool.noConfusion h⟩ | refine ⟨fun h => Bool.noConfusion h, fun _ => ?_⟩ | fail)
            refine ⟨5, rfl, ?_⟩
            exact ApS.err (hA.err (by rw [hP]; unfold standbyE tsAt csAt nearB; grind) (by decide))
          · refine ⟨⟨Nat.le_refl _, by omega, by omega⟩, ?_⟩
            refine ⟨fun h3 => ?_, fun h3 => ?_⟩
            · repeat (first | refine ⟨fun _ => ?_, fun h => Bool.noConfusion h⟩ | refine ⟨fun h => Bool.noConfusion h, fun _ => ?_⟩ | fail)
              refine ⟨6, rfl, ?_⟩
              exact ApS.err (hA.err (by rw [hP]; unfold standbyE tsAt csAt nearB; grind) (by decide))
            · refine ⟨CN1, x, c, ⟨15, 14, 0⟩, y2, _, _, ⟨e.tick, s.count + 1, s.tenants, s.cells, s.proven, s.evac, s.low, s.high⟩, e.cell, rfl, ⟨(by repeat (first | exact trivial | refine ⟨rfl, ?_⟩)), ⟨rfl, rfl, .list rfl, .list rfl⟩⟩, ⟨hV, by dsimp only; omega⟩, ?_⟩
              refine ⟨fun h4 => ?_, fun h4 => ?_⟩
              · replace h4 : frozenB c s e.cell = true := h4
                repeat (first | refine ⟨fun _ => ?_, fun h => Bool.noConfusion h⟩ | refine ⟨fun h => Bool.noConfusion h, fun _ => ?_⟩ | fail)
                refine ⟨12, rfl, ?_⟩
                exact ApS.err (hA.err (by rw [hP]; unfold standbyE tsAt csAt nearB; grind) (by decide))
              · replace h4 : frozenB c s e.cell = false := h4
                refine ⟨Bool, fun b => [(77, .bool b)], fun _ => [], fun b => (b = true ↔ (mayB c e.tenant e.cell = false ∨ togB c e.cell (s.tenants.getD e.tenant.toNat default).home = true ∨ togB c e.cell (s.tenants.getD e.tenant.toNat default).target = true)), ?_, ?_⟩
                · repeat' (first | refine ⟨fun _ => ?_, fun h => Bool.noConfusion h⟩ | refine ⟨fun h => Bool.noConfusion h, fun _ => ?_⟩ | refine ⟨fun _ => ?_, fun _ => ?_⟩ | refine ⟨⟨Nat.le_refl _, by omega, by omega⟩, ?_⟩ | refine ⟨CN1, x, c, _, _, rfl, (by repeat (first | exact trivial | refine ⟨rfl, ?_⟩)), hV, (show keeps _ _ from (by repeat (first | exact trivial | refine ⟨rfl, ?_⟩))), ?_⟩ | refine ⟨CN1, x, c, _, _, rfl, (by repeat (first | exact trivial | refine ⟨rfl, ?_⟩)), hV, ?_⟩ | fail)
                  all_goals (refine ⟨_, ?_, (by repeat (first | exact trivial | refine ⟨rfl, ?_⟩)), (by repeat (first | exact trivial | refine ⟨rfl, ?_⟩))⟩; dsimp only; grind)
                · rintro b2 hb2
                  refine ⟨⟨by decide, rfl, rfl⟩, ?_⟩
                  refine ⟨fun h5 => ?_, fun h5 => ?_⟩
                  · unfold togB at hb2
                    repeat (first | refine ⟨fun _ => ?_, fun h => Bool.noConfusion h⟩ | refine ⟨fun h => Bool.noConfusion h, fun _ => ?_⟩ | fail)
                    refine ⟨11, rfl, ?_⟩
                    exact ApS.err (hA.err (by rw [hP]; unfold standbyE tsAt csAt nearB; grind) (by decide))
                  · refine ⟨(), ?_, (by repeat (first | exact trivial | refine ⟨rfl, ?_⟩)), (by repeat (first | exact trivial | refine ⟨rfl, ?_⟩))⟩
                    rw [hP]; unfold togB at hb2; unfold standbyE tsAt csAt nearB; grind
  · rintro - hmeet
    refine ⟨⟨by decide, rfl, rfl⟩, ?_⟩
    refine ⟨tsC { (s.tenants.getD e.tenant.toNat default) with next := e.cell }, (by first | rfl | (show putN _ _ (tsC (List.getD _ _ _)) = _; rw [getD_set hi]; rfl)), ?_⟩
    rw [setEl_set (by first | exact hi | (rw [List.length_set]; exact hi))]
    try rw [List.set_set]
    have hk0 := hmeet
    have heff : effOf s e = (⟨e.tick, s.count + 1, s.tenants.set e.tenant.toNat { (s.tenants.getD e.tenant.toNat default) with next := e.cell }, s.cells, s.proven, s.evac, s.low, s.high⟩ : St) := by simp [effOf, stamped, setTen, tenEff, tsAt, hk]
    refine ⟨CN1, x, c, ⟨15, 14, 0⟩, y2, _, _, (⟨e.tick, s.count + 1, s.tenants.set e.tenant.toNat { (s.tenants.getD e.tenant.toNat default) with next := e.cell }, s.cells, s.proven, s.evac, s.low, s.high⟩ : St), rfl, ⟨(by repeat (first | exact trivial | refine ⟨rfl, ?_⟩)), ⟨(by first | rfl | (simp)), rfl, ⟨_, _, _, rfl, (by first | exact Nat.le_refl _ | (simp)), fun k hk => rfl⟩, .list rfl⟩⟩, ⟨hV, by simp; omega⟩, ?_⟩
    intro cap
    refine ⟨fun hov => ?_, fun hov => ?_⟩
    · exact ApS.err (hA.over hk0 (by unfold fitsB; simp [hk]) (by rw [heff]; exact ov_yes hov))
    · exact ApS.ok (M := ⟨15, 14, 0⟩) (y := y2) (s := (⟨e.tick, s.count + 1, s.tenants.set e.tenant.toNat { (s.tenants.getD e.tenant.toNat default) with next := e.cell }, s.cells, s.proven, s.evac, s.low, s.high⟩ : St)) (by rw [hA.fine hk0 (fun _ => by rw [heff]; exact ov_no hov), heff]) (by first | rfl | (simp)) rfl ⟨_, _, _, rfl, rfl, (by first | exact Nat.le_refl _ | (simp)), fun k hk => rfl⟩ ⟨_, _, _, rfl, rfl, Nat.le_refl _, fun k hk => rfl⟩
end Go.Proofs.YtjobcfpnmfjlfaaGreat

namespace Go.Proofs.YtjobcfpnmfjlfaaGreat
open Go.RowKit
set_option linter.unusedSimpArgs false
set_option linter.unusedVariables false

set_option maxRecDepth 100000 in
set_option maxHeartbeats 4000000 in
theorem apMigrate (x : CfgK) (c : Cfg) (y : StK) (s : St) (e : Ent) (hA : ArH c s e) (hk : e.kind = 6) : sx ttU arF arD (bodyOf Tryz.f21) (argF 0 [cfgV CN1 x c, stV SN1 y s, entV' e]) (rdM c s noS) 10 (endx ttU Tryz.f21.results.toList fun v mem' _ => ApS mem' v (applyR c s e)) := by
  have hV := hA.cfg
  have hI := hA.inv
  have hE := hA.ent
  have hcn := hA.cnt
  have htk := hA.tick
  have hlt := hI.lt
  have hlc := hI.lc
  have hnt := hV.nt
  have hnc := hV.nc
  have hct := hI.count
  have hst := hI.tick
  have hev := hI.evac
  have hpv := hI.proven
  have htb := hA.tB
  have hP : kindE c s e = migrateE c s e := by unfold kindE; simp [hk]
  have hf := hE
  simp [entV, entOk, inS, inR, fT, fC, fO, fE, fW, fN, hk] at hf
  refine ⟨CN1, x, c, e, rfl, (by repeat (first | exact trivial | refine ⟨rfl, ?_⟩)), hV, ?_⟩
  refine ⟨fun h => absurd h (by rw [hE]; decide), fun _ => ?_⟩
  refine ⟨fun h => absurd (of_decide_eq_true h) (by omega), fun _ => ?_⟩
  refine ⟨fun h => absurd (of_decide_eq_true h) (by omega), fun _ => ?_⟩
  refine ⟨SN1, y, s, rfl, ⟨.list rfl, .list rfl⟩, ⟨by omega, by omega⟩, ?_⟩
  intro y2
  refine ⟨fun h => absurd h (by rw [hk]; decide), fun _ => ?_⟩
  refine ⟨fun h => absurd h (by rw [hk]; decide), fun _ => ?_⟩
  refine ⟨fun h => absurd h (by rw [hk]; decide), fun _ => ?_⟩
  refine ⟨fun h => absurd h (by rw [hk]; decide), fun _ => ?_⟩
  refine ⟨fun h => absurd h (by rw [hk]; decide), fun _ => ?_⟩
  refine ⟨fun _ => ?_, fun h => absurd h (by rw [hk]; decide)⟩
  rw [wrapi (n := s.count + 1) (by omega)]
  have hTi := hI.ten _ (List.mem_of_getElem? (getD_get (d := default) (show e.tenant.toNat < s.tenants.length by omega)))
  obtain ⟨hT1, hT2, hT3, hT4, hT5, hT6, hT7, hT8, hT9, hT10, hT11, hT12⟩ := hTi
  have hi : e.tenant.toNat < s.tenants.length := by omega
  refine ⟨⟨Nat.le_refl _, by omega, by omega⟩, ?_⟩
  refine ⟨Bool, fun b => [(14, .bool b)], fun _ => [], fun b => (b = true ↔ ((s.tenants.getD e.tenant.toNat default).placed = false ∨ (s.tenants.getD e.tenant.toNat default).shed = true ∨ 0 ≤ (s.tenants.getD e.tenant.toNat default).target)), ?_, ?_⟩
  · repeat' (first | refine ⟨fun _ => ?_, fun h => Bool.noConfusion h⟩ | refine ⟨fun h => Bool.noConfusion h, fun _ => ?_⟩ | refine ⟨fun _ => ?_, fun _ => ?_⟩ | refine ⟨⟨Nat.le_refl _, by omega, by omega⟩, ?_⟩ | fail)
    all_goals (refine ⟨_, ?_, (by repeat (first | exact trivial | refine ⟨rfl, ?_⟩)), (by repeat (first | exact trivial | refine ⟨rfl, ?_⟩))⟩; dsimp only; grind)
  · rintro b1 hb1
    refine ⟨⟨by decide, rfl, rfl⟩, ?_⟩
    refine ⟨fun h1 => ?_, fun h1 => ?_⟩
    · repeat (first | refine ⟨fun _ => ?_, fun h => Bool.noConfusion h⟩ | refine ⟨fun h => Bool.noConfusion h, fun _ => ?_⟩ | fail)
      refine ⟨4, rfl, ?_⟩
      exact ApS.err (hA.err (by rw [hP]; unfold migrateE tsAt csAt nearB; grind) (by decide))
    · refine ⟨Bool, fun b => [(36, .bool b)], fun _ => [], fun b => (b = true ↔ (e.cell = (s.tenants.getD e.tenant.toNat default).home ∨ e.cell = (s.tenants.getD e.tenant.toNat default).standby ∨ e.cell = (s.tenants.getD e.tenant.toNat default).next)), ?_, ?_⟩
      · repeat' (first | refine ⟨fun _ => ?_, fun h => Bool.noConfusion h⟩ | refine ⟨fun h => Bool.noConfusion h, fun _ => ?_⟩ | refine ⟨fun _ => ?_, fun _ => ?_⟩ | refine ⟨⟨Nat.le_refl _, by omega, by omega⟩, ?_⟩ | fail)
        all_goals (refine ⟨_, ?_, (by repeat (first | exact trivial | refine ⟨rfl, ?_⟩)), (by repeat (first | exact trivial | refine ⟨rfl, ?_⟩))⟩; dsimp only; grind)
      · rintro b2 hb2
        refine ⟨⟨by decide, rfl, rfl⟩, ?_⟩
        refine ⟨fun h2 => ?_, fun h2 => ?_⟩
        · repeat (first | refine ⟨fun _ => ?_, fun h => Bool.noConfusion h⟩ | refine ⟨fun h => Bool.noConfusion h, fun _ => ?_⟩ | fail)
          refine ⟨5, rfl, ?_⟩
          exact ApS.err (hA.err (by rw [hP]; unfold migrateE tsAt csAt nearB; grind) (by decide))
        · refine ⟨⟨Nat.le_refl _, by omega, by omega⟩, ?_⟩
          refine ⟨fun h3 => ?_, fun h3 => ?_⟩
          · repeat (first | refine ⟨fun _ => ?_, fun h => Bool.noConfusion h⟩ | refine ⟨fun h => Bool.noConfusion h, fun _ => ?_⟩ | fail)
            refine ⟨6, rfl, ?_⟩
            exact ApS.err (hA.err (by rw [hP]; unfold migrateE tsAt csAt nearB; grind) (by decide))
          · refine ⟨CN1, x, c, ⟨15, 14, 0⟩, y2, _, _, ⟨e.tick, s.count + 1, s.tenants, s.cells, s.proven, s.evac, s.low, s.high⟩, e.cell, rfl, ⟨(by repeat (first | exact trivial | refine ⟨rfl, ?_⟩)), ⟨rfl, rfl, .list rfl, .list rfl⟩⟩, ⟨hV, by dsimp only; omega⟩, ?_⟩
            refine ⟨fun h4 => ?_, fun h4 => ?_⟩
            · replace h4 : frozenB c s e.cell = true := h4
              repeat (first | refine ⟨fun _ => ?_, fun h => Bool.noConfusion h⟩ | refine ⟨fun h => Bool.noConfusion h, fun _ => ?_⟩ | fail)
              refine ⟨12, rfl, ?_⟩
              exact ApS.err (hA.err (by rw [hP]; unfold migrateE tsAt csAt nearB; grind) (by decide))
            · replace h4 : frozenB c s e.cell = false := h4
              refine ⟨Bool, fun b => [(86, .bool b)], fun _ => [], fun b => (b = true ↔ (mayB c e.tenant e.cell = false ∨ togB c e.cell (s.tenants.getD e.tenant.toNat default).standby = true ∨ togB c e.cell (s.tenants.getD e.tenant.toNat default).next = true)), ?_, ?_⟩
              · repeat' (first | refine ⟨fun _ => ?_, fun h => Bool.noConfusion h⟩ | refine ⟨fun h => Bool.noConfusion h, fun _ => ?_⟩ | refine ⟨fun _ => ?_, fun _ => ?_⟩ | refine ⟨⟨Nat.le_refl _, by omega, by omega⟩, ?_⟩ | refine ⟨CN1, x, c, _, _, rfl, (by repeat (first | exact trivial | refine ⟨rfl, ?_⟩)), hV, (show keeps _ _ from (by repeat (first | exact trivial | refine ⟨rfl, ?_⟩))), ?_⟩ | refine ⟨CN1, x, c, _, _, rfl, (by repeat (first | exact trivial | refine ⟨rfl, ?_⟩)), hV, ?_⟩ | fail)
                all_goals (refine ⟨_, ?_, (by repeat (first | exact trivial | refine ⟨rfl, ?_⟩)), (by repeat (first | exact trivial | refine ⟨rfl, ?_⟩))⟩; dsimp only; grind)
              · rintro b3 hb3
                refine ⟨⟨by decide, rfl, rfl⟩, ?_⟩
                unfold togB at hb3
                refine ⟨fun h5 => ?_, fun h5 => ?_⟩
                · repeat (first | refine ⟨fun _ => ?_, fun h => Bool.noConfusion h⟩ | refine ⟨fun h => Bool.noConfusion h, fun _ => ?_⟩ | fail)
                  refine ⟨11, rfl, ?_⟩
                  exact ApS.err (hA.err (by rw [hP]; unfold migrateE tsAt csAt nearB; grind) (by decide))
                · refine ⟨tsC { (s.tenants.getD e.tenant.toNat default) with target := e.cell }, (by first | rfl | (show putN _ _ (tsC (List.getD _ _ _)) = _; rw [getD_set hi]; rfl)), ?_⟩
                  rw [setEl_set (by first | exact hi | (rw [List.length_set]; exact hi))]
                  try rw [List.set_set]
                  have hk0 : kindE c s e = 0 := by rw [hP]; unfold migrateE tsAt csAt nearB; grind
                  have heff : effOf s e = (⟨e.tick, s.count + 1, s.tenants.set e.tenant.toNat { (s.tenants.getD e.tenant.toNat default) with target := e.cell }, s.cells, s.proven, s.evac, s.low, s.high⟩ : St) := by simp [effOf, stamped, setTen, tenEff, tsAt, hk]
                  refine ⟨CN1, x, c, ⟨15, 14, 0⟩, y2, _, _, (⟨e.tick, s.count + 1, s.tenants.set e.tenant.toNat { (s.tenants.getD e.tenant.toNat default) with target := e.cell }, s.cells, s.proven, s.evac, s.low, s.high⟩ : St), rfl, ⟨(by repeat (first | exact trivial | refine ⟨rfl, ?_⟩)), ⟨(by first | rfl | (simp)), rfl, ⟨_, _, _, rfl, (by first | exact Nat.le_refl _ | (simp)), fun k hk => rfl⟩, .list rfl⟩⟩, ⟨hV, by simp; omega⟩, ?_⟩
                  intro cap
                  refine ⟨fun hov => ?_, fun hov => ?_⟩
                  · exact ApS.err (hA.over hk0 (by unfold fitsB; simp [hk]) (by rw [heff]; exact ov_yes hov))
                  · exact ApS.ok (M := ⟨15, 14, 0⟩) (y := y2) (s := (⟨e.tick, s.count + 1, s.tenants.set e.tenant.toNat { (s.tenants.getD e.tenant.toNat default) with target := e.cell }, s.cells, s.proven, s.evac, s.low, s.high⟩ : St)) (by rw [hA.fine hk0 (fun _ => by rw [heff]; exact ov_no hov), heff]) (by first | rfl | (simp)) rfl ⟨_, _, _, rfl, rfl, (by first | exact Nat.le_refl _ | (simp)), fun k hk => rfl⟩ ⟨_, _, _, rfl, rfl, Nat.le_refl _, fun k hk => rfl⟩
end Go.Proofs.YtjobcfpnmfjlfaaGreat
