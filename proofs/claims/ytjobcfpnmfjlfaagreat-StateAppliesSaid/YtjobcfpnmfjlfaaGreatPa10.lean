import Derived.Test.YtjobcfpnmfjlfaaGreatPa09
namespace Go.Proofs.YtjobcfpnmfjlfaaGreat
open Go.RowKit
set_option linter.unusedSimpArgs false
set_option linter.unusedVariables false

/-! entry.formOf by the abstract machine. -/
def ttE : TT := [(117, tiRec [zi, zi, zi, zi] [0, 1, 2, 3] [1, 1, 1, 1] [1, 1, 1, 1]), (126, tiRec [zi, zi] [0, 1] [1, 1] [1, 1]),
  (128, tiRec [zi, zi, zi, zi, zi, zi, zi, zi, zi, zi, zi, zi] [0, 2, 4, 6, 8, 10] [2, 2, 2, 2, 2, 2] [2, 2, 2, 2, 2, 2])] ++ tt
theorem ttEok : TTok Tryz.prog ttE := by
  refine tt_mem _ _ ?_
  unfold ttE tt
  repeat (refine tt_cons ⟨by kernel_rfl, by kernel_rfl, plains (by rfl), by kernel_rfl, by kernel_rfl⟩ ?_)
  exact tt_nil
/-- The ranges of the fields of a kind. -/
def formC (nt nc nr nv k : Int) : Array Value := if inR k 1 16 = true then
    #[.int .i64 (fT nt k).1, .int .i64 (fT nt k).2, .int .i64 (fC nc k).1, .int .i64 (fC nc k).2, .int .i64 (fO nc nr k).1, .int .i64 (fO nc nr k).2, .int .i64 (fE k).1, .int .i64 (fE k).2, .int .i64 (fW k).1, .int .i64 (fW k).2, .int .i64 (fN nv k).1, .int .i64 (fN nv k).2]
  else #[.int .i64 0, .int .i64 0, .int .i64 0, .int .i64 0, .int .i64 0, .int .i64 0, .int .i64 0, .int .i64 0, .int .i64 0, .int .i64 0, .int .i64 0, .int .i64 0]
/-- A function of values only. -/
theorem val_calls {τ : TT} (hτ : TTok Tryz.prog τ) {f : FuncId} {fn : Func} {F : FT} {D : List (Nat × DQ)} (hF : FTok Tryz.prog F) (hf : (Tryz.prog).funcs[f]? = some fn) (hb : fn.body = some (bodyOf fn)) (hcode : codeB fn.ntmps D (bodyOf fn) = true) {vs : List Value} (hn : Nat.ble vs.length fn.ntmps = true) (w : World) (hv : ∀ v ∈ vs, pureV v) {R : Value → Prop} (h : sx τ F D (bodyOf fn) (argF 0 vs) [] 0 (endx τ fn.results.toList fun v _ _ => R v)) :
    Calls Tryz.prog f vs.toArray w fun e w' => ∃ v, R v ∧ (∃ ρ, e = .returned (den ρ v)) ∧ Below w.heap.size w w' := by
  have hm : MemAt { w0 := w, bor := [], n0 := 0, ρ0 := fun _ => ⟨none, 0, 0, false⟩, nt := fn.ntmps } (fun _ => ⟨none, 0, 0, false⟩) [] 0 w := MemAt.rows trivial trivial
  have e0 : vs.map (den fun _ => ⟨none, 0, 0, false⟩) = vs := by
    conv => rhs; rw [← List.map_id vs]
    exact List.map_congr_left fun v hv' => (pure_den (hv v hv') _ 0).1
  have := calls_sx hτ hF mixed hf hb hcode (vs := vs) hn ⟨rfl, rfl⟩ rfl hm (fun v hv' => (pure_den (hv v hv') _ 0).2) h
  rw [e0] at this
  refine this.mono ?_
  rintro e w' ⟨v, mem', nx', ρ', rfl, hR, -, hm'⟩
  exact ⟨v, hR, ⟨ρ', rfl⟩, ⟨hm'.rest.os, hm'.rest.tape, hm'.rest.output, hm'.rest.size, fun b hlt => hm'.rest.block b hlt (by simp)⟩⟩
theorem entBelow_any (n : Int) (w : World) (h0 : 0 ≤ n) (h1 : n ≤ 1000) :
    Calls Tryz.prog 122 #[.int .i64 n] w fun e w' => e = .returned (.agg #[.int .i64 0, .int .i64 (n - 1)]) ∧ Below w.heap.size w w' := by
  refine (val_calls (τ := ttE) ttEok ft_nil Tryz.func122 rfl (D := []) (by kernel_rfl) (vs := [.int .i64 n]) rfl w (fun v hv => by simp at hv; subst hv; trivial) (R := fun v => v = .agg #[.int .i64 0, .int .i64 (n - 1)]) ?_).mono ?_
  · show Value.agg #[.int .i64 0, .int .i64 (IntKind.i64.wrap (n - 1))] = _
    rw [wrapi (by omega)]
  · rintro e w' ⟨v, rfl, ⟨ρ, rfl⟩, hb⟩
    exact ⟨by simp [den, den2, den1], hb⟩
theorem entHas_any (lo hi n : Int) (w : World) :
    Calls Tryz.prog 116 #[.agg #[.int .i64 lo, .int .i64 hi], .int .i64 n] w fun e w' => e = .returned (.bool (inR n lo hi)) ∧ Below w.heap.size w w' := by
  refine (val_calls (τ := ttE) ttEok ft_nil Tryz.func116 rfl (D := []) (by kernel_rfl) (vs := [.agg #[.int .i64 lo, .int .i64 hi], .int .i64 n]) rfl w (fun v hv => by
    simp at hv
    rcases hv with rfl | rfl
    · intro u hu
      simp at hu
      rcases hu with rfl | rfl <;> trivial
    · trivial) (R := fun v => v = .bool (inR n lo hi)) ?_).mono ?_
  · refine ⟨fun h => ?_, fun h => ?_⟩
    · show Value.bool (decide (n ≤ hi)) = _
      unfold inR
      rw [h]
      rfl
    · show Value.bool false = _
      unfold inR
      rw [h]
      rfl
  · rintro e w' ⟨v, rfl, ⟨ρ, rfl⟩, hb⟩
    exact ⟨rfl, hb⟩
def ctBelow : CT := fun vs mem nx K => ∃ n, vs = [.int .i64 n] ∧ (True) ∧ (0 ≤ n ∧ n ≤ 1000) ∧ K (.agg #[.int .i64 0, .int .i64 (n - 1)]) mem nx
theorem belowOk : CSound Tryz.prog 122 ctBelow := (ptsOk (R := fun l z => ∃ n, l = [.vl (.int .i64 n)] ∧ z = .agg #[.int .i64 0, .int .i64 (n - 1)]) (pre := fun l => ∃ n, l = [.vl (.int .i64 n)] ∧ (0 ≤ n ∧ n ≤ 1000)) (by kernel_rfl) (by
  rintro ps w ⟨n, hps, hpre⟩ hok
  obtain ⟨ps0, rfl, hps0⟩ := dt_v hps
  obtain rfl := dt_nil hps0
  refine (entBelow_any n w hpre.1 hpre.2).mono ?_
  rintro e w' ⟨rfl, hb⟩
  exact ⟨_, ⟨n, rfl, rfl⟩, (fun u hu => by simp at hu; rcases hu with rfl | rfl <;> trivial), rfl, hb⟩)).mono (by
  rintro vs mem nx K ⟨n, rfl, hk, hpre, hK⟩
  exact ⟨[.vl _], rfl, ⟨trivial, trivial⟩, ⟨_, rfl, hpre⟩, by rintro z ⟨n', hl, hz⟩; cases hl; subst hz; exact hK⟩)
def foF0 : FT := [(122, ctBelow)]
theorem foF0ok : FTok Tryz.prog foF0 := ft_cons belowOk ft_nil
def foD0 : List (Nat × DQ) := [
  (2, { k := 16, L := [0], A := [10, 11, 12], pre := [(0, false), (1, false), (3, false), (4, false), (6, false), (7, false), (8, false), (9, false), (2, true), (5, true)], post := [(13, true), (14, true), (15, true)] }),
  (9, { k := 9, L := [3, 4, 5], pre := [(0, false), (1, false), (2, false), (3, false), (4, true), (5, false), (6, true), (7, false), (8, true)] }),
  (11, { k := 15, L := [3, 4, 8, 9, 6], pre := [(0, false), (1, false), (2, false), (3, false), (4, false), (5, false), (6, true), (7, false), (8, true), (9, false), (10, true), (11, false), (12, true), (13, false), (14, true)] }),
  (13, { k := 6, L := [3, 8], pre := [(0, false), (1, false), (2, false), (3, true), (4, false), (5, true)] }),
  (15, { k := 6, L := [3, 5], pre := [(0, false), (1, false), (2, false), (3, true), (4, false), (5, true)] }),
  (18, { k := 6, L := [3, 4], pre := [(0, false), (1, false), (2, false), (3, true), (4, false), (5, true)] }),
  (22, { k := 6, L := [3, 7], pre := [(0, false), (1, false), (2, false), (3, true), (4, false), (5, true)] }),
  (27, { k := 6, L := [4, 6], pre := [(0, false), (1, false), (2, false), (3, true), (4, false), (5, true)] }),
  (31, { k := 8, L := [0, 7], pre := [(0, false), (1, false), (3, false), (2, true), (4, false), (5, true), (6, false), (7, true)] })]
set_option maxRecDepth 100000 in
set_option maxHeartbeats 4000000 in
theorem formOf_sx (k nt nc nr nv : Int) (h0 : 0 ≤ nt ∧ nt ≤ 100) (h1 : 0 ≤ nc ∧ nc ≤ 100) (h2 : 0 ≤ nr ∧ nr ≤ 100) (h3 : 0 ≤ nv ∧ nv ≤ 100) :
    sx ttE foF0 foD0 (bodyOf Tryz.f115) (argF 0 [.int .i64 k, .agg #[.int .i64 nt, .int .i64 nc, .int .i64 nr, .int .i64 nv]]) [] 0 (endx ttE Tryz.f115.results.toList fun v _ _ => v = .tuple #[.agg (formC nt nc nr nv k), .bool (inR k 1 16)]) := by
  refine ⟨nt, rfl, trivial, ⟨by omega, by omega⟩, ?_⟩
  refine ⟨(by repeat (first | exact trivial | refine ⟨rfl, ?_⟩)), ?_⟩
  refine ⟨nc, rfl, trivial, ⟨by omega, by omega⟩, ?_⟩
  refine ⟨(by repeat (first | exact trivial | refine ⟨rfl, ?_⟩)), ?_⟩
  refine ⟨(by repeat (first | exact trivial | refine ⟨rfl, ?_⟩)), ?_⟩
  refine ⟨(by repeat (first | exact trivial | refine ⟨rfl, ?_⟩)), ?_⟩
  refine ⟨(by repeat (first | exact trivial | refine ⟨rfl, ?_⟩)), ?_⟩
  rw [wrapi (n := nc - 1) (by omega)]
  refine ⟨nv, rfl, trivial, ⟨by omega, by omega⟩, ?_⟩
  refine ⟨fun hk1 => ?_, fun nk1 => ?_⟩
  · refine ⟨(by repeat (first | exact trivial | refine ⟨rfl, ?_⟩)), ?_⟩
    refine ⟨(by repeat (first | exact trivial | refine ⟨rfl, ?_⟩)), ?_⟩
    refine ⟨(by repeat (first | exact trivial | refine ⟨rfl, ?_⟩)), ?_⟩
    obtain rfl : k = 1 := by simpa using hk1
    exact rfl
  · refine ⟨fun hk2 => ?_, fun nk2 => ?_⟩
    · refine ⟨(by repeat (first | exact trivial | refine ⟨rfl, ?_⟩)), ?_⟩
      refine ⟨(by repeat (first | exact trivial | refine ⟨rfl, ?_⟩)), ?_⟩
      refine ⟨(by repeat (first | exact trivial | refine ⟨rfl, ?_⟩)), ?_⟩
      refine ⟨(by repeat (first | exact trivial | refine ⟨rfl, ?_⟩)), ?_⟩
      refine ⟨(by repeat (first | exact trivial | refine ⟨rfl, ?_⟩)), ?_⟩
      obtain rfl : k = 2 := by simpa using hk2
      exact rfl
    · refine ⟨fun hk3 => ?_, fun nk3 => ?_⟩
      · refine ⟨(by repeat (first | exact trivial | refine ⟨rfl, ?_⟩)), ?_⟩
        refine ⟨(by repeat (first | exact trivial | refine ⟨rfl, ?_⟩)), ?_⟩
        obtain rfl : k = 3 := by simpa using hk3
        exact rfl
      · refine ⟨fun hk4 => ?_, fun nk4 => ?_⟩
        · refine ⟨(by repeat (first | exact trivial | refine ⟨rfl, ?_⟩)), ?_⟩
          refine ⟨(by repeat (first | exact trivial | refine ⟨rfl, ?_⟩)), ?_⟩
          obtain rfl : k = 4 := by simpa using hk4
          exact rfl
        · refine ⟨fun hk5 => ?_, fun nk5 => ?_⟩
          · refine ⟨fun _ => ?_, fun h => nomatch h⟩
            refine ⟨(by repeat (first | exact trivial | refine ⟨rfl, ?_⟩)), ?_⟩
            refine ⟨(by repeat (first | exact trivial | refine ⟨rfl, ?_⟩)), ?_⟩
            obtain rfl : k = 5 := by simpa using hk5
            exact rfl
          · refine ⟨fun hk6 => ?_, fun nk6 => ?_⟩
            · refine ⟨(by repeat (first | exact trivial | refine ⟨rfl, ?_⟩)), ?_⟩
              refine ⟨(by repeat (first | exact trivial | refine ⟨rfl, ?_⟩)), ?_⟩
              obtain rfl : k = 6 := by simpa using hk6
              exact rfl
            · refine ⟨fun hk7 => ?_, fun nk7 => ?_⟩
              · obtain rfl : k = 7 := by simpa using hk7
                exact rfl
              · refine ⟨fun hk8 => ?_, fun nk8 => ?_⟩
                · refine ⟨(by repeat (first | exact trivial | refine ⟨rfl, ?_⟩)), ?_⟩
                  refine ⟨(by repeat (first | exact trivial | refine ⟨rfl, ?_⟩)), ?_⟩
                  obtain rfl : k = 8 := by simpa using hk8
                  exact rfl
                · refine ⟨fun hk9 => ?_, fun nk9 => ?_⟩
                  · obtain rfl : k = 9 := by simpa using hk9
                    exact rfl
                  · refine ⟨fun hk10 => ?_, fun nk10 => ?_⟩
                    · refine ⟨fun _ => ?_, fun h => nomatch h⟩
                      refine ⟨(by repeat (first | exact trivial | refine ⟨rfl, ?_⟩)), ?_⟩
                      refine ⟨(by repeat (first | exact trivial | refine ⟨rfl, ?_⟩)), ?_⟩
                      obtain rfl : k = 10 := by simpa using hk10
                      exact rfl
                    · refine ⟨fun hk11 => ?_, fun nk11 => ?_⟩
                      · refine ⟨(by repeat (first | exact trivial | refine ⟨rfl, ?_⟩)), ?_⟩
                        refine ⟨(by repeat (first | exact trivial | refine ⟨rfl, ?_⟩)), ?_⟩
                        obtain rfl : k = 11 := by simpa using hk11
                        exact rfl
                      · refine ⟨fun hk12 => ?_, fun nk12 => ?_⟩
                        · obtain rfl : k = 12 := by simpa using hk12
                          exact rfl
                        · refine ⟨fun hk13 => ?_, fun nk13 => ?_⟩
                          · refine ⟨nr, rfl, trivial, ⟨by omega, by omega⟩, ?_⟩
                            refine ⟨(by repeat (first | exact trivial | refine ⟨rfl, ?_⟩)), ?_⟩
                            refine ⟨(by repeat (first | exact trivial | refine ⟨rfl, ?_⟩)), ?_⟩
                            refine ⟨(by repeat (first | exact trivial | refine ⟨rfl, ?_⟩)), ?_⟩
                            obtain rfl : k = 13 := by simpa using hk13
                            exact rfl
                          · refine ⟨fun hk14 => ?_, fun nk14 => ?_⟩
                            · refine ⟨fun _ => ?_, fun h => nomatch h⟩
                              obtain rfl : k = 14 := by simpa using hk14
                              exact rfl
                            · refine ⟨fun hk15 => ?_, fun nk15 => ?_⟩
                              · obtain rfl : k = 15 := by simpa using hk15
                                exact rfl
                              · refine ⟨fun hk16 => ?_, fun nk16 => ?_⟩
                                · obtain rfl : k = 16 := by simpa using hk16
                                  exact rfl
                                · simp only [beq_eq_false_iff_ne, ne_eq] at nk1 nk2 nk3 nk4 nk5 nk6 nk7 nk8 nk9 nk10 nk11 nk12 nk13 nk14 nk15 nk16
                                  have hno : inR k 1 16 = false := by
                                    unfold inR
                                    rw [Bool.and_eq_false_iff, decide_eq_false_iff_not, decide_eq_false_iff_not]
                                    omega
                                  unfold formC
                                  rw [if_neg (by rw [hno]; decide), hno]
                                  exact rfl
theorem entFormOf_any (k nt nc nr nv : Int) (w : World) (h0 : 0 ≤ nt ∧ nt ≤ 100) (h1 : 0 ≤ nc ∧ nc ≤ 100) (h2 : 0 ≤ nr ∧ nr ≤ 100) (h3 : 0 ≤ nv ∧ nv ≤ 100) :
    Calls Tryz.prog 115 #[.int .i64 k, .agg #[.int .i64 nt, .int .i64 nc, .int .i64 nr, .int .i64 nv]] w fun e w' => e = .returned (.tuple #[.agg (formC nt nc nr nv k), .bool (inR k 1 16)]) ∧ Below w.heap.size w w' := by
  refine (val_calls (τ := ttE) ttEok foF0ok Tryz.func115 rfl (D := foD0) (by kernel_rfl) (vs := [.int .i64 k, .agg #[.int .i64 nt, .int .i64 nc, .int .i64 nr, .int .i64 nv]]) rfl w (fun v hv => by
    simp at hv
    rcases hv with rfl | rfl
    · trivial
    · intro u hu
      simp at hu
      rcases hu with rfl | rfl | rfl | rfl <;> trivial) (R := fun v => v = .tuple #[.agg (formC nt nc nr nv k), .bool (inR k 1 16)]) (formOf_sx k nt nc nr nv h0 h1 h2 h3)).mono ?_
  rintro e w' ⟨v, rfl, ⟨ρ, rfl⟩, hb⟩
  refine ⟨?_, hb⟩
  unfold formC
  split <;> simp [den, den2, den1]
end Go.Proofs.YtjobcfpnmfjlfaaGreat

namespace Go.Proofs.YtjobcfpnmfjlfaaGreat
open Go.RowKit
set_option linter.unusedSimpArgs false
set_option linter.unusedVariables false

set_option maxHeartbeats 4000000 in
set_option maxRecDepth 100000 in
theorem entFits_any (e : Ent) (nt nc nr nv : Int) (w : World) (h0 : 0 ≤ nt ∧ nt ≤ 100) (h1 : 0 ≤ nc ∧ nc ≤ 100) (h2 : 0 ≤ nr ∧ nr ≤ 100) (h3 : 0 ≤ nv ∧ nv ≤ 100) :
    Calls Tryz.prog 101 #[.agg (entC e).toArray, .agg #[.int .i64 nt, .int .i64 nc, .int .i64 nr, .int .i64 nv]] w fun r w' => r = .returned (.bool (entOk nt nc nr nv e)) ∧ Below w.heap.size w w' := by
  obtain ⟨kind, tick, tenant, cell, other, epoch, since, till, n⟩ := e
  unfold entC
  simp only
  have hL : Below w.heap.size w ((w.alloc (.cells #[.int .i64 kind, .int .i64 tick, .int .i64 tenant, .int .i64 cell, .int .i64 other, .int .i64 epoch, .int .i64 since, .int .i64 till, .int .i64 n] 45)).alloc (.cells #[.int .i64 nt, .int .i64 nc, .int .i64 nr, .int .i64 nv] 117)) := ((Below.refl _ _).alloc (Nat.le_refl _) _).alloc (by simp) _
  have hBe : Blk ((w.alloc (.cells #[.int .i64 kind, .int .i64 tick, .int .i64 tenant, .int .i64 cell, .int .i64 other, .int .i64 epoch, .int .i64 since, .int .i64 till, .int .i64 n] 45)).alloc (.cells #[.int .i64 nt, .int .i64 nc, .int .i64 nr, .int .i64 nv] 117)) w.heap.size 45 #[.int .i64 kind, .int .i64 tick, .int .i64 tenant, .int .i64 cell, .int .i64 other, .int .i64 epoch, .int .i64 since, .int .i64 till, .int .i64 n] := (Blk.new _ _ _).alloc _
  have hBb : Blk ((w.alloc (.cells #[.int .i64 kind, .int .i64 tick, .int .i64 tenant, .int .i64 cell, .int .i64 other, .int .i64 epoch, .int .i64 since, .int .i64 till, .int .i64 n] 45)).alloc (.cells #[.int .i64 nt, .int .i64 nc, .int .i64 nr, .int .i64 nv] 117)) (w.heap.size + 1) 117 #[.int .i64 nt, .int .i64 nc, .int .i64 nr, .int .i64 nv] := by
    have := Blk.new (w.alloc (.cells #[.int .i64 kind, .int .i64 tick, .int .i64 tenant, .int .i64 cell, .int .i64 other, .int .i64 epoch, .int .i64 since, .int .i64 till, .int .i64 n] 45)) 117 #[.int .i64 nt, .int .i64 nc, .int .i64 nr, .int .i64 nv]
    simpa using this
  go_enter Tryz.func101, Tryz.ntmps101
  go_upto_region 1 with fail
  generalize (w.alloc _).alloc _ = W at *
  have v0 := hBe.cell' (i := 0) (v := .int .i64 kind) rfl
  have v1 := hBe.cell' (i := 1) (v := .int .i64 tick) rfl
  have v2 := hBe.cell' (i := 2) (v := .int .i64 tenant) rfl
  have v3 := hBe.cell' (i := 3) (v := .int .i64 cell) rfl
  have v4 := hBe.cell' (i := 4) (v := .int .i64 other) rfl
  have v5 := hBe.cell' (i := 5) (v := .int .i64 epoch) rfl
  have v6 := hBe.cell' (i := 6) (v := .int .i64 since) rfl
  have v7 := hBe.cell' (i := 7) (v := .int .i64 till) rfl
  have v8 := hBe.cell' (i := 8) (v := .int .i64 n) rfl
  have q0 := hBb.cell' (i := 0) (v := .int .i64 nt) rfl
  have q1 := hBb.cell' (i := 1) (v := .int .i64 nc) rfl
  have q2 := hBb.cell' (i := 2) (v := .int .i64 nr) rfl
  have q3 := hBb.cell' (i := 3) (v := .int .i64 nv) rfl
  have hge := hBe.lt
  have hgb := hBb.lt
  have HBe := Lib.hid hBe
  have HL := Lib.hid hL
  clear hBe hBb hL
  go_wp2_with fail
  refine (entFormOf_any kind nt nc nr nv W h0 h1 h2 h3).mono ?_
  rintro r wy ⟨rfl, hby⟩
  by_cases hk : inR kind 1 16 = true
  · have HR : Hid (entOk nt nc nr nv ⟨kind, tick, tenant, cell, other, epoch, since, till, n⟩ = (inR tick 0 1073741824 && inR tenant (fT nt kind).1 (fT nt kind).2 && inR cell (fC nc kind).1 (fC nc kind).2 && inR other (fO nc nr kind).1 (fO nc nr kind).2 && inR epoch (fE kind).1 (fE kind).2 && inR since (fW kind).1 (fW kind).2 && inR till (fW kind).1 (fW kind).2 && inR n (fN nv kind).1 (fN nv kind).2 && (decide (kind ≠ 1) || decide (other ≠ cell)))) := Lib.hid (by simp [entOk, inS, hk])
    have hfo : formC nt nc nr nv kind = #[.int .i64 (fT nt kind).1, .int .i64 (fT nt kind).2, .int .i64 (fC nc kind).1, .int .i64 (fC nc kind).2, .int .i64 (fO nc nr kind).1, .int .i64 (fO nc nr kind).2, .int .i64 (fE kind).1, .int .i64 (fE kind).2, .int .i64 (fW kind).1, .int .i64 (fW kind).2, .int .i64 (fN nv kind).1, .int .i64 (fN nv kind).2] := if_pos hk
    rw [hfo, hk]
    clear hfo hk h0 h1 h2 h3
    have hBf := Blk.new wy 128 #[.int .i64 (fT nt kind).1, .int .i64 (fT nt kind).2, .int .i64 (fC nc kind).1, .int .i64 (fC nc kind).2, .int .i64 (fO nc nr kind).1, .int .i64 (fO nc nr kind).2, .int .i64 (fE kind).1, .int .i64 (fE kind).2, .int .i64 (fW kind).1, .int .i64 (fW kind).2, .int .i64 (fN nv kind).1, .int .i64 (fN nv kind).2]
    have hL2 := (Below.refl wy.heap.size wy).alloc (Nat.le_refl _) (.cells #[.int .i64 (fT nt kind).1, .int .i64 (fT nt kind).2, .int .i64 (fC nc kind).1, .int .i64 (fC nc kind).2, .int .i64 (fO nc nr kind).1, .int .i64 (fO nc nr kind).2, .int .i64 (fE kind).1, .int .i64 (fE kind).2, .int .i64 (fW kind).1, .int .i64 (fW kind).2, .int .i64 (fN nv kind).1, .int .i64 (fN nv kind).2] 128)
    have hBe2 := (HBe.out.below hby HBe.out.lt).below hL2 ((HBe.out.below hby HBe.out.lt).lt)
    have hLL := (HL.out.trans (hby.mono HL.out.size)).trans (hL2.mono (HL.out.trans (hby.mono HL.out.size)).size)
    clear v0 v1 v2 v3 v4 v5 v6 v7 v8 q0 q1 q2 q3 hge hgb HBe HL hby
    go_upto_region 2 with fail
    generalize wy.alloc _ = W2 at *
    clear hL2
    have v0 := hBe2.cell' (i := 0) (v := .int .i64 kind) rfl
    have v1 := hBe2.cell' (i := 1) (v := .int .i64 tick) rfl
    have v2 := hBe2.cell' (i := 2) (v := .int .i64 tenant) rfl
    have v3 := hBe2.cell' (i := 3) (v := .int .i64 cell) rfl
    have v4 := hBe2.cell' (i := 4) (v := .int .i64 other) rfl
    have v5 := hBe2.cell' (i := 5) (v := .int .i64 epoch) rfl
    have v6 := hBe2.cell' (i := 6) (v := .int .i64 since) rfl
    have v7 := hBe2.cell' (i := 7) (v := .int .i64 till) rfl
    have v8 := hBe2.cell' (i := 8) (v := .int .i64 n) rfl
    have p0 := hBf.cell' (i := 0) (v := .int .i64 (fT nt kind).1) rfl
    have p1 := hBf.cell' (i := 1) (v := .int .i64 (fT nt kind).2) rfl
    have p2 := hBf.cell' (i := 2) (v := .int .i64 (fC nc kind).1) rfl
    have p3 := hBf.cell' (i := 3) (v := .int .i64 (fC nc kind).2) rfl
    have p4 := hBf.cell' (i := 4) (v := .int .i64 (fO nc nr kind).1) rfl
    have p5 := hBf.cell' (i := 5) (v := .int .i64 (fO nc nr kind).2) rfl
    have p6 := hBf.cell' (i := 6) (v := .int .i64 (fE kind).1) rfl
    have p7 := hBf.cell' (i := 7) (v := .int .i64 (fE kind).2) rfl
    have p8 := hBf.cell' (i := 8) (v := .int .i64 (fW kind).1) rfl
    have p9 := hBf.cell' (i := 9) (v := .int .i64 (fW kind).2) rfl
    have p10 := hBf.cell' (i := 10) (v := .int .i64 (fN nv kind).1) rfl
    have p11 := hBf.cell' (i := 11) (v := .int .i64 (fN nv kind).2) rfl
    have hge := hBe2.lt
    have hgf := hBf.lt
    have HL := Lib.hid hLL
    clear hBe2 hBf hLL
    generalize wy.heap.size = gf at *
    have hx : ∀ (y : Later W2.heap.size W2) b o, b < W2.heap.size → y.world.cell? ⟨b, o, none⟩ = W2.cell? ⟨b, o, none⟩ := fun y b o h => y.cell h
    refine start_later W2.heap.size ?_
    intro y0
    have HT : Hid (inR tick 0 1073741824 = (decide (0 ≤ tick) && decide (tick ≤ 1073741824))) := Lib.hid rfl
    generalize fT nt kind = f1 at *
    generalize fC nc kind = f2 at *
    generalize fO nc nr kind = f3 at *
    generalize fE kind = f4 at *
    generalize fW kind = f5 at *
    generalize fN nv kind = f6 at *
    go_wp2_with (go_at_call 116; (with_reducible refine (entHas_any _ _ _ _).mono ?_); rintro r wq ⟨rfl, hbq⟩; obtain ⟨yq, rfl⟩ := later_next _ (Nat.le_refl _) hbq; clear hbq)
    all_goals
      go_ret
      refine ⟨ret_bool ?_, (by first | exact HL.out | exact HL.out.trans ((Later.below _).mono HL.out.size))⟩
      go_light
      first | rw [HR.out, HT.out] | (obtain rfl : kind = 1 := (by clear HR HL HT; simp_all); rw [HR.out, HT.out])
      clear HR HL HT
      simp_all
      try omega
  · have hk : inR kind 1 16 = false := by simpa using hk
    have HR : Hid (entOk nt nc nr nv ⟨kind, tick, tenant, cell, other, epoch, since, till, n⟩ = false) := Lib.hid (by simp [entOk, hk])
    have hfo : formC nt nc nr nv kind = #[.int .i64 0, .int .i64 0, .int .i64 0, .int .i64 0, .int .i64 0, .int .i64 0, .int .i64 0, .int .i64 0, .int .i64 0, .int .i64 0, .int .i64 0, .int .i64 0] := if_neg (by simp [hk])
    have hLL := HL.out.trans (hby.mono HL.out.size)
    have HLL := Lib.hid (hLL.alloc hLL.size (.cells #[.int .i64 0, .int .i64 0, .int .i64 0, .int .i64 0, .int .i64 0, .int .i64 0, .int .i64 0, .int .i64 0, .int .i64 0, .int .i64 0, .int .i64 0, .int .i64 0] 128))
    rw [hfo, hk]
    clear hfo hk h0 h1 h2 h3 hby hLL v0 v1 v2 v3 v4 v5 v6 v7 v8 q0 q1 q2 q3 hge hgb HBe
    go_wp2
    go_ret
    exact ⟨ret_bool HR.out.symm, HLL.out⟩

theorem shape_of {c : Cfg} {e : Ent} (hV : CfgV c) (h : entV c e = true) : entOk 32 16 4 30 e = true := by
  have hk := ent_kind h
  obtain ⟨hti, hT, hC, hO, hE, hS, hU, hN, hne⟩ := ent_rng h
  have h1 := hV.nt
  have h2 := hV.nc
  have h3 := hV.reg
  have h4 := hV.nv
  obtain ⟨kind, tick, tenant, cell, other, epoch, since, till, n⟩ := e
  simp only at *
  clear h hV
  rcases hk with rfl | rfl | rfl | rfl | rfl | rfl | rfl | rfl | rfl | rfl | rfl | rfl | rfl | rfl | rfl | rfl
  all_goals
    simp [inS, inR, fT, fC, fO, fE, fW, fN] at hT hC hO hE hS hU hN hne
    simp [entOk, inS, inR, fT, fC, fO, fE, fW, fN]
    try omega

set_option maxHeartbeats 2000000 in
theorem entShape_any (e : Ent) (w : World) : Calls Tryz.prog 100 #[.agg (entC e).toArray] w fun r w' => r = .returned (.bool (entOk 32 16 4 30 e)) ∧ Below w.heap.size w w' := by
  have HF := Lib.hid (fun W => entFits_any e 32 16 4 30 W (by omega) (by omega) (by omega) (by omega))
  obtain ⟨kind, tick, tenant, cell, other, epoch, since, till, n⟩ := e
  unfold entC at *
  simp only at *
  have hbx := Blk.new w 45 #[.int .i64 kind, .int .i64 tick, .int .i64 tenant, .int .i64 cell, .int .i64 other, .int .i64 epoch, .int .i64 since, .int .i64 till, .int .i64 n]
  have hbel := (Below.refl w.heap.size w).alloc (Nat.le_refl _) (.cells #[.int .i64 kind, .int .i64 tick, .int .i64 tenant, .int .i64 cell, .int .i64 other, .int .i64 epoch, .int .i64 since, .int .i64 till, .int .i64 n] 45)
  have c0 := hbx.cell' (i := 0) (v := .int .i64 kind) rfl
  have c1 := hbx.cell' (i := 1) (v := .int .i64 tick) rfl
  have c2 := hbx.cell' (i := 2) (v := .int .i64 tenant) rfl
  have c3 := hbx.cell' (i := 3) (v := .int .i64 cell) rfl
  have c4 := hbx.cell' (i := 4) (v := .int .i64 other) rfl
  have c5 := hbx.cell' (i := 5) (v := .int .i64 epoch) rfl
  have c6 := hbx.cell' (i := 6) (v := .int .i64 since) rfl
  have c7 := hbx.cell' (i := 7) (v := .int .i64 till) rfl
  have c8 := hbx.cell' (i := 8) (v := .int .i64 n) rfl
  go_enter Tryz.func100, Tryz.ntmps100
  go_wp2_with fail
  refine (HF.out _).mono ?_
  rintro x w1 ⟨rfl, hb1⟩
  replace hbel := hbel.trans (hb1.mono hbel.size)
  clear hbx c0 c1 c2 c3 c4 c5 c6 c7 c8 hb1 HF
  go_wp2
  go_ret
  exact ⟨rfl, hbel⟩

set_option maxHeartbeats 2000000 in
theorem entValid_any (x : CfgA) (c : Cfg) (e : Ent) (w : World) (hV : CfgV c) :
    Calls Tryz.prog 68 #[.agg (cfgC x c), .agg (entC e).toArray] w fun r w' => r = .returned (.bool (entV c e)) ∧ Below w.heap.size w w' := by
  have hSh := shape_of (e := e) hV
  have h1 := hV.nt
  have h2 := hV.nc
  have h3 := hV.reg
  have h4 := hV.nv
  have HF := Lib.hid (fun W => entFits_any e c.tenants.length c.cells.length c.regions c.versions.length W (by omega) (by omega) (by omega) (by omega))
  have HS := Lib.hid (fun W => entShape_any e W)
  have HE : Hid (entOk (c.tenants.length : Int) c.cells.length c.regions c.versions.length e = entV c e) := Lib.hid rfl
  obtain ⟨az, cz, ac, cc, at_, ct, av, cv, ar, cr, ao, co⟩ := x
  obtain ⟨kind, tick, tenant, cell, other, epoch, since, till, n⟩ := e
  have HSh := Lib.hid hSh
  clear hSh hV
  unfold entC at HF HS
  simp only at HF HS
  have hL : Below w.heap.size w ((w.alloc (.cells #[.int .i64 c.regions, .slice az c.zones.length cz, .slice ac c.cells.length cc, .slice at_ c.tenants.length ct, .slice av c.versions.length cv, .slice ar c.replicas.length cr, .slice ao c.observers.length co, .int .i64 c.blast, .int .i64 c.lease, .int .i64 c.bake] 30)).alloc (.cells #[.int .i64 kind, .int .i64 tick, .int .i64 tenant, .int .i64 cell, .int .i64 other, .int .i64 epoch, .int .i64 since, .int .i64 till, .int .i64 n] 45)) := (((Below.refl w.heap.size w).alloc (by simp <;> omega) (.cells #[.int .i64 c.regions, .slice az c.zones.length cz, .slice ac c.cells.length cc, .slice at_ c.tenants.length ct, .slice av c.versions.length cv, .slice ar c.replicas.length cr, .slice ao c.observers.length co, .int .i64 c.blast, .int .i64 c.lease, .int .i64 c.bake] 30)).alloc (by simp <;> omega) (.cells #[.int .i64 kind, .int .i64 tick, .int .i64 tenant, .int .i64 cell, .int .i64 other, .int .i64 epoch, .int .i64 since, .int .i64 till, .int .i64 n] 45))
  have hBc : Blk ((w.alloc (.cells #[.int .i64 c.regions, .slice az c.zones.length cz, .slice ac c.cells.length cc, .slice at_ c.tenants.length ct, .slice av c.versions.length cv, .slice ar c.replicas.length cr, .slice ao c.observers.length co, .int .i64 c.blast, .int .i64 c.lease, .int .i64 c.bake] 30)).alloc (.cells #[.int .i64 kind, .int .i64 tick, .int .i64 tenant, .int .i64 cell, .int .i64 other, .int .i64 epoch, .int .i64 since, .int .i64 till, .int .i64 n] 45)) (w.heap.size) 30 #[.int .i64 c.regions, .slice az c.zones.length cz, .slice ac c.cells.length cc, .slice at_ c.tenants.length ct, .slice av c.versions.length cv, .slice ar c.replicas.length cr, .slice ao c.observers.length co, .int .i64 c.blast, .int .i64 c.lease, .int .i64 c.bake] := by
    have := ((Blk.new w 30 #[.int .i64 c.regions, .slice az c.zones.length cz, .slice ac c.cells.length cc, .slice at_ c.tenants.length ct, .slice av c.versions.length cv, .slice ar c.replicas.length cr, .slice ao c.observers.length co, .int .i64 c.blast, .int .i64 c.lease, .int .i64 c.bake]).alloc (.cells #[.int .i64 kind, .int .i64 tick, .int .i64 tenant, .int .i64 cell, .int .i64 other, .int .i64 epoch, .int .i64 since, .int .i64 till, .int .i64 n] 45))
    simpa using this
  have hBe : Blk ((w.alloc (.cells #[.int .i64 c.regions, .slice az c.zones.length cz, .slice ac c.cells.length cc, .slice at_ c.tenants.length ct, .slice av c.versions.length cv, .slice ar c.replicas.length cr, .slice ao c.observers.length co, .int .i64 c.blast, .int .i64 c.lease, .int .i64 c.bake] 30)).alloc (.cells #[.int .i64 kind, .int .i64 tick, .int .i64 tenant, .int .i64 cell, .int .i64 other, .int .i64 epoch, .int .i64 since, .int .i64 till, .int .i64 n] 45)) (w.heap.size + 1) 45 #[.int .i64 kind, .int .i64 tick, .int .i64 tenant, .int .i64 cell, .int .i64 other, .int .i64 epoch, .int .i64 since, .int .i64 till, .int .i64 n] := by
    have := (Blk.new (w.alloc (.cells #[.int .i64 c.regions, .slice az c.zones.length cz, .slice ac c.cells.length cc, .slice at_ c.tenants.length ct, .slice av c.versions.length cv, .slice ar c.replicas.length cr, .slice ao c.observers.length co, .int .i64 c.blast, .int .i64 c.lease, .int .i64 c.bake] 30)) 45 #[.int .i64 kind, .int .i64 tick, .int .i64 tenant, .int .i64 cell, .int .i64 other, .int .i64 epoch, .int .i64 since, .int .i64 till, .int .i64 n])
    simpa using this
  unfold cfgC entC
  simp only
  go_enter Tryz.func68, Tryz.ntmps68
  go_upto_region 1 with fail
  generalize (w.alloc _).alloc _ = W at *
  have hgc := hBc.lt
  have d0 := hBc.cell' (i := 0) (v := .int .i64 c.regions) rfl
  have d1 := hBc.cell' (i := 1) (v := .slice az c.zones.length cz) rfl
  have d2 := hBc.cell' (i := 2) (v := .slice ac c.cells.length cc) rfl
  have d3 := hBc.cell' (i := 3) (v := .slice at_ c.tenants.length ct) rfl
  have d4 := hBc.cell' (i := 4) (v := .slice av c.versions.length cv) rfl
  have d5 := hBc.cell' (i := 5) (v := .slice ar c.replicas.length cr) rfl
  have d6 := hBc.cell' (i := 6) (v := .slice ao c.observers.length co) rfl
  have d7 := hBc.cell' (i := 7) (v := .int .i64 c.blast) rfl
  have d8 := hBc.cell' (i := 8) (v := .int .i64 c.lease) rfl
  have d9 := hBc.cell' (i := 9) (v := .int .i64 c.bake) rfl
  clear hBc
  have hge := hBe.lt
  have v0 := hBe.cell' (i := 0) (v := .int .i64 kind) rfl
  have v1 := hBe.cell' (i := 1) (v := .int .i64 tick) rfl
  have v2 := hBe.cell' (i := 2) (v := .int .i64 tenant) rfl
  have v3 := hBe.cell' (i := 3) (v := .int .i64 cell) rfl
  have v4 := hBe.cell' (i := 4) (v := .int .i64 other) rfl
  have v5 := hBe.cell' (i := 5) (v := .int .i64 epoch) rfl
  have v6 := hBe.cell' (i := 6) (v := .int .i64 since) rfl
  have v7 := hBe.cell' (i := 7) (v := .int .i64 till) rfl
  have v8 := hBe.cell' (i := 8) (v := .int .i64 n) rfl
  clear hBe
  have HL := Lib.hid hL
  clear hL
  have hx : ∀ (y : Later W.heap.size W) b o, b < W.heap.size → y.world.cell? ⟨b, o, none⟩ = W.cell? ⟨b, o, none⟩ := fun y b o h => y.cell h
  refine start_later W.heap.size ?_
  intro y0
  go_wp2_with fail
  refine (HS.out _).mono ?_
  rintro r wq ⟨rfl, hbq⟩
  obtain ⟨yq, rfl⟩ := later_next _ (Nat.le_refl _) hbq
  clear hbq
  by_cases hsh : entOk 32 16 4 30 ⟨kind, tick, tenant, cell, other, epoch, since, till, n⟩ = true
  · rw [hsh]
    go_wp2_with fail
    refine (HF.out _).mono ?_
    rintro r wq ⟨rfl, hbq⟩
    obtain ⟨yr, rfl⟩ := later_next _ (Nat.le_refl _) hbq
    clear hbq
    go_wp2
    go_ret
    exact ⟨ret_bool HE.out, HL.out.trans (yr.below.mono HL.out.size)⟩
  · have hsh2 : entOk 32 16 4 30 ⟨kind, tick, tenant, cell, other, epoch, since, till, n⟩ = false := by simpa using hsh
    have HN : Hid (entV c ⟨kind, tick, tenant, cell, other, epoch, since, till, n⟩ = false) := Lib.hid (by rw [Bool.eq_false_iff]; exact fun h => hsh (HSh.out h))
    rw [hsh2]
    clear hsh hsh2
    go_wp2
    go_ret
    exact ⟨ret_bool HN.out.symm, HL.out.trans (yq.below.mono HL.out.size)⟩
end Go.Proofs.YtjobcfpnmfjlfaaGreat

namespace Go.Proofs.YtjobcfpnmfjlfaaGreat
open Go.RowKit
set_option linter.unusedSimpArgs false
set_option linter.unusedVariables false

set_option maxHeartbeats 16000000 in
set_option maxRecDepth 100000 in
theorem stRefused_any (x : CfgA) (c : Cfg) (y : StA) (s : St) (e : Ent) (w : World) (hV : CfgV c) (hc : CfgOk w (· < w.heap.size) x c) (hI : StInv c s) (hs : StOk w (· < w.heap.size) y s) :
    Calls Tryz.prog 39 #[.agg (cfgC x c), .agg (stC y s), .agg (entC e).toArray] w fun r w' => r = .returned (.int .i64 (refusedE c s e)) ∧ Below w.heap.size w w' := by
  have hnc := hV.nc
  have hntt := hV.nt
  obtain ⟨az, cz, ac, cc, at_, ct, av, cv, ar, cr, ao, co⟩ := x
  have HV := Lib.hid hV
  have HKc := Lib.hid hc
  clear hV hc
  obtain ⟨sat, sct, sac, scc⟩ := y
  have HKs := Lib.hid hs
  have hsl : 1 ≤ s.cells.length ∧ s.cells.length ≤ 16 := by have := hI.lc; omega
  have hst : s.tenants.length ≤ 32 := by have := hI.lt; omega
  have HI := Lib.hid hI
  clear hs hI
  obtain ⟨kind, tick, tenant, cell, other, epoch, since, till, n⟩ := e
  try simp only at *
  have HVA := Lib.hid (fun W => entValid_any ⟨az, cz, ac, cc, at_, ct, av, cv, ar, cr, ao, co⟩ c ⟨kind, tick, tenant, cell, other, epoch, since, till, n⟩ W HV.out)
  unfold cfgC entC at HVA
  simp only at HVA
  have hL : Below w.heap.size w (((w.alloc (.cells #[.int .i64 c.regions, .slice az c.zones.length cz, .slice ac c.cells.length cc, .slice at_ c.tenants.length ct, .slice av c.versions.length cv, .slice ar c.replicas.length cr, .slice ao c.observers.length co, .int .i64 c.blast, .int .i64 c.lease, .int .i64 c.bake] 30)).alloc (.cells #[.int .i64 s.tick, .int .i64 s.count, .slice sat s.tenants.length sct, .slice sac s.cells.length scc, .int .i64 s.proven, .int .i64 s.evac, .int .i64 s.low, .int .i64 s.high] 38)).alloc (.cells #[.int .i64 kind, .int .i64 tick, .int .i64 tenant, .int .i64 cell, .int .i64 other, .int .i64 epoch, .int .i64 since, .int .i64 till, .int .i64 n] 45)) := ((((Below.refl w.heap.size w).alloc (by simp <;> omega) (.cells #[.int .i64 c.regions, .slice az c.zones.length cz, .slice ac c.cells.length cc, .slice at_ c.tenants.length ct, .slice av c.versions.length cv, .slice ar c.replicas.length cr, .slice ao c.observers.length co, .int .i64 c.blast, .int .i64 c.lease, .int .i64 c.bake] 30)).alloc (by simp <;> omega) (.cells #[.int .i64 s.tick, .int .i64 s.count, .slice sat s.tenants.length sct, .slice sac s.cells.length scc, .int .i64 s.proven, .int .i64 s.evac, .int .i64 s.low, .int .i64 s.high] 38)).alloc (by simp <;> omega) (.cells #[.int .i64 kind, .int .i64 tick, .int .i64 tenant, .int .i64 cell, .int .i64 other, .int .i64 epoch, .int .i64 since, .int .i64 till, .int .i64 n] 45))
  have hBc : Blk (((w.alloc (.cells #[.int .i64 c.regions, .slice az c.zones.length cz, .slice ac c.cells.length cc, .slice at_ c.tenants.length ct, .slice av c.versions.length cv, .slice ar c.replicas.length cr, .slice ao c.observers.length co, .int .i64 c.blast, .int .i64 c.lease, .int .i64 c.bake] 30)).alloc (.cells #[.int .i64 s.tick, .int .i64 s.count, .slice sat s.tenants.length sct, .slice sac s.cells.length scc, .int .i64 s.proven, .int .i64 s.evac, .int .i64 s.low, .int .i64 s.high] 38)).alloc (.cells #[.int .i64 kind, .int .i64 tick, .int .i64 tenant, .int .i64 cell, .int .i64 other, .int .i64 epoch, .int .i64 since, .int .i64 till, .int .i64 n] 45)) (w.heap.size) 30 #[.int .i64 c.regions, .slice az c.zones.length cz, .slice ac c.cells.length cc, .slice at_ c.tenants.length ct, .slice av c.versions.length cv, .slice ar c.replicas.length cr, .slice ao c.observers.length co, .int .i64 c.blast, .int .i64 c.lease, .int .i64 c.bake] := by
    have := (((Blk.new w 30 #[.int .i64 c.regions, .slice az c.zones.length cz, .slice ac c.cells.length cc, .slice at_ c.tenants.length ct, .slice av c.versions.length cv, .slice ar c.replicas.length cr, .slice ao c.observers.length co, .int .i64 c.blast, .int .i64 c.lease, .int .i64 c.bake]).alloc (.cells #[.int .i64 s.tick, .int .i64 s.count, .slice sat s.tenants.length sct, .slice sac s.cells.length scc, .int .i64 s.proven, .int .i64 s.evac, .int .i64 s.low, .int .i64 s.high] 38)).alloc (.cells #[.int .i64 kind, .int .i64 tick, .int .i64 tenant, .int .i64 cell, .int .i64 other, .int .i64 epoch, .int .i64 since, .int .i64 till, .int .i64 n] 45))
    simpa using this
  have hBs : Blk (((w.alloc (.cells #[.int .i64 c.regions, .slice az c.zones.length cz, .slice ac c.cells.length cc, .slice at_ c.tenants.length ct, .slice av c.versions.length cv, .slice ar c.replicas.length cr, .slice ao c.observers.length co, .int .i64 c.blast, .int .i64 c.lease, .int .i64 c.bake] 30)).alloc (.cells #[.int .i64 s.tick, .int .i64 s.count, .slice sat s.tenants.length sct, .slice sac s.cells.length scc, .int .i64 s.proven, .int .i64 s.evac, .int .i64 s.low, .int .i64 s.high] 38)).alloc (.cells #[.int .i64 kind, .int .i64 tick, .int .i64 tenant, .int .i64 cell, .int .i64 other, .int .i64 epoch, .int .i64 since, .int .i64 till, .int .i64 n] 45)) (w.heap.size + 1) 38 #[.int .i64 s.tick, .int .i64 s.count, .slice sat s.tenants.length sct, .slice sac s.cells.length scc, .int .i64 s.proven, .int .i64 s.evac, .int .i64 s.low, .int .i64 s.high] := by
    have := ((Blk.new (w.alloc (.cells #[.int .i64 c.regions, .slice az c.zones.length cz, .slice ac c.cells.length cc, .slice at_ c.tenants.length ct, .slice av c.versions.length cv, .slice ar c.replicas.length cr, .slice ao c.observers.length co, .int .i64 c.blast, .int .i64 c.lease, .int .i64 c.bake] 30)) 38 #[.int .i64 s.tick, .int .i64 s.count, .slice sat s.tenants.length sct, .slice sac s.cells.length scc, .int .i64 s.proven, .int .i64 s.evac, .int .i64 s.low, .int .i64 s.high]).alloc (.cells #[.int .i64 kind, .int .i64 tick, .int .i64 tenant, .int .i64 cell, .int .i64 other, .int .i64 epoch, .int .i64 since, .int .i64 till, .int .i64 n] 45))
    simpa using this
  have hBe : Blk (((w.alloc (.cells #[.int .i64 c.regions, .slice az c.zones.length cz, .slice ac c.cells.length cc, .slice at_ c.tenants.length ct, .slice av c.versions.length cv, .slice ar c.replicas.length cr, .slice ao c.observers.length co, .int .i64 c.blast, .int .i64 c.lease, .int .i64 c.bake] 30)).alloc (.cells #[.int .i64 s.tick, .int .i64 s.count, .slice sat s.tenants.length sct, .slice sac s.cells.length scc, .int .i64 s.proven, .int .i64 s.evac, .int .i64 s.low, .int .i64 s.high] 38)).alloc (.cells #[.int .i64 kind, .int .i64 tick, .int .i64 tenant, .int .i64 cell, .int .i64 other, .int .i64 epoch, .int .i64 since, .int .i64 till, .int .i64 n] 45)) (w.heap.size + 1 + 1) 45 #[.int .i64 kind, .int .i64 tick, .int .i64 tenant, .int .i64 cell, .int .i64 other, .int .i64 epoch, .int .i64 since, .int .i64 till, .int .i64 n] := by
    have := (Blk.new ((w.alloc (.cells #[.int .i64 c.regions, .slice az c.zones.length cz, .slice ac c.cells.length cc, .slice at_ c.tenants.length ct, .slice av c.versions.length cv, .slice ar c.replicas.length cr, .slice ao c.observers.length co, .int .i64 c.blast, .int .i64 c.lease, .int .i64 c.bake] 30)).alloc (.cells #[.int .i64 s.tick, .int .i64 s.count, .slice sat s.tenants.length sct, .slice sac s.cells.length scc, .int .i64 s.proven, .int .i64 s.evac, .int .i64 s.low, .int .i64 s.high] 38)) 45 #[.int .i64 kind, .int .i64 tick, .int .i64 tenant, .int .i64 cell, .int .i64 other, .int .i64 epoch, .int .i64 since, .int .i64 till, .int .i64 n])
    simpa using this
  unfold cfgC stC entC
  simp only
  go_enter Tryz.func39, Tryz.ntmps39
  go_upto_region 1 with fail
  generalize ((w.alloc _).alloc _).alloc _ = W at *
  have hgc := hBc.lt
  have d0 := hBc.cell' (i := 0) (v := .int .i64 c.regions) rfl
  have d1 := hBc.cell' (i := 1) (v := .slice az c.zones.length cz) rfl
  have d2 := hBc.cell' (i := 2) (v := .slice ac c.cells.length cc) rfl
  have d3 := hBc.cell' (i := 3) (v := .slice at_ c.tenants.length ct) rfl
  have d4 := hBc.cell' (i := 4) (v := .slice av c.versions.length cv) rfl
  have d5 := hBc.cell' (i := 5) (v := .slice ar c.replicas.length cr) rfl
  have d6 := hBc.cell' (i := 6) (v := .slice ao c.observers.length co) rfl
  have d7 := hBc.cell' (i := 7) (v := .int .i64 c.blast) rfl
  have d8 := hBc.cell' (i := 8) (v := .int .i64 c.lease) rfl
  have d9 := hBc.cell' (i := 9) (v := .int .i64 c.bake) rfl
  clear hBc
  have hgs := hBs.lt
  have su0 := hBs.cell' (i := 0) (v := .int .i64 s.tick) rfl
  have su1 := hBs.cell' (i := 1) (v := .int .i64 s.count) rfl
  have su2 := hBs.cell' (i := 2) (v := .slice sat s.tenants.length sct) rfl
  have su3 := hBs.cell' (i := 3) (v := .slice sac s.cells.length scc) rfl
  have su4 := hBs.cell' (i := 4) (v := .int .i64 s.proven) rfl
  have su5 := hBs.cell' (i := 5) (v := .int .i64 s.evac) rfl
  have su6 := hBs.cell' (i := 6) (v := .int .i64 s.low) rfl
  have su7 := hBs.cell' (i := 7) (v := .int .i64 s.high) rfl
  clear hBs
  have hge := hBe.lt
  have v0 := hBe.cell' (i := 0) (v := .int .i64 kind) rfl
  have v1 := hBe.cell' (i := 1) (v := .int .i64 tick) rfl
  have v2 := hBe.cell' (i := 2) (v := .int .i64 tenant) rfl
  have v3 := hBe.cell' (i := 3) (v := .int .i64 cell) rfl
  have v4 := hBe.cell' (i := 4) (v := .int .i64 other) rfl
  have v5 := hBe.cell' (i := 5) (v := .int .i64 epoch) rfl
  have v6 := hBe.cell' (i := 6) (v := .int .i64 since) rfl
  have v7 := hBe.cell' (i := 7) (v := .int .i64 till) rfl
  have v8 := hBe.cell' (i := 8) (v := .int .i64 n) rfl
  clear hBe
  have HL := Lib.hid hL
  have HWc := Lib.hid (HKc.out.belowW hL)
  have HWs := Lib.hid (HKs.out.belowW hL)
  clear hL
  have hl1 : ((s.tenants.length : Int) != (c.tenants.length : Int)) = false := by rw [HI.out.lt]; simp
  have hl2 : ((s.cells.length : Int) != (c.cells.length : Int)) = false := by rw [HI.out.lc]; simp
  have hx : ∀ (y : Later W.heap.size W) b o, b < W.heap.size → y.world.cell? ⟨b, o, none⟩ = W.cell? ⟨b, o, none⟩ := fun y b o h => y.cell h
  refine start_later W.heap.size ?_
  intro y0
  go_wp2_with fail
  refine (HVA.out _).mono ?_
  rintro r wq ⟨rfl, hbq⟩
  obtain ⟨yq, rfl⟩ := later_next _ (Nat.le_refl _) hbq
  clear hbq HVA
  by_cases hv : entV c ⟨kind, tick, tenant, cell, other, epoch, since, till, n⟩ = true
  · by_cases hcn : 4096 ≤ s.count
    · have HRF : Hid (refusedE c s ⟨kind, tick, tenant, cell, other, epoch, since, till, n⟩ = 2) := Lib.hid (by unfold refusedE; rw [if_neg (by simp [hv]), if_pos hcn])
      rw [hv]
      go_wp2
      go_ret
      exact ⟨ret_i64 HRF.out.symm, HL.out.trans (yq.below.mono HL.out.size)⟩
    · by_cases htt : tick < s.tick
      · have HRF : Hid (refusedE c s ⟨kind, tick, tenant, cell, other, epoch, since, till, n⟩ = 3) := Lib.hid (by unfold refusedE; rw [if_neg (by simp [hv]), if_neg hcn, if_pos htt])
        rw [hv]
        go_wp2
        go_ret
        exact ⟨ret_i64 HRF.out.symm, HL.out.trans (yq.below.mono HL.out.size)⟩
      · have HRF : Hid (refusedE c s ⟨kind, tick, tenant, cell, other, epoch, since, till, n⟩ = kindE c s ⟨kind, tick, tenant, cell, other, epoch, since, till, n⟩) := Lib.hid (by unfold refusedE; rw [if_neg (by simp [hv]), if_neg hcn, if_neg htt])
        have hkk := ent_kind hv
        obtain ⟨htk, hT, hC, hO, hE, hS, hU, hN, hne⟩ := ent_rng hv
        rw [hv]
        simp only at hkk htk hT hC hO hE hS hU hN hne
        clear hv hne
        rcases hkk with rfl | rfl | rfl | rfl | rfl | rfl | rfl | rfl | rfl | rfl | rfl | rfl | rfl | rfl | rfl | rfl
        · simp [inS, inR, fT, fC, fO, fE, fW, fN] at hT hC hO hE hS hU hN
          have ht : 0 ≤ tenant ∧ tenant < s.tenants.length := by have := HI.out.lt; omega
          have hcl : 0 ≤ cell ∧ cell < s.cells.length := by have := HI.out.lc; omega
          have hot : other = -1 ∨ (0 ≤ other ∧ other < s.cells.length) := by have := HI.out.lc; omega
          have HKD : Hid (∀ yy : Later W.heap.size W, Calls Tryz.prog 69 #[.agg #[.int .i64 c.regions, .slice az c.zones.length cz, .slice ac c.cells.length cc, .slice at_ c.tenants.length ct, .slice av c.versions.length cv, .slice ar c.replicas.length cr, .slice ao c.observers.length co, .int .i64 c.blast, .int .i64 c.lease, .int .i64 c.bake], .agg #[.int .i64 s.tick, .int .i64 s.count, .slice sat s.tenants.length sct, .slice sac s.cells.length scc, .int .i64 s.proven, .int .i64 s.evac, .int .i64 s.low, .int .i64 s.high], .agg #[.int .i64 1, .int .i64 tick, .int .i64 tenant, .int .i64 cell, .int .i64 other, .int .i64 epoch, .int .i64 since, .int .i64 till, .int .i64 n]] yy.world fun r w' => r = .returned (.int .i64 (placeE c s ⟨1, tick, tenant, cell, other, epoch, since, till, n⟩)) ∧ Below yy.world.heap.size yy.world w') := Lib.hid (fun yy => stPlace_any ⟨az, cz, ac, cc, at_, ct, av, cv, ar, cr, ao, co⟩ c ⟨sat, sct, sac, scc⟩ s ⟨1, tick, tenant, cell, other, epoch, since, till, n⟩ yy.world HV.out (HWc.out.laterW yy) HI.out (HWs.out.laterW yy) ht.1 ht.2 hcl hot)
          go_wp2_with (go_at_call 69; (with_reducible refine (HKD.out _).mono ?_); rintro r wq ⟨rfl, hbq⟩; obtain ⟨yq, rfl⟩ := later_next _ (Nat.le_refl _) hbq; clear hbq)
          go_ret
          exact ⟨ret_i64 (by rw [HRF.out]; rfl), HL.out.trans ((Later.below _).mono HL.out.size)⟩
        · simp [inS, inR, fT, fC, fO, fE, fW, fN] at hT hC hO hE hS hU hN
          have ht : 0 ≤ tenant ∧ tenant < s.tenants.length := by have := HI.out.lt; omega
          have hcl : 0 ≤ cell ∧ cell < s.cells.length := by have := HI.out.lc; omega
          have hep : 0 ≤ epoch ∧ epoch ≤ 1048576 := by omega
          have hsi : 0 ≤ since ∧ since ≤ 1073741824 := by omega
          have htl : 0 ≤ till ∧ till ≤ 1073741824 := by omega
          have HKD : Hid (∀ yy : Later W.heap.size W, Calls Tryz.prog 75 #[.agg #[.int .i64 c.regions, .slice az c.zones.length cz, .slice ac c.cells.length cc, .slice at_ c.tenants.length ct, .slice av c.versions.length cv, .slice ar c.replicas.length cr, .slice ao c.observers.length co, .int .i64 c.blast, .int .i64 c.lease, .int .i64 c.bake], .agg #[.int .i64 s.tick, .int .i64 s.count, .slice sat s.tenants.length sct, .slice sac s.cells.length scc, .int .i64 s.proven, .int .i64 s.evac, .int .i64 s.low, .int .i64 s.high], .agg #[.int .i64 2, .int .i64 tick, .int .i64 tenant, .int .i64 cell, .int .i64 other, .int .i64 epoch, .int .i64 since, .int .i64 till, .int .i64 n]] yy.world fun r w' => r = .returned (.int .i64 (grantE c s ⟨2, tick, tenant, cell, other, epoch, since, till, n⟩)) ∧ Below yy.world.heap.size yy.world w') := Lib.hid (fun yy => stGrant_any ⟨az, cz, ac, cc, at_, ct, av, cv, ar, cr, ao, co⟩ c ⟨sat, sct, sac, scc⟩ s ⟨2, tick, tenant, cell, other, epoch, since, till, n⟩ yy.world HV.out (HWc.out.laterW yy) HI.out (HWs.out.laterW yy) ht.1 ht.2 hcl.1 hcl.2 htk hep hsi htl)
          go_wp2_with (go_at_call 75; (with_reducible refine (HKD.out _).mono ?_); rintro r wq ⟨rfl, hbq⟩; obtain ⟨yq, rfl⟩ := later_next _ (Nat.le_refl _) hbq; clear hbq)
          go_ret
          exact ⟨ret_i64 (by rw [HRF.out]; rfl), HL.out.trans ((Later.below _).mono HL.out.size)⟩
        · simp [inS, inR, fT, fC, fO, fE, fW, fN] at hT hC hO hE hS hU hN
          have ht : 0 ≤ tenant ∧ tenant < s.tenants.length := by have := HI.out.lt; omega
          have HKD : Hid (∀ yy : Later W.heap.size W, Calls Tryz.prog 76 #[.agg #[.int .i64 s.tick, .int .i64 s.count, .slice sat s.tenants.length sct, .slice sac s.cells.length scc, .int .i64 s.proven, .int .i64 s.evac, .int .i64 s.low, .int .i64 s.high], .agg #[.int .i64 3, .int .i64 tick, .int .i64 tenant, .int .i64 cell, .int .i64 other, .int .i64 epoch, .int .i64 since, .int .i64 till, .int .i64 n]] yy.world fun r w' => r = .returned (.int .i64 (cutE s ⟨3, tick, tenant, cell, other, epoch, since, till, n⟩)) ∧ Below yy.world.heap.size yy.world w') := Lib.hid (fun yy => stCut_any c ⟨sat, sct, sac, scc⟩ s ⟨3, tick, tenant, cell, other, epoch, since, till, n⟩ yy.world HV.out HI.out (HWs.out.laterW yy) ht.1 ht.2)
          go_wp2_with (go_at_call 76; (with_reducible refine (HKD.out _).mono ?_); rintro r wq ⟨rfl, hbq⟩; obtain ⟨yq, rfl⟩ := later_next _ (Nat.le_refl _) hbq; clear hbq)
          go_ret
          exact ⟨ret_i64 (by rw [HRF.out]; rfl), HL.out.trans ((Later.below _).mono HL.out.size)⟩
        · simp [inS, inR, fT, fC, fO, fE, fW, fN] at hT hC hO hE hS hU hN
          have ht : 0 ≤ tenant ∧ tenant < s.tenants.length := by have := HI.out.lt; omega
          have hcl : cell = -1 ∨ (0 ≤ cell ∧ cell < s.cells.length) := by have := HI.out.lc; omega
          have HKD : Hid (∀ yy : Later W.heap.size W, Calls Tryz.prog 70 #[.agg #[.int .i64 c.regions, .slice az c.zones.length cz, .slice ac c.cells.length cc, .slice at_ c.tenants.length ct, .slice av c.versions.length cv, .slice ar c.replicas.length cr, .slice ao c.observers.length co, .int .i64 c.blast, .int .i64 c.lease, .int .i64 c.bake], .agg #[.int .i64 s.tick, .int .i64 s.count, .slice sat s.tenants.length sct, .slice sac s.cells.length scc, .int .i64 s.proven, .int .i64 s.evac, .int .i64 s.low, .int .i64 s.high], .agg #[.int .i64 4, .int .i64 tick, .int .i64 tenant, .int .i64 cell, .int .i64 other, .int .i64 epoch, .int .i64 since, .int .i64 till, .int .i64 n]] yy.world fun r w' => r = .returned (.int .i64 (standbyE c s ⟨4, tick, tenant, cell, other, epoch, since, till, n⟩)) ∧ Below yy.world.heap.size yy.world w') := Lib.hid (fun yy => stStandby_any ⟨az, cz, ac, cc, at_, ct, av, cv, ar, cr, ao, co⟩ c ⟨sat, sct, sac, scc⟩ s ⟨4, tick, tenant, cell, other, epoch, since, till, n⟩ yy.world HV.out (HWc.out.laterW yy) HI.out (HWs.out.laterW yy) ht.1 ht.2 hcl)
          go_wp2_with (go_at_call 70; (with_reducible refine (HKD.out _).mono ?_); rintro r wq ⟨rfl, hbq⟩; obtain ⟨yq, rfl⟩ := later_next _ (Nat.le_refl _) hbq; clear hbq)
          go_ret
          exact ⟨ret_i64 (by rw [HRF.out]; rfl), HL.out.trans ((Later.below _).mono HL.out.size)⟩
        · simp [inS, inR, fT, fC, fO, fE, fW, fN] at hT hC hO hE hS hU hN
          have ht : 0 ≤ tenant ∧ tenant < s.tenants.length := by have := HI.out.lt; omega
          have hcl : 0 ≤ cell ∧ cell < s.cells.length := by have := HI.out.lc; omega
          have HKD : Hid (∀ yy : Later W.heap.size W, Calls Tryz.prog 71 #[.agg #[.int .i64 s.tick, .int .i64 s.count, .slice sat s.tenants.length sct, .slice sac s.cells.length scc, .int .i64 s.proven, .int .i64 s.evac, .int .i64 s.low, .int .i64 s.high], .agg #[.int .i64 5, .int .i64 tick, .int .i64 tenant, .int .i64 cell, .int .i64 other, .int .i64 epoch, .int .i64 since, .int .i64 till, .int .i64 n]] yy.world fun r w' => r = .returned (.int .i64 (readyE s ⟨5, tick, tenant, cell, other, epoch, since, till, n⟩)) ∧ Below yy.world.heap.size yy.world w') := Lib.hid (fun yy => stReady_any c ⟨sat, sct, sac, scc⟩ s ⟨5, tick, tenant, cell, other, epoch, since, till, n⟩ yy.world HV.out HI.out (HWs.out.laterW yy) ht.1 ht.2 hcl)
          go_wp2_with (go_at_call 71; (with_reducible refine (HKD.out _).mono ?_); rintro r wq ⟨rfl, hbq⟩; obtain ⟨yq, rfl⟩ := later_next _ (Nat.le_refl _) hbq; clear hbq)
          go_ret
          exact ⟨ret_i64 (by rw [HRF.out]; rfl), HL.out.trans ((Later.below _).mono HL.out.size)⟩
        · simp [inS, inR, fT, fC, fO, fE, fW, fN] at hT hC hO hE hS hU hN
          have ht : 0 ≤ tenant ∧ tenant < s.tenants.length := by have := HI.out.lt; omega
          have hcl : 0 ≤ cell ∧ cell < s.cells.length := by have := HI.out.lc; omega
          have HKD : Hid (∀ yy : Later W.heap.size W, Calls Tryz.prog 72 #[.agg #[.int .i64 c.regions, .slice az c.zones.length cz, .slice ac c.cells.length cc, .slice at_ c.tenants.length ct, .slice av c.versions.length cv, .slice ar c.replicas.length cr, .slice ao c.observers.length co, .int .i64 c.blast, .int .i64 c.lease, .int .i64 c.bake], .agg #[.int .i64 s.tick, .int .i64 s.count, .slice sat s.tenants.length sct, .slice sac s.cells.length scc, .int .i64 s.proven, .int .i64 s.evac, .int .i64 s.low, .int .i64 s.high], .agg #[.int .i64 6, .int .i64 tick, .int .i64 tenant, .int .i64 cell, .int .i64 other, .int .i64 epoch, .int .i64 since, .int .i64 till, .int .i64 n]] yy.world fun r w' => r = .returned (.int .i64 (migrateE c s ⟨6, tick, tenant, cell, other, epoch, since, till, n⟩)) ∧ Below yy.world.heap.size yy.world w') := Lib.hid (fun yy => stMigrate_any ⟨az, cz, ac, cc, at_, ct, av, cv, ar, cr, ao, co⟩ c ⟨sat, sct, sac, scc⟩ s ⟨6, tick, tenant, cell, other, epoch, since, till, n⟩ yy.world HV.out (HWc.out.laterW yy) HI.out (HWs.out.laterW yy) ht.1 ht.2 hcl)
          go_wp2_with (go_at_call 72; (with_reducible refine (HKD.out _).mono ?_); rintro r wq ⟨rfl, hbq⟩; obtain ⟨yq, rfl⟩ := later_next _ (Nat.le_refl _) hbq; clear hbq)
          go_ret
          exact ⟨ret_i64 (by rw [HRF.out]; rfl), HL.out.trans ((Later.below _).mono HL.out.size)⟩
        · simp [inS, inR, fT, fC, fO, fE, fW, fN] at hT hC hO hE hS hU hN
          have ht : 0 ≤ tenant ∧ tenant < s.tenants.length := by have := HI.out.lt; omega
          have HKD : Hid (∀ yy : Later W.heap.size W, Calls Tryz.prog 73 #[.agg #[.int .i64 s.tick, .int .i64 s.count, .slice sat s.tenants.length sct, .slice sac s.cells.length scc, .int .i64 s.proven, .int .i64 s.evac, .int .i64 s.low, .int .i64 s.high], .agg #[.int .i64 7, .int .i64 tick, .int .i64 tenant, .int .i64 cell, .int .i64 other, .int .i64 epoch, .int .i64 since, .int .i64 till, .int .i64 n]] yy.world fun r w' => r = .returned (.int .i64 (abandonE s ⟨7, tick, tenant, cell, other, epoch, since, till, n⟩)) ∧ Below yy.world.heap.size yy.world w') := Lib.hid (fun yy => stAbandon_any c ⟨sat, sct, sac, scc⟩ s ⟨7, tick, tenant, cell, other, epoch, since, till, n⟩ yy.world HV.out HI.out (HWs.out.laterW yy) ht.1 ht.2)
          go_wp2_with (go_at_call 73; (with_reducible refine (HKD.out _).mono ?_); rintro r wq ⟨rfl, hbq⟩; obtain ⟨yq, rfl⟩ := later_next _ (Nat.le_refl _) hbq; clear hbq)
          go_ret
          exact ⟨ret_i64 (by rw [HRF.out]; rfl), HL.out.trans ((Later.below _).mono HL.out.size)⟩
        · simp [inS, inR, fT, fC, fO, fE, fW, fN] at hT hC hO hE hS hU hN
          have ht : 0 ≤ tenant ∧ tenant < s.tenants.length := by have := HI.out.lt; omega
          have HKD : Hid (∀ yy : Later W.heap.size W, Calls Tryz.prog 74 #[.agg #[.int .i64 s.tick, .int .i64 s.count, .slice sat s.tenants.length sct, .slice sac s.cells.length scc, .int .i64 s.proven, .int .i64 s.evac, .int .i64 s.low, .int .i64 s.high], .agg #[.int .i64 8, .int .i64 tick, .int .i64 tenant, .int .i64 cell, .int .i64 other, .int .i64 epoch, .int .i64 since, .int .i64 till, .int .i64 n]] yy.world fun r w' => r = .returned (.int .i64 (shedE s ⟨8, tick, tenant, cell, other, epoch, since, till, n⟩)) ∧ Below yy.world.heap.size yy.world w') := Lib.hid (fun yy => stShed_any c ⟨sat, sct, sac, scc⟩ s ⟨8, tick, tenant, cell, other, epoch, since, till, n⟩ yy.world HV.out HI.out (HWs.out.laterW yy) ht.1 ht.2)
          go_wp2_with (go_at_call 74; (with_reducible refine (HKD.out _).mono ?_); rintro r wq ⟨rfl, hbq⟩; obtain ⟨yq, rfl⟩ := later_next _ (Nat.le_refl _) hbq; clear hbq)
          go_ret
          exact ⟨ret_i64 (by rw [HRF.out]; rfl), HL.out.trans ((Later.below _).mono HL.out.size)⟩
        · simp [inS, inR, fT, fC, fO, fE, fW, fN] at hT hC hO hE hS hU hN
          have hcl : 0 ≤ cell ∧ cell < s.cells.length := by have := HI.out.lc; omega
          have HKD : Hid (∀ yy : Later W.heap.size W, Calls Tryz.prog 77 #[.agg #[.int .i64 s.tick, .int .i64 s.count, .slice sat s.tenants.length sct, .slice sac s.cells.length scc, .int .i64 s.proven, .int .i64 s.evac, .int .i64 s.low, .int .i64 s.high], .agg #[.int .i64 9, .int .i64 tick, .int .i64 tenant, .int .i64 cell, .int .i64 other, .int .i64 epoch, .int .i64 since, .int .i64 till, .int .i64 n]] yy.world fun r w' => r = .returned (.int .i64 (modeE s ⟨9, tick, tenant, cell, other, epoch, since, till, n⟩)) ∧ Below yy.world.heap.size yy.world w') := Lib.hid (fun yy => stMode_any c ⟨sat, sct, sac, scc⟩ s ⟨9, tick, tenant, cell, other, epoch, since, till, n⟩ yy.world HV.out HI.out (HWs.out.laterW yy) hcl.1 hcl.2)
          go_wp2_with (go_at_call 77; (with_reducible refine (HKD.out _).mono ?_); rintro r wq ⟨rfl, hbq⟩; obtain ⟨yq, rfl⟩ := later_next _ (Nat.le_refl _) hbq; clear hbq)
          go_ret
          exact ⟨ret_i64 (by rw [HRF.out]; rfl), HL.out.trans ((Later.below _).mono HL.out.size)⟩
        · simp [inS, inR, fT, fC, fO, fE, fW, fN] at hT hC hO hE hS hU hN
          have hcl : 0 ≤ cell ∧ cell < s.cells.length := by have := HI.out.lc; omega
          have hn : 0 ≤ n ∧ n < c.versions.length := by omega
          have HKD : Hid (∀ yy : Later W.heap.size W, Calls Tryz.prog 78 #[.agg #[.int .i64 c.regions, .slice az c.zones.length cz, .slice ac c.cells.length cc, .slice at_ c.tenants.length ct, .slice av c.versions.length cv, .slice ar c.replicas.length cr, .slice ao c.observers.length co, .int .i64 c.blast, .int .i64 c.lease, .int .i64 c.bake], .agg #[.int .i64 s.tick, .int .i64 s.count, .slice sat s.tenants.length sct, .slice sac s.cells.length scc, .int .i64 s.proven, .int .i64 s.evac, .int .i64 s.low, .int .i64 s.high], .agg #[.int .i64 10, .int .i64 tick, .int .i64 tenant, .int .i64 cell, .int .i64 other, .int .i64 epoch, .int .i64 since, .int .i64 till, .int .i64 n]] yy.world fun r w' => r = .returned (.int .i64 (wantE c s ⟨10, tick, tenant, cell, other, epoch, since, till, n⟩)) ∧ Below yy.world.heap.size yy.world w') := Lib.hid (fun yy => stWant_any ⟨az, cz, ac, cc, at_, ct, av, cv, ar, cr, ao, co⟩ c ⟨sat, sct, sac, scc⟩ s ⟨10, tick, tenant, cell, other, epoch, since, till, n⟩ yy.world HV.out (HWc.out.laterW yy) HI.out (HWs.out.laterW yy) hcl.1 hcl.2 hn)
          go_wp2_with (go_at_call 78; (with_reducible refine (HKD.out _).mono ?_); rintro r wq ⟨rfl, hbq⟩; obtain ⟨yq, rfl⟩ := later_next _ (Nat.le_refl _) hbq; clear hbq)
          go_ret
          exact ⟨ret_i64 (by rw [HRF.out]; rfl), HL.out.trans ((Later.below _).mono HL.out.size)⟩
        · simp [inS, inR, fT, fC, fO, fE, fW, fN] at hT hC hO hE hS hU hN
          have hcl : 0 ≤ cell ∧ cell < s.cells.length := by have := HI.out.lc; omega
          have HKD : Hid (∀ yy : Later W.heap.size W, Calls Tryz.prog 79 #[.agg #[.int .i64 s.tick, .int .i64 s.count, .slice sat s.tenants.length sct, .slice sac s.cells.length scc, .int .i64 s.proven, .int .i64 s.evac, .int .i64 s.low, .int .i64 s.high], .agg #[.int .i64 11, .int .i64 tick, .int .i64 tenant, .int .i64 cell, .int .i64 other, .int .i64 epoch, .int .i64 since, .int .i64 till, .int .i64 n]] yy.world fun r w' => r = .returned (.int .i64 (runsE s ⟨11, tick, tenant, cell, other, epoch, since, till, n⟩)) ∧ Below yy.world.heap.size yy.world w') := Lib.hid (fun yy => stRuns_any c ⟨sat, sct, sac, scc⟩ s ⟨11, tick, tenant, cell, other, epoch, since, till, n⟩ yy.world HV.out HI.out (HWs.out.laterW yy) hcl.1 hcl.2)
          go_wp2_with (go_at_call 79; (with_reducible refine (HKD.out _).mono ?_); rintro r wq ⟨rfl, hbq⟩; obtain ⟨yq, rfl⟩ := later_next _ (Nat.le_refl _) hbq; clear hbq)
          go_ret
          exact ⟨ret_i64 (by rw [HRF.out]; rfl), HL.out.trans ((Later.below _).mono HL.out.size)⟩
        · simp [inS, inR, fT, fC, fO, fE, fW, fN] at hT hC hO hE hS hU hN
          have HKD : Hid (∀ yy : Later W.heap.size W, Calls Tryz.prog 80 #[.agg #[.int .i64 c.regions, .slice az c.zones.length cz, .slice ac c.cells.length cc, .slice at_ c.tenants.length ct, .slice av c.versions.length cv, .slice ar c.replicas.length cr, .slice ao c.observers.length co, .int .i64 c.blast, .int .i64 c.lease, .int .i64 c.bake], .agg #[.int .i64 s.tick, .int .i64 s.count, .slice sat s.tenants.length sct, .slice sac s.cells.length scc, .int .i64 s.proven, .int .i64 s.evac, .int .i64 s.low, .int .i64 s.high], .agg #[.int .i64 12, .int .i64 tick, .int .i64 tenant, .int .i64 cell, .int .i64 other, .int .i64 epoch, .int .i64 since, .int .i64 till, .int .i64 n]] yy.world fun r w' => r = .returned (.int .i64 (proveE c s ⟨12, tick, tenant, cell, other, epoch, since, till, n⟩)) ∧ Below yy.world.heap.size yy.world w') := Lib.hid (fun yy => stProve_any ⟨az, cz, ac, cc, at_, ct, av, cv, ar, cr, ao, co⟩ c ⟨sat, sct, sac, scc⟩ s ⟨12, tick, tenant, cell, other, epoch, since, till, n⟩ yy.world HV.out (HWc.out.laterW yy) HI.out (HWs.out.laterW yy) htk)
          go_wp2_with (go_at_call 80; (with_reducible refine (HKD.out _).mono ?_); rintro r wq ⟨rfl, hbq⟩; obtain ⟨yq, rfl⟩ := later_next _ (Nat.le_refl _) hbq; clear hbq)
          go_ret
          exact ⟨ret_i64 (by rw [HRF.out]; rfl), HL.out.trans ((Later.below _).mono HL.out.size)⟩
        · simp [inS, inR, fT, fC, fO, fE, fW, fN] at hT hC hO hE hS hU hN
          have HKD : Hid (∀ yy : Later W.heap.size W, Calls Tryz.prog 81 #[.agg #[.int .i64 s.tick, .int .i64 s.count, .slice sat s.tenants.length sct, .slice sac s.cells.length scc, .int .i64 s.proven, .int .i64 s.evac, .int .i64 s.low, .int .i64 s.high], .agg #[.int .i64 13, .int .i64 tick, .int .i64 tenant, .int .i64 cell, .int .i64 other, .int .i64 epoch, .int .i64 since, .int .i64 till, .int .i64 n]] yy.world fun r w' => r = .returned (.int .i64 (evacE s ⟨13, tick, tenant, cell, other, epoch, since, till, n⟩)) ∧ Below yy.world.heap.size yy.world w') := Lib.hid (fun yy => stEvac_any c ⟨sat, sct, sac, scc⟩ s ⟨13, tick, tenant, cell, other, epoch, since, till, n⟩ yy.world HV.out HI.out (HWs.out.laterW yy) )
          go_wp2_with (go_at_call 81; (with_reducible refine (HKD.out _).mono ?_); rintro r wq ⟨rfl, hbq⟩; obtain ⟨yq, rfl⟩ := later_next _ (Nat.le_refl _) hbq; clear hbq)
          go_ret
          exact ⟨ret_i64 (by rw [HRF.out]; rfl), HL.out.trans ((Later.below _).mono HL.out.size)⟩
        · simp [inS, inR, fT, fC, fO, fE, fW, fN] at hT hC hO hE hS hU hN
          have HKD : Hid (∀ yy : Later W.heap.size W, Calls Tryz.prog 82 #[.agg #[.int .i64 c.regions, .slice az c.zones.length cz, .slice ac c.cells.length cc, .slice at_ c.tenants.length ct, .slice av c.versions.length cv, .slice ar c.replicas.length cr, .slice ao c.observers.length co, .int .i64 c.blast, .int .i64 c.lease, .int .i64 c.bake], .agg #[.int .i64 s.tick, .int .i64 s.count, .slice sat s.tenants.length sct, .slice sac s.cells.length scc, .int .i64 s.proven, .int .i64 s.evac, .int .i64 s.low, .int .i64 s.high]] yy.world fun r w' => r = .returned (.int .i64 (expandE c s)) ∧ Below yy.world.heap.size yy.world w') := Lib.hid (fun yy => stExpand_any ⟨az, cz, ac, cc, at_, ct, av, cv, ar, cr, ao, co⟩ c ⟨sat, sct, sac, scc⟩ s yy.world HV.out (HWc.out.laterW yy) HI.out (HWs.out.laterW yy) )
          go_wp2_with (go_at_call 82; (with_reducible refine (HKD.out _).mono ?_); rintro r wq ⟨rfl, hbq⟩; obtain ⟨yq, rfl⟩ := later_next _ (Nat.le_refl _) hbq; clear hbq)
          go_ret
          exact ⟨ret_i64 (by rw [HRF.out]; rfl), HL.out.trans ((Later.below _).mono HL.out.size)⟩
        · simp [inS, inR, fT, fC, fO, fE, fW, fN] at hT hC hO hE hS hU hN
          have HKD : Hid (∀ yy : Later W.heap.size W, Calls Tryz.prog 83 #[.agg #[.int .i64 s.tick, .int .i64 s.count, .slice sat s.tenants.length sct, .slice sac s.cells.length scc, .int .i64 s.proven, .int .i64 s.evac, .int .i64 s.low, .int .i64 s.high]] yy.world fun r w' => r = .returned (.int .i64 (contractE s)) ∧ Below yy.world.heap.size yy.world w') := Lib.hid (fun yy => stContract_any c ⟨sat, sct, sac, scc⟩ s yy.world HV.out HI.out (HWs.out.laterW yy) )
          go_wp2_with (go_at_call 83; (with_reducible refine (HKD.out _).mono ?_); rintro r wq ⟨rfl, hbq⟩; obtain ⟨yq, rfl⟩ := later_next _ (Nat.le_refl _) hbq; clear hbq)
          go_ret
          exact ⟨ret_i64 (by rw [HRF.out]; rfl), HL.out.trans ((Later.below _).mono HL.out.size)⟩
        · simp [inS, inR, fT, fC, fO, fE, fW, fN] at hT hC hO hE hS hU hN
          go_wp2
          go_ret
          exact ⟨ret_i64 (by rw [HRF.out]; rfl), HL.out.trans ((Later.below _).mono HL.out.size)⟩
  · have hv2 : entV c ⟨kind, tick, tenant, cell, other, epoch, since, till, n⟩ = false := by simpa using hv
    have HRF : Hid (refusedE c s ⟨kind, tick, tenant, cell, other, epoch, since, till, n⟩ = 1) := Lib.hid (by unfold refusedE; rw [if_pos hv2])
    rw [hv2]
    clear hv hv2
    go_wp2
    go_ret
    exact ⟨ret_i64 HRF.out.symm, HL.out.trans (yq.below.mono HL.out.size)⟩
end Go.Proofs.YtjobcfpnmfjlfaaGreat

namespace Go.Proofs.YtjobcfpnmfjlfaaGreat
open Go.RowKit
set_option linter.unusedSimpArgs false
set_option linter.unusedVariables false

theorem flat_int (l : List Int) : flat intC l = l.map (Value.int .i64) := by
  induction l with
  | nil => rfl
  | cons a l ih => simp only [flat, List.flatMap_cons, intC] at ih ⊢; simp [ih]
theorem flat_int_set (l : List Int) (k : Nat) (z : Int) : (flat intC l).set k (.int .i64 z) = flat intC (l.set k z) := by
  rw [flat_int, flat_int, List.map_set]
theorem addAt_len (l : List Int) (i n : Int) : (addAt l i n).length = l.length := by unfold addAt; split <;> simp

/-- A row of numbers of the call's own, as add leaves it. -/
def AddPost (base : Nat) (A : Option Addr) (cp : Nat) (l : List Int) (w : World) (e : Ending) (w' : World) : Prop :=
  e = .returned (.tuple #[]) ∧ w'.ownsRow base 3 1 (.slice A l.length cp) l.length (flat intC l) ∧ w.grownBy w' (Value.slice A l.length cp).ownBlock

/-- The load booked by the first k tenants. -/
def bookK (c : Cfg) (s : St) (k : Nat) : List Int := ((s.tenants.zip c.tenants).take k).foldl (fun l p => bookT l p.1 p.2) (List.replicate c.cells.length 0)
theorem bookK_succ {c : Cfg} {s : St} {k : Nat} {t : TS} {d : Ten} (h1 : s.tenants[k]? = some t) (h2 : c.tenants[k]? = some d) : bookK c s (k + 1) = bookT (bookK c s k) t d := by
  have hz : (s.tenants.zip c.tenants)[k]? = some (t, d) := by
    rw [List.getElem?_zip_eq_some]
    exact ⟨h1, h2⟩
  obtain ⟨hk, he⟩ := List.getElem?_eq_some_iff.1 hz
  unfold bookK
  rw [List.take_succ_eq_append_getElem hk, List.foldl_append, he]
  rfl
theorem bookK_all (c : Cfg) (s : St) {k : Nat} (hk : s.tenants.length ≤ k) : bookK c s k = booked c s := by
  unfold bookK booked
  rw [List.take_of_length_le]
  rw [List.length_zip]
  omega
def Within (l : List Int) (m : Int) : Prop := ∀ z ∈ l, 0 ≤ z ∧ z ≤ m
theorem Within.add {l : List Int} {m n : Int} (h : Within l m) (hn : 0 ≤ n) (i : Int) : Within (addAt l i n) (m + n) := by
  unfold addAt
  split
  · rename_i hi
    intro z hz
    obtain ⟨k, rfl⟩ := Int.eq_ofNat_of_zero_le hi.1
    have hk : k < l.length := by omega
    rcases List.mem_or_eq_of_mem_set hz with hz | rfl
    · have := h z hz; omega
    · rw [Int.toNat_natCast, getD_some (List.getElem?_eq_getElem hk)]
      have := h _ (List.getElem_mem hk)
      omega
  · intro z hz
    have := h z hz
    omega
theorem bookT_len (l : List Int) (t : TS) (d : Ten) : (bookT l t d).length = l.length := by
  unfold bookT
  split
  · rfl
  · rw [addAt_len, addAt_len]
    split
    · rfl
    · rw [addAt_len, addAt_len]
theorem Within.mono {l : List Int} {m m' : Int} (h : Within l m) (hm : m ≤ m') : Within l m' := fun z hz => by have := h z hz; omega
theorem Within.book {l : List Int} {m : Int} (h : Within l m) (t : TS) {d : Ten} (h1 : 0 ≤ d.load) (h2 : 0 ≤ d.shadow) : Within (bookT l t d) (m + 2 * d.load + 2 * d.shadow) := by
  unfold bookT
  split
  · exact h.mono (by omega)
  · split
    · exact ((h.add h2 _).add h2 _).mono (by omega)
    · exact ((((h.add h1 _).add h1 _).add h2 _).add h2 _).mono (by omega)
theorem bookK_len (c : Cfg) (s : St) (k : Nat) : (bookK c s k).length = c.cells.length := by
  unfold bookK
  generalize (s.tenants.zip c.tenants).take k = q
  have : ∀ (q : List (TS × Ten)) (l : List Int), (q.foldl (fun l p => bookT l p.1 p.2) l).length = l.length := by
    intro q
    induction q with
    | nil => intro l; rfl
    | cons a q ih => intro l; rw [List.foldl_cons, ih, bookT_len]
  rw [this]
  simp
theorem bookK_within {c : Cfg} (hV : CfgV c) (s : St) : ∀ k, Within (bookK c s k) (k * 262144) := by
  intro k
  induction k with
  | zero =>
    intro z hz
    have : z = 0 := by
      have hz' : z ∈ List.replicate c.cells.length (0 : Int) := hz
      exact List.eq_of_mem_replicate hz'
    subst this
    simp
  | succ k ih =>
    cases h1 : s.tenants[k]? with
    | none =>
      have hk : s.tenants.length ≤ k := by simpa using h1
      rw [bookK_all c s (by omega), ← bookK_all c s hk]
      exact ih.mono (by omega)
    | some t =>
      cases h2 : c.tenants[k]? with
      | none =>
        have hk : c.tenants.length ≤ k := by simpa using h2
        have e : bookK c s (k + 1) = bookK c s k := by
          unfold bookK
          rw [List.take_of_length_le (by rw [List.length_zip]; omega), List.take_of_length_le (by rw [List.length_zip]; omega)]
        rw [e]
        exact ih.mono (by omega)
      | some d =>
        rw [bookK_succ h1 h2]
        have hd := tenAt_bd hV h2
        exact (ih.book t (by omega) (by omega)).mono (by omega)
end Go.Proofs.YtjobcfpnmfjlfaaGreat

namespace Go.Proofs.YtjobcfpnmfjlfaaGreat
open Go.RowKit
set_option linter.unusedSimpArgs false
set_option linter.unusedVariables false

set_option maxHeartbeats 1000000 in
theorem ldAdd_any (base : Nat) (A : Option Addr) (cp : Nat) (l : List Int) (i n : Int) (w : World) (hm : l.length ≤ 1000) (hown : w.ownsRow base 3 1 (.slice A l.length cp) l.length (flat intC l))
    (hl : ∀ z ∈ l, 0 ≤ z ∧ z ≤ 1000000000) (hn : 0 ≤ n) (hn2 : n ≤ 1000000) :
    Calls Tryz.prog 111 #[.slice A l.length cp, .int .i64 i, .int .i64 n] w (fun e w' => AddPost base A cp (addAt l i n) w e w') := by
  have hlen := addAt_len l i n
  by_cases hi : 0 ≤ i ∧ i < l.length
  · obtain ⟨h0, h1⟩ := hi
    obtain ⟨k, rfl⟩ := Int.eq_ofNat_of_zero_le h0
    have hk : k < l.length := by omega
    obtain ⟨g, cap', hv, _, hlt⟩ := hown.form (by omega)
    simp only [Value.slice.injEq, true_and] at hv
    obtain ⟨rfl, rfl⟩ := hv
    have c0 := hown.cellAt k (by omega)
    rw [flat_int, List.getElem?_map, List.getElem?_eq_getElem hk] at c0
    simp only [Option.map_some] at c0
    have f0 := hown.frozenAt k
    have hz := hl l[k] (List.getElem_mem hk)
    have ha : addAt l k n = l.set k (l[k] + n) := by
      unfold addAt
      rw [if_pos ⟨h0, h1⟩, Int.toNat_natCast, getD_some (List.getElem?_eq_getElem hk)]
    have hst := hown.stored k (.int .i64 (l[k] + n))
    rw [flat_int_set] at hst
    have hp : AddPost base (some ⟨g, 0, none⟩) cp (addAt l k n) w (.returned (.tuple #[])) (w.setCell ⟨g, k, none⟩ (.int .i64 (l[k] + n))) := by
      refine ⟨rfl, ?_, ?_⟩
      · rw [hlen, ha]; exact hst.1
      · exact hst.2
    have HP := Lib.hid hp
    clear hp hst ha hown hl hlen
    generalize l[k] = z at *
    go_enter Tryz.func111, Tryz.ntmps111
    go_wp2
    go_end0
    exact HP.out
  · have ha : addAt l i n = l := by unfold addAt; rw [if_neg hi]
    have hp : AddPost base A cp (addAt l i n) w (.returned (.tuple #[])) w := by rw [ha]; exact ⟨rfl, hown, grown_refl _ _⟩
    have HP := Lib.hid hp
    have hd : i < 0 ∨ (0 ≤ i ∧ (l.length : Int) ≤ i) := by omega
    clear hp ha hown hl hlen hi
    rcases hd with hd | ⟨hd1, hd⟩
    all_goals
      go_enter Tryz.func111, Tryz.ntmps111
      go_wp2
      go_end0
      exact HP.out


set_option maxHeartbeats 1000000 in
theorem ldActive_any (t : TS) (w : World) : Calls Tryz.prog 110 #[.agg (tsC t).toArray] w fun r w' => r = .returned (.bool (t.placed && !t.shed)) ∧ Below w.heap.size w w' := by
  unfold tsC
  go_enter Tryz.func110, Tryz.ntmps110
  go_wp2
  all_goals
    go_ret
    refine ⟨ret_bool ?_, (Below.refl _ _).alloc (Nat.le_refl _) _⟩
    go_light
    simp_all

set_option maxHeartbeats 1000000 in
theorem ldCount_any (x : CfgA) (c : Cfg) (y : StA) (s : St) (w : World) (hV : CfgV c) (hI : s.tenants.length = c.tenants.length) :
    Calls Tryz.prog 109 #[.agg (cfgC x c), .agg (stC y s)] w fun r w' => r = .returned (.int .i64 s.tenants.length) ∧ Below w.heap.size w w' := by
  have hnt := hV.nt
  obtain ⟨az, cz, ac, cc, at_, ct, av, cv, ar, cr, ao, co⟩ := x
  obtain ⟨sat, sct, sac, scc⟩ := y
  have HI := Lib.hid hI
  unfold cfgC stC
  simp only
  rw [hI]
  clear hI hV
  generalize c.tenants.length = m at *
  go_enter Tryz.func109, Tryz.ntmps109
  go_wp2
  all_goals
    go_ret
    exact ⟨rfl, ((Below.refl _ _).alloc (Nat.le_refl _) _).alloc (by simp) _⟩
end Go.Proofs.YtjobcfpnmfjlfaaGreat

namespace Go.Proofs.YtjobcfpnmfjlfaaGreat
open Go.RowKit
set_option linter.unusedSimpArgs false
set_option linter.unusedVariables false
theorem tenSize7 : (Tryz.prog.info? 77).map (·.size) = some 7 := by kernel_rfl
theorem tsSize12 : (Tryz.prog.info? 58).map (·.size) = some 12 := by kernel_rfl

/-- The loop of Booked. -/
def BookRel (W : World) (c : Cfg) (s : St) (A : Option Addr) (cp : Nat) (gk : Nat) (si : Value) (wr : World) : Prop :=
  ∃ k : Nat, gk + k = s.tenants.length ∧ si = .int .i64 k ∧ wr.ownsRow W.heap.size 3 1 (.slice A c.cells.length cp) c.cells.length (flat intC (bookK c s k)) ∧ Below W.heap.size W wr

theorem ldAdd2 (m base : Nat) (A : Option Addr) (cp : Nat) (l : List Int) (i n : Int) (w : World) (hlm : l.length = m) (hm : m ≤ 1000) (hown : w.ownsRow base 3 1 (.slice A m cp) m (flat intC l))
    (hl : ∀ z ∈ l, 0 ≤ z ∧ z ≤ 1000000000) (hn : 0 ≤ n) (hn2 : n ≤ 1000000) :
    Calls Tryz.prog 111 #[.slice A m cp, .int .i64 i, .int .i64 n] w (fun e w' => e = .returned (.tuple #[]) ∧ w'.ownsRow base 3 1 (.slice A m cp) m (flat intC (addAt l i n)) ∧ w.grownBy w' (Value.slice A m cp).ownBlock) := by
  subst hlm
  refine (ldAdd_any base A cp l i n w hm hown hl hn hn2).mono ?_
  rintro e w' ⟨h1, h2, h3⟩
  rw [addAt_len] at h2 h3
  exact ⟨h1, h2, h3⟩
theorem made_zeros (n : Nat) : (madeCells #[Value.int IntKind.i64 0] n).toList = flat intC (List.replicate n 0) := by
  rw [flat_int, toList_madeCells_one]
  simp
set_option maxHeartbeats 8000000 in
set_option maxRecDepth 100000 in
theorem ldBooked_any (x : CfgA) (c : Cfg) (y : StA) (s : St) (w : World) (hV : CfgV c) (hc : CfgOk w (· < w.heap.size) x c) (hI : StInv c s) (hs : StOk w (· < w.heap.size) y s) :
    Calls Tryz.prog 88 #[.agg (cfgC x c), .agg (stC y s)] w (IntsPost w (booked c s)) := by
  obtain ⟨ii, hii, hi0, hi1, hi2⟩ := info_parts r5intInfo
  have hnc := hV.nc
  have hntt := hV.nt
  have hlt0 := hI.lt
  have HLT := Lib.hid hlt0
  clear hlt0
  obtain ⟨az, cz, ac, cc, at_, ct, av, cv, ar, cr, ao, co⟩ := x
  have HV := Lib.hid hV
  have HKc := Lib.hid hc
  clear hV hc
  obtain ⟨sat, sct, sac, scc⟩ := y
  have HKs := Lib.hid hs
  have hsl : 1 ≤ s.cells.length ∧ s.cells.length ≤ 16 := by have := hI.lc; omega
  have hst : s.tenants.length ≤ 32 := by have := hI.lt; omega
  have HI := Lib.hid hI
  clear hs hI
  have HC := Lib.hid (fun W => ldCount_any ⟨az, cz, ac, cc, at_, ct, av, cv, ar, cr, ao, co⟩ c ⟨sat, sct, sac, scc⟩ s W HV.out HLT.out)
  unfold cfgC stC at HC
  simp only at HC
  have hL : Below w.heap.size w ((w.alloc (.cells #[.int .i64 c.regions, .slice az c.zones.length cz, .slice ac c.cells.length cc, .slice at_ c.tenants.length ct, .slice av c.versions.length cv, .slice ar c.replicas.length cr, .slice ao c.observers.length co, .int .i64 c.blast, .int .i64 c.lease, .int .i64 c.bake] 30)).alloc (.cells #[.int .i64 s.tick, .int .i64 s.count, .slice sat s.tenants.length sct, .slice sac s.cells.length scc, .int .i64 s.proven, .int .i64 s.evac, .int .i64 s.low, .int .i64 s.high] 38)) := (((Below.refl w.heap.size w).alloc (by simp <;> omega) (.cells #[.int .i64 c.regions, .slice az c.zones.length cz, .slice ac c.cells.length cc, .slice at_ c.tenants.length ct, .slice av c.versions.length cv, .slice ar c.replicas.length cr, .slice ao c.observers.length co, .int .i64 c.blast, .int .i64 c.lease, .int .i64 c.bake] 30)).alloc (by simp <;> omega) (.cells #[.int .i64 s.tick, .int .i64 s.count, .slice sat s.tenants.length sct, .slice sac s.cells.length scc, .int .i64 s.proven, .int .i64 s.evac, .int .i64 s.low, .int .i64 s.high] 38))
  have hBc : Blk ((w.alloc (.cells #[.int .i64 c.regions, .slice az c.zones.length cz, .slice ac c.cells.length cc, .slice at_ c.tenants.length ct, .slice av c.versions.length cv, .slice ar c.replicas.length cr, .slice ao c.observers.length co, .int .i64 c.blast, .int .i64 c.lease, .int .i64 c.bake] 30)).alloc (.cells #[.int .i64 s.tick, .int .i64 s.count, .slice sat s.tenants.length sct, .slice sac s.cells.length scc, .int .i64 s.proven, .int .i64 s.evac, .int .i64 s.low, .int .i64 s.high] 38)) (w.heap.size) 30 #[.int .i64 c.regions, .slice az c.zones.length cz, .slice ac c.cells.length cc, .slice at_ c.tenants.length ct, .slice av c.versions.length cv, .slice ar c.replicas.length cr, .slice ao c.observers.length co, .int .i64 c.blast, .int .i64 c.lease, .int .i64 c.bake] := by
    have := ((Blk.new w 30 #[.int .i64 c.regions, .slice az c.zones.length cz, .slice ac c.cells.length cc, .slice at_ c.tenants.length ct, .slice av c.versions.length cv, .slice ar c.replicas.length cr, .slice ao c.observers.length co, .int .i64 c.blast, .int .i64 c.lease, .int .i64 c.bake]).alloc (.cells #[.int .i64 s.tick, .int .i64 s.count, .slice sat s.tenants.length sct, .slice sac s.cells.length scc, .int .i64 s.proven, .int .i64 s.evac, .int .i64 s.low, .int .i64 s.high] 38))
    simpa using this
  have hBs : Blk ((w.alloc (.cells #[.int .i64 c.regions, .slice az c.zones.length cz, .slice ac c.cells.length cc, .slice at_ c.tenants.length ct, .slice av c.versions.length cv, .slice ar c.replicas.length cr, .slice ao c.observers.length co, .int .i64 c.blast, .int .i64 c.lease, .int .i64 c.bake] 30)).alloc (.cells #[.int .i64 s.tick, .int .i64 s.count, .slice sat s.tenants.length sct, .slice sac s.cells.length scc, .int .i64 s.proven, .int .i64 s.evac, .int .i64 s.low, .int .i64 s.high] 38)) (w.heap.size + 1) 38 #[.int .i64 s.tick, .int .i64 s.count, .slice sat s.tenants.length sct, .slice sac s.cells.length scc, .int .i64 s.proven, .int .i64 s.evac, .int .i64 s.low, .int .i64 s.high] := by
    have := (Blk.new (w.alloc (.cells #[.int .i64 c.regions, .slice az c.zones.length cz, .slice ac c.cells.length cc, .slice at_ c.tenants.length ct, .slice av c.versions.length cv, .slice ar c.replicas.length cr, .slice ao c.observers.length co, .int .i64 c.blast, .int .i64 c.lease, .int .i64 c.bake] 30)) 38 #[.int .i64 s.tick, .int .i64 s.count, .slice sat s.tenants.length sct, .slice sac s.cells.length scc, .int .i64 s.proven, .int .i64 s.evac, .int .i64 s.low, .int .i64 s.high])
    simpa using this
  unfold cfgC stC
  simp only
  go_enter Tryz.func88, Tryz.ntmps88
  go_upto_region 1 with fail
  generalize (w.alloc _).alloc _ = W at *
  have hgc := hBc.lt
  have d0 := hBc.cell' (i := 0) (v := .int .i64 c.regions) rfl
  have d1 := hBc.cell' (i := 1) (v := .slice az c.zones.length cz) rfl
  have d2 := hBc.cell' (i := 2) (v := .slice ac c.cells.length cc) rfl
  have d3 := hBc.cell' (i := 3) (v := .slice at_ c.tenants.length ct) rfl
  have d4 := hBc.cell' (i := 4) (v := .slice av c.versions.length cv) rfl
  have d5 := hBc.cell' (i := 5) (v := .slice ar c.replicas.length cr) rfl
  have d6 := hBc.cell' (i := 6) (v := .slice ao c.observers.length co) rfl
  have d7 := hBc.cell' (i := 7) (v := .int .i64 c.blast) rfl
  have d8 := hBc.cell' (i := 8) (v := .int .i64 c.lease) rfl
  have d9 := hBc.cell' (i := 9) (v := .int .i64 c.bake) rfl
  clear hBc
  have hgs := hBs.lt
  have su0 := hBs.cell' (i := 0) (v := .int .i64 s.tick) rfl
  have su1 := hBs.cell' (i := 1) (v := .int .i64 s.count) rfl
  have su2 := hBs.cell' (i := 2) (v := .slice sat s.tenants.length sct) rfl
  have su3 := hBs.cell' (i := 3) (v := .slice sac s.cells.length scc) rfl
  have su4 := hBs.cell' (i := 4) (v := .int .i64 s.proven) rfl
  have su5 := hBs.cell' (i := 5) (v := .int .i64 s.evac) rfl
  have su6 := hBs.cell' (i := 6) (v := .int .i64 s.low) rfl
  have su7 := hBs.cell' (i := 7) (v := .int .i64 s.high) rfl
  clear hBs
  have HL := Lib.hid hL
  have HWc := Lib.hid (HKc.out.belowW hL)
  have HWs := Lib.hid (HKs.out.belowW hL)
  clear hL
  go_wp2_with (at_make; refine wpList_make_full W rfl _ _ _ rfl W.heap.size 3 ii _ 1 Tryz.underlying22 hii hi0 hi1 .i64 .i64 _ _ c.cells.length rfl rfl rfl rfl ?b1 ?b2 ?b3 ?_)
  case b1 => rw [hi2]; omega
  case b2 => unfold maxLen; omega
  case b3 => exact Nat.le_refl _
  intro w1 hO1 hg1
  rw [made_zeros] at hO1
  have hB1 : Below W.heap.size W w1 := (Below.refl _ _).grown hg1 (Nat.le_refl _) (by rintro _ ⟨⟩)
  have hlt1 := (hO1.lt W.heap.size rfl).2
  obtain ⟨hc1, hf1⟩ := bcell hB1
  have HO1 := Lib.hid hO1
  have HB1 := Lib.hid hB1
  clear hO1 hg1 hB1 hf1
  go_wp2_with fail
  refine (HC.out _).mono ?_
  rintro r w2 ⟨rfl, hb2⟩
  have HO2 := Lib.hid (own_below HO1.out hb2 fun j hj => (HO1.out.lt j hj).2)
  have HB2 := Lib.hid (HB1.out.trans (hb2.mono HB1.out.size))
  clear hb2 HO1 HB1 hc1 hlt1 HC
  go_wp2
  have hgr : ∃ gr, gr = W.heap.size := ⟨_, rfl⟩
  obtain ⟨gr, hgr⟩ := hgr
  go_loopg [16] s.tenants.length (fun gk si wr => BookRel W c s (some ⟨W.heap.size, 0, none⟩) c.cells.length gk si wr)
  case atStart => exact ⟨0, by omega, rfl, HO2.out, HB2.out⟩
  case round =>
    rename_i J K aJ aK
    obtain ⟨k, hgk, rfl, hown, hbel⟩ := hrel
    have HO := Lib.hid hown
    have HB := Lib.hid hbel
    have hsz := hbel.size
    have hszlt : W.heap.size < wr.heap.size := (hown.lt W.heap.size rfl).2
    obtain ⟨hcW, hfW⟩ := bcell hbel
    clear hown hbel hfW HO2 HB2
    by_cases hk : k < s.tenants.length
    · have hlt : (k : Int) < (s.tenants.length : Int) := by omega
      have hk2 : k < c.tenants.length := by have := HLT.out; omega
      have hlt2 : (k : Int) < (c.tenants.length : Int) := by omega
      obtain ⟨bt, oft, t, rfl, hbt, hzt, hct⟩ := HWs.out.tenants.row (enc := tsC) (sz := 12) (fun _ => rfl) (by omega) hk
      obtain ⟨bd, ofd, de, rfl, hbd, hzd, hcd⟩ := HWc.out.tenants.row (enc := tenC) (sz := 7) (fun _ => rfl) (by omega) hk2
      have hbtW : bt < W.heap.size := hbt
      have hbdW : bd < W.heap.size := hbd
      have hbt2 : bt < wr.heap.size := Nat.lt_of_lt_of_le hbt hsz
      have hbd2 : bd < wr.heap.size := Nat.lt_of_lt_of_le hbd hsz
      have hgc2 : w.heap.size < wr.heap.size := Nat.lt_of_lt_of_le hgc hsz
      have hgs2 : w.heap.size + 1 < wr.heap.size := Nat.lt_of_lt_of_le hgs hsz
      have t0 := hct 0 (.bool t.placed) rfl
      have t1 := hct 1 (.bool t.shed) rfl
      have t2 := hct 2 (.int .i64 t.home) rfl
      have t3 := hct 3 (.int .i64 t.standby) rfl
      have t4 := hct 4 (.int .i64 t.next) rfl
      have t5 := hct 5 (.int .i64 t.target) rfl
      have t6 := hct 6 (.int .i64 t.epoch) rfl
      have t7 := hct 7 (.int .i64 t.win.cell) rfl
      have t8 := hct 8 (.int .i64 t.win.epoch) rfl
      have t9 := hct 9 (.int .i64 t.win.version) rfl
      have t10 := hct 10 (.int .i64 t.win.since) rfl
      have t11 := hct 11 (.int .i64 t.win.till) rfl
      have y0 := hcd 0 (.int .i64 de.load) rfl
      have y1 := hcd 1 (.int .i64 de.shadow) rfl
      have y2 := hcd 2 (.int .i64 de.prio) rfl
      have y3 := hcd 3 (.int .i64 de.lag) rfl
      have y4 := hcd 4 (.int .i64 de.allowed) rfl
      have y5 := hcd 5 (.int .i64 de.group) rfl
      have y6 := hcd 6 (.bool de.noisy) rfl
      simp only [Nat.add_zero] at t0 y0
      have hdb := tenAt_bd HV.out hzd
      have HS := Lib.hid (bookK_succ hzt hzd)
      have HWI := Lib.hid (bookK_within HV.out s k)
      clear hct hcd hzt hzd hbt hbd
      go_upto_region 5 with fail
      go_cut [7, 8, 16] from 16 to 58 (fun v7 v8 v16 wx => v16 = .int .i64 k ∧ ∃ ga gb, v7 = .pointer (some ⟨ga, 0, none⟩) ∧ v8 = .pointer (some ⟨gb, 0, none⟩) ∧ TwoC wr 77 58 #[.int .i64 de.load, .int .i64 de.shadow, .int .i64 de.prio, .int .i64 de.lag, .int .i64 de.allowed, .int .i64 de.group, .bool de.noisy] #[.bool t.placed, .bool t.shed, .int .i64 t.home, .int .i64 t.standby, .int .i64 t.next, .int .i64 t.target, .int .i64 t.epoch, .int .i64 t.win.cell, .int .i64 t.win.epoch, .int .i64 t.win.version, .int .i64 t.win.since, .int .i64 t.win.till] ga gb wx ∧ wr.heap.size ≤ ga ∧ wr.heap.size ≤ gb)
      case first =>
        refine wp_region_seqI (fun w' : World => Below wr.heap.size wr w') 13 [0, 1, 2, 3, 4, 5, 6, 7, 8, 9] [10, 11, 12] (fun i => if i = 12 then [10, 11] else []) (by kernel_rfl) (by kernel_rfl) (Below.refl _ _).drew ?_
        simp only [List.take_succ_cons, List.take_zero, List.drop_succ_cons, List.drop_zero]
        repeat (refine wpSeqI_fix _ ?_ rfl (by first | exact fun _ _ _ h => h | exact fun _ _ _ h => hpan _ _ _ _ _ h) (Or.inl ⟨by rfl, ?_⟩) ?_; rotate_left; (intro w' hSw; (try dsimp only at hSw); obtain ⟨hc, hf⟩ := bcell hSw; clear hf hSw; go_simp; (try with_reducible rfl)); (simp only [List.getElem_toArray, List.getElem_cons_zero, List.getElem_cons_succ, Act.put, List.setIfInBounds_toArray, List.set_cons_zero, List.set_cons_succ]))
        refine wpSeqI_acts (fun a0 d a wx => ∃ va vb ga gb, a = ((a0.put (some 7) va).put (some 8) vb) ∧ TwoJ wr 77 58 #[.int .i64 0, .int .i64 0, .int .i64 0, .int .i64 0, .int .i64 0, .int .i64 0, .bool false] #[.int .i64 de.load, .int .i64 de.shadow, .int .i64 de.prio, .int .i64 de.lag, .int .i64 de.allowed, .int .i64 de.group, .bool de.noisy] #[.bool false, .bool false, .int .i64 0, .int .i64 0, .int .i64 0, .int .i64 0, .int .i64 0, .int .i64 0, .int .i64 0, .int .i64 0, .int .i64 0, .int .i64 0] 10 11 12 d va vb ga gb wx) ?j1 ?j2 ?j3
        case j1 =>
          intro d hd
          refine ⟨_, _, 0, 0, rfl, TwoJ.start (Below.refl _ _).drew (hd 10 (by simp)) (hd 11 (by simp)) (hd 12 (by simp))⟩
        case j2 =>
          refine acts_cons (actStep_op rfl rfl ?s10) (acts_cons (actStep_op rfl rfl ?s11) (acts_cons (actStep_op rfl rfl ?s12) acts_nil))
          case s10 =>
            rintro d a wx h0 hp hS ⟨va, vb, ga, gb, rfl, hJ⟩
            have HJ := Lib.hid (hJ.allocA h0 (by decide) (by decide))
            clear hJ hS hp h0
            simp only [List.getElem_toArray, List.getElem_cons_zero, List.getElem_cons_succ, Act.put, List.setIfInBounds_toArray, List.set_cons_zero, List.set_cons_succ]
            go_simp
            exact ⟨HJ.out.below, _, _, ⟨rfl, rfl⟩, _, gb, HJ.out⟩
          case s11 =>
            rintro d a wx h0 hp hS ⟨va, vb, ga, gb, rfl, hJ⟩
            have HJ := Lib.hid (hJ.allocB (by decide) (by decide))
            clear hJ hS hp h0
            simp only [List.getElem_toArray, List.getElem_cons_zero, List.getElem_cons_succ, Act.put, List.setIfInBounds_toArray, List.set_cons_zero, List.set_cons_succ]
            go_simp
            exact ⟨HJ.out.below, _, _, ⟨rfl, rfl⟩, ga, _, HJ.out⟩
          case s12 =>
            rintro d a wx h0 hp hS ⟨va, vb, ga, gb, rfl, hJ⟩
            have HJ := Lib.hid (hJ.storeA (hp 10 (by simp)) (hp 11 (by simp)) (by decide) (by decide) (putL_full rfl) (putL_full rfl))
            obtain ⟨rfl, hk, hle⟩ := hJ.a (hp 10 (by simp))
            clear hJ hS hp h0
            simp only [List.getElem_toArray, List.getElem_cons_zero, List.getElem_cons_succ, Act.put, List.setIfInBounds_toArray, List.set_cons_zero, List.set_cons_succ]
            refine wp_store_mid _ _ _ (by rfl) ga 0 #[.int .i64 de.load, .int .i64 de.shadow, .int .i64 de.prio, .int .i64 de.lag, .int .i64 de.allowed, .int .i64 de.group, .bool de.noisy] (by go_simp) (by go_simp) (hk.there 0 7 (by split <;> simp)) tenSize7 (by simp [Value.oneCell']) ?_
            refine ⟨HJ.out.below, ?_⟩
            go_simp
            exact ⟨_, _, ⟨rfl, rfl⟩, ga, gb, HJ.out⟩
        case j3 =>
          rintro d a wx hp hS ⟨va, vb, ga, gb, rfl, hJ⟩
          obtain ⟨rfl, hka, hla⟩ := hJ.a (hp 10 (by simp))
          obtain ⟨rfl, hkb, hlb⟩ := hJ.b (hp 11 (by simp))
          have HJ := Lib.hid (hJ.done1 (FB := #[.bool t.placed, .bool t.shed, .int .i64 t.home, .int .i64 t.standby, .int .i64 t.next, .int .i64 t.target, .int .i64 t.epoch, .int .i64 t.win.cell, .int .i64 t.win.epoch, .int .i64 t.win.version, .int .i64 t.win.since, .int .i64 t.win.till]) (hp 10 (by simp)) (hp 11 (by simp)) (hp 12 (by simp)) (putL_full rfl))
          clear hJ hS hp
          simp only [List.getElem_toArray, List.getElem_cons_zero, List.getElem_cons_succ, Act.put, List.setIfInBounds_toArray, List.set_cons_zero, List.set_cons_succ, thenK]
          refine wpList_store_mid (by rfl) _ _ _ (by rfl) gb 0 #[.bool t.placed, .bool t.shed, .int .i64 t.home, .int .i64 t.standby, .int .i64 t.next, .int .i64 t.target, .int .i64 t.epoch, .int .i64 t.win.cell, .int .i64 t.win.epoch, .int .i64 t.win.version, .int .i64 t.win.since, .int .i64 t.win.till] (by go_simp) (by go_simp) (hkb.there 0 12 (by simp)) tsSize12 (by simp [Value.oneCell']) ?_
          go_wp2
          go_meet
          exact ⟨rfl, ga, gb, rfl, rfl, HJ.out, hla, hlb⟩
      case rest =>
        obtain ⟨rfl, ga, gb, rfl, rfl, hC, hC2⟩ := hcut
        have hA := hC.a
        have hBk := hC.b
        replace HO := Lib.hid (own_below HO.out hC.below fun j hj => (HO.out.lt j hj).2)
        replace HB := Lib.hid (HB.out.trans (hC.below.mono hsz))
        have hga : W.heap.size < ga := Nat.lt_of_lt_of_le hszlt hC2.1
        have hgb : W.heap.size < gb := Nat.lt_of_lt_of_le hszlt hC2.2
        clear t0 t1 t2 t3 t4 t5 t6 t7 t8 t9 t10 t11 y0 y1 y2 y3 y4 y5 y6 hcW hC hbt2 hbd2 hgc2 hgs2 hbtW hbdW hsz
        have p0 := hA.cell' (i := 0) (v := .int .i64 de.load) rfl
        have p1 := hA.cell' (i := 1) (v := .int .i64 de.shadow) rfl
        have q0 := hBk.cell' (i := 0) (v := .bool t.placed) rfl
        have q1 := hBk.cell' (i := 1) (v := .bool t.shed) rfl
        have q2 := hBk.cell' (i := 2) (v := .int .i64 t.home) rfl
        have q3 := hBk.cell' (i := 3) (v := .int .i64 t.standby) rfl
        have q4 := hBk.cell' (i := 4) (v := .int .i64 t.next) rfl
        have q5 := hBk.cell' (i := 5) (v := .int .i64 t.target) rfl
        have q6 := hBk.cell' (i := 6) (v := .int .i64 t.epoch) rfl
        have q7 := hBk.cell' (i := 7) (v := .int .i64 t.win.cell) rfl
        have q8 := hBk.cell' (i := 8) (v := .int .i64 t.win.epoch) rfl
        have q9 := hBk.cell' (i := 9) (v := .int .i64 t.win.version) rfl
        have q10 := hBk.cell' (i := 10) (v := .int .i64 t.win.since) rfl
        have q11 := hBk.cell' (i := 11) (v := .int .i64 t.win.till) rfl
        have hw0 := HWI.out
        cases hpl : t.placed
        · have HE : Hid (bookK c s (k + 1) = bookK c s k) := Lib.hid (by rw [HS.out]; unfold bookT; rw [if_pos hpl])
          rw [hpl] at q0
          go_wp2
          go_roundg (gk - 1)
          case measure => omega
          case rel => exact ⟨k + 1, by omega, by go_num, by rw [HE.out]; exact HO.out, HB.out⟩
        · have HAC := Lib.hid (fun W => ldActive_any t W)
          unfold tsC at HAC
          rw [hpl] at HAC
          go_wp2_with fail
          refine (HAC.out _).mono ?_
          rintro r wn ⟨rfl, hbn⟩
          clear HAC
          replace HO := Lib.hid (own_below HO.out hbn fun j hj => (HO.out.lt j hj).2)
          replace HB := Lib.hid (HB.out.trans (hbn.mono HB.out.size))
          replace hA := hA.below hbn hA.lt
          replace hBk := hBk.below hbn hBk.lt
          clear hbn
          replace p0 := hA.cell' (i := 0) (v := .int .i64 de.load) rfl
          replace p1 := hA.cell' (i := 1) (v := .int .i64 de.shadow) rfl
          replace q0 := hBk.cell' (i := 0) (v := .bool t.placed) rfl
          replace q1 := hBk.cell' (i := 1) (v := .bool t.shed) rfl
          replace q2 := hBk.cell' (i := 2) (v := .int .i64 t.home) rfl
          replace q3 := hBk.cell' (i := 3) (v := .int .i64 t.standby) rfl
          replace q4 := hBk.cell' (i := 4) (v := .int .i64 t.next) rfl
          replace q5 := hBk.cell' (i := 5) (v := .int .i64 t.target) rfl
          replace q6 := hBk.cell' (i := 6) (v := .int .i64 t.epoch) rfl
          replace q7 := hBk.cell' (i := 7) (v := .int .i64 t.win.cell) rfl
          replace q8 := hBk.cell' (i := 8) (v := .int .i64 t.win.epoch) rfl
          replace q9 := hBk.cell' (i := 9) (v := .int .i64 t.win.version) rfl
          replace q10 := hBk.cell' (i := 10) (v := .int .i64 t.win.since) rfl
          replace q11 := hBk.cell' (i := 11) (v := .int .i64 t.win.till) rfl
          cases hsh : t.shed
          · have HE : Hid (bookK c s (k + 1) = addAt (addAt (addAt (addAt (bookK c s k) t.home de.load) t.target de.load) t.standby de.shadow) t.next de.shadow) := Lib.hid (by rw [HS.out]; unfold bookT; rw [if_neg (by simp [hpl]), if_neg (by simp [hsh])])
            have hw1 := hw0.add (n := de.load) (by omega) t.home
            have hw2 := hw1.add (n := de.load) (by omega) t.target
            have hw3 := hw2.add (n := de.shadow) (by omega) t.standby
            go_wp2_with fail
            refine (ldAdd2 c.cells.length W.heap.size (some ⟨W.heap.size, 0, none⟩) c.cells.length (bookK c s k) t.home de.load _ (by (try simp only [addAt_len]); exact bookK_len _ _ _) (by omega) HO.out (by intro z hz; have := hw0 z hz; omega) (by omega) (by omega)).mono ?_
            rintro r wn ⟨rfl, hOn, hgn⟩
            replace HB := Lib.hid (HB.out.grown hgn HB.out.size (by rintro _ ⟨⟩; exact Nat.le_refl _))
            replace HO := Lib.hid hOn
            replace hA := hA.grown hgn (by intro q; have q2 : ga = W.heap.size := Option.some.inj q; omega)
            replace hBk := hBk.grown hgn (by intro q; have q2 : gb = W.heap.size := Option.some.inj q; omega)
            clear hOn hgn
            replace p0 := hA.cell' (i := 0) (v := .int .i64 de.load) rfl
            replace p1 := hA.cell' (i := 1) (v := .int .i64 de.shadow) rfl
            replace q0 := hBk.cell' (i := 0) (v := .bool t.placed) rfl
            replace q1 := hBk.cell' (i := 1) (v := .bool t.shed) rfl
            replace q2 := hBk.cell' (i := 2) (v := .int .i64 t.home) rfl
            replace q3 := hBk.cell' (i := 3) (v := .int .i64 t.standby) rfl
            replace q4 := hBk.cell' (i := 4) (v := .int .i64 t.next) rfl
            replace q5 := hBk.cell' (i := 5) (v := .int .i64 t.target) rfl
            replace q6 := hBk.cell' (i := 6) (v := .int .i64 t.epoch) rfl
            replace q7 := hBk.cell' (i := 7) (v := .int .i64 t.win.cell) rfl
            replace q8 := hBk.cell' (i := 8) (v := .int .i64 t.win.epoch) rfl
            replace q9 := hBk.cell' (i := 9) (v := .int .i64 t.win.version) rfl
            replace q10 := hBk.cell' (i := 10) (v := .int .i64 t.win.since) rfl
            replace q11 := hBk.cell' (i := 11) (v := .int .i64 t.win.till) rfl
            go_wp2_with fail
            refine (ldAdd2 c.cells.length W.heap.size (some ⟨W.heap.size, 0, none⟩) c.cells.length (addAt (bookK c s k) t.home de.load) t.target de.load _ (by (try simp only [addAt_len]); exact bookK_len _ _ _) (by omega) HO.out (by intro z hz; have := hw1 z hz; omega) (by omega) (by omega)).mono ?_
            rintro r wn ⟨rfl, hOn, hgn⟩
            replace HB := Lib.hid (HB.out.grown hgn HB.out.size (by rintro _ ⟨⟩; exact Nat.le_refl _))
            replace HO := Lib.hid hOn
            replace hA := hA.grown hgn (by intro q; have q2 : ga = W.heap.size := Option.some.inj q; omega)
            replace hBk := hBk.grown hgn (by intro q; have q2 : gb = W.heap.size := Option.some.inj q; omega)
            clear hOn hgn
            replace p0 := hA.cell' (i := 0) (v := .int .i64 de.load) rfl
            replace p1 := hA.cell' (i := 1) (v := .int .i64 de.shadow) rfl
            replace q0 := hBk.cell' (i := 0) (v := .bool t.placed) rfl
            replace q1 := hBk.cell' (i := 1) (v := .bool t.shed) rfl
            replace q2 := hBk.cell' (i := 2) (v := .int .i64 t.home) rfl
            replace q3 := hBk.cell' (i := 3) (v := .int .i64 t.standby) rfl
            replace q4 := hBk.cell' (i := 4) (v := .int .i64 t.next) rfl
            replace q5 := hBk.cell' (i := 5) (v := .int .i64 t.target) rfl
            replace q6 := hBk.cell' (i := 6) (v := .int .i64 t.epoch) rfl
            replace q7 := hBk.cell' (i := 7) (v := .int .i64 t.win.cell) rfl
            replace q8 := hBk.cell' (i := 8) (v := .int .i64 t.win.epoch) rfl
            replace q9 := hBk.cell' (i := 9) (v := .int .i64 t.win.version) rfl
            replace q10 := hBk.cell' (i := 10) (v := .int .i64 t.win.since) rfl
            replace q11 := hBk.cell' (i := 11) (v := .int .i64 t.win.till) rfl
            go_wp2_with fail
            refine (ldAdd2 c.cells.length W.heap.size (some ⟨W.heap.size, 0, none⟩) c.cells.length (addAt (addAt (bookK c s k) t.home de.load) t.target de.load) t.standby de.shadow _ (by (try simp only [addAt_len]); exact bookK_len _ _ _) (by omega) HO.out (by intro z hz; have := hw2 z hz; omega) (by omega) (by omega)).mono ?_
            rintro r wn ⟨rfl, hOn, hgn⟩
            replace HB := Lib.hid (HB.out.grown hgn HB.out.size (by rintro _ ⟨⟩; exact Nat.le_refl _))
            replace HO := Lib.hid hOn
            replace hA := hA.grown hgn (by intro q; have q2 : ga = W.heap.size := Option.some.inj q; omega)
            replace hBk := hBk.grown hgn (by intro q; have q2 : gb = W.heap.size := Option.some.inj q; omega)
            clear hOn hgn
            replace p0 := hA.cell' (i := 0) (v := .int .i64 de.load) rfl
            replace p1 := hA.cell' (i := 1) (v := .int .i64 de.shadow) rfl
            replace q0 := hBk.cell' (i := 0) (v := .bool t.placed) rfl
            replace q1 := hBk.cell' (i := 1) (v := .bool t.shed) rfl
            replace q2 := hBk.cell' (i := 2) (v := .int .i64 t.home) rfl
            replace q3 := hBk.cell' (i := 3) (v := .int .i64 t.standby) rfl
            replace q4 := hBk.cell' (i := 4) (v := .int .i64 t.next) rfl
            replace q5 := hBk.cell' (i := 5) (v := .int .i64 t.target) rfl
            replace q6 := hBk.cell' (i := 6) (v := .int .i64 t.epoch) rfl
            replace q7 := hBk.cell' (i := 7) (v := .int .i64 t.win.cell) rfl
            replace q8 := hBk.cell' (i := 8) (v := .int .i64 t.win.epoch) rfl
            replace q9 := hBk.cell' (i := 9) (v := .int .i64 t.win.version) rfl
            replace q10 := hBk.cell' (i := 10) (v := .int .i64 t.win.since) rfl
            replace q11 := hBk.cell' (i := 11) (v := .int .i64 t.win.till) rfl
            go_wp2_with fail
            refine (ldAdd2 c.cells.length W.heap.size (some ⟨W.heap.size, 0, none⟩) c.cells.length (addAt (addAt (addAt (bookK c s k) t.home de.load) t.target de.load) t.standby de.shadow) t.next de.shadow _ (by (try simp only [addAt_len]); exact bookK_len _ _ _) (by omega) HO.out (by intro z hz; have := hw3 z hz; omega) (by omega) (by omega)).mono ?_
            rintro r wn ⟨rfl, hOn, hgn⟩
            replace HB := Lib.hid (HB.out.grown hgn HB.out.size (by rintro _ ⟨⟩; exact Nat.le_refl _))
            replace HO := Lib.hid hOn
            replace hA := hA.grown hgn (by intro q; have q2 : ga = W.heap.size := Option.some.inj q; omega)
            replace hBk := hBk.grown hgn (by intro q; have q2 : gb = W.heap.size := Option.some.inj q; omega)
            clear hOn hgn
            replace p0 := hA.cell' (i := 0) (v := .int .i64 de.load) rfl
            replace p1 := hA.cell' (i := 1) (v := .int .i64 de.shadow) rfl
            replace q0 := hBk.cell' (i := 0) (v := .bool t.placed) rfl
            replace q1 := hBk.cell' (i := 1) (v := .bool t.shed) rfl
            replace q2 := hBk.cell' (i := 2) (v := .int .i64 t.home) rfl
            replace q3 := hBk.cell' (i := 3) (v := .int .i64 t.standby) rfl
            replace q4 := hBk.cell' (i := 4) (v := .int .i64 t.next) rfl
            replace q5 := hBk.cell' (i := 5) (v := .int .i64 t.target) rfl
            replace q6 := hBk.cell' (i := 6) (v := .int .i64 t.epoch) rfl
            replace q7 := hBk.cell' (i := 7) (v := .int .i64 t.win.cell) rfl
            replace q8 := hBk.cell' (i := 8) (v := .int .i64 t.win.epoch) rfl
            replace q9 := hBk.cell' (i := 9) (v := .int .i64 t.win.version) rfl
            replace q10 := hBk.cell' (i := 10) (v := .int .i64 t.win.since) rfl
            replace q11 := hBk.cell' (i := 11) (v := .int .i64 t.win.till) rfl
            go_wp2
            go_roundg (gk - 1)
            case measure => omega
            case rel => exact ⟨k + 1, by omega, by go_num, by rw [HE.out]; exact HO.out, HB.out⟩
          · have HE : Hid (bookK c s (k + 1) = addAt (addAt (bookK c s k) t.standby de.shadow) t.next de.shadow) := Lib.hid (by rw [HS.out]; unfold bookT; rw [if_neg (by simp [hpl]), if_pos hsh])
            have hw1 := hw0.add (n := de.shadow) (by omega) t.standby
            go_wp2_with fail
            refine (ldAdd2 c.cells.length W.heap.size (some ⟨W.heap.size, 0, none⟩) c.cells.length (bookK c s k) t.standby de.shadow _ (by (try simp only [addAt_len]); exact bookK_len _ _ _) (by omega) HO.out (by intro z hz; have := hw0 z hz; omega) (by omega) (by omega)).mono ?_
            rintro r wn ⟨rfl, hOn, hgn⟩
            replace HB := Lib.hid (HB.out.grown hgn HB.out.size (by rintro _ ⟨⟩; exact Nat.le_refl _))
            replace HO := Lib.hid hOn
            replace hA := hA.grown hgn (by intro q; have q2 : ga = W.heap.size := Option.some.inj q; omega)
            replace hBk := hBk.grown hgn (by intro q; have q2 : gb = W.heap.size := Option.some.inj q; omega)
            clear hOn hgn
            replace p0 := hA.cell' (i := 0) (v := .int .i64 de.load) rfl
            replace p1 := hA.cell' (i := 1) (v := .int .i64 de.shadow) rfl
            replace q0 := hBk.cell' (i := 0) (v := .bool t.placed) rfl
            replace q1 := hBk.cell' (i := 1) (v := .bool t.shed) rfl
            replace q2 := hBk.cell' (i := 2) (v := .int .i64 t.home) rfl
            replace q3 := hBk.cell' (i := 3) (v := .int .i64 t.standby) rfl
            replace q4 := hBk.cell' (i := 4) (v := .int .i64 t.next) rfl
            replace q5 := hBk.cell' (i := 5) (v := .int .i64 t.target) rfl
            replace q6 := hBk.cell' (i := 6) (v := .int .i64 t.epoch) rfl
            replace q7 := hBk.cell' (i := 7) (v := .int .i64 t.win.cell) rfl
            replace q8 := hBk.cell' (i := 8) (v := .int .i64 t.win.epoch) rfl
            replace q9 := hBk.cell' (i := 9) (v := .int .i64 t.win.version) rfl
            replace q10 := hBk.cell' (i := 10) (v := .int .i64 t.win.since) rfl
            replace q11 := hBk.cell' (i := 11) (v := .int .i64 t.win.till) rfl
            go_wp2_with fail
            refine (ldAdd2 c.cells.length W.heap.size (some ⟨W.heap.size, 0, none⟩) c.cells.length (addAt (bookK c s k) t.standby de.shadow) t.next de.shadow _ (by (try simp only [addAt_len]); exact bookK_len _ _ _) (by omega) HO.out (by intro z hz; have := hw1 z hz; omega) (by omega) (by omega)).mono ?_
            rintro r wn ⟨rfl, hOn, hgn⟩
            replace HB := Lib.hid (HB.out.grown hgn HB.out.size (by rintro _ ⟨⟩; exact Nat.le_refl _))
            replace HO := Lib.hid hOn
            replace hA := hA.grown hgn (by intro q; have q2 : ga = W.heap.size := Option.some.inj q; omega)
            replace hBk := hBk.grown hgn (by intro q; have q2 : gb = W.heap.size := Option.some.inj q; omega)
            clear hOn hgn
            replace p0 := hA.cell' (i := 0) (v := .int .i64 de.load) rfl
            replace p1 := hA.cell' (i := 1) (v := .int .i64 de.shadow) rfl
            replace q0 := hBk.cell' (i := 0) (v := .bool t.placed) rfl
            replace q1 := hBk.cell' (i := 1) (v := .bool t.shed) rfl
            replace q2 := hBk.cell' (i := 2) (v := .int .i64 t.home) rfl
            replace q3 := hBk.cell' (i := 3) (v := .int .i64 t.standby) rfl
            replace q4 := hBk.cell' (i := 4) (v := .int .i64 t.next) rfl
            replace q5 := hBk.cell' (i := 5) (v := .int .i64 t.target) rfl
            replace q6 := hBk.cell' (i := 6) (v := .int .i64 t.epoch) rfl
            replace q7 := hBk.cell' (i := 7) (v := .int .i64 t.win.cell) rfl
            replace q8 := hBk.cell' (i := 8) (v := .int .i64 t.win.epoch) rfl
            replace q9 := hBk.cell' (i := 9) (v := .int .i64 t.win.version) rfl
            replace q10 := hBk.cell' (i := 10) (v := .int .i64 t.win.since) rfl
            replace q11 := hBk.cell' (i := 11) (v := .int .i64 t.win.till) rfl
            go_wp2
            go_roundg (gk - 1)
            case measure => omega
            case rel => exact ⟨k + 1, by omega, by go_num, by rw [HE.out]; exact HO.out, HB.out⟩
    · have hge : ¬ (k : Int) < (s.tenants.length : Int) := by omega
      obtain rfl : k = s.tenants.length := by omega
      have HE : Hid (bookK c s s.tenants.length = booked c s) := Lib.hid (bookK_all c s (Nat.le_refl _))
      have HEL : Hid ((booked c s).length = c.cells.length) := Lib.hid (by rw [← HE.out]; exact bookK_len _ _ _)
      go_wp2
      go_ret
      refine ⟨some ⟨W.heap.size, 0, none⟩, c.cells.length, ?_, ?_, HL.out.trans (HB.out.mono (Nat.le_of_lt hgc))⟩
      · rw [HEL.out]; rfl
      · rw [HEL.out, ← HE.out]
        exact own_base HO.out (Nat.le_of_lt hgc)
end Go.Proofs.YtjobcfpnmfjlfaaGreat
