import Derived.Test.YtnnpgbleacapfaaPa05
namespace Go.Proofs.Ytnnpgbleacapfaa
open Go.RowKit
set_option linter.unusedSimpArgs false
set_option linter.unusedVariables false

/-! schema.Blocking -/
theorem app_elB {α : Type} {enc : α → List Value} {d : α} {l : List α} {x : α} {n : Nat} {el el2 : Nat → List Value} (hn : n = l.length) (h0 : ∀ k, k < n → el k = enc (l.getD k d)) (h1 : ∀ k, k < n → el2 k = el k) (h2 : el2 (n + 0) = enc x) : ∀ k, k < n + 1 → el2 k = enc ((l ++ [x]).getD k d) := by
  intro k hk
  by_cases hkn : k < n
  · rw [h1 k hkn, h0 k hkn, List.getD_eq_getElem?_getD, List.getD_eq_getElem?_getD, List.getElem?_append_left (by omega)]
  · obtain rfl : k = n := by omega
    rw [Nat.add_zero] at h2
    rw [h2, List.getD_eq_getElem?_getD, List.getElem?_append_right (by omega), hn, Nat.sub_self]
    rfl
def blkV (c : Cfg) (s : St) (v : Int) : Bool := decide (0 ≤ v) && decide (v < c.versions.length) && decide ((c.versions.getD v.toNat (0, 0)).2 ≤ s.high)
def blockL (c : Cfg) (s : St) (k : Nat) : List Int := ((List.range k).filter fun i => blkV c s (s.cells.getD i default).running || blkV c s (s.cells.getD i default).wanted).map Int.ofNat
theorem blockL_succ (c : Cfg) (s : St) (k : Nat) : blockL c s (k + 1) = blockL c s k ++ (if (blkV c s (s.cells.getD k default).running || blkV c s (s.cells.getD k default).wanted) = true then [(k : Int)] else []) := by
  unfold blockL
  rw [List.range_succ, List.filter_append, List.map_append]
  congr 1
  by_cases h : (blkV c s (s.cells.getD k default).running || blkV c s (s.cells.getD k default).wanted) = true
  · rw [if_pos h]; simp only [List.filter, h]; rfl
  · rw [if_neg h]; rw [Bool.not_eq_true] at h; simp only [List.filter, h]; rfl
theorem blockL_le (c : Cfg) (s : St) (k : Nat) : (blockL c s k).length ≤ k := by
  unfold blockL
  rw [List.length_map]
  have := List.length_filter_le (fun i => blkV c s (s.cells.getD i default).running || blkV c s (s.cells.getD i default).wanted) (List.range k)
  simpa using this
def bl1D : List (Nat × DQ) := [(1, { k := 18, L := [0, 1, 2, 3, 4, 5, 6, 7, 8, 9, 10, 11], pre := [(0, false), (1, false), (2, false), (3, false), (4, false), (5, false), (6, false), (7, false), (8, false), (9, false), (10, false), (11, false), (12, false), (13, false), (14, false), (15, false), (16, false), (17, false)] })]
def blF : FT := [(21, ctInl tt [] bl1D Try.f21 (bodyOf Try.f21))]
def blD : List (Nat × DQ) := [(9000000, { k := 0, L := [21] }), (3000004, { k := 13, L := [0, 1, 2, 3, 4, 5, 6, 7, 8, 9, 10, 11], sl := [2, 3, 5, 11, 12] })]
theorem blFok : FTokI Try.prog blF (inlOf blD) := fti_cons (inl_ok ttOk fti_nil mixed (by kernel_rfl) Try.func21 rfl (by kernel_rfl) (by decide)) fti_nil
set_option maxRecDepth 100000 in
set_option maxHeartbeats 8000000 in
theorem block_sx (x : CfgK) (c : Cfg) (y : StK) (s : St) (hl : c.versions.length ≤ 1000) (hm : s.cells.length ≤ 1000) :
    sx tt blF blD (bodyOf Try.f12) (argF 0 [cfgV CN1 x c, stV SN1 y s]) (rdM c s noS) 10 (endx tt Try.f12.results.toList fun v mem' _ => SlR mem' 1 intC 0 (blockL c s s.cells.length) v) := by
  have hUle := blockL_le c s
  have app_el := @app_elB
  refine ⟨Int × Nat × Option (Nat × (Nat → List Value)), fun q => match q with | (i, n, none) => [(13, .int .i64 i), (6, zs0)] | (i, n, some (cap, el)) => [(13, .int .i64 i), (6, slc 12 n cap)], fun q => match q with | (i, n, none) => [] | (i, n, some (cap, el)) => [(12, .row (1000000 + 3) 1 cap el)], fun q => match q with | (i, n, o) => ((0 ≤ i ∧ i ≤ s.cells.length) ∧ n = (blockL c s i.toNat).length) ∧ match o with | none => n = 0 | some (cap, el) => n ≤ cap ∧ ∀ k, k < n → el k = intC ((blockL c s i.toNat).getD k 0), fun q => match q with | (i, n, o) => ((s.cells.length : Int) - i).toNat, ⟨(0, 0, none), [], ⟨⟨by omega, rfl⟩, rfl⟩, ⟨rfl, rfl⟩, (by repeat (first | exact trivial | refine ⟨rfl, ?_⟩)), (by repeat (first | exact trivial | refine ⟨rfl, ?_⟩))⟩, ?_⟩
  rintro ⟨i, n, (_ | ⟨cap, el⟩)⟩ ⟨⟨hi, hn⟩, ho⟩
  · refine ⟨⟨by decide, rfl, rfl⟩, ?_⟩
    refine ⟨fun hlt1 => ?_, fun hge => ?_⟩
    · have hlt2 : i < (s.cells.length : Int) := of_decide_eq_true hlt1
      have hub : n ≤ i.toNat := by rw [hn]; exact hUle i.toNat
      refine ⟨⟨Nat.le_refl _, hi.1, hlt2⟩, ?_⟩
      repeat' (first | refine ⟨fun _ => ?_, fun h => Bool.noConfusion h⟩ | refine ⟨fun h => Bool.noConfusion h, fun _ => ?_⟩ | refine ⟨fun _ => ?_, fun _ => ?_⟩ | refine ⟨⟨Nat.le_refl _, by grind, by grind⟩, ?_⟩ | fail)
      all_goals first
        | (have hov : (blkV c s (s.cells.getD i.toNat default).running || blkV c s (s.cells.getD i.toNat default).wanted) = true := by unfold blkV; grind
           refine ⟨⟨Nat.le_refl _, fun k hk => by match k, hk with | 0, _ => rfl⟩, ?_⟩
           refine ⟨fun h => absurd h (by decide), fun _ => ⟨by decide, fun cap2 el2 hc2 hel2 => ?_⟩⟩
           refine ⟨(_, _, some (cap2, el2)), [(12, 15)], ?_, ⟨rfl, rfl⟩, (by repeat (first | exact trivial | refine ⟨rfl, ?_⟩)), (by repeat (first | exact trivial | refine ⟨rfl, ?_⟩))⟩
           dsimp only
           rw [wrapi (n := i + 1) (by omega), show (i + 1).toNat = i.toNat + 1 by omega, blockL_succ]
           rw [if_pos hov]
           refine ⟨⟨⟨by omega, by rw [List.length_append, ← hn, ho]; rfl⟩, by omega, ?_⟩, by omega⟩
           exact app_el (n := 0) (el := fun _ => []) (enc := intC) (by rw [← hn, ho]) (fun k hk => absurd hk (by omega)) (fun k hk => absurd hk (by omega)) (by rw [hel2 0 (by omega)]; exact congrArg (fun z => [Value.int .i64 z]) (by omega))
          )
        | (have hov : ¬ ((blkV c s (s.cells.getD i.toNat default).running || blkV c s (s.cells.getD i.toNat default).wanted) = true) := by unfold blkV; grind
           refine ⟨(_, n, none), [], ?_, ⟨rfl, rfl⟩, (by repeat (first | exact trivial | refine ⟨rfl, ?_⟩)), (by repeat (first | exact trivial | refine ⟨rfl, ?_⟩))⟩
           dsimp only
           rw [wrapi (n := i + 1) (by omega), show (i + 1).toNat = i.toNat + 1 by omega, blockL_succ]
           rw [if_neg hov, List.append_nil]
           exact ⟨⟨⟨by omega, hn⟩, ho⟩, by omega⟩
          )
        | fail
    · have hge2 : ¬ i < (s.cells.length : Int) := of_decide_eq_false hge
      have hie : i.toNat = s.cells.length := by omega
      rw [hie] at hn
      exact .inl ⟨rfl, List.eq_nil_of_length_eq_zero (by rw [← hn]; exact ho)⟩
  · refine ⟨⟨by decide, rfl, rfl⟩, ?_⟩
    refine ⟨fun hlt1 => ?_, fun hge => ?_⟩
    · have hlt2 : i < (s.cells.length : Int) := of_decide_eq_true hlt1
      have hub : n ≤ i.toNat := by rw [hn]; exact hUle i.toNat
      refine ⟨⟨Nat.le_refl _, hi.1, hlt2⟩, ?_⟩
      repeat' (first | refine ⟨fun _ => ?_, fun h => Bool.noConfusion h⟩ | refine ⟨fun h => Bool.noConfusion h, fun _ => ?_⟩ | refine ⟨fun _ => ?_, fun _ => ?_⟩ | refine ⟨⟨Nat.le_refl _, by grind, by grind⟩, ?_⟩ | fail)
      all_goals first
        | (have hov : (blkV c s (s.cells.getD i.toNat default).running || blkV c s (s.cells.getD i.toNat default).wanted) = true := by unfold blkV; grind
           refine ⟨⟨Nat.le_refl _, fun k hk => by match k, hk with | 0, _ => rfl⟩, ?_⟩
           refine ⟨⟨rfl, ho.1⟩, fun hin el2 h1 h2 => ?_, fun hgt => ⟨by show (n + 1) * 8 ≤ 140737488355328; omega, fun cap2 el2 hc2 h1 h2 => ?_⟩⟩
           · refine ⟨(_, _, some (cap, el2)), [], ?_, ⟨rfl, rfl⟩, (by repeat (first | exact trivial | refine ⟨rfl, ?_⟩)), (by repeat (first | exact trivial | refine ⟨rfl, ?_⟩))⟩
             dsimp only
             rw [wrapi (n := i + 1) (by omega), show (i + 1).toNat = i.toNat + 1 by omega, blockL_succ]
             rw [if_pos hov]
             refine ⟨⟨⟨by omega, by rw [List.length_append, ← hn]; rfl⟩, by omega, ?_⟩, by omega⟩
             exact app_el (enc := intC) (el := el) hn ho.2 h1 (by rw [h2 0 (by omega)]; exact congrArg (fun z => [Value.int .i64 z]) (by omega))
           · refine ⟨(_, _, some (cap2, el2)), [(12, 15)], ?_, ⟨rfl, rfl⟩, (by repeat (first | exact trivial | refine ⟨rfl, ?_⟩)), (by repeat (first | exact trivial | refine ⟨rfl, ?_⟩))⟩
             dsimp only
             rw [wrapi (n := i + 1) (by omega), show (i + 1).toNat = i.toNat + 1 by omega, blockL_succ]
             rw [if_pos hov]
             refine ⟨⟨⟨by omega, by rw [List.length_append, ← hn]; rfl⟩, by omega, ?_⟩, by omega⟩
             exact app_el (enc := intC) (el := el) hn ho.2 h1 (by rw [h2 0 (by omega)]; exact congrArg (fun z => [Value.int .i64 z]) (by omega))
          )
        | (have hov : ¬ ((blkV c s (s.cells.getD i.toNat default).running || blkV c s (s.cells.getD i.toNat default).wanted) = true) := by unfold blkV; grind
           refine ⟨(_, n, some (cap, el)), [], ?_, ⟨rfl, rfl⟩, (by repeat (first | exact trivial | refine ⟨rfl, ?_⟩)), (by repeat (first | exact trivial | refine ⟨rfl, ?_⟩))⟩
           dsimp only
           rw [wrapi (n := i + 1) (by omega), show (i + 1).toNat = i.toNat + 1 by omega, blockL_succ]
           rw [if_neg hov, List.append_nil]
           exact ⟨⟨⟨by omega, hn⟩, ho⟩, by omega⟩
          )
        | fail
    · have hge2 : ¬ i < (s.cells.length : Int) := of_decide_eq_false hge
      have hie : i.toNat = s.cells.length := by omega
      rw [hie] at hn ho
      subst hn
      exact .inr ⟨12, cap, _, cap, el, rfl, rfl, rfl, ho.1, ho.2⟩
end Go.Proofs.Ytnnpgbleacapfaa
