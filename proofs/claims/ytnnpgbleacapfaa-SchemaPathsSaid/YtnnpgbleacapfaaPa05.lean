import Derived.Test.YtnnpgbleacapfaaPa04
namespace Go.Proofs.Ytnnpgbleacapfaa
open Go.RowKit
set_option linter.unusedSimpArgs false
set_option linter.unusedVariables false

section
variable {C : Ctx} {ρ : Nat → Pl} {fr : AF} {mem : AM} {nx : Nat} {a : Act} {w w' : World}
/-- All that is written lies below B. -/
def FrB (C : Ctx) (ρ : Nat → Pl) (mem : AM) (B : Nat) : Prop := ∀ i b, lk (mem ++ C.fm) i = some b → exB b = true → (∃ t sz el, b = .row t sz 0 el) ∨ ∀ g, bno ρ i = some g → g < B
theorem Sat.frB (h : Sat C ρ fr mem nx a w) : FrB C ρ mem w.heap.size := by
  intro i b hi hb
  have hok := h.blk i b hi
  cases b with
  | box t cs =>
    obtain ⟨g, e1, e2, -⟩ := hok
    refine .inr fun g' hg => ?_
    simp [bno, e1] at hg
    subst hg
    exact e2.lt
  | row t sz n el =>
    obtain ⟨-, -, h3⟩ := hok
    rcases h3 with rfl | ⟨b, off, hA, hat, -⟩
    · exact .inl ⟨_, _, _, rfl⟩
    · refine .inr fun g hg => ?_
      simp [bno, hA] at hg
      subst hg
      exact hat.lt
/-- One more row that is only read. -/
theorem Sat.addPlain (h : Sat C ρ fr mem nx a w) {t : TypeId} {sz n : Nat} {el : Nat → List Value} {p : Pl} {B : Nat} (hF : FrB C ρ mem B) (ho : ownT t = false) (hp : p.res = false) (hok : BlkOk C (setPl ρ nx p) (nx + 1) nx w (.row t sz n el)) (hnew : n = 0 ∨ ∀ g, p.A.map (·.block) = some g → B ≤ g) :
    Sat C (setPl ρ nx p) fr ((nx, .row t sz n el) :: mem) (nx + 1) a w ∧ FrB C (setPl ρ nx p) ((nx, .row t sz n el) :: mem) B := by
  have hr : ∀ j, j < nx → (ρ j).res = false → setPl ρ nx p j = ρ j := fun j hj _ => setPl_lt ρ p hj
  have h1 := h.ren (ρ' := setPl ρ nx p) (m := nx + 1) hr (Nat.le_succ _) (fun j hj => setPl_lt ρ p (Nat.lt_of_lt_of_le hj h.n0))
  have e1 : bno (setPl ρ nx p) nx = p.A.map (·.block) := by unfold bno; rw [setPl_same]
  have e2 : ∀ j b, lk (mem ++ C.fm) j = some b → bno (setPl ρ nx p) j = bno ρ j := fun j b hj => by unfold bno; rw [setPl_lt ρ p (h.mlt j b hj).1]
  have key : ∀ j b', lk (mem ++ C.fm) j = some b' → Apart (setPl ρ nx p) nx j (.row t sz n el) b' ∧ Apart (setPl ρ nx p) j nx b' (.row t sz n el) := by
    intro j b' hj
    have hne : n ≠ 0 → ∀ g, bno ρ j = some g → g < B → bno (setPl ρ nx p) j ≠ bno (setPl ρ nx p) nx := by
      intro hn g hg hlt he
      rw [e1, e2 j b' hj, hg] at he
      have := hnew.resolve_left hn g he.symm
      omega
    cases b' with
    | box t2 cs2 =>
      refine ⟨trivial, ?_⟩
      by_cases hn : n = 0
      · exact .inl hn
      · refine .inr ?_
        obtain ⟨g, hA, -⟩ := h.blk j _ hj
        rcases hF j _ hj rfl with ⟨_, _, _, q⟩ | hlt
        · cases q
        · have hg : bno ρ j = some g := by simp [bno, hA]
          exact hne hn g hg (hlt g hg)
    | row t2 sz2 n2 el2 =>
      refine ⟨(fun q => absurd (ho.symm.trans q) (by decide)), fun ho2 => ?_⟩
      by_cases hn : n = 0
      · exact .inr (.inl hn)
      · by_cases hn2 : n2 = 0
        · exact .inl hn2
        · obtain ⟨-, -, h3⟩ := h.blk j _ hj
          rcases h3 with q | ⟨b, off, hA, -⟩
          · exact .inl q
          · rcases hF j _ hj ho2 with ⟨_, _, _, q⟩ | hlt
            · cases q; exact .inl rfl
            · have hg : bno ρ j = some b := by simp [bno, hA]
              exact .inr (.inr (hne hn b hg (hlt b hg)))
  refine ⟨⟨h1.fok, h1.sz, h1.dfr, fun i b' hi => ?_, fun i b' hi => ?_, fun i j b1 b2 hne hi hj => ?_, h1.n0, h1.low, h1.rest⟩, fun i b hi hb => ?_⟩
  · rcases lk_cons hi with ⟨rfl, rfl⟩ | ⟨hne, hi⟩
    · exact ⟨Nat.lt_succ_self _, by rw [setPl_same]; exact hp⟩
    · exact h1.mlt i b' hi
  · rcases lk_cons hi with ⟨rfl, rfl⟩ | ⟨hne, hi⟩
    · exact hok
    · exact h1.blk i b' hi
  · rcases lk_cons hi with ⟨rfl, rfl⟩ | ⟨hni, hi⟩
    · rcases lk_cons hj with ⟨rfl, rfl⟩ | ⟨hnj, hj⟩
      · exact absurd rfl hne
      · exact (key j b2 hj).1
    · rcases lk_cons hj with ⟨rfl, rfl⟩ | ⟨hnj, hj⟩
      · exact (key i b1 hi).2
      · exact h1.sep i j b1 b2 hne hi hj
  · rcases lk_cons hi with ⟨rfl, rfl⟩ | ⟨hne, hi⟩
    · simp only [exB] at hb
      rw [ho] at hb
      cases hb
    · rcases hF i b hi hb with q | q
      · exact .inl q
      · exact .inr fun g hg => q g (by rw [← e2 i b hi]; exact hg)
/-- A row of a list, made by the callee. -/
theorem Sat.addList (h : Sat C ρ fr mem nx a w) {B : Nat} (hF : FrB C ρ mem B) (hB : C.w0.heap.size ≤ B) {α : Type} {enc : α → List Value} {sz : Nat} (hs : ∀ x, (enc x).length = sz) (hpos : 0 < sz) (hpl : ∀ x, ∀ v ∈ enc x, plain1 v) {l : List α} (d : α) {t : TypeId} (ho : ownT t = false) {A : Option Addr} (hr : Rd w (fun b => B ≤ b ∧ b < w.heap.size) A (flat enc l)) :
    Sat C (setPl ρ nx ⟨A, sz, l.length, false⟩) fr ((nx, rowOfL t sz enc d l) :: mem) (nx + 1) a w ∧ FrB C (setPl ρ nx ⟨A, sz, l.length, false⟩) ((nx, rowOfL t sz enc d l) :: mem) B := by
  refine h.addPlain hF ho rfl (row_of_rd hs hpos hpl d (setPl_same _ _ _) hr (fun b hb => hb.2) ho (fun _ b hb => Nat.le_trans hB hb.1)) ?_
  by_cases h0 : l.length = 0
  · exact .inl h0
  · obtain ⟨b, off, x, hA, hb, -, -⟩ := hr.row hs hpos (k := 0) (by omega)
    refine .inr fun g hg => ?_
    simp [hA] at hg
    subst hg
    exact hb.1
def stPl (ρ : Nat → Pl) (nx : Nat) (y : StA) (s : St) : Nat → Pl := setPl (setPl ρ nx ⟨y.ac, 4, s.cells.length, false⟩) (nx + 1) ⟨y.at_, 12, s.tenants.length, false⟩
/-- A state that the callee has made: its rows get the names nx + 1 and nx. -/
theorem Sat.addSt (h0 : Sat C ρ fr mem nx a w) (hb : Below w.heap.size w w') {y : StA} {s : St} (hs : StOk w' (fun b => w.heap.size ≤ b ∧ b < w'.heap.size) y s) :
    Sat C (stPl ρ nx y s) fr (stM ⟨nx + 1, nx, 500000⟩ s ++ mem) (nx + 2) a w' ∧ den (stPl ρ nx y s) (stV ⟨nx + 1, nx, 500000⟩ ⟨y.ct, y.cc⟩ s) = .agg (stC y s) ∧ okV (stPl ρ nx y s) (nx + 2) (stV ⟨nx + 1, nx, 500000⟩ ⟨y.ct, y.cc⟩ s) ∧ ExtS ρ nx (stPl ρ nx y s) (nx + 2) := by
  obtain ⟨h1, f1⟩ := (h0.later hb).addList h0.frB h0.rest.size (enc := csC) (sz := 4) (fun _ => rfl) (by omega) csC_plain default (t := 500000) rfl hs.cells
  obtain ⟨h2, -⟩ := h1.addList f1 h0.rest.size (enc := tsC) (sz := 12) (fun _ => rfl) (by omega) tsC_plain default (t := 500000) rfl hs.tenants
  have q1 : stPl ρ nx y s nx = ⟨y.ac, 4, s.cells.length, false⟩ := by
    unfold stPl
    rw [setPl_lt _ _ (Nat.lt_succ_self _), setPl_same]
  have q2 : stPl ρ nx y s (nx + 1) = ⟨y.at_, 12, s.tenants.length, false⟩ := setPl_same _ _ _
  refine ⟨h2, ?_, ?_, fun i hi => ?_, by omega⟩
  · rw [den_st]
    congr 2
    simp [stX, q1, q2]
  · intro u hu
    simp at hu
    rcases hu with rfl | rfl | rfl | rfl | rfl | rfl | rfl | rfl <;> first | trivial | exact ⟨show nx + 1 < nx + 2 by omega, by rw [q2]⟩ | exact ⟨show nx < nx + 2 by omega, by rw [q1]⟩
  · unfold stPl
    rw [setPl_lt _ _ (by omega), setPl_lt _ _ hi]
end
end Go.Proofs.Ytnnpgbleacapfaa

namespace Go.Proofs.Ytnnpgbleacapfaa
open Go.RowKit
set_option linter.unusedSimpArgs false
set_option linter.unusedVariables false

/-! state.New -/
def CN1 : CN := ⟨0, 1, 2, 3, 4, 5, 3⟩
def newD : List (Nat × DQ) := [
  (1, { k := 10, L := [6], g := some (.fix 0 (.fix 1 (.fix 2 (.fix 4 (.fix 5 (.fix 6 (.three
    3 (.two 7 (.fix 8 (.act 9 .fin)) 9 (.act 7 (.fix 8 .fin)))
    7 (.two 3 (.fix 8 (.act 9 .fin)) 9 (.act 3 (.fix 8 .fin)))
    9 (.two 3 (.act 7 (.fix 8 .fin)) 7 (.act 3 (.fix 8 .fin)))))))))) }),
  (4000002, { k := 11, L := [6, 7], sl := [1, 2] }),
  (2000003, { k := 0, L := [7, 9, 10], sl := [2, 3, 17] }),
  (2000008, { k := 0, L := [7, 8, 10], sl := [2, 3, 30] })]
abbrev tsZ : List Value := [zb, zb, zi, zi, zi, zi, zi, zi, zi, zi, zi, zi]
abbrev csZ : List Value := [zi, zi, zi, zi]
abbrev tsB (n : Nat) (el : Nat → List Value) : ABlk := .row (1000000 + 65) 12 n el
abbrev csB (n : Nat) (el : Nat → List Value) : ABlk := .row (1000000 + 67) 4 n el
abbrev newV (n m : Nat) : List Value := [zi, zi, slc 8 n n, slc 9 m m, .int .i64 1, zi, zi, zi]
def NewR (n m : Nat) (v : Value) (mem' : AM) : Prop := v = .agg (newV n m).toArray ∧ (∃ el, lk mem' 8 = some (tsB n el) ∧ ∀ k, k < n → el k = tsC tsNew) ∧ ∃ el, lk mem' 9 = some (csB m el) ∧ ∀ k, k < m → el k = csC csNew
set_option maxRecDepth 100000 in
set_option maxHeartbeats 4000000 in
theorem new_sx (x : CfgK) (c : Cfg) (hnt : c.tenants.length ≤ 1000) (hnc : c.cells.length ≤ 1000) :
    sx tt [] newD (bodyOf Try.f10) (argF 0 [cfgV CN1 x c]) (cfgM CN1 c) 6
      (endx tt Try.f10.results.toList fun v mem' _ => NewR c.tenants.length c.cells.length v mem') := by
  refine ⟨Unit, fun _ => [(3, ptr 10)], fun _ => [(8, tsB c.tenants.length fun _ => tsZ), (9, csB c.cells.length fun _ => csZ), (10, .box 40 (newV c.tenants.length c.cells.length))], fun _ => True, ?_, ?_⟩
  · refine ⟨?_, ?_, ?_⟩
    · refine ⟨⟨rfl, by omega, by show _ * (88 : Int) ≤ _; omega⟩, ⟨rfl, trivial⟩, ?_⟩
      refine ⟨?_, ?_⟩
      · refine ⟨⟨rfl, by omega, by show _ * (32 : Int) ≤ _; omega⟩, ⟨rfl, trivial⟩, ?_⟩
        refine ⟨⟨rfl, trivial⟩, ?_⟩
        exact ⟨(), [], trivial, ⟨rfl, rfl⟩, ⟨rfl, rfl, rfl, trivial⟩, ⟨rfl, rfl, rfl, rfl, rfl, trivial⟩⟩
      · refine ⟨⟨rfl, trivial⟩, ?_⟩
        refine ⟨⟨rfl, by omega, by show _ * (32 : Int) ≤ _; omega⟩, ⟨rfl, trivial⟩, ?_⟩
        exact ⟨(), [(9, 10), (10, 9)], trivial, ⟨rfl, rfl⟩, ⟨rfl, rfl, rfl, trivial⟩, ⟨rfl, rfl, rfl, rfl, rfl, trivial⟩⟩
    · refine ⟨⟨rfl, by omega, by show _ * (32 : Int) ≤ _; omega⟩, ⟨rfl, trivial⟩, ?_⟩
      refine ⟨?_, ?_⟩
      · refine ⟨⟨rfl, by omega, by show _ * (88 : Int) ≤ _; omega⟩, ⟨rfl, trivial⟩, ?_⟩
        refine ⟨⟨rfl, trivial⟩, ?_⟩
        exact ⟨(), [(8, 9), (9, 8)], trivial, ⟨rfl, rfl⟩, ⟨rfl, rfl, rfl, trivial⟩, ⟨rfl, rfl, rfl, rfl, rfl, trivial⟩⟩
      · refine ⟨⟨rfl, trivial⟩, ?_⟩
        refine ⟨⟨rfl, by omega, by show _ * (88 : Int) ≤ _; omega⟩, ⟨rfl, trivial⟩, ?_⟩
        exact ⟨(), [(8, 10), (9, 8), (10, 9)], trivial, ⟨rfl, rfl⟩, ⟨rfl, rfl, rfl, trivial⟩, ⟨rfl, rfl, rfl, rfl, rfl, trivial⟩⟩
    · refine ⟨⟨rfl, trivial⟩, ?_⟩
      refine ⟨?_, ?_⟩
      · refine ⟨⟨rfl, by omega, by show _ * (88 : Int) ≤ _; omega⟩, ⟨rfl, trivial⟩, ?_⟩
        refine ⟨⟨rfl, by omega, by show _ * (32 : Int) ≤ _; omega⟩, ⟨rfl, trivial⟩, ?_⟩
        exact ⟨(), [(8, 9), (9, 10), (10, 8)], trivial, ⟨rfl, rfl⟩, ⟨rfl, rfl, rfl, trivial⟩, ⟨rfl, rfl, rfl, rfl, rfl, trivial⟩⟩
      · refine ⟨⟨rfl, by omega, by show _ * (32 : Int) ≤ _; omega⟩, ⟨rfl, trivial⟩, ?_⟩
        refine ⟨⟨rfl, by omega, by show _ * (88 : Int) ≤ _; omega⟩, ⟨rfl, trivial⟩, ?_⟩
        exact ⟨(), [(8, 10), (10, 8)], trivial, ⟨rfl, rfl⟩, ⟨rfl, rfl, rfl, trivial⟩, ⟨rfl, rfl, rfl, rfl, rfl, trivial⟩⟩
  · rintro ⟨⟩ -
    refine ⟨⟨by decide, rfl, rfl⟩, ?_⟩
    refine ⟨Int × (Nat → List Value), fun y => match y with | (i, el) => [(18, .int .i64 i)], fun y => match y with | (i, el) => [(8, tsB c.tenants.length el)], fun y => (0 ≤ y.1 ∧ y.1 ≤ (c.tenants.length : Int)) ∧ ∀ k : Nat, k < c.tenants.length → y.2 k = if (k : Int) < y.1 then tsC tsNew else tsZ, fun y => ((c.tenants.length : Int) - y.1).toNat, ⟨(0, fun _ => tsZ), ⟨⟨by dsimp only; omega, by dsimp only; omega⟩, ?_⟩, ⟨rfl, rfl, rfl, rfl, trivial⟩, ⟨rfl, rfl, rfl, rfl, trivial⟩⟩, ?_⟩
    · intro k hk
      dsimp only
      rw [if_neg (by omega)]
    · rintro ⟨i, el⟩ ⟨hi, hel⟩
      dsimp only at hi hel
      refine ⟨⟨rfl, rfl⟩, ?_⟩
      refine ⟨fun hlt => ?_, fun hge => ?_⟩
      · have hlt2 : i < (c.tenants.length : Int) := of_decide_eq_true hlt
        have hz : el i.toNat = tsZ := by rw [hel i.toNat (by omega), if_neg (by omega)]
        refine ⟨⟨Nat.le_refl _, hi.1, hlt2⟩, ?_⟩
        refine ⟨tsC tsNew, by rw [hz]; rfl, ?_⟩
        refine ⟨(_, _), ?_, ⟨rfl, rfl, rfl, rfl, trivial⟩, ⟨rfl, rfl, rfl, rfl, trivial⟩⟩
        dsimp only
        rw [wrapi (by omega)]
        refine ⟨⟨⟨by omega, by omega⟩, fun k hk => ?_⟩, by omega⟩
        unfold setEl
        by_cases hk2 : k = i.toNat
        · subst hk2
          rw [Nat.beq_refl, if_pos (by omega)]
        · have hb : Nat.beq k i.toNat = false := by
            cases hb : Nat.beq k i.toNat
            · rfl
            · exact absurd (Nat.eq_of_beq_eq_true hb) hk2
          rw [hb]
          show el k = _
          rw [hel k hk]
          by_cases hki : (k : Int) < i
          · rw [if_pos hki, if_pos (by omega)]
          · rw [if_neg hki, if_neg (by omega)]
      · have hge2 : ¬ i < (c.tenants.length : Int) := of_decide_eq_false hge
        have hT : ∀ k, k < c.tenants.length → el k = tsC tsNew := fun k hk => by rw [hel k hk, if_pos (by omega)]
        refine ⟨Int × (Nat → List Value), fun y => match y with | (i, el) => [(31, .int .i64 i)], fun y => match y with | (i, el) => [(9, csB c.cells.length el)], fun y => (0 ≤ y.1 ∧ y.1 ≤ (c.cells.length : Int)) ∧ ∀ k : Nat, k < c.cells.length → y.2 k = if (k : Int) < y.1 then csC csNew else csZ, fun y => ((c.cells.length : Int) - y.1).toNat, ⟨(0, fun _ => csZ), ⟨⟨by dsimp only; omega, by dsimp only; omega⟩, ?_⟩, ⟨rfl, rfl, rfl, rfl, trivial⟩, ⟨rfl, rfl, rfl, rfl, trivial⟩⟩, ?_⟩
        · intro k hk
          dsimp only
          rw [if_neg (by omega)]
        · rintro ⟨i, el⟩ ⟨hi, hel⟩
          dsimp only at hi hel
          refine ⟨⟨rfl, rfl⟩, ?_⟩
          refine ⟨fun hlt => ?_, fun hge => ?_⟩
          · have hlt2 : i < (c.cells.length : Int) := of_decide_eq_true hlt
            have hz : el i.toNat = csZ := by rw [hel i.toNat (by omega), if_neg (by omega)]
            refine ⟨⟨Nat.le_refl _, hi.1, hlt2⟩, ?_⟩
            refine ⟨csC csNew, by rw [hz]; rfl, ?_⟩
            refine ⟨(_, _), ?_, ⟨rfl, rfl, rfl, rfl, trivial⟩, ⟨rfl, rfl, rfl, rfl, trivial⟩⟩
            dsimp only
            rw [wrapi (by omega)]
            refine ⟨⟨⟨by omega, by omega⟩, fun k hk => ?_⟩, by omega⟩
            unfold setEl
            by_cases hk2 : k = i.toNat
            · subst hk2
              rw [Nat.beq_refl, if_pos (by omega)]
            · have hb : Nat.beq k i.toNat = false := by
                cases hb : Nat.beq k i.toNat
                · rfl
                · exact absurd (Nat.eq_of_beq_eq_true hb) hk2
              rw [hb]
              show el k = _
              rw [hel k hk]
              by_cases hki : (k : Int) < i
              · rw [if_pos hki, if_pos (by omega)]
              · rw [if_neg hki, if_neg (by omega)]
          · have hge2 : ¬ i < (c.cells.length : Int) := of_decide_eq_false hge
            have hC : ∀ k, k < c.cells.length → el k = csC csNew := fun k hk => by rw [hel k hk, if_pos (by omega)]
            exact ⟨rfl, ⟨_, rfl, hT⟩, ⟨_, rfl, hC⟩⟩
end Go.Proofs.Ytnnpgbleacapfaa

namespace Go.Proofs.Ytnnpgbleacapfaa
open Go.RowKit
set_option linter.unusedSimpArgs false
set_option linter.unusedVariables false

/-! Functions that read a configuration and states and give a value. -/
abbrev SN1 : SN := ⟨6, 7, 3⟩
abbrev SN2 : SN := ⟨8, 9, 3⟩
def rpl (x : CfgA) (c : Cfg) (y : StA) (s : St) (y2 : StA) (s2 : St) : Nat → Pl := fun j => match j with
  | 0 => ⟨x.az, 1, c.zones.length, false⟩
  | 1 => ⟨x.ac, 2, c.cells.length, false⟩
  | 2 => ⟨x.at_, 7, c.tenants.length, false⟩
  | 3 => ⟨x.av, 2, c.versions.length, false⟩
  | 4 => ⟨x.ar, 1, c.replicas.length, false⟩
  | 5 => ⟨x.ao, 1, c.observers.length, false⟩
  | 6 => ⟨y.at_, 12, s.tenants.length, false⟩
  | 7 => ⟨y.ac, 4, s.cells.length, false⟩
  | 8 => ⟨y2.at_, 12, s2.tenants.length, false⟩
  | _ => ⟨y2.ac, 4, s2.cells.length, false⟩
abbrev rdM (c : Cfg) (s s2 : St) : AM := cfgM CN1 c ++ (stM SN1 s ++ stM SN2 s2)
abbrev ck (x : CfgA) : CfgK := ⟨x.cz, x.cc, x.ct, x.cv, x.cr, x.co⟩
abbrev sk (y : StA) : StK := ⟨y.ct, y.cc⟩
theorem rpl_cfg (x : CfgA) (c : Cfg) (y : StA) (s : St) (y2 : StA) (s2 : St) : den (rpl x c y s y2 s2) (cfgV CN1 (ck x) c) = .agg (cfgC x c) := by rw [den_cfg]; rfl
theorem rpl_st (x : CfgA) (c : Cfg) (y : StA) (s : St) (y2 : StA) (s2 : St) : den (rpl x c y s y2 s2) (stV SN1 (sk y) s) = .agg (stC y s) := by rw [den_st]; rfl
theorem rpl_st2 (x : CfgA) (c : Cfg) (y : StA) (s : St) (y2 : StA) (s2 : St) : den (rpl x c y s y2 s2) (stV SN2 (sk y2) s2) = .agg (stC y2 s2) := by rw [den_st]; rfl
theorem rpl_cfg_ok (x : CfgA) (c : Cfg) (y : StA) (s : St) (y2 : StA) (s2 : St) : okV (rpl x c y s y2 s2) 10 (cfgV CN1 (ck x) c) := by
  intro u hu
  simp at hu
  rcases hu with rfl | rfl | rfl | rfl | rfl | rfl | rfl | rfl | rfl | rfl <;> first | trivial | exact ⟨by decide, rfl⟩
theorem rpl_st_ok (x : CfgA) (c : Cfg) (y : StA) (s : St) (y2 : StA) (s2 : St) : okV (rpl x c y s y2 s2) 10 (stV SN1 (sk y) s) := by
  intro u hu
  simp at hu
  rcases hu with rfl | rfl | rfl | rfl | rfl | rfl | rfl | rfl <;> first | trivial | exact ⟨by decide, rfl⟩
theorem rpl_st2_ok (x : CfgA) (c : Cfg) (y : StA) (s : St) (y2 : StA) (s2 : St) : okV (rpl x c y s y2 s2) 10 (stV SN2 (sk y2) s2) := by
  intro u hu
  simp at hu
  rcases hu with rfl | rfl | rfl | rfl | rfl | rfl | rfl | rfl <;> first | trivial | exact ⟨by decide, rfl⟩
theorem rd_calls {f : FuncId} {fn : Func} {F : FT} {D : List (Nat × DQ)} (hF : FTok Try.prog F) (hf : (Try.prog).funcs[f]? = some fn) (hb : fn.body = some (bodyOf fn)) (hcode : codeB fn.ntmps D (bodyOf fn) = true) {vs : List Value} (hn : Nat.ble vs.length fn.ntmps = true)
    (x : CfgA) (c : Cfg) (y : StA) (s : St) (y2 : StA) (s2 : St) (w : World) (hc : CfgOk w (· < w.heap.size) x c) (hs : StOk w (· < w.heap.size) y s) (hs2 : StOk w (· < w.heap.size) y2 s2) (hv : ∀ v ∈ vs, okV (rpl x c y s y2 s2) 10 v) {R : Value → Prop}
    (h : sx tt F D (bodyOf fn) (argF 0 vs) (rdM c s s2) 10 (endx tt fn.results.toList fun v _ _ => R v ∧ pureV v)) :
    Calls Try.prog f (vs.map (den (rpl x c y s y2 s2))).toArray w fun e w' => ∃ v, R v ∧ pureV v ∧ e = .returned v ∧ Below w.heap.size w w' := by
  have hpc : CfgPl (rpl x c y s y2 s2) CN1 x c := ⟨rfl, rfl, rfl, rfl, rfl, rfl⟩
  have hps : StPl (rpl x c y s y2 s2) SN1 y s := ⟨rfl, rfl⟩
  have hps2 : StPl (rpl x c y s y2 s2) SN2 y2 s2 := ⟨rfl, rfl⟩
  have hm : MemAt { w0 := w, bor := [], n0 := 10, ρ0 := rpl x c y s y2 s2, nt := fn.ntmps } (rpl x c y s y2 s2) (rdM c s s2) 10 w := MemAt.rows trivial (cfg_blks hpc hc (fun b hb => hb) (by decide) (st_blks hps hs (fun b hb => hb) (by decide) (by
    have := st_blks (C := { w0 := w, bor := [], n0 := 10, ρ0 := rpl x c y s y2 s2, nt := fn.ntmps }) (nx := 10) (r := []) hps2 hs2 (fun b hb => hb) (by decide) trivial
    exact this)))
  refine (calls_sx ttOk hF mixed hf hb hcode (vs := vs) hn ⟨rfl, rfl⟩ rfl hm hv h).mono ?_
  rintro e w' ⟨v, mem', nx', ρ', rfl, ⟨hR, hp⟩, -, hm'⟩
  exact ⟨v, hR, hp, by rw [(pure_den hp ρ' 0).1], ⟨hm'.rest.os, hm'.rest.tape, hm'.rest.output, hm'.rest.size, fun b hlt => hm'.rest.block b hlt (by simp)⟩⟩

/-! What such a function is handed, in the abstract and in the world. -/
inductive DT where
  | li (d : List Int)
  | cf (d : Cfg)
  | st (d : St)
  | vl (u : Value)
inductive PA where
  | li (i cap : Nat) (d : List Int)
  | cf (N : CN) (x : CfgK) (d : Cfg)
  | st (M : SN) (y : StK) (d : St)
  | vl (u : Value)
inductive PW where
  | li (A : Option Addr) (cap : Nat) (d : List Int)
  | cf (x : CfgA) (d : Cfg)
  | st (y : StA) (d : St)
  | vl (u : Value)
def PA.val : PA → Value
  | .li i cap l => slc i l.length cap
  | .cf N x c => cfgV N x c
  | .st M y s => stV M y s
  | .vl u => u
def PA.dt : PA → DT
  | .li _ _ l => .li l
  | .cf _ _ c => .cf c
  | .st _ _ s => .st s
  | .vl u => .vl u
def PA.keep (mem : AM) : PA → Prop
  | .li i _ l => lk mem i = some (intRow l)
  | .cf N _ c => keeps mem (cfgM N c)
  | .st M _ s => keeps mem (stM M s)
  | .vl u => pureV u
def PW.val : PW → Value
  | .li A cap l => .slice A l.length cap
  | .cf x c => .agg (cfgC x c)
  | .st y s => .agg (stC y s)
  | .vl u => u
def PW.dt : PW → DT
  | .li _ _ l => .li l
  | .cf _ c => .cf c
  | .st _ s => .st s
  | .vl u => .vl u
def PW.ok (w : World) : PW → Prop
  | .li A _ l => Rd w (· < w.heap.size) A (flat intC l)
  | .cf x c => CfgOk w (· < w.heap.size) x c
  | .st y s => StOk w (· < w.heap.size) y s
  | .vl u => pureV u
def PA.to (ρ : Nat → Pl) : PA → PW
  | .li i cap l => .li (ρ i).A cap l
  | .cf N x c => .cf (cfgX ρ N x) c
  | .st M y s => .st (stX ρ M y) s
  | .vl u => .vl u
def allK (mem : AM) (l : List PA) : Prop := List.rec (motive := fun _ => Prop) True (fun a _ ih => a.keep mem ∧ ih) l
theorem allK_mem {mem : AM} : ∀ {l : List PA}, allK mem l → ∀ a ∈ l, a.keep mem
  | [], _, a, ha => by cases ha
  | b :: r, h, a, ha => (List.mem_cons.1 ha).elim (fun e => e ▸ h.1) (allK_mem (l := r) h.2 a)
def ctPts (R : List DT → Value → Prop) (pre : List DT → Prop) : CT := fun vs mem nx K => ∃ l : List PA, vs = l.map PA.val ∧ allK mem l ∧ pre (l.map PA.dt) ∧ ∀ z, R (l.map PA.dt) z → K z mem nx
theorem ptsOk {f : FuncId} {R : List DT → Value → Prop} {pre : List DT → Prop} (ent : ((Try.prog).funcs[f]?).map (fun fn => (fn.name == "runtime.NumGoroutine", fn.body.isNone)) = some (false, false))
    (h : ∀ (ps : List PW) (w : World), pre (ps.map PW.dt) → (∀ p ∈ ps, p.ok w) → Calls Try.prog f (ps.map PW.val).toArray w fun e w' => ∃ v, R (ps.map PW.dt) v ∧ pureV v ∧ e = .returned v ∧ Below w.heap.size w w') : CSound Try.prog f (ctPts R pre) :=
  ⟨ent, fun {C ρ fr mem nx a w vs K} hc hs hv => by
    obtain ⟨l, rfl, hk, hp, hK⟩ := hc
    have hk' := allK_mem hk
    have e1 : (l.map PA.val).map (den ρ) = (l.map (PA.to ρ)).map PW.val := by
      rw [List.map_map, List.map_map]
      refine List.map_congr_left fun p hp => ?_
      cases p with
      | li i cap l => rfl
      | cf N x c => exact den_cfg ρ N x c
      | st M y s => exact den_st ρ M y s
      | vl u => exact (pure_den (hk' _ hp) ρ 0).1
    have e2 : (l.map (PA.to ρ)).map PW.dt = l.map PA.dt := by
      rw [List.map_map]
      refine List.map_congr_left fun p hp => ?_
      cases p <;> rfl
    rw [e1]
    refine (h (l.map (PA.to ρ)) w (by rw [e2]; exact hp) (fun p hp => ?_)).mono ?_
    · obtain ⟨q, hq, rfl⟩ := List.mem_map.1 hp
      cases q with
      | li i cap l => exact hs.rd (enc := intC) (sz := 1) (fun _ => rfl) (by omega) (show lk mem i = some (intRow l) from hk' _ hq) (fun b h _ => h)
      | cf N x c => exact hs.cfg (hk' _ hq) (fun b h _ => h)
      | st M y s => exact hs.st (hk' _ hq) (fun b h _ => h)
      | vl u => exact hk' _ hq
    · rintro e w' ⟨v, hR, hpl, rfl, hb⟩
      rw [e2] at hR
      exact ⟨v, mem, nx, ρ, by rw [(pure_den hpl ρ 0).1], hK v hR, hs.later hb, (pure_den hpl ρ nx).2, ExtS.refl _ _⟩⟩
theorem dt_nil {ps : List PW} (h : ps.map PW.dt = []) : ps = [] := List.map_eq_nil_iff.1 h
theorem dt_l {ps : List PW} {l : List Int} {r : List DT} (h : ps.map PW.dt = .li l :: r) : ∃ A cap qs, ps = .li A cap l :: qs ∧ qs.map PW.dt = r := by
  cases ps with
  | nil => cases h
  | cons p qs => cases p <;> simp [PW.dt] at h <;> obtain ⟨rfl, h⟩ := h; exact ⟨_, _, qs, rfl, h⟩
theorem dt_c {ps : List PW} {c : Cfg} {r : List DT} (h : ps.map PW.dt = .cf c :: r) : ∃ x qs, ps = .cf x c :: qs ∧ qs.map PW.dt = r := by
  cases ps with
  | nil => cases h
  | cons p qs => cases p <;> simp [PW.dt] at h <;> obtain ⟨rfl, h⟩ := h; exact ⟨_, qs, rfl, h⟩
theorem dt_s {ps : List PW} {s : St} {r : List DT} (h : ps.map PW.dt = .st s :: r) : ∃ y qs, ps = .st y s :: qs ∧ qs.map PW.dt = r := by
  cases ps with
  | nil => cases h
  | cons p qs => cases p <;> simp [PW.dt] at h <;> obtain ⟨rfl, h⟩ := h; exact ⟨_, qs, rfl, h⟩
theorem dt_v {ps : List PW} {u : Value} {r : List DT} (h : ps.map PW.dt = .vl u :: r) : ∃ qs, ps = .vl u :: qs ∧ qs.map PW.dt = r := by
  cases ps with
  | nil => cases h
  | cons p qs => cases p <;> simp [PW.dt] at h <;> obtain ⟨rfl, h⟩ := h; exact ⟨qs, rfl, h⟩
def noA : StA := ⟨none, 0, none, 0⟩
def noS : St := { tick := 0, count := 0, tenants := [], cells := [], proven := 0, evac := 0, low := 0, high := 0 }
theorem noS_ok (w : World) (S : Nat → Prop) : StOk w S noA noS := ⟨fun h => absurd rfl h, fun h => absurd rfl h⟩
/-! Functions that are handed lists of numbers. -/
def lpl (A0 : Option Addr) (n0 : Nat) (A1 : Option Addr) (n1 : Nat) : Nat → Pl := fun j => match j with
  | 0 => ⟨A0, 1, n0, false⟩
  | _ => ⟨A1, 1, n1, false⟩
theorem li_calls {f : FuncId} {fn : Func} {F : FT} {D : List (Nat × DQ)} (hF : FTok Try.prog F) (hf : (Try.prog).funcs[f]? = some fn) (hb : fn.body = some (bodyOf fn)) (hcode : codeB fn.ntmps D (bodyOf fn) = true) {vs : List Value} (hn : Nat.ble vs.length fn.ntmps = true)
    (A0 : Option Addr) (l0 : List Int) (A1 : Option Addr) (l1 : List Int) (w : World) (h0 : Rd w (· < w.heap.size) A0 (flat intC l0)) (h1 : Rd w (· < w.heap.size) A1 (flat intC l1)) (hv : ∀ v ∈ vs, okV (lpl A0 l0.length A1 l1.length) 2 v) {R : Value → Prop}
    (h : sx tt F D (bodyOf fn) (argF 0 vs) [(0, intRow l0), (1, intRow l1)] 2 (endx tt fn.results.toList fun v _ _ => R v ∧ pureV v)) :
    Calls Try.prog f (vs.map (den (lpl A0 l0.length A1 l1.length))).toArray w fun e w' => ∃ v, R v ∧ pureV v ∧ e = .returned v ∧ Below w.heap.size w w' := by
  have hm : MemAt { w0 := w, bor := [], n0 := 2, ρ0 := lpl A0 l0.length A1 l1.length, nt := fn.ntmps } (lpl A0 l0.length A1 l1.length) [(0, intRow l0), (1, intRow l1)] 2 w := MemAt.rows trivial
    ⟨⟨by decide, rfl, row_of_rd (enc := intC) (sz := 1) (fun _ => rfl) (by omega) intC_plain 0 rfl h0 (fun b hb => hb)⟩, ⟨by decide, rfl, row_of_rd (enc := intC) (sz := 1) (fun _ => rfl) (by omega) intC_plain 0 rfl h1 (fun b hb => hb)⟩, trivial⟩
  refine (calls_sx ttOk hF mixed hf hb hcode (vs := vs) hn ⟨rfl, rfl⟩ rfl hm hv h).mono ?_
  rintro e w' ⟨v, mem', nx', ρ', rfl, ⟨hR, hp⟩, -, hm'⟩
  exact ⟨v, hR, hp, by rw [(pure_den hp ρ' 0).1], ⟨hm'.rest.os, hm'.rest.tape, hm'.rest.output, hm'.rest.size, fun b hlt => hm'.rest.block b hlt (by simp)⟩⟩
end Go.Proofs.Ytnnpgbleacapfaa

namespace Go.Proofs.Ytnnpgbleacapfaa
open Go.RowKit
set_option linter.unusedSimpArgs false
set_option linter.unusedVariables false

/-! schema.Path -/
/-- A configuration in rows of whatever kind. -/
structure HasCfg (mem : AM) (N : CN) (c : Cfg) : Prop where
  rz : HasRow mem N.z 1 intC 0 c.zones
  rc : HasRow mem N.c 2 pairC (0, 0) c.cells
  rt : HasRow mem N.t 7 tenC default c.tenants
  rv : HasRow mem N.v 2 pairC (0, 0) c.versions
  rr : HasRow mem N.r 1 intC 0 c.replicas
  ro : HasRow mem N.o 1 intC 0 c.observers
theorem HasCfg.keeps {mem : AM} {N : CN} {c : Cfg} (h : keeps mem (cfgM N c)) : HasCfg mem N c :=
  ⟨⟨_, _, _, h.1, Nat.le_refl _, fun k hk => rfl⟩, ⟨_, _, _, h.2.1, Nat.le_refl _, fun k hk => rfl⟩, ⟨_, _, _, h.2.2.1, Nat.le_refl _, fun k hk => rfl⟩, ⟨_, _, _, h.2.2.2.1, Nat.le_refl _, fun k hk => rfl⟩, ⟨_, _, _, h.2.2.2.2.1, Nat.le_refl _, fun k hk => rfl⟩, ⟨_, _, _, h.2.2.2.2.2.1, Nat.le_refl _, fun k hk => rfl⟩⟩
theorem Sat.cfgH {C : Ctx} {ρ : Nat → Pl} {fr : AF} {mem : AM} {nx : Nat} {a : Act} {w : World} (h : Sat C ρ fr mem nx a w) {N : CN} {x : CfgK} {c : Cfg} (hk : HasCfg mem N c) : CfgOk w (· < w.heap.size) (cfgX ρ N x) c :=
  ⟨h.hasRd (enc := intC) (sz := 1) (fun _ => rfl) (by omega) hk.rz, h.hasRd (enc := pairC) (sz := 2) (fun _ => rfl) (by omega) hk.rc, h.hasRd (enc := tenC) (sz := 7) (fun _ => rfl) (by omega) hk.rt, h.hasRd (enc := pairC) (sz := 2) (fun _ => rfl) (by omega) hk.rv, h.hasRd (enc := intC) (sz := 1) (fun _ => rfl) (by omega) hk.rr, h.hasRd (enc := intC) (sz := 1) (fun _ => rfl) (by omega) hk.ro⟩
theorem rd_callsL {τ : TT} (hτ : TTok Try.prog τ) {f : FuncId} {fn : Func} {F : FT} {D : List (Nat × DQ)} (hF : FTokI Try.prog F (inlOf D)) (hf : (Try.prog).funcs[f]? = some fn) (hb : fn.body = some (bodyOf fn)) (hcode : codeB fn.ntmps D (bodyOf fn) = true) {vs : List Value} (hn : Nat.ble vs.length fn.ntmps = true)
    (x : CfgA) (c : Cfg) (y : StA) (s : St) (w : World) (hc : CfgOk w (· < w.heap.size) x c) (hs : StOk w (· < w.heap.size) y s) (hv : ∀ v ∈ vs, okV (rpl x c y s noA noS) 10 v) {R : Value → AM → Nat → Prop}
    (h : sx τ F D (bodyOf fn) (argF 0 vs) (rdM c s noS) 10 (endx τ fn.results.toList R)) :
    Calls Try.prog f (vs.map (den (rpl x c y s noA noS))).toArray w fun e w' => ∃ v mem' nx' ρ', e = .returned (den ρ' v) ∧ R v mem' nx' ∧ okV ρ' nx' v ∧ MemAt { w0 := w, bor := [], n0 := 10, ρ0 := rpl x c y s noA noS, nt := fn.ntmps } ρ' mem' nx' w' ∧ Below w.heap.size w w' := by
  have hpc : CfgPl (rpl x c y s noA noS) CN1 x c := ⟨rfl, rfl, rfl, rfl, rfl, rfl⟩
  have hps : StPl (rpl x c y s noA noS) SN1 y s := ⟨rfl, rfl⟩
  have hps2 : StPl (rpl x c y s noA noS) SN2 noA noS := ⟨rfl, rfl⟩
  have hm : MemAt { w0 := w, bor := [], n0 := 10, ρ0 := rpl x c y s noA noS, nt := fn.ntmps } (rpl x c y s noA noS) (rdM c s noS) 10 w := MemAt.rows trivial (cfg_blks hpc hc (fun b hb => hb) (by decide) (st_blks hps hs (fun b hb => hb) (by decide) (by
    have := st_blks (C := { w0 := w, bor := [], n0 := 10, ρ0 := rpl x c y s noA noS, nt := fn.ntmps }) (nx := 10) (r := []) hps2 (noS_ok w _) (fun b hb => hb) (by decide) trivial
    exact this)))
  refine (calls_sxI hτ hF mixed hf hb hcode (vs := vs) hn ⟨rfl, rfl⟩ rfl hm hv h).mono ?_
  rintro e w' ⟨v, mem', nx', ρ', rfl, hR, hv', hm'⟩
  exact ⟨v, mem', nx', ρ', rfl, hR, hv', hm', ⟨hm'.rest.os, hm'.rest.tape, hm'.rest.output, hm'.rest.size, fun b hlt => hm'.rest.block b hlt (by simp)⟩⟩
/-- A callee hands back a list of numbers in a new row. -/
theorem Sat.intsL {C : Ctx} {ρ : Nat → Pl} {fr : AF} {mem : AM} {nx : Nat} {a : Act} {w w' : World} {K : Value → AM → Nat → Prop} (hs : Sat C ρ fr mem nx a w) (hb : Below w.heap.size w w') {A : Option Addr} {cp : Nat} {l : List Int} (hr : Rd w' (fun b => w.heap.size ≤ b ∧ b < w'.heap.size) A (flat intC l)) (hK : K (slc nx l.length cp) ((nx, rowOfL 500000 1 intC 0 l) :: mem) (nx + 1)) :
    ∃ v mem' nx' ρ', Ending.returned (.slice A l.length cp) = .returned (den ρ' v) ∧ K v mem' nx' ∧ Sat C ρ' fr mem' nx' a w' ∧ okV ρ' nx' v ∧ ExtS ρ nx ρ' nx' := by
  obtain ⟨q1, -⟩ := (hs.later hb).addList hs.frB hs.rest.size (enc := intC) (sz := 1) (fun _ => rfl) (by omega) intC_plain 0 (t := 500000) rfl hr
  have q2 : setPl ρ nx ⟨A, 1, l.length, false⟩ nx = ⟨A, 1, l.length, false⟩ := setPl_same _ _ _
  refine ⟨slc nx l.length cp, _, _, _, ?_, hK, q1, ?_, fun i hi => setPl_lt _ _ hi, by omega⟩
  · show Ending.returned (.slice A l.length cp) = .returned (.slice (setPl ρ nx ⟨A, 1, l.length, false⟩ nx).A l.length cp)
    rw [q2]
  · exact ⟨show nx < nx + 1 by omega, by rw [q2]⟩
theorem drop_getD {α : Type} {d : α} {l : List α} {i : Int} (h0 : 0 ≤ i) (h1 : i < l.length) : l.drop i.toNat = l.getD i.toNat d :: l.drop (i + 1).toNat := by
  rw [show (i + 1).toNat = i.toNat + 1 by omega, ← List.getElem_cons_drop (show i.toNat < l.length by omega)]
  congr 1
  rw [List.getD_eq_getElem?_getD, List.getElem?_eq_getElem (show i.toNat < l.length by omega)]
  rfl
def verWorks (h : Int) (v : Int × Int) : Bool := decide (v.1 ≤ h) && decide (h + 1 ≤ v.2)
def leastGo (h : Int) : Int → List (Int × Int) → Int
  | _, [] => -1
  | i, v :: r => if verWorks h v = true then i else leastGo h (i + 1) r
/-- The least version that works with a schema and the next one. -/
def leastC (c : Cfg) (h : Int) : Int := leastGo h 0 c.versions
def pathL (c : Cfg) (lo hi : Int) : List Int := if lo < 0 ∨ lo ≥ hi ∨ hi > 30 then [] else (List.range (hi - lo).toNat).map fun (k : Nat) => leastC c (lo + (k : Int))
def lsD : List (Nat × DQ) := [(2000002, { k := 0, L := [0, 1, 2, 3, 4, 5, 6, 7, 8, 9, 10], sl := [1, 8, 9] })]
set_option maxRecDepth 100000 in
set_option maxHeartbeats 4000000 in
theorem least_sx (x : CfgK) (c : Cfg) (h : Int) (hl : c.versions.length ≤ 1000) (hh : -1000 ≤ h ∧ h ≤ 1000) :
    sx tt [] lsD (bodyOf Try.f19) (argF 0 [cfgV CN1 x c, .int .i64 h]) (rdM c noS noS) 10 (endx tt Try.f19.results.toList fun v _ _ => v = .int .i64 (leastC c h) ∧ pureV v) := by
  refine ⟨Int, fun i => [(10, .int .i64 i)], fun _ => [], fun i => (0 ≤ i ∧ i ≤ c.versions.length) ∧ leastGo h i (c.versions.drop i.toNat) = leastC c h, fun i => ((c.versions.length : Int) - i).toNat, ⟨0, ⟨by omega, rfl⟩, (by repeat (first | exact trivial | refine ⟨rfl, ?_⟩)), (by repeat (first | exact trivial | refine ⟨rfl, ?_⟩))⟩, ?_⟩
  rintro i ⟨hi, hg⟩
  refine ⟨⟨rfl, rfl⟩, ?_⟩
  refine ⟨fun hlt => ?_, fun hge => ?_⟩
  · have hlt2 : i < (c.versions.length : Int) := of_decide_eq_true hlt
    have hd := drop_getD (d := (0, 0)) (l := c.versions) hi.1 hlt2
    refine ⟨⟨Nat.le_refl _, hi.1, hlt2⟩, ?_⟩
    refine ⟨fun q1 => ?_, fun q1 => ?_⟩
    · replace q1 : (c.versions.getD i.toNat (0, 0)).1 ≤ h := of_decide_eq_true q1
      refine ⟨fun q2 => ?_, fun q2 => ?_⟩
      · have q2 : (c.versions.getD i.toNat (0, 0)).2 ≥ IntKind.i64.wrap (h + 1) := of_decide_eq_true q2
        rw [wrapi (n := h + 1) (by omega)] at q2
        have hw : verWorks h (c.versions.getD i.toNat (0, 0)) = true := Bool.and_eq_true_iff.2 ⟨decide_eq_true q1, decide_eq_true (by omega)⟩
        rw [hd, leastGo, if_pos hw] at hg
        rw [← hg]
        exact ⟨rfl, trivial⟩
      · have q2 : ¬ (c.versions.getD i.toNat (0, 0)).2 ≥ IntKind.i64.wrap (h + 1) := of_decide_eq_false q2
        rw [wrapi (n := h + 1) (by omega)] at q2
        have hw : ¬ verWorks h (c.versions.getD i.toNat (0, 0)) = true := fun q => by have := of_decide_eq_true (Bool.and_eq_true_iff.1 q).2; omega
        refine ⟨_, ?_, (by repeat (first | exact trivial | refine ⟨rfl, ?_⟩)), (by repeat (first | exact trivial | refine ⟨rfl, ?_⟩))⟩
        rw [wrapi (n := i + 1) (by omega)]
        dsimp only
        refine ⟨⟨by omega, ?_⟩, by omega⟩
        rw [hd, leastGo, if_neg hw] at hg
        exact hg
    · replace q1 : ¬ (c.versions.getD i.toNat (0, 0)).1 ≤ h := of_decide_eq_false q1
      have hw : ¬ verWorks h (c.versions.getD i.toNat (0, 0)) = true := fun q => by have := of_decide_eq_true (Bool.and_eq_true_iff.1 q).1; omega
      refine ⟨fun q => Bool.noConfusion q, fun _ => ?_⟩
      refine ⟨_, ?_, (by repeat (first | exact trivial | refine ⟨rfl, ?_⟩)), (by repeat (first | exact trivial | refine ⟨rfl, ?_⟩))⟩
      rw [wrapi (n := i + 1) (by omega)]
      dsimp only
      refine ⟨⟨by omega, ?_⟩, by omega⟩
      rw [hd, leastGo, if_neg hw] at hg
      exact hg
  · have hge2 : ¬ i < (c.versions.length : Int) := of_decide_eq_false hge
    obtain rfl : i = c.versions.length := by omega
    rw [Int.toNat_natCast, List.drop_length] at hg
    rw [← hg]
    exact ⟨rfl, trivial⟩
theorem least_any (x : CfgA) (c : Cfg) (h : Int) (w : World) (hc : CfgOk w (· < w.heap.size) x c) (hl : c.versions.length ≤ 1000) (hh : -1000 ≤ h ∧ h ≤ 1000) :
    Calls Try.prog 19 #[.agg (cfgC x c), .int .i64 h] w fun e w' => e = .returned (.int .i64 (leastC c h)) ∧ Below w.heap.size w w' := by
  have := rd_calls ft_nil Try.func19 rfl (D := lsD) (by kernel_rfl) (vs := [cfgV CN1 (ck x) c, .int .i64 h]) rfl x c noA noS noA noS w hc (noS_ok w _) (noS_ok w _) (fun v hv => by
    simp only [List.mem_cons, List.not_mem_nil, or_false] at hv
    rcases hv with rfl | rfl
    · exact rpl_cfg_ok x c noA noS noA noS
    · trivial) (R := fun v => v = .int .i64 (leastC c h)) (least_sx (ck x) c h hl hh)
  rw [List.map_cons, rpl_cfg] at this
  refine this.mono ?_
  rintro e w' ⟨v, rfl, -, rfl, hb⟩
  exact ⟨rfl, hb⟩
def ctLeast : CT := fun vs mem nx K => ∃ N x c h, vs = [cfgV N x c, .int .i64 h] ∧ HasCfg mem N c ∧ (c.versions.length ≤ 1000 ∧ -1000 ≤ h ∧ h ≤ 1000) ∧ K (.int .i64 (leastC c h)) mem nx
theorem leastOk : CSound Try.prog 19 ctLeast := ⟨by kernel_rfl, fun {C ρ fr mem nx a w vs K} hc hs hv => by
  obtain ⟨N, x, c, h, rfl, hk, ⟨hl, hh⟩, hK⟩ := hc
  rw [List.map_cons, den_cfg]
  refine (least_any (cfgX ρ N x) c h w (hs.cfgH hk) hl hh).mono ?_
  rintro e w' ⟨rfl, hb⟩
  exact ⟨_, mem, nx, ρ, rfl, hK, hs.later hb, trivial, ExtS.refl _ _⟩⟩
theorem pathL_len (c : Cfg) {lo hi : Int} (q1 : ¬ lo < 0) (q2 : ¬ lo ≥ hi) (q3 : ¬ hi > 30) : (pathL c lo hi).length = (hi - lo).toNat := by
  unfold pathL
  rw [if_neg (by omega), List.length_map, List.length_range]
theorem pathL_get (c : Cfg) {lo hi : Int} (q1 : ¬ lo < 0) (q2 : ¬ lo ≥ hi) (q3 : ¬ hi > 30) : ∀ j : Nat, j < (hi - lo).toNat → (pathL c lo hi).getD j 0 = leastC c (lo + (j : Int)) := by
  intro j hj
  unfold pathL
  rw [if_neg (by omega), List.getD_eq_getElem?_getD, List.getElem?_map, List.getElem?_range hj]
  rfl
def ptF : FT := [(19, ctLeast)]
theorem ptFok : FTok Try.prog ptF := ft_cons leastOk ft_nil
def ptD : List (Nat × DQ) := [(3000005, { k := 12, L := [0, 1, 2, 3, 4, 5, 6, 7, 8, 9, 10], sl := [1, 2, 3] }), (2000009, { k := 0, L := [0, 1, 2, 3, 4, 5, 6, 7, 8, 9, 10, 11], sl := [1, 2, 3, 7, 8] })]
set_option maxRecDepth 100000 in
set_option maxHeartbeats 4000000 in
theorem pathP_sx (x : CfgK) (c : Cfg) (lo hi : Int) (hl : c.versions.length ≤ 1000) :
    sx tt ptF ptD (bodyOf Try.f8) (argF 0 [cfgV CN1 x c, .int .i64 lo, .int .i64 hi]) (rdM c noS noS) 10 (endx tt Try.f8.results.toList fun v mem' _ => SlR mem' 1 intC 0 (pathL c lo hi) v) := by
  refine ⟨fun q1 => ?_, fun q1 => ?_⟩
  · replace q1 : lo < 0 := of_decide_eq_true q1
    repeat (first | refine ⟨fun _ => ?_, fun h => Bool.noConfusion h⟩ | refine ⟨fun h => Bool.noConfusion h, fun _ => ?_⟩ | fail)
    exact .inl ⟨rfl, if_pos (by omega)⟩
  · replace q1 : ¬ lo < 0 := of_decide_eq_false q1
    refine ⟨fun q2 => ?_, fun q2 => ?_⟩
    · replace q2 : lo ≥ hi := of_decide_eq_true q2
      repeat (first | refine ⟨fun _ => ?_, fun h => Bool.noConfusion h⟩ | refine ⟨fun h => Bool.noConfusion h, fun _ => ?_⟩ | fail)
      exact .inl ⟨rfl, if_pos (by omega)⟩
    · replace q2 : ¬ lo ≥ hi := of_decide_eq_false q2
      refine ⟨fun q3 => ?_, fun q3 => ?_⟩
      · replace q3 : hi > 30 := of_decide_eq_true q3
        exact .inl ⟨rfl, if_pos (by omega)⟩
      · replace q3 : ¬ hi > 30 := of_decide_eq_false q3
        repeat (first | refine ⟨fun _ => ?_, fun h => Bool.noConfusion h⟩ | refine ⟨fun h => Bool.noConfusion h, fun _ => ?_⟩ | fail)
        have hlen := pathL_len c (lo := lo) (hi := hi) q1 q2 q3
        have hget := pathL_get c (lo := lo) (hi := hi) q1 q2 q3
        refine ⟨Nat × Option (Nat × (Nat → List Value)), fun q => match q with | (k, none) => [(8, .int .i64 (lo + k)), (7, zs0)] | (k, some (cap, el)) => [(8, .int .i64 (lo + k)), (7, slc 11 k cap)], fun q => match q with | (k, none) => [] | (k, some (cap, el)) => [(11, .row (1000000 + 3) 1 cap el)], fun q => match q with | (k, o) => k ≤ (hi - lo).toNat ∧ match o with | none => k = 0 | some (cap, el) => k ≤ cap ∧ ∀ j, j < k → el j = intC (leastC c (lo + ((j : Nat) : Int))), fun q => match q with | (k, o) => (hi - lo).toNat - k, ⟨(0, none), [], ⟨by omega, rfl⟩, ⟨rfl, rfl⟩, (by refine ⟨?_, ?_, ?_⟩; (show some (Value.int .i64 lo) = some (Value.int .i64 (lo + ((0 : Nat) : Int))); rw [show lo + ((0 : Nat) : Int) = lo by omega]); (exact rfl); repeat (first | exact trivial | refine ⟨rfl, ?_⟩)), (by repeat (first | exact trivial | refine ⟨rfl, ?_⟩))⟩, ?_⟩
        rintro ⟨k, (_ | ⟨cap, el⟩)⟩ ⟨hk, ho⟩
        · refine ⟨⟨by decide, rfl, rfl⟩, ?_⟩
          refine ⟨fun hlt1 => ?_, fun hge => ?_⟩
          · have hlt2 : lo + (k : Int) < hi := of_decide_eq_true hlt1
            refine ⟨CN1, x, c, lo + (k : Int), rfl, HasCfg.keeps (by repeat (first | exact trivial | refine ⟨rfl, ?_⟩)), ⟨hl, by omega, by omega⟩, ?_⟩
            refine ⟨⟨Nat.le_refl _, fun j hj => by match j, hj with | 0, _ => rfl⟩, ?_⟩
            refine ⟨fun h => absurd h (by decide), fun _ => ⟨by decide, fun cap2 el2 hc2 hel2 => ?_⟩⟩
            obtain rfl : k = 0 := ho
            refine ⟨(0 + 1, some (cap2, el2)), [(11, 13)], ?_, ⟨rfl, rfl⟩, (by refine ⟨?_, ?_, ?_⟩; (show some (Value.int .i64 (IntKind.i64.wrap (lo + ((0 : Nat) : Int) + 1))) = some (Value.int .i64 (lo + ((0 + 1 : Nat) : Int))); rw [wrapi (by omega)]; rw [show lo + ((0 + 1 : Nat) : Int) = lo + ((0 : Nat) : Int) + 1 by omega]); (exact rfl); repeat (first | exact trivial | refine ⟨rfl, ?_⟩)), (by repeat (first | exact trivial | refine ⟨rfl, ?_⟩))⟩
            dsimp only
            refine ⟨⟨by omega, by omega, fun j hj => ?_⟩, by omega⟩
            obtain rfl : j = 0 := by omega
            exact hel2 0 (by omega)
          · have hge2 : ¬ lo + (k : Int) < hi := of_decide_eq_false hge
            obtain rfl : k = (hi - lo).toNat := by omega
            omega
        · refine ⟨⟨by decide, rfl, rfl⟩, ?_⟩
          refine ⟨fun hlt1 => ?_, fun hge => ?_⟩
          · have hlt2 : lo + (k : Int) < hi := of_decide_eq_true hlt1
            refine ⟨CN1, x, c, lo + (k : Int), rfl, HasCfg.keeps (by repeat (first | exact trivial | refine ⟨rfl, ?_⟩)), ⟨hl, by omega, by omega⟩, ?_⟩
            refine ⟨⟨Nat.le_refl _, fun j hj => by match j, hj with | 0, _ => rfl⟩, ?_⟩
            refine ⟨⟨rfl, ho.1⟩, fun hin el2 g1 g2 => ?_, fun hgt => ⟨by show (k + 1) * 8 ≤ 140737488355328; omega, fun cap2 el2 hc2 g1 g2 => ?_⟩⟩
            · refine ⟨(k + 1, some (cap, el2)), [], ?_, ⟨rfl, rfl⟩, (by refine ⟨?_, ?_, ?_⟩; (show some (Value.int .i64 (IntKind.i64.wrap (lo + ((k : Nat) : Int) + 1))) = some (Value.int .i64 (lo + ((k + 1 : Nat) : Int))); rw [wrapi (by omega)]; rw [show lo + ((k + 1 : Nat) : Int) = lo + ((k : Nat) : Int) + 1 by omega]); (exact rfl); repeat (first | exact trivial | refine ⟨rfl, ?_⟩)), (by repeat (first | exact trivial | refine ⟨rfl, ?_⟩))⟩
              dsimp only
              refine ⟨⟨by omega, by omega, fun j hj => ?_⟩, by omega⟩
              by_cases hjk : j < k
              · exact (g1 j hjk).trans (ho.2 j hjk)
              · obtain rfl : j = k := by omega
                exact g2 0 (by omega)
            · refine ⟨(k + 1, some (cap2, el2)), [(11, 13)], ?_, ⟨rfl, rfl⟩, (by refine ⟨?_, ?_, ?_⟩; (show some (Value.int .i64 (IntKind.i64.wrap (lo + ((k : Nat) : Int) + 1))) = some (Value.int .i64 (lo + ((k + 1 : Nat) : Int))); rw [wrapi (by omega)]; rw [show lo + ((k + 1 : Nat) : Int) = lo + ((k : Nat) : Int) + 1 by omega]); (exact rfl); repeat (first | exact trivial | refine ⟨rfl, ?_⟩)), (by repeat (first | exact trivial | refine ⟨rfl, ?_⟩))⟩
              dsimp only
              refine ⟨⟨by omega, by omega, fun j hj => ?_⟩, by omega⟩
              by_cases hjk : j < k
              · exact (g1 j hjk).trans (ho.2 j hjk)
              · obtain rfl : j = k := by omega
                exact g2 0 (by omega)
          · have hge2 : ¬ lo + (k : Int) < hi := of_decide_eq_false hge
            obtain rfl : k = (hi - lo).toNat := by omega
            exact .inr ⟨11, cap, _, cap, el, by rw [hlen], rfl, rfl, by rw [hlen]; exact ho.1, fun j hj => by rw [hlen] at hj; rw [ho.2 j hj, hget j hj]⟩
set_option maxRecDepth 100000 in
set_option maxHeartbeats 4000000 in
theorem pathR_sx (x : CfgK) (c : Cfg) (lo hi : Int) (hl : c.versions.length ≤ 1000) :
    sx tt [] ptD (bodyOf Try.f9) (argF 0 [cfgV CN1 x c, .int .i64 lo, .int .i64 hi]) (rdM c noS noS) 10 (endx tt Try.f9.results.toList fun v mem' _ => SlR mem' 1 intC 0 (pathL c lo hi) v) := by
  refine ⟨fun q1 => ?_, fun q1 => ?_⟩
  · replace q1 : lo < 0 := of_decide_eq_true q1
    repeat (first | refine ⟨fun _ => ?_, fun h => Bool.noConfusion h⟩ | refine ⟨fun h => Bool.noConfusion h, fun _ => ?_⟩ | fail)
    exact .inl ⟨rfl, if_pos (by omega)⟩
  · replace q1 : ¬ lo < 0 := of_decide_eq_false q1
    refine ⟨fun q2 => ?_, fun q2 => ?_⟩
    · replace q2 : lo ≥ hi := of_decide_eq_true q2
      repeat (first | refine ⟨fun _ => ?_, fun h => Bool.noConfusion h⟩ | refine ⟨fun h => Bool.noConfusion h, fun _ => ?_⟩ | fail)
      exact .inl ⟨rfl, if_pos (by omega)⟩
    · replace q2 : ¬ lo ≥ hi := of_decide_eq_false q2
      refine ⟨fun q3 => ?_, fun q3 => ?_⟩
      · replace q3 : hi > 30 := of_decide_eq_true q3
        exact .inl ⟨rfl, if_pos (by omega)⟩
      · replace q3 : ¬ hi > 30 := of_decide_eq_false q3
        repeat (first | refine ⟨fun _ => ?_, fun h => Bool.noConfusion h⟩ | refine ⟨fun h => Bool.noConfusion h, fun _ => ?_⟩ | fail)
        have hlen := pathL_len c (lo := lo) (hi := hi) q1 q2 q3
        have hget := pathL_get c (lo := lo) (hi := hi) q1 q2 q3
        refine ⟨Nat × Option (Nat × (Nat → List Value)), fun q => match q with | (k, none) => [(8, .int .i64 (lo + k)), (7, zs0)] | (k, some (cap, el)) => [(8, .int .i64 (lo + k)), (7, slc 11 k cap)], fun q => match q with | (k, none) => [] | (k, some (cap, el)) => [(11, .row (1000000 + 3) 1 cap el)], fun q => match q with | (k, o) => k ≤ (hi - lo).toNat ∧ match o with | none => k = 0 | some (cap, el) => k ≤ cap ∧ ∀ j, j < k → el j = intC (leastC c (lo + ((j : Nat) : Int))), fun q => match q with | (k, o) => (hi - lo).toNat - k, ⟨(0, none), [], ⟨by omega, rfl⟩, ⟨rfl, rfl⟩, (by refine ⟨?_, ?_, ?_⟩; (show some (Value.int .i64 lo) = some (Value.int .i64 (lo + ((0 : Nat) : Int))); rw [show lo + ((0 : Nat) : Int) = lo by omega]); (exact rfl); repeat (first | exact trivial | refine ⟨rfl, ?_⟩)), (by repeat (first | exact trivial | refine ⟨rfl, ?_⟩))⟩, ?_⟩
        rintro ⟨k, (_ | ⟨cap, el⟩)⟩ ⟨hk, ho⟩
        · refine ⟨⟨by decide, rfl, rfl⟩, ?_⟩
          refine ⟨fun hlt1 => ?_, fun hge => ?_⟩
          · have hlt2 : lo + (k : Int) < hi := of_decide_eq_true hlt1
            refine ⟨Int × Int, fun q => match q with | (v, b) => [(10, .int .i64 v), (9, .int .i64 b)], fun _ => [], fun q => match q with | (v, b) => (-1 ≤ v ∧ v < c.versions.length) ∧ b = leastGo (lo + (k : Int)) (v + 1) (c.versions.drop (v + 1).toNat), fun q => match q with | (v, b) => (v + 1).toNat, ⟨((c.versions.length : Int) - 1, -1), ⟨by omega, ?_⟩, (by refine ⟨?_, ?_⟩; (show some (Value.int .i64 (IntKind.i64.wrap ((c.versions.length : Int) - 1))) = _; rw [wrapi (by omega)]); repeat (first | exact trivial | refine ⟨rfl, ?_⟩)), (by repeat (first | exact trivial | refine ⟨rfl, ?_⟩))⟩, ?_⟩
            · rw [show ((c.versions.length : Int) - 1 + 1).toNat = c.versions.length by omega, List.drop_length]
              rfl
            rintro ⟨v, b⟩ ⟨hv, hb⟩
            refine ⟨⟨rfl, rfl⟩, ?_⟩
            refine ⟨fun hv0 => ?_, fun hv0 => ?_⟩
            · have hv1 : 0 ≤ v := of_decide_eq_true hv0
              have hd := drop_getD (d := (0, 0)) (l := c.versions) hv1 hv.2
              refine ⟨⟨Nat.le_refl _, hv1, hv.2⟩, ?_⟩
              refine ⟨fun p1 => ?_, fun p1 => ?_⟩
              · replace p1 : (c.versions.getD v.toNat (0, 0)).1 ≤ (lo + (k : Int)) := of_decide_eq_true p1
                refine ⟨⟨Nat.le_refl _, hv1, hv.2⟩, ?_⟩
                refine ⟨fun p2 => ?_, fun p2 => ?_⟩
                · have p2 : (c.versions.getD v.toNat (0, 0)).2 ≥ IntKind.i64.wrap ((lo + (k : Int)) + 1) := of_decide_eq_true p2
                  rw [wrapi (n := (lo + (k : Int)) + 1) (by omega)] at p2
                  have hw : verWorks (lo + (k : Int)) (c.versions.getD v.toNat (0, 0)) = true := Bool.and_eq_true_iff.2 ⟨decide_eq_true p1, decide_eq_true (by omega)⟩
                  refine ⟨(_, v), ?_, (by repeat (first | exact trivial | refine ⟨rfl, ?_⟩)), (by repeat (first | exact trivial | refine ⟨rfl, ?_⟩))⟩
                  dsimp only
                  rw [wrapi (n := v - 1) (by omega)]
                  refine ⟨⟨by omega, ?_⟩, by omega⟩
                  rw [show v - 1 + 1 = v by omega, hd, leastGo, if_pos hw]
                · have p2 : ¬ (c.versions.getD v.toNat (0, 0)).2 ≥ IntKind.i64.wrap ((lo + (k : Int)) + 1) := of_decide_eq_false p2
                  rw [wrapi (n := (lo + (k : Int)) + 1) (by omega)] at p2
                  have hw : ¬ verWorks (lo + (k : Int)) (c.versions.getD v.toNat (0, 0)) = true := fun q => by have := of_decide_eq_true (Bool.and_eq_true_iff.1 q).2; omega
                  refine ⟨(_, b), ?_, (by repeat (first | exact trivial | refine ⟨rfl, ?_⟩)), (by repeat (first | exact trivial | refine ⟨rfl, ?_⟩))⟩
                  dsimp only
                  rw [wrapi (n := v - 1) (by omega)]
                  refine ⟨⟨by omega, ?_⟩, by omega⟩
                  rw [show v - 1 + 1 = v by omega, hd, leastGo, if_neg hw]
                  exact hb
              · replace p1 : ¬ (c.versions.getD v.toNat (0, 0)).1 ≤ (lo + (k : Int)) := of_decide_eq_false p1
                have hw : ¬ verWorks (lo + (k : Int)) (c.versions.getD v.toNat (0, 0)) = true := fun q => by have := of_decide_eq_true (Bool.and_eq_true_iff.1 q).1; omega
                refine ⟨fun q => Bool.noConfusion q, fun _ => ?_⟩
                refine ⟨(_, b), ?_, (by repeat (first | exact trivial | refine ⟨rfl, ?_⟩)), (by repeat (first | exact trivial | refine ⟨rfl, ?_⟩))⟩
                dsimp only
                rw [wrapi (n := v - 1) (by omega)]
                refine ⟨⟨by omega, ?_⟩, by omega⟩
                rw [show v - 1 + 1 = v by omega, hd, leastGo, if_neg hw]
                exact hb
            · have hv2 : ¬ 0 ≤ v := of_decide_eq_false hv0
              obtain rfl : v = -1 := by omega
              obtain rfl : b = leastC c (lo + (k : Int)) := hb
              refine ⟨⟨Nat.le_refl _, fun j hj => by match j, hj with | 0, _ => rfl⟩, ?_⟩
              refine ⟨fun h => absurd h (by decide), fun _ => ⟨by decide, fun cap2 el2 hc2 hel2 => ?_⟩⟩
              obtain rfl : k = 0 := ho
              refine ⟨(0 + 1, some (cap2, el2)), [(11, 13)], ?_, ⟨rfl, rfl⟩, (by refine ⟨?_, ?_, ?_⟩; (show some (Value.int .i64 (IntKind.i64.wrap (lo + ((0 : Nat) : Int) + 1))) = some (Value.int .i64 (lo + ((0 + 1 : Nat) : Int))); rw [wrapi (by omega)]; rw [show lo + ((0 + 1 : Nat) : Int) = lo + ((0 : Nat) : Int) + 1 by omega]); (exact rfl); repeat (first | exact trivial | refine ⟨rfl, ?_⟩)), (by repeat (first | exact trivial | refine ⟨rfl, ?_⟩))⟩
              dsimp only
              refine ⟨⟨by omega, by omega, fun j hj => ?_⟩, by omega⟩
              obtain rfl : j = 0 := by omega
              exact hel2 0 (by omega)
          · have hge2 : ¬ lo + (k : Int) < hi := of_decide_eq_false hge
            obtain rfl : k = (hi - lo).toNat := by omega
            omega
        · refine ⟨⟨by decide, rfl, rfl⟩, ?_⟩
          refine ⟨fun hlt1 => ?_, fun hge => ?_⟩
          · have hlt2 : lo + (k : Int) < hi := of_decide_eq_true hlt1
            refine ⟨Int × Int, fun q => match q with | (v, b) => [(10, .int .i64 v), (9, .int .i64 b)], fun _ => [], fun q => match q with | (v, b) => (-1 ≤ v ∧ v < c.versions.length) ∧ b = leastGo (lo + (k : Int)) (v + 1) (c.versions.drop (v + 1).toNat), fun q => match q with | (v, b) => (v + 1).toNat, ⟨((c.versions.length : Int) - 1, -1), ⟨by omega, ?_⟩, (by refine ⟨?_, ?_⟩; (show some (Value.int .i64 (IntKind.i64.wrap ((c.versions.length : Int) - 1))) = _; rw [wrapi (by omega)]); repeat (first | exact trivial | refine ⟨rfl, ?_⟩)), (by repeat (first | exact trivial | refine ⟨rfl, ?_⟩))⟩, ?_⟩
            · rw [show ((c.versions.length : Int) - 1 + 1).toNat = c.versions.length by omega, List.drop_length]
              rfl
            rintro ⟨v, b⟩ ⟨hv, hb⟩
            refine ⟨⟨rfl, rfl⟩, ?_⟩
            refine ⟨fun hv0 => ?_, fun hv0 => ?_⟩
            · have hv1 : 0 ≤ v := of_decide_eq_true hv0
              have hd := drop_getD (d := (0, 0)) (l := c.versions) hv1 hv.2
              refine ⟨⟨Nat.le_refl _, hv1, hv.2⟩, ?_⟩
              refine ⟨fun p1 => ?_, fun p1 => ?_⟩
              · replace p1 : (c.versions.getD v.toNat (0, 0)).1 ≤ (lo + (k : Int)) := of_decide_eq_true p1
                refine ⟨⟨Nat.le_refl _, hv1, hv.2⟩, ?_⟩
                refine ⟨fun p2 => ?_, fun p2 => ?_⟩
                · have p2 : (c.versions.getD v.toNat (0, 0)).2 ≥ IntKind.i64.wrap ((lo + (k : Int)) + 1) := of_decide_eq_true p2
                  rw [wrapi (n := (lo + (k : Int)) + 1) (by omega)] at p2
                  have hw : verWorks (lo + (k : Int)) (c.versions.getD v.toNat (0, 0)) = true := Bool.and_eq_true_iff.2 ⟨decide_eq_true p1, decide_eq_true (by omega)⟩
                  refine ⟨(_, v), ?_, (by repeat (first | exact trivial | refine ⟨rfl, ?_⟩)), (by repeat (first | exact trivial | refine ⟨rfl, ?_⟩))⟩
                  dsimp only
                  rw [wrapi (n := v - 1) (by omega)]
                  refine ⟨⟨by omega, ?_⟩, by omega⟩
                  rw [show v - 1 + 1 = v by omega, hd, leastGo, if_pos hw]
                · have p2 : ¬ (c.versions.getD v.toNat (0, 0)).2 ≥ IntKind.i64.wrap ((lo + (k : Int)) + 1) := of_decide_eq_false p2
                  rw [wrapi (n := (lo + (k : Int)) + 1) (by omega)] at p2
                  have hw : ¬ verWorks (lo + (k : Int)) (c.versions.getD v.toNat (0, 0)) = true := fun q => by have := of_decide_eq_true (Bool.and_eq_true_iff.1 q).2; omega
                  refine ⟨(_, b), ?_, (by repeat (first | exact trivial | refine ⟨rfl, ?_⟩)), (by repeat (first | exact trivial | refine ⟨rfl, ?_⟩))⟩
                  dsimp only
                  rw [wrapi (n := v - 1) (by omega)]
                  refine ⟨⟨by omega, ?_⟩, by omega⟩
                  rw [show v - 1 + 1 = v by omega, hd, leastGo, if_neg hw]
                  exact hb
              · replace p1 : ¬ (c.versions.getD v.toNat (0, 0)).1 ≤ (lo + (k : Int)) := of_decide_eq_false p1
                have hw : ¬ verWorks (lo + (k : Int)) (c.versions.getD v.toNat (0, 0)) = true := fun q => by have := of_decide_eq_true (Bool.and_eq_true_iff.1 q).1; omega
                refine ⟨fun q => Bool.noConfusion q, fun _ => ?_⟩
                refine ⟨(_, b), ?_, (by repeat (first | exact trivial | refine ⟨rfl, ?_⟩)), (by repeat (first | exact trivial | refine ⟨rfl, ?_⟩))⟩
                dsimp only
                rw [wrapi (n := v - 1) (by omega)]
                refine ⟨⟨by omega, ?_⟩, by omega⟩
                rw [show v - 1 + 1 = v by omega, hd, leastGo, if_neg hw]
                exact hb
            · have hv2 : ¬ 0 ≤ v := of_decide_eq_false hv0
              obtain rfl : v = -1 := by omega
              obtain rfl : b = leastC c (lo + (k : Int)) := hb
              refine ⟨⟨Nat.le_refl _, fun j hj => by match j, hj with | 0, _ => rfl⟩, ?_⟩
              refine ⟨⟨rfl, ho.1⟩, fun hin el2 g1 g2 => ?_, fun hgt => ⟨by show (k + 1) * 8 ≤ 140737488355328; omega, fun cap2 el2 hc2 g1 g2 => ?_⟩⟩
              · refine ⟨(k + 1, some (cap, el2)), [], ?_, ⟨rfl, rfl⟩, (by refine ⟨?_, ?_, ?_⟩; (show some (Value.int .i64 (IntKind.i64.wrap (lo + ((k : Nat) : Int) + 1))) = some (Value.int .i64 (lo + ((k + 1 : Nat) : Int))); rw [wrapi (by omega)]; rw [show lo + ((k + 1 : Nat) : Int) = lo + ((k : Nat) : Int) + 1 by omega]); (exact rfl); repeat (first | exact trivial | refine ⟨rfl, ?_⟩)), (by repeat (first | exact trivial | refine ⟨rfl, ?_⟩))⟩
                dsimp only
                refine ⟨⟨by omega, by omega, fun j hj => ?_⟩, by omega⟩
                by_cases hjk : j < k
                · exact (g1 j hjk).trans (ho.2 j hjk)
                · obtain rfl : j = k := by omega
                  exact g2 0 (by omega)
              · refine ⟨(k + 1, some (cap2, el2)), [(11, 13)], ?_, ⟨rfl, rfl⟩, (by refine ⟨?_, ?_, ?_⟩; (show some (Value.int .i64 (IntKind.i64.wrap (lo + ((k : Nat) : Int) + 1))) = some (Value.int .i64 (lo + ((k + 1 : Nat) : Int))); rw [wrapi (by omega)]; rw [show lo + ((k + 1 : Nat) : Int) = lo + ((k : Nat) : Int) + 1 by omega]); (exact rfl); repeat (first | exact trivial | refine ⟨rfl, ?_⟩)), (by repeat (first | exact trivial | refine ⟨rfl, ?_⟩))⟩
                dsimp only
                refine ⟨⟨by omega, by omega, fun j hj => ?_⟩, by omega⟩
                by_cases hjk : j < k
                · exact (g1 j hjk).trans (ho.2 j hjk)
                · obtain rfl : j = k := by omega
                  exact g2 0 (by omega)
          · have hge2 : ¬ lo + (k : Int) < hi := of_decide_eq_false hge
            obtain rfl : k = (hi - lo).toNat := by omega
            exact .inr ⟨11, cap, _, cap, el, by rw [hlen], rfl, rfl, by rw [hlen]; exact ho.1, fun j hj => by rw [hlen] at hj; rw [ho.2 j hj, hget j hj]⟩
end Go.Proofs.Ytnnpgbleacapfaa

namespace Go.Proofs.Ytnnpgbleacapfaa
open Go.RowKit
set_option linter.unusedSimpArgs false
set_option linter.unusedVariables false
/-! What holds of every reached state. No program in sight. -/

structure TsInv (c : Cfg) (t : TS) : Prop where
  home : -1 ≤ t.home ∧ t.home < c.cells.length
  standby : -1 ≤ t.standby ∧ t.standby < c.cells.length
  next : -1 ≤ t.next ∧ t.next < c.cells.length
  target : -1 ≤ t.target ∧ t.target < c.cells.length
  epoch : 0 ≤ t.epoch ∧ t.epoch ≤ 1048576
  wcell : -1 ≤ t.win.cell ∧ t.win.cell < c.cells.length
  wepoch : 0 ≤ t.win.epoch ∧ t.win.epoch ≤ 1048576
  wver : 0 ≤ t.win.version ∧ t.win.version < c.versions.length
  wsince : 0 ≤ t.win.since ∧ t.win.since ≤ 1073741824
  wtill : 0 ≤ t.win.till ∧ t.win.till ≤ 1073741824
  placed : t.placed = true → 0 ≤ t.home
  shed : t.shed = true → t.placed = true
structure CsInv (c : Cfg) (lo hi : Int) (x : CS) : Prop where
  mode : 1 ≤ x.mode ∧ x.mode ≤ 3
  running : 0 ≤ x.running ∧ x.running < c.versions.length
  wanted : 0 ≤ x.wanted ∧ x.wanted < c.versions.length
  since : 0 ≤ x.since ∧ x.since ≤ 1073741824
  runs : (verAt c x.running).1 ≤ lo ∧ hi ≤ (verAt c x.running).2
  wants : (verAt c x.wanted).1 ≤ lo ∧ hi ≤ (verAt c x.wanted).2
structure StInv (c : Cfg) (s : St) : Prop where
  lt : s.tenants.length = c.tenants.length
  lc : s.cells.length = c.cells.length
  tick : 0 ≤ s.tick ∧ s.tick ≤ 1073741824
  count : 0 ≤ s.count ∧ s.count ≤ 4096
  proven : 0 ≤ s.proven ∧ s.proven < 1073741824
  evac : 0 ≤ s.evac ∧ s.evac < 16
  low : 0 ≤ s.low ∧ s.low ≤ s.high ∧ s.high ≤ s.low + 1 ∧ s.high ≤ 30
  ten : ∀ t ∈ s.tenants, TsInv c t
  cel : ∀ x ∈ s.cells, CsInv c s.low s.high x

theorem verAt_zero {c : Cfg} (hV : CfgV c) : (verAt c 0).1 = 0 ∧ 0 ≤ (verAt c 0).2 := by
  have h := hV.nv
  have h0 : c.versions[0]? = some c.versions[0] := List.getElem?_eq_getElem (by omega)
  have h1 := hV.ver 0 _ h0
  unfold verAt
  rw [show (0 : Int).toNat = 0 from rfl, getD_some h0]
  simp [verOk] at h1
  omega
theorem stNew_inv {c : Cfg} (hV : CfgV c) : StInv c (stNew c) := by
  have h := hV.nv
  have hz := verAt_zero hV
  refine ⟨by simp [stNew], by simp [stNew], by simp [stNew], by simp [stNew], by simp [stNew], by simp [stNew], by simp [stNew], fun t ht => ?_, fun x hx => ?_⟩
  · obtain rfl := List.eq_of_mem_replicate (show t ∈ List.replicate c.tenants.length tsNew from ht)
    constructor <;> simp [tsNew] <;> omega
  · obtain rfl := List.eq_of_mem_replicate (show x ∈ List.replicate c.cells.length csNew from hx)
    constructor <;> simp [csNew, stNew] <;> omega

theorem tsAt_mem {s : St} {i : Int} (h0 : 0 ≤ i) (h1 : i < s.tenants.length) : s.tenants[i.toNat]? = some (tsAt s i) ∧ tsAt s i ∈ s.tenants := by
  have h : i.toNat < s.tenants.length := by omega
  have e := List.getElem?_eq_getElem h
  have : tsAt s i = s.tenants[i.toNat] := getD_some e
  rw [this]
  exact ⟨e, List.getElem_mem h⟩
theorem csAt_mem {s : St} {i : Int} (h0 : 0 ≤ i) (h1 : i < s.cells.length) : s.cells[i.toNat]? = some (csAt s i) ∧ csAt s i ∈ s.cells := by
  have h : i.toNat < s.cells.length := by omega
  have e := List.getElem?_eq_getElem h
  have : csAt s i = s.cells[i.toNat] := getD_some e
  rw [this]
  exact ⟨e, List.getElem_mem h⟩
theorem orBit_lt {a i : Int} {m : Nat} (h0 : 0 ≤ a) (h1 : a < 2 ^ m) (hi : i.toNat < m) : 0 ≤ orBit a i ∧ orBit a i < 2 ^ m := by
  obtain ⟨n, rfl⟩ := Int.eq_ofNat_of_zero_le h0
  have hn : n < 2 ^ m := by exact_mod_cast h1
  have h2 : 1 <<< i.toNat < 2 ^ m := by rw [Nat.one_shiftLeft]; exact Nat.pow_lt_pow_right (by omega) hi
  have := Nat.or_lt_two_pow hn h2
  unfold orBit
  rw [Int.toNat_natCast]
  refine ⟨Int.natCast_nonneg _, ?_⟩
  exact_mod_cast this
theorem flipBit_lt {a i : Int} {m : Nat} (h0 : 0 ≤ a) (h1 : a < 2 ^ m) (hi : i.toNat < m) : 0 ≤ flipBit a i ∧ flipBit a i < 2 ^ m := by
  obtain ⟨n, rfl⟩ := Int.eq_ofNat_of_zero_le h0
  have hn : n < 2 ^ m := by exact_mod_cast h1
  have h2 : 1 <<< i.toNat < 2 ^ m := by rw [Nat.one_shiftLeft]; exact Nat.pow_lt_pow_right (by omega) hi
  have := Nat.xor_lt_two_pow hn h2
  unfold flipBit
  rw [Int.toNat_natCast]
  refine ⟨Int.natCast_nonneg _, ?_⟩
  exact_mod_cast this

/-- The facts behind an entry that is not refused. -/
structure Acc (c : Cfg) (s : St) (e : Ent) : Prop where
  ent : entV c e = true
  cnt : s.count < 4096
  tick : s.tick ≤ e.tick
  kind : kindE c s e = 0
theorem acc_of {c : Cfg} {s : St} {e : Ent} (h : refusedE c s e = 0) : Acc c s e := by
  unfold refusedE at h
  by_cases h1 : entV c e = false
  · rw [if_pos h1] at h; omega
  rw [if_neg h1] at h
  by_cases h2 : 4096 ≤ s.count
  · rw [if_pos h2] at h; omega
  rw [if_neg h2] at h
  by_cases h3 : e.tick < s.tick
  · rw [if_pos h3] at h; omega
  rw [if_neg h3] at h
  exact ⟨by simpa using h1, by omega, by omega, h⟩
theorem ent_kind {c : Cfg} {e : Ent} (h : entV c e = true) : e.kind = 1 ∨ e.kind = 2 ∨ e.kind = 3 ∨ e.kind = 4 ∨ e.kind = 5 ∨ e.kind = 6 ∨ e.kind = 7 ∨ e.kind = 8 ∨ e.kind = 9 ∨ e.kind = 10 ∨ e.kind = 11 ∨ e.kind = 12 ∨ e.kind = 13 ∨ e.kind = 14 ∨ e.kind = 15 ∨ e.kind = 16 := by
  have : inR e.kind 1 16 = true := by
    unfold entV entOk at h
    simp only [Bool.and_eq_true] at h
    exact h.1.1.1.1.1.1.1.1.1
  simp [inR] at this
  omega
/-- The ranges of the fields of a valid entry. -/
theorem ent_rng {c : Cfg} {e : Ent} (h : entV c e = true) : (0 ≤ e.tick ∧ e.tick ≤ 1073741824) ∧ inS e.tenant (fT c.tenants.length e.kind) = true ∧ inS e.cell (fC c.cells.length e.kind) = true ∧ inS e.other (fO c.cells.length c.regions e.kind) = true ∧
    inS e.epoch (fE e.kind) = true ∧ inS e.since (fW e.kind) = true ∧ inS e.till (fW e.kind) = true ∧ inS e.n (fN c.versions.length e.kind) = true ∧ (e.kind ≠ 1 ∨ e.other ≠ e.cell) := by
  unfold entV entOk at h
  simp only [Bool.and_eq_true] at h
  obtain ⟨⟨⟨⟨⟨⟨⟨⟨⟨h1, h2⟩, h3⟩, h4⟩, h5⟩, h6⟩, h7⟩, h8⟩, h9⟩, h10⟩ := h
  refine ⟨by simpa [inR] using h2, h3, h4, h5, h6, h7, h8, h9, by simpa using h10⟩

theorem inv_setTen {c : Cfg} {s : St} (h : StInv c s) {e : Ent} (hc : s.count < 4096) (ht : s.tick ≤ e.tick) (ht2 : e.tick ≤ 1073741824) {i : Int} {t : TS} (hT : TsInv c t) : StInv c (setTen (stamped s e) i t) := by
  refine ⟨?_, h.lc, ⟨by have := h.tick; show 0 ≤ e.tick; omega, ht2⟩, ⟨by have := h.count; show 0 ≤ s.count + 1; omega, by show s.count + 1 ≤ 4096; omega⟩, h.proven, h.evac, h.low, fun t' ht' => ?_, h.cel⟩
  · show (s.tenants.set i.toNat t).length = _
    rw [List.length_set]; exact h.lt
  · rcases List.mem_or_eq_of_mem_set (show t' ∈ s.tenants.set i.toNat t from ht') with h1 | rfl
    · exact h.ten _ h1
    · exact hT
theorem inv_setCel {c : Cfg} {s : St} (h : StInv c s) {e : Ent} (hc : s.count < 4096) (ht : s.tick ≤ e.tick) (ht2 : e.tick ≤ 1073741824) {i : Int} {x : CS} (hX : CsInv c s.low s.high x) : StInv c (setCel (stamped s e) i x) := by
  refine ⟨h.lt, ?_, ⟨by have := h.tick; show 0 ≤ e.tick; omega, ht2⟩, ⟨by have := h.count; show 0 ≤ s.count + 1; omega, by show s.count + 1 ≤ 4096; omega⟩, h.proven, h.evac, h.low, h.ten, fun t' ht' => ?_⟩
  · show (s.cells.set i.toNat x).length = _
    rw [List.length_set]; exact h.lc
  · rcases List.mem_or_eq_of_mem_set (show t' ∈ s.cells.set i.toNat x from ht') with h1 | rfl
    · exact h.cel _ h1
    · exact hX

theorem StInv.step {c : Cfg} {s : St} {e : Ent} (hV : CfgV c) (h : StInv c s) (hr : refusedE c s e = 0) : StInv c (effOf s e) := by
  have ha := acc_of hr
  have hk := ent_kind ha.ent
  obtain ⟨hti, hT, hC, hO, hE, hS, hU, hN, hne⟩ := ent_rng ha.ent
  have hkd := ha.kind
  have hcnt := ha.cnt
  have htk := ha.tick
  have hlt := h.lt
  have hlc := h.lc
  have hnc := hV.nc
  have hnv := hV.nv
  have hreg := hV.reg
  clear ha hr
  obtain ⟨kind, tick, tenant, cell, other, epoch, since, till, n⟩ := e
  simp only at *
  by_cases h8 : kind ≤ 8
  · have hten : 0 ≤ tenant ∧ tenant < s.tenants.length := by
      have : fT c.tenants.length kind = (0, (c.tenants.length : Int) - 1) := if_pos h8
      rw [this] at hT
      simp [inS, inR] at hT
      omega
    have hti0 := h.ten _ (tsAt_mem hten.1 hten.2).2
    have eff : effOf s ⟨kind, tick, tenant, cell, other, epoch, since, till, n⟩ = setTen (stamped s ⟨kind, tick, tenant, cell, other, epoch, since, till, n⟩) tenant (tenEff (tsAt s tenant) ⟨kind, tick, tenant, cell, other, epoch, since, till, n⟩) := by
      unfold effOf
      exact if_pos h8
    rw [eff]
    refine inv_setTen h hcnt htk hti.2 ?_
    clear eff
    have hk' : kind = 1 ∨ kind = 2 ∨ kind = 3 ∨ kind = 4 ∨ kind = 5 ∨ kind = 6 ∨ kind = 7 ∨ kind = 8 := by omega
    obtain ⟨i1, i2, i3, i4, i5, i6, i7, i8, i9, i10, i11, i12⟩ := hti0
    generalize htd : tsAt s tenant = t at *
    rcases hk' with rfl | rfl | rfl | rfl | rfl | rfl | rfl | rfl
    · simp [inS, inR, fC, fO] at hC hO
      refine ⟨?_, ?_, i3, i4, i5, i6, i7, i8, i9, i10, ?_, ?_⟩ <;> simp [tenEff] <;> omega
    · simp [inS, inR, fC, fE, fW, fN] at hC hE hS hU hN
      simp only [tenEff, grantT]
      have hpl : t.placed = true := by
        cases hp : t.placed with
        | true => rfl
        | false => simp [kindE, grantE, htd, hp] at hkd
      simp only [show ¬ ((2 : Int) = 1) by omega, if_false, if_true]
      split
      · constructor <;> (try simp only) <;> first | omega | (intro hh; first | omega | exact i11 hh | exact i12 hh | exact hpl | exact hpl hn | cases hh)
      · split
        · constructor <;> (try simp only) <;> first | omega | (intro hh; first | omega | exact i11 hh | exact i12 hh | exact hpl | exact hpl hn | cases hh)
        · constructor <;> (try simp only) <;> first | omega | (intro hh; first | omega | exact i11 hh | exact i12 hh | exact hpl | exact hpl hn | cases hh)
    · refine ⟨i1, i2, i3, i4, i5, i6, i7, i8, ?_, ?_, i11, i12⟩ <;> simp [tenEff, cutW] <;> omega
    · simp [inS, inR, fC] at hC
      refine ⟨i1, i2, ?_, i4, i5, i6, i7, i8, i9, i10, i11, i12⟩ <;> simp [tenEff] <;> omega
    · simp [inS, inR, fC] at hC
      refine ⟨i1, ?_, ?_, i4, i5, i6, i7, i8, i9, i10, i11, i12⟩ <;> simp [tenEff] <;> omega
    · simp [inS, inR, fC] at hC
      refine ⟨i1, i2, i3, ?_, i5, i6, i7, i8, i9, i10, i11, i12⟩ <;> simp [tenEff] <;> omega
    · refine ⟨i1, i2, i3, ?_, i5, i6, i7, i8, i9, i10, i11, i12⟩ <;> simp [tenEff] <;> omega
    · have hpl : n = 1 → t.placed = true := by
        intro hn
        cases hp : t.placed with
        | true => rfl
        | false => simp [kindE, shedE, htd, hp, hn] at hkd
      by_cases hn : n = 1
      · simp only [tenEff, show ¬ ((8 : Int) = 1) by omega, show ¬ ((8 : Int) = 2) by omega, show ¬ ((8 : Int) = 3) by omega, show ¬ ((8 : Int) = 4) by omega, show ¬ ((8 : Int) = 5) by omega, show ¬ ((8 : Int) = 6) by omega, show ¬ ((8 : Int) = 7) by omega, if_false, if_true, hn]
        constructor <;> (try simp only) <;> first | omega | (intro hh; first | omega | exact i11 hh | exact i12 hh | exact hpl | exact hpl hn | cases hh)
      · simp only [tenEff, show ¬ ((8 : Int) = 1) by omega, show ¬ ((8 : Int) = 2) by omega, show ¬ ((8 : Int) = 3) by omega, show ¬ ((8 : Int) = 4) by omega, show ¬ ((8 : Int) = 5) by omega, show ¬ ((8 : Int) = 6) by omega, show ¬ ((8 : Int) = 7) by omega, if_false, if_true, hn]
        exact ⟨i1, i2, i3, i4, i5, i6, i7, i8, i9, i10, i11, fun h => by cases h⟩
  · by_cases h11 : kind ≤ 11
    · have eff : effOf s ⟨kind, tick, tenant, cell, other, epoch, since, till, n⟩ = setCel (stamped s ⟨kind, tick, tenant, cell, other, epoch, since, till, n⟩) cell (celEff (csAt s cell) ⟨kind, tick, tenant, cell, other, epoch, since, till, n⟩) := by
        unfold effOf
        rw [if_neg h8, if_pos h11]
      have hcel : 0 ≤ cell ∧ cell < s.cells.length := by
        have : fC c.cells.length kind = (0, (c.cells.length : Int) - 1) := if_pos (by omega)
        rw [this] at hC
        simp [inS, inR] at hC
        omega
      rw [eff]
      refine inv_setCel h hcnt htk hti.2 ?_
      have hx := h.cel _ (csAt_mem hcel.1 hcel.2).2
      generalize hxd : csAt s cell = x at *
      obtain ⟨i1, i2, i3, i4, i5, i6⟩ := hx
      have hk' : kind = 9 ∨ kind = 10 ∨ kind = 11 := by omega
      rcases hk' with rfl | rfl | rfl
      · simp [inS, inR, fN] at hN
        refine ⟨?_, i2, i3, ?_, i5, i6⟩ <;> simp [celEff] <;> omega
      · simp [inS, inR, fN] at hN
        have hw : (verAt c n).1 ≤ s.low ∧ s.high ≤ (verAt c n).2 := by
          simp [kindE, wantE, hxd] at hkd
          split at hkd
          · omega
          · split at hkd
            · omega
            · omega
        refine ⟨i1, i2, ?_, i4, i5, ?_⟩
        · simp [celEff]; omega
        · exact hw
      · simp [inS, inR, fN] at hN
        have hw : n = x.wanted := by
          simp [kindE, runsE, hxd] at hkd
          by_cases hh : x.wanted = n
          · exact hh.symm
          · simp [hh] at hkd
        subst hw
        exact ⟨i1, i3, i3, ⟨by simp [celEff]; omega, by simp [celEff]; omega⟩, i6, i6⟩
    · have hk' : kind = 12 ∨ kind = 13 ∨ kind = 14 ∨ kind = 15 ∨ kind = 16 := by omega
      have htick : 0 ≤ tick ∧ tick ≤ 1073741824 := hti
      have hcn : 0 ≤ s.count + 1 ∧ s.count + 1 ≤ 4096 := by have := h.count; omega
      rcases hk' with rfl | rfl | rfl | rfl | rfl
      · simp [inS, inR, fN] at hN
        have hp := h.proven
        have := orBit_lt (a := s.proven) (i := n) (m := 30) hp.1 (by simpa using hp.2) (by omega)
        exact ⟨hlt, hlc, htick, hcn, by simpa [effOf, stamped] using this, h.evac, h.low, h.ten, h.cel⟩
      · simp [inS, inR, fO] at hO
        have hp := h.evac
        have := flipBit_lt (a := s.evac) (i := other) (m := 4) hp.1 (by simpa using hp.2) (by omega)
        exact ⟨hlt, hlc, htick, hcn, h.proven, by simpa [effOf, stamped] using this, h.low, h.ten, h.cel⟩
      · have hlo := h.low
        have hx : ¬ s.low < s.high ∧ ¬ 30 ≤ s.high ∧ s.cells.any (blockB c s) = false := by
          simp only [kindE, expandE] at hkd
          simp at hkd
          by_cases h1 : s.low < s.high
          · simp [h1] at hkd
          · by_cases h2 : 30 ≤ s.high
            · simp [h1, h2] at hkd
            · refine ⟨h1, h2, ?_⟩
              rw [Bool.eq_false_iff]
              intro h3
              obtain ⟨x, hx, hb⟩ := List.any_eq_true.1 h3
              simp only [h1, h2, if_false] at hkd
              rw [if_pos ⟨x, hx, hb⟩] at hkd
              omega
        refine ⟨hlt, hlc, htick, hcn, h.proven, h.evac, ?_, h.ten, fun x hx' => ?_⟩
        · simp [effOf, stamped]; omega
        · have hb : blockB c s x = false := by
            rw [Bool.eq_false_iff]
            intro hb
            have := List.any_eq_true.2 ⟨x, (show x ∈ s.cells from hx'), hb⟩
            rw [hx.2.2] at this
            cases this
          simp [blockB] at hb
          obtain ⟨i1, i2, i3, i4, i5, i6⟩ := h.cel x hx'
          refine ⟨i1, i2, i3, i4, ⟨i5.1, ?_⟩, ⟨i6.1, ?_⟩⟩ <;> simp [effOf, stamped] <;> omega
      · have hlo := h.low
        refine ⟨hlt, hlc, htick, hcn, h.proven, h.evac, ?_, h.ten, fun x hx' => ?_⟩
        · simp [effOf, stamped]; omega
        · obtain ⟨i1, i2, i3, i4, i5, i6⟩ := h.cel x hx'
          refine ⟨i1, i2, i3, i4, ⟨?_, i5.2⟩, ⟨?_, i6.2⟩⟩ <;> simp [effOf, stamped] <;> omega
      · exact ⟨hlt, hlc, htick, hcn, h.proven, h.evac, h.low, h.ten, h.cel⟩
end Go.Proofs.Ytnnpgbleacapfaa

namespace Go.Proofs.Ytnnpgbleacapfaa
open Go.RowKit
set_option linter.unusedSimpArgs false
set_option linter.unusedVariables false
/-! The laws of one step. No program in sight. -/

theorem applyP_ok {c : Cfg} {s x : St} {e : Ent} (h : applyP c s e = (x, 0)) : refusedE c s e = 0 ∧ x = effOf s e ∧ (booksB e = true → overB c x = false) := by
  unfold applyP at h
  by_cases h1 : refusedE c s e ≠ 0
  · rw [if_pos h1] at h
    exact absurd (congrArg Prod.snd h) h1
  · rw [if_neg h1] at h
    by_cases h2 : booksB e ∧ overB c (effOf s e)
    · rw [if_pos h2] at h
      exact absurd (congrArg Prod.snd h) (by simp)
    · rw [if_neg h2] at h
      have hx : effOf s e = x := congrArg Prod.fst h
      refine ⟨Classical.not_not.1 h1, hx.symm, fun hb => ?_⟩
      rw [← hx]
      cases ho : overB c (effOf s e) with
      | false => rfl
      | true => exact absurd ⟨hb, ho⟩ h2

/-! Capacity. -/
def bkAt (i : Int) (t : TS) (d : Ten) : Int :=
  if t.placed = false then 0 else (if t.shed then 0 else (if t.home = i then d.load else 0) + (if t.target = i then d.load else 0)) + (if t.standby = i then d.shadow else 0) + (if t.next = i then d.shadow else 0)
theorem addAt_length (l : List Int) (k n : Int) : (addAt l k n).length = l.length := by unfold addAt; split <;> simp
theorem addAt_getD (l : List Int) (k n : Int) {i : Nat} (hi : i < l.length) : (addAt l k n).getD i 0 = l.getD i 0 + (if k = i then n else 0) := by
  unfold addAt
  by_cases hk : 0 ≤ k ∧ k < l.length
  · rw [if_pos hk]
    obtain ⟨m, rfl⟩ := Int.eq_ofNat_of_zero_le hk.1
    rw [Int.toNat_natCast, List.getD_eq_getElem?_getD, List.getElem?_set]
    by_cases hm : m = i
    · subst hm
      simp [hi]
    · have : ¬ ((m : Int) = i) := by omega
      simp [hm, this]
  · rw [if_neg hk]
    have : ¬ (k = i) := by omega
    simp [this]
theorem bookT_length (l : List Int) (t : TS) (d : Ten) : (bookT l t d).length = l.length := by
  unfold bookT
  split
  · rfl
  · rw [addAt_length, addAt_length]
    split
    · rfl
    · rw [addAt_length, addAt_length]
theorem bookT_getD (l : List Int) (t : TS) (d : Ten) {i : Nat} (hi : i < l.length) : (bookT l t d).getD i 0 = l.getD i 0 + bkAt i t d := by
  unfold bookT bkAt
  by_cases hp : t.placed = false
  · rw [if_pos hp, if_pos hp]; omega
  · rw [if_neg hp, if_neg hp]
    by_cases hs : t.shed = true
    · rw [if_pos hs, if_pos hs, addAt_getD _ _ _ (by rw [addAt_length]; exact hi), addAt_getD _ _ _ hi]; omega
    · rw [if_neg hs, if_neg hs, addAt_getD _ _ _ (by simp only [addAt_length]; exact hi), addAt_getD _ _ _ (by simp only [addAt_length]; exact hi), addAt_getD _ _ _ (by simp only [addAt_length]; exact hi), addAt_getD _ _ _ hi]; omega
def sumI (i : Int) : List (TS × Ten) → Int
  | [] => 0
  | p :: q => bkAt i p.1 p.2 + sumI i q
theorem fold_getD {i : Nat} : ∀ (q : List (TS × Ten)) (l : List Int), i < l.length → (q.foldl (fun l p => bookT l p.1 p.2) l).getD i 0 = l.getD i 0 + sumI i q
  | [], l, _ => by simp [sumI]
  | p :: q, l, h => by
    rw [List.foldl_cons, fold_getD q _ (by rw [bookT_length]; exact h), bookT_getD _ _ _ h, sumI]
    omega
theorem booked_getD (c : Cfg) (s : St) {i : Nat} (hi : i < c.cells.length) : (booked c s).getD i 0 = sumI i (s.tenants.zip c.tenants) := by
  unfold booked
  rw [fold_getD _ _ (by simpa using hi)]
  rw [List.getD_eq_getElem?_getD, List.getElem?_replicate]
  simp [hi]
theorem sumI_set {i : Int} {t t' : TS} (ht : ∀ d : Ten, 0 ≤ d.load → 0 ≤ d.shadow → bkAt i t' d ≤ bkAt i t d) : ∀ (ts : List TS) (ds : List Ten) (k : Nat), ts[k]? = some t → (∀ d ∈ ds, 0 ≤ d.load ∧ 0 ≤ d.shadow) → sumI i ((ts.set k t').zip ds) ≤ sumI i (ts.zip ds)
  | [], ds, k, h, hd => by simp at h
  | a :: ts, [], k, h, hd => by cases k <;> simp [sumI]
  | a :: ts, d :: ds, 0, h, hd => by
    simp at h
    subst h
    have := hd d (by simp)
    have := ht d this.1 this.2
    simp only [List.set_cons_zero, List.zip_cons_cons, sumI]
    omega
  | a :: ts, d :: ds, k + 1, h, hd => by
    have ih := sumI_set ht ts ds k (by simpa using h) (fun d hd' => hd d (by simp [hd']))
    simp only [List.set_cons_succ, List.zip_cons_cons, sumI]
    omega
theorem overB_iff {c : Cfg} {s : St} : overB c s = false ↔ ∀ i : Nat, i < c.cells.length → (booked c s).getD i 0 ≤ (c.cells.getD i (0, 0)).2 := by
  unfold overB
  rw [Bool.eq_false_iff]
  constructor
  · intro h i hi
    refine Classical.byContradiction fun hn => h (List.any_eq_true.2 ⟨i, List.mem_range.2 hi, ?_⟩)
    simp only [decide_eq_true_eq]
    omega
  · intro h hn
    obtain ⟨i, hi, hd⟩ := List.any_eq_true.1 hn
    have := h i (List.mem_range.1 hi)
    simp only [decide_eq_true_eq] at hd
    omega
theorem ten_pos {c : Cfg} (hV : CfgV c) : ∀ d ∈ c.tenants, 0 ≤ d.load ∧ 0 ≤ d.shadow := by
  intro d hd
  have h1 := hV.ten d hd
  simp [tenOk, inR] at h1
  omega
theorem cap_new {c : Cfg} (hV : CfgV c) : overB c (stNew c) = false := by
  rw [overB_iff]
  intro i hi
  rw [booked_getD _ _ hi]
  have hcap : 1 ≤ (c.cells.getD i (0, 0)).2 := by
    rw [getD_some (List.getElem?_eq_getElem hi)]
    exact (hV.capy _ (List.getElem_mem hi)).1
  have : ∀ (n : Nat) (ds : List Ten), sumI i ((List.replicate n tsNew).zip ds) = 0 := by
    intro n
    induction n with
    | zero => intro ds; simp [sumI]
    | succ n ih =>
      intro ds
      cases ds with
      | nil => simp [sumI]
      | cons d ds =>
        have hb : bkAt i tsNew d = 0 := by simp [bkAt, tsNew]
        rw [List.replicate_succ, List.zip_cons_cons, sumI, ih, hb]
        rfl
  have := this c.tenants.length c.tenants
  unfold stNew
  simp only
  omega
theorem over_same {c : Cfg} {s x : St} (h : x.tenants = s.tenants) : overB c x = overB c s := by
  unfold overB booked
  rw [h]
theorem cap_step {c : Cfg} {s x : St} {e : Ent} (hV : CfgV c) (hI : StInv c s) (hc : overB c s = false) (h : applyP c s e = (x, 0)) : overB c x = false := by
  obtain ⟨hr, hx, hb⟩ := applyP_ok h
  by_cases hbk : booksB e = true
  · exact hb hbk
  have ha := acc_of hr
  have hk := ent_kind ha.ent
  obtain ⟨hti, hT, hC, hO, hE, hS, hU, hN, hne⟩ := ent_rng ha.ent
  have hkd := ha.kind
  subst hx
  have hlt := hI.lt
  clear hb h hr ha
  obtain ⟨kind, tick, tenant, cell, other, epoch, since, till, n⟩ := e
  simp only at *
  by_cases h8 : kind ≤ 8
  · have hten : 0 ≤ tenant ∧ tenant < s.tenants.length := by
      have : fT c.tenants.length kind = (0, (c.tenants.length : Int) - 1) := if_pos h8
      rw [this] at hT
      simp [inS, inR] at hT
      omega
    have hte : (effOf s ⟨kind, tick, tenant, cell, other, epoch, since, till, n⟩).tenants = s.tenants.set tenant.toNat (tenEff (tsAt s tenant) ⟨kind, tick, tenant, cell, other, epoch, since, till, n⟩) := by
      unfold effOf
      simp only [h8, if_true]
      rfl
    rw [overB_iff] at hc ⊢
    intro i hi
    refine Int.le_trans ?_ (hc i hi)
    rw [booked_getD _ _ hi, booked_getD _ _ hi, hte]
    refine sumI_set ?_ _ _ _ (tsAt_mem hten.1 hten.2).1 (ten_pos hV)
    intro d hd1 hd2
    have hI' := hI.ten _ (tsAt_mem hten.1 hten.2).2
    generalize htd : tsAt s tenant = t at *
    have hk' : kind = 3 ∨ (kind = 4 ∧ cell = -1) ∨ kind = 5 ∨ kind = 7 ∨ (kind = 8 ∧ n = 1) := by
      simp [booksB] at hbk
      have : kind = 8 → n = 0 ∨ n = 1 := by
        rintro rfl
        simp [inS, inR, fN] at hN
        omega
      omega
    have hi0 : (0 : Int) ≤ i := Int.natCast_nonneg _
    rcases hk' with rfl | ⟨rfl, rfl⟩ | rfl | rfl | ⟨rfl, rfl⟩
    · simp [bkAt, tenEff]
    · simp only [bkAt, tenEff]
      simp
      repeat' split
      all_goals omega
    · have hnx : cell = t.next ∧ t.placed = true := by
        simp only [kindE, readyE, htd] at hkd
        simp at hkd
        by_cases hp : t.placed = true
        · by_cases hcn : cell = t.next
          · exact ⟨hcn, hp⟩
          · simp [hp, hcn] at hkd
        · simp [hp] at hkd
      obtain ⟨rfl, hp⟩ := hnx
      simp only [bkAt, tenEff]
      simp [hp]
      repeat' split
      all_goals omega
    · simp only [bkAt, tenEff]
      simp
      repeat' split
      all_goals omega
    · simp only [bkAt, tenEff]
      simp
      repeat' split
      all_goals omega
  · rw [over_same (s := s)]
    · exact hc
    · unfold effOf
      simp only [h8, if_false]
      repeat' split
      all_goals rfl

/-! Versions. -/
def openN (s : St) : Nat := s.cells.countP (openB s.proven)
theorem ver_new (c : Cfg) : openN (stNew c) = 0 := by
  unfold openN stNew
  rw [List.countP_eq_zero]
  intro x hx
  obtain rfl := List.eq_of_mem_replicate hx
  show ¬ openB 1 csNew = true
  decide
theorem hasB_or {p n v : Int} (hp : 0 ≤ p) (h : hasB p v = true) : hasB (orBit p n) v = true := by
  simp only [hasB, Bool.and_eq_true, bitB] at h ⊢
  refine ⟨h.1, ?_⟩
  unfold orBit
  rw [Int.toNat_natCast, Nat.testBit_or, h.2]
  rfl
theorem countP_range {α : Type} [Inhabited α] (p : α → Bool) : ∀ l : List α, l.countP p = (List.range l.length).countP (fun i => p (l.getD i default)) := by
  intro l
  have h : l = (List.range l.length).map (fun i => l.getD i default) := by
    apply List.ext_getElem
    · simp
    · intro i h1 h2
      simp [List.getD_eq_getElem?_getD, h1]
  conv => lhs; rw [h]
  rw [List.countP_map]
  rfl
theorem countP_others (P : Nat → Bool) (k : Nat) : ∀ n, k < n → (List.range n).countP P = (List.range n).countP (fun i => decide (i ≠ k) && P i) + (if P k then 1 else 0) := by
  have hlt : ∀ n, n ≤ k → (List.range n).countP P = (List.range n).countP (fun i => decide (i ≠ k) && P i) := by
    intro n hn
    apply List.countP_congr
    intro i hi
    have := List.mem_range.1 hi
    have : i ≠ k := by omega
    simp [this]
  intro n
  induction n with
  | zero => intro h; omega
  | succ n ih =>
    intro h
    rw [List.range_succ, List.countP_append, List.countP_append]
    by_cases hk : k = n
    · subst hk
      rw [hlt k (Nat.le_refl _)]
      simp [List.countP_cons]
    · rw [ih (by omega)]
      have : n ≠ k := fun h => hk h.symm
      simp [List.countP_cons, this]
      omega
theorem others_eq {s : St} {k : Int} (h0 : 0 ≤ k) (h1 : k < s.cells.length) : openN s = others s k + (if openB s.proven (csAt s k) then 1 else 0) := by
  obtain ⟨m, rfl⟩ := Int.eq_ofNat_of_zero_le h0
  unfold openN others csAt
  rw [countP_range, countP_others _ m _ (by omega), List.countP_eq_length_filter]
  have e : ∀ i : Nat, decide (i ≠ m) = decide ((i : Int) ≠ (m : Int)) := by intro i; congr 1; rw [eq_iff_iff]; omega
  simp only [e, Int.toNat_natCast]
theorem ver_step {c : Cfg} {s x : St} {e : Ent} (hV : CfgV c) (hI : StInv c s) (hc : (openN s : Int) ≤ c.blast) (h : applyP c s e = (x, 0)) : (openN x : Int) ≤ c.blast := by
  obtain ⟨hr, hx, -⟩ := applyP_ok h
  have ha := acc_of hr
  have hk := ent_kind ha.ent
  obtain ⟨hti, hT, hC, hO, hE, hS, hU, hN, hne⟩ := ent_rng ha.ent
  have hkd := ha.kind
  subst hx
  have hlc := hI.lc
  have hnc := hV.nc
  clear h hr ha
  obtain ⟨kind, tick, tenant, cell, other, epoch, since, till, n⟩ := e
  simp only at *
  by_cases h11 : kind = 9 ∨ kind = 10 ∨ kind = 11
  · have hcel : 0 ≤ cell ∧ cell < s.cells.length := by
      have : fC c.cells.length kind = (0, (c.cells.length : Int) - 1) := if_pos (by omega)
      rw [this] at hC
      simp [inS, inR] at hC
      omega
    have hce : (effOf s ⟨kind, tick, tenant, cell, other, epoch, since, till, n⟩) = setCel (stamped s ⟨kind, tick, tenant, cell, other, epoch, since, till, n⟩) cell (celEff (csAt s cell) ⟨kind, tick, tenant, cell, other, epoch, since, till, n⟩) := by
      unfold effOf
      rw [if_neg (by simp only; omega), if_pos (by simp only; omega)]
    have hset : openN (effOf s ⟨kind, tick, tenant, cell, other, epoch, since, till, n⟩) = others s cell + (if openB s.proven (celEff (csAt s cell) ⟨kind, tick, tenant, cell, other, epoch, since, till, n⟩) then 1 else 0) := by
      rw [hce]
      have h2 : cell.toNat < s.cells.length := by omega
      have h3 := others_eq hcel.1 hcel.2
      have h4 : s.cells[cell.toNat] = csAt s cell := (getD_some (List.getElem?_eq_getElem h2)).symm
      show (s.cells.set cell.toNat _).countP (openB s.proven) = _
      rw [List.countP_set h2, h4]
      unfold openN at h3
      omega
    rw [hset]
    have h3 := others_eq hcel.1 hcel.2
    generalize hxd : csAt s cell = y at *
    rcases h11 with rfl | rfl | rfl
    · have : openB s.proven (celEff y ⟨9, tick, tenant, cell, other, epoch, since, till, n⟩) = openB s.proven y := rfl
      rw [this]
      omega
    · by_cases hq : y.running = n ∨ hasB s.proven n = true
      · have : openB s.proven (celEff y ⟨10, tick, tenant, cell, other, epoch, since, till, n⟩) = true → openB s.proven y = true := by
          simp only [openB, celEff]
          simp
          rcases hq with rfl | hq
          · intro h; left; rcases h with h | h <;> exact h
          · intro h; left; rcases h with h | h
            · exact h
            · rw [hq] at h; cases h
        by_cases ho : openB s.proven (celEff y ⟨10, tick, tenant, cell, other, epoch, since, till, n⟩) = true
        · rw [if_pos ho]; rw [if_pos (this ho)] at h3; omega
        · rw [if_neg ho]; omega
      · have : (others s cell : Int) < c.blast := by
          simp only [kindE, wantE, hxd] at hkd
          simp at hkd
          simp only [not_or, Bool.not_eq_true] at hq
          by_cases q1 : y.wanted = n
          · simp [q1] at hkd
          · by_cases q2 : s.low < (verAt c n).1 ∨ (verAt c n).2 < s.high
            · simp [q1, q2] at hkd
            · by_cases q3 : s.evac = 0
              · simp only [q1, q2, hq.1, hq.2, q3, if_false, or_self] at hkd
                simp at hkd
                omega
              · simp [q1, q2, hq.1, hq.2, q3] at hkd
        split <;> omega
    · have hw : n = y.wanted := by
        simp [kindE, runsE, hxd] at hkd
        by_cases hh : y.wanted = n
        · exact hh.symm
        · simp [hh] at hkd
      subst hw
      have : openB s.proven (celEff y ⟨11, tick, tenant, cell, other, epoch, since, till, y.wanted⟩) = true → openB s.proven y = true := by
        simp only [openB, celEff]
        simp
        intro h; right; exact h
      by_cases ho : openB s.proven (celEff y ⟨11, tick, tenant, cell, other, epoch, since, till, y.wanted⟩) = true
      · rw [if_pos ho]; rw [if_pos (this ho)] at h3; omega
      · rw [if_neg ho]; omega
  · by_cases h12 : kind = 12
    · subst h12
      refine Int.le_trans ?_ hc
      have hp := hI.proven
      have : openN (effOf s ⟨12, tick, tenant, cell, other, epoch, since, till, n⟩) ≤ openN s := by
        show s.cells.countP (openB (orBit s.proven n)) ≤ s.cells.countP (openB s.proven)
        apply List.countP_mono_left
        intro y hy
        simp only [openB, Bool.or_eq_true, Bool.not_eq_true']
        intro h
        rcases h with h | h
        · left
          cases hh : hasB s.proven y.running with
          | false => rfl
          | true => rw [hasB_or hp.1 hh] at h; cases h
        · right
          cases hh : hasB s.proven y.wanted with
          | false => rfl
          | true => rw [hasB_or hp.1 hh] at h; cases h
      omega
    · have : openN (effOf s ⟨kind, tick, tenant, cell, other, epoch, since, till, n⟩) = openN s := by
        unfold openN effOf
        have e1 : ¬ ((8 : Int) < kind ∧ kind ≤ 11) := by omega
        by_cases h8 : kind ≤ 8
        · simp only [h8, if_true]; rfl
        · have h11' : ¬ kind ≤ 11 := by omega
          simp only [h8, h11', h12, if_false]
          repeat' split
          all_goals rfl
      omega
theorem ent_ten {c : Cfg} {s : St} {e : Ent} (hI : StInv c s) (ha : entV c e = true) (h8 : e.kind ≤ 8) : 0 ≤ e.tenant ∧ e.tenant < s.tenants.length := by
  obtain ⟨hti, hT, -⟩ := ent_rng ha
  have : fT c.tenants.length e.kind = (0, (c.tenants.length : Int) - 1) := if_pos h8
  have hlt := hI.lt
  rw [this] at hT
  simp [inS, inR] at hT
  omega
end Go.Proofs.Ytnnpgbleacapfaa

namespace Go.Proofs.Ytnnpgbleacapfaa
open Go.RowKit
set_option linter.unusedSimpArgs false
set_option linter.unusedVariables false

/-! Nothing is handed in. -/
def noC : Cfg := ⟨0, [], [], [], [], [], [], 0, 0, 0⟩
def noX : CfgA := ⟨none, 0, none, 0, none, 0, none, 0, none, 0, none, 0⟩
theorem noC_ok (w : World) (S : Nat → Prop) : CfgOk w S noX noC := ⟨fun h => absurd rfl h, fun h => absurd rfl h, fun h => absurd rfl h, fun h => absurd rfl h, fun h => absurd rfl h, fun h => absurd rfl h⟩
end Go.Proofs.Ytnnpgbleacapfaa

namespace Go.Proofs.Ytnnpgbleacapfaa
open Go.RowKit
set_option linter.unusedSimpArgs false
set_option linter.unusedVariables false

theorem pathP_calls (x : CfgA) (c : Cfg) (lo hi : Int) (w : World) (hc : CfgOk w (· < w.heap.size) x c) (hl : c.versions.length ≤ 1000) :
    Calls Try.prog 8 #[.agg (cfgC x c), .int .i64 lo, .int .i64 hi] w fun e w' => ∃ A cp, e = .returned (.slice A (pathL c lo hi).length cp) ∧ Rd w' (fun b => w.heap.size ≤ b ∧ b < w'.heap.size) A (flat intC (pathL c lo hi)) ∧ Below w.heap.size w w' := by
  have := rd_callsL ttOk (ptFok.i _) Try.func8 rfl (D := ptD) (by kernel_rfl) (vs := [cfgV CN1 (ck x) c, .int .i64 lo, .int .i64 hi]) rfl x c noA noS w hc (noS_ok w _) (fun v hv => by
    simp only [List.mem_cons, List.not_mem_nil, or_false] at hv
    rcases hv with rfl | rfl | rfl
    · exact rpl_cfg_ok x c noA noS noA noS
    · trivial
    · trivial) (pathP_sx (ck x) c lo hi hl)
  rw [List.map_cons, rpl_cfg] at this
  refine this.mono ?_
  rintro e w' ⟨v, mem', nx', ρ', rfl, hR, hv, hm', hb⟩
  obtain ⟨A, cp, e1, hr⟩ := hm'.slR (enc := intC) (sz := 1) (fun _ => rfl) (by omega) hR
  refine ⟨A, cp, ?_, hr, hb⟩
  congr 1
  rcases hR with ⟨rfl, -⟩ | ⟨r, cap, t, n, el, rfl, -⟩
  · exact e1
  · exact e1
def ctPathP : CT := fun vs mem nx K => ∃ N x c lo hi, vs = [cfgV N x c, .int .i64 lo, .int .i64 hi] ∧ HasCfg mem N c ∧ c.versions.length ≤ 1000 ∧ ∀ cp, K (slc nx (pathL c lo hi).length cp) ((nx, rowOfL 500000 1 intC 0 (pathL c lo hi)) :: mem) (nx + 1)
theorem pathPOk : CSound Try.prog 8 ctPathP := ⟨by kernel_rfl, fun {C ρ fr mem nx a w vs K} hc hs hv => by
  obtain ⟨N, x, c, lo, hi, rfl, hk, hl, hK⟩ := hc
  rw [List.map_cons, den_cfg]
  refine (pathP_calls (cfgX ρ N x) c lo hi w (hs.cfgH hk) hl).mono ?_
  rintro e w' ⟨A, cp, rfl, hr, hb⟩
  exact hs.intsL hb hr (hK cp)⟩
theorem pathR_calls (x : CfgA) (c : Cfg) (lo hi : Int) (w : World) (hc : CfgOk w (· < w.heap.size) x c) (hl : c.versions.length ≤ 1000) :
    Calls Try.prog 9 #[.agg (cfgC x c), .int .i64 lo, .int .i64 hi] w fun e w' => ∃ A cp, e = .returned (.slice A (pathL c lo hi).length cp) ∧ Rd w' (fun b => w.heap.size ≤ b ∧ b < w'.heap.size) A (flat intC (pathL c lo hi)) ∧ Below w.heap.size w w' := by
  have := rd_callsL ttOk (ft_nil.i _) Try.func9 rfl (D := ptD) (by kernel_rfl) (vs := [cfgV CN1 (ck x) c, .int .i64 lo, .int .i64 hi]) rfl x c noA noS w hc (noS_ok w _) (fun v hv => by
    simp only [List.mem_cons, List.not_mem_nil, or_false] at hv
    rcases hv with rfl | rfl | rfl
    · exact rpl_cfg_ok x c noA noS noA noS
    · trivial
    · trivial) (pathR_sx (ck x) c lo hi hl)
  rw [List.map_cons, rpl_cfg] at this
  refine this.mono ?_
  rintro e w' ⟨v, mem', nx', ρ', rfl, hR, hv, hm', hb⟩
  obtain ⟨A, cp, e1, hr⟩ := hm'.slR (enc := intC) (sz := 1) (fun _ => rfl) (by omega) hR
  refine ⟨A, cp, ?_, hr, hb⟩
  congr 1
  rcases hR with ⟨rfl, -⟩ | ⟨r, cap, t, n, el, rfl, -⟩
  · exact e1
  · exact e1
def ctPathR : CT := fun vs mem nx K => ∃ N x c lo hi, vs = [cfgV N x c, .int .i64 lo, .int .i64 hi] ∧ HasCfg mem N c ∧ c.versions.length ≤ 1000 ∧ ∀ cp, K (slc nx (pathL c lo hi).length cp) ((nx, rowOfL 500000 1 intC 0 (pathL c lo hi)) :: mem) (nx + 1)
theorem pathROk : CSound Try.prog 9 ctPathR := ⟨by kernel_rfl, fun {C ρ fr mem nx a w vs K} hc hs hv => by
  obtain ⟨N, x, c, lo, hi, rfl, hk, hl, hK⟩ := hc
  rw [List.map_cons, den_cfg]
  refine (pathR_calls (cfgX ρ N x) c lo hi w (hs.cfgH hk) hl).mono ?_
  rintro e w' ⟨A, cp, rfl, hr, hb⟩
  exact hs.intsL hb hr (hK cp)⟩
/-! ref24.SameInts -/
theorem list_eqL {α : Type} {l l2 : List α} (d : α) (hl : l.length = l2.length) (h : ∀ k : Nat, (k : Int) < l.length → l.getD k d = l2.getD k d) : l = l2 := by
  apply List.ext_getElem? 
  intro k
  by_cases hk : k < l.length
  · have := h k (by omega)
    rw [List.getD_eq_getElem?_getD, List.getD_eq_getElem?_getD, List.getElem?_eq_getElem hk, List.getElem?_eq_getElem (by omega)] at this
    rw [List.getElem?_eq_getElem hk, List.getElem?_eq_getElem (by omega)]
    exact congrArg some this
  · rw [List.getElem?_eq_none (by omega), List.getElem?_eq_none (by omega)]
def s24D : List (Nat × DQ) := [(2000004, { k := 0, L := [0, 1, 2, 3, 4, 5, 6, 7, 8, 9], sl := [0, 1, 12] }), (6, { k := 8, L := [4, 5], pre := [(0, false), (1, false), (2, false), (3, false), (4, false), (5, false), (6, false), (7, false)] })]
set_option maxRecDepth 100000 in
set_option maxHeartbeats 4000000 in
theorem same24_sx (l l2 : List Int) (c0 c1 : Nat) (hm : l.length ≤ 1000000) :
    sx tt [] s24D (bodyOf Try.f7) (argF 0 [slc 4 l.length c0, slc 5 l2.length c1]) (rdM { noC with replicas := l, observers := l2 } noS noS) 10 (endx tt Try.f7.results.toList fun v _ _ => (∃ b, v = .bool b ∧ (b = true ↔ l = l2)) ∧ pureV v) := by
  refine ⟨fun h => ?_, fun h => ?_⟩
  · refine ⟨⟨false, rfl, (fun q => nomatch q), fun q => ?_⟩, trivial⟩
    rw [q] at h
    simp at h
  · have hlen : l.length = l2.length := by have q := h; simp at q; omega
    refine ⟨Int, fun i => [(13, .int .i64 i)], fun _ => [], fun i => (0 ≤ i ∧ i ≤ l.length) ∧ ∀ k : Nat, (k : Int) < i → l.getD k 0 = l2.getD k 0, fun i => ((l.length : Int) - i).toNat, ⟨0, ⟨by omega, fun k hk => absurd hk (by omega)⟩, (by repeat (first | exact trivial | refine ⟨rfl, ?_⟩)), (by repeat (first | exact trivial | refine ⟨rfl, ?_⟩))⟩, ?_⟩
    rintro i ⟨hi, he⟩
    refine ⟨⟨rfl, rfl⟩, ?_⟩
    refine ⟨fun hlt => ?_, fun hge => ?_⟩
    · have hlt2 : i < (l.length : Int) := of_decide_eq_true hlt
      refine ⟨⟨Nat.le_refl _, hi.1, hlt2⟩, ?_⟩
      refine ⟨⟨Nat.le_refl _, hi.1, by omega⟩, ?_⟩
      refine ⟨fun hne => ?_, fun heq => ?_⟩
      · have hne2 : l.getD i.toNat 0 ≠ l2.getD i.toNat 0 := by simpa using hne
        exact ⟨⟨false, rfl, (fun q => nomatch q), fun q => absurd (by rw [q]) hne2⟩, trivial⟩
      · have hq : l.getD i.toNat 0 = l2.getD i.toNat 0 := by simpa using heq
        refine ⟨_, ?_, (by repeat (first | exact trivial | refine ⟨rfl, ?_⟩)), (by repeat (first | exact trivial | refine ⟨rfl, ?_⟩))⟩
        rw [wrapi (n := i + 1) (by omega)]
        dsimp only
        refine ⟨⟨⟨by omega, by omega⟩, fun k hk => ?_⟩, by omega⟩
        by_cases hki : (k : Int) < i
        · exact he k hki
        · obtain rfl : k = i.toNat := by omega
          exact hq
    · have hge2 : ¬ i < (l.length : Int) := of_decide_eq_false hge
      exact ⟨⟨true, rfl, fun _ => list_eqL 0 hlen fun k hk => he k (by omega), fun _ => rfl⟩, trivial⟩
theorem same24_any (A A2 : Option Addr) (c0 c1 : Nat) (l l2 : List Int) (w : World) (hm : l.length ≤ 1000000) (hr : Rd w (· < w.heap.size) A (flat intC l)) (hr2 : Rd w (· < w.heap.size) A2 (flat intC l2)) :
    Calls Try.prog 7 #[.slice A l.length c0, .slice A2 l2.length c1] w fun e w' => ∃ b, e = .returned (.bool b) ∧ (b = true ↔ l = l2) ∧ Below w.heap.size w w' := by
  have hz := noC_ok w (· < w.heap.size)
  have := rd_calls ft_nil Try.func7 rfl (D := s24D) (by kernel_rfl) (vs := [slc 4 l.length c0, slc 5 l2.length c1]) rfl { noX with ar := A, ao := A2 } { noC with replicas := l, observers := l2 } noA noS noA noS w ⟨hz.zones, hz.cells, hz.tenants, hz.versions, hr, hr2⟩ (noS_ok w _) (noS_ok w _) (fun v hv => by
    simp only [List.mem_cons, List.not_mem_nil, or_false] at hv
    rcases hv with rfl | rfl
    · exact ⟨show (4 : Nat) < 10 by decide, rfl⟩
    · exact ⟨show (5 : Nat) < 10 by decide, rfl⟩) (R := fun v => ∃ b, v = .bool b ∧ (b = true ↔ l = l2)) (same24_sx l l2 c0 c1 hm)
  refine this.mono ?_
  rintro e w' ⟨v, ⟨b, rfl, hb⟩, -, rfl, hbw⟩
  exact ⟨b, rfl, hb, hbw⟩
def ctSame24 : CT := fun vs mem nx K => ∃ r r2 c c2 l l2, vs = [slc r (l : List Int).length c, slc r2 (l2 : List Int).length c2] ∧ (HasRow mem r 1 intC 0 l ∧ HasRow mem r2 1 intC 0 l2) ∧ l.length ≤ 1000000 ∧ ∀ b, (b = true ↔ l = l2) → K (.bool b) mem nx
theorem same24Ok : CSound Try.prog 7 ctSame24 := ⟨by kernel_rfl, fun {C ρ fr mem nx a w vs K} hc hs hv => by
  obtain ⟨r, r2, c, c2, l, l2, rfl, ⟨h1, h2⟩, hm, hK⟩ := hc
  refine (same24_any (ρ r).A (ρ r2).A c c2 l l2 w hm (hs.hasRd (enc := intC) (sz := 1) (fun _ => rfl) (by omega) h1) (hs.hasRd (enc := intC) (sz := 1) (fun _ => rfl) (by omega) h2)).mono ?_
  rintro e w' ⟨b, rfl, hb, hbw⟩
  exact ⟨.bool b, mem, nx, ρ, rfl, hK b hb, hs.later hbw, trivial, ExtS.refl _ _⟩⟩
end Go.Proofs.Ytnnpgbleacapfaa
