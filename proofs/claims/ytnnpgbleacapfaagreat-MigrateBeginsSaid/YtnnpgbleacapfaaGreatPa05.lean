import Derived.Test.YtnnpgbleacapfaaGreatPa04
import Derived.Scope
import Derived.Test.YtnnpgbleacapfaaGreatRows
import Derived.Test.YtnnpgbleacapfaaGreatProg
namespace Go.Proofs.YtnnpgbleacapfaaGreat
open Go.RowKit
set_option linter.unusedSimpArgs false
set_option linter.unusedVariables false

def nm1 (n : Nat) : Value → Bool
  | .pointer (some a) => decide (a.block < n)
  | .slice (some a) _ _ => decide (a.block < n)
  | _ => true
def nm2 (n : Nat) : Value → Bool
  | .agg cs => cs.toList.all (nm1 n)
  | v => nm1 n v
def nmV (n : Nat) : Value → Bool
  | .tuple vs => vs.toList.all (nm2 n)
  | .func _ a b => a.toList.all (nm1 n) && b.toList.all (nm1 n)
  | v => nm2 n v
def nmB (n : Nat) : ABlk → Bool
  | .box _ cs => cs.all (nm1 n)
  | .row _ _ _ _ => true
def nmF (n : Nat) (fr : AF) : Bool := fr.all fun p => nmV n p.2
def nmM (n : Nat) (mem : AM) : Bool := mem.all fun p => decide (p.1 < n) && nmB n p.2
/-! Names of rows may change where ways meet. -/
def rnm (σ : List (Nat × Nat)) (i : Nat) : Nat := match lk σ i with | some j => j | none => i
def rn1 (σ : List (Nat × Nat)) : Value → Value
  | .pointer (some ⟨b, o, s⟩) => .pointer (some ⟨rnm σ b, o, s⟩)
  | .slice (some ⟨b, o, s⟩) n c => .slice (some ⟨rnm σ b, o, s⟩) n c
  | v => v
def rn2 (σ : List (Nat × Nat)) : Value → Value
  | .agg cs => .agg (cs.toList.map (rn1 σ)).toArray
  | v => rn1 σ v
def rnV (σ : List (Nat × Nat)) : Value → Value
  | .tuple vs => .tuple (vs.toList.map (rn2 σ)).toArray
  | .func f a b => .func f (a.toList.map (rn1 σ)).toArray (b.toList.map (rn1 σ)).toArray
  | v => rn2 σ v
def rnB (σ : List (Nat × Nat)) : ABlk → ABlk
  | .box t cs => .box t (cs.map (rn1 σ))
  | .row t sz n el => .row t sz n el
def subFR (fr : AF) (σ : List (Nat × Nat)) (f : AF) : Prop := List.rec (motive := fun _ => Prop) True (fun p _ ih => lk fr p.1 = some (rnV σ p.2) ∧ ih) f
def keepsR (mem : AM) (σ : List (Nat × Nat)) (m : AM) : Prop := List.rec (motive := fun _ => Prop) True (fun p _ ih => lk mem (rnm σ p.1) = some (rnB σ p.2) ∧ ih) m
def exB : ABlk → Bool
  | .box _ _ => true
  | .row t _ _ _ => ownT t
def exN : AM → List Nat
  | [] => []
  | (i, b) :: r => (match exB b with | true => i :: exN r | false => exN r)
/-- No two boxes get one name. -/
def noBox (σ : List (Nat × Nat)) (m : AM) : Bool := (exN m).all fun i => (exN m).all fun j => Nat.beq i j || !(Nat.beq (rnm σ i) (rnm σ j))
def rnLow (n : Nat) (σ : List (Nat × Nat)) : Bool := σ.all fun p => decide (n ≤ p.1)

section
variable {C : Ctx} {ρ : Nat → Pl} {fr : AF} {mem : AM} {nx : Nat} {a : Act} {w : World} {σ : List (Nat × Nat)}
theorem lk_mem {α : Type} : ∀ {l : List (Nat × α)} {n : Nat} {v : α}, lk l n = some v → (n, v) ∈ l
  | [], n, v, h => by simp [lk] at h
  | (k, u) :: l, n, v, h => by
    rcases lk_cons h with ⟨rfl, rfl⟩ | ⟨_, h⟩
    · exact List.mem_cons_self ..
    · exact List.mem_cons_of_mem _ (lk_mem h)
theorem nm1_ok {n : Nat} {v : Value} (h : ok1 ρ nx v) (hn : nm1 n v = true) : ok1 ρ n v := by
  cases v with
  | pointer p => cases p with
    | none => trivial
    | some ad => exact ⟨⟨by simpa [nm1] using hn, h.1.2⟩, h.2⟩
  | slice p k c => cases p with
    | none => trivial
    | some ad => exact ⟨by simpa [nm1] using hn, h.2⟩
  | _ => trivial
theorem nm2_ok {n : Nat} {v : Value} (h : ok2 ρ nx v) (hn : nm2 n v = true) : ok2 ρ n v := by
  cases v with
  | agg cs => intro u hu; exact nm1_ok (h u hu) (by simp only [nm2, List.all_eq_true] at hn; exact hn u (by simpa using hu))
  | pointer p => exact nm1_ok (v := .pointer p) h hn
  | slice p k c => exact nm1_ok (v := .slice p k c) h hn
  | _ => trivial
theorem nmV_ok {n : Nat} {v : Value} (h : okV ρ nx v) (hn : nmV n v = true) : okV ρ n v := by
  cases v with
  | tuple vs => intro u hu; exact nm2_ok (h u hu) (by simp only [nmV, List.all_eq_true] at hn; exact hn u (by simpa using hu))
  | agg cs => exact nm2_ok (v := .agg cs) h hn
  | pointer p => exact nm2_ok (v := .pointer p) h hn
  | slice p k c => exact nm2_ok (v := .slice p k c) h hn
  | func f a b =>
    simp only [nmV, Bool.and_eq_true, List.all_eq_true] at hn
    exact ⟨fun u hu => nm1_ok (h.1 u hu) (hn.1 u (by simpa using hu)), fun u hu => nm1_ok (h.2 u hu) (hn.2 u (by simpa using hu))⟩
  | _ => trivial
theorem dA_rn (a : Addr) : dA (fun i => ρ (rnm σ i)) a = dA ρ ⟨rnm σ a.block, a.off, a.spot⟩ := rfl
theorem den1_rn (v : Value) : den1 (fun i => ρ (rnm σ i)) v = den1 ρ (rn1 σ v) := by
  cases v with
  | pointer p => cases p <;> rfl
  | slice p k c => cases p <;> rfl
  | _ => rfl
theorem den2_rn (v : Value) : den2 (fun i => ρ (rnm σ i)) v = den2 ρ (rn2 σ v) := by
  cases v with
  | agg cs =>
    simp only [den2, rn2]
    congr 1
    apply Array.toList_inj.1
    simp [Function.comp_def, den1_rn]
  | pointer p => cases p <;> rfl
  | slice p k c => cases p <;> rfl
  | _ => rfl
theorem den_rn (v : Value) : den (fun i => ρ (rnm σ i)) v = den ρ (rnV σ v) := by
  cases v with
  | tuple cs =>
    simp only [den, rnV]
    congr 1
    apply Array.toList_inj.1
    simp [Function.comp_def, den2_rn]
  | func f a b =>
    have e : ∀ c : Array Value, c.map (den1 fun i => ρ (rnm σ i)) = (c.toList.map (rn1 σ)).toArray.map (den1 ρ) := by
      intro c
      apply Array.toList_inj.1
      simp [Function.comp_def, den1_rn]
    simp only [den, rnV]
    rw [e a, e b]
  | agg cs => exact den2_rn (.agg cs)
  | pointer p => cases p <;> rfl
  | slice p k c => cases p <;> rfl
  | _ => rfl
theorem ok1_rn {n : Nat} {v : Value} (h : ok1 ρ nx (rn1 σ v)) (hn : nm1 n v = true) : ok1 (fun i => ρ (rnm σ i)) n v := by
  cases v with
  | pointer p => cases p with
    | none => trivial
    | some ad => exact ⟨⟨by simpa [nm1] using hn, h.1.2⟩, h.2⟩
  | slice p k c => cases p with
    | none => trivial
    | some ad => exact ⟨by simpa [nm1] using hn, h.2⟩
  | _ => trivial
theorem ok2_rn {n : Nat} {v : Value} (h : ok2 ρ nx (rn2 σ v)) (hn : nm2 n v = true) : ok2 (fun i => ρ (rnm σ i)) n v := by
  cases v with
  | agg cs => intro u hu; exact ok1_rn (h _ (by simp; exact ⟨u, hu, rfl⟩)) (by simp only [nm2, List.all_eq_true] at hn; exact hn u (by simpa using hu))
  | pointer p => cases p with
    | none => trivial
    | some ad => exact ok1_rn (v := .pointer (some ad)) h hn
  | slice p k c => cases p with
    | none => trivial
    | some ad => exact ok1_rn (v := .slice (some ad) k c) h hn
  | _ => trivial
theorem okV_rn {n : Nat} {v : Value} (h : okV ρ nx (rnV σ v)) (hn : nmV n v = true) : okV (fun i => ρ (rnm σ i)) n v := by
  cases v with
  | tuple vs => intro u hu; exact ok2_rn (h _ (by simp; exact ⟨u, hu, rfl⟩)) (by simp only [nmV, List.all_eq_true] at hn; exact hn u (by simpa using hu))
  | agg cs => exact ok2_rn (v := .agg cs) h hn
  | pointer p => cases p with
    | none => trivial
    | some ad => exact ok1_rn (v := .pointer (some ad)) h hn
  | slice p k c => cases p with
    | none => trivial
    | some ad => exact ok1_rn (v := .slice (some ad) k c) h hn
  | func f a b =>
    simp only [nmV, Bool.and_eq_true, List.all_eq_true] at hn
    exact ⟨fun u hu => ok1_rn (h.1 _ (by simp; exact ⟨u, hu, rfl⟩)) (hn.1 u (by simpa using hu)), fun u hu => ok1_rn (h.2 _ (by simp; exact ⟨u, hu, rfl⟩)) (hn.2 u (by simpa using hu))⟩
  | _ => trivial
theorem subFR_lk : ∀ {f : AF}, subFR fr σ f → ∀ t v, lk f t = some v → lk fr t = some (rnV σ v)
  | [], _, t, v, h => by simp [lk] at h
  | (k, u) :: l, hs, t, v, h => by
    rcases lk_cons h with ⟨rfl, rfl⟩ | ⟨_, h⟩
    · exact hs.1
    · exact subFR_lk hs.2 t v h
theorem keepsR_lk : ∀ {m : AM}, keepsR mem σ m → ∀ i b, lk m i = some b → lk mem (rnm σ i) = some (rnB σ b)
  | [], _, t, v, h => by simp [lk] at h
  | (k, u) :: l, hs, t, v, h => by
    rcases lk_cons h with ⟨rfl, rfl⟩ | ⟨_, h⟩
    · exact hs.1
    · exact keepsR_lk hs.2 t v h
theorem exN_lk : ∀ {m : AM} {i : Nat} {b : ABlk}, lk m i = some b → exB b = true → i ∈ exN m
  | [], i, b, h, _ => by simp [lk] at h
  | (k, c) :: l, i, b, h, hb => by
    simp only [exN]
    rcases lk_cons h with ⟨rfl, rfl⟩ | ⟨_, h⟩
    · rw [hb]; exact List.mem_cons_self ..
    · cases exB c
      · exact exN_lk h hb
      · exact List.mem_cons_of_mem _ (exN_lk h hb)
theorem noBox_ne {m : AM} (h : noBox σ m = true) {i j : Nat} {b b' : ABlk} (hi : lk m i = some b) (hj : lk m j = some b') (hb : exB b = true) (hb' : exB b' = true) (he : rnm σ i = rnm σ j) : i = j := by
  simp only [noBox, List.all_eq_true] at h
  have := h i (exN_lk hi hb) j (exN_lk hj hb')
  rw [he, Nat.beq_refl] at this
  simp at this
  exact this
theorem rnm_low {n : Nat} (h : rnLow n σ = true) {i : Nat} (hi : i < n) : rnm σ i = i := by
  unfold rnm
  cases hl : lk σ i with
  | none => rfl
  | some j =>
    simp only [rnLow, List.all_eq_true, decide_eq_true_eq] at h
    have := h _ (lk_mem hl)
    simp only at this
    omega
theorem Sat.rename (hC : C.ff = [] ∧ C.fm = []) (h : Sat C ρ fr mem nx a w) {fr' : AF} {mem' : AM} {m n : Nat} (hm0 : C.n0 ≤ m) (hlow : rnLow m σ = true) (hn : C.n0 ≤ n) (hf : subFR fr σ fr') (hm : keepsR mem σ mem') (hnb : noBox σ mem' = true) (hnf : nmF n fr' = true) (hnm : nmM n mem' = true) :
    Sat C (fun i => ρ (rnm σ i)) fr' mem' n a w := by
  simp only [nmF, List.all_eq_true] at hnf
  simp only [nmM, List.all_eq_true, Bool.and_eq_true, decide_eq_true_eq] at hnm
  have efr : ∀ {t v}, lk (fr' ++ C.ff) t = some v → lk fr' t = some v := fun hv => by rw [hC.1, List.append_nil] at hv; exact hv
  have emm : ∀ {i b}, lk (mem' ++ C.fm) i = some b → lk mem' i = some b := fun hv => by rw [hC.2, List.append_nil] at hv; exact hv
  have old : ∀ {i b}, lk (mem' ++ C.fm) i = some b → lk (mem ++ C.fm) (rnm σ i) = some (rnB σ b) := fun hv => lk_app (keepsR_lk hm _ _ (emm hv))
  refine ⟨⟨fun t v hv => ?_, fun t v hv => ?_⟩, h.sz, h.dfr, fun i b hi => ?_, fun i b hi => ?_, fun i j b b' hne hi hj => ?_, hn, fun i hi => ?_, h.rest⟩
  · rw [den_rn]
    exact h.fok.frm t _ (lk_app (subFR_lk hf t v (efr hv)))
  · exact okV_rn (h.fok.frk t _ (lk_app (subFR_lk hf t v (efr hv)))) (hnf _ (lk_mem (efr hv)))
  · exact ⟨(hnm _ (lk_mem (emm hi))).1, (h.mlt _ _ (old hi)).2⟩
  · have hb := h.blk _ _ (old hi)
    have h2 := (hnm _ (lk_mem (emm hi))).2
    cases b with
    | box t cs =>
      obtain ⟨g, e1, e2, e3, e4⟩ := hb
      simp only [nmB, List.all_eq_true] at h2
      refine ⟨g, e1, ?_, e3, fun v hv => ok1_rn (e4 _ (List.mem_map_of_mem hv)) (h2 v hv)⟩
      have : cs.map (den1 fun i => ρ (rnm σ i)) = (cs.map (rn1 σ)).map (den1 ρ) := by simp [Function.comp_def, den1_rn]
      rw [this]
      exact e2
    | row t sz k el => exact hb
  · have h1 := old hi
    have h2 := old hj
    have hs : rnm σ i ≠ rnm σ j → Apart (fun i => ρ (rnm σ i)) i j b b' := fun hne' => by
      have := h.sep _ _ _ _ hne' h1 h2
      cases b <;> cases b' <;> exact this
    by_cases he : rnm σ i = rnm σ j
    · cases b with
      | row t sz n el =>
        cases b' with
        | box t2 cs2 => trivial
        | row t2 sz2 n2 el2 =>
          intro ho
          rw [he, h2] at h1
          cases h1
          exact absurd (noBox_ne hnb (emm hi) (emm hj) ho ho he) hne
      | box t cs =>
        cases b' with
        | box t2 cs2 =>
          exact absurd (noBox_ne hnb (emm hi) (emm hj) rfl rfl he) hne
        | row t2 sz n el =>
          rw [he, h2] at h1
          cases h1
    · exact hs he
  · show ρ (rnm σ i) = _
    rw [rnm_low hlow (Nat.lt_of_lt_of_le hi hm0)]
    exact h.low i hi
end
end Go.Proofs.YtnnpgbleacapfaaGreat

namespace Go.Proofs.YtnnpgbleacapfaaGreat
open Go.RowKit
set_option linter.unusedSimpArgs false
set_option linter.unusedVariables false

/-- How a drawn region is walked. -/
structure DQ extends DP where
  g : Option GS := none
  sl : List Nat := []
inductive Ex where
  | normal
  | exit (n : Nat)
  | ret
def Ex.to : Ex → Exit
  | .normal => .normal
  | .exit n => .exit n
  | .ret => .ret
def subF (fr : AF) (f : AF) : Prop := List.rec (motive := fun _ => Prop) True (fun p _ ih => lk fr p.1 = some p.2 ∧ ih) f
def regx (τ : TT) (F : FT) (D : List (Nat × DQ)) (id : Nat) (ops : Array Oper) (draw : Bool) (fr : AF) (mem : AM) (nx : Nat) (K : Ex → AF → AM → Nat → Prop) : Prop :=
  match draw with
  | false => opsx τ F ops ops.toList [] fr mem nx (K .normal)
  | true => (match lk D id with
    | some d => (match d.g with
      | none => dregx τ F ops.toList d.toDP fr mem nx (K .normal)
      | some σ => gregx τ F ops.toList d.k d.L σ fr mem nx (K .normal))
    | none => False)
def seqK (K : Ex → AF → AM → Nat → Prop) (next : AF → AM → Nat → Prop) (e : Ex) (fr : AF) (mem : AM) (nx : Nat) : Prop := match e with | .normal => next fr mem nx | .exit i => K (.exit i) fr mem nx | .ret => K .ret fr mem nx
def blockK (id : Nat) (K : Ex → AF → AM → Nat → Prop) (e : Ex) (fr : AF) (mem : AM) (nx : Nat) : Prop := match e with | .exit i => (match Nat.beq i id with | true => K .normal fr mem nx | false => K (.exit i) fr mem nx) | .normal => K .normal fr mem nx | .ret => K .ret fr mem nx
def setC (c : Operand) (b : Bool) (fr : AF) : AF := match c with | .tmp d => (d, .bool b) :: fr | _ => fr
def condx (c : Operand) (fr : AF) (A B : AF → Prop) : Prop := match ev fr c with | some (.bool t) => (t = true → A (setC c true fr)) ∧ (t = false → B (setC c false fr)) | _ => False
abbrev SX := AF → AM → Nat → (Ex → AF → AM → Nat → Prop) → Prop
/-- The slots and names that stay, written out. -/
def selK (fr : AF) (slots : List Nat) (k : AF → Prop) : Prop := List.rec (motive := fun _ => AF → Prop) (fun acc => k acc) (fun t _ ih acc => match lk fr t with | some v => ih ((t, v) :: acc) | none => ih acc) slots []
def selMK (mem : AM) (names : List Nat) (k : AM → Prop) : Prop := List.rec (motive := fun _ => AM → Prop) (fun acc => k acc) (fun t _ ih acc => match lk mem t with | some v => ih ((t, v) :: acc) | none => ih acc) names []
theorem selK_some {fr : AF} {slots : List Nat} {k : AF → Prop} (h : selK fr slots k) : ∃ f, k f := by
  have : ∀ (l : List Nat) (acc : AF), (List.rec (motive := fun _ => AF → Prop) (fun acc => k acc) (fun t _ ih acc => match lk fr t with | some v => ih ((t, v) :: acc) | none => ih acc) l acc : Prop) → ∃ f, k f := by
    intro l
    induction l with
    | nil => intro acc h; exact ⟨acc, h⟩
    | cons t l ih =>
      intro acc h
      simp only at h
      cases hl : lk fr t with
      | none => rw [hl] at h; exact ih _ h
      | some v => rw [hl] at h; exact ih _ h
  exact this slots [] h
theorem selMK_some {mem : AM} {names : List Nat} {k : AM → Prop} (h : selMK mem names k) : ∃ f, k f := by
  have : ∀ (l : List Nat) (acc : AM), (List.rec (motive := fun _ => AM → Prop) (fun acc => k acc) (fun t _ ih acc => match lk mem t with | some v => ih ((t, v) :: acc) | none => ih acc) l acc : Prop) → ∃ f, k f := by
    intro l
    induction l with
    | nil => intro acc h; exact ⟨acc, h⟩
    | cons t l ih =>
      intro acc h
      simp only at h
      cases hl : lk mem t with
      | none => rw [hl] at h; exact ih _ h
      | some v => rw [hl] at h; exact ih _ h
  exact this names [] h
/-- A loop: slots and names that stay; what changes with the rounds. -/
def loopx (d : DQ) (body : SX) (fr : AF) (mem : AM) (nx : Nat) (K : Ex → AF → AM → Nat → Prop) : Prop :=
  selK fr d.sl fun fr0 => selMK mem d.L fun mem0 => ∃ (α : Type) (newF : α → AF) (newM : α → AM) (inv : α → Prop) (μ : α → Nat), (∃ x, inv x ∧ subF fr (newF x ++ fr0) ∧ keeps mem (newM x ++ mem0)) ∧
      ∀ x, inv x → (nmF nx (newF x ++ fr0) = true ∧ nmM nx (newM x ++ mem0) = true) ∧ body (newF x ++ fr0) (newM x ++ mem0) nx (seqK K fun fr' mem' _ => ∃ y, (inv y ∧ μ y < μ x) ∧ subF fr' (newF y ++ fr0) ∧ keeps mem' (newM y ++ mem0))
/-- The ways through the first part meet. -/
def cutx (d : DQ) (ia ib : SX) (fr : AF) (mem : AM) (nx : Nat) (K : Ex → AF → AM → Nat → Prop) : Prop :=
  selK fr d.sl fun fr0 => selMK mem d.L fun mem0 => ∃ (α : Type) (newF : α → AF) (newM : α → AM) (inv : α → Prop), ia fr mem nx (seqK K fun fr' mem' _ => ∃ y, inv y ∧ subF fr' (newF y ++ fr0) ∧ keeps mem' (newM y ++ mem0)) ∧
      ∀ y, inv y → (nx ≤ d.k ∧ nmF d.k (newF y ++ fr0) = true ∧ nmM d.k (newM y ++ mem0) = true) ∧ ib (newF y ++ fr0) (newM y ++ mem0) d.k K
/-- The same, where names of rows change. -/
def looprx (d : DQ) (body : SX) (fr : AF) (mem : AM) (nx : Nat) (K : Ex → AF → AM → Nat → Prop) : Prop :=
  selK fr d.sl fun fr0 => selMK mem d.L fun mem0 => ∃ (α : Type) (newF : α → AF) (newM : α → AM) (inv : α → Prop) (μ : α → Nat), (∃ x σ, inv x ∧ (rnLow nx σ = true ∧ noBox σ (newM x ++ mem0) = true) ∧ subFR fr σ (newF x ++ fr0) ∧ keepsR mem σ (newM x ++ mem0)) ∧
      ∀ x, inv x → (nx ≤ d.k ∧ nmF d.k (newF x ++ fr0) = true ∧ nmM d.k (newM x ++ mem0) = true) ∧ body (newF x ++ fr0) (newM x ++ mem0) d.k (seqK K fun fr' mem' _ => ∃ y σ, (inv y ∧ μ y < μ x) ∧ (rnLow nx σ = true ∧ noBox σ (newM y ++ mem0) = true) ∧ subFR fr' σ (newF y ++ fr0) ∧ keepsR mem' σ (newM y ++ mem0))
def cutrx (d : DQ) (ia ib : SX) (fr : AF) (mem : AM) (nx : Nat) (K : Ex → AF → AM → Nat → Prop) : Prop :=
  selK fr d.sl fun fr0 => selMK mem d.L fun mem0 => ∃ (α : Type) (newF : α → AF) (newM : α → AM) (inv : α → Prop), ia fr mem nx (seqK K fun fr' mem' _ => ∃ y σ, inv y ∧ (rnLow nx σ = true ∧ noBox σ (newM y ++ mem0) = true) ∧ subFR fr' σ (newF y ++ fr0) ∧ keepsR mem' σ (newM y ++ mem0)) ∧
      ∀ y, inv y → (nx ≤ d.k ∧ nmF d.k (newF y ++ fr0) = true ∧ nmM d.k (newM y ++ mem0) = true) ∧ ib (newF y ++ fr0) (newM y ++ mem0) d.k K
def firstR : Code → Option Nat
  | .region id _ _ => some id
  | .seq a b => (match firstR a with | some r => some r | none => firstR b)
  | .block _ a => firstR a
  | .loop a => firstR a
  | .scope a => firstR a
  | _ => none
/-- Is there a cut ahead of this code? It stands in the table under a million and the number of its first region; a loop under two millions and the number of its first region. -/
def condR : Code → Option Nat
  | .cond _ a b => (match firstR a with | some r => some r | none => firstR b)
  | .seq a _ => condR a
  | _ => none
/-- A cut ahead of a condition stands under five millions and the first region inside. -/
def isCut (D : List (Nat × DQ)) (c : Code) : Option DQ := match (match firstR c with | some r => lk D (1000000 + r) | none => none) with
  | some d => some d
  | none => (match condR c with | some r => lk D (5000000 + r) | none => none)
def isLoop (D : List (Nat × DQ)) (c : Code) : Option DQ := match firstR c with | some r => lk D (2000000 + r) | none => none
def isLoopR (D : List (Nat × DQ)) (c : Code) : Option DQ := match firstR c with | some r => lk D (3000000 + r) | none => none
def isCutR (D : List (Nat × DQ)) (c : Code) : Option DQ := match firstR c with | some r => lk D (4000000 + r) | none => none
def sx (τ : TT) (F : FT) (D : List (Nat × DQ)) (c : Code) : SX :=
  Code.rec (motive := fun _ => SX)
    (fun fr mem nx K => K .normal fr mem nx)
    (fun id ops draw fr mem nx K => regx τ F D id ops draw fr mem nx K)
    (fun _ b ia ib fr mem nx K => match isCut D b with
      | none => (match isCutR D b with
        | none => ia fr mem nx (seqK K fun fr' mem' nx' => ib fr' mem' nx' K)
        | some d => cutrx d ia ib fr mem nx K)
      | some d => cutx d ia ib fr mem nx K)
    (fun c _ _ ia ib fr mem nx K => condx c fr (fun fr' => ia fr' mem nx K) (fun fr' => ib fr' mem nx K))
    (fun id _ ia fr mem nx K => ia fr mem nx (blockK id K))
    (fun c ia fr mem nx K => match isLoop D c with | some d => loopx d ia fr mem nx K | none => (match isLoopR D c with | some d => looprx d ia fr mem nx K | none => False))
    (fun _ _ _ _ _ _ _ _ _ _ => False)
    (fun id fr mem nx K => K (.exit id) fr mem nx)
    (fun _ ia fr mem nx K => ia fr mem nx K)
    (fun _ fr mem nx K => K .normal fr mem nx)
    (fun _ _ _ _ _ => False)
    (fun fr mem nx K => K .ret fr mem nx)
    (fun _ _ _ _ _ => False) c
/-- The functions that are walked where they are called. -/
def inlOf (D : List (Nat × DQ)) : List Nat := match lk D 9000000 with | some d => d.L | none => []
def codeB (nt : Nat) (D : List (Nat × DQ)) : Code → Bool
  | .region id ops draw => (ops.toList.all fun o => match o.dst with | some d => decide (d < nt) | none => true) && (match draw with
    | false => true
    | true => (match lk D id with | some d => (match d.g with | none => dregB ops.toList d.toDP && (match d.A with | [] => true | _ :: _ => ops.toList.all fun o => inlOk (inlOf D) o.op) | some σ => gregB ops.toList d.k σ) | none => false))
  | .seq a b => codeB nt D a && codeB nt D b
  | .cond _ a b => codeB nt D a && codeB nt D b
  | .block _ a => codeB nt D a
  | .loop a => codeB nt D a
  | .scope a => codeB nt D a
  | _ => true

section
variable {P : Program} {τ : TT} {F : FT} {D : List (Nat × DQ)} {C : Ctx} {ρ : Nat → Pl} {fr : AF} {mem : AM} {nx : Nat} {a : Act} {w : World}
theorem subF_lk : ∀ {f : AF}, subF fr f → ∀ t v, lk f t = some v → lk fr t = some v
  | [], _, t, v, h => by simp [lk] at h
  | (k, u) :: l, hs, t, v, h => by
    rcases lk_cons h with ⟨rfl, rfl⟩ | ⟨_, h⟩
    · exact hs.1
    · exact subF_lk hs.2 t v h
/-- Names may be used again. -/
theorem Sat.lower (hC : C.ff = [] ∧ C.fm = []) (h : Sat C ρ fr mem nx a w) {n : Nat} (hf : nmF n fr = true) (hm : nmM n mem = true) (hn : C.n0 ≤ n) : Sat C ρ fr mem n a w := by
  simp only [nmF, List.all_eq_true] at hf
  simp only [nmM, List.all_eq_true, Bool.and_eq_true, decide_eq_true_eq] at hm
  refine ⟨⟨h.fok.frm, fun t v hv => ?_⟩, h.sz, h.dfr, fun i b hi => ?_, fun i b hi => ?_, h.sep, hn, h.low, h.rest⟩
  · have hv' := hv
    rw [hC.1, List.append_nil] at hv'
    exact nmV_ok (h.fok.frk t v hv) (hf _ (lk_mem hv'))
  · have hi' := hi
    rw [hC.2, List.append_nil] at hi'
    exact ⟨(hm _ (lk_mem hi')).1, (h.mlt i b hi).2⟩
  · have hi' := hi
    rw [hC.2, List.append_nil] at hi'
    have h1 := h.blk i b hi
    have h2 := (hm _ (lk_mem hi')).2
    cases b with
    | box t cs =>
      obtain ⟨g, e1, e2, e3, e4⟩ := h1
      simp only [nmB, List.all_eq_true] at h2
      exact ⟨g, e1, e2, e3, fun v hv => nm1_ok (e4 v hv) (h2 v hv)⟩
    | row t sz k el => exact h1
theorem loop_wp {x : Code} {Q : Exit → Act → World → Prop} {α : Type} {I : α → Act → World → Prop} (μ : α → Nat) (hround : ∀ y a w, I y a w → x.wp P (Exit.then (fun a' w' => ∃ z, μ z < μ y ∧ I z a' w') Q) a w) {y : α} {a : Act} {w : World} (h : I y a w) : (Code.loop x).wp P Q a w := by
  have main : ∀ n y, μ y = n → ∀ a w, I y a w → ∀ (b : Frame) (k : List Item) (cs : List Frame),
      ∃ e a' w', Q e a' w' ∧ Arrives P (lone (b.at a (.code x :: .inLoop x :: k)) cs w) b k cs e a' w' := by
    intro n
    induction n using Nat.strongRecOn with
    | _ n ih =>
      intro y hn a w hI b k cs
      obtain ⟨e, a1, w1, hq, harr⟩ := hround y a w hI b (.inLoop x :: k) cs
      cases e with
      | normal =>
        obtain ⟨z, hlt, hiz⟩ := hq
        obtain ⟨e2, a2, w2, hq2, harr2⟩ := ih (μ z) (by omega) z rfl a1 w1 hiz b k cs
        exact ⟨e2, a2, w2, hq2, .of_steps (Steps.trans harr (.one step_inLoop)) harr2⟩
      | exit i => exact ⟨_, a1, w1, hq, .pass (x := .inLoop x) rfl (fun _ _ => .inl (by simp)) harr⟩
      | goto l => exact ⟨_, a1, w1, hq, .pass (x := .inLoop x) rfl (fun _ _ => .inl (by simp)) harr⟩
      | ret => exact ⟨_, a1, w1, hq, .pass (x := .inLoop x) rfl (fun _ _ => .inl (by simp)) harr⟩
      | panic ch => exact ⟨_, a1, w1, hq, .pass (x := .inLoop x) rfl (fun _ _ => .inl (by simp)) harr⟩
      | outgrown => exact ⟨_, a1, w1, hq, .pass (x := .inLoop x) rfl (fun _ _ => .inl (by simp)) harr⟩
  intro b k cs
  obtain ⟨e, a', w', hq, harr⟩ := main (μ y) y rfl a w h b k cs
  exact ⟨e, a', w', hq, .of_steps (.one step_loop) harr⟩
theorem sx_sound (hτ : TTok P τ) (hF : FTokI P F (inlOf D)) (hmix : P.follows .mixedOrders = true) (hC : C.ff = [] ∧ C.fm = []) : ∀ (c : Code), codeB C.nt D c = true → ∀ (fr : AF) (mem : AM) (nx : Nat) (K : Ex → AF → AM → Nat → Prop) (ρ : Nat → Pl) (a : Act) (w : World) (Q : Exit → Act → World → Prop),
    sx τ F D c fr mem nx K → Sat C ρ fr mem nx a w → NoPanic Q → (∀ e fr' mem' nx' ρ' a' w', K e fr' mem' nx' → Sat C ρ' fr' mem' nx' a' w' → Q e.to a' w') → c.wp P Q a w := by
  intro c
  induction c with
  | skip => intro _ fr mem nx K ρ a w Q h hs hQ hK; exact wp_skip (hK .normal _ _ _ _ _ _ h hs)
  | label l => intro _ fr mem nx K ρ a w Q h hs hQ hK; exact wp_label (hK .normal _ _ _ _ _ _ h hs)
  | region id ops draw =>
    intro hB fr mem nx K ρ a w Q h hs hQ hK
    simp only [codeB, Bool.and_eq_true, List.all_eq_true] at hB
    obtain ⟨hd, hdr⟩ := hB
    have hd' : ∀ o ∈ ops.toList, ∀ i, o.dst = some i → i < C.nt := fun o ho i hi => by
      have := hd o ho
      rw [hi] at this
      simpa using this
    have e : ops = ops.toList.toArray := by simp
    cases draw with
    | false =>
      replace h : opsx τ F ops ops.toList [] fr mem nx (K .normal) := h
      rw [e]
      refine wp_region_lit ?_
      rw [← e]
      exact opsx_sound hτ hF hC.2 ops.toList hd' [] fr mem nx ρ a w h hs (fun fr' mem' nx' ρ' a' w' hk hs' _ => hK .normal _ _ _ _ _ _ hk hs')
    | true =>
      replace h : (match lk D id with
        | some d => (match d.g with
          | none => dregx τ F ops.toList d.toDP fr mem nx (K .normal)
          | some σ => gregx τ F ops.toList d.k d.L σ fr mem nx (K .normal))
        | none => False) := h
      simp only at hdr
      cases hD : lk D id with
      | none => rw [hD] at h; exact h.elim
      | some d =>
        rw [hD] at h hdr
        simp only at h hdr
        rw [e]
        cases hg : d.g with
        | none =>
          rw [hg] at h hdr
          simp only [Bool.and_eq_true] at hdr
          refine dregx_sound hτ hF hmix hQ hC (?_ : d.A = [] ∨ ∀ o ∈ ops.toList, inlOk (inlOf D) o.op = true) hdr.1 hd' h hs (fun fr' mem' nx' ρ' a' w' hk hs' => hK .normal _ _ _ _ _ _ hk hs')
          cases hdA : d.A with
          | nil => exact .inl rfl
          | cons x y =>
            have q := hdr.2
            rw [hdA] at q
            exact .inr (List.all_eq_true.1 q)
        | some σ =>
          rw [hg] at h hdr
          exact gregx_sound hτ hF hC.2 hmix hQ hdr hd' h hs (fun fr' mem' nx' ρ' a' w' hk hs' => hK .normal _ _ _ _ _ _ hk hs')
  | seq x y ihx ihy =>
    intro hB fr mem nx K ρ a w Q h hs hQ hK
    simp only [codeB, Bool.and_eq_true] at hB
    replace h : (match isCut D y with | none => (match isCutR D y with | none => sx τ F D x fr mem nx (seqK K fun fr' mem' nx' => sx τ F D y fr' mem' nx' K) | some d => cutrx d (sx τ F D x) (sx τ F D y) fr mem nx K) | some d => cutx d (sx τ F D x) (sx τ F D y) fr mem nx K) := h
    cases hcut : isCut D y with
    | none =>
      rw [hcut] at h
      simp only at h
      cases hcr : isCutR D y with
      | none =>
        rw [hcr] at h
        refine wp_seq (ihx hB.1 fr mem nx _ ρ a w _ h hs (fun c a w hq => hQ c a w hq) ?_)
        intro e fr' mem' nx' ρ' a' w' hk hs'
        cases e with
        | normal => exact ihy hB.2 fr' mem' nx' K ρ' a' w' Q hk hs' hQ hK
        | exit i => exact hK (.exit i) _ _ _ _ _ _ hk hs'
        | ret => exact hK .ret _ _ _ _ _ _ hk hs'
      | some d =>
        rw [hcr] at h
        obtain ⟨fr0, h⟩ := selK_some h
        obtain ⟨mem0, α, newF, newM, inv, hfst, hsnd⟩ := selMK_some h
        refine wp_seq (ihx hB.1 fr mem nx _ ρ a w _ hfst hs (fun c a w hq => hQ c a w hq) ?_)
        intro e fr' mem' nx' ρ' a' w' hk hs'
        cases e with
        | normal =>
          obtain ⟨z, σ, hiz, ⟨hlw, hnb⟩, hfz, hmz⟩ := hk
          obtain ⟨⟨hnx, hnf, hnm⟩, hb⟩ := hsnd z hiz
          exact ihy hB.2 _ _ d.k K _ a' w' Q hb (hs'.rename hC hs.n0 hlw (Nat.le_trans hs.n0 hnx) hfz hmz hnb hnf hnm) hQ hK
        | exit i => exact hK (.exit i) _ _ _ _ _ _ hk hs'
        | ret => exact hK .ret _ _ _ _ _ _ hk hs'
    | some d =>
      rw [hcut] at h
      obtain ⟨fr0, h⟩ := selK_some h
      obtain ⟨mem0, α, newF, newM, inv, hfst, hsnd⟩ := selMK_some h
      refine wp_seq (ihx hB.1 fr mem nx _ ρ a w _ hfst hs (fun c a w hq => hQ c a w hq) ?_)
      intro e fr' mem' nx' ρ' a' w' hk hs'
      cases e with
      | normal =>
        obtain ⟨z, hiz, hfz, hmz⟩ := hk
        obtain ⟨⟨hnx, hnf, hnm⟩, hb⟩ := hsnd z hiz
        have hless : Sat C ρ' (newF z ++ fr0) (newM z ++ mem0) nx' a' w' := hs'.less (fun t v hv => by rw [hC.1, List.append_nil] at hv ⊢; exact subF_lk hfz t v hv) (fun i b hb => by rw [hC.2, List.append_nil] at hb ⊢; exact keeps_lk hmz i b hb)
        exact ihy hB.2 _ _ d.k K ρ' a' w' Q hb (hless.lower hC hnf hnm (Nat.le_trans hs.n0 hnx)) hQ hK
      | exit i => exact hK (.exit i) _ _ _ _ _ _ hk hs'
      | ret => exact hK .ret _ _ _ _ _ _ hk hs'
  | cond c x y ihx ihy =>
    intro hB fr mem nx K ρ a w Q h hs hQ hK
    simp only [codeB, Bool.and_eq_true] at hB
    replace h : condx c fr (fun fr' => sx τ F D x fr' mem nx K) (fun fr' => sx τ F D y fr' mem nx K) := h
    unfold condx at h
    cases hc : ev fr c with
    | none => rw [hc] at h; exact h.elim
    | some v =>
      rw [hc] at h
      cases v <;> simp only at h <;> first | exact h.elim | skip
      rename_i t
      have he : a.eval c = .bool t := (ev_ok hs.fok.left hc).1
      have hset : ∀ b : Bool, t = b → Sat C ρ (setC c b fr) mem nx a w := by
        rintro b rfl
        cases c with
        | tmp d =>
          have hv : lk fr d = some (.bool t) := hc
          refine hs.frm ⟨fun u v hu => ?_, fun u v hu => ?_⟩
          · rcases lk_cons (l := fr ++ C.ff) hu with ⟨rfl, rfl⟩ | ⟨_, hu⟩
            · exact hs.fok.frm _ _ (lk_app hv)
            · exact hs.fok.frm u v hu
          · rcases lk_cons (l := fr ++ C.ff) hu with ⟨rfl, rfl⟩ | ⟨_, hu⟩
            · trivial
            · exact hs.fok.frk u v hu
        | _ => exact hs
      exact wp_cond_split he (fun ht => ihx hB.1 _ mem nx K ρ a w Q (h.1 ht) (hset true ht) hQ hK) (fun ht => ihy hB.2 _ mem nx K ρ a w Q (h.2 ht) (hset false ht) hQ hK)
  | block id x ihx =>
    intro hB fr mem nx K ρ a w Q h hs hQ hK
    simp only [codeB] at hB
    replace h : sx τ F D x fr mem nx (blockK id K) := h
    refine wp_block (ihx hB fr mem nx _ ρ a w _ h hs (fun c a w hq => hQ c a w hq) ?_)
    intro e fr' mem' nx' ρ' a' w' hk hs'
    cases e with
    | normal => exact hK .normal _ _ _ _ _ _ hk hs'
    | ret => exact hK .ret _ _ _ _ _ _ hk hs'
    | exit i =>
      simp only [blockK] at hk
      show Exit.inBlock id Q (.exit i) a' w'
      simp only [Exit.inBlock]
      cases hb : Nat.beq i id with
      | true =>
        rw [hb] at hk
        rw [if_pos (Nat.eq_of_beq_eq_true hb)]
        exact hK .normal _ _ _ _ _ _ hk hs'
      | false =>
        rw [hb] at hk
        rw [if_neg (by rintro rfl; rw [Nat.beq_refl] at hb; cases hb)]
        exact hK (.exit i) _ _ _ _ _ _ hk hs'
  | loop x ihx =>
    intro hB fr mem nx K ρ a w Q h hs hQ hK
    simp only [codeB] at hB
    replace h : (match isLoop D x with | some d => loopx d (sx τ F D x) fr mem nx K | none => (match isLoopR D x with | some d => looprx d (sx τ F D x) fr mem nx K | none => False)) := h
    cases hlp : isLoop D x with
    | none =>
      rw [hlp] at h
      simp only at h
      cases hlr : isLoopR D x with
      | none => rw [hlr] at h; exact h.elim
      | some d =>
        rw [hlr] at h
        obtain ⟨fr0, h⟩ := selK_some h
        obtain ⟨mem0, α, newF, newM, inv, μ, ⟨x0, σ0, hi0, ⟨hlw0, hnb0⟩, hf0, hm0⟩, hround⟩ := selMK_some h
        refine loop_wp (I := fun y a w => inv y ∧ ∃ ρ, Sat C ρ (newF y ++ fr0) (newM y ++ mem0) d.k a w) μ ?_ (y := x0) ?_
        · rintro y a w ⟨hi, ρ, hsy⟩
          obtain ⟨⟨hnx, hnf, hnm⟩, hbody⟩ := hround y hi
          refine ihx hB (newF y ++ fr0) (newM y ++ mem0) d.k _ ρ a w _ hbody hsy (fun c a w hq => hQ c a w hq) ?_
          intro e fr' mem' nx' ρ' a' w' hk hs'
          cases e with
          | normal =>
            obtain ⟨z, σ, ⟨hiz, hμ⟩, ⟨hlw, hnb⟩, hfz, hmz⟩ := hk
            obtain ⟨⟨-, hnfz, hnmz⟩, -⟩ := hround z hiz
            exact ⟨z, hμ, hiz, _, hs'.rename hC hs.n0 hlw (Nat.le_trans hs.n0 hnx) hfz hmz hnb hnfz hnmz⟩
          | exit i => exact hK (.exit i) _ _ _ _ _ _ hk hs'
          | ret => exact hK .ret _ _ _ _ _ _ hk hs'
        · obtain ⟨⟨hnx, hnf, hnm⟩, -⟩ := hround x0 hi0
          exact ⟨hi0, _, hs.rename hC hs.n0 hlw0 (Nat.le_trans hs.n0 hnx) hf0 hm0 hnb0 hnf hnm⟩
    | some d =>
      rw [hlp] at h
      obtain ⟨fr0, h⟩ := selK_some h
      obtain ⟨mem0, α, newF, newM, inv, μ, ⟨x0, hi0, hf0, hm0⟩, hround⟩ := selMK_some h
      have less : ∀ {fr mem : _} {f : AF} {m : AM} {nx' : Nat} {ρ a w}, Sat C ρ fr mem nx' a w → subF fr f → keeps mem m → Sat C ρ f m nx' a w := fun h hf hm =>
        h.less (fun t v hv => by rw [hC.1, List.append_nil] at hv ⊢; exact subF_lk hf t v hv) (fun i b hb => by rw [hC.2, List.append_nil] at hb ⊢; exact keeps_lk hm i b hb)
      refine loop_wp (I := fun y a w => inv y ∧ ∃ ρ, Sat C ρ (newF y ++ fr0) (newM y ++ mem0) nx a w) μ ?_ (y := x0) ⟨hi0, ρ, less hs hf0 hm0⟩
      rintro y a w ⟨hi, ρ, hsy⟩
      obtain ⟨⟨hnf, hnm⟩, hbody⟩ := hround y hi
      refine ihx hB (newF y ++ fr0) (newM y ++ mem0) nx _ ρ a w _ hbody hsy (fun c a w hq => hQ c a w hq) ?_
      intro e fr' mem' nx' ρ' a' w' hk hs'
      cases e with
      | normal =>
        obtain ⟨z, ⟨hiz, hμ⟩, hfz, hmz⟩ := hk
        obtain ⟨⟨hnfz, hnmz⟩, -⟩ := hround z hiz
        exact ⟨z, hμ, hiz, ρ', (less hs' hfz hmz).lower hC hnfz hnmz hs.n0⟩
      | exit i => exact hK (.exit i) _ _ _ _ _ _ hk hs'
      | ret => exact hK .ret _ _ _ _ _ _ hk hs'
  | scope x ihx =>
    intro hB fr mem nx K ρ a w Q h hs hQ hK
    simp only [codeB] at hB
    replace h : sx τ F D x fr mem nx K := h
    refine wp_scope_straight (ihx hB fr mem nx K ρ a w _ h hs (fun c a w hq => hQ c a w hq) ?_)
    intro e fr' mem' nx' ρ' a' w' hk hs'
    cases e <;> exact hK _ _ _ _ _ _ _ hk hs'
  | exit id => intro _ fr mem nx K ρ a w Q h hs hQ hK; exact wp_exit (hK (.exit id) _ _ _ _ _ _ h hs)
  | ret => intro _ fr mem nx K ρ a w Q h hs hQ hK; exact wp_ret (hK .ret _ _ _ _ _ _ h hs)
  | _ => intro _ fr mem nx K ρ a w Q h hs hQ hK; exact (show False from h).elim
end
end Go.Proofs.YtnnpgbleacapfaaGreat

namespace Go.Proofs.YtnnpgbleacapfaaGreat
open Go.RowKit
set_option linter.unusedSimpArgs false
set_option linter.unusedVariables false

def notTup : Value → Bool
  | .tuple _ => false
  | .func _ _ _ => false
  | _ => true
def res1 (τ : TT) (fr : AF) (mem : AM) : ResultVar → Option Value
  | .tmp t => (match lk fr t with | some v => (match notTup v with | true => some v | false => none) | none => none)
  | .cell t ty => (match lk fr t with | some p => (match ldx τ mem ty p with | some v => (match notTup v with | true => some v | false => none) | none => none) | none => none)
def resx (τ : TT) (fr : AF) (mem : AM) : List ResultVar → Option Value
  | [] => some (.tuple #[])
  | [r] => res1 τ fr mem r
  | [r, s] => (match res1 τ fr mem r with | some v => (match res1 τ fr mem s with | some u => some (.tuple #[v, u]) | none => none) | none => none)
  | [r, s, t] => (match res1 τ fr mem r with | some v => (match res1 τ fr mem s with | some u => (match res1 τ fr mem t with | some x => some (.tuple #[v, u, x]) | none => none) | none => none) | none => none)
  | _ => none
def argF : Nat → List Value → AF
  | _, [] => []
  | i, v :: r => (i, v) :: argF (i + 1) r

section
variable {P : Program} {τ : TT} {F : FT} {D : List (Nat × DQ)} {C : Ctx} {ρ : Nat → Pl} {fr : AF} {mem : AM} {nx : Nat} {a : Act} {w : World}
/-- How one result is read. -/
def rv (tmps : Array Value) : ResultVar → Sem Value
  | .tmp t => pure (tmps.getD t undef)
  | .cell a t => do loadVar t (← asAddr (tmps.getD a undef))
theorem notTup_den {v : Value} (h : notTup v = true) : den ρ v = den2 ρ v ∧ okV ρ nx v = ok2 ρ nx v := by
  cases v <;> first | exact ⟨rfl, rfl⟩ | simp [notTup] at h
theorem res1_run (hτ : TTok P τ) (hf : FrOk ρ fr nx a) (hm : ∀ i b, lk mem i = some b → BlkOk C ρ nx i w b) {r : ResultVar} {v : Value} (h : res1 τ fr mem r = some v) : (rv a.tmps r).run P w = .ok (den ρ v) w ∧ okV ρ nx v ∧ notTup v = true := by
  cases r with
  | tmp t =>
    simp only [res1] at h
    cases hv : lk fr t with
    | none => rw [hv] at h; simp at h
    | some u =>
      rw [hv] at h
      simp only at h
      cases hn : notTup u with
      | false => rw [hn] at h; simp at h
      | true =>
        rw [hn] at h
        simp at h
        subst h
        have := hf.frm t u hv
        exact ⟨by simp [rv, Array.getD_eq_getD_getElem?, this], hf.frk t u hv, hn⟩
  | cell t ty =>
    simp only [res1] at h
    cases hv : lk fr t with
    | none => rw [hv] at h; simp at h
    | some p =>
      rw [hv] at h
      simp only at h
      cases hl : ldx τ mem ty p with
      | none => rw [hl] at h; simp at h
      | some u =>
        rw [hl] at h
        simp only at h
        cases hn : notTup u with
        | false => rw [hn] at h; simp at h
        | true =>
          rw [hn] at h
          simp at h
          subst h
          obtain ⟨h1, h2⟩ := ldx_run (P := P) hτ hm (hf.frk t p hv) hl
          refine ⟨?_, h2, hn⟩
          have h3 := hf.frm t p hv
          have hpt : ∃ ad, p = .pointer (some ad) := by
            cases p <;> first | (simp [ldx] at hl; done) | skip
            rename_i q
            cases q with
            | none => simp [ldx] at hl
            | some ad => exact ⟨ad, rfl⟩
          obtain ⟨ad, rfl⟩ := hpt
          have hd : den ρ (.pointer (some ad)) = .pointer (dA ρ ad) := rfl
          rw [hd] at h1 h3
          cases hA : dA ρ ad with
          | none => rw [hA] at h1; simp [Instr.loadAt, Instr.sureAddr] at h1
          | some c =>
            rw [hA] at h1 h3
            simp only [Instr.loadAt, Instr.sureAddr, Sem.run_bind, Sem.run_pure, Result.andThen_ok] at h1
            simp [rv, Array.getD_eq_getD_getElem?, h3, asAddr, h1]
theorem results_rv (fn : Func) (tmps : Array Value) : results fn tmps = (do
    let vs ← fn.results.mapM (rv tmps)
    pure (if h : vs.size = 1 then vs[0] else .tuple vs)) := by
  unfold results
  congr 1
theorem results1 {fn : Func} {r : ResultVar} (h : fn.results = #[r]) {tmps : Array Value} {v : Value} (h1 : (rv tmps r).run P w = .ok v w) : (results fn tmps).run P w = .ok v w := by
  simp [results_rv, h, h1]
theorem results2 {fn : Func} {r s : ResultVar} (h : fn.results = #[r, s]) {tmps : Array Value} {v u : Value} (h1 : (rv tmps r).run P w = .ok v w) (h2 : (rv tmps s).run P w = .ok u w) : (results fn tmps).run P w = .ok (.tuple #[v, u]) w := by
  simp [results_rv, h, h1, h2]
theorem results3 {fn : Func} {r s t : ResultVar} (h : fn.results = #[r, s, t]) {tmps : Array Value} {v u x : Value} (h1 : (rv tmps r).run P w = .ok v w) (h2 : (rv tmps s).run P w = .ok u w) (h3 : (rv tmps t).run P w = .ok x w) : (results fn tmps).run P w = .ok (.tuple #[v, u, x]) w := by
  simp [results_rv, h, h1, h2, h3]
theorem resx_run (hτ : TTok P τ) (hf : FrOk ρ fr nx a) (hm : ∀ i b, lk mem i = some b → BlkOk C ρ nx i w b) {fn : Func} {v : Value} (h : resx τ fr mem fn.results.toList = some v) : (results fn a.tmps).run P w = .ok (den ρ v) w ∧ okV ρ nx v := by
  have e : ∀ l, fn.results.toList = l → fn.results = l.toArray := fun l hl => by rw [← hl]
  match hl : fn.results.toList, h with
  | [], h =>
    simp only [resx, Option.some.injEq] at h
    subst h
    exact ⟨by simp [results, e _ hl, den], okV_undef⟩
  | [r], h =>
    obtain ⟨h1, h2, -⟩ := res1_run (P := P) hτ hf hm h
    exact ⟨results1 (e _ hl) h1, h2⟩
  | [r, s], h =>
    simp only [resx] at h
    cases hr : res1 τ fr mem r with
    | none => rw [hr] at h; simp at h
    | some x =>
      cases hs : res1 τ fr mem s with
      | none => rw [hr, hs] at h; simp at h
      | some y =>
        rw [hr, hs] at h
        simp at h
        subst h
        obtain ⟨h1, h2, h3⟩ := res1_run (P := P) hτ hf hm hr
        obtain ⟨k1, k2, k3⟩ := res1_run (P := P) hτ hf hm hs
        refine ⟨?_, ?_⟩
        · have := results2 (P := P) (e _ hl) h1 k1
          rw [this]
          rw [show den ρ (.tuple #[x, y]) = .tuple #[den2 ρ x, den2 ρ y] by simp [den], (notTup_den (ρ := ρ) (nx := nx) h3).1, (notTup_den (ρ := ρ) (nx := nx) k3).1]
        · rw [(notTup_den h3).2] at h2
          rw [(notTup_den k3).2] at k2
          intro z hz
          simp at hz
          rcases hz with rfl | rfl
          · exact h2
          · exact k2
  | [r, s, t], h =>
    simp only [resx] at h
    cases hr : res1 τ fr mem r with
    | none => rw [hr] at h; simp at h
    | some x =>
      cases hs : res1 τ fr mem s with
      | none => rw [hr, hs] at h; simp at h
      | some y =>
        cases ht : res1 τ fr mem t with
        | none => rw [hr, hs, ht] at h; simp at h
        | some z0 =>
          rw [hr, hs, ht] at h
          simp at h
          subst h
          obtain ⟨h1, h2, h3⟩ := res1_run (P := P) hτ hf hm hr
          obtain ⟨k1, k2, k3⟩ := res1_run (P := P) hτ hf hm hs
          obtain ⟨m1, m2, m3⟩ := res1_run (P := P) hτ hf hm ht
          refine ⟨?_, ?_⟩
          · have := results3 (P := P) (e _ hl) h1 k1 m1
            rw [this]
            rw [show den ρ (.tuple #[x, y, z0]) = .tuple #[den2 ρ x, den2 ρ y, den2 ρ z0] by simp [den], (notTup_den (ρ := ρ) (nx := nx) h3).1, (notTup_den (ρ := ρ) (nx := nx) k3).1, (notTup_den (ρ := ρ) (nx := nx) m3).1]
          · rw [(notTup_den h3).2] at h2
            rw [(notTup_den k3).2] at k2
            rw [(notTup_den m3).2] at m2
            intro z hz
            simp at hz
            rcases hz with rfl | rfl | rfl
            · exact h2
            · exact k2
            · exact m2
  | _ :: _ :: _ :: _ :: _, h => simp [resx] at h
theorem argF_lk : ∀ {vs : List Value} {i t : Nat} {v : Value}, lk (argF i vs) t = some v → ∃ j, t = i + j ∧ vs[j]? = some v
  | [], i, t, v, h => by simp [argF, lk] at h
  | u :: r, i, t, v, h => by
    rcases lk_cons h with ⟨rfl, rfl⟩ | ⟨_, h⟩
    · exact ⟨0, by omega, rfl⟩
    · obtain ⟨j, rfl, hj⟩ := argF_lk h
      exact ⟨j + 1, by omega, by simpa using hj⟩
/-- Memory, apart from any frame. -/
structure MemAt (C : Ctx) (ρ : Nat → Pl) (mem : AM) (nx : Nat) (w : World) : Prop where
  mlt : ∀ i b, lk mem i = some b → i < nx ∧ (ρ i).res = false
  blk : ∀ i b, lk mem i = some b → BlkOk C ρ nx i w b
  sep : ∀ i j b b', i ≠ j → lk mem i = some b → lk mem j = some b' → Apart ρ i j b b'
  n0 : C.n0 ≤ nx
  low : ∀ i, i < C.n0 → ρ i = C.ρ0 i
  rest : Rest C w
/-- How a call leaves. -/
def endx (τ : TT) (rs : List ResultVar) (R : Value → AM → Nat → Prop) (e : Ex) (fr : AF) (mem : AM) (nx : Nat) : Prop :=
  match e with
  | .exit _ => False
  | _ => (match resx τ fr mem rs with | some v => R v mem nx | none => False)
theorem calls_sxI (hτ : TTok P τ) (hF : FTokI P F (inlOf D)) (hmix : P.follows .mixedOrders = true) {f : FuncId} {fn : Func} {c : Code} (hf : P.funcs[f]? = some fn) (hb : fn.body = some c) (hcode : codeB fn.ntmps D c = true) {vs : List Value} (hn0 : Nat.ble vs.length fn.ntmps = true)
    (hC : C.ff = [] ∧ C.fm = []) (hnt : C.nt = fn.ntmps) (hm : MemAt C ρ mem nx w) (hv : ∀ v ∈ vs, okV ρ nx v) {R : Value → AM → Nat → Prop} (h : sx τ F D c (argF 0 vs) mem nx (endx τ fn.results.toList R)) :
    Calls P f (vs.map (den ρ)).toArray w fun e w' => ∃ v mem' nx' ρ', e = .returned (den ρ' v) ∧ R v mem' nx' ∧ okV ρ' nx' v ∧ MemAt C ρ' mem' nx' w' := by
  have hn : vs.length ≤ fn.ntmps := Nat.le_of_ble_eq_true hn0
  refine calls_of_wp hf hb ?_
  have hs : Sat C ρ (argF 0 vs) mem nx { tmps := (vs.map (den ρ)).toArray ++ Array.replicate (fn.ntmps - (vs.map (den ρ)).toArray.size) undef, defers := [] } w := by
    refine ⟨⟨fun t v hv' => ?_, fun t v hv' => ?_⟩, ?_, rfl, fun i b hi => ?_, fun i b hi => ?_, fun i j b b' hne hi hj => ?_, hm.n0, hm.low, hm.rest⟩
    · rw [hC.1, List.append_nil] at hv'
      obtain ⟨j, rfl, hj⟩ := argF_lk hv'
      have hjl : j < vs.length := (List.getElem?_eq_some_iff.1 hj).1
      simp only [Nat.zero_add]
      rw [Array.getElem?_append_left (by simpa using hjl)]
      simp [hj]
    · rw [hC.1, List.append_nil] at hv'
      obtain ⟨j, rfl, hj⟩ := argF_lk hv'
      exact hv v (List.mem_of_getElem? hj)
    · simp [hnt]; omega
    · rw [hC.2, List.append_nil] at hi; exact hm.mlt i b hi
    · rw [hC.2, List.append_nil] at hi; exact hm.blk i b hi
    · rw [hC.2, List.append_nil] at hi hj; exact hm.sep i j b b' hne hi hj
  have hend : ∀ e fr' mem' nx' ρ' a' w', endx τ fn.results.toList R e fr' mem' nx' → Sat C ρ' fr' mem' nx' a' w' → bodyPost P fn (fun e w' => ∃ v mem' nx' ρ', e = .returned (den ρ' v) ∧ R v mem' nx' ∧ okV ρ' nx' v ∧ MemAt C ρ' mem' nx' w') e.to a' w' := by
    intro e fr' mem' nx' ρ' a' w' he hs'
    have hok : ∀ (he : (match resx τ fr' mem' fn.results.toList with | some v => R v mem' nx' | none => False)), a'.defers = [] ∧ ∃ v, (results fn a'.tmps).run P w' = .ok v w' ∧ ∃ v2 mem' nx' ρ', Ending.returned v = .returned (den ρ' v2) ∧ R v2 mem' nx' ∧ okV ρ' nx' v2 ∧ MemAt C ρ' mem' nx' w' := by
      intro he
      cases hr : resx τ fr' mem' fn.results.toList with
      | none => rw [hr] at he; exact he.elim
      | some v =>
        rw [hr] at he
        obtain ⟨h1, h2⟩ := resx_run (P := P) hτ hs'.fok.left (fun i b hi => hs'.blk i b (lk_app hi)) hr
        exact ⟨hs'.dfr, _, h1, v, mem', nx', ρ', rfl, he, h2, ⟨fun i b hi => hs'.mlt i b (lk_app hi), fun i b hi => hs'.blk i b (lk_app hi), fun i j b b' hne hi hj => hs'.sep i j b b' hne (lk_app hi) (lk_app hj), hs'.n0, hs'.low, hs'.rest⟩⟩
    cases e with
    | exit i => exact he.elim
    | normal => exact hok he
    | ret => exact hok he
  exact sx_sound hτ hF hmix hC c (by rw [hnt]; exact hcode) _ _ _ _ ρ _ w _ h hs (fun c a w hq => by obtain ⟨-, v, _, _, _, hq, -⟩ := hq; cases hq) hend
theorem calls_sx (hτ : TTok P τ) (hF : FTok P F) (hmix : P.follows .mixedOrders = true) {f : FuncId} {fn : Func} {c : Code} (hf : P.funcs[f]? = some fn) (hb : fn.body = some c) (hcode : codeB fn.ntmps D c = true) {vs : List Value} (hn0 : Nat.ble vs.length fn.ntmps = true)
    (hC : C.ff = [] ∧ C.fm = []) (hnt : C.nt = fn.ntmps) (hm : MemAt C ρ mem nx w) (hv : ∀ v ∈ vs, okV ρ nx v) {R : Value → AM → Nat → Prop} (h : sx τ F D c (argF 0 vs) mem nx (endx τ fn.results.toList R)) :
    Calls P f (vs.map (den ρ)).toArray w fun e w' => ∃ v mem' nx' ρ', e = .returned (den ρ' v) ∧ R v mem' nx' ∧ okV ρ' nx' v ∧ MemAt C ρ' mem' nx' w' := calls_sxI hτ (hF.i _) hmix hf hb hcode hn0 hC hnt hm hv h
/-- A function that is walked where it is called. -/
def ctInl (τ : TT) (F : FT) (D : List (Nat × DQ)) (fn : Func) (c : Code) : CT := fun vs mem nx K => match Nat.ble vs.length fn.ntmps with
  | true => sx τ F D c (argF 0 vs) mem nx (endx τ fn.results.toList K)
  | false => False
theorem inl_ok (hτ : TTok P τ) (hF : FTokI P F (inlOf D)) (hmix : P.follows .mixedOrders = true) {f : FuncId} {fn : Func} {c : Code} (hent : (P.funcs[f]?).map (fun fn => (fn.name == "runtime.NumGoroutine", fn.body.isNone)) = some (false, false)) (hf : P.funcs[f]? = some fn) (hb : fn.body = some c) (hcode : codeB fn.ntmps D c = true) {I : List Nat} (hI : I.contains f = true) : CSoundI P I f (ctInl τ F D fn c) := by
  intro C hor
  have hfm : C.fm = [] := hor.resolve_right (by rw [hI]; decide)
  refine ⟨hent, ?_⟩
  intro ρ fr mem nx a w vs K hc hs hv
  unfold ctInl at hc
  cases hn : Nat.ble vs.length fn.ntmps with
  | false => rw [hn] at hc; exact hc.elim
  | true =>
    rw [hn] at hc
    have hl : ∀ i b, lk mem i = some b → lk (mem ++ C.fm) i = some b := fun i b hi => lk_app hi
    have hm : MemAt { C with n0 := nx, ρ0 := ρ, nt := fn.ntmps, ff := [], fm := [] } ρ mem nx w :=
      ⟨fun i b hi => hs.mlt i b (hl i b hi), fun i b hi => by have := hs.blk i b (hl i b hi); cases b <;> exact this, fun i j b b' hne hi hj => hs.sep i j b b' hne (hl i b hi) (hl j b' hj), Nat.le_refl _, fun _ _ => rfl, ⟨hs.rest.os, hs.rest.tape, hs.rest.output, hs.rest.size, hs.rest.block⟩⟩
    refine (calls_sxI hτ hF hmix hf hb hcode hn ⟨rfl, rfl⟩ rfl hm hv hc).mono ?_
    rintro e w' ⟨v, mem', nx', ρ', rfl, hK, hv', hm'⟩
    have hlow : ∀ i, i < nx → ρ' i = ρ i := fun i hi => hm'.low i hi
    have hnx : nx ≤ nx' := hm'.n0
    have hf' : ∀ i b, lk (mem' ++ C.fm) i = some b → lk mem' i = some b := fun i b hi => by rw [hfm, List.append_nil] at hi; exact hi
    refine ⟨v, mem', nx', ρ', rfl, hK, ⟨⟨fun t u hu => ?_, fun t u hu => okV_mono (fun j hj _ => hlow j hj) hnx (hs.fok.frk t u hu)⟩, hs.sz, hs.dfr, fun i b hi => hm'.mlt i b (hf' i b hi), fun i b hi => by have := hm'.blk i b (hf' i b hi); cases b <;> exact this, fun i j b b' hne hi hj => hm'.sep i j b b' hne (hf' i b hi) (hf' j b' hj), Nat.le_trans hs.n0 hnx, fun i hi => (hlow i (Nat.lt_of_lt_of_le hi hs.n0)).trans (hs.low i hi), ⟨hm'.rest.os, hm'.rest.tape, hm'.rest.output, hm'.rest.size, hm'.rest.block⟩⟩, hv', ⟨hlow, hnx⟩⟩
    rw [den_congr (fun j hj _ => hlow j hj) (hs.fok.frk t u hu)]
    exact hs.fok.frm t u hu
end
end Go.Proofs.YtnnpgbleacapfaaGreat

namespace Go.Proofs.YtnnpgbleacapfaaGreat
open Go.RowKit
set_option linter.unusedSimpArgs false
set_option linter.unusedVariables false

theorem mod_of_tmod (v n : Int) : (v.tmod n + n) % n = v % n := by
  have h := Int.mul_tdiv_add_tmod v n
  have h2 : (v.tmod n + n) % n = (v.tmod n) % n := by simp
  rw [h2]
  conv => rhs; rw [← h]
  rw [Int.mul_add_emod_self_left]

set_option maxHeartbeats 400000 in
theorem mkMod_any (v n : Int) (w : World) (hn : 1 ≤ n) (hn2 : n ≤ 2147483648) :
    Calls Tryz.prog 96 #[.int .i64 v, .int .i64 n] w fun e w' => e = .returned (.int .i64 (v % n)) ∧ w = w' := by
  have hne : (n == 0) = false := by simp; omega
  have h1 : v.tmod n < n := Int.tmod_lt_of_pos _ (by omega)
  have h2 : -n < v.tmod n := Int.lt_tmod_of_pos _ (by omega)
  have H := Lib.hid (mod_of_tmod v n)
  go_enter Tryz.func96, Tryz.ntmps96
  go_wp2
  go_ret
  exact ⟨ret_i64 H.out, rfl⟩

set_option maxHeartbeats 400000 in
theorem mkBetween_any (v lo hi : Int) (w : World) (hn : lo ≤ hi) (h1 : -1000000 ≤ lo) (h2 : hi ≤ 1000000) :
    Calls Tryz.prog 54 #[.int .i64 v, .int .i64 lo, .int .i64 hi] w fun e w' => (∃ r, lo ≤ r ∧ r ≤ hi ∧ r = lo + v % (hi - lo + 1) ∧ e = .returned (.int .i64 r)) ∧ w = w' := by
  have H1 := Lib.hid (Int.emod_nonneg v (b := hi - lo + 1) (by omega))
  have H2 := Lib.hid (Int.emod_lt_of_pos v (b := hi - lo + 1) (by omega))
  have h3 := H1.out
  have h4 := H2.out
  go_enter Tryz.func54, Tryz.ntmps54
  go_wp2_with (go_at_call 96; refine (mkMod_any _ _ _ (by omega) (by omega)).mono ?_; rintro e w' ⟨rfl, rfl⟩)
  go_ret
  exact ⟨⟨_, by omega, by omega, rfl, rfl⟩, rfl⟩

/-- What the tape gives at its place k, and the place behind it. -/
def nextV (zs : List Int) (k : Nat) (n : Int) : Int := if zs = [] then 0 else ((zs.getD (k % zs.length) 0) % 1073741824 + (k / zs.length : Nat) * 7) % n
def nextK (zs : List Int) (k : Nat) : Nat := if zs = [] then k else k + 1

/-- Block g is a tape over the numbers zs, at its place k. -/
structure TapeAt (w : World) (g : Nat) (A : Option Addr) (cap : Nat) (zs : List Int) (k : Nat) : Prop where
  short : zs.length ≤ 400
  row : Rd w (· < g) A (zs.map (Value.int .i64))
  blk : Blk w g 125 #[.slice A zs.length cap, .int .i64 k]

section
variable {w w' : World} {g : Nat} {A : Option Addr} {cap : Nat} {zs : List Int} {k : Nat}
theorem TapeAt.drewN (h : TapeAt w g A cap zs k) (n : Nat) : TapeAt (w.drewN n) g A cap zs k := ⟨h.short, h.row, h.blk⟩
theorem TapeAt.lt (h : TapeAt w g A cap zs k) : g < w.heap.size := h.blk.lt
theorem TapeAt.keep (h : TapeAt w g A cap zs k) (hb : ∀ k, k < g + 1 → w'.heap[k]? = w.heap[k]?) : TapeAt w' g A cap zs k :=
  ⟨h.short, h.row.keep fun k hk => hb k (Nat.lt_succ_of_lt hk), (hb g (by omega)).trans h.blk⟩
theorem TapeAt.grown (h : TapeAt w g A cap zs k) {row : Option Nat} (hg : w.grownBy w' row) (hr : ∀ k, row = some k → g < k) : TapeAt w' g A cap zs k :=
  h.keep fun k hk => hg.block k (by have := h.lt; omega) (fun e => by have := hr k e.symm; omega)
theorem TapeAt.below (h : TapeAt w g A cap zs k) {B : Nat} (hb : Below B w w') (hB : g < B) : TapeAt w' g A cap zs k := h.keep fun k hk => hb.block k (by omega)
theorem TapeAt.alloc (h : TapeAt w g A cap zs k) (o : Obj) : TapeAt (w.alloc o) g A cap zs k := h.keep fun k hk => Below.heap_alloc _ _ _ (by have := h.lt; omega)
end

/-- What a call of Next leaves: the number, the place. -/
structure NextIs (n : Int) (zs : List Int) (k : Nat) (r : Int) (k' : Nat) : Prop where
  lo : 0 ≤ r
  hi : r < n
  le : k ≤ k'
  most : k' ≤ k + 1
  more : 0 < zs.length → k < k'
  val : Hid (r = nextV zs k n ∧ k' = nextK zs k)
def NextPost (n : Int) (g : Nat) (A : Option Addr) (cap : Nat) (zs : List Int) (k : Nat) (w : World) (e : Ending) (w' : World) : Prop :=
  ∃ (r : Int) (k' : Nat), NextIs n zs k r k' ∧ e = .returned (.int .i64 r) ∧ TapeAt w' g A cap zs k' ∧ w.grownBy w' (some g)

set_option maxHeartbeats 1000000 in
theorem mkNext_any (g : Nat) (A : Option Addr) (cap : Nat) (zs : List Int) (k : Nat) (n : Int) (w : World) (hn : 1 ≤ n) (hn2 : n ≤ 1000000) (hk : k ≤ 1000000) (ht : TapeAt w g A cap zs k) :
    Calls Tryz.prog 55 #[.pointer (some ⟨g, 0, none⟩), .int .i64 n] w (NextPost n g A cap zs k w) := by
  obtain ⟨hs, hr, hb⟩ := ht
  have c0 := hb.cell' (i := 0) (v := .slice A zs.length cap) rfl
  have c1 := hb.cell' (i := 1) (v := .int .i64 k) rfl
  have hf := hb.frozen 1
  have HB := Lib.hid hb
  have HR := Lib.hid hr
  clear hb hr
  by_cases h0 : zs.length = 0
  · have hz : zs = [] := List.eq_nil_of_length_eq_zero h0
    have hd : ((zs.length : Int) == 0) = true := by simp [h0]
    have hpost : NextPost n g A cap zs k w (.returned (.int .i64 0)) w :=
      ⟨0, k, ⟨Int.le_refl _, by omega, Nat.le_refl _, Nat.le_succ _, fun h => absurd h (by simp [hz]), Lib.hid ⟨by simp [nextV, hz], by simp [nextK, hz]⟩⟩, rfl, ⟨hs, HR.out, HB.out⟩, grown_refl _ _⟩
    have HP := Lib.hid hpost
    clear hpost h0 hz
    go_enter Tryz.func55, Tryz.ntmps55
    go_wp2
    go_ret
    exact HP.out
  · have hpos : 0 < zs.length := by omega
    have hd : ((zs.length : Int) == 0) = false := beq_eq_false_iff_ne.2 (by omega)
    have hne : zs ≠ [] := by intro h; simp [h] at hpos
    obtain ⟨m, hm⟩ : ∃ m, m = k % zs.length := ⟨_, rfl⟩
    obtain ⟨q, hq⟩ : ∃ q, q = k / zs.length := ⟨_, rfl⟩
    have hml : m < zs.length := by rw [hm]; exact Nat.mod_lt _ hpos
    have hqk : q ≤ k := by rw [hq]; exact Nat.div_le_self _ _
    obtain ⟨b, off, rfl, hbg, hcell⟩ := HR.out.at_ (k := m) (by simpa using hml)
    have hcz := hcell m (.int .i64 (zs[m])) (by simp [hml])
    have hv : nextV zs k n = ((zs[m] % 1073741824 + (q : Int) * 7) % n) := by
      unfold nextV
      rw [if_neg hne, ← hm, ← hq, List.getD_eq_getElem?_getD, List.getElem?_eq_getElem hml]
      rfl
    have e1 : (k : Int).tmod (zs.length : Int) = (m : Int) := by rw [hm]; exact (Int.ofNat_tmod _ _).symm
    have e2 : (k : Int).tdiv (zs.length : Int) = (q : Int) := by rw [hq]; exact (Int.ofNat_tdiv _ _).symm
    have i1 : (0 : Int) ≤ (m : Int) := by omega
    have i2 : (m : Int) < (zs.length : Int) := by omega
    have cz2 : ((w.setCell ⟨g, 1, none⟩ (.int .i64 (k + 1))).cell? ⟨b, off + m, none⟩) = some (.int .i64 (zs[m])) := by
      rw [World.cell?_setCell_other _ _ _ _ (by intro e; injection e; have : b < g := hbg; omega)]; exact hcz
    generalize zs[m] = z at *
    have HV := Lib.hid hv
    have z1 : 0 ≤ z % 1073741824 := Int.emod_nonneg _ (by omega)
    have z2 : z % 1073741824 < 1073741824 := Int.emod_lt_of_pos _ (by omega)
    clear hcell h0 hm hq hv
    go_enter Tryz.func55, Tryz.ntmps55
    go_wp2
    go_quiet (fail)
    go_wp2
    go_quiet (fail)
    go_wp2_with (go_at_call 96; refine (mkMod_any _ _ _ (by omega) (by omega)).mono ?_; rintro e w' ⟨rfl, rfl⟩)
    go_ret
    have H := HB.out
    refine ⟨(z % 1073741824 + (q : Int) * 7) % n, k + 1, ⟨Int.emod_nonneg _ (by omega), Int.emod_lt_of_pos _ (by omega), Nat.le_succ _, Nat.le_refl _, fun _ => Nat.lt_succ_self _, Lib.hid ⟨HV.out.symm, by simp [nextK, hne]⟩⟩, rfl, ⟨hs, ?_, ?_⟩, ?_⟩
    · exact HR.out.keep fun i hi => (Below.heap_setCell w _ _ i (by show i ≠ g; have : i < g := hi; omega))
    · exact (H.set_ 1 (.int .i64 (((k + 1 : Nat)) : Int)))
    · exact grown_set (grown_drewN (grown_refl _ _) _) _ _

def RangePost (lo hi : Int) (g : Nat) (A : Option Addr) (cap : Nat) (zs : List Int) (k : Nat) (w : World) (e : Ending) (w' : World) : Prop :=
  ∃ (r : Int) (k' : Nat), NextIs (hi - lo + 1) zs k r k' ∧ lo + r ≤ hi ∧ e = .returned (.int .i64 (lo + r)) ∧ TapeAt w' g A cap zs k' ∧ w.grownBy w' (some g)

set_option maxHeartbeats 400000 in
theorem mkRange_any (g : Nat) (A : Option Addr) (cap : Nat) (zs : List Int) (k : Nat) (lo hi : Int) (w : World) (hn : lo ≤ hi) (hn2 : hi ≤ 100000) (hn3 : -100000 ≤ lo) (hk : k ≤ 1000000) (ht : TapeAt w g A cap zs k) :
    Calls Tryz.prog 56 #[.pointer (some ⟨g, 0, none⟩), .int .i64 lo, .int .i64 hi] w (RangePost lo hi g A cap zs k w) := by
  go_enter Tryz.func56, Tryz.ntmps56
  go_wp2_with fail
  refine (mkNext_any g A cap zs k _ _ (by omega) (by omega) hk ht).mono ?_
  rintro e w' ⟨r, k', hr, rfl, h2, h3⟩
  have h0 := hr.lo
  have h1 := hr.hi
  go_wp2
  go_ret
  exact ⟨r, k', hr, by omega, rfl, h2, h3⟩

def YesPost (n : Int) (g : Nat) (A : Option Addr) (cap : Nat) (zs : List Int) (k : Nat) (w : World) (e : Ending) (w' : World) : Prop :=
  ∃ (r : Int) (k' : Nat), NextIs n zs k r k' ∧ e = .returned (.bool (r == 0)) ∧ TapeAt w' g A cap zs k' ∧ w.grownBy w' (some g)
set_option maxHeartbeats 400000 in
theorem mkYes_any (g : Nat) (A : Option Addr) (cap : Nat) (zs : List Int) (k : Nat) (n : Int) (w : World) (hn : 1 ≤ n) (hn2 : n ≤ 1000000) (hk : k ≤ 1000000) (ht : TapeAt w g A cap zs k) :
    Calls Tryz.prog 57 #[.pointer (some ⟨g, 0, none⟩), .int .i64 n] w (YesPost n g A cap zs k w) := by
  go_enter Tryz.func57, Tryz.ntmps57
  go_wp2_with fail
  refine (mkNext_any g A cap zs k _ _ hn hn2 hk ht).mono ?_
  rintro e w' ⟨r, k', hr, rfl, h2, h3⟩
  go_wp2
  go_ret
  exact ⟨r, k', hr, rfl, h2, h3⟩

set_option maxHeartbeats 400000 in
theorem mkMore_any (g : Nat) (A : Option Addr) (cap : Nat) (zs : List Int) (k : Nat) (w : World) (ht : TapeAt w g A cap zs k) :
    Calls Tryz.prog 97 #[.pointer (some ⟨g, 0, none⟩)] w fun e w' => e = .returned (.bool (decide (k < zs.length))) ∧ ∃ n, w' = w.drewN n := by
  obtain ⟨hs, hr, hb⟩ := ht
  have c0 := hb.cell' (i := 0) (v := .slice A zs.length cap) rfl
  have c1 := hb.cell' (i := 1) (v := .int .i64 k) rfl
  clear hb hr
  go_enter Tryz.func97, Tryz.ntmps97
  go_wp2
  go_quiet (fail)
  go_wp2
  go_ret
  exact ⟨ret_bool (by simp), _, rfl⟩

set_option maxHeartbeats 400000 in
theorem mkTape_any (A : Option Addr) (cap : Nat) (zs : List Int) (w : World) (hs : zs.length ≤ 400) (hr : Rd w (· < w.heap.size) A (zs.map (Value.int .i64))) :
    Calls Tryz.prog 53 #[.slice A zs.length cap] w fun e w' => e = .returned (.pointer (some ⟨w.heap.size, 0, none⟩)) ∧ TapeAt w' w.heap.size A cap zs 0 ∧ Below w.heap.size w w' := by
  have HR := Lib.hid hr
  clear hr
  go_enter Tryz.func53, Tryz.ntmps53
  go_wp2
  go_ret
  exact ⟨rfl, ⟨hs, HR.out.alloc _, Blk.new _ _ _⟩, (Below.refl _ _).alloc (Nat.le_refl _) _⟩
end Go.Proofs.YtnnpgbleacapfaaGreat

namespace Go.Proofs.YtnnpgbleacapfaaGreat
open Go.RowKit
set_option linter.unusedSimpArgs false
set_option linter.unusedVariables false

/-! The types of the program. -/
abbrev zi : Value := .int .i64 0
abbrev zb : Value := .bool false
abbrev zs0 : Value := .slice none 0 0
def tiInt : TI := { size := 1, agg := false, zero := [zi] }
def tiBool : TI := { size := 1, agg := false, zero := [zb], isB := true }
def tiSl (n : Nat) (elt : Nat := 0) (eb : Nat := 0) : TI := { size := 1, agg := false, zero := [zs0], esz := n, sl := true, elt := elt, eb := eb }
def tiRec (zero : List Value) (offs fszs fagg : List Nat) (eqk : List CK := []) : TI := { size := zero.length, agg := true, zero := zero, offs := offs, fszs := fszs, fagg := fagg, eqk := eqk }
abbrev ki : CK := .i .i64
def tt : TT := [
  (3, tiInt), (4, tiBool), (45, tiInt),
  (22, tiSl 1 3 8), (25, tiSl 1 93 8), (26, tiSl 2 95 16), (27, tiSl 7 98 56), (28, tiSl 2 78 16), (31, tiSl 12 63 88), (32, tiSl 4 51 32), (81, tiSl 9 39 72),
  (30, tiRec [zi, zs0, zs0, zs0, zs0, zs0, zs0, zi, zi, zi] [0, 1, 2, 3, 4, 5, 6, 7, 8, 9] [1, 1, 1, 1, 1, 1, 1, 1, 1, 1] [1, 1, 1, 1, 1, 1, 1, 1, 1, 1]),
  (34, tiRec [zi, zi, zs0, zs0, zi, zi, zi, zi] [0, 1, 2, 3, 4, 5, 6, 7] [1, 1, 1, 1, 1, 1, 1, 1] [1, 1, 1, 1, 1, 1, 1, 1]),
  (39, tiRec [zi, zi, zi, zi, zi, zi, zi, zi, zi] [0, 1, 2, 3, 4, 5, 6, 7, 8] [1, 1, 1, 1, 1, 1, 1, 1, 1] [1, 1, 1, 1, 1, 1, 1, 1, 1] [ki, ki, ki, ki, ki, ki, ki, ki, ki]),
  (61, tiRec [zi, zi, zi, zi, zi] [0, 1, 2, 3, 4] [1, 1, 1, 1, 1] [1, 1, 1, 1, 1] [ki, ki, ki, ki, ki]),
  (63, tiRec [zb, zb, zi, zi, zi, zi, zi, zi, zi, zi, zi, zi] [0, 1, 2, 3, 4, 5, 6, 7] [1, 1, 1, 1, 1, 1, 1, 5] [1, 1, 1, 1, 1, 1, 1, 2] [.b, .b, ki, ki, ki, ki, ki, ki, ki, ki, ki, ki]),
  (51, tiRec [zi, zi, zi, zi] [0, 1, 2, 3] [1, 1, 1, 1] [1, 1, 1, 1] [ki, ki, ki, ki]),
  (93, tiRec [zi] [0] [1] [1]), (95, tiRec [zi, zi] [0, 1] [1, 1] [1, 1]), (78, tiRec [zi, zi] [0, 1] [1, 1] [1, 1]),
  (98, tiRec [zi, zi, zi, zi, zi, zi, zb] [0, 1, 2, 3, 4, 5, 6] [1, 1, 1, 1, 1, 1, 1] [1, 1, 1, 1, 1, 1, 1]),
  (125, tiRec [zs0, zi] [0, 1] [1, 1] [1, 1])]
theorem tt_mem (P : Program) (τ : TT) (h : ∀ p ∈ τ, TIok P p.1 p.2) : TTok P τ := fun t ti hl => h (t, ti) (lk_mem hl)
theorem tt_cons {P : Program} {t : TypeId} {ti : TI} {r : TT} (h : TIok P t ti) (hr : ∀ p ∈ r, TIok P p.1 p.2) : ∀ p ∈ (t, ti) :: r, TIok P p.1 p.2 := fun p hp => by
  rcases List.mem_cons.1 hp with rfl | hp
  · exact h
  · exact hr p hp
theorem tt_nil {P : Program} : ∀ p ∈ ([] : TT), TIok P p.1 p.2 := fun p hp => absurd hp (List.not_mem_nil)
theorem plains {l : List Value} (h : l.all (fun v => match v with | .pointer (some _) => false | .slice (some _) _ _ => false | _ => true) = true) : ∀ v ∈ l, plain1 v := fun v hv => by
  have := List.all_eq_true.1 h v hv
  cases v with
  | pointer p => cases p <;> simp_all [plain1]
  | slice p n c => cases p <;> simp_all [plain1]
  | _ => trivial
theorem ttOk : TTok Tryz.prog tt := by
  refine tt_mem _ _ ?_
  unfold tt
  repeat (refine tt_cons ⟨by kernel_rfl, by kernel_rfl, plains (by rfl), by kernel_rfl, by kernel_rfl⟩ ?_)
  exact tt_nil
theorem mixed : (Tryz.prog).follows .mixedOrders = true := by kernel_rfl
end Go.Proofs.YtnnpgbleacapfaaGreat

namespace Go.Proofs.YtnnpgbleacapfaaGreat
open Go.RowKit
set_option linter.unusedSimpArgs false
set_option linter.unusedVariables false

section
variable {P : Program} {C : Ctx} {ρ ρ' : Nat → Pl} {fr : AF} {mem mem' : AM} {nx nx' : Nat} {a : Act} {w w' : World}
/-- The context of a callee: it may write the boxes bn. -/
def Ctx.of (w : World) (ρ : Nat → Pl) (nx : Nat) (bn : List Nat) (nt : Nat) : Ctx := { w0 := w, bor := bn.filterMap (bno ρ), n0 := nx, ρ0 := ρ, nt := nt }
/-- What a callee is handed. -/
theorem Sat.hand (h : Sat C ρ fr mem nx a w) {sub : AM} (hsub : keeps mem sub) {bn : List Nat} (hbn : ∀ i t cs, lk sub i = some (.box t cs) → i ∈ bn) (hno : ∀ i t sz n el, lk sub i = some (.row t sz n el) → frT t = false) (nt : Nat) : MemAt (Ctx.of w ρ nx bn nt) ρ sub nx w := by
  have hl := fun i b hi => lk_app (r := C.fm) (keeps_lk hsub i b hi)
  refine ⟨fun i b hi => h.mlt i b (hl i b hi), fun i b hi => ?_, fun i j b b' hne hi hj => h.sep i j b b' hne (hl i b hi) (hl j b' hj), Nat.le_refl _, fun i _ => rfl, ⟨rfl, rfl, rfl, Nat.le_refl _, fun _ _ _ => rfl⟩⟩
  have hb := h.blk i b (hl i b hi)
  cases b with
  | box t cs =>
    obtain ⟨g, e1, e2, e3, e4⟩ := hb
    exact ⟨g, e1, e2, .inr (List.mem_filterMap.2 ⟨i, hbn i t cs hi, by simp [bno, e1]⟩), e4⟩
  | row t sz n el =>
    obtain ⟨e1, e2, e3⟩ := hb
    refine ⟨e1, e2, e3.imp id ?_⟩
    rintro ⟨b, off, hA, hat, hc⟩
    exact ⟨b, off, hA, ⟨hat.lt, fun ho => (by have := frT_own ho; rw [hno i t sz n el hi] at this; cases this), fun ho => (by rw [hno i t sz n el hi] at ho; cases ho)⟩, hc⟩
theorem rest_below {bn : List Nat} {nt : Nat} (hb : bn = []) (h : Rest (Ctx.of w ρ nx bn nt) w') : Below w.heap.size w w' := by
  subst hb
  exact ⟨h.os, h.tape, h.output, h.size, fun b hlt => h.block b hlt (by simp [Ctx.of])⟩
/-- Behind the call. -/
theorem Sat.after (h : Sat C ρ fr mem nx a w) {bn : List Nat} {nt : Nat} (hm : MemAt (Ctx.of w ρ nx bn nt) ρ' mem' nx' w') (hbn : ∀ i ∈ bn, ∃ t cs, lk mem i = some (.box t cs)) {keep : AM}
    (hk : ∀ i b, lk keep i = some b → lk mem' i = some b ∧ (i ∈ bn ∨ nx ≤ i)) (hall : ∀ i ∈ bn, ∃ t cs, lk keep i = some (.box t cs))
    (hfresh : ∀ i t sz n el, nx ≤ i → lk keep i = some (.row t sz n el) → n = 0 ∨ ∃ b off, (ρ' i).A = some ⟨b, off, none⟩ ∧ w.heap.size ≤ b) : Sat C ρ' fr (keep ++ mem) nx' a w' := by
  have hlow : ∀ i, i < nx → ρ' i = ρ i := fun i hi => hm.low i hi
  have hnx : nx ≤ nx' := hm.n0
  have hsz : w.heap.size ≤ w'.heap.size := hm.rest.size
  -- blocks that are not handed over
  have hstay : ∀ b, b < w.heap.size → (∀ i ∈ bn, bno ρ i ≠ some b) → w'.heap[b]? = w.heap[b]? := fun b hlt hn => hm.rest.block b hlt (by
    intro hmem
    obtain ⟨i, hi, he⟩ := List.mem_filterMap.1 hmem
    exact hn i hi he)
  have hbnlk : ∀ i ∈ bn, ∃ t cs, lk (mem ++ C.fm) i = some (.box t cs) := fun i hi => by obtain ⟨t, cs, e⟩ := hbn i hi; exact ⟨t, cs, lk_app e⟩
  -- an old block
  have hold : ∀ i b, lk keep i = none → lk (mem ++ C.fm) i = some b → BlkOk C ρ' nx' i w' b := by
    intro i b hkn hi
    have hlt := (h.mlt i b hi).1
    have hnb : i ∉ bn := fun hib => by obtain ⟨t, cs, e⟩ := hall i hib; rw [hkn] at e; cases e
    have hb := (h.blk i b hi).ren (ρ' := ρ') (m := nx') (hlow i hlt) (fun j hj _ => hlow j hj) hnx
    cases b with
    | box t cs =>
      obtain ⟨g, e1, e2, e3, e4⟩ := hb
      refine ⟨g, e1, ?_, e3, e4⟩
      rw [hlow i hlt] at e1
      refine (hstay g e2.lt fun j hj he => ?_).trans e2
      obtain ⟨t2, cs2, hj2⟩ := hbnlk j hj
      have := h.sep i j _ _ (fun q => hnb (q ▸ hj)) hi hj2
      simp only [Apart] at this
      exact this (by rw [he]; simp [bno, e1])
    | row t sz n el =>
      obtain ⟨e1, e2, e3⟩ := hb
      refine ⟨e1, e2, ?_⟩
      rcases e3 with h0 | ⟨b, off, hA, hlt2, hc⟩
      · exact .inl h0
      · by_cases hn0 : n = 0
        · exact .inl hn0
        · have hst := hstay b hlt2.lt (fun j hj he => by
            obtain ⟨t2, cs2, hj2⟩ := hbnlk j hj
            have := h.sep j i _ _ (fun q => hnb (q ▸ hj)) hj2 hi
            simp only [Apart] at this
            rcases this with h0 | this
            · exact hn0 h0
            · exact this (by rw [he]; rw [hlow i hlt] at hA; simp [bno, hA]))
          refine .inr ⟨b, off, hA, hlt2.far hsz hst, fun k hk j v hv => ?_⟩
          rw [World.cell?_of_block hst]
          exact hc k hk j v hv
  -- a kept block
  have hkeep : ∀ i b, lk keep i = some b → BlkOk C ρ' nx' i w' b := by
    intro i b hi
    obtain ⟨hi', hor⟩ := hk i b hi
    have hb := hm.blk i b hi'
    cases b with
    | row t sz n el =>
      obtain ⟨e1, e2, e3⟩ := hb
      refine ⟨e1, e2, e3.imp id ?_⟩
      rintro ⟨b, off, hA, hat, hc⟩
      exact ⟨b, off, hA, ⟨hat.lt, fun ho => by obtain ⟨q1, q2, q3⟩ := hat.own ho; exact ⟨q1, Nat.le_trans h.rest.size q2, q3⟩, fun hf => Nat.le_trans h.rest.size (hat.new hf)⟩, hc⟩
    | box t cs =>
      obtain ⟨g, e1, e2, e3, e4⟩ := hb
      refine ⟨g, e1, e2, ?_, e4⟩
      by_cases hib : i ∈ bn
      · obtain ⟨t2, cs2, hi2⟩ := hbnlk i hib
        obtain ⟨g2, f1, -, f3, -⟩ := h.blk i _ hi2
        rw [hlow i (h.mlt i _ hi2).1, f1] at e1
        cases e1
        exact f3
      · rcases e3 with e3 | e3
        · exact .inl (Nat.le_trans h.rest.size e3)
        · obtain ⟨j, hj, he⟩ := List.mem_filterMap.1 e3
          obtain ⟨t3, cs3, hj3⟩ := hall j hj
          have := hm.sep i j _ _ (fun q => hib (q ▸ hj)) hi' (hk j _ hj3).1
          simp only [Apart] at this
          obtain ⟨t2, cs2, hj2⟩ := hbnlk j hj
          exact absurd (by rw [bno, bno, e1, hlow j (h.mlt j _ hj2).1]; rw [bno] at he; rw [he]; rfl) this
  have hlk : ∀ i b, lk (keep ++ mem ++ C.fm) i = some b → lk keep i = some b ∨ (lk keep i = none ∧ lk (mem ++ C.fm) i = some b) := by
    intro i b hi
    rw [List.append_assoc] at hi
    cases hki : lk keep i with
    | some c => rw [lk_app hki] at hi; exact .inl hi
    | none => rw [lk_none_app hki] at hi; exact .inr ⟨rfl, hi⟩
  -- a kept block and an old one
  have hmix : ∀ i j b b', lk keep i = some b → lk keep j = none → lk (mem ++ C.fm) j = some b' → Apart ρ' i j b b' ∧ Apart ρ' j i b' b := by
    intro i j b b' hi hjn hj
    obtain ⟨hi', hor⟩ := hk i b hi
    have hjlt := (h.mlt j b' hj).1
    have hjb : j ∉ bn := fun q => by obtain ⟨t, cs, e⟩ := hall j q; rw [hjn] at e; cases e
    have hij : i ≠ j := by rintro rfl; rw [hjn] at hi; cases hi
    have ej : bno ρ' j = bno ρ j := by unfold bno; rw [hlow j hjlt]
    by_cases hib : i ∈ bn
    · obtain ⟨t2, cs2, hi2⟩ := hbnlk i hib
      obtain ⟨t3, cs3, hi3⟩ := hall i hib
      rw [hi] at hi3
      cases hi3
      have ei : bno ρ' i = bno ρ i := by unfold bno; rw [hlow i (h.mlt i _ hi2).1]
      have a1 := h.sep i j _ _ hij hi2 hj
      have a2 := h.sep j i _ _ (Ne.symm hij) hj hi2
      cases b' <;> simp only [Apart] at a1 a2 ⊢ <;> rw [ei, ej] <;> first | exact ⟨a1, a2⟩ | exact ⟨a1, trivial⟩
    · have hnxi : nx ≤ i := hor.resolve_left hib
      -- the block of i is new
      have hnew : ∀ g, bno ρ' i = some g → (∀ t sz n el, b = .row t sz n el → n ≠ 0) → w.heap.size ≤ g := by
        intro g hg hrow
        cases b with
        | row t sz n el =>
          rcases hfresh i t sz n el hnxi hi with h0 | ⟨bb, off, hA, hle⟩
          · exact absurd h0 (hrow _ _ _ _ rfl)
          · simp [bno, hA] at hg; omega
        | box t cs =>
          obtain ⟨g', e1, e2, e3, e4⟩ := hm.blk i _ hi'
          have hgg : g' = g := by simp [bno, e1] at hg; exact hg
          subst hgg
          rcases e3 with e3 | e3
          · exact e3
          · obtain ⟨q, hq, he⟩ := List.mem_filterMap.1 e3
            obtain ⟨t3, cs3, hq3⟩ := hall q hq
            have := hm.sep i q _ _ (fun z => hib (z ▸ hq)) hi' (hk q _ hq3).1
            simp only [Apart] at this
            obtain ⟨t2, cs2, hq2⟩ := hbnlk q hq
            exact absurd (by rw [hg, ← he]; unfold bno; rw [hlow q (h.mlt q _ hq2).1]) this
      have holdlt : ∀ g, bno ρ j = some g → (∀ t sz n el, b' = .row t sz n el → n ≠ 0) → g < w.heap.size := by
        intro g hg hrow
        have hb' := h.blk j b' hj
        cases b' with
        | box t cs => obtain ⟨g', e1, e2, -⟩ := hb'; simp [bno, e1] at hg; subst hg; exact e2.lt
        | row t sz n el =>
          rcases hb'.2.2 with h0 | ⟨bb, off, hA, hlt, -⟩
          · exact absurd h0 (hrow _ _ _ _ rfl)
          · have := hlt.lt; simp [bno, hA] at hg; omega
      have hne : (∀ t sz n el, b = .row t sz n el → n ≠ 0) → (∀ t sz n el, b' = .row t sz n el → n ≠ 0) → ∀ x, bno ρ' i = some x → bno ρ' i ≠ bno ρ' j := by
        intro h1 h2 x hx he
        rw [hx, ej] at he
        have := hnew x hx h1
        have := holdlt x he.symm h2
        omega
      cases b with
      | box t cs =>
        obtain ⟨g, e1, -⟩ := hm.blk i _ hi'
        have hx : bno ρ' i = some g := by simp [bno, e1]
        cases b' with
        | box t2 cs2 =>
          have := hne (fun _ _ _ _ q => by cases q) (fun _ _ _ _ q => by cases q) g hx
          exact ⟨this, Ne.symm this⟩
        | row t2 sz n el =>
          refine ⟨?_, trivial⟩
          by_cases h0 : n = 0
          · exact .inl h0
          · exact .inr (hne (fun _ _ _ _ q => by cases q) (fun _ _ _ _ q => by cases q; exact h0) g hx)
      | row t sz n el =>
        cases b' with
        | row t2 sz2 n2 el2 =>
          simp only [Apart]
          by_cases h0 : n = 0
          · exact ⟨fun _ => .inl h0, fun _ => .inr (.inl h0)⟩
          · by_cases h02 : n2 = 0
            · exact ⟨fun _ => .inr (.inl h02), fun _ => .inl h02⟩
            · rcases hfresh i t sz n el hnxi hi with q | ⟨bb, off, hA, hle⟩
              · exact absurd q h0
              · have := hne (fun _ _ _ _ q => by cases q; exact h0) (fun _ _ _ _ q => by cases q; exact h02) bb (by simp [bno, hA])
                exact ⟨fun _ => .inr (.inr this), fun _ => .inr (.inr (Ne.symm this))⟩
        | box t2 cs2 =>
          refine ⟨trivial, ?_⟩
          by_cases h0 : n = 0
          · exact .inl h0
          · rcases hfresh i t sz n el hnxi hi with q | ⟨bb, off, hA, hle⟩
            · exact absurd q h0
            · exact .inr (Ne.symm (hne (fun _ _ _ _ q => by cases q; exact h0) (fun _ _ _ _ q => by cases q) bb (by simp [bno, hA])))
  refine ⟨⟨fun t v hv => ?_, fun t v hv => okV_mono (fun j hj _ => hlow j hj) hnx (h.fok.frk t v hv)⟩, h.sz, h.dfr, fun i b hi => ?_, fun i b hi => ?_, fun i j b b' hne hi hj => ?_, Nat.le_trans h.n0 hnx, fun i hi => (hlow i (Nat.lt_of_lt_of_le hi h.n0)).trans (h.low i hi), ?_⟩
  · rw [den_congr (fun j hj _ => hlow j hj) (h.fok.frk t v hv)]; exact h.fok.frm t v hv
  · rcases hlk i b hi with hi | ⟨hn, hi⟩
    · exact hm.mlt i b (hk i b hi).1
    · exact ⟨Nat.lt_of_lt_of_le (h.mlt i b hi).1 hnx, by rw [hlow i (h.mlt i b hi).1]; exact (h.mlt i b hi).2⟩
  · rcases hlk i b hi with hi | ⟨hn, hi⟩
    · exact hkeep i b hi
    · exact hold i b hn hi
  · rcases hlk i b hi with hi | ⟨hn, hi⟩
    · rcases hlk j b' hj with hj | ⟨hm2, hj⟩
      · exact hm.sep i j b b' hne (hk i b hi).1 (hk j b' hj).1
      · exact (hmix i j b b' hi hm2 hj).1
    · rcases hlk j b' hj with hj | ⟨hm2, hj⟩
      · exact (hmix j i b' b hj hn hi).2
      · exact (h.sep i j b b' hne hi hj).ren (hlow i (h.mlt i b hi).1) (hlow j (h.mlt j b' hj).1)
  · refine ⟨hm.rest.os.trans h.rest.os, hm.rest.tape.trans h.rest.tape, hm.rest.output.trans h.rest.output, Nat.le_trans h.rest.size hsz, fun b hlt hnb => ?_⟩
    refine (hstay b (Nat.lt_of_lt_of_le hlt h.rest.size) fun i hi he => ?_).trans (h.rest.block b hlt hnb)
    obtain ⟨t, cs, e⟩ := hbnlk i hi
    obtain ⟨g, e1, -, e3, -⟩ := h.blk i _ e
    simp [bno, e1] at he
    subst he
    rcases e3 with e3 | e3
    · omega
    · exact hnb e3
end
end Go.Proofs.YtnnpgbleacapfaaGreat

namespace Go.Proofs.YtnnpgbleacapfaaGreat
open Go.RowKit
set_option linter.unusedSimpArgs false
set_option linter.unusedVariables false

section
variable {P : Program} {C : Ctx} {ρ ρ' : Nat → Pl} {fr : AF} {mem mem' : AM} {nx nx' : Nat} {a : Act} {w w' : World}
theorem getD_get {α : Type} {l : List α} {k : Nat} {d : α} (h : k < l.length) : l[k]? = some (l.getD k d) := by rw [List.getD_eq_getElem?_getD, List.getElem?_eq_getElem h]; rfl
/-- A row in memory, as an abstract block. -/
theorem row_of_rd {α : Type} {enc : α → List Value} {sz : Nat} (hs : ∀ x, (enc x).length = sz) (hpos : 0 < sz) (hpl : ∀ x, ∀ v ∈ enc x, plain1 v) {l : List α} (d : α) {i : Nat} {t : TypeId} {A : Option Addr} {S : Nat → Prop}
    (hρ : ρ i = ⟨A, sz, l.length, false⟩) (h : Rd w S A (flat enc l)) (hS : ∀ b, S b → b < w.heap.size) (ht : ownT t = false := by first | rfl | assumption) (hfr : frT t = true → ∀ b, S b → C.w0.heap.size ≤ b := by intro h; exact absurd h (by decide)) : BlkOk C ρ nx i w (.row t sz l.length (fun k => enc (l.getD k d))) := by
  refine ⟨by rw [hρ]; exact ⟨rfl, rfl⟩, fun k _ => ⟨hs _, fun v hv => hpl _ v hv⟩, ?_⟩
  by_cases h0 : l.length = 0
  · exact .inl h0
  · obtain ⟨b, off, x, hA, hb, _, _⟩ := h.row hs hpos (k := 0) (by omega)
    refine .inr ⟨b, off, by rw [hρ]; exact hA, ⟨hS b hb, fun ho => (by rw [ht] at ho; cases ho), fun hf => hfr hf b hb⟩, fun k hk j v hv => ?_⟩
    obtain ⟨b2, off2, x2, hA2, _, hx2, hc2⟩ := h.row hs hpos hk
    rw [hA] at hA2
    cases hA2
    rw [getD_get hk (d := d)] at hx2
    cases hx2
    exact hc2 j v hv
theorem flat_at {α : Type} {enc : α → List Value} {sz : Nat} (hs : ∀ x, (enc x).length = sz) (hpos : 0 < sz) : ∀ (l : List α) (j : Nat) (v : Value), (flat enc l)[j]? = some v → ∃ x, l[j / sz]? = some x ∧ (enc x)[j % sz]? = some v
  | [], j, v, h => by simp [flat] at h
  | a :: l, j, v, h => by
    simp only [flat, List.flatMap_cons] at h
    by_cases hj : j < sz
    · rw [List.getElem?_append_left (by rw [hs]; exact hj)] at h
      exact ⟨a, by simp [Nat.div_eq_of_lt hj], by rw [Nat.mod_eq_of_lt hj]; exact h⟩
    · rw [List.getElem?_append_right (by rw [hs]; omega), hs] at h
      obtain ⟨x, h1, h2⟩ := flat_at hs hpos l (j - sz) v h
      have e1 : j / sz = (j - sz) / sz + 1 := by
        have : j = (j - sz) + sz := by omega
        conv => lhs; rw [this]
        rw [Nat.add_div_right _ hpos]
      have e2 : j % sz = (j - sz) % sz := by
        have : j = (j - sz) + sz := by omega
        conv => lhs; rw [this]
        rw [Nat.add_mod_right]
      exact ⟨x, by rw [e1]; simpa using h1, by rw [e2]; exact h2⟩
/-- An abstract row, in memory. -/
theorem rd_of_row {α : Type} {enc : α → List Value} {sz : Nat} (hs : ∀ x, (enc x).length = sz) (hpos : 0 < sz) {l : List α} {d : α} {i : Nat} {t : TypeId} (h : BlkOk C ρ nx i w (.row t sz l.length (fun k => enc (l.getD k d)))) {S : Nat → Prop} (hS : l.length ≠ 0 → ∀ b off, (ρ i).A = some ⟨b, off, none⟩ → b < w.heap.size → S b) :
    Rd w S (ρ i).A (flat enc l) := by
  obtain ⟨-, -, h3⟩ := h
  intro hne
  have hl : l.length ≠ 0 := by
    intro h0
    rw [List.eq_nil_of_length_eq_zero h0] at hne
    exact hne rfl
  rcases h3 with h0 | ⟨b, off, hA, hlt, hc⟩
  · exact absurd h0 hl
  · refine ⟨b, off, hA, hS hl b off hA hlt.lt, fun j v hv => ?_⟩
    obtain ⟨x, h1, h2⟩ := flat_at hs hpos l j v hv
    have hk : j / sz < l.length := (List.getElem?_eq_some_iff.1 h1).1
    have hx : l.getD (j / sz) d = x := by rw [List.getD_eq_getElem?_getD, h1]; rfl
    have := hc (j / sz) hk (j % sz) v (by show (enc (l.getD (j / sz) d))[j % sz]? = some v; rw [hx]; exact h2)
    rw [← this]
    congr 2
    have := Nat.div_add_mod j sz
    rw [Nat.mul_comm] at this
    omega
/-- Memory of rows alone. -/
def allRows : AM → Prop
  | [] => True
  | (_, .row t _ _ _) :: r => (match ownT t with | false => allRows r | true => False)
  | (_, .box _ _) :: _ => False
theorem allRows_lk : ∀ {mem : AM}, allRows mem → ∀ i t cs, lk mem i ≠ some (.box t cs)
  | [], _, i, t, cs, h => by simp [lk] at h
  | (k, .row t2 _ _ _) :: r, hr, i, t, cs, h => by
    rcases lk_cons h with ⟨_, q⟩ | ⟨_, q⟩
    · cases q
    · simp only [allRows] at hr
      cases ho : ownT t2 with
      | true => rw [ho] at hr; exact hr.elim
      | false => rw [ho] at hr; exact allRows_lk (mem := r) hr i t cs q
  | (k, .box _ _) :: r, hr, i, t, cs, h => hr.elim
theorem allRows_own : ∀ {mem : AM}, allRows mem → ∀ i t sz n el, lk mem i = some (.row t sz n el) → ownT t = false
  | [], _, i, t, sz, n, el, h => by simp [lk] at h
  | (k, .row t2 _ _ _) :: r, hr, i, t, sz, n, el, h => by
    simp only [allRows] at hr
    cases ho : ownT t2 with
    | true => rw [ho] at hr; exact hr.elim
    | false =>
      rw [ho] at hr
      rcases lk_cons h with ⟨_, q⟩ | ⟨_, q⟩
      · cases q; exact ho
      · exact allRows_own (mem := r) hr i t sz n el q
  | (k, .box _ _) :: r, hr, i, t, sz, n, el, h => hr.elim
def blksOk (C : Ctx) (ρ : Nat → Pl) (nx : Nat) (w : World) : AM → Prop
  | [] => True
  | (i, b) :: r => (i < nx ∧ (ρ i).res = false ∧ BlkOk C ρ nx i w b) ∧ blksOk C ρ nx w r
theorem blksOk_lk : ∀ {mem : AM}, blksOk C ρ nx w mem → ∀ i b, lk mem i = some b → i < nx ∧ (ρ i).res = false ∧ BlkOk C ρ nx i w b
  | [], _, i, b, h => by simp [lk] at h
  | (k, c) :: r, hr, i, b, h => by
    rcases lk_cons h with ⟨rfl, rfl⟩ | ⟨_, q⟩
    · exact hr.1
    · exact blksOk_lk hr.2 i b q
/-- The start of a call that is handed rows alone. -/
theorem MemAt.rows {nt : Nat} (hr : allRows mem) (hb : blksOk { w0 := w, bor := [], n0 := nx, ρ0 := ρ, nt := nt } ρ nx w mem) : MemAt { w0 := w, bor := [], n0 := nx, ρ0 := ρ, nt := nt } ρ mem nx w :=
  ⟨fun i b hi => ⟨(blksOk_lk hb i b hi).1, (blksOk_lk hb i b hi).2.1⟩, fun i b hi => (blksOk_lk hb i b hi).2.2, fun i j b b' hne hi hj => by
    cases b with
    | row t sz n el => cases b' with
      | box t2 cs2 => trivial
      | row t2 sz2 n2 el2 => intro ho; rw [allRows_own hr i t sz n el hi] at ho; cases ho
    | box t cs => exact absurd hi (allRows_lk hr i t cs), Nat.le_refl _, fun _ _ => rfl, ⟨rfl, rfl, rfl, Nat.le_refl _, fun _ _ _ => rfl⟩⟩
/-- The same, with one box. -/
theorem MemAt.one {nt g i : Nat} {t : TypeId} {cs : List Value} (hr : allRows mem) (hi : i < nx) (hρ : ρ i = ⟨some ⟨g, 0, none⟩, 0, 0, false⟩) (hbx : BlkOk { w0 := w, bor := [g], n0 := nx, ρ0 := ρ, nt := nt } ρ nx i w (.box t cs))
    (hb : blksOk { w0 := w, bor := [g], n0 := nx, ρ0 := ρ, nt := nt } ρ nx w mem) (hap : ∀ j t sz n el, lk mem j = some (.row t sz n el) → n = 0 ∨ bno ρ j ≠ some g) : MemAt { w0 := w, bor := [g], n0 := nx, ρ0 := ρ, nt := nt } ρ ((i, .box t cs) :: mem) nx w := by
  have hgi : bno ρ i = some g := by simp [bno, hρ]
  refine ⟨fun j b hj => ?_, fun j b hj => ?_, fun j k b b' hne hj hk => ?_, Nat.le_refl _, fun _ _ => rfl, ⟨rfl, rfl, rfl, Nat.le_refl _, fun _ _ _ => rfl⟩⟩
  · rcases lk_cons hj with ⟨rfl, rfl⟩ | ⟨_, hj⟩
    · exact ⟨hi, by rw [hρ]⟩
    · exact ⟨(blksOk_lk hb j b hj).1, (blksOk_lk hb j b hj).2.1⟩
  · rcases lk_cons hj with ⟨rfl, rfl⟩ | ⟨_, hj⟩
    · exact hbx
    · exact (blksOk_lk hb j b hj).2.2
  · rcases lk_cons hj with ⟨rfl, rfl⟩ | ⟨_, hj⟩
    · rcases lk_cons hk with ⟨rfl, rfl⟩ | ⟨_, hk⟩
      · exact absurd rfl hne
      · cases b' with
        | box t2 cs2 => exact absurd hk (allRows_lk hr _ _ _)
        | row t2 sz n el =>
          rcases hap k t2 sz n el hk with h0 | h0
          · exact .inl h0
          · exact .inr (by rw [hgi]; exact Ne.symm h0)
    · cases b with
      | box t2 cs2 => exact absurd hj (allRows_lk hr _ _ _)
      | row t2 sz n el => cases b' with
        | box t3 cs3 => trivial
        | row t3 sz3 n3 el3 => intro ho; rw [allRows_own hr _ _ _ _ _ hj] at ho; cases ho
end
end Go.Proofs.YtnnpgbleacapfaaGreat
