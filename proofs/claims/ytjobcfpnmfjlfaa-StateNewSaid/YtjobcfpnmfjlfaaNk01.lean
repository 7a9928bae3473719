import Derived.WalkKit
import Derived.WalkSpells
import Derived.WalkLawsBesides
import Derived.Deep.QuietTactic
import Derived.BigQuiet
import Derived.Deep.Draws
import Derived.Lib.Hide
import Derived.Deep.AppendLies
import Derived.Maps.AppendAt
import Derived.Deep.Light
import Derived.Deep.LoopGhost
import Derived.Deep.DeepCutAuto
import Derived.Deep.CutBlock
import Derived.Handy
import Derived.Deep.RegionWith
import Derived.Deep.RegionHeld3
import Derived.Deep.MidRow
import Derived.Laws.StructEq
import Derived.Laws.Tables
import Derived.Deep.AppendSrc
import Derived.Laws.MakeOwn
import Derived.StillTail
namespace Go.Proofs.Ytjobcfpnmfjlfaa
open Go.RowKit

theorem ret_i64 {a b : Int} (h : a = b) : Ending.returned (Value.int IntKind.i64 a) = Ending.returned (Value.int IntKind.i64 b) := by rw [h]
theorem ret_bool {a b : Bool} (h : a = b) : Ending.returned (Value.bool a) = Ending.returned (Value.bool b) := by rw [h]

/-- Block g is just these cells, none frozen. -/
def Blk (w : World) (g : Nat) (t : TypeId) (cs : Array Value) : Prop := w.heap[g]? = some (.cells cs t (0, 0))

section
variable {w w' : World} {g : Nat} {t : TypeId} {cs : Array Value}
theorem Blk.lt (h : Blk w g t cs) : g < w.heap.size := by
  rcases Nat.lt_or_ge g w.heap.size with hlt | hge
  · exact hlt
  · unfold Blk at h; rw [Array.getElem?_eq_none hge] at h; cases h
theorem Blk.cell (h : Blk w g t cs) (i : Nat) : w.cell? ⟨g, i, none⟩ = cs[i]? := cell_of_row w g i cs t (0, 0) h
theorem Blk.cell' (h : Blk w g t cs) {i : Nat} {v : Value} (hv : cs[i]? = some v) : w.cell? ⟨g, i, none⟩ = some v := (h.cell i).trans hv
theorem Blk.frozen (h : Blk w g t cs) (i : Nat) : w.frozen? ⟨g, i, none⟩ = false := by
  unfold Blk at h
  simp [World.frozen?, h]
theorem Blk.new (w : World) (t : TypeId) (cs : Array Value) : Blk (w.alloc (.cells cs t)) w.heap.size t cs := heap_alloc_new w _
theorem Blk.drewN (h : Blk w g t cs) (n : Nat) : Blk (w.drewN n) g t cs := h
theorem Blk.alloc (h : Blk w g t cs) (o : Obj) : Blk (w.alloc o) g t cs := (Below.heap_alloc w o g h.lt).trans h
theorem Blk.set_ (h : Blk w g t cs) (i : Nat) (u : Value) : Blk (w.setCell ⟨g, i, none⟩ u) g t (cs.setIfInBounds i u) := by
  unfold Blk at h ⊢
  simp [World.setCell, Array.getElem?_modify, h]
theorem Blk.far (h : Blk w g t cs) {p : Addr} (hp : g ≠ p.block) (u : Value) : Blk (w.setCell p u) g t cs := (Below.heap_setCell w p u g hp).trans h
theorem Blk.below {B : Nat} (h : Blk w g t cs) (hb : Below B w w') (hg : g < B) : Blk w' g t cs := (hb.block g hg).trans h
theorem Blk.grown {row : Option Nat} (h : Blk w g t cs) (hb : w.grownBy w' row) (hg : some g ≠ row) : Blk w' g t cs := (hb.block g h.lt hg).trans h
end

/-- From address A on lie the cells xs, in a block of which S holds (nothing is asked of A if xs is empty). -/
def Rd (w : World) (S : Nat → Prop) (A : Option Addr) (xs : List Value) : Prop :=
  xs ≠ [] → ∃ b off, A = some ⟨b, off, none⟩ ∧ S b ∧ ∀ j v, xs[j]? = some v → w.cell? ⟨b, off + j, none⟩ = some v

section
variable {w w' : World} {S S' : Nat → Prop} {A : Option Addr} {xs : List Value}
theorem Rd.at_ (h : Rd w S A xs) {k : Nat} (hk : k < xs.length) : ∃ b off, A = some ⟨b, off, none⟩ ∧ S b ∧ ∀ j v, xs[j]? = some v → w.cell? ⟨b, off + j, none⟩ = some v :=
  h (by rintro rfl; simp at hk)
theorem Rd.keep (h : Rd w S A xs) (hk : ∀ k, S k → w'.heap[k]? = w.heap[k]?) : Rd w' S A xs := fun hx => by
  obtain ⟨b, off, e, hb, hc⟩ := h hx
  exact ⟨b, off, e, hb, fun j v hv => (World.cell?_of_block (hk b hb)).trans (hc j v hv)⟩
theorem Rd.more (h : Rd w S A xs) (hB : ∀ b, S b → S' b) : Rd w S' A xs := fun hx => by
  obtain ⟨b, off, e, hb, hc⟩ := h hx
  exact ⟨b, off, e, hB b hb, hc⟩
theorem Rd.below {B : Nat} (h : Rd w S A xs) (hb : Below B w w') (hS : ∀ b, S b → b < B) : Rd w' S A xs := h.keep fun k hk => hb.block k (hS k hk)
theorem Rd.grown (h : Rd w S A xs) {row : Option Nat} (hg : w.grownBy w' row) (hr : ∀ k, S k → some k ≠ row) : Rd w' S A xs := by
  intro hx
  have hx' := hx
  obtain ⟨b, off, e, hb, hc⟩ := h hx
  refine ⟨b, off, e, hb, fun j v hv => ?_⟩
  have hcell := hc j v hv
  exact hg.cell hcell (hr b hb)
theorem Rd.alloc (h : Rd w S A xs) (o : Obj) : Rd (w.alloc o) S A xs := fun hx => by
  obtain ⟨b, off, e, hb, hc⟩ := h hx
  refine ⟨b, off, e, hb, fun j v hv => ?_⟩
  have hcell := hc j v hv
  rw [World.cell?_alloc_lt w o _ (World.block_lt_of_cell? w _ hcell)]
  exact hcell
theorem Rd.of_own {base : Nat} {e : TypeId} {size n c : Nat} (h : w.ownsRow base e size (.slice A n c) n xs) : Rd w (fun b => base ≤ b ∧ b < w.heap.size) A xs := by
  intro hx
  rcases h.2 with ⟨h0, rfl⟩ | ⟨g, cap, cur, hv, hb, hh, _, _, _, hxs⟩
  · exact absurd (List.eq_nil_of_length_eq_zero (by simpa using h.1)) hx
  · injection hv with hA _ _
    refine ⟨g, 0, hA, ⟨hb, Blk.lt hh⟩, fun j v hv => ?_⟩
    rw [Blk.cell hh]
    have : cur.toList[j]? = some v := by
      rw [← hxs, List.getElem?_take] at hv
      split at hv
      · exact hv
      · cases hv
    simpa using this
end

section
variable {a w w' : World} {row : Option Nat}
theorem grown_refl (w : World) (row : Option Nat) : w.grownBy w row := World.grownBy.refl w row
theorem grown_drewN (h : a.grownBy w row) (n : Nat) : a.grownBy (w.drewN n) row := ⟨h.os, h.tape, h.output, h.size, h.block⟩
theorem grown_alloc (h : a.grownBy w row) (o : Obj) : a.grownBy (w.alloc o) row :=
  ⟨h.os, h.tape, h.output, Nat.le_trans h.size (by simp), fun i hi hne => (Below.heap_alloc w o i (Nat.lt_of_lt_of_le hi h.size)).trans (h.block i hi hne)⟩
theorem grown_setCell {g : Nat} (h : a.grownBy w (some g)) {p : Addr} (hp : p.block = g ∨ a.heap.size ≤ p.block) (u : Value) : a.grownBy (w.setCell p u) (some g) :=
  ⟨h.os, h.tape, h.output, by simpa [World.setCell] using h.size, fun i hi hne => (Below.heap_setCell w p u i (by
    rintro rfl
    rcases hp with hp | hp
    · exact hne (by rw [hp])
    · omega)).trans (h.block i hi hne)⟩
theorem grown_set {g : Nat} (h : a.grownBy w (some g)) (i : Nat) (u : Value) : a.grownBy (w.setCell ⟨g, i, none⟩ u) (some g) := grown_setCell h (p := ⟨g, i, none⟩) (.inl rfl) u
theorem grown_setNew {g b : Nat} (h : a.grownBy w (some g)) (hb : a.heap.size ≤ b) (i : Nat) (u : Value) : a.grownBy (w.setCell ⟨b, i, none⟩ u) (some g) := grown_setCell h (p := ⟨b, i, none⟩) (.inr hb) u
theorem grown_trans (h : a.grownBy w row) (k : w.grownBy w' row) : a.grownBy w' row :=
  ⟨k.os.trans h.os, k.tape.trans h.tape, k.output.trans h.output, Nat.le_trans h.size k.size, fun i hi hne => (k.block i (Nat.lt_of_lt_of_le hi h.size) hne).trans (h.block i hi hne)⟩
theorem grown_of_below (h : Below a.heap.size a w) (row : Option Nat) : a.grownBy w row := ⟨h.os, h.tape, h.output, h.size, fun i hi _ => h.block i hi⟩
theorem below_drewN {B : Nat} {a w : World} (h : Below B a w) (n : Nat) : Below B a (w.drewN n) := ⟨h.os, h.tape, h.output, h.size, h.block⟩
end

theorem own_form {w : World} {base : Nat} {e : TypeId} {size : Nat} {v : Value} {n : Nat} {xs : List Value} (h : w.ownsRow base e size v n xs) : ∃ A c, v = .slice A n c := by
  rcases h.2 with ⟨rfl, rfl⟩ | ⟨g, cap, cur, rfl, _⟩
  · exact ⟨none, 0, rfl⟩
  · exact ⟨_, _, rfl⟩
theorem own_grown {w w' : World} {base : Nat} {e : TypeId} {size : Nat} {v : Value} {n : Nat} {xs : List Value} (h : w.ownsRow base e size v n xs) {row : Option Nat} (hg : w.grownBy w' row) (hr : ∀ k, row = some k → k < base) :
    w'.ownsRow base e size v n xs := by
  refine ⟨h.1, h.2.imp id ?_⟩
  rintro ⟨g, cap, cur, hv, hb, hh, rest⟩
  refine ⟨g, cap, cur, hv, hb, ?_, rest⟩
  rw [hg.block g (Blk.lt hh) (fun e => by have := hr g e.symm; omega)]
  exact hh
theorem own_below {w w' : World} {base B : Nat} {e : TypeId} {size : Nat} {v : Value} {n : Nat} {xs : List Value} (h : w.ownsRow base e size v n xs) (hb : Below B w w') (hv : ∀ k, v.ownBlock = some k → k < B) : w'.ownsRow base e size v n xs := by
  refine ⟨h.1, h.2.imp id ?_⟩
  rintro ⟨g, cap, cur, rfl, hbs, hh, rest⟩
  refine ⟨g, cap, cur, rfl, hbs, ?_, rest⟩
  rw [hb.block g (hv g rfl)]
  exact hh
theorem own_drewN {w : World} {base : Nat} {e : TypeId} {size : Nat} {v : Value} {n : Nat} {xs : List Value} (h : w.ownsRow base e size v n xs) (k : Nat) : (w.drewN k).ownsRow base e size v n xs := h
theorem own_block {w : World} {base : Nat} {e : TypeId} {size : Nat} {v : Value} {n : Nat} {xs : List Value} (h : w.ownsRow base e size v n xs) : ∀ k, v.ownBlock = some k → base ≤ k ∧ k < w.heap.size := h.lt

section
variable {P : Program} (w : World)
theorem run_append_none (base : Nat) (t ty e : TypeId) (i : TypeInfo) (size : Nat) (ht : P.underlying t = some (.slice e)) (hi : P.info? e = some i)
    (v : Value) (n : Nat) (xs : List Value) (hown : w.ownsRow base e size v n xs) (c : Nat) : (Builtin.append_ #[t, t] ty #[v, .slice none 0 c]).run P w = .ok v w := by
  rcases hown.2 with ⟨rfl, rfl⟩ | ⟨g, cap, cur, rfl, _, _, hnc, _⟩
  · simp [Builtin.append_, run_underlying ht, sizeOf, typeInfo, hi, Builtin.lenOf, Builtin.firstCells]
  · simp [Builtin.append_, run_underlying ht, sizeOf, typeInfo, hi, Builtin.lenOf, Builtin.firstCells, hnc, storeCells]

/-- append of a slice that came in (nil, empty or not) onto a row of the call's own. -/
theorem wpList_append_rd {ops : Array Oper} {rest : List Oper} {o : Oper} {a : Act} {Q : Exit → Act → World → Prop} (hgd : o.guard = none) (s x : Operand) (t : TypeId)
    (ho : o.op = .call { callee := .builtin .append, args := #[s, x], argTypes := #[t, t] })
    (base : Nat) (e : TypeId) (i : TypeInfo) (z : Value) (size bytes : Nat) (ht : P.underlying t = some (.slice e)) (hi : P.info? e = some i) (hz : i.zero = some z)
    (hsize : i.size = size) (hby : i.bytes = bytes) (hzs : z.cells.size = size) (hsz : 0 < size)
    (v : Value) (n : Nat) (xs : List Value) (hs : a.eval s = v) (hown : w.ownsRow base e size v n xs)
    (S : Nat → Prop) (A : Option Addr) (m c : Nat) (news : List Value) (hx : a.eval x = .slice A m c) (hl : news.length = m * size) (hr : Rd w S A news) (h1 : ∀ u ∈ news, u.oneCell' = true)
    (h63 : n + m ≤ maxLen) (hbytes : (n + m) * bytes ≤ 140737488355328) (hbase : base ≤ w.heap.size)
    (h : ∀ v' w', w'.ownsRow base e size v' (n + m) (xs ++ news) → w.grownBy w' v.ownBlock → (v'.ownBlock = v.ownBlock ∨ v'.ownBlock = some w.heap.size) → wpList P ops Q rest (a.put o.dst v') w') : wpList P ops Q (o :: rest) a w := by
  refine wpList_plain hgd fun K hK => ?_
  have hrun : ∃ v' w', (Builtin.append_ #[t, t] o.type #[v, .slice A m c]).run P w = .ok v' w' ∧ w'.ownsRow base e size v' (n + m) (xs ++ news) ∧ w.grownBy w' v.ownBlock ∧ (v'.ownBlock = v.ownBlock ∨ v'.ownBlock = some w.heap.size) := by
    rcases A with _ | ad
    · have hn : news = [] := by
        rcases Classical.em (news = []) with h0 | h0
        · exact h0
        · obtain ⟨b, off, hA, _⟩ := hr h0
          cases hA
      subst hn
      have hm : m = 0 := by
        rcases Nat.eq_zero_or_pos m with h0 | h0
        · exact h0
        · have : 0 < m * size := Nat.mul_pos h0 hsz
          simp at hl
          omega
      subst hm
      exact ⟨v, w, run_append_none w base t o.type e i size ht hi v n xs hown c, by simpa using hown, World.grownBy.refl w _, .inl rfl⟩
    · obtain ⟨v', w', hrun, h2, h3, _, h5⟩ := run_append_own_at (P := P) w base t o.type e i z size bytes ht hi hz hsize hby hzs hsz v n xs hown ad m c news hl (by
        intro j u hu
        obtain ⟨b, off, hA, _, hc⟩ := hr (by rintro rfl; simp at hu)
        injection hA with hA
        subst hA
        have := hc j u hu
        unfold Addr.add
        split
        · rename_i h0; subst h0; simpa using this
        · exact this) h1 h63 hbytes hbase
      exact ⟨v', w', hrun, h2, h3, h5⟩
  obtain ⟨v', w', hrun, h2, h3, h4⟩ := hrun
  unfold Oper.wp execOp
  simp only [ho, resolve, invoke, builtin, Sem.run_bind, Sem.run_pure, Result.andThen_ok, List.map_toArray, List.map_cons, List.map_nil, hs, hx, hrun]
  exact hK _ _ (h v' w' h2 h3 h4)
end

theorem quiet_left {P : Program} {f : FuncId} {args : Array Value} {w : World} {n : Nat} {v : Value}
    (h : Calls P f args (w.drewN n) fun e w' => e = .returned v ∧ w.drewN n = w') : Calls P f args (w.drewN n) fun e w'' => e = .returned v ∧ ∃ m, w'' = w.drewN m :=
  h.mono fun _ _ ⟨he, hm⟩ => ⟨he, n, hm.symm⟩
end Go.Proofs.Ytjobcfpnmfjlfaa

/-! An abstract machine: frames and memory as lists, blocks by names. What it computes the program computes (XSxB, XSxC). -/
namespace Go.Proofs.Ytjobcfpnmfjlfaa
open Go.RowKit
set_option linter.unusedSimpArgs false
set_option linter.unusedVariables false

def lk {α : Type} : List (Nat × α) → Nat → Option α
  | [], _ => none
  | (k, v) :: l, n => match Nat.beq k n with | true => some v | false => lk l n
theorem lk_same {α : Type} (k : Nat) (v : α) (l : List (Nat × α)) : lk ((k, v) :: l) k = some v := by
  unfold lk; rw [show Nat.beq k k = true from Nat.beq_refl k]
theorem lk_ne {α : Type} {k n : Nat} (v : α) (l : List (Nat × α)) (h : k ≠ n) : lk ((k, v) :: l) n = lk l n := by
  rw [lk]
  have : Nat.beq k n = false := by
    cases hb : Nat.beq k n
    · rfl
    · exact absurd (Nat.eq_of_beq_eq_true hb) h
  rw [this]
theorem lk_app {α : Type} {l r : List (Nat × α)} {n : Nat} {v : α} (h : lk l n = some v) : lk (l ++ r) n = some v := by
  induction l with
  | nil => simp [lk] at h
  | cons p l ih =>
    obtain ⟨k, u⟩ := p
    rw [List.cons_append]
    by_cases hk : k = n
    · subst hk; rw [lk_same] at h ⊢; exact h
    · rw [lk_ne _ _ hk] at h ⊢; exact ih h
theorem lk_cons {α : Type} {k n : Nat} {v u : α} {l : List (Nat × α)} (h : lk ((k, v) :: l) n = some u) : (k = n ∧ v = u) ∨ (k ≠ n ∧ lk l n = some u) := by
  by_cases hk : k = n
  · subst hk; rw [lk_same] at h; exact .inl ⟨rfl, Option.some.inj h⟩
  · rw [lk_ne _ _ hk] at h; exact .inr ⟨hk, h⟩

/-- A block of the abstract memory: a variable of the call's own, or a row of n elements that is only read. -/
inductive ABlk where
  | box (t : TypeId) (cs : List Value)
  | row (t : TypeId) (sz n : Nat) (el : Nat → List Value)
abbrev AF := List (Nat × Value)
abbrev AM := List (Nat × ABlk)

/-- Where a name lies: its address, the size of an element, their number; or it is only reserved. -/
structure Pl where
  A : Option Addr
  sz : Nat
  n : Nat
  res : Bool := false
def dA (ρ : Nat → Pl) (a : Addr) : Option Addr := match a.spot, a.off with
  | none, 0 => (ρ a.block).A
  | s, o => (ρ a.block).A.map fun b => ⟨b.block, b.off + s.getD 0 * (ρ a.block).sz + o, none⟩
theorem dA_some {ρ : Nat → Pl} {a : Addr} {b o : Nat} (h : (ρ a.block).A = some ⟨b, o, none⟩) : dA ρ a = some ⟨b, o + a.spot.getD 0 * (ρ a.block).sz + a.off, none⟩ := by
  obtain ⟨ab, ao, as_⟩ := a
  simp only at h
  unfold dA
  cases as_ with
  | some k => simp [h]
  | none => cases ao with
    | zero => simp [h]
    | succ n => simp [h]
theorem dA_whole {ρ : Nat → Pl} (i : Nat) : dA ρ ⟨i, 0, none⟩ = (ρ i).A := rfl
def den1 (ρ : Nat → Pl) : Value → Value
  | .pointer (some a) => .pointer (dA ρ a)
  | .slice (some a) n c => .slice (dA ρ a) n c
  | v => v
def den2 (ρ : Nat → Pl) : Value → Value
  | .agg cs => .agg (cs.map (den1 ρ))
  | v => den1 ρ v
def den (ρ : Nat → Pl) : Value → Value
  | .tuple vs => .tuple (vs.map (den2 ρ))
  | v => den2 ρ v
/-- All names are below n, and what is pointed at is there. -/
def ok1 (ρ : Nat → Pl) (n : Nat) : Value → Prop
  | .pointer (some a) => (a.block < n ∧ (ρ a.block).res = false) ∧ (∃ b o, (ρ a.block).A = some ⟨b, o, none⟩) ∧ ∀ k, a.spot = some k → k < (ρ a.block).n
  | .slice (some a) _ _ => a.block < n ∧ (ρ a.block).res = false
  | _ => True
def ok2 (ρ : Nat → Pl) (n : Nat) : Value → Prop
  | .agg cs => ∀ v ∈ cs, ok1 ρ n v
  | v => ok1 ρ n v
def okV (ρ : Nat → Pl) (n : Nat) : Value → Prop
  | .tuple vs => ∀ v ∈ vs, ok2 ρ n v
  | v => ok2 ρ n v
/-- No names inside. -/
def plain1 : Value → Prop
  | .pointer (some _) => False
  | .slice (some _) _ _ => False
  | _ => True

section
variable {ρ ρ' : Nat → Pl} {n m : Nat}
theorem dA_congr (h : ∀ i, i < n → (ρ i).res = false → ρ' i = ρ i) {a : Addr} (ha : a.block < n ∧ (ρ a.block).res = false) : dA ρ' a = dA ρ a := by unfold dA; rw [h _ ha.1 ha.2]
theorem den1_congr (h : ∀ i, i < n → (ρ i).res = false → ρ' i = ρ i) : ∀ {v : Value}, ok1 ρ n v → den1 ρ' v = den1 ρ v := by
  intro v hv
  cases v with
  | pointer a => cases a with
    | none => rfl
    | some a => simp only [den1]; rw [dA_congr h hv.1]
  | slice a k c => cases a with
    | none => rfl
    | some a => simp only [den1]; rw [dA_congr h hv]
  | _ => rfl
theorem not_agg (v : Value) : (∃ cs, v = .agg cs) ∨ ((∀ ρ, den2 ρ v = den1 ρ v) ∧ ∀ ρ n, ok2 ρ n v = ok1 ρ n v) := by
  cases v with
  | agg cs => exact .inl ⟨cs, rfl⟩
  | _ => exact .inr ⟨fun _ => rfl, fun _ _ => rfl⟩
theorem not_tuple (v : Value) : (∃ cs, v = .tuple cs) ∨ ((∀ ρ, den ρ v = den2 ρ v) ∧ ∀ ρ n, okV ρ n v = ok2 ρ n v) := by
  cases v with
  | tuple cs => exact .inl ⟨cs, rfl⟩
  | _ => exact .inr ⟨fun _ => rfl, fun _ _ => rfl⟩
theorem den2_congr (h : ∀ i, i < n → (ρ i).res = false → ρ' i = ρ i) : ∀ {v : Value}, ok2 ρ n v → den2 ρ' v = den2 ρ v := by
  intro v hv
  rcases not_agg v with ⟨cs, rfl⟩ | ⟨h1, h2⟩
  · simp only [den2]; congr 1; exact Array.map_congr_left fun x hx => den1_congr h (hv x hx)
  · rw [h1, h1]; exact den1_congr h (by rw [← h2]; exact hv)
theorem den_congr (h : ∀ i, i < n → (ρ i).res = false → ρ' i = ρ i) : ∀ {v : Value}, okV ρ n v → den ρ' v = den ρ v := by
  intro v hv
  rcases not_tuple v with ⟨cs, rfl⟩ | ⟨h1, h2⟩
  · simp only [den]; congr 1; exact Array.map_congr_left fun x hx => den2_congr h (hv x hx)
  · rw [h1, h1]; exact den2_congr h (by rw [← h2]; exact hv)
theorem ok1_mono (hr : ∀ i, i < n → (ρ i).res = false → ρ' i = ρ i) (h : n ≤ m) : ∀ {v : Value}, ok1 ρ n v → ok1 ρ' m v := by
  intro v hv
  cases v with
  | pointer a => cases a with
    | none => trivial
    | some a => exact ⟨⟨Nat.lt_of_lt_of_le hv.1.1 h, by rw [hr _ hv.1.1 hv.1.2]; exact hv.1.2⟩, by rw [hr _ hv.1.1 hv.1.2]; exact hv.2⟩
  | slice a k c => cases a with
    | none => trivial
    | some a => exact ⟨Nat.lt_of_lt_of_le hv.1 h, by rw [hr _ hv.1 hv.2]; exact hv.2⟩
  | _ => trivial
theorem ok2_mono (hr : ∀ i, i < n → (ρ i).res = false → ρ' i = ρ i) (h : n ≤ m) : ∀ {v : Value}, ok2 ρ n v → ok2 ρ' m v := by
  intro v hv
  rcases not_agg v with ⟨cs, rfl⟩ | ⟨h1, h2⟩
  · exact fun x hx => ok1_mono hr h (hv x hx)
  · rw [h2] at hv ⊢; exact ok1_mono hr h hv
theorem okV_mono (hr : ∀ i, i < n → (ρ i).res = false → ρ' i = ρ i) (h : n ≤ m) : ∀ {v : Value}, okV ρ n v → okV ρ' m v := by
  intro v hv
  rcases not_tuple v with ⟨cs, rfl⟩ | ⟨h1, h2⟩
  · exact fun x hx => ok2_mono hr h (hv x hx)
  · rw [h2] at hv ⊢; exact ok2_mono hr h hv
theorem den1_plain : ∀ {v : Value}, plain1 v → den1 ρ v = v := by
  intro v hv
  cases v with
  | pointer a => cases a with
    | none => rfl
    | some a => exact hv.elim
  | slice a k c => cases a with
    | none => rfl
    | some a => exact hv.elim
  | _ => rfl
theorem ok1_plain : ∀ {v : Value}, plain1 v → ok1 ρ n v := by
  intro v hv
  cases v with
  | pointer a => cases a with
    | none => trivial
    | some a => exact hv.elim
  | slice a k c => cases a with
    | none => trivial
    | some a => exact hv.elim
  | _ => trivial
end

/-- The call at hand: the world at its start, the blocks below that it may write, the names that came in. -/
structure Ctx where
  w0 : World
  bor : List Nat
  n0 : Nat
  ρ0 : Nat → Pl
  nt : Nat
  ff : AF := []
  fm : AM := []
structure Rest (C : Ctx) (w : World) : Prop where
  os : w.os = C.w0.os
  tape : w.tape = C.w0.tape
  output : w.output = C.w0.output
  size : C.w0.heap.size ≤ w.heap.size
  block : ∀ b, b < C.w0.heap.size → b ∉ C.bor → w.heap[b]? = C.w0.heap[b]?
/-- Rows whose type is a million and more are the call's own: they may be written. -/
def ownT (t : TypeId) : Bool := Nat.ble 1000000 t
/-- Rows whose type is half a million and more were made behind the call's start. -/
def frT (t : TypeId) : Bool := Nat.ble 500000 t
theorem frT_own {t : TypeId} (h : ownT t = true) : frT t = true := Nat.ble_eq_true_of_le (Nat.le_trans (by decide) (Nat.le_of_ble_eq_true h))
structure RowA (base : Nat) (w : World) (t : TypeId) (b off : Nat) : Prop where
  lt : b < w.heap.size
  own : ownT t = true → off = 0 ∧ base ≤ b ∧ ∃ ty cs, Blk w b ty cs
  new : frT t = true → base ≤ b
def BlkOk (C : Ctx) (ρ : Nat → Pl) (nx i : Nat) (w : World) : ABlk → Prop
  | .box t cs => ∃ g, (ρ i).A = some ⟨g, 0, none⟩ ∧ Blk w g t (cs.map (den1 ρ)).toArray ∧ (C.w0.heap.size ≤ g ∨ g ∈ C.bor) ∧ ∀ v ∈ cs, ok1 ρ nx v
  | .row t sz n el => ((ρ i).sz = sz ∧ (ρ i).n = n) ∧ (∀ k, k < n → (el k).length = sz ∧ ∀ v ∈ el k, plain1 v) ∧ (n = 0 ∨ ∃ b off, (ρ i).A = some ⟨b, off, none⟩ ∧ RowA C.w0.heap.size w t b off ∧ ∀ k, k < n → ∀ j v, (el k)[j]? = some v → w.cell? ⟨b, off + k * sz + j, none⟩ = some v)
def bno (ρ : Nat → Pl) (i : Nat) : Option Nat := (ρ i).A.map (·.block)
/-- A box lies apart from all else. -/
def Apart (ρ : Nat → Pl) (i j : Nat) : ABlk → ABlk → Prop
  | .box _ _, .box _ _ => bno ρ i ≠ bno ρ j
  | .box _ _, .row _ _ n _ => n = 0 ∨ bno ρ i ≠ bno ρ j
  | .row t _ n _, .row _ _ n' _ => ownT t = true → n = 0 ∨ n' = 0 ∨ bno ρ i ≠ bno ρ j
  | _, _ => True
structure FrOk (ρ : Nat → Pl) (fr : AF) (nx : Nat) (a : Act) : Prop where
  frm : ∀ t v, lk fr t = some v → a.tmps[t]? = some (den ρ v)
  frk : ∀ t v, lk fr t = some v → okV ρ nx v
structure Sat (C : Ctx) (ρ : Nat → Pl) (fr : AF) (mem : AM) (nx : Nat) (a : Act) (w : World) : Prop where
  fok : FrOk ρ (fr ++ C.ff) nx a
  sz : a.tmps.size = C.nt
  dfr : a.defers = []
  mlt : ∀ i b, lk (mem ++ C.fm) i = some b → i < nx ∧ (ρ i).res = false
  blk : ∀ i b, lk (mem ++ C.fm) i = some b → BlkOk C ρ nx i w b
  sep : ∀ i j b b', i ≠ j → lk (mem ++ C.fm) i = some b → lk (mem ++ C.fm) j = some b' → Apart ρ i j b b'
  n0 : C.n0 ≤ nx
  low : ∀ i, i < C.n0 → ρ i = C.ρ0 i
  rest : Rest C w

section
variable {C : Ctx} {ρ : Nat → Pl} {fr : AF} {mem : AM} {nx : Nat} {a : Act} {w w' : World}
theorem RowA.later {base : Nat} {t : TypeId} {b off : Nat} (h : RowA base w t b off) (hb : Below w.heap.size w w') : RowA base w' t b off :=
  ⟨Nat.lt_of_lt_of_le h.lt hb.size, fun ho => by obtain ⟨h1, h2, ty, cs, h3⟩ := h.own ho; exact ⟨h1, h2, ty, cs, h3.below hb h3.lt⟩, h.new⟩
theorem BlkOk.later {i : Nat} {b : ABlk} (h : BlkOk C ρ nx i w b) (hb : Below w.heap.size w w') : BlkOk C ρ nx i w' b := by
  cases b with
  | box t cs =>
    obtain ⟨g, h1, h2, h3, h4⟩ := h
    exact ⟨g, h1, h2.below hb h2.lt, h3, h4⟩
  | row t sz n el =>
    obtain ⟨h1, h2, h3⟩ := h
    refine ⟨h1, h2, h3.imp id ?_⟩
    rintro ⟨b, off, e, hlt, hc⟩
    exact ⟨b, off, e, hlt.later hb, fun k hk j v hv => (hb.cell (p := ⟨b, off + k * sz + j, none⟩) hlt.lt).trans (hc k hk j v hv)⟩
theorem Rest.later (h : Rest C w) (hb : Below w.heap.size w w') : Rest C w' :=
  ⟨hb.os.trans h.os, hb.tape.trans h.tape, hb.output.trans h.output, Nat.le_trans h.size hb.size, fun b hlt hn => (hb.block b (Nat.lt_of_lt_of_le hlt h.size)).trans (h.block b hlt hn)⟩
/-- A world that is as w below its size. -/
theorem Sat.later (h : Sat C ρ fr mem nx a w) (hb : Below w.heap.size w w') : Sat C ρ fr mem nx a w' :=
  ⟨h.fok, h.sz, h.dfr, h.mlt, fun i b hi => (h.blk i b hi).later hb, h.sep, h.n0, h.low, h.rest.later hb⟩
theorem Sat.drew (h : Sat C ρ fr mem nx a w) : Sat C ρ fr mem nx a w.drew := h.later (Below.refl _ _).drew
def putF (d : Option Nat) (v : Value) (fr : AF) : AF := match d with | some d => (d, v) :: fr | none => fr
/-- One slot more. -/
theorem FrOk.put (h : FrOk ρ fr nx a) {d : Nat} {v : Value} (hd : d < a.tmps.size) (hv : okV ρ nx v) : FrOk ρ ((d, v) :: fr) nx (a.put (some d) (den ρ v)) := by
  refine ⟨fun t u hu => ?_, fun t u hu => ?_⟩
  · rcases lk_cons hu with ⟨rfl, rfl⟩ | ⟨hne, hu⟩
    · simp [Act.put, hd]
    · have := h.frm t u hu
      simp only [Act.put]
      rw [Array.getElem?_setIfInBounds_ne hne]
      exact this
  · rcases lk_cons hu with ⟨rfl, rfl⟩ | ⟨hne, hu⟩
    · exact hv
    · exact h.frk t u hu
theorem Sat.put (h : Sat C ρ fr mem nx a w) {d : Option Nat} {v : Value} (hd : ∀ i, d = some i → i < C.nt) (hv : okV ρ nx v) : Sat C ρ (putF d v fr) mem nx (a.put d (den ρ v)) w := by
  cases d with
  | none => exact h
  | some d => exact ⟨h.fok.put (by rw [h.sz]; exact hd d rfl) hv, by simp [Act.put, h.sz], h.dfr, h.mlt, h.blk, h.sep, h.n0, h.low, h.rest⟩
/-- A slot that is not known. -/
theorem FrOk.hold (h : FrOk ρ fr nx a) {d : Nat} {v : Value} (hf : lk fr d = none) : FrOk ρ fr nx (a.put (some d) v) := by
  refine ⟨fun t u hu => ?_, h.frk⟩
  have hne : d ≠ t := by rintro rfl; rw [hf] at hu; cases hu
  simp only [Act.put]
  rw [Array.getElem?_setIfInBounds_ne hne]
  exact h.frm t u hu
theorem Sat.hold (h : Sat C ρ fr mem nx a w) {d : Option Nat} {v : Value} (hf : ∀ i, d = some i → lk (fr ++ C.ff) i = none) : Sat C ρ fr mem nx (a.put d v) w := by
  cases d with
  | none => exact h
  | some d => exact ⟨h.fok.hold (hf d rfl), by simp [Act.put, h.sz], h.dfr, h.mlt, h.blk, h.sep, h.n0, h.low, h.rest⟩
theorem FrOk.left {ff : AF} (h : FrOk ρ (fr ++ ff) nx a) : FrOk ρ fr nx a := ⟨fun t v hv => h.frm t v (lk_app hv), fun t v hv => h.frk t v (lk_app hv)⟩
/-- Less is known. -/
theorem Sat.less (h : Sat C ρ fr mem nx a w) {fr' : AF} {mem' : AM} (hf : ∀ t v, lk (fr' ++ C.ff) t = some v → lk (fr ++ C.ff) t = some v) (hm : ∀ i b, lk (mem' ++ C.fm) i = some b → lk (mem ++ C.fm) i = some b) : Sat C ρ fr' mem' nx a w :=
  ⟨⟨fun t v hv => h.fok.frm t v (hf t v hv), fun t v hv => h.fok.frk t v (hf t v hv)⟩, h.sz, h.dfr, fun i b hi => h.mlt i b (hm i b hi), fun i b hi => h.blk i b (hm i b hi), fun i j b b' hne hi hj => h.sep i j b b' hne (hm i b hi) (hm j b' hj), h.n0, h.low, h.rest⟩
/-- Names above nx may lie anywhere. -/
theorem BlkOk.ren {i : Nat} {b : ABlk} {ρ' : Nat → Pl} {m : Nat} (h : BlkOk C ρ nx i w b) (hi : ρ' i = ρ i) (hr : ∀ j, j < nx → (ρ j).res = false → ρ' j = ρ j) (hm : nx ≤ m) : BlkOk C ρ' m i w b := by
  cases b with
  | box t cs =>
    obtain ⟨g, h1, h2, h3, h4⟩ := h
    refine ⟨g, by rw [hi]; exact h1, ?_, h3, fun v hv => ok1_mono hr hm (h4 v hv)⟩
    have : cs.map (den1 ρ') = cs.map (den1 ρ) := List.map_congr_left fun v hv => den1_congr hr (h4 v hv)
    rw [this]
    exact h2
  | row t sz n el =>
    obtain ⟨h1, h2, h3⟩ := h
    refine ⟨by rw [hi]; exact h1, h2, ?_⟩
    rw [hi]
    exact h3
theorem Apart.ren {i j : Nat} {b b' : ABlk} {ρ' : Nat → Pl} (h : Apart ρ i j b b') (hi : ρ' i = ρ i) (hj : ρ' j = ρ j) : Apart ρ' i j b b' := by
  cases b <;> cases b' <;> simp only [Apart, bno] at h ⊢ <;> rw [hi, hj] <;> exact h
theorem Sat.ren (h : Sat C ρ fr mem nx a w) {ρ' : Nat → Pl} {m : Nat} (hr : ∀ j, j < nx → (ρ j).res = false → ρ' j = ρ j) (hm : nx ≤ m) (hl : ∀ j, j < C.n0 → ρ' j = ρ j) : Sat C ρ' fr mem m a w :=
  ⟨⟨fun t v hv => by rw [den_congr hr (h.fok.frk t v hv)]; exact h.fok.frm t v hv, fun t v hv => okV_mono hr hm (h.fok.frk t v hv)⟩, h.sz, h.dfr,
    fun i b hi => ⟨Nat.lt_of_lt_of_le (h.mlt i b hi).1 hm, by rw [hr i (h.mlt i b hi).1 (h.mlt i b hi).2]; exact (h.mlt i b hi).2⟩,
    fun i b hi => (h.blk i b hi).ren (hr i (h.mlt i b hi).1 (h.mlt i b hi).2) hr hm, fun i j b b' hne hi hj => (h.sep i j b b' hne hi hj).ren (hr i (h.mlt i b hi).1 (h.mlt i b hi).2) (hr j (h.mlt j b' hj).1 (h.mlt j b' hj).2),
    Nat.le_trans h.n0 hm, fun i hi => (hl i hi).trans (h.low i hi), h.rest⟩
def setPl (ρ : Nat → Pl) (n : Nat) (p : Pl) : Nat → Pl := fun i => if i = n then p else ρ i
theorem setPl_same (ρ : Nat → Pl) (n : Nat) (p : Pl) : setPl ρ n p n = p := if_pos rfl
theorem setPl_lt (ρ : Nat → Pl) {n : Nat} (p : Pl) {i : Nat} (h : i < n) : setPl ρ n p i = ρ i := if_neg (by omega)
/-- The block of a known name is a block of the world. -/
theorem BlkOk.lt {i : Nat} {t : TypeId} {cs : List Value} (h : BlkOk C ρ nx i w (.box t cs)) : ∃ g, bno ρ i = some g ∧ g < w.heap.size := by
  obtain ⟨g, h1, h2, _⟩ := h
  exact ⟨g, by simp [bno, h1], h2.lt⟩
/-- A name that stands for nothing yet gets a new block. -/
theorem Sat.fill (h : Sat C ρ fr mem nx a w) {b : ABlk} {p : Pl} {ν : Nat} (hν : ν < nx) (hν0 : C.n0 ≤ ν) (hfree : (ρ ν).res = true) (hw : Below w.heap.size w w') (hok : BlkOk C (setPl ρ ν p) nx ν w' b) (hnew : ∀ g, p.A.map (·.block) = some g → w.heap.size ≤ g) (hp : p.res = false) :
    Sat C (setPl ρ ν p) fr ((ν, b) :: mem) nx a w' := by
  have hr : ∀ j, j < nx → (ρ j).res = false → setPl ρ ν p j = ρ j := fun j _ hj => if_neg (by rintro rfl; rw [hj] at hfree; cases hfree)
  have h1 := (h.later hw).ren (ρ' := setPl ρ ν p) (m := nx) hr (Nat.le_refl _) (fun j hj => setPl_lt ρ p (Nat.lt_of_lt_of_le hj hν0))
  have key : ∀ j b', lk (mem ++ C.fm) j = some b' → Apart (setPl ρ ν p) ν j b b' ∧ Apart (setPl ρ ν p) j ν b' b := by
    intro j b' hj
    have hjl := h.mlt j b' hj
    have e1 : bno (setPl ρ ν p) ν = p.A.map (·.block) := by unfold bno; rw [setPl_same]
    have e2 : bno (setPl ρ ν p) j = bno ρ j := by unfold bno; rw [hr j hjl.1 hjl.2]
    have hb := h.blk j b' hj
    have hne : ∀ g, bno ρ j = some g → g < w.heap.size → p.A.map (·.block) ≠ bno ρ j := by
      intro g hg hlt he
      rw [hg] at he
      have := hnew g he
      omega
    cases b' with
    | box t cs =>
      obtain ⟨g, hg, hlt⟩ := hb.lt
      have := hne g hg hlt
      cases b with
      | box t2 cs2 => simp only [Apart]; rw [e1, e2]; exact ⟨this, Ne.symm this⟩
      | row t2 sz n el => simp only [Apart]; rw [e1, e2]; exact ⟨trivial, .inr (Ne.symm this)⟩
    | row t sz n el =>
      cases b with
      | box t2 cs2 =>
        simp only [Apart]
        rw [e1, e2]
        refine ⟨?_, trivial⟩
        rcases hb.2.2 with h0 | ⟨bb, off, hA, hlt, _⟩
        · exact .inl h0
        · exact .inr (hne bb (by simp [bno, hA]) hlt.lt)
      | row t2 sz2 n2 el2 =>
        simp only [Apart]
        rw [e1, e2]
        rcases hb.2.2 with h0 | ⟨bb, off, hA, hlt, _⟩
        · exact ⟨fun _ => .inr (.inl h0), fun _ => .inl h0⟩
        · have := hne bb (by simp [bno, hA]) hlt.lt
          exact ⟨fun _ => .inr (.inr this), fun _ => .inr (.inr (Ne.symm this))⟩
  refine ⟨h1.fok, h1.sz, h1.dfr, fun i b' hi => ?_, fun i b' hi => ?_, fun i j b1 b2 hne hi hj => ?_, h1.n0, h1.low, h1.rest⟩
  · rcases lk_cons hi with ⟨rfl, rfl⟩ | ⟨hne, hi⟩
    · exact ⟨hν, by rw [setPl_same]; exact hp⟩
    · exact h1.mlt i b' hi
  · rcases lk_cons hi with ⟨rfl, rfl⟩ | ⟨hne, hi⟩
    · exact hok
    · exact h1.blk i b' hi
  · rcases lk_cons hi with ⟨rfl, rfl⟩ | ⟨hni, hi⟩
    · rcases lk_cons hj with ⟨rfl, rfl⟩ | ⟨hnj, hj⟩
      · exact absurd rfl hne
      · exact (key j b2 hj).1
    · rcases lk_cons hj with ⟨rfl, rfl⟩ | ⟨hnj, hj⟩
      · exact (key i b1 hi).2
      · exact h1.sep i j b1 b2 hne hi hj
/-- One name more, reserved. -/
theorem Sat.reserve (h : Sat C ρ fr mem nx a w) : Sat C (setPl ρ nx ⟨none, 0, 0, true⟩) fr mem (nx + 1) a w := h.ren (fun j hj _ => setPl_lt ρ _ hj) (Nat.le_succ _) (fun j hj => setPl_lt ρ _ (Nat.lt_of_lt_of_le hj h.n0))
theorem setPl_twice (ρ : Nat → Pl) (n : Nat) (p q : Pl) : setPl (setPl ρ n p) n q = setPl ρ n q := by
  funext i; unfold setPl; split <;> rfl
/-- A new name for a new block. -/
theorem Sat.add (h : Sat C ρ fr mem nx a w) {b : ABlk} {p : Pl} (hw : Below w.heap.size w w') (hok : BlkOk C (setPl ρ nx p) (nx + 1) nx w' b) (hnew : ∀ g, p.A.map (·.block) = some g → w.heap.size ≤ g) (hp : p.res = false) :
    Sat C (setPl ρ nx p) fr ((nx, b) :: mem) (nx + 1) a w' := by
  have := h.reserve.fill (b := b) (p := p) (ν := nx) (Nat.lt_succ_self _) h.n0 (by rw [setPl_same]) hw (by rw [setPl_twice]; exact hok) hnew hp
  rw [setPl_twice] at this
  exact this
end
end Go.Proofs.Ytjobcfpnmfjlfaa

namespace Go.Proofs.Ytjobcfpnmfjlfaa
open Go.RowKit
set_option linter.unusedSimpArgs false
set_option linter.unusedVariables false

/-! Structs of numbers and truth values: when are two of them equal? -/
inductive CK where
  | i (k : IntKind)
  | b
  deriving DecidableEq
def ck1 : CK → Value → Bool
  | .i k, .int k' _ => decide (k = k')
  | .b, .bool _ => true
  | _, _ => false
def ckOk : List CK → List Value → Bool
  | [], [] => true
  | k :: r, v :: l => ck1 k v && ckOk r l
  | _, _ => false
def eqC1 : Value → Value → Bool
  | .int _ a, .int _ b => a == b
  | .bool a, .bool b => a == b
  | _, _ => false
def eqCs : List Value → List Value → Bool
  | [], [] => true
  | x :: xs, y :: ys => eqC1 x y && eqCs xs ys
  | _, _ => false
def flatFs (g : TypeId → Option (List CK)) (sz : TypeId → Nat) : Nat → List Field → Option (List CK)
  | _, [] => some []
  | off, f :: r => if f.name = "_" then none else if f.offset = off then (match g f.type with
    | some ks => if sz f.type = ks.length then (match flatFs g sz (off + ks.length) r with | some l => some (ks ++ l) | none => none) else none
    | none => none) else none
def szK (P : Program) (t : TypeId) : Nat := match P.info? t with | some i => i.size | none => 0
def flatK (P : Program) : Nat → TypeId → Option (List CK)
  | 0, _ => none
  | d + 1, t => match P.underlying t with
    | some (.int k) => some [.i k]
    | some .bool => some [.b]
    | some (.struct fs) => if P.stoodInHeld t then none else flatFs (flatK P d) (szK P) 0 fs.toList
    | _ => none
def wrK (P : Program) (t : TypeId) (l : List Value) : Value := match P.underlying t with
  | some (.struct _) => .agg l.toArray
  | _ => l.headD default
theorem ckOk_len : ∀ {ks : List CK} {l : List Value}, ckOk ks l = true → l.length = ks.length
  | [], [], _ => rfl
  | [], _ :: _, h => by simp [ckOk] at h
  | _ :: _, [], h => by simp [ckOk] at h
  | k :: r, v :: l, h => by simp only [ckOk, Bool.and_eq_true] at h; simp [ckOk_len h.2]
theorem ckOk_app : ∀ {ks ls : List CK} {l : List Value}, ckOk (ks ++ ls) l = true → ∃ a b, l = a ++ b ∧ ckOk ks a = true ∧ ckOk ls b = true
  | [], ls, l, h => ⟨[], l, rfl, rfl, h⟩
  | k :: r, ls, [], h => by simp [ckOk] at h
  | k :: r, ls, v :: l, h => by
    simp only [List.cons_append, ckOk, Bool.and_eq_true] at h
    obtain ⟨a, b, rfl, h1, h2⟩ := ckOk_app h.2
    exact ⟨v :: a, b, rfl, by simp [ckOk, h.1, h1], h2⟩
theorem eqCs_app : ∀ {a a' b b' : List Value}, a.length = a'.length → eqCs (a ++ b) (a' ++ b') = (eqCs a a' && eqCs b b')
  | [], [], b, b', _ => by simp [eqCs]
  | [], _ :: _, _, _, h => by simp at h
  | _ :: _, [], _, _, h => by simp at h
  | x :: a, y :: a', b, b', h => by simp only [List.cons_append, eqCs]; rw [eqCs_app (by simpa using h), Bool.and_assoc]

section
variable {P : Program} {w : World}
theorem fields_flat (d : Nat) {g : TypeId → Option (List CK)} (hg : ∀ t ks, g t = some ks → (∃ dd, P.underlying t = some dd ∧ (dd.isRow = true ↔ ∃ fs, dd = .struct fs) ∧ (dd.isRow = false → ks.length = 1)) ∧ ∀ xs ys, ckOk ks xs = true → ckOk ks ys = true → (Op.equalIn d t (wrK P t xs) (wrK P t ys)).run P w = .ok (eqCs xs ys) w) :
    ∀ (fs : List Field) (off : Nat) (l : List CK), flatFs g (szK P) off fs = some l → ∀ (X Y : Array Value) (xs ys : List Value), X.toList.drop off = xs → Y.toList.drop off = ys → ckOk l xs = true → ckOk l ys = true →
    (Op.eqFields d X Y fs).run P w = .ok (eqCs xs ys) w
  | [], off, l, h, X, Y, xs, ys, hx, hy, h1, h2 => by
    simp [flatFs] at h
    subst h
    cases xs <;> cases ys <;> simp [ckOk] at h1 h2
    simp [Op.eqFields, eqCs]
  | f :: r, off, l, h, X, Y, xs, ys, hx, hy, h1, h2 => by
    simp only [flatFs] at h
    by_cases hn : f.name = "_"
    · simp [hn] at h
    · rw [if_neg hn] at h
      by_cases ho : f.offset = off
      · rw [if_pos ho] at h
        cases hk : g f.type with
        | none => rw [hk] at h; simp at h
        | some ks =>
          rw [hk] at h
          simp only at h
          by_cases hs : szK P f.type = ks.length
          · rw [if_pos hs] at h
            cases hr : flatFs g (szK P) (off + ks.length) r with
            | none => rw [hr] at h; simp at h
            | some l' =>
              rw [hr] at h
              simp at h
              subst h
              obtain ⟨a, b, rfl, ha, hb⟩ := ckOk_app h1
              obtain ⟨a', b', rfl, ha', hb'⟩ := ckOk_app h2
              have la := ckOk_len ha
              have la' := ckOk_len ha'
              obtain ⟨⟨dd, hu, hrow, hone⟩, heq⟩ := hg _ _ hk
              have hdrop : ∀ {Z : Array Value} {u v : List Value}, Z.toList.drop off = u ++ v → u.length = ks.length → Z.toList.drop (off + ks.length) = v := by
                intro Z u v hz hl
                rw [← List.drop_drop, hz, ← hl]
                simp
              have hpart : ∀ {Z : Array Value} {u v : List Value}, Z.toList.drop off = u ++ v → u.length = ks.length → (part f.type Z off).run P w = .ok (wrK P f.type u) w := by
                intro Z u v hz hl
                have hag : (isAgg f.type).run P w = .ok dd.isRow w := by
                  unfold isAgg
                  rw [Sem.run_bind, run_underlying hu w]
                  cases dd <;> simp_all
                cases hi : P.info? f.type with
                | none =>
                  have : ks.length = 0 := by rw [← hs]; simp [szK, hi]
                  cases hdr : dd.isRow with
                  | false => have := hone hdr; omega
                  | true =>
                    exfalso
                    obtain ⟨fs', rfl⟩ := hrow.1 hdr
                    have := hu
                    simp [Program.underlying, hi] at this
                | some ii =>
                  have hsz : ii.size = ks.length := by rw [← hs]; simp [szK, hi]
                  cases hdr : dd.isRow with
                  | false =>
                    have h1 := hone hdr
                    have hw : wrK P f.type u = u.headD default := by
                      unfold wrK
                      rw [hu]
                      cases dd <;> first | rfl | simp at hdr
                    rw [hw]
                    have hz0 : Z[off]? = some (u.headD default) := by
                      have := congrArg (·[0]?) hz
                      simp only [List.getElem?_drop, Nat.add_zero] at this
                      rw [← Array.getElem?_toList, this]
                      cases u with
                      | nil => simp at hl; omega
                      | cons q u => simp
                    simp [part, hag, hdr, hz0]
                  | true =>
                    obtain ⟨fs', rfl⟩ := hrow.1 hdr
                    have hw : wrK P f.type u = .agg u.toArray := by unfold wrK; rw [hu]
                    rw [hw]
                    have : Z.extract off (off + ks.length) = u.toArray := by
                      apply Array.toList_inj.1
                      rw [Array.toList_extract, List.extract_eq_take_drop, hz, ← hl]
                      simp
                    simp [part, hag, hdr, sizeOf, typeInfo, hi, hsz, this]
              have ih := fields_flat d hg r (off + ks.length) l' hr X Y b b' (hdrop hx la) (hdrop hy la') hb hb'
              have he := heq a a' ha ha'
              rw [eqCs_app (by omega)]
              rw [Op.eqFields, if_pos hn, ho]
              simp only [Sem.run_bind, hpart hx la, hpart hy la', Result.andThen_ok, he]
              cases eqCs a a' <;> simp [ih]
          · rw [if_neg hs] at h; simp at h
      · rw [if_neg ho] at h; simp at h
theorem equalIn_flat : ∀ (d n : Nat) (t : TypeId) (ks : List CK), d ≤ n → flatK P d t = some ks → (∃ dd, P.underlying t = some dd ∧ (dd.isRow = true ↔ ∃ fs, dd = .struct fs) ∧ (dd.isRow = false → ks.length = 1)) ∧ ∀ xs ys, ckOk ks xs = true → ckOk ks ys = true → (Op.equalIn n t (wrK P t xs) (wrK P t ys)).run P w = .ok (eqCs xs ys) w
  | 0, n, t, ks, hd, h => by simp [flatK] at h
  | d + 1, 0, t, ks, hd, h => by omega
  | d + 1, n + 1, t, ks, hd, h => by
    simp only [flatK] at h
    cases hu : P.underlying t with
    | none => rw [hu] at h; simp at h
    | some dd =>
      rw [hu] at h
      cases dd <;> simp only at h <;> first | (simp at h; done) | skip
      case bool =>
        simp at h; subst h
        refine ⟨⟨_, rfl, by simp, fun _ => rfl⟩, fun xs ys h1 h2 => ?_⟩
        match xs, ys, h1, h2 with
        | [x], [y], h1, h2 =>
          simp only [ckOk, Bool.and_true] at h1 h2
          cases x <;> simp [ck1] at h1
          cases y <;> simp [ck1] at h2
          simp [wrK, hu, run_equalIn_bool' w n t _ _ hu, eqCs, eqC1]
        | [], _, h1, _ => simp [ckOk] at h1
        | _ :: _ :: _, _, h1, _ => simp [ckOk] at h1
        | [_], [], _, h2 => simp [ckOk] at h2
        | [_], _ :: _ :: _, _, h2 => simp [ckOk] at h2
      case int k =>
        simp at h; subst h
        refine ⟨⟨_, rfl, by simp, fun _ => rfl⟩, fun xs ys h1 h2 => ?_⟩
        match xs, ys, h1, h2 with
        | [x], [y], h1, h2 =>
          simp only [ckOk, Bool.and_true] at h1 h2
          cases x <;> simp [ck1] at h1
          cases y <;> simp [ck1] at h2
          subst h1; subst h2
          simp [wrK, hu, run_equalIn_int w n t _ _ _ _ hu, eqCs, eqC1]
        | [], _, h1, _ => simp [ckOk] at h1
        | _ :: _ :: _, _, h1, _ => simp [ckOk] at h1
        | [_], [], _, h2 => simp [ckOk] at h2
        | [_], _ :: _ :: _, _, h2 => simp [ckOk] at h2
      case struct fs =>
        cases hst : P.stoodInHeld t with
        | true => rw [hst] at h; simp at h
        | false =>
          rw [hst] at h
          simp only [Bool.false_eq_true, if_false] at h
          refine ⟨⟨_, rfl, by simp, fun q => by simp at q⟩, fun xs ys h1 h2 => ?_⟩
          have hf : P.fieldsOf t = fs := by unfold Program.fieldsOf; rw [hu]
          have := fields_flat (P := P) (w := w) n (g := flatK P d) (fun t' ks' hk => equalIn_flat d n t' ks' (by omega) hk) fs.toList 0 ks h xs.toArray ys.toArray xs ys (by simp) (by simp) h1 h2
          simp only [wrK, hu]
          rw [run_equalIn_struct w n t _ _ (by rw [hf]; exact hu) hst, hf]
          exact this
end
end Go.Proofs.Ytjobcfpnmfjlfaa

namespace Go.Proofs.Ytjobcfpnmfjlfaa
open Go.RowKit
set_option linter.unusedSimpArgs false
set_option linter.unusedVariables false

/-- The cells vs laid over a row from o on. -/
def putL (cs : Array Value) : Nat → List Value → Array Value
  | _, [] => cs
  | o, v :: r => putL (cs.setIfInBounds o v) (o + 1) r
theorem putL_size : ∀ (vs : List Value) (cs : Array Value) (o : Nat), (putL cs o vs).size = cs.size
  | [], _, _ => rfl
  | v :: r, cs, o => by rw [putL, putL_size r]; simp
section
variable {w w' a : World} {g : Nat} {t : TypeId} {cs : Array Value}
theorem Blk.there (h : Blk w g t cs) (o n : Nat) (hn : o + n ≤ cs.size) : w.there g o n := fun j hj => by
  refine ⟨?_, h.frozen _⟩
  rw [h.cell]
  simp
  omega
theorem Blk.setCells : ∀ (vs : List Value) {w : World} {cs : Array Value} (o : Nat), Blk w g t cs → Blk (w.setCells g o vs) g t (putL cs o vs)
  | [], _, _, _, h => h
  | v :: r, w, cs, o, h => by
    rw [World.setCells, putL]
    exact Blk.setCells r (o + 1) (h.set_ o v)
theorem setCells_far : ∀ (vs : List Value) {w : World} (o b : Nat), b ≠ g → (w.setCells g o vs).heap[b]? = w.heap[b]?
  | [], _, _, _, _ => rfl
  | v :: r, w, o, b, h => by
    rw [World.setCells, setCells_far r (o + 1) b h]
    exact Below.heap_setCell w ⟨g, o, none⟩ v b h
theorem setCells_size : ∀ (vs : List Value) {w : World} (o : Nat), (w.setCells g o vs).heap.size = w.heap.size
  | [], _, _ => rfl
  | v :: r, w, o => by rw [World.setCells, setCells_size r]; simp [World.setCell]
theorem grown_setCells : ∀ (vs : List Value) {w : World} (o : Nat), a.grownBy w (some g) → a.grownBy (w.setCells g o vs) (some g)
  | [], _, _, h => h
  | v :: r, w, o, h => by
    rw [World.setCells]
    exact grown_setCells r (o + 1) (grown_set h o v)
theorem Blk.range (h : Blk w g t cs) : w.rangeAt g 0 cs.toList := fun j v hv => by
  rw [Nat.zero_add, h.cell]
  simpa using hv
end
end Go.Proofs.Ytjobcfpnmfjlfaa

namespace Go.Proofs.Ytjobcfpnmfjlfaa
open Go.RowKit
set_option linter.unusedSimpArgs false
set_option linter.unusedVariables false

/-! What is known of a type. -/
structure TI where
  size : Nat
  agg : Bool
  zero : List Value
  offs : List Nat := []
  fszs : List Nat := []
  fagg : List Nat := []
  esz : Nat := 0
  sl : Bool := false
  isB : Bool := false
  elt : Nat := 0
  eb : Nat := 0
  eqk : List CK := []
abbrev TT := List (Nat × TI)
def szOf (P : Program) (t : TypeId) : Nat := match P.info? t with | some i => i.size | none => 0
def rowOf (P : Program) (t : TypeId) : Nat := match P.underlying t with | some d => (match d.isRow with | true => 2 | false => 1) | none => 0
def dInfo (P : Program) : TypeDesc → List Nat × List Nat × List Nat × Nat × Bool × Bool
  | .struct fs => (fs.toList.map (·.offset), fs.toList.map (fun f => szOf P f.type), fs.toList.map (fun f => rowOf P f.type), 0, false, false)
  | .slice e => ([], [], [], szOf P e, true, false)
  | .bool => ([], [], [], 0, false, true)
  | _ => ([], [], [], 0, false, false)
/-- The element of a slice type, and the number of its bytes. -/
def elemB (P : Program) (t : TypeId) (ti : TI) : Bool := match ti.eb with
  | 0 => true
  | _ + 1 => (match P.underlying t with | some (.slice e) => Nat.beq e ti.elt | _ => false) && (match P.info? ti.elt with | some i => Nat.beq i.bytes ti.eb | none => false)
/-- Values of the type are compared cell by cell. -/
def eqB (P : Program) (t : TypeId) (ti : TI) : Bool := match ti.eqk with
  | [] => true
  | _ :: _ => ti.agg && decide (flatK P 8 t = some ti.eqk) && !(P.eqGuardType P.depth t)
structure TIok (P : Program) (t : TypeId) (ti : TI) : Prop where
  info : (P.info? t).map (fun i => (i.size, i.zero.map fun z => z.cells.toList)) = some (ti.size, some ti.zero)
  und : (P.underlying t).map (fun d => (d.isRow, dInfo P d)) = some (ti.agg, ti.offs, ti.fszs, ti.fagg, ti.esz, ti.sl, ti.isB)
  zero : ∀ v ∈ ti.zero, plain1 v
  elem : elemB P t ti = true
  eqs : eqB P t ti = true
def TTok (P : Program) (τ : TT) : Prop := ∀ t ti, lk τ t = some ti → TIok P t ti

section
variable {P : Program} {t : TypeId} {ti : TI}
theorem TIok.size (h : TIok P t ti) : ∃ i, P.info? t = some i ∧ i.size = ti.size ∧ ∃ z, i.zero = some z ∧ z.cells.toList = ti.zero := by
  have := h.info
  cases hi : P.info? t with
  | none => rw [hi] at this; simp at this
  | some i =>
    rw [hi] at this
    simp only [Option.map_some, Option.some.injEq, Prod.mk.injEq] at this
    refine ⟨i, rfl, this.1, ?_⟩
    cases hz : i.zero with
    | none => rw [hz] at this; simp at this
    | some z => rw [hz] at this; simp at this; exact ⟨z, rfl, this.2⟩
theorem TIok.desc (h : TIok P t ti) : ∃ d, P.underlying t = some d ∧ d.isRow = ti.agg ∧ dInfo P d = (ti.offs, ti.fszs, ti.fagg, ti.esz, ti.sl, ti.isB) := by
  have := h.und
  cases hi : P.underlying t with
  | none => rw [hi] at this; simp at this
  | some d =>
    rw [hi] at this
    simp only [Option.map_some, Option.some.injEq, Prod.mk.injEq] at this
    exact ⟨d, rfl, this.1, by rw [← this.2]⟩
theorem TIok.slice (h : TIok P t ti) (hs : ti.sl = true) : ∃ e, P.underlying t = some (.slice e) ∧ szOf P e = ti.esz := by
  obtain ⟨d, h1, h2, h3⟩ := h.desc
  cases d <;> simp [dInfo, hs] at h3
  rename_i e
  exact ⟨e, h1, h3.2.2.2.1⟩
theorem TIok.bool (h : TIok P t ti) (hs : ti.isB = true) : P.underlying t = some .bool := by
  obtain ⟨d, h1, h2, h3⟩ := h.desc
  cases d <;> simp [dInfo, hs] at h3
  exact h1
theorem TIok.field (h : TIok P t ti) {f d s : Nat} (ho : ti.offs[f]? = some d) (hz : ti.fszs[f]? = some s) : ∃ (fs : Array Field) (x : Field), P.underlying t = some (.struct fs) ∧ fs[f]? = some x ∧ x.offset = d ∧ szOf P x.type = s ∧ ∀ b, ti.fagg[f]? = some b → rowOf P x.type = b := by
  obtain ⟨dd, h1, h2, h3⟩ := h.desc
  cases dd <;> simp only [dInfo, Prod.mk.injEq] at h3
  case struct fs =>
    obtain ⟨e1, e2, e3, -⟩ := h3
    rw [← e1] at ho
    rw [← e2] at hz
    rw [List.getElem?_map] at ho hz
    cases hx : fs.toList[f]? with
    | none => rw [hx] at ho; simp at ho
    | some x =>
      rw [hx] at ho hz
      simp at ho hz
      refine ⟨fs, x, h1, by simpa using hx, ho, hz, fun b hb => ?_⟩
      rw [← e3, List.getElem?_map, hx] at hb
      simpa using hb
  all_goals (obtain ⟨e1, -⟩ := h3; rw [← e1] at ho; simp at ho)
end

def takeN : Nat → Nat → List Value → Option (List Value)
  | 0, 0, _ => some []
  | 0, n + 1, v :: l => match takeN 0 n l with | some r => some (v :: r) | none => none
  | 0, _ + 1, [] => none
  | o + 1, n, _ :: l => takeN o n l
  | _ + 1, _, [] => none
def putN : Nat → List Value → List Value → Option (List Value)
  | 0, [], l => some l
  | 0, v :: vs, _ :: l => match putN 0 vs l with | some r => some (v :: r) | none => none
  | 0, _ :: _, [] => none
  | o + 1, vs, x :: l => match putN o vs l with | some r => some (x :: r) | none => none
  | _ + 1, _, [] => none
theorem takeN_get : ∀ (o n : Nat) (cs l : List Value), takeN o n cs = some l → l.length = n ∧ ∀ j v, l[j]? = some v → cs[o + j]? = some v
  | 0, 0, cs, l, h => by simp [takeN] at h; subst h; simp
  | 0, n + 1, [], l, h => by simp [takeN] at h
  | 0, n + 1, v :: cs, l, h => by
    simp only [takeN] at h
    cases hr : takeN 0 n cs with
    | none => rw [hr] at h; simp at h
    | some r =>
      rw [hr] at h
      simp at h
      subst h
      obtain ⟨h1, h2⟩ := takeN_get 0 n cs r hr
      refine ⟨by simp [h1], fun j u hu => ?_⟩
      cases j with
      | zero => simpa using hu
      | succ j => simp at hu; have := h2 j u hu; simpa using this
  | o + 1, n, [], l, h => by simp [takeN] at h
  | o + 1, n, v :: cs, l, h => by
    simp only [takeN] at h
    obtain ⟨h1, h2⟩ := takeN_get o n cs l h
    refine ⟨h1, fun j u hu => ?_⟩
    have := h2 j u hu
    rw [show o + 1 + j = (o + j) + 1 by omega]
    simpa using this
theorem putN_get : ∀ (o : Nat) (vs cs l : List Value), putN o vs cs = some l → l.length = cs.length ∧ o + vs.length ≤ cs.length ∧ ∀ j, l[j]? = if o ≤ j ∧ j < o + vs.length then vs[j - o]? else cs[j]?
  | 0, [], cs, l, h => by simp [putN] at h; subst h; simp
  | 0, v :: vs, [], l, h => by simp [putN] at h
  | 0, v :: vs, c :: cs, l, h => by
    simp only [putN] at h
    cases hr : putN 0 vs cs with
    | none => rw [hr] at h; simp at h
    | some r =>
      rw [hr] at h
      simp at h
      subst h
      obtain ⟨h1, h2, h3⟩ := putN_get 0 vs cs r hr
      refine ⟨by simp [h1], by simp; omega, fun j => ?_⟩
      cases j with
      | zero => simp
      | succ j => have := h3 j; simp at this ⊢; exact this
  | o + 1, vs, [], l, h => by simp [putN] at h
  | o + 1, vs, c :: cs, l, h => by
    simp only [putN] at h
    cases hr : putN o vs cs with
    | none => rw [hr] at h; simp at h
    | some r =>
      rw [hr] at h
      simp at h
      subst h
      obtain ⟨h1, h2, h3⟩ := putN_get o vs cs r hr
      refine ⟨by simp [h1], by simp; omega, fun j => ?_⟩
      cases j with
      | zero => simp
      | succ j =>
        have := h3 j
        simp only [List.getElem?_cons_succ]
        rw [this]
        by_cases hc : o ≤ j ∧ j < o + vs.length
        · rw [if_pos hc, if_pos (by omega)]
          congr 1
          omega
        · rw [if_neg hc, if_neg (by omega)]
theorem putL_at : ∀ (vs : List Value) (cs : Array Value) (o j : Nat), (putL cs o vs)[j]? = if o ≤ j ∧ j < o + vs.length ∧ j < cs.size then vs[j - o]? else cs[j]?
  | [], cs, o, j => by simp only [putL, List.length_nil]; rw [if_neg (by omega)]
  | v :: r, cs, o, j => by
    rw [putL, putL_at r, Array.size_setIfInBounds]
    by_cases h1 : j = o
    · subst h1
      rw [if_neg (by omega), Array.getElem?_setIfInBounds]
      by_cases h2 : j < cs.size
      · simp [h2]
      · simp [h2, Array.getElem?_eq_none (Nat.le_of_not_lt h2)]
    · by_cases h2 : o + 1 ≤ j ∧ j < o + 1 + r.length ∧ j < cs.size
      · rw [if_pos h2, if_pos (by simp only [List.length_cons]; omega)]
        have : j - o = (j - (o + 1)) + 1 := by omega
        rw [this, List.getElem?_cons_succ]
      · rw [if_neg h2, if_neg (by simp only [List.length_cons]; omega), Array.getElem?_setIfInBounds, if_neg (by omega)]
theorem putN_map {f : Value → Value} {o : Nat} {vs cs l : List Value} (h : putN o vs cs = some l) : putL (cs.map f).toArray o (vs.map f) = (l.map f).toArray := by
  obtain ⟨h1, h2, h3⟩ := putN_get o vs cs l h
  apply Array.ext_getElem?
  intro j
  rw [putL_at]
  simp only [List.length_map, List.size_toArray, List.getElem?_toArray, List.getElem?_map]
  rw [h3 j]
  by_cases hc : o ≤ j ∧ j < o + vs.length
  · rw [if_pos hc, if_pos (by omega)]
  · rw [if_neg hc, if_neg (by omega)]

def cellsOf : Value → List Value
  | .agg cs => cs.toList
  | v => [v]
def ofCells (agg : Bool) (l : List Value) : Option Value := match agg with | true => some (.agg l.toArray) | false => match l with | [v] => some v | _ => none
def evc : Value → Option Value
  | .int k z => some (.int k z)
  | .bool b => some (.bool b)
  | .pointer none => some (.pointer none)
  | .slice none n c => some (.slice none n c)
  | .string s => some (.string s)
  | _ => none
def ev (fr : AF) : Operand → Option Value
  | .tmp t => lk fr t
  | .const v => evc v
  | _ => none
def evs (fr : AF) : List Operand → Option (List Value)
  | [] => some []
  | x :: l => match ev fr x with | some v => (match evs fr l with | some r => some (v :: r) | none => none) | none => none

section
variable {ρ : Nat → Pl} {fr : AF} {nx : Nat} {a : Act}
theorem evc_ok {v u : Value} (h : evc v = some u) : v = den ρ u ∧ okV ρ nx u := by
  cases v <;> simp [evc] at h
  case int => subst h; exact ⟨rfl, trivial⟩
  case bool => subst h; exact ⟨rfl, trivial⟩
  case string => subst h; exact ⟨rfl, trivial⟩
  case pointer p => cases p <;> simp [evc] at h; subst h; exact ⟨rfl, trivial⟩
  case slice p n c => cases p <;> simp [evc] at h; subst h; exact ⟨rfl, trivial⟩
theorem ev_ok (h : FrOk ρ fr nx a) {x : Operand} {v : Value} (hx : ev fr x = some v) : a.eval x = den ρ v ∧ okV ρ nx v := by
  cases x <;> simp [ev] at hx
  case tmp t =>
    have := h.frm t v hx
    exact ⟨by unfold Act.eval; simp [Array.getD_eq_getD_getElem?, this], h.frk t v hx⟩
  case const u => exact evc_ok hx
theorem evs_ok (h : FrOk ρ fr nx a) : ∀ {xs : List Operand} {vs : List Value}, evs fr xs = some vs → xs.map a.eval = vs.map (den ρ) ∧ ∀ v ∈ vs, okV ρ nx v
  | [], vs, hx => by simp [evs] at hx; subst hx; simp
  | x :: xs, vs, hx => by
    simp only [evs] at hx
    cases h1 : ev fr x with
    | none => rw [h1] at hx; simp at hx
    | some v =>
      cases h2 : evs fr xs with
      | none => rw [h1, h2] at hx; simp at hx
      | some r =>
        rw [h1, h2] at hx
        simp at hx
        subst hx
        obtain ⟨e1, e2⟩ := ev_ok h h1
        obtain ⟨e3, e4⟩ := evs_ok h h2
        exact ⟨by simp [e1, e3], fun u hu => (List.mem_cons.1 hu).elim (fun q => q ▸ e2) (e4 u)⟩
end
end Go.Proofs.Ytjobcfpnmfjlfaa

namespace Go.Proofs.Ytjobcfpnmfjlfaa
open Go.RowKit
set_option linter.unusedSimpArgs false
set_option linter.unusedVariables false

/-! Operations that give a value and leave the world alone. -/
def atom : Value → Bool
  | .agg _ => false
  | .tuple _ => false
  | _ => true
def ofC (agg : Bool) (l : List Value) : Option Value := match agg with
  | true => some (.agg l.toArray)
  | false => match l with
    | [v] => (match atom v with | true => some v | false => none)
    | _ => none
def ldx (τ : TT) (mem : AM) (t : TypeId) (p : Value) : Option Value :=
  match p with
  | .pointer (some ⟨ab, ao, as_⟩) => match lk τ t with
    | some ti => match lk mem ab with
      | some (.box _ cs) => (match as_ with
        | none => (match takeN ao ti.size cs with | some l => ofC ti.agg l | none => none)
        | some _ => none)
      | some (.row _ _ _ el) => (match as_ with
        | some k => (match takeN ao ti.size (el k) with | some l => ofC ti.agg l | none => none)
        | none => none)
      | none => none
    | none => none
  | _ => none
def fax (τ : TT) (t : TypeId) (p : Value) (f : Nat) : Option Value :=
  match p with
  | .pointer (some ⟨ab, ao, as_⟩) => match lk τ t with
    | some ti => (match ti.offs[f]?, ti.fszs[f]? with
      | some d, some (_ + 1) => some (.pointer (some ⟨ab, ao + d, as_⟩))
      | _, _ => none)
    | none => none
  | _ => none
def fdx (τ : TT) (t : TypeId) (p : Value) (f : Nat) : Option Value :=
  match p with
  | .agg cs => match lk τ t with
    | some ti => (match ti.offs[f]?, ti.fszs[f]?, ti.fagg[f]? with
      | some d, some (s + 1), some b =>
        (match takeN d (s + 1) cs.toList with
        | some l =>
          (match b with
          | 2 => some (.agg l.toArray)
          | 1 => (match l with
            | v :: _ => (match atom v with | true => some v | false => none)
            | _ => none)
          | _ => none)
        | none => none)
      | _, _, _ => none)
    | none => none
  | _ => none
def binx (o : BinOp) (isB : Bool) (x y : Value) : Option Value :=
  match x, y with
  | .int k a, .int k' b => (match decide (k = k') with
    | true => (match o with
      | .add => some (.int k (k.wrap (a + b)))
      | .sub => some (.int k (k.wrap (a - b)))
      | .mul => some (.int k (k.wrap (a * b)))
      | .and => some (.int k (k.wrap (BitVec.ofInt k.bits a &&& BitVec.ofInt k.bits b).toNat))
      | .or => some (.int k (k.wrap (BitVec.ofInt k.bits a ||| BitVec.ofInt k.bits b).toNat))
      | .xor => some (.int k (k.wrap (BitVec.ofInt k.bits a ^^^ BitVec.ofInt k.bits b).toNat))
      | .eql => some (.bool (a == b))
      | .neq => some (.bool (a != b))
      | .lss => some (.bool (decide (a < b)))
      | .leq => some (.bool (decide (a ≤ b)))
      | .gtr => some (.bool (decide (a > b)))
      | .geq => some (.bool (decide (a ≥ b)))
      | _ => none)
    | false => none)
  | .bool a, .bool b => (match isB with
    | true => (match o with
      | .eql => some (.bool (a == b))
      | .neq => some (.bool (!(a == b)))
      | _ => none)
    | false => none)
  | _, _ => none
def maxx : List Value → Option Value
  | [.int k a, .int _ b] => some (.int k (if b > a then b else a))
  | _ => none
def minx : List Value → Option Value
  | [.int k a, .int _ b] => some (.int k (if b < a then b else a))
  | _ => none
def lenx (ti : TI) : List Value → Option Value
  | [.slice _ n _] => (match ti.sl with | true => some (.int .i64 n) | false => none)
  | _ => none
def isBx (τ : TT) (t : TypeId) : Bool := match lk τ t with | some ti => ti.isB | none => false
def bldx (ti : TI) (fr : AF) : List (Nat × Operand) → List Value → Option (List Value)
  | [], cs => some cs
  | (i, x) :: r, cs => (match ev fr x with
    | some v => (match ti.offs[i]?, ti.fszs[i]? with
      | some d, some s => (match decide ((cellsOf v).length = s), (cellsOf v).all atom with
        | true, true => (match putN d (cellsOf v) cs with | some l => bldx ti fr r l | none => none)
        | _, _ => none)
      | _, _ => none)
    | none => none)
def eqx (τ : TT) (o : BinOp) (t : TypeId) (p q : Value) : Option Value :=
  match p, q with
  | .agg xs, .agg ys => (match lk τ t with
    | some ti => (match ti.eqk, ckOk ti.eqk xs.toList, ckOk ti.eqk ys.toList with
      | _ :: _, true, true => (match o with
        | .eql => some (.bool (eqCs xs.toList ys.toList))
        | .neq => some (.bool (!eqCs xs.toList ys.toList))
        | _ => none)
      | _, _, _ => none)
    | none => none)
  | _, _ => none
def binyx (τ : TT) (o : BinOp) (t : TypeId) (p q : Value) : Option Value := match binx o (isBx τ t) p q with | some v => some v | none => eqx τ o t p q
def vx (τ : TT) (fr : AF) (mem : AM) (o : Op) : Option Value :=
  match o with
  | .move x => ev fr x
  | .assign x => ev fr x
  | .pick c x y => (match ev fr c with
    | some (.bool b) => (match b with | true => ev fr x | false => ev fr y)
    | _ => none)
  | .load t x => (match ev fr x with | some p => ldx τ mem t p | none => none)
  | .fieldAddr t x f => (match ev fr x with | some p => fax τ t p f | none => none)
  | .field t x f => (match ev fr x with | some p => fdx τ t p f | none => none)
  | .unOp .not _ x => (match ev fr x with | some (.bool b) => some (.bool (!b)) | _ => none)
  | .binOp o t x y _ => (match ev fr x with | some p => (match ev fr y with | some q => binyx τ o t p q | none => none) | none => none)
  | .build t parts => (match lk τ t with
    | some ti => (match ti.offs, ti.fszs.all (fun n => Nat.blt 0 n) with
      | _ :: _, true => (match bldx ti fr parts.toList ti.zero with | some l => some (.agg l.toArray) | none => none)
      | _, _ => none)
    | none => none)
  | .nilCheck x => (match ev fr x with | some (.pointer (some ad)) => some (.pointer (some ad)) | _ => none)
  | .extract x i => (match ev fr x with | some (.tuple vs) => (match vs[i]? with | some v => (match v with | .tuple _ => none | v => some v) | none => none) | _ => none)
  | .call { callee := .builtin .len, args, argTypes } => (match evs fr args.toList with | some vs => (match argTypes.toList with | [t] => (match lk τ t with | some ti => lenx ti vs | none => none) | _ => none) | none => none)
  | .call { callee := .builtin .max, args, .. } => (match evs fr args.toList with | some vs => maxx vs | none => none)
  | .call { callee := .builtin .min, args, .. } => (match evs fr args.toList with | some vs => minx vs | none => none)
  | _ => none

section
variable {P : Program} {τ : TT} {C : Ctx} {ρ : Nat → Pl} {fr : AF} {mem : AM} {nx : Nat} {a : Act} {w : World}
theorem atom_den {v : Value} (h : atom v = true) : den ρ v = den1 ρ v := by cases v <;> first | rfl | simp [atom] at h
theorem atom_ok {v : Value} (h : atom v = true) : okV ρ nx v = ok1 ρ nx v := by cases v <;> first | rfl | simp [atom] at h
theorem load_range {t : TypeId} {ti : TI} (ht : TIok P t ti) {b o : Nat} {l : List Value} (hr : w.rangeAt b o (l.map (den1 ρ))) (hl : l.length = ti.size) {v : Value} (hv : ofC ti.agg l = some v) :
    (Instr.loadAt t (.pointer (some ⟨b, o, none⟩))).run P w = .ok (den ρ v) w ∧ ((∀ u ∈ l, ok1 ρ nx u) → okV ρ nx v) := by
  obtain ⟨i, hi, hs, -⟩ := ht.size
  obtain ⟨d, hd, hrow, -⟩ := ht.desc
  cases hagg : ti.agg with
  | true =>
    rw [hagg] at hv hrow
    simp only [ofC, Option.some.injEq] at hv
    subst hv
    refine ⟨?_, fun h => ?_⟩
    · rw [run_loadAt_mid w b o t (l.map (den1 ρ)) d hr hd hrow (by rw [hi]; simp [hs, hl])]
      simp [den, den2]
    · intro u hu
      exact h u (by simpa using hu)
  | false =>
    rw [hagg] at hv hrow
    match l, hv with
    | [u], hv =>
      simp only [ofC] at hv
      cases hat : atom u with
      | false => rw [hat] at hv; simp at hv
      | true =>
        rw [hat] at hv
        simp at hv
        subst hv
        have hc : w.cell? ⟨b, o, none⟩ = some (den1 ρ u) := by have := hr 0 (den1 ρ u) (by simp); simpa using this
        refine ⟨?_, fun h => by rw [atom_ok hat]; exact h u (by simp)⟩
        rw [atom_den hat]
        have hag : (isAgg t).run P w = .ok false w := by
          unfold isAgg
          rw [Sem.run_bind, run_underlying hd w]
          cases d <;> simp_all
        simp [Instr.loadAt, Instr.sureAddr, loadVar, Sem.run_bind, hag, load, Sem.run, hc]
    | [], hv => simp [ofC] at hv
    | _ :: _ :: _, hv => simp [ofC] at hv
theorem ldx_run (hτ : TTok P τ) (hm : ∀ i b, lk mem i = some b → BlkOk C ρ nx i w b) {t : TypeId} {p v : Value} (hp : okV ρ nx p) (h : ldx τ mem t p = some v) :
    (Instr.loadAt t (den ρ p)).run P w = .ok (den ρ v) w ∧ okV ρ nx v := by
  cases p with
  | pointer q =>
    cases q with
    | none => simp [ldx] at h
    | some ad =>
      simp only [ldx] at h
      cases hti : lk τ t with
      | none => rw [hti] at h; simp at h
      | some ti =>
        rw [hti] at h
        simp only at h
        have ht := hτ t ti hti
        cases hb : lk mem ad.block with
        | none => rw [hb] at h; simp at h
        | some bl =>
          rw [hb] at h
          have hok := hm _ _ hb
          cases bl with
          | box bt cs =>
            simp only at h
            cases hsp : ad.spot with
            | some k => rw [hsp] at h; simp at h
            | none =>
              rw [hsp] at h
              simp only at h
              cases htk : takeN ad.off ti.size cs with
              | none => rw [htk] at h; simp at h
              | some l =>
                rw [htk] at h
                simp only at h
                obtain ⟨g, hA, hblk, -, hcs⟩ := hok
                obtain ⟨hl, hget⟩ := takeN_get _ _ _ _ htk
                have hr : w.rangeAt g ad.off (l.map (den1 ρ)) := by
                  intro j u hu
                  rw [List.getElem?_map] at hu
                  cases hlj : l[j]? with
                  | none => rw [hlj] at hu; simp at hu
                  | some x =>
                    rw [hlj] at hu
                    simp at hu
                    rw [hblk.cell]
                    simp [hget j x hlj, hu]
                have e : den ρ (.pointer (some ad)) = .pointer (some ⟨g, ad.off, none⟩) := by simp [den, den2, den1, dA_some hA, hsp]
                rw [e]
                obtain ⟨h1, h2⟩ := load_range (nx := nx) ht hr hl h
                refine ⟨h1, h2 fun u hu => ?_⟩
                obtain ⟨j, hj⟩ := List.getElem?_of_mem hu
                exact hcs u (List.mem_of_getElem? (hget j u hj))
          | row bt sz n el =>
            simp only at h
            cases hsp : ad.spot with
            | none => rw [hsp] at h; simp at h
            | some k =>
              rw [hsp] at h
              simp only at h
              cases htk : takeN ad.off ti.size (el k) with
              | none => rw [htk] at h; simp at h
              | some l =>
                rw [htk] at h
                simp only at h
                obtain ⟨⟨hsz, hn⟩, hpl, hok⟩ := hok
                have hkn : k < n := by have := hp.2.2 k hsp; omega
                obtain ⟨hl, hget⟩ := takeN_get _ _ _ _ htk
                rcases hok with h0 | ⟨b, off, hA, -, hc⟩
                · omega
                · have hpu : ∀ u ∈ l, plain1 u := fun u hu => by
                    obtain ⟨j, hj⟩ := List.getElem?_of_mem hu
                    exact (hpl k hkn).2 u (List.mem_of_getElem? (hget j u hj))
                  have hr : w.rangeAt b (off + k * sz + ad.off) (l.map (den1 ρ)) := by
                    intro j u hu
                    rw [List.getElem?_map] at hu
                    cases hlj : l[j]? with
                    | none => rw [hlj] at hu; simp at hu
                    | some x =>
                      rw [hlj] at hu
                      simp at hu
                      rw [den1_plain (hpu x (List.mem_of_getElem? hlj))] at hu
                      subst hu
                      have := hc k hkn (ad.off + j) x (hget j x hlj)
                      rw [← this, Nat.add_assoc]
                  have e : den ρ (.pointer (some ad)) = .pointer (some ⟨b, off + k * sz + ad.off, none⟩) := by simp [den, den2, den1, dA_some hA, hsp, hsz]
                  rw [e]
                  obtain ⟨h1, h2⟩ := load_range (nx := nx) ht hr hl h
                  exact ⟨h1, h2 fun u hu => ok1_plain (hpu u hu)⟩
  | _ => simp [ldx] at h
end
end Go.Proofs.Ytjobcfpnmfjlfaa

namespace Go.Proofs.Ytjobcfpnmfjlfaa
open Go.RowKit
set_option linter.unusedSimpArgs false
set_option linter.unusedVariables false

section
variable {P : Program} {τ : TT} {C : Ctx} {ρ : Nat → Pl} {fr : AF} {mem : AM} {nx : Nat} {a : Act} {w : World}
theorem Addr.add_off (c : Addr) (d : Nat) (hs : c.spot = none) : c.add d = ⟨c.block, c.off + d, none⟩ := by
  obtain ⟨b, o, s⟩ := c
  simp only at hs
  subst hs
  exact Addr.add_mid b o d
theorem fax_run (hτ : TTok P τ) {t : TypeId} {p v : Value} {f : Nat} (hp : okV ρ nx p) (h : fax τ t p f = some v) :
    (Instr.fieldAt t (den ρ p) f).run P w = .ok (den ρ v) w ∧ okV ρ nx v := by
  cases p with
  | pointer q =>
    cases q with
    | none => simp [fax] at h
    | some ad =>
      simp only [fax] at h
      cases hti : lk τ t with
      | none => rw [hti] at h; simp at h
      | some ti =>
        rw [hti] at h
        simp only at h
        have ht := hτ t ti hti
        split at h
        · rename_i d s ho hz
          simp at h
          subst h
          obtain ⟨fs, x, hu, hx, hoff, hsz, -⟩ := ht.field ho hz
          obtain ⟨cb, co, hA⟩ := (show ∃ b o, (ρ ad.block).A = some ⟨b, o, none⟩ from hp.2.1)
          · have e1 : den ρ (.pointer (some ad)) = .pointer (some ⟨cb, co + ad.spot.getD 0 * (ρ ad.block).sz + ad.off, none⟩) := by simp [den, den2, den1, dA_some hA]
            have e2 : den ρ (.pointer (some ⟨ad.block, ad.off + d, ad.spot⟩)) = .pointer (some ⟨cb, co + ad.spot.getD 0 * (ρ ad.block).sz + ad.off + d, none⟩) := by simp [den, den2, den1, dA_some (a := ⟨ad.block, ad.off + d, ad.spot⟩) hA, Nat.add_assoc]
            rw [e1, e2]
            refine ⟨?_, hp⟩
            cases hi : P.info? x.type with
            | none => simp [szOf, hi] at hsz
            | some i =>
              have hsz' : i.size = s + 1 := by simpa [szOf, hi] using hsz
              simp [Instr.fieldAt, Instr.sureAddr, run_underlying hu, hx, fieldPlace, sizeOf, typeInfo, hi, hsz', hoff, Addr.add_mid]
        · simp at h
  | _ => simp [fax] at h
theorem fdx_run (hτ : TTok P τ) {t : TypeId} {p v : Value} {f : Nat} (hp : okV ρ nx p) (h : fdx τ t p f = some v) :
    (Instr.field t (den ρ p) f).run P w = .ok (den ρ v) w ∧ okV ρ nx v := by
  cases p with
  | agg cs =>
    simp only [fdx] at h
    cases hti : lk τ t with
    | none => rw [hti] at h; simp at h
    | some ti =>
      rw [hti] at h
      simp only at h
      have ht := hτ t ti hti
      split at h
      · rename_i d s b ho hz hb
        obtain ⟨fs, x, hu, hx, hoff, hsz, hrow⟩ := ht.field ho hz
        have hrow := hrow b hb
        cases htk : takeN d (s + 1) cs.toList with
        | none => rw [htk] at h; simp at h
        | some l =>
          rw [htk] at h
          simp only at h
          obtain ⟨hl, hget⟩ := takeN_get _ _ _ _ htk
          have hmem : ∀ u ∈ l, ok1 ρ nx u := fun u hu => by
            obtain ⟨j, hj⟩ := List.getElem?_of_mem hu
            have := hget j u hj
            exact hp u (by simpa using List.mem_of_getElem? this)
          cases hi : P.info? x.type with
          | none => simp [szOf, hi] at hsz
          | some i =>
            have hsz' : i.size = s + 1 := by simpa [szOf, hi] using hsz
            cases hun : P.underlying x.type with
            | none =>
              have : b = 0 := by rw [← hrow]; simp [rowOf, hun]
              subst this
              simp at h
            | some dd =>
              cases hr : dd.isRow with
              | false =>
                have : b = 1 := by rw [← hrow]; simp [rowOf, hun, hr]
                subst this
                cases l with
                | nil => simp at h
                | cons u l =>
                  simp only at h
                  cases hat : atom u with
                  | false => rw [hat] at h; simp at h
                  | true =>
                    rw [hat] at h
                    simp at h
                    subst h
                    have hag : (isAgg x.type).run P w = .ok false w := by
                      unfold isAgg
                      rw [Sem.run_bind, run_underlying hun w]
                      cases dd <;> simp_all
                    have h0 := hget 0 u (by simp)
                    simp at h0
                    refine ⟨?_, by rw [atom_ok hat]; exact hmem u (by simp)⟩
                    rw [atom_den hat]
                    simp [Instr.field, run_underlying hu, hx, part, asAgg, den, den2, hag, hoff, h0]
              | true =>
                have : b = 2 := by rw [← hrow]; simp [rowOf, hun, hr]
                subst this
                simp at h
                subst h
                have hag : (isAgg x.type).run P w = .ok true w := by
                  unfold isAgg
                  rw [Sem.run_bind, run_underlying hun w]
                  cases dd <;> simp_all
                refine ⟨?_, fun u hu => hmem u (by simpa using hu)⟩
                have he : (cs.map (den1 ρ)).extract d (d + (s + 1)) = (l.map (den1 ρ)).toArray := by
                  apply Array.ext_getElem?
                  intro j
                  by_cases hj : j < s + 1
                  · obtain ⟨u, hlj⟩ : ∃ u, l[j]? = some u := ⟨l[j], List.getElem?_eq_getElem (by omega)⟩
                    have hcj := hget j u hlj
                    simp at hcj
                    have hlt : d + j < cs.size := by
                      rcases Nat.lt_or_ge (d + j) cs.size with h' | h'
                      · exact h'
                      · rw [Array.getElem?_eq_none h'] at hcj; cases hcj
                    rw [Array.getElem?_extract, if_pos (by simp; omega)]
                    simp [hcj, hlj]
                  · rw [Array.getElem?_extract, if_neg (by omega)]
                    simp [List.getElem?_eq_none (show l.length ≤ j by omega)]
                simp [Instr.field, run_underlying hu, hx, part, asAgg, den, den2, hag, hoff, sizeOf, typeInfo, hi, hsz', he]
      · simp at h
  | _ => simp [fdx] at h
theorem equal_bool {t : TypeId} (hu : P.underlying t = some .bool) (b c : Bool) : (Op.equal t (.bool b) (.bool c)).run P w = .ok (b == c) w := by
  rw [Op.equal, show Op.maxDepth = 9999 + 1 from rfl, Op.equalIn]
  simp [run_underlying hu]
theorem binx_run (hτ : TTok P τ) {t : TypeId} {x y : Operand} {p q v : Value} {o : BinOp} (hsh : o ≠ .shl ∧ o ≠ .shr) (h : binx o (isBx τ t) p q = some v) :
    (do eqGuard o t x y (den ρ p) (den ρ q); binOp o t (den ρ p) (den ρ q) : Sem Value).run P w = .ok (den ρ v) w ∧ okV ρ nx v := by
  cases p <;> cases q <;> simp only [binx] at h <;> try (simp at h; done)
  case int.int k b k' c =>
    by_cases hk : k = k'
    · subst hk
      simp only [decide_true] at h
      cases o <;> simp at h <;> try (subst h; refine ⟨?_, trivial⟩; simp [eqGuard, den, den2, den1, binOp, Op.intArith, Op.intBits, Op.intCmp]; done)
    · simp [hk] at h
  case bool.bool b c =>
    cases hb : isBx τ t with
    | false => rw [hb] at h; simp at h
    | true =>
      rw [hb] at h
      unfold isBx at hb
      cases hti : lk τ t with
      | none => rw [hti] at hb; simp at hb
      | some ti =>
        rw [hti] at hb
        have hu := (hτ t ti hti).bool hb
        cases o <;> simp at h
        case eql => subst h; refine ⟨?_, trivial⟩; simp [eqGuard, den, den2, den1, binOp, equal_bool hu]
        case neq => subst h; refine ⟨?_, trivial⟩; simp [eqGuard, den, den2, den1, binOp, equal_bool hu]
end
end Go.Proofs.Ytjobcfpnmfjlfaa

namespace Go.Proofs.Ytjobcfpnmfjlfaa
open Go.RowKit
set_option linter.unusedSimpArgs false
set_option linter.unusedVariables false

section
variable {P : Program} {τ : TT} {C : Ctx} {ρ : Nat → Pl} {fr : AF} {mem : AM} {nx : Nat} {a : Act} {w : World}
theorem binx_shift {o : BinOp} {b : Bool} {p q v : Value} (h : binx o b p q = some v) : o ≠ .shl ∧ o ≠ .shr := by
  constructor <;> rintro rfl <;> cases p <;> cases q <;> simp only [binx] at h <;> (try (split at h)) <;> simp at h
theorem ck_plain : ∀ {ks : List CK} {l : List Value}, ckOk ks l = true → l.map (den1 ρ) = l
  | [], [], _ => rfl
  | [], _ :: _, h => by simp [ckOk] at h
  | _ :: _, [], h => by simp [ckOk] at h
  | k :: r, v :: l, h => by
    simp only [ckOk, Bool.and_eq_true] at h
    rw [List.map_cons, ck_plain h.2]
    congr 1
    cases v <;> cases k <;> simp [ck1] at h <;> rfl
theorem eqx_run (hτ : TTok P τ) {t : TypeId} {x y : Operand} {p q v : Value} {o : BinOp} (h : eqx τ o t p q = some v) :
    (do eqGuard o t x y (den ρ p) (den ρ q); binOp o t (den ρ p) (den ρ q) : Sem Value).run P w = .ok (den ρ v) w ∧ okV ρ nx v := by
  cases p <;> first | (simp [eqx] at h; done) | skip
  rename_i xs
  cases q <;> first | (simp [eqx] at h; done) | skip
  rename_i ys
  simp only [eqx] at h
  cases hti : lk τ t with
  | none => rw [hti] at h; simp at h
  | some ti =>
    rw [hti] at h
    simp only at h
    split at h
    · rename_i k r hk h1 h2
      have he := (hτ t ti hti).eqs
      unfold eqB at he
      rw [hk] at he
      simp only [Bool.and_eq_true, decide_eq_true_eq, Bool.not_eq_true'] at he
      obtain ⟨⟨hagg, hfl⟩, hgu⟩ := he
      rw [← hk] at hfl
      obtain ⟨⟨dd, hu, hrow, -⟩, hq⟩ := equalIn_flat (P := P) (w := w) 8 10000 t ti.eqk (by omega) hfl
      obtain ⟨d2, hu2, hr2, -⟩ := (hτ t ti hti).desc
      rw [hu] at hu2
      cases hu2
      obtain ⟨fs, rfl⟩ := hrow.1 (hr2.trans hagg)
      have hq := hq _ _ h1 h2
      simp only [wrK, hu] at hq
      have ex : den ρ (.agg xs) = .agg xs := by
        show Value.agg (xs.map (den1 ρ)) = _
        congr 1
        apply Array.toList_inj.1
        rw [Array.toList_map]
        exact ck_plain h1
      have ey : den ρ (.agg ys) = .agg ys := by
        show Value.agg (ys.map (den1 ρ)) = _
        congr 1
        apply Array.toList_inj.1
        rw [Array.toList_map]
        exact ck_plain h2
      rw [ex, ey]
      rw [show xs.toList.toArray = xs by simp, show ys.toList.toArray = ys by simp] at hq
      cases o <;> simp only at h <;> first | (simp at h; done) | skip
      · simp at h
        subst h
        refine ⟨?_, trivial⟩
        rw [Sem.run_bind, run_eqGuard_agg w _ t x y xs ys hgu, Result.andThen_ok, run_eql_struct w, hq]
        rfl
      · simp at h
        subst h
        refine ⟨?_, trivial⟩
        rw [Sem.run_bind, run_eqGuard_agg w _ t x y xs ys hgu, Result.andThen_ok, run_neq_struct w, hq]
        rfl
    · simp at h
theorem binyx_run (hτ : TTok P τ) {t : TypeId} {x y : Operand} {p q v : Value} {o : BinOp} (h : binyx τ o t p q = some v) :
    (do eqGuard o t x y (den ρ p) (den ρ q); binOp o t (den ρ p) (den ρ q) : Sem Value).run P w = .ok (den ρ v) w ∧ okV ρ nx v := by
  unfold binyx at h
  cases hb : binx o (isBx τ t) p q with
  | some u => rw [hb] at h; simp at h; subst h; exact binx_run hτ (binx_shift hb) hb
  | none => rw [hb] at h; exact eqx_run hτ h
theorem zip_putL (off : Nat) : ∀ (vs : List Value) (k : Nat) (cs : Array Value), (vs.zipIdx k).foldl (fun cs (p : Value × Nat) => cs.setIfInBounds (off + p.2) p.1) cs = putL cs (off + k) vs
  | [], k, cs => rfl
  | v :: r, k, cs => by
    rw [List.zipIdx_cons, List.foldl_cons, zip_putL off r (k + 1), putL]
    rfl
theorem notTuple {v : Value} (h : (cellsOf v).all atom = true) : ∀ vs, v ≠ .tuple vs := by rintro vs rfl; simp [cellsOf, atom] at h
theorem cells_den' {v : Value} (h : ∀ vs, v ≠ .tuple vs) : (den ρ v).cells = ((cellsOf v).map (den1 ρ)).toArray := by
  cases v with
  | agg cs => apply Array.toList_inj.1; simp [den, den2, Value.cells, cellsOf]
  | tuple vs => exact absurd rfl (h vs)
  | pointer p => cases p <;> rfl
  | slice p n c => cases p <;> rfl
  | _ => rfl
theorem cells_ok' {v : Value} (h : ∀ vs, v ≠ .tuple vs) (hv : okV ρ nx v) : ∀ u ∈ cellsOf v, ok1 ρ nx u := by
  cases v with
  | agg cs => intro u hu; exact hv u (by simpa [cellsOf] using hu)
  | tuple vs => exact absurd rfl (h vs)
  | _ => intro u hu; simp [cellsOf] at hu; subst hu; exact hv
theorem fill_one {place : Nat → Option (Nat × Nat)} {cs l : List Value} {i d s : Nat} {v : Value} (hp : place i = some (d, s)) (hl : (cellsOf v).length = s) (hat : (cellsOf v).all atom = true) (hput : putN d (cellsOf v) cs = some l) (rest : List (Nat × Value)) :
    Instr.fill place (cs.map (den1 ρ)).toArray ((i, den ρ v) :: rest) = Instr.fill place (l.map (den1 ρ)).toArray rest := by
  obtain ⟨q1, q2, -⟩ := putN_get _ _ _ _ hput
  have hc := cells_den' (ρ := ρ) (notTuple hat)
  rw [Instr.fill, hp]
  simp only
  rw [if_neg (by simp [hc, hl]; omega)]
  congr 1
  rw [hc]
  have := zip_putL d ((cellsOf v).map (den1 ρ)) 0 (cs.map (den1 ρ)).toArray
  rw [Nat.add_zero, putN_map hput] at this
  rw [← this, ← Array.foldl_toList, Array.toList_zipIdx]
theorem bldx_fill (hf : FrOk ρ fr nx a) {ti : TI} {place : Nat → Option (Nat × Nat)} (hp : ∀ i d s, ti.offs[i]? = some d → ti.fszs[i]? = some s → place i = some (d, s)) : ∀ (parts : List (Nat × Operand)) (cs l : List Value), bldx ti fr parts cs = some l → (∀ v ∈ cs, ok1 ρ nx v) →
    Instr.fill place (cs.map (den1 ρ)).toArray (parts.map fun p => (p.1, a.eval p.2)) = some (l.map (den1 ρ)).toArray ∧ ∀ v ∈ l, ok1 ρ nx v
  | [], cs, l, h, hk => by simp [bldx] at h; subst h; exact ⟨rfl, hk⟩
  | (i, x) :: r, cs, l, h, hk => by
    simp only [bldx] at h
    cases hx : ev fr x with
    | none => rw [hx] at h; simp at h
    | some v =>
      rw [hx] at h
      simp only at h
      split at h
      · rename_i d s ho hz
        split at h
        · rename_i hl hat
          have hl' : (cellsOf v).length = s := by simpa using hl
          cases hput : putN d (cellsOf v) cs with
          | none => rw [hput] at h; simp at h
          | some l1 =>
            rw [hput] at h
            simp only at h
            obtain ⟨h1, h2⟩ := ev_ok hf hx
            obtain ⟨q1, q2, q3⟩ := putN_get _ _ _ _ hput
            have hk1 : ∀ u ∈ l1, ok1 ρ nx u := fun u hu => by
              obtain ⟨j, hj⟩ := List.getElem?_of_mem hu
              rw [q3 j] at hj
              split at hj
              · exact cells_ok' (notTuple hat) h2 u (List.mem_of_getElem? hj)
              · exact hk u (List.mem_of_getElem? hj)
            obtain ⟨h3, h4⟩ := bldx_fill hf hp r l1 l h hk1
            refine ⟨?_, h4⟩
            rw [List.map_cons]
            simp only
            rw [h1, fill_one (hp i d s ho hz) hl' hat hput]
            exact h3
        · simp at h
      · simp at h
theorem places_of {fs : List Field} (h : (fs.map fun f => szOf P f.type).all (fun n => Nat.blt 0 n) = true) : ∃ pl, fs.mapM (fun f => (P.info? f.type).map fun i => (f.offset, i.size)) = some pl ∧ ∀ i : Nat, pl[i]? = (fs[i]?).map fun (f : Field) => (f.offset, szOf P f.type) := by
  induction fs with
  | nil => exact ⟨[], by simp, fun i => by simp⟩
  | cons f fs ih =>
    simp only [List.map_cons, List.all_cons, Bool.and_eq_true] at h
    obtain ⟨pl, h1, h2⟩ := ih h.2
    cases hi : P.info? f.type with
    | none => have := h.1; simp [szOf, hi] at this
    | some i =>
      refine ⟨(f.offset, i.size) :: pl, by simp [List.mapM_cons, hi, h1], fun k => ?_⟩
      cases k with
      | zero => simp [szOf, hi]
      | succ k => simpa using h2 k
theorem build_run {t : TypeId} {ti : TI} (ht : TIok P t ti) (hf : FrOk ρ fr nx a) {o1 : Nat} {or : List Nat} (ho : ti.offs = o1 :: or) (hz : ti.fszs.all (fun n => Nat.blt 0 n) = true) {parts : Array (Nat × Operand)} {l : List Value} (h : bldx ti fr parts.toList ti.zero = some l) :
    (Instr.build t (parts.map fun (i, x) => (i, a.eval x))).run P w = .ok (den ρ (.agg l.toArray)) w ∧ okV ρ nx (.agg l.toArray) := by
  obtain ⟨i, hi, hs, z, hz0, hzc⟩ := ht.size
  obtain ⟨d, hd, hrow, hdi⟩ := ht.desc
  cases d with
  | struct fs =>
    simp only [dInfo, Prod.mk.injEq] at hdi
    obtain ⟨e1, e2, -⟩ := hdi
    rw [← e2] at hz
    obtain ⟨pl, hm, hget⟩ := places_of (P := P) (fs := fs.toList) hz
    have hza : z.cells = (ti.zero.map (den1 ρ)).toArray := by
      apply Array.toList_inj.1
      rw [hzc]
      simp only [List.toList_toArray]
      conv => lhs; rw [← List.map_id ti.zero]
      exact List.map_congr_left fun v hv => (den1_plain (ht.zero v hv)).symm
    obtain ⟨h1, h2⟩ := bldx_fill (ρ := ρ) (nx := nx) (a := a) hf (ti := ti) (place := (pl.toArray[·]?)) (fun k d s hd hs => by
      rw [← e1, List.getElem?_map] at hd
      rw [← e2, List.getElem?_map] at hs
      have := hget k
      cases hfk : fs.toList[k]? with
      | none => rw [hfk] at hd; simp at hd
      | some f =>
        rw [hfk] at hd hs this
        simp at hd hs this
        simp [this, hd, hs]) parts.toList ti.zero l h (fun v hv => ok1_plain (ht.zero v hv))
    refine ⟨?_, fun u hu => h2 u (by simpa using hu)⟩
    rw [run_build w t _ (l.map (den1 ρ)).toArray ?_]
    · simp [den, den2]
    · unfold Program.built
      simp only [hi, hd, hz0, hm]
      rw [hza]
      have : (parts.map fun (p : Nat × Operand) => (p.1, a.eval p.2)).toList = parts.toList.map fun p => (p.1, a.eval p.2) := by simp
      rw [this]
      exact h1
  | _ => simp [dInfo, ho] at hdi
theorem vx_run (hτ : TTok P τ) (hf : FrOk ρ fr nx a) (hm : ∀ i b, lk mem i = some b → BlkOk C ρ nx i w b) {o : Oper} {v : Value} (h : vx τ fr mem o.op = some v) :
    (execOp a.eval o).run P w = .ok (.value (den ρ v)) w ∧ okV ρ nx v := by
  obtain ⟨dst, op, type, pos, after, guard⟩ := o
  simp only at h
  unfold execOp
  cases op <;> simp only [vx] at h ⊢ <;> try (simp at h; done)
  case move x =>
    obtain ⟨h1, h2⟩ := ev_ok hf h
    exact ⟨by simp [h1], h2⟩
  case assign x =>
    obtain ⟨h1, h2⟩ := ev_ok hf h
    exact ⟨by simp [h1], h2⟩
  case pick c x y =>
    cases hc : ev fr c with
    | none => rw [hc] at h; simp at h
    | some u =>
      rw [hc] at h
      obtain ⟨h1, -⟩ := ev_ok hf hc
      cases u <;> simp at h
      rename_i b
      cases b
      · simp only at h
        obtain ⟨h3, h4⟩ := ev_ok hf h
        exact ⟨by simp [h1, h3, asBool, den, den2, den1], h4⟩
      · simp only at h
        obtain ⟨h3, h4⟩ := ev_ok hf h
        exact ⟨by simp [h1, h3, asBool, den, den2, den1], h4⟩
  case load t x =>
    cases hc : ev fr x with
    | none => rw [hc] at h; simp at h
    | some p =>
      rw [hc] at h
      simp only at h
      obtain ⟨h1, h2⟩ := ev_ok hf hc
      obtain ⟨h3, h4⟩ := ldx_run hτ hm h2 h
      exact ⟨by rw [h1]; simp [h3], h4⟩
  case fieldAddr t x f =>
    cases hc : ev fr x with
    | none => rw [hc] at h; simp at h
    | some p =>
      rw [hc] at h
      simp only at h
      obtain ⟨h1, h2⟩ := ev_ok hf hc
      obtain ⟨h3, h4⟩ := fax_run (w := w) hτ h2 h
      exact ⟨by rw [h1]; simp [h3], h4⟩
  case field t x f =>
    cases hc : ev fr x with
    | none => rw [hc] at h; simp at h
    | some p =>
      rw [hc] at h
      simp only at h
      obtain ⟨h1, h2⟩ := ev_ok hf hc
      obtain ⟨h3, h4⟩ := fdx_run (w := w) hτ h2 h
      exact ⟨by rw [h1]; simp [h3], h4⟩
  case unOp uo t x =>
    cases uo <;> simp only [vx] at h <;> try (simp at h; done)
    cases hc : ev fr x with
    | none => rw [hc] at h; simp at h
    | some p =>
      rw [hc] at h
      obtain ⟨h1, -⟩ := ev_ok hf hc
      cases p <;> simp at h
      subst h
      exact ⟨by rw [h1]; simp [Op.unary, den, den2, den1], trivial⟩
  case binOp bo t x y yt =>
    cases hc : ev fr x with
    | none => rw [hc] at h; simp at h
    | some p =>
      rw [hc] at h
      simp only at h
      cases hd : ev fr y with
      | none => rw [hd] at h; simp at h
      | some q =>
        rw [hd] at h
        simp only at h
        obtain ⟨h1, -⟩ := ev_ok hf hc
        obtain ⟨h2, -⟩ := ev_ok hf hd
        obtain ⟨h3, h4⟩ := binyx_run (P := P) (ρ := ρ) (nx := nx) (w := w) (x := x) (y := y) hτ h
        refine ⟨?_, h4⟩
        rw [h1, h2]
        rw [Sem.run_bind, h3]
        simp
  case build t parts =>
    cases hti : lk τ t with
    | none => rw [hti] at h; simp at h
    | some ti =>
      rw [hti] at h
      simp only at h
      split at h
      · rename_i o1 or ho hz
        cases hb : bldx ti fr parts.toList ti.zero with
        | none => rw [hb] at h; simp at h
        | some l =>
          rw [hb] at h
          simp at h
          subst h
          obtain ⟨h1, h2⟩ := build_run (P := P) (w := w) (hτ t ti hti) hf ho hz hb
          exact ⟨by rw [Sem.run_bind, h1]; rfl, h2⟩
      · simp at h
  case nilCheck x =>
    cases hc : ev fr x with
    | none => rw [hc] at h; simp at h
    | some p =>
      rw [hc] at h
      obtain ⟨h1, h2⟩ := ev_ok hf hc
      cases p <;> first | (cases h; done) | skip
      rename_i q
      cases q with
      | none => cases h
      | some ad =>
        cases h
        refine ⟨?_, h2⟩
        obtain ⟨cb, co, hA⟩ := (show ∃ b o, (ρ ad.block).A = some ⟨b, o, none⟩ from h2.2.1)
        have e : den ρ (.pointer (some ad)) = .pointer (some ⟨cb, co + ad.spot.getD 0 * (ρ ad.block).sz + ad.off, none⟩) := by simp [den, den2, den1, dA_some hA]
        rw [h1, e]
        simp
  case extract x i =>
    cases hc : ev fr x with
    | none => rw [hc] at h; simp at h
    | some p =>
      rw [hc] at h
      obtain ⟨h1, h2⟩ := ev_ok hf hc
      cases p <;> simp only at h <;> try (simp at h; done)
      rename_i vs
      cases hi : vs[i]? with
      | none => rw [hi] at h; simp at h
      | some u =>
        rw [hi] at h
        simp only at h
        have hu2 : ok2 ρ nx u := h2 u (Array.mem_of_getElem? hi)
        rcases not_tuple u with ⟨cs, rfl⟩ | ⟨e1, e2⟩
        · simp at h
        · have : u = v := by cases u <;> simp at h <;> exact h
          subst this
          refine ⟨?_, by rw [e2]; exact hu2⟩
          rw [h1, e1]
          have hd : den ρ (.tuple vs) = .tuple (vs.map (den2 ρ)) := rfl
          rw [hd]
          simp only [Instr.extract, Array.getElem?_map, hi, Option.map_some]
          rfl
  case call c =>
    obtain ⟨callee, args, argTypes⟩ := c
    cases callee with
    | value f => simp [vx] at h
    | invoke r m => simp [vx] at h
    | builtin b =>
      cases b <;> simp only [vx] at h <;> try (simp at h; done)
      case len =>
        cases hc : evs fr args.toList with
        | none => rw [hc] at h; simp at h
        | some vs =>
          rw [hc] at h
          simp only at h
          obtain ⟨h1, h2⟩ := evs_ok hf hc
          have h1' : args.map a.eval = (vs.map (den ρ)).toArray := by apply Array.toList_inj.1; simp [h1]
          split at h
          · rename_i t hts
            have hat : argTypes = #[t] := by apply Array.toList_inj.1; simp [hts]
            cases hti : lk τ t with
            | none => rw [hti] at h; simp at h
            | some ti =>
              rw [hti] at h
              simp only at h
              unfold lenx at h
              split at h
              · rename_i A n cp
                cases hsl : ti.sl with
                | false => rw [hsl] at h; simp at h
                | true =>
                  rw [hsl] at h
                  simp at h
                  subst h
                  obtain ⟨e, hu, -⟩ := (hτ t ti hti).slice hsl
                  refine ⟨?_, trivial⟩
                  have hds : ∃ A', den ρ (.slice A n cp) = .slice A' n cp := by
                    cases A with
                    | none => exact ⟨none, rfl⟩
                    | some ad => exact ⟨_, rfl⟩
                  obtain ⟨A', hA'⟩ := hds
                  simp only [List.map_cons, List.map_nil, hA'] at h1'
                  rw [show den ρ (.int .i64 n) = .int .i64 n from rfl]
                  simp [resolve, invoke, builtin, h1', hat, Builtin.len_, run_underlying hu, goInt]
              · simp at h
          · simp at h
      case max =>
        cases hc : evs fr args.toList with
        | none => rw [hc] at h; simp at h
        | some vs =>
          rw [hc] at h
          simp only at h
          obtain ⟨h1, h2⟩ := evs_ok hf hc
          have h1' : args.map a.eval = (vs.map (den ρ)).toArray := by apply Array.toList_inj.1; simp [h1]
          unfold maxx at h
          split at h
          · simp at h
            subst h
            exact ⟨by simp [resolve, invoke, builtin, h1', Builtin.max_, Builtin.max2, den, den2, den1], trivial⟩
          · simp at h
      case min =>
        cases hc : evs fr args.toList with
        | none => rw [hc] at h; simp at h
        | some vs =>
          rw [hc] at h
          simp only at h
          obtain ⟨h1, h2⟩ := evs_ok hf hc
          have h1' : args.map a.eval = (vs.map (den ρ)).toArray := by apply Array.toList_inj.1; simp [h1]
          unfold minx at h
          split at h
          · simp at h
            subst h
            exact ⟨by simp [resolve, invoke, builtin, h1', Builtin.min_, Builtin.min2, den, den2, den1], trivial⟩
          · simp at h
end
end Go.Proofs.Ytjobcfpnmfjlfaa

namespace Go.Proofs.Ytjobcfpnmfjlfaa
open Go.RowKit
set_option linter.unusedSimpArgs false
set_option linter.unusedVariables false

/-- What a function does to the abstract memory: a transformer. -/
abbrev CT := List Value → AM → Nat → (Value → AM → Nat → Prop) → Prop
abbrev FT := List (Nat × CT)
def plB : Value → Bool
  | .pointer (some _) => false
  | .slice (some _) _ _ => false
  | _ => true
def setEl (el : Nat → List Value) (k : Nat) (l : List Value) : Nat → List Value := fun j => match Nat.beq j k with | true => l | false => el j
def rowsx (fr : AF) (sz : Nat) : Nat → List (Nat × Operand) → Option (List (List Value))
  | _, [] => some []
  | p, (i, x) :: r => (match Nat.beq i p, ev fr x with
    | true, some v => (match decide ((cellsOf v).length = sz), (cellsOf v).all atom, (cellsOf v).all plB with
      | true, true, true => (match rowsx fr sz (p + 1) r with | some rs => some (cellsOf v :: rs) | none => none)
      | _, _, _ => none)
    | _, _ => none)
def putK (d : Option Nat) (v : Value) (fr : AF) (K : AF → Prop) : Prop := match d with | some d => K ((d, v) :: fr) | none => K fr
theorem putK_eq (d : Option Nat) (v : Value) (fr : AF) (K : AF → Prop) : putK d v fr K = K (putF d v fr) := by cases d <;> rfl
/-- What is appended: so many elements. -/
def srcx (mem : AM) (sz : Nat) (x : Value) (k : Nat → (Nat → List Value) → Prop) : Prop := match x with
  | .slice none m _ => (match m with | 0 => k 0 (fun _ => []) | _ => False)
  | .slice (some ⟨q, qo, qs⟩) m _ => (match qo, qs, lk mem q with
    | 0, none, some (.row _ sz' n2 el2) => (match Nat.beq sz' sz with | true => (m ≤ n2 ∧ ∀ k, k < m → (el2 k).all atom = true) ∧ k m el2 | false => False)
    | _, _, _ => False)
  | _ => False
/-- append: in place, or into a new row. A row of the call's own has as many elements as its capacity says. -/
def appx (elt : TypeId) (te : TI) (eb : Nat) (s x : Value) (mem : AM) (nx : Nat) (K : Value → AM → Nat → Prop) : Prop := srcx mem te.size x fun m el2 => match s with
  | .slice none len cap => (match len, cap with
    | 0, 0 => (m = 0 → K (.slice none 0 0) mem nx) ∧ (m ≠ 0 → m * eb ≤ 140737488355328 ∧ ∀ cap' el', m ≤ cap' → (∀ k, k < m → el' k = el2 k) → K (.slice (some ⟨nx, 0, none⟩) m cap') ((nx, .row (1000000 + elt) te.size cap' el') :: mem) (nx + 1))
    | _, _ => False)
  | .slice (some ⟨r, ro, rs⟩) len cap => (match ro, rs, lk mem r with
    | 0, none, some (.row bt sz' n el) => (match ownT bt, Nat.beq sz' te.size with
      | true, true => (cap = n ∧ len ≤ n) ∧ (len + m ≤ n → ∀ el', (∀ k, k < len → el' k = el k) → (∀ k, k < m → el' (len + k) = el2 k) → K (.slice (some ⟨r, 0, none⟩) (len + m) n) ((r, .row bt sz' n el') :: mem) nx) ∧
        (n < len + m → (len + m) * eb ≤ 140737488355328 ∧ ∀ cap' el', len + m ≤ cap' → (∀ k, k < len → el' k = el k) → (∀ k, k < m → el' (len + k) = el2 k) → K (.slice (some ⟨nx, 0, none⟩) (len + m) cap') ((nx, .row (1000000 + elt) te.size cap' el') :: mem) (nx + 1))
      | _, _ => False)
    | _, _, _ => False)
  | _ => False
def actx (τ : TT) (F : FT) (dst : Option Nat) (op : Op) (fr : AF) (mem : AM) (nx : Nat) (K : AF → AM → Nat → Prop) : Prop :=
  match op with
  | .alloc t => (match lk τ t with
    | some ti => putK dst (.pointer (some ⟨nx, 0, none⟩)) fr fun fr' => K fr' ((nx, .box t ti.zero) :: mem) (nx + 1)
    | none => False)
  | .box t x => (match ev fr x with
    | some v => (match v with
      | .tuple _ => False
      | v => putK dst (.pointer (some ⟨nx, 0, none⟩)) fr fun fr' => K fr' ((nx, .box t (cellsOf v)) :: mem) (nx + 1))
    | none => False)
  | .store t x y => (match ev fr x, ev fr y, lk τ t with
    | some (.pointer (some ⟨ab, ao, as_⟩)), some v, some ti => (match lk mem ab, as_ with
      | some (.box bt cs), none => (match decide ((cellsOf v).length = ti.size), (cellsOf v).all atom, putN ao (cellsOf v) cs, dst with
        | true, true, some l, none => K fr ((ab, .box bt l) :: mem) nx
        | _, _, _, _ => False)
      | some (.row bt sz n el), some k => (match decide ((cellsOf v).length = ti.size), (cellsOf v).all atom, (cellsOf v).all plB, ownT bt, dst with
        | true, true, true, true, none => ∃ l, putN ao (cellsOf v) (el k) = some l ∧ K fr ((ab, .row bt sz n (setEl el k l)) :: mem) nx
        | _, _, _, _, _ => False)
      | _, _ => False)
    | _, _, _ => False)
  | .buildSlice t len parts => (match lk τ t with
    | some ti => (match ti.sl, ti.eb, lk τ ti.elt with
      | true, _ + 1, some te => (match te.size, rowsx fr te.size 0 parts.toList with
        | _ + 1, some rs => (match Nat.beq rs.length len, Nat.ble (len * te.size) 16777216 with
          | true, true => putK dst (.slice (some ⟨nx, 0, none⟩) len len) fr fun fr' => K fr' ((nx, .row (1000000 + ti.elt) te.size len (fun k => rs.getD k [])) :: mem) (nx + 1)
          | _, _ => False)
        | _, _ => False)
      | _, _, _ => False)
    | none => False)
  | .makeSlice t x y => (match ev fr x, ev fr y, lk τ t with
    | some (.int _ n), some (.int _ n'), some ti => (match ti.sl, ti.eb, lk τ ti.elt with
      | true, eb + 1, some te => (match te.size, Nat.beq te.zero.length te.size with
        | _ + 1, true => (n' = n ∧ 0 ≤ n ∧ n * ((eb + 1 : Nat) : Int) ≤ 281474976710656) ∧ putK dst (.slice (some ⟨nx, 0, none⟩) n.toNat n.toNat) fr fun fr' => K fr' ((nx, .row (1000000 + ti.elt) te.size n.toNat (fun _ => te.zero)) :: mem) (nx + 1)
        | _, _ => False)
      | _, _, _ => False)
    | _, _, _ => False)
  | .indexAddr t x i => (match ev fr x, ev fr i, lk τ t with
    | some (.slice (some ⟨ab, ao, as_⟩) n _), some (.int _ k), some ti => (match lk mem ab with
      | some (.row _ sz n' _) => (match ao, as_, ti.sl, ti.esz, Nat.beq ti.esz sz with
        | 0, none, true, _ + 1, true => (n ≤ n' ∧ 0 ≤ k ∧ k < n) ∧ putK dst (.pointer (some ⟨ab, 0, some k.toNat⟩)) fr fun fr' => K fr' mem nx
        | _, _, _, _, _ => False)
      | _ => False)
    | _, _, _ => False)
  | .binOp bo t x y _ => (match ev fr x, ev fr y with
    | some (.int k b), some (.int k' c) => (match bo with
      | .shl => 0 ≤ c ∧ putK dst (.int k (k.wrap (b * 2 ^ min c.toNat k.bits))) fr fun fr' => K fr' mem nx
      | .shr => 0 ≤ c ∧ putK dst (.int k (b.fdiv (2 ^ min c.toNat k.bits))) fr fun fr' => K fr' mem nx
      | .quo => (k = k' ∧ c ≠ 0) ∧ putK dst (.int k (k.wrap (b.tdiv c))) fr fun fr' => K fr' mem nx
      | .rem => (k = k' ∧ c ≠ 0) ∧ putK dst (.int k (b.tmod c)) fr fun fr' => K fr' mem nx
      | _ => False)
    | _, _ => False)
  | .call { callee := .builtin .append, args, argTypes } => (match evs fr args.toList, argTypes.toList with
    | some [s, x], [t, tx] => (match lk τ t, lk τ tx with
      | some ti, some tj => (match ti.sl, tj.sl, ti.eb, lk τ ti.elt with
        | true, true, eb + 1, some te => (match te.size, Nat.beq te.zero.length te.size with
          | _ + 1, true => appx ti.elt te (eb + 1) s x mem nx (fun v mem' nx' => putK dst v fr fun fr' => K fr' mem' nx')
          | _, _ => False)
        | _, _, _, _ => False)
      | _, _ => False)
    | _, _ => False)
  | .call { callee := .value (.func f), args, .. } => (match evs fr args.toList, lk F f with
    | some vs, some ct => ct vs mem nx (fun v mem' nx' => putK dst v fr fun fr' => K fr' mem' nx')
    | _, _ => False)
  | _ => False
def opx (τ : TT) (F : FT) (o : Oper) (fr : AF) (mem : AM) (nx : Nat) (K : AF → AM → Nat → Prop) : Prop :=
  match o with
  | ⟨dst, op, _, _, _, _⟩ => (match vx τ fr mem op with
    | some v => putK dst v fr fun fr' => K fr' mem nx
    | none => actx τ F dst op fr mem nx K)

/-- Names keep their places. -/
def Ext (ρ : Nat → Pl) (nx : Nat) (ρ' : Nat → Pl) (nx' : Nat) : Prop := (∀ i, i < nx → (ρ i).res = false → ρ' i = ρ i) ∧ nx ≤ nx'
theorem Ext.refl (ρ : Nat → Pl) (nx : Nat) : Ext ρ nx ρ nx := ⟨fun _ _ _ => rfl, Nat.le_refl _⟩
theorem Ext.set (ρ : Nat → Pl) (nx : Nat) (p : Pl) : Ext ρ nx (setPl ρ nx p) (nx + 1) := ⟨fun _ hi _ => setPl_lt ρ _ hi, Nat.le_succ _⟩
theorem Ext.trans {ρ1 ρ2 ρ3 : Nat → Pl} {n1 n2 n3 : Nat} (h : Ext ρ1 n1 ρ2 n2) (k : Ext ρ2 n2 ρ3 n3) : Ext ρ1 n1 ρ3 n3 :=
  ⟨fun i hi hr => by
    have e := h.1 i hi hr
    rw [k.1 i (Nat.lt_of_lt_of_le hi h.2) (by rw [e]; exact hr), e], Nat.le_trans h.2 k.2⟩
/-- No name is changed. -/
def ExtS (ρ : Nat → Pl) (nx : Nat) (ρ' : Nat → Pl) (nx' : Nat) : Prop := (∀ i, i < nx → ρ' i = ρ i) ∧ nx ≤ nx'
theorem ExtS.refl (ρ : Nat → Pl) (nx : Nat) : ExtS ρ nx ρ nx := ⟨fun _ _ => rfl, Nat.le_refl _⟩
theorem ExtS.set (ρ : Nat → Pl) (nx : Nat) (p : Pl) : ExtS ρ nx (setPl ρ nx p) (nx + 1) := ⟨fun _ hi => setPl_lt ρ _ hi, Nat.le_succ _⟩
theorem ExtS.ext {ρ1 ρ2 : Nat → Pl} {n1 n2 : Nat} (h : ExtS ρ1 n1 ρ2 n2) : Ext ρ1 n1 ρ2 n2 := ⟨fun i hi _ => h.1 i hi, h.2⟩
theorem ExtS.trans {ρ1 ρ2 ρ3 : Nat → Pl} {n1 n2 n3 : Nat} (h : ExtS ρ1 n1 ρ2 n2) (k : ExtS ρ2 n2 ρ3 n3) : ExtS ρ1 n1 ρ3 n3 :=
  ⟨fun i hi => (k.1 i (Nat.lt_of_lt_of_le hi h.2)).trans (h.1 i hi), Nat.le_trans h.2 k.2⟩
/-- The function f does what ct says. -/
structure CSound (P : Program) (f : FuncId) (ct : CT) : Prop where
  ent : (P.funcs[f]?).map (fun fn => (fn.name == "runtime.NumGoroutine", fn.body.isNone)) = some (false, false)
  run : ∀ {C : Ctx} {ρ : Nat → Pl} {fr : AF} {mem : AM} {nx : Nat} {a : Act} {w : World} {vs : List Value} {K : Value → AM → Nat → Prop}, ct vs mem nx K → Sat C ρ fr mem nx a w → (∀ v ∈ vs, okV ρ nx v) →
    Calls P f (vs.map (den ρ)).toArray w fun e w' => ∃ v mem' nx' ρ', e = .returned (den ρ' v) ∧ K v mem' nx' ∧ Sat C ρ' fr mem' nx' a w' ∧ okV ρ' nx' v ∧ ExtS ρ nx ρ' nx'
def FTok (P : Program) (F : FT) : Prop := ∀ f ct, lk F f = some ct → CSound P f ct

section
variable {P : Program} {τ : TT} {F : FT} {C : Ctx} {ρ : Nat → Pl} {fr : AF} {mem : AM} {nx : Nat} {a : Act} {w : World} {Q : Exit → Act → World → Prop}
theorem cells_den {v : Value} (h : ∀ vs, v ≠ .tuple vs) : (den ρ v).cells = ((cellsOf v).map (den1 ρ)).toArray := by
  cases v with
  | agg cs => apply Array.toList_inj.1; simp [den, den2, Value.cells, cellsOf]
  | tuple vs => exact absurd rfl (h vs)
  | pointer p => cases p <;> rfl
  | slice p n c => cases p <;> rfl
  | _ => rfl
theorem cells_ok {v : Value} (h : ∀ vs, v ≠ .tuple vs) (hv : okV ρ nx v) : ∀ u ∈ cellsOf v, ok1 ρ nx u := by
  cases v with
  | agg cs => intro u hu; exact hv u (by simpa [cellsOf] using hu)
  | tuple vs => exact absurd rfl (h vs)
  | _ => intro u hu; simp [cellsOf] at hu; subst hu; exact hv
theorem atom_one {v : Value} (h : atom v = true) : (den1 ρ v).oneCell' = true := by
  cases v with
  | agg cs => simp [atom] at h
  | tuple cs => simp [atom] at h
  | pointer p => cases p <;> rfl
  | slice p n c => cases p <;> rfl
  | _ => rfl
theorem run_store {t : TypeId} {ti : TI} (ht : TIok P t ti) {g o : Nat} {v : Value} (hnt : ∀ vs, v ≠ .tuple vs) (hl : (cellsOf v).length = ti.size) (hat : (cellsOf v).all atom = true) (hth : w.there g o (cellsOf v).length) :
    (Instr.storeAt t (.pointer (some ⟨g, o, none⟩)) (den ρ v)).run P w = .ok () (w.setCells g o ((cellsOf v).map (den1 ρ))) := by
  obtain ⟨i, hi, hs, -⟩ := ht.size
  have hc := cells_den (ρ := ρ) hnt
  have := run_storeCells_cells (P := P) g o ((cellsOf v).map (den1 ρ)) 0 w (fun j hj => by simpa using (hth j (by simpa using hj)).1) (fun j hj => by simpa using (hth j (by simpa using hj)).2)
    (fun u hu => by
      obtain ⟨x, hx, rfl⟩ := List.mem_map.1 hu
      exact atom_one (List.all_eq_true.1 hat x hx))
  simp only [Nat.add_zero] at this
  simp [Instr.storeAt, Instr.sureAddr, storeVar, sizeOf, typeInfo, hi, hc, hs, hl, this]
theorem setCells_rest (C : Ctx) {g : Nat} (hg : C.w0.heap.size ≤ g ∨ g ∈ C.bor) : ∀ (vs : List Value) {w : World} (o : Nat), Rest C w → Rest C (w.setCells g o vs)
  | [], w, o, h => h
  | v :: r, w, o, h => by
    rw [World.setCells]
    refine setCells_rest C hg r (o + 1) ⟨h.os, h.tape, h.output, by simpa [World.setCell] using h.size, fun b hb hn => ?_⟩
    rw [Below.heap_setCell w ⟨g, o, none⟩ v b (by
      show b ≠ g
      rintro rfl
      rcases hg with hg | hg
      · omega
      · exact hn hg)]
    exact h.block b hb hn
theorem RowA.far {base : Nat} {w' : World} {t : TypeId} {b off : Nat} (h : RowA base w t b off) (hs : w.heap.size ≤ w'.heap.size) (hb : w'.heap[b]? = w.heap[b]?) : RowA base w' t b off :=
  ⟨Nat.lt_of_lt_of_le h.lt hs, fun ho => by obtain ⟨h1, h2, ty, cs, h3⟩ := h.own ho; exact ⟨h1, h2, ty, cs, hb.trans h3⟩, h.new⟩
/-- A store into a box. -/
theorem Sat.store (h : Sat C ρ fr mem nx a w) {i g o : Nat} {t : TypeId} {cs vs l : List Value} (hb0 : lk mem i = some (.box t cs)) (hA : (ρ i).A = some ⟨g, 0, none⟩) (hp : putN o vs cs = some l) (hv : ∀ v ∈ vs, ok1 ρ nx v) :
    Sat C ρ fr ((i, .box t l) :: mem) nx a (w.setCells g o (vs.map (den1 ρ))) := by
  have hb := lk_app (r := C.fm) hb0
  obtain ⟨g', hA', hblk, hbase, hcs⟩ := h.blk i _ hb
  have hgg : g' = g := by rw [hA] at hA'; cases hA'; rfl
  subst hgg
  have hfar : ∀ b, b ≠ g' → (w.setCells g' o (vs.map (den1 ρ))).heap[b]? = w.heap[b]? := fun b hb => setCells_far _ _ b hb
  refine ⟨h.fok, h.sz, h.dfr, fun j b' hj => ?_, fun j b' hj => ?_, fun j k b1 b2 hne hj hk => ?_, h.n0, h.low, setCells_rest C hbase _ _ h.rest⟩
  · rcases lk_cons hj with ⟨rfl, rfl⟩ | ⟨hne, hj⟩
    · exact h.mlt i _ hb
    · exact h.mlt j b' hj
  · rcases lk_cons hj with ⟨rfl, rfl⟩ | ⟨hne, hj⟩
    · refine ⟨g', hA', ?_, hbase, fun u hu => ?_⟩
      · have := hblk.setCells (vs.map (den1 ρ)) o
        rw [putN_map hp] at this
        exact this
      · obtain ⟨h1, h2, h3⟩ := putN_get _ _ _ _ hp
        obtain ⟨j, hj⟩ := List.getElem?_of_mem hu
        rw [h3 j] at hj
        split at hj
        · exact hv u (List.mem_of_getElem? hj)
        · exact hcs u (List.mem_of_getElem? hj)
    · have hap := h.sep i j _ b' hne hb hj
      have hok := h.blk j b' hj
      cases b' with
      | box t2 cs2 =>
        obtain ⟨g2, hA2, hblk2, hb2, hcs2⟩ := hok
        have hne2 : g2 ≠ g' := by
          rintro rfl
          simp only [Apart, bno, hA', hA2] at hap
          exact hap rfl
        exact ⟨g2, hA2, (hfar g2 hne2).trans hblk2, hb2, hcs2⟩
      | row t2 sz n el =>
        obtain ⟨h1, h2, h3⟩ := hok
        refine ⟨h1, h2, ?_⟩
        rcases h3 with h0 | ⟨b, off, hA2, hlt, hc⟩
        · exact .inl h0
        · simp only [Apart, bno, hA', hA2] at hap
          rcases hap with h0 | hap
          · exact .inl h0
          · have hne2 : b ≠ g' := by rintro rfl; exact hap rfl
            refine .inr ⟨b, off, hA2, hlt.far (by rw [setCells_size]; exact Nat.le_refl _) (hfar b hne2), fun k hk j v hv => ?_⟩
            rw [World.cell?_of_block (hfar b hne2)]
            exact hc k hk j v hv
  · have ap : ∀ (b1 b2 b1' b2' : ABlk), (∀ t cs, b1 = .box t cs → ∃ t' cs', b1' = .box t' cs') → (∀ t sz n el, b1 = .row t sz n el → b1' = b1) → (∀ t cs, b2 = .box t cs → ∃ t' cs', b2' = .box t' cs') → (∀ t sz n el, b2 = .row t sz n el → b2' = b2) → Apart ρ j k b1' b2' → Apart ρ j k b1 b2 := by
      intro b1 b2 b1' b2' e1 e2 e3 e4 hap
      cases b1 with
      | box t1 c1 =>
        obtain ⟨_, _, rfl⟩ := e1 _ _ rfl
        cases b2 with
        | box t2 c2 => obtain ⟨_, _, rfl⟩ := e3 _ _ rfl; exact hap
        | row t2 s2 n2 el2 => rw [e4 _ _ _ _ rfl] at hap; exact hap
      | row t1 s1 n1 el1 =>
        rw [e2 _ _ _ _ rfl] at hap
        cases b2 with
        | box t2 c2 => trivial
        | row t2 s2 n2 el2 => rw [e4 _ _ _ _ rfl] at hap; exact hap
    rcases lk_cons hj with ⟨rfl, rfl⟩ | ⟨hnj, hj⟩
    · rcases lk_cons hk with ⟨rfl, rfl⟩ | ⟨hnk, hk⟩
      · exact absurd rfl hne
      · exact ap _ _ _ _ (fun _ _ _ => ⟨_, _, rfl⟩) (fun _ _ _ _ q => by cases q) (fun _ _ q => ⟨_, _, q⟩) (fun _ _ _ _ _ => rfl) (h.sep i k _ b2 hne hb hk)
    · rcases lk_cons hk with ⟨rfl, rfl⟩ | ⟨hnk, hk⟩
      · exact ap _ _ _ _ (fun _ _ q => ⟨_, _, q⟩) (fun _ _ _ _ _ => rfl) (fun _ _ _ => ⟨_, _, rfl⟩) (fun _ _ _ _ q => by cases q) (h.sep j i b1 _ hne hj hb)
      · exact h.sep j k b1 b2 hne hj hk
theorem plB_ok {v : Value} (h : plB v = true) : plain1 v := by
  cases v with
  | pointer p => cases p <;> simp_all [plB, plain1]
  | slice p n c => cases p <;> simp_all [plB, plain1]
  | _ => trivial
/-- A store into a row of the call's own. -/
theorem Sat.storeRow (h : Sat C ρ fr mem nx a w) {i k o : Nat} {t : TypeId} {sz n : Nat} {el : Nat → List Value} {vs l : List Value} (hb0 : lk mem i = some (.row t sz n el)) (ho : ownT t = true) (hk : k < n) (hp : putN o vs (el k) = some l) (hv : ∀ v ∈ vs, plain1 v) :
    ∃ g, (ρ i).A = some ⟨g, 0, none⟩ ∧ (ρ i).sz = sz ∧ w.there g (k * sz + o) vs.length ∧ Sat C ρ fr ((i, .row t sz n (setEl el k l)) :: mem) nx a (w.setCells g (k * sz + o) (vs.map (den1 ρ))) := by
  have hb := lk_app (r := C.fm) hb0
  obtain ⟨⟨hsz, hnn⟩, hpl, hrow⟩ := h.blk i _ hb
  rcases hrow with h0 | ⟨g, off, hA, hat, hc⟩
  · omega
  obtain ⟨rfl, hbase, ty, cs, hblk⟩ := hat.own ho
  obtain ⟨q1, q2, q3⟩ := putN_get _ _ _ _ hp
  have hlen := (hpl k hk).1
  have hdv : vs.map (den1 ρ) = vs := by
    conv => rhs; rw [← List.map_id vs]
    exact List.map_congr_left fun v hv' => den1_plain (hv v hv')
  have hin : ∀ k', k' < n → ∀ j, j < sz → k' * sz + j < cs.size := fun k' hk' j hj => by
    obtain ⟨v, hv'⟩ : ∃ v, (el k')[j]? = some v := ⟨_, List.getElem?_eq_getElem (by rw [(hpl k' hk').1]; exact hj)⟩
    have := hc k' hk' j v hv'
    rw [Nat.zero_add, hblk.cell] at this
    rcases Nat.lt_or_ge (k' * sz + j) cs.size with q | q
    · exact q
    · rw [Array.getElem?_eq_none q] at this; cases this
  have hfar : ∀ b, b ≠ g → (w.setCells g (k * sz + o) (vs.map (den1 ρ))).heap[b]? = w.heap[b]? := fun b hb => setCells_far _ _ b hb
  have hblk2 := hblk.setCells (vs.map (den1 ρ)) (k * sz + o)
  rw [hdv] at hblk2
  refine ⟨g, hA, hsz, ?_, ?_⟩
  · by_cases h0 : vs.length = 0
    · intro j hj; omega
    · exact hblk.there _ _ (by have := hin k hk (o + vs.length - 1) (by omega); omega)
  refine ⟨h.fok, h.sz, h.dfr, fun j b' hj => ?_, fun j b' hj => ?_, fun j m b1 b2 hne hj hk2 => ?_, h.n0, h.low, setCells_rest C (.inl hbase) _ _ h.rest⟩
  · rcases lk_cons hj with ⟨rfl, rfl⟩ | ⟨hne, hj⟩
    · exact h.mlt i _ hb
    · exact h.mlt j b' hj
  · rcases lk_cons hj with ⟨rfl, rfl⟩ | ⟨hne, hj⟩
    · have hel : ∀ k', setEl el k l k' = if k' = k then l else el k' := fun k' => by
        unfold setEl
        by_cases hkk : k' = k
        · subst hkk; rw [Nat.beq_refl, if_pos rfl]
        · have : Nat.beq k' k = false := by
            cases hbb : Nat.beq k' k
            · rfl
            · exact absurd (Nat.eq_of_beq_eq_true hbb) hkk
          rw [this, if_neg hkk]
      refine ⟨⟨hsz, hnn⟩, fun k' hk' => ?_, .inr ⟨g, 0, hA, ⟨by rw [setCells_size]; exact hat.lt, fun _ => ⟨rfl, hbase, ty, _, by rw [hdv]; exact hblk2⟩, fun _ => hbase⟩, fun k' hk' j v hj => ?_⟩⟩
      · rw [hel]
        by_cases hkk : k' = k
        · subst hkk
          rw [if_pos rfl]
          refine ⟨by rw [q1]; exact hlen, fun u hu => ?_⟩
          obtain ⟨j, hj⟩ := List.getElem?_of_mem hu
          rw [q3 j] at hj
          split at hj
          · exact hv u (List.mem_of_getElem? hj)
          · exact (hpl _ hk').2 u (List.mem_of_getElem? hj)
        · rw [if_neg hkk]; exact hpl k' hk'
      · rw [hel] at hj
        rw [Nat.zero_add, hdv, hblk2.cell, putL_at]
        by_cases hkk : k' = k
        · subst hkk
          rw [if_pos rfl] at hj
          have hjs : j < sz := by
            have := (List.getElem?_eq_some_iff.1 hj).1
            omega
          rw [q3 j] at hj
          by_cases hr : o ≤ j ∧ j < o + vs.length
          · rw [if_pos hr] at hj
            rw [if_pos ⟨by omega, by omega, hin k' hk' j hjs⟩, ← hj]
            congr 1
            omega
          · rw [if_neg hr] at hj
            rw [if_neg (by omega)]
            have := hc k' hk' j v hj
            rw [Nat.zero_add, hblk.cell] at this
            exact this
        · rw [if_neg hkk] at hj
          have hjs : j < sz := by
            have := (List.getElem?_eq_some_iff.1 hj).1
            rw [(hpl k' hk').1] at this
            exact this
          have hout : ¬ (k * sz + o ≤ k' * sz + j ∧ k' * sz + j < k * sz + o + vs.length ∧ k' * sz + j < cs.size) := by
            rintro ⟨r1, r2, -⟩
            rcases Nat.lt_or_gt_of_ne hkk with hlt | hgt
            · have := Nat.mul_le_mul_right sz (show k' + 1 ≤ k by omega)
              rw [Nat.add_mul] at this
              omega
            · have := Nat.mul_le_mul_right sz (show k + 1 ≤ k' by omega)
              rw [Nat.add_mul] at this
              omega
          rw [if_neg hout]
          have := hc k' hk' j v hj
          rw [Nat.zero_add, hblk.cell] at this
          exact this
    · have hok := h.blk j b' hj
      cases b' with
      | box t2 cs2 =>
        have hap := h.sep j i _ _ (Ne.symm hne) hj hb
        obtain ⟨g2, hA2, hblk3, hb2, hcs2⟩ := hok
        have hne2 : g2 ≠ g := by
          rintro rfl
          simp only [Apart, bno, hA, hA2] at hap
          rcases hap with h0 | hap
          · omega
          · exact hap rfl
        exact ⟨g2, hA2, (hfar g2 hne2).trans hblk3, hb2, hcs2⟩
      | row t2 sz2 n2 el2 =>
        have hap := h.sep i j _ _ hne hb hj
        obtain ⟨h1, h2, h3⟩ := hok
        refine ⟨h1, h2, ?_⟩
        rcases h3 with h0 | ⟨b, off, hA2, hlt, hc2⟩
        · exact .inl h0
        · simp only [Apart, bno, hA, hA2] at hap
          rcases hap ho with h0 | h0 | hap
          · omega
          · exact .inl h0
          · have hne2 : b ≠ g := by rintro rfl; exact hap rfl
            refine .inr ⟨b, off, hA2, hlt.far (by rw [setCells_size]; exact Nat.le_refl _) (hfar b hne2), fun k hk j v hv => ?_⟩
            rw [World.cell?_of_block (hfar b hne2)]
            exact hc2 k hk j v hv
  · rcases lk_cons hj with ⟨rfl, rfl⟩ | ⟨hnj, hj⟩
    · rcases lk_cons hk2 with ⟨rfl, rfl⟩ | ⟨hnk, hk2⟩
      · exact absurd rfl hne
      · have := h.sep i m _ b2 hne hb hk2
        cases b2 <;> exact this
    · rcases lk_cons hk2 with ⟨rfl, rfl⟩ | ⟨hnk, hk2⟩
      · have := h.sep j i b1 _ hne hj hb
        cases b1 <;> exact this
      · exact h.sep j m b1 b2 hne hj hk2
end
end Go.Proofs.Ytjobcfpnmfjlfaa

namespace Go.Proofs.Ytjobcfpnmfjlfaa
open Go.RowKit
set_option linter.unusedSimpArgs false
set_option linter.unusedVariables false

section
variable {P : Program} {τ : TT} {F : FT} {C : Ctx} {ρ : Nat → Pl} {fr : AF} {mem : AM} {nx : Nat} {a : Act} {w : World} {Q : Exit → Act → World → Prop}
/-- A new box. -/
theorem Sat.newBox (h : Sat C ρ fr mem nx a w) (t : TypeId) {cs : List Value} (hcs : ∀ v ∈ cs, ok1 ρ nx v) :
    Sat C (setPl ρ nx ⟨some ⟨w.heap.size, 0, none⟩, 0, 0, false⟩) fr ((nx, .box t cs) :: mem) (nx + 1) a (w.alloc (.cells (cs.map (den1 ρ)).toArray t)) := by
  have hr : ∀ i, i < nx → (ρ i).res = false → setPl ρ nx ⟨some ⟨w.heap.size, 0, none⟩, 0, 0, false⟩ i = ρ i := fun i hi _ => setPl_lt ρ _ hi
  refine h.add ((Below.refl _ _).alloc (Nat.le_refl _) _) ⟨w.heap.size, by rw [setPl_same], ?_, .inl h.rest.size, fun v hv => ok1_mono hr (Nat.le_succ _) (hcs v hv)⟩ (fun g hg => by simp at hg; omega) rfl
  have : cs.map (den1 (setPl ρ nx ⟨some ⟨w.heap.size, 0, none⟩, 0, 0, false⟩)) = cs.map (den1 ρ) := List.map_congr_left fun v hv => den1_congr hr (hcs v hv)
  rw [this]
  exact Blk.new _ _ _
theorem ptr_new (g : Nat) : den (setPl ρ nx ⟨some ⟨g, 0, none⟩, 0, 0, false⟩) (.pointer (some ⟨nx, 0, none⟩)) = .pointer (some ⟨g, 0, none⟩) ∧ okV (setPl ρ nx ⟨some ⟨g, 0, none⟩, 0, 0, false⟩) (nx + 1) (.pointer (some ⟨nx, 0, none⟩)) := by
  refine ⟨?_, ?_⟩
  · simp [den, den2, den1, dA_whole, setPl_same]
  · exact ⟨⟨Nat.lt_succ_self _, by simp [setPl_same]⟩, ⟨g, 0, by simp [setPl_same]⟩, fun k hk => by cases hk⟩
/-- A new row. -/
theorem Sat.newRow (h : Sat C ρ fr mem nx a w) (t ty : TypeId) {sz n : Nat} {el : Nat → List Value} {cells : Array Value} (hel : ∀ k, k < n → (el k).length = sz ∧ ∀ v ∈ el k, plain1 v) (hc : ∀ k, k < n → ∀ j v, (el k)[j]? = some v → cells[k * sz + j]? = some v) :
    Sat C (setPl ρ nx ⟨some ⟨w.heap.size, 0, none⟩, sz, n, false⟩) fr ((nx, .row t sz n el) :: mem) (nx + 1) a (w.alloc (.cells cells ty)) := by
  have hB := Blk.new w ty cells
  refine h.add ((Below.refl _ _).alloc (Nat.le_refl _) _) ⟨by rw [setPl_same]; exact ⟨rfl, rfl⟩, hel, .inr ⟨w.heap.size, 0, by rw [setPl_same], ⟨hB.lt, fun _ => ⟨rfl, h.rest.size, ty, cells, hB⟩, fun _ => h.rest.size⟩, fun k hk j v hv => ?_⟩⟩ (fun g hg => by simp at hg; omega) rfl
  rw [Nat.zero_add, hB.cell]
  exact hc k hk j v hv
theorem slc_new (g sz n m c : Nat) : den (setPl ρ nx ⟨some ⟨g, 0, none⟩, sz, n, false⟩) (.slice (some ⟨nx, 0, none⟩) m c) = .slice (some ⟨g, 0, none⟩) m c ∧ okV (setPl ρ nx ⟨some ⟨g, 0, none⟩, sz, n, false⟩) (nx + 1) (.slice (some ⟨nx, 0, none⟩) m c) := by
  refine ⟨?_, ?_⟩
  · simp [den, den2, den1, dA_whole, setPl_same]
  · exact ⟨Nat.lt_succ_self _, by simp [setPl_same]⟩
theorem TIok.elt {t : TypeId} {ti : TI} (h : TIok P t ti) {n : Nat} (he : ti.eb = n + 1) : P.underlying t = some (.slice ti.elt) ∧ ∀ i, P.info? ti.elt = some i → i.bytes = n + 1 := by
  have := h.elem
  unfold elemB at this
  rw [he] at this
  simp only [Bool.and_eq_true] at this
  obtain ⟨h1, h2⟩ := this
  refine ⟨?_, fun i hi => ?_⟩
  · split at h1
    · rename_i e hu
      rw [hu, Nat.eq_of_beq_eq_true h1]
    · cases h1
  · rw [hi] at h2
    exact Nat.eq_of_beq_eq_true h2
theorem made_at {z : Array Value} {n sz k j : Nat} (hz : z.size = sz) (hk : k < n) (hj : j < sz) : (madeCells z (n * sz))[k * sz + j]? = z[j]? := by
  have hlt : k * sz + j < n * sz := by
    have := Nat.mul_le_mul_right sz (show k + 1 ≤ n by omega)
    rw [Nat.add_mul] at this
    omega
  have hm : (k * sz + j) % sz = j := by rw [Nat.add_comm, Nat.add_mul_mod_self_right, Nat.mod_eq_of_lt hj]
  simp only [madeCells, Array.getElem?_map, Array.getElem?_range, hlt, if_true, Option.map_some, hz, hm]
  rw [Array.getElem?_eq_getElem (by omega), getElem!_pos z j (by omega)]
theorem fill_rows (hf : FrOk ρ fr nx a) {sz : Nat} : ∀ (parts : List (Nat × Operand)) (p : Nat) (rs : List (List Value)) (base : Array Value), rowsx fr sz p parts = some rs → (p + rs.length) * sz ≤ base.size →
    ∃ out, Instr.fill (fun i => some (i * sz, sz)) base (parts.map fun q => (q.1, a.eval q.2)) = some out ∧ (∀ q, q < p * sz → out[q]? = base[q]?) ∧ (∀ r ∈ rs, r.length = sz ∧ ∀ v ∈ r, plain1 v) ∧ ∀ k j v, k < rs.length → (rs.getD k [])[j]? = some v → out[(p + k) * sz + j]? = some v
  | [], p, rs, base, h, hsz => by
    simp [rowsx] at h
    subst h
    exact ⟨base, rfl, fun _ _ => rfl, (fun r hr => absurd hr (List.not_mem_nil)), fun k j v hk => absurd hk (Nat.not_lt_zero _)⟩
  | (i, x) :: r, p, rs, base, h, hsz => by
    simp only [rowsx] at h
    split at h
    · rename_i v hi hx
      split at h
      · rename_i hl hat hpl
        have hl' : (cellsOf v).length = sz := by simpa using hl
        cases hr : rowsx fr sz (p + 1) r with
        | none => rw [hr] at h; simp at h
        | some rs' =>
          rw [hr] at h
          simp at h
          subst h
          obtain rfl : i = p := Nat.eq_of_beq_eq_true hi
          obtain ⟨h1, h2⟩ := ev_ok hf hx
          have hplain : ∀ u ∈ cellsOf v, plain1 u := fun u hu => plB_ok (List.all_eq_true.1 hpl u hu)
          have hcs : (den ρ v).cells = (cellsOf v).toArray := by
            rw [cells_den' (notTuple hat)]
            congr 1
            conv => rhs; rw [← List.map_id (cellsOf v)]
            exact List.map_congr_left fun u hu => den1_plain (hplain u hu)
          simp only [List.length_cons] at hsz
          have hb : i * sz + sz ≤ base.size := by
            have := Nat.mul_le_mul_right sz (show i + 1 ≤ i + (rs'.length + 1) by omega)
            rw [Nat.add_mul] at this
            omega
          have hb2 : putL base (i * sz) (cellsOf v) = (den ρ v).cells.zipIdx.foldl (fun cs (c : Value × Nat) => cs.setIfInBounds (i * sz + c.2) c.1) base := by
            rw [hcs]
            have := zip_putL (i * sz) (cellsOf v) 0 base
            rw [Nat.add_zero] at this
            rw [← this, ← Array.foldl_toList, Array.toList_zipIdx]
          have hsize : (putL base (i * sz) (cellsOf v)).size = base.size := putL_size _ _ _
          have hsz2 : (i + 1 + rs'.length) * sz ≤ (putL base (i * sz) (cellsOf v)).size := by
            rw [hsize, show i + 1 + rs'.length = i + (rs'.length + 1) by omega]
            exact hsz
          obtain ⟨out, g1, g2, g3, g4⟩ := fill_rows hf r (i + 1) rs' (putL base (i * sz) (cellsOf v)) hr hsz2
          refine ⟨out, ?_, fun q hq => ?_, fun r' hr' => ?_, fun k j u hk hu => ?_⟩
          · rw [List.map_cons]
            simp only
            rw [Instr.fill]
            simp only [h1]
            rw [if_neg (by rw [hcs]; simp [hl']; omega), ← hb2]
            exact g1
          · rw [g2 q (by rw [Nat.add_mul]; omega), putL_at, if_neg (by omega)]
          · rcases List.mem_cons.1 hr' with rfl | hr'
            · exact ⟨hl', hplain⟩
            · exact g3 r' hr'
          · cases k with
            | zero =>
              simp only [List.getD_cons_zero] at hu
              have hj : j < sz := by rw [← hl']; exact (List.getElem?_eq_some_iff.1 hu).1
              rw [Nat.add_zero, g2 _ (by rw [Nat.add_mul]; omega), putL_at, if_pos (by omega), Nat.add_sub_cancel_left]
              exact hu
            | succ k =>
              simp only [List.getD_cons_succ, List.length_cons] at hu hk
              have := g4 k j u (by omega) hu
              rw [show i + (k + 1) = i + 1 + k by omega]
              exact this
      · simp at h
    · simp at h
/-! append -/
def flatE (el : Nat → List Value) (n : Nat) : List Value := (List.range n).flatMap el
theorem flatE_succ (el : Nat → List Value) (n : Nat) : flatE el (n + 1) = flatE el n ++ el n := by simp [flatE, List.range_succ]
theorem flatE_len {el : Nat → List Value} {sz : Nat} : ∀ {n : Nat}, (∀ k, k < n → (el k).length = sz) → (flatE el n).length = n * sz
  | 0, _ => by simp [flatE]
  | n + 1, h => by rw [flatE_succ, List.length_append, flatE_len fun k hk => h k (by omega), h n (by omega), Nat.add_mul, Nat.one_mul]
theorem flatE_get {el : Nat → List Value} {sz : Nat} : ∀ {n : Nat}, (∀ k, k < n → (el k).length = sz) → ∀ j v, (flatE el n)[j]? = some v → ∃ k i, k < n ∧ i < sz ∧ j = k * sz + i ∧ (el k)[i]? = some v
  | 0, _, j, v, h => by simp [flatE] at h
  | n + 1, hs, j, v, h => by
    rw [flatE_succ] at h
    have hl := flatE_len (n := n) fun k hk => hs k (by omega)
    by_cases hj : j < n * sz
    · rw [List.getElem?_append_left (by omega)] at h
      obtain ⟨k, i, h1, h2, h3, h4⟩ := flatE_get (fun k hk => hs k (by omega)) j v h
      exact ⟨k, i, by omega, h2, h3, h4⟩
    · rw [List.getElem?_append_right (by omega), hl] at h
      have hi := (List.getElem?_eq_some_iff.1 h).1
      rw [hs n (by omega)] at hi
      exact ⟨n, j - n * sz, by omega, hi, by omega, h⟩
theorem flatE_at {el : Nat → List Value} {sz : Nat} : ∀ {n : Nat}, (∀ k, k < n → (el k).length = sz) → ∀ k i v, k < n → (el k)[i]? = some v → (flatE el n)[k * sz + i]? = some v
  | 0, _, k, i, v, hk, _ => by omega
  | n + 1, hs, k, i, v, hk, h => by
    rw [flatE_succ]
    have hl := flatE_len (n := n) fun k hk => hs k (by omega)
    have hi : i < sz := by rw [← hs k hk]; exact (List.getElem?_eq_some_iff.1 h).1
    by_cases hkn : k < n
    · rw [List.getElem?_append_left]
      · exact flatE_at (fun k hk => hs k (by omega)) k i v hkn h
      · rw [hl]
        have := Nat.mul_le_mul_right sz (show k + 1 ≤ n by omega)
        rw [Nat.add_mul] at this
        omega
    · obtain rfl : k = n := by omega
      rw [List.getElem?_append_right (by omega), hl, Nat.add_sub_cancel_left]
      exact h
theorem flatE_mem {el : Nat → List Value} {n : Nat} {v : Value} (h : v ∈ flatE el n) : ∃ k, k < n ∧ v ∈ el k := by
  obtain ⟨k, hk, hv⟩ := List.mem_flatMap.1 h
  exact ⟨k, List.mem_range.1 hk, hv⟩
theorem setCells_app (g : Nat) : ∀ (a b : List Value) (w : World) (o : Nat), w.setCells g o (a ++ b) = (w.setCells g o a).setCells g (o + a.length) b
  | [], b, w, o => by simp [World.setCells]
  | v :: a, b, w, o => by
    rw [List.cons_append, World.setCells, setCells_app g a b, World.setCells, List.length_cons]
    congr 1
    omega
/-- Many elements are stored into a row of the call's own. -/
theorem Sat.storeRows {r : Nat} {t : TypeId} {sz n len : Nat} {el2 : Nat → List Value} {g : Nat} (ho : ownT t = true) (hA : (ρ r).A = some ⟨g, 0, none⟩) : ∀ (m : Nat) {el : Nat → List Value} {mem : AM} {w : World}, Sat C ρ fr mem nx a w → lk mem r = some (.row t sz n el) → len + m ≤ n → (∀ k, k < m → (el2 k).length = sz ∧ ∀ v ∈ el2 k, plain1 v) →
    ∃ el', Sat C ρ fr ((r, .row t sz n el') :: mem) nx a (w.setCells g (len * sz) (flatE el2 m)) ∧ (∀ k, k < m → el' (len + k) = el2 k) ∧ ∀ k, ¬ (len ≤ k ∧ k < len + m) → el' k = el k
  | 0, el, mem, w, hs, hl, hn, h2 => ⟨el, by
      have : flatE el2 0 = [] := rfl
      rw [this]
      exact hs.less (fun _ _ h => h) (fun i b h => by
        rw [List.cons_append] at h
        rcases lk_cons h with ⟨rfl, rfl⟩ | ⟨_, h⟩
        · exact lk_app hl
        · exact h), fun k hk => by omega, fun k _ => rfl⟩
  | m + 1, el, mem, w, hs, hl, hn, h2 => by
    obtain ⟨el1, hs1, e1, e2⟩ := Sat.storeRows (len := len) (el2 := el2) ho hA m hs hl (by omega) (fun k hk => h2 k (by omega))
    have hlen := flatE_len (el := el2) (n := m) fun k hk => (h2 k (by omega)).1
    have hl1 : lk ((r, ABlk.row t sz n el1) :: mem) r = some (.row t sz n el1) := lk_same _ _ _
    have hk1 : (el1 (len + m)).length = sz := by
      obtain ⟨-, hpl, -⟩ := hs1.blk r _ (lk_app hl1)
      exact (hpl (len + m) (by omega)).1
    have hput : putN 0 (el2 m) (el1 (len + m)) = some (el2 m) := by
      have : ∀ (u v : List Value), u.length = v.length → putN 0 u v = some u := by
        intro u
        induction u with
        | nil => intro v hv; cases v <;> simp at hv; rfl
        | cons x u ih => intro v hv; cases v with
          | nil => simp at hv
          | cons y v => simp only [putN]; rw [ih v (by simpa using hv)]
      exact this _ _ (by rw [hk1, (h2 m (by omega)).1])
    obtain ⟨g', hA', -, hth, hs2⟩ := hs1.storeRow hl1 ho (show len + m < n by omega) hput (h2 m (by omega)).2
    rw [hA] at hA'
    cases hA'
    have hdv : (el2 m).map (den1 ρ) = el2 m := by
      conv => rhs; rw [← List.map_id (el2 m)]
      exact List.map_congr_left fun v hv => den1_plain ((h2 m (by omega)).2 v hv)
    rw [hdv] at hs2
    have hel : ∀ k', setEl el1 (len + m) (el2 m) k' = if k' = len + m then el2 m else el1 k' := fun k' => by
      unfold setEl
      by_cases hkk : k' = len + m
      · subst hkk; rw [Nat.beq_refl, if_pos rfl]
      · have : Nat.beq k' (len + m) = false := by
          cases hbb : Nat.beq k' (len + m)
          · rfl
          · exact absurd (Nat.eq_of_beq_eq_true hbb) hkk
        rw [this, if_neg hkk]
    refine ⟨setEl el1 (len + m) (el2 m), ?_, fun k hk => ?_, fun k hk => ?_⟩
    · have : w.setCells g (len * sz) (flatE el2 (m + 1)) = (w.setCells g (len * sz) (flatE el2 m)).setCells g ((len + m) * sz + 0) (el2 m) := by
        rw [flatE_succ, setCells_app, hlen, Nat.add_zero, Nat.add_mul]
      rw [this]
      refine hs2.less (fun _ _ h => h) (fun i b h => ?_)
      rw [List.cons_append] at h
      rw [List.cons_append, List.cons_append]
      rcases lk_cons h with ⟨rfl, rfl⟩ | ⟨hne, h⟩
      · exact lk_same _ _ _
      · rw [lk_ne _ _ hne, lk_ne _ _ hne]; exact h
    · rw [hel]
      by_cases hkm : k = m
      · subst hkm; rw [if_pos rfl]
      · rw [if_neg (by omega)]; exact e1 k (by omega)
    · rw [hel, if_neg (by omega)]
      exact e2 k (by omega)
theorem srcx_sound {sz : Nat} {x : Value} {k : Nat → (Nat → List Value) → Prop} (h : srcx mem sz x k) (hs : Sat C ρ fr mem nx a w) {tx e' : TypeId} (hk : P.underlying tx = some (.slice e')) :
    ∃ m el2, k m el2 ∧ Src P sz tx (den ρ x) m (flatE el2 m) w ∧ ∀ k, k < m → (el2 k).length = sz ∧ ∀ v ∈ el2 k, plain1 v ∧ v.oneCell' = true := by
  cases x <;> first | exact h.elim | skip
  rename_i A m c
  cases A with
  | none =>
    simp only [srcx] at h
    cases m with
    | zero => exact ⟨0, _, h, Src.ofNil w hk c, fun k hk => by omega⟩
    | succ m => exact h.elim
  | some ad =>
    obtain ⟨q, qo, qs⟩ := ad
    simp only [srcx] at h
    split at h
    · rename_i bt sz' n2 el2 hl
      split at h
      · rename_i hb
        obtain ⟨⟨hm, hat⟩, hK⟩ := h
        obtain rfl : sz' = sz := Nat.eq_of_beq_eq_true hb
        obtain ⟨⟨h1, h2⟩, hpl, hrow⟩ := hs.blk q _ (lk_app hl)
        by_cases h0 : m = 0
        · subst h0
          cases hA : (ρ q).A with
          | none =>
            refine ⟨0, el2, hK, ?_, fun k hk => by omega⟩
            have : den ρ (.slice (some ⟨q, 0, none⟩) 0 c) = .slice none 0 c := by simp [den, den2, den1, dA_whole, hA]
            rw [this]
            exact Src.ofNil w hk c
          | some ad =>
            refine ⟨0, el2, hK, ?_, fun k hk => by omega⟩
            have : den ρ (.slice (some ⟨q, 0, none⟩) 0 c) = .slice (some ad) 0 c := by simp [den, den2, den1, dA_whole, hA]
            rw [this]
            exact Src.ofSlice w hk ad 0 c _ (by simp [flatE]) (by simp [flatE]) (by simp [flatE])
        · rcases hrow with h3 | ⟨b, off, hA, -, hc⟩
          · omega
          · have hcell : ∀ k, k < m → ∀ v ∈ el2 k, v.oneCell' = true := by
              intro k hk v hv
              have h1 := atom_one (ρ := ρ) (List.all_eq_true.1 (hat k hk) v hv)
              rw [den1_plain ((hpl k (by omega)).2 v hv)] at h1
              exact h1
            refine ⟨m, el2, hK, ?_, fun k hk => ⟨(hpl k (by omega)).1, fun v hv => ⟨(hpl k (by omega)).2 v hv, hcell k hk v hv⟩⟩⟩
            have : den ρ (.slice (some ⟨q, 0, none⟩) m c) = .slice (some ⟨b, off, none⟩) m c := by simp [den, den2, den1, dA_whole, hA]
            rw [this]
            refine Src.ofSlice w hk _ m c _ (flatE_len fun k hk => (hpl k (by omega)).1) (fun j u hu => ?_) (fun u hu => ?_)
            · obtain ⟨k, i, r1, r2, rfl, r4⟩ := flatE_get (fun k hk => (hpl k (by omega)).1) j u hu
              rw [Addr.add_mid, ← Nat.add_assoc]
              exact hc k (by omega) i u r4
            · obtain ⟨k, hk, hv⟩ := flatE_mem hu
              exact hcell k hk u hv
      · exact h.elim
    · exact h.elim
theorem app_nothing (w : World) (t tx ty e : TypeId) (i : TypeInfo) (ht : P.underlying t = some (.slice e)) (hi : P.info? e = some i) (base : Option Addr) (n c : Nat) (hle : n ≤ c) (x : Value) (hs : Src P i.size tx x 0 [] w) :
    (Builtin.append_ #[t, tx] ty #[.slice base n c, x]).run P w = .ok (.slice base n c) w := by
  rcases hs.kind with ⟨e', hk⟩ | hk <;> cases base <;> simp [Builtin.append_, run_underlying ht, run_underlying hk, sizeOf, typeInfo, hi, hs.len, hle, hs.cells, storeCells]
theorem appx_sound (hτ : TTok P τ) {t tx ty e : TypeId} {te : TI} {b1 : Nat} {s x : Value} {K : Value → AM → Nat → Prop} (ht : P.underlying t = some (.slice e)) (hte : TIok P e te) (hby : ∀ i, P.info? e = some i → i.bytes = b1 + 1) {e' : TypeId} (htx : P.underlying tx = some (.slice e')) (hz0 : te.zero.length = te.size) (hpos : 0 < te.size)
    (h : appx e te (b1 + 1) s x mem nx K) (hs : Sat C ρ fr mem nx a w) (hok : okV ρ nx s) : ∃ v w' mem' nx' ρ', (Builtin.append_ #[t, tx] ty #[den ρ s, den ρ x]).run P w = .ok (den ρ' v) w' ∧ K v mem' nx' ∧ Sat C ρ' fr mem' nx' a w' ∧ okV ρ' nx' v ∧ ExtS ρ nx ρ' nx' := by
  obtain ⟨m, el2, hk, hsrc, hel2⟩ := srcx_sound h hs htx
  obtain ⟨ie, hie, hsz, z, hz, hzc⟩ := hte.size
  have hb := hby ie hie
  rw [← hsz] at hsrc
  have hzs : z.cells.size = ie.size := by rw [← Array.length_toList, hzc, hz0, hsz]
  -- the new row
  have grow : ∀ (len cap : Nat) (base : Option Addr) (el : Nat → List Value), (∀ k, k < len → (el k).length = te.size ∧ ∀ v ∈ el k, plain1 v) → (Builtin.firstCells ie.size len (.slice base len cap)).run P w.drew = .ok (flatE el len).toArray w.drew → cap < len + m → (len + m) * (b1 + 1) ≤ 140737488355328 →
      (∀ cap' el', len + m ≤ cap' → (∀ k, k < len → el' k = el k) → (∀ k, k < m → el' (len + k) = el2 k) → K (.slice (some ⟨nx, 0, none⟩) (len + m) cap') ((nx, .row (1000000 + e) te.size cap' el') :: mem) (nx + 1)) →
      ∃ v w' mem' nx' ρ', (Builtin.append_ #[t, tx] ty #[.slice base len cap, den ρ x]).run P w = .ok (den ρ' v) w' ∧ K v mem' nx' ∧ Sat C ρ' fr mem' nx' a w' ∧ okV ρ' nx' v ∧ ExtS ρ nx ρ' nx' := by
    intro len cap base el hel hold hlt hbound hK
    have hrun := run_append_grow_src (P := P) w t tx ty e ie z ht hie hz base len cap (flatE el len) hold (den ρ x) m (flatE el2 m) hsrc hlt (by
      have : len + m ≤ (len + m) * (b1 + 1) := Nat.le_mul_of_pos_right _ (by omega)
      omega) (growslice_fits hlt (by rw [hb]; exact hbound))
    generalize hc' : grownCap w (len + m) cap e = c' at hrun
    have hcl : len + m ≤ c' := by rw [← hc']; exact grownCap_ge w _ _ _
    have l1 := flatE_len (el := el) (n := len) fun k hk => (hel k hk).1
    have l2 := flatE_len (el := el2) (n := m) fun k hk => (hel2 k hk).1
    let el' : Nat → List Value := fun k => if k < len then el k else if k < len + m then el2 (k - len) else te.zero
    have q1 : ∀ k, k < len → el' k = el k := fun k hk => if_pos hk
    have q2 : ∀ k, k < m → el' (len + k) = el2 k := fun k hk => by
      show (if len + k < len then _ else if len + k < len + m then el2 (len + k - len) else te.zero) = _
      rw [if_neg (by omega), if_pos (by omega), Nat.add_sub_cancel_left]
    have q3 : ∀ k, len + m ≤ k → el' k = te.zero := fun k hk => by
      show (if k < len then _ else if k < len + m then el2 (k - len) else te.zero) = _
      rw [if_neg (by omega), if_neg (by omega)]
    have hs2 := hs.drew.newRow (1000000 + e) e (sz := te.size) (n := c') (el := el') (cells := (flatE el len ++ flatE el2 m).toArray ++ Builtin.zeroCells z.cells (c' - (len + m))) (fun k hk => by
      by_cases h1 : k < len
      · rw [q1 k h1]; exact hel k h1
      · by_cases h2 : k < len + m
        · have := q2 (k - len) (by omega)
          rw [show len + (k - len) = k by omega] at this
          rw [this]
          exact ⟨(hel2 _ (by omega)).1, fun v hv => ((hel2 _ (by omega)).2 v hv).1⟩
        · rw [q3 k (by omega)]; exact ⟨hz0, hte.zero⟩) (fun k hk j v hv => by
      have hmul : ∀ {a b : Nat}, a < b → a * te.size + te.size ≤ b * te.size := fun {a b} hab => by
        have := Nat.mul_le_mul_right te.size (show a + 1 ≤ b by omega)
        rw [Nat.add_mul] at this
        omega
      by_cases h1 : k < len
      · rw [q1 k h1] at hv
        have hj : j < te.size := by rw [← (hel k h1).1]; exact (List.getElem?_eq_some_iff.1 hv).1
        have := hmul h1
        rw [Array.getElem?_append_left (by simp only [List.size_toArray, List.length_append, l1]; omega), List.getElem?_toArray, List.getElem?_append_left (by omega)]
        exact flatE_at (fun k hk => (hel k hk).1) k j v h1 hv
      · by_cases h2 : k < len + m
        · have e3 := q2 (k - len) (by omega)
          rw [show len + (k - len) = k by omega] at e3
          rw [e3] at hv
          have hj : j < te.size := by rw [← (hel2 (k - len) (by omega)).1]; exact (List.getElem?_eq_some_iff.1 hv).1
          have e4 := hmul (show k - len < m by omega)
          have e5 : k * te.size = len * te.size + (k - len) * te.size := by rw [← Nat.add_mul]; congr 1; omega
          rw [Array.getElem?_append_left (by simp only [List.size_toArray, List.length_append, l1, l2]; omega), List.getElem?_toArray, List.getElem?_append_right (by omega), l1, show k * te.size + j - len * te.size = (k - len) * te.size + j by omega]
          exact flatE_at (fun k hk => (hel2 k hk).1) (k - len) j v (by omega) hv
        · rw [q3 k (by omega)] at hv
          have hj : j < te.size := by rw [← hz0]; exact (List.getElem?_eq_some_iff.1 hv).1
          have e5 : k * te.size = len * te.size + m * te.size + (k - (len + m)) * te.size := by rw [← Nat.add_mul, ← Nat.add_mul]; congr 1; omega
          have e4 := hmul (show k - (len + m) < c' - (len + m) by omega)
          rw [Array.getElem?_append_right (by simp only [List.size_toArray, List.length_append, l1, l2]; omega)]
          simp only [List.size_toArray, List.length_append, l1, l2]
          rw [show k * te.size + j - (len * te.size + m * te.size) = (k - (len + m)) * te.size + j by omega]
          rw [← hzc] at hv
          unfold Builtin.zeroCells
          have hm : ((k - (len + m)) * te.size + j) % te.size = j := by rw [Nat.add_comm, Nat.add_mul_mod_self_right, Nat.mod_eq_of_lt hj]
          have hlt2 : (k - (len + m)) * te.size + j < (c' - (len + m)) * te.size := by omega
          rw [hzs, hsz]
          simp only [Array.getElem?_map, Array.getElem?_range, hlt2, if_true, Option.map_some, hm]
          rw [Array.getElem?_toList] at hv
          obtain ⟨r1, r2⟩ := Array.getElem?_eq_some_iff.1 hv
          rw [getElem!_pos z.cells j r1, r2])
    obtain ⟨e1, e2⟩ := slc_new (ρ := ρ) (nx := nx) w.heap.size te.size c' (len + m) c'
    refine ⟨_, _, _, _, _, ?_, hK c' el' hcl q1 q2, hs2, e2, ExtS.set _ _ _⟩
    rw [hrun]
    have : w.drew.heap.size = w.heap.size := by simp
    rw [this, e1]
  cases s <;> first | exact hk.elim | skip
  rename_i A len cap
  cases A with
  | none =>
    simp only at hk
    split at hk
    · obtain ⟨h1, h2⟩ := hk
      by_cases hm : m = 0
      · refine ⟨_, w, mem, nx, ρ, ?_, h1 hm, hs, trivial, ExtS.refl _ _⟩
        subst hm
        have : (flatE el2 0) = [] := rfl
        rw [this] at hsrc
        exact app_nothing w t tx ty e ie ht hie none 0 0 (by omega) (den ρ x) hsrc
      · obtain ⟨h3, h4⟩ := h2 hm
        have := grow 0 0 none (fun _ => []) (fun k hk => by omega) (by have : flatE (fun _ => ([] : List Value)) 0 = [] := rfl; rw [this]; exact run_firstCells_none w.drew ie.size 0 0 0) (by omega) (by rw [Nat.zero_add]; exact h3) (fun cap' el' g1 g2 g3 => by
          rw [Nat.zero_add] at g1 ⊢
          exact h4 cap' el' g1 (fun k hk => by have := g3 k hk; rwa [Nat.zero_add] at this))
        exact this
    · exact hk.elim
  | some ad =>
    obtain ⟨r, ro, rs⟩ := ad
    simp only at hk
    split at hk
    · rename_i bt sz' n el hl
      split at hk
      · rename_i hown hb2
        obtain rfl : sz' = te.size := Nat.eq_of_beq_eq_true hb2
        obtain ⟨⟨rfl, hle⟩, hroom, hgrow⟩ := hk
        obtain ⟨⟨h1, h2⟩, hpl, hrow⟩ := hs.blk r _ (lk_app hl)
        have hfr : (Builtin.firstCells ie.size len (den ρ (.slice (some ⟨r, 0, none⟩) len cap))).run P w.drew = .ok (flatE el len).toArray w.drew := by
          have e0 : den ρ (.slice (some ⟨r, 0, none⟩) len cap) = .slice (ρ r).A len cap := rfl
          rw [e0]
          rcases hrow with h0 | ⟨b, off, hA, -, hc⟩
          · obtain rfl : len = 0 := by omega
            have : flatE el 0 = [] := rfl
            rw [this]
            cases (ρ r).A with
            | none => exact run_firstCells_none w.drew _ _ _ _
            | some ad => exact run_firstCells_some w.drew _ 0 ad 0 cap [] (by simp) (by simp)
          · rw [hA]
            refine run_firstCells_some w.drew _ len _ len cap _ (by rw [hsz]; exact flatE_len fun k hk => (hpl k (by omega)).1) (fun j u hu => ?_)
            obtain ⟨k, i, r1, r2, rfl, r4⟩ := flatE_get (fun k hk => (hpl k (by omega)).1) j u hu
            have := hc k (by omega) i u r4
            rw [Addr.add_mid, ← Nat.add_assoc]
            simpa using this
        by_cases hfit : len + m ≤ cap
        · by_cases hm : m = 0
          · subst hm
            refine ⟨_, w, _, nx, ρ, ?_, hroom hfit el (fun _ _ => rfl) (fun k hk => by omega), ?_, hok, ExtS.refl _ _⟩
            · have : (flatE el2 0) = [] := rfl
              rw [this] at hsrc
              exact app_nothing w t tx ty e ie ht hie (ρ r).A len cap hle (den ρ x) hsrc
            · exact hs.less (fun _ _ h => h) (fun i b h => by
                rw [List.cons_append] at h
                rcases lk_cons h with ⟨rfl, rfl⟩ | ⟨_, h⟩
                · exact lk_app hl
                · exact h)
          · rcases hrow with h0 | ⟨b, off, hA, hat, hc⟩
            · omega
            · obtain ⟨rfl, hbase, ty2, cs, hblk⟩ := hat.own hown
              obtain ⟨el', hs2, e1, e2⟩ := Sat.storeRows (el2 := el2) (len := len) hown hA m hs hl hfit (fun k hk => ⟨(hel2 k hk).1, fun v hv => ((hel2 k hk).2 v hv).1⟩)
              have l2 := flatE_len (el := el2) (n := m) fun k hk => (hel2 k hk).1
              have hin : (len + m) * te.size ≤ cs.size := by
                have hj : te.size - 1 < (el (len + m - 1)).length := by rw [(hpl (len + m - 1) (by omega)).1]; omega
                have := hc (len + m - 1) (by omega) (te.size - 1) _ (List.getElem?_eq_getElem hj)
                rw [Nat.zero_add, hblk.cell] at this
                have hlt := (Array.getElem?_eq_some_iff.1 this).1
                have e5 : (len + m) * te.size = (len + m - 1) * te.size + te.size := by
                  conv => lhs; rw [show len + m = (len + m - 1) + 1 by omega, Nat.add_mul, Nat.one_mul]
                omega
              have hth := hblk.there (len * te.size) (m * te.size) (by rw [Nat.add_mul] at hin; exact hin)
              refine ⟨_, _, _, nx, ρ, ?_, hroom hfit el' (fun k hk => e2 k (by omega)) e1, hs2, hok, ExtS.refl _ _⟩
              have e0 : den ρ (.slice (some ⟨r, 0, none⟩) len cap) = .slice (some ⟨b, 0, none⟩) len cap := by simp [den, den2, den1, dA_whole, hA]
              have e3 : den ρ (.slice (some ⟨r, 0, none⟩) (len + m) cap) = .slice (some ⟨b, 0, none⟩) (len + m) cap := by simp [den, den2, den1, dA_whole, hA]
              rw [e0, e3, run_append_room_src w t tx ty e ie ht hie b 0 len cap (den ρ x) m (flatE el2 m) hsrc hfit (fun j hj => by rw [hsz, Nat.zero_add]; exact (hth j (by omega)).1) (fun j hj => by rw [hsz, Nat.zero_add]; exact (hth j (by omega)).2), Nat.zero_add, hsz]
        · obtain ⟨h3, h4⟩ := hgrow (by omega)
          have e0 : den ρ (.slice (some ⟨r, 0, none⟩) len cap) = .slice (ρ r).A len cap := rfl
          rw [e0] at hfr ⊢
          exact grow len cap (ρ r).A el (fun k hk => hpl k (by omega)) hfr (by omega) h3 h4
      · exact hk.elim
    · exact hk.elim
theorem lk_putF {d : Option Nat} {v : Value} {e : Nat} (h : d ≠ some e) : lk (putF d v fr) e = lk fr e := by
  cases d with
  | none => rfl
  | some d => exact lk_ne _ _ (fun q => h (by rw [q]))
theorem wp_value {o : Oper} {v : Value} {w' : World} {K : Act → World → Prop} (h : (execOp a.eval o).run P w = .ok (.value v) w') (hk : K (a.put o.dst v) w') : o.wp P a w K Q := by
  unfold Oper.wp; rw [h]; exact hk
theorem actx_sound (hτ : TTok P τ) (hF : FTok P F) {o : Oper} (hd : ∀ i, o.dst = some i → i < C.nt) {K : AF → AM → Nat → Prop} (h : actx τ F o.dst o.op fr mem nx K) (hs : Sat C ρ fr mem nx a w) :
    o.wp P a w (fun a' w' => ∃ fr' mem' nx' ρ', K fr' mem' nx' ∧ Sat C ρ' fr' mem' nx' a' w' ∧ ExtS ρ nx ρ' nx' ∧ ∀ d, o.dst ≠ some d → lk fr' d = lk fr d) Q := by
  obtain ⟨dst, op, type, pos, after, guard⟩ := o
  simp only at hd h
  cases op <;> simp only [actx, putK_eq] at h <;> try (exact h.elim)
  case alloc t =>
    cases hti : lk τ t with
    | none => rw [hti] at h; exact h.elim
    | some ti =>
      rw [hti] at h
      have ht := hτ t ti hti
      obtain ⟨i, hi, hsz, z, hz, hzc⟩ := ht.size
      have hmap : ti.zero.map (den1 ρ) = ti.zero := by
        conv => rhs; rw [← List.map_id ti.zero]
        exact List.map_congr_left fun v hv => den1_plain (ht.zero v hv)
      have hs2 := hs.newBox t (cs := ti.zero) (fun v hv => ok1_plain (ht.zero v hv))
      rw [hmap] at hs2
      obtain ⟨e1, e2⟩ := ptr_new (ρ := ρ) (nx := nx) w.heap.size
      have hs3 := hs2.put (d := dst) hd e2
      rw [e1] at hs3
      refine wp_value (w' := w.alloc (.cells ti.zero.toArray t)) ?_ ⟨_, _, _, _, h, hs3, ExtS.set _ _ _, fun _ q => lk_putF q⟩
      have hza : z.cells = ti.zero.toArray := by apply Array.toList_inj.1; simp [hzc]
      simp [execOp, Instr.alloc, zeroValue, typeInfo, hi, hz, newVar, newRow, newObj, hza, Sem.run]
  case box t x =>
    cases hx : ev fr x with
    | none => rw [hx] at h; exact h.elim
    | some v =>
      rw [hx] at h
      obtain ⟨h1, h2⟩ := ev_ok hs.fok.left hx
      rcases not_tuple v with ⟨cs, rfl⟩ | ⟨-, -⟩
      · exact h.elim
      · by_cases hnt : ∃ vs, v = .tuple vs
        · obtain ⟨vs, rfl⟩ := hnt; exact h.elim
        · have hnt' : ∀ vs, v ≠ .tuple vs := fun vs hv => hnt ⟨vs, hv⟩
          have h' : K (putF dst (.pointer (some ⟨nx, 0, none⟩)) fr) ((nx, .box t (cellsOf v)) :: mem) (nx + 1) := by
            cases v <;> first | exact h | exact absurd rfl (hnt' _)
          have hs2 := hs.newBox t (cs := cellsOf v) (cells_ok hnt' h2)
          obtain ⟨e1, e2⟩ := ptr_new (ρ := ρ) (nx := nx) w.heap.size
          have hs3 := hs2.put (d := dst) hd e2
          rw [e1] at hs3
          refine wp_value (w' := w.alloc (.cells ((cellsOf v).map (den1 ρ)).toArray t)) ?_ ⟨_, _, _, _, h', hs3, ExtS.set _ _ _, fun _ q => lk_putF q⟩
          simp [execOp, Instr.box, newVar, newRow, newObj, h1, cells_den (ρ := ρ) hnt', Sem.run]
  case store t x y =>
    cases hx : ev fr x with
    | none => rw [hx] at h; exact h.elim
    | some p =>
      cases hy : ev fr y with
      | none => rw [hx, hy] at h; cases p <;> first | exact h.elim | (rename_i q; cases q <;> exact h.elim)
      | some v =>
        cases hti : lk τ t with
        | none => rw [hx, hy, hti] at h; cases p <;> first | exact h.elim | (rename_i q; cases q <;> exact h.elim)
        | some ti =>
          rw [hx, hy, hti] at h
          cases p <;> first | exact h.elim | skip
          rename_i q
          cases q with
          | none => exact h.elim
          | some ad =>
            simp only at h
            cases hb : lk mem ad.block with
            | none => rw [hb] at h; exact h.elim
            | some bl =>
              rw [hb] at h
              cases bl with
              | row bt sz n el =>
                cases hsp : ad.spot with
                | none => rw [hsp] at h; exact h.elim
                | some k =>
                  rw [hsp] at h
                  simp only at h
                  split at h
                  · rename_i hl hat hpl hown
                    obtain ⟨l, hp, hK⟩ := h
                    obtain ⟨h1, h2⟩ := ev_ok hs.fok.left hx
                    obtain ⟨h3, h4⟩ := ev_ok hs.fok.left hy
                    have hl' : (cellsOf v).length = ti.size := by simpa using hl
                    have hplain : ∀ u ∈ cellsOf v, plain1 u := fun u hu => plB_ok (List.all_eq_true.1 hpl u hu)
                    have hkn : k < n := by
                      have := h2.2.2 k hsp
                      obtain ⟨⟨-, e⟩, -⟩ := hs.blk _ _ (lk_app hb)
                      omega
                    obtain ⟨g, hA, hsz, hth, hs2⟩ := hs.storeRow hb hown hkn hp hplain
                    have hrun := run_store (P := P) (w := w) (ρ := ρ) (hτ t ti hti) (g := g) (o := k * sz + ad.off) (notTuple hat) hl' hat hth
                    have e : den ρ (.pointer (some ad)) = .pointer (some ⟨g, k * sz + ad.off, none⟩) := by simp [den, den2, den1, dA_some hA, hsp, hsz]
                    rw [e] at h1
                    unfold Oper.wp execOp
                    simp only [h1, h3]
                    rw [Sem.run_bind, hrun]
                    exact ⟨_, _, _, _, hK, hs2, ExtS.refl _ _, fun _ _ => rfl⟩
                  · exact h.elim
              | box bt cs =>
                cases hsp : ad.spot with
                | some k => rw [hsp] at h; exact h.elim
                | none =>
                  rw [hsp] at h
                  simp only at h
                  split at h
                  · rename_i l hl hat hp
                    obtain ⟨h1, h2⟩ := ev_ok hs.fok.left hx
                    obtain ⟨h3, h4⟩ := ev_ok hs.fok.left hy
                    obtain ⟨g, hA, hblk, -, -⟩ := hs.blk _ _ (lk_app hb)
                    have hl' : (cellsOf v).length = ti.size := by simpa using hl
                    have hnt : ∀ vs, v ≠ .tuple vs := by
                      rintro vs rfl
                      simp [cellsOf, atom] at hat
                    have hsz := (putN_get _ _ _ _ hp).2.1
                    have hrun := run_store (P := P) (w := w) (ρ := ρ) (hτ t ti hti) (g := g) (o := ad.off) hnt hl' hat (hblk.there _ _ (by simpa using hsz))
                    have hs2 := hs.store hb hA hp (cells_ok hnt h4)
                    have e : den ρ (.pointer (some ad)) = .pointer (some ⟨g, ad.off, none⟩) := by simp [den, den2, den1, dA_some hA, hsp]
                    rw [e] at h1
                    unfold Oper.wp execOp
                    simp only [h1, h3]
                    rw [Sem.run_bind, hrun]
                    exact ⟨_, _, _, _, h, hs2, ExtS.refl _ _, fun _ _ => rfl⟩
                  · exact h.elim
  case buildSlice t len parts =>
    cases hti : lk τ t with
    | none => rw [hti] at h; exact h.elim
    | some ti =>
      rw [hti] at h
      simp only at h
      split at h
      · rename_i eb te hsl heb hte
        split at h
        · rename_i s rs hs1 hrs
          split at h
          · rename_i hlen hle
            have ht := hτ t ti hti
            obtain ⟨hu, hby⟩ := ht.elt heb
            obtain ⟨ie, hie, hsz, z, hz, hzc⟩ := (hτ _ te hte).size
            have hlen' : rs.length = len := Nat.eq_of_beq_eq_true hlen
            have hle' : len * te.size ≤ 16777216 := Nat.le_of_ble_eq_true hle
            obtain ⟨out, g1, -, g3, g4⟩ := fill_rows (a := a) hs.fok.left parts.toList 0 rs ((Array.range (len * te.size)).map fun i => (if len * te.size = 0 then #[] else z.cells)[i % (if len * te.size = 0 then #[] else z.cells).size]!) hrs (by simp [hlen'])
            have hs2 := hs.newRow (1000000 + ti.elt) ti.elt (sz := te.size) (n := len) (el := fun k => rs.getD k []) (cells := out) (fun k hk => by
              have : rs[k]? = some (rs.getD k []) := by rw [List.getD_eq_getElem?_getD, List.getElem?_eq_getElem (by omega)]; rfl
              exact g3 _ (List.mem_of_getElem? this)) (fun k hk j v hv => by
              have := g4 k j v (by omega) hv
              rw [Nat.zero_add] at this
              exact this)
            obtain ⟨e1, e2⟩ := slc_new (ρ := ρ) (nx := nx) w.heap.size te.size len len len
            have hs3 := hs2.put (d := dst) hd e2
            rw [e1] at hs3
            refine wp_value (w' := w.alloc (.cells out ti.elt)) ?_ ⟨_, _, _, _, h, hs3, ExtS.set _ _ _, fun _ q => lk_putF q⟩
            have hpm : (parts.map fun (q : Nat × Operand) => (q.1, a.eval q.2)).toList = parts.toList.map fun q => (q.1, a.eval q.2) := by simp
            have hz0 : ¬ (16777216 < len * te.size) := by omega
            by_cases h0 : len * te.size = 0
            · simp only [h0, if_true] at g1
              rw [show (Array.range 0).map (fun i => (#[] : Array Value)[i % (#[] : Array Value).size]!) = #[] by simp [Array.range_zero']] at g1
              simp [execOp, Instr.buildSlice, run_underlying hu, sizeOf, typeInfo, hie, hsz, h0, g1, newRow, newObj, Sem.run, Array.range_zero']
            · simp only [h0, if_false] at g1
              simp [execOp, Instr.buildSlice, run_underlying hu, sizeOf, typeInfo, zeroValue, hie, hsz, hz, hz0, h0, g1, newRow, newObj, Sem.run]
          · exact h.elim
        · exact h.elim
      · exact h.elim
  case makeSlice t x y =>
    cases hx : ev fr x with
    | none => rw [hx] at h; exact h.elim
    | some p =>
      rw [hx] at h
      cases p <;> first | exact h.elim | skip
      rename_i kl n
      cases hy : ev fr y with
      | none => rw [hy] at h; exact h.elim
      | some q =>
        rw [hy] at h
        cases q <;> first | exact h.elim | skip
        rename_i kc n'
        cases hti : lk τ t with
        | none => rw [hti] at h; exact h.elim
        | some ti =>
          rw [hti] at h
          simp only at h
          split at h
          · rename_i eb te hsl heb hte
            split at h
            · rename_i s hs1 hzl
              obtain ⟨⟨rfl, hn0, hnb⟩, hK⟩ := h
              have ht := hτ t ti hti
              obtain ⟨hu, hby⟩ := ht.elt heb
              obtain ⟨ie, hie, hsz, z, hz, hzc⟩ := (hτ _ te hte).size
              have hzl' : te.zero.length = te.size := Nat.eq_of_beq_eq_true hzl
              have hzs : z.cells.size = te.size := by rw [← Array.length_toList, hzc, hzl']
              have hb := hby ie hie
              have h1 : a.eval x = .int kl n' := (ev_ok hs.fok.left hx).1
              have h2 : a.eval y = .int kc n' := (ev_ok hs.fok.left hy).1
              have hnn : n' ≤ 281474976710656 := by
                have : n' * 1 ≤ n' * ((eb + 1 : Nat) : Int) := Int.mul_le_mul_of_nonneg_left (by omega) hn0
                omega
              have hrun := run_make (P := P) w t ti.elt ie z hu hie hz kl kc n' n' hn0 (Int.le_refl _) (by rw [hb, Int.mul_comm]; exact hnb) (by omega)
              have hs2 := hs.newRow (1000000 + ti.elt) ti.elt (sz := te.size) (n := n'.toNat) (el := fun _ => te.zero) (cells := madeCells z.cells (n'.toNat * te.size)) (fun k hk => ⟨hzl', (hτ _ te hte).zero⟩) (fun k hk j v hv => by
                have hj : j < te.size := by rw [← hzl']; exact (List.getElem?_eq_some_iff.1 hv).1
                rw [made_at hzs hk hj]
                rw [← hzc] at hv
                simpa using hv)
              obtain ⟨e1, e2⟩ := slc_new (ρ := ρ) (nx := nx) w.heap.size te.size n'.toNat n'.toNat n'.toNat
              have hs3 := hs2.put (d := dst) hd e2
              rw [e1] at hs3
              refine wp_value (w' := w.alloc (.cells (madeCells z.cells (n'.toNat * te.size)) ti.elt)) ?_ ⟨_, _, _, _, hK, hs3, ExtS.set _ _ _, fun _ q => lk_putF q⟩
              rw [hsz] at hrun
              simp [execOp, h1, h2, hrun]
            · exact h.elim
          · exact h.elim
  case indexAddr t x i =>
    cases hx : ev fr x with
    | none => rw [hx] at h; exact h.elim
    | some p =>
      rw [hx] at h
      cases p <;> first | exact h.elim | skip
      rename_i A n cp
      cases A with
      | none => exact h.elim
      | some ad =>
        cases hy : ev fr i with
        | none => rw [hy] at h; exact h.elim
        | some q =>
          rw [hy] at h
          cases q <;> first | exact h.elim | skip
          rename_i kk k
          cases hti : lk τ t with
          | none => rw [hti] at h; exact h.elim
          | some ti =>
            rw [hti] at h
            simp only at h
            cases hb : lk mem ad.block with
            | none => rw [hb] at h; exact h.elim
            | some bl =>
              rw [hb] at h
              cases bl with
              | box bt cs => exact h.elim
              | row bt sz n' el =>
                simp only at h
                split at h
                · rename_i s hoff hsp hsl hesz hbe
                  obtain ⟨⟨hn, hk0, hkn⟩, hK⟩ := h
                  have hsz : ti.esz = sz := Nat.eq_of_beq_eq_true hbe
                  obtain ⟨h1, h2⟩ := ev_ok hs.fok.left hx
                  obtain ⟨h3, -⟩ := ev_ok hs.fok.left hy
                  obtain ⟨⟨hs1, hs2⟩, -, hrow⟩ := hs.blk _ _ (lk_app hb)
                  rcases hrow with h0 | ⟨b, off, hA, hlt, hc⟩
                  · omega
                  · obtain ⟨e, hu, he⟩ := (hτ t ti hti).slice hsl
                    have hok : okV ρ nx (.pointer (some ⟨ad.block, 0, some k.toNat⟩)) := ⟨hs.mlt _ _ (lk_app hb), ⟨b, off, hA⟩, fun j hj => by cases hj; show k.toNat < (ρ ad.block).n; rw [hs2]; omega⟩
                    have hs3 := hs.put (d := dst) hd hok
                    have e1 : den ρ (.slice (some ad) n cp) = .slice (some ⟨b, off, none⟩) n cp := by simp [den, den2, den1, dA_some hA, hsp, hoff]
                    have e2 : den ρ (.pointer (some ⟨ad.block, 0, some k.toNat⟩)) = .pointer (some ⟨b, off + k.toNat * sz, none⟩) := by simp [den, den2, den1, dA_some (a := ⟨ad.block, 0, some k.toNat⟩) hA, hs1]
                    rw [e2] at hs3
                    rw [e1] at h1
                    have h3' : a.eval i = .int kk k := h3
                    refine wp_value (w' := w) ?_ ⟨_, _, _, _, hK, hs3, ExtS.refl _ _, fun _ q => lk_putF q⟩
                    cases hi : P.info? e with
                    | none => simp [szOf, hi] at he; omega
                    | some ii =>
                      have hes : ii.size = sz := by rw [← hsz, ← he]; simp [szOf, hi]
                      simp [execOp, h1, h3', Instr.indexAt, asIntOf, run_underlying hu, hk0, hkn, sizeOf, typeInfo, hi, hes, Addr.add_mid]
                · exact h.elim
  case binOp bo t x y yt =>
    cases hx : ev fr x with
    | none => rw [hx] at h; exact h.elim
    | some p =>
      rw [hx] at h
      cases p <;> first | exact h.elim | skip
      rename_i k b
      cases hy : ev fr y with
      | none => rw [hy] at h; exact h.elim
      | some q =>
        rw [hy] at h
        cases q <;> first | exact h.elim | skip
        rename_i k' c
        have h1 : a.eval x = .int k b := (ev_ok hs.fok.left hx).1
        have h2 : a.eval y = .int k' c := (ev_ok hs.fok.left hy).1
        cases bo <;> simp only at h <;> first | exact h.elim | skip
        case quo =>
          obtain ⟨⟨rfl, hc⟩, hK⟩ := h
          refine wp_value (w' := w) (v := .int k (k.wrap (b.tdiv c))) ?_ ⟨_, _, _, _, hK, hs.put (d := dst) (v := .int k (k.wrap (b.tdiv c))) hd trivial, ExtS.refl _ _, fun _ q => lk_putF q⟩
          simp [execOp, h1, h2, eqGuard, binOp, Op.intDiv, hc]
        case rem =>
          obtain ⟨⟨rfl, hc⟩, hK⟩ := h
          refine wp_value (w' := w) (v := .int k (b.tmod c)) ?_ ⟨_, _, _, _, hK, hs.put (d := dst) (v := .int k (b.tmod c)) hd trivial, ExtS.refl _ _, fun _ q => lk_putF q⟩
          simp [execOp, h1, h2, eqGuard, binOp, Op.intDiv, hc]
        case shl =>
          obtain ⟨hc, hK⟩ := h
          refine wp_value (w' := w) (v := .int k (k.wrap (b * 2 ^ min c.toNat k.bits))) ?_ ⟨_, _, _, _, hK, hs.put (d := dst) (v := .int k (k.wrap (b * 2 ^ min c.toNat k.bits))) hd trivial, ExtS.refl _ _, fun _ q => lk_putF q⟩
          simp [execOp, h1, h2, eqGuard, binOp, Op.shift, show ¬ c < 0 by omega]
        case shr =>
          obtain ⟨hc, hK⟩ := h
          refine wp_value (w' := w) (v := .int k (b.fdiv (2 ^ min c.toNat k.bits))) ?_ ⟨_, _, _, _, hK, hs.put (d := dst) (v := .int k (b.fdiv (2 ^ min c.toNat k.bits))) hd trivial, ExtS.refl _ _, fun _ q => lk_putF q⟩
          simp [execOp, h1, h2, eqGuard, binOp, Op.shift, show ¬ c < 0 by omega]
  case call c =>
    obtain ⟨callee, args, argTypes⟩ := c
    cases callee with
    | builtin b =>
      cases b <;> simp only at h <;> first | exact h.elim | skip
      split at h
      · rename_i s x t tx hev hty
        have hvs : evs fr args.toList = some [s, x] := hev
        obtain ⟨h1, h2⟩ := evs_ok hs.fok.left hvs
        have h1' : args.map a.eval = #[den ρ s, den ρ x] := by apply Array.toList_inj.1; simp [h1]
        have hat : argTypes = #[t, tx] := by apply Array.toList_inj.1; simp [hty]
        split at h
        · rename_i ti tj hti htj
          split at h
          · rename_i eb te hsl hsl2 heb hte
            split at h
            · rename_i sz hsz hzl
              obtain ⟨hu, hby⟩ := (hτ t ti hti).elt heb
              obtain ⟨e', hu2, -⟩ := (hτ tx tj htj).slice hsl2
              obtain ⟨v, w', mem', nx', ρ', hrun, hK, hs', hok', hx'⟩ := appx_sound (ty := type) hτ hu (hτ _ te hte) hby hu2 (Nat.eq_of_beq_eq_true hzl) (by omega) h hs (h2 s (by simp))
              refine wp_value (v := den ρ' v) (w' := w') ?_ ⟨_, _, _, _, hK, hs'.put (d := dst) hd hok', hx', fun _ q => lk_putF q⟩
              simp [execOp, resolve, invoke, builtin, h1', hat, hrun]
            · exact h.elim
          · exact h.elim
        · exact h.elim
      · exact h.elim
    | invoke r m => exact h.elim
    | value x =>
      cases x <;> first | exact h.elim | skip
      rename_i f
      simp only at h
      cases hvs : evs fr args.toList with
      | none => rw [hvs] at h; exact h.elim
      | some vs =>
        cases hct : lk F f with
        | none => rw [hvs, hct] at h; exact h.elim
        | some ct =>
          rw [hvs, hct] at h
          simp only at h
          obtain ⟨h1, h2⟩ := evs_ok hs.fok.left hvs
          have h1' : args.map a.eval = (vs.map (den ρ)).toArray := by apply Array.toList_inj.1; simp [h1]
          obtain ⟨hent, hrun⟩ := hF f ct hct
          cases hfn : P.funcs[f]? with
          | none => rw [hfn] at hent; simp at hent
          | some fn =>
            rw [hfn] at hent
            simp at hent
            have hc := hrun h hs h2
            unfold Oper.wp
            have hx : (execOp a.eval { dst := dst, op := .call { callee := .value (.func f), args := args, argTypes := argTypes }, type := type, pos := pos, after := after, guard := guard }).run P w = .ok (.enter f (vs.map (den ρ)).toArray) w := by
              have hbs : fn.body ≠ none := by intro hb; rw [hb] at hent; simp at hent
              simp [execOp, resolve, Act.eval, Deferred.ofValue, invoke, callFunc, hfn, hent.1, hbs, h1', program, Sem.run]
            rw [hx]
            refine hc.mono fun e w' he => ?_
            obtain ⟨v, mem', nx', ρ', rfl, hK, hs', hv, hx'⟩ := he
            exact ⟨_, _, _, _, hK, hs'.put (d := dst) hd hv, hx', fun _ q => lk_putF q⟩
theorem opx_sound (hτ : TTok P τ) (hF : FTok P F) {o : Oper} (hd : ∀ i, o.dst = some i → i < C.nt) {K : AF → AM → Nat → Prop} (h : opx τ F o fr mem nx K) (hs : Sat C ρ fr mem nx a w) :
    o.wp P a w (fun a' w' => ∃ fr' mem' nx' ρ', K fr' mem' nx' ∧ Sat C ρ' fr' mem' nx' a' w' ∧ ExtS ρ nx ρ' nx' ∧ ∀ d, o.dst ≠ some d → lk fr' d = lk fr d) Q := by
  have h' : (match vx τ fr mem o.op with | some v => putK o.dst v fr fun fr' => K fr' mem nx | none => actx τ F o.dst o.op fr mem nx K) := by cases o; exact h
  cases hv : vx τ fr mem o.op with
  | none => rw [hv] at h'; exact actx_sound hτ hF hd h' hs
  | some v =>
    rw [hv] at h'
    simp only [putK_eq] at h'
    obtain ⟨h1, h2⟩ := vx_run (P := P) hτ hs.fok.left (fun i b hi => hs.blk i b (lk_app hi)) hv
    exact wp_value h1 ⟨_, _, _, _, h', hs.put hd h2, ExtS.refl _ _, fun _ q => lk_putF q⟩
end
end Go.Proofs.Ytjobcfpnmfjlfaa

namespace Go.Proofs.Ytjobcfpnmfjlfaa
open Go.RowKit

/-- The worlds that are as w below block B. -/
def Later (B : Nat) (w : World) : Type := { w' : World // Below B w w' }
def Later.world {B : Nat} {w : World} (x : Later B w) : World := x.1
theorem Later.below {B : Nat} {w : World} (x : Later B w) : Below B w x.world := x.2
theorem Later.cell {B : Nat} {w : World} (x : Later B w) {b o : Nat} (hb : b < B) : x.world.cell? ⟨b, o, none⟩ = w.cell? ⟨b, o, none⟩ := x.below.cell (p := ⟨b, o, none⟩) hb

section
variable {P : Program}
/-- A region that draws its order, whose operations read what lies below B and whose callees leave that alone: one walk in the order of the text. -/
theorem wp_region_below (B : Nat) {id : Nat} {Q : Exit → Act → World → Prop} {a : Act} {w : World} {l : List Oper} (hm : P.follows .mixedOrders = true) (hB : Region.lexB .any l.toArray = true)
    (h : wpQuiet P l.toArray (fun w' => ∃ x : Later B w, w' = x.world) (fun a' => ∀ w', (∃ x : Later B w, w' = x.world) → Q .normal a' w') l a) : (Code.region id l.toArray true).wp P Q a w :=
  wp_region_quiet (C := fun w' => ∃ x : Later B w, w' = x.world) hm hB ⟨⟨w.drew, (Below.refl B w).drew⟩, rfl⟩ (by simpa using h)

/-- A callee that leaves what lies below B alone. -/
theorem quiet_below {B : Nat} {w : World} (x : Later B w) {f : FuncId} {args : Array Value} {v : Value}
    (h : Calls P f args x.world fun e w' => e = .returned v ∧ Below B x.world w') : Calls P f args x.world fun e w'' => e = .returned v ∧ ∃ y : Later B w, w'' = y.world :=
  h.mono fun _ w' ⟨he, hb⟩ => ⟨he, ⟨⟨w', x.below.trans hb⟩, rfl⟩⟩
end
end Go.Proofs.Ytjobcfpnmfjlfaa

namespace Go.Proofs.Ytjobcfpnmfjlfaa
open Go.RowKit
set_option linter.unusedSimpArgs false
set_option linter.unusedVariables false

section
variable {P : Program} {md : Region.Mode} {ops : Array Oper} {Q : Exit → Act → World → Prop}

theorem wpAny_more : ∀ (fuel : Nat) (listed : Array Bool) (a : Act) (w : World), wpAny P md ops Q fuel listed a w → wpAny P md ops Q (fuel + 1) listed a w
  | 0, listed, a, w, h => ⟨fun _ => h.2, fun i hi => by rw [h.1] at hi; cases hi⟩
  | fuel + 1, listed, a, w, h => ⟨h.1, fun i hi => wpOp_mono (fun a' w' h' => wpAny_more fuel _ a' w' h') (h.2 i hi)⟩
theorem wpAny_much (listed : Array Bool) (a : Act) (w : World) (m : Nat) (h : wpAny P md ops Q m listed a w) : ∀ fuel, wpAny P md ops Q (fuel + m) listed a w
  | 0 => by simpa using h
  | fuel + 1 => by
    have := wpAny_more _ _ _ _ (wpAny_much listed a w m h fuel)
    rwa [show fuel + m + 1 = fuel + 1 + m by omega] at this

/-- Operation j waits for operation i. -/
def reachB (md : Region.Mode) (ops : Array Oper) : Nat → Nat → Nat → Bool
  | 0, _, _ => false
  | n + 1, j, i => match ops[j]? with
    | none => false
    | some o => o.after.any fun e => Region.binds md e && (e.on == i || reachB md ops n e.on i)

/-- Whoever has come up had all that it waits for come up before. -/
def Dn (md : Region.Mode) (ops : Array Oper) (listed : Array Bool) : Prop :=
  ∀ (j : Nat) (o : Oper), ops[j]? = some o → listed.getD j false = true → ∀ e ∈ o.after, Region.binds md e = true → listed.getD e.on false = true

theorem reach_listed {listed : Array Bool} (hd : Dn md ops listed) : ∀ (n j i : Nat), (∀ o, ops[j]? = some o → ∀ e ∈ o.after, Region.binds md e = true → listed.getD e.on false = true) → reachB md ops n j i = true → listed.getD i false = true
  | 0, j, i, hp, h => by simp [reachB] at h
  | n + 1, j, i, hp, h => by
    unfold reachB at h
    cases ho : ops[j]? with
    | none => simp [ho] at h
    | some o =>
      simp only [ho, Array.any_eq_true] at h
      obtain ⟨x, hx, he⟩ := h
      have hm : o.after[x] ∈ o.after := Array.getElem_mem hx
      simp only [Bool.and_eq_true, Bool.or_eq_true, beq_iff_eq] at he
      have hl := hp o ho _ hm he.1
      rcases he.2 with h1 | h1
      · rwa [h1] at hl
      · exact reach_listed hd n _ i (fun o' ho' e' he' hb' => hd _ o' ho' hl e' he' hb') h1

theorem getD_set_mono {listed : Array Bool} {i x : Nat} (h : listed.getD x false = true) : (listed.setIfInBounds i true).getD x false = true := by
  by_cases hx : i = x
  · subst hx
    have hlt : i < listed.size := by
      rcases Nat.lt_or_ge i listed.size with h' | h'
      · exact h'
      · simp [Array.getD, Nat.not_lt.2 h'] at h
    simp [Array.getD, hlt]
  · rwa [getD_set_ne false hx]

theorem Dn.set_ {listed : Array Bool} (hd : Dn md ops listed) {i : Nat} (hi : i ∈ Region.ready md ops listed) : Dn md ops (listed.setIfInBounds i true) := by
  obtain ⟨hun, oi, hoi, hall⟩ := mem_ready.1 hi
  intro j o ho hl e he hb
  refine getD_set_mono ?_
  by_cases hji : i = j
  · subst hji
    rw [hoi] at ho
    cases ho
    exact hall e he hb
  · rw [getD_set_ne false hji] at hl
    exact hd j o ho hl e he hb

/-- What holds behind the head. -/
def thenK (K : Act → World → Prop) (Q : Exit → Act → World → Prop) : Exit → Act → World → Prop
  | .normal, a, w => K a w
  | e, a, w => Q e a w

theorem upon_thenK {o : Oper} {a : Act} {K1 : Act → World → Prop} {K : Act → World → Prop} {r : Result Next} (h : o.upon P a K1 (thenK K Q) r) : o.upon P a K1 Q r := by
  cases r with
  | ok n w' =>
    cases n <;> simp only [Oper.upon] at h ⊢ <;> exact h
  | halt x w' => cases x <;> simp only [Oper.upon] at h ⊢ <;> exact h

theorem wpOp_head {head : Array Oper} {k i : Nat} {K K1 K2 : Act → World → Prop} {a : Act} {w : World} (hh : ∀ i, i < k → head[i]? = ops[i]?) (hg : ∀ i o g b, i < k → ops[i]? = some o → o.guard = some (g, b) → g < k) (hi : i < k)
    (h : wpOp P head (thenK K Q) i K1 a w) (hK : ∀ a w, K1 a w → K2 a w) : wpOp P ops Q i K2 a w := by
  refine wpOp_mono hK ?_
  unfold wpOp at *
  rw [hh i hi] at h
  cases ho : ops[i]? with
  | none => simp only [ho] at h ⊢; exact h
  | some o =>
    simp only [ho] at h ⊢
    have hw : Region.wanted o (yielded head a.tmps) = Region.wanted o (yielded ops a.tmps) := by
      unfold Region.wanted
      cases hgu : o.guard with
      | none => rfl
      | some gb =>
        obtain ⟨g, b⟩ := gb
        have : yielded head a.tmps g = yielded ops a.tmps g := by
          unfold yielded
          rw [hh g (hg i o g b hi ho hgu)]
        simp only [this]
    rw [hw] at h
    split
    · rename_i hwt
      simp only [hwt, if_true] at h
      exact h.imp upon_thenK id
    · rename_i hwt
      simp only [hwt] at h
      exact h

theorem extract_getD {listed : Array Bool} {k i : Nat} (d : Bool) (hi : i < k) (hk : k ≤ listed.size) : (listed.extract 0 k).getD i d = listed.getD i d := by
  have h1 : i < listed.size := by omega
  have h2 : i < (listed.extract 0 k).size := by simp; omega
  have h3 : i < min k listed.size := by omega
  simp [Array.getD, h1, h3]

theorem extract_set {listed : Array Bool} {k i : Nat} (hi : i < k) (hk : k ≤ listed.size) : (listed.setIfInBounds i true).extract 0 k = (listed.extract 0 k).setIfInBounds i true := by
  apply Array.ext
  · simp
  · intro j h1 h2
    have h3 : j < listed.size := by simp at h1; omega
    have h4 : j < (listed.extract 0 k).size := by simpa using h2
    rw [Array.getElem_extract, Array.getElem_setIfInBounds, Array.getElem_setIfInBounds]
    · have e : (listed.extract 0 k)[j]'h4 = listed[j] := by
        rw [Array.getElem_extract]
        congr 1
        omega
      rw [e]
      simp
    · exact h4
    · simpa using h3

/-- **A REGION WHOSE OPERATIONS FROM k ON ALL WAIT FOR ALL OF THE FIRST k:** the first k, in whatever order, then the others. -/
theorem wpAny_split {head : Array Oper} {k m n : Nat} {K : Act → World → Prop} (hh : ∀ i, i < k → head[i]? = ops[i]?) (hhs : head.size = k) (hkn : k ≤ n) (hn : ops.size = n)
    (hg : ∀ i o g b, i < k → ops[i]? = some o → o.guard = some (g, b) → g < k)
    (hord : ∀ i o, i < k → ops[i]? = some o → ∀ e ∈ o.after, Region.binds md e = true → e.on < i)
    (hreach : ∀ j, k ≤ j → j < n → ∀ i, i < k → reachB md ops n j i = true)
    (hK : ∀ a w, K a w → wpAny P md ops Q m (Array.replicate k true ++ Array.replicate (n - k) false) a w) :
    ∀ (fuel : Nat) (listed : Array Bool) (a : Act) (w : World), listed.size = n → Dn md ops listed → (∀ j, k ≤ j → listed.getD j false = false) →
      wpAny P md head (thenK K Q) fuel (listed.extract 0 k) a w → wpAny P md ops Q (fuel + m) listed a w := by
  have hready : ∀ (listed : Array Bool), listed.size = n → ∀ i, i < k → (i ∈ Region.ready md head (listed.extract 0 k) ↔ i ∈ Region.ready md ops listed) := by
    intro listed hs i hi
    rw [mem_ready, mem_ready, hh i hi, extract_getD true hi (by omega)]
    constructor
    · rintro ⟨h1, o, ho, h2⟩
      refine ⟨h1, o, ho, fun e he hb => ?_⟩
      have := h2 e he hb
      rwa [extract_getD false (by have := hord i o hi ho e he hb; omega) (by omega)] at this
    · rintro ⟨h1, o, ho, h2⟩
      refine ⟨h1, o, ho, fun e he hb => ?_⟩
      rw [extract_getD false (by have := hord i o hi ho e he hb; omega) (by omega)]
      exact h2 e he hb
  have hleast : ∀ (listed : Array Bool), listed.size = n → ∀ i, i < k → listed.getD i false = false → ∃ i', i' < k ∧ i' ∈ Region.ready md ops listed := by
    intro listed hs i
    induction i using Nat.strongRecOn with
    | _ i ih =>
      intro hi hu
      have hio : ∃ o, ops[i]? = some o := ⟨_, Array.getElem?_eq_getElem (by omega)⟩
      obtain ⟨o, ho⟩ := hio
      by_cases hall : ∀ e ∈ o.after, Region.binds md e = true → listed.getD e.on false = true
      · refine ⟨i, hi, mem_ready.2 ⟨?_, o, ho, hall⟩⟩
        have : i < listed.size := by omega
        simpa [Array.getD, this] using hu
      · have hex : ∃ e, e ∈ o.after ∧ Region.binds md e = true ∧ listed.getD e.on false = false := by
          refine Classical.byContradiction fun hno => hall fun e he hb => ?_
          refine Classical.byContradiction fun hl => hno ⟨e, he, hb, by simpa using hl⟩
        obtain ⟨e, he, hb, hl⟩ := hex
        have hlt := hord i o hi ho e he hb
        exact ih e.on hlt (by omega) hl
  intro fuel
  induction fuel with
  | zero =>
    intro listed a w hs hd ht h
    have hall : ∀ i, i < k → listed.getD i false = true := by
      intro i hi
      refine Classical.byContradiction fun hu => ?_
      obtain ⟨i', hi', hr⟩ := hleast listed hs i hi (by simpa using hu)
      have := (hready listed hs i' hi').2 hr
      rw [h.1] at this
      cases this
    have hL : listed = Array.replicate k true ++ Array.replicate (n - k) false := by
      apply Array.ext
      · simp; omega
      · intro j h1 h2
        by_cases hj : j < k
        · have := hall j hj
          rw [Array.getElem_append_left (by simpa using hj)]
          simpa [Array.getD, h1] using this
        · have := ht j (by omega)
          rw [Array.getElem_append_right (by simp; omega)]
          simpa [Array.getD, h1] using this
    rw [hL, Nat.zero_add]
    exact hK _ _ h.2
  | succ f ih =>
    intro listed a w hs hd ht h
    by_cases hall : ∀ i, i < k → listed.getD i false = true
    · have hL : listed = Array.replicate k true ++ Array.replicate (n - k) false := by
        apply Array.ext
        · simp; omega
        · intro j h1 h2
          by_cases hj : j < k
          · have := hall j hj
            rw [Array.getElem_append_left (by simpa using hj)]
            simpa [Array.getD, h1] using this
          · have := ht j (by omega)
            rw [Array.getElem_append_right (by simp; omega)]
            simpa [Array.getD, h1] using this
      have hr : Region.ready md head (listed.extract 0 k) = [] := by
        refine List.eq_nil_iff_forall_not_mem.2 fun i hi => ?_
        obtain ⟨hu, o, ho, _⟩ := mem_ready.1 hi
        have hik : i < k := by
          rw [← hhs]
          exact (Array.getElem?_eq_some_iff.1 ho).1
        rw [extract_getD true hik (by omega)] at hu
        have := hall i hik
        have hlt : i < listed.size := by omega
        simp [Array.getD, hlt] at this hu
        rw [this] at hu
        cases hu
      have hk := h.1 hr
      rw [hL]
      exact wpAny_much _ _ _ m (hK _ _ hk) (f + 1)
    · have hex : ∃ i, i < k ∧ listed.getD i false = false := by
        refine Classical.byContradiction fun hno => hall fun i hi => ?_
        refine Classical.byContradiction fun hl => hno ⟨i, hi, by simpa using hl⟩
      obtain ⟨i0, hi0, hu0⟩ := hex
      obtain ⟨i1, hi1, hr1⟩ := hleast listed hs i0 hi0 hu0
      rw [show f + 1 + m = f + m + 1 by omega]
      refine ⟨fun h0 => (by rw [h0] at hr1; cases hr1), fun i hi => ?_⟩
      obtain ⟨hu, o, ho, hp⟩ := mem_ready.1 hi
      have hin : i < n := by rw [← hn]; exact (Array.getElem?_eq_some_iff.1 ho).1
      have hik : i < k := by
        rcases Nat.lt_or_ge i k with h' | h'
        · exact h'
        · have := reach_listed hd n i i0 (fun o' ho' e he hb => by rw [ho] at ho'; cases ho'; exact hp e he hb) (hreach i h' hin i0 hi0)
          rw [hu0] at this
          cases this
      have h1 := h.2 i ((hready listed hs i hik).2 hi)
      refine wpOp_head hh hg hik h1 fun a' w' h' => ?_
      refine ih (listed.setIfInBounds i true) a' w' (by simpa using hs) (hd.set_ hi) ?_ ?_
      · intro j hj
        rw [getD_set_ne false (by omega)]
        exact ht j hj
      · rw [extract_set hik (by omega)]
        exact h'

/-- The closed facts of a region that splits at k, whose second part is walked in the order of the text. -/
def splitB (l : List Oper) (k : Nat) : Bool :=
  decide (k ≤ l.length) &&
  ((List.range k).all fun i => match l[i]? with
    | none => true
    | some o => (o.after.all fun e => !Region.binds .any e || decide (e.on < i)) && (match o.guard with | none => true | some (g, _) => decide (g < k))) &&
  ((List.range l.length).all fun j => decide (j < k) || (List.range k).all fun i => reachB .any l.toArray l.length j i) &&
  Region.noSelect l.toArray && Region.lexFrom .any l.toArray (l.drop k).length k (Array.replicate k true ++ Array.replicate (l.length - k) false)

theorem wp_region_split {l : List Oper} {id : Nat} {a : Act} {w : World} (k : Nat) (hm : P.follows .mixedOrders = true) (hB : splitB l k = true)
    (h : wpAny P .any (l.take k).toArray (thenK (fun a w => ∃ C : World → Prop, C w ∧ wpQuiet P l.toArray C (fun a' => ∀ w', C w' → Q .normal a' w') (l.drop k) a) Q) k (Array.replicate k false) a { w with drawn := w.drawn + 1 }) :
    (Code.region id l.toArray true).wp P Q a w := by
  simp only [splitB, Bool.and_eq_true, List.all_eq_true, decide_eq_true_eq, List.mem_range, Bool.or_eq_true] at hB
  obtain ⟨⟨⟨⟨hk, h1⟩, h2⟩, h3⟩, h4⟩ := hB
  have hops : ∀ i : Nat, l.toArray[i]? = l[i]? := fun i => List.getElem?_toArray
  refine wp_region_any hm ?_
  have key := wpAny_split (P := P) (md := .any) (ops := l.toArray) (Q := Q) (head := (l.take k).toArray) (k := k) (m := l.length - k) (n := l.length)
    (K := fun a w => ∃ C : World → Prop, C w ∧ wpQuiet P l.toArray C (fun a' => ∀ w', C w' → Q .normal a' w') (l.drop k) a)
    (fun i hi => by simp [List.getElem?_take, hi]) (by simp; omega) hk (by simp)
    (fun i o g b hi ho hgu => by
      have := h1 i hi
      rw [← hops, ho] at this
      simp only [hgu, Bool.and_eq_true, decide_eq_true_eq] at this
      exact this.2)
    (fun i o hi ho e he hb => by
      have := h1 i hi
      rw [← hops, ho] at this
      simp only [Bool.and_eq_true, Array.all_eq_true_iff_forall_mem] at this
      have h5 := this.1 e he
      simpa [hb] using h5)
    (fun j hj hjn i hi => (h2 j hjn).resolve_left (by omega) i hi)
    (fun a w ⟨C, hC, hq⟩ => by
      refine wpAny_of_quiet (Q := fun a' => ∀ w', C w' → Q .normal a' w') (fun _ w' hw' h => h w' hw') _ _ _ _ hC ?_
      have := wpAnyQ_lex (P := P) (C := C) (md := .any) h3 (l.drop k) k (Array.replicate k true ++ Array.replicate (l.length - k) false) a (fun j => by simp [List.getElem?_drop]) h4 hq
      simpa using this)
    k (Array.replicate l.length false) a { w with drawn := w.drawn + 1 } (by simp) (fun j o ho hl => by simp [Array.getD] at hl) (fun j hj => by simp [Array.getD]) (by
      have e : (Array.replicate l.length false).extract 0 k = Array.replicate k false := by
        apply Array.ext
        · simp; omega
        · intro j h1 h2; simp
      rw [e]
      exact h)
  have e2 : k + (l.length - k) = l.toArray.size := by simp; omega
  rw [e2] at key
  simpa using key
end
end Go.Proofs.Ytjobcfpnmfjlfaa

namespace Go.Proofs.Ytjobcfpnmfjlfaa
open Go.RowKit
set_option linter.unusedSimpArgs false
set_option linter.unusedVariables false

section
variable {P : Program} {Q : Exit → Act → World → Prop}
def lastB (l : List Oper) (k : Nat) : Bool :=
  decide (k ≤ l.length) &&
  ((List.range k).all fun i => match l[i]? with
    | none => true
    | some o => (o.after.all fun e => !Region.binds .any e || decide (e.on < i)) && (match o.guard with | none => true | some (g, _) => decide (g < k))) &&
  ((List.range l.length).all fun j => decide (j < k) || (List.range k).all fun i => reachB .any l.toArray l.length j i) &&
  Region.seqB .any l.toArray (l.drop k).length k (Array.replicate k true ++ Array.replicate (l.length - k) false)

/-- A region that draws its order, whose last operations wait for all the others. -/
theorem wp_region_last {l : List Oper} {id : Nat} {a : Act} {w : World} (k : Nat) (hm : P.follows .mixedOrders = true) (hB : lastB l k = true)
    (h : wpAny P .any (l.take k).toArray (thenK (fun a w => wpList P l.toArray Q (l.drop k) a w) Q) k (Array.replicate k false) a { w with drawn := w.drawn + 1 }) :
    (Code.region id l.toArray true).wp P Q a w := by
  simp only [lastB, Bool.and_eq_true, List.all_eq_true, decide_eq_true_eq, List.mem_range, Bool.or_eq_true] at hB
  obtain ⟨⟨⟨hk, h1⟩, h2⟩, h4⟩ := hB
  have hops : ∀ i : Nat, l.toArray[i]? = l[i]? := fun i => List.getElem?_toArray
  refine wp_region_any hm ?_
  have key := wpAny_split (P := P) (md := .any) (ops := l.toArray) (Q := Q) (head := (l.take k).toArray) (k := k) (m := l.length - k) (n := l.length)
    (K := fun a w => wpList P l.toArray Q (l.drop k) a w)
    (fun i hi => by simp [List.getElem?_take, hi]) (by simp; omega) hk (by simp)
    (fun i o g b hi ho hgu => by
      have := h1 i hi
      rw [← hops, ho] at this
      simp only [hgu, Bool.and_eq_true, decide_eq_true_eq] at this
      exact this.2)
    (fun i o hi ho e he hb => by
      have := h1 i hi
      rw [← hops, ho] at this
      simp only [Bool.and_eq_true, Array.all_eq_true_iff_forall_mem] at this
      have h5 := this.1 e he
      simpa [hb] using h5)
    (fun j hj hjn i hi => (h2 j hjn).resolve_left (by omega) i hi)
    (fun a w hq => by
      have := wpAny_of_seq (md := .any) (ops := l.toArray) (Q' := Q) (l.drop k) k (Array.replicate k true ++ Array.replicate (l.length - k) false) a w (fun j => by simp [List.getElem?_drop]) h4 hq
      simpa using this)
    k (Array.replicate l.length false) a { w with drawn := w.drawn + 1 } (by simp) (fun j o ho hl => by simp [Array.getD] at hl) (fun j hj => by simp [Array.getD]) (by
      have e : (Array.replicate l.length false).extract 0 k = Array.replicate k false := by
        apply Array.ext
        · simp; omega
        · intro j h1 h2; simp
      rw [e]
      exact h)
  have e2 : k + (l.length - k) = l.toArray.size := by simp; omega
  rw [e2] at key
  simpa using key

theorem wpOp_act {ops : Array Oper} {i : Nat} {o : Oper} {K : Act → World → Prop} {a : Act} {w : World} (ho : ops[i]? = some o) (hg : o.guard = none) (h : o.wp P a w K Q) : wpOp P ops Q i K a w := by
  unfold wpOp
  simp only [ho]
  rw [if_pos (by simp [Region.wanted, hg])]
  exact .inl h
theorem wpOp_actG {ops : Array Oper} {i : Nat} {o : Oper} {K : Act → World → Prop} {a : Act} {w : World} (ho : ops[i]? = some o) (hg : Region.wanted o (yielded ops a.tmps) = true) (h : o.wp P a w K Q) : wpOp P ops Q i K a w := by
  unfold wpOp
  simp only [ho]
  rw [if_pos hg]
  exact .inl h

/-- The operations in one order: a fixed one (false) yields its value in every world that meets S; one that acts (true) is carried out where it stands, and S holds behind it. -/
def wpSeqH (P : Program) (ops : Array Oper) (Q : Exit → Act → World → Prop) (S : World → Prop) : List (Nat × Bool) → Act → World → Prop
  | [], a, w => Q .normal a w
  | (i, false) :: r, a, w => ∃ (o : Oper) (v : Value), ops[i]? = some o ∧ (∀ c a w, Q (.panic c) (a.put o.dst v) w → Q (.panic c) a w) ∧ YieldsIf P ops S o v a ∧ wpSeqH P ops Q S r (a.put o.dst v) w
  | (i, true) :: r, a, w => wpOp P ops Q i (fun a' w' => S w' ∧ wpSeqH P ops Q S r a' w') a w
def seqHB (ops : Array Oper) : List (Nat × Bool) → Array Bool → Bool
  | [], listed => (Region.ready .any ops listed).isEmpty
  | (i, false) :: r, listed => Region.free .any ops listed i && (Region.ready .any ops listed).contains i && seqHB ops r (listed.setIfInBounds i true)
  | (i, true) :: r, listed => decide (Region.ready .any ops listed = [i]) && seqHB ops r (listed.setIfInBounds i true)

theorem wpAnyH_of_seq {ops : Array Oper} {S : World → Prop} (hs : Region.noSelect ops = true) : ∀ (σ : List (Nat × Bool)) (listed : Array Bool) (a : Act) (w : World), seqHB ops σ listed = true → S w →
    wpSeqH P ops Q S σ a w → wpAnyH P .any ops Q S σ.length listed a w
  | [], listed, a, w, hB, hS, h => wpAnyH_done (by simpa [seqHB] using hB) h _
  | (i, false) :: r, listed, a, w, hB, hS, h => by
    simp only [seqHB, Bool.and_eq_true] at hB
    obtain ⟨⟨h1, h2⟩, h3⟩ := hB
    obtain ⟨o, v, ho, hQ, hy, hr⟩ := h
    exact wpAnyH_take ho hs h1 h2 hQ hy hS (wpAnyH_of_seq hs r _ _ _ h3 hS hr)
  | (i, true) :: r, listed, a, w, hB, hS, h => by
    simp only [seqHB, Bool.and_eq_true, decide_eq_true_eq] at hB
    refine wpAnyH_all hB.1 (by simp) fun j hj => ?_
    obtain rfl : j = i := by simpa using hj
    exact wpOp_mono (fun a' w' ⟨hS', h'⟩ => ⟨hS', wpAnyH_of_seq hs r _ _ _ hB.2 hS' h'⟩) h

def regSeqB (l : List Oper) (k : Nat) (σ : List (Nat × Bool)) : Bool :=
  lastB l k && Region.noSelect (l.take k).toArray && decide (σ.length = k) && seqHB (l.take k).toArray σ (Array.replicate k false)

/-- A region that draws its order: its first k operations in the order σ, then the others as they stand. -/
theorem wp_region_seq {l : List Oper} {id : Nat} {a : Act} {w : World} (S : World → Prop) (k : Nat) (σ : List (Nat × Bool)) (hm : P.follows .mixedOrders = true) (hB : regSeqB l k σ = true) (hS : S w.drew)
    (h : wpSeqH P (l.take k).toArray (thenK (fun a w => wpList P l.toArray Q (l.drop k) a w) Q) S σ a w.drew) : (Code.region id l.toArray true).wp P Q a w := by
  simp only [regSeqB, Bool.and_eq_true, decide_eq_true_eq] at hB
  obtain ⟨⟨⟨h1, h2⟩, h3⟩, h4⟩ := hB
  refine wp_region_last k hm h1 (wpAny_of_held (S := S) _ _ _ _ ?_)
  have := wpAnyH_of_seq h2 σ _ a w.drew h4 hS h
  rw [h3] at this
  exact this

/-- The same beside an operation j that waits for nothing (a new variable) and may come up at any time. -/
def wpSeqA (P : Program) (ops : Array Oper) (Q : Exit → Act → World → Prop) (S : World → Prop) (j : Nat) : List (Nat × Bool) → Act → World → Prop
  | [], a, w => wpOp P ops Q j (fun a' w' => S w' ∧ Q .normal a' w') a w
  | (i, false) :: r, a, w => ∃ (o : Oper) (v : Value), ops[i]? = some o ∧ (∀ c a w, Q (.panic c) (a.put o.dst v) w → Q (.panic c) a w) ∧ YieldsIf P ops S o v a ∧ wpSeqA P ops Q S j r (a.put o.dst v) w
  | (i, true) :: r, a, w => wpOp P ops Q i (fun a' w' => S w' ∧ wpSeqA P ops Q S j r a' w') a w ∧ wpOp P ops Q j (fun a' w' => S w' ∧ wpSeqH P ops Q S ((i, true) :: r) a' w') a w
def seqAB (ops : Array Oper) (j : Nat) : List (Nat × Bool) → Array Bool → Bool
  | [], listed => decide (Region.ready .any ops listed = [j]) && (Region.ready .any ops (listed.setIfInBounds j true)).isEmpty
  | (i, false) :: r, listed => Region.free .any ops listed i && (Region.ready .any ops listed).contains i && seqAB ops j r (listed.setIfInBounds i true)
  | (i, true) :: r, listed => decide (Region.ready .any ops listed = [i, j]) && seqAB ops j r (listed.setIfInBounds i true) && seqHB ops ((i, true) :: r) (listed.setIfInBounds j true)
theorem wpAnyH_of_seqA {ops : Array Oper} {S : World → Prop} {j : Nat} (hs : Region.noSelect ops = true) : ∀ (σ : List (Nat × Bool)) (listed : Array Bool) (a : Act) (w : World), seqAB ops j σ listed = true → S w →
    wpSeqA P ops Q S j σ a w → wpAnyH P .any ops Q S (σ.length + 1) listed a w
  | [], listed, a, w, hB, hS, h => by
    simp only [seqAB, Bool.and_eq_true, decide_eq_true_eq, List.isEmpty_iff] at hB
    refine wpAnyH_all hB.1 (by simp) fun i hi => ?_
    obtain rfl : i = j := by simpa using hi
    exact wpOp_mono (fun a' w' ⟨hS', h'⟩ => ⟨hS', wpAnyH_done hB.2 h' _⟩) h
  | (i, false) :: r, listed, a, w, hB, hS, h => by
    simp only [seqAB, Bool.and_eq_true] at hB
    obtain ⟨⟨h1, h2⟩, h3⟩ := hB
    obtain ⟨o, v, ho, hQ, hy, hr⟩ := h
    exact wpAnyH_take ho hs h1 h2 hQ hy hS (wpAnyH_of_seqA hs r _ _ _ h3 hS hr)
  | (i, true) :: r, listed, a, w, hB, hS, h => by
    simp only [seqAB, Bool.and_eq_true, decide_eq_true_eq] at hB
    refine wpAnyH_all hB.1.1 (by simp) fun k hk => ?_
    rcases List.mem_cons.1 hk with rfl | hk
    · exact wpOp_mono (fun a' w' ⟨hS', h'⟩ => ⟨hS', wpAnyH_of_seqA hs r _ _ _ hB.1.2 hS' h'⟩) h.1
    · obtain rfl : k = j := by simpa using hk
      exact wpOp_mono (fun a' w' ⟨hS', h'⟩ => ⟨hS', wpAnyH_of_seq hs ((i, true) :: r) _ _ _ hB.2 hS' h'⟩) h.2
def regSeqAB (l : List Oper) (k j : Nat) (σ : List (Nat × Bool)) : Bool :=
  lastB l k && Region.noSelect (l.take k).toArray && decide (σ.length + 1 = k) && seqAB (l.take k).toArray j σ (Array.replicate k false)
theorem wp_region_seqA {l : List Oper} {id : Nat} {a : Act} {w : World} (S : World → Prop) (k j : Nat) (σ : List (Nat × Bool)) (hm : P.follows .mixedOrders = true) (hB : regSeqAB l k j σ = true) (hS : S w.drew)
    (h : wpSeqA P (l.take k).toArray (thenK (fun a w => wpList P l.toArray Q (l.drop k) a w) Q) S j σ a w.drew) : (Code.region id l.toArray true).wp P Q a w := by
  simp only [regSeqAB, Bool.and_eq_true, decide_eq_true_eq] at hB
  obtain ⟨⟨⟨h1, h2⟩, h3⟩, h4⟩ := hB
  refine wp_region_last k hm h1 (wpAny_of_held (S := S) _ _ _ _ ?_)
  have := wpAnyH_of_seqA h2 σ _ a w.drew h4 hS h
  rw [h3] at this
  exact this
theorem wpSeqA_fix {ops : Array Oper} {S : World → Prop} {i j : Nat} {r : List (Nat × Bool)} {a : Act} {w : World} (o : Oper) (v : Value) (ho : ops[i]? = some o) (hQ : ∀ c a w, Q (.panic c) (a.put o.dst v) w → Q (.panic c) a w)
    (hy : YieldsIf P ops S o v a) (h : wpSeqA P ops Q S j r (a.put o.dst v) w) : wpSeqA P ops Q S j ((i, false) :: r) a w := ⟨o, v, ho, hQ, hy, h⟩
theorem wpSeqA_act {ops : Array Oper} {S : World → Prop} {i j : Nat} {r : List (Nat × Bool)} {a : Act} {w : World} {o oj : Oper} (ho : ops[i]? = some o) (hg : o.guard = none) (hoj : ops[j]? = some oj) (hgj : oj.guard = none)
    (h : o.wp P a w (fun a' w' => S w' ∧ wpSeqA P ops Q S j r a' w') Q) (h2 : oj.wp P a w (fun a' w' => S w' ∧ wpSeqH P ops Q S ((i, true) :: r) a' w') Q) : wpSeqA P ops Q S j ((i, true) :: r) a w := ⟨wpOp_act ho hg h, wpOp_act hoj hgj h2⟩
theorem wpSeqA_end {ops : Array Oper} {S : World → Prop} {j : Nat} {a : Act} {w : World} {oj : Oper} (hoj : ops[j]? = some oj) (hgj : oj.guard = none) (h : oj.wp P a w (fun a' w' => S w' ∧ Q .normal a' w') Q) : wpSeqA P ops Q S j [] a w := wpOp_act hoj hgj h

theorem wpSeqH_fix {ops : Array Oper} {S : World → Prop} {i : Nat} {r : List (Nat × Bool)} {a : Act} {w : World} (o : Oper) (v : Value) (ho : ops[i]? = some o) (hQ : ∀ c a w, Q (.panic c) (a.put o.dst v) w → Q (.panic c) a w)
    (hy : YieldsIf P ops S o v a) (h : wpSeqH P ops Q S r (a.put o.dst v) w) : wpSeqH P ops Q S ((i, false) :: r) a w := ⟨o, v, ho, hQ, hy, h⟩
theorem wpSeqH_act {ops : Array Oper} {S : World → Prop} {i : Nat} {r : List (Nat × Bool)} {a : Act} {w : World} {o : Oper} (ho : ops[i]? = some o) (hg : o.guard = none)
    (h : o.wp P a w (fun a' w' => S w' ∧ wpSeqH P ops Q S r a' w') Q) : wpSeqH P ops Q S ((i, true) :: r) a w := wpOp_act ho hg h
theorem wpSeqH_end {ops : Array Oper} {S : World → Prop} {a : Act} {w : World} (h : Q .normal a w) : wpSeqH P ops Q S [] a w := h
end
end Go.Proofs.Ytjobcfpnmfjlfaa

namespace Go.Proofs.Ytjobcfpnmfjlfaa
open Go.RowKit
set_option linter.unusedSimpArgs false
set_option linter.unusedVariables false

/-! Lists of operations. -/
def dstOf (ops : Array Oper) (j : Nat) : Option Nat := match ops[j]? with | some o => o.dst | none => none
/-- The guard of an operation: is it carried out? A condition is decided once; G: those that are. -/
def gdx (ops : Array Oper) (G : List Nat) (guard : Option (Nat × Bool)) (fr : AF) (go : Bool → List Nat → AF → Prop) : Prop :=
  match guard with
  | none => go true G fr
  | some (j, want) => (match dstOf ops j with
    | none => False
    | some d => (match lk fr d with
      | some (.bool t) => (match G.contains j with
        | true => (match t with | true => go want G fr | false => go (!want) G fr)
        | false => (t = true → go want (j :: G) ((d, .bool true) :: fr)) ∧ (t = false → go (!want) (j :: G) ((d, .bool false) :: fr)))
      | some (.tuple _) => go false G fr
      | _ => False))
def opsx (τ : TT) (F : FT) (ops : Array Oper) (l : List Oper) : List Nat → AF → AM → Nat → (AF → AM → Nat → Prop) → Prop :=
  List.rec (motive := fun _ => List Nat → AF → AM → Nat → (AF → AM → Nat → Prop) → Prop) (fun _ fr mem nx K => K fr mem nx)
    (fun o _ ih G fr mem nx K => gdx ops G o.guard fr (fun b G' fr' => match b with
      | true => opx τ F o fr' mem nx (fun fr2 mem2 nx2 => ih G' fr2 mem2 nx2 K)
      | false => putK o.dst (.tuple #[]) fr' fun fr2 => ih G' fr2 mem nx K)) l
theorem opsx_cons (τ : TT) (F : FT) (ops : Array Oper) (o : Oper) (l : List Oper) (G : List Nat) (fr : AF) (mem : AM) (nx : Nat) (K : AF → AM → Nat → Prop) : opsx τ F ops (o :: l) G fr mem nx K = gdx ops G o.guard fr (fun b G' fr' => match b with
    | true => opx τ F o fr' mem nx (fun fr2 mem2 nx2 => opsx τ F ops l G' fr2 mem2 nx2 K)
    | false => putK o.dst (.tuple #[]) fr' fun fr2 => opsx τ F ops l G' fr2 mem nx K) := rfl

section
variable {P : Program} {τ : TT} {F : FT} {C : Ctx} {ρ : Nat → Pl} {fr : AF} {mem : AM} {nx : Nat} {a : Act} {w : World} {Q : Exit → Act → World → Prop}
theorem yielded_of {ops : Array Oper} {j d : Nat} {t : Bool} (hd : dstOf ops j = some d) (ht : a.tmps[d]? = some (.bool t)) : yielded ops a.tmps j = some t := by
  unfold dstOf at hd
  unfold yielded
  cases ho : ops[j]? with
  | none => rw [ho] at hd; cases hd
  | some o => rw [ho] at hd; simp only at hd; simp [hd, ht]
theorem gdx_sound {ops : Array Oper} {G : List Nat} {o : Oper} {go : Bool → List Nat → AF → Prop} (h : gdx ops G o.guard fr go) (hf : FrOk ρ (fr ++ C.ff) nx a) :
    ∃ b G' fr', go b G' fr' ∧ Region.wanted o (yielded ops a.tmps) = b ∧ FrOk ρ (fr' ++ C.ff) nx a ∧ ∀ d, lk fr d = none → lk fr' d = none := by
  unfold gdx at h
  cases hg : o.guard with
  | none => rw [hg] at h; exact ⟨true, G, fr, h, by simp [Region.wanted, hg], hf, fun _ h => h⟩
  | some jw =>
    obtain ⟨j, want⟩ := jw
    rw [hg] at h
    simp only at h
    cases hd : dstOf ops j with
    | none => rw [hd] at h; exact h.elim
    | some d =>
      rw [hd] at h
      simp only at h
      cases hv : lk fr d with
      | none => rw [hv] at h; exact h.elim
      | some v =>
        rw [hv] at h
        cases v <;> simp only at h <;> first | exact h.elim | skip
        case tuple vs =>
          refine ⟨false, G, fr, h, ?_, hf, fun _ h => h⟩
          have ht : a.tmps[d]? = some (.tuple (vs.map (den2 ρ))) := hf.frm d _ (lk_app hv)
          have hy : yielded ops a.tmps j = none := by
            unfold dstOf at hd
            unfold yielded
            cases ho : ops[j]? with
            | none => rw [ho] at hd; cases hd
            | some o' => rw [ho] at hd; simp only at hd; simp [hd, ht]
          simp [Region.wanted, hg, hy]
        rename_i t
        have ht : a.tmps[d]? = some (.bool t) := hf.frm d _ (lk_app hv)
        have hy := yielded_of hd ht
        have hw : ∀ b : Bool, t = b → Region.wanted o (yielded ops a.tmps) = (b == want) := by
          rintro b rfl
          simp [Region.wanted, hg, hy]
        have hput : ∀ b : Bool, t = b → FrOk ρ (((d, .bool b) :: fr) ++ C.ff) nx a ∧ ∀ e, lk fr e = none → lk ((d, Value.bool b) :: fr) e = none := by
          rintro b rfl
          refine ⟨⟨fun u x hx => ?_, fun u x hx => ?_⟩, fun e he => ?_⟩
          · rcases lk_cons (l := fr ++ C.ff) hx with ⟨rfl, rfl⟩ | ⟨_, hx⟩
            · exact ht
            · exact hf.frm u x hx
          · rcases lk_cons (l := fr ++ C.ff) hx with ⟨rfl, rfl⟩ | ⟨_, hx⟩
            · trivial
            · exact hf.frk u x hx
          · rw [lk_ne _ _ (by rintro rfl; rw [hv] at he; cases he)]
            exact he
        cases hG : G.contains j with
        | true =>
          rw [hG] at h
          cases t with
          | true => exact ⟨want, G, fr, h, by rw [hw true rfl]; cases want <;> rfl, hf, fun _ h => h⟩
          | false => exact ⟨!want, G, fr, h, by rw [hw false rfl]; cases want <;> rfl, hf, fun _ h => h⟩
        | false =>
          rw [hG] at h
          cases t with
          | true => exact ⟨want, _, _, h.1 rfl, by rw [hw true rfl]; cases want <;> rfl, (hput true rfl).1, (hput true rfl).2⟩
          | false => exact ⟨!want, _, _, h.2 rfl, by rw [hw false rfl]; cases want <;> rfl, (hput false rfl).1, (hput false rfl).2⟩
theorem Sat.frm (h : Sat C ρ fr mem nx a w) {fr' : AF} (hf : FrOk ρ (fr' ++ C.ff) nx a) : Sat C ρ fr' mem nx a w := ⟨hf, h.sz, h.dfr, h.mlt, h.blk, h.sep, h.n0, h.low, h.rest⟩
theorem okV_undef : okV ρ nx (.tuple #[]) := fun v hv => by simp at hv
theorem den_undef : den ρ (.tuple #[]) = undef := by simp [den, undef]
theorem opsx_sound (hτ : TTok P τ) (hF : FTok P F) {ops : Array Oper} {K : AF → AM → Nat → Prop} : ∀ (l : List Oper), (∀ o ∈ l, ∀ i, o.dst = some i → i < C.nt) → ∀ (G : List Nat) (fr : AF) (mem : AM) (nx : Nat) (ρ : Nat → Pl) (a : Act) (w : World), opsx τ F ops l G fr mem nx K → Sat C ρ fr mem nx a w →
    (∀ fr' mem' nx' ρ' a' w', K fr' mem' nx' → Sat C ρ' fr' mem' nx' a' w' → Ext ρ nx ρ' nx' → Q .normal a' w') → wpList P ops Q l a w
  | [], _, G, fr, mem, nx, ρ, a, w, h, hs, hK => hK _ _ _ _ _ _ h hs (Ext.refl _ _)
  | o :: l, hd, G, fr, mem, nx, ρ, a, w, h, hs, hK => by
    simp only [opsx_cons, putK_eq] at h
    obtain ⟨b, G', fr', hgo, hw, hf, -⟩ := gdx_sound h hs.fok
    have hs' := hs.frm hf
    rw [wpList]
    cases b with
    | false =>
      rw [if_neg (by rw [hw]; simp)]
      exact opsx_sound hτ hF l (fun o' ho' => hd o' (List.mem_cons_of_mem _ ho')) G' _ mem nx ρ _ w hgo (den_undef (ρ := ρ) ▸ hs'.put (d := o.dst) (hd o (List.mem_cons_self ..)) okV_undef) hK
    | true =>
      rw [if_pos hw]
      refine .inl (Oper.wp_mono ?_ (opx_sound (Q := Q) hτ hF (hd o (List.mem_cons_self ..)) hgo hs'))
      rintro a2 w2 ⟨fr2, mem2, nx2, ρ2, hk2, hs2, hx2, -⟩
      exact opsx_sound hτ hF l (fun o' ho' => hd o' (List.mem_cons_of_mem _ ho')) G' fr2 mem2 nx2 ρ2 a2 w2 hk2 hs2 (fun fr' mem' nx' ρ' a' w' hk hsat hx => hK fr' mem' nx' ρ' a' w' hk hsat (hx2.ext.trans hx))
end

/-! A region that draws its order. -/
structure DP where
  k : Nat
  L : List Nat := []
  pre : List (Nat × Bool) := []
  A : List Nat := []
  post : List (Nat × Bool) := []
def keeps (mem : AM) (m : AM) : Prop := List.rec (motive := fun _ => Prop) True (fun p _ ih => lk mem p.1 = some p.2 ∧ ih) m
def sel (mem : AM) : List Nat → AM
  | [] => []
  | i :: r => (match lk mem i with | some b => (i, b) :: sel mem r | none => sel mem r)
def strx (τ : TT) (F : FT) (ops : Array Oper) (memS : AM) (σ : List (Nat × Bool)) : List Nat → AF → AM → Nat → (List Nat → AF → AM → Nat → Prop) → Prop :=
  List.rec (motive := fun _ => List Nat → AF → AM → Nat → (List Nat → AF → AM → Nat → Prop) → Prop) (fun G fr mem nx K => K G fr mem nx)
    (fun p _ ih G fr mem nx K => match ops[p.1]? with
      | none => False
      | some o => gdx ops G o.guard fr (fun b G' fr' => match b with
        | true => (match p.2 with
          | false => (match vx τ fr' memS o.op with | some v => putK o.dst v fr' (fun fr2 => ih G' fr2 mem nx K) | none => False)
          | true => opx τ F o fr' mem nx (fun fr2 mem2 nx2 => keeps mem2 memS ∧ ih G' fr2 mem2 nx2 K))
        | false => putK o.dst (.tuple #[]) fr' fun fr2 => ih G' fr2 mem nx K)) σ
theorem strx_cons (τ : TT) (F : FT) (ops : Array Oper) (memS : AM) (i : Nat) (act : Bool) (r : List (Nat × Bool)) (G : List Nat) (fr : AF) (mem : AM) (nx : Nat) (K : List Nat → AF → AM → Nat → Prop) : strx τ F ops memS ((i, act) :: r) G fr mem nx K = (match ops[i]? with
    | none => False
    | some o => gdx ops G o.guard fr (fun b G' fr' => match b with
      | true => (match act with
        | false => (match vx τ fr' memS o.op with | some v => putK o.dst v fr' (fun fr2 => strx τ F ops memS r G' fr2 mem nx K) | none => False)
        | true => opx τ F o fr' mem nx (fun fr2 mem2 nx2 => keeps mem2 memS ∧ strx τ F ops memS r G' fr2 mem2 nx2 K))
      | false => putK o.dst (.tuple #[]) fr' fun fr2 => strx τ F ops memS r G' fr2 mem nx K)) := rfl
theorem keeps_lk {mem : AM} : ∀ {memS : AM}, keeps mem memS → ∀ i b, lk memS i = some b → lk mem i = some b
  | [], _, i, b, h => by simp [lk] at h
  | (j, c) :: r, hk, i, b, h => by
    rcases lk_cons h with ⟨rfl, rfl⟩ | ⟨_, h⟩
    · exact hk.1
    · exact keeps_lk hk.2 i b h
theorem sel_lk {mem : AM} : ∀ {L : List Nat} (i : Nat) (b : ABlk), lk (sel mem L) i = some b → lk mem i = some b
  | [], i, b, h => by simp [sel, lk] at h
  | j :: r, i, b, h => by
    simp only [sel] at h
    cases hj : lk mem j with
    | none => rw [hj] at h; exact sel_lk i b h
    | some c =>
      rw [hj] at h
      rcases lk_cons h with ⟨rfl, rfl⟩ | ⟨_, h⟩
      · exact hj
      · exact sel_lk i b h

section
variable {P : Program} {τ : TT} {F : FT} {C : Ctx} {ρ : Nat → Pl} {fr : AF} {mem : AM} {nx : Nat} {a : Act} {w : World} {Q : Exit → Act → World → Prop}
theorem BlkOk.back {ρS : Nat → Pl} {nS i : Nat} {w1 w : World} {b : ABlk} (h1 : BlkOk C ρS nS i w1 b) (hx : Ext ρS nS ρ nx) (hi : ρ i = ρS i) (h : BlkOk C ρ nx i w b) : BlkOk C ρS nS i w b := by
  cases b with
  | box t cs =>
    obtain ⟨g1, e1, -, -, hcs⟩ := h1
    obtain ⟨g, e, hb, hbs, -⟩ := h
    rw [hi] at e
    refine ⟨g, e, ?_, hbs, hcs⟩
    have : cs.map (den1 ρ) = cs.map (den1 ρS) := List.map_congr_left fun v hv => den1_congr hx.1 (hcs v hv)
    rw [← this]
    exact hb
  | row t sz n el =>
    obtain ⟨e, h2, h3⟩ := h
    rw [hi] at e h3
    exact ⟨e, h2, h3⟩
/-- What a region's fixed operations read. -/
structure Held (C : Ctx) (ρS : Nat → Pl) (nS : Nat) (memS : AM) (w1 : World) : Prop where
  blk : ∀ i b, lk memS i = some b → BlkOk C ρS nS i w1 b
  lt : ∀ i b, lk memS i = some b → i < nS ∧ (ρS i).res = false
def HeldS (C : Ctx) (ρS : Nat → Pl) (nS : Nat) (memS : AM) (w : World) : Prop := ∀ i b, lk memS i = some b → BlkOk C ρS nS i w b
theorem Held.now {ρS : Nat → Pl} {nS : Nat} {memS : AM} {w1 : World} (h : Held C ρS nS memS w1) (hx : Ext ρS nS ρ nx) (hs : Sat C ρ fr mem nx a w) (hk : ∀ i b, lk memS i = some b → lk (mem ++ C.fm) i = some b) : HeldS C ρS nS memS w :=
  fun i b hi => (h.blk i b hi).back hx (hx.1 i (h.lt i b hi).1 (h.lt i b hi).2) (hs.blk i b (hk i b hi))
theorem HeldS.cur {ρS : Nat → Pl} {nS : Nat} {memS : AM} {w1 : World} (h : Held C ρS nS memS w1) (hS : HeldS C ρS nS memS w) (hx : Ext ρS nS ρ nx) : ∀ i b, lk memS i = some b → BlkOk C ρ nx i w b :=
  fun i b hi => (hS i b hi).ren (hx.1 i (h.lt i b hi).1 (h.lt i b hi).2) hx.1 hx.2
/-- A fixed operation yields its value. -/
theorem fix_yields (hτ : TTok P τ) {ops : Array Oper} {ρS : Nat → Pl} {nS : Nat} {memS : AM} {w1 : World} (hH : Held C ρS nS memS w1) (hx : Ext ρS nS ρ nx) (hf : FrOk ρ fr nx a) {o : Oper} {v : Value} (hw : Region.wanted o (yielded ops a.tmps) = true) (hv : vx τ fr memS o.op = some v) :
    YieldsIf P ops (HeldS C ρS nS memS) o (den ρ v) a := .inl ⟨hw, fun w hS => (vx_run (P := P) hτ hf (HeldS.cur hH hS hx) hv).1⟩
theorem vx_ok (hτ : TTok P τ) {memS : AM} {w : World} (hm : ∀ i b, lk memS i = some b → BlkOk C ρ nx i w b) (hf : FrOk ρ fr nx a) {o : Oper} {v : Value} (hv : vx τ fr memS o.op = some v) : okV ρ nx v := (vx_run (P := P) hτ hf hm hv).2
theorem strx_sound (hτ : TTok P τ) (hF : FTok P F) {ops : Array Oper} (hd : ∀ (i : Nat) (o : Oper), ops[i]? = some o → ∀ j, o.dst = some j → j < C.nt) (hQ : ∀ c a a' w, Q (.panic c) a w → Q (.panic c) a' w)
    {ρS : Nat → Pl} {nS : Nat} {memS : AM} {w1 : World} (hH : Held C ρS nS memS w1) {K : List Nat → AF → AM → Nat → Prop} : ∀ (σ : List (Nat × Bool)) (G : List Nat) (fr : AF) (mem : AM) (nx : Nat) (ρ : Nat → Pl) (a : Act) (w : World),
    strx τ F ops memS σ G fr mem nx K → Sat C ρ fr mem nx a w → Ext ρS nS ρ nx → HeldS C ρS nS memS w →
    (∀ G' fr' mem' nx' ρ' a' w', K G' fr' mem' nx' → Sat C ρ' fr' mem' nx' a' w' → Ext ρS nS ρ' nx' → Q .normal a' w') → wpSeqH P ops Q (HeldS C ρS nS memS) σ a w
  | [], G, fr, mem, nx, ρ, a, w, h, hs, hx, hS, hK => hK _ _ _ _ _ _ _ h hs hx
  | (i, act) :: r, G, fr, mem, nx, ρ, a, w, h, hs, hx, hS, hK => by
    simp only [strx_cons, putK_eq] at h
    cases ho : ops[i]? with
    | none => rw [ho] at h; exact h.elim
    | some o =>
      rw [ho] at h
      simp only at h
      obtain ⟨b, G', fr', hgo, hw, hf, -⟩ := gdx_sound h hs.fok
      have hs' := hs.frm hf
      cases b with
      | false =>
        have hrest := strx_sound hτ hF hd hQ hH r G' _ mem nx ρ _ w hgo (hs'.put (d := o.dst) (hd i o ho) okV_undef) hx hS hK
        rw [den_undef] at hrest
        cases act with
        | false => exact ⟨o, undef, ho, fun c a w h => hQ _ _ _ _ h, .inr ⟨hw, rfl⟩, hrest⟩
        | true =>
          simp only [wpSeqH]
          unfold wpOp
          simp only [ho]
          rw [if_neg (by rw [hw]; simp)]
          exact ⟨hS, hrest⟩
      | true =>
        cases act with
        | false =>
          simp only at hgo
          cases hv : vx τ fr' memS o.op with
          | none => rw [hv] at hgo; exact hgo.elim
          | some v =>
            rw [hv] at hgo
            have hrest := strx_sound hτ hF hd hQ hH r G' _ mem nx ρ _ w hgo (hs'.put (d := o.dst) (hd i o ho) (vx_ok (P := P) hτ (HeldS.cur hH hS hx) hf.left hv)) hx hS hK
            exact ⟨o, _, ho, fun c a w h => hQ _ _ _ _ h, fix_yields hτ hH hx hf.left hw hv, hrest⟩
        | true =>
          simp only at hgo
          simp only [wpSeqH]
          refine wpOp_actG ho hw (Oper.wp_mono ?_ (opx_sound (Q := Q) hτ hF (hd i o ho) hgo hs'))
          rintro a2 w2 ⟨fr2, mem2, nx2, ρ2, ⟨hk2, hk3⟩, hs2, hx2, -⟩
          have hS2 := hH.now (hx.trans hx2.ext) hs2 (fun i b hi => lk_app (keeps_lk hk2 i b hi))
          exact ⟨hS2, strx_sound hτ hF hd hQ hH r G' fr2 mem2 nx2 ρ2 a2 w2 hk3 hs2 (hx.trans hx2.ext) hS2 hK⟩
end
end Go.Proofs.Ytjobcfpnmfjlfaa

namespace Go.Proofs.Ytjobcfpnmfjlfaa
open Go.RowKit
set_option linter.unusedSimpArgs false
set_option linter.unusedVariables false

/-- A new variable in a region that draws its order: it may come up at any time. -/
structure AI where
  j : Nat
  ν : Nat
  d : Nat
  t : TypeId
  zero : List Value
def mkA (τ : TT) (ops : Array Oper) : Nat → List Nat → Option (List AI)
  | _, [] => some []
  | nx, j :: r => (match ops[j]? with
    | some { dst := some d, op := .alloc t, guard := none, .. } => (match lk τ t with
      | some ti => (match mkA τ ops (nx + 1) r with | some l => some (⟨j, nx, d, t, ti.zero⟩ :: l) | none => none)
      | none => none)
    | _ => none)
def slots : List AI → AF
  | [] => []
  | x :: r => (x.d, .pointer (some ⟨x.ν, 0, none⟩)) :: slots r
def blks : List AI → AM
  | [] => []
  | x :: r => (x.ν, .box x.t x.zero) :: blks r
def delF (d : Nat) : AF → AF
  | [] => []
  | (k, v) :: l => (match Nat.beq k d with | true => delF d l | false => (k, v) :: delF d l)
def delFs : List AI → AF → AF
  | [], fr => fr
  | x :: r, fr => delFs r (delF x.d fr)
def floatB (ops : Array Oper) (post : List (Nat × Bool)) : Nat → List (Nat × Bool) → Array Bool → List Nat → Bool
  | 0, _, _, _ => false
  | n + 1, σ, listed, pend => (match σ with
    | (i, false) :: r => Region.free .any ops listed i && (Region.ready .any ops listed).contains i && floatB ops post n r (listed.setIfInBounds i true) pend
    | (i, true) :: r => !(Region.ready .any ops listed).isEmpty && (Region.ready .any ops listed).all fun j =>
        (decide (j = i) && floatB ops post n r (listed.setIfInBounds i true) pend) || (pend.contains j && floatB ops post n σ (listed.setIfInBounds j true) (pend.filter fun k => !(k == j)))
    | [] => (match pend with
      | [] => seqHB ops post listed
      | _ :: _ => !(Region.ready .any ops listed).isEmpty && (Region.ready .any ops listed).all fun j => pend.contains j && floatB ops post n [] (listed.setIfInBounds j true) (pend.filter fun k => !(k == j))))
def dregx (τ : TT) (F : FT) (l : List Oper) (d : DP) (fr : AF) (mem : AM) (nx : Nat) (K : AF → AM → Nat → Prop) : Prop :=
  match mkA τ (l.take d.k).toArray nx d.A with
  | none => False
  | some xs => strx τ F (l.take d.k).toArray (sel mem d.L) d.pre [] (delFs xs fr) mem (nx + d.A.length) (fun G fr1 mem1 nx1 =>
      strx τ F (l.take d.k).toArray (sel mem d.L) d.post G (fr1 ++ slots xs) (mem1 ++ blks xs) nx1 (fun G fr2 mem2 nx2 => opsx τ F l.toArray (l.drop d.k) G fr2 mem2 nx2 K))
def preDst (ops : Array Oper) (A : List Nat) (σ : List (Nat × Bool)) : Bool :=
  σ.all fun p => match dstOf ops p.1 with | some d => A.all fun j => !(dstOf ops j == some d) | none => true
def nodupB : List Nat → Bool
  | [] => true
  | x :: r => !r.contains x && nodupB r
def dregB (l : List Oper) (d : DP) : Bool :=
  lastB l d.k && Region.noSelect (l.take d.k).toArray && decide (d.pre.length + d.A.length + d.post.length = d.k) && floatB (l.take d.k).toArray d.post (d.k + 1) d.pre (Array.replicate d.k false) d.A &&
    preDst (l.take d.k).toArray d.A d.pre && nodupB d.A && nodupB (d.A.map fun j => (dstOf (l.take d.k).toArray j).getD 0)

def Ctx.wf (C : Ctx) (D : List AI) : Ctx := { C with ff := slots D, fm := blks D }

section
variable {P : Program} {τ : TT} {F : FT} {C : Ctx} {ρ : Nat → Pl} {fr : AF} {mem : AM} {nx : Nat} {a : Act} {w : World} {Q : Exit → Act → World → Prop}
theorem lk_none_app {α : Type} {l r : List (Nat × α)} {n : Nat} (h : lk l n = none) : lk (l ++ r) n = lk r n := by
  induction l with
  | nil => rfl
  | cons p l ih =>
    obtain ⟨k, u⟩ := p
    rw [List.cons_append]
    by_cases hk : k = n
    · subst hk; rw [lk_same] at h; cases h
    · rw [lk_ne _ _ hk] at h ⊢; exact ih h
theorem delF_lk {d : Nat} : ∀ {fr : AF}, lk (delF d fr) d = none ∧ ∀ t v, lk (delF d fr) t = some v → lk fr t = some v
  | [] => ⟨rfl, fun t v h => by simp [delF, lk] at h⟩
  | (k, u) :: l => by
    obtain ⟨h1, h2⟩ := delF_lk (d := d) (fr := l)
    simp only [delF]
    cases hb : Nat.beq k d with
    | true =>
      have hk := Nat.eq_of_beq_eq_true hb
      subst hk
      refine ⟨h1, fun t v h => ?_⟩
      rw [lk_ne _ _ (by rintro rfl; rw [h1] at h; cases h)]
      exact h2 t v h
    | false =>
      have hk : k ≠ d := by rintro rfl; rw [Nat.beq_refl] at hb; cases hb
      refine ⟨by simp only; rw [lk_ne _ _ hk]; exact h1, fun t v h => ?_⟩
      simp only at h
      by_cases ht : k = t
      · subst ht; rw [lk_same] at h ⊢; exact h
      · rw [lk_ne _ _ ht] at h ⊢; exact h2 t v h
theorem delFs_lk : ∀ {xs : List AI} {fr : AF}, (∀ x ∈ xs, lk (delFs xs fr) x.d = none) ∧ ∀ t v, lk (delFs xs fr) t = some v → lk fr t = some v
  | [], fr => ⟨fun x hx => absurd hx (List.not_mem_nil), fun t v h => h⟩
  | x :: r, fr => by
    obtain ⟨h1, h2⟩ := delFs_lk (xs := r) (fr := delF x.d fr)
    refine ⟨fun y hy => ?_, fun t v h => delF_lk.2 t v (h2 t v h)⟩
    rcases List.mem_cons.1 hy with rfl | hy
    · cases hv : lk (delFs (y :: r) fr) y.d with
      | none => rfl
      | some v => have := h2 _ _ hv; rw [delF_lk.1] at this; cases this
    · exact h1 y hy
theorem slots_lk : ∀ {D : List AI} {t : Nat} {v : Value}, lk (slots D) t = some v → ∃ x ∈ D, x.d = t ∧ v = .pointer (some ⟨x.ν, 0, none⟩)
  | [], t, v, h => by simp [slots, lk] at h
  | x :: r, t, v, h => by
    rcases lk_cons h with ⟨h1, h2⟩ | ⟨_, h⟩
    · exact ⟨x, List.mem_cons_self .., h1, h2.symm⟩
    · obtain ⟨y, hy, h3⟩ := slots_lk h
      exact ⟨y, List.mem_cons_of_mem _ hy, h3⟩
theorem blks_lk : ∀ {D : List AI} {i : Nat} {b : ABlk}, lk (blks D) i = some b → ∃ x ∈ D, x.ν = i ∧ b = .box x.t x.zero
  | [], t, v, h => by simp [blks, lk] at h
  | x :: r, t, v, h => by
    rcases lk_cons h with ⟨h1, h2⟩ | ⟨_, h⟩
    · exact ⟨x, List.mem_cons_self .., h1, h2.symm⟩
    · obtain ⟨y, hy, h3⟩ := blks_lk h
      exact ⟨y, List.mem_cons_of_mem _ hy, h3⟩
/-- Two new variables with one slot, or one name, are the same. -/
def Sole (D : List AI) : Prop := ∀ x ∈ D, ∀ y ∈ D, (x.d = y.d ∨ x.ν = y.ν ∨ x.j = y.j) → x = y
theorem slots_get : ∀ {D : List AI}, Sole D → ∀ x ∈ D, lk (slots D) x.d = some (.pointer (some ⟨x.ν, 0, none⟩))
  | [], _, x, hx => by cases hx
  | y :: r, hs, x, hx => by
    by_cases he : y.d = x.d
    · have : y = x := hs y (List.mem_cons_self ..) x hx (.inl he)
      subst this
      exact lk_same _ _ _
    · simp only [slots]
      rw [lk_ne _ _ he]
      rcases List.mem_cons.1 hx with rfl | hx
      · exact absurd rfl he
      · exact slots_get (fun a ha b hb => hs a (List.mem_cons_of_mem _ ha) b (List.mem_cons_of_mem _ hb)) x hx
theorem blks_get : ∀ {D : List AI}, Sole D → ∀ x ∈ D, lk (blks D) x.ν = some (.box x.t x.zero)
  | [], _, x, hx => by cases hx
  | y :: r, hs, x, hx => by
    by_cases he : y.ν = x.ν
    · have : y = x := hs y (List.mem_cons_self ..) x hx (.inr (.inl he))
      subst this
      exact lk_same _ _ _
    · simp only [blks]
      rw [lk_ne _ _ he]
      rcases List.mem_cons.1 hx with rfl | hx
      · exact absurd rfl he
      · exact blks_get (fun a ha b hb => hs a (List.mem_cons_of_mem _ ha) b (List.mem_cons_of_mem _ hb)) x hx
theorem Sat.ctx {C C' : Ctx} {fr fr' : AF} {mem mem' : AM} (h : Sat C ρ fr mem nx a w) (hw : C'.w0 = C.w0) (hb : C'.bor = C.bor) (hn : C'.n0 = C.n0) (hr : C'.ρ0 = C.ρ0) (ht : C'.nt = C.nt)
    (hf : ∀ t v, lk (fr' ++ C'.ff) t = some v → lk (fr ++ C.ff) t = some v) (hm : ∀ i b, lk (mem' ++ C'.fm) i = some b → lk (mem ++ C.fm) i = some b) : Sat C' ρ fr' mem' nx a w := by
  obtain ⟨w0, bor, n0, ρ0, nt, ff, fm⟩ := C
  obtain ⟨w0', bor', n0', ρ0', nt', ff', fm'⟩ := C'
  simp only at hw hb hn hr ht
  subst hw hb hn hr ht
  exact ⟨⟨fun t v hv => h.fok.frm t v (hf t v hv), fun t v hv => h.fok.frk t v (hf t v hv)⟩, h.sz, h.dfr, fun i b hi => h.mlt i b (hm i b hi), fun i b hi => by
    have := h.blk i b (hm i b hi)
    cases b <;> exact this, fun i j b b' hne hi hj => h.sep i j b b' hne (hm i b hi) (hm j b' hj), h.n0, h.low, ⟨h.rest.os, h.rest.tape, h.rest.output, h.rest.size, h.rest.block⟩⟩
/-- A pending variable comes up. -/
theorem Sat.comeup (hτ : TTok P τ) {D : List AI} {x : AI} {ti : TI} (hti : lk τ x.t = some ti) (hz : x.zero = ti.zero) (hsole : Sole (x :: D)) (hxD : x ∉ D) (h : Sat (C.wf D) ρ fr mem nx a w) (hν : x.ν < nx) (hν0 : C.n0 ≤ x.ν) (hres : (ρ x.ν).res = true) (hfr : lk fr x.d = none) (hd : x.d < C.nt) :
    Sat (C.wf (x :: D)) (setPl ρ x.ν ⟨some ⟨w.heap.size, 0, none⟩, 0, 0, false⟩) fr mem nx (a.put (some x.d) (.pointer (some ⟨w.heap.size, 0, none⟩))) (w.alloc (.cells x.zero.toArray x.t)) := by
  have ht := hτ _ _ hti
  have hmap : ∀ ρ : Nat → Pl, x.zero.map (den1 ρ) = x.zero := fun ρ => by
    conv => rhs; rw [← List.map_id x.zero]
    exact List.map_congr_left fun v hv => den1_plain (ht.zero v (hz ▸ hv))
  have h1 := h.fill (b := .box x.t x.zero) (p := ⟨some ⟨w.heap.size, 0, none⟩, 0, 0, false⟩) hν hν0 hres ((Below.refl _ _).alloc (Nat.le_refl _) (.cells x.zero.toArray x.t))
    ⟨w.heap.size, by rw [setPl_same], by rw [hmap]; exact Blk.new _ _ _, .inl h.rest.size, fun v hv => ok1_plain (ht.zero v (hz ▸ hv))⟩ (fun g hg => by simp at hg; omega) rfl
  have hok : okV (setPl ρ x.ν ⟨some ⟨w.heap.size, 0, none⟩, 0, 0, false⟩) nx (.pointer (some ⟨x.ν, 0, none⟩)) := ⟨⟨hν, by simp [setPl_same]⟩, ⟨w.heap.size, 0, by simp [setPl_same]⟩, fun k hk => by cases hk⟩
  have h2 := h1.put (d := some x.d) (fun i hi => by cases hi; exact hd) hok
  have e : den (setPl ρ x.ν ⟨some ⟨w.heap.size, 0, none⟩, 0, 0, false⟩) (.pointer (some ⟨x.ν, 0, none⟩)) = .pointer (some ⟨w.heap.size, 0, none⟩) := by simp [den, den2, den1, dA_whole, setPl_same]
  rw [e] at h2
  have hmem : lk mem x.ν = none := by
    cases hm : lk mem x.ν with
    | none => rfl
    | some b => have := (h.mlt _ _ (lk_app hm)).2; rw [hres] at this; cases this
  refine h2.ctx rfl rfl rfl rfl rfl (fun t v hv => ?_) (fun i b hb => ?_)
  · show lk ((x.d, _) :: (fr ++ slots D)) t = some v
    have hv' : lk (fr ++ ((x.d, .pointer (some ⟨x.ν, 0, none⟩)) :: slots D)) t = some v := hv
    cases hft : lk fr t with
    | some u =>
      rw [lk_app hft] at hv'
      rw [lk_ne _ _ (by rintro rfl; rw [hfr] at hft; cases hft), lk_app hft]
      exact hv'
    | none =>
      rw [lk_none_app hft] at hv'
      by_cases ht : x.d = t
      · subst ht; rw [lk_same] at hv' ⊢; exact hv'
      · rw [lk_ne _ _ ht] at hv' ⊢; rw [lk_none_app hft]; exact hv'
  · show lk ((x.ν, _) :: (mem ++ blks D)) i = some b
    have hb' : lk (mem ++ ((x.ν, .box x.t x.zero) :: blks D)) i = some b := hb
    cases hft : lk mem i with
    | some u =>
      rw [lk_app hft] at hb'
      rw [lk_ne _ _ (by rintro rfl; rw [hmem] at hft; cases hft), lk_app hft]
      exact hb'
    | none =>
      rw [lk_none_app hft] at hb'
      by_cases ht : x.ν = i
      · subst ht; rw [lk_same] at hb' ⊢; exact hb'
      · rw [lk_ne _ _ ht] at hb' ⊢; rw [lk_none_app hft]; exact hb'
end
end Go.Proofs.Ytjobcfpnmfjlfaa
