import Derived.WalkKit
import Derived.WalkSpells
import Derived.WalkLawsBesides
import Derived.Deep.QuietTactic
import Derived.BigQuiet
import Derived.Deep.Draws
import Derived.Lib.Hide
import Derived.Deep.AppendLies
import Derived.Maps.AppendAt
import Derived.Deep.Light
import Derived.Deep.LoopGhost
import Derived.Deep.DeepCutAuto
import Derived.Deep.CutBlock
import Derived.Handy
import Derived.Deep.RegionWith
import Derived.Deep.RegionHeld3
import Derived.ProofKit
import Derived.OpenShut
import Derived.Deep.Slices
import Derived.Deep.Fields
import Derived.ChangeSame
import Derived.ChangeOld
import Derived.Test.YtnnpgbleacapfaaGreatChecked
import Derived.Test.YtnnpgbleacapfaaGreatRows
namespace Go.Proofs.YtnnpgbleacapfaaGreat
open Go.RowKit

theorem ret_i64 {a b : Int} (h : a = b) : Ending.returned (Value.int IntKind.i64 a) = Ending.returned (Value.int IntKind.i64 b) := by rw [h]
theorem ret_bool {a b : Bool} (h : a = b) : Ending.returned (Value.bool a) = Ending.returned (Value.bool b) := by rw [h]

/-- Block g is just these cells, none frozen. -/
def Blk (w : World) (g : Nat) (t : TypeId) (cs : Array Value) : Prop := w.heap[g]? = some (.cells cs t (0, 0))

section
variable {w w' : World} {g : Nat} {t : TypeId} {cs : Array Value}
theorem Blk.lt (h : Blk w g t cs) : g < w.heap.size := by
  rcases Nat.lt_or_ge g w.heap.size with hlt | hge
  · exact hlt
  · unfold Blk at h; rw [Array.getElem?_eq_none hge] at h; cases h
theorem Blk.cell (h : Blk w g t cs) (i : Nat) : w.cell? ⟨g, i, none⟩ = cs[i]? := cell_of_row w g i cs t (0, 0) h
theorem Blk.cell' (h : Blk w g t cs) {i : Nat} {v : Value} (hv : cs[i]? = some v) : w.cell? ⟨g, i, none⟩ = some v := (h.cell i).trans hv
theorem Blk.frozen (h : Blk w g t cs) (i : Nat) : w.frozen? ⟨g, i, none⟩ = false := by
  unfold Blk at h
  simp [World.frozen?, h]
theorem Blk.new (w : World) (t : TypeId) (cs : Array Value) : Blk (w.alloc (.cells cs t)) w.heap.size t cs := heap_alloc_new w _
theorem Blk.drewN (h : Blk w g t cs) (n : Nat) : Blk (w.drewN n) g t cs := h
theorem Blk.alloc (h : Blk w g t cs) (o : Obj) : Blk (w.alloc o) g t cs := (Below.heap_alloc w o g h.lt).trans h
theorem Blk.set_ (h : Blk w g t cs) (i : Nat) (u : Value) : Blk (w.setCell ⟨g, i, none⟩ u) g t (cs.setIfInBounds i u) := by
  unfold Blk at h ⊢
  simp [World.setCell, Array.getElem?_modify, h]
theorem Blk.far (h : Blk w g t cs) {p : Addr} (hp : g ≠ p.block) (u : Value) : Blk (w.setCell p u) g t cs := (Below.heap_setCell w p u g hp).trans h
theorem Blk.below {B : Nat} (h : Blk w g t cs) (hb : Below B w w') (hg : g < B) : Blk w' g t cs := (hb.block g hg).trans h
theorem Blk.grown {row : Option Nat} (h : Blk w g t cs) (hb : w.grownBy w' row) (hg : some g ≠ row) : Blk w' g t cs := (hb.block g h.lt hg).trans h
end

/-- From address A on lie the cells xs, in a block of which S holds (nothing is asked of A if xs is empty). -/
def Rd (w : World) (S : Nat → Prop) (A : Option Addr) (xs : List Value) : Prop :=
  xs ≠ [] → ∃ b off, A = some ⟨b, off, none⟩ ∧ S b ∧ ∀ j v, xs[j]? = some v → w.cell? ⟨b, off + j, none⟩ = some v

section
variable {w w' : World} {S S' : Nat → Prop} {A : Option Addr} {xs : List Value}
theorem Rd.at_ (h : Rd w S A xs) {k : Nat} (hk : k < xs.length) : ∃ b off, A = some ⟨b, off, none⟩ ∧ S b ∧ ∀ j v, xs[j]? = some v → w.cell? ⟨b, off + j, none⟩ = some v :=
  h (by rintro rfl; simp at hk)
theorem Rd.keep (h : Rd w S A xs) (hk : ∀ k, S k → w'.heap[k]? = w.heap[k]?) : Rd w' S A xs := fun hx => by
  obtain ⟨b, off, e, hb, hc⟩ := h hx
  exact ⟨b, off, e, hb, fun j v hv => (World.cell?_of_block (hk b hb)).trans (hc j v hv)⟩
theorem Rd.more (h : Rd w S A xs) (hB : ∀ b, S b → S' b) : Rd w S' A xs := fun hx => by
  obtain ⟨b, off, e, hb, hc⟩ := h hx
  exact ⟨b, off, e, hB b hb, hc⟩
theorem Rd.below {B : Nat} (h : Rd w S A xs) (hb : Below B w w') (hS : ∀ b, S b → b < B) : Rd w' S A xs := h.keep fun k hk => hb.block k (hS k hk)
theorem Rd.grown (h : Rd w S A xs) {row : Option Nat} (hg : w.grownBy w' row) (hr : ∀ k, S k → some k ≠ row) : Rd w' S A xs := by
  intro hx
  have hx' := hx
  obtain ⟨b, off, e, hb, hc⟩ := h hx
  refine ⟨b, off, e, hb, fun j v hv => ?_⟩
  have hcell := hc j v hv
  exact hg.cell hcell (hr b hb)
theorem Rd.alloc (h : Rd w S A xs) (o : Obj) : Rd (w.alloc o) S A xs := fun hx => by
  obtain ⟨b, off, e, hb, hc⟩ := h hx
  refine ⟨b, off, e, hb, fun j v hv => ?_⟩
  have hcell := hc j v hv
  rw [World.cell?_alloc_lt w o _ (World.block_lt_of_cell? w _ hcell)]
  exact hcell
theorem Rd.of_own {base : Nat} {e : TypeId} {size n c : Nat} (h : w.ownsRow base e size (.slice A n c) n xs) : Rd w (fun b => base ≤ b ∧ b < w.heap.size) A xs := by
  intro hx
  rcases h.2 with ⟨h0, rfl⟩ | ⟨g, cap, cur, hv, hb, hh, _, _, _, hxs⟩
  · exact absurd (List.eq_nil_of_length_eq_zero (by simpa using h.1)) hx
  · injection hv with hA _ _
    refine ⟨g, 0, hA, ⟨hb, Blk.lt hh⟩, fun j v hv => ?_⟩
    rw [Blk.cell hh]
    have : cur.toList[j]? = some v := by
      rw [← hxs, List.getElem?_take] at hv
      split at hv
      · exact hv
      · cases hv
    simpa using this
end

section
variable {a w w' : World} {row : Option Nat}
theorem grown_refl (w : World) (row : Option Nat) : w.grownBy w row := World.grownBy.refl w row
theorem grown_drewN (h : a.grownBy w row) (n : Nat) : a.grownBy (w.drewN n) row := ⟨h.os, h.tape, h.output, h.size, h.block⟩
theorem grown_alloc (h : a.grownBy w row) (o : Obj) : a.grownBy (w.alloc o) row :=
  ⟨h.os, h.tape, h.output, Nat.le_trans h.size (by simp), fun i hi hne => (Below.heap_alloc w o i (Nat.lt_of_lt_of_le hi h.size)).trans (h.block i hi hne)⟩
theorem grown_setCell {g : Nat} (h : a.grownBy w (some g)) {p : Addr} (hp : p.block = g ∨ a.heap.size ≤ p.block) (u : Value) : a.grownBy (w.setCell p u) (some g) :=
  ⟨h.os, h.tape, h.output, by simpa [World.setCell] using h.size, fun i hi hne => (Below.heap_setCell w p u i (by
    rintro rfl
    rcases hp with hp | hp
    · exact hne (by rw [hp])
    · omega)).trans (h.block i hi hne)⟩
theorem grown_set {g : Nat} (h : a.grownBy w (some g)) (i : Nat) (u : Value) : a.grownBy (w.setCell ⟨g, i, none⟩ u) (some g) := grown_setCell h (p := ⟨g, i, none⟩) (.inl rfl) u
theorem grown_setNew {g b : Nat} (h : a.grownBy w (some g)) (hb : a.heap.size ≤ b) (i : Nat) (u : Value) : a.grownBy (w.setCell ⟨b, i, none⟩ u) (some g) := grown_setCell h (p := ⟨b, i, none⟩) (.inr hb) u
theorem grown_trans (h : a.grownBy w row) (k : w.grownBy w' row) : a.grownBy w' row :=
  ⟨k.os.trans h.os, k.tape.trans h.tape, k.output.trans h.output, Nat.le_trans h.size k.size, fun i hi hne => (k.block i (Nat.lt_of_lt_of_le hi h.size) hne).trans (h.block i hi hne)⟩
theorem grown_of_below (h : Below a.heap.size a w) (row : Option Nat) : a.grownBy w row := ⟨h.os, h.tape, h.output, h.size, fun i hi _ => h.block i hi⟩
theorem below_drewN {B : Nat} {a w : World} (h : Below B a w) (n : Nat) : Below B a (w.drewN n) := ⟨h.os, h.tape, h.output, h.size, h.block⟩
end

theorem own_form {w : World} {base : Nat} {e : TypeId} {size : Nat} {v : Value} {n : Nat} {xs : List Value} (h : w.ownsRow base e size v n xs) : ∃ A c, v = .slice A n c := by
  rcases h.2 with ⟨rfl, rfl⟩ | ⟨g, cap, cur, rfl, _⟩
  · exact ⟨none, 0, rfl⟩
  · exact ⟨_, _, rfl⟩
theorem own_grown {w w' : World} {base : Nat} {e : TypeId} {size : Nat} {v : Value} {n : Nat} {xs : List Value} (h : w.ownsRow base e size v n xs) {row : Option Nat} (hg : w.grownBy w' row) (hr : ∀ k, row = some k → k < base) :
    w'.ownsRow base e size v n xs := by
  refine ⟨h.1, h.2.imp id ?_⟩
  rintro ⟨g, cap, cur, hv, hb, hh, rest⟩
  refine ⟨g, cap, cur, hv, hb, ?_, rest⟩
  rw [hg.block g (Blk.lt hh) (fun e => by have := hr g e.symm; omega)]
  exact hh
theorem own_below {w w' : World} {base B : Nat} {e : TypeId} {size : Nat} {v : Value} {n : Nat} {xs : List Value} (h : w.ownsRow base e size v n xs) (hb : Below B w w') (hv : ∀ k, v.ownBlock = some k → k < B) : w'.ownsRow base e size v n xs := by
  refine ⟨h.1, h.2.imp id ?_⟩
  rintro ⟨g, cap, cur, rfl, hbs, hh, rest⟩
  refine ⟨g, cap, cur, rfl, hbs, ?_, rest⟩
  rw [hb.block g (hv g rfl)]
  exact hh
theorem own_drewN {w : World} {base : Nat} {e : TypeId} {size : Nat} {v : Value} {n : Nat} {xs : List Value} (h : w.ownsRow base e size v n xs) (k : Nat) : (w.drewN k).ownsRow base e size v n xs := h
theorem own_block {w : World} {base : Nat} {e : TypeId} {size : Nat} {v : Value} {n : Nat} {xs : List Value} (h : w.ownsRow base e size v n xs) : ∀ k, v.ownBlock = some k → base ≤ k ∧ k < w.heap.size := h.lt

section
variable {P : Program} (w : World)
theorem run_append_none (base : Nat) (t ty e : TypeId) (i : TypeInfo) (size : Nat) (ht : P.underlying t = some (.slice e)) (hi : P.info? e = some i)
    (v : Value) (n : Nat) (xs : List Value) (hown : w.ownsRow base e size v n xs) (c : Nat) : (Builtin.append_ #[t, t] ty #[v, .slice none 0 c]).run P w = .ok v w := by
  rcases hown.2 with ⟨rfl, rfl⟩ | ⟨g, cap, cur, rfl, _, _, hnc, _⟩
  · simp [Builtin.append_, run_underlying ht, sizeOf, typeInfo, hi, Builtin.lenOf, Builtin.firstCells]
  · simp [Builtin.append_, run_underlying ht, sizeOf, typeInfo, hi, Builtin.lenOf, Builtin.firstCells, hnc, storeCells]

/-- append of a slice that came in (nil, empty or not) onto a row of the call's own. -/
theorem wpList_append_rd {ops : Array Oper} {rest : List Oper} {o : Oper} {a : Act} {Q : Exit → Act → World → Prop} (hgd : o.guard = none) (s x : Operand) (t : TypeId)
    (ho : o.op = .call { callee := .builtin .append, args := #[s, x], argTypes := #[t, t] })
    (base : Nat) (e : TypeId) (i : TypeInfo) (z : Value) (size bytes : Nat) (ht : P.underlying t = some (.slice e)) (hi : P.info? e = some i) (hz : i.zero = some z)
    (hsize : i.size = size) (hby : i.bytes = bytes) (hzs : z.cells.size = size) (hsz : 0 < size)
    (v : Value) (n : Nat) (xs : List Value) (hs : a.eval s = v) (hown : w.ownsRow base e size v n xs)
    (S : Nat → Prop) (A : Option Addr) (m c : Nat) (news : List Value) (hx : a.eval x = .slice A m c) (hl : news.length = m * size) (hr : Rd w S A news) (h1 : ∀ u ∈ news, u.oneCell' = true)
    (h63 : n + m ≤ maxLen) (hbytes : (n + m) * bytes ≤ 140737488355328) (hbase : base ≤ w.heap.size)
    (h : ∀ v' w', w'.ownsRow base e size v' (n + m) (xs ++ news) → w.grownBy w' v.ownBlock → (v'.ownBlock = v.ownBlock ∨ v'.ownBlock = some w.heap.size) → wpList P ops Q rest (a.put o.dst v') w') : wpList P ops Q (o :: rest) a w := by
  refine wpList_plain hgd fun K hK => ?_
  have hrun : ∃ v' w', (Builtin.append_ #[t, t] o.type #[v, .slice A m c]).run P w = .ok v' w' ∧ w'.ownsRow base e size v' (n + m) (xs ++ news) ∧ w.grownBy w' v.ownBlock ∧ (v'.ownBlock = v.ownBlock ∨ v'.ownBlock = some w.heap.size) := by
    rcases A with _ | ad
    · have hn : news = [] := by
        rcases Classical.em (news = []) with h0 | h0
        · exact h0
        · obtain ⟨b, off, hA, _⟩ := hr h0
          cases hA
      subst hn
      have hm : m = 0 := by
        rcases Nat.eq_zero_or_pos m with h0 | h0
        · exact h0
        · have : 0 < m * size := Nat.mul_pos h0 hsz
          simp at hl
          omega
      subst hm
      exact ⟨v, w, run_append_none w base t o.type e i size ht hi v n xs hown c, by simpa using hown, World.grownBy.refl w _, .inl rfl⟩
    · obtain ⟨v', w', hrun, h2, h3, _, h5⟩ := run_append_own_at (P := P) w base t o.type e i z size bytes ht hi hz hsize hby hzs hsz v n xs hown ad m c news hl (by
        intro j u hu
        obtain ⟨b, off, hA, _, hc⟩ := hr (by rintro rfl; simp at hu)
        injection hA with hA
        subst hA
        have := hc j u hu
        unfold Addr.add
        split
        · rename_i h0; subst h0; simpa using this
        · exact this) h1 h63 hbytes hbase
      exact ⟨v', w', hrun, h2, h3, h5⟩
  obtain ⟨v', w', hrun, h2, h3, h4⟩ := hrun
  unfold Oper.wp execOp
  simp only [ho, resolve, invoke, builtin, Sem.run_bind, Sem.run_pure, Result.andThen_ok, List.map_toArray, List.map_cons, List.map_nil, hs, hx, hrun]
  exact hK _ _ (h v' w' h2 h3 h4)
end

theorem quiet_left {P : Program} {f : FuncId} {args : Array Value} {w : World} {n : Nat} {v : Value}
    (h : Calls P f args (w.drewN n) fun e w' => e = .returned v ∧ w.drewN n = w') : Calls P f args (w.drewN n) fun e w'' => e = .returned v ∧ ∃ m, w'' = w.drewN m :=
  h.mono fun _ _ ⟨he, hm⟩ => ⟨he, n, hm.symm⟩
end Go.Proofs.YtnnpgbleacapfaaGreat

namespace Go.Proofs.YtnnpgbleacapfaaGreat
open Go.ChangeShapes Go.WideShapes Go.Deep Go.RowKit
set_option linter.unusedSimpArgs false
set_option linter.unusedVariables false

theorem map_of_all {α β : Type} {f : α → β} : ∀ {l : List β}, (∀ c ∈ l, ∃ e, c = f e) → ∃ r : List α, l = r.map f
  | [], _ => ⟨[], rfl⟩
  | c :: l, h => by
    obtain ⟨e, he⟩ := h c (List.mem_cons_self ..)
    obtain ⟨r, hr⟩ := map_of_all (l := l) fun c hc => h c (List.mem_cons_of_mem _ hc)
    exact ⟨e :: r, by rw [he, hr]; rfl⟩

theorem flatten_get (sz : Nat) : ∀ (l : List (List Value)), (∀ c ∈ l, c.length = sz) → ∀ (j : Nat) (v : Value), l.flatten[j]? = some v → ∃ i k c, j = i * sz + k ∧ k < sz ∧ l[i]? = some c ∧ c[k]? = some v
  | [], _, j, v, h => by simp at h
  | c :: l, hl, j, v, h => by
    have hc := hl c (List.mem_cons_self ..)
    rw [List.flatten_cons, List.getElem?_append] at h
    split at h
    · rename_i hlt
      exact ⟨0, j, c, by omega, by omega, rfl, h⟩
    · rename_i hge
      obtain ⟨i, k, c', hj, hk, h1, h2⟩ := flatten_get sz l (fun c hc => hl c (List.mem_cons_of_mem _ hc)) _ v h
      refine ⟨i + 1, k, c', ?_, hk, by simpa using h1, h2⟩
      rw [Nat.add_mul]
      omega

section
variable {H : Type} {enc : TypeId × Value → H} {P : Program} {w : World} {base : Nat} {spare : Nat → Bool} {held : Bool}

/-- A slice that came in: its elements' cells, each with its own reading. -/
theorem open_rows {t e : TypeId} {fuel sz : Nat} {A : Option Addr} {len cap : Nat} {x : DataW H × List MemPlace} (ht : P.underlying t = some (.slice e)) (hsz : P.cellsOf e = sz) (hpos : 0 < sz)
    (h : DataW.trod enc P w base spare held fuel t [.slice A len cap] = some x) :
    len ≤ maxLen ∧ ∃ css : List (List Value), css.length = len ∧ (∀ c ∈ css, c.length = sz ∧ ∃ n y, DataW.trod enc P w base spare held n e c = some y) ∧ Rd w (· < w.heap.size) A css.flatten := by
  rcases open_slice ht h with ⟨h0, _⟩ | ⟨a, len', cap', m, n, D, Pl, hcs, hb, hl, hm, hmm, hx, hi⟩
  · simp at h0
    obtain ⟨rfl, rfl, rfl⟩ := h0
    exact ⟨Nat.zero_le _, [], rfl, by simp, fun h => absurd rfl h⟩
  · simp at hcs
    obtain ⟨rfl, rfl, rfl⟩ := hcs
    rw [hsz] at hi
    have hlm : len ≤ m := by rw [hmm]; split <;> omega
    refine ⟨by omega, ?_⟩
    have hex : ∀ k, k ≤ len → ∃ css : List (List Value), css.length = k ∧ (∀ c ∈ css, c.length = sz ∧ ∃ n y, DataW.trod enc P w base spare held n e c = some y) ∧ ∀ i c, css[i]? = some c → w.cells? base (a.add (i * sz)) sz = some c := by
      intro k
      induction k with
      | zero => exact fun _ => ⟨[], rfl, by simp, by simp⟩
      | succ k ih =>
        intro hk
        obtain ⟨css, h1, h2, h3⟩ := ih (by omega)
        obtain ⟨c, hc, hy⟩ := hi k (by omega)
        refine ⟨css ++ [c], by simp [h1], ?_, ?_⟩
        · intro c' hc'
          rcases List.mem_append.1 hc' with hc' | hc'
          · exact h2 c' hc'
          · rw [List.mem_singleton.1 hc']
            exact ⟨(World.cells?_some hc).2.1, _, _, hy⟩
        · intro i c' hi'
          rw [List.getElem?_append] at hi'
          split at hi'
          · exact h3 i c' hi'
          · rename_i hge
            have : i - css.length = 0 := by
              rcases Nat.eq_zero_or_pos (i - css.length) with h0 | h0
              · exact h0
              · rw [List.getElem?_eq_none (by simp; omega)] at hi'; cases hi'
            rw [this] at hi'
            simp at hi'
            subst hi'
            have : i = k := by omega
            subst this
            exact hc
    obtain ⟨css, h1, h2, h3⟩ := hex len (Nat.le_refl _)
    refine ⟨css, h1, h2, fun hne => ?_⟩
    have hcell : ∀ j v, css.flatten[j]? = some v → w.cell? (a.add j) = some v := by
      intro j v hv
      obtain ⟨i, k, c, rfl, hk, hc, hck⟩ := flatten_get sz css (fun c hc => (h2 c hc).1) j v hv
      have := (World.cells?_some (h3 i c hc)).2.2 k hk
      rw [hck] at this
      rwa [Go.Deep.add_add] at this
    obtain ⟨v0, hv0⟩ : ∃ v, css.flatten[0]? = some v := by
      cases hf : css.flatten with
      | nil => exact absurd hf hne
      | cons v l => exact ⟨v, rfl⟩
    obtain ⟨b, off, spot⟩ := a
    have h0 := hcell 0 v0 hv0
    have hspot : spot = none := by simpa [Addr.add] using World.cell?_spot h0
    subst hspot
    refine ⟨b, off, rfl, ?_, fun j v hv => ?_⟩
    · have := World.block_lt_of_cell? w _ h0
      simpa [Addr.add] using this
    · have := hcell j v hv
      unfold Addr.add at this
      split at this
      · rename_i hj; subst hj; simpa using this
      · exact this

/-- The cells of a struct of integers. -/
theorem trod_struct_cell {e : TypeId} {fs : Array Field} {fuel : Nat} {cs : List Value} {x : DataW H × List MemPlace} (he : P.underlying e = some (.struct fs)) (hone : oneCellFields P fs = true) (hC : P.cellsOf e = fs.size)
    (h : DataW.trod enc P w base spare held fuel e cs = some x) : cs.length = fs.size ∧ ∀ (j : Nat) (f : Field), fs[j]? = some f → ∃ v n y, cs[j]? = some v ∧ DataW.trod enc P w base spare held n f.type [v] = some y := by
  obtain ⟨ys, n', hn', hy, hlen, hyl, hf⟩ := DataW.trod_struct he h
  rw [hC] at hlen
  refine ⟨hlen, fun j f hj => ?_⟩
  obtain ⟨ho, hk⟩ := hone_of hone j f hj
  have hjl : j < fs.size := (Array.getElem?_eq_some_iff.1 hj).1
  have h1 := hf j f hj
  rw [ho, hk] at h1
  have hone' : (cs.drop j).take 1 = [cs[j]'(by omega)] := by
    rw [List.drop_eq_getElem_cons (by omega)]
    rfl
  rw [hone'] at h1
  have hys : ys[j]? = some (ys[j]'(by omega)) := List.getElem?_eq_getElem (by omega)
  exact ⟨_, n', _, List.getElem?_eq_getElem (by omega), h1.trans hys⟩

theorem open_ints_rd {t e : TypeId} {fuel : Nat} {A : Option Addr} {len cap : Nat} {x : DataW H × List MemPlace} (ht : P.underlying t = some (.slice e)) (he : P.underlying e = some (.int .i64)) (hsz : P.cellsOf e = 1)
    (h : DataW.trod enc P w base spare held fuel t [.slice A len cap] = some x) :
    len ≤ maxLen ∧ ∃ zs : List Int, zs.length = len ∧ (∀ z ∈ zs, (Lit.int .i64 z).wf = true) ∧ Rd w (· < w.heap.size) A (zs.map (Value.int .i64)) := by
  obtain ⟨hm, css, h1, h2, h3⟩ := open_rows ht hsz (by omega) h
  refine ⟨hm, ?_⟩
  have hx : ∀ c ∈ css, ∃ e : { z : Int // (Lit.int .i64 z).wf = true }, c = [Value.int .i64 e.1] := by
    intro c hc
    obtain ⟨_, n, y, hy⟩ := h2 c hc
    obtain ⟨z, rfl, _, hw⟩ := DataW.trod_int he hy
    exact ⟨⟨z, hw⟩, rfl⟩
  obtain ⟨r, hr⟩ := map_of_all hx
  refine ⟨r.map (·.1), by rw [← h1, hr]; simp, ?_, ?_⟩
  · intro z hz
    obtain ⟨e, _, rfl⟩ := List.mem_map.1 hz
    exact e.2
  · have : css.flatten = (r.map (·.1)).map (Value.int .i64) := by
      rw [hr]
      clear hr
      induction r with
      | nil => rfl
      | cons a l ih => simp at ih ⊢; exact ih
    rwa [this] at h3
end
end Go.Proofs.YtnnpgbleacapfaaGreat

namespace Go.Proofs.YtnnpgbleacapfaaGreat
open Go.ChangeShapes Go.WideShapes Go.ChangeAt Go.RowKit Go.Deep
theorem seatOwn : ownKnob Tryz.prog.godebug = none := by kernel_rfl
theorem seatLaid : laidOutB Tryz.prog = true := by kernel_rfl
end Go.Proofs.YtnnpgbleacapfaaGreat

namespace Go.Proofs.YtnnpgbleacapfaaGreat
open Go.RowKit

/-! The data of package api. -/
structure Ten where
  load : Int
  shadow : Int
  prio : Int
  lag : Int
  allowed : Int
  group : Int
  noisy : Bool
structure Cfg where
  regions : Int
  zones : List Int
  cells : List (Int × Int)
  tenants : List Ten
  versions : List (Int × Int)
  replicas : List Int
  observers : List Int
  blast : Int
  lease : Int
  bake : Int
structure Win where
  cell : Int
  epoch : Int
  version : Int
  since : Int
  till : Int
structure TS where
  placed : Bool
  shed : Bool
  home : Int
  standby : Int
  next : Int
  target : Int
  epoch : Int
  win : Win
structure CS where
  mode : Int
  running : Int
  wanted : Int
  since : Int
structure St where
  tick : Int
  count : Int
  tenants : List TS
  cells : List CS
  proven : Int
  evac : Int
  low : Int
  high : Int
structure Ent where
  kind : Int
  tick : Int
  tenant : Int
  cell : Int
  other : Int
  epoch : Int
  since : Int
  till : Int
  n : Int

def intC (z : Int) : List Value := [.int .i64 z]
def pairC (p : Int × Int) : List Value := [.int .i64 p.1, .int .i64 p.2]
def tenC (t : Ten) : List Value := [.int .i64 t.load, .int .i64 t.shadow, .int .i64 t.prio, .int .i64 t.lag, .int .i64 t.allowed, .int .i64 t.group, .bool t.noisy]
def tsC (t : TS) : List Value := [.bool t.placed, .bool t.shed, .int .i64 t.home, .int .i64 t.standby, .int .i64 t.next, .int .i64 t.target, .int .i64 t.epoch,
  .int .i64 t.win.cell, .int .i64 t.win.epoch, .int .i64 t.win.version, .int .i64 t.win.since, .int .i64 t.win.till]
def csC (x : CS) : List Value := [.int .i64 x.mode, .int .i64 x.running, .int .i64 x.wanted, .int .i64 x.since]
def entC (e : Ent) : List Value := [.int .i64 e.kind, .int .i64 e.tick, .int .i64 e.tenant, .int .i64 e.cell, .int .i64 e.other, .int .i64 e.epoch, .int .i64 e.since, .int .i64 e.till, .int .i64 e.n]

/-- The cells of a list of structs, one after the other. -/
def flat {α : Type} (enc : α → List Value) (l : List α) : List Value := l.flatMap enc

theorem flat_length {α : Type} {enc : α → List Value} {sz : Nat} (hs : ∀ x, (enc x).length = sz) (l : List α) : (flat enc l).length = l.length * sz := by
  induction l with
  | nil => simp [flat]
  | cons a l ih => simp only [flat, List.flatMap_cons, List.length_append, List.length_cons, hs] at ih ⊢; rw [ih, Nat.add_mul]; omega

theorem flat_get {α : Type} {enc : α → List Value} {sz : Nat} (hs : ∀ x, (enc x).length = sz) : ∀ (l : List α) (k : Nat) (x : α), l[k]? = some x → ∀ (j : Nat) (v : Value), (enc x)[j]? = some v → (flat enc l)[k * sz + j]? = some v
  | [], k, x, h, j, v, hv => by simp at h
  | a :: l, 0, x, h, j, v, hv => by
    simp at h
    subst h
    have : j < (enc a).length := (List.getElem?_eq_some_iff.1 hv).1
    simp only [flat, List.flatMap_cons, Nat.zero_mul, Nat.zero_add]
    rw [List.getElem?_append_left this]
    exact hv
  | a :: l, k + 1, x, h, j, v, hv => by
    have ih := flat_get hs l k x (by simpa using h) j v hv
    simp only [flat, List.flatMap_cons]
    rw [List.getElem?_append_right (by rw [hs, Nat.add_mul]; omega), hs]
    have e : (k + 1) * sz + j - sz = k * sz + j := by rw [Nat.add_mul]; omega
    rw [e]
    exact ih

/-- Element k of a row: where its cells lie. -/
theorem Rd.row {α : Type} {enc : α → List Value} {sz : Nat} (hs : ∀ x, (enc x).length = sz) (hpos : 0 < sz) {w : World} {S : Nat → Prop} {A : Option Addr} {l : List α} (h : Rd w S A (flat enc l)) {k : Nat} (hk : k < l.length) :
    ∃ b off x, A = some ⟨b, off, none⟩ ∧ S b ∧ l[k]? = some x ∧ ∀ (j : Nat) (v : Value), (enc x)[j]? = some v → w.cell? ⟨b, off + k * sz + j, none⟩ = some v := by
  have hlen := flat_length hs l
  obtain ⟨b, off, hA, hS, hc⟩ := h.at_ (k := k * sz) (by
    rw [hlen]
    exact Nat.mul_lt_mul_of_pos_right hk hpos)
  refine ⟨b, off, l[k], hA, hS, List.getElem?_eq_getElem hk, fun j v hv => ?_⟩
  rw [Nat.add_assoc]
  exact hc _ _ (flat_get hs l k _ (List.getElem?_eq_getElem hk) j v hv)

/-- Where the slices of a configuration lie, and their capacities. -/
structure CfgA where
  az : Option Addr
  cz : Nat
  ac : Option Addr
  cc : Nat
  at_ : Option Addr
  ct : Nat
  av : Option Addr
  cv : Nat
  ar : Option Addr
  cr : Nat
  ao : Option Addr
  co : Nat
def cfgC (x : CfgA) (c : Cfg) : Array Value := #[.int .i64 c.regions, .slice x.az c.zones.length x.cz, .slice x.ac c.cells.length x.cc, .slice x.at_ c.tenants.length x.ct, .slice x.av c.versions.length x.cv,
  .slice x.ar c.replicas.length x.cr, .slice x.ao c.observers.length x.co, .int .i64 c.blast, .int .i64 c.lease, .int .i64 c.bake]

structure CfgOk (w : World) (S : Nat → Prop) (x : CfgA) (c : Cfg) : Prop where
  zones : Rd w S x.az (flat intC c.zones)
  cells : Rd w S x.ac (flat pairC c.cells)
  tenants : Rd w S x.at_ (flat tenC c.tenants)
  versions : Rd w S x.av (flat pairC c.versions)
  replicas : Rd w S x.ar (flat intC c.replicas)
  observers : Rd w S x.ao (flat intC c.observers)

theorem CfgOk.keep {w w' : World} {S : Nat → Prop} {x : CfgA} {c : Cfg} (h : CfgOk w S x c) (hk : ∀ k, S k → w'.heap[k]? = w.heap[k]?) : CfgOk w' S x c :=
  ⟨h.zones.keep hk, h.cells.keep hk, h.tenants.keep hk, h.versions.keep hk, h.replicas.keep hk, h.observers.keep hk⟩
theorem CfgOk.more {w : World} {S S' : Nat → Prop} {x : CfgA} {c : Cfg} (h : CfgOk w S x c) (hS : ∀ b, S b → S' b) : CfgOk w S' x c :=
  ⟨h.zones.more hS, h.cells.more hS, h.tenants.more hS, h.versions.more hS, h.replicas.more hS, h.observers.more hS⟩
theorem CfgOk.below {w w' : World} {B : Nat} {x : CfgA} {c : Cfg} (h : CfgOk w (· < B) x c) (hb : Below B w w') : CfgOk w' (· < B) x c := h.keep fun k hk => hb.block k hk

structure StA where
  at_ : Option Addr
  ct : Nat
  ac : Option Addr
  cc : Nat
def stC (x : StA) (s : St) : Array Value := #[.int .i64 s.tick, .int .i64 s.count, .slice x.at_ s.tenants.length x.ct, .slice x.ac s.cells.length x.cc, .int .i64 s.proven, .int .i64 s.evac, .int .i64 s.low, .int .i64 s.high]
structure StOk (w : World) (S : Nat → Prop) (x : StA) (s : St) : Prop where
  tenants : Rd w S x.at_ (flat tsC s.tenants)
  cells : Rd w S x.ac (flat csC s.cells)
theorem StOk.keep {w w' : World} {S : Nat → Prop} {x : StA} {s : St} (h : StOk w S x s) (hk : ∀ k, S k → w'.heap[k]? = w.heap[k]?) : StOk w' S x s := ⟨h.tenants.keep hk, h.cells.keep hk⟩
theorem StOk.more {w : World} {S S' : Nat → Prop} {x : StA} {s : St} (h : StOk w S x s) (hS : ∀ b, S b → S' b) : StOk w S' x s := ⟨h.tenants.more hS, h.cells.more hS⟩
theorem StOk.below {w w' : World} {B : Nat} {x : StA} {s : St} (h : StOk w (· < B) x s) (hb : Below B w w') : StOk w' (· < B) x s := h.keep fun k hk => hb.block k hk
end Go.Proofs.YtnnpgbleacapfaaGreat

/-! Plain functions on the data: what the program and the references compute. No program in sight. -/
namespace Go.Proofs.YtnnpgbleacapfaaGreat

instance : Inhabited Ten := ⟨⟨0, 0, 0, 0, 0, 0, false⟩⟩
instance : Inhabited Win := ⟨⟨0, 0, 0, 0, 0⟩⟩
instance : Inhabited TS := ⟨⟨false, false, 0, 0, 0, 0, 0, default⟩⟩
instance : Inhabited CS := ⟨⟨0, 0, 0, 0⟩⟩
instance : Inhabited Ent := ⟨⟨0, 0, 0, 0, 0, 0, 0, 0, 0⟩⟩

def inR (n lo hi : Int) : Bool := decide (lo ≤ n) && decide (n ≤ hi)

def limitsB (c : Cfg) : Bool :=
  inR c.regions 1 4 && inR c.zones.length 1 8 && inR c.cells.length 1 16 && inR c.versions.length 1 30 && inR c.replicas.length 1 5 && inR c.observers.length 1 9 && decide (c.tenants.length ≤ 32)
/-- Lengths that a machine can have. -/
def Lens (c : Cfg) : Prop := c.zones.length ≤ maxLen ∧ c.cells.length ≤ maxLen ∧ c.tenants.length ≤ maxLen ∧ c.versions.length ≤ maxLen ∧ c.replicas.length ≤ maxLen ∧ c.observers.length ≤ maxLen
def placesB (c : Cfg) : Bool :=
  c.zones.all (fun z => inR z 0 (c.regions - 1)) && c.cells.all (fun y => inR y.1 0 (c.zones.length - 1)) && c.replicas.all (fun z => inR z 0 (c.zones.length - 1)) && c.observers.all (fun z => inR z 0 (c.zones.length - 1))
/-- A version's range, at its index. -/
def verOk (i : Nat) (v : Int × Int) : Bool := decide (0 ≤ v.1) && decide (v.1 ≤ v.2) && decide (v.2 ≤ 30) && (decide (i ≠ 0) || decide (v.1 = 0))
def versOk (l : List (Int × Int)) : Bool := (List.range l.length).all fun i => match l[i]? with | some v => verOk i v | none => true
def valuesB (c : Cfg) : Bool :=
  c.cells.all (fun y => inR y.2 1 4194304) && versOk c.versions && (inR c.blast 1 16 && inR c.lease 1 1000 && inR c.bake 0 10000)
/-- What topo.Valid answers. -/
def topoErr (c : Cfg) : Int :=
  if limitsB c = false then 2 else if c.replicas.length % 2 = 0 ∨ placesB c = false ∨ valuesB c = false then 1 else 0
/-- 1 << r, for a number of regions. -/
def shl1 (r : Int) : Int := if r = 1 then 2 else if r = 2 then 4 else if r = 3 then 8 else 16
def tenOk (r : Int) (t : Ten) : Bool :=
  inR t.load 1 65536 && inR t.shadow 0 t.load && inR t.prio 0 9 && inR t.lag (-1) 1000 && inR t.allowed 1 (shl1 r - 1) && inR t.group 0 32
/-- What tenant.Valid answers. -/
def cfgErr (c : Cfg) : Int := if topoErr c ≠ 0 then topoErr c else if c.tenants.all (tenOk c.regions) then 0 else 1

/-! Cells, regions, sets. -/
def zoneOf (c : Cfg) (k : Int) : Int := if 0 ≤ k ∧ k < c.cells.length then (c.cells.getD k.toNat (0, 0)).1 else -1
def regZone (c : Cfg) (z : Int) : Int := if 0 ≤ z ∧ z < c.zones.length then c.zones.getD z.toNat 0 else -1
def regionOf (c : Cfg) (k : Int) : Int := regZone c (zoneOf c k)
def bitB (set i : Int) : Bool := set.toNat.testBit i.toNat
def hasB (set i : Int) : Bool := decide (0 ≤ i) && decide (i < 62) && bitB set i
def tenAt (c : Cfg) (i : Int) : Ten := c.tenants.getD i.toNat default
def mayB (c : Cfg) (t k : Int) : Bool := decide (0 ≤ t) && decide (t < c.tenants.length) && hasB (tenAt c t).allowed (regionOf c k)
def apartB (c : Cfg) (a b : Int) : Bool := decide (0 ≤ regionOf c a) && decide (0 ≤ regionOf c b) && decide (regionOf c a ≠ regionOf c b)

/-! Entries. -/
def fT (nt k : Int) : Int × Int := if k ≤ 8 then (0, nt - 1) else (-1, -1)
def fC (nc k : Int) : Int × Int := if k = 1 ∨ k = 2 ∨ k = 5 ∨ k = 6 ∨ k = 9 ∨ k = 10 ∨ k = 11 then (0, nc - 1) else if k = 4 then (-1, nc - 1) else (-1, -1)
def fO (nc nr k : Int) : Int × Int := if k = 1 then (-1, nc - 1) else if k = 13 then (0, nr - 1) else (-1, -1)
def fE (k : Int) : Int × Int := if k = 2 ∨ k = 3 then (1, 1048576) else (0, 0)
def fW (k : Int) : Int × Int := if k = 2 then (0, 1073741824) else (0, 0)
def fN (nv k : Int) : Int × Int := if k = 2 ∨ k = 10 ∨ k = 11 ∨ k = 12 then (0, nv - 1) else if k = 8 ∨ k = 13 then (0, 1) else if k = 9 then (1, 3) else if k = 16 then (0, 1073741824) else (0, 0)
def inS (n : Int) (s : Int × Int) : Bool := inR n s.1 s.2
def entOk (nt nc nr nv : Int) (e : Ent) : Bool :=
  inR e.kind 1 16 && inR e.tick 0 1073741824 && inS e.tenant (fT nt e.kind) && inS e.cell (fC nc e.kind) && inS e.other (fO nc nr e.kind) && inS e.epoch (fE e.kind) && inS e.since (fW e.kind) && inS e.till (fW e.kind) && inS e.n (fN nv e.kind) && (decide (e.kind ≠ 1) || decide (e.other ≠ e.cell))
def entV (c : Cfg) (e : Ent) : Bool := entOk c.tenants.length c.cells.length c.regions c.versions.length e

/-! States. -/
def St.zero : St := ⟨0, 0, [], [], 0, 0, 0, 0⟩
def tsNew : TS := ⟨false, false, -1, -1, -1, -1, 0, ⟨-1, 0, 0, 0, 0⟩⟩
def csNew : CS := ⟨1, 0, 0, 0⟩
def stNew (c : Cfg) : St := ⟨0, 0, List.replicate c.tenants.length tsNew, List.replicate c.cells.length csNew, 1, 0, 0, 0⟩
def tsAt (s : St) (i : Int) : TS := s.tenants.getD i.toNat default
def csAt (s : St) (i : Int) : CS := s.cells.getD i.toNat default
def verAt (c : Cfg) (i : Int) : Int × Int := c.versions.getD i.toNat (0, 0)
def openB (p : Int) (x : CS) : Bool := !hasB p x.running || !hasB p x.wanted
def frozenB (c : Cfg) (s : St) (k : Int) : Bool := hasB s.evac (regionOf c k)
def nearB (c : Cfg) (a b : Int) : Bool := decide (b ≠ -1) && !apartB c a b
/-- The cells that are unproven. -/
def unproven (s : St) : List Int := ((List.range s.cells.length).filter fun i => openB s.proven (s.cells.getD i default)).map Int.ofNat

/-- The errors of entries that are valid, but that of the capacity. -/
def placeE (c : Cfg) (s : St) (e : Ent) : Int :=
  if (tsAt s e.tenant).placed then 4
  else if (csAt s e.cell).mode ≠ 1 ∨ (e.other ≠ -1 ∧ (csAt s e.other).mode ≠ 1) then 6
  else if frozenB c s e.cell ∨ (e.other ≠ -1 ∧ frozenB c s e.other) then 12
  else if mayB c e.tenant e.cell = false ∨ (e.other ≠ -1 ∧ mayB c e.tenant e.other = false) ∨ nearB c e.cell e.other then 11 else 0
def grantE (c : Cfg) (s : St) (e : Ent) : Int :=
  let t := tsAt s e.tenant
  let x := csAt s e.cell
  if t.placed = false ∨ (t.shed ∧ e.cell ≠ t.standby) then 4
  else if e.cell ≠ t.home ∧ e.cell ≠ t.standby ∧ e.cell ≠ t.target then 5
  else if x.mode = 3 ∨ (x.mode = 2 ∧ e.cell ≠ t.home) then 6
  else if e.epoch ≠ t.epoch + 1 ∧ ¬ (e.cell = t.home ∧ e.epoch = t.epoch) then 7
  else if e.n ≠ x.running ∨ x.running ≠ x.wanted then 8
  else if e.since < e.tick ∨ e.tick + c.lease < e.since ∨ e.till ≤ e.since ∨ c.lease < e.till - e.since ∨ e.since < t.win.till ∨ (e.cell ≠ t.home ∧ e.tick < t.win.till) then 9 else 0
def cutE (s : St) (e : Ent) : Int :=
  let t := tsAt s e.tenant
  if t.placed = false then 4 else if e.epoch ≠ t.epoch then 7 else 0
def standbyE (c : Cfg) (s : St) (e : Ent) : Int :=
  let t := tsAt s e.tenant
  if t.placed = false then 4 else if e.cell = -1 then 0
  else if e.cell = t.home ∨ e.cell = t.standby ∨ e.cell = t.target then 5
  else if (csAt s e.cell).mode ≠ 1 then 6
  else if frozenB c s e.cell then 12
  else if mayB c e.tenant e.cell = false ∨ nearB c e.cell t.home ∨ nearB c e.cell t.target then 11 else 0
def readyE (s : St) (e : Ent) : Int :=
  let t := tsAt s e.tenant
  if t.placed = false then 4 else if e.cell ≠ t.next then 5 else if (csAt s e.cell).mode = 3 then 6 else 0
def migrateE (c : Cfg) (s : St) (e : Ent) : Int :=
  let t := tsAt s e.tenant
  if t.placed = false ∨ t.shed ∨ t.target ≠ -1 then 4
  else if e.cell = t.home ∨ e.cell = t.standby ∨ e.cell = t.next then 5
  else if (csAt s e.cell).mode ≠ 1 then 6
  else if frozenB c s e.cell then 12
  else if mayB c e.tenant e.cell = false ∨ nearB c e.cell t.standby ∨ nearB c e.cell t.next then 11 else 0
def abandonE (s : St) (e : Ent) : Int :=
  let t := tsAt s e.tenant
  if t.placed = false ∨ t.target = -1 then 4 else 0
def shedE (s : St) (e : Ent) : Int :=
  let t := tsAt s e.tenant
  if e.n = 0 then (if t.shed = false then 4 else if (csAt s t.home).mode = 3 then 6 else 0)
  else if t.placed = false ∨ t.shed then 4 else if e.tick < t.win.till then 9 else 0
def modeE (s : St) (e : Ent) : Int := if (csAt s e.cell).mode = e.n then 4 else 0
/-- The number of unproven cells but one. -/
def others (s : St) (k : Int) : Nat := ((List.range s.cells.length).filter fun (i : Nat) => decide ((i : Int) ≠ k) && openB s.proven (s.cells.getD i default)).length
def wantE (c : Cfg) (s : St) (e : Ent) : Int :=
  let x := csAt s e.cell
  if x.wanted = e.n then 4
  else if s.low < (verAt c e.n).1 ∨ (verAt c e.n).2 < s.high then 13
  else if x.running = e.n ∨ hasB s.proven e.n then 0
  else if s.evac ≠ 0 then 12
  else if c.blast ≤ others s e.cell then 14 else 0
def runsE (s : St) (e : Ent) : Int :=
  let x := csAt s e.cell
  if x.wanted ≠ e.n ∨ x.running = x.wanted then 4
  else if hasB s.proven e.n = false ∧ s.evac ≠ 0 then 12
  else if s.tenants.any (fun t => decide (t.win.cell = e.cell) && decide (e.tick < t.win.till)) then 9 else 0
def bakedB (c : Cfg) (e : Ent) (x : CS) : Bool := decide (x.mode ≠ 3) && decide (x.running = e.n) && decide (x.wanted = e.n) && decide (c.bake ≤ e.tick - x.since)
def proveE (c : Cfg) (s : St) (e : Ent) : Int := if hasB s.proven e.n then 4 else if s.cells.any (bakedB c e) then 0 else 15
def evacE (s : St) (e : Ent) : Int := if hasB s.evac e.other = decide (e.n = 1) then 4 else 0
def blockB (c : Cfg) (s : St) (x : CS) : Bool := decide ((verAt c x.running).2 ≤ s.high) || decide ((verAt c x.wanted).2 ≤ s.high)
def expandE (c : Cfg) (s : St) : Int := if s.low < s.high then 4 else if 30 ≤ s.high then 2 else if s.cells.any (blockB c s) then 13 else 0
def contractE (s : St) : Int := if s.high = s.low then 4 else 0
def kindE (c : Cfg) (s : St) (e : Ent) : Int :=
  if e.kind = 1 then placeE c s e else if e.kind = 2 then grantE c s e else if e.kind = 3 then cutE s e else if e.kind = 4 then standbyE c s e
  else if e.kind = 5 then readyE s e else if e.kind = 6 then migrateE c s e else if e.kind = 7 then abandonE s e else if e.kind = 8 then shedE s e
  else if e.kind = 9 then modeE s e else if e.kind = 10 then wantE c s e else if e.kind = 11 then runsE s e else if e.kind = 12 then proveE c s e
  else if e.kind = 13 then evacE s e else if e.kind = 14 then expandE c s else if e.kind = 15 then contractE s else 0
def refusedE (c : Cfg) (s : St) (e : Ent) : Int :=
  if entV c e = false then 1 else if 4096 ≤ s.count then 2 else if e.tick < s.tick then 3 else kindE c s e

/-- What entries do. -/
def cutW (x : Win) (tick : Int) : Win := { x with till := min x.till (tick + 1), since := min x.since (min x.till (tick + 1)) }
def grantT (t : TS) (e : Ent) : TS :=
  let t1 : TS := { t with win := ⟨e.cell, e.epoch, e.n, e.since, e.till⟩, epoch := e.epoch }
  if e.cell = t.home then t1
  else if e.cell = t.standby then { t1 with home := e.cell, standby := -1, next := -1, target := -1, shed := false }
  else { t1 with home := e.cell, target := -1 }
def tenEff (t : TS) (e : Ent) : TS :=
  if e.kind = 1 then { t with placed := true, home := e.cell, standby := e.other }
  else if e.kind = 2 then grantT t e
  else if e.kind = 3 then { t with win := cutW t.win e.tick }
  else if e.kind = 4 then { t with next := e.cell }
  else if e.kind = 5 then { t with standby := e.cell, next := -1 }
  else if e.kind = 6 then { t with target := e.cell }
  else if e.kind = 7 then { t with target := -1 }
  else if e.kind = 8 then (if e.n = 1 then { t with shed := true, target := -1 } else { t with shed := false })
  else t
def celEff (x : CS) (e : Ent) : CS :=
  if e.kind = 9 then { x with mode := e.n, since := e.tick }
  else if e.kind = 10 then { x with wanted := e.n }
  else if e.kind = 11 then { x with running := e.n, since := e.tick }
  else x
def setTen (s : St) (i : Int) (t : TS) : St := { s with tenants := s.tenants.set i.toNat t }
def setCel (s : St) (i : Int) (x : CS) : St := { s with cells := s.cells.set i.toNat x }
def orBit (set i : Int) : Int := (set.toNat ||| (1 <<< i.toNat) : Nat)
def flipBit (set i : Int) : Int := (set.toNat ^^^ (1 <<< i.toNat) : Nat)
def stamped (s : St) (e : Ent) : St := { s with tick := e.tick, count := s.count + 1 }
def effOf (s0 : St) (e : Ent) : St :=
  let s := stamped s0 e
  if e.kind ≤ 8 then setTen s e.tenant (tenEff (tsAt s0 e.tenant) e)
  else if e.kind ≤ 11 then setCel s e.cell (celEff (csAt s0 e.cell) e)
  else if e.kind = 12 then { s with proven := orBit s.proven e.n }
  else if e.kind = 13 then { s with evac := flipBit s.evac e.other }
  else if e.kind = 14 then { s with high := s.high + 1 }
  else if e.kind = 15 then { s with low := s.high }
  else s

/-! The load. -/
def addAt (l : List Int) (i n : Int) : List Int := if 0 ≤ i ∧ i < l.length then l.set i.toNat (l.getD i.toNat 0 + n) else l
def bookT (l : List Int) (t : TS) (d : Ten) : List Int :=
  if t.placed = false then l
  else addAt (addAt (if t.shed then l else addAt (addAt l t.home d.load) t.target d.load) t.standby d.shadow) t.next d.shadow
def booked (c : Cfg) (s : St) : List Int := (s.tenants.zip c.tenants).foldl (fun l p => bookT l p.1 p.2) (List.replicate c.cells.length 0)
def overB (c : Cfg) (s : St) : Bool := (List.range c.cells.length).any fun i => decide ((c.cells.getD i (0, 0)).2 < (booked c s).getD i 0)
def over (c : Cfg) (s : St) : List Int := ((List.range c.cells.length).filter fun i => decide ((c.cells.getD i (0, 0)).2 < (booked c s).getD i 0)).map Int.ofNat
def booksB (e : Ent) : Bool := decide (e.kind = 1) || decide (e.kind = 2) || decide (e.kind = 6) || (decide (e.kind = 4) && decide (e.cell ≠ -1)) || (decide (e.kind = 8) && decide (e.n = 0))
/-- What the program's Apply answers. -/
def applyP (c : Cfg) (s : St) (e : Ent) : St × Int :=
  if refusedE c s e ≠ 0 then (St.zero, refusedE c s e)
  else if booksB e ∧ overB c (effOf s e) then (St.zero, 10) else (effOf s e, 0)
def fitsB (e : Ent) : Bool := decide (e.kind = 1) || decide (e.kind = 2) || decide (e.kind = 6) || decide (e.kind = 4) || (decide (e.kind = 8) && decide (e.n ≠ 1))
/-- What the reference's Apply answers. -/
def applyR (c : Cfg) (s : St) (e : Ent) : St × Int :=
  if refusedE c s e ≠ 0 then (St.zero, refusedE c s e)
  else if fitsB e ∧ overB c (effOf s e) then (St.zero, 10) else (effOf s e, 0)
def foldP (c : Cfg) (ap : Cfg → St → Ent → St × Int) : St → Nat → List Ent → St × Nat × Int
  | s, n, [] => (s, n, 0)
  | s, n, e :: l => if (ap c s e).2 ≠ 0 then (s, n, (ap c s e).2) else foldP c ap (ap c s e).1 (n + 1) l
end Go.Proofs.YtnnpgbleacapfaaGreat

namespace Go.Proofs.YtnnpgbleacapfaaGreat
open Go.RowKit

/-- The worlds that are as w below block B. -/
def Later (B : Nat) (w : World) : Type := { w' : World // Below B w w' }
def Later.world {B : Nat} {w : World} (x : Later B w) : World := x.1
theorem Later.below {B : Nat} {w : World} (x : Later B w) : Below B w x.world := x.2
theorem Later.cell {B : Nat} {w : World} (x : Later B w) {b o : Nat} (hb : b < B) : x.world.cell? ⟨b, o, none⟩ = w.cell? ⟨b, o, none⟩ := x.below.cell (p := ⟨b, o, none⟩) hb

section
variable {P : Program}
/-- A region that draws its order, whose operations read what lies below B and whose callees leave that alone: one walk in the order of the text. -/
theorem wp_region_below (B : Nat) {id : Nat} {Q : Exit → Act → World → Prop} {a : Act} {w : World} {l : List Oper} (hm : P.follows .mixedOrders = true) (hB : Region.lexB .any l.toArray = true)
    (h : wpQuiet P l.toArray (fun w' => ∃ x : Later B w, w' = x.world) (fun a' => ∀ w', (∃ x : Later B w, w' = x.world) → Q .normal a' w') l a) : (Code.region id l.toArray true).wp P Q a w :=
  wp_region_quiet (C := fun w' => ∃ x : Later B w, w' = x.world) hm hB ⟨⟨w.drew, (Below.refl B w).drew⟩, rfl⟩ (by simpa using h)

/-- A callee that leaves what lies below B alone. -/
theorem quiet_below {B : Nat} {w : World} (x : Later B w) {f : FuncId} {args : Array Value} {v : Value}
    (h : Calls P f args x.world fun e w' => e = .returned v ∧ Below B x.world w') : Calls P f args x.world fun e w'' => e = .returned v ∧ ∃ y : Later B w, w'' = y.world :=
  h.mono fun _ w' ⟨he, hb⟩ => ⟨he, ⟨⟨w', x.below.trans hb⟩, rfl⟩⟩
end
end Go.Proofs.YtnnpgbleacapfaaGreat

namespace Go.Proofs.YtnnpgbleacapfaaGreat
open Go.RowKit
set_option linter.unusedSimpArgs false
set_option linter.unusedVariables false

theorem getD_some {α : Type} {l : List α} {n : Nat} {z d : α} (h : l[n]? = some z) : l.getD n d = z := by rw [List.getD_eq_getElem?_getD, h]; rfl

theorem bcell {W w1 : World} {B : Nat} (hb : Below B W w1) : (∀ b o, b < B → w1.cell? ⟨b, o, none⟩ = W.cell? ⟨b, o, none⟩) ∧ (∀ b o, b < B → w1.frozen? ⟨b, o, none⟩ = W.frozen? ⟨b, o, none⟩) :=
  ⟨fun b o h => hb.cell (p := ⟨b, o, none⟩) h, fun b o h => hb.frozen (p := ⟨b, o, none⟩) h⟩

section
variable {w w' : World} {x : CfgA} {c : Cfg} {y : StA} {s : St}
theorem CfgOk.allocW (h : CfgOk w (· < w.heap.size) x c) (o : Obj) : CfgOk (w.alloc o) (· < (w.alloc o).heap.size) x c :=
  (h.keep fun k hk => Below.heap_alloc _ _ _ hk).more fun b hb => by simp; omega
theorem CfgOk.belowW (h : CfgOk w (· < w.heap.size) x c) (hb : Below w.heap.size w w') : CfgOk w' (· < w'.heap.size) x c :=
  (h.keep fun k hk => hb.block k hk).more fun b hk => Nat.lt_of_lt_of_le hk hb.size
theorem StOk.allocW (h : StOk w (· < w.heap.size) y s) (o : Obj) : StOk (w.alloc o) (· < (w.alloc o).heap.size) y s :=
  (h.keep fun k hk => Below.heap_alloc _ _ _ hk).more fun b hb => by simp; omega
theorem StOk.belowW (h : StOk w (· < w.heap.size) y s) (hb : Below w.heap.size w w') : StOk w' (· < w'.heap.size) y s :=
  (h.keep fun k hk => hb.block k hk).more fun b hk => Nat.lt_of_lt_of_le hk hb.size
end

/-- What is known of a valid configuration. -/
structure CfgV (c : Cfg) : Prop where
  reg : 1 ≤ c.regions ∧ c.regions ≤ 4
  nz : 1 ≤ c.zones.length ∧ c.zones.length ≤ 8
  nc : 1 ≤ c.cells.length ∧ c.cells.length ≤ 16
  nt : c.tenants.length ≤ 32
  nv : 1 ≤ c.versions.length ∧ c.versions.length ≤ 30
  zone : ∀ y ∈ c.cells, 0 ≤ y.1 ∧ y.1 < c.zones.length
  capy : ∀ y ∈ c.cells, 1 ≤ y.2 ∧ y.2 ≤ 4194304
  region : ∀ z ∈ c.zones, 0 ≤ z ∧ z < c.regions
  ten : ∀ t ∈ c.tenants, tenOk c.regions t = true
  ver : ∀ k v, c.versions[k]? = some v → verOk k v = true
  blast : 1 ≤ c.blast ∧ c.blast ≤ 16
  lease : 1 ≤ c.lease ∧ c.lease ≤ 1000
  bake : 0 ≤ c.bake ∧ c.bake ≤ 10000

theorem cfgV_of {c : Cfg} (h : cfgErr c = 0) : CfgV c := by
  have h1 : topoErr c = 0 := by
    unfold cfgErr at h
    split at h
    · exact h
    · rename_i hh; exact Classical.not_not.1 hh
  have h2 : c.tenants.all (tenOk c.regions) = true := by
    unfold cfgErr at h
    rw [if_neg (by simp [h1])] at h
    split at h
    · assumption
    · omega
  have h3 : limitsB c = true := by
    unfold topoErr at h1
    split at h1
    · omega
    · rename_i hh; simpa using hh
  have h4 : placesB c = true ∧ valuesB c = true := by
    unfold topoErr at h1
    rw [if_neg (by simp [h3])] at h1
    split at h1
    · omega
    · rename_i hh
      refine ⟨?_, ?_⟩
      · cases hp : placesB c with
        | true => rfl
        | false => exact absurd (.inr (.inl hp)) hh
      · cases hp : valuesB c with
        | true => rfl
        | false => exact absurd (.inr (.inr hp)) hh
  obtain ⟨h5, h6⟩ := h4
  simp only [placesB, Bool.and_eq_true, List.all_eq_true] at h5
  simp only [valuesB, Bool.and_eq_true, List.all_eq_true, versOk] at h6
  simp [limitsB, inR] at h3
  refine ⟨by omega, by omega, by omega, by omega, by omega, fun y hy => ?_, fun y hy => ?_, fun z hz => ?_, fun t ht => List.all_eq_true.1 h2 t ht, fun k v hv => ?_, ?_, ?_, ?_⟩
  · have := h5.1.1.2 y hy; simp [inR] at this; omega
  · have := h6.1.1 y hy; simp [inR] at this; omega
  · have := h5.1.1.1 z hz; simp [inR] at this; omega
  · have := h6.1.2 k (List.mem_range.2 (List.getElem?_eq_some_iff.1 hv).1)
    rwa [hv] at this
  · have := h6.2.1.1; simp [inR] at this; omega
  · have := h6.2.1.2; simp [inR] at this; omega
  · have := h6.2.2; simp [inR] at this; omega

theorem bit_div (set i : Int) (h0 : 0 ≤ set) (hi : 0 ≤ i) : ((set / 2 ^ i.toNat).tmod 2 != 0) = bitB set i := by
  obtain ⟨n, rfl⟩ := Int.eq_ofNat_of_zero_le h0
  unfold bitB
  rw [Nat.testBit_eq_decide_div_mod_eq]
  have e : ((n : Int) / 2 ^ i.toNat) = ((n / 2 ^ i.toNat : Nat) : Int) := by
    rw [Int.natCast_ediv]
    simp
  have e2 : (((n / 2 ^ i.toNat : Nat) : Int)).tmod 2 = ((n / 2 ^ i.toNat % 2 : Nat) : Int) := (Int.ofNat_tmod (n / 2 ^ i.toNat) 2).symm
  rw [e, e2, Int.toNat_natCast]
  have : (n / 2 ^ i.toNat) % 2 = 0 ∨ (n / 2 ^ i.toNat) % 2 = 1 := by omega
  rcases this with h | h
  · simp [h]
  · simp [h]
end Go.Proofs.YtnnpgbleacapfaaGreat

namespace Go.Proofs.YtnnpgbleacapfaaGreat
open Go.RowKit
set_option linter.unusedSimpArgs false
set_option linter.unusedVariables false
/-! What holds of every reached state. No program in sight. -/

structure TsInv (c : Cfg) (t : TS) : Prop where
  home : -1 ≤ t.home ∧ t.home < c.cells.length
  standby : -1 ≤ t.standby ∧ t.standby < c.cells.length
  next : -1 ≤ t.next ∧ t.next < c.cells.length
  target : -1 ≤ t.target ∧ t.target < c.cells.length
  epoch : 0 ≤ t.epoch ∧ t.epoch ≤ 1048576
  wcell : -1 ≤ t.win.cell ∧ t.win.cell < c.cells.length
  wepoch : 0 ≤ t.win.epoch ∧ t.win.epoch ≤ 1048576
  wver : 0 ≤ t.win.version ∧ t.win.version < c.versions.length
  wsince : 0 ≤ t.win.since ∧ t.win.since ≤ 1073741824
  wtill : 0 ≤ t.win.till ∧ t.win.till ≤ 1073741824
  placed : t.placed = true → 0 ≤ t.home
  shed : t.shed = true → t.placed = true
structure CsInv (c : Cfg) (lo hi : Int) (x : CS) : Prop where
  mode : 1 ≤ x.mode ∧ x.mode ≤ 3
  running : 0 ≤ x.running ∧ x.running < c.versions.length
  wanted : 0 ≤ x.wanted ∧ x.wanted < c.versions.length
  since : 0 ≤ x.since ∧ x.since ≤ 1073741824
  runs : (verAt c x.running).1 ≤ lo ∧ hi ≤ (verAt c x.running).2
  wants : (verAt c x.wanted).1 ≤ lo ∧ hi ≤ (verAt c x.wanted).2
structure StInv (c : Cfg) (s : St) : Prop where
  lt : s.tenants.length = c.tenants.length
  lc : s.cells.length = c.cells.length
  tick : 0 ≤ s.tick ∧ s.tick ≤ 1073741824
  count : 0 ≤ s.count ∧ s.count ≤ 4096
  proven : 0 ≤ s.proven ∧ s.proven < 1073741824
  evac : 0 ≤ s.evac ∧ s.evac < 16
  low : 0 ≤ s.low ∧ s.low ≤ s.high ∧ s.high ≤ s.low + 1 ∧ s.high ≤ 30
  ten : ∀ t ∈ s.tenants, TsInv c t
  cel : ∀ x ∈ s.cells, CsInv c s.low s.high x

theorem verAt_zero {c : Cfg} (hV : CfgV c) : (verAt c 0).1 = 0 ∧ 0 ≤ (verAt c 0).2 := by
  have h := hV.nv
  have h0 : c.versions[0]? = some c.versions[0] := List.getElem?_eq_getElem (by omega)
  have h1 := hV.ver 0 _ h0
  unfold verAt
  rw [show (0 : Int).toNat = 0 from rfl, getD_some h0]
  simp [verOk] at h1
  omega
theorem stNew_inv {c : Cfg} (hV : CfgV c) : StInv c (stNew c) := by
  have h := hV.nv
  have hz := verAt_zero hV
  refine ⟨by simp [stNew], by simp [stNew], by simp [stNew], by simp [stNew], by simp [stNew], by simp [stNew], by simp [stNew], fun t ht => ?_, fun x hx => ?_⟩
  · obtain rfl := List.eq_of_mem_replicate (show t ∈ List.replicate c.tenants.length tsNew from ht)
    constructor <;> simp [tsNew] <;> omega
  · obtain rfl := List.eq_of_mem_replicate (show x ∈ List.replicate c.cells.length csNew from hx)
    constructor <;> simp [csNew, stNew] <;> omega

theorem tsAt_mem {s : St} {i : Int} (h0 : 0 ≤ i) (h1 : i < s.tenants.length) : s.tenants[i.toNat]? = some (tsAt s i) ∧ tsAt s i ∈ s.tenants := by
  have h : i.toNat < s.tenants.length := by omega
  have e := List.getElem?_eq_getElem h
  have : tsAt s i = s.tenants[i.toNat] := getD_some e
  rw [this]
  exact ⟨e, List.getElem_mem h⟩
theorem csAt_mem {s : St} {i : Int} (h0 : 0 ≤ i) (h1 : i < s.cells.length) : s.cells[i.toNat]? = some (csAt s i) ∧ csAt s i ∈ s.cells := by
  have h : i.toNat < s.cells.length := by omega
  have e := List.getElem?_eq_getElem h
  have : csAt s i = s.cells[i.toNat] := getD_some e
  rw [this]
  exact ⟨e, List.getElem_mem h⟩
theorem orBit_lt {a i : Int} {m : Nat} (h0 : 0 ≤ a) (h1 : a < 2 ^ m) (hi : i.toNat < m) : 0 ≤ orBit a i ∧ orBit a i < 2 ^ m := by
  obtain ⟨n, rfl⟩ := Int.eq_ofNat_of_zero_le h0
  have hn : n < 2 ^ m := by exact_mod_cast h1
  have h2 : 1 <<< i.toNat < 2 ^ m := by rw [Nat.one_shiftLeft]; exact Nat.pow_lt_pow_right (by omega) hi
  have := Nat.or_lt_two_pow hn h2
  unfold orBit
  rw [Int.toNat_natCast]
  refine ⟨Int.natCast_nonneg _, ?_⟩
  exact_mod_cast this
theorem flipBit_lt {a i : Int} {m : Nat} (h0 : 0 ≤ a) (h1 : a < 2 ^ m) (hi : i.toNat < m) : 0 ≤ flipBit a i ∧ flipBit a i < 2 ^ m := by
  obtain ⟨n, rfl⟩ := Int.eq_ofNat_of_zero_le h0
  have hn : n < 2 ^ m := by exact_mod_cast h1
  have h2 : 1 <<< i.toNat < 2 ^ m := by rw [Nat.one_shiftLeft]; exact Nat.pow_lt_pow_right (by omega) hi
  have := Nat.xor_lt_two_pow hn h2
  unfold flipBit
  rw [Int.toNat_natCast]
  refine ⟨Int.natCast_nonneg _, ?_⟩
  exact_mod_cast this

/-- The facts behind an entry that is not refused. -/
structure Acc (c : Cfg) (s : St) (e : Ent) : Prop where
  ent : entV c e = true
  cnt : s.count < 4096
  tick : s.tick ≤ e.tick
  kind : kindE c s e = 0
theorem acc_of {c : Cfg} {s : St} {e : Ent} (h : refusedE c s e = 0) : Acc c s e := by
  unfold refusedE at h
  by_cases h1 : entV c e = false
  · rw [if_pos h1] at h; omega
  rw [if_neg h1] at h
  by_cases h2 : 4096 ≤ s.count
  · rw [if_pos h2] at h; omega
  rw [if_neg h2] at h
  by_cases h3 : e.tick < s.tick
  · rw [if_pos h3] at h; omega
  rw [if_neg h3] at h
  exact ⟨by simpa using h1, by omega, by omega, h⟩
theorem ent_kind {c : Cfg} {e : Ent} (h : entV c e = true) : e.kind = 1 ∨ e.kind = 2 ∨ e.kind = 3 ∨ e.kind = 4 ∨ e.kind = 5 ∨ e.kind = 6 ∨ e.kind = 7 ∨ e.kind = 8 ∨ e.kind = 9 ∨ e.kind = 10 ∨ e.kind = 11 ∨ e.kind = 12 ∨ e.kind = 13 ∨ e.kind = 14 ∨ e.kind = 15 ∨ e.kind = 16 := by
  have : inR e.kind 1 16 = true := by
    unfold entV entOk at h
    simp only [Bool.and_eq_true] at h
    exact h.1.1.1.1.1.1.1.1.1
  simp [inR] at this
  omega
/-- The ranges of the fields of a valid entry. -/
theorem ent_rng {c : Cfg} {e : Ent} (h : entV c e = true) : (0 ≤ e.tick ∧ e.tick ≤ 1073741824) ∧ inS e.tenant (fT c.tenants.length e.kind) = true ∧ inS e.cell (fC c.cells.length e.kind) = true ∧ inS e.other (fO c.cells.length c.regions e.kind) = true ∧
    inS e.epoch (fE e.kind) = true ∧ inS e.since (fW e.kind) = true ∧ inS e.till (fW e.kind) = true ∧ inS e.n (fN c.versions.length e.kind) = true ∧ (e.kind ≠ 1 ∨ e.other ≠ e.cell) := by
  unfold entV entOk at h
  simp only [Bool.and_eq_true] at h
  obtain ⟨⟨⟨⟨⟨⟨⟨⟨⟨h1, h2⟩, h3⟩, h4⟩, h5⟩, h6⟩, h7⟩, h8⟩, h9⟩, h10⟩ := h
  refine ⟨by simpa [inR] using h2, h3, h4, h5, h6, h7, h8, h9, by simpa using h10⟩

theorem inv_setTen {c : Cfg} {s : St} (h : StInv c s) {e : Ent} (hc : s.count < 4096) (ht : s.tick ≤ e.tick) (ht2 : e.tick ≤ 1073741824) {i : Int} {t : TS} (hT : TsInv c t) : StInv c (setTen (stamped s e) i t) := by
  refine ⟨?_, h.lc, ⟨by have := h.tick; show 0 ≤ e.tick; omega, ht2⟩, ⟨by have := h.count; show 0 ≤ s.count + 1; omega, by show s.count + 1 ≤ 4096; omega⟩, h.proven, h.evac, h.low, fun t' ht' => ?_, h.cel⟩
  · show (s.tenants.set i.toNat t).length = _
    rw [List.length_set]; exact h.lt
  · rcases List.mem_or_eq_of_mem_set (show t' ∈ s.tenants.set i.toNat t from ht') with h1 | rfl
    · exact h.ten _ h1
    · exact hT
theorem inv_setCel {c : Cfg} {s : St} (h : StInv c s) {e : Ent} (hc : s.count < 4096) (ht : s.tick ≤ e.tick) (ht2 : e.tick ≤ 1073741824) {i : Int} {x : CS} (hX : CsInv c s.low s.high x) : StInv c (setCel (stamped s e) i x) := by
  refine ⟨h.lt, ?_, ⟨by have := h.tick; show 0 ≤ e.tick; omega, ht2⟩, ⟨by have := h.count; show 0 ≤ s.count + 1; omega, by show s.count + 1 ≤ 4096; omega⟩, h.proven, h.evac, h.low, h.ten, fun t' ht' => ?_⟩
  · show (s.cells.set i.toNat x).length = _
    rw [List.length_set]; exact h.lc
  · rcases List.mem_or_eq_of_mem_set (show t' ∈ s.cells.set i.toNat x from ht') with h1 | rfl
    · exact h.cel _ h1
    · exact hX

theorem StInv.step {c : Cfg} {s : St} {e : Ent} (hV : CfgV c) (h : StInv c s) (hr : refusedE c s e = 0) : StInv c (effOf s e) := by
  have ha := acc_of hr
  have hk := ent_kind ha.ent
  obtain ⟨hti, hT, hC, hO, hE, hS, hU, hN, hne⟩ := ent_rng ha.ent
  have hkd := ha.kind
  have hcnt := ha.cnt
  have htk := ha.tick
  have hlt := h.lt
  have hlc := h.lc
  have hnc := hV.nc
  have hnv := hV.nv
  have hreg := hV.reg
  clear ha hr
  obtain ⟨kind, tick, tenant, cell, other, epoch, since, till, n⟩ := e
  simp only at *
  by_cases h8 : kind ≤ 8
  · have hten : 0 ≤ tenant ∧ tenant < s.tenants.length := by
      have : fT c.tenants.length kind = (0, (c.tenants.length : Int) - 1) := if_pos h8
      rw [this] at hT
      simp [inS, inR] at hT
      omega
    have hti0 := h.ten _ (tsAt_mem hten.1 hten.2).2
    have eff : effOf s ⟨kind, tick, tenant, cell, other, epoch, since, till, n⟩ = setTen (stamped s ⟨kind, tick, tenant, cell, other, epoch, since, till, n⟩) tenant (tenEff (tsAt s tenant) ⟨kind, tick, tenant, cell, other, epoch, since, till, n⟩) := by
      unfold effOf
      exact if_pos h8
    rw [eff]
    refine inv_setTen h hcnt htk hti.2 ?_
    clear eff
    have hk' : kind = 1 ∨ kind = 2 ∨ kind = 3 ∨ kind = 4 ∨ kind = 5 ∨ kind = 6 ∨ kind = 7 ∨ kind = 8 := by omega
    obtain ⟨i1, i2, i3, i4, i5, i6, i7, i8, i9, i10, i11, i12⟩ := hti0
    generalize htd : tsAt s tenant = t at *
    rcases hk' with rfl | rfl | rfl | rfl | rfl | rfl | rfl | rfl
    · simp [inS, inR, fC, fO] at hC hO
      refine ⟨?_, ?_, i3, i4, i5, i6, i7, i8, i9, i10, ?_, ?_⟩ <;> simp [tenEff] <;> omega
    · simp [inS, inR, fC, fE, fW, fN] at hC hE hS hU hN
      simp only [tenEff, grantT]
      have hpl : t.placed = true := by
        cases hp : t.placed with
        | true => rfl
        | false => simp [kindE, grantE, htd, hp] at hkd
      simp only [show ¬ ((2 : Int) = 1) by omega, if_false, if_true]
      split
      · constructor <;> (try simp only) <;> first | omega | (intro hh; first | omega | exact i11 hh | exact i12 hh | exact hpl | exact hpl hn | cases hh)
      · split
        · constructor <;> (try simp only) <;> first | omega | (intro hh; first | omega | exact i11 hh | exact i12 hh | exact hpl | exact hpl hn | cases hh)
        · constructor <;> (try simp only) <;> first | omega | (intro hh; first | omega | exact i11 hh | exact i12 hh | exact hpl | exact hpl hn | cases hh)
    · refine ⟨i1, i2, i3, i4, i5, i6, i7, i8, ?_, ?_, i11, i12⟩ <;> simp [tenEff, cutW] <;> omega
    · simp [inS, inR, fC] at hC
      refine ⟨i1, i2, ?_, i4, i5, i6, i7, i8, i9, i10, i11, i12⟩ <;> simp [tenEff] <;> omega
    · simp [inS, inR, fC] at hC
      refine ⟨i1, ?_, ?_, i4, i5, i6, i7, i8, i9, i10, i11, i12⟩ <;> simp [tenEff] <;> omega
    · simp [inS, inR, fC] at hC
      refine ⟨i1, i2, i3, ?_, i5, i6, i7, i8, i9, i10, i11, i12⟩ <;> simp [tenEff] <;> omega
    · refine ⟨i1, i2, i3, ?_, i5, i6, i7, i8, i9, i10, i11, i12⟩ <;> simp [tenEff] <;> omega
    · have hpl : n = 1 → t.placed = true := by
        intro hn
        cases hp : t.placed with
        | true => rfl
        | false => simp [kindE, shedE, htd, hp, hn] at hkd
      by_cases hn : n = 1
      · simp only [tenEff, show ¬ ((8 : Int) = 1) by omega, show ¬ ((8 : Int) = 2) by omega, show ¬ ((8 : Int) = 3) by omega, show ¬ ((8 : Int) = 4) by omega, show ¬ ((8 : Int) = 5) by omega, show ¬ ((8 : Int) = 6) by omega, show ¬ ((8 : Int) = 7) by omega, if_false, if_true, hn]
        constructor <;> (try simp only) <;> first | omega | (intro hh; first | omega | exact i11 hh | exact i12 hh | exact hpl | exact hpl hn | cases hh)
      · simp only [tenEff, show ¬ ((8 : Int) = 1) by omega, show ¬ ((8 : Int) = 2) by omega, show ¬ ((8 : Int) = 3) by omega, show ¬ ((8 : Int) = 4) by omega, show ¬ ((8 : Int) = 5) by omega, show ¬ ((8 : Int) = 6) by omega, show ¬ ((8 : Int) = 7) by omega, if_false, if_true, hn]
        exact ⟨i1, i2, i3, i4, i5, i6, i7, i8, i9, i10, i11, fun h => by cases h⟩
  · by_cases h11 : kind ≤ 11
    · have eff : effOf s ⟨kind, tick, tenant, cell, other, epoch, since, till, n⟩ = setCel (stamped s ⟨kind, tick, tenant, cell, other, epoch, since, till, n⟩) cell (celEff (csAt s cell) ⟨kind, tick, tenant, cell, other, epoch, since, till, n⟩) := by
        unfold effOf
        rw [if_neg h8, if_pos h11]
      have hcel : 0 ≤ cell ∧ cell < s.cells.length := by
        have : fC c.cells.length kind = (0, (c.cells.length : Int) - 1) := if_pos (by omega)
        rw [this] at hC
        simp [inS, inR] at hC
        omega
      rw [eff]
      refine inv_setCel h hcnt htk hti.2 ?_
      have hx := h.cel _ (csAt_mem hcel.1 hcel.2).2
      generalize hxd : csAt s cell = x at *
      obtain ⟨i1, i2, i3, i4, i5, i6⟩ := hx
      have hk' : kind = 9 ∨ kind = 10 ∨ kind = 11 := by omega
      rcases hk' with rfl | rfl | rfl
      · simp [inS, inR, fN] at hN
        refine ⟨?_, i2, i3, ?_, i5, i6⟩ <;> simp [celEff] <;> omega
      · simp [inS, inR, fN] at hN
        have hw : (verAt c n).1 ≤ s.low ∧ s.high ≤ (verAt c n).2 := by
          simp [kindE, wantE, hxd] at hkd
          split at hkd
          · omega
          · split at hkd
            · omega
            · omega
        refine ⟨i1, i2, ?_, i4, i5, ?_⟩
        · simp [celEff]; omega
        · exact hw
      · simp [inS, inR, fN] at hN
        have hw : n = x.wanted := by
          simp [kindE, runsE, hxd] at hkd
          by_cases hh : x.wanted = n
          · exact hh.symm
          · simp [hh] at hkd
        subst hw
        exact ⟨i1, i3, i3, ⟨by simp [celEff]; omega, by simp [celEff]; omega⟩, i6, i6⟩
    · have hk' : kind = 12 ∨ kind = 13 ∨ kind = 14 ∨ kind = 15 ∨ kind = 16 := by omega
      have htick : 0 ≤ tick ∧ tick ≤ 1073741824 := hti
      have hcn : 0 ≤ s.count + 1 ∧ s.count + 1 ≤ 4096 := by have := h.count; omega
      rcases hk' with rfl | rfl | rfl | rfl | rfl
      · simp [inS, inR, fN] at hN
        have hp := h.proven
        have := orBit_lt (a := s.proven) (i := n) (m := 30) hp.1 (by simpa using hp.2) (by omega)
        exact ⟨hlt, hlc, htick, hcn, by simpa [effOf, stamped] using this, h.evac, h.low, h.ten, h.cel⟩
      · simp [inS, inR, fO] at hO
        have hp := h.evac
        have := flipBit_lt (a := s.evac) (i := other) (m := 4) hp.1 (by simpa using hp.2) (by omega)
        exact ⟨hlt, hlc, htick, hcn, h.proven, by simpa [effOf, stamped] using this, h.low, h.ten, h.cel⟩
      · have hlo := h.low
        have hx : ¬ s.low < s.high ∧ ¬ 30 ≤ s.high ∧ s.cells.any (blockB c s) = false := by
          simp only [kindE, expandE] at hkd
          simp at hkd
          by_cases h1 : s.low < s.high
          · simp [h1] at hkd
          · by_cases h2 : 30 ≤ s.high
            · simp [h1, h2] at hkd
            · refine ⟨h1, h2, ?_⟩
              rw [Bool.eq_false_iff]
              intro h3
              obtain ⟨x, hx, hb⟩ := List.any_eq_true.1 h3
              simp only [h1, h2, if_false] at hkd
              rw [if_pos ⟨x, hx, hb⟩] at hkd
              omega
        refine ⟨hlt, hlc, htick, hcn, h.proven, h.evac, ?_, h.ten, fun x hx' => ?_⟩
        · simp [effOf, stamped]; omega
        · have hb : blockB c s x = false := by
            rw [Bool.eq_false_iff]
            intro hb
            have := List.any_eq_true.2 ⟨x, (show x ∈ s.cells from hx'), hb⟩
            rw [hx.2.2] at this
            cases this
          simp [blockB] at hb
          obtain ⟨i1, i2, i3, i4, i5, i6⟩ := h.cel x hx'
          refine ⟨i1, i2, i3, i4, ⟨i5.1, ?_⟩, ⟨i6.1, ?_⟩⟩ <;> simp [effOf, stamped] <;> omega
      · have hlo := h.low
        refine ⟨hlt, hlc, htick, hcn, h.proven, h.evac, ?_, h.ten, fun x hx' => ?_⟩
        · simp [effOf, stamped]; omega
        · obtain ⟨i1, i2, i3, i4, i5, i6⟩ := h.cel x hx'
          refine ⟨i1, i2, i3, i4, ⟨?_, i5.2⟩, ⟨?_, i6.2⟩⟩ <;> simp [effOf, stamped] <;> omega
      · exact ⟨hlt, hlc, htick, hcn, h.proven, h.evac, h.low, h.ten, h.cel⟩
end Go.Proofs.YtnnpgbleacapfaaGreat

namespace Go.Proofs.YtnnpgbleacapfaaGreat
open Go.RowKit
set_option linter.unusedSimpArgs false
set_option linter.unusedVariables false
/-! The laws of one step. No program in sight. -/

theorem applyP_ok {c : Cfg} {s x : St} {e : Ent} (h : applyP c s e = (x, 0)) : refusedE c s e = 0 ∧ x = effOf s e ∧ (booksB e = true → overB c x = false) := by
  unfold applyP at h
  by_cases h1 : refusedE c s e ≠ 0
  · rw [if_pos h1] at h
    exact absurd (congrArg Prod.snd h) h1
  · rw [if_neg h1] at h
    by_cases h2 : booksB e ∧ overB c (effOf s e)
    · rw [if_pos h2] at h
      exact absurd (congrArg Prod.snd h) (by simp)
    · rw [if_neg h2] at h
      have hx : effOf s e = x := congrArg Prod.fst h
      refine ⟨Classical.not_not.1 h1, hx.symm, fun hb => ?_⟩
      rw [← hx]
      cases ho : overB c (effOf s e) with
      | false => rfl
      | true => exact absurd ⟨hb, ho⟩ h2

/-! Capacity. -/
def bkAt (i : Int) (t : TS) (d : Ten) : Int :=
  if t.placed = false then 0 else (if t.shed then 0 else (if t.home = i then d.load else 0) + (if t.target = i then d.load else 0)) + (if t.standby = i then d.shadow else 0) + (if t.next = i then d.shadow else 0)
theorem addAt_length (l : List Int) (k n : Int) : (addAt l k n).length = l.length := by unfold addAt; split <;> simp
theorem addAt_getD (l : List Int) (k n : Int) {i : Nat} (hi : i < l.length) : (addAt l k n).getD i 0 = l.getD i 0 + (if k = i then n else 0) := by
  unfold addAt
  by_cases hk : 0 ≤ k ∧ k < l.length
  · rw [if_pos hk]
    obtain ⟨m, rfl⟩ := Int.eq_ofNat_of_zero_le hk.1
    rw [Int.toNat_natCast, List.getD_eq_getElem?_getD, List.getElem?_set]
    by_cases hm : m = i
    · subst hm
      simp [hi]
    · have : ¬ ((m : Int) = i) := by omega
      simp [hm, this]
  · rw [if_neg hk]
    have : ¬ (k = i) := by omega
    simp [this]
theorem bookT_length (l : List Int) (t : TS) (d : Ten) : (bookT l t d).length = l.length := by
  unfold bookT
  split
  · rfl
  · rw [addAt_length, addAt_length]
    split
    · rfl
    · rw [addAt_length, addAt_length]
theorem bookT_getD (l : List Int) (t : TS) (d : Ten) {i : Nat} (hi : i < l.length) : (bookT l t d).getD i 0 = l.getD i 0 + bkAt i t d := by
  unfold bookT bkAt
  by_cases hp : t.placed = false
  · rw [if_pos hp, if_pos hp]; omega
  · rw [if_neg hp, if_neg hp]
    by_cases hs : t.shed = true
    · rw [if_pos hs, if_pos hs, addAt_getD _ _ _ (by rw [addAt_length]; exact hi), addAt_getD _ _ _ hi]; omega
    · rw [if_neg hs, if_neg hs, addAt_getD _ _ _ (by simp only [addAt_length]; exact hi), addAt_getD _ _ _ (by simp only [addAt_length]; exact hi), addAt_getD _ _ _ (by simp only [addAt_length]; exact hi), addAt_getD _ _ _ hi]; omega
def sumI (i : Int) : List (TS × Ten) → Int
  | [] => 0
  | p :: q => bkAt i p.1 p.2 + sumI i q
theorem fold_getD {i : Nat} : ∀ (q : List (TS × Ten)) (l : List Int), i < l.length → (q.foldl (fun l p => bookT l p.1 p.2) l).getD i 0 = l.getD i 0 + sumI i q
  | [], l, _ => by simp [sumI]
  | p :: q, l, h => by
    rw [List.foldl_cons, fold_getD q _ (by rw [bookT_length]; exact h), bookT_getD _ _ _ h, sumI]
    omega
theorem booked_getD (c : Cfg) (s : St) {i : Nat} (hi : i < c.cells.length) : (booked c s).getD i 0 = sumI i (s.tenants.zip c.tenants) := by
  unfold booked
  rw [fold_getD _ _ (by simpa using hi)]
  rw [List.getD_eq_getElem?_getD, List.getElem?_replicate]
  simp [hi]
theorem sumI_set {i : Int} {t t' : TS} (ht : ∀ d : Ten, 0 ≤ d.load → 0 ≤ d.shadow → bkAt i t' d ≤ bkAt i t d) : ∀ (ts : List TS) (ds : List Ten) (k : Nat), ts[k]? = some t → (∀ d ∈ ds, 0 ≤ d.load ∧ 0 ≤ d.shadow) → sumI i ((ts.set k t').zip ds) ≤ sumI i (ts.zip ds)
  | [], ds, k, h, hd => by simp at h
  | a :: ts, [], k, h, hd => by cases k <;> simp [sumI]
  | a :: ts, d :: ds, 0, h, hd => by
    simp at h
    subst h
    have := hd d (by simp)
    have := ht d this.1 this.2
    simp only [List.set_cons_zero, List.zip_cons_cons, sumI]
    omega
  | a :: ts, d :: ds, k + 1, h, hd => by
    have ih := sumI_set ht ts ds k (by simpa using h) (fun d hd' => hd d (by simp [hd']))
    simp only [List.set_cons_succ, List.zip_cons_cons, sumI]
    omega
theorem overB_iff {c : Cfg} {s : St} : overB c s = false ↔ ∀ i : Nat, i < c.cells.length → (booked c s).getD i 0 ≤ (c.cells.getD i (0, 0)).2 := by
  unfold overB
  rw [Bool.eq_false_iff]
  constructor
  · intro h i hi
    refine Classical.byContradiction fun hn => h (List.any_eq_true.2 ⟨i, List.mem_range.2 hi, ?_⟩)
    simp only [decide_eq_true_eq]
    omega
  · intro h hn
    obtain ⟨i, hi, hd⟩ := List.any_eq_true.1 hn
    have := h i (List.mem_range.1 hi)
    simp only [decide_eq_true_eq] at hd
    omega
theorem ten_pos {c : Cfg} (hV : CfgV c) : ∀ d ∈ c.tenants, 0 ≤ d.load ∧ 0 ≤ d.shadow := by
  intro d hd
  have h1 := hV.ten d hd
  simp [tenOk, inR] at h1
  omega
theorem cap_new {c : Cfg} (hV : CfgV c) : overB c (stNew c) = false := by
  rw [overB_iff]
  intro i hi
  rw [booked_getD _ _ hi]
  have hcap : 1 ≤ (c.cells.getD i (0, 0)).2 := by
    rw [getD_some (List.getElem?_eq_getElem hi)]
    exact (hV.capy _ (List.getElem_mem hi)).1
  have : ∀ (n : Nat) (ds : List Ten), sumI i ((List.replicate n tsNew).zip ds) = 0 := by
    intro n
    induction n with
    | zero => intro ds; simp [sumI]
    | succ n ih =>
      intro ds
      cases ds with
      | nil => simp [sumI]
      | cons d ds =>
        have hb : bkAt i tsNew d = 0 := by simp [bkAt, tsNew]
        rw [List.replicate_succ, List.zip_cons_cons, sumI, ih, hb]
        rfl
  have := this c.tenants.length c.tenants
  unfold stNew
  simp only
  omega
theorem over_same {c : Cfg} {s x : St} (h : x.tenants = s.tenants) : overB c x = overB c s := by
  unfold overB booked
  rw [h]
theorem cap_step {c : Cfg} {s x : St} {e : Ent} (hV : CfgV c) (hI : StInv c s) (hc : overB c s = false) (h : applyP c s e = (x, 0)) : overB c x = false := by
  obtain ⟨hr, hx, hb⟩ := applyP_ok h
  by_cases hbk : booksB e = true
  · exact hb hbk
  have ha := acc_of hr
  have hk := ent_kind ha.ent
  obtain ⟨hti, hT, hC, hO, hE, hS, hU, hN, hne⟩ := ent_rng ha.ent
  have hkd := ha.kind
  subst hx
  have hlt := hI.lt
  clear hb h hr ha
  obtain ⟨kind, tick, tenant, cell, other, epoch, since, till, n⟩ := e
  simp only at *
  by_cases h8 : kind ≤ 8
  · have hten : 0 ≤ tenant ∧ tenant < s.tenants.length := by
      have : fT c.tenants.length kind = (0, (c.tenants.length : Int) - 1) := if_pos h8
      rw [this] at hT
      simp [inS, inR] at hT
      omega
    have hte : (effOf s ⟨kind, tick, tenant, cell, other, epoch, since, till, n⟩).tenants = s.tenants.set tenant.toNat (tenEff (tsAt s tenant) ⟨kind, tick, tenant, cell, other, epoch, since, till, n⟩) := by
      unfold effOf
      simp only [h8, if_true]
      rfl
    rw [overB_iff] at hc ⊢
    intro i hi
    refine Int.le_trans ?_ (hc i hi)
    rw [booked_getD _ _ hi, booked_getD _ _ hi, hte]
    refine sumI_set ?_ _ _ _ (tsAt_mem hten.1 hten.2).1 (ten_pos hV)
    intro d hd1 hd2
    have hI' := hI.ten _ (tsAt_mem hten.1 hten.2).2
    generalize htd : tsAt s tenant = t at *
    have hk' : kind = 3 ∨ (kind = 4 ∧ cell = -1) ∨ kind = 5 ∨ kind = 7 ∨ (kind = 8 ∧ n = 1) := by
      simp [booksB] at hbk
      have : kind = 8 → n = 0 ∨ n = 1 := by
        rintro rfl
        simp [inS, inR, fN] at hN
        omega
      omega
    have hi0 : (0 : Int) ≤ i := Int.natCast_nonneg _
    rcases hk' with rfl | ⟨rfl, rfl⟩ | rfl | rfl | ⟨rfl, rfl⟩
    · simp [bkAt, tenEff]
    · simp only [bkAt, tenEff]
      simp
      repeat' split
      all_goals omega
    · have hnx : cell = t.next ∧ t.placed = true := by
        simp only [kindE, readyE, htd] at hkd
        simp at hkd
        by_cases hp : t.placed = true
        · by_cases hcn : cell = t.next
          · exact ⟨hcn, hp⟩
          · simp [hp, hcn] at hkd
        · simp [hp] at hkd
      obtain ⟨rfl, hp⟩ := hnx
      simp only [bkAt, tenEff]
      simp [hp]
      repeat' split
      all_goals omega
    · simp only [bkAt, tenEff]
      simp
      repeat' split
      all_goals omega
    · simp only [bkAt, tenEff]
      simp
      repeat' split
      all_goals omega
  · rw [over_same (s := s)]
    · exact hc
    · unfold effOf
      simp only [h8, if_false]
      repeat' split
      all_goals rfl

/-! Versions. -/
def openN (s : St) : Nat := s.cells.countP (openB s.proven)
theorem ver_new (c : Cfg) : openN (stNew c) = 0 := by
  unfold openN stNew
  rw [List.countP_eq_zero]
  intro x hx
  obtain rfl := List.eq_of_mem_replicate hx
  show ¬ openB 1 csNew = true
  decide
theorem hasB_or {p n v : Int} (hp : 0 ≤ p) (h : hasB p v = true) : hasB (orBit p n) v = true := by
  simp only [hasB, Bool.and_eq_true, bitB] at h ⊢
  refine ⟨h.1, ?_⟩
  unfold orBit
  rw [Int.toNat_natCast, Nat.testBit_or, h.2]
  rfl
theorem countP_range {α : Type} [Inhabited α] (p : α → Bool) : ∀ l : List α, l.countP p = (List.range l.length).countP (fun i => p (l.getD i default)) := by
  intro l
  have h : l = (List.range l.length).map (fun i => l.getD i default) := by
    apply List.ext_getElem
    · simp
    · intro i h1 h2
      simp [List.getD_eq_getElem?_getD, h1]
  conv => lhs; rw [h]
  rw [List.countP_map]
  rfl
theorem countP_others (P : Nat → Bool) (k : Nat) : ∀ n, k < n → (List.range n).countP P = (List.range n).countP (fun i => decide (i ≠ k) && P i) + (if P k then 1 else 0) := by
  have hlt : ∀ n, n ≤ k → (List.range n).countP P = (List.range n).countP (fun i => decide (i ≠ k) && P i) := by
    intro n hn
    apply List.countP_congr
    intro i hi
    have := List.mem_range.1 hi
    have : i ≠ k := by omega
    simp [this]
  intro n
  induction n with
  | zero => intro h; omega
  | succ n ih =>
    intro h
    rw [List.range_succ, List.countP_append, List.countP_append]
    by_cases hk : k = n
    · subst hk
      rw [hlt k (Nat.le_refl _)]
      simp [List.countP_cons]
    · rw [ih (by omega)]
      have : n ≠ k := fun h => hk h.symm
      simp [List.countP_cons, this]
      omega
theorem others_eq {s : St} {k : Int} (h0 : 0 ≤ k) (h1 : k < s.cells.length) : openN s = others s k + (if openB s.proven (csAt s k) then 1 else 0) := by
  obtain ⟨m, rfl⟩ := Int.eq_ofNat_of_zero_le h0
  unfold openN others csAt
  rw [countP_range, countP_others _ m _ (by omega), List.countP_eq_length_filter]
  have e : ∀ i : Nat, decide (i ≠ m) = decide ((i : Int) ≠ (m : Int)) := by intro i; congr 1; rw [eq_iff_iff]; omega
  simp only [e, Int.toNat_natCast]
theorem ver_step {c : Cfg} {s x : St} {e : Ent} (hV : CfgV c) (hI : StInv c s) (hc : (openN s : Int) ≤ c.blast) (h : applyP c s e = (x, 0)) : (openN x : Int) ≤ c.blast := by
  obtain ⟨hr, hx, -⟩ := applyP_ok h
  have ha := acc_of hr
  have hk := ent_kind ha.ent
  obtain ⟨hti, hT, hC, hO, hE, hS, hU, hN, hne⟩ := ent_rng ha.ent
  have hkd := ha.kind
  subst hx
  have hlc := hI.lc
  have hnc := hV.nc
  clear h hr ha
  obtain ⟨kind, tick, tenant, cell, other, epoch, since, till, n⟩ := e
  simp only at *
  by_cases h11 : kind = 9 ∨ kind = 10 ∨ kind = 11
  · have hcel : 0 ≤ cell ∧ cell < s.cells.length := by
      have : fC c.cells.length kind = (0, (c.cells.length : Int) - 1) := if_pos (by omega)
      rw [this] at hC
      simp [inS, inR] at hC
      omega
    have hce : (effOf s ⟨kind, tick, tenant, cell, other, epoch, since, till, n⟩) = setCel (stamped s ⟨kind, tick, tenant, cell, other, epoch, since, till, n⟩) cell (celEff (csAt s cell) ⟨kind, tick, tenant, cell, other, epoch, since, till, n⟩) := by
      unfold effOf
      rw [if_neg (by simp only; omega), if_pos (by simp only; omega)]
    have hset : openN (effOf s ⟨kind, tick, tenant, cell, other, epoch, since, till, n⟩) = others s cell + (if openB s.proven (celEff (csAt s cell) ⟨kind, tick, tenant, cell, other, epoch, since, till, n⟩) then 1 else 0) := by
      rw [hce]
      have h2 : cell.toNat < s.cells.length := by omega
      have h3 := others_eq hcel.1 hcel.2
      have h4 : s.cells[cell.toNat] = csAt s cell := (getD_some (List.getElem?_eq_getElem h2)).symm
      show (s.cells.set cell.toNat _).countP (openB s.proven) = _
      rw [List.countP_set h2, h4]
      unfold openN at h3
      omega
    rw [hset]
    have h3 := others_eq hcel.1 hcel.2
    generalize hxd : csAt s cell = y at *
    rcases h11 with rfl | rfl | rfl
    · have : openB s.proven (celEff y ⟨9, tick, tenant, cell, other, epoch, since, till, n⟩) = openB s.proven y := rfl
      rw [this]
      omega
    · by_cases hq : y.running = n ∨ hasB s.proven n = true
      · have : openB s.proven (celEff y ⟨10, tick, tenant, cell, other, epoch, since, till, n⟩) = true → openB s.proven y = true := by
          simp only [openB, celEff]
          simp
          rcases hq with rfl | hq
          · intro h; left; rcases h with h | h <;> exact h
          · intro h; left; rcases h with h | h
            · exact h
            · rw [hq] at h; cases h
        by_cases ho : openB s.proven (celEff y ⟨10, tick, tenant, cell, other, epoch, since, till, n⟩) = true
        · rw [if_pos ho]; rw [if_pos (this ho)] at h3; omega
        · rw [if_neg ho]; omega
      · have : (others s cell : Int) < c.blast := by
          simp only [kindE, wantE, hxd] at hkd
          simp at hkd
          simp only [not_or, Bool.not_eq_true] at hq
          by_cases q1 : y.wanted = n
          · simp [q1] at hkd
          · by_cases q2 : s.low < (verAt c n).1 ∨ (verAt c n).2 < s.high
            · simp [q1, q2] at hkd
            · by_cases q3 : s.evac = 0
              · simp only [q1, q2, hq.1, hq.2, q3, if_false, or_self] at hkd
                simp at hkd
                omega
              · simp [q1, q2, hq.1, hq.2, q3] at hkd
        split <;> omega
    · have hw : n = y.wanted := by
        simp [kindE, runsE, hxd] at hkd
        by_cases hh : y.wanted = n
        · exact hh.symm
        · simp [hh] at hkd
      subst hw
      have : openB s.proven (celEff y ⟨11, tick, tenant, cell, other, epoch, since, till, y.wanted⟩) = true → openB s.proven y = true := by
        simp only [openB, celEff]
        simp
        intro h; right; exact h
      by_cases ho : openB s.proven (celEff y ⟨11, tick, tenant, cell, other, epoch, since, till, y.wanted⟩) = true
      · rw [if_pos ho]; rw [if_pos (this ho)] at h3; omega
      · rw [if_neg ho]; omega
  · by_cases h12 : kind = 12
    · subst h12
      refine Int.le_trans ?_ hc
      have hp := hI.proven
      have : openN (effOf s ⟨12, tick, tenant, cell, other, epoch, since, till, n⟩) ≤ openN s := by
        show s.cells.countP (openB (orBit s.proven n)) ≤ s.cells.countP (openB s.proven)
        apply List.countP_mono_left
        intro y hy
        simp only [openB, Bool.or_eq_true, Bool.not_eq_true']
        intro h
        rcases h with h | h
        · left
          cases hh : hasB s.proven y.running with
          | false => rfl
          | true => rw [hasB_or hp.1 hh] at h; cases h
        · right
          cases hh : hasB s.proven y.wanted with
          | false => rfl
          | true => rw [hasB_or hp.1 hh] at h; cases h
      omega
    · have : openN (effOf s ⟨kind, tick, tenant, cell, other, epoch, since, till, n⟩) = openN s := by
        unfold openN effOf
        have e1 : ¬ ((8 : Int) < kind ∧ kind ≤ 11) := by omega
        by_cases h8 : kind ≤ 8
        · simp only [h8, if_true]; rfl
        · have h11' : ¬ kind ≤ 11 := by omega
          simp only [h8, h11', h12, if_false]
          repeat' split
          all_goals rfl
      omega
theorem ent_ten {c : Cfg} {s : St} {e : Ent} (hI : StInv c s) (ha : entV c e = true) (h8 : e.kind ≤ 8) : 0 ≤ e.tenant ∧ e.tenant < s.tenants.length := by
  obtain ⟨hti, hT, -⟩ := ent_rng ha
  have : fT c.tenants.length e.kind = (0, (c.tenants.length : Int) - 1) := if_pos h8
  have hlt := hI.lt
  rw [this] at hT
  simp [inS, inR] at hT
  omega
end Go.Proofs.YtnnpgbleacapfaaGreat

namespace Go.Proofs.YtnnpgbleacapfaaGreat
open Go.RowKit
set_option linter.unusedSimpArgs false
set_option linter.unusedVariables false

/-! What Fold answers. -/
def foldGo (c : Cfg) : Int → St → List Ent → St × Int × Int
  | i, s, [] => (s, i, 0)
  | i, s, e :: r => if (applyP c s e).2 ≠ 0 then (s, i, (applyP c s e).2) else foldGo c (i + 1) (applyP c s e).1 r
def foldC (c : Cfg) (es : List Ent) : St × Int × Int := foldGo c 0 (stNew c) es
end Go.Proofs.YtnnpgbleacapfaaGreat
