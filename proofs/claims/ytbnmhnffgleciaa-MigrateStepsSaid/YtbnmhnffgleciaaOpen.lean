import Derived.Test.YtbnmhnffgleciaaLib
import Derived.ProofKit
import Derived.OpenShut
import Derived.Deep.Slices
import Derived.Deep.Fields
import Derived.ChangeSame
import Derived.ChangeOld
namespace Go.Proofs.Ytbnmhnffgleciaa
open Go.ChangeShapes Go.WideShapes Go.Deep Go.RowKit
set_option linter.unusedSimpArgs false
set_option linter.unusedVariables false

theorem map_of_all {α β : Type} {f : α → β} : ∀ {l : List β}, (∀ c ∈ l, ∃ e, c = f e) → ∃ r : List α, l = r.map f
  | [], _ => ⟨[], rfl⟩
  | c :: l, h => by
    obtain ⟨e, he⟩ := h c (List.mem_cons_self ..)
    obtain ⟨r, hr⟩ := map_of_all (l := l) fun c hc => h c (List.mem_cons_of_mem _ hc)
    exact ⟨e :: r, by rw [he, hr]; rfl⟩

theorem flatten_get (sz : Nat) : ∀ (l : List (List Value)), (∀ c ∈ l, c.length = sz) → ∀ (j : Nat) (v : Value), l.flatten[j]? = some v → ∃ i k c, j = i * sz + k ∧ k < sz ∧ l[i]? = some c ∧ c[k]? = some v
  | [], _, j, v, h => by simp at h
  | c :: l, hl, j, v, h => by
    have hc := hl c (List.mem_cons_self ..)
    rw [List.flatten_cons, List.getElem?_append] at h
    split at h
    · rename_i hlt
      exact ⟨0, j, c, by omega, by omega, rfl, h⟩
    · rename_i hge
      obtain ⟨i, k, c', hj, hk, h1, h2⟩ := flatten_get sz l (fun c hc => hl c (List.mem_cons_of_mem _ hc)) _ v h
      refine ⟨i + 1, k, c', ?_, hk, by simpa using h1, h2⟩
      rw [Nat.add_mul]
      omega

section
variable {H : Type} {enc : TypeId × Value → H} {P : Program} {w : World} {base : Nat} {spare : Nat → Bool} {held : Bool}

/-- A slice that came in: its elements' cells, each with its own reading. -/
theorem open_rows {t e : TypeId} {fuel sz : Nat} {A : Option Addr} {len cap : Nat} {x : DataW H × List MemPlace} (ht : P.underlying t = some (.slice e)) (hsz : P.cellsOf e = sz) (hpos : 0 < sz)
    (h : DataW.trod enc P w base spare held fuel t [.slice A len cap] = some x) :
    len ≤ maxLen ∧ ∃ css : List (List Value), css.length = len ∧ (∀ c ∈ css, c.length = sz ∧ ∃ n y, DataW.trod enc P w base spare held n e c = some y) ∧ Rd w (· < w.heap.size) A css.flatten := by
  rcases open_slice ht h with ⟨h0, _⟩ | ⟨a, len', cap', m, n, D, Pl, hcs, hb, hl, hm, hmm, hx, hi⟩
  · simp at h0
    obtain ⟨rfl, rfl, rfl⟩ := h0
    exact ⟨Nat.zero_le _, [], rfl, by simp, fun h => absurd rfl h⟩
  · simp at hcs
    obtain ⟨rfl, rfl, rfl⟩ := hcs
    rw [hsz] at hi
    have hlm : len ≤ m := by rw [hmm]; split <;> omega
    refine ⟨by omega, ?_⟩
    have hex : ∀ k, k ≤ len → ∃ css : List (List Value), css.length = k ∧ (∀ c ∈ css, c.length = sz ∧ ∃ n y, DataW.trod enc P w base spare held n e c = some y) ∧ ∀ i c, css[i]? = some c → w.cells? base (a.add (i * sz)) sz = some c := by
      intro k
      induction k with
      | zero => exact fun _ => ⟨[], rfl, by simp, by simp⟩
      | succ k ih =>
        intro hk
        obtain ⟨css, h1, h2, h3⟩ := ih (by omega)
        obtain ⟨c, hc, hy⟩ := hi k (by omega)
        refine ⟨css ++ [c], by simp [h1], ?_, ?_⟩
        · intro c' hc'
          rcases List.mem_append.1 hc' with hc' | hc'
          · exact h2 c' hc'
          · rw [List.mem_singleton.1 hc']
            exact ⟨(World.cells?_some hc).2.1, _, _, hy⟩
        · intro i c' hi'
          rw [List.getElem?_append] at hi'
          split at hi'
          · exact h3 i c' hi'
          · rename_i hge
            have : i - css.length = 0 := by
              rcases Nat.eq_zero_or_pos (i - css.length) with h0 | h0
              · exact h0
              · rw [List.getElem?_eq_none (by simp; omega)] at hi'; cases hi'
            rw [this] at hi'
            simp at hi'
            subst hi'
            have : i = k := by omega
            subst this
            exact hc
    obtain ⟨css, h1, h2, h3⟩ := hex len (Nat.le_refl _)
    refine ⟨css, h1, h2, fun hne => ?_⟩
    have hcell : ∀ j v, css.flatten[j]? = some v → w.cell? (a.add j) = some v := by
      intro j v hv
      obtain ⟨i, k, c, rfl, hk, hc, hck⟩ := flatten_get sz css (fun c hc => (h2 c hc).1) j v hv
      have := (World.cells?_some (h3 i c hc)).2.2 k hk
      rw [hck] at this
      rwa [Go.Deep.add_add] at this
    obtain ⟨v0, hv0⟩ : ∃ v, css.flatten[0]? = some v := by
      cases hf : css.flatten with
      | nil => exact absurd hf hne
      | cons v l => exact ⟨v, rfl⟩
    obtain ⟨b, off, spot⟩ := a
    have h0 := hcell 0 v0 hv0
    have hspot : spot = none := by simpa [Addr.add] using World.cell?_spot h0
    subst hspot
    refine ⟨b, off, rfl, ?_, fun j v hv => ?_⟩
    · have := World.block_lt_of_cell? w _ h0
      simpa [Addr.add] using this
    · have := hcell j v hv
      unfold Addr.add at this
      split at this
      · rename_i hj; subst hj; simpa using this
      · exact this

/-- The cells of a struct of integers. -/
theorem trod_struct_cell {e : TypeId} {fs : Array Field} {fuel : Nat} {cs : List Value} {x : DataW H × List MemPlace} (he : P.underlying e = some (.struct fs)) (hone : oneCellFields P fs = true) (hC : P.cellsOf e = fs.size)
    (h : DataW.trod enc P w base spare held fuel e cs = some x) : cs.length = fs.size ∧ ∀ (j : Nat) (f : Field), fs[j]? = some f → ∃ v n y, cs[j]? = some v ∧ DataW.trod enc P w base spare held n f.type [v] = some y := by
  obtain ⟨ys, n', hn', hy, hlen, hyl, hf⟩ := DataW.trod_struct he h
  rw [hC] at hlen
  refine ⟨hlen, fun j f hj => ?_⟩
  obtain ⟨ho, hk⟩ := hone_of hone j f hj
  have hjl : j < fs.size := (Array.getElem?_eq_some_iff.1 hj).1
  have h1 := hf j f hj
  rw [ho, hk] at h1
  have hone' : (cs.drop j).take 1 = [cs[j]'(by omega)] := by
    rw [List.drop_eq_getElem_cons (by omega)]
    rfl
  rw [hone'] at h1
  have hys : ys[j]? = some (ys[j]'(by omega)) := List.getElem?_eq_getElem (by omega)
  exact ⟨_, n', _, List.getElem?_eq_getElem (by omega), h1.trans hys⟩

theorem open_ints_rd {t e : TypeId} {fuel : Nat} {A : Option Addr} {len cap : Nat} {x : DataW H × List MemPlace} (ht : P.underlying t = some (.slice e)) (he : P.underlying e = some (.int .i64)) (hsz : P.cellsOf e = 1)
    (h : DataW.trod enc P w base spare held fuel t [.slice A len cap] = some x) :
    len ≤ maxLen ∧ ∃ zs : List Int, zs.length = len ∧ (∀ z ∈ zs, (Lit.int .i64 z).wf = true) ∧ Rd w (· < w.heap.size) A (zs.map (Value.int .i64)) := by
  obtain ⟨hm, css, h1, h2, h3⟩ := open_rows ht hsz (by omega) h
  refine ⟨hm, ?_⟩
  have hx : ∀ c ∈ css, ∃ e : { z : Int // (Lit.int .i64 z).wf = true }, c = [Value.int .i64 e.1] := by
    intro c hc
    obtain ⟨_, n, y, hy⟩ := h2 c hc
    obtain ⟨z, rfl, _, hw⟩ := DataW.trod_int he hy
    exact ⟨⟨z, hw⟩, rfl⟩
  obtain ⟨r, hr⟩ := map_of_all hx
  refine ⟨r.map (·.1), by rw [← h1, hr]; simp, ?_, ?_⟩
  · intro z hz
    obtain ⟨e, _, rfl⟩ := List.mem_map.1 hz
    exact e.2
  · have : css.flatten = (r.map (·.1)).map (Value.int .i64) := by
      rw [hr]
      clear hr
      induction r with
      | nil => rfl
      | cons a l ih => simp at ih ⊢; exact ih
    rwa [this] at h3
end
end Go.Proofs.Ytbnmhnffgleciaa
