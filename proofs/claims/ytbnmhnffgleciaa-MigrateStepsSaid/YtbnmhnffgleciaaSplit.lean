import Derived.Test.YtbnmhnffgleciaaBelow
namespace Go.Proofs.Ytbnmhnffgleciaa
open Go.RowKit
set_option linter.unusedSimpArgs false
set_option linter.unusedVariables false

section
variable {P : Program} {md : Region.Mode} {ops : Array Oper} {Q : Exit → Act → World → Prop}

theorem wpAny_more : ∀ (fuel : Nat) (listed : Array Bool) (a : Act) (w : World), wpAny P md ops Q fuel listed a w → wpAny P md ops Q (fuel + 1) listed a w
  | 0, listed, a, w, h => ⟨fun _ => h.2, fun i hi => by rw [h.1] at hi; cases hi⟩
  | fuel + 1, listed, a, w, h => ⟨h.1, fun i hi => wpOp_mono (fun a' w' h' => wpAny_more fuel _ a' w' h') (h.2 i hi)⟩
theorem wpAny_much (listed : Array Bool) (a : Act) (w : World) (m : Nat) (h : wpAny P md ops Q m listed a w) : ∀ fuel, wpAny P md ops Q (fuel + m) listed a w
  | 0 => by simpa using h
  | fuel + 1 => by
    have := wpAny_more _ _ _ _ (wpAny_much listed a w m h fuel)
    rwa [show fuel + m + 1 = fuel + 1 + m by omega] at this

/-- Operation j waits for operation i. -/
def reachB (md : Region.Mode) (ops : Array Oper) : Nat → Nat → Nat → Bool
  | 0, _, _ => false
  | n + 1, j, i => match ops[j]? with
    | none => false
    | some o => o.after.any fun e => Region.binds md e && (e.on == i || reachB md ops n e.on i)

/-- Whoever has come up had all that it waits for come up before. -/
def Dn (md : Region.Mode) (ops : Array Oper) (listed : Array Bool) : Prop :=
  ∀ (j : Nat) (o : Oper), ops[j]? = some o → listed.getD j false = true → ∀ e ∈ o.after, Region.binds md e = true → listed.getD e.on false = true

theorem reach_listed {listed : Array Bool} (hd : Dn md ops listed) : ∀ (n j i : Nat), (∀ o, ops[j]? = some o → ∀ e ∈ o.after, Region.binds md e = true → listed.getD e.on false = true) → reachB md ops n j i = true → listed.getD i false = true
  | 0, j, i, hp, h => by simp [reachB] at h
  | n + 1, j, i, hp, h => by
    unfold reachB at h
    cases ho : ops[j]? with
    | none => simp [ho] at h
    | some o =>
      simp only [ho, Array.any_eq_true] at h
      obtain ⟨x, hx, he⟩ := h
      have hm : o.after[x] ∈ o.after := Array.getElem_mem hx
      simp only [Bool.and_eq_true, Bool.or_eq_true, beq_iff_eq] at he
      have hl := hp o ho _ hm he.1
      rcases he.2 with h1 | h1
      · rwa [h1] at hl
      · exact reach_listed hd n _ i (fun o' ho' e' he' hb' => hd _ o' ho' hl e' he' hb') h1

theorem getD_set_mono {listed : Array Bool} {i x : Nat} (h : listed.getD x false = true) : (listed.setIfInBounds i true).getD x false = true := by
  by_cases hx : i = x
  · subst hx
    have hlt : i < listed.size := by
      rcases Nat.lt_or_ge i listed.size with h' | h'
      · exact h'
      · simp [Array.getD, Nat.not_lt.2 h'] at h
    simp [Array.getD, hlt]
  · rwa [getD_set_ne false hx]

theorem Dn.set_ {listed : Array Bool} (hd : Dn md ops listed) {i : Nat} (hi : i ∈ Region.ready md ops listed) : Dn md ops (listed.setIfInBounds i true) := by
  obtain ⟨hun, oi, hoi, hall⟩ := mem_ready.1 hi
  intro j o ho hl e he hb
  refine getD_set_mono ?_
  by_cases hji : i = j
  · subst hji
    rw [hoi] at ho
    cases ho
    exact hall e he hb
  · rw [getD_set_ne false hji] at hl
    exact hd j o ho hl e he hb

/-- What holds behind the head. -/
def thenK (K : Act → World → Prop) (Q : Exit → Act → World → Prop) : Exit → Act → World → Prop
  | .normal, a, w => K a w
  | e, a, w => Q e a w

theorem upon_thenK {o : Oper} {a : Act} {K1 : Act → World → Prop} {K : Act → World → Prop} {r : Result Next} (h : o.upon P a K1 (thenK K Q) r) : o.upon P a K1 Q r := by
  cases r with
  | ok n w' =>
    cases n <;> simp only [Oper.upon] at h ⊢ <;> exact h
  | halt x w' => cases x <;> simp only [Oper.upon] at h ⊢ <;> exact h

theorem wpOp_head {head : Array Oper} {k i : Nat} {K K1 K2 : Act → World → Prop} {a : Act} {w : World} (hh : ∀ i, i < k → head[i]? = ops[i]?) (hg : ∀ i o g b, i < k → ops[i]? = some o → o.guard = some (g, b) → g < k) (hi : i < k)
    (h : wpOp P head (thenK K Q) i K1 a w) (hK : ∀ a w, K1 a w → K2 a w) : wpOp P ops Q i K2 a w := by
  refine wpOp_mono hK ?_
  unfold wpOp at *
  rw [hh i hi] at h
  cases ho : ops[i]? with
  | none => simp only [ho] at h ⊢; exact h
  | some o =>
    simp only [ho] at h ⊢
    have hw : Region.wanted o (yielded head a.tmps) = Region.wanted o (yielded ops a.tmps) := by
      unfold Region.wanted
      cases hgu : o.guard with
      | none => rfl
      | some gb =>
        obtain ⟨g, b⟩ := gb
        have : yielded head a.tmps g = yielded ops a.tmps g := by
          unfold yielded
          rw [hh g (hg i o g b hi ho hgu)]
        simp only [this]
    rw [hw] at h
    split
    · rename_i hwt
      simp only [hwt, if_true] at h
      exact h.imp upon_thenK id
    · rename_i hwt
      simp only [hwt] at h
      exact h

theorem extract_getD {listed : Array Bool} {k i : Nat} (d : Bool) (hi : i < k) (hk : k ≤ listed.size) : (listed.extract 0 k).getD i d = listed.getD i d := by
  have h1 : i < listed.size := by omega
  have h2 : i < (listed.extract 0 k).size := by simp; omega
  have h3 : i < min k listed.size := by omega
  simp [Array.getD, h1, h3]

theorem extract_set {listed : Array Bool} {k i : Nat} (hi : i < k) (hk : k ≤ listed.size) : (listed.setIfInBounds i true).extract 0 k = (listed.extract 0 k).setIfInBounds i true := by
  apply Array.ext
  · simp
  · intro j h1 h2
    have h3 : j < listed.size := by simp at h1; omega
    have h4 : j < (listed.extract 0 k).size := by simpa using h2
    rw [Array.getElem_extract, Array.getElem_setIfInBounds, Array.getElem_setIfInBounds]
    · have e : (listed.extract 0 k)[j]'h4 = listed[j] := by
        rw [Array.getElem_extract]
        congr 1
        omega
      rw [e]
      simp
    · exact h4
    · simpa using h3

/-- **A REGION WHOSE OPERATIONS FROM k ON ALL WAIT FOR ALL OF THE FIRST k:** the first k, in whatever order, then the others. -/
theorem wpAny_split {head : Array Oper} {k m n : Nat} {K : Act → World → Prop} (hh : ∀ i, i < k → head[i]? = ops[i]?) (hhs : head.size = k) (hkn : k ≤ n) (hn : ops.size = n)
    (hg : ∀ i o g b, i < k → ops[i]? = some o → o.guard = some (g, b) → g < k)
    (hord : ∀ i o, i < k → ops[i]? = some o → ∀ e ∈ o.after, Region.binds md e = true → e.on < i)
    (hreach : ∀ j, k ≤ j → j < n → ∀ i, i < k → reachB md ops n j i = true)
    (hK : ∀ a w, K a w → wpAny P md ops Q m (Array.replicate k true ++ Array.replicate (n - k) false) a w) :
    ∀ (fuel : Nat) (listed : Array Bool) (a : Act) (w : World), listed.size = n → Dn md ops listed → (∀ j, k ≤ j → listed.getD j false = false) →
      wpAny P md head (thenK K Q) fuel (listed.extract 0 k) a w → wpAny P md ops Q (fuel + m) listed a w := by
  have hready : ∀ (listed : Array Bool), listed.size = n → ∀ i, i < k → (i ∈ Region.ready md head (listed.extract 0 k) ↔ i ∈ Region.ready md ops listed) := by
    intro listed hs i hi
    rw [mem_ready, mem_ready, hh i hi, extract_getD true hi (by omega)]
    constructor
    · rintro ⟨h1, o, ho, h2⟩
      refine ⟨h1, o, ho, fun e he hb => ?_⟩
      have := h2 e he hb
      rwa [extract_getD false (by have := hord i o hi ho e he hb; omega) (by omega)] at this
    · rintro ⟨h1, o, ho, h2⟩
      refine ⟨h1, o, ho, fun e he hb => ?_⟩
      rw [extract_getD false (by have := hord i o hi ho e he hb; omega) (by omega)]
      exact h2 e he hb
  have hleast : ∀ (listed : Array Bool), listed.size = n → ∀ i, i < k → listed.getD i false = false → ∃ i', i' < k ∧ i' ∈ Region.ready md ops listed := by
    intro listed hs i
    induction i using Nat.strongRecOn with
    | _ i ih =>
      intro hi hu
      have hio : ∃ o, ops[i]? = some o := ⟨_, Array.getElem?_eq_getElem (by omega)⟩
      obtain ⟨o, ho⟩ := hio
      by_cases hall : ∀ e ∈ o.after, Region.binds md e = true → listed.getD e.on false = true
      · refine ⟨i, hi, mem_ready.2 ⟨?_, o, ho, hall⟩⟩
        have : i < listed.size := by omega
        simpa [Array.getD, this] using hu
      · have hex : ∃ e, e ∈ o.after ∧ Region.binds md e = true ∧ listed.getD e.on false = false := by
          refine Classical.byContradiction fun hno => hall fun e he hb => ?_
          refine Classical.byContradiction fun hl => hno ⟨e, he, hb, by simpa using hl⟩
        obtain ⟨e, he, hb, hl⟩ := hex
        have hlt := hord i o hi ho e he hb
        exact ih e.on hlt (by omega) hl
  intro fuel
  induction fuel with
  | zero =>
    intro listed a w hs hd ht h
    have hall : ∀ i, i < k → listed.getD i false = true := by
      intro i hi
      refine Classical.byContradiction fun hu => ?_
      obtain ⟨i', hi', hr⟩ := hleast listed hs i hi (by simpa using hu)
      have := (hready listed hs i' hi').2 hr
      rw [h.1] at this
      cases this
    have hL : listed = Array.replicate k true ++ Array.replicate (n - k) false := by
      apply Array.ext
      · simp; omega
      · intro j h1 h2
        by_cases hj : j < k
        · have := hall j hj
          rw [Array.getElem_append_left (by simpa using hj)]
          simpa [Array.getD, h1] using this
        · have := ht j (by omega)
          rw [Array.getElem_append_right (by simp; omega)]
          simpa [Array.getD, h1] using this
    rw [hL, Nat.zero_add]
    exact hK _ _ h.2
  | succ f ih =>
    intro listed a w hs hd ht h
    by_cases hall : ∀ i, i < k → listed.getD i false = true
    · have hL : listed = Array.replicate k true ++ Array.replicate (n - k) false := by
        apply Array.ext
        · simp; omega
        · intro j h1 h2
          by_cases hj : j < k
          · have := hall j hj
            rw [Array.getElem_append_left (by simpa using hj)]
            simpa [Array.getD, h1] using this
          · have := ht j (by omega)
            rw [Array.getElem_append_right (by simp; omega)]
            simpa [Array.getD, h1] using this
      have hr : Region.ready md head (listed.extract 0 k) = [] := by
        refine List.eq_nil_iff_forall_not_mem.2 fun i hi => ?_
        obtain ⟨hu, o, ho, _⟩ := mem_ready.1 hi
        have hik : i < k := by
          rw [← hhs]
          exact (Array.getElem?_eq_some_iff.1 ho).1
        rw [extract_getD true hik (by omega)] at hu
        have := hall i hik
        have hlt : i < listed.size := by omega
        simp [Array.getD, hlt] at this hu
        rw [this] at hu
        cases hu
      have hk := h.1 hr
      rw [hL]
      exact wpAny_much _ _ _ m (hK _ _ hk) (f + 1)
    · have hex : ∃ i, i < k ∧ listed.getD i false = false := by
        refine Classical.byContradiction fun hno => hall fun i hi => ?_
        refine Classical.byContradiction fun hl => hno ⟨i, hi, by simpa using hl⟩
      obtain ⟨i0, hi0, hu0⟩ := hex
      obtain ⟨i1, hi1, hr1⟩ := hleast listed hs i0 hi0 hu0
      rw [show f + 1 + m = f + m + 1 by omega]
      refine ⟨fun h0 => (by rw [h0] at hr1; cases hr1), fun i hi => ?_⟩
      obtain ⟨hu, o, ho, hp⟩ := mem_ready.1 hi
      have hin : i < n := by rw [← hn]; exact (Array.getElem?_eq_some_iff.1 ho).1
      have hik : i < k := by
        rcases Nat.lt_or_ge i k with h' | h'
        · exact h'
        · have := reach_listed hd n i i0 (fun o' ho' e he hb => by rw [ho] at ho'; cases ho'; exact hp e he hb) (hreach i h' hin i0 hi0)
          rw [hu0] at this
          cases this
      have h1 := h.2 i ((hready listed hs i hik).2 hi)
      refine wpOp_head hh hg hik h1 fun a' w' h' => ?_
      refine ih (listed.setIfInBounds i true) a' w' (by simpa using hs) (hd.set_ hi) ?_ ?_
      · intro j hj
        rw [getD_set_ne false (by omega)]
        exact ht j hj
      · rw [extract_set hik (by omega)]
        exact h'

/-- The closed facts of a region that splits at k, whose second part is walked in the order of the text. -/
def splitB (l : List Oper) (k : Nat) : Bool :=
  decide (k ≤ l.length) &&
  ((List.range k).all fun i => match l[i]? with
    | none => true
    | some o => (o.after.all fun e => !Region.binds .any e || decide (e.on < i)) && (match o.guard with | none => true | some (g, _) => decide (g < k))) &&
  ((List.range l.length).all fun j => decide (j < k) || (List.range k).all fun i => reachB .any l.toArray l.length j i) &&
  Region.noSelect l.toArray && Region.lexFrom .any l.toArray (l.drop k).length k (Array.replicate k true ++ Array.replicate (l.length - k) false)

theorem wp_region_split {l : List Oper} {id : Nat} {a : Act} {w : World} (k : Nat) (hm : P.follows .mixedOrders = true) (hB : splitB l k = true)
    (h : wpAny P .any (l.take k).toArray (thenK (fun a w => ∃ C : World → Prop, C w ∧ wpQuiet P l.toArray C (fun a' => ∀ w', C w' → Q .normal a' w') (l.drop k) a) Q) k (Array.replicate k false) a { w with drawn := w.drawn + 1 }) :
    (Code.region id l.toArray true).wp P Q a w := by
  simp only [splitB, Bool.and_eq_true, List.all_eq_true, decide_eq_true_eq, List.mem_range, Bool.or_eq_true] at hB
  obtain ⟨⟨⟨⟨hk, h1⟩, h2⟩, h3⟩, h4⟩ := hB
  have hops : ∀ i : Nat, l.toArray[i]? = l[i]? := fun i => List.getElem?_toArray
  refine wp_region_any hm ?_
  have key := wpAny_split (P := P) (md := .any) (ops := l.toArray) (Q := Q) (head := (l.take k).toArray) (k := k) (m := l.length - k) (n := l.length)
    (K := fun a w => ∃ C : World → Prop, C w ∧ wpQuiet P l.toArray C (fun a' => ∀ w', C w' → Q .normal a' w') (l.drop k) a)
    (fun i hi => by simp [List.getElem?_take, hi]) (by simp; omega) hk (by simp)
    (fun i o g b hi ho hgu => by
      have := h1 i hi
      rw [← hops, ho] at this
      simp only [hgu, Bool.and_eq_true, decide_eq_true_eq] at this
      exact this.2)
    (fun i o hi ho e he hb => by
      have := h1 i hi
      rw [← hops, ho] at this
      simp only [Bool.and_eq_true, Array.all_eq_true_iff_forall_mem] at this
      have h5 := this.1 e he
      simpa [hb] using h5)
    (fun j hj hjn i hi => (h2 j hjn).resolve_left (by omega) i hi)
    (fun a w ⟨C, hC, hq⟩ => by
      refine wpAny_of_quiet (Q := fun a' => ∀ w', C w' → Q .normal a' w') (fun _ w' hw' h => h w' hw') _ _ _ _ hC ?_
      have := wpAnyQ_lex (P := P) (C := C) (md := .any) h3 (l.drop k) k (Array.replicate k true ++ Array.replicate (l.length - k) false) a (fun j => by simp [List.getElem?_drop]) h4 hq
      simpa using this)
    k (Array.replicate l.length false) a { w with drawn := w.drawn + 1 } (by simp) (fun j o ho hl => by simp [Array.getD] at hl) (fun j hj => by simp [Array.getD]) (by
      have e : (Array.replicate l.length false).extract 0 k = Array.replicate k false := by
        apply Array.ext
        · simp; omega
        · intro j h1 h2; simp
      rw [e]
      exact h)
  have e2 : k + (l.length - k) = l.toArray.size := by simp; omega
  rw [e2] at key
  simpa using key
end
end Go.Proofs.Ytbnmhnffgleciaa
