import Derived.Test.YtjobcfpnmfjlfaaNk01
import Derived.Scope
import Derived.Test.YtjobcfpnmfjlfaaRows
import Derived.Test.YtjobcfpnmfjlfaaProg
import Derived.Laws.OwnMore
namespace Go.Proofs.Ytjobcfpnmfjlfaa
open Go.RowKit
set_option linter.unusedSimpArgs false
set_option linter.unusedVariables false

section
variable {P : Program} {τ : TT} {F : FT} {C : Ctx} {ρ : Nat → Pl} {fr : AF} {mem : AM} {nx : Nat} {a : Act} {w : World} {Q : Exit → Act → World → Prop}
theorem heldS_wf {D : List AI} {ρS : Nat → Pl} {nS : Nat} {memS : AM} : HeldS (C.wf D) ρS nS memS w ↔ HeldS C ρS nS memS w :=
  ⟨fun h i b hi => by have := h i b hi; cases b <;> exact this, fun h i b hi => by have := h i b hi; cases b <;> exact this⟩
theorem held_wf {D : List AI} {ρS : Nat → Pl} {nS : Nat} {memS : AM} (h : Held C ρS nS memS w) : Held (C.wf D) ρS nS memS w := ⟨heldS_wf.2 h.blk, h.lt⟩
/-- What is known of a pending variable. -/
structure Pend (τ : TT) (ops : Array Oper) (n0 nt : Nat) (ρ : Nat → Pl) (nx : Nat) (fr : AF) (x : AI) : Prop where
  lt : x.ν < nx
  ge : n0 ≤ x.ν
  res : (ρ x.ν).res = true
  free : lk fr x.d = none
  nt : x.d < nt
  op : ∃ o, ops[x.j]? = some o ∧ o.op = .alloc x.t ∧ o.dst = some x.d ∧ o.guard = none
  ti : ∃ ti, lk τ x.t = some ti ∧ x.zero = ti.zero
theorem alloc_run {t : TypeId} {ti : TI} (ht : TIok P t ti) {o : Oper} (ho : o.op = .alloc t) : (execOp a.eval o).run P w = .ok (.value (.pointer (some ⟨w.heap.size, 0, none⟩))) (w.alloc (.cells ti.zero.toArray t)) := by
  obtain ⟨i, hi, hsz, z, hz, hzc⟩ := ht.size
  have hza : z.cells = ti.zero.toArray := by apply Array.toList_inj.1; simp [hzc]
  simp [execOp, ho, Instr.alloc, zeroValue, typeInfo, hi, hz, newVar, newRow, newObj, hza, Sem.run]
theorem float_sound (hτ : TTok P τ) (hF : FTok P F) {ops : Array Oper} (hsel : Region.noSelect ops = true) (hd : ∀ (i : Nat) (o : Oper), ops[i]? = some o → ∀ j, o.dst = some j → j < C.nt) (hQ : ∀ c a a' w, Q (.panic c) a w → Q (.panic c) a' w)
    {ρS : Nat → Pl} {nS : Nat} {memS : AM} {w1 : World} (hH : Held C ρS nS memS w1) {K : List Nat → AF → AM → Nat → Prop} {post : List (Nat × Bool)} {A : List AI}
    (hK : ∀ G' fr' mem' nx' ρ' a' w' D', K G' fr' mem' nx' → Sat (C.wf D') ρ' fr' mem' nx' a' w' → Ext ρS nS ρ' nx' → HeldS C ρS nS memS w' → (∀ x ∈ A, x ∈ D') → Sole D' → (∀ x ∈ A, lk fr' x.d = none) → wpSeqH P ops Q (HeldS C ρS nS memS) post a' w') :
    ∀ (n : Nat) (σ : List (Nat × Bool)) (listed : Array Bool) (pend D : List AI) (G : List Nat) (fr : AF) (mem : AM) (nx : Nat) (ρ : Nat → Pl) (a : Act) (w : World), floatB ops post n σ listed (pend.map (·.j)) = true →
    strx τ F ops memS σ G fr mem nx K → Sat (C.wf D) ρ fr mem nx a w → Ext ρS nS ρ nx → HeldS C ρS nS memS w → (∀ x ∈ pend, Pend τ ops C.n0 C.nt ρ nx fr x) → (∀ x ∈ A, x ∈ pend ∨ x ∈ D) → Sole (pend ++ D) → (∀ x ∈ pend, x ∉ D) → (∀ x ∈ A, lk fr x.d = none) →
    (∀ p ∈ σ, ∀ d, dstOf ops p.1 = some d → ∀ x ∈ A, x.d ≠ d) → (∀ x ∈ pend, x ∈ A) → (pend.map (·.j)).Nodup →
    wpAnyH P .any ops Q (HeldS C ρS nS memS) (σ.length + pend.length + post.length) listed a w := by
  intro n
  induction n with
  | zero => intro σ listed pend D G fr mem nx ρ a w hB; simp [floatB] at hB
  | succ n ih =>
    intro σ listed pend D G fr mem nx ρ a w hB h hs hx hS hp hA hsole hdis hnone hdst hpA hnd
    -- a pending variable comes up
    have key : ∀ (j : Nat), (pend.map (·.j)).contains j = true → floatB ops post n σ (listed.setIfInBounds j true) ((pend.map (·.j)).filter fun k => !(k == j)) = true →
        ∃ m, σ.length + pend.length + post.length = m + 1 ∧ wpOp P ops Q j (fun a' w' => HeldS C ρS nS memS w' ∧ wpAnyH P .any ops Q (HeldS C ρS nS memS) m (listed.setIfInBounds j true) a' w') a w := by
      intro j hj hfl
      obtain ⟨x, hxp, rfl⟩ : ∃ x ∈ pend, x.j = j := by simpa using hj
      obtain ⟨hlt, hge, hres, hnn, hnt, ⟨o, ho, hop, hod, hog⟩, ti, hti, hz⟩ := hp x hxp
      have hsx : Sole (x :: D) := fun y hy z hz => hsole y (by rcases List.mem_cons.1 hy with rfl | hy; exact List.mem_append_left _ hxp; exact List.mem_append_right _ hy) z (by rcases List.mem_cons.1 hz with rfl | hz; exact List.mem_append_left _ hxp; exact List.mem_append_right _ hz)
      have hs2 := hs.comeup hτ hti hz hsx (hdis x hxp) hlt hge hres hnn hnt
      have hxx : Ext ρ nx (setPl ρ x.ν ⟨some ⟨w.heap.size, 0, none⟩, 0, 0, false⟩) nx := ⟨fun i _ hr => if_neg (by rintro rfl; rw [hr] at hres; cases hres), Nat.le_refl _⟩
      have hbel : Below w.heap.size w (w.alloc (.cells x.zero.toArray x.t)) := (Below.refl _ _).alloc (Nat.le_refl _) _
      have hS2 : HeldS C ρS nS memS (w.alloc (.cells x.zero.toArray x.t)) := fun i b hi => (hS i b hi).later hbel
      have hflen : (pend.filter fun y => !(y.j == x.j)).length + 1 = pend.length := by
        have h1 : (pend.map (·.j)).filter (fun k => !(k == x.j)) = (pend.map (·.j)).erase x.j := by
          rw [List.Nodup.erase_eq_filter hnd]
          congr 1
        have h2 := congrArg List.length h1
        rw [List.filter_map, List.length_map, List.length_erase_of_mem (List.mem_map_of_mem hxp), List.length_map] at h2
        have : 0 < pend.length := List.length_pos_of_mem hxp
        have e : (pend.filter ((fun k => !(k == x.j)) ∘ fun y : AI => y.j)) = pend.filter fun y => !(y.j == x.j) := rfl
        rw [e] at h2
        omega
      refine ⟨σ.length + (pend.filter fun y => !(y.j == x.j)).length + post.length, by omega, ?_⟩
      refine wpOp_act ho hog ?_
      have hrun := alloc_run (P := P) (a := a) (w := w) (hτ _ _ hti) hop
      rw [← hz] at hrun
      refine wp_value hrun ⟨hS2, ?_⟩
      rw [hod]
      refine ih σ _ (pend.filter fun y => !(y.j == x.j)) (x :: D) G fr mem nx _ _ _ ?_ h hs2 (hx.trans hxx) hS2 ?_ ?_ ?_ ?_ hnone hdst ?_ ?_
      · rw [List.filter_map] at hfl; exact hfl
      · intro y hy
        obtain ⟨hyp, hyj⟩ := List.mem_filter.1 hy
        obtain ⟨q1, q0, q2, q3, q4, q5, q6⟩ := hp y hyp
        refine ⟨q1, q0, ?_, q3, q4, q5, q6⟩
        rw [show setPl ρ x.ν _ y.ν = ρ y.ν from if_neg (by
          intro he
          have := hsole y (List.mem_append_left _ hyp) x (List.mem_append_left _ hxp) (.inr (.inl he))
          subst this
          simp at hyj)]
        exact q2
      · intro y hy
        rcases hA y hy with h1 | h1
        · by_cases he : y.j = x.j
          · have := hsole y (List.mem_append_left _ h1) x (List.mem_append_left _ hxp) (.inr (.inr he))
            subst this
            exact .inr (List.mem_cons_self ..)
          · exact .inl (List.mem_filter.2 ⟨h1, by simp [he]⟩)
        · exact .inr (List.mem_cons_of_mem _ h1)
      · intro y hy z hz
        have f : ∀ u, u ∈ (pend.filter fun y => !(y.j == x.j)) ++ x :: D → u ∈ pend ++ D := by
          intro u hu
          rcases List.mem_append.1 hu with hu | hu
          · exact List.mem_append_left _ (List.mem_filter.1 hu).1
          · rcases List.mem_cons.1 hu with rfl | hu
            · exact List.mem_append_left _ hxp
            · exact List.mem_append_right _ hu
        exact hsole y (f y hy) z (f z hz)
      · intro y hy hyD
        obtain ⟨hyp, hyj⟩ := List.mem_filter.1 hy
        rcases List.mem_cons.1 hyD with rfl | hyD
        · simp at hyj
        · exact hdis y hyp hyD
      · intro y hy; exact hpA y (List.mem_filter.1 hy).1
      · have : ((pend.filter fun y => !(y.j == x.j)).map (·.j)) = (pend.map (·.j)).filter (fun k => !(k == x.j)) := by rw [List.filter_map]; rfl
        rw [this]
        exact hnd.filter _
    cases σ with
    | nil =>
      cases hpd : pend with
      | nil =>
        subst hpd
        simp only [floatB, List.map_nil] at hB
        have hall : ∀ x ∈ A, x ∈ D := fun x hx => (hA x hx).resolve_left (by simp)
        have := hK G fr mem nx ρ a w D h hs hx hS hall (by simpa using hsole) hnone
        have h2 := wpAnyH_of_seq hsel post listed a w hB hS this
        simpa using h2
      | cons y ys =>
        have hB2 := hB
        rw [hpd] at hB2
        simp only [floatB, List.map_cons, Bool.and_eq_true, List.all_eq_true, Bool.not_eq_true', List.isEmpty_eq_false_iff] at hB2
        obtain ⟨hne, hall⟩ := hB2
        rw [← hpd]
        have hpos : 0 < pend.length := by rw [hpd]; simp
        obtain ⟨m, hm⟩ : ∃ m, ([] : List (Nat × Bool)).length + pend.length + post.length = m + 1 := ⟨pend.length + post.length - 1, by simp; omega⟩
        rw [hm]
        refine wpAnyH_all rfl hne fun j hj => ?_
        obtain ⟨h1, h2⟩ := hall j hj
        obtain ⟨m', hm', hwp⟩ := key j (by rw [hpd]; exact h1) (by rw [hpd]; exact h2)
        obtain rfl : m' = m := by omega
        exact hwp
    | cons p r =>
      obtain ⟨i, act⟩ := p
      simp only [strx_cons, putK_eq] at h
      cases ho : ops[i]? with
      | none => rw [ho] at h; exact h.elim
      | some o =>
        rw [ho] at h
        simp only at h
        have hod : ∀ x ∈ A, o.dst ≠ some x.d := by
          intro x hx he
          exact hdst (i, act) (List.mem_cons_self ..) x.d (by simp [dstOf, ho, he]) x hx rfl
        have hlen : (((i, act) :: r).length + pend.length + post.length) = (r.length + pend.length + post.length) + 1 := by simp; omega
        obtain ⟨b, G', fr', hgo, hw, hf, hnn⟩ := gdx_sound (C := C.wf D) h hs.fok
        have hs' := hs.frm hf
        have hputn : ∀ (v : Value) (x : AI), x ∈ A → lk (putF o.dst v fr') x.d = none := fun v x hx => by rw [lk_putF (hod x hx)]; exact hnn _ (hnone x hx)
        have hdst' : ∀ p ∈ r, ∀ d, dstOf ops p.1 = some d → ∀ x ∈ A, x.d ≠ d := fun p hp => hdst p (List.mem_cons_of_mem _ hp)
        cases act with
        | false =>
          simp only [floatB, Bool.and_eq_true] at hB
          obtain ⟨⟨h1, h2⟩, h3⟩ := hB
          rw [hlen]
          cases b with
          | false =>
            have hrest := ih r _ pend D G' _ mem nx ρ _ w h3 hgo (den_undef (ρ := ρ) ▸ hs'.put (d := o.dst) (hd i o ho) okV_undef) hx hS (fun x hx => by
              obtain ⟨q1, q0, q2, q3, q4, q5, q6⟩ := hp x hx
              exact ⟨q1, q0, q2, hputn _ x (hpA x hx), q4, q5, q6⟩) hA hsole hdis (fun x hx => hputn _ x hx) hdst' hpA hnd
            exact wpAnyH_take ho hsel h1 h2 (fun c a w h => hQ _ _ _ _ h) (.inr ⟨hw, rfl⟩) hS hrest
          | true =>
            simp only at hgo
            cases hv : vx τ fr' memS o.op with
            | none => rw [hv] at hgo; exact hgo.elim
            | some v =>
              rw [hv] at hgo
              have hHD := held_wf (D := D) hH
              have hy : YieldsIf P ops (HeldS C ρS nS memS) o (den ρ v) a := .inl ⟨hw, fun w hS => (vx_run (P := P) hτ hf.left (HeldS.cur hH hS hx) hv).1⟩
              have hrest := ih r _ pend D G' _ mem nx ρ _ w h3 hgo (hs'.put (d := o.dst) (hd i o ho) (vx_ok (P := P) hτ (HeldS.cur hH hS hx) hf.left hv)) hx hS (fun x hx => by
                obtain ⟨q1, q0, q2, q3, q4, q5, q6⟩ := hp x hx
                exact ⟨q1, q0, q2, hputn _ x (hpA x hx), q4, q5, q6⟩) hA hsole hdis (fun x hx => hputn _ x hx) hdst' hpA hnd
              exact wpAnyH_take ho hsel h1 h2 (fun c a w h => hQ _ _ _ _ h) hy hS hrest
        | true =>
          simp only [floatB, Bool.and_eq_true, List.all_eq_true, Bool.not_eq_true', List.isEmpty_eq_false_iff, Bool.or_eq_true, decide_eq_true_eq] at hB
          obtain ⟨hne, hall⟩ := hB
          rw [hlen]
          refine wpAnyH_all rfl hne fun j hj => ?_
          rcases hall j hj with ⟨rfl, h3⟩ | ⟨h1, h2⟩
          · cases b with
            | false =>
              have hrest := ih r _ pend D G' _ mem nx ρ _ w h3 hgo (den_undef (ρ := ρ) ▸ hs'.put (d := o.dst) (hd j o ho) okV_undef) hx hS (fun x hx => by
                obtain ⟨q1, q0, q2, q3, q4, q5, q6⟩ := hp x hx
                exact ⟨q1, q0, q2, hputn _ x (hpA x hx), q4, q5, q6⟩) hA hsole hdis (fun x hx => hputn _ x hx) hdst' hpA hnd
              unfold wpOp
              simp only [ho]
              rw [if_neg (by rw [hw]; simp)]
              exact ⟨hS, hrest⟩
            | true =>
              simp only at hgo
              refine wpOp_actG ho hw (Oper.wp_mono ?_ (opx_sound (Q := Q) (C := C.wf D) hτ hF (hd j o ho) hgo hs'))
              rintro a2 w2 ⟨fr2, mem2, nx2, ρ2, ⟨hk2, hk3⟩, hs2, hx2, hfr2⟩
              have hS2 : HeldS C ρS nS memS w2 := heldS_wf.1 ((held_wf (D := D) hH).now (hx.trans hx2.ext) hs2 (fun i b hi => lk_app (keeps_lk hk2 i b hi)))
              refine ⟨hS2, ih r _ pend D G' fr2 mem2 nx2 ρ2 a2 w2 h3 hk3 hs2 (hx.trans hx2.ext) hS2 (fun x hx => ?_) hA hsole hdis (fun x hx => ?_) hdst' hpA hnd⟩
              · obtain ⟨q1, q0, q2, q3, q4, q5, q6⟩ := hp x hx
                exact ⟨Nat.lt_of_lt_of_le q1 hx2.2, q0, by rw [hx2.1 _ q1]; exact q2, by rw [hfr2 _ (hod x (hpA x hx))]; exact hnn _ (hnone x (hpA x hx)), q4, q5, q6⟩
              · rw [hfr2 _ (hod x hx)]; exact hnn _ (hnone x hx)
          · obtain ⟨m', hm', hwp⟩ := key j h1 h2
            obtain rfl : m' = r.length + pend.length + post.length := by simp at hm'; omega
            exact hwp
end
end Go.Proofs.Ytjobcfpnmfjlfaa

namespace Go.Proofs.Ytjobcfpnmfjlfaa
open Go.RowKit
set_option linter.unusedSimpArgs false
set_option linter.unusedVariables false

section
variable {P : Program} {τ : TT} {F : FT} {C : Ctx} {ρ : Nat → Pl} {fr : AF} {mem : AM} {nx : Nat} {a : Act} {w : World} {Q : Exit → Act → World → Prop}
theorem Sat.reserveN (h : Sat C ρ fr mem nx a w) : ∀ n, ∃ ρ', Sat C ρ' fr mem (nx + n) a w ∧ ExtS ρ nx ρ' (nx + n) ∧ ∀ i, nx ≤ i → i < nx + n → (ρ' i).res = true
  | 0 => ⟨ρ, h, ExtS.refl _ _, fun i h1 h2 => by omega⟩
  | n + 1 => by
    obtain ⟨ρ', h1, h2, h3⟩ := Sat.reserveN h n
    refine ⟨setPl ρ' (nx + n) ⟨none, 0, 0, true⟩, h1.reserve, h2.trans (ExtS.set _ _ _), fun i h4 h5 => ?_⟩
    by_cases hi : i = nx + n
    · subst hi; rw [setPl_same]
    · rw [setPl_lt ρ' _ (by omega)]; exact h3 i h4 (by omega)
theorem mkA_get {ops : Array Oper} : ∀ {A : List Nat} {nx : Nat} {xs : List AI}, mkA τ ops nx A = some xs → xs.length = A.length ∧ ∀ i x, xs[i]? = some x → A[i]? = some x.j ∧ x.ν = nx + i ∧
    (∃ o, ops[x.j]? = some o ∧ o.op = .alloc x.t ∧ o.dst = some x.d ∧ o.guard = none) ∧ ∃ ti, lk τ x.t = some ti ∧ x.zero = ti.zero
  | [], nx, xs, h => by simp [mkA] at h; subst h; simp
  | j :: r, nx, xs, h => by
    simp only [mkA] at h
    cases ho : ops[j]? with
    | none => rw [ho] at h; simp at h
    | some o =>
      rw [ho] at h
      split at h
      · rename_i d t ty ps af heq
        cases heq
        cases hti : lk τ t with
        | none => rw [hti] at h; simp at h
        | some ti =>
          rw [hti] at h
          simp only at h
          cases hr : mkA τ ops (nx + 1) r with
          | none => rw [hr] at h; simp at h
          | some l =>
            rw [hr] at h
            simp at h
            subst h
            obtain ⟨h1, h2⟩ := mkA_get hr
            refine ⟨by simp [h1], fun i x hx => ?_⟩
            cases i with
            | zero =>
              simp at hx
              subst hx
              exact ⟨by simp, rfl, ⟨_, ho, rfl, rfl, rfl⟩, ti, hti, rfl⟩
            | succ i =>
              simp at hx
              obtain ⟨q1, q2, q3⟩ := h2 i x hx
              exact ⟨by simpa using q1, by omega, q3⟩
      · simp at h
theorem nodupB_sound : ∀ {l : List Nat}, nodupB l = true → l.Nodup
  | [], _ => List.nodup_nil
  | x :: r, h => by
    simp only [nodupB, Bool.and_eq_true, Bool.not_eq_true'] at h
    exact List.nodup_cons.2 ⟨by simpa using h.1, nodupB_sound h.2⟩
theorem nodup_idx {l : List Nat} (h : l.Nodup) {i j : Nat} {v : Nat} (hi : l[i]? = some v) (hj : l[j]? = some v) : i = j := by
  obtain ⟨h1, h2⟩ := List.getElem?_eq_some_iff.1 hi
  obtain ⟨h3, h4⟩ := List.getElem?_eq_some_iff.1 hj
  exact (List.getElem_inj h).1 (h2.trans h4.symm)
theorem mkA_sole {ops : Array Oper} {A : List Nat} {xs : List AI} (h : mkA τ ops nx A = some xs) (h1 : A.Nodup) (h2 : (A.map fun j => (dstOf ops j).getD 0).Nodup) : Sole xs := by
  obtain ⟨hl, hg⟩ := mkA_get h
  intro x hx y hy he
  obtain ⟨i, hi⟩ := List.getElem?_of_mem hx
  obtain ⟨j, hj⟩ := List.getElem?_of_mem hy
  obtain ⟨a1, a2, ⟨o, a3, a4, a5, a6⟩, -⟩ := hg i x hi
  obtain ⟨b1, b2, ⟨p, b3, b4, b5, b6⟩, -⟩ := hg j y hj
  have : i = j := by
    rcases he with he | he | he
    · refine nodup_idx h2 (v := x.d) ?_ ?_
      · simp [List.getElem?_map, a1, dstOf, a3, a5]
      · simp [List.getElem?_map, b1, dstOf, b3, b5, he]
    · omega
    · exact nodup_idx h1 a1 (he ▸ b1)
  subst this
  rw [hi] at hj
  exact Option.some.inj hj
def NoPanic (Q : Exit → Act → World → Prop) : Prop := ∀ c a w, ¬ Q (.panic c) a w
theorem dregx_sound (hτ : TTok P τ) (hF : FTok P F) (hm : P.follows .mixedOrders = true) (hQ : NoPanic Q) (hC : C.ff = [] ∧ C.fm = []) {l : List Oper} {d : DP} (hB : dregB l d = true) (hd : ∀ o ∈ l, ∀ i, o.dst = some i → i < C.nt) {id : Nat} {K : AF → AM → Nat → Prop}
    (h : dregx τ F l d fr mem nx K) (hs : Sat C ρ fr mem nx a w) (hK : ∀ fr' mem' nx' ρ' a' w', K fr' mem' nx' → Sat C ρ' fr' mem' nx' a' w' → Q .normal a' w') : (Code.region id l.toArray true).wp P Q a w := by
  unfold dregx at h
  simp only [dregB, Bool.and_eq_true, decide_eq_true_eq] at hB
  obtain ⟨⟨⟨⟨⟨⟨hlast, hsel⟩, hlen⟩, hfl⟩, hpd⟩, hn1⟩, hn2⟩ := hB
  cases hA : mkA τ (l.take d.k).toArray nx d.A with
  | none => rw [hA] at h; exact h.elim
  | some xs =>
    rw [hA] at h
    simp only at h
    obtain ⟨hxl, hxg⟩ := mkA_get hA
    have hsole := mkA_sole hA (nodupB_sound hn1) (nodupB_sound hn2)
    have hxj : xs.map (·.j) = d.A := by
      apply List.ext_getElem?
      intro i
      rw [List.getElem?_map]
      cases hx : xs[i]? with
      | none =>
        have : xs.length ≤ i := List.getElem?_eq_none_iff.1 hx
        rw [List.getElem?_eq_none (show d.A.length ≤ i by omega)]
        rfl
      | some x => rw [(hxg i x hx).1]; rfl
    obtain ⟨ρS, hsS, hxS, hresS⟩ := hs.drew.reserveN d.A.length
    have hdk : ∀ (i : Nat) (o : Oper), (l.take d.k).toArray[i]? = some o → ∀ j, o.dst = some j → j < C.nt := fun i o ho => hd o (by
      have : (l.take d.k)[i]? = some o := by simpa using ho
      exact List.mem_of_mem_take (List.mem_of_getElem? this))
    have hH : Held C ρS (nx + d.A.length) (sel mem d.L) w.drew := ⟨fun i b hi => hsS.blk i b (lk_app (sel_lk i b hi)), fun i b hi => hsS.mlt i b (lk_app (sel_lk i b hi))⟩
    have hS0 : HeldS C ρS (nx + d.A.length) (sel mem d.L) w.drew := hH.blk
    refine wp_region_last d.k hm hlast (wpAny_of_held (S := HeldS C ρS (nx + d.A.length) (sel mem d.L)) _ _ _ _ ?_)
    obtain ⟨hdl1, hdl2⟩ := delFs_lk (xs := xs) (fr := fr)
    have hs1 : Sat (C.wf []) ρS (delFs xs fr) mem (nx + d.A.length) a w.drew := hsS.ctx rfl rfl rfl rfl rfl (fun t v hv => by
      have hv' : lk (delFs xs fr ++ []) t = some v := hv
      rw [List.append_nil] at hv'
      exact lk_app (hdl2 t v hv')) (fun i b hb => by
      have hb' : lk (mem ++ []) i = some b := hb
      rw [List.append_nil] at hb'
      exact lk_app hb')
    have hQ2 : ∀ c a a' w, thenK (fun a w => wpList P l.toArray Q (l.drop d.k) a w) Q (.panic c) a w → thenK (fun a w => wpList P l.toArray Q (l.drop d.k) a w) Q (.panic c) a' w := fun c a a' w hq => (hQ c a w hq).elim
    have hkey := float_sound (Q := thenK (fun a w => wpList P l.toArray Q (l.drop d.k) a w) Q) hτ hF hsel hdk hQ2 hH (A := xs) (post := d.post)
      (K := fun G fr1 mem1 nx1 => strx τ F (l.take d.k).toArray (sel mem d.L) d.post G (fr1 ++ slots xs) (mem1 ++ blks xs) nx1 (fun G fr2 mem2 nx2 => opsx τ F l.toArray (l.drop d.k) G fr2 mem2 nx2 K)) ?_
      (d.k + 1) d.pre (Array.replicate d.k false) xs [] [] (delFs xs fr) mem (nx + d.A.length) ρS a w.drew (by rw [hxj]; exact hfl) h hs1 (Ext.refl _ _) hS0 ?_ (fun x hx => .inl hx) (by simpa using hsole) (fun x _ hx => by cases hx) hdl1 ?_ (fun x hx => hx) (by rw [hxj]; exact nodupB_sound hn1)
    · rw [show d.pre.length + xs.length + d.post.length = d.k by rw [hxl]; exact hlen] at hkey
      exact hkey
    · intro G' fr' mem' nx' ρ' a' w' D' hk hs' hx' hS' hall hsole' hnone'
      have hs2 : Sat C ρ' (fr' ++ slots xs) (mem' ++ blks xs) nx' a' w' := hs'.ctx rfl rfl rfl rfl rfl (fun t v hv => by
        rw [hC.1, List.append_nil] at hv
        show lk (fr' ++ slots D') t = some v
        cases hf : lk fr' t with
        | some u => rw [lk_app hf] at hv ⊢; exact hv
        | none =>
          rw [lk_none_app hf] at hv ⊢
          obtain ⟨x, hx, rfl, rfl⟩ := slots_lk hv
          exact slots_get hsole' x (hall x hx)) (fun i b hb => by
        rw [hC.2, List.append_nil] at hb
        show lk (mem' ++ blks D') i = some b
        cases hf : lk mem' i with
        | some u => rw [lk_app hf] at hb ⊢; exact hb
        | none =>
          rw [lk_none_app hf] at hb ⊢
          obtain ⟨x, hx, rfl, rfl⟩ := blks_lk hb
          exact blks_get hsole' x (hall x hx))
      refine strx_sound hτ hF hdk hQ2 hH d.post G' _ _ nx' ρ' a' w' hk hs2 hx' hS' ?_
      intro G2 fr2 mem2 nx2 ρ2 a2 w2 hk2 hs3 hx3
      show wpList P l.toArray Q (l.drop d.k) a2 w2
      exact opsx_sound hτ hF (l.drop d.k) (fun o ho => hd o (List.mem_of_mem_drop ho)) G2 fr2 mem2 nx2 ρ2 a2 w2 hk2 hs3 (fun fr' mem' nx' ρ' a' w' hk hs _ => hK fr' mem' nx' ρ' a' w' hk hs)
    · intro x hx
      obtain ⟨i, hi⟩ := List.getElem?_of_mem hx
      obtain ⟨q1, q2, q3, q4⟩ := hxg i x hi
      have hil : i < xs.length := (List.getElem?_eq_some_iff.1 hi).1
      obtain ⟨o, q5, q6, q7, q8⟩ := q3
      exact ⟨by omega, by have := hs.n0; omega, hresS _ (by omega) (by omega), hdl1 x hx, hdk _ o q5 _ q7, ⟨o, q5, q6, q7, q8⟩, q4⟩
    · intro p hp dd hdd x hx he
      subst he
      simp only [preDst, List.all_eq_true] at hpd
      have := hpd p hp
      rw [hdd] at this
      simp only [List.all_eq_true] at this
      obtain ⟨i, hi⟩ := List.getElem?_of_mem hx
      obtain ⟨q1, q2, ⟨o, q5, q6, q7, q8⟩, q4⟩ := hxg i x hi
      have h5 := this x.j (by rw [← hxj]; exact List.mem_map_of_mem hx)
      simp [dstOf] at h5
      simp at q5
      rw [q5] at h5
      simp [q7] at h5
end
end Go.Proofs.Ytjobcfpnmfjlfaa

namespace Go.Proofs.Ytjobcfpnmfjlfaa
open Go.RowKit
set_option linter.unusedSimpArgs false
set_option linter.unusedVariables false

/-- How a drawn region is walked: fixed operations one by one; at a branch every operation that may come up. -/
inductive GS where
  | fin
  | fix (i : Nat) (r : GS)
  | act (i : Nat) (r : GS)
  | two (i : Nat) (r : GS) (j : Nat) (s : GS)
  | three (i : Nat) (r : GS) (j : Nat) (s : GS) (k : Nat) (t : GS)
def gsB (ops : Array Oper) : GS → Nat → Array Bool → Bool
  | .fin, n, listed => decide (n = 0) && (Region.ready .any ops listed).isEmpty
  | .fix i r, n, listed => decide (0 < n) && Region.free .any ops listed i && (Region.ready .any ops listed).contains i && gsB ops r (n - 1) (listed.setIfInBounds i true)
  | .act i r, n, listed => decide (0 < n) && decide (Region.ready .any ops listed = [i]) && gsB ops r (n - 1) (listed.setIfInBounds i true)
  | .two i r j s, n, listed => decide (0 < n) && decide (Region.ready .any ops listed = [i, j]) && gsB ops r (n - 1) (listed.setIfInBounds i true) && gsB ops s (n - 1) (listed.setIfInBounds j true)
  | .three i r j s k t, n, listed => decide (0 < n) && decide (Region.ready .any ops listed = [i, j, k]) && gsB ops r (n - 1) (listed.setIfInBounds i true) && gsB ops s (n - 1) (listed.setIfInBounds j true) && gsB ops t (n - 1) (listed.setIfInBounds k true)
abbrev GK' := List Nat → AF → AM → Nat → (List Nat → AF → AM → Nat → Prop) → Prop
/-- One operation that acts. -/
def gactx (τ : TT) (F : FT) (ops : Array Oper) (memS : AM) (i : Nat) (ih : GK') (G : List Nat) (fr : AF) (mem : AM) (nx : Nat) (K : List Nat → AF → AM → Nat → Prop) : Prop :=
  match ops[i]? with
  | none => False
  | some o => gdx ops G o.guard fr (fun b G' fr' => match b with
    | true => opx τ F o fr' mem nx (fun fr2 mem2 nx2 => keeps mem2 memS ∧ ih G' fr2 mem2 nx2 K)
    | false => putK o.dst (.tuple #[]) fr' fun fr2 => ih G' fr2 mem nx K)
def gfixx (τ : TT) (ops : Array Oper) (memS : AM) (i : Nat) (ih : GK') (G : List Nat) (fr : AF) (mem : AM) (nx : Nat) (K : List Nat → AF → AM → Nat → Prop) : Prop :=
  match ops[i]? with
  | none => False
  | some o => gdx ops G o.guard fr (fun b G' fr' => match b with
    | true => (match vx τ fr' memS o.op with | some v => putK o.dst v fr' (fun fr2 => ih G' fr2 mem nx K) | none => False)
    | false => putK o.dst (.tuple #[]) fr' fun fr2 => ih G' fr2 mem nx K)
def gsx (τ : TT) (F : FT) (ops : Array Oper) (memS : AM) (σ : GS) : GK' :=
  GS.rec (motive := fun _ => GK') (fun G fr mem nx K => K G fr mem nx)
    (fun i _ ih => gfixx τ ops memS i ih)
    (fun i _ ih => gactx τ F ops memS i ih)
    (fun i _ j _ ih ij G fr mem nx K => gactx τ F ops memS i ih G fr mem nx K ∧ gactx τ F ops memS j ij G fr mem nx K)
    (fun i _ j _ k _ ih ij ik G fr mem nx K => gactx τ F ops memS i ih G fr mem nx K ∧ gactx τ F ops memS j ij G fr mem nx K ∧ gactx τ F ops memS k ik G fr mem nx K) σ
def gregx (τ : TT) (F : FT) (l : List Oper) (k : Nat) (L : List Nat) (σ : GS) (fr : AF) (mem : AM) (nx : Nat) (K : AF → AM → Nat → Prop) : Prop :=
  gsx τ F (l.take k).toArray (sel mem L) σ [] fr mem nx (fun G fr2 mem2 nx2 => opsx τ F l.toArray (l.drop k) G fr2 mem2 nx2 K)
def gregB (l : List Oper) (k : Nat) (σ : GS) : Bool := lastB l k && Region.noSelect (l.take k).toArray && gsB (l.take k).toArray σ k (Array.replicate k false)

section
variable {P : Program} {τ : TT} {F : FT} {C : Ctx} {Q : Exit → Act → World → Prop}
theorem gsx_sound (hτ : TTok P τ) (hF : FTok P F) {ops : Array Oper} (hsel : Region.noSelect ops = true) (hd : ∀ (i : Nat) (o : Oper), ops[i]? = some o → ∀ j, o.dst = some j → j < C.nt) (hQ : ∀ c a a' w, Q (.panic c) a w → Q (.panic c) a' w)
    {ρS : Nat → Pl} {nS : Nat} {memS : AM} {w1 : World} (hH : Held C ρS nS memS w1) {K : List Nat → AF → AM → Nat → Prop}
    (hK : ∀ G' fr' mem' nx' ρ' a' w', K G' fr' mem' nx' → Sat C ρ' fr' mem' nx' a' w' → Q .normal a' w') : ∀ (σ : GS) (n : Nat) (listed : Array Bool) (G : List Nat) (fr : AF) (mem : AM) (nx : Nat) (ρ : Nat → Pl) (a : Act) (w : World), gsB ops σ n listed = true →
    gsx τ F ops memS σ G fr mem nx K → Sat C ρ fr mem nx a w → Ext ρS nS ρ nx → HeldS C ρS nS memS w → wpAnyH P .any ops Q (HeldS C ρS nS memS) n listed a w := by
  intro σ
  -- an operation that acts
  have act : ∀ (i : Nat) (r : GS), (∀ (n : Nat) (listed : Array Bool) (G : List Nat) (fr : AF) (mem : AM) (nx : Nat) (ρ : Nat → Pl) (a : Act) (w : World), gsB ops r n listed = true → gsx τ F ops memS r G fr mem nx K → Sat C ρ fr mem nx a w → Ext ρS nS ρ nx → HeldS C ρS nS memS w → wpAnyH P .any ops Q (HeldS C ρS nS memS) n listed a w) →
      ∀ (m : Nat) (listed : Array Bool) (G : List Nat) (fr : AF) (mem : AM) (nx : Nat) (ρ : Nat → Pl) (a : Act) (w : World), gsB ops r m listed = true → gactx τ F ops memS i (gsx τ F ops memS r) G fr mem nx K → Sat C ρ fr mem nx a w → Ext ρS nS ρ nx → HeldS C ρS nS memS w →
      wpOp P ops Q i (fun a' w' => HeldS C ρS nS memS w' ∧ wpAnyH P .any ops Q (HeldS C ρS nS memS) m listed a' w') a w := by
    intro i r ih m listed G fr mem nx ρ a w hB h hs hx hS
    simp only [gactx, putK_eq] at h
    cases ho : ops[i]? with
    | none => rw [ho] at h; exact h.elim
    | some o =>
      rw [ho] at h
      simp only at h
      obtain ⟨b, G', fr', hgo, hw, hf, -⟩ := gdx_sound h hs.fok
      have hs' := hs.frm hf
      cases b with
      | false =>
        have hrest := ih m listed G' _ mem nx ρ _ w hB hgo (hs'.put (d := o.dst) (hd i o ho) okV_undef) hx hS
        rw [den_undef] at hrest
        unfold wpOp
        simp only [ho]
        rw [if_neg (by rw [hw]; simp)]
        exact ⟨hS, hrest⟩
      | true =>
        refine wpOp_actG ho hw (Oper.wp_mono ?_ (opx_sound (Q := Q) hτ hF (hd i o ho) hgo hs'))
        rintro a2 w2 ⟨fr2, mem2, nx2, ρ2, ⟨hk2, hk3⟩, hs2, hx2, -⟩
        have hS2 := hH.now (hx.trans hx2.ext) hs2 (fun i b hi => lk_app (keeps_lk hk2 i b hi))
        exact ⟨hS2, ih m listed G' fr2 mem2 nx2 ρ2 a2 w2 hB hk3 hs2 (hx.trans hx2.ext) hS2⟩
  induction σ with
  | fin =>
    intro n listed G fr mem nx ρ a w hB h hs hx hS
    simp only [gsB, Bool.and_eq_true, decide_eq_true_eq, List.isEmpty_iff] at hB
    exact wpAnyH_done hB.2 (hK _ _ _ _ _ _ _ h hs) _
  | fix i r ih =>
    intro n listed G fr mem nx ρ a w hB h hs hx hS
    simp only [gsB, Bool.and_eq_true, decide_eq_true_eq] at hB
    obtain ⟨⟨⟨hn, h1⟩, h2⟩, h3⟩ := hB
    obtain ⟨m, rfl⟩ : ∃ m, n = m + 1 := ⟨n - 1, by omega⟩
    replace h : gfixx τ ops memS i (gsx τ F ops memS r) G fr mem nx K := h
    simp only [gfixx, putK_eq] at h
    cases ho : ops[i]? with
    | none => rw [ho] at h; exact h.elim
    | some o =>
      rw [ho] at h
      simp only at h
      obtain ⟨b, G', fr', hgo, hw, hf, -⟩ := gdx_sound h hs.fok
      have hs' := hs.frm hf
      cases b with
      | false =>
        have hrest := ih m _ G' _ mem nx ρ _ w h3 hgo (hs'.put (d := o.dst) (hd i o ho) okV_undef) hx hS
        rw [den_undef] at hrest
        exact wpAnyH_take ho hsel h1 h2 (fun c a w h => hQ _ _ _ _ h) (.inr ⟨hw, rfl⟩) hS hrest
      | true =>
        simp only at hgo
        cases hv : vx τ fr' memS o.op with
        | none => rw [hv] at hgo; exact hgo.elim
        | some v =>
          rw [hv] at hgo
          have hrest := ih m _ G' _ mem nx ρ _ w h3 hgo (hs'.put (d := o.dst) (hd i o ho) (vx_ok (P := P) hτ (HeldS.cur hH hS hx) hf.left hv)) hx hS
          exact wpAnyH_take ho hsel h1 h2 (fun c a w h => hQ _ _ _ _ h) (fix_yields hτ hH hx hf.left hw hv) hS hrest
  | act i r ih =>
    intro n listed G fr mem nx ρ a w hB h hs hx hS
    simp only [gsB, Bool.and_eq_true, decide_eq_true_eq] at hB
    obtain ⟨⟨hn, h1⟩, h3⟩ := hB
    obtain ⟨m, rfl⟩ : ∃ m, n = m + 1 := ⟨n - 1, by omega⟩
    refine wpAnyH_all h1 (by simp) fun j hj => ?_
    obtain rfl : j = i := by simpa using hj
    exact act j r ih m _ G fr mem nx ρ a w h3 h hs hx hS
  | two i r j s ihi ihj =>
    intro n listed G fr mem nx ρ a w hB h hs hx hS
    simp only [gsB, Bool.and_eq_true, decide_eq_true_eq] at hB
    obtain ⟨⟨⟨hn, h1⟩, h3⟩, h4⟩ := hB
    obtain ⟨m, rfl⟩ : ∃ m, n = m + 1 := ⟨n - 1, by omega⟩
    refine wpAnyH_all h1 (by simp) fun q hq => ?_
    rcases List.mem_cons.1 hq with rfl | hq
    · exact act q r ihi m _ G fr mem nx ρ a w h3 h.1 hs hx hS
    · obtain rfl : q = j := by simpa using hq
      exact act q s ihj m _ G fr mem nx ρ a w h4 h.2 hs hx hS
  | three i r j s k t ihi ihj ihk =>
    intro n listed G fr mem nx ρ a w hB h hs hx hS
    simp only [gsB, Bool.and_eq_true, decide_eq_true_eq] at hB
    obtain ⟨⟨⟨⟨hn, h1⟩, h3⟩, h4⟩, h5⟩ := hB
    obtain ⟨m, rfl⟩ : ∃ m, n = m + 1 := ⟨n - 1, by omega⟩
    refine wpAnyH_all h1 (by simp) fun q hq => ?_
    rcases List.mem_cons.1 hq with rfl | hq
    · exact act q r ihi m _ G fr mem nx ρ a w h3 h.1 hs hx hS
    · rcases List.mem_cons.1 hq with rfl | hq
      · exact act q s ihj m _ G fr mem nx ρ a w h4 h.2.1 hs hx hS
      · obtain rfl : q = k := by simpa using hq
        exact act q t ihk m _ G fr mem nx ρ a w h5 h.2.2 hs hx hS
theorem gregx_sound {ρ : Nat → Pl} {fr : AF} {mem : AM} {nx : Nat} {a : Act} {w : World} (hτ : TTok P τ) (hF : FTok P F) (hm : P.follows .mixedOrders = true) (hQ : NoPanic Q) {l : List Oper} {k : Nat} {L : List Nat} {σ : GS} (hB : gregB l k σ = true) (hd : ∀ o ∈ l, ∀ i, o.dst = some i → i < C.nt) {id : Nat} {K : AF → AM → Nat → Prop}
    (h : gregx τ F l k L σ fr mem nx K) (hs : Sat C ρ fr mem nx a w) (hK : ∀ fr' mem' nx' ρ' a' w', K fr' mem' nx' → Sat C ρ' fr' mem' nx' a' w' → Q .normal a' w') : (Code.region id l.toArray true).wp P Q a w := by
  simp only [gregB, Bool.and_eq_true] at hB
  obtain ⟨⟨hlast, hsel⟩, hg⟩ := hB
  have hsd := hs.drew
  have hdk : ∀ (i : Nat) (o : Oper), (l.take k).toArray[i]? = some o → ∀ j, o.dst = some j → j < C.nt := fun i o ho => hd o (by
    have : (l.take k)[i]? = some o := by simpa using ho
    exact List.mem_of_mem_take (List.mem_of_getElem? this))
  have hH : Held C ρ nx (sel mem L) w.drew := ⟨fun i b hi => hsd.blk i b (lk_app (sel_lk i b hi)), fun i b hi => hsd.mlt i b (lk_app (sel_lk i b hi))⟩
  have hQ2 : ∀ c a a' w, thenK (fun a w => wpList P l.toArray Q (l.drop k) a w) Q (.panic c) a w → thenK (fun a w => wpList P l.toArray Q (l.drop k) a w) Q (.panic c) a' w := fun c a a' w hq => (hQ c a w hq).elim
  refine wp_region_last k hm hlast (wpAny_of_held (S := HeldS C ρ nx (sel mem L)) _ _ _ _ ?_)
  refine gsx_sound (Q := thenK (fun a w => wpList P l.toArray Q (l.drop k) a w) Q) hτ hF hsel hdk hQ2 hH ?_ σ k _ [] fr mem nx ρ a w.drew hg h hsd (Ext.refl _ _) hH.blk
  intro G2 fr2 mem2 nx2 ρ2 a2 w2 hk2 hs3
  show wpList P l.toArray Q (l.drop k) a2 w2
  exact opsx_sound hτ hF (l.drop k) (fun o ho => hd o (List.mem_of_mem_drop ho)) G2 fr2 mem2 nx2 ρ2 a2 w2 hk2 hs3 (fun fr' mem' nx' ρ' a' w' hk hs _ => hK fr' mem' nx' ρ' a' w' hk hs)
end
end Go.Proofs.Ytjobcfpnmfjlfaa

namespace Go.Proofs.Ytjobcfpnmfjlfaa
open Go.RowKit
set_option linter.unusedSimpArgs false
set_option linter.unusedVariables false

def nm1 (n : Nat) : Value → Bool
  | .pointer (some a) => decide (a.block < n)
  | .slice (some a) _ _ => decide (a.block < n)
  | _ => true
def nm2 (n : Nat) : Value → Bool
  | .agg cs => cs.toList.all (nm1 n)
  | v => nm1 n v
def nmV (n : Nat) : Value → Bool
  | .tuple vs => vs.toList.all (nm2 n)
  | v => nm2 n v
def nmB (n : Nat) : ABlk → Bool
  | .box _ cs => cs.all (nm1 n)
  | .row _ _ _ _ => true
def nmF (n : Nat) (fr : AF) : Bool := fr.all fun p => nmV n p.2
def nmM (n : Nat) (mem : AM) : Bool := mem.all fun p => decide (p.1 < n) && nmB n p.2
/-! Names of rows may change where ways meet. -/
def rnm (σ : List (Nat × Nat)) (i : Nat) : Nat := match lk σ i with | some j => j | none => i
def rn1 (σ : List (Nat × Nat)) : Value → Value
  | .pointer (some ⟨b, o, s⟩) => .pointer (some ⟨rnm σ b, o, s⟩)
  | .slice (some ⟨b, o, s⟩) n c => .slice (some ⟨rnm σ b, o, s⟩) n c
  | v => v
def rn2 (σ : List (Nat × Nat)) : Value → Value
  | .agg cs => .agg (cs.toList.map (rn1 σ)).toArray
  | v => rn1 σ v
def rnV (σ : List (Nat × Nat)) : Value → Value
  | .tuple vs => .tuple (vs.toList.map (rn2 σ)).toArray
  | v => rn2 σ v
def rnB (σ : List (Nat × Nat)) : ABlk → ABlk
  | .box t cs => .box t (cs.map (rn1 σ))
  | .row t sz n el => .row t sz n el
def subFR (fr : AF) (σ : List (Nat × Nat)) (f : AF) : Prop := List.rec (motive := fun _ => Prop) True (fun p _ ih => lk fr p.1 = some (rnV σ p.2) ∧ ih) f
def keepsR (mem : AM) (σ : List (Nat × Nat)) (m : AM) : Prop := List.rec (motive := fun _ => Prop) True (fun p _ ih => lk mem (rnm σ p.1) = some (rnB σ p.2) ∧ ih) m
def exB : ABlk → Bool
  | .box _ _ => true
  | .row t _ _ _ => ownT t
def exN : AM → List Nat
  | [] => []
  | (i, b) :: r => (match exB b with | true => i :: exN r | false => exN r)
/-- No two boxes get one name. -/
def noBox (σ : List (Nat × Nat)) (m : AM) : Bool := (exN m).all fun i => (exN m).all fun j => Nat.beq i j || !(Nat.beq (rnm σ i) (rnm σ j))
def rnLow (n : Nat) (σ : List (Nat × Nat)) : Bool := σ.all fun p => decide (n ≤ p.1)

section
variable {C : Ctx} {ρ : Nat → Pl} {fr : AF} {mem : AM} {nx : Nat} {a : Act} {w : World} {σ : List (Nat × Nat)}
theorem lk_mem {α : Type} : ∀ {l : List (Nat × α)} {n : Nat} {v : α}, lk l n = some v → (n, v) ∈ l
  | [], n, v, h => by simp [lk] at h
  | (k, u) :: l, n, v, h => by
    rcases lk_cons h with ⟨rfl, rfl⟩ | ⟨_, h⟩
    · exact List.mem_cons_self ..
    · exact List.mem_cons_of_mem _ (lk_mem h)
theorem nm1_ok {n : Nat} {v : Value} (h : ok1 ρ nx v) (hn : nm1 n v = true) : ok1 ρ n v := by
  cases v with
  | pointer p => cases p with
    | none => trivial
    | some ad => exact ⟨⟨by simpa [nm1] using hn, h.1.2⟩, h.2⟩
  | slice p k c => cases p with
    | none => trivial
    | some ad => exact ⟨by simpa [nm1] using hn, h.2⟩
  | _ => trivial
theorem nm2_ok {n : Nat} {v : Value} (h : ok2 ρ nx v) (hn : nm2 n v = true) : ok2 ρ n v := by
  cases v with
  | agg cs => intro u hu; exact nm1_ok (h u hu) (by simp only [nm2, List.all_eq_true] at hn; exact hn u (by simpa using hu))
  | pointer p => exact nm1_ok (v := .pointer p) h hn
  | slice p k c => exact nm1_ok (v := .slice p k c) h hn
  | _ => trivial
theorem nmV_ok {n : Nat} {v : Value} (h : okV ρ nx v) (hn : nmV n v = true) : okV ρ n v := by
  cases v with
  | tuple vs => intro u hu; exact nm2_ok (h u hu) (by simp only [nmV, List.all_eq_true] at hn; exact hn u (by simpa using hu))
  | agg cs => exact nm2_ok (v := .agg cs) h hn
  | pointer p => exact nm2_ok (v := .pointer p) h hn
  | slice p k c => exact nm2_ok (v := .slice p k c) h hn
  | _ => trivial
theorem dA_rn (a : Addr) : dA (fun i => ρ (rnm σ i)) a = dA ρ ⟨rnm σ a.block, a.off, a.spot⟩ := rfl
theorem den1_rn (v : Value) : den1 (fun i => ρ (rnm σ i)) v = den1 ρ (rn1 σ v) := by
  cases v with
  | pointer p => cases p <;> rfl
  | slice p k c => cases p <;> rfl
  | _ => rfl
theorem den2_rn (v : Value) : den2 (fun i => ρ (rnm σ i)) v = den2 ρ (rn2 σ v) := by
  cases v with
  | agg cs =>
    simp only [den2, rn2]
    congr 1
    apply Array.toList_inj.1
    simp [Function.comp_def, den1_rn]
  | pointer p => cases p <;> rfl
  | slice p k c => cases p <;> rfl
  | _ => rfl
theorem den_rn (v : Value) : den (fun i => ρ (rnm σ i)) v = den ρ (rnV σ v) := by
  cases v with
  | tuple cs =>
    simp only [den, rnV]
    congr 1
    apply Array.toList_inj.1
    simp [Function.comp_def, den2_rn]
  | agg cs => exact den2_rn (.agg cs)
  | pointer p => cases p <;> rfl
  | slice p k c => cases p <;> rfl
  | _ => rfl
theorem ok1_rn {n : Nat} {v : Value} (h : ok1 ρ nx (rn1 σ v)) (hn : nm1 n v = true) : ok1 (fun i => ρ (rnm σ i)) n v := by
  cases v with
  | pointer p => cases p with
    | none => trivial
    | some ad => exact ⟨⟨by simpa [nm1] using hn, h.1.2⟩, h.2⟩
  | slice p k c => cases p with
    | none => trivial
    | some ad => exact ⟨by simpa [nm1] using hn, h.2⟩
  | _ => trivial
theorem ok2_rn {n : Nat} {v : Value} (h : ok2 ρ nx (rn2 σ v)) (hn : nm2 n v = true) : ok2 (fun i => ρ (rnm σ i)) n v := by
  cases v with
  | agg cs => intro u hu; exact ok1_rn (h _ (by simp; exact ⟨u, hu, rfl⟩)) (by simp only [nm2, List.all_eq_true] at hn; exact hn u (by simpa using hu))
  | pointer p => cases p with
    | none => trivial
    | some ad => exact ok1_rn (v := .pointer (some ad)) h hn
  | slice p k c => cases p with
    | none => trivial
    | some ad => exact ok1_rn (v := .slice (some ad) k c) h hn
  | _ => trivial
theorem okV_rn {n : Nat} {v : Value} (h : okV ρ nx (rnV σ v)) (hn : nmV n v = true) : okV (fun i => ρ (rnm σ i)) n v := by
  cases v with
  | tuple vs => intro u hu; exact ok2_rn (h _ (by simp; exact ⟨u, hu, rfl⟩)) (by simp only [nmV, List.all_eq_true] at hn; exact hn u (by simpa using hu))
  | agg cs => exact ok2_rn (v := .agg cs) h hn
  | pointer p => cases p with
    | none => trivial
    | some ad => exact ok1_rn (v := .pointer (some ad)) h hn
  | slice p k c => cases p with
    | none => trivial
    | some ad => exact ok1_rn (v := .slice (some ad) k c) h hn
  | _ => trivial
theorem subFR_lk : ∀ {f : AF}, subFR fr σ f → ∀ t v, lk f t = some v → lk fr t = some (rnV σ v)
  | [], _, t, v, h => by simp [lk] at h
  | (k, u) :: l, hs, t, v, h => by
    rcases lk_cons h with ⟨rfl, rfl⟩ | ⟨_, h⟩
    · exact hs.1
    · exact subFR_lk hs.2 t v h
theorem keepsR_lk : ∀ {m : AM}, keepsR mem σ m → ∀ i b, lk m i = some b → lk mem (rnm σ i) = some (rnB σ b)
  | [], _, t, v, h => by simp [lk] at h
  | (k, u) :: l, hs, t, v, h => by
    rcases lk_cons h with ⟨rfl, rfl⟩ | ⟨_, h⟩
    · exact hs.1
    · exact keepsR_lk hs.2 t v h
theorem exN_lk : ∀ {m : AM} {i : Nat} {b : ABlk}, lk m i = some b → exB b = true → i ∈ exN m
  | [], i, b, h, _ => by simp [lk] at h
  | (k, c) :: l, i, b, h, hb => by
    simp only [exN]
    rcases lk_cons h with ⟨rfl, rfl⟩ | ⟨_, h⟩
    · rw [hb]; exact List.mem_cons_self ..
    · cases exB c
      · exact exN_lk h hb
      · exact List.mem_cons_of_mem _ (exN_lk h hb)
theorem noBox_ne {m : AM} (h : noBox σ m = true) {i j : Nat} {b b' : ABlk} (hi : lk m i = some b) (hj : lk m j = some b') (hb : exB b = true) (hb' : exB b' = true) (he : rnm σ i = rnm σ j) : i = j := by
  simp only [noBox, List.all_eq_true] at h
  have := h i (exN_lk hi hb) j (exN_lk hj hb')
  rw [he, Nat.beq_refl] at this
  simp at this
  exact this
theorem rnm_low {n : Nat} (h : rnLow n σ = true) {i : Nat} (hi : i < n) : rnm σ i = i := by
  unfold rnm
  cases hl : lk σ i with
  | none => rfl
  | some j =>
    simp only [rnLow, List.all_eq_true, decide_eq_true_eq] at h
    have := h _ (lk_mem hl)
    simp only at this
    omega
theorem Sat.rename (hC : C.ff = [] ∧ C.fm = []) (h : Sat C ρ fr mem nx a w) {fr' : AF} {mem' : AM} {m n : Nat} (hm0 : C.n0 ≤ m) (hlow : rnLow m σ = true) (hn : C.n0 ≤ n) (hf : subFR fr σ fr') (hm : keepsR mem σ mem') (hnb : noBox σ mem' = true) (hnf : nmF n fr' = true) (hnm : nmM n mem' = true) :
    Sat C (fun i => ρ (rnm σ i)) fr' mem' n a w := by
  simp only [nmF, List.all_eq_true] at hnf
  simp only [nmM, List.all_eq_true, Bool.and_eq_true, decide_eq_true_eq] at hnm
  have efr : ∀ {t v}, lk (fr' ++ C.ff) t = some v → lk fr' t = some v := fun hv => by rw [hC.1, List.append_nil] at hv; exact hv
  have emm : ∀ {i b}, lk (mem' ++ C.fm) i = some b → lk mem' i = some b := fun hv => by rw [hC.2, List.append_nil] at hv; exact hv
  have old : ∀ {i b}, lk (mem' ++ C.fm) i = some b → lk (mem ++ C.fm) (rnm σ i) = some (rnB σ b) := fun hv => lk_app (keepsR_lk hm _ _ (emm hv))
  refine ⟨⟨fun t v hv => ?_, fun t v hv => ?_⟩, h.sz, h.dfr, fun i b hi => ?_, fun i b hi => ?_, fun i j b b' hne hi hj => ?_, hn, fun i hi => ?_, h.rest⟩
  · rw [den_rn]
    exact h.fok.frm t _ (lk_app (subFR_lk hf t v (efr hv)))
  · exact okV_rn (h.fok.frk t _ (lk_app (subFR_lk hf t v (efr hv)))) (hnf _ (lk_mem (efr hv)))
  · exact ⟨(hnm _ (lk_mem (emm hi))).1, (h.mlt _ _ (old hi)).2⟩
  · have hb := h.blk _ _ (old hi)
    have h2 := (hnm _ (lk_mem (emm hi))).2
    cases b with
    | box t cs =>
      obtain ⟨g, e1, e2, e3, e4⟩ := hb
      simp only [nmB, List.all_eq_true] at h2
      refine ⟨g, e1, ?_, e3, fun v hv => ok1_rn (e4 _ (List.mem_map_of_mem hv)) (h2 v hv)⟩
      have : cs.map (den1 fun i => ρ (rnm σ i)) = (cs.map (rn1 σ)).map (den1 ρ) := by simp [Function.comp_def, den1_rn]
      rw [this]
      exact e2
    | row t sz k el => exact hb
  · have h1 := old hi
    have h2 := old hj
    have hs : rnm σ i ≠ rnm σ j → Apart (fun i => ρ (rnm σ i)) i j b b' := fun hne' => by
      have := h.sep _ _ _ _ hne' h1 h2
      cases b <;> cases b' <;> exact this
    by_cases he : rnm σ i = rnm σ j
    · cases b with
      | row t sz n el =>
        cases b' with
        | box t2 cs2 => trivial
        | row t2 sz2 n2 el2 =>
          intro ho
          rw [he, h2] at h1
          cases h1
          exact absurd (noBox_ne hnb (emm hi) (emm hj) ho ho he) hne
      | box t cs =>
        cases b' with
        | box t2 cs2 =>
          exact absurd (noBox_ne hnb (emm hi) (emm hj) rfl rfl he) hne
        | row t2 sz n el =>
          rw [he, h2] at h1
          cases h1
    · exact hs he
  · show ρ (rnm σ i) = _
    rw [rnm_low hlow (Nat.lt_of_lt_of_le hi hm0)]
    exact h.low i hi
end
end Go.Proofs.Ytjobcfpnmfjlfaa

namespace Go.Proofs.Ytjobcfpnmfjlfaa
open Go.RowKit
set_option linter.unusedSimpArgs false
set_option linter.unusedVariables false

/-- How a drawn region is walked. -/
structure DQ extends DP where
  g : Option GS := none
  sl : List Nat := []
inductive Ex where
  | normal
  | exit (n : Nat)
  | ret
def Ex.to : Ex → Exit
  | .normal => .normal
  | .exit n => .exit n
  | .ret => .ret
def subF (fr : AF) (f : AF) : Prop := List.rec (motive := fun _ => Prop) True (fun p _ ih => lk fr p.1 = some p.2 ∧ ih) f
def regx (τ : TT) (F : FT) (D : List (Nat × DQ)) (id : Nat) (ops : Array Oper) (draw : Bool) (fr : AF) (mem : AM) (nx : Nat) (K : Ex → AF → AM → Nat → Prop) : Prop :=
  match draw with
  | false => opsx τ F ops ops.toList [] fr mem nx (K .normal)
  | true => (match lk D id with
    | some d => (match d.g with
      | none => dregx τ F ops.toList d.toDP fr mem nx (K .normal)
      | some σ => gregx τ F ops.toList d.k d.L σ fr mem nx (K .normal))
    | none => False)
def seqK (K : Ex → AF → AM → Nat → Prop) (next : AF → AM → Nat → Prop) (e : Ex) (fr : AF) (mem : AM) (nx : Nat) : Prop := match e with | .normal => next fr mem nx | .exit i => K (.exit i) fr mem nx | .ret => K .ret fr mem nx
def blockK (id : Nat) (K : Ex → AF → AM → Nat → Prop) (e : Ex) (fr : AF) (mem : AM) (nx : Nat) : Prop := match e with | .exit i => (match Nat.beq i id with | true => K .normal fr mem nx | false => K (.exit i) fr mem nx) | .normal => K .normal fr mem nx | .ret => K .ret fr mem nx
def setC (c : Operand) (b : Bool) (fr : AF) : AF := match c with | .tmp d => (d, .bool b) :: fr | _ => fr
def condx (c : Operand) (fr : AF) (A B : AF → Prop) : Prop := match ev fr c with | some (.bool t) => (t = true → A (setC c true fr)) ∧ (t = false → B (setC c false fr)) | _ => False
abbrev SX := AF → AM → Nat → (Ex → AF → AM → Nat → Prop) → Prop
/-- The slots and names that stay, written out. -/
def selK (fr : AF) (slots : List Nat) (k : AF → Prop) : Prop := List.rec (motive := fun _ => AF → Prop) (fun acc => k acc) (fun t _ ih acc => match lk fr t with | some v => ih ((t, v) :: acc) | none => ih acc) slots []
def selMK (mem : AM) (names : List Nat) (k : AM → Prop) : Prop := List.rec (motive := fun _ => AM → Prop) (fun acc => k acc) (fun t _ ih acc => match lk mem t with | some v => ih ((t, v) :: acc) | none => ih acc) names []
theorem selK_some {fr : AF} {slots : List Nat} {k : AF → Prop} (h : selK fr slots k) : ∃ f, k f := by
  have : ∀ (l : List Nat) (acc : AF), (List.rec (motive := fun _ => AF → Prop) (fun acc => k acc) (fun t _ ih acc => match lk fr t with | some v => ih ((t, v) :: acc) | none => ih acc) l acc : Prop) → ∃ f, k f := by
    intro l
    induction l with
    | nil => intro acc h; exact ⟨acc, h⟩
    | cons t l ih =>
      intro acc h
      simp only at h
      cases hl : lk fr t with
      | none => rw [hl] at h; exact ih _ h
      | some v => rw [hl] at h; exact ih _ h
  exact this slots [] h
theorem selMK_some {mem : AM} {names : List Nat} {k : AM → Prop} (h : selMK mem names k) : ∃ f, k f := by
  have : ∀ (l : List Nat) (acc : AM), (List.rec (motive := fun _ => AM → Prop) (fun acc => k acc) (fun t _ ih acc => match lk mem t with | some v => ih ((t, v) :: acc) | none => ih acc) l acc : Prop) → ∃ f, k f := by
    intro l
    induction l with
    | nil => intro acc h; exact ⟨acc, h⟩
    | cons t l ih =>
      intro acc h
      simp only at h
      cases hl : lk mem t with
      | none => rw [hl] at h; exact ih _ h
      | some v => rw [hl] at h; exact ih _ h
  exact this names [] h
/-- A loop: slots and names that stay; what changes with the rounds. -/
def loopx (d : DQ) (body : SX) (fr : AF) (mem : AM) (nx : Nat) (K : Ex → AF → AM → Nat → Prop) : Prop :=
  selK fr d.sl fun fr0 => selMK mem d.L fun mem0 => ∃ (α : Type) (newF : α → AF) (newM : α → AM) (inv : α → Prop) (μ : α → Nat), (∃ x, inv x ∧ subF fr (newF x ++ fr0) ∧ keeps mem (newM x ++ mem0)) ∧
      ∀ x, inv x → (nmF nx (newF x ++ fr0) = true ∧ nmM nx (newM x ++ mem0) = true) ∧ body (newF x ++ fr0) (newM x ++ mem0) nx (seqK K fun fr' mem' _ => ∃ y, (inv y ∧ μ y < μ x) ∧ subF fr' (newF y ++ fr0) ∧ keeps mem' (newM y ++ mem0))
/-- The ways through the first part meet. -/
def cutx (d : DQ) (ia ib : SX) (fr : AF) (mem : AM) (nx : Nat) (K : Ex → AF → AM → Nat → Prop) : Prop :=
  selK fr d.sl fun fr0 => selMK mem d.L fun mem0 => ∃ (α : Type) (newF : α → AF) (newM : α → AM) (inv : α → Prop), ia fr mem nx (seqK K fun fr' mem' _ => ∃ y, inv y ∧ subF fr' (newF y ++ fr0) ∧ keeps mem' (newM y ++ mem0)) ∧
      ∀ y, inv y → (nx ≤ d.k ∧ nmF d.k (newF y ++ fr0) = true ∧ nmM d.k (newM y ++ mem0) = true) ∧ ib (newF y ++ fr0) (newM y ++ mem0) d.k K
/-- The same, where names of rows change. -/
def looprx (d : DQ) (body : SX) (fr : AF) (mem : AM) (nx : Nat) (K : Ex → AF → AM → Nat → Prop) : Prop :=
  selK fr d.sl fun fr0 => selMK mem d.L fun mem0 => ∃ (α : Type) (newF : α → AF) (newM : α → AM) (inv : α → Prop) (μ : α → Nat), (∃ x σ, inv x ∧ (rnLow nx σ = true ∧ noBox σ (newM x ++ mem0) = true) ∧ subFR fr σ (newF x ++ fr0) ∧ keepsR mem σ (newM x ++ mem0)) ∧
      ∀ x, inv x → (nx ≤ d.k ∧ nmF d.k (newF x ++ fr0) = true ∧ nmM d.k (newM x ++ mem0) = true) ∧ body (newF x ++ fr0) (newM x ++ mem0) d.k (seqK K fun fr' mem' _ => ∃ y σ, (inv y ∧ μ y < μ x) ∧ (rnLow nx σ = true ∧ noBox σ (newM y ++ mem0) = true) ∧ subFR fr' σ (newF y ++ fr0) ∧ keepsR mem' σ (newM y ++ mem0))
def cutrx (d : DQ) (ia ib : SX) (fr : AF) (mem : AM) (nx : Nat) (K : Ex → AF → AM → Nat → Prop) : Prop :=
  selK fr d.sl fun fr0 => selMK mem d.L fun mem0 => ∃ (α : Type) (newF : α → AF) (newM : α → AM) (inv : α → Prop), ia fr mem nx (seqK K fun fr' mem' _ => ∃ y σ, inv y ∧ (rnLow nx σ = true ∧ noBox σ (newM y ++ mem0) = true) ∧ subFR fr' σ (newF y ++ fr0) ∧ keepsR mem' σ (newM y ++ mem0)) ∧
      ∀ y, inv y → (nx ≤ d.k ∧ nmF d.k (newF y ++ fr0) = true ∧ nmM d.k (newM y ++ mem0) = true) ∧ ib (newF y ++ fr0) (newM y ++ mem0) d.k K
def firstR : Code → Option Nat
  | .region id _ _ => some id
  | .seq a b => (match firstR a with | some r => some r | none => firstR b)
  | .block _ a => firstR a
  | .loop a => firstR a
  | .scope a => firstR a
  | _ => none
/-- Is there a cut ahead of this code? It stands in the table under a million and the number of its first region; a loop under two millions and the number of its first region. -/
def isCut (D : List (Nat × DQ)) (c : Code) : Option DQ := match firstR c with | some r => lk D (1000000 + r) | none => none
def isLoop (D : List (Nat × DQ)) (c : Code) : Option DQ := match firstR c with | some r => lk D (2000000 + r) | none => none
def isLoopR (D : List (Nat × DQ)) (c : Code) : Option DQ := match firstR c with | some r => lk D (3000000 + r) | none => none
def isCutR (D : List (Nat × DQ)) (c : Code) : Option DQ := match firstR c with | some r => lk D (4000000 + r) | none => none
def sx (τ : TT) (F : FT) (D : List (Nat × DQ)) (c : Code) : SX :=
  Code.rec (motive := fun _ => SX)
    (fun fr mem nx K => K .normal fr mem nx)
    (fun id ops draw fr mem nx K => regx τ F D id ops draw fr mem nx K)
    (fun _ b ia ib fr mem nx K => match isCut D b with
      | none => (match isCutR D b with
        | none => ia fr mem nx (seqK K fun fr' mem' nx' => ib fr' mem' nx' K)
        | some d => cutrx d ia ib fr mem nx K)
      | some d => cutx d ia ib fr mem nx K)
    (fun c _ _ ia ib fr mem nx K => condx c fr (fun fr' => ia fr' mem nx K) (fun fr' => ib fr' mem nx K))
    (fun id _ ia fr mem nx K => ia fr mem nx (blockK id K))
    (fun c ia fr mem nx K => match isLoop D c with | some d => loopx d ia fr mem nx K | none => (match isLoopR D c with | some d => looprx d ia fr mem nx K | none => False))
    (fun _ _ _ _ _ _ _ _ _ _ => False)
    (fun id fr mem nx K => K (.exit id) fr mem nx)
    (fun _ ia fr mem nx K => ia fr mem nx K)
    (fun _ fr mem nx K => K .normal fr mem nx)
    (fun _ _ _ _ _ => False)
    (fun fr mem nx K => K .ret fr mem nx)
    (fun _ _ _ _ _ => False) c
def codeB (nt : Nat) (D : List (Nat × DQ)) : Code → Bool
  | .region id ops draw => (ops.toList.all fun o => match o.dst with | some d => decide (d < nt) | none => true) && (match draw with
    | false => true
    | true => (match lk D id with | some d => (match d.g with | none => dregB ops.toList d.toDP | some σ => gregB ops.toList d.k σ) | none => false))
  | .seq a b => codeB nt D a && codeB nt D b
  | .cond _ a b => codeB nt D a && codeB nt D b
  | .block _ a => codeB nt D a
  | .loop a => codeB nt D a
  | .scope a => codeB nt D a
  | _ => true

section
variable {P : Program} {τ : TT} {F : FT} {D : List (Nat × DQ)} {C : Ctx} {ρ : Nat → Pl} {fr : AF} {mem : AM} {nx : Nat} {a : Act} {w : World}
theorem subF_lk : ∀ {f : AF}, subF fr f → ∀ t v, lk f t = some v → lk fr t = some v
  | [], _, t, v, h => by simp [lk] at h
  | (k, u) :: l, hs, t, v, h => by
    rcases lk_cons h with ⟨rfl, rfl⟩ | ⟨_, h⟩
    · exact hs.1
    · exact subF_lk hs.2 t v h
/-- Names may be used again. -/
theorem Sat.lower (hC : C.ff = [] ∧ C.fm = []) (h : Sat C ρ fr mem nx a w) {n : Nat} (hf : nmF n fr = true) (hm : nmM n mem = true) (hn : C.n0 ≤ n) : Sat C ρ fr mem n a w := by
  simp only [nmF, List.all_eq_true] at hf
  simp only [nmM, List.all_eq_true, Bool.and_eq_true, decide_eq_true_eq] at hm
  refine ⟨⟨h.fok.frm, fun t v hv => ?_⟩, h.sz, h.dfr, fun i b hi => ?_, fun i b hi => ?_, h.sep, hn, h.low, h.rest⟩
  · have hv' := hv
    rw [hC.1, List.append_nil] at hv'
    exact nmV_ok (h.fok.frk t v hv) (hf _ (lk_mem hv'))
  · have hi' := hi
    rw [hC.2, List.append_nil] at hi'
    exact ⟨(hm _ (lk_mem hi')).1, (h.mlt i b hi).2⟩
  · have hi' := hi
    rw [hC.2, List.append_nil] at hi'
    have h1 := h.blk i b hi
    have h2 := (hm _ (lk_mem hi')).2
    cases b with
    | box t cs =>
      obtain ⟨g, e1, e2, e3, e4⟩ := h1
      simp only [nmB, List.all_eq_true] at h2
      exact ⟨g, e1, e2, e3, fun v hv => nm1_ok (e4 v hv) (h2 v hv)⟩
    | row t sz k el => exact h1
theorem loop_wp {x : Code} {Q : Exit → Act → World → Prop} {α : Type} {I : α → Act → World → Prop} (μ : α → Nat) (hround : ∀ y a w, I y a w → x.wp P (Exit.then (fun a' w' => ∃ z, μ z < μ y ∧ I z a' w') Q) a w) {y : α} {a : Act} {w : World} (h : I y a w) : (Code.loop x).wp P Q a w := by
  have main : ∀ n y, μ y = n → ∀ a w, I y a w → ∀ (b : Frame) (k : List Item) (cs : List Frame),
      ∃ e a' w', Q e a' w' ∧ Arrives P (lone (b.at a (.code x :: .inLoop x :: k)) cs w) b k cs e a' w' := by
    intro n
    induction n using Nat.strongRecOn with
    | _ n ih =>
      intro y hn a w hI b k cs
      obtain ⟨e, a1, w1, hq, harr⟩ := hround y a w hI b (.inLoop x :: k) cs
      cases e with
      | normal =>
        obtain ⟨z, hlt, hiz⟩ := hq
        obtain ⟨e2, a2, w2, hq2, harr2⟩ := ih (μ z) (by omega) z rfl a1 w1 hiz b k cs
        exact ⟨e2, a2, w2, hq2, .of_steps (Steps.trans harr (.one step_inLoop)) harr2⟩
      | exit i => exact ⟨_, a1, w1, hq, .pass (x := .inLoop x) rfl (fun _ _ => .inl (by simp)) harr⟩
      | goto l => exact ⟨_, a1, w1, hq, .pass (x := .inLoop x) rfl (fun _ _ => .inl (by simp)) harr⟩
      | ret => exact ⟨_, a1, w1, hq, .pass (x := .inLoop x) rfl (fun _ _ => .inl (by simp)) harr⟩
      | panic ch => exact ⟨_, a1, w1, hq, .pass (x := .inLoop x) rfl (fun _ _ => .inl (by simp)) harr⟩
      | outgrown => exact ⟨_, a1, w1, hq, .pass (x := .inLoop x) rfl (fun _ _ => .inl (by simp)) harr⟩
  intro b k cs
  obtain ⟨e, a', w', hq, harr⟩ := main (μ y) y rfl a w h b k cs
  exact ⟨e, a', w', hq, .of_steps (.one step_loop) harr⟩
theorem sx_sound (hτ : TTok P τ) (hF : FTok P F) (hmix : P.follows .mixedOrders = true) (hC : C.ff = [] ∧ C.fm = []) : ∀ (c : Code), codeB C.nt D c = true → ∀ (fr : AF) (mem : AM) (nx : Nat) (K : Ex → AF → AM → Nat → Prop) (ρ : Nat → Pl) (a : Act) (w : World) (Q : Exit → Act → World → Prop),
    sx τ F D c fr mem nx K → Sat C ρ fr mem nx a w → NoPanic Q → (∀ e fr' mem' nx' ρ' a' w', K e fr' mem' nx' → Sat C ρ' fr' mem' nx' a' w' → Q e.to a' w') → c.wp P Q a w := by
  intro c
  induction c with
  | skip => intro _ fr mem nx K ρ a w Q h hs hQ hK; exact wp_skip (hK .normal _ _ _ _ _ _ h hs)
  | label l => intro _ fr mem nx K ρ a w Q h hs hQ hK; exact wp_label (hK .normal _ _ _ _ _ _ h hs)
  | region id ops draw =>
    intro hB fr mem nx K ρ a w Q h hs hQ hK
    simp only [codeB, Bool.and_eq_true, List.all_eq_true] at hB
    obtain ⟨hd, hdr⟩ := hB
    have hd' : ∀ o ∈ ops.toList, ∀ i, o.dst = some i → i < C.nt := fun o ho i hi => by
      have := hd o ho
      rw [hi] at this
      simpa using this
    have e : ops = ops.toList.toArray := by simp
    cases draw with
    | false =>
      replace h : opsx τ F ops ops.toList [] fr mem nx (K .normal) := h
      rw [e]
      refine wp_region_lit ?_
      rw [← e]
      exact opsx_sound hτ hF ops.toList hd' [] fr mem nx ρ a w h hs (fun fr' mem' nx' ρ' a' w' hk hs' _ => hK .normal _ _ _ _ _ _ hk hs')
    | true =>
      replace h : (match lk D id with
        | some d => (match d.g with
          | none => dregx τ F ops.toList d.toDP fr mem nx (K .normal)
          | some σ => gregx τ F ops.toList d.k d.L σ fr mem nx (K .normal))
        | none => False) := h
      simp only at hdr
      cases hD : lk D id with
      | none => rw [hD] at h; exact h.elim
      | some d =>
        rw [hD] at h hdr
        simp only at h hdr
        rw [e]
        cases hg : d.g with
        | none =>
          rw [hg] at h hdr
          exact dregx_sound hτ hF hmix hQ hC hdr hd' h hs (fun fr' mem' nx' ρ' a' w' hk hs' => hK .normal _ _ _ _ _ _ hk hs')
        | some σ =>
          rw [hg] at h hdr
          exact gregx_sound hτ hF hmix hQ hdr hd' h hs (fun fr' mem' nx' ρ' a' w' hk hs' => hK .normal _ _ _ _ _ _ hk hs')
  | seq x y ihx ihy =>
    intro hB fr mem nx K ρ a w Q h hs hQ hK
    simp only [codeB, Bool.and_eq_true] at hB
    replace h : (match isCut D y with | none => (match isCutR D y with | none => sx τ F D x fr mem nx (seqK K fun fr' mem' nx' => sx τ F D y fr' mem' nx' K) | some d => cutrx d (sx τ F D x) (sx τ F D y) fr mem nx K) | some d => cutx d (sx τ F D x) (sx τ F D y) fr mem nx K) := h
    cases hcut : isCut D y with
    | none =>
      rw [hcut] at h
      simp only at h
      cases hcr : isCutR D y with
      | none =>
        rw [hcr] at h
        refine wp_seq (ihx hB.1 fr mem nx _ ρ a w _ h hs (fun c a w hq => hQ c a w hq) ?_)
        intro e fr' mem' nx' ρ' a' w' hk hs'
        cases e with
        | normal => exact ihy hB.2 fr' mem' nx' K ρ' a' w' Q hk hs' hQ hK
        | exit i => exact hK (.exit i) _ _ _ _ _ _ hk hs'
        | ret => exact hK .ret _ _ _ _ _ _ hk hs'
      | some d =>
        rw [hcr] at h
        obtain ⟨fr0, h⟩ := selK_some h
        obtain ⟨mem0, α, newF, newM, inv, hfst, hsnd⟩ := selMK_some h
        refine wp_seq (ihx hB.1 fr mem nx _ ρ a w _ hfst hs (fun c a w hq => hQ c a w hq) ?_)
        intro e fr' mem' nx' ρ' a' w' hk hs'
        cases e with
        | normal =>
          obtain ⟨z, σ, hiz, ⟨hlw, hnb⟩, hfz, hmz⟩ := hk
          obtain ⟨⟨hnx, hnf, hnm⟩, hb⟩ := hsnd z hiz
          exact ihy hB.2 _ _ d.k K _ a' w' Q hb (hs'.rename hC hs.n0 hlw (Nat.le_trans hs.n0 hnx) hfz hmz hnb hnf hnm) hQ hK
        | exit i => exact hK (.exit i) _ _ _ _ _ _ hk hs'
        | ret => exact hK .ret _ _ _ _ _ _ hk hs'
    | some d =>
      rw [hcut] at h
      obtain ⟨fr0, h⟩ := selK_some h
      obtain ⟨mem0, α, newF, newM, inv, hfst, hsnd⟩ := selMK_some h
      refine wp_seq (ihx hB.1 fr mem nx _ ρ a w _ hfst hs (fun c a w hq => hQ c a w hq) ?_)
      intro e fr' mem' nx' ρ' a' w' hk hs'
      cases e with
      | normal =>
        obtain ⟨z, hiz, hfz, hmz⟩ := hk
        obtain ⟨⟨hnx, hnf, hnm⟩, hb⟩ := hsnd z hiz
        have hless : Sat C ρ' (newF z ++ fr0) (newM z ++ mem0) nx' a' w' := hs'.less (fun t v hv => by rw [hC.1, List.append_nil] at hv ⊢; exact subF_lk hfz t v hv) (fun i b hb => by rw [hC.2, List.append_nil] at hb ⊢; exact keeps_lk hmz i b hb)
        exact ihy hB.2 _ _ d.k K ρ' a' w' Q hb (hless.lower hC hnf hnm (Nat.le_trans hs.n0 hnx)) hQ hK
      | exit i => exact hK (.exit i) _ _ _ _ _ _ hk hs'
      | ret => exact hK .ret _ _ _ _ _ _ hk hs'
  | cond c x y ihx ihy =>
    intro hB fr mem nx K ρ a w Q h hs hQ hK
    simp only [codeB, Bool.and_eq_true] at hB
    replace h : condx c fr (fun fr' => sx τ F D x fr' mem nx K) (fun fr' => sx τ F D y fr' mem nx K) := h
    unfold condx at h
    cases hc : ev fr c with
    | none => rw [hc] at h; exact h.elim
    | some v =>
      rw [hc] at h
      cases v <;> simp only at h <;> first | exact h.elim | skip
      rename_i t
      have he : a.eval c = .bool t := (ev_ok hs.fok.left hc).1
      have hset : ∀ b : Bool, t = b → Sat C ρ (setC c b fr) mem nx a w := by
        rintro b rfl
        cases c with
        | tmp d =>
          have hv : lk fr d = some (.bool t) := hc
          refine hs.frm ⟨fun u v hu => ?_, fun u v hu => ?_⟩
          · rcases lk_cons (l := fr ++ C.ff) hu with ⟨rfl, rfl⟩ | ⟨_, hu⟩
            · exact hs.fok.frm _ _ (lk_app hv)
            · exact hs.fok.frm u v hu
          · rcases lk_cons (l := fr ++ C.ff) hu with ⟨rfl, rfl⟩ | ⟨_, hu⟩
            · trivial
            · exact hs.fok.frk u v hu
        | _ => exact hs
      exact wp_cond_split he (fun ht => ihx hB.1 _ mem nx K ρ a w Q (h.1 ht) (hset true ht) hQ hK) (fun ht => ihy hB.2 _ mem nx K ρ a w Q (h.2 ht) (hset false ht) hQ hK)
  | block id x ihx =>
    intro hB fr mem nx K ρ a w Q h hs hQ hK
    simp only [codeB] at hB
    replace h : sx τ F D x fr mem nx (blockK id K) := h
    refine wp_block (ihx hB fr mem nx _ ρ a w _ h hs (fun c a w hq => hQ c a w hq) ?_)
    intro e fr' mem' nx' ρ' a' w' hk hs'
    cases e with
    | normal => exact hK .normal _ _ _ _ _ _ hk hs'
    | ret => exact hK .ret _ _ _ _ _ _ hk hs'
    | exit i =>
      simp only [blockK] at hk
      show Exit.inBlock id Q (.exit i) a' w'
      simp only [Exit.inBlock]
      cases hb : Nat.beq i id with
      | true =>
        rw [hb] at hk
        rw [if_pos (Nat.eq_of_beq_eq_true hb)]
        exact hK .normal _ _ _ _ _ _ hk hs'
      | false =>
        rw [hb] at hk
        rw [if_neg (by rintro rfl; rw [Nat.beq_refl] at hb; cases hb)]
        exact hK (.exit i) _ _ _ _ _ _ hk hs'
  | loop x ihx =>
    intro hB fr mem nx K ρ a w Q h hs hQ hK
    simp only [codeB] at hB
    replace h : (match isLoop D x with | some d => loopx d (sx τ F D x) fr mem nx K | none => (match isLoopR D x with | some d => looprx d (sx τ F D x) fr mem nx K | none => False)) := h
    cases hlp : isLoop D x with
    | none =>
      rw [hlp] at h
      simp only at h
      cases hlr : isLoopR D x with
      | none => rw [hlr] at h; exact h.elim
      | some d =>
        rw [hlr] at h
        obtain ⟨fr0, h⟩ := selK_some h
        obtain ⟨mem0, α, newF, newM, inv, μ, ⟨x0, σ0, hi0, ⟨hlw0, hnb0⟩, hf0, hm0⟩, hround⟩ := selMK_some h
        refine loop_wp (I := fun y a w => inv y ∧ ∃ ρ, Sat C ρ (newF y ++ fr0) (newM y ++ mem0) d.k a w) μ ?_ (y := x0) ?_
        · rintro y a w ⟨hi, ρ, hsy⟩
          obtain ⟨⟨hnx, hnf, hnm⟩, hbody⟩ := hround y hi
          refine ihx hB (newF y ++ fr0) (newM y ++ mem0) d.k _ ρ a w _ hbody hsy (fun c a w hq => hQ c a w hq) ?_
          intro e fr' mem' nx' ρ' a' w' hk hs'
          cases e with
          | normal =>
            obtain ⟨z, σ, ⟨hiz, hμ⟩, ⟨hlw, hnb⟩, hfz, hmz⟩ := hk
            obtain ⟨⟨-, hnfz, hnmz⟩, -⟩ := hround z hiz
            exact ⟨z, hμ, hiz, _, hs'.rename hC hs.n0 hlw (Nat.le_trans hs.n0 hnx) hfz hmz hnb hnfz hnmz⟩
          | exit i => exact hK (.exit i) _ _ _ _ _ _ hk hs'
          | ret => exact hK .ret _ _ _ _ _ _ hk hs'
        · obtain ⟨⟨hnx, hnf, hnm⟩, -⟩ := hround x0 hi0
          exact ⟨hi0, _, hs.rename hC hs.n0 hlw0 (Nat.le_trans hs.n0 hnx) hf0 hm0 hnb0 hnf hnm⟩
    | some d =>
      rw [hlp] at h
      obtain ⟨fr0, h⟩ := selK_some h
      obtain ⟨mem0, α, newF, newM, inv, μ, ⟨x0, hi0, hf0, hm0⟩, hround⟩ := selMK_some h
      have less : ∀ {fr mem : _} {f : AF} {m : AM} {nx' : Nat} {ρ a w}, Sat C ρ fr mem nx' a w → subF fr f → keeps mem m → Sat C ρ f m nx' a w := fun h hf hm =>
        h.less (fun t v hv => by rw [hC.1, List.append_nil] at hv ⊢; exact subF_lk hf t v hv) (fun i b hb => by rw [hC.2, List.append_nil] at hb ⊢; exact keeps_lk hm i b hb)
      refine loop_wp (I := fun y a w => inv y ∧ ∃ ρ, Sat C ρ (newF y ++ fr0) (newM y ++ mem0) nx a w) μ ?_ (y := x0) ⟨hi0, ρ, less hs hf0 hm0⟩
      rintro y a w ⟨hi, ρ, hsy⟩
      obtain ⟨⟨hnf, hnm⟩, hbody⟩ := hround y hi
      refine ihx hB (newF y ++ fr0) (newM y ++ mem0) nx _ ρ a w _ hbody hsy (fun c a w hq => hQ c a w hq) ?_
      intro e fr' mem' nx' ρ' a' w' hk hs'
      cases e with
      | normal =>
        obtain ⟨z, ⟨hiz, hμ⟩, hfz, hmz⟩ := hk
        obtain ⟨⟨hnfz, hnmz⟩, -⟩ := hround z hiz
        exact ⟨z, hμ, hiz, ρ', (less hs' hfz hmz).lower hC hnfz hnmz hs.n0⟩
      | exit i => exact hK (.exit i) _ _ _ _ _ _ hk hs'
      | ret => exact hK .ret _ _ _ _ _ _ hk hs'
  | scope x ihx =>
    intro hB fr mem nx K ρ a w Q h hs hQ hK
    simp only [codeB] at hB
    replace h : sx τ F D x fr mem nx K := h
    refine wp_scope_straight (ihx hB fr mem nx K ρ a w _ h hs (fun c a w hq => hQ c a w hq) ?_)
    intro e fr' mem' nx' ρ' a' w' hk hs'
    cases e <;> exact hK _ _ _ _ _ _ _ hk hs'
  | exit id => intro _ fr mem nx K ρ a w Q h hs hQ hK; exact wp_exit (hK (.exit id) _ _ _ _ _ _ h hs)
  | ret => intro _ fr mem nx K ρ a w Q h hs hQ hK; exact wp_ret (hK .ret _ _ _ _ _ _ h hs)
  | _ => intro _ fr mem nx K ρ a w Q h hs hQ hK; exact (show False from h).elim
end
end Go.Proofs.Ytjobcfpnmfjlfaa

namespace Go.Proofs.Ytjobcfpnmfjlfaa
open Go.RowKit
set_option linter.unusedSimpArgs false
set_option linter.unusedVariables false

def notTup : Value → Bool
  | .tuple _ => false
  | _ => true
def res1 (τ : TT) (fr : AF) (mem : AM) : ResultVar → Option Value
  | .tmp t => (match lk fr t with | some v => (match notTup v with | true => some v | false => none) | none => none)
  | .cell t ty => (match lk fr t with | some p => (match ldx τ mem ty p with | some v => (match notTup v with | true => some v | false => none) | none => none) | none => none)
def resx (τ : TT) (fr : AF) (mem : AM) : List ResultVar → Option Value
  | [] => some (.tuple #[])
  | [r] => res1 τ fr mem r
  | [r, s] => (match res1 τ fr mem r with | some v => (match res1 τ fr mem s with | some u => some (.tuple #[v, u]) | none => none) | none => none)
  | [r, s, t] => (match res1 τ fr mem r with | some v => (match res1 τ fr mem s with | some u => (match res1 τ fr mem t with | some x => some (.tuple #[v, u, x]) | none => none) | none => none) | none => none)
  | _ => none
def argF : Nat → List Value → AF
  | _, [] => []
  | i, v :: r => (i, v) :: argF (i + 1) r

section
variable {P : Program} {τ : TT} {F : FT} {D : List (Nat × DQ)} {C : Ctx} {ρ : Nat → Pl} {fr : AF} {mem : AM} {nx : Nat} {a : Act} {w : World}
/-- How one result is read. -/
def rv (tmps : Array Value) : ResultVar → Sem Value
  | .tmp t => pure (tmps.getD t undef)
  | .cell a t => do loadVar t (← asAddr (tmps.getD a undef))
theorem notTup_den {v : Value} (h : notTup v = true) : den ρ v = den2 ρ v ∧ okV ρ nx v = ok2 ρ nx v := by
  cases v <;> first | exact ⟨rfl, rfl⟩ | simp [notTup] at h
theorem res1_run (hτ : TTok P τ) (hf : FrOk ρ fr nx a) (hm : ∀ i b, lk mem i = some b → BlkOk C ρ nx i w b) {r : ResultVar} {v : Value} (h : res1 τ fr mem r = some v) : (rv a.tmps r).run P w = .ok (den ρ v) w ∧ okV ρ nx v ∧ notTup v = true := by
  cases r with
  | tmp t =>
    simp only [res1] at h
    cases hv : lk fr t with
    | none => rw [hv] at h; simp at h
    | some u =>
      rw [hv] at h
      simp only at h
      cases hn : notTup u with
      | false => rw [hn] at h; simp at h
      | true =>
        rw [hn] at h
        simp at h
        subst h
        have := hf.frm t u hv
        exact ⟨by simp [rv, Array.getD_eq_getD_getElem?, this], hf.frk t u hv, hn⟩
  | cell t ty =>
    simp only [res1] at h
    cases hv : lk fr t with
    | none => rw [hv] at h; simp at h
    | some p =>
      rw [hv] at h
      simp only at h
      cases hl : ldx τ mem ty p with
      | none => rw [hl] at h; simp at h
      | some u =>
        rw [hl] at h
        simp only at h
        cases hn : notTup u with
        | false => rw [hn] at h; simp at h
        | true =>
          rw [hn] at h
          simp at h
          subst h
          obtain ⟨h1, h2⟩ := ldx_run (P := P) hτ hm (hf.frk t p hv) hl
          refine ⟨?_, h2, hn⟩
          have h3 := hf.frm t p hv
          have hpt : ∃ ad, p = .pointer (some ad) := by
            cases p <;> first | (simp [ldx] at hl; done) | skip
            rename_i q
            cases q with
            | none => simp [ldx] at hl
            | some ad => exact ⟨ad, rfl⟩
          obtain ⟨ad, rfl⟩ := hpt
          have hd : den ρ (.pointer (some ad)) = .pointer (dA ρ ad) := rfl
          rw [hd] at h1 h3
          cases hA : dA ρ ad with
          | none => rw [hA] at h1; simp [Instr.loadAt, Instr.sureAddr] at h1
          | some c =>
            rw [hA] at h1 h3
            simp only [Instr.loadAt, Instr.sureAddr, Sem.run_bind, Sem.run_pure, Result.andThen_ok] at h1
            simp [rv, Array.getD_eq_getD_getElem?, h3, asAddr, h1]
theorem results_rv (fn : Func) (tmps : Array Value) : results fn tmps = (do
    let vs ← fn.results.mapM (rv tmps)
    pure (if h : vs.size = 1 then vs[0] else .tuple vs)) := by
  unfold results
  congr 1
theorem results1 {fn : Func} {r : ResultVar} (h : fn.results = #[r]) {tmps : Array Value} {v : Value} (h1 : (rv tmps r).run P w = .ok v w) : (results fn tmps).run P w = .ok v w := by
  simp [results_rv, h, h1]
theorem results2 {fn : Func} {r s : ResultVar} (h : fn.results = #[r, s]) {tmps : Array Value} {v u : Value} (h1 : (rv tmps r).run P w = .ok v w) (h2 : (rv tmps s).run P w = .ok u w) : (results fn tmps).run P w = .ok (.tuple #[v, u]) w := by
  simp [results_rv, h, h1, h2]
theorem results3 {fn : Func} {r s t : ResultVar} (h : fn.results = #[r, s, t]) {tmps : Array Value} {v u x : Value} (h1 : (rv tmps r).run P w = .ok v w) (h2 : (rv tmps s).run P w = .ok u w) (h3 : (rv tmps t).run P w = .ok x w) : (results fn tmps).run P w = .ok (.tuple #[v, u, x]) w := by
  simp [results_rv, h, h1, h2, h3]
theorem resx_run (hτ : TTok P τ) (hf : FrOk ρ fr nx a) (hm : ∀ i b, lk mem i = some b → BlkOk C ρ nx i w b) {fn : Func} {v : Value} (h : resx τ fr mem fn.results.toList = some v) : (results fn a.tmps).run P w = .ok (den ρ v) w ∧ okV ρ nx v := by
  have e : ∀ l, fn.results.toList = l → fn.results = l.toArray := fun l hl => by rw [← hl]
  match hl : fn.results.toList, h with
  | [], h =>
    simp only [resx, Option.some.injEq] at h
    subst h
    exact ⟨by simp [results, e _ hl, den], okV_undef⟩
  | [r], h =>
    obtain ⟨h1, h2, -⟩ := res1_run (P := P) hτ hf hm h
    exact ⟨results1 (e _ hl) h1, h2⟩
  | [r, s], h =>
    simp only [resx] at h
    cases hr : res1 τ fr mem r with
    | none => rw [hr] at h; simp at h
    | some x =>
      cases hs : res1 τ fr mem s with
      | none => rw [hr, hs] at h; simp at h
      | some y =>
        rw [hr, hs] at h
        simp at h
        subst h
        obtain ⟨h1, h2, h3⟩ := res1_run (P := P) hτ hf hm hr
        obtain ⟨k1, k2, k3⟩ := res1_run (P := P) hτ hf hm hs
        refine ⟨?_, ?_⟩
        · have := results2 (P := P) (e _ hl) h1 k1
          rw [this]
          rw [show den ρ (.tuple #[x, y]) = .tuple #[den2 ρ x, den2 ρ y] by simp [den], (notTup_den (ρ := ρ) (nx := nx) h3).1, (notTup_den (ρ := ρ) (nx := nx) k3).1]
        · rw [(notTup_den h3).2] at h2
          rw [(notTup_den k3).2] at k2
          intro z hz
          simp at hz
          rcases hz with rfl | rfl
          · exact h2
          · exact k2
  | [r, s, t], h =>
    simp only [resx] at h
    cases hr : res1 τ fr mem r with
    | none => rw [hr] at h; simp at h
    | some x =>
      cases hs : res1 τ fr mem s with
      | none => rw [hr, hs] at h; simp at h
      | some y =>
        cases ht : res1 τ fr mem t with
        | none => rw [hr, hs, ht] at h; simp at h
        | some z0 =>
          rw [hr, hs, ht] at h
          simp at h
          subst h
          obtain ⟨h1, h2, h3⟩ := res1_run (P := P) hτ hf hm hr
          obtain ⟨k1, k2, k3⟩ := res1_run (P := P) hτ hf hm hs
          obtain ⟨m1, m2, m3⟩ := res1_run (P := P) hτ hf hm ht
          refine ⟨?_, ?_⟩
          · have := results3 (P := P) (e _ hl) h1 k1 m1
            rw [this]
            rw [show den ρ (.tuple #[x, y, z0]) = .tuple #[den2 ρ x, den2 ρ y, den2 ρ z0] by simp [den], (notTup_den (ρ := ρ) (nx := nx) h3).1, (notTup_den (ρ := ρ) (nx := nx) k3).1, (notTup_den (ρ := ρ) (nx := nx) m3).1]
          · rw [(notTup_den h3).2] at h2
            rw [(notTup_den k3).2] at k2
            rw [(notTup_den m3).2] at m2
            intro z hz
            simp at hz
            rcases hz with rfl | rfl | rfl
            · exact h2
            · exact k2
            · exact m2
  | _ :: _ :: _ :: _ :: _, h => simp [resx] at h
theorem argF_lk : ∀ {vs : List Value} {i t : Nat} {v : Value}, lk (argF i vs) t = some v → ∃ j, t = i + j ∧ vs[j]? = some v
  | [], i, t, v, h => by simp [argF, lk] at h
  | u :: r, i, t, v, h => by
    rcases lk_cons h with ⟨rfl, rfl⟩ | ⟨_, h⟩
    · exact ⟨0, by omega, rfl⟩
    · obtain ⟨j, rfl, hj⟩ := argF_lk h
      exact ⟨j + 1, by omega, by simpa using hj⟩
/-- Memory, apart from any frame. -/
structure MemAt (C : Ctx) (ρ : Nat → Pl) (mem : AM) (nx : Nat) (w : World) : Prop where
  mlt : ∀ i b, lk mem i = some b → i < nx ∧ (ρ i).res = false
  blk : ∀ i b, lk mem i = some b → BlkOk C ρ nx i w b
  sep : ∀ i j b b', i ≠ j → lk mem i = some b → lk mem j = some b' → Apart ρ i j b b'
  n0 : C.n0 ≤ nx
  low : ∀ i, i < C.n0 → ρ i = C.ρ0 i
  rest : Rest C w
/-- How a call leaves. -/
def endx (τ : TT) (rs : List ResultVar) (R : Value → AM → Nat → Prop) (e : Ex) (fr : AF) (mem : AM) (nx : Nat) : Prop :=
  match e with
  | .exit _ => False
  | _ => (match resx τ fr mem rs with | some v => R v mem nx | none => False)
theorem calls_sx (hτ : TTok P τ) (hF : FTok P F) (hmix : P.follows .mixedOrders = true) {f : FuncId} {fn : Func} {c : Code} (hf : P.funcs[f]? = some fn) (hb : fn.body = some c) (hcode : codeB fn.ntmps D c = true) {vs : List Value} (hn0 : Nat.ble vs.length fn.ntmps = true)
    (hC : C.ff = [] ∧ C.fm = []) (hnt : C.nt = fn.ntmps) (hm : MemAt C ρ mem nx w) (hv : ∀ v ∈ vs, okV ρ nx v) {R : Value → AM → Nat → Prop} (h : sx τ F D c (argF 0 vs) mem nx (endx τ fn.results.toList R)) :
    Calls P f (vs.map (den ρ)).toArray w fun e w' => ∃ v mem' nx' ρ', e = .returned (den ρ' v) ∧ R v mem' nx' ∧ okV ρ' nx' v ∧ MemAt C ρ' mem' nx' w' := by
  have hn : vs.length ≤ fn.ntmps := Nat.le_of_ble_eq_true hn0
  refine calls_of_wp hf hb ?_
  have hs : Sat C ρ (argF 0 vs) mem nx { tmps := (vs.map (den ρ)).toArray ++ Array.replicate (fn.ntmps - (vs.map (den ρ)).toArray.size) undef, defers := [] } w := by
    refine ⟨⟨fun t v hv' => ?_, fun t v hv' => ?_⟩, ?_, rfl, fun i b hi => ?_, fun i b hi => ?_, fun i j b b' hne hi hj => ?_, hm.n0, hm.low, hm.rest⟩
    · rw [hC.1, List.append_nil] at hv'
      obtain ⟨j, rfl, hj⟩ := argF_lk hv'
      have hjl : j < vs.length := (List.getElem?_eq_some_iff.1 hj).1
      simp only [Nat.zero_add]
      rw [Array.getElem?_append_left (by simpa using hjl)]
      simp [hj]
    · rw [hC.1, List.append_nil] at hv'
      obtain ⟨j, rfl, hj⟩ := argF_lk hv'
      exact hv v (List.mem_of_getElem? hj)
    · simp [hnt]; omega
    · rw [hC.2, List.append_nil] at hi; exact hm.mlt i b hi
    · rw [hC.2, List.append_nil] at hi; exact hm.blk i b hi
    · rw [hC.2, List.append_nil] at hi hj; exact hm.sep i j b b' hne hi hj
  have hend : ∀ e fr' mem' nx' ρ' a' w', endx τ fn.results.toList R e fr' mem' nx' → Sat C ρ' fr' mem' nx' a' w' → bodyPost P fn (fun e w' => ∃ v mem' nx' ρ', e = .returned (den ρ' v) ∧ R v mem' nx' ∧ okV ρ' nx' v ∧ MemAt C ρ' mem' nx' w') e.to a' w' := by
    intro e fr' mem' nx' ρ' a' w' he hs'
    have hok : ∀ (he : (match resx τ fr' mem' fn.results.toList with | some v => R v mem' nx' | none => False)), a'.defers = [] ∧ ∃ v, (results fn a'.tmps).run P w' = .ok v w' ∧ ∃ v2 mem' nx' ρ', Ending.returned v = .returned (den ρ' v2) ∧ R v2 mem' nx' ∧ okV ρ' nx' v2 ∧ MemAt C ρ' mem' nx' w' := by
      intro he
      cases hr : resx τ fr' mem' fn.results.toList with
      | none => rw [hr] at he; exact he.elim
      | some v =>
        rw [hr] at he
        obtain ⟨h1, h2⟩ := resx_run (P := P) hτ hs'.fok.left (fun i b hi => hs'.blk i b (lk_app hi)) hr
        exact ⟨hs'.dfr, _, h1, v, mem', nx', ρ', rfl, he, h2, ⟨fun i b hi => hs'.mlt i b (lk_app hi), fun i b hi => hs'.blk i b (lk_app hi), fun i j b b' hne hi hj => hs'.sep i j b b' hne (lk_app hi) (lk_app hj), hs'.n0, hs'.low, hs'.rest⟩⟩
    cases e with
    | exit i => exact he.elim
    | normal => exact hok he
    | ret => exact hok he
  exact sx_sound hτ hF hmix hC c (by rw [hnt]; exact hcode) _ _ _ _ ρ _ w _ h hs (fun c a w hq => by obtain ⟨-, v, _, _, _, hq, -⟩ := hq; cases hq) hend
end
end Go.Proofs.Ytjobcfpnmfjlfaa

namespace Go.Proofs.Ytjobcfpnmfjlfaa
open Go.RowKit

/-! The data of package api. -/
structure Ten where
  load : Int
  shadow : Int
  prio : Int
  lag : Int
  allowed : Int
  group : Int
  noisy : Bool
structure Cfg where
  regions : Int
  zones : List Int
  cells : List (Int × Int)
  tenants : List Ten
  versions : List (Int × Int)
  replicas : List Int
  observers : List Int
  blast : Int
  lease : Int
  bake : Int
structure Win where
  cell : Int
  epoch : Int
  version : Int
  since : Int
  till : Int
structure TS where
  placed : Bool
  shed : Bool
  home : Int
  standby : Int
  next : Int
  target : Int
  epoch : Int
  win : Win
structure CS where
  mode : Int
  running : Int
  wanted : Int
  since : Int
structure St where
  tick : Int
  count : Int
  tenants : List TS
  cells : List CS
  proven : Int
  evac : Int
  low : Int
  high : Int
structure Ent where
  kind : Int
  tick : Int
  tenant : Int
  cell : Int
  other : Int
  epoch : Int
  since : Int
  till : Int
  n : Int

def intC (z : Int) : List Value := [.int .i64 z]
def pairC (p : Int × Int) : List Value := [.int .i64 p.1, .int .i64 p.2]
def tenC (t : Ten) : List Value := [.int .i64 t.load, .int .i64 t.shadow, .int .i64 t.prio, .int .i64 t.lag, .int .i64 t.allowed, .int .i64 t.group, .bool t.noisy]
def tsC (t : TS) : List Value := [.bool t.placed, .bool t.shed, .int .i64 t.home, .int .i64 t.standby, .int .i64 t.next, .int .i64 t.target, .int .i64 t.epoch,
  .int .i64 t.win.cell, .int .i64 t.win.epoch, .int .i64 t.win.version, .int .i64 t.win.since, .int .i64 t.win.till]
def csC (x : CS) : List Value := [.int .i64 x.mode, .int .i64 x.running, .int .i64 x.wanted, .int .i64 x.since]
def entC (e : Ent) : List Value := [.int .i64 e.kind, .int .i64 e.tick, .int .i64 e.tenant, .int .i64 e.cell, .int .i64 e.other, .int .i64 e.epoch, .int .i64 e.since, .int .i64 e.till, .int .i64 e.n]

/-- The cells of a list of structs, one after the other. -/
def flat {α : Type} (enc : α → List Value) (l : List α) : List Value := l.flatMap enc

theorem flat_length {α : Type} {enc : α → List Value} {sz : Nat} (hs : ∀ x, (enc x).length = sz) (l : List α) : (flat enc l).length = l.length * sz := by
  induction l with
  | nil => simp [flat]
  | cons a l ih => simp only [flat, List.flatMap_cons, List.length_append, List.length_cons, hs] at ih ⊢; rw [ih, Nat.add_mul]; omega

theorem flat_get {α : Type} {enc : α → List Value} {sz : Nat} (hs : ∀ x, (enc x).length = sz) : ∀ (l : List α) (k : Nat) (x : α), l[k]? = some x → ∀ (j : Nat) (v : Value), (enc x)[j]? = some v → (flat enc l)[k * sz + j]? = some v
  | [], k, x, h, j, v, hv => by simp at h
  | a :: l, 0, x, h, j, v, hv => by
    simp at h
    subst h
    have : j < (enc a).length := (List.getElem?_eq_some_iff.1 hv).1
    simp only [flat, List.flatMap_cons, Nat.zero_mul, Nat.zero_add]
    rw [List.getElem?_append_left this]
    exact hv
  | a :: l, k + 1, x, h, j, v, hv => by
    have ih := flat_get hs l k x (by simpa using h) j v hv
    simp only [flat, List.flatMap_cons]
    rw [List.getElem?_append_right (by rw [hs, Nat.add_mul]; omega), hs]
    have e : (k + 1) * sz + j - sz = k * sz + j := by rw [Nat.add_mul]; omega
    rw [e]
    exact ih

/-- Element k of a row: where its cells lie. -/
theorem Rd.row {α : Type} {enc : α → List Value} {sz : Nat} (hs : ∀ x, (enc x).length = sz) (hpos : 0 < sz) {w : World} {S : Nat → Prop} {A : Option Addr} {l : List α} (h : Rd w S A (flat enc l)) {k : Nat} (hk : k < l.length) :
    ∃ b off x, A = some ⟨b, off, none⟩ ∧ S b ∧ l[k]? = some x ∧ ∀ (j : Nat) (v : Value), (enc x)[j]? = some v → w.cell? ⟨b, off + k * sz + j, none⟩ = some v := by
  have hlen := flat_length hs l
  obtain ⟨b, off, hA, hS, hc⟩ := h.at_ (k := k * sz) (by
    rw [hlen]
    exact Nat.mul_lt_mul_of_pos_right hk hpos)
  refine ⟨b, off, l[k], hA, hS, List.getElem?_eq_getElem hk, fun j v hv => ?_⟩
  rw [Nat.add_assoc]
  exact hc _ _ (flat_get hs l k _ (List.getElem?_eq_getElem hk) j v hv)

/-- Where the slices of a configuration lie, and their capacities. -/
structure CfgA where
  az : Option Addr
  cz : Nat
  ac : Option Addr
  cc : Nat
  at_ : Option Addr
  ct : Nat
  av : Option Addr
  cv : Nat
  ar : Option Addr
  cr : Nat
  ao : Option Addr
  co : Nat
def cfgC (x : CfgA) (c : Cfg) : Array Value := #[.int .i64 c.regions, .slice x.az c.zones.length x.cz, .slice x.ac c.cells.length x.cc, .slice x.at_ c.tenants.length x.ct, .slice x.av c.versions.length x.cv,
  .slice x.ar c.replicas.length x.cr, .slice x.ao c.observers.length x.co, .int .i64 c.blast, .int .i64 c.lease, .int .i64 c.bake]

structure CfgOk (w : World) (S : Nat → Prop) (x : CfgA) (c : Cfg) : Prop where
  zones : Rd w S x.az (flat intC c.zones)
  cells : Rd w S x.ac (flat pairC c.cells)
  tenants : Rd w S x.at_ (flat tenC c.tenants)
  versions : Rd w S x.av (flat pairC c.versions)
  replicas : Rd w S x.ar (flat intC c.replicas)
  observers : Rd w S x.ao (flat intC c.observers)

theorem CfgOk.keep {w w' : World} {S : Nat → Prop} {x : CfgA} {c : Cfg} (h : CfgOk w S x c) (hk : ∀ k, S k → w'.heap[k]? = w.heap[k]?) : CfgOk w' S x c :=
  ⟨h.zones.keep hk, h.cells.keep hk, h.tenants.keep hk, h.versions.keep hk, h.replicas.keep hk, h.observers.keep hk⟩
theorem CfgOk.more {w : World} {S S' : Nat → Prop} {x : CfgA} {c : Cfg} (h : CfgOk w S x c) (hS : ∀ b, S b → S' b) : CfgOk w S' x c :=
  ⟨h.zones.more hS, h.cells.more hS, h.tenants.more hS, h.versions.more hS, h.replicas.more hS, h.observers.more hS⟩
theorem CfgOk.below {w w' : World} {B : Nat} {x : CfgA} {c : Cfg} (h : CfgOk w (· < B) x c) (hb : Below B w w') : CfgOk w' (· < B) x c := h.keep fun k hk => hb.block k hk

structure StA where
  at_ : Option Addr
  ct : Nat
  ac : Option Addr
  cc : Nat
def stC (x : StA) (s : St) : Array Value := #[.int .i64 s.tick, .int .i64 s.count, .slice x.at_ s.tenants.length x.ct, .slice x.ac s.cells.length x.cc, .int .i64 s.proven, .int .i64 s.evac, .int .i64 s.low, .int .i64 s.high]
structure StOk (w : World) (S : Nat → Prop) (x : StA) (s : St) : Prop where
  tenants : Rd w S x.at_ (flat tsC s.tenants)
  cells : Rd w S x.ac (flat csC s.cells)
theorem StOk.keep {w w' : World} {S : Nat → Prop} {x : StA} {s : St} (h : StOk w S x s) (hk : ∀ k, S k → w'.heap[k]? = w.heap[k]?) : StOk w' S x s := ⟨h.tenants.keep hk, h.cells.keep hk⟩
theorem StOk.more {w : World} {S S' : Nat → Prop} {x : StA} {s : St} (h : StOk w S x s) (hS : ∀ b, S b → S' b) : StOk w S' x s := ⟨h.tenants.more hS, h.cells.more hS⟩
theorem StOk.below {w w' : World} {B : Nat} {x : StA} {s : St} (h : StOk w (· < B) x s) (hb : Below B w w') : StOk w' (· < B) x s := h.keep fun k hk => hb.block k hk
end Go.Proofs.Ytjobcfpnmfjlfaa

/-! Plain functions on the data: what the program and the references compute. No program in sight. -/
namespace Go.Proofs.Ytjobcfpnmfjlfaa

instance : Inhabited Ten := ⟨⟨0, 0, 0, 0, 0, 0, false⟩⟩
instance : Inhabited Win := ⟨⟨0, 0, 0, 0, 0⟩⟩
instance : Inhabited TS := ⟨⟨false, false, 0, 0, 0, 0, 0, default⟩⟩
instance : Inhabited CS := ⟨⟨0, 0, 0, 0⟩⟩
instance : Inhabited Ent := ⟨⟨0, 0, 0, 0, 0, 0, 0, 0, 0⟩⟩

def inR (n lo hi : Int) : Bool := decide (lo ≤ n) && decide (n ≤ hi)

def limitsB (c : Cfg) : Bool :=
  inR c.regions 1 4 && inR c.zones.length 1 8 && inR c.cells.length 1 16 && inR c.versions.length 1 30 && inR c.replicas.length 1 5 && inR c.observers.length 1 9 && decide (c.tenants.length ≤ 32)
/-- Lengths that a machine can have. -/
def Lens (c : Cfg) : Prop := c.zones.length ≤ maxLen ∧ c.cells.length ≤ maxLen ∧ c.tenants.length ≤ maxLen ∧ c.versions.length ≤ maxLen ∧ c.replicas.length ≤ maxLen ∧ c.observers.length ≤ maxLen
def placesB (c : Cfg) : Bool :=
  c.zones.all (fun z => inR z 0 (c.regions - 1)) && c.cells.all (fun y => inR y.1 0 (c.zones.length - 1)) && c.replicas.all (fun z => inR z 0 (c.zones.length - 1)) && c.observers.all (fun z => inR z 0 (c.zones.length - 1))
/-- A version's range, at its index. -/
def verOk (i : Nat) (v : Int × Int) : Bool := decide (0 ≤ v.1) && decide (v.1 ≤ v.2) && decide (v.2 ≤ 30) && (decide (i ≠ 0) || decide (v.1 = 0))
def versOk (l : List (Int × Int)) : Bool := (List.range l.length).all fun i => match l[i]? with | some v => verOk i v | none => true
def valuesB (c : Cfg) : Bool :=
  c.cells.all (fun y => inR y.2 1 4194304) && versOk c.versions && (inR c.blast 1 16 && inR c.lease 1 1000 && inR c.bake 0 10000)
/-- What topo.Valid answers. -/
def topoErr (c : Cfg) : Int :=
  if limitsB c = false then 2 else if c.replicas.length % 2 = 0 ∨ placesB c = false ∨ valuesB c = false then 1 else 0
/-- 1 << r, for a number of regions. -/
def shl1 (r : Int) : Int := if r = 1 then 2 else if r = 2 then 4 else if r = 3 then 8 else 16
def tenOk (r : Int) (t : Ten) : Bool :=
  inR t.load 1 65536 && inR t.shadow 0 t.load && inR t.prio 0 9 && inR t.lag (-1) 1000 && inR t.allowed 1 (shl1 r - 1) && inR t.group 0 32
/-- What tenant.Valid answers. -/
def cfgErr (c : Cfg) : Int := if topoErr c ≠ 0 then topoErr c else if c.tenants.all (tenOk c.regions) then 0 else 1

/-! Cells, regions, sets. -/
def zoneOf (c : Cfg) (k : Int) : Int := if 0 ≤ k ∧ k < c.cells.length then (c.cells.getD k.toNat (0, 0)).1 else -1
def regZone (c : Cfg) (z : Int) : Int := if 0 ≤ z ∧ z < c.zones.length then c.zones.getD z.toNat 0 else -1
def regionOf (c : Cfg) (k : Int) : Int := regZone c (zoneOf c k)
def bitB (set i : Int) : Bool := set.toNat.testBit i.toNat
def hasB (set i : Int) : Bool := decide (0 ≤ i) && decide (i < 62) && bitB set i
def tenAt (c : Cfg) (i : Int) : Ten := c.tenants.getD i.toNat default
def mayB (c : Cfg) (t k : Int) : Bool := decide (0 ≤ t) && decide (t < c.tenants.length) && hasB (tenAt c t).allowed (regionOf c k)
def apartB (c : Cfg) (a b : Int) : Bool := decide (0 ≤ regionOf c a) && decide (0 ≤ regionOf c b) && decide (regionOf c a ≠ regionOf c b)

/-! Entries. -/
def fT (nt k : Int) : Int × Int := if k ≤ 8 then (0, nt - 1) else (-1, -1)
def fC (nc k : Int) : Int × Int := if k = 1 ∨ k = 2 ∨ k = 5 ∨ k = 6 ∨ k = 9 ∨ k = 10 ∨ k = 11 then (0, nc - 1) else if k = 4 then (-1, nc - 1) else (-1, -1)
def fO (nc nr k : Int) : Int × Int := if k = 1 then (-1, nc - 1) else if k = 13 then (0, nr - 1) else (-1, -1)
def fE (k : Int) : Int × Int := if k = 2 ∨ k = 3 then (1, 1048576) else (0, 0)
def fW (k : Int) : Int × Int := if k = 2 then (0, 1073741824) else (0, 0)
def fN (nv k : Int) : Int × Int := if k = 2 ∨ k = 10 ∨ k = 11 ∨ k = 12 then (0, nv - 1) else if k = 8 ∨ k = 13 then (0, 1) else if k = 9 then (1, 3) else if k = 16 then (0, 1073741824) else (0, 0)
def inS (n : Int) (s : Int × Int) : Bool := inR n s.1 s.2
def entOk (nt nc nr nv : Int) (e : Ent) : Bool :=
  inR e.kind 1 16 && inR e.tick 0 1073741824 && inS e.tenant (fT nt e.kind) && inS e.cell (fC nc e.kind) && inS e.other (fO nc nr e.kind) && inS e.epoch (fE e.kind) && inS e.since (fW e.kind) && inS e.till (fW e.kind) && inS e.n (fN nv e.kind) && (decide (e.kind ≠ 1) || decide (e.other ≠ e.cell))
def entV (c : Cfg) (e : Ent) : Bool := entOk c.tenants.length c.cells.length c.regions c.versions.length e

/-! States. -/
def St.zero : St := ⟨0, 0, [], [], 0, 0, 0, 0⟩
def tsNew : TS := ⟨false, false, -1, -1, -1, -1, 0, ⟨-1, 0, 0, 0, 0⟩⟩
def csNew : CS := ⟨1, 0, 0, 0⟩
def stNew (c : Cfg) : St := ⟨0, 0, List.replicate c.tenants.length tsNew, List.replicate c.cells.length csNew, 1, 0, 0, 0⟩
def tsAt (s : St) (i : Int) : TS := s.tenants.getD i.toNat default
def csAt (s : St) (i : Int) : CS := s.cells.getD i.toNat default
def verAt (c : Cfg) (i : Int) : Int × Int := c.versions.getD i.toNat (0, 0)
def openB (p : Int) (x : CS) : Bool := !hasB p x.running || !hasB p x.wanted
def frozenB (c : Cfg) (s : St) (k : Int) : Bool := hasB s.evac (regionOf c k)
def nearB (c : Cfg) (a b : Int) : Bool := decide (b ≠ -1) && !apartB c a b
/-- The cells that are unproven. -/
def unproven (s : St) : List Int := ((List.range s.cells.length).filter fun i => openB s.proven (s.cells.getD i default)).map Int.ofNat

/-- The errors of entries that are valid, but that of the capacity. -/
def placeE (c : Cfg) (s : St) (e : Ent) : Int :=
  if (tsAt s e.tenant).placed then 4
  else if (csAt s e.cell).mode ≠ 1 ∨ (e.other ≠ -1 ∧ (csAt s e.other).mode ≠ 1) then 6
  else if frozenB c s e.cell ∨ (e.other ≠ -1 ∧ frozenB c s e.other) then 12
  else if mayB c e.tenant e.cell = false ∨ (e.other ≠ -1 ∧ mayB c e.tenant e.other = false) ∨ nearB c e.cell e.other then 11 else 0
def grantE (c : Cfg) (s : St) (e : Ent) : Int :=
  let t := tsAt s e.tenant
  let x := csAt s e.cell
  if t.placed = false ∨ (t.shed ∧ e.cell ≠ t.standby) then 4
  else if e.cell ≠ t.home ∧ e.cell ≠ t.standby ∧ e.cell ≠ t.target then 5
  else if x.mode = 3 ∨ (x.mode = 2 ∧ e.cell ≠ t.home) then 6
  else if e.epoch ≠ t.epoch + 1 ∧ ¬ (e.cell = t.home ∧ e.epoch = t.epoch) then 7
  else if e.n ≠ x.running ∨ x.running ≠ x.wanted then 8
  else if e.since < e.tick ∨ e.tick + c.lease < e.since ∨ e.till ≤ e.since ∨ c.lease < e.till - e.since ∨ e.since < t.win.till ∨ (e.cell ≠ t.home ∧ e.tick < t.win.till) then 9 else 0
def cutE (s : St) (e : Ent) : Int :=
  let t := tsAt s e.tenant
  if t.placed = false then 4 else if e.epoch ≠ t.epoch then 7 else 0
def standbyE (c : Cfg) (s : St) (e : Ent) : Int :=
  let t := tsAt s e.tenant
  if t.placed = false then 4 else if e.cell = -1 then 0
  else if e.cell = t.home ∨ e.cell = t.standby ∨ e.cell = t.target then 5
  else if (csAt s e.cell).mode ≠ 1 then 6
  else if frozenB c s e.cell then 12
  else if mayB c e.tenant e.cell = false ∨ nearB c e.cell t.home ∨ nearB c e.cell t.target then 11 else 0
def readyE (s : St) (e : Ent) : Int :=
  let t := tsAt s e.tenant
  if t.placed = false then 4 else if e.cell ≠ t.next then 5 else if (csAt s e.cell).mode = 3 then 6 else 0
def migrateE (c : Cfg) (s : St) (e : Ent) : Int :=
  let t := tsAt s e.tenant
  if t.placed = false ∨ t.shed ∨ t.target ≠ -1 then 4
  else if e.cell = t.home ∨ e.cell = t.standby ∨ e.cell = t.next then 5
  else if (csAt s e.cell).mode ≠ 1 then 6
  else if frozenB c s e.cell then 12
  else if mayB c e.tenant e.cell = false ∨ nearB c e.cell t.standby ∨ nearB c e.cell t.next then 11 else 0
def abandonE (s : St) (e : Ent) : Int :=
  let t := tsAt s e.tenant
  if t.placed = false ∨ t.target = -1 then 4 else 0
def shedE (s : St) (e : Ent) : Int :=
  let t := tsAt s e.tenant
  if e.n = 0 then (if t.shed = false then 4 else if (csAt s t.home).mode = 3 then 6 else 0)
  else if t.placed = false ∨ t.shed then 4 else if e.tick < t.win.till then 9 else 0
def modeE (s : St) (e : Ent) : Int := if (csAt s e.cell).mode = e.n then 4 else 0
/-- The number of unproven cells but one. -/
def others (s : St) (k : Int) : Nat := ((List.range s.cells.length).filter fun (i : Nat) => decide ((i : Int) ≠ k) && openB s.proven (s.cells.getD i default)).length
def wantE (c : Cfg) (s : St) (e : Ent) : Int :=
  let x := csAt s e.cell
  if x.wanted = e.n then 4
  else if s.low < (verAt c e.n).1 ∨ (verAt c e.n).2 < s.high then 13
  else if x.running = e.n ∨ hasB s.proven e.n then 0
  else if s.evac ≠ 0 then 12
  else if c.blast ≤ others s e.cell then 14 else 0
def runsE (s : St) (e : Ent) : Int :=
  let x := csAt s e.cell
  if x.wanted ≠ e.n ∨ x.running = x.wanted then 4
  else if hasB s.proven e.n = false ∧ s.evac ≠ 0 then 12
  else if s.tenants.any (fun t => decide (t.win.cell = e.cell) && decide (e.tick < t.win.till)) then 9 else 0
def bakedB (c : Cfg) (e : Ent) (x : CS) : Bool := decide (x.mode ≠ 3) && decide (x.running = e.n) && decide (x.wanted = e.n) && decide (c.bake ≤ e.tick - x.since)
def proveE (c : Cfg) (s : St) (e : Ent) : Int := if hasB s.proven e.n then 4 else if s.cells.any (bakedB c e) then 0 else 15
def evacE (s : St) (e : Ent) : Int := if hasB s.evac e.other = decide (e.n = 1) then 4 else 0
def blockB (c : Cfg) (s : St) (x : CS) : Bool := decide ((verAt c x.running).2 ≤ s.high) || decide ((verAt c x.wanted).2 ≤ s.high)
def expandE (c : Cfg) (s : St) : Int := if s.low < s.high then 4 else if 30 ≤ s.high then 2 else if s.cells.any (blockB c s) then 13 else 0
def contractE (s : St) : Int := if s.high = s.low then 4 else 0
def kindE (c : Cfg) (s : St) (e : Ent) : Int :=
  if e.kind = 1 then placeE c s e else if e.kind = 2 then grantE c s e else if e.kind = 3 then cutE s e else if e.kind = 4 then standbyE c s e
  else if e.kind = 5 then readyE s e else if e.kind = 6 then migrateE c s e else if e.kind = 7 then abandonE s e else if e.kind = 8 then shedE s e
  else if e.kind = 9 then modeE s e else if e.kind = 10 then wantE c s e else if e.kind = 11 then runsE s e else if e.kind = 12 then proveE c s e
  else if e.kind = 13 then evacE s e else if e.kind = 14 then expandE c s else if e.kind = 15 then contractE s else 0
def refusedE (c : Cfg) (s : St) (e : Ent) : Int :=
  if entV c e = false then 1 else if 4096 ≤ s.count then 2 else if e.tick < s.tick then 3 else kindE c s e

/-- What entries do. -/
def cutW (x : Win) (tick : Int) : Win := { x with till := min x.till (tick + 1), since := min x.since (min x.till (tick + 1)) }
def grantT (t : TS) (e : Ent) : TS :=
  let t1 : TS := { t with win := ⟨e.cell, e.epoch, e.n, e.since, e.till⟩, epoch := e.epoch }
  if e.cell = t.home then t1
  else if e.cell = t.standby then { t1 with home := e.cell, standby := -1, next := -1, target := -1, shed := false }
  else { t1 with home := e.cell, target := -1 }
def tenEff (t : TS) (e : Ent) : TS :=
  if e.kind = 1 then { t with placed := true, home := e.cell, standby := e.other }
  else if e.kind = 2 then grantT t e
  else if e.kind = 3 then { t with win := cutW t.win e.tick }
  else if e.kind = 4 then { t with next := e.cell }
  else if e.kind = 5 then { t with standby := e.cell, next := -1 }
  else if e.kind = 6 then { t with target := e.cell }
  else if e.kind = 7 then { t with target := -1 }
  else if e.kind = 8 then (if e.n = 1 then { t with shed := true, target := -1 } else { t with shed := false })
  else t
def celEff (x : CS) (e : Ent) : CS :=
  if e.kind = 9 then { x with mode := e.n, since := e.tick }
  else if e.kind = 10 then { x with wanted := e.n }
  else if e.kind = 11 then { x with running := e.n, since := e.tick }
  else x
def setTen (s : St) (i : Int) (t : TS) : St := { s with tenants := s.tenants.set i.toNat t }
def setCel (s : St) (i : Int) (x : CS) : St := { s with cells := s.cells.set i.toNat x }
def orBit (set i : Int) : Int := (set.toNat ||| (1 <<< i.toNat) : Nat)
def flipBit (set i : Int) : Int := (set.toNat ^^^ (1 <<< i.toNat) : Nat)
def stamped (s : St) (e : Ent) : St := { s with tick := e.tick, count := s.count + 1 }
def effOf (s0 : St) (e : Ent) : St :=
  let s := stamped s0 e
  if e.kind ≤ 8 then setTen s e.tenant (tenEff (tsAt s0 e.tenant) e)
  else if e.kind ≤ 11 then setCel s e.cell (celEff (csAt s0 e.cell) e)
  else if e.kind = 12 then { s with proven := orBit s.proven e.n }
  else if e.kind = 13 then { s with evac := flipBit s.evac e.other }
  else if e.kind = 14 then { s with high := s.high + 1 }
  else if e.kind = 15 then { s with low := s.high }
  else s

/-! The load. -/
def addAt (l : List Int) (i n : Int) : List Int := if 0 ≤ i ∧ i < l.length then l.set i.toNat (l.getD i.toNat 0 + n) else l
def bookT (l : List Int) (t : TS) (d : Ten) : List Int :=
  if t.placed = false then l
  else addAt (addAt (if t.shed then l else addAt (addAt l t.home d.load) t.target d.load) t.standby d.shadow) t.next d.shadow
def booked (c : Cfg) (s : St) : List Int := (s.tenants.zip c.tenants).foldl (fun l p => bookT l p.1 p.2) (List.replicate c.cells.length 0)
def overB (c : Cfg) (s : St) : Bool := (List.range c.cells.length).any fun i => decide ((c.cells.getD i (0, 0)).2 < (booked c s).getD i 0)
def over (c : Cfg) (s : St) : List Int := ((List.range c.cells.length).filter fun i => decide ((c.cells.getD i (0, 0)).2 < (booked c s).getD i 0)).map Int.ofNat
def booksB (e : Ent) : Bool := decide (e.kind = 1) || decide (e.kind = 2) || decide (e.kind = 6) || (decide (e.kind = 4) && decide (e.cell ≠ -1)) || (decide (e.kind = 8) && decide (e.n = 0))
/-- What the program's Apply answers. -/
def applyP (c : Cfg) (s : St) (e : Ent) : St × Int :=
  if refusedE c s e ≠ 0 then (St.zero, refusedE c s e)
  else if booksB e ∧ overB c (effOf s e) then (St.zero, 10) else (effOf s e, 0)
def fitsB (e : Ent) : Bool := decide (e.kind = 1) || decide (e.kind = 2) || decide (e.kind = 6) || decide (e.kind = 4) || (decide (e.kind = 8) && decide (e.n ≠ 1))
/-- What the reference's Apply answers. -/
def applyR (c : Cfg) (s : St) (e : Ent) : St × Int :=
  if refusedE c s e ≠ 0 then (St.zero, refusedE c s e)
  else if fitsB e ∧ overB c (effOf s e) then (St.zero, 10) else (effOf s e, 0)
def foldP (c : Cfg) (ap : Cfg → St → Ent → St × Int) : St → Nat → List Ent → St × Nat × Int
  | s, n, [] => (s, n, 0)
  | s, n, e :: l => if (ap c s e).2 ≠ 0 then (s, n, (ap c s e).2) else foldP c ap (ap c s e).1 (n + 1) l
end Go.Proofs.Ytjobcfpnmfjlfaa

namespace Go.Proofs.Ytjobcfpnmfjlfaa
open Go.RowKit
set_option linter.unusedSimpArgs false
set_option linter.unusedVariables false

theorem getD_some {α : Type} {l : List α} {n : Nat} {z d : α} (h : l[n]? = some z) : l.getD n d = z := by rw [List.getD_eq_getElem?_getD, h]; rfl

theorem bcell {W w1 : World} {B : Nat} (hb : Below B W w1) : (∀ b o, b < B → w1.cell? ⟨b, o, none⟩ = W.cell? ⟨b, o, none⟩) ∧ (∀ b o, b < B → w1.frozen? ⟨b, o, none⟩ = W.frozen? ⟨b, o, none⟩) :=
  ⟨fun b o h => hb.cell (p := ⟨b, o, none⟩) h, fun b o h => hb.frozen (p := ⟨b, o, none⟩) h⟩

section
variable {w w' : World} {x : CfgA} {c : Cfg} {y : StA} {s : St}
theorem CfgOk.allocW (h : CfgOk w (· < w.heap.size) x c) (o : Obj) : CfgOk (w.alloc o) (· < (w.alloc o).heap.size) x c :=
  (h.keep fun k hk => Below.heap_alloc _ _ _ hk).more fun b hb => by simp; omega
theorem CfgOk.belowW (h : CfgOk w (· < w.heap.size) x c) (hb : Below w.heap.size w w') : CfgOk w' (· < w'.heap.size) x c :=
  (h.keep fun k hk => hb.block k hk).more fun b hk => Nat.lt_of_lt_of_le hk hb.size
theorem StOk.allocW (h : StOk w (· < w.heap.size) y s) (o : Obj) : StOk (w.alloc o) (· < (w.alloc o).heap.size) y s :=
  (h.keep fun k hk => Below.heap_alloc _ _ _ hk).more fun b hb => by simp; omega
theorem StOk.belowW (h : StOk w (· < w.heap.size) y s) (hb : Below w.heap.size w w') : StOk w' (· < w'.heap.size) y s :=
  (h.keep fun k hk => hb.block k hk).more fun b hk => Nat.lt_of_lt_of_le hk hb.size
end

/-- What is known of a valid configuration. -/
structure CfgV (c : Cfg) : Prop where
  reg : 1 ≤ c.regions ∧ c.regions ≤ 4
  nz : 1 ≤ c.zones.length ∧ c.zones.length ≤ 8
  nc : 1 ≤ c.cells.length ∧ c.cells.length ≤ 16
  nt : c.tenants.length ≤ 32
  nv : 1 ≤ c.versions.length ∧ c.versions.length ≤ 30
  zone : ∀ y ∈ c.cells, 0 ≤ y.1 ∧ y.1 < c.zones.length
  capy : ∀ y ∈ c.cells, 1 ≤ y.2 ∧ y.2 ≤ 4194304
  region : ∀ z ∈ c.zones, 0 ≤ z ∧ z < c.regions
  ten : ∀ t ∈ c.tenants, tenOk c.regions t = true
  ver : ∀ k v, c.versions[k]? = some v → verOk k v = true
  blast : 1 ≤ c.blast ∧ c.blast ≤ 16
  lease : 1 ≤ c.lease ∧ c.lease ≤ 1000
  bake : 0 ≤ c.bake ∧ c.bake ≤ 10000

theorem cfgV_of {c : Cfg} (h : cfgErr c = 0) : CfgV c := by
  have h1 : topoErr c = 0 := by
    unfold cfgErr at h
    split at h
    · exact h
    · rename_i hh; exact Classical.not_not.1 hh
  have h2 : c.tenants.all (tenOk c.regions) = true := by
    unfold cfgErr at h
    rw [if_neg (by simp [h1])] at h
    split at h
    · assumption
    · omega
  have h3 : limitsB c = true := by
    unfold topoErr at h1
    split at h1
    · omega
    · rename_i hh; simpa using hh
  have h4 : placesB c = true ∧ valuesB c = true := by
    unfold topoErr at h1
    rw [if_neg (by simp [h3])] at h1
    split at h1
    · omega
    · rename_i hh
      refine ⟨?_, ?_⟩
      · cases hp : placesB c with
        | true => rfl
        | false => exact absurd (.inr (.inl hp)) hh
      · cases hp : valuesB c with
        | true => rfl
        | false => exact absurd (.inr (.inr hp)) hh
  obtain ⟨h5, h6⟩ := h4
  simp only [placesB, Bool.and_eq_true, List.all_eq_true] at h5
  simp only [valuesB, Bool.and_eq_true, List.all_eq_true, versOk] at h6
  simp [limitsB, inR] at h3
  refine ⟨by omega, by omega, by omega, by omega, by omega, fun y hy => ?_, fun y hy => ?_, fun z hz => ?_, fun t ht => List.all_eq_true.1 h2 t ht, fun k v hv => ?_, ?_, ?_, ?_⟩
  · have := h5.1.1.2 y hy; simp [inR] at this; omega
  · have := h6.1.1 y hy; simp [inR] at this; omega
  · have := h5.1.1.1 z hz; simp [inR] at this; omega
  · have := h6.1.2 k (List.mem_range.2 (List.getElem?_eq_some_iff.1 hv).1)
    rwa [hv] at this
  · have := h6.2.1.1; simp [inR] at this; omega
  · have := h6.2.1.2; simp [inR] at this; omega
  · have := h6.2.2; simp [inR] at this; omega

theorem bit_div (set i : Int) (h0 : 0 ≤ set) (hi : 0 ≤ i) : ((set / 2 ^ i.toNat).tmod 2 != 0) = bitB set i := by
  obtain ⟨n, rfl⟩ := Int.eq_ofNat_of_zero_le h0
  unfold bitB
  rw [Nat.testBit_eq_decide_div_mod_eq]
  have e : ((n : Int) / 2 ^ i.toNat) = ((n / 2 ^ i.toNat : Nat) : Int) := by
    rw [Int.natCast_ediv]
    simp
  have e2 : (((n / 2 ^ i.toNat : Nat) : Int)).tmod 2 = ((n / 2 ^ i.toNat % 2 : Nat) : Int) := (Int.ofNat_tmod (n / 2 ^ i.toNat) 2).symm
  rw [e, e2, Int.toNat_natCast]
  have : (n / 2 ^ i.toNat) % 2 = 0 ∨ (n / 2 ^ i.toNat) % 2 = 1 := by omega
  rcases this with h | h
  · simp [h]
  · simp [h]
end Go.Proofs.Ytjobcfpnmfjlfaa

namespace Go.Proofs.Ytjobcfpnmfjlfaa
open Go.RowKit
set_option linter.unusedSimpArgs false
set_option linter.unusedVariables false

theorem mod_of_tmod (v n : Int) : (v.tmod n + n) % n = v % n := by
  have h := Int.mul_tdiv_add_tmod v n
  have h2 : (v.tmod n + n) % n = (v.tmod n) % n := by simp
  rw [h2]
  conv => rhs; rw [← h]
  rw [Int.mul_add_emod_self_left]

set_option maxHeartbeats 400000 in
theorem mkMod_any (v n : Int) (w : World) (hn : 1 ≤ n) (hn2 : n ≤ 2147483648) :
    Calls Try.prog 27 #[.int .i64 v, .int .i64 n] w fun e w' => e = .returned (.int .i64 (v % n)) ∧ w = w' := by
  have hne : (n == 0) = false := by simp; omega
  have h1 : v.tmod n < n := Int.tmod_lt_of_pos _ (by omega)
  have h2 : -n < v.tmod n := Int.lt_tmod_of_pos _ (by omega)
  have H := Lib.hid (mod_of_tmod v n)
  go_enter Try.func27, Try.ntmps27
  go_wp2
  go_ret
  exact ⟨ret_i64 H.out, rfl⟩

set_option maxHeartbeats 400000 in
theorem mkBetween_any (v lo hi : Int) (w : World) (hn : lo ≤ hi) (h1 : -1000000 ≤ lo) (h2 : hi ≤ 1000000) :
    Calls Try.prog 19 #[.int .i64 v, .int .i64 lo, .int .i64 hi] w fun e w' => (∃ r, lo ≤ r ∧ r ≤ hi ∧ r = lo + v % (hi - lo + 1) ∧ e = .returned (.int .i64 r)) ∧ w = w' := by
  have H1 := Lib.hid (Int.emod_nonneg v (b := hi - lo + 1) (by omega))
  have H2 := Lib.hid (Int.emod_lt_of_pos v (b := hi - lo + 1) (by omega))
  have h3 := H1.out
  have h4 := H2.out
  go_enter Try.func19, Try.ntmps19
  go_wp2_with (go_at_call 27; refine (mkMod_any _ _ _ (by omega) (by omega)).mono ?_; rintro e w' ⟨rfl, rfl⟩)
  go_ret
  exact ⟨⟨_, by omega, by omega, rfl, rfl⟩, rfl⟩

/-- What the tape gives at its place k, and the place behind it. -/
def nextV (zs : List Int) (k : Nat) (n : Int) : Int := if zs = [] then 0 else ((zs.getD (k % zs.length) 0) % 1073741824 + (k / zs.length : Nat) * 7) % n
def nextK (zs : List Int) (k : Nat) : Nat := if zs = [] then k else k + 1

/-- Block g is a tape over the numbers zs, at its place k. -/
structure TapeAt (w : World) (g : Nat) (A : Option Addr) (cap : Nat) (zs : List Int) (k : Nat) : Prop where
  short : zs.length ≤ 400
  row : Rd w (· < g) A (zs.map (Value.int .i64))
  blk : Blk w g 73 #[.slice A zs.length cap, .int .i64 k]

section
variable {w w' : World} {g : Nat} {A : Option Addr} {cap : Nat} {zs : List Int} {k : Nat}
theorem TapeAt.drewN (h : TapeAt w g A cap zs k) (n : Nat) : TapeAt (w.drewN n) g A cap zs k := ⟨h.short, h.row, h.blk⟩
theorem TapeAt.lt (h : TapeAt w g A cap zs k) : g < w.heap.size := h.blk.lt
theorem TapeAt.keep (h : TapeAt w g A cap zs k) (hb : ∀ k, k < g + 1 → w'.heap[k]? = w.heap[k]?) : TapeAt w' g A cap zs k :=
  ⟨h.short, h.row.keep fun k hk => hb k (Nat.lt_succ_of_lt hk), (hb g (by omega)).trans h.blk⟩
theorem TapeAt.grown (h : TapeAt w g A cap zs k) {row : Option Nat} (hg : w.grownBy w' row) (hr : ∀ k, row = some k → g < k) : TapeAt w' g A cap zs k :=
  h.keep fun k hk => hg.block k (by have := h.lt; omega) (fun e => by have := hr k e.symm; omega)
theorem TapeAt.below (h : TapeAt w g A cap zs k) {B : Nat} (hb : Below B w w') (hB : g < B) : TapeAt w' g A cap zs k := h.keep fun k hk => hb.block k (by omega)
theorem TapeAt.alloc (h : TapeAt w g A cap zs k) (o : Obj) : TapeAt (w.alloc o) g A cap zs k := h.keep fun k hk => Below.heap_alloc _ _ _ (by have := h.lt; omega)
end

/-- What a call of Next leaves: the number, the place. -/
structure NextIs (n : Int) (zs : List Int) (k : Nat) (r : Int) (k' : Nat) : Prop where
  lo : 0 ≤ r
  hi : r < n
  le : k ≤ k'
  most : k' ≤ k + 1
  more : 0 < zs.length → k < k'
  val : Hid (r = nextV zs k n ∧ k' = nextK zs k)
def NextPost (n : Int) (g : Nat) (A : Option Addr) (cap : Nat) (zs : List Int) (k : Nat) (w : World) (e : Ending) (w' : World) : Prop :=
  ∃ (r : Int) (k' : Nat), NextIs n zs k r k' ∧ e = .returned (.int .i64 r) ∧ TapeAt w' g A cap zs k' ∧ w.grownBy w' (some g)

set_option maxHeartbeats 1000000 in
theorem mkNext_any (g : Nat) (A : Option Addr) (cap : Nat) (zs : List Int) (k : Nat) (n : Int) (w : World) (hn : 1 ≤ n) (hn2 : n ≤ 1000000) (hk : k ≤ 1000000) (ht : TapeAt w g A cap zs k) :
    Calls Try.prog 20 #[.pointer (some ⟨g, 0, none⟩), .int .i64 n] w (NextPost n g A cap zs k w) := by
  obtain ⟨hs, hr, hb⟩ := ht
  have c0 := hb.cell' (i := 0) (v := .slice A zs.length cap) rfl
  have c1 := hb.cell' (i := 1) (v := .int .i64 k) rfl
  have hf := hb.frozen 1
  have HB := Lib.hid hb
  have HR := Lib.hid hr
  clear hb hr
  by_cases h0 : zs.length = 0
  · have hz : zs = [] := List.eq_nil_of_length_eq_zero h0
    have hd : ((zs.length : Int) == 0) = true := by simp [h0]
    have hpost : NextPost n g A cap zs k w (.returned (.int .i64 0)) w :=
      ⟨0, k, ⟨Int.le_refl _, by omega, Nat.le_refl _, Nat.le_succ _, fun h => absurd h (by simp [hz]), Lib.hid ⟨by simp [nextV, hz], by simp [nextK, hz]⟩⟩, rfl, ⟨hs, HR.out, HB.out⟩, grown_refl _ _⟩
    have HP := Lib.hid hpost
    clear hpost h0 hz
    go_enter Try.func20, Try.ntmps20
    go_wp2
    go_ret
    exact HP.out
  · have hpos : 0 < zs.length := by omega
    have hd : ((zs.length : Int) == 0) = false := beq_eq_false_iff_ne.2 (by omega)
    have hne : zs ≠ [] := by intro h; simp [h] at hpos
    obtain ⟨m, hm⟩ : ∃ m, m = k % zs.length := ⟨_, rfl⟩
    obtain ⟨q, hq⟩ : ∃ q, q = k / zs.length := ⟨_, rfl⟩
    have hml : m < zs.length := by rw [hm]; exact Nat.mod_lt _ hpos
    have hqk : q ≤ k := by rw [hq]; exact Nat.div_le_self _ _
    obtain ⟨b, off, rfl, hbg, hcell⟩ := HR.out.at_ (k := m) (by simpa using hml)
    have hcz := hcell m (.int .i64 (zs[m])) (by simp [hml])
    have hv : nextV zs k n = ((zs[m] % 1073741824 + (q : Int) * 7) % n) := by
      unfold nextV
      rw [if_neg hne, ← hm, ← hq, List.getD_eq_getElem?_getD, List.getElem?_eq_getElem hml]
      rfl
    have e1 : (k : Int).tmod (zs.length : Int) = (m : Int) := by rw [hm]; exact (Int.ofNat_tmod _ _).symm
    have e2 : (k : Int).tdiv (zs.length : Int) = (q : Int) := by rw [hq]; exact (Int.ofNat_tdiv _ _).symm
    have i1 : (0 : Int) ≤ (m : Int) := by omega
    have i2 : (m : Int) < (zs.length : Int) := by omega
    have cz2 : ((w.setCell ⟨g, 1, none⟩ (.int .i64 (k + 1))).cell? ⟨b, off + m, none⟩) = some (.int .i64 (zs[m])) := by
      rw [World.cell?_setCell_other _ _ _ _ (by intro e; injection e; have : b < g := hbg; omega)]; exact hcz
    generalize zs[m] = z at *
    have HV := Lib.hid hv
    have z1 : 0 ≤ z % 1073741824 := Int.emod_nonneg _ (by omega)
    have z2 : z % 1073741824 < 1073741824 := Int.emod_lt_of_pos _ (by omega)
    clear hcell h0 hm hq hv
    go_enter Try.func20, Try.ntmps20
    go_wp2
    go_quiet (fail)
    go_wp2
    go_quiet (fail)
    go_wp2_with (go_at_call 27; refine (mkMod_any _ _ _ (by omega) (by omega)).mono ?_; rintro e w' ⟨rfl, rfl⟩)
    go_ret
    have H := HB.out
    refine ⟨(z % 1073741824 + (q : Int) * 7) % n, k + 1, ⟨Int.emod_nonneg _ (by omega), Int.emod_lt_of_pos _ (by omega), Nat.le_succ _, Nat.le_refl _, fun _ => Nat.lt_succ_self _, Lib.hid ⟨HV.out.symm, by simp [nextK, hne]⟩⟩, rfl, ⟨hs, ?_, ?_⟩, ?_⟩
    · exact HR.out.keep fun i hi => (Below.heap_setCell w _ _ i (by show i ≠ g; have : i < g := hi; omega))
    · exact (H.set_ 1 (.int .i64 (((k + 1 : Nat)) : Int)))
    · exact grown_set (grown_drewN (grown_refl _ _) _) _ _

def RangePost (lo hi : Int) (g : Nat) (A : Option Addr) (cap : Nat) (zs : List Int) (k : Nat) (w : World) (e : Ending) (w' : World) : Prop :=
  ∃ (r : Int) (k' : Nat), NextIs (hi - lo + 1) zs k r k' ∧ lo + r ≤ hi ∧ e = .returned (.int .i64 (lo + r)) ∧ TapeAt w' g A cap zs k' ∧ w.grownBy w' (some g)

set_option maxHeartbeats 400000 in
theorem mkRange_any (g : Nat) (A : Option Addr) (cap : Nat) (zs : List Int) (k : Nat) (lo hi : Int) (w : World) (hn : lo ≤ hi) (hn2 : hi ≤ 100000) (hn3 : -100000 ≤ lo) (hk : k ≤ 1000000) (ht : TapeAt w g A cap zs k) :
    Calls Try.prog 21 #[.pointer (some ⟨g, 0, none⟩), .int .i64 lo, .int .i64 hi] w (RangePost lo hi g A cap zs k w) := by
  go_enter Try.func21, Try.ntmps21
  go_wp2_with fail
  refine (mkNext_any g A cap zs k _ _ (by omega) (by omega) hk ht).mono ?_
  rintro e w' ⟨r, k', hr, rfl, h2, h3⟩
  have h0 := hr.lo
  have h1 := hr.hi
  go_wp2
  go_ret
  exact ⟨r, k', hr, by omega, rfl, h2, h3⟩

def YesPost (n : Int) (g : Nat) (A : Option Addr) (cap : Nat) (zs : List Int) (k : Nat) (w : World) (e : Ending) (w' : World) : Prop :=
  ∃ (r : Int) (k' : Nat), NextIs n zs k r k' ∧ e = .returned (.bool (r == 0)) ∧ TapeAt w' g A cap zs k' ∧ w.grownBy w' (some g)
set_option maxHeartbeats 400000 in
theorem mkYes_any (g : Nat) (A : Option Addr) (cap : Nat) (zs : List Int) (k : Nat) (n : Int) (w : World) (hn : 1 ≤ n) (hn2 : n ≤ 1000000) (hk : k ≤ 1000000) (ht : TapeAt w g A cap zs k) :
    Calls Try.prog 22 #[.pointer (some ⟨g, 0, none⟩), .int .i64 n] w (YesPost n g A cap zs k w) := by
  go_enter Try.func22, Try.ntmps22
  go_wp2_with fail
  refine (mkNext_any g A cap zs k _ _ hn hn2 hk ht).mono ?_
  rintro e w' ⟨r, k', hr, rfl, h2, h3⟩
  go_wp2
  go_ret
  exact ⟨r, k', hr, rfl, h2, h3⟩

set_option maxHeartbeats 400000 in
theorem mkMore_any (g : Nat) (A : Option Addr) (cap : Nat) (zs : List Int) (k : Nat) (w : World) (ht : TapeAt w g A cap zs k) :
    Calls Try.prog 23 #[.pointer (some ⟨g, 0, none⟩)] w fun e w' => e = .returned (.bool (decide (k < zs.length))) ∧ ∃ n, w' = w.drewN n := by
  obtain ⟨hs, hr, hb⟩ := ht
  have c0 := hb.cell' (i := 0) (v := .slice A zs.length cap) rfl
  have c1 := hb.cell' (i := 1) (v := .int .i64 k) rfl
  clear hb hr
  go_enter Try.func23, Try.ntmps23
  go_wp2
  go_quiet (fail)
  go_wp2
  go_ret
  exact ⟨ret_bool (by simp), _, rfl⟩

set_option maxHeartbeats 400000 in
theorem mkTape_any (A : Option Addr) (cap : Nat) (zs : List Int) (w : World) (hs : zs.length ≤ 400) (hr : Rd w (· < w.heap.size) A (zs.map (Value.int .i64))) :
    Calls Try.prog 18 #[.slice A zs.length cap] w fun e w' => e = .returned (.pointer (some ⟨w.heap.size, 0, none⟩)) ∧ TapeAt w' w.heap.size A cap zs 0 ∧ Below w.heap.size w w' := by
  have HR := Lib.hid hr
  clear hr
  go_enter Try.func18, Try.ntmps18
  go_wp2
  go_ret
  exact ⟨rfl, ⟨hs, HR.out.alloc _, Blk.new _ _ _⟩, (Below.refl _ _).alloc (Nat.le_refl _) _⟩
end Go.Proofs.Ytjobcfpnmfjlfaa

namespace Go.Proofs.Ytjobcfpnmfjlfaa
open Go.RowKit
set_option linter.unusedSimpArgs false
set_option linter.unusedVariables false

/-! The types of the program. -/
abbrev zi : Value := .int .i64 0
abbrev zb : Value := .bool false
abbrev zs0 : Value := .slice none 0 0
def tiInt : TI := { size := 1, agg := false, zero := [zi] }
def tiBool : TI := { size := 1, agg := false, zero := [zb], isB := true }
def tiSl (n : Nat) (elt : Nat := 0) (eb : Nat := 0) : TI := { size := 1, agg := false, zero := [zs0], esz := n, sl := true, elt := elt, eb := eb }
def tiRec (zero : List Value) (offs fszs fagg : List Nat) (eqk : List CK := []) : TI := { size := zero.length, agg := true, zero := zero, offs := offs, fszs := fszs, fagg := fagg, eqk := eqk }
abbrev ki : CK := .i .i64
def tt : TT := [
  (3, tiInt), (4, tiBool), (41, tiInt),
  (22, tiSl 1 3 8), (25, tiSl 1 58 8), (26, tiSl 2 60 16), (27, tiSl 7 63 56), (28, tiSl 2 65 16), (33, tiSl 12 50 88), (34, tiSl 4 67 32), (46, tiSl 9 45 72),
  (30, tiRec [zi, zs0, zs0, zs0, zs0, zs0, zs0, zi, zi, zi] [0, 1, 2, 3, 4, 5, 6, 7, 8, 9] [1, 1, 1, 1, 1, 1, 1, 1, 1, 1] [1, 1, 1, 1, 1, 1, 1, 1, 1, 1]),
  (36, tiRec [zi, zi, zs0, zs0, zi, zi, zi, zi] [0, 1, 2, 3, 4, 5, 6, 7] [1, 1, 1, 1, 1, 1, 1, 1] [1, 1, 1, 1, 1, 1, 1, 1]),
  (45, tiRec [zi, zi, zi, zi, zi, zi, zi, zi, zi] [0, 1, 2, 3, 4, 5, 6, 7, 8] [1, 1, 1, 1, 1, 1, 1, 1, 1] [1, 1, 1, 1, 1, 1, 1, 1, 1]),
  (48, tiRec [zi, zi, zi, zi, zi] [0, 1, 2, 3, 4] [1, 1, 1, 1, 1] [1, 1, 1, 1, 1] [ki, ki, ki, ki, ki]),
  (50, tiRec [zb, zb, zi, zi, zi, zi, zi, zi, zi, zi, zi, zi] [0, 1, 2, 3, 4, 5, 6, 7] [1, 1, 1, 1, 1, 1, 1, 5] [1, 1, 1, 1, 1, 1, 1, 2] [.b, .b, ki, ki, ki, ki, ki, ki, ki, ki, ki, ki]),
  (67, tiRec [zi, zi, zi, zi] [0, 1, 2, 3] [1, 1, 1, 1] [1, 1, 1, 1] [ki, ki, ki, ki]),
  (58, tiRec [zi] [0] [1] [1]), (60, tiRec [zi, zi] [0, 1] [1, 1] [1, 1]), (65, tiRec [zi, zi] [0, 1] [1, 1] [1, 1]),
  (63, tiRec [zi, zi, zi, zi, zi, zi, zb] [0, 1, 2, 3, 4, 5, 6] [1, 1, 1, 1, 1, 1, 1] [1, 1, 1, 1, 1, 1, 1]),
  (73, tiRec [zs0, zi] [0, 1] [1, 1] [1, 1])]
theorem tt_mem (P : Program) (τ : TT) (h : ∀ p ∈ τ, TIok P p.1 p.2) : TTok P τ := fun t ti hl => h (t, ti) (lk_mem hl)
theorem tt_cons {P : Program} {t : TypeId} {ti : TI} {r : TT} (h : TIok P t ti) (hr : ∀ p ∈ r, TIok P p.1 p.2) : ∀ p ∈ (t, ti) :: r, TIok P p.1 p.2 := fun p hp => by
  rcases List.mem_cons.1 hp with rfl | hp
  · exact h
  · exact hr p hp
theorem tt_nil {P : Program} : ∀ p ∈ ([] : TT), TIok P p.1 p.2 := fun p hp => absurd hp (List.not_mem_nil)
theorem plains {l : List Value} (h : l.all (fun v => match v with | .pointer (some _) => false | .slice (some _) _ _ => false | _ => true) = true) : ∀ v ∈ l, plain1 v := fun v hv => by
  have := List.all_eq_true.1 h v hv
  cases v with
  | pointer p => cases p <;> simp_all [plain1]
  | slice p n c => cases p <;> simp_all [plain1]
  | _ => trivial
theorem ttOk : TTok Try.prog tt := by
  refine tt_mem _ _ ?_
  unfold tt
  repeat (refine tt_cons ⟨by kernel_rfl, by kernel_rfl, plains (by rfl), by kernel_rfl, by kernel_rfl⟩ ?_)
  exact tt_nil
theorem mixed : (Try.prog).follows .mixedOrders = true := by kernel_rfl
end Go.Proofs.Ytjobcfpnmfjlfaa

namespace Go.Proofs.Ytjobcfpnmfjlfaa
open Go.RowKit
set_option linter.unusedSimpArgs false
set_option linter.unusedVariables false

section
variable {P : Program} {C : Ctx} {ρ ρ' : Nat → Pl} {fr : AF} {mem mem' : AM} {nx nx' : Nat} {a : Act} {w w' : World}
/-- The context of a callee: it may write the boxes bn. -/
def Ctx.of (w : World) (ρ : Nat → Pl) (nx : Nat) (bn : List Nat) (nt : Nat) : Ctx := { w0 := w, bor := bn.filterMap (bno ρ), n0 := nx, ρ0 := ρ, nt := nt }
/-- What a callee is handed. -/
theorem Sat.hand (h : Sat C ρ fr mem nx a w) {sub : AM} (hsub : keeps mem sub) {bn : List Nat} (hbn : ∀ i t cs, lk sub i = some (.box t cs) → i ∈ bn) (hno : ∀ i t sz n el, lk sub i = some (.row t sz n el) → frT t = false) (nt : Nat) : MemAt (Ctx.of w ρ nx bn nt) ρ sub nx w := by
  have hl := fun i b hi => lk_app (r := C.fm) (keeps_lk hsub i b hi)
  refine ⟨fun i b hi => h.mlt i b (hl i b hi), fun i b hi => ?_, fun i j b b' hne hi hj => h.sep i j b b' hne (hl i b hi) (hl j b' hj), Nat.le_refl _, fun i _ => rfl, ⟨rfl, rfl, rfl, Nat.le_refl _, fun _ _ _ => rfl⟩⟩
  have hb := h.blk i b (hl i b hi)
  cases b with
  | box t cs =>
    obtain ⟨g, e1, e2, e3, e4⟩ := hb
    exact ⟨g, e1, e2, .inr (List.mem_filterMap.2 ⟨i, hbn i t cs hi, by simp [bno, e1]⟩), e4⟩
  | row t sz n el =>
    obtain ⟨e1, e2, e3⟩ := hb
    refine ⟨e1, e2, e3.imp id ?_⟩
    rintro ⟨b, off, hA, hat, hc⟩
    exact ⟨b, off, hA, ⟨hat.lt, fun ho => (by have := frT_own ho; rw [hno i t sz n el hi] at this; cases this), fun ho => (by rw [hno i t sz n el hi] at ho; cases ho)⟩, hc⟩
theorem rest_below {bn : List Nat} {nt : Nat} (hb : bn = []) (h : Rest (Ctx.of w ρ nx bn nt) w') : Below w.heap.size w w' := by
  subst hb
  exact ⟨h.os, h.tape, h.output, h.size, fun b hlt => h.block b hlt (by simp [Ctx.of])⟩
/-- Behind the call. -/
theorem Sat.after (h : Sat C ρ fr mem nx a w) {bn : List Nat} {nt : Nat} (hm : MemAt (Ctx.of w ρ nx bn nt) ρ' mem' nx' w') (hbn : ∀ i ∈ bn, ∃ t cs, lk mem i = some (.box t cs)) {keep : AM}
    (hk : ∀ i b, lk keep i = some b → lk mem' i = some b ∧ (i ∈ bn ∨ nx ≤ i)) (hall : ∀ i ∈ bn, ∃ t cs, lk keep i = some (.box t cs))
    (hfresh : ∀ i t sz n el, nx ≤ i → lk keep i = some (.row t sz n el) → n = 0 ∨ ∃ b off, (ρ' i).A = some ⟨b, off, none⟩ ∧ w.heap.size ≤ b) : Sat C ρ' fr (keep ++ mem) nx' a w' := by
  have hlow : ∀ i, i < nx → ρ' i = ρ i := fun i hi => hm.low i hi
  have hnx : nx ≤ nx' := hm.n0
  have hsz : w.heap.size ≤ w'.heap.size := hm.rest.size
  -- blocks that are not handed over
  have hstay : ∀ b, b < w.heap.size → (∀ i ∈ bn, bno ρ i ≠ some b) → w'.heap[b]? = w.heap[b]? := fun b hlt hn => hm.rest.block b hlt (by
    intro hmem
    obtain ⟨i, hi, he⟩ := List.mem_filterMap.1 hmem
    exact hn i hi he)
  have hbnlk : ∀ i ∈ bn, ∃ t cs, lk (mem ++ C.fm) i = some (.box t cs) := fun i hi => by obtain ⟨t, cs, e⟩ := hbn i hi; exact ⟨t, cs, lk_app e⟩
  -- an old block
  have hold : ∀ i b, lk keep i = none → lk (mem ++ C.fm) i = some b → BlkOk C ρ' nx' i w' b := by
    intro i b hkn hi
    have hlt := (h.mlt i b hi).1
    have hnb : i ∉ bn := fun hib => by obtain ⟨t, cs, e⟩ := hall i hib; rw [hkn] at e; cases e
    have hb := (h.blk i b hi).ren (ρ' := ρ') (m := nx') (hlow i hlt) (fun j hj _ => hlow j hj) hnx
    cases b with
    | box t cs =>
      obtain ⟨g, e1, e2, e3, e4⟩ := hb
      refine ⟨g, e1, ?_, e3, e4⟩
      rw [hlow i hlt] at e1
      refine (hstay g e2.lt fun j hj he => ?_).trans e2
      obtain ⟨t2, cs2, hj2⟩ := hbnlk j hj
      have := h.sep i j _ _ (fun q => hnb (q ▸ hj)) hi hj2
      simp only [Apart] at this
      exact this (by rw [he]; simp [bno, e1])
    | row t sz n el =>
      obtain ⟨e1, e2, e3⟩ := hb
      refine ⟨e1, e2, ?_⟩
      rcases e3 with h0 | ⟨b, off, hA, hlt2, hc⟩
      · exact .inl h0
      · by_cases hn0 : n = 0
        · exact .inl hn0
        · have hst := hstay b hlt2.lt (fun j hj he => by
            obtain ⟨t2, cs2, hj2⟩ := hbnlk j hj
            have := h.sep j i _ _ (fun q => hnb (q ▸ hj)) hj2 hi
            simp only [Apart] at this
            rcases this with h0 | this
            · exact hn0 h0
            · exact this (by rw [he]; rw [hlow i hlt] at hA; simp [bno, hA]))
          refine .inr ⟨b, off, hA, hlt2.far hsz hst, fun k hk j v hv => ?_⟩
          rw [World.cell?_of_block hst]
          exact hc k hk j v hv
  -- a kept block
  have hkeep : ∀ i b, lk keep i = some b → BlkOk C ρ' nx' i w' b := by
    intro i b hi
    obtain ⟨hi', hor⟩ := hk i b hi
    have hb := hm.blk i b hi'
    cases b with
    | row t sz n el =>
      obtain ⟨e1, e2, e3⟩ := hb
      refine ⟨e1, e2, e3.imp id ?_⟩
      rintro ⟨b, off, hA, hat, hc⟩
      exact ⟨b, off, hA, ⟨hat.lt, fun ho => by obtain ⟨q1, q2, q3⟩ := hat.own ho; exact ⟨q1, Nat.le_trans h.rest.size q2, q3⟩, fun hf => Nat.le_trans h.rest.size (hat.new hf)⟩, hc⟩
    | box t cs =>
      obtain ⟨g, e1, e2, e3, e4⟩ := hb
      refine ⟨g, e1, e2, ?_, e4⟩
      by_cases hib : i ∈ bn
      · obtain ⟨t2, cs2, hi2⟩ := hbnlk i hib
        obtain ⟨g2, f1, -, f3, -⟩ := h.blk i _ hi2
        rw [hlow i (h.mlt i _ hi2).1, f1] at e1
        cases e1
        exact f3
      · rcases e3 with e3 | e3
        · exact .inl (Nat.le_trans h.rest.size e3)
        · obtain ⟨j, hj, he⟩ := List.mem_filterMap.1 e3
          obtain ⟨t3, cs3, hj3⟩ := hall j hj
          have := hm.sep i j _ _ (fun q => hib (q ▸ hj)) hi' (hk j _ hj3).1
          simp only [Apart] at this
          obtain ⟨t2, cs2, hj2⟩ := hbnlk j hj
          exact absurd (by rw [bno, bno, e1, hlow j (h.mlt j _ hj2).1]; rw [bno] at he; rw [he]; rfl) this
  have hlk : ∀ i b, lk (keep ++ mem ++ C.fm) i = some b → lk keep i = some b ∨ (lk keep i = none ∧ lk (mem ++ C.fm) i = some b) := by
    intro i b hi
    rw [List.append_assoc] at hi
    cases hki : lk keep i with
    | some c => rw [lk_app hki] at hi; exact .inl hi
    | none => rw [lk_none_app hki] at hi; exact .inr ⟨rfl, hi⟩
  -- a kept block and an old one
  have hmix : ∀ i j b b', lk keep i = some b → lk keep j = none → lk (mem ++ C.fm) j = some b' → Apart ρ' i j b b' ∧ Apart ρ' j i b' b := by
    intro i j b b' hi hjn hj
    obtain ⟨hi', hor⟩ := hk i b hi
    have hjlt := (h.mlt j b' hj).1
    have hjb : j ∉ bn := fun q => by obtain ⟨t, cs, e⟩ := hall j q; rw [hjn] at e; cases e
    have hij : i ≠ j := by rintro rfl; rw [hjn] at hi; cases hi
    have ej : bno ρ' j = bno ρ j := by unfold bno; rw [hlow j hjlt]
    by_cases hib : i ∈ bn
    · obtain ⟨t2, cs2, hi2⟩ := hbnlk i hib
      obtain ⟨t3, cs3, hi3⟩ := hall i hib
      rw [hi] at hi3
      cases hi3
      have ei : bno ρ' i = bno ρ i := by unfold bno; rw [hlow i (h.mlt i _ hi2).1]
      have a1 := h.sep i j _ _ hij hi2 hj
      have a2 := h.sep j i _ _ (Ne.symm hij) hj hi2
      cases b' <;> simp only [Apart] at a1 a2 ⊢ <;> rw [ei, ej] <;> first | exact ⟨a1, a2⟩ | exact ⟨a1, trivial⟩
    · have hnxi : nx ≤ i := hor.resolve_left hib
      -- the block of i is new
      have hnew : ∀ g, bno ρ' i = some g → (∀ t sz n el, b = .row t sz n el → n ≠ 0) → w.heap.size ≤ g := by
        intro g hg hrow
        cases b with
        | row t sz n el =>
          rcases hfresh i t sz n el hnxi hi with h0 | ⟨bb, off, hA, hle⟩
          · exact absurd h0 (hrow _ _ _ _ rfl)
          · simp [bno, hA] at hg; omega
        | box t cs =>
          obtain ⟨g', e1, e2, e3, e4⟩ := hm.blk i _ hi'
          have hgg : g' = g := by simp [bno, e1] at hg; exact hg
          subst hgg
          rcases e3 with e3 | e3
          · exact e3
          · obtain ⟨q, hq, he⟩ := List.mem_filterMap.1 e3
            obtain ⟨t3, cs3, hq3⟩ := hall q hq
            have := hm.sep i q _ _ (fun z => hib (z ▸ hq)) hi' (hk q _ hq3).1
            simp only [Apart] at this
            obtain ⟨t2, cs2, hq2⟩ := hbnlk q hq
            exact absurd (by rw [hg, ← he]; unfold bno; rw [hlow q (h.mlt q _ hq2).1]) this
      have holdlt : ∀ g, bno ρ j = some g → (∀ t sz n el, b' = .row t sz n el → n ≠ 0) → g < w.heap.size := by
        intro g hg hrow
        have hb' := h.blk j b' hj
        cases b' with
        | box t cs => obtain ⟨g', e1, e2, -⟩ := hb'; simp [bno, e1] at hg; subst hg; exact e2.lt
        | row t sz n el =>
          rcases hb'.2.2 with h0 | ⟨bb, off, hA, hlt, -⟩
          · exact absurd h0 (hrow _ _ _ _ rfl)
          · have := hlt.lt; simp [bno, hA] at hg; omega
      have hne : (∀ t sz n el, b = .row t sz n el → n ≠ 0) → (∀ t sz n el, b' = .row t sz n el → n ≠ 0) → ∀ x, bno ρ' i = some x → bno ρ' i ≠ bno ρ' j := by
        intro h1 h2 x hx he
        rw [hx, ej] at he
        have := hnew x hx h1
        have := holdlt x he.symm h2
        omega
      cases b with
      | box t cs =>
        obtain ⟨g, e1, -⟩ := hm.blk i _ hi'
        have hx : bno ρ' i = some g := by simp [bno, e1]
        cases b' with
        | box t2 cs2 =>
          have := hne (fun _ _ _ _ q => by cases q) (fun _ _ _ _ q => by cases q) g hx
          exact ⟨this, Ne.symm this⟩
        | row t2 sz n el =>
          refine ⟨?_, trivial⟩
          by_cases h0 : n = 0
          · exact .inl h0
          · exact .inr (hne (fun _ _ _ _ q => by cases q) (fun _ _ _ _ q => by cases q; exact h0) g hx)
      | row t sz n el =>
        cases b' with
        | row t2 sz2 n2 el2 =>
          simp only [Apart]
          by_cases h0 : n = 0
          · exact ⟨fun _ => .inl h0, fun _ => .inr (.inl h0)⟩
          · by_cases h02 : n2 = 0
            · exact ⟨fun _ => .inr (.inl h02), fun _ => .inl h02⟩
            · rcases hfresh i t sz n el hnxi hi with q | ⟨bb, off, hA, hle⟩
              · exact absurd q h0
              · have := hne (fun _ _ _ _ q => by cases q; exact h0) (fun _ _ _ _ q => by cases q; exact h02) bb (by simp [bno, hA])
                exact ⟨fun _ => .inr (.inr this), fun _ => .inr (.inr (Ne.symm this))⟩
        | box t2 cs2 =>
          refine ⟨trivial, ?_⟩
          by_cases h0 : n = 0
          · exact .inl h0
          · rcases hfresh i t sz n el hnxi hi with q | ⟨bb, off, hA, hle⟩
            · exact absurd q h0
            · exact .inr (Ne.symm (hne (fun _ _ _ _ q => by cases q; exact h0) (fun _ _ _ _ q => by cases q) bb (by simp [bno, hA])))
  refine ⟨⟨fun t v hv => ?_, fun t v hv => okV_mono (fun j hj _ => hlow j hj) hnx (h.fok.frk t v hv)⟩, h.sz, h.dfr, fun i b hi => ?_, fun i b hi => ?_, fun i j b b' hne hi hj => ?_, Nat.le_trans h.n0 hnx, fun i hi => (hlow i (Nat.lt_of_lt_of_le hi h.n0)).trans (h.low i hi), ?_⟩
  · rw [den_congr (fun j hj _ => hlow j hj) (h.fok.frk t v hv)]; exact h.fok.frm t v hv
  · rcases hlk i b hi with hi | ⟨hn, hi⟩
    · exact hm.mlt i b (hk i b hi).1
    · exact ⟨Nat.lt_of_lt_of_le (h.mlt i b hi).1 hnx, by rw [hlow i (h.mlt i b hi).1]; exact (h.mlt i b hi).2⟩
  · rcases hlk i b hi with hi | ⟨hn, hi⟩
    · exact hkeep i b hi
    · exact hold i b hn hi
  · rcases hlk i b hi with hi | ⟨hn, hi⟩
    · rcases hlk j b' hj with hj | ⟨hm2, hj⟩
      · exact hm.sep i j b b' hne (hk i b hi).1 (hk j b' hj).1
      · exact (hmix i j b b' hi hm2 hj).1
    · rcases hlk j b' hj with hj | ⟨hm2, hj⟩
      · exact (hmix j i b' b hj hn hi).2
      · exact (h.sep i j b b' hne hi hj).ren (hlow i (h.mlt i b hi).1) (hlow j (h.mlt j b' hj).1)
  · refine ⟨hm.rest.os.trans h.rest.os, hm.rest.tape.trans h.rest.tape, hm.rest.output.trans h.rest.output, Nat.le_trans h.rest.size hsz, fun b hlt hnb => ?_⟩
    refine (hstay b (Nat.lt_of_lt_of_le hlt h.rest.size) fun i hi he => ?_).trans (h.rest.block b hlt hnb)
    obtain ⟨t, cs, e⟩ := hbnlk i hi
    obtain ⟨g, e1, -, e3, -⟩ := h.blk i _ e
    simp [bno, e1] at he
    subst he
    rcases e3 with e3 | e3
    · omega
    · exact hnb e3
end
end Go.Proofs.Ytjobcfpnmfjlfaa

namespace Go.Proofs.Ytjobcfpnmfjlfaa
open Go.RowKit
set_option linter.unusedSimpArgs false
set_option linter.unusedVariables false

section
variable {P : Program} {C : Ctx} {ρ ρ' : Nat → Pl} {fr : AF} {mem mem' : AM} {nx nx' : Nat} {a : Act} {w w' : World}
theorem getD_get {α : Type} {l : List α} {k : Nat} {d : α} (h : k < l.length) : l[k]? = some (l.getD k d) := by rw [List.getD_eq_getElem?_getD, List.getElem?_eq_getElem h]; rfl
/-- A row in memory, as an abstract block. -/
theorem row_of_rd {α : Type} {enc : α → List Value} {sz : Nat} (hs : ∀ x, (enc x).length = sz) (hpos : 0 < sz) (hpl : ∀ x, ∀ v ∈ enc x, plain1 v) {l : List α} (d : α) {i : Nat} {t : TypeId} {A : Option Addr} {S : Nat → Prop}
    (hρ : ρ i = ⟨A, sz, l.length, false⟩) (h : Rd w S A (flat enc l)) (hS : ∀ b, S b → b < w.heap.size) (ht : ownT t = false := by first | rfl | assumption) (hfr : frT t = true → ∀ b, S b → C.w0.heap.size ≤ b := by intro h; exact absurd h (by decide)) : BlkOk C ρ nx i w (.row t sz l.length (fun k => enc (l.getD k d))) := by
  refine ⟨by rw [hρ]; exact ⟨rfl, rfl⟩, fun k _ => ⟨hs _, fun v hv => hpl _ v hv⟩, ?_⟩
  by_cases h0 : l.length = 0
  · exact .inl h0
  · obtain ⟨b, off, x, hA, hb, _, _⟩ := h.row hs hpos (k := 0) (by omega)
    refine .inr ⟨b, off, by rw [hρ]; exact hA, ⟨hS b hb, fun ho => (by rw [ht] at ho; cases ho), fun hf => hfr hf b hb⟩, fun k hk j v hv => ?_⟩
    obtain ⟨b2, off2, x2, hA2, _, hx2, hc2⟩ := h.row hs hpos hk
    rw [hA] at hA2
    cases hA2
    rw [getD_get hk (d := d)] at hx2
    cases hx2
    exact hc2 j v hv
theorem flat_at {α : Type} {enc : α → List Value} {sz : Nat} (hs : ∀ x, (enc x).length = sz) (hpos : 0 < sz) : ∀ (l : List α) (j : Nat) (v : Value), (flat enc l)[j]? = some v → ∃ x, l[j / sz]? = some x ∧ (enc x)[j % sz]? = some v
  | [], j, v, h => by simp [flat] at h
  | a :: l, j, v, h => by
    simp only [flat, List.flatMap_cons] at h
    by_cases hj : j < sz
    · rw [List.getElem?_append_left (by rw [hs]; exact hj)] at h
      exact ⟨a, by simp [Nat.div_eq_of_lt hj], by rw [Nat.mod_eq_of_lt hj]; exact h⟩
    · rw [List.getElem?_append_right (by rw [hs]; omega), hs] at h
      obtain ⟨x, h1, h2⟩ := flat_at hs hpos l (j - sz) v h
      have e1 : j / sz = (j - sz) / sz + 1 := by
        have : j = (j - sz) + sz := by omega
        conv => lhs; rw [this]
        rw [Nat.add_div_right _ hpos]
      have e2 : j % sz = (j - sz) % sz := by
        have : j = (j - sz) + sz := by omega
        conv => lhs; rw [this]
        rw [Nat.add_mod_right]
      exact ⟨x, by rw [e1]; simpa using h1, by rw [e2]; exact h2⟩
/-- An abstract row, in memory. -/
theorem rd_of_row {α : Type} {enc : α → List Value} {sz : Nat} (hs : ∀ x, (enc x).length = sz) (hpos : 0 < sz) {l : List α} {d : α} {i : Nat} {t : TypeId} (h : BlkOk C ρ nx i w (.row t sz l.length (fun k => enc (l.getD k d)))) {S : Nat → Prop} (hS : l.length ≠ 0 → ∀ b off, (ρ i).A = some ⟨b, off, none⟩ → b < w.heap.size → S b) :
    Rd w S (ρ i).A (flat enc l) := by
  obtain ⟨-, -, h3⟩ := h
  intro hne
  have hl : l.length ≠ 0 := by
    intro h0
    rw [List.eq_nil_of_length_eq_zero h0] at hne
    exact hne rfl
  rcases h3 with h0 | ⟨b, off, hA, hlt, hc⟩
  · exact absurd h0 hl
  · refine ⟨b, off, hA, hS hl b off hA hlt.lt, fun j v hv => ?_⟩
    obtain ⟨x, h1, h2⟩ := flat_at hs hpos l j v hv
    have hk : j / sz < l.length := (List.getElem?_eq_some_iff.1 h1).1
    have hx : l.getD (j / sz) d = x := by rw [List.getD_eq_getElem?_getD, h1]; rfl
    have := hc (j / sz) hk (j % sz) v (by show (enc (l.getD (j / sz) d))[j % sz]? = some v; rw [hx]; exact h2)
    rw [← this]
    congr 2
    have := Nat.div_add_mod j sz
    rw [Nat.mul_comm] at this
    omega
/-- Memory of rows alone. -/
def allRows : AM → Prop
  | [] => True
  | (_, .row t _ _ _) :: r => (match ownT t with | false => allRows r | true => False)
  | (_, .box _ _) :: _ => False
theorem allRows_lk : ∀ {mem : AM}, allRows mem → ∀ i t cs, lk mem i ≠ some (.box t cs)
  | [], _, i, t, cs, h => by simp [lk] at h
  | (k, .row t2 _ _ _) :: r, hr, i, t, cs, h => by
    rcases lk_cons h with ⟨_, q⟩ | ⟨_, q⟩
    · cases q
    · simp only [allRows] at hr
      cases ho : ownT t2 with
      | true => rw [ho] at hr; exact hr.elim
      | false => rw [ho] at hr; exact allRows_lk (mem := r) hr i t cs q
  | (k, .box _ _) :: r, hr, i, t, cs, h => hr.elim
theorem allRows_own : ∀ {mem : AM}, allRows mem → ∀ i t sz n el, lk mem i = some (.row t sz n el) → ownT t = false
  | [], _, i, t, sz, n, el, h => by simp [lk] at h
  | (k, .row t2 _ _ _) :: r, hr, i, t, sz, n, el, h => by
    simp only [allRows] at hr
    cases ho : ownT t2 with
    | true => rw [ho] at hr; exact hr.elim
    | false =>
      rw [ho] at hr
      rcases lk_cons h with ⟨_, q⟩ | ⟨_, q⟩
      · cases q; exact ho
      · exact allRows_own (mem := r) hr i t sz n el q
  | (k, .box _ _) :: r, hr, i, t, sz, n, el, h => hr.elim
def blksOk (C : Ctx) (ρ : Nat → Pl) (nx : Nat) (w : World) : AM → Prop
  | [] => True
  | (i, b) :: r => (i < nx ∧ (ρ i).res = false ∧ BlkOk C ρ nx i w b) ∧ blksOk C ρ nx w r
theorem blksOk_lk : ∀ {mem : AM}, blksOk C ρ nx w mem → ∀ i b, lk mem i = some b → i < nx ∧ (ρ i).res = false ∧ BlkOk C ρ nx i w b
  | [], _, i, b, h => by simp [lk] at h
  | (k, c) :: r, hr, i, b, h => by
    rcases lk_cons h with ⟨rfl, rfl⟩ | ⟨_, q⟩
    · exact hr.1
    · exact blksOk_lk hr.2 i b q
/-- The start of a call that is handed rows alone. -/
theorem MemAt.rows {nt : Nat} (hr : allRows mem) (hb : blksOk { w0 := w, bor := [], n0 := nx, ρ0 := ρ, nt := nt } ρ nx w mem) : MemAt { w0 := w, bor := [], n0 := nx, ρ0 := ρ, nt := nt } ρ mem nx w :=
  ⟨fun i b hi => ⟨(blksOk_lk hb i b hi).1, (blksOk_lk hb i b hi).2.1⟩, fun i b hi => (blksOk_lk hb i b hi).2.2, fun i j b b' hne hi hj => by
    cases b with
    | row t sz n el => cases b' with
      | box t2 cs2 => trivial
      | row t2 sz2 n2 el2 => intro ho; rw [allRows_own hr i t sz n el hi] at ho; cases ho
    | box t cs => exact absurd hi (allRows_lk hr i t cs), Nat.le_refl _, fun _ _ => rfl, ⟨rfl, rfl, rfl, Nat.le_refl _, fun _ _ _ => rfl⟩⟩
/-- The same, with one box. -/
theorem MemAt.one {nt g i : Nat} {t : TypeId} {cs : List Value} (hr : allRows mem) (hi : i < nx) (hρ : ρ i = ⟨some ⟨g, 0, none⟩, 0, 0, false⟩) (hbx : BlkOk { w0 := w, bor := [g], n0 := nx, ρ0 := ρ, nt := nt } ρ nx i w (.box t cs))
    (hb : blksOk { w0 := w, bor := [g], n0 := nx, ρ0 := ρ, nt := nt } ρ nx w mem) (hap : ∀ j t sz n el, lk mem j = some (.row t sz n el) → n = 0 ∨ bno ρ j ≠ some g) : MemAt { w0 := w, bor := [g], n0 := nx, ρ0 := ρ, nt := nt } ρ ((i, .box t cs) :: mem) nx w := by
  have hgi : bno ρ i = some g := by simp [bno, hρ]
  refine ⟨fun j b hj => ?_, fun j b hj => ?_, fun j k b b' hne hj hk => ?_, Nat.le_refl _, fun _ _ => rfl, ⟨rfl, rfl, rfl, Nat.le_refl _, fun _ _ _ => rfl⟩⟩
  · rcases lk_cons hj with ⟨rfl, rfl⟩ | ⟨_, hj⟩
    · exact ⟨hi, by rw [hρ]⟩
    · exact ⟨(blksOk_lk hb j b hj).1, (blksOk_lk hb j b hj).2.1⟩
  · rcases lk_cons hj with ⟨rfl, rfl⟩ | ⟨_, hj⟩
    · exact hbx
    · exact (blksOk_lk hb j b hj).2.2
  · rcases lk_cons hj with ⟨rfl, rfl⟩ | ⟨_, hj⟩
    · rcases lk_cons hk with ⟨rfl, rfl⟩ | ⟨_, hk⟩
      · exact absurd rfl hne
      · cases b' with
        | box t2 cs2 => exact absurd hk (allRows_lk hr _ _ _)
        | row t2 sz n el =>
          rcases hap k t2 sz n el hk with h0 | h0
          · exact .inl h0
          · exact .inr (by rw [hgi]; exact Ne.symm h0)
    · cases b with
      | box t2 cs2 => exact absurd hj (allRows_lk hr _ _ _)
      | row t2 sz n el => cases b' with
        | box t3 cs3 => trivial
        | row t3 sz3 n3 el3 => intro ho; rw [allRows_own hr _ _ _ _ _ hj] at ho; cases ho
end
end Go.Proofs.Ytjobcfpnmfjlfaa

namespace Go.Proofs.Ytjobcfpnmfjlfaa
open Go.RowKit
set_option linter.unusedSimpArgs false
set_option linter.unusedVariables false

def bodyOf (f : Func) : Code := match f.body with | some c => c | none => .skip
abbrev ptr (i : Nat) : Value := .pointer (some ⟨i, 0, none⟩)
abbrev slc (i n c : Nat) : Value := .slice (some ⟨i, 0, none⟩) n c
abbrev intRow (l : List Int) : ABlk := .row 3 1 l.length (fun j => intC (l.getD j 0))
abbrev tapeB (r n cap : Nat) (k : Int) : ABlk := .box 73 [slc r n cap, .int .i64 k]

theorem wrapi {n : Int} (h : -9223372036854775808 ≤ n ∧ n ≤ 9223372036854775807) : IntKind.i64.wrap n = n := by rw [IntKind.wrap_i64]; omega
theorem CSound.val {P : Program} {f : FuncId} {ct : CT} (ent : (P.funcs[f]?).map (fun fn => (fn.name == "runtime.NumGoroutine", fn.body.isNone)) = some (false, false))
    (h : ∀ (vs : List Value) (mem : AM) (nx : Nat) (K : Value → AM → Nat → Prop), ct vs mem nx K → ∃ v, K v mem nx ∧ plain1 v ∧ atom v = true ∧ ∀ (ρ : Nat → Pl) (w : World), Calls P f (vs.map (den ρ)).toArray w fun e w' => e = .returned v ∧ Below w.heap.size w w') : CSound P f ct :=
  ⟨ent, fun {C ρ fr mem nx a w vs K} hc hs hv => by
    obtain ⟨v, hK, hp, ha, hcall⟩ := h vs mem nx K hc
    refine (hcall ρ w).mono fun e w' ⟨he, hb⟩ => ?_
    have hd : den ρ v = v := by rw [atom_den ha, den1_plain hp]
    exact ⟨v, mem, nx, ρ, by rw [hd]; exact he, hK, hs.later hb, by rw [atom_ok ha]; exact ok1_plain hp, ExtS.refl _ _⟩⟩

def ctMod : CT := fun vs mem nx K => ∃ v n, vs = [.int .i64 v, .int .i64 n] ∧ (1 ≤ n ∧ n ≤ 2147483648) ∧ K (.int .i64 (v % n)) mem nx
theorem modOk : CSound Try.prog 27 ctMod := CSound.val (by kernel_rfl) (by
  rintro vs mem nx K ⟨v, n, rfl, hn, hK⟩
  refine ⟨_, hK, trivial, rfl, fun ρ w => ?_⟩
  refine (mkMod_any v n w hn.1 hn.2).mono ?_
  rintro e w' ⟨rfl, rfl⟩
  exact ⟨rfl, Below.refl _ _⟩)
theorem ft_cons {P : Program} {f : FuncId} {ct : CT} {r : FT} (h : CSound P f ct) (hr : FTok P r) : FTok P ((f, ct) :: r) := fun g c hl => by
  rcases lk_cons hl with ⟨rfl, rfl⟩ | ⟨_, hl⟩
  · exact h
  · exact hr g c hl
theorem ft_nil {P : Program} : FTok P [] := fun g c hl => by simp [lk] at hl

/-- A tape at its place k. -/
structure TpAt (w : World) (g : Nat) (A : Option Addr) (cap : Nat) (zs : List Int) (k : Int) : Prop where
  row : Rd w (fun b => b ≠ g ∧ b < w.heap.size) A (flat intC zs)
  blk : Blk w g 73 #[.slice A zs.length cap, .int .i64 k]
def NextR (n k r k' : Int) : Prop := (0 ≤ r ∧ r < n) ∧ k ≤ k' ∧ k' ≤ k + 1
def NextP (n : Int) (g : Nat) (A : Option Addr) (cap : Nat) (zs : List Int) (k : Int) (w : World) (e : Ending) (w' : World) : Prop :=
  ∃ r k', NextR n k r k' ∧ e = .returned (.int .i64 r) ∧ TpAt w' g A cap zs k' ∧ w.grownBy w' (some g)

def nextF : FT := [(27, ctMod)]
theorem nextFok : FTok Try.prog nextF := ft_cons modOk ft_nil
def nextD : List (Nat × DQ) := [
  (3, { k := 16, L := [0, 1], pre := [(0, false), (1, false), (2, false), (3, false), (4, false), (5, false), (6, false), (7, false), (8, false), (9, false), (10, false), (11, false), (12, false), (13, true), (14, true), (15, false)] }),
  (4, { k := 10, L := [0, 1], pre := [(0, false), (1, false), (2, false), (3, false), (4, false), (5, false), (6, false), (7, false), (8, false), (9, true)] })]
theorem next_sx (cap : Nat) (zs : List Int) (k n : Int) (hz : zs.length ≤ 400) (hk : 0 ≤ k ∧ k ≤ 1000000) (hn : 1 ≤ n ∧ n ≤ 1000000) :
    sx tt nextF nextD (bodyOf Try.f20) (argF 0 [ptr 0, .int .i64 n]) [(0, tapeB 1 zs.length cap k), (1, intRow zs)] 2
      (endx tt [.tmp 4] fun v mem' _ => ∃ k', (∃ n' r, [Value.int .i64 n] = [.int .i64 n'] ∧ v = .int .i64 r ∧ NextR n' k r k') ∧ (plain1 v ∧ atom v = true) ∧ lk mem' 0 = some (tapeB 1 zs.length cap k')) := by
  refine ⟨fun h0 => ?_, fun h0 => ?_⟩
  · exact ⟨k, ⟨n, 0, rfl, rfl, ⟨by omega, by omega⟩, by omega, by omega⟩, ⟨trivial, rfl⟩, rfl⟩
  · have hpos : (zs.length : Int) ≠ 0 := by simpa using h0
    refine ⟨⟨rfl, hpos⟩, ⟨rfl, rfl, trivial⟩, ⟨Nat.le_refl _, ?i1, ?i2⟩, ⟨rfl, rfl, trivial⟩, ⟨rfl, hpos⟩, ⟨rfl, rfl, trivial⟩, ?rest⟩
    case i1 => exact Int.tmod_nonneg _ hk.1
    case i2 => exact Int.tmod_lt_of_pos _ (by omega)
    refine ⟨_, _, rfl, by decide, ?_⟩
    refine ⟨_, _, rfl, by omega, ?_⟩
    refine ⟨k + 1, ⟨n, _, rfl, rfl, ⟨Int.emod_nonneg _ (by omega), Int.emod_lt_of_pos _ (by omega)⟩, by omega, by omega⟩, ⟨trivial, rfl⟩, ?_⟩
    show some (tapeB 1 zs.length cap (IntKind.i64.wrap (k + 1))) = _
    rw [wrapi (by omega)]
/-- A function that is handed a tape and plain values. -/
theorem tape_calls {f : FuncId} {fn : Func} {F : FT} {D : List (Nat × DQ)} (hF : FTok Try.prog F) (hf : (Try.prog).funcs[f]? = some fn) (hb : fn.body = some (bodyOf fn)) (hcode : codeB fn.ntmps D (bodyOf fn) = true) {args : List Value} (hn : Nat.ble (args.length + 1) fn.ntmps = true) (hargs : ∀ v ∈ args, plain1 v ∧ atom v = true)
    (g : Nat) (A : Option Addr) (cap : Nat) (zs : List Int) (k : Int) (w : World) (ht : TpAt w g A cap zs k) {R : Value → Int → Prop}
    (h : sx tt F D (bodyOf fn) (argF 0 (ptr 0 :: args)) [(0, tapeB 1 zs.length cap k), (1, intRow zs)] 2 (endx tt fn.results.toList fun v mem' _ => ∃ k', R v k' ∧ (plain1 v ∧ atom v = true) ∧ lk mem' 0 = some (tapeB 1 zs.length cap k'))) :
    Calls Try.prog f (.pointer (some ⟨g, 0, none⟩) :: args).toArray w fun e w' => ∃ v k', R v k' ∧ (plain1 v ∧ atom v = true) ∧ e = .returned v ∧ TpAt w' g A cap zs k' ∧ w.grownBy w' (some g) := by
  let ρ : Nat → Pl := fun j => match j with | 0 => ⟨some ⟨g, 0, none⟩, 0, 0, false⟩ | _ => ⟨A, 1, zs.length, false⟩
  have hrow : ∀ C nx, BlkOk C ρ nx 1 w (intRow zs) := fun C nx => row_of_rd (enc := intC) (sz := 1) (fun _ => rfl) (by omega) (fun x v hv => by simp [intC] at hv; subst hv; trivial) 0 rfl ht.row (fun b hb => hb.2)
  have hm := MemAt.one (ρ := ρ) (nx := 2) (nt := fn.ntmps) (w := w) (mem := [(1, intRow zs)]) (g := g) (i := 0) (t := 73) (cs := [slc 1 zs.length cap, .int .i64 k]) trivial (by omega) rfl
    ⟨g, rfl, by
      have := ht.blk
      simpa [den1, dA_whole, ρ] using this, .inr (by simp), fun v hv => by
        simp at hv
        rcases hv with rfl | rfl
        · exact ⟨Nat.lt_succ_self 1, rfl⟩
        · trivial⟩ ⟨⟨by omega, rfl, hrow _ _⟩, trivial⟩ (fun j t sz n el hj => by
      rcases lk_cons hj with ⟨rfl, q⟩ | ⟨_, q⟩
      · cases q
        by_cases h0 : zs.length = 0
        · exact .inl h0
        · obtain ⟨b, off, x, hA, hb, -, -⟩ := ht.row.row (enc := intC) (sz := 1) (fun _ => rfl) (by omega) (k := 0) (by omega)
          refine .inr ?_
          subst hA
          simp [bno, ρ]
          exact hb.1
      · simp [lk] at q)
  have hden : ∀ v ∈ args, den ρ v = v := fun v hv => by rw [atom_den (hargs v hv).2, den1_plain (hargs v hv).1]
  have hargs2 : (ptr 0 :: args).map (den ρ) = .pointer (some ⟨g, 0, none⟩) :: args := by
    rw [List.map_cons]
    congr 1
    conv => rhs; rw [← List.map_id args]
    exact List.map_congr_left fun v hv => hden v hv
  rw [← hargs2]
  refine (calls_sx ttOk hF mixed hf hb hcode (vs := ptr 0 :: args) hn ⟨rfl, rfl⟩ rfl hm (fun v hv => ?_) h).mono ?_
  · rcases List.mem_cons.1 hv with rfl | hv
    · exact ⟨⟨Nat.zero_lt_succ 1, rfl⟩, ⟨g, 0, rfl⟩, fun k hk => by cases hk⟩
    · rw [atom_ok (hargs v hv).2]; exact ok1_plain (hargs v hv).1
  · rintro e w' ⟨v, mem', nx', ρ', rfl, ⟨k', hr, hpl, hlk⟩, -, hm'⟩
    have e0 : ρ' 0 = ρ 0 := hm'.low 0 (Nat.zero_lt_succ 1)
    have e1 : ρ' 1 = ρ 1 := hm'.low 1 (Nat.lt_succ_self 1)
    obtain ⟨g', hA, hb, -, -⟩ := hm'.blk 0 _ hlk
    rw [e0] at hA
    cases hA
    have hgr : w.grownBy w' (some g) := ⟨hm'.rest.os, hm'.rest.tape, hm'.rest.output, hm'.rest.size, fun b hlt hne => hm'.rest.block b hlt (by simp; intro q; exact hne (by rw [q]))⟩
    refine ⟨v, k', hr, hpl, by rw [atom_den hpl.2, den1_plain hpl.1], ⟨?_, ?_⟩, hgr⟩
    · exact (ht.row.keep fun b hb => hgr.block b hb.2 (by intro q; injection q with q; exact hb.1 q)).more fun b hb => ⟨hb.1, Nat.lt_of_lt_of_le hb.2 hgr.size⟩
    · simpa [den1, dA_whole, e1, ρ] using hb
/-- A box that a callee has written. -/
theorem Sat.grownBox {C : Ctx} {ρ : Nat → Pl} {fr : AF} {mem : AM} {nx : Nat} {a : Act} {w w' : World} (h : Sat C ρ fr mem nx a w) {i g : Nat} {t t' : TypeId} {cs cs' : List Value} (hi : lk mem i = some (.box t cs)) (hA : (ρ i).A = some ⟨g, 0, none⟩) (hg : w.grownBy w' (some g))
    (hb : Blk w' g t' (cs'.map (den1 ρ)).toArray) (hcs : ∀ v ∈ cs', ok1 ρ nx v) : Sat C ρ fr ((i, .box t' cs') :: mem) nx a w' := by
  have hm : MemAt (Ctx.of w ρ nx [i] 0) ρ [(i, .box t' cs')] nx w' := by
    refine ⟨fun j b hj => ?_, fun j b hj => ?_, fun j k b b' hne hj hk => ?_, Nat.le_refl _, fun _ _ => rfl, ⟨hg.os, hg.tape, hg.output, hg.size, fun b hlt hn => hg.block b hlt (by
      intro q
      injection q with q
      subst q
      exact hn (List.mem_filterMap.2 ⟨i, by simp, by simp [bno, hA]⟩))⟩⟩
    · rcases lk_cons hj with ⟨rfl, rfl⟩ | ⟨_, q⟩
      · exact h.mlt _ _ (lk_app hi)
      · simp [lk] at q
    · rcases lk_cons hj with ⟨rfl, rfl⟩ | ⟨_, q⟩
      · exact ⟨g, hA, hb, .inr (List.mem_filterMap.2 ⟨i, by simp, by simp [bno, hA]⟩), hcs⟩
      · simp [lk] at q
    · rcases lk_cons hj with ⟨rfl, rfl⟩ | ⟨_, q⟩
      · rcases lk_cons hk with ⟨rfl, rfl⟩ | ⟨_, q⟩
        · exact absurd rfl hne
        · simp [lk] at q
      · simp [lk] at q
  refine h.after (keep := [(i, .box t' cs')]) hm (fun j hj => by simp at hj; subst hj; exact ⟨t, cs, hi⟩) (fun j b hj => ⟨hj, ?_⟩) (fun j hj => by simp at hj; subst hj; exact ⟨t', cs', lk_same _ _ _⟩) (fun j t sz n el _ hj => ?_)
  · rcases lk_cons hj with ⟨rfl, rfl⟩ | ⟨_, q⟩
    · exact .inl (by simp)
    · simp [lk] at q
  · rcases lk_cons hj with ⟨_, q⟩ | ⟨_, q⟩
    · cases q
    · simp [lk] at q
/-- The tape of an abstract memory, in the world. -/
theorem Sat.tape {C : Ctx} {ρ : Nat → Pl} {fr : AF} {mem : AM} {nx : Nat} {a : Act} {w : World} (h : Sat C ρ fr mem nx a w) {i r cap : Nat} {zs : List Int} {k : Int} (hi : lk mem i = some (tapeB r zs.length cap k)) (hr : lk mem r = some (intRow zs)) :
    ∃ g, (ρ i).A = some ⟨g, 0, none⟩ ∧ TpAt w g (ρ r).A cap zs k ∧ ok1 ρ nx (slc r zs.length cap) := by
  obtain ⟨g, hA, hb, -, hcs⟩ := h.blk i _ (lk_app hi)
  have hne : i ≠ r := by rintro rfl; rw [hi] at hr; cases hr
  have hap := h.sep i r _ _ hne (lk_app hi) (lk_app hr)
  refine ⟨g, hA, ⟨rd_of_row (enc := intC) (sz := 1) (fun _ => rfl) (by omega) (h.blk r _ (lk_app hr)) fun hl b off hAr hlt => ⟨?_, hlt⟩, by simpa [den1, dA_whole] using hb⟩, hcs _ (by simp)⟩
  rintro rfl
  rcases hap with h0 | h0
  · exact hl h0
  · exact h0 (by simp [bno, hA, hAr])
/-- How a function that is handed a tape is called. -/
def ctTape (R : List Value → Int → Value → Int → Prop) (pre : List Value → Int → Prop) : CT := fun vs mem nx K => ∃ i r cap zs k args, vs = ptr i :: args ∧ (lk mem i = some (tapeB r zs.length cap k) ∧ lk mem r = some (intRow zs)) ∧ (zs.length ≤ 400 ∧ 0 ≤ k ∧ k ≤ 1000000) ∧ pre args k ∧ ∀ z k', R args k z k' → K z ((i, tapeB r zs.length cap k') :: mem) nx
theorem tapeOk {f : FuncId} {R : List Value → Int → Value → Int → Prop} {pre : List Value → Int → Prop} (ent : ((Try.prog).funcs[f]?).map (fun fn => (fn.name == "runtime.NumGoroutine", fn.body.isNone)) = some (false, false))
    (hpre : ∀ args k, pre args k → ∀ v ∈ args, plain1 v ∧ atom v = true)
    (h : ∀ args g A cap zs k w, zs.length ≤ 400 → 0 ≤ k → k ≤ 1000000 → pre args k → TpAt w g A cap zs k → Calls Try.prog f (.pointer (some ⟨g, 0, none⟩) :: args).toArray w fun e w' => ∃ v k', R args k v k' ∧ (plain1 v ∧ atom v = true) ∧ e = .returned v ∧ TpAt w' g A cap zs k' ∧ w.grownBy w' (some g)) : CSound Try.prog f (ctTape R pre) :=
  ⟨ent, fun {C ρ fr mem nx a w vs K} hc hs hv => by
    obtain ⟨i, r, cap, zs, k, args, rfl, ⟨hi, hr⟩, ⟨hz, hk0, hk1⟩, hp, hK⟩ := hc
    obtain ⟨g, hA, ht, hok⟩ := hs.tape hi hr
    have hargs := hpre args k hp
    have hvs : (ptr i :: args).map (den ρ) = .pointer (some ⟨g, 0, none⟩) :: args := by
      rw [List.map_cons]
      congr 1
      · simp [den, den2, den1, dA_whole, hA]
      · conv => rhs; rw [← List.map_id args]
        exact List.map_congr_left fun v hv => by rw [atom_den (hargs v hv).2, den1_plain (hargs v hv).1]; rfl
    rw [hvs]
    refine (h args g (ρ r).A cap zs k w hz hk0 hk1 hp ht).mono ?_
    rintro e w' ⟨v, k', hR, hpl, rfl, ht', hg⟩
    refine ⟨v, _, nx, ρ, by rw [atom_den hpl.2, den1_plain hpl.1], hK v k' hR, hs.grownBox (cs' := [slc r zs.length cap, .int .i64 k']) hi hA hg ?_ ?_, by rw [atom_ok hpl.2]; exact ok1_plain hpl.1, ExtS.refl _ _⟩
    · simpa [den1, dA_whole] using ht'.blk
    · intro u hu
      simp at hu
      rcases hu with rfl | rfl
      · exact hok
      · trivial⟩
def preInt (lo hi : Int) (args : List Value) (k : Int) : Prop := ∃ n, args = [.int .i64 n] ∧ lo ≤ n ∧ n ≤ hi
theorem preInt_plain {lo hi : Int} (args : List Value) (k : Int) (h : preInt lo hi args k) : ∀ v ∈ args, plain1 v ∧ atom v = true := by
  obtain ⟨n, rfl, -⟩ := h
  intro v hv
  simp at hv
  subst hv
  exact ⟨trivial, rfl⟩
def ctNext : CT := ctTape (fun args k z k' => ∃ n r, args = [.int .i64 n] ∧ z = .int .i64 r ∧ NextR n k r k') (preInt 1 1000000)
theorem nextOk : CSound Try.prog 20 ctNext := tapeOk (by kernel_rfl) preInt_plain (by
  rintro args g A cap zs k w hz hk0 hk1 ⟨n, rfl, hn⟩ ht
  refine tape_calls nextFok Try.func20 rfl (D := nextD) (by kernel_rfl) rfl (preInt_plain _ k ⟨n, rfl, hn⟩) g A cap zs k w ht (R := fun z k' => ∃ n' r, [Value.int .i64 n] = [.int .i64 n'] ∧ z = .int .i64 r ∧ NextR n' k r k') ?_
  exact (next_sx cap zs k n hz ⟨hk0, hk1⟩ hn))
end Go.Proofs.Ytjobcfpnmfjlfaa

namespace Go.Proofs.Ytjobcfpnmfjlfaa
open Go.RowKit
set_option linter.unusedSimpArgs false
set_option linter.unusedVariables false

def tpF : FT := [(20, ctNext)]
theorem tpFok : FTok Try.prog tpF := ft_cons nextOk ft_nil
def ctYes : CT := ctTape (fun args k z k' => ∃ b, z = .bool b ∧ k ≤ k' ∧ k' ≤ k + 1) (preInt 1 1000000)
theorem yesOk : CSound Try.prog 22 ctYes := tapeOk (by kernel_rfl) preInt_plain (by
  rintro args g A cap zs k w hz hk0 hk1 ⟨n, rfl, hn⟩ ht
  refine tape_calls tpFok Try.func22 rfl (D := []) (by kernel_rfl) rfl (preInt_plain _ k ⟨n, rfl, hn⟩) g A cap zs k w ht (R := fun z k' => ∃ b, z = .bool b ∧ k ≤ k' ∧ k' ≤ k + 1) ?_
  refine ⟨0, 1, cap, zs, k, _, rfl, ⟨rfl, rfl⟩, ⟨hz, hk0, hk1⟩, ⟨n, rfl, hn⟩, ?_⟩
  rintro z k' ⟨n', r, hnn, rfl, hr⟩
  exact ⟨k', ⟨_, rfl, hr.2⟩, ⟨trivial, rfl⟩, rfl⟩)
def preRange (args : List Value) (k : Int) : Prop := ∃ lo hi, args = [.int .i64 lo, .int .i64 hi] ∧ -100000 ≤ lo ∧ lo ≤ hi ∧ hi ≤ 100000
theorem preRange_plain (args : List Value) (k : Int) (h : preRange args k) : ∀ v ∈ args, plain1 v ∧ atom v = true := by
  obtain ⟨n, m, rfl, -⟩ := h
  intro v hv
  simp at hv
  rcases hv with rfl | rfl
  · exact ⟨trivial, rfl⟩
  · exact ⟨trivial, rfl⟩
def RangeR (args : List Value) (k : Int) (z : Value) (k' : Int) : Prop := ∃ lo hi r, args = [.int .i64 lo, .int .i64 hi] ∧ z = .int .i64 r ∧ (lo ≤ r ∧ r ≤ hi) ∧ k ≤ k' ∧ k' ≤ k + 1
def ctRange : CT := ctTape RangeR preRange
theorem rangeOk : CSound Try.prog 21 ctRange := tapeOk (by kernel_rfl) preRange_plain (by
  rintro args g A cap zs k w hz hk0 hk1 ⟨lo, hi, rfl, h1, h2, h3⟩ ht
  refine tape_calls tpFok Try.func21 rfl (D := []) (by kernel_rfl) rfl (preRange_plain _ k ⟨lo, hi, rfl, h1, h2, h3⟩) g A cap zs k w ht (R := fun z k' => RangeR _ k z k') ?_
  refine ⟨0, 1, cap, zs, k, _, rfl, ⟨rfl, rfl⟩, ⟨hz, hk0, hk1⟩, ⟨_, rfl, ?_⟩, ?_⟩
  · rw [wrapi (n := hi - lo) (by omega), wrapi (by omega)]; omega
  · rintro z k' ⟨n', r, hnn, rfl, hr⟩
    simp only [List.cons.injEq, Value.int.injEq, and_true, true_and] at hnn
    rw [wrapi (n := hi - lo) (by omega), wrapi (by omega)] at hnn
    subst hnn
    have hr1 := hr.1
    refine ⟨k', ⟨lo, hi, IntKind.i64.wrap (lo + r), rfl, rfl, ?_, hr.2⟩, ⟨trivial, rfl⟩, rfl⟩
    rw [wrapi (by omega)]; omega)
def preNone (args : List Value) (k : Int) : Prop := args = []
theorem preNone_plain (args : List Value) (k : Int) (h : preNone args k) : ∀ v ∈ args, plain1 v ∧ atom v = true := by
  cases h; intro v hv; cases hv
def ctMore : CT := ctTape (fun args k z k' => ∃ b, z = .bool b ∧ k' = k) preNone
def moreD : List (Nat × DQ) := [(1, { k := 10, L := [0], pre := [(0, false), (1, false), (2, false), (3, false), (4, false), (5, false), (6, false), (7, false), (8, false), (9, false)] })]
theorem moreOk : CSound Try.prog 23 ctMore := tapeOk (by kernel_rfl) preNone_plain (by
  rintro args g A cap zs k w hz hk0 hk1 hp ht
  cases hp
  refine tape_calls ft_nil Try.func23 rfl (D := moreD) (by kernel_rfl) rfl (preNone_plain _ k rfl) g A cap zs k w ht (R := fun z k' => ∃ b, z = .bool b ∧ k' = k) ?_
  exact ⟨k, ⟨_, rfl, rfl⟩, ⟨trivial, rfl⟩, rfl⟩)
theorem flat_intH (l : List Int) : flat intC l = l.map (Value.int .i64) := by
  induction l with
  | nil => rfl
  | cons a l ih => simp only [flat, List.flatMap_cons, intC] at ih ⊢; simp [ih]
def ctTapeNew : CT := fun vs mem nx K => ∃ r cap zs, vs = [slc r (zs : List Int).length cap] ∧ lk mem r = some (intRow zs) ∧ zs.length ≤ 400 ∧ K (ptr nx) ((nx, tapeB r zs.length cap 0) :: mem) (nx + 1)
theorem tapeNewOk : CSound Try.prog 18 ctTapeNew := ⟨by kernel_rfl, fun {C ρ fr mem nx a w vs K} hc hs hv => by
  obtain ⟨r, cap, zs, rfl, hr, hz, hK⟩ := hc
  have hrd := rd_of_row (enc := intC) (sz := 1) (fun _ => rfl) (by omega) (hs.blk r _ (lk_app hr)) (S := (· < w.heap.size)) (fun _ b off _ hlt => hlt)
  rw [flat_intH] at hrd
  have hvs : [slc r zs.length cap].map (den ρ) = [.slice (ρ r).A zs.length cap] := by simp [den, den2, den1, dA_whole]
  rw [hvs]
  refine (mkTape_any (ρ r).A cap zs w hz hrd).mono ?_
  rintro e w' ⟨rfl, ht, hb⟩
  obtain ⟨e1, e2⟩ := ptr_new (ρ := ρ) (nx := nx) w.heap.size
  have hrn := hs.mlt r _ (lk_app hr)
  have hok : ok1 (setPl ρ nx ⟨some ⟨w.heap.size, 0, none⟩, 0, 0, false⟩) (nx + 1) (slc r zs.length cap) := ⟨by have := hrn.1; exact Nat.lt_succ_of_lt this, by rw [setPl_lt ρ _ hrn.1]; exact hrn.2⟩
  refine ⟨_, _, _, setPl ρ nx ⟨some ⟨w.heap.size, 0, none⟩, 0, 0, false⟩, by rw [e1], hK, hs.add hb ⟨w.heap.size, by rw [setPl_same], ?_, .inl hs.rest.size, ?_⟩ (fun g hg => by simp at hg; omega) rfl, e2, ExtS.set _ _ _⟩
  · have hA : (setPl ρ nx ⟨some ⟨w.heap.size, 0, none⟩, 0, 0, false⟩ r).A = (ρ r).A := by rw [setPl_lt ρ _ hrn.1]
    simpa [den1, dA_whole, hA] using ht.blk
  · intro u hu
    simp at hu
    rcases hu with rfl | rfl
    · exact hok
    · trivial⟩
end Go.Proofs.Ytjobcfpnmfjlfaa

namespace Go.Proofs.Ytjobcfpnmfjlfaa
open Go.RowKit
set_option linter.unusedSimpArgs false
set_option linter.unusedVariables false

/-! Configurations and states in the abstract memory. -/
structure CN where
  z : Nat
  c : Nat
  t : Nat
  v : Nat
  r : Nat
  o : Nat
  g : Nat
structure SN where
  t : Nat
  c : Nat
  g : Nat
structure CfgK where
  cz : Nat
  cc : Nat
  ct : Nat
  cv : Nat
  cr : Nat
  co : Nat
structure StK where
  ct : Nat
  cc : Nat
abbrev cfgV (n : CN) (x : CfgK) (c : Cfg) : Value := .agg #[.int .i64 c.regions, slc n.z c.zones.length x.cz, slc n.c c.cells.length x.cc, slc n.t c.tenants.length x.ct, slc n.v c.versions.length x.cv, slc n.r c.replicas.length x.cr, slc n.o c.observers.length x.co, .int .i64 c.blast, .int .i64 c.lease, .int .i64 c.bake]
abbrev stV (n : SN) (y : StK) (s : St) : Value := .agg #[.int .i64 s.tick, .int .i64 s.count, slc n.t s.tenants.length y.ct, slc n.c s.cells.length y.cc, .int .i64 s.proven, .int .i64 s.evac, .int .i64 s.low, .int .i64 s.high]
abbrev entV' (e : Ent) : Value := .agg #[.int .i64 e.kind, .int .i64 e.tick, .int .i64 e.tenant, .int .i64 e.cell, .int .i64 e.other, .int .i64 e.epoch, .int .i64 e.since, .int .i64 e.till, .int .i64 e.n]
abbrev rowOfL {α : Type} (t : TypeId) (sz : Nat) (enc : α → List Value) (d : α) (l : List α) : ABlk := .row t sz l.length (fun k => enc (l.getD k d))
abbrev cfgM (n : CN) (c : Cfg) : AM := [(n.z, rowOfL n.g 1 intC 0 c.zones), (n.c, rowOfL n.g 2 pairC (0, 0) c.cells), (n.t, rowOfL n.g 7 tenC default c.tenants), (n.v, rowOfL n.g 2 pairC (0, 0) c.versions), (n.r, rowOfL n.g 1 intC 0 c.replicas), (n.o, rowOfL n.g 1 intC 0 c.observers)]
abbrev stM (n : SN) (s : St) : AM := [(n.t, rowOfL n.g 12 tsC default s.tenants), (n.c, rowOfL n.g 4 csC default s.cells)]
def cfgX (ρ : Nat → Pl) (n : CN) (x : CfgK) : CfgA := ⟨(ρ n.z).A, x.cz, (ρ n.c).A, x.cc, (ρ n.t).A, x.ct, (ρ n.v).A, x.cv, (ρ n.r).A, x.cr, (ρ n.o).A, x.co⟩
def stX (ρ : Nat → Pl) (n : SN) (y : StK) : StA := ⟨(ρ n.t).A, y.ct, (ρ n.c).A, y.cc⟩
theorem den_cfg (ρ : Nat → Pl) (n : CN) (x : CfgK) (c : Cfg) : den ρ (cfgV n x c) = .agg (cfgC (cfgX ρ n x) c) := by simp [den, den2, den1, dA_whole, cfgC, cfgX]
theorem den_st (ρ : Nat → Pl) (n : SN) (y : StK) (s : St) : den ρ (stV n y s) = .agg (stC (stX ρ n y) s) := by simp [den, den2, den1, dA_whole, stC, stX]
theorem intC_plain : ∀ x, ∀ v ∈ intC x, plain1 v := fun x v hv => by simp [intC] at hv; subst hv; trivial
theorem pairC_plain : ∀ x, ∀ v ∈ pairC x, plain1 v := fun x v hv => by simp [pairC] at hv; rcases hv with rfl | rfl <;> trivial
theorem tenC_plain : ∀ x, ∀ v ∈ tenC x, plain1 v := fun x v hv => by simp [tenC] at hv; rcases hv with rfl | rfl | rfl | rfl | rfl | rfl | rfl <;> trivial
theorem tsC_plain : ∀ x, ∀ v ∈ tsC x, plain1 v := fun x v hv => by simp [tsC] at hv; rcases hv with rfl | rfl | rfl | rfl | rfl | rfl | rfl | rfl | rfl | rfl | rfl | rfl <;> trivial
theorem csC_plain : ∀ x, ∀ v ∈ csC x, plain1 v := fun x v hv => by simp [csC] at hv; rcases hv with rfl | rfl | rfl | rfl <;> trivial
theorem entC_plain : ∀ x, ∀ v ∈ entC x, plain1 v := fun x v hv => by simp [entC] at hv; rcases hv with rfl | rfl | rfl | rfl | rfl | rfl | rfl | rfl | rfl <;> trivial

section
variable {C : Ctx} {ρ : Nat → Pl} {fr : AF} {mem : AM} {nx : Nat} {a : Act} {w : World}
/-- Where the rows of a configuration lie. -/
structure CfgPl (ρ : Nat → Pl) (n : CN) (x : CfgA) (c : Cfg) : Prop where
  z : ρ n.z = ⟨x.az, 1, c.zones.length, false⟩
  cc : ρ n.c = ⟨x.ac, 2, c.cells.length, false⟩
  tt : ρ n.t = ⟨x.at_, 7, c.tenants.length, false⟩
  v : ρ n.v = ⟨x.av, 2, c.versions.length, false⟩
  r : ρ n.r = ⟨x.ar, 1, c.replicas.length, false⟩
  o : ρ n.o = ⟨x.ao, 1, c.observers.length, false⟩
structure StPl (ρ : Nat → Pl) (n : SN) (y : StA) (s : St) : Prop where
  t : ρ n.t = ⟨y.at_, 12, s.tenants.length, false⟩
  c : ρ n.c = ⟨y.ac, 4, s.cells.length, false⟩
theorem own_of_fr {t : TypeId} (h : frT t = false) : ownT t = false := by
  cases ho : ownT t with
  | false => rfl
  | true => have := frT_own ho; rw [h] at this; cases this
theorem cfg_blks {n : CN} {x : CfgA} {c : Cfg} {S : Nat → Prop} (hp : CfgPl ρ n x c) (hc : CfgOk w S x c) (hS : ∀ b, S b → b < w.heap.size) (hn : n.z < nx ∧ n.c < nx ∧ n.t < nx ∧ n.v < nx ∧ n.r < nx ∧ n.o < nx) {r : AM} (hr : blksOk C ρ nx w r) (hg : frT n.g = false := by rfl) : blksOk C ρ nx w (cfgM n c ++ r) :=
  ⟨⟨hn.1, by rw [hp.z], row_of_rd (enc := intC) (sz := 1) (fun _ => rfl) (by omega) intC_plain 0 hp.z hc.zones hS (own_of_fr hg) (fun h => by rw [hg] at h; cases h)⟩, ⟨hn.2.1, by rw [hp.cc], row_of_rd (enc := pairC) (sz := 2) (fun _ => rfl) (by omega) pairC_plain (0, 0) hp.cc hc.cells hS (own_of_fr hg) (fun h => by rw [hg] at h; cases h)⟩,
    ⟨hn.2.2.1, by rw [hp.tt], row_of_rd (enc := tenC) (sz := 7) (fun _ => rfl) (by omega) tenC_plain default hp.tt hc.tenants hS (own_of_fr hg) (fun h => by rw [hg] at h; cases h)⟩, ⟨hn.2.2.2.1, by rw [hp.v], row_of_rd (enc := pairC) (sz := 2) (fun _ => rfl) (by omega) pairC_plain (0, 0) hp.v hc.versions hS (own_of_fr hg) (fun h => by rw [hg] at h; cases h)⟩,
    ⟨hn.2.2.2.2.1, by rw [hp.r], row_of_rd (enc := intC) (sz := 1) (fun _ => rfl) (by omega) intC_plain 0 hp.r hc.replicas hS (own_of_fr hg) (fun h => by rw [hg] at h; cases h)⟩, ⟨hn.2.2.2.2.2, by rw [hp.o], row_of_rd (enc := intC) (sz := 1) (fun _ => rfl) (by omega) intC_plain 0 hp.o hc.observers hS (own_of_fr hg) (fun h => by rw [hg] at h; cases h)⟩, hr⟩
theorem st_blks {n : SN} {y : StA} {s : St} {S : Nat → Prop} (hp : StPl ρ n y s) (hc : StOk w S y s) (hS : ∀ b, S b → b < w.heap.size) (hn : n.t < nx ∧ n.c < nx) {r : AM} (hr : blksOk C ρ nx w r) (hg : frT n.g = false := by rfl) : blksOk C ρ nx w (stM n s ++ r) :=
  ⟨⟨hn.1, by rw [hp.t], row_of_rd (enc := tsC) (sz := 12) (fun _ => rfl) (by omega) tsC_plain default hp.t hc.tenants hS (own_of_fr hg) (fun h => by rw [hg] at h; cases h)⟩, ⟨hn.2, by rw [hp.c], row_of_rd (enc := csC) (sz := 4) (fun _ => rfl) (by omega) csC_plain default hp.c hc.cells hS (own_of_fr hg) (fun h => by rw [hg] at h; cases h)⟩, hr⟩
/-- Of a row of the abstract memory: its place, apart from a box. -/
theorem Sat.rd (h : Sat C ρ fr mem nx a w) {α : Type} {enc : α → List Value} {sz : Nat} (hsz : ∀ x, (enc x).length = sz) (hpos : 0 < sz) {l : List α} {d : α} {i : Nat} {t : TypeId} (hi : lk mem i = some (rowOfL t sz enc d l)) {S : Nat → Prop}
    (hS : ∀ b, b < w.heap.size → (∀ j t cs, lk mem j = some (.box t cs) → bno ρ j ≠ some b) → S b) : Rd w S (ρ i).A (flat enc l) :=
  rd_of_row hsz hpos (h.blk i _ (lk_app hi)) fun hl b off hA hlt => hS b hlt fun j t cs hj he => by
    have hne : j ≠ i := by rintro rfl; rw [hi] at hj; cases hj
    rcases h.sep j i _ _ hne (lk_app hj) (lk_app hi) with h0 | h0
    · exact hl h0
    · exact h0 (by rw [he]; simp [bno, hA])
theorem Sat.cfg (h : Sat C ρ fr mem nx a w) {n : CN} {x : CfgK} {c : Cfg} (hk : keeps mem (cfgM n c)) {S : Nat → Prop} (hS : ∀ b, b < w.heap.size → (∀ j t cs, lk mem j = some (.box t cs) → bno ρ j ≠ some b) → S b) : CfgOk w S (cfgX ρ n x) c := by
  obtain ⟨k1, k2, k3, k4, k5, k6, -⟩ := hk
  exact ⟨h.rd (enc := intC) (sz := 1) (fun _ => rfl) (by omega) k1 hS, h.rd (enc := pairC) (sz := 2) (fun _ => rfl) (by omega) k2 hS, h.rd (enc := tenC) (sz := 7) (fun _ => rfl) (by omega) k3 hS, h.rd (enc := pairC) (sz := 2) (fun _ => rfl) (by omega) k4 hS, h.rd (enc := intC) (sz := 1) (fun _ => rfl) (by omega) k5 hS, h.rd (enc := intC) (sz := 1) (fun _ => rfl) (by omega) k6 hS⟩
theorem Sat.st (h : Sat C ρ fr mem nx a w) {n : SN} {y : StK} {s : St} (hk : keeps mem (stM n s)) {S : Nat → Prop} (hS : ∀ b, b < w.heap.size → (∀ j t cs, lk mem j = some (.box t cs) → bno ρ j ≠ some b) → S b) : StOk w S (stX ρ n y) s := by
  obtain ⟨k1, k2, -⟩ := hk
  exact ⟨h.rd (enc := tsC) (sz := 12) (fun _ => rfl) (by omega) k1 hS, h.rd (enc := csC) (sz := 4) (fun _ => rfl) (by omega) k2 hS⟩
end
/-- Values without names. -/
def pureV : Value → Prop
  | .agg cs => ∀ v ∈ cs, plain1 v
  | .tuple _ => False
  | v => plain1 v
theorem pure_den {v : Value} (h : pureV v) (ρ : Nat → Pl) (n : Nat) : den ρ v = v ∧ okV ρ n v := by
  cases v with
  | agg cs =>
    refine ⟨?_, fun u hu => ok1_plain (h u hu)⟩
    show Value.agg (cs.map (den1 ρ)) = _
    congr 1
    conv => rhs; rw [← Array.map_id cs]
    exact Array.map_congr_left fun u hu => den1_plain (h u hu)
  | tuple vs => exact h.elim
  | pointer p => cases p with
    | none => exact ⟨rfl, trivial⟩
    | some a => exact h.elim
  | slice p k c => cases p with
    | none => exact ⟨rfl, trivial⟩
    | some a => exact h.elim
  | _ => exact ⟨rfl, trivial⟩
theorem pure_ent (e : Ent) : pureV (entV' e) := fun v hv => by
  simp at hv
  rcases hv with rfl | rfl | rfl | rfl | rfl | rfl | rfl | rfl | rfl <;> trivial
end Go.Proofs.Ytjobcfpnmfjlfaa

namespace Go.Proofs.Ytjobcfpnmfjlfaa
open Go.RowKit
set_option linter.unusedSimpArgs false
set_option linter.unusedVariables false

section
variable {C : Ctx} {ρ : Nat → Pl} {fr : AF} {mem : AM} {nx : Nat} {a : Act} {w w' : World}
/-- All that is written lies below B. -/
def FrB (C : Ctx) (ρ : Nat → Pl) (mem : AM) (B : Nat) : Prop := ∀ i b, lk (mem ++ C.fm) i = some b → exB b = true → (∃ t sz el, b = .row t sz 0 el) ∨ ∀ g, bno ρ i = some g → g < B
theorem Sat.frB (h : Sat C ρ fr mem nx a w) : FrB C ρ mem w.heap.size := by
  intro i b hi hb
  have hok := h.blk i b hi
  cases b with
  | box t cs =>
    obtain ⟨g, e1, e2, -⟩ := hok
    refine .inr fun g' hg => ?_
    simp [bno, e1] at hg
    subst hg
    exact e2.lt
  | row t sz n el =>
    obtain ⟨-, -, h3⟩ := hok
    rcases h3 with rfl | ⟨b, off, hA, hat, -⟩
    · exact .inl ⟨_, _, _, rfl⟩
    · refine .inr fun g hg => ?_
      simp [bno, hA] at hg
      subst hg
      exact hat.lt
/-- One more row that is only read. -/
theorem Sat.addPlain (h : Sat C ρ fr mem nx a w) {t : TypeId} {sz n : Nat} {el : Nat → List Value} {p : Pl} {B : Nat} (hF : FrB C ρ mem B) (ho : ownT t = false) (hp : p.res = false) (hok : BlkOk C (setPl ρ nx p) (nx + 1) nx w (.row t sz n el)) (hnew : n = 0 ∨ ∀ g, p.A.map (·.block) = some g → B ≤ g) :
    Sat C (setPl ρ nx p) fr ((nx, .row t sz n el) :: mem) (nx + 1) a w ∧ FrB C (setPl ρ nx p) ((nx, .row t sz n el) :: mem) B := by
  have hr : ∀ j, j < nx → (ρ j).res = false → setPl ρ nx p j = ρ j := fun j hj _ => setPl_lt ρ p hj
  have h1 := h.ren (ρ' := setPl ρ nx p) (m := nx + 1) hr (Nat.le_succ _) (fun j hj => setPl_lt ρ p (Nat.lt_of_lt_of_le hj h.n0))
  have e1 : bno (setPl ρ nx p) nx = p.A.map (·.block) := by unfold bno; rw [setPl_same]
  have e2 : ∀ j b, lk (mem ++ C.fm) j = some b → bno (setPl ρ nx p) j = bno ρ j := fun j b hj => by unfold bno; rw [setPl_lt ρ p (h.mlt j b hj).1]
  have key : ∀ j b', lk (mem ++ C.fm) j = some b' → Apart (setPl ρ nx p) nx j (.row t sz n el) b' ∧ Apart (setPl ρ nx p) j nx b' (.row t sz n el) := by
    intro j b' hj
    have hne : n ≠ 0 → ∀ g, bno ρ j = some g → g < B → bno (setPl ρ nx p) j ≠ bno (setPl ρ nx p) nx := by
      intro hn g hg hlt he
      rw [e1, e2 j b' hj, hg] at he
      have := hnew.resolve_left hn g he.symm
      omega
    cases b' with
    | box t2 cs2 =>
      refine ⟨trivial, ?_⟩
      by_cases hn : n = 0
      · exact .inl hn
      · refine .inr ?_
        obtain ⟨g, hA, -⟩ := h.blk j _ hj
        rcases hF j _ hj rfl with ⟨_, _, _, q⟩ | hlt
        · cases q
        · have hg : bno ρ j = some g := by simp [bno, hA]
          exact hne hn g hg (hlt g hg)
    | row t2 sz2 n2 el2 =>
      refine ⟨(fun q => absurd (ho.symm.trans q) (by decide)), fun ho2 => ?_⟩
      by_cases hn : n = 0
      · exact .inr (.inl hn)
      · by_cases hn2 : n2 = 0
        · exact .inl hn2
        · obtain ⟨-, -, h3⟩ := h.blk j _ hj
          rcases h3 with q | ⟨b, off, hA, -⟩
          · exact .inl q
          · rcases hF j _ hj ho2 with ⟨_, _, _, q⟩ | hlt
            · cases q; exact .inl rfl
            · have hg : bno ρ j = some b := by simp [bno, hA]
              exact .inr (.inr (hne hn b hg (hlt b hg)))
  refine ⟨⟨h1.fok, h1.sz, h1.dfr, fun i b' hi => ?_, fun i b' hi => ?_, fun i j b1 b2 hne hi hj => ?_, h1.n0, h1.low, h1.rest⟩, fun i b hi hb => ?_⟩
  · rcases lk_cons hi with ⟨rfl, rfl⟩ | ⟨hne, hi⟩
    · exact ⟨Nat.lt_succ_self _, by rw [setPl_same]; exact hp⟩
    · exact h1.mlt i b' hi
  · rcases lk_cons hi with ⟨rfl, rfl⟩ | ⟨hne, hi⟩
    · exact hok
    · exact h1.blk i b' hi
  · rcases lk_cons hi with ⟨rfl, rfl⟩ | ⟨hni, hi⟩
    · rcases lk_cons hj with ⟨rfl, rfl⟩ | ⟨hnj, hj⟩
      · exact absurd rfl hne
      · exact (key j b2 hj).1
    · rcases lk_cons hj with ⟨rfl, rfl⟩ | ⟨hnj, hj⟩
      · exact (key i b1 hi).2
      · exact h1.sep i j b1 b2 hne hi hj
  · rcases lk_cons hi with ⟨rfl, rfl⟩ | ⟨hne, hi⟩
    · simp only [exB] at hb
      rw [ho] at hb
      cases hb
    · rcases hF i b hi hb with q | q
      · exact .inl q
      · exact .inr fun g hg => q g (by rw [← e2 i b hi]; exact hg)
/-- A row of a list, made by the callee. -/
theorem Sat.addList (h : Sat C ρ fr mem nx a w) {B : Nat} (hF : FrB C ρ mem B) (hB : C.w0.heap.size ≤ B) {α : Type} {enc : α → List Value} {sz : Nat} (hs : ∀ x, (enc x).length = sz) (hpos : 0 < sz) (hpl : ∀ x, ∀ v ∈ enc x, plain1 v) {l : List α} (d : α) {t : TypeId} (ho : ownT t = false) {A : Option Addr} (hr : Rd w (fun b => B ≤ b ∧ b < w.heap.size) A (flat enc l)) :
    Sat C (setPl ρ nx ⟨A, sz, l.length, false⟩) fr ((nx, rowOfL t sz enc d l) :: mem) (nx + 1) a w ∧ FrB C (setPl ρ nx ⟨A, sz, l.length, false⟩) ((nx, rowOfL t sz enc d l) :: mem) B := by
  refine h.addPlain hF ho rfl (row_of_rd hs hpos hpl d (setPl_same _ _ _) hr (fun b hb => hb.2) ho (fun _ b hb => Nat.le_trans hB hb.1)) ?_
  by_cases h0 : l.length = 0
  · exact .inl h0
  · obtain ⟨b, off, x, hA, hb, -, -⟩ := hr.row hs hpos (k := 0) (by omega)
    refine .inr fun g hg => ?_
    simp [hA] at hg
    subst hg
    exact hb.1
def stPl (ρ : Nat → Pl) (nx : Nat) (y : StA) (s : St) : Nat → Pl := setPl (setPl ρ nx ⟨y.ac, 4, s.cells.length, false⟩) (nx + 1) ⟨y.at_, 12, s.tenants.length, false⟩
/-- A state that the callee has made: its rows get the names nx + 1 and nx. -/
theorem Sat.addSt (h0 : Sat C ρ fr mem nx a w) (hb : Below w.heap.size w w') {y : StA} {s : St} (hs : StOk w' (fun b => w.heap.size ≤ b ∧ b < w'.heap.size) y s) :
    Sat C (stPl ρ nx y s) fr (stM ⟨nx + 1, nx, 500000⟩ s ++ mem) (nx + 2) a w' ∧ den (stPl ρ nx y s) (stV ⟨nx + 1, nx, 500000⟩ ⟨y.ct, y.cc⟩ s) = .agg (stC y s) ∧ okV (stPl ρ nx y s) (nx + 2) (stV ⟨nx + 1, nx, 500000⟩ ⟨y.ct, y.cc⟩ s) ∧ ExtS ρ nx (stPl ρ nx y s) (nx + 2) := by
  obtain ⟨h1, f1⟩ := (h0.later hb).addList h0.frB h0.rest.size (enc := csC) (sz := 4) (fun _ => rfl) (by omega) csC_plain default (t := 500000) rfl hs.cells
  obtain ⟨h2, -⟩ := h1.addList f1 h0.rest.size (enc := tsC) (sz := 12) (fun _ => rfl) (by omega) tsC_plain default (t := 500000) rfl hs.tenants
  have q1 : stPl ρ nx y s nx = ⟨y.ac, 4, s.cells.length, false⟩ := by
    unfold stPl
    rw [setPl_lt _ _ (Nat.lt_succ_self _), setPl_same]
  have q2 : stPl ρ nx y s (nx + 1) = ⟨y.at_, 12, s.tenants.length, false⟩ := setPl_same _ _ _
  refine ⟨h2, ?_, ?_, fun i hi => ?_, by omega⟩
  · rw [den_st]
    congr 2
    simp [stX, q1, q2]
  · intro u hu
    simp at hu
    rcases hu with rfl | rfl | rfl | rfl | rfl | rfl | rfl | rfl <;> first | trivial | exact ⟨show nx + 1 < nx + 2 by omega, by rw [q2]⟩ | exact ⟨show nx < nx + 2 by omega, by rw [q1]⟩
  · unfold stPl
    rw [setPl_lt _ _ (by omega), setPl_lt _ _ hi]
end
end Go.Proofs.Ytjobcfpnmfjlfaa

namespace Go.Proofs.Ytjobcfpnmfjlfaa
open Go.RowKit
set_option linter.unusedSimpArgs false
set_option linter.unusedVariables false

set_option maxHeartbeats 400000 in
theorem r4Has_any (set i : Int) (w : World) (h0 : 0 ≤ set) (h1 : set < 4294967296) :
    Calls Try.prog 64 #[.int .i64 set, .int .i64 i] w fun e w' => e = .returned (.bool (hasB set i)) ∧ w = w' := by
  have HB := Lib.hid (bit_div set i h0)
  go_enter Try.func64, Try.ntmps64
  go_wp2
  all_goals
    go_ret
    refine ⟨ret_bool ?_, rfl⟩
  · rw [HB.out (by omega)]
    simp [hasB, *]
  · simp [hasB]
    omega
  · simp [hasB]
    omega

set_option maxHeartbeats 400000 in
theorem r4ZoneOf_any (x : CfgA) (c : Cfg) (k : Int) (w : World) (hV : CfgV c) (hok : CfgOk w (· < w.heap.size) x c) :
    Calls Try.prog 86 #[.agg (cfgC x c), .int .i64 k] w fun e w' => e = .returned (.int .i64 (zoneOf c k)) ∧ Below w.heap.size w w' := by
  obtain ⟨az, cz, ac, cc, at_, ct, av, cv, ar, cr, ao, co⟩ := x
  have hnc := hV.nc
  have HK := Lib.hid hok
  clear hok hV
  unfold cfgC
  simp only
  by_cases hk : 0 ≤ k ∧ k < c.cells.length
  · obtain ⟨hk0, hk1⟩ := hk
    obtain ⟨n, rfl⟩ := Int.eq_ofNat_of_zero_le hk0
    have hn : n < c.cells.length := by omega
    obtain ⟨b, off, z, rfl, hb, hz, hcell⟩ := HK.out.cells.row (enc := pairC) (sz := 2) (fun _ => rfl) (by omega) hn
    have e0 := hcell 0 (.int .i64 z.1) rfl
    simp only [Nat.add_zero] at e0
    have hzo : zoneOf c n = z.1 := by unfold zoneOf; rw [if_pos ⟨hk0, hk1⟩, Int.toNat_natCast, getD_some hz]
    have HZ := Lib.hid hzo
    have hb1 : b < w.heap.size := hb
    clear hcell hz hzo
    go_enter Try.func86, Try.ntmps86
    go_wp2
    go_ret
    exact ⟨ret_i64 HZ.out.symm, (Below.refl _ _).alloc (Nat.le_refl _) _⟩
  · have hzo : zoneOf c k = -1 := by unfold zoneOf; rw [if_neg hk]
    have HZ := Lib.hid hzo
    have hd : k < 0 ∨ (0 ≤ k ∧ (c.cells.length : Int) ≤ k) := by omega
    clear hk hzo
    rcases hd with hd | ⟨hd1, hd⟩
    all_goals
      go_enter Try.func86, Try.ntmps86
      go_wp2
      go_ret
      exact ⟨ret_i64 HZ.out.symm, (Below.refl _ _).alloc (Nat.le_refl _) _⟩

theorem zoneOf_bd {c : Cfg} (hV : CfgV c) (k : Int) : (zoneOf c k = -1) ∨ (0 ≤ zoneOf c k ∧ zoneOf c k < c.zones.length) := by
  unfold zoneOf
  split
  · rename_i h
    obtain ⟨n, rfl⟩ := Int.eq_ofNat_of_zero_le h.1
    have hn : n < c.cells.length := by omega
    right
    rw [List.getD_eq_getElem?_getD, Int.toNat_natCast, List.getElem?_eq_getElem hn]
    exact hV.zone _ (List.getElem_mem hn)
  · exact .inl rfl
theorem regionOf_bd {c : Cfg} (hV : CfgV c) (k : Int) : -1 ≤ regionOf c k ∧ regionOf c k < c.regions := by
  unfold regionOf regZone
  have hr := hV.reg
  split
  · rename_i h
    obtain ⟨n, hn⟩ := Int.eq_ofNat_of_zero_le h.1
    rw [hn] at h ⊢
    have hl : n < c.zones.length := by omega
    rw [List.getD_eq_getElem?_getD, Int.toNat_natCast, List.getElem?_eq_getElem hl]
    have := hV.region _ (List.getElem_mem hl)
    simp only [Option.getD_some]
    omega
  · omega

set_option maxHeartbeats 400000 in
theorem r4RegionOf_any (x : CfgA) (c : Cfg) (k : Int) (w : World) (hV : CfgV c) (hok : CfgOk w (· < w.heap.size) x c) :
    Calls Try.prog 81 #[.agg (cfgC x c), .int .i64 k] w fun e w' => e = .returned (.int .i64 (regionOf c k)) ∧ Below w.heap.size w w' := by
  obtain ⟨az, cz, ac, cc, at_, ct, av, cv, ar, cr, ao, co⟩ := x
  have hnc := hV.nz
  have HV := Lib.hid hV
  have HK := Lib.hid hok
  have hzb := zoneOf_bd hV k
  clear hok hV
  unfold cfgC
  simp only
  go_enter Try.func81, Try.ntmps81
  go_wp2_with fail
  refine (r4ZoneOf_any ⟨az, cz, ac, cc, at_, ct, av, cv, ar, cr, ao, co⟩ c k _ HV.out (HK.out.allocW _)).mono ?_
  rintro e w1 ⟨rfl, hb1⟩
  have HB : Hid (Below w.heap.size w w1) := ((Below.refl _ _).alloc (Nat.le_refl _) _).trans (hb1.mono (by simp))
  obtain ⟨hc1, hf1⟩ := bcell hb1
  have HR : Hid (regionOf c k = regZone c (zoneOf c k)) := rfl
  generalize zoneOf c k = z at *
  rcases hzb with rfl | ⟨hz0, hz1⟩
  · clear hc1 hf1 hb1
    go_wp2
    go_ret
    exact ⟨ret_i64 (by rw [HR.out]; simp [regZone]), HB.out⟩
  · obtain ⟨n, rfl⟩ := Int.eq_ofNat_of_zero_le hz0
    have hn : n < c.zones.length := by omega
    obtain ⟨b, off, z, rfl, hb, hz, hcell⟩ := HK.out.zones.row (enc := intC) (sz := 1) (fun _ => rfl) (by omega) hn
    have e0 := hcell 0 (.int .i64 z) rfl
    simp only [Nat.add_zero, Nat.mul_one] at e0
    have hzo : regZone c n = z := by unfold regZone; rw [if_pos ⟨hz0, hz1⟩, Int.toNat_natCast, getD_some hz]
    have HZ := Lib.hid (HR.out.trans hzo)
    have hb0 : b < w.heap.size := hb
    have e1 : w1.cell? ⟨b, off + n, none⟩ = some (.int .i64 z) := by rw [hc1 b _ (by simp; omega), World.cell?_alloc_lt w _ _ (show b < w.heap.size from hb)]; exact e0
    have d1 : w1.cell? ⟨w.heap.size, 1, none⟩ = some (.slice (some ⟨b, off, none⟩) c.zones.length cz) := by rw [hc1 _ _ (by simp)]; go_simp
    clear hcell hz hzo hc1 hf1 hb1 HR e0
    go_wp2
    go_ret
    exact ⟨ret_i64 HZ.out.symm, HB.out⟩
end Go.Proofs.Ytjobcfpnmfjlfaa

namespace Go.Proofs.Ytjobcfpnmfjlfaa
open Go.RowKit
set_option linter.unusedSimpArgs false
set_option linter.unusedVariables false

instance laterNonempty {B : Nat} {w : World} : Nonempty (Later B w) := ⟨⟨w, Below.refl _ _⟩⟩
section
variable {P : Program}
theorem quiet_belowW {w : World} (x : Later w.heap.size w) {f : FuncId} {args : Array Value} {v : Value}
    (h : Calls P f args x.world fun e w' => e = .returned v ∧ Below x.world.heap.size x.world w') : Calls P f args x.world fun e w'' => e = .returned v ∧ ∃ y : Later w.heap.size w, w'' = y.world :=
  h.mono fun _ w' ⟨he, hb⟩ => ⟨he, ⟨⟨w', x.below.trans (hb.mono x.below.size)⟩, rfl⟩⟩
theorem quiet_sameW {B : Nat} {w : World} (x : Later B w) {f : FuncId} {args : Array Value} {v : Value}
    (h : Calls P f args x.world fun e w' => e = .returned v ∧ x.world = w') : Calls P f args x.world fun e w'' => e = .returned v ∧ ∃ y : Later B w, w'' = y.world :=
  h.mono fun _ w' ⟨he, hb⟩ => ⟨he, ⟨x, hb.symm⟩⟩
end
theorem CfgOk.laterW {w : World} {x : CfgA} {c : Cfg} (h : CfgOk w (· < w.heap.size) x c) (y : Later w.heap.size w) : CfgOk y.world (· < y.world.heap.size) x c := h.belowW y.below
theorem StOk.laterW {w : World} {x : StA} {c : St} (h : StOk w (· < w.heap.size) x c) (y : Later w.heap.size w) : StOk y.world (· < y.world.heap.size) x c := h.belowW y.below

set_option maxHeartbeats 1000000 in
theorem r5Apart_any (x : CfgA) (c : Cfg) (a b : Int) (w : World) (hV : CfgV c) (hok : CfgOk w (· < w.heap.size) x c) :
    Calls Try.prog 66 #[.agg (cfgC x c), .int .i64 a, .int .i64 b] w fun e w' => e = .returned (.bool (apartB c a b)) ∧ Below w.heap.size w w' := by
  obtain ⟨az, cz, ac, cc, at_, ct, av, cv, ar, cr, ao, co⟩ := x
  have HV := Lib.hid hV
  have HK := Lib.hid hok
  have HL := Lib.hid ((Below.refl w.heap.size w).alloc (Nat.le_refl _) (.cells (cfgC ⟨az, cz, ac, cc, at_, ct, av, cv, ar, cr, ao, co⟩ c) 30))
  have HW := Lib.hid (HK.out.allocW (.cells (cfgC ⟨az, cz, ac, cc, at_, ct, av, cv, ar, cr, ao, co⟩ c) 30))
  have hBx := Blk.new w 30 (cfgC ⟨az, cz, ac, cc, at_, ct, av, cv, ar, cr, ao, co⟩ c)
  have hg := hBx.lt
  have d0 := hBx.cell' (i := 0) (v := .int .i64 c.regions) rfl
  have d1 := hBx.cell' (i := 1) (v := .slice az c.zones.length cz) rfl
  have d2 := hBx.cell' (i := 2) (v := .slice ac c.cells.length cc) rfl
  have d3 := hBx.cell' (i := 3) (v := .slice at_ c.tenants.length ct) rfl
  have d4 := hBx.cell' (i := 4) (v := .slice av c.versions.length cv) rfl
  have d5 := hBx.cell' (i := 5) (v := .slice ar c.replicas.length cr) rfl
  have d6 := hBx.cell' (i := 6) (v := .slice ao c.observers.length co) rfl
  have d7 := hBx.cell' (i := 7) (v := .int .i64 c.blast) rfl
  have d8 := hBx.cell' (i := 8) (v := .int .i64 c.lease) rfl
  have d9 := hBx.cell' (i := 9) (v := .int .i64 c.bake) rfl
  clear hBx
  unfold cfgC at HL HW d0 d1 d2 d3 d4 d5 d6 d7 d8 d9 hg
  simp only at HL HW d0 d1 d2 d3 d4 d5 d6 d7 d8 d9 hg
  clear hok hV HK
  unfold cfgC
  simp only
  go_enter Try.func66, Try.ntmps66
  go_wp2_with fail
  generalize w.alloc _ = W at *
  have hx : ∀ (y : Later W.heap.size W) b o, b < W.heap.size → y.world.cell? ⟨b, o, none⟩ = W.cell? ⟨b, o, none⟩ := fun y b o h => y.cell h
  refine wp_region_below W.heap.size (by kernel_rfl) (by kernel_rfl) ?_
  repeat (quiet_step ((go_at_call 81; exact quiet_belowW _ (r4RegionOf_any ⟨az, cz, ac, cc, at_, ct, av, cv, ar, cr, ao, co⟩ c _ _ HV.out (HW.out.laterW _)))))
  refine wpQuiet_nil ?_
  rintro w' ⟨y, rfl⟩
  have HY := Lib.hid (HL.out.trans (y.below.mono (Nat.le_of_lt hg)))
  have HA : Hid (apartB c a b = (decide (0 ≤ regionOf c a) && decide (0 ≤ regionOf c b) && decide (regionOf c a ≠ regionOf c b))) := Lib.hid rfl
  generalize regionOf c a = ra at *
  generalize regionOf c b = rb at *
  clear hx d0 d1 d2 d3 d4 d5 d6 d7 d8 d9 hg
  go_wp2
  all_goals
    go_ret
    refine ⟨ret_bool ?_, HY.out⟩
    rw [HA.out, Bool.eq_iff_iff]
    go_light
    simp
    try omega

theorem tenAt_bd {c : Cfg} (hV : CfgV c) {n : Nat} {t : Ten} (h : c.tenants[n]? = some t) : 1 ≤ t.load ∧ t.load ≤ 65536 ∧ 0 ≤ t.shadow ∧ t.shadow ≤ t.load ∧ 1 ≤ t.allowed ∧ t.allowed ≤ 15 := by
  have h1 := hV.ten t (List.mem_of_getElem? h)
  have h2 : 2 ≤ shl1 c.regions ∧ shl1 c.regions ≤ 16 := by unfold shl1; repeat' split <;> omega
  simp [tenOk, inR] at h1
  omega

set_option maxHeartbeats 1000000 in
theorem r5May_any (x : CfgA) (c : Cfg) (t k : Int) (w : World) (hV : CfgV c) (hok : CfgOk w (· < w.heap.size) x c) :
    Calls Try.prog 65 #[.agg (cfgC x c), .int .i64 t, .int .i64 k] w fun e w' => e = .returned (.bool (mayB c t k)) ∧ Below w.heap.size w w' := by
  obtain ⟨az, cz, ac, cc, at_, ct, av, cv, ar, cr, ao, co⟩ := x
  have HV := Lib.hid hV
  have HK := Lib.hid hok
  have hnt := hV.nt
  clear hok hV
  by_cases ht : 0 ≤ t ∧ t < c.tenants.length
  · obtain ⟨ht0, ht1⟩ := ht
    obtain ⟨n, rfl⟩ := Int.eq_ofNat_of_zero_le ht0
    have hn : n < c.tenants.length := by omega
    obtain ⟨b, off, z, rfl, hb, hz, hcell⟩ := HK.out.tenants.row (enc := tenC) (sz := 7) (fun _ => rfl) (by omega) hn
    have e4 := hcell 4 (.int .i64 z.allowed) rfl
    have hzb := tenAt_bd HV.out hz
    have hm : mayB c n k = hasB z.allowed (regionOf c k) := by
      unfold mayB tenAt
      rw [Int.toNat_natCast, getD_some hz]
      simp [hn]
    have HM := Lib.hid hm
    have hb1 : b < w.heap.size := hb
    have HL := Lib.hid ((Below.refl w.heap.size w).alloc (Nat.le_refl _) (.cells (cfgC ⟨az, cz, ac, cc, some ⟨b, off, none⟩, ct, av, cv, ar, cr, ao, co⟩ c) 30))
    have HW := Lib.hid (HK.out.allocW (.cells (cfgC ⟨az, cz, ac, cc, some ⟨b, off, none⟩, ct, av, cv, ar, cr, ao, co⟩ c) 30))
    have hBx := Blk.new w 30 (cfgC ⟨az, cz, ac, cc, some ⟨b, off, none⟩, ct, av, cv, ar, cr, ao, co⟩ c)
    have hg := hBx.lt
    have d0 := hBx.cell' (i := 0) (v := .int .i64 c.regions) rfl
    have d1 := hBx.cell' (i := 1) (v := .slice az c.zones.length cz) rfl
    have d2 := hBx.cell' (i := 2) (v := .slice ac c.cells.length cc) rfl
    have d3 := hBx.cell' (i := 3) (v := .slice (some ⟨b, off, none⟩) c.tenants.length ct) rfl
    have d4 := hBx.cell' (i := 4) (v := .slice av c.versions.length cv) rfl
    have d5 := hBx.cell' (i := 5) (v := .slice ar c.replicas.length cr) rfl
    have d6 := hBx.cell' (i := 6) (v := .slice ao c.observers.length co) rfl
    have d7 := hBx.cell' (i := 7) (v := .int .i64 c.blast) rfl
    have d8 := hBx.cell' (i := 8) (v := .int .i64 c.lease) rfl
    have d9 := hBx.cell' (i := 9) (v := .int .i64 c.bake) rfl
    clear hBx
    unfold cfgC at HL HW d0 d1 d2 d3 d4 d5 d6 d7 d8 d9 hg
    simp only at HL HW d0 d1 d2 d3 d4 d5 d6 d7 d8 d9 hg
    have e4' : (w.alloc (.cells (cfgC ⟨az, cz, ac, cc, some ⟨b, off, none⟩, ct, av, cv, ar, cr, ao, co⟩ c) 30)).cell? ⟨b, off + n * 7 + 4, none⟩ = some (.int .i64 z.allowed) := by
      rw [World.cell?_alloc_lt w _ _ (show b < w.heap.size from hb)]; exact e4
    have hb2 : b < (w.alloc (.cells (cfgC ⟨az, cz, ac, cc, some ⟨b, off, none⟩, ct, av, cv, ar, cr, ao, co⟩ c) 30)).heap.size := Nat.lt_trans hb1 hg
    unfold cfgC at *
    simp only at *
    clear HK hcell hz hm e4
    go_enter Try.func65, Try.ntmps65
    go_wp2_with fail
    generalize w.alloc _ = W at *
    have hx : ∀ (y : Later W.heap.size W) b o, b < W.heap.size → y.world.cell? ⟨b, o, none⟩ = W.cell? ⟨b, o, none⟩ := fun y b o h => y.cell h
    refine wp_region_below W.heap.size (by kernel_rfl) (by kernel_rfl) ?_
    repeat (first | go_big_quiet_step ((first | (go_at_call 81; exact quiet_belowW _ (r4RegionOf_any ⟨az, cz, ac, cc, some ⟨b, off, none⟩, ct, av, cv, ar, cr, ao, co⟩ c _ _ HV.out (HW.out.laterW _))) | (go_at_call 64; exact quiet_sameW _ (r4Has_any _ _ _ (by omega) (by omega))))) | quiet_step ((first | (go_at_call 81; exact quiet_belowW _ (r4RegionOf_any ⟨az, cz, ac, cc, some ⟨b, off, none⟩, ct, av, cv, ar, cr, ao, co⟩ c _ _ HV.out (HW.out.laterW _))) | (go_at_call 64; exact quiet_sameW _ (r4Has_any _ _ _ (by omega) (by omega))))))
    refine wpQuiet_nil ?_
    rintro w' ⟨y, rfl⟩
    have HY := Lib.hid (HL.out.trans (y.below.mono (Nat.le_of_lt hg)))
    clear hx d0 d1 d2 d3 d4 d5 d6 d7 d8 d9 hg e4' hb1 hb2
    go_wp2
    go_ret
    exact ⟨ret_bool HM.out.symm, HY.out⟩
  · have hm : mayB c t k = false := by unfold mayB; simp; intro h1 h2; omega
    have HM := Lib.hid hm
    have hd : decide (0 ≤ t) = false ∨ (decide (0 ≤ t) = true ∧ 0 ≤ t ∧ decide (t < (c.tenants.length : Int)) = false) := by
      by_cases h0 : 0 ≤ t
      · right
        refine ⟨by simpa using h0, h0, ?_⟩
        simp
        omega
      · left; simpa using h0
    have HL := Lib.hid ((Below.refl w.heap.size w).alloc (Nat.le_refl _) (.cells (cfgC ⟨az, cz, ac, cc, at_, ct, av, cv, ar, cr, ao, co⟩ c) 30))
    have HW := Lib.hid (HK.out.allocW (.cells (cfgC ⟨az, cz, ac, cc, at_, ct, av, cv, ar, cr, ao, co⟩ c) 30))
    have hBx := Blk.new w 30 (cfgC ⟨az, cz, ac, cc, at_, ct, av, cv, ar, cr, ao, co⟩ c)
    have hg := hBx.lt
    have d0 := hBx.cell' (i := 0) (v := .int .i64 c.regions) rfl
    have d1 := hBx.cell' (i := 1) (v := .slice az c.zones.length cz) rfl
    have d2 := hBx.cell' (i := 2) (v := .slice ac c.cells.length cc) rfl
    have d3 := hBx.cell' (i := 3) (v := .slice at_ c.tenants.length ct) rfl
    have d4 := hBx.cell' (i := 4) (v := .slice av c.versions.length cv) rfl
    have d5 := hBx.cell' (i := 5) (v := .slice ar c.replicas.length cr) rfl
    have d6 := hBx.cell' (i := 6) (v := .slice ao c.observers.length co) rfl
    have d7 := hBx.cell' (i := 7) (v := .int .i64 c.blast) rfl
    have d8 := hBx.cell' (i := 8) (v := .int .i64 c.lease) rfl
    have d9 := hBx.cell' (i := 9) (v := .int .i64 c.bake) rfl
    clear hBx
    unfold cfgC at HL HW d0 d1 d2 d3 d4 d5 d6 d7 d8 d9 hg
    simp only at HL HW d0 d1 d2 d3 d4 d5 d6 d7 d8 d9 hg
    unfold cfgC
    simp only
    clear hm ht HK
    rcases hd with hd | ⟨hd1, hd2, hd3⟩
    all_goals
      go_enter Try.func65, Try.ntmps65
      go_wp2_with fail
      generalize w.alloc _ = W at *
      have hx : ∀ (y : Later W.heap.size W) b o, b < W.heap.size → y.world.cell? ⟨b, o, none⟩ = W.cell? ⟨b, o, none⟩ := fun y b o h => y.cell h
      refine wp_region_below W.heap.size (by kernel_rfl) (by kernel_rfl) ?_
      repeat (first | go_big_quiet_step (fail) | quiet_step (fail))
      refine wpQuiet_nil ?_
      rintro w' ⟨y, rfl⟩
      have HY := Lib.hid (HL.out.trans (y.below.mono (Nat.le_of_lt hg)))
      clear hx d0 d1 d2 d3 d4 d5 d6 d7 d8 d9 hg
      go_wp2
      go_ret
      exact ⟨ret_bool HM.out.symm, HY.out⟩

/-- The cells below k of which p holds. -/
def pickK (p : Nat → Bool) (k : Nat) : List Int := ((List.range k).filter p).map Int.ofNat
theorem pickK_succ (p : Nat → Bool) (k : Nat) : pickK p (k + 1) = if p k then pickK p k ++ [(k : Int)] else pickK p k := by
  unfold pickK
  rw [List.range_succ, List.filter_append, List.map_append]
  by_cases h : p k <;> simp [h]
theorem pickK_len (p : Nat → Bool) (k : Nat) : (pickK p k).length ≤ k := by
  unfold pickK
  rw [List.length_map]
  exact Nat.le_trans (List.length_filter_le _ _) (by simp)
theorem pickK_mem {p : Nat → Bool} {k : Nat} {z : Int} (h : z ∈ pickK p k) : ∃ n : Nat, z = n ∧ n < k ∧ p n = true := by
  unfold pickK at h
  obtain ⟨n, hn, rfl⟩ := List.mem_map.1 h
  obtain ⟨h1, h2⟩ := List.mem_filter.1 hn
  exact ⟨n, rfl, List.mem_range.1 h1, h2⟩
theorem r5intInfo : (Try.prog.info? 3).map (fun i => (i.zero, i.size, i.bytes)) = some (some (.int .i64 0), 1, 8) := by kernel_rfl
theorem flat_snoc5 {α : Type} (enc : α → List Value) (l : List α) (a : α) : flat enc l ++ enc a = flat enc (l ++ [a]) := by simp [flat]

theorem own_base {w : World} {base base' : Nat} {e : TypeId} {size : Nat} {v : Value} {n : Nat} {xs : List Value} (h : w.ownsRow base e size v n xs) (hb : base' ≤ base) : w.ownsRow base' e size v n xs := by
  refine ⟨h.1, h.2.imp id ?_⟩
  rintro ⟨g, cap, cur, rfl, hg, rest⟩
  exact ⟨g, cap, cur, rfl, Nat.le_trans hb hg, rest⟩
/-- A list of numbers in new memory. -/
def IntsPost (w : World) (l : List Int) (e : Ending) (w' : World) : Prop :=
  ∃ (A : Option Addr) (cp : Nat), e = .returned (.slice A l.length cp) ∧ w'.ownsRow w.heap.size 3 1 (.slice A l.length cp) l.length (flat intC l) ∧ Below w.heap.size w w'

def r5HomesRel (W : World) (p : Nat → Bool) (N gk : Nat) (so si : Value) (wr : World) : Prop :=
  ∃ (k : Nat) (A : Option Addr) (cp : Nat), gk + k = N ∧ si = .int .i64 k ∧ so = .slice A (pickK p k).length cp ∧ wr.ownsRow W.heap.size 3 1 (.slice A (pickK p k).length cp) (pickK p k).length (flat intC (pickK p k)) ∧ Below W.heap.size W wr
set_option maxHeartbeats 2000000 in
theorem r5Homes_any (x : CfgA) (c : Cfg) (t : Int) (w : World) (hV : CfgV c) (hok : CfgOk w (· < w.heap.size) x c) :
    Calls Try.prog 35 #[.agg (cfgC x c), .int .i64 t] w (IntsPost w (pickK (fun (n : Nat) => mayB c t n) c.cells.length)) := by
  obtain ⟨az, cz, ac, cc, at_, ct, av, cv, ar, cr, ao, co⟩ := x
  obtain ⟨ii, hii, hi0, hi1, hi2⟩ := info_parts r5intInfo
  have HV := Lib.hid hV
  have HK := Lib.hid hok
  have hnc := hV.nc
  have HL := Lib.hid ((Below.refl w.heap.size w).alloc (Nat.le_refl _) (.cells (cfgC ⟨az, cz, ac, cc, at_, ct, av, cv, ar, cr, ao, co⟩ c) 30))
  have HW := Lib.hid (HK.out.allocW (.cells (cfgC ⟨az, cz, ac, cc, at_, ct, av, cv, ar, cr, ao, co⟩ c) 30))
  have hBx := Blk.new w 30 (cfgC ⟨az, cz, ac, cc, at_, ct, av, cv, ar, cr, ao, co⟩ c)
  have hg := hBx.lt
  have d0 := hBx.cell' (i := 0) (v := .int .i64 c.regions) rfl
  have d1 := hBx.cell' (i := 1) (v := .slice az c.zones.length cz) rfl
  have d2 := hBx.cell' (i := 2) (v := .slice ac c.cells.length cc) rfl
  have d3 := hBx.cell' (i := 3) (v := .slice at_ c.tenants.length ct) rfl
  have d4 := hBx.cell' (i := 4) (v := .slice av c.versions.length cv) rfl
  have d5 := hBx.cell' (i := 5) (v := .slice ar c.replicas.length cr) rfl
  have d6 := hBx.cell' (i := 6) (v := .slice ao c.observers.length co) rfl
  have d7 := hBx.cell' (i := 7) (v := .int .i64 c.blast) rfl
  have d8 := hBx.cell' (i := 8) (v := .int .i64 c.lease) rfl
  have d9 := hBx.cell' (i := 9) (v := .int .i64 c.bake) rfl
  clear hBx
  unfold cfgC at HL HW d0 d1 d2 d3 d4 d5 d6 d7 d8 d9 hg
  simp only at HL HW d0 d1 d2 d3 d4 d5 d6 d7 d8 d9 hg
  clear hok hV HK
  obtain ⟨pd, hpd⟩ : ∃ pd : Nat → Bool, pd = fun (n : Nat) => mayB c t n := ⟨_, rfl⟩
  have HP := Lib.hid hpd
  rw [← hpd]
  clear hpd
  unfold cfgC
  simp only
  go_enter Try.func35, Try.ntmps35
  go_wp2_with fail
  generalize w.alloc _ = W at *
  go_loopg [5, 6] c.cells.length (fun gk so si wr => r5HomesRel W pd c.cells.length gk so si wr)
  case atStart => exact ⟨0, none, 0, rfl, rfl, rfl, World.ownsRow_nil _ _ _ _, Below.refl _ _⟩
  case round =>
    rename_i J K aJ aK
    obtain ⟨k, A, cp, hgk, rfl, rfl, hown, hbel⟩ := hrel
    have HO := Lib.hid hown
    have HB := Lib.hid hbel
    have hsz := hbel.size
    have hlen := pickK_len pd k
    obtain ⟨hc, hf⟩ := bcell hbel
    clear hown hbel hf
    by_cases hk : k < c.cells.length
    · have hlt : (k : Int) < (c.cells.length : Int) := by omega
      have hsucc := pickK_succ pd k
      have HS := Lib.hid hsucc
      clear hsucc
      go_wp2_with fail
      refine (r5May_any ⟨az, cz, ac, cc, at_, ct, av, cv, ar, cr, ao, co⟩ c t k wr HV.out (HW.out.belowW HB.out)).mono ?_
      rintro e wz ⟨rfl, hb1⟩
      have HB1 := Lib.hid (HB.out.trans (hb1.mono hsz))
      have HO1 := Lib.hid (own_below HO.out hb1 fun j hj => (HO.out.lt j hj).2)
      clear hb1
      by_cases hp : pd k = true
      · have hp2 : mayB c t k = true := by rw [HP.out] at hp; exact hp
        clear hc
        go_wp2_with (at_builtin; refine wpList_append_lies _ rfl _ _ _ rfl W.heap.size 3 ii _ 1 8 Try.underlying22 hii hi0 hi1 hi2 rfl (by omega) _ (pickK pd k).length (flat intC (pickK pd k)) rfl (HO1.out.alloc _) ⟨wz.heap.size, 0, none⟩ 1 1 [.int .i64 k] rfl rfl ?c1 ?c2 ?c0 ?c3 ?c4 ?c5 (wz.heap.size + 1) ?c6 ?_)
        case c1 => exact World.news_of_block (cs := #[.int .i64 k]) (heap_alloc_new _ _)
        case c2 => simp [Value.oneCell']
        case c0 => omega
        case c3 => unfold maxLen; omega
        case c4 => omega
        case c5 => have := HB1.out.size; simp; omega
        case c6 => simp
        intro gg cq w9 hown9 hg9 hat9 hlt9
        have HB9 := Lib.hid ((HB1.out.alloc HB1.out.size _).grown hg9 (by have := HB1.out.size; simp; omega) (fun j hj => (HO1.out.lt j hj).1))
        have HX : Hid (w9.ownsRow W.heap.size 3 1 (.slice (some ⟨gg, 0, none⟩) (pickK pd (k + 1)).length cq) (pickK pd (k + 1)).length (flat intC (pickK pd (k + 1)))) := by
          refine Lib.hid ?_; rw [HS.out, if_pos hp, ← flat_snoc5, List.length_append]; exact hown9
        have hl9 : (pickK pd (k + 1)).length = (pickK pd k).length + 1 := by rw [HS.out, if_pos hp, List.length_append]; rfl
        have HL9 := Lib.hid hl9
        clear hown9 hg9 hat9 hlt9 HO1 HB1 HO HB hl9
        go_wp2
        go_roundg (gk - 1)
        case measure => omega
        case rel => exact ⟨k + 1, some ⟨gg, 0, none⟩, cq, by omega, by go_num, by rw [HL9.out], HX.out, HB9.out⟩
      · have hp : pd k = false := by simpa using hp
        have hp2 : mayB c t k = false := by rw [HP.out] at hp; exact hp
        clear hc
        have HX : Hid (wz.ownsRow W.heap.size 3 1 (.slice A (pickK pd (k + 1)).length cp) (pickK pd (k + 1)).length (flat intC (pickK pd (k + 1)))) := by
          refine Lib.hid ?_; rw [HS.out, if_neg (by simp [hp])]; exact HO1.out
        have hl9 : (pickK pd (k + 1)).length = (pickK pd k).length := by rw [HS.out, if_neg (by simp [hp])]
        have HL9 := Lib.hid hl9
        clear HO HB hl9
        go_wp2
        go_roundg (gk - 1)
        case measure => omega
        case rel => exact ⟨k + 1, A, cp, by omega, by go_num, by rw [HL9.out], HX.out, HB1.out⟩
    · have hge : ¬ (k : Int) < (c.cells.length : Int) := by omega
      obtain rfl : k = c.cells.length := by omega
      go_wp2
      go_ret
      exact ⟨A, cp, rfl, own_base HO.out (Nat.le_of_lt hg), HL.out.trans (HB.out.mono (Nat.le_of_lt hg))⟩
def r5StandbysRel (W : World) (p : Nat → Bool) (N gk : Nat) (so si : Value) (wr : World) : Prop :=
  ∃ (k : Nat) (A : Option Addr) (cp : Nat), gk + k = N ∧ si = .int .i64 k ∧ so = .slice A (pickK p k).length cp ∧ wr.ownsRow W.heap.size 3 1 (.slice A (pickK p k).length cp) (pickK p k).length (flat intC (pickK p k)) ∧ Below W.heap.size W wr
set_option maxHeartbeats 2000000 in
theorem r5Standbys_any (x : CfgA) (c : Cfg) (t h : Int) (w : World) (hV : CfgV c) (hok : CfgOk w (· < w.heap.size) x c) :
    Calls Try.prog 36 #[.agg (cfgC x c), .int .i64 t, .int .i64 h] w (IntsPost w (pickK (fun (n : Nat) => (mayB c t n && apartB c h n)) c.cells.length)) := by
  obtain ⟨az, cz, ac, cc, at_, ct, av, cv, ar, cr, ao, co⟩ := x
  obtain ⟨ii, hii, hi0, hi1, hi2⟩ := info_parts r5intInfo
  have HV := Lib.hid hV
  have HK := Lib.hid hok
  have hnc := hV.nc
  have HL := Lib.hid ((Below.refl w.heap.size w).alloc (Nat.le_refl _) (.cells (cfgC ⟨az, cz, ac, cc, at_, ct, av, cv, ar, cr, ao, co⟩ c) 30))
  have HW := Lib.hid (HK.out.allocW (.cells (cfgC ⟨az, cz, ac, cc, at_, ct, av, cv, ar, cr, ao, co⟩ c) 30))
  have hBx := Blk.new w 30 (cfgC ⟨az, cz, ac, cc, at_, ct, av, cv, ar, cr, ao, co⟩ c)
  have hg := hBx.lt
  have d0 := hBx.cell' (i := 0) (v := .int .i64 c.regions) rfl
  have d1 := hBx.cell' (i := 1) (v := .slice az c.zones.length cz) rfl
  have d2 := hBx.cell' (i := 2) (v := .slice ac c.cells.length cc) rfl
  have d3 := hBx.cell' (i := 3) (v := .slice at_ c.tenants.length ct) rfl
  have d4 := hBx.cell' (i := 4) (v := .slice av c.versions.length cv) rfl
  have d5 := hBx.cell' (i := 5) (v := .slice ar c.replicas.length cr) rfl
  have d6 := hBx.cell' (i := 6) (v := .slice ao c.observers.length co) rfl
  have d7 := hBx.cell' (i := 7) (v := .int .i64 c.blast) rfl
  have d8 := hBx.cell' (i := 8) (v := .int .i64 c.lease) rfl
  have d9 := hBx.cell' (i := 9) (v := .int .i64 c.bake) rfl
  clear hBx
  unfold cfgC at HL HW d0 d1 d2 d3 d4 d5 d6 d7 d8 d9 hg
  simp only at HL HW d0 d1 d2 d3 d4 d5 d6 d7 d8 d9 hg
  clear hok hV HK
  obtain ⟨pd, hpd⟩ : ∃ pd : Nat → Bool, pd = fun (n : Nat) => (mayB c t n && apartB c h n) := ⟨_, rfl⟩
  have HP := Lib.hid hpd
  rw [← hpd]
  clear hpd
  unfold cfgC
  simp only
  go_enter Try.func36, Try.ntmps36
  go_wp2_with fail
  generalize w.alloc _ = W at *
  go_loopg [7, 8] c.cells.length (fun gk so si wr => r5StandbysRel W pd c.cells.length gk so si wr)
  case atStart => exact ⟨0, none, 0, rfl, rfl, rfl, World.ownsRow_nil _ _ _ _, Below.refl _ _⟩
  case round =>
    rename_i J K aJ aK
    obtain ⟨k, A, cp, hgk, rfl, rfl, hown, hbel⟩ := hrel
    have HO := Lib.hid hown
    have HB := Lib.hid hbel
    have hsz := hbel.size
    have hlen := pickK_len pd k
    obtain ⟨hc, hf⟩ := bcell hbel
    clear hown hbel hf
    by_cases hk : k < c.cells.length
    · have hlt : (k : Int) < (c.cells.length : Int) := by omega
      have hsucc := pickK_succ pd k
      have HS := Lib.hid hsucc
      clear hsucc
      go_wp2_with fail
      refine (r5May_any ⟨az, cz, ac, cc, at_, ct, av, cv, ar, cr, ao, co⟩ c t k wr HV.out (HW.out.belowW HB.out)).mono ?_
      rintro e wy ⟨rfl, hb0⟩
      have HB0 := Lib.hid (HB.out.trans (hb0.mono hsz))
      have HO0 := Lib.hid (own_below HO.out hb0 fun j hj => (HO.out.lt j hj).2)
      obtain ⟨hc0, hf0⟩ := bcell HB0.out
      clear hb0 hf0 hc
      by_cases hm : mayB c t k = true
      · go_wp2_with fail
        refine (r5Apart_any ⟨az, cz, ac, cc, at_, ct, av, cv, ar, cr, ao, co⟩ c h k wy HV.out (HW.out.belowW HB0.out)).mono ?_
        rintro e wz ⟨rfl, hb1⟩
        have HB1 := Lib.hid (HB0.out.trans (hb1.mono HB0.out.size))
        have HO1 := Lib.hid (own_below HO0.out hb1 fun j hj => (HO0.out.lt j hj).2)
        clear hb1 HB0 HO0
        have hc : True := trivial
        clear hc0
        by_cases hp : pd k = true
        · have hp2 : apartB c h k = true := by rw [HP.out] at hp; simp [hm] at hp; exact hp
          clear hc
          go_wp2_with (at_builtin; refine wpList_append_lies _ rfl _ _ _ rfl W.heap.size 3 ii _ 1 8 Try.underlying22 hii hi0 hi1 hi2 rfl (by omega) _ (pickK pd k).length (flat intC (pickK pd k)) rfl (HO1.out.alloc _) ⟨wz.heap.size, 0, none⟩ 1 1 [.int .i64 k] rfl rfl ?c1 ?c2 ?c0 ?c3 ?c4 ?c5 (wz.heap.size + 1) ?c6 ?_)
          case c1 => exact World.news_of_block (cs := #[.int .i64 k]) (heap_alloc_new _ _)
          case c2 => simp [Value.oneCell']
          case c0 => omega
          case c3 => unfold maxLen; omega
          case c4 => omega
          case c5 => have := HB1.out.size; simp; omega
          case c6 => simp
          intro gg cq w9 hown9 hg9 hat9 hlt9
          have HB9 := Lib.hid ((HB1.out.alloc HB1.out.size _).grown hg9 (by have := HB1.out.size; simp; omega) (fun j hj => (HO1.out.lt j hj).1))
          have HX : Hid (w9.ownsRow W.heap.size 3 1 (.slice (some ⟨gg, 0, none⟩) (pickK pd (k + 1)).length cq) (pickK pd (k + 1)).length (flat intC (pickK pd (k + 1)))) := by
            refine Lib.hid ?_; rw [HS.out, if_pos hp, ← flat_snoc5, List.length_append]; exact hown9
          have hl9 : (pickK pd (k + 1)).length = (pickK pd k).length + 1 := by rw [HS.out, if_pos hp, List.length_append]; rfl
          have HL9 := Lib.hid hl9
          clear hown9 hg9 hat9 hlt9 HO1 HB1 HO HB hl9
          go_wp2
          go_roundg (gk - 1)
          case measure => omega
          case rel => exact ⟨k + 1, some ⟨gg, 0, none⟩, cq, by omega, by go_num, by rw [HL9.out], HX.out, HB9.out⟩
        · have hp : pd k = false := by simpa using hp
          have hp2 : apartB c h k = false := by rw [HP.out] at hp; simp [hm] at hp; exact hp
          clear hc
          have HX : Hid (wz.ownsRow W.heap.size 3 1 (.slice A (pickK pd (k + 1)).length cp) (pickK pd (k + 1)).length (flat intC (pickK pd (k + 1)))) := by
            refine Lib.hid ?_; rw [HS.out, if_neg (by simp [hp])]; exact HO1.out
          have hl9 : (pickK pd (k + 1)).length = (pickK pd k).length := by rw [HS.out, if_neg (by simp [hp])]
          have HL9 := Lib.hid hl9
          clear HO HB hl9
          go_wp2
          go_roundg (gk - 1)
          case measure => omega
          case rel => exact ⟨k + 1, A, cp, by omega, by go_num, by rw [HL9.out], HX.out, HB1.out⟩
      · have hm : mayB c t k = false := by simpa using hm
        have hp : pd k = false := by rw [HP.out]; simp [hm]
        have HB1 := HB0
        have HO1 := HO0
        obtain ⟨wz, rfl⟩ : ∃ wz, wz = wy := ⟨_, rfl⟩
        clear HB0 HO0
        have hc : True := trivial
        clear hc0
        clear hc
        have HX : Hid (wz.ownsRow W.heap.size 3 1 (.slice A (pickK pd (k + 1)).length cp) (pickK pd (k + 1)).length (flat intC (pickK pd (k + 1)))) := by
          refine Lib.hid ?_; rw [HS.out, if_neg (by simp [hp])]; exact HO1.out
        have hl9 : (pickK pd (k + 1)).length = (pickK pd k).length := by rw [HS.out, if_neg (by simp [hp])]
        have HL9 := Lib.hid hl9
        clear HO HB hl9
        go_wp2
        go_roundg (gk - 1)
        case measure => omega
        case rel => exact ⟨k + 1, A, cp, by omega, by go_num, by rw [HL9.out], HX.out, HB1.out⟩
    · have hge : ¬ (k : Int) < (c.cells.length : Int) := by omega
      obtain rfl : k = c.cells.length := by omega
      go_wp2
      go_ret
      exact ⟨A, cp, rfl, own_base HO.out (Nat.le_of_lt hg), HL.out.trans (HB.out.mono (Nat.le_of_lt hg))⟩
end Go.Proofs.Ytjobcfpnmfjlfaa

namespace Go.Proofs.Ytjobcfpnmfjlfaa
open Go.RowKit
set_option linter.unusedSimpArgs false
set_option linter.unusedVariables false

set_option maxHeartbeats 1000000 in
theorem mkNone_any (kind tick : Int) (w : World) : Calls Try.prog 33 #[.int .i64 kind, .int .i64 tick] w fun r w' => r = .returned (.agg (entC ⟨kind, tick, -1, -1, -1, 0, 0, 0, 0⟩).toArray) ∧ Below w.heap.size w w' := by
  go_enter Try.func33, Try.ntmps33
  go_wp2
  refine bodyPost_ret (v := .agg #[.int .i64 kind, .int .i64 tick, .int .i64 (-1), .int .i64 (-1), .int .i64 (-1), .int .i64 0, .int .i64 0, .int .i64 0, .int .i64 0]) (by simp [results, Try.results33, go_sem]) rfl ?_
  exact ⟨rfl, (Below.refl _ _).alloc (Nat.le_refl _) _⟩

set_option maxHeartbeats 1000000 in
theorem mkLight_any (A : Option Addr) (n cp : Nat) (w : World) (hn : n ≤ maxLen) : Calls Try.prog 9 #[.slice A n cp] w fun r w' => r = .returned (.bool (decide (n ≤ 200))) ∧ w = w' := by
  unfold maxLen at hn
  go_enter Try.func9, Try.ntmps9
  go_wp2
  go_ret
  refine ⟨ret_bool ?_, rfl⟩
  rw [Bool.eq_iff_iff]
  simp
  try omega
end Go.Proofs.Ytjobcfpnmfjlfaa

namespace Go.Proofs.Ytjobcfpnmfjlfaa
open Go.RowKit
set_option linter.unusedSimpArgs false
set_option linter.unusedVariables false

/-! state.New -/
def CN1 : CN := ⟨0, 1, 2, 3, 4, 5, 3⟩
def newD : List (Nat × DQ) := [
  (1, { k := 10, L := [6], g := some (.fix 0 (.fix 1 (.fix 2 (.fix 4 (.fix 5 (.fix 6 (.three
    3 (.two 7 (.fix 8 (.act 9 .fin)) 9 (.act 7 (.fix 8 .fin)))
    7 (.two 3 (.fix 8 (.act 9 .fin)) 9 (.act 3 (.fix 8 .fin)))
    9 (.two 3 (.act 7 (.fix 8 .fin)) 7 (.act 3 (.fix 8 .fin)))))))))) }),
  (4000002, { k := 11, L := [6, 7], sl := [1, 2] }),
  (2000003, { k := 0, L := [7, 9, 10], sl := [2, 3, 17] }),
  (2000008, { k := 0, L := [7, 8, 10], sl := [2, 3, 30] })]
abbrev tsZ : List Value := [zb, zb, zi, zi, zi, zi, zi, zi, zi, zi, zi, zi]
abbrev csZ : List Value := [zi, zi, zi, zi]
abbrev tsB (n : Nat) (el : Nat → List Value) : ABlk := .row (1000000 + 50) 12 n el
abbrev csB (n : Nat) (el : Nat → List Value) : ABlk := .row (1000000 + 67) 4 n el
abbrev newV (n m : Nat) : List Value := [zi, zi, slc 8 n n, slc 9 m m, .int .i64 1, zi, zi, zi]
def NewR (n m : Nat) (v : Value) (mem' : AM) : Prop := v = .agg (newV n m).toArray ∧ (∃ el, lk mem' 8 = some (tsB n el) ∧ ∀ k, k < n → el k = tsC tsNew) ∧ ∃ el, lk mem' 9 = some (csB m el) ∧ ∀ k, k < m → el k = csC csNew
set_option maxRecDepth 100000 in
set_option maxHeartbeats 4000000 in
theorem new_sx (x : CfgK) (c : Cfg) (hnt : c.tenants.length ≤ 1000) (hnc : c.cells.length ≤ 1000) :
    sx tt [] newD (bodyOf Try.f13) (argF 0 [cfgV CN1 x c]) (cfgM CN1 c) 6
      (endx tt Try.f13.results.toList fun v mem' _ => NewR c.tenants.length c.cells.length v mem') := by
  refine ⟨Unit, fun _ => [(3, ptr 10)], fun _ => [(8, tsB c.tenants.length fun _ => tsZ), (9, csB c.cells.length fun _ => csZ), (10, .box 36 (newV c.tenants.length c.cells.length))], fun _ => True, ?_, ?_⟩
  · refine ⟨?_, ?_, ?_⟩
    · refine ⟨⟨rfl, by omega, by show _ * (88 : Int) ≤ _; omega⟩, ⟨rfl, trivial⟩, ?_⟩
      refine ⟨?_, ?_⟩
      · refine ⟨⟨rfl, by omega, by show _ * (32 : Int) ≤ _; omega⟩, ⟨rfl, trivial⟩, ?_⟩
        refine ⟨⟨rfl, trivial⟩, ?_⟩
        exact ⟨(), [], trivial, ⟨rfl, rfl⟩, ⟨rfl, rfl, rfl, trivial⟩, ⟨rfl, rfl, rfl, rfl, rfl, trivial⟩⟩
      · refine ⟨⟨rfl, trivial⟩, ?_⟩
        refine ⟨⟨rfl, by omega, by show _ * (32 : Int) ≤ _; omega⟩, ⟨rfl, trivial⟩, ?_⟩
        exact ⟨(), [(9, 10), (10, 9)], trivial, ⟨rfl, rfl⟩, ⟨rfl, rfl, rfl, trivial⟩, ⟨rfl, rfl, rfl, rfl, rfl, trivial⟩⟩
    · refine ⟨⟨rfl, by omega, by show _ * (32 : Int) ≤ _; omega⟩, ⟨rfl, trivial⟩, ?_⟩
      refine ⟨?_, ?_⟩
      · refine ⟨⟨rfl, by omega, by show _ * (88 : Int) ≤ _; omega⟩, ⟨rfl, trivial⟩, ?_⟩
        refine ⟨⟨rfl, trivial⟩, ?_⟩
        exact ⟨(), [(8, 9), (9, 8)], trivial, ⟨rfl, rfl⟩, ⟨rfl, rfl, rfl, trivial⟩, ⟨rfl, rfl, rfl, rfl, rfl, trivial⟩⟩
      · refine ⟨⟨rfl, trivial⟩, ?_⟩
        refine ⟨⟨rfl, by omega, by show _ * (88 : Int) ≤ _; omega⟩, ⟨rfl, trivial⟩, ?_⟩
        exact ⟨(), [(8, 10), (9, 8), (10, 9)], trivial, ⟨rfl, rfl⟩, ⟨rfl, rfl, rfl, trivial⟩, ⟨rfl, rfl, rfl, rfl, rfl, trivial⟩⟩
    · refine ⟨⟨rfl, trivial⟩, ?_⟩
      refine ⟨?_, ?_⟩
      · refine ⟨⟨rfl, by omega, by show _ * (88 : Int) ≤ _; omega⟩, ⟨rfl, trivial⟩, ?_⟩
        refine ⟨⟨rfl, by omega, by show _ * (32 : Int) ≤ _; omega⟩, ⟨rfl, trivial⟩, ?_⟩
        exact ⟨(), [(8, 9), (9, 10), (10, 8)], trivial, ⟨rfl, rfl⟩, ⟨rfl, rfl, rfl, trivial⟩, ⟨rfl, rfl, rfl, rfl, rfl, trivial⟩⟩
      · refine ⟨⟨rfl, by omega, by show _ * (32 : Int) ≤ _; omega⟩, ⟨rfl, trivial⟩, ?_⟩
        refine ⟨⟨rfl, by omega, by show _ * (88 : Int) ≤ _; omega⟩, ⟨rfl, trivial⟩, ?_⟩
        exact ⟨(), [(8, 10), (10, 8)], trivial, ⟨rfl, rfl⟩, ⟨rfl, rfl, rfl, trivial⟩, ⟨rfl, rfl, rfl, rfl, rfl, trivial⟩⟩
  · rintro ⟨⟩ -
    refine ⟨⟨by decide, rfl, rfl⟩, ?_⟩
    refine ⟨Int × (Nat → List Value), fun y => match y with | (i, el) => [(18, .int .i64 i)], fun y => match y with | (i, el) => [(8, tsB c.tenants.length el)], fun y => (0 ≤ y.1 ∧ y.1 ≤ (c.tenants.length : Int)) ∧ ∀ k : Nat, k < c.tenants.length → y.2 k = if (k : Int) < y.1 then tsC tsNew else tsZ, fun y => ((c.tenants.length : Int) - y.1).toNat, ⟨(0, fun _ => tsZ), ⟨⟨by dsimp only; omega, by dsimp only; omega⟩, ?_⟩, ⟨rfl, rfl, rfl, rfl, trivial⟩, ⟨rfl, rfl, rfl, rfl, trivial⟩⟩, ?_⟩
    · intro k hk
      dsimp only
      rw [if_neg (by omega)]
    · rintro ⟨i, el⟩ ⟨hi, hel⟩
      dsimp only at hi hel
      refine ⟨⟨rfl, rfl⟩, ?_⟩
      refine ⟨fun hlt => ?_, fun hge => ?_⟩
      · have hlt2 : i < (c.tenants.length : Int) := of_decide_eq_true hlt
        have hz : el i.toNat = tsZ := by rw [hel i.toNat (by omega), if_neg (by omega)]
        refine ⟨⟨Nat.le_refl _, hi.1, hlt2⟩, ?_⟩
        refine ⟨tsC tsNew, by rw [hz]; rfl, ?_⟩
        refine ⟨(_, _), ?_, ⟨rfl, rfl, rfl, rfl, trivial⟩, ⟨rfl, rfl, rfl, rfl, trivial⟩⟩
        dsimp only
        rw [wrapi (by omega)]
        refine ⟨⟨⟨by omega, by omega⟩, fun k hk => ?_⟩, by omega⟩
        unfold setEl
        by_cases hk2 : k = i.toNat
        · subst hk2
          rw [Nat.beq_refl, if_pos (by omega)]
        · have hb : Nat.beq k i.toNat = false := by
            cases hb : Nat.beq k i.toNat
            · rfl
            · exact absurd (Nat.eq_of_beq_eq_true hb) hk2
          rw [hb]
          show el k = _
          rw [hel k hk]
          by_cases hki : (k : Int) < i
          · rw [if_pos hki, if_pos (by omega)]
          · rw [if_neg hki, if_neg (by omega)]
      · have hge2 : ¬ i < (c.tenants.length : Int) := of_decide_eq_false hge
        have hT : ∀ k, k < c.tenants.length → el k = tsC tsNew := fun k hk => by rw [hel k hk, if_pos (by omega)]
        refine ⟨Int × (Nat → List Value), fun y => match y with | (i, el) => [(31, .int .i64 i)], fun y => match y with | (i, el) => [(9, csB c.cells.length el)], fun y => (0 ≤ y.1 ∧ y.1 ≤ (c.cells.length : Int)) ∧ ∀ k : Nat, k < c.cells.length → y.2 k = if (k : Int) < y.1 then csC csNew else csZ, fun y => ((c.cells.length : Int) - y.1).toNat, ⟨(0, fun _ => csZ), ⟨⟨by dsimp only; omega, by dsimp only; omega⟩, ?_⟩, ⟨rfl, rfl, rfl, rfl, trivial⟩, ⟨rfl, rfl, rfl, rfl, trivial⟩⟩, ?_⟩
        · intro k hk
          dsimp only
          rw [if_neg (by omega)]
        · rintro ⟨i, el⟩ ⟨hi, hel⟩
          dsimp only at hi hel
          refine ⟨⟨rfl, rfl⟩, ?_⟩
          refine ⟨fun hlt => ?_, fun hge => ?_⟩
          · have hlt2 : i < (c.cells.length : Int) := of_decide_eq_true hlt
            have hz : el i.toNat = csZ := by rw [hel i.toNat (by omega), if_neg (by omega)]
            refine ⟨⟨Nat.le_refl _, hi.1, hlt2⟩, ?_⟩
            refine ⟨csC csNew, by rw [hz]; rfl, ?_⟩
            refine ⟨(_, _), ?_, ⟨rfl, rfl, rfl, rfl, trivial⟩, ⟨rfl, rfl, rfl, rfl, trivial⟩⟩
            dsimp only
            rw [wrapi (by omega)]
            refine ⟨⟨⟨by omega, by omega⟩, fun k hk => ?_⟩, by omega⟩
            unfold setEl
            by_cases hk2 : k = i.toNat
            · subst hk2
              rw [Nat.beq_refl, if_pos (by omega)]
            · have hb : Nat.beq k i.toNat = false := by
                cases hb : Nat.beq k i.toNat
                · rfl
                · exact absurd (Nat.eq_of_beq_eq_true hb) hk2
              rw [hb]
              show el k = _
              rw [hel k hk]
              by_cases hki : (k : Int) < i
              · rw [if_pos hki, if_pos (by omega)]
              · rw [if_neg hki, if_neg (by omega)]
          · have hge2 : ¬ i < (c.cells.length : Int) := of_decide_eq_false hge
            have hC : ∀ k, k < c.cells.length → el k = csC csNew := fun k hk => by rw [hel k hk, if_pos (by omega)]
            exact ⟨rfl, ⟨_, rfl, hT⟩, ⟨_, rfl, hC⟩⟩
end Go.Proofs.Ytjobcfpnmfjlfaa

namespace Go.Proofs.Ytjobcfpnmfjlfaa
open Go.RowKit
set_option linter.unusedSimpArgs false
set_option linter.unusedVariables false

/-! Functions that read a configuration and states and give a value. -/
abbrev SN1 : SN := ⟨6, 7, 3⟩
abbrev SN2 : SN := ⟨8, 9, 3⟩
def rpl (x : CfgA) (c : Cfg) (y : StA) (s : St) (y2 : StA) (s2 : St) : Nat → Pl := fun j => match j with
  | 0 => ⟨x.az, 1, c.zones.length, false⟩
  | 1 => ⟨x.ac, 2, c.cells.length, false⟩
  | 2 => ⟨x.at_, 7, c.tenants.length, false⟩
  | 3 => ⟨x.av, 2, c.versions.length, false⟩
  | 4 => ⟨x.ar, 1, c.replicas.length, false⟩
  | 5 => ⟨x.ao, 1, c.observers.length, false⟩
  | 6 => ⟨y.at_, 12, s.tenants.length, false⟩
  | 7 => ⟨y.ac, 4, s.cells.length, false⟩
  | 8 => ⟨y2.at_, 12, s2.tenants.length, false⟩
  | _ => ⟨y2.ac, 4, s2.cells.length, false⟩
abbrev rdM (c : Cfg) (s s2 : St) : AM := cfgM CN1 c ++ (stM SN1 s ++ stM SN2 s2)
abbrev ck (x : CfgA) : CfgK := ⟨x.cz, x.cc, x.ct, x.cv, x.cr, x.co⟩
abbrev sk (y : StA) : StK := ⟨y.ct, y.cc⟩
theorem rpl_cfg (x : CfgA) (c : Cfg) (y : StA) (s : St) (y2 : StA) (s2 : St) : den (rpl x c y s y2 s2) (cfgV CN1 (ck x) c) = .agg (cfgC x c) := by rw [den_cfg]; rfl
theorem rpl_st (x : CfgA) (c : Cfg) (y : StA) (s : St) (y2 : StA) (s2 : St) : den (rpl x c y s y2 s2) (stV SN1 (sk y) s) = .agg (stC y s) := by rw [den_st]; rfl
theorem rpl_st2 (x : CfgA) (c : Cfg) (y : StA) (s : St) (y2 : StA) (s2 : St) : den (rpl x c y s y2 s2) (stV SN2 (sk y2) s2) = .agg (stC y2 s2) := by rw [den_st]; rfl
theorem rpl_cfg_ok (x : CfgA) (c : Cfg) (y : StA) (s : St) (y2 : StA) (s2 : St) : okV (rpl x c y s y2 s2) 10 (cfgV CN1 (ck x) c) := by
  intro u hu
  simp at hu
  rcases hu with rfl | rfl | rfl | rfl | rfl | rfl | rfl | rfl | rfl | rfl <;> first | trivial | exact ⟨by decide, rfl⟩
theorem rpl_st_ok (x : CfgA) (c : Cfg) (y : StA) (s : St) (y2 : StA) (s2 : St) : okV (rpl x c y s y2 s2) 10 (stV SN1 (sk y) s) := by
  intro u hu
  simp at hu
  rcases hu with rfl | rfl | rfl | rfl | rfl | rfl | rfl | rfl <;> first | trivial | exact ⟨by decide, rfl⟩
theorem rpl_st2_ok (x : CfgA) (c : Cfg) (y : StA) (s : St) (y2 : StA) (s2 : St) : okV (rpl x c y s y2 s2) 10 (stV SN2 (sk y2) s2) := by
  intro u hu
  simp at hu
  rcases hu with rfl | rfl | rfl | rfl | rfl | rfl | rfl | rfl <;> first | trivial | exact ⟨by decide, rfl⟩
theorem rd_calls {f : FuncId} {fn : Func} {F : FT} {D : List (Nat × DQ)} (hF : FTok Try.prog F) (hf : (Try.prog).funcs[f]? = some fn) (hb : fn.body = some (bodyOf fn)) (hcode : codeB fn.ntmps D (bodyOf fn) = true) {vs : List Value} (hn : Nat.ble vs.length fn.ntmps = true)
    (x : CfgA) (c : Cfg) (y : StA) (s : St) (y2 : StA) (s2 : St) (w : World) (hc : CfgOk w (· < w.heap.size) x c) (hs : StOk w (· < w.heap.size) y s) (hs2 : StOk w (· < w.heap.size) y2 s2) (hv : ∀ v ∈ vs, okV (rpl x c y s y2 s2) 10 v) {R : Value → Prop}
    (h : sx tt F D (bodyOf fn) (argF 0 vs) (rdM c s s2) 10 (endx tt fn.results.toList fun v _ _ => R v ∧ pureV v)) :
    Calls Try.prog f (vs.map (den (rpl x c y s y2 s2))).toArray w fun e w' => ∃ v, R v ∧ pureV v ∧ e = .returned v ∧ Below w.heap.size w w' := by
  have hpc : CfgPl (rpl x c y s y2 s2) CN1 x c := ⟨rfl, rfl, rfl, rfl, rfl, rfl⟩
  have hps : StPl (rpl x c y s y2 s2) SN1 y s := ⟨rfl, rfl⟩
  have hps2 : StPl (rpl x c y s y2 s2) SN2 y2 s2 := ⟨rfl, rfl⟩
  have hm : MemAt { w0 := w, bor := [], n0 := 10, ρ0 := rpl x c y s y2 s2, nt := fn.ntmps } (rpl x c y s y2 s2) (rdM c s s2) 10 w := MemAt.rows trivial (cfg_blks hpc hc (fun b hb => hb) (by decide) (st_blks hps hs (fun b hb => hb) (by decide) (by
    have := st_blks (C := { w0 := w, bor := [], n0 := 10, ρ0 := rpl x c y s y2 s2, nt := fn.ntmps }) (nx := 10) (r := []) hps2 hs2 (fun b hb => hb) (by decide) trivial
    exact this)))
  refine (calls_sx ttOk hF mixed hf hb hcode (vs := vs) hn ⟨rfl, rfl⟩ rfl hm hv h).mono ?_
  rintro e w' ⟨v, mem', nx', ρ', rfl, ⟨hR, hp⟩, -, hm'⟩
  exact ⟨v, hR, hp, by rw [(pure_den hp ρ' 0).1], ⟨hm'.rest.os, hm'.rest.tape, hm'.rest.output, hm'.rest.size, fun b hlt => hm'.rest.block b hlt (by simp)⟩⟩

/-! What such a function is handed, in the abstract and in the world. -/
inductive DT where
  | li (d : List Int)
  | cf (d : Cfg)
  | st (d : St)
  | vl (u : Value)
inductive PA where
  | li (i cap : Nat) (d : List Int)
  | cf (N : CN) (x : CfgK) (d : Cfg)
  | st (M : SN) (y : StK) (d : St)
  | vl (u : Value)
inductive PW where
  | li (A : Option Addr) (cap : Nat) (d : List Int)
  | cf (x : CfgA) (d : Cfg)
  | st (y : StA) (d : St)
  | vl (u : Value)
def PA.val : PA → Value
  | .li i cap l => slc i l.length cap
  | .cf N x c => cfgV N x c
  | .st M y s => stV M y s
  | .vl u => u
def PA.dt : PA → DT
  | .li _ _ l => .li l
  | .cf _ _ c => .cf c
  | .st _ _ s => .st s
  | .vl u => .vl u
def PA.keep (mem : AM) : PA → Prop
  | .li i _ l => lk mem i = some (intRow l)
  | .cf N _ c => keeps mem (cfgM N c)
  | .st M _ s => keeps mem (stM M s)
  | .vl u => pureV u
def PW.val : PW → Value
  | .li A cap l => .slice A l.length cap
  | .cf x c => .agg (cfgC x c)
  | .st y s => .agg (stC y s)
  | .vl u => u
def PW.dt : PW → DT
  | .li _ _ l => .li l
  | .cf _ c => .cf c
  | .st _ s => .st s
  | .vl u => .vl u
def PW.ok (w : World) : PW → Prop
  | .li A _ l => Rd w (· < w.heap.size) A (flat intC l)
  | .cf x c => CfgOk w (· < w.heap.size) x c
  | .st y s => StOk w (· < w.heap.size) y s
  | .vl u => pureV u
def PA.to (ρ : Nat → Pl) : PA → PW
  | .li i cap l => .li (ρ i).A cap l
  | .cf N x c => .cf (cfgX ρ N x) c
  | .st M y s => .st (stX ρ M y) s
  | .vl u => .vl u
def allK (mem : AM) (l : List PA) : Prop := List.rec (motive := fun _ => Prop) True (fun a _ ih => a.keep mem ∧ ih) l
theorem allK_mem {mem : AM} : ∀ {l : List PA}, allK mem l → ∀ a ∈ l, a.keep mem
  | [], _, a, ha => by cases ha
  | b :: r, h, a, ha => (List.mem_cons.1 ha).elim (fun e => e ▸ h.1) (allK_mem (l := r) h.2 a)
def ctPts (R : List DT → Value → Prop) (pre : List DT → Prop) : CT := fun vs mem nx K => ∃ l : List PA, vs = l.map PA.val ∧ allK mem l ∧ pre (l.map PA.dt) ∧ ∀ z, R (l.map PA.dt) z → K z mem nx
theorem ptsOk {f : FuncId} {R : List DT → Value → Prop} {pre : List DT → Prop} (ent : ((Try.prog).funcs[f]?).map (fun fn => (fn.name == "runtime.NumGoroutine", fn.body.isNone)) = some (false, false))
    (h : ∀ (ps : List PW) (w : World), pre (ps.map PW.dt) → (∀ p ∈ ps, p.ok w) → Calls Try.prog f (ps.map PW.val).toArray w fun e w' => ∃ v, R (ps.map PW.dt) v ∧ pureV v ∧ e = .returned v ∧ Below w.heap.size w w') : CSound Try.prog f (ctPts R pre) :=
  ⟨ent, fun {C ρ fr mem nx a w vs K} hc hs hv => by
    obtain ⟨l, rfl, hk, hp, hK⟩ := hc
    have hk' := allK_mem hk
    have e1 : (l.map PA.val).map (den ρ) = (l.map (PA.to ρ)).map PW.val := by
      rw [List.map_map, List.map_map]
      refine List.map_congr_left fun p hp => ?_
      cases p with
      | li i cap l => rfl
      | cf N x c => exact den_cfg ρ N x c
      | st M y s => exact den_st ρ M y s
      | vl u => exact (pure_den (hk' _ hp) ρ 0).1
    have e2 : (l.map (PA.to ρ)).map PW.dt = l.map PA.dt := by
      rw [List.map_map]
      refine List.map_congr_left fun p hp => ?_
      cases p <;> rfl
    rw [e1]
    refine (h (l.map (PA.to ρ)) w (by rw [e2]; exact hp) (fun p hp => ?_)).mono ?_
    · obtain ⟨q, hq, rfl⟩ := List.mem_map.1 hp
      cases q with
      | li i cap l => exact hs.rd (enc := intC) (sz := 1) (fun _ => rfl) (by omega) (show lk mem i = some (intRow l) from hk' _ hq) (fun b h _ => h)
      | cf N x c => exact hs.cfg (hk' _ hq) (fun b h _ => h)
      | st M y s => exact hs.st (hk' _ hq) (fun b h _ => h)
      | vl u => exact hk' _ hq
    · rintro e w' ⟨v, hR, hpl, rfl, hb⟩
      rw [e2] at hR
      exact ⟨v, mem, nx, ρ, by rw [(pure_den hpl ρ 0).1], hK v hR, hs.later hb, (pure_den hpl ρ nx).2, ExtS.refl _ _⟩⟩
theorem dt_nil {ps : List PW} (h : ps.map PW.dt = []) : ps = [] := List.map_eq_nil_iff.1 h
theorem dt_l {ps : List PW} {l : List Int} {r : List DT} (h : ps.map PW.dt = .li l :: r) : ∃ A cap qs, ps = .li A cap l :: qs ∧ qs.map PW.dt = r := by
  cases ps with
  | nil => cases h
  | cons p qs => cases p <;> simp [PW.dt] at h <;> obtain ⟨rfl, h⟩ := h; exact ⟨_, _, qs, rfl, h⟩
theorem dt_c {ps : List PW} {c : Cfg} {r : List DT} (h : ps.map PW.dt = .cf c :: r) : ∃ x qs, ps = .cf x c :: qs ∧ qs.map PW.dt = r := by
  cases ps with
  | nil => cases h
  | cons p qs => cases p <;> simp [PW.dt] at h <;> obtain ⟨rfl, h⟩ := h; exact ⟨_, qs, rfl, h⟩
theorem dt_s {ps : List PW} {s : St} {r : List DT} (h : ps.map PW.dt = .st s :: r) : ∃ y qs, ps = .st y s :: qs ∧ qs.map PW.dt = r := by
  cases ps with
  | nil => cases h
  | cons p qs => cases p <;> simp [PW.dt] at h <;> obtain ⟨rfl, h⟩ := h; exact ⟨_, qs, rfl, h⟩
theorem dt_v {ps : List PW} {u : Value} {r : List DT} (h : ps.map PW.dt = .vl u :: r) : ∃ qs, ps = .vl u :: qs ∧ qs.map PW.dt = r := by
  cases ps with
  | nil => cases h
  | cons p qs => cases p <;> simp [PW.dt] at h <;> obtain ⟨rfl, h⟩ := h; exact ⟨qs, rfl, h⟩
def noA : StA := ⟨none, 0, none, 0⟩
def noS : St := { tick := 0, count := 0, tenants := [], cells := [], proven := 0, evac := 0, low := 0, high := 0 }
theorem noS_ok (w : World) (S : Nat → Prop) : StOk w S noA noS := ⟨fun h => absurd rfl h, fun h => absurd rfl h⟩
/-! Functions that are handed lists of numbers. -/
def lpl (A0 : Option Addr) (n0 : Nat) (A1 : Option Addr) (n1 : Nat) : Nat → Pl := fun j => match j with
  | 0 => ⟨A0, 1, n0, false⟩
  | _ => ⟨A1, 1, n1, false⟩
theorem li_calls {f : FuncId} {fn : Func} {F : FT} {D : List (Nat × DQ)} (hF : FTok Try.prog F) (hf : (Try.prog).funcs[f]? = some fn) (hb : fn.body = some (bodyOf fn)) (hcode : codeB fn.ntmps D (bodyOf fn) = true) {vs : List Value} (hn : Nat.ble vs.length fn.ntmps = true)
    (A0 : Option Addr) (l0 : List Int) (A1 : Option Addr) (l1 : List Int) (w : World) (h0 : Rd w (· < w.heap.size) A0 (flat intC l0)) (h1 : Rd w (· < w.heap.size) A1 (flat intC l1)) (hv : ∀ v ∈ vs, okV (lpl A0 l0.length A1 l1.length) 2 v) {R : Value → Prop}
    (h : sx tt F D (bodyOf fn) (argF 0 vs) [(0, intRow l0), (1, intRow l1)] 2 (endx tt fn.results.toList fun v _ _ => R v ∧ pureV v)) :
    Calls Try.prog f (vs.map (den (lpl A0 l0.length A1 l1.length))).toArray w fun e w' => ∃ v, R v ∧ pureV v ∧ e = .returned v ∧ Below w.heap.size w w' := by
  have hm : MemAt { w0 := w, bor := [], n0 := 2, ρ0 := lpl A0 l0.length A1 l1.length, nt := fn.ntmps } (lpl A0 l0.length A1 l1.length) [(0, intRow l0), (1, intRow l1)] 2 w := MemAt.rows trivial
    ⟨⟨by decide, rfl, row_of_rd (enc := intC) (sz := 1) (fun _ => rfl) (by omega) intC_plain 0 rfl h0 (fun b hb => hb)⟩, ⟨by decide, rfl, row_of_rd (enc := intC) (sz := 1) (fun _ => rfl) (by omega) intC_plain 0 rfl h1 (fun b hb => hb)⟩, trivial⟩
  refine (calls_sx ttOk hF mixed hf hb hcode (vs := vs) hn ⟨rfl, rfl⟩ rfl hm hv h).mono ?_
  rintro e w' ⟨v, mem', nx', ρ', rfl, ⟨hR, hp⟩, -, hm'⟩
  exact ⟨v, hR, hp, by rw [(pure_den hp ρ' 0).1], ⟨hm'.rest.os, hm'.rest.tape, hm'.rest.output, hm'.rest.size, fun b hlt => hm'.rest.block b hlt (by simp)⟩⟩
end Go.Proofs.Ytjobcfpnmfjlfaa
