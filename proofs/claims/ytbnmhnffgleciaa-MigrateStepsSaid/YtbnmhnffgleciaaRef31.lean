import Derived.Test.YtbnmhnffgleciaaRef31P
namespace Go.Proofs.Ytbnmhnffgleciaa
open Go.RowKit
set_option linter.unusedSimpArgs false
set_option linter.unusedVariables false

set_option maxHeartbeats 1000000 in
theorem progress_any (p n : Int) (w : World) :
    Calls Try.prog 29 #[.int .i64 p, .int .i64 n] w fun e w' => e = .returned (.int .i64 (progM p n)) ∧ w = w' := by
  go_enter Try.func29, Try.ntmps29
  go_wp2
  all_goals
    go_ret
    refine ⟨ret_i64 ?_, rfl⟩
    go_light
    first
      | (simp [progM, *]; done)
      | (simp_all [progM] <;> omega)

def rowCells (l : List (Int × Int × Int)) : List Value := l.flatMap fun r => [.int .i64 r.1, .int .i64 r.2.1, .int .i64 r.2.2]
theorem rowCells_get (l : List (Int × Int × Int)) : ∀ (k : Nat) (e : Int × Int × Int), l[k]? = some e → (rowCells l)[k * 3]? = some (.int .i64 e.1) ∧ (rowCells l)[k * 3 + 1]? = some (.int .i64 e.2.1) ∧ (rowCells l)[k * 3 + 2]? = some (.int .i64 e.2.2) := by
  induction l with
  | nil => intro k e h; simp at h
  | cons a l ih =>
    intro k e h
    cases k with
    | zero => simp at h; subst h; simp [rowCells]
    | succ k =>
      have := ih k e (by simpa using h)
      have e1 : (k + 1) * 3 = k * 3 + 1 + 1 + 1 := by omega
      rw [e1]
      simpa [rowCells] using this

set_option maxHeartbeats 1000000 in
theorem table_any (w : World) :
    Calls Try.prog 30 #[] w fun e w' => e = .returned (.slice (some ⟨w.heap.size, 0, none⟩) 10 10) ∧ Blk w' w.heap.size 53 (rowCells tab31).toArray ∧ Below w.heap.size w w' := by
  go_enter Try.func30, Try.ntmps30
  go_wp2
  go_ret
  refine ⟨rfl, ?_, (Below.refl _ _).alloc (Nat.le_refl _) _⟩
  exact Blk.new _ _ _

set_option maxHeartbeats 1000000 in
theorem refAfter_any (p ev n : Int) (w : World) :
    Calls Try.prog 23 #[.int .i64 p, .int .i64 ev, .int .i64 n] w fun e w' => e = .returned (.int .i64 (refAfterM p ev n)) ∧ Below w.heap.size w w' := by
  go_enter Try.func23, Try.ntmps23
  go_upto_block 0 with fail
  go_cut [0, 1] (fun s0 s1 wx => w = wx ∧ s0 = .int .i64 p ∧ s1 = .int .i64 ev ∧ ev ≠ 1 ∧ ¬ (ev = 3 ∧ p = 4 ∧ 0 ≤ n ∧ n ≤ 1073741824) ∧ ¬ (ev = 8 ∧ p ≠ 6 ∧ p ≠ 10))
  case first =>
    go_wp2_with (go_at_call 29; refine (progress_any _ _ _).mono ?_; rintro e w' ⟨rfl, rfl⟩)
    all_goals first
      | (go_meet; go_light; simp_all; done)
      | (go_meet; go_light; simp_all; omega)
      | (go_ret; go_light; refine ⟨ret_i64 ?_, Below.refl _ _⟩; simp_all [refAfterM]; done)
  case rest =>
    obtain ⟨rfl, rfl, rfl, h1, h3, h8⟩ := hcut
    have hfin : refAfterM p ev n = tabFind p ev tab31 := by unfold refAfterM; rw [if_neg h1, if_neg h3, if_neg h8]
    have HF := Lib.hid hfin
    clear h1 h3 h8 hfin
    go_wp2_with fail
    refine (table_any _).mono ?_
    rintro e w1 ⟨rfl, hB, hb⟩
    have hrd : Rd w1 (fun b => b = w.heap.size) (some ⟨w.heap.size, 0, none⟩) (rowCells tab31) := fun _ => ⟨_, 0, rfl, rfl, fun j v hv => by rw [Nat.zero_add]; exact hB.cell' (by simpa using hv)⟩
    have hlt := hB.lt
    clear hB
    go_wp2
    go_loopg [43] 10 (fun gk s43 wr => ∃ k : Nat, gk + k = 10 ∧ s43 = .int .i64 k ∧ Rd wr (fun b => b = w.heap.size) (some ⟨w.heap.size, 0, none⟩) (rowCells tab31) ∧ Below w.heap.size w wr ∧ tabFind p ev tab31 = tabFind p ev (tab31.drop k))
    case atStart => exact ⟨0, rfl, rfl, hrd, hb, rfl⟩
    case round =>
      rename_i J K aJ aK
      clear hrd hb
      obtain ⟨k, hgk, rfl, hrd, hb, htf⟩ := hrel
      have HT := Lib.hid htf
      clear htf
      by_cases hk : k < 10
      · obtain ⟨⟨r0, r1, r2⟩, hkk⟩ : ∃ e, tab31[k]? = some e := ⟨_, List.getElem?_eq_getElem (by simpa [tab31] using hk)⟩
        have HK := Lib.hid hkk
        have hg := rowCells_get tab31 k _ hkk
        clear hkk
        obtain ⟨b, off, hA, rfl, hcell⟩ := hrd.at_ (k := k * 3) (List.getElem?_eq_some_iff.1 hg.1).1
        injection hA with hA
        injection hA with _ hoff _
        subst hoff
        have c0 := hcell _ _ hg.1
        have c1 := hcell _ _ hg.2.1
        have c2 := hcell _ _ hg.2.2
        simp only [Nat.zero_add] at c0 c1 c2
        clear hcell hg
        have hlt1 : (k : Int) < 10 := by omega
        have hdrop : tab31.drop k = (r0, r1, r2) :: tab31.drop (k + 1) := by
          obtain ⟨hkl, he⟩ := List.getElem?_eq_some_iff.1 HK.out
          rw [List.drop_eq_getElem_cons hkl, he]
        have HD := Lib.hid hdrop
        clear hdrop
        by_cases hm : r0 = p ∧ r1 = ev
        · have e0 : (r0 == p) = true := by simpa using hm.1
          have e1 : (r1 == ev) = true := by simpa using hm.2
          have HM := Lib.hid hm
          clear hm
          go_wp2
          go_ret
          refine ⟨ret_i64 ?_, hb.alloc hb.size _⟩
          rw [HF.out, HT.out, HD.out, tabFind, if_pos HM.out]
        · have hnext : tabFind p ev tab31 = tabFind p ev (tab31.drop (k + 1)) := by rw [HT.out, HD.out, tabFind, if_neg hm]
          have HN := Lib.hid hnext
          clear hnext
          by_cases h0 : r0 = p
          · have e0 : (r0 == p) = true := by simpa using h0
            have e1 : (r1 == ev) = false := by simp; exact fun h => hm ⟨h0, h⟩
            clear hm h0
            go_wp2
            go_roundg (gk - 1)
            case measure => omega
            case rel => exact ⟨k + 1, by omega, by go_num, hrd.alloc _, hb.alloc hb.size _, HN.out⟩
          · have e0 : (r0 == p) = false := by simpa using h0
            clear hm h0
            go_wp2
            go_roundg (gk - 1)
            case measure => omega
            case rel => exact ⟨k + 1, by omega, by go_num, hrd.alloc _, hb.alloc hb.size _, HN.out⟩
      · have hge : ¬ ((k : Int) < 10) := by omega
        go_wp2
        go_ret
        refine ⟨ret_i64 ?_, hb⟩
        obtain rfl : k = 10 := by omega
        rw [HF.out, HT.out]
        rfl
end Go.Proofs.Ytbnmhnffgleciaa
