import Derived.Test.YtjobcfpnmfjlfaaNk05
import Derived.Laws.OwnMore
namespace Go.Proofs.Ytjobcfpnmfjlfaa
open Go.RowKit
set_option linter.unusedSimpArgs false
set_option linter.unusedVariables false

theorem stSize : (Try.prog.info? 36).map (·.size) = some 8 := by kernel_rfl
theorem pow_wrap {n : Int} (h0 : 0 ≤ n) (h1 : n < 60) : IntKind.i64.wrap (2 ^ n.toNat) = 2 ^ n.toNat := by
  have h : (2 : Nat) ^ n.toNat < 2 ^ 60 := Nat.pow_lt_pow_right (by omega) (by omega)
  have h2 : ((2 : Int) ^ n.toNat) = ((2 ^ n.toNat : Nat) : Int) := by simp
  rw [h2]
  generalize (2 : Nat) ^ n.toNat = q at *
  exact IntWalk.i64_in _ (by omega)
theorem evac_on {a i : Int} (h0 : 0 ≤ a) (h1 : a < 16) (h2 : 0 ≤ i) (h3 : i < 4) (hb : hasB a i = false) : bits BinOp.or IntKind.i64 a (IntKind.i64.wrap (2 ^ i.toNat)) = flipBit a i := by
  rw [pow_wrap h2 (by omega), i64_orBit a i h0 (by omega) h2 (by omega)]
  unfold orBit flipBit
  have hbit : Nat.testBit a.toNat i.toNat = false := by
    simp only [hasB, bitB] at hb
    have q1 : decide (0 ≤ i) = true := by simpa using h2
    have q2 : decide (i < 62) = true := by simp; omega
    rw [q1, q2] at hb
    simpa using hb
  exact congrArg Int.ofNat (evac_or ⟨a.toNat, by omega⟩ ⟨i.toNat, by omega⟩ hbit)
theorem evac_off {a i : Int} (h0 : 0 ≤ a) (h1 : a < 16) (h2 : 0 ≤ i) (h3 : i < 4) (hb : hasB a i = true) : bits BinOp.andNot IntKind.i64 a (IntKind.i64.wrap (2 ^ i.toNat)) = flipBit a i := by
  rw [pow_wrap h2 (by omega)]
  have hbit : Nat.testBit a.toNat i.toNat = true := by
    simp only [hasB, bitB, Bool.and_eq_true] at hb
    exact hb.2
  have := evac_andNot ⟨a.toNat, by omega⟩ ⟨i.toNat, by omega⟩ hbit
  unfold flipBit
  rw [← this]
  simp only
  rw [Int.toNat_of_nonneg h0]
theorem grant_to {c : Cfg} {s : St} {tick tenant cell other epoch since till n : Int} (h : kindE c s ⟨2, tick, tenant, cell, other, epoch, since, till, n⟩ = 0) : cell = (tsAt s tenant).home ∨ cell = (tsAt s tenant).standby ∨ cell = (tsAt s tenant).target := by
  simp only [kindE, grantE] at h
  simp at h
  by_cases q1 : (tsAt s tenant).placed = false ∨ (tsAt s tenant).shed = true ∧ ¬cell = (tsAt s tenant).standby
  · rw [if_pos q1] at h; omega
  rw [if_neg q1] at h
  by_cases q2 : ¬cell = (tsAt s tenant).home ∧ ¬cell = (tsAt s tenant).standby ∧ ¬cell = (tsAt s tenant).target
  · rw [if_pos q2] at h; omega
  omega
theorem EB.fin {w : World} {base : Nat} {s : St} {y : StA} {E : Array Value} {wx : World} (h : EB w base s y E wx) (vs : List Value) : StOwn (wx.setCells (w.heap.size + 1 + 1) 0 vs) w.heap.size y s ∧ Below w.heap.size w (wx.setCells (w.heap.size + 1 + 1) 0 vs) := by
  have hle := h.le
  have key : ∀ (vs : List Value) (o : Nat) (wz : World), StOwn wz base y s → StOwn (wz.setCells (w.heap.size + 1 + 1) o vs) base y s := by
    intro vs
    induction vs with
    | nil => intro o wz hz; exact hz
    | cons v r ih => intro o wz hz; rw [World.setCells]; exact ih _ _ ⟨own_setFar2 hz.tenants (by exact hle) _, own_setFar2 hz.cells (by exact hle) _⟩
  have := key vs 0 wx h.own
  exact ⟨⟨own_base this.tenants (by omega), own_base this.cells (by omega)⟩, below_setCells2 h.below (by omega) _ _⟩

set_option maxHeartbeats 16000000 in
set_option maxRecDepth 100000 in
theorem stEffect_any (c : Cfg) (y : StA) (s : St) (e : Ent) (w : World) (hV : CfgV c) (hI : StInv c s) (hs : StOk w (· < w.heap.size) y s) (ha : Acc c s e) :
    Calls Try.prog 29 #[.agg (stC y s), .agg (entC e).toArray] w (EffPost w (effOf s e)) := by
  have hnc := hV.nc
  have hntt := hV.nt
  have HA := Lib.hid ha
  have HV := Lib.hid hV
  clear ha hV
  obtain ⟨sat, sct, sac, scc⟩ := y
  have HKs := Lib.hid hs
  have hsl : 1 ≤ s.cells.length ∧ s.cells.length ≤ 16 := by have := hI.lc; omega
  have hst : s.tenants.length ≤ 32 := by have := hI.lt; omega
  have HI := Lib.hid hI
  clear hs hI
  obtain ⟨kind, tick, tenant, cell, other, epoch, since, till, n⟩ := e
  try simp only at *
  have hcnt := HI.out.count
  have hL : Below w.heap.size w (((w.alloc (.cells #[.int .i64 s.tick, .int .i64 s.count, .slice sat s.tenants.length sct, .slice sac s.cells.length scc, .int .i64 s.proven, .int .i64 s.evac, .int .i64 s.low, .int .i64 s.high] 36)).alloc (.cells #[.int .i64 kind, .int .i64 tick, .int .i64 tenant, .int .i64 cell, .int .i64 other, .int .i64 epoch, .int .i64 since, .int .i64 till, .int .i64 n] 45)).alloc (.cells #[.int .i64 0, .int .i64 0, .slice none 0 0, .slice none 0 0, .int .i64 0, .int .i64 0, .int .i64 0, .int .i64 0] 36)) := ((((Below.refl w.heap.size w).alloc (by simp <;> omega) (.cells #[.int .i64 s.tick, .int .i64 s.count, .slice sat s.tenants.length sct, .slice sac s.cells.length scc, .int .i64 s.proven, .int .i64 s.evac, .int .i64 s.low, .int .i64 s.high] 36)).alloc (by simp <;> omega) (.cells #[.int .i64 kind, .int .i64 tick, .int .i64 tenant, .int .i64 cell, .int .i64 other, .int .i64 epoch, .int .i64 since, .int .i64 till, .int .i64 n] 45)).alloc (by simp <;> omega) (.cells #[.int .i64 0, .int .i64 0, .slice none 0 0, .slice none 0 0, .int .i64 0, .int .i64 0, .int .i64 0, .int .i64 0] 36))
  have hBs : Blk (((w.alloc (.cells #[.int .i64 s.tick, .int .i64 s.count, .slice sat s.tenants.length sct, .slice sac s.cells.length scc, .int .i64 s.proven, .int .i64 s.evac, .int .i64 s.low, .int .i64 s.high] 36)).alloc (.cells #[.int .i64 kind, .int .i64 tick, .int .i64 tenant, .int .i64 cell, .int .i64 other, .int .i64 epoch, .int .i64 since, .int .i64 till, .int .i64 n] 45)).alloc (.cells #[.int .i64 0, .int .i64 0, .slice none 0 0, .slice none 0 0, .int .i64 0, .int .i64 0, .int .i64 0, .int .i64 0] 36)) (w.heap.size) 36 #[.int .i64 s.tick, .int .i64 s.count, .slice sat s.tenants.length sct, .slice sac s.cells.length scc, .int .i64 s.proven, .int .i64 s.evac, .int .i64 s.low, .int .i64 s.high] := by
    have := (((Blk.new w 36 #[.int .i64 s.tick, .int .i64 s.count, .slice sat s.tenants.length sct, .slice sac s.cells.length scc, .int .i64 s.proven, .int .i64 s.evac, .int .i64 s.low, .int .i64 s.high]).alloc (.cells #[.int .i64 kind, .int .i64 tick, .int .i64 tenant, .int .i64 cell, .int .i64 other, .int .i64 epoch, .int .i64 since, .int .i64 till, .int .i64 n] 45)).alloc (.cells #[.int .i64 0, .int .i64 0, .slice none 0 0, .slice none 0 0, .int .i64 0, .int .i64 0, .int .i64 0, .int .i64 0] 36))
    simpa using this
  have hBe : Blk (((w.alloc (.cells #[.int .i64 s.tick, .int .i64 s.count, .slice sat s.tenants.length sct, .slice sac s.cells.length scc, .int .i64 s.proven, .int .i64 s.evac, .int .i64 s.low, .int .i64 s.high] 36)).alloc (.cells #[.int .i64 kind, .int .i64 tick, .int .i64 tenant, .int .i64 cell, .int .i64 other, .int .i64 epoch, .int .i64 since, .int .i64 till, .int .i64 n] 45)).alloc (.cells #[.int .i64 0, .int .i64 0, .slice none 0 0, .slice none 0 0, .int .i64 0, .int .i64 0, .int .i64 0, .int .i64 0] 36)) (w.heap.size + 1) 45 #[.int .i64 kind, .int .i64 tick, .int .i64 tenant, .int .i64 cell, .int .i64 other, .int .i64 epoch, .int .i64 since, .int .i64 till, .int .i64 n] := by
    have := ((Blk.new (w.alloc (.cells #[.int .i64 s.tick, .int .i64 s.count, .slice sat s.tenants.length sct, .slice sac s.cells.length scc, .int .i64 s.proven, .int .i64 s.evac, .int .i64 s.low, .int .i64 s.high] 36)) 45 #[.int .i64 kind, .int .i64 tick, .int .i64 tenant, .int .i64 cell, .int .i64 other, .int .i64 epoch, .int .i64 since, .int .i64 till, .int .i64 n]).alloc (.cells #[.int .i64 0, .int .i64 0, .slice none 0 0, .slice none 0 0, .int .i64 0, .int .i64 0, .int .i64 0, .int .i64 0] 36))
    simpa using this
  have hBz : Blk (((w.alloc (.cells #[.int .i64 s.tick, .int .i64 s.count, .slice sat s.tenants.length sct, .slice sac s.cells.length scc, .int .i64 s.proven, .int .i64 s.evac, .int .i64 s.low, .int .i64 s.high] 36)).alloc (.cells #[.int .i64 kind, .int .i64 tick, .int .i64 tenant, .int .i64 cell, .int .i64 other, .int .i64 epoch, .int .i64 since, .int .i64 till, .int .i64 n] 45)).alloc (.cells #[.int .i64 0, .int .i64 0, .slice none 0 0, .slice none 0 0, .int .i64 0, .int .i64 0, .int .i64 0, .int .i64 0] 36)) (w.heap.size + 1 + 1) 36 #[.int .i64 0, .int .i64 0, .slice none 0 0, .slice none 0 0, .int .i64 0, .int .i64 0, .int .i64 0, .int .i64 0] := by
    have := (Blk.new ((w.alloc (.cells #[.int .i64 s.tick, .int .i64 s.count, .slice sat s.tenants.length sct, .slice sac s.cells.length scc, .int .i64 s.proven, .int .i64 s.evac, .int .i64 s.low, .int .i64 s.high] 36)).alloc (.cells #[.int .i64 kind, .int .i64 tick, .int .i64 tenant, .int .i64 cell, .int .i64 other, .int .i64 epoch, .int .i64 since, .int .i64 till, .int .i64 n] 45)) 36 #[.int .i64 0, .int .i64 0, .slice none 0 0, .slice none 0 0, .int .i64 0, .int .i64 0, .int .i64 0, .int .i64 0])
    simpa using this
  unfold stC entC
  simp only
  go_enter Try.func29, Try.ntmps29
  go_upto_region 1 with fail
  generalize ((w.alloc _).alloc _).alloc _ = W at *
  have hgs := hBs.lt
  have hge := hBe.lt
  have hgz := hBz.lt
  have HWs := Lib.hid (HKs.out.belowW hL)
  have HL := Lib.hid hL
  clear hL
  refine wp_region_seq (fun w' : World => Below W.heap.size W w') 7 [(0, false), (1, false), (3, false), (4, false), (2, true), (6, false), (5, true)] (by kernel_rfl) (by kernel_rfl) (Below.refl _ _).drew ?_
  simp only [List.take_succ_cons, List.take_zero, List.drop_succ_cons, List.drop_zero]
  repeat (refine wpSeqH_fix _ ?_ rfl (by exact fun _ _ _ h => h) (Or.inl ⟨by rfl, ?_⟩) ?_; rotate_left; (intro w' hSw; (try dsimp only at hSw); have q2 := (hBs.below hSw hgs).cell' (i := 2) (v := .slice sat s.tenants.length sct) rfl; have q3 := (hBs.below hSw hgs).cell' (i := 3) (v := .slice sac s.cells.length scc) rfl; go_simp; (try with_reducible rfl)); (simp only [List.getElem_toArray, List.getElem_cons_zero, List.getElem_cons_succ, Act.put, List.setIfInBounds_toArray, List.set_cons_zero, List.set_cons_succ]))
  refine wpSeqH_act rfl rfl ?_
  go_simp
  refine (cloneTs_any sat sct s.tenants W.drew (by omega) HWs.out.tenants).mono ?_
  rintro r w1 ⟨A1, cp1, rfl, hO1, hb1⟩
  replace hb1 : Below W.heap.size W w1 := ((Below.refl W.heap.size W).drew).trans hb1
  replace hO1 : w1.ownsRow W.heap.size 50 12 (.slice A1 s.tenants.length cp1) s.tenants.length (flat tsC s.tenants) := hO1
  refine ⟨hb1, ?_⟩
  repeat (refine wpSeqH_fix _ ?_ rfl (by exact fun _ _ _ h => h) (Or.inl ⟨by rfl, ?_⟩) ?_; rotate_left; (intro w' hSw; (try dsimp only at hSw); go_simp; (try with_reducible rfl)); (simp only [List.getElem_toArray, List.getElem_cons_zero, List.getElem_cons_succ, Act.put, List.setIfInBounds_toArray, List.set_cons_zero, List.set_cons_succ]))
  refine wpSeqH_act rfl rfl ?_
  go_simp
  refine (cloneCs_any sac scc s.cells w1 (by omega) ((HWs.out.belowW hb1).cells)).mono ?_
  rintro r w2 ⟨A2, cp2, rfl, hO2, hb2⟩
  have hb3 := hb1.trans (hb2.mono hb1.size)
  refine ⟨hb3, ?_⟩
  have hne12 : ∀ k j, (Value.slice A1 s.tenants.length cp1).ownBlock = some k → (Value.slice A2 s.cells.length cp2).ownBlock = some j → k ≠ j := by
    intro k j h1 h2
    have q1 := (hO1.lt k h1).2
    have q2 := (hO2.lt j h2).1
    omega
  replace hO1 := own_below hO1 hb2 fun j hj => (hO1.lt j hj).2
  replace hO2 := own_base hO2 hb1.size
  have hBs2 := hBs.below hb3 hgs
  have hBe2 := hBe.below hb3 hge
  have hBz2 := hBz.below hb3 hgz
  have HL2 := Lib.hid (HL.out.trans (hb3.mono HL.out.size))
  have hW2 := hb3.size
  clear hBs hBe hBz hb1 hb2 HL HWs
  have su0 := hBs2.cell' (i := 0) (v := .int .i64 s.tick) rfl
  have su1 := hBs2.cell' (i := 1) (v := .int .i64 s.count) rfl
  have su2 := hBs2.cell' (i := 2) (v := .slice sat s.tenants.length sct) rfl
  have su3 := hBs2.cell' (i := 3) (v := .slice sac s.cells.length scc) rfl
  have su4 := hBs2.cell' (i := 4) (v := .int .i64 s.proven) rfl
  have su5 := hBs2.cell' (i := 5) (v := .int .i64 s.evac) rfl
  have su6 := hBs2.cell' (i := 6) (v := .int .i64 s.low) rfl
  have su7 := hBs2.cell' (i := 7) (v := .int .i64 s.high) rfl
  have sf0 := hBs2.frozen 0
  have sf1 := hBs2.frozen 1
  have sf2 := hBs2.frozen 2
  have sf3 := hBs2.frozen 3
  have sf4 := hBs2.frozen 4
  have sf5 := hBs2.frozen 5
  have sf6 := hBs2.frozen 6
  have sf7 := hBs2.frozen 7
  have v0 := hBe2.cell' (i := 0) (v := .int .i64 kind) rfl
  have v1 := hBe2.cell' (i := 1) (v := .int .i64 tick) rfl
  have v2 := hBe2.cell' (i := 2) (v := .int .i64 tenant) rfl
  have v3 := hBe2.cell' (i := 3) (v := .int .i64 cell) rfl
  have v4 := hBe2.cell' (i := 4) (v := .int .i64 other) rfl
  have v5 := hBe2.cell' (i := 5) (v := .int .i64 epoch) rfl
  have v6 := hBe2.cell' (i := 6) (v := .int .i64 since) rfl
  have v7 := hBe2.cell' (i := 7) (v := .int .i64 till) rfl
  have v8 := hBe2.cell' (i := 8) (v := .int .i64 n) rfl
  refine wpSeqH_end ?_
  simp only [List.getElem_toArray, List.getElem_cons_zero, List.getElem_cons_succ, Act.put, List.setIfInBounds_toArray, List.set_cons_zero, List.set_cons_succ, thenK]
  go_upto_region 6 with fail
  have hEB : EB w W.heap.size (stamped s ⟨kind, tick, tenant, cell, other, epoch, since, till, n⟩) ⟨A1, cp1, A2, cp2⟩ #[.int .i64 kind, .int .i64 tick, .int .i64 tenant, .int .i64 cell, .int .i64 other, .int .i64 epoch, .int .i64 since, .int .i64 till, .int .i64 n] ((((w2.setCell ⟨w.heap.size, 2, none⟩ (.slice A1 s.tenants.length cp1)).setCell ⟨w.heap.size, 3, none⟩ (.slice A2 s.cells.length cp2)).setCell ⟨w.heap.size, 0, none⟩ (.int .i64 tick)).setCell ⟨w.heap.size, 1, none⟩ (.int .i64 (s.count + 1))) := by
    have hx : w.heap.size < W.heap.size := hgs
    refine ⟨?_, (((hBe2.far (by simp) _).far (by simp) _).far (by simp) _).far (by simp) _, (((hBz2.far (by simp; omega) _).far (by simp; omega) _).far (by simp; omega) _).far (by simp; omega) _, ⟨?_, ?_⟩, hne12, hgz, ?_⟩
    · have := (((hBs2.set_ 2 (.slice A1 s.tenants.length cp1)).set_ 3 (.slice A2 s.cells.length cp2)).set_ 0 (.int .i64 tick)).set_ 1 (.int .i64 (s.count + 1))
      simpa [stC, stamped] using this
    · exact own_setFar2 (own_setFar2 (own_setFar2 (own_setFar2 hO1 (by exact hx) _) (by exact hx) _) (by exact hx) _) (by exact hx) _
    · exact own_setFar2 (own_setFar2 (own_setFar2 (own_setFar2 hO2 (by exact hx) _) (by exact hx) _) (by exact hx) _) (by exact hx) _
    · exact (((HL2.out.setCell (p := ⟨w.heap.size, 2, none⟩) (Nat.le_refl _) _).setCell (p := ⟨w.heap.size, 3, none⟩) (Nat.le_refl _) _).setCell (p := ⟨w.heap.size, 0, none⟩) (Nat.le_refl _) _).setCell (p := ⟨w.heap.size, 1, none⟩) (Nat.le_refl _) _
  clear su0 sf0 su1 sf1 su2 sf2 su3 sf3 su4 sf4 su5 sf5 su6 sf6 su7 sf7 v0 v1 v2 v3 v4 v5 v6 v7 v8 hBs2 hBe2 hBz2 hO1 hO2 HL2 hne12 hb3 hge hgz
  generalize ((((w2.setCell ⟨w.heap.size, 2, none⟩ (.slice A1 s.tenants.length cp1)).setCell ⟨w.heap.size, 3, none⟩ (.slice A2 s.cells.length cp2)).setCell ⟨w.heap.size, 0, none⟩ (.int .i64 tick)).setCell ⟨w.heap.size, 1, none⟩ (.int .i64 (s.count + 1))) = W4 at *
  have hk := ent_kind HA.out.ent
  simp only at hk
  rcases hk with rfl | rfl | rfl | rfl | rfl | rfl | rfl | rfl | rfl | rfl | rfl | rfl | rfl | rfl | rfl | rfl
  · skip
    have hten := ent_ten HI.out HA.out.ent (show (1 : Int) ≤ 8 by decide)
    simp only at hten
    obtain ⟨tn, rfl⟩ := Int.eq_ofNat_of_zero_le hten.1
    have htn : tn < s.tenants.length := by omega
    have hzt := (tsAt_mem hten.1 hten.2).1
    rw [Int.toNat_natCast] at hzt
    obtain ⟨g, cur, hA, hbg, hBg, htk, hsz, hnn, hmm⟩ := own_blk hEB.own.tenants (show 0 < s.tenants.length by omega)
    simp only at hA
    subst hA
    have hrow := own_row (enc := tsC) (size := 12) (fun _ => rfl) hzt htk
    have htick := (ent_rng HA.out.ent).1
    simp only at htick
    have su0 := hEB.box.cell' (i := 0) (v := .int .i64 tick) rfl
    have su1 := hEB.box.cell' (i := 1) (v := .int .i64 (s.count + 1)) rfl
    have su2 := hEB.box.cell' (i := 2) (v := .slice (some ⟨g, 0, none⟩) s.tenants.length cp1) rfl
    have su3 := hEB.box.cell' (i := 3) (v := .slice A2 s.cells.length cp2) rfl
    have su4 := hEB.box.cell' (i := 4) (v := .int .i64 s.proven) rfl
    have su5 := hEB.box.cell' (i := 5) (v := .int .i64 s.evac) rfl
    have su6 := hEB.box.cell' (i := 6) (v := .int .i64 s.low) rfl
    have su7 := hEB.box.cell' (i := 7) (v := .int .i64 s.high) rfl
    have sf0 := hEB.box.frozen 0
    have sf1 := hEB.box.frozen 1
    have sf2 := hEB.box.frozen 2
    have sf3 := hEB.box.frozen 3
    have sf4 := hEB.box.frozen 4
    have sf5 := hEB.box.frozen 5
    have sf6 := hEB.box.frozen 6
    have sf7 := hEB.box.frozen 7
    have v0 := hEB.ent.cell' (i := 0) (v := .int .i64 1) rfl
    have v1 := hEB.ent.cell' (i := 1) (v := .int .i64 tick) rfl
    have v2 := hEB.ent.cell' (i := 2) (v := .int .i64 tn) rfl
    have v3 := hEB.ent.cell' (i := 3) (v := .int .i64 cell) rfl
    have v4 := hEB.ent.cell' (i := 4) (v := .int .i64 other) rfl
    have v5 := hEB.ent.cell' (i := 5) (v := .int .i64 epoch) rfl
    have v6 := hEB.ent.cell' (i := 6) (v := .int .i64 since) rfl
    have v7 := hEB.ent.cell' (i := 7) (v := .int .i64 till) rfl
    have v8 := hEB.ent.cell' (i := 8) (v := .int .i64 n) rfl
    go_wp2
    clear su0 sf0 su1 sf1 su2 sf2 su3 sf3 su4 sf4 su5 sf5 su6 sf6 su7 sf7 v0 v1 v2 v3 v4 v5 v6 v7 v8
    refine wp_region_seq (fun w' : World => EB w W.heap.size (stamped s ⟨1, tick, tn, cell, other, epoch, since, till, n⟩) ⟨(some ⟨g, 0, none⟩), cp1, A2, cp2⟩ #[.int .i64 1, .int .i64 tick, .int .i64 tn, .int .i64 cell, .int .i64 other, .int .i64 epoch, .int .i64 since, .int .i64 till, .int .i64 n] w') 6 [(0, false), (1, false), (2, false), (3, false), (4, false), (5, false)] (by kernel_rfl) (by kernel_rfl) hEB.drew ?_
    simp only [List.take_succ_cons, List.take_zero, List.drop_succ_cons, List.drop_zero]
    repeat (refine wpSeqH_fix _ ?_ rfl (by exact fun _ _ _ h => h) (Or.inl ⟨by rfl, ?_⟩) ?_; rotate_left; (intro w' hSw; (try dsimp only at hSw); have su0 := hSw.box.cell' (i := 0) (v := .int .i64 tick) rfl; have su1 := hSw.box.cell' (i := 1) (v := .int .i64 (s.count + 1)) rfl; have su2 := hSw.box.cell' (i := 2) (v := .slice (some ⟨g, 0, none⟩) s.tenants.length cp1) rfl; have su3 := hSw.box.cell' (i := 3) (v := .slice A2 s.cells.length cp2) rfl; have su4 := hSw.box.cell' (i := 4) (v := .int .i64 s.proven) rfl; have su5 := hSw.box.cell' (i := 5) (v := .int .i64 s.evac) rfl; have su6 := hSw.box.cell' (i := 6) (v := .int .i64 s.low) rfl; have su7 := hSw.box.cell' (i := 7) (v := .int .i64 s.high) rfl; have sf0 := hSw.box.frozen 0; have sf1 := hSw.box.frozen 1; have sf2 := hSw.box.frozen 2; have sf3 := hSw.box.frozen 3; have sf4 := hSw.box.frozen 4; have sf5 := hSw.box.frozen 5; have sf6 := hSw.box.frozen 6; have sf7 := hSw.box.frozen 7; have v0 := hSw.ent.cell' (i := 0) (v := .int .i64 1) rfl; have v1 := hSw.ent.cell' (i := 1) (v := .int .i64 tick) rfl; have v2 := hSw.ent.cell' (i := 2) (v := .int .i64 tn) rfl; have v3 := hSw.ent.cell' (i := 3) (v := .int .i64 cell) rfl; have v4 := hSw.ent.cell' (i := 4) (v := .int .i64 other) rfl; have v5 := hSw.ent.cell' (i := 5) (v := .int .i64 epoch) rfl; have v6 := hSw.ent.cell' (i := 6) (v := .int .i64 since) rfl; have v7 := hSw.ent.cell' (i := 7) (v := .int .i64 till) rfl; have v8 := hSw.ent.cell' (i := 8) (v := .int .i64 n) rfl; clear hSw; go_simp; (try with_reducible rfl)); (simp only [List.getElem_toArray, List.getElem_cons_zero, List.getElem_cons_succ, Act.put, List.setIfInBounds_toArray, List.set_cons_zero, List.set_cons_succ]))
    refine wpSeqH_end ?_
    simp only [List.getElem_toArray, List.getElem_cons_zero, List.getElem_cons_succ, Act.put, List.setIfInBounds_toArray, List.set_cons_zero, List.set_cons_succ, thenK]
    go_wp2_with fail
    refine (stOnTenant_any ⟨1, tick, tn, cell, other, epoch, since, till, n⟩ (tsAt s tn) g (tn * 12) cur W4.drew (by simp) htick (fun h => absurd (show (1 : Int) = 2 from h) (by decide)) hBg hrow).mono ?_
    rintro r w5 ⟨rfl, hR⟩
    have hEB2 := EB.ten hEB.drew htn rfl hbg htk hsz hnn hmm hR
    clear hR hEB hBg hrow
    go_upto_region 21 with fail
    have hbx := hEB2.box
    have hrs := hEB2.res
    unfold stC at hbx
    try simp only [stamped, setTen, setCel, List.length_set] at hbx
    refine wp_region_lit ?_
    refine wpList_load_mid (by rfl) _ (.tmp 2) (by rfl) w.heap.size 0 (by go_simp) [.int .i64 tick, .int .i64 (s.count + 1), .slice (some ⟨g, 0, none⟩) s.tenants.length cp1, .slice A2 s.cells.length cp2, .int .i64 s.proven, .int .i64 s.evac, .int .i64 s.low, .int .i64 s.high] _ hbx.range Try.underlying36 rfl stSize ?_
    simp only [List.getElem_toArray, List.getElem_cons_zero, List.getElem_cons_succ, Act.put, List.setIfInBounds_toArray, List.set_cons_zero, List.set_cons_succ]
    refine wpList_store_mid (by rfl) _ (.tmp 4) (.tmp 81) (by rfl) (w.heap.size + 1 + 1) 0 #[.int .i64 tick, .int .i64 (s.count + 1), .slice (some ⟨g, 0, none⟩) s.tenants.length cp1, .slice A2 s.cells.length cp2, .int .i64 s.proven, .int .i64 s.evac, .int .i64 s.low, .int .i64 s.high] (by go_simp) (by go_simp) (hrs.there 0 8 (by simp)) stSize (by simp [Value.oneCell']) ?_
    have hr2 := hrs.setCells [.int .i64 tick, .int .i64 (s.count + 1), .slice (some ⟨g, 0, none⟩) s.tenants.length cp1, .slice A2 s.cells.length cp2, .int .i64 s.proven, .int .i64 s.evac, .int .i64 s.low, .int .i64 s.high] 0
    simp only [putL, List.setIfInBounds_toArray, List.set_cons_zero, List.set_cons_succ, Nat.reduceAdd] at hr2
    have HF := Lib.hid (EB.fin hEB2 [.int .i64 tick, .int .i64 (s.count + 1), .slice (some ⟨g, 0, none⟩) s.tenants.length cp1, .slice A2 s.cells.length cp2, .int .i64 s.proven, .int .i64 s.evac, .int .i64 s.low, .int .i64 s.high])
    generalize World.setCells _ (w.heap.size + 1 + 1) 0 _ = W9 at *
    clear hbx hrs
    have g0 := hr2.cell' (i := 0) (v := .int .i64 tick) rfl
    have g1 := hr2.cell' (i := 1) (v := .int .i64 (s.count + 1)) rfl
    have g2 := hr2.cell' (i := 2) (v := .slice (some ⟨g, 0, none⟩) s.tenants.length cp1) rfl
    have g3 := hr2.cell' (i := 3) (v := .slice A2 s.cells.length cp2) rfl
    have g4 := hr2.cell' (i := 4) (v := .int .i64 s.proven) rfl
    have g5 := hr2.cell' (i := 5) (v := .int .i64 s.evac) rfl
    have g6 := hr2.cell' (i := 6) (v := .int .i64 s.low) rfl
    have g7 := hr2.cell' (i := 7) (v := .int .i64 s.high) rfl
    go_wp2
    refine bodyPost_ret (v := .agg #[.int .i64 tick, .int .i64 (s.count + 1), .slice (some ⟨g, 0, none⟩) s.tenants.length cp1, .slice A2 s.cells.length cp2, .int .i64 s.proven, .int .i64 s.evac, .int .i64 s.low, .int .i64 s.high]) (by simp [results, Try.results29, go_sem, g0, g1, g2, g3, g4, g5, g6, g7]) rfl ?_
    have hst : stC ⟨some ⟨g, 0, none⟩, cp1, A2, cp2⟩ (effOf s ⟨1, tick, tn, cell, other, epoch, since, till, n⟩) = #[.int .i64 tick, .int .i64 (s.count + 1), .slice (some ⟨g, 0, none⟩) s.tenants.length cp1, .slice A2 s.cells.length cp2, .int .i64 s.proven, .int .i64 s.evac, .int .i64 s.low, .int .i64 s.high] := by simp [stC, effOf, setTen, setCel, stamped]
    exact ⟨⟨some ⟨g, 0, none⟩, cp1, A2, cp2⟩, by rw [hst], HF.out.1, HF.out.2⟩
  · skip
    have hten := ent_ten HI.out HA.out.ent (show (2 : Int) ≤ 8 by decide)
    simp only at hten
    obtain ⟨tn, rfl⟩ := Int.eq_ofNat_of_zero_le hten.1
    have htn : tn < s.tenants.length := by omega
    have hzt := (tsAt_mem hten.1 hten.2).1
    rw [Int.toNat_natCast] at hzt
    obtain ⟨g, cur, hA, hbg, hBg, htk, hsz, hnn, hmm⟩ := own_blk hEB.own.tenants (show 0 < s.tenants.length by omega)
    simp only at hA
    subst hA
    have hrow := own_row (enc := tsC) (size := 12) (fun _ => rfl) hzt htk
    have htick := (ent_rng HA.out.ent).1
    simp only at htick
    have hto : cell = (tsAt s tn).home ∨ cell = (tsAt s tn).standby ∨ cell = (tsAt s tn).target := grant_to HA.out.kind
    have su0 := hEB.box.cell' (i := 0) (v := .int .i64 tick) rfl
    have su1 := hEB.box.cell' (i := 1) (v := .int .i64 (s.count + 1)) rfl
    have su2 := hEB.box.cell' (i := 2) (v := .slice (some ⟨g, 0, none⟩) s.tenants.length cp1) rfl
    have su3 := hEB.box.cell' (i := 3) (v := .slice A2 s.cells.length cp2) rfl
    have su4 := hEB.box.cell' (i := 4) (v := .int .i64 s.proven) rfl
    have su5 := hEB.box.cell' (i := 5) (v := .int .i64 s.evac) rfl
    have su6 := hEB.box.cell' (i := 6) (v := .int .i64 s.low) rfl
    have su7 := hEB.box.cell' (i := 7) (v := .int .i64 s.high) rfl
    have sf0 := hEB.box.frozen 0
    have sf1 := hEB.box.frozen 1
    have sf2 := hEB.box.frozen 2
    have sf3 := hEB.box.frozen 3
    have sf4 := hEB.box.frozen 4
    have sf5 := hEB.box.frozen 5
    have sf6 := hEB.box.frozen 6
    have sf7 := hEB.box.frozen 7
    have v0 := hEB.ent.cell' (i := 0) (v := .int .i64 2) rfl
    have v1 := hEB.ent.cell' (i := 1) (v := .int .i64 tick) rfl
    have v2 := hEB.ent.cell' (i := 2) (v := .int .i64 tn) rfl
    have v3 := hEB.ent.cell' (i := 3) (v := .int .i64 cell) rfl
    have v4 := hEB.ent.cell' (i := 4) (v := .int .i64 other) rfl
    have v5 := hEB.ent.cell' (i := 5) (v := .int .i64 epoch) rfl
    have v6 := hEB.ent.cell' (i := 6) (v := .int .i64 since) rfl
    have v7 := hEB.ent.cell' (i := 7) (v := .int .i64 till) rfl
    have v8 := hEB.ent.cell' (i := 8) (v := .int .i64 n) rfl
    go_wp2
    clear su0 sf0 su1 sf1 su2 sf2 su3 sf3 su4 sf4 su5 sf5 su6 sf6 su7 sf7 v0 v1 v2 v3 v4 v5 v6 v7 v8
    refine wp_region_seq (fun w' : World => EB w W.heap.size (stamped s ⟨2, tick, tn, cell, other, epoch, since, till, n⟩) ⟨(some ⟨g, 0, none⟩), cp1, A2, cp2⟩ #[.int .i64 2, .int .i64 tick, .int .i64 tn, .int .i64 cell, .int .i64 other, .int .i64 epoch, .int .i64 since, .int .i64 till, .int .i64 n] w') 6 [(0, false), (1, false), (2, false), (3, false), (4, false), (5, false)] (by kernel_rfl) (by kernel_rfl) hEB.drew ?_
    simp only [List.take_succ_cons, List.take_zero, List.drop_succ_cons, List.drop_zero]
    repeat (refine wpSeqH_fix _ ?_ rfl (by exact fun _ _ _ h => h) (Or.inl ⟨by rfl, ?_⟩) ?_; rotate_left; (intro w' hSw; (try dsimp only at hSw); have su0 := hSw.box.cell' (i := 0) (v := .int .i64 tick) rfl; have su1 := hSw.box.cell' (i := 1) (v := .int .i64 (s.count + 1)) rfl; have su2 := hSw.box.cell' (i := 2) (v := .slice (some ⟨g, 0, none⟩) s.tenants.length cp1) rfl; have su3 := hSw.box.cell' (i := 3) (v := .slice A2 s.cells.length cp2) rfl; have su4 := hSw.box.cell' (i := 4) (v := .int .i64 s.proven) rfl; have su5 := hSw.box.cell' (i := 5) (v := .int .i64 s.evac) rfl; have su6 := hSw.box.cell' (i := 6) (v := .int .i64 s.low) rfl; have su7 := hSw.box.cell' (i := 7) (v := .int .i64 s.high) rfl; have sf0 := hSw.box.frozen 0; have sf1 := hSw.box.frozen 1; have sf2 := hSw.box.frozen 2; have sf3 := hSw.box.frozen 3; have sf4 := hSw.box.frozen 4; have sf5 := hSw.box.frozen 5; have sf6 := hSw.box.frozen 6; have sf7 := hSw.box.frozen 7; have v0 := hSw.ent.cell' (i := 0) (v := .int .i64 2) rfl; have v1 := hSw.ent.cell' (i := 1) (v := .int .i64 tick) rfl; have v2 := hSw.ent.cell' (i := 2) (v := .int .i64 tn) rfl; have v3 := hSw.ent.cell' (i := 3) (v := .int .i64 cell) rfl; have v4 := hSw.ent.cell' (i := 4) (v := .int .i64 other) rfl; have v5 := hSw.ent.cell' (i := 5) (v := .int .i64 epoch) rfl; have v6 := hSw.ent.cell' (i := 6) (v := .int .i64 since) rfl; have v7 := hSw.ent.cell' (i := 7) (v := .int .i64 till) rfl; have v8 := hSw.ent.cell' (i := 8) (v := .int .i64 n) rfl; clear hSw; go_simp; (try with_reducible rfl)); (simp only [List.getElem_toArray, List.getElem_cons_zero, List.getElem_cons_succ, Act.put, List.setIfInBounds_toArray, List.set_cons_zero, List.set_cons_succ]))
    refine wpSeqH_end ?_
    simp only [List.getElem_toArray, List.getElem_cons_zero, List.getElem_cons_succ, Act.put, List.setIfInBounds_toArray, List.set_cons_zero, List.set_cons_succ, thenK]
    go_wp2_with fail
    refine (stOnTenant_any ⟨2, tick, tn, cell, other, epoch, since, till, n⟩ (tsAt s tn) g (tn * 12) cur W4.drew (by simp) htick (fun _ => hto) hBg hrow).mono ?_
    rintro r w5 ⟨rfl, hR⟩
    have hEB2 := EB.ten hEB.drew htn rfl hbg htk hsz hnn hmm hR
    clear hR hEB hBg hrow
    go_upto_region 21 with fail
    have hbx := hEB2.box
    have hrs := hEB2.res
    unfold stC at hbx
    try simp only [stamped, setTen, setCel, List.length_set] at hbx
    refine wp_region_lit ?_
    refine wpList_load_mid (by rfl) _ (.tmp 2) (by rfl) w.heap.size 0 (by go_simp) [.int .i64 tick, .int .i64 (s.count + 1), .slice (some ⟨g, 0, none⟩) s.tenants.length cp1, .slice A2 s.cells.length cp2, .int .i64 s.proven, .int .i64 s.evac, .int .i64 s.low, .int .i64 s.high] _ hbx.range Try.underlying36 rfl stSize ?_
    simp only [List.getElem_toArray, List.getElem_cons_zero, List.getElem_cons_succ, Act.put, List.setIfInBounds_toArray, List.set_cons_zero, List.set_cons_succ]
    refine wpList_store_mid (by rfl) _ (.tmp 4) (.tmp 81) (by rfl) (w.heap.size + 1 + 1) 0 #[.int .i64 tick, .int .i64 (s.count + 1), .slice (some ⟨g, 0, none⟩) s.tenants.length cp1, .slice A2 s.cells.length cp2, .int .i64 s.proven, .int .i64 s.evac, .int .i64 s.low, .int .i64 s.high] (by go_simp) (by go_simp) (hrs.there 0 8 (by simp)) stSize (by simp [Value.oneCell']) ?_
    have hr2 := hrs.setCells [.int .i64 tick, .int .i64 (s.count + 1), .slice (some ⟨g, 0, none⟩) s.tenants.length cp1, .slice A2 s.cells.length cp2, .int .i64 s.proven, .int .i64 s.evac, .int .i64 s.low, .int .i64 s.high] 0
    simp only [putL, List.setIfInBounds_toArray, List.set_cons_zero, List.set_cons_succ, Nat.reduceAdd] at hr2
    have HF := Lib.hid (EB.fin hEB2 [.int .i64 tick, .int .i64 (s.count + 1), .slice (some ⟨g, 0, none⟩) s.tenants.length cp1, .slice A2 s.cells.length cp2, .int .i64 s.proven, .int .i64 s.evac, .int .i64 s.low, .int .i64 s.high])
    generalize World.setCells _ (w.heap.size + 1 + 1) 0 _ = W9 at *
    clear hbx hrs
    have g0 := hr2.cell' (i := 0) (v := .int .i64 tick) rfl
    have g1 := hr2.cell' (i := 1) (v := .int .i64 (s.count + 1)) rfl
    have g2 := hr2.cell' (i := 2) (v := .slice (some ⟨g, 0, none⟩) s.tenants.length cp1) rfl
    have g3 := hr2.cell' (i := 3) (v := .slice A2 s.cells.length cp2) rfl
    have g4 := hr2.cell' (i := 4) (v := .int .i64 s.proven) rfl
    have g5 := hr2.cell' (i := 5) (v := .int .i64 s.evac) rfl
    have g6 := hr2.cell' (i := 6) (v := .int .i64 s.low) rfl
    have g7 := hr2.cell' (i := 7) (v := .int .i64 s.high) rfl
    go_wp2
    refine bodyPost_ret (v := .agg #[.int .i64 tick, .int .i64 (s.count + 1), .slice (some ⟨g, 0, none⟩) s.tenants.length cp1, .slice A2 s.cells.length cp2, .int .i64 s.proven, .int .i64 s.evac, .int .i64 s.low, .int .i64 s.high]) (by simp [results, Try.results29, go_sem, g0, g1, g2, g3, g4, g5, g6, g7]) rfl ?_
    have hst : stC ⟨some ⟨g, 0, none⟩, cp1, A2, cp2⟩ (effOf s ⟨2, tick, tn, cell, other, epoch, since, till, n⟩) = #[.int .i64 tick, .int .i64 (s.count + 1), .slice (some ⟨g, 0, none⟩) s.tenants.length cp1, .slice A2 s.cells.length cp2, .int .i64 s.proven, .int .i64 s.evac, .int .i64 s.low, .int .i64 s.high] := by simp [stC, effOf, setTen, setCel, stamped]
    exact ⟨⟨some ⟨g, 0, none⟩, cp1, A2, cp2⟩, by rw [hst], HF.out.1, HF.out.2⟩
  · skip
    have hten := ent_ten HI.out HA.out.ent (show (3 : Int) ≤ 8 by decide)
    simp only at hten
    obtain ⟨tn, rfl⟩ := Int.eq_ofNat_of_zero_le hten.1
    have htn : tn < s.tenants.length := by omega
    have hzt := (tsAt_mem hten.1 hten.2).1
    rw [Int.toNat_natCast] at hzt
    obtain ⟨g, cur, hA, hbg, hBg, htk, hsz, hnn, hmm⟩ := own_blk hEB.own.tenants (show 0 < s.tenants.length by omega)
    simp only at hA
    subst hA
    have hrow := own_row (enc := tsC) (size := 12) (fun _ => rfl) hzt htk
    have htick := (ent_rng HA.out.ent).1
    simp only at htick
    have su0 := hEB.box.cell' (i := 0) (v := .int .i64 tick) rfl
    have su1 := hEB.box.cell' (i := 1) (v := .int .i64 (s.count + 1)) rfl
    have su2 := hEB.box.cell' (i := 2) (v := .slice (some ⟨g, 0, none⟩) s.tenants.length cp1) rfl
    have su3 := hEB.box.cell' (i := 3) (v := .slice A2 s.cells.length cp2) rfl
    have su4 := hEB.box.cell' (i := 4) (v := .int .i64 s.proven) rfl
    have su5 := hEB.box.cell' (i := 5) (v := .int .i64 s.evac) rfl
    have su6 := hEB.box.cell' (i := 6) (v := .int .i64 s.low) rfl
    have su7 := hEB.box.cell' (i := 7) (v := .int .i64 s.high) rfl
    have sf0 := hEB.box.frozen 0
    have sf1 := hEB.box.frozen 1
    have sf2 := hEB.box.frozen 2
    have sf3 := hEB.box.frozen 3
    have sf4 := hEB.box.frozen 4
    have sf5 := hEB.box.frozen 5
    have sf6 := hEB.box.frozen 6
    have sf7 := hEB.box.frozen 7
    have v0 := hEB.ent.cell' (i := 0) (v := .int .i64 3) rfl
    have v1 := hEB.ent.cell' (i := 1) (v := .int .i64 tick) rfl
    have v2 := hEB.ent.cell' (i := 2) (v := .int .i64 tn) rfl
    have v3 := hEB.ent.cell' (i := 3) (v := .int .i64 cell) rfl
    have v4 := hEB.ent.cell' (i := 4) (v := .int .i64 other) rfl
    have v5 := hEB.ent.cell' (i := 5) (v := .int .i64 epoch) rfl
    have v6 := hEB.ent.cell' (i := 6) (v := .int .i64 since) rfl
    have v7 := hEB.ent.cell' (i := 7) (v := .int .i64 till) rfl
    have v8 := hEB.ent.cell' (i := 8) (v := .int .i64 n) rfl
    go_wp2
    clear su0 sf0 su1 sf1 su2 sf2 su3 sf3 su4 sf4 su5 sf5 su6 sf6 su7 sf7 v0 v1 v2 v3 v4 v5 v6 v7 v8
    refine wp_region_seq (fun w' : World => EB w W.heap.size (stamped s ⟨3, tick, tn, cell, other, epoch, since, till, n⟩) ⟨(some ⟨g, 0, none⟩), cp1, A2, cp2⟩ #[.int .i64 3, .int .i64 tick, .int .i64 tn, .int .i64 cell, .int .i64 other, .int .i64 epoch, .int .i64 since, .int .i64 till, .int .i64 n] w') 6 [(0, false), (1, false), (2, false), (3, false), (4, false), (5, false)] (by kernel_rfl) (by kernel_rfl) hEB.drew ?_
    simp only [List.take_succ_cons, List.take_zero, List.drop_succ_cons, List.drop_zero]
    repeat (refine wpSeqH_fix _ ?_ rfl (by exact fun _ _ _ h => h) (Or.inl ⟨by rfl, ?_⟩) ?_; rotate_left; (intro w' hSw; (try dsimp only at hSw); have su0 := hSw.box.cell' (i := 0) (v := .int .i64 tick) rfl; have su1 := hSw.box.cell' (i := 1) (v := .int .i64 (s.count + 1)) rfl; have su2 := hSw.box.cell' (i := 2) (v := .slice (some ⟨g, 0, none⟩) s.tenants.length cp1) rfl; have su3 := hSw.box.cell' (i := 3) (v := .slice A2 s.cells.length cp2) rfl; have su4 := hSw.box.cell' (i := 4) (v := .int .i64 s.proven) rfl; have su5 := hSw.box.cell' (i := 5) (v := .int .i64 s.evac) rfl; have su6 := hSw.box.cell' (i := 6) (v := .int .i64 s.low) rfl; have su7 := hSw.box.cell' (i := 7) (v := .int .i64 s.high) rfl; have sf0 := hSw.box.frozen 0; have sf1 := hSw.box.frozen 1; have sf2 := hSw.box.frozen 2; have sf3 := hSw.box.frozen 3; have sf4 := hSw.box.frozen 4; have sf5 := hSw.box.frozen 5; have sf6 := hSw.box.frozen 6; have sf7 := hSw.box.frozen 7; have v0 := hSw.ent.cell' (i := 0) (v := .int .i64 3) rfl; have v1 := hSw.ent.cell' (i := 1) (v := .int .i64 tick) rfl; have v2 := hSw.ent.cell' (i := 2) (v := .int .i64 tn) rfl; have v3 := hSw.ent.cell' (i := 3) (v := .int .i64 cell) rfl; have v4 := hSw.ent.cell' (i := 4) (v := .int .i64 other) rfl; have v5 := hSw.ent.cell' (i := 5) (v := .int .i64 epoch) rfl; have v6 := hSw.ent.cell' (i := 6) (v := .int .i64 since) rfl; have v7 := hSw.ent.cell' (i := 7) (v := .int .i64 till) rfl; have v8 := hSw.ent.cell' (i := 8) (v := .int .i64 n) rfl; clear hSw; go_simp; (try with_reducible rfl)); (simp only [List.getElem_toArray, List.getElem_cons_zero, List.getElem_cons_succ, Act.put, List.setIfInBounds_toArray, List.set_cons_zero, List.set_cons_succ]))
    refine wpSeqH_end ?_
    simp only [List.getElem_toArray, List.getElem_cons_zero, List.getElem_cons_succ, Act.put, List.setIfInBounds_toArray, List.set_cons_zero, List.set_cons_succ, thenK]
    go_wp2_with fail
    refine (stOnTenant_any ⟨3, tick, tn, cell, other, epoch, since, till, n⟩ (tsAt s tn) g (tn * 12) cur W4.drew (by simp) htick (fun h => absurd (show (3 : Int) = 2 from h) (by decide)) hBg hrow).mono ?_
    rintro r w5 ⟨rfl, hR⟩
    have hEB2 := EB.ten hEB.drew htn rfl hbg htk hsz hnn hmm hR
    clear hR hEB hBg hrow
    go_upto_region 21 with fail
    have hbx := hEB2.box
    have hrs := hEB2.res
    unfold stC at hbx
    try simp only [stamped, setTen, setCel, List.length_set] at hbx
    refine wp_region_lit ?_
    refine wpList_load_mid (by rfl) _ (.tmp 2) (by rfl) w.heap.size 0 (by go_simp) [.int .i64 tick, .int .i64 (s.count + 1), .slice (some ⟨g, 0, none⟩) s.tenants.length cp1, .slice A2 s.cells.length cp2, .int .i64 s.proven, .int .i64 s.evac, .int .i64 s.low, .int .i64 s.high] _ hbx.range Try.underlying36 rfl stSize ?_
    simp only [List.getElem_toArray, List.getElem_cons_zero, List.getElem_cons_succ, Act.put, List.setIfInBounds_toArray, List.set_cons_zero, List.set_cons_succ]
    refine wpList_store_mid (by rfl) _ (.tmp 4) (.tmp 81) (by rfl) (w.heap.size + 1 + 1) 0 #[.int .i64 tick, .int .i64 (s.count + 1), .slice (some ⟨g, 0, none⟩) s.tenants.length cp1, .slice A2 s.cells.length cp2, .int .i64 s.proven, .int .i64 s.evac, .int .i64 s.low, .int .i64 s.high] (by go_simp) (by go_simp) (hrs.there 0 8 (by simp)) stSize (by simp [Value.oneCell']) ?_
    have hr2 := hrs.setCells [.int .i64 tick, .int .i64 (s.count + 1), .slice (some ⟨g, 0, none⟩) s.tenants.length cp1, .slice A2 s.cells.length cp2, .int .i64 s.proven, .int .i64 s.evac, .int .i64 s.low, .int .i64 s.high] 0
    simp only [putL, List.setIfInBounds_toArray, List.set_cons_zero, List.set_cons_succ, Nat.reduceAdd] at hr2
    have HF := Lib.hid (EB.fin hEB2 [.int .i64 tick, .int .i64 (s.count + 1), .slice (some ⟨g, 0, none⟩) s.tenants.length cp1, .slice A2 s.cells.length cp2, .int .i64 s.proven, .int .i64 s.evac, .int .i64 s.low, .int .i64 s.high])
    generalize World.setCells _ (w.heap.size + 1 + 1) 0 _ = W9 at *
    clear hbx hrs
    have g0 := hr2.cell' (i := 0) (v := .int .i64 tick) rfl
    have g1 := hr2.cell' (i := 1) (v := .int .i64 (s.count + 1)) rfl
    have g2 := hr2.cell' (i := 2) (v := .slice (some ⟨g, 0, none⟩) s.tenants.length cp1) rfl
    have g3 := hr2.cell' (i := 3) (v := .slice A2 s.cells.length cp2) rfl
    have g4 := hr2.cell' (i := 4) (v := .int .i64 s.proven) rfl
    have g5 := hr2.cell' (i := 5) (v := .int .i64 s.evac) rfl
    have g6 := hr2.cell' (i := 6) (v := .int .i64 s.low) rfl
    have g7 := hr2.cell' (i := 7) (v := .int .i64 s.high) rfl
    go_wp2
    refine bodyPost_ret (v := .agg #[.int .i64 tick, .int .i64 (s.count + 1), .slice (some ⟨g, 0, none⟩) s.tenants.length cp1, .slice A2 s.cells.length cp2, .int .i64 s.proven, .int .i64 s.evac, .int .i64 s.low, .int .i64 s.high]) (by simp [results, Try.results29, go_sem, g0, g1, g2, g3, g4, g5, g6, g7]) rfl ?_
    have hst : stC ⟨some ⟨g, 0, none⟩, cp1, A2, cp2⟩ (effOf s ⟨3, tick, tn, cell, other, epoch, since, till, n⟩) = #[.int .i64 tick, .int .i64 (s.count + 1), .slice (some ⟨g, 0, none⟩) s.tenants.length cp1, .slice A2 s.cells.length cp2, .int .i64 s.proven, .int .i64 s.evac, .int .i64 s.low, .int .i64 s.high] := by simp [stC, effOf, setTen, setCel, stamped]
    exact ⟨⟨some ⟨g, 0, none⟩, cp1, A2, cp2⟩, by rw [hst], HF.out.1, HF.out.2⟩
  · skip
    have hten := ent_ten HI.out HA.out.ent (show (4 : Int) ≤ 8 by decide)
    simp only at hten
    obtain ⟨tn, rfl⟩ := Int.eq_ofNat_of_zero_le hten.1
    have htn : tn < s.tenants.length := by omega
    have hzt := (tsAt_mem hten.1 hten.2).1
    rw [Int.toNat_natCast] at hzt
    obtain ⟨g, cur, hA, hbg, hBg, htk, hsz, hnn, hmm⟩ := own_blk hEB.own.tenants (show 0 < s.tenants.length by omega)
    simp only at hA
    subst hA
    have hrow := own_row (enc := tsC) (size := 12) (fun _ => rfl) hzt htk
    have htick := (ent_rng HA.out.ent).1
    simp only at htick
    have su0 := hEB.box.cell' (i := 0) (v := .int .i64 tick) rfl
    have su1 := hEB.box.cell' (i := 1) (v := .int .i64 (s.count + 1)) rfl
    have su2 := hEB.box.cell' (i := 2) (v := .slice (some ⟨g, 0, none⟩) s.tenants.length cp1) rfl
    have su3 := hEB.box.cell' (i := 3) (v := .slice A2 s.cells.length cp2) rfl
    have su4 := hEB.box.cell' (i := 4) (v := .int .i64 s.proven) rfl
    have su5 := hEB.box.cell' (i := 5) (v := .int .i64 s.evac) rfl
    have su6 := hEB.box.cell' (i := 6) (v := .int .i64 s.low) rfl
    have su7 := hEB.box.cell' (i := 7) (v := .int .i64 s.high) rfl
    have sf0 := hEB.box.frozen 0
    have sf1 := hEB.box.frozen 1
    have sf2 := hEB.box.frozen 2
    have sf3 := hEB.box.frozen 3
    have sf4 := hEB.box.frozen 4
    have sf5 := hEB.box.frozen 5
    have sf6 := hEB.box.frozen 6
    have sf7 := hEB.box.frozen 7
    have v0 := hEB.ent.cell' (i := 0) (v := .int .i64 4) rfl
    have v1 := hEB.ent.cell' (i := 1) (v := .int .i64 tick) rfl
    have v2 := hEB.ent.cell' (i := 2) (v := .int .i64 tn) rfl
    have v3 := hEB.ent.cell' (i := 3) (v := .int .i64 cell) rfl
    have v4 := hEB.ent.cell' (i := 4) (v := .int .i64 other) rfl
    have v5 := hEB.ent.cell' (i := 5) (v := .int .i64 epoch) rfl
    have v6 := hEB.ent.cell' (i := 6) (v := .int .i64 since) rfl
    have v7 := hEB.ent.cell' (i := 7) (v := .int .i64 till) rfl
    have v8 := hEB.ent.cell' (i := 8) (v := .int .i64 n) rfl
    go_wp2
    clear su0 sf0 su1 sf1 su2 sf2 su3 sf3 su4 sf4 su5 sf5 su6 sf6 su7 sf7 v0 v1 v2 v3 v4 v5 v6 v7 v8
    refine wp_region_seq (fun w' : World => EB w W.heap.size (stamped s ⟨4, tick, tn, cell, other, epoch, since, till, n⟩) ⟨(some ⟨g, 0, none⟩), cp1, A2, cp2⟩ #[.int .i64 4, .int .i64 tick, .int .i64 tn, .int .i64 cell, .int .i64 other, .int .i64 epoch, .int .i64 since, .int .i64 till, .int .i64 n] w') 6 [(0, false), (1, false), (2, false), (3, false), (4, false), (5, false)] (by kernel_rfl) (by kernel_rfl) hEB.drew ?_
    simp only [List.take_succ_cons, List.take_zero, List.drop_succ_cons, List.drop_zero]
    repeat (refine wpSeqH_fix _ ?_ rfl (by exact fun _ _ _ h => h) (Or.inl ⟨by rfl, ?_⟩) ?_; rotate_left; (intro w' hSw; (try dsimp only at hSw); have su0 := hSw.box.cell' (i := 0) (v := .int .i64 tick) rfl; have su1 := hSw.box.cell' (i := 1) (v := .int .i64 (s.count + 1)) rfl; have su2 := hSw.box.cell' (i := 2) (v := .slice (some ⟨g, 0, none⟩) s.tenants.length cp1) rfl; have su3 := hSw.box.cell' (i := 3) (v := .slice A2 s.cells.length cp2) rfl; have su4 := hSw.box.cell' (i := 4) (v := .int .i64 s.proven) rfl; have su5 := hSw.box.cell' (i := 5) (v := .int .i64 s.evac) rfl; have su6 := hSw.box.cell' (i := 6) (v := .int .i64 s.low) rfl; have su7 := hSw.box.cell' (i := 7) (v := .int .i64 s.high) rfl; have sf0 := hSw.box.frozen 0; have sf1 := hSw.box.frozen 1; have sf2 := hSw.box.frozen 2; have sf3 := hSw.box.frozen 3; have sf4 := hSw.box.frozen 4; have sf5 := hSw.box.frozen 5; have sf6 := hSw.box.frozen 6; have sf7 := hSw.box.frozen 7; have v0 := hSw.ent.cell' (i := 0) (v := .int .i64 4) rfl; have v1 := hSw.ent.cell' (i := 1) (v := .int .i64 tick) rfl; have v2 := hSw.ent.cell' (i := 2) (v := .int .i64 tn) rfl; have v3 := hSw.ent.cell' (i := 3) (v := .int .i64 cell) rfl; have v4 := hSw.ent.cell' (i := 4) (v := .int .i64 other) rfl; have v5 := hSw.ent.cell' (i := 5) (v := .int .i64 epoch) rfl; have v6 := hSw.ent.cell' (i := 6) (v := .int .i64 since) rfl; have v7 := hSw.ent.cell' (i := 7) (v := .int .i64 till) rfl; have v8 := hSw.ent.cell' (i := 8) (v := .int .i64 n) rfl; clear hSw; go_simp; (try with_reducible rfl)); (simp only [List.getElem_toArray, List.getElem_cons_zero, List.getElem_cons_succ, Act.put, List.setIfInBounds_toArray, List.set_cons_zero, List.set_cons_succ]))
    refine wpSeqH_end ?_
    simp only [List.getElem_toArray, List.getElem_cons_zero, List.getElem_cons_succ, Act.put, List.setIfInBounds_toArray, List.set_cons_zero, List.set_cons_succ, thenK]
    go_wp2_with fail
    refine (stOnTenant_any ⟨4, tick, tn, cell, other, epoch, since, till, n⟩ (tsAt s tn) g (tn * 12) cur W4.drew (by simp) htick (fun h => absurd (show (4 : Int) = 2 from h) (by decide)) hBg hrow).mono ?_
    rintro r w5 ⟨rfl, hR⟩
    have hEB2 := EB.ten hEB.drew htn rfl hbg htk hsz hnn hmm hR
    clear hR hEB hBg hrow
    go_upto_region 21 with fail
    have hbx := hEB2.box
    have hrs := hEB2.res
    unfold stC at hbx
    try simp only [stamped, setTen, setCel, List.length_set] at hbx
    refine wp_region_lit ?_
    refine wpList_load_mid (by rfl) _ (.tmp 2) (by rfl) w.heap.size 0 (by go_simp) [.int .i64 tick, .int .i64 (s.count + 1), .slice (some ⟨g, 0, none⟩) s.tenants.length cp1, .slice A2 s.cells.length cp2, .int .i64 s.proven, .int .i64 s.evac, .int .i64 s.low, .int .i64 s.high] _ hbx.range Try.underlying36 rfl stSize ?_
    simp only [List.getElem_toArray, List.getElem_cons_zero, List.getElem_cons_succ, Act.put, List.setIfInBounds_toArray, List.set_cons_zero, List.set_cons_succ]
    refine wpList_store_mid (by rfl) _ (.tmp 4) (.tmp 81) (by rfl) (w.heap.size + 1 + 1) 0 #[.int .i64 tick, .int .i64 (s.count + 1), .slice (some ⟨g, 0, none⟩) s.tenants.length cp1, .slice A2 s.cells.length cp2, .int .i64 s.proven, .int .i64 s.evac, .int .i64 s.low, .int .i64 s.high] (by go_simp) (by go_simp) (hrs.there 0 8 (by simp)) stSize (by simp [Value.oneCell']) ?_
    have hr2 := hrs.setCells [.int .i64 tick, .int .i64 (s.count + 1), .slice (some ⟨g, 0, none⟩) s.tenants.length cp1, .slice A2 s.cells.length cp2, .int .i64 s.proven, .int .i64 s.evac, .int .i64 s.low, .int .i64 s.high] 0
    simp only [putL, List.setIfInBounds_toArray, List.set_cons_zero, List.set_cons_succ, Nat.reduceAdd] at hr2
    have HF := Lib.hid (EB.fin hEB2 [.int .i64 tick, .int .i64 (s.count + 1), .slice (some ⟨g, 0, none⟩) s.tenants.length cp1, .slice A2 s.cells.length cp2, .int .i64 s.proven, .int .i64 s.evac, .int .i64 s.low, .int .i64 s.high])
    generalize World.setCells _ (w.heap.size + 1 + 1) 0 _ = W9 at *
    clear hbx hrs
    have g0 := hr2.cell' (i := 0) (v := .int .i64 tick) rfl
    have g1 := hr2.cell' (i := 1) (v := .int .i64 (s.count + 1)) rfl
    have g2 := hr2.cell' (i := 2) (v := .slice (some ⟨g, 0, none⟩) s.tenants.length cp1) rfl
    have g3 := hr2.cell' (i := 3) (v := .slice A2 s.cells.length cp2) rfl
    have g4 := hr2.cell' (i := 4) (v := .int .i64 s.proven) rfl
    have g5 := hr2.cell' (i := 5) (v := .int .i64 s.evac) rfl
    have g6 := hr2.cell' (i := 6) (v := .int .i64 s.low) rfl
    have g7 := hr2.cell' (i := 7) (v := .int .i64 s.high) rfl
    go_wp2
    refine bodyPost_ret (v := .agg #[.int .i64 tick, .int .i64 (s.count + 1), .slice (some ⟨g, 0, none⟩) s.tenants.length cp1, .slice A2 s.cells.length cp2, .int .i64 s.proven, .int .i64 s.evac, .int .i64 s.low, .int .i64 s.high]) (by simp [results, Try.results29, go_sem, g0, g1, g2, g3, g4, g5, g6, g7]) rfl ?_
    have hst : stC ⟨some ⟨g, 0, none⟩, cp1, A2, cp2⟩ (effOf s ⟨4, tick, tn, cell, other, epoch, since, till, n⟩) = #[.int .i64 tick, .int .i64 (s.count + 1), .slice (some ⟨g, 0, none⟩) s.tenants.length cp1, .slice A2 s.cells.length cp2, .int .i64 s.proven, .int .i64 s.evac, .int .i64 s.low, .int .i64 s.high] := by simp [stC, effOf, setTen, setCel, stamped]
    exact ⟨⟨some ⟨g, 0, none⟩, cp1, A2, cp2⟩, by rw [hst], HF.out.1, HF.out.2⟩
  · skip
    have hten := ent_ten HI.out HA.out.ent (show (5 : Int) ≤ 8 by decide)
    simp only at hten
    obtain ⟨tn, rfl⟩ := Int.eq_ofNat_of_zero_le hten.1
    have htn : tn < s.tenants.length := by omega
    have hzt := (tsAt_mem hten.1 hten.2).1
    rw [Int.toNat_natCast] at hzt
    obtain ⟨g, cur, hA, hbg, hBg, htk, hsz, hnn, hmm⟩ := own_blk hEB.own.tenants (show 0 < s.tenants.length by omega)
    simp only at hA
    subst hA
    have hrow := own_row (enc := tsC) (size := 12) (fun _ => rfl) hzt htk
    have htick := (ent_rng HA.out.ent).1
    simp only at htick
    have su0 := hEB.box.cell' (i := 0) (v := .int .i64 tick) rfl
    have su1 := hEB.box.cell' (i := 1) (v := .int .i64 (s.count + 1)) rfl
    have su2 := hEB.box.cell' (i := 2) (v := .slice (some ⟨g, 0, none⟩) s.tenants.length cp1) rfl
    have su3 := hEB.box.cell' (i := 3) (v := .slice A2 s.cells.length cp2) rfl
    have su4 := hEB.box.cell' (i := 4) (v := .int .i64 s.proven) rfl
    have su5 := hEB.box.cell' (i := 5) (v := .int .i64 s.evac) rfl
    have su6 := hEB.box.cell' (i := 6) (v := .int .i64 s.low) rfl
    have su7 := hEB.box.cell' (i := 7) (v := .int .i64 s.high) rfl
    have sf0 := hEB.box.frozen 0
    have sf1 := hEB.box.frozen 1
    have sf2 := hEB.box.frozen 2
    have sf3 := hEB.box.frozen 3
    have sf4 := hEB.box.frozen 4
    have sf5 := hEB.box.frozen 5
    have sf6 := hEB.box.frozen 6
    have sf7 := hEB.box.frozen 7
    have v0 := hEB.ent.cell' (i := 0) (v := .int .i64 5) rfl
    have v1 := hEB.ent.cell' (i := 1) (v := .int .i64 tick) rfl
    have v2 := hEB.ent.cell' (i := 2) (v := .int .i64 tn) rfl
    have v3 := hEB.ent.cell' (i := 3) (v := .int .i64 cell) rfl
    have v4 := hEB.ent.cell' (i := 4) (v := .int .i64 other) rfl
    have v5 := hEB.ent.cell' (i := 5) (v := .int .i64 epoch) rfl
    have v6 := hEB.ent.cell' (i := 6) (v := .int .i64 since) rfl
    have v7 := hEB.ent.cell' (i := 7) (v := .int .i64 till) rfl
    have v8 := hEB.ent.cell' (i := 8) (v := .int .i64 n) rfl
    go_wp2
    clear su0 sf0 su1 sf1 su2 sf2 su3 sf3 su4 sf4 su5 sf5 su6 sf6 su7 sf7 v0 v1 v2 v3 v4 v5 v6 v7 v8
    refine wp_region_seq (fun w' : World => EB w W.heap.size (stamped s ⟨5, tick, tn, cell, other, epoch, since, till, n⟩) ⟨(some ⟨g, 0, none⟩), cp1, A2, cp2⟩ #[.int .i64 5, .int .i64 tick, .int .i64 tn, .int .i64 cell, .int .i64 other, .int .i64 epoch, .int .i64 since, .int .i64 till, .int .i64 n] w') 6 [(0, false), (1, false), (2, false), (3, false), (4, false), (5, false)] (by kernel_rfl) (by kernel_rfl) hEB.drew ?_
    simp only [List.take_succ_cons, List.take_zero, List.drop_succ_cons, List.drop_zero]
    repeat (refine wpSeqH_fix _ ?_ rfl (by exact fun _ _ _ h => h) (Or.inl ⟨by rfl, ?_⟩) ?_; rotate_left; (intro w' hSw; (try dsimp only at hSw); have su0 := hSw.box.cell' (i := 0) (v := .int .i64 tick) rfl; have su1 := hSw.box.cell' (i := 1) (v := .int .i64 (s.count + 1)) rfl; have su2 := hSw.box.cell' (i := 2) (v := .slice (some ⟨g, 0, none⟩) s.tenants.length cp1) rfl; have su3 := hSw.box.cell' (i := 3) (v := .slice A2 s.cells.length cp2) rfl; have su4 := hSw.box.cell' (i := 4) (v := .int .i64 s.proven) rfl; have su5 := hSw.box.cell' (i := 5) (v := .int .i64 s.evac) rfl; have su6 := hSw.box.cell' (i := 6) (v := .int .i64 s.low) rfl; have su7 := hSw.box.cell' (i := 7) (v := .int .i64 s.high) rfl; have sf0 := hSw.box.frozen 0; have sf1 := hSw.box.frozen 1; have sf2 := hSw.box.frozen 2; have sf3 := hSw.box.frozen 3; have sf4 := hSw.box.frozen 4; have sf5 := hSw.box.frozen 5; have sf6 := hSw.box.frozen 6; have sf7 := hSw.box.frozen 7; have v0 := hSw.ent.cell' (i := 0) (v := .int .i64 5) rfl; have v1 := hSw.ent.cell' (i := 1) (v := .int .i64 tick) rfl; have v2 := hSw.ent.cell' (i := 2) (v := .int .i64 tn) rfl; have v3 := hSw.ent.cell' (i := 3) (v := .int .i64 cell) rfl; have v4 := hSw.ent.cell' (i := 4) (v := .int .i64 other) rfl; have v5 := hSw.ent.cell' (i := 5) (v := .int .i64 epoch) rfl; have v6 := hSw.ent.cell' (i := 6) (v := .int .i64 since) rfl; have v7 := hSw.ent.cell' (i := 7) (v := .int .i64 till) rfl; have v8 := hSw.ent.cell' (i := 8) (v := .int .i64 n) rfl; clear hSw; go_simp; (try with_reducible rfl)); (simp only [List.getElem_toArray, List.getElem_cons_zero, List.getElem_cons_succ, Act.put, List.setIfInBounds_toArray, List.set_cons_zero, List.set_cons_succ]))
    refine wpSeqH_end ?_
    simp only [List.getElem_toArray, List.getElem_cons_zero, List.getElem_cons_succ, Act.put, List.setIfInBounds_toArray, List.set_cons_zero, List.set_cons_succ, thenK]
    go_wp2_with fail
    refine (stOnTenant_any ⟨5, tick, tn, cell, other, epoch, since, till, n⟩ (tsAt s tn) g (tn * 12) cur W4.drew (by simp) htick (fun h => absurd (show (5 : Int) = 2 from h) (by decide)) hBg hrow).mono ?_
    rintro r w5 ⟨rfl, hR⟩
    have hEB2 := EB.ten hEB.drew htn rfl hbg htk hsz hnn hmm hR
    clear hR hEB hBg hrow
    go_upto_region 21 with fail
    have hbx := hEB2.box
    have hrs := hEB2.res
    unfold stC at hbx
    try simp only [stamped, setTen, setCel, List.length_set] at hbx
    refine wp_region_lit ?_
    refine wpList_load_mid (by rfl) _ (.tmp 2) (by rfl) w.heap.size 0 (by go_simp) [.int .i64 tick, .int .i64 (s.count + 1), .slice (some ⟨g, 0, none⟩) s.tenants.length cp1, .slice A2 s.cells.length cp2, .int .i64 s.proven, .int .i64 s.evac, .int .i64 s.low, .int .i64 s.high] _ hbx.range Try.underlying36 rfl stSize ?_
    simp only [List.getElem_toArray, List.getElem_cons_zero, List.getElem_cons_succ, Act.put, List.setIfInBounds_toArray, List.set_cons_zero, List.set_cons_succ]
    refine wpList_store_mid (by rfl) _ (.tmp 4) (.tmp 81) (by rfl) (w.heap.size + 1 + 1) 0 #[.int .i64 tick, .int .i64 (s.count + 1), .slice (some ⟨g, 0, none⟩) s.tenants.length cp1, .slice A2 s.cells.length cp2, .int .i64 s.proven, .int .i64 s.evac, .int .i64 s.low, .int .i64 s.high] (by go_simp) (by go_simp) (hrs.there 0 8 (by simp)) stSize (by simp [Value.oneCell']) ?_
    have hr2 := hrs.setCells [.int .i64 tick, .int .i64 (s.count + 1), .slice (some ⟨g, 0, none⟩) s.tenants.length cp1, .slice A2 s.cells.length cp2, .int .i64 s.proven, .int .i64 s.evac, .int .i64 s.low, .int .i64 s.high] 0
    simp only [putL, List.setIfInBounds_toArray, List.set_cons_zero, List.set_cons_succ, Nat.reduceAdd] at hr2
    have HF := Lib.hid (EB.fin hEB2 [.int .i64 tick, .int .i64 (s.count + 1), .slice (some ⟨g, 0, none⟩) s.tenants.length cp1, .slice A2 s.cells.length cp2, .int .i64 s.proven, .int .i64 s.evac, .int .i64 s.low, .int .i64 s.high])
    generalize World.setCells _ (w.heap.size + 1 + 1) 0 _ = W9 at *
    clear hbx hrs
    have g0 := hr2.cell' (i := 0) (v := .int .i64 tick) rfl
    have g1 := hr2.cell' (i := 1) (v := .int .i64 (s.count + 1)) rfl
    have g2 := hr2.cell' (i := 2) (v := .slice (some ⟨g, 0, none⟩) s.tenants.length cp1) rfl
    have g3 := hr2.cell' (i := 3) (v := .slice A2 s.cells.length cp2) rfl
    have g4 := hr2.cell' (i := 4) (v := .int .i64 s.proven) rfl
    have g5 := hr2.cell' (i := 5) (v := .int .i64 s.evac) rfl
    have g6 := hr2.cell' (i := 6) (v := .int .i64 s.low) rfl
    have g7 := hr2.cell' (i := 7) (v := .int .i64 s.high) rfl
    go_wp2
    refine bodyPost_ret (v := .agg #[.int .i64 tick, .int .i64 (s.count + 1), .slice (some ⟨g, 0, none⟩) s.tenants.length cp1, .slice A2 s.cells.length cp2, .int .i64 s.proven, .int .i64 s.evac, .int .i64 s.low, .int .i64 s.high]) (by simp [results, Try.results29, go_sem, g0, g1, g2, g3, g4, g5, g6, g7]) rfl ?_
    have hst : stC ⟨some ⟨g, 0, none⟩, cp1, A2, cp2⟩ (effOf s ⟨5, tick, tn, cell, other, epoch, since, till, n⟩) = #[.int .i64 tick, .int .i64 (s.count + 1), .slice (some ⟨g, 0, none⟩) s.tenants.length cp1, .slice A2 s.cells.length cp2, .int .i64 s.proven, .int .i64 s.evac, .int .i64 s.low, .int .i64 s.high] := by simp [stC, effOf, setTen, setCel, stamped]
    exact ⟨⟨some ⟨g, 0, none⟩, cp1, A2, cp2⟩, by rw [hst], HF.out.1, HF.out.2⟩
  · skip
    have hten := ent_ten HI.out HA.out.ent (show (6 : Int) ≤ 8 by decide)
    simp only at hten
    obtain ⟨tn, rfl⟩ := Int.eq_ofNat_of_zero_le hten.1
    have htn : tn < s.tenants.length := by omega
    have hzt := (tsAt_mem hten.1 hten.2).1
    rw [Int.toNat_natCast] at hzt
    obtain ⟨g, cur, hA, hbg, hBg, htk, hsz, hnn, hmm⟩ := own_blk hEB.own.tenants (show 0 < s.tenants.length by omega)
    simp only at hA
    subst hA
    have hrow := own_row (enc := tsC) (size := 12) (fun _ => rfl) hzt htk
    have htick := (ent_rng HA.out.ent).1
    simp only at htick
    have su0 := hEB.box.cell' (i := 0) (v := .int .i64 tick) rfl
    have su1 := hEB.box.cell' (i := 1) (v := .int .i64 (s.count + 1)) rfl
    have su2 := hEB.box.cell' (i := 2) (v := .slice (some ⟨g, 0, none⟩) s.tenants.length cp1) rfl
    have su3 := hEB.box.cell' (i := 3) (v := .slice A2 s.cells.length cp2) rfl
    have su4 := hEB.box.cell' (i := 4) (v := .int .i64 s.proven) rfl
    have su5 := hEB.box.cell' (i := 5) (v := .int .i64 s.evac) rfl
    have su6 := hEB.box.cell' (i := 6) (v := .int .i64 s.low) rfl
    have su7 := hEB.box.cell' (i := 7) (v := .int .i64 s.high) rfl
    have sf0 := hEB.box.frozen 0
    have sf1 := hEB.box.frozen 1
    have sf2 := hEB.box.frozen 2
    have sf3 := hEB.box.frozen 3
    have sf4 := hEB.box.frozen 4
    have sf5 := hEB.box.frozen 5
    have sf6 := hEB.box.frozen 6
    have sf7 := hEB.box.frozen 7
    have v0 := hEB.ent.cell' (i := 0) (v := .int .i64 6) rfl
    have v1 := hEB.ent.cell' (i := 1) (v := .int .i64 tick) rfl
    have v2 := hEB.ent.cell' (i := 2) (v := .int .i64 tn) rfl
    have v3 := hEB.ent.cell' (i := 3) (v := .int .i64 cell) rfl
    have v4 := hEB.ent.cell' (i := 4) (v := .int .i64 other) rfl
    have v5 := hEB.ent.cell' (i := 5) (v := .int .i64 epoch) rfl
    have v6 := hEB.ent.cell' (i := 6) (v := .int .i64 since) rfl
    have v7 := hEB.ent.cell' (i := 7) (v := .int .i64 till) rfl
    have v8 := hEB.ent.cell' (i := 8) (v := .int .i64 n) rfl
    go_wp2
    clear su0 sf0 su1 sf1 su2 sf2 su3 sf3 su4 sf4 su5 sf5 su6 sf6 su7 sf7 v0 v1 v2 v3 v4 v5 v6 v7 v8
    refine wp_region_seq (fun w' : World => EB w W.heap.size (stamped s ⟨6, tick, tn, cell, other, epoch, since, till, n⟩) ⟨(some ⟨g, 0, none⟩), cp1, A2, cp2⟩ #[.int .i64 6, .int .i64 tick, .int .i64 tn, .int .i64 cell, .int .i64 other, .int .i64 epoch, .int .i64 since, .int .i64 till, .int .i64 n] w') 6 [(0, false), (1, false), (2, false), (3, false), (4, false), (5, false)] (by kernel_rfl) (by kernel_rfl) hEB.drew ?_
    simp only [List.take_succ_cons, List.take_zero, List.drop_succ_cons, List.drop_zero]
    repeat (refine wpSeqH_fix _ ?_ rfl (by exact fun _ _ _ h => h) (Or.inl ⟨by rfl, ?_⟩) ?_; rotate_left; (intro w' hSw; (try dsimp only at hSw); have su0 := hSw.box.cell' (i := 0) (v := .int .i64 tick) rfl; have su1 := hSw.box.cell' (i := 1) (v := .int .i64 (s.count + 1)) rfl; have su2 := hSw.box.cell' (i := 2) (v := .slice (some ⟨g, 0, none⟩) s.tenants.length cp1) rfl; have su3 := hSw.box.cell' (i := 3) (v := .slice A2 s.cells.length cp2) rfl; have su4 := hSw.box.cell' (i := 4) (v := .int .i64 s.proven) rfl; have su5 := hSw.box.cell' (i := 5) (v := .int .i64 s.evac) rfl; have su6 := hSw.box.cell' (i := 6) (v := .int .i64 s.low) rfl; have su7 := hSw.box.cell' (i := 7) (v := .int .i64 s.high) rfl; have sf0 := hSw.box.frozen 0; have sf1 := hSw.box.frozen 1; have sf2 := hSw.box.frozen 2; have sf3 := hSw.box.frozen 3; have sf4 := hSw.box.frozen 4; have sf5 := hSw.box.frozen 5; have sf6 := hSw.box.frozen 6; have sf7 := hSw.box.frozen 7; have v0 := hSw.ent.cell' (i := 0) (v := .int .i64 6) rfl; have v1 := hSw.ent.cell' (i := 1) (v := .int .i64 tick) rfl; have v2 := hSw.ent.cell' (i := 2) (v := .int .i64 tn) rfl; have v3 := hSw.ent.cell' (i := 3) (v := .int .i64 cell) rfl; have v4 := hSw.ent.cell' (i := 4) (v := .int .i64 other) rfl; have v5 := hSw.ent.cell' (i := 5) (v := .int .i64 epoch) rfl; have v6 := hSw.ent.cell' (i := 6) (v := .int .i64 since) rfl; have v7 := hSw.ent.cell' (i := 7) (v := .int .i64 till) rfl; have v8 := hSw.ent.cell' (i := 8) (v := .int .i64 n) rfl; clear hSw; go_simp; (try with_reducible rfl)); (simp only [List.getElem_toArray, List.getElem_cons_zero, List.getElem_cons_succ, Act.put, List.setIfInBounds_toArray, List.set_cons_zero, List.set_cons_succ]))
    refine wpSeqH_end ?_
    simp only [List.getElem_toArray, List.getElem_cons_zero, List.getElem_cons_succ, Act.put, List.setIfInBounds_toArray, List.set_cons_zero, List.set_cons_succ, thenK]
    go_wp2_with fail
    refine (stOnTenant_any ⟨6, tick, tn, cell, other, epoch, since, till, n⟩ (tsAt s tn) g (tn * 12) cur W4.drew (by simp) htick (fun h => absurd (show (6 : Int) = 2 from h) (by decide)) hBg hrow).mono ?_
    rintro r w5 ⟨rfl, hR⟩
    have hEB2 := EB.ten hEB.drew htn rfl hbg htk hsz hnn hmm hR
    clear hR hEB hBg hrow
    go_upto_region 21 with fail
    have hbx := hEB2.box
    have hrs := hEB2.res
    unfold stC at hbx
    try simp only [stamped, setTen, setCel, List.length_set] at hbx
    refine wp_region_lit ?_
    refine wpList_load_mid (by rfl) _ (.tmp 2) (by rfl) w.heap.size 0 (by go_simp) [.int .i64 tick, .int .i64 (s.count + 1), .slice (some ⟨g, 0, none⟩) s.tenants.length cp1, .slice A2 s.cells.length cp2, .int .i64 s.proven, .int .i64 s.evac, .int .i64 s.low, .int .i64 s.high] _ hbx.range Try.underlying36 rfl stSize ?_
    simp only [List.getElem_toArray, List.getElem_cons_zero, List.getElem_cons_succ, Act.put, List.setIfInBounds_toArray, List.set_cons_zero, List.set_cons_succ]
    refine wpList_store_mid (by rfl) _ (.tmp 4) (.tmp 81) (by rfl) (w.heap.size + 1 + 1) 0 #[.int .i64 tick, .int .i64 (s.count + 1), .slice (some ⟨g, 0, none⟩) s.tenants.length cp1, .slice A2 s.cells.length cp2, .int .i64 s.proven, .int .i64 s.evac, .int .i64 s.low, .int .i64 s.high] (by go_simp) (by go_simp) (hrs.there 0 8 (by simp)) stSize (by simp [Value.oneCell']) ?_
    have hr2 := hrs.setCells [.int .i64 tick, .int .i64 (s.count + 1), .slice (some ⟨g, 0, none⟩) s.tenants.length cp1, .slice A2 s.cells.length cp2, .int .i64 s.proven, .int .i64 s.evac, .int .i64 s.low, .int .i64 s.high] 0
    simp only [putL, List.setIfInBounds_toArray, List.set_cons_zero, List.set_cons_succ, Nat.reduceAdd] at hr2
    have HF := Lib.hid (EB.fin hEB2 [.int .i64 tick, .int .i64 (s.count + 1), .slice (some ⟨g, 0, none⟩) s.tenants.length cp1, .slice A2 s.cells.length cp2, .int .i64 s.proven, .int .i64 s.evac, .int .i64 s.low, .int .i64 s.high])
    generalize World.setCells _ (w.heap.size + 1 + 1) 0 _ = W9 at *
    clear hbx hrs
    have g0 := hr2.cell' (i := 0) (v := .int .i64 tick) rfl
    have g1 := hr2.cell' (i := 1) (v := .int .i64 (s.count + 1)) rfl
    have g2 := hr2.cell' (i := 2) (v := .slice (some ⟨g, 0, none⟩) s.tenants.length cp1) rfl
    have g3 := hr2.cell' (i := 3) (v := .slice A2 s.cells.length cp2) rfl
    have g4 := hr2.cell' (i := 4) (v := .int .i64 s.proven) rfl
    have g5 := hr2.cell' (i := 5) (v := .int .i64 s.evac) rfl
    have g6 := hr2.cell' (i := 6) (v := .int .i64 s.low) rfl
    have g7 := hr2.cell' (i := 7) (v := .int .i64 s.high) rfl
    go_wp2
    refine bodyPost_ret (v := .agg #[.int .i64 tick, .int .i64 (s.count + 1), .slice (some ⟨g, 0, none⟩) s.tenants.length cp1, .slice A2 s.cells.length cp2, .int .i64 s.proven, .int .i64 s.evac, .int .i64 s.low, .int .i64 s.high]) (by simp [results, Try.results29, go_sem, g0, g1, g2, g3, g4, g5, g6, g7]) rfl ?_
    have hst : stC ⟨some ⟨g, 0, none⟩, cp1, A2, cp2⟩ (effOf s ⟨6, tick, tn, cell, other, epoch, since, till, n⟩) = #[.int .i64 tick, .int .i64 (s.count + 1), .slice (some ⟨g, 0, none⟩) s.tenants.length cp1, .slice A2 s.cells.length cp2, .int .i64 s.proven, .int .i64 s.evac, .int .i64 s.low, .int .i64 s.high] := by simp [stC, effOf, setTen, setCel, stamped]
    exact ⟨⟨some ⟨g, 0, none⟩, cp1, A2, cp2⟩, by rw [hst], HF.out.1, HF.out.2⟩
  · skip
    have hten := ent_ten HI.out HA.out.ent (show (7 : Int) ≤ 8 by decide)
    simp only at hten
    obtain ⟨tn, rfl⟩ := Int.eq_ofNat_of_zero_le hten.1
    have htn : tn < s.tenants.length := by omega
    have hzt := (tsAt_mem hten.1 hten.2).1
    rw [Int.toNat_natCast] at hzt
    obtain ⟨g, cur, hA, hbg, hBg, htk, hsz, hnn, hmm⟩ := own_blk hEB.own.tenants (show 0 < s.tenants.length by omega)
    simp only at hA
    subst hA
    have hrow := own_row (enc := tsC) (size := 12) (fun _ => rfl) hzt htk
    have htick := (ent_rng HA.out.ent).1
    simp only at htick
    have su0 := hEB.box.cell' (i := 0) (v := .int .i64 tick) rfl
    have su1 := hEB.box.cell' (i := 1) (v := .int .i64 (s.count + 1)) rfl
    have su2 := hEB.box.cell' (i := 2) (v := .slice (some ⟨g, 0, none⟩) s.tenants.length cp1) rfl
    have su3 := hEB.box.cell' (i := 3) (v := .slice A2 s.cells.length cp2) rfl
    have su4 := hEB.box.cell' (i := 4) (v := .int .i64 s.proven) rfl
    have su5 := hEB.box.cell' (i := 5) (v := .int .i64 s.evac) rfl
    have su6 := hEB.box.cell' (i := 6) (v := .int .i64 s.low) rfl
    have su7 := hEB.box.cell' (i := 7) (v := .int .i64 s.high) rfl
    have sf0 := hEB.box.frozen 0
    have sf1 := hEB.box.frozen 1
    have sf2 := hEB.box.frozen 2
    have sf3 := hEB.box.frozen 3
    have sf4 := hEB.box.frozen 4
    have sf5 := hEB.box.frozen 5
    have sf6 := hEB.box.frozen 6
    have sf7 := hEB.box.frozen 7
    have v0 := hEB.ent.cell' (i := 0) (v := .int .i64 7) rfl
    have v1 := hEB.ent.cell' (i := 1) (v := .int .i64 tick) rfl
    have v2 := hEB.ent.cell' (i := 2) (v := .int .i64 tn) rfl
    have v3 := hEB.ent.cell' (i := 3) (v := .int .i64 cell) rfl
    have v4 := hEB.ent.cell' (i := 4) (v := .int .i64 other) rfl
    have v5 := hEB.ent.cell' (i := 5) (v := .int .i64 epoch) rfl
    have v6 := hEB.ent.cell' (i := 6) (v := .int .i64 since) rfl
    have v7 := hEB.ent.cell' (i := 7) (v := .int .i64 till) rfl
    have v8 := hEB.ent.cell' (i := 8) (v := .int .i64 n) rfl
    go_wp2
    clear su0 sf0 su1 sf1 su2 sf2 su3 sf3 su4 sf4 su5 sf5 su6 sf6 su7 sf7 v0 v1 v2 v3 v4 v5 v6 v7 v8
    refine wp_region_seq (fun w' : World => EB w W.heap.size (stamped s ⟨7, tick, tn, cell, other, epoch, since, till, n⟩) ⟨(some ⟨g, 0, none⟩), cp1, A2, cp2⟩ #[.int .i64 7, .int .i64 tick, .int .i64 tn, .int .i64 cell, .int .i64 other, .int .i64 epoch, .int .i64 since, .int .i64 till, .int .i64 n] w') 6 [(0, false), (1, false), (2, false), (3, false), (4, false), (5, false)] (by kernel_rfl) (by kernel_rfl) hEB.drew ?_
    simp only [List.take_succ_cons, List.take_zero, List.drop_succ_cons, List.drop_zero]
    repeat (refine wpSeqH_fix _ ?_ rfl (by exact fun _ _ _ h => h) (Or.inl ⟨by rfl, ?_⟩) ?_; rotate_left; (intro w' hSw; (try dsimp only at hSw); have su0 := hSw.box.cell' (i := 0) (v := .int .i64 tick) rfl; have su1 := hSw.box.cell' (i := 1) (v := .int .i64 (s.count + 1)) rfl; have su2 := hSw.box.cell' (i := 2) (v := .slice (some ⟨g, 0, none⟩) s.tenants.length cp1) rfl; have su3 := hSw.box.cell' (i := 3) (v := .slice A2 s.cells.length cp2) rfl; have su4 := hSw.box.cell' (i := 4) (v := .int .i64 s.proven) rfl; have su5 := hSw.box.cell' (i := 5) (v := .int .i64 s.evac) rfl; have su6 := hSw.box.cell' (i := 6) (v := .int .i64 s.low) rfl; have su7 := hSw.box.cell' (i := 7) (v := .int .i64 s.high) rfl; have sf0 := hSw.box.frozen 0; have sf1 := hSw.box.frozen 1; have sf2 := hSw.box.frozen 2; have sf3 := hSw.box.frozen 3; have sf4 := hSw.box.frozen 4; have sf5 := hSw.box.frozen 5; have sf6 := hSw.box.frozen 6; have sf7 := hSw.box.frozen 7; have v0 := hSw.ent.cell' (i := 0) (v := .int .i64 7) rfl; have v1 := hSw.ent.cell' (i := 1) (v := .int .i64 tick) rfl; have v2 := hSw.ent.cell' (i := 2) (v := .int .i64 tn) rfl; have v3 := hSw.ent.cell' (i := 3) (v := .int .i64 cell) rfl; have v4 := hSw.ent.cell' (i := 4) (v := .int .i64 other) rfl; have v5 := hSw.ent.cell' (i := 5) (v := .int .i64 epoch) rfl; have v6 := hSw.ent.cell' (i := 6) (v := .int .i64 since) rfl; have v7 := hSw.ent.cell' (i := 7) (v := .int .i64 till) rfl; have v8 := hSw.ent.cell' (i := 8) (v := .int .i64 n) rfl; clear hSw; go_simp; (try with_reducible rfl)); (simp only [List.getElem_toArray, List.getElem_cons_zero, List.getElem_cons_succ, Act.put, List.setIfInBounds_toArray, List.set_cons_zero, List.set_cons_succ]))
    refine wpSeqH_end ?_
    simp only [List.getElem_toArray, List.getElem_cons_zero, List.getElem_cons_succ, Act.put, List.setIfInBounds_toArray, List.set_cons_zero, List.set_cons_succ, thenK]
    go_wp2_with fail
    refine (stOnTenant_any ⟨7, tick, tn, cell, other, epoch, since, till, n⟩ (tsAt s tn) g (tn * 12) cur W4.drew (by simp) htick (fun h => absurd (show (7 : Int) = 2 from h) (by decide)) hBg hrow).mono ?_
    rintro r w5 ⟨rfl, hR⟩
    have hEB2 := EB.ten hEB.drew htn rfl hbg htk hsz hnn hmm hR
    clear hR hEB hBg hrow
    go_upto_region 21 with fail
    have hbx := hEB2.box
    have hrs := hEB2.res
    unfold stC at hbx
    try simp only [stamped, setTen, setCel, List.length_set] at hbx
    refine wp_region_lit ?_
    refine wpList_load_mid (by rfl) _ (.tmp 2) (by rfl) w.heap.size 0 (by go_simp) [.int .i64 tick, .int .i64 (s.count + 1), .slice (some ⟨g, 0, none⟩) s.tenants.length cp1, .slice A2 s.cells.length cp2, .int .i64 s.proven, .int .i64 s.evac, .int .i64 s.low, .int .i64 s.high] _ hbx.range Try.underlying36 rfl stSize ?_
    simp only [List.getElem_toArray, List.getElem_cons_zero, List.getElem_cons_succ, Act.put, List.setIfInBounds_toArray, List.set_cons_zero, List.set_cons_succ]
    refine wpList_store_mid (by rfl) _ (.tmp 4) (.tmp 81) (by rfl) (w.heap.size + 1 + 1) 0 #[.int .i64 tick, .int .i64 (s.count + 1), .slice (some ⟨g, 0, none⟩) s.tenants.length cp1, .slice A2 s.cells.length cp2, .int .i64 s.proven, .int .i64 s.evac, .int .i64 s.low, .int .i64 s.high] (by go_simp) (by go_simp) (hrs.there 0 8 (by simp)) stSize (by simp [Value.oneCell']) ?_
    have hr2 := hrs.setCells [.int .i64 tick, .int .i64 (s.count + 1), .slice (some ⟨g, 0, none⟩) s.tenants.length cp1, .slice A2 s.cells.length cp2, .int .i64 s.proven, .int .i64 s.evac, .int .i64 s.low, .int .i64 s.high] 0
    simp only [putL, List.setIfInBounds_toArray, List.set_cons_zero, List.set_cons_succ, Nat.reduceAdd] at hr2
    have HF := Lib.hid (EB.fin hEB2 [.int .i64 tick, .int .i64 (s.count + 1), .slice (some ⟨g, 0, none⟩) s.tenants.length cp1, .slice A2 s.cells.length cp2, .int .i64 s.proven, .int .i64 s.evac, .int .i64 s.low, .int .i64 s.high])
    generalize World.setCells _ (w.heap.size + 1 + 1) 0 _ = W9 at *
    clear hbx hrs
    have g0 := hr2.cell' (i := 0) (v := .int .i64 tick) rfl
    have g1 := hr2.cell' (i := 1) (v := .int .i64 (s.count + 1)) rfl
    have g2 := hr2.cell' (i := 2) (v := .slice (some ⟨g, 0, none⟩) s.tenants.length cp1) rfl
    have g3 := hr2.cell' (i := 3) (v := .slice A2 s.cells.length cp2) rfl
    have g4 := hr2.cell' (i := 4) (v := .int .i64 s.proven) rfl
    have g5 := hr2.cell' (i := 5) (v := .int .i64 s.evac) rfl
    have g6 := hr2.cell' (i := 6) (v := .int .i64 s.low) rfl
    have g7 := hr2.cell' (i := 7) (v := .int .i64 s.high) rfl
    go_wp2
    refine bodyPost_ret (v := .agg #[.int .i64 tick, .int .i64 (s.count + 1), .slice (some ⟨g, 0, none⟩) s.tenants.length cp1, .slice A2 s.cells.length cp2, .int .i64 s.proven, .int .i64 s.evac, .int .i64 s.low, .int .i64 s.high]) (by simp [results, Try.results29, go_sem, g0, g1, g2, g3, g4, g5, g6, g7]) rfl ?_
    have hst : stC ⟨some ⟨g, 0, none⟩, cp1, A2, cp2⟩ (effOf s ⟨7, tick, tn, cell, other, epoch, since, till, n⟩) = #[.int .i64 tick, .int .i64 (s.count + 1), .slice (some ⟨g, 0, none⟩) s.tenants.length cp1, .slice A2 s.cells.length cp2, .int .i64 s.proven, .int .i64 s.evac, .int .i64 s.low, .int .i64 s.high] := by simp [stC, effOf, setTen, setCel, stamped]
    exact ⟨⟨some ⟨g, 0, none⟩, cp1, A2, cp2⟩, by rw [hst], HF.out.1, HF.out.2⟩
  · skip
    have hten := ent_ten HI.out HA.out.ent (show (8 : Int) ≤ 8 by decide)
    simp only at hten
    obtain ⟨tn, rfl⟩ := Int.eq_ofNat_of_zero_le hten.1
    have htn : tn < s.tenants.length := by omega
    have hzt := (tsAt_mem hten.1 hten.2).1
    rw [Int.toNat_natCast] at hzt
    obtain ⟨g, cur, hA, hbg, hBg, htk, hsz, hnn, hmm⟩ := own_blk hEB.own.tenants (show 0 < s.tenants.length by omega)
    simp only at hA
    subst hA
    have hrow := own_row (enc := tsC) (size := 12) (fun _ => rfl) hzt htk
    have htick := (ent_rng HA.out.ent).1
    simp only at htick
    have su0 := hEB.box.cell' (i := 0) (v := .int .i64 tick) rfl
    have su1 := hEB.box.cell' (i := 1) (v := .int .i64 (s.count + 1)) rfl
    have su2 := hEB.box.cell' (i := 2) (v := .slice (some ⟨g, 0, none⟩) s.tenants.length cp1) rfl
    have su3 := hEB.box.cell' (i := 3) (v := .slice A2 s.cells.length cp2) rfl
    have su4 := hEB.box.cell' (i := 4) (v := .int .i64 s.proven) rfl
    have su5 := hEB.box.cell' (i := 5) (v := .int .i64 s.evac) rfl
    have su6 := hEB.box.cell' (i := 6) (v := .int .i64 s.low) rfl
    have su7 := hEB.box.cell' (i := 7) (v := .int .i64 s.high) rfl
    have sf0 := hEB.box.frozen 0
    have sf1 := hEB.box.frozen 1
    have sf2 := hEB.box.frozen 2
    have sf3 := hEB.box.frozen 3
    have sf4 := hEB.box.frozen 4
    have sf5 := hEB.box.frozen 5
    have sf6 := hEB.box.frozen 6
    have sf7 := hEB.box.frozen 7
    have v0 := hEB.ent.cell' (i := 0) (v := .int .i64 8) rfl
    have v1 := hEB.ent.cell' (i := 1) (v := .int .i64 tick) rfl
    have v2 := hEB.ent.cell' (i := 2) (v := .int .i64 tn) rfl
    have v3 := hEB.ent.cell' (i := 3) (v := .int .i64 cell) rfl
    have v4 := hEB.ent.cell' (i := 4) (v := .int .i64 other) rfl
    have v5 := hEB.ent.cell' (i := 5) (v := .int .i64 epoch) rfl
    have v6 := hEB.ent.cell' (i := 6) (v := .int .i64 since) rfl
    have v7 := hEB.ent.cell' (i := 7) (v := .int .i64 till) rfl
    have v8 := hEB.ent.cell' (i := 8) (v := .int .i64 n) rfl
    go_wp2
    clear su0 sf0 su1 sf1 su2 sf2 su3 sf3 su4 sf4 su5 sf5 su6 sf6 su7 sf7 v0 v1 v2 v3 v4 v5 v6 v7 v8
    refine wp_region_seq (fun w' : World => EB w W.heap.size (stamped s ⟨8, tick, tn, cell, other, epoch, since, till, n⟩) ⟨(some ⟨g, 0, none⟩), cp1, A2, cp2⟩ #[.int .i64 8, .int .i64 tick, .int .i64 tn, .int .i64 cell, .int .i64 other, .int .i64 epoch, .int .i64 since, .int .i64 till, .int .i64 n] w') 6 [(0, false), (1, false), (2, false), (3, false), (4, false), (5, false)] (by kernel_rfl) (by kernel_rfl) hEB.drew ?_
    simp only [List.take_succ_cons, List.take_zero, List.drop_succ_cons, List.drop_zero]
    repeat (refine wpSeqH_fix _ ?_ rfl (by exact fun _ _ _ h => h) (Or.inl ⟨by rfl, ?_⟩) ?_; rotate_left; (intro w' hSw; (try dsimp only at hSw); have su0 := hSw.box.cell' (i := 0) (v := .int .i64 tick) rfl; have su1 := hSw.box.cell' (i := 1) (v := .int .i64 (s.count + 1)) rfl; have su2 := hSw.box.cell' (i := 2) (v := .slice (some ⟨g, 0, none⟩) s.tenants.length cp1) rfl; have su3 := hSw.box.cell' (i := 3) (v := .slice A2 s.cells.length cp2) rfl; have su4 := hSw.box.cell' (i := 4) (v := .int .i64 s.proven) rfl; have su5 := hSw.box.cell' (i := 5) (v := .int .i64 s.evac) rfl; have su6 := hSw.box.cell' (i := 6) (v := .int .i64 s.low) rfl; have su7 := hSw.box.cell' (i := 7) (v := .int .i64 s.high) rfl; have sf0 := hSw.box.frozen 0; have sf1 := hSw.box.frozen 1; have sf2 := hSw.box.frozen 2; have sf3 := hSw.box.frozen 3; have sf4 := hSw.box.frozen 4; have sf5 := hSw.box.frozen 5; have sf6 := hSw.box.frozen 6; have sf7 := hSw.box.frozen 7; have v0 := hSw.ent.cell' (i := 0) (v := .int .i64 8) rfl; have v1 := hSw.ent.cell' (i := 1) (v := .int .i64 tick) rfl; have v2 := hSw.ent.cell' (i := 2) (v := .int .i64 tn) rfl; have v3 := hSw.ent.cell' (i := 3) (v := .int .i64 cell) rfl; have v4 := hSw.ent.cell' (i := 4) (v := .int .i64 other) rfl; have v5 := hSw.ent.cell' (i := 5) (v := .int .i64 epoch) rfl; have v6 := hSw.ent.cell' (i := 6) (v := .int .i64 since) rfl; have v7 := hSw.ent.cell' (i := 7) (v := .int .i64 till) rfl; have v8 := hSw.ent.cell' (i := 8) (v := .int .i64 n) rfl; clear hSw; go_simp; (try with_reducible rfl)); (simp only [List.getElem_toArray, List.getElem_cons_zero, List.getElem_cons_succ, Act.put, List.setIfInBounds_toArray, List.set_cons_zero, List.set_cons_succ]))
    refine wpSeqH_end ?_
    simp only [List.getElem_toArray, List.getElem_cons_zero, List.getElem_cons_succ, Act.put, List.setIfInBounds_toArray, List.set_cons_zero, List.set_cons_succ, thenK]
    go_wp2_with fail
    refine (stOnTenant_any ⟨8, tick, tn, cell, other, epoch, since, till, n⟩ (tsAt s tn) g (tn * 12) cur W4.drew (by simp) htick (fun h => absurd (show (8 : Int) = 2 from h) (by decide)) hBg hrow).mono ?_
    rintro r w5 ⟨rfl, hR⟩
    have hEB2 := EB.ten hEB.drew htn rfl hbg htk hsz hnn hmm hR
    clear hR hEB hBg hrow
    go_upto_region 21 with fail
    have hbx := hEB2.box
    have hrs := hEB2.res
    unfold stC at hbx
    try simp only [stamped, setTen, setCel, List.length_set] at hbx
    refine wp_region_lit ?_
    refine wpList_load_mid (by rfl) _ (.tmp 2) (by rfl) w.heap.size 0 (by go_simp) [.int .i64 tick, .int .i64 (s.count + 1), .slice (some ⟨g, 0, none⟩) s.tenants.length cp1, .slice A2 s.cells.length cp2, .int .i64 s.proven, .int .i64 s.evac, .int .i64 s.low, .int .i64 s.high] _ hbx.range Try.underlying36 rfl stSize ?_
    simp only [List.getElem_toArray, List.getElem_cons_zero, List.getElem_cons_succ, Act.put, List.setIfInBounds_toArray, List.set_cons_zero, List.set_cons_succ]
    refine wpList_store_mid (by rfl) _ (.tmp 4) (.tmp 81) (by rfl) (w.heap.size + 1 + 1) 0 #[.int .i64 tick, .int .i64 (s.count + 1), .slice (some ⟨g, 0, none⟩) s.tenants.length cp1, .slice A2 s.cells.length cp2, .int .i64 s.proven, .int .i64 s.evac, .int .i64 s.low, .int .i64 s.high] (by go_simp) (by go_simp) (hrs.there 0 8 (by simp)) stSize (by simp [Value.oneCell']) ?_
    have hr2 := hrs.setCells [.int .i64 tick, .int .i64 (s.count + 1), .slice (some ⟨g, 0, none⟩) s.tenants.length cp1, .slice A2 s.cells.length cp2, .int .i64 s.proven, .int .i64 s.evac, .int .i64 s.low, .int .i64 s.high] 0
    simp only [putL, List.setIfInBounds_toArray, List.set_cons_zero, List.set_cons_succ, Nat.reduceAdd] at hr2
    have HF := Lib.hid (EB.fin hEB2 [.int .i64 tick, .int .i64 (s.count + 1), .slice (some ⟨g, 0, none⟩) s.tenants.length cp1, .slice A2 s.cells.length cp2, .int .i64 s.proven, .int .i64 s.evac, .int .i64 s.low, .int .i64 s.high])
    generalize World.setCells _ (w.heap.size + 1 + 1) 0 _ = W9 at *
    clear hbx hrs
    have g0 := hr2.cell' (i := 0) (v := .int .i64 tick) rfl
    have g1 := hr2.cell' (i := 1) (v := .int .i64 (s.count + 1)) rfl
    have g2 := hr2.cell' (i := 2) (v := .slice (some ⟨g, 0, none⟩) s.tenants.length cp1) rfl
    have g3 := hr2.cell' (i := 3) (v := .slice A2 s.cells.length cp2) rfl
    have g4 := hr2.cell' (i := 4) (v := .int .i64 s.proven) rfl
    have g5 := hr2.cell' (i := 5) (v := .int .i64 s.evac) rfl
    have g6 := hr2.cell' (i := 6) (v := .int .i64 s.low) rfl
    have g7 := hr2.cell' (i := 7) (v := .int .i64 s.high) rfl
    go_wp2
    refine bodyPost_ret (v := .agg #[.int .i64 tick, .int .i64 (s.count + 1), .slice (some ⟨g, 0, none⟩) s.tenants.length cp1, .slice A2 s.cells.length cp2, .int .i64 s.proven, .int .i64 s.evac, .int .i64 s.low, .int .i64 s.high]) (by simp [results, Try.results29, go_sem, g0, g1, g2, g3, g4, g5, g6, g7]) rfl ?_
    have hst : stC ⟨some ⟨g, 0, none⟩, cp1, A2, cp2⟩ (effOf s ⟨8, tick, tn, cell, other, epoch, since, till, n⟩) = #[.int .i64 tick, .int .i64 (s.count + 1), .slice (some ⟨g, 0, none⟩) s.tenants.length cp1, .slice A2 s.cells.length cp2, .int .i64 s.proven, .int .i64 s.evac, .int .i64 s.low, .int .i64 s.high] := by simp [stC, effOf, setTen, setCel, stamped]
    exact ⟨⟨some ⟨g, 0, none⟩, cp1, A2, cp2⟩, by rw [hst], HF.out.1, HF.out.2⟩
  · skip
    have hcel : 0 ≤ cell ∧ cell < s.cells.length := by
      obtain ⟨-, -, hC, -⟩ := ent_rng HA.out.ent
      have := HI.out.lc
      simp [inS, inR, fC] at hC
      omega
    obtain ⟨tn, rfl⟩ := Int.eq_ofNat_of_zero_le hcel.1
    have htn : tn < s.cells.length := by omega
    have hzt := (csAt_mem hcel.1 hcel.2).1
    rw [Int.toNat_natCast] at hzt
    obtain ⟨g, cur, hA, hbg, hBg, htk, hsz, hnn, hmm⟩ := own_blk hEB.own.cells (show 0 < s.cells.length by omega)
    simp only at hA
    subst hA
    have hrow := own_row (enc := csC) (size := 4) (fun _ => rfl) hzt htk
    have su0 := hEB.box.cell' (i := 0) (v := .int .i64 tick) rfl
    have su1 := hEB.box.cell' (i := 1) (v := .int .i64 (s.count + 1)) rfl
    have su2 := hEB.box.cell' (i := 2) (v := .slice A1 s.tenants.length cp1) rfl
    have su3 := hEB.box.cell' (i := 3) (v := .slice (some ⟨g, 0, none⟩) s.cells.length cp2) rfl
    have su4 := hEB.box.cell' (i := 4) (v := .int .i64 s.proven) rfl
    have su5 := hEB.box.cell' (i := 5) (v := .int .i64 s.evac) rfl
    have su6 := hEB.box.cell' (i := 6) (v := .int .i64 s.low) rfl
    have su7 := hEB.box.cell' (i := 7) (v := .int .i64 s.high) rfl
    have sf0 := hEB.box.frozen 0
    have sf1 := hEB.box.frozen 1
    have sf2 := hEB.box.frozen 2
    have sf3 := hEB.box.frozen 3
    have sf4 := hEB.box.frozen 4
    have sf5 := hEB.box.frozen 5
    have sf6 := hEB.box.frozen 6
    have sf7 := hEB.box.frozen 7
    have v0 := hEB.ent.cell' (i := 0) (v := .int .i64 9) rfl
    have v1 := hEB.ent.cell' (i := 1) (v := .int .i64 tick) rfl
    have v2 := hEB.ent.cell' (i := 2) (v := .int .i64 tenant) rfl
    have v3 := hEB.ent.cell' (i := 3) (v := .int .i64 tn) rfl
    have v4 := hEB.ent.cell' (i := 4) (v := .int .i64 other) rfl
    have v5 := hEB.ent.cell' (i := 5) (v := .int .i64 epoch) rfl
    have v6 := hEB.ent.cell' (i := 6) (v := .int .i64 since) rfl
    have v7 := hEB.ent.cell' (i := 7) (v := .int .i64 till) rfl
    have v8 := hEB.ent.cell' (i := 8) (v := .int .i64 n) rfl
    go_wp2
    clear su0 sf0 su1 sf1 su2 sf2 su3 sf3 su4 sf4 su5 sf5 su6 sf6 su7 sf7 v0 v1 v2 v3 v4 v5 v6 v7 v8
    refine wp_region_seq (fun w' : World => EB w W.heap.size (stamped s ⟨9, tick, tenant, tn, other, epoch, since, till, n⟩) ⟨A1, cp1, (some ⟨g, 0, none⟩), cp2⟩ #[.int .i64 9, .int .i64 tick, .int .i64 tenant, .int .i64 tn, .int .i64 other, .int .i64 epoch, .int .i64 since, .int .i64 till, .int .i64 n] w') 6 [(0, false), (1, false), (2, false), (3, false), (4, false), (5, false)] (by kernel_rfl) (by kernel_rfl) hEB.drew ?_
    simp only [List.take_succ_cons, List.take_zero, List.drop_succ_cons, List.drop_zero]
    repeat (refine wpSeqH_fix _ ?_ rfl (by exact fun _ _ _ h => h) (Or.inl ⟨by rfl, ?_⟩) ?_; rotate_left; (intro w' hSw; (try dsimp only at hSw); have su0 := hSw.box.cell' (i := 0) (v := .int .i64 tick) rfl; have su1 := hSw.box.cell' (i := 1) (v := .int .i64 (s.count + 1)) rfl; have su2 := hSw.box.cell' (i := 2) (v := .slice A1 s.tenants.length cp1) rfl; have su3 := hSw.box.cell' (i := 3) (v := .slice (some ⟨g, 0, none⟩) s.cells.length cp2) rfl; have su4 := hSw.box.cell' (i := 4) (v := .int .i64 s.proven) rfl; have su5 := hSw.box.cell' (i := 5) (v := .int .i64 s.evac) rfl; have su6 := hSw.box.cell' (i := 6) (v := .int .i64 s.low) rfl; have su7 := hSw.box.cell' (i := 7) (v := .int .i64 s.high) rfl; have sf0 := hSw.box.frozen 0; have sf1 := hSw.box.frozen 1; have sf2 := hSw.box.frozen 2; have sf3 := hSw.box.frozen 3; have sf4 := hSw.box.frozen 4; have sf5 := hSw.box.frozen 5; have sf6 := hSw.box.frozen 6; have sf7 := hSw.box.frozen 7; have v0 := hSw.ent.cell' (i := 0) (v := .int .i64 9) rfl; have v1 := hSw.ent.cell' (i := 1) (v := .int .i64 tick) rfl; have v2 := hSw.ent.cell' (i := 2) (v := .int .i64 tenant) rfl; have v3 := hSw.ent.cell' (i := 3) (v := .int .i64 tn) rfl; have v4 := hSw.ent.cell' (i := 4) (v := .int .i64 other) rfl; have v5 := hSw.ent.cell' (i := 5) (v := .int .i64 epoch) rfl; have v6 := hSw.ent.cell' (i := 6) (v := .int .i64 since) rfl; have v7 := hSw.ent.cell' (i := 7) (v := .int .i64 till) rfl; have v8 := hSw.ent.cell' (i := 8) (v := .int .i64 n) rfl; clear hSw; go_simp; (try with_reducible rfl)); (simp only [List.getElem_toArray, List.getElem_cons_zero, List.getElem_cons_succ, Act.put, List.setIfInBounds_toArray, List.set_cons_zero, List.set_cons_succ]))
    refine wpSeqH_end ?_
    simp only [List.getElem_toArray, List.getElem_cons_zero, List.getElem_cons_succ, Act.put, List.setIfInBounds_toArray, List.set_cons_zero, List.set_cons_succ, thenK]
    go_wp2_with fail
    refine (stOnCell_any ⟨9, tick, tenant, tn, other, epoch, since, till, n⟩ (csAt s tn) g (tn * 4) cur W4.drew (by simp) hBg hrow).mono ?_
    rintro r w5 ⟨rfl, hR⟩
    have hEB2 := EB.cel hEB.drew htn rfl hbg htk hsz hnn hmm hR
    clear hR hEB hBg hrow
    go_upto_region 21 with fail
    have hbx := hEB2.box
    have hrs := hEB2.res
    unfold stC at hbx
    try simp only [stamped, setTen, setCel, List.length_set] at hbx
    refine wp_region_lit ?_
    refine wpList_load_mid (by rfl) _ (.tmp 2) (by rfl) w.heap.size 0 (by go_simp) [.int .i64 tick, .int .i64 (s.count + 1), .slice A1 s.tenants.length cp1, .slice (some ⟨g, 0, none⟩) s.cells.length cp2, .int .i64 s.proven, .int .i64 s.evac, .int .i64 s.low, .int .i64 s.high] _ hbx.range Try.underlying36 rfl stSize ?_
    simp only [List.getElem_toArray, List.getElem_cons_zero, List.getElem_cons_succ, Act.put, List.setIfInBounds_toArray, List.set_cons_zero, List.set_cons_succ]
    refine wpList_store_mid (by rfl) _ (.tmp 4) (.tmp 81) (by rfl) (w.heap.size + 1 + 1) 0 #[.int .i64 tick, .int .i64 (s.count + 1), .slice A1 s.tenants.length cp1, .slice (some ⟨g, 0, none⟩) s.cells.length cp2, .int .i64 s.proven, .int .i64 s.evac, .int .i64 s.low, .int .i64 s.high] (by go_simp) (by go_simp) (hrs.there 0 8 (by simp)) stSize (by simp [Value.oneCell']) ?_
    have hr2 := hrs.setCells [.int .i64 tick, .int .i64 (s.count + 1), .slice A1 s.tenants.length cp1, .slice (some ⟨g, 0, none⟩) s.cells.length cp2, .int .i64 s.proven, .int .i64 s.evac, .int .i64 s.low, .int .i64 s.high] 0
    simp only [putL, List.setIfInBounds_toArray, List.set_cons_zero, List.set_cons_succ, Nat.reduceAdd] at hr2
    have HF := Lib.hid (EB.fin hEB2 [.int .i64 tick, .int .i64 (s.count + 1), .slice A1 s.tenants.length cp1, .slice (some ⟨g, 0, none⟩) s.cells.length cp2, .int .i64 s.proven, .int .i64 s.evac, .int .i64 s.low, .int .i64 s.high])
    generalize World.setCells _ (w.heap.size + 1 + 1) 0 _ = W9 at *
    clear hbx hrs
    have g0 := hr2.cell' (i := 0) (v := .int .i64 tick) rfl
    have g1 := hr2.cell' (i := 1) (v := .int .i64 (s.count + 1)) rfl
    have g2 := hr2.cell' (i := 2) (v := .slice A1 s.tenants.length cp1) rfl
    have g3 := hr2.cell' (i := 3) (v := .slice (some ⟨g, 0, none⟩) s.cells.length cp2) rfl
    have g4 := hr2.cell' (i := 4) (v := .int .i64 s.proven) rfl
    have g5 := hr2.cell' (i := 5) (v := .int .i64 s.evac) rfl
    have g6 := hr2.cell' (i := 6) (v := .int .i64 s.low) rfl
    have g7 := hr2.cell' (i := 7) (v := .int .i64 s.high) rfl
    go_wp2
    refine bodyPost_ret (v := .agg #[.int .i64 tick, .int .i64 (s.count + 1), .slice A1 s.tenants.length cp1, .slice (some ⟨g, 0, none⟩) s.cells.length cp2, .int .i64 s.proven, .int .i64 s.evac, .int .i64 s.low, .int .i64 s.high]) (by simp [results, Try.results29, go_sem, g0, g1, g2, g3, g4, g5, g6, g7]) rfl ?_
    have hst : stC ⟨A1, cp1, some ⟨g, 0, none⟩, cp2⟩ (effOf s ⟨9, tick, tenant, tn, other, epoch, since, till, n⟩) = #[.int .i64 tick, .int .i64 (s.count + 1), .slice A1 s.tenants.length cp1, .slice (some ⟨g, 0, none⟩) s.cells.length cp2, .int .i64 s.proven, .int .i64 s.evac, .int .i64 s.low, .int .i64 s.high] := by simp [stC, effOf, setTen, setCel, stamped]
    exact ⟨⟨A1, cp1, some ⟨g, 0, none⟩, cp2⟩, by rw [hst], HF.out.1, HF.out.2⟩
  · skip
    have hcel : 0 ≤ cell ∧ cell < s.cells.length := by
      obtain ⟨-, -, hC, -⟩ := ent_rng HA.out.ent
      have := HI.out.lc
      simp [inS, inR, fC] at hC
      omega
    obtain ⟨tn, rfl⟩ := Int.eq_ofNat_of_zero_le hcel.1
    have htn : tn < s.cells.length := by omega
    have hzt := (csAt_mem hcel.1 hcel.2).1
    rw [Int.toNat_natCast] at hzt
    obtain ⟨g, cur, hA, hbg, hBg, htk, hsz, hnn, hmm⟩ := own_blk hEB.own.cells (show 0 < s.cells.length by omega)
    simp only at hA
    subst hA
    have hrow := own_row (enc := csC) (size := 4) (fun _ => rfl) hzt htk
    have su0 := hEB.box.cell' (i := 0) (v := .int .i64 tick) rfl
    have su1 := hEB.box.cell' (i := 1) (v := .int .i64 (s.count + 1)) rfl
    have su2 := hEB.box.cell' (i := 2) (v := .slice A1 s.tenants.length cp1) rfl
    have su3 := hEB.box.cell' (i := 3) (v := .slice (some ⟨g, 0, none⟩) s.cells.length cp2) rfl
    have su4 := hEB.box.cell' (i := 4) (v := .int .i64 s.proven) rfl
    have su5 := hEB.box.cell' (i := 5) (v := .int .i64 s.evac) rfl
    have su6 := hEB.box.cell' (i := 6) (v := .int .i64 s.low) rfl
    have su7 := hEB.box.cell' (i := 7) (v := .int .i64 s.high) rfl
    have sf0 := hEB.box.frozen 0
    have sf1 := hEB.box.frozen 1
    have sf2 := hEB.box.frozen 2
    have sf3 := hEB.box.frozen 3
    have sf4 := hEB.box.frozen 4
    have sf5 := hEB.box.frozen 5
    have sf6 := hEB.box.frozen 6
    have sf7 := hEB.box.frozen 7
    have v0 := hEB.ent.cell' (i := 0) (v := .int .i64 10) rfl
    have v1 := hEB.ent.cell' (i := 1) (v := .int .i64 tick) rfl
    have v2 := hEB.ent.cell' (i := 2) (v := .int .i64 tenant) rfl
    have v3 := hEB.ent.cell' (i := 3) (v := .int .i64 tn) rfl
    have v4 := hEB.ent.cell' (i := 4) (v := .int .i64 other) rfl
    have v5 := hEB.ent.cell' (i := 5) (v := .int .i64 epoch) rfl
    have v6 := hEB.ent.cell' (i := 6) (v := .int .i64 since) rfl
    have v7 := hEB.ent.cell' (i := 7) (v := .int .i64 till) rfl
    have v8 := hEB.ent.cell' (i := 8) (v := .int .i64 n) rfl
    go_wp2
    clear su0 sf0 su1 sf1 su2 sf2 su3 sf3 su4 sf4 su5 sf5 su6 sf6 su7 sf7 v0 v1 v2 v3 v4 v5 v6 v7 v8
    refine wp_region_seq (fun w' : World => EB w W.heap.size (stamped s ⟨10, tick, tenant, tn, other, epoch, since, till, n⟩) ⟨A1, cp1, (some ⟨g, 0, none⟩), cp2⟩ #[.int .i64 10, .int .i64 tick, .int .i64 tenant, .int .i64 tn, .int .i64 other, .int .i64 epoch, .int .i64 since, .int .i64 till, .int .i64 n] w') 6 [(0, false), (1, false), (2, false), (3, false), (4, false), (5, false)] (by kernel_rfl) (by kernel_rfl) hEB.drew ?_
    simp only [List.take_succ_cons, List.take_zero, List.drop_succ_cons, List.drop_zero]
    repeat (refine wpSeqH_fix _ ?_ rfl (by exact fun _ _ _ h => h) (Or.inl ⟨by rfl, ?_⟩) ?_; rotate_left; (intro w' hSw; (try dsimp only at hSw); have su0 := hSw.box.cell' (i := 0) (v := .int .i64 tick) rfl; have su1 := hSw.box.cell' (i := 1) (v := .int .i64 (s.count + 1)) rfl; have su2 := hSw.box.cell' (i := 2) (v := .slice A1 s.tenants.length cp1) rfl; have su3 := hSw.box.cell' (i := 3) (v := .slice (some ⟨g, 0, none⟩) s.cells.length cp2) rfl; have su4 := hSw.box.cell' (i := 4) (v := .int .i64 s.proven) rfl; have su5 := hSw.box.cell' (i := 5) (v := .int .i64 s.evac) rfl; have su6 := hSw.box.cell' (i := 6) (v := .int .i64 s.low) rfl; have su7 := hSw.box.cell' (i := 7) (v := .int .i64 s.high) rfl; have sf0 := hSw.box.frozen 0; have sf1 := hSw.box.frozen 1; have sf2 := hSw.box.frozen 2; have sf3 := hSw.box.frozen 3; have sf4 := hSw.box.frozen 4; have sf5 := hSw.box.frozen 5; have sf6 := hSw.box.frozen 6; have sf7 := hSw.box.frozen 7; have v0 := hSw.ent.cell' (i := 0) (v := .int .i64 10) rfl; have v1 := hSw.ent.cell' (i := 1) (v := .int .i64 tick) rfl; have v2 := hSw.ent.cell' (i := 2) (v := .int .i64 tenant) rfl; have v3 := hSw.ent.cell' (i := 3) (v := .int .i64 tn) rfl; have v4 := hSw.ent.cell' (i := 4) (v := .int .i64 other) rfl; have v5 := hSw.ent.cell' (i := 5) (v := .int .i64 epoch) rfl; have v6 := hSw.ent.cell' (i := 6) (v := .int .i64 since) rfl; have v7 := hSw.ent.cell' (i := 7) (v := .int .i64 till) rfl; have v8 := hSw.ent.cell' (i := 8) (v := .int .i64 n) rfl; clear hSw; go_simp; (try with_reducible rfl)); (simp only [List.getElem_toArray, List.getElem_cons_zero, List.getElem_cons_succ, Act.put, List.setIfInBounds_toArray, List.set_cons_zero, List.set_cons_succ]))
    refine wpSeqH_end ?_
    simp only [List.getElem_toArray, List.getElem_cons_zero, List.getElem_cons_succ, Act.put, List.setIfInBounds_toArray, List.set_cons_zero, List.set_cons_succ, thenK]
    go_wp2_with fail
    refine (stOnCell_any ⟨10, tick, tenant, tn, other, epoch, since, till, n⟩ (csAt s tn) g (tn * 4) cur W4.drew (by simp) hBg hrow).mono ?_
    rintro r w5 ⟨rfl, hR⟩
    have hEB2 := EB.cel hEB.drew htn rfl hbg htk hsz hnn hmm hR
    clear hR hEB hBg hrow
    go_upto_region 21 with fail
    have hbx := hEB2.box
    have hrs := hEB2.res
    unfold stC at hbx
    try simp only [stamped, setTen, setCel, List.length_set] at hbx
    refine wp_region_lit ?_
    refine wpList_load_mid (by rfl) _ (.tmp 2) (by rfl) w.heap.size 0 (by go_simp) [.int .i64 tick, .int .i64 (s.count + 1), .slice A1 s.tenants.length cp1, .slice (some ⟨g, 0, none⟩) s.cells.length cp2, .int .i64 s.proven, .int .i64 s.evac, .int .i64 s.low, .int .i64 s.high] _ hbx.range Try.underlying36 rfl stSize ?_
    simp only [List.getElem_toArray, List.getElem_cons_zero, List.getElem_cons_succ, Act.put, List.setIfInBounds_toArray, List.set_cons_zero, List.set_cons_succ]
    refine wpList_store_mid (by rfl) _ (.tmp 4) (.tmp 81) (by rfl) (w.heap.size + 1 + 1) 0 #[.int .i64 tick, .int .i64 (s.count + 1), .slice A1 s.tenants.length cp1, .slice (some ⟨g, 0, none⟩) s.cells.length cp2, .int .i64 s.proven, .int .i64 s.evac, .int .i64 s.low, .int .i64 s.high] (by go_simp) (by go_simp) (hrs.there 0 8 (by simp)) stSize (by simp [Value.oneCell']) ?_
    have hr2 := hrs.setCells [.int .i64 tick, .int .i64 (s.count + 1), .slice A1 s.tenants.length cp1, .slice (some ⟨g, 0, none⟩) s.cells.length cp2, .int .i64 s.proven, .int .i64 s.evac, .int .i64 s.low, .int .i64 s.high] 0
    simp only [putL, List.setIfInBounds_toArray, List.set_cons_zero, List.set_cons_succ, Nat.reduceAdd] at hr2
    have HF := Lib.hid (EB.fin hEB2 [.int .i64 tick, .int .i64 (s.count + 1), .slice A1 s.tenants.length cp1, .slice (some ⟨g, 0, none⟩) s.cells.length cp2, .int .i64 s.proven, .int .i64 s.evac, .int .i64 s.low, .int .i64 s.high])
    generalize World.setCells _ (w.heap.size + 1 + 1) 0 _ = W9 at *
    clear hbx hrs
    have g0 := hr2.cell' (i := 0) (v := .int .i64 tick) rfl
    have g1 := hr2.cell' (i := 1) (v := .int .i64 (s.count + 1)) rfl
    have g2 := hr2.cell' (i := 2) (v := .slice A1 s.tenants.length cp1) rfl
    have g3 := hr2.cell' (i := 3) (v := .slice (some ⟨g, 0, none⟩) s.cells.length cp2) rfl
    have g4 := hr2.cell' (i := 4) (v := .int .i64 s.proven) rfl
    have g5 := hr2.cell' (i := 5) (v := .int .i64 s.evac) rfl
    have g6 := hr2.cell' (i := 6) (v := .int .i64 s.low) rfl
    have g7 := hr2.cell' (i := 7) (v := .int .i64 s.high) rfl
    go_wp2
    refine bodyPost_ret (v := .agg #[.int .i64 tick, .int .i64 (s.count + 1), .slice A1 s.tenants.length cp1, .slice (some ⟨g, 0, none⟩) s.cells.length cp2, .int .i64 s.proven, .int .i64 s.evac, .int .i64 s.low, .int .i64 s.high]) (by simp [results, Try.results29, go_sem, g0, g1, g2, g3, g4, g5, g6, g7]) rfl ?_
    have hst : stC ⟨A1, cp1, some ⟨g, 0, none⟩, cp2⟩ (effOf s ⟨10, tick, tenant, tn, other, epoch, since, till, n⟩) = #[.int .i64 tick, .int .i64 (s.count + 1), .slice A1 s.tenants.length cp1, .slice (some ⟨g, 0, none⟩) s.cells.length cp2, .int .i64 s.proven, .int .i64 s.evac, .int .i64 s.low, .int .i64 s.high] := by simp [stC, effOf, setTen, setCel, stamped]
    exact ⟨⟨A1, cp1, some ⟨g, 0, none⟩, cp2⟩, by rw [hst], HF.out.1, HF.out.2⟩
  · skip
    have hcel : 0 ≤ cell ∧ cell < s.cells.length := by
      obtain ⟨-, -, hC, -⟩ := ent_rng HA.out.ent
      have := HI.out.lc
      simp [inS, inR, fC] at hC
      omega
    obtain ⟨tn, rfl⟩ := Int.eq_ofNat_of_zero_le hcel.1
    have htn : tn < s.cells.length := by omega
    have hzt := (csAt_mem hcel.1 hcel.2).1
    rw [Int.toNat_natCast] at hzt
    obtain ⟨g, cur, hA, hbg, hBg, htk, hsz, hnn, hmm⟩ := own_blk hEB.own.cells (show 0 < s.cells.length by omega)
    simp only at hA
    subst hA
    have hrow := own_row (enc := csC) (size := 4) (fun _ => rfl) hzt htk
    have su0 := hEB.box.cell' (i := 0) (v := .int .i64 tick) rfl
    have su1 := hEB.box.cell' (i := 1) (v := .int .i64 (s.count + 1)) rfl
    have su2 := hEB.box.cell' (i := 2) (v := .slice A1 s.tenants.length cp1) rfl
    have su3 := hEB.box.cell' (i := 3) (v := .slice (some ⟨g, 0, none⟩) s.cells.length cp2) rfl
    have su4 := hEB.box.cell' (i := 4) (v := .int .i64 s.proven) rfl
    have su5 := hEB.box.cell' (i := 5) (v := .int .i64 s.evac) rfl
    have su6 := hEB.box.cell' (i := 6) (v := .int .i64 s.low) rfl
    have su7 := hEB.box.cell' (i := 7) (v := .int .i64 s.high) rfl
    have sf0 := hEB.box.frozen 0
    have sf1 := hEB.box.frozen 1
    have sf2 := hEB.box.frozen 2
    have sf3 := hEB.box.frozen 3
    have sf4 := hEB.box.frozen 4
    have sf5 := hEB.box.frozen 5
    have sf6 := hEB.box.frozen 6
    have sf7 := hEB.box.frozen 7
    have v0 := hEB.ent.cell' (i := 0) (v := .int .i64 11) rfl
    have v1 := hEB.ent.cell' (i := 1) (v := .int .i64 tick) rfl
    have v2 := hEB.ent.cell' (i := 2) (v := .int .i64 tenant) rfl
    have v3 := hEB.ent.cell' (i := 3) (v := .int .i64 tn) rfl
    have v4 := hEB.ent.cell' (i := 4) (v := .int .i64 other) rfl
    have v5 := hEB.ent.cell' (i := 5) (v := .int .i64 epoch) rfl
    have v6 := hEB.ent.cell' (i := 6) (v := .int .i64 since) rfl
    have v7 := hEB.ent.cell' (i := 7) (v := .int .i64 till) rfl
    have v8 := hEB.ent.cell' (i := 8) (v := .int .i64 n) rfl
    go_wp2
    clear su0 sf0 su1 sf1 su2 sf2 su3 sf3 su4 sf4 su5 sf5 su6 sf6 su7 sf7 v0 v1 v2 v3 v4 v5 v6 v7 v8
    refine wp_region_seq (fun w' : World => EB w W.heap.size (stamped s ⟨11, tick, tenant, tn, other, epoch, since, till, n⟩) ⟨A1, cp1, (some ⟨g, 0, none⟩), cp2⟩ #[.int .i64 11, .int .i64 tick, .int .i64 tenant, .int .i64 tn, .int .i64 other, .int .i64 epoch, .int .i64 since, .int .i64 till, .int .i64 n] w') 6 [(0, false), (1, false), (2, false), (3, false), (4, false), (5, false)] (by kernel_rfl) (by kernel_rfl) hEB.drew ?_
    simp only [List.take_succ_cons, List.take_zero, List.drop_succ_cons, List.drop_zero]
    repeat (refine wpSeqH_fix _ ?_ rfl (by exact fun _ _ _ h => h) (Or.inl ⟨by rfl, ?_⟩) ?_; rotate_left; (intro w' hSw; (try dsimp only at hSw); have su0 := hSw.box.cell' (i := 0) (v := .int .i64 tick) rfl; have su1 := hSw.box.cell' (i := 1) (v := .int .i64 (s.count + 1)) rfl; have su2 := hSw.box.cell' (i := 2) (v := .slice A1 s.tenants.length cp1) rfl; have su3 := hSw.box.cell' (i := 3) (v := .slice (some ⟨g, 0, none⟩) s.cells.length cp2) rfl; have su4 := hSw.box.cell' (i := 4) (v := .int .i64 s.proven) rfl; have su5 := hSw.box.cell' (i := 5) (v := .int .i64 s.evac) rfl; have su6 := hSw.box.cell' (i := 6) (v := .int .i64 s.low) rfl; have su7 := hSw.box.cell' (i := 7) (v := .int .i64 s.high) rfl; have sf0 := hSw.box.frozen 0; have sf1 := hSw.box.frozen 1; have sf2 := hSw.box.frozen 2; have sf3 := hSw.box.frozen 3; have sf4 := hSw.box.frozen 4; have sf5 := hSw.box.frozen 5; have sf6 := hSw.box.frozen 6; have sf7 := hSw.box.frozen 7; have v0 := hSw.ent.cell' (i := 0) (v := .int .i64 11) rfl; have v1 := hSw.ent.cell' (i := 1) (v := .int .i64 tick) rfl; have v2 := hSw.ent.cell' (i := 2) (v := .int .i64 tenant) rfl; have v3 := hSw.ent.cell' (i := 3) (v := .int .i64 tn) rfl; have v4 := hSw.ent.cell' (i := 4) (v := .int .i64 other) rfl; have v5 := hSw.ent.cell' (i := 5) (v := .int .i64 epoch) rfl; have v6 := hSw.ent.cell' (i := 6) (v := .int .i64 since) rfl; have v7 := hSw.ent.cell' (i := 7) (v := .int .i64 till) rfl; have v8 := hSw.ent.cell' (i := 8) (v := .int .i64 n) rfl; clear hSw; go_simp; (try with_reducible rfl)); (simp only [List.getElem_toArray, List.getElem_cons_zero, List.getElem_cons_succ, Act.put, List.setIfInBounds_toArray, List.set_cons_zero, List.set_cons_succ]))
    refine wpSeqH_end ?_
    simp only [List.getElem_toArray, List.getElem_cons_zero, List.getElem_cons_succ, Act.put, List.setIfInBounds_toArray, List.set_cons_zero, List.set_cons_succ, thenK]
    go_wp2_with fail
    refine (stOnCell_any ⟨11, tick, tenant, tn, other, epoch, since, till, n⟩ (csAt s tn) g (tn * 4) cur W4.drew (by simp) hBg hrow).mono ?_
    rintro r w5 ⟨rfl, hR⟩
    have hEB2 := EB.cel hEB.drew htn rfl hbg htk hsz hnn hmm hR
    clear hR hEB hBg hrow
    go_upto_region 21 with fail
    have hbx := hEB2.box
    have hrs := hEB2.res
    unfold stC at hbx
    try simp only [stamped, setTen, setCel, List.length_set] at hbx
    refine wp_region_lit ?_
    refine wpList_load_mid (by rfl) _ (.tmp 2) (by rfl) w.heap.size 0 (by go_simp) [.int .i64 tick, .int .i64 (s.count + 1), .slice A1 s.tenants.length cp1, .slice (some ⟨g, 0, none⟩) s.cells.length cp2, .int .i64 s.proven, .int .i64 s.evac, .int .i64 s.low, .int .i64 s.high] _ hbx.range Try.underlying36 rfl stSize ?_
    simp only [List.getElem_toArray, List.getElem_cons_zero, List.getElem_cons_succ, Act.put, List.setIfInBounds_toArray, List.set_cons_zero, List.set_cons_succ]
    refine wpList_store_mid (by rfl) _ (.tmp 4) (.tmp 81) (by rfl) (w.heap.size + 1 + 1) 0 #[.int .i64 tick, .int .i64 (s.count + 1), .slice A1 s.tenants.length cp1, .slice (some ⟨g, 0, none⟩) s.cells.length cp2, .int .i64 s.proven, .int .i64 s.evac, .int .i64 s.low, .int .i64 s.high] (by go_simp) (by go_simp) (hrs.there 0 8 (by simp)) stSize (by simp [Value.oneCell']) ?_
    have hr2 := hrs.setCells [.int .i64 tick, .int .i64 (s.count + 1), .slice A1 s.tenants.length cp1, .slice (some ⟨g, 0, none⟩) s.cells.length cp2, .int .i64 s.proven, .int .i64 s.evac, .int .i64 s.low, .int .i64 s.high] 0
    simp only [putL, List.setIfInBounds_toArray, List.set_cons_zero, List.set_cons_succ, Nat.reduceAdd] at hr2
    have HF := Lib.hid (EB.fin hEB2 [.int .i64 tick, .int .i64 (s.count + 1), .slice A1 s.tenants.length cp1, .slice (some ⟨g, 0, none⟩) s.cells.length cp2, .int .i64 s.proven, .int .i64 s.evac, .int .i64 s.low, .int .i64 s.high])
    generalize World.setCells _ (w.heap.size + 1 + 1) 0 _ = W9 at *
    clear hbx hrs
    have g0 := hr2.cell' (i := 0) (v := .int .i64 tick) rfl
    have g1 := hr2.cell' (i := 1) (v := .int .i64 (s.count + 1)) rfl
    have g2 := hr2.cell' (i := 2) (v := .slice A1 s.tenants.length cp1) rfl
    have g3 := hr2.cell' (i := 3) (v := .slice (some ⟨g, 0, none⟩) s.cells.length cp2) rfl
    have g4 := hr2.cell' (i := 4) (v := .int .i64 s.proven) rfl
    have g5 := hr2.cell' (i := 5) (v := .int .i64 s.evac) rfl
    have g6 := hr2.cell' (i := 6) (v := .int .i64 s.low) rfl
    have g7 := hr2.cell' (i := 7) (v := .int .i64 s.high) rfl
    go_wp2
    refine bodyPost_ret (v := .agg #[.int .i64 tick, .int .i64 (s.count + 1), .slice A1 s.tenants.length cp1, .slice (some ⟨g, 0, none⟩) s.cells.length cp2, .int .i64 s.proven, .int .i64 s.evac, .int .i64 s.low, .int .i64 s.high]) (by simp [results, Try.results29, go_sem, g0, g1, g2, g3, g4, g5, g6, g7]) rfl ?_
    have hst : stC ⟨A1, cp1, some ⟨g, 0, none⟩, cp2⟩ (effOf s ⟨11, tick, tenant, tn, other, epoch, since, till, n⟩) = #[.int .i64 tick, .int .i64 (s.count + 1), .slice A1 s.tenants.length cp1, .slice (some ⟨g, 0, none⟩) s.cells.length cp2, .int .i64 s.proven, .int .i64 s.evac, .int .i64 s.low, .int .i64 s.high] := by simp [stC, effOf, setTen, setCel, stamped]
    exact ⟨⟨A1, cp1, some ⟨g, 0, none⟩, cp2⟩, by rw [hst], HF.out.1, HF.out.2⟩
  · skip
    have hn : 0 ≤ n ∧ n < 30 := by
      obtain ⟨-, -, -, -, -, -, -, hN, -⟩ := ent_rng HA.out.ent
      have := HV.out.nv
      simp [inS, inR, fN] at hN
      omega
    have hpv := HI.out.proven
    have e1 : bits BinOp.or IntKind.i64 s.proven (IntKind.i64.wrap (2 ^ n.toNat)) = orBit s.proven n := by rw [pow_wrap hn.1 (by omega)]; exact i64_orBit _ _ hpv.1 hpv.2 hn.1 hn.2
    have su0 := hEB.box.cell' (i := 0) (v := .int .i64 tick) rfl
    have su1 := hEB.box.cell' (i := 1) (v := .int .i64 (s.count + 1)) rfl
    have su2 := hEB.box.cell' (i := 2) (v := .slice A1 s.tenants.length cp1) rfl
    have su3 := hEB.box.cell' (i := 3) (v := .slice A2 s.cells.length cp2) rfl
    have su4 := hEB.box.cell' (i := 4) (v := .int .i64 s.proven) rfl
    have su5 := hEB.box.cell' (i := 5) (v := .int .i64 s.evac) rfl
    have su6 := hEB.box.cell' (i := 6) (v := .int .i64 s.low) rfl
    have su7 := hEB.box.cell' (i := 7) (v := .int .i64 s.high) rfl
    have sf0 := hEB.box.frozen 0
    have sf1 := hEB.box.frozen 1
    have sf2 := hEB.box.frozen 2
    have sf3 := hEB.box.frozen 3
    have sf4 := hEB.box.frozen 4
    have sf5 := hEB.box.frozen 5
    have sf6 := hEB.box.frozen 6
    have sf7 := hEB.box.frozen 7
    have v0 := hEB.ent.cell' (i := 0) (v := .int .i64 12) rfl
    have v1 := hEB.ent.cell' (i := 1) (v := .int .i64 tick) rfl
    have v2 := hEB.ent.cell' (i := 2) (v := .int .i64 tenant) rfl
    have v3 := hEB.ent.cell' (i := 3) (v := .int .i64 cell) rfl
    have v4 := hEB.ent.cell' (i := 4) (v := .int .i64 other) rfl
    have v5 := hEB.ent.cell' (i := 5) (v := .int .i64 epoch) rfl
    have v6 := hEB.ent.cell' (i := 6) (v := .int .i64 since) rfl
    have v7 := hEB.ent.cell' (i := 7) (v := .int .i64 till) rfl
    have v8 := hEB.ent.cell' (i := 8) (v := .int .i64 n) rfl
    go_wp2
    clear su0 sf0 su1 sf1 su2 sf2 su3 sf3 su4 sf4 su5 sf5 su6 sf6 su7 sf7 v0 v1 v2 v3 v4 v5 v6 v7 v8
    refine wp_region_seq (fun w' : World => EB w W.heap.size (stamped s ⟨12, tick, tenant, cell, other, epoch, since, till, n⟩) ⟨A1, cp1, A2, cp2⟩ #[.int .i64 12, .int .i64 tick, .int .i64 tenant, .int .i64 cell, .int .i64 other, .int .i64 epoch, .int .i64 since, .int .i64 till, .int .i64 n] w') 7 [(0, false), (1, false), (2, false), (3, false), (4, false), (5, false), (6, false)] (by kernel_rfl) (by kernel_rfl) hEB.drew ?_
    simp only [List.take_succ_cons, List.take_zero, List.drop_succ_cons, List.drop_zero]
    repeat (refine wpSeqH_fix _ ?_ rfl (by exact fun _ _ _ h => h) (Or.inl ⟨by rfl, ?_⟩) ?_; rotate_left; (intro w' hSw; (try dsimp only at hSw); have su0 := hSw.box.cell' (i := 0) (v := .int .i64 tick) rfl; have su1 := hSw.box.cell' (i := 1) (v := .int .i64 (s.count + 1)) rfl; have su2 := hSw.box.cell' (i := 2) (v := .slice A1 s.tenants.length cp1) rfl; have su3 := hSw.box.cell' (i := 3) (v := .slice A2 s.cells.length cp2) rfl; have su4 := hSw.box.cell' (i := 4) (v := .int .i64 s.proven) rfl; have su5 := hSw.box.cell' (i := 5) (v := .int .i64 s.evac) rfl; have su6 := hSw.box.cell' (i := 6) (v := .int .i64 s.low) rfl; have su7 := hSw.box.cell' (i := 7) (v := .int .i64 s.high) rfl; have sf0 := hSw.box.frozen 0; have sf1 := hSw.box.frozen 1; have sf2 := hSw.box.frozen 2; have sf3 := hSw.box.frozen 3; have sf4 := hSw.box.frozen 4; have sf5 := hSw.box.frozen 5; have sf6 := hSw.box.frozen 6; have sf7 := hSw.box.frozen 7; have v0 := hSw.ent.cell' (i := 0) (v := .int .i64 12) rfl; have v1 := hSw.ent.cell' (i := 1) (v := .int .i64 tick) rfl; have v2 := hSw.ent.cell' (i := 2) (v := .int .i64 tenant) rfl; have v3 := hSw.ent.cell' (i := 3) (v := .int .i64 cell) rfl; have v4 := hSw.ent.cell' (i := 4) (v := .int .i64 other) rfl; have v5 := hSw.ent.cell' (i := 5) (v := .int .i64 epoch) rfl; have v6 := hSw.ent.cell' (i := 6) (v := .int .i64 since) rfl; have v7 := hSw.ent.cell' (i := 7) (v := .int .i64 till) rfl; have v8 := hSw.ent.cell' (i := 8) (v := .int .i64 n) rfl; clear hSw; go_simp; (try with_reducible rfl)); (simp only [List.getElem_toArray, List.getElem_cons_zero, List.getElem_cons_succ, Act.put, List.setIfInBounds_toArray, List.set_cons_zero, List.set_cons_succ]))
    have sc := hEB.box.cell' (i := 4) (v := .int .i64 s.proven) rfl
    have sfz := hEB.box.frozen 4
    refine wpSeqH_end ?_
    simp only [List.getElem_toArray, List.getElem_cons_zero, List.getElem_cons_succ, Act.put, List.setIfInBounds_toArray, List.set_cons_zero, List.set_cons_succ, thenK]
    go_upto_region 21 with fail
    clear sc sfz
    have hEB2 := (hEB.put (s' := { stamped s ⟨12, tick, tenant, cell, other, epoch, since, till, n⟩ with proven := orBit s.proven n }) (j := 4) (v := .int .i64 (orBit s.proven n)) rfl rfl (by simp [stC, stamped])).drew
    generalize (W4.setCell ⟨w.heap.size, 4, none⟩ (.int .i64 (orBit s.proven n))).drew = W5 at *
    have hbx := hEB2.box
    have hrs := hEB2.res
    unfold stC at hbx
    try simp only [stamped, setTen, setCel, List.length_set] at hbx
    refine wp_region_lit ?_
    refine wpList_load_mid (by rfl) _ (.tmp 2) (by rfl) w.heap.size 0 (by go_simp) [.int .i64 tick, .int .i64 (s.count + 1), .slice A1 s.tenants.length cp1, .slice A2 s.cells.length cp2, .int .i64 (orBit s.proven n), .int .i64 s.evac, .int .i64 s.low, .int .i64 s.high] _ hbx.range Try.underlying36 rfl stSize ?_
    simp only [List.getElem_toArray, List.getElem_cons_zero, List.getElem_cons_succ, Act.put, List.setIfInBounds_toArray, List.set_cons_zero, List.set_cons_succ]
    refine wpList_store_mid (by rfl) _ (.tmp 4) (.tmp 81) (by rfl) (w.heap.size + 1 + 1) 0 #[.int .i64 tick, .int .i64 (s.count + 1), .slice A1 s.tenants.length cp1, .slice A2 s.cells.length cp2, .int .i64 (orBit s.proven n), .int .i64 s.evac, .int .i64 s.low, .int .i64 s.high] (by go_simp) (by go_simp) (hrs.there 0 8 (by simp)) stSize (by simp [Value.oneCell']) ?_
    have hr2 := hrs.setCells [.int .i64 tick, .int .i64 (s.count + 1), .slice A1 s.tenants.length cp1, .slice A2 s.cells.length cp2, .int .i64 (orBit s.proven n), .int .i64 s.evac, .int .i64 s.low, .int .i64 s.high] 0
    simp only [putL, List.setIfInBounds_toArray, List.set_cons_zero, List.set_cons_succ, Nat.reduceAdd] at hr2
    have HF := Lib.hid (EB.fin hEB2 [.int .i64 tick, .int .i64 (s.count + 1), .slice A1 s.tenants.length cp1, .slice A2 s.cells.length cp2, .int .i64 (orBit s.proven n), .int .i64 s.evac, .int .i64 s.low, .int .i64 s.high])
    generalize World.setCells _ (w.heap.size + 1 + 1) 0 _ = W9 at *
    clear hbx hrs
    have g0 := hr2.cell' (i := 0) (v := .int .i64 tick) rfl
    have g1 := hr2.cell' (i := 1) (v := .int .i64 (s.count + 1)) rfl
    have g2 := hr2.cell' (i := 2) (v := .slice A1 s.tenants.length cp1) rfl
    have g3 := hr2.cell' (i := 3) (v := .slice A2 s.cells.length cp2) rfl
    have g4 := hr2.cell' (i := 4) (v := .int .i64 (orBit s.proven n)) rfl
    have g5 := hr2.cell' (i := 5) (v := .int .i64 s.evac) rfl
    have g6 := hr2.cell' (i := 6) (v := .int .i64 s.low) rfl
    have g7 := hr2.cell' (i := 7) (v := .int .i64 s.high) rfl
    go_wp2
    refine bodyPost_ret (v := .agg #[.int .i64 tick, .int .i64 (s.count + 1), .slice A1 s.tenants.length cp1, .slice A2 s.cells.length cp2, .int .i64 (orBit s.proven n), .int .i64 s.evac, .int .i64 s.low, .int .i64 s.high]) (by simp [results, Try.results29, go_sem, g0, g1, g2, g3, g4, g5, g6, g7]) rfl ?_
    exact ⟨⟨A1, cp1, A2, cp2⟩, rfl, HF.out.1, HF.out.2⟩
  · skip
    have ho : 0 ≤ other ∧ other < 4 := by
      obtain ⟨-, -, -, hO, -⟩ := ent_rng HA.out.ent
      have := HV.out.reg
      simp [inS, inR, fO] at hO
      omega
    have hev := HI.out.evac
    have hke : hasB s.evac other ≠ decide (n = 1) := by
      have := HA.out.kind
      simp only [kindE] at this
      intro h
      simp [evacE, h] at this
    by_cases hn : n = 1
    · have e1 : bits BinOp.or IntKind.i64 s.evac (IntKind.i64.wrap (2 ^ other.toNat)) = flipBit s.evac other := evac_on hev.1 hev.2 ho.1 ho.2 (by rw [hn] at hke; simpa using hke)
      subst hn
      have su0 := hEB.box.cell' (i := 0) (v := .int .i64 tick) rfl
      have su1 := hEB.box.cell' (i := 1) (v := .int .i64 (s.count + 1)) rfl
      have su2 := hEB.box.cell' (i := 2) (v := .slice A1 s.tenants.length cp1) rfl
      have su3 := hEB.box.cell' (i := 3) (v := .slice A2 s.cells.length cp2) rfl
      have su4 := hEB.box.cell' (i := 4) (v := .int .i64 s.proven) rfl
      have su5 := hEB.box.cell' (i := 5) (v := .int .i64 s.evac) rfl
      have su6 := hEB.box.cell' (i := 6) (v := .int .i64 s.low) rfl
      have su7 := hEB.box.cell' (i := 7) (v := .int .i64 s.high) rfl
      have sf0 := hEB.box.frozen 0
      have sf1 := hEB.box.frozen 1
      have sf2 := hEB.box.frozen 2
      have sf3 := hEB.box.frozen 3
      have sf4 := hEB.box.frozen 4
      have sf5 := hEB.box.frozen 5
      have sf6 := hEB.box.frozen 6
      have sf7 := hEB.box.frozen 7
      have v0 := hEB.ent.cell' (i := 0) (v := .int .i64 13) rfl
      have v1 := hEB.ent.cell' (i := 1) (v := .int .i64 tick) rfl
      have v2 := hEB.ent.cell' (i := 2) (v := .int .i64 tenant) rfl
      have v3 := hEB.ent.cell' (i := 3) (v := .int .i64 cell) rfl
      have v4 := hEB.ent.cell' (i := 4) (v := .int .i64 other) rfl
      have v5 := hEB.ent.cell' (i := 5) (v := .int .i64 epoch) rfl
      have v6 := hEB.ent.cell' (i := 6) (v := .int .i64 since) rfl
      have v7 := hEB.ent.cell' (i := 7) (v := .int .i64 till) rfl
      have v8 := hEB.ent.cell' (i := 8) (v := .int .i64 1) rfl
      go_wp2
      clear su0 sf0 su1 sf1 su2 sf2 su3 sf3 su4 sf4 su5 sf5 su6 sf6 su7 sf7 v0 v1 v2 v3 v4 v5 v6 v7 v8
      refine wp_region_seq (fun w' : World => EB w W.heap.size (stamped s ⟨13, tick, tenant, cell, other, epoch, since, till, 1⟩) ⟨A1, cp1, A2, cp2⟩ #[.int .i64 13, .int .i64 tick, .int .i64 tenant, .int .i64 cell, .int .i64 other, .int .i64 epoch, .int .i64 since, .int .i64 till, .int .i64 1] w') 7 [(0, false), (1, false), (2, false), (3, false), (4, false), (5, false), (6, false)] (by kernel_rfl) (by kernel_rfl) hEB.drew ?_
      simp only [List.take_succ_cons, List.take_zero, List.drop_succ_cons, List.drop_zero]
      repeat (refine wpSeqH_fix _ ?_ rfl (by exact fun _ _ _ h => h) (Or.inl ⟨by rfl, ?_⟩) ?_; rotate_left; (intro w' hSw; (try dsimp only at hSw); have su0 := hSw.box.cell' (i := 0) (v := .int .i64 tick) rfl; have su1 := hSw.box.cell' (i := 1) (v := .int .i64 (s.count + 1)) rfl; have su2 := hSw.box.cell' (i := 2) (v := .slice A1 s.tenants.length cp1) rfl; have su3 := hSw.box.cell' (i := 3) (v := .slice A2 s.cells.length cp2) rfl; have su4 := hSw.box.cell' (i := 4) (v := .int .i64 s.proven) rfl; have su5 := hSw.box.cell' (i := 5) (v := .int .i64 s.evac) rfl; have su6 := hSw.box.cell' (i := 6) (v := .int .i64 s.low) rfl; have su7 := hSw.box.cell' (i := 7) (v := .int .i64 s.high) rfl; have sf0 := hSw.box.frozen 0; have sf1 := hSw.box.frozen 1; have sf2 := hSw.box.frozen 2; have sf3 := hSw.box.frozen 3; have sf4 := hSw.box.frozen 4; have sf5 := hSw.box.frozen 5; have sf6 := hSw.box.frozen 6; have sf7 := hSw.box.frozen 7; have v0 := hSw.ent.cell' (i := 0) (v := .int .i64 13) rfl; have v1 := hSw.ent.cell' (i := 1) (v := .int .i64 tick) rfl; have v2 := hSw.ent.cell' (i := 2) (v := .int .i64 tenant) rfl; have v3 := hSw.ent.cell' (i := 3) (v := .int .i64 cell) rfl; have v4 := hSw.ent.cell' (i := 4) (v := .int .i64 other) rfl; have v5 := hSw.ent.cell' (i := 5) (v := .int .i64 epoch) rfl; have v6 := hSw.ent.cell' (i := 6) (v := .int .i64 since) rfl; have v7 := hSw.ent.cell' (i := 7) (v := .int .i64 till) rfl; have v8 := hSw.ent.cell' (i := 8) (v := .int .i64 1) rfl; clear hSw; go_simp; (try with_reducible rfl)); (simp only [List.getElem_toArray, List.getElem_cons_zero, List.getElem_cons_succ, Act.put, List.setIfInBounds_toArray, List.set_cons_zero, List.set_cons_succ]))
      have sc := hEB.box.cell' (i := 5) (v := .int .i64 s.evac) rfl
      have sfz := hEB.box.frozen 5
      refine wpSeqH_end ?_
      simp only [List.getElem_toArray, List.getElem_cons_zero, List.getElem_cons_succ, Act.put, List.setIfInBounds_toArray, List.set_cons_zero, List.set_cons_succ, thenK]
      go_upto_region 21 with fail
      clear sc sfz
      have hEB2 := (hEB.put (s' := { stamped s ⟨13, tick, tenant, cell, other, epoch, since, till, 1⟩ with evac := flipBit s.evac other }) (j := 5) (v := .int .i64 (flipBit s.evac other)) rfl rfl (by simp [stC, stamped])).drew
      generalize (W4.setCell ⟨w.heap.size, 5, none⟩ (.int .i64 (flipBit s.evac other))).drew = W5 at *
      have hbx := hEB2.box
      have hrs := hEB2.res
      unfold stC at hbx
      try simp only [stamped, setTen, setCel, List.length_set] at hbx
      refine wp_region_lit ?_
      refine wpList_load_mid (by rfl) _ (.tmp 2) (by rfl) w.heap.size 0 (by go_simp) [.int .i64 tick, .int .i64 (s.count + 1), .slice A1 s.tenants.length cp1, .slice A2 s.cells.length cp2, .int .i64 s.proven, .int .i64 (flipBit s.evac other), .int .i64 s.low, .int .i64 s.high] _ hbx.range Try.underlying36 rfl stSize ?_
      simp only [List.getElem_toArray, List.getElem_cons_zero, List.getElem_cons_succ, Act.put, List.setIfInBounds_toArray, List.set_cons_zero, List.set_cons_succ]
      refine wpList_store_mid (by rfl) _ (.tmp 4) (.tmp 81) (by rfl) (w.heap.size + 1 + 1) 0 #[.int .i64 tick, .int .i64 (s.count + 1), .slice A1 s.tenants.length cp1, .slice A2 s.cells.length cp2, .int .i64 s.proven, .int .i64 (flipBit s.evac other), .int .i64 s.low, .int .i64 s.high] (by go_simp) (by go_simp) (hrs.there 0 8 (by simp)) stSize (by simp [Value.oneCell']) ?_
      have hr2 := hrs.setCells [.int .i64 tick, .int .i64 (s.count + 1), .slice A1 s.tenants.length cp1, .slice A2 s.cells.length cp2, .int .i64 s.proven, .int .i64 (flipBit s.evac other), .int .i64 s.low, .int .i64 s.high] 0
      simp only [putL, List.setIfInBounds_toArray, List.set_cons_zero, List.set_cons_succ, Nat.reduceAdd] at hr2
      have HF := Lib.hid (EB.fin hEB2 [.int .i64 tick, .int .i64 (s.count + 1), .slice A1 s.tenants.length cp1, .slice A2 s.cells.length cp2, .int .i64 s.proven, .int .i64 (flipBit s.evac other), .int .i64 s.low, .int .i64 s.high])
      generalize World.setCells _ (w.heap.size + 1 + 1) 0 _ = W9 at *
      clear hbx hrs
      have g0 := hr2.cell' (i := 0) (v := .int .i64 tick) rfl
      have g1 := hr2.cell' (i := 1) (v := .int .i64 (s.count + 1)) rfl
      have g2 := hr2.cell' (i := 2) (v := .slice A1 s.tenants.length cp1) rfl
      have g3 := hr2.cell' (i := 3) (v := .slice A2 s.cells.length cp2) rfl
      have g4 := hr2.cell' (i := 4) (v := .int .i64 s.proven) rfl
      have g5 := hr2.cell' (i := 5) (v := .int .i64 (flipBit s.evac other)) rfl
      have g6 := hr2.cell' (i := 6) (v := .int .i64 s.low) rfl
      have g7 := hr2.cell' (i := 7) (v := .int .i64 s.high) rfl
      go_wp2
      refine bodyPost_ret (v := .agg #[.int .i64 tick, .int .i64 (s.count + 1), .slice A1 s.tenants.length cp1, .slice A2 s.cells.length cp2, .int .i64 s.proven, .int .i64 (flipBit s.evac other), .int .i64 s.low, .int .i64 s.high]) (by simp [results, Try.results29, go_sem, g0, g1, g2, g3, g4, g5, g6, g7]) rfl ?_
      exact ⟨⟨A1, cp1, A2, cp2⟩, rfl, HF.out.1, HF.out.2⟩
    · have e1 : bits BinOp.andNot IntKind.i64 s.evac (IntKind.i64.wrap (2 ^ other.toNat)) = flipBit s.evac other := evac_off hev.1 hev.2 ho.1 ho.2 (by simpa [hn] using hke)
      have hn2 : (n == 1) = false := beq_eq_false_iff_ne.2 hn
      have su0 := hEB.box.cell' (i := 0) (v := .int .i64 tick) rfl
      have su1 := hEB.box.cell' (i := 1) (v := .int .i64 (s.count + 1)) rfl
      have su2 := hEB.box.cell' (i := 2) (v := .slice A1 s.tenants.length cp1) rfl
      have su3 := hEB.box.cell' (i := 3) (v := .slice A2 s.cells.length cp2) rfl
      have su4 := hEB.box.cell' (i := 4) (v := .int .i64 s.proven) rfl
      have su5 := hEB.box.cell' (i := 5) (v := .int .i64 s.evac) rfl
      have su6 := hEB.box.cell' (i := 6) (v := .int .i64 s.low) rfl
      have su7 := hEB.box.cell' (i := 7) (v := .int .i64 s.high) rfl
      have sf0 := hEB.box.frozen 0
      have sf1 := hEB.box.frozen 1
      have sf2 := hEB.box.frozen 2
      have sf3 := hEB.box.frozen 3
      have sf4 := hEB.box.frozen 4
      have sf5 := hEB.box.frozen 5
      have sf6 := hEB.box.frozen 6
      have sf7 := hEB.box.frozen 7
      have v0 := hEB.ent.cell' (i := 0) (v := .int .i64 13) rfl
      have v1 := hEB.ent.cell' (i := 1) (v := .int .i64 tick) rfl
      have v2 := hEB.ent.cell' (i := 2) (v := .int .i64 tenant) rfl
      have v3 := hEB.ent.cell' (i := 3) (v := .int .i64 cell) rfl
      have v4 := hEB.ent.cell' (i := 4) (v := .int .i64 other) rfl
      have v5 := hEB.ent.cell' (i := 5) (v := .int .i64 epoch) rfl
      have v6 := hEB.ent.cell' (i := 6) (v := .int .i64 since) rfl
      have v7 := hEB.ent.cell' (i := 7) (v := .int .i64 till) rfl
      have v8 := hEB.ent.cell' (i := 8) (v := .int .i64 n) rfl
      go_wp2
      clear su0 sf0 su1 sf1 su2 sf2 su3 sf3 su4 sf4 su5 sf5 su6 sf6 su7 sf7 v0 v1 v2 v3 v4 v5 v6 v7 v8
      refine wp_region_seq (fun w' : World => EB w W.heap.size (stamped s ⟨13, tick, tenant, cell, other, epoch, since, till, n⟩) ⟨A1, cp1, A2, cp2⟩ #[.int .i64 13, .int .i64 tick, .int .i64 tenant, .int .i64 cell, .int .i64 other, .int .i64 epoch, .int .i64 since, .int .i64 till, .int .i64 n] w') 7 [(0, false), (1, false), (2, false), (3, false), (4, false), (5, false), (6, false)] (by kernel_rfl) (by kernel_rfl) hEB.drew ?_
      simp only [List.take_succ_cons, List.take_zero, List.drop_succ_cons, List.drop_zero]
      repeat (refine wpSeqH_fix _ ?_ rfl (by exact fun _ _ _ h => h) (Or.inl ⟨by rfl, ?_⟩) ?_; rotate_left; (intro w' hSw; (try dsimp only at hSw); have su0 := hSw.box.cell' (i := 0) (v := .int .i64 tick) rfl; have su1 := hSw.box.cell' (i := 1) (v := .int .i64 (s.count + 1)) rfl; have su2 := hSw.box.cell' (i := 2) (v := .slice A1 s.tenants.length cp1) rfl; have su3 := hSw.box.cell' (i := 3) (v := .slice A2 s.cells.length cp2) rfl; have su4 := hSw.box.cell' (i := 4) (v := .int .i64 s.proven) rfl; have su5 := hSw.box.cell' (i := 5) (v := .int .i64 s.evac) rfl; have su6 := hSw.box.cell' (i := 6) (v := .int .i64 s.low) rfl; have su7 := hSw.box.cell' (i := 7) (v := .int .i64 s.high) rfl; have sf0 := hSw.box.frozen 0; have sf1 := hSw.box.frozen 1; have sf2 := hSw.box.frozen 2; have sf3 := hSw.box.frozen 3; have sf4 := hSw.box.frozen 4; have sf5 := hSw.box.frozen 5; have sf6 := hSw.box.frozen 6; have sf7 := hSw.box.frozen 7; have v0 := hSw.ent.cell' (i := 0) (v := .int .i64 13) rfl; have v1 := hSw.ent.cell' (i := 1) (v := .int .i64 tick) rfl; have v2 := hSw.ent.cell' (i := 2) (v := .int .i64 tenant) rfl; have v3 := hSw.ent.cell' (i := 3) (v := .int .i64 cell) rfl; have v4 := hSw.ent.cell' (i := 4) (v := .int .i64 other) rfl; have v5 := hSw.ent.cell' (i := 5) (v := .int .i64 epoch) rfl; have v6 := hSw.ent.cell' (i := 6) (v := .int .i64 since) rfl; have v7 := hSw.ent.cell' (i := 7) (v := .int .i64 till) rfl; have v8 := hSw.ent.cell' (i := 8) (v := .int .i64 n) rfl; clear hSw; go_simp; (try with_reducible rfl)); (simp only [List.getElem_toArray, List.getElem_cons_zero, List.getElem_cons_succ, Act.put, List.setIfInBounds_toArray, List.set_cons_zero, List.set_cons_succ]))
      have sc := hEB.box.cell' (i := 5) (v := .int .i64 s.evac) rfl
      have sfz := hEB.box.frozen 5
      refine wpSeqH_end ?_
      simp only [List.getElem_toArray, List.getElem_cons_zero, List.getElem_cons_succ, Act.put, List.setIfInBounds_toArray, List.set_cons_zero, List.set_cons_succ, thenK]
      go_upto_region 21 with fail
      clear sc sfz
      have hEB2 := (hEB.put (s' := { stamped s ⟨13, tick, tenant, cell, other, epoch, since, till, n⟩ with evac := flipBit s.evac other }) (j := 5) (v := .int .i64 (flipBit s.evac other)) rfl rfl (by simp [stC, stamped])).drew
      generalize (W4.setCell ⟨w.heap.size, 5, none⟩ (.int .i64 (flipBit s.evac other))).drew = W5 at *
      have hbx := hEB2.box
      have hrs := hEB2.res
      unfold stC at hbx
      try simp only [stamped, setTen, setCel, List.length_set] at hbx
      refine wp_region_lit ?_
      refine wpList_load_mid (by rfl) _ (.tmp 2) (by rfl) w.heap.size 0 (by go_simp) [.int .i64 tick, .int .i64 (s.count + 1), .slice A1 s.tenants.length cp1, .slice A2 s.cells.length cp2, .int .i64 s.proven, .int .i64 (flipBit s.evac other), .int .i64 s.low, .int .i64 s.high] _ hbx.range Try.underlying36 rfl stSize ?_
      simp only [List.getElem_toArray, List.getElem_cons_zero, List.getElem_cons_succ, Act.put, List.setIfInBounds_toArray, List.set_cons_zero, List.set_cons_succ]
      refine wpList_store_mid (by rfl) _ (.tmp 4) (.tmp 81) (by rfl) (w.heap.size + 1 + 1) 0 #[.int .i64 tick, .int .i64 (s.count + 1), .slice A1 s.tenants.length cp1, .slice A2 s.cells.length cp2, .int .i64 s.proven, .int .i64 (flipBit s.evac other), .int .i64 s.low, .int .i64 s.high] (by go_simp) (by go_simp) (hrs.there 0 8 (by simp)) stSize (by simp [Value.oneCell']) ?_
      have hr2 := hrs.setCells [.int .i64 tick, .int .i64 (s.count + 1), .slice A1 s.tenants.length cp1, .slice A2 s.cells.length cp2, .int .i64 s.proven, .int .i64 (flipBit s.evac other), .int .i64 s.low, .int .i64 s.high] 0
      simp only [putL, List.setIfInBounds_toArray, List.set_cons_zero, List.set_cons_succ, Nat.reduceAdd] at hr2
      have HF := Lib.hid (EB.fin hEB2 [.int .i64 tick, .int .i64 (s.count + 1), .slice A1 s.tenants.length cp1, .slice A2 s.cells.length cp2, .int .i64 s.proven, .int .i64 (flipBit s.evac other), .int .i64 s.low, .int .i64 s.high])
      generalize World.setCells _ (w.heap.size + 1 + 1) 0 _ = W9 at *
      clear hbx hrs
      have g0 := hr2.cell' (i := 0) (v := .int .i64 tick) rfl
      have g1 := hr2.cell' (i := 1) (v := .int .i64 (s.count + 1)) rfl
      have g2 := hr2.cell' (i := 2) (v := .slice A1 s.tenants.length cp1) rfl
      have g3 := hr2.cell' (i := 3) (v := .slice A2 s.cells.length cp2) rfl
      have g4 := hr2.cell' (i := 4) (v := .int .i64 s.proven) rfl
      have g5 := hr2.cell' (i := 5) (v := .int .i64 (flipBit s.evac other)) rfl
      have g6 := hr2.cell' (i := 6) (v := .int .i64 s.low) rfl
      have g7 := hr2.cell' (i := 7) (v := .int .i64 s.high) rfl
      go_wp2
      refine bodyPost_ret (v := .agg #[.int .i64 tick, .int .i64 (s.count + 1), .slice A1 s.tenants.length cp1, .slice A2 s.cells.length cp2, .int .i64 s.proven, .int .i64 (flipBit s.evac other), .int .i64 s.low, .int .i64 s.high]) (by simp [results, Try.results29, go_sem, g0, g1, g2, g3, g4, g5, g6, g7]) rfl ?_
      exact ⟨⟨A1, cp1, A2, cp2⟩, rfl, HF.out.1, HF.out.2⟩
  · skip
    have hhi := HI.out.low
    have su0 := hEB.box.cell' (i := 0) (v := .int .i64 tick) rfl
    have su1 := hEB.box.cell' (i := 1) (v := .int .i64 (s.count + 1)) rfl
    have su2 := hEB.box.cell' (i := 2) (v := .slice A1 s.tenants.length cp1) rfl
    have su3 := hEB.box.cell' (i := 3) (v := .slice A2 s.cells.length cp2) rfl
    have su4 := hEB.box.cell' (i := 4) (v := .int .i64 s.proven) rfl
    have su5 := hEB.box.cell' (i := 5) (v := .int .i64 s.evac) rfl
    have su6 := hEB.box.cell' (i := 6) (v := .int .i64 s.low) rfl
    have su7 := hEB.box.cell' (i := 7) (v := .int .i64 s.high) rfl
    have sf0 := hEB.box.frozen 0
    have sf1 := hEB.box.frozen 1
    have sf2 := hEB.box.frozen 2
    have sf3 := hEB.box.frozen 3
    have sf4 := hEB.box.frozen 4
    have sf5 := hEB.box.frozen 5
    have sf6 := hEB.box.frozen 6
    have sf7 := hEB.box.frozen 7
    have v0 := hEB.ent.cell' (i := 0) (v := .int .i64 14) rfl
    have v1 := hEB.ent.cell' (i := 1) (v := .int .i64 tick) rfl
    have v2 := hEB.ent.cell' (i := 2) (v := .int .i64 tenant) rfl
    have v3 := hEB.ent.cell' (i := 3) (v := .int .i64 cell) rfl
    have v4 := hEB.ent.cell' (i := 4) (v := .int .i64 other) rfl
    have v5 := hEB.ent.cell' (i := 5) (v := .int .i64 epoch) rfl
    have v6 := hEB.ent.cell' (i := 6) (v := .int .i64 since) rfl
    have v7 := hEB.ent.cell' (i := 7) (v := .int .i64 till) rfl
    have v8 := hEB.ent.cell' (i := 8) (v := .int .i64 n) rfl
    go_upto_region 21 with fail
    clear su0 sf0 su1 sf1 su2 sf2 su3 sf3 su4 sf4 su5 sf5 su6 sf6 su7 sf7 v0 v1 v2 v3 v4 v5 v6 v7 v8
    have hEB2 := hEB.put (s' := { stamped s ⟨14, tick, tenant, cell, other, epoch, since, till, n⟩ with high := s.high + 1 }) (j := 7) (v := .int .i64 (s.high + 1)) rfl rfl (by simp [stC, stamped])
    generalize W4.setCell ⟨w.heap.size, 7, none⟩ (.int .i64 (s.high + 1)) = W5 at *
    have hbx := hEB2.box
    have hrs := hEB2.res
    unfold stC at hbx
    try simp only [stamped, setTen, setCel, List.length_set] at hbx
    refine wp_region_lit ?_
    refine wpList_load_mid (by rfl) _ (.tmp 2) (by rfl) w.heap.size 0 (by go_simp) [.int .i64 tick, .int .i64 (s.count + 1), .slice A1 s.tenants.length cp1, .slice A2 s.cells.length cp2, .int .i64 s.proven, .int .i64 s.evac, .int .i64 s.low, .int .i64 (s.high + 1)] _ hbx.range Try.underlying36 rfl stSize ?_
    simp only [List.getElem_toArray, List.getElem_cons_zero, List.getElem_cons_succ, Act.put, List.setIfInBounds_toArray, List.set_cons_zero, List.set_cons_succ]
    refine wpList_store_mid (by rfl) _ (.tmp 4) (.tmp 81) (by rfl) (w.heap.size + 1 + 1) 0 #[.int .i64 tick, .int .i64 (s.count + 1), .slice A1 s.tenants.length cp1, .slice A2 s.cells.length cp2, .int .i64 s.proven, .int .i64 s.evac, .int .i64 s.low, .int .i64 (s.high + 1)] (by go_simp) (by go_simp) (hrs.there 0 8 (by simp)) stSize (by simp [Value.oneCell']) ?_
    have hr2 := hrs.setCells [.int .i64 tick, .int .i64 (s.count + 1), .slice A1 s.tenants.length cp1, .slice A2 s.cells.length cp2, .int .i64 s.proven, .int .i64 s.evac, .int .i64 s.low, .int .i64 (s.high + 1)] 0
    simp only [putL, List.setIfInBounds_toArray, List.set_cons_zero, List.set_cons_succ, Nat.reduceAdd] at hr2
    have HF := Lib.hid (EB.fin hEB2 [.int .i64 tick, .int .i64 (s.count + 1), .slice A1 s.tenants.length cp1, .slice A2 s.cells.length cp2, .int .i64 s.proven, .int .i64 s.evac, .int .i64 s.low, .int .i64 (s.high + 1)])
    generalize World.setCells _ (w.heap.size + 1 + 1) 0 _ = W9 at *
    clear hbx hrs
    have g0 := hr2.cell' (i := 0) (v := .int .i64 tick) rfl
    have g1 := hr2.cell' (i := 1) (v := .int .i64 (s.count + 1)) rfl
    have g2 := hr2.cell' (i := 2) (v := .slice A1 s.tenants.length cp1) rfl
    have g3 := hr2.cell' (i := 3) (v := .slice A2 s.cells.length cp2) rfl
    have g4 := hr2.cell' (i := 4) (v := .int .i64 s.proven) rfl
    have g5 := hr2.cell' (i := 5) (v := .int .i64 s.evac) rfl
    have g6 := hr2.cell' (i := 6) (v := .int .i64 s.low) rfl
    have g7 := hr2.cell' (i := 7) (v := .int .i64 (s.high + 1)) rfl
    go_wp2
    refine bodyPost_ret (v := .agg #[.int .i64 tick, .int .i64 (s.count + 1), .slice A1 s.tenants.length cp1, .slice A2 s.cells.length cp2, .int .i64 s.proven, .int .i64 s.evac, .int .i64 s.low, .int .i64 (s.high + 1)]) (by simp [results, Try.results29, go_sem, g0, g1, g2, g3, g4, g5, g6, g7]) rfl ?_
    exact ⟨⟨A1, cp1, A2, cp2⟩, rfl, HF.out.1, HF.out.2⟩
  · skip
    have su0 := hEB.box.cell' (i := 0) (v := .int .i64 tick) rfl
    have su1 := hEB.box.cell' (i := 1) (v := .int .i64 (s.count + 1)) rfl
    have su2 := hEB.box.cell' (i := 2) (v := .slice A1 s.tenants.length cp1) rfl
    have su3 := hEB.box.cell' (i := 3) (v := .slice A2 s.cells.length cp2) rfl
    have su4 := hEB.box.cell' (i := 4) (v := .int .i64 s.proven) rfl
    have su5 := hEB.box.cell' (i := 5) (v := .int .i64 s.evac) rfl
    have su6 := hEB.box.cell' (i := 6) (v := .int .i64 s.low) rfl
    have su7 := hEB.box.cell' (i := 7) (v := .int .i64 s.high) rfl
    have sf0 := hEB.box.frozen 0
    have sf1 := hEB.box.frozen 1
    have sf2 := hEB.box.frozen 2
    have sf3 := hEB.box.frozen 3
    have sf4 := hEB.box.frozen 4
    have sf5 := hEB.box.frozen 5
    have sf6 := hEB.box.frozen 6
    have sf7 := hEB.box.frozen 7
    have v0 := hEB.ent.cell' (i := 0) (v := .int .i64 15) rfl
    have v1 := hEB.ent.cell' (i := 1) (v := .int .i64 tick) rfl
    have v2 := hEB.ent.cell' (i := 2) (v := .int .i64 tenant) rfl
    have v3 := hEB.ent.cell' (i := 3) (v := .int .i64 cell) rfl
    have v4 := hEB.ent.cell' (i := 4) (v := .int .i64 other) rfl
    have v5 := hEB.ent.cell' (i := 5) (v := .int .i64 epoch) rfl
    have v6 := hEB.ent.cell' (i := 6) (v := .int .i64 since) rfl
    have v7 := hEB.ent.cell' (i := 7) (v := .int .i64 till) rfl
    have v8 := hEB.ent.cell' (i := 8) (v := .int .i64 n) rfl
    go_upto_region 21 with fail
    clear su0 sf0 su1 sf1 su2 sf2 su3 sf3 su4 sf4 su5 sf5 su6 sf6 su7 sf7 v0 v1 v2 v3 v4 v5 v6 v7 v8
    have hEB2 := hEB.put (s' := { stamped s ⟨15, tick, tenant, cell, other, epoch, since, till, n⟩ with low := s.high }) (j := 6) (v := .int .i64 s.high) rfl rfl (by simp [stC, stamped])
    generalize W4.setCell ⟨w.heap.size, 6, none⟩ (.int .i64 s.high) = W5 at *
    have hbx := hEB2.box
    have hrs := hEB2.res
    unfold stC at hbx
    try simp only [stamped, setTen, setCel, List.length_set] at hbx
    refine wp_region_lit ?_
    refine wpList_load_mid (by rfl) _ (.tmp 2) (by rfl) w.heap.size 0 (by go_simp) [.int .i64 tick, .int .i64 (s.count + 1), .slice A1 s.tenants.length cp1, .slice A2 s.cells.length cp2, .int .i64 s.proven, .int .i64 s.evac, .int .i64 s.high, .int .i64 s.high] _ hbx.range Try.underlying36 rfl stSize ?_
    simp only [List.getElem_toArray, List.getElem_cons_zero, List.getElem_cons_succ, Act.put, List.setIfInBounds_toArray, List.set_cons_zero, List.set_cons_succ]
    refine wpList_store_mid (by rfl) _ (.tmp 4) (.tmp 81) (by rfl) (w.heap.size + 1 + 1) 0 #[.int .i64 tick, .int .i64 (s.count + 1), .slice A1 s.tenants.length cp1, .slice A2 s.cells.length cp2, .int .i64 s.proven, .int .i64 s.evac, .int .i64 s.high, .int .i64 s.high] (by go_simp) (by go_simp) (hrs.there 0 8 (by simp)) stSize (by simp [Value.oneCell']) ?_
    have hr2 := hrs.setCells [.int .i64 tick, .int .i64 (s.count + 1), .slice A1 s.tenants.length cp1, .slice A2 s.cells.length cp2, .int .i64 s.proven, .int .i64 s.evac, .int .i64 s.high, .int .i64 s.high] 0
    simp only [putL, List.setIfInBounds_toArray, List.set_cons_zero, List.set_cons_succ, Nat.reduceAdd] at hr2
    have HF := Lib.hid (EB.fin hEB2 [.int .i64 tick, .int .i64 (s.count + 1), .slice A1 s.tenants.length cp1, .slice A2 s.cells.length cp2, .int .i64 s.proven, .int .i64 s.evac, .int .i64 s.high, .int .i64 s.high])
    generalize World.setCells _ (w.heap.size + 1 + 1) 0 _ = W9 at *
    clear hbx hrs
    have g0 := hr2.cell' (i := 0) (v := .int .i64 tick) rfl
    have g1 := hr2.cell' (i := 1) (v := .int .i64 (s.count + 1)) rfl
    have g2 := hr2.cell' (i := 2) (v := .slice A1 s.tenants.length cp1) rfl
    have g3 := hr2.cell' (i := 3) (v := .slice A2 s.cells.length cp2) rfl
    have g4 := hr2.cell' (i := 4) (v := .int .i64 s.proven) rfl
    have g5 := hr2.cell' (i := 5) (v := .int .i64 s.evac) rfl
    have g6 := hr2.cell' (i := 6) (v := .int .i64 s.high) rfl
    have g7 := hr2.cell' (i := 7) (v := .int .i64 s.high) rfl
    go_wp2
    refine bodyPost_ret (v := .agg #[.int .i64 tick, .int .i64 (s.count + 1), .slice A1 s.tenants.length cp1, .slice A2 s.cells.length cp2, .int .i64 s.proven, .int .i64 s.evac, .int .i64 s.high, .int .i64 s.high]) (by simp [results, Try.results29, go_sem, g0, g1, g2, g3, g4, g5, g6, g7]) rfl ?_
    exact ⟨⟨A1, cp1, A2, cp2⟩, rfl, HF.out.1, HF.out.2⟩
  · go_upto_region 21 with fail
    have hbx := hEB.box
    have hrs := hEB.res
    unfold stC at hbx
    try simp only [stamped, setTen, setCel, List.length_set] at hbx
    refine wp_region_lit ?_
    refine wpList_load_mid (by rfl) _ (.tmp 2) (by rfl) w.heap.size 0 (by go_simp) [.int .i64 tick, .int .i64 (s.count + 1), .slice A1 s.tenants.length cp1, .slice A2 s.cells.length cp2, .int .i64 s.proven, .int .i64 s.evac, .int .i64 s.low, .int .i64 s.high] _ hbx.range Try.underlying36 rfl stSize ?_
    simp only [List.getElem_toArray, List.getElem_cons_zero, List.getElem_cons_succ, Act.put, List.setIfInBounds_toArray, List.set_cons_zero, List.set_cons_succ]
    refine wpList_store_mid (by rfl) _ (.tmp 4) (.tmp 81) (by rfl) (w.heap.size + 1 + 1) 0 #[.int .i64 tick, .int .i64 (s.count + 1), .slice A1 s.tenants.length cp1, .slice A2 s.cells.length cp2, .int .i64 s.proven, .int .i64 s.evac, .int .i64 s.low, .int .i64 s.high] (by go_simp) (by go_simp) (hrs.there 0 8 (by simp)) stSize (by simp [Value.oneCell']) ?_
    have hr2 := hrs.setCells [.int .i64 tick, .int .i64 (s.count + 1), .slice A1 s.tenants.length cp1, .slice A2 s.cells.length cp2, .int .i64 s.proven, .int .i64 s.evac, .int .i64 s.low, .int .i64 s.high] 0
    simp only [putL, List.setIfInBounds_toArray, List.set_cons_zero, List.set_cons_succ, Nat.reduceAdd] at hr2
    have HF := Lib.hid (EB.fin hEB [.int .i64 tick, .int .i64 (s.count + 1), .slice A1 s.tenants.length cp1, .slice A2 s.cells.length cp2, .int .i64 s.proven, .int .i64 s.evac, .int .i64 s.low, .int .i64 s.high])
    generalize World.setCells _ (w.heap.size + 1 + 1) 0 _ = W9 at *
    clear hbx hrs
    have g0 := hr2.cell' (i := 0) (v := .int .i64 tick) rfl
    have g1 := hr2.cell' (i := 1) (v := .int .i64 (s.count + 1)) rfl
    have g2 := hr2.cell' (i := 2) (v := .slice A1 s.tenants.length cp1) rfl
    have g3 := hr2.cell' (i := 3) (v := .slice A2 s.cells.length cp2) rfl
    have g4 := hr2.cell' (i := 4) (v := .int .i64 s.proven) rfl
    have g5 := hr2.cell' (i := 5) (v := .int .i64 s.evac) rfl
    have g6 := hr2.cell' (i := 6) (v := .int .i64 s.low) rfl
    have g7 := hr2.cell' (i := 7) (v := .int .i64 s.high) rfl
    go_wp2
    refine bodyPost_ret (v := .agg #[.int .i64 tick, .int .i64 (s.count + 1), .slice A1 s.tenants.length cp1, .slice A2 s.cells.length cp2, .int .i64 s.proven, .int .i64 s.evac, .int .i64 s.low, .int .i64 s.high]) (by simp [results, Try.results29, go_sem, g0, g1, g2, g3, g4, g5, g6, g7]) rfl ?_
    exact ⟨⟨A1, cp1, A2, cp2⟩, rfl, HF.out.1, HF.out.2⟩
end Go.Proofs.Ytjobcfpnmfjlfaa

namespace Go.Proofs.Ytjobcfpnmfjlfaa
open Go.RowKit
set_option linter.unusedSimpArgs false
set_option linter.unusedVariables false

/-- A state and an error, the state in memory of the call's own. -/
def ApPost (w : World) (p : St × Int) (e : Ending) (w' : World) : Prop :=
  ∃ y : StA, e = .returned (.tuple #[.agg (stC y p.1), .int .i64 p.2]) ∧ StOwn w' w.heap.size y p.1 ∧ Below w.heap.size w w'
theorem StOwn.zero (w : World) (base : Nat) : StOwn w base ⟨none, 0, none, 0⟩ St.zero := ⟨World.ownsRow_nil _ _ _ _, World.ownsRow_nil _ _ _ _⟩
theorem over_pos (c : Cfg) (s : St) : overB c s = decide (0 < (over c s).length) := by
  unfold overB over
  rw [List.length_map, Bool.eq_iff_iff, decide_eq_true_eq, List.length_pos_iff, List.any_eq_true]
  constructor
  · rintro ⟨x, hx, hp⟩ h
    have : x ∈ (List.range c.cells.length).filter (fun i => decide ((c.cells.getD i (0, 0)).2 < (booked c s).getD i 0)) := List.mem_filter.2 ⟨hx, hp⟩
    rw [h] at this
    cases this
  · intro h
    obtain ⟨x, hx⟩ := List.exists_mem_of_ne_nil _ h
    exact ⟨x, (List.mem_filter.1 hx).1, (List.mem_filter.1 hx).2⟩
theorem StOwn.later {w w' : World} {base : Nat} {y : StA} {s : St} (h : StOwn w base y s) (hb : Below w.heap.size w w') : StOwn w' base y s :=
  ⟨own_below h.tenants hb fun j hj => (h.tenants.lt j hj).2, own_below h.cells hb fun j hj => (h.cells.lt j hj).2⟩

theorem own_cells2 {base b : Nat} {y : StA} {s : St} (hb : b < base) : ∀ (vs : List Value) {w : World} (o : Nat), StOwn w base y s → StOwn (w.setCells b o vs) base y s
  | [], w, o, h => h
  | v :: r, w, o, h => by rw [World.setCells]; exact own_cells2 hb r _ ⟨own_setFar2 h.tenants (by exact hb) _, own_setFar2 h.cells (by exact hb) _⟩
theorem StOwn.base {w : World} {base base' : Nat} {y : StA} {s : St} (h : StOwn w base y s) (hb : base' ≤ base) : StOwn w base' y s := ⟨own_base h.tenants hb, own_base h.cells hb⟩
set_option maxHeartbeats 16000000 in
set_option maxRecDepth 100000 in
theorem stApply_any (x : CfgA) (c : Cfg) (y : StA) (s : St) (e : Ent) (w : World) (hV : CfgV c) (hc : CfgOk w (· < w.heap.size) x c) (hI : StInv c s) (hs : StOk w (· < w.heap.size) y s) :
    Calls Try.prog 24 #[.agg (cfgC x c), .agg (stC y s), .agg (entC e).toArray] w (ApPost w (applyP c s e)) := by
  have hnc := hV.nc
  have hntt := hV.nt
  obtain ⟨az, cz, ac, cc, at_, ct, av, cv, ar, cr, ao, co⟩ := x
  have HV := Lib.hid hV
  have HKc := Lib.hid hc
  clear hV hc
  obtain ⟨sat, sct, sac, scc⟩ := y
  have HKs := Lib.hid hs
  have hsl : 1 ≤ s.cells.length ∧ s.cells.length ≤ 16 := by have := hI.lc; omega
  have hst : s.tenants.length ≤ 32 := by have := hI.lt; omega
  have HI := Lib.hid hI
  clear hs hI
  obtain ⟨kind, tick, tenant, cell, other, epoch, since, till, n⟩ := e
  try simp only at *
  have HRE := Lib.hid (fun W hcc hss => stRefused_any ⟨az, cz, ac, cc, at_, ct, av, cv, ar, cr, ao, co⟩ c ⟨sat, sct, sac, scc⟩ s ⟨kind, tick, tenant, cell, other, epoch, since, till, n⟩ W HV.out hcc HI.out hss)
  have HEF := Lib.hid (fun W hss ha => stEffect_any c ⟨sat, sct, sac, scc⟩ s ⟨kind, tick, tenant, cell, other, epoch, since, till, n⟩ W HV.out HI.out hss ha)
  have HBO := Lib.hid (fun W => stBooks_any ⟨kind, tick, tenant, cell, other, epoch, since, till, n⟩ W)
  unfold cfgC stC entC at HRE
  unfold stC entC at HEF
  unfold entC at HBO
  simp only at HRE HEF HBO
  have hL : Below w.heap.size w ((((w.alloc (.cells #[.int .i64 c.regions, .slice az c.zones.length cz, .slice ac c.cells.length cc, .slice at_ c.tenants.length ct, .slice av c.versions.length cv, .slice ar c.replicas.length cr, .slice ao c.observers.length co, .int .i64 c.blast, .int .i64 c.lease, .int .i64 c.bake] 30)).alloc (.cells #[.int .i64 s.tick, .int .i64 s.count, .slice sat s.tenants.length sct, .slice sac s.cells.length scc, .int .i64 s.proven, .int .i64 s.evac, .int .i64 s.low, .int .i64 s.high] 36)).alloc (.cells #[.int .i64 kind, .int .i64 tick, .int .i64 tenant, .int .i64 cell, .int .i64 other, .int .i64 epoch, .int .i64 since, .int .i64 till, .int .i64 n] 45)).alloc (.cells #[.int .i64 0, .int .i64 0, .slice none 0 0, .slice none 0 0, .int .i64 0, .int .i64 0, .int .i64 0, .int .i64 0] 36)) := (((((Below.refl w.heap.size w).alloc (by simp <;> omega) (.cells #[.int .i64 c.regions, .slice az c.zones.length cz, .slice ac c.cells.length cc, .slice at_ c.tenants.length ct, .slice av c.versions.length cv, .slice ar c.replicas.length cr, .slice ao c.observers.length co, .int .i64 c.blast, .int .i64 c.lease, .int .i64 c.bake] 30)).alloc (by simp <;> omega) (.cells #[.int .i64 s.tick, .int .i64 s.count, .slice sat s.tenants.length sct, .slice sac s.cells.length scc, .int .i64 s.proven, .int .i64 s.evac, .int .i64 s.low, .int .i64 s.high] 36)).alloc (by simp <;> omega) (.cells #[.int .i64 kind, .int .i64 tick, .int .i64 tenant, .int .i64 cell, .int .i64 other, .int .i64 epoch, .int .i64 since, .int .i64 till, .int .i64 n] 45)).alloc (by simp <;> omega) (.cells #[.int .i64 0, .int .i64 0, .slice none 0 0, .slice none 0 0, .int .i64 0, .int .i64 0, .int .i64 0, .int .i64 0] 36))
  have hBc : Blk ((((w.alloc (.cells #[.int .i64 c.regions, .slice az c.zones.length cz, .slice ac c.cells.length cc, .slice at_ c.tenants.length ct, .slice av c.versions.length cv, .slice ar c.replicas.length cr, .slice ao c.observers.length co, .int .i64 c.blast, .int .i64 c.lease, .int .i64 c.bake] 30)).alloc (.cells #[.int .i64 s.tick, .int .i64 s.count, .slice sat s.tenants.length sct, .slice sac s.cells.length scc, .int .i64 s.proven, .int .i64 s.evac, .int .i64 s.low, .int .i64 s.high] 36)).alloc (.cells #[.int .i64 kind, .int .i64 tick, .int .i64 tenant, .int .i64 cell, .int .i64 other, .int .i64 epoch, .int .i64 since, .int .i64 till, .int .i64 n] 45)).alloc (.cells #[.int .i64 0, .int .i64 0, .slice none 0 0, .slice none 0 0, .int .i64 0, .int .i64 0, .int .i64 0, .int .i64 0] 36)) (w.heap.size) 30 #[.int .i64 c.regions, .slice az c.zones.length cz, .slice ac c.cells.length cc, .slice at_ c.tenants.length ct, .slice av c.versions.length cv, .slice ar c.replicas.length cr, .slice ao c.observers.length co, .int .i64 c.blast, .int .i64 c.lease, .int .i64 c.bake] := by
    have := ((((Blk.new w 30 #[.int .i64 c.regions, .slice az c.zones.length cz, .slice ac c.cells.length cc, .slice at_ c.tenants.length ct, .slice av c.versions.length cv, .slice ar c.replicas.length cr, .slice ao c.observers.length co, .int .i64 c.blast, .int .i64 c.lease, .int .i64 c.bake]).alloc (.cells #[.int .i64 s.tick, .int .i64 s.count, .slice sat s.tenants.length sct, .slice sac s.cells.length scc, .int .i64 s.proven, .int .i64 s.evac, .int .i64 s.low, .int .i64 s.high] 36)).alloc (.cells #[.int .i64 kind, .int .i64 tick, .int .i64 tenant, .int .i64 cell, .int .i64 other, .int .i64 epoch, .int .i64 since, .int .i64 till, .int .i64 n] 45)).alloc (.cells #[.int .i64 0, .int .i64 0, .slice none 0 0, .slice none 0 0, .int .i64 0, .int .i64 0, .int .i64 0, .int .i64 0] 36))
    simpa using this
  have hBs : Blk ((((w.alloc (.cells #[.int .i64 c.regions, .slice az c.zones.length cz, .slice ac c.cells.length cc, .slice at_ c.tenants.length ct, .slice av c.versions.length cv, .slice ar c.replicas.length cr, .slice ao c.observers.length co, .int .i64 c.blast, .int .i64 c.lease, .int .i64 c.bake] 30)).alloc (.cells #[.int .i64 s.tick, .int .i64 s.count, .slice sat s.tenants.length sct, .slice sac s.cells.length scc, .int .i64 s.proven, .int .i64 s.evac, .int .i64 s.low, .int .i64 s.high] 36)).alloc (.cells #[.int .i64 kind, .int .i64 tick, .int .i64 tenant, .int .i64 cell, .int .i64 other, .int .i64 epoch, .int .i64 since, .int .i64 till, .int .i64 n] 45)).alloc (.cells #[.int .i64 0, .int .i64 0, .slice none 0 0, .slice none 0 0, .int .i64 0, .int .i64 0, .int .i64 0, .int .i64 0] 36)) (w.heap.size + 1) 36 #[.int .i64 s.tick, .int .i64 s.count, .slice sat s.tenants.length sct, .slice sac s.cells.length scc, .int .i64 s.proven, .int .i64 s.evac, .int .i64 s.low, .int .i64 s.high] := by
    have := (((Blk.new (w.alloc (.cells #[.int .i64 c.regions, .slice az c.zones.length cz, .slice ac c.cells.length cc, .slice at_ c.tenants.length ct, .slice av c.versions.length cv, .slice ar c.replicas.length cr, .slice ao c.observers.length co, .int .i64 c.blast, .int .i64 c.lease, .int .i64 c.bake] 30)) 36 #[.int .i64 s.tick, .int .i64 s.count, .slice sat s.tenants.length sct, .slice sac s.cells.length scc, .int .i64 s.proven, .int .i64 s.evac, .int .i64 s.low, .int .i64 s.high]).alloc (.cells #[.int .i64 kind, .int .i64 tick, .int .i64 tenant, .int .i64 cell, .int .i64 other, .int .i64 epoch, .int .i64 since, .int .i64 till, .int .i64 n] 45)).alloc (.cells #[.int .i64 0, .int .i64 0, .slice none 0 0, .slice none 0 0, .int .i64 0, .int .i64 0, .int .i64 0, .int .i64 0] 36))
    simpa using this
  have hBe : Blk ((((w.alloc (.cells #[.int .i64 c.regions, .slice az c.zones.length cz, .slice ac c.cells.length cc, .slice at_ c.tenants.length ct, .slice av c.versions.length cv, .slice ar c.replicas.length cr, .slice ao c.observers.length co, .int .i64 c.blast, .int .i64 c.lease, .int .i64 c.bake] 30)).alloc (.cells #[.int .i64 s.tick, .int .i64 s.count, .slice sat s.tenants.length sct, .slice sac s.cells.length scc, .int .i64 s.proven, .int .i64 s.evac, .int .i64 s.low, .int .i64 s.high] 36)).alloc (.cells #[.int .i64 kind, .int .i64 tick, .int .i64 tenant, .int .i64 cell, .int .i64 other, .int .i64 epoch, .int .i64 since, .int .i64 till, .int .i64 n] 45)).alloc (.cells #[.int .i64 0, .int .i64 0, .slice none 0 0, .slice none 0 0, .int .i64 0, .int .i64 0, .int .i64 0, .int .i64 0] 36)) (w.heap.size + 1 + 1) 45 #[.int .i64 kind, .int .i64 tick, .int .i64 tenant, .int .i64 cell, .int .i64 other, .int .i64 epoch, .int .i64 since, .int .i64 till, .int .i64 n] := by
    have := ((Blk.new ((w.alloc (.cells #[.int .i64 c.regions, .slice az c.zones.length cz, .slice ac c.cells.length cc, .slice at_ c.tenants.length ct, .slice av c.versions.length cv, .slice ar c.replicas.length cr, .slice ao c.observers.length co, .int .i64 c.blast, .int .i64 c.lease, .int .i64 c.bake] 30)).alloc (.cells #[.int .i64 s.tick, .int .i64 s.count, .slice sat s.tenants.length sct, .slice sac s.cells.length scc, .int .i64 s.proven, .int .i64 s.evac, .int .i64 s.low, .int .i64 s.high] 36)) 45 #[.int .i64 kind, .int .i64 tick, .int .i64 tenant, .int .i64 cell, .int .i64 other, .int .i64 epoch, .int .i64 since, .int .i64 till, .int .i64 n]).alloc (.cells #[.int .i64 0, .int .i64 0, .slice none 0 0, .slice none 0 0, .int .i64 0, .int .i64 0, .int .i64 0, .int .i64 0] 36))
    simpa using this
  have hBz : Blk ((((w.alloc (.cells #[.int .i64 c.regions, .slice az c.zones.length cz, .slice ac c.cells.length cc, .slice at_ c.tenants.length ct, .slice av c.versions.length cv, .slice ar c.replicas.length cr, .slice ao c.observers.length co, .int .i64 c.blast, .int .i64 c.lease, .int .i64 c.bake] 30)).alloc (.cells #[.int .i64 s.tick, .int .i64 s.count, .slice sat s.tenants.length sct, .slice sac s.cells.length scc, .int .i64 s.proven, .int .i64 s.evac, .int .i64 s.low, .int .i64 s.high] 36)).alloc (.cells #[.int .i64 kind, .int .i64 tick, .int .i64 tenant, .int .i64 cell, .int .i64 other, .int .i64 epoch, .int .i64 since, .int .i64 till, .int .i64 n] 45)).alloc (.cells #[.int .i64 0, .int .i64 0, .slice none 0 0, .slice none 0 0, .int .i64 0, .int .i64 0, .int .i64 0, .int .i64 0] 36)) (w.heap.size + 1 + 1 + 1) 36 #[.int .i64 0, .int .i64 0, .slice none 0 0, .slice none 0 0, .int .i64 0, .int .i64 0, .int .i64 0, .int .i64 0] := by
    have := (Blk.new (((w.alloc (.cells #[.int .i64 c.regions, .slice az c.zones.length cz, .slice ac c.cells.length cc, .slice at_ c.tenants.length ct, .slice av c.versions.length cv, .slice ar c.replicas.length cr, .slice ao c.observers.length co, .int .i64 c.blast, .int .i64 c.lease, .int .i64 c.bake] 30)).alloc (.cells #[.int .i64 s.tick, .int .i64 s.count, .slice sat s.tenants.length sct, .slice sac s.cells.length scc, .int .i64 s.proven, .int .i64 s.evac, .int .i64 s.low, .int .i64 s.high] 36)).alloc (.cells #[.int .i64 kind, .int .i64 tick, .int .i64 tenant, .int .i64 cell, .int .i64 other, .int .i64 epoch, .int .i64 since, .int .i64 till, .int .i64 n] 45)) 36 #[.int .i64 0, .int .i64 0, .slice none 0 0, .slice none 0 0, .int .i64 0, .int .i64 0, .int .i64 0, .int .i64 0])
    simpa using this
  unfold cfgC stC entC
  simp only
  go_enter Try.func24, Try.ntmps24
  go_upto_region 1 with fail
  generalize (((w.alloc _).alloc _).alloc _).alloc _ = W at *
  have hgc := hBc.lt
  have d0 := hBc.cell' (i := 0) (v := .int .i64 c.regions) rfl
  have d1 := hBc.cell' (i := 1) (v := .slice az c.zones.length cz) rfl
  have d2 := hBc.cell' (i := 2) (v := .slice ac c.cells.length cc) rfl
  have d3 := hBc.cell' (i := 3) (v := .slice at_ c.tenants.length ct) rfl
  have d4 := hBc.cell' (i := 4) (v := .slice av c.versions.length cv) rfl
  have d5 := hBc.cell' (i := 5) (v := .slice ar c.replicas.length cr) rfl
  have d6 := hBc.cell' (i := 6) (v := .slice ao c.observers.length co) rfl
  have d7 := hBc.cell' (i := 7) (v := .int .i64 c.blast) rfl
  have d8 := hBc.cell' (i := 8) (v := .int .i64 c.lease) rfl
  have d9 := hBc.cell' (i := 9) (v := .int .i64 c.bake) rfl
  clear hBc
  have hgs := hBs.lt
  have su0 := hBs.cell' (i := 0) (v := .int .i64 s.tick) rfl
  have su1 := hBs.cell' (i := 1) (v := .int .i64 s.count) rfl
  have su2 := hBs.cell' (i := 2) (v := .slice sat s.tenants.length sct) rfl
  have su3 := hBs.cell' (i := 3) (v := .slice sac s.cells.length scc) rfl
  have su4 := hBs.cell' (i := 4) (v := .int .i64 s.proven) rfl
  have su5 := hBs.cell' (i := 5) (v := .int .i64 s.evac) rfl
  have su6 := hBs.cell' (i := 6) (v := .int .i64 s.low) rfl
  have su7 := hBs.cell' (i := 7) (v := .int .i64 s.high) rfl
  clear hBs
  have hge := hBe.lt
  have v0 := hBe.cell' (i := 0) (v := .int .i64 kind) rfl
  have v1 := hBe.cell' (i := 1) (v := .int .i64 tick) rfl
  have v2 := hBe.cell' (i := 2) (v := .int .i64 tenant) rfl
  have v3 := hBe.cell' (i := 3) (v := .int .i64 cell) rfl
  have v4 := hBe.cell' (i := 4) (v := .int .i64 other) rfl
  have v5 := hBe.cell' (i := 5) (v := .int .i64 epoch) rfl
  have v6 := hBe.cell' (i := 6) (v := .int .i64 since) rfl
  have v7 := hBe.cell' (i := 7) (v := .int .i64 till) rfl
  have v8 := hBe.cell' (i := 8) (v := .int .i64 n) rfl
  clear hBe
  have HL := Lib.hid hL
  have HWc := Lib.hid (HKc.out.belowW hL)
  have HWs := Lib.hid (HKs.out.belowW hL)
  clear hL
  have hgz := hBz.lt
  have hx : ∀ (y : Later W.heap.size W) b o, b < W.heap.size → y.world.cell? ⟨b, o, none⟩ = W.cell? ⟨b, o, none⟩ := fun y b o h => y.cell h
  go_wp2_with fail
  refine (HRE.out _ HWc.out HWs.out).mono ?_
  rintro r wq ⟨rfl, hbq⟩
  have hBz2 := hBz.below hbq hgz
  have HL2 := Lib.hid (HL.out.trans (hbq.mono HL.out.size))
  by_cases hr : refusedE c s ⟨kind, tick, tenant, cell, other, epoch, since, till, n⟩ = 0
  · have hacc := acc_of hr
    have hI1 := HI.out.step HV.out hr
    have HAP : Hid (applyP c s ⟨kind, tick, tenant, cell, other, epoch, since, till, n⟩ = if booksB ⟨kind, tick, tenant, cell, other, epoch, since, till, n⟩ = true ∧ overB c (effOf s ⟨kind, tick, tenant, cell, other, epoch, since, till, n⟩) = true then (St.zero, 10) else (effOf s ⟨kind, tick, tenant, cell, other, epoch, since, till, n⟩, 0)) := Lib.hid (by unfold applyP; rw [if_neg (by simp [hr])])
    rw [hr]
    obtain ⟨yq, hyq⟩ : ∃ y : Later W.heap.size W, wq = y.world := ⟨⟨wq, hbq⟩, rfl⟩
    have HWsq := Lib.hid (HWs.out.belowW hbq)
    clear hbq HRE hBz
    subst hyq
    go_wp2_with fail
    refine (HEF.out _ HWsq.out hacc).mono ?_
    rintro r w2 ⟨y1, rfl, hO1, hb2⟩
    clear HEF hacc
    generalize hs1 : effOf s ⟨kind, tick, tenant, cell, other, epoch, since, till, n⟩ = s1 at *
    obtain ⟨yr, hyr⟩ := later_next yq (Nat.le_refl _) hb2
    have hszq := yq.below.size
    have hbz3 := hBz2.below hb2 hBz2.lt
    have HL3 := Lib.hid (HL2.out.trans (hb2.mono HL2.out.size))
    have HO1 : Hid (StOwn w2 W.heap.size y1 s1) := Lib.hid ⟨own_base hO1.tenants hszq, own_base hO1.cells hszq⟩
    clear hb2 hO1 hBz2 HL2 hszq
    subst hyr
    rw [show stC y1 s1 = #[.int .i64 s1.tick, .int .i64 s1.count, .slice y1.at_ s1.tenants.length y1.ct, .slice y1.ac s1.cells.length y1.cc, .int .i64 s1.proven, .int .i64 s1.evac, .int .i64 s1.low, .int .i64 s1.high] from rfl]
    have hB9 := Blk.new yr.world 36 #[.int .i64 s1.tick, .int .i64 s1.count, .slice y1.at_ s1.tenants.length y1.ct, .slice y1.ac s1.cells.length y1.cc, .int .i64 s1.proven, .int .i64 s1.evac, .int .i64 s1.low, .int .i64 s1.high]
    have hL2 := yr.below.alloc yr.below.size (.cells #[.int .i64 s1.tick, .int .i64 s1.count, .slice y1.at_ s1.tenants.length y1.ct, .slice y1.ac s1.cells.length y1.cc, .int .i64 s1.proven, .int .i64 s1.evac, .int .i64 s1.low, .int .i64 s1.high] 36)
    have hBz4 := hbz3.alloc (.cells #[.int .i64 s1.tick, .int .i64 s1.count, .slice y1.at_ s1.tenants.length y1.ct, .slice y1.ac s1.cells.length y1.cc, .int .i64 s1.proven, .int .i64 s1.evac, .int .i64 s1.low, .int .i64 s1.high] 36)
    have HL4 := Lib.hid (HL3.out.alloc HL3.out.size (.cells #[.int .i64 s1.tick, .int .i64 s1.count, .slice y1.at_ s1.tenants.length y1.ct, .slice y1.ac s1.cells.length y1.cc, .int .i64 s1.proven, .int .i64 s1.evac, .int .i64 s1.low, .int .i64 s1.high] 36))
    have HO3 := Lib.hid (HO1.out.later ((Below.refl yr.world.heap.size yr.world).alloc (Nat.le_refl _) (.cells #[.int .i64 s1.tick, .int .i64 s1.count, .slice y1.at_ s1.tenants.length y1.ct, .slice y1.ac s1.cells.length y1.cc, .int .i64 s1.proven, .int .i64 s1.evac, .int .i64 s1.low, .int .i64 s1.high] 36)))
    clear hbz3 HL3 HO1
    have hgz0 := hgz
    go_upto_region 5 with fail
    generalize yr.world.alloc _ = W3 at *
    generalize yr.world.heap.size = g9 at *
    clear hx
    replace d0 : W3.cell? ⟨w.heap.size, 0, none⟩ = some (.int .i64 c.regions) := (hL2.cell (p := ⟨w.heap.size, 0, none⟩) hgc).trans d0
    replace d1 : W3.cell? ⟨w.heap.size, 1, none⟩ = some (.slice az c.zones.length cz) := (hL2.cell (p := ⟨w.heap.size, 1, none⟩) hgc).trans d1
    replace d2 : W3.cell? ⟨w.heap.size, 2, none⟩ = some (.slice ac c.cells.length cc) := (hL2.cell (p := ⟨w.heap.size, 2, none⟩) hgc).trans d2
    replace d3 : W3.cell? ⟨w.heap.size, 3, none⟩ = some (.slice at_ c.tenants.length ct) := (hL2.cell (p := ⟨w.heap.size, 3, none⟩) hgc).trans d3
    replace d4 : W3.cell? ⟨w.heap.size, 4, none⟩ = some (.slice av c.versions.length cv) := (hL2.cell (p := ⟨w.heap.size, 4, none⟩) hgc).trans d4
    replace d5 : W3.cell? ⟨w.heap.size, 5, none⟩ = some (.slice ar c.replicas.length cr) := (hL2.cell (p := ⟨w.heap.size, 5, none⟩) hgc).trans d5
    replace d6 : W3.cell? ⟨w.heap.size, 6, none⟩ = some (.slice ao c.observers.length co) := (hL2.cell (p := ⟨w.heap.size, 6, none⟩) hgc).trans d6
    replace d7 : W3.cell? ⟨w.heap.size, 7, none⟩ = some (.int .i64 c.blast) := (hL2.cell (p := ⟨w.heap.size, 7, none⟩) hgc).trans d7
    replace d8 : W3.cell? ⟨w.heap.size, 8, none⟩ = some (.int .i64 c.lease) := (hL2.cell (p := ⟨w.heap.size, 8, none⟩) hgc).trans d8
    replace d9 : W3.cell? ⟨w.heap.size, 9, none⟩ = some (.int .i64 c.bake) := (hL2.cell (p := ⟨w.heap.size, 9, none⟩) hgc).trans d9
    replace hgc : w.heap.size < W3.heap.size := Nat.lt_of_lt_of_le hgc hL2.size
    replace su0 : W3.cell? ⟨w.heap.size + 1, 0, none⟩ = some (.int .i64 s.tick) := (hL2.cell (p := ⟨w.heap.size + 1, 0, none⟩) hgs).trans su0
    replace su1 : W3.cell? ⟨w.heap.size + 1, 1, none⟩ = some (.int .i64 s.count) := (hL2.cell (p := ⟨w.heap.size + 1, 1, none⟩) hgs).trans su1
    replace su2 : W3.cell? ⟨w.heap.size + 1, 2, none⟩ = some (.slice sat s.tenants.length sct) := (hL2.cell (p := ⟨w.heap.size + 1, 2, none⟩) hgs).trans su2
    replace su3 : W3.cell? ⟨w.heap.size + 1, 3, none⟩ = some (.slice sac s.cells.length scc) := (hL2.cell (p := ⟨w.heap.size + 1, 3, none⟩) hgs).trans su3
    replace su4 : W3.cell? ⟨w.heap.size + 1, 4, none⟩ = some (.int .i64 s.proven) := (hL2.cell (p := ⟨w.heap.size + 1, 4, none⟩) hgs).trans su4
    replace su5 : W3.cell? ⟨w.heap.size + 1, 5, none⟩ = some (.int .i64 s.evac) := (hL2.cell (p := ⟨w.heap.size + 1, 5, none⟩) hgs).trans su5
    replace su6 : W3.cell? ⟨w.heap.size + 1, 6, none⟩ = some (.int .i64 s.low) := (hL2.cell (p := ⟨w.heap.size + 1, 6, none⟩) hgs).trans su6
    replace su7 : W3.cell? ⟨w.heap.size + 1, 7, none⟩ = some (.int .i64 s.high) := (hL2.cell (p := ⟨w.heap.size + 1, 7, none⟩) hgs).trans su7
    replace hgs : w.heap.size + 1 < W3.heap.size := Nat.lt_of_lt_of_le hgs hL2.size
    replace v0 : W3.cell? ⟨w.heap.size + 1 + 1, 0, none⟩ = some (.int .i64 kind) := (hL2.cell (p := ⟨w.heap.size + 1 + 1, 0, none⟩) hge).trans v0
    replace v1 : W3.cell? ⟨w.heap.size + 1 + 1, 1, none⟩ = some (.int .i64 tick) := (hL2.cell (p := ⟨w.heap.size + 1 + 1, 1, none⟩) hge).trans v1
    replace v2 : W3.cell? ⟨w.heap.size + 1 + 1, 2, none⟩ = some (.int .i64 tenant) := (hL2.cell (p := ⟨w.heap.size + 1 + 1, 2, none⟩) hge).trans v2
    replace v3 : W3.cell? ⟨w.heap.size + 1 + 1, 3, none⟩ = some (.int .i64 cell) := (hL2.cell (p := ⟨w.heap.size + 1 + 1, 3, none⟩) hge).trans v3
    replace v4 : W3.cell? ⟨w.heap.size + 1 + 1, 4, none⟩ = some (.int .i64 other) := (hL2.cell (p := ⟨w.heap.size + 1 + 1, 4, none⟩) hge).trans v4
    replace v5 : W3.cell? ⟨w.heap.size + 1 + 1, 5, none⟩ = some (.int .i64 epoch) := (hL2.cell (p := ⟨w.heap.size + 1 + 1, 5, none⟩) hge).trans v5
    replace v6 : W3.cell? ⟨w.heap.size + 1 + 1, 6, none⟩ = some (.int .i64 since) := (hL2.cell (p := ⟨w.heap.size + 1 + 1, 6, none⟩) hge).trans v6
    replace v7 : W3.cell? ⟨w.heap.size + 1 + 1, 7, none⟩ = some (.int .i64 till) := (hL2.cell (p := ⟨w.heap.size + 1 + 1, 7, none⟩) hge).trans v7
    replace v8 : W3.cell? ⟨w.heap.size + 1 + 1, 8, none⟩ = some (.int .i64 n) := (hL2.cell (p := ⟨w.heap.size + 1 + 1, 8, none⟩) hge).trans v8
    replace hge : w.heap.size + 1 + 1 < W3.heap.size := Nat.lt_of_lt_of_le hge hL2.size
    replace HWc := Lib.hid (HWc.out.belowW hL2)
    replace HWs := Lib.hid (HWs.out.belowW hL2)
    clear hL2
    have hx : ∀ (y : Later W3.heap.size W3) b o, b < W3.heap.size → y.world.cell? ⟨b, o, none⟩ = W3.cell? ⟨b, o, none⟩ := fun y b o h => y.cell h
    have p0 := hB9.cell' (i := 0) (v := .int .i64 s1.tick) rfl
    have p1 := hB9.cell' (i := 1) (v := .int .i64 s1.count) rfl
    have p2 := hB9.cell' (i := 2) (v := .slice y1.at_ s1.tenants.length y1.ct) rfl
    have p3 := hB9.cell' (i := 3) (v := .slice y1.ac s1.cells.length y1.cc) rfl
    have p4 := hB9.cell' (i := 4) (v := .int .i64 s1.proven) rfl
    have p5 := hB9.cell' (i := 5) (v := .int .i64 s1.evac) rfl
    have p6 := hB9.cell' (i := 6) (v := .int .i64 s1.low) rfl
    have p7 := hB9.cell' (i := 7) (v := .int .i64 s1.high) rfl
    have hg9 := hB9.lt
    refine start_later W3.heap.size ?_
    intro ya
    go_wp2_with fail
    refine (HBO.out _).mono ?_
    rintro r wb ⟨rfl, hbb⟩
    obtain ⟨yb, rfl⟩ := later_next ya (Nat.le_refl _) hbb
    clear hbb HBO
    by_cases hbk : booksB ⟨kind, tick, tenant, cell, other, epoch, since, till, n⟩ = true
    · rw [hbk]
      have HOV := Lib.hid (fun (yy : Later W3.heap.size W3) => ldOver_any ⟨az, cz, ac, cc, at_, ct, av, cv, ar, cr, ao, co⟩ c y1 s1 yy.world HV.out (HWc.out.laterW yy) hI1 (HO3.out.ok.laterW yy))
      unfold cfgC stC at HOV
      simp only at HOV
      go_wp2_with fail
      refine (HOV.out _).mono ?_
      rintro r wo ⟨Ao, co2, rfl, -, hbo⟩
      obtain ⟨yo, rfl⟩ := later_next yb (Nat.le_refl _) hbo
      clear hbo HOV
      have hol : (over c s1).length ≤ 16 := by rw [over_pick]; exact Nat.le_trans (pickK_len _ _) hnc.2
      by_cases hov : 0 < (over c s1).length
      · have HAR : Hid (applyP c s ⟨kind, tick, tenant, cell, other, epoch, since, till, n⟩ = (St.zero, 10)) := Lib.hid (by rw [HAP.out, if_pos ⟨hbk, by rw [over_pos]; simpa using hov⟩])
        clear HAP
        have hBz2 := hBz4.below yo.below hBz4.lt
        have z0 := hBz2.cell' (i := 0) (v := .int .i64 0) rfl
        have z1 := hBz2.cell' (i := 1) (v := .int .i64 0) rfl
        have z2 := hBz2.cell' (i := 2) (v := .slice none 0 0) rfl
        have z3 := hBz2.cell' (i := 3) (v := .slice none 0 0) rfl
        have z4 := hBz2.cell' (i := 4) (v := .int .i64 0) rfl
        have z5 := hBz2.cell' (i := 5) (v := .int .i64 0) rfl
        have z6 := hBz2.cell' (i := 6) (v := .int .i64 0) rfl
        have z7 := hBz2.cell' (i := 7) (v := .int .i64 0) rfl
        have zf0 := hBz2.frozen 0
        have zf1 := hBz2.frozen 1
        have zf2 := hBz2.frozen 2
        have zf3 := hBz2.frozen 3
        have zf4 := hBz2.frozen 4
        have zf5 := hBz2.frozen 5
        have zf6 := hBz2.frozen 6
        have zf7 := hBz2.frozen 7
        have hb9 := below_setCells2 (HL4.out.trans (yo.below.mono HL4.out.size)) (b := w.heap.size + 1 + 1 + 1) (by omega) [.int .i64 0, .int .i64 0, .slice none 0 0, .slice none 0 0, .int .i64 0, .int .i64 0, .int .i64 0, .int .i64 0] 0
        skip
        simp only [World.setCells, Nat.reduceAdd] at hb9
        have HB9 := Lib.hid hb9
        skip
        clear hb9
        go_wp2
        clear z0 zf0 z1 zf1 z2 zf2 z3 zf3 z4 zf4 z5 zf5 z6 zf6 z7 zf7
        have hr2 := hBz2.setCells [.int .i64 0, .int .i64 0, .slice none 0 0, .slice none 0 0, .int .i64 0, .int .i64 0, .int .i64 0, .int .i64 0] 0
        simp only [World.setCells, putL, List.setIfInBounds_toArray, List.set_cons_zero, List.set_cons_succ, Nat.reduceAdd] at hr2
        have g0 := hr2.cell' (i := 0) (v := .int .i64 0) rfl
        have g1 := hr2.cell' (i := 1) (v := .int .i64 0) rfl
        have g2 := hr2.cell' (i := 2) (v := .slice none 0 0) rfl
        have g3 := hr2.cell' (i := 3) (v := .slice none 0 0) rfl
        have g4 := hr2.cell' (i := 4) (v := .int .i64 0) rfl
        have g5 := hr2.cell' (i := 5) (v := .int .i64 0) rfl
        have g6 := hr2.cell' (i := 6) (v := .int .i64 0) rfl
        have g7 := hr2.cell' (i := 7) (v := .int .i64 0) rfl
        refine bodyPost_ret (v := .tuple #[.agg #[.int .i64 0, .int .i64 0, .slice none 0 0, .slice none 0 0, .int .i64 0, .int .i64 0, .int .i64 0, .int .i64 0], .int .i64 (10)]) (by simp [results, Try.results24, go_sem, g0, g1, g2, g3, g4, g5, g6, g7]) rfl ?_
        refine ⟨⟨none, 0, none, 0⟩, ?_, ?_, HB9.out⟩
        · rw [HAR.out]; rfl
        · rw [HAR.out]; exact StOwn.zero _ _
      · have HAR : Hid (applyP c s ⟨kind, tick, tenant, cell, other, epoch, since, till, n⟩ = (s1, 0)) := Lib.hid (by rw [HAP.out, if_neg (by rintro ⟨-, h⟩; rw [over_pos] at h; simp at h; omega)])
        have hov0 : (over c s1).length = 0 := by omega
        clear HAP
        rw [hov0]
        have hBz2 := hBz4.below yo.below hBz4.lt
        have hB10 := hB9.below yo.below hB9.lt
        have n0 := hB10.cell' (i := 0) (v := .int .i64 s1.tick) rfl
        have n1 := hB10.cell' (i := 1) (v := .int .i64 s1.count) rfl
        have n2 := hB10.cell' (i := 2) (v := .slice y1.at_ s1.tenants.length y1.ct) rfl
        have n3 := hB10.cell' (i := 3) (v := .slice y1.ac s1.cells.length y1.cc) rfl
        have n4 := hB10.cell' (i := 4) (v := .int .i64 s1.proven) rfl
        have n5 := hB10.cell' (i := 5) (v := .int .i64 s1.evac) rfl
        have n6 := hB10.cell' (i := 6) (v := .int .i64 s1.low) rfl
        have n7 := hB10.cell' (i := 7) (v := .int .i64 s1.high) rfl
        have z0 := hBz2.cell' (i := 0) (v := .int .i64 0) rfl
        have z1 := hBz2.cell' (i := 1) (v := .int .i64 0) rfl
        have z2 := hBz2.cell' (i := 2) (v := .slice none 0 0) rfl
        have z3 := hBz2.cell' (i := 3) (v := .slice none 0 0) rfl
        have z4 := hBz2.cell' (i := 4) (v := .int .i64 0) rfl
        have z5 := hBz2.cell' (i := 5) (v := .int .i64 0) rfl
        have z6 := hBz2.cell' (i := 6) (v := .int .i64 0) rfl
        have z7 := hBz2.cell' (i := 7) (v := .int .i64 0) rfl
        have zf0 := hBz2.frozen 0
        have zf1 := hBz2.frozen 1
        have zf2 := hBz2.frozen 2
        have zf3 := hBz2.frozen 3
        have zf4 := hBz2.frozen 4
        have zf5 := hBz2.frozen 5
        have zf6 := hBz2.frozen 6
        have zf7 := hBz2.frozen 7
        have hb9 := below_setCells2 (HL4.out.trans (yo.below.mono HL4.out.size)) (b := w.heap.size + 1 + 1 + 1) (by omega) [.int .i64 s1.tick, .int .i64 s1.count, .slice y1.at_ s1.tenants.length y1.ct, .slice y1.ac s1.cells.length y1.cc, .int .i64 s1.proven, .int .i64 s1.evac, .int .i64 s1.low, .int .i64 s1.high] 0
        have ho9 := (own_cells2 (b := w.heap.size + 1 + 1 + 1) hgz0 [.int .i64 s1.tick, .int .i64 s1.count, .slice y1.at_ s1.tenants.length y1.ct, .slice y1.ac s1.cells.length y1.cc, .int .i64 s1.proven, .int .i64 s1.evac, .int .i64 s1.low, .int .i64 s1.high] 0 (HO3.out.later yo.below)).base HL.out.size
        simp only [World.setCells, Nat.reduceAdd] at hb9 ho9
        have HB9 := Lib.hid hb9
        have HO9 := Lib.hid ho9
        clear hb9 ho9
        go_wp2
        clear z0 zf0 z1 zf1 z2 zf2 z3 zf3 z4 zf4 z5 zf5 z6 zf6 z7 zf7
        have hr2 := hBz2.setCells [.int .i64 s1.tick, .int .i64 s1.count, .slice y1.at_ s1.tenants.length y1.ct, .slice y1.ac s1.cells.length y1.cc, .int .i64 s1.proven, .int .i64 s1.evac, .int .i64 s1.low, .int .i64 s1.high] 0
        simp only [World.setCells, putL, List.setIfInBounds_toArray, List.set_cons_zero, List.set_cons_succ, Nat.reduceAdd] at hr2
        have g0 := hr2.cell' (i := 0) (v := .int .i64 s1.tick) rfl
        have g1 := hr2.cell' (i := 1) (v := .int .i64 s1.count) rfl
        have g2 := hr2.cell' (i := 2) (v := .slice y1.at_ s1.tenants.length y1.ct) rfl
        have g3 := hr2.cell' (i := 3) (v := .slice y1.ac s1.cells.length y1.cc) rfl
        have g4 := hr2.cell' (i := 4) (v := .int .i64 s1.proven) rfl
        have g5 := hr2.cell' (i := 5) (v := .int .i64 s1.evac) rfl
        have g6 := hr2.cell' (i := 6) (v := .int .i64 s1.low) rfl
        have g7 := hr2.cell' (i := 7) (v := .int .i64 s1.high) rfl
        refine bodyPost_ret (v := .tuple #[.agg #[.int .i64 s1.tick, .int .i64 s1.count, .slice y1.at_ s1.tenants.length y1.ct, .slice y1.ac s1.cells.length y1.cc, .int .i64 s1.proven, .int .i64 s1.evac, .int .i64 s1.low, .int .i64 s1.high], .int .i64 (0)]) (by simp [results, Try.results24, go_sem, g0, g1, g2, g3, g4, g5, g6, g7]) rfl ?_
        refine ⟨y1, ?_, ?_, HB9.out⟩
        · rw [HAR.out]; rfl
        · rw [HAR.out]; exact HO9.out
    · have HAR : Hid (applyP c s ⟨kind, tick, tenant, cell, other, epoch, since, till, n⟩ = (s1, 0)) := Lib.hid (by rw [HAP.out, if_neg (by rintro ⟨h, -⟩; exact hbk h)])
      have hbk2 : booksB ⟨kind, tick, tenant, cell, other, epoch, since, till, n⟩ = false := by simpa using hbk
      clear HAP
      rw [hbk2]
      have hBz2 := hBz4.below yb.below hBz4.lt
      have hB10 := hB9.below yb.below hB9.lt
      have n0 := hB10.cell' (i := 0) (v := .int .i64 s1.tick) rfl
      have n1 := hB10.cell' (i := 1) (v := .int .i64 s1.count) rfl
      have n2 := hB10.cell' (i := 2) (v := .slice y1.at_ s1.tenants.length y1.ct) rfl
      have n3 := hB10.cell' (i := 3) (v := .slice y1.ac s1.cells.length y1.cc) rfl
      have n4 := hB10.cell' (i := 4) (v := .int .i64 s1.proven) rfl
      have n5 := hB10.cell' (i := 5) (v := .int .i64 s1.evac) rfl
      have n6 := hB10.cell' (i := 6) (v := .int .i64 s1.low) rfl
      have n7 := hB10.cell' (i := 7) (v := .int .i64 s1.high) rfl
      have z0 := hBz2.cell' (i := 0) (v := .int .i64 0) rfl
      have z1 := hBz2.cell' (i := 1) (v := .int .i64 0) rfl
      have z2 := hBz2.cell' (i := 2) (v := .slice none 0 0) rfl
      have z3 := hBz2.cell' (i := 3) (v := .slice none 0 0) rfl
      have z4 := hBz2.cell' (i := 4) (v := .int .i64 0) rfl
      have z5 := hBz2.cell' (i := 5) (v := .int .i64 0) rfl
      have z6 := hBz2.cell' (i := 6) (v := .int .i64 0) rfl
      have z7 := hBz2.cell' (i := 7) (v := .int .i64 0) rfl
      have zf0 := hBz2.frozen 0
      have zf1 := hBz2.frozen 1
      have zf2 := hBz2.frozen 2
      have zf3 := hBz2.frozen 3
      have zf4 := hBz2.frozen 4
      have zf5 := hBz2.frozen 5
      have zf6 := hBz2.frozen 6
      have zf7 := hBz2.frozen 7
      have hb9 := below_setCells2 (HL4.out.trans (yb.below.mono HL4.out.size)) (b := w.heap.size + 1 + 1 + 1) (by omega) [.int .i64 s1.tick, .int .i64 s1.count, .slice y1.at_ s1.tenants.length y1.ct, .slice y1.ac s1.cells.length y1.cc, .int .i64 s1.proven, .int .i64 s1.evac, .int .i64 s1.low, .int .i64 s1.high] 0
      have ho9 := (own_cells2 (b := w.heap.size + 1 + 1 + 1) hgz0 [.int .i64 s1.tick, .int .i64 s1.count, .slice y1.at_ s1.tenants.length y1.ct, .slice y1.ac s1.cells.length y1.cc, .int .i64 s1.proven, .int .i64 s1.evac, .int .i64 s1.low, .int .i64 s1.high] 0 (HO3.out.later yb.below)).base HL.out.size
      simp only [World.setCells, Nat.reduceAdd] at hb9 ho9
      have HB9 := Lib.hid hb9
      have HO9 := Lib.hid ho9
      clear hb9 ho9
      go_wp2
      clear z0 zf0 z1 zf1 z2 zf2 z3 zf3 z4 zf4 z5 zf5 z6 zf6 z7 zf7
      have hr2 := hBz2.setCells [.int .i64 s1.tick, .int .i64 s1.count, .slice y1.at_ s1.tenants.length y1.ct, .slice y1.ac s1.cells.length y1.cc, .int .i64 s1.proven, .int .i64 s1.evac, .int .i64 s1.low, .int .i64 s1.high] 0
      simp only [World.setCells, putL, List.setIfInBounds_toArray, List.set_cons_zero, List.set_cons_succ, Nat.reduceAdd] at hr2
      have g0 := hr2.cell' (i := 0) (v := .int .i64 s1.tick) rfl
      have g1 := hr2.cell' (i := 1) (v := .int .i64 s1.count) rfl
      have g2 := hr2.cell' (i := 2) (v := .slice y1.at_ s1.tenants.length y1.ct) rfl
      have g3 := hr2.cell' (i := 3) (v := .slice y1.ac s1.cells.length y1.cc) rfl
      have g4 := hr2.cell' (i := 4) (v := .int .i64 s1.proven) rfl
      have g5 := hr2.cell' (i := 5) (v := .int .i64 s1.evac) rfl
      have g6 := hr2.cell' (i := 6) (v := .int .i64 s1.low) rfl
      have g7 := hr2.cell' (i := 7) (v := .int .i64 s1.high) rfl
      refine bodyPost_ret (v := .tuple #[.agg #[.int .i64 s1.tick, .int .i64 s1.count, .slice y1.at_ s1.tenants.length y1.ct, .slice y1.ac s1.cells.length y1.cc, .int .i64 s1.proven, .int .i64 s1.evac, .int .i64 s1.low, .int .i64 s1.high], .int .i64 (0)]) (by simp [results, Try.results24, go_sem, g0, g1, g2, g3, g4, g5, g6, g7]) rfl ?_
      refine ⟨y1, ?_, ?_, HB9.out⟩
      · rw [HAR.out]; rfl
      · rw [HAR.out]; exact HO9.out
  · have HAP : Hid (applyP c s ⟨kind, tick, tenant, cell, other, epoch, since, till, n⟩ = (St.zero, refusedE c s ⟨kind, tick, tenant, cell, other, epoch, since, till, n⟩)) := Lib.hid (by unfold applyP; rw [if_pos hr])
    generalize refusedE c s ⟨kind, tick, tenant, cell, other, epoch, since, till, n⟩ = er at *
    have hr2 : (er != 0) = true := by simpa using hr
    clear hbq hx HRE HEF HBO hBz
    have z0 := hBz2.cell' (i := 0) (v := .int .i64 0) rfl
    have z1 := hBz2.cell' (i := 1) (v := .int .i64 0) rfl
    have z2 := hBz2.cell' (i := 2) (v := .slice none 0 0) rfl
    have z3 := hBz2.cell' (i := 3) (v := .slice none 0 0) rfl
    have z4 := hBz2.cell' (i := 4) (v := .int .i64 0) rfl
    have z5 := hBz2.cell' (i := 5) (v := .int .i64 0) rfl
    have z6 := hBz2.cell' (i := 6) (v := .int .i64 0) rfl
    have z7 := hBz2.cell' (i := 7) (v := .int .i64 0) rfl
    have zf0 := hBz2.frozen 0
    have zf1 := hBz2.frozen 1
    have zf2 := hBz2.frozen 2
    have zf3 := hBz2.frozen 3
    have zf4 := hBz2.frozen 4
    have zf5 := hBz2.frozen 5
    have zf6 := hBz2.frozen 6
    have zf7 := hBz2.frozen 7
    go_wp2
    clear z0 zf0 z1 zf1 z2 zf2 z3 zf3 z4 zf4 z5 zf5 z6 zf6 z7 zf7
    have hb9 := below_setCells2 HL2.out (b := w.heap.size + 1 + 1 + 1) (by omega) [.int .i64 0, .int .i64 0, .slice none 0 0, .slice none 0 0, .int .i64 0, .int .i64 0, .int .i64 0, .int .i64 0] 0
    simp only [World.setCells, Nat.reduceAdd] at hb9
    have HB9 := Lib.hid hb9
    clear hb9
    have hr2 := hBz2.setCells [.int .i64 0, .int .i64 0, .slice none 0 0, .slice none 0 0, .int .i64 0, .int .i64 0, .int .i64 0, .int .i64 0] 0
    simp only [World.setCells, putL, List.setIfInBounds_toArray, List.set_cons_zero, List.set_cons_succ, Nat.reduceAdd] at hr2
    have g0 := hr2.cell' (i := 0) (v := .int .i64 0) rfl
    have g1 := hr2.cell' (i := 1) (v := .int .i64 0) rfl
    have g2 := hr2.cell' (i := 2) (v := .slice none 0 0) rfl
    have g3 := hr2.cell' (i := 3) (v := .slice none 0 0) rfl
    have g4 := hr2.cell' (i := 4) (v := .int .i64 0) rfl
    have g5 := hr2.cell' (i := 5) (v := .int .i64 0) rfl
    have g6 := hr2.cell' (i := 6) (v := .int .i64 0) rfl
    have g7 := hr2.cell' (i := 7) (v := .int .i64 0) rfl
    refine bodyPost_ret (v := .tuple #[.agg #[.int .i64 0, .int .i64 0, .slice none 0 0, .slice none 0 0, .int .i64 0, .int .i64 0, .int .i64 0, .int .i64 0], .int .i64 (er)]) (by simp [results, Try.results24, go_sem, g0, g1, g2, g3, g4, g5, g6, g7]) rfl ?_
    refine ⟨⟨none, 0, none, 0⟩, ?_, ?_, HB9.out⟩
    · rw [HAP.out]; rfl
    · rw [HAP.out]; exact StOwn.zero _ _
end Go.Proofs.Ytjobcfpnmfjlfaa

namespace Go.Proofs.Ytjobcfpnmfjlfaa
open Go.RowKit
set_option linter.unusedSimpArgs false
set_option linter.unusedVariables false

def ctApply : CT := fun vs mem nx K => ∃ N x c M y s e, vs = [cfgV N x c, stV M y s, entV' e] ∧ keeps mem (cfgM N c) ∧ keeps mem (stM M s) ∧ CfgV c ∧ StInv c s ∧ ∀ y2, K (.tuple #[stV ⟨nx + 1, nx, 500000⟩ y2 (applyP c s e).1, .int .i64 (applyP c s e).2]) (stM ⟨nx + 1, nx, 500000⟩ (applyP c s e).1 ++ mem) (nx + 2)
theorem applyOk : CSound Try.prog 24 ctApply := ⟨by kernel_rfl, fun {C ρ fr mem nx a w vs K} hc hs hv => by
  obtain ⟨N, x, c, M, y, s, e, rfl, hk1, hk2, hV, hI, hK⟩ := hc
  have e0 : ([cfgV N x c, stV M y s, entV' e].map (den ρ)).toArray = #[.agg (cfgC (cfgX ρ N x) c), .agg (stC (stX ρ M y) s), .agg (entC e).toArray] := by
    rw [List.map_cons, List.map_cons, List.map_cons, den_cfg, den_st]
    simp [den, den2, den1, entC]
  rw [e0]
  refine (stApply_any (cfgX ρ N x) c (stX ρ M y) s e w hV (hs.cfg hk1 (fun b h _ => h)) hI (hs.st hk2 (fun b h _ => h))).mono ?_
  rintro r w' ⟨y2, rfl, ho, hb⟩
  obtain ⟨q1, q2, q3, q4⟩ := hs.addSt hb (s := (applyP c s e).1) ⟨Rd.of_own ho.tenants, Rd.of_own ho.cells⟩
  refine ⟨.tuple #[stV ⟨nx + 1, nx, 500000⟩ ⟨y2.ct, y2.cc⟩ (applyP c s e).1, .int .i64 (applyP c s e).2], _, _, _, ?_, hK ⟨y2.ct, y2.cc⟩, q1, ?_, q4⟩
  · rw [← q2]
    simp [den, den2, den1]
  · intro u hu
    simp at hu
    rcases hu with rfl | rfl
    · exact q3
    · trivial⟩
end Go.Proofs.Ytjobcfpnmfjlfaa

namespace Go.Proofs.Ytjobcfpnmfjlfaa
open Go.RowKit
set_option linter.unusedSimpArgs false
set_option linter.unusedVariables false

theorem zoneInfo : (Try.prog.info? 58).map (fun i => (i.zero, i.size, i.bytes)) = some (some (.agg #[.int .i64 0]), 1, 8) := by kernel_rfl
theorem cellInfo : (Try.prog.info? 60).map (fun i => (i.zero, i.size, i.bytes)) = some (some (.agg #[.int .i64 0, .int .i64 0]), 2, 16) := by kernel_rfl
theorem verInfo : (Try.prog.info? 65).map (fun i => (i.zero, i.size, i.bytes)) = some (some (.agg #[.int .i64 0, .int .i64 0]), 2, 16) := by kernel_rfl
theorem tenInfo : (Try.prog.info? 63).map (fun i => (i.zero, i.size, i.bytes)) = some (some (.agg #[.int .i64 0, .int .i64 0, .int .i64 0, .int .i64 0, .int .i64 0, .int .i64 0, .bool false]), 7, 56) := by kernel_rfl
theorem tenSize : (Try.prog.info? 63).map (·.size) = some 7 := by kernel_rfl
theorem cfgSize : (Try.prog.info? 30).map (·.size) = some 10 := by kernel_rfl
theorem intInfo : (Try.prog.info? 3).map (fun i => (i.zero, i.size, i.bytes)) = some (some (.int .i64 0), 1, 8) := by kernel_rfl

theorem Blk.size_lt {w : World} {g : Nat} {t : TypeId} {cs : Array Value} (h : Blk w g t cs) : g < w.heap.size := h.lt

/-- A configuration in the making: the tape, its box, what lies finished below B. -/
structure CI (w : World) (A : Option Addr) (cap : Nat) (zs : List Int) (g k : Nat) (c : Cfg) (x : CfgA) (c0 : Cfg) (B : Nat) (wr : World) : Prop where
  tape : TapeAt wr (w.heap.size + 1) A cap zs k
  box : Blk wr g 30 (cfgC x c)
  res : Blk wr w.heap.size 30 (cfgC ⟨none, 0, none, 0, none, 0, none, 0, none, 0, none, 0⟩ ⟨0, [], [], [], [], [], [], 0, 0, 0⟩)
  below : Below w.heap.size w wr
  gt : w.heap.size + 1 < g
  gB : g < B
  sz : B ≤ wr.heap.size
  ok : CfgOk wr (fun b => g < b ∧ b < B) x c0

section
variable {w : World} {A : Option Addr} {cap : Nat} {zs : List Int} {g k k' : Nat} {c c' c0 : Cfg} {x x' : CfgA} {B : Nat} {wr w1 : World}
theorem CI.grown (h : CI w A cap zs g k c x c0 B wr) {row : Option Nat} (hg : wr.grownBy w1 row) (hr : ∀ b, row = some b → B ≤ b) : CI w A cap zs g k c x c0 B w1 := by
  have h1 := h.gt
  have h2 := h.gB
  have h3 := h.sz
  have hne : ∀ b, b < B → some b ≠ row := fun b hb e => by have := hr b e.symm; omega
  exact ⟨h.tape.grown hg (fun b e => by have := hr b e; omega), h.box.grown hg (hne _ h2), h.res.grown hg (hne _ (by omega)), h.below.grown hg h.below.size (fun b e => by have := hr b e; omega), h1, h2, Nat.le_trans h3 hg.size,
    h.ok.keep fun b hb => hg.block b (by have := hb.2; omega) (hne b hb.2)⟩
theorem CI.next (h : CI w A cap zs g k c x c0 B wr) (ht : TapeAt w1 (w.heap.size + 1) A cap zs k') (hg : wr.grownBy w1 (some (w.heap.size + 1))) : CI w A cap zs g k' c x c0 B w1 := by
  have h1 := h.gt
  have h2 := h.gB
  have h3 := h.sz
  have hne : ∀ b, b ≠ w.heap.size + 1 → some b ≠ some (w.heap.size + 1) := fun b hb e => hb (by injection e)
  exact ⟨ht, h.box.grown hg (hne _ (by omega)), h.res.grown hg (hne _ (by omega)), h.below.grown hg h.below.size (by rintro k ⟨⟩; omega), h1, h2, Nat.le_trans h3 hg.size,
    h.ok.keep fun b hb => hg.block b (by have := hb.2; omega) (hne b (by have := hb.1; omega))⟩
theorem CI.set (h : CI w A cap zs g k c x c0 B wr) (i : Nat) (v : Value) (hbox : (cfgC x c).setIfInBounds i v = cfgC x' c') (hok : ∀ W S, CfgOk W S x c0 → CfgOk W S x' c0) : CI w A cap zs g k c' x' c0 B (wr.setCell ⟨g, i, none⟩ v) := by
  have h1 := h.gt
  have h2 := h.gB
  have h3 := h.sz
  have hb := h.box.set_ i v
  rw [hbox] at hb
  exact ⟨h.tape.keep fun b hb => Below.heap_setCell _ _ _ _ (by show b ≠ g; omega), hb, h.res.far (by show w.heap.size ≠ g; omega) _, h.below.setCell (by show _ ≤ g; omega) _, h1, h2, by simpa [World.setCell] using h3,
    (hok _ _ h.ok).keep fun b hb => Below.heap_setCell _ _ _ _ (by show b ≠ g; have := hb.1; omega)⟩
/-- A finished row joins what lies below. -/
theorem CI.up (h : CI w A cap zs g k c x c0 B wr) {B' : Nat} (hB : B ≤ B') (hs : B' ≤ wr.heap.size) {c1 : Cfg} (hok : CfgOk wr (fun b => g < b ∧ b < B') x c0 → CfgOk wr (fun b => g < b ∧ b < B') x c1) : CI w A cap zs g k c x c1 B' wr :=
  ⟨h.tape, h.box, h.res, h.below, h.gt, Nat.lt_of_lt_of_le h.gB hB, hs, hok (h.ok.more fun b hb => ⟨hb.1, Nat.lt_of_lt_of_le hb.2 hB⟩)⟩
end

theorem grown_drew1 (w : World) (row : Option Nat) : w.grownBy w.drew row := ⟨rfl, rfl, rfl, Nat.le_refl _, fun _ _ _ => rfl⟩
theorem flat_snoc {α : Type} (enc : α → List Value) (l : List α) (a : α) : flat enc l ++ enc a = flat enc (l ++ [a]) := by simp [flat]
theorem own_setFar {w : World} {base : Nat} {e : TypeId} {size : Nat} {v : Value} {n : Nat} {xs : List Value} (h : w.ownsRow base e size v n xs) {p : Addr} (hp : p.block < base) (u : Value) :
    (w.setCell p u).ownsRow base e size v n xs := by
  refine ⟨h.1, h.2.imp id ?_⟩
  rintro ⟨g, cap, cur, rfl, hb, hh, rest⟩
  refine ⟨g, cap, cur, rfl, hb, ?_, rest⟩
  rw [Below.heap_setCell w p u g (by omega)]
  exact hh

theorem shl1_pow (r : Int) (h1 : 1 ≤ r) (h2 : r ≤ 4) : IntKind.i64.wrap (2 ^ r.toNat) = shl1 r := by
  have hr : r = 1 ∨ r = 2 ∨ r = 3 ∨ r = 4 := by omega
  rcases hr with rfl | rfl | rfl | rfl <;> rfl
theorem shl1_pow1 (r : Int) (h1 : 1 ≤ r) (h2 : r ≤ 4) : wrap64 (wrap64 (2 ^ min r.toNat 64) - 1) = shl1 r - 1 := by
  have hr : r = 1 ∨ r = 2 ∨ r = 3 ∨ r = 4 := by omega
  rcases hr with rfl | rfl | rfl | rfl <;> simp [shl1] <;> (unfold wrap64; simp)
theorem shl1_bd (r : Int) : 2 ≤ shl1 r ∧ shl1 r ≤ 16 := by unfold shl1; repeat' split <;> omega
theorem own_grownNeC {w w' : World} {base : Nat} {e : TypeId} {size : Nat} {v : Value} {n : Nat} {xs : List Value} (h : w.ownsRow base e size v n xs) {row : Option Nat} (hg : w.grownBy w' row) (hr : ∀ k, row = some k → v.ownBlock ≠ some k) :
    w'.ownsRow base e size v n xs := by
  refine ⟨h.1, h.2.imp id ?_⟩
  rintro ⟨g, cap, cur, rfl, hb, hh, rest⟩
  refine ⟨g, cap, cur, rfl, hb, ?_, rest⟩
  rw [hg.block g (Blk.lt hh) (fun e => hr g e.symm rfl)]
  exact hh
def cf0 (r bl le ba : Int) : Cfg := ⟨r, [], [], [], [], [], [], bl, le, ba⟩
def xz (az : Option Addr) (cz : Nat) : CfgA := ⟨az, cz, none, 0, none, 0, none, 0, none, 0, none, 0⟩
/-- Behind the loop over the zones. -/
def AfterZones (w : World) (A : Option Addr) (cap : Nat) (zs : List Int) (g : Nat) (r bl le ba : Int) (wx : World) : Prop :=
  ∃ (k : Nat) (zl : List Int) (az : Option Addr) (cz : Nat), k ≤ 20 ∧ 1 ≤ zl.length ∧ zl.length ≤ 6 ∧ zl.all (fun z => inR z 0 (r - 1)) = true ∧
    CI w A cap zs g k { cf0 r bl le ba with zones := zl } (xz az cz) { cf0 r bl le ba with zones := zl } wx.heap.size wx

/-- Ahead of the box: the tape and the result's cell. -/
structure PI (w : World) (A : Option Addr) (cap : Nat) (zs : List Int) (k : Nat) (wr : World) : Prop where
  tape : TapeAt wr (w.heap.size + 1) A cap zs k
  res : Blk wr w.heap.size 30 (cfgC ⟨none, 0, none, 0, none, 0, none, 0, none, 0, none, 0⟩ ⟨0, [], [], [], [], [], [], 0, 0, 0⟩)
  below : Below w.heap.size w wr
theorem PI.next {w : World} {A : Option Addr} {cap : Nat} {zs : List Int} {k k' : Nat} {wr w1 : World} (h : PI w A cap zs k wr) (ht : TapeAt w1 (w.heap.size + 1) A cap zs k') (hg : wr.grownBy w1 (some (w.heap.size + 1))) : PI w A cap zs k' w1 :=
  ⟨ht, h.res.grown hg (by intro e; injection e; omega), h.below.grown hg h.below.size (by rintro k ⟨⟩; omega)⟩
theorem CI.new {w : World} {A : Option Addr} {cap : Nat} {zs : List Int} {k : Nat} {wr : World} (h : PI w A cap zs k wr) (r bl le ba : Int) :
    CI w A cap zs wr.heap.size k (cf0 r bl le ba) ⟨none, 0, none, 0, none, 0, none, 0, none, 0, none, 0⟩ (cf0 r bl le ba) (wr.heap.size + 1) (wr.alloc (.cells (cfgC ⟨none, 0, none, 0, none, 0, none, 0, none, 0, none, 0⟩ (cf0 r bl le ba)) 30)) :=
  ⟨h.tape.alloc _, Blk.new _ _ _, h.res.alloc _, h.below.alloc h.below.size _, h.tape.lt, Nat.lt_succ_self _, by simp,
    ⟨fun h => absurd rfl h, fun h => absurd rfl h, fun h => absurd rfl h, fun h => absurd rfl h, fun h => absurd rfl h, fun h => absurd rfl h⟩⟩

def ZRel (w : World) (A : Option Addr) (cap : Nat) (zs : List Int) (g : Nat) (r bl le ba : Int) (B gk : Nat) (si : Value) (wr : World) : Prop :=
  ∃ (l : List Int) (az : Option Addr) (cz k : Nat), gk + l.length = 7 ∧ l.length ≤ 6 ∧ k ≤ 4 + l.length ∧ si = .int .i64 l.length ∧ l.all (fun z => inR z 0 (r - 1)) = true ∧
    CI w A cap zs g k { cf0 r bl le ba with zones := l } (xz az cz) (cf0 r bl le ba) B wr ∧ wr.ownsRow B 58 1 (.slice az l.length cz) l.length (flat intC l)

def CRel (w : World) (A : Option Addr) (cap : Nat) (zs : List Int) (g : Nat) (r bl le ba : Int) (zl : List Int) (az : Option Addr) (cz B gk : Nat) (si : Value) (wr : World) : Prop :=
  ∃ (l : List (Int × Int)) (ac : Option Addr) (cc k : Nat), gk + l.length = 8 ∧ l.length ≤ 7 ∧ k ≤ 20 + 2 * l.length ∧ si = .int .i64 l.length ∧ l.all (fun y => inR y.1 0 (zl.length - 1) && inR y.2 1 40) = true ∧
    CI w A cap zs g k ⟨r, zl, l, [], [], [], [], bl, le, ba⟩ ⟨az, cz, ac, cc, none, 0, none, 0, none, 0, none, 0⟩ ⟨r, zl, [], [], [], [], [], bl, le, ba⟩ B wr ∧ wr.ownsRow B 60 2 (.slice ac l.length cc) l.length (flat pairC l)
def AfterCells (w : World) (A : Option Addr) (cap : Nat) (zs : List Int) (g : Nat) (r bl le ba : Int) (zl : List Int) (wx : World) : Prop :=
  ∃ (k : Nat) (cl : List (Int × Int)) (az : Option Addr) (cz : Nat) (ac : Option Addr) (cc : Nat), k ≤ 40 ∧ 1 ≤ cl.length ∧ cl.length ≤ 7 ∧ cl.all (fun y => inR y.1 0 (zl.length - 1) && inR y.2 1 40) = true ∧
    CI w A cap zs g k ⟨r, zl, cl, [], [], [], [], bl, le, ba⟩ ⟨az, cz, ac, cc, none, 0, none, 0, none, 0, none, 0⟩ ⟨r, zl, cl, [], [], [], [], bl, le, ba⟩ wx.heap.size wx

def TRel (w : World) (A : Option Addr) (cap : Nat) (zs : List Int) (g : Nat) (r bl le ba : Int) (zl : List Int) (cl : List (Int × Int)) (az : Option Addr) (cz : Nat) (ac : Option Addr) (cc B gk : Nat) (si : Value) (wr : World) : Prop :=
  ∃ (l : List Ten) (at_ : Option Addr) (ct k : Nat), gk + l.length ≤ 5 ∧ k ≤ 41 + 10 * l.length ∧ si = .int .i64 gk ∧ l.all (tenOk r) = true ∧
    CI w A cap zs g k ⟨r, zl, cl, l, [], [], [], bl, le, ba⟩ ⟨az, cz, ac, cc, at_, ct, none, 0, none, 0, none, 0⟩ ⟨r, zl, cl, [], [], [], [], bl, le, ba⟩ B wr ∧ wr.ownsRow B 63 7 (.slice at_ l.length ct) l.length (flat tenC l)
def AfterTens (w : World) (A : Option Addr) (cap : Nat) (zs : List Int) (g : Nat) (r bl le ba : Int) (zl : List Int) (cl : List (Int × Int)) (wx : World) : Prop :=
  ∃ (k : Nat) (tl : List Ten) (az : Option Addr) (cz : Nat) (ac : Option Addr) (cc : Nat) (at_ : Option Addr) (ct : Nat), k ≤ 100 ∧ tl.length ≤ 5 ∧ tl.all (tenOk r) = true ∧
    CI w A cap zs g k ⟨r, zl, cl, tl, [], [], [], bl, le, ba⟩ ⟨az, cz, ac, cc, at_, ct, none, 0, none, 0, none, 0⟩ ⟨r, zl, cl, tl, [], [], [], bl, le, ba⟩ wx.heap.size wx

theorem CI.alloc {w : World} {A : Option Addr} {cap : Nat} {zs : List Int} {g k : Nat} {c c0 : Cfg} {x : CfgA} {B : Nat} {wr : World} (h : CI w A cap zs g k c x c0 B wr) (o : Obj) : CI w A cap zs g k c x c0 B (wr.alloc o) :=
  h.grown (grown_alloc (grown_refl wr none) o) (by rintro _ ⟨⟩)
/-- A tenant in a box of its own, beside what is made. -/
structure TIc (w : World) (A : Option Addr) (cap : Nat) (zs : List Int) (g k : Nat) (c : Cfg) (x : CfgA) (c0 : Cfg) (B b : Nat) (t : Ten) (v : Value) (n : Nat) (xs : List Value) (wr : World) : Prop where
  ci : CI w A cap zs g k c x c0 B wr
  own : wr.ownsRow B 63 7 v n xs
  blk : Blk wr b 63 (tenC t).toArray
  le : B ≤ b
  far : v.ownBlock ≠ some b
theorem TIc.next {w : World} {A : Option Addr} {cap : Nat} {zs : List Int} {g k k' : Nat} {c c0 : Cfg} {x : CfgA} {B b : Nat} {t : Ten} {v : Value} {n : Nat} {xs : List Value} {wr w1 : World} (h : TIc w A cap zs g k c x c0 B b t v n xs wr)
    (ht : TapeAt w1 (w.heap.size + 1) A cap zs k') (hg : wr.grownBy w1 (some (w.heap.size + 1))) : TIc w A cap zs g k' c x c0 B b t v n xs w1 := by
  have h1 := h.ci.gt
  have h2 := h.ci.gB
  have h3 := h.le
  exact ⟨h.ci.next ht hg, own_grown h.own hg (by rintro k ⟨⟩; omega), h.blk.grown hg (by intro e; injection e; omega), h.le, h.far⟩
theorem TIc.setAllowed {w : World} {A : Option Addr} {cap : Nat} {zs : List Int} {g k : Nat} {c c0 : Cfg} {x : CfgA} {B b : Nat} {t : Ten} {v : Value} {n : Nat} {xs : List Value} {wr : World} (h : TIc w A cap zs g k c x c0 B b t v n xs wr) (m : Int) :
    TIc w A cap zs g k c x c0 B b { t with allowed := m } v n xs (wr.setCell ⟨b, 4, none⟩ (.int .i64 m)) :=
  ⟨h.ci.grown (grown_set (grown_refl _ _) _ _) (by rintro _ ⟨⟩; exact h.le), own_grownNeC h.own (grown_set (grown_refl _ _) _ _) (by rintro _ ⟨⟩; exact h.far), by simpa [tenC] using h.blk.set_ 4 (.int .i64 m), h.le, h.far⟩
theorem tenOk_allowed {r : Int} {t : Ten} {m : Int} (h : tenOk r t = true) (h1 : 1 ≤ m) (h2 : m ≤ shl1 r - 1) : tenOk r { t with allowed := m } = true := by
  simp [tenOk, inR] at h ⊢
  omega
theorem putL7 (z0 z1 z2 z3 z4 z5 z6 v0 v1 v2 v3 v4 v5 v6 : Value) : putL #[z0, z1, z2, z3, z4, z5, z6] 0 [v0, v1, v2, v3, v4, v5, v6] = #[v0, v1, v2, v3, v4, v5, v6] := by simp [putL]
theorem TIc.store {w : World} {A : Option Addr} {cap : Nat} {zs : List Int} {g k : Nat} {c c0 : Cfg} {x : CfgA} {B b : Nat} {v : Value} {n : Nat} {xs : List Value} {wr : World} {z0 z1 z2 z3 z4 z5 z6 : Value} (h : CI w A cap zs g k c x c0 B wr)
    (ho : wr.ownsRow B 63 7 v n xs) (hb : Blk wr b 63 #[z0, z1, z2, z3, z4, z5, z6]) (hle : B ≤ b) (hf : v.ownBlock ≠ some b) (t : Ten) : TIc w A cap zs g k c x c0 B b t v n xs (wr.setCells b 0 (tenC t)) :=
  ⟨h.grown (grown_setCells _ 0 (grown_refl _ _)) (by rintro _ ⟨⟩; exact hle), own_grownNeC ho (grown_setCells _ 0 (grown_refl _ _)) (by rintro _ ⟨⟩; exact hf), (by have := Blk.setCells (tenC t) 0 hb; rwa [tenC, putL7] at this), hle, hf⟩
def TenCut (w : World) (A : Option Addr) (cap : Nat) (zs : List Int) (g k : Nat) (r : Int) (c : Cfg) (x : CfgA) (c0 : Cfg) (B : Nat) (v : Value) (n : Nat) (xs : List Value) (s9 : Value) (wr : World) : Prop :=
  ∃ (b k' : Nat) (t : Ten), s9 = .pointer (some ⟨b, 0, none⟩) ∧ k' ≤ k ∧ tenOk r t = true ∧ TIc w A cap zs g k' c x c0 B b t v n xs wr

def VRel (w : World) (A : Option Addr) (cap : Nat) (zs : List Int) (g : Nat) (r bl le ba : Int) (zl : List Int) (cl : List (Int × Int)) (tl : List Ten) (az : Option Addr) (cz : Nat) (ac : Option Addr) (cc : Nat) (at_ : Option Addr) (ct B gk : Nat) (si : Value) (wr : World) : Prop :=
  ∃ (l : List (Int × Int)) (av : Option Addr) (cv k : Nat), gk + l.length ≤ 3 ∧ 1 ≤ l.length ∧ k ≤ 105 + 10 * l.length ∧ si = .int .i64 gk ∧ versOk l = true ∧
    CI w A cap zs g k ⟨r, zl, cl, tl, l, [], [], bl, le, ba⟩ ⟨az, cz, ac, cc, at_, ct, av, cv, none, 0, none, 0⟩ ⟨r, zl, cl, tl, [], [], [], bl, le, ba⟩ B wr ∧ wr.ownsRow B 65 2 (.slice av l.length cv) l.length (flat pairC l)
def AfterVers (w : World) (A : Option Addr) (cap : Nat) (zs : List Int) (g : Nat) (r bl le ba : Int) (zl : List Int) (cl : List (Int × Int)) (tl : List Ten) (wx : World) : Prop :=
  ∃ (k : Nat) (vl : List (Int × Int)) (az : Option Addr) (cz : Nat) (ac : Option Addr) (cc : Nat) (at_ : Option Addr) (ct : Nat) (av : Option Addr) (cv : Nat), k ≤ 150 ∧ 1 ≤ vl.length ∧ vl.length ≤ 3 ∧ versOk vl = true ∧
    CI w A cap zs g k ⟨r, zl, cl, tl, vl, [], [], bl, le, ba⟩ ⟨az, cz, ac, cc, at_, ct, av, cv, none, 0, none, 0⟩ ⟨r, zl, cl, tl, vl, [], [], bl, le, ba⟩ wx.heap.size wx

theorem versOk_snoc {l : List (Int × Int)} {lo hi : Int} (h : versOk l = true) (h1 : 1 ≤ l.length) (a : 0 ≤ lo) (b : lo ≤ hi) (d : hi ≤ 30) : versOk (l ++ [(lo, hi)]) = true := by
  unfold versOk at *
  rw [List.all_eq_true] at *
  intro i hi'
  rw [List.mem_range, List.length_append] at hi'
  simp at hi'
  by_cases hlt : i < l.length
  · have := h i (List.mem_range.2 hlt)
    rw [List.getElem?_append_left hlt]
    exact this
  · obtain rfl : i = l.length := by omega
    have hne : l ≠ [] := by rintro rfl; simp at h1
    simp [verOk, hne]
    omega
/-- A configuration as Config makes it. -/
structure MadeCfg (c : Cfg) : Prop where
  valid : cfgErr c = 0
  regions : 1 ≤ c.regions ∧ c.regions ≤ 3
  zones : 1 ≤ c.zones.length ∧ c.zones.length ≤ 6
  cells : 1 ≤ c.cells.length ∧ c.cells.length ≤ 7
  tenants : c.tenants.length ≤ 5
  versions : 1 ≤ c.versions.length ∧ c.versions.length ≤ 3
  replicas : c.replicas.length = 1 ∨ c.replicas.length = 3
  observers : 1 ≤ c.observers.length ∧ c.observers.length ≤ 4
  blast : 1 ≤ c.blast ∧ c.blast ≤ 3
  lease : 2 ≤ c.lease ∧ c.lease ≤ 12
  bake : 0 ≤ c.bake ∧ c.bake ≤ 8
  caps : c.cells.all (fun y => inR y.1 0 (c.zones.length - 1) && inR y.2 1 40) = true
theorem madeCfg_of (r bl le ba : Int) (zl : List Int) (cl : List (Int × Int)) (tl : List Ten) (vl : List (Int × Int)) (rl ol : List Int) (h1 : 1 ≤ r ∧ r ≤ 3) (h2 : 1 ≤ zl.length ∧ zl.length ≤ 6) (h3 : 1 ≤ cl.length ∧ cl.length ≤ 7)
    (h4 : tl.length ≤ 5) (h5 : 1 ≤ vl.length ∧ vl.length ≤ 3) (a1 : zl.all (fun z => inR z 0 (r - 1)) = true) (a2 : cl.all (fun y => inR y.1 0 (zl.length - 1) && inR y.2 1 40) = true) (a3 : tl.all (tenOk r) = true) (a4 : versOk vl = true)
    (a5 : rl.all (fun z => inR z 0 (zl.length - 1)) = true) (a6 : ol.all (fun z => inR z 0 (zl.length - 1)) = true) (h6 : rl.length = 1 ∨ rl.length = 3) (h7 : 1 ≤ ol.length ∧ ol.length ≤ 4) (h8 : 1 ≤ bl ∧ bl ≤ 3) (h9 : 2 ≤ le ∧ le ≤ 12) (h10 : 0 ≤ ba ∧ ba ≤ 8) :
    MadeCfg ⟨r, zl, cl, tl, vl, rl, ol, bl, le, ba⟩ := by
  refine ⟨?_, h1, h2, h3, h4, h5, h6, h7, h8, h9, h10, a2⟩
  have b1 : cl.all (fun y => inR y.1 0 (zl.length - 1)) = true := by
    rw [List.all_eq_true] at a2 ⊢
    exact fun y hy => (Bool.and_eq_true _ _ ▸ a2 y hy).1
  have b2 : cl.all (fun y => inR y.2 1 4194304) = true := by
    rw [List.all_eq_true] at a2 ⊢
    intro y hy
    have := (Bool.and_eq_true _ _ ▸ a2 y hy).2
    simp [inR] at this ⊢
    omega
  have l1 : limitsB ⟨r, zl, cl, tl, vl, rl, ol, bl, le, ba⟩ = true := by simp [limitsB, inR]; omega
  have l2 : placesB ⟨r, zl, cl, tl, vl, rl, ol, bl, le, ba⟩ = true := by unfold placesB; rw [a1, b1, a5, a6]; rfl
  have l3 : valuesB ⟨r, zl, cl, tl, vl, rl, ol, bl, le, ba⟩ = true := by
    unfold valuesB
    rw [b2, a4]
    simp [inR]
    omega
  have l4 : ¬ rl.length % 2 = 0 := by omega
  have l5 : topoErr ⟨r, zl, cl, tl, vl, rl, ol, bl, le, ba⟩ = 0 := by simp [topoErr, l1, l2, l3, l4]
  simp only [cfgErr, l5, a3]
  rfl
/-- What Config answers: a configuration in new memory. -/
def CfgPost (w : World) (e : Ending) (w' : World) : Prop :=
  ∃ (x : CfgA) (c : Cfg), e = .returned (.agg (cfgC x c)) ∧ CfgOk w' (fun b => w.heap.size ≤ b ∧ b < w'.heap.size) x c ∧ MadeCfg c ∧ Below w.heap.size w w'
def RRel (w : World) (A : Option Addr) (cap : Nat) (zs : List Int) (g : Nat) (r bl le ba : Int) (zl : List Int) (cl : List (Int × Int)) (tl : List Ten) (vl : List (Int × Int)) (az : Option Addr) (cz : Nat) (ac : Option Addr) (cc : Nat) (at_ : Option Addr) (ct : Nat) (av : Option Addr) (cv B n0 gk : Nat) (si : Value) (wr : World) : Prop :=
  ∃ (l : List Int) (ar : Option Addr) (cr k : Nat), gk + l.length = n0 ∧ k ≤ 155 + 10 * l.length ∧ si = .int .i64 gk ∧ l.all (fun z => inR z 0 (zl.length - 1)) = true ∧
    CI w A cap zs g k ⟨r, zl, cl, tl, vl, l, [], bl, le, ba⟩ ⟨az, cz, ac, cc, at_, ct, av, cv, ar, cr, none, 0⟩ ⟨r, zl, cl, tl, vl, [], [], bl, le, ba⟩ B wr ∧ wr.ownsRow B 3 1 (.slice ar l.length cr) l.length (flat intC l)
def AfterReps (w : World) (A : Option Addr) (cap : Nat) (zs : List Int) (g : Nat) (r bl le ba : Int) (zl : List Int) (cl : List (Int × Int)) (tl : List Ten) (vl : List (Int × Int)) (n0 : Nat) (wx : World) : Prop :=
  ∃ (k : Nat) (rl : List Int) (az : Option Addr) (cz : Nat) (ac : Option Addr) (cc : Nat) (at_ : Option Addr) (ct : Nat) (av : Option Addr) (cv : Nat) (ar : Option Addr) (cr : Nat), k ≤ 200 ∧ rl.length = n0 ∧ rl.all (fun z => inR z 0 (zl.length - 1)) = true ∧
    CI w A cap zs g k ⟨r, zl, cl, tl, vl, rl, [], bl, le, ba⟩ ⟨az, cz, ac, cc, at_, ct, av, cv, ar, cr, none, 0⟩ ⟨r, zl, cl, tl, vl, rl, [], bl, le, ba⟩ wx.heap.size wx
def ORel (w : World) (A : Option Addr) (cap : Nat) (zs : List Int) (g : Nat) (r bl le ba : Int) (zl : List Int) (cl : List (Int × Int)) (tl : List Ten) (vl : List (Int × Int)) (rl : List Int) (az : Option Addr) (cz : Nat) (ac : Option Addr) (cc : Nat) (at_ : Option Addr) (ct : Nat) (av : Option Addr) (cv : Nat) (ar : Option Addr) (cr : Nat) (B n0 gk : Nat) (si : Value) (wr : World) : Prop :=
  ∃ (l : List Int) (ao : Option Addr) (co k : Nat), gk + l.length = n0 ∧ k ≤ 205 + 10 * l.length ∧ si = .int .i64 gk ∧ l.all (fun z => inR z 0 (zl.length - 1)) = true ∧
    CI w A cap zs g k ⟨r, zl, cl, tl, vl, rl, l, bl, le, ba⟩ ⟨az, cz, ac, cc, at_, ct, av, cv, ar, cr, ao, co⟩ ⟨r, zl, cl, tl, vl, rl, [], bl, le, ba⟩ B wr ∧ wr.ownsRow B 3 1 (.slice ao l.length co) l.length (flat intC l)
def AfterObs (w : World) (A : Option Addr) (cap : Nat) (zs : List Int) (g : Nat) (r bl le ba : Int) (zl : List Int) (cl : List (Int × Int)) (tl : List Ten) (vl : List (Int × Int)) (rl : List Int) (n0 : Nat) (wx : World) : Prop :=
  ∃ (k : Nat) (ol : List Int) (x : CfgA), ol.length = n0 ∧ ol.all (fun z => inR z 0 (zl.length - 1)) = true ∧
    CI w A cap zs g k ⟨r, zl, cl, tl, vl, rl, ol, bl, le, ba⟩ x ⟨r, zl, cl, tl, vl, rl, ol, bl, le, ba⟩ wx.heap.size wx

end Go.Proofs.Ytjobcfpnmfjlfaa

namespace Go.Proofs.Ytjobcfpnmfjlfaa
open Go.RowKit
set_option linter.unusedSimpArgs false
set_option linter.unusedVariables false

/-- The region with a number, out of a function's code. -/
def regAt (id : Nat) : Code → Option Code
  | .region i ops d => if i = id then some (.region i ops d) else none
  | .seq a b => match regAt id a with
    | some c => some c
    | none => regAt id b
  | .cond _ a b => match regAt id a with
    | some c => some c
    | none => regAt id b
  | .block _ c => regAt id c
  | .loop c => regAt id c
  | .scope c => regAt id c
  | _ => none
noncomputable def reg15 : Code := (Try.f11.body.bind (regAt 15)).getD .skip

set_option maxHeartbeats 4000000 in
set_option maxRecDepth 100000 in
theorem ten15_any (c0 c1 c2 c5 c6 c7 c9 c10 c11 c12 c13 c14 c15 c16 c17 c18 c19 c20 c21 c22 c23 c24 c25 c26 c27 c28 c29 c30 c31 c32 c33 c34 c35 c36 c37 c38 c39 c40 c41 c42 c43 c44 c45 c46 c47 c48 c49 c50 c51 c52 c53 c54 c55 c56 c57 c58 c59 c60 c61 c62 c63 c64 c65 c66 c67 c68 c69 c70 c71 c72 c73 c74 c75 c76 c77 c78 c79 c80 c81 c82 c83 c84 c85 c86 c87 c88 c89 c90 c91 c92 c93 c94 c95 c96 c97 c98 c99 c100 c101 c102 c103 c104 c105 c106 c107 c108 c109 c110 c111 c112 c113 c114 c115 c116 c117 c118 c119 c120 c121 c122 c123 c124 c125 c126 c127 c128 c129 c130 c131 c132 c133 c134 c135 c136 c137 c138 c139 c140 c141 c142 c143 c144 c145 c146 c147 c148 c149 c150 c151 c152 c153 c154 c155 c156 c157 c158 c159 c160 c161 c162 c163 c164 c165 c166 c167 c168 c169 c170 c171 c172 c173 c174 c175 c176 c177 c178 c179 c180 c181 : Value) (w : World) (A : Option Addr) (cap : Nat) (zs : List Int) (g ka : Nat) (n r : Int) (c : Cfg) (x : CfgA) (c0' : Cfg) (B : Nat) (at_ : Option Addr) (ct : Nat) (l : List Ten) (wa : World) (Q : Exit → Act → World → Prop)
    (hn : 1 ≤ n ∧ n ≤ 12) (hr : 1 ≤ r ∧ r ≤ 3) (hcr : c.regions = r) (hka : ka ≤ 1000) (hci : CI w A cap zs g ka c x c0' B wa) (hown : wa.ownsRow B 63 7 (.slice at_ l.length ct) l.length (flat tenC l))
    (hpan : ∀ c a d v w, Q (.panic c) (Act.put a d v) w → Q (.panic c) a w)
    (hQ : ∀ (u9 u88 u89 u90 u91 u92 u93 u94 u95 u96 u97 u98 u99 u100 u101 u102 u103 u104 u105 u106 : Value) (wx : World), TenCut w A cap zs g (ka + 5) r c x c0' B (.slice at_ l.length ct) l.length (flat tenC l) u9 wx → Q .normal ⟨#[c0, c1, c2, .pointer (some ⟨w.heap.size + 1, 0, none⟩), .pointer (some ⟨g, 0, none⟩), c5, c6, c7, .int .i64 n, u9, c10, c11, c12, c13, c14, c15, c16, c17, c18, c19, c20, c21, c22, c23, c24, c25, c26, c27, c28, c29, c30, c31, c32, c33, c34, c35, c36, c37, c38, c39, c40, c41, c42, c43, c44, c45, c46, c47, c48, c49, c50, c51, c52, c53, c54, c55, c56, c57, c58, c59, c60, c61, c62, c63, c64, c65, c66, c67, c68, c69, c70, c71, c72, c73, c74, c75, c76, c77, c78, c79, c80, c81, c82, c83, c84, c85, c86, c87, u88, u89, u90, u91, u92, u93, u94, u95, u96, u97, u98, u99, u100, u101, u102, u103, u104, u105, u106, c107, c108, c109, c110, c111, c112, c113, c114, c115, c116, c117, c118, c119, c120, c121, c122, c123, c124, c125, c126, c127, c128, c129, c130, c131, c132, c133, c134, c135, c136, c137, c138, c139, c140, c141, c142, c143, c144, c145, c146, c147, c148, c149, c150, c151, c152, c153, c154, c155, c156, c157, c158, c159, c160, c161, c162, c163, c164, c165, c166, c167, c168, c169, c170, c171, c172, c173, c174, c175, c176, c177, c178, c179, c180, c181], []⟩ wx) :
    Code.wp Try.prog reg15 Q ⟨#[c0, c1, c2, .pointer (some ⟨w.heap.size + 1, 0, none⟩), .pointer (some ⟨g, 0, none⟩), c5, c6, c7, .int .i64 n, c9, c10, c11, c12, c13, c14, c15, c16, c17, c18, c19, c20, c21, c22, c23, c24, c25, c26, c27, c28, c29, c30, c31, c32, c33, c34, c35, c36, c37, c38, c39, c40, c41, c42, c43, c44, c45, c46, c47, c48, c49, c50, c51, c52, c53, c54, c55, c56, c57, c58, c59, c60, c61, c62, c63, c64, c65, c66, c67, c68, c69, c70, c71, c72, c73, c74, c75, c76, c77, c78, c79, c80, c81, c82, c83, c84, c85, c86, c87, c88, c89, c90, c91, c92, c93, c94, c95, c96, c97, c98, c99, c100, c101, c102, c103, c104, c105, c106, c107, c108, c109, c110, c111, c112, c113, c114, c115, c116, c117, c118, c119, c120, c121, c122, c123, c124, c125, c126, c127, c128, c129, c130, c131, c132, c133, c134, c135, c136, c137, c138, c139, c140, c141, c142, c143, c144, c145, c146, c147, c148, c149, c150, c151, c152, c153, c154, c155, c156, c157, c158, c159, c160, c161, c162, c163, c164, c165, c166, c167, c168, c169, c170, c171, c172, c173, c174, c175, c176, c177, c178, c179, c180, c181], []⟩ wa := by
  conv => arg 2; whnf
  obtain ⟨hr1, hr2⟩ := hr
  obtain ⟨hn1, hn2⟩ := hn
  have inv := hci.grown (grown_drew1 wa none) (by rintro _ ⟨⟩)
  have iow := Lib.hid (own_grown hown (grown_drew1 wa none) (by rintro _ ⟨⟩))
  have en : IntKind.i64.wrap (n + 1) = n + 1 := IntWalk.i64_in _ (by omega)
  have hsh := shl1_bd r
  have eu : IntKind.u64.wrap r = r := by
    have hr3 : r = 1 ∨ r = 2 ∨ r = 3 := by omega
    rcases hr3 with rfl | rfl | rfl <;> rfl
  have esh : IntKind.i64.wrap (2 ^ r.toNat) = shl1 r := by
    have hr3 : r = 1 ∨ r = 2 ∨ r = 3 := by omega
    rcases hr3 with rfl | rfl | rfl <;> rfl
  have es1 : IntKind.i64.wrap (shl1 r - 1) = shl1 r - 1 := IntWalk.i64_in _ (by omega)
  obtain ⟨r', zl, cl, tl, vl, rl, ol, bl, le, ba⟩ := c
  obtain rfl : r = r' := hcr.symm
  clear hci hown
  refine wp_region_seqA (fun w' : World => w'.cell? ⟨g, 0, none⟩ = some (.int .i64 r)) 20 19 [(0, false), (1, false), (2, false), (3, false), (5, false), (7, false), (9, false), (10, false), (11, false), (12, false), (13, false), (14, false), (16, false), (4, true), (6, true), (8, true), (15, true), (17, true), (18, false)] (by kernel_rfl) (by kernel_rfl) (inv.box.cell' rfl) ?_
  generalize wa.drew = wd at *
  simp only [List.take_succ_cons, List.take_zero, List.drop_succ_cons, List.drop_zero]
  repeat (refine wpSeqA_fix _ ?_ rfl (by first | exact fun _ _ _ h => h | exact fun _ _ _ h => hpan _ _ _ _ _ h) (Or.inl ⟨by rfl, ?_⟩) ?_; rotate_left; (intro w' hSw; (try dsimp only at hSw); go_split_ands; go_simp; (try with_reducible rfl)); (simp only [List.getElem_toArray, List.getElem_cons_zero, List.getElem_cons_succ, Act.put, List.setIfInBounds_toArray, List.set_cons_zero, List.set_cons_succ]))
  refine wpSeqA_act rfl rfl rfl rfl ?_ ?_
  · go_simp
    refine (mkNext_any _ A cap zs _ (n + 1) _ (by omega) (by omega) (by omega) inv.tape).mono ?_
    rintro e wq ⟨q0, k0, hnq, rfl, htq, hgq⟩
    have iow := Lib.hid (own_grown iow.out hgq (by rintro k ⟨⟩; have := inv.gt; have := inv.gB; omega))
    replace inv := inv.next htq hgq
    have ql0 := hnq.lo
    have qh0 := hnq.hi
    have qm0 := hnq.most
    clear htq hgq hnq
    refine ⟨inv.box.cell' rfl, ?_⟩
    refine wpSeqA_act rfl rfl rfl rfl ?_ ?_
    · go_simp
      refine (mkNext_any _ A cap zs _ (4) _ (by omega) (by omega) (by omega) inv.tape).mono ?_
      rintro e wq ⟨q1, k1, hnq, rfl, htq, hgq⟩
      have iow := Lib.hid (own_grown iow.out hgq (by rintro k ⟨⟩; have := inv.gt; have := inv.gB; omega))
      replace inv := inv.next htq hgq
      have ql1 := hnq.lo
      have qh1 := hnq.hi
      have qm1 := hnq.most
      clear htq hgq hnq
      refine ⟨inv.box.cell' rfl, ?_⟩
      refine wpSeqA_act rfl rfl rfl rfl ?_ ?_
      · go_simp
        refine (mkRange_any _ A cap zs _ (-1) 3 _ (by omega) (by omega) (by omega) (by omega) inv.tape).mono ?_
        rintro e wq ⟨q2, k2, hnq, hq2, rfl, htq, hgq⟩
        have iow := Lib.hid (own_grown iow.out hgq (by rintro k ⟨⟩; have := inv.gt; have := inv.gB; omega))
        replace inv := inv.next htq hgq
        have ql2 := hnq.lo
        have qh2 := hnq.hi
        have qm2 := hnq.most
        clear htq hgq hnq
        refine ⟨inv.box.cell' rfl, ?_⟩
        refine wpSeqA_act rfl rfl rfl rfl ?_ ?_
        · go_simp
          refine (mkNext_any _ A cap zs _ (3) _ (by omega) (by omega) (by omega) inv.tape).mono ?_
          rintro e wq ⟨q3, k3, hnq, rfl, htq, hgq⟩
          have iow := Lib.hid (own_grown iow.out hgq (by rintro k ⟨⟩; have := inv.gt; have := inv.gB; omega))
          replace inv := inv.next htq hgq
          have ql3 := hnq.lo
          have qh3 := hnq.hi
          have qm3 := hnq.most
          clear htq hgq hnq
          refine ⟨inv.box.cell' rfl, ?_⟩
          refine wpSeqA_act rfl rfl rfl rfl ?_ ?_
          · go_simp
            refine (mkYes_any _ A cap zs _ (4) _ (by omega) (by omega) (by omega) inv.tape).mono ?_
            rintro e wq ⟨q4, k4, hnq, rfl, htq, hgq⟩
            have iow := Lib.hid (own_grown iow.out hgq (by rintro k ⟨⟩; have := inv.gt; have := inv.gB; omega))
            replace inv := inv.next htq hgq
            have ql4 := hnq.lo
            have qh4 := hnq.hi
            have qm4 := hnq.most
            clear htq hgq hnq
            refine ⟨inv.box.cell' rfl, ?_⟩
            repeat (refine wpSeqA_fix _ ?_ rfl (by first | exact fun _ _ _ h => h | exact fun _ _ _ h => hpan _ _ _ _ _ h) (Or.inl ⟨by rfl, ?_⟩) ?_; rotate_left; (intro w' hSw; (try dsimp only at hSw); go_split_ands; go_simp; (try with_reducible rfl)); (simp only [List.getElem_toArray, List.getElem_cons_zero, List.getElem_cons_succ, Act.put, List.setIfInBounds_toArray, List.set_cons_zero, List.set_cons_succ]))
            refine wpSeqA_end rfl rfl ?_
            go_simp
            have hbk := Blk.new wq 63 #[.int .i64 0, .int .i64 0, .int .i64 0, .int .i64 0, .int .i64 0, .int .i64 0, .bool false]
            have hle := inv.sz
            have hfar : (Value.slice at_ l.length ct).ownBlock ≠ some wq.heap.size := fun e => by have := (iow.out.lt _ e).2; omega
            replace inv := inv.alloc (.cells #[.int .i64 0, .int .i64 0, .int .i64 0, .int .i64 0, .int .i64 0, .int .i64 0, .bool false] 63)
            have iow := Lib.hid (iow.out.alloc (.cells #[.int .i64 0, .int .i64 0, .int .i64 0, .int .i64 0, .int .i64 0, .int .i64 0, .bool false] 63))
            generalize wq.alloc (.cells #[.int .i64 0, .int .i64 0, .int .i64 0, .int .i64 0, .int .i64 0, .int .i64 0, .bool false] 63) = wb at *
            generalize wq.heap.size = bb at *
            refine ⟨inv.box.cell' rfl, ?_⟩
            simp only [List.getElem_toArray, List.getElem_cons_zero, List.getElem_cons_succ, Act.put, List.setIfInBounds_toArray, List.set_cons_zero, List.set_cons_succ, thenK]
            refine wpList_store_mid (by rfl) _ _ _ (by rfl) bb 0 (tenC (⟨n, q0, q1, -1 + q2, shl1 r - 1, q3, q4 == 0⟩ : Ten)).toArray (by go_simp) (by simp only [tenC]; go_simp) (hbk.there 0 7 (by decide)) tenSize (by simp [tenC, Value.oneCell']) ?_
            have hti := TIc.store inv iow.out hbk hle hfar (⟨n, q0, q1, -1 + q2, shl1 r - 1, q3, q4 == 0⟩ : Ten)
            refine hQ _ _ _ _ _ _ _ _ _ _ _ _ _ _ _ _ _ _ _ _ _ ?_
            exact ⟨bb, k4, (⟨n, q0, q1, -1 + q2, shl1 r - 1, q3, q4 == 0⟩ : Ten), rfl, by omega, (by simp [tenOk, inR]; omega), hti⟩
          · go_simp
            have hbk := Blk.new wq 63 #[.int .i64 0, .int .i64 0, .int .i64 0, .int .i64 0, .int .i64 0, .int .i64 0, .bool false]
            have hle := inv.sz
            have hfar : (Value.slice at_ l.length ct).ownBlock ≠ some wq.heap.size := fun e => by have := (iow.out.lt _ e).2; omega
            replace inv := inv.alloc (.cells #[.int .i64 0, .int .i64 0, .int .i64 0, .int .i64 0, .int .i64 0, .int .i64 0, .bool false] 63)
            have iow := Lib.hid (iow.out.alloc (.cells #[.int .i64 0, .int .i64 0, .int .i64 0, .int .i64 0, .int .i64 0, .int .i64 0, .bool false] 63))
            generalize wq.alloc (.cells #[.int .i64 0, .int .i64 0, .int .i64 0, .int .i64 0, .int .i64 0, .int .i64 0, .bool false] 63) = wb at *
            generalize wq.heap.size = bb at *
            refine ⟨inv.box.cell' rfl, ?_⟩
            refine wpSeqH_act rfl rfl ?_
            go_simp
            refine (mkYes_any _ A cap zs _ (4) _ (by omega) (by omega) (by omega) inv.tape).mono ?_
            rintro e wq ⟨q4, k4, hnq, rfl, htq, hgq⟩
            have iow := Lib.hid (own_grown iow.out hgq (by rintro k ⟨⟩; have := inv.gt; have := inv.gB; omega))
            have hbk := hbk.grown hgq (by intro e; injection e; have := inv.gt; have := inv.gB; omega)
            replace inv := inv.next htq hgq
            have ql4 := hnq.lo
            have qh4 := hnq.hi
            have qm4 := hnq.most
            clear htq hgq hnq
            refine ⟨inv.box.cell' rfl, ?_⟩
            repeat (refine wpSeqH_fix _ ?_ rfl (by first | exact fun _ _ _ h => h | exact fun _ _ _ h => hpan _ _ _ _ _ h) (Or.inl ⟨by rfl, ?_⟩) ?_; rotate_left; (intro w' hSw; (try dsimp only at hSw); go_split_ands; go_simp; (try with_reducible rfl)); (simp only [List.getElem_toArray, List.getElem_cons_zero, List.getElem_cons_succ, Act.put, List.setIfInBounds_toArray, List.set_cons_zero, List.set_cons_succ]))
            refine wpSeqH_end ?_
            simp only [List.getElem_toArray, List.getElem_cons_zero, List.getElem_cons_succ, Act.put, List.setIfInBounds_toArray, List.set_cons_zero, List.set_cons_succ, thenK]
            refine wpList_store_mid (by rfl) _ _ _ (by rfl) bb 0 (tenC (⟨n, q0, q1, -1 + q2, shl1 r - 1, q3, q4 == 0⟩ : Ten)).toArray (by go_simp) (by simp only [tenC]; go_simp) (hbk.there 0 7 (by decide)) tenSize (by simp [tenC, Value.oneCell']) ?_
            have hti := TIc.store inv iow.out hbk hle hfar (⟨n, q0, q1, -1 + q2, shl1 r - 1, q3, q4 == 0⟩ : Ten)
            refine hQ _ _ _ _ _ _ _ _ _ _ _ _ _ _ _ _ _ _ _ _ _ ?_
            exact ⟨bb, k4, (⟨n, q0, q1, -1 + q2, shl1 r - 1, q3, q4 == 0⟩ : Ten), rfl, by omega, (by simp [tenOk, inR]; omega), hti⟩
        · go_simp
          have hbk := Blk.new wq 63 #[.int .i64 0, .int .i64 0, .int .i64 0, .int .i64 0, .int .i64 0, .int .i64 0, .bool false]
          have hle := inv.sz
          have hfar : (Value.slice at_ l.length ct).ownBlock ≠ some wq.heap.size := fun e => by have := (iow.out.lt _ e).2; omega
          replace inv := inv.alloc (.cells #[.int .i64 0, .int .i64 0, .int .i64 0, .int .i64 0, .int .i64 0, .int .i64 0, .bool false] 63)
          have iow := Lib.hid (iow.out.alloc (.cells #[.int .i64 0, .int .i64 0, .int .i64 0, .int .i64 0, .int .i64 0, .int .i64 0, .bool false] 63))
          generalize wq.alloc (.cells #[.int .i64 0, .int .i64 0, .int .i64 0, .int .i64 0, .int .i64 0, .int .i64 0, .bool false] 63) = wb at *
          generalize wq.heap.size = bb at *
          refine ⟨inv.box.cell' rfl, ?_⟩
          refine wpSeqH_act rfl rfl ?_
          go_simp
          refine (mkNext_any _ A cap zs _ (3) _ (by omega) (by omega) (by omega) inv.tape).mono ?_
          rintro e wq ⟨q3, k3, hnq, rfl, htq, hgq⟩
          have iow := Lib.hid (own_grown iow.out hgq (by rintro k ⟨⟩; have := inv.gt; have := inv.gB; omega))
          have hbk := hbk.grown hgq (by intro e; injection e; have := inv.gt; have := inv.gB; omega)
          replace inv := inv.next htq hgq
          have ql3 := hnq.lo
          have qh3 := hnq.hi
          have qm3 := hnq.most
          clear htq hgq hnq
          refine ⟨inv.box.cell' rfl, ?_⟩
          refine wpSeqH_act rfl rfl ?_
          go_simp
          refine (mkYes_any _ A cap zs _ (4) _ (by omega) (by omega) (by omega) inv.tape).mono ?_
          rintro e wq ⟨q4, k4, hnq, rfl, htq, hgq⟩
          have iow := Lib.hid (own_grown iow.out hgq (by rintro k ⟨⟩; have := inv.gt; have := inv.gB; omega))
          have hbk := hbk.grown hgq (by intro e; injection e; have := inv.gt; have := inv.gB; omega)
          replace inv := inv.next htq hgq
          have ql4 := hnq.lo
          have qh4 := hnq.hi
          have qm4 := hnq.most
          clear htq hgq hnq
          refine ⟨inv.box.cell' rfl, ?_⟩
          repeat (refine wpSeqH_fix _ ?_ rfl (by first | exact fun _ _ _ h => h | exact fun _ _ _ h => hpan _ _ _ _ _ h) (Or.inl ⟨by rfl, ?_⟩) ?_; rotate_left; (intro w' hSw; (try dsimp only at hSw); go_split_ands; go_simp; (try with_reducible rfl)); (simp only [List.getElem_toArray, List.getElem_cons_zero, List.getElem_cons_succ, Act.put, List.setIfInBounds_toArray, List.set_cons_zero, List.set_cons_succ]))
          refine wpSeqH_end ?_
          simp only [List.getElem_toArray, List.getElem_cons_zero, List.getElem_cons_succ, Act.put, List.setIfInBounds_toArray, List.set_cons_zero, List.set_cons_succ, thenK]
          refine wpList_store_mid (by rfl) _ _ _ (by rfl) bb 0 (tenC (⟨n, q0, q1, -1 + q2, shl1 r - 1, q3, q4 == 0⟩ : Ten)).toArray (by go_simp) (by simp only [tenC]; go_simp) (hbk.there 0 7 (by decide)) tenSize (by simp [tenC, Value.oneCell']) ?_
          have hti := TIc.store inv iow.out hbk hle hfar (⟨n, q0, q1, -1 + q2, shl1 r - 1, q3, q4 == 0⟩ : Ten)
          refine hQ _ _ _ _ _ _ _ _ _ _ _ _ _ _ _ _ _ _ _ _ _ ?_
          exact ⟨bb, k4, (⟨n, q0, q1, -1 + q2, shl1 r - 1, q3, q4 == 0⟩ : Ten), rfl, by omega, (by simp [tenOk, inR]; omega), hti⟩
      · go_simp
        have hbk := Blk.new wq 63 #[.int .i64 0, .int .i64 0, .int .i64 0, .int .i64 0, .int .i64 0, .int .i64 0, .bool false]
        have hle := inv.sz
        have hfar : (Value.slice at_ l.length ct).ownBlock ≠ some wq.heap.size := fun e => by have := (iow.out.lt _ e).2; omega
        replace inv := inv.alloc (.cells #[.int .i64 0, .int .i64 0, .int .i64 0, .int .i64 0, .int .i64 0, .int .i64 0, .bool false] 63)
        have iow := Lib.hid (iow.out.alloc (.cells #[.int .i64 0, .int .i64 0, .int .i64 0, .int .i64 0, .int .i64 0, .int .i64 0, .bool false] 63))
        generalize wq.alloc (.cells #[.int .i64 0, .int .i64 0, .int .i64 0, .int .i64 0, .int .i64 0, .int .i64 0, .bool false] 63) = wb at *
        generalize wq.heap.size = bb at *
        refine ⟨inv.box.cell' rfl, ?_⟩
        refine wpSeqH_act rfl rfl ?_
        go_simp
        refine (mkRange_any _ A cap zs _ (-1) 3 _ (by omega) (by omega) (by omega) (by omega) inv.tape).mono ?_
        rintro e wq ⟨q2, k2, hnq, hq2, rfl, htq, hgq⟩
        have iow := Lib.hid (own_grown iow.out hgq (by rintro k ⟨⟩; have := inv.gt; have := inv.gB; omega))
        have hbk := hbk.grown hgq (by intro e; injection e; have := inv.gt; have := inv.gB; omega)
        replace inv := inv.next htq hgq
        have ql2 := hnq.lo
        have qh2 := hnq.hi
        have qm2 := hnq.most
        clear htq hgq hnq
        refine ⟨inv.box.cell' rfl, ?_⟩
        refine wpSeqH_act rfl rfl ?_
        go_simp
        refine (mkNext_any _ A cap zs _ (3) _ (by omega) (by omega) (by omega) inv.tape).mono ?_
        rintro e wq ⟨q3, k3, hnq, rfl, htq, hgq⟩
        have iow := Lib.hid (own_grown iow.out hgq (by rintro k ⟨⟩; have := inv.gt; have := inv.gB; omega))
        have hbk := hbk.grown hgq (by intro e; injection e; have := inv.gt; have := inv.gB; omega)
        replace inv := inv.next htq hgq
        have ql3 := hnq.lo
        have qh3 := hnq.hi
        have qm3 := hnq.most
        clear htq hgq hnq
        refine ⟨inv.box.cell' rfl, ?_⟩
        refine wpSeqH_act rfl rfl ?_
        go_simp
        refine (mkYes_any _ A cap zs _ (4) _ (by omega) (by omega) (by omega) inv.tape).mono ?_
        rintro e wq ⟨q4, k4, hnq, rfl, htq, hgq⟩
        have iow := Lib.hid (own_grown iow.out hgq (by rintro k ⟨⟩; have := inv.gt; have := inv.gB; omega))
        have hbk := hbk.grown hgq (by intro e; injection e; have := inv.gt; have := inv.gB; omega)
        replace inv := inv.next htq hgq
        have ql4 := hnq.lo
        have qh4 := hnq.hi
        have qm4 := hnq.most
        clear htq hgq hnq
        refine ⟨inv.box.cell' rfl, ?_⟩
        repeat (refine wpSeqH_fix _ ?_ rfl (by first | exact fun _ _ _ h => h | exact fun _ _ _ h => hpan _ _ _ _ _ h) (Or.inl ⟨by rfl, ?_⟩) ?_; rotate_left; (intro w' hSw; (try dsimp only at hSw); go_split_ands; go_simp; (try with_reducible rfl)); (simp only [List.getElem_toArray, List.getElem_cons_zero, List.getElem_cons_succ, Act.put, List.setIfInBounds_toArray, List.set_cons_zero, List.set_cons_succ]))
        refine wpSeqH_end ?_
        simp only [List.getElem_toArray, List.getElem_cons_zero, List.getElem_cons_succ, Act.put, List.setIfInBounds_toArray, List.set_cons_zero, List.set_cons_succ, thenK]
        refine wpList_store_mid (by rfl) _ _ _ (by rfl) bb 0 (tenC (⟨n, q0, q1, -1 + q2, shl1 r - 1, q3, q4 == 0⟩ : Ten)).toArray (by go_simp) (by simp only [tenC]; go_simp) (hbk.there 0 7 (by decide)) tenSize (by simp [tenC, Value.oneCell']) ?_
        have hti := TIc.store inv iow.out hbk hle hfar (⟨n, q0, q1, -1 + q2, shl1 r - 1, q3, q4 == 0⟩ : Ten)
        refine hQ _ _ _ _ _ _ _ _ _ _ _ _ _ _ _ _ _ _ _ _ _ ?_
        exact ⟨bb, k4, (⟨n, q0, q1, -1 + q2, shl1 r - 1, q3, q4 == 0⟩ : Ten), rfl, by omega, (by simp [tenOk, inR]; omega), hti⟩
    · go_simp
      have hbk := Blk.new wq 63 #[.int .i64 0, .int .i64 0, .int .i64 0, .int .i64 0, .int .i64 0, .int .i64 0, .bool false]
      have hle := inv.sz
      have hfar : (Value.slice at_ l.length ct).ownBlock ≠ some wq.heap.size := fun e => by have := (iow.out.lt _ e).2; omega
      replace inv := inv.alloc (.cells #[.int .i64 0, .int .i64 0, .int .i64 0, .int .i64 0, .int .i64 0, .int .i64 0, .bool false] 63)
      have iow := Lib.hid (iow.out.alloc (.cells #[.int .i64 0, .int .i64 0, .int .i64 0, .int .i64 0, .int .i64 0, .int .i64 0, .bool false] 63))
      generalize wq.alloc (.cells #[.int .i64 0, .int .i64 0, .int .i64 0, .int .i64 0, .int .i64 0, .int .i64 0, .bool false] 63) = wb at *
      generalize wq.heap.size = bb at *
      refine ⟨inv.box.cell' rfl, ?_⟩
      refine wpSeqH_act rfl rfl ?_
      go_simp
      refine (mkNext_any _ A cap zs _ (4) _ (by omega) (by omega) (by omega) inv.tape).mono ?_
      rintro e wq ⟨q1, k1, hnq, rfl, htq, hgq⟩
      have iow := Lib.hid (own_grown iow.out hgq (by rintro k ⟨⟩; have := inv.gt; have := inv.gB; omega))
      have hbk := hbk.grown hgq (by intro e; injection e; have := inv.gt; have := inv.gB; omega)
      replace inv := inv.next htq hgq
      have ql1 := hnq.lo
      have qh1 := hnq.hi
      have qm1 := hnq.most
      clear htq hgq hnq
      refine ⟨inv.box.cell' rfl, ?_⟩
      refine wpSeqH_act rfl rfl ?_
      go_simp
      refine (mkRange_any _ A cap zs _ (-1) 3 _ (by omega) (by omega) (by omega) (by omega) inv.tape).mono ?_
      rintro e wq ⟨q2, k2, hnq, hq2, rfl, htq, hgq⟩
      have iow := Lib.hid (own_grown iow.out hgq (by rintro k ⟨⟩; have := inv.gt; have := inv.gB; omega))
      have hbk := hbk.grown hgq (by intro e; injection e; have := inv.gt; have := inv.gB; omega)
      replace inv := inv.next htq hgq
      have ql2 := hnq.lo
      have qh2 := hnq.hi
      have qm2 := hnq.most
      clear htq hgq hnq
      refine ⟨inv.box.cell' rfl, ?_⟩
      refine wpSeqH_act rfl rfl ?_
      go_simp
      refine (mkNext_any _ A cap zs _ (3) _ (by omega) (by omega) (by omega) inv.tape).mono ?_
      rintro e wq ⟨q3, k3, hnq, rfl, htq, hgq⟩
      have iow := Lib.hid (own_grown iow.out hgq (by rintro k ⟨⟩; have := inv.gt; have := inv.gB; omega))
      have hbk := hbk.grown hgq (by intro e; injection e; have := inv.gt; have := inv.gB; omega)
      replace inv := inv.next htq hgq
      have ql3 := hnq.lo
      have qh3 := hnq.hi
      have qm3 := hnq.most
      clear htq hgq hnq
      refine ⟨inv.box.cell' rfl, ?_⟩
      refine wpSeqH_act rfl rfl ?_
      go_simp
      refine (mkYes_any _ A cap zs _ (4) _ (by omega) (by omega) (by omega) inv.tape).mono ?_
      rintro e wq ⟨q4, k4, hnq, rfl, htq, hgq⟩
      have iow := Lib.hid (own_grown iow.out hgq (by rintro k ⟨⟩; have := inv.gt; have := inv.gB; omega))
      have hbk := hbk.grown hgq (by intro e; injection e; have := inv.gt; have := inv.gB; omega)
      replace inv := inv.next htq hgq
      have ql4 := hnq.lo
      have qh4 := hnq.hi
      have qm4 := hnq.most
      clear htq hgq hnq
      refine ⟨inv.box.cell' rfl, ?_⟩
      repeat (refine wpSeqH_fix _ ?_ rfl (by first | exact fun _ _ _ h => h | exact fun _ _ _ h => hpan _ _ _ _ _ h) (Or.inl ⟨by rfl, ?_⟩) ?_; rotate_left; (intro w' hSw; (try dsimp only at hSw); go_split_ands; go_simp; (try with_reducible rfl)); (simp only [List.getElem_toArray, List.getElem_cons_zero, List.getElem_cons_succ, Act.put, List.setIfInBounds_toArray, List.set_cons_zero, List.set_cons_succ]))
      refine wpSeqH_end ?_
      simp only [List.getElem_toArray, List.getElem_cons_zero, List.getElem_cons_succ, Act.put, List.setIfInBounds_toArray, List.set_cons_zero, List.set_cons_succ, thenK]
      refine wpList_store_mid (by rfl) _ _ _ (by rfl) bb 0 (tenC (⟨n, q0, q1, -1 + q2, shl1 r - 1, q3, q4 == 0⟩ : Ten)).toArray (by go_simp) (by simp only [tenC]; go_simp) (hbk.there 0 7 (by decide)) tenSize (by simp [tenC, Value.oneCell']) ?_
      have hti := TIc.store inv iow.out hbk hle hfar (⟨n, q0, q1, -1 + q2, shl1 r - 1, q3, q4 == 0⟩ : Ten)
      refine hQ _ _ _ _ _ _ _ _ _ _ _ _ _ _ _ _ _ _ _ _ _ ?_
      exact ⟨bb, k4, (⟨n, q0, q1, -1 + q2, shl1 r - 1, q3, q4 == 0⟩ : Ten), rfl, by omega, (by simp [tenOk, inR]; omega), hti⟩
  · go_simp
    have hbk := Blk.new wd 63 #[.int .i64 0, .int .i64 0, .int .i64 0, .int .i64 0, .int .i64 0, .int .i64 0, .bool false]
    have hle := inv.sz
    have hfar : (Value.slice at_ l.length ct).ownBlock ≠ some wd.heap.size := fun e => by have := (iow.out.lt _ e).2; omega
    replace inv := inv.alloc (.cells #[.int .i64 0, .int .i64 0, .int .i64 0, .int .i64 0, .int .i64 0, .int .i64 0, .bool false] 63)
    have iow := Lib.hid (iow.out.alloc (.cells #[.int .i64 0, .int .i64 0, .int .i64 0, .int .i64 0, .int .i64 0, .int .i64 0, .bool false] 63))
    generalize wd.alloc (.cells #[.int .i64 0, .int .i64 0, .int .i64 0, .int .i64 0, .int .i64 0, .int .i64 0, .bool false] 63) = wb at *
    generalize wd.heap.size = bb at *
    refine ⟨inv.box.cell' rfl, ?_⟩
    refine wpSeqH_act rfl rfl ?_
    go_simp
    refine (mkNext_any _ A cap zs _ (n + 1) _ (by omega) (by omega) (by omega) inv.tape).mono ?_
    rintro e wq ⟨q0, k0, hnq, rfl, htq, hgq⟩
    have iow := Lib.hid (own_grown iow.out hgq (by rintro k ⟨⟩; have := inv.gt; have := inv.gB; omega))
    have hbk := hbk.grown hgq (by intro e; injection e; have := inv.gt; have := inv.gB; omega)
    replace inv := inv.next htq hgq
    have ql0 := hnq.lo
    have qh0 := hnq.hi
    have qm0 := hnq.most
    clear htq hgq hnq
    refine ⟨inv.box.cell' rfl, ?_⟩
    refine wpSeqH_act rfl rfl ?_
    go_simp
    refine (mkNext_any _ A cap zs _ (4) _ (by omega) (by omega) (by omega) inv.tape).mono ?_
    rintro e wq ⟨q1, k1, hnq, rfl, htq, hgq⟩
    have iow := Lib.hid (own_grown iow.out hgq (by rintro k ⟨⟩; have := inv.gt; have := inv.gB; omega))
    have hbk := hbk.grown hgq (by intro e; injection e; have := inv.gt; have := inv.gB; omega)
    replace inv := inv.next htq hgq
    have ql1 := hnq.lo
    have qh1 := hnq.hi
    have qm1 := hnq.most
    clear htq hgq hnq
    refine ⟨inv.box.cell' rfl, ?_⟩
    refine wpSeqH_act rfl rfl ?_
    go_simp
    refine (mkRange_any _ A cap zs _ (-1) 3 _ (by omega) (by omega) (by omega) (by omega) inv.tape).mono ?_
    rintro e wq ⟨q2, k2, hnq, hq2, rfl, htq, hgq⟩
    have iow := Lib.hid (own_grown iow.out hgq (by rintro k ⟨⟩; have := inv.gt; have := inv.gB; omega))
    have hbk := hbk.grown hgq (by intro e; injection e; have := inv.gt; have := inv.gB; omega)
    replace inv := inv.next htq hgq
    have ql2 := hnq.lo
    have qh2 := hnq.hi
    have qm2 := hnq.most
    clear htq hgq hnq
    refine ⟨inv.box.cell' rfl, ?_⟩
    refine wpSeqH_act rfl rfl ?_
    go_simp
    refine (mkNext_any _ A cap zs _ (3) _ (by omega) (by omega) (by omega) inv.tape).mono ?_
    rintro e wq ⟨q3, k3, hnq, rfl, htq, hgq⟩
    have iow := Lib.hid (own_grown iow.out hgq (by rintro k ⟨⟩; have := inv.gt; have := inv.gB; omega))
    have hbk := hbk.grown hgq (by intro e; injection e; have := inv.gt; have := inv.gB; omega)
    replace inv := inv.next htq hgq
    have ql3 := hnq.lo
    have qh3 := hnq.hi
    have qm3 := hnq.most
    clear htq hgq hnq
    refine ⟨inv.box.cell' rfl, ?_⟩
    refine wpSeqH_act rfl rfl ?_
    go_simp
    refine (mkYes_any _ A cap zs _ (4) _ (by omega) (by omega) (by omega) inv.tape).mono ?_
    rintro e wq ⟨q4, k4, hnq, rfl, htq, hgq⟩
    have iow := Lib.hid (own_grown iow.out hgq (by rintro k ⟨⟩; have := inv.gt; have := inv.gB; omega))
    have hbk := hbk.grown hgq (by intro e; injection e; have := inv.gt; have := inv.gB; omega)
    replace inv := inv.next htq hgq
    have ql4 := hnq.lo
    have qh4 := hnq.hi
    have qm4 := hnq.most
    clear htq hgq hnq
    refine ⟨inv.box.cell' rfl, ?_⟩
    repeat (refine wpSeqH_fix _ ?_ rfl (by first | exact fun _ _ _ h => h | exact fun _ _ _ h => hpan _ _ _ _ _ h) (Or.inl ⟨by rfl, ?_⟩) ?_; rotate_left; (intro w' hSw; (try dsimp only at hSw); go_split_ands; go_simp; (try with_reducible rfl)); (simp only [List.getElem_toArray, List.getElem_cons_zero, List.getElem_cons_succ, Act.put, List.setIfInBounds_toArray, List.set_cons_zero, List.set_cons_succ]))
    refine wpSeqH_end ?_
    simp only [List.getElem_toArray, List.getElem_cons_zero, List.getElem_cons_succ, Act.put, List.setIfInBounds_toArray, List.set_cons_zero, List.set_cons_succ, thenK]
    refine wpList_store_mid (by rfl) _ _ _ (by rfl) bb 0 (tenC (⟨n, q0, q1, -1 + q2, shl1 r - 1, q3, q4 == 0⟩ : Ten)).toArray (by go_simp) (by simp only [tenC]; go_simp) (hbk.there 0 7 (by decide)) tenSize (by simp [tenC, Value.oneCell']) ?_
    have hti := TIc.store inv iow.out hbk hle hfar (⟨n, q0, q1, -1 + q2, shl1 r - 1, q3, q4 == 0⟩ : Ten)
    refine hQ _ _ _ _ _ _ _ _ _ _ _ _ _ _ _ _ _ _ _ _ _ ?_
    exact ⟨bb, k4, (⟨n, q0, q1, -1 + q2, shl1 r - 1, q3, q4 == 0⟩ : Ten), rfl, by omega, (by simp [tenOk, inR]; omega), hti⟩
end Go.Proofs.Ytjobcfpnmfjlfaa
