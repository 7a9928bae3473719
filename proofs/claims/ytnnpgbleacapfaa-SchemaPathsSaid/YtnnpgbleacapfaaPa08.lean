import Derived.Test.YtnnpgbleacapfaaPa07
namespace Go.Proofs.Ytnnpgbleacapfaa
open Go.RowKit
set_option linter.unusedSimpArgs false
set_option linter.unusedVariables false

/-- The region with a number, out of a function's code. -/
def regAt (id : Nat) : Code → Option Code
  | .region i ops d => if i = id then some (.region i ops d) else none
  | .seq a b => match regAt id a with
    | some c => some c
    | none => regAt id b
  | .cond _ a b => match regAt id a with
    | some c => some c
    | none => regAt id b
  | .block _ c => regAt id c
  | .loop c => regAt id c
  | .scope c => regAt id c
  | _ => none
noncomputable def reg15 : Code := (Try.f6.body.bind (regAt 15)).getD .skip

set_option maxHeartbeats 4000000 in
set_option maxRecDepth 100000 in
theorem ten15_any (c0 c1 c2 c5 c6 c7 c9 c10 c11 c12 c13 c14 c15 c16 c17 c18 c19 c20 c21 c22 c23 c24 c25 c26 c27 c28 c29 c30 c31 c32 c33 c34 c35 c36 c37 c38 c39 c40 c41 c42 c43 c44 c45 c46 c47 c48 c49 c50 c51 c52 c53 c54 c55 c56 c57 c58 c59 c60 c61 c62 c63 c64 c65 c66 c67 c68 c69 c70 c71 c72 c73 c74 c75 c76 c77 c78 c79 c80 c81 c82 c83 c84 c85 c86 c87 c88 c89 c90 c91 c92 c93 c94 c95 c96 c97 c98 c99 c100 c101 c102 c103 c104 c105 c106 c107 c108 c109 c110 c111 c112 c113 c114 c115 c116 c117 c118 c119 c120 c121 c122 c123 c124 c125 c126 c127 c128 c129 c130 c131 c132 c133 c134 c135 c136 c137 c138 c139 c140 c141 c142 c143 c144 c145 c146 c147 c148 c149 c150 c151 c152 c153 c154 c155 c156 c157 c158 c159 c160 c161 c162 c163 c164 c165 c166 c167 c168 c169 c170 c171 c172 c173 c174 c175 c176 c177 c178 c179 c180 c181 : Value) (w : World) (A : Option Addr) (cap : Nat) (zs : List Int) (g ka : Nat) (n r : Int) (c : Cfg) (x : CfgA) (c0' : Cfg) (B : Nat) (at_ : Option Addr) (ct : Nat) (l : List Ten) (wa : World) (Q : Exit → Act → World → Prop)
    (hn : 1 ≤ n ∧ n ≤ 12) (hr : 1 ≤ r ∧ r ≤ 3) (hcr : c.regions = r) (hka : ka ≤ 1000) (hci : CI w A cap zs g ka c x c0' B wa) (hown : wa.ownsRow B 60 7 (.slice at_ l.length ct) l.length (flat tenC l))
    (hpan : ∀ c a d v w, Q (.panic c) (Act.put a d v) w → Q (.panic c) a w)
    (hQ : ∀ (u9 u88 u89 u90 u91 u92 u93 u94 u95 u96 u97 u98 u99 u100 u101 u102 u103 u104 u105 u106 : Value) (wx : World), TenCut w A cap zs g (ka + 5) r c x c0' B (.slice at_ l.length ct) l.length (flat tenC l) u9 wx → Q .normal ⟨#[c0, c1, c2, .pointer (some ⟨w.heap.size + 1, 0, none⟩), .pointer (some ⟨g, 0, none⟩), c5, c6, c7, .int .i64 n, u9, c10, c11, c12, c13, c14, c15, c16, c17, c18, c19, c20, c21, c22, c23, c24, c25, c26, c27, c28, c29, c30, c31, c32, c33, c34, c35, c36, c37, c38, c39, c40, c41, c42, c43, c44, c45, c46, c47, c48, c49, c50, c51, c52, c53, c54, c55, c56, c57, c58, c59, c60, c61, c62, c63, c64, c65, c66, c67, c68, c69, c70, c71, c72, c73, c74, c75, c76, c77, c78, c79, c80, c81, c82, c83, c84, c85, c86, c87, u88, u89, u90, u91, u92, u93, u94, u95, u96, u97, u98, u99, u100, u101, u102, u103, u104, u105, u106, c107, c108, c109, c110, c111, c112, c113, c114, c115, c116, c117, c118, c119, c120, c121, c122, c123, c124, c125, c126, c127, c128, c129, c130, c131, c132, c133, c134, c135, c136, c137, c138, c139, c140, c141, c142, c143, c144, c145, c146, c147, c148, c149, c150, c151, c152, c153, c154, c155, c156, c157, c158, c159, c160, c161, c162, c163, c164, c165, c166, c167, c168, c169, c170, c171, c172, c173, c174, c175, c176, c177, c178, c179, c180, c181], []⟩ wx) :
    Code.wp Try.prog reg15 Q ⟨#[c0, c1, c2, .pointer (some ⟨w.heap.size + 1, 0, none⟩), .pointer (some ⟨g, 0, none⟩), c5, c6, c7, .int .i64 n, c9, c10, c11, c12, c13, c14, c15, c16, c17, c18, c19, c20, c21, c22, c23, c24, c25, c26, c27, c28, c29, c30, c31, c32, c33, c34, c35, c36, c37, c38, c39, c40, c41, c42, c43, c44, c45, c46, c47, c48, c49, c50, c51, c52, c53, c54, c55, c56, c57, c58, c59, c60, c61, c62, c63, c64, c65, c66, c67, c68, c69, c70, c71, c72, c73, c74, c75, c76, c77, c78, c79, c80, c81, c82, c83, c84, c85, c86, c87, c88, c89, c90, c91, c92, c93, c94, c95, c96, c97, c98, c99, c100, c101, c102, c103, c104, c105, c106, c107, c108, c109, c110, c111, c112, c113, c114, c115, c116, c117, c118, c119, c120, c121, c122, c123, c124, c125, c126, c127, c128, c129, c130, c131, c132, c133, c134, c135, c136, c137, c138, c139, c140, c141, c142, c143, c144, c145, c146, c147, c148, c149, c150, c151, c152, c153, c154, c155, c156, c157, c158, c159, c160, c161, c162, c163, c164, c165, c166, c167, c168, c169, c170, c171, c172, c173, c174, c175, c176, c177, c178, c179, c180, c181], []⟩ wa := by
  conv => arg 2; whnf
  obtain ⟨hr1, hr2⟩ := hr
  obtain ⟨hn1, hn2⟩ := hn
  have inv := hci.grown (grown_drew1 wa none) (by rintro _ ⟨⟩)
  have iow := Lib.hid (own_grown hown (grown_drew1 wa none) (by rintro _ ⟨⟩))
  have en : IntKind.i64.wrap (n + 1) = n + 1 := IntWalk.i64_in _ (by omega)
  have hsh := shl1_bd r
  have eu : IntKind.u64.wrap r = r := by
    have hr3 : r = 1 ∨ r = 2 ∨ r = 3 := by omega
    rcases hr3 with rfl | rfl | rfl <;> rfl
  have esh : IntKind.i64.wrap (2 ^ r.toNat) = shl1 r := by
    have hr3 : r = 1 ∨ r = 2 ∨ r = 3 := by omega
    rcases hr3 with rfl | rfl | rfl <;> rfl
  have es1 : IntKind.i64.wrap (shl1 r - 1) = shl1 r - 1 := IntWalk.i64_in _ (by omega)
  obtain ⟨r', zl, cl, tl, vl, rl, ol, bl, le, ba⟩ := c
  obtain rfl : r = r' := hcr.symm
  clear hci hown
  refine wp_region_seqA (fun w' : World => w'.cell? ⟨g, 0, none⟩ = some (.int .i64 r)) 20 19 [(0, false), (1, false), (2, false), (3, false), (5, false), (7, false), (9, false), (10, false), (11, false), (12, false), (13, false), (14, false), (16, false), (4, true), (6, true), (8, true), (15, true), (17, true), (18, false)] (by kernel_rfl) (by kernel_rfl) (inv.box.cell' rfl) ?_
  generalize wa.drew = wd at *
  simp only [List.take_succ_cons, List.take_zero, List.drop_succ_cons, List.drop_zero]
  repeat (refine wpSeqA_fix _ ?_ rfl (by first | exact fun _ _ _ h => h | exact fun _ _ _ h => hpan _ _ _ _ _ h) (Or.inl ⟨by rfl, ?_⟩) ?_; rotate_left; (intro w' hSw; (try dsimp only at hSw); go_split_ands; go_simp; (try with_reducible rfl)); (simp only [List.getElem_toArray, List.getElem_cons_zero, List.getElem_cons_succ, Act.put, List.setIfInBounds_toArray, List.set_cons_zero, List.set_cons_succ]))
  refine wpSeqA_act rfl rfl rfl rfl ?_ ?_
  · go_simp
    refine (mkNext_any _ A cap zs _ (n + 1) _ (by omega) (by omega) (by omega) inv.tape).mono ?_
    rintro e wq ⟨q0, k0, hnq, rfl, htq, hgq⟩
    have iow := Lib.hid (own_grown iow.out hgq (by rintro k ⟨⟩; have := inv.gt; have := inv.gB; omega))
    replace inv := inv.next htq hgq
    have ql0 := hnq.lo
    have qh0 := hnq.hi
    have qm0 := hnq.most
    clear htq hgq hnq
    refine ⟨inv.box.cell' rfl, ?_⟩
    refine wpSeqA_act rfl rfl rfl rfl ?_ ?_
    · go_simp
      refine (mkNext_any _ A cap zs _ (4) _ (by omega) (by omega) (by omega) inv.tape).mono ?_
      rintro e wq ⟨q1, k1, hnq, rfl, htq, hgq⟩
      have iow := Lib.hid (own_grown iow.out hgq (by rintro k ⟨⟩; have := inv.gt; have := inv.gB; omega))
      replace inv := inv.next htq hgq
      have ql1 := hnq.lo
      have qh1 := hnq.hi
      have qm1 := hnq.most
      clear htq hgq hnq
      refine ⟨inv.box.cell' rfl, ?_⟩
      refine wpSeqA_act rfl rfl rfl rfl ?_ ?_
      · go_simp
        refine (mkRange_any _ A cap zs _ (-1) 3 _ (by omega) (by omega) (by omega) (by omega) inv.tape).mono ?_
        rintro e wq ⟨q2, k2, hnq, hq2, rfl, htq, hgq⟩
        have iow := Lib.hid (own_grown iow.out hgq (by rintro k ⟨⟩; have := inv.gt; have := inv.gB; omega))
        replace inv := inv.next htq hgq
        have ql2 := hnq.lo
        have qh2 := hnq.hi
        have qm2 := hnq.most
        clear htq hgq hnq
        refine ⟨inv.box.cell' rfl, ?_⟩
        refine wpSeqA_act rfl rfl rfl rfl ?_ ?_
        · go_simp
          refine (mkNext_any _ A cap zs _ (3) _ (by omega) (by omega) (by omega) inv.tape).mono ?_
          rintro e wq ⟨q3, k3, hnq, rfl, htq, hgq⟩
          have iow := Lib.hid (own_grown iow.out hgq (by rintro k ⟨⟩; have := inv.gt; have := inv.gB; omega))
          replace inv := inv.next htq hgq
          have ql3 := hnq.lo
          have qh3 := hnq.hi
          have qm3 := hnq.most
          clear htq hgq hnq
          refine ⟨inv.box.cell' rfl, ?_⟩
          refine wpSeqA_act rfl rfl rfl rfl ?_ ?_
          · go_simp
            refine (mkYes_any _ A cap zs _ (4) _ (by omega) (by omega) (by omega) inv.tape).mono ?_
            rintro e wq ⟨q4, k4, hnq, rfl, htq, hgq⟩
            have iow := Lib.hid (own_grown iow.out hgq (by rintro k ⟨⟩; have := inv.gt; have := inv.gB; omega))
            replace inv := inv.next htq hgq
            have ql4 := hnq.lo
            have qh4 := hnq.hi
            have qm4 := hnq.most
            clear htq hgq hnq
            refine ⟨inv.box.cell' rfl, ?_⟩
            repeat (refine wpSeqA_fix _ ?_ rfl (by first | exact fun _ _ _ h => h | exact fun _ _ _ h => hpan _ _ _ _ _ h) (Or.inl ⟨by rfl, ?_⟩) ?_; rotate_left; (intro w' hSw; (try dsimp only at hSw); go_split_ands; go_simp; (try with_reducible rfl)); (simp only [List.getElem_toArray, List.getElem_cons_zero, List.getElem_cons_succ, Act.put, List.setIfInBounds_toArray, List.set_cons_zero, List.set_cons_succ]))
            refine wpSeqA_end rfl rfl ?_
            go_simp
            have hbk := Blk.new wq 60 #[.int .i64 0, .int .i64 0, .int .i64 0, .int .i64 0, .int .i64 0, .int .i64 0, .bool false]
            have hle := inv.sz
            have hfar : (Value.slice at_ l.length ct).ownBlock ≠ some wq.heap.size := fun e => by have := (iow.out.lt _ e).2; omega
            replace inv := inv.alloc (.cells #[.int .i64 0, .int .i64 0, .int .i64 0, .int .i64 0, .int .i64 0, .int .i64 0, .bool false] 60)
            have iow := Lib.hid (iow.out.alloc (.cells #[.int .i64 0, .int .i64 0, .int .i64 0, .int .i64 0, .int .i64 0, .int .i64 0, .bool false] 60))
            generalize wq.alloc (.cells #[.int .i64 0, .int .i64 0, .int .i64 0, .int .i64 0, .int .i64 0, .int .i64 0, .bool false] 60) = wb at *
            generalize wq.heap.size = bb at *
            refine ⟨inv.box.cell' rfl, ?_⟩
            simp only [List.getElem_toArray, List.getElem_cons_zero, List.getElem_cons_succ, Act.put, List.setIfInBounds_toArray, List.set_cons_zero, List.set_cons_succ, thenK]
            refine wpList_store_mid (by rfl) _ _ _ (by rfl) bb 0 (tenC (⟨n, q0, q1, -1 + q2, shl1 r - 1, q3, q4 == 0⟩ : Ten)).toArray (by go_simp) (by simp only [tenC]; go_simp) (hbk.there 0 7 (by decide)) tenSize (by simp [tenC, Value.oneCell']) ?_
            have hti := TIc.store inv iow.out hbk hle hfar (⟨n, q0, q1, -1 + q2, shl1 r - 1, q3, q4 == 0⟩ : Ten)
            refine hQ _ _ _ _ _ _ _ _ _ _ _ _ _ _ _ _ _ _ _ _ _ ?_
            exact ⟨bb, k4, (⟨n, q0, q1, -1 + q2, shl1 r - 1, q3, q4 == 0⟩ : Ten), rfl, by omega, (by simp [tenOk, inR]; omega), hti⟩
          · go_simp
            have hbk := Blk.new wq 60 #[.int .i64 0, .int .i64 0, .int .i64 0, .int .i64 0, .int .i64 0, .int .i64 0, .bool false]
            have hle := inv.sz
            have hfar : (Value.slice at_ l.length ct).ownBlock ≠ some wq.heap.size := fun e => by have := (iow.out.lt _ e).2; omega
            replace inv := inv.alloc (.cells #[.int .i64 0, .int .i64 0, .int .i64 0, .int .i64 0, .int .i64 0, .int .i64 0, .bool false] 60)
            have iow := Lib.hid (iow.out.alloc (.cells #[.int .i64 0, .int .i64 0, .int .i64 0, .int .i64 0, .int .i64 0, .int .i64 0, .bool false] 60))
            generalize wq.alloc (.cells #[.int .i64 0, .int .i64 0, .int .i64 0, .int .i64 0, .int .i64 0, .int .i64 0, .bool false] 60) = wb at *
            generalize wq.heap.size = bb at *
            refine ⟨inv.box.cell' rfl, ?_⟩
            refine wpSeqH_act rfl rfl ?_
            go_simp
            refine (mkYes_any _ A cap zs _ (4) _ (by omega) (by omega) (by omega) inv.tape).mono ?_
            rintro e wq ⟨q4, k4, hnq, rfl, htq, hgq⟩
            have iow := Lib.hid (own_grown iow.out hgq (by rintro k ⟨⟩; have := inv.gt; have := inv.gB; omega))
            have hbk := hbk.grown hgq (by intro e; injection e; have := inv.gt; have := inv.gB; omega)
            replace inv := inv.next htq hgq
            have ql4 := hnq.lo
            have qh4 := hnq.hi
            have qm4 := hnq.most
            clear htq hgq hnq
            refine ⟨inv.box.cell' rfl, ?_⟩
            repeat (refine wpSeqH_fix _ ?_ rfl (by first | exact fun _ _ _ h => h | exact fun _ _ _ h => hpan _ _ _ _ _ h) (Or.inl ⟨by rfl, ?_⟩) ?_; rotate_left; (intro w' hSw; (try dsimp only at hSw); go_split_ands; go_simp; (try with_reducible rfl)); (simp only [List.getElem_toArray, List.getElem_cons_zero, List.getElem_cons_succ, Act.put, List.setIfInBounds_toArray, List.set_cons_zero, List.set_cons_succ]))
            refine wpSeqH_end ?_
            simp only [List.getElem_toArray, List.getElem_cons_zero, List.getElem_cons_succ, Act.put, List.setIfInBounds_toArray, List.set_cons_zero, List.set_cons_succ, thenK]
            refine wpList_store_mid (by rfl) _ _ _ (by rfl) bb 0 (tenC (⟨n, q0, q1, -1 + q2, shl1 r - 1, q3, q4 == 0⟩ : Ten)).toArray (by go_simp) (by simp only [tenC]; go_simp) (hbk.there 0 7 (by decide)) tenSize (by simp [tenC, Value.oneCell']) ?_
            have hti := TIc.store inv iow.out hbk hle hfar (⟨n, q0, q1, -1 + q2, shl1 r - 1, q3, q4 == 0⟩ : Ten)
            refine hQ _ _ _ _ _ _ _ _ _ _ _ _ _ _ _ _ _ _ _ _ _ ?_
            exact ⟨bb, k4, (⟨n, q0, q1, -1 + q2, shl1 r - 1, q3, q4 == 0⟩ : Ten), rfl, by omega, (by simp [tenOk, inR]; omega), hti⟩
        · go_simp
          have hbk := Blk.new wq 60 #[.int .i64 0, .int .i64 0, .int .i64 0, .int .i64 0, .int .i64 0, .int .i64 0, .bool false]
          have hle := inv.sz
          have hfar : (Value.slice at_ l.length ct).ownBlock ≠ some wq.heap.size := fun e => by have := (iow.out.lt _ e).2; omega
          replace inv := inv.alloc (.cells #[.int .i64 0, .int .i64 0, .int .i64 0, .int .i64 0, .int .i64 0, .int .i64 0, .bool false] 60)
          have iow := Lib.hid (iow.out.alloc (.cells #[.int .i64 0, .int .i64 0, .int .i64 0, .int .i64 0, .int .i64 0, .int .i64 0, .bool false] 60))
          generalize wq.alloc (.cells #[.int .i64 0, .int .i64 0, .int .i64 0, .int .i64 0, .int .i64 0, .int .i64 0, .bool false] 60) = wb at *
          generalize wq.heap.size = bb at *
          refine ⟨inv.box.cell' rfl, ?_⟩
          refine wpSeqH_act rfl rfl ?_
          go_simp
          refine (mkNext_any _ A cap zs _ (3) _ (by omega) (by omega) (by omega) inv.tape).mono ?_
          rintro e wq ⟨q3, k3, hnq, rfl, htq, hgq⟩
          have iow := Lib.hid (own_grown iow.out hgq (by rintro k ⟨⟩; have := inv.gt; have := inv.gB; omega))
          have hbk := hbk.grown hgq (by intro e; injection e; have := inv.gt; have := inv.gB; omega)
          replace inv := inv.next htq hgq
          have ql3 := hnq.lo
          have qh3 := hnq.hi
          have qm3 := hnq.most
          clear htq hgq hnq
          refine ⟨inv.box.cell' rfl, ?_⟩
          refine wpSeqH_act rfl rfl ?_
          go_simp
          refine (mkYes_any _ A cap zs _ (4) _ (by omega) (by omega) (by omega) inv.tape).mono ?_
          rintro e wq ⟨q4, k4, hnq, rfl, htq, hgq⟩
          have iow := Lib.hid (own_grown iow.out hgq (by rintro k ⟨⟩; have := inv.gt; have := inv.gB; omega))
          have hbk := hbk.grown hgq (by intro e; injection e; have := inv.gt; have := inv.gB; omega)
          replace inv := inv.next htq hgq
          have ql4 := hnq.lo
          have qh4 := hnq.hi
          have qm4 := hnq.most
          clear htq hgq hnq
          refine ⟨inv.box.cell' rfl, ?_⟩
          repeat (refine wpSeqH_fix _ ?_ rfl (by first | exact fun _ _ _ h => h | exact fun _ _ _ h => hpan _ _ _ _ _ h) (Or.inl ⟨by rfl, ?_⟩) ?_; rotate_left; (intro w' hSw; (try dsimp only at hSw); go_split_ands; go_simp; (try with_reducible rfl)); (simp only [List.getElem_toArray, List.getElem_cons_zero, List.getElem_cons_succ, Act.put, List.setIfInBounds_toArray, List.set_cons_zero, List.set_cons_succ]))
          refine wpSeqH_end ?_
          simp only [List.getElem_toArray, List.getElem_cons_zero, List.getElem_cons_succ, Act.put, List.setIfInBounds_toArray, List.set_cons_zero, List.set_cons_succ, thenK]
          refine wpList_store_mid (by rfl) _ _ _ (by rfl) bb 0 (tenC (⟨n, q0, q1, -1 + q2, shl1 r - 1, q3, q4 == 0⟩ : Ten)).toArray (by go_simp) (by simp only [tenC]; go_simp) (hbk.there 0 7 (by decide)) tenSize (by simp [tenC, Value.oneCell']) ?_
          have hti := TIc.store inv iow.out hbk hle hfar (⟨n, q0, q1, -1 + q2, shl1 r - 1, q3, q4 == 0⟩ : Ten)
          refine hQ _ _ _ _ _ _ _ _ _ _ _ _ _ _ _ _ _ _ _ _ _ ?_
          exact ⟨bb, k4, (⟨n, q0, q1, -1 + q2, shl1 r - 1, q3, q4 == 0⟩ : Ten), rfl, by omega, (by simp [tenOk, inR]; omega), hti⟩
      · go_simp
        have hbk := Blk.new wq 60 #[.int .i64 0, .int .i64 0, .int .i64 0, .int .i64 0, .int .i64 0, .int .i64 0, .bool false]
        have hle := inv.sz
        have hfar : (Value.slice at_ l.length ct).ownBlock ≠ some wq.heap.size := fun e => by have := (iow.out.lt _ e).2; omega
        replace inv := inv.alloc (.cells #[.int .i64 0, .int .i64 0, .int .i64 0, .int .i64 0, .int .i64 0, .int .i64 0, .bool false] 60)
        have iow := Lib.hid (iow.out.alloc (.cells #[.int .i64 0, .int .i64 0, .int .i64 0, .int .i64 0, .int .i64 0, .int .i64 0, .bool false] 60))
        generalize wq.alloc (.cells #[.int .i64 0, .int .i64 0, .int .i64 0, .int .i64 0, .int .i64 0, .int .i64 0, .bool false] 60) = wb at *
        generalize wq.heap.size = bb at *
        refine ⟨inv.box.cell' rfl, ?_⟩
        refine wpSeqH_act rfl rfl ?_
        go_simp
        refine (mkRange_any _ A cap zs _ (-1) 3 _ (by omega) (by omega) (by omega) (by omega) inv.tape).mono ?_
        rintro e wq ⟨q2, k2, hnq, hq2, rfl, htq, hgq⟩
        have iow := Lib.hid (own_grown iow.out hgq (by rintro k ⟨⟩; have := inv.gt; have := inv.gB; omega))
        have hbk := hbk.grown hgq (by intro e; injection e; have := inv.gt; have := inv.gB; omega)
        replace inv := inv.next htq hgq
        have ql2 := hnq.lo
        have qh2 := hnq.hi
        have qm2 := hnq.most
        clear htq hgq hnq
        refine ⟨inv.box.cell' rfl, ?_⟩
        refine wpSeqH_act rfl rfl ?_
        go_simp
        refine (mkNext_any _ A cap zs _ (3) _ (by omega) (by omega) (by omega) inv.tape).mono ?_
        rintro e wq ⟨q3, k3, hnq, rfl, htq, hgq⟩
        have iow := Lib.hid (own_grown iow.out hgq (by rintro k ⟨⟩; have := inv.gt; have := inv.gB; omega))
        have hbk := hbk.grown hgq (by intro e; injection e; have := inv.gt; have := inv.gB; omega)
        replace inv := inv.next htq hgq
        have ql3 := hnq.lo
        have qh3 := hnq.hi
        have qm3 := hnq.most
        clear htq hgq hnq
        refine ⟨inv.box.cell' rfl, ?_⟩
        refine wpSeqH_act rfl rfl ?_
        go_simp
        refine (mkYes_any _ A cap zs _ (4) _ (by omega) (by omega) (by omega) inv.tape).mono ?_
        rintro e wq ⟨q4, k4, hnq, rfl, htq, hgq⟩
        have iow := Lib.hid (own_grown iow.out hgq (by rintro k ⟨⟩; have := inv.gt; have := inv.gB; omega))
        have hbk := hbk.grown hgq (by intro e; injection e; have := inv.gt; have := inv.gB; omega)
        replace inv := inv.next htq hgq
        have ql4 := hnq.lo
        have qh4 := hnq.hi
        have qm4 := hnq.most
        clear htq hgq hnq
        refine ⟨inv.box.cell' rfl, ?_⟩
        repeat (refine wpSeqH_fix _ ?_ rfl (by first | exact fun _ _ _ h => h | exact fun _ _ _ h => hpan _ _ _ _ _ h) (Or.inl ⟨by rfl, ?_⟩) ?_; rotate_left; (intro w' hSw; (try dsimp only at hSw); go_split_ands; go_simp; (try with_reducible rfl)); (simp only [List.getElem_toArray, List.getElem_cons_zero, List.getElem_cons_succ, Act.put, List.setIfInBounds_toArray, List.set_cons_zero, List.set_cons_succ]))
        refine wpSeqH_end ?_
        simp only [List.getElem_toArray, List.getElem_cons_zero, List.getElem_cons_succ, Act.put, List.setIfInBounds_toArray, List.set_cons_zero, List.set_cons_succ, thenK]
        refine wpList_store_mid (by rfl) _ _ _ (by rfl) bb 0 (tenC (⟨n, q0, q1, -1 + q2, shl1 r - 1, q3, q4 == 0⟩ : Ten)).toArray (by go_simp) (by simp only [tenC]; go_simp) (hbk.there 0 7 (by decide)) tenSize (by simp [tenC, Value.oneCell']) ?_
        have hti := TIc.store inv iow.out hbk hle hfar (⟨n, q0, q1, -1 + q2, shl1 r - 1, q3, q4 == 0⟩ : Ten)
        refine hQ _ _ _ _ _ _ _ _ _ _ _ _ _ _ _ _ _ _ _ _ _ ?_
        exact ⟨bb, k4, (⟨n, q0, q1, -1 + q2, shl1 r - 1, q3, q4 == 0⟩ : Ten), rfl, by omega, (by simp [tenOk, inR]; omega), hti⟩
    · go_simp
      have hbk := Blk.new wq 60 #[.int .i64 0, .int .i64 0, .int .i64 0, .int .i64 0, .int .i64 0, .int .i64 0, .bool false]
      have hle := inv.sz
      have hfar : (Value.slice at_ l.length ct).ownBlock ≠ some wq.heap.size := fun e => by have := (iow.out.lt _ e).2; omega
      replace inv := inv.alloc (.cells #[.int .i64 0, .int .i64 0, .int .i64 0, .int .i64 0, .int .i64 0, .int .i64 0, .bool false] 60)
      have iow := Lib.hid (iow.out.alloc (.cells #[.int .i64 0, .int .i64 0, .int .i64 0, .int .i64 0, .int .i64 0, .int .i64 0, .bool false] 60))
      generalize wq.alloc (.cells #[.int .i64 0, .int .i64 0, .int .i64 0, .int .i64 0, .int .i64 0, .int .i64 0, .bool false] 60) = wb at *
      generalize wq.heap.size = bb at *
      refine ⟨inv.box.cell' rfl, ?_⟩
      refine wpSeqH_act rfl rfl ?_
      go_simp
      refine (mkNext_any _ A cap zs _ (4) _ (by omega) (by omega) (by omega) inv.tape).mono ?_
      rintro e wq ⟨q1, k1, hnq, rfl, htq, hgq⟩
      have iow := Lib.hid (own_grown iow.out hgq (by rintro k ⟨⟩; have := inv.gt; have := inv.gB; omega))
      have hbk := hbk.grown hgq (by intro e; injection e; have := inv.gt; have := inv.gB; omega)
      replace inv := inv.next htq hgq
      have ql1 := hnq.lo
      have qh1 := hnq.hi
      have qm1 := hnq.most
      clear htq hgq hnq
      refine ⟨inv.box.cell' rfl, ?_⟩
      refine wpSeqH_act rfl rfl ?_
      go_simp
      refine (mkRange_any _ A cap zs _ (-1) 3 _ (by omega) (by omega) (by omega) (by omega) inv.tape).mono ?_
      rintro e wq ⟨q2, k2, hnq, hq2, rfl, htq, hgq⟩
      have iow := Lib.hid (own_grown iow.out hgq (by rintro k ⟨⟩; have := inv.gt; have := inv.gB; omega))
      have hbk := hbk.grown hgq (by intro e; injection e; have := inv.gt; have := inv.gB; omega)
      replace inv := inv.next htq hgq
      have ql2 := hnq.lo
      have qh2 := hnq.hi
      have qm2 := hnq.most
      clear htq hgq hnq
      refine ⟨inv.box.cell' rfl, ?_⟩
      refine wpSeqH_act rfl rfl ?_
      go_simp
      refine (mkNext_any _ A cap zs _ (3) _ (by omega) (by omega) (by omega) inv.tape).mono ?_
      rintro e wq ⟨q3, k3, hnq, rfl, htq, hgq⟩
      have iow := Lib.hid (own_grown iow.out hgq (by rintro k ⟨⟩; have := inv.gt; have := inv.gB; omega))
      have hbk := hbk.grown hgq (by intro e; injection e; have := inv.gt; have := inv.gB; omega)
      replace inv := inv.next htq hgq
      have ql3 := hnq.lo
      have qh3 := hnq.hi
      have qm3 := hnq.most
      clear htq hgq hnq
      refine ⟨inv.box.cell' rfl, ?_⟩
      refine wpSeqH_act rfl rfl ?_
      go_simp
      refine (mkYes_any _ A cap zs _ (4) _ (by omega) (by omega) (by omega) inv.tape).mono ?_
      rintro e wq ⟨q4, k4, hnq, rfl, htq, hgq⟩
      have iow := Lib.hid (own_grown iow.out hgq (by rintro k ⟨⟩; have := inv.gt; have := inv.gB; omega))
      have hbk := hbk.grown hgq (by intro e; injection e; have := inv.gt; have := inv.gB; omega)
      replace inv := inv.next htq hgq
      have ql4 := hnq.lo
      have qh4 := hnq.hi
      have qm4 := hnq.most
      clear htq hgq hnq
      refine ⟨inv.box.cell' rfl, ?_⟩
      repeat (refine wpSeqH_fix _ ?_ rfl (by first | exact fun _ _ _ h => h | exact fun _ _ _ h => hpan _ _ _ _ _ h) (Or.inl ⟨by rfl, ?_⟩) ?_; rotate_left; (intro w' hSw; (try dsimp only at hSw); go_split_ands; go_simp; (try with_reducible rfl)); (simp only [List.getElem_toArray, List.getElem_cons_zero, List.getElem_cons_succ, Act.put, List.setIfInBounds_toArray, List.set_cons_zero, List.set_cons_succ]))
      refine wpSeqH_end ?_
      simp only [List.getElem_toArray, List.getElem_cons_zero, List.getElem_cons_succ, Act.put, List.setIfInBounds_toArray, List.set_cons_zero, List.set_cons_succ, thenK]
      refine wpList_store_mid (by rfl) _ _ _ (by rfl) bb 0 (tenC (⟨n, q0, q1, -1 + q2, shl1 r - 1, q3, q4 == 0⟩ : Ten)).toArray (by go_simp) (by simp only [tenC]; go_simp) (hbk.there 0 7 (by decide)) tenSize (by simp [tenC, Value.oneCell']) ?_
      have hti := TIc.store inv iow.out hbk hle hfar (⟨n, q0, q1, -1 + q2, shl1 r - 1, q3, q4 == 0⟩ : Ten)
      refine hQ _ _ _ _ _ _ _ _ _ _ _ _ _ _ _ _ _ _ _ _ _ ?_
      exact ⟨bb, k4, (⟨n, q0, q1, -1 + q2, shl1 r - 1, q3, q4 == 0⟩ : Ten), rfl, by omega, (by simp [tenOk, inR]; omega), hti⟩
  · go_simp
    have hbk := Blk.new wd 60 #[.int .i64 0, .int .i64 0, .int .i64 0, .int .i64 0, .int .i64 0, .int .i64 0, .bool false]
    have hle := inv.sz
    have hfar : (Value.slice at_ l.length ct).ownBlock ≠ some wd.heap.size := fun e => by have := (iow.out.lt _ e).2; omega
    replace inv := inv.alloc (.cells #[.int .i64 0, .int .i64 0, .int .i64 0, .int .i64 0, .int .i64 0, .int .i64 0, .bool false] 60)
    have iow := Lib.hid (iow.out.alloc (.cells #[.int .i64 0, .int .i64 0, .int .i64 0, .int .i64 0, .int .i64 0, .int .i64 0, .bool false] 60))
    generalize wd.alloc (.cells #[.int .i64 0, .int .i64 0, .int .i64 0, .int .i64 0, .int .i64 0, .int .i64 0, .bool false] 60) = wb at *
    generalize wd.heap.size = bb at *
    refine ⟨inv.box.cell' rfl, ?_⟩
    refine wpSeqH_act rfl rfl ?_
    go_simp
    refine (mkNext_any _ A cap zs _ (n + 1) _ (by omega) (by omega) (by omega) inv.tape).mono ?_
    rintro e wq ⟨q0, k0, hnq, rfl, htq, hgq⟩
    have iow := Lib.hid (own_grown iow.out hgq (by rintro k ⟨⟩; have := inv.gt; have := inv.gB; omega))
    have hbk := hbk.grown hgq (by intro e; injection e; have := inv.gt; have := inv.gB; omega)
    replace inv := inv.next htq hgq
    have ql0 := hnq.lo
    have qh0 := hnq.hi
    have qm0 := hnq.most
    clear htq hgq hnq
    refine ⟨inv.box.cell' rfl, ?_⟩
    refine wpSeqH_act rfl rfl ?_
    go_simp
    refine (mkNext_any _ A cap zs _ (4) _ (by omega) (by omega) (by omega) inv.tape).mono ?_
    rintro e wq ⟨q1, k1, hnq, rfl, htq, hgq⟩
    have iow := Lib.hid (own_grown iow.out hgq (by rintro k ⟨⟩; have := inv.gt; have := inv.gB; omega))
    have hbk := hbk.grown hgq (by intro e; injection e; have := inv.gt; have := inv.gB; omega)
    replace inv := inv.next htq hgq
    have ql1 := hnq.lo
    have qh1 := hnq.hi
    have qm1 := hnq.most
    clear htq hgq hnq
    refine ⟨inv.box.cell' rfl, ?_⟩
    refine wpSeqH_act rfl rfl ?_
    go_simp
    refine (mkRange_any _ A cap zs _ (-1) 3 _ (by omega) (by omega) (by omega) (by omega) inv.tape).mono ?_
    rintro e wq ⟨q2, k2, hnq, hq2, rfl, htq, hgq⟩
    have iow := Lib.hid (own_grown iow.out hgq (by rintro k ⟨⟩; have := inv.gt; have := inv.gB; omega))
    have hbk := hbk.grown hgq (by intro e; injection e; have := inv.gt; have := inv.gB; omega)
    replace inv := inv.next htq hgq
    have ql2 := hnq.lo
    have qh2 := hnq.hi
    have qm2 := hnq.most
    clear htq hgq hnq
    refine ⟨inv.box.cell' rfl, ?_⟩
    refine wpSeqH_act rfl rfl ?_
    go_simp
    refine (mkNext_any _ A cap zs _ (3) _ (by omega) (by omega) (by omega) inv.tape).mono ?_
    rintro e wq ⟨q3, k3, hnq, rfl, htq, hgq⟩
    have iow := Lib.hid (own_grown iow.out hgq (by rintro k ⟨⟩; have := inv.gt; have := inv.gB; omega))
    have hbk := hbk.grown hgq (by intro e; injection e; have := inv.gt; have := inv.gB; omega)
    replace inv := inv.next htq hgq
    have ql3 := hnq.lo
    have qh3 := hnq.hi
    have qm3 := hnq.most
    clear htq hgq hnq
    refine ⟨inv.box.cell' rfl, ?_⟩
    refine wpSeqH_act rfl rfl ?_
    go_simp
    refine (mkYes_any _ A cap zs _ (4) _ (by omega) (by omega) (by omega) inv.tape).mono ?_
    rintro e wq ⟨q4, k4, hnq, rfl, htq, hgq⟩
    have iow := Lib.hid (own_grown iow.out hgq (by rintro k ⟨⟩; have := inv.gt; have := inv.gB; omega))
    have hbk := hbk.grown hgq (by intro e; injection e; have := inv.gt; have := inv.gB; omega)
    replace inv := inv.next htq hgq
    have ql4 := hnq.lo
    have qh4 := hnq.hi
    have qm4 := hnq.most
    clear htq hgq hnq
    refine ⟨inv.box.cell' rfl, ?_⟩
    repeat (refine wpSeqH_fix _ ?_ rfl (by first | exact fun _ _ _ h => h | exact fun _ _ _ h => hpan _ _ _ _ _ h) (Or.inl ⟨by rfl, ?_⟩) ?_; rotate_left; (intro w' hSw; (try dsimp only at hSw); go_split_ands; go_simp; (try with_reducible rfl)); (simp only [List.getElem_toArray, List.getElem_cons_zero, List.getElem_cons_succ, Act.put, List.setIfInBounds_toArray, List.set_cons_zero, List.set_cons_succ]))
    refine wpSeqH_end ?_
    simp only [List.getElem_toArray, List.getElem_cons_zero, List.getElem_cons_succ, Act.put, List.setIfInBounds_toArray, List.set_cons_zero, List.set_cons_succ, thenK]
    refine wpList_store_mid (by rfl) _ _ _ (by rfl) bb 0 (tenC (⟨n, q0, q1, -1 + q2, shl1 r - 1, q3, q4 == 0⟩ : Ten)).toArray (by go_simp) (by simp only [tenC]; go_simp) (hbk.there 0 7 (by decide)) tenSize (by simp [tenC, Value.oneCell']) ?_
    have hti := TIc.store inv iow.out hbk hle hfar (⟨n, q0, q1, -1 + q2, shl1 r - 1, q3, q4 == 0⟩ : Ten)
    refine hQ _ _ _ _ _ _ _ _ _ _ _ _ _ _ _ _ _ _ _ _ _ ?_
    exact ⟨bb, k4, (⟨n, q0, q1, -1 + q2, shl1 r - 1, q3, q4 == 0⟩ : Ten), rfl, by omega, (by simp [tenOk, inR]; omega), hti⟩
end Go.Proofs.Ytnnpgbleacapfaa
