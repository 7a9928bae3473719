import Derived.Test.YtnnpgbleacapfaaPa05
import Derived.Laws.OwnMore
namespace Go.Proofs.Ytnnpgbleacapfaa
open Go.RowKit
set_option linter.unusedSimpArgs false
set_option linter.unusedVariables false

theorem BlkOk.fresh {C : Ctx} {ρ : Nat → Pl} {nx i : Nat} {w : World} {t : TypeId} {sz n : Nat} {el : Nat → List Value} {α : Type} {enc : α → List Value} {l : List α} (d : α) (h : BlkOk C ρ nx i w (.row t sz n el)) (ho : frT t = true) (hl : l.length = n) (he : ∀ k, k < n → el k = enc (l.getD k d)) (hs : ∀ x, (enc x).length = sz) (hpos : 0 < sz) :
    Rd w (fun b => C.w0.heap.size ≤ b ∧ b < w.heap.size) (ρ i).A (flat enc l) := by
  subst hl
  obtain ⟨h1, h2, h3⟩ := h
  have hb : BlkOk C ρ nx i w (.row t sz l.length (fun k => enc (l.getD k d))) := by
    refine ⟨h1, fun k hk => by have := h2 k hk; rw [he k hk] at this; exact this, h3.imp id ?_⟩
    rintro ⟨b, off, hA, hat, hc⟩
    exact ⟨b, off, hA, hat, fun k hk j v hv => hc k hk j v (by rw [he k hk]; exact hv)⟩
  refine rd_of_row hs hpos hb fun hne b off hA hlt => ?_
  rcases h3 with h0 | ⟨b2, off2, hA2, hat, -⟩
  · exact absurd h0 hne
  · rw [hA] at hA2
    cases hA2
    exact ⟨hat.new ho, hlt⟩
def cpl (x : CfgA) (c : Cfg) : Nat → Pl := fun j => match j with
  | 0 => ⟨x.az, 1, c.zones.length, false⟩
  | 1 => ⟨x.ac, 2, c.cells.length, false⟩
  | 2 => ⟨x.at_, 7, c.tenants.length, false⟩
  | 3 => ⟨x.av, 2, c.versions.length, false⟩
  | 4 => ⟨x.ar, 1, c.replicas.length, false⟩
  | _ => ⟨x.ao, 1, c.observers.length, false⟩
theorem getD_rep {α : Type} {n k : Nat} {a d : α} (h : k < n) : (List.replicate n a).getD k d = a := by
  rw [List.getD_eq_getElem?_getD, List.getElem?_replicate, if_pos h]; rfl
theorem stNew_calls (x : CfgA) (c : Cfg) (w : World) (hc : CfgOk w (· < w.heap.size) x c) (hnt : c.tenants.length ≤ 1000) (hnc : c.cells.length ≤ 1000) :
    Calls Try.prog 10 #[.agg (cfgC x c)] w fun e w' => ∃ y, e = .returned (.agg (stC y (stNew c))) ∧ StOk w' (fun b => w.heap.size ≤ b ∧ b < w'.heap.size) y (stNew c) ∧ Below w.heap.size w w' := by
  have hpc : CfgPl (cpl x c) CN1 x c := ⟨rfl, rfl, rfl, rfl, rfl, rfl⟩
  have hm : MemAt { w0 := w, bor := [], n0 := 6, ρ0 := cpl x c, nt := (Try.f10).ntmps } (cpl x c) (cfgM CN1 c) 6 w := MemAt.rows trivial (by
    have := cfg_blks (C := { w0 := w, bor := [], n0 := 6, ρ0 := cpl x c, nt := (Try.f10).ntmps }) (nx := 6) (r := []) hpc hc (fun b hb => hb) (by decide) trivial
    exact this)
  have hv0 : #[Value.agg (cfgC x c)] = ([cfgV CN1 ⟨x.cz, x.cc, x.ct, x.cv, x.cr, x.co⟩ c].map (den (cpl x c))).toArray := by
    rw [List.map_cons, den_cfg]
    rfl
  rw [hv0]
  refine (calls_sx ttOk ft_nil mixed Try.func10 rfl (D := newD) (by kernel_rfl) (vs := [cfgV CN1 ⟨x.cz, x.cc, x.ct, x.cv, x.cr, x.co⟩ c]) rfl ⟨rfl, rfl⟩ rfl hm (fun v hv => ?_) (new_sx _ c hnt hnc)).mono ?_
  · obtain rfl : v = _ := by simpa using hv
    intro u hu
    simp at hu
    rcases hu with rfl | rfl | rfl | rfl | rfl | rfl | rfl | rfl | rfl | rfl <;> first | trivial | exact ⟨by decide, rfl⟩
  · rintro e w' ⟨v, mem', nx', ρ', rfl, ⟨rfl, ⟨eT, hT, hT2⟩, ⟨eC, hC, hC2⟩⟩, hv, hm'⟩
    refine ⟨⟨(ρ' 8).A, c.tenants.length, (ρ' 9).A, c.cells.length⟩, ?_, ⟨?_, ?_⟩, ⟨hm'.rest.os, hm'.rest.tape, hm'.rest.output, hm'.rest.size, fun b hlt => hm'.rest.block b hlt (by simp)⟩⟩
    · simp [den, den2, den1, dA_whole, stC, stNew, newV]
    · exact (hm'.blk 8 _ hT).fresh (enc := tsC) (l := (stNew c).tenants) default rfl (by simp [stNew]) (fun k hk => by rw [hT2 k hk]; simp only [stNew]; rw [getD_rep hk]) (fun _ => rfl) (by omega)
    · exact (hm'.blk 9 _ hC).fresh (enc := csC) (l := (stNew c).cells) default rfl (by simp [stNew]) (fun k hk => by rw [hC2 k hk]; simp only [stNew]; rw [getD_rep hk]) (fun _ => rfl) (by omega)
def ctNewS : CT := fun vs mem nx K => ∃ N x c, vs = [cfgV N x c] ∧ keeps mem (cfgM N c) ∧ (c.tenants.length ≤ 1000 ∧ c.cells.length ≤ 1000) ∧ ∀ y, K (stV ⟨nx + 1, nx, 500000⟩ y (stNew c)) (stM ⟨nx + 1, nx, 500000⟩ (stNew c) ++ mem) (nx + 2)
theorem newSOk : CSound Try.prog 10 ctNewS := ⟨by kernel_rfl, fun {C ρ fr mem nx a w vs K} hc hs hv => by
  obtain ⟨N, x, c, rfl, hk, ⟨hnt, hnc⟩, hK⟩ := hc
  rw [List.map_cons, den_cfg]
  refine (stNew_calls (cfgX ρ N x) c w (hs.cfg hk (fun b h _ => h)) hnt hnc).mono ?_
  rintro e w' ⟨y, rfl, hst, hb⟩
  obtain ⟨q1, q2, q3, q4⟩ := hs.addSt hb hst
  exact ⟨_, _, _, _, by rw [q2], hK ⟨y.ct, y.cc⟩, q1, q3, q4⟩⟩
end Go.Proofs.Ytnnpgbleacapfaa

namespace Go.Proofs.Ytnnpgbleacapfaa
open Go.RowKit
set_option linter.unusedSimpArgs false
set_option linter.unusedVariables false

theorem zoneInfo : (Try.prog.info? 55).map (fun i => (i.zero, i.size, i.bytes)) = some (some (.agg #[.int .i64 0]), 1, 8) := by kernel_rfl
theorem cellInfo : (Try.prog.info? 57).map (fun i => (i.zero, i.size, i.bytes)) = some (some (.agg #[.int .i64 0, .int .i64 0]), 2, 16) := by kernel_rfl
theorem verInfo : (Try.prog.info? 36).map (fun i => (i.zero, i.size, i.bytes)) = some (some (.agg #[.int .i64 0, .int .i64 0]), 2, 16) := by kernel_rfl
theorem tenInfo : (Try.prog.info? 60).map (fun i => (i.zero, i.size, i.bytes)) = some (some (.agg #[.int .i64 0, .int .i64 0, .int .i64 0, .int .i64 0, .int .i64 0, .int .i64 0, .bool false]), 7, 56) := by kernel_rfl
theorem tenSize : (Try.prog.info? 60).map (·.size) = some 7 := by kernel_rfl
theorem cfgSize : (Try.prog.info? 30).map (·.size) = some 10 := by kernel_rfl
theorem intInfo : (Try.prog.info? 3).map (fun i => (i.zero, i.size, i.bytes)) = some (some (.int .i64 0), 1, 8) := by kernel_rfl

theorem Blk.size_lt {w : World} {g : Nat} {t : TypeId} {cs : Array Value} (h : Blk w g t cs) : g < w.heap.size := h.lt

/-- A configuration in the making: the tape, its box, what lies finished below B. -/
structure CI (w : World) (A : Option Addr) (cap : Nat) (zs : List Int) (g k : Nat) (c : Cfg) (x : CfgA) (c0 : Cfg) (B : Nat) (wr : World) : Prop where
  tape : TapeAt wr (w.heap.size + 1) A cap zs k
  box : Blk wr g 30 (cfgC x c)
  res : Blk wr w.heap.size 30 (cfgC ⟨none, 0, none, 0, none, 0, none, 0, none, 0, none, 0⟩ ⟨0, [], [], [], [], [], [], 0, 0, 0⟩)
  below : Below w.heap.size w wr
  gt : w.heap.size + 1 < g
  gB : g < B
  sz : B ≤ wr.heap.size
  ok : CfgOk wr (fun b => g < b ∧ b < B) x c0

section
variable {w : World} {A : Option Addr} {cap : Nat} {zs : List Int} {g k k' : Nat} {c c' c0 : Cfg} {x x' : CfgA} {B : Nat} {wr w1 : World}
theorem CI.grown (h : CI w A cap zs g k c x c0 B wr) {row : Option Nat} (hg : wr.grownBy w1 row) (hr : ∀ b, row = some b → B ≤ b) : CI w A cap zs g k c x c0 B w1 := by
  have h1 := h.gt
  have h2 := h.gB
  have h3 := h.sz
  have hne : ∀ b, b < B → some b ≠ row := fun b hb e => by have := hr b e.symm; omega
  exact ⟨h.tape.grown hg (fun b e => by have := hr b e; omega), h.box.grown hg (hne _ h2), h.res.grown hg (hne _ (by omega)), h.below.grown hg h.below.size (fun b e => by have := hr b e; omega), h1, h2, Nat.le_trans h3 hg.size,
    h.ok.keep fun b hb => hg.block b (by have := hb.2; omega) (hne b hb.2)⟩
theorem CI.next (h : CI w A cap zs g k c x c0 B wr) (ht : TapeAt w1 (w.heap.size + 1) A cap zs k') (hg : wr.grownBy w1 (some (w.heap.size + 1))) : CI w A cap zs g k' c x c0 B w1 := by
  have h1 := h.gt
  have h2 := h.gB
  have h3 := h.sz
  have hne : ∀ b, b ≠ w.heap.size + 1 → some b ≠ some (w.heap.size + 1) := fun b hb e => hb (by injection e)
  exact ⟨ht, h.box.grown hg (hne _ (by omega)), h.res.grown hg (hne _ (by omega)), h.below.grown hg h.below.size (by rintro k ⟨⟩; omega), h1, h2, Nat.le_trans h3 hg.size,
    h.ok.keep fun b hb => hg.block b (by have := hb.2; omega) (hne b (by have := hb.1; omega))⟩
theorem CI.set (h : CI w A cap zs g k c x c0 B wr) (i : Nat) (v : Value) (hbox : (cfgC x c).setIfInBounds i v = cfgC x' c') (hok : ∀ W S, CfgOk W S x c0 → CfgOk W S x' c0) : CI w A cap zs g k c' x' c0 B (wr.setCell ⟨g, i, none⟩ v) := by
  have h1 := h.gt
  have h2 := h.gB
  have h3 := h.sz
  have hb := h.box.set_ i v
  rw [hbox] at hb
  exact ⟨h.tape.keep fun b hb => Below.heap_setCell _ _ _ _ (by show b ≠ g; omega), hb, h.res.far (by show w.heap.size ≠ g; omega) _, h.below.setCell (by show _ ≤ g; omega) _, h1, h2, by simpa [World.setCell] using h3,
    (hok _ _ h.ok).keep fun b hb => Below.heap_setCell _ _ _ _ (by show b ≠ g; have := hb.1; omega)⟩
/-- A finished row joins what lies below. -/
theorem CI.up (h : CI w A cap zs g k c x c0 B wr) {B' : Nat} (hB : B ≤ B') (hs : B' ≤ wr.heap.size) {c1 : Cfg} (hok : CfgOk wr (fun b => g < b ∧ b < B') x c0 → CfgOk wr (fun b => g < b ∧ b < B') x c1) : CI w A cap zs g k c x c1 B' wr :=
  ⟨h.tape, h.box, h.res, h.below, h.gt, Nat.lt_of_lt_of_le h.gB hB, hs, hok (h.ok.more fun b hb => ⟨hb.1, Nat.lt_of_lt_of_le hb.2 hB⟩)⟩
end

theorem grown_drew1 (w : World) (row : Option Nat) : w.grownBy w.drew row := ⟨rfl, rfl, rfl, Nat.le_refl _, fun _ _ _ => rfl⟩
theorem flat_snoc {α : Type} (enc : α → List Value) (l : List α) (a : α) : flat enc l ++ enc a = flat enc (l ++ [a]) := by simp [flat]
theorem own_setFar {w : World} {base : Nat} {e : TypeId} {size : Nat} {v : Value} {n : Nat} {xs : List Value} (h : w.ownsRow base e size v n xs) {p : Addr} (hp : p.block < base) (u : Value) :
    (w.setCell p u).ownsRow base e size v n xs := by
  refine ⟨h.1, h.2.imp id ?_⟩
  rintro ⟨g, cap, cur, rfl, hb, hh, rest⟩
  refine ⟨g, cap, cur, rfl, hb, ?_, rest⟩
  rw [Below.heap_setCell w p u g (by omega)]
  exact hh

theorem shl1_pow (r : Int) (h1 : 1 ≤ r) (h2 : r ≤ 4) : IntKind.i64.wrap (2 ^ r.toNat) = shl1 r := by
  have hr : r = 1 ∨ r = 2 ∨ r = 3 ∨ r = 4 := by omega
  rcases hr with rfl | rfl | rfl | rfl <;> rfl
theorem shl1_pow1 (r : Int) (h1 : 1 ≤ r) (h2 : r ≤ 4) : wrap64 (wrap64 (2 ^ min r.toNat 64) - 1) = shl1 r - 1 := by
  have hr : r = 1 ∨ r = 2 ∨ r = 3 ∨ r = 4 := by omega
  rcases hr with rfl | rfl | rfl | rfl <;> simp [shl1] <;> (unfold wrap64; simp)
theorem shl1_bd (r : Int) : 2 ≤ shl1 r ∧ shl1 r ≤ 16 := by unfold shl1; repeat' split <;> omega
theorem own_grownNeC {w w' : World} {base : Nat} {e : TypeId} {size : Nat} {v : Value} {n : Nat} {xs : List Value} (h : w.ownsRow base e size v n xs) {row : Option Nat} (hg : w.grownBy w' row) (hr : ∀ k, row = some k → v.ownBlock ≠ some k) :
    w'.ownsRow base e size v n xs := by
  refine ⟨h.1, h.2.imp id ?_⟩
  rintro ⟨g, cap, cur, rfl, hb, hh, rest⟩
  refine ⟨g, cap, cur, rfl, hb, ?_, rest⟩
  rw [hg.block g (Blk.lt hh) (fun e => hr g e.symm rfl)]
  exact hh
def cf0 (r bl le ba : Int) : Cfg := ⟨r, [], [], [], [], [], [], bl, le, ba⟩
def xz (az : Option Addr) (cz : Nat) : CfgA := ⟨az, cz, none, 0, none, 0, none, 0, none, 0, none, 0⟩
/-- Behind the loop over the zones. -/
def AfterZones (w : World) (A : Option Addr) (cap : Nat) (zs : List Int) (g : Nat) (r bl le ba : Int) (wx : World) : Prop :=
  ∃ (k : Nat) (zl : List Int) (az : Option Addr) (cz : Nat), k ≤ 20 ∧ 1 ≤ zl.length ∧ zl.length ≤ 6 ∧ zl.all (fun z => inR z 0 (r - 1)) = true ∧
    CI w A cap zs g k { cf0 r bl le ba with zones := zl } (xz az cz) { cf0 r bl le ba with zones := zl } wx.heap.size wx

/-- Ahead of the box: the tape and the result's cell. -/
structure PI (w : World) (A : Option Addr) (cap : Nat) (zs : List Int) (k : Nat) (wr : World) : Prop where
  tape : TapeAt wr (w.heap.size + 1) A cap zs k
  res : Blk wr w.heap.size 30 (cfgC ⟨none, 0, none, 0, none, 0, none, 0, none, 0, none, 0⟩ ⟨0, [], [], [], [], [], [], 0, 0, 0⟩)
  below : Below w.heap.size w wr
theorem PI.next {w : World} {A : Option Addr} {cap : Nat} {zs : List Int} {k k' : Nat} {wr w1 : World} (h : PI w A cap zs k wr) (ht : TapeAt w1 (w.heap.size + 1) A cap zs k') (hg : wr.grownBy w1 (some (w.heap.size + 1))) : PI w A cap zs k' w1 :=
  ⟨ht, h.res.grown hg (by intro e; injection e; omega), h.below.grown hg h.below.size (by rintro k ⟨⟩; omega)⟩
theorem CI.new {w : World} {A : Option Addr} {cap : Nat} {zs : List Int} {k : Nat} {wr : World} (h : PI w A cap zs k wr) (r bl le ba : Int) :
    CI w A cap zs wr.heap.size k (cf0 r bl le ba) ⟨none, 0, none, 0, none, 0, none, 0, none, 0, none, 0⟩ (cf0 r bl le ba) (wr.heap.size + 1) (wr.alloc (.cells (cfgC ⟨none, 0, none, 0, none, 0, none, 0, none, 0, none, 0⟩ (cf0 r bl le ba)) 30)) :=
  ⟨h.tape.alloc _, Blk.new _ _ _, h.res.alloc _, h.below.alloc h.below.size _, h.tape.lt, Nat.lt_succ_self _, by simp,
    ⟨fun h => absurd rfl h, fun h => absurd rfl h, fun h => absurd rfl h, fun h => absurd rfl h, fun h => absurd rfl h, fun h => absurd rfl h⟩⟩

def ZRel (w : World) (A : Option Addr) (cap : Nat) (zs : List Int) (g : Nat) (r bl le ba : Int) (B gk : Nat) (si : Value) (wr : World) : Prop :=
  ∃ (l : List Int) (az : Option Addr) (cz k : Nat), gk + l.length = 7 ∧ l.length ≤ 6 ∧ k ≤ 4 + l.length ∧ si = .int .i64 l.length ∧ l.all (fun z => inR z 0 (r - 1)) = true ∧
    CI w A cap zs g k { cf0 r bl le ba with zones := l } (xz az cz) (cf0 r bl le ba) B wr ∧ wr.ownsRow B 55 1 (.slice az l.length cz) l.length (flat intC l)

def CRel (w : World) (A : Option Addr) (cap : Nat) (zs : List Int) (g : Nat) (r bl le ba : Int) (zl : List Int) (az : Option Addr) (cz B gk : Nat) (si : Value) (wr : World) : Prop :=
  ∃ (l : List (Int × Int)) (ac : Option Addr) (cc k : Nat), gk + l.length = 8 ∧ l.length ≤ 7 ∧ k ≤ 20 + 2 * l.length ∧ si = .int .i64 l.length ∧ l.all (fun y => inR y.1 0 (zl.length - 1) && inR y.2 1 40) = true ∧
    CI w A cap zs g k ⟨r, zl, l, [], [], [], [], bl, le, ba⟩ ⟨az, cz, ac, cc, none, 0, none, 0, none, 0, none, 0⟩ ⟨r, zl, [], [], [], [], [], bl, le, ba⟩ B wr ∧ wr.ownsRow B 57 2 (.slice ac l.length cc) l.length (flat pairC l)
def AfterCells (w : World) (A : Option Addr) (cap : Nat) (zs : List Int) (g : Nat) (r bl le ba : Int) (zl : List Int) (wx : World) : Prop :=
  ∃ (k : Nat) (cl : List (Int × Int)) (az : Option Addr) (cz : Nat) (ac : Option Addr) (cc : Nat), k ≤ 40 ∧ 1 ≤ cl.length ∧ cl.length ≤ 7 ∧ cl.all (fun y => inR y.1 0 (zl.length - 1) && inR y.2 1 40) = true ∧
    CI w A cap zs g k ⟨r, zl, cl, [], [], [], [], bl, le, ba⟩ ⟨az, cz, ac, cc, none, 0, none, 0, none, 0, none, 0⟩ ⟨r, zl, cl, [], [], [], [], bl, le, ba⟩ wx.heap.size wx

def TRel (w : World) (A : Option Addr) (cap : Nat) (zs : List Int) (g : Nat) (r bl le ba : Int) (zl : List Int) (cl : List (Int × Int)) (az : Option Addr) (cz : Nat) (ac : Option Addr) (cc B gk : Nat) (si : Value) (wr : World) : Prop :=
  ∃ (l : List Ten) (at_ : Option Addr) (ct k : Nat), gk + l.length ≤ 5 ∧ k ≤ 41 + 10 * l.length ∧ si = .int .i64 gk ∧ l.all (tenOk r) = true ∧
    CI w A cap zs g k ⟨r, zl, cl, l, [], [], [], bl, le, ba⟩ ⟨az, cz, ac, cc, at_, ct, none, 0, none, 0, none, 0⟩ ⟨r, zl, cl, [], [], [], [], bl, le, ba⟩ B wr ∧ wr.ownsRow B 60 7 (.slice at_ l.length ct) l.length (flat tenC l)
def AfterTens (w : World) (A : Option Addr) (cap : Nat) (zs : List Int) (g : Nat) (r bl le ba : Int) (zl : List Int) (cl : List (Int × Int)) (wx : World) : Prop :=
  ∃ (k : Nat) (tl : List Ten) (az : Option Addr) (cz : Nat) (ac : Option Addr) (cc : Nat) (at_ : Option Addr) (ct : Nat), k ≤ 100 ∧ tl.length ≤ 5 ∧ tl.all (tenOk r) = true ∧
    CI w A cap zs g k ⟨r, zl, cl, tl, [], [], [], bl, le, ba⟩ ⟨az, cz, ac, cc, at_, ct, none, 0, none, 0, none, 0⟩ ⟨r, zl, cl, tl, [], [], [], bl, le, ba⟩ wx.heap.size wx

theorem CI.alloc {w : World} {A : Option Addr} {cap : Nat} {zs : List Int} {g k : Nat} {c c0 : Cfg} {x : CfgA} {B : Nat} {wr : World} (h : CI w A cap zs g k c x c0 B wr) (o : Obj) : CI w A cap zs g k c x c0 B (wr.alloc o) :=
  h.grown (grown_alloc (grown_refl wr none) o) (by rintro _ ⟨⟩)
/-- A tenant in a box of its own, beside what is made. -/
structure TIc (w : World) (A : Option Addr) (cap : Nat) (zs : List Int) (g k : Nat) (c : Cfg) (x : CfgA) (c0 : Cfg) (B b : Nat) (t : Ten) (v : Value) (n : Nat) (xs : List Value) (wr : World) : Prop where
  ci : CI w A cap zs g k c x c0 B wr
  own : wr.ownsRow B 60 7 v n xs
  blk : Blk wr b 60 (tenC t).toArray
  le : B ≤ b
  far : v.ownBlock ≠ some b
theorem TIc.next {w : World} {A : Option Addr} {cap : Nat} {zs : List Int} {g k k' : Nat} {c c0 : Cfg} {x : CfgA} {B b : Nat} {t : Ten} {v : Value} {n : Nat} {xs : List Value} {wr w1 : World} (h : TIc w A cap zs g k c x c0 B b t v n xs wr)
    (ht : TapeAt w1 (w.heap.size + 1) A cap zs k') (hg : wr.grownBy w1 (some (w.heap.size + 1))) : TIc w A cap zs g k' c x c0 B b t v n xs w1 := by
  have h1 := h.ci.gt
  have h2 := h.ci.gB
  have h3 := h.le
  exact ⟨h.ci.next ht hg, own_grown h.own hg (by rintro k ⟨⟩; omega), h.blk.grown hg (by intro e; injection e; omega), h.le, h.far⟩
theorem TIc.setAllowed {w : World} {A : Option Addr} {cap : Nat} {zs : List Int} {g k : Nat} {c c0 : Cfg} {x : CfgA} {B b : Nat} {t : Ten} {v : Value} {n : Nat} {xs : List Value} {wr : World} (h : TIc w A cap zs g k c x c0 B b t v n xs wr) (m : Int) :
    TIc w A cap zs g k c x c0 B b { t with allowed := m } v n xs (wr.setCell ⟨b, 4, none⟩ (.int .i64 m)) :=
  ⟨h.ci.grown (grown_set (grown_refl _ _) _ _) (by rintro _ ⟨⟩; exact h.le), own_grownNeC h.own (grown_set (grown_refl _ _) _ _) (by rintro _ ⟨⟩; exact h.far), by simpa [tenC] using h.blk.set_ 4 (.int .i64 m), h.le, h.far⟩
theorem tenOk_allowed {r : Int} {t : Ten} {m : Int} (h : tenOk r t = true) (h1 : 1 ≤ m) (h2 : m ≤ shl1 r - 1) : tenOk r { t with allowed := m } = true := by
  simp [tenOk, inR] at h ⊢
  omega
theorem putL7 (z0 z1 z2 z3 z4 z5 z6 v0 v1 v2 v3 v4 v5 v6 : Value) : putL #[z0, z1, z2, z3, z4, z5, z6] 0 [v0, v1, v2, v3, v4, v5, v6] = #[v0, v1, v2, v3, v4, v5, v6] := by simp [putL]
theorem TIc.store {w : World} {A : Option Addr} {cap : Nat} {zs : List Int} {g k : Nat} {c c0 : Cfg} {x : CfgA} {B b : Nat} {v : Value} {n : Nat} {xs : List Value} {wr : World} {z0 z1 z2 z3 z4 z5 z6 : Value} (h : CI w A cap zs g k c x c0 B wr)
    (ho : wr.ownsRow B 60 7 v n xs) (hb : Blk wr b 60 #[z0, z1, z2, z3, z4, z5, z6]) (hle : B ≤ b) (hf : v.ownBlock ≠ some b) (t : Ten) : TIc w A cap zs g k c x c0 B b t v n xs (wr.setCells b 0 (tenC t)) :=
  ⟨h.grown (grown_setCells _ 0 (grown_refl _ _)) (by rintro _ ⟨⟩; exact hle), own_grownNeC ho (grown_setCells _ 0 (grown_refl _ _)) (by rintro _ ⟨⟩; exact hf), (by have := Blk.setCells (tenC t) 0 hb; rwa [tenC, putL7] at this), hle, hf⟩
def TenCut (w : World) (A : Option Addr) (cap : Nat) (zs : List Int) (g k : Nat) (r : Int) (c : Cfg) (x : CfgA) (c0 : Cfg) (B : Nat) (v : Value) (n : Nat) (xs : List Value) (s9 : Value) (wr : World) : Prop :=
  ∃ (b k' : Nat) (t : Ten), s9 = .pointer (some ⟨b, 0, none⟩) ∧ k' ≤ k ∧ tenOk r t = true ∧ TIc w A cap zs g k' c x c0 B b t v n xs wr

def VRel (w : World) (A : Option Addr) (cap : Nat) (zs : List Int) (g : Nat) (r bl le ba : Int) (zl : List Int) (cl : List (Int × Int)) (tl : List Ten) (az : Option Addr) (cz : Nat) (ac : Option Addr) (cc : Nat) (at_ : Option Addr) (ct B gk : Nat) (si : Value) (wr : World) : Prop :=
  ∃ (l : List (Int × Int)) (av : Option Addr) (cv k : Nat), gk + l.length ≤ 3 ∧ 1 ≤ l.length ∧ k ≤ 105 + 10 * l.length ∧ si = .int .i64 gk ∧ versOk l = true ∧
    CI w A cap zs g k ⟨r, zl, cl, tl, l, [], [], bl, le, ba⟩ ⟨az, cz, ac, cc, at_, ct, av, cv, none, 0, none, 0⟩ ⟨r, zl, cl, tl, [], [], [], bl, le, ba⟩ B wr ∧ wr.ownsRow B 36 2 (.slice av l.length cv) l.length (flat pairC l)
def AfterVers (w : World) (A : Option Addr) (cap : Nat) (zs : List Int) (g : Nat) (r bl le ba : Int) (zl : List Int) (cl : List (Int × Int)) (tl : List Ten) (wx : World) : Prop :=
  ∃ (k : Nat) (vl : List (Int × Int)) (az : Option Addr) (cz : Nat) (ac : Option Addr) (cc : Nat) (at_ : Option Addr) (ct : Nat) (av : Option Addr) (cv : Nat), k ≤ 150 ∧ 1 ≤ vl.length ∧ vl.length ≤ 3 ∧ versOk vl = true ∧
    CI w A cap zs g k ⟨r, zl, cl, tl, vl, [], [], bl, le, ba⟩ ⟨az, cz, ac, cc, at_, ct, av, cv, none, 0, none, 0⟩ ⟨r, zl, cl, tl, vl, [], [], bl, le, ba⟩ wx.heap.size wx

theorem versOk_snoc {l : List (Int × Int)} {lo hi : Int} (h : versOk l = true) (h1 : 1 ≤ l.length) (a : 0 ≤ lo) (b : lo ≤ hi) (d : hi ≤ 30) : versOk (l ++ [(lo, hi)]) = true := by
  unfold versOk at *
  rw [List.all_eq_true] at *
  intro i hi'
  rw [List.mem_range, List.length_append] at hi'
  simp at hi'
  by_cases hlt : i < l.length
  · have := h i (List.mem_range.2 hlt)
    rw [List.getElem?_append_left hlt]
    exact this
  · obtain rfl : i = l.length := by omega
    have hne : l ≠ [] := by rintro rfl; simp at h1
    simp [verOk, hne]
    omega
/-- A configuration as Config makes it. -/
structure MadeCfg (c : Cfg) : Prop where
  valid : cfgErr c = 0
  regions : 1 ≤ c.regions ∧ c.regions ≤ 3
  zones : 1 ≤ c.zones.length ∧ c.zones.length ≤ 6
  cells : 1 ≤ c.cells.length ∧ c.cells.length ≤ 7
  tenants : c.tenants.length ≤ 5
  versions : 1 ≤ c.versions.length ∧ c.versions.length ≤ 3
  replicas : c.replicas.length = 1 ∨ c.replicas.length = 3
  observers : 1 ≤ c.observers.length ∧ c.observers.length ≤ 4
  blast : 1 ≤ c.blast ∧ c.blast ≤ 3
  lease : 2 ≤ c.lease ∧ c.lease ≤ 12
  bake : 0 ≤ c.bake ∧ c.bake ≤ 8
  caps : c.cells.all (fun y => inR y.1 0 (c.zones.length - 1) && inR y.2 1 40) = true
theorem madeCfg_of (r bl le ba : Int) (zl : List Int) (cl : List (Int × Int)) (tl : List Ten) (vl : List (Int × Int)) (rl ol : List Int) (h1 : 1 ≤ r ∧ r ≤ 3) (h2 : 1 ≤ zl.length ∧ zl.length ≤ 6) (h3 : 1 ≤ cl.length ∧ cl.length ≤ 7)
    (h4 : tl.length ≤ 5) (h5 : 1 ≤ vl.length ∧ vl.length ≤ 3) (a1 : zl.all (fun z => inR z 0 (r - 1)) = true) (a2 : cl.all (fun y => inR y.1 0 (zl.length - 1) && inR y.2 1 40) = true) (a3 : tl.all (tenOk r) = true) (a4 : versOk vl = true)
    (a5 : rl.all (fun z => inR z 0 (zl.length - 1)) = true) (a6 : ol.all (fun z => inR z 0 (zl.length - 1)) = true) (h6 : rl.length = 1 ∨ rl.length = 3) (h7 : 1 ≤ ol.length ∧ ol.length ≤ 4) (h8 : 1 ≤ bl ∧ bl ≤ 3) (h9 : 2 ≤ le ∧ le ≤ 12) (h10 : 0 ≤ ba ∧ ba ≤ 8) :
    MadeCfg ⟨r, zl, cl, tl, vl, rl, ol, bl, le, ba⟩ := by
  refine ⟨?_, h1, h2, h3, h4, h5, h6, h7, h8, h9, h10, a2⟩
  have b1 : cl.all (fun y => inR y.1 0 (zl.length - 1)) = true := by
    rw [List.all_eq_true] at a2 ⊢
    exact fun y hy => (Bool.and_eq_true _ _ ▸ a2 y hy).1
  have b2 : cl.all (fun y => inR y.2 1 4194304) = true := by
    rw [List.all_eq_true] at a2 ⊢
    intro y hy
    have := (Bool.and_eq_true _ _ ▸ a2 y hy).2
    simp [inR] at this ⊢
    omega
  have l1 : limitsB ⟨r, zl, cl, tl, vl, rl, ol, bl, le, ba⟩ = true := by simp [limitsB, inR]; omega
  have l2 : placesB ⟨r, zl, cl, tl, vl, rl, ol, bl, le, ba⟩ = true := by unfold placesB; rw [a1, b1, a5, a6]; rfl
  have l3 : valuesB ⟨r, zl, cl, tl, vl, rl, ol, bl, le, ba⟩ = true := by
    unfold valuesB
    rw [b2, a4]
    simp [inR]
    omega
  have l4 : ¬ rl.length % 2 = 0 := by omega
  have l5 : topoErr ⟨r, zl, cl, tl, vl, rl, ol, bl, le, ba⟩ = 0 := by simp [topoErr, l1, l2, l3, l4]
  simp only [cfgErr, l5, a3]
  rfl
/-- What Config answers: a configuration in new memory. -/
def CfgPost (w : World) (e : Ending) (w' : World) : Prop :=
  ∃ (x : CfgA) (c : Cfg), e = .returned (.agg (cfgC x c)) ∧ CfgOk w' (fun b => w.heap.size ≤ b ∧ b < w'.heap.size) x c ∧ MadeCfg c ∧ Below w.heap.size w w'
def RRel (w : World) (A : Option Addr) (cap : Nat) (zs : List Int) (g : Nat) (r bl le ba : Int) (zl : List Int) (cl : List (Int × Int)) (tl : List Ten) (vl : List (Int × Int)) (az : Option Addr) (cz : Nat) (ac : Option Addr) (cc : Nat) (at_ : Option Addr) (ct : Nat) (av : Option Addr) (cv B n0 gk : Nat) (si : Value) (wr : World) : Prop :=
  ∃ (l : List Int) (ar : Option Addr) (cr k : Nat), gk + l.length = n0 ∧ k ≤ 155 + 10 * l.length ∧ si = .int .i64 gk ∧ l.all (fun z => inR z 0 (zl.length - 1)) = true ∧
    CI w A cap zs g k ⟨r, zl, cl, tl, vl, l, [], bl, le, ba⟩ ⟨az, cz, ac, cc, at_, ct, av, cv, ar, cr, none, 0⟩ ⟨r, zl, cl, tl, vl, [], [], bl, le, ba⟩ B wr ∧ wr.ownsRow B 3 1 (.slice ar l.length cr) l.length (flat intC l)
def AfterReps (w : World) (A : Option Addr) (cap : Nat) (zs : List Int) (g : Nat) (r bl le ba : Int) (zl : List Int) (cl : List (Int × Int)) (tl : List Ten) (vl : List (Int × Int)) (n0 : Nat) (wx : World) : Prop :=
  ∃ (k : Nat) (rl : List Int) (az : Option Addr) (cz : Nat) (ac : Option Addr) (cc : Nat) (at_ : Option Addr) (ct : Nat) (av : Option Addr) (cv : Nat) (ar : Option Addr) (cr : Nat), k ≤ 200 ∧ rl.length = n0 ∧ rl.all (fun z => inR z 0 (zl.length - 1)) = true ∧
    CI w A cap zs g k ⟨r, zl, cl, tl, vl, rl, [], bl, le, ba⟩ ⟨az, cz, ac, cc, at_, ct, av, cv, ar, cr, none, 0⟩ ⟨r, zl, cl, tl, vl, rl, [], bl, le, ba⟩ wx.heap.size wx
def ORel (w : World) (A : Option Addr) (cap : Nat) (zs : List Int) (g : Nat) (r bl le ba : Int) (zl : List Int) (cl : List (Int × Int)) (tl : List Ten) (vl : List (Int × Int)) (rl : List Int) (az : Option Addr) (cz : Nat) (ac : Option Addr) (cc : Nat) (at_ : Option Addr) (ct : Nat) (av : Option Addr) (cv : Nat) (ar : Option Addr) (cr : Nat) (B n0 gk : Nat) (si : Value) (wr : World) : Prop :=
  ∃ (l : List Int) (ao : Option Addr) (co k : Nat), gk + l.length = n0 ∧ k ≤ 205 + 10 * l.length ∧ si = .int .i64 gk ∧ l.all (fun z => inR z 0 (zl.length - 1)) = true ∧
    CI w A cap zs g k ⟨r, zl, cl, tl, vl, rl, l, bl, le, ba⟩ ⟨az, cz, ac, cc, at_, ct, av, cv, ar, cr, ao, co⟩ ⟨r, zl, cl, tl, vl, rl, [], bl, le, ba⟩ B wr ∧ wr.ownsRow B 3 1 (.slice ao l.length co) l.length (flat intC l)
def AfterObs (w : World) (A : Option Addr) (cap : Nat) (zs : List Int) (g : Nat) (r bl le ba : Int) (zl : List Int) (cl : List (Int × Int)) (tl : List Ten) (vl : List (Int × Int)) (rl : List Int) (n0 : Nat) (wx : World) : Prop :=
  ∃ (k : Nat) (ol : List Int) (x : CfgA), ol.length = n0 ∧ ol.all (fun z => inR z 0 (zl.length - 1)) = true ∧
    CI w A cap zs g k ⟨r, zl, cl, tl, vl, rl, ol, bl, le, ba⟩ x ⟨r, zl, cl, tl, vl, rl, ol, bl, le, ba⟩ wx.heap.size wx

end Go.Proofs.Ytnnpgbleacapfaa
