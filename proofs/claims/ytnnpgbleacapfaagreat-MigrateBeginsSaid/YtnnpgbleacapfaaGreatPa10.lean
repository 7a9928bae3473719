import Derived.Test.YtnnpgbleacapfaaGreatPa06
import Derived.Test.YtnnpgbleacapfaaGreatPa09
namespace Go.Proofs.YtnnpgbleacapfaaGreat
open Go.RowKit
set_option linter.unusedSimpArgs false
set_option linter.unusedVariables false

section
variable {C : Ctx} {ρ : Nat → Pl} {fr : AF} {mem : AM} {nx : Nat} {a : Act} {w w' : World}
def cfgPl (ρ : Nat → Pl) (nx : Nat) (x : CfgA) (c : Cfg) : Nat → Pl :=
  setPl (setPl (setPl (setPl (setPl (setPl ρ nx ⟨x.ao, 1, c.observers.length, false⟩) (nx + 1) ⟨x.ar, 1, c.replicas.length, false⟩) (nx + 2) ⟨x.av, 2, c.versions.length, false⟩) (nx + 3) ⟨x.at_, 7, c.tenants.length, false⟩) (nx + 4) ⟨x.ac, 2, c.cells.length, false⟩) (nx + 5) ⟨x.az, 1, c.zones.length, false⟩
/-- A configuration that the callee has made. -/
theorem Sat.addCfg (h0 : Sat C ρ fr mem nx a w) (hb : Below w.heap.size w w') {x : CfgA} {c : Cfg} (hc : CfgOk w' (fun b => w.heap.size ≤ b ∧ b < w'.heap.size) x c) :
    Sat C (cfgPl ρ nx x c) fr (cfgM ⟨nx + 5, nx + 4, nx + 3, nx + 2, nx + 1, nx, 500000⟩ c ++ mem) (nx + 6) a w' ∧ den (cfgPl ρ nx x c) (cfgV ⟨nx + 5, nx + 4, nx + 3, nx + 2, nx + 1, nx, 500000⟩ ⟨x.cz, x.cc, x.ct, x.cv, x.cr, x.co⟩ c) = .agg (cfgC x c) ∧ okV (cfgPl ρ nx x c) (nx + 6) (cfgV ⟨nx + 5, nx + 4, nx + 3, nx + 2, nx + 1, nx, 500000⟩ ⟨x.cz, x.cc, x.ct, x.cv, x.cr, x.co⟩ c) ∧ ExtS ρ nx (cfgPl ρ nx x c) (nx + 6) := by
  obtain ⟨h1, f1⟩ := (h0.later hb).addList h0.frB h0.rest.size (enc := intC) (sz := 1) (fun _ => rfl) (by omega) intC_plain 0 (t := 500000) rfl hc.observers
  obtain ⟨h2, f2⟩ := h1.addList f1 h0.rest.size (enc := intC) (sz := 1) (fun _ => rfl) (by omega) intC_plain 0 (t := 500000) rfl hc.replicas
  obtain ⟨h3, f3⟩ := h2.addList f2 h0.rest.size (enc := pairC) (sz := 2) (fun _ => rfl) (by omega) pairC_plain (0, 0) (t := 500000) rfl hc.versions
  obtain ⟨h4, f4⟩ := h3.addList f3 h0.rest.size (enc := tenC) (sz := 7) (fun _ => rfl) (by omega) tenC_plain default (t := 500000) rfl hc.tenants
  obtain ⟨h5, f5⟩ := h4.addList f4 h0.rest.size (enc := pairC) (sz := 2) (fun _ => rfl) (by omega) pairC_plain (0, 0) (t := 500000) rfl hc.cells
  obtain ⟨h6, -⟩ := h5.addList f5 h0.rest.size (enc := intC) (sz := 1) (fun _ => rfl) (by omega) intC_plain 0 (t := 500000) rfl hc.zones
  have q5 : cfgPl ρ nx x c (nx + 5) = ⟨x.az, 1, c.zones.length, false⟩ := setPl_same _ _ _
  have q4 : cfgPl ρ nx x c (nx + 4) = ⟨x.ac, 2, c.cells.length, false⟩ := by unfold cfgPl; rw [setPl_lt _ _ (by omega), setPl_same]
  have q3 : cfgPl ρ nx x c (nx + 3) = ⟨x.at_, 7, c.tenants.length, false⟩ := by unfold cfgPl; rw [setPl_lt _ _ (by omega), setPl_lt _ _ (by omega), setPl_same]
  have q2 : cfgPl ρ nx x c (nx + 2) = ⟨x.av, 2, c.versions.length, false⟩ := by unfold cfgPl; rw [setPl_lt _ _ (by omega), setPl_lt _ _ (by omega), setPl_lt _ _ (by omega), setPl_same]
  have q1 : cfgPl ρ nx x c (nx + 1) = ⟨x.ar, 1, c.replicas.length, false⟩ := by unfold cfgPl; rw [setPl_lt _ _ (by omega), setPl_lt _ _ (by omega), setPl_lt _ _ (by omega), setPl_lt _ _ (by omega), setPl_same]
  have q0 : cfgPl ρ nx x c nx = ⟨x.ao, 1, c.observers.length, false⟩ := by unfold cfgPl; rw [setPl_lt _ _ (by omega), setPl_lt _ _ (by omega), setPl_lt _ _ (by omega), setPl_lt _ _ (by omega), setPl_lt _ _ (by omega), setPl_same]
  refine ⟨h6, ?_, ?_, fun i hi => ?_, by omega⟩
  · rw [den_cfg]
    congr 2
    simp [cfgX, q0, q1, q2, q3, q4, q5]
  · intro u hu
    simp at hu
    rcases hu with rfl | rfl | rfl | rfl | rfl | rfl | rfl | rfl | rfl | rfl <;> first | trivial | exact ⟨show nx + 5 < nx + 6 by omega, by rw [q5]⟩ | exact ⟨show nx + 4 < nx + 6 by omega, by rw [q4]⟩ | exact ⟨show nx + 3 < nx + 6 by omega, by rw [q3]⟩ | exact ⟨show nx + 2 < nx + 6 by omega, by rw [q2]⟩ | exact ⟨show nx + 1 < nx + 6 by omega, by rw [q1]⟩ | exact ⟨show nx < nx + 6 by omega, by rw [q0]⟩
  · unfold cfgPl
    rw [setPl_lt _ _ (by omega), setPl_lt _ _ (by omega), setPl_lt _ _ (by omega), setPl_lt _ _ (by omega), setPl_lt _ _ (by omega), setPl_lt _ _ hi]
end
theorem flat_ints : ∀ zs : List Int, flat intC zs = zs.map (Value.int .i64)
  | [] => rfl
  | z :: r => by simp only [flat, List.flatMap_cons, List.map_cons]; rw [show r.flatMap intC = flat intC r from rfl, flat_ints r]; rfl
def ctConfig : CT := fun vs mem nx K => ∃ i cap zs, vs = [slc i (zs : List Int).length cap] ∧ lk mem i = some (intRow zs) ∧ zs.length ≤ 400 ∧ ∀ x c, MadeCfg c → K (cfgV ⟨nx + 5, nx + 4, nx + 3, nx + 2, nx + 1, nx, 500000⟩ x c) (cfgM ⟨nx + 5, nx + 4, nx + 3, nx + 2, nx + 1, nx, 500000⟩ c ++ mem) (nx + 6)
theorem configOk : CSound Tryz.prog 29 ctConfig := ⟨by kernel_rfl, fun {C ρ fr mem nx a w vs K} hc hs hv => by
  obtain ⟨i, cap, zs, rfl, hi, hz, hK⟩ := hc
  have hr : Rd w (· < w.heap.size) (ρ i).A (zs.map (Value.int .i64)) := by
    rw [← flat_ints]
    exact hs.rd (enc := intC) (sz := 1) (fun _ => rfl) (by omega) hi (fun b h _ => h)
  have e : ([slc i zs.length cap].map (den ρ)).toArray = #[.slice (ρ i).A zs.length cap] := by simp [den, den2, den1, dA_whole]
  rw [e]
  refine (mkConfig_any (ρ i).A cap zs w hz hr).mono ?_
  rintro e w' ⟨x, c, rfl, hok, hM, hb⟩
  obtain ⟨q1, q2, q3, q4⟩ := hs.addCfg hb hok
  exact ⟨_, _, _, _, by rw [q2], hK _ c hM, q1, q3, q4⟩⟩
end Go.Proofs.YtnnpgbleacapfaaGreat

namespace Go.Proofs.YtnnpgbleacapfaaGreat
open Go.RowKit
set_option linter.unusedSimpArgs false
set_option linter.unusedVariables false

/-- A list lies in a row, which may be longer. -/
def HasRow {α : Type} (mem : AM) (r sz : Nat) (enc : α → List Value) (d : α) (l : List α) : Prop := ∃ t n el, lk mem r = some (.row t sz n el) ∧ l.length ≤ n ∧ ∀ k, k < l.length → el k = enc (l.getD k d)
theorem BlkOk.rdOf {C : Ctx} {ρ : Nat → Pl} {nx i : Nat} {w : World} {t : TypeId} {sz n : Nat} {el : Nat → List Value} {α : Type} {enc : α → List Value} {l : List α} {d : α} (h : BlkOk C ρ nx i w (.row t sz n el)) (hl : l.length ≤ n) (he : ∀ k, k < l.length → el k = enc (l.getD k d)) (hs : ∀ x, (enc x).length = sz) (hpos : 0 < sz) {S : Nat → Prop} (hS : l.length ≠ 0 → ∀ b off, (ρ i).A = some ⟨b, off, none⟩ → RowA C.w0.heap.size w t b off → S b) : Rd w S (ρ i).A (flat enc l) := by
  obtain ⟨-, -, h3⟩ := h
  intro hne
  have hl0 : l.length ≠ 0 := by
    intro h0
    rw [List.eq_nil_of_length_eq_zero h0] at hne
    exact hne rfl
  rcases h3 with h0 | ⟨b, off, hA, hlt, hc⟩
  · omega
  · refine ⟨b, off, hA, hS hl0 b off hA hlt, fun j v hv => ?_⟩
    obtain ⟨x, h1, h2⟩ := flat_at hs hpos l j v hv
    have hk : j / sz < l.length := (List.getElem?_eq_some_iff.1 h1).1
    have hx : l.getD (j / sz) d = x := by rw [List.getD_eq_getElem?_getD, h1]; rfl
    have := hc (j / sz) (by omega) (j % sz) v (by rw [he _ hk, hx]; exact h2)
    rw [← this]
    congr 2
    have := Nat.div_add_mod j sz
    rw [Nat.mul_comm] at this
    omega
theorem Sat.hasRd {C : Ctx} {ρ : Nat → Pl} {fr : AF} {mem : AM} {nx : Nat} {a : Act} {w : World} (h : Sat C ρ fr mem nx a w) {α : Type} {enc : α → List Value} {sz : Nat} (hsz : ∀ x, (enc x).length = sz) (hpos : 0 < sz) {l : List α} {d : α} {i : Nat} (hi : HasRow mem i sz enc d l) : Rd w (· < w.heap.size) (ρ i).A (flat enc l) := by
  obtain ⟨t, n, el, h1, h2, h3⟩ := hi
  exact (h.blk i _ (lk_app h1)).rdOf h2 h3 hsz hpos fun _ b off _ hr => hr.lt
/-- A list lies in a row that the call has made. -/
def NewRow {α : Type} (mem : AM) (r sz : Nat) (enc : α → List Value) (d : α) (l : List α) : Prop := ∃ t n el, lk mem r = some (.row t sz n el) ∧ frT t = true ∧ l.length ≤ n ∧ ∀ k, k < l.length → el k = enc (l.getD k d)
theorem MemAt.newRd {C : Ctx} {ρ : Nat → Pl} {mem : AM} {nx : Nat} {w : World} (h : MemAt C ρ mem nx w) {α : Type} {enc : α → List Value} {sz : Nat} (hsz : ∀ x, (enc x).length = sz) (hpos : 0 < sz) {l : List α} {d : α} {i : Nat} (hi : NewRow mem i sz enc d l) : Rd w (fun b => C.w0.heap.size ≤ b ∧ b < w.heap.size) (ρ i).A (flat enc l) := by
  obtain ⟨t, n, el, h1, h0, h2, h3⟩ := hi
  exact (h.blk i _ h1).rdOf h2 h3 hsz hpos fun _ b off _ hr => ⟨hr.new h0, hr.lt⟩
/-- A slice that holds a list, in a row that the call has made; or nil, if the list is empty. -/
def SlR {α : Type} (mem : AM) (sz : Nat) (enc : α → List Value) (d : α) (l : List α) (v : Value) : Prop :=
  (v = zs0 ∧ l = []) ∨ ∃ r cap t n el, v = slc r l.length cap ∧ lk mem r = some (.row t sz n el) ∧ frT t = true ∧ l.length ≤ n ∧ ∀ k, k < l.length → el k = enc (l.getD k d)
theorem MemAt.slR {C : Ctx} {ρ : Nat → Pl} {mem : AM} {nx : Nat} {w : World} (h : MemAt C ρ mem nx w) {α : Type} {enc : α → List Value} {sz : Nat} (hsz : ∀ x, (enc x).length = sz) (hpos : 0 < sz) {l : List α} {d : α} {v : Value} (hi : SlR mem sz enc d l v) :
    ∃ A c, den1 ρ v = .slice A l.length c ∧ Rd w (fun b => C.w0.heap.size ≤ b ∧ b < w.heap.size) A (flat enc l) := by
  rcases hi with ⟨rfl, rfl⟩ | ⟨r, cap, t, n, el, rfl, h1, h0, h2, h3⟩
  · exact ⟨none, 0, rfl, fun h => absurd rfl h⟩
  · exact ⟨_, cap, rfl, BlkOk.rdOf (h.blk r _ h1) h2 h3 hsz hpos fun _ b off _ hr => ⟨hr.new h0, hr.lt⟩⟩
theorem HasRow.list {α : Type} {mem : AM} {r sz : Nat} {enc : α → List Value} {d : α} {l : List α} {t : TypeId} (h : lk mem r = some (rowOfL t sz enc d l)) : HasRow mem r sz enc d l := ⟨_, _, _, h, Nat.le_refl _, fun k hk => rfl⟩
end Go.Proofs.YtnnpgbleacapfaaGreat

namespace Go.Proofs.YtnnpgbleacapfaaGreat
open Go.RowKit
set_option linter.unusedSimpArgs false
set_option linter.unusedVariables false

/-! Functions that read a configuration and states and give a value. -/
abbrev SN1 : SN := ⟨6, 7, 3⟩
abbrev SN2 : SN := ⟨8, 9, 3⟩
def rpl (x : CfgA) (c : Cfg) (y : StA) (s : St) (y2 : StA) (s2 : St) : Nat → Pl := fun j => match j with
  | 0 => ⟨x.az, 1, c.zones.length, false⟩
  | 1 => ⟨x.ac, 2, c.cells.length, false⟩
  | 2 => ⟨x.at_, 7, c.tenants.length, false⟩
  | 3 => ⟨x.av, 2, c.versions.length, false⟩
  | 4 => ⟨x.ar, 1, c.replicas.length, false⟩
  | 5 => ⟨x.ao, 1, c.observers.length, false⟩
  | 6 => ⟨y.at_, 12, s.tenants.length, false⟩
  | 7 => ⟨y.ac, 4, s.cells.length, false⟩
  | 8 => ⟨y2.at_, 12, s2.tenants.length, false⟩
  | _ => ⟨y2.ac, 4, s2.cells.length, false⟩
abbrev rdM (c : Cfg) (s s2 : St) : AM := cfgM CN1 c ++ (stM SN1 s ++ stM SN2 s2)
abbrev ck (x : CfgA) : CfgK := ⟨x.cz, x.cc, x.ct, x.cv, x.cr, x.co⟩
abbrev sk (y : StA) : StK := ⟨y.ct, y.cc⟩
theorem rpl_cfg (x : CfgA) (c : Cfg) (y : StA) (s : St) (y2 : StA) (s2 : St) : den (rpl x c y s y2 s2) (cfgV CN1 (ck x) c) = .agg (cfgC x c) := by rw [den_cfg]; rfl
theorem rpl_st (x : CfgA) (c : Cfg) (y : StA) (s : St) (y2 : StA) (s2 : St) : den (rpl x c y s y2 s2) (stV SN1 (sk y) s) = .agg (stC y s) := by rw [den_st]; rfl
theorem rpl_st2 (x : CfgA) (c : Cfg) (y : StA) (s : St) (y2 : StA) (s2 : St) : den (rpl x c y s y2 s2) (stV SN2 (sk y2) s2) = .agg (stC y2 s2) := by rw [den_st]; rfl
theorem rpl_cfg_ok (x : CfgA) (c : Cfg) (y : StA) (s : St) (y2 : StA) (s2 : St) : okV (rpl x c y s y2 s2) 10 (cfgV CN1 (ck x) c) := by
  intro u hu
  simp at hu
  rcases hu with rfl | rfl | rfl | rfl | rfl | rfl | rfl | rfl | rfl | rfl <;> first | trivial | exact ⟨by decide, rfl⟩
theorem rpl_st_ok (x : CfgA) (c : Cfg) (y : StA) (s : St) (y2 : StA) (s2 : St) : okV (rpl x c y s y2 s2) 10 (stV SN1 (sk y) s) := by
  intro u hu
  simp at hu
  rcases hu with rfl | rfl | rfl | rfl | rfl | rfl | rfl | rfl <;> first | trivial | exact ⟨by decide, rfl⟩
theorem rpl_st2_ok (x : CfgA) (c : Cfg) (y : StA) (s : St) (y2 : StA) (s2 : St) : okV (rpl x c y s y2 s2) 10 (stV SN2 (sk y2) s2) := by
  intro u hu
  simp at hu
  rcases hu with rfl | rfl | rfl | rfl | rfl | rfl | rfl | rfl <;> first | trivial | exact ⟨by decide, rfl⟩
theorem rd_calls {f : FuncId} {fn : Func} {F : FT} {D : List (Nat × DQ)} (hF : FTok Tryz.prog F) (hf : (Tryz.prog).funcs[f]? = some fn) (hb : fn.body = some (bodyOf fn)) (hcode : codeB fn.ntmps D (bodyOf fn) = true) {vs : List Value} (hn : Nat.ble vs.length fn.ntmps = true)
    (x : CfgA) (c : Cfg) (y : StA) (s : St) (y2 : StA) (s2 : St) (w : World) (hc : CfgOk w (· < w.heap.size) x c) (hs : StOk w (· < w.heap.size) y s) (hs2 : StOk w (· < w.heap.size) y2 s2) (hv : ∀ v ∈ vs, okV (rpl x c y s y2 s2) 10 v) {R : Value → Prop}
    (h : sx tt F D (bodyOf fn) (argF 0 vs) (rdM c s s2) 10 (endx tt fn.results.toList fun v _ _ => R v ∧ pureV v)) :
    Calls Tryz.prog f (vs.map (den (rpl x c y s y2 s2))).toArray w fun e w' => ∃ v, R v ∧ pureV v ∧ e = .returned v ∧ Below w.heap.size w w' := by
  have hpc : CfgPl (rpl x c y s y2 s2) CN1 x c := ⟨rfl, rfl, rfl, rfl, rfl, rfl⟩
  have hps : StPl (rpl x c y s y2 s2) SN1 y s := ⟨rfl, rfl⟩
  have hps2 : StPl (rpl x c y s y2 s2) SN2 y2 s2 := ⟨rfl, rfl⟩
  have hm : MemAt { w0 := w, bor := [], n0 := 10, ρ0 := rpl x c y s y2 s2, nt := fn.ntmps } (rpl x c y s y2 s2) (rdM c s s2) 10 w := MemAt.rows trivial (cfg_blks hpc hc (fun b hb => hb) (by decide) (st_blks hps hs (fun b hb => hb) (by decide) (by
    have := st_blks (C := { w0 := w, bor := [], n0 := 10, ρ0 := rpl x c y s y2 s2, nt := fn.ntmps }) (nx := 10) (r := []) hps2 hs2 (fun b hb => hb) (by decide) trivial
    exact this)))
  refine (calls_sx ttOk hF mixed hf hb hcode (vs := vs) hn ⟨rfl, rfl⟩ rfl hm hv h).mono ?_
  rintro e w' ⟨v, mem', nx', ρ', rfl, ⟨hR, hp⟩, -, hm'⟩
  exact ⟨v, hR, hp, by rw [(pure_den hp ρ' 0).1], ⟨hm'.rest.os, hm'.rest.tape, hm'.rest.output, hm'.rest.size, fun b hlt => hm'.rest.block b hlt (by simp)⟩⟩

/-! What such a function is handed, in the abstract and in the world. -/
inductive DT where
  | li (d : List Int)
  | cf (d : Cfg)
  | st (d : St)
  | vl (u : Value)
inductive PA where
  | li (i cap : Nat) (d : List Int)
  | cf (N : CN) (x : CfgK) (d : Cfg)
  | st (M : SN) (y : StK) (d : St)
  | vl (u : Value)
inductive PW where
  | li (A : Option Addr) (cap : Nat) (d : List Int)
  | cf (x : CfgA) (d : Cfg)
  | st (y : StA) (d : St)
  | vl (u : Value)
def PA.val : PA → Value
  | .li i cap l => slc i l.length cap
  | .cf N x c => cfgV N x c
  | .st M y s => stV M y s
  | .vl u => u
def PA.dt : PA → DT
  | .li _ _ l => .li l
  | .cf _ _ c => .cf c
  | .st _ _ s => .st s
  | .vl u => .vl u
def PA.keep (mem : AM) : PA → Prop
  | .li i _ l => lk mem i = some (intRow l)
  | .cf N _ c => keeps mem (cfgM N c)
  | .st M _ s => keeps mem (stM M s)
  | .vl u => pureV u
def PW.val : PW → Value
  | .li A cap l => .slice A l.length cap
  | .cf x c => .agg (cfgC x c)
  | .st y s => .agg (stC y s)
  | .vl u => u
def PW.dt : PW → DT
  | .li _ _ l => .li l
  | .cf _ c => .cf c
  | .st _ s => .st s
  | .vl u => .vl u
def PW.ok (w : World) : PW → Prop
  | .li A _ l => Rd w (· < w.heap.size) A (flat intC l)
  | .cf x c => CfgOk w (· < w.heap.size) x c
  | .st y s => StOk w (· < w.heap.size) y s
  | .vl u => pureV u
def PA.to (ρ : Nat → Pl) : PA → PW
  | .li i cap l => .li (ρ i).A cap l
  | .cf N x c => .cf (cfgX ρ N x) c
  | .st M y s => .st (stX ρ M y) s
  | .vl u => .vl u
def allK (mem : AM) (l : List PA) : Prop := List.rec (motive := fun _ => Prop) True (fun a _ ih => a.keep mem ∧ ih) l
theorem allK_mem {mem : AM} : ∀ {l : List PA}, allK mem l → ∀ a ∈ l, a.keep mem
  | [], _, a, ha => by cases ha
  | b :: r, h, a, ha => (List.mem_cons.1 ha).elim (fun e => e ▸ h.1) (allK_mem (l := r) h.2 a)
def ctPts (R : List DT → Value → Prop) (pre : List DT → Prop) : CT := fun vs mem nx K => ∃ l : List PA, vs = l.map PA.val ∧ allK mem l ∧ pre (l.map PA.dt) ∧ ∀ z, R (l.map PA.dt) z → K z mem nx
theorem ptsOk {f : FuncId} {R : List DT → Value → Prop} {pre : List DT → Prop} (ent : ((Tryz.prog).funcs[f]?).map (fun fn => (fn.name == "runtime.NumGoroutine", fn.body.isNone)) = some (false, false))
    (h : ∀ (ps : List PW) (w : World), pre (ps.map PW.dt) → (∀ p ∈ ps, p.ok w) → Calls Tryz.prog f (ps.map PW.val).toArray w fun e w' => ∃ v, R (ps.map PW.dt) v ∧ pureV v ∧ e = .returned v ∧ Below w.heap.size w w') : CSound Tryz.prog f (ctPts R pre) :=
  ⟨ent, fun {C ρ fr mem nx a w vs K} hc hs hv => by
    obtain ⟨l, rfl, hk, hp, hK⟩ := hc
    have hk' := allK_mem hk
    have e1 : (l.map PA.val).map (den ρ) = (l.map (PA.to ρ)).map PW.val := by
      rw [List.map_map, List.map_map]
      refine List.map_congr_left fun p hp => ?_
      cases p with
      | li i cap l => rfl
      | cf N x c => exact den_cfg ρ N x c
      | st M y s => exact den_st ρ M y s
      | vl u => exact (pure_den (hk' _ hp) ρ 0).1
    have e2 : (l.map (PA.to ρ)).map PW.dt = l.map PA.dt := by
      rw [List.map_map]
      refine List.map_congr_left fun p hp => ?_
      cases p <;> rfl
    rw [e1]
    refine (h (l.map (PA.to ρ)) w (by rw [e2]; exact hp) (fun p hp => ?_)).mono ?_
    · obtain ⟨q, hq, rfl⟩ := List.mem_map.1 hp
      cases q with
      | li i cap l => exact hs.rd (enc := intC) (sz := 1) (fun _ => rfl) (by omega) (show lk mem i = some (intRow l) from hk' _ hq) (fun b h _ => h)
      | cf N x c => exact hs.cfg (hk' _ hq) (fun b h _ => h)
      | st M y s => exact hs.st (hk' _ hq) (fun b h _ => h)
      | vl u => exact hk' _ hq
    · rintro e w' ⟨v, hR, hpl, rfl, hb⟩
      rw [e2] at hR
      exact ⟨v, mem, nx, ρ, by rw [(pure_den hpl ρ 0).1], hK v hR, hs.later hb, (pure_den hpl ρ nx).2, ExtS.refl _ _⟩⟩
theorem dt_nil {ps : List PW} (h : ps.map PW.dt = []) : ps = [] := List.map_eq_nil_iff.1 h
theorem dt_l {ps : List PW} {l : List Int} {r : List DT} (h : ps.map PW.dt = .li l :: r) : ∃ A cap qs, ps = .li A cap l :: qs ∧ qs.map PW.dt = r := by
  cases ps with
  | nil => cases h
  | cons p qs => cases p <;> simp [PW.dt] at h <;> obtain ⟨rfl, h⟩ := h; exact ⟨_, _, qs, rfl, h⟩
theorem dt_c {ps : List PW} {c : Cfg} {r : List DT} (h : ps.map PW.dt = .cf c :: r) : ∃ x qs, ps = .cf x c :: qs ∧ qs.map PW.dt = r := by
  cases ps with
  | nil => cases h
  | cons p qs => cases p <;> simp [PW.dt] at h <;> obtain ⟨rfl, h⟩ := h; exact ⟨_, qs, rfl, h⟩
theorem dt_s {ps : List PW} {s : St} {r : List DT} (h : ps.map PW.dt = .st s :: r) : ∃ y qs, ps = .st y s :: qs ∧ qs.map PW.dt = r := by
  cases ps with
  | nil => cases h
  | cons p qs => cases p <;> simp [PW.dt] at h <;> obtain ⟨rfl, h⟩ := h; exact ⟨_, qs, rfl, h⟩
theorem dt_v {ps : List PW} {u : Value} {r : List DT} (h : ps.map PW.dt = .vl u :: r) : ∃ qs, ps = .vl u :: qs ∧ qs.map PW.dt = r := by
  cases ps with
  | nil => cases h
  | cons p qs => cases p <;> simp [PW.dt] at h <;> obtain ⟨rfl, h⟩ := h; exact ⟨qs, rfl, h⟩
def noA : StA := ⟨none, 0, none, 0⟩
def noS : St := { tick := 0, count := 0, tenants := [], cells := [], proven := 0, evac := 0, low := 0, high := 0 }
theorem noS_ok (w : World) (S : Nat → Prop) : StOk w S noA noS := ⟨fun h => absurd rfl h, fun h => absurd rfl h⟩
/-! Functions that are handed lists of numbers. -/
def lpl (A0 : Option Addr) (n0 : Nat) (A1 : Option Addr) (n1 : Nat) : Nat → Pl := fun j => match j with
  | 0 => ⟨A0, 1, n0, false⟩
  | _ => ⟨A1, 1, n1, false⟩
theorem li_calls {f : FuncId} {fn : Func} {F : FT} {D : List (Nat × DQ)} (hF : FTok Tryz.prog F) (hf : (Tryz.prog).funcs[f]? = some fn) (hb : fn.body = some (bodyOf fn)) (hcode : codeB fn.ntmps D (bodyOf fn) = true) {vs : List Value} (hn : Nat.ble vs.length fn.ntmps = true)
    (A0 : Option Addr) (l0 : List Int) (A1 : Option Addr) (l1 : List Int) (w : World) (h0 : Rd w (· < w.heap.size) A0 (flat intC l0)) (h1 : Rd w (· < w.heap.size) A1 (flat intC l1)) (hv : ∀ v ∈ vs, okV (lpl A0 l0.length A1 l1.length) 2 v) {R : Value → Prop}
    (h : sx tt F D (bodyOf fn) (argF 0 vs) [(0, intRow l0), (1, intRow l1)] 2 (endx tt fn.results.toList fun v _ _ => R v ∧ pureV v)) :
    Calls Tryz.prog f (vs.map (den (lpl A0 l0.length A1 l1.length))).toArray w fun e w' => ∃ v, R v ∧ pureV v ∧ e = .returned v ∧ Below w.heap.size w w' := by
  have hm : MemAt { w0 := w, bor := [], n0 := 2, ρ0 := lpl A0 l0.length A1 l1.length, nt := fn.ntmps } (lpl A0 l0.length A1 l1.length) [(0, intRow l0), (1, intRow l1)] 2 w := MemAt.rows trivial
    ⟨⟨by decide, rfl, row_of_rd (enc := intC) (sz := 1) (fun _ => rfl) (by omega) intC_plain 0 rfl h0 (fun b hb => hb)⟩, ⟨by decide, rfl, row_of_rd (enc := intC) (sz := 1) (fun _ => rfl) (by omega) intC_plain 0 rfl h1 (fun b hb => hb)⟩, trivial⟩
  refine (calls_sx ttOk hF mixed hf hb hcode (vs := vs) hn ⟨rfl, rfl⟩ rfl hm hv h).mono ?_
  rintro e w' ⟨v, mem', nx', ρ', rfl, ⟨hR, hp⟩, -, hm'⟩
  exact ⟨v, hR, hp, by rw [(pure_den hp ρ' 0).1], ⟨hm'.rest.os, hm'.rest.tape, hm'.rest.output, hm'.rest.size, fun b hlt => hm'.rest.block b hlt (by simp)⟩⟩
end Go.Proofs.YtnnpgbleacapfaaGreat

namespace Go.Proofs.YtnnpgbleacapfaaGreat
open Go.RowKit
set_option linter.unusedSimpArgs false
set_option linter.unusedVariables false

/-! Nothing is handed in. -/
def noC : Cfg := ⟨0, [], [], [], [], [], [], 0, 0, 0⟩
def noX : CfgA := ⟨none, 0, none, 0, none, 0, none, 0, none, 0, none, 0⟩
theorem noC_ok (w : World) (S : Nat → Prop) : CfgOk w S noX noC := ⟨fun h => absurd rfl h, fun h => absurd rfl h, fun h => absurd rfl h, fun h => absurd rfl h, fun h => absurd rfl h, fun h => absurd rfl h⟩
end Go.Proofs.YtnnpgbleacapfaaGreat

namespace Go.Proofs.YtnnpgbleacapfaaGreat
open Go.RowKit
set_option linter.unusedSimpArgs false
set_option linter.unusedVariables false

/-! Rows that are the call's own: stores, and what a callee hands back. -/
theorem setEl_same (el : Nat → List Value) (k : Nat) (l : List Value) : setEl el k l k = l := by unfold setEl; rw [show Nat.beq k k = true from Nat.beq_refl k]
theorem setEl_set {α : Type} {enc : α → List Value} {d : α} {l : List α} {k : Nat} {x : α} (h : k < l.length) : setEl (fun j => enc (l.getD j d)) k (enc x) = fun j => enc ((l.set k x).getD j d) := by
  funext j
  unfold setEl
  by_cases hj : j = k
  · subst hj
    rw [show Nat.beq j j = true from Nat.beq_refl j]
    show enc x = _
    rw [List.getD_eq_getElem?_getD, List.getElem?_set_self h]
    rfl
  · have hb : Nat.beq j k = false := by
      cases hb : Nat.beq j k
      · rfl
      · exact absurd (Nat.eq_of_beq_eq_true hb) hj
    rw [hb]
    show enc _ = _
    rw [List.getD_eq_getElem?_getD, List.getD_eq_getElem?_getD, List.getElem?_set_ne (Ne.symm hj)]
theorem getD_set {α : Type} {d : α} {l : List α} {k : Nat} {x : α} (h : k < l.length) : (l.set k x).getD k d = x := by
  rw [List.getD_eq_getElem?_getD, List.getElem?_set_self h]; rfl

section
variable {C : Ctx} {ρ : Nat → Pl} {fr : AF} {mem : AM} {nx : Nat} {a : Act} {w w' : World}
/-- One more row, apart from all else. -/
theorem Sat.addOwn (h : Sat C ρ fr mem nx a w) {t : TypeId} {sz n : Nat} {el : Nat → List Value} {p : Pl} (hp : p.res = false) (hok : BlkOk C (setPl ρ nx p) (nx + 1) nx w (.row t sz n el))
    (hnew : n = 0 ∨ ∀ i b, lk (mem ++ C.fm) i = some b → (∃ t sz el, b = .row t sz 0 el) ∨ bno ρ i ≠ p.A.map (·.block)) : Sat C (setPl ρ nx p) fr ((nx, .row t sz n el) :: mem) (nx + 1) a w := by
  have hr : ∀ j, j < nx → (ρ j).res = false → setPl ρ nx p j = ρ j := fun j hj _ => setPl_lt ρ p hj
  have h1 := h.ren (ρ' := setPl ρ nx p) (m := nx + 1) hr (Nat.le_succ _) (fun j hj => setPl_lt ρ p (Nat.lt_of_lt_of_le hj h.n0))
  have e1 : bno (setPl ρ nx p) nx = p.A.map (·.block) := by unfold bno; rw [setPl_same]
  have e2 : ∀ j b, lk (mem ++ C.fm) j = some b → bno (setPl ρ nx p) j = bno ρ j := fun j b hj => by unfold bno; rw [setPl_lt ρ p (h.mlt j b hj).1]
  have key : ∀ j b', lk (mem ++ C.fm) j = some b' → Apart (setPl ρ nx p) nx j (.row t sz n el) b' ∧ Apart (setPl ρ nx p) j nx b' (.row t sz n el) := by
    intro j b' hj
    cases b' with
    | box t2 cs2 =>
      refine ⟨trivial, ?_⟩
      rcases hnew with hn | hn
      · exact .inl hn
      · refine .inr ?_
        rw [e1, e2 j _ hj]
        rcases hn j _ hj with ⟨_, _, _, q⟩ | q
        · cases q
        · exact q
    | row t2 sz2 n2 el2 =>
      simp only [Apart]
      rcases hnew with hn | hn
      · exact ⟨fun _ => .inl hn, fun _ => .inr (.inl hn)⟩
      · rcases hn j _ hj with ⟨_, _, _, q⟩ | q
        · cases q; exact ⟨fun _ => .inr (.inl rfl), fun _ => .inl rfl⟩
        · rw [e1, e2 j _ hj]; exact ⟨fun _ => .inr (.inr (Ne.symm q)), fun _ => .inr (.inr q)⟩
  refine ⟨h1.fok, h1.sz, h1.dfr, fun i b' hi => ?_, fun i b' hi => ?_, fun i j b1 b2 hne hi hj => ?_, h1.n0, h1.low, h1.rest⟩
  · rcases lk_cons hi with ⟨rfl, rfl⟩ | ⟨hne, hi⟩
    · exact ⟨Nat.lt_succ_self _, by rw [setPl_same]; exact hp⟩
    · exact h1.mlt i b' hi
  · rcases lk_cons hi with ⟨rfl, rfl⟩ | ⟨hne, hi⟩
    · exact hok
    · exact h1.blk i b' hi
  · rcases lk_cons hi with ⟨rfl, rfl⟩ | ⟨hni, hi⟩
    · rcases lk_cons hj with ⟨rfl, rfl⟩ | ⟨hnj, hj⟩
      · exact absurd rfl hne
      · exact (key j b2 hj).1
    · rcases lk_cons hj with ⟨rfl, rfl⟩ | ⟨hnj, hj⟩
      · exact (key i b1 hi).2
      · exact h1.sep i j b1 b2 hne hi hj
/-- A row that the callee has made: its whole block is known. -/
structure OwnL {α : Type} (B : Nat) (w : World) (A : Option Addr) (sz : Nat) (enc : α → List Value) (d : α) (l : List α) (b : Nat) : Prop where
  at_ : l ≠ [] → A = some ⟨b, 0, none⟩ ∧ B ≤ b ∧ ∃ ty cs, Blk w b ty cs
  cells : ∀ k, k < l.length → ∀ j v, (enc (l.getD k d))[j]? = some v → w.cell? ⟨b, k * sz + j, none⟩ = some v
theorem OwnL.blk {α : Type} {B : Nat} {A : Option Addr} {sz : Nat} {enc : α → List Value} {d : α} {l : List α} {b : Nat} (h : OwnL B w A sz enc d l b) (hB : C.w0.heap.size ≤ B) (hs : ∀ x, (enc x).length = sz) (hpl : ∀ x, ∀ v ∈ enc x, plain1 v) {ρ : Nat → Pl} {i nx : Nat} (hρ : ρ i = ⟨A, sz, l.length, false⟩) (t : TypeId) : BlkOk C ρ nx i w (.row t sz l.length (fun k => enc (l.getD k d))) := by
  refine ⟨⟨by rw [hρ], by rw [hρ]⟩, fun k hk => ⟨hs _, hpl _⟩, ?_⟩
  by_cases h0 : l = []
  · exact .inl (by rw [h0]; rfl)
  · obtain ⟨hA, hb, ty, cs, hblk⟩ := h.at_ h0
    refine .inr ⟨b, 0, by rw [hρ]; exact hA, ⟨hblk.lt, fun _ => ⟨rfl, Nat.le_trans hB hb, ty, cs, hblk⟩, fun _ => Nat.le_trans hB hb⟩, fun k hk j v hv => ?_⟩
    rw [Nat.zero_add]
    exact h.cells k hk j v hv
abbrev tsO (l : List TS) : ABlk := .row (1000000 + 63) 12 l.length (fun k => tsC (l.getD k default))
abbrev csO (l : List CS) : ABlk := .row (1000000 + 51) 4 l.length (fun k => csC (l.getD k default))
abbrev stMO (M : SN) (s : St) : AM := [(M.t, tsO s.tenants), (M.c, csO s.cells)]
/-- A state in rows of the callee's own, at bt and bc. -/
structure StOwn2 (B : Nat) (w : World) (y : StA) (s : St) : Prop where
  ex : ∃ bt bc, OwnL B w y.at_ 12 tsC default s.tenants bt ∧ OwnL B w y.ac 4 csC default s.cells bc ∧ (s.tenants ≠ [] → s.cells ≠ [] → bt ≠ bc)
theorem Sat.addOwnSt (h0 : Sat C ρ fr mem nx a w) (hb : Below w.heap.size w w') {y : StA} {s : St} (hs : StOwn2 w.heap.size w' y s) :
    Sat C (stPl ρ nx y s) fr (stMO ⟨nx + 1, nx, 0⟩ s ++ mem) (nx + 2) a w' ∧ den (stPl ρ nx y s) (stV ⟨nx + 1, nx, 0⟩ ⟨y.ct, y.cc⟩ s) = .agg (stC y s) ∧ okV (stPl ρ nx y s) (nx + 2) (stV ⟨nx + 1, nx, 0⟩ ⟨y.ct, y.cc⟩ s) ∧ ExtS ρ nx (stPl ρ nx y s) (nx + 2) := by
  obtain ⟨bt, bc, ht, hc, hne⟩ := hs.ex
  have hlt : ∀ i b, lk (mem ++ C.fm) i = some b → (∃ t sz el, b = .row t sz 0 el) ∨ ∃ g, bno ρ i = some g ∧ g < w.heap.size := by
    intro i b hi
    have hok := h0.blk i b hi
    cases b with
    | box t cs => obtain ⟨g, e1, e2⟩ := hok.lt; exact .inr ⟨g, e1, e2⟩
    | row t sz n el =>
      rcases hok.2.2 with rfl | ⟨b, off, hA, hat, -⟩
      · exact .inl ⟨_, _, _, rfl⟩
      · exact .inr ⟨b, by simp [bno, hA], hat.lt⟩
  have h1 := (h0.later hb).addOwn (p := ⟨y.ac, 4, s.cells.length, false⟩) rfl (hc.blk (t := 1000000 + 51) h0.rest.size (fun _ => rfl) csC_plain (setPl_same _ _ _)) (by
    by_cases hz : s.cells = []
    · exact .inl (by rw [hz]; rfl)
    · obtain ⟨hA, hle, -⟩ := hc.at_ hz
      refine .inr fun i b hi => ?_
      rcases hlt i b hi with q | ⟨g, e1, e2⟩
      · exact .inl q
      · refine .inr ?_
        rw [e1, hA]
        simp
        omega)
  have h2 := h1.addOwn (p := ⟨y.at_, 12, s.tenants.length, false⟩) rfl (ht.blk (t := 1000000 + 63) h0.rest.size (fun _ => rfl) tsC_plain (setPl_same _ _ _)) (by
    by_cases hz : s.tenants = []
    · exact .inl (by rw [hz]; rfl)
    · obtain ⟨hA, hle, -⟩ := ht.at_ hz
      refine .inr fun i b hi => ?_
      rcases lk_cons (l := mem ++ C.fm) hi with ⟨rfl, rfl⟩ | ⟨_, hi⟩
      · by_cases hz2 : s.cells = []
        · exact .inl ⟨_, _, _, by rw [hz2]; rfl⟩
        · obtain ⟨hA2, hle2, -⟩ := hc.at_ hz2
          refine .inr ?_
          unfold bno
          rw [setPl_same, hA, hA2]
          simp
          exact Ne.symm (hne hz hz2)
      · rcases hlt i b hi with q | ⟨g, e1, e2⟩
        · exact .inl q
        · refine .inr ?_
          have : bno (setPl ρ nx ⟨y.ac, 4, s.cells.length, false⟩) i = bno ρ i := by unfold bno; rw [setPl_lt _ _ (h0.mlt i b hi).1]
          rw [this, e1, hA]
          simp
          omega)
  have q1 : stPl ρ nx y s nx = ⟨y.ac, 4, s.cells.length, false⟩ := by
    unfold stPl
    rw [setPl_lt _ _ (Nat.lt_succ_self _), setPl_same]
  have q2 : stPl ρ nx y s (nx + 1) = ⟨y.at_, 12, s.tenants.length, false⟩ := setPl_same _ _ _
  refine ⟨h2, ?_, ?_, ⟨fun i hi => ?_, by omega⟩⟩
  · rw [den_st]
    simp [stX, q1, q2]
  · intro u hu
    simp at hu
    rcases hu with rfl | rfl | rfl | rfl | rfl | rfl | rfl | rfl
    · trivial
    · trivial
    · exact ⟨show nx + 1 < nx + 2 by omega, by show (stPl ρ nx y s (nx + 1)).res = false; rw [q2]⟩
    · exact ⟨show nx < nx + 2 by omega, by show (stPl ρ nx y s nx).res = false; rw [q1]⟩
    all_goals trivial
  · unfold stPl
    rw [setPl_lt _ _ (Nat.lt_succ_of_lt hi), setPl_lt _ _ hi]
end

/-! ref12.Copied -/
/-- A slice that holds a list in a row of the call's own; or nothing. -/
def SlO {α : Type} (mem : AM) (sz : Nat) (enc : α → List Value) (d : α) (l : List α) (v : Value) (r : Nat) : Prop :=
  ∃ n' cap t n el, v = slc r n' cap ∧ n' = l.length ∧ lk mem r = some (.row t sz n el) ∧ ownT t = true ∧ l.length ≤ n ∧ ∀ k, k < l.length → el k = enc (l.getD k d)
theorem MemAt.slO {C : Ctx} {ρ : Nat → Pl} {mem : AM} {nx : Nat} {w : World} (h : MemAt C ρ mem nx w) (hbor : C.bor = []) {α : Type} {enc : α → List Value} {sz : Nat} (hsz : ∀ x, (enc x).length = sz) (hpos : 0 < sz) {l : List α} {d : α} {v : Value} {r : Nat} (hi : SlO mem sz enc d l v r) :
    ∃ c b, den1 ρ v = .slice (ρ r).A l.length c ∧ OwnL C.w0.heap.size w (ρ r).A sz enc d l b ∧ (l ≠ [] → bno ρ r = some b) := by
  obtain ⟨n', cap, t, n, el, rfl, rfl, h1, h0, h2, h3⟩ := hi
  obtain ⟨q1, q2, q3⟩ := h.blk r _ h1
  by_cases hl : l = []
  · refine ⟨cap, 0, rfl, ⟨fun q => absurd hl q, fun k hk => by rw [hl] at hk; cases hk⟩, fun q => absurd hl q⟩
  · have hl0 : 0 < l.length := List.length_pos_iff.2 hl
    rcases q3 with q | ⟨b, off, hA, hat, hc⟩
    · omega
    · obtain ⟨rfl, hb, ty, cs, hblk⟩ := hat.own h0
      refine ⟨cap, b, rfl, ⟨fun _ => ⟨hA, hb, ty, cs, hblk⟩, fun k hk j v hv => ?_⟩, fun _ => by simp [bno, hA]⟩
      have := hc k (by omega) j v (by rw [h3 k hk]; exact hv)
      rw [Nat.zero_add] at this
      exact this
set_option maxRecDepth 100000 in
set_option maxHeartbeats 4000000 in
theorem copied_sx (y : StK) (s : St) (hm : s.tenants.length ≤ 1000000) (hm2 : s.cells.length ≤ 1000000) :
    sx tt [] [] (bodyOf Tryz.f104) (argF 0 [stV SN1 y s]) (rdM noC s noS) 10 (endx tt Tryz.f104.results.toList fun v mem' _ => ∃ T Cc rT rC, rT ≠ rC ∧ v = .agg #[.int .i64 s.tick, .int .i64 s.count, T, Cc, .int .i64 s.proven, .int .i64 s.evac, .int .i64 s.low, .int .i64 s.high] ∧ SlO mem' 12 tsC default s.tenants T rT ∧ SlO mem' 4 csC default s.cells Cc rC) := by
  refine ⟨⟨Nat.le_refl _, fun k hk => rfl⟩, ?_⟩
  refine ⟨⟨rfl, Nat.le_refl _⟩, fun hin elT g1 g2 => ?_, fun hgt => ⟨by show (0 + s.tenants.length) * 88 ≤ 140737488355328; omega, fun capT elT hcT g1 g2 => ?_⟩⟩
  · have helT : ∀ k, k < s.tenants.length → elT k = tsC (s.tenants.getD k default) := fun k hk => by have := g2 k hk; rw [Nat.zero_add] at this; exact this
    clear g1 g2
    have hzT : s.tenants.length ≤ 0 := by omega
    refine ⟨⟨Nat.le_refl _, fun k hk => rfl⟩, ?_⟩
    refine ⟨⟨rfl, Nat.le_refl _⟩, fun hin elC g1 g2 => ?_, fun hgt => ⟨by show (0 + s.cells.length) * 32 ≤ 140737488355328; omega, fun capC elC hcC g1 g2 => ?_⟩⟩
    · have helC : ∀ k, k < s.cells.length → elC k = csC (s.cells.getD k default) := fun k hk => by have := g2 k hk; rw [Nat.zero_add] at this; exact this
      clear g1 g2
      have hzC : s.cells.length ≤ 0 := by omega
      exact ⟨_, _, 12, 13, by decide, rfl, ⟨_, _, _, _, elT, rfl, Nat.zero_add _, rfl, rfl, hzT, helT⟩, ⟨_, _, _, _, elC, rfl, Nat.zero_add _, rfl, rfl, hzC, helC⟩⟩
    · have helC : ∀ k, k < s.cells.length → elC k = csC (s.cells.getD k default) := fun k hk => by have := g2 k hk; rw [Nat.zero_add] at this; exact this
      clear g1 g2
      have hzC : s.cells.length ≤ capC := by omega
      exact ⟨_, _, 12, 14, by decide, rfl, ⟨_, _, _, _, elT, rfl, Nat.zero_add _, rfl, rfl, hzT, helT⟩, ⟨_, _, _, _, elC, rfl, Nat.zero_add _, rfl, rfl, hzC, helC⟩⟩
  · have helT : ∀ k, k < s.tenants.length → elT k = tsC (s.tenants.getD k default) := fun k hk => by have := g2 k hk; rw [Nat.zero_add] at this; exact this
    clear g1 g2
    have hzT : s.tenants.length ≤ capT := by omega
    refine ⟨⟨Nat.le_refl _, fun k hk => rfl⟩, ?_⟩
    refine ⟨⟨rfl, Nat.le_refl _⟩, fun hin elC g1 g2 => ?_, fun hgt => ⟨by show (0 + s.cells.length) * 32 ≤ 140737488355328; omega, fun capC elC hcC g1 g2 => ?_⟩⟩
    · have helC : ∀ k, k < s.cells.length → elC k = csC (s.cells.getD k default) := fun k hk => by have := g2 k hk; rw [Nat.zero_add] at this; exact this
      clear g1 g2
      have hzC : s.cells.length ≤ 0 := by omega
      exact ⟨_, _, 13, 14, by decide, rfl, ⟨_, _, _, _, elT, rfl, Nat.zero_add _, rfl, rfl, hzT, helT⟩, ⟨_, _, _, _, elC, rfl, Nat.zero_add _, rfl, rfl, hzC, helC⟩⟩
    · have helC : ∀ k, k < s.cells.length → elC k = csC (s.cells.getD k default) := fun k hk => by have := g2 k hk; rw [Nat.zero_add] at this; exact this
      clear g1 g2
      have hzC : s.cells.length ≤ capC := by omega
      exact ⟨_, _, 13, 15, by decide, rfl, ⟨_, _, _, _, elT, rfl, Nat.zero_add _, rfl, rfl, hzT, helT⟩, ⟨_, _, _, _, elC, rfl, Nat.zero_add _, rfl, rfl, hzC, helC⟩⟩
end Go.Proofs.YtnnpgbleacapfaaGreat

namespace Go.Proofs.YtnnpgbleacapfaaGreat
open Go.RowKit
set_option linter.unusedSimpArgs false
set_option linter.unusedVariables false

theorem rd_callsM {τ : TT} (hτ : TTok Tryz.prog τ) {f : FuncId} {fn : Func} {F : FT} {D : List (Nat × DQ)} (hF : FTokI Tryz.prog F (inlOf D)) (hf : (Tryz.prog).funcs[f]? = some fn) (hb : fn.body = some (bodyOf fn)) (hcode : codeB fn.ntmps D (bodyOf fn) = true) {vs : List Value} (hn : Nat.ble vs.length fn.ntmps = true)
    (x : CfgA) (c : Cfg) (y : StA) (s : St) (y2 : StA) (s2 : St) (w : World) (hc : CfgOk w (· < w.heap.size) x c) (hs : StOk w (· < w.heap.size) y s) (hs2 : StOk w (· < w.heap.size) y2 s2) (hv : ∀ v ∈ vs, okV (rpl x c y s y2 s2) 10 v) {R : Value → AM → Nat → Prop}
    (h : sx τ F D (bodyOf fn) (argF 0 vs) (rdM c s s2) 10 (endx τ fn.results.toList R)) :
    Calls Tryz.prog f (vs.map (den (rpl x c y s y2 s2))).toArray w fun e w' => ∃ v mem' nx' ρ', e = .returned (den ρ' v) ∧ R v mem' nx' ∧ okV ρ' nx' v ∧ MemAt { w0 := w, bor := [], n0 := 10, ρ0 := rpl x c y s y2 s2, nt := fn.ntmps } ρ' mem' nx' w' ∧ Below w.heap.size w w' := by
  have hpc : CfgPl (rpl x c y s y2 s2) CN1 x c := ⟨rfl, rfl, rfl, rfl, rfl, rfl⟩
  have hps : StPl (rpl x c y s y2 s2) SN1 y s := ⟨rfl, rfl⟩
  have hps2 : StPl (rpl x c y s y2 s2) SN2 y2 s2 := ⟨rfl, rfl⟩
  have hm : MemAt { w0 := w, bor := [], n0 := 10, ρ0 := rpl x c y s y2 s2, nt := fn.ntmps } (rpl x c y s y2 s2) (rdM c s s2) 10 w := MemAt.rows trivial (cfg_blks hpc hc (fun b hb => hb) (by decide) (st_blks hps hs (fun b hb => hb) (by decide) (by
    have := st_blks (C := { w0 := w, bor := [], n0 := 10, ρ0 := rpl x c y s y2 s2, nt := fn.ntmps }) (nx := 10) (r := []) hps2 hs2 (fun b hb => hb) (by decide) trivial
    exact this)))
  refine (calls_sxI hτ hF mixed hf hb hcode (vs := vs) hn ⟨rfl, rfl⟩ rfl hm hv h).mono ?_
  rintro e w' ⟨v, mem', nx', ρ', rfl, hR, hv', hm'⟩
  exact ⟨v, mem', nx', ρ', rfl, hR, hv', hm', ⟨hm'.rest.os, hm'.rest.tape, hm'.rest.output, hm'.rest.size, fun b hlt => hm'.rest.block b hlt (by simp)⟩⟩
theorem Sat.stRow {C : Ctx} {ρ : Nat → Pl} {fr : AF} {mem : AM} {nx : Nat} {a : Act} {w : World} (h : Sat C ρ fr mem nx a w) {M : SN} {y : StK} {s : St} (h1 : HasRow mem M.t 12 tsC default s.tenants) (h2 : HasRow mem M.c 4 csC default s.cells) : StOk w (· < w.heap.size) (stX ρ M y) s :=
  ⟨h.hasRd (enc := tsC) (sz := 12) (fun _ => rfl) (by omega) h1, h.hasRd (enc := csC) (sz := 4) (fun _ => rfl) (by omega) h2⟩
/-- A state that lies in two rows of the call's own. -/
theorem MemAt.own2 {C : Ctx} {ρ : Nat → Pl} {mem : AM} {nx : Nat} {w : World} (hm : MemAt C ρ mem nx w) (hbor : C.bor = []) {s : St} {T Cc : Value} {rT rC : Nat} (hne : rT ≠ rC) (hT : SlO mem 12 tsC default s.tenants T rT) (hC : SlO mem 4 csC default s.cells Cc rC) :
    ∃ y2, den2 ρ (.agg #[.int .i64 s.tick, .int .i64 s.count, T, Cc, .int .i64 s.proven, .int .i64 s.evac, .int .i64 s.low, .int .i64 s.high]) = .agg (stC y2 s) ∧ StOwn2 C.w0.heap.size w y2 s := by
  obtain ⟨c1, b1, e1, o1, p1⟩ := hm.slO hbor (enc := tsC) (sz := 12) (fun _ => rfl) (by omega) hT
  obtain ⟨c2, b2, e2, o2, p2⟩ := hm.slO hbor (enc := csC) (sz := 4) (fun _ => rfl) (by omega) hC
  refine ⟨⟨(ρ rT).A, c1, (ρ rC).A, c2⟩, ?_, ⟨b1, b2, o1, o2, fun h1 h2 => ?_⟩⟩
  · have d : ∀ v, den1 ρ (.int .i64 v) = .int .i64 v := fun _ => rfl
    simp [den, den2, stC, d, e1, e2]
  · obtain ⟨_, _, _, n1, _, _, _, l1, t1, g1, _⟩ := hT
    obtain ⟨_, _, _, n2, _, _, _, l2, t2, g2, _⟩ := hC
    have hl1 : 0 < s.tenants.length := List.length_pos_iff.2 h1
    have hl2 : 0 < s.cells.length := List.length_pos_iff.2 h2
    have := hm.sep rT rC _ _ hne l1 l2
    simp only [Apart] at this
    rcases this t1 with q | q | q
    · omega
    · omega
    · rw [p1 h1, p2 h2] at q
      exact fun h => q (by rw [h])
theorem OwnL.rd {α : Type} {B : Nat} {w : World} {A : Option Addr} {sz : Nat} {enc : α → List Value} {d : α} {l : List α} {b : Nat} (h : OwnL B w A sz enc d l b) (hs : ∀ x, (enc x).length = sz) (hpos : 0 < sz) : Rd w (fun b => B ≤ b ∧ b < w.heap.size) A (flat enc l) := by
  intro hne
  have hl : l ≠ [] := fun q => hne (by rw [q]; rfl)
  obtain ⟨hA, hb, ty, cs, hblk⟩ := h.at_ hl
  refine ⟨b, 0, hA, ⟨hb, hblk.lt⟩, fun j v hv => ?_⟩
  obtain ⟨x, h1, h2⟩ := flat_at hs hpos l j v hv
  have hlt : j / sz < l.length := (List.getElem?_eq_some_iff.1 h1).1
  have hx : l.getD (j / sz) d = x := by rw [List.getD_eq_getElem?_getD, h1]; rfl
  have := h.cells (j / sz) hlt (j % sz) v (by rw [hx]; exact h2)
  rw [Nat.zero_add]
  have e : j / sz * sz + j % sz = j := by rw [Nat.mul_comm]; exact Nat.div_add_mod j sz
  rw [e] at this
  exact this
theorem StOwn2.ok {B : Nat} {w : World} {y : StA} {s : St} (h : StOwn2 B w y s) : StOk w (fun b => B ≤ b ∧ b < w.heap.size) y s := by
  obtain ⟨bt, bc, ht, hc, -⟩ := h.ex
  exact ⟨ht.rd (fun _ => rfl) (by omega), hc.rd (fun _ => rfl) (by omega)⟩
theorem StOwn2.zero (B : Nat) (w : World) : StOwn2 B w noA St.zero :=
  ⟨0, 0, ⟨fun q => absurd rfl q, fun k hk => absurd hk (by simp [St.zero])⟩, ⟨fun q => absurd rfl q, fun k hk => absurd hk (by simp [St.zero])⟩, fun q => absurd rfl q⟩
end Go.Proofs.YtnnpgbleacapfaaGreat
