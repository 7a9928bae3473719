import Derived.Test.YtnnpgbleacapfaaGreatPa05
import Derived.Laws.OwnMore
namespace Go.Proofs.YtnnpgbleacapfaaGreat
open Go.RowKit
set_option linter.unusedSimpArgs false
set_option linter.unusedVariables false

def bodyOf (f : Func) : Code := match f.body with | some c => c | none => .skip
abbrev ptr (i : Nat) : Value := .pointer (some ⟨i, 0, none⟩)
abbrev slc (i n c : Nat) : Value := .slice (some ⟨i, 0, none⟩) n c
abbrev intRow (l : List Int) : ABlk := .row 3 1 l.length (fun j => intC (l.getD j 0))
abbrev tapeB (r n cap : Nat) (k : Int) : ABlk := .box 125 [slc r n cap, .int .i64 k]

theorem wrapi {n : Int} (h : -9223372036854775808 ≤ n ∧ n ≤ 9223372036854775807) : IntKind.i64.wrap n = n := by rw [IntKind.wrap_i64]; omega
theorem CSound.val {P : Program} {f : FuncId} {ct : CT} (ent : (P.funcs[f]?).map (fun fn => (fn.name == "runtime.NumGoroutine", fn.body.isNone)) = some (false, false))
    (h : ∀ (vs : List Value) (mem : AM) (nx : Nat) (K : Value → AM → Nat → Prop), ct vs mem nx K → ∃ v, K v mem nx ∧ plain1 v ∧ atom v = true ∧ ∀ (ρ : Nat → Pl) (w : World), Calls P f (vs.map (den ρ)).toArray w fun e w' => e = .returned v ∧ Below w.heap.size w w') : CSound P f ct :=
  ⟨ent, fun {C ρ fr mem nx a w vs K} hc hs hv => by
    obtain ⟨v, hK, hp, ha, hcall⟩ := h vs mem nx K hc
    refine (hcall ρ w).mono fun e w' ⟨he, hb⟩ => ?_
    have hd : den ρ v = v := by rw [atom_den ha, den1_plain hp]
    exact ⟨v, mem, nx, ρ, by rw [hd]; exact he, hK, hs.later hb, by rw [atom_ok ha]; exact ok1_plain hp, ExtS.refl _ _⟩⟩

def ctMod : CT := fun vs mem nx K => ∃ v n, vs = [.int .i64 v, .int .i64 n] ∧ (1 ≤ n ∧ n ≤ 2147483648) ∧ K (.int .i64 (v % n)) mem nx
theorem modOk : CSound Tryz.prog 96 ctMod := CSound.val (by kernel_rfl) (by
  rintro vs mem nx K ⟨v, n, rfl, hn, hK⟩
  refine ⟨_, hK, trivial, rfl, fun ρ w => ?_⟩
  refine (mkMod_any v n w hn.1 hn.2).mono ?_
  rintro e w' ⟨rfl, rfl⟩
  exact ⟨rfl, Below.refl _ _⟩)
theorem ft_cons {P : Program} {f : FuncId} {ct : CT} {r : FT} (h : CSound P f ct) (hr : FTok P r) : FTok P ((f, ct) :: r) := fun g c hl => by
  rcases lk_cons hl with ⟨rfl, rfl⟩ | ⟨_, hl⟩
  · exact h
  · exact hr g c hl
theorem ft_nil {P : Program} : FTok P [] := fun g c hl => by simp [lk] at hl

/-- A tape at its place k. -/
structure TpAt (w : World) (g : Nat) (A : Option Addr) (cap : Nat) (zs : List Int) (k : Int) : Prop where
  row : Rd w (fun b => b ≠ g ∧ b < w.heap.size) A (flat intC zs)
  blk : Blk w g 125 #[.slice A zs.length cap, .int .i64 k]
/-- The tape moves on, by one number at most; and it does, if there is a number. -/
abbrev Adv (zs : List Int) (k k' : Int) : Prop := k ≤ k' ∧ k' ≤ k + 1 ∧ (zs.length ≠ 0 → k' = k + 1)
def NextR (zs : List Int) (n k r k' : Int) : Prop := (0 ≤ r ∧ r < n) ∧ Adv zs k k'
def NextP (n : Int) (g : Nat) (A : Option Addr) (cap : Nat) (zs : List Int) (k : Int) (w : World) (e : Ending) (w' : World) : Prop :=
  ∃ r k', NextR zs n k r k' ∧ e = .returned (.int .i64 r) ∧ TpAt w' g A cap zs k' ∧ w.grownBy w' (some g)

def nextF : FT := [(96, ctMod)]
theorem nextFok : FTok Tryz.prog nextF := ft_cons modOk ft_nil
def nextD : List (Nat × DQ) := [
  (3, { k := 16, L := [0, 1], pre := [(0, false), (1, false), (2, false), (3, false), (4, false), (5, false), (6, false), (7, false), (8, false), (9, false), (10, false), (11, false), (12, false), (13, true), (14, true), (15, false)] }),
  (4, { k := 10, L := [0, 1], pre := [(0, false), (1, false), (2, false), (3, false), (4, false), (5, false), (6, false), (7, false), (8, false), (9, true)] })]
theorem next_sx (cap : Nat) (zs : List Int) (k n : Int) (hz : zs.length ≤ 400) (hk : 0 ≤ k ∧ k ≤ 1000000) (hn : 1 ≤ n ∧ n ≤ 1000000) :
    sx tt nextF nextD (bodyOf Tryz.f55) (argF 0 [ptr 0, .int .i64 n]) [(0, tapeB 1 zs.length cap k), (1, intRow zs)] 2
      (endx tt [.tmp 4] fun v mem' _ => ∃ k', (∃ n' r, [Value.int .i64 n] = [.int .i64 n'] ∧ v = .int .i64 r ∧ NextR zs n' k r k') ∧ (plain1 v ∧ atom v = true) ∧ lk mem' 0 = some (tapeB 1 zs.length cap k')) := by
  refine ⟨fun h0 => ?_, fun h0 => ?_⟩
  · have hz0 : (zs.length : Int) = 0 := by simpa using h0
    exact ⟨k, ⟨n, 0, rfl, rfl, ⟨by omega, by omega⟩, by omega, by omega, by omega⟩, ⟨trivial, rfl⟩, rfl⟩
  · have hpos : (zs.length : Int) ≠ 0 := by simpa using h0
    refine ⟨⟨rfl, hpos⟩, ⟨rfl, rfl, trivial⟩, ⟨Nat.le_refl _, ?i1, ?i2⟩, ⟨rfl, rfl, trivial⟩, ⟨rfl, hpos⟩, ⟨rfl, rfl, trivial⟩, ?rest⟩
    case i1 => exact Int.tmod_nonneg _ hk.1
    case i2 => exact Int.tmod_lt_of_pos _ (by omega)
    refine ⟨_, _, rfl, by decide, ?_⟩
    refine ⟨_, _, rfl, by omega, ?_⟩
    refine ⟨k + 1, ⟨n, _, rfl, rfl, ⟨Int.emod_nonneg _ (by omega), Int.emod_lt_of_pos _ (by omega)⟩, by omega, by omega, fun _ => rfl⟩, ⟨trivial, rfl⟩, ?_⟩
    show some (tapeB 1 zs.length cap (IntKind.i64.wrap (k + 1))) = _
    rw [wrapi (by omega)]
/-- A function that is handed a tape and plain values. -/
theorem tape_calls {f : FuncId} {fn : Func} {F : FT} {D : List (Nat × DQ)} (hF : FTok Tryz.prog F) (hf : (Tryz.prog).funcs[f]? = some fn) (hb : fn.body = some (bodyOf fn)) (hcode : codeB fn.ntmps D (bodyOf fn) = true) {args : List Value} (hn : Nat.ble (args.length + 1) fn.ntmps = true) (hargs : ∀ v ∈ args, plain1 v ∧ atom v = true)
    (g : Nat) (A : Option Addr) (cap : Nat) (zs : List Int) (k : Int) (w : World) (ht : TpAt w g A cap zs k) {R : Value → Int → Prop}
    (h : sx tt F D (bodyOf fn) (argF 0 (ptr 0 :: args)) [(0, tapeB 1 zs.length cap k), (1, intRow zs)] 2 (endx tt fn.results.toList fun v mem' _ => ∃ k', R v k' ∧ (plain1 v ∧ atom v = true) ∧ lk mem' 0 = some (tapeB 1 zs.length cap k'))) :
    Calls Tryz.prog f (.pointer (some ⟨g, 0, none⟩) :: args).toArray w fun e w' => ∃ v k', R v k' ∧ (plain1 v ∧ atom v = true) ∧ e = .returned v ∧ TpAt w' g A cap zs k' ∧ w.grownBy w' (some g) := by
  let ρ : Nat → Pl := fun j => match j with | 0 => ⟨some ⟨g, 0, none⟩, 0, 0, false⟩ | _ => ⟨A, 1, zs.length, false⟩
  have hrow : ∀ C nx, BlkOk C ρ nx 1 w (intRow zs) := fun C nx => row_of_rd (enc := intC) (sz := 1) (fun _ => rfl) (by omega) (fun x v hv => by simp [intC] at hv; subst hv; trivial) 0 rfl ht.row (fun b hb => hb.2)
  have hm := MemAt.one (ρ := ρ) (nx := 2) (nt := fn.ntmps) (w := w) (mem := [(1, intRow zs)]) (g := g) (i := 0) (t := 125) (cs := [slc 1 zs.length cap, .int .i64 k]) trivial (by omega) rfl
    ⟨g, rfl, by
      have := ht.blk
      simpa [den1, dA_whole, ρ] using this, .inr (by simp), fun v hv => by
        simp at hv
        rcases hv with rfl | rfl
        · exact ⟨Nat.lt_succ_self 1, rfl⟩
        · trivial⟩ ⟨⟨by omega, rfl, hrow _ _⟩, trivial⟩ (fun j t sz n el hj => by
      rcases lk_cons hj with ⟨rfl, q⟩ | ⟨_, q⟩
      · cases q
        by_cases h0 : zs.length = 0
        · exact .inl h0
        · obtain ⟨b, off, x, hA, hb, -, -⟩ := ht.row.row (enc := intC) (sz := 1) (fun _ => rfl) (by omega) (k := 0) (by omega)
          refine .inr ?_
          subst hA
          simp [bno, ρ]
          exact hb.1
      · simp [lk] at q)
  have hden : ∀ v ∈ args, den ρ v = v := fun v hv => by rw [atom_den (hargs v hv).2, den1_plain (hargs v hv).1]
  have hargs2 : (ptr 0 :: args).map (den ρ) = .pointer (some ⟨g, 0, none⟩) :: args := by
    rw [List.map_cons]
    refine congr (congrArg List.cons rfl) ?_
    conv => rhs; rw [← List.map_id args]
    exact List.map_congr_left fun v hv => hden v hv
  rw [← hargs2]
  refine (calls_sx ttOk hF mixed hf hb hcode (vs := ptr 0 :: args) hn ⟨rfl, rfl⟩ rfl hm (fun v hv => ?_) h).mono ?_
  · rcases List.mem_cons.1 hv with rfl | hv
    · exact ⟨⟨Nat.zero_lt_succ 1, rfl⟩, ⟨g, 0, rfl⟩, fun k hk => by cases hk⟩
    · rw [atom_ok (hargs v hv).2]; exact ok1_plain (hargs v hv).1
  · rintro e w' ⟨v, mem', nx', ρ', rfl, ⟨k', hr, hpl, hlk⟩, -, hm'⟩
    have e0 : ρ' 0 = ρ 0 := hm'.low 0 (Nat.zero_lt_succ 1)
    have e1 : ρ' 1 = ρ 1 := hm'.low 1 (Nat.lt_succ_self 1)
    obtain ⟨g', hA, hb, -, -⟩ := hm'.blk 0 _ hlk
    rw [e0] at hA
    cases hA
    have hgr : w.grownBy w' (some g) := ⟨hm'.rest.os, hm'.rest.tape, hm'.rest.output, hm'.rest.size, fun b hlt hne => hm'.rest.block b hlt (by simp; intro q; exact hne (by rw [q]))⟩
    refine ⟨v, k', hr, hpl, by rw [atom_den hpl.2, den1_plain hpl.1], ⟨?_, ?_⟩, hgr⟩
    · exact (ht.row.keep fun b hb => hgr.block b hb.2 (by intro q; injection q with q; exact hb.1 q)).more fun b hb => ⟨hb.1, Nat.lt_of_lt_of_le hb.2 hgr.size⟩
    · simpa [den1, dA_whole, e1, ρ] using hb
/-- A box that a callee has written. -/
theorem Sat.grownBox {C : Ctx} {ρ : Nat → Pl} {fr : AF} {mem : AM} {nx : Nat} {a : Act} {w w' : World} (h : Sat C ρ fr mem nx a w) {i g : Nat} {t t' : TypeId} {cs cs' : List Value} (hi : lk mem i = some (.box t cs)) (hA : (ρ i).A = some ⟨g, 0, none⟩) (hg : w.grownBy w' (some g))
    (hb : Blk w' g t' (cs'.map (den1 ρ)).toArray) (hcs : ∀ v ∈ cs', ok1 ρ nx v) : Sat C ρ fr ((i, .box t' cs') :: mem) nx a w' := by
  have hm : MemAt (Ctx.of w ρ nx [i] 0) ρ [(i, .box t' cs')] nx w' := by
    refine ⟨fun j b hj => ?_, fun j b hj => ?_, fun j k b b' hne hj hk => ?_, Nat.le_refl _, fun _ _ => rfl, ⟨hg.os, hg.tape, hg.output, hg.size, fun b hlt hn => hg.block b hlt (by
      intro q
      injection q with q
      subst q
      exact hn (List.mem_filterMap.2 ⟨i, by simp, by simp [bno, hA]⟩))⟩⟩
    · rcases lk_cons hj with ⟨rfl, rfl⟩ | ⟨_, q⟩
      · exact h.mlt _ _ (lk_app hi)
      · simp [lk] at q
    · rcases lk_cons hj with ⟨rfl, rfl⟩ | ⟨_, q⟩
      · exact ⟨g, hA, hb, .inr (List.mem_filterMap.2 ⟨i, by simp, by simp [bno, hA]⟩), hcs⟩
      · simp [lk] at q
    · rcases lk_cons hj with ⟨rfl, rfl⟩ | ⟨_, q⟩
      · rcases lk_cons hk with ⟨rfl, rfl⟩ | ⟨_, q⟩
        · exact absurd rfl hne
        · simp [lk] at q
      · simp [lk] at q
  refine h.after (keep := [(i, .box t' cs')]) hm (fun j hj => by simp at hj; subst hj; exact ⟨t, cs, hi⟩) (fun j b hj => ⟨hj, ?_⟩) (fun j hj => by simp at hj; subst hj; exact ⟨t', cs', lk_same _ _ _⟩) (fun j t sz n el _ hj => ?_)
  · rcases lk_cons hj with ⟨rfl, rfl⟩ | ⟨_, q⟩
    · exact .inl (by simp)
    · simp [lk] at q
  · rcases lk_cons hj with ⟨_, q⟩ | ⟨_, q⟩
    · cases q
    · simp [lk] at q
/-- The tape of an abstract memory, in the world. -/
theorem Sat.tape {C : Ctx} {ρ : Nat → Pl} {fr : AF} {mem : AM} {nx : Nat} {a : Act} {w : World} (h : Sat C ρ fr mem nx a w) {i r cap : Nat} {zs : List Int} {k : Int} (hi : lk mem i = some (tapeB r zs.length cap k)) (hr : lk mem r = some (intRow zs)) :
    ∃ g, (ρ i).A = some ⟨g, 0, none⟩ ∧ TpAt w g (ρ r).A cap zs k ∧ ok1 ρ nx (slc r zs.length cap) := by
  obtain ⟨g, hA, hb, -, hcs⟩ := h.blk i _ (lk_app hi)
  have hne : i ≠ r := by rintro rfl; rw [hi] at hr; cases hr
  have hap := h.sep i r _ _ hne (lk_app hi) (lk_app hr)
  refine ⟨g, hA, ⟨rd_of_row (enc := intC) (sz := 1) (fun _ => rfl) (by omega) (h.blk r _ (lk_app hr)) fun hl b off hAr hlt => ⟨?_, hlt⟩, by simpa [den1, dA_whole] using hb⟩, hcs _ (by simp)⟩
  rintro rfl
  rcases hap with h0 | h0
  · exact hl h0
  · exact h0 (by simp [bno, hA, hAr])
/-- How a function that is handed a tape is called. -/
def ctTape (R : List Int → List Value → Int → Value → Int → Prop) (pre : List Value → Int → Prop) : CT := fun vs mem nx K => ∃ i r cap zs k args, vs = ptr i :: args ∧ (lk mem i = some (tapeB r zs.length cap k) ∧ lk mem r = some (intRow zs)) ∧ (zs.length ≤ 400 ∧ 0 ≤ k ∧ k ≤ 1000000) ∧ pre args k ∧ ∀ z k', R zs args k z k' → K z ((i, tapeB r zs.length cap k') :: mem) nx
theorem tapeOk {f : FuncId} {R : List Int → List Value → Int → Value → Int → Prop} {pre : List Value → Int → Prop} (ent : ((Tryz.prog).funcs[f]?).map (fun fn => (fn.name == "runtime.NumGoroutine", fn.body.isNone)) = some (false, false))
    (hpre : ∀ args k, pre args k → ∀ v ∈ args, plain1 v ∧ atom v = true)
    (h : ∀ args g A cap zs k w, zs.length ≤ 400 → 0 ≤ k → k ≤ 1000000 → pre args k → TpAt w g A cap zs k → Calls Tryz.prog f (.pointer (some ⟨g, 0, none⟩) :: args).toArray w fun e w' => ∃ v k', R zs args k v k' ∧ (plain1 v ∧ atom v = true) ∧ e = .returned v ∧ TpAt w' g A cap zs k' ∧ w.grownBy w' (some g)) : CSound Tryz.prog f (ctTape R pre) :=
  ⟨ent, fun {C ρ fr mem nx a w vs K} hc hs hv => by
    obtain ⟨i, r, cap, zs, k, args, rfl, ⟨hi, hr⟩, ⟨hz, hk0, hk1⟩, hp, hK⟩ := hc
    obtain ⟨g, hA, ht, hok⟩ := hs.tape hi hr
    have hargs := hpre args k hp
    have hvs : (ptr i :: args).map (den ρ) = .pointer (some ⟨g, 0, none⟩) :: args := by
      rw [List.map_cons]
      refine congr (congrArg List.cons ?_) ?_
      · simp [den, den2, den1, dA_whole, hA]
      · conv => rhs; rw [← List.map_id args]
        exact List.map_congr_left fun v hv => by rw [atom_den (hargs v hv).2, den1_plain (hargs v hv).1]; rfl
    rw [hvs]
    refine (h args g (ρ r).A cap zs k w hz hk0 hk1 hp ht).mono ?_
    rintro e w' ⟨v, k', hR, hpl, rfl, ht', hg⟩
    refine ⟨v, _, nx, ρ, by rw [atom_den hpl.2, den1_plain hpl.1], hK v k' hR, hs.grownBox (cs' := [slc r zs.length cap, .int .i64 k']) hi hA hg ?_ ?_, by rw [atom_ok hpl.2]; exact ok1_plain hpl.1, ExtS.refl _ _⟩
    · simpa [den1, dA_whole] using ht'.blk
    · intro u hu
      simp at hu
      rcases hu with rfl | rfl
      · exact hok
      · trivial⟩
def preInt (lo hi : Int) (args : List Value) (k : Int) : Prop := ∃ n, args = [.int .i64 n] ∧ lo ≤ n ∧ n ≤ hi
theorem preInt_plain {lo hi : Int} (args : List Value) (k : Int) (h : preInt lo hi args k) : ∀ v ∈ args, plain1 v ∧ atom v = true := by
  obtain ⟨n, rfl, -⟩ := h
  intro v hv
  simp at hv
  subst hv
  exact ⟨trivial, rfl⟩
def ctNext : CT := ctTape (fun zs args k z k' => ∃ n r, args = [.int .i64 n] ∧ z = .int .i64 r ∧ NextR zs n k r k') (preInt 1 1000000)
theorem nextOk : CSound Tryz.prog 55 ctNext := tapeOk (by kernel_rfl) preInt_plain (by
  rintro args g A cap zs k w hz hk0 hk1 ⟨n, rfl, hn⟩ ht
  refine tape_calls nextFok Tryz.func55 rfl (D := nextD) (by kernel_rfl) rfl (preInt_plain _ k ⟨n, rfl, hn⟩) g A cap zs k w ht (R := fun z k' => ∃ n' r, [Value.int .i64 n] = [.int .i64 n'] ∧ z = .int .i64 r ∧ NextR zs n' k r k') ?_
  exact (next_sx cap zs k n hz ⟨hk0, hk1⟩ hn))
end Go.Proofs.YtnnpgbleacapfaaGreat

namespace Go.Proofs.YtnnpgbleacapfaaGreat
open Go.RowKit
set_option linter.unusedSimpArgs false
set_option linter.unusedVariables false

def tpF : FT := [(55, ctNext)]
theorem tpFok : FTok Tryz.prog tpF := ft_cons nextOk ft_nil
def ctYes : CT := ctTape (fun zs args k z k' => ∃ b, z = .bool b ∧ Adv zs k k') (preInt 1 1000000)
theorem yesOk : CSound Tryz.prog 57 ctYes := tapeOk (by kernel_rfl) preInt_plain (by
  rintro args g A cap zs k w hz hk0 hk1 ⟨n, rfl, hn⟩ ht
  refine tape_calls tpFok Tryz.func57 rfl (D := []) (by kernel_rfl) rfl (preInt_plain _ k ⟨n, rfl, hn⟩) g A cap zs k w ht (R := fun z k' => ∃ b, z = .bool b ∧ Adv zs k k') ?_
  refine ⟨0, 1, cap, zs, k, _, rfl, ⟨rfl, rfl⟩, ⟨hz, hk0, hk1⟩, ⟨n, rfl, hn⟩, ?_⟩
  rintro z k' ⟨n', r, hnn, rfl, hr⟩
  exact ⟨k', ⟨_, rfl, hr.2⟩, ⟨trivial, rfl⟩, rfl⟩)
def preRange (args : List Value) (k : Int) : Prop := ∃ lo hi, args = [.int .i64 lo, .int .i64 hi] ∧ -100000 ≤ lo ∧ lo ≤ hi ∧ hi ≤ 100000
theorem preRange_plain (args : List Value) (k : Int) (h : preRange args k) : ∀ v ∈ args, plain1 v ∧ atom v = true := by
  obtain ⟨n, m, rfl, -⟩ := h
  intro v hv
  simp at hv
  rcases hv with rfl | rfl
  · exact ⟨trivial, rfl⟩
  · exact ⟨trivial, rfl⟩
def RangeR (zs : List Int) (args : List Value) (k : Int) (z : Value) (k' : Int) : Prop := ∃ lo hi r, args = [.int .i64 lo, .int .i64 hi] ∧ z = .int .i64 r ∧ (lo ≤ r ∧ r ≤ hi) ∧ Adv zs k k'
def ctRange : CT := ctTape RangeR preRange
theorem rangeOk : CSound Tryz.prog 56 ctRange := tapeOk (by kernel_rfl) preRange_plain (by
  rintro args g A cap zs k w hz hk0 hk1 ⟨lo, hi, rfl, h1, h2, h3⟩ ht
  refine tape_calls tpFok Tryz.func56 rfl (D := []) (by kernel_rfl) rfl (preRange_plain _ k ⟨lo, hi, rfl, h1, h2, h3⟩) g A cap zs k w ht (R := fun z k' => RangeR zs _ k z k') ?_
  refine ⟨0, 1, cap, zs, k, _, rfl, ⟨rfl, rfl⟩, ⟨hz, hk0, hk1⟩, ⟨_, rfl, ?_⟩, ?_⟩
  · rw [wrapi (n := hi - lo) (by omega), wrapi (by omega)]; omega
  · rintro z k' ⟨n', r, hnn, rfl, hr⟩
    simp only [List.cons.injEq, Value.int.injEq, and_true, true_and] at hnn
    rw [wrapi (n := hi - lo) (by omega), wrapi (by omega)] at hnn
    subst hnn
    have hr1 := hr.1
    refine ⟨k', ⟨lo, hi, IntKind.i64.wrap (lo + r), rfl, rfl, ?_, hr.2⟩, ⟨trivial, rfl⟩, rfl⟩
    rw [wrapi (by omega)]; omega)
def preNone (args : List Value) (k : Int) : Prop := args = []
theorem preNone_plain (args : List Value) (k : Int) (h : preNone args k) : ∀ v ∈ args, plain1 v ∧ atom v = true := by
  cases h; intro v hv; cases hv
def ctMore : CT := ctTape (fun zs args k z k' => ∃ b, z = .bool b ∧ k' = k ∧ (b = true → k < zs.length)) preNone
def moreD : List (Nat × DQ) := [(1, { k := 10, L := [0], pre := [(0, false), (1, false), (2, false), (3, false), (4, false), (5, false), (6, false), (7, false), (8, false), (9, false)] })]
theorem moreOk : CSound Tryz.prog 97 ctMore := tapeOk (by kernel_rfl) preNone_plain (by
  rintro args g A cap zs k w hz hk0 hk1 hp ht
  cases hp
  refine tape_calls ft_nil Tryz.func97 rfl (D := moreD) (by kernel_rfl) rfl (preNone_plain _ k rfl) g A cap zs k w ht (R := fun z k' => ∃ b, z = .bool b ∧ k' = k ∧ (b = true → k < zs.length)) ?_
  exact ⟨k, ⟨_, rfl, rfl, fun h => of_decide_eq_true h⟩, ⟨trivial, rfl⟩, rfl⟩)
theorem flat_intH (l : List Int) : flat intC l = l.map (Value.int .i64) := by
  induction l with
  | nil => rfl
  | cons a l ih => simp only [flat, List.flatMap_cons, intC] at ih ⊢; simp [ih]
def ctTapeNew : CT := fun vs mem nx K => ∃ r cap zs, vs = [slc r (zs : List Int).length cap] ∧ lk mem r = some (intRow zs) ∧ zs.length ≤ 400 ∧ K (ptr nx) ((nx, tapeB r zs.length cap 0) :: mem) (nx + 1)
theorem tapeNewOk : CSound Tryz.prog 53 ctTapeNew := ⟨by kernel_rfl, fun {C ρ fr mem nx a w vs K} hc hs hv => by
  obtain ⟨r, cap, zs, rfl, hr, hz, hK⟩ := hc
  have hrd := rd_of_row (enc := intC) (sz := 1) (fun _ => rfl) (by omega) (hs.blk r _ (lk_app hr)) (S := (· < w.heap.size)) (fun _ b off _ hlt => hlt)
  rw [flat_intH] at hrd
  have hvs : [slc r zs.length cap].map (den ρ) = [.slice (ρ r).A zs.length cap] := by simp [den, den2, den1, dA_whole]
  rw [hvs]
  refine (mkTape_any (ρ r).A cap zs w hz hrd).mono ?_
  rintro e w' ⟨rfl, ht, hb⟩
  obtain ⟨e1, e2⟩ := ptr_new (ρ := ρ) (nx := nx) w.heap.size
  have hrn := hs.mlt r _ (lk_app hr)
  have hok : ok1 (setPl ρ nx ⟨some ⟨w.heap.size, 0, none⟩, 0, 0, false⟩) (nx + 1) (slc r zs.length cap) := ⟨by have := hrn.1; exact Nat.lt_succ_of_lt this, by rw [setPl_lt ρ _ hrn.1]; exact hrn.2⟩
  refine ⟨_, _, _, setPl ρ nx ⟨some ⟨w.heap.size, 0, none⟩, 0, 0, false⟩, by rw [e1], hK, hs.add hb ⟨w.heap.size, by rw [setPl_same], ?_, .inl hs.rest.size, ?_⟩ (fun g hg => by simp at hg; omega) rfl, e2, ExtS.set _ _ _⟩
  · have hA : (setPl ρ nx ⟨some ⟨w.heap.size, 0, none⟩, 0, 0, false⟩ r).A = (ρ r).A := by rw [setPl_lt ρ _ hrn.1]
    simpa [den1, dA_whole, hA] using ht.blk
  · intro u hu
    simp at hu
    rcases hu with rfl | rfl
    · exact hok
    · trivial⟩
end Go.Proofs.YtnnpgbleacapfaaGreat

namespace Go.Proofs.YtnnpgbleacapfaaGreat
open Go.RowKit
set_option linter.unusedSimpArgs false
set_option linter.unusedVariables false

/-! Configurations and states in the abstract memory. -/
structure CN where
  z : Nat
  c : Nat
  t : Nat
  v : Nat
  r : Nat
  o : Nat
  g : Nat
structure SN where
  t : Nat
  c : Nat
  g : Nat
structure CfgK where
  cz : Nat
  cc : Nat
  ct : Nat
  cv : Nat
  cr : Nat
  co : Nat
structure StK where
  ct : Nat
  cc : Nat
abbrev cfgV (n : CN) (x : CfgK) (c : Cfg) : Value := .agg #[.int .i64 c.regions, slc n.z c.zones.length x.cz, slc n.c c.cells.length x.cc, slc n.t c.tenants.length x.ct, slc n.v c.versions.length x.cv, slc n.r c.replicas.length x.cr, slc n.o c.observers.length x.co, .int .i64 c.blast, .int .i64 c.lease, .int .i64 c.bake]
abbrev stV (n : SN) (y : StK) (s : St) : Value := .agg #[.int .i64 s.tick, .int .i64 s.count, slc n.t s.tenants.length y.ct, slc n.c s.cells.length y.cc, .int .i64 s.proven, .int .i64 s.evac, .int .i64 s.low, .int .i64 s.high]
abbrev entV' (e : Ent) : Value := .agg #[.int .i64 e.kind, .int .i64 e.tick, .int .i64 e.tenant, .int .i64 e.cell, .int .i64 e.other, .int .i64 e.epoch, .int .i64 e.since, .int .i64 e.till, .int .i64 e.n]
abbrev rowOfL {α : Type} (t : TypeId) (sz : Nat) (enc : α → List Value) (d : α) (l : List α) : ABlk := .row t sz l.length (fun k => enc (l.getD k d))
abbrev cfgM (n : CN) (c : Cfg) : AM := [(n.z, rowOfL n.g 1 intC 0 c.zones), (n.c, rowOfL n.g 2 pairC (0, 0) c.cells), (n.t, rowOfL n.g 7 tenC default c.tenants), (n.v, rowOfL n.g 2 pairC (0, 0) c.versions), (n.r, rowOfL n.g 1 intC 0 c.replicas), (n.o, rowOfL n.g 1 intC 0 c.observers)]
abbrev stM (n : SN) (s : St) : AM := [(n.t, rowOfL n.g 12 tsC default s.tenants), (n.c, rowOfL n.g 4 csC default s.cells)]
def cfgX (ρ : Nat → Pl) (n : CN) (x : CfgK) : CfgA := ⟨(ρ n.z).A, x.cz, (ρ n.c).A, x.cc, (ρ n.t).A, x.ct, (ρ n.v).A, x.cv, (ρ n.r).A, x.cr, (ρ n.o).A, x.co⟩
def stX (ρ : Nat → Pl) (n : SN) (y : StK) : StA := ⟨(ρ n.t).A, y.ct, (ρ n.c).A, y.cc⟩
theorem den_cfg (ρ : Nat → Pl) (n : CN) (x : CfgK) (c : Cfg) : den ρ (cfgV n x c) = .agg (cfgC (cfgX ρ n x) c) := by simp [den, den2, den1, dA_whole, cfgC, cfgX]
theorem den_st (ρ : Nat → Pl) (n : SN) (y : StK) (s : St) : den ρ (stV n y s) = .agg (stC (stX ρ n y) s) := by simp [den, den2, den1, dA_whole, stC, stX]
theorem intC_plain : ∀ x, ∀ v ∈ intC x, plain1 v := fun x v hv => by simp [intC] at hv; subst hv; trivial
theorem pairC_plain : ∀ x, ∀ v ∈ pairC x, plain1 v := fun x v hv => by simp [pairC] at hv; rcases hv with rfl | rfl <;> trivial
theorem tenC_plain : ∀ x, ∀ v ∈ tenC x, plain1 v := fun x v hv => by simp [tenC] at hv; rcases hv with rfl | rfl | rfl | rfl | rfl | rfl | rfl <;> trivial
theorem tsC_plain : ∀ x, ∀ v ∈ tsC x, plain1 v := fun x v hv => by simp [tsC] at hv; rcases hv with rfl | rfl | rfl | rfl | rfl | rfl | rfl | rfl | rfl | rfl | rfl | rfl <;> trivial
theorem csC_plain : ∀ x, ∀ v ∈ csC x, plain1 v := fun x v hv => by simp [csC] at hv; rcases hv with rfl | rfl | rfl | rfl <;> trivial
theorem entC_plain : ∀ x, ∀ v ∈ entC x, plain1 v := fun x v hv => by simp [entC] at hv; rcases hv with rfl | rfl | rfl | rfl | rfl | rfl | rfl | rfl | rfl <;> trivial

section
variable {C : Ctx} {ρ : Nat → Pl} {fr : AF} {mem : AM} {nx : Nat} {a : Act} {w : World}
/-- Where the rows of a configuration lie. -/
structure CfgPl (ρ : Nat → Pl) (n : CN) (x : CfgA) (c : Cfg) : Prop where
  z : ρ n.z = ⟨x.az, 1, c.zones.length, false⟩
  cc : ρ n.c = ⟨x.ac, 2, c.cells.length, false⟩
  tt : ρ n.t = ⟨x.at_, 7, c.tenants.length, false⟩
  v : ρ n.v = ⟨x.av, 2, c.versions.length, false⟩
  r : ρ n.r = ⟨x.ar, 1, c.replicas.length, false⟩
  o : ρ n.o = ⟨x.ao, 1, c.observers.length, false⟩
structure StPl (ρ : Nat → Pl) (n : SN) (y : StA) (s : St) : Prop where
  t : ρ n.t = ⟨y.at_, 12, s.tenants.length, false⟩
  c : ρ n.c = ⟨y.ac, 4, s.cells.length, false⟩
theorem own_of_fr {t : TypeId} (h : frT t = false) : ownT t = false := by
  cases ho : ownT t with
  | false => rfl
  | true => have := frT_own ho; rw [h] at this; cases this
theorem cfg_blks {n : CN} {x : CfgA} {c : Cfg} {S : Nat → Prop} (hp : CfgPl ρ n x c) (hc : CfgOk w S x c) (hS : ∀ b, S b → b < w.heap.size) (hn : n.z < nx ∧ n.c < nx ∧ n.t < nx ∧ n.v < nx ∧ n.r < nx ∧ n.o < nx) {r : AM} (hr : blksOk C ρ nx w r) (hg : frT n.g = false := by rfl) : blksOk C ρ nx w (cfgM n c ++ r) :=
  ⟨⟨hn.1, by rw [hp.z], row_of_rd (enc := intC) (sz := 1) (fun _ => rfl) (by omega) intC_plain 0 hp.z hc.zones hS (own_of_fr hg) (fun h => by rw [hg] at h; cases h)⟩, ⟨hn.2.1, by rw [hp.cc], row_of_rd (enc := pairC) (sz := 2) (fun _ => rfl) (by omega) pairC_plain (0, 0) hp.cc hc.cells hS (own_of_fr hg) (fun h => by rw [hg] at h; cases h)⟩,
    ⟨hn.2.2.1, by rw [hp.tt], row_of_rd (enc := tenC) (sz := 7) (fun _ => rfl) (by omega) tenC_plain default hp.tt hc.tenants hS (own_of_fr hg) (fun h => by rw [hg] at h; cases h)⟩, ⟨hn.2.2.2.1, by rw [hp.v], row_of_rd (enc := pairC) (sz := 2) (fun _ => rfl) (by omega) pairC_plain (0, 0) hp.v hc.versions hS (own_of_fr hg) (fun h => by rw [hg] at h; cases h)⟩,
    ⟨hn.2.2.2.2.1, by rw [hp.r], row_of_rd (enc := intC) (sz := 1) (fun _ => rfl) (by omega) intC_plain 0 hp.r hc.replicas hS (own_of_fr hg) (fun h => by rw [hg] at h; cases h)⟩, ⟨hn.2.2.2.2.2, by rw [hp.o], row_of_rd (enc := intC) (sz := 1) (fun _ => rfl) (by omega) intC_plain 0 hp.o hc.observers hS (own_of_fr hg) (fun h => by rw [hg] at h; cases h)⟩, hr⟩
theorem st_blks {n : SN} {y : StA} {s : St} {S : Nat → Prop} (hp : StPl ρ n y s) (hc : StOk w S y s) (hS : ∀ b, S b → b < w.heap.size) (hn : n.t < nx ∧ n.c < nx) {r : AM} (hr : blksOk C ρ nx w r) (hg : frT n.g = false := by rfl) : blksOk C ρ nx w (stM n s ++ r) :=
  ⟨⟨hn.1, by rw [hp.t], row_of_rd (enc := tsC) (sz := 12) (fun _ => rfl) (by omega) tsC_plain default hp.t hc.tenants hS (own_of_fr hg) (fun h => by rw [hg] at h; cases h)⟩, ⟨hn.2, by rw [hp.c], row_of_rd (enc := csC) (sz := 4) (fun _ => rfl) (by omega) csC_plain default hp.c hc.cells hS (own_of_fr hg) (fun h => by rw [hg] at h; cases h)⟩, hr⟩
/-- Of a row of the abstract memory: its place, apart from a box. -/
theorem Sat.rd (h : Sat C ρ fr mem nx a w) {α : Type} {enc : α → List Value} {sz : Nat} (hsz : ∀ x, (enc x).length = sz) (hpos : 0 < sz) {l : List α} {d : α} {i : Nat} {t : TypeId} (hi : lk mem i = some (rowOfL t sz enc d l)) {S : Nat → Prop}
    (hS : ∀ b, b < w.heap.size → (∀ j t cs, lk mem j = some (.box t cs) → bno ρ j ≠ some b) → S b) : Rd w S (ρ i).A (flat enc l) :=
  rd_of_row hsz hpos (h.blk i _ (lk_app hi)) fun hl b off hA hlt => hS b hlt fun j t cs hj he => by
    have hne : j ≠ i := by rintro rfl; rw [hi] at hj; cases hj
    rcases h.sep j i _ _ hne (lk_app hj) (lk_app hi) with h0 | h0
    · exact hl h0
    · exact h0 (by rw [he]; simp [bno, hA])
theorem Sat.cfg (h : Sat C ρ fr mem nx a w) {n : CN} {x : CfgK} {c : Cfg} (hk : keeps mem (cfgM n c)) {S : Nat → Prop} (hS : ∀ b, b < w.heap.size → (∀ j t cs, lk mem j = some (.box t cs) → bno ρ j ≠ some b) → S b) : CfgOk w S (cfgX ρ n x) c := by
  obtain ⟨k1, k2, k3, k4, k5, k6, -⟩ := hk
  exact ⟨h.rd (enc := intC) (sz := 1) (fun _ => rfl) (by omega) k1 hS, h.rd (enc := pairC) (sz := 2) (fun _ => rfl) (by omega) k2 hS, h.rd (enc := tenC) (sz := 7) (fun _ => rfl) (by omega) k3 hS, h.rd (enc := pairC) (sz := 2) (fun _ => rfl) (by omega) k4 hS, h.rd (enc := intC) (sz := 1) (fun _ => rfl) (by omega) k5 hS, h.rd (enc := intC) (sz := 1) (fun _ => rfl) (by omega) k6 hS⟩
theorem Sat.st (h : Sat C ρ fr mem nx a w) {n : SN} {y : StK} {s : St} (hk : keeps mem (stM n s)) {S : Nat → Prop} (hS : ∀ b, b < w.heap.size → (∀ j t cs, lk mem j = some (.box t cs) → bno ρ j ≠ some b) → S b) : StOk w S (stX ρ n y) s := by
  obtain ⟨k1, k2, -⟩ := hk
  exact ⟨h.rd (enc := tsC) (sz := 12) (fun _ => rfl) (by omega) k1 hS, h.rd (enc := csC) (sz := 4) (fun _ => rfl) (by omega) k2 hS⟩
end
/-- Values without names. -/
def pureV : Value → Prop
  | .agg cs => ∀ v ∈ cs, plain1 v
  | .tuple _ => False
  | .func _ _ _ => False
  | v => plain1 v
theorem pure_den {v : Value} (h : pureV v) (ρ : Nat → Pl) (n : Nat) : den ρ v = v ∧ okV ρ n v := by
  cases v with
  | agg cs =>
    refine ⟨?_, fun u hu => ok1_plain (h u hu)⟩
    show Value.agg (cs.map (den1 ρ)) = _
    congr 1
    conv => rhs; rw [← Array.map_id cs]
    exact Array.map_congr_left fun u hu => den1_plain (h u hu)
  | tuple vs => exact h.elim
  | func f a b => exact h.elim
  | pointer p => cases p with
    | none => exact ⟨rfl, trivial⟩
    | some a => exact h.elim
  | slice p k c => cases p with
    | none => exact ⟨rfl, trivial⟩
    | some a => exact h.elim
  | _ => exact ⟨rfl, trivial⟩
theorem pure_ent (e : Ent) : pureV (entV' e) := fun v hv => by
  simp at hv
  rcases hv with rfl | rfl | rfl | rfl | rfl | rfl | rfl | rfl | rfl <;> trivial
end Go.Proofs.YtnnpgbleacapfaaGreat

namespace Go.Proofs.YtnnpgbleacapfaaGreat
open Go.RowKit
set_option linter.unusedSimpArgs false
set_option linter.unusedVariables false

set_option maxHeartbeats 400000 in
theorem r4Has_any (set i : Int) (w : World) (h0 : 0 ≤ set) (h1 : set < 4294967296) :
    Calls Tryz.prog 116 #[.int .i64 set, .int .i64 i] w fun e w' => e = .returned (.bool (hasB set i)) ∧ w = w' := by
  have HB := Lib.hid (bit_div set i h0)
  go_enter Tryz.func116, Tryz.ntmps116
  go_wp2
  all_goals
    go_ret
    refine ⟨ret_bool ?_, rfl⟩
  · rw [HB.out (by omega)]
    simp [hasB, *]
  · simp [hasB]
    omega
  · simp [hasB]
    omega

set_option maxHeartbeats 400000 in
theorem r4ZoneOf_any (x : CfgA) (c : Cfg) (k : Int) (w : World) (hV : CfgV c) (hok : CfgOk w (· < w.heap.size) x c) :
    Calls Tryz.prog 148 #[.agg (cfgC x c), .int .i64 k] w fun e w' => e = .returned (.int .i64 (zoneOf c k)) ∧ Below w.heap.size w w' := by
  obtain ⟨az, cz, ac, cc, at_, ct, av, cv, ar, cr, ao, co⟩ := x
  have hnc := hV.nc
  have HK := Lib.hid hok
  clear hok hV
  unfold cfgC
  simp only
  by_cases hk : 0 ≤ k ∧ k < c.cells.length
  · obtain ⟨hk0, hk1⟩ := hk
    obtain ⟨n, rfl⟩ := Int.eq_ofNat_of_zero_le hk0
    have hn : n < c.cells.length := by omega
    obtain ⟨b, off, z, rfl, hb, hz, hcell⟩ := HK.out.cells.row (enc := pairC) (sz := 2) (fun _ => rfl) (by omega) hn
    have e0 := hcell 0 (.int .i64 z.1) rfl
    simp only [Nat.add_zero] at e0
    have hzo : zoneOf c n = z.1 := by unfold zoneOf; rw [if_pos ⟨hk0, hk1⟩, Int.toNat_natCast, getD_some hz]
    have HZ := Lib.hid hzo
    have hb1 : b < w.heap.size := hb
    clear hcell hz hzo
    go_enter Tryz.func148, Tryz.ntmps148
    go_wp2
    go_ret
    exact ⟨ret_i64 HZ.out.symm, (Below.refl _ _).alloc (Nat.le_refl _) _⟩
  · have hzo : zoneOf c k = -1 := by unfold zoneOf; rw [if_neg hk]
    have HZ := Lib.hid hzo
    have hd : k < 0 ∨ (0 ≤ k ∧ (c.cells.length : Int) ≤ k) := by omega
    clear hk hzo
    rcases hd with hd | ⟨hd1, hd⟩
    all_goals
      go_enter Tryz.func148, Tryz.ntmps148
      go_wp2
      go_ret
      exact ⟨ret_i64 HZ.out.symm, (Below.refl _ _).alloc (Nat.le_refl _) _⟩

theorem zoneOf_bd {c : Cfg} (hV : CfgV c) (k : Int) : (zoneOf c k = -1) ∨ (0 ≤ zoneOf c k ∧ zoneOf c k < c.zones.length) := by
  unfold zoneOf
  split
  · rename_i h
    obtain ⟨n, rfl⟩ := Int.eq_ofNat_of_zero_le h.1
    have hn : n < c.cells.length := by omega
    right
    rw [List.getD_eq_getElem?_getD, Int.toNat_natCast, List.getElem?_eq_getElem hn]
    exact hV.zone _ (List.getElem_mem hn)
  · exact .inl rfl
theorem regionOf_bd {c : Cfg} (hV : CfgV c) (k : Int) : -1 ≤ regionOf c k ∧ regionOf c k < c.regions := by
  unfold regionOf regZone
  have hr := hV.reg
  split
  · rename_i h
    obtain ⟨n, hn⟩ := Int.eq_ofNat_of_zero_le h.1
    rw [hn] at h ⊢
    have hl : n < c.zones.length := by omega
    rw [List.getD_eq_getElem?_getD, Int.toNat_natCast, List.getElem?_eq_getElem hl]
    have := hV.region _ (List.getElem_mem hl)
    simp only [Option.getD_some]
    omega
  · omega

set_option maxHeartbeats 400000 in
theorem r4RegionOf_any (x : CfgA) (c : Cfg) (k : Int) (w : World) (hV : CfgV c) (hok : CfgOk w (· < w.heap.size) x c) :
    Calls Tryz.prog 118 #[.agg (cfgC x c), .int .i64 k] w fun e w' => e = .returned (.int .i64 (regionOf c k)) ∧ Below w.heap.size w w' := by
  obtain ⟨az, cz, ac, cc, at_, ct, av, cv, ar, cr, ao, co⟩ := x
  have hnc := hV.nz
  have HV := Lib.hid hV
  have HK := Lib.hid hok
  have hzb := zoneOf_bd hV k
  clear hok hV
  unfold cfgC
  simp only
  go_enter Tryz.func118, Tryz.ntmps118
  go_wp2_with fail
  refine (r4ZoneOf_any ⟨az, cz, ac, cc, at_, ct, av, cv, ar, cr, ao, co⟩ c k _ HV.out (HK.out.allocW _)).mono ?_
  rintro e w1 ⟨rfl, hb1⟩
  have HB : Hid (Below w.heap.size w w1) := ((Below.refl _ _).alloc (Nat.le_refl _) _).trans (hb1.mono (by simp))
  obtain ⟨hc1, hf1⟩ := bcell hb1
  have HR : Hid (regionOf c k = regZone c (zoneOf c k)) := rfl
  generalize zoneOf c k = z at *
  rcases hzb with rfl | ⟨hz0, hz1⟩
  · clear hc1 hf1 hb1
    go_wp2
    go_ret
    exact ⟨ret_i64 (by rw [HR.out]; simp [regZone]), HB.out⟩
  · obtain ⟨n, rfl⟩ := Int.eq_ofNat_of_zero_le hz0
    have hn : n < c.zones.length := by omega
    obtain ⟨b, off, z, rfl, hb, hz, hcell⟩ := HK.out.zones.row (enc := intC) (sz := 1) (fun _ => rfl) (by omega) hn
    have e0 := hcell 0 (.int .i64 z) rfl
    simp only [Nat.add_zero, Nat.mul_one] at e0
    have hzo : regZone c n = z := by unfold regZone; rw [if_pos ⟨hz0, hz1⟩, Int.toNat_natCast, getD_some hz]
    have HZ := Lib.hid (HR.out.trans hzo)
    have hb0 : b < w.heap.size := hb
    have e1 : w1.cell? ⟨b, off + n, none⟩ = some (.int .i64 z) := by rw [hc1 b _ (by simp; omega), World.cell?_alloc_lt w _ _ (show b < w.heap.size from hb)]; exact e0
    have d1 : w1.cell? ⟨w.heap.size, 1, none⟩ = some (.slice (some ⟨b, off, none⟩) c.zones.length cz) := by rw [hc1 _ _ (by simp)]; go_simp
    clear hcell hz hzo hc1 hf1 hb1 HR e0
    go_wp2
    go_ret
    exact ⟨ret_i64 HZ.out.symm, HB.out⟩
end Go.Proofs.YtnnpgbleacapfaaGreat

namespace Go.Proofs.YtnnpgbleacapfaaGreat
open Go.RowKit
set_option linter.unusedSimpArgs false
set_option linter.unusedVariables false

instance laterNonempty {B : Nat} {w : World} : Nonempty (Later B w) := ⟨⟨w, Below.refl _ _⟩⟩
section
variable {P : Program}
theorem quiet_belowW {w : World} (x : Later w.heap.size w) {f : FuncId} {args : Array Value} {v : Value}
    (h : Calls P f args x.world fun e w' => e = .returned v ∧ Below x.world.heap.size x.world w') : Calls P f args x.world fun e w'' => e = .returned v ∧ ∃ y : Later w.heap.size w, w'' = y.world :=
  h.mono fun _ w' ⟨he, hb⟩ => ⟨he, ⟨⟨w', x.below.trans (hb.mono x.below.size)⟩, rfl⟩⟩
theorem quiet_sameW {B : Nat} {w : World} (x : Later B w) {f : FuncId} {args : Array Value} {v : Value}
    (h : Calls P f args x.world fun e w' => e = .returned v ∧ x.world = w') : Calls P f args x.world fun e w'' => e = .returned v ∧ ∃ y : Later B w, w'' = y.world :=
  h.mono fun _ w' ⟨he, hb⟩ => ⟨he, ⟨x, hb.symm⟩⟩
end
theorem CfgOk.laterW {w : World} {x : CfgA} {c : Cfg} (h : CfgOk w (· < w.heap.size) x c) (y : Later w.heap.size w) : CfgOk y.world (· < y.world.heap.size) x c := h.belowW y.below
theorem StOk.laterW {w : World} {x : StA} {c : St} (h : StOk w (· < w.heap.size) x c) (y : Later w.heap.size w) : StOk y.world (· < y.world.heap.size) x c := h.belowW y.below

set_option maxHeartbeats 1000000 in
theorem r5Apart_any (x : CfgA) (c : Cfg) (a b : Int) (w : World) (hV : CfgV c) (hok : CfgOk w (· < w.heap.size) x c) :
    Calls Tryz.prog 153 #[.agg (cfgC x c), .int .i64 a, .int .i64 b] w fun e w' => e = .returned (.bool (apartB c a b)) ∧ Below w.heap.size w w' := by
  obtain ⟨az, cz, ac, cc, at_, ct, av, cv, ar, cr, ao, co⟩ := x
  have HV := Lib.hid hV
  have HK := Lib.hid hok
  have HL := Lib.hid ((Below.refl w.heap.size w).alloc (Nat.le_refl _) (.cells (cfgC ⟨az, cz, ac, cc, at_, ct, av, cv, ar, cr, ao, co⟩ c) 30))
  have HW := Lib.hid (HK.out.allocW (.cells (cfgC ⟨az, cz, ac, cc, at_, ct, av, cv, ar, cr, ao, co⟩ c) 30))
  have hBx := Blk.new w 30 (cfgC ⟨az, cz, ac, cc, at_, ct, av, cv, ar, cr, ao, co⟩ c)
  have hg := hBx.lt
  have d0 := hBx.cell' (i := 0) (v := .int .i64 c.regions) rfl
  have d1 := hBx.cell' (i := 1) (v := .slice az c.zones.length cz) rfl
  have d2 := hBx.cell' (i := 2) (v := .slice ac c.cells.length cc) rfl
  have d3 := hBx.cell' (i := 3) (v := .slice at_ c.tenants.length ct) rfl
  have d4 := hBx.cell' (i := 4) (v := .slice av c.versions.length cv) rfl
  have d5 := hBx.cell' (i := 5) (v := .slice ar c.replicas.length cr) rfl
  have d6 := hBx.cell' (i := 6) (v := .slice ao c.observers.length co) rfl
  have d7 := hBx.cell' (i := 7) (v := .int .i64 c.blast) rfl
  have d8 := hBx.cell' (i := 8) (v := .int .i64 c.lease) rfl
  have d9 := hBx.cell' (i := 9) (v := .int .i64 c.bake) rfl
  clear hBx
  unfold cfgC at HL HW d0 d1 d2 d3 d4 d5 d6 d7 d8 d9 hg
  simp only at HL HW d0 d1 d2 d3 d4 d5 d6 d7 d8 d9 hg
  clear hok hV HK
  unfold cfgC
  simp only
  go_enter Tryz.func153, Tryz.ntmps153
  go_wp2_with fail
  generalize w.alloc _ = W at *
  have hx : ∀ (y : Later W.heap.size W) b o, b < W.heap.size → y.world.cell? ⟨b, o, none⟩ = W.cell? ⟨b, o, none⟩ := fun y b o h => y.cell h
  refine wp_region_below W.heap.size (by kernel_rfl) (by kernel_rfl) ?_
  repeat (quiet_step ((go_at_call 118; exact quiet_belowW _ (r4RegionOf_any ⟨az, cz, ac, cc, at_, ct, av, cv, ar, cr, ao, co⟩ c _ _ HV.out (HW.out.laterW _)))))
  refine wpQuiet_nil ?_
  rintro w' ⟨y, rfl⟩
  have HY := Lib.hid (HL.out.trans (y.below.mono (Nat.le_of_lt hg)))
  have HA : Hid (apartB c a b = (decide (0 ≤ regionOf c a) && decide (0 ≤ regionOf c b) && decide (regionOf c a ≠ regionOf c b))) := Lib.hid rfl
  generalize regionOf c a = ra at *
  generalize regionOf c b = rb at *
  clear hx d0 d1 d2 d3 d4 d5 d6 d7 d8 d9 hg
  go_wp2
  all_goals
    go_ret
    refine ⟨ret_bool ?_, HY.out⟩
    rw [HA.out, Bool.eq_iff_iff]
    go_light
    simp
    try omega

theorem tenAt_bd {c : Cfg} (hV : CfgV c) {n : Nat} {t : Ten} (h : c.tenants[n]? = some t) : 1 ≤ t.load ∧ t.load ≤ 65536 ∧ 0 ≤ t.shadow ∧ t.shadow ≤ t.load ∧ 1 ≤ t.allowed ∧ t.allowed ≤ 15 := by
  have h1 := hV.ten t (List.mem_of_getElem? h)
  have h2 : 2 ≤ shl1 c.regions ∧ shl1 c.regions ≤ 16 := by unfold shl1; repeat' split <;> omega
  simp [tenOk, inR] at h1
  omega

set_option maxHeartbeats 1000000 in
theorem r5May_any (x : CfgA) (c : Cfg) (t k : Int) (w : World) (hV : CfgV c) (hok : CfgOk w (· < w.heap.size) x c) :
    Calls Tryz.prog 141 #[.agg (cfgC x c), .int .i64 t, .int .i64 k] w fun e w' => e = .returned (.bool (mayB c t k)) ∧ Below w.heap.size w w' := by
  obtain ⟨az, cz, ac, cc, at_, ct, av, cv, ar, cr, ao, co⟩ := x
  have HV := Lib.hid hV
  have HK := Lib.hid hok
  have hnt := hV.nt
  clear hok hV
  by_cases ht : 0 ≤ t ∧ t < c.tenants.length
  · obtain ⟨ht0, ht1⟩ := ht
    obtain ⟨n, rfl⟩ := Int.eq_ofNat_of_zero_le ht0
    have hn : n < c.tenants.length := by omega
    obtain ⟨b, off, z, rfl, hb, hz, hcell⟩ := HK.out.tenants.row (enc := tenC) (sz := 7) (fun _ => rfl) (by omega) hn
    have e4 := hcell 4 (.int .i64 z.allowed) rfl
    have hzb := tenAt_bd HV.out hz
    have hm : mayB c n k = hasB z.allowed (regionOf c k) := by
      unfold mayB tenAt
      rw [Int.toNat_natCast, getD_some hz]
      simp [hn]
    have HM := Lib.hid hm
    have hb1 : b < w.heap.size := hb
    have HL := Lib.hid ((Below.refl w.heap.size w).alloc (Nat.le_refl _) (.cells (cfgC ⟨az, cz, ac, cc, some ⟨b, off, none⟩, ct, av, cv, ar, cr, ao, co⟩ c) 30))
    have HW := Lib.hid (HK.out.allocW (.cells (cfgC ⟨az, cz, ac, cc, some ⟨b, off, none⟩, ct, av, cv, ar, cr, ao, co⟩ c) 30))
    have hBx := Blk.new w 30 (cfgC ⟨az, cz, ac, cc, some ⟨b, off, none⟩, ct, av, cv, ar, cr, ao, co⟩ c)
    have hg := hBx.lt
    have d0 := hBx.cell' (i := 0) (v := .int .i64 c.regions) rfl
    have d1 := hBx.cell' (i := 1) (v := .slice az c.zones.length cz) rfl
    have d2 := hBx.cell' (i := 2) (v := .slice ac c.cells.length cc) rfl
    have d3 := hBx.cell' (i := 3) (v := .slice (some ⟨b, off, none⟩) c.tenants.length ct) rfl
    have d4 := hBx.cell' (i := 4) (v := .slice av c.versions.length cv) rfl
    have d5 := hBx.cell' (i := 5) (v := .slice ar c.replicas.length cr) rfl
    have d6 := hBx.cell' (i := 6) (v := .slice ao c.observers.length co) rfl
    have d7 := hBx.cell' (i := 7) (v := .int .i64 c.blast) rfl
    have d8 := hBx.cell' (i := 8) (v := .int .i64 c.lease) rfl
    have d9 := hBx.cell' (i := 9) (v := .int .i64 c.bake) rfl
    clear hBx
    unfold cfgC at HL HW d0 d1 d2 d3 d4 d5 d6 d7 d8 d9 hg
    simp only at HL HW d0 d1 d2 d3 d4 d5 d6 d7 d8 d9 hg
    have e4' : (w.alloc (.cells (cfgC ⟨az, cz, ac, cc, some ⟨b, off, none⟩, ct, av, cv, ar, cr, ao, co⟩ c) 30)).cell? ⟨b, off + n * 7 + 4, none⟩ = some (.int .i64 z.allowed) := by
      rw [World.cell?_alloc_lt w _ _ (show b < w.heap.size from hb)]; exact e4
    have hb2 : b < (w.alloc (.cells (cfgC ⟨az, cz, ac, cc, some ⟨b, off, none⟩, ct, av, cv, ar, cr, ao, co⟩ c) 30)).heap.size := Nat.lt_trans hb1 hg
    unfold cfgC at *
    simp only at *
    clear HK hcell hz hm e4
    go_enter Tryz.func141, Tryz.ntmps141
    go_wp2_with fail
    generalize w.alloc _ = W at *
    have hx : ∀ (y : Later W.heap.size W) b o, b < W.heap.size → y.world.cell? ⟨b, o, none⟩ = W.cell? ⟨b, o, none⟩ := fun y b o h => y.cell h
    refine wp_region_below W.heap.size (by kernel_rfl) (by kernel_rfl) ?_
    repeat (first | go_big_quiet_step ((first | (go_at_call 118; exact quiet_belowW _ (r4RegionOf_any ⟨az, cz, ac, cc, some ⟨b, off, none⟩, ct, av, cv, ar, cr, ao, co⟩ c _ _ HV.out (HW.out.laterW _))) | (go_at_call 116; exact quiet_sameW _ (r4Has_any _ _ _ (by omega) (by omega))))) | quiet_step ((first | (go_at_call 118; exact quiet_belowW _ (r4RegionOf_any ⟨az, cz, ac, cc, some ⟨b, off, none⟩, ct, av, cv, ar, cr, ao, co⟩ c _ _ HV.out (HW.out.laterW _))) | (go_at_call 116; exact quiet_sameW _ (r4Has_any _ _ _ (by omega) (by omega))))))
    refine wpQuiet_nil ?_
    rintro w' ⟨y, rfl⟩
    have HY := Lib.hid (HL.out.trans (y.below.mono (Nat.le_of_lt hg)))
    clear hx d0 d1 d2 d3 d4 d5 d6 d7 d8 d9 hg e4' hb1 hb2
    go_wp2
    go_ret
    exact ⟨ret_bool HM.out.symm, HY.out⟩
  · have hm : mayB c t k = false := by unfold mayB; simp; intro h1 h2; omega
    have HM := Lib.hid hm
    have hd : decide (0 ≤ t) = false ∨ (decide (0 ≤ t) = true ∧ 0 ≤ t ∧ decide (t < (c.tenants.length : Int)) = false) := by
      by_cases h0 : 0 ≤ t
      · right
        refine ⟨by simpa using h0, h0, ?_⟩
        simp
        omega
      · left; simpa using h0
    have HL := Lib.hid ((Below.refl w.heap.size w).alloc (Nat.le_refl _) (.cells (cfgC ⟨az, cz, ac, cc, at_, ct, av, cv, ar, cr, ao, co⟩ c) 30))
    have HW := Lib.hid (HK.out.allocW (.cells (cfgC ⟨az, cz, ac, cc, at_, ct, av, cv, ar, cr, ao, co⟩ c) 30))
    have hBx := Blk.new w 30 (cfgC ⟨az, cz, ac, cc, at_, ct, av, cv, ar, cr, ao, co⟩ c)
    have hg := hBx.lt
    have d0 := hBx.cell' (i := 0) (v := .int .i64 c.regions) rfl
    have d1 := hBx.cell' (i := 1) (v := .slice az c.zones.length cz) rfl
    have d2 := hBx.cell' (i := 2) (v := .slice ac c.cells.length cc) rfl
    have d3 := hBx.cell' (i := 3) (v := .slice at_ c.tenants.length ct) rfl
    have d4 := hBx.cell' (i := 4) (v := .slice av c.versions.length cv) rfl
    have d5 := hBx.cell' (i := 5) (v := .slice ar c.replicas.length cr) rfl
    have d6 := hBx.cell' (i := 6) (v := .slice ao c.observers.length co) rfl
    have d7 := hBx.cell' (i := 7) (v := .int .i64 c.blast) rfl
    have d8 := hBx.cell' (i := 8) (v := .int .i64 c.lease) rfl
    have d9 := hBx.cell' (i := 9) (v := .int .i64 c.bake) rfl
    clear hBx
    unfold cfgC at HL HW d0 d1 d2 d3 d4 d5 d6 d7 d8 d9 hg
    simp only at HL HW d0 d1 d2 d3 d4 d5 d6 d7 d8 d9 hg
    unfold cfgC
    simp only
    clear hm ht HK
    rcases hd with hd | ⟨hd1, hd2, hd3⟩
    all_goals
      go_enter Tryz.func141, Tryz.ntmps141
      go_wp2_with fail
      generalize w.alloc _ = W at *
      have hx : ∀ (y : Later W.heap.size W) b o, b < W.heap.size → y.world.cell? ⟨b, o, none⟩ = W.cell? ⟨b, o, none⟩ := fun y b o h => y.cell h
      refine wp_region_below W.heap.size (by kernel_rfl) (by kernel_rfl) ?_
      repeat (first | go_big_quiet_step (fail) | quiet_step (fail))
      refine wpQuiet_nil ?_
      rintro w' ⟨y, rfl⟩
      have HY := Lib.hid (HL.out.trans (y.below.mono (Nat.le_of_lt hg)))
      clear hx d0 d1 d2 d3 d4 d5 d6 d7 d8 d9 hg
      go_wp2
      go_ret
      exact ⟨ret_bool HM.out.symm, HY.out⟩

/-- The cells below k of which p holds. -/
def pickK (p : Nat → Bool) (k : Nat) : List Int := ((List.range k).filter p).map Int.ofNat
theorem pickK_succ (p : Nat → Bool) (k : Nat) : pickK p (k + 1) = if p k then pickK p k ++ [(k : Int)] else pickK p k := by
  unfold pickK
  rw [List.range_succ, List.filter_append, List.map_append]
  by_cases h : p k <;> simp [h]
theorem pickK_len (p : Nat → Bool) (k : Nat) : (pickK p k).length ≤ k := by
  unfold pickK
  rw [List.length_map]
  exact Nat.le_trans (List.length_filter_le _ _) (by simp)
theorem pickK_mem {p : Nat → Bool} {k : Nat} {z : Int} (h : z ∈ pickK p k) : ∃ n : Nat, z = n ∧ n < k ∧ p n = true := by
  unfold pickK at h
  obtain ⟨n, hn, rfl⟩ := List.mem_map.1 h
  obtain ⟨h1, h2⟩ := List.mem_filter.1 hn
  exact ⟨n, rfl, List.mem_range.1 h1, h2⟩
theorem r5intInfo : (Tryz.prog.info? 3).map (fun i => (i.zero, i.size, i.bytes)) = some (some (.int .i64 0), 1, 8) := by kernel_rfl
theorem flat_snoc5 {α : Type} (enc : α → List Value) (l : List α) (a : α) : flat enc l ++ enc a = flat enc (l ++ [a]) := by simp [flat]

theorem own_base {w : World} {base base' : Nat} {e : TypeId} {size : Nat} {v : Value} {n : Nat} {xs : List Value} (h : w.ownsRow base e size v n xs) (hb : base' ≤ base) : w.ownsRow base' e size v n xs := by
  refine ⟨h.1, h.2.imp id ?_⟩
  rintro ⟨g, cap, cur, rfl, hg, rest⟩
  exact ⟨g, cap, cur, rfl, Nat.le_trans hb hg, rest⟩
/-- A list of numbers in new memory. -/
def IntsPost (w : World) (l : List Int) (e : Ending) (w' : World) : Prop :=
  ∃ (A : Option Addr) (cp : Nat), e = .returned (.slice A l.length cp) ∧ w'.ownsRow w.heap.size 3 1 (.slice A l.length cp) l.length (flat intC l) ∧ Below w.heap.size w w'

def r5HomesRel (W : World) (p : Nat → Bool) (N gk : Nat) (so si : Value) (wr : World) : Prop :=
  ∃ (k : Nat) (A : Option Addr) (cp : Nat), gk + k = N ∧ si = .int .i64 k ∧ so = .slice A (pickK p k).length cp ∧ wr.ownsRow W.heap.size 3 1 (.slice A (pickK p k).length cp) (pickK p k).length (flat intC (pickK p k)) ∧ Below W.heap.size W wr
set_option maxHeartbeats 2000000 in
theorem r5Homes_any (x : CfgA) (c : Cfg) (t : Int) (w : World) (hV : CfgV c) (hok : CfgOk w (· < w.heap.size) x c) :
    Calls Tryz.prog 136 #[.agg (cfgC x c), .int .i64 t] w (IntsPost w (pickK (fun (n : Nat) => mayB c t n) c.cells.length)) := by
  obtain ⟨az, cz, ac, cc, at_, ct, av, cv, ar, cr, ao, co⟩ := x
  obtain ⟨ii, hii, hi0, hi1, hi2⟩ := info_parts r5intInfo
  have HV := Lib.hid hV
  have HK := Lib.hid hok
  have hnc := hV.nc
  have HL := Lib.hid ((Below.refl w.heap.size w).alloc (Nat.le_refl _) (.cells (cfgC ⟨az, cz, ac, cc, at_, ct, av, cv, ar, cr, ao, co⟩ c) 30))
  have HW := Lib.hid (HK.out.allocW (.cells (cfgC ⟨az, cz, ac, cc, at_, ct, av, cv, ar, cr, ao, co⟩ c) 30))
  have hBx := Blk.new w 30 (cfgC ⟨az, cz, ac, cc, at_, ct, av, cv, ar, cr, ao, co⟩ c)
  have hg := hBx.lt
  have d0 := hBx.cell' (i := 0) (v := .int .i64 c.regions) rfl
  have d1 := hBx.cell' (i := 1) (v := .slice az c.zones.length cz) rfl
  have d2 := hBx.cell' (i := 2) (v := .slice ac c.cells.length cc) rfl
  have d3 := hBx.cell' (i := 3) (v := .slice at_ c.tenants.length ct) rfl
  have d4 := hBx.cell' (i := 4) (v := .slice av c.versions.length cv) rfl
  have d5 := hBx.cell' (i := 5) (v := .slice ar c.replicas.length cr) rfl
  have d6 := hBx.cell' (i := 6) (v := .slice ao c.observers.length co) rfl
  have d7 := hBx.cell' (i := 7) (v := .int .i64 c.blast) rfl
  have d8 := hBx.cell' (i := 8) (v := .int .i64 c.lease) rfl
  have d9 := hBx.cell' (i := 9) (v := .int .i64 c.bake) rfl
  clear hBx
  unfold cfgC at HL HW d0 d1 d2 d3 d4 d5 d6 d7 d8 d9 hg
  simp only at HL HW d0 d1 d2 d3 d4 d5 d6 d7 d8 d9 hg
  clear hok hV HK
  obtain ⟨pd, hpd⟩ : ∃ pd : Nat → Bool, pd = fun (n : Nat) => mayB c t n := ⟨_, rfl⟩
  have HP := Lib.hid hpd
  rw [← hpd]
  clear hpd
  unfold cfgC
  simp only
  go_enter Tryz.func136, Tryz.ntmps136
  go_wp2_with fail
  generalize w.alloc _ = W at *
  go_loopg [5, 6] c.cells.length (fun gk so si wr => r5HomesRel W pd c.cells.length gk so si wr)
  case atStart => exact ⟨0, none, 0, rfl, rfl, rfl, World.ownsRow_nil _ _ _ _, Below.refl _ _⟩
  case round =>
    rename_i J K aJ aK
    obtain ⟨k, A, cp, hgk, rfl, rfl, hown, hbel⟩ := hrel
    have HO := Lib.hid hown
    have HB := Lib.hid hbel
    have hsz := hbel.size
    have hlen := pickK_len pd k
    obtain ⟨hc, hf⟩ := bcell hbel
    clear hown hbel hf
    by_cases hk : k < c.cells.length
    · have hlt : (k : Int) < (c.cells.length : Int) := by omega
      have hsucc := pickK_succ pd k
      have HS := Lib.hid hsucc
      clear hsucc
      go_wp2_with fail
      refine (r5May_any ⟨az, cz, ac, cc, at_, ct, av, cv, ar, cr, ao, co⟩ c t k wr HV.out (HW.out.belowW HB.out)).mono ?_
      rintro e wz ⟨rfl, hb1⟩
      have HB1 := Lib.hid (HB.out.trans (hb1.mono hsz))
      have HO1 := Lib.hid (own_below HO.out hb1 fun j hj => (HO.out.lt j hj).2)
      clear hb1
      by_cases hp : pd k = true
      · have hp2 : mayB c t k = true := by rw [HP.out] at hp; exact hp
        clear hc
        go_wp2_with (at_builtin; refine wpList_append_lies _ rfl _ _ _ rfl W.heap.size 3 ii _ 1 8 Tryz.underlying22 hii hi0 hi1 hi2 rfl (by omega) _ (pickK pd k).length (flat intC (pickK pd k)) rfl (HO1.out.alloc _) ⟨wz.heap.size, 0, none⟩ 1 1 [.int .i64 k] rfl rfl ?c1 ?c2 ?c0 ?c3 ?c4 ?c5 (wz.heap.size + 1) ?c6 ?_)
        case c1 => exact World.news_of_block (cs := #[.int .i64 k]) (heap_alloc_new _ _)
        case c2 => simp [Value.oneCell']
        case c0 => omega
        case c3 => unfold maxLen; omega
        case c4 => omega
        case c5 => have := HB1.out.size; simp; omega
        case c6 => simp
        intro gg cq w9 hown9 hg9 hat9 hlt9
        have HB9 := Lib.hid ((HB1.out.alloc HB1.out.size _).grown hg9 (by have := HB1.out.size; simp; omega) (fun j hj => (HO1.out.lt j hj).1))
        have HX : Hid (w9.ownsRow W.heap.size 3 1 (.slice (some ⟨gg, 0, none⟩) (pickK pd (k + 1)).length cq) (pickK pd (k + 1)).length (flat intC (pickK pd (k + 1)))) := by
          refine Lib.hid ?_; rw [HS.out, if_pos hp, ← flat_snoc5, List.length_append]; exact hown9
        have hl9 : (pickK pd (k + 1)).length = (pickK pd k).length + 1 := by rw [HS.out, if_pos hp, List.length_append]; rfl
        have HL9 := Lib.hid hl9
        clear hown9 hg9 hat9 hlt9 HO1 HB1 HO HB hl9
        go_wp2
        go_roundg (gk - 1)
        case measure => omega
        case rel => exact ⟨k + 1, some ⟨gg, 0, none⟩, cq, by omega, by go_num, by rw [HL9.out], HX.out, HB9.out⟩
      · have hp : pd k = false := by simpa using hp
        have hp2 : mayB c t k = false := by rw [HP.out] at hp; exact hp
        clear hc
        have HX : Hid (wz.ownsRow W.heap.size 3 1 (.slice A (pickK pd (k + 1)).length cp) (pickK pd (k + 1)).length (flat intC (pickK pd (k + 1)))) := by
          refine Lib.hid ?_; rw [HS.out, if_neg (by simp [hp])]; exact HO1.out
        have hl9 : (pickK pd (k + 1)).length = (pickK pd k).length := by rw [HS.out, if_neg (by simp [hp])]
        have HL9 := Lib.hid hl9
        clear HO HB hl9
        go_wp2
        go_roundg (gk - 1)
        case measure => omega
        case rel => exact ⟨k + 1, A, cp, by omega, by go_num, by rw [HL9.out], HX.out, HB1.out⟩
    · have hge : ¬ (k : Int) < (c.cells.length : Int) := by omega
      obtain rfl : k = c.cells.length := by omega
      go_wp2
      go_ret
      exact ⟨A, cp, rfl, own_base HO.out (Nat.le_of_lt hg), HL.out.trans (HB.out.mono (Nat.le_of_lt hg))⟩
def r5StandbysRel (W : World) (p : Nat → Bool) (N gk : Nat) (so si : Value) (wr : World) : Prop :=
  ∃ (k : Nat) (A : Option Addr) (cp : Nat), gk + k = N ∧ si = .int .i64 k ∧ so = .slice A (pickK p k).length cp ∧ wr.ownsRow W.heap.size 3 1 (.slice A (pickK p k).length cp) (pickK p k).length (flat intC (pickK p k)) ∧ Below W.heap.size W wr
set_option maxHeartbeats 2000000 in
theorem r5Standbys_any (x : CfgA) (c : Cfg) (t h : Int) (w : World) (hV : CfgV c) (hok : CfgOk w (· < w.heap.size) x c) :
    Calls Tryz.prog 137 #[.agg (cfgC x c), .int .i64 t, .int .i64 h] w (IntsPost w (pickK (fun (n : Nat) => (mayB c t n && apartB c h n)) c.cells.length)) := by
  obtain ⟨az, cz, ac, cc, at_, ct, av, cv, ar, cr, ao, co⟩ := x
  obtain ⟨ii, hii, hi0, hi1, hi2⟩ := info_parts r5intInfo
  have HV := Lib.hid hV
  have HK := Lib.hid hok
  have hnc := hV.nc
  have HL := Lib.hid ((Below.refl w.heap.size w).alloc (Nat.le_refl _) (.cells (cfgC ⟨az, cz, ac, cc, at_, ct, av, cv, ar, cr, ao, co⟩ c) 30))
  have HW := Lib.hid (HK.out.allocW (.cells (cfgC ⟨az, cz, ac, cc, at_, ct, av, cv, ar, cr, ao, co⟩ c) 30))
  have hBx := Blk.new w 30 (cfgC ⟨az, cz, ac, cc, at_, ct, av, cv, ar, cr, ao, co⟩ c)
  have hg := hBx.lt
  have d0 := hBx.cell' (i := 0) (v := .int .i64 c.regions) rfl
  have d1 := hBx.cell' (i := 1) (v := .slice az c.zones.length cz) rfl
  have d2 := hBx.cell' (i := 2) (v := .slice ac c.cells.length cc) rfl
  have d3 := hBx.cell' (i := 3) (v := .slice at_ c.tenants.length ct) rfl
  have d4 := hBx.cell' (i := 4) (v := .slice av c.versions.length cv) rfl
  have d5 := hBx.cell' (i := 5) (v := .slice ar c.replicas.length cr) rfl
  have d6 := hBx.cell' (i := 6) (v := .slice ao c.observers.length co) rfl
  have d7 := hBx.cell' (i := 7) (v := .int .i64 c.blast) rfl
  have d8 := hBx.cell' (i := 8) (v := .int .i64 c.lease) rfl
  have d9 := hBx.cell' (i := 9) (v := .int .i64 c.bake) rfl
  clear hBx
  unfold cfgC at HL HW d0 d1 d2 d3 d4 d5 d6 d7 d8 d9 hg
  simp only at HL HW d0 d1 d2 d3 d4 d5 d6 d7 d8 d9 hg
  clear hok hV HK
  obtain ⟨pd, hpd⟩ : ∃ pd : Nat → Bool, pd = fun (n : Nat) => (mayB c t n && apartB c h n) := ⟨_, rfl⟩
  have HP := Lib.hid hpd
  rw [← hpd]
  clear hpd
  unfold cfgC
  simp only
  go_enter Tryz.func137, Tryz.ntmps137
  go_wp2_with fail
  generalize w.alloc _ = W at *
  go_loopg [7, 8] c.cells.length (fun gk so si wr => r5StandbysRel W pd c.cells.length gk so si wr)
  case atStart => exact ⟨0, none, 0, rfl, rfl, rfl, World.ownsRow_nil _ _ _ _, Below.refl _ _⟩
  case round =>
    rename_i J K aJ aK
    obtain ⟨k, A, cp, hgk, rfl, rfl, hown, hbel⟩ := hrel
    have HO := Lib.hid hown
    have HB := Lib.hid hbel
    have hsz := hbel.size
    have hlen := pickK_len pd k
    obtain ⟨hc, hf⟩ := bcell hbel
    clear hown hbel hf
    by_cases hk : k < c.cells.length
    · have hlt : (k : Int) < (c.cells.length : Int) := by omega
      have hsucc := pickK_succ pd k
      have HS := Lib.hid hsucc
      clear hsucc
      go_wp2_with fail
      refine (r5May_any ⟨az, cz, ac, cc, at_, ct, av, cv, ar, cr, ao, co⟩ c t k wr HV.out (HW.out.belowW HB.out)).mono ?_
      rintro e wy ⟨rfl, hb0⟩
      have HB0 := Lib.hid (HB.out.trans (hb0.mono hsz))
      have HO0 := Lib.hid (own_below HO.out hb0 fun j hj => (HO.out.lt j hj).2)
      obtain ⟨hc0, hf0⟩ := bcell HB0.out
      clear hb0 hf0 hc
      by_cases hm : mayB c t k = true
      · go_wp2_with fail
        refine (r5Apart_any ⟨az, cz, ac, cc, at_, ct, av, cv, ar, cr, ao, co⟩ c h k wy HV.out (HW.out.belowW HB0.out)).mono ?_
        rintro e wz ⟨rfl, hb1⟩
        have HB1 := Lib.hid (HB0.out.trans (hb1.mono HB0.out.size))
        have HO1 := Lib.hid (own_below HO0.out hb1 fun j hj => (HO0.out.lt j hj).2)
        clear hb1 HB0 HO0
        have hc : True := trivial
        clear hc0
        by_cases hp : pd k = true
        · have hp2 : apartB c h k = true := by rw [HP.out] at hp; simp [hm] at hp; exact hp
          clear hc
          go_wp2_with (at_builtin; refine wpList_append_lies _ rfl _ _ _ rfl W.heap.size 3 ii _ 1 8 Tryz.underlying22 hii hi0 hi1 hi2 rfl (by omega) _ (pickK pd k).length (flat intC (pickK pd k)) rfl (HO1.out.alloc _) ⟨wz.heap.size, 0, none⟩ 1 1 [.int .i64 k] rfl rfl ?c1 ?c2 ?c0 ?c3 ?c4 ?c5 (wz.heap.size + 1) ?c6 ?_)
          case c1 => exact World.news_of_block (cs := #[.int .i64 k]) (heap_alloc_new _ _)
          case c2 => simp [Value.oneCell']
          case c0 => omega
          case c3 => unfold maxLen; omega
          case c4 => omega
          case c5 => have := HB1.out.size; simp; omega
          case c6 => simp
          intro gg cq w9 hown9 hg9 hat9 hlt9
          have HB9 := Lib.hid ((HB1.out.alloc HB1.out.size _).grown hg9 (by have := HB1.out.size; simp; omega) (fun j hj => (HO1.out.lt j hj).1))
          have HX : Hid (w9.ownsRow W.heap.size 3 1 (.slice (some ⟨gg, 0, none⟩) (pickK pd (k + 1)).length cq) (pickK pd (k + 1)).length (flat intC (pickK pd (k + 1)))) := by
            refine Lib.hid ?_; rw [HS.out, if_pos hp, ← flat_snoc5, List.length_append]; exact hown9
          have hl9 : (pickK pd (k + 1)).length = (pickK pd k).length + 1 := by rw [HS.out, if_pos hp, List.length_append]; rfl
          have HL9 := Lib.hid hl9
          clear hown9 hg9 hat9 hlt9 HO1 HB1 HO HB hl9
          go_wp2
          go_roundg (gk - 1)
          case measure => omega
          case rel => exact ⟨k + 1, some ⟨gg, 0, none⟩, cq, by omega, by go_num, by rw [HL9.out], HX.out, HB9.out⟩
        · have hp : pd k = false := by simpa using hp
          have hp2 : apartB c h k = false := by rw [HP.out] at hp; simp [hm] at hp; exact hp
          clear hc
          have HX : Hid (wz.ownsRow W.heap.size 3 1 (.slice A (pickK pd (k + 1)).length cp) (pickK pd (k + 1)).length (flat intC (pickK pd (k + 1)))) := by
            refine Lib.hid ?_; rw [HS.out, if_neg (by simp [hp])]; exact HO1.out
          have hl9 : (pickK pd (k + 1)).length = (pickK pd k).length := by rw [HS.out, if_neg (by simp [hp])]
          have HL9 := Lib.hid hl9
          clear HO HB hl9
          go_wp2
          go_roundg (gk - 1)
          case measure => omega
          case rel => exact ⟨k + 1, A, cp, by omega, by go_num, by rw [HL9.out], HX.out, HB1.out⟩
      · have hm : mayB c t k = false := by simpa using hm
        have hp : pd k = false := by rw [HP.out]; simp [hm]
        have HB1 := HB0
        have HO1 := HO0
        obtain ⟨wz, rfl⟩ : ∃ wz, wz = wy := ⟨_, rfl⟩
        clear HB0 HO0
        have hc : True := trivial
        clear hc0
        clear hc
        have HX : Hid (wz.ownsRow W.heap.size 3 1 (.slice A (pickK pd (k + 1)).length cp) (pickK pd (k + 1)).length (flat intC (pickK pd (k + 1)))) := by
          refine Lib.hid ?_; rw [HS.out, if_neg (by simp [hp])]; exact HO1.out
        have hl9 : (pickK pd (k + 1)).length = (pickK pd k).length := by rw [HS.out, if_neg (by simp [hp])]
        have HL9 := Lib.hid hl9
        clear HO HB hl9
        go_wp2
        go_roundg (gk - 1)
        case measure => omega
        case rel => exact ⟨k + 1, A, cp, by omega, by go_num, by rw [HL9.out], HX.out, HB1.out⟩
    · have hge : ¬ (k : Int) < (c.cells.length : Int) := by omega
      obtain rfl : k = c.cells.length := by omega
      go_wp2
      go_ret
      exact ⟨A, cp, rfl, own_base HO.out (Nat.le_of_lt hg), HL.out.trans (HB.out.mono (Nat.le_of_lt hg))⟩
end Go.Proofs.YtnnpgbleacapfaaGreat

namespace Go.Proofs.YtnnpgbleacapfaaGreat
open Go.RowKit
set_option linter.unusedSimpArgs false
set_option linter.unusedVariables false

set_option maxHeartbeats 1000000 in
theorem mkNone_any (kind tick : Int) (w : World) : Calls Tryz.prog 134 #[.int .i64 kind, .int .i64 tick] w fun r w' => r = .returned (.agg (entC ⟨kind, tick, -1, -1, -1, 0, 0, 0, 0⟩).toArray) ∧ Below w.heap.size w w' := by
  go_enter Tryz.func134, Tryz.ntmps134
  go_wp2
  refine bodyPost_ret (v := .agg #[.int .i64 kind, .int .i64 tick, .int .i64 (-1), .int .i64 (-1), .int .i64 (-1), .int .i64 0, .int .i64 0, .int .i64 0, .int .i64 0]) (by simp [results, Tryz.results134, go_sem]) rfl ?_
  exact ⟨rfl, (Below.refl _ _).alloc (Nat.le_refl _) _⟩

set_option maxHeartbeats 1000000 in
theorem mkLight_any (A : Option Addr) (n cp : Nat) (w : World) (hn : n ≤ maxLen) : Calls Tryz.prog 28 #[.slice A n cp] w fun r w' => r = .returned (.bool (decide (n ≤ 200))) ∧ w = w' := by
  unfold maxLen at hn
  go_enter Tryz.func28, Tryz.ntmps28
  go_wp2
  go_ret
  refine ⟨ret_bool ?_, rfl⟩
  rw [Bool.eq_iff_iff]
  simp
  try omega
end Go.Proofs.YtnnpgbleacapfaaGreat

namespace Go.Proofs.YtnnpgbleacapfaaGreat
open Go.RowKit
set_option linter.unusedSimpArgs false
set_option linter.unusedVariables false

/-! state.New -/
def CN1 : CN := ⟨0, 1, 2, 3, 4, 5, 3⟩
def newD : List (Nat × DQ) := [
  (1, { k := 10, L := [6], g := some (.fix 0 (.fix 1 (.fix 2 (.fix 4 (.fix 5 (.fix 6 (.three
    3 (.two 7 (.fix 8 (.act 9 .fin)) 9 (.act 7 (.fix 8 .fin)))
    7 (.two 3 (.fix 8 (.act 9 .fin)) 9 (.act 3 (.fix 8 .fin)))
    9 (.two 3 (.act 7 (.fix 8 .fin)) 7 (.act 3 (.fix 8 .fin)))))))))) }),
  (4000002, { k := 11, L := [6, 7], sl := [1, 2] }),
  (2000003, { k := 0, L := [7, 9, 10], sl := [2, 3, 17] }),
  (2000008, { k := 0, L := [7, 8, 10], sl := [2, 3, 30] })]
abbrev tsZ : List Value := [zb, zb, zi, zi, zi, zi, zi, zi, zi, zi, zi, zi]
abbrev csZ : List Value := [zi, zi, zi, zi]
abbrev tsB (n : Nat) (el : Nat → List Value) : ABlk := .row (1000000 + 63) 12 n el
abbrev csB (n : Nat) (el : Nat → List Value) : ABlk := .row (1000000 + 51) 4 n el
abbrev newV (n m : Nat) : List Value := [zi, zi, slc 8 n n, slc 9 m m, .int .i64 1, zi, zi, zi]
def NewR (n m : Nat) (v : Value) (mem' : AM) : Prop := v = .agg (newV n m).toArray ∧ (∃ el, lk mem' 8 = some (tsB n el) ∧ ∀ k, k < n → el k = tsC tsNew) ∧ ∃ el, lk mem' 9 = some (csB m el) ∧ ∀ k, k < m → el k = csC csNew
set_option maxRecDepth 100000 in
set_option maxHeartbeats 4000000 in
theorem new_sx (x : CfgK) (c : Cfg) (hnt : c.tenants.length ≤ 1000) (hnc : c.cells.length ≤ 1000) :
    sx tt [] newD (bodyOf Tryz.f42) (argF 0 [cfgV CN1 x c]) (cfgM CN1 c) 6
      (endx tt Tryz.f42.results.toList fun v mem' _ => NewR c.tenants.length c.cells.length v mem') := by
  refine ⟨Unit, fun _ => [(3, ptr 10)], fun _ => [(8, tsB c.tenants.length fun _ => tsZ), (9, csB c.cells.length fun _ => csZ), (10, .box 34 (newV c.tenants.length c.cells.length))], fun _ => True, ?_, ?_⟩
  · refine ⟨?_, ?_, ?_⟩
    · refine ⟨⟨rfl, by omega, by show _ * (88 : Int) ≤ _; omega⟩, ⟨rfl, trivial⟩, ?_⟩
      refine ⟨?_, ?_⟩
      · refine ⟨⟨rfl, by omega, by show _ * (32 : Int) ≤ _; omega⟩, ⟨rfl, trivial⟩, ?_⟩
        refine ⟨⟨rfl, trivial⟩, ?_⟩
        exact ⟨(), [], trivial, ⟨rfl, rfl⟩, ⟨rfl, rfl, rfl, trivial⟩, ⟨rfl, rfl, rfl, rfl, rfl, trivial⟩⟩
      · refine ⟨⟨rfl, trivial⟩, ?_⟩
        refine ⟨⟨rfl, by omega, by show _ * (32 : Int) ≤ _; omega⟩, ⟨rfl, trivial⟩, ?_⟩
        exact ⟨(), [(9, 10), (10, 9)], trivial, ⟨rfl, rfl⟩, ⟨rfl, rfl, rfl, trivial⟩, ⟨rfl, rfl, rfl, rfl, rfl, trivial⟩⟩
    · refine ⟨⟨rfl, by omega, by show _ * (32 : Int) ≤ _; omega⟩, ⟨rfl, trivial⟩, ?_⟩
      refine ⟨?_, ?_⟩
      · refine ⟨⟨rfl, by omega, by show _ * (88 : Int) ≤ _; omega⟩, ⟨rfl, trivial⟩, ?_⟩
        refine ⟨⟨rfl, trivial⟩, ?_⟩
        exact ⟨(), [(8, 9), (9, 8)], trivial, ⟨rfl, rfl⟩, ⟨rfl, rfl, rfl, trivial⟩, ⟨rfl, rfl, rfl, rfl, rfl, trivial⟩⟩
      · refine ⟨⟨rfl, trivial⟩, ?_⟩
        refine ⟨⟨rfl, by omega, by show _ * (88 : Int) ≤ _; omega⟩, ⟨rfl, trivial⟩, ?_⟩
        exact ⟨(), [(8, 10), (9, 8), (10, 9)], trivial, ⟨rfl, rfl⟩, ⟨rfl, rfl, rfl, trivial⟩, ⟨rfl, rfl, rfl, rfl, rfl, trivial⟩⟩
    · refine ⟨⟨rfl, trivial⟩, ?_⟩
      refine ⟨?_, ?_⟩
      · refine ⟨⟨rfl, by omega, by show _ * (88 : Int) ≤ _; omega⟩, ⟨rfl, trivial⟩, ?_⟩
        refine ⟨⟨rfl, by omega, by show _ * (32 : Int) ≤ _; omega⟩, ⟨rfl, trivial⟩, ?_⟩
        exact ⟨(), [(8, 9), (9, 10), (10, 8)], trivial, ⟨rfl, rfl⟩, ⟨rfl, rfl, rfl, trivial⟩, ⟨rfl, rfl, rfl, rfl, rfl, trivial⟩⟩
      · refine ⟨⟨rfl, by omega, by show _ * (32 : Int) ≤ _; omega⟩, ⟨rfl, trivial⟩, ?_⟩
        refine ⟨⟨rfl, by omega, by show _ * (88 : Int) ≤ _; omega⟩, ⟨rfl, trivial⟩, ?_⟩
        exact ⟨(), [(8, 10), (10, 8)], trivial, ⟨rfl, rfl⟩, ⟨rfl, rfl, rfl, trivial⟩, ⟨rfl, rfl, rfl, rfl, rfl, trivial⟩⟩
  · rintro ⟨⟩ -
    refine ⟨⟨by decide, rfl, rfl⟩, ?_⟩
    refine ⟨Int × (Nat → List Value), fun y => match y with | (i, el) => [(18, .int .i64 i)], fun y => match y with | (i, el) => [(8, tsB c.tenants.length el)], fun y => (0 ≤ y.1 ∧ y.1 ≤ (c.tenants.length : Int)) ∧ ∀ k : Nat, k < c.tenants.length → y.2 k = if (k : Int) < y.1 then tsC tsNew else tsZ, fun y => ((c.tenants.length : Int) - y.1).toNat, ⟨(0, fun _ => tsZ), ⟨⟨by dsimp only; omega, by dsimp only; omega⟩, ?_⟩, ⟨rfl, rfl, rfl, rfl, trivial⟩, ⟨rfl, rfl, rfl, rfl, trivial⟩⟩, ?_⟩
    · intro k hk
      dsimp only
      rw [if_neg (by omega)]
    · rintro ⟨i, el⟩ ⟨hi, hel⟩
      dsimp only at hi hel
      refine ⟨⟨rfl, rfl⟩, ?_⟩
      refine ⟨fun hlt => ?_, fun hge => ?_⟩
      · have hlt2 : i < (c.tenants.length : Int) := of_decide_eq_true hlt
        have hz : el i.toNat = tsZ := by rw [hel i.toNat (by omega), if_neg (by omega)]
        refine ⟨⟨Nat.le_refl _, hi.1, hlt2⟩, ?_⟩
        refine ⟨tsC tsNew, by rw [hz]; rfl, ?_⟩
        refine ⟨(_, _), ?_, ⟨rfl, rfl, rfl, rfl, trivial⟩, ⟨rfl, rfl, rfl, rfl, trivial⟩⟩
        dsimp only
        rw [wrapi (by omega)]
        refine ⟨⟨⟨by omega, by omega⟩, fun k hk => ?_⟩, by omega⟩
        unfold setEl
        by_cases hk2 : k = i.toNat
        · subst hk2
          rw [Nat.beq_refl, if_pos (by omega)]
        · have hb : Nat.beq k i.toNat = false := by
            cases hb : Nat.beq k i.toNat
            · rfl
            · exact absurd (Nat.eq_of_beq_eq_true hb) hk2
          rw [hb]
          show el k = _
          rw [hel k hk]
          by_cases hki : (k : Int) < i
          · rw [if_pos hki, if_pos (by omega)]
          · rw [if_neg hki, if_neg (by omega)]
      · have hge2 : ¬ i < (c.tenants.length : Int) := of_decide_eq_false hge
        have hT : ∀ k, k < c.tenants.length → el k = tsC tsNew := fun k hk => by rw [hel k hk, if_pos (by omega)]
        refine ⟨Int × (Nat → List Value), fun y => match y with | (i, el) => [(31, .int .i64 i)], fun y => match y with | (i, el) => [(9, csB c.cells.length el)], fun y => (0 ≤ y.1 ∧ y.1 ≤ (c.cells.length : Int)) ∧ ∀ k : Nat, k < c.cells.length → y.2 k = if (k : Int) < y.1 then csC csNew else csZ, fun y => ((c.cells.length : Int) - y.1).toNat, ⟨(0, fun _ => csZ), ⟨⟨by dsimp only; omega, by dsimp only; omega⟩, ?_⟩, ⟨rfl, rfl, rfl, rfl, trivial⟩, ⟨rfl, rfl, rfl, rfl, trivial⟩⟩, ?_⟩
        · intro k hk
          dsimp only
          rw [if_neg (by omega)]
        · rintro ⟨i, el⟩ ⟨hi, hel⟩
          dsimp only at hi hel
          refine ⟨⟨rfl, rfl⟩, ?_⟩
          refine ⟨fun hlt => ?_, fun hge => ?_⟩
          · have hlt2 : i < (c.cells.length : Int) := of_decide_eq_true hlt
            have hz : el i.toNat = csZ := by rw [hel i.toNat (by omega), if_neg (by omega)]
            refine ⟨⟨Nat.le_refl _, hi.1, hlt2⟩, ?_⟩
            refine ⟨csC csNew, by rw [hz]; rfl, ?_⟩
            refine ⟨(_, _), ?_, ⟨rfl, rfl, rfl, rfl, trivial⟩, ⟨rfl, rfl, rfl, rfl, trivial⟩⟩
            dsimp only
            rw [wrapi (by omega)]
            refine ⟨⟨⟨by omega, by omega⟩, fun k hk => ?_⟩, by omega⟩
            unfold setEl
            by_cases hk2 : k = i.toNat
            · subst hk2
              rw [Nat.beq_refl, if_pos (by omega)]
            · have hb : Nat.beq k i.toNat = false := by
                cases hb : Nat.beq k i.toNat
                · rfl
                · exact absurd (Nat.eq_of_beq_eq_true hb) hk2
              rw [hb]
              show el k = _
              rw [hel k hk]
              by_cases hki : (k : Int) < i
              · rw [if_pos hki, if_pos (by omega)]
              · rw [if_neg hki, if_neg (by omega)]
          · have hge2 : ¬ i < (c.cells.length : Int) := of_decide_eq_false hge
            have hC : ∀ k, k < c.cells.length → el k = csC csNew := fun k hk => by rw [hel k hk, if_pos (by omega)]
            exact ⟨rfl, ⟨_, rfl, hT⟩, ⟨_, rfl, hC⟩⟩
end Go.Proofs.YtnnpgbleacapfaaGreat

namespace Go.Proofs.YtnnpgbleacapfaaGreat
open Go.RowKit
set_option linter.unusedSimpArgs false
set_option linter.unusedVariables false

section
variable {C : Ctx} {ρ : Nat → Pl} {fr : AF} {mem : AM} {nx : Nat} {a : Act} {w w' : World}
/-- All that is written lies below B. -/
def FrB (C : Ctx) (ρ : Nat → Pl) (mem : AM) (B : Nat) : Prop := ∀ i b, lk (mem ++ C.fm) i = some b → exB b = true → (∃ t sz el, b = .row t sz 0 el) ∨ ∀ g, bno ρ i = some g → g < B
theorem Sat.frB (h : Sat C ρ fr mem nx a w) : FrB C ρ mem w.heap.size := by
  intro i b hi hb
  have hok := h.blk i b hi
  cases b with
  | box t cs =>
    obtain ⟨g, e1, e2, -⟩ := hok
    refine .inr fun g' hg => ?_
    simp [bno, e1] at hg
    subst hg
    exact e2.lt
  | row t sz n el =>
    obtain ⟨-, -, h3⟩ := hok
    rcases h3 with rfl | ⟨b, off, hA, hat, -⟩
    · exact .inl ⟨_, _, _, rfl⟩
    · refine .inr fun g hg => ?_
      simp [bno, hA] at hg
      subst hg
      exact hat.lt
/-- One more row that is only read. -/
theorem Sat.addPlain (h : Sat C ρ fr mem nx a w) {t : TypeId} {sz n : Nat} {el : Nat → List Value} {p : Pl} {B : Nat} (hF : FrB C ρ mem B) (ho : ownT t = false) (hp : p.res = false) (hok : BlkOk C (setPl ρ nx p) (nx + 1) nx w (.row t sz n el)) (hnew : n = 0 ∨ ∀ g, p.A.map (·.block) = some g → B ≤ g) :
    Sat C (setPl ρ nx p) fr ((nx, .row t sz n el) :: mem) (nx + 1) a w ∧ FrB C (setPl ρ nx p) ((nx, .row t sz n el) :: mem) B := by
  have hr : ∀ j, j < nx → (ρ j).res = false → setPl ρ nx p j = ρ j := fun j hj _ => setPl_lt ρ p hj
  have h1 := h.ren (ρ' := setPl ρ nx p) (m := nx + 1) hr (Nat.le_succ _) (fun j hj => setPl_lt ρ p (Nat.lt_of_lt_of_le hj h.n0))
  have e1 : bno (setPl ρ nx p) nx = p.A.map (·.block) := by unfold bno; rw [setPl_same]
  have e2 : ∀ j b, lk (mem ++ C.fm) j = some b → bno (setPl ρ nx p) j = bno ρ j := fun j b hj => by unfold bno; rw [setPl_lt ρ p (h.mlt j b hj).1]
  have key : ∀ j b', lk (mem ++ C.fm) j = some b' → Apart (setPl ρ nx p) nx j (.row t sz n el) b' ∧ Apart (setPl ρ nx p) j nx b' (.row t sz n el) := by
    intro j b' hj
    have hne : n ≠ 0 → ∀ g, bno ρ j = some g → g < B → bno (setPl ρ nx p) j ≠ bno (setPl ρ nx p) nx := by
      intro hn g hg hlt he
      rw [e1, e2 j b' hj, hg] at he
      have := hnew.resolve_left hn g he.symm
      omega
    cases b' with
    | box t2 cs2 =>
      refine ⟨trivial, ?_⟩
      by_cases hn : n = 0
      · exact .inl hn
      · refine .inr ?_
        obtain ⟨g, hA, -⟩ := h.blk j _ hj
        rcases hF j _ hj rfl with ⟨_, _, _, q⟩ | hlt
        · cases q
        · have hg : bno ρ j = some g := by simp [bno, hA]
          exact hne hn g hg (hlt g hg)
    | row t2 sz2 n2 el2 =>
      refine ⟨(fun q => absurd (ho.symm.trans q) (by decide)), fun ho2 => ?_⟩
      by_cases hn : n = 0
      · exact .inr (.inl hn)
      · by_cases hn2 : n2 = 0
        · exact .inl hn2
        · obtain ⟨-, -, h3⟩ := h.blk j _ hj
          rcases h3 with q | ⟨b, off, hA, -⟩
          · exact .inl q
          · rcases hF j _ hj ho2 with ⟨_, _, _, q⟩ | hlt
            · cases q; exact .inl rfl
            · have hg : bno ρ j = some b := by simp [bno, hA]
              exact .inr (.inr (hne hn b hg (hlt b hg)))
  refine ⟨⟨h1.fok, h1.sz, h1.dfr, fun i b' hi => ?_, fun i b' hi => ?_, fun i j b1 b2 hne hi hj => ?_, h1.n0, h1.low, h1.rest⟩, fun i b hi hb => ?_⟩
  · rcases lk_cons hi with ⟨rfl, rfl⟩ | ⟨hne, hi⟩
    · exact ⟨Nat.lt_succ_self _, by rw [setPl_same]; exact hp⟩
    · exact h1.mlt i b' hi
  · rcases lk_cons hi with ⟨rfl, rfl⟩ | ⟨hne, hi⟩
    · exact hok
    · exact h1.blk i b' hi
  · rcases lk_cons hi with ⟨rfl, rfl⟩ | ⟨hni, hi⟩
    · rcases lk_cons hj with ⟨rfl, rfl⟩ | ⟨hnj, hj⟩
      · exact absurd rfl hne
      · exact (key j b2 hj).1
    · rcases lk_cons hj with ⟨rfl, rfl⟩ | ⟨hnj, hj⟩
      · exact (key i b1 hi).2
      · exact h1.sep i j b1 b2 hne hi hj
  · rcases lk_cons hi with ⟨rfl, rfl⟩ | ⟨hne, hi⟩
    · simp only [exB] at hb
      rw [ho] at hb
      cases hb
    · rcases hF i b hi hb with q | q
      · exact .inl q
      · exact .inr fun g hg => q g (by rw [← e2 i b hi]; exact hg)
/-- A row of a list, made by the callee. -/
theorem Sat.addList (h : Sat C ρ fr mem nx a w) {B : Nat} (hF : FrB C ρ mem B) (hB : C.w0.heap.size ≤ B) {α : Type} {enc : α → List Value} {sz : Nat} (hs : ∀ x, (enc x).length = sz) (hpos : 0 < sz) (hpl : ∀ x, ∀ v ∈ enc x, plain1 v) {l : List α} (d : α) {t : TypeId} (ho : ownT t = false) {A : Option Addr} (hr : Rd w (fun b => B ≤ b ∧ b < w.heap.size) A (flat enc l)) :
    Sat C (setPl ρ nx ⟨A, sz, l.length, false⟩) fr ((nx, rowOfL t sz enc d l) :: mem) (nx + 1) a w ∧ FrB C (setPl ρ nx ⟨A, sz, l.length, false⟩) ((nx, rowOfL t sz enc d l) :: mem) B := by
  refine h.addPlain hF ho rfl (row_of_rd hs hpos hpl d (setPl_same _ _ _) hr (fun b hb => hb.2) ho (fun _ b hb => Nat.le_trans hB hb.1)) ?_
  by_cases h0 : l.length = 0
  · exact .inl h0
  · obtain ⟨b, off, x, hA, hb, -, -⟩ := hr.row hs hpos (k := 0) (by omega)
    refine .inr fun g hg => ?_
    simp [hA] at hg
    subst hg
    exact hb.1
def stPl (ρ : Nat → Pl) (nx : Nat) (y : StA) (s : St) : Nat → Pl := setPl (setPl ρ nx ⟨y.ac, 4, s.cells.length, false⟩) (nx + 1) ⟨y.at_, 12, s.tenants.length, false⟩
/-- A state that the callee has made: its rows get the names nx + 1 and nx. -/
theorem Sat.addSt (h0 : Sat C ρ fr mem nx a w) (hb : Below w.heap.size w w') {y : StA} {s : St} (hs : StOk w' (fun b => w.heap.size ≤ b ∧ b < w'.heap.size) y s) :
    Sat C (stPl ρ nx y s) fr (stM ⟨nx + 1, nx, 500000⟩ s ++ mem) (nx + 2) a w' ∧ den (stPl ρ nx y s) (stV ⟨nx + 1, nx, 500000⟩ ⟨y.ct, y.cc⟩ s) = .agg (stC y s) ∧ okV (stPl ρ nx y s) (nx + 2) (stV ⟨nx + 1, nx, 500000⟩ ⟨y.ct, y.cc⟩ s) ∧ ExtS ρ nx (stPl ρ nx y s) (nx + 2) := by
  obtain ⟨h1, f1⟩ := (h0.later hb).addList h0.frB h0.rest.size (enc := csC) (sz := 4) (fun _ => rfl) (by omega) csC_plain default (t := 500000) rfl hs.cells
  obtain ⟨h2, -⟩ := h1.addList f1 h0.rest.size (enc := tsC) (sz := 12) (fun _ => rfl) (by omega) tsC_plain default (t := 500000) rfl hs.tenants
  have q1 : stPl ρ nx y s nx = ⟨y.ac, 4, s.cells.length, false⟩ := by
    unfold stPl
    rw [setPl_lt _ _ (Nat.lt_succ_self _), setPl_same]
  have q2 : stPl ρ nx y s (nx + 1) = ⟨y.at_, 12, s.tenants.length, false⟩ := setPl_same _ _ _
  refine ⟨h2, ?_, ?_, fun i hi => ?_, by omega⟩
  · rw [den_st]
    congr 2
    simp [stX, q1, q2]
  · intro u hu
    simp at hu
    rcases hu with rfl | rfl | rfl | rfl | rfl | rfl | rfl | rfl <;> first | trivial | exact ⟨show nx + 1 < nx + 2 by omega, by rw [q2]⟩ | exact ⟨show nx < nx + 2 by omega, by rw [q1]⟩
  · unfold stPl
    rw [setPl_lt _ _ (by omega), setPl_lt _ _ hi]
end
end Go.Proofs.YtnnpgbleacapfaaGreat

namespace Go.Proofs.YtnnpgbleacapfaaGreat
open Go.RowKit
set_option linter.unusedSimpArgs false
set_option linter.unusedVariables false

theorem BlkOk.fresh {C : Ctx} {ρ : Nat → Pl} {nx i : Nat} {w : World} {t : TypeId} {sz n : Nat} {el : Nat → List Value} {α : Type} {enc : α → List Value} {l : List α} (d : α) (h : BlkOk C ρ nx i w (.row t sz n el)) (ho : frT t = true) (hl : l.length = n) (he : ∀ k, k < n → el k = enc (l.getD k d)) (hs : ∀ x, (enc x).length = sz) (hpos : 0 < sz) :
    Rd w (fun b => C.w0.heap.size ≤ b ∧ b < w.heap.size) (ρ i).A (flat enc l) := by
  subst hl
  obtain ⟨h1, h2, h3⟩ := h
  have hb : BlkOk C ρ nx i w (.row t sz l.length (fun k => enc (l.getD k d))) := by
    refine ⟨h1, fun k hk => by have := h2 k hk; rw [he k hk] at this; exact this, h3.imp id ?_⟩
    rintro ⟨b, off, hA, hat, hc⟩
    exact ⟨b, off, hA, hat, fun k hk j v hv => hc k hk j v (by rw [he k hk]; exact hv)⟩
  refine rd_of_row hs hpos hb fun hne b off hA hlt => ?_
  rcases h3 with h0 | ⟨b2, off2, hA2, hat, -⟩
  · exact absurd h0 hne
  · rw [hA] at hA2
    cases hA2
    exact ⟨hat.new ho, hlt⟩
def cpl (x : CfgA) (c : Cfg) : Nat → Pl := fun j => match j with
  | 0 => ⟨x.az, 1, c.zones.length, false⟩
  | 1 => ⟨x.ac, 2, c.cells.length, false⟩
  | 2 => ⟨x.at_, 7, c.tenants.length, false⟩
  | 3 => ⟨x.av, 2, c.versions.length, false⟩
  | 4 => ⟨x.ar, 1, c.replicas.length, false⟩
  | _ => ⟨x.ao, 1, c.observers.length, false⟩
theorem getD_rep {α : Type} {n k : Nat} {a d : α} (h : k < n) : (List.replicate n a).getD k d = a := by
  rw [List.getD_eq_getElem?_getD, List.getElem?_replicate, if_pos h]; rfl
theorem stNew_calls (x : CfgA) (c : Cfg) (w : World) (hc : CfgOk w (· < w.heap.size) x c) (hnt : c.tenants.length ≤ 1000) (hnc : c.cells.length ≤ 1000) :
    Calls Tryz.prog 42 #[.agg (cfgC x c)] w fun e w' => ∃ y, e = .returned (.agg (stC y (stNew c))) ∧ StOk w' (fun b => w.heap.size ≤ b ∧ b < w'.heap.size) y (stNew c) ∧ Below w.heap.size w w' := by
  have hpc : CfgPl (cpl x c) CN1 x c := ⟨rfl, rfl, rfl, rfl, rfl, rfl⟩
  have hm : MemAt { w0 := w, bor := [], n0 := 6, ρ0 := cpl x c, nt := (Tryz.f42).ntmps } (cpl x c) (cfgM CN1 c) 6 w := MemAt.rows trivial (by
    have := cfg_blks (C := { w0 := w, bor := [], n0 := 6, ρ0 := cpl x c, nt := (Tryz.f42).ntmps }) (nx := 6) (r := []) hpc hc (fun b hb => hb) (by decide) trivial
    exact this)
  have hv0 : #[Value.agg (cfgC x c)] = ([cfgV CN1 ⟨x.cz, x.cc, x.ct, x.cv, x.cr, x.co⟩ c].map (den (cpl x c))).toArray := by
    rw [List.map_cons, den_cfg]
    rfl
  rw [hv0]
  refine (calls_sx ttOk ft_nil mixed Tryz.func42 rfl (D := newD) (by kernel_rfl) (vs := [cfgV CN1 ⟨x.cz, x.cc, x.ct, x.cv, x.cr, x.co⟩ c]) rfl ⟨rfl, rfl⟩ rfl hm (fun v hv => ?_) (new_sx _ c hnt hnc)).mono ?_
  · obtain rfl : v = _ := by simpa using hv
    intro u hu
    simp at hu
    rcases hu with rfl | rfl | rfl | rfl | rfl | rfl | rfl | rfl | rfl | rfl <;> first | trivial | exact ⟨by decide, rfl⟩
  · rintro e w' ⟨v, mem', nx', ρ', rfl, ⟨rfl, ⟨eT, hT, hT2⟩, ⟨eC, hC, hC2⟩⟩, hv, hm'⟩
    refine ⟨⟨(ρ' 8).A, c.tenants.length, (ρ' 9).A, c.cells.length⟩, ?_, ⟨?_, ?_⟩, ⟨hm'.rest.os, hm'.rest.tape, hm'.rest.output, hm'.rest.size, fun b hlt => hm'.rest.block b hlt (by simp)⟩⟩
    · simp [den, den2, den1, dA_whole, stC, stNew, newV]
    · exact (hm'.blk 8 _ hT).fresh (enc := tsC) (l := (stNew c).tenants) default rfl (by simp [stNew]) (fun k hk => by rw [hT2 k hk]; simp only [stNew]; rw [getD_rep hk]) (fun _ => rfl) (by omega)
    · exact (hm'.blk 9 _ hC).fresh (enc := csC) (l := (stNew c).cells) default rfl (by simp [stNew]) (fun k hk => by rw [hC2 k hk]; simp only [stNew]; rw [getD_rep hk]) (fun _ => rfl) (by omega)
def ctNewS : CT := fun vs mem nx K => ∃ N x c, vs = [cfgV N x c] ∧ keeps mem (cfgM N c) ∧ (c.tenants.length ≤ 1000 ∧ c.cells.length ≤ 1000) ∧ ∀ y, K (stV ⟨nx + 1, nx, 500000⟩ y (stNew c)) (stM ⟨nx + 1, nx, 500000⟩ (stNew c) ++ mem) (nx + 2)
theorem newSOk : CSound Tryz.prog 42 ctNewS := ⟨by kernel_rfl, fun {C ρ fr mem nx a w vs K} hc hs hv => by
  obtain ⟨N, x, c, rfl, hk, ⟨hnt, hnc⟩, hK⟩ := hc
  rw [List.map_cons, den_cfg]
  refine (stNew_calls (cfgX ρ N x) c w (hs.cfg hk (fun b h _ => h)) hnt hnc).mono ?_
  rintro e w' ⟨y, rfl, hst, hb⟩
  obtain ⟨q1, q2, q3, q4⟩ := hs.addSt hb hst
  exact ⟨_, _, _, _, by rw [q2], hK ⟨y.ct, y.cc⟩, q1, q3, q4⟩⟩
end Go.Proofs.YtnnpgbleacapfaaGreat
