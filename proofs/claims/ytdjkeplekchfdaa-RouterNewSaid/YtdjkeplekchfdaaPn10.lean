import Derived.Test.YtdjkeplekchfdaaPn09
namespace Go.Proofs.Ytdjkeplekchfdaa
open Go.RowKit
set_option linter.unusedSimpArgs false
set_option linter.unusedVariables false
theorem CSound.mono {P:Program} {f:FuncId} {ct ct':CT} (h:CSound P f ct) (hi:∀ vs mem nx K,ct' vs mem nx K→ct vs mem nx K):CSound P f ct':=⟨h.ent,fun {C ρ fr mem nx a w vs K} hc hs hv=>h.run (hi vs mem nx K hc) hs hv⟩
set_option maxHeartbeats 1000000 in
theorem mkLight_any (A:Option Addr) (n cp:Nat) (w:World) (hn:n≤maxLen):Calls Try.prog 13 #[.slice A n cp] w fun r w'=>r=.returned (.bool (decide (n≤200)))∧w=w':=by
 unfold maxLen at hn
 go_enter Try.func13,Try.ntmps13
 go_wp2
 go_ret
 refine⟨ret_bool ?_,rfl⟩
 rw[Bool.eq_iff_iff]
 simp
 try omega
/-! ref12.no,together -/
theorem CSound.pure {f : FuncId} {ct : CT} (ent : ((Try.prog).funcs[f]?).map (fun fn => (fn.name == "runtime.NumGoroutine", fn.body.isNone)) = some (false, false))
  (h:∀ vs mem nx K,ct vs mem nx K→∃ v,K v mem nx∧(∀ ρ n,den ρ v=v∧okV ρ n v)∧∀ ρ w,Calls Try.prog f (vs.map (den ρ)).toArray w fun e w'=>e=.returned v∧Below w.heap.size w w'):CSound Try.prog f ct:=
 ⟨ent,fun {C ρ fr mem nx a w vs K} hc hs hv=>by
  obtain⟨v,hK,hp,hcalls⟩:=h vs mem nx K hc
  refine (hcalls ρ w).mono ?_
  rintro e w' ⟨rfl,hb⟩
  exact⟨v,mem,nx,ρ,by rw[(hp ρ nx).1],hK,hs.later hb,(hp ρ nx).2,ExtS.refl _ _⟩⟩
/-! Bytes: plain facts. -/
theorem wrapu64 (n:Int):IntKind.u64.wrap n=n % 18446744073709551616:=by
 simp[IntKind.wrap,IntKind.bits,IntKind.signed]
abbrev u8C (x:Int):List Value:=[.int .u8 x]
theorem u8C_plain:∀ x,∀ v ∈ u8C x,plain1 v:=fun x v hv=>by simp at hv;subst hv;trivial
def encU (u:Nat):List Int:=if u<128 then [(u:Int)] else ((u % 128+128:Nat):Int)::encU (u / 128)
termination_by u
decreasing_by omega
def codeI (n:Int):Int:=if 0≤n then 2 * n else -2 * n-1
def intBy (n:Int):List Int:=encU (codeI n).toNat
def in64 (n:Int):Prop:=-9223372036854775808≤n∧n<9223372036854775808
end Go.Proofs.Ytdjkeplekchfdaa
