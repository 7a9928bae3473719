import Derived.Test.YtjnndjnpcelafaaGreatPt24
import Derived.Test.YtjnndjnpcelafaaGreatPt26
import Derived.Test.YtjnndjnpcelafaaGreatPt27
namespace Go.Proofs.YtjnndjnpcelafaaGreat
set_option maxHeartbeats 16000000
set_option maxRecDepth 100000
open Go.RowKit
set_option linter.unusedSimpArgs false
set_option linter.unusedVariables false
/-! The types of the platform;a cell's copy of a tenant: all by inlining. -/
section
variable {P:Program} {C:Ctx} {ρ:Nat->Pl} {fr:AF} {mem:AM} {nx:Nat} {a:Act} {w w':World}
def ctHP (args:List Value) (r:Value):CT:=fun vs mem nx K=>vs=args/\K r mem nx
theorem zgU {f : FuncId} {args : List Value} {r : Value} (hent : (P.funcs[f]?).map (fun fn => (fn.name == "runtime.NumGoroutine", fn.body.isNone)) = some (false, false)) (hargs : ∀ ρ, args.map (den ρ) = args) (hr : ∀ ρ n, den ρ r = r /\ okV ρ n r)
  (h:∀ w,Calls P f args.toArray w fun e w'=>e=.returned r/\Below w.heap.size w w'):CSound P f (ctHP args r):=
 ⟨hent,fun {C ρ fr mem nx a w vs K} hc hs hv=>by
  obtain⟨rfl,hK⟩:=hc
  rw[hargs]
  refine (h w).mono ?_
  rintro e w' ⟨rfl,hb⟩
  exact⟨r,mem,nx,ρ,by rw[(hr ρ nx).1],hK,hs.later hb,(hr ρ nx).2,ExtS.refl _ _⟩⟩
end
theorem len1_any (w:World):Calls Tryz.prog 206 #[.int .u64 1] w fun e w'=>e=.returned (.int .i64 1)/\Below w.heap.size w w':=by
 go_enter Tryz.func206,Tryz.ntmps206;go_wp2;go_ret;exact⟨k_,Below.refl _ _⟩
abbrev ctLen1:CT:=ctHP [.int .u64 1] (.int .i64 1)
theorem len1Ok:CSound Tryz.prog 206 ctLen1:=zgU k_ (fun _=>rfl) (fun _ _=>⟨rfl,trivial⟩) len1_any
theorem eqNil (P:Program) (w:World) (t e:TypeId) (h:P.underlying t=some (.slice e)):(binOp .eql t (.slice none 0 0) (.slice none 0 0)).run P w=.ok (.bool true) w:=by
 have h0:∀ d:Nat,(Op.equalIn (d+1) t (.slice none 0 0) (.slice none 0 0)).run P w=.ok true w:=fun d=>by simp[Op.equalIn,run_underlying h]
 have h1:=h0 9999;simp only[binOp];simp[Op.equal,Op.maxDepth,h1]
theorem nilI_any (w:World):Calls Tryz.prog 246 #[.slice none 0 0] w fun e w'=>e=.returned (.slice none 0 0)/\Below w.heap.size w w':=by
 have hq:=fun w=>eqNil Tryz.prog w 189 _ Tryz.underlying189
 go_enter Tryz.func246,Tryz.ntmps246;go_wp2;go_ret;exact⟨rfl,Below.refl _ _⟩
theorem nilL_any (w:World):Calls Tryz.prog 298 #[.slice none 0 0] w fun e w'=>e=.returned (.slice none 0 0)/\Below w.heap.size w w':=by
 have hq:=fun w=>eqNil Tryz.prog w 190 _ Tryz.underlying190
 go_enter Tryz.func298,Tryz.ntmps298;go_wp2;go_ret;exact⟨rfl,Below.refl _ _⟩
abbrev ctNil:CT:=ctHP [.slice none 0 0] (.slice none 0 0)
theorem nilIOk:CSound Tryz.prog 246 ctNil:=zgU k_ (fun _=>rfl) (fun _ _=>⟨rfl,trivial⟩) nilI_any
theorem nilLOk:CSound Tryz.prog 298 ctNil:=zgU k_ (fun _=>rfl) (fun _ _=>⟨rfl,trivial⟩) nilL_any
abbrev zS:Value:=.string ⟨#[]⟩
def ttW:TT:=[(9,{ size:=1,agg:=false,zero:=[zS],isS:=true }),
 (78,zbE [zi,zs0,zs0,zs0,zs0,zs0,zs0,zi,zi,zi,zp,zs0,zs0,zs0,zi] [0,10,11,12,13,14] [10,1,1,1,1,1] [2,1,1,1,1,1]),
 (65,zlM),
 (72,zlM),
 (119,zlM),
 (124,zlM),
 (125,zlM),
 (126,zlM),
 (263,zgm 1 9 16),
 (73,{ zgm 1 72 8 with bx:=true }),
 (74,zgm 1 73 24),
 (130,zbE [zi,zi,zs0,zp,zp,zp,zp] [0,1,2,3,6] [1,1,1,3,1] [1,1,1,2,1]),
 (128,zbE [zp,zp,zp] [0,1,2] [1,1,1] [1,1,1]),
 (176,zbE [zi,zi,zs0] [0,1,2] [1,1,1] [1,1,1]),
 (192,zbE [zs0,zs0,zi] [0,1,2] [1,1,1] [1,1,1]),
 (262,zbE [zi,zi,zi,zi,zS,zi,zi,zi,zi,zS,zi,zi,zi,zi,zS,zi,zi,zi,zi,zS,zi,zi,zi,zi,zS,zi,zi,zi,zi,zS,zi,zi,zi,zi,zS,zi,zi,zi,zi,zS] [0] [40] [2]),
 (260,{ size:=40,agg:=true,zero:=[zi,zi,zi,zi,zS,zi,zi,zi,zi,zS,zi,zi,zi,zi,zS,zi,zi,zi,zi,zS,zi,zi,zi,zi,zS,zi,zi,zi,zi,zS,zi,zi,zi,zi,zS,zi,zi,zi,zi,zS],arr:=8,ars:=5,arag:=true }),
 (259,zbE [zi,zi,zi,zi,zS] [0,1] [1,4] [1,2]),
 (71,zbE [zi,zi,zi,zS] [0,1,2,3] [1,1,1,1] [1,1,1,1]),
 (81,zbE [zi,zi,zi,zi,zi,zS,zS] [0,1,2,3,4,5,6] [1,1,1,1,1,1,1] [1,1,1,1,1,1,1]),
 (182,zbE [zi,zi,zi,zi,zi,zi,zS,zS] [0,1,2,3,4,5,6,7] [1,1,1,1,1,1,1,1] [1,1,1,1,1,1,1,1]),
 (123,zgm 8 182 80),
 (174,zgm 5 53 40),
 (83,zbE [zi,zi,zi,zi,zi,zi,zi] [0,1,2] [1,1,5] [1,1,2]),
 (75,zgm 7 83 56),
 (136,zbE [zi,zS] [0,1] [1,1] [1,1]),
 (138,zbE [zi,zi,zi,zi] [0,1,2,3] [1,1,1,1] [1,1,1,1]),
 (189,zgm 2 136 24),
 (190,zgm 4 138 32)]++ttP
theorem zbg:zcl Tryz.prog ttW:=by
 refine zgl _ _ ?_;unfold ttW ttP ttA tt;repeat (refine zeS ⟨k_,k_,zgr (by rfl),k_,k_,k_⟩ ?_)
 exact zgk
def zl2 (v:List Value) (f:Nat->List Value):Nat->List Value
 | 0=>v
 | k+1=>f k
theorem zh5 {el:Nat->List Value} {v:List Value} (h:el 0=v):∃ f,el=zl2 v f:=⟨fun j=>el (j+1),funext fun k=>by cases k;exact h;rfl⟩
abbrev seR:List Value:=[zi,zi,zi,zi,zS]
abbrev seT (n:Int):List Value:=[.int .i64 n,zi,.int .i64 n,zi,zS]++(seR++(seR++(seR++(seR++(seR++(seR++seR))))))
abbrev fiV (b:Bool):Value:=match b with | false=>.tuple #[.agg #[zi,zi,zi,zS],.int .i64 34] | true=>.tuple #[.agg #[zi,.int .i64 1,zi,zS],zi]
abbrev fiN (b:Bool):Int:=match b with | false=>0 | true=>1
def ctFind:CT:=znc (X:=Bool) (Y:=Unit) (fun _=>[.pointer (some ⟨0,0,none⟩),.int .i64 1,.int .i64 1]) (fun b=>[(0,.box 262 (seT (fiN b)))]) 1 (fun _=>True) (fun _ _=>True) (fun b _=>fiV b) (fun b _=>[(0,.box 262 (seT (fiN b)))]) 0
theorem find_sx (b:Bool):sx ttW [] [] (za1 Tryz.f129) (zb3 0 [.pointer (some ⟨0,0,none⟩),.int .i64 1,.int .i64 1]) [(0,.box 262 (seT (fiN b)))] 1 (zb8 ttW Tryz.f129.results.toList (objR (Y:=Unit) 1 (fun _=>True) (fun _=>fiV b) (fun _=>[(0,.box 262 (seT (fiN b)))]))):=by
 cases b
 ·repeat (first | refine⟨fun _=>?_,bt_⟩ | refine⟨bf_,fun _=>?_⟩ | refine⟨⟨na_,nb_,nb_⟩,?_⟩ | refine⟨fun q=>absurd q nc_,fun _=>?_⟩ | refine⟨fun _=>?_,fun q=>absurd q s_⟩ | refine⟨fun q=>absurd q s_,fun _=>?_⟩ | refine⟨⟨d_,d_,d_⟩,?_⟩)
  exact⟨(),[],trivial,rfl,rfl,rfl,kp_⟩
 ·repeat (first | refine⟨fun _=>?_,bt_⟩ | refine⟨bf_,fun _=>?_⟩ | refine⟨⟨na_,nb_,nb_⟩,?_⟩ | refine⟨fun q=>absurd q nc_,fun _=>?_⟩ | refine⟨fun _=>?_,fun q=>absurd q s_⟩ | refine⟨fun q=>absurd q s_,fun _=>?_⟩ | refine⟨⟨d_,d_,d_⟩,?_⟩)
  exact⟨(),[],trivial,rfl,rfl,rfl,kp_⟩
theorem findOk:CSound Tryz.prog 129 ctFind:=zfp zbg (D:=[]) za3 mixed k_ Tryz.func129 rfl k_ (fun _=>rfl) (fun _=>rfl) (fun b _=>by cases b<;>rfl) (fun b _=>find_sx b)
abbrev wIsKeyF:FT:=[]
abbrev zlz:List (Nat×DQ):=[]
abbrev ctWIsKey:CT:=zat ttW wIsKeyF zlz Tryz.f125 (za1 Tryz.f125)
theorem wIsKeyOk {I:List Nat} (hI:I.contains 125=true):zab Tryz.prog I 125 ctWIsKey:=zad zbg (D:=zlz) (za3) mixed k_ Tryz.func125 rfl k_ hI
abbrev wIsValF:FT:=[]
abbrev zly:List (Nat×DQ):=[]
abbrev ctWIsVal:CT:=zat ttW wIsValF zly Tryz.f126 (za1 Tryz.f126)
theorem wIsValOk {I:List Nat} (hI:I.contains 126=true):zab Tryz.prog I 126 ctWIsVal:=zad zbg (D:=zly) (za3) mixed k_ Tryz.func126 rfl k_ hI
abbrev wCValidF:FT:=[(125,ctWIsKey),(126,ctWIsVal)]
abbrev zju:List (Nat×DQ):=[(9000000,{ k:=0,L:=[125,126] })]
abbrev ctWCValid:CT:=zat ttW wCValidF zju Tryz.f57 (za1 Tryz.f57)
theorem zlF {I:List Nat} (hI:I.contains 57=true):zab Tryz.prog I 57 ctWCValid:=zad zbg (D:=zju) (za0 (wIsKeyOk d_) (za0 (wIsValOk d_) za3)) mixed k_ Tryz.func57 rfl k_ hI
abbrev wSKeyF:FT:=[]
abbrev wSKeyD:List (Nat×DQ):=[]
abbrev ctWSKey:CT:=zat ttW wSKeyF wSKeyD Tryz.f248 (za1 Tryz.f248)
theorem wSKeyOk {I:List Nat} (hI:I.contains 248=true):zab Tryz.prog I 248 ctWSKey:=zad zbg (D:=wSKeyD) (za3) mixed k_ Tryz.func248 rfl k_ hI
abbrev wSValF:FT:=[]
abbrev wSValD:List (Nat×DQ):=[]
abbrev ctWSVal:CT:=zat ttW wSValF wSValD Tryz.f249 (za1 Tryz.f249)
theorem wSValOk {I:List Nat} (hI:I.contains 249=true):zab Tryz.prog I 249 ctWSVal:=zad zbg (D:=wSValD) (za3) mixed k_ Tryz.func249 rfl k_ hI
abbrev wSValidF:FT:=[(248,ctWSKey),(249,ctWSVal)]
abbrev zjr:List (Nat×DQ):=[(9000000,{ k:=0,L:=[248,249] })]
abbrev ctWSValid:CT:=zat ttW wSValidF zjr Tryz.f201 (za1 Tryz.f201)
theorem zfw {I:List Nat} (hI:I.contains 201=true):zab Tryz.prog I 201 ctWSValid:=zad zbg (D:=zjr) (za0 (wSKeyOk d_) (za0 (wSValOk d_) za3)) mixed k_ Tryz.func201 rfl k_ hI
abbrev wQNewF:FT:=[]
abbrev wQNewD:List (Nat×DQ):=[]
abbrev ctWQNew:CT:=zat ttW wQNewF wQNewD Tryz.f189 (za1 Tryz.f189)
theorem wQNewOk {I:List Nat} (hI:I.contains 189=true):zab Tryz.prog I 189 ctWQNew:=zad zbg (D:=wQNewD) (za3) mixed k_ Tryz.func189 rfl k_ hI
abbrev wTNewF:FT:=[]
abbrev wTNewD:List (Nat×DQ):=[]
abbrev ctWTNew:CT:=zat ttW wTNewF wTNewD Tryz.f190 (za1 Tryz.f190)
theorem wTNewOk {I:List Nat} (hI:I.contains 190=true):zab Tryz.prog I 190 ctWTNew:=zad zbg (D:=wTNewD) (za3) mixed k_ Tryz.func190 rfl k_ hI
abbrev wGNewF:FT:=[]
abbrev wGNewD:List (Nat×DQ):=[]
abbrev ctWGNew:CT:=zat ttW wGNewF wGNewD Tryz.f120 (za1 Tryz.f120)
theorem wGNewOk {I:List Nat} (hI:I.contains 120=true):zab Tryz.prog I 120 ctWGNew:=zad zbg (D:=wGNewD) (za3) mixed k_ Tryz.func120 rfl k_ hI
abbrev wNoneF:FT:=[(188,ctHM stE),(189,ctWQNew),(190,ctWTNew)]
abbrev wNoneD:List (Nat×DQ):=[(9000000,{ k:=0,L:=[189,190] })]
abbrev ctWNone:CT:=zat ttW wNoneF wNoneD Tryz.f119 (za1 Tryz.f119)
theorem wNoneOk {I:List Nat} (hI:I.contains 119=true):zab Tryz.prog I 119 ctWNone:=zad zbg (D:=wNoneD) (za0 (stNewOk.i _) (za0 (wQNewOk d_) (za0 (wTNewOk d_) za3))) mixed k_ Tryz.func119 rfl k_ hI
abbrev wCNewF:FT:=[(119,ctWNone),(120,ctWGNew)]
abbrev wCNewD:List (Nat×DQ):=[(9000000,{ k:=0,L:=[119,120] })]
abbrev ctWCNew:CT:=zat ttW wCNewF wCNewD Tryz.f54 (za1 Tryz.f54)
theorem wCNewOk {I:List Nat} (hI:I.contains 54=true):zab Tryz.prog I 54 ctWCNew:=zad zbg (D:=wCNewD) (za0 (wNoneOk d_) (za0 (wGNewOk d_) za3)) mixed k_ Tryz.func54 rfl k_ hI
abbrev wGateF:FT:=[]
abbrev wGateD:List (Nat×DQ):=[]
abbrev ctWGate:CT:=zat ttW wGateF wGateD Tryz.f55 (za1 Tryz.f55)
theorem zlB {I:List Nat} (hI:I.contains 55=true):zab Tryz.prog I 55 ctWGate:=zad zbg (D:=wGateD) (za3) mixed k_ Tryz.func55 rfl k_ hI
abbrev wGValidF:FT:=[]
abbrev zjs:List (Nat×DQ):=[]
abbrev ctWGValid:CT:=zat ttW wGValidF zjs Tryz.f121 (za1 Tryz.f121)
theorem zlC {I:List Nat} (hI:I.contains 121=true):zab Tryz.prog I 121 ctWGValid:=zad zbg (D:=zjs) (za3) mixed k_ Tryz.func121 rfl k_ hI
abbrev wBinF:FT:=[]
abbrev wBinD:List (Nat×DQ):=[(5,{ k:=6,pre:=[(0,false),(1,false),(2,false),(3,false),(4,false),(5,false)],L:=[] }),(8,{ k:=15,pre:=[(0,false),(1,false),(2,false),(3,false),(4,false),(5,false),(6,false),(7,false),(8,false),(9,false),(10,false),(11,true),(12,false),(13,false),(14,false)],L:=[] }),(6000003,{ k:=1,L:=[] })]
abbrev ctWBin:CT:=zat ttW wBinF wBinD Tryz.f122 (za1 Tryz.f122)
theorem wBinOk {I:List Nat} (hI:I.contains 122=true):zab Tryz.prog I 122 ctWBin:=zad zbg (D:=wBinD) (za3) mixed k_ Tryz.func122 rfl k_ hI
abbrev wInsF:FT:=[]
abbrev wInsD:List (Nat×DQ):=[(11,{ k:=8,g:=some (.fix 0 (.fix 1 (.fix 2 (.fix 3 (.fix 5 (.fix 6 (.two 4 (.act 7 .fin) 7 (.act 4 .fin)))))))),L:=[] }),(15,{ k:=8,g:=some (.fix 0 (.fix 1 (.fix 2 (.fix 3 (.fix 5 (.fix 6 (.two 4 (.act 7 .fin) 7 (.act 4 .fin)))))))),L:=[] })]
abbrev ctWIns:CT:=zat ttW wInsF wInsD Tryz.f124 (za1 Tryz.f124)
theorem wInsOk {I:List Nat} (hI:I.contains 124=true):zab Tryz.prog I 124 ctWIns:=zad zbg (D:=wInsD) (za3) mixed k_ Tryz.func124 rfl k_ hI
abbrev wGiveF:FT:=[(121,ctWGValid),(122,ctWBin),(124,ctWIns)]
abbrev wGiveD:List (Nat×DQ):=[(9000000,{ k:=0,L:=[121,122,124] }),(3,{ k:=6,pre:=[(0,false),(1,false),(2,false),(3,false),(4,false),(5,false)],L:=[36,14] }),(5,{ k:=6,pre:=[(0,false),(1,false),(2,false),(3,false),(4,false),(5,false)],L:=[36,14] }),(7,{ k:=10,pre:=[(0,false),(1,false),(2,false),(3,false),(4,false),(5,true),(6,false),(7,false),(8,false),(9,false)],L:=[36,14] }),(9,{ k:=9,pre:=[(0,false),(1,false),(2,false),(3,false),(4,false),(5,false),(6,false),(7,true),(8,true)],L:=[36,14] })]
abbrev ctWGive:CT:=zat ttW wGiveF wGiveD Tryz.f56 (za1 Tryz.f56)
theorem wGiveOk {I:List Nat} (hI:I.contains 56=true):zab Tryz.prog I 56 ctWGive:=zad zbg (D:=wGiveD) (za0 (zlC d_) (za0 (wBinOk d_) (za0 (wInsOk d_) za3))) mixed k_ Tryz.func56 rfl k_ hI
abbrev wAccF:FT:=[]
abbrev wAccD:List (Nat×DQ):=[(6000003,{ k:=2,L:=[] })]
abbrev ctWAcc:CT:=zat ttW wAccF wAccD Tryz.f58 (za1 Tryz.f58)
theorem wAccOk {I:List Nat} (hI:I.contains 58=true):zab Tryz.prog I 58 ctWAcc:=zad zbg (D:=wAccD) (za3) mixed k_ Tryz.func58 rfl k_ hI
abbrev wEpochF:FT:=[]
abbrev zlE:List (Nat×DQ):=[(3,{ k:=10,pre:=[(0,false),(1,false),(2,false),(3,false),(4,false),(5,false),(6,false),(7,false),(8,false),(9,false)],L:=[] })]
abbrev ctWEpoch:CT:=zat ttW wEpochF zlE Tryz.f59 (za1 Tryz.f59)
theorem zjt {I:List Nat} (hI:I.contains 59=true):zab Tryz.prog I 59 ctWEpoch:=zad zbg (D:=zlE) (za3) mixed k_ Tryz.func59 rfl k_ hI
abbrev wLenF:FT:=[]
abbrev wLenD:List (Nat×DQ):=[]
abbrev ctWLen:CT:=zat ttW wLenF wLenD Tryz.f130 (za1 Tryz.f130)
theorem wLenOk {I:List Nat} (hI:I.contains 130=true):zab Tryz.prog I 130 ctWLen:=zad zbg (D:=wLenD) (za3) mixed k_ Tryz.func130 rfl k_ hI
abbrev wOperF:FT:=[(60,ctHR stE (fun s=>[.string s]) (fun _=>.tuple #[.string ⟨#[]⟩,.int .i64 0,.bool false])),(196,ctHR (X:=Unit) stE (fun _=>[]) (fun _=>.slice none 0 0))]
abbrev wOperD:List (Nat×DQ):=[(1,{ k:=14,pre:=[(0,false),(1,false),(2,false),(3,false),(4,false),(5,false),(6,false),(7,true),(8,false),(9,false),(10,false),(11,false),(12,false),(13,false)],L:=[0,13] }),(17,{ k:=11,pre:=[(0,false),(1,false),(2,false),(3,false),(4,false),(5,false),(6,false),(7,false),(8,false),(9,false),(10,false)],L:=[0,13] })]
abbrev ctWOper:CT:=zat ttW wOperF wOperD Tryz.f131 (za1 Tryz.f131)
theorem wOperOk {I:List Nat} (hI:I.contains 131=true):zab Tryz.prog I 131 ctWOper:=zad zbg (D:=wOperD) (za0 (stGetOk.i _) (za0 (stKeysOk.i _) za3)) mixed k_ Tryz.func131 rfl k_ hI
abbrev wQCopyF:FT:=[(246,ctNil),(298,ctNil)]
abbrev zlx:List (Nat×DQ):=[(1,{ k:=14,pre:=[(0,false),(1,false),(2,false),(3,false),(5,false),(6,false),(7,false),(8,false),(10,false),(11,false),(12,false),(13,false),(4,true),(9,true)],L:=[2] })]
abbrev ctWQCopy:CT:=zat ttW wQCopyF zlx Tryz.f251 (za1 Tryz.f251)
theorem wQCopyOk {I:List Nat} (hI:I.contains 251=true):zab Tryz.prog I 251 ctWQCopy:=zad zbg (D:=zlx) (za0 (nilIOk.i _) (za0 (nilLOk.i _) za3)) mixed k_ Tryz.func251 rfl k_ hI
abbrev wTCopyF:FT:=[]
abbrev zlw:List (Nat×DQ):=[]
abbrev ctWTCopy:CT:=zat ttW wTCopyF zlw Tryz.f252 (za1 Tryz.f252)
theorem wTCopyOk {I:List Nat} (hI:I.contains 252=true):zab Tryz.prog I 252 ctWTCopy:=zad zbg (D:=zlw) (za3) mixed k_ Tryz.func252 rfl k_ hI
abbrev wFCopyF:FT:=[(250,ctHC stE stE),(251,ctWQCopy),(252,ctWTCopy)]
abbrev zlD:List (Nat×DQ):=[(9000000,{ k:=0,L:=[251,252] }),(1,{ k:=8,pre:=[(0,false),(1,false),(3,false),(4,false),(6,false),(7,false),(2,true),(5,true)],L:=[16] })]
abbrev ctWFCopy:CT:=zat ttW wFCopyF zlD Tryz.f202 (za1 Tryz.f202)
theorem wFCopyOk {I:List Nat} (hI:I.contains 202=true):zab Tryz.prog I 202 ctWFCopy:=zad zbg (D:=zlD) (za0 (stCopyOk.i _) (za0 (wQCopyOk d_) (za0 (wTCopyOk d_) za3))) mixed k_ Tryz.func202 rfl k_ hI
abbrev wTAppF:FT:=[(201,ctWSValid)]
abbrev wTAppD:List (Nat×DQ):=[(9000000,{ k:=0,L:=[201] }),(3,{ k:=6,pre:=[(0,false),(1,false),(2,false),(3,false),(4,false),(5,false)],L:=[24,20] }),(4,{ k:=7,pre:=[(0,false),(1,false),(2,false),(3,false),(4,false),(5,false),(6,false)],L:=[24,20] })]
abbrev ctWTApp:CT:=zat ttW wTAppF wTAppD Tryz.f253 (za1 Tryz.f253)
theorem wTAppOk {I:List Nat} (hI:I.contains 253=true):zab Tryz.prog I 253 ctWTApp:=zad zbg (D:=wTAppD) (za0 (zfw d_) za3) mixed k_ Tryz.func253 rfl k_ hI
abbrev wQAppF:FT:=[(201,ctWSValid)]
abbrev wQAppD:List (Nat×DQ):=[(9000000,{ k:=0,L:=[201] }),(5,{ k:=6,pre:=[(0,false),(1,false),(2,false),(3,false),(4,false),(5,false)],L:=[] }),(9,{ k:=12,pre:=[(0,false),(1,false),(2,false),(3,false),(4,false),(5,false),(6,false),(7,false),(8,false),(9,false),(10,true),(11,true)],L:=[] })]
abbrev ctWQApp:CT:=zat ttW wQAppF wQAppD Tryz.f255 (za1 Tryz.f255)
theorem wQAppOk {I:List Nat} (hI:I.contains 255=true):zab Tryz.prog I 255 ctWQApp:=zad zbg (D:=wQAppD) (za0 (zfw d_) za3) mixed k_ Tryz.func255 rfl k_ hI
abbrev wFAddF:FT:=[(253,ctWTApp),(254,ctHW (X:=Unit) stE stN (fun _=>[opV]) (fun _=>True) (fun _=>.int .i64 0)),(255,ctWQApp)]
abbrev wFAddD:List (Nat×DQ):=[(9000000,{ k:=0,L:=[253,255] })]
abbrev ctWFAdd:CT:=zat ttW wFAddF wFAddD Tryz.f203 (za1 Tryz.f203)
theorem wFAddOk {I:List Nat} (hI:I.contains 203=true):zab Tryz.prog I 203 ctWFAdd:=zad zbg (D:=wFAddD) (za0 (wTAppOk d_) (za0 (zlW.i _) (za0 (wQAppOk d_) za3))) mixed k_ Tryz.func203 rfl k_ hI
abbrev wApplyF:FT:=[(201,ctWSValid),(130,ctWLen),(59,ctWEpoch),(202,ctWFCopy),(203,ctWFAdd)]
abbrev zlG:List (Nat×DQ):=[(9000000,{ k:=0,L:=[201,130,59,202,203] }),(3,{ k:=11,pre:=[(0,false),(1,false),(2,false),(3,true),(4,false),(5,false),(6,false),(7,false),(8,false),(9,false),(10,true)],L:=[0,14] }),(10,{ k:=8,pre:=[(0,false),(1,false),(2,false),(3,false),(4,false),(5,false),(6,true),(7,true)],L:=[0,14] })]
abbrev ctWApply:CT:=zat ttW wApplyF zlG Tryz.f132 (za1 Tryz.f132)
theorem wApplyOk {I:List Nat} (hI:I.contains 132=true):zab Tryz.prog I 132 ctWApply:=zad zbg (D:=zlG) (za0 (zfw d_) (za0 (wLenOk d_) (za0 (zjt d_) (za0 (wFCopyOk d_) (za0 (wFAddOk d_) za3))))) mixed k_ Tryz.func132 rfl k_ hI
abbrev wWriteF:FT:=[(129,ctFind),(130,ctWLen),(131,ctWOper),(132,ctWApply)]
abbrev zlv:List (Nat×DQ):=[(9000000,{ k:=0,L:=[130,131,132] }),(1,{ k:=15,pre:=[(0,false),(1,false),(2,false),(3,false),(4,false),(5,false),(6,false),(7,false),(8,false),(9,true),(10,false),(11,false),(12,false)],A:=[13],post:=[(14,true)],L:=[0,10] }),(10,{ k:=17,pre:=[(0,false),(1,false),(2,false),(5,false),(6,false),(7,false),(8,false),(9,false),(10,false),(11,false),(12,false),(13,false),(14,false),(15,false),(3,true),(4,false),(16,false)],L:=[0,10] }),(13,{ k:=14,pre:=[(0,false),(1,false),(2,false),(3,false),(4,false),(5,false),(6,false),(7,false),(8,false),(9,true),(10,false),(11,false),(12,false),(13,true)],L:=[0,10] })]
abbrev ctWWrite:CT:=zat ttW wWriteF zlv Tryz.f62 (za1 Tryz.f62)
theorem wWriteOk {I:List Nat} (hI:I.contains 62=true):zab Tryz.prog I 62 ctWWrite:=zad zbg (D:=zlv) (za0 (findOk.i _) (za0 (wLenOk d_) (za0 (wOperOk d_) (za0 (wApplyOk d_) za3)))) mixed k_ Tryz.func62 rfl k_ hI
abbrev wExecF:FT:=[(57,ctWCValid),(58,ctWAcc),(59,ctWEpoch),(62,ctWWrite)]
abbrev wExecD:List (Nat×DQ):=[(9000000,{ k:=0,L:=[57,58,59,62] }),(1,{ k:=10,pre:=[(0,false),(1,true),(2,false),(3,false),(4,false),(5,false),(6,false),(7,false),(8,false),(9,false)],L:=[0,6] }),(9,{ k:=14,pre:=[(0,false),(1,false),(2,false),(3,false),(4,false),(5,false),(6,false),(7,true),(8,false),(9,false),(10,false),(11,false),(12,false),(13,false)],L:=[0,6] }),(14,{ k:=18,pre:=[(0,false),(1,false),(2,false),(3,false),(4,false),(5,false),(6,false),(7,false),(8,false),(9,true),(10,false),(11,false),(12,false),(13,false)],A:=[14,15],post:=[(16,true),(17,true)],L:=[0,6] })]
/-! authority.Holder and the platform's steps by inlining. -/
abbrev wContF:FT:=[]
abbrev wContD:List (Nat×DQ):=[]
abbrev ctWCont:CT:=zat ttW wContF wContD Tryz.f64 (za1 Tryz.f64)
theorem wContOk {I:List Nat} (hI:I.contains 64=true):zab Tryz.prog I 64 ctWCont:=zad zbg (D:=wContD) (za3) mixed k_ Tryz.func64 rfl k_ hI
abbrev wW1F:FT:=[]
abbrev wW1D:List (Nat×DQ):=[]
abbrev ctWW1:CT:=zat ttW wW1F wW1D Tryz.f136 (za1 Tryz.f136)
theorem wW1Ok {I:List Nat} (hI:I.contains 136=true):zab Tryz.prog I 136 ctWW1:=zad zbg (D:=wW1D) (za3) mixed k_ Tryz.func136 rfl k_ hI
abbrev wIdxF:FT:=[(136,ctWW1)]
abbrev wIdxD:List (Nat×DQ):=[(9000000,{ k:=0,L:=[136] }),(6000002,{ k:=2,L:=[] })]
abbrev ctWIdx:CT:=zat ttW wIdxF wIdxD Tryz.f204 (za1 Tryz.f204)
theorem wIdxOk {I:List Nat} (hI:I.contains 204=true):zab Tryz.prog I 204 ctWIdx:=zad zbg (D:=wIdxD) (za0 (wW1Ok d_) za3) mixed k_ Tryz.func204 rfl k_ hI
abbrev wDelF:FT:=[(204,ctWIdx)]
abbrev wDelD:List (Nat×DQ):=[(9000000,{ k:=0,L:=[204] }),(6000005,{ k:=1,L:=[] })]
abbrev ctWDel:CT:=zat ttW wDelF wDelD Tryz.f135 (za1 Tryz.f135)
theorem wDelOk {I:List Nat} (hI:I.contains 135=true):zab Tryz.prog I 135 ctWDel:=zad zbg (D:=wDelD) (za0 (wIdxOk d_) za3) mixed k_ Tryz.func135 rfl k_ hI
abbrev wInsSF:FT:=[]
abbrev wInsSD:List (Nat×DQ):=[(4,{ k:=14,pre:=[(0,false),(1,false),(2,false),(3,false),(4,false),(5,false),(6,false),(7,false),(8,false),(9,false),(10,false),(11,false),(12,false),(13,false)],L:=[] }),(6,{ k:=16,pre:=[(0,false),(1,false),(2,false),(3,false),(4,false),(5,false),(6,false),(7,false),(8,false),(9,false),(10,false),(11,false),(12,false),(13,false),(14,false),(15,true)],L:=[] }),(6000001,{ k:=1,L:=[] }),(6000004,{ k:=1,L:=[] })]
abbrev ctWInsS:CT:=zat ttW wInsSF wInsSD Tryz.f256 (za1 Tryz.f256)
theorem wInsSOk {I:List Nat} (hI:I.contains 256=true):zab Tryz.prog I 256 ctWInsS:=zad zbg (D:=wInsSD) (za3) mixed k_ Tryz.func256 rfl k_ hI
abbrev wPdqF:FT:=[(256,ctWInsS)]
abbrev wPdqD:List (Nat×DQ):=[(9000000,{ k:=0,L:=[256] }),(17,{ k:=13,pre:=[(0,false),(1,false),(2,false),(3,false),(4,false),(5,false),(6,false),(7,false),(8,false),(9,false),(10,false),(11,false),(12,false)],L:=[] }),(6000002,{ k:=1,L:=[] })]
abbrev ctWPdq:CT:=zat ttW wPdqF wPdqD Tryz.f205 (za1 Tryz.f205)
theorem wPdqOk {I:List Nat} (hI:I.contains 205=true):zab Tryz.prog I 205 ctWPdq:=zad zbg (D:=wPdqD) (za0 (wInsSOk d_) za3) mixed k_ Tryz.func205 rfl k_ hI
abbrev wSortF:FT:=[(206,ctLen1),(205,ctWPdq)]
abbrev wSortD:List (Nat×DQ):=[(9000000,{ k:=0,L:=[205] })]
abbrev ctWSort:CT:=zat ttW wSortF wSortD Tryz.f137 (za1 Tryz.f137)
theorem wSortOk {I:List Nat} (hI:I.contains 137=true):zab Tryz.prog I 137 ctWSort:=zad zbg (D:=wSortD) (za0 (len1Ok.i _) (za0 (wPdqOk d_) za3)) mixed k_ Tryz.func137 rfl k_ hI
abbrev wWinF:FT:=[(133,ctFoldH),(135,ctWDel),(137,ctWSort)]
abbrev wWinD:List (Nat×DQ):=[(9000000,{ k:=0,L:=[135,137] }),(6000004,{ k:=3,L:=[] })]
abbrev ctWWin:CT:=zat ttW wWinF wWinD Tryz.f63 (za1 Tryz.f63)
theorem wWinOk {I:List Nat} (hI:I.contains 63=true):zab Tryz.prog I 63 ctWWin:=zad zbg (D:=wWinD) (za0 (foldHOk.i _) (za0 (wDelOk d_) (za0 (wSortOk d_) za3))) mixed k_ Tryz.func63 rfl k_ hI
abbrev tTwoF:FT:=[]
abbrev tTwoD:List (Nat×DQ):=[]
abbrev ctTTwo:CT:=zat ttW tTwoF tTwoD Tryz.f23 (za1 Tryz.f23)
theorem tTwoOk {I:List Nat} (hI:I.contains 23=true):zab Tryz.prog I 23 ctTTwo:=zad zbg (D:=tTwoD) (za3) mixed k_ Tryz.func23 rfl k_ hI
abbrev tPropF:FT:=[(16,ctPProp)]
abbrev tPropD:List (Nat×DQ):=[(1,{ k:=10,pre:=[(0,false),(1,false),(2,false),(3,false),(4,false),(5,true),(6,false),(7,false),(8,false),(9,false)],L:=[9,31,32] }),(5,{ k:=22,pre:=[(0,false),(1,false),(2,false),(3,false),(4,false),(5,false),(6,false),(7,false),(8,false),(9,false),(10,false),(11,false),(12,false),(13,false),(14,false),(15,false),(16,false),(17,false),(18,false),(19,false),(20,true),(21,true)],L:=[9,32] })]
abbrev ctTProp:CT:=zat ttW tPropF tPropD Tryz.f24 (za1 Tryz.f24)
theorem tPropOk {I:List Nat} (hI:I.contains 24=true):zab Tryz.prog I 24 ctTProp:=zad zbg (D:=tPropD) (za0 (pPropOk.i _) za3) mixed k_ Tryz.func24 rfl k_ hI
abbrev tDelF:FT:=[(13,ctMod),(55,ctWGate),(56,ctWGive)]
abbrev tDelD:List (Nat×DQ):=[(9000000,{ k:=0,L:=[55,56] }),(1,{ k:=14,pre:=[(0,false),(1,false),(2,false),(3,false),(4,false),(5,false),(6,false),(7,false),(8,false),(9,false),(10,true),(11,false),(12,false)],A:=[13],post:=[],L:=[9,34] }),(2,{ k:=16,pre:=[(0,false),(1,false),(2,false),(3,false),(4,false),(5,false),(8,false),(9,false),(10,false),(14,false),(15,false),(6,true),(7,false),(11,true),(12,false),(13,true)],L:=[9,25,27,35] })]
abbrev ctTDel:CT:=zat ttW tDelF tDelD Tryz.f25 (za1 Tryz.f25)
theorem tDelOk {I:List Nat} (hI:I.contains 25=true):zab Tryz.prog I 25 ctTDel:=zad zbg (D:=tDelD) (za0 (modOk.i _) (za0 (zlB d_) (za0 (wGiveOk d_) za3))) mixed k_ Tryz.func25 rfl k_ hI
abbrev tBeginF:FT:=[(43,ctPNew),(54,ctWCNew),(55,ctWGate),(14,ctPState)]
abbrev zlN:List (Nat×DQ):=[(9000000,{ k:=0,L:=[54,55] }),(6000006,{ k:=2,L:=[] }),(6000010,{ k:=3,L:=[] })]
abbrev ctTBegin:CT:=zat ttW tBeginF zlN Tryz.f22 (za1 Tryz.f22)
theorem tBeginOk {I:List Nat} (hI:I.contains 22=true):zab Tryz.prog I 22 ctTBegin:=zad zbg (D:=zlN) (za0 (pNewOk.i _) (za0 (wCNewOk d_) (za0 (zlB d_) (za0 (pStateOk.i _) za3)))) mixed k_ Tryz.func22 rfl k_ hI
structure HX where
 x:CfgK
 R:CR
 cp:Nat
abbrev crO (R:CR):AM:=[(0,.row 1000093 1 R.nz R.ez),(1,.row 1000095 2 R.nc R.ec),(2,.row 1000098 7 R.nt R.et),(3,.row 1000100 2 R.nv R.ev),(4,.row 1000003 1 R.nr R.er),(5,.row 1000003 1 R.no R.eo)]
abbrev hoM (h:HX):AM:=crO h.R++[(6,zaz 1000043 9 zbe default [en1,en2])]
abbrev hoA (h:HX):List Value:=[zaX EN h.x c2,slc 6 2 h.cp,zi,.int .i64 3]
abbrev hoV:Value:=.tuple #[.agg #[zi,.int .i64 1,zi,.int .i64 1,zi,zi,.int .i64 20],.bool true]
def hoP (h:HX):Prop:=CROk c2 h.R/\2<=h.cp
theorem fold2a:(foldC c2 [en1,en2]).2.1=2:=by rw[fold2]
theorem fold2b:(foldC c2 [en1,en2]).2.2=0:=by rw[fold2]
def ctHold:CT:=znc (X:=HX) (Y:=Unit) hoA hoM 7 hoP (fun _ _=>True) (fun _ _=>hoV) (fun h _=>hoM h) 0
abbrev hoF:FT:=[(63,ctWWin),(64,ctWCont)]
abbrev hoD:List (Nat×DQ):=[(9000000,{ k:=0,L:=[63,64] }),(6000002,{ k:=2,L:=[] })]
theorem hold_sx (x:HX) (hx:hoP x):sx ttW hoF hoD (za1 Tryz.f27) (zb3 0 (hoA x)) (hoM x) 7 (zb8 ttW Tryz.f27.results.toList (objR (Y:=Unit) 7 (fun _=>True) (fun _=>hoV) (fun _=>hoM x))):=by
 obtain⟨x,R,cp⟩:=x;obtain⟨hR,hcp⟩:=hx;dsimp only at hR hcp;refine⟨EN,x,c2,6,cp,[en1,en2],rfl,⟨⟨_,_,_,rfl,hR.z.1,hR.z.2⟩,⟨_,_,_,rfl,hR.c.1,hR.c.2⟩,⟨_,_,_,rfl,hR.t.1,hR.t.2⟩,⟨_,_,_,rfl,hR.v.1,hR.v.2⟩,⟨_,_,_,rfl,hR.r.1,hR.r.2⟩,⟨_,_,_,rfl,hR.o.1,hR.o.2⟩⟩,⟨_,_,_,rfl,nl_,fun k hk=>rfl⟩,c2V,d_,fun y=>?_⟩;rw[fold2a,fold2b];refine⟨⟨d_,(by dsimp only;omega)⟩,?_⟩;repeat (first | refine⟨fun _=>?_,bt_⟩ | refine⟨bf_,fun _=>?_⟩ | refine⟨⟨na_,nb_,nb_⟩,?_⟩ | refine⟨fun q=>absurd q nc_,fun _=>?_⟩ | refine⟨fun _=>?_,fun q=>absurd q s_⟩ | refine⟨fun q=>absurd q s_,fun _=>?_⟩ | refine⟨⟨d_,d_,d_⟩,?_⟩ | refine⟨⟨d_,o_⟩,?_⟩ | refine⟨d_,?_⟩)
 intro cap3 el3 g1 g2;obtain⟨el4,rfl⟩:=zh5 (v:=[zi,.int .i64 1,zi,.int .i64 1,zi,zi,.int .i64 20]) ((g2 0 d_).trans (by rfl));clear g2;repeat (first | refine⟨fun _=>?_,bt_⟩ | refine⟨bf_,fun _=>?_⟩ | refine⟨⟨na_,nb_,nb_⟩,?_⟩ | refine⟨fun q=>absurd q nc_,fun _=>?_⟩ | refine⟨fun _=>?_,fun q=>absurd q s_⟩ | refine⟨fun q=>absurd q s_,fun _=>?_⟩ | refine⟨⟨d_,d_,d_⟩,?_⟩ | refine⟨⟨d_,o_⟩,?_⟩ | refine⟨d_,?_⟩)
 refine⟨by first | rfl | kernel_rfl,?_⟩;repeat (first | refine⟨fun _=>?_,bt_⟩ | refine⟨bf_,fun _=>?_⟩ | refine⟨⟨na_,nb_,nb_⟩,?_⟩ | refine⟨fun q=>absurd q nc_,fun _=>?_⟩ | refine⟨fun _=>?_,fun q=>absurd q s_⟩ | refine⟨fun q=>absurd q s_,fun _=>?_⟩ | refine⟨⟨d_,d_,d_⟩,?_⟩)
 exact⟨(),[],trivial,rfl,rfl,rfl,kp_⟩
theorem holdOk:CSound Tryz.prog 27 ctHold:=zfp zbg (D:=hoD) (za0 (wWinOk d_) (za0 (wContOk d_) za3)) mixed k_ Tryz.func27 rfl k_ (fun _=>rfl) (fun _=>rfl) (fun _ _=>rfl) (fun x hx=>hold_sx x hx)
end Go.Proofs.YtjnndjnpcelafaaGreat
