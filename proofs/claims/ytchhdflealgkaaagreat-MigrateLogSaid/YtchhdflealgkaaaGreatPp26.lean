import Derived.Test.YtchhdflealgkaaaGreatPp25
namespace Go.Proofs.YtchhdflealgkaaaGreat
open Go.RowKit
set_option linter.unusedSimpArgs false
set_option linter.unusedVariables false
/-! Migration.Entry and its reference. -/
structure Mig where
 a:Int
 b:Int
 d:Int
 e:Int
 p:Int
 cl:Bool
 ea:Int
instance:Inhabited Mig:=⟨⟨0,0,0,0,0,false,0⟩⟩
def migC (m:Mig):List Value:=[.int .i64 m.a,.int .i64 m.b,.int .i64 m.d,.int .i64 m.e,.int .i64 m.p,.bool m.cl,.int .i64 m.ea]
theorem migC_plain:∀ x,∀ v ∈ migC x,plain1 v:=fun x v hv=>by simp[migC] at hv;rcases hv with rfl | rfl | rfl | rfl | rfl | rfl | rfl<;>trivial
def mpl (g:Nat) (x:CfgA) (c:Cfg) (y:StA) (s:St):Nat→Pl:=fun j=>match j with
 | 10=>⟨some ⟨g,0,none⟩,7,1,false,noSub⟩
 | j=>rpl x c y s noA noS j
abbrev mgM (E:Mig→List Value) (m:Mig) (c:Cfg) (s:St):AM:=(10,rowOfL 3 7 E default [m])::rdM c s noS
set_option maxRecDepth 100000 in
theorem mig_calls {E:Mig→List Value} (hE:∀ x,(E x).length=7) (hEp:∀ x,∀ v ∈ E x,plain1 v) {f:FuncId} {fn:Func} {F:FT} {D:List (Nat×DQ)} (hF:FTokI Tryz.prog F (inlOf D)) (hf:(Tryz.prog).funcs[f]?=some fn) (hb:fn.body=some (bodyOf fn)) (hcode:codeB fn.ntmps D (bodyOf fn)=true) (hn:Nat.ble 4 fn.ntmps=true)
  (g:Nat) (m:Mig) (x:CfgA) (c:Cfg) (y:StA) (s:St) (tick:Int) (w:World) (hg:g<w.heap.size) (hm:∀ k v,(E m)[k]?=some v→w.cell? ⟨g,k,none⟩=some v) (hc:CfgOk w (·<w.heap.size) x c) (hs:StOk w (·<w.heap.size) y s) {R:Value→AM→Nat→Prop}
  (h:sx tt F D (bodyOf fn) (argF 0 [.pointer (some ⟨10,0,some 0⟩),cfgV CN1 (ck x) c,stV SN1 (sk y) s,.int .i64 tick]) (mgM E m c s) 11 (endx tt fn.results.toList R)) :
  Calls Tryz.prog f #[.pointer (some ⟨g,0,none⟩),.agg (cfgC x c),.agg (stC y s),.int .i64 tick] w fun e w'=>∃ v mem' nx' ρ',e=.returned (den ρ' v)∧R v mem' nx'∧Below w.heap.size w w':=by
 have hpc:CfgPl (mpl g x c y s) CN1 x c:=⟨rfl,rfl,rfl,rfl,rfl,rfl⟩
 have hps:StPl (mpl g x c y s) SN1 y s:=⟨rfl,rfl⟩
 have hps2:StPl (mpl g x c y s) SN2 noA noS:=⟨rfl,rfl⟩
 have hrd:Rd w (·<w.heap.size) (some ⟨g,0,none⟩) (flat E [m]):=fun _=>⟨_,0,rfl,hg,fun j v hv=>by rw[Nat.zero_add];exact hm j v (by simpa [flat] using hv)⟩
 have hm:MemAt { w0:=w,bor:=[],n0:=11,ρ0:=mpl g x c y s,nt:=fn.ntmps } (mpl g x c y s) (mgM E m c s) 11 w:=MemAt.rows trivial ⟨⟨by decide,rfl,row_of_rd (enc:=E) (sz:=7) hE (by omega) hEp default rfl hrd (fun b hb=>hb)⟩,cfg_blks hpc hc (fun b hb=>hb) (by decide) (st_blks hps hs (fun b hb=>hb) (by decide) (by
  have:=st_blks (C:={ w0:=w,bor:=[],n0:=11,ρ0:=mpl g x c y s,nt:=fn.ntmps }) (nx:=11) (r:=[]) hps2 (noS_ok w _) (fun b hb=>hb) (by decide) trivial
  exact this))⟩
 have e1:den (mpl g x c y s) (cfgV CN1 (ck x) c)=.agg (cfgC x c):=by rw[den_cfg];rfl
 have e2:den (mpl g x c y s) (stV SN1 (sk y) s)=.agg (stC y s):=by rw[den_st];rfl
 have e0:den (mpl g x c y s) (.pointer (some ⟨10,0,some 0⟩))=.pointer (some ⟨g,0,none⟩):=by simp[den,den2,den1,dA_some (ρ:=mpl g x c y s) (a:=⟨10,0,some 0⟩) (b:=g) (o:=0) rfl]
 have hcalls:=calls_sxI ttOk hF mixed hf hb hcode (vs:=[.pointer (some ⟨10,0,some 0⟩),cfgV CN1 (ck x) c,stV SN1 (sk y) s,.int .i64 tick]) hn ⟨rfl,rfl⟩ rfl hm (fun v hv=>by
  simp only[List.mem_cons,List.not_mem_nil,or_false] at hv
  rcases hv with rfl | rfl | rfl | rfl
  ·exact⟨⟨by decide,rfl⟩,⟨g,0,rfl⟩,fun k hk=>by cases hk;exact Nat.zero_lt_one⟩
  ·intro u hu
   simp at hu
   rcases hu with rfl | rfl | rfl | rfl | rfl | rfl | rfl | rfl | rfl | rfl<;>first | trivial | exact⟨by decide,rfl⟩
  ·intro u hu
   simp at hu
   rcases hu with rfl | rfl | rfl | rfl | rfl | rfl | rfl | rfl<;>first | trivial | exact⟨by decide,rfl⟩
  ·trivial) h
 rw[List.map_cons,List.map_cons,List.map_cons,e0,e1,e2] at hcalls
 refine hcalls.mono ?_
 rintro e w' ⟨v,mem',nx',ρ',rfl,hR,hv',hm'⟩
 exact⟨v,mem',nx',ρ',rfl,hR,⟨hm'.rest.os,hm'.rest.tape,hm'.rest.output,hm'.rest.size,fun b hlt=>hm'.rest.block b hlt (by simp)⟩⟩
def eCut (m:Mig) (tick:Int):Ent:=⟨3,tick,m.a,-1,-1,m.e,0,0,0⟩
def eDrop (m:Mig) (tick:Int):Ent:=⟨7,tick,m.a,-1,-1,0,0,0,0⟩
def eGrantM (c:Cfg) (s:St) (a k since:Int) (tick:Int):Ent:=⟨2,tick,a,k,-1,IntKind.i64.wrap ((s.tenants.getD a.toNat default).epoch+1),since,IntKind.i64.wrap (since+c.lease),(s.cells.getD k.toNat default).running⟩
def lateM (s:St) (a tick:Int):Int:=if (s.tenants.getD a.toNat default).win.till>tick then (s.tenants.getD a.toNat default).win.till else tick
def taskE (c:Cfg) (s:St) (m:Mig) (tick:Int):Option Ent:=
 if m.p=4 then some (eCut m tick)
 else if m.p=5 then some (eGrantM c s m.a m.d tick tick)
 else if m.p=7∨m.p=8 then some (eDrop m tick)
 else if m.p=9 then some (eGrantM c s m.a m.b (lateM s m.a tick) tick)
 else none
def argM (c:Cfg) (m:Mig):Bool:=decide (m.a<0)||decide ((c.tenants.length:Int)≤m.a)||decide (m.b<0)||decide ((c.cells.length:Int)≤m.b)||decide (m.d<0)||decide ((c.cells.length:Int)≤m.d)
def migE (c:Cfg) (s:St) (m:Mig) (tick:Int):Ent×Int:=
 if argM c m=true then (entZ',1) else match taskE c s m tick with
  | none=>(entZ',4)
  | some e=>if (applyP c s e).2=0 then (e,0) else (entZ',(applyP c s e).2)
where entZ':Ent:=⟨0,0,0,0,0,0,0,0,0⟩
abbrev epF:FT:=[(32,ctInl tt [] [] Tryz.f32 (bodyOf Tryz.f32)),(66,ctChecked)]
abbrev epD:List (Nat×DQ):=[(9000000,{ k:=0,L:=[66,32] }),(1,{ k:=49,L:=[0,1,2,3,4,5,6,7,8,9,10,11,12,13],pre:=[(0,false),(1,false),(2,false),(3,false),(4,false),(5,false),(6,false),(7,false),(8,false),(9,false),(10,false),(11,false),(12,false),(13,false),(14,false),(15,false),(16,false),(17,false),(18,false),(19,false),(20,false),(21,false),(22,false),(23,false),(24,false),(25,false),(26,false),(27,false),(28,false),(29,false),(30,false),(31,false),(32,false),(33,false),(34,false),(35,false),(36,false),(37,false),(38,false),(39,false),(40,false),(41,false),(42,false),(43,false),(44,false),(45,false),(46,false),(47,false),(48,false)],sl:=[1] }),(3,{ k:=28,L:=[0,1,2,3,4,5,6,7,8,9,10,11,12,13],pre:=[(0,false),(1,false),(2,false),(3,false),(4,false),(5,false),(6,false),(7,false),(8,false),(9,false),(10,false),(11,false),(12,false),(13,false),(14,false),(15,false),(16,false),(17,false),(18,false),(19,false),(20,false),(21,false),(22,false),(23,false),(24,false),(25,false),(26,false),(27,false)],sl:=[1] }),(5,{ k:=9,L:=[0,1,2,3,4,5,6,7,8,9,10,11,12,13],pre:=[(0,false),(1,false),(2,false),(3,false),(4,false),(5,false),(6,false),(7,false),(8,true)] })]
theorem epFok:FTokI Tryz.prog epF (inlOf epD):=fti_cons (inl_ok ttOk fti_nil mixed (by kernel_rfl) Tryz.func32 rfl (by kernel_rfl) (by decide)) (fti_cons (checkedOk (by decide)) fti_nil)
theorem argM_cases {c:Cfg} {m:Mig} (h:argM c m=true):m.a<0∨(0≤m.a∧(c.tenants.length:Int)≤m.a)∨((0≤m.a∧m.a<(c.tenants.length:Int))∧m.b<0)∨((0≤m.a∧m.a<(c.tenants.length:Int))∧0≤m.b∧(c.cells.length:Int)≤m.b)∨((0≤m.a∧m.a<(c.tenants.length:Int))∧(0≤m.b∧m.b<(c.cells.length:Int))∧m.d<0)∨((0≤m.a∧m.a<(c.tenants.length:Int))∧(0≤m.b∧m.b<(c.cells.length:Int))∧0≤m.d∧(c.cells.length:Int)≤m.d):=by
 simp[argM] at h
 omega
theorem argM_not {c:Cfg} {m:Mig} (h:¬ argM c m=true):(0≤m.a∧m.a<(c.tenants.length:Int))∧(0≤m.b∧m.b<(c.cells.length:Int))∧0≤m.d∧m.d<(c.cells.length:Int):=by
 simp[argM] at h
 omega
set_option maxRecDepth 100000 in
set_option maxHeartbeats 8000000 in
theorem entP_sx (m:Mig) (x:CfgK) (c:Cfg) (y:StK) (s:St) (tick:Int) (hV:CfgV c) (hI:StInv c s) :
  sx tt epF epD (bodyOf Tryz.f27) (argF 0 [.pointer (some ⟨10,0,some 0⟩),cfgV CN1 x c,stV SN1 y s,.int .i64 tick]) (mgM migC m c s) 11 (endx tt Tryz.f27.results.toList fun v _ _=>v=.tuple #[entV' (migE c s m tick).1,.int .i64 (migE c s m tick).2]):=by
 have htn:=hI.lt
 have hcn:=hI.lc
 by_cases hA:argM c m=true
 ·rcases argM_cases hA with h | h | h | h | h | h
  ·refine⟨fun _=>?_,fun q=>absurd q (by simp;omega)⟩
   repeat (first | refine⟨fun _=>?_,fun h=>Bool.noConfusion h⟩ | refine⟨fun h=>Bool.noConfusion h,fun _=>?_⟩ | fail)
   rw[show migE c s m tick=(⟨0,0,0,0,0,0,0,0,0⟩,1) from if_pos hA]
   rfl
  ·refine⟨fun q=>absurd q (by simp;omega),fun _=>?_⟩
   refine⟨fun _=>?_,fun q=>absurd q (by simp;omega)⟩
   repeat (first | refine⟨fun _=>?_,fun h=>Bool.noConfusion h⟩ | refine⟨fun h=>Bool.noConfusion h,fun _=>?_⟩ | fail)
   rw[show migE c s m tick=(⟨0,0,0,0,0,0,0,0,0⟩,1) from if_pos hA]
   rfl
  ·refine⟨fun q=>absurd q (by simp;omega),fun _=>?_⟩
   refine⟨fun q=>absurd q (by simp;omega),fun _=>?_⟩
   refine⟨fun _=>?_,fun q=>absurd q (by simp;omega)⟩
   repeat (first | refine⟨fun _=>?_,fun h=>Bool.noConfusion h⟩ | refine⟨fun h=>Bool.noConfusion h,fun _=>?_⟩ | fail)
   rw[show migE c s m tick=(⟨0,0,0,0,0,0,0,0,0⟩,1) from if_pos hA]
   rfl
  ·refine⟨fun q=>absurd q (by simp;omega),fun _=>?_⟩
   refine⟨fun q=>absurd q (by simp;omega),fun _=>?_⟩
   refine⟨fun q=>absurd q (by simp;omega),fun _=>?_⟩
   refine⟨fun _=>?_,fun q=>absurd q (by simp;omega)⟩
   repeat (first | refine⟨fun _=>?_,fun h=>Bool.noConfusion h⟩ | refine⟨fun h=>Bool.noConfusion h,fun _=>?_⟩ | fail)
   rw[show migE c s m tick=(⟨0,0,0,0,0,0,0,0,0⟩,1) from if_pos hA]
   rfl
  ·refine⟨fun q=>absurd q (by simp;omega),fun _=>?_⟩
   refine⟨fun q=>absurd q (by simp;omega),fun _=>?_⟩
   refine⟨fun q=>absurd q (by simp;omega),fun _=>?_⟩
   refine⟨fun q=>absurd q (by simp;omega),fun _=>?_⟩
   refine⟨fun _=>?_,fun q=>absurd q (by simp;omega)⟩
   repeat (first | refine⟨fun _=>?_,fun h=>Bool.noConfusion h⟩ | refine⟨fun h=>Bool.noConfusion h,fun _=>?_⟩ | fail)
   rw[show migE c s m tick=(⟨0,0,0,0,0,0,0,0,0⟩,1) from if_pos hA]
   rfl
  ·refine⟨fun q=>absurd q (by simp;omega),fun _=>?_⟩
   refine⟨fun q=>absurd q (by simp;omega),fun _=>?_⟩
   refine⟨fun q=>absurd q (by simp;omega),fun _=>?_⟩
   refine⟨fun q=>absurd q (by simp;omega),fun _=>?_⟩
   refine⟨fun q=>absurd q (by simp;omega),fun _=>?_⟩
   refine⟨fun _=>?_,fun q=>absurd q (by simp;omega)⟩
   rw[show migE c s m tick=(⟨0,0,0,0,0,0,0,0,0⟩,1) from if_pos hA]
   rfl
 ·have hm:=argM_not hA
  rcases (show m.p=4∨m.p=5∨m.p=7∨m.p=8∨m.p=9∨(m.p≠4∧m.p≠5∧m.p≠7∧m.p≠8∧m.p≠9) by omega) with hp | hp | hp | hp | hp | hp
  ·have hME:migE c s m tick=match taskE c s m tick with | none=>(⟨0,0,0,0,0,0,0,0,0⟩,4) | some e=>if (applyP c s e).2=0 then (e,0) else (⟨0,0,0,0,0,0,0,0,0⟩,(applyP c s e).2):=if_neg hA
   unfold taskE at hME
   rw[if_pos hp] at hME
   dsimp only at hME
   refine⟨fun q=>absurd q (by simp;omega),fun _=>?_⟩
   refine⟨fun q=>absurd q (by simp;omega),fun _=>?_⟩
   refine⟨fun q=>absurd q (by simp;omega),fun _=>?_⟩
   refine⟨fun q=>absurd q (by simp;omega),fun _=>?_⟩
   refine⟨fun q=>absurd q (by simp;omega),fun _=>?_⟩
   refine⟨fun q=>absurd q (by simp;omega),fun _=>?_⟩
   refine⟨fun q=>absurd q (by simp;omega),fun _=>?_⟩
   refine⟨fun q=>absurd q (by simp;omega),fun _=>?_⟩
   refine⟨fun q=>absurd q (by simp;omega),fun _=>?_⟩
   refine⟨⟨Nat.le_refl _,(show 0≤m.a from hm.1.1),(by have:=hm.1.2;show m.a<_;omega)⟩,?_⟩
   refine⟨kp_,?_⟩
   refine⟨fun q=>absurd q (by simp;omega),fun _=>?_⟩
   refine⟨fun q=>absurd q (by simp;omega),fun _=>?_⟩
   refine⟨fun q=>absurd q (by simp;omega),fun _=>?_⟩
   refine⟨fun _=>?_,fun q=>absurd q (by simp;omega)⟩
   repeat (first | refine⟨fun _=>?_,fun h=>Bool.noConfusion h⟩ | refine⟨fun h=>Bool.noConfusion h,fun _=>?_⟩ | fail)
   refine⟨CN1,x,c,SN1,y,s,(eCut m tick),rfl,kp_,⟨.list rfl,.list rfl⟩,hV,hI,?_⟩
   intro y3
   refine⟨fun hz=>?_,fun hz=>?_⟩
   ·rw[if_neg (by simpa using hz)] at hME
    rw[hME]
    rfl
   ·rw[if_pos (by simpa using hz)] at hME
    rw[hME]
    rfl
  ·have hME:migE c s m tick=match taskE c s m tick with | none=>(⟨0,0,0,0,0,0,0,0,0⟩,4) | some e=>if (applyP c s e).2=0 then (e,0) else (⟨0,0,0,0,0,0,0,0,0⟩,(applyP c s e).2):=if_neg hA
   unfold taskE at hME
   rw[if_neg (by omega),if_pos hp] at hME
   dsimp only at hME
   refine⟨fun q=>absurd q (by simp;omega),fun _=>?_⟩
   refine⟨fun q=>absurd q (by simp;omega),fun _=>?_⟩
   refine⟨fun q=>absurd q (by simp;omega),fun _=>?_⟩
   refine⟨fun q=>absurd q (by simp;omega),fun _=>?_⟩
   refine⟨fun q=>absurd q (by simp;omega),fun _=>?_⟩
   refine⟨fun q=>absurd q (by simp;omega),fun _=>?_⟩
   refine⟨fun q=>absurd q (by simp;omega),fun _=>?_⟩
   refine⟨fun q=>absurd q (by simp;omega),fun _=>?_⟩
   refine⟨fun q=>absurd q (by simp;omega),fun _=>?_⟩
   refine⟨⟨Nat.le_refl _,(show 0≤m.a from hm.1.1),(by have:=hm.1.2;show m.a<_;omega)⟩,?_⟩
   refine⟨kp_,?_⟩
   refine⟨fun q=>absurd q (by simp;omega),fun _=>?_⟩
   refine⟨fun q=>absurd q (by simp;omega),fun _=>?_⟩
   refine⟨fun q=>absurd q (by simp;omega),fun _=>?_⟩
   refine⟨fun q=>absurd q (by simp;omega),fun _=>?_⟩
   refine⟨fun _=>?_,fun q=>absurd q (by simp;omega)⟩
   repeat (first | refine⟨fun _=>?_,fun h=>Bool.noConfusion h⟩ | refine⟨fun h=>Bool.noConfusion h,fun _=>?_⟩ | fail)
   refine⟨⟨Nat.le_refl _,(show 0≤m.d from hm.2.2.1),(by have:=hm.2.2.2;show m.d<_;omega)⟩,?_⟩
   repeat (first | refine⟨fun _=>?_,fun h=>Bool.noConfusion h⟩ | refine⟨fun h=>Bool.noConfusion h,fun _=>?_⟩ | fail)
   refine⟨CN1,x,c,SN1,y,s,(eGrantM c s m.a m.d tick tick),rfl,kp_,⟨.list rfl,.list rfl⟩,hV,hI,?_⟩
   intro y3
   refine⟨fun hz=>?_,fun hz=>?_⟩
   ·rw[if_neg (by simpa using hz)] at hME
    rw[hME]
    rfl
   ·rw[if_pos (by simpa using hz)] at hME
    rw[hME]
    rfl
  ·have hME:migE c s m tick=match taskE c s m tick with | none=>(⟨0,0,0,0,0,0,0,0,0⟩,4) | some e=>if (applyP c s e).2=0 then (e,0) else (⟨0,0,0,0,0,0,0,0,0⟩,(applyP c s e).2):=if_neg hA
   unfold taskE at hME
   rw[if_neg (by omega),if_neg (by omega),if_pos (by omega)] at hME
   dsimp only at hME
   refine⟨fun q=>absurd q (by simp;omega),fun _=>?_⟩
   refine⟨fun q=>absurd q (by simp;omega),fun _=>?_⟩
   refine⟨fun q=>absurd q (by simp;omega),fun _=>?_⟩
   refine⟨fun q=>absurd q (by simp;omega),fun _=>?_⟩
   refine⟨fun q=>absurd q (by simp;omega),fun _=>?_⟩
   refine⟨fun q=>absurd q (by simp;omega),fun _=>?_⟩
   refine⟨fun q=>absurd q (by simp;omega),fun _=>?_⟩
   refine⟨fun q=>absurd q (by simp;omega),fun _=>?_⟩
   refine⟨fun q=>absurd q (by simp;omega),fun _=>?_⟩
   refine⟨⟨Nat.le_refl _,(show 0≤m.a from hm.1.1),(by have:=hm.1.2;show m.a<_;omega)⟩,?_⟩
   refine⟨kp_,?_⟩
   refine⟨fun q=>absurd q (by simp;omega),fun _=>?_⟩
   refine⟨fun q=>absurd q (by simp;omega),fun _=>?_⟩
   refine⟨fun q=>absurd q (by simp;omega),fun _=>?_⟩
   refine⟨fun q=>absurd q (by simp;omega),fun _=>?_⟩
   refine⟨fun q=>absurd q (by simp;omega),fun _=>?_⟩
   refine⟨fun _=>?_,fun q=>absurd q (by simp;omega)⟩
   repeat (first | refine⟨fun _=>?_,fun h=>Bool.noConfusion h⟩ | refine⟨fun h=>Bool.noConfusion h,fun _=>?_⟩ | fail)
   refine⟨CN1,x,c,SN1,y,s,(eDrop m tick),rfl,kp_,⟨.list rfl,.list rfl⟩,hV,hI,?_⟩
   intro y3
   refine⟨fun hz=>?_,fun hz=>?_⟩
   ·rw[if_neg (by simpa using hz)] at hME
    rw[hME]
    rfl
   ·rw[if_pos (by simpa using hz)] at hME
    rw[hME]
    rfl
  ·have hME:migE c s m tick=match taskE c s m tick with | none=>(⟨0,0,0,0,0,0,0,0,0⟩,4) | some e=>if (applyP c s e).2=0 then (e,0) else (⟨0,0,0,0,0,0,0,0,0⟩,(applyP c s e).2):=if_neg hA
   unfold taskE at hME
   rw[if_neg (by omega),if_neg (by omega),if_pos (by omega)] at hME
   dsimp only at hME
   refine⟨fun q=>absurd q (by simp;omega),fun _=>?_⟩
   refine⟨fun q=>absurd q (by simp;omega),fun _=>?_⟩
   refine⟨fun q=>absurd q (by simp;omega),fun _=>?_⟩
   refine⟨fun q=>absurd q (by simp;omega),fun _=>?_⟩
   refine⟨fun q=>absurd q (by simp;omega),fun _=>?_⟩
   refine⟨fun q=>absurd q (by simp;omega),fun _=>?_⟩
   refine⟨fun q=>absurd q (by simp;omega),fun _=>?_⟩
   refine⟨fun q=>absurd q (by simp;omega),fun _=>?_⟩
   refine⟨fun q=>absurd q (by simp;omega),fun _=>?_⟩
   refine⟨⟨Nat.le_refl _,(show 0≤m.a from hm.1.1),(by have:=hm.1.2;show m.a<_;omega)⟩,?_⟩
   refine⟨kp_,?_⟩
   refine⟨fun q=>absurd q (by simp;omega),fun _=>?_⟩
   refine⟨fun q=>absurd q (by simp;omega),fun _=>?_⟩
   refine⟨fun q=>absurd q (by simp;omega),fun _=>?_⟩
   refine⟨fun q=>absurd q (by simp;omega),fun _=>?_⟩
   refine⟨fun q=>absurd q (by simp;omega),fun _=>?_⟩
   refine⟨fun q=>absurd q (by simp;omega),fun _=>?_⟩
   refine⟨fun _=>?_,fun q=>absurd q (by simp;omega)⟩
   repeat (first | refine⟨fun _=>?_,fun h=>Bool.noConfusion h⟩ | refine⟨fun h=>Bool.noConfusion h,fun _=>?_⟩ | fail)
   refine⟨CN1,x,c,SN1,y,s,(eDrop m tick),rfl,kp_,⟨.list rfl,.list rfl⟩,hV,hI,?_⟩
   intro y3
   refine⟨fun hz=>?_,fun hz=>?_⟩
   ·rw[if_neg (by simpa using hz)] at hME
    rw[hME]
    rfl
   ·rw[if_pos (by simpa using hz)] at hME
    rw[hME]
    rfl
  ·have hME:migE c s m tick=match taskE c s m tick with | none=>(⟨0,0,0,0,0,0,0,0,0⟩,4) | some e=>if (applyP c s e).2=0 then (e,0) else (⟨0,0,0,0,0,0,0,0,0⟩,(applyP c s e).2):=if_neg hA
   unfold taskE at hME
   rw[if_neg (by omega),if_neg (by omega),if_neg (by omega),if_pos hp] at hME
   dsimp only at hME
   refine⟨fun q=>absurd q (by simp;omega),fun _=>?_⟩
   refine⟨fun q=>absurd q (by simp;omega),fun _=>?_⟩
   refine⟨fun q=>absurd q (by simp;omega),fun _=>?_⟩
   refine⟨fun q=>absurd q (by simp;omega),fun _=>?_⟩
   refine⟨fun q=>absurd q (by simp;omega),fun _=>?_⟩
   refine⟨fun q=>absurd q (by simp;omega),fun _=>?_⟩
   refine⟨fun q=>absurd q (by simp;omega),fun _=>?_⟩
   refine⟨fun q=>absurd q (by simp;omega),fun _=>?_⟩
   refine⟨fun q=>absurd q (by simp;omega),fun _=>?_⟩
   refine⟨⟨Nat.le_refl _,(show 0≤m.a from hm.1.1),(by have:=hm.1.2;show m.a<_;omega)⟩,?_⟩
   refine⟨kp_,?_⟩
   refine⟨fun q=>absurd q (by simp;omega),fun _=>?_⟩
   refine⟨fun q=>absurd q (by simp;omega),fun _=>?_⟩
   refine⟨fun q=>absurd q (by simp;omega),fun _=>?_⟩
   refine⟨fun q=>absurd q (by simp;omega),fun _=>?_⟩
   refine⟨fun q=>absurd q (by simp;omega),fun _=>?_⟩
   refine⟨fun q=>absurd q (by simp;omega),fun _=>?_⟩
   refine⟨fun q=>absurd q (by simp;omega),fun _=>?_⟩
   refine⟨fun _=>?_,fun q=>absurd q (by simp;omega)⟩
   repeat (first | refine⟨fun _=>?_,fun h=>Bool.noConfusion h⟩ | refine⟨fun h=>Bool.noConfusion h,fun _=>?_⟩ | fail)
   refine⟨⟨Nat.le_refl _,(show 0≤m.b from hm.2.1.1),(by have:=hm.2.1.2;show m.b<_;omega)⟩,?_⟩
   repeat (first | refine⟨fun _=>?_,fun h=>Bool.noConfusion h⟩ | refine⟨fun h=>Bool.noConfusion h,fun _=>?_⟩ | fail)
   refine⟨CN1,x,c,SN1,y,s,(eGrantM c s m.a m.b (lateM s m.a tick) tick),rfl,kp_,⟨.list rfl,.list rfl⟩,hV,hI,?_⟩
   intro y3
   refine⟨fun hz=>?_,fun hz=>?_⟩
   ·rw[if_neg (by simpa using hz)] at hME
    rw[hME]
    rfl
   ·rw[if_pos (by simpa using hz)] at hME
    rw[hME]
    rfl
  ·have hME:migE c s m tick=(⟨0,0,0,0,0,0,0,0,0⟩,4):=by unfold migE;rw[if_neg hA];unfold taskE;rw[if_neg (by omega),if_neg (by omega),if_neg (by omega),if_neg (by omega)];rfl
   rw[hME]
   refine⟨fun q=>absurd q (by simp;omega),fun _=>?_⟩
   refine⟨fun q=>absurd q (by simp;omega),fun _=>?_⟩
   refine⟨fun q=>absurd q (by simp;omega),fun _=>?_⟩
   refine⟨fun q=>absurd q (by simp;omega),fun _=>?_⟩
   refine⟨fun q=>absurd q (by simp;omega),fun _=>?_⟩
   refine⟨fun q=>absurd q (by simp;omega),fun _=>?_⟩
   refine⟨fun q=>absurd q (by simp;omega),fun _=>?_⟩
   refine⟨fun q=>absurd q (by simp;omega),fun _=>?_⟩
   refine⟨fun q=>absurd q (by simp;omega),fun _=>?_⟩
   refine⟨⟨Nat.le_refl _,(show 0≤m.a from hm.1.1),(by have:=hm.1.2;show m.a<_;omega)⟩,?_⟩
   refine⟨kp_,?_⟩
   repeat' (first | refine⟨fun _=>?_,fun h=>Bool.noConfusion h⟩ | refine⟨fun h=>Bool.noConfusion h,fun _=>?_⟩ | refine⟨fun q=>absurd q (by first | (simp;omega) | fail),fun _=>?_⟩ | refine⟨fun _=>?_,fun _=>?_⟩ | fail)
   all_goals rfl
def ctEnt (E:Mig→List Value):CT:=fun vs mem nx K=>∃ i t m N x c M y s tick,vs=[ptr i,cfgV N x c,stV M y s,.int .i64 tick]∧(lk mem i=some (.box t (E m))∧keeps mem (cfgM N c)∧HasRow mem M.t 12 tsC default s.tenants∧HasRow mem M.c 4 csC default s.cells)∧(CfgV c∧StInv c s∧overB c s=false)∧K (.tuple #[entV' (migE c s m tick).1,.int .i64 (migE c s m tick).2]) mem nx
theorem ent_sound {E : Mig → List Value} (hEp : ∀ x, ∀ v ∈ E x, plain1 v) {f : FuncId} (ent : ((Tryz.prog).funcs[f]?).map (fun fn => (fn.name == "runtime.NumGoroutine", fn.body.isNone)) = some (false, false))
  (h:∀ (g:Nat) (m:Mig) (x:CfgA) (c:Cfg) (y:StA) (s:St) (tick:Int) (w:World),CfgV c→StInv c s→overB c s=false→g<w.heap.size→(∀ k v,(E m)[k]?=some v→w.cell? ⟨g,k,none⟩=some v)→CfgOk w (·<w.heap.size) x c→StOk w (·<w.heap.size) y s→Calls Tryz.prog f #[.pointer (some ⟨g,0,none⟩),.agg (cfgC x c),.agg (stC y s),.int .i64 tick] w fun e w'=>e=.returned (.tuple #[.agg (entC (migE c s m tick).1).toArray,.int .i64 (migE c s m tick).2])∧Below w.heap.size w w'):CSound Tryz.prog f (ctEnt E):=⟨ent,fun {C ρ fr mem nx a w vs K} hc hs hv=>by
 obtain⟨i,t,m,N,x,c,M,y,s,tick,rfl,⟨hi,hk,h1,h2⟩,⟨hV,hI,hcap⟩,hK⟩:=hc
 obtain⟨g,hA,hb,-,-⟩:=hs.blk i _ (lk_app hi)
 have hcell:∀ k v,(E m)[k]?=some v→w.cell? ⟨g,k,none⟩=some v:=fun k v hv=>by
  have:=hb.cell' (i:=k) (v:=den1 ρ v) (by simp[hv])
  rwa[den1_plain (hEp m v (List.mem_of_getElem? hv))] at this
 have e:([ptr i,cfgV N x c,stV M y s,.int .i64 tick].map (den ρ)).toArray=#[.pointer (some ⟨g,0,none⟩),.agg (cfgC (cfgX ρ N x) c),.agg (stC (stX ρ M y) s),.int .i64 tick]:=by
  rw[List.map_cons,List.map_cons,List.map_cons,den_cfg,den_st]
  simp[den,den2,den1,dA_whole,dS_whole,hA]
 rw[e]
 refine (h g m (cfgX ρ N x) c (stX ρ M y) s tick w hV hI hcap hb.lt hcell (hs.cfg (x:=x) hk (fun b h _=>h)) (hs.stRow (y:=y) h1 h2)).mono ?_
 rintro e w' ⟨rfl,hb⟩
 refine⟨_,mem,nx,ρ,?_,hK,hs.later hb,?_,ExtS.refl _ _⟩
 ·exact congrArg Ending.returned (by simp[den,den2,den1,entC])
 ·intro u hu
  simp at hu
  rcases hu with rfl | rfl
  ·exact (pure_den (pure_ent _) _ _).2
  ·trivial⟩
theorem den_ent2 (ρ:Nat→Pl) (e:Ent) (p:Int):den ρ (.tuple #[entV' e,.int .i64 p])=.tuple #[.agg (entC e).toArray,.int .i64 p]:=by simp[den,den2,den1,entC]
set_option maxRecDepth 100000 in
theorem entPOk:CSound Tryz.prog 27 (ctEnt migC):=ent_sound migC_plain (by kernel_rfl) fun g m x c y s tick w hV hI hcap hg hm hc hs=>
 (mig_calls (fun _=>rfl) migC_plain epFok Tryz.func27 rfl (D:=epD) (codeF_ok _ (by kernel_rfl)) rfl g m x c y s tick w hg hm hc hs (entP_sx m (ck x) c (sk y) s tick hV hI)).mono fun e w' ⟨v,mem',nx',ρ',he,hR,hb⟩=>by
  subst he hR
  exact⟨congrArg Ending.returned (den_ent2 ρ' _ _),hb⟩
end Go.Proofs.YtchhdflealgkaaaGreat
