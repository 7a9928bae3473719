import Derived.Test.YtnnpgbleacapfaaGreatPc18
import Derived.Laws.OwnMore
namespace Go.Proofs.YtnnpgbleacapfaaGreat
open Go.RowKit
set_option linter.unusedSimpArgs false
set_option linter.unusedVariables false
/-! mill.Packed: its contract. -/
theorem pkFok:FTokI Tryz.prog pkF (inlOf pkD):=fti_cons (tapeNewMOk.i _) (fti_cons (mconfigOk.i _) (fti_cons (newROk.i _) (fti_cons (nextMOk.i _) (fti_cons (rangeMOk.i _) (fti_cons (moreMOk.i _) (fti_cons (inRegOk.i _) (fti_cons (inl_ok ttUok fti_nil mixed (by kernel_rfl) Tryz.func74 rfl (by kernel_rfl) (by decide)) (fti_cons (inl_ok ttUok (fti_cons (applyROk.i _) fti_nil) mixed (by kernel_rfl) Tryz.func71 rfl (by kernel_rfl) (by decide)) fti_nil))))))))
theorem packed_calls (A:Option Addr) (cap:Nat) (zs:List Int) (w:World) (hz:zs.length≤400) (hr:Rd w (·<w.heap.size) A (flat intC zs)) :
  Calls Tryz.prog 44 #[.slice A zs.length cap] w fun e w'=>∃ x c A2 m2 c2 y s,e=.returned (.tuple #[.agg (cfgC x c),.slice A2 m2 c2,.agg (stC y s)])∧(CfgV c∧RInv c s∧s.count≤150)∧CfgOk w' (fun b=>w.heap.size≤b∧b<w'.heap.size) x c∧StOk w' (fun b=>w.heap.size≤b∧b<w'.heap.size) y s∧Below w.heap.size w w':=by
 let ρ:Nat→Pl:=fun _=>⟨A,1,zs.length,false⟩
 have hm:MemAt { w0:=w,bor:=[],n0:=1,ρ0:=ρ,nt:=Tryz.f44.ntmps } ρ [(0,intRow zs)] 1 w:=MemAt.rows trivial ⟨⟨Nat.zero_lt_one,rfl,row_of_rd (enc:=intC) (sz:=1) (fun _=>rfl) (by omega) intC_plain 0 rfl hr (fun b hb=>hb)⟩,trivial⟩
 have:=calls_sxI ttUok pkFok mixed Tryz.func44 rfl (D:=pkD) (by kernel_rfl) (vs:=[slc 0 zs.length cap]) rfl ⟨rfl,rfl⟩ rfl hm (fun v hv=>by
  simp only[List.mem_cons,List.not_mem_nil,or_false] at hv
  subst hv
  exact⟨Nat.zero_lt_one,rfl⟩) (packed_sx cap zs hz)
 have e0:([slc 0 zs.length cap].map (den ρ)).toArray=#[.slice A zs.length cap]:=by simp[den,den2,den1,dA_whole,ρ]
 rw[e0] at this
 refine this.mono ?_
 rintro e w' ⟨v,mem',nx',ρ',rfl,⟨N,x,c,o,M,y,s,hV,hR,⟨rfl,ho⟩,⟨n1,n2,n3,n4,n5,n6⟩,m1,m2⟩,-,hm'⟩
 have hb:Below w.heap.size w w':=⟨hm'.rest.os,hm'.rest.tape,hm'.rest.output,hm'.rest.size,fun b hlt=>hm'.rest.block b hlt (by simp)⟩
 have e1:den ρ' (.tuple #[cfgV N x c,o,stV M y s])=.tuple #[den ρ' (cfgV N x c),den2 ρ' o,den ρ' (stV M y s)]:=by simp[den]
 have e2:∃ A2 m2 c2,den2 ρ' o=.slice A2 m2 c2:=by
  rcases ho with rfl | ⟨r,m,cp,rfl⟩
  ·exact⟨none,0,0,rfl⟩
  ·exact⟨(ρ' r).A,m,cp,by simp[den2,den1,dA_whole]⟩
 obtain⟨A2,k2,c2,e2⟩:=e2
 rw[e1,e2,den_cfg,den_st]
 exact⟨_,c,A2,k2,c2,_,s,rfl,⟨hV,hR⟩,⟨hm'.newRd (enc:=intC) (sz:=1) (fun _=>rfl) (by omega) n1,hm'.newRd (enc:=pairC) (sz:=2) (fun _=>rfl) (by omega) n2,hm'.newRd (enc:=tenC) (sz:=7) (fun _=>rfl) (by omega) n3,hm'.newRd (enc:=pairC) (sz:=2) (fun _=>rfl) (by omega) n4,hm'.newRd (enc:=intC) (sz:=1) (fun _=>rfl) (by omega) n5,hm'.newRd (enc:=intC) (sz:=1) (fun _=>rfl) (by omega) n6⟩,⟨hm'.newRd (enc:=tsC) (sz:=12) (fun _=>rfl) (by omega) m1,hm'.newRd (enc:=csC) (sz:=4) (fun _=>rfl) (by omega) m2⟩,hb⟩
section
variable {C:Ctx} {ρ:Nat→Pl} {fr:AF} {mem:AM} {nx:Nat} {a:Act} {w w':World}
def woPl (ρ:Nat→Pl) (nx:Nat) (x:CfgA) (c:Cfg) (y:StA) (s:St) (A:Option Addr):Nat→Pl:=setPl (setPl (setPl (cfgPl ρ nx x c) (nx+6) ⟨y.ac,4,s.cells.length,false⟩) (nx+7) ⟨y.at_,12,s.tenants.length,false⟩) (nx+8) ⟨A,1,0,false⟩
abbrev woC (nx:Nat):CN:=⟨nx+5,nx+4,nx+3,nx+2,nx+1,nx,500000⟩
abbrev woS (nx:Nat):SN:=⟨nx+7,nx+6,500000⟩
theorem Sat.addWorld (h0:Sat C ρ fr mem nx a w) (hb:Below w.heap.size w w') {x:CfgA} {c:Cfg} (hc:CfgOk w' (fun b=>w.heap.size≤b∧b<w'.heap.size) x c) {y:StA} {s:St} (hs:StOk w' (fun b=>w.heap.size≤b∧b<w'.heap.size) y s) (A:Option Addr) :
  Sat C (woPl ρ nx x c y s A) fr ((nx+8,rowOfL 500000 1 intC 0 ([]:List Int))::(stM (woS nx) s++(cfgM (woC nx) c++mem))) (nx+9) a w'∧(den (woPl ρ nx x c y s A) (cfgV (woC nx) ⟨x.cz,x.cc,x.ct,x.cv,x.cr,x.co⟩ c)=.agg (cfgC x c)∧den (woPl ρ nx x c y s A) (stV (woS nx) ⟨y.ct,y.cc⟩ s)=.agg (stC y s))∧(okV (woPl ρ nx x c y s A) (nx+9) (cfgV (woC nx) ⟨x.cz,x.cc,x.ct,x.cv,x.cr,x.co⟩ c)∧okV (woPl ρ nx x c y s A) (nx+9) (stV (woS nx) ⟨y.ct,y.cc⟩ s))∧woPl ρ nx x c y s A (nx+8)=⟨A,1,0,false⟩∧ExtS ρ nx (woPl ρ nx x c y s A) (nx+9):=by
 obtain⟨h1,f1⟩:=(h0.later hb).addList h0.frB h0.rest.size (enc:=intC) (sz:=1) (fun _=>rfl) (by omega) intC_plain 0 (t:=500000) rfl hc.observers
 obtain⟨h2,f2⟩:=h1.addList f1 h0.rest.size (enc:=intC) (sz:=1) (fun _=>rfl) (by omega) intC_plain 0 (t:=500000) rfl hc.replicas
 obtain⟨h3,f3⟩:=h2.addList f2 h0.rest.size (enc:=pairC) (sz:=2) (fun _=>rfl) (by omega) pairC_plain (0,0) (t:=500000) rfl hc.versions
 obtain⟨h4,f4⟩:=h3.addList f3 h0.rest.size (enc:=tenC) (sz:=7) (fun _=>rfl) (by omega) tenC_plain default (t:=500000) rfl hc.tenants
 obtain⟨h5,f5⟩:=h4.addList f4 h0.rest.size (enc:=pairC) (sz:=2) (fun _=>rfl) (by omega) pairC_plain (0,0) (t:=500000) rfl hc.cells
 obtain⟨h6,f6⟩:=h5.addList f5 h0.rest.size (enc:=intC) (sz:=1) (fun _=>rfl) (by omega) intC_plain 0 (t:=500000) rfl hc.zones
 obtain⟨h7,f7⟩:=h6.addList f6 h0.rest.size (enc:=csC) (sz:=4) (fun _=>rfl) (by omega) csC_plain default (t:=500000) rfl hs.cells
 obtain⟨h8,f8⟩:=h7.addList f7 h0.rest.size (enc:=tsC) (sz:=12) (fun _=>rfl) (by omega) tsC_plain default (t:=500000) rfl hs.tenants
 obtain⟨h9,-⟩:=h8.addList (A:=A) (l:=([]:List Int)) f8 h0.rest.size (enc:=intC) (sz:=1) (fun _=>rfl) (by omega) intC_plain 0 (t:=500000) rfl (fun q=>absurd rfl q)
 have q0:woPl ρ nx x c y s A nx=⟨x.ao,1,c.observers.length,false⟩:=by simp[woPl,cfgPl,setPl]
 have q1:woPl ρ nx x c y s A (nx+1)=⟨x.ar,1,c.replicas.length,false⟩:=by simp[woPl,cfgPl,setPl]
 have q2:woPl ρ nx x c y s A (nx+2)=⟨x.av,2,c.versions.length,false⟩:=by simp[woPl,cfgPl,setPl]
 have q3:woPl ρ nx x c y s A (nx+3)=⟨x.at_,7,c.tenants.length,false⟩:=by simp[woPl,cfgPl,setPl]
 have q4:woPl ρ nx x c y s A (nx+4)=⟨x.ac,2,c.cells.length,false⟩:=by simp[woPl,cfgPl,setPl]
 have q5:woPl ρ nx x c y s A (nx+5)=⟨x.az,1,c.zones.length,false⟩:=by simp[woPl,cfgPl,setPl]
 have q6:woPl ρ nx x c y s A (nx+6)=⟨y.ac,4,s.cells.length,false⟩:=by simp[woPl,setPl]
 have q7:woPl ρ nx x c y s A (nx+7)=⟨y.at_,12,s.tenants.length,false⟩:=by simp[woPl,setPl]
 have q8:woPl ρ nx x c y s A (nx+8)=⟨A,1,0,false⟩:=by simp[woPl,setPl]
 refine⟨h9,⟨?_,?_⟩,⟨?_,?_⟩,q8,fun i hi=>?_,by omega⟩
 ·rw[den_cfg]
  congr 2
  simp[cfgX,q0,q1,q2,q3,q4,q5]
 ·rw[den_st]
  congr 2
  simp[stX,q6,q7]
 ·intro u hu
  simp at hu
  rcases hu with rfl | rfl | rfl | rfl | rfl | rfl | rfl | rfl | rfl | rfl<;>first | trivial | exact⟨show nx+5<nx+9 by omega,by rw[q5]⟩ | exact⟨show nx+4<nx+9 by omega,by rw[q4]⟩ | exact⟨show nx+3<nx+9 by omega,by rw[q3]⟩ | exact⟨show nx+2<nx+9 by omega,by rw[q2]⟩ | exact⟨show nx+1<nx+9 by omega,by rw[q1]⟩ | exact⟨show nx<nx+9 by omega,by rw[q0]⟩
 ·intro u hu
  simp at hu
  rcases hu with rfl | rfl | rfl | rfl | rfl | rfl | rfl | rfl<;>first | trivial | exact⟨show nx+7<nx+9 by omega,by rw[q7]⟩ | exact⟨show nx+6<nx+9 by omega,by rw[q6]⟩
 ·unfold woPl cfgPl
  rw[setPl_lt _ _ (by omega),setPl_lt _ _ (by omega),setPl_lt _ _ (by omega),setPl_lt _ _ (by omega),setPl_lt _ _ (by omega),setPl_lt _ _ (by omega),setPl_lt _ _ (by omega),setPl_lt _ _ (by omega),setPl_lt _ _ hi]
end
def ctPacked:CT:=fun vs mem nx K=>∃ r cap zs,vs=[slc r (zs:List Int).length cap]∧HasRow mem r 1 intC 0 zs∧zs.length≤400∧∀ x c y s m cp,CfgV c→RInv c s→s.count≤150→K (.tuple #[cfgV (woC nx) x c,slc (nx+8) m cp,stV (woS nx) y s]) ((nx+8,rowOfL 500000 1 intC 0 ([]:List Int))::(stM (woS nx) s++(cfgM (woC nx) c++mem))) (nx+9)
theorem packedOk:CSound Tryz.prog 44 ctPacked:=⟨by kernel_rfl,fun {C ρ fr mem nx a w vs K} hc hs hv=>by
 obtain⟨r,cap,zs,rfl,hr,hz,hK⟩:=hc
 have e:([slc r zs.length cap].map (den ρ)).toArray=#[.slice (ρ r).A zs.length cap]:=by simp[den,den2,den1,dA_whole]
 rw[e]
 refine (packed_calls (ρ r).A cap zs w hz (hs.hasRd (enc:=intC) (sz:=1) (fun _=>rfl) (by omega) hr)).mono ?_
 rintro e w' ⟨x,c,A2,m2,c2,y,s,rfl,⟨hV,hR,hct⟩,hc,hst,hb⟩
 obtain⟨q1,⟨d1,d2⟩,⟨o1,o2⟩,q8,q4⟩:=hs.addWorld hb hc hst A2
 refine⟨.tuple #[cfgV (woC nx) ⟨x.cz,x.cc,x.ct,x.cv,x.cr,x.co⟩ c,slc (nx+8) m2 c2,stV (woS nx) ⟨y.ct,y.cc⟩ s],_,_,woPl ρ nx x c y s A2,?_,hK _ c ⟨y.ct,y.cc⟩ s m2 c2 hV hR hct,q1,?_,q4⟩
 ·have e1:∀ v u z:Value,den (woPl ρ nx x c y s A2) (.tuple #[v,u,z])=.tuple #[den2 (woPl ρ nx x c y s A2) v,den2 (woPl ρ nx x c y s A2) u,den2 (woPl ρ nx x c y s A2) z]:=fun v u z=>by simp[den]
  rw[e1]
  have e2:den2 (woPl ρ nx x c y s A2) (slc (nx+8) m2 c2)=.slice A2 m2 c2:=by simp[den2,den1,dA_whole,q8]
  rw[e2]
  have d1':den2 (woPl ρ nx x c y s A2) (cfgV (woC nx) ⟨x.cz,x.cc,x.ct,x.cv,x.cr,x.co⟩ c)=.agg (cfgC x c):=d1
  have d2':den2 (woPl ρ nx x c y s A2) (stV (woS nx) ⟨y.ct,y.cc⟩ s)=.agg (stC y s):=d2
  rw[d1',d2']
 ·intro u hu
  simp at hu
  rcases hu with rfl | rfl | rfl
  ·exact o1
  ·exact⟨show nx+8<nx+9 by omega,by rw[q8]⟩
  ·exact o2⟩
def ggrF:FT:=[(55,ctNext),(56,ctRange),(57,ctYes)]
theorem ggrFok:FTok Tryz.prog ggrF:=ft_cons nextOk (ft_cons rangeOk (ft_cons yesOk ft_nil))
def gcutQ:DQ:={ k:=15,L:=[1,9,10,11,13,14],sl:=[0,5,6,7,8,9] }
def ggrD:List (Nat×DQ):=[
 (14,{ k:=5,L:=[12],pre:=[(0,false),(1,false),(2,false),(3,true),(4,false)] }),
 (15,{ k:=7,L:=[12,10],pre:=[(0,false),(1,false),(2,false),(3,false),(4,false),(5,true),(6,false)] }),
 (18,{ k:=10,g:=some (.fix 0 (.fix 3 (.fix 5 (.three
  1 (.fix 2 (.two 4 (.fix 8 (.act 6 (.fix 7 (.act 9 .fin)))) 6 (.act 4 (.fix 7 (.fix 8 (.act 9 .fin))))))
  4 (.two 1 (.fix 2 (.fix 8 (.act 6 (.fix 7 (.act 9 .fin))))) 6 (.fix 7 (.act 1 (.fix 2 (.fix 8 (.act 9 .fin))))))
  6 (.two 1 (.fix 2 (.act 4 (.fix 7 (.fix 8 (.act 9 .fin))))) 4 (.fix 7 (.act 1 (.fix 2 (.fix 8 (.act 9 .fin))))))))))}),
 (1000007,gcutQ),(1000010,gcutQ),(1000012,gcutQ),(1000015,gcutQ),(1000019,gcutQ),(1000020,gcutQ)]
set_option maxRecDepth 100000 in
set_option maxHeartbeats 4000000 in
theorem grant_sx (cap:Nat) (zs:List Int) (k:Int) (x:CfgK) (c:Cfg) (y:StK) (s:St) (e:Ent) (hz:zs.length≤400) (hk:0≤k∧k≤990000) (hV:CfgV c) (hI:StInv c s) (ht:0≤e.tenant∧e.tenant<s.tenants.length) (hp:(tsAt s e.tenant).placed=true) :
  sx tt ggrF ggrD (bodyOf Tryz.f138) (argF 0 (ptr 0::cfgV CN0 x c::stV SN0 y s::[entV' e])) ((0,tapeB 1 zs.length cap k)::(1,intRow zs)::(cfgM CN0 c++stM SN0 s)) 10
   (endx tt Tryz.f138.results.toList fun v mem' _=>∃ k',EntR k v k'∧pureV v∧lk mem' 0=some (tapeB 1 zs.length cap k')):=by
 have hnc:=hV.nc
 have hlc:=hI.lc
 have hls:=hV.lease
 have hti:=hI.ten _ (tsAt_mem ht.1 ht.2).2
 have h1:=hti.placed hp
 have h2:=hti.home
 have h3:=hti.standby
 have h4:=hti.target
 unfold tsAt at h1 h2 h3 h4
 rw[← hlc] at h2 h3 h4
 replace h2:=h2.2
 replace h3:=h3.2
 replace h4:=h4.2
 clear hti hp hI hV
 obtain⟨kind,tick,tenant,cell,other,epoch,since,till,n⟩:=e
 dsimp only[entV'] at *
 refine⟨⟨Nat.le_refl _,by omega,by omega⟩,?_⟩
 refine⟨Ent×Int,fun _=>[],fun y=>match y with | (⟨a1,a2,a3,a4,a5,a6,a7,a8,a9⟩,kk)=>[(0,tapeB 1 zs.length cap kk),(12,.box 39 [.int .i64 a1,.int .i64 a2,.int .i64 a3,.int .i64 a4,.int .i64 a5,.int .i64 a6,.int .i64 a7,.int .i64 a8,.int .i64 a9])],fun y=>(k≤y.2∧y.2≤k+2)∧0≤y.1.cell∧y.1.cell<s.cells.length,?_,?_⟩
 ·refine⟨fun htg=>?_,fun _=>?_⟩
  ·simp only[decide_eq_true_eq,ge_iff_le] at htg
   refine⟨0,1,cap,zs,_,_,rfl,⟨rfl,rfl⟩,⟨hz,by omega,by omega⟩,⟨_,rfl,by omega,by omega⟩,?_⟩
   rintro _ k1 ⟨b1,rfl,hk1⟩
   refine⟨fun _=>?_,fun _=>?_⟩
   ·(refine⟨(⟨_,_,_,_,_,_,_,_,_⟩,_),?_,⟨rfl,rfl,rfl,rfl,rfl,rfl,trivial⟩,⟨rfl,rfl,rfl,rfl,rfl,rfl,rfl,rfl,trivial⟩⟩;dsimp only;(refine⟨⟨by omega,by omega⟩,?_,?_⟩<;>first | assumption | omega))
   ·refine⟨fun hs=>?_,fun _=>?_⟩
    ·simp only[decide_eq_true_eq,ge_iff_le] at hs
     refine⟨0,1,cap,zs,_,_,rfl,⟨rfl,rfl⟩,⟨hz,by omega,by omega⟩,⟨_,rfl,by omega,by omega⟩,?_⟩
     rintro _ k2 ⟨b2,rfl,hk2⟩
     refine⟨fun _=>?_,fun _=>?_⟩
     ·refine⟨fun _=>?_,fun h=>nomatch h⟩
      (refine⟨(⟨_,_,_,_,_,_,_,_,_⟩,_),?_,⟨rfl,rfl,rfl,rfl,rfl,rfl,trivial⟩,⟨rfl,rfl,rfl,rfl,rfl,rfl,rfl,rfl,trivial⟩⟩;dsimp only;(refine⟨⟨by omega,by omega⟩,?_,?_⟩<;>first | assumption | omega))
     ·refine⟨fun _=>?_,fun _=>?_⟩
      ·(refine⟨(⟨_,_,_,_,_,_,_,_,_⟩,_),?_,⟨rfl,rfl,rfl,rfl,rfl,rfl,trivial⟩,⟨rfl,rfl,rfl,rfl,rfl,rfl,rfl,rfl,trivial⟩⟩;dsimp only;(refine⟨⟨by omega,by omega⟩,?_,?_⟩<;>first | assumption | omega))
      ·(refine⟨(⟨_,_,_,_,_,_,_,_,_⟩,_),?_,⟨rfl,rfl,rfl,rfl,rfl,rfl,trivial⟩,⟨rfl,rfl,rfl,rfl,rfl,rfl,rfl,rfl,trivial⟩⟩;dsimp only;(refine⟨⟨by omega,by omega⟩,?_,?_⟩<;>first | assumption | omega))
    ·refine⟨(fun h=>nomatch h),fun _=>?_⟩
     (refine⟨(⟨_,_,_,_,_,_,_,_,_⟩,_),?_,⟨rfl,rfl,rfl,rfl,rfl,rfl,trivial⟩,⟨rfl,rfl,rfl,rfl,rfl,rfl,rfl,rfl,trivial⟩⟩;dsimp only;(refine⟨⟨by omega,by omega⟩,?_,?_⟩<;>first | assumption | omega))
  ·refine⟨(fun h=>nomatch h),fun _=>?_⟩
   refine⟨fun hs=>?_,fun _=>?_⟩
   ·simp only[decide_eq_true_eq,ge_iff_le] at hs
    refine⟨0,1,cap,zs,_,_,rfl,⟨rfl,rfl⟩,⟨hz,by omega,by omega⟩,⟨_,rfl,by omega,by omega⟩,?_⟩
    rintro _ k2 ⟨b2,rfl,hk2⟩
    refine⟨fun _=>?_,fun _=>?_⟩
    ·refine⟨fun _=>?_,fun h=>nomatch h⟩
     (refine⟨(⟨_,_,_,_,_,_,_,_,_⟩,_),?_,⟨rfl,rfl,rfl,rfl,rfl,rfl,trivial⟩,⟨rfl,rfl,rfl,rfl,rfl,rfl,rfl,rfl,trivial⟩⟩;dsimp only;(refine⟨⟨by omega,by omega⟩,?_,?_⟩<;>first | assumption | omega))
    ·refine⟨fun _=>?_,fun _=>?_⟩
     ·(refine⟨(⟨_,_,_,_,_,_,_,_,_⟩,_),?_,⟨rfl,rfl,rfl,rfl,rfl,rfl,trivial⟩,⟨rfl,rfl,rfl,rfl,rfl,rfl,rfl,rfl,trivial⟩⟩;dsimp only;(refine⟨⟨by omega,by omega⟩,?_,?_⟩<;>first | assumption | omega))
     ·(refine⟨(⟨_,_,_,_,_,_,_,_,_⟩,_),?_,⟨rfl,rfl,rfl,rfl,rfl,rfl,trivial⟩,⟨rfl,rfl,rfl,rfl,rfl,rfl,rfl,rfl,trivial⟩⟩;dsimp only;(refine⟨⟨by omega,by omega⟩,?_,?_⟩<;>first | assumption | omega))
   ·refine⟨(fun h=>nomatch h),fun _=>?_⟩
    (refine⟨(⟨_,_,_,_,_,_,_,_,_⟩,_),?_,⟨rfl,rfl,rfl,rfl,rfl,rfl,trivial⟩,⟨rfl,rfl,rfl,rfl,rfl,rfl,rfl,rfl,trivial⟩⟩;dsimp only;(refine⟨⟨by omega,by omega⟩,?_,?_⟩<;>first | assumption | omega))
 ·rintro⟨⟨ekind,etick,etenant,ecell,eother,eepoch,esince,etill,en⟩,kk⟩ ⟨hkk,hcell⟩
  refine⟨⟨by decide,rfl,rfl⟩,?_⟩
  simp only at hkk hcell
  refine⟨Ent×Int,fun _=>[],fun y=>match y with | (⟨a1,a2,a3,a4,a5,a6,a7,a8,a9⟩,kk)=>[(0,tapeB 1 zs.length cap kk),(12,.box 39 [.int .i64 a1,.int .i64 a2,.int .i64 a3,.int .i64 a4,.int .i64 a5,.int .i64 a6,.int .i64 a7,.int .i64 a8,.int .i64 a9])],fun y=>(k≤y.2∧y.2≤k+3)∧0≤y.1.cell∧y.1.cell<s.cells.length,?_,?_⟩
  ·refine⟨fun _=>?_,fun _=>?_⟩
   ·refine⟨fun _=>?_,fun h=>nomatch h⟩
    refine⟨fun _=>?_,fun h=>nomatch h⟩
    (refine⟨(⟨_,_,_,_,_,_,_,_,_⟩,_),?_,⟨rfl,rfl,rfl,rfl,rfl,rfl,trivial⟩,⟨rfl,rfl,rfl,rfl,rfl,rfl,rfl,rfl,trivial⟩⟩;dsimp only;(refine⟨⟨by omega,by omega⟩,?_,?_⟩<;>first | assumption | omega))
   ·refine⟨fun _=>?_,fun _=>?_⟩
    ·refine⟨fun _=>?_,fun h=>nomatch h⟩
     (refine⟨(⟨_,_,_,_,_,_,_,_,_⟩,_),?_,⟨rfl,rfl,rfl,rfl,rfl,rfl,trivial⟩,⟨rfl,rfl,rfl,rfl,rfl,rfl,rfl,rfl,trivial⟩⟩;dsimp only;(refine⟨⟨by omega,by omega⟩,?_,?_⟩<;>first | assumption | omega))
    ·refine⟨0,1,cap,zs,_,_,rfl,⟨rfl,rfl⟩,⟨hz,by omega,by omega⟩,⟨_,rfl,by omega,by omega⟩,?_⟩
     rintro _ k3 ⟨b3,rfl,hk3⟩
     refine⟨fun _=>?_,fun _=>?_⟩
     ·(refine⟨(⟨_,_,_,_,_,_,_,_,_⟩,_),?_,⟨rfl,rfl,rfl,rfl,rfl,rfl,trivial⟩,⟨rfl,rfl,rfl,rfl,rfl,rfl,rfl,rfl,trivial⟩⟩;dsimp only;(refine⟨⟨by omega,by omega⟩,?_,?_⟩<;>first | assumption | omega))
     ·(refine⟨(⟨_,_,_,_,_,_,_,_,_⟩,_),?_,⟨rfl,rfl,rfl,rfl,rfl,rfl,trivial⟩,⟨rfl,rfl,rfl,rfl,rfl,rfl,rfl,rfl,trivial⟩⟩;dsimp only;(refine⟨⟨by omega,by omega⟩,?_,?_⟩<;>first | assumption | omega))
  ·rintro⟨⟨ekind,etick,etenant,ecell,eother,eepoch,esince,etill,en⟩,kk⟩ ⟨hkk,hcell⟩
   refine⟨⟨by decide,rfl,rfl⟩,?_⟩
   simp only at hkk hcell
   refine⟨Ent×Int,fun _=>[],fun y=>match y with | (⟨a1,a2,a3,a4,a5,a6,a7,a8,a9⟩,kk)=>[(0,tapeB 1 zs.length cap kk),(12,.box 39 [.int .i64 a1,.int .i64 a2,.int .i64 a3,.int .i64 a4,.int .i64 a5,.int .i64 a6,.int .i64 a7,.int .i64 a8,.int .i64 a9])],fun y=>(k≤y.2∧y.2≤k+4)∧0≤y.1.cell∧y.1.cell<s.cells.length,?_,?_⟩
   ·refine⟨fun _=>?_,fun _=>?_⟩
    ·refine⟨0,1,cap,zs,_,_,rfl,⟨rfl,rfl⟩,⟨hz,by omega,by omega⟩,⟨_,rfl,by omega,by omega⟩,?_⟩
     rintro _ k3 ⟨_,r3,hnn,rfl,⟨hr3,hk3⟩⟩
     cases hnn
     refine⟨fun _=>?_,fun _=>?_⟩
     ·(refine⟨(⟨_,_,_,_,_,_,_,_,_⟩,_),?_,⟨rfl,rfl,rfl,rfl,rfl,rfl,trivial⟩,⟨rfl,rfl,rfl,rfl,rfl,rfl,rfl,rfl,trivial⟩⟩;dsimp only;(refine⟨⟨by omega,by omega⟩,?_,?_⟩<;>first | assumption | omega))
     ·(refine⟨(⟨_,_,_,_,_,_,_,_,_⟩,_),?_,⟨rfl,rfl,rfl,rfl,rfl,rfl,trivial⟩,⟨rfl,rfl,rfl,rfl,rfl,rfl,rfl,rfl,trivial⟩⟩;dsimp only;(refine⟨⟨by omega,by omega⟩,?_,?_⟩<;>first | assumption | omega))
    ·refine⟨(fun h=>nomatch h),fun _=>?_⟩
     (refine⟨(⟨_,_,_,_,_,_,_,_,_⟩,_),?_,⟨rfl,rfl,rfl,rfl,rfl,rfl,trivial⟩,⟨rfl,rfl,rfl,rfl,rfl,rfl,rfl,rfl,trivial⟩⟩;dsimp only;(refine⟨⟨by omega,by omega⟩,?_,?_⟩<;>first | assumption | omega))
   ·rintro⟨⟨ekind,etick,etenant,ecell,eother,eepoch,esince,etill,en⟩,kk⟩ ⟨hkk,hcell⟩
    refine⟨⟨by decide,rfl,rfl⟩,?_⟩
    simp only at hkk hcell
    refine⟨Ent×Int,fun _=>[],fun y=>match y with | (⟨a1,a2,a3,a4,a5,a6,a7,a8,a9⟩,kk)=>[(0,tapeB 1 zs.length cap kk),(12,.box 39 [.int .i64 a1,.int .i64 a2,.int .i64 a3,.int .i64 a4,.int .i64 a5,.int .i64 a6,.int .i64 a7,.int .i64 a8,.int .i64 a9])],fun y=>(k≤y.2∧y.2≤k+6)∧0≤y.1.cell∧y.1.cell<s.cells.length,?_,?_⟩
    ·refine⟨0,1,cap,zs,_,_,rfl,⟨rfl,rfl⟩,⟨hz,by omega,by omega⟩,⟨_,rfl,by omega,by omega⟩,?_⟩
     rintro _ k3 ⟨b3,rfl,hk3⟩
     refine⟨fun _=>?_,fun _=>?_⟩
     ·refine⟨0,1,cap,zs,_,_,rfl,⟨rfl,rfl⟩,⟨hz,by omega,by omega⟩,⟨_,rfl,by omega,by omega⟩,?_⟩
      rintro _ k4 ⟨_,r4,hnn,rfl,⟨hr4,hk4⟩⟩
      cases hnn
      refine⟨⟨rfl,trivial⟩,?_⟩
      (refine⟨(⟨_,_,_,_,_,_,_,_,_⟩,_),?_,⟨rfl,rfl,rfl,rfl,rfl,rfl,trivial⟩,⟨rfl,rfl,rfl,rfl,rfl,rfl,rfl,rfl,trivial⟩⟩;dsimp only;(refine⟨⟨by omega,by omega⟩,?_,?_⟩<;>first | assumption | omega))
     ·(refine⟨(⟨_,_,_,_,_,_,_,_,_⟩,_),?_,⟨rfl,rfl,rfl,rfl,rfl,rfl,trivial⟩,⟨rfl,rfl,rfl,rfl,rfl,rfl,rfl,rfl,trivial⟩⟩;dsimp only;(refine⟨⟨by omega,by omega⟩,?_,?_⟩<;>first | assumption | omega))
    ·rintro⟨⟨ekind,etick,etenant,ecell,eother,eepoch,esince,etill,en⟩,kk⟩ ⟨hkk,hcell⟩
     refine⟨⟨by decide,rfl,rfl⟩,?_⟩
     simp only at hkk hcell
     refine⟨0,1,cap,zs,_,_,rfl,⟨rfl,rfl⟩,⟨hz,by omega,by omega⟩,⟨_,_,rfl,by omega,by omega,by omega⟩,?_⟩
     rintro _ k3 ⟨_,_,r3,hnn,rfl,hr3,hk3⟩
     cases hnn
     refine⟨⟨rfl,rfl,trivial⟩,?_⟩
     refine⟨⟨Nat.le_refl _,by omega,by omega⟩,?_⟩
     refine⟨Ent×Int,fun _=>[],fun y=>match y with | (⟨a1,a2,a3,a4,a5,a6,a7,a8,a9⟩,kk)=>[(0,tapeB 1 zs.length cap kk),(12,.box 39 [.int .i64 a1,.int .i64 a2,.int .i64 a3,.int .i64 a4,.int .i64 a5,.int .i64 a6,.int .i64 a7,.int .i64 a8,.int .i64 a9])],fun y=>(k≤y.2∧y.2≤k+9)∧0≤y.1.cell∧y.1.cell<s.cells.length,?_,?_⟩
     ·refine⟨0,1,cap,zs,_,_,rfl,⟨rfl,rfl⟩,⟨hz,by omega,by omega⟩,⟨_,rfl,by omega,by omega⟩,?_⟩
      rintro _ k5 ⟨b5,rfl,hk5⟩
      refine⟨fun _=>?_,fun _=>?_⟩
      ·refine⟨Ent×Int,fun _=>[],fun y=>match y with | (⟨a1,a2,a3,a4,a5,a6,a7,a8,a9⟩,kk)=>[(0,tapeB 1 zs.length cap kk),(12,.box 39 [.int .i64 a1,.int .i64 a2,.int .i64 a3,.int .i64 a4,.int .i64 a5,.int .i64 a6,.int .i64 a7,.int .i64 a8,.int .i64 a9])],fun y=>(k≤y.2∧y.2≤k+9)∧0≤y.1.cell∧y.1.cell<s.cells.length,?_,?_⟩
       ·refine⟨?_,?_,?_⟩
        ·refine⟨trivial,?_⟩
         refine⟨?_,?_⟩
         ·refine⟨trivial,?_⟩
          refine⟨0,1,cap,zs,_,_,rfl,⟨rfl,rfl⟩,⟨hz,by omega,by omega⟩,⟨_,rfl,by omega,by omega⟩,?_⟩
          rintro _ k4 ⟨_,r4,hnn,rfl,⟨hr4,hk4⟩⟩
          cases hnn
          refine⟨trivial,?_⟩
          refine⟨trivial,?_⟩
          (refine⟨(⟨_,_,_,_,_,_,_,_,_⟩,_),?_,⟨rfl,rfl,rfl,rfl,rfl,rfl,trivial⟩,⟨rfl,rfl,rfl,rfl,rfl,rfl,rfl,rfl,trivial⟩⟩;dsimp only;(refine⟨⟨by omega,by omega⟩,?_,?_⟩<;>first | assumption | omega))
         ·refine⟨0,1,cap,zs,_,_,rfl,⟨rfl,rfl⟩,⟨hz,by omega,by omega⟩,⟨_,rfl,by omega,by omega⟩,?_⟩
          rintro _ k4 ⟨_,r4,hnn,rfl,⟨hr4,hk4⟩⟩
          cases hnn
          refine⟨trivial,?_⟩
          refine⟨trivial,?_⟩
          refine⟨trivial,?_⟩
          (refine⟨(⟨_,_,_,_,_,_,_,_,_⟩,_),?_,⟨rfl,rfl,rfl,rfl,rfl,rfl,trivial⟩,⟨rfl,rfl,rfl,rfl,rfl,rfl,rfl,rfl,trivial⟩⟩;dsimp only;(refine⟨⟨by omega,by omega⟩,?_,?_⟩<;>first | assumption | omega))
        ·refine⟨trivial,?_⟩
         refine⟨?_,?_⟩
         ·refine⟨trivial,?_⟩
          refine⟨0,1,cap,zs,_,_,rfl,⟨rfl,rfl⟩,⟨hz,by omega,by omega⟩,⟨_,rfl,by omega,by omega⟩,?_⟩
          rintro _ k4 ⟨_,r4,hnn,rfl,⟨hr4,hk4⟩⟩
          cases hnn
          refine⟨trivial,?_⟩
          refine⟨trivial,?_⟩
          (refine⟨(⟨_,_,_,_,_,_,_,_,_⟩,_),?_,⟨rfl,rfl,rfl,rfl,rfl,rfl,trivial⟩,⟨rfl,rfl,rfl,rfl,rfl,rfl,rfl,rfl,trivial⟩⟩;dsimp only;(refine⟨⟨by omega,by omega⟩,?_,?_⟩<;>first | assumption | omega))
         ·refine⟨0,1,cap,zs,_,_,rfl,⟨rfl,rfl⟩,⟨hz,by omega,by omega⟩,⟨_,rfl,by omega,by omega⟩,?_⟩
          rintro _ k4 ⟨_,r4,hnn,rfl,⟨hr4,hk4⟩⟩
          cases hnn
          refine⟨trivial,?_⟩
          refine⟨trivial,?_⟩
          refine⟨trivial,?_⟩
          (refine⟨(⟨_,_,_,_,_,_,_,_,_⟩,_),?_,⟨rfl,rfl,rfl,rfl,rfl,rfl,trivial⟩,⟨rfl,rfl,rfl,rfl,rfl,rfl,rfl,rfl,trivial⟩⟩;dsimp only;(refine⟨⟨by omega,by omega⟩,?_,?_⟩<;>first | assumption | omega))
        ·refine⟨0,1,cap,zs,_,_,rfl,⟨rfl,rfl⟩,⟨hz,by omega,by omega⟩,⟨_,rfl,by omega,by omega⟩,?_⟩
         rintro _ k4 ⟨_,r4,hnn,rfl,⟨hr4,hk4⟩⟩
         cases hnn
         refine⟨trivial,?_⟩
         refine⟨?_,?_⟩
         ·refine⟨trivial,?_⟩
          refine⟨trivial,?_⟩
          refine⟨trivial,?_⟩
          (refine⟨(⟨_,_,_,_,_,_,_,_,_⟩,_),?_,⟨rfl,rfl,rfl,rfl,rfl,rfl,trivial⟩,⟨rfl,rfl,rfl,rfl,rfl,rfl,rfl,rfl,trivial⟩⟩;dsimp only;(refine⟨⟨by omega,by omega⟩,?_,?_⟩<;>first | assumption | omega))
         ·refine⟨trivial,?_⟩
          refine⟨trivial,?_⟩
          refine⟨trivial,?_⟩
          (refine⟨(⟨_,_,_,_,_,_,_,_,_⟩,_),?_,⟨rfl,rfl,rfl,rfl,rfl,rfl,trivial⟩,⟨rfl,rfl,rfl,rfl,rfl,rfl,rfl,rfl,trivial⟩⟩;dsimp only;(refine⟨⟨by omega,by omega⟩,?_,?_⟩<;>first | assumption | omega))
       ·rintro⟨⟨ekind,etick,etenant,ecell,eother,eepoch,esince,etill,en⟩,kk⟩ ⟨hkk,hcell⟩
        refine⟨⟨by decide,rfl,rfl⟩,?_⟩
        simp only at hkk hcell
        (refine⟨(⟨_,_,_,_,_,_,_,_,_⟩,_),?_,⟨rfl,rfl,rfl,rfl,rfl,rfl,trivial⟩,⟨rfl,rfl,rfl,rfl,rfl,rfl,rfl,rfl,trivial⟩⟩;dsimp only;(refine⟨⟨by omega,by omega⟩,?_,?_⟩<;>first | assumption | omega))
      ·(refine⟨(⟨_,_,_,_,_,_,_,_,_⟩,_),?_,⟨rfl,rfl,rfl,rfl,rfl,rfl,trivial⟩,⟨rfl,rfl,rfl,rfl,rfl,rfl,rfl,rfl,trivial⟩⟩;dsimp only;(refine⟨⟨by omega,by omega⟩,?_,?_⟩<;>first | assumption | omega))
     ·rintro⟨⟨ekind,etick,etenant,ecell,eother,eepoch,esince,etill,en⟩,kk⟩ ⟨hkk,hcell⟩
      refine⟨⟨by decide,rfl,rfl⟩,?_⟩
      simp only at hkk hcell
      exact⟨kk,⟨⟨⟨_,_,_,_,_,_,_,_,_⟩,rfl⟩,by omega,by omega⟩,pure_ent ⟨_,_,_,_,_,_,_,_,_⟩,rfl⟩
def preGrant (c:Cfg) (s:St) (args:List Value) (k:Int):Prop:=(CfgV c∧StInv c s)∧∃ e,args=[entV' e]∧(0≤e.tenant∧e.tenant<s.tenants.length)∧(tsAt s e.tenant).placed=true
def ctGrant:CT:=ctGen (fun _ _ _ _=>EntR) preGrant
theorem grantOk:CSound Tryz.prog 138 ctGrant:=genOk (by kernel_rfl) (by
  rintro c s args k ⟨-,e,rfl,-⟩ v hv
  simp at hv
  subst hv
  exact pure_ent e) (by
 rintro args g A cap zs k x c y s w hz hk0 hk1 ⟨⟨hV,hI⟩,e,rfl,h0,h1⟩ ht hc hs
 refine gen_calls ggrFok Tryz.func138 rfl (D:=ggrD) (by kernel_rfl) rfl (fun v hv=>by simp at hv;subst hv;exact pure_ent e) g A cap zs k x c y s w ht hc hs (R:=EntR k) ?_
 exact grant_sx cap zs k _ c _ s e hz ⟨hk0,by omega⟩ hV hI h0 h1)
theorem ints_new {C:Ctx} {ρ:Nat→Pl} {fr:AF} {mem:AM} {nx:Nat} {a:Act} {w w':World} (hs:Sat C ρ fr mem nx a w) {l:List Int} {A:Option Addr} {cp:Nat} (ho:w'.ownsRow w.heap.size 3 1 (.slice A l.length cp) l.length (flat intC l)) (hb:Below w.heap.size w w') :
  Sat C (setPl ρ nx ⟨A,1,l.length,false⟩) fr ((nx,intRow l)::mem) (nx+1) a w'∧den (setPl ρ nx ⟨A,1,l.length,false⟩) (slc nx l.length cp)=.slice A l.length cp∧okV (setPl ρ nx ⟨A,1,l.length,false⟩) (nx+1) (slc nx l.length cp):=by
 have hrd:=Rd.of_own ho
 refine⟨hs.add hb (row_of_rd (enc:=intC) (sz:=1) (fun _=>rfl) (by omega) intC_plain 0 (setPl_same _ _ _) hrd (fun b hb=>hb.2)) ?_ rfl,by simp[den,den2,den1,dA_whole,setPl_same],⟨Nat.lt_succ_self nx,by rw[setPl_same]⟩⟩
 intro g hg
 cases A with
 | none=>simp at hg
 | some ad=>
  simp at hg
  subst hg
  exact (ho.lt _ rfl).1
def ctHomes:CT:=fun vs mem nx K=>∃ N x c t,vs=[cfgV N x c,.int .i64 t]∧keeps mem (cfgM N c)∧CfgV c∧∀ (l:List Int) cp,l.length≤16→K (slc nx l.length cp) ((nx,intRow l)::mem) (nx+1)
theorem homesOk:CSound Tryz.prog 136 ctHomes:=⟨by kernel_rfl,fun {C ρ fr mem nx a w vs K} hc hs hv=>by
 obtain⟨N,x,c,t,rfl,hk,hV,hK⟩:=hc
 rw[show [cfgV N x c,.int .i64 t].map (den ρ)=[.agg (cfgC (cfgX ρ N x) c),.int .i64 t] by rw[List.map_cons,den_cfg];rfl]
 refine (r5Homes_any (cfgX ρ N x) c t w hV (hs.cfg hk (fun b hb _=>hb))).mono ?_
 rintro e w' ⟨A,cp,rfl,ho,hb⟩
 obtain⟨h1,h2,h3⟩:=ints_new hs ho hb
 exact⟨_,_,_,_,by rw[h2],hK _ cp (Nat.le_trans (pickK_len _ _) hV.nc.2),h1,h3,ExtS.set _ _ _⟩⟩
def ctStandbys:CT:=fun vs mem nx K=>∃ N x c t h,vs=[cfgV N x c,.int .i64 t,.int .i64 h]∧keeps mem (cfgM N c)∧CfgV c∧∀ (l:List Int) cp,l.length≤16→K (slc nx l.length cp) ((nx,intRow l)::mem) (nx+1)
theorem standbysOk:CSound Tryz.prog 137 ctStandbys:=⟨by kernel_rfl,fun {C ρ fr mem nx a w vs K} hc hs hv=>by
 obtain⟨N,x,c,t,h,rfl,hk,hV,hK⟩:=hc
 rw[show [cfgV N x c,.int .i64 t,.int .i64 h].map (den ρ)=[.agg (cfgC (cfgX ρ N x) c),.int .i64 t,.int .i64 h] by rw[List.map_cons,den_cfg];rfl]
 refine (r5Standbys_any (cfgX ρ N x) c t h w hV (hs.cfg hk (fun b hb _=>hb))).mono ?_
 rintro e w' ⟨A,cp,rfl,ho,hb⟩
 obtain⟨h1,h2,h3⟩:=ints_new hs ho hb
 exact⟨_,_,_,_,by rw[h2],hK _ cp (Nat.le_trans (pickK_len _ _) hV.nc.2),h1,h3,ExtS.set _ _ _⟩⟩
/-! pick -/
theorem pick_sx (cap cp:Nat) (zs l:List Int) (k:Int) (hz:zs.length≤400) (hk:0≤k∧k≤990000) (hl:l.length≤16) :
  sx tt tpF [] (bodyOf Tryz.f135) (argF 0 [ptr 0,slc 2 l.length cp]) [(0,tapeB 1 zs.length cap k),(1,intRow zs),(2,intRow l)] 3
   (endx tt Tryz.f135.results.toList fun v mem' _=>∃ k',(∃ r,v=.int .i64 r∧k≤k'∧k'≤k+1)∧lk mem' 0=some (tapeB 1 zs.length cap k')):=by
 refine⟨fun _=>?_,fun h0=>?_⟩
 ·exact⟨k,⟨_,rfl,by omega,by omega⟩,rfl⟩
 ·have hpos:(l.length:Int)≠0:=by simpa using h0
  refine⟨0,1,cap,zs,_,_,rfl,⟨rfl,rfl⟩,⟨hz,by omega,by omega⟩,⟨_,rfl,by omega,by omega⟩,?_⟩
  rintro _ k1 ⟨_,r1,hnn,rfl,⟨hr1,hk1⟩⟩
  cases hnn
  refine⟨⟨Nat.le_refl _,by omega,by omega⟩,?_⟩
  exact⟨k1,⟨_,rfl,by omega,by omega⟩,rfl⟩
def ctPick:CT:=fun vs mem nx K=>∃ i r cap zs k j cp l,vs=[ptr i,slc j (l:List Int).length cp]∧(lk mem i=some (tapeB r (zs:List Int).length cap k)∧lk mem r=some (intRow zs)∧lk mem j=some (intRow l))∧(zs.length≤400∧0≤k∧k≤990000)∧l.length≤16∧
 ∀ z k',k≤k'∧k'≤k+1→K (.int .i64 z) ((i,tapeB r zs.length cap k')::mem) nx
theorem pickOk:CSound Tryz.prog 135 ctPick:=⟨by kernel_rfl,fun {C ρ fr mem nx a w vs K} hc hs hv=>by
 obtain⟨i,r,cap,zs,k,j,cp,l,rfl,⟨hi,hr,hj⟩,⟨hz,hk0,hk1⟩,hl,hK⟩:=hc
 obtain⟨g,hA,ht,hok⟩:=hs.tape hi hr
 have hrl:=hs.rd (enc:=intC) (sz:=1) (fun _=>rfl) (by omega) hj (S:=fun b=>b≠g∧b<w.heap.size) (fun b hlt hb=>⟨by rintro rfl;exact hb i _ _ hi (by simp[bno,hA]),hlt⟩)
 let σ:Nat→Pl:=fun q=>match q with | 0=>⟨some ⟨g,0,none⟩,0,0,false⟩ | 1=>⟨(ρ r).A,1,zs.length,false⟩ | _=>⟨(ρ j).A,1,l.length,false⟩
 have one:∀ {l:List Int} {Ar:Option Addr},Rd w (fun b=>b≠g∧b<w.heap.size) Ar (flat intC l)→l.length=0∨Ar.map (·.block)≠some g:=by
  intro l Ar hrd
  by_cases h0:l.length=0
  ·exact .inl h0
  ·obtain⟨b,off,x,hA,hb,-,-⟩:=hrd.row (enc:=intC) (sz:=1) (fun _=>rfl) (by omega) (k:=0) (by omega)
   subst hA
   exact .inr (by simp;exact hb.1)
 have hm:=MemAt.one (ρ:=σ) (nx:=3) (nt:=Tryz.f135.ntmps) (w:=w) (mem:=[(1,intRow zs),(2,intRow l)]) (g:=g) (i:=0) (t:=125) (cs:=[slc 1 zs.length cap,.int .i64 k]) trivial (by omega) rfl
  ⟨g,rfl,by
   have:=ht.blk
   simpa [den1,dA_whole,σ] using this,.inr (by simp),fun v hv=>by
    simp at hv
    rcases hv with rfl | rfl
    ·exact⟨show (1:Nat)<3 by decide,rfl⟩
    ·trivial⟩
  ⟨⟨by omega,rfl,row_of_rd (enc:=intC) (sz:=1) (fun _=>rfl) (by omega) intC_plain 0 rfl ht.row (fun b hb=>hb.2)⟩,⟨by omega,rfl,row_of_rd (enc:=intC) (sz:=1) (fun _=>rfl) (by omega) intC_plain 0 rfl hrl (fun b hb=>hb.2)⟩,trivial⟩ (fun q t sz n el hq=>by
   rcases lk_cons hq with⟨rfl,e⟩ | ⟨_,hq⟩
   ·cases e;exact one ht.row
   rcases lk_cons hq with⟨rfl,e⟩ | ⟨_,hq⟩
   ·cases e;exact one hrl
   ·simp[lk] at hq)
 have hvs:[ptr i,slc j l.length cp].map (den ρ)=[ptr 0,slc 2 l.length cp].map (den σ):=by simp[den,den2,den1,dA_whole,hA,σ]
 rw[hvs]
 refine (calls_sx ttOk tpFok mixed Tryz.func135 rfl (D:=[]) (by kernel_rfl) (vs:=[ptr 0,slc 2 l.length cp]) rfl ⟨rfl,rfl⟩ rfl hm (fun v hv=>?_) (pick_sx cap cp zs l k hz ⟨hk0,hk1⟩ hl)).mono ?_
 ·simp at hv
  rcases hv with rfl | rfl
  ·exact⟨⟨show (0:Nat)<3 by decide,rfl⟩,⟨g,0,rfl⟩,fun k hk=>by cases hk⟩
  ·exact⟨show (2:Nat)<3 by decide,rfl⟩
 ·rintro e w' ⟨v,mem',nx',ρ',rfl,⟨k',⟨z,rfl,hkk⟩,hlk⟩,-,hm'⟩
  have e0:ρ' 0=σ 0:=hm'.low 0 (show (0:Nat)<3 by decide)
  have e1:ρ' 1=σ 1:=hm'.low 1 (show (1:Nat)<3 by decide)
  obtain⟨g',hA',hb,-,-⟩:=hm'.blk 0 _ hlk
  rw[e0] at hA'
  cases hA'
  have hgr:w.grownBy w' (some g):=⟨hm'.rest.os,hm'.rest.tape,hm'.rest.output,hm'.rest.size,fun b hlt hne=>hm'.rest.block b hlt (by simp;intro q;exact hne (by rw[q]))⟩
  refine⟨.int .i64 z,_,nx,ρ,rfl,hK z k' hkk,hs.grownBox (cs':=[slc r zs.length cap,.int .i64 k']) hi hA hgr ?_ ?_,trivial,ExtS.refl _ _⟩
  ·simpa [den1,dA_whole,e1,σ] using hb
  ·intro u hu
   simp at hu
   rcases hu with rfl | rfl
   ·exact hok
   ·trivial⟩
def entryF:FT:=[(55,ctNext),(57,ctYes),(133,ctPlatform),(138,ctGrant),(134,ctNone),(135,ctPick),(136,ctHomes),(137,ctStandbys)]
theorem entryFok:FTok Tryz.prog entryF:=ft_cons nextOk (ft_cons yesOk (ft_cons platformOk (ft_cons grantOk (ft_cons noneOk (ft_cons pickOk (ft_cons homesOk (ft_cons standbysOk ft_nil)))))))
def entryD:List (Nat×DQ):=[
 (1,{ k:=5,L:=[11],pre:=[(0,false),(1,false),(2,false),(3,true),(4,false)] }),
 (19,{ k:=5,L:=[13],pre:=[(0,false),(1,false),(2,false),(3,false),(4,true)] }),
 (23,{ k:=5,L:=[13],pre:=[(0,false),(1,false),(2,false),(3,false),(4,true)] }),
 (1000004,{ k:=13,L:=[1,2,3,4,5,6,7,8,9,10,11,12],sl:=[0,4,5,6] }),(1000032,{ k:=15,L:=[12],sl:=[6,11] })]
def EntR2 (zs:List Int) (k:Int) (v:Value) (k':Int):Prop:=(∃ en,v=entV' en)∧k≤k'∧k'≤k+40∧(zs.length≠0→k<k')
set_option maxRecDepth 100000 in
set_option maxHeartbeats 4000000 in
theorem entry_sx (cap:Nat) (zs:List Int) (k:Int) (x:CfgK) (c:Cfg) (y:StK) (s:St) (hz:zs.length≤400) (hk:0≤k∧k≤880000) (hV:CfgV c) (hI:StInv c s) :
  sx tt entryF entryD (bodyOf Tryz.f98) (argF 0 (ptr 0::cfgV CN0 x c::stV SN0 y s::[])) ((0,tapeB 1 zs.length cap k)::(1,intRow zs)::(cfgM CN0 c++stM SN0 s)) 10
   (endx tt Tryz.f98.results.toList fun v mem' _=>∃ k',EntR2 zs k v k'∧pureV v∧lk mem' 0=some (tapeB 1 zs.length cap k')):=by
 have hnc:=hV.nc
 have hnt:=hV.nt
 have hlt:=hI.lt
 have htk:=hI.tick
 refine⟨0,1,cap,zs,_,_,rfl,⟨rfl,rfl⟩,⟨hz,by omega,by omega⟩,⟨_,rfl,by omega,by omega⟩,?_⟩
 rintro _ k1 ⟨_,r1,hnn,rfl,⟨hr1,hk1⟩⟩
 cases hnn
 refine⟨⟨rfl,trivial⟩,?_⟩
 refine⟨Int×Int,fun y=>match y with | (tk,kk)=>[(7,.int .i64 tk)],fun y=>match y with | (tk,kk)=>[(0,tapeB 1 zs.length cap kk)],fun y=>(0≤y.1∧y.1≤2147483648)∧k≤y.2∧y.2≤k+2∧(zs.length≠0→k<y.2),?_,?_⟩
 ·refine⟨0,1,cap,zs,_,_,rfl,⟨rfl,rfl⟩,⟨hz,by omega,by omega⟩,⟨_,rfl,by omega,by omega⟩,?_⟩
  rintro _ k2 ⟨b2,rfl,hk2⟩
  refine⟨fun _=>?_,fun _=>?_⟩
  ·(refine⟨(_,_),?_,⟨rfl,rfl,rfl,rfl,rfl,trivial⟩,⟨rfl,rfl,rfl,rfl,rfl,rfl,rfl,rfl,rfl,rfl,rfl,rfl,rfl,trivial⟩⟩;dsimp only;(split<;>(try rw[wrapi (by omega)] at *)<;>omega))
  ·(refine⟨(_,_),?_,⟨rfl,rfl,rfl,rfl,rfl,trivial⟩,⟨rfl,rfl,rfl,rfl,rfl,rfl,rfl,rfl,rfl,rfl,rfl,rfl,rfl,trivial⟩⟩;dsimp only;(rw[wrapi (by omega)];omega))
 ·rintro⟨tk,kk⟩ ⟨htk,hkk⟩
  refine⟨⟨by decide,rfl,rfl⟩,?_⟩
  dsimp only at htk hkk
  refine⟨fun h0=>?_,fun h0=>?_⟩
  ·refine⟨fun _=>?_,fun h=>nomatch h⟩
   refine⟨0,1,cap,zs,_,CN0,x,c,SN0,y,s,[.int .i64 tk],rfl,⟨rfl,rfl⟩,⟨rfl,rfl,rfl,rfl,rfl,rfl,trivial⟩,⟨rfl,rfl,trivial⟩,⟨hz,by omega,by omega⟩,⟨⟨hV,hI⟩,tk,rfl,htk.1,htk.2⟩,?_⟩
   rintro _ k9 ⟨⟨en,rfl⟩,hk9⟩
   exact⟨k9,⟨⟨en,rfl⟩,by omega,by omega,by omega⟩,pure_ent en,rfl⟩
  ·have hpos:(c.tenants.length:Int)≠0:=by simpa using h0
   refine⟨0,1,cap,zs,_,_,rfl,⟨rfl,rfl⟩,⟨hz,by omega,by omega⟩,⟨_,rfl,by omega,by omega⟩,?_⟩
   rintro _ k8 ⟨b8,rfl,hk8⟩
   refine⟨fun _=>?_,fun _=>?_⟩
   ·refine⟨0,1,cap,zs,_,CN0,x,c,SN0,y,s,[.int .i64 tk],rfl,⟨rfl,rfl⟩,⟨rfl,rfl,rfl,rfl,rfl,rfl,trivial⟩,⟨rfl,rfl,trivial⟩,⟨hz,by omega,by omega⟩,⟨⟨hV,hI⟩,tk,rfl,htk.1,htk.2⟩,?_⟩
    rintro _ k9 ⟨⟨en,rfl⟩,hk9⟩
    exact⟨k9,⟨⟨en,rfl⟩,by omega,by omega,by omega⟩,pure_ent en,rfl⟩
   ·refine⟨0,1,cap,zs,_,_,rfl,⟨rfl,rfl⟩,⟨hz,by omega,by omega⟩,⟨_,rfl,by omega,by omega⟩,?_⟩
    rintro _ k3 ⟨_,r3,hnn,rfl,⟨hr3,hk3⟩⟩
    cases hnn
    refine⟨⟨Nat.le_refl _,by omega,by omega⟩,?_⟩
    obtain⟨t,htd⟩:∃ t,t=s.tenants.getD r3.toNat default:=⟨_,rfl⟩
    refine⟨fun hpl=>?_,fun hpl=>?_⟩
    ·refine⟨_,_,rfl,?_⟩
     refine⟨CN0,x,c,_,rfl,⟨rfl,rfl,rfl,rfl,rfl,rfl,trivial⟩,hV,?_⟩
     intro lH cpH hlH
     refine⟨0,1,cap,zs,_,_,_,_,rfl,⟨rfl,rfl,rfl⟩,⟨hz,by omega,by omega⟩,by assumption,?_⟩
     intro v4 k4 hk4
     refine⟨CN0,x,c,_,_,rfl,⟨rfl,rfl,rfl,rfl,rfl,rfl,trivial⟩,hV,?_⟩
     intro lS cpS hlS
     refine⟨0,1,cap,zs,_,_,_,_,rfl,⟨rfl,rfl,rfl⟩,⟨hz,by omega,by omega⟩,by assumption,?_⟩
     intro v5 k5 hk5
     exact⟨k5,⟨⟨⟨_,_,_,_,_,_,_,_,_⟩,rfl⟩,by omega,by omega,by omega⟩,pure_ent ⟨_,_,_,_,_,_,_,_,_⟩,rfl⟩
    ·replace hpl:(tsAt s r3).placed=true:=by unfold tsAt;simpa using hpl
     refine⟨_,_,rfl,?_⟩
     refine⟨Ent×Int,fun _=>[],fun y=>match y with | (⟨a1,a2,a3,a4,a5,a6,a7,a8,a9⟩,kk)=>[(0,tapeB 1 zs.length cap kk),(14,.box 39 [.int .i64 a1,.int .i64 a2,.int .i64 a3,.int .i64 a4,.int .i64 a5,.int .i64 a6,.int .i64 a7,.int .i64 a8,.int .i64 a9])],fun y=>k≤y.2∧y.2≤k+10∧(zs.length≠0→k<y.2),?_,?_⟩
     ·refine⟨0,1,cap,zs,_,_,rfl,⟨rfl,rfl⟩,⟨hz,by omega,by omega⟩,⟨_,rfl,by omega,by omega⟩,?_⟩
      rintro _ k6 ⟨_,r6,hnn,rfl,⟨hr6,hk6⟩⟩
      cases hnn
      refine⟨fun _=>?_,fun _=>?_⟩
      ·refine⟨⟨rfl,trivial⟩,?_⟩
       (refine⟨(⟨_,_,_,_,_,_,_,_,_⟩,_),?_,⟨rfl,rfl,trivial⟩,⟨rfl,rfl,rfl,trivial⟩⟩;dsimp only;omega)
      refine⟨fun _=>?_,fun _=>?_⟩
      ·refine⟨CN0,x,c,_,_,rfl,⟨rfl,rfl,rfl,rfl,rfl,rfl,trivial⟩,hV,?_⟩
       intro lS cpS hlS
       refine⟨0,1,cap,zs,_,_,_,_,rfl,⟨rfl,rfl,rfl⟩,⟨hz,by omega,by omega⟩,by assumption,?_⟩
       intro v7 k7 hk7
       (refine⟨(⟨_,_,_,_,_,_,_,_,_⟩,_),?_,⟨rfl,rfl,trivial⟩,⟨rfl,rfl,rfl,trivial⟩⟩;dsimp only;omega)
      refine⟨fun _=>?_,fun _=>?_⟩
      ·refine⟨⟨rfl,trivial⟩,?_⟩
       (refine⟨(⟨_,_,_,_,_,_,_,_,_⟩,_),?_,⟨rfl,rfl,trivial⟩,⟨rfl,rfl,rfl,trivial⟩⟩;dsimp only;omega)
      refine⟨fun _=>?_,fun _=>?_⟩
      ·refine⟨CN0,x,c,_,rfl,⟨rfl,rfl,rfl,rfl,rfl,rfl,trivial⟩,hV,?_⟩
       intro lH cpH hlH
       refine⟨0,1,cap,zs,_,_,_,_,rfl,⟨rfl,rfl,rfl⟩,⟨hz,by omega,by omega⟩,by assumption,?_⟩
       intro v7 k7 hk7
       (refine⟨(⟨_,_,_,_,_,_,_,_,_⟩,_),?_,⟨rfl,rfl,trivial⟩,⟨rfl,rfl,rfl,trivial⟩⟩;dsimp only;omega)
      refine⟨fun _=>?_,fun _=>?_⟩
      ·(refine⟨(⟨_,_,_,_,_,_,_,_,_⟩,_),?_,⟨rfl,rfl,trivial⟩,⟨rfl,rfl,rfl,trivial⟩⟩;dsimp only;omega)
      refine⟨fun _=>?_,fun _=>?_⟩
      ·refine⟨fun _=>?_,fun _=>?_⟩
       ·(refine⟨(⟨_,_,_,_,_,_,_,_,_⟩,_),?_,⟨rfl,rfl,trivial⟩,⟨rfl,rfl,rfl,trivial⟩⟩;dsimp only;omega)
       ·(refine⟨(⟨_,_,_,_,_,_,_,_,_⟩,_),?_,⟨rfl,rfl,trivial⟩,⟨rfl,rfl,rfl,trivial⟩⟩;dsimp only;omega)
      refine⟨0,1,cap,zs,_,CN0,x,c,SN0,y,s,[entV' ⟨2,tk,r3,-1,-1,0,0,0,0⟩],rfl,⟨rfl,rfl⟩,⟨rfl,rfl,rfl,rfl,rfl,rfl,trivial⟩,⟨rfl,rfl,trivial⟩,⟨hz,by omega,by omega⟩,⟨⟨hV,hI⟩,⟨2,tk,r3,-1,-1,0,0,0,0⟩,rfl,⟨hr3.1,by show r3<_;omega⟩,hpl⟩,?_⟩
      rintro _ k9 ⟨⟨en,rfl⟩,hk9⟩
      exact⟨k9,⟨⟨en,rfl⟩,by omega,by omega,by omega⟩,pure_ent en,rfl⟩
     ·rintro⟨⟨ekind,etick,etenant,ecell,eother,eepoch,esince,etill,en⟩,k8⟩ hk8
      refine⟨⟨by decide,rfl,rfl⟩,?_⟩
      dsimp only at hk8
      exact⟨k8,⟨⟨⟨_,_,_,_,_,_,_,_,_⟩,rfl⟩,by omega,by omega,by omega⟩,pure_ent ⟨_,_,_,_,_,_,_,_,_⟩,rfl⟩
def ctEntry:CT:=ctGen (fun zs _ _ _=>EntR2 zs) fun c s args k=>(CfgV c∧StInv c s∧k≤880000)∧args=[]
theorem entryOk:CSound Tryz.prog 98 ctEntry:=genOk (by kernel_rfl) (by
  rintro c s args k ⟨-,rfl⟩ v hv
  cases hv) (by
 rintro args g A cap zs k x c y s w hz hk0 hk1 ⟨⟨hV,hI,hk2⟩,rfl⟩ ht hc hs
 refine gen_calls entryFok Tryz.func98 rfl (D:=entryD) (by kernel_rfl) rfl (fun v hv=>by cases hv) g A cap zs k x c y s w ht hc hs (R:=EntR2 zs k) ?_
 exact entry_sx cap zs k _ c _ s hz ⟨hk0,hk2⟩ hV hI)
/-! make.Log: entries that are accepted one after the other. -/
def LenCap (n:Nat) (v:Value):Prop:=∃ A m cap,v=.slice A m cap∧n≤cap
def lgF:FT:=[(53,ctTapeNew),(70,ctNewR),(97,ctMore),(98,ctEntry),(72,ctApplyR)]
theorem lgFok:FTok Tryz.prog lgF:=ft_cons tapeNewOk (ft_cons newROk (ft_cons moreOk (ft_cons entryOk (ft_cons applyROk ft_nil))))
def lgD:List (Nat×DQ):=[(3000004,{ k:=21,L:=[0,1,2,3,4,5,6,7,8,9,10,11,12,13],sl:=[2,4,7,8] })]
set_option maxRecDepth 100000 in
set_option maxHeartbeats 8000000 in
theorem log_sx (d:UD) (x:CfgK) (cap0:Nat) (n:Int) (hV:CfgV d.c) (hz:d.l0.length≤400) (hn:0≤n∧n≤1000) :
  sx tt lgF lgD (bodyOf Tryz.f59) (argF 0 [slc 0 d.l0.length cap0,cfgV CNu x d.c,.int .i64 n]) (uniM d) 13 (endx tt Tryz.f59.results.toList fun v mem' _=>∃ es s,Run d.c (stNew d.c) es s∧(es.length:Int)≤n∧SlR mem' 9 entC default es v∧LenCap es.length v):=by
 have hnt:=hV.nt
 have hnc:=hV.nc
 refine⟨0,cap0,d.l0,rfl,rfl,by omega,?_⟩
 refine⟨CNu,x,d.c,rfl,kp_,⟨by omega,by omega,by omega⟩,?_⟩
 intro y0
 refine⟨St×StK×Int×List Ent×Option (Nat×(Nat→List Value)),fun q=>match q with | (s,y,k,es,none)=>[(9,zs0)] | (s,y,k,es,some (cap,el))=>[(9,slc 20 es.length cap)],fun q=>match q with | (s,y,k,es,none)=>[(14,tapeB 0 d.l0.length cap0 k),(17,.box 34 [.int .i64 s.tick,.int .i64 s.count,slc 18 s.tenants.length y.ct,slc 19 s.cells.length y.cc,.int .i64 s.proven,.int .i64 s.evac,.int .i64 s.low,.int .i64 s.high]),(18,rowOfL 500000 12 tsC default s.tenants),(19,rowOfL 500000 4 csC default s.cells)] | (s,y,k,es,some (cap,el))=>(20,.row (1000000+39) 9 cap el)::[(14,tapeB 0 d.l0.length cap0 k),(17,.box 34 [.int .i64 s.tick,.int .i64 s.count,slc 18 s.tenants.length y.ct,slc 19 s.cells.length y.cc,.int .i64 s.proven,.int .i64 s.evac,.int .i64 s.low,.int .i64 s.high]),(18,rowOfL 500000 12 tsC default s.tenants),(19,rowOfL 500000 4 csC default s.cells)],fun q=>match q with | (s,y,k,es,o)=>Run d.c (stNew d.c) es s∧(0≤k∧k≤445)∧(es.length:Int)≤n∧match o with | none=>es=[] | some (cap,el)=>es.length≤cap∧∀ j,j<es.length→el j=entC (es.getD j default),fun q=>match q with | (s,y,k,es,o)=>(1000-k).toNat,⟨(stNew d.c,y0,0,[],none),[(18,16),(19,15)],⟨.nil _,by omega,by simpa using hn.1,rfl⟩,⟨rfl,rfl⟩,kp_,kp_⟩,?_⟩
 rintro⟨s,y,k,es,(_ | ⟨cap,el⟩)⟩ ⟨hR,hk,hn2,ho⟩
 ·refine⟨⟨by decide,rfl,rfl⟩,?_⟩
  refine⟨fun hc=>?_,fun hc=>?_⟩
  ·refine⟨14,0,cap0,d.l0,_,[],rfl,⟨rfl,rfl⟩,⟨by omega,by omega,by omega⟩,rfl,?_⟩
   rintro _ k1 ⟨b1,rfl,rfl,hb1⟩
   refine⟨fun hb=>?_,fun hb=>?_⟩
   ·have hkl:=hb1 hb
    have hlen:(es.length:Int)<n:=by rw[show es=[] from ho];exact of_decide_eq_true hc
    clear hb1
    have hI:=(hR.rinv hV (.new hV)).inv
    have hcp:=(hR.rinv hV (.new hV)).cap
    refine⟨14,0,cap0,d.l0,_,CNu,x,d.c,⟨18,19,500000⟩,y,s,[],rfl,⟨rfl,rfl⟩,kp_,kp_,⟨by omega,by omega,by omega⟩,⟨⟨hV,hI,by omega⟩,rfl⟩,?_⟩
    rintro _ k2 ⟨⟨en,rfl⟩,hk2a,hk2b,hk2c⟩
    refine⟨CNu,x,d.c,⟨18,19,500000⟩,y,s,en,rfl,⟨kp_,.list rfl,.list rfl⟩,⟨hV,hI⟩,?_⟩
    intro y2
    rw[applyRP hV hI hcp]
    refine⟨fun he=>?_,fun he=>?_⟩
    ·have he2:applyP d.c s en=((applyP d.c s en).1,0):=by
      have q:(applyP d.c s en).2=0:=by simpa using he
      rw[← q]
     have he0:es=[]:=ho
     subst he0
     refine⟨⟨Nat.le_refl _,fun j hj=>by match j,hj with | 0,_=>rfl⟩,?_⟩
     refine⟨fun h=>absurd h (by decide),fun _=>⟨by decide,fun cap2 el2 hc2 hel2=>?_⟩⟩
     refine⟨((applyP d.c s en).1,y2,k2,[en],some (cap2,el2)),[(18,23),(19,22),(20,26)],?_,⟨rfl,rfl⟩,kp_,kp_⟩
     dsimp only
     refine⟨⟨hR.snoc he2,by omega,by simp;omega,hc2,fun j hj=>?_⟩,by omega⟩
     obtain rfl:j=0:=by simpa using hj
     exact hel2 0 (by omega)
    ·refine⟨(s,y,k2,es,none),[],?_,⟨rfl,rfl⟩,kp_,kp_⟩
     dsimp only
     exact⟨⟨hR,by omega,hn2,ho⟩,by omega⟩
   ·exact⟨es,s,hR,hn2,.inl ⟨rfl,ho⟩,none,0,0,rfl,(by rw[ho];decide)⟩
  ·refine⟨fun h=>Bool.noConfusion h,fun _=>?_⟩
   exact⟨es,s,hR,hn2,.inl ⟨rfl,ho⟩,none,0,0,rfl,(by rw[ho];decide)⟩
 ·refine⟨⟨by decide,rfl,rfl⟩,?_⟩
  refine⟨fun hc=>?_,fun hc=>?_⟩
  ·refine⟨14,0,cap0,d.l0,_,[],rfl,⟨rfl,rfl⟩,⟨by omega,by omega,by omega⟩,rfl,?_⟩
   rintro _ k1 ⟨b1,rfl,rfl,hb1⟩
   refine⟨fun hb=>?_,fun hb=>?_⟩
   ·have hkl:=hb1 hb
    have hlen:(es.length:Int)<n:=of_decide_eq_true hc
    clear hb1
    have hI:=(hR.rinv hV (.new hV)).inv
    have hcp:=(hR.rinv hV (.new hV)).cap
    refine⟨14,0,cap0,d.l0,_,CNu,x,d.c,⟨18,19,500000⟩,y,s,[],rfl,⟨rfl,rfl⟩,kp_,kp_,⟨by omega,by omega,by omega⟩,⟨⟨hV,hI,by omega⟩,rfl⟩,?_⟩
    rintro _ k2 ⟨⟨en,rfl⟩,hk2a,hk2b,hk2c⟩
    refine⟨CNu,x,d.c,⟨18,19,500000⟩,y,s,en,rfl,⟨kp_,.list rfl,.list rfl⟩,⟨hV,hI⟩,?_⟩
    intro y2
    rw[applyRP hV hI hcp]
    refine⟨fun he=>?_,fun he=>?_⟩
    ·have he2:applyP d.c s en=((applyP d.c s en).1,0):=by
      have q:(applyP d.c s en).2=0:=by simpa using he
      rw[← q]
     refine⟨⟨Nat.le_refl _,fun j hj=>by match j,hj with | 0,_=>rfl⟩,?_⟩
     refine⟨⟨rfl,ho.1⟩,fun hin el2 g1 g2=>?_,fun hgt=>⟨by show (es.length+1) * 72≤140737488355328;omega,fun cap2 el2 hc2 g1 g2=>?_⟩⟩
     ·rw[show es.length+1=(es++[en]).length by simp]
      refine⟨((applyP d.c s en).1,y2,k2,es++[en],some (cap,el2)),[(18,23),(19,22)],?_,⟨rfl,rfl⟩,kp_,kp_⟩
      dsimp only
      refine⟨⟨hR.snoc he2,by omega,by simp;omega,by first | exact hc2 | (simp;omega),fun j hj=>?_⟩,by omega⟩
      by_cases hjn:j<es.length
      ·rw[g1 j hjn,ho.2 j hjn,List.getD_eq_getElem?_getD,List.getD_eq_getElem?_getD,List.getElem?_append_left hjn]
      ·obtain rfl:j=es.length:=by simp at hj;omega
       have:=g2 0 (by omega)
       rw[Nat.add_zero] at this
       rw[this,List.getD_eq_getElem?_getD,List.getElem?_append_right (Nat.le_refl _),Nat.sub_self]
       rfl
     ·rw[show es.length+1=(es++[en]).length by simp] at hc2 ⊢
      refine⟨((applyP d.c s en).1,y2,k2,es++[en],some (cap2,el2)),[(18,23),(19,22),(20,26)],?_,⟨rfl,rfl⟩,kp_,kp_⟩
      dsimp only
      refine⟨⟨hR.snoc he2,by omega,by simp;omega,by first | exact hc2 | (simp;omega),fun j hj=>?_⟩,by omega⟩
      by_cases hjn:j<es.length
      ·rw[g1 j hjn,ho.2 j hjn,List.getD_eq_getElem?_getD,List.getD_eq_getElem?_getD,List.getElem?_append_left hjn]
      ·obtain rfl:j=es.length:=by simp at hj;omega
       have:=g2 0 (by omega)
       rw[Nat.add_zero] at this
       rw[this,List.getD_eq_getElem?_getD,List.getElem?_append_right (Nat.le_refl _),Nat.sub_self]
       rfl
    ·refine⟨(s,y,k2,es,some (cap,el)),[],?_,⟨rfl,rfl⟩,kp_,kp_⟩
     dsimp only
     exact⟨⟨hR,by omega,hn2,ho⟩,by omega⟩
   ·exact⟨es,s,hR,hn2,.inr ⟨20,_,_,cap,el,rfl,rfl,rfl,ho.1,ho.2⟩,_,_,cap,rfl,ho.1⟩
  ·refine⟨fun h=>Bool.noConfusion h,fun _=>?_⟩
   exact⟨es,s,hR,hn2,.inr ⟨20,_,_,cap,el,rfl,rfl,rfl,ho.1,ho.2⟩,_,_,cap,rfl,ho.1⟩
theorem mkLog_calls (x:CfgA) (c:Cfg) (A0:Option Addr) (cap0:Nat) (l:List Int) (n:Int) (w:World) (hV:CfgV c) (hz:l.length≤400) (hn:0≤n∧n≤1000) (hc:CfgOk w (·<w.heap.size) x c) (hr:Rd w (·<w.heap.size) A0 (flat intC l)) :
  Calls Tryz.prog 59 #[.slice A0 l.length cap0,.agg (cfgC x c),.int .i64 n] w fun e w'=>∃ es s A cap,e=.returned (.slice A (es:List Ent).length cap)∧Run c (stNew c) es s∧(es.length:Int)≤n∧es.length≤cap∧Rd w' (fun b=>w.heap.size≤b∧b<w'.heap.size) A (flat entC es)∧Below w.heap.size w w':=by
 have:=uni_calls ttOk (lgFok.i _) Tryz.func59 rfl (D:=lgD) (by kernel_rfl) (vs:=[slc 0 l.length cap0,cfgV CNu (ck x) c,.int .i64 n]) rfl { a0:=A0,x:=x } { l0:=l,c:=c } w { r0:=hr,c:=hc } (fun v hv=>by
  simp only[List.mem_cons,List.not_mem_nil,or_false] at hv
  rcases hv with rfl | rfl | rfl
  ·exact⟨show (0:Nat)<13 by decide,rfl⟩
  ·exact upl_cfg_ok { a0:=A0,x:=x } { l0:=l,c:=c }
  ·trivial) (log_sx { l0:=l,c:=c } (ck x) cap0 n hV hz hn)
 rw[List.map_cons,List.map_cons] at this
 have e0:=upl_cfg { a0:=A0,x:=x } { l0:=l,c:=c }
 dsimp only at e0 this
 rw[e0] at this
 refine this.mono ?_
 rintro e w' ⟨v,mem',nx',ρ',rfl,⟨es,s,hR,hen,hS,A1,m1,cap1,rfl,hcap⟩,hv,hm',hb⟩
 obtain⟨A,cp,e1,hr'⟩:=hm'.slR (enc:=entC) (sz:=9) (fun _=>rfl) (by omega) hS
 have e2:den ρ' (.slice A1 m1 cap1)=.slice A es.length cp:=e1
 have e3:cap1=cp:=by cases A1<;>simp[den1] at e1<;>exact e1.2.2
 exact⟨es,s,A,cp,by rw[e2],hR,hen,e3 ▸ hcap,hr',hb⟩
def ctLog:CT:=fun vs mem nx K=>∃ N x c r cap l n,vs=[slc r (l:List Int).length cap,cfgV N x c,.int .i64 n]∧(keeps mem (cfgM N c)∧HasRow mem r 1 intC 0 l)∧(CfgV c∧l.length≤400∧0≤n∧n≤1000)∧∀ es s cap',Run c (stNew c) es s→(es.length:Int)≤n→es.length≤cap'→K (slc nx es.length cap') ((nx,rowOfL 500000 9 entC default es)::mem) (nx+1)
theorem logOk:CSound Tryz.prog 59 ctLog:=⟨by kernel_rfl,fun {C ρ fr mem nx a w vs K} hc hs hv=>by
 obtain⟨N,x,c,r,cap,l,n,rfl,⟨hk,hr⟩,⟨hV,hl,hn⟩,hK⟩:=hc
 have e0:([slc r l.length cap,cfgV N x c,.int .i64 n].map (den ρ)).toArray=#[.slice (ρ r).A l.length cap,.agg (cfgC (cfgX ρ N x) c),.int .i64 n]:=by
  rw[List.map_cons,List.map_cons,den_cfg]
  rfl
 rw[e0]
 refine (mkLog_calls (cfgX ρ N x) c (ρ r).A cap l n w hV hl hn (hs.cfg hk (fun b h _=>h)) (hs.hasRd (enc:=intC) (sz:=1) (fun _=>rfl) (by omega) hr)).mono ?_
 rintro e w' ⟨es,s,A,cp,rfl,hR,hen,hcp,hrd,hb⟩
 obtain⟨q1,-⟩:=(hs.later hb).addList hs.frB hs.rest.size (enc:=entC) (sz:=9) (fun _=>rfl) (by omega) entC_plain default (t:=500000) rfl hrd
 have q2:setPl ρ nx ⟨A,9,es.length,false⟩ nx=⟨A,9,es.length,false⟩:=setPl_same _ _ _
 refine⟨slc nx es.length cp,_,_,_,?_,hK es s cp hR hen hcp,q1,?_,fun i hi=>setPl_lt _ _ hi,by omega⟩
 ·show Ending.returned (.slice A es.length cp)=.returned (.slice (setPl ρ nx ⟨A,9,es.length,false⟩ nx).A es.length cp)
  rw[q2]
 ·exact⟨show nx<nx+1 by omega,by rw[q2]⟩⟩
/-! make.State: the state of a log. -/
def msF:FT:=[(59,ctLog),(58,ctFoldR)]
theorem msFok:FTok Tryz.prog msF:=ft_cons logOk (ft_cons foldROk ft_nil)
def msD:List (Nat×DQ):=[(1,{ k:=13,L:=[13],A:=[10],pre:=[(0,false),(1,false),(2,false),(3,false),(4,true),(5,true),(6,false),(7,false),(8,false),(9,false)],post:=[(11,true),(12,false)] })]
set_option maxRecDepth 100000 in
set_option maxHeartbeats 8000000 in
theorem mkState_sx (d:UD) (x:CfgK) (cap0:Nat) (n:Int) (hV:CfgV d.c) (hz:d.l0.length≤400) (hn:0≤n∧n≤1000) :
  sx tt msF msD (bodyOf Tryz.f30) (argF 0 [slc 0 d.l0.length cap0,cfgV CNu x d.c,.int .i64 n]) (uniM d) 13 (endx tt Tryz.f30.results.toList fun v mem' _=>∃ es s y,Run d.c (stNew d.c) es s∧(es.length:Int)≤n∧v=stV ⟨18,17,500000⟩ y s∧keeps mem' (stM ⟨18,17,500000⟩ s)):=by
 have hnt:=hV.nt
 have hnc:=hV.nc
 refine⟨CNu,x,d.c,0,cap0,d.l0,n,rfl,⟨kp_,?_⟩,⟨hV,hz,hn⟩,?_⟩
 ·exact⟨_,_,_,rfl,Nat.le_refl _,fun k hk=>rfl⟩
 intro es s cap2 hR hen hcp
 refine⟨kp_,?_⟩
 refine⟨CNu,x,d.c,16,cap2,es,rfl,⟨kp_,⟨_,_,_,rfl,Nat.le_refl _,fun k hk=>rfl⟩⟩,⟨hV,by omega⟩,?_⟩
 intro y
 rw[hR.foldC]
 refine⟨kp_,?_⟩
 refine⟨kp_,?_⟩
 exact⟨es,s,y,hR,hen,rfl,kp_⟩
theorem mkState_calls (x:CfgA) (c:Cfg) (A0:Option Addr) (cap0:Nat) (l:List Int) (n:Int) (w:World) (hV:CfgV c) (hz:l.length≤400) (hn:0≤n∧n≤1000) (hc:CfgOk w (·<w.heap.size) x c) (hr:Rd w (·<w.heap.size) A0 (flat intC l)) :
  Calls Tryz.prog 30 #[.slice A0 l.length cap0,.agg (cfgC x c),.int .i64 n] w fun e w'=>∃ es s y,e=.returned (.agg (stC y s))∧Run c (stNew c) es s∧(es.length:Int)≤n∧StOk w' (fun b=>w.heap.size≤b∧b<w'.heap.size) y s∧Below w.heap.size w w':=by
 have:=uni_calls ttOk (msFok.i _) Tryz.func30 rfl (D:=msD) (by kernel_rfl) (vs:=[slc 0 l.length cap0,cfgV CNu (ck x) c,.int .i64 n]) rfl { a0:=A0,x:=x } { l0:=l,c:=c } w { r0:=hr,c:=hc } (fun v hv=>by
  simp only[List.mem_cons,List.not_mem_nil,or_false] at hv
  rcases hv with rfl | rfl | rfl
  ·exact⟨show (0:Nat)<13 by decide,rfl⟩
  ·exact upl_cfg_ok { a0:=A0,x:=x } { l0:=l,c:=c }
  ·trivial) (mkState_sx { l0:=l,c:=c } (ck x) cap0 n hV hz hn)
 rw[List.map_cons,List.map_cons] at this
 have e0:=upl_cfg { a0:=A0,x:=x } { l0:=l,c:=c }
 dsimp only at e0 this
 rw[e0] at this
 refine this.mono ?_
 rintro e w' ⟨v,mem',nx',ρ',rfl,⟨es,s,y,hR,hen,rfl,k1,k2,-⟩,hv,hm',hb⟩
 refine⟨es,s,⟨(ρ' 18).A,y.ct,(ρ' 17).A,y.cc⟩,?_,hR,hen,⟨?_,?_⟩,hb⟩
 ·rw[den_st]
  rfl
 ·exact (hm'.blk 18 _ k1).fresh (enc:=tsC) default rfl rfl (fun k hk=>rfl) (fun _=>rfl) (by omega)
 ·exact (hm'.blk 17 _ k2).fresh (enc:=csC) default rfl rfl (fun k hk=>rfl) (fun _=>rfl) (by omega)
def ctState:CT:=fun vs mem nx K=>∃ N x c r cap l n,vs=[slc r (l:List Int).length cap,cfgV N x c,.int .i64 n]∧(keeps mem (cfgM N c)∧HasRow mem r 1 intC 0 l)∧(CfgV c∧l.length≤400∧0≤n∧n≤1000)∧∀ es s y,Run c (stNew c) es s→(es.length:Int)≤n→K (stV ⟨nx+1,nx,500000⟩ y s) (stM ⟨nx+1,nx,500000⟩ s++mem) (nx+2)
theorem stateOk:CSound Tryz.prog 30 ctState:=⟨by kernel_rfl,fun {C ρ fr mem nx a w vs K} hc hs hv=>by
 obtain⟨N,x,c,r,cap,l,n,rfl,⟨hk,hr⟩,⟨hV,hl,hn⟩,hK⟩:=hc
 have e0:([slc r l.length cap,cfgV N x c,.int .i64 n].map (den ρ)).toArray=#[.slice (ρ r).A l.length cap,.agg (cfgC (cfgX ρ N x) c),.int .i64 n]:=by
  rw[List.map_cons,List.map_cons,den_cfg]
  rfl
 rw[e0]
 refine (mkState_calls (cfgX ρ N x) c (ρ r).A cap l n w hV hl hn (hs.cfg hk (fun b h _=>h)) (hs.hasRd (enc:=intC) (sz:=1) (fun _=>rfl) (by omega) hr)).mono ?_
 rintro e w' ⟨es,s,y,rfl,hR,hen,hst,hb⟩
 obtain⟨q1,q2,q3,q4⟩:=hs.addSt hb hst
 exact⟨_,_,_,_,by rw[q2],hK es s ⟨y.ct,y.cc⟩ hR hen,q1,q3,q4⟩⟩
/-! law39.worlds -/
def woF:FT:=[(44,ctPacked),(29,ctConfig),(30,ctState)]
theorem woFok:FTok Tryz.prog woF:=ft_cons packedOk (ft_cons configOk (ft_cons stateOk ft_nil))
def woD:List (Nat×DQ):=[(3,{ k:=3,L:=[24,25],pre:=[(0,false),(1,false),(2,true)] }),(5,{ k:=4,L:=[21],pre:=[(0,false),(1,false),(2,false),(3,true)] })]
def IsWorld (v:Value) (mem':AM):Prop:=∃ N x c M y s,CfgV c∧(RInv c s∧s.count≤150)∧v=.tuple #[cfgV N x c,stV M y s]∧(NewRow mem' N.z 1 intC 0 c.zones∧NewRow mem' N.c 2 pairC (0,0) c.cells∧NewRow mem' N.t 7 tenC default c.tenants∧NewRow mem' N.v 2 pairC (0,0) c.versions∧NewRow mem' N.r 1 intC 0 c.replicas∧NewRow mem' N.o 1 intC 0 c.observers)∧(NewRow mem' M.t 12 tsC default s.tenants∧NewRow mem' M.c 4 csC default s.cells)
set_option maxRecDepth 100000 in
set_option maxHeartbeats 4000000 in
theorem worlds_sx (cap0 cap1:Nat) (l more:List Int) (packed:Bool) (hm0:l.length≤400) (hm1:more.length≤400) :
  sx tt woF woD (bodyOf Tryz.f13) (argF 0 [slc 0 l.length cap0,slc 1 more.length cap1,.bool packed]) (uniM { l0:=l,l1:=more }) 13 (endx tt Tryz.f13.results.toList fun v mem' _=>IsWorld v mem'):=by
 refine⟨fun hp=>?_,fun hp=>?_⟩
 ·refine⟨0,cap0,l,rfl,⟨_,_,_,rfl,Nat.le_refl _,fun k hk=>rfl⟩,hm0,?_⟩
  intro x c y s m cp hV hR2 hct
  refine⟨kp_,?_⟩
  exact⟨⟨20,19,18,17,16,15,500000⟩,_,c,⟨22,21,500000⟩,_,s,hV,⟨hR2,hct⟩,rfl,⟨⟨_,_,_,rfl,rfl,Nat.le_refl _,fun k hk=>rfl⟩,⟨_,_,_,rfl,rfl,Nat.le_refl _,fun k hk=>rfl⟩,⟨_,_,_,rfl,rfl,Nat.le_refl _,fun k hk=>rfl⟩,⟨_,_,_,rfl,rfl,Nat.le_refl _,fun k hk=>rfl⟩,⟨_,_,_,rfl,rfl,Nat.le_refl _,fun k hk=>rfl⟩,⟨_,_,_,rfl,rfl,Nat.le_refl _,fun k hk=>rfl⟩⟩,⟨⟨_,_,_,rfl,rfl,Nat.le_refl _,fun k hk=>rfl⟩,⟨_,_,_,rfl,rfl,Nat.le_refl _,fun k hk=>rfl⟩⟩⟩
 ·refine⟨0,cap0,l,rfl,rfl,hm0,?_⟩
  intro x c hM
  have hV:=cfgV_of hM.valid
  refine⟨_,_,c,1,cap1,more,40,rfl,⟨kp_,⟨_,_,_,rfl,Nat.le_refl _,fun k hk=>rfl⟩⟩,⟨hV,hm1,by decide,by decide⟩,?_⟩
  intro es s y hR hen
  have hR2:=hR.rinv hV (.new hV)
  have hct:=hR.count
  refine⟨kp_,?_⟩
  exact⟨⟨20,19,18,17,16,15,500000⟩,_,c,⟨23,22,500000⟩,_,s,hV,⟨hR2,by rw[hct];show (0:Int)+_≤150;omega⟩,rfl,⟨⟨_,_,_,rfl,rfl,Nat.le_refl _,fun k hk=>rfl⟩,⟨_,_,_,rfl,rfl,Nat.le_refl _,fun k hk=>rfl⟩,⟨_,_,_,rfl,rfl,Nat.le_refl _,fun k hk=>rfl⟩,⟨_,_,_,rfl,rfl,Nat.le_refl _,fun k hk=>rfl⟩,⟨_,_,_,rfl,rfl,Nat.le_refl _,fun k hk=>rfl⟩,⟨_,_,_,rfl,rfl,Nat.le_refl _,fun k hk=>rfl⟩⟩,⟨⟨_,_,_,rfl,rfl,Nat.le_refl _,fun k hk=>rfl⟩,⟨_,_,_,rfl,rfl,Nat.le_refl _,fun k hk=>rfl⟩⟩⟩
theorem worlds_calls (A0 A1:Option Addr) (cap0 cap1:Nat) (l more:List Int) (packed:Bool) (w:World) (hm0:l.length≤400) (hm1:more.length≤400) (hr0:Rd w (·<w.heap.size) A0 (flat intC l)) (hr1:Rd w (·<w.heap.size) A1 (flat intC more)) :
  Calls Tryz.prog 13 #[.slice A0 l.length cap0,.slice A1 more.length cap1,.bool packed] w fun e w'=>∃ x c y s,e=.returned (.tuple #[.agg (cfgC x c),.agg (stC y s)])∧(CfgV c∧RInv c s∧s.count≤150)∧CfgOk w' (fun b=>w.heap.size≤b∧b<w'.heap.size) x c∧StOk w' (fun b=>w.heap.size≤b∧b<w'.heap.size) y s∧Below w.heap.size w w':=by
 have:=uni_calls ttOk (woFok.i _) Tryz.func13 rfl (D:=woD) (by kernel_rfl) (vs:=[slc 0 l.length cap0,slc 1 more.length cap1,.bool packed]) rfl { a0:=A0,a1:=A1 } { l0:=l,l1:=more } w { r0:=hr0,r1:=hr1 } (fun v hv=>by
  simp only[List.mem_cons,List.not_mem_nil,or_false] at hv
  rcases hv with rfl | rfl | rfl
  ·exact⟨show (0:Nat)<13 by decide,rfl⟩
  ·exact⟨show (1:Nat)<13 by decide,rfl⟩
  ·trivial) (worlds_sx cap0 cap1 l more packed hm0 hm1)
 refine this.mono ?_
 rintro e w' ⟨v,mem',nx',ρ',rfl,⟨N,x,c,M,y,s,hV,hR,rfl,⟨n1,n2,n3,n4,n5,n6⟩,m1,m2⟩,-,hm',hb⟩
 have e1:den ρ' (.tuple #[cfgV N x c,stV M y s])=.tuple #[den ρ' (cfgV N x c),den ρ' (stV M y s)]:=by simp[den]
 rw[e1,den_cfg,den_st]
 exact⟨_,c,_,s,rfl,⟨hV,hR⟩,⟨hm'.newRd (enc:=intC) (sz:=1) (fun _=>rfl) (by omega) n1,hm'.newRd (enc:=pairC) (sz:=2) (fun _=>rfl) (by omega) n2,hm'.newRd (enc:=tenC) (sz:=7) (fun _=>rfl) (by omega) n3,hm'.newRd (enc:=pairC) (sz:=2) (fun _=>rfl) (by omega) n4,hm'.newRd (enc:=intC) (sz:=1) (fun _=>rfl) (by omega) n5,hm'.newRd (enc:=intC) (sz:=1) (fun _=>rfl) (by omega) n6⟩,⟨hm'.newRd (enc:=tsC) (sz:=12) (fun _=>rfl) (by omega) m1,hm'.newRd (enc:=csC) (sz:=4) (fun _=>rfl) (by omega) m2⟩,hb⟩
def ctWorlds:CT:=fun vs mem nx K=>∃ r0 r1 cap0 cap1 l more packed,vs=[slc r0 (l:List Int).length cap0,slc r1 (more:List Int).length cap1,.bool packed]∧(HasRow mem r0 1 intC 0 l∧HasRow mem r1 1 intC 0 more)∧(l.length≤400∧more.length≤400)∧∀ x c y s,CfgV c→RInv c s→s.count≤150→K (.tuple #[cfgV (woC nx) x c,stV (woS nx) y s]) ((nx+8,rowOfL 500000 1 intC 0 ([]:List Int))::(stM (woS nx) s++(cfgM (woC nx) c++mem))) (nx+9)
theorem worldsOk:CSound Tryz.prog 13 ctWorlds:=⟨by kernel_rfl,fun {C ρ fr mem nx a w vs K} hc hs hv=>by
 obtain⟨r0,r1,cap0,cap1,l,more,packed,rfl,⟨h0,h1⟩,⟨hz0,hz1⟩,hK⟩:=hc
 have e:([slc r0 l.length cap0,slc r1 more.length cap1,.bool packed].map (den ρ)).toArray=#[.slice (ρ r0).A l.length cap0,.slice (ρ r1).A more.length cap1,.bool packed]:=by simp[den,den2,den1,dA_whole]
 rw[e]
 refine (worlds_calls (ρ r0).A (ρ r1).A cap0 cap1 l more packed w hz0 hz1 (hs.hasRd (enc:=intC) (sz:=1) (fun _=>rfl) (by omega) h0) (hs.hasRd (enc:=intC) (sz:=1) (fun _=>rfl) (by omega) h1)).mono ?_
 rintro e w' ⟨x,c,y,s,rfl,⟨hV,hR,hct⟩,hc,hst,hb⟩
 obtain⟨q1,⟨d1,d2⟩,⟨o1,o2⟩,q8,q4⟩:=hs.addWorld hb hc hst none
 refine⟨.tuple #[cfgV (woC nx) ⟨x.cz,x.cc,x.ct,x.cv,x.cr,x.co⟩ c,stV (woS nx) ⟨y.ct,y.cc⟩ s],_,_,woPl ρ nx x c y s none,?_,hK _ c ⟨y.ct,y.cc⟩ s hV hR hct,q1,?_,q4⟩
 ·have e1:∀ v z:Value,den (woPl ρ nx x c y s none) (.tuple #[v,z])=.tuple #[den2 (woPl ρ nx x c y s none) v,den2 (woPl ρ nx x c y s none) z]:=fun v z=>by simp[den]
  rw[e1]
  have d1':den2 (woPl ρ nx x c y s none) (cfgV (woC nx) ⟨x.cz,x.cc,x.ct,x.cv,x.cr,x.co⟩ c)=.agg (cfgC x c):=d1
  have d2':den2 (woPl ρ nx x c y s none) (stV (woS nx) ⟨y.ct,y.cc⟩ s)=.agg (stC y s):=d2
  rw[d1',d2']
 ·intro u hu
  simp at hu
  rcases hu with rfl | rfl
  ·exact o1
  ·exact o2⟩
theorem tsInfo:(Tryz.prog.info? 63).map (fun i=>(i.zero,i.size,i.bytes))=some (some (.agg #[.bool false,.bool false,.int .i64 0,.int .i64 0,.int .i64 0,.int .i64 0,.int .i64 0,.int .i64 0,.int .i64 0,.int .i64 0,.int .i64 0,.int .i64 0]),12,88):=by kernel_rfl
theorem csInfo:(Tryz.prog.info? 51).map (fun i=>(i.zero,i.size,i.bytes))=some (some (.agg #[.int .i64 0,.int .i64 0,.int .i64 0,.int .i64 0]),4,32):=by kernel_rfl
theorem tsNil (n cp:Nat) (w:World):Sem.run Tryz.prog (binOp BinOp.eql 31 (.slice none n cp) (.slice none 0 0)) w=.ok (.bool true) w:=by kernel_rfl
theorem tsSome (ad:Addr) (n cp:Nat) (w:World):Sem.run Tryz.prog (binOp BinOp.eql 31 (.slice (some ad) n cp) (.slice none 0 0)) w=.ok (.bool false) w:=by kernel_rfl
theorem csNil (n cp:Nat) (w:World):Sem.run Tryz.prog (binOp BinOp.eql 32 (.slice none n cp) (.slice none 0 0)) w=.ok (.bool true) w:=by kernel_rfl
theorem csSome (ad:Addr) (n cp:Nat) (w:World):Sem.run Tryz.prog (binOp BinOp.eql 32 (.slice (some ad) n cp) (.slice none 0 0)) w=.ok (.bool false) w:=by kernel_rfl
def RowPost (T:TypeId) (size:Nat) (w:World) (n:Nat) (xs:List Value) (e:Ending) (w':World):Prop:=
 ∃ (A:Option Addr) (cp:Nat),e=.returned (.slice A n cp)∧w'.ownsRow w.heap.size T size (.slice A n cp) n xs∧Below w.heap.size w w'
set_option maxHeartbeats 2000000 in
set_option maxRecDepth 100000 in
theorem cloneTs_any (A:Option Addr) (cp:Nat) (l:List TS) (w:World) (hl:l.length≤100) (hr:Rd w (·<w.heap.size) A (flat tsC l)) :
  Calls Tryz.prog 91 #[.slice A l.length cp] w (RowPost 63 12 w l.length (flat tsC l)):=by
 obtain⟨ii,hii,hi0,hi1,hi2⟩:=info_parts tsInfo
 have hlen:=flat_length (enc:=tsC) (sz:=12) (fun _=>rfl) l
 cases A with
 | none=>
  have h0:l=[]:=by
   cases l with
   | nil=>rfl
   | cons a r=>
    obtain⟨b,o,hA,_⟩:=hr (by simp[flat,tsC])
    cases hA
  subst h0
  go_enter Tryz.func91,Tryz.ntmps91
  have hq:=tsNil 0 cp w
  go_wp2
  go_ret
  exact⟨none,0,rfl,World.ownsRow_nil _ _ _ _,Below.refl _ _⟩
 | some ad=>
  have hq:=tsSome ad l.length cp w
  have h0:=World.ownsRow_lit (base:=w.heap.size) (e:=63) (size:=12) w #[] 0 (Nat.le_refl _) (by unfold maxLen;omega) rfl
  have hb0:=(Below.refl w.heap.size w).alloc (Nat.le_refl _) (.cells #[] 63)
  have h1:=(hr.alloc (.cells #[] 63))
  have hone:∀ u ∈ flat tsC l,u.oneCell'=true:=by
   intro u hu
   obtain⟨a,_,ha⟩:=List.mem_flatMap.1 (show u ∈ l.flatMap tsC from hu)
   simp only[tsC,List.mem_cons,List.not_mem_nil,or_false] at ha
   rcases ha with rfl | rfl | rfl | rfl | rfl | rfl | rfl | rfl | rfl | rfl | rfl | rfl<;>rfl
  go_enter Tryz.func91,Tryz.ntmps91
  go_wp2_with (at_builtin;refine wpList_append_rd _ rfl _ _ _ rfl w.heap.size 63 ii _ 12 88 Tryz.underlying31 hii hi0 hi1 hi2 rfl (by omega) _ 0 [] rfl h0 _ (some ad) l.length cp (flat tsC l) rfl hlen h1 hone ?c1 ?c2 ?c3 ?_)
  case c1=>unfold maxLen;omega
  case c2=>omega
  intro v' w2 hown hg hat
  (try rw[Nat.zero_add] at hown);(try rw[List.nil_append] at hown)
  obtain⟨A',cp',rfl⟩:=own_form hown
  have HO:=Lib.hid hown
  have HB:=Lib.hid (hb0.grown hg (by simp) (fun k hk=>by injection hk with hk;rw[← hk];exact Nat.le_refl _))
  clear hown hg hat h0 hb0 hq
  go_wp2
  go_ret
  exact⟨A',cp',rfl,HO.out,HB.out⟩
set_option maxHeartbeats 2000000 in
set_option maxRecDepth 100000 in
theorem cloneCs_any (A:Option Addr) (cp:Nat) (l:List CS) (w:World) (hl:l.length≤100) (hr:Rd w (·<w.heap.size) A (flat csC l)) :
  Calls Tryz.prog 92 #[.slice A l.length cp] w (RowPost 51 4 w l.length (flat csC l)):=by
 obtain⟨ii,hii,hi0,hi1,hi2⟩:=info_parts csInfo
 have hlen:=flat_length (enc:=csC) (sz:=4) (fun _=>rfl) l
 cases A with
 | none=>
  have h0:l=[]:=by
   cases l with
   | nil=>rfl
   | cons a r=>
    obtain⟨b,o,hA,_⟩:=hr (by simp[flat,csC])
    cases hA
  subst h0
  go_enter Tryz.func92,Tryz.ntmps92
  have hq:=csNil 0 cp w
  go_wp2
  go_ret
  exact⟨none,0,rfl,World.ownsRow_nil _ _ _ _,Below.refl _ _⟩
 | some ad=>
  have hq:=csSome ad l.length cp w
  have h0:=World.ownsRow_lit (base:=w.heap.size) (e:=51) (size:=4) w #[] 0 (Nat.le_refl _) (by unfold maxLen;omega) rfl
  have hb0:=(Below.refl w.heap.size w).alloc (Nat.le_refl _) (.cells #[] 51)
  have h1:=(hr.alloc (.cells #[] 51))
  have hone:∀ u ∈ flat csC l,u.oneCell'=true:=by
   intro u hu
   obtain⟨a,_,ha⟩:=List.mem_flatMap.1 (show u ∈ l.flatMap csC from hu)
   simp only[csC,List.mem_cons,List.not_mem_nil,or_false] at ha
   rcases ha with rfl | rfl | rfl | rfl<;>rfl
  go_enter Tryz.func92,Tryz.ntmps92
  go_wp2_with (at_builtin;refine wpList_append_rd _ rfl _ _ _ rfl w.heap.size 51 ii _ 4 32 Tryz.underlying32 hii hi0 hi1 hi2 rfl (by omega) _ 0 [] rfl h0 _ (some ad) l.length cp (flat csC l) rfl hlen h1 hone ?c1 ?c2 ?c3 ?_)
  case c1=>unfold maxLen;omega
  case c2=>omega
  intro v' w2 hown hg hat
  (try rw[Nat.zero_add] at hown);(try rw[List.nil_append] at hown)
  obtain⟨A',cp',rfl⟩:=own_form hown
  have HO:=Lib.hid hown
  have HB:=Lib.hid (hb0.grown hg (by simp) (fun k hk=>by injection hk with hk;rw[← hk];exact Nat.le_refl _))
  clear hown hg hat h0 hb0 hq
  go_wp2
  go_ret
  exact⟨A',cp',rfl,HO.out,HB.out⟩
theorem Blk.setCellsFar2 {w:World} {g b:Nat} {t:TypeId} {cs:Array Value} (h:Blk w g t cs) (hb:g≠b) (o:Nat) (vs:List Value):Blk (w.setCells b o vs) g t cs:=(setCells_far vs o g hb).trans h
theorem below_setCells2 {B:Nat} {w wx:World} (h:Below B w wx) {b:Nat} (hb:B≤b):∀ (vs:List Value) (o:Nat),Below B w (wx.setCells b o vs):=by
 intro vs
 induction vs generalizing wx with
 | nil=>intro o;exact h
 | cons v r ih=>intro o;rw[World.setCells];exact ih (h.setCell (p:=⟨b,o,none⟩) hb v) _
theorem putL_get:∀ (vs:List Value) (cs:Array Value) (o j:Nat),(putL cs o vs)[j]?=if o≤j∧j<o+vs.length∧j<cs.size then vs[j-o]? else cs[j]?
 | [],cs,o,j=>by simp only[putL,List.length_nil];rw[if_neg (by omega)]
 | v::r,cs,o,j=>by
  rw[putL,putL_get r,Array.size_setIfInBounds]
  by_cases h1:j=o
  ·subst h1
   rw[if_neg (by omega),Array.getElem?_setIfInBounds]
   by_cases h2:j<cs.size
   ·simp[h2]
   ·simp[h2,Array.getElem?_eq_none (Nat.le_of_not_lt h2)]
  ·by_cases h2:o+1≤j∧j<o+1+r.length∧j<cs.size
   ·rw[if_pos h2,if_pos (by simp only[List.length_cons];omega)]
    have:j-o=(j-(o+1))+1:=by omega
    rw[this,List.getElem?_cons_succ]
   ·rw[if_neg h2,if_neg (by simp only[List.length_cons];omega),Array.getElem?_setIfInBounds,if_neg (by omega)]
theorem putL_full {ZA FA:Array Value} (h:ZA.size=FA.size):putL ZA 0 FA.toList=FA:=by
 apply Array.ext_getElem?
 intro j
 rw[putL_get]
 by_cases hj:j<FA.size
 ·rw[if_pos ⟨Nat.zero_le _,by simpa using hj,by omega⟩]
  simp
 ·rw[if_neg (by omega),Array.getElem?_eq_none (by omega),Array.getElem?_eq_none (by omega)]
theorem upd_same (d:Nat→Bool) (i:Nat):upd d i i=true:=if_pos rfl
theorem upd_other (d:Nat→Bool) {i j:Nat} (h:j≠i):upd d i j=d j:=if_neg h
structure TwoJ (W:World) (Ta Tb:TypeId) (ZA FA ZB:Array Value) (ia ib is:Nat) (d:Nat→Bool) (va vb:Value) (ga gb:Nat) (wx:World):Prop where
 below:Below W.heap.size W wx
 a:d ia=true→va=.pointer (some ⟨ga,0,none⟩)∧Blk wx ga Ta (if d is=true then FA else ZA)∧W.heap.size≤ga
 b:d ib=true→vb=.pointer (some ⟨gb,0,none⟩)∧Blk wx gb Tb ZB∧W.heap.size≤gb
 ne:d ia=true→d ib=true→ga≠gb
 st:d is=true→d ia=true
section
variable {W wx:World} {Ta Tb:TypeId} {ZA FA ZB:Array Value} {ia ib is:Nat} {d:Nat→Bool} {va vb:Value} {ga gb:Nat}
theorem TwoJ.later (h:TwoJ W Ta Tb ZA FA ZB ia ib is d va vb ga gb wx) {wy:World} (hb:Below wx.heap.size wx wy):TwoJ W Ta Tb ZA FA ZB ia ib is d va vb ga gb wy:=
 ⟨h.below.trans (hb.mono h.below.size),fun q=>⟨(h.a q).1,(h.a q).2.1.below hb (h.a q).2.1.lt,(h.a q).2.2⟩,fun q=>⟨(h.b q).1,(h.b q).2.1.below hb (h.b q).2.1.lt,(h.b q).2.2⟩,h.ne,h.st⟩
theorem TwoJ.other (h:TwoJ W Ta Tb ZA FA ZB ia ib is d va vb ga gb wx) {i:Nat} (h1:ia≠i) (h2:ib≠i) (h3:is≠i):TwoJ W Ta Tb ZA FA ZB ia ib is (upd d i) va vb ga gb wx:=by
 obtain⟨q1,q2,q3,q4,q5⟩:=h
 refine⟨q1,?_,?_,?_,?_⟩<;>simp only[upd_other d h1,upd_other d h2,upd_other d h3]<;>assumption
theorem TwoJ.start (hb:Below W.heap.size W wx) (h1:d ia=false) (h2:d ib=false) (h3:d is=false):TwoJ W Ta Tb ZA FA ZB ia ib is d va vb ga gb wx:=
 ⟨hb,fun q=>(by rw[h1] at q;cases q),fun q=>(by rw[h2] at q;cases q),fun q=>(by rw[h1] at q;cases q),fun q=>(by rw[h3] at q;cases q)⟩
theorem TwoJ.allocA (h:TwoJ W Ta Tb ZA FA ZB ia ib is d va vb ga gb wx) (h0:d ia=false) (h1:ib≠ia) (h2:is≠ia):TwoJ W Ta Tb ZA FA ZB ia ib is (upd d ia) (.pointer (some ⟨wx.heap.size,0,none⟩)) vb wx.heap.size gb (wx.alloc (.cells ZA Ta)):=by
 have h2':=h.later ((Below.refl wx.heap.size wx).alloc (Nat.le_refl _) (.cells ZA Ta))
 have hs:d is=false:=Bool.eq_false_iff.2 fun q=>by rw[h.st q] at h0;cases h0
 refine⟨h2'.below,?_,?_,?_,?_⟩<;>simp only[upd_same,upd_other d h1,upd_other d h2]
 ·intro _
  rw[hs]
  exact⟨trivial,Blk.new _ _ _,h.below.size⟩
 ·exact h2'.b
 ·intro _ q
  have:=(h.b q).2.1.lt
  omega
 ·intro _;trivial
theorem TwoJ.allocB (h:TwoJ W Ta Tb ZA FA ZB ia ib is d va vb ga gb wx) (h1:ia≠ib) (h2:is≠ib):TwoJ W Ta Tb ZA FA ZB ia ib is (upd d ib) va (.pointer (some ⟨wx.heap.size,0,none⟩)) ga wx.heap.size (wx.alloc (.cells ZB Tb)):=by
 have h2':=h.later ((Below.refl wx.heap.size wx).alloc (Nat.le_refl _) (.cells ZB Tb))
 refine⟨h2'.below,?_,?_,?_,?_⟩<;>simp only[upd_same,upd_other d h1,upd_other d h2]
 ·exact h2'.a
 ·intro _
  exact⟨trivial,Blk.new _ _ _,h.below.size⟩
 ·intro q _
  have:=(h.a q).2.1.lt
  omega
 ·exact h.st
theorem TwoJ.storeA (h:TwoJ W Ta Tb ZA FA ZB ia ib is d va vb ga gb wx) (h1:d ia=true) (h1b:d ib=true) (h2:ia≠is) (h3:ib≠is) (hp:putL ZA 0 FA.toList=FA) (hp2:putL FA 0 FA.toList=FA):TwoJ W Ta Tb ZA FA ZB ia ib is (upd d is) va vb ga gb (wx.setCells ga 0 FA.toList):=by
 have ha:=h.a h1
 refine⟨below_setCells2 h.below ha.2.2 _ _,?_,?_,?_,?_⟩<;>simp only[upd_same,upd_other d h2,upd_other d h3]
 ·intro _
  refine⟨ha.1,?_,ha.2.2⟩
  have:=ha.2.1.setCells FA.toList 0
  have e:putL (if d is=true then FA else ZA) 0 FA.toList=FA:=by split<;>assumption
  rw[e] at this
  exact this
 ·exact fun q=>⟨(h.b q).1,(h.b q).2.1.setCellsFar2 (Ne.symm (h.ne h1 h1b)) _ _,(h.b q).2.2⟩
 ·exact h.ne
 ·exact fun _=>h1
structure TwoC (W:World) (Ta Tb:TypeId) (FA FB:Array Value) (ga gb:Nat) (wx:World):Prop where
 a:Blk wx ga Ta FA
 b:Blk wx gb Tb FB
 below:Below W.heap.size W wx
theorem TwoJ.done1 {FB:Array Value} (h:TwoJ W Ta Tb ZA FA ZB ia ib is d va vb ga gb wx) (h1:d ia=true) (h2:d ib=true) (hs:d is=true) (hp2:putL ZB 0 FB.toList=FB) :
  TwoC W Ta Tb FA FB ga gb (wx.setCells gb 0 FB.toList):=by
 have ha:=h.a h1
 have hb:=h.b h2
 rw[if_pos hs] at ha
 have q2:=hb.2.1.setCells FB.toList 0
 rw[hp2] at q2
 exact⟨ha.2.1.setCellsFar2 (h.ne h1 h2) _ _,q2,below_setCells2 h.below hb.2.2 _ _⟩
end
def RowAt (cs:Array Value) (off:Nat) (l:List Value):Prop:=∀ (j:Nat) (v:Value),l[j]?=some v→cs[off+j]?=some v
theorem RowAt.fits {cs:Array Value} {off:Nat} {l:List Value} (h:RowAt cs off l) (hl:0<l.length):off+l.length≤cs.size:=by
 have h1:l[l.length-1]?=some l[l.length-1]:=List.getElem?_eq_getElem (by omega)
 have h2:=h _ _ h1
 have:=(Array.getElem?_eq_some_iff.1 h2).1
 omega
theorem putL_same {cs:Array Value} {off:Nat} {l:List Value} (h:RowAt cs off l):putL cs off l=cs:=by
 apply Array.ext_getElem?
 intro j
 rw[putL_get]
 by_cases hj:off≤j∧j<off+l.length∧j<cs.size
 ·rw[if_pos hj]
  have h1:l[j-off]?=some l[j-off]:=List.getElem?_eq_getElem (by omega)
  have h2:=h _ _ h1
  rw[h1,← h2]
  congr 1
  omega
 ·rw[if_neg hj]
theorem putL_set {cs:Array Value} {off:Nat} {l:List Value} (hf:off+l.length≤cs.size) {j:Nat} (hj:j<l.length) (v:Value):(putL cs off l).setIfInBounds (off+j) v=putL cs off (l.set j v):=by
 apply Array.ext_getElem?
 intro i
 rw[Array.getElem?_setIfInBounds,putL_get,putL_get,putL_size,List.length_set]
 by_cases hi:off+j=i
 ·subst hi
  rw[if_pos rfl,if_pos (show off+j<cs.size by omega),if_pos (by omega)]
  have:off+j-off=j:=by omega
  rw[this]
  simp[hj]
 ·rw[if_neg hi]
  by_cases hc:off≤i∧i<off+l.length∧i<cs.size
  ·rw[if_pos hc,if_pos hc,List.getElem?_set_ne (by omega)]
  ·rw[if_neg hc,if_neg hc]
theorem putL_row {cs:Array Value} {off:Nat} {l:List Value} (hf:off+l.length≤cs.size):RowAt (putL cs off l) off l:=by
 intro j v hv
 have hj:=(List.getElem?_eq_some_iff.1 hv).1
 rw[putL_get,if_pos (by omega),show off+j-off=j by omega]
 exact hv
structure InRow (w:World) (g:Nat) (T:TypeId) (cs:Array Value) (off:Nat) (l:List Value) (wx:World):Prop where
 blk:Blk wx g T (putL cs off l)
 fits:off+l.length≤cs.size
 grown:w.grownBy wx (some g)
theorem InRow.start {w:World} {g:Nat} {T:TypeId} {cs:Array Value} {off:Nat} {l:List Value} (hb:Blk w g T cs) (hr:RowAt cs off l) (hl:0<l.length):InRow w g T cs off l w:=
 ⟨by rw[putL_same hr];exact hb,hr.fits hl,grown_refl _ _⟩
section
variable {w wx:World} {g:Nat} {T:TypeId} {cs:Array Value} {off:Nat} {l:List Value}
theorem InRow.set (h:InRow w g T cs off l wx) {j:Nat} (hj:j<l.length) (v:Value):InRow w g T cs off (l.set j v) (wx.setCell ⟨g,off+j,none⟩ v):=
 ⟨by rw[← putL_set h.fits hj];exact h.blk.set_ _ _,by rw[List.length_set];exact h.fits,grown_set h.grown _ _⟩
theorem InRow.alloc (h:InRow w g T cs off l wx) (o:Obj):InRow w g T cs off l (wx.alloc o):=⟨h.blk.alloc o,h.fits,grown_alloc h.grown o⟩
theorem InRow.drew (h:InRow w g T cs off l wx):InRow w g T cs off l wx.drew:=⟨h.blk,h.fits,grown_drewN h.grown 1⟩
theorem InRow.cell (h:InRow w g T cs off l wx) {j:Nat} {v:Value} (hv:l[j]?=some v):wx.cell? ⟨g,off+j,none⟩=some v:=h.blk.cell' (putL_row h.fits j v hv)
theorem InRow.frozen (h:InRow w g T cs off l wx) (i:Nat):wx.frozen? ⟨g,i,none⟩=false:=h.blk.frozen i
end
theorem own_blk {w:World} {base:Nat} {T:TypeId} {size:Nat} {A:Option Addr} {cp n:Nat} {xs:List Value} (h:w.ownsRow base T size (.slice A n cp) n xs) (hn:0<n) :
  ∃ g cur,A=some ⟨g,0,none⟩∧base≤g∧Blk w g T cur∧cur.toList.take (n * size)=xs∧cur.size=cp * size∧n≤cp∧cp≤maxLen:=by
 rcases h.2 with⟨h1,h2⟩ | ⟨g,cap,cur,hv,hb,hh,h1,h2,h3,h4⟩
 ·omega
 ·injection hv with hv1 hv2 hv3
  subst hv3
  exact⟨g,cur,hv1,hb,hh,h4,h3,h1,h2⟩
theorem own_row {α:Type} {enc:α→List Value} {size:Nat} (hs:∀ x,(enc x).length=size) {l:List α} {cur:Array Value} {k:Nat} {t:α} (hk:l[k]?=some t) (ht:cur.toList.take (l.length * size)=flat enc l):RowAt cur (k * size) (enc t):=by
 intro j v hv
 have h1:=flat_get hs l k t hk j v hv
 rw[← ht] at h1
 have hlt:k * size+j<(cur.toList.take (l.length * size)).length:=(List.getElem?_eq_some_iff.1 h1).1
 rw[List.length_take] at hlt
 rw[List.getElem?_take_of_lt (by omega)] at h1
 simpa using h1
/-! slices.Clone: rows of the callee's own. -/
theorem own_ownL {α:Type} {enc:α→List Value} {sz:Nat} (hs:∀ x,(enc x).length=sz) (hpos:0<sz) (d:α) {w:World} {base:Nat} {T:TypeId} {A:Option Addr} {cp:Nat} {l:List α} (h:w.ownsRow base T sz (.slice A l.length cp) l.length (flat enc l)):∃ b,OwnL base w A sz enc d l b:=by
 by_cases h0:l=[]
 ·subst h0
  exact⟨0,fun h=>absurd rfl h,fun k hk=>absurd hk (by simp)⟩
 ·obtain⟨g,cur,hA,hb,hblk,htk,hsz,hn,hm⟩:=own_blk h (List.length_pos_iff.2 h0)
  refine⟨g,fun _=>⟨hA,hb,_,_,hblk⟩,fun k hk j v hv=>?_⟩
  have hk2:l[k]?=some (l.getD k d):=by rw[List.getD_eq_getElem?_getD,List.getElem?_eq_getElem hk];rfl
  exact hblk.cell' (own_row hs hk2 htk j v hv)
theorem Sat.addOwnRow {C:Ctx} {ρ:Nat→Pl} {fr:AF} {mem:AM} {nx:Nat} {a:Act} {w w':World} (h0:Sat C ρ fr mem nx a w) (hb:Below w.heap.size w w') {α:Type} {enc:α→List Value} {sz:Nat} (hs:∀ x,(enc x).length=sz) (hpl:∀ x,∀ v ∈ enc x,plain1 v) {d:α} {A:Option Addr} {l:List α} {b:Nat} (t:TypeId) (hc:OwnL w.heap.size w' A sz enc d l b) :
  Sat C (setPl ρ nx ⟨A,sz,l.length,false⟩) fr ((nx,.row (1000000+t) sz l.length (fun k=>enc (l.getD k d)))::mem) (nx+1) a w':=by
 refine (h0.later hb).addOwn (p:=⟨A,sz,l.length,false⟩) rfl (hc.blk (t:=1000000+t) h0.rest.size hs hpl (setPl_same _ _ _)) ?_
 by_cases hz:l=[]
 ·exact .inl (by rw[hz];rfl)
 ·obtain⟨hA,hle,-⟩:=hc.at_ hz
  refine .inr fun i b hi=>?_
  have hok:=h0.blk i b hi
  cases b with
  | box t cs=>
   obtain⟨g,e1,e2⟩:=hok.lt
   refine .inr ?_
   rw[e1,hA]
   simp
   omega
  | row t sz n el=>
   rcases hok.2.2 with rfl | ⟨b,off,hA2,hat,-⟩
   ·exact .inl ⟨_,_,_,rfl⟩
   ·refine .inr ?_
    have:=hat.lt
    simp[bno,hA,hA2]
    omega
def ctCloneT:CT:=fun vs mem nx K=>∃ r cap l,vs=[slc r (l:List TS).length cap]∧HasRow mem r 12 tsC default l∧l.length≤100∧∀ cap2,K (slc nx l.length cap2) ((nx,tsO l)::mem) (nx+1)
theorem cloneTOk:CSound Tryz.prog 91 ctCloneT:=⟨by kernel_rfl,fun {C ρ fr mem nx a w vs K} hc hs hv=>by
 obtain⟨r,cap,l,rfl,hr,hl,hK⟩:=hc
 refine (cloneTs_any (ρ r).A cap l w hl (hs.hasRd (enc:=tsC) (sz:=12) (fun _=>rfl) (by omega) hr)).mono ?_
 rintro e w' ⟨A,cp,rfl,ho,hb⟩
 obtain⟨b,hL⟩:=own_ownL (enc:=tsC) (fun _=>rfl) (by omega) default ho
 have q2:setPl ρ nx ⟨A,12,l.length,false⟩ nx=⟨A,12,l.length,false⟩:=setPl_same _ _ _
 have q3:=hs.addOwnRow (enc:=tsC) (sz:=12) (d:=default) hb (fun _=>rfl) tsC_plain 63 hL
 refine⟨slc nx l.length cp,_,_,setPl ρ nx ⟨A,12,l.length,false⟩,?_,hK cp,q3,?_,fun i hi=>setPl_lt _ _ hi,by omega⟩
 ·show Ending.returned (.slice A l.length cp)=.returned (.slice (setPl ρ nx ⟨A,12,l.length,false⟩ nx).A l.length cp)
  rw[q2]
 ·exact⟨show nx<nx+1 by omega,by rw[q2]⟩⟩
def ctCloneC:CT:=fun vs mem nx K=>∃ r cap l,vs=[slc r (l:List CS).length cap]∧HasRow mem r 4 csC default l∧l.length≤100∧∀ cap2,K (slc nx l.length cap2) ((nx,csO l)::mem) (nx+1)
theorem cloneCOk:CSound Tryz.prog 92 ctCloneC:=⟨by kernel_rfl,fun {C ρ fr mem nx a w vs K} hc hs hv=>by
 obtain⟨r,cap,l,rfl,hr,hl,hK⟩:=hc
 refine (cloneCs_any (ρ r).A cap l w hl (hs.hasRd (enc:=csC) (sz:=4) (fun _=>rfl) (by omega) hr)).mono ?_
 rintro e w' ⟨A,cp,rfl,ho,hb⟩
 obtain⟨b,hL⟩:=own_ownL (enc:=csC) (fun _=>rfl) (by omega) default ho
 have q2:setPl ρ nx ⟨A,4,l.length,false⟩ nx=⟨A,4,l.length,false⟩:=setPl_same _ _ _
 have q3:=hs.addOwnRow (enc:=csC) (sz:=4) (d:=default) hb (fun _=>rfl) csC_plain 51 hL
 refine⟨slc nx l.length cp,_,_,setPl ρ nx ⟨A,4,l.length,false⟩,?_,hK cp,q3,?_,fun i hi=>setPl_lt _ _ hi,by omega⟩
 ·show Ending.returned (.slice A l.length cp)=.returned (.slice (setPl ρ nx ⟨A,4,l.length,false⟩ nx).A l.length cp)
  rw[q2]
 ·exact⟨show nx<nx+1 by omega,by rw[q2]⟩⟩
end Go.Proofs.YtnnpgbleacapfaaGreat
