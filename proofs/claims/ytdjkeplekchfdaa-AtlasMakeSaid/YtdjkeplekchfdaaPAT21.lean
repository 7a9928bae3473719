import Derived.Test.YtdjkeplekchfdaaPa20
namespace Go.Proofs.Ytdjkeplekchfdaa
open Go.RowKit
set_option linter.unusedSimpArgs false
set_option linter.unusedVariables false
/-! law15.AtlasMake -/
theorem atlIn_st {c:Cfg} {s:St} (hV:CfgV c) (hI:StInv c s) (par:Int):AtlIn (atl0 s par):=by
 have h1:=hI.tick
 have h2:=hI.count
 have h3:=hI.lt
 have h4:=hV.nt
 have h5:=hV.nc
 refine⟨by unfold in64;show -9223372036854775808≤s.count∧s.count<_;omega,by unfold in64;show -9223372036854775808≤s.tick∧s.tick<_;omega,by show (routesOf s).length≤1000;rw[routes_len];omega,fun x hx=>?_⟩
 obtain⟨t,ht,rfl⟩:=List.mem_map.1 (show x ∈ s.tenants.map routeT from hx)
 have hT:=hI.ten t ht
 have h6:=hT.home
 have h7:=hT.epoch
 unfold routeT in64
 refine⟨?_,by dsimp only;omega⟩
 dsimp only
 split<;>omega
def amF:FT:=[(13,ctLight),(19,ctInl ttA [] [] Try.f19 (bodyOf Try.f19)),(20,ctAwake15),(16,ctConfig),(21,ctState),(23,ctMakeP),(24,ctMakeR),(22,ctSameA)]
def amD:List (Nat×DQ):=[(9000000,{ k:=0,L:=[19] }),(5,{ k:=11,L:=[13,21,24],pre:=[(0,true),(1,false),(2,false),(3,false),(4,false),(5,false),(7,false),(8,false),(9,false),(10,false),(6,true)] })]
theorem amFok:FTokI Try.prog amF (inlOf amD):=fti_cons (lightOk.i _) (fti_cons (inl_ok ttAok fti_nil mixed (by kernel_rfl) Try.func19 rfl (by kernel_rfl) (by decide)) (fti_cons (awake15Ok.i _) (fti_cons (configOk.i _) (fti_cons (stateOk.i _) (fti_cons (makePOk.i _) (fti_cons (makeROk.i _) (fti_cons (sameAOk.i _) fti_nil)))))))
set_option maxRecDepth 100000 in
set_option maxHeartbeats 4000000 in
theorem amake_sx (cap0 cap1:Nat) (l more:List Int) (pn pt ps psum:Int) (pl pc:Nat) (key:Int) (hm0:l.length≤maxLen) (hm1:more.length≤maxLen) :
  sx ttA amF amD (bodyOf Try.f4) (argF 0 [slc 0 l.length cap0,slc 1 more.length cap1,.agg #[.int .i64 pn,.int .i64 pt,slc 2 pl pc,.int .u64 ps,.int .u64 psum],.int .i64 key]) (uniM { l0:=l,l1:=more }) 13 (endx ttA Try.f4.results.toList fun v _ _=>v=.bool true):=by
 refine⟨0,cap0,l,rfl,rfl,hm0,?_⟩
 refine⟨fun h=>?_,fun h0=>?_⟩
 ·repeat (first | refine⟨fun _=>?_,fun h=>Bool.noConfusion h⟩ | refine⟨fun h=>Bool.noConfusion h,fun _=>?_⟩ | fail)
  exact⟨rfl,rfl⟩
 ·refine⟨1,cap1,more,rfl,rfl,hm1,?_⟩
  refine⟨fun h=>?_,fun h1=>?_⟩
  ·repeat (first | refine⟨fun _=>?_,fun h=>Bool.noConfusion h⟩ | refine⟨fun h=>Bool.noConfusion h,fun _=>?_⟩ | fail)
   exact⟨rfl,rfl⟩
  ·refine⟨fun h=>?_,fun h2=>?_⟩
   ·exact⟨rfl,rfl⟩
   ·have hl0:l.length≤200:=by simpa using h0
    have hl1:more.length≤200:=by simpa using h1
    clear h0 h1 h2 hm0 hm1
    refine⟨0,cap0,l,rfl,rfl,by omega,?_⟩
    intro xk c hM
    have hV:=cfgV_of hM.valid
    have hnt:=hV.nt
    have hnc:=hV.nc
    refine⟨⟨20,19,18,17,16,15,500000⟩,xk,c,1,cap1,more,40,rfl,⟨kp_,⟨_,_,_,rfl,Nat.le_refl _,fun k hk=>rfl⟩⟩,⟨hV,by omega,by decide⟩,?_⟩
    intro es s y hR hen
    have hJ:=hR.rinv hV (.new hV)
    have hI:=hJ.inv
    have htn:=hI.lt
    have hrl:=routes_len s
    refine⟨rfl,?_⟩
    refine⟨kp_,?_⟩
    repeat (first | refine⟨fun _=>?_,fun h=>Bool.noConfusion h⟩ | refine⟨fun h=>Bool.noConfusion h,fun _=>?_⟩ | fail)
    refine⟨⟨20,19,18,17,16,15,500000⟩,xk,c,⟨23,22,500000⟩,y,s,pn,pt,_,ps,psum,key,rfl,⟨HasCfg.keeps kp_,.list rfl,.list rfl⟩,.inr ⟨_,_,_,rfl⟩,atlIn_st hV hI psum,fun cp1=>?_⟩
    refine⟨kp_,?_⟩
    refine⟨⟨20,19,18,17,16,15,500000⟩,xk,c,⟨23,22,500000⟩,y,s,pn,pt,_,ps,psum,key,rfl,⟨HasCfg.keeps kp_,.list rfl,.list rfl⟩,.inr ⟨_,_,_,rfl⟩,atlIn_st hV hI psum,fun cp2=>?_⟩
    refine⟨makeA s psum key,_,_,rfl,⟨.inr ⟨25,_,rfl,.list rfl⟩,.inr ⟨26,_,rfl,.list rfl⟩⟩,(by show (routesOf s).length≤1000000;omega),?_⟩
    rfl
theorem atlasMake_law (a0:Option Addr) (cap0:Nat) (z0:List Int) (a1:Option Addr) (cap1:Nat) (z1:List Int) (z:(Int×Int×Int×Int)×Option Addr×Nat×Nat) (key:Int) (W:World) (hr0:Rd W (·<W.heap.size) a0 (z0.map (Value.int .i64))) (hm0:z0.length≤maxLen) (hr1:Rd W (·<W.heap.size) a1 (z1.map (Value.int .i64))) (hm1:z1.length≤maxLen) {Q Q2:Prop} (_hq:Q) (_hq2:Q2) :
  Calls Try.prog 4 #[.slice a0 z0.length cap0,.slice a1 z1.length cap1,.agg #[.int .i64 z.1.1,.int .i64 z.1.2.1,.slice z.2.1 z.2.2.1 z.2.2.2,.int .u64 z.1.2.2.1,.int .u64 z.1.2.2.2],.int .i64 key] W fun e w'=>e=.returned (.bool true)∧Below W.heap.size W w':=by
 rw[← flat_ints] at hr0 hr1
 have h:=uni_calls ttAok amFok Try.func4 rfl (D:=amD) (by kernel_rfl) (vs:=[slc 0 z0.length cap0,slc 1 z1.length cap1,.agg #[.int .i64 z.1.1,.int .i64 z.1.2.1,slc 2 z.2.2.1 z.2.2.2,.int .u64 z.1.2.2.1,.int .u64 z.1.2.2.2],.int .i64 key]) rfl { a0:=a0,a1:=a1,x:={ noX with az:=z.2.1 } } { l0:=z0,l1:=z1 } W { r0:=hr0,r1:=hr1,c:={ noC_ok W (·<W.heap.size) with zones:=fun h=>absurd rfl h } } (fun v hv=>by
  simp only[List.mem_cons,List.not_mem_nil,or_false] at hv
  rcases hv with rfl | rfl | rfl | rfl
  ·exact⟨show (0:Nat)<13 by decide,rfl⟩
  ·exact⟨show (1:Nat)<13 by decide,rfl⟩
  ·intro u hu
   simp at hu
   rcases hu with rfl | rfl | rfl | rfl | rfl<;>first | trivial | exact⟨by decide,rfl⟩
  ·trivial) (amake_sx cap0 cap1 z0 z1 z.1.1 z.1.2.1 z.1.2.2.1 z.1.2.2.2 z.2.2.1 z.2.2.2 key hm0 hm1)
 have e0:den (upl { a0:=a0,a1:=a1,x:={ noX with az:=z.2.1 } } { l0:=z0,l1:=z1 }) (.agg #[.int .i64 z.1.1,.int .i64 z.1.2.1,slc 2 z.2.2.1 z.2.2.2,.int .u64 z.1.2.2.1,.int .u64 z.1.2.2.2])=.agg #[.int .i64 z.1.1,.int .i64 z.1.2.1,.slice z.2.1 z.2.2.1 z.2.2.2,.int .u64 z.1.2.2.1,.int .u64 z.1.2.2.2]:=by simp[den,den2,den1,dA_whole,upl]
 rw[List.map_cons,List.map_cons,List.map_cons,e0] at h
 refine h.mono ?_
 rintro e w' ⟨v,mem',nx',ρ',rfl,rfl,hv,hm',hb⟩
 exact⟨rfl,hb⟩
end Go.Proofs.Ytdjkeplekchfdaa
