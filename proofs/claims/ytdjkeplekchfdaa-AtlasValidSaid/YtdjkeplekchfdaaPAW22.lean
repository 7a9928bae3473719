import Derived.Test.YtdjkeplekchfdaaPv21
namespace Go.Proofs.Ytdjkeplekchfdaa
open Go.RowKit
set_option linter.unusedSimpArgs false
set_option linter.unusedVariables false
/-! law15.AtlasMake -/
theorem atlIn_st {c:Cfg} {s:St} (hV:CfgV c) (hI:StInv c s) (par:Int):AtlIn (atl0 s par):=by
 have h1:=hI.tick
 have h2:=hI.count
 have h3:=hI.lt
 have h4:=hV.nt
 have h5:=hV.nc
 refine⟨by unfold in64;show -9223372036854775808≤s.count∧s.count<_;omega,by unfold in64;show -9223372036854775808≤s.tick∧s.tick<_;omega,by show (routesOf s).length≤1000;rw[routes_len];omega,fun x hx=>?_⟩
 obtain⟨t,ht,rfl⟩:=List.mem_map.1 (show x ∈ s.tenants.map routeT from hx)
 have hT:=hI.ten t ht
 have h6:=hT.home
 have h7:=hT.epoch
 unfold routeT in64
 refine⟨?_,by dsimp only;omega⟩
 dsimp only
 split<;>omega
/-! law15.AtlasValid -/
abbrev mdF:FT:=[(16,ctConfig),(31,ctMod),(21,ctState),(24,ctMakeR)]
abbrev mdD:List (Nat×DQ):=[(2,{ k:=11,L:=[0,1,2,3,4,5,6,7,8,9,10,11,12,13,14,15,16,17,18,19,20,21,22,23,24,25,26,27,28,29,30,31,32,33,34,35,36,37,38,39,40,41,42,43,44,45,46,47,48,49,50],pre:=[(0,false),(1,false),(2,false),(3,false),(4,false),(7,false),(8,false),(9,false),(5,true),(6,true),(10,true)] })]
abbrev ctMade:CT:=ctInl ttA mdF mdD Try.f25 (bodyOf Try.f25)
theorem madeOk {I:List Nat} (hI:I.contains 25=true):CSoundI Try.prog I 25 ctMade:=inl_ok ttAok (fti_cons (configOk.i _) (fti_cons (modOk.i _) (fti_cons (stateOk.i _) (fti_cons (makeROk.i _) fti_nil)))) mixed (by kernel_rfl) Try.func25 rfl (by kernel_rfl) hI
theorem err_zero:cfgErr ⟨0,[],[],[],[],[],[],0,0,0⟩≠0:=by decide +kernel
theorem in64_emod {b m:Int} (h:0<m∧m≤1000) (o:Int) (ho:-2≤o∧o≤2):in64 (o+b % m):=by
 have h1:=Int.emod_nonneg b (show m≠0 by omega)
 have h2:=Int.emod_lt_of_pos b h.1
 unfold in64
 omega
theorem bent_in {a:Atl} {which by_:Int} (h:AtlIn a) (hb:in64 by_) (hl:a.routes.length≤999):AtlIn (bentA a which by_):=by
 have h1:=h.n
 have h2:=h.t
 have h3:=h.r
 unfold bentA
 split
 ·exact⟨hb,h2,h.len,h3⟩
 ·split
  ·exact⟨h1,hb,h.len,h3⟩
  ·split
   ·exact⟨h1,h2,h.len,h3⟩
   ·split
    ·exact⟨h1,h2,h.len,h3⟩
    ·split
     ·refine⟨h1,h2,by simp;omega,fun x hx=>?_⟩
      rcases List.mem_append.1 hx with hx | hx
      ·exact h3 x hx
      ·obtain rfl:x=(-1,0):=by simpa using hx
       exact⟨in0.2.2,in0.1⟩
     ·split
      ·exact h
      ·refine⟨h1,h2,by simpa using h.len,fun x hx=>?_⟩
       rcases List.mem_or_eq_of_mem_set hx with hx | rfl
       ·exact h3 x hx
       ·exact⟨in64_emod (by omega) (-2) (by omega),in64_emod (by omega) (-1) (by omega)⟩
theorem make_in {c:Cfg} {s:St} (hV:CfgV c) (hI:StInv c s) (par key:Int):AtlIn (makeA s par key):=⟨(atlIn_st hV hI par).n,(atlIn_st hV hI par).t,(atlIn_st hV hI par).len,(atlIn_st hV hI par).r⟩
theorem make_valid {c:Cfg} {s:St} (hE:cfgErr c=0) (hV:CfgV c) (hI:StInv c s) (par key:Int):ValidA c (makeA s par key) key:=by
 have h1:=hI.tick
 have h2:=hI.count
 have h3:=hI.lt
 refine⟨hE,by show (routesOf s).length=_;rw[routes_len,h3],?_,?_,fun k hk=>?_,?_⟩
 ·show 0≤s.count∧s.count≤4096;omega
 ·show 0≤s.tick∧s.tick≤1073741824;omega
 ·have hk':k<s.tenants.length:=by rw[← routes_len];exact hk
  show RouteOk c ((routesOf s).getD k (0,0))
  rw[routes_get hk']
  have hT:=hI.ten (s.tenants.getD k default) (by rw[List.getD_eq_getElem?_getD,List.getElem?_eq_getElem hk'];exact List.getElem_mem _)
  have h6:=hT.home
  have h7:=hT.epoch
  unfold RouteOk routeT
  dsimp only
  split<;>omega
 ·show (makeA s par key).sum=_
  rw[sum_make,body_make,par_make]
theorem MadeCfg.lens {c:Cfg} (h:MadeCfg c):Lens c:=by
 have h1:=h.zones
 have h2:=h.cells
 have h3:=h.tenants
 have h4:=h.versions
 have h5:=h.replicas
 have h6:=h.observers
 unfold Lens maxLen
 omega
abbrev zCfg:Cfg:=⟨0,[],[],[],[],[],[],0,0,0⟩
theorem zLens:Lens zCfg:=by
 unfold Lens maxLen
 simp
theorem zSrc {mem:AM}:CfgSrc mem (.agg #[.int .i64 0,zs0,zs0,zs0,zs0,zs0,zs0,.int .i64 0,.int .i64 0,.int .i64 0]) zCfg:=⟨_,_,_,_,_,_,rfl,⟨.inl ⟨rfl,rfl⟩,.inl ⟨rfl,rfl⟩,.inl ⟨rfl,rfl⟩⟩,.inl ⟨rfl,rfl⟩,.inl ⟨rfl,rfl⟩,.inl ⟨rfl,rfl⟩⟩
abbrev avL (ra a b:Atl) (key:Int):List Atl:=[ra,a,b,signA b key,signA ra key]
def avF:FT:=[(13,ctLight),(19,ctInl ttA [] [] Try.f19 (bodyOf Try.f19)),(20,ctAwake15),(25,ctMade),(26,ctBent),(27,ctSigned),(28,ctValidGP),(29,ctValidGR)]
def avD:List (Nat×DQ):=[(9000000,{ k:=0,L:=[19,25] }),(5,{ k:=9,L:=[0,1,2,3,4,5,6,7,8,9,10,11,12,13,14,15,16,17,18,19,20,21,22,23,24,25,26,27,28,29,30,31,32,33,34,35,36,37,38,39,40,41,42,43,44,45,46,47,48,49,50,51,52,53,54,55,56,57,58,59,60],pre:=[(0,false),(1,false),(2,false),(3,false),(4,false),(6,false),(7,false),(5,true),(8,true)] }),(9,{ k:=13,L:=[0,1,2,3,4,5,6,7,8,9,10,11,12,13,14,15,16,17,18,19,20,21,22,23,24,25,26,27,28,29,30,31,32,33,34,35,36,37,38,39,40,41,42,43,44,45,46,47,48,49,50,51,52,53,54,55,56,57,58,59,60],pre:=[(0,false),(1,false),(2,false),(3,false),(4,false),(5,false),(7,false),(8,false),(9,false),(10,false),(11,false),(12,false),(6,true)] }),(2000007,{ k:=0,L:=[0,1,2,3,4,5,6,7,8,9,10,11,12,13,14,15,16,17,18,19,20,21,22,23,24,25,26,27,28,29,30,31,32,33,34,35,36,37,38,39,40,41,42,43,44,45,46,47,48,49,50,51,52,53,54,55,56,57,58,59,60],sl:=[3,13,14,15,16] })]
theorem avFok:FTokI Try.prog avF (inlOf avD):=fti_cons (lightOk.i _) (fti_cons (inl_ok ttAok fti_nil mixed (by kernel_rfl) Try.func19 rfl (by kernel_rfl) (by decide)) (fti_cons (awake15Ok.i _) (fti_cons (madeOk (by decide)) (fti_cons (bentOk.i _) (fti_cons (signedOk.i _) (fti_cons (validGPOk.i _) (fti_cons (validGROk.i _) fti_nil)))))))
set_option maxRecDepth 100000 in
set_option maxHeartbeats 4000000 in
theorem avalid_sx (cap0 cap1 cap2:Nat) (l more:List Int) (ra:Atl) (key which by_:Int) (hm0:l.length≤maxLen) (hm1:more.length≤maxLen) (hin:in64 ra.number∧in64 ra.tick) (hrt:∀ e ∈ ra.routes,in64 e.1∧in64 e.2) (hby:in64 by_) :
  sx ttL avF avD (bodyOf Try.f5) (argF 0 [slc 0 l.length cap0,slc 1 more.length cap1,atlV ra (slc 3 ra.routes.length cap2),.int .i64 key,.int .i64 which,.int .i64 by_]) (uniM { l0:=l,l1:=more,c:={ noC with cells:=ra.routes } }) 13 (endx ttL Try.f5.results.toList fun v _ _=>v=.bool true):=by
 refine⟨0,cap0,l,rfl,rfl,hm0,?_⟩
 refine⟨fun h=>?_,fun h0=>?_⟩
 ·repeat (first | refine⟨fun _=>?_,fun h=>Bool.noConfusion h⟩ | refine⟨fun h=>Bool.noConfusion h,fun _=>?_⟩ | fail)
  exact⟨rfl,rfl⟩
 ·refine⟨1,cap1,more,rfl,rfl,hm1,?_⟩
  refine⟨fun h=>?_,fun h1=>?_⟩
  ·repeat (first | refine⟨fun _=>?_,fun h=>Bool.noConfusion h⟩ | refine⟨fun h=>Bool.noConfusion h,fun _=>?_⟩ | fail)
   exact⟨rfl,rfl⟩
  ·refine⟨fun h=>?_,fun h2=>?_⟩
   ·exact⟨rfl,rfl⟩
   ·have hl0:l.length≤200:=by simpa using h0
    have hl1:more.length≤200:=by simpa using h1
    have hfew:ra.routes.length≤40:=by have:=of_decide_eq_true (by simpa using h2:decide ((ra.routes.length:Int)≤40)=true);omega
    clear h0 h1 h2 hm0 hm1
    refine⟨0,cap0,l,rfl,rfl,by omega,?_⟩
    intro xk c hM
    have hV:=cfgV_of hM.valid
    have hnt:=hV.nt
    have hnc:=hV.nc
    refine⟨_,40,rfl,by decide,?_⟩
    refine⟨kp_,?_⟩
    refine⟨⟨22,21,20,19,18,17,500000⟩,xk,c,1,cap1,more,40 % 40,rfl,⟨kp_,⟨_,_,_,rfl,Nat.le_refl _,fun k hk=>rfl⟩⟩,⟨hV,by omega,by decide⟩,?_⟩
    intro es s y hR hen
    have hJ:=hR.rinv hV (.new hV)
    have hI:=hJ.inv
    have htn:=hI.lt
    have hrl:=routes_len s
    refine⟨kp_,?_⟩
    refine⟨⟨22,21,20,19,18,17,500000⟩,xk,c,⟨25,24,500000⟩,y,s,0,0,zs0,0,3,key,rfl,⟨HasCfg.keeps kp_,.list rfl,.list rfl⟩,.inl rfl,atlIn_st hV hI 3,fun cp1=>?_⟩
    refine⟨kp_,?_⟩
    refine⟨makeA s 3 key,_,which,by_,rfl,.inr (.inl ⟨26,_,rfl,.list rfl⟩),by show (routesOf s).length≤1000;omega,fun cp2=>?_⟩
    have hA:=make_in hV hI 3 key
    have hB:=bent_in (which:=which) hA hby (by show (routesOf s).length≤999;omega)
    have hR0:AtlIn ra:=⟨hin.1,hin.2,by omega,hrt⟩
    refine⟨bentA (makeA s 3 key) which by_,_,key,rfl,.inr (.inl ⟨29,_,rfl,.list rfl⟩),hB,?_⟩
    refine⟨kp_,?_⟩
    refine⟨ra,_,key,rfl,.inr (.inl ⟨3,_,rfl,.list rfl⟩),hR0,?_⟩
    refine⟨kp_,?_⟩
    refine⟨atlEl (avL ra (makeA s 3 key) (bentA (makeA s 3 key) which by_) key) [cap2,cp1,cp2,cp2,cap2],famA (avL ra (makeA s 3 key) (bentA (makeA s 3 key) which by_) key),⟨fun k hk=>?_,fun k hk o=>famA_out hk o⟩,?_⟩
    ·match k,hk with
     | 0,_=>exact⟨rfl,fun o=>famA_list _ o rfl⟩
     | 1,_=>exact⟨rfl,fun o=>famA_list _ o rfl⟩
     | 2,_=>exact⟨rfl,fun o=>famA_list _ o rfl⟩
     | 3,_=>exact⟨rfl,fun o=>famA_list _ o rfl⟩
     | 4,_=>exact⟨rfl,fun o=>famA_list _ o rfl⟩
    have hval:=make_valid hM.valid hV hI 3 key
    have hxs:(avL ra (makeA s 3 key) (bentA (makeA s 3 key) which by_) key).length=5:=rfl
    refine⟨Int,fun i=>[(17,.int .i64 i)],fun _=>[],fun i=>0≤i∧i≤5,fun i=>(5-i).toNat,⟨0,by omega,kp_,kp_⟩,?_⟩
    rintro i hi
    refine⟨⟨rfl,rfl⟩,?_⟩
    refine⟨fun hlt=>?_,fun hge=>?_⟩
    ·have hlt2:i<5:=of_decide_eq_true hlt
     refine⟨⟨by show (5:Nat)≤_;omega,hi.1,hlt2⟩,?_⟩
     refine⟨⟨by show (5:Nat)≤_;omega,hi.1,hlt2⟩,?_⟩
     refine⟨_,c,(avL ra (makeA s 3 key) (bentA (makeA s 3 key) which by_) key).getD i.toNat aZ,_,key,rfl,⟨.has (HasCfg.keeps kp_),.fam rfl⟩,hM.lens,fun b1 hb1=>?_⟩
     refine⟨kp_,?_⟩
     refine⟨_,c,(avL ra (makeA s 3 key) (bentA (makeA s 3 key) which by_) key).getD i.toNat aZ,_,key,rfl,⟨.has (HasCfg.keeps kp_),.fam rfl⟩,hM.lens,fun b2 hb2=>?_⟩
     obtain rfl:b1=b2:=Bool.eq_iff_iff.2 (hb1.trans hb2.symm)
     refine⟨fun q=>absurd q (by simp),fun _=>?_⟩
     refine⟨_,?_,kp_,kp_⟩
     rw[wrapi (n:=i+1) (by omega)]
     dsimp only
     exact⟨by omega,by omega⟩
    ·refine⟨rfl,?_⟩
     repeat (first | refine⟨fun _=>?_,fun h=>Bool.noConfusion h⟩ | refine⟨fun h=>Bool.noConfusion h,fun _=>?_⟩ | fail)
     refine⟨_,c,makeA s 3 key,_,key,rfl,⟨.has (HasCfg.keeps kp_),.inr (.inl ⟨26,_,rfl,.list rfl⟩)⟩,hM.lens,fun b1 hb1=>?_⟩
     obtain rfl:b1=true:=hb1.2 hval
     repeat (first | refine⟨fun _=>?_,fun h=>Bool.noConfusion h⟩ | refine⟨fun h=>Bool.noConfusion h,fun _=>?_⟩ | fail)
     refine⟨_,zCfg,makeA s 3 key,_,key,rfl,⟨zSrc,.inr (.inl ⟨26,_,rfl,.list rfl⟩)⟩,zLens,fun b2 hb2=>?_⟩
     obtain rfl:b2=false:=Bool.eq_false_iff.2 fun q=>err_zero (hb2.1 q).cfg
     rfl
theorem in64_wf {z:Int} (h:(Lit.int .i64 z).wf=true):in64 z:=by
 unfold in64
 simp[Lit.wf,IntKind.min,IntKind.max,IntKind.bits,IntKind.signed] at h
 omega
theorem atlasValid_law (a0:Option Addr) (cap0:Nat) (z0:List Int) (a1:Option Addr) (cap1:Nat) (z1:List Int) (z:(Int×Int×Int×Int)×Option Addr×List (Int×Int)×Nat) (key which by_:Int) (W:World) (hr0:Rd W (·<W.heap.size) a0 (z0.map (Value.int .i64))) (hm0:z0.length≤maxLen) (hr1:Rd W (·<W.heap.size) a1 (z1.map (Value.int .i64))) (hm1:z1.length≤maxLen) (hz:(in64 z.1.1∧in64 z.1.2.1)∧z.2.2.1.length≤maxLen∧(∀ e ∈ z.2.2.1,in64 e.1∧in64 e.2)∧Rd W (·<W.heap.size) z.2.1 (flat pairC z.2.2.1)) {Q Q2:Prop} (_hq:Q) (_hq2:Q2) (hby:(Lit.int .i64 by_).wf=true) :
  Calls Try.prog 5 #[.slice a0 z0.length cap0,.slice a1 z1.length cap1,.agg #[.int .i64 z.1.1,.int .i64 z.1.2.1,.slice z.2.1 z.2.2.1.length z.2.2.2,.int .u64 z.1.2.2.1,.int .u64 z.1.2.2.2],.int .i64 key,.int .i64 which,.int .i64 by_] W fun e w'=>e=.returned (.bool true)∧Below W.heap.size W w':=by
 obtain⟨⟨pn,pt,ps,psum⟩,A,raw,cap⟩:=z
 rw[← flat_ints] at hr0 hr1
 obtain⟨hin,-,hrt,hr⟩:=hz
 dsimp only at hin hrt hr ⊢
 have h:=uni_calls ttLok avFok Try.func5 rfl (D:=avD) (by kernel_rfl) (vs:=[slc 0 z0.length cap0,slc 1 z1.length cap1,atlV ⟨pn,pt,raw,ps,psum⟩ (slc 3 raw.length cap),.int .i64 key,.int .i64 which,.int .i64 by_]) rfl { a0:=a0,a1:=a1,x:={ noX with ac:=A } } { l0:=z0,l1:=z1,c:={ noC with cells:=raw } } W { r0:=hr0,r1:=hr1,c:={ noC_ok W (·<W.heap.size) with cells:=hr } } (fun v hv=>by
  simp only[List.mem_cons,List.not_mem_nil,or_false] at hv
  rcases hv with rfl | rfl | rfl | rfl | rfl | rfl
  ·exact⟨show (0:Nat)<13 by decide,rfl⟩
  ·exact⟨show (1:Nat)<13 by decide,rfl⟩
  ·intro u hu
   simp at hu
   rcases hu with rfl | rfl | rfl | rfl | rfl<;>first | trivial | exact⟨by decide,rfl⟩
  ·trivial
  ·trivial
  ·trivial) (avalid_sx cap0 cap1 cap z0 z1 ⟨pn,pt,raw,ps,psum⟩ key which by_ hm0 hm1 hin hrt (in64_wf hby))
 have e0:den (upl { a0:=a0,a1:=a1,x:={ noX with ac:=A } } { l0:=z0,l1:=z1,c:={ noC with cells:=raw } }) (atlV ⟨pn,pt,raw,ps,psum⟩ (slc 3 raw.length cap))=.agg #[.int .i64 pn,.int .i64 pt,.slice A raw.length cap,.int .u64 ps,.int .u64 psum]:=by simp[den,den2,den1,dA_whole,dS_whole,upl]
 rw[List.map_cons,List.map_cons,List.map_cons,e0] at h
 refine h.mono ?_
 rintro e w' ⟨v,mem',nx',ρ',rfl,rfl,hv,hm',hb⟩
 exact⟨rfl,hb⟩
end Go.Proofs.Ytdjkeplekchfdaa
