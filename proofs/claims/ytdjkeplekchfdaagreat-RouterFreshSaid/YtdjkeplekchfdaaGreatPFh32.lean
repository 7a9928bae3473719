import Derived.Test.YtdjkeplekchfdaaGreatPy30
namespace Go.Proofs.YtdjkeplekchfdaaGreat
open Go.RowKit
set_option linter.unusedSimpArgs false
set_option linter.unusedVariables false
/-! law16.RouterFresh -/
theorem Run.win {c:Cfg} (hV:CfgV c) {s s':St} {es:List Ent} (h:Run c s es s') (hs:StInv c s) (hp:PlsInv c s) (hw:WinInv s):WinInv s':=by
 induction h with
 | nil s=>exact hw
 | cons he _ ih=>
  obtain⟨hr,hx,-⟩:=applyP_ok he
  exact ih (by rw[hx];exact hs.step hV hr) (pl_step hV hs hp he) (win_step hV hs hp hw he)
abbrev tkFF:FT:=[(28,ctValidGP),(63,ctCkRoute),(64,ctDelE)]
abbrev tkDF:List (Nat×DQ):=[(1,{ k:=9,L:=[0,1,2,3,4,5,6,7,8,9,10,11,12,13,14,15,16,17,18,19,20,21,22,23,24,25,26,27,28,29,30,31,32,33,34,35,36,37,38,39,40,41,42,43,44,45,46,47,48,49,50,51,52,53,54,55,56,57,58,59,60],pre:=[(0,false),(1,false),(2,false),(3,false),(4,false),(5,false),(6,false),(7,false),(8,false)] }),(3,{ k:=12,L:=[0,1,2,3,4,5,6,7,8,9,10,11,12,13,14,15,16,17,18,19,20,21,22,23,24,25,26,27,28,29,30,31,32,33,34,35,36,37,38,39,40,41,42,43,44,45,46,47,48,49,50,51,52,53,54,55,56,57,58,59,60],pre:=[(0,false),(1,false),(2,false),(3,false),(4,false),(5,false),(6,false),(7,false),(8,false),(9,false),(10,false),(11,false)] }),(6,{ k:=6,L:=[0,1,2,3,4,5,6,7,8,9,10,11,12,13,14,15,16,17,18,19,20,21,22,23,24,25,26,27,28,29,30,31,33,34,35,36,37,38,39,40,41,42,43,44,45,46,47,48,49,50,51,52,53,54,55,56,57,58,59,60],pre:=[(0,false),(1,false),(2,false),(3,false),(4,false),(5,true)] })]
theorem tkFokF:FTokI Tryz.prog tkFF (inlOf tkDF):=fti_cons (validGPOk.i _) (fti_cons (ckRouteOk.i _) (fti_cons (delEOk.i _) fti_nil))
abbrev ctTkF:CT:=ctInl ttR tkFF tkDF Tryz.f26 (bodyOf Tryz.f26)
theorem tkFOk {I:List Nat} (hI:I.contains 26=true):CSoundI Tryz.prog I 26 ctTkF:=inl_ok ttRok (tkFokF) mixed (by kernel_rfl) Tryz.func26 rfl (by kernel_rfl) hI
def fhF:FT:=[(6,ctLight),(23,ctAwake16),(17,ctConfig),(20,ctLog),(24,ctFold),(25,ctRN),(19,ctMakeGP),(26,ctTkF),(27,ctRt)]
def fhD:List (Nat×DQ):=[(9000000,{ k:=0,L:=[25,26,27] }),(4,{ k:=12,L:=[0,1,2,3,4,5,6,7,8,9,10,11,12,13,14,15,16,17,18,19,20,21,22,23,24,25,26,27,28,29,30,31,32,33,34,35,36,37,38,39,40,41,42,43,44,45,46,47,48,49,50,51,52,53,54,55,56,57,58,59,60],A:=[9],pre:=[(0,false),(1,false),(2,false),(3,true),(4,true),(5,false),(6,false),(7,false),(8,false)],post:=[(10,true),(11,false)] }),(1000010,{ k:=36,L:=[0,1,2,3,4,5,6,7,8,9,10,11,12],sl:=[] }),(2000011,{ k:=0,L:=[0,1,2,3,4,5,6,7,8,9,10,11,12,13,14,15,16,17,18,19,20,21,22,23,24,25,26,27,28,29,30,31,32,33,34,35,36,37,38,39,40,41,42,43,44,45,46,47,48,49,50,51,52,53,54,55,56,57,58,59,60],sl:=[8,11] })]
theorem fhFok:FTokI Tryz.prog fhF (inlOf fhD):=fti_cons (lightOk.i _) (fti_cons (awake16Ok.i _) (fti_cons (configOk.i _) (fti_cons (logOk.i _) (fti_cons (foldOk.i _) (fti_cons (rnOk (by decide)) (fti_cons (makeGPOk.i _) (fti_cons (tkFOk (by decide)) (fti_cons (rtOk (by decide)) fti_nil))))))))
set_option maxRecDepth 100000 in
set_option maxHeartbeats 8000000 in
theorem fresh_sx (cap0 cap1:Nat) (l more:List Int) (key:Int) (hm0:l.length≤maxLen) (hm1:more.length≤maxLen) :
  sx ttR fhF fhD (bodyOf Tryz.f5) (argF 0 [slc 0 l.length cap0,slc 1 more.length cap1,.int .i64 key]) (uniM { l0:=l,l1:=more }) 13 (endx ttR Tryz.f5.results.toList fun v _ _=>v=.bool true):=by
 refine⟨0,cap0,l,rfl,rfl,hm0,?_⟩
 refine⟨fun h=>?_,fun h0=>?_⟩
 ·repeat (first | refine⟨fun _=>?_,fun h=>Bool.noConfusion h⟩ | refine⟨fun h=>Bool.noConfusion h,fun _=>?_⟩ | fail)
  exact⟨rfl,rfl⟩
 ·refine⟨1,cap1,more,rfl,rfl,hm1,?_⟩
  refine⟨fun h=>?_,fun h1=>?_⟩
  ·repeat (first | refine⟨fun _=>?_,fun h=>Bool.noConfusion h⟩ | refine⟨fun h=>Bool.noConfusion h,fun _=>?_⟩ | fail)
   exact⟨rfl,rfl⟩
  ·have hl0:l.length≤200:=by simpa using h0
   have hl1:more.length≤200:=by simpa using h1
   clear h0 h1 hm0 hm1
   refine⟨0,cap0,l,rfl,rfl,by omega,?_⟩
   intro xk c hM
   have hV:=cfgV_of hM.valid
   have hnt:=hV.nt
   have hnc:=hV.nc
   have hm1:=hM.zones
   have hm2:=hM.cells
   have hm3:=hM.tenants
   have hm4:=hM.versions
   have hm5:=hM.replicas
   have hm6:=hM.observers
   refine⟨⟨18,17,16,15,14,13,500000⟩,xk,c,1,cap1,more,40,rfl,⟨kp_,⟨_,_,_,rfl,Nat.le_refl _,fun k hk=>rfl⟩⟩,⟨hV,by omega,by decide⟩,?_⟩
   intro es s cap2 hR hen hcp
   have hJ:=hR.rinv hV (.new hV)
   have hI:=hJ.inv
   have hW:=hR.win hV (stNew_inv hV) (pl_new c) (win_new c)
   have htn:=hI.lt
   have hrl:=routes_len s
   refine⟨kp_,?_⟩
   refine⟨⟨18,17,16,15,14,13,500000⟩,xk,c,21,cap2,es,rfl,kp_,⟨_,_,_,rfl,Nat.le_refl _,fun k hk=>rfl⟩,hV,by omega,?_⟩
   intro y
   rw[hR.foldC]
   refine⟨kp_,?_⟩
   refine⟨kp_,?_⟩
   refine⟨_,c,rfl,.has (N:=⟨18,17,16,15,14,13,500000⟩) (x:=xk) (HasCfg.keeps kp_),hM.lens,?_⟩
   refine⟨fun q=>absurd q (by rw[hM.valid];decide),fun _=>?_⟩
   refine⟨_,c.zones,rfl,.inr (.inl ⟨18,_,rfl,.list rfl⟩),by omega,fun k_zones=>?_⟩
   refine⟨_,c.cells,rfl,.inr (.inl ⟨17,_,rfl,.list rfl⟩),by omega,fun k_cells=>?_⟩
   refine⟨_,c.tenants,rfl,.inr (.inl ⟨16,_,rfl,.list rfl⟩),by omega,fun k_tenants=>?_⟩
   refine⟨_,c.versions,rfl,.inr (.inl ⟨15,_,rfl,.list rfl⟩),by omega,fun k_versions=>?_⟩
   refine⟨_,c.replicas,rfl,.inr (.inl ⟨14,_,rfl,.list rfl⟩),by omega,fun k_replicas=>?_⟩
   refine⟨_,c.observers,rfl,.inr (.inl ⟨13,_,rfl,.list rfl⟩),by omega,fun k_observers=>?_⟩
   repeat (first | refine⟨fun _=>?_,fun h=>Bool.noConfusion h⟩ | refine⟨fun h=>Bool.noConfusion h,fun _=>?_⟩ | fail)
   refine⟨fun q=>absurd q (by simp[htn]),fun _=>?_⟩
   refine⟨Nat,fun _=>[(8,ptr 20),(11,ptr 32)],fun k1=>[(20,.box 52 [.int .i64 s.tick,.int .i64 s.count,slc 23 s.tenants.length y.ct,slc 22 s.cells.length y.cc,.int .i64 s.proven,.int .i64 s.evac,.int .i64 s.low,.int .i64 s.high]),(32,.box 119 [.int .i64 c.regions,slc 25 c.zones.length k_zones,slc 26 c.cells.length k_cells,slc 27 c.tenants.length k_tenants,slc 28 c.versions.length k_versions,slc 29 c.replicas.length k_replicas,slc 30 c.observers.length k_observers,.int .i64 c.blast,.int .i64 c.lease,.int .i64 c.bake,.int .i64 key,.bool true,.int .i64 (makeA s 0 key).number,.int .i64 (makeA s 0 key).tick,slc 35 (routesOf s).length k1,.int .u64 (makeA s 0 key).parent,.int .u64 (makeA s 0 key).sum,.map (some 31)]),(23,rowOfL 500000 12 tsC default s.tenants),(35,rowOfL 500000 2 pairC (0,0) (routesOf s)),(25,rowOfL 500000 1 intC 0 c.zones),(26,rowOfL 500000 2 pairC (0,0) c.cells),(27,rowOfL 500000 7 tenC default c.tenants),(28,rowOfL 500000 2 pairC (0,0) c.versions),(29,rowOfL 500000 1 intC 0 c.replicas),(30,rowOfL 500000 1 intC 0 c.observers),(31,.ext (.map .i64 true fun _=>none))],fun _=>True,?_,?_⟩
   ·refine⟨⟨18,17,16,15,14,13,500000⟩,xk,c,⟨23,22,500000⟩,y,s,0,0,zs0,0,0,key,rfl,⟨HasCfg.keeps kp_,.list rfl,.list rfl⟩,⟨_,_,_,rfl⟩,atlIn_st hV hI 0,fun cp1=>?_⟩
    refine⟨_,c,makeA s 0 key,_,key,rfl,⟨⟨_,_,_,_,_,_,rfl,⟨.inr (.inl ⟨25,_,rfl,.list rfl⟩),.inr (.inl ⟨26,_,rfl,.list rfl⟩),.inr (.inl ⟨27,_,rfl,.list rfl⟩)⟩,.inr (.inl ⟨28,_,rfl,.list rfl⟩),.inr (.inl ⟨29,_,rfl,.list rfl⟩),.inr (.inl ⟨30,_,rfl,.list rfl⟩)⟩,.inr (.inl ⟨33,_,rfl,.list rfl⟩)⟩,hM.lens,fun b1 hb1=>?_⟩
    obtain rfl:b1=true:=hb1.2 (make_valid hM.valid hV hI 0 key)
    repeat (first | refine⟨fun _=>?_,fun h=>Bool.noConfusion h⟩ | refine⟨fun h=>Bool.noConfusion h,fun _=>?_⟩ | fail)
    refine⟨_,routesOf s,rfl,.inr (.inl ⟨33,_,rfl,.list rfl⟩),by rw[hrl,htn];omega,fun k1=>?_⟩
    refine⟨kp_,?_⟩
    refine⟨31,_,_,_,_,rfl,rfl,fun z=>rfl,?_⟩
    repeat (first | refine⟨fun _=>?_,fun h=>Bool.noConfusion h⟩ | refine⟨fun h=>Bool.noConfusion h,fun _=>?_⟩ | fail)
    exact⟨k1,trivial,kp_,kp_⟩
   rintro k1 -
   refine⟨⟨by decide,rfl,rfl⟩,?_⟩
   refine⟨Int,fun i=>[(13,.int .i64 i)],fun _=>[],fun i=>0≤i∧i≤s.tenants.length,fun i=>((s.tenants.length:Int)-i).toNat,⟨0,by omega,kp_,kp_⟩,?_⟩
   rintro i hi
   refine⟨⟨rfl,rfl⟩,?_⟩
   refine⟨fun hlt=>?_,fun hge=>?_⟩
   ·have hlt2:i<(s.tenants.length:Int):=of_decide_eq_true hlt
    have hin:i.toNat<s.tenants.length:=by omega
    have hmem:(s.tenants.getD i.toNat default) ∈ s.tenants:=by rw[List.getD_eq_getElem?_getD,List.getElem?_eq_getElem hin];exact List.getElem_mem _
    have hT:=hI.ten _ hmem
    have hWt:=hW _ hmem
    have hg:((routesOf s).getD i.toNat (0,0))=routeT (s.tenants.getD i.toNat default):=routes_get hin
    refine⟨⟨Nat.le_refl _,hi.1,hlt2⟩,?_⟩
    refine⟨(fun l h=>nomatch h),fun _=>?_⟩
    repeat (first | refine⟨fun _=>?_,fun h=>Bool.noConfusion h⟩ | refine⟨fun h=>Bool.noConfusion h,fun _=>?_⟩ | fail)
    refine⟨fun q=>absurd (of_decide_eq_true q) (by omega),fun _=>?_⟩
    refine⟨fun q=>absurd (of_decide_eq_true q) (by omega),fun _=>?_⟩
    refine⟨⟨Nat.le_refl _,hi.1,by omega⟩,?_⟩
    refine⟨fun hc=>?_,fun hc=>?_⟩
    ·have hc1:((routesOf s).getD i.toNat (0,0)).1=-1:=by simpa using hc
     have na:¬ ((s.tenants.getD i.toNat default).placed=true∧(s.tenants.getD i.toNat default).shed=false):=by
      intro q
      rw[hg] at hc1
      have h2:(routeT (s.tenants.getD i.toNat default)).1=(s.tenants.getD i.toNat default).home:=if_pos q
      have:=hT.placed q.1
      omega
     have nw:¬ (s.tenants.getD i.toNat default).win.till>s.tick:=by
      rcases hWt with h | h
      ·omega
      ·exact absurd ⟨h.1,h.2.1⟩ na
     refine⟨fun hp=>?_,fun hp=>?_⟩
     ·have hs1:(s.tenants.getD i.toNat default).shed=true:=by
       cases h:(s.tenants.getD i.toNat default).shed
       ·exact absurd ⟨hp,h⟩ na
       ·rfl
      refine⟨fun q=>absurd q (by rw[hs1];decide),fun _=>?_⟩
      repeat (first | refine⟨fun _=>?_,fun h=>Bool.noConfusion h⟩ | refine⟨fun h=>Bool.noConfusion h,fun _=>?_⟩ | fail)
      refine⟨fun q=>absurd (of_decide_eq_true q) nw,fun _=>?_⟩
      repeat (first | refine⟨fun _=>?_,fun h=>Bool.noConfusion h⟩ | refine⟨fun h=>Bool.noConfusion h,fun _=>?_⟩ | fail)
      refine⟨_,?_,kp_,kp_⟩
      rw[wrapi (n:=i+1) (by omega)]
      dsimp only
      exact⟨by omega,by omega⟩
     ·repeat (first | refine⟨fun _=>?_,fun h=>Bool.noConfusion h⟩ | refine⟨fun h=>Bool.noConfusion h,fun _=>?_⟩ | fail)
      refine⟨fun q=>absurd (of_decide_eq_true q) nw,fun _=>?_⟩
      repeat (first | refine⟨fun _=>?_,fun h=>Bool.noConfusion h⟩ | refine⟨fun h=>Bool.noConfusion h,fun _=>?_⟩ | fail)
      refine⟨_,?_,kp_,kp_⟩
      rw[wrapi (n:=i+1) (by omega)]
      dsimp only
      exact⟨by omega,by omega⟩
    ·have hc1:¬ ((routesOf s).getD i.toNat (0,0)).1=-1:=by simpa using hc
     have ya:(s.tenants.getD i.toNat default).placed=true∧(s.tenants.getD i.toNat default).shed=false:=by
      by_cases q:(s.tenants.getD i.toNat default).placed=true∧(s.tenants.getD i.toNat default).shed=false
      ·exact q
      ·rw[hg] at hc1
       exact absurd (if_neg q:(routeT (s.tenants.getD i.toNat default)).1=-1) hc1
     have hcell:((routesOf s).getD i.toNat (0,0)).1=(s.tenants.getD i.toNat default).home:=by rw[hg];exact if_pos ya
     have hep:((routesOf s).getD i.toNat (0,0)).2=(s.tenants.getD i.toNat default).epoch:=by rw[hg];rfl
     obtain⟨ya1,ya2⟩:=ya
     refine⟨⟨Nat.le_refl _,hi.1,by omega⟩,?_⟩
     refine⟨fun _=>?_,fun q=>absurd q (by rw[ya1];decide)⟩
     refine⟨fun q=>absurd q (by rw[ya2];decide),fun _=>?_⟩
     repeat (first | refine⟨fun _=>?_,fun h=>Bool.noConfusion h⟩ | refine⟨fun h=>Bool.noConfusion h,fun _=>?_⟩ | fail)
     refine⟨fun q=>absurd q (by rw[hcell];simp),fun _=>?_⟩
     refine⟨fun q=>absurd q (by rw[hep];simp),fun _=>?_⟩
     refine⟨fun hw=>?_,fun hw=>?_⟩
     ·have hw2:(s.tenants.getD i.toNat default).win.till>s.tick:=of_decide_eq_true hw
      obtain⟨-,-,e1,e2,-⟩:=hWt.resolve_left (by omega)
      repeat (first | refine⟨fun _=>?_,fun h=>Bool.noConfusion h⟩ | refine⟨fun h=>Bool.noConfusion h,fun _=>?_⟩ | fail)
      refine⟨fun q=>absurd q (by rw[hcell,e1];simp),fun _=>?_⟩
      refine⟨fun q=>absurd q (by rw[hep,e2];simp),fun _=>?_⟩
      refine⟨_,?_,kp_,kp_⟩
      rw[wrapi (n:=i+1) (by omega)]
      dsimp only
      exact⟨by omega,by omega⟩
     ·repeat (first | refine⟨fun _=>?_,fun h=>Bool.noConfusion h⟩ | refine⟨fun h=>Bool.noConfusion h,fun _=>?_⟩ | fail)
      refine⟨_,?_,kp_,kp_⟩
      rw[wrapi (n:=i+1) (by omega)]
      dsimp only
      exact⟨by omega,by omega⟩
   ·exact⟨rfl,rfl⟩
theorem routerFresh_law (a0:Option Addr) (cap0:Nat) (z0:List Int) (a1:Option Addr) (cap1:Nat) (z1:List Int) (key:Int) (W:World) (hr0:Rd W (·<W.heap.size) a0 (z0.map (Value.int .i64))) (hm0:z0.length≤maxLen) (hr1:Rd W (·<W.heap.size) a1 (z1.map (Value.int .i64))) (hm1:z1.length≤maxLen) (hw_key:(Lit.int .i64 key).wf=true) :
  Calls Tryz.prog 5 #[.slice a0 z0.length cap0,.slice a1 z1.length cap1,.int .i64 key] W fun e w'=>e=.returned (.bool true)∧Below W.heap.size W w':=by
 rw[← flat_ints] at hr0 hr1
 have h:=uni_calls ttRok fhFok Tryz.func5 rfl (D:=fhD) (by kernel_rfl) (vs:=[slc 0 z0.length cap0,slc 1 z1.length cap1,.int .i64 key]) rfl { a0:=a0,a1:=a1 } { l0:=z0,l1:=z1 } W { r0:=hr0,r1:=hr1 } (fun v hv=>by
  simp only[List.mem_cons,List.not_mem_nil,or_false] at hv
  rcases hv with rfl | rfl | rfl
  ·exact⟨show (0:Nat)<13 by decide,rfl⟩
  ·exact⟨show (1:Nat)<13 by decide,rfl⟩
  ·trivial
  ) (fresh_sx cap0 cap1 z0 z1 key hm0 hm1)
 refine h.mono ?_
 rintro e w' ⟨v,mem',nx',ρ',rfl,rfl,hv,hm',hb⟩
 exact⟨rfl,hb⟩
end Go.Proofs.YtdjkeplekchfdaaGreat
