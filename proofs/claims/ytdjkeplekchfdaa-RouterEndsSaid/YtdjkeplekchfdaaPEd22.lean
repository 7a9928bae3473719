import Derived.Test.YtdjkeplekchfdaaPr21
namespace Go.Proofs.Ytdjkeplekchfdaa
open Go.RowKit
set_option linter.unusedSimpArgs false
set_option linter.unusedVariables false
/-! law16.RouterEnds -/
theorem CopyP.mono {c:Cfg} {key:Int} {xs:List Atl} (hP:CopyP c key xs) {j:Nat}:∀ m,m<xs.length→j<m→(xs.getD j aZ).number<(xs.getD m aZ).number
 | 0,_,h=>absurd h (by omega)
 | m+1,hm,h=>by
  have h2:=hP.inc m hm
  by_cases q:j=m
  ·subst q;exact h2
  ·have h1:=hP.mono (j:=j) m (by omega) (by omega)
   omega
theorem CopyP.old {c:Cfg} {key:Int} {xs:List Atl} (hP:CopyP c key xs) {j m:Nat} (hm:m<xs.length) (hj:j<xs.length) (h:(xs.getD m aZ).number≥(xs.getD j aZ).number):j≤m:=by
 by_cases q:m<j
 ·have:=hP.mono j hj q
  omega
 ·omega
theorem CopyP.young {c:Cfg} {key:Int} {xs:List Atl} (hP:CopyP c key xs) {j m:Nat} (hm:m<xs.length) (hj:j<xs.length) (h:¬ (xs.getD m aZ).number≥(xs.getD j aZ).number):m<j:=by
 by_cases q:m<j
 ·exact q
 ·rcases Nat.lt_or_eq_of_le (Nat.le_of_not_lt q) with q | q
  ·have:=hP.mono m hm q
   omega
  ·subst q
   exact absurd (Int.le_refl _) h
theorem CopyP.cell {c:Cfg} {key:Int} {xs:List Atl} (hP:CopyP c key xs) (hE:cfgErr c=0) {k:Nat} (hk:k<xs.length) {t:Nat} (ht:t<(xs.getD k aZ).routes.length):-1≤((xs.getD k aZ).routes.getD t (0,0)).1:=by
 have:=(hP.valid hE hk).r t ht
 unfold RouteOk at this
 omega
def edF:FT:=[(13,ctLight),(14,ctAwake16),(16,ctConfig),(31,ctMod),(17,ctRN),(36,ctCopies),(37,ctTk),(39,ctNb),(41,ctTc),(40,ctRt)]
def edD:List (Nat×DQ):=[(9000000,{ k:=0,L:=[17,37,39,41,40] }),(1000008,{ k:=31,L:=[0,1,2,3,4,5,6,7,8,9,10,11,12],sl:=[] }),(3000009,{ k:=32,L:=[0,1,2,3,4,5,6,7,8,9,10,11,12,21,22,23,24,25,26,27,29,30],sl:=[2,3,10,12] }),(4000012,{ k:=32,L:=[0,1,2,3,4,5,6,7,8,9,10,11,12,21,22,23,24,25,26,27,29,30],sl:=[2,3,10,12] }),(3000013,{ k:=33,L:=[0,1,2,3,4,5,6,7,8,9,10,11,12,21,22,23,24,25,26,27,29,30],sl:=[2,3,10,12] }),(2000018,{ k:=0,L:=[0,1,2,3,4,5,6,7,8,9,10,11,12,13,14,15,16,17,18,19,20,21,22,23,24,25,26,27,28,29,30,31,32,33,34,35,36,37,38,39,40,41,42,43,44,45,46,47,48,49,50,51,52,53,54,55,56,57,58,59,60],sl:=[2,3,10,12,15] }),(21,{ k:=18,L:=[0,1,2,3,4,5,6,7,8,9,10,11,12,13,14,15,16,17,18,19,20,21,22,23,24,25,26,27,28,29,30,31,32,33,34,35,36,37,38,39,40,41,42,43,44,45,46,47,48,49,50,51,52,53,54,55,56,57,58,59,60],pre:=[(0,false),(1,false),(2,false),(3,false),(4,true),(5,false),(6,true),(7,false),(8,false),(9,false),(10,false),(11,false),(12,false),(13,false),(14,false),(15,false),(16,true),(17,true)] }),(23,{ k:=13,L:=[0,1,2,3,4,5,6,7,8,9,10,11,12,13,14,15,16,17,18,19,20,21,22,23,24,25,26,27,28,29,30,31,32,33,34,35,36,37,38,39,40,41,42,43,44,45,46,47,48,49,50,51,52,53,54,55,56,57,58,59,60],pre:=[(0,true),(1,false),(2,false),(4,false),(5,false),(3,true),(6,false),(7,false),(8,false),(9,false),(11,false),(12,false),(10,true)] })]
theorem edFok:FTokI Try.prog edF (inlOf edD):=fti_cons (lightOk.i _) (fti_cons (awake16Ok.i _) (fti_cons (configOk.i _) (fti_cons (modOk.i _) (fti_cons (rnOk (by decide)) (fti_cons (copiesOk.i _) (fti_cons (tkOk (by decide)) (fti_cons (nbOk (by decide)) (fti_cons (tcOk (by decide)) (fti_cons (rtOk (by decide)) fti_nil)))))))))
set_option maxRecDepth 100000 in
set_option maxHeartbeats 8000000 in
theorem ends_sx (cap0 cap1 cap2:Nat) (l more order:List Int) (key:Int) (hm0:l.length≤maxLen) (hm1:more.length≤maxLen) (hm2:order.length≤maxLen) :
  sx ttR edF edD (bodyOf Try.f9) (argF 0 [slc 0 l.length cap0,slc 1 more.length cap1,.int .i64 key,slc 6 order.length cap2]) (uniM { l0:=l,l1:=more,c:={ noC with replicas:=order } }) 13 (endx ttR Try.f9.results.toList fun v _ _=>v=.bool true):=by
 refine⟨0,cap0,l,rfl,rfl,hm0,?_⟩
 refine⟨fun h=>?_,fun h0=>?_⟩
 ·repeat (first | refine⟨fun _=>?_,fun h=>Bool.noConfusion h⟩ | refine⟨fun h=>Bool.noConfusion h,fun _=>?_⟩ | fail)
  exact⟨rfl,rfl⟩
 ·refine⟨1,cap1,more,rfl,rfl,hm1,?_⟩
  refine⟨fun h=>?_,fun h1=>?_⟩
  ·repeat (first | refine⟨fun _=>?_,fun h=>Bool.noConfusion h⟩ | refine⟨fun h=>Bool.noConfusion h,fun _=>?_⟩ | fail)
   exact⟨rfl,rfl⟩
  ·refine⟨fun h=>?_,fun h2=>?_⟩
   ·exact⟨rfl,rfl⟩
   ·have hl0:l.length≤200:=by simpa using h0
    have hl1:more.length≤200:=by simpa using h1
    have hl2:order.length≤40:=by have:=of_decide_eq_false h2;omega
    clear h0 h1 h2 hm0 hm1 hm2
    refine⟨0,cap0,l,rfl,rfl,by omega,?_⟩
    intro xk c hM
    have hV:=cfgV_of hM.valid
    have hnt:=hV.nt
    have hnc:=hV.nc
    have hm1:=hM.zones
    have hm2:=hM.cells
    have hm3:=hM.tenants
    have hm4:=hM.versions
    have hm5:=hM.replicas
    have hm6:=hM.observers
    refine⟨_,c,rfl,.has (N:=⟨18,17,16,15,14,13,500000⟩) (x:=xk) (HasCfg.keeps kp_),hM.lens,?_⟩
    refine⟨fun q=>absurd q (by rw[hM.valid];decide),fun _=>?_⟩
    refine⟨_,c.zones,rfl,.inr (.inl ⟨18,_,rfl,.list rfl⟩),by omega,fun k_zones=>?_⟩
    refine⟨_,c.cells,rfl,.inr (.inl ⟨17,_,rfl,.list rfl⟩),by omega,fun k_cells=>?_⟩
    refine⟨_,c.tenants,rfl,.inr (.inl ⟨16,_,rfl,.list rfl⟩),by omega,fun k_tenants=>?_⟩
    refine⟨_,c.versions,rfl,.inr (.inl ⟨15,_,rfl,.list rfl⟩),by omega,fun k_versions=>?_⟩
    refine⟨_,c.replicas,rfl,.inr (.inl ⟨14,_,rfl,.list rfl⟩),by omega,fun k_replicas=>?_⟩
    refine⟨_,c.observers,rfl,.inr (.inl ⟨13,_,rfl,.list rfl⟩),by omega,fun k_observers=>?_⟩
    repeat (first | refine⟨fun _=>?_,fun h=>Bool.noConfusion h⟩ | refine⟨fun h=>Bool.noConfusion h,fun _=>?_⟩ | fail)
    refine⟨List Atl×List Nat×Nat,fun q=>match q with | (xs,cps_xs,cap_xs)=>[(2,.int .i64 key),(3,slc 6 order.length cap2),(10,ptr 28),(12,.slice (some ⟨30,0,none⟩) xs.length cap_xs)],fun q=>match q with | (xs,cps_xs,cap_xs)=>[(28,.box 110 [.int .i64 c.regions,slc 21 c.zones.length k_zones,slc 22 c.cells.length k_cells,slc 23 c.tenants.length k_tenants,slc 24 c.versions.length k_versions,slc 25 c.replicas.length k_replicas,slc 26 c.observers.length k_observers,.int .i64 c.blast,.int .i64 c.lease,.int .i64 c.bake,.int .i64 key,.bool false,.int .i64 0,.int .i64 0,zs0,.int .u64 0,.int .u64 0,.map (some 27)]),(21,rowOfL 500000 1 intC 0 c.zones),(22,rowOfL 500000 2 pairC (0,0) c.cells),(23,rowOfL 500000 7 tenC default c.tenants),(24,rowOfL 500000 2 pairC (0,0) c.versions),(25,rowOfL 500000 1 intC 0 c.replicas),(26,rowOfL 500000 1 intC 0 c.observers),(27,.ext (.map .i64 true fun _=>none)),(29,famB 500000 xs),(30,deepA 500000 0 xs cps_xs 29)],fun q=>match q with | (xs,cps_xs,cap_xs)=>CopyP c key xs,?_,?_⟩
    ·refine⟨⟨18,17,16,15,14,13,500000⟩,xk,c,_,more,key,rfl,⟨HasCfg.keeps kp_,.inr (.inl ⟨1,_,rfl,⟨_,_,_,rfl,Nat.le_refl _,fun k hk=>rfl⟩⟩)⟩,⟨hV,by omega⟩,fun xs cps_xs cap_xs hP=>?_⟩
     exact⟨(xs,cps_xs,cap_xs),hP,kp_,kp_⟩
    rintro⟨xs,cps_xs,cap_xs⟩ hP
    refine⟨⟨by decide,rfl,rfl⟩,?_⟩
    have hx1:=hP.ne
    have hx2:=hP.le
    refine⟨Option (Nat×Nat),fun _=>[],fun o=>match o with | none=>[(28,.box 110 [.int .i64 c.regions,slc 21 c.zones.length k_zones,slc 22 c.cells.length k_cells,slc 23 c.tenants.length k_tenants,slc 24 c.versions.length k_versions,slc 25 c.replicas.length k_replicas,slc 26 c.observers.length k_observers,.int .i64 c.blast,.int .i64 c.lease,.int .i64 c.bake,.int .i64 key,.bool false,.int .i64 0,.int .i64 0,zs0,.int .u64 0,.int .u64 0,.map (some 27)])] | some (m,k1)=>[(31,rowOfL 500000 2 pairC (0,0) (xs.getD m aZ).routes),(28,.box 110 [.int .i64 c.regions,slc 21 c.zones.length k_zones,slc 22 c.cells.length k_cells,slc 23 c.tenants.length k_tenants,slc 24 c.versions.length k_versions,slc 25 c.replicas.length k_replicas,slc 26 c.observers.length k_observers,.int .i64 c.blast,.int .i64 c.lease,.int .i64 c.bake,.int .i64 key,.bool true,.int .i64 (xs.getD m aZ).number,.int .i64 (xs.getD m aZ).tick,slc 31 (xs.getD m aZ).routes.length k1,.int .u64 (xs.getD m aZ).parent,.int .u64 (xs.getD m aZ).sum,.map (some 27)])],fun o=>match o with | none=>True | some (m,_)=>m<xs.length,?_,?_⟩
    ·refine⟨Int×Option (Nat×Nat),fun q=>match q with | (i,_)=>[(13,.int .i64 i)],fun q=>match q with | (i,none)=>[(28,.box 110 [.int .i64 c.regions,slc 21 c.zones.length k_zones,slc 22 c.cells.length k_cells,slc 23 c.tenants.length k_tenants,slc 24 c.versions.length k_versions,slc 25 c.replicas.length k_replicas,slc 26 c.observers.length k_observers,.int .i64 c.blast,.int .i64 c.lease,.int .i64 c.bake,.int .i64 key,.bool false,.int .i64 0,.int .i64 0,zs0,.int .u64 0,.int .u64 0,.map (some 27)])] | (i,some (m,k1))=>[(31,rowOfL 500000 2 pairC (0,0) (xs.getD m aZ).routes),(28,.box 110 [.int .i64 c.regions,slc 21 c.zones.length k_zones,slc 22 c.cells.length k_cells,slc 23 c.tenants.length k_tenants,slc 24 c.versions.length k_versions,slc 25 c.replicas.length k_replicas,slc 26 c.observers.length k_observers,.int .i64 c.blast,.int .i64 c.lease,.int .i64 c.bake,.int .i64 key,.bool true,.int .i64 (xs.getD m aZ).number,.int .i64 (xs.getD m aZ).tick,slc 31 (xs.getD m aZ).routes.length k1,.int .u64 (xs.getD m aZ).parent,.int .u64 (xs.getD m aZ).sum,.map (some 27)])],fun q=>match q with | (i,o)=>(0≤i∧i≤order.length)∧match o with | none=>True | some (m,_)=>m<xs.length,fun q=>match q with | (i,o)=>((order.length:Int)-i).toNat,⟨(0,none),[],⟨by omega,trivial⟩,⟨rfl,rfl⟩,kp_,kp_⟩,?_⟩
     rintro⟨i,(_ | ⟨m,k1⟩)⟩ ⟨hi,ho⟩
     ·refine⟨⟨by decide,rfl,rfl⟩,?_⟩
      refine⟨fun hlt=>?_,fun hge=>?_⟩
      ·have hlt2:i<(order.length:Int):=of_decide_eq_true hlt
       refine⟨⟨Nat.le_refl _,hi.1,hlt2⟩,?_⟩
       refine⟨_,_,rfl,⟨by omega,by omega⟩,?_⟩
       have hj:0≤(order.getD i.toNat 0) % (xs.length:Int)∧(order.getD i.toNat 0) % (xs.length:Int)<xs.length:=⟨Int.emod_nonneg _ (by omega),Int.emod_lt_of_pos _ (by omega)⟩
       have hjn:((order.getD i.toNat 0) % (xs.length:Int)).toNat<xs.length:=by omega
       refine⟨⟨Nat.le_refl _,hj.1,hj.2⟩,?_⟩
       refine⟨_,c,(xs.getD ((order.getD i.toNat 0) % (xs.length:Int)).toNat aZ),_,key,rfl,⟨⟨_,_,_,_,_,_,rfl,⟨.inr (.inl ⟨21,_,rfl,.list rfl⟩),.inr (.inl ⟨22,_,rfl,.list rfl⟩),.inr (.inl ⟨23,_,rfl,.list rfl⟩)⟩,.inr (.inl ⟨24,_,rfl,.list rfl⟩),.inr (.inl ⟨25,_,rfl,.list rfl⟩),.inr (.inl ⟨26,_,rfl,.list rfl⟩)⟩,.fam rfl⟩,hM.lens,fun b hb=>?_⟩
       obtain rfl:b=true:=hb.2 (hP.valid hM.valid hjn)
       repeat (first | refine⟨fun _=>?_,fun h=>Bool.noConfusion h⟩ | refine⟨fun h=>Bool.noConfusion h,fun _=>?_⟩ | fail)
       refine⟨_,(xs.getD ((order.getD i.toNat 0) % (xs.length:Int)).toNat aZ).routes,rfl,.fam rfl,by rw[hP.len hjn];omega,fun k2=>?_⟩
       refine⟨kp_,?_⟩
       refine⟨27,_,_,_,_,rfl,rfl,fun z=>rfl,?_⟩
       refine⟨(IntKind.i64.wrap (i+1),some (((order.getD i.toNat 0) % (xs.length:Int)).toNat,k2)),[(31,33)],?_,⟨rfl,rfl⟩,kp_,kp_⟩
       dsimp only
       rw[wrapi (n:=i+1) (by omega)]
       exact⟨⟨by omega,by omega⟩,by omega⟩
      ·exact⟨none,[],trivial,⟨rfl,rfl⟩,kp_,kp_⟩
     ·have hm:m<xs.length:=ho
      refine⟨⟨by decide,rfl,rfl⟩,?_⟩
      refine⟨fun hlt=>?_,fun hge=>?_⟩
      ·have hlt2:i<(order.length:Int):=of_decide_eq_true hlt
       refine⟨⟨Nat.le_refl _,hi.1,hlt2⟩,?_⟩
       refine⟨_,_,rfl,⟨by omega,by omega⟩,?_⟩
       have hj:0≤(order.getD i.toNat 0) % (xs.length:Int)∧(order.getD i.toNat 0) % (xs.length:Int)<xs.length:=⟨Int.emod_nonneg _ (by omega),Int.emod_lt_of_pos _ (by omega)⟩
       have hjn:((order.getD i.toNat 0) % (xs.length:Int)).toNat<xs.length:=by omega
       refine⟨⟨Nat.le_refl _,hj.1,hj.2⟩,?_⟩
       refine⟨_,c,(xs.getD ((order.getD i.toNat 0) % (xs.length:Int)).toNat aZ),_,key,rfl,⟨⟨_,_,_,_,_,_,rfl,⟨.inr (.inl ⟨21,_,rfl,.list rfl⟩),.inr (.inl ⟨22,_,rfl,.list rfl⟩),.inr (.inl ⟨23,_,rfl,.list rfl⟩)⟩,.inr (.inl ⟨24,_,rfl,.list rfl⟩),.inr (.inl ⟨25,_,rfl,.list rfl⟩),.inr (.inl ⟨26,_,rfl,.list rfl⟩)⟩,.fam rfl⟩,hM.lens,fun b hb=>?_⟩
       obtain rfl:b=true:=hb.2 (hP.valid hM.valid hjn)
       repeat (first | refine⟨fun _=>?_,fun h=>Bool.noConfusion h⟩ | refine⟨fun h=>Bool.noConfusion h,fun _=>?_⟩ | fail)
       refine⟨fun hg=>?_,fun hg=>?_⟩
       ·have hold:=hP.old hm hjn (of_decide_eq_true hg)
        refine⟨(IntKind.i64.wrap (i+1),some (m,k1)),[],?_,⟨rfl,rfl⟩,kp_,kp_⟩
        dsimp only
        rw[wrapi (n:=i+1) (by omega)]
        exact⟨⟨by omega,by omega⟩,by omega⟩
       ·have hyng:=hP.young hm hjn (of_decide_eq_false hg)
        refine⟨_,(xs.getD ((order.getD i.toNat 0) % (xs.length:Int)).toNat aZ).routes,rfl,.fam rfl,by rw[hP.len hjn];omega,fun k2=>?_⟩
        refine⟨kp_,?_⟩
        refine⟨27,_,_,_,_,rfl,rfl,fun z=>rfl,?_⟩
        refine⟨(IntKind.i64.wrap (i+1),some (((order.getD i.toNat 0) % (xs.length:Int)).toNat,k2)),[(31,33)],?_,⟨rfl,rfl⟩,kp_,kp_⟩
        dsimp only
        rw[wrapi (n:=i+1) (by omega)]
        exact⟨⟨by omega,by omega⟩,by omega⟩
      ·exact⟨some (m,k1),[],hm,⟨rfl,rfl⟩,kp_,kp_⟩
    rintro (_ | ⟨m,k1⟩) ho
    ·refine⟨⟨by decide,rfl,rfl⟩,?_⟩
     refine⟨Int×Option (Nat×Nat),fun q=>match q with | (i,_)=>[(14,.int .i64 i)],fun q=>match q with | (i,none)=>[(28,.box 110 [.int .i64 c.regions,slc 21 c.zones.length k_zones,slc 22 c.cells.length k_cells,slc 23 c.tenants.length k_tenants,slc 24 c.versions.length k_versions,slc 25 c.replicas.length k_replicas,slc 26 c.observers.length k_observers,.int .i64 c.blast,.int .i64 c.lease,.int .i64 c.bake,.int .i64 key,.bool false,.int .i64 0,.int .i64 0,zs0,.int .u64 0,.int .u64 0,.map (some 27)])] | (i,some (m,k1))=>[(32,rowOfL 500000 2 pairC (0,0) (xs.getD m aZ).routes),(28,.box 110 [.int .i64 c.regions,slc 21 c.zones.length k_zones,slc 22 c.cells.length k_cells,slc 23 c.tenants.length k_tenants,slc 24 c.versions.length k_versions,slc 25 c.replicas.length k_replicas,slc 26 c.observers.length k_observers,.int .i64 c.blast,.int .i64 c.lease,.int .i64 c.bake,.int .i64 key,.bool true,.int .i64 (xs.getD m aZ).number,.int .i64 (xs.getD m aZ).tick,slc 32 (xs.getD m aZ).routes.length k1,.int .u64 (xs.getD m aZ).parent,.int .u64 (xs.getD m aZ).sum,.map (some 27)])],fun q=>match q with | (i,o)=>(0≤i∧i≤xs.length)∧match o with | none=>i=0 | some (m,_)=>m<xs.length∧i≤m+1,fun q=>match q with | (i,o)=>((xs.length:Int)-i).toNat,⟨(0,none),[],⟨by omega,rfl⟩,⟨rfl,rfl⟩,kp_,kp_⟩,?_⟩
     rintro⟨i,(_ | ⟨m,k1⟩)⟩ ⟨hi,ho⟩
     ·refine⟨⟨by decide,rfl,rfl⟩,?_⟩
      refine⟨fun hlt=>?_,fun hge=>?_⟩
      ·have ho2:i=0:=ho
       have hlt2:i<(xs.length:Int):=of_decide_eq_true hlt
       have hjn:i.toNat<xs.length:=by omega
       refine⟨⟨Nat.le_refl _,hi.1,hlt2⟩,?_⟩
       refine⟨_,c,(xs.getD i.toNat aZ),_,key,rfl,⟨⟨_,_,_,_,_,_,rfl,⟨.inr (.inl ⟨21,_,rfl,.list rfl⟩),.inr (.inl ⟨22,_,rfl,.list rfl⟩),.inr (.inl ⟨23,_,rfl,.list rfl⟩)⟩,.inr (.inl ⟨24,_,rfl,.list rfl⟩),.inr (.inl ⟨25,_,rfl,.list rfl⟩),.inr (.inl ⟨26,_,rfl,.list rfl⟩)⟩,.fam rfl⟩,hM.lens,fun b hb=>?_⟩
       obtain rfl:b=true:=hb.2 (hP.valid hM.valid hjn)
       repeat (first | refine⟨fun _=>?_,fun h=>Bool.noConfusion h⟩ | refine⟨fun h=>Bool.noConfusion h,fun _=>?_⟩ | fail)
       refine⟨_,(xs.getD i.toNat aZ).routes,rfl,.fam rfl,by rw[hP.len hjn];omega,fun k2=>?_⟩
       refine⟨kp_,?_⟩
       refine⟨27,_,_,_,_,rfl,rfl,fun z=>rfl,?_⟩
       refine⟨(IntKind.i64.wrap (i+1),some (i.toNat,k2)),[(32,34)],?_,⟨rfl,rfl⟩,kp_,kp_⟩
       dsimp only
       rw[wrapi (n:=i+1) (by omega)]
       exact⟨⟨by omega,by omega,by omega⟩,by omega⟩
      ·have ho2:i=0:=ho
       exact absurd (of_decide_eq_false hge) (by omega)
     ·obtain⟨hm,him⟩:m<xs.length∧i≤m+1:=ho
      refine⟨⟨by decide,rfl,rfl⟩,?_⟩
      refine⟨fun hlt=>?_,fun hge=>?_⟩
      ·have hlt2:i<(xs.length:Int):=of_decide_eq_true hlt
       have hjn:i.toNat<xs.length:=by omega
       refine⟨⟨Nat.le_refl _,hi.1,hlt2⟩,?_⟩
       refine⟨_,c,(xs.getD i.toNat aZ),_,key,rfl,⟨⟨_,_,_,_,_,_,rfl,⟨.inr (.inl ⟨21,_,rfl,.list rfl⟩),.inr (.inl ⟨22,_,rfl,.list rfl⟩),.inr (.inl ⟨23,_,rfl,.list rfl⟩)⟩,.inr (.inl ⟨24,_,rfl,.list rfl⟩),.inr (.inl ⟨25,_,rfl,.list rfl⟩),.inr (.inl ⟨26,_,rfl,.list rfl⟩)⟩,.fam rfl⟩,hM.lens,fun b hb=>?_⟩
       obtain rfl:b=true:=hb.2 (hP.valid hM.valid hjn)
       repeat (first | refine⟨fun _=>?_,fun h=>Bool.noConfusion h⟩ | refine⟨fun h=>Bool.noConfusion h,fun _=>?_⟩ | fail)
       refine⟨fun hg=>?_,fun hg=>?_⟩
       ·have hold:=hP.old hm hjn (of_decide_eq_true hg)
        refine⟨(IntKind.i64.wrap (i+1),some (m,k1)),[],?_,⟨rfl,rfl⟩,kp_,kp_⟩
        dsimp only
        rw[wrapi (n:=i+1) (by omega)]
        exact⟨⟨by omega,by omega,by omega⟩,by omega⟩
       ·have hyng:=hP.young hm hjn (of_decide_eq_false hg)
        refine⟨_,(xs.getD i.toNat aZ).routes,rfl,.fam rfl,by rw[hP.len hjn];omega,fun k2=>?_⟩
        refine⟨kp_,?_⟩
        refine⟨27,_,_,_,_,rfl,rfl,fun z=>rfl,?_⟩
        refine⟨(IntKind.i64.wrap (i+1),some (i.toNat,k2)),[(32,34)],?_,⟨rfl,rfl⟩,kp_,kp_⟩
        dsimp only
        rw[wrapi (n:=i+1) (by omega)]
        exact⟨⟨by omega,by omega,by omega⟩,by omega⟩
      ·have hge2:=of_decide_eq_false hge
       obtain rfl:m=xs.length-1:=by omega
       have w1:=wrapi (n:=(xs.length:Int)-1) (by omega)
       have w2:((xs.length:Int)-1).toNat=xs.length-1:=by omega
       refine⟨⟨Nat.le_refl _,by rw[w1];omega,by rw[w1];omega⟩,?_⟩
       rw[w1,w2]
       have hRl:=hP.len hm
       clear hge hge2 hi him
       refine⟨Int,fun i=>[(16,.int .i64 i)],fun _=>[],fun i=>0≤i∧i≤(xs.getD (xs.length-1) aZ).routes.length,fun i=>(((xs.getD (xs.length-1) aZ).routes.length:Int)-i).toNat,⟨0,by omega,kp_,kp_⟩,?_⟩
       rintro i hi
       refine⟨⟨rfl,rfl⟩,?_⟩
       refine⟨fun hlt=>?_,fun hge=>?_⟩
       ·have hlt2:i<((xs.getD (xs.length-1) aZ).routes.length:Int):=of_decide_eq_true hlt
        have hcl:=hP.cell hM.valid hm (t:=i.toNat) (by omega)
        refine⟨(fun l h=>nomatch h),fun _=>?_⟩
        repeat (first | refine⟨fun _=>?_,fun h=>Bool.noConfusion h⟩ | refine⟨fun h=>Bool.noConfusion h,fun _=>?_⟩ | fail)
        refine⟨fun q=>absurd (of_decide_eq_true q) (by omega),fun _=>?_⟩
        refine⟨fun q=>absurd (of_decide_eq_true q) (by omega),fun _=>?_⟩
        refine⟨⟨Nat.le_refl _,hi.1,hlt2⟩,?_⟩
        refine⟨fun hc=>?_,fun hc=>?_⟩
        ·have hc1:((xs.getD (xs.length-1) aZ).routes.getD i.toNat (0,0)).1=-1:=by simpa using hc
         refine⟨⟨Nat.le_refl _,hi.1,hlt2⟩,?_⟩
         refine⟨kp_,?_⟩
         refine⟨kp_,?_⟩
         refine⟨fun q=>absurd q (by rw[hc1];decide),fun _=>?_⟩
         repeat (first | refine⟨fun _=>?_,fun h=>Bool.noConfusion h⟩ | refine⟨fun h=>Bool.noConfusion h,fun _=>?_⟩ | fail)
         refine⟨_,?_,kp_,kp_⟩
         rw[wrapi (n:=i+1) (by omega)]
         dsimp only
         exact⟨by omega,by omega⟩
        ·have hc1:¬ ((xs.getD (xs.length-1) aZ).routes.getD i.toNat (0,0)).1=-1:=by simpa using hc
         have hc2:((xs.getD (xs.length-1) aZ).routes.getD i.toNat (0,0)).1≥0:=by omega
         refine⟨⟨Nat.le_refl _,hi.1,hlt2⟩,?_⟩
         refine⟨⟨Nat.le_refl _,hi.1,hlt2⟩,?_⟩
         refine⟨kp_,?_⟩
         refine⟨kp_,?_⟩
         refine⟨fun q=>(by simp at q hc2;omega),fun _=>?_⟩
         repeat (first | refine⟨fun _=>?_,fun h=>Bool.noConfusion h⟩ | refine⟨fun h=>Bool.noConfusion h,fun _=>?_⟩ | fail)
         refine⟨⟨Nat.le_refl _,hi.1,hlt2⟩,?_⟩
         refine⟨kp_,?_⟩
         refine⟨kp_,?_⟩
         refine⟨fun q=>absurd q (by simp[eqCs,eqC1]),fun _=>?_⟩
         refine⟨_,?_,kp_,kp_⟩
         rw[wrapi (n:=i+1) (by omega)]
         dsimp only
         exact⟨by omega,by omega⟩
       ·refine⟨rfl,?_⟩
        refine⟨kp_,?_⟩
        repeat (first | refine⟨fun _=>?_,fun h=>Bool.noConfusion h⟩ | refine⟨fun h=>Bool.noConfusion h,fun _=>?_⟩ | fail)
        refine⟨kp_,?_⟩
        refine⟨fun _=>?_,fun q=>absurd q (by simp)⟩
        repeat (first | refine⟨fun _=>?_,fun h=>Bool.noConfusion h⟩ | refine⟨fun h=>Bool.noConfusion h,fun _=>?_⟩ | fail)
        refine⟨kp_,?_⟩
        exact congrArg Value.bool (by simp)
    ·have hm:m<xs.length:=ho
     refine⟨⟨by decide,rfl,rfl⟩,?_⟩
     refine⟨Int×Option (Nat×Nat),fun q=>match q with | (i,_)=>[(14,.int .i64 i)],fun q=>match q with | (i,none)=>[(28,.box 110 [.int .i64 c.regions,slc 21 c.zones.length k_zones,slc 22 c.cells.length k_cells,slc 23 c.tenants.length k_tenants,slc 24 c.versions.length k_versions,slc 25 c.replicas.length k_replicas,slc 26 c.observers.length k_observers,.int .i64 c.blast,.int .i64 c.lease,.int .i64 c.bake,.int .i64 key,.bool false,.int .i64 0,.int .i64 0,zs0,.int .u64 0,.int .u64 0,.map (some 27)])] | (i,some (m,k1))=>[(32,rowOfL 500000 2 pairC (0,0) (xs.getD m aZ).routes),(28,.box 110 [.int .i64 c.regions,slc 21 c.zones.length k_zones,slc 22 c.cells.length k_cells,slc 23 c.tenants.length k_tenants,slc 24 c.versions.length k_versions,slc 25 c.replicas.length k_replicas,slc 26 c.observers.length k_observers,.int .i64 c.blast,.int .i64 c.lease,.int .i64 c.bake,.int .i64 key,.bool true,.int .i64 (xs.getD m aZ).number,.int .i64 (xs.getD m aZ).tick,slc 32 (xs.getD m aZ).routes.length k1,.int .u64 (xs.getD m aZ).parent,.int .u64 (xs.getD m aZ).sum,.map (some 27)])],fun q=>match q with | (i,o)=>(0≤i∧i≤xs.length)∧match o with | none=>i=0 | some (m,_)=>m<xs.length∧i≤m+1,fun q=>match q with | (i,o)=>((xs.length:Int)-i).toNat,⟨(0,some (m,k1)),[(32,31)],⟨by omega,hm,by omega⟩,⟨rfl,rfl⟩,kp_,kp_⟩,?_⟩
     rintro⟨i,(_ | ⟨m,k1⟩)⟩ ⟨hi,ho⟩
     ·refine⟨⟨by decide,rfl,rfl⟩,?_⟩
      refine⟨fun hlt=>?_,fun hge=>?_⟩
      ·have ho2:i=0:=ho
       have hlt2:i<(xs.length:Int):=of_decide_eq_true hlt
       have hjn:i.toNat<xs.length:=by omega
       refine⟨⟨Nat.le_refl _,hi.1,hlt2⟩,?_⟩
       refine⟨_,c,(xs.getD i.toNat aZ),_,key,rfl,⟨⟨_,_,_,_,_,_,rfl,⟨.inr (.inl ⟨21,_,rfl,.list rfl⟩),.inr (.inl ⟨22,_,rfl,.list rfl⟩),.inr (.inl ⟨23,_,rfl,.list rfl⟩)⟩,.inr (.inl ⟨24,_,rfl,.list rfl⟩),.inr (.inl ⟨25,_,rfl,.list rfl⟩),.inr (.inl ⟨26,_,rfl,.list rfl⟩)⟩,.fam rfl⟩,hM.lens,fun b hb=>?_⟩
       obtain rfl:b=true:=hb.2 (hP.valid hM.valid hjn)
       repeat (first | refine⟨fun _=>?_,fun h=>Bool.noConfusion h⟩ | refine⟨fun h=>Bool.noConfusion h,fun _=>?_⟩ | fail)
       refine⟨_,(xs.getD i.toNat aZ).routes,rfl,.fam rfl,by rw[hP.len hjn];omega,fun k2=>?_⟩
       refine⟨kp_,?_⟩
       refine⟨27,_,_,_,_,rfl,rfl,fun z=>rfl,?_⟩
       refine⟨(IntKind.i64.wrap (i+1),some (i.toNat,k2)),[(32,34)],?_,⟨rfl,rfl⟩,kp_,kp_⟩
       dsimp only
       rw[wrapi (n:=i+1) (by omega)]
       exact⟨⟨by omega,by omega,by omega⟩,by omega⟩
      ·have ho2:i=0:=ho
       exact absurd (of_decide_eq_false hge) (by omega)
     ·obtain⟨hm,him⟩:m<xs.length∧i≤m+1:=ho
      refine⟨⟨by decide,rfl,rfl⟩,?_⟩
      refine⟨fun hlt=>?_,fun hge=>?_⟩
      ·have hlt2:i<(xs.length:Int):=of_decide_eq_true hlt
       have hjn:i.toNat<xs.length:=by omega
       refine⟨⟨Nat.le_refl _,hi.1,hlt2⟩,?_⟩
       refine⟨_,c,(xs.getD i.toNat aZ),_,key,rfl,⟨⟨_,_,_,_,_,_,rfl,⟨.inr (.inl ⟨21,_,rfl,.list rfl⟩),.inr (.inl ⟨22,_,rfl,.list rfl⟩),.inr (.inl ⟨23,_,rfl,.list rfl⟩)⟩,.inr (.inl ⟨24,_,rfl,.list rfl⟩),.inr (.inl ⟨25,_,rfl,.list rfl⟩),.inr (.inl ⟨26,_,rfl,.list rfl⟩)⟩,.fam rfl⟩,hM.lens,fun b hb=>?_⟩
       obtain rfl:b=true:=hb.2 (hP.valid hM.valid hjn)
       repeat (first | refine⟨fun _=>?_,fun h=>Bool.noConfusion h⟩ | refine⟨fun h=>Bool.noConfusion h,fun _=>?_⟩ | fail)
       refine⟨fun hg=>?_,fun hg=>?_⟩
       ·have hold:=hP.old hm hjn (of_decide_eq_true hg)
        refine⟨(IntKind.i64.wrap (i+1),some (m,k1)),[],?_,⟨rfl,rfl⟩,kp_,kp_⟩
        dsimp only
        rw[wrapi (n:=i+1) (by omega)]
        exact⟨⟨by omega,by omega,by omega⟩,by omega⟩
       ·have hyng:=hP.young hm hjn (of_decide_eq_false hg)
        refine⟨_,(xs.getD i.toNat aZ).routes,rfl,.fam rfl,by rw[hP.len hjn];omega,fun k2=>?_⟩
        refine⟨kp_,?_⟩
        refine⟨27,_,_,_,_,rfl,rfl,fun z=>rfl,?_⟩
        refine⟨(IntKind.i64.wrap (i+1),some (i.toNat,k2)),[(32,34)],?_,⟨rfl,rfl⟩,kp_,kp_⟩
        dsimp only
        rw[wrapi (n:=i+1) (by omega)]
        exact⟨⟨by omega,by omega,by omega⟩,by omega⟩
      ·have hge2:=of_decide_eq_false hge
       obtain rfl:m=xs.length-1:=by omega
       have w1:=wrapi (n:=(xs.length:Int)-1) (by omega)
       have w2:((xs.length:Int)-1).toNat=xs.length-1:=by omega
       refine⟨⟨Nat.le_refl _,by rw[w1];omega,by rw[w1];omega⟩,?_⟩
       rw[w1,w2]
       have hRl:=hP.len hm
       clear hge hge2 hi him
       refine⟨Int,fun i=>[(16,.int .i64 i)],fun _=>[],fun i=>0≤i∧i≤(xs.getD (xs.length-1) aZ).routes.length,fun i=>(((xs.getD (xs.length-1) aZ).routes.length:Int)-i).toNat,⟨0,by omega,kp_,kp_⟩,?_⟩
       rintro i hi
       refine⟨⟨rfl,rfl⟩,?_⟩
       refine⟨fun hlt=>?_,fun hge=>?_⟩
       ·have hlt2:i<((xs.getD (xs.length-1) aZ).routes.length:Int):=of_decide_eq_true hlt
        have hcl:=hP.cell hM.valid hm (t:=i.toNat) (by omega)
        refine⟨(fun l h=>nomatch h),fun _=>?_⟩
        repeat (first | refine⟨fun _=>?_,fun h=>Bool.noConfusion h⟩ | refine⟨fun h=>Bool.noConfusion h,fun _=>?_⟩ | fail)
        refine⟨fun q=>absurd (of_decide_eq_true q) (by omega),fun _=>?_⟩
        refine⟨fun q=>absurd (of_decide_eq_true q) (by omega),fun _=>?_⟩
        refine⟨⟨Nat.le_refl _,hi.1,hlt2⟩,?_⟩
        refine⟨fun hc=>?_,fun hc=>?_⟩
        ·have hc1:((xs.getD (xs.length-1) aZ).routes.getD i.toNat (0,0)).1=-1:=by simpa using hc
         refine⟨⟨Nat.le_refl _,hi.1,hlt2⟩,?_⟩
         refine⟨kp_,?_⟩
         refine⟨kp_,?_⟩
         refine⟨fun q=>absurd q (by rw[hc1];decide),fun _=>?_⟩
         repeat (first | refine⟨fun _=>?_,fun h=>Bool.noConfusion h⟩ | refine⟨fun h=>Bool.noConfusion h,fun _=>?_⟩ | fail)
         refine⟨_,?_,kp_,kp_⟩
         rw[wrapi (n:=i+1) (by omega)]
         dsimp only
         exact⟨by omega,by omega⟩
        ·have hc1:¬ ((xs.getD (xs.length-1) aZ).routes.getD i.toNat (0,0)).1=-1:=by simpa using hc
         have hc2:((xs.getD (xs.length-1) aZ).routes.getD i.toNat (0,0)).1≥0:=by omega
         refine⟨⟨Nat.le_refl _,hi.1,hlt2⟩,?_⟩
         refine⟨⟨Nat.le_refl _,hi.1,hlt2⟩,?_⟩
         refine⟨kp_,?_⟩
         refine⟨kp_,?_⟩
         refine⟨fun q=>(by simp at q hc2;omega),fun _=>?_⟩
         repeat (first | refine⟨fun _=>?_,fun h=>Bool.noConfusion h⟩ | refine⟨fun h=>Bool.noConfusion h,fun _=>?_⟩ | fail)
         refine⟨⟨Nat.le_refl _,hi.1,hlt2⟩,?_⟩
         refine⟨kp_,?_⟩
         refine⟨kp_,?_⟩
         refine⟨fun q=>absurd q (by simp[eqCs,eqC1]),fun _=>?_⟩
         refine⟨_,?_,kp_,kp_⟩
         rw[wrapi (n:=i+1) (by omega)]
         dsimp only
         exact⟨by omega,by omega⟩
       ·refine⟨rfl,?_⟩
        refine⟨kp_,?_⟩
        repeat (first | refine⟨fun _=>?_,fun h=>Bool.noConfusion h⟩ | refine⟨fun h=>Bool.noConfusion h,fun _=>?_⟩ | fail)
        refine⟨kp_,?_⟩
        refine⟨fun _=>?_,fun q=>absurd q (by simp)⟩
        repeat (first | refine⟨fun _=>?_,fun h=>Bool.noConfusion h⟩ | refine⟨fun h=>Bool.noConfusion h,fun _=>?_⟩ | fail)
        refine⟨kp_,?_⟩
        exact congrArg Value.bool (by simp)
theorem routerEnds_law (a0:Option Addr) (cap0:Nat) (z0:List Int) (a1:Option Addr) (cap1:Nat) (z1:List Int) (key:Int) (a3:Option Addr) (cap3:Nat) (z3:List Int) (W:World) (hr0:Rd W (·<W.heap.size) a0 (z0.map (Value.int .i64))) (hm0:z0.length≤maxLen) (hr1:Rd W (·<W.heap.size) a1 (z1.map (Value.int .i64))) (hm1:z1.length≤maxLen) {Q:Prop} (_hq:Q) (hr3:Rd W (·<W.heap.size) a3 (z3.map (Value.int .i64))) (hm3:z3.length≤maxLen) :
  Calls Try.prog 9 #[.slice a0 z0.length cap0,.slice a1 z1.length cap1,.int .i64 key,.slice a3 z3.length cap3] W fun e w'=>e=.returned (.bool true)∧Below W.heap.size W w':=by
 rw[← flat_ints] at hr0 hr1 hr3
 have h:=uni_calls ttRok edFok Try.func9 rfl (D:=edD) (by kernel_rfl) (vs:=[slc 0 z0.length cap0,slc 1 z1.length cap1,.int .i64 key,slc 6 z3.length cap3]) rfl { a0:=a0,a1:=a1,x:={ noX with ar:=a3 } } { l0:=z0,l1:=z1,c:={ noC with replicas:=z3 } } W { r0:=hr0,r1:=hr1,c:={ noC_ok W (·<W.heap.size) with replicas:=hr3 } } (fun v hv=>by
  simp only[List.mem_cons,List.not_mem_nil,or_false] at hv
  rcases hv with rfl | rfl | rfl | rfl
  ·exact⟨show (0:Nat)<13 by decide,rfl⟩
  ·exact⟨show (1:Nat)<13 by decide,rfl⟩
  ·trivial
  ·exact⟨show (6:Nat)<13 by decide,rfl⟩) (ends_sx cap0 cap1 cap3 z0 z1 z3 key hm0 hm1 hm3)
 refine h.mono ?_
 rintro e w' ⟨v,mem',nx',ρ',rfl,rfl,hv,hm',hb⟩
 exact⟨rfl,hb⟩
end Go.Proofs.Ytdjkeplekchfdaa
