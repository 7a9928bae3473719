import Derived.Test.YtchhdflealgkaaaGreatPqO24
namespace Go.Proofs.YtchhdflealgkaaaGreat
open Go.RowKit
set_option linter.unusedSimpArgs false
set_option linter.unusedVariables false
/-! law16.RouterCopies -/
def pcF:FT:=[(8,ctLight),(9,ctAwake16),(10,ctConfig),(11,ctRN),(12,ctNwQ),(13,ctSm),(14,ctCopies),(15,ctBo),(16,ctCpP2),(17,ctCpQ2)]
def pcD:List (Nat×DQ):=[(9000000,{ k:=0,L:=[11,12] }),(1000006,{ k:=34,L:=[0,1,2,3,4,5,6,7,8,9,10,11,12,13,14,15,16,17,18],sl:=[] }),(4000009,{ k:=52,L:=[0,1,2,3,4,5,6,7,8,9,10,11,12,13,14,15,16,17,18,19,20,21,22,23,24,25,26,27,28,29,30,31,32,33,34,35,36,37,38,39,40,41,42,43,44,45,46,47,48,49],sl:=[2,3,4,12,14] }),(3000010,{ k:=54,L:=[0,1,2,3,4,5,6,7,8,9,10,11,12,13,14,15,16,17,18,19,20,21,22,23,24,25,26,29,32,33,34,35,36,37,38,39,40,41,42,43,44,45,46,47,48,49,50,51],sl:=[2,3,4,12,14,16] }),(4000014,{ k:=74,L:=[0,1,2,3,4,5,6,7,8,9,10,11,12,13,14,15,16,17,18,19,20,21,22,23,24,25,26,27,28,29,30,31,32,33,34,35,36,37,38,39,40,41,42,43,44,45,46,47,48,49,50,51,52,53],sl:=[2,4,12,14,16] }),(3000017,{ k:=76,L:=[0,1,2,3,4,5,6,7,8,9,10,11,12,13,14,15,16,17,18,19,20,21,22,23,24,25,26,27,28,29,30,31,32,33,34,35,36,37,38,39,40,41,42,43,44,45,46,47,48,49,50,51,52,53,54,55,56,57,58,59,60,61,62,63,64,65,66,67],sl:=[2,4,12,14,16,18,19] })]
theorem pcFok:FTokI Tryz.prog pcF (inlOf pcD):=fti_cons (lightOk.i _) (fti_cons (awake16Ok.i _) (fti_cons (configOk.i _) (fti_cons (rnOk (by decide)) (fti_cons (nwQOk (by decide)) (fti_cons (smOk.i _) (fti_cons (copiesOk.i _) (fti_cons (boOk.i _) (fti_cons (cpP2Ok.i _) (fti_cons (cpQ2Ok.i _) fti_nil)))))))))
set_option maxRecDepth 100000 in
set_option maxHeartbeats 400000000 in
theorem rcops_sx (cap0 cap1 cap2 cap3:Nat) (l more:List Int) (st sr:List CS) (key:Int) (hm0:l.length≤maxLen) (hm1:more.length≤maxLen) (hm2:st.length≤maxLen) (hm3:sr.length≤maxLen) :
  sx ttP pcF pcD (bodyOf Tryz.f4) (argF 0 [slc 0 l.length cap0,slc 1 more.length cap1,.int .i64 key,slc 10 st.length cap2,slc 12 sr.length cap3]) (uniM { l0:=l,l1:=more,s:={ noS with cells:=st },s2:={ noS with cells:=sr } }) 13 (endx ttP Tryz.f4.results.toList fun v _ _=>v=.bool true):=by
 refine⟨0,cap0,l,rfl,rfl,hm0,?_⟩
 refine⟨fun h=>?_,fun h0=>?_⟩
 ·repeat (first | refine⟨fun _=>?_,fun h=>Bool.noConfusion h⟩ | refine⟨fun h=>Bool.noConfusion h,fun _=>?_⟩ | fail)
  exact⟨rfl,rfl⟩
 ·refine⟨1,cap1,more,rfl,rfl,hm1,?_⟩
  refine⟨fun h=>?_,fun h1=>?_⟩
  ·repeat (first | refine⟨fun _=>?_,fun h=>Bool.noConfusion h⟩ | refine⟨fun h=>Bool.noConfusion h,fun _=>?_⟩ | fail)
   exact⟨rfl,rfl⟩
  ·refine⟨fun h=>?_,fun g2=>?_⟩
   ·repeat (first | refine⟨fun _=>?_,fun h=>Bool.noConfusion h⟩ | refine⟨fun h=>Bool.noConfusion h,fun _=>?_⟩ | fail)
    exact⟨rfl,rfl⟩
   ·refine⟨fun h=>?_,fun g3=>?_⟩
    ·exact⟨rfl,rfl⟩
    ·have hl0:l.length≤200:=by simpa using h0
     have hl1:more.length≤200:=by simpa using h1
     have hl2:st.length≤30:=by have:=of_decide_eq_false g2;omega
     have hl3:sr.length≤30:=by have:=of_decide_eq_false g3;omega
     clear h0 h1 hm0 hm1
     refine⟨0,cap0,l,rfl,rfl,by omega,?_⟩
     intro xk c hM
     have hV:=cfgV_of hM.valid
     have hnt:=hV.nt
     have hnc:=hV.nc
     have hm1:=hM.zones
     have hm2:=hM.cells
     have hm3:=hM.tenants
     have hm4:=hM.versions
     have hm5:=hM.replicas
     have hm6:=hM.observers
     refine⟨_,c,rfl,.has (N:=⟨18,17,16,15,14,13,500000⟩) (x:=xk) (HasCfg.keeps kp_),hM.lens,?_⟩
     refine⟨fun q=>absurd q (by rw[hM.valid];decide),fun _=>?_⟩
     refine⟨_,c.zones,rfl,.inr (.inl ⟨18,_,rfl,.list rfl⟩),by omega,fun k_zones=>?_⟩
     refine⟨_,c.cells,rfl,.inr (.inl ⟨17,_,rfl,.list rfl⟩),by omega,fun k_cells=>?_⟩
     refine⟨_,c.tenants,rfl,.inr (.inl ⟨16,_,rfl,.list rfl⟩),by omega,fun k_tenants=>?_⟩
     refine⟨_,c.versions,rfl,.inr (.inl ⟨15,_,rfl,.list rfl⟩),by omega,fun k_versions=>?_⟩
     refine⟨_,c.replicas,rfl,.inr (.inl ⟨14,_,rfl,.list rfl⟩),by omega,fun k_replicas=>?_⟩
     refine⟨_,c.observers,rfl,.inr (.inl ⟨13,_,rfl,.list rfl⟩),by omega,fun k_observers=>?_⟩
     repeat (first | refine⟨fun _=>?_,fun h=>Bool.noConfusion h⟩ | refine⟨fun h=>Bool.noConfusion h,fun _=>?_⟩ | fail)
     refine⟨(Int→Option (Int×Int))×HF,fun _=>[(0,slc 0 l.length cap0),(1,slc 1 more.length cap1),(2,.int .i64 key),(3,slc 10 st.length cap2),(4,slc 12 sr.length cap3),(11,ptr 19),(12,ptr 28),(13,.int .i64 0),(14,ptr 31)],fun q=>match q with | (hm,hf)=>[(28,.box 114 [.int .i64 c.regions,slc 21 c.zones.length k_zones,slc 22 c.cells.length k_cells,slc 23 c.tenants.length k_tenants,slc 24 c.versions.length k_versions,slc 25 c.replicas.length k_replicas,slc 26 c.observers.length k_observers,.int .i64 c.blast,.int .i64 c.lease,.int .i64 c.bake,.int .i64 key,.bool false,.int .i64 0,.int .i64 0,zs0,.int .u64 0,.int .u64 0,.map (some 27)]),(27,.ext (.map .i64 true (hintF hm))),(30,.row (1000000+92) 2 c.tenants.length (fun k=>pairC (hf k))),(31,.box 116 [.int .i64 c.regions,slc 18 c.zones.length xk.cz,slc 17 c.cells.length xk.cc,slc 16 c.tenants.length xk.ct,slc 15 c.versions.length xk.cv,slc 14 c.replicas.length xk.cr,slc 13 c.observers.length xk.co,.int .i64 c.blast,.int .i64 c.lease,.int .i64 c.bake,.int .i64 key,.bool false,.int .i64 0,.int .i64 0,zs0,.int .u64 0,.int .u64 0,slc 30 c.tenants.length c.tenants.length]),(21,rowOfL 500000 1 intC 0 c.zones),(22,rowOfL 500000 2 pairC (0,0) c.cells),(23,rowOfL 500000 7 tenC default c.tenants),(24,rowOfL 500000 2 pairC (0,0) c.versions),(25,rowOfL 500000 1 intC 0 c.replicas),(26,rowOfL 500000 1 intC 0 c.observers),(18,rowOfL 500000 1 intC 0 c.zones),(17,rowOfL 500000 2 pairC (0,0) c.cells),(16,rowOfL 500000 7 tenC default c.tenants),(15,rowOfL 500000 2 pairC (0,0) c.versions),(14,rowOfL 500000 1 intC 0 c.replicas),(13,rowOfL 500000 1 intC 0 c.observers),(19,.box 31 [.int .i64 c.regions,slc 18 c.zones.length xk.cz,slc 17 c.cells.length xk.cc,slc 16 c.tenants.length xk.ct,slc 15 c.versions.length xk.cv,slc 14 c.replicas.length xk.cr,slc 13 c.observers.length xk.co,.int .i64 c.blast,.int .i64 c.lease,.int .i64 c.bake])],fun q=>match q with | (hm,hf)=>hm=hmOf c.tenants.length hf∧HfOk c.tenants.length hf,?_,?_⟩
     ·refine⟨_,c,rfl,.has (N:=⟨18,17,16,15,14,13,500000⟩) (x:=xk) (HasCfg.keeps kp_),hM.lens,?_⟩
      refine⟨fun q=>absurd q (by rw[hM.valid];decide),fun _=>?_⟩
      refine⟨⟨Int.le_refl _,by omega,by show (c.tenants.length:Int) * 16≤281474976710656;omega⟩,?_⟩
      refine⟨kp_,?_⟩
      exact⟨(fun _=>none,fun _=>(0,0)),⟨(hmOf_new _).symm,fun k hk=>Int.le_refl _⟩,kp_,kp_⟩
     rintro⟨hm,hf⟩ ⟨rfl,hH⟩
     refine⟨⟨by decide,rfl,rfl⟩,?_⟩
     repeat (first | refine⟨fun _=>?_,fun h=>Bool.noConfusion h⟩ | refine⟨fun h=>Bool.noConfusion h,fun _=>?_⟩ | fail)
     refine⟨List Atl×List Nat×Nat,fun q=>match q with | (xs,cps_xs,cap_xs)=>[(16,.slice (some ⟨51,0,none⟩) xs.length cap_xs)],fun q=>match q with | (xs,cps_xs,cap_xs)=>[(50,famB 500000 xs),(51,deepA 500000 0 xs cps_xs 50)],fun q=>match q with | (xs,cps_xs,cap_xs)=>CopyP c key xs,?_,?_⟩
     ·refine⟨⟨18,17,16,15,14,13,500000⟩,xk,c,_,more,key,rfl,⟨HasCfg.keeps kp_,.inr (.inl ⟨1,_,rfl,⟨_,_,_,rfl,Nat.le_refl _,fun k hk=>rfl⟩⟩)⟩,⟨hV,by omega⟩,fun xs cps_xs cap_xs hP=>?_⟩
      exact⟨(xs,cps_xs,cap_xs),[(50,34),(51,35)],hP,⟨rfl,rfl⟩,kp_,kp_⟩
     rintro⟨xs,cps_xs,cap_xs⟩ hP
     refine⟨⟨by decide,rfl,rfl⟩,?_⟩
     have hx1:=hP.ne
     have hx2:=hP.le
     refine⟨Int×(Int→Option (Int×Int))×HF×Option (Atl×Nat×Nat×(Nat→List Value)),fun q=>match q with | (i,_)=>[(17,.int .i64 i)],fun q=>match q with | (i,hm,hf,none)=>[(28,.box 114 [.int .i64 c.regions,slc 21 c.zones.length k_zones,slc 22 c.cells.length k_cells,slc 23 c.tenants.length k_tenants,slc 24 c.versions.length k_versions,slc 25 c.replicas.length k_replicas,slc 26 c.observers.length k_observers,.int .i64 c.blast,.int .i64 c.lease,.int .i64 c.bake,.int .i64 key,.bool false,.int .i64 0,.int .i64 0,zs0,.int .u64 0,.int .u64 0,.map (some 27)]),(27,.ext (.map .i64 true (hintF hm))),(30,.row (1000000+92) 2 c.tenants.length (fun k=>pairC (hf k))),(31,.box 116 [.int .i64 c.regions,slc 18 c.zones.length xk.cz,slc 17 c.cells.length xk.cc,slc 16 c.tenants.length xk.ct,slc 15 c.versions.length xk.cv,slc 14 c.replicas.length xk.cr,slc 13 c.observers.length xk.co,.int .i64 c.blast,.int .i64 c.lease,.int .i64 c.bake,.int .i64 key,.bool false,.int .i64 0,.int .i64 0,zs0,.int .u64 0,.int .u64 0,slc 30 c.tenants.length c.tenants.length])] | (i,hm,hf,some (A,kp,kq,elq))=>[(28,.box 114 [.int .i64 c.regions,slc 21 c.zones.length k_zones,slc 22 c.cells.length k_cells,slc 23 c.tenants.length k_tenants,slc 24 c.versions.length k_versions,slc 25 c.replicas.length k_replicas,slc 26 c.observers.length k_observers,.int .i64 c.blast,.int .i64 c.lease,.int .i64 c.bake,.int .i64 key,.bool true,.int .i64 A.number,.int .i64 A.tick,slc 52 A.routes.length kp,.int .u64 A.parent,.int .u64 A.sum,.map (some 27)]),(27,.ext (.map .i64 true (hintF hm))),(30,.row (1000000+92) 2 c.tenants.length (fun k=>pairC (hf k))),(31,.box 116 [.int .i64 c.regions,slc 18 c.zones.length xk.cz,slc 17 c.cells.length xk.cc,slc 16 c.tenants.length xk.ct,slc 15 c.versions.length xk.cv,slc 14 c.replicas.length xk.cr,slc 13 c.observers.length xk.co,.int .i64 c.blast,.int .i64 c.lease,.int .i64 c.bake,.int .i64 key,.bool true,.int .i64 A.number,.int .i64 A.tick,slc 53 A.routes.length kq,.int .u64 A.parent,.int .u64 A.sum,slc 30 c.tenants.length c.tenants.length]),(52,rowOfL 500000 2 pairC (0,0) A.routes),(53,.row (1000000+92) 2 kq elq)],fun q=>match q with | (i,hm,hf,o)=>(0≤i∧i≤st.length)∧(hm=hmOf c.tenants.length hf∧HfOk c.tenants.length hf)∧match o with | none=>True | some (A,kp,kq,elq)=>ValidA c A key∧A.routes.length≤kq∧∀ k,k<A.routes.length→elq k=pairC (A.routes.getD k (0,0)),fun q=>match q with | (i,_)=>((st.length:Int)-i).toNat,⟨(0,hmOf c.tenants.length hf,hf,none),[],⟨by omega,⟨rfl,hH⟩,trivial⟩,⟨rfl,rfl⟩,kp_,kp_⟩,?_⟩
     clear hH hf
     rintro⟨i,hm,hf,(_ | ⟨A,kp,kq,elq⟩)⟩ ⟨hi,⟨rfl,hH⟩,ho⟩
     ·refine⟨⟨by decide,rfl,rfl⟩,?_⟩
      refine⟨fun hlt=>?_,fun hge=>?_⟩
      ·have hlt2:i<(st.length:Int):=of_decide_eq_true hlt
       refine⟨⟨Nat.le_refl _,hi.1,hlt2⟩,?_⟩
       refine .inl ⟨⟨c,xk,⟨k_zones,k_cells,k_tenants,k_versions,k_replicas,k_observers⟩,key,hf,c.tenants.length,xs,cps_xs,cap_xs,(st.getD i.toNat default),aZ,0,0,fun _=>[]⟩,[],⟨⟨hV,hM.lens⟩,hH,⟨Nat.le_refl _,hP,hM.valid⟩⟩,rfl,kp_,rfl,rfl,fun y hy=>?_⟩
       rcases y with⟨hf2⟩ | ⟨hf2,A2,kp2,kq2,el2⟩
       ·repeat (first | refine⟨fun _=>?_,fun h=>Bool.noConfusion h⟩ | refine⟨fun h=>Bool.noConfusion h,fun _=>?_⟩ | refine⟨⟨by first | exact Nat.le_refl _ | omega | fail,by first | omega | (dsimp only;omega) | fail,by first | omega | (dsimp only;omega) | fail⟩,?_⟩ | refine⟨fun q=>absurd q (by first | (simp[eqCs,eqC1];done) | fail),fun _=>?_⟩ | refine⟨fun _=>?_,fun q=>absurd q (by first | omega | (simp[-List.getD_eq_getElem?_getD];done) | (simp[-List.getD_eq_getElem?_getD];omega) | fail)⟩ | refine⟨fun q=>absurd q (by first | omega | (simp[-List.getD_eq_getElem?_getD];done) | (simp[-List.getD_eq_getElem?_getD];omega) | fail),fun _=>?_⟩ | fail)
        refine⟨(IntKind.i64.wrap (i+1),hmOf c.tenants.length hf2,hf2,none),[],?_,⟨rfl,rfl⟩,kp_,kp_⟩
        dsimp only
        rw[wrapi (n:=i+1) (by omega)]
        exact⟨⟨⟨by omega,by omega⟩,⟨rfl,hy⟩,trivial⟩,by omega⟩
       ·repeat (first | refine⟨fun _=>?_,fun h=>Bool.noConfusion h⟩ | refine⟨fun h=>Bool.noConfusion h,fun _=>?_⟩ | refine⟨⟨by first | exact Nat.le_refl _ | omega | fail,by first | omega | (dsimp only;omega) | fail,by first | omega | (dsimp only;omega) | fail⟩,?_⟩ | refine⟨fun q=>absurd q (by first | (simp[eqCs,eqC1];done) | fail),fun _=>?_⟩ | refine⟨fun _=>?_,fun q=>absurd q (by first | omega | (simp[-List.getD_eq_getElem?_getD];done) | (simp[-List.getD_eq_getElem?_getD];omega) | fail)⟩ | refine⟨fun q=>absurd q (by first | omega | (simp[-List.getD_eq_getElem?_getD];done) | (simp[-List.getD_eq_getElem?_getD];omega) | fail),fun _=>?_⟩ | fail)
        refine⟨(IntKind.i64.wrap (i+1),hmOf c.tenants.length hf2,hf2,some (A2,kp2,kq2,el2)),[(52,54),(53,55)],?_,⟨rfl,rfl⟩,kp_,kp_⟩
        dsimp only
        rw[wrapi (n:=i+1) (by omega)]
        exact⟨⟨⟨by omega,by omega⟩,⟨rfl,hy.1⟩,hy.2⟩,by omega⟩
      ·clear hi hge
       refine⟨(Int→Option (Int×Int))×HF×Nat×(Nat→List Value),fun _=>[(18,ptr 70),(19,ptr 72)],fun q=>match q with | (hm2,hf2,kh2,elq2)=>[(70,.box 114 [.int .i64 c.regions,slc 21 c.zones.length k_zones,slc 22 c.cells.length k_cells,slc 23 c.tenants.length k_tenants,slc 24 c.versions.length k_versions,slc 25 c.replicas.length k_replicas,slc 26 c.observers.length k_observers,.int .i64 c.blast,.int .i64 c.lease,.int .i64 c.bake,.int .i64 key,.bool false,.int .i64 0,.int .i64 0,zs0,.int .u64 0,.int .u64 0,.map (some 71)]),(71,.ext (.map .i64 true (hintF hm2))),(73,.row (1000000+92) 2 kh2 (fun k=>pairC (hf2 k))),(72,.box 116 [.int .i64 c.regions,slc 18 c.zones.length xk.cz,slc 17 c.cells.length xk.cc,slc 16 c.tenants.length xk.ct,slc 15 c.versions.length xk.cv,slc 14 c.replicas.length xk.cr,slc 13 c.observers.length xk.co,.int .i64 c.blast,.int .i64 c.lease,.int .i64 c.bake,.int .i64 key,.bool false,.int .i64 0,.int .i64 0,slc 69 0 0,.int .u64 0,.int .u64 0,slc 73 c.tenants.length kh2]),(69,.row (1000000+92) 2 0 elq2)],fun q=>match q with | (hm2,hf2,kh2,elq2)=>hm2=hmOf c.tenants.length hf2∧HfOk c.tenants.length hf2∧c.tenants.length≤kh2,?_,?_⟩
       ·refine .inl ⟨⟨c,xk,⟨k_zones,k_cells,k_tenants,k_versions,k_replicas,k_observers⟩,key,hf,c.tenants.length,0,0,0,aZ,0,0,fun _=>[]⟩,[],⟨⟨hV,hM.lens⟩,hH⟩,rfl,kp_,rfl,rfl,fun yp hyp=>?_⟩
        obtain⟨kp2,n0,e0⟩:=yp
        repeat (first | refine⟨fun _=>?_,fun h=>Bool.noConfusion h⟩ | refine⟨fun h=>Bool.noConfusion h,fun _=>?_⟩ | fail)
        refine .inl ⟨⟨c,xk,⟨k_zones,k_cells,k_tenants,k_versions,k_replicas,k_observers⟩,key,hf,c.tenants.length,0,0,0,aZ,0,0,fun _=>[]⟩,[],⟨⟨hV,hM.lens⟩,hH,Nat.le_refl _⟩,rfl,kp_,rfl,rfl,fun yq hyq=>?_⟩
        obtain⟨kh2,kq2,elq2⟩:=yq
        repeat (first | refine⟨fun _=>?_,fun h=>Bool.noConfusion h⟩ | refine⟨fun h=>Bool.noConfusion h,fun _=>?_⟩ | fail)
        exact⟨(hmOf c.tenants.length hf,ctF c.tenants.length hf,kh2,elq2),[(70,54),(71,55),(72,57),(73,58),(69,59)],⟨hmOf_ctF _ _,hH.cut,hyq⟩,⟨rfl,rfl⟩,kp_,kp_⟩
       rintro⟨hm2,hf2,kh2,elq2⟩ ⟨rfl,hH2,hkh⟩
       refine⟨⟨by decide,rfl,rfl⟩,?_⟩
       repeat (first | refine⟨fun _=>?_,fun h=>Bool.noConfusion h⟩ | refine⟨fun h=>Bool.noConfusion h,fun _=>?_⟩ | fail)
       refine⟨Int×HF×(Nat→List Value)×Option (Atl×Nat×Nat),fun q=>match q with | (j,_)=>[(20,.int .i64 j)],fun q=>match q with | (j,hf2,elq2,none)=>[(70,.box 114 [.int .i64 c.regions,slc 21 c.zones.length k_zones,slc 22 c.cells.length k_cells,slc 23 c.tenants.length k_tenants,slc 24 c.versions.length k_versions,slc 25 c.replicas.length k_replicas,slc 26 c.observers.length k_observers,.int .i64 c.blast,.int .i64 c.lease,.int .i64 c.bake,.int .i64 key,.bool false,.int .i64 0,.int .i64 0,zs0,.int .u64 0,.int .u64 0,.map (some 71)]),(71,.ext (.map .i64 true (hintF (hmOf c.tenants.length hf2)))),(73,.row (1000000+92) 2 kh2 (fun k=>pairC (hf2 k))),(72,.box 116 [.int .i64 c.regions,slc 18 c.zones.length xk.cz,slc 17 c.cells.length xk.cc,slc 16 c.tenants.length xk.ct,slc 15 c.versions.length xk.cv,slc 14 c.replicas.length xk.cr,slc 13 c.observers.length xk.co,.int .i64 c.blast,.int .i64 c.lease,.int .i64 c.bake,.int .i64 key,.bool false,.int .i64 0,.int .i64 0,slc 75 0 0,.int .u64 0,.int .u64 0,slc 73 c.tenants.length kh2]),(75,.row (1000000+92) 2 0 elq2)] | (j,hf2,elq2,some (A2,kp2,kq2))=>[(70,.box 114 [.int .i64 c.regions,slc 21 c.zones.length k_zones,slc 22 c.cells.length k_cells,slc 23 c.tenants.length k_tenants,slc 24 c.versions.length k_versions,slc 25 c.replicas.length k_replicas,slc 26 c.observers.length k_observers,.int .i64 c.blast,.int .i64 c.lease,.int .i64 c.bake,.int .i64 key,.bool true,.int .i64 A2.number,.int .i64 A2.tick,slc 74 A2.routes.length kp2,.int .u64 A2.parent,.int .u64 A2.sum,.map (some 71)]),(71,.ext (.map .i64 true (hintF (hmOf c.tenants.length hf2)))),(73,.row (1000000+92) 2 kh2 (fun k=>pairC (hf2 k))),(72,.box 116 [.int .i64 c.regions,slc 18 c.zones.length xk.cz,slc 17 c.cells.length xk.cc,slc 16 c.tenants.length xk.ct,slc 15 c.versions.length xk.cv,slc 14 c.replicas.length xk.cr,slc 13 c.observers.length xk.co,.int .i64 c.blast,.int .i64 c.lease,.int .i64 c.bake,.int .i64 key,.bool true,.int .i64 A2.number,.int .i64 A2.tick,slc 75 A2.routes.length kq2,.int .u64 A2.parent,.int .u64 A2.sum,slc 73 c.tenants.length kh2]),(74,rowOfL 500000 2 pairC (0,0) A2.routes),(75,.row (1000000+92) 2 kq2 elq2)],fun q=>match q with | (j,hf2,elq2,o2)=>(0≤j∧j≤sr.length)∧HfOk c.tenants.length hf2∧c.tenants.length≤kh2∧match o2 with | none=>True | some (A2,kp2,kq2)=>ValidA c A2 key∧A2.routes.length≤kq2∧∀ k,k<A2.routes.length→elq2 k=pairC (A2.routes.getD k (0,0)),fun q=>match q with | (j,_)=>((sr.length:Int)-j).toNat,⟨(0,hf2,elq2,none),[(75,69)],⟨by omega,hH2,hkh,trivial⟩,⟨rfl,rfl⟩,kp_,kp_⟩,?_⟩
       rintro⟨j,hf2,elq2,(_ | ⟨A2,kp2,kq2⟩)⟩ ⟨hj,hH2,hkh9,ho2⟩
       ·refine⟨⟨by decide,rfl,rfl⟩,?_⟩
        refine⟨fun hlt=>?_,fun hge=>?_⟩
        ·have hlt2:j<(sr.length:Int):=of_decide_eq_true hlt
         refine⟨⟨Nat.le_refl _,hj.1,hlt2⟩,?_⟩
         refine .inr (.inr ⟨⟨c,xk,⟨k_zones,k_cells,k_tenants,k_versions,k_replicas,k_observers⟩,key,hf2,kh2,xs,cps_xs,cap_xs,(sr.getD j.toNat default),aZ,0,0,elq2⟩,[(28,70),(27,71),(31,72),(30,73),(52,74),(53,75)],⟨⟨hV,hM.lens⟩,hH2,⟨hkh,hP,hM.valid⟩⟩,rfl,kp_,rfl,rfl,fun y hy=>?_⟩)
         rcases y with⟨hf3⟩ | ⟨hf3,A3,kp3,kq3,elq3⟩
         ·repeat (first | refine⟨fun _=>?_,fun h=>Bool.noConfusion h⟩ | refine⟨fun h=>Bool.noConfusion h,fun _=>?_⟩ | refine⟨⟨by first | exact Nat.le_refl _ | omega | fail,by first | omega | (dsimp only;omega) | fail,by first | omega | (dsimp only;omega) | fail⟩,?_⟩ | refine⟨fun q=>absurd q (by first | (simp[eqCs,eqC1];done) | fail),fun _=>?_⟩ | refine⟨fun _=>?_,fun q=>absurd q (by first | omega | (simp[-List.getD_eq_getElem?_getD];done) | (simp[-List.getD_eq_getElem?_getD];omega) | fail)⟩ | refine⟨fun q=>absurd q (by first | omega | (simp[-List.getD_eq_getElem?_getD];done) | (simp[-List.getD_eq_getElem?_getD];omega) | fail),fun _=>?_⟩ | fail)
          refine .inl ⟨⟨c,xk,⟨k_zones,k_cells,k_tenants,k_versions,k_replicas,k_observers⟩,key,hf,c.tenants.length,0,0,0,aZ,0,0,fun _=>[]⟩,[],⟨⟨hV,hM.lens⟩,hH,Nat.le_refl _⟩,rfl,kp_,rfl,rfl,fun u hu=>?_⟩
          repeat (first | refine⟨fun _=>?_,fun h=>Bool.noConfusion h⟩ | refine⟨fun h=>Bool.noConfusion h,fun _=>?_⟩ | refine⟨⟨by first | exact Nat.le_refl _ | omega | fail,by first | omega | (dsimp only;omega) | fail,by first | omega | (dsimp only;omega) | fail⟩,?_⟩ | refine⟨fun q=>absurd q (by first | (simp[eqCs,eqC1];done) | fail),fun _=>?_⟩ | refine⟨fun _=>?_,fun q=>absurd q (by first | omega | (simp[-List.getD_eq_getElem?_getD];done) | (simp[-List.getD_eq_getElem?_getD];omega) | fail)⟩ | refine⟨fun q=>absurd q (by first | omega | (simp[-List.getD_eq_getElem?_getD];done) | (simp[-List.getD_eq_getElem?_getD];omega) | fail),fun _=>?_⟩ | fail)
          refine⟨(IntKind.i64.wrap (j+1),hf3,elq2,none),[],?_,⟨rfl,rfl⟩,kp_,kp_⟩
          dsimp only
          rw[wrapi (n:=j+1) (by omega)]
          exact⟨⟨by omega,hy,hkh,trivial⟩,by omega⟩
         ·repeat (first | refine⟨fun _=>?_,fun h=>Bool.noConfusion h⟩ | refine⟨fun h=>Bool.noConfusion h,fun _=>?_⟩ | refine⟨⟨by first | exact Nat.le_refl _ | omega | fail,by first | omega | (dsimp only;omega) | fail,by first | omega | (dsimp only;omega) | fail⟩,?_⟩ | refine⟨fun q=>absurd q (by first | (simp[eqCs,eqC1];done) | fail),fun _=>?_⟩ | refine⟨fun _=>?_,fun q=>absurd q (by first | omega | (simp[-List.getD_eq_getElem?_getD];done) | (simp[-List.getD_eq_getElem?_getD];omega) | fail)⟩ | refine⟨fun q=>absurd q (by first | omega | (simp[-List.getD_eq_getElem?_getD];done) | (simp[-List.getD_eq_getElem?_getD];omega) | fail),fun _=>?_⟩ | fail)
          refine .inl ⟨⟨c,xk,⟨k_zones,k_cells,k_tenants,k_versions,k_replicas,k_observers⟩,key,hf,c.tenants.length,0,0,0,aZ,0,0,fun _=>[]⟩,[],⟨⟨hV,hM.lens⟩,hH,Nat.le_refl _⟩,rfl,kp_,rfl,rfl,fun u hu=>?_⟩
          repeat (first | refine⟨fun _=>?_,fun h=>Bool.noConfusion h⟩ | refine⟨fun h=>Bool.noConfusion h,fun _=>?_⟩ | refine⟨⟨by first | exact Nat.le_refl _ | omega | fail,by first | omega | (dsimp only;omega) | fail,by first | omega | (dsimp only;omega) | fail⟩,?_⟩ | refine⟨fun q=>absurd q (by first | (simp[eqCs,eqC1];done) | fail),fun _=>?_⟩ | refine⟨fun _=>?_,fun q=>absurd q (by first | omega | (simp[-List.getD_eq_getElem?_getD];done) | (simp[-List.getD_eq_getElem?_getD];omega) | fail)⟩ | refine⟨fun q=>absurd q (by first | omega | (simp[-List.getD_eq_getElem?_getD];done) | (simp[-List.getD_eq_getElem?_getD];omega) | fail),fun _=>?_⟩ | fail)
          refine⟨(IntKind.i64.wrap (j+1),hf3,elq3,some (A3,kp3,kq3)),[(74,76),(75,77)],?_,⟨rfl,rfl⟩,kp_,kp_⟩
          dsimp only
          rw[wrapi (n:=j+1) (by omega)]
          exact⟨⟨by omega,hy.1,hkh,hy.2⟩,by omega⟩
        ·exact⟨rfl,rfl⟩
       ·refine⟨⟨by decide,rfl,rfl⟩,?_⟩
        refine⟨fun hlt=>?_,fun hge=>?_⟩
        ·have hlt2:j<(sr.length:Int):=of_decide_eq_true hlt
         refine⟨⟨Nat.le_refl _,hj.1,hlt2⟩,?_⟩
         refine .inr (.inl ⟨⟨c,xk,⟨k_zones,k_cells,k_tenants,k_versions,k_replicas,k_observers⟩,key,hf2,kh2,xs,cps_xs,cap_xs,(sr.getD j.toNat default),A2,kp2,kq2,elq2⟩,[(28,70),(27,71),(31,72),(30,73),(52,74),(53,75)],⟨⟨hV,hM.lens⟩,hH2,⟨hkh,hP,hM.valid⟩,ho2⟩,rfl,kp_,rfl,rfl,fun y hy=>?_⟩)
         rcases y with⟨hf3⟩ | ⟨hf3,A3,kp3,kq3,elq3⟩
         ·repeat (first | refine⟨fun _=>?_,fun h=>Bool.noConfusion h⟩ | refine⟨fun h=>Bool.noConfusion h,fun _=>?_⟩ | refine⟨⟨by first | exact Nat.le_refl _ | omega | fail,by first | omega | (dsimp only;omega) | fail,by first | omega | (dsimp only;omega) | fail⟩,?_⟩ | refine⟨fun q=>absurd q (by first | (simp[eqCs,eqC1];done) | fail),fun _=>?_⟩ | refine⟨fun _=>?_,fun q=>absurd q (by first | omega | (simp[-List.getD_eq_getElem?_getD];done) | (simp[-List.getD_eq_getElem?_getD];omega) | fail)⟩ | refine⟨fun q=>absurd q (by first | omega | (simp[-List.getD_eq_getElem?_getD];done) | (simp[-List.getD_eq_getElem?_getD];omega) | fail),fun _=>?_⟩ | fail)
          refine .inl ⟨⟨c,xk,⟨k_zones,k_cells,k_tenants,k_versions,k_replicas,k_observers⟩,key,hf,c.tenants.length,0,0,0,aZ,0,0,fun _=>[]⟩,[],⟨⟨hV,hM.lens⟩,hH,Nat.le_refl _⟩,rfl,kp_,rfl,rfl,fun u hu=>?_⟩
          repeat (first | refine⟨fun _=>?_,fun h=>Bool.noConfusion h⟩ | refine⟨fun h=>Bool.noConfusion h,fun _=>?_⟩ | refine⟨⟨by first | exact Nat.le_refl _ | omega | fail,by first | omega | (dsimp only;omega) | fail,by first | omega | (dsimp only;omega) | fail⟩,?_⟩ | refine⟨fun q=>absurd q (by first | (simp[eqCs,eqC1];done) | fail),fun _=>?_⟩ | refine⟨fun _=>?_,fun q=>absurd q (by first | omega | (simp[-List.getD_eq_getElem?_getD];done) | (simp[-List.getD_eq_getElem?_getD];omega) | fail)⟩ | refine⟨fun q=>absurd q (by first | omega | (simp[-List.getD_eq_getElem?_getD];done) | (simp[-List.getD_eq_getElem?_getD];omega) | fail),fun _=>?_⟩ | fail)
          refine⟨(IntKind.i64.wrap (j+1),hf3,elq2,some (A2,kp2,kq2)),[],?_,⟨rfl,rfl⟩,kp_,kp_⟩
          dsimp only
          rw[wrapi (n:=j+1) (by omega)]
          exact⟨⟨by omega,hy,hkh,ho2⟩,by omega⟩
         ·repeat (first | refine⟨fun _=>?_,fun h=>Bool.noConfusion h⟩ | refine⟨fun h=>Bool.noConfusion h,fun _=>?_⟩ | refine⟨⟨by first | exact Nat.le_refl _ | omega | fail,by first | omega | (dsimp only;omega) | fail,by first | omega | (dsimp only;omega) | fail⟩,?_⟩ | refine⟨fun q=>absurd q (by first | (simp[eqCs,eqC1];done) | fail),fun _=>?_⟩ | refine⟨fun _=>?_,fun q=>absurd q (by first | omega | (simp[-List.getD_eq_getElem?_getD];done) | (simp[-List.getD_eq_getElem?_getD];omega) | fail)⟩ | refine⟨fun q=>absurd q (by first | omega | (simp[-List.getD_eq_getElem?_getD];done) | (simp[-List.getD_eq_getElem?_getD];omega) | fail),fun _=>?_⟩ | fail)
          refine .inl ⟨⟨c,xk,⟨k_zones,k_cells,k_tenants,k_versions,k_replicas,k_observers⟩,key,hf,c.tenants.length,0,0,0,aZ,0,0,fun _=>[]⟩,[],⟨⟨hV,hM.lens⟩,hH,Nat.le_refl _⟩,rfl,kp_,rfl,rfl,fun u hu=>?_⟩
          repeat (first | refine⟨fun _=>?_,fun h=>Bool.noConfusion h⟩ | refine⟨fun h=>Bool.noConfusion h,fun _=>?_⟩ | refine⟨⟨by first | exact Nat.le_refl _ | omega | fail,by first | omega | (dsimp only;omega) | fail,by first | omega | (dsimp only;omega) | fail⟩,?_⟩ | refine⟨fun q=>absurd q (by first | (simp[eqCs,eqC1];done) | fail),fun _=>?_⟩ | refine⟨fun _=>?_,fun q=>absurd q (by first | omega | (simp[-List.getD_eq_getElem?_getD];done) | (simp[-List.getD_eq_getElem?_getD];omega) | fail)⟩ | refine⟨fun q=>absurd q (by first | omega | (simp[-List.getD_eq_getElem?_getD];done) | (simp[-List.getD_eq_getElem?_getD];omega) | fail),fun _=>?_⟩ | fail)
          refine⟨(IntKind.i64.wrap (j+1),hf3,elq3,some (A3,kp3,kq3)),[(74,76),(75,77)],?_,⟨rfl,rfl⟩,kp_,kp_⟩
          dsimp only
          rw[wrapi (n:=j+1) (by omega)]
          exact⟨⟨by omega,hy.1,hkh,hy.2⟩,by omega⟩
        ·exact⟨rfl,rfl⟩
     ·obtain⟨hva,hkq,hel⟩:=ho
      refine⟨⟨by decide,rfl,rfl⟩,?_⟩
      refine⟨fun hlt=>?_,fun hge=>?_⟩
      ·have hlt2:i<(st.length:Int):=of_decide_eq_true hlt
       refine⟨⟨Nat.le_refl _,hi.1,hlt2⟩,?_⟩
       refine .inr (.inl ⟨⟨c,xk,⟨k_zones,k_cells,k_tenants,k_versions,k_replicas,k_observers⟩,key,hf,c.tenants.length,xs,cps_xs,cap_xs,(st.getD i.toNat default),A,kp,kq,elq⟩,[],⟨⟨hV,hM.lens⟩,hH,⟨Nat.le_refl _,hP,hM.valid⟩,hva,hkq,hel⟩,rfl,kp_,rfl,rfl,fun y hy=>?_⟩)
       rcases y with⟨hf2⟩ | ⟨hf2,A2,kp2,kq2,el2⟩
       ·repeat (first | refine⟨fun _=>?_,fun h=>Bool.noConfusion h⟩ | refine⟨fun h=>Bool.noConfusion h,fun _=>?_⟩ | refine⟨⟨by first | exact Nat.le_refl _ | omega | fail,by first | omega | (dsimp only;omega) | fail,by first | omega | (dsimp only;omega) | fail⟩,?_⟩ | refine⟨fun q=>absurd q (by first | (simp[eqCs,eqC1];done) | fail),fun _=>?_⟩ | refine⟨fun _=>?_,fun q=>absurd q (by first | omega | (simp[-List.getD_eq_getElem?_getD];done) | (simp[-List.getD_eq_getElem?_getD];omega) | fail)⟩ | refine⟨fun q=>absurd q (by first | omega | (simp[-List.getD_eq_getElem?_getD];done) | (simp[-List.getD_eq_getElem?_getD];omega) | fail),fun _=>?_⟩ | fail)
        refine⟨(IntKind.i64.wrap (i+1),hmOf c.tenants.length hf2,hf2,some (A,kp,kq,elq)),[],?_,⟨rfl,rfl⟩,kp_,kp_⟩
        dsimp only
        rw[wrapi (n:=i+1) (by omega)]
        exact⟨⟨⟨by omega,by omega⟩,⟨rfl,hy⟩,⟨hva,hkq,hel⟩⟩,by omega⟩
       ·repeat (first | refine⟨fun _=>?_,fun h=>Bool.noConfusion h⟩ | refine⟨fun h=>Bool.noConfusion h,fun _=>?_⟩ | refine⟨⟨by first | exact Nat.le_refl _ | omega | fail,by first | omega | (dsimp only;omega) | fail,by first | omega | (dsimp only;omega) | fail⟩,?_⟩ | refine⟨fun q=>absurd q (by first | (simp[eqCs,eqC1];done) | fail),fun _=>?_⟩ | refine⟨fun _=>?_,fun q=>absurd q (by first | omega | (simp[-List.getD_eq_getElem?_getD];done) | (simp[-List.getD_eq_getElem?_getD];omega) | fail)⟩ | refine⟨fun q=>absurd q (by first | omega | (simp[-List.getD_eq_getElem?_getD];done) | (simp[-List.getD_eq_getElem?_getD];omega) | fail),fun _=>?_⟩ | fail)
        refine⟨(IntKind.i64.wrap (i+1),hmOf c.tenants.length hf2,hf2,some (A2,kp2,kq2,el2)),[(52,54),(53,55)],?_,⟨rfl,rfl⟩,kp_,kp_⟩
        dsimp only
        rw[wrapi (n:=i+1) (by omega)]
        exact⟨⟨⟨by omega,by omega⟩,⟨rfl,hy.1⟩,hy.2⟩,by omega⟩
      ·clear hi hge
       refine⟨(Int→Option (Int×Int))×HF×Nat×(Nat→List Value)×Atl×Nat×Nat,fun _=>[(18,ptr 70),(19,ptr 72)],fun q=>match q with | (hm2,hf2,kh2,elq2,A2,kp2,kq2)=>[(70,.box 114 [.int .i64 c.regions,slc 21 c.zones.length k_zones,slc 22 c.cells.length k_cells,slc 23 c.tenants.length k_tenants,slc 24 c.versions.length k_versions,slc 25 c.replicas.length k_replicas,slc 26 c.observers.length k_observers,.int .i64 c.blast,.int .i64 c.lease,.int .i64 c.bake,.int .i64 key,.bool true,.int .i64 A2.number,.int .i64 A2.tick,slc 68 A2.routes.length kp2,.int .u64 A2.parent,.int .u64 A2.sum,.map (some 71)]),(71,.ext (.map .i64 true (hintF hm2))),(73,.row (1000000+92) 2 kh2 (fun k=>pairC (hf2 k))),(72,.box 116 [.int .i64 c.regions,slc 18 c.zones.length xk.cz,slc 17 c.cells.length xk.cc,slc 16 c.tenants.length xk.ct,slc 15 c.versions.length xk.cv,slc 14 c.replicas.length xk.cr,slc 13 c.observers.length xk.co,.int .i64 c.blast,.int .i64 c.lease,.int .i64 c.bake,.int .i64 key,.bool true,.int .i64 A2.number,.int .i64 A2.tick,slc 69 A2.routes.length kq2,.int .u64 A2.parent,.int .u64 A2.sum,slc 73 c.tenants.length kh2]),(68,rowOfL 500000 2 pairC (0,0) A2.routes),(69,.row (1000000+92) 2 kq2 elq2)],fun q=>match q with | (hm2,hf2,kh2,elq2,A2,kp2,kq2)=>hm2=hmOf c.tenants.length hf2∧HfOk c.tenants.length hf2∧c.tenants.length≤kh2∧ValidA c A2 key∧A2.routes.length≤kq2∧∀ k,k<A2.routes.length→elq2 k=pairC (A2.routes.getD k (0,0)),?_,?_⟩
       ·refine .inr ⟨⟨c,xk,⟨k_zones,k_cells,k_tenants,k_versions,k_replicas,k_observers⟩,key,hf,c.tenants.length,0,0,0,A,kp,kq,elq⟩,[],⟨⟨hV,hM.lens⟩,hH,hva,hkq,hel⟩,rfl,kp_,rfl,rfl,fun yp hyp=>?_⟩
        obtain⟨kp2,n0,e0⟩:=yp
        repeat (first | refine⟨fun _=>?_,fun h=>Bool.noConfusion h⟩ | refine⟨fun h=>Bool.noConfusion h,fun _=>?_⟩ | fail)
        refine .inr ⟨⟨c,xk,⟨k_zones,k_cells,k_tenants,k_versions,k_replicas,k_observers⟩,key,hf,c.tenants.length,0,0,0,A,kp,kq,elq⟩,[],⟨⟨hV,hM.lens⟩,hH,Nat.le_refl _,hva,hkq,hel⟩,rfl,kp_,rfl,rfl,fun yq hyq=>?_⟩
        obtain⟨kh2,kq2,elq2⟩:=yq
        repeat (first | refine⟨fun _=>?_,fun h=>Bool.noConfusion h⟩ | refine⟨fun h=>Bool.noConfusion h,fun _=>?_⟩ | fail)
        exact⟨(hmOf c.tenants.length hf,ctF c.tenants.length hf,kh2,elq2,A,kp2,kq2),[(70,54),(71,55),(72,57),(73,58),(68,56),(69,59)],⟨hmOf_ctF _ _,hH.cut,hyq.1,hva,hyq.2⟩,⟨rfl,rfl⟩,kp_,kp_⟩
       rintro⟨hm2,hf2,kh2,elq2,A2,kp2,kq2⟩ ⟨rfl,hH2,hkh,ho2⟩
       refine⟨⟨by decide,rfl,rfl⟩,?_⟩
       repeat (first | refine⟨fun _=>?_,fun h=>Bool.noConfusion h⟩ | refine⟨fun h=>Bool.noConfusion h,fun _=>?_⟩ | fail)
       refine⟨Int×HF×(Nat→List Value)×Option (Atl×Nat×Nat),fun q=>match q with | (j,_)=>[(20,.int .i64 j)],fun q=>match q with | (j,hf2,elq2,none)=>[(70,.box 114 [.int .i64 c.regions,slc 21 c.zones.length k_zones,slc 22 c.cells.length k_cells,slc 23 c.tenants.length k_tenants,slc 24 c.versions.length k_versions,slc 25 c.replicas.length k_replicas,slc 26 c.observers.length k_observers,.int .i64 c.blast,.int .i64 c.lease,.int .i64 c.bake,.int .i64 key,.bool false,.int .i64 0,.int .i64 0,zs0,.int .u64 0,.int .u64 0,.map (some 71)]),(71,.ext (.map .i64 true (hintF (hmOf c.tenants.length hf2)))),(73,.row (1000000+92) 2 kh2 (fun k=>pairC (hf2 k))),(72,.box 116 [.int .i64 c.regions,slc 18 c.zones.length xk.cz,slc 17 c.cells.length xk.cc,slc 16 c.tenants.length xk.ct,slc 15 c.versions.length xk.cv,slc 14 c.replicas.length xk.cr,slc 13 c.observers.length xk.co,.int .i64 c.blast,.int .i64 c.lease,.int .i64 c.bake,.int .i64 key,.bool false,.int .i64 0,.int .i64 0,slc 75 0 0,.int .u64 0,.int .u64 0,slc 73 c.tenants.length kh2]),(75,.row (1000000+92) 2 0 elq2)] | (j,hf2,elq2,some (A2,kp2,kq2))=>[(70,.box 114 [.int .i64 c.regions,slc 21 c.zones.length k_zones,slc 22 c.cells.length k_cells,slc 23 c.tenants.length k_tenants,slc 24 c.versions.length k_versions,slc 25 c.replicas.length k_replicas,slc 26 c.observers.length k_observers,.int .i64 c.blast,.int .i64 c.lease,.int .i64 c.bake,.int .i64 key,.bool true,.int .i64 A2.number,.int .i64 A2.tick,slc 74 A2.routes.length kp2,.int .u64 A2.parent,.int .u64 A2.sum,.map (some 71)]),(71,.ext (.map .i64 true (hintF (hmOf c.tenants.length hf2)))),(73,.row (1000000+92) 2 kh2 (fun k=>pairC (hf2 k))),(72,.box 116 [.int .i64 c.regions,slc 18 c.zones.length xk.cz,slc 17 c.cells.length xk.cc,slc 16 c.tenants.length xk.ct,slc 15 c.versions.length xk.cv,slc 14 c.replicas.length xk.cr,slc 13 c.observers.length xk.co,.int .i64 c.blast,.int .i64 c.lease,.int .i64 c.bake,.int .i64 key,.bool true,.int .i64 A2.number,.int .i64 A2.tick,slc 75 A2.routes.length kq2,.int .u64 A2.parent,.int .u64 A2.sum,slc 73 c.tenants.length kh2]),(74,rowOfL 500000 2 pairC (0,0) A2.routes),(75,.row (1000000+92) 2 kq2 elq2)],fun q=>match q with | (j,hf2,elq2,o2)=>(0≤j∧j≤sr.length)∧HfOk c.tenants.length hf2∧c.tenants.length≤kh2∧match o2 with | none=>False | some (A2,kp2,kq2)=>ValidA c A2 key∧A2.routes.length≤kq2∧∀ k,k<A2.routes.length→elq2 k=pairC (A2.routes.getD k (0,0)),fun q=>match q with | (j,_)=>((sr.length:Int)-j).toNat,⟨(0,hf2,elq2,some (A2,kp2,kq2)),[(74,68),(75,69)],⟨by omega,hH2,hkh,ho2⟩,⟨rfl,rfl⟩,kp_,kp_⟩,?_⟩
       rintro⟨j,hf2,elq2,(_ | ⟨A2,kp2,kq2⟩)⟩ ⟨hj,hH2,hkh9,ho2⟩
       ·exact ho2.elim
       ·refine⟨⟨by decide,rfl,rfl⟩,?_⟩
        refine⟨fun hlt=>?_,fun hge=>?_⟩
        ·have hlt2:j<(sr.length:Int):=of_decide_eq_true hlt
         refine⟨⟨Nat.le_refl _,hj.1,hlt2⟩,?_⟩
         refine .inr (.inl ⟨⟨c,xk,⟨k_zones,k_cells,k_tenants,k_versions,k_replicas,k_observers⟩,key,hf2,kh2,xs,cps_xs,cap_xs,(sr.getD j.toNat default),A2,kp2,kq2,elq2⟩,[(28,70),(27,71),(31,72),(30,73),(52,74),(53,75)],⟨⟨hV,hM.lens⟩,hH2,⟨hkh,hP,hM.valid⟩,ho2⟩,rfl,kp_,rfl,rfl,fun y hy=>?_⟩)
         rcases y with⟨hf3⟩ | ⟨hf3,A3,kp3,kq3,elq3⟩
         ·repeat (first | refine⟨fun _=>?_,fun h=>Bool.noConfusion h⟩ | refine⟨fun h=>Bool.noConfusion h,fun _=>?_⟩ | refine⟨⟨by first | exact Nat.le_refl _ | omega | fail,by first | omega | (dsimp only;omega) | fail,by first | omega | (dsimp only;omega) | fail⟩,?_⟩ | refine⟨fun q=>absurd q (by first | (simp[eqCs,eqC1];done) | fail),fun _=>?_⟩ | refine⟨fun _=>?_,fun q=>absurd q (by first | omega | (simp[-List.getD_eq_getElem?_getD];done) | (simp[-List.getD_eq_getElem?_getD];omega) | fail)⟩ | refine⟨fun q=>absurd q (by first | omega | (simp[-List.getD_eq_getElem?_getD];done) | (simp[-List.getD_eq_getElem?_getD];omega) | fail),fun _=>?_⟩ | fail)
          refine .inr (.inl ⟨⟨c,xk,⟨k_zones,k_cells,k_tenants,k_versions,k_replicas,k_observers⟩,key,hf,c.tenants.length,0,0,0,A,kp,kq,elq⟩,[],⟨⟨hV,hM.lens⟩,hH,Nat.le_refl _,hva,hkq,hel⟩,rfl,kp_,rfl,rfl,fun u hu=>?_⟩)
          repeat (first | refine⟨fun _=>?_,fun h=>Bool.noConfusion h⟩ | refine⟨fun h=>Bool.noConfusion h,fun _=>?_⟩ | refine⟨⟨by first | exact Nat.le_refl _ | omega | fail,by first | omega | (dsimp only;omega) | fail,by first | omega | (dsimp only;omega) | fail⟩,?_⟩ | refine⟨fun q=>absurd q (by first | (simp[eqCs,eqC1];done) | fail),fun _=>?_⟩ | refine⟨fun _=>?_,fun q=>absurd q (by first | omega | (simp[-List.getD_eq_getElem?_getD];done) | (simp[-List.getD_eq_getElem?_getD];omega) | fail)⟩ | refine⟨fun q=>absurd q (by first | omega | (simp[-List.getD_eq_getElem?_getD];done) | (simp[-List.getD_eq_getElem?_getD];omega) | fail),fun _=>?_⟩ | fail)
          refine⟨(IntKind.i64.wrap (j+1),hf3,elq2,some (A2,kp2,kq2)),[],?_,⟨rfl,rfl⟩,kp_,kp_⟩
          dsimp only
          rw[wrapi (n:=j+1) (by omega)]
          exact⟨⟨by omega,hy,hkh,ho2⟩,by omega⟩
         ·repeat (first | refine⟨fun _=>?_,fun h=>Bool.noConfusion h⟩ | refine⟨fun h=>Bool.noConfusion h,fun _=>?_⟩ | refine⟨⟨by first | exact Nat.le_refl _ | omega | fail,by first | omega | (dsimp only;omega) | fail,by first | omega | (dsimp only;omega) | fail⟩,?_⟩ | refine⟨fun q=>absurd q (by first | (simp[eqCs,eqC1];done) | fail),fun _=>?_⟩ | refine⟨fun _=>?_,fun q=>absurd q (by first | omega | (simp[-List.getD_eq_getElem?_getD];done) | (simp[-List.getD_eq_getElem?_getD];omega) | fail)⟩ | refine⟨fun q=>absurd q (by first | omega | (simp[-List.getD_eq_getElem?_getD];done) | (simp[-List.getD_eq_getElem?_getD];omega) | fail),fun _=>?_⟩ | fail)
          refine .inr (.inl ⟨⟨c,xk,⟨k_zones,k_cells,k_tenants,k_versions,k_replicas,k_observers⟩,key,hf,c.tenants.length,0,0,0,A,kp,kq,elq⟩,[],⟨⟨hV,hM.lens⟩,hH,Nat.le_refl _,hva,hkq,hel⟩,rfl,kp_,rfl,rfl,fun u hu=>?_⟩)
          repeat (first | refine⟨fun _=>?_,fun h=>Bool.noConfusion h⟩ | refine⟨fun h=>Bool.noConfusion h,fun _=>?_⟩ | refine⟨⟨by first | exact Nat.le_refl _ | omega | fail,by first | omega | (dsimp only;omega) | fail,by first | omega | (dsimp only;omega) | fail⟩,?_⟩ | refine⟨fun q=>absurd q (by first | (simp[eqCs,eqC1];done) | fail),fun _=>?_⟩ | refine⟨fun _=>?_,fun q=>absurd q (by first | omega | (simp[-List.getD_eq_getElem?_getD];done) | (simp[-List.getD_eq_getElem?_getD];omega) | fail)⟩ | refine⟨fun q=>absurd q (by first | omega | (simp[-List.getD_eq_getElem?_getD];done) | (simp[-List.getD_eq_getElem?_getD];omega) | fail),fun _=>?_⟩ | fail)
          refine⟨(IntKind.i64.wrap (j+1),hf3,elq3,some (A3,kp3,kq3)),[(74,76),(75,77)],?_,⟨rfl,rfl⟩,kp_,kp_⟩
          dsimp only
          rw[wrapi (n:=j+1) (by omega)]
          exact⟨⟨by omega,hy.1,hkh,hy.2⟩,by omega⟩
        ·exact⟨rfl,rfl⟩
theorem routerCopies_law (a0:Option Addr) (cap0:Nat) (z0:List Int) (a1:Option Addr) (cap1:Nat) (z1:List Int) (key:Int) (a3:Option Addr) (cap3:Nat) (z3:List CS) (a4:Option Addr) (cap4:Nat) (z4:List CS) (W:World) (hr0:Rd W (·<W.heap.size) a0 (z0.map (Value.int .i64))) (hm0:z0.length≤maxLen) (hr1:Rd W (·<W.heap.size) a1 (z1.map (Value.int .i64))) (hm1:z1.length≤maxLen) {Q:Prop} (_hq:Q) (hr3:Rd W (·<W.heap.size) a3 (flat csC z3)) (hm3:z3.length≤maxLen) (hr4:Rd W (·<W.heap.size) a4 (flat csC z4)) (hm4:z4.length≤maxLen) :
  Calls Tryz.prog 4 #[.slice a0 z0.length cap0,.slice a1 z1.length cap1,.int .i64 key,.slice a3 z3.length cap3,.slice a4 z4.length cap4] W fun e w'=>e=.returned (.bool true)∧Below W.heap.size W w':=by
 rw[← flat_ints] at hr0 hr1
 have h:=uni_calls ttPok pcFok Tryz.func4 rfl (D:=pcD) (by kernel_rfl) (vs:=[slc 0 z0.length cap0,slc 1 z1.length cap1,.int .i64 key,slc 10 z3.length cap3,slc 12 z4.length cap4]) rfl { a0:=a0,a1:=a1,y:={ noA with ac:=a3 },y2:={ noA with ac:=a4 } } { l0:=z0,l1:=z1,s:={ noS with cells:=z3 },s2:={ noS with cells:=z4 } } W { r0:=hr0,r1:=hr1,s:={ noS_ok W (·<W.heap.size) with cells:=hr3 },s2:={ noS_ok W (·<W.heap.size) with cells:=hr4 } } (fun v hv=>by
  simp only[List.mem_cons,List.not_mem_nil,or_false] at hv
  rcases hv with rfl | rfl | rfl | rfl | rfl
  ·exact⟨show (0:Nat)<13 by decide,rfl⟩
  ·exact⟨show (1:Nat)<13 by decide,rfl⟩
  ·trivial
  ·exact⟨show (10:Nat)<13 by decide,rfl⟩
  ·exact⟨show (12:Nat)<13 by decide,rfl⟩) (rcops_sx cap0 cap1 cap3 cap4 z0 z1 z3 z4 key hm0 hm1 hm3 hm4)
 refine h.mono ?_
 rintro e w' ⟨v,mem',nx',ρ',rfl,rfl,hv,hm',hb⟩
 exact⟨rfl,hb⟩
end Go.Proofs.YtchhdflealgkaaaGreat
