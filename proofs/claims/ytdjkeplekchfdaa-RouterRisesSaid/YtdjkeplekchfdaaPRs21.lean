import Derived.Test.YtdjkeplekchfdaaPu19
import Derived.Test.YtdjkeplekchfdaaPu20
namespace Go.Proofs.Ytdjkeplekchfdaa
open Go.RowKit
set_option linter.unusedSimpArgs false
set_option linter.unusedVariables false
/-! law16.RouterRises -/
def rsOf (xs:List Atl):Option (Nat×Nat)→List (Int×Int)
 | none=>[]
 | some (m,_)=>(xs.getD m aZ).routes
def nmOf (xs:List Atl):Option (Nat×Nat)→Int
 | none=>-1
 | some (m,_)=>(xs.getD m aZ).number
def okO (xs:List Atl):Option (Nat×Nat)→Prop
 | none=>True
 | some (m,_)=>m<xs.length
theorem CopyP.route {c:Cfg} {key:Int} {xs:List Atl} (hP:CopyP c key xs) (hE:cfgErr c=0) {k:Nat} (hk:k<xs.length) {t:Nat} (ht:t<c.tenants.length):0≤((xs.getD k aZ).routes.getD t (0,0)).2∧-1≤((xs.getD k aZ).routes.getD t (0,0)).1:=by
 have:=(hP.valid hE hk).r t (by rw[hP.len hk];exact ht)
 unfold RouteOk at this
 omega
theorem CopyP.num0 {c:Cfg} {key:Int} {xs:List Atl} (hP:CopyP c key xs) {k:Nat} (hk:k<xs.length):0≤(xs.getD k aZ).number:=by
 have:=hP.ge k hk
 omega
def HiOk (nt:Nat) (hm:Int→Option (Int×Int)):Prop:=∀ z p,hm z=some p→0≤z∧z<nt
theorem HiOk.del {nt:Nat} {hm:Int→Option (Int×Int)} (h:HiOk nt hm) (rs:List (Int×Int)):HiOk nt (delH hm rs):=fun z p q=>h z p (delH_in q)
theorem HiOk.put {nt:Nat} {hm:Int→Option (Int×Int)} (h:HiOk nt hm) {z:Int} (h0:0≤z∧z<nt) (p:Int×Int):HiOk nt (putH hm z p):=fun y q e=>by
 unfold putH at e
 by_cases g:y=z
 ·subst g;exact h0
 ·rw[if_neg g] at e;exact h y q e
def KnOk (nt:Nat) (kn:Nat→Int) (hm:Int→Option (Int×Int)) (rs:List (Int×Int)):Prop:=∀ t:Nat,t<nt→kn t≤keE hm rs t
theorem KnOk.up {nt:Nat} {kn:Nat→Int} {hm hm':Int→Option (Int×Int)} {rs rs':List (Int×Int)} (h:KnOk nt kn hm rs) (h2:∀ t:Nat,t<nt→keE hm rs t≤keE hm' rs' t):KnOk nt kn hm' rs':=fun t ht=>Int.le_trans (h t ht) (h2 t ht)
theorem KnOk.new (nt:Nat) (xs:List Atl):KnOk nt (fun _=>0) (fun _=>none) (rsOf xs none):=fun t ht=>by
 unfold keE rsOf
 simp
theorem HiOk.new (nt:Nat):HiOk nt (fun _=>none):=fun z p h=>by cases h
def setN (kn:Nat→Int) (i:Nat) (v:Int):Nat→Int:=fun j=>if j=i then v else kn j
theorem setEl_fn (kn:Nat→Int) (i:Nat) (v:Int):setEl (fun k=>intC (kn k)) i (intC v)=fun k=>intC (setN kn i v k):=by
 funext j
 unfold setEl setN
 by_cases h:j=i
 ·subst h;simp
 ·rw[if_neg h,show Nat.beq j i=false from Bool.eq_false_iff.2 fun q=>h (Nat.eq_of_beq_eq_true q)]
theorem KnOk.set {nt:Nat} {kn:Nat→Int} {hm:Int→Option (Int×Int)} {rs:List (Int×Int)} (h:KnOk nt kn hm rs) {i:Nat} {v:Int} (hv:v≤keE hm rs i):KnOk nt (setN kn i v) hm rs:=fun t ht=>by
 unfold setN
 by_cases g:t=i
 ·subst g;rw[if_pos rfl];exact hv
 ·rw[if_neg g];exact h t ht
theorem rise_take {c:Cfg} {key:Int} {xs:List Atl} (hP:CopyU c key xs) (hE:cfgErr c=0) {hm:Int→Option (Int×Int)} {o:Option (Nat×Nat)} (ho:okO xs o) {j:Nat} (hj:j<xs.length) (hn:nmOf xs o<(xs.getD j aZ).number):∀ t:Nat,t<c.tenants.length→keE hm (rsOf xs o) t≤keE (delH hm (xs.getD j aZ).routes) (xs.getD j aZ).routes t:=fun t ht=>by
 refine keE_take ?_
 rw[Int.toNat_natCast]
 cases o with
 | none=>exact (hP.cp.route hE hj ht).1
 | some q=>
  obtain⟨m,k⟩:=q
  have hm2:m<xs.length:=ho
  refine hP.mono ht j hj ?_
  by_cases g:m≤j
  ·exact g
  ·have:=hP.cp.mono (j:=j) m hm2 (by omega)
   have h3:(xs.getD m aZ).number<(xs.getD j aZ).number:=hn
   omega
def rsF16:FT:=[(13,ctLight),(14,ctAwake16),(16,ctConfig),(31,ctMod),(17,ctRN),(36,ctCopiesU),(37,ctTkW),(38,ctLn),(39,ctNb),(40,ctRt)]
def rsD16:List (Nat×DQ):=[(9000000,{ k:=0,L:=[17,37,38,39,40] }),(1000010,{ k:=32,L:=[0,1,2,3,4,5,6,7,8,9,10,11,12],sl:=[] }),(3000011,{ k:=33,L:=[0,1,2,3,4,5,6,7,8,9,10,11,12,21,22,23,24,25,26,29,30],sl:=[2,3,10,12,13] }),
 (15,{ k:=19,L:=[0,1,2,3,4,5,6,7,8,9,10,11,12,13,14,15,16,17,18,19,20,21,22,23,24,25,26,27,28,29,30,31,32,33,34,35,36,37,38,39,40,41,42,43,44,45,46,47,48,49,50,51,52,53,54,55,56,57,58,59,60],pre:=[(0,false),(1,false),(2,false),(3,false),(4,false),(5,false),(7,false),(8,false),(9,false),(10,false),(11,false),(13,false),(14,false),(15,false),(16,false),(17,false),(6,true),(12,true),(18,true)] }),
 (4000016,{ k:=34,L:=[0,1,2,3,4,5,6,7,8,9,10,11,12,21,22,23,24,25,26,29,30,31],sl:=[2,3,10,12,13,14,15] }),
 (2000020,{ k:=0,L:=[0,1,2,3,4,5,6,7,8,9,10,11,12,21,22,23,24,25,26,27,28,29,30,33],sl:=[2,3,10,12,13,14,15] }),
 (23,{ k:=8,L:=[0,1,2,3,4,5,6,7,8,9,10,11,12,13,14,15,16,17,18,19,20,21,22,23,24,25,26,27,28,29,30,31,32,33,34,35,36,37,38,39,40,41,42,43,44,45,46,47,48,49,50,51,52,53,54,55,56,57,58,59,60],pre:=[(0,false),(1,false),(2,false),(3,false),(4,false),(5,false),(6,false),(7,false)] })]
theorem rsFok16:FTokI Try.prog rsF16 (inlOf rsD16):=fti_cons (lightOk.i _) (fti_cons (awake16Ok.i _) (fti_cons (configOk.i _) (fti_cons (modOk.i _) (fti_cons (rnOk (by decide)) (fti_cons (copiesUOk.i _) (fti_cons (tkWOk (by decide)) (fti_cons (lnOk (by decide)) (fti_cons (nbOk (by decide)) (fti_cons (rtOk (by decide)) fti_nil)))))))))
set_option maxRecDepth 100000 in
set_option maxHeartbeats 16000000 in
theorem rises_sx (cap0 cap1 cap2:Nat) (l more:List Int) (st:List CS) (key:Int) (hm0:l.length≤maxLen) (hm1:more.length≤maxLen) (hm2:st.length≤maxLen) :
  sx ttS rsF16 rsD16 (bodyOf Try.f7) (argF 0 [slc 0 l.length cap0,slc 1 more.length cap1,.int .i64 key,slc 10 st.length cap2]) (uniM { l0:=l,l1:=more,s:={ noS with cells:=st } }) 13 (endx ttS Try.f7.results.toList fun v _ _=>v=.bool true):=by
 refine⟨0,cap0,l,rfl,rfl,hm0,?_⟩
 refine⟨fun h=>?_,fun h0=>?_⟩
 ·repeat (first | refine⟨fun _=>?_,fun h=>Bool.noConfusion h⟩ | refine⟨fun h=>Bool.noConfusion h,fun _=>?_⟩ | fail)
  exact⟨rfl,rfl⟩
 ·refine⟨1,cap1,more,rfl,rfl,hm1,?_⟩
  refine⟨fun h=>?_,fun h1=>?_⟩
  ·repeat (first | refine⟨fun _=>?_,fun h=>Bool.noConfusion h⟩ | refine⟨fun h=>Bool.noConfusion h,fun _=>?_⟩ | fail)
   exact⟨rfl,rfl⟩
  ·refine⟨fun h=>?_,fun h2=>?_⟩
   ·exact⟨rfl,rfl⟩
   ·have hl0:l.length≤200:=by simpa using h0
    have hl1:more.length≤200:=by simpa using h1
    have hl2:st.length≤40:=by have:=of_decide_eq_false h2;omega
    clear h0 h1 h2 hm0 hm1 hm2
    refine⟨0,cap0,l,rfl,rfl,by omega,?_⟩
    intro xk c hM
    have hV:=cfgV_of hM.valid
    have hnt:=hV.nt
    have hnc:=hV.nc
    have hm1:=hM.zones
    have hm2:=hM.cells
    have hm3:=hM.tenants
    have hm4:=hM.versions
    have hm5:=hM.replicas
    have hm6:=hM.observers
    refine⟨_,c,rfl,.has (N:=⟨18,17,16,15,14,13,500000⟩) (x:=xk) (HasCfg.keeps kp_),hM.lens,?_⟩
    refine⟨fun q=>absurd q (by rw[hM.valid];decide),fun _=>?_⟩
    refine⟨_,c.zones,rfl,.inr (.inl ⟨18,_,rfl,.list rfl⟩),by omega,fun k_zones=>?_⟩
    refine⟨_,c.cells,rfl,.inr (.inl ⟨17,_,rfl,.list rfl⟩),by omega,fun k_cells=>?_⟩
    refine⟨_,c.tenants,rfl,.inr (.inl ⟨16,_,rfl,.list rfl⟩),by omega,fun k_tenants=>?_⟩
    refine⟨_,c.versions,rfl,.inr (.inl ⟨15,_,rfl,.list rfl⟩),by omega,fun k_versions=>?_⟩
    refine⟨_,c.replicas,rfl,.inr (.inl ⟨14,_,rfl,.list rfl⟩),by omega,fun k_replicas=>?_⟩
    refine⟨_,c.observers,rfl,.inr (.inl ⟨13,_,rfl,.list rfl⟩),by omega,fun k_observers=>?_⟩
    repeat (first | refine⟨fun _=>?_,fun h=>Bool.noConfusion h⟩ | refine⟨fun h=>Bool.noConfusion h,fun _=>?_⟩ | fail)
    refine⟨⟨18,17,16,15,14,13,500000⟩,xk,c,_,more,key,rfl,⟨HasCfg.keeps kp_,.inr (.inl ⟨1,_,rfl,⟨_,_,_,rfl,Nat.le_refl _,fun k hk=>rfl⟩⟩)⟩,⟨hV,by omega⟩,fun xs cps_xs cap_xs hP=>?_⟩
    refine⟨⟨Int.le_refl _,by omega,by show (c.tenants.length:Int) * 8≤281474976710656;omega⟩,?_⟩
    refine⟨List Atl×List Nat×Nat,fun q=>match q with | (xs,cps_xs,cap_xs)=>[(2,.int .i64 key),(3,slc 10 st.length cap2),(10,ptr 28),(12,.slice (some ⟨30,0,none⟩) xs.length cap_xs),(13,slc 31 c.tenants.length c.tenants.length),(14,.int .i64 (-1))],fun q=>match q with | (xs,cps_xs,cap_xs)=>[(28,.box 110 [.int .i64 c.regions,slc 21 c.zones.length k_zones,slc 22 c.cells.length k_cells,slc 23 c.tenants.length k_tenants,slc 24 c.versions.length k_versions,slc 25 c.replicas.length k_replicas,slc 26 c.observers.length k_observers,.int .i64 c.blast,.int .i64 c.lease,.int .i64 c.bake,.int .i64 key,.bool false,.int .i64 0,.int .i64 0,zs0,.int .u64 0,.int .u64 0,.map (some 27)]),(21,rowOfL 500000 1 intC 0 c.zones),(22,rowOfL 500000 2 pairC (0,0) c.cells),(23,rowOfL 500000 7 tenC default c.tenants),(24,rowOfL 500000 2 pairC (0,0) c.versions),(25,rowOfL 500000 1 intC 0 c.replicas),(26,rowOfL 500000 1 intC 0 c.observers),(27,.ext (.map .i64 true fun _=>none)),(29,famB 500000 xs),(30,deepA 500000 0 xs cps_xs 29),(31,.row (1000000+3) 1 c.tenants.length (fun k=>intC (0)))],fun q=>match q with | (xs,cps_xs,cap_xs)=>CopyU c key xs,?_,?_⟩
    ·exact⟨(xs,cps_xs,cap_xs),hP,kp_,kp_⟩
    rintro⟨xs,cps_xs,cap_xs⟩ hP
    refine⟨⟨by decide,rfl,rfl⟩,?_⟩
    have hx1:=hP.cp.ne
    have hx2:=hP.cp.le
    refine⟨Int×(Int→Option (Int×Int))×Option (Nat×Nat)×(Nat→Int)×Int,fun q=>match q with | (i,hm,o,kn,nu)=>[(15,.int .i64 i),(14,.int .i64 nu)],fun q=>match q with | (i,hm,none,kn,nu)=>[(28,.box 110 [.int .i64 c.regions,slc 21 c.zones.length k_zones,slc 22 c.cells.length k_cells,slc 23 c.tenants.length k_tenants,slc 24 c.versions.length k_versions,slc 25 c.replicas.length k_replicas,slc 26 c.observers.length k_observers,.int .i64 c.blast,.int .i64 c.lease,.int .i64 c.bake,.int .i64 key,.bool false,.int .i64 0,.int .i64 0,zs0,.int .u64 0,.int .u64 0,.map (some 27)]),(27,.ext (.map .i64 true (hintF hm))),(31,.row (1000000+3) 1 c.tenants.length (fun k=>intC (kn k)))] | (i,hm,some (m,k1),kn,nu)=>[(32,rowOfL 500000 2 pairC (0,0) (xs.getD m aZ).routes),(28,.box 110 [.int .i64 c.regions,slc 21 c.zones.length k_zones,slc 22 c.cells.length k_cells,slc 23 c.tenants.length k_tenants,slc 24 c.versions.length k_versions,slc 25 c.replicas.length k_replicas,slc 26 c.observers.length k_observers,.int .i64 c.blast,.int .i64 c.lease,.int .i64 c.bake,.int .i64 key,.bool true,.int .i64 (xs.getD m aZ).number,.int .i64 (xs.getD m aZ).tick,slc 32 (xs.getD m aZ).routes.length k1,.int .u64 (xs.getD m aZ).parent,.int .u64 (xs.getD m aZ).sum,.map (some 27)]),(27,.ext (.map .i64 true (hintF hm))),(31,.row (1000000+3) 1 c.tenants.length (fun k=>intC (kn k)))],fun q=>match q with | (i,hm,o,kn,nu)=>(0≤i∧i≤st.length)∧okO xs o∧HiOk c.tenants.length hm∧KnOk c.tenants.length kn hm (rsOf xs o)∧nu=nmOf xs o,fun q=>match q with | (i,hm,o,kn,nu)=>((st.length:Int)-i).toNat,⟨(0,fun _=>none,none,fun _=>0,-1),[],⟨by omega,trivial,HiOk.new _,KnOk.new _ _,rfl⟩,⟨rfl,rfl⟩,kp_,kp_⟩,?_⟩
    rintro⟨i,hm,(_ | ⟨m,k1⟩),kn,nu⟩ ⟨hi,ho,hH,hK,rfl⟩
    ·refine⟨⟨by decide,rfl,rfl⟩,?_⟩
     refine⟨fun hlt=>?_,fun hge=>?_⟩
     ·have hlt2:i<(st.length:Int):=of_decide_eq_true hlt
      refine⟨(Int→Option (Int×Int))×Option (Nat×Nat),fun _=>[],fun q=>match q with | (hm2,none)=>[(28,.box 110 [.int .i64 c.regions,slc 21 c.zones.length k_zones,slc 22 c.cells.length k_cells,slc 23 c.tenants.length k_tenants,slc 24 c.versions.length k_versions,slc 25 c.replicas.length k_replicas,slc 26 c.observers.length k_observers,.int .i64 c.blast,.int .i64 c.lease,.int .i64 c.bake,.int .i64 key,.bool false,.int .i64 0,.int .i64 0,zs0,.int .u64 0,.int .u64 0,.map (some 27)]),(27,.ext (.map .i64 true (hintF hm2)))] | (hm2,some (m2,k2))=>[(33,rowOfL 500000 2 pairC (0,0) (xs.getD m2 aZ).routes),(28,.box 110 [.int .i64 c.regions,slc 21 c.zones.length k_zones,slc 22 c.cells.length k_cells,slc 23 c.tenants.length k_tenants,slc 24 c.versions.length k_versions,slc 25 c.replicas.length k_replicas,slc 26 c.observers.length k_observers,.int .i64 c.blast,.int .i64 c.lease,.int .i64 c.bake,.int .i64 key,.bool true,.int .i64 (xs.getD m2 aZ).number,.int .i64 (xs.getD m2 aZ).tick,slc 33 (xs.getD m2 aZ).routes.length k2,.int .u64 (xs.getD m2 aZ).parent,.int .u64 (xs.getD m2 aZ).sum,.map (some 27)]),(27,.ext (.map .i64 true (hintF hm2)))],fun q=>match q with | (hm2,o2)=>okO xs o2∧HiOk c.tenants.length hm2∧KnOk c.tenants.length kn hm2 (rsOf xs o2)∧nmOf xs none≤nmOf xs o2,?_,?_⟩
      ·refine⟨⟨Nat.le_refl _,hi.1,hlt2⟩,?_⟩
       refine⟨fun _=>?_,fun _=>?_⟩
       ·refine⟨⟨Nat.le_refl _,hi.1,hlt2⟩,?_⟩
        refine⟨_,_,rfl,⟨by omega,by omega⟩,?_⟩
        have hj:0≤(st.getD i.toNat default).running % (xs.length:Int)∧(st.getD i.toNat default).running % (xs.length:Int)<xs.length:=⟨Int.emod_nonneg _ (by omega),Int.emod_lt_of_pos _ (by omega)⟩
        have hjn:((st.getD i.toNat default).running % (xs.length:Int)).toNat<xs.length:=by omega
        refine⟨⟨Nat.le_refl _,hj.1,hj.2⟩,?_⟩
        refine⟨_,c,(xs.getD ((st.getD i.toNat default).running % (xs.length:Int)).toNat aZ),_,key,rfl,⟨⟨_,_,_,_,_,_,rfl,⟨.inr (.inl ⟨21,_,rfl,.list rfl⟩),.inr (.inl ⟨22,_,rfl,.list rfl⟩),.inr (.inl ⟨23,_,rfl,.list rfl⟩)⟩,.inr (.inl ⟨24,_,rfl,.list rfl⟩),.inr (.inl ⟨25,_,rfl,.list rfl⟩),.inr (.inl ⟨26,_,rfl,.list rfl⟩)⟩,.fam rfl⟩,hM.lens,fun b hb=>?_⟩
        obtain rfl:b=true:=hb.2 (hP.cp.valid hM.valid hjn)
        repeat (first | refine⟨fun _=>?_,fun h=>Bool.noConfusion h⟩ | refine⟨fun h=>Bool.noConfusion h,fun _=>?_⟩ | fail)
        have hnj:nmOf xs none<(xs.getD ((st.getD i.toNat default).running % (xs.length:Int)).toNat aZ).number:=by have:=hP.cp.num0 hjn;show (-1:Int)<_;omega
        refine⟨_,(xs.getD ((st.getD i.toNat default).running % (xs.length:Int)).toNat aZ).routes,rfl,.fam rfl,by rw[hP.cp.len hjn];omega,fun k2=>?_⟩
        refine⟨kp_,?_⟩
        refine⟨27,hm,33,_,_,_,_,_,34,(xs.getD ((st.getD i.toNat default).running % (xs.length:Int)).toNat aZ).routes,rfl,rfl,rfl,.list rfl,by rw[hP.cp.len hjn];exact hH,?_⟩
        have hup:=rise_take hP hM.valid (hm:=hm) (o:=none) ho hjn hnj
        exact⟨(delH hm (xs.getD ((st.getD i.toNat default).running % (xs.length:Int)).toNat aZ).routes,some (((st.getD i.toNat default).running % (xs.length:Int)).toNat,k2)),[(33,34)],⟨hjn,hH.del _,hK.up hup,by show nmOf xs none≤(xs.getD ((st.getD i.toNat default).running % (xs.length:Int)).toNat aZ).number;omega⟩,⟨rfl,rfl⟩,kp_,kp_⟩
       ·refine⟨⟨Nat.le_refl _,hi.1,hlt2⟩,?_⟩
        refine⟨⟨Nat.le_refl _,hi.1,hlt2⟩,?_⟩
        refine⟨⟨Nat.le_refl _,hi.1,hlt2⟩,?_⟩
        refine⟨_,6,rfl,⟨by decide,by decide⟩,?_⟩
        refine⟨kp_,?_⟩
        refine⟨_,8,rfl,⟨by decide,by decide⟩,?_⟩
        refine⟨kp_,?_⟩
        refine⟨_,9,rfl,⟨by decide,by decide⟩,?_⟩
        refine⟨kp_,?_⟩
        have hq1:0≤(st.getD i.toNat default).running % 6∧(st.getD i.toNat default).running % 6<6:=by omega
        have hq2:0≤(st.getD i.toNat default).wanted % 8:=by omega
        have hq3:(st.getD i.toNat default).since % 9<9:=by omega
        by_cases g1:(st.getD i.toNat default).running % 6≥(c.tenants.length:Int)
        ·refine⟨fun q=>absurd q (by simp[-List.getD_eq_getElem?_getD];omega),fun _=>?_⟩
         refine⟨fun _=>?_,fun q=>absurd q (by simp[-List.getD_eq_getElem?_getD];omega)⟩
         repeat (first | refine⟨fun _=>?_,fun h=>Bool.noConfusion h⟩ | refine⟨fun h=>Bool.noConfusion h,fun _=>?_⟩ | fail)
         exact⟨(hm,none),[],⟨ho,hH,hK,Int.le_refl _⟩,⟨rfl,rfl⟩,kp_,kp_⟩
        ·by_cases g2:(st.getD i.toNat default).wanted % 8≥(c.cells.length:Int)
         ·refine⟨fun q=>absurd q (by simp[-List.getD_eq_getElem?_getD];omega),fun _=>?_⟩
          refine⟨fun q=>absurd q (by simp[-List.getD_eq_getElem?_getD];omega),fun _=>?_⟩
          refine⟨fun q=>absurd q (by simp[-List.getD_eq_getElem?_getD];omega),fun _=>?_⟩
          refine⟨fun _=>?_,fun q=>absurd q (by simp[-List.getD_eq_getElem?_getD];omega)⟩
          repeat (first | refine⟨fun _=>?_,fun h=>Bool.noConfusion h⟩ | refine⟨fun h=>Bool.noConfusion h,fun _=>?_⟩ | fail)
          exact⟨(hm,none),[],⟨ho,hH,hK,Int.le_refl _⟩,⟨rfl,rfl⟩,kp_,kp_⟩
         ·refine⟨fun q=>absurd q (by simp[-List.getD_eq_getElem?_getD];omega),fun _=>?_⟩
          refine⟨fun q=>absurd q (by simp[-List.getD_eq_getElem?_getD];omega),fun _=>?_⟩
          refine⟨fun q=>absurd q (by simp[-List.getD_eq_getElem?_getD];omega),fun _=>?_⟩
          refine⟨fun q=>absurd q (by simp[-List.getD_eq_getElem?_getD];omega),fun _=>?_⟩
          refine⟨fun q=>absurd q (by simp[-List.getD_eq_getElem?_getD];omega),fun _=>?_⟩
          refine⟨fun l hl=>?_,fun hl=>?_⟩
          ·obtain⟨p,hp,rfl⟩:=hintF_some hl
           repeat (first | refine⟨fun _=>?_,fun h=>Bool.noConfusion h⟩ | refine⟨fun h=>Bool.noConfusion h,fun _=>?_⟩ | fail)
           have hkE:keE hm (rsOf xs none) ((st.getD i.toNat default).running % 6)=p.2:=keE_some hp
           by_cases g3:(st.getD i.toNat default).since % 9≤p.2
           ·refine⟨fun _=>?_,fun q=>absurd q (by simp[-List.getD_eq_getElem?_getD];omega)⟩
            exact⟨(hm,none),[],⟨ho,hH,hK,Int.le_refl _⟩,⟨rfl,rfl⟩,kp_,kp_⟩
           ·refine⟨fun q=>absurd q (by simp[-List.getD_eq_getElem?_getD];omega),fun _=>?_⟩
            refine⟨hintF (putH hm ((st.getD i.toNat default).running % 6) ((st.getD i.toNat default).wanted % 8,(st.getD i.toNat default).since % 9)),putH_put hm ((st.getD i.toNat default).running % 6) ((st.getD i.toNat default).wanted % 8,(st.getD i.toNat default).since % 9),?_⟩
            exact⟨(putH hm ((st.getD i.toNat default).running % 6) ((st.getD i.toNat default).wanted % 8,(st.getD i.toNat default).since % 9),none),[],⟨ho,hH.put ⟨hq1.1,by omega⟩ _,hK.up fun t ht=>keE_put (by rw[hkE];show _≤(st.getD i.toNat default).since % 9;omega),Int.le_refl _⟩,⟨rfl,rfl⟩,kp_,kp_⟩
          ·have hp:=hintF_none hl
           repeat (first | refine⟨fun _=>?_,fun h=>Bool.noConfusion h⟩ | refine⟨fun h=>Bool.noConfusion h,fun _=>?_⟩ | fail)
           have hkE:keE hm (rsOf xs none) ((st.getD i.toNat default).running % 6)=0:=by rw[keE_none hp];show ([].getD _ (0,0)).2=(0:Int);simp
           by_cases g3:(st.getD i.toNat default).since % 9≤0
           ·refine⟨fun _=>?_,fun q=>absurd q (by simp[-List.getD_eq_getElem?_getD];omega)⟩
            exact⟨(hm,none),[],⟨ho,hH,hK,Int.le_refl _⟩,⟨rfl,rfl⟩,kp_,kp_⟩
           ·refine⟨fun q=>absurd q (by simp[-List.getD_eq_getElem?_getD];omega),fun _=>?_⟩
            refine⟨hintF (putH hm ((st.getD i.toNat default).running % 6) ((st.getD i.toNat default).wanted % 8,(st.getD i.toNat default).since % 9)),putH_put hm ((st.getD i.toNat default).running % 6) ((st.getD i.toNat default).wanted % 8,(st.getD i.toNat default).since % 9),?_⟩
            exact⟨(putH hm ((st.getD i.toNat default).running % 6) ((st.getD i.toNat default).wanted % 8,(st.getD i.toNat default).since % 9),none),[],⟨ho,hH.put ⟨hq1.1,by omega⟩ _,hK.up fun t ht=>keE_put (by rw[hkE];show _≤(st.getD i.toNat default).since % 9;omega),Int.le_refl _⟩,⟨rfl,rfl⟩,kp_,kp_⟩
      rintro⟨hm2,(_ | ⟨m2,k2⟩)⟩ ⟨ho2,hH2,hK2,hnm⟩
      ·refine⟨⟨by decide,rfl,rfl⟩,?_⟩
       repeat (first | refine⟨fun _=>?_,fun h=>Bool.noConfusion h⟩ | refine⟨fun h=>Bool.noConfusion h,fun _=>?_⟩ | fail)
       first | refine⟨fun q=>absurd (of_decide_eq_true q) (Int.not_lt.2 hnm),fun _=>?_⟩ | skip
       repeat (first | refine⟨fun _=>?_,fun h=>Bool.noConfusion h⟩ | refine⟨fun h=>Bool.noConfusion h,fun _=>?_⟩ | fail)
       refine⟨Int×(Nat→Int),fun q=>match q with | (t,kn2)=>[(16,.int .i64 t)],fun q=>match q with | (t,kn2)=>[(31,.row (1000000+3) 1 c.tenants.length (fun k=>intC (kn2 k)))],fun q=>match q with | (t,kn2)=>(0≤t∧t≤c.tenants.length)∧KnOk c.tenants.length kn2 hm2 (rsOf xs none),fun q=>match q with | (t,kn2)=>((c.tenants.length:Int)-t).toNat,⟨(0,kn),⟨by omega,hK2⟩,kp_,kp_⟩,?_⟩
       rintro⟨t,kn2⟩ ⟨ht,hK3⟩
       refine⟨⟨rfl,rfl⟩,?_⟩
       refine⟨fun hlt3=>?_,fun hge3=>?_⟩
       ·have hlt4:t<(c.tenants.length:Int):=of_decide_eq_true hlt3
        have ht2:((t.toNat:Nat):Int)=t:=by omega
        have hkt:=hK3 t.toNat (by omega)
        rw[ht2] at hkt
        refine⟨fun l hl=>?_,fun hl=>?_⟩
        ·obtain⟨p,hp,rfl⟩:=hintF_some hl
         have hke:=keE_some (rs:=rsOf xs none) hp
         rw[hke] at hkt
         repeat (first | refine⟨fun _=>?_,fun h=>Bool.noConfusion h⟩ | refine⟨fun h=>Bool.noConfusion h,fun _=>?_⟩ | fail)
         refine⟨⟨Nat.le_refl _,ht.1,hlt4⟩,?_⟩
         refine⟨fun q=>absurd (of_decide_eq_true q) (Int.not_lt.2 hkt),fun _=>?_⟩
         repeat (first | refine⟨fun _=>?_,fun h=>Bool.noConfusion h⟩ | refine⟨fun h=>Bool.noConfusion h,fun _=>?_⟩ | fail)
         refine⟨⟨Nat.le_refl _,ht.1,hlt4⟩,?_⟩
         refine⟨intC (p).2,rfl,?_⟩
         rw[setEl_fn]
         refine⟨(IntKind.i64.wrap (t+1),setN kn2 t.toNat (p).2),?_,kp_,kp_⟩
         rw[wrapi (n:=t+1) (by omega)]
         dsimp only
         exact⟨⟨⟨by omega,by omega⟩,hK3.set (by rw[ht2,hke];exact Int.le_refl _)⟩,by omega⟩
        ·have hp:=hintF_none hl
         have hke:=keE_none (rs:=rsOf xs none) hp
         rw[hke] at hkt
         repeat (first | refine⟨fun _=>?_,fun h=>Bool.noConfusion h⟩ | refine⟨fun h=>Bool.noConfusion h,fun _=>?_⟩ | fail)
         refine⟨fun q=>absurd (of_decide_eq_true q) (by omega),fun _=>?_⟩
         refine⟨fun _=>?_,fun q=>absurd (decide_eq_true (show t≥0 from ht.1)) (by rw[show decide (t≥0)=false from q];decide)⟩
         repeat (first | refine⟨fun _=>?_,fun h=>Bool.noConfusion h⟩ | refine⟨fun h=>Bool.noConfusion h,fun _=>?_⟩ | fail)
         refine⟨(IntKind.i64.wrap (t+1),kn2),?_,kp_,kp_⟩
         rw[wrapi (n:=t+1) (by omega)]
         dsimp only
         exact⟨⟨⟨by omega,by omega⟩,hK3⟩,by omega⟩
       ·refine⟨(IntKind.i64.wrap (i+1),hm2,none,kn2,nmOf xs none),[],?_,⟨rfl,rfl⟩,kp_,kp_⟩
        dsimp only
        rw[wrapi (n:=i+1) (by omega)]
        exact⟨⟨⟨by omega,by omega⟩,ho2,hH2,hK3,rfl⟩,by omega⟩
      ·refine⟨⟨by decide,rfl,rfl⟩,?_⟩
       repeat (first | refine⟨fun _=>?_,fun h=>Bool.noConfusion h⟩ | refine⟨fun h=>Bool.noConfusion h,fun _=>?_⟩ | fail)
       first | refine⟨fun q=>absurd (of_decide_eq_true q) (Int.not_lt.2 hnm),fun _=>?_⟩ | skip
       repeat (first | refine⟨fun _=>?_,fun h=>Bool.noConfusion h⟩ | refine⟨fun h=>Bool.noConfusion h,fun _=>?_⟩ | fail)
       refine⟨Int×(Nat→Int),fun q=>match q with | (t,kn2)=>[(16,.int .i64 t)],fun q=>match q with | (t,kn2)=>[(31,.row (1000000+3) 1 c.tenants.length (fun k=>intC (kn2 k)))],fun q=>match q with | (t,kn2)=>(0≤t∧t≤c.tenants.length)∧KnOk c.tenants.length kn2 hm2 (rsOf xs (some (m2,k2))),fun q=>match q with | (t,kn2)=>((c.tenants.length:Int)-t).toNat,⟨(0,kn),⟨by omega,hK2⟩,kp_,kp_⟩,?_⟩
       rintro⟨t,kn2⟩ ⟨ht,hK3⟩
       refine⟨⟨rfl,rfl⟩,?_⟩
       refine⟨fun hlt3=>?_,fun hge3=>?_⟩
       ·have hlt4:t<(c.tenants.length:Int):=of_decide_eq_true hlt3
        have ht2:((t.toNat:Nat):Int)=t:=by omega
        have hkt:=hK3 t.toNat (by omega)
        rw[ht2] at hkt
        refine⟨fun l hl=>?_,fun hl=>?_⟩
        ·obtain⟨p,hp,rfl⟩:=hintF_some hl
         have hke:=keE_some (rs:=rsOf xs (some (m2,k2))) hp
         rw[hke] at hkt
         repeat (first | refine⟨fun _=>?_,fun h=>Bool.noConfusion h⟩ | refine⟨fun h=>Bool.noConfusion h,fun _=>?_⟩ | fail)
         refine⟨⟨Nat.le_refl _,ht.1,hlt4⟩,?_⟩
         refine⟨fun q=>absurd (of_decide_eq_true q) (Int.not_lt.2 hkt),fun _=>?_⟩
         repeat (first | refine⟨fun _=>?_,fun h=>Bool.noConfusion h⟩ | refine⟨fun h=>Bool.noConfusion h,fun _=>?_⟩ | fail)
         refine⟨⟨Nat.le_refl _,ht.1,hlt4⟩,?_⟩
         refine⟨intC (p).2,rfl,?_⟩
         rw[setEl_fn]
         refine⟨(IntKind.i64.wrap (t+1),setN kn2 t.toNat (p).2),?_,kp_,kp_⟩
         rw[wrapi (n:=t+1) (by omega)]
         dsimp only
         exact⟨⟨⟨by omega,by omega⟩,hK3.set (by rw[ht2,hke];exact Int.le_refl _)⟩,by omega⟩
        ·have hp:=hintF_none hl
         have hke:=keE_none (rs:=rsOf xs (some (m2,k2))) hp
         rw[hke] at hkt
         repeat (first | refine⟨fun _=>?_,fun h=>Bool.noConfusion h⟩ | refine⟨fun h=>Bool.noConfusion h,fun _=>?_⟩ | fail)
         refine⟨fun q=>absurd (of_decide_eq_true q) (by omega),fun _=>?_⟩
         have hml:=hP.cp.len (show m2<xs.length from ho2)
         refine⟨fun q=>absurd (of_decide_eq_true q) (by rw[hml];omega),fun _=>?_⟩
         refine⟨⟨Nat.le_refl _,ht.1,by rw[hml];exact hlt4⟩,?_⟩
         refine⟨fun hc=>?_,fun hc=>?_⟩
         ·repeat (first | refine⟨fun _=>?_,fun h=>Bool.noConfusion h⟩ | refine⟨fun h=>Bool.noConfusion h,fun _=>?_⟩ | fail)
          refine⟨(IntKind.i64.wrap (t+1),kn2),?_,kp_,kp_⟩
          rw[wrapi (n:=t+1) (by omega)]
          dsimp only
          exact⟨⟨⟨by omega,by omega⟩,hK3⟩,by omega⟩
         ·refine⟨⟨Nat.le_refl _,ht.1,by rw[hml];exact hlt4⟩,?_⟩
          repeat (first | refine⟨fun _=>?_,fun h=>Bool.noConfusion h⟩ | refine⟨fun h=>Bool.noConfusion h,fun _=>?_⟩ | fail)
          refine⟨⟨Nat.le_refl _,ht.1,hlt4⟩,?_⟩
          refine⟨fun q=>absurd (of_decide_eq_true q) (Int.not_lt.2 hkt),fun _=>?_⟩
          repeat (first | refine⟨fun _=>?_,fun h=>Bool.noConfusion h⟩ | refine⟨fun h=>Bool.noConfusion h,fun _=>?_⟩ | fail)
          refine⟨⟨Nat.le_refl _,ht.1,hlt4⟩,?_⟩
          refine⟨intC ((xs.getD m2 aZ).routes.getD t.toNat (0,0)).2,rfl,?_⟩
          rw[setEl_fn]
          refine⟨(IntKind.i64.wrap (t+1),setN kn2 t.toNat ((xs.getD m2 aZ).routes.getD t.toNat (0,0)).2),?_,kp_,kp_⟩
          rw[wrapi (n:=t+1) (by omega)]
          dsimp only
          exact⟨⟨⟨by omega,by omega⟩,hK3.set (by rw[ht2,hke];exact Int.le_refl _)⟩,by omega⟩
       ·refine⟨(IntKind.i64.wrap (i+1),hm2,(some (m2,k2)),kn2,nmOf xs (some (m2,k2))),[(32,33)],?_,⟨rfl,rfl⟩,kp_,kp_⟩
        dsimp only
        rw[wrapi (n:=i+1) (by omega)]
        exact⟨⟨⟨by omega,by omega⟩,ho2,hH2,hK3,rfl⟩,by omega⟩
     ·exact⟨rfl,rfl⟩
    ·refine⟨⟨by decide,rfl,rfl⟩,?_⟩
     refine⟨fun hlt=>?_,fun hge=>?_⟩
     ·have hlt2:i<(st.length:Int):=of_decide_eq_true hlt
      refine⟨(Int→Option (Int×Int))×Option (Nat×Nat),fun _=>[],fun q=>match q with | (hm2,none)=>[(28,.box 110 [.int .i64 c.regions,slc 21 c.zones.length k_zones,slc 22 c.cells.length k_cells,slc 23 c.tenants.length k_tenants,slc 24 c.versions.length k_versions,slc 25 c.replicas.length k_replicas,slc 26 c.observers.length k_observers,.int .i64 c.blast,.int .i64 c.lease,.int .i64 c.bake,.int .i64 key,.bool false,.int .i64 0,.int .i64 0,zs0,.int .u64 0,.int .u64 0,.map (some 27)]),(27,.ext (.map .i64 true (hintF hm2)))] | (hm2,some (m2,k2))=>[(33,rowOfL 500000 2 pairC (0,0) (xs.getD m2 aZ).routes),(28,.box 110 [.int .i64 c.regions,slc 21 c.zones.length k_zones,slc 22 c.cells.length k_cells,slc 23 c.tenants.length k_tenants,slc 24 c.versions.length k_versions,slc 25 c.replicas.length k_replicas,slc 26 c.observers.length k_observers,.int .i64 c.blast,.int .i64 c.lease,.int .i64 c.bake,.int .i64 key,.bool true,.int .i64 (xs.getD m2 aZ).number,.int .i64 (xs.getD m2 aZ).tick,slc 33 (xs.getD m2 aZ).routes.length k2,.int .u64 (xs.getD m2 aZ).parent,.int .u64 (xs.getD m2 aZ).sum,.map (some 27)]),(27,.ext (.map .i64 true (hintF hm2)))],fun q=>match q with | (hm2,o2)=>okO xs o2∧HiOk c.tenants.length hm2∧KnOk c.tenants.length kn hm2 (rsOf xs o2)∧nmOf xs (some (m,k1))≤nmOf xs o2,?_,?_⟩
      ·refine⟨⟨Nat.le_refl _,hi.1,hlt2⟩,?_⟩
       refine⟨fun _=>?_,fun _=>?_⟩
       ·refine⟨⟨Nat.le_refl _,hi.1,hlt2⟩,?_⟩
        refine⟨_,_,rfl,⟨by omega,by omega⟩,?_⟩
        have hj:0≤(st.getD i.toNat default).running % (xs.length:Int)∧(st.getD i.toNat default).running % (xs.length:Int)<xs.length:=⟨Int.emod_nonneg _ (by omega),Int.emod_lt_of_pos _ (by omega)⟩
        have hjn:((st.getD i.toNat default).running % (xs.length:Int)).toNat<xs.length:=by omega
        refine⟨⟨Nat.le_refl _,hj.1,hj.2⟩,?_⟩
        refine⟨_,c,(xs.getD ((st.getD i.toNat default).running % (xs.length:Int)).toNat aZ),_,key,rfl,⟨⟨_,_,_,_,_,_,rfl,⟨.inr (.inl ⟨21,_,rfl,.list rfl⟩),.inr (.inl ⟨22,_,rfl,.list rfl⟩),.inr (.inl ⟨23,_,rfl,.list rfl⟩)⟩,.inr (.inl ⟨24,_,rfl,.list rfl⟩),.inr (.inl ⟨25,_,rfl,.list rfl⟩),.inr (.inl ⟨26,_,rfl,.list rfl⟩)⟩,.fam rfl⟩,hM.lens,fun b hb=>?_⟩
        obtain rfl:b=true:=hb.2 (hP.cp.valid hM.valid hjn)
        repeat (first | refine⟨fun _=>?_,fun h=>Bool.noConfusion h⟩ | refine⟨fun h=>Bool.noConfusion h,fun _=>?_⟩ | fail)
        refine⟨fun hg=>?_,fun hg=>?_⟩
        ·exact⟨(hm,(some (m,k1))),[(33,32)],⟨ho,hH,hK,Int.le_refl _⟩,⟨rfl,rfl⟩,kp_,kp_⟩
        ·have hnj:nmOf xs (some (m,k1))<(xs.getD ((st.getD i.toNat default).running % (xs.length:Int)).toNat aZ).number:=by exact Int.not_le.1 (of_decide_eq_false hg)
         refine⟨_,(xs.getD ((st.getD i.toNat default).running % (xs.length:Int)).toNat aZ).routes,rfl,.fam rfl,by rw[hP.cp.len hjn];omega,fun k2=>?_⟩
         refine⟨kp_,?_⟩
         refine⟨27,hm,33,_,_,_,_,_,34,(xs.getD ((st.getD i.toNat default).running % (xs.length:Int)).toNat aZ).routes,rfl,rfl,rfl,.list rfl,by rw[hP.cp.len hjn];exact hH,?_⟩
         have hup:=rise_take hP hM.valid (hm:=hm) (o:=(some (m,k1))) ho hjn hnj
         exact⟨(delH hm (xs.getD ((st.getD i.toNat default).running % (xs.length:Int)).toNat aZ).routes,some (((st.getD i.toNat default).running % (xs.length:Int)).toNat,k2)),[(33,34)],⟨hjn,hH.del _,hK.up hup,by show nmOf xs (some (m,k1))≤(xs.getD ((st.getD i.toNat default).running % (xs.length:Int)).toNat aZ).number;omega⟩,⟨rfl,rfl⟩,kp_,kp_⟩
       ·refine⟨⟨Nat.le_refl _,hi.1,hlt2⟩,?_⟩
        refine⟨⟨Nat.le_refl _,hi.1,hlt2⟩,?_⟩
        refine⟨⟨Nat.le_refl _,hi.1,hlt2⟩,?_⟩
        refine⟨_,6,rfl,⟨by decide,by decide⟩,?_⟩
        refine⟨kp_,?_⟩
        refine⟨_,8,rfl,⟨by decide,by decide⟩,?_⟩
        refine⟨kp_,?_⟩
        refine⟨_,9,rfl,⟨by decide,by decide⟩,?_⟩
        refine⟨kp_,?_⟩
        have hq1:0≤(st.getD i.toNat default).running % 6∧(st.getD i.toNat default).running % 6<6:=by omega
        have hq2:0≤(st.getD i.toNat default).wanted % 8:=by omega
        have hq3:(st.getD i.toNat default).since % 9<9:=by omega
        by_cases g1:(st.getD i.toNat default).running % 6≥(c.tenants.length:Int)
        ·refine⟨fun q=>absurd q (by simp[-List.getD_eq_getElem?_getD];omega),fun _=>?_⟩
         refine⟨fun _=>?_,fun q=>absurd q (by simp[-List.getD_eq_getElem?_getD];omega)⟩
         repeat (first | refine⟨fun _=>?_,fun h=>Bool.noConfusion h⟩ | refine⟨fun h=>Bool.noConfusion h,fun _=>?_⟩ | fail)
         exact⟨(hm,(some (m,k1))),[(33,32)],⟨ho,hH,hK,Int.le_refl _⟩,⟨rfl,rfl⟩,kp_,kp_⟩
        ·by_cases g2:(st.getD i.toNat default).wanted % 8≥(c.cells.length:Int)
         ·refine⟨fun q=>absurd q (by simp[-List.getD_eq_getElem?_getD];omega),fun _=>?_⟩
          refine⟨fun q=>absurd q (by simp[-List.getD_eq_getElem?_getD];omega),fun _=>?_⟩
          refine⟨fun q=>absurd q (by simp[-List.getD_eq_getElem?_getD];omega),fun _=>?_⟩
          refine⟨fun _=>?_,fun q=>absurd q (by simp[-List.getD_eq_getElem?_getD];omega)⟩
          repeat (first | refine⟨fun _=>?_,fun h=>Bool.noConfusion h⟩ | refine⟨fun h=>Bool.noConfusion h,fun _=>?_⟩ | fail)
          exact⟨(hm,(some (m,k1))),[(33,32)],⟨ho,hH,hK,Int.le_refl _⟩,⟨rfl,rfl⟩,kp_,kp_⟩
         ·refine⟨fun q=>absurd q (by simp[-List.getD_eq_getElem?_getD];omega),fun _=>?_⟩
          refine⟨fun q=>absurd q (by simp[-List.getD_eq_getElem?_getD];omega),fun _=>?_⟩
          refine⟨fun q=>absurd q (by simp[-List.getD_eq_getElem?_getD];omega),fun _=>?_⟩
          refine⟨fun q=>absurd q (by simp[-List.getD_eq_getElem?_getD];omega),fun _=>?_⟩
          refine⟨fun q=>absurd q (by simp[-List.getD_eq_getElem?_getD];omega),fun _=>?_⟩
          refine⟨fun l hl=>?_,fun hl=>?_⟩
          ·obtain⟨p,hp,rfl⟩:=hintF_some hl
           repeat (first | refine⟨fun _=>?_,fun h=>Bool.noConfusion h⟩ | refine⟨fun h=>Bool.noConfusion h,fun _=>?_⟩ | fail)
           have hkE:keE hm (rsOf xs (some (m,k1))) ((st.getD i.toNat default).running % 6)=p.2:=keE_some hp
           by_cases g3:(st.getD i.toNat default).since % 9≤p.2
           ·refine⟨fun _=>?_,fun q=>absurd q (by simp[-List.getD_eq_getElem?_getD];omega)⟩
            exact⟨(hm,(some (m,k1))),[(33,32)],⟨ho,hH,hK,Int.le_refl _⟩,⟨rfl,rfl⟩,kp_,kp_⟩
           ·refine⟨fun q=>absurd q (by simp[-List.getD_eq_getElem?_getD];omega),fun _=>?_⟩
            refine⟨hintF (putH hm ((st.getD i.toNat default).running % 6) ((st.getD i.toNat default).wanted % 8,(st.getD i.toNat default).since % 9)),putH_put hm ((st.getD i.toNat default).running % 6) ((st.getD i.toNat default).wanted % 8,(st.getD i.toNat default).since % 9),?_⟩
            exact⟨(putH hm ((st.getD i.toNat default).running % 6) ((st.getD i.toNat default).wanted % 8,(st.getD i.toNat default).since % 9),(some (m,k1))),[(33,32)],⟨ho,hH.put ⟨hq1.1,by omega⟩ _,hK.up fun t ht=>keE_put (by rw[hkE];show _≤(st.getD i.toNat default).since % 9;omega),Int.le_refl _⟩,⟨rfl,rfl⟩,kp_,kp_⟩
          ·have hp:=hintF_none hl
           have hml:=hP.cp.len (show m<xs.length from ho)
           repeat (first | refine⟨fun _=>?_,fun h=>Bool.noConfusion h⟩ | refine⟨fun h=>Bool.noConfusion h,fun _=>?_⟩ | fail)
           refine⟨⟨Nat.le_refl _,hq1.1,by rw[hml];exact Int.not_le.1 g1⟩,?_⟩
           have hkE:keE hm (rsOf xs (some (m,k1))) ((st.getD i.toNat default).running % 6)=((xs.getD m aZ).routes.getD ((st.getD i.toNat default).running % 6).toNat (0,0)).2:=keE_none hp
           by_cases g3:(st.getD i.toNat default).since % 9≤((xs.getD m aZ).routes.getD ((st.getD i.toNat default).running % 6).toNat (0,0)).2
           ·refine⟨fun _=>?_,fun q=>absurd q (by simp[-List.getD_eq_getElem?_getD];omega)⟩
            exact⟨(hm,(some (m,k1))),[(33,32)],⟨ho,hH,hK,Int.le_refl _⟩,⟨rfl,rfl⟩,kp_,kp_⟩
           ·refine⟨fun q=>absurd q (by simp[-List.getD_eq_getElem?_getD];omega),fun _=>?_⟩
            refine⟨hintF (putH hm ((st.getD i.toNat default).running % 6) ((st.getD i.toNat default).wanted % 8,(st.getD i.toNat default).since % 9)),putH_put hm ((st.getD i.toNat default).running % 6) ((st.getD i.toNat default).wanted % 8,(st.getD i.toNat default).since % 9),?_⟩
            exact⟨(putH hm ((st.getD i.toNat default).running % 6) ((st.getD i.toNat default).wanted % 8,(st.getD i.toNat default).since % 9),(some (m,k1))),[(33,32)],⟨ho,hH.put ⟨hq1.1,by omega⟩ _,hK.up fun t ht=>keE_put (by rw[hkE];show _≤(st.getD i.toNat default).since % 9;omega),Int.le_refl _⟩,⟨rfl,rfl⟩,kp_,kp_⟩
      rintro⟨hm2,(_ | ⟨m2,k2⟩)⟩ ⟨ho2,hH2,hK2,hnm⟩
      ·refine⟨⟨by decide,rfl,rfl⟩,?_⟩
       repeat (first | refine⟨fun _=>?_,fun h=>Bool.noConfusion h⟩ | refine⟨fun h=>Bool.noConfusion h,fun _=>?_⟩ | fail)
       first | refine⟨fun q=>absurd (of_decide_eq_true q) (Int.not_lt.2 hnm),fun _=>?_⟩ | skip
       repeat (first | refine⟨fun _=>?_,fun h=>Bool.noConfusion h⟩ | refine⟨fun h=>Bool.noConfusion h,fun _=>?_⟩ | fail)
       refine⟨Int×(Nat→Int),fun q=>match q with | (t,kn2)=>[(16,.int .i64 t)],fun q=>match q with | (t,kn2)=>[(31,.row (1000000+3) 1 c.tenants.length (fun k=>intC (kn2 k)))],fun q=>match q with | (t,kn2)=>(0≤t∧t≤c.tenants.length)∧KnOk c.tenants.length kn2 hm2 (rsOf xs none),fun q=>match q with | (t,kn2)=>((c.tenants.length:Int)-t).toNat,⟨(0,kn),⟨by omega,hK2⟩,kp_,kp_⟩,?_⟩
       rintro⟨t,kn2⟩ ⟨ht,hK3⟩
       refine⟨⟨rfl,rfl⟩,?_⟩
       refine⟨fun hlt3=>?_,fun hge3=>?_⟩
       ·have hlt4:t<(c.tenants.length:Int):=of_decide_eq_true hlt3
        have ht2:((t.toNat:Nat):Int)=t:=by omega
        have hkt:=hK3 t.toNat (by omega)
        rw[ht2] at hkt
        refine⟨fun l hl=>?_,fun hl=>?_⟩
        ·obtain⟨p,hp,rfl⟩:=hintF_some hl
         have hke:=keE_some (rs:=rsOf xs none) hp
         rw[hke] at hkt
         repeat (first | refine⟨fun _=>?_,fun h=>Bool.noConfusion h⟩ | refine⟨fun h=>Bool.noConfusion h,fun _=>?_⟩ | fail)
         refine⟨⟨Nat.le_refl _,ht.1,hlt4⟩,?_⟩
         refine⟨fun q=>absurd (of_decide_eq_true q) (Int.not_lt.2 hkt),fun _=>?_⟩
         repeat (first | refine⟨fun _=>?_,fun h=>Bool.noConfusion h⟩ | refine⟨fun h=>Bool.noConfusion h,fun _=>?_⟩ | fail)
         refine⟨⟨Nat.le_refl _,ht.1,hlt4⟩,?_⟩
         refine⟨intC (p).2,rfl,?_⟩
         rw[setEl_fn]
         refine⟨(IntKind.i64.wrap (t+1),setN kn2 t.toNat (p).2),?_,kp_,kp_⟩
         rw[wrapi (n:=t+1) (by omega)]
         dsimp only
         exact⟨⟨⟨by omega,by omega⟩,hK3.set (by rw[ht2,hke];exact Int.le_refl _)⟩,by omega⟩
        ·have hp:=hintF_none hl
         have hke:=keE_none (rs:=rsOf xs none) hp
         rw[hke] at hkt
         repeat (first | refine⟨fun _=>?_,fun h=>Bool.noConfusion h⟩ | refine⟨fun h=>Bool.noConfusion h,fun _=>?_⟩ | fail)
         refine⟨fun q=>absurd (of_decide_eq_true q) (by omega),fun _=>?_⟩
         refine⟨fun _=>?_,fun q=>absurd (decide_eq_true (show t≥0 from ht.1)) (by rw[show decide (t≥0)=false from q];decide)⟩
         repeat (first | refine⟨fun _=>?_,fun h=>Bool.noConfusion h⟩ | refine⟨fun h=>Bool.noConfusion h,fun _=>?_⟩ | fail)
         refine⟨(IntKind.i64.wrap (t+1),kn2),?_,kp_,kp_⟩
         rw[wrapi (n:=t+1) (by omega)]
         dsimp only
         exact⟨⟨⟨by omega,by omega⟩,hK3⟩,by omega⟩
       ·refine⟨(IntKind.i64.wrap (i+1),hm2,none,kn2,nmOf xs none),[],?_,⟨rfl,rfl⟩,kp_,kp_⟩
        dsimp only
        rw[wrapi (n:=i+1) (by omega)]
        exact⟨⟨⟨by omega,by omega⟩,ho2,hH2,hK3,rfl⟩,by omega⟩
      ·refine⟨⟨by decide,rfl,rfl⟩,?_⟩
       repeat (first | refine⟨fun _=>?_,fun h=>Bool.noConfusion h⟩ | refine⟨fun h=>Bool.noConfusion h,fun _=>?_⟩ | fail)
       first | refine⟨fun q=>absurd (of_decide_eq_true q) (Int.not_lt.2 hnm),fun _=>?_⟩ | skip
       repeat (first | refine⟨fun _=>?_,fun h=>Bool.noConfusion h⟩ | refine⟨fun h=>Bool.noConfusion h,fun _=>?_⟩ | fail)
       refine⟨Int×(Nat→Int),fun q=>match q with | (t,kn2)=>[(16,.int .i64 t)],fun q=>match q with | (t,kn2)=>[(31,.row (1000000+3) 1 c.tenants.length (fun k=>intC (kn2 k)))],fun q=>match q with | (t,kn2)=>(0≤t∧t≤c.tenants.length)∧KnOk c.tenants.length kn2 hm2 (rsOf xs (some (m2,k2))),fun q=>match q with | (t,kn2)=>((c.tenants.length:Int)-t).toNat,⟨(0,kn),⟨by omega,hK2⟩,kp_,kp_⟩,?_⟩
       rintro⟨t,kn2⟩ ⟨ht,hK3⟩
       refine⟨⟨rfl,rfl⟩,?_⟩
       refine⟨fun hlt3=>?_,fun hge3=>?_⟩
       ·have hlt4:t<(c.tenants.length:Int):=of_decide_eq_true hlt3
        have ht2:((t.toNat:Nat):Int)=t:=by omega
        have hkt:=hK3 t.toNat (by omega)
        rw[ht2] at hkt
        refine⟨fun l hl=>?_,fun hl=>?_⟩
        ·obtain⟨p,hp,rfl⟩:=hintF_some hl
         have hke:=keE_some (rs:=rsOf xs (some (m2,k2))) hp
         rw[hke] at hkt
         repeat (first | refine⟨fun _=>?_,fun h=>Bool.noConfusion h⟩ | refine⟨fun h=>Bool.noConfusion h,fun _=>?_⟩ | fail)
         refine⟨⟨Nat.le_refl _,ht.1,hlt4⟩,?_⟩
         refine⟨fun q=>absurd (of_decide_eq_true q) (Int.not_lt.2 hkt),fun _=>?_⟩
         repeat (first | refine⟨fun _=>?_,fun h=>Bool.noConfusion h⟩ | refine⟨fun h=>Bool.noConfusion h,fun _=>?_⟩ | fail)
         refine⟨⟨Nat.le_refl _,ht.1,hlt4⟩,?_⟩
         refine⟨intC (p).2,rfl,?_⟩
         rw[setEl_fn]
         refine⟨(IntKind.i64.wrap (t+1),setN kn2 t.toNat (p).2),?_,kp_,kp_⟩
         rw[wrapi (n:=t+1) (by omega)]
         dsimp only
         exact⟨⟨⟨by omega,by omega⟩,hK3.set (by rw[ht2,hke];exact Int.le_refl _)⟩,by omega⟩
        ·have hp:=hintF_none hl
         have hke:=keE_none (rs:=rsOf xs (some (m2,k2))) hp
         rw[hke] at hkt
         repeat (first | refine⟨fun _=>?_,fun h=>Bool.noConfusion h⟩ | refine⟨fun h=>Bool.noConfusion h,fun _=>?_⟩ | fail)
         refine⟨fun q=>absurd (of_decide_eq_true q) (by omega),fun _=>?_⟩
         have hml:=hP.cp.len (show m2<xs.length from ho2)
         refine⟨fun q=>absurd (of_decide_eq_true q) (by rw[hml];omega),fun _=>?_⟩
         refine⟨⟨Nat.le_refl _,ht.1,by rw[hml];exact hlt4⟩,?_⟩
         refine⟨fun hc=>?_,fun hc=>?_⟩
         ·repeat (first | refine⟨fun _=>?_,fun h=>Bool.noConfusion h⟩ | refine⟨fun h=>Bool.noConfusion h,fun _=>?_⟩ | fail)
          refine⟨(IntKind.i64.wrap (t+1),kn2),?_,kp_,kp_⟩
          rw[wrapi (n:=t+1) (by omega)]
          dsimp only
          exact⟨⟨⟨by omega,by omega⟩,hK3⟩,by omega⟩
         ·refine⟨⟨Nat.le_refl _,ht.1,by rw[hml];exact hlt4⟩,?_⟩
          repeat (first | refine⟨fun _=>?_,fun h=>Bool.noConfusion h⟩ | refine⟨fun h=>Bool.noConfusion h,fun _=>?_⟩ | fail)
          refine⟨⟨Nat.le_refl _,ht.1,hlt4⟩,?_⟩
          refine⟨fun q=>absurd (of_decide_eq_true q) (Int.not_lt.2 hkt),fun _=>?_⟩
          repeat (first | refine⟨fun _=>?_,fun h=>Bool.noConfusion h⟩ | refine⟨fun h=>Bool.noConfusion h,fun _=>?_⟩ | fail)
          refine⟨⟨Nat.le_refl _,ht.1,hlt4⟩,?_⟩
          refine⟨intC ((xs.getD m2 aZ).routes.getD t.toNat (0,0)).2,rfl,?_⟩
          rw[setEl_fn]
          refine⟨(IntKind.i64.wrap (t+1),setN kn2 t.toNat ((xs.getD m2 aZ).routes.getD t.toNat (0,0)).2),?_,kp_,kp_⟩
          rw[wrapi (n:=t+1) (by omega)]
          dsimp only
          exact⟨⟨⟨by omega,by omega⟩,hK3.set (by rw[ht2,hke];exact Int.le_refl _)⟩,by omega⟩
       ·refine⟨(IntKind.i64.wrap (i+1),hm2,(some (m2,k2)),kn2,nmOf xs (some (m2,k2))),[(32,33)],?_,⟨rfl,rfl⟩,kp_,kp_⟩
        dsimp only
        rw[wrapi (n:=i+1) (by omega)]
        exact⟨⟨⟨by omega,by omega⟩,ho2,hH2,hK3,rfl⟩,by omega⟩
     ·exact⟨rfl,rfl⟩
theorem routerRises_law (a0:Option Addr) (cap0:Nat) (z0:List Int) (a1:Option Addr) (cap1:Nat) (z1:List Int) (key:Int) (a3:Option Addr) (cap3:Nat) (z3:List CS) (W:World) (hr0:Rd W (·<W.heap.size) a0 (z0.map (Value.int .i64))) (hm0:z0.length≤maxLen) (hr1:Rd W (·<W.heap.size) a1 (z1.map (Value.int .i64))) (hm1:z1.length≤maxLen) {Q:Prop} (_hq:Q) (hr3:Rd W (·<W.heap.size) a3 (flat csC z3)) (hm3:z3.length≤maxLen) :
  Calls Try.prog 7 #[.slice a0 z0.length cap0,.slice a1 z1.length cap1,.int .i64 key,.slice a3 z3.length cap3] W fun e w'=>e=.returned (.bool true)∧Below W.heap.size W w':=by
 rw[← flat_ints] at hr0 hr1
 have h:=uni_calls ttSok rsFok16 Try.func7 rfl (D:=rsD16) (by kernel_rfl) (vs:=[slc 0 z0.length cap0,slc 1 z1.length cap1,.int .i64 key,slc 10 z3.length cap3]) rfl { a0:=a0,a1:=a1,y:={ noA with ac:=a3 } } { l0:=z0,l1:=z1,s:={ noS with cells:=z3 } } W { r0:=hr0,r1:=hr1,s:={ noS_ok W (·<W.heap.size) with cells:=hr3 } } (fun v hv=>by
  simp only[List.mem_cons,List.not_mem_nil,or_false] at hv
  rcases hv with rfl | rfl | rfl | rfl
  ·exact⟨show (0:Nat)<13 by decide,rfl⟩
  ·exact⟨show (1:Nat)<13 by decide,rfl⟩
  ·trivial
  ·exact⟨show (10:Nat)<13 by decide,rfl⟩) (rises_sx cap0 cap1 cap3 z0 z1 z3 key hm0 hm1 hm3)
 refine h.mono ?_
 rintro e w' ⟨v,mem',nx',ρ',rfl,rfl,hv,hm',hb⟩
 exact⟨rfl,hb⟩
end Go.Proofs.Ytdjkeplekchfdaa
