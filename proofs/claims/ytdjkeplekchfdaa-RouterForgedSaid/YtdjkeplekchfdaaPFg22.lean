import Derived.Test.YtdjkeplekchfdaaPr21
namespace Go.Proofs.Ytdjkeplekchfdaa
open Go.RowKit
set_option linter.unusedSimpArgs false
set_option linter.unusedVariables false
/-! law16.RouterForged -/
def fgF:FT:=[(13,ctLight),(14,ctAwake16),(16,ctConfig),(31,ctMod),(17,ctRN),(36,ctCopies),(37,ctTk),(39,ctNb)]
def fgD:List (Nat×DQ):=[(9000000,{ k:=0,L:=[17,37,39] }),(7,{ k:=7,L:=[0,1,2,3,4,5,6,7,8,9,10,11,12,13,14,15,16,17,18,19,20,21,22,23,24,25,26,27,28,29,30,31,32,33,34,35,36,37,38,39,40,41,42,43,44,45,46,47,48,49,50,51,52,53,54,55,56,57,58,59,60],pre:=[(0,false),(1,false),(2,false),(4,false),(5,false),(6,false),(3,true)] }),(1000008,{ k:=33,L:=[0,1,2,3,4,5,6,7,8,9,10,11,12],sl:=[] }),(1000009,{ k:=35,L:=[0,1,2,3,4,5,6,7,8,9,10,11,12],sl:=[] })]
theorem fgFok:FTokI Try.prog fgF (inlOf fgD):=fti_cons (lightOk.i _) (fti_cons (awake16Ok.i _) (fti_cons (configOk.i _) (fti_cons (modOk.i _) (fti_cons (rnOk (by decide)) (fti_cons (copiesOk.i _) (fti_cons (tkOk (by decide)) (fti_cons (nbOk (by decide)) fti_nil)))))))
set_option maxRecDepth 100000 in
set_option maxHeartbeats 8000000 in
theorem forged_sx (cap0 cap1:Nat) (l more:List Int) (key other which:Int) (hm0:l.length≤maxLen) (hm1:more.length≤maxLen) (hk1:in64 key) (hk2:in64 other) :
  sx ttR fgF fgD (bodyOf Try.f8) (argF 0 [slc 0 l.length cap0,slc 1 more.length cap1,.int .i64 key,.int .i64 other,.int .i64 which]) (uniM { l0:=l,l1:=more }) 13 (endx ttR Try.f8.results.toList fun v _ _=>v=.bool true):=by
 refine⟨0,cap0,l,rfl,rfl,hm0,?_⟩
 refine⟨fun h=>?_,fun h0=>?_⟩
 ·repeat (first | refine⟨fun _=>?_,fun h=>Bool.noConfusion h⟩ | refine⟨fun h=>Bool.noConfusion h,fun _=>?_⟩ | fail)
  exact⟨rfl,rfl⟩
 ·refine⟨1,cap1,more,rfl,rfl,hm1,?_⟩
  refine⟨fun h=>?_,fun h1=>?_⟩
  ·repeat (first | refine⟨fun _=>?_,fun h=>Bool.noConfusion h⟩ | refine⟨fun h=>Bool.noConfusion h,fun _=>?_⟩ | fail)
   exact⟨rfl,rfl⟩
  ·have hl0:l.length≤200:=by simpa using h0
   have hl1:more.length≤200:=by simpa using h1
   clear h0 h1 hm0 hm1
   refine⟨0,cap0,l,rfl,rfl,by omega,?_⟩
   intro xk c hM
   have hV:=cfgV_of hM.valid
   have hnt:=hV.nt
   have hnc:=hV.nc
   have hm1:=hM.zones
   have hm2:=hM.cells
   have hm3:=hM.tenants
   have hm4:=hM.versions
   have hm5:=hM.replicas
   have hm6:=hM.observers
   refine⟨_,c,rfl,.has (N:=⟨18,17,16,15,14,13,500000⟩) (x:=xk) (HasCfg.keeps kp_),hM.lens,?_⟩
   refine⟨fun q=>absurd q (by rw[hM.valid];decide),fun _=>?_⟩
   refine⟨_,c.zones,rfl,.inr (.inl ⟨18,_,rfl,.list rfl⟩),by omega,fun k_zones=>?_⟩
   refine⟨_,c.cells,rfl,.inr (.inl ⟨17,_,rfl,.list rfl⟩),by omega,fun k_cells=>?_⟩
   refine⟨_,c.tenants,rfl,.inr (.inl ⟨16,_,rfl,.list rfl⟩),by omega,fun k_tenants=>?_⟩
   refine⟨_,c.versions,rfl,.inr (.inl ⟨15,_,rfl,.list rfl⟩),by omega,fun k_versions=>?_⟩
   refine⟨_,c.replicas,rfl,.inr (.inl ⟨14,_,rfl,.list rfl⟩),by omega,fun k_replicas=>?_⟩
   refine⟨_,c.observers,rfl,.inr (.inl ⟨13,_,rfl,.list rfl⟩),by omega,fun k_observers=>?_⟩
   repeat (first | refine⟨fun _=>?_,fun h=>Bool.noConfusion h⟩ | refine⟨fun h=>Bool.noConfusion h,fun _=>?_⟩ | fail)
   refine⟨List Atl×List Nat×Nat×List Atl×List Nat×Nat,fun q=>match q with | (xs,cps_xs,cap_xs,ys,cps_ys,cap_ys)=>[(2,.int .i64 key),(3,.int .i64 other),(4,.int .i64 which),(12,ptr 28),(14,.slice (some ⟨30,0,none⟩) xs.length cap_xs),(15,.slice (some ⟨32,0,none⟩) ys.length cap_ys)],fun q=>match q with | (xs,cps_xs,cap_xs,ys,cps_ys,cap_ys)=>[(28,.box 110 [.int .i64 c.regions,slc 21 c.zones.length k_zones,slc 22 c.cells.length k_cells,slc 23 c.tenants.length k_tenants,slc 24 c.versions.length k_versions,slc 25 c.replicas.length k_replicas,slc 26 c.observers.length k_observers,.int .i64 c.blast,.int .i64 c.lease,.int .i64 c.bake,.int .i64 key,.bool false,.int .i64 0,.int .i64 0,zs0,.int .u64 0,.int .u64 0,.map (some 27)]),(21,rowOfL 500000 1 intC 0 c.zones),(22,rowOfL 500000 2 pairC (0,0) c.cells),(23,rowOfL 500000 7 tenC default c.tenants),(24,rowOfL 500000 2 pairC (0,0) c.versions),(25,rowOfL 500000 1 intC 0 c.replicas),(26,rowOfL 500000 1 intC 0 c.observers),(27,.ext (.map .i64 true fun _=>none)),(29,famB 500000 xs),(30,deepA 500000 0 xs cps_xs 29),(31,famB 500000 ys),(32,deepA 500000 0 ys cps_ys 31)],fun q=>match q with | (xs,cps_xs,cap_xs,ys,cps_ys,cap_ys)=>CopyP c key xs∧CopyP c other ys,?_,?_⟩
   ·refine⟨⟨18,17,16,15,14,13,500000⟩,xk,c,_,more,key,rfl,⟨HasCfg.keeps kp_,.inr (.inl ⟨1,_,rfl,⟨_,_,_,rfl,Nat.le_refl _,fun k hk=>rfl⟩⟩)⟩,⟨hV,by omega⟩,fun xs cps_xs cap_xs hP_xs=>?_⟩
    refine⟨kp_,?_⟩
    refine⟨⟨18,17,16,15,14,13,500000⟩,xk,c,_,more,other,rfl,⟨HasCfg.keeps kp_,.inr (.inl ⟨1,_,rfl,⟨_,_,_,rfl,Nat.le_refl _,fun k hk=>rfl⟩⟩)⟩,⟨hV,by omega⟩,fun ys cps_ys cap_ys hP_ys=>?_⟩
    exact⟨(xs,cps_xs,cap_xs,ys,cps_ys,cap_ys),⟨hP_xs,hP_ys⟩,kp_,kp_⟩
   rintro⟨xs,cps_xs,cap_xs,ys,cps_ys,cap_ys⟩ ⟨hP_xs,hP_ys⟩
   refine⟨⟨by decide,rfl,rfl⟩,?_⟩
   have hx1:=hP_xs.ne
   have hy1:=hP_ys.ne
   have hy2:=hP_ys.le
   refine⟨Nat,fun _=>[(2,.int .i64 key),(3,.int .i64 other),(4,.int .i64 which),(12,ptr 28),(14,.slice (some ⟨30,0,none⟩) xs.length cap_xs),(15,.slice (some ⟨32,0,none⟩) ys.length cap_ys)],fun k1=>[(34,rowOfL 500000 2 pairC (0,0) (xs.getD 0 aZ).routes),(28,.box 110 [.int .i64 c.regions,slc 21 c.zones.length k_zones,slc 22 c.cells.length k_cells,slc 23 c.tenants.length k_tenants,slc 24 c.versions.length k_versions,slc 25 c.replicas.length k_replicas,slc 26 c.observers.length k_observers,.int .i64 c.blast,.int .i64 c.lease,.int .i64 c.bake,.int .i64 key,.bool true,.int .i64 (xs.getD 0 aZ).number,.int .i64 (xs.getD 0 aZ).tick,slc 34 (xs.getD 0 aZ).routes.length k1,.int .u64 (xs.getD 0 aZ).parent,.int .u64 (xs.getD 0 aZ).sum,.map (some 27)]),(21,rowOfL 500000 1 intC 0 c.zones),(22,rowOfL 500000 2 pairC (0,0) c.cells),(23,rowOfL 500000 7 tenC default c.tenants),(24,rowOfL 500000 2 pairC (0,0) c.versions),(25,rowOfL 500000 1 intC 0 c.replicas),(26,rowOfL 500000 1 intC 0 c.observers),(27,.ext (.map .i64 true fun _=>none)),(29,famB 500000 xs),(30,deepA 500000 0 xs cps_xs 29),(31,famB 500000 ys),(32,deepA 500000 0 ys cps_ys 31)],fun _=>True,?_,?_⟩
   ·refine⟨⟨Nat.le_refl _,by omega,by omega⟩,?_⟩
    refine⟨_,c,xs.getD 0 aZ,_,key,rfl,⟨⟨_,_,_,_,_,_,rfl,⟨.inr (.inl ⟨21,_,rfl,.list rfl⟩),.inr (.inl ⟨22,_,rfl,.list rfl⟩),.inr (.inl ⟨23,_,rfl,.list rfl⟩)⟩,.inr (.inl ⟨24,_,rfl,.list rfl⟩),.inr (.inl ⟨25,_,rfl,.list rfl⟩),.inr (.inl ⟨26,_,rfl,.list rfl⟩)⟩,.fam rfl⟩,hM.lens,fun b1 hb1=>?_⟩
    obtain rfl:b1=true:=hb1.2 (hP_xs.valid hM.valid hx1)
    repeat (first | refine⟨fun _=>?_,fun h=>Bool.noConfusion h⟩ | refine⟨fun h=>Bool.noConfusion h,fun _=>?_⟩ | fail)
    refine⟨_,(xs.getD 0 aZ).routes,rfl,.fam rfl,by rw[hP_xs.len hx1];omega,fun k1=>?_⟩
    refine⟨kp_,?_⟩
    refine⟨27,_,_,_,_,rfl,rfl,fun z=>rfl,?_⟩
    exact⟨k1,trivial,kp_,kp_⟩
   rintro k1 -
   refine⟨⟨by decide,rfl,rfl⟩,?_⟩
   refine⟨_,_,rfl,⟨by omega,by omega⟩,?_⟩
   repeat (first | refine⟨fun _=>?_,fun h=>Bool.noConfusion h⟩ | refine⟨fun h=>Bool.noConfusion h,fun _=>?_⟩ | fail)
   have hj:0≤which % (ys.length:Int)∧which % (ys.length:Int)<ys.length:=⟨Int.emod_nonneg _ (by omega),Int.emod_lt_of_pos _ (by omega)⟩
   have hjn:(which % (ys.length:Int)).toNat<ys.length:=by omega
   refine⟨⟨Nat.le_refl _,hj.1,hj.2⟩,?_⟩
   refine⟨_,c,(ys.getD (which % (ys.length:Int)).toNat aZ),_,key,rfl,⟨⟨_,_,_,_,_,_,rfl,⟨.inr (.inl ⟨21,_,rfl,.list rfl⟩),.inr (.inl ⟨22,_,rfl,.list rfl⟩),.inr (.inl ⟨23,_,rfl,.list rfl⟩)⟩,.inr (.inl ⟨24,_,rfl,.list rfl⟩),.inr (.inl ⟨25,_,rfl,.list rfl⟩),.inr (.inl ⟨26,_,rfl,.list rfl⟩)⟩,.fam rfl⟩,hM.lens,fun b2 hb2=>?_⟩
   have hge0:=hP_ys.ge (which % (ys.length:Int)).toNat hjn
   have hf1:(xs.getD 0 aZ).number=0:=hP_xs.first
   have hf2:(ys.getD (Int.toNat 0) aZ).number=0:=hP_ys.first
   by_cases hko:key=other
   ·subst hko
    obtain rfl:b2=true:=hb2.2 (hP_ys.valid hM.valid hjn)
    repeat (first | refine⟨fun _=>?_,fun h=>Bool.noConfusion h⟩ | refine⟨fun h=>Bool.noConfusion h,fun _=>?_⟩ | fail)
    refine⟨fun hg=>?_,fun hg=>?_⟩
    ·have hg2:=of_decide_eq_true hg
     have hj0:which % (ys.length:Int)=0:=by omega
     refine⟨fun _=>?_,fun q=>absurd q (by simp)⟩
     refine⟨rfl,?_⟩
     repeat (first | refine⟨fun _=>?_,fun h=>Bool.noConfusion h⟩ | refine⟨fun h=>Bool.noConfusion h,fun _=>?_⟩ | fail)
     exact congrArg Value.bool (by simp[hj0])
    ·have hg2:=of_decide_eq_false hg
     have hj0:which % (ys.length:Int)>0:=by
      rcases Int.lt_or_eq_of_le hj.1 with q | q
      ·exact q
      ·rw[← q] at hg2
       exact absurd (by show (xs.getD 0 aZ).number≥_;omega) hg2
     refine⟨_,(ys.getD (which % (ys.length:Int)).toNat aZ).routes,rfl,.fam rfl,by rw[hP_ys.len hjn];omega,fun k2=>?_⟩
     refine⟨kp_,?_⟩
     refine⟨27,_,_,_,_,rfl,rfl,fun z=>rfl,?_⟩
     refine⟨fun _=>?_,fun q=>absurd q (by simp)⟩
     refine⟨rfl,?_⟩
     repeat (first | refine⟨fun _=>?_,fun h=>Bool.noConfusion h⟩ | refine⟨fun h=>Bool.noConfusion h,fun _=>?_⟩ | fail)
     exact congrArg Value.bool (by simp[hj0])
   ·obtain rfl:b2=false:=Bool.eq_false_iff.2 fun q=>hP_ys.invalid hk1 hk2 hko hjn (hb2.1 q)
    repeat (first | refine⟨fun _=>?_,fun h=>Bool.noConfusion h⟩ | refine⟨fun h=>Bool.noConfusion h,fun _=>?_⟩ | fail)
    refine⟨fun q=>absurd (by simpa using q) hko,fun _=>?_⟩
    refine⟨rfl,?_⟩
    repeat (first | refine⟨fun _=>?_,fun h=>Bool.noConfusion h⟩ | refine⟨fun h=>Bool.noConfusion h,fun _=>?_⟩ | fail)
    exact congrArg Value.bool (by simp)
theorem routerForged_law (a0:Option Addr) (cap0:Nat) (z0:List Int) (a1:Option Addr) (cap1:Nat) (z1:List Int) (key other which:Int) (W:World) (hr0:Rd W (·<W.heap.size) a0 (z0.map (Value.int .i64))) (hm0:z0.length≤maxLen) (hr1:Rd W (·<W.heap.size) a1 (z1.map (Value.int .i64))) (hm1:z1.length≤maxLen) (hw_key:(Lit.int .i64 key).wf=true) (hw_other:(Lit.int .i64 other).wf=true) (hw_which:(Lit.int .i64 which).wf=true) :
  Calls Try.prog 8 #[.slice a0 z0.length cap0,.slice a1 z1.length cap1,.int .i64 key,.int .i64 other,.int .i64 which] W fun e w'=>e=.returned (.bool true)∧Below W.heap.size W w':=by
 rw[← flat_ints] at hr0 hr1
 have h:=uni_calls ttRok fgFok Try.func8 rfl (D:=fgD) (by kernel_rfl) (vs:=[slc 0 z0.length cap0,slc 1 z1.length cap1,.int .i64 key,.int .i64 other,.int .i64 which]) rfl { a0:=a0,a1:=a1 } { l0:=z0,l1:=z1 } W { r0:=hr0,r1:=hr1 } (fun v hv=>by
  simp only[List.mem_cons,List.not_mem_nil,or_false] at hv
  rcases hv with rfl | rfl | rfl | rfl | rfl
  ·exact⟨show (0:Nat)<13 by decide,rfl⟩
  ·exact⟨show (1:Nat)<13 by decide,rfl⟩
  ·trivial
  ·trivial
  ·trivial
  ) (forged_sx cap0 cap1 z0 z1 key other which hm0 hm1 (in64_wf hw_key) (in64_wf hw_other))
 refine h.mono ?_
 rintro e w' ⟨v,mem',nx',ρ',rfl,rfl,hv,hm',hb⟩
 exact⟨rfl,hb⟩
end Go.Proofs.Ytdjkeplekchfdaa
