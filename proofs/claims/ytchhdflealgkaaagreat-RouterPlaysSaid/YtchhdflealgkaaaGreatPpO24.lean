import Derived.Test.YtchhdflealgkaaaGreatPo23
namespace Go.Proofs.YtchhdflealgkaaaGreat
open Go.RowKit
set_option linter.unusedSimpArgs false
set_option linter.unusedVariables false
/-! law16.both,without a copy -/
def boDBoN:List (Nat×DQ):=[(9,{ k:=5,L:=[55],pre:=[(0,false),(1,false),(3,false),(4,false),(2,true)] }),(14,{ k:=5,L:=[0,1,2,3,4,5,6,7,8,9,10,11,12,13,14,15,16,17,18,19,20,21,22,23,24,25,26,27,28,29,30,31,32,33,34,35,36,37,38,39,40,41,42,43,44,45,46,47,48,49,50,51,52,53,54,55,56,57,58,59,60,61,62,63,64,65,66,67,68,69,70,71,72,73,74,75,76,77,78,79,80,81,82,83,84,85,86,87,88,89,90,91,92,93,94,95,96,97,98,99],pre:=[(0,false),(1,false),(2,false),(3,false),(4,false)] }),(15,{ k:=5,L:=[55],pre:=[(0,false),(1,false),(3,false),(4,false),(2,true)] }),(18,{ k:=15,L:=[54],pre:=[(0,false),(1,false),(2,false),(3,false),(4,false),(5,false),(6,false),(8,false),(9,false),(10,false),(11,false),(12,false),(13,false),(14,false),(7,true)] }),(3,{ k:=8,L:=[54],pre:=[(0,false),(1,false),(3,false),(4,false),(6,false),(7,false),(2,true),(5,true)] }),(5000009,{ k:=100,L:=[0,1,2,3,4,5,6,7,8,9,10,11,12,13,14,15,16,17,18,19,20,21,22,23,24,25,26,27,28,29,30,31,32,33,34,35,36,37,38,39,40,41,42,43,44,45,46,47,48,49,50,51,52,53,54,55,56,57,58,59],sl:=[0,1,2,7,9,23] })]
def vsBoN:BX→List Value:=fun x=>match x with | ⟨c,xk,yk,key,hf,kh,xs,cps,cx,st,A,kp,kq,elq⟩=>[ptr 28,ptr 31,.slice (some ⟨51,0,none⟩) xs.length cx,.agg #[.int .i64 st.mode,.int .i64 st.running,.int .i64 st.wanted,.int .i64 st.since]]
def mBoN:BX→AM:=fun x=>match x with | ⟨c,xk,yk,key,hf,kh,xs,cps,cx,st,A,kp,kq,elq⟩=>[(28,.box 114 [.int .i64 c.regions,slc 21 c.zones.length yk.cz,slc 22 c.cells.length yk.cc,slc 23 c.tenants.length yk.ct,slc 24 c.versions.length yk.cv,slc 25 c.replicas.length yk.cr,slc 26 c.observers.length yk.co,.int .i64 c.blast,.int .i64 c.lease,.int .i64 c.bake,.int .i64 key,.bool false,.int .i64 0,.int .i64 0,zs0,.int .u64 0,.int .u64 0,.map (some 27)]),(27,.ext (.map .i64 true (hintF (hmOf c.tenants.length hf)))),(31,.box 116 [.int .i64 c.regions,slc 18 c.zones.length xk.cz,slc 17 c.cells.length xk.cc,slc 16 c.tenants.length xk.ct,slc 15 c.versions.length xk.cv,slc 14 c.replicas.length xk.cr,slc 13 c.observers.length xk.co,.int .i64 c.blast,.int .i64 c.lease,.int .i64 c.bake,.int .i64 key,.bool false,.int .i64 0,.int .i64 0,zs0,.int .u64 0,.int .u64 0,slc 30 c.tenants.length kh]),(30,.row (1000000+92) 2 kh (fun k=>pairC (hf k))),(21,rowOfL 0 1 intC 0 c.zones),(22,rowOfL 0 2 pairC (0,0) c.cells),(23,rowOfL 0 7 tenC default c.tenants),(24,rowOfL 0 2 pairC (0,0) c.versions),(25,rowOfL 0 1 intC 0 c.replicas),(26,rowOfL 0 1 intC 0 c.observers),(18,rowOfL 0 1 intC 0 c.zones),(17,rowOfL 0 2 pairC (0,0) c.cells),(16,rowOfL 0 7 tenC default c.tenants),(15,rowOfL 0 2 pairC (0,0) c.versions),(14,rowOfL 0 1 intC 0 c.replicas),(13,rowOfL 0 1 intC 0 c.observers),(50,famB 0 xs),(51,deepA 0 0 xs cps 50)]
def preBoN:BX→Prop:=fun x=>match x with | ⟨c,xk,yk,key,hf,kh,xs,cps,cx,st,A,kp,kq,elq⟩=>(CfgV c∧Lens c)∧HfOk c.tenants.length hf∧(c.tenants.length≤kh∧CopyP c key xs∧cfgErr c=0)
def postBoN:BX→BY→Prop:=fun x y=>match x with | ⟨c,xk,yk,key,hf,kh,xs,cps,cx,st,A,kp,kq,elq⟩=>match y with | .keep hf2=>HfOk c.tenants.length hf2 | .new hf2 A2 kp2 kq2 el2=>HfOk c.tenants.length hf2∧(ValidA c A2 key∧A2.routes.length≤kq2∧∀ k,k<A2.routes.length→el2 k=pairC (A2.routes.getD k (0,0)))
def VBoN:BX→BY→Value:=fun x y=>match x with | ⟨c,xk,yk,key,hf,kh,xs,cps,cx,st,A,kp,kq,elq⟩=>match y with | _=>.bool true
def MBoN:BX→BY→AM:=fun x y=>match x with | ⟨c,xk,yk,key,hf,kh,xs,cps,cx,st,A,kp,kq,elq⟩=>match y with | .keep hf2=>[(28,.box 114 [.int .i64 c.regions,slc 21 c.zones.length yk.cz,slc 22 c.cells.length yk.cc,slc 23 c.tenants.length yk.ct,slc 24 c.versions.length yk.cv,slc 25 c.replicas.length yk.cr,slc 26 c.observers.length yk.co,.int .i64 c.blast,.int .i64 c.lease,.int .i64 c.bake,.int .i64 key,.bool false,.int .i64 0,.int .i64 0,zs0,.int .u64 0,.int .u64 0,.map (some 27)]),(27,.ext (.map .i64 true (hintF (hmOf c.tenants.length hf2)))),(31,.box 116 [.int .i64 c.regions,slc 18 c.zones.length xk.cz,slc 17 c.cells.length xk.cc,slc 16 c.tenants.length xk.ct,slc 15 c.versions.length xk.cv,slc 14 c.replicas.length xk.cr,slc 13 c.observers.length xk.co,.int .i64 c.blast,.int .i64 c.lease,.int .i64 c.bake,.int .i64 key,.bool false,.int .i64 0,.int .i64 0,zs0,.int .u64 0,.int .u64 0,slc 30 c.tenants.length kh]),(30,.row (1000000+92) 2 kh (fun k=>pairC (hf2 k)))] | .new hf2 A2 kp2 kq2 el2=>[(28,.box 114 [.int .i64 c.regions,slc 21 c.zones.length yk.cz,slc 22 c.cells.length yk.cc,slc 23 c.tenants.length yk.ct,slc 24 c.versions.length yk.cv,slc 25 c.replicas.length yk.cr,slc 26 c.observers.length yk.co,.int .i64 c.blast,.int .i64 c.lease,.int .i64 c.bake,.int .i64 key,.bool true,.int .i64 A2.number,.int .i64 A2.tick,slc 54 A2.routes.length kp2,.int .u64 A2.parent,.int .u64 A2.sum,.map (some 27)]),(27,.ext (.map .i64 true (hintF (hmOf c.tenants.length hf2)))),(31,.box 116 [.int .i64 c.regions,slc 18 c.zones.length xk.cz,slc 17 c.cells.length xk.cc,slc 16 c.tenants.length xk.ct,slc 15 c.versions.length xk.cv,slc 14 c.replicas.length xk.cr,slc 13 c.observers.length xk.co,.int .i64 c.blast,.int .i64 c.lease,.int .i64 c.bake,.int .i64 key,.bool true,.int .i64 A2.number,.int .i64 A2.tick,slc 55 A2.routes.length kq2,.int .u64 A2.parent,.int .u64 A2.sum,slc 30 c.tenants.length kh]),(30,.row (1000000+92) 2 kh (fun k=>pairC (hf2 k))),(54,rowOfL 500000 2 pairC (0,0) A2.routes),(55,.row (1000000+92) 2 kq2 el2)]
def ctBoN:CT:=ctObj vsBoN mBoN 54 preBoN postBoN VBoN MBoN 2
set_option maxRecDepth 100000 in
set_option maxHeartbeats 400000000 in
theorem boN_sx (c:Cfg) (xk yk:CfgK) (key:Int) (hf:HF) (kh:Nat) (xs:List Atl) (cps:List Nat) (cx:Nat) (st:CS) (A:Atl) (kp kq:Nat) (elq:Nat→List Value) (hp:(CfgV c∧Lens c)∧HfOk c.tenants.length hf∧(c.tenants.length≤kh∧CopyP c key xs∧cfgErr c=0)) :
  sx ttP [(56,ctMod),(38,ctBwG),(57,ctTkP),(58,ctTkQ),(35,ctLnP),(60,ctLnQ2),(59,ctSigned),(13,ctSm)] boDBoN (bodyOf Tryz.f15) (argF 0 [ptr 28,ptr 31,.slice (some ⟨51,0,none⟩) xs.length cx,.agg #[.int .i64 st.mode,.int .i64 st.running,.int .i64 st.wanted,.int .i64 st.since]]) [(28,.box 114 [.int .i64 c.regions,slc 21 c.zones.length yk.cz,slc 22 c.cells.length yk.cc,slc 23 c.tenants.length yk.ct,slc 24 c.versions.length yk.cv,slc 25 c.replicas.length yk.cr,slc 26 c.observers.length yk.co,.int .i64 c.blast,.int .i64 c.lease,.int .i64 c.bake,.int .i64 key,.bool false,.int .i64 0,.int .i64 0,zs0,.int .u64 0,.int .u64 0,.map (some 27)]),(27,.ext (.map .i64 true (hintF (hmOf c.tenants.length hf)))),(31,.box 116 [.int .i64 c.regions,slc 18 c.zones.length xk.cz,slc 17 c.cells.length xk.cc,slc 16 c.tenants.length xk.ct,slc 15 c.versions.length xk.cv,slc 14 c.replicas.length xk.cr,slc 13 c.observers.length xk.co,.int .i64 c.blast,.int .i64 c.lease,.int .i64 c.bake,.int .i64 key,.bool false,.int .i64 0,.int .i64 0,zs0,.int .u64 0,.int .u64 0,slc 30 c.tenants.length kh]),(30,.row (1000000+92) 2 kh (fun k=>pairC (hf k))),(21,rowOfL 0 1 intC 0 c.zones),(22,rowOfL 0 2 pairC (0,0) c.cells),(23,rowOfL 0 7 tenC default c.tenants),(24,rowOfL 0 2 pairC (0,0) c.versions),(25,rowOfL 0 1 intC 0 c.replicas),(26,rowOfL 0 1 intC 0 c.observers),(18,rowOfL 0 1 intC 0 c.zones),(17,rowOfL 0 2 pairC (0,0) c.cells),(16,rowOfL 0 7 tenC default c.tenants),(15,rowOfL 0 2 pairC (0,0) c.versions),(14,rowOfL 0 1 intC 0 c.replicas),(13,rowOfL 0 1 intC 0 c.observers),(50,famB 0 xs),(51,deepA 0 0 xs cps 50)] 54 (endx ttP Tryz.f15.results.toList (objR 54 (postBoN ⟨c,xk,yk,key,hf,kh,xs,cps,cx,st,A,kp,kq,elq⟩) (VBoN ⟨c,xk,yk,key,hf,kh,xs,cps,cx,st,A,kp,kq,elq⟩) (MBoN ⟨c,xk,yk,key,hf,kh,xs,cps,cx,st,A,kp,kq,elq⟩))):=by
 obtain⟨⟨hV,hL⟩,hH⟩:=hp
 have hnt:=hV.nt
 have hnc:=hV.nc
 obtain⟨hH,⟨hkh,hP,hE⟩⟩:=hH
 have hx1:=hP.ne
 have hx2:=hP.le
 refine⟨_,_,rfl,⟨by omega,by omega⟩,?_⟩
 have hj:0≤st.running % (xs.length:Int)∧st.running % (xs.length:Int)<xs.length:=⟨Int.emod_nonneg _ (by omega),Int.emod_lt_of_pos _ (by omega)⟩
 have hjn:(st.running % (xs.length:Int)).toNat<xs.length:=by omega
 refine⟨⟨Nat.le_refl _,hj.1,hj.2⟩,?_⟩
 refine⟨_,_,rfl,⟨by decide,by decide⟩,?_⟩
 refine⟨Bool,fun b=>[(44,.bool b)],fun _=>[],fun _=>True,?_,?_⟩
 ·repeat' (first | refine⟨fun _=>?_,fun h=>Bool.noConfusion h⟩ | refine⟨fun h=>Bool.noConfusion h,fun _=>?_⟩ | refine⟨fun _=>?_,fun _=>?_⟩ | fail)
  all_goals exact⟨_,trivial,kp_,kp_⟩
 rintro b -
 refine⟨⟨by decide,rfl,rfl⟩,?_⟩
 refine⟨fun _=>?_,fun _=>?_⟩
 ·refine .inl ⟨⟨c,xk,yk,key,hf,kh,xs,(st.running % (xs.length:Int)).toNat,_,(xs.getD (st.running % (xs.length:Int)).toNat aZ).number,(xs.getD (st.running % (xs.length:Int)).toNat aZ).tick,(xs.getD (st.running % (xs.length:Int)).toNat aZ).parent,(xs.getD (st.running % (xs.length:Int)).toNat aZ).sum,A,kp,kq,elq⟩,[],⟨⟨hV,hL⟩,hH⟩,rfl,kp_,rfl,rfl,fun y1 hy1=>?_⟩
  rcases y1 with _ | _ | ⟨k1,el1⟩
  ·repeat (first | refine⟨fun _=>?_,fun h=>Bool.noConfusion h⟩ | refine⟨fun h=>Bool.noConfusion h,fun _=>?_⟩ | fail)
   refine⟨kp_,?_⟩
   refine .inl ⟨⟨c,xk,yk,key,hf,kh,xs,(st.running % (xs.length:Int)).toNat,_,(xs.getD (st.running % (xs.length:Int)).toNat aZ).number,(xs.getD (st.running % (xs.length:Int)).toNat aZ).tick,(xs.getD (st.running % (xs.length:Int)).toNat aZ).parent,(xs.getD (st.running % (xs.length:Int)).toNat aZ).sum,A,kp,kq,elq⟩,[],⟨⟨hV,hL⟩,hH,hkh⟩,rfl,kp_,rfl,rfl,fun y2 hy2=>?_⟩
   rcases y2 with _ | _ | ⟨k2,el2⟩
   ·repeat (first | refine⟨fun _=>?_,fun h=>Bool.noConfusion h⟩ | refine⟨fun h=>Bool.noConfusion h,fun _=>?_⟩ | fail)
    have hH2:=hH
    refine .inl ⟨⟨c,xk,yk,key,hf,kh,0,0,0,A,kp,kq,elq⟩,[],⟨⟨hV,hL⟩,hH2,hkh⟩,rfl,kp_,rfl,rfl,fun u hu=>?_⟩
    repeat (first | refine⟨fun _=>?_,fun h=>Bool.noConfusion h⟩ | refine⟨fun h=>Bool.noConfusion h,fun _=>?_⟩ | refine⟨⟨by first | exact Nat.le_refl _ | omega | fail,by first | omega | (dsimp only;omega) | fail,by first | omega | (dsimp only;omega) | fail⟩,?_⟩ | refine⟨fun q=>absurd q (by first | (simp[eqCs,eqC1];done) | fail),fun _=>?_⟩ | refine⟨fun _=>?_,fun q=>absurd q (by first | omega | (simp[-List.getD_eq_getElem?_getD];done) | (simp[-List.getD_eq_getElem?_getD];omega) | fail)⟩ | refine⟨fun q=>absurd q (by first | omega | (simp[-List.getD_eq_getElem?_getD];done) | (simp[-List.getD_eq_getElem?_getD];omega) | fail),fun _=>?_⟩ | fail)
    exact⟨(.keep hf),[],hH,rfl,rfl,rfl,kp_⟩
   ·exact absurd hy2.1 hy1
   ·exact absurd hy2.1 hy1
  ·exact hy1.2.elim
  ·repeat (first | refine⟨fun _=>?_,fun h=>Bool.noConfusion h⟩ | refine⟨fun h=>Bool.noConfusion h,fun _=>?_⟩ | fail)
   refine⟨kp_,?_⟩
   refine .inl ⟨⟨c,xk,yk,key,hf,kh,xs,(st.running % (xs.length:Int)).toNat,_,(xs.getD (st.running % (xs.length:Int)).toNat aZ).number,(xs.getD (st.running % (xs.length:Int)).toNat aZ).tick,(xs.getD (st.running % (xs.length:Int)).toNat aZ).parent,(xs.getD (st.running % (xs.length:Int)).toNat aZ).sum,A,kp,kq,elq⟩,[],⟨⟨hV,hL⟩,hH,hkh⟩,rfl,kp_,rfl,rfl,fun y2 hy2=>?_⟩
   rcases y2 with _ | _ | ⟨k2,el2⟩
   ·exact absurd hy1 hy2
   ·exact hy2.2.elim
   ·repeat (first | refine⟨fun _=>?_,fun h=>Bool.noConfusion h⟩ | refine⟨fun h=>Bool.noConfusion h,fun _=>?_⟩ | fail)
    obtain⟨hv2,hq2,he2⟩:=hy2
    refine .inr (.inl ⟨⟨c,xk,yk,key,(dlF (xs.getD (st.running % (xs.length:Int)).toNat aZ).routes hf c.tenants.length),kh,0,0,0,(⟨(xs.getD (st.running % (xs.length:Int)).toNat aZ).number,(xs.getD (st.running % (xs.length:Int)).toNat aZ).tick,(xs.getD (st.running % (xs.length:Int)).toNat aZ).routes,(xs.getD (st.running % (xs.length:Int)).toNat aZ).parent,(xs.getD (st.running % (xs.length:Int)).toNat aZ).sum⟩:Atl),k1,k2,el2⟩,[(52,100),(53,101)],⟨⟨hV,hL⟩,hH.del _ _,hkh,hv2,hq2,he2⟩,rfl,kp_,rfl,rfl,fun u hu=>?_⟩)
    repeat (first | refine⟨fun _=>?_,fun h=>Bool.noConfusion h⟩ | refine⟨fun h=>Bool.noConfusion h,fun _=>?_⟩ | refine⟨⟨by first | exact Nat.le_refl _ | omega | fail,by first | omega | (dsimp only;omega) | fail,by first | omega | (dsimp only;omega) | fail⟩,?_⟩ | refine⟨fun q=>absurd q (by first | (simp[eqCs,eqC1];done) | fail),fun _=>?_⟩ | refine⟨fun _=>?_,fun q=>absurd q (by first | omega | (simp[-List.getD_eq_getElem?_getD];done) | (simp[-List.getD_eq_getElem?_getD];omega) | fail)⟩ | refine⟨fun q=>absurd q (by first | omega | (simp[-List.getD_eq_getElem?_getD];done) | (simp[-List.getD_eq_getElem?_getD];omega) | fail),fun _=>?_⟩ | fail)
    exact⟨(.new (dlF (xs.getD (st.running % (xs.length:Int)).toNat aZ).routes hf c.tenants.length) (⟨(xs.getD (st.running % (xs.length:Int)).toNat aZ).number,(xs.getD (st.running % (xs.length:Int)).toNat aZ).tick,(xs.getD (st.running % (xs.length:Int)).toNat aZ).routes,(xs.getD (st.running % (xs.length:Int)).toNat aZ).parent,(xs.getD (st.running % (xs.length:Int)).toNat aZ).sum⟩:Atl) k1 k2 el2),[(54,100),(55,101)],⟨hH.del _ _,hv2,hq2,he2⟩,rfl,rfl,rfl,kp_⟩
 ·refine⟨fun _=>?_,fun _=>?_⟩
  ·refine⟨_,_,_,rfl,⟨by decide,by decide⟩,fun nb hnb=>?_⟩
   refine⟨fun _=>?_,fun _=>?_⟩
   ·refine⟨{ (xs.getD (st.running % (xs.length:Int)).toNat aZ) with number:=nb },_,key,rfl,.fam rfl,hP.numIn hV hE hjn hnb,?_⟩
    refine .inl ⟨⟨c,xk,yk,key,hf,kh,xs,(st.running % (xs.length:Int)).toNat,_,nb,(xs.getD (st.running % (xs.length:Int)).toNat aZ).tick,(xs.getD (st.running % (xs.length:Int)).toNat aZ).parent,(signA { (xs.getD (st.running % (xs.length:Int)).toNat aZ) with number:=nb } key).sum,A,kp,kq,elq⟩,[],⟨⟨hV,hL⟩,hH⟩,rfl,kp_,rfl,rfl,fun y1 hy1=>?_⟩
    rcases y1 with _ | _ | ⟨k1,el1⟩
    ·repeat (first | refine⟨fun _=>?_,fun h=>Bool.noConfusion h⟩ | refine⟨fun h=>Bool.noConfusion h,fun _=>?_⟩ | fail)
     refine⟨kp_,?_⟩
     refine .inl ⟨⟨c,xk,yk,key,hf,kh,xs,(st.running % (xs.length:Int)).toNat,_,nb,(xs.getD (st.running % (xs.length:Int)).toNat aZ).tick,(xs.getD (st.running % (xs.length:Int)).toNat aZ).parent,(signA { (xs.getD (st.running % (xs.length:Int)).toNat aZ) with number:=nb } key).sum,A,kp,kq,elq⟩,[],⟨⟨hV,hL⟩,hH,hkh⟩,rfl,kp_,rfl,rfl,fun y2 hy2=>?_⟩
     rcases y2 with _ | _ | ⟨k2,el2⟩
     ·repeat (first | refine⟨fun _=>?_,fun h=>Bool.noConfusion h⟩ | refine⟨fun h=>Bool.noConfusion h,fun _=>?_⟩ | fail)
      have hH2:=hH
      refine .inl ⟨⟨c,xk,yk,key,hf,kh,0,0,0,A,kp,kq,elq⟩,[],⟨⟨hV,hL⟩,hH2,hkh⟩,rfl,kp_,rfl,rfl,fun u hu=>?_⟩
      repeat (first | refine⟨fun _=>?_,fun h=>Bool.noConfusion h⟩ | refine⟨fun h=>Bool.noConfusion h,fun _=>?_⟩ | refine⟨⟨by first | exact Nat.le_refl _ | omega | fail,by first | omega | (dsimp only;omega) | fail,by first | omega | (dsimp only;omega) | fail⟩,?_⟩ | refine⟨fun q=>absurd q (by first | (simp[eqCs,eqC1];done) | fail),fun _=>?_⟩ | refine⟨fun _=>?_,fun q=>absurd q (by first | omega | (simp[-List.getD_eq_getElem?_getD];done) | (simp[-List.getD_eq_getElem?_getD];omega) | fail)⟩ | refine⟨fun q=>absurd q (by first | omega | (simp[-List.getD_eq_getElem?_getD];done) | (simp[-List.getD_eq_getElem?_getD];omega) | fail),fun _=>?_⟩ | fail)
      exact⟨(.keep hf),[],hH,rfl,rfl,rfl,kp_⟩
     ·exact absurd hy2.1 hy1
     ·exact absurd hy2.1 hy1
    ·exact hy1.2.elim
    ·repeat (first | refine⟨fun _=>?_,fun h=>Bool.noConfusion h⟩ | refine⟨fun h=>Bool.noConfusion h,fun _=>?_⟩ | fail)
     refine⟨kp_,?_⟩
     refine .inl ⟨⟨c,xk,yk,key,hf,kh,xs,(st.running % (xs.length:Int)).toNat,_,nb,(xs.getD (st.running % (xs.length:Int)).toNat aZ).tick,(xs.getD (st.running % (xs.length:Int)).toNat aZ).parent,(signA { (xs.getD (st.running % (xs.length:Int)).toNat aZ) with number:=nb } key).sum,A,kp,kq,elq⟩,[],⟨⟨hV,hL⟩,hH,hkh⟩,rfl,kp_,rfl,rfl,fun y2 hy2=>?_⟩
     rcases y2 with _ | _ | ⟨k2,el2⟩
     ·exact absurd hy1 hy2
     ·exact hy2.2.elim
     ·repeat (first | refine⟨fun _=>?_,fun h=>Bool.noConfusion h⟩ | refine⟨fun h=>Bool.noConfusion h,fun _=>?_⟩ | fail)
      obtain⟨hv2,hq2,he2⟩:=hy2
      refine .inr (.inl ⟨⟨c,xk,yk,key,(dlF (xs.getD (st.running % (xs.length:Int)).toNat aZ).routes hf c.tenants.length),kh,0,0,0,(⟨nb,(xs.getD (st.running % (xs.length:Int)).toNat aZ).tick,(xs.getD (st.running % (xs.length:Int)).toNat aZ).routes,(xs.getD (st.running % (xs.length:Int)).toNat aZ).parent,(signA { (xs.getD (st.running % (xs.length:Int)).toNat aZ) with number:=nb } key).sum⟩:Atl),k1,k2,el2⟩,[(52,100),(53,101)],⟨⟨hV,hL⟩,hH.del _ _,hkh,hv2,hq2,he2⟩,rfl,kp_,rfl,rfl,fun u hu=>?_⟩)
      repeat (first | refine⟨fun _=>?_,fun h=>Bool.noConfusion h⟩ | refine⟨fun h=>Bool.noConfusion h,fun _=>?_⟩ | refine⟨⟨by first | exact Nat.le_refl _ | omega | fail,by first | omega | (dsimp only;omega) | fail,by first | omega | (dsimp only;omega) | fail⟩,?_⟩ | refine⟨fun q=>absurd q (by first | (simp[eqCs,eqC1];done) | fail),fun _=>?_⟩ | refine⟨fun _=>?_,fun q=>absurd q (by first | omega | (simp[-List.getD_eq_getElem?_getD];done) | (simp[-List.getD_eq_getElem?_getD];omega) | fail)⟩ | refine⟨fun q=>absurd q (by first | omega | (simp[-List.getD_eq_getElem?_getD];done) | (simp[-List.getD_eq_getElem?_getD];omega) | fail),fun _=>?_⟩ | fail)
      exact⟨(.new (dlF (xs.getD (st.running % (xs.length:Int)).toNat aZ).routes hf c.tenants.length) (⟨nb,(xs.getD (st.running % (xs.length:Int)).toNat aZ).tick,(xs.getD (st.running % (xs.length:Int)).toNat aZ).routes,(xs.getD (st.running % (xs.length:Int)).toNat aZ).parent,(signA { (xs.getD (st.running % (xs.length:Int)).toNat aZ) with number:=nb } key).sum⟩:Atl) k1 k2 el2),[(54,100),(55,101)],⟨hH.del _ _,hv2,hq2,he2⟩,rfl,rfl,rfl,kp_⟩
   ·refine .inl ⟨⟨c,xk,yk,key,hf,kh,xs,(st.running % (xs.length:Int)).toNat,_,nb,(xs.getD (st.running % (xs.length:Int)).toNat aZ).tick,(xs.getD (st.running % (xs.length:Int)).toNat aZ).parent,(xs.getD (st.running % (xs.length:Int)).toNat aZ).sum,A,kp,kq,elq⟩,[],⟨⟨hV,hL⟩,hH⟩,rfl,kp_,rfl,rfl,fun y1 hy1=>?_⟩
    rcases y1 with _ | _ | ⟨k1,el1⟩
    ·repeat (first | refine⟨fun _=>?_,fun h=>Bool.noConfusion h⟩ | refine⟨fun h=>Bool.noConfusion h,fun _=>?_⟩ | fail)
     refine⟨kp_,?_⟩
     refine .inl ⟨⟨c,xk,yk,key,hf,kh,xs,(st.running % (xs.length:Int)).toNat,_,nb,(xs.getD (st.running % (xs.length:Int)).toNat aZ).tick,(xs.getD (st.running % (xs.length:Int)).toNat aZ).parent,(xs.getD (st.running % (xs.length:Int)).toNat aZ).sum,A,kp,kq,elq⟩,[],⟨⟨hV,hL⟩,hH,hkh⟩,rfl,kp_,rfl,rfl,fun y2 hy2=>?_⟩
     rcases y2 with _ | _ | ⟨k2,el2⟩
     ·repeat (first | refine⟨fun _=>?_,fun h=>Bool.noConfusion h⟩ | refine⟨fun h=>Bool.noConfusion h,fun _=>?_⟩ | fail)
      have hH2:=hH
      refine .inl ⟨⟨c,xk,yk,key,hf,kh,0,0,0,A,kp,kq,elq⟩,[],⟨⟨hV,hL⟩,hH2,hkh⟩,rfl,kp_,rfl,rfl,fun u hu=>?_⟩
      repeat (first | refine⟨fun _=>?_,fun h=>Bool.noConfusion h⟩ | refine⟨fun h=>Bool.noConfusion h,fun _=>?_⟩ | refine⟨⟨by first | exact Nat.le_refl _ | omega | fail,by first | omega | (dsimp only;omega) | fail,by first | omega | (dsimp only;omega) | fail⟩,?_⟩ | refine⟨fun q=>absurd q (by first | (simp[eqCs,eqC1];done) | fail),fun _=>?_⟩ | refine⟨fun _=>?_,fun q=>absurd q (by first | omega | (simp[-List.getD_eq_getElem?_getD];done) | (simp[-List.getD_eq_getElem?_getD];omega) | fail)⟩ | refine⟨fun q=>absurd q (by first | omega | (simp[-List.getD_eq_getElem?_getD];done) | (simp[-List.getD_eq_getElem?_getD];omega) | fail),fun _=>?_⟩ | fail)
      exact⟨(.keep hf),[],hH,rfl,rfl,rfl,kp_⟩
     ·exact absurd hy2.1 hy1
     ·exact absurd hy2.1 hy1
    ·exact hy1.2.elim
    ·repeat (first | refine⟨fun _=>?_,fun h=>Bool.noConfusion h⟩ | refine⟨fun h=>Bool.noConfusion h,fun _=>?_⟩ | fail)
     refine⟨kp_,?_⟩
     refine .inl ⟨⟨c,xk,yk,key,hf,kh,xs,(st.running % (xs.length:Int)).toNat,_,nb,(xs.getD (st.running % (xs.length:Int)).toNat aZ).tick,(xs.getD (st.running % (xs.length:Int)).toNat aZ).parent,(xs.getD (st.running % (xs.length:Int)).toNat aZ).sum,A,kp,kq,elq⟩,[],⟨⟨hV,hL⟩,hH,hkh⟩,rfl,kp_,rfl,rfl,fun y2 hy2=>?_⟩
     rcases y2 with _ | _ | ⟨k2,el2⟩
     ·exact absurd hy1 hy2
     ·exact hy2.2.elim
     ·repeat (first | refine⟨fun _=>?_,fun h=>Bool.noConfusion h⟩ | refine⟨fun h=>Bool.noConfusion h,fun _=>?_⟩ | fail)
      obtain⟨hv2,hq2,he2⟩:=hy2
      refine .inr (.inl ⟨⟨c,xk,yk,key,(dlF (xs.getD (st.running % (xs.length:Int)).toNat aZ).routes hf c.tenants.length),kh,0,0,0,(⟨nb,(xs.getD (st.running % (xs.length:Int)).toNat aZ).tick,(xs.getD (st.running % (xs.length:Int)).toNat aZ).routes,(xs.getD (st.running % (xs.length:Int)).toNat aZ).parent,(xs.getD (st.running % (xs.length:Int)).toNat aZ).sum⟩:Atl),k1,k2,el2⟩,[(52,100),(53,101)],⟨⟨hV,hL⟩,hH.del _ _,hkh,hv2,hq2,he2⟩,rfl,kp_,rfl,rfl,fun u hu=>?_⟩)
      repeat (first | refine⟨fun _=>?_,fun h=>Bool.noConfusion h⟩ | refine⟨fun h=>Bool.noConfusion h,fun _=>?_⟩ | refine⟨⟨by first | exact Nat.le_refl _ | omega | fail,by first | omega | (dsimp only;omega) | fail,by first | omega | (dsimp only;omega) | fail⟩,?_⟩ | refine⟨fun q=>absurd q (by first | (simp[eqCs,eqC1];done) | fail),fun _=>?_⟩ | refine⟨fun _=>?_,fun q=>absurd q (by first | omega | (simp[-List.getD_eq_getElem?_getD];done) | (simp[-List.getD_eq_getElem?_getD];omega) | fail)⟩ | refine⟨fun q=>absurd q (by first | omega | (simp[-List.getD_eq_getElem?_getD];done) | (simp[-List.getD_eq_getElem?_getD];omega) | fail),fun _=>?_⟩ | fail)
      exact⟨(.new (dlF (xs.getD (st.running % (xs.length:Int)).toNat aZ).routes hf c.tenants.length) (⟨nb,(xs.getD (st.running % (xs.length:Int)).toNat aZ).tick,(xs.getD (st.running % (xs.length:Int)).toNat aZ).routes,(xs.getD (st.running % (xs.length:Int)).toNat aZ).parent,(xs.getD (st.running % (xs.length:Int)).toNat aZ).sum⟩:Atl) k1 k2 el2),[(54,100),(55,101)],⟨hH.del _ _,hv2,hq2,he2⟩,rfl,rfl,rfl,kp_⟩
  ·refine⟨fun _=>?_,fun _=>?_⟩
   ·refine .inl ⟨⟨c,xk,yk,key,hf,kh,st.running,st.wanted,st.since,A,kp,kq,elq⟩,[],⟨⟨hV,hL⟩,hH,hkh⟩,rfl,kp_,rfl,rfl,fun y1 hy1=>?_⟩
    cases y1
    ·refine⟨kp_,?_⟩
     repeat (first | refine⟨fun _=>?_,fun h=>Bool.noConfusion h⟩ | refine⟨fun h=>Bool.noConfusion h,fun _=>?_⟩ | refine⟨⟨by first | exact Nat.le_refl _ | omega | fail,by first | omega | (dsimp only;omega) | fail,by first | omega | (dsimp only;omega) | fail⟩,?_⟩ | refine⟨fun q=>absurd q (by first | (simp[eqCs,eqC1];done) | fail),fun _=>?_⟩ | refine⟨fun _=>?_,fun q=>absurd q (by first | omega | (simp[-List.getD_eq_getElem?_getD];done) | (simp[-List.getD_eq_getElem?_getD];omega) | fail)⟩ | refine⟨fun q=>absurd q (by first | omega | (simp[-List.getD_eq_getElem?_getD];done) | (simp[-List.getD_eq_getElem?_getD];omega) | fail),fun _=>?_⟩ | fail)
     refine .inl ⟨⟨c,xk,yk,key,hf,kh,st.running,st.wanted,st.since,A,kp,kq,elq⟩,[],⟨⟨hV,hL⟩,hH,hkh⟩,rfl,kp_,rfl,rfl,fun y2 hy2=>?_⟩
     cases y2
     ·repeat (first | refine⟨fun _=>?_,fun h=>Bool.noConfusion h⟩ | refine⟨fun h=>Bool.noConfusion h,fun _=>?_⟩ | fail)
      have hH2:=hH
      refine .inl ⟨⟨c,xk,yk,key,hf,kh,0,0,0,A,kp,kq,elq⟩,[],⟨⟨hV,hL⟩,hH2,hkh⟩,rfl,kp_,rfl,rfl,fun u hu=>?_⟩
      repeat (first | refine⟨fun _=>?_,fun h=>Bool.noConfusion h⟩ | refine⟨fun h=>Bool.noConfusion h,fun _=>?_⟩ | refine⟨⟨by first | exact Nat.le_refl _ | omega | fail,by first | omega | (dsimp only;omega) | fail,by first | omega | (dsimp only;omega) | fail⟩,?_⟩ | refine⟨fun q=>absurd q (by first | (simp[eqCs,eqC1];done) | fail),fun _=>?_⟩ | refine⟨fun _=>?_,fun q=>absurd q (by first | omega | (simp[-List.getD_eq_getElem?_getD];done) | (simp[-List.getD_eq_getElem?_getD];omega) | fail)⟩ | refine⟨fun q=>absurd q (by first | omega | (simp[-List.getD_eq_getElem?_getD];done) | (simp[-List.getD_eq_getElem?_getD];omega) | fail),fun _=>?_⟩ | fail)
      exact⟨(.keep hf),[],hH,rfl,rfl,rfl,kp_⟩
     ·exact absurd hy2 hy1
    ·refine⟨kp_,?_⟩
     repeat (first | refine⟨fun _=>?_,fun h=>Bool.noConfusion h⟩ | refine⟨fun h=>Bool.noConfusion h,fun _=>?_⟩ | refine⟨⟨by first | exact Nat.le_refl _ | omega | fail,by first | omega | (dsimp only;omega) | fail,by first | omega | (dsimp only;omega) | fail⟩,?_⟩ | refine⟨fun q=>absurd q (by first | (simp[eqCs,eqC1];done) | fail),fun _=>?_⟩ | refine⟨fun _=>?_,fun q=>absurd q (by first | omega | (simp[-List.getD_eq_getElem?_getD];done) | (simp[-List.getD_eq_getElem?_getD];omega) | fail)⟩ | refine⟨fun q=>absurd q (by first | omega | (simp[-List.getD_eq_getElem?_getD];done) | (simp[-List.getD_eq_getElem?_getD];omega) | fail),fun _=>?_⟩ | fail)
     refine .inl ⟨⟨c,xk,yk,key,hf,kh,st.running,st.wanted,st.since,A,kp,kq,elq⟩,[],⟨⟨hV,hL⟩,hH,hkh⟩,rfl,kp_,rfl,rfl,fun y2 hy2=>?_⟩
     cases y2
     ·exact absurd hy1 hy2
     ·repeat (first | refine⟨fun _=>?_,fun h=>Bool.noConfusion h⟩ | refine⟨fun h=>Bool.noConfusion h,fun _=>?_⟩ | fail)
      have hH2:HfOk c.tenants.length (stF hf (st.running).toNat (st.wanted,st.since)):=hH.set (knownE_pos hH hy1.1 (fun _=>Int.le_refl _) hy1.2.2.2)
      refine .inl ⟨⟨c,xk,yk,key,(stF hf (st.running).toNat (st.wanted,st.since)),kh,0,0,0,A,kp,kq,elq⟩,[],⟨⟨hV,hL⟩,hH2,hkh⟩,rfl,kp_,rfl,rfl,fun u hu=>?_⟩
      repeat (first | refine⟨fun _=>?_,fun h=>Bool.noConfusion h⟩ | refine⟨fun h=>Bool.noConfusion h,fun _=>?_⟩ | refine⟨⟨by first | exact Nat.le_refl _ | omega | fail,by first | omega | (dsimp only;omega) | fail,by first | omega | (dsimp only;omega) | fail⟩,?_⟩ | refine⟨fun q=>absurd q (by first | (simp[eqCs,eqC1];done) | fail),fun _=>?_⟩ | refine⟨fun _=>?_,fun q=>absurd q (by first | omega | (simp[-List.getD_eq_getElem?_getD];done) | (simp[-List.getD_eq_getElem?_getD];omega) | fail)⟩ | refine⟨fun q=>absurd q (by first | omega | (simp[-List.getD_eq_getElem?_getD];done) | (simp[-List.getD_eq_getElem?_getD];omega) | fail),fun _=>?_⟩ | fail)
      exact⟨(.keep (stF hf (st.running).toNat (st.wanted,st.since))),[],hH2,rfl,rfl,rfl,kp_⟩
   ·refine⟨_,_,_,rfl,⟨by decide,by decide⟩,fun t5 ht5=>?_⟩
    refine⟨kp_,?_⟩
    refine⟨_,_,_,rfl,⟨by decide,by decide⟩,fun x5 hx5=>?_⟩
    refine⟨kp_,?_⟩
    refine⟨_,_,_,rfl,⟨by decide,by decide⟩,fun e5 he5=>?_⟩
    refine .inl ⟨⟨c,xk,yk,key,hf,kh,t5,x5,e5,A,kp,kq,elq⟩,[],⟨⟨hV,hL⟩,hH,hkh⟩,rfl,kp_,rfl,rfl,fun y1 hy1=>?_⟩
    cases y1
    ·repeat (first | refine⟨fun _=>?_,fun h=>Bool.noConfusion h⟩ | refine⟨fun h=>Bool.noConfusion h,fun _=>?_⟩ | fail)
     refine .inl ⟨⟨c,xk,yk,key,hf,kh,t5,x5,e5,A,kp,kq,elq⟩,[],⟨⟨hV,hL⟩,hH,hkh⟩,rfl,kp_,rfl,rfl,fun y2 hy2=>?_⟩
     cases y2
     ·repeat (first | refine⟨fun _=>?_,fun h=>Bool.noConfusion h⟩ | refine⟨fun h=>Bool.noConfusion h,fun _=>?_⟩ | fail)
      have hH2:=hH
      refine .inl ⟨⟨c,xk,yk,key,hf,kh,0,0,0,A,kp,kq,elq⟩,[],⟨⟨hV,hL⟩,hH2,hkh⟩,rfl,kp_,rfl,rfl,fun u hu=>?_⟩
      repeat (first | refine⟨fun _=>?_,fun h=>Bool.noConfusion h⟩ | refine⟨fun h=>Bool.noConfusion h,fun _=>?_⟩ | refine⟨⟨by first | exact Nat.le_refl _ | omega | fail,by first | omega | (dsimp only;omega) | fail,by first | omega | (dsimp only;omega) | fail⟩,?_⟩ | refine⟨fun q=>absurd q (by first | (simp[eqCs,eqC1];done) | fail),fun _=>?_⟩ | refine⟨fun _=>?_,fun q=>absurd q (by first | omega | (simp[-List.getD_eq_getElem?_getD];done) | (simp[-List.getD_eq_getElem?_getD];omega) | fail)⟩ | refine⟨fun q=>absurd q (by first | omega | (simp[-List.getD_eq_getElem?_getD];done) | (simp[-List.getD_eq_getElem?_getD];omega) | fail),fun _=>?_⟩ | fail)
      exact⟨(.keep hf),[],hH,rfl,rfl,rfl,kp_⟩
     ·exact absurd hy2 hy1
    ·repeat (first | refine⟨fun _=>?_,fun h=>Bool.noConfusion h⟩ | refine⟨fun h=>Bool.noConfusion h,fun _=>?_⟩ | fail)
     refine .inl ⟨⟨c,xk,yk,key,hf,kh,t5,x5,e5,A,kp,kq,elq⟩,[],⟨⟨hV,hL⟩,hH,hkh⟩,rfl,kp_,rfl,rfl,fun y2 hy2=>?_⟩
     cases y2
     ·exact absurd hy1 hy2
     ·repeat (first | refine⟨fun _=>?_,fun h=>Bool.noConfusion h⟩ | refine⟨fun h=>Bool.noConfusion h,fun _=>?_⟩ | fail)
      have hH2:HfOk c.tenants.length (stF hf (t5).toNat (x5,e5)):=hH.set (knownE_pos hH hy1.1 (fun _=>Int.le_refl _) hy1.2.2.2)
      refine .inl ⟨⟨c,xk,yk,key,(stF hf (t5).toNat (x5,e5)),kh,0,0,0,A,kp,kq,elq⟩,[],⟨⟨hV,hL⟩,hH2,hkh⟩,rfl,kp_,rfl,rfl,fun u hu=>?_⟩
      repeat (first | refine⟨fun _=>?_,fun h=>Bool.noConfusion h⟩ | refine⟨fun h=>Bool.noConfusion h,fun _=>?_⟩ | refine⟨⟨by first | exact Nat.le_refl _ | omega | fail,by first | omega | (dsimp only;omega) | fail,by first | omega | (dsimp only;omega) | fail⟩,?_⟩ | refine⟨fun q=>absurd q (by first | (simp[eqCs,eqC1];done) | fail),fun _=>?_⟩ | refine⟨fun _=>?_,fun q=>absurd q (by first | omega | (simp[-List.getD_eq_getElem?_getD];done) | (simp[-List.getD_eq_getElem?_getD];omega) | fail)⟩ | refine⟨fun q=>absurd q (by first | omega | (simp[-List.getD_eq_getElem?_getD];done) | (simp[-List.getD_eq_getElem?_getD];omega) | fail),fun _=>?_⟩ | fail)
      exact⟨(.keep (stF hf (t5).toNat (x5,e5))),[],hH2,rfl,rfl,rfl,kp_⟩
theorem boNOk:CSound Tryz.prog 15 ctBoN:=ctObj_ok (F:=[(56,ctMod),(38,ctBwG),(57,ctTkP),(58,ctTkQ),(35,ctLnP),(60,ctLnQ2),(59,ctSigned),(13,ctSm)]) (D:=boDBoN) ttPok (fti_cons (modOk.i _) (fti_cons (bwGOk.i _) (fti_cons (tkPOk.i _) (fti_cons (tkQOk.i _) (fti_cons (lnPOk.i _) (fti_cons (lnQ2Ok.i _) (fti_cons (signedOk.i _) (fti_cons (smOk.i _) fti_nil)))))))) mixed (by kernel_rfl) Tryz.func15 rfl (by kernel_rfl) (fun x=>by cases x;rfl) (fun x=>by cases x;rfl) (fun x y=>by cases x;cases y<;>rfl) (fun x hx=>by cases x;exact boN_sx _ _ _ _ _ _ _ _ _ _ _ _ _ _ hx)
/-! law16.both,with a copy -/
def boDBoS:List (Nat×DQ):=[(9,{ k:=5,L:=[55],pre:=[(0,false),(1,false),(3,false),(4,false),(2,true)] }),(14,{ k:=5,L:=[0,1,2,3,4,5,6,7,8,9,10,11,12,13,14,15,16,17,18,19,20,21,22,23,24,25,26,27,28,29,30,31,32,33,34,35,36,37,38,39,40,41,42,43,44,45,46,47,48,49,50,51,52,53,54,55,56,57,58,59,60,61,62,63,64,65,66,67,68,69,70,71,72,73,74,75,76,77,78,79,80,81,82,83,84,85,86,87,88,89,90,91,92,93,94,95,96,97,98,99],pre:=[(0,false),(1,false),(2,false),(3,false),(4,false)] }),(15,{ k:=5,L:=[55],pre:=[(0,false),(1,false),(3,false),(4,false),(2,true)] }),(18,{ k:=15,L:=[54],pre:=[(0,false),(1,false),(2,false),(3,false),(4,false),(5,false),(6,false),(8,false),(9,false),(10,false),(11,false),(12,false),(13,false),(14,false),(7,true)] }),(3,{ k:=8,L:=[54],pre:=[(0,false),(1,false),(3,false),(4,false),(6,false),(7,false),(2,true),(5,true)] }),(5000009,{ k:=100,L:=[0,1,2,3,4,5,6,7,8,9,10,11,12,13,14,15,16,17,18,19,20,21,22,23,24,25,26,27,28,29,30,31,32,33,34,35,36,37,38,39,40,41,42,43,44,45,46,47,48,49,50,51,52,53,54,55,56,57,58,59],sl:=[0,1,2,7,9,23] })]
def vsBoS:BX→List Value:=fun x=>match x with | ⟨c,xk,yk,key,hf,kh,xs,cps,cx,st,A,kp,kq,elq⟩=>[ptr 28,ptr 31,.slice (some ⟨51,0,none⟩) xs.length cx,.agg #[.int .i64 st.mode,.int .i64 st.running,.int .i64 st.wanted,.int .i64 st.since]]
def mBoS:BX→AM:=fun x=>match x with | ⟨c,xk,yk,key,hf,kh,xs,cps,cx,st,A,kp,kq,elq⟩=>[(28,.box 114 [.int .i64 c.regions,slc 21 c.zones.length yk.cz,slc 22 c.cells.length yk.cc,slc 23 c.tenants.length yk.ct,slc 24 c.versions.length yk.cv,slc 25 c.replicas.length yk.cr,slc 26 c.observers.length yk.co,.int .i64 c.blast,.int .i64 c.lease,.int .i64 c.bake,.int .i64 key,.bool true,.int .i64 A.number,.int .i64 A.tick,slc 52 A.routes.length kp,.int .u64 A.parent,.int .u64 A.sum,.map (some 27)]),(27,.ext (.map .i64 true (hintF (hmOf c.tenants.length hf)))),(31,.box 116 [.int .i64 c.regions,slc 18 c.zones.length xk.cz,slc 17 c.cells.length xk.cc,slc 16 c.tenants.length xk.ct,slc 15 c.versions.length xk.cv,slc 14 c.replicas.length xk.cr,slc 13 c.observers.length xk.co,.int .i64 c.blast,.int .i64 c.lease,.int .i64 c.bake,.int .i64 key,.bool true,.int .i64 A.number,.int .i64 A.tick,slc 53 A.routes.length kq,.int .u64 A.parent,.int .u64 A.sum,slc 30 c.tenants.length kh]),(30,.row (1000000+92) 2 kh (fun k=>pairC (hf k))),(52,rowOfL 0 2 pairC (0,0) A.routes),(53,.row (1000000+92) 2 kq elq),(21,rowOfL 0 1 intC 0 c.zones),(22,rowOfL 0 2 pairC (0,0) c.cells),(23,rowOfL 0 7 tenC default c.tenants),(24,rowOfL 0 2 pairC (0,0) c.versions),(25,rowOfL 0 1 intC 0 c.replicas),(26,rowOfL 0 1 intC 0 c.observers),(18,rowOfL 0 1 intC 0 c.zones),(17,rowOfL 0 2 pairC (0,0) c.cells),(16,rowOfL 0 7 tenC default c.tenants),(15,rowOfL 0 2 pairC (0,0) c.versions),(14,rowOfL 0 1 intC 0 c.replicas),(13,rowOfL 0 1 intC 0 c.observers),(50,famB 0 xs),(51,deepA 0 0 xs cps 50)]
def preBoS:BX→Prop:=fun x=>match x with | ⟨c,xk,yk,key,hf,kh,xs,cps,cx,st,A,kp,kq,elq⟩=>(CfgV c∧Lens c)∧HfOk c.tenants.length hf∧(c.tenants.length≤kh∧CopyP c key xs∧cfgErr c=0)∧(ValidA c A key∧A.routes.length≤kq∧∀ k,k<A.routes.length→elq k=pairC (A.routes.getD k (0,0)))
def postBoS:BX→BY→Prop:=fun x y=>match x with | ⟨c,xk,yk,key,hf,kh,xs,cps,cx,st,A,kp,kq,elq⟩=>match y with | .keep hf2=>HfOk c.tenants.length hf2 | .new hf2 A2 kp2 kq2 el2=>HfOk c.tenants.length hf2∧(ValidA c A2 key∧A2.routes.length≤kq2∧∀ k,k<A2.routes.length→el2 k=pairC (A2.routes.getD k (0,0)))
def VBoS:BX→BY→Value:=fun x y=>match x with | ⟨c,xk,yk,key,hf,kh,xs,cps,cx,st,A,kp,kq,elq⟩=>match y with | _=>.bool true
def MBoS:BX→BY→AM:=fun x y=>match x with | ⟨c,xk,yk,key,hf,kh,xs,cps,cx,st,A,kp,kq,elq⟩=>match y with | .keep hf2=>[(28,.box 114 [.int .i64 c.regions,slc 21 c.zones.length yk.cz,slc 22 c.cells.length yk.cc,slc 23 c.tenants.length yk.ct,slc 24 c.versions.length yk.cv,slc 25 c.replicas.length yk.cr,slc 26 c.observers.length yk.co,.int .i64 c.blast,.int .i64 c.lease,.int .i64 c.bake,.int .i64 key,.bool true,.int .i64 A.number,.int .i64 A.tick,slc 52 A.routes.length kp,.int .u64 A.parent,.int .u64 A.sum,.map (some 27)]),(27,.ext (.map .i64 true (hintF (hmOf c.tenants.length hf2)))),(31,.box 116 [.int .i64 c.regions,slc 18 c.zones.length xk.cz,slc 17 c.cells.length xk.cc,slc 16 c.tenants.length xk.ct,slc 15 c.versions.length xk.cv,slc 14 c.replicas.length xk.cr,slc 13 c.observers.length xk.co,.int .i64 c.blast,.int .i64 c.lease,.int .i64 c.bake,.int .i64 key,.bool true,.int .i64 A.number,.int .i64 A.tick,slc 53 A.routes.length kq,.int .u64 A.parent,.int .u64 A.sum,slc 30 c.tenants.length kh]),(30,.row (1000000+92) 2 kh (fun k=>pairC (hf2 k))),(53,.row (1000000+92) 2 kq elq)] | .new hf2 A2 kp2 kq2 el2=>[(28,.box 114 [.int .i64 c.regions,slc 21 c.zones.length yk.cz,slc 22 c.cells.length yk.cc,slc 23 c.tenants.length yk.ct,slc 24 c.versions.length yk.cv,slc 25 c.replicas.length yk.cr,slc 26 c.observers.length yk.co,.int .i64 c.blast,.int .i64 c.lease,.int .i64 c.bake,.int .i64 key,.bool true,.int .i64 A2.number,.int .i64 A2.tick,slc 54 A2.routes.length kp2,.int .u64 A2.parent,.int .u64 A2.sum,.map (some 27)]),(27,.ext (.map .i64 true (hintF (hmOf c.tenants.length hf2)))),(31,.box 116 [.int .i64 c.regions,slc 18 c.zones.length xk.cz,slc 17 c.cells.length xk.cc,slc 16 c.tenants.length xk.ct,slc 15 c.versions.length xk.cv,slc 14 c.replicas.length xk.cr,slc 13 c.observers.length xk.co,.int .i64 c.blast,.int .i64 c.lease,.int .i64 c.bake,.int .i64 key,.bool true,.int .i64 A2.number,.int .i64 A2.tick,slc 55 A2.routes.length kq2,.int .u64 A2.parent,.int .u64 A2.sum,slc 30 c.tenants.length kh]),(30,.row (1000000+92) 2 kh (fun k=>pairC (hf2 k))),(54,rowOfL 500000 2 pairC (0,0) A2.routes),(55,.row (1000000+92) 2 kq2 el2),(53,.row (1000000+92) 2 kq elq)]
def ctBoS:CT:=ctObj vsBoS mBoS 54 preBoS postBoS VBoS MBoS 2
set_option maxRecDepth 100000 in
set_option maxHeartbeats 400000000 in
theorem boS_sx (c:Cfg) (xk yk:CfgK) (key:Int) (hf:HF) (kh:Nat) (xs:List Atl) (cps:List Nat) (cx:Nat) (st:CS) (A:Atl) (kp kq:Nat) (elq:Nat→List Value) (hp:(CfgV c∧Lens c)∧HfOk c.tenants.length hf∧(c.tenants.length≤kh∧CopyP c key xs∧cfgErr c=0)∧(ValidA c A key∧A.routes.length≤kq∧∀ k,k<A.routes.length→elq k=pairC (A.routes.getD k (0,0)))) :
  sx ttP [(56,ctMod),(38,ctBwG),(57,ctTkP),(58,ctTkQ),(35,ctLnP),(60,ctLnQ2),(59,ctSigned),(13,ctSm)] boDBoS (bodyOf Tryz.f15) (argF 0 [ptr 28,ptr 31,.slice (some ⟨51,0,none⟩) xs.length cx,.agg #[.int .i64 st.mode,.int .i64 st.running,.int .i64 st.wanted,.int .i64 st.since]]) [(28,.box 114 [.int .i64 c.regions,slc 21 c.zones.length yk.cz,slc 22 c.cells.length yk.cc,slc 23 c.tenants.length yk.ct,slc 24 c.versions.length yk.cv,slc 25 c.replicas.length yk.cr,slc 26 c.observers.length yk.co,.int .i64 c.blast,.int .i64 c.lease,.int .i64 c.bake,.int .i64 key,.bool true,.int .i64 A.number,.int .i64 A.tick,slc 52 A.routes.length kp,.int .u64 A.parent,.int .u64 A.sum,.map (some 27)]),(27,.ext (.map .i64 true (hintF (hmOf c.tenants.length hf)))),(31,.box 116 [.int .i64 c.regions,slc 18 c.zones.length xk.cz,slc 17 c.cells.length xk.cc,slc 16 c.tenants.length xk.ct,slc 15 c.versions.length xk.cv,slc 14 c.replicas.length xk.cr,slc 13 c.observers.length xk.co,.int .i64 c.blast,.int .i64 c.lease,.int .i64 c.bake,.int .i64 key,.bool true,.int .i64 A.number,.int .i64 A.tick,slc 53 A.routes.length kq,.int .u64 A.parent,.int .u64 A.sum,slc 30 c.tenants.length kh]),(30,.row (1000000+92) 2 kh (fun k=>pairC (hf k))),(52,rowOfL 0 2 pairC (0,0) A.routes),(53,.row (1000000+92) 2 kq elq),(21,rowOfL 0 1 intC 0 c.zones),(22,rowOfL 0 2 pairC (0,0) c.cells),(23,rowOfL 0 7 tenC default c.tenants),(24,rowOfL 0 2 pairC (0,0) c.versions),(25,rowOfL 0 1 intC 0 c.replicas),(26,rowOfL 0 1 intC 0 c.observers),(18,rowOfL 0 1 intC 0 c.zones),(17,rowOfL 0 2 pairC (0,0) c.cells),(16,rowOfL 0 7 tenC default c.tenants),(15,rowOfL 0 2 pairC (0,0) c.versions),(14,rowOfL 0 1 intC 0 c.replicas),(13,rowOfL 0 1 intC 0 c.observers),(50,famB 0 xs),(51,deepA 0 0 xs cps 50)] 54 (endx ttP Tryz.f15.results.toList (objR 54 (postBoS ⟨c,xk,yk,key,hf,kh,xs,cps,cx,st,A,kp,kq,elq⟩) (VBoS ⟨c,xk,yk,key,hf,kh,xs,cps,cx,st,A,kp,kq,elq⟩) (MBoS ⟨c,xk,yk,key,hf,kh,xs,cps,cx,st,A,kp,kq,elq⟩))):=by
 obtain⟨⟨hV,hL⟩,hH⟩:=hp
 have hnt:=hV.nt
 have hnc:=hV.nc
 obtain⟨hH,⟨hkh,hP,hE⟩,hva,hkq,hel⟩:=hH
 have hx1:=hP.ne
 have hx2:=hP.le
 refine⟨_,_,rfl,⟨by omega,by omega⟩,?_⟩
 have hj:0≤st.running % (xs.length:Int)∧st.running % (xs.length:Int)<xs.length:=⟨Int.emod_nonneg _ (by omega),Int.emod_lt_of_pos _ (by omega)⟩
 have hjn:(st.running % (xs.length:Int)).toNat<xs.length:=by omega
 refine⟨⟨Nat.le_refl _,hj.1,hj.2⟩,?_⟩
 refine⟨_,_,rfl,⟨by decide,by decide⟩,?_⟩
 refine⟨Bool,fun b=>[(44,.bool b)],fun _=>[],fun _=>True,?_,?_⟩
 ·repeat' (first | refine⟨fun _=>?_,fun h=>Bool.noConfusion h⟩ | refine⟨fun h=>Bool.noConfusion h,fun _=>?_⟩ | refine⟨fun _=>?_,fun _=>?_⟩ | fail)
  all_goals exact⟨_,trivial,kp_,kp_⟩
 rintro b -
 refine⟨⟨by decide,rfl,rfl⟩,?_⟩
 refine⟨fun _=>?_,fun _=>?_⟩
 ·refine .inr ⟨⟨c,xk,yk,key,hf,kh,xs,(st.running % (xs.length:Int)).toNat,_,(xs.getD (st.running % (xs.length:Int)).toNat aZ).number,(xs.getD (st.running % (xs.length:Int)).toNat aZ).tick,(xs.getD (st.running % (xs.length:Int)).toNat aZ).parent,(xs.getD (st.running % (xs.length:Int)).toNat aZ).sum,A,kp,kq,elq⟩,[],⟨⟨hV,hL⟩,hH⟩,rfl,kp_,rfl,rfl,fun y1 hy1=>?_⟩
  rcases y1 with _ | _ | ⟨k1,el1⟩
  ·repeat (first | refine⟨fun _=>?_,fun h=>Bool.noConfusion h⟩ | refine⟨fun h=>Bool.noConfusion h,fun _=>?_⟩ | fail)
   refine⟨kp_,?_⟩
   refine .inr (.inl ⟨⟨c,xk,yk,key,hf,kh,xs,(st.running % (xs.length:Int)).toNat,_,(xs.getD (st.running % (xs.length:Int)).toNat aZ).number,(xs.getD (st.running % (xs.length:Int)).toNat aZ).tick,(xs.getD (st.running % (xs.length:Int)).toNat aZ).parent,(xs.getD (st.running % (xs.length:Int)).toNat aZ).sum,A,kp,kq,elq⟩,[],⟨⟨hV,hL⟩,hH,hkh⟩,rfl,kp_,rfl,rfl,fun y2 hy2=>?_⟩)
   rcases y2 with _ | _ | ⟨k2,el2⟩
   ·repeat (first | refine⟨fun _=>?_,fun h=>Bool.noConfusion h⟩ | refine⟨fun h=>Bool.noConfusion h,fun _=>?_⟩ | fail)
    have hH2:=hH
    refine .inr (.inl ⟨⟨c,xk,yk,key,hf,kh,0,0,0,A,kp,kq,elq⟩,[],⟨⟨hV,hL⟩,hH2,hkh,hva,hkq,hel⟩,rfl,kp_,rfl,rfl,fun u hu=>?_⟩)
    repeat (first | refine⟨fun _=>?_,fun h=>Bool.noConfusion h⟩ | refine⟨fun h=>Bool.noConfusion h,fun _=>?_⟩ | refine⟨⟨by first | exact Nat.le_refl _ | omega | fail,by first | omega | (dsimp only;omega) | fail,by first | omega | (dsimp only;omega) | fail⟩,?_⟩ | refine⟨fun q=>absurd q (by first | (simp[eqCs,eqC1];done) | fail),fun _=>?_⟩ | refine⟨fun _=>?_,fun q=>absurd q (by first | omega | (simp[-List.getD_eq_getElem?_getD];done) | (simp[-List.getD_eq_getElem?_getD];omega) | fail)⟩ | refine⟨fun q=>absurd q (by first | omega | (simp[-List.getD_eq_getElem?_getD];done) | (simp[-List.getD_eq_getElem?_getD];omega) | fail),fun _=>?_⟩ | fail)
    exact⟨(.keep hf),[],hH,rfl,rfl,rfl,kp_⟩
   ·exact absurd hy2.1 hy1
   ·exact absurd hy2.1.1 hy1
  ·repeat (first | refine⟨fun _=>?_,fun h=>Bool.noConfusion h⟩ | refine⟨fun h=>Bool.noConfusion h,fun _=>?_⟩ | fail)
   refine⟨kp_,?_⟩
   refine .inr (.inl ⟨⟨c,xk,yk,key,hf,kh,xs,(st.running % (xs.length:Int)).toNat,_,(xs.getD (st.running % (xs.length:Int)).toNat aZ).number,(xs.getD (st.running % (xs.length:Int)).toNat aZ).tick,(xs.getD (st.running % (xs.length:Int)).toNat aZ).parent,(xs.getD (st.running % (xs.length:Int)).toNat aZ).sum,A,kp,kq,elq⟩,[],⟨⟨hV,hL⟩,hH,hkh⟩,rfl,kp_,rfl,rfl,fun y2 hy2=>?_⟩)
   rcases y2 with _ | _ | ⟨k2,el2⟩
   ·exact absurd hy1.1 hy2
   ·repeat (first | refine⟨fun _=>?_,fun h=>Bool.noConfusion h⟩ | refine⟨fun h=>Bool.noConfusion h,fun _=>?_⟩ | fail)
    have hH2:=hH
    refine .inr (.inl ⟨⟨c,xk,yk,key,hf,kh,0,0,0,A,kp,kq,elq⟩,[],⟨⟨hV,hL⟩,hH2,hkh,hva,hkq,hel⟩,rfl,kp_,rfl,rfl,fun u hu=>?_⟩)
    repeat (first | refine⟨fun _=>?_,fun h=>Bool.noConfusion h⟩ | refine⟨fun h=>Bool.noConfusion h,fun _=>?_⟩ | refine⟨⟨by first | exact Nat.le_refl _ | omega | fail,by first | omega | (dsimp only;omega) | fail,by first | omega | (dsimp only;omega) | fail⟩,?_⟩ | refine⟨fun q=>absurd q (by first | (simp[eqCs,eqC1];done) | fail),fun _=>?_⟩ | refine⟨fun _=>?_,fun q=>absurd q (by first | omega | (simp[-List.getD_eq_getElem?_getD];done) | (simp[-List.getD_eq_getElem?_getD];omega) | fail)⟩ | refine⟨fun q=>absurd q (by first | omega | (simp[-List.getD_eq_getElem?_getD];done) | (simp[-List.getD_eq_getElem?_getD];omega) | fail),fun _=>?_⟩ | fail)
    exact⟨(.keep hf),[],hH,rfl,rfl,rfl,kp_⟩
   ·exact absurd hy1.2 hy2.1.2
  ·repeat (first | refine⟨fun _=>?_,fun h=>Bool.noConfusion h⟩ | refine⟨fun h=>Bool.noConfusion h,fun _=>?_⟩ | fail)
   refine⟨kp_,?_⟩
   refine .inr (.inl ⟨⟨c,xk,yk,key,hf,kh,xs,(st.running % (xs.length:Int)).toNat,_,(xs.getD (st.running % (xs.length:Int)).toNat aZ).number,(xs.getD (st.running % (xs.length:Int)).toNat aZ).tick,(xs.getD (st.running % (xs.length:Int)).toNat aZ).parent,(xs.getD (st.running % (xs.length:Int)).toNat aZ).sum,A,kp,kq,elq⟩,[],⟨⟨hV,hL⟩,hH,hkh⟩,rfl,kp_,rfl,rfl,fun y2 hy2=>?_⟩)
   rcases y2 with _ | _ | ⟨k2,el2⟩
   ·exact absurd hy1.1 hy2
   ·exact absurd hy2.2 hy1.2
   ·repeat (first | refine⟨fun _=>?_,fun h=>Bool.noConfusion h⟩ | refine⟨fun h=>Bool.noConfusion h,fun _=>?_⟩ | fail)
    obtain⟨hv2,hq2,he2⟩:=hy2
    replace hv2:=hv2.1
    refine .inr (.inl ⟨⟨c,xk,yk,key,(dlF (xs.getD (st.running % (xs.length:Int)).toNat aZ).routes hf c.tenants.length),kh,0,0,0,(⟨(xs.getD (st.running % (xs.length:Int)).toNat aZ).number,(xs.getD (st.running % (xs.length:Int)).toNat aZ).tick,(xs.getD (st.running % (xs.length:Int)).toNat aZ).routes,(xs.getD (st.running % (xs.length:Int)).toNat aZ).parent,(xs.getD (st.running % (xs.length:Int)).toNat aZ).sum⟩:Atl),k1,k2,el2⟩,[(52,100),(53,101)],⟨⟨hV,hL⟩,hH.del _ _,hkh,hv2,hq2,he2⟩,rfl,kp_,rfl,rfl,fun u hu=>?_⟩)
    repeat (first | refine⟨fun _=>?_,fun h=>Bool.noConfusion h⟩ | refine⟨fun h=>Bool.noConfusion h,fun _=>?_⟩ | refine⟨⟨by first | exact Nat.le_refl _ | omega | fail,by first | omega | (dsimp only;omega) | fail,by first | omega | (dsimp only;omega) | fail⟩,?_⟩ | refine⟨fun q=>absurd q (by first | (simp[eqCs,eqC1];done) | fail),fun _=>?_⟩ | refine⟨fun _=>?_,fun q=>absurd q (by first | omega | (simp[-List.getD_eq_getElem?_getD];done) | (simp[-List.getD_eq_getElem?_getD];omega) | fail)⟩ | refine⟨fun q=>absurd q (by first | omega | (simp[-List.getD_eq_getElem?_getD];done) | (simp[-List.getD_eq_getElem?_getD];omega) | fail),fun _=>?_⟩ | fail)
    exact⟨(.new (dlF (xs.getD (st.running % (xs.length:Int)).toNat aZ).routes hf c.tenants.length) (⟨(xs.getD (st.running % (xs.length:Int)).toNat aZ).number,(xs.getD (st.running % (xs.length:Int)).toNat aZ).tick,(xs.getD (st.running % (xs.length:Int)).toNat aZ).routes,(xs.getD (st.running % (xs.length:Int)).toNat aZ).parent,(xs.getD (st.running % (xs.length:Int)).toNat aZ).sum⟩:Atl) k1 k2 el2),[(54,100),(55,101)],⟨hH.del _ _,hv2,hq2,he2⟩,rfl,rfl,rfl,kp_⟩
 ·refine⟨fun _=>?_,fun _=>?_⟩
  ·refine⟨_,_,_,rfl,⟨by decide,by decide⟩,fun nb hnb=>?_⟩
   refine⟨fun _=>?_,fun _=>?_⟩
   ·refine⟨{ (xs.getD (st.running % (xs.length:Int)).toNat aZ) with number:=nb },_,key,rfl,.fam rfl,hP.numIn hV hE hjn hnb,?_⟩
    refine .inr ⟨⟨c,xk,yk,key,hf,kh,xs,(st.running % (xs.length:Int)).toNat,_,nb,(xs.getD (st.running % (xs.length:Int)).toNat aZ).tick,(xs.getD (st.running % (xs.length:Int)).toNat aZ).parent,(signA { (xs.getD (st.running % (xs.length:Int)).toNat aZ) with number:=nb } key).sum,A,kp,kq,elq⟩,[],⟨⟨hV,hL⟩,hH⟩,rfl,kp_,rfl,rfl,fun y1 hy1=>?_⟩
    rcases y1 with _ | _ | ⟨k1,el1⟩
    ·repeat (first | refine⟨fun _=>?_,fun h=>Bool.noConfusion h⟩ | refine⟨fun h=>Bool.noConfusion h,fun _=>?_⟩ | fail)
     refine⟨kp_,?_⟩
     refine .inr (.inl ⟨⟨c,xk,yk,key,hf,kh,xs,(st.running % (xs.length:Int)).toNat,_,nb,(xs.getD (st.running % (xs.length:Int)).toNat aZ).tick,(xs.getD (st.running % (xs.length:Int)).toNat aZ).parent,(signA { (xs.getD (st.running % (xs.length:Int)).toNat aZ) with number:=nb } key).sum,A,kp,kq,elq⟩,[],⟨⟨hV,hL⟩,hH,hkh⟩,rfl,kp_,rfl,rfl,fun y2 hy2=>?_⟩)
     rcases y2 with _ | _ | ⟨k2,el2⟩
     ·repeat (first | refine⟨fun _=>?_,fun h=>Bool.noConfusion h⟩ | refine⟨fun h=>Bool.noConfusion h,fun _=>?_⟩ | fail)
      have hH2:=hH
      refine .inr (.inl ⟨⟨c,xk,yk,key,hf,kh,0,0,0,A,kp,kq,elq⟩,[],⟨⟨hV,hL⟩,hH2,hkh,hva,hkq,hel⟩,rfl,kp_,rfl,rfl,fun u hu=>?_⟩)
      repeat (first | refine⟨fun _=>?_,fun h=>Bool.noConfusion h⟩ | refine⟨fun h=>Bool.noConfusion h,fun _=>?_⟩ | refine⟨⟨by first | exact Nat.le_refl _ | omega | fail,by first | omega | (dsimp only;omega) | fail,by first | omega | (dsimp only;omega) | fail⟩,?_⟩ | refine⟨fun q=>absurd q (by first | (simp[eqCs,eqC1];done) | fail),fun _=>?_⟩ | refine⟨fun _=>?_,fun q=>absurd q (by first | omega | (simp[-List.getD_eq_getElem?_getD];done) | (simp[-List.getD_eq_getElem?_getD];omega) | fail)⟩ | refine⟨fun q=>absurd q (by first | omega | (simp[-List.getD_eq_getElem?_getD];done) | (simp[-List.getD_eq_getElem?_getD];omega) | fail),fun _=>?_⟩ | fail)
      exact⟨(.keep hf),[],hH,rfl,rfl,rfl,kp_⟩
     ·exact absurd hy2.1 hy1
     ·exact absurd hy2.1.1 hy1
    ·repeat (first | refine⟨fun _=>?_,fun h=>Bool.noConfusion h⟩ | refine⟨fun h=>Bool.noConfusion h,fun _=>?_⟩ | fail)
     refine⟨kp_,?_⟩
     refine .inr (.inl ⟨⟨c,xk,yk,key,hf,kh,xs,(st.running % (xs.length:Int)).toNat,_,nb,(xs.getD (st.running % (xs.length:Int)).toNat aZ).tick,(xs.getD (st.running % (xs.length:Int)).toNat aZ).parent,(signA { (xs.getD (st.running % (xs.length:Int)).toNat aZ) with number:=nb } key).sum,A,kp,kq,elq⟩,[],⟨⟨hV,hL⟩,hH,hkh⟩,rfl,kp_,rfl,rfl,fun y2 hy2=>?_⟩)
     rcases y2 with _ | _ | ⟨k2,el2⟩
     ·exact absurd hy1.1 hy2
     ·repeat (first | refine⟨fun _=>?_,fun h=>Bool.noConfusion h⟩ | refine⟨fun h=>Bool.noConfusion h,fun _=>?_⟩ | fail)
      have hH2:=hH
      refine .inr (.inl ⟨⟨c,xk,yk,key,hf,kh,0,0,0,A,kp,kq,elq⟩,[],⟨⟨hV,hL⟩,hH2,hkh,hva,hkq,hel⟩,rfl,kp_,rfl,rfl,fun u hu=>?_⟩)
      repeat (first | refine⟨fun _=>?_,fun h=>Bool.noConfusion h⟩ | refine⟨fun h=>Bool.noConfusion h,fun _=>?_⟩ | refine⟨⟨by first | exact Nat.le_refl _ | omega | fail,by first | omega | (dsimp only;omega) | fail,by first | omega | (dsimp only;omega) | fail⟩,?_⟩ | refine⟨fun q=>absurd q (by first | (simp[eqCs,eqC1];done) | fail),fun _=>?_⟩ | refine⟨fun _=>?_,fun q=>absurd q (by first | omega | (simp[-List.getD_eq_getElem?_getD];done) | (simp[-List.getD_eq_getElem?_getD];omega) | fail)⟩ | refine⟨fun q=>absurd q (by first | omega | (simp[-List.getD_eq_getElem?_getD];done) | (simp[-List.getD_eq_getElem?_getD];omega) | fail),fun _=>?_⟩ | fail)
      exact⟨(.keep hf),[],hH,rfl,rfl,rfl,kp_⟩
     ·exact absurd hy1.2 hy2.1.2
    ·repeat (first | refine⟨fun _=>?_,fun h=>Bool.noConfusion h⟩ | refine⟨fun h=>Bool.noConfusion h,fun _=>?_⟩ | fail)
     refine⟨kp_,?_⟩
     refine .inr (.inl ⟨⟨c,xk,yk,key,hf,kh,xs,(st.running % (xs.length:Int)).toNat,_,nb,(xs.getD (st.running % (xs.length:Int)).toNat aZ).tick,(xs.getD (st.running % (xs.length:Int)).toNat aZ).parent,(signA { (xs.getD (st.running % (xs.length:Int)).toNat aZ) with number:=nb } key).sum,A,kp,kq,elq⟩,[],⟨⟨hV,hL⟩,hH,hkh⟩,rfl,kp_,rfl,rfl,fun y2 hy2=>?_⟩)
     rcases y2 with _ | _ | ⟨k2,el2⟩
     ·exact absurd hy1.1 hy2
     ·exact absurd hy2.2 hy1.2
     ·repeat (first | refine⟨fun _=>?_,fun h=>Bool.noConfusion h⟩ | refine⟨fun h=>Bool.noConfusion h,fun _=>?_⟩ | fail)
      obtain⟨hv2,hq2,he2⟩:=hy2
      replace hv2:=hv2.1
      refine .inr (.inl ⟨⟨c,xk,yk,key,(dlF (xs.getD (st.running % (xs.length:Int)).toNat aZ).routes hf c.tenants.length),kh,0,0,0,(⟨nb,(xs.getD (st.running % (xs.length:Int)).toNat aZ).tick,(xs.getD (st.running % (xs.length:Int)).toNat aZ).routes,(xs.getD (st.running % (xs.length:Int)).toNat aZ).parent,(signA { (xs.getD (st.running % (xs.length:Int)).toNat aZ) with number:=nb } key).sum⟩:Atl),k1,k2,el2⟩,[(52,100),(53,101)],⟨⟨hV,hL⟩,hH.del _ _,hkh,hv2,hq2,he2⟩,rfl,kp_,rfl,rfl,fun u hu=>?_⟩)
      repeat (first | refine⟨fun _=>?_,fun h=>Bool.noConfusion h⟩ | refine⟨fun h=>Bool.noConfusion h,fun _=>?_⟩ | refine⟨⟨by first | exact Nat.le_refl _ | omega | fail,by first | omega | (dsimp only;omega) | fail,by first | omega | (dsimp only;omega) | fail⟩,?_⟩ | refine⟨fun q=>absurd q (by first | (simp[eqCs,eqC1];done) | fail),fun _=>?_⟩ | refine⟨fun _=>?_,fun q=>absurd q (by first | omega | (simp[-List.getD_eq_getElem?_getD];done) | (simp[-List.getD_eq_getElem?_getD];omega) | fail)⟩ | refine⟨fun q=>absurd q (by first | omega | (simp[-List.getD_eq_getElem?_getD];done) | (simp[-List.getD_eq_getElem?_getD];omega) | fail),fun _=>?_⟩ | fail)
      exact⟨(.new (dlF (xs.getD (st.running % (xs.length:Int)).toNat aZ).routes hf c.tenants.length) (⟨nb,(xs.getD (st.running % (xs.length:Int)).toNat aZ).tick,(xs.getD (st.running % (xs.length:Int)).toNat aZ).routes,(xs.getD (st.running % (xs.length:Int)).toNat aZ).parent,(signA { (xs.getD (st.running % (xs.length:Int)).toNat aZ) with number:=nb } key).sum⟩:Atl) k1 k2 el2),[(54,100),(55,101)],⟨hH.del _ _,hv2,hq2,he2⟩,rfl,rfl,rfl,kp_⟩
   ·refine .inr ⟨⟨c,xk,yk,key,hf,kh,xs,(st.running % (xs.length:Int)).toNat,_,nb,(xs.getD (st.running % (xs.length:Int)).toNat aZ).tick,(xs.getD (st.running % (xs.length:Int)).toNat aZ).parent,(xs.getD (st.running % (xs.length:Int)).toNat aZ).sum,A,kp,kq,elq⟩,[],⟨⟨hV,hL⟩,hH⟩,rfl,kp_,rfl,rfl,fun y1 hy1=>?_⟩
    rcases y1 with _ | _ | ⟨k1,el1⟩
    ·repeat (first | refine⟨fun _=>?_,fun h=>Bool.noConfusion h⟩ | refine⟨fun h=>Bool.noConfusion h,fun _=>?_⟩ | fail)
     refine⟨kp_,?_⟩
     refine .inr (.inl ⟨⟨c,xk,yk,key,hf,kh,xs,(st.running % (xs.length:Int)).toNat,_,nb,(xs.getD (st.running % (xs.length:Int)).toNat aZ).tick,(xs.getD (st.running % (xs.length:Int)).toNat aZ).parent,(xs.getD (st.running % (xs.length:Int)).toNat aZ).sum,A,kp,kq,elq⟩,[],⟨⟨hV,hL⟩,hH,hkh⟩,rfl,kp_,rfl,rfl,fun y2 hy2=>?_⟩)
     rcases y2 with _ | _ | ⟨k2,el2⟩
     ·repeat (first | refine⟨fun _=>?_,fun h=>Bool.noConfusion h⟩ | refine⟨fun h=>Bool.noConfusion h,fun _=>?_⟩ | fail)
      have hH2:=hH
      refine .inr (.inl ⟨⟨c,xk,yk,key,hf,kh,0,0,0,A,kp,kq,elq⟩,[],⟨⟨hV,hL⟩,hH2,hkh,hva,hkq,hel⟩,rfl,kp_,rfl,rfl,fun u hu=>?_⟩)
      repeat (first | refine⟨fun _=>?_,fun h=>Bool.noConfusion h⟩ | refine⟨fun h=>Bool.noConfusion h,fun _=>?_⟩ | refine⟨⟨by first | exact Nat.le_refl _ | omega | fail,by first | omega | (dsimp only;omega) | fail,by first | omega | (dsimp only;omega) | fail⟩,?_⟩ | refine⟨fun q=>absurd q (by first | (simp[eqCs,eqC1];done) | fail),fun _=>?_⟩ | refine⟨fun _=>?_,fun q=>absurd q (by first | omega | (simp[-List.getD_eq_getElem?_getD];done) | (simp[-List.getD_eq_getElem?_getD];omega) | fail)⟩ | refine⟨fun q=>absurd q (by first | omega | (simp[-List.getD_eq_getElem?_getD];done) | (simp[-List.getD_eq_getElem?_getD];omega) | fail),fun _=>?_⟩ | fail)
      exact⟨(.keep hf),[],hH,rfl,rfl,rfl,kp_⟩
     ·exact absurd hy2.1 hy1
     ·exact absurd hy2.1.1 hy1
    ·repeat (first | refine⟨fun _=>?_,fun h=>Bool.noConfusion h⟩ | refine⟨fun h=>Bool.noConfusion h,fun _=>?_⟩ | fail)
     refine⟨kp_,?_⟩
     refine .inr (.inl ⟨⟨c,xk,yk,key,hf,kh,xs,(st.running % (xs.length:Int)).toNat,_,nb,(xs.getD (st.running % (xs.length:Int)).toNat aZ).tick,(xs.getD (st.running % (xs.length:Int)).toNat aZ).parent,(xs.getD (st.running % (xs.length:Int)).toNat aZ).sum,A,kp,kq,elq⟩,[],⟨⟨hV,hL⟩,hH,hkh⟩,rfl,kp_,rfl,rfl,fun y2 hy2=>?_⟩)
     rcases y2 with _ | _ | ⟨k2,el2⟩
     ·exact absurd hy1.1 hy2
     ·repeat (first | refine⟨fun _=>?_,fun h=>Bool.noConfusion h⟩ | refine⟨fun h=>Bool.noConfusion h,fun _=>?_⟩ | fail)
      have hH2:=hH
      refine .inr (.inl ⟨⟨c,xk,yk,key,hf,kh,0,0,0,A,kp,kq,elq⟩,[],⟨⟨hV,hL⟩,hH2,hkh,hva,hkq,hel⟩,rfl,kp_,rfl,rfl,fun u hu=>?_⟩)
      repeat (first | refine⟨fun _=>?_,fun h=>Bool.noConfusion h⟩ | refine⟨fun h=>Bool.noConfusion h,fun _=>?_⟩ | refine⟨⟨by first | exact Nat.le_refl _ | omega | fail,by first | omega | (dsimp only;omega) | fail,by first | omega | (dsimp only;omega) | fail⟩,?_⟩ | refine⟨fun q=>absurd q (by first | (simp[eqCs,eqC1];done) | fail),fun _=>?_⟩ | refine⟨fun _=>?_,fun q=>absurd q (by first | omega | (simp[-List.getD_eq_getElem?_getD];done) | (simp[-List.getD_eq_getElem?_getD];omega) | fail)⟩ | refine⟨fun q=>absurd q (by first | omega | (simp[-List.getD_eq_getElem?_getD];done) | (simp[-List.getD_eq_getElem?_getD];omega) | fail),fun _=>?_⟩ | fail)
      exact⟨(.keep hf),[],hH,rfl,rfl,rfl,kp_⟩
     ·exact absurd hy1.2 hy2.1.2
    ·repeat (first | refine⟨fun _=>?_,fun h=>Bool.noConfusion h⟩ | refine⟨fun h=>Bool.noConfusion h,fun _=>?_⟩ | fail)
     refine⟨kp_,?_⟩
     refine .inr (.inl ⟨⟨c,xk,yk,key,hf,kh,xs,(st.running % (xs.length:Int)).toNat,_,nb,(xs.getD (st.running % (xs.length:Int)).toNat aZ).tick,(xs.getD (st.running % (xs.length:Int)).toNat aZ).parent,(xs.getD (st.running % (xs.length:Int)).toNat aZ).sum,A,kp,kq,elq⟩,[],⟨⟨hV,hL⟩,hH,hkh⟩,rfl,kp_,rfl,rfl,fun y2 hy2=>?_⟩)
     rcases y2 with _ | _ | ⟨k2,el2⟩
     ·exact absurd hy1.1 hy2
     ·exact absurd hy2.2 hy1.2
     ·repeat (first | refine⟨fun _=>?_,fun h=>Bool.noConfusion h⟩ | refine⟨fun h=>Bool.noConfusion h,fun _=>?_⟩ | fail)
      obtain⟨hv2,hq2,he2⟩:=hy2
      replace hv2:=hv2.1
      refine .inr (.inl ⟨⟨c,xk,yk,key,(dlF (xs.getD (st.running % (xs.length:Int)).toNat aZ).routes hf c.tenants.length),kh,0,0,0,(⟨nb,(xs.getD (st.running % (xs.length:Int)).toNat aZ).tick,(xs.getD (st.running % (xs.length:Int)).toNat aZ).routes,(xs.getD (st.running % (xs.length:Int)).toNat aZ).parent,(xs.getD (st.running % (xs.length:Int)).toNat aZ).sum⟩:Atl),k1,k2,el2⟩,[(52,100),(53,101)],⟨⟨hV,hL⟩,hH.del _ _,hkh,hv2,hq2,he2⟩,rfl,kp_,rfl,rfl,fun u hu=>?_⟩)
      repeat (first | refine⟨fun _=>?_,fun h=>Bool.noConfusion h⟩ | refine⟨fun h=>Bool.noConfusion h,fun _=>?_⟩ | refine⟨⟨by first | exact Nat.le_refl _ | omega | fail,by first | omega | (dsimp only;omega) | fail,by first | omega | (dsimp only;omega) | fail⟩,?_⟩ | refine⟨fun q=>absurd q (by first | (simp[eqCs,eqC1];done) | fail),fun _=>?_⟩ | refine⟨fun _=>?_,fun q=>absurd q (by first | omega | (simp[-List.getD_eq_getElem?_getD];done) | (simp[-List.getD_eq_getElem?_getD];omega) | fail)⟩ | refine⟨fun q=>absurd q (by first | omega | (simp[-List.getD_eq_getElem?_getD];done) | (simp[-List.getD_eq_getElem?_getD];omega) | fail),fun _=>?_⟩ | fail)
      exact⟨(.new (dlF (xs.getD (st.running % (xs.length:Int)).toNat aZ).routes hf c.tenants.length) (⟨nb,(xs.getD (st.running % (xs.length:Int)).toNat aZ).tick,(xs.getD (st.running % (xs.length:Int)).toNat aZ).routes,(xs.getD (st.running % (xs.length:Int)).toNat aZ).parent,(xs.getD (st.running % (xs.length:Int)).toNat aZ).sum⟩:Atl) k1 k2 el2),[(54,100),(55,101)],⟨hH.del _ _,hv2,hq2,he2⟩,rfl,rfl,rfl,kp_⟩
  ·refine⟨fun _=>?_,fun _=>?_⟩
   ·refine .inr ⟨⟨c,xk,yk,key,hf,kh,st.running,st.wanted,st.since,A,kp,kq,elq⟩,[],⟨⟨hV,hL⟩,hH,hkh,hva,hkq,hel⟩,rfl,kp_,rfl,rfl,fun y1 hy1=>?_⟩
    cases y1
    ·refine⟨kp_,?_⟩
     repeat (first | refine⟨fun _=>?_,fun h=>Bool.noConfusion h⟩ | refine⟨fun h=>Bool.noConfusion h,fun _=>?_⟩ | refine⟨⟨by first | exact Nat.le_refl _ | omega | fail,by first | omega | (dsimp only;omega) | fail,by first | omega | (dsimp only;omega) | fail⟩,?_⟩ | refine⟨fun q=>absurd q (by first | (simp[eqCs,eqC1];done) | fail),fun _=>?_⟩ | refine⟨fun _=>?_,fun q=>absurd q (by first | omega | (simp[-List.getD_eq_getElem?_getD];done) | (simp[-List.getD_eq_getElem?_getD];omega) | fail)⟩ | refine⟨fun q=>absurd q (by first | omega | (simp[-List.getD_eq_getElem?_getD];done) | (simp[-List.getD_eq_getElem?_getD];omega) | fail),fun _=>?_⟩ | fail)
     refine .inr (.inl ⟨⟨c,xk,yk,key,hf,kh,st.running,st.wanted,st.since,A,kp,kq,elq⟩,[],⟨⟨hV,hL⟩,hH,hkh,hva,hkq,hel⟩,rfl,kp_,rfl,rfl,fun y2 hy2=>?_⟩)
     cases y2
     ·repeat (first | refine⟨fun _=>?_,fun h=>Bool.noConfusion h⟩ | refine⟨fun h=>Bool.noConfusion h,fun _=>?_⟩ | fail)
      have hH2:=hH
      refine .inr (.inl ⟨⟨c,xk,yk,key,hf,kh,0,0,0,A,kp,kq,elq⟩,[],⟨⟨hV,hL⟩,hH2,hkh,hva,hkq,hel⟩,rfl,kp_,rfl,rfl,fun u hu=>?_⟩)
      repeat (first | refine⟨fun _=>?_,fun h=>Bool.noConfusion h⟩ | refine⟨fun h=>Bool.noConfusion h,fun _=>?_⟩ | refine⟨⟨by first | exact Nat.le_refl _ | omega | fail,by first | omega | (dsimp only;omega) | fail,by first | omega | (dsimp only;omega) | fail⟩,?_⟩ | refine⟨fun q=>absurd q (by first | (simp[eqCs,eqC1];done) | fail),fun _=>?_⟩ | refine⟨fun _=>?_,fun q=>absurd q (by first | omega | (simp[-List.getD_eq_getElem?_getD];done) | (simp[-List.getD_eq_getElem?_getD];omega) | fail)⟩ | refine⟨fun q=>absurd q (by first | omega | (simp[-List.getD_eq_getElem?_getD];done) | (simp[-List.getD_eq_getElem?_getD];omega) | fail),fun _=>?_⟩ | fail)
      exact⟨(.keep hf),[],hH,rfl,rfl,rfl,kp_⟩
     ·exact absurd hy2 hy1
    ·refine⟨kp_,?_⟩
     repeat (first | refine⟨fun _=>?_,fun h=>Bool.noConfusion h⟩ | refine⟨fun h=>Bool.noConfusion h,fun _=>?_⟩ | refine⟨⟨by first | exact Nat.le_refl _ | omega | fail,by first | omega | (dsimp only;omega) | fail,by first | omega | (dsimp only;omega) | fail⟩,?_⟩ | refine⟨fun q=>absurd q (by first | (simp[eqCs,eqC1];done) | fail),fun _=>?_⟩ | refine⟨fun _=>?_,fun q=>absurd q (by first | omega | (simp[-List.getD_eq_getElem?_getD];done) | (simp[-List.getD_eq_getElem?_getD];omega) | fail)⟩ | refine⟨fun q=>absurd q (by first | omega | (simp[-List.getD_eq_getElem?_getD];done) | (simp[-List.getD_eq_getElem?_getD];omega) | fail),fun _=>?_⟩ | fail)
     refine .inr (.inl ⟨⟨c,xk,yk,key,hf,kh,st.running,st.wanted,st.since,A,kp,kq,elq⟩,[],⟨⟨hV,hL⟩,hH,hkh,hva,hkq,hel⟩,rfl,kp_,rfl,rfl,fun y2 hy2=>?_⟩)
     cases y2
     ·exact absurd hy1 hy2
     ·repeat (first | refine⟨fun _=>?_,fun h=>Bool.noConfusion h⟩ | refine⟨fun h=>Bool.noConfusion h,fun _=>?_⟩ | fail)
      have hH2:HfOk c.tenants.length (stF hf (st.running).toNat (st.wanted,st.since)):=hH.set (knownE_pos hH hy1.1 (fun h=>(hva.rt h).2) hy1.2.2.2)
      refine .inr (.inl ⟨⟨c,xk,yk,key,(stF hf (st.running).toNat (st.wanted,st.since)),kh,0,0,0,A,kp,kq,elq⟩,[],⟨⟨hV,hL⟩,hH2,hkh,hva,hkq,hel⟩,rfl,kp_,rfl,rfl,fun u hu=>?_⟩)
      repeat (first | refine⟨fun _=>?_,fun h=>Bool.noConfusion h⟩ | refine⟨fun h=>Bool.noConfusion h,fun _=>?_⟩ | refine⟨⟨by first | exact Nat.le_refl _ | omega | fail,by first | omega | (dsimp only;omega) | fail,by first | omega | (dsimp only;omega) | fail⟩,?_⟩ | refine⟨fun q=>absurd q (by first | (simp[eqCs,eqC1];done) | fail),fun _=>?_⟩ | refine⟨fun _=>?_,fun q=>absurd q (by first | omega | (simp[-List.getD_eq_getElem?_getD];done) | (simp[-List.getD_eq_getElem?_getD];omega) | fail)⟩ | refine⟨fun q=>absurd q (by first | omega | (simp[-List.getD_eq_getElem?_getD];done) | (simp[-List.getD_eq_getElem?_getD];omega) | fail),fun _=>?_⟩ | fail)
      exact⟨(.keep (stF hf (st.running).toNat (st.wanted,st.since))),[],hH2,rfl,rfl,rfl,kp_⟩
   ·refine⟨_,_,_,rfl,⟨by decide,by decide⟩,fun t5 ht5=>?_⟩
    refine⟨kp_,?_⟩
    refine⟨_,_,_,rfl,⟨by decide,by decide⟩,fun x5 hx5=>?_⟩
    refine⟨kp_,?_⟩
    refine⟨_,_,_,rfl,⟨by decide,by decide⟩,fun e5 he5=>?_⟩
    refine .inr ⟨⟨c,xk,yk,key,hf,kh,t5,x5,e5,A,kp,kq,elq⟩,[],⟨⟨hV,hL⟩,hH,hkh,hva,hkq,hel⟩,rfl,kp_,rfl,rfl,fun y1 hy1=>?_⟩
    cases y1
    ·repeat (first | refine⟨fun _=>?_,fun h=>Bool.noConfusion h⟩ | refine⟨fun h=>Bool.noConfusion h,fun _=>?_⟩ | fail)
     refine .inr (.inl ⟨⟨c,xk,yk,key,hf,kh,t5,x5,e5,A,kp,kq,elq⟩,[],⟨⟨hV,hL⟩,hH,hkh,hva,hkq,hel⟩,rfl,kp_,rfl,rfl,fun y2 hy2=>?_⟩)
     cases y2
     ·repeat (first | refine⟨fun _=>?_,fun h=>Bool.noConfusion h⟩ | refine⟨fun h=>Bool.noConfusion h,fun _=>?_⟩ | fail)
      have hH2:=hH
      refine .inr (.inl ⟨⟨c,xk,yk,key,hf,kh,0,0,0,A,kp,kq,elq⟩,[],⟨⟨hV,hL⟩,hH2,hkh,hva,hkq,hel⟩,rfl,kp_,rfl,rfl,fun u hu=>?_⟩)
      repeat (first | refine⟨fun _=>?_,fun h=>Bool.noConfusion h⟩ | refine⟨fun h=>Bool.noConfusion h,fun _=>?_⟩ | refine⟨⟨by first | exact Nat.le_refl _ | omega | fail,by first | omega | (dsimp only;omega) | fail,by first | omega | (dsimp only;omega) | fail⟩,?_⟩ | refine⟨fun q=>absurd q (by first | (simp[eqCs,eqC1];done) | fail),fun _=>?_⟩ | refine⟨fun _=>?_,fun q=>absurd q (by first | omega | (simp[-List.getD_eq_getElem?_getD];done) | (simp[-List.getD_eq_getElem?_getD];omega) | fail)⟩ | refine⟨fun q=>absurd q (by first | omega | (simp[-List.getD_eq_getElem?_getD];done) | (simp[-List.getD_eq_getElem?_getD];omega) | fail),fun _=>?_⟩ | fail)
      exact⟨(.keep hf),[],hH,rfl,rfl,rfl,kp_⟩
     ·exact absurd hy2 hy1
    ·repeat (first | refine⟨fun _=>?_,fun h=>Bool.noConfusion h⟩ | refine⟨fun h=>Bool.noConfusion h,fun _=>?_⟩ | fail)
     refine .inr (.inl ⟨⟨c,xk,yk,key,hf,kh,t5,x5,e5,A,kp,kq,elq⟩,[],⟨⟨hV,hL⟩,hH,hkh,hva,hkq,hel⟩,rfl,kp_,rfl,rfl,fun y2 hy2=>?_⟩)
     cases y2
     ·exact absurd hy1 hy2
     ·repeat (first | refine⟨fun _=>?_,fun h=>Bool.noConfusion h⟩ | refine⟨fun h=>Bool.noConfusion h,fun _=>?_⟩ | fail)
      have hH2:HfOk c.tenants.length (stF hf (t5).toNat (x5,e5)):=hH.set (knownE_pos hH hy1.1 (fun h=>(hva.rt h).2) hy1.2.2.2)
      refine .inr (.inl ⟨⟨c,xk,yk,key,(stF hf (t5).toNat (x5,e5)),kh,0,0,0,A,kp,kq,elq⟩,[],⟨⟨hV,hL⟩,hH2,hkh,hva,hkq,hel⟩,rfl,kp_,rfl,rfl,fun u hu=>?_⟩)
      repeat (first | refine⟨fun _=>?_,fun h=>Bool.noConfusion h⟩ | refine⟨fun h=>Bool.noConfusion h,fun _=>?_⟩ | refine⟨⟨by first | exact Nat.le_refl _ | omega | fail,by first | omega | (dsimp only;omega) | fail,by first | omega | (dsimp only;omega) | fail⟩,?_⟩ | refine⟨fun q=>absurd q (by first | (simp[eqCs,eqC1];done) | fail),fun _=>?_⟩ | refine⟨fun _=>?_,fun q=>absurd q (by first | omega | (simp[-List.getD_eq_getElem?_getD];done) | (simp[-List.getD_eq_getElem?_getD];omega) | fail)⟩ | refine⟨fun q=>absurd q (by first | omega | (simp[-List.getD_eq_getElem?_getD];done) | (simp[-List.getD_eq_getElem?_getD];omega) | fail),fun _=>?_⟩ | fail)
      exact⟨(.keep (stF hf (t5).toNat (x5,e5))),[],hH2,rfl,rfl,rfl,kp_⟩
theorem boSOk:CSound Tryz.prog 15 ctBoS:=ctObj_ok (F:=[(56,ctMod),(38,ctBwG),(57,ctTkP),(58,ctTkQ),(35,ctLnP),(60,ctLnQ2),(59,ctSigned),(13,ctSm)]) (D:=boDBoS) ttPok (fti_cons (modOk.i _) (fti_cons (bwGOk.i _) (fti_cons (tkPOk.i _) (fti_cons (tkQOk.i _) (fti_cons (lnPOk.i _) (fti_cons (lnQ2Ok.i _) (fti_cons (signedOk.i _) (fti_cons (smOk.i _) fti_nil)))))))) mixed (by kernel_rfl) Tryz.func15 rfl (by kernel_rfl) (fun x=>by cases x;rfl) (fun x=>by cases x;rfl) (fun x y=>by cases x;cases y<;>rfl) (fun x hx=>by cases x;exact boS_sx _ _ _ _ _ _ _ _ _ _ _ _ _ _ hx)
/-! law16.RouterPlays -/
def ctBo:CT:=fun vs mem nx K=>ctBoN vs mem nx K∨(ctBoS vs mem nx K∨ctBoE vs mem nx K)
theorem boOk:CSound Tryz.prog 15 ctBo:=cs_or boNOk (cs_or boSOk boEOk)
def pzF:FT:=[(8,ctLight),(9,ctAwake16),(10,ctConfig),(11,ctRN),(12,ctNwQ),(13,ctSm),(14,ctCopies),(15,ctBo)]
def pzD:List (Nat×DQ):=[(9000000,{ k:=0,L:=[11,12] }),(1000006,{ k:=34,L:=[0,1,2,3,4,5,6,7,8,9,10,11,12,13,14,15,16,17,18],sl:=[] }),(4000009,{ k:=52,L:=[0,1,2,3,4,5,6,7,8,9,10,11,12,13,14,15,16,17,18,19,20,21,22,23,24,25,26,27,28,29,30,31,32,33,34,35,36,37,38,39,40,41,42,43,44,45,46,47,48,49],sl:=[2,3,10,12] }),(3000010,{ k:=54,L:=[0,1,2,3,4,5,6,7,8,9,10,11,12,13,14,15,16,17,18,19,20,21,22,23,24,25,26,29,32,33,34,35,36,37,38,39,40,41,42,43,44,45,46,47,48,49,50,51],sl:=[2,3,10,12,14] })]
theorem pzFok:FTokI Tryz.prog pzF (inlOf pzD):=fti_cons (lightOk.i _) (fti_cons (awake16Ok.i _) (fti_cons (configOk.i _) (fti_cons (rnOk (by decide)) (fti_cons (nwQOk (by decide)) (fti_cons (smOk.i _) (fti_cons (copiesOk.i _) (fti_cons (boOk.i _) fti_nil)))))))
set_option maxRecDepth 100000 in
set_option maxHeartbeats 400000000 in
theorem plays_sx (cap0 cap1 cap2:Nat) (l more:List Int) (st:List CS) (key:Int) (hm0:l.length≤maxLen) (hm1:more.length≤maxLen) (hm2:st.length≤maxLen) :
  sx ttP pzF pzD (bodyOf Tryz.f3) (argF 0 [slc 0 l.length cap0,slc 1 more.length cap1,.int .i64 key,slc 10 st.length cap2]) (uniM { l0:=l,l1:=more,s:={ noS with cells:=st } }) 13 (endx ttP Tryz.f3.results.toList fun v _ _=>v=.bool true):=by
 refine⟨0,cap0,l,rfl,rfl,hm0,?_⟩
 refine⟨fun h=>?_,fun h0=>?_⟩
 ·repeat (first | refine⟨fun _=>?_,fun h=>Bool.noConfusion h⟩ | refine⟨fun h=>Bool.noConfusion h,fun _=>?_⟩ | fail)
  exact⟨rfl,rfl⟩
 ·refine⟨1,cap1,more,rfl,rfl,hm1,?_⟩
  refine⟨fun h=>?_,fun h1=>?_⟩
  ·repeat (first | refine⟨fun _=>?_,fun h=>Bool.noConfusion h⟩ | refine⟨fun h=>Bool.noConfusion h,fun _=>?_⟩ | fail)
   exact⟨rfl,rfl⟩
  ·refine⟨fun h=>?_,fun h2=>?_⟩
   ·exact⟨rfl,rfl⟩
   ·have hl0:l.length≤200:=by simpa using h0
    have hl1:more.length≤200:=by simpa using h1
    have hl2:st.length≤40:=by have:=of_decide_eq_false h2;omega
    clear h0 h1 h2 hm0 hm1 hm2
    refine⟨0,cap0,l,rfl,rfl,by omega,?_⟩
    intro xk c hM
    have hV:=cfgV_of hM.valid
    have hnt:=hV.nt
    have hnc:=hV.nc
    have hm1:=hM.zones
    have hm2:=hM.cells
    have hm3:=hM.tenants
    have hm4:=hM.versions
    have hm5:=hM.replicas
    have hm6:=hM.observers
    refine⟨_,c,rfl,.has (N:=⟨18,17,16,15,14,13,500000⟩) (x:=xk) (HasCfg.keeps kp_),hM.lens,?_⟩
    refine⟨fun q=>absurd q (by rw[hM.valid];decide),fun _=>?_⟩
    refine⟨_,c.zones,rfl,.inr (.inl ⟨18,_,rfl,.list rfl⟩),by omega,fun k_zones=>?_⟩
    refine⟨_,c.cells,rfl,.inr (.inl ⟨17,_,rfl,.list rfl⟩),by omega,fun k_cells=>?_⟩
    refine⟨_,c.tenants,rfl,.inr (.inl ⟨16,_,rfl,.list rfl⟩),by omega,fun k_tenants=>?_⟩
    refine⟨_,c.versions,rfl,.inr (.inl ⟨15,_,rfl,.list rfl⟩),by omega,fun k_versions=>?_⟩
    refine⟨_,c.replicas,rfl,.inr (.inl ⟨14,_,rfl,.list rfl⟩),by omega,fun k_replicas=>?_⟩
    refine⟨_,c.observers,rfl,.inr (.inl ⟨13,_,rfl,.list rfl⟩),by omega,fun k_observers=>?_⟩
    repeat (first | refine⟨fun _=>?_,fun h=>Bool.noConfusion h⟩ | refine⟨fun h=>Bool.noConfusion h,fun _=>?_⟩ | fail)
    refine⟨(Int→Option (Int×Int))×HF,fun _=>[(0,slc 0 l.length cap0),(1,slc 1 more.length cap1),(2,.int .i64 key),(3,slc 10 st.length cap2),(9,ptr 19),(10,ptr 28),(11,.int .i64 0),(12,ptr 31)],fun q=>match q with | (hm,hf)=>[(28,.box 114 [.int .i64 c.regions,slc 21 c.zones.length k_zones,slc 22 c.cells.length k_cells,slc 23 c.tenants.length k_tenants,slc 24 c.versions.length k_versions,slc 25 c.replicas.length k_replicas,slc 26 c.observers.length k_observers,.int .i64 c.blast,.int .i64 c.lease,.int .i64 c.bake,.int .i64 key,.bool false,.int .i64 0,.int .i64 0,zs0,.int .u64 0,.int .u64 0,.map (some 27)]),(27,.ext (.map .i64 true (hintF hm))),(30,.row (1000000+92) 2 c.tenants.length (fun k=>pairC (hf k))),(31,.box 116 [.int .i64 c.regions,slc 18 c.zones.length xk.cz,slc 17 c.cells.length xk.cc,slc 16 c.tenants.length xk.ct,slc 15 c.versions.length xk.cv,slc 14 c.replicas.length xk.cr,slc 13 c.observers.length xk.co,.int .i64 c.blast,.int .i64 c.lease,.int .i64 c.bake,.int .i64 key,.bool false,.int .i64 0,.int .i64 0,zs0,.int .u64 0,.int .u64 0,slc 30 c.tenants.length c.tenants.length]),(21,rowOfL 500000 1 intC 0 c.zones),(22,rowOfL 500000 2 pairC (0,0) c.cells),(23,rowOfL 500000 7 tenC default c.tenants),(24,rowOfL 500000 2 pairC (0,0) c.versions),(25,rowOfL 500000 1 intC 0 c.replicas),(26,rowOfL 500000 1 intC 0 c.observers),(18,rowOfL 500000 1 intC 0 c.zones),(17,rowOfL 500000 2 pairC (0,0) c.cells),(16,rowOfL 500000 7 tenC default c.tenants),(15,rowOfL 500000 2 pairC (0,0) c.versions),(14,rowOfL 500000 1 intC 0 c.replicas),(13,rowOfL 500000 1 intC 0 c.observers),(19,.box 31 [.int .i64 c.regions,slc 18 c.zones.length xk.cz,slc 17 c.cells.length xk.cc,slc 16 c.tenants.length xk.ct,slc 15 c.versions.length xk.cv,slc 14 c.replicas.length xk.cr,slc 13 c.observers.length xk.co,.int .i64 c.blast,.int .i64 c.lease,.int .i64 c.bake])],fun q=>match q with | (hm,hf)=>hm=hmOf c.tenants.length hf∧HfOk c.tenants.length hf,?_,?_⟩
    ·refine⟨_,c,rfl,.has (N:=⟨18,17,16,15,14,13,500000⟩) (x:=xk) (HasCfg.keeps kp_),hM.lens,?_⟩
     refine⟨fun q=>absurd q (by rw[hM.valid];decide),fun _=>?_⟩
     refine⟨⟨Int.le_refl _,by omega,by show (c.tenants.length:Int) * 16≤281474976710656;omega⟩,?_⟩
     refine⟨kp_,?_⟩
     exact⟨(fun _=>none,fun _=>(0,0)),⟨(hmOf_new _).symm,fun k hk=>Int.le_refl _⟩,kp_,kp_⟩
    rintro⟨hm,hf⟩ ⟨rfl,hH⟩
    refine⟨⟨by decide,rfl,rfl⟩,?_⟩
    repeat (first | refine⟨fun _=>?_,fun h=>Bool.noConfusion h⟩ | refine⟨fun h=>Bool.noConfusion h,fun _=>?_⟩ | fail)
    refine .inl ⟨⟨c,xk,⟨k_zones,k_cells,k_tenants,k_versions,k_replicas,k_observers⟩,key,hf,c.tenants.length,0,0,0,aZ,0,0,fun _=>[]⟩,[(34,0),(35,0),(36,0),(37,0),(38,0),(39,0),(40,0),(41,0),(42,0),(43,0),(44,0),(45,0),(46,0),(47,0),(48,0),(49,0),(50,0),(51,0),(52,0),(53,0)],⟨⟨hV,hM.lens⟩,hH,Nat.le_refl _⟩,rfl,kp_,rfl,rfl,fun u hu=>?_⟩
    repeat (first | refine⟨fun _=>?_,fun h=>Bool.noConfusion h⟩ | refine⟨fun h=>Bool.noConfusion h,fun _=>?_⟩ | refine⟨⟨by first | exact Nat.le_refl _ | omega | fail,by first | omega | (dsimp only;omega) | fail,by first | omega | (dsimp only;omega) | fail⟩,?_⟩ | refine⟨fun q=>absurd q (by first | (simp[eqCs,eqC1];done) | fail),fun _=>?_⟩ | refine⟨fun _=>?_,fun q=>absurd q (by first | omega | (simp[-List.getD_eq_getElem?_getD];done) | (simp[-List.getD_eq_getElem?_getD];omega) | fail)⟩ | refine⟨fun q=>absurd q (by first | omega | (simp[-List.getD_eq_getElem?_getD];done) | (simp[-List.getD_eq_getElem?_getD];omega) | fail),fun _=>?_⟩ | fail)
    refine⟨List Atl×List Nat×Nat,fun q=>match q with | (xs,cps_xs,cap_xs)=>[(14,.slice (some ⟨51,0,none⟩) xs.length cap_xs)],fun q=>match q with | (xs,cps_xs,cap_xs)=>[(50,famB 500000 xs),(51,deepA 500000 0 xs cps_xs 50)],fun q=>match q with | (xs,cps_xs,cap_xs)=>CopyP c key xs,?_,?_⟩
    ·refine⟨⟨18,17,16,15,14,13,500000⟩,xk,c,_,more,key,rfl,⟨HasCfg.keeps kp_,.inr (.inl ⟨1,_,rfl,⟨_,_,_,rfl,Nat.le_refl _,fun k hk=>rfl⟩⟩)⟩,⟨hV,by omega⟩,fun xs cps_xs cap_xs hP=>?_⟩
     exact⟨(xs,cps_xs,cap_xs),[(50,34),(51,35)],hP,⟨rfl,rfl⟩,kp_,kp_⟩
    rintro⟨xs,cps_xs,cap_xs⟩ hP
    refine⟨⟨by decide,rfl,rfl⟩,?_⟩
    have hx1:=hP.ne
    have hx2:=hP.le
    refine⟨Int×(Int→Option (Int×Int))×HF×Option (Atl×Nat×Nat×(Nat→List Value)),fun q=>match q with | (i,_)=>[(15,.int .i64 i)],fun q=>match q with | (i,hm,hf,none)=>[(28,.box 114 [.int .i64 c.regions,slc 21 c.zones.length k_zones,slc 22 c.cells.length k_cells,slc 23 c.tenants.length k_tenants,slc 24 c.versions.length k_versions,slc 25 c.replicas.length k_replicas,slc 26 c.observers.length k_observers,.int .i64 c.blast,.int .i64 c.lease,.int .i64 c.bake,.int .i64 key,.bool false,.int .i64 0,.int .i64 0,zs0,.int .u64 0,.int .u64 0,.map (some 27)]),(27,.ext (.map .i64 true (hintF hm))),(30,.row (1000000+92) 2 c.tenants.length (fun k=>pairC (hf k))),(31,.box 116 [.int .i64 c.regions,slc 18 c.zones.length xk.cz,slc 17 c.cells.length xk.cc,slc 16 c.tenants.length xk.ct,slc 15 c.versions.length xk.cv,slc 14 c.replicas.length xk.cr,slc 13 c.observers.length xk.co,.int .i64 c.blast,.int .i64 c.lease,.int .i64 c.bake,.int .i64 key,.bool false,.int .i64 0,.int .i64 0,zs0,.int .u64 0,.int .u64 0,slc 30 c.tenants.length c.tenants.length])] | (i,hm,hf,some (A,kp,kq,elq))=>[(28,.box 114 [.int .i64 c.regions,slc 21 c.zones.length k_zones,slc 22 c.cells.length k_cells,slc 23 c.tenants.length k_tenants,slc 24 c.versions.length k_versions,slc 25 c.replicas.length k_replicas,slc 26 c.observers.length k_observers,.int .i64 c.blast,.int .i64 c.lease,.int .i64 c.bake,.int .i64 key,.bool true,.int .i64 A.number,.int .i64 A.tick,slc 52 A.routes.length kp,.int .u64 A.parent,.int .u64 A.sum,.map (some 27)]),(27,.ext (.map .i64 true (hintF hm))),(30,.row (1000000+92) 2 c.tenants.length (fun k=>pairC (hf k))),(31,.box 116 [.int .i64 c.regions,slc 18 c.zones.length xk.cz,slc 17 c.cells.length xk.cc,slc 16 c.tenants.length xk.ct,slc 15 c.versions.length xk.cv,slc 14 c.replicas.length xk.cr,slc 13 c.observers.length xk.co,.int .i64 c.blast,.int .i64 c.lease,.int .i64 c.bake,.int .i64 key,.bool true,.int .i64 A.number,.int .i64 A.tick,slc 53 A.routes.length kq,.int .u64 A.parent,.int .u64 A.sum,slc 30 c.tenants.length c.tenants.length]),(52,rowOfL 500000 2 pairC (0,0) A.routes),(53,.row (1000000+92) 2 kq elq)],fun q=>match q with | (i,hm,hf,o)=>(0≤i∧i≤st.length)∧(hm=hmOf c.tenants.length hf∧HfOk c.tenants.length hf)∧match o with | none=>True | some (A,kp,kq,elq)=>ValidA c A key∧A.routes.length≤kq∧∀ k,k<A.routes.length→elq k=pairC (A.routes.getD k (0,0)),fun q=>match q with | (i,_)=>((st.length:Int)-i).toNat,⟨(0,hmOf c.tenants.length hf,hf,none),[],⟨by omega,⟨rfl,hH⟩,trivial⟩,⟨rfl,rfl⟩,kp_,kp_⟩,?_⟩
    clear hu hH hf
    rintro⟨i,hm,hf,(_ | ⟨A,kp,kq,elq⟩)⟩ ⟨hi,⟨rfl,hH⟩,ho⟩
    ·refine⟨⟨by decide,rfl,rfl⟩,?_⟩
     refine⟨fun hlt=>?_,fun hge=>?_⟩
     ·have hlt2:i<(st.length:Int):=of_decide_eq_true hlt
      refine⟨⟨Nat.le_refl _,hi.1,hlt2⟩,?_⟩
      refine .inl ⟨⟨c,xk,⟨k_zones,k_cells,k_tenants,k_versions,k_replicas,k_observers⟩,key,hf,c.tenants.length,xs,cps_xs,cap_xs,(st.getD i.toNat default),aZ,0,0,fun _=>[]⟩,[],⟨⟨hV,hM.lens⟩,hH,⟨Nat.le_refl _,hP,hM.valid⟩⟩,rfl,kp_,rfl,rfl,fun y hy=>?_⟩
      rcases y with⟨hf2⟩ | ⟨hf2,A2,kp2,kq2,el2⟩
      ·repeat (first | refine⟨fun _=>?_,fun h=>Bool.noConfusion h⟩ | refine⟨fun h=>Bool.noConfusion h,fun _=>?_⟩ | refine⟨⟨by first | exact Nat.le_refl _ | omega | fail,by first | omega | (dsimp only;omega) | fail,by first | omega | (dsimp only;omega) | fail⟩,?_⟩ | refine⟨fun q=>absurd q (by first | (simp[eqCs,eqC1];done) | fail),fun _=>?_⟩ | refine⟨fun _=>?_,fun q=>absurd q (by first | omega | (simp[-List.getD_eq_getElem?_getD];done) | (simp[-List.getD_eq_getElem?_getD];omega) | fail)⟩ | refine⟨fun q=>absurd q (by first | omega | (simp[-List.getD_eq_getElem?_getD];done) | (simp[-List.getD_eq_getElem?_getD];omega) | fail),fun _=>?_⟩ | fail)
       refine⟨(IntKind.i64.wrap (i+1),hmOf c.tenants.length hf2,hf2,none),[],?_,⟨rfl,rfl⟩,kp_,kp_⟩
       dsimp only
       rw[wrapi (n:=i+1) (by omega)]
       exact⟨⟨⟨by omega,by omega⟩,⟨rfl,hy⟩,trivial⟩,by omega⟩
      ·repeat (first | refine⟨fun _=>?_,fun h=>Bool.noConfusion h⟩ | refine⟨fun h=>Bool.noConfusion h,fun _=>?_⟩ | refine⟨⟨by first | exact Nat.le_refl _ | omega | fail,by first | omega | (dsimp only;omega) | fail,by first | omega | (dsimp only;omega) | fail⟩,?_⟩ | refine⟨fun q=>absurd q (by first | (simp[eqCs,eqC1];done) | fail),fun _=>?_⟩ | refine⟨fun _=>?_,fun q=>absurd q (by first | omega | (simp[-List.getD_eq_getElem?_getD];done) | (simp[-List.getD_eq_getElem?_getD];omega) | fail)⟩ | refine⟨fun q=>absurd q (by first | omega | (simp[-List.getD_eq_getElem?_getD];done) | (simp[-List.getD_eq_getElem?_getD];omega) | fail),fun _=>?_⟩ | fail)
       refine⟨(IntKind.i64.wrap (i+1),hmOf c.tenants.length hf2,hf2,some (A2,kp2,kq2,el2)),[(52,54),(53,55)],?_,⟨rfl,rfl⟩,kp_,kp_⟩
       dsimp only
       rw[wrapi (n:=i+1) (by omega)]
       exact⟨⟨⟨by omega,by omega⟩,⟨rfl,hy.1⟩,hy.2⟩,by omega⟩
     ·exact⟨rfl,rfl⟩
    ·obtain⟨hva,hkq,hel⟩:=ho
     refine⟨⟨by decide,rfl,rfl⟩,?_⟩
     refine⟨fun hlt=>?_,fun hge=>?_⟩
     ·have hlt2:i<(st.length:Int):=of_decide_eq_true hlt
      refine⟨⟨Nat.le_refl _,hi.1,hlt2⟩,?_⟩
      refine .inr (.inl ⟨⟨c,xk,⟨k_zones,k_cells,k_tenants,k_versions,k_replicas,k_observers⟩,key,hf,c.tenants.length,xs,cps_xs,cap_xs,(st.getD i.toNat default),A,kp,kq,elq⟩,[],⟨⟨hV,hM.lens⟩,hH,⟨Nat.le_refl _,hP,hM.valid⟩,hva,hkq,hel⟩,rfl,kp_,rfl,rfl,fun y hy=>?_⟩)
      rcases y with⟨hf2⟩ | ⟨hf2,A2,kp2,kq2,el2⟩
      ·repeat (first | refine⟨fun _=>?_,fun h=>Bool.noConfusion h⟩ | refine⟨fun h=>Bool.noConfusion h,fun _=>?_⟩ | refine⟨⟨by first | exact Nat.le_refl _ | omega | fail,by first | omega | (dsimp only;omega) | fail,by first | omega | (dsimp only;omega) | fail⟩,?_⟩ | refine⟨fun q=>absurd q (by first | (simp[eqCs,eqC1];done) | fail),fun _=>?_⟩ | refine⟨fun _=>?_,fun q=>absurd q (by first | omega | (simp[-List.getD_eq_getElem?_getD];done) | (simp[-List.getD_eq_getElem?_getD];omega) | fail)⟩ | refine⟨fun q=>absurd q (by first | omega | (simp[-List.getD_eq_getElem?_getD];done) | (simp[-List.getD_eq_getElem?_getD];omega) | fail),fun _=>?_⟩ | fail)
       refine⟨(IntKind.i64.wrap (i+1),hmOf c.tenants.length hf2,hf2,some (A,kp,kq,elq)),[],?_,⟨rfl,rfl⟩,kp_,kp_⟩
       dsimp only
       rw[wrapi (n:=i+1) (by omega)]
       exact⟨⟨⟨by omega,by omega⟩,⟨rfl,hy⟩,⟨hva,hkq,hel⟩⟩,by omega⟩
      ·repeat (first | refine⟨fun _=>?_,fun h=>Bool.noConfusion h⟩ | refine⟨fun h=>Bool.noConfusion h,fun _=>?_⟩ | refine⟨⟨by first | exact Nat.le_refl _ | omega | fail,by first | omega | (dsimp only;omega) | fail,by first | omega | (dsimp only;omega) | fail⟩,?_⟩ | refine⟨fun q=>absurd q (by first | (simp[eqCs,eqC1];done) | fail),fun _=>?_⟩ | refine⟨fun _=>?_,fun q=>absurd q (by first | omega | (simp[-List.getD_eq_getElem?_getD];done) | (simp[-List.getD_eq_getElem?_getD];omega) | fail)⟩ | refine⟨fun q=>absurd q (by first | omega | (simp[-List.getD_eq_getElem?_getD];done) | (simp[-List.getD_eq_getElem?_getD];omega) | fail),fun _=>?_⟩ | fail)
       refine⟨(IntKind.i64.wrap (i+1),hmOf c.tenants.length hf2,hf2,some (A2,kp2,kq2,el2)),[(52,54),(53,55)],?_,⟨rfl,rfl⟩,kp_,kp_⟩
       dsimp only
       rw[wrapi (n:=i+1) (by omega)]
       exact⟨⟨⟨by omega,by omega⟩,⟨rfl,hy.1⟩,hy.2⟩,by omega⟩
     ·exact⟨rfl,rfl⟩
theorem routerPlays_law (a0:Option Addr) (cap0:Nat) (z0:List Int) (a1:Option Addr) (cap1:Nat) (z1:List Int) (key:Int) (a3:Option Addr) (cap3:Nat) (z3:List CS) (W:World) (hr0:Rd W (·<W.heap.size) a0 (z0.map (Value.int .i64))) (hm0:z0.length≤maxLen) (hr1:Rd W (·<W.heap.size) a1 (z1.map (Value.int .i64))) (hm1:z1.length≤maxLen) {Q:Prop} (_hq:Q) (hr3:Rd W (·<W.heap.size) a3 (flat csC z3)) (hm3:z3.length≤maxLen) :
  Calls Tryz.prog 3 #[.slice a0 z0.length cap0,.slice a1 z1.length cap1,.int .i64 key,.slice a3 z3.length cap3] W fun e w'=>e=.returned (.bool true)∧Below W.heap.size W w':=by
 rw[← flat_ints] at hr0 hr1
 have h:=uni_calls ttPok pzFok Tryz.func3 rfl (D:=pzD) (by kernel_rfl) (vs:=[slc 0 z0.length cap0,slc 1 z1.length cap1,.int .i64 key,slc 10 z3.length cap3]) rfl { a0:=a0,a1:=a1,y:={ noA with ac:=a3 } } { l0:=z0,l1:=z1,s:={ noS with cells:=z3 } } W { r0:=hr0,r1:=hr1,s:={ noS_ok W (·<W.heap.size) with cells:=hr3 } } (fun v hv=>by
  simp only[List.mem_cons,List.not_mem_nil,or_false] at hv
  rcases hv with rfl | rfl | rfl | rfl
  ·exact⟨show (0:Nat)<13 by decide,rfl⟩
  ·exact⟨show (1:Nat)<13 by decide,rfl⟩
  ·trivial
  ·exact⟨show (10:Nat)<13 by decide,rfl⟩) (plays_sx cap0 cap1 cap3 z0 z1 z3 key hm0 hm1 hm3)
 refine h.mono ?_
 rintro e w' ⟨v,mem',nx',ρ',rfl,rfl,hv,hm',hb⟩
 exact⟨rfl,hb⟩
end Go.Proofs.YtchhdflealgkaaaGreat
