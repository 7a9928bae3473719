import Derived.Test.YtchhdflealgkaaaGreatPo23
import Derived.Shelf.SlMaps.Clone
namespace Go.Proofs.YtchhdflealgkaaaGreat
open Go.RowKit
set_option linter.unusedSimpArgs false
set_option linter.unusedVariables false
/-! law16.both,without a copy -/
def boDBoN:List (Nat×DQ):=[(9,{ k:=5,L:=[55],pre:=[(0,false),(1,false),(3,false),(4,false),(2,true)] }),(14,{ k:=5,L:=[0,1,2,3,4,5,6,7,8,9,10,11,12,13,14,15,16,17,18,19,20,21,22,23,24,25,26,27,28,29,30,31,32,33,34,35,36,37,38,39,40,41,42,43,44,45,46,47,48,49,50,51,52,53,54,55,56,57,58,59,60,61,62,63,64,65,66,67,68,69,70,71,72,73,74,75,76,77,78,79,80,81,82,83,84,85,86,87,88,89,90,91,92,93,94,95,96,97,98,99],pre:=[(0,false),(1,false),(2,false),(3,false),(4,false)] }),(15,{ k:=5,L:=[55],pre:=[(0,false),(1,false),(3,false),(4,false),(2,true)] }),(18,{ k:=15,L:=[54],pre:=[(0,false),(1,false),(2,false),(3,false),(4,false),(5,false),(6,false),(8,false),(9,false),(10,false),(11,false),(12,false),(13,false),(14,false),(7,true)] }),(3,{ k:=8,L:=[54],pre:=[(0,false),(1,false),(3,false),(4,false),(6,false),(7,false),(2,true),(5,true)] }),(5000009,{ k:=100,L:=[0,1,2,3,4,5,6,7,8,9,10,11,12,13,14,15,16,17,18,19,20,21,22,23,24,25,26,27,28,29,30,31,32,33,34,35,36,37,38,39,40,41,42,43,44,45,46,47,48,49,50,51,52,53,54,55,56,57,58,59],sl:=[0,1,2,7,9,23] })]
def vsBoN:BX→List Value:=fun x=>match x with | ⟨c,xk,yk,key,hf,kh,xs,cps,cx,st,A,kp,kq,elq⟩=>[ptr 28,ptr 31,.slice (some ⟨51,0,none⟩) xs.length cx,.agg #[.int .i64 st.mode,.int .i64 st.running,.int .i64 st.wanted,.int .i64 st.since]]
def mBoN:BX→AM:=fun x=>match x with | ⟨c,xk,yk,key,hf,kh,xs,cps,cx,st,A,kp,kq,elq⟩=>[(28,.box 114 [.int .i64 c.regions,slc 21 c.zones.length yk.cz,slc 22 c.cells.length yk.cc,slc 23 c.tenants.length yk.ct,slc 24 c.versions.length yk.cv,slc 25 c.replicas.length yk.cr,slc 26 c.observers.length yk.co,.int .i64 c.blast,.int .i64 c.lease,.int .i64 c.bake,.int .i64 key,.bool false,.int .i64 0,.int .i64 0,zs0,.int .u64 0,.int .u64 0,.map (some 27)]),(27,.ext (.map .i64 true (hintF (hmOf c.tenants.length hf)))),(31,.box 116 [.int .i64 c.regions,slc 18 c.zones.length xk.cz,slc 17 c.cells.length xk.cc,slc 16 c.tenants.length xk.ct,slc 15 c.versions.length xk.cv,slc 14 c.replicas.length xk.cr,slc 13 c.observers.length xk.co,.int .i64 c.blast,.int .i64 c.lease,.int .i64 c.bake,.int .i64 key,.bool false,.int .i64 0,.int .i64 0,zs0,.int .u64 0,.int .u64 0,slc 30 c.tenants.length kh]),(30,.row (1000000+92) 2 kh (fun k=>pairC (hf k))),(21,rowOfL 0 1 intC 0 c.zones),(22,rowOfL 0 2 pairC (0,0) c.cells),(23,rowOfL 0 7 tenC default c.tenants),(24,rowOfL 0 2 pairC (0,0) c.versions),(25,rowOfL 0 1 intC 0 c.replicas),(26,rowOfL 0 1 intC 0 c.observers),(18,rowOfL 0 1 intC 0 c.zones),(17,rowOfL 0 2 pairC (0,0) c.cells),(16,rowOfL 0 7 tenC default c.tenants),(15,rowOfL 0 2 pairC (0,0) c.versions),(14,rowOfL 0 1 intC 0 c.replicas),(13,rowOfL 0 1 intC 0 c.observers),(50,famB 0 xs),(51,deepA 0 0 xs cps 50)]
def preBoN:BX→Prop:=fun x=>match x with | ⟨c,xk,yk,key,hf,kh,xs,cps,cx,st,A,kp,kq,elq⟩=>(CfgV c∧Lens c)∧HfOk c.tenants.length hf∧(c.tenants.length≤kh∧CopyP c key xs∧cfgErr c=0)
def postBoN:BX→BY→Prop:=fun x y=>match x with | ⟨c,xk,yk,key,hf,kh,xs,cps,cx,st,A,kp,kq,elq⟩=>match y with | .keep hf2=>HfOk c.tenants.length hf2 | .new hf2 A2 kp2 kq2 el2=>HfOk c.tenants.length hf2∧(ValidA c A2 key∧A2.routes.length≤kq2∧∀ k,k<A2.routes.length→el2 k=pairC (A2.routes.getD k (0,0)))
def VBoN:BX→BY→Value:=fun x y=>match x with | ⟨c,xk,yk,key,hf,kh,xs,cps,cx,st,A,kp,kq,elq⟩=>match y with | _=>.bool true
def MBoN:BX→BY→AM:=fun x y=>match x with | ⟨c,xk,yk,key,hf,kh,xs,cps,cx,st,A,kp,kq,elq⟩=>match y with | .keep hf2=>[(28,.box 114 [.int .i64 c.regions,slc 21 c.zones.length yk.cz,slc 22 c.cells.length yk.cc,slc 23 c.tenants.length yk.ct,slc 24 c.versions.length yk.cv,slc 25 c.replicas.length yk.cr,slc 26 c.observers.length yk.co,.int .i64 c.blast,.int .i64 c.lease,.int .i64 c.bake,.int .i64 key,.bool false,.int .i64 0,.int .i64 0,zs0,.int .u64 0,.int .u64 0,.map (some 27)]),(27,.ext (.map .i64 true (hintF (hmOf c.tenants.length hf2)))),(31,.box 116 [.int .i64 c.regions,slc 18 c.zones.length xk.cz,slc 17 c.cells.length xk.cc,slc 16 c.tenants.length xk.ct,slc 15 c.versions.length xk.cv,slc 14 c.replicas.length xk.cr,slc 13 c.observers.length xk.co,.int .i64 c.blast,.int .i64 c.lease,.int .i64 c.bake,.int .i64 key,.bool false,.int .i64 0,.int .i64 0,zs0,.int .u64 0,.int .u64 0,slc 30 c.tenants.length kh]),(30,.row (1000000+92) 2 kh (fun k=>pairC (hf2 k)))] | .new hf2 A2 kp2 kq2 el2=>[(28,.box 114 [.int .i64 c.regions,slc 21 c.zones.length yk.cz,slc 22 c.cells.length yk.cc,slc 23 c.tenants.length yk.ct,slc 24 c.versions.length yk.cv,slc 25 c.replicas.length yk.cr,slc 26 c.observers.length yk.co,.int .i64 c.blast,.int .i64 c.lease,.int .i64 c.bake,.int .i64 key,.bool true,.int .i64 A2.number,.int .i64 A2.tick,slc 54 A2.routes.length kp2,.int .u64 A2.parent,.int .u64 A2.sum,.map (some 27)]),(27,.ext (.map .i64 true (hintF (hmOf c.tenants.length hf2)))),(31,.box 116 [.int .i64 c.regions,slc 18 c.zones.length xk.cz,slc 17 c.cells.length xk.cc,slc 16 c.tenants.length xk.ct,slc 15 c.versions.length xk.cv,slc 14 c.replicas.length xk.cr,slc 13 c.observers.length xk.co,.int .i64 c.blast,.int .i64 c.lease,.int .i64 c.bake,.int .i64 key,.bool true,.int .i64 A2.number,.int .i64 A2.tick,slc 55 A2.routes.length kq2,.int .u64 A2.parent,.int .u64 A2.sum,slc 30 c.tenants.length kh]),(30,.row (1000000+92) 2 kh (fun k=>pairC (hf2 k))),(54,rowOfL 500000 2 pairC (0,0) A2.routes),(55,.row (1000000+92) 2 kq2 el2)]
def ctBoN:CT:=ctObj vsBoN mBoN 54 preBoN postBoN VBoN MBoN 2
set_option maxRecDepth 100000 in
set_option maxHeartbeats 400000000 in
theorem boN_sx (c:Cfg) (xk yk:CfgK) (key:Int) (hf:HF) (kh:Nat) (xs:List Atl) (cps:List Nat) (cx:Nat) (st:CS) (A:Atl) (kp kq:Nat) (elq:Nat→List Value) (hp:(CfgV c∧Lens c)∧HfOk c.tenants.length hf∧(c.tenants.length≤kh∧CopyP c key xs∧cfgErr c=0)) :
  sx ttP [(56,ctMod),(38,ctBwG),(57,ctTkP),(58,ctTkQ),(35,ctLnP),(60,ctLnQ2),(59,ctSigned),(13,ctSm)] boDBoN (bodyOf Tryz.f15) (argF 0 [ptr 28,ptr 31,.slice (some ⟨51,0,none⟩) xs.length cx,.agg #[.int .i64 st.mode,.int .i64 st.running,.int .i64 st.wanted,.int .i64 st.since]]) [(28,.box 114 [.int .i64 c.regions,slc 21 c.zones.length yk.cz,slc 22 c.cells.length yk.cc,slc 23 c.tenants.length yk.ct,slc 24 c.versions.length yk.cv,slc 25 c.replicas.length yk.cr,slc 26 c.observers.length yk.co,.int .i64 c.blast,.int .i64 c.lease,.int .i64 c.bake,.int .i64 key,.bool false,.int .i64 0,.int .i64 0,zs0,.int .u64 0,.int .u64 0,.map (some 27)]),(27,.ext (.map .i64 true (hintF (hmOf c.tenants.length hf)))),(31,.box 116 [.int .i64 c.regions,slc 18 c.zones.length xk.cz,slc 17 c.cells.length xk.cc,slc 16 c.tenants.length xk.ct,slc 15 c.versions.length xk.cv,slc 14 c.replicas.length xk.cr,slc 13 c.observers.length xk.co,.int .i64 c.blast,.int .i64 c.lease,.int .i64 c.bake,.int .i64 key,.bool false,.int .i64 0,.int .i64 0,zs0,.int .u64 0,.int .u64 0,slc 30 c.tenants.length kh]),(30,.row (1000000+92) 2 kh (fun k=>pairC (hf k))),(21,rowOfL 0 1 intC 0 c.zones),(22,rowOfL 0 2 pairC (0,0) c.cells),(23,rowOfL 0 7 tenC default c.tenants),(24,rowOfL 0 2 pairC (0,0) c.versions),(25,rowOfL 0 1 intC 0 c.replicas),(26,rowOfL 0 1 intC 0 c.observers),(18,rowOfL 0 1 intC 0 c.zones),(17,rowOfL 0 2 pairC (0,0) c.cells),(16,rowOfL 0 7 tenC default c.tenants),(15,rowOfL 0 2 pairC (0,0) c.versions),(14,rowOfL 0 1 intC 0 c.replicas),(13,rowOfL 0 1 intC 0 c.observers),(50,famB 0 xs),(51,deepA 0 0 xs cps 50)] 54 (endx ttP Tryz.f15.results.toList (objR 54 (postBoN ⟨c,xk,yk,key,hf,kh,xs,cps,cx,st,A,kp,kq,elq⟩) (VBoN ⟨c,xk,yk,key,hf,kh,xs,cps,cx,st,A,kp,kq,elq⟩) (MBoN ⟨c,xk,yk,key,hf,kh,xs,cps,cx,st,A,kp,kq,elq⟩))):=by
 obtain⟨⟨hV,hL⟩,hH⟩:=hp
 have hnt:=hV.nt
 have hnc:=hV.nc
 obtain⟨hH,⟨hkh,hP,hE⟩⟩:=hH
 have hx1:=hP.ne
 have hx2:=hP.le
 refine⟨_,_,rfl,⟨by omega,by omega⟩,?_⟩
 have hj:0≤st.running % (xs.length:Int)∧st.running % (xs.length:Int)<xs.length:=⟨Int.emod_nonneg _ (by omega),Int.emod_lt_of_pos _ (by omega)⟩
 have hjn:(st.running % (xs.length:Int)).toNat<xs.length:=by omega
 refine⟨⟨Nat.le_refl _,hj.1,hj.2⟩,?_⟩
 refine⟨_,_,rfl,⟨by decide,by decide⟩,?_⟩
 refine⟨Bool,fun b=>[(44,.bool b)],fun _=>[],fun _=>True,?_,?_⟩
 ·repeat' (first | refine⟨fun _=>?_,fun h=>Bool.noConfusion h⟩ | refine⟨fun h=>Bool.noConfusion h,fun _=>?_⟩ | refine⟨fun _=>?_,fun _=>?_⟩ | fail)
  all_goals exact⟨_,trivial,kp_,kp_⟩
 rintro b -
 refine⟨⟨by decide,rfl,rfl⟩,?_⟩
 refine⟨fun _=>?_,fun _=>?_⟩
 ·refine .inl ⟨⟨c,xk,yk,key,hf,kh,xs,(st.running % (xs.length:Int)).toNat,_,(xs.getD (st.running % (xs.length:Int)).toNat aZ).number,(xs.getD (st.running % (xs.length:Int)).toNat aZ).tick,(xs.getD (st.running % (xs.length:Int)).toNat aZ).parent,(xs.getD (st.running % (xs.length:Int)).toNat aZ).sum,A,kp,kq,elq⟩,[],⟨⟨hV,hL⟩,hH⟩,rfl,kp_,rfl,rfl,fun y1 hy1=>?_⟩
  rcases y1 with _ | _ | ⟨k1,el1⟩
  ·repeat (first | refine⟨fun _=>?_,fun h=>Bool.noConfusion h⟩ | refine⟨fun h=>Bool.noConfusion h,fun _=>?_⟩ | fail)
   refine⟨kp_,?_⟩
   refine .inl ⟨⟨c,xk,yk,key,hf,kh,xs,(st.running % (xs.length:Int)).toNat,_,(xs.getD (st.running % (xs.length:Int)).toNat aZ).number,(xs.getD (st.running % (xs.length:Int)).toNat aZ).tick,(xs.getD (st.running % (xs.length:Int)).toNat aZ).parent,(xs.getD (st.running % (xs.length:Int)).toNat aZ).sum,A,kp,kq,elq⟩,[],⟨⟨hV,hL⟩,hH,hkh⟩,rfl,kp_,rfl,rfl,fun y2 hy2=>?_⟩
   rcases y2 with _ | _ | ⟨k2,el2⟩
   ·repeat (first | refine⟨fun _=>?_,fun h=>Bool.noConfusion h⟩ | refine⟨fun h=>Bool.noConfusion h,fun _=>?_⟩ | fail)
    have hH2:=hH
    refine .inl ⟨⟨c,xk,yk,key,hf,kh,0,0,0,A,kp,kq,elq⟩,[],⟨⟨hV,hL⟩,hH2,hkh⟩,rfl,kp_,rfl,rfl,fun u hu=>?_⟩
    repeat (first | refine⟨fun _=>?_,fun h=>Bool.noConfusion h⟩ | refine⟨fun h=>Bool.noConfusion h,fun _=>?_⟩ | refine⟨⟨by first | exact Nat.le_refl _ | omega | fail,by first | omega | (dsimp only;omega) | fail,by first | omega | (dsimp only;omega) | fail⟩,?_⟩ | refine⟨fun q=>absurd q (by first | (simp[eqCs,eqC1];done) | fail),fun _=>?_⟩ | refine⟨fun _=>?_,fun q=>absurd q (by first | omega | (simp[-List.getD_eq_getElem?_getD];done) | (simp[-List.getD_eq_getElem?_getD];omega) | fail)⟩ | refine⟨fun q=>absurd q (by first | omega | (simp[-List.getD_eq_getElem?_getD];done) | (simp[-List.getD_eq_getElem?_getD];omega) | fail),fun _=>?_⟩ | fail)
    exact⟨(.keep hf),[],hH,rfl,rfl,rfl,kp_⟩
   ·exact absurd hy2.1 hy1
   ·exact absurd hy2.1 hy1
  ·exact hy1.2.elim
  ·repeat (first | refine⟨fun _=>?_,fun h=>Bool.noConfusion h⟩ | refine⟨fun h=>Bool.noConfusion h,fun _=>?_⟩ | fail)
   refine⟨kp_,?_⟩
   refine .inl ⟨⟨c,xk,yk,key,hf,kh,xs,(st.running % (xs.length:Int)).toNat,_,(xs.getD (st.running % (xs.length:Int)).toNat aZ).number,(xs.getD (st.running % (xs.length:Int)).toNat aZ).tick,(xs.getD (st.running % (xs.length:Int)).toNat aZ).parent,(xs.getD (st.running % (xs.length:Int)).toNat aZ).sum,A,kp,kq,elq⟩,[],⟨⟨hV,hL⟩,hH,hkh⟩,rfl,kp_,rfl,rfl,fun y2 hy2=>?_⟩
   rcases y2 with _ | _ | ⟨k2,el2⟩
   ·exact absurd hy1 hy2
   ·exact hy2.2.elim
   ·repeat (first | refine⟨fun _=>?_,fun h=>Bool.noConfusion h⟩ | refine⟨fun h=>Bool.noConfusion h,fun _=>?_⟩ | fail)
    obtain⟨hv2,hq2,he2⟩:=hy2
    refine .inr (.inl ⟨⟨c,xk,yk,key,(dlF (xs.getD (st.running % (xs.length:Int)).toNat aZ).routes hf c.tenants.length),kh,0,0,0,(⟨(xs.getD (st.running % (xs.length:Int)).toNat aZ).number,(xs.getD (st.running % (xs.length:Int)).toNat aZ).tick,(xs.getD (st.running % (xs.length:Int)).toNat aZ).routes,(xs.getD (st.running % (xs.length:Int)).toNat aZ).parent,(xs.getD (st.running % (xs.length:Int)).toNat aZ).sum⟩:Atl),k1,k2,el2⟩,[(52,100),(53,101)],⟨⟨hV,hL⟩,hH.del _ _,hkh,hv2,hq2,he2⟩,rfl,kp_,rfl,rfl,fun u hu=>?_⟩)
    repeat (first | refine⟨fun _=>?_,fun h=>Bool.noConfusion h⟩ | refine⟨fun h=>Bool.noConfusion h,fun _=>?_⟩ | refine⟨⟨by first | exact Nat.le_refl _ | omega | fail,by first | omega | (dsimp only;omega) | fail,by first | omega | (dsimp only;omega) | fail⟩,?_⟩ | refine⟨fun q=>absurd q (by first | (simp[eqCs,eqC1];done) | fail),fun _=>?_⟩ | refine⟨fun _=>?_,fun q=>absurd q (by first | omega | (simp[-List.getD_eq_getElem?_getD];done) | (simp[-List.getD_eq_getElem?_getD];omega) | fail)⟩ | refine⟨fun q=>absurd q (by first | omega | (simp[-List.getD_eq_getElem?_getD];done) | (simp[-List.getD_eq_getElem?_getD];omega) | fail),fun _=>?_⟩ | fail)
    exact⟨(.new (dlF (xs.getD (st.running % (xs.length:Int)).toNat aZ).routes hf c.tenants.length) (⟨(xs.getD (st.running % (xs.length:Int)).toNat aZ).number,(xs.getD (st.running % (xs.length:Int)).toNat aZ).tick,(xs.getD (st.running % (xs.length:Int)).toNat aZ).routes,(xs.getD (st.running % (xs.length:Int)).toNat aZ).parent,(xs.getD (st.running % (xs.length:Int)).toNat aZ).sum⟩:Atl) k1 k2 el2),[(54,100),(55,101)],⟨hH.del _ _,hv2,hq2,he2⟩,rfl,rfl,rfl,kp_⟩
 ·refine⟨fun _=>?_,fun _=>?_⟩
  ·refine⟨_,_,_,rfl,⟨by decide,by decide⟩,fun nb hnb=>?_⟩
   refine⟨fun _=>?_,fun _=>?_⟩
   ·refine⟨{ (xs.getD (st.running % (xs.length:Int)).toNat aZ) with number:=nb },_,key,rfl,.fam rfl,hP.numIn hV hE hjn hnb,?_⟩
    refine .inl ⟨⟨c,xk,yk,key,hf,kh,xs,(st.running % (xs.length:Int)).toNat,_,nb,(xs.getD (st.running % (xs.length:Int)).toNat aZ).tick,(xs.getD (st.running % (xs.length:Int)).toNat aZ).parent,(signA { (xs.getD (st.running % (xs.length:Int)).toNat aZ) with number:=nb } key).sum,A,kp,kq,elq⟩,[],⟨⟨hV,hL⟩,hH⟩,rfl,kp_,rfl,rfl,fun y1 hy1=>?_⟩
    rcases y1 with _ | _ | ⟨k1,el1⟩
    ·repeat (first | refine⟨fun _=>?_,fun h=>Bool.noConfusion h⟩ | refine⟨fun h=>Bool.noConfusion h,fun _=>?_⟩ | fail)
     refine⟨kp_,?_⟩
     refine .inl ⟨⟨c,xk,yk,key,hf,kh,xs,(st.running % (xs.length:Int)).toNat,_,nb,(xs.getD (st.running % (xs.length:Int)).toNat aZ).tick,(xs.getD (st.running % (xs.length:Int)).toNat aZ).parent,(signA { (xs.getD (st.running % (xs.length:Int)).toNat aZ) with number:=nb } key).sum,A,kp,kq,elq⟩,[],⟨⟨hV,hL⟩,hH,hkh⟩,rfl,kp_,rfl,rfl,fun y2 hy2=>?_⟩
     rcases y2 with _ | _ | ⟨k2,el2⟩
     ·repeat (first | refine⟨fun _=>?_,fun h=>Bool.noConfusion h⟩ | refine⟨fun h=>Bool.noConfusion h,fun _=>?_⟩ | fail)
      have hH2:=hH
      refine .inl ⟨⟨c,xk,yk,key,hf,kh,0,0,0,A,kp,kq,elq⟩,[],⟨⟨hV,hL⟩,hH2,hkh⟩,rfl,kp_,rfl,rfl,fun u hu=>?_⟩
      repeat (first | refine⟨fun _=>?_,fun h=>Bool.noConfusion h⟩ | refine⟨fun h=>Bool.noConfusion h,fun _=>?_⟩ | refine⟨⟨by first | exact Nat.le_refl _ | omega | fail,by first | omega | (dsimp only;omega) | fail,by first | omega | (dsimp only;omega) | fail⟩,?_⟩ | refine⟨fun q=>absurd q (by first | (simp[eqCs,eqC1];done) | fail),fun _=>?_⟩ | refine⟨fun _=>?_,fun q=>absurd q (by first | omega | (simp[-List.getD_eq_getElem?_getD];done) | (simp[-List.getD_eq_getElem?_getD];omega) | fail)⟩ | refine⟨fun q=>absurd q (by first | omega | (simp[-List.getD_eq_getElem?_getD];done) | (simp[-List.getD_eq_getElem?_getD];omega) | fail),fun _=>?_⟩ | fail)
      exact⟨(.keep hf),[],hH,rfl,rfl,rfl,kp_⟩
     ·exact absurd hy2.1 hy1
     ·exact absurd hy2.1 hy1
    ·exact hy1.2.elim
    ·repeat (first | refine⟨fun _=>?_,fun h=>Bool.noConfusion h⟩ | refine⟨fun h=>Bool.noConfusion h,fun _=>?_⟩ | fail)
     refine⟨kp_,?_⟩
     refine .inl ⟨⟨c,xk,yk,key,hf,kh,xs,(st.running % (xs.length:Int)).toNat,_,nb,(xs.getD (st.running % (xs.length:Int)).toNat aZ).tick,(xs.getD (st.running % (xs.length:Int)).toNat aZ).parent,(signA { (xs.getD (st.running % (xs.length:Int)).toNat aZ) with number:=nb } key).sum,A,kp,kq,elq⟩,[],⟨⟨hV,hL⟩,hH,hkh⟩,rfl,kp_,rfl,rfl,fun y2 hy2=>?_⟩
     rcases y2 with _ | _ | ⟨k2,el2⟩
     ·exact absurd hy1 hy2
     ·exact hy2.2.elim
     ·repeat (first | refine⟨fun _=>?_,fun h=>Bool.noConfusion h⟩ | refine⟨fun h=>Bool.noConfusion h,fun _=>?_⟩ | fail)
      obtain⟨hv2,hq2,he2⟩:=hy2
      refine .inr (.inl ⟨⟨c,xk,yk,key,(dlF (xs.getD (st.running % (xs.length:Int)).toNat aZ).routes hf c.tenants.length),kh,0,0,0,(⟨nb,(xs.getD (st.running % (xs.length:Int)).toNat aZ).tick,(xs.getD (st.running % (xs.length:Int)).toNat aZ).routes,(xs.getD (st.running % (xs.length:Int)).toNat aZ).parent,(signA { (xs.getD (st.running % (xs.length:Int)).toNat aZ) with number:=nb } key).sum⟩:Atl),k1,k2,el2⟩,[(52,100),(53,101)],⟨⟨hV,hL⟩,hH.del _ _,hkh,hv2,hq2,he2⟩,rfl,kp_,rfl,rfl,fun u hu=>?_⟩)
      repeat (first | refine⟨fun _=>?_,fun h=>Bool.noConfusion h⟩ | refine⟨fun h=>Bool.noConfusion h,fun _=>?_⟩ | refine⟨⟨by first | exact Nat.le_refl _ | omega | fail,by first | omega | (dsimp only;omega) | fail,by first | omega | (dsimp only;omega) | fail⟩,?_⟩ | refine⟨fun q=>absurd q (by first | (simp[eqCs,eqC1];done) | fail),fun _=>?_⟩ | refine⟨fun _=>?_,fun q=>absurd q (by first | omega | (simp[-List.getD_eq_getElem?_getD];done) | (simp[-List.getD_eq_getElem?_getD];omega) | fail)⟩ | refine⟨fun q=>absurd q (by first | omega | (simp[-List.getD_eq_getElem?_getD];done) | (simp[-List.getD_eq_getElem?_getD];omega) | fail),fun _=>?_⟩ | fail)
      exact⟨(.new (dlF (xs.getD (st.running % (xs.length:Int)).toNat aZ).routes hf c.tenants.length) (⟨nb,(xs.getD (st.running % (xs.length:Int)).toNat aZ).tick,(xs.getD (st.running % (xs.length:Int)).toNat aZ).routes,(xs.getD (st.running % (xs.length:Int)).toNat aZ).parent,(signA { (xs.getD (st.running % (xs.length:Int)).toNat aZ) with number:=nb } key).sum⟩:Atl) k1 k2 el2),[(54,100),(55,101)],⟨hH.del _ _,hv2,hq2,he2⟩,rfl,rfl,rfl,kp_⟩
   ·refine .inl ⟨⟨c,xk,yk,key,hf,kh,xs,(st.running % (xs.length:Int)).toNat,_,nb,(xs.getD (st.running % (xs.length:Int)).toNat aZ).tick,(xs.getD (st.running % (xs.length:Int)).toNat aZ).parent,(xs.getD (st.running % (xs.length:Int)).toNat aZ).sum,A,kp,kq,elq⟩,[],⟨⟨hV,hL⟩,hH⟩,rfl,kp_,rfl,rfl,fun y1 hy1=>?_⟩
    rcases y1 with _ | _ | ⟨k1,el1⟩
    ·repeat (first | refine⟨fun _=>?_,fun h=>Bool.noConfusion h⟩ | refine⟨fun h=>Bool.noConfusion h,fun _=>?_⟩ | fail)
     refine⟨kp_,?_⟩
     refine .inl ⟨⟨c,xk,yk,key,hf,kh,xs,(st.running % (xs.length:Int)).toNat,_,nb,(xs.getD (st.running % (xs.length:Int)).toNat aZ).tick,(xs.getD (st.running % (xs.length:Int)).toNat aZ).parent,(xs.getD (st.running % (xs.length:Int)).toNat aZ).sum,A,kp,kq,elq⟩,[],⟨⟨hV,hL⟩,hH,hkh⟩,rfl,kp_,rfl,rfl,fun y2 hy2=>?_⟩
     rcases y2 with _ | _ | ⟨k2,el2⟩
     ·repeat (first | refine⟨fun _=>?_,fun h=>Bool.noConfusion h⟩ | refine⟨fun h=>Bool.noConfusion h,fun _=>?_⟩ | fail)
      have hH2:=hH
      refine .inl ⟨⟨c,xk,yk,key,hf,kh,0,0,0,A,kp,kq,elq⟩,[],⟨⟨hV,hL⟩,hH2,hkh⟩,rfl,kp_,rfl,rfl,fun u hu=>?_⟩
      repeat (first | refine⟨fun _=>?_,fun h=>Bool.noConfusion h⟩ | refine⟨fun h=>Bool.noConfusion h,fun _=>?_⟩ | refine⟨⟨by first | exact Nat.le_refl _ | omega | fail,by first | omega | (dsimp only;omega) | fail,by first | omega | (dsimp only;omega) | fail⟩,?_⟩ | refine⟨fun q=>absurd q (by first | (simp[eqCs,eqC1];done) | fail),fun _=>?_⟩ | refine⟨fun _=>?_,fun q=>absurd q (by first | omega | (simp[-List.getD_eq_getElem?_getD];done) | (simp[-List.getD_eq_getElem?_getD];omega) | fail)⟩ | refine⟨fun q=>absurd q (by first | omega | (simp[-List.getD_eq_getElem?_getD];done) | (simp[-List.getD_eq_getElem?_getD];omega) | fail),fun _=>?_⟩ | fail)
      exact⟨(.keep hf),[],hH,rfl,rfl,rfl,kp_⟩
     ·exact absurd hy2.1 hy1
     ·exact absurd hy2.1 hy1
    ·exact hy1.2.elim
    ·repeat (first | refine⟨fun _=>?_,fun h=>Bool.noConfusion h⟩ | refine⟨fun h=>Bool.noConfusion h,fun _=>?_⟩ | fail)
     refine⟨kp_,?_⟩
     refine .inl ⟨⟨c,xk,yk,key,hf,kh,xs,(st.running % (xs.length:Int)).toNat,_,nb,(xs.getD (st.running % (xs.length:Int)).toNat aZ).tick,(xs.getD (st.running % (xs.length:Int)).toNat aZ).parent,(xs.getD (st.running % (xs.length:Int)).toNat aZ).sum,A,kp,kq,elq⟩,[],⟨⟨hV,hL⟩,hH,hkh⟩,rfl,kp_,rfl,rfl,fun y2 hy2=>?_⟩
     rcases y2 with _ | _ | ⟨k2,el2⟩
     ·exact absurd hy1 hy2
     ·exact hy2.2.elim
     ·repeat (first | refine⟨fun _=>?_,fun h=>Bool.noConfusion h⟩ | refine⟨fun h=>Bool.noConfusion h,fun _=>?_⟩ | fail)
      obtain⟨hv2,hq2,he2⟩:=hy2
      refine .inr (.inl ⟨⟨c,xk,yk,key,(dlF (xs.getD (st.running % (xs.length:Int)).toNat aZ).routes hf c.tenants.length),kh,0,0,0,(⟨nb,(xs.getD (st.running % (xs.length:Int)).toNat aZ).tick,(xs.getD (st.running % (xs.length:Int)).toNat aZ).routes,(xs.getD (st.running % (xs.length:Int)).toNat aZ).parent,(xs.getD (st.running % (xs.length:Int)).toNat aZ).sum⟩:Atl),k1,k2,el2⟩,[(52,100),(53,101)],⟨⟨hV,hL⟩,hH.del _ _,hkh,hv2,hq2,he2⟩,rfl,kp_,rfl,rfl,fun u hu=>?_⟩)
      repeat (first | refine⟨fun _=>?_,fun h=>Bool.noConfusion h⟩ | refine⟨fun h=>Bool.noConfusion h,fun _=>?_⟩ | refine⟨⟨by first | exact Nat.le_refl _ | omega | fail,by first | omega | (dsimp only;omega) | fail,by first | omega | (dsimp only;omega) | fail⟩,?_⟩ | refine⟨fun q=>absurd q (by first | (simp[eqCs,eqC1];done) | fail),fun _=>?_⟩ | refine⟨fun _=>?_,fun q=>absurd q (by first | omega | (simp[-List.getD_eq_getElem?_getD];done) | (simp[-List.getD_eq_getElem?_getD];omega) | fail)⟩ | refine⟨fun q=>absurd q (by first | omega | (simp[-List.getD_eq_getElem?_getD];done) | (simp[-List.getD_eq_getElem?_getD];omega) | fail),fun _=>?_⟩ | fail)
      exact⟨(.new (dlF (xs.getD (st.running % (xs.length:Int)).toNat aZ).routes hf c.tenants.length) (⟨nb,(xs.getD (st.running % (xs.length:Int)).toNat aZ).tick,(xs.getD (st.running % (xs.length:Int)).toNat aZ).routes,(xs.getD (st.running % (xs.length:Int)).toNat aZ).parent,(xs.getD (st.running % (xs.length:Int)).toNat aZ).sum⟩:Atl) k1 k2 el2),[(54,100),(55,101)],⟨hH.del _ _,hv2,hq2,he2⟩,rfl,rfl,rfl,kp_⟩
  ·refine⟨fun _=>?_,fun _=>?_⟩
   ·refine .inl ⟨⟨c,xk,yk,key,hf,kh,st.running,st.wanted,st.since,A,kp,kq,elq⟩,[],⟨⟨hV,hL⟩,hH,hkh⟩,rfl,kp_,rfl,rfl,fun y1 hy1=>?_⟩
    cases y1
    ·refine⟨kp_,?_⟩
     repeat (first | refine⟨fun _=>?_,fun h=>Bool.noConfusion h⟩ | refine⟨fun h=>Bool.noConfusion h,fun _=>?_⟩ | refine⟨⟨by first | exact Nat.le_refl _ | omega | fail,by first | omega | (dsimp only;omega) | fail,by first | omega | (dsimp only;omega) | fail⟩,?_⟩ | refine⟨fun q=>absurd q (by first | (simp[eqCs,eqC1];done) | fail),fun _=>?_⟩ | refine⟨fun _=>?_,fun q=>absurd q (by first | omega | (simp[-List.getD_eq_getElem?_getD];done) | (simp[-List.getD_eq_getElem?_getD];omega) | fail)⟩ | refine⟨fun q=>absurd q (by first | omega | (simp[-List.getD_eq_getElem?_getD];done) | (simp[-List.getD_eq_getElem?_getD];omega) | fail),fun _=>?_⟩ | fail)
     refine .inl ⟨⟨c,xk,yk,key,hf,kh,st.running,st.wanted,st.since,A,kp,kq,elq⟩,[],⟨⟨hV,hL⟩,hH,hkh⟩,rfl,kp_,rfl,rfl,fun y2 hy2=>?_⟩
     cases y2
     ·repeat (first | refine⟨fun _=>?_,fun h=>Bool.noConfusion h⟩ | refine⟨fun h=>Bool.noConfusion h,fun _=>?_⟩ | fail)
      have hH2:=hH
      refine .inl ⟨⟨c,xk,yk,key,hf,kh,0,0,0,A,kp,kq,elq⟩,[],⟨⟨hV,hL⟩,hH2,hkh⟩,rfl,kp_,rfl,rfl,fun u hu=>?_⟩
      repeat (first | refine⟨fun _=>?_,fun h=>Bool.noConfusion h⟩ | refine⟨fun h=>Bool.noConfusion h,fun _=>?_⟩ | refine⟨⟨by first | exact Nat.le_refl _ | omega | fail,by first | omega | (dsimp only;omega) | fail,by first | omega | (dsimp only;omega) | fail⟩,?_⟩ | refine⟨fun q=>absurd q (by first | (simp[eqCs,eqC1];done) | fail),fun _=>?_⟩ | refine⟨fun _=>?_,fun q=>absurd q (by first | omega | (simp[-List.getD_eq_getElem?_getD];done) | (simp[-List.getD_eq_getElem?_getD];omega) | fail)⟩ | refine⟨fun q=>absurd q (by first | omega | (simp[-List.getD_eq_getElem?_getD];done) | (simp[-List.getD_eq_getElem?_getD];omega) | fail),fun _=>?_⟩ | fail)
      exact⟨(.keep hf),[],hH,rfl,rfl,rfl,kp_⟩
     ·exact absurd hy2 hy1
    ·refine⟨kp_,?_⟩
     repeat (first | refine⟨fun _=>?_,fun h=>Bool.noConfusion h⟩ | refine⟨fun h=>Bool.noConfusion h,fun _=>?_⟩ | refine⟨⟨by first | exact Nat.le_refl _ | omega | fail,by first | omega | (dsimp only;omega) | fail,by first | omega | (dsimp only;omega) | fail⟩,?_⟩ | refine⟨fun q=>absurd q (by first | (simp[eqCs,eqC1];done) | fail),fun _=>?_⟩ | refine⟨fun _=>?_,fun q=>absurd q (by first | omega | (simp[-List.getD_eq_getElem?_getD];done) | (simp[-List.getD_eq_getElem?_getD];omega) | fail)⟩ | refine⟨fun q=>absurd q (by first | omega | (simp[-List.getD_eq_getElem?_getD];done) | (simp[-List.getD_eq_getElem?_getD];omega) | fail),fun _=>?_⟩ | fail)
     refine .inl ⟨⟨c,xk,yk,key,hf,kh,st.running,st.wanted,st.since,A,kp,kq,elq⟩,[],⟨⟨hV,hL⟩,hH,hkh⟩,rfl,kp_,rfl,rfl,fun y2 hy2=>?_⟩
     cases y2
     ·exact absurd hy1 hy2
     ·repeat (first | refine⟨fun _=>?_,fun h=>Bool.noConfusion h⟩ | refine⟨fun h=>Bool.noConfusion h,fun _=>?_⟩ | fail)
      have hH2:HfOk c.tenants.length (stF hf (st.running).toNat (st.wanted,st.since)):=hH.set (knownE_pos hH hy1.1 (fun _=>Int.le_refl _) hy1.2.2.2)
      refine .inl ⟨⟨c,xk,yk,key,(stF hf (st.running).toNat (st.wanted,st.since)),kh,0,0,0,A,kp,kq,elq⟩,[],⟨⟨hV,hL⟩,hH2,hkh⟩,rfl,kp_,rfl,rfl,fun u hu=>?_⟩
      repeat (first | refine⟨fun _=>?_,fun h=>Bool.noConfusion h⟩ | refine⟨fun h=>Bool.noConfusion h,fun _=>?_⟩ | refine⟨⟨by first | exact Nat.le_refl _ | omega | fail,by first | omega | (dsimp only;omega) | fail,by first | omega | (dsimp only;omega) | fail⟩,?_⟩ | refine⟨fun q=>absurd q (by first | (simp[eqCs,eqC1];done) | fail),fun _=>?_⟩ | refine⟨fun _=>?_,fun q=>absurd q (by first | omega | (simp[-List.getD_eq_getElem?_getD];done) | (simp[-List.getD_eq_getElem?_getD];omega) | fail)⟩ | refine⟨fun q=>absurd q (by first | omega | (simp[-List.getD_eq_getElem?_getD];done) | (simp[-List.getD_eq_getElem?_getD];omega) | fail),fun _=>?_⟩ | fail)
      exact⟨(.keep (stF hf (st.running).toNat (st.wanted,st.since))),[],hH2,rfl,rfl,rfl,kp_⟩
   ·refine⟨_,_,_,rfl,⟨by decide,by decide⟩,fun t5 ht5=>?_⟩
    refine⟨kp_,?_⟩
    refine⟨_,_,_,rfl,⟨by decide,by decide⟩,fun x5 hx5=>?_⟩
    refine⟨kp_,?_⟩
    refine⟨_,_,_,rfl,⟨by decide,by decide⟩,fun e5 he5=>?_⟩
    refine .inl ⟨⟨c,xk,yk,key,hf,kh,t5,x5,e5,A,kp,kq,elq⟩,[],⟨⟨hV,hL⟩,hH,hkh⟩,rfl,kp_,rfl,rfl,fun y1 hy1=>?_⟩
    cases y1
    ·repeat (first | refine⟨fun _=>?_,fun h=>Bool.noConfusion h⟩ | refine⟨fun h=>Bool.noConfusion h,fun _=>?_⟩ | fail)
     refine .inl ⟨⟨c,xk,yk,key,hf,kh,t5,x5,e5,A,kp,kq,elq⟩,[],⟨⟨hV,hL⟩,hH,hkh⟩,rfl,kp_,rfl,rfl,fun y2 hy2=>?_⟩
     cases y2
     ·repeat (first | refine⟨fun _=>?_,fun h=>Bool.noConfusion h⟩ | refine⟨fun h=>Bool.noConfusion h,fun _=>?_⟩ | fail)
      have hH2:=hH
      refine .inl ⟨⟨c,xk,yk,key,hf,kh,0,0,0,A,kp,kq,elq⟩,[],⟨⟨hV,hL⟩,hH2,hkh⟩,rfl,kp_,rfl,rfl,fun u hu=>?_⟩
      repeat (first | refine⟨fun _=>?_,fun h=>Bool.noConfusion h⟩ | refine⟨fun h=>Bool.noConfusion h,fun _=>?_⟩ | refine⟨⟨by first | exact Nat.le_refl _ | omega | fail,by first | omega | (dsimp only;omega) | fail,by first | omega | (dsimp only;omega) | fail⟩,?_⟩ | refine⟨fun q=>absurd q (by first | (simp[eqCs,eqC1];done) | fail),fun _=>?_⟩ | refine⟨fun _=>?_,fun q=>absurd q (by first | omega | (simp[-List.getD_eq_getElem?_getD];done) | (simp[-List.getD_eq_getElem?_getD];omega) | fail)⟩ | refine⟨fun q=>absurd q (by first | omega | (simp[-List.getD_eq_getElem?_getD];done) | (simp[-List.getD_eq_getElem?_getD];omega) | fail),fun _=>?_⟩ | fail)
      exact⟨(.keep hf),[],hH,rfl,rfl,rfl,kp_⟩
     ·exact absurd hy2 hy1
    ·repeat (first | refine⟨fun _=>?_,fun h=>Bool.noConfusion h⟩ | refine⟨fun h=>Bool.noConfusion h,fun _=>?_⟩ | fail)
     refine .inl ⟨⟨c,xk,yk,key,hf,kh,t5,x5,e5,A,kp,kq,elq⟩,[],⟨⟨hV,hL⟩,hH,hkh⟩,rfl,kp_,rfl,rfl,fun y2 hy2=>?_⟩
     cases y2
     ·exact absurd hy1 hy2
     ·repeat (first | refine⟨fun _=>?_,fun h=>Bool.noConfusion h⟩ | refine⟨fun h=>Bool.noConfusion h,fun _=>?_⟩ | fail)
      have hH2:HfOk c.tenants.length (stF hf (t5).toNat (x5,e5)):=hH.set (knownE_pos hH hy1.1 (fun _=>Int.le_refl _) hy1.2.2.2)
      refine .inl ⟨⟨c,xk,yk,key,(stF hf (t5).toNat (x5,e5)),kh,0,0,0,A,kp,kq,elq⟩,[],⟨⟨hV,hL⟩,hH2,hkh⟩,rfl,kp_,rfl,rfl,fun u hu=>?_⟩
      repeat (first | refine⟨fun _=>?_,fun h=>Bool.noConfusion h⟩ | refine⟨fun h=>Bool.noConfusion h,fun _=>?_⟩ | refine⟨⟨by first | exact Nat.le_refl _ | omega | fail,by first | omega | (dsimp only;omega) | fail,by first | omega | (dsimp only;omega) | fail⟩,?_⟩ | refine⟨fun q=>absurd q (by first | (simp[eqCs,eqC1];done) | fail),fun _=>?_⟩ | refine⟨fun _=>?_,fun q=>absurd q (by first | omega | (simp[-List.getD_eq_getElem?_getD];done) | (simp[-List.getD_eq_getElem?_getD];omega) | fail)⟩ | refine⟨fun q=>absurd q (by first | omega | (simp[-List.getD_eq_getElem?_getD];done) | (simp[-List.getD_eq_getElem?_getD];omega) | fail),fun _=>?_⟩ | fail)
      exact⟨(.keep (stF hf (t5).toNat (x5,e5))),[],hH2,rfl,rfl,rfl,kp_⟩
theorem boNOk:CSound Tryz.prog 15 ctBoN:=ctObj_ok (F:=[(56,ctMod),(38,ctBwG),(57,ctTkP),(58,ctTkQ),(35,ctLnP),(60,ctLnQ2),(59,ctSigned),(13,ctSm)]) (D:=boDBoN) ttPok (fti_cons (modOk.i _) (fti_cons (bwGOk.i _) (fti_cons (tkPOk.i _) (fti_cons (tkQOk.i _) (fti_cons (lnPOk.i _) (fti_cons (lnQ2Ok.i _) (fti_cons (signedOk.i _) (fti_cons (smOk.i _) fti_nil)))))))) mixed (by kernel_rfl) Tryz.func15 rfl (by kernel_rfl) (fun x=>by cases x;rfl) (fun x=>by cases x;rfl) (fun x y=>by cases x;cases y<;>rfl) (fun x hx=>by cases x;exact boN_sx _ _ _ _ _ _ _ _ _ _ _ _ _ _ hx)
/-! law16.both,with a copy -/
def boDBoS:List (Nat×DQ):=[(9,{ k:=5,L:=[55],pre:=[(0,false),(1,false),(3,false),(4,false),(2,true)] }),(14,{ k:=5,L:=[0,1,2,3,4,5,6,7,8,9,10,11,12,13,14,15,16,17,18,19,20,21,22,23,24,25,26,27,28,29,30,31,32,33,34,35,36,37,38,39,40,41,42,43,44,45,46,47,48,49,50,51,52,53,54,55,56,57,58,59,60,61,62,63,64,65,66,67,68,69,70,71,72,73,74,75,76,77,78,79,80,81,82,83,84,85,86,87,88,89,90,91,92,93,94,95,96,97,98,99],pre:=[(0,false),(1,false),(2,false),(3,false),(4,false)] }),(15,{ k:=5,L:=[55],pre:=[(0,false),(1,false),(3,false),(4,false),(2,true)] }),(18,{ k:=15,L:=[54],pre:=[(0,false),(1,false),(2,false),(3,false),(4,false),(5,false),(6,false),(8,false),(9,false),(10,false),(11,false),(12,false),(13,false),(14,false),(7,true)] }),(3,{ k:=8,L:=[54],pre:=[(0,false),(1,false),(3,false),(4,false),(6,false),(7,false),(2,true),(5,true)] }),(5000009,{ k:=100,L:=[0,1,2,3,4,5,6,7,8,9,10,11,12,13,14,15,16,17,18,19,20,21,22,23,24,25,26,27,28,29,30,31,32,33,34,35,36,37,38,39,40,41,42,43,44,45,46,47,48,49,50,51,52,53,54,55,56,57,58,59],sl:=[0,1,2,7,9,23] })]
def vsBoS:BX→List Value:=fun x=>match x with | ⟨c,xk,yk,key,hf,kh,xs,cps,cx,st,A,kp,kq,elq⟩=>[ptr 28,ptr 31,.slice (some ⟨51,0,none⟩) xs.length cx,.agg #[.int .i64 st.mode,.int .i64 st.running,.int .i64 st.wanted,.int .i64 st.since]]
def mBoS:BX→AM:=fun x=>match x with | ⟨c,xk,yk,key,hf,kh,xs,cps,cx,st,A,kp,kq,elq⟩=>[(28,.box 114 [.int .i64 c.regions,slc 21 c.zones.length yk.cz,slc 22 c.cells.length yk.cc,slc 23 c.tenants.length yk.ct,slc 24 c.versions.length yk.cv,slc 25 c.replicas.length yk.cr,slc 26 c.observers.length yk.co,.int .i64 c.blast,.int .i64 c.lease,.int .i64 c.bake,.int .i64 key,.bool true,.int .i64 A.number,.int .i64 A.tick,slc 52 A.routes.length kp,.int .u64 A.parent,.int .u64 A.sum,.map (some 27)]),(27,.ext (.map .i64 true (hintF (hmOf c.tenants.length hf)))),(31,.box 116 [.int .i64 c.regions,slc 18 c.zones.length xk.cz,slc 17 c.cells.length xk.cc,slc 16 c.tenants.length xk.ct,slc 15 c.versions.length xk.cv,slc 14 c.replicas.length xk.cr,slc 13 c.observers.length xk.co,.int .i64 c.blast,.int .i64 c.lease,.int .i64 c.bake,.int .i64 key,.bool true,.int .i64 A.number,.int .i64 A.tick,slc 53 A.routes.length kq,.int .u64 A.parent,.int .u64 A.sum,slc 30 c.tenants.length kh]),(30,.row (1000000+92) 2 kh (fun k=>pairC (hf k))),(52,rowOfL 0 2 pairC (0,0) A.routes),(53,.row (1000000+92) 2 kq elq),(21,rowOfL 0 1 intC 0 c.zones),(22,rowOfL 0 2 pairC (0,0) c.cells),(23,rowOfL 0 7 tenC default c.tenants),(24,rowOfL 0 2 pairC (0,0) c.versions),(25,rowOfL 0 1 intC 0 c.replicas),(26,rowOfL 0 1 intC 0 c.observers),(18,rowOfL 0 1 intC 0 c.zones),(17,rowOfL 0 2 pairC (0,0) c.cells),(16,rowOfL 0 7 tenC default c.tenants),(15,rowOfL 0 2 pairC (0,0) c.versions),(14,rowOfL 0 1 intC 0 c.replicas),(13,rowOfL 0 1 intC 0 c.observers),(50,famB 0 xs),(51,deepA 0 0 xs cps 50)]
def preBoS:BX→Prop:=fun x=>match x with | ⟨c,xk,yk,key,hf,kh,xs,cps,cx,st,A,kp,kq,elq⟩=>(CfgV c∧Lens c)∧HfOk c.tenants.length hf∧(c.tenants.length≤kh∧CopyP c key xs∧cfgErr c=0)∧(ValidA c A key∧A.routes.length≤kq∧∀ k,k<A.routes.length→elq k=pairC (A.routes.getD k (0,0)))
def postBoS:BX→BY→Prop:=fun x y=>match x with | ⟨c,xk,yk,key,hf,kh,xs,cps,cx,st,A,kp,kq,elq⟩=>match y with | .keep hf2=>HfOk c.tenants.length hf2 | .new hf2 A2 kp2 kq2 el2=>HfOk c.tenants.length hf2∧(ValidA c A2 key∧A2.routes.length≤kq2∧∀ k,k<A2.routes.length→el2 k=pairC (A2.routes.getD k (0,0)))
def VBoS:BX→BY→Value:=fun x y=>match x with | ⟨c,xk,yk,key,hf,kh,xs,cps,cx,st,A,kp,kq,elq⟩=>match y with | _=>.bool true
def MBoS:BX→BY→AM:=fun x y=>match x with | ⟨c,xk,yk,key,hf,kh,xs,cps,cx,st,A,kp,kq,elq⟩=>match y with | .keep hf2=>[(28,.box 114 [.int .i64 c.regions,slc 21 c.zones.length yk.cz,slc 22 c.cells.length yk.cc,slc 23 c.tenants.length yk.ct,slc 24 c.versions.length yk.cv,slc 25 c.replicas.length yk.cr,slc 26 c.observers.length yk.co,.int .i64 c.blast,.int .i64 c.lease,.int .i64 c.bake,.int .i64 key,.bool true,.int .i64 A.number,.int .i64 A.tick,slc 52 A.routes.length kp,.int .u64 A.parent,.int .u64 A.sum,.map (some 27)]),(27,.ext (.map .i64 true (hintF (hmOf c.tenants.length hf2)))),(31,.box 116 [.int .i64 c.regions,slc 18 c.zones.length xk.cz,slc 17 c.cells.length xk.cc,slc 16 c.tenants.length xk.ct,slc 15 c.versions.length xk.cv,slc 14 c.replicas.length xk.cr,slc 13 c.observers.length xk.co,.int .i64 c.blast,.int .i64 c.lease,.int .i64 c.bake,.int .i64 key,.bool true,.int .i64 A.number,.int .i64 A.tick,slc 53 A.routes.length kq,.int .u64 A.parent,.int .u64 A.sum,slc 30 c.tenants.length kh]),(30,.row (1000000+92) 2 kh (fun k=>pairC (hf2 k))),(53,.row (1000000+92) 2 kq elq)] | .new hf2 A2 kp2 kq2 el2=>[(28,.box 114 [.int .i64 c.regions,slc 21 c.zones.length yk.cz,slc 22 c.cells.length yk.cc,slc 23 c.tenants.length yk.ct,slc 24 c.versions.length yk.cv,slc 25 c.replicas.length yk.cr,slc 26 c.observers.length yk.co,.int .i64 c.blast,.int .i64 c.lease,.int .i64 c.bake,.int .i64 key,.bool true,.int .i64 A2.number,.int .i64 A2.tick,slc 54 A2.routes.length kp2,.int .u64 A2.parent,.int .u64 A2.sum,.map (some 27)]),(27,.ext (.map .i64 true (hintF (hmOf c.tenants.length hf2)))),(31,.box 116 [.int .i64 c.regions,slc 18 c.zones.length xk.cz,slc 17 c.cells.length xk.cc,slc 16 c.tenants.length xk.ct,slc 15 c.versions.length xk.cv,slc 14 c.replicas.length xk.cr,slc 13 c.observers.length xk.co,.int .i64 c.blast,.int .i64 c.lease,.int .i64 c.bake,.int .i64 key,.bool true,.int .i64 A2.number,.int .i64 A2.tick,slc 55 A2.routes.length kq2,.int .u64 A2.parent,.int .u64 A2.sum,slc 30 c.tenants.length kh]),(30,.row (1000000+92) 2 kh (fun k=>pairC (hf2 k))),(54,rowOfL 500000 2 pairC (0,0) A2.routes),(55,.row (1000000+92) 2 kq2 el2),(53,.row (1000000+92) 2 kq elq)]
def ctBoS:CT:=ctObj vsBoS mBoS 54 preBoS postBoS VBoS MBoS 2
set_option maxRecDepth 100000 in
set_option maxHeartbeats 400000000 in
theorem boS_sx (c:Cfg) (xk yk:CfgK) (key:Int) (hf:HF) (kh:Nat) (xs:List Atl) (cps:List Nat) (cx:Nat) (st:CS) (A:Atl) (kp kq:Nat) (elq:Nat→List Value) (hp:(CfgV c∧Lens c)∧HfOk c.tenants.length hf∧(c.tenants.length≤kh∧CopyP c key xs∧cfgErr c=0)∧(ValidA c A key∧A.routes.length≤kq∧∀ k,k<A.routes.length→elq k=pairC (A.routes.getD k (0,0)))) :
  sx ttP [(56,ctMod),(38,ctBwG),(57,ctTkP),(58,ctTkQ),(35,ctLnP),(60,ctLnQ2),(59,ctSigned),(13,ctSm)] boDBoS (bodyOf Tryz.f15) (argF 0 [ptr 28,ptr 31,.slice (some ⟨51,0,none⟩) xs.length cx,.agg #[.int .i64 st.mode,.int .i64 st.running,.int .i64 st.wanted,.int .i64 st.since]]) [(28,.box 114 [.int .i64 c.regions,slc 21 c.zones.length yk.cz,slc 22 c.cells.length yk.cc,slc 23 c.tenants.length yk.ct,slc 24 c.versions.length yk.cv,slc 25 c.replicas.length yk.cr,slc 26 c.observers.length yk.co,.int .i64 c.blast,.int .i64 c.lease,.int .i64 c.bake,.int .i64 key,.bool true,.int .i64 A.number,.int .i64 A.tick,slc 52 A.routes.length kp,.int .u64 A.parent,.int .u64 A.sum,.map (some 27)]),(27,.ext (.map .i64 true (hintF (hmOf c.tenants.length hf)))),(31,.box 116 [.int .i64 c.regions,slc 18 c.zones.length xk.cz,slc 17 c.cells.length xk.cc,slc 16 c.tenants.length xk.ct,slc 15 c.versions.length xk.cv,slc 14 c.replicas.length xk.cr,slc 13 c.observers.length xk.co,.int .i64 c.blast,.int .i64 c.lease,.int .i64 c.bake,.int .i64 key,.bool true,.int .i64 A.number,.int .i64 A.tick,slc 53 A.routes.length kq,.int .u64 A.parent,.int .u64 A.sum,slc 30 c.tenants.length kh]),(30,.row (1000000+92) 2 kh (fun k=>pairC (hf k))),(52,rowOfL 0 2 pairC (0,0) A.routes),(53,.row (1000000+92) 2 kq elq),(21,rowOfL 0 1 intC 0 c.zones),(22,rowOfL 0 2 pairC (0,0) c.cells),(23,rowOfL 0 7 tenC default c.tenants),(24,rowOfL 0 2 pairC (0,0) c.versions),(25,rowOfL 0 1 intC 0 c.replicas),(26,rowOfL 0 1 intC 0 c.observers),(18,rowOfL 0 1 intC 0 c.zones),(17,rowOfL 0 2 pairC (0,0) c.cells),(16,rowOfL 0 7 tenC default c.tenants),(15,rowOfL 0 2 pairC (0,0) c.versions),(14,rowOfL 0 1 intC 0 c.replicas),(13,rowOfL 0 1 intC 0 c.observers),(50,famB 0 xs),(51,deepA 0 0 xs cps 50)] 54 (endx ttP Tryz.f15.results.toList (objR 54 (postBoS ⟨c,xk,yk,key,hf,kh,xs,cps,cx,st,A,kp,kq,elq⟩) (VBoS ⟨c,xk,yk,key,hf,kh,xs,cps,cx,st,A,kp,kq,elq⟩) (MBoS ⟨c,xk,yk,key,hf,kh,xs,cps,cx,st,A,kp,kq,elq⟩))):=by
 obtain⟨⟨hV,hL⟩,hH⟩:=hp
 have hnt:=hV.nt
 have hnc:=hV.nc
 obtain⟨hH,⟨hkh,hP,hE⟩,hva,hkq,hel⟩:=hH
 have hx1:=hP.ne
 have hx2:=hP.le
 refine⟨_,_,rfl,⟨by omega,by omega⟩,?_⟩
 have hj:0≤st.running % (xs.length:Int)∧st.running % (xs.length:Int)<xs.length:=⟨Int.emod_nonneg _ (by omega),Int.emod_lt_of_pos _ (by omega)⟩
 have hjn:(st.running % (xs.length:Int)).toNat<xs.length:=by omega
 refine⟨⟨Nat.le_refl _,hj.1,hj.2⟩,?_⟩
 refine⟨_,_,rfl,⟨by decide,by decide⟩,?_⟩
 refine⟨Bool,fun b=>[(44,.bool b)],fun _=>[],fun _=>True,?_,?_⟩
 ·repeat' (first | refine⟨fun _=>?_,fun h=>Bool.noConfusion h⟩ | refine⟨fun h=>Bool.noConfusion h,fun _=>?_⟩ | refine⟨fun _=>?_,fun _=>?_⟩ | fail)
  all_goals exact⟨_,trivial,kp_,kp_⟩
 rintro b -
 refine⟨⟨by decide,rfl,rfl⟩,?_⟩
 refine⟨fun _=>?_,fun _=>?_⟩
 ·refine .inr ⟨⟨c,xk,yk,key,hf,kh,xs,(st.running % (xs.length:Int)).toNat,_,(xs.getD (st.running % (xs.length:Int)).toNat aZ).number,(xs.getD (st.running % (xs.length:Int)).toNat aZ).tick,(xs.getD (st.running % (xs.length:Int)).toNat aZ).parent,(xs.getD (st.running % (xs.length:Int)).toNat aZ).sum,A,kp,kq,elq⟩,[],⟨⟨hV,hL⟩,hH⟩,rfl,kp_,rfl,rfl,fun y1 hy1=>?_⟩
  rcases y1 with _ | _ | ⟨k1,el1⟩
  ·repeat (first | refine⟨fun _=>?_,fun h=>Bool.noConfusion h⟩ | refine⟨fun h=>Bool.noConfusion h,fun _=>?_⟩ | fail)
   refine⟨kp_,?_⟩
   refine .inr (.inl ⟨⟨c,xk,yk,key,hf,kh,xs,(st.running % (xs.length:Int)).toNat,_,(xs.getD (st.running % (xs.length:Int)).toNat aZ).number,(xs.getD (st.running % (xs.length:Int)).toNat aZ).tick,(xs.getD (st.running % (xs.length:Int)).toNat aZ).parent,(xs.getD (st.running % (xs.length:Int)).toNat aZ).sum,A,kp,kq,elq⟩,[],⟨⟨hV,hL⟩,hH,hkh⟩,rfl,kp_,rfl,rfl,fun y2 hy2=>?_⟩)
   rcases y2 with _ | _ | ⟨k2,el2⟩
   ·repeat (first | refine⟨fun _=>?_,fun h=>Bool.noConfusion h⟩ | refine⟨fun h=>Bool.noConfusion h,fun _=>?_⟩ | fail)
    have hH2:=hH
    refine .inr (.inl ⟨⟨c,xk,yk,key,hf,kh,0,0,0,A,kp,kq,elq⟩,[],⟨⟨hV,hL⟩,hH2,hkh,hva,hkq,hel⟩,rfl,kp_,rfl,rfl,fun u hu=>?_⟩)
    repeat (first | refine⟨fun _=>?_,fun h=>Bool.noConfusion h⟩ | refine⟨fun h=>Bool.noConfusion h,fun _=>?_⟩ | refine⟨⟨by first | exact Nat.le_refl _ | omega | fail,by first | omega | (dsimp only;omega) | fail,by first | omega | (dsimp only;omega) | fail⟩,?_⟩ | refine⟨fun q=>absurd q (by first | (simp[eqCs,eqC1];done) | fail),fun _=>?_⟩ | refine⟨fun _=>?_,fun q=>absurd q (by first | omega | (simp[-List.getD_eq_getElem?_getD];done) | (simp[-List.getD_eq_getElem?_getD];omega) | fail)⟩ | refine⟨fun q=>absurd q (by first | omega | (simp[-List.getD_eq_getElem?_getD];done) | (simp[-List.getD_eq_getElem?_getD];omega) | fail),fun _=>?_⟩ | fail)
    exact⟨(.keep hf),[],hH,rfl,rfl,rfl,kp_⟩
   ·exact absurd hy2.1 hy1
   ·exact absurd hy2.1.1 hy1
  ·repeat (first | refine⟨fun _=>?_,fun h=>Bool.noConfusion h⟩ | refine⟨fun h=>Bool.noConfusion h,fun _=>?_⟩ | fail)
   refine⟨kp_,?_⟩
   refine .inr (.inl ⟨⟨c,xk,yk,key,hf,kh,xs,(st.running % (xs.length:Int)).toNat,_,(xs.getD (st.running % (xs.length:Int)).toNat aZ).number,(xs.getD (st.running % (xs.length:Int)).toNat aZ).tick,(xs.getD (st.running % (xs.length:Int)).toNat aZ).parent,(xs.getD (st.running % (xs.length:Int)).toNat aZ).sum,A,kp,kq,elq⟩,[],⟨⟨hV,hL⟩,hH,hkh⟩,rfl,kp_,rfl,rfl,fun y2 hy2=>?_⟩)
   rcases y2 with _ | _ | ⟨k2,el2⟩
   ·exact absurd hy1.1 hy2
   ·repeat (first | refine⟨fun _=>?_,fun h=>Bool.noConfusion h⟩ | refine⟨fun h=>Bool.noConfusion h,fun _=>?_⟩ | fail)
    have hH2:=hH
    refine .inr (.inl ⟨⟨c,xk,yk,key,hf,kh,0,0,0,A,kp,kq,elq⟩,[],⟨⟨hV,hL⟩,hH2,hkh,hva,hkq,hel⟩,rfl,kp_,rfl,rfl,fun u hu=>?_⟩)
    repeat (first | refine⟨fun _=>?_,fun h=>Bool.noConfusion h⟩ | refine⟨fun h=>Bool.noConfusion h,fun _=>?_⟩ | refine⟨⟨by first | exact Nat.le_refl _ | omega | fail,by first | omega | (dsimp only;omega) | fail,by first | omega | (dsimp only;omega) | fail⟩,?_⟩ | refine⟨fun q=>absurd q (by first | (simp[eqCs,eqC1];done) | fail),fun _=>?_⟩ | refine⟨fun _=>?_,fun q=>absurd q (by first | omega | (simp[-List.getD_eq_getElem?_getD];done) | (simp[-List.getD_eq_getElem?_getD];omega) | fail)⟩ | refine⟨fun q=>absurd q (by first | omega | (simp[-List.getD_eq_getElem?_getD];done) | (simp[-List.getD_eq_getElem?_getD];omega) | fail),fun _=>?_⟩ | fail)
    exact⟨(.keep hf),[],hH,rfl,rfl,rfl,kp_⟩
   ·exact absurd hy1.2 hy2.1.2
  ·repeat (first | refine⟨fun _=>?_,fun h=>Bool.noConfusion h⟩ | refine⟨fun h=>Bool.noConfusion h,fun _=>?_⟩ | fail)
   refine⟨kp_,?_⟩
   refine .inr (.inl ⟨⟨c,xk,yk,key,hf,kh,xs,(st.running % (xs.length:Int)).toNat,_,(xs.getD (st.running % (xs.length:Int)).toNat aZ).number,(xs.getD (st.running % (xs.length:Int)).toNat aZ).tick,(xs.getD (st.running % (xs.length:Int)).toNat aZ).parent,(xs.getD (st.running % (xs.length:Int)).toNat aZ).sum,A,kp,kq,elq⟩,[],⟨⟨hV,hL⟩,hH,hkh⟩,rfl,kp_,rfl,rfl,fun y2 hy2=>?_⟩)
   rcases y2 with _ | _ | ⟨k2,el2⟩
   ·exact absurd hy1.1 hy2
   ·exact absurd hy2.2 hy1.2
   ·repeat (first | refine⟨fun _=>?_,fun h=>Bool.noConfusion h⟩ | refine⟨fun h=>Bool.noConfusion h,fun _=>?_⟩ | fail)
    obtain⟨hv2,hq2,he2⟩:=hy2
    replace hv2:=hv2.1
    refine .inr (.inl ⟨⟨c,xk,yk,key,(dlF (xs.getD (st.running % (xs.length:Int)).toNat aZ).routes hf c.tenants.length),kh,0,0,0,(⟨(xs.getD (st.running % (xs.length:Int)).toNat aZ).number,(xs.getD (st.running % (xs.length:Int)).toNat aZ).tick,(xs.getD (st.running % (xs.length:Int)).toNat aZ).routes,(xs.getD (st.running % (xs.length:Int)).toNat aZ).parent,(xs.getD (st.running % (xs.length:Int)).toNat aZ).sum⟩:Atl),k1,k2,el2⟩,[(52,100),(53,101)],⟨⟨hV,hL⟩,hH.del _ _,hkh,hv2,hq2,he2⟩,rfl,kp_,rfl,rfl,fun u hu=>?_⟩)
    repeat (first | refine⟨fun _=>?_,fun h=>Bool.noConfusion h⟩ | refine⟨fun h=>Bool.noConfusion h,fun _=>?_⟩ | refine⟨⟨by first | exact Nat.le_refl _ | omega | fail,by first | omega | (dsimp only;omega) | fail,by first | omega | (dsimp only;omega) | fail⟩,?_⟩ | refine⟨fun q=>absurd q (by first | (simp[eqCs,eqC1];done) | fail),fun _=>?_⟩ | refine⟨fun _=>?_,fun q=>absurd q (by first | omega | (simp[-List.getD_eq_getElem?_getD];done) | (simp[-List.getD_eq_getElem?_getD];omega) | fail)⟩ | refine⟨fun q=>absurd q (by first | omega | (simp[-List.getD_eq_getElem?_getD];done) | (simp[-List.getD_eq_getElem?_getD];omega) | fail),fun _=>?_⟩ | fail)
    exact⟨(.new (dlF (xs.getD (st.running % (xs.length:Int)).toNat aZ).routes hf c.tenants.length) (⟨(xs.getD (st.running % (xs.length:Int)).toNat aZ).number,(xs.getD (st.running % (xs.length:Int)).toNat aZ).tick,(xs.getD (st.running % (xs.length:Int)).toNat aZ).routes,(xs.getD (st.running % (xs.length:Int)).toNat aZ).parent,(xs.getD (st.running % (xs.length:Int)).toNat aZ).sum⟩:Atl) k1 k2 el2),[(54,100),(55,101)],⟨hH.del _ _,hv2,hq2,he2⟩,rfl,rfl,rfl,kp_⟩
 ·refine⟨fun _=>?_,fun _=>?_⟩
  ·refine⟨_,_,_,rfl,⟨by decide,by decide⟩,fun nb hnb=>?_⟩
   refine⟨fun _=>?_,fun _=>?_⟩
   ·refine⟨{ (xs.getD (st.running % (xs.length:Int)).toNat aZ) with number:=nb },_,key,rfl,.fam rfl,hP.numIn hV hE hjn hnb,?_⟩
    refine .inr ⟨⟨c,xk,yk,key,hf,kh,xs,(st.running % (xs.length:Int)).toNat,_,nb,(xs.getD (st.running % (xs.length:Int)).toNat aZ).tick,(xs.getD (st.running % (xs.length:Int)).toNat aZ).parent,(signA { (xs.getD (st.running % (xs.length:Int)).toNat aZ) with number:=nb } key).sum,A,kp,kq,elq⟩,[],⟨⟨hV,hL⟩,hH⟩,rfl,kp_,rfl,rfl,fun y1 hy1=>?_⟩
    rcases y1 with _ | _ | ⟨k1,el1⟩
    ·repeat (first | refine⟨fun _=>?_,fun h=>Bool.noConfusion h⟩ | refine⟨fun h=>Bool.noConfusion h,fun _=>?_⟩ | fail)
     refine⟨kp_,?_⟩
     refine .inr (.inl ⟨⟨c,xk,yk,key,hf,kh,xs,(st.running % (xs.length:Int)).toNat,_,nb,(xs.getD (st.running % (xs.length:Int)).toNat aZ).tick,(xs.getD (st.running % (xs.length:Int)).toNat aZ).parent,(signA { (xs.getD (st.running % (xs.length:Int)).toNat aZ) with number:=nb } key).sum,A,kp,kq,elq⟩,[],⟨⟨hV,hL⟩,hH,hkh⟩,rfl,kp_,rfl,rfl,fun y2 hy2=>?_⟩)
     rcases y2 with _ | _ | ⟨k2,el2⟩
     ·repeat (first | refine⟨fun _=>?_,fun h=>Bool.noConfusion h⟩ | refine⟨fun h=>Bool.noConfusion h,fun _=>?_⟩ | fail)
      have hH2:=hH
      refine .inr (.inl ⟨⟨c,xk,yk,key,hf,kh,0,0,0,A,kp,kq,elq⟩,[],⟨⟨hV,hL⟩,hH2,hkh,hva,hkq,hel⟩,rfl,kp_,rfl,rfl,fun u hu=>?_⟩)
      repeat (first | refine⟨fun _=>?_,fun h=>Bool.noConfusion h⟩ | refine⟨fun h=>Bool.noConfusion h,fun _=>?_⟩ | refine⟨⟨by first | exact Nat.le_refl _ | omega | fail,by first | omega | (dsimp only;omega) | fail,by first | omega | (dsimp only;omega) | fail⟩,?_⟩ | refine⟨fun q=>absurd q (by first | (simp[eqCs,eqC1];done) | fail),fun _=>?_⟩ | refine⟨fun _=>?_,fun q=>absurd q (by first | omega | (simp[-List.getD_eq_getElem?_getD];done) | (simp[-List.getD_eq_getElem?_getD];omega) | fail)⟩ | refine⟨fun q=>absurd q (by first | omega | (simp[-List.getD_eq_getElem?_getD];done) | (simp[-List.getD_eq_getElem?_getD];omega) | fail),fun _=>?_⟩ | fail)
      exact⟨(.keep hf),[],hH,rfl,rfl,rfl,kp_⟩
     ·exact absurd hy2.1 hy1
     ·exact absurd hy2.1.1 hy1
    ·repeat (first | refine⟨fun _=>?_,fun h=>Bool.noConfusion h⟩ | refine⟨fun h=>Bool.noConfusion h,fun _=>?_⟩ | fail)
     refine⟨kp_,?_⟩
     refine .inr (.inl ⟨⟨c,xk,yk,key,hf,kh,xs,(st.running % (xs.length:Int)).toNat,_,nb,(xs.getD (st.running % (xs.length:Int)).toNat aZ).tick,(xs.getD (st.running % (xs.length:Int)).toNat aZ).parent,(signA { (xs.getD (st.running % (xs.length:Int)).toNat aZ) with number:=nb } key).sum,A,kp,kq,elq⟩,[],⟨⟨hV,hL⟩,hH,hkh⟩,rfl,kp_,rfl,rfl,fun y2 hy2=>?_⟩)
     rcases y2 with _ | _ | ⟨k2,el2⟩
     ·exact absurd hy1.1 hy2
     ·repeat (first | refine⟨fun _=>?_,fun h=>Bool.noConfusion h⟩ | refine⟨fun h=>Bool.noConfusion h,fun _=>?_⟩ | fail)
      have hH2:=hH
      refine .inr (.inl ⟨⟨c,xk,yk,key,hf,kh,0,0,0,A,kp,kq,elq⟩,[],⟨⟨hV,hL⟩,hH2,hkh,hva,hkq,hel⟩,rfl,kp_,rfl,rfl,fun u hu=>?_⟩)
      repeat (first | refine⟨fun _=>?_,fun h=>Bool.noConfusion h⟩ | refine⟨fun h=>Bool.noConfusion h,fun _=>?_⟩ | refine⟨⟨by first | exact Nat.le_refl _ | omega | fail,by first | omega | (dsimp only;omega) | fail,by first | omega | (dsimp only;omega) | fail⟩,?_⟩ | refine⟨fun q=>absurd q (by first | (simp[eqCs,eqC1];done) | fail),fun _=>?_⟩ | refine⟨fun _=>?_,fun q=>absurd q (by first | omega | (simp[-List.getD_eq_getElem?_getD];done) | (simp[-List.getD_eq_getElem?_getD];omega) | fail)⟩ | refine⟨fun q=>absurd q (by first | omega | (simp[-List.getD_eq_getElem?_getD];done) | (simp[-List.getD_eq_getElem?_getD];omega) | fail),fun _=>?_⟩ | fail)
      exact⟨(.keep hf),[],hH,rfl,rfl,rfl,kp_⟩
     ·exact absurd hy1.2 hy2.1.2
    ·repeat (first | refine⟨fun _=>?_,fun h=>Bool.noConfusion h⟩ | refine⟨fun h=>Bool.noConfusion h,fun _=>?_⟩ | fail)
     refine⟨kp_,?_⟩
     refine .inr (.inl ⟨⟨c,xk,yk,key,hf,kh,xs,(st.running % (xs.length:Int)).toNat,_,nb,(xs.getD (st.running % (xs.length:Int)).toNat aZ).tick,(xs.getD (st.running % (xs.length:Int)).toNat aZ).parent,(signA { (xs.getD (st.running % (xs.length:Int)).toNat aZ) with number:=nb } key).sum,A,kp,kq,elq⟩,[],⟨⟨hV,hL⟩,hH,hkh⟩,rfl,kp_,rfl,rfl,fun y2 hy2=>?_⟩)
     rcases y2 with _ | _ | ⟨k2,el2⟩
     ·exact absurd hy1.1 hy2
     ·exact absurd hy2.2 hy1.2
     ·repeat (first | refine⟨fun _=>?_,fun h=>Bool.noConfusion h⟩ | refine⟨fun h=>Bool.noConfusion h,fun _=>?_⟩ | fail)
      obtain⟨hv2,hq2,he2⟩:=hy2
      replace hv2:=hv2.1
      refine .inr (.inl ⟨⟨c,xk,yk,key,(dlF (xs.getD (st.running % (xs.length:Int)).toNat aZ).routes hf c.tenants.length),kh,0,0,0,(⟨nb,(xs.getD (st.running % (xs.length:Int)).toNat aZ).tick,(xs.getD (st.running % (xs.length:Int)).toNat aZ).routes,(xs.getD (st.running % (xs.length:Int)).toNat aZ).parent,(signA { (xs.getD (st.running % (xs.length:Int)).toNat aZ) with number:=nb } key).sum⟩:Atl),k1,k2,el2⟩,[(52,100),(53,101)],⟨⟨hV,hL⟩,hH.del _ _,hkh,hv2,hq2,he2⟩,rfl,kp_,rfl,rfl,fun u hu=>?_⟩)
      repeat (first | refine⟨fun _=>?_,fun h=>Bool.noConfusion h⟩ | refine⟨fun h=>Bool.noConfusion h,fun _=>?_⟩ | refine⟨⟨by first | exact Nat.le_refl _ | omega | fail,by first | omega | (dsimp only;omega) | fail,by first | omega | (dsimp only;omega) | fail⟩,?_⟩ | refine⟨fun q=>absurd q (by first | (simp[eqCs,eqC1];done) | fail),fun _=>?_⟩ | refine⟨fun _=>?_,fun q=>absurd q (by first | omega | (simp[-List.getD_eq_getElem?_getD];done) | (simp[-List.getD_eq_getElem?_getD];omega) | fail)⟩ | refine⟨fun q=>absurd q (by first | omega | (simp[-List.getD_eq_getElem?_getD];done) | (simp[-List.getD_eq_getElem?_getD];omega) | fail),fun _=>?_⟩ | fail)
      exact⟨(.new (dlF (xs.getD (st.running % (xs.length:Int)).toNat aZ).routes hf c.tenants.length) (⟨nb,(xs.getD (st.running % (xs.length:Int)).toNat aZ).tick,(xs.getD (st.running % (xs.length:Int)).toNat aZ).routes,(xs.getD (st.running % (xs.length:Int)).toNat aZ).parent,(signA { (xs.getD (st.running % (xs.length:Int)).toNat aZ) with number:=nb } key).sum⟩:Atl) k1 k2 el2),[(54,100),(55,101)],⟨hH.del _ _,hv2,hq2,he2⟩,rfl,rfl,rfl,kp_⟩
   ·refine .inr ⟨⟨c,xk,yk,key,hf,kh,xs,(st.running % (xs.length:Int)).toNat,_,nb,(xs.getD (st.running % (xs.length:Int)).toNat aZ).tick,(xs.getD (st.running % (xs.length:Int)).toNat aZ).parent,(xs.getD (st.running % (xs.length:Int)).toNat aZ).sum,A,kp,kq,elq⟩,[],⟨⟨hV,hL⟩,hH⟩,rfl,kp_,rfl,rfl,fun y1 hy1=>?_⟩
    rcases y1 with _ | _ | ⟨k1,el1⟩
    ·repeat (first | refine⟨fun _=>?_,fun h=>Bool.noConfusion h⟩ | refine⟨fun h=>Bool.noConfusion h,fun _=>?_⟩ | fail)
     refine⟨kp_,?_⟩
     refine .inr (.inl ⟨⟨c,xk,yk,key,hf,kh,xs,(st.running % (xs.length:Int)).toNat,_,nb,(xs.getD (st.running % (xs.length:Int)).toNat aZ).tick,(xs.getD (st.running % (xs.length:Int)).toNat aZ).parent,(xs.getD (st.running % (xs.length:Int)).toNat aZ).sum,A,kp,kq,elq⟩,[],⟨⟨hV,hL⟩,hH,hkh⟩,rfl,kp_,rfl,rfl,fun y2 hy2=>?_⟩)
     rcases y2 with _ | _ | ⟨k2,el2⟩
     ·repeat (first | refine⟨fun _=>?_,fun h=>Bool.noConfusion h⟩ | refine⟨fun h=>Bool.noConfusion h,fun _=>?_⟩ | fail)
      have hH2:=hH
      refine .inr (.inl ⟨⟨c,xk,yk,key,hf,kh,0,0,0,A,kp,kq,elq⟩,[],⟨⟨hV,hL⟩,hH2,hkh,hva,hkq,hel⟩,rfl,kp_,rfl,rfl,fun u hu=>?_⟩)
      repeat (first | refine⟨fun _=>?_,fun h=>Bool.noConfusion h⟩ | refine⟨fun h=>Bool.noConfusion h,fun _=>?_⟩ | refine⟨⟨by first | exact Nat.le_refl _ | omega | fail,by first | omega | (dsimp only;omega) | fail,by first | omega | (dsimp only;omega) | fail⟩,?_⟩ | refine⟨fun q=>absurd q (by first | (simp[eqCs,eqC1];done) | fail),fun _=>?_⟩ | refine⟨fun _=>?_,fun q=>absurd q (by first | omega | (simp[-List.getD_eq_getElem?_getD];done) | (simp[-List.getD_eq_getElem?_getD];omega) | fail)⟩ | refine⟨fun q=>absurd q (by first | omega | (simp[-List.getD_eq_getElem?_getD];done) | (simp[-List.getD_eq_getElem?_getD];omega) | fail),fun _=>?_⟩ | fail)
      exact⟨(.keep hf),[],hH,rfl,rfl,rfl,kp_⟩
     ·exact absurd hy2.1 hy1
     ·exact absurd hy2.1.1 hy1
    ·repeat (first | refine⟨fun _=>?_,fun h=>Bool.noConfusion h⟩ | refine⟨fun h=>Bool.noConfusion h,fun _=>?_⟩ | fail)
     refine⟨kp_,?_⟩
     refine .inr (.inl ⟨⟨c,xk,yk,key,hf,kh,xs,(st.running % (xs.length:Int)).toNat,_,nb,(xs.getD (st.running % (xs.length:Int)).toNat aZ).tick,(xs.getD (st.running % (xs.length:Int)).toNat aZ).parent,(xs.getD (st.running % (xs.length:Int)).toNat aZ).sum,A,kp,kq,elq⟩,[],⟨⟨hV,hL⟩,hH,hkh⟩,rfl,kp_,rfl,rfl,fun y2 hy2=>?_⟩)
     rcases y2 with _ | _ | ⟨k2,el2⟩
     ·exact absurd hy1.1 hy2
     ·repeat (first | refine⟨fun _=>?_,fun h=>Bool.noConfusion h⟩ | refine⟨fun h=>Bool.noConfusion h,fun _=>?_⟩ | fail)
      have hH2:=hH
      refine .inr (.inl ⟨⟨c,xk,yk,key,hf,kh,0,0,0,A,kp,kq,elq⟩,[],⟨⟨hV,hL⟩,hH2,hkh,hva,hkq,hel⟩,rfl,kp_,rfl,rfl,fun u hu=>?_⟩)
      repeat (first | refine⟨fun _=>?_,fun h=>Bool.noConfusion h⟩ | refine⟨fun h=>Bool.noConfusion h,fun _=>?_⟩ | refine⟨⟨by first | exact Nat.le_refl _ | omega | fail,by first | omega | (dsimp only;omega) | fail,by first | omega | (dsimp only;omega) | fail⟩,?_⟩ | refine⟨fun q=>absurd q (by first | (simp[eqCs,eqC1];done) | fail),fun _=>?_⟩ | refine⟨fun _=>?_,fun q=>absurd q (by first | omega | (simp[-List.getD_eq_getElem?_getD];done) | (simp[-List.getD_eq_getElem?_getD];omega) | fail)⟩ | refine⟨fun q=>absurd q (by first | omega | (simp[-List.getD_eq_getElem?_getD];done) | (simp[-List.getD_eq_getElem?_getD];omega) | fail),fun _=>?_⟩ | fail)
      exact⟨(.keep hf),[],hH,rfl,rfl,rfl,kp_⟩
     ·exact absurd hy1.2 hy2.1.2
    ·repeat (first | refine⟨fun _=>?_,fun h=>Bool.noConfusion h⟩ | refine⟨fun h=>Bool.noConfusion h,fun _=>?_⟩ | fail)
     refine⟨kp_,?_⟩
     refine .inr (.inl ⟨⟨c,xk,yk,key,hf,kh,xs,(st.running % (xs.length:Int)).toNat,_,nb,(xs.getD (st.running % (xs.length:Int)).toNat aZ).tick,(xs.getD (st.running % (xs.length:Int)).toNat aZ).parent,(xs.getD (st.running % (xs.length:Int)).toNat aZ).sum,A,kp,kq,elq⟩,[],⟨⟨hV,hL⟩,hH,hkh⟩,rfl,kp_,rfl,rfl,fun y2 hy2=>?_⟩)
     rcases y2 with _ | _ | ⟨k2,el2⟩
     ·exact absurd hy1.1 hy2
     ·exact absurd hy2.2 hy1.2
     ·repeat (first | refine⟨fun _=>?_,fun h=>Bool.noConfusion h⟩ | refine⟨fun h=>Bool.noConfusion h,fun _=>?_⟩ | fail)
      obtain⟨hv2,hq2,he2⟩:=hy2
      replace hv2:=hv2.1
      refine .inr (.inl ⟨⟨c,xk,yk,key,(dlF (xs.getD (st.running % (xs.length:Int)).toNat aZ).routes hf c.tenants.length),kh,0,0,0,(⟨nb,(xs.getD (st.running % (xs.length:Int)).toNat aZ).tick,(xs.getD (st.running % (xs.length:Int)).toNat aZ).routes,(xs.getD (st.running % (xs.length:Int)).toNat aZ).parent,(xs.getD (st.running % (xs.length:Int)).toNat aZ).sum⟩:Atl),k1,k2,el2⟩,[(52,100),(53,101)],⟨⟨hV,hL⟩,hH.del _ _,hkh,hv2,hq2,he2⟩,rfl,kp_,rfl,rfl,fun u hu=>?_⟩)
      repeat (first | refine⟨fun _=>?_,fun h=>Bool.noConfusion h⟩ | refine⟨fun h=>Bool.noConfusion h,fun _=>?_⟩ | refine⟨⟨by first | exact Nat.le_refl _ | omega | fail,by first | omega | (dsimp only;omega) | fail,by first | omega | (dsimp only;omega) | fail⟩,?_⟩ | refine⟨fun q=>absurd q (by first | (simp[eqCs,eqC1];done) | fail),fun _=>?_⟩ | refine⟨fun _=>?_,fun q=>absurd q (by first | omega | (simp[-List.getD_eq_getElem?_getD];done) | (simp[-List.getD_eq_getElem?_getD];omega) | fail)⟩ | refine⟨fun q=>absurd q (by first | omega | (simp[-List.getD_eq_getElem?_getD];done) | (simp[-List.getD_eq_getElem?_getD];omega) | fail),fun _=>?_⟩ | fail)
      exact⟨(.new (dlF (xs.getD (st.running % (xs.length:Int)).toNat aZ).routes hf c.tenants.length) (⟨nb,(xs.getD (st.running % (xs.length:Int)).toNat aZ).tick,(xs.getD (st.running % (xs.length:Int)).toNat aZ).routes,(xs.getD (st.running % (xs.length:Int)).toNat aZ).parent,(xs.getD (st.running % (xs.length:Int)).toNat aZ).sum⟩:Atl) k1 k2 el2),[(54,100),(55,101)],⟨hH.del _ _,hv2,hq2,he2⟩,rfl,rfl,rfl,kp_⟩
  ·refine⟨fun _=>?_,fun _=>?_⟩
   ·refine .inr ⟨⟨c,xk,yk,key,hf,kh,st.running,st.wanted,st.since,A,kp,kq,elq⟩,[],⟨⟨hV,hL⟩,hH,hkh,hva,hkq,hel⟩,rfl,kp_,rfl,rfl,fun y1 hy1=>?_⟩
    cases y1
    ·refine⟨kp_,?_⟩
     repeat (first | refine⟨fun _=>?_,fun h=>Bool.noConfusion h⟩ | refine⟨fun h=>Bool.noConfusion h,fun _=>?_⟩ | refine⟨⟨by first | exact Nat.le_refl _ | omega | fail,by first | omega | (dsimp only;omega) | fail,by first | omega | (dsimp only;omega) | fail⟩,?_⟩ | refine⟨fun q=>absurd q (by first | (simp[eqCs,eqC1];done) | fail),fun _=>?_⟩ | refine⟨fun _=>?_,fun q=>absurd q (by first | omega | (simp[-List.getD_eq_getElem?_getD];done) | (simp[-List.getD_eq_getElem?_getD];omega) | fail)⟩ | refine⟨fun q=>absurd q (by first | omega | (simp[-List.getD_eq_getElem?_getD];done) | (simp[-List.getD_eq_getElem?_getD];omega) | fail),fun _=>?_⟩ | fail)
     refine .inr (.inl ⟨⟨c,xk,yk,key,hf,kh,st.running,st.wanted,st.since,A,kp,kq,elq⟩,[],⟨⟨hV,hL⟩,hH,hkh,hva,hkq,hel⟩,rfl,kp_,rfl,rfl,fun y2 hy2=>?_⟩)
     cases y2
     ·repeat (first | refine⟨fun _=>?_,fun h=>Bool.noConfusion h⟩ | refine⟨fun h=>Bool.noConfusion h,fun _=>?_⟩ | fail)
      have hH2:=hH
      refine .inr (.inl ⟨⟨c,xk,yk,key,hf,kh,0,0,0,A,kp,kq,elq⟩,[],⟨⟨hV,hL⟩,hH2,hkh,hva,hkq,hel⟩,rfl,kp_,rfl,rfl,fun u hu=>?_⟩)
      repeat (first | refine⟨fun _=>?_,fun h=>Bool.noConfusion h⟩ | refine⟨fun h=>Bool.noConfusion h,fun _=>?_⟩ | refine⟨⟨by first | exact Nat.le_refl _ | omega | fail,by first | omega | (dsimp only;omega) | fail,by first | omega | (dsimp only;omega) | fail⟩,?_⟩ | refine⟨fun q=>absurd q (by first | (simp[eqCs,eqC1];done) | fail),fun _=>?_⟩ | refine⟨fun _=>?_,fun q=>absurd q (by first | omega | (simp[-List.getD_eq_getElem?_getD];done) | (simp[-List.getD_eq_getElem?_getD];omega) | fail)⟩ | refine⟨fun q=>absurd q (by first | omega | (simp[-List.getD_eq_getElem?_getD];done) | (simp[-List.getD_eq_getElem?_getD];omega) | fail),fun _=>?_⟩ | fail)
      exact⟨(.keep hf),[],hH,rfl,rfl,rfl,kp_⟩
     ·exact absurd hy2 hy1
    ·refine⟨kp_,?_⟩
     repeat (first | refine⟨fun _=>?_,fun h=>Bool.noConfusion h⟩ | refine⟨fun h=>Bool.noConfusion h,fun _=>?_⟩ | refine⟨⟨by first | exact Nat.le_refl _ | omega | fail,by first | omega | (dsimp only;omega) | fail,by first | omega | (dsimp only;omega) | fail⟩,?_⟩ | refine⟨fun q=>absurd q (by first | (simp[eqCs,eqC1];done) | fail),fun _=>?_⟩ | refine⟨fun _=>?_,fun q=>absurd q (by first | omega | (simp[-List.getD_eq_getElem?_getD];done) | (simp[-List.getD_eq_getElem?_getD];omega) | fail)⟩ | refine⟨fun q=>absurd q (by first | omega | (simp[-List.getD_eq_getElem?_getD];done) | (simp[-List.getD_eq_getElem?_getD];omega) | fail),fun _=>?_⟩ | fail)
     refine .inr (.inl ⟨⟨c,xk,yk,key,hf,kh,st.running,st.wanted,st.since,A,kp,kq,elq⟩,[],⟨⟨hV,hL⟩,hH,hkh,hva,hkq,hel⟩,rfl,kp_,rfl,rfl,fun y2 hy2=>?_⟩)
     cases y2
     ·exact absurd hy1 hy2
     ·repeat (first | refine⟨fun _=>?_,fun h=>Bool.noConfusion h⟩ | refine⟨fun h=>Bool.noConfusion h,fun _=>?_⟩ | fail)
      have hH2:HfOk c.tenants.length (stF hf (st.running).toNat (st.wanted,st.since)):=hH.set (knownE_pos hH hy1.1 (fun h=>(hva.rt h).2) hy1.2.2.2)
      refine .inr (.inl ⟨⟨c,xk,yk,key,(stF hf (st.running).toNat (st.wanted,st.since)),kh,0,0,0,A,kp,kq,elq⟩,[],⟨⟨hV,hL⟩,hH2,hkh,hva,hkq,hel⟩,rfl,kp_,rfl,rfl,fun u hu=>?_⟩)
      repeat (first | refine⟨fun _=>?_,fun h=>Bool.noConfusion h⟩ | refine⟨fun h=>Bool.noConfusion h,fun _=>?_⟩ | refine⟨⟨by first | exact Nat.le_refl _ | omega | fail,by first | omega | (dsimp only;omega) | fail,by first | omega | (dsimp only;omega) | fail⟩,?_⟩ | refine⟨fun q=>absurd q (by first | (simp[eqCs,eqC1];done) | fail),fun _=>?_⟩ | refine⟨fun _=>?_,fun q=>absurd q (by first | omega | (simp[-List.getD_eq_getElem?_getD];done) | (simp[-List.getD_eq_getElem?_getD];omega) | fail)⟩ | refine⟨fun q=>absurd q (by first | omega | (simp[-List.getD_eq_getElem?_getD];done) | (simp[-List.getD_eq_getElem?_getD];omega) | fail),fun _=>?_⟩ | fail)
      exact⟨(.keep (stF hf (st.running).toNat (st.wanted,st.since))),[],hH2,rfl,rfl,rfl,kp_⟩
   ·refine⟨_,_,_,rfl,⟨by decide,by decide⟩,fun t5 ht5=>?_⟩
    refine⟨kp_,?_⟩
    refine⟨_,_,_,rfl,⟨by decide,by decide⟩,fun x5 hx5=>?_⟩
    refine⟨kp_,?_⟩
    refine⟨_,_,_,rfl,⟨by decide,by decide⟩,fun e5 he5=>?_⟩
    refine .inr ⟨⟨c,xk,yk,key,hf,kh,t5,x5,e5,A,kp,kq,elq⟩,[],⟨⟨hV,hL⟩,hH,hkh,hva,hkq,hel⟩,rfl,kp_,rfl,rfl,fun y1 hy1=>?_⟩
    cases y1
    ·repeat (first | refine⟨fun _=>?_,fun h=>Bool.noConfusion h⟩ | refine⟨fun h=>Bool.noConfusion h,fun _=>?_⟩ | fail)
     refine .inr (.inl ⟨⟨c,xk,yk,key,hf,kh,t5,x5,e5,A,kp,kq,elq⟩,[],⟨⟨hV,hL⟩,hH,hkh,hva,hkq,hel⟩,rfl,kp_,rfl,rfl,fun y2 hy2=>?_⟩)
     cases y2
     ·repeat (first | refine⟨fun _=>?_,fun h=>Bool.noConfusion h⟩ | refine⟨fun h=>Bool.noConfusion h,fun _=>?_⟩ | fail)
      have hH2:=hH
      refine .inr (.inl ⟨⟨c,xk,yk,key,hf,kh,0,0,0,A,kp,kq,elq⟩,[],⟨⟨hV,hL⟩,hH2,hkh,hva,hkq,hel⟩,rfl,kp_,rfl,rfl,fun u hu=>?_⟩)
      repeat (first | refine⟨fun _=>?_,fun h=>Bool.noConfusion h⟩ | refine⟨fun h=>Bool.noConfusion h,fun _=>?_⟩ | refine⟨⟨by first | exact Nat.le_refl _ | omega | fail,by first | omega | (dsimp only;omega) | fail,by first | omega | (dsimp only;omega) | fail⟩,?_⟩ | refine⟨fun q=>absurd q (by first | (simp[eqCs,eqC1];done) | fail),fun _=>?_⟩ | refine⟨fun _=>?_,fun q=>absurd q (by first | omega | (simp[-List.getD_eq_getElem?_getD];done) | (simp[-List.getD_eq_getElem?_getD];omega) | fail)⟩ | refine⟨fun q=>absurd q (by first | omega | (simp[-List.getD_eq_getElem?_getD];done) | (simp[-List.getD_eq_getElem?_getD];omega) | fail),fun _=>?_⟩ | fail)
      exact⟨(.keep hf),[],hH,rfl,rfl,rfl,kp_⟩
     ·exact absurd hy2 hy1
    ·repeat (first | refine⟨fun _=>?_,fun h=>Bool.noConfusion h⟩ | refine⟨fun h=>Bool.noConfusion h,fun _=>?_⟩ | fail)
     refine .inr (.inl ⟨⟨c,xk,yk,key,hf,kh,t5,x5,e5,A,kp,kq,elq⟩,[],⟨⟨hV,hL⟩,hH,hkh,hva,hkq,hel⟩,rfl,kp_,rfl,rfl,fun y2 hy2=>?_⟩)
     cases y2
     ·exact absurd hy1 hy2
     ·repeat (first | refine⟨fun _=>?_,fun h=>Bool.noConfusion h⟩ | refine⟨fun h=>Bool.noConfusion h,fun _=>?_⟩ | fail)
      have hH2:HfOk c.tenants.length (stF hf (t5).toNat (x5,e5)):=hH.set (knownE_pos hH hy1.1 (fun h=>(hva.rt h).2) hy1.2.2.2)
      refine .inr (.inl ⟨⟨c,xk,yk,key,(stF hf (t5).toNat (x5,e5)),kh,0,0,0,A,kp,kq,elq⟩,[],⟨⟨hV,hL⟩,hH2,hkh,hva,hkq,hel⟩,rfl,kp_,rfl,rfl,fun u hu=>?_⟩)
      repeat (first | refine⟨fun _=>?_,fun h=>Bool.noConfusion h⟩ | refine⟨fun h=>Bool.noConfusion h,fun _=>?_⟩ | refine⟨⟨by first | exact Nat.le_refl _ | omega | fail,by first | omega | (dsimp only;omega) | fail,by first | omega | (dsimp only;omega) | fail⟩,?_⟩ | refine⟨fun q=>absurd q (by first | (simp[eqCs,eqC1];done) | fail),fun _=>?_⟩ | refine⟨fun _=>?_,fun q=>absurd q (by first | omega | (simp[-List.getD_eq_getElem?_getD];done) | (simp[-List.getD_eq_getElem?_getD];omega) | fail)⟩ | refine⟨fun q=>absurd q (by first | omega | (simp[-List.getD_eq_getElem?_getD];done) | (simp[-List.getD_eq_getElem?_getD];omega) | fail),fun _=>?_⟩ | fail)
      exact⟨(.keep (stF hf (t5).toNat (x5,e5))),[],hH2,rfl,rfl,rfl,kp_⟩
theorem boSOk:CSound Tryz.prog 15 ctBoS:=ctObj_ok (F:=[(56,ctMod),(38,ctBwG),(57,ctTkP),(58,ctTkQ),(35,ctLnP),(60,ctLnQ2),(59,ctSigned),(13,ctSm)]) (D:=boDBoS) ttPok (fti_cons (modOk.i _) (fti_cons (bwGOk.i _) (fti_cons (tkPOk.i _) (fti_cons (tkQOk.i _) (fti_cons (lnPOk.i _) (fti_cons (lnQ2Ok.i _) (fti_cons (signedOk.i _) (fti_cons (smOk.i _) fti_nil)))))))) mixed (by kernel_rfl) Tryz.func15 rfl (by kernel_rfl) (fun x=>by cases x;rfl) (fun x=>by cases x;rfl) (fun x y=>by cases x;cases y<;>rfl) (fun x hx=>by cases x;exact boS_sx _ _ _ _ _ _ _ _ _ _ _ _ _ _ hx)
/-! law16.RouterPlays -/
def ctBo:CT:=fun vs mem nx K=>ctBoN vs mem nx K∨(ctBoS vs mem nx K∨ctBoE vs mem nx K)
theorem boOk:CSound Tryz.prog 15 ctBo:=cs_or boNOk (cs_or boSOk boEOk)
/-! maps.Clone,by contract. -/
set_option maxHeartbeats 4000000 in
set_option maxRecDepth 100000 in
theorem cloneM_any (b:Nat) (es:Array MapEntry) (clock:Nat) (w:World) (hb:w.heap[b]?=some (.map es clock)) :
  Calls Tryz.prog 62 #[.map (some b)] w fun e w'=>e=.returned (.map (some w.heap.size))∧w'=w.alloc (.map es clock):=by
 have hq:=fun w=>run_eql_map_nil_sl (P:=Tryz.prog) w 108 _ _ (some b) mapU
 go_enter Tryz.func62,Tryz.ntmps62
 go_wp2
 rw[run_callFunc_extern Tryz.func92 (by kernel_rfl) (by kernel_rfl) (by kernel_rfl) (e:=Extern.MapsClone.clone) (by kernel_rfl),run_maps_clone_sl w 108 hb]
 simp only[Result.andThen]
 rw[Oper.upon_value]
 go_wp2
 rw[run_typeAssert_map_sl _ 108 _ _ _ _ mapU]
 simp only[Result.andThen]
 rw[Oper.upon_value]
 go_wp2
 go_ret
 exact⟨rfl,rfl⟩
def ctCloneM:CT:=fun vs mem nx K=>∃ h kk ag f,vs=[.map (some h)]∧lk mem h=some (.ext (.map kk ag f))∧K (.map (some nx)) ((nx,.ext (.map kk ag f))::mem) (nx+1)
theorem cloneMOk:CSound Tryz.prog 62 ctCloneM:=⟨by kernel_rfl,fun {C ρ fr mem nx a w vs K} hc hs hv=>by
 obtain⟨h,kk,ag,f,rfl,hl,hK⟩:=hc
 obtain⟨g,es,cl,e1,e2,hbor,hM⟩:=hs.blk h _ (lk_app (r:=C.fm) hl)
 have e3:([.map (some h)].map (den ρ)).toArray=#[.map (some g)]:=by
  have:(ρ h).A.map (·.block)=some g:=by rw[e1];rfl
  simp[den,den2,den1,this]
 rw[e3]
 refine (cloneM_any g es cl w e2).mono ?_
 rintro e w' ⟨rfl,rfl⟩
 have hs2:=hs.addX (w':=w.alloc (.map es cl)) (b:=.ext (.map kk ag f)) (p:=⟨some ⟨w.heap.size,0,none⟩,0,0,false,noSub⟩) ((Below.refl _ _).alloc (Nat.le_refl _) _)
  ⟨w.heap.size,es,cl,by rw[setPl_same],(by show (w.heap.push _)[w.heap.size]?=_;rw[Array.getElem?_push_size]),.inl hs.rest.size,hM⟩
  (fun g hg=>by
   have hg':bno _ nx=some g:=hg
   unfold bno at hg'
   rw[setPl_same] at hg'
   simp at hg'
   omega) rfl
 have e4:den (setPl ρ nx ⟨some ⟨w.heap.size,0,none⟩,0,0,false,noSub⟩) (.map (some nx))=.map (some w.heap.size):=by
  show Value.map ((setPl ρ nx _ nx).A.map (·.block))=_
  rw[setPl_same];rfl
 exact⟨.map (some nx),_,_,_,by rw[e4],hK,hs2,⟨⟨Nat.lt_succ_self _,by rw[setPl_same]⟩,w.heap.size,0,by rw[setPl_same]⟩,ExtS.set _ _ _⟩⟩
/-! Copy. -/
inductive CY where
 | mk (kh kq:Nat) (el:Nat→List Value)
def vsCpPN:LX→List Value:=fun x=>match x with | ⟨c,xk,yk,key,hf,kh,t,x,e,A,kp,kq,elq⟩=>[ptr 28]
def mCpPN:LX→AM:=fun x=>match x with | ⟨c,xk,yk,key,hf,kh,t,x,e,A,kp,kq,elq⟩=>[(28,.box 114 [.int .i64 c.regions,slc 21 c.zones.length yk.cz,slc 22 c.cells.length yk.cc,slc 23 c.tenants.length yk.ct,slc 24 c.versions.length yk.cv,slc 25 c.replicas.length yk.cr,slc 26 c.observers.length yk.co,.int .i64 c.blast,.int .i64 c.lease,.int .i64 c.bake,.int .i64 key,.bool false,.int .i64 0,.int .i64 0,zs0,.int .u64 0,.int .u64 0,.map (some 27)]),(27,.ext (.map .i64 true (hintF (hmOf c.tenants.length hf))))]
def preCpPN:LX→Prop:=fun x=>match x with | ⟨c,xk,yk,key,hf,kh,t,x,e,A,kp,kq,elq⟩=>(CfgV c∧Lens c)∧HfOk c.tenants.length hf
def postCpPN:LX→CY→Prop:=fun x y=>match x with | ⟨c,xk,yk,key,hf,kh,t,x,e,A,kp,kq,elq⟩=>match y with | _=>True
def VCpPN:LX→CY→Value:=fun x y=>match x with | ⟨c,xk,yk,key,hf,kh,t,x,e,A,kp,kq,elq⟩=>match y with | _=>ptr 54
def MCpPN:LX→CY→AM:=fun x y=>match x with | ⟨c,xk,yk,key,hf,kh,t,x,e,A,kp,kq,elq⟩=>match y with | .mk kp2 _ _=>[(28,.box 114 [.int .i64 c.regions,slc 21 c.zones.length yk.cz,slc 22 c.cells.length yk.cc,slc 23 c.tenants.length yk.ct,slc 24 c.versions.length yk.cv,slc 25 c.replicas.length yk.cr,slc 26 c.observers.length yk.co,.int .i64 c.blast,.int .i64 c.lease,.int .i64 c.bake,.int .i64 key,.bool false,.int .i64 0,.int .i64 0,zs0,.int .u64 0,.int .u64 0,.map (some 27)]),(27,.ext (.map .i64 true (hintF (hmOf c.tenants.length hf)))),(54,.box 114 [.int .i64 c.regions,slc 21 c.zones.length yk.cz,slc 22 c.cells.length yk.cc,slc 23 c.tenants.length yk.ct,slc 24 c.versions.length yk.cv,slc 25 c.replicas.length yk.cr,slc 26 c.observers.length yk.co,.int .i64 c.blast,.int .i64 c.lease,.int .i64 c.bake,.int .i64 key,.bool false,.int .i64 0,.int .i64 0,zs0,.int .u64 0,.int .u64 0,.map (some 55)]),(55,.ext (.map .i64 true (hintF (hmOf c.tenants.length hf))))]
def ctCpPN:CT:=ctObj vsCpPN mCpPN 54 preCpPN postCpPN VCpPN MCpPN 3
set_option maxRecDepth 100000 in
set_option maxHeartbeats 400000000 in
theorem cpPN_sx (c:Cfg) (xk yk:CfgK) (key:Int) (hf:HF) (kh:Nat) (t x e:Int) (A:Atl) (kp kq:Nat) (elq:Nat→List Value) (hp:(CfgV c∧Lens c)∧HfOk c.tenants.length hf) :
  sx ttP [(61,ctCkNil),(62,ctCloneM)] [] (bodyOf Tryz.f16) (argF 0 [ptr 28]) [(28,.box 114 [.int .i64 c.regions,slc 21 c.zones.length yk.cz,slc 22 c.cells.length yk.cc,slc 23 c.tenants.length yk.ct,slc 24 c.versions.length yk.cv,slc 25 c.replicas.length yk.cr,slc 26 c.observers.length yk.co,.int .i64 c.blast,.int .i64 c.lease,.int .i64 c.bake,.int .i64 key,.bool false,.int .i64 0,.int .i64 0,zs0,.int .u64 0,.int .u64 0,.map (some 27)]),(27,.ext (.map .i64 true (hintF (hmOf c.tenants.length hf))))] 54 (endx ttP Tryz.f16.results.toList (objR 54 (postCpPN ⟨c,xk,yk,key,hf,kh,t,x,e,A,kp,kq,elq⟩) (VCpPN ⟨c,xk,yk,key,hf,kh,t,x,e,A,kp,kq,elq⟩) (MCpPN ⟨c,xk,yk,key,hf,kh,t,x,e,A,kp,kq,elq⟩))):=by
 obtain⟨⟨hV,hL⟩,hH⟩:=hp
 have hnt:=hV.nt
 have hnc:=hV.nc
 refine .inl ⟨rfl,?_⟩
 refine⟨27,_,_,_,rfl,rfl,?_⟩
 exact⟨.mk 0 0 elq,[],trivial,rfl,rfl,rfl,kp_⟩
theorem cpPNOk:CSound Tryz.prog 16 ctCpPN:=ctObj_ok (F:=[(61,ctCkNil),(62,ctCloneM)]) (D:=[]) ttPok (fti_cons (ckNilOk.i _) (fti_cons (cloneMOk.i _) fti_nil)) mixed (by kernel_rfl) Tryz.func16 rfl (by kernel_rfl) (fun x=>by cases x;rfl) (fun x=>by cases x;rfl) (fun x y=>by cases x;cases y<;>rfl) (fun x hx=>by cases x;exact cpPN_sx _ _ _ _ _ _ _ _ _ _ _ _ _ hx)
def vsCpPS:LX→List Value:=fun x=>match x with | ⟨c,xk,yk,key,hf,kh,t,x,e,A,kp,kq,elq⟩=>[ptr 28]
def mCpPS:LX→AM:=fun x=>match x with | ⟨c,xk,yk,key,hf,kh,t,x,e,A,kp,kq,elq⟩=>[(28,.box 114 [.int .i64 c.regions,slc 21 c.zones.length yk.cz,slc 22 c.cells.length yk.cc,slc 23 c.tenants.length yk.ct,slc 24 c.versions.length yk.cv,slc 25 c.replicas.length yk.cr,slc 26 c.observers.length yk.co,.int .i64 c.blast,.int .i64 c.lease,.int .i64 c.bake,.int .i64 key,.bool true,.int .i64 A.number,.int .i64 A.tick,slc 52 A.routes.length kp,.int .u64 A.parent,.int .u64 A.sum,.map (some 27)]),(27,.ext (.map .i64 true (hintF (hmOf c.tenants.length hf)))),(52,rowOfL 0 2 pairC (0,0) A.routes)]
def preCpPS:LX→Prop:=fun x=>match x with | ⟨c,xk,yk,key,hf,kh,t,x,e,A,kp,kq,elq⟩=>(CfgV c∧Lens c)∧HfOk c.tenants.length hf∧(ValidA c A key∧A.routes.length≤kq∧∀ k,k<A.routes.length→elq k=pairC (A.routes.getD k (0,0)))
def postCpPS:LX→CY→Prop:=fun x y=>match x with | ⟨c,xk,yk,key,hf,kh,t,x,e,A,kp,kq,elq⟩=>match y with | _=>True
def VCpPS:LX→CY→Value:=fun x y=>match x with | ⟨c,xk,yk,key,hf,kh,t,x,e,A,kp,kq,elq⟩=>match y with | _=>ptr 54
def MCpPS:LX→CY→AM:=fun x y=>match x with | ⟨c,xk,yk,key,hf,kh,t,x,e,A,kp,kq,elq⟩=>match y with | .mk kp2 _ _=>[(28,.box 114 [.int .i64 c.regions,slc 21 c.zones.length yk.cz,slc 22 c.cells.length yk.cc,slc 23 c.tenants.length yk.ct,slc 24 c.versions.length yk.cv,slc 25 c.replicas.length yk.cr,slc 26 c.observers.length yk.co,.int .i64 c.blast,.int .i64 c.lease,.int .i64 c.bake,.int .i64 key,.bool true,.int .i64 A.number,.int .i64 A.tick,slc 52 A.routes.length kp,.int .u64 A.parent,.int .u64 A.sum,.map (some 27)]),(27,.ext (.map .i64 true (hintF (hmOf c.tenants.length hf)))),(54,.box 114 [.int .i64 c.regions,slc 21 c.zones.length yk.cz,slc 22 c.cells.length yk.cc,slc 23 c.tenants.length yk.ct,slc 24 c.versions.length yk.cv,slc 25 c.replicas.length yk.cr,slc 26 c.observers.length yk.co,.int .i64 c.blast,.int .i64 c.lease,.int .i64 c.bake,.int .i64 key,.bool true,.int .i64 A.number,.int .i64 A.tick,slc 56 A.routes.length kp2,.int .u64 A.parent,.int .u64 A.sum,.map (some 55)]),(55,.ext (.map .i64 true (hintF (hmOf c.tenants.length hf)))),(56,rowOfL 500000 2 pairC (0,0) A.routes)]
def ctCpPS:CT:=ctObj vsCpPS mCpPS 54 preCpPS postCpPS VCpPS MCpPS 3
set_option maxRecDepth 100000 in
set_option maxHeartbeats 400000000 in
theorem cpPS_sx (c:Cfg) (xk yk:CfgK) (key:Int) (hf:HF) (kh:Nat) (t x e:Int) (A:Atl) (kp kq:Nat) (elq:Nat→List Value) (hp:(CfgV c∧Lens c)∧HfOk c.tenants.length hf∧(ValidA c A key∧A.routes.length≤kq∧∀ k,k<A.routes.length→elq k=pairC (A.routes.getD k (0,0)))) :
  sx ttP [(61,ctCkNil),(62,ctCloneM)] [] (bodyOf Tryz.f16) (argF 0 [ptr 28]) [(28,.box 114 [.int .i64 c.regions,slc 21 c.zones.length yk.cz,slc 22 c.cells.length yk.cc,slc 23 c.tenants.length yk.ct,slc 24 c.versions.length yk.cv,slc 25 c.replicas.length yk.cr,slc 26 c.observers.length yk.co,.int .i64 c.blast,.int .i64 c.lease,.int .i64 c.bake,.int .i64 key,.bool true,.int .i64 A.number,.int .i64 A.tick,slc 52 A.routes.length kp,.int .u64 A.parent,.int .u64 A.sum,.map (some 27)]),(27,.ext (.map .i64 true (hintF (hmOf c.tenants.length hf)))),(52,rowOfL 0 2 pairC (0,0) A.routes)] 54 (endx ttP Tryz.f16.results.toList (objR 54 (postCpPS ⟨c,xk,yk,key,hf,kh,t,x,e,A,kp,kq,elq⟩) (VCpPS ⟨c,xk,yk,key,hf,kh,t,x,e,A,kp,kq,elq⟩) (MCpPS ⟨c,xk,yk,key,hf,kh,t,x,e,A,kp,kq,elq⟩))):=by
 obtain⟨⟨hV,hL⟩,hH⟩:=hp
 have hnt:=hV.nt
 have hnc:=hV.nc
 obtain⟨hH,hva,hkq,hel⟩:=hH
 have hal:=hva.len
 refine .inr ⟨_,A.routes,rfl,.inr (.inl ⟨52,_,rfl,.list rfl⟩),by omega,fun kp2=>?_⟩
 refine⟨27,_,_,_,rfl,rfl,?_⟩
 exact⟨(.mk kp2 0 elq),[(55,56),(56,55)],trivial,rfl,rfl,rfl,kp_⟩
theorem cpPSOk:CSound Tryz.prog 16 ctCpPS:=ctObj_ok (F:=[(61,ctCkNil),(62,ctCloneM)]) (D:=[]) ttPok (fti_cons (ckNilOk.i _) (fti_cons (cloneMOk.i _) fti_nil)) mixed (by kernel_rfl) Tryz.func16 rfl (by kernel_rfl) (fun x=>by cases x;rfl) (fun x=>by cases x;rfl) (fun x y=>by cases x;cases y<;>rfl) (fun x hx=>by cases x;exact cpPS_sx _ _ _ _ _ _ _ _ _ _ _ _ _ hx)
def ctCpP2:CT:=fun vs mem nx K=>ctCpPN vs mem nx K∨ctCpPS vs mem nx K
theorem cpP2Ok:CSound Tryz.prog 16 ctCpP2:=cs_or cpPNOk cpPSOk
def vsCpQN:LX→List Value:=fun x=>match x with | ⟨c,xk,yk,key,hf,kh,t,x,e,A,kp,kq,elq⟩=>[ptr 31]
def mCpQN:LX→AM:=fun x=>match x with | ⟨c,xk,yk,key,hf,kh,t,x,e,A,kp,kq,elq⟩=>[(31,.box 116 [.int .i64 c.regions,slc 18 c.zones.length xk.cz,slc 17 c.cells.length xk.cc,slc 16 c.tenants.length xk.ct,slc 15 c.versions.length xk.cv,slc 14 c.replicas.length xk.cr,slc 13 c.observers.length xk.co,.int .i64 c.blast,.int .i64 c.lease,.int .i64 c.bake,.int .i64 key,.bool false,.int .i64 0,.int .i64 0,zs0,.int .u64 0,.int .u64 0,slc 30 c.tenants.length kh]),(30,.row (1000000+92) 2 kh (fun k=>pairC (hf k)))]
def preCpQN:LX→Prop:=fun x=>match x with | ⟨c,xk,yk,key,hf,kh,t,x,e,A,kp,kq,elq⟩=>(CfgV c∧Lens c)∧HfOk c.tenants.length hf∧c.tenants.length≤kh
def postCpQN:LX→CY→Prop:=fun x y=>match x with | ⟨c,xk,yk,key,hf,kh,t,x,e,A,kp,kq,elq⟩=>match y with | .mk kh2 kq2 el2=>c.tenants.length≤kh2
def VCpQN:LX→CY→Value:=fun x y=>match x with | ⟨c,xk,yk,key,hf,kh,t,x,e,A,kp,kq,elq⟩=>match y with | _=>ptr 54
def MCpQN:LX→CY→AM:=fun x y=>match x with | ⟨c,xk,yk,key,hf,kh,t,x,e,A,kp,kq,elq⟩=>match y with | .mk kh2 kq2 el2=>[(31,.box 116 [.int .i64 c.regions,slc 18 c.zones.length xk.cz,slc 17 c.cells.length xk.cc,slc 16 c.tenants.length xk.ct,slc 15 c.versions.length xk.cv,slc 14 c.replicas.length xk.cr,slc 13 c.observers.length xk.co,.int .i64 c.blast,.int .i64 c.lease,.int .i64 c.bake,.int .i64 key,.bool false,.int .i64 0,.int .i64 0,zs0,.int .u64 0,.int .u64 0,slc 30 c.tenants.length kh]),(30,.row (1000000+92) 2 kh (fun k=>pairC (hf k))),(54,.box 116 [.int .i64 c.regions,slc 18 c.zones.length xk.cz,slc 17 c.cells.length xk.cc,slc 16 c.tenants.length xk.ct,slc 15 c.versions.length xk.cv,slc 14 c.replicas.length xk.cr,slc 13 c.observers.length xk.co,.int .i64 c.blast,.int .i64 c.lease,.int .i64 c.bake,.int .i64 key,.bool false,.int .i64 0,.int .i64 0,slc 56 0 0,.int .u64 0,.int .u64 0,slc 55 c.tenants.length kh2]),(55,.row (1000000+92) 2 kh2 (fun k=>pairC ((ctF c.tenants.length hf) k))),(56,.row (1000000+92) 2 0 el2)]
def ctCpQN:CT:=ctObj vsCpQN mCpQN 54 preCpQN postCpQN VCpQN MCpQN 3
set_option maxRecDepth 100000 in
set_option maxHeartbeats 400000000 in
theorem cpQN_sx (c:Cfg) (xk yk:CfgK) (key:Int) (hf:HF) (kh:Nat) (t x e:Int) (A:Atl) (kp kq:Nat) (elq:Nat→List Value) (hp:(CfgV c∧Lens c)∧HfOk c.tenants.length hf∧c.tenants.length≤kh) :
  sx ttP [] [] (bodyOf Tryz.f17) (argF 0 [ptr 31]) [(31,.box 116 [.int .i64 c.regions,slc 18 c.zones.length xk.cz,slc 17 c.cells.length xk.cc,slc 16 c.tenants.length xk.ct,slc 15 c.versions.length xk.cv,slc 14 c.replicas.length xk.cr,slc 13 c.observers.length xk.co,.int .i64 c.blast,.int .i64 c.lease,.int .i64 c.bake,.int .i64 key,.bool false,.int .i64 0,.int .i64 0,zs0,.int .u64 0,.int .u64 0,slc 30 c.tenants.length kh]),(30,.row (1000000+92) 2 kh (fun k=>pairC (hf k)))] 54 (endx ttP Tryz.f17.results.toList (objR 54 (postCpQN ⟨c,xk,yk,key,hf,kh,t,x,e,A,kp,kq,elq⟩) (VCpQN ⟨c,xk,yk,key,hf,kh,t,x,e,A,kp,kq,elq⟩) (MCpQN ⟨c,xk,yk,key,hf,kh,t,x,e,A,kp,kq,elq⟩))):=by
 obtain⟨⟨hV,hL⟩,hH⟩:=hp
 have hnt:=hV.nt
 have hnc:=hV.nc
 obtain⟨hH,hkh⟩:=hH
 refine⟨⟨rfl,Nat.le_refl _⟩,fun hin el0 ⟨g1,_⟩ g2=>?_,fun hgt=>absurd hgt (by decide)⟩
 refine⟨⟨hkh,fun k hk=>rfl⟩,?_⟩
 refine⟨⟨rfl,Nat.le_refl _⟩,fun hin2 elh ⟨_,hz⟩ _=>?_,fun hgt2=>⟨by show (0+c.tenants.length) * 16≤140737488355328;omega,fun caph elh ⟨hch,hz⟩ g3 g4=>?_⟩⟩
 ·have hn0:c.tenants.length≤0:=by have:0+c.tenants.length≤0:=hin2;omega
  obtain rfl:elh=fun k=>pairC (ctF c.tenants.length hf k):=ctF_row (m:=c.tenants.length) rfl (fun k hk=>absurd hk (by omega)) (fun k _=>hz k (Nat.zero_le _))
  rw[Nat.zero_add c.tenants.length]
  exact⟨(.mk 0 0 el0),[(56,55),(55,56)],hn0,rfl,rfl,rfl,kp_⟩
 ·have hch2:c.tenants.length≤caph:=by have:0+c.tenants.length≤caph:=hch;omega
  obtain rfl:elh=fun k=>pairC (ctF c.tenants.length hf k):=ctF_row (Nat.zero_add _) (fun k hk=>by have q:=g4 k (by have:k<0+c.tenants.length:=hk;omega);rwa[Nat.zero_add] at q) hz
  rw[Nat.zero_add c.tenants.length]
  exact⟨(.mk caph 0 el0),[(56,55),(55,57)],hch2,rfl,rfl,rfl,kp_⟩
theorem cpQNOk:CSound Tryz.prog 17 ctCpQN:=ctObj_ok (F:=[]) (D:=[]) ttPok (fti_nil) mixed (by kernel_rfl) Tryz.func17 rfl (by kernel_rfl) (fun x=>by cases x;rfl) (fun x=>by cases x;rfl) (fun x y=>by cases x;cases y<;>rfl) (fun x hx=>by cases x;exact cpQN_sx _ _ _ _ _ _ _ _ _ _ _ _ _ hx)
def vsCpQS:LX→List Value:=fun x=>match x with | ⟨c,xk,yk,key,hf,kh,t,x,e,A,kp,kq,elq⟩=>[ptr 31]
def mCpQS:LX→AM:=fun x=>match x with | ⟨c,xk,yk,key,hf,kh,t,x,e,A,kp,kq,elq⟩=>[(31,.box 116 [.int .i64 c.regions,slc 18 c.zones.length xk.cz,slc 17 c.cells.length xk.cc,slc 16 c.tenants.length xk.ct,slc 15 c.versions.length xk.cv,slc 14 c.replicas.length xk.cr,slc 13 c.observers.length xk.co,.int .i64 c.blast,.int .i64 c.lease,.int .i64 c.bake,.int .i64 key,.bool true,.int .i64 A.number,.int .i64 A.tick,slc 53 A.routes.length kq,.int .u64 A.parent,.int .u64 A.sum,slc 30 c.tenants.length kh]),(30,.row (1000000+92) 2 kh (fun k=>pairC (hf k))),(53,.row (1000000+92) 2 kq elq)]
def preCpQS:LX→Prop:=fun x=>match x with | ⟨c,xk,yk,key,hf,kh,t,x,e,A,kp,kq,elq⟩=>(CfgV c∧Lens c)∧HfOk c.tenants.length hf∧c.tenants.length≤kh∧(ValidA c A key∧A.routes.length≤kq∧∀ k,k<A.routes.length→elq k=pairC (A.routes.getD k (0,0)))
def postCpQS:LX→CY→Prop:=fun x y=>match x with | ⟨c,xk,yk,key,hf,kh,t,x,e,A,kp,kq,elq⟩=>match y with | .mk kh2 kq2 el2=>c.tenants.length≤kh2∧A.routes.length≤kq2∧∀ k,k<A.routes.length→el2 k=pairC (A.routes.getD k (0,0))
def VCpQS:LX→CY→Value:=fun x y=>match x with | ⟨c,xk,yk,key,hf,kh,t,x,e,A,kp,kq,elq⟩=>match y with | _=>ptr 54
def MCpQS:LX→CY→AM:=fun x y=>match x with | ⟨c,xk,yk,key,hf,kh,t,x,e,A,kp,kq,elq⟩=>match y with | .mk kh2 kq2 el2=>[(31,.box 116 [.int .i64 c.regions,slc 18 c.zones.length xk.cz,slc 17 c.cells.length xk.cc,slc 16 c.tenants.length xk.ct,slc 15 c.versions.length xk.cv,slc 14 c.replicas.length xk.cr,slc 13 c.observers.length xk.co,.int .i64 c.blast,.int .i64 c.lease,.int .i64 c.bake,.int .i64 key,.bool true,.int .i64 A.number,.int .i64 A.tick,slc 53 A.routes.length kq,.int .u64 A.parent,.int .u64 A.sum,slc 30 c.tenants.length kh]),(30,.row (1000000+92) 2 kh (fun k=>pairC (hf k))),(53,.row (1000000+92) 2 kq elq),(54,.box 116 [.int .i64 c.regions,slc 18 c.zones.length xk.cz,slc 17 c.cells.length xk.cc,slc 16 c.tenants.length xk.ct,slc 15 c.versions.length xk.cv,slc 14 c.replicas.length xk.cr,slc 13 c.observers.length xk.co,.int .i64 c.blast,.int .i64 c.lease,.int .i64 c.bake,.int .i64 key,.bool true,.int .i64 A.number,.int .i64 A.tick,slc 56 A.routes.length kq2,.int .u64 A.parent,.int .u64 A.sum,slc 55 c.tenants.length kh2]),(55,.row (1000000+92) 2 kh2 (fun k=>pairC ((ctF c.tenants.length hf) k))),(56,.row (1000000+92) 2 kq2 el2)]
def ctCpQS:CT:=ctObj vsCpQS mCpQS 54 preCpQS postCpQS VCpQS MCpQS 3
set_option maxRecDepth 100000 in
set_option maxHeartbeats 400000000 in
theorem cpQS_sx (c:Cfg) (xk yk:CfgK) (key:Int) (hf:HF) (kh:Nat) (t x e:Int) (A:Atl) (kp kq:Nat) (elq:Nat→List Value) (hp:(CfgV c∧Lens c)∧HfOk c.tenants.length hf∧c.tenants.length≤kh∧(ValidA c A key∧A.routes.length≤kq∧∀ k,k<A.routes.length→elq k=pairC (A.routes.getD k (0,0)))) :
  sx ttP [] [] (bodyOf Tryz.f17) (argF 0 [ptr 31]) [(31,.box 116 [.int .i64 c.regions,slc 18 c.zones.length xk.cz,slc 17 c.cells.length xk.cc,slc 16 c.tenants.length xk.ct,slc 15 c.versions.length xk.cv,slc 14 c.replicas.length xk.cr,slc 13 c.observers.length xk.co,.int .i64 c.blast,.int .i64 c.lease,.int .i64 c.bake,.int .i64 key,.bool true,.int .i64 A.number,.int .i64 A.tick,slc 53 A.routes.length kq,.int .u64 A.parent,.int .u64 A.sum,slc 30 c.tenants.length kh]),(30,.row (1000000+92) 2 kh (fun k=>pairC (hf k))),(53,.row (1000000+92) 2 kq elq)] 54 (endx ttP Tryz.f17.results.toList (objR 54 (postCpQS ⟨c,xk,yk,key,hf,kh,t,x,e,A,kp,kq,elq⟩) (VCpQS ⟨c,xk,yk,key,hf,kh,t,x,e,A,kp,kq,elq⟩) (MCpQS ⟨c,xk,yk,key,hf,kh,t,x,e,A,kp,kq,elq⟩))):=by
 obtain⟨⟨hV,hL⟩,hH⟩:=hp
 have hnt:=hV.nt
 have hnc:=hV.nc
 obtain⟨hH,hkh,hva,hkq,hel⟩:=hH
 have hal:=hva.len
 refine⟨⟨hkq,fun k hk=>by rw[hel k hk];rfl⟩,?_⟩
 refine⟨⟨rfl,Nat.le_refl _⟩,fun hin el2 ⟨_,_⟩ h2=>?_,fun hgt=>⟨by show (0+A.routes.length) * 16≤140737488355328;omega,fun cap2 el2 ⟨hcq,_⟩ _ h2=>?_⟩⟩
 ·have hle2:A.routes.length≤0:=by have:0+A.routes.length≤0:=hin;omega
  rw[Nat.zero_add A.routes.length]
  refine⟨⟨hkh,fun k hk=>rfl⟩,?_⟩
  refine⟨⟨rfl,Nat.le_refl _⟩,fun hin2 elh ⟨_,hz⟩ _=>?_,fun hgt2=>⟨by show (0+c.tenants.length) * 16≤140737488355328;omega,fun caph elh ⟨hch,hz⟩ g3 g4=>?_⟩⟩
  ·have hn0:c.tenants.length≤0:=by have:0+c.tenants.length≤0:=hin2;omega
   obtain rfl:elh=fun k=>pairC (ctF c.tenants.length hf k):=ctF_row (m:=c.tenants.length) rfl (fun k hk=>absurd hk (by omega)) (fun k _=>hz k (Nat.zero_le _))
   rw[Nat.zero_add c.tenants.length]
   exact⟨(.mk 0 0 el2),[(56,55),(55,56)],⟨hn0,hle2,fun k hk=>by have q:=h2 k hk;rw[Nat.zero_add] at q;rw[q];exact hel k hk⟩,rfl,rfl,rfl,kp_⟩
  ·have hch2:c.tenants.length≤caph:=by have:0+c.tenants.length≤caph:=hch;omega
   obtain rfl:elh=fun k=>pairC (ctF c.tenants.length hf k):=ctF_row (Nat.zero_add _) (fun k hk=>by have q:=g4 k (by have:k<0+c.tenants.length:=hk;omega);rwa[Nat.zero_add] at q) hz
   rw[Nat.zero_add c.tenants.length]
   exact⟨(.mk caph 0 el2),[(56,55),(55,57)],⟨hch2,hle2,fun k hk=>by have q:=h2 k hk;rw[Nat.zero_add] at q;rw[q];exact hel k hk⟩,rfl,rfl,rfl,kp_⟩
 ·have hle2:A.routes.length≤cap2:=by have:0+A.routes.length≤cap2:=hcq;omega
  rw[Nat.zero_add A.routes.length]
  refine⟨⟨hkh,fun k hk=>rfl⟩,?_⟩
  refine⟨⟨rfl,Nat.le_refl _⟩,fun hin2 elh ⟨_,hz⟩ _=>?_,fun hgt2=>⟨by show (0+c.tenants.length) * 16≤140737488355328;omega,fun caph elh ⟨hch,hz⟩ g3 g4=>?_⟩⟩
  ·have hn0:c.tenants.length≤0:=by have:0+c.tenants.length≤0:=hin2;omega
   obtain rfl:elh=fun k=>pairC (ctF c.tenants.length hf k):=ctF_row (m:=c.tenants.length) rfl (fun k hk=>absurd hk (by omega)) (fun k _=>hz k (Nat.zero_le _))
   rw[Nat.zero_add c.tenants.length]
   exact⟨(.mk 0 cap2 el2),[(56,56),(55,57)],⟨hn0,hle2,fun k hk=>by have q:=h2 k hk;rw[Nat.zero_add] at q;rw[q];exact hel k hk⟩,rfl,rfl,rfl,kp_⟩
  ·have hch2:c.tenants.length≤caph:=by have:0+c.tenants.length≤caph:=hch;omega
   obtain rfl:elh=fun k=>pairC (ctF c.tenants.length hf k):=ctF_row (Nat.zero_add _) (fun k hk=>by have q:=g4 k (by have:k<0+c.tenants.length:=hk;omega);rwa[Nat.zero_add] at q) hz
   rw[Nat.zero_add c.tenants.length]
   exact⟨(.mk caph cap2 el2),[(56,56),(55,58)],⟨hch2,hle2,fun k hk=>by have q:=h2 k hk;rw[Nat.zero_add] at q;rw[q];exact hel k hk⟩,rfl,rfl,rfl,kp_⟩
theorem cpQSOk:CSound Tryz.prog 17 ctCpQS:=ctObj_ok (F:=[]) (D:=[]) ttPok (fti_nil) mixed (by kernel_rfl) Tryz.func17 rfl (by kernel_rfl) (fun x=>by cases x;rfl) (fun x=>by cases x;rfl) (fun x y=>by cases x;cases y<;>rfl) (fun x hx=>by cases x;exact cpQS_sx _ _ _ _ _ _ _ _ _ _ _ _ _ hx)
def ctCpQ2:CT:=fun vs mem nx K=>ctCpQN vs mem nx K∨ctCpQS vs mem nx K
theorem cpQ2Ok:CSound Tryz.prog 17 ctCpQ2:=cs_or cpQNOk cpQSOk
end Go.Proofs.YtchhdflealgkaaaGreat
