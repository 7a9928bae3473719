import Derived.Test.YtchhdflealgkaaaGreatPo21
import Derived.Test.YtchhdflealgkaaaGreatPo22
namespace Go.Proofs.YtchhdflealgkaaaGreat
open Go.RowKit
set_option linter.unusedSimpArgs false
set_option linter.unusedVariables false
/-! law16.both,with an empty copy -/
def boDBoE:List (Nat×DQ):=[(9,{ k:=5,L:=[55],pre:=[(0,false),(1,false),(3,false),(4,false),(2,true)] }),(14,{ k:=5,L:=[0,1,2,3,4,5,6,7,8,9,10,11,12,13,14,15,16,17,18,19,20,21,22,23,24,25,26,27,28,29,30,31,32,33,34,35,36,37,38,39,40,41,42,43,44,45,46,47,48,49,50,51,52,53,54,55,56,57,58,59,60,61,62,63,64,65,66,67,68,69,70,71,72,73,74,75,76,77,78,79,80,81,82,83,84,85,86,87,88,89,90,91,92,93,94,95,96,97,98,99],pre:=[(0,false),(1,false),(2,false),(3,false),(4,false)] }),(15,{ k:=5,L:=[55],pre:=[(0,false),(1,false),(3,false),(4,false),(2,true)] }),(18,{ k:=15,L:=[54],pre:=[(0,false),(1,false),(2,false),(3,false),(4,false),(5,false),(6,false),(8,false),(9,false),(10,false),(11,false),(12,false),(13,false),(14,false),(7,true)] }),(3,{ k:=8,L:=[54],pre:=[(0,false),(1,false),(3,false),(4,false),(6,false),(7,false),(2,true),(5,true)] }),(5000009,{ k:=100,L:=[0,1,2,3,4,5,6,7,8,9,10,11,12,13,14,15,16,17,18,19,20,21,22,23,24,25,26,27,28,29,30,31,32,33,34,35,36,37,38,39,40,41,42,43,44,45,46,47,48,49,50,51,52,53,54,55,56,57,58,59],sl:=[0,1,2,7,9,23] })]
def vsBoE:BX→List Value:=fun x=>match x with | ⟨c,xk,yk,key,hf,kh,xs,cps,cx,st,A,kp,kq,elq⟩=>[ptr 28,ptr 31,.slice (some ⟨51,0,none⟩) xs.length cx,.agg #[.int .i64 st.mode,.int .i64 st.running,.int .i64 st.wanted,.int .i64 st.since]]
def mBoE:BX→AM:=fun x=>match x with | ⟨c,xk,yk,key,hf,kh,xs,cps,cx,st,A,kp,kq,elq⟩=>[(28,.box 114 [.int .i64 c.regions,slc 21 c.zones.length yk.cz,slc 22 c.cells.length yk.cc,slc 23 c.tenants.length yk.ct,slc 24 c.versions.length yk.cv,slc 25 c.replicas.length yk.cr,slc 26 c.observers.length yk.co,.int .i64 c.blast,.int .i64 c.lease,.int .i64 c.bake,.int .i64 key,.bool false,.int .i64 0,.int .i64 0,zs0,.int .u64 0,.int .u64 0,.map (some 27)]),(27,.ext (.map .i64 true (hintF (hmOf c.tenants.length hf)))),(31,.box 116 [.int .i64 c.regions,slc 18 c.zones.length xk.cz,slc 17 c.cells.length xk.cc,slc 16 c.tenants.length xk.ct,slc 15 c.versions.length xk.cv,slc 14 c.replicas.length xk.cr,slc 13 c.observers.length xk.co,.int .i64 c.blast,.int .i64 c.lease,.int .i64 c.bake,.int .i64 key,.bool false,.int .i64 0,.int .i64 0,slc 53 0 0,.int .u64 0,.int .u64 0,slc 30 c.tenants.length kh]),(30,.row (1000000+92) 2 kh (fun k=>pairC (hf k))),(53,.row (1000000+92) 2 0 elq),(21,rowOfL 0 1 intC 0 c.zones),(22,rowOfL 0 2 pairC (0,0) c.cells),(23,rowOfL 0 7 tenC default c.tenants),(24,rowOfL 0 2 pairC (0,0) c.versions),(25,rowOfL 0 1 intC 0 c.replicas),(26,rowOfL 0 1 intC 0 c.observers),(18,rowOfL 0 1 intC 0 c.zones),(17,rowOfL 0 2 pairC (0,0) c.cells),(16,rowOfL 0 7 tenC default c.tenants),(15,rowOfL 0 2 pairC (0,0) c.versions),(14,rowOfL 0 1 intC 0 c.replicas),(13,rowOfL 0 1 intC 0 c.observers),(50,famB 0 xs),(51,deepA 0 0 xs cps 50)]
def preBoE:BX→Prop:=fun x=>match x with | ⟨c,xk,yk,key,hf,kh,xs,cps,cx,st,A,kp,kq,elq⟩=>(CfgV c∧Lens c)∧HfOk c.tenants.length hf∧(c.tenants.length≤kh∧CopyP c key xs∧cfgErr c=0)
def postBoE:BX→BY→Prop:=fun x y=>match x with | ⟨c,xk,yk,key,hf,kh,xs,cps,cx,st,A,kp,kq,elq⟩=>match y with | .keep hf2=>HfOk c.tenants.length hf2 | .new hf2 A2 kp2 kq2 el2=>HfOk c.tenants.length hf2∧(ValidA c A2 key∧A2.routes.length≤kq2∧∀ k,k<A2.routes.length→el2 k=pairC (A2.routes.getD k (0,0)))
def VBoE:BX→BY→Value:=fun x y=>match x with | ⟨c,xk,yk,key,hf,kh,xs,cps,cx,st,A,kp,kq,elq⟩=>match y with | _=>.bool true
def MBoE:BX→BY→AM:=fun x y=>match x with | ⟨c,xk,yk,key,hf,kh,xs,cps,cx,st,A,kp,kq,elq⟩=>match y with | .keep hf2=>[(28,.box 114 [.int .i64 c.regions,slc 21 c.zones.length yk.cz,slc 22 c.cells.length yk.cc,slc 23 c.tenants.length yk.ct,slc 24 c.versions.length yk.cv,slc 25 c.replicas.length yk.cr,slc 26 c.observers.length yk.co,.int .i64 c.blast,.int .i64 c.lease,.int .i64 c.bake,.int .i64 key,.bool false,.int .i64 0,.int .i64 0,zs0,.int .u64 0,.int .u64 0,.map (some 27)]),(27,.ext (.map .i64 true (hintF (hmOf c.tenants.length hf2)))),(31,.box 116 [.int .i64 c.regions,slc 18 c.zones.length xk.cz,slc 17 c.cells.length xk.cc,slc 16 c.tenants.length xk.ct,slc 15 c.versions.length xk.cv,slc 14 c.replicas.length xk.cr,slc 13 c.observers.length xk.co,.int .i64 c.blast,.int .i64 c.lease,.int .i64 c.bake,.int .i64 key,.bool false,.int .i64 0,.int .i64 0,slc 53 0 0,.int .u64 0,.int .u64 0,slc 30 c.tenants.length kh]),(30,.row (1000000+92) 2 kh (fun k=>pairC (hf2 k))),(53,.row (1000000+92) 2 0 elq)] | .new hf2 A2 kp2 kq2 el2=>[(28,.box 114 [.int .i64 c.regions,slc 21 c.zones.length yk.cz,slc 22 c.cells.length yk.cc,slc 23 c.tenants.length yk.ct,slc 24 c.versions.length yk.cv,slc 25 c.replicas.length yk.cr,slc 26 c.observers.length yk.co,.int .i64 c.blast,.int .i64 c.lease,.int .i64 c.bake,.int .i64 key,.bool true,.int .i64 A2.number,.int .i64 A2.tick,slc 54 A2.routes.length kp2,.int .u64 A2.parent,.int .u64 A2.sum,.map (some 27)]),(27,.ext (.map .i64 true (hintF (hmOf c.tenants.length hf2)))),(31,.box 116 [.int .i64 c.regions,slc 18 c.zones.length xk.cz,slc 17 c.cells.length xk.cc,slc 16 c.tenants.length xk.ct,slc 15 c.versions.length xk.cv,slc 14 c.replicas.length xk.cr,slc 13 c.observers.length xk.co,.int .i64 c.blast,.int .i64 c.lease,.int .i64 c.bake,.int .i64 key,.bool true,.int .i64 A2.number,.int .i64 A2.tick,slc 55 A2.routes.length kq2,.int .u64 A2.parent,.int .u64 A2.sum,slc 30 c.tenants.length kh]),(30,.row (1000000+92) 2 kh (fun k=>pairC (hf2 k))),(54,rowOfL 500000 2 pairC (0,0) A2.routes),(55,.row (1000000+92) 2 kq2 el2),(53,.row (1000000+92) 2 0 elq)]
def ctBoE:CT:=ctObj vsBoE mBoE 54 preBoE postBoE VBoE MBoE 2
set_option maxRecDepth 100000 in
set_option maxHeartbeats 400000000 in
theorem boE_sx (c:Cfg) (xk yk:CfgK) (key:Int) (hf:HF) (kh:Nat) (xs:List Atl) (cps:List Nat) (cx:Nat) (st:CS) (A:Atl) (kp kq:Nat) (elq:Nat→List Value) (hp:(CfgV c∧Lens c)∧HfOk c.tenants.length hf∧(c.tenants.length≤kh∧CopyP c key xs∧cfgErr c=0)) :
  sx ttP [(56,ctMod),(38,ctBwG),(57,ctTkP),(58,ctTkQ),(35,ctLnP),(60,ctLnQ2),(59,ctSigned),(13,ctSm)] boDBoE (bodyOf Tryz.f15) (argF 0 [ptr 28,ptr 31,.slice (some ⟨51,0,none⟩) xs.length cx,.agg #[.int .i64 st.mode,.int .i64 st.running,.int .i64 st.wanted,.int .i64 st.since]]) [(28,.box 114 [.int .i64 c.regions,slc 21 c.zones.length yk.cz,slc 22 c.cells.length yk.cc,slc 23 c.tenants.length yk.ct,slc 24 c.versions.length yk.cv,slc 25 c.replicas.length yk.cr,slc 26 c.observers.length yk.co,.int .i64 c.blast,.int .i64 c.lease,.int .i64 c.bake,.int .i64 key,.bool false,.int .i64 0,.int .i64 0,zs0,.int .u64 0,.int .u64 0,.map (some 27)]),(27,.ext (.map .i64 true (hintF (hmOf c.tenants.length hf)))),(31,.box 116 [.int .i64 c.regions,slc 18 c.zones.length xk.cz,slc 17 c.cells.length xk.cc,slc 16 c.tenants.length xk.ct,slc 15 c.versions.length xk.cv,slc 14 c.replicas.length xk.cr,slc 13 c.observers.length xk.co,.int .i64 c.blast,.int .i64 c.lease,.int .i64 c.bake,.int .i64 key,.bool false,.int .i64 0,.int .i64 0,slc 53 0 0,.int .u64 0,.int .u64 0,slc 30 c.tenants.length kh]),(30,.row (1000000+92) 2 kh (fun k=>pairC (hf k))),(53,.row (1000000+92) 2 0 elq),(21,rowOfL 0 1 intC 0 c.zones),(22,rowOfL 0 2 pairC (0,0) c.cells),(23,rowOfL 0 7 tenC default c.tenants),(24,rowOfL 0 2 pairC (0,0) c.versions),(25,rowOfL 0 1 intC 0 c.replicas),(26,rowOfL 0 1 intC 0 c.observers),(18,rowOfL 0 1 intC 0 c.zones),(17,rowOfL 0 2 pairC (0,0) c.cells),(16,rowOfL 0 7 tenC default c.tenants),(15,rowOfL 0 2 pairC (0,0) c.versions),(14,rowOfL 0 1 intC 0 c.replicas),(13,rowOfL 0 1 intC 0 c.observers),(50,famB 0 xs),(51,deepA 0 0 xs cps 50)] 54 (endx ttP Tryz.f15.results.toList (objR 54 (postBoE ⟨c,xk,yk,key,hf,kh,xs,cps,cx,st,A,kp,kq,elq⟩) (VBoE ⟨c,xk,yk,key,hf,kh,xs,cps,cx,st,A,kp,kq,elq⟩) (MBoE ⟨c,xk,yk,key,hf,kh,xs,cps,cx,st,A,kp,kq,elq⟩))):=by
 obtain⟨⟨hV,hL⟩,hH⟩:=hp
 have hnt:=hV.nt
 have hnc:=hV.nc
 obtain⟨hH,⟨hkh,hP,hE⟩⟩:=hH
 have hx1:=hP.ne
 have hx2:=hP.le
 refine⟨_,_,rfl,⟨by omega,by omega⟩,?_⟩
 have hj:0≤st.running % (xs.length:Int)∧st.running % (xs.length:Int)<xs.length:=⟨Int.emod_nonneg _ (by omega),Int.emod_lt_of_pos _ (by omega)⟩
 have hjn:(st.running % (xs.length:Int)).toNat<xs.length:=by omega
 refine⟨⟨Nat.le_refl _,hj.1,hj.2⟩,?_⟩
 refine⟨_,_,rfl,⟨by decide,by decide⟩,?_⟩
 refine⟨Bool,fun b=>[(44,.bool b)],fun _=>[],fun _=>True,?_,?_⟩
 ·repeat' (first | refine⟨fun _=>?_,fun h=>Bool.noConfusion h⟩ | refine⟨fun h=>Bool.noConfusion h,fun _=>?_⟩ | refine⟨fun _=>?_,fun _=>?_⟩ | fail)
  all_goals exact⟨_,trivial,kp_,kp_⟩
 rintro b -
 refine⟨⟨by decide,rfl,rfl⟩,?_⟩
 refine⟨fun _=>?_,fun _=>?_⟩
 ·refine .inl ⟨⟨c,xk,yk,key,hf,kh,xs,(st.running % (xs.length:Int)).toNat,_,(xs.getD (st.running % (xs.length:Int)).toNat aZ).number,(xs.getD (st.running % (xs.length:Int)).toNat aZ).tick,(xs.getD (st.running % (xs.length:Int)).toNat aZ).parent,(xs.getD (st.running % (xs.length:Int)).toNat aZ).sum,A,kp,kq,elq⟩,[],⟨⟨hV,hL⟩,hH⟩,rfl,kp_,rfl,rfl,fun y1 hy1=>?_⟩
  rcases y1 with _ | _ | ⟨k1,el1⟩
  ·repeat (first | refine⟨fun _=>?_,fun h=>Bool.noConfusion h⟩ | refine⟨fun h=>Bool.noConfusion h,fun _=>?_⟩ | fail)
   refine⟨kp_,?_⟩
   refine .inr (.inr ⟨⟨c,xk,yk,key,hf,kh,xs,(st.running % (xs.length:Int)).toNat,_,(xs.getD (st.running % (xs.length:Int)).toNat aZ).number,(xs.getD (st.running % (xs.length:Int)).toNat aZ).tick,(xs.getD (st.running % (xs.length:Int)).toNat aZ).parent,(xs.getD (st.running % (xs.length:Int)).toNat aZ).sum,A,kp,kq,elq⟩,[],⟨⟨hV,hL⟩,hH,hkh⟩,rfl,kp_,rfl,rfl,fun y2 hy2=>?_⟩)
   rcases y2 with _ | _ | ⟨k2,el2⟩
   ·repeat (first | refine⟨fun _=>?_,fun h=>Bool.noConfusion h⟩ | refine⟨fun h=>Bool.noConfusion h,fun _=>?_⟩ | fail)
    have hH2:=hH
    refine .inr (.inr ⟨⟨c,xk,yk,key,hf,kh,0,0,0,A,kp,kq,elq⟩,[],⟨⟨hV,hL⟩,hH2,hkh⟩,rfl,kp_,rfl,rfl,fun u hu=>?_⟩)
    repeat (first | refine⟨fun _=>?_,fun h=>Bool.noConfusion h⟩ | refine⟨fun h=>Bool.noConfusion h,fun _=>?_⟩ | refine⟨⟨by first | exact Nat.le_refl _ | omega | fail,by first | omega | (dsimp only;omega) | fail,by first | omega | (dsimp only;omega) | fail⟩,?_⟩ | refine⟨fun q=>absurd q (by first | (simp[eqCs,eqC1];done) | fail),fun _=>?_⟩ | refine⟨fun _=>?_,fun q=>absurd q (by first | omega | (simp[-List.getD_eq_getElem?_getD];done) | (simp[-List.getD_eq_getElem?_getD];omega) | fail)⟩ | refine⟨fun q=>absurd q (by first | omega | (simp[-List.getD_eq_getElem?_getD];done) | (simp[-List.getD_eq_getElem?_getD];omega) | fail),fun _=>?_⟩ | fail)
    exact⟨(.keep hf),[],hH,rfl,rfl,rfl,kp_⟩
   ·exact absurd hy2.1 hy1
   ·exact absurd hy2.1 hy1
  ·exact hy1.2.elim
  ·repeat (first | refine⟨fun _=>?_,fun h=>Bool.noConfusion h⟩ | refine⟨fun h=>Bool.noConfusion h,fun _=>?_⟩ | fail)
   refine⟨kp_,?_⟩
   refine .inr (.inr ⟨⟨c,xk,yk,key,hf,kh,xs,(st.running % (xs.length:Int)).toNat,_,(xs.getD (st.running % (xs.length:Int)).toNat aZ).number,(xs.getD (st.running % (xs.length:Int)).toNat aZ).tick,(xs.getD (st.running % (xs.length:Int)).toNat aZ).parent,(xs.getD (st.running % (xs.length:Int)).toNat aZ).sum,A,kp,kq,elq⟩,[],⟨⟨hV,hL⟩,hH,hkh⟩,rfl,kp_,rfl,rfl,fun y2 hy2=>?_⟩)
   rcases y2 with _ | _ | ⟨k2,el2⟩
   ·exact absurd hy1 hy2
   ·exact hy2.2.elim
   ·repeat (first | refine⟨fun _=>?_,fun h=>Bool.noConfusion h⟩ | refine⟨fun h=>Bool.noConfusion h,fun _=>?_⟩ | fail)
    obtain⟨hv2,hq2,he2⟩:=hy2
    refine .inr (.inl ⟨⟨c,xk,yk,key,(dlF (xs.getD (st.running % (xs.length:Int)).toNat aZ).routes hf c.tenants.length),kh,0,0,0,(⟨(xs.getD (st.running % (xs.length:Int)).toNat aZ).number,(xs.getD (st.running % (xs.length:Int)).toNat aZ).tick,(xs.getD (st.running % (xs.length:Int)).toNat aZ).routes,(xs.getD (st.running % (xs.length:Int)).toNat aZ).parent,(xs.getD (st.running % (xs.length:Int)).toNat aZ).sum⟩:Atl),k1,k2,el2⟩,[(52,100),(53,101)],⟨⟨hV,hL⟩,hH.del _ _,hkh,hv2,hq2,he2⟩,rfl,kp_,rfl,rfl,fun u hu=>?_⟩)
    repeat (first | refine⟨fun _=>?_,fun h=>Bool.noConfusion h⟩ | refine⟨fun h=>Bool.noConfusion h,fun _=>?_⟩ | refine⟨⟨by first | exact Nat.le_refl _ | omega | fail,by first | omega | (dsimp only;omega) | fail,by first | omega | (dsimp only;omega) | fail⟩,?_⟩ | refine⟨fun q=>absurd q (by first | (simp[eqCs,eqC1];done) | fail),fun _=>?_⟩ | refine⟨fun _=>?_,fun q=>absurd q (by first | omega | (simp[-List.getD_eq_getElem?_getD];done) | (simp[-List.getD_eq_getElem?_getD];omega) | fail)⟩ | refine⟨fun q=>absurd q (by first | omega | (simp[-List.getD_eq_getElem?_getD];done) | (simp[-List.getD_eq_getElem?_getD];omega) | fail),fun _=>?_⟩ | fail)
    exact⟨(.new (dlF (xs.getD (st.running % (xs.length:Int)).toNat aZ).routes hf c.tenants.length) (⟨(xs.getD (st.running % (xs.length:Int)).toNat aZ).number,(xs.getD (st.running % (xs.length:Int)).toNat aZ).tick,(xs.getD (st.running % (xs.length:Int)).toNat aZ).routes,(xs.getD (st.running % (xs.length:Int)).toNat aZ).parent,(xs.getD (st.running % (xs.length:Int)).toNat aZ).sum⟩:Atl) k1 k2 el2),[(54,100),(55,101)],⟨hH.del _ _,hv2,hq2,he2⟩,rfl,rfl,rfl,kp_⟩
 ·refine⟨fun _=>?_,fun _=>?_⟩
  ·refine⟨_,_,_,rfl,⟨by decide,by decide⟩,fun nb hnb=>?_⟩
   refine⟨fun _=>?_,fun _=>?_⟩
   ·refine⟨{ (xs.getD (st.running % (xs.length:Int)).toNat aZ) with number:=nb },_,key,rfl,.fam rfl,hP.numIn hV hE hjn hnb,?_⟩
    refine .inl ⟨⟨c,xk,yk,key,hf,kh,xs,(st.running % (xs.length:Int)).toNat,_,nb,(xs.getD (st.running % (xs.length:Int)).toNat aZ).tick,(xs.getD (st.running % (xs.length:Int)).toNat aZ).parent,(signA { (xs.getD (st.running % (xs.length:Int)).toNat aZ) with number:=nb } key).sum,A,kp,kq,elq⟩,[],⟨⟨hV,hL⟩,hH⟩,rfl,kp_,rfl,rfl,fun y1 hy1=>?_⟩
    rcases y1 with _ | _ | ⟨k1,el1⟩
    ·repeat (first | refine⟨fun _=>?_,fun h=>Bool.noConfusion h⟩ | refine⟨fun h=>Bool.noConfusion h,fun _=>?_⟩ | fail)
     refine⟨kp_,?_⟩
     refine .inr (.inr ⟨⟨c,xk,yk,key,hf,kh,xs,(st.running % (xs.length:Int)).toNat,_,nb,(xs.getD (st.running % (xs.length:Int)).toNat aZ).tick,(xs.getD (st.running % (xs.length:Int)).toNat aZ).parent,(signA { (xs.getD (st.running % (xs.length:Int)).toNat aZ) with number:=nb } key).sum,A,kp,kq,elq⟩,[],⟨⟨hV,hL⟩,hH,hkh⟩,rfl,kp_,rfl,rfl,fun y2 hy2=>?_⟩)
     rcases y2 with _ | _ | ⟨k2,el2⟩
     ·repeat (first | refine⟨fun _=>?_,fun h=>Bool.noConfusion h⟩ | refine⟨fun h=>Bool.noConfusion h,fun _=>?_⟩ | fail)
      have hH2:=hH
      refine .inr (.inr ⟨⟨c,xk,yk,key,hf,kh,0,0,0,A,kp,kq,elq⟩,[],⟨⟨hV,hL⟩,hH2,hkh⟩,rfl,kp_,rfl,rfl,fun u hu=>?_⟩)
      repeat (first | refine⟨fun _=>?_,fun h=>Bool.noConfusion h⟩ | refine⟨fun h=>Bool.noConfusion h,fun _=>?_⟩ | refine⟨⟨by first | exact Nat.le_refl _ | omega | fail,by first | omega | (dsimp only;omega) | fail,by first | omega | (dsimp only;omega) | fail⟩,?_⟩ | refine⟨fun q=>absurd q (by first | (simp[eqCs,eqC1];done) | fail),fun _=>?_⟩ | refine⟨fun _=>?_,fun q=>absurd q (by first | omega | (simp[-List.getD_eq_getElem?_getD];done) | (simp[-List.getD_eq_getElem?_getD];omega) | fail)⟩ | refine⟨fun q=>absurd q (by first | omega | (simp[-List.getD_eq_getElem?_getD];done) | (simp[-List.getD_eq_getElem?_getD];omega) | fail),fun _=>?_⟩ | fail)
      exact⟨(.keep hf),[],hH,rfl,rfl,rfl,kp_⟩
     ·exact absurd hy2.1 hy1
     ·exact absurd hy2.1 hy1
    ·exact hy1.2.elim
    ·repeat (first | refine⟨fun _=>?_,fun h=>Bool.noConfusion h⟩ | refine⟨fun h=>Bool.noConfusion h,fun _=>?_⟩ | fail)
     refine⟨kp_,?_⟩
     refine .inr (.inr ⟨⟨c,xk,yk,key,hf,kh,xs,(st.running % (xs.length:Int)).toNat,_,nb,(xs.getD (st.running % (xs.length:Int)).toNat aZ).tick,(xs.getD (st.running % (xs.length:Int)).toNat aZ).parent,(signA { (xs.getD (st.running % (xs.length:Int)).toNat aZ) with number:=nb } key).sum,A,kp,kq,elq⟩,[],⟨⟨hV,hL⟩,hH,hkh⟩,rfl,kp_,rfl,rfl,fun y2 hy2=>?_⟩)
     rcases y2 with _ | _ | ⟨k2,el2⟩
     ·exact absurd hy1 hy2
     ·exact hy2.2.elim
     ·repeat (first | refine⟨fun _=>?_,fun h=>Bool.noConfusion h⟩ | refine⟨fun h=>Bool.noConfusion h,fun _=>?_⟩ | fail)
      obtain⟨hv2,hq2,he2⟩:=hy2
      refine .inr (.inl ⟨⟨c,xk,yk,key,(dlF (xs.getD (st.running % (xs.length:Int)).toNat aZ).routes hf c.tenants.length),kh,0,0,0,(⟨nb,(xs.getD (st.running % (xs.length:Int)).toNat aZ).tick,(xs.getD (st.running % (xs.length:Int)).toNat aZ).routes,(xs.getD (st.running % (xs.length:Int)).toNat aZ).parent,(signA { (xs.getD (st.running % (xs.length:Int)).toNat aZ) with number:=nb } key).sum⟩:Atl),k1,k2,el2⟩,[(52,100),(53,101)],⟨⟨hV,hL⟩,hH.del _ _,hkh,hv2,hq2,he2⟩,rfl,kp_,rfl,rfl,fun u hu=>?_⟩)
      repeat (first | refine⟨fun _=>?_,fun h=>Bool.noConfusion h⟩ | refine⟨fun h=>Bool.noConfusion h,fun _=>?_⟩ | refine⟨⟨by first | exact Nat.le_refl _ | omega | fail,by first | omega | (dsimp only;omega) | fail,by first | omega | (dsimp only;omega) | fail⟩,?_⟩ | refine⟨fun q=>absurd q (by first | (simp[eqCs,eqC1];done) | fail),fun _=>?_⟩ | refine⟨fun _=>?_,fun q=>absurd q (by first | omega | (simp[-List.getD_eq_getElem?_getD];done) | (simp[-List.getD_eq_getElem?_getD];omega) | fail)⟩ | refine⟨fun q=>absurd q (by first | omega | (simp[-List.getD_eq_getElem?_getD];done) | (simp[-List.getD_eq_getElem?_getD];omega) | fail),fun _=>?_⟩ | fail)
      exact⟨(.new (dlF (xs.getD (st.running % (xs.length:Int)).toNat aZ).routes hf c.tenants.length) (⟨nb,(xs.getD (st.running % (xs.length:Int)).toNat aZ).tick,(xs.getD (st.running % (xs.length:Int)).toNat aZ).routes,(xs.getD (st.running % (xs.length:Int)).toNat aZ).parent,(signA { (xs.getD (st.running % (xs.length:Int)).toNat aZ) with number:=nb } key).sum⟩:Atl) k1 k2 el2),[(54,100),(55,101)],⟨hH.del _ _,hv2,hq2,he2⟩,rfl,rfl,rfl,kp_⟩
   ·refine .inl ⟨⟨c,xk,yk,key,hf,kh,xs,(st.running % (xs.length:Int)).toNat,_,nb,(xs.getD (st.running % (xs.length:Int)).toNat aZ).tick,(xs.getD (st.running % (xs.length:Int)).toNat aZ).parent,(xs.getD (st.running % (xs.length:Int)).toNat aZ).sum,A,kp,kq,elq⟩,[],⟨⟨hV,hL⟩,hH⟩,rfl,kp_,rfl,rfl,fun y1 hy1=>?_⟩
    rcases y1 with _ | _ | ⟨k1,el1⟩
    ·repeat (first | refine⟨fun _=>?_,fun h=>Bool.noConfusion h⟩ | refine⟨fun h=>Bool.noConfusion h,fun _=>?_⟩ | fail)
     refine⟨kp_,?_⟩
     refine .inr (.inr ⟨⟨c,xk,yk,key,hf,kh,xs,(st.running % (xs.length:Int)).toNat,_,nb,(xs.getD (st.running % (xs.length:Int)).toNat aZ).tick,(xs.getD (st.running % (xs.length:Int)).toNat aZ).parent,(xs.getD (st.running % (xs.length:Int)).toNat aZ).sum,A,kp,kq,elq⟩,[],⟨⟨hV,hL⟩,hH,hkh⟩,rfl,kp_,rfl,rfl,fun y2 hy2=>?_⟩)
     rcases y2 with _ | _ | ⟨k2,el2⟩
     ·repeat (first | refine⟨fun _=>?_,fun h=>Bool.noConfusion h⟩ | refine⟨fun h=>Bool.noConfusion h,fun _=>?_⟩ | fail)
      have hH2:=hH
      refine .inr (.inr ⟨⟨c,xk,yk,key,hf,kh,0,0,0,A,kp,kq,elq⟩,[],⟨⟨hV,hL⟩,hH2,hkh⟩,rfl,kp_,rfl,rfl,fun u hu=>?_⟩)
      repeat (first | refine⟨fun _=>?_,fun h=>Bool.noConfusion h⟩ | refine⟨fun h=>Bool.noConfusion h,fun _=>?_⟩ | refine⟨⟨by first | exact Nat.le_refl _ | omega | fail,by first | omega | (dsimp only;omega) | fail,by first | omega | (dsimp only;omega) | fail⟩,?_⟩ | refine⟨fun q=>absurd q (by first | (simp[eqCs,eqC1];done) | fail),fun _=>?_⟩ | refine⟨fun _=>?_,fun q=>absurd q (by first | omega | (simp[-List.getD_eq_getElem?_getD];done) | (simp[-List.getD_eq_getElem?_getD];omega) | fail)⟩ | refine⟨fun q=>absurd q (by first | omega | (simp[-List.getD_eq_getElem?_getD];done) | (simp[-List.getD_eq_getElem?_getD];omega) | fail),fun _=>?_⟩ | fail)
      exact⟨(.keep hf),[],hH,rfl,rfl,rfl,kp_⟩
     ·exact absurd hy2.1 hy1
     ·exact absurd hy2.1 hy1
    ·exact hy1.2.elim
    ·repeat (first | refine⟨fun _=>?_,fun h=>Bool.noConfusion h⟩ | refine⟨fun h=>Bool.noConfusion h,fun _=>?_⟩ | fail)
     refine⟨kp_,?_⟩
     refine .inr (.inr ⟨⟨c,xk,yk,key,hf,kh,xs,(st.running % (xs.length:Int)).toNat,_,nb,(xs.getD (st.running % (xs.length:Int)).toNat aZ).tick,(xs.getD (st.running % (xs.length:Int)).toNat aZ).parent,(xs.getD (st.running % (xs.length:Int)).toNat aZ).sum,A,kp,kq,elq⟩,[],⟨⟨hV,hL⟩,hH,hkh⟩,rfl,kp_,rfl,rfl,fun y2 hy2=>?_⟩)
     rcases y2 with _ | _ | ⟨k2,el2⟩
     ·exact absurd hy1 hy2
     ·exact hy2.2.elim
     ·repeat (first | refine⟨fun _=>?_,fun h=>Bool.noConfusion h⟩ | refine⟨fun h=>Bool.noConfusion h,fun _=>?_⟩ | fail)
      obtain⟨hv2,hq2,he2⟩:=hy2
      refine .inr (.inl ⟨⟨c,xk,yk,key,(dlF (xs.getD (st.running % (xs.length:Int)).toNat aZ).routes hf c.tenants.length),kh,0,0,0,(⟨nb,(xs.getD (st.running % (xs.length:Int)).toNat aZ).tick,(xs.getD (st.running % (xs.length:Int)).toNat aZ).routes,(xs.getD (st.running % (xs.length:Int)).toNat aZ).parent,(xs.getD (st.running % (xs.length:Int)).toNat aZ).sum⟩:Atl),k1,k2,el2⟩,[(52,100),(53,101)],⟨⟨hV,hL⟩,hH.del _ _,hkh,hv2,hq2,he2⟩,rfl,kp_,rfl,rfl,fun u hu=>?_⟩)
      repeat (first | refine⟨fun _=>?_,fun h=>Bool.noConfusion h⟩ | refine⟨fun h=>Bool.noConfusion h,fun _=>?_⟩ | refine⟨⟨by first | exact Nat.le_refl _ | omega | fail,by first | omega | (dsimp only;omega) | fail,by first | omega | (dsimp only;omega) | fail⟩,?_⟩ | refine⟨fun q=>absurd q (by first | (simp[eqCs,eqC1];done) | fail),fun _=>?_⟩ | refine⟨fun _=>?_,fun q=>absurd q (by first | omega | (simp[-List.getD_eq_getElem?_getD];done) | (simp[-List.getD_eq_getElem?_getD];omega) | fail)⟩ | refine⟨fun q=>absurd q (by first | omega | (simp[-List.getD_eq_getElem?_getD];done) | (simp[-List.getD_eq_getElem?_getD];omega) | fail),fun _=>?_⟩ | fail)
      exact⟨(.new (dlF (xs.getD (st.running % (xs.length:Int)).toNat aZ).routes hf c.tenants.length) (⟨nb,(xs.getD (st.running % (xs.length:Int)).toNat aZ).tick,(xs.getD (st.running % (xs.length:Int)).toNat aZ).routes,(xs.getD (st.running % (xs.length:Int)).toNat aZ).parent,(xs.getD (st.running % (xs.length:Int)).toNat aZ).sum⟩:Atl) k1 k2 el2),[(54,100),(55,101)],⟨hH.del _ _,hv2,hq2,he2⟩,rfl,rfl,rfl,kp_⟩
  ·refine⟨fun _=>?_,fun _=>?_⟩
   ·refine .inl ⟨⟨c,xk,yk,key,hf,kh,st.running,st.wanted,st.since,A,kp,kq,elq⟩,[],⟨⟨hV,hL⟩,hH,hkh⟩,rfl,kp_,rfl,rfl,fun y1 hy1=>?_⟩
    cases y1
    ·refine⟨kp_,?_⟩
     repeat (first | refine⟨fun _=>?_,fun h=>Bool.noConfusion h⟩ | refine⟨fun h=>Bool.noConfusion h,fun _=>?_⟩ | refine⟨⟨by first | exact Nat.le_refl _ | omega | fail,by first | omega | (dsimp only;omega) | fail,by first | omega | (dsimp only;omega) | fail⟩,?_⟩ | refine⟨fun q=>absurd q (by first | (simp[eqCs,eqC1];done) | fail),fun _=>?_⟩ | refine⟨fun _=>?_,fun q=>absurd q (by first | omega | (simp[-List.getD_eq_getElem?_getD];done) | (simp[-List.getD_eq_getElem?_getD];omega) | fail)⟩ | refine⟨fun q=>absurd q (by first | omega | (simp[-List.getD_eq_getElem?_getD];done) | (simp[-List.getD_eq_getElem?_getD];omega) | fail),fun _=>?_⟩ | fail)
     refine .inr (.inr ⟨⟨c,xk,yk,key,hf,kh,st.running,st.wanted,st.since,A,kp,kq,elq⟩,[],⟨⟨hV,hL⟩,hH,hkh⟩,rfl,kp_,rfl,rfl,fun y2 hy2=>?_⟩)
     cases y2
     ·repeat (first | refine⟨fun _=>?_,fun h=>Bool.noConfusion h⟩ | refine⟨fun h=>Bool.noConfusion h,fun _=>?_⟩ | fail)
      have hH2:=hH
      refine .inr (.inr ⟨⟨c,xk,yk,key,hf,kh,0,0,0,A,kp,kq,elq⟩,[],⟨⟨hV,hL⟩,hH2,hkh⟩,rfl,kp_,rfl,rfl,fun u hu=>?_⟩)
      repeat (first | refine⟨fun _=>?_,fun h=>Bool.noConfusion h⟩ | refine⟨fun h=>Bool.noConfusion h,fun _=>?_⟩ | refine⟨⟨by first | exact Nat.le_refl _ | omega | fail,by first | omega | (dsimp only;omega) | fail,by first | omega | (dsimp only;omega) | fail⟩,?_⟩ | refine⟨fun q=>absurd q (by first | (simp[eqCs,eqC1];done) | fail),fun _=>?_⟩ | refine⟨fun _=>?_,fun q=>absurd q (by first | omega | (simp[-List.getD_eq_getElem?_getD];done) | (simp[-List.getD_eq_getElem?_getD];omega) | fail)⟩ | refine⟨fun q=>absurd q (by first | omega | (simp[-List.getD_eq_getElem?_getD];done) | (simp[-List.getD_eq_getElem?_getD];omega) | fail),fun _=>?_⟩ | fail)
      exact⟨(.keep hf),[],hH,rfl,rfl,rfl,kp_⟩
     ·exact absurd hy2 hy1
    ·refine⟨kp_,?_⟩
     repeat (first | refine⟨fun _=>?_,fun h=>Bool.noConfusion h⟩ | refine⟨fun h=>Bool.noConfusion h,fun _=>?_⟩ | refine⟨⟨by first | exact Nat.le_refl _ | omega | fail,by first | omega | (dsimp only;omega) | fail,by first | omega | (dsimp only;omega) | fail⟩,?_⟩ | refine⟨fun q=>absurd q (by first | (simp[eqCs,eqC1];done) | fail),fun _=>?_⟩ | refine⟨fun _=>?_,fun q=>absurd q (by first | omega | (simp[-List.getD_eq_getElem?_getD];done) | (simp[-List.getD_eq_getElem?_getD];omega) | fail)⟩ | refine⟨fun q=>absurd q (by first | omega | (simp[-List.getD_eq_getElem?_getD];done) | (simp[-List.getD_eq_getElem?_getD];omega) | fail),fun _=>?_⟩ | fail)
     refine .inr (.inr ⟨⟨c,xk,yk,key,hf,kh,st.running,st.wanted,st.since,A,kp,kq,elq⟩,[],⟨⟨hV,hL⟩,hH,hkh⟩,rfl,kp_,rfl,rfl,fun y2 hy2=>?_⟩)
     cases y2
     ·exact absurd hy1 hy2
     ·repeat (first | refine⟨fun _=>?_,fun h=>Bool.noConfusion h⟩ | refine⟨fun h=>Bool.noConfusion h,fun _=>?_⟩ | fail)
      have hH2:HfOk c.tenants.length (stF hf (st.running).toNat (st.wanted,st.since)):=hH.set (knownE_pos hH hy1.1 (fun _=>Int.le_refl _) hy1.2.2.2)
      refine .inr (.inr ⟨⟨c,xk,yk,key,(stF hf (st.running).toNat (st.wanted,st.since)),kh,0,0,0,A,kp,kq,elq⟩,[],⟨⟨hV,hL⟩,hH2,hkh⟩,rfl,kp_,rfl,rfl,fun u hu=>?_⟩)
      repeat (first | refine⟨fun _=>?_,fun h=>Bool.noConfusion h⟩ | refine⟨fun h=>Bool.noConfusion h,fun _=>?_⟩ | refine⟨⟨by first | exact Nat.le_refl _ | omega | fail,by first | omega | (dsimp only;omega) | fail,by first | omega | (dsimp only;omega) | fail⟩,?_⟩ | refine⟨fun q=>absurd q (by first | (simp[eqCs,eqC1];done) | fail),fun _=>?_⟩ | refine⟨fun _=>?_,fun q=>absurd q (by first | omega | (simp[-List.getD_eq_getElem?_getD];done) | (simp[-List.getD_eq_getElem?_getD];omega) | fail)⟩ | refine⟨fun q=>absurd q (by first | omega | (simp[-List.getD_eq_getElem?_getD];done) | (simp[-List.getD_eq_getElem?_getD];omega) | fail),fun _=>?_⟩ | fail)
      exact⟨(.keep (stF hf (st.running).toNat (st.wanted,st.since))),[],hH2,rfl,rfl,rfl,kp_⟩
   ·refine⟨_,_,_,rfl,⟨by decide,by decide⟩,fun t5 ht5=>?_⟩
    refine⟨kp_,?_⟩
    refine⟨_,_,_,rfl,⟨by decide,by decide⟩,fun x5 hx5=>?_⟩
    refine⟨kp_,?_⟩
    refine⟨_,_,_,rfl,⟨by decide,by decide⟩,fun e5 he5=>?_⟩
    refine .inl ⟨⟨c,xk,yk,key,hf,kh,t5,x5,e5,A,kp,kq,elq⟩,[],⟨⟨hV,hL⟩,hH,hkh⟩,rfl,kp_,rfl,rfl,fun y1 hy1=>?_⟩
    cases y1
    ·repeat (first | refine⟨fun _=>?_,fun h=>Bool.noConfusion h⟩ | refine⟨fun h=>Bool.noConfusion h,fun _=>?_⟩ | fail)
     refine .inr (.inr ⟨⟨c,xk,yk,key,hf,kh,t5,x5,e5,A,kp,kq,elq⟩,[],⟨⟨hV,hL⟩,hH,hkh⟩,rfl,kp_,rfl,rfl,fun y2 hy2=>?_⟩)
     cases y2
     ·repeat (first | refine⟨fun _=>?_,fun h=>Bool.noConfusion h⟩ | refine⟨fun h=>Bool.noConfusion h,fun _=>?_⟩ | fail)
      have hH2:=hH
      refine .inr (.inr ⟨⟨c,xk,yk,key,hf,kh,0,0,0,A,kp,kq,elq⟩,[],⟨⟨hV,hL⟩,hH2,hkh⟩,rfl,kp_,rfl,rfl,fun u hu=>?_⟩)
      repeat (first | refine⟨fun _=>?_,fun h=>Bool.noConfusion h⟩ | refine⟨fun h=>Bool.noConfusion h,fun _=>?_⟩ | refine⟨⟨by first | exact Nat.le_refl _ | omega | fail,by first | omega | (dsimp only;omega) | fail,by first | omega | (dsimp only;omega) | fail⟩,?_⟩ | refine⟨fun q=>absurd q (by first | (simp[eqCs,eqC1];done) | fail),fun _=>?_⟩ | refine⟨fun _=>?_,fun q=>absurd q (by first | omega | (simp[-List.getD_eq_getElem?_getD];done) | (simp[-List.getD_eq_getElem?_getD];omega) | fail)⟩ | refine⟨fun q=>absurd q (by first | omega | (simp[-List.getD_eq_getElem?_getD];done) | (simp[-List.getD_eq_getElem?_getD];omega) | fail),fun _=>?_⟩ | fail)
      exact⟨(.keep hf),[],hH,rfl,rfl,rfl,kp_⟩
     ·exact absurd hy2 hy1
    ·repeat (first | refine⟨fun _=>?_,fun h=>Bool.noConfusion h⟩ | refine⟨fun h=>Bool.noConfusion h,fun _=>?_⟩ | fail)
     refine .inr (.inr ⟨⟨c,xk,yk,key,hf,kh,t5,x5,e5,A,kp,kq,elq⟩,[],⟨⟨hV,hL⟩,hH,hkh⟩,rfl,kp_,rfl,rfl,fun y2 hy2=>?_⟩)
     cases y2
     ·exact absurd hy1 hy2
     ·repeat (first | refine⟨fun _=>?_,fun h=>Bool.noConfusion h⟩ | refine⟨fun h=>Bool.noConfusion h,fun _=>?_⟩ | fail)
      have hH2:HfOk c.tenants.length (stF hf (t5).toNat (x5,e5)):=hH.set (knownE_pos hH hy1.1 (fun _=>Int.le_refl _) hy1.2.2.2)
      refine .inr (.inr ⟨⟨c,xk,yk,key,(stF hf (t5).toNat (x5,e5)),kh,0,0,0,A,kp,kq,elq⟩,[],⟨⟨hV,hL⟩,hH2,hkh⟩,rfl,kp_,rfl,rfl,fun u hu=>?_⟩)
      repeat (first | refine⟨fun _=>?_,fun h=>Bool.noConfusion h⟩ | refine⟨fun h=>Bool.noConfusion h,fun _=>?_⟩ | refine⟨⟨by first | exact Nat.le_refl _ | omega | fail,by first | omega | (dsimp only;omega) | fail,by first | omega | (dsimp only;omega) | fail⟩,?_⟩ | refine⟨fun q=>absurd q (by first | (simp[eqCs,eqC1];done) | fail),fun _=>?_⟩ | refine⟨fun _=>?_,fun q=>absurd q (by first | omega | (simp[-List.getD_eq_getElem?_getD];done) | (simp[-List.getD_eq_getElem?_getD];omega) | fail)⟩ | refine⟨fun q=>absurd q (by first | omega | (simp[-List.getD_eq_getElem?_getD];done) | (simp[-List.getD_eq_getElem?_getD];omega) | fail),fun _=>?_⟩ | fail)
      exact⟨(.keep (stF hf (t5).toNat (x5,e5))),[],hH2,rfl,rfl,rfl,kp_⟩
theorem boEOk:CSound Tryz.prog 15 ctBoE:=ctObj_ok (F:=[(56,ctMod),(38,ctBwG),(57,ctTkP),(58,ctTkQ),(35,ctLnP),(60,ctLnQ2),(59,ctSigned),(13,ctSm)]) (D:=boDBoE) ttPok (fti_cons (modOk.i _) (fti_cons (bwGOk.i _) (fti_cons (tkPOk.i _) (fti_cons (tkQOk.i _) (fti_cons (lnPOk.i _) (fti_cons (lnQ2Ok.i _) (fti_cons (signedOk.i _) (fti_cons (smOk.i _) fti_nil)))))))) mixed (by kernel_rfl) Tryz.func15 rfl (by kernel_rfl) (fun x=>by cases x;rfl) (fun x=>by cases x;rfl) (fun x y=>by cases x;cases y<;>rfl) (fun x hx=>by cases x;exact boE_sx _ _ _ _ _ _ _ _ _ _ _ _ _ _ hx)
end Go.Proofs.YtchhdflealgkaaaGreat
