import Derived.Test.YtchhdflealgkaaaGreatPo20
namespace Go.Proofs.YtchhdflealgkaaaGreat
open Go.RowKit
set_option linter.unusedSimpArgs false
set_option linter.unusedVariables false
/-! law16.same -/
def vsSmN:LX→List Value:=fun x=>match x with | ⟨c,xk,yk,key,hf,kh,t,x,e,A,kp,kq,elq⟩=>[ptr 28,ptr 31]
def mSmN:LX→AM:=fun x=>match x with | ⟨c,xk,yk,key,hf,kh,t,x,e,A,kp,kq,elq⟩=>[(28,.box 114 [.int .i64 c.regions,slc 21 c.zones.length yk.cz,slc 22 c.cells.length yk.cc,slc 23 c.tenants.length yk.ct,slc 24 c.versions.length yk.cv,slc 25 c.replicas.length yk.cr,slc 26 c.observers.length yk.co,.int .i64 c.blast,.int .i64 c.lease,.int .i64 c.bake,.int .i64 key,.bool false,.int .i64 0,.int .i64 0,zs0,.int .u64 0,.int .u64 0,.map (some 27)]),(27,.ext (.map .i64 true (hintF (hmOf c.tenants.length hf)))),(31,.box 116 [.int .i64 c.regions,slc 18 c.zones.length xk.cz,slc 17 c.cells.length xk.cc,slc 16 c.tenants.length xk.ct,slc 15 c.versions.length xk.cv,slc 14 c.replicas.length xk.cr,slc 13 c.observers.length xk.co,.int .i64 c.blast,.int .i64 c.lease,.int .i64 c.bake,.int .i64 key,.bool false,.int .i64 0,.int .i64 0,zs0,.int .u64 0,.int .u64 0,slc 30 c.tenants.length kh]),(30,.row (1000000+92) 2 kh (fun k=>pairC (hf k)))]
def preSmN:LX→Prop:=fun x=>match x with | ⟨c,xk,yk,key,hf,kh,t,x,e,A,kp,kq,elq⟩=>(CfgV c∧Lens c)∧HfOk c.tenants.length hf∧c.tenants.length≤kh
def postSmN:LX→Unit→Prop:=fun x y=>match x with | ⟨c,xk,yk,key,hf,kh,t,x,e,A,kp,kq,elq⟩=>match y with | _=>True
def VSmN:LX→Unit→Value:=fun x y=>match x with | ⟨c,xk,yk,key,hf,kh,t,x,e,A,kp,kq,elq⟩=>match y with | _=>.bool true
def MSmN:LX→Unit→AM:=fun x y=>match x with | ⟨c,xk,yk,key,hf,kh,t,x,e,A,kp,kq,elq⟩=>match y with | _=>[(28,.box 114 [.int .i64 c.regions,slc 21 c.zones.length yk.cz,slc 22 c.cells.length yk.cc,slc 23 c.tenants.length yk.ct,slc 24 c.versions.length yk.cv,slc 25 c.replicas.length yk.cr,slc 26 c.observers.length yk.co,.int .i64 c.blast,.int .i64 c.lease,.int .i64 c.bake,.int .i64 key,.bool false,.int .i64 0,.int .i64 0,zs0,.int .u64 0,.int .u64 0,.map (some 27)]),(27,.ext (.map .i64 true (hintF (hmOf c.tenants.length hf)))),(31,.box 116 [.int .i64 c.regions,slc 18 c.zones.length xk.cz,slc 17 c.cells.length xk.cc,slc 16 c.tenants.length xk.ct,slc 15 c.versions.length xk.cv,slc 14 c.replicas.length xk.cr,slc 13 c.observers.length xk.co,.int .i64 c.blast,.int .i64 c.lease,.int .i64 c.bake,.int .i64 key,.bool false,.int .i64 0,.int .i64 0,zs0,.int .u64 0,.int .u64 0,slc 30 c.tenants.length kh]),(30,.row (1000000+92) 2 kh (fun k=>pairC (hf k)))]
def ctSmN:CT:=ctObj vsSmN mSmN 54 preSmN postSmN VSmN MSmN 0
set_option maxRecDepth 100000 in
set_option maxHeartbeats 400000000 in
theorem smN_sx (c:Cfg) (xk yk:CfgK) (key:Int) (hf:HF) (kh:Nat) (t x e:Int) (A:Atl) (kp kq:Nat) (elq:Nat→List Value) (hp:(CfgV c∧Lens c)∧HfOk c.tenants.length hf∧c.tenants.length≤kh) :
  sx ttP smF smD (bodyOf Tryz.f13) (argF 0 [ptr 28,ptr 31]) [(28,.box 114 [.int .i64 c.regions,slc 21 c.zones.length yk.cz,slc 22 c.cells.length yk.cc,slc 23 c.tenants.length yk.ct,slc 24 c.versions.length yk.cv,slc 25 c.replicas.length yk.cr,slc 26 c.observers.length yk.co,.int .i64 c.blast,.int .i64 c.lease,.int .i64 c.bake,.int .i64 key,.bool false,.int .i64 0,.int .i64 0,zs0,.int .u64 0,.int .u64 0,.map (some 27)]),(27,.ext (.map .i64 true (hintF (hmOf c.tenants.length hf)))),(31,.box 116 [.int .i64 c.regions,slc 18 c.zones.length xk.cz,slc 17 c.cells.length xk.cc,slc 16 c.tenants.length xk.ct,slc 15 c.versions.length xk.cv,slc 14 c.replicas.length xk.cr,slc 13 c.observers.length xk.co,.int .i64 c.blast,.int .i64 c.lease,.int .i64 c.bake,.int .i64 key,.bool false,.int .i64 0,.int .i64 0,zs0,.int .u64 0,.int .u64 0,slc 30 c.tenants.length kh]),(30,.row (1000000+92) 2 kh (fun k=>pairC (hf k)))] 54 (endx ttP Tryz.f13.results.toList (objR 54 (postSmN ⟨c,xk,yk,key,hf,kh,t,x,e,A,kp,kq,elq⟩) (VSmN ⟨c,xk,yk,key,hf,kh,t,x,e,A,kp,kq,elq⟩) (MSmN ⟨c,xk,yk,key,hf,kh,t,x,e,A,kp,kq,elq⟩))):=by
 obtain⟨⟨hV,hL⟩,hH⟩:=hp
 have hnt:=hV.nt
 have hnc:=hV.nc
 obtain⟨hH,hkh⟩:=hH
 refine⟨Int,fun z=>[(5,.int .i64 z)],fun _=>[],fun z=>-1≤z∧z≤(c.tenants.length:Int)+1,fun z=>((c.tenants.length:Int)+1-z).toNat,⟨-1,by omega,kp_,kp_⟩,?_⟩
 rintro z hz
 refine⟨⟨rfl,rfl⟩,?_⟩
 refine⟨fun hzl=>?_,fun hzg=>?_⟩
 ·have hzl2:z≤(c.tenants.length:Int):=of_decide_eq_true hzl
  clear hzl
  by_cases hr:0≤z∧z<(c.tenants.length:Int)
  ·by_cases he:(hf z.toNat).2=0
   ·refine⟨fun l hl=>?_,fun _=>?_⟩
    ·obtain⟨p,hp,-⟩:=hintF_some hl
     rw[hmOf_no hr he] at hp
     cases hp
    ·repeat (first | refine⟨fun _=>?_,fun h=>Bool.noConfusion h⟩ | refine⟨fun h=>Bool.noConfusion h,fun _=>?_⟩ | refine⟨⟨by first | exact Nat.le_refl _ | omega | fail,by first | omega | (dsimp only;omega) | fail,by first | omega | (dsimp only;omega) | fail⟩,?_⟩ | refine⟨fun q=>absurd q (by first | (simp[eqCs,eqC1];done) | fail),fun _=>?_⟩ | refine⟨fun _=>?_,fun q=>absurd q (by first | omega | (simp[-List.getD_eq_getElem?_getD];done) | (simp[-List.getD_eq_getElem?_getD];omega) | fail)⟩ | refine⟨fun q=>absurd q (by first | omega | (simp[-List.getD_eq_getElem?_getD];done) | (simp[-List.getD_eq_getElem?_getD];omega) | fail),fun _=>?_⟩ | fail)
     refine⟨fun l hl=>?_,fun _=>?_⟩
     ·obtain⟨p,hp,-⟩:=hintF_some hl
      rw[hmOf_no hr he] at hp
      cases hp
     ·repeat (first | refine⟨fun _=>?_,fun h=>Bool.noConfusion h⟩ | refine⟨fun h=>Bool.noConfusion h,fun _=>?_⟩ | refine⟨⟨by first | exact Nat.le_refl _ | omega | fail,by first | omega | (dsimp only;omega) | fail,by first | omega | (dsimp only;omega) | fail⟩,?_⟩ | refine⟨fun q=>absurd q (by first | (simp[eqCs,eqC1];done) | fail),fun _=>?_⟩ | refine⟨fun _=>?_,fun q=>absurd q (by first | omega | (simp[-List.getD_eq_getElem?_getD];done) | (simp[-List.getD_eq_getElem?_getD];omega) | fail)⟩ | refine⟨fun q=>absurd q (by first | omega | (simp[-List.getD_eq_getElem?_getD];done) | (simp[-List.getD_eq_getElem?_getD];omega) | fail),fun _=>?_⟩ | fail)
      refine⟨_,?_,kp_,kp_⟩
      rw[wrapi (n:=z+1) (by omega)]
      dsimp only
      exact⟨by omega,by omega⟩
   ·refine⟨fun l hl=>?_,fun hl=>?_⟩
    ·obtain⟨p,hp,rfl⟩:=hintF_some hl
     rw[hmOf_in hr he] at hp
     obtain rfl:=Option.some.inj hp
     repeat (first | refine⟨fun _=>?_,fun h=>Bool.noConfusion h⟩ | refine⟨fun h=>Bool.noConfusion h,fun _=>?_⟩ | refine⟨⟨by first | exact Nat.le_refl _ | omega | fail,by first | omega | (dsimp only;omega) | fail,by first | omega | (dsimp only;omega) | fail⟩,?_⟩ | refine⟨fun q=>absurd q (by first | (simp[eqCs,eqC1];done) | fail),fun _=>?_⟩ | refine⟨fun _=>?_,fun q=>absurd q (by first | omega | (simp[-List.getD_eq_getElem?_getD];done) | (simp[-List.getD_eq_getElem?_getD];omega) | fail)⟩ | refine⟨fun q=>absurd q (by first | omega | (simp[-List.getD_eq_getElem?_getD];done) | (simp[-List.getD_eq_getElem?_getD];omega) | fail),fun _=>?_⟩ | fail)
     refine⟨fun l hl=>?_,fun hl=>?_⟩
     ·obtain⟨p,hp,rfl⟩:=hintF_some hl
      rw[hmOf_in hr he] at hp
      obtain rfl:=Option.some.inj hp
      repeat (first | refine⟨fun _=>?_,fun h=>Bool.noConfusion h⟩ | refine⟨fun h=>Bool.noConfusion h,fun _=>?_⟩ | refine⟨⟨by first | exact Nat.le_refl _ | omega | fail,by first | omega | (dsimp only;omega) | fail,by first | omega | (dsimp only;omega) | fail⟩,?_⟩ | refine⟨fun q=>absurd q (by first | (simp[eqCs,eqC1];done) | fail),fun _=>?_⟩ | refine⟨fun _=>?_,fun q=>absurd q (by first | omega | (simp[-List.getD_eq_getElem?_getD];done) | (simp[-List.getD_eq_getElem?_getD];omega) | fail)⟩ | refine⟨fun q=>absurd q (by first | omega | (simp[-List.getD_eq_getElem?_getD];done) | (simp[-List.getD_eq_getElem?_getD];omega) | fail),fun _=>?_⟩ | fail)
      refine⟨_,?_,kp_,kp_⟩
      rw[wrapi (n:=z+1) (by omega)]
      dsimp only
      exact⟨by omega,by omega⟩
     ·have hp:=hintF_none hl
      rw[hmOf_in hr he] at hp
      cases hp
    ·have hp:=hintF_none hl
     rw[hmOf_in hr he] at hp
     cases hp
  ·by_cases h0:z<0
   ·refine⟨fun l hl=>?_,fun _=>?_⟩
    ·obtain⟨p,hp,-⟩:=hintF_some hl
     rw[hmOf_out hr] at hp
     cases hp
    ·repeat (first | refine⟨fun _=>?_,fun h=>Bool.noConfusion h⟩ | refine⟨fun h=>Bool.noConfusion h,fun _=>?_⟩ | refine⟨⟨by first | exact Nat.le_refl _ | omega | fail,by first | omega | (dsimp only;omega) | fail,by first | omega | (dsimp only;omega) | fail⟩,?_⟩ | refine⟨fun q=>absurd q (by first | (simp[eqCs,eqC1];done) | fail),fun _=>?_⟩ | refine⟨fun _=>?_,fun q=>absurd q (by first | omega | (simp[-List.getD_eq_getElem?_getD];done) | (simp[-List.getD_eq_getElem?_getD];omega) | fail)⟩ | refine⟨fun q=>absurd q (by first | omega | (simp[-List.getD_eq_getElem?_getD];done) | (simp[-List.getD_eq_getElem?_getD];omega) | fail),fun _=>?_⟩ | fail)
     refine⟨fun l hl=>?_,fun _=>?_⟩
     ·obtain⟨p,hp,-⟩:=hintF_some hl
      rw[hmOf_out hr] at hp
      cases hp
     ·repeat (first | refine⟨fun _=>?_,fun h=>Bool.noConfusion h⟩ | refine⟨fun h=>Bool.noConfusion h,fun _=>?_⟩ | refine⟨⟨by first | exact Nat.le_refl _ | omega | fail,by first | omega | (dsimp only;omega) | fail,by first | omega | (dsimp only;omega) | fail⟩,?_⟩ | refine⟨fun q=>absurd q (by first | (simp[eqCs,eqC1];done) | fail),fun _=>?_⟩ | refine⟨fun _=>?_,fun q=>absurd q (by first | omega | (simp[-List.getD_eq_getElem?_getD];done) | (simp[-List.getD_eq_getElem?_getD];omega) | fail)⟩ | refine⟨fun q=>absurd q (by first | omega | (simp[-List.getD_eq_getElem?_getD];done) | (simp[-List.getD_eq_getElem?_getD];omega) | fail),fun _=>?_⟩ | fail)
      refine⟨_,?_,kp_,kp_⟩
      rw[wrapi (n:=z+1) (by omega)]
      dsimp only
      exact⟨by omega,by omega⟩
   ·refine⟨fun l hl=>?_,fun _=>?_⟩
    ·obtain⟨p,hp,-⟩:=hintF_some hl
     rw[hmOf_out hr] at hp
     cases hp
    ·repeat (first | refine⟨fun _=>?_,fun h=>Bool.noConfusion h⟩ | refine⟨fun h=>Bool.noConfusion h,fun _=>?_⟩ | refine⟨⟨by first | exact Nat.le_refl _ | omega | fail,by first | omega | (dsimp only;omega) | fail,by first | omega | (dsimp only;omega) | fail⟩,?_⟩ | refine⟨fun q=>absurd q (by first | (simp[eqCs,eqC1];done) | fail),fun _=>?_⟩ | refine⟨fun _=>?_,fun q=>absurd q (by first | omega | (simp[-List.getD_eq_getElem?_getD];done) | (simp[-List.getD_eq_getElem?_getD];omega) | fail)⟩ | refine⟨fun q=>absurd q (by first | omega | (simp[-List.getD_eq_getElem?_getD];done) | (simp[-List.getD_eq_getElem?_getD];omega) | fail),fun _=>?_⟩ | fail)
     refine⟨fun l hl=>?_,fun _=>?_⟩
     ·obtain⟨p,hp,-⟩:=hintF_some hl
      rw[hmOf_out hr] at hp
      cases hp
     ·repeat (first | refine⟨fun _=>?_,fun h=>Bool.noConfusion h⟩ | refine⟨fun h=>Bool.noConfusion h,fun _=>?_⟩ | refine⟨⟨by first | exact Nat.le_refl _ | omega | fail,by first | omega | (dsimp only;omega) | fail,by first | omega | (dsimp only;omega) | fail⟩,?_⟩ | refine⟨fun q=>absurd q (by first | (simp[eqCs,eqC1];done) | fail),fun _=>?_⟩ | refine⟨fun _=>?_,fun q=>absurd q (by first | omega | (simp[-List.getD_eq_getElem?_getD];done) | (simp[-List.getD_eq_getElem?_getD];omega) | fail)⟩ | refine⟨fun q=>absurd q (by first | omega | (simp[-List.getD_eq_getElem?_getD];done) | (simp[-List.getD_eq_getElem?_getD];omega) | fail),fun _=>?_⟩ | fail)
      refine⟨_,?_,kp_,kp_⟩
      rw[wrapi (n:=z+1) (by omega)]
      dsimp only
      exact⟨by omega,by omega⟩
 ·repeat (first | refine⟨fun _=>?_,fun h=>Bool.noConfusion h⟩ | refine⟨fun h=>Bool.noConfusion h,fun _=>?_⟩ | refine⟨⟨by first | exact Nat.le_refl _ | omega | fail,by first | omega | (dsimp only;omega) | fail,by first | omega | (dsimp only;omega) | fail⟩,?_⟩ | refine⟨fun q=>absurd q (by first | (simp[eqCs,eqC1];done) | fail),fun _=>?_⟩ | refine⟨fun _=>?_,fun q=>absurd q (by first | omega | (simp[-List.getD_eq_getElem?_getD];done) | (simp[-List.getD_eq_getElem?_getD];omega) | fail)⟩ | refine⟨fun q=>absurd q (by first | omega | (simp[-List.getD_eq_getElem?_getD];done) | (simp[-List.getD_eq_getElem?_getD];omega) | fail),fun _=>?_⟩ | fail)
  exact⟨(),[],trivial,rfl,rfl,(by first | rfl | (show Value.bool (A.tick==A.tick)=.bool true;simp)),kp_⟩
theorem smNOk:CSound Tryz.prog 13 ctSmN:=ctObj_ok (F:=smF) (D:=smD) ttPok (smFok) mixed (by kernel_rfl) Tryz.func13 rfl (by kernel_rfl) (fun x=>by cases x;rfl) (fun x=>by cases x;rfl) (fun x y=>by cases x;cases y<;>rfl) (fun x hx=>by cases x;exact smN_sx _ _ _ _ _ _ _ _ _ _ _ _ _ hx)
def vsSmS:LX→List Value:=fun x=>match x with | ⟨c,xk,yk,key,hf,kh,t,x,e,A,kp,kq,elq⟩=>[ptr 28,ptr 31]
def mSmS:LX→AM:=fun x=>match x with | ⟨c,xk,yk,key,hf,kh,t,x,e,A,kp,kq,elq⟩=>[(28,.box 114 [.int .i64 c.regions,slc 21 c.zones.length yk.cz,slc 22 c.cells.length yk.cc,slc 23 c.tenants.length yk.ct,slc 24 c.versions.length yk.cv,slc 25 c.replicas.length yk.cr,slc 26 c.observers.length yk.co,.int .i64 c.blast,.int .i64 c.lease,.int .i64 c.bake,.int .i64 key,.bool true,.int .i64 A.number,.int .i64 A.tick,slc 52 A.routes.length kp,.int .u64 A.parent,.int .u64 A.sum,.map (some 27)]),(27,.ext (.map .i64 true (hintF (hmOf c.tenants.length hf)))),(31,.box 116 [.int .i64 c.regions,slc 18 c.zones.length xk.cz,slc 17 c.cells.length xk.cc,slc 16 c.tenants.length xk.ct,slc 15 c.versions.length xk.cv,slc 14 c.replicas.length xk.cr,slc 13 c.observers.length xk.co,.int .i64 c.blast,.int .i64 c.lease,.int .i64 c.bake,.int .i64 key,.bool true,.int .i64 A.number,.int .i64 A.tick,slc 53 A.routes.length kq,.int .u64 A.parent,.int .u64 A.sum,slc 30 c.tenants.length kh]),(30,.row (1000000+92) 2 kh (fun k=>pairC (hf k))),(52,rowOfL 0 2 pairC (0,0) A.routes),(53,.row (1000000+92) 2 kq elq)]
def preSmS:LX→Prop:=fun x=>match x with | ⟨c,xk,yk,key,hf,kh,t,x,e,A,kp,kq,elq⟩=>(CfgV c∧Lens c)∧HfOk c.tenants.length hf∧c.tenants.length≤kh∧(ValidA c A key∧A.routes.length≤kq∧∀ k,k<A.routes.length→elq k=pairC (A.routes.getD k (0,0)))
def postSmS:LX→Unit→Prop:=fun x y=>match x with | ⟨c,xk,yk,key,hf,kh,t,x,e,A,kp,kq,elq⟩=>match y with | _=>True
def VSmS:LX→Unit→Value:=fun x y=>match x with | ⟨c,xk,yk,key,hf,kh,t,x,e,A,kp,kq,elq⟩=>match y with | _=>.bool true
def MSmS:LX→Unit→AM:=fun x y=>match x with | ⟨c,xk,yk,key,hf,kh,t,x,e,A,kp,kq,elq⟩=>match y with | _=>[(28,.box 114 [.int .i64 c.regions,slc 21 c.zones.length yk.cz,slc 22 c.cells.length yk.cc,slc 23 c.tenants.length yk.ct,slc 24 c.versions.length yk.cv,slc 25 c.replicas.length yk.cr,slc 26 c.observers.length yk.co,.int .i64 c.blast,.int .i64 c.lease,.int .i64 c.bake,.int .i64 key,.bool true,.int .i64 A.number,.int .i64 A.tick,slc 52 A.routes.length kp,.int .u64 A.parent,.int .u64 A.sum,.map (some 27)]),(27,.ext (.map .i64 true (hintF (hmOf c.tenants.length hf)))),(31,.box 116 [.int .i64 c.regions,slc 18 c.zones.length xk.cz,slc 17 c.cells.length xk.cc,slc 16 c.tenants.length xk.ct,slc 15 c.versions.length xk.cv,slc 14 c.replicas.length xk.cr,slc 13 c.observers.length xk.co,.int .i64 c.blast,.int .i64 c.lease,.int .i64 c.bake,.int .i64 key,.bool true,.int .i64 A.number,.int .i64 A.tick,slc 53 A.routes.length kq,.int .u64 A.parent,.int .u64 A.sum,slc 30 c.tenants.length kh]),(30,.row (1000000+92) 2 kh (fun k=>pairC (hf k))),(53,.row (1000000+92) 2 kq elq)]
def ctSmS:CT:=ctObj vsSmS mSmS 54 preSmS postSmS VSmS MSmS 0
set_option maxRecDepth 100000 in
set_option maxHeartbeats 400000000 in
theorem smS_sx (c:Cfg) (xk yk:CfgK) (key:Int) (hf:HF) (kh:Nat) (t x e:Int) (A:Atl) (kp kq:Nat) (elq:Nat→List Value) (hp:(CfgV c∧Lens c)∧HfOk c.tenants.length hf∧c.tenants.length≤kh∧(ValidA c A key∧A.routes.length≤kq∧∀ k,k<A.routes.length→elq k=pairC (A.routes.getD k (0,0)))) :
  sx ttP smF smD (bodyOf Tryz.f13) (argF 0 [ptr 28,ptr 31]) [(28,.box 114 [.int .i64 c.regions,slc 21 c.zones.length yk.cz,slc 22 c.cells.length yk.cc,slc 23 c.tenants.length yk.ct,slc 24 c.versions.length yk.cv,slc 25 c.replicas.length yk.cr,slc 26 c.observers.length yk.co,.int .i64 c.blast,.int .i64 c.lease,.int .i64 c.bake,.int .i64 key,.bool true,.int .i64 A.number,.int .i64 A.tick,slc 52 A.routes.length kp,.int .u64 A.parent,.int .u64 A.sum,.map (some 27)]),(27,.ext (.map .i64 true (hintF (hmOf c.tenants.length hf)))),(31,.box 116 [.int .i64 c.regions,slc 18 c.zones.length xk.cz,slc 17 c.cells.length xk.cc,slc 16 c.tenants.length xk.ct,slc 15 c.versions.length xk.cv,slc 14 c.replicas.length xk.cr,slc 13 c.observers.length xk.co,.int .i64 c.blast,.int .i64 c.lease,.int .i64 c.bake,.int .i64 key,.bool true,.int .i64 A.number,.int .i64 A.tick,slc 53 A.routes.length kq,.int .u64 A.parent,.int .u64 A.sum,slc 30 c.tenants.length kh]),(30,.row (1000000+92) 2 kh (fun k=>pairC (hf k))),(52,rowOfL 0 2 pairC (0,0) A.routes),(53,.row (1000000+92) 2 kq elq)] 54 (endx ttP Tryz.f13.results.toList (objR 54 (postSmS ⟨c,xk,yk,key,hf,kh,t,x,e,A,kp,kq,elq⟩) (VSmS ⟨c,xk,yk,key,hf,kh,t,x,e,A,kp,kq,elq⟩) (MSmS ⟨c,xk,yk,key,hf,kh,t,x,e,A,kp,kq,elq⟩))):=by
 obtain⟨⟨hV,hL⟩,hH⟩:=hp
 have hnt:=hV.nt
 have hnc:=hV.nc
 obtain⟨hH,hkh,hva,hkq,hel⟩:=hH
 have hal:=hva.len
 refine⟨Int,fun z=>[(5,.int .i64 z)],fun _=>[],fun z=>-1≤z∧z≤(c.tenants.length:Int)+1,fun z=>((c.tenants.length:Int)+1-z).toNat,⟨-1,by omega,kp_,kp_⟩,?_⟩
 rintro z hz
 refine⟨⟨rfl,rfl⟩,?_⟩
 refine⟨fun hzl=>?_,fun hzg=>?_⟩
 ·have hzl2:z≤(c.tenants.length:Int):=of_decide_eq_true hzl
  clear hzl
  by_cases hr:0≤z∧z<(c.tenants.length:Int)
  ·by_cases he:(hf z.toNat).2=0
   ·have hcv:=(hva.rt (k:=z.toNat) (by omega)).1
    by_cases hc:(A.routes.getD z.toNat (0,0)).1=-1
    ·refine⟨fun l hl=>?_,fun _=>?_⟩
     ·obtain⟨p,hp,-⟩:=hintF_some hl
      rw[hmOf_no hr he] at hp
      cases hp
     ·repeat (first | refine⟨fun _=>?_,fun h=>Bool.noConfusion h⟩ | refine⟨fun h=>Bool.noConfusion h,fun _=>?_⟩ | refine⟨⟨by first | exact Nat.le_refl _ | omega | fail,by first | omega | (dsimp only;omega) | fail,by first | omega | (dsimp only;omega) | fail⟩,?_⟩ | refine⟨fun q=>absurd q (by first | (simp[eqCs,eqC1];done) | fail),fun _=>?_⟩ | refine⟨fun _=>?_,fun q=>absurd q (by first | omega | (simp[-List.getD_eq_getElem?_getD];done) | (simp[-List.getD_eq_getElem?_getD];omega) | fail)⟩ | refine⟨fun q=>absurd q (by first | omega | (simp[-List.getD_eq_getElem?_getD];done) | (simp[-List.getD_eq_getElem?_getD];omega) | fail),fun _=>?_⟩ | fail)
      conv=>whnf
      rw[vx_row_at (v:=.int .i64 (A.routes.getD z.toNat (0,0)).1) (hel z.toNat (by omega)) ?hx ?ht ?hm ?hv]
      case hx=>rfl
      case ht=>rfl
      case hm=>rfl
      case hv=>rfl
      repeat (first | refine⟨fun _=>?_,fun h=>Bool.noConfusion h⟩ | refine⟨fun h=>Bool.noConfusion h,fun _=>?_⟩ | refine⟨⟨by first | exact Nat.le_refl _ | omega | fail,by first | omega | (dsimp only;omega) | fail,by first | omega | (dsimp only;omega) | fail⟩,?_⟩ | refine⟨fun q=>absurd q (by first | (simp[eqCs,eqC1];done) | fail),fun _=>?_⟩ | refine⟨fun _=>?_,fun q=>absurd q (by first | omega | (simp[-List.getD_eq_getElem?_getD];done) | (simp[-List.getD_eq_getElem?_getD];omega) | fail)⟩ | refine⟨fun q=>absurd q (by first | omega | (simp[-List.getD_eq_getElem?_getD];done) | (simp[-List.getD_eq_getElem?_getD];omega) | fail),fun _=>?_⟩ | fail)
      refine⟨fun l hl=>?_,fun _=>?_⟩
      ·obtain⟨p,hp,-⟩:=hintF_some hl
       rw[hmOf_no hr he] at hp
       cases hp
      ·repeat (first | refine⟨fun _=>?_,fun h=>Bool.noConfusion h⟩ | refine⟨fun h=>Bool.noConfusion h,fun _=>?_⟩ | refine⟨⟨by first | exact Nat.le_refl _ | omega | fail,by first | omega | (dsimp only;omega) | fail,by first | omega | (dsimp only;omega) | fail⟩,?_⟩ | refine⟨fun q=>absurd q (by first | (simp[eqCs,eqC1];done) | fail),fun _=>?_⟩ | refine⟨fun _=>?_,fun q=>absurd q (by first | omega | (simp[-List.getD_eq_getElem?_getD];done) | (simp[-List.getD_eq_getElem?_getD];omega) | fail)⟩ | refine⟨fun q=>absurd q (by first | omega | (simp[-List.getD_eq_getElem?_getD];done) | (simp[-List.getD_eq_getElem?_getD];omega) | fail),fun _=>?_⟩ | fail)
       refine⟨_,?_,kp_,kp_⟩
       rw[wrapi (n:=z+1) (by omega)]
       dsimp only
       exact⟨by omega,by omega⟩
    ·refine⟨fun l hl=>?_,fun _=>?_⟩
     ·obtain⟨p,hp,-⟩:=hintF_some hl
      rw[hmOf_no hr he] at hp
      cases hp
     ·repeat (first | refine⟨fun _=>?_,fun h=>Bool.noConfusion h⟩ | refine⟨fun h=>Bool.noConfusion h,fun _=>?_⟩ | refine⟨⟨by first | exact Nat.le_refl _ | omega | fail,by first | omega | (dsimp only;omega) | fail,by first | omega | (dsimp only;omega) | fail⟩,?_⟩ | refine⟨fun q=>absurd q (by first | (simp[eqCs,eqC1];done) | fail),fun _=>?_⟩ | refine⟨fun _=>?_,fun q=>absurd q (by first | omega | (simp[-List.getD_eq_getElem?_getD];done) | (simp[-List.getD_eq_getElem?_getD];omega) | fail)⟩ | refine⟨fun q=>absurd q (by first | omega | (simp[-List.getD_eq_getElem?_getD];done) | (simp[-List.getD_eq_getElem?_getD];omega) | fail),fun _=>?_⟩ | fail)
      conv=>whnf
      rw[vx_row_at (v:=.int .i64 (A.routes.getD z.toNat (0,0)).1) (hel z.toNat (by omega)) ?hx ?ht ?hm ?hv]
      case hx=>rfl
      case ht=>rfl
      case hm=>rfl
      case hv=>rfl
      repeat (first | refine⟨fun _=>?_,fun h=>Bool.noConfusion h⟩ | refine⟨fun h=>Bool.noConfusion h,fun _=>?_⟩ | refine⟨⟨by first | exact Nat.le_refl _ | omega | fail,by first | omega | (dsimp only;omega) | fail,by first | omega | (dsimp only;omega) | fail⟩,?_⟩ | refine⟨fun q=>absurd q (by first | (simp[eqCs,eqC1];done) | fail),fun _=>?_⟩ | refine⟨fun _=>?_,fun q=>absurd q (by first | omega | (simp[-List.getD_eq_getElem?_getD];done) | (simp[-List.getD_eq_getElem?_getD];omega) | fail)⟩ | refine⟨fun q=>absurd q (by first | omega | (simp[-List.getD_eq_getElem?_getD];done) | (simp[-List.getD_eq_getElem?_getD];omega) | fail),fun _=>?_⟩ | fail)
      conv=>whnf
      rw[vx_row_at (v:=.agg #[.int .i64 (A.routes.getD z.toNat (0,0)).1,.int .i64 (A.routes.getD z.toNat (0,0)).2]) (hel z.toNat (by omega)) ?hx ?ht ?hm ?hv]
      case hx=>rfl
      case ht=>rfl
      case hm=>rfl
      case hv=>rfl
      repeat (first | refine⟨fun _=>?_,fun h=>Bool.noConfusion h⟩ | refine⟨fun h=>Bool.noConfusion h,fun _=>?_⟩ | refine⟨⟨by first | exact Nat.le_refl _ | omega | fail,by first | omega | (dsimp only;omega) | fail,by first | omega | (dsimp only;omega) | fail⟩,?_⟩ | refine⟨fun q=>absurd q (by first | (simp[eqCs,eqC1];done) | fail),fun _=>?_⟩ | refine⟨fun _=>?_,fun q=>absurd q (by first | omega | (simp[-List.getD_eq_getElem?_getD];done) | (simp[-List.getD_eq_getElem?_getD];omega) | fail)⟩ | refine⟨fun q=>absurd q (by first | omega | (simp[-List.getD_eq_getElem?_getD];done) | (simp[-List.getD_eq_getElem?_getD];omega) | fail),fun _=>?_⟩ | fail)
      refine⟨fun l hl=>?_,fun _=>?_⟩
      ·obtain⟨p,hp,-⟩:=hintF_some hl
       rw[hmOf_no hr he] at hp
       cases hp
      ·repeat (first | refine⟨fun _=>?_,fun h=>Bool.noConfusion h⟩ | refine⟨fun h=>Bool.noConfusion h,fun _=>?_⟩ | refine⟨⟨by first | exact Nat.le_refl _ | omega | fail,by first | omega | (dsimp only;omega) | fail,by first | omega | (dsimp only;omega) | fail⟩,?_⟩ | refine⟨fun q=>absurd q (by first | (simp[eqCs,eqC1];done) | fail),fun _=>?_⟩ | refine⟨fun _=>?_,fun q=>absurd q (by first | omega | (simp[-List.getD_eq_getElem?_getD];done) | (simp[-List.getD_eq_getElem?_getD];omega) | fail)⟩ | refine⟨fun q=>absurd q (by first | omega | (simp[-List.getD_eq_getElem?_getD];done) | (simp[-List.getD_eq_getElem?_getD];omega) | fail),fun _=>?_⟩ | fail)
       refine⟨_,?_,kp_,kp_⟩
       rw[wrapi (n:=z+1) (by omega)]
       dsimp only
       exact⟨by omega,by omega⟩
   ·refine⟨fun l hl=>?_,fun hl=>?_⟩
    ·obtain⟨p,hp,rfl⟩:=hintF_some hl
     rw[hmOf_in hr he] at hp
     obtain rfl:=Option.some.inj hp
     repeat (first | refine⟨fun _=>?_,fun h=>Bool.noConfusion h⟩ | refine⟨fun h=>Bool.noConfusion h,fun _=>?_⟩ | refine⟨⟨by first | exact Nat.le_refl _ | omega | fail,by first | omega | (dsimp only;omega) | fail,by first | omega | (dsimp only;omega) | fail⟩,?_⟩ | refine⟨fun q=>absurd q (by first | (simp[eqCs,eqC1];done) | fail),fun _=>?_⟩ | refine⟨fun _=>?_,fun q=>absurd q (by first | omega | (simp[-List.getD_eq_getElem?_getD];done) | (simp[-List.getD_eq_getElem?_getD];omega) | fail)⟩ | refine⟨fun q=>absurd q (by first | omega | (simp[-List.getD_eq_getElem?_getD];done) | (simp[-List.getD_eq_getElem?_getD];omega) | fail),fun _=>?_⟩ | fail)
     refine⟨fun l hl=>?_,fun hl=>?_⟩
     ·obtain⟨p,hp,rfl⟩:=hintF_some hl
      rw[hmOf_in hr he] at hp
      obtain rfl:=Option.some.inj hp
      repeat (first | refine⟨fun _=>?_,fun h=>Bool.noConfusion h⟩ | refine⟨fun h=>Bool.noConfusion h,fun _=>?_⟩ | refine⟨⟨by first | exact Nat.le_refl _ | omega | fail,by first | omega | (dsimp only;omega) | fail,by first | omega | (dsimp only;omega) | fail⟩,?_⟩ | refine⟨fun q=>absurd q (by first | (simp[eqCs,eqC1];done) | fail),fun _=>?_⟩ | refine⟨fun _=>?_,fun q=>absurd q (by first | omega | (simp[-List.getD_eq_getElem?_getD];done) | (simp[-List.getD_eq_getElem?_getD];omega) | fail)⟩ | refine⟨fun q=>absurd q (by first | omega | (simp[-List.getD_eq_getElem?_getD];done) | (simp[-List.getD_eq_getElem?_getD];omega) | fail),fun _=>?_⟩ | fail)
      refine⟨_,?_,kp_,kp_⟩
      rw[wrapi (n:=z+1) (by omega)]
      dsimp only
      exact⟨by omega,by omega⟩
     ·have hp:=hintF_none hl
      rw[hmOf_in hr he] at hp
      cases hp
    ·have hp:=hintF_none hl
     rw[hmOf_in hr he] at hp
     cases hp
  ·by_cases h0:z<0
   ·refine⟨fun l hl=>?_,fun _=>?_⟩
    ·obtain⟨p,hp,-⟩:=hintF_some hl
     rw[hmOf_out hr] at hp
     cases hp
    ·repeat (first | refine⟨fun _=>?_,fun h=>Bool.noConfusion h⟩ | refine⟨fun h=>Bool.noConfusion h,fun _=>?_⟩ | refine⟨⟨by first | exact Nat.le_refl _ | omega | fail,by first | omega | (dsimp only;omega) | fail,by first | omega | (dsimp only;omega) | fail⟩,?_⟩ | refine⟨fun q=>absurd q (by first | (simp[eqCs,eqC1];done) | fail),fun _=>?_⟩ | refine⟨fun _=>?_,fun q=>absurd q (by first | omega | (simp[-List.getD_eq_getElem?_getD];done) | (simp[-List.getD_eq_getElem?_getD];omega) | fail)⟩ | refine⟨fun q=>absurd q (by first | omega | (simp[-List.getD_eq_getElem?_getD];done) | (simp[-List.getD_eq_getElem?_getD];omega) | fail),fun _=>?_⟩ | fail)
     refine⟨fun l hl=>?_,fun _=>?_⟩
     ·obtain⟨p,hp,-⟩:=hintF_some hl
      rw[hmOf_out hr] at hp
      cases hp
     ·repeat (first | refine⟨fun _=>?_,fun h=>Bool.noConfusion h⟩ | refine⟨fun h=>Bool.noConfusion h,fun _=>?_⟩ | refine⟨⟨by first | exact Nat.le_refl _ | omega | fail,by first | omega | (dsimp only;omega) | fail,by first | omega | (dsimp only;omega) | fail⟩,?_⟩ | refine⟨fun q=>absurd q (by first | (simp[eqCs,eqC1];done) | fail),fun _=>?_⟩ | refine⟨fun _=>?_,fun q=>absurd q (by first | omega | (simp[-List.getD_eq_getElem?_getD];done) | (simp[-List.getD_eq_getElem?_getD];omega) | fail)⟩ | refine⟨fun q=>absurd q (by first | omega | (simp[-List.getD_eq_getElem?_getD];done) | (simp[-List.getD_eq_getElem?_getD];omega) | fail),fun _=>?_⟩ | fail)
      refine⟨_,?_,kp_,kp_⟩
      rw[wrapi (n:=z+1) (by omega)]
      dsimp only
      exact⟨by omega,by omega⟩
   ·refine⟨fun l hl=>?_,fun _=>?_⟩
    ·obtain⟨p,hp,-⟩:=hintF_some hl
     rw[hmOf_out hr] at hp
     cases hp
    ·repeat (first | refine⟨fun _=>?_,fun h=>Bool.noConfusion h⟩ | refine⟨fun h=>Bool.noConfusion h,fun _=>?_⟩ | refine⟨⟨by first | exact Nat.le_refl _ | omega | fail,by first | omega | (dsimp only;omega) | fail,by first | omega | (dsimp only;omega) | fail⟩,?_⟩ | refine⟨fun q=>absurd q (by first | (simp[eqCs,eqC1];done) | fail),fun _=>?_⟩ | refine⟨fun _=>?_,fun q=>absurd q (by first | omega | (simp[-List.getD_eq_getElem?_getD];done) | (simp[-List.getD_eq_getElem?_getD];omega) | fail)⟩ | refine⟨fun q=>absurd q (by first | omega | (simp[-List.getD_eq_getElem?_getD];done) | (simp[-List.getD_eq_getElem?_getD];omega) | fail),fun _=>?_⟩ | fail)
     refine⟨fun l hl=>?_,fun _=>?_⟩
     ·obtain⟨p,hp,-⟩:=hintF_some hl
      rw[hmOf_out hr] at hp
      cases hp
     ·repeat (first | refine⟨fun _=>?_,fun h=>Bool.noConfusion h⟩ | refine⟨fun h=>Bool.noConfusion h,fun _=>?_⟩ | refine⟨⟨by first | exact Nat.le_refl _ | omega | fail,by first | omega | (dsimp only;omega) | fail,by first | omega | (dsimp only;omega) | fail⟩,?_⟩ | refine⟨fun q=>absurd q (by first | (simp[eqCs,eqC1];done) | fail),fun _=>?_⟩ | refine⟨fun _=>?_,fun q=>absurd q (by first | omega | (simp[-List.getD_eq_getElem?_getD];done) | (simp[-List.getD_eq_getElem?_getD];omega) | fail)⟩ | refine⟨fun q=>absurd q (by first | omega | (simp[-List.getD_eq_getElem?_getD];done) | (simp[-List.getD_eq_getElem?_getD];omega) | fail),fun _=>?_⟩ | fail)
      refine⟨_,?_,kp_,kp_⟩
      rw[wrapi (n:=z+1) (by omega)]
      dsimp only
      exact⟨by omega,by omega⟩
 ·repeat (first | refine⟨fun _=>?_,fun h=>Bool.noConfusion h⟩ | refine⟨fun h=>Bool.noConfusion h,fun _=>?_⟩ | refine⟨⟨by first | exact Nat.le_refl _ | omega | fail,by first | omega | (dsimp only;omega) | fail,by first | omega | (dsimp only;omega) | fail⟩,?_⟩ | refine⟨fun q=>absurd q (by first | (simp[eqCs,eqC1];done) | fail),fun _=>?_⟩ | refine⟨fun _=>?_,fun q=>absurd q (by first | omega | (simp[-List.getD_eq_getElem?_getD];done) | (simp[-List.getD_eq_getElem?_getD];omega) | fail)⟩ | refine⟨fun q=>absurd q (by first | omega | (simp[-List.getD_eq_getElem?_getD];done) | (simp[-List.getD_eq_getElem?_getD];omega) | fail),fun _=>?_⟩ | fail)
  exact⟨(),[],trivial,rfl,rfl,(by first | rfl | (show Value.bool (A.tick==A.tick)=.bool true;simp)),kp_⟩
theorem smSOk:CSound Tryz.prog 13 ctSmS:=ctObj_ok (F:=smF) (D:=smD) ttPok (smFok) mixed (by kernel_rfl) Tryz.func13 rfl (by kernel_rfl) (fun x=>by cases x;rfl) (fun x=>by cases x;rfl) (fun x y=>by cases x;cases y<;>rfl) (fun x hx=>by cases x;exact smS_sx _ _ _ _ _ _ _ _ _ _ _ _ _ hx)
def vsSmE:LX→List Value:=fun x=>match x with | ⟨c,xk,yk,key,hf,kh,t,x,e,A,kp,kq,elq⟩=>[ptr 28,ptr 31]
def mSmE:LX→AM:=fun x=>match x with | ⟨c,xk,yk,key,hf,kh,t,x,e,A,kp,kq,elq⟩=>[(28,.box 114 [.int .i64 c.regions,slc 21 c.zones.length yk.cz,slc 22 c.cells.length yk.cc,slc 23 c.tenants.length yk.ct,slc 24 c.versions.length yk.cv,slc 25 c.replicas.length yk.cr,slc 26 c.observers.length yk.co,.int .i64 c.blast,.int .i64 c.lease,.int .i64 c.bake,.int .i64 key,.bool false,.int .i64 0,.int .i64 0,zs0,.int .u64 0,.int .u64 0,.map (some 27)]),(27,.ext (.map .i64 true (hintF (hmOf c.tenants.length hf)))),(31,.box 116 [.int .i64 c.regions,slc 18 c.zones.length xk.cz,slc 17 c.cells.length xk.cc,slc 16 c.tenants.length xk.ct,slc 15 c.versions.length xk.cv,slc 14 c.replicas.length xk.cr,slc 13 c.observers.length xk.co,.int .i64 c.blast,.int .i64 c.lease,.int .i64 c.bake,.int .i64 key,.bool false,.int .i64 0,.int .i64 0,slc 53 0 0,.int .u64 0,.int .u64 0,slc 30 c.tenants.length kh]),(30,.row (1000000+92) 2 kh (fun k=>pairC (hf k))),(53,.row (1000000+92) 2 0 elq)]
def preSmE:LX→Prop:=fun x=>match x with | ⟨c,xk,yk,key,hf,kh,t,x,e,A,kp,kq,elq⟩=>(CfgV c∧Lens c)∧HfOk c.tenants.length hf∧c.tenants.length≤kh
def postSmE:LX→Unit→Prop:=fun x y=>match x with | ⟨c,xk,yk,key,hf,kh,t,x,e,A,kp,kq,elq⟩=>match y with | _=>True
def VSmE:LX→Unit→Value:=fun x y=>match x with | ⟨c,xk,yk,key,hf,kh,t,x,e,A,kp,kq,elq⟩=>match y with | _=>.bool true
def MSmE:LX→Unit→AM:=fun x y=>match x with | ⟨c,xk,yk,key,hf,kh,t,x,e,A,kp,kq,elq⟩=>match y with | _=>[(28,.box 114 [.int .i64 c.regions,slc 21 c.zones.length yk.cz,slc 22 c.cells.length yk.cc,slc 23 c.tenants.length yk.ct,slc 24 c.versions.length yk.cv,slc 25 c.replicas.length yk.cr,slc 26 c.observers.length yk.co,.int .i64 c.blast,.int .i64 c.lease,.int .i64 c.bake,.int .i64 key,.bool false,.int .i64 0,.int .i64 0,zs0,.int .u64 0,.int .u64 0,.map (some 27)]),(27,.ext (.map .i64 true (hintF (hmOf c.tenants.length hf)))),(31,.box 116 [.int .i64 c.regions,slc 18 c.zones.length xk.cz,slc 17 c.cells.length xk.cc,slc 16 c.tenants.length xk.ct,slc 15 c.versions.length xk.cv,slc 14 c.replicas.length xk.cr,slc 13 c.observers.length xk.co,.int .i64 c.blast,.int .i64 c.lease,.int .i64 c.bake,.int .i64 key,.bool false,.int .i64 0,.int .i64 0,slc 53 0 0,.int .u64 0,.int .u64 0,slc 30 c.tenants.length kh]),(30,.row (1000000+92) 2 kh (fun k=>pairC (hf k))),(53,.row (1000000+92) 2 0 elq)]
def ctSmE:CT:=ctObj vsSmE mSmE 54 preSmE postSmE VSmE MSmE 0
set_option maxRecDepth 100000 in
set_option maxHeartbeats 400000000 in
theorem smE_sx (c:Cfg) (xk yk:CfgK) (key:Int) (hf:HF) (kh:Nat) (t x e:Int) (A:Atl) (kp kq:Nat) (elq:Nat→List Value) (hp:(CfgV c∧Lens c)∧HfOk c.tenants.length hf∧c.tenants.length≤kh) :
  sx ttP smF smD (bodyOf Tryz.f13) (argF 0 [ptr 28,ptr 31]) [(28,.box 114 [.int .i64 c.regions,slc 21 c.zones.length yk.cz,slc 22 c.cells.length yk.cc,slc 23 c.tenants.length yk.ct,slc 24 c.versions.length yk.cv,slc 25 c.replicas.length yk.cr,slc 26 c.observers.length yk.co,.int .i64 c.blast,.int .i64 c.lease,.int .i64 c.bake,.int .i64 key,.bool false,.int .i64 0,.int .i64 0,zs0,.int .u64 0,.int .u64 0,.map (some 27)]),(27,.ext (.map .i64 true (hintF (hmOf c.tenants.length hf)))),(31,.box 116 [.int .i64 c.regions,slc 18 c.zones.length xk.cz,slc 17 c.cells.length xk.cc,slc 16 c.tenants.length xk.ct,slc 15 c.versions.length xk.cv,slc 14 c.replicas.length xk.cr,slc 13 c.observers.length xk.co,.int .i64 c.blast,.int .i64 c.lease,.int .i64 c.bake,.int .i64 key,.bool false,.int .i64 0,.int .i64 0,slc 53 0 0,.int .u64 0,.int .u64 0,slc 30 c.tenants.length kh]),(30,.row (1000000+92) 2 kh (fun k=>pairC (hf k))),(53,.row (1000000+92) 2 0 elq)] 54 (endx ttP Tryz.f13.results.toList (objR 54 (postSmE ⟨c,xk,yk,key,hf,kh,t,x,e,A,kp,kq,elq⟩) (VSmE ⟨c,xk,yk,key,hf,kh,t,x,e,A,kp,kq,elq⟩) (MSmE ⟨c,xk,yk,key,hf,kh,t,x,e,A,kp,kq,elq⟩))):=by
 obtain⟨⟨hV,hL⟩,hH⟩:=hp
 have hnt:=hV.nt
 have hnc:=hV.nc
 obtain⟨hH,hkh⟩:=hH
 refine⟨Int,fun z=>[(5,.int .i64 z)],fun _=>[],fun z=>-1≤z∧z≤(c.tenants.length:Int)+1,fun z=>((c.tenants.length:Int)+1-z).toNat,⟨-1,by omega,kp_,kp_⟩,?_⟩
 rintro z hz
 refine⟨⟨rfl,rfl⟩,?_⟩
 refine⟨fun hzl=>?_,fun hzg=>?_⟩
 ·have hzl2:z≤(c.tenants.length:Int):=of_decide_eq_true hzl
  clear hzl
  by_cases hr:0≤z∧z<(c.tenants.length:Int)
  ·by_cases he:(hf z.toNat).2=0
   ·refine⟨fun l hl=>?_,fun _=>?_⟩
    ·obtain⟨p,hp,-⟩:=hintF_some hl
     rw[hmOf_no hr he] at hp
     cases hp
    ·repeat (first | refine⟨fun _=>?_,fun h=>Bool.noConfusion h⟩ | refine⟨fun h=>Bool.noConfusion h,fun _=>?_⟩ | refine⟨⟨by first | exact Nat.le_refl _ | omega | fail,by first | omega | (dsimp only;omega) | fail,by first | omega | (dsimp only;omega) | fail⟩,?_⟩ | refine⟨fun q=>absurd q (by first | (simp[eqCs,eqC1];done) | fail),fun _=>?_⟩ | refine⟨fun _=>?_,fun q=>absurd q (by first | omega | (simp[-List.getD_eq_getElem?_getD];done) | (simp[-List.getD_eq_getElem?_getD];omega) | fail)⟩ | refine⟨fun q=>absurd q (by first | omega | (simp[-List.getD_eq_getElem?_getD];done) | (simp[-List.getD_eq_getElem?_getD];omega) | fail),fun _=>?_⟩ | fail)
     refine⟨fun l hl=>?_,fun _=>?_⟩
     ·obtain⟨p,hp,-⟩:=hintF_some hl
      rw[hmOf_no hr he] at hp
      cases hp
     ·repeat (first | refine⟨fun _=>?_,fun h=>Bool.noConfusion h⟩ | refine⟨fun h=>Bool.noConfusion h,fun _=>?_⟩ | refine⟨⟨by first | exact Nat.le_refl _ | omega | fail,by first | omega | (dsimp only;omega) | fail,by first | omega | (dsimp only;omega) | fail⟩,?_⟩ | refine⟨fun q=>absurd q (by first | (simp[eqCs,eqC1];done) | fail),fun _=>?_⟩ | refine⟨fun _=>?_,fun q=>absurd q (by first | omega | (simp[-List.getD_eq_getElem?_getD];done) | (simp[-List.getD_eq_getElem?_getD];omega) | fail)⟩ | refine⟨fun q=>absurd q (by first | omega | (simp[-List.getD_eq_getElem?_getD];done) | (simp[-List.getD_eq_getElem?_getD];omega) | fail),fun _=>?_⟩ | fail)
      refine⟨_,?_,kp_,kp_⟩
      rw[wrapi (n:=z+1) (by omega)]
      dsimp only
      exact⟨by omega,by omega⟩
   ·refine⟨fun l hl=>?_,fun hl=>?_⟩
    ·obtain⟨p,hp,rfl⟩:=hintF_some hl
     rw[hmOf_in hr he] at hp
     obtain rfl:=Option.some.inj hp
     repeat (first | refine⟨fun _=>?_,fun h=>Bool.noConfusion h⟩ | refine⟨fun h=>Bool.noConfusion h,fun _=>?_⟩ | refine⟨⟨by first | exact Nat.le_refl _ | omega | fail,by first | omega | (dsimp only;omega) | fail,by first | omega | (dsimp only;omega) | fail⟩,?_⟩ | refine⟨fun q=>absurd q (by first | (simp[eqCs,eqC1];done) | fail),fun _=>?_⟩ | refine⟨fun _=>?_,fun q=>absurd q (by first | omega | (simp[-List.getD_eq_getElem?_getD];done) | (simp[-List.getD_eq_getElem?_getD];omega) | fail)⟩ | refine⟨fun q=>absurd q (by first | omega | (simp[-List.getD_eq_getElem?_getD];done) | (simp[-List.getD_eq_getElem?_getD];omega) | fail),fun _=>?_⟩ | fail)
     refine⟨fun l hl=>?_,fun hl=>?_⟩
     ·obtain⟨p,hp,rfl⟩:=hintF_some hl
      rw[hmOf_in hr he] at hp
      obtain rfl:=Option.some.inj hp
      repeat (first | refine⟨fun _=>?_,fun h=>Bool.noConfusion h⟩ | refine⟨fun h=>Bool.noConfusion h,fun _=>?_⟩ | refine⟨⟨by first | exact Nat.le_refl _ | omega | fail,by first | omega | (dsimp only;omega) | fail,by first | omega | (dsimp only;omega) | fail⟩,?_⟩ | refine⟨fun q=>absurd q (by first | (simp[eqCs,eqC1];done) | fail),fun _=>?_⟩ | refine⟨fun _=>?_,fun q=>absurd q (by first | omega | (simp[-List.getD_eq_getElem?_getD];done) | (simp[-List.getD_eq_getElem?_getD];omega) | fail)⟩ | refine⟨fun q=>absurd q (by first | omega | (simp[-List.getD_eq_getElem?_getD];done) | (simp[-List.getD_eq_getElem?_getD];omega) | fail),fun _=>?_⟩ | fail)
      refine⟨_,?_,kp_,kp_⟩
      rw[wrapi (n:=z+1) (by omega)]
      dsimp only
      exact⟨by omega,by omega⟩
     ·have hp:=hintF_none hl
      rw[hmOf_in hr he] at hp
      cases hp
    ·have hp:=hintF_none hl
     rw[hmOf_in hr he] at hp
     cases hp
  ·by_cases h0:z<0
   ·refine⟨fun l hl=>?_,fun _=>?_⟩
    ·obtain⟨p,hp,-⟩:=hintF_some hl
     rw[hmOf_out hr] at hp
     cases hp
    ·repeat (first | refine⟨fun _=>?_,fun h=>Bool.noConfusion h⟩ | refine⟨fun h=>Bool.noConfusion h,fun _=>?_⟩ | refine⟨⟨by first | exact Nat.le_refl _ | omega | fail,by first | omega | (dsimp only;omega) | fail,by first | omega | (dsimp only;omega) | fail⟩,?_⟩ | refine⟨fun q=>absurd q (by first | (simp[eqCs,eqC1];done) | fail),fun _=>?_⟩ | refine⟨fun _=>?_,fun q=>absurd q (by first | omega | (simp[-List.getD_eq_getElem?_getD];done) | (simp[-List.getD_eq_getElem?_getD];omega) | fail)⟩ | refine⟨fun q=>absurd q (by first | omega | (simp[-List.getD_eq_getElem?_getD];done) | (simp[-List.getD_eq_getElem?_getD];omega) | fail),fun _=>?_⟩ | fail)
     refine⟨fun l hl=>?_,fun _=>?_⟩
     ·obtain⟨p,hp,-⟩:=hintF_some hl
      rw[hmOf_out hr] at hp
      cases hp
     ·repeat (first | refine⟨fun _=>?_,fun h=>Bool.noConfusion h⟩ | refine⟨fun h=>Bool.noConfusion h,fun _=>?_⟩ | refine⟨⟨by first | exact Nat.le_refl _ | omega | fail,by first | omega | (dsimp only;omega) | fail,by first | omega | (dsimp only;omega) | fail⟩,?_⟩ | refine⟨fun q=>absurd q (by first | (simp[eqCs,eqC1];done) | fail),fun _=>?_⟩ | refine⟨fun _=>?_,fun q=>absurd q (by first | omega | (simp[-List.getD_eq_getElem?_getD];done) | (simp[-List.getD_eq_getElem?_getD];omega) | fail)⟩ | refine⟨fun q=>absurd q (by first | omega | (simp[-List.getD_eq_getElem?_getD];done) | (simp[-List.getD_eq_getElem?_getD];omega) | fail),fun _=>?_⟩ | fail)
      refine⟨_,?_,kp_,kp_⟩
      rw[wrapi (n:=z+1) (by omega)]
      dsimp only
      exact⟨by omega,by omega⟩
   ·refine⟨fun l hl=>?_,fun _=>?_⟩
    ·obtain⟨p,hp,-⟩:=hintF_some hl
     rw[hmOf_out hr] at hp
     cases hp
    ·repeat (first | refine⟨fun _=>?_,fun h=>Bool.noConfusion h⟩ | refine⟨fun h=>Bool.noConfusion h,fun _=>?_⟩ | refine⟨⟨by first | exact Nat.le_refl _ | omega | fail,by first | omega | (dsimp only;omega) | fail,by first | omega | (dsimp only;omega) | fail⟩,?_⟩ | refine⟨fun q=>absurd q (by first | (simp[eqCs,eqC1];done) | fail),fun _=>?_⟩ | refine⟨fun _=>?_,fun q=>absurd q (by first | omega | (simp[-List.getD_eq_getElem?_getD];done) | (simp[-List.getD_eq_getElem?_getD];omega) | fail)⟩ | refine⟨fun q=>absurd q (by first | omega | (simp[-List.getD_eq_getElem?_getD];done) | (simp[-List.getD_eq_getElem?_getD];omega) | fail),fun _=>?_⟩ | fail)
     refine⟨fun l hl=>?_,fun _=>?_⟩
     ·obtain⟨p,hp,-⟩:=hintF_some hl
      rw[hmOf_out hr] at hp
      cases hp
     ·repeat (first | refine⟨fun _=>?_,fun h=>Bool.noConfusion h⟩ | refine⟨fun h=>Bool.noConfusion h,fun _=>?_⟩ | refine⟨⟨by first | exact Nat.le_refl _ | omega | fail,by first | omega | (dsimp only;omega) | fail,by first | omega | (dsimp only;omega) | fail⟩,?_⟩ | refine⟨fun q=>absurd q (by first | (simp[eqCs,eqC1];done) | fail),fun _=>?_⟩ | refine⟨fun _=>?_,fun q=>absurd q (by first | omega | (simp[-List.getD_eq_getElem?_getD];done) | (simp[-List.getD_eq_getElem?_getD];omega) | fail)⟩ | refine⟨fun q=>absurd q (by first | omega | (simp[-List.getD_eq_getElem?_getD];done) | (simp[-List.getD_eq_getElem?_getD];omega) | fail),fun _=>?_⟩ | fail)
      refine⟨_,?_,kp_,kp_⟩
      rw[wrapi (n:=z+1) (by omega)]
      dsimp only
      exact⟨by omega,by omega⟩
 ·repeat (first | refine⟨fun _=>?_,fun h=>Bool.noConfusion h⟩ | refine⟨fun h=>Bool.noConfusion h,fun _=>?_⟩ | refine⟨⟨by first | exact Nat.le_refl _ | omega | fail,by first | omega | (dsimp only;omega) | fail,by first | omega | (dsimp only;omega) | fail⟩,?_⟩ | refine⟨fun q=>absurd q (by first | (simp[eqCs,eqC1];done) | fail),fun _=>?_⟩ | refine⟨fun _=>?_,fun q=>absurd q (by first | omega | (simp[-List.getD_eq_getElem?_getD];done) | (simp[-List.getD_eq_getElem?_getD];omega) | fail)⟩ | refine⟨fun q=>absurd q (by first | omega | (simp[-List.getD_eq_getElem?_getD];done) | (simp[-List.getD_eq_getElem?_getD];omega) | fail),fun _=>?_⟩ | fail)
  exact⟨(),[],trivial,rfl,rfl,(by first | rfl | (show Value.bool (A.tick==A.tick)=.bool true;simp)),kp_⟩
theorem smEOk:CSound Tryz.prog 13 ctSmE:=ctObj_ok (F:=smF) (D:=smD) ttPok (smFok) mixed (by kernel_rfl) Tryz.func13 rfl (by kernel_rfl) (fun x=>by cases x;rfl) (fun x=>by cases x;rfl) (fun x y=>by cases x;cases y<;>rfl) (fun x hx=>by cases x;exact smE_sx _ _ _ _ _ _ _ _ _ _ _ _ _ hx)
def ctSm:CT:=fun vs mem nx K=>ctSmN vs mem nx K∨(ctSmS vs mem nx K∨ctSmE vs mem nx K)
theorem smOk:CSound Tryz.prog 13 ctSm:=cs_or smNOk (cs_or smSOk smEOk)
end Go.Proofs.YtchhdflealgkaaaGreat
