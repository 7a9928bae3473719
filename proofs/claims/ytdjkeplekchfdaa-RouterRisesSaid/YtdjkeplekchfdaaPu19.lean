import Derived.Test.YtdjkeplekchfdaaPu18
namespace Go.Proofs.Ytdjkeplekchfdaa
open Go.RowKit
set_option linter.unusedSimpArgs false
set_option linter.unusedVariables false
/-! make.grant,exactly,in six steps. -/
def gA (zs:List Int) (x:TS) (p:Ent×Int):Ent×Int:=
 if 0≤x.target then
  if nxV zs p.2 2=0 then ({ p.1 with cell:=x.target },advK zs p.2)
  else if 0≤x.standby then (if nxV zs (advK zs p.2) 5=0∨x.shed=true then ({ p.1 with cell:=x.standby },advK zs (advK zs p.2)) else ({ p.1 with cell:=x.home },advK zs (advK zs p.2)))
  else ({ p.1 with cell:=x.home },advK zs p.2)
 else if 0≤x.standby then (if nxV zs p.2 5=0∨x.shed=true then ({ p.1 with cell:=x.standby },advK zs p.2) else ({ p.1 with cell:=x.home },advK zs p.2))
 else ({ p.1 with cell:=x.home },p.2)
def gB (zs:List Int) (x:TS) (p:Ent×Int):Ent×Int:=
 if p.1.cell=x.home then
  if x.epoch=0 then ({ p.1 with epoch:=IntKind.i64.wrap (x.epoch+1) },p.2)
  else if nxV zs p.2 4=0 then ({ p.1 with epoch:=IntKind.i64.wrap (x.epoch+1) },advK zs p.2)
  else ({ p.1 with epoch:=x.epoch },advK zs p.2)
 else ({ p.1 with epoch:=IntKind.i64.wrap (x.epoch+1) },p.2)
def gC (zs:List Int) (x:TS) (p:Ent×Int):Ent×Int:=
 if p.1.cell=x.home then p
 else if nxV zs p.2 4>0 then ({ p.1 with tick:=if x.win.till>p.1.tick then x.win.till else p.1.tick },advK zs p.2)
 else (p.1,advK zs p.2)
def gD (zs:List Int) (x:TS) (p:Ent×Int):Ent×Int:=
 if nxV zs p.2 5=0 then ({ p.1 with since:=IntKind.i64.wrap ((if x.win.till>p.1.tick then x.win.till else p.1.tick)+nxV zs (advK zs p.2) 3) },advK zs (advK zs p.2))
 else ({ p.1 with since:=if x.win.till>p.1.tick then x.win.till else p.1.tick },advK zs p.2)
def gE (zs:List Int) (c:Cfg) (s:St) (p:Ent×Int):Ent×Int:=
 ({ p.1 with till:=IntKind.i64.wrap (p.1.since+rgV zs p.2 1 c.lease),n:=(s.cells.getD p.1.cell.toNat default).running },advK zs p.2)
def gF1 (zs:List Int) (p:Ent×Int):Ent×Int:=
 ({ p.1 with since:=IntKind.i64.wrap (p.1.since-1),till:=IntKind.i64.wrap (p.1.till+nxV zs (advK zs p.2) 30) },advK zs (advK zs p.2))
def gF (zs:List Int) (p:Ent×Int):Ent×Int:=
 if nxV zs p.2 15=0 then ({ (gF1 zs p).1 with since:=if (gF1 zs p).1.since>0 then (gF1 zs p).1.since else 0 },(gF1 zs p).2)
 else (p.1,advK zs p.2)
def gG (zs:List Int) (c:Cfg) (s:St) (e:Ent) (k:Int):Ent×Int:=
 gF zs (gE zs c s (gD zs (s.tenants.getD e.tenant.toNat default) (gC zs (s.tenants.getD e.tenant.toNat default) (gB zs (s.tenants.getD e.tenant.toNat default) (gA zs (s.tenants.getD e.tenant.toNat default) (e,k))))))
def GrantX (zs:List Int) (c:Cfg) (s:St) (args:List Value) (k:Int) (v:Value) (k':Int):Prop:=∃ e en,args=[entV' e]∧v=entV' en∧gG zs c s e k=(en,k')∧k≤k'∧k'≤k+20
def ggrXF:FT:=[(48,ctNextX),(49,ctRangeX),(50,ctYesX)]
theorem ggrXFok:FTok Try.prog ggrXF:=ft_cons nextXOk (ft_cons rangeXOk (ft_cons yesXOk ft_nil))
set_option maxRecDepth 100000 in
set_option maxHeartbeats 4000000 in
theorem grantX_sx (cap:Nat) (zs:List Int) (k:Int) (x:CfgK) (c:Cfg) (y:StK) (s:St) (e:Ent) (hz:zs.length≤400) (hk:0≤k∧k≤990000) (hV:CfgV c) (hI:StInv c s) (ht:0≤e.tenant∧e.tenant<s.tenants.length) (hp:(tsAt s e.tenant).placed=true) :
  sx tt ggrXF ggrD (bodyOf Try.f115) (argF 0 (ptr 0::cfgV CN0 x c::stV SN0 y s::[entV' e])) ((0,tapeB 1 zs.length cap k)::(1,intRow zs)::(cfgM CN0 c++stM SN0 s)) 10
   (endx tt Try.f115.results.toList fun v mem' _=>∃ k',GrantX zs c s [entV' e] k v k'∧pureV v∧lk mem' 0=some (tapeB 1 zs.length cap k')):=by
 have hnc:=hV.nc
 have hlc:=hI.lc
 have hls:=hV.lease
 have hti:=hI.ten _ (tsAt_mem ht.1 ht.2).2
 have h1:=hti.placed hp
 have h2:=hti.home
 have h3:=hti.standby
 have h4:=hti.target
 unfold tsAt at h1 h2 h3 h4
 rw[← hlc] at h2 h3 h4
 replace h2:=h2.2
 replace h3:=h3.2
 replace h4:=h4.2
 clear hti hp hI hV
 obtain⟨kind,tick,tenant,cell,other,epoch,since,till,n⟩:=e
 dsimp only[entV'] at *
 refine⟨⟨Nat.le_refl _,by omega,by omega⟩,?_⟩
 refine⟨Ent×Int,fun _=>[],fun y=>match y with | (⟨a1,a2,a3,a4,a5,a6,a7,a8,a9⟩,kk)=>[(0,tapeB 1 zs.length cap kk),(12,.box 143 [.int .i64 a1,.int .i64 a2,.int .i64 a3,.int .i64 a4,.int .i64 a5,.int .i64 a6,.int .i64 a7,.int .i64 a8,.int .i64 a9])],fun y=>((k≤y.2∧y.2≤k+2)∧0≤y.1.cell∧y.1.cell<s.cells.length)∧y=(gA zs (s.tenants.getD tenant.toNat default) (⟨kind,tick,tenant,cell,other,epoch,since,till,n⟩,k)),?_,?_⟩
 ·refine⟨fun htg=>?_,fun htg=>?_⟩
  ·simp only[decide_eq_true_eq,ge_iff_le] at htg
   refine⟨0,1,cap,zs,_,_,rfl,⟨rfl,rfl⟩,⟨hz,by omega,by omega⟩,⟨_,rfl,by omega,by omega⟩,?_⟩
   rintro _ k1 ⟨_,b1,hnn,rfl,⟨er1,ek1⟩,hk1⟩;cases hnn;subst er1
   refine⟨fun q=>?_,fun q=>?_⟩
   ·(refine⟨(⟨_,_,_,_,_,_,_,_,_⟩,_),?_,⟨rfl,rfl,rfl,rfl,rfl,rfl,trivial⟩,⟨rfl,rfl,rfl,rfl,rfl,rfl,rfl,rfl,trivial⟩⟩;dsimp only;(refine⟨⟨⟨by omega,by omega⟩,?_,?_⟩,?_⟩<;>first | assumption | omega | (try (simp only[beq_iff_eq,beq_eq_false_iff_ne,bne_iff_ne,bne_eq_false_iff_eq,ne_eq,decide_eq_true_eq,decide_eq_false_iff_not,ge_iff_le,gt_iff_lt] at *);simp only[gA, *,ge_iff_le,gt_iff_lt,if_true,if_false,or_true,true_or,or_false,or_self,not_true_eq_false,not_false_eq_true,Bool.false_eq_true,reduceIte];try rfl)))
   ·refine⟨fun hs=>?_,fun q=>?_⟩
    ·simp only[decide_eq_true_eq,ge_iff_le] at hs
     refine⟨0,1,cap,zs,_,_,rfl,⟨rfl,rfl⟩,⟨hz,by omega,by omega⟩,⟨_,rfl,by omega,by omega⟩,?_⟩
     rintro _ k2 ⟨_,b2,hnn,rfl,⟨er2,ek2⟩,hk2⟩;cases hnn;subst er2
     refine⟨fun q=>?_,fun q=>?_⟩
     ·refine⟨fun q=>?_,fun h=>nomatch h⟩
      (refine⟨(⟨_,_,_,_,_,_,_,_,_⟩,_),?_,⟨rfl,rfl,rfl,rfl,rfl,rfl,trivial⟩,⟨rfl,rfl,rfl,rfl,rfl,rfl,rfl,rfl,trivial⟩⟩;dsimp only;(refine⟨⟨⟨by omega,by omega⟩,?_,?_⟩,?_⟩<;>first | assumption | omega | (try (simp only[beq_iff_eq,beq_eq_false_iff_ne,bne_iff_ne,bne_eq_false_iff_eq,ne_eq,decide_eq_true_eq,decide_eq_false_iff_not,ge_iff_le,gt_iff_lt] at *);simp only[gA, *,ge_iff_le,gt_iff_lt,if_true,if_false,or_true,true_or,or_false,or_self,not_true_eq_false,not_false_eq_true,Bool.false_eq_true,reduceIte];try rfl)))
     ·refine⟨fun q=>?_,fun q=>?_⟩
      ·(refine⟨(⟨_,_,_,_,_,_,_,_,_⟩,_),?_,⟨rfl,rfl,rfl,rfl,rfl,rfl,trivial⟩,⟨rfl,rfl,rfl,rfl,rfl,rfl,rfl,rfl,trivial⟩⟩;dsimp only;(refine⟨⟨⟨by omega,by omega⟩,?_,?_⟩,?_⟩<;>first | assumption | omega | (try (simp only[beq_iff_eq,beq_eq_false_iff_ne,bne_iff_ne,bne_eq_false_iff_eq,ne_eq,decide_eq_true_eq,decide_eq_false_iff_not,ge_iff_le,gt_iff_lt] at *);simp only[gA, *,ge_iff_le,gt_iff_lt,if_true,if_false,or_true,true_or,or_false,or_self,not_true_eq_false,not_false_eq_true,Bool.false_eq_true,reduceIte];try rfl)))
      ·(refine⟨(⟨_,_,_,_,_,_,_,_,_⟩,_),?_,⟨rfl,rfl,rfl,rfl,rfl,rfl,trivial⟩,⟨rfl,rfl,rfl,rfl,rfl,rfl,rfl,rfl,trivial⟩⟩;dsimp only;(refine⟨⟨⟨by omega,by omega⟩,?_,?_⟩,?_⟩<;>first | assumption | omega | (try (simp only[beq_iff_eq,beq_eq_false_iff_ne,bne_iff_ne,bne_eq_false_iff_eq,ne_eq,decide_eq_true_eq,decide_eq_false_iff_not,ge_iff_le,gt_iff_lt] at *);simp only[gA, *,ge_iff_le,gt_iff_lt,if_true,if_false,or_true,true_or,or_false,or_self,not_true_eq_false,not_false_eq_true,Bool.false_eq_true,reduceIte];try rfl)))
    ·refine⟨(fun h=>nomatch h),fun q=>?_⟩
     (refine⟨(⟨_,_,_,_,_,_,_,_,_⟩,_),?_,⟨rfl,rfl,rfl,rfl,rfl,rfl,trivial⟩,⟨rfl,rfl,rfl,rfl,rfl,rfl,rfl,rfl,trivial⟩⟩;dsimp only;(refine⟨⟨⟨by omega,by omega⟩,?_,?_⟩,?_⟩<;>first | assumption | omega | (try (simp only[beq_iff_eq,beq_eq_false_iff_ne,bne_iff_ne,bne_eq_false_iff_eq,ne_eq,decide_eq_true_eq,decide_eq_false_iff_not,ge_iff_le,gt_iff_lt] at *);simp only[gA, *,ge_iff_le,gt_iff_lt,if_true,if_false,or_true,true_or,or_false,or_self,not_true_eq_false,not_false_eq_true,Bool.false_eq_true,reduceIte];try rfl)))
  ·refine⟨(fun h=>nomatch h),fun q=>?_⟩
   refine⟨fun hs=>?_,fun q=>?_⟩
   ·simp only[decide_eq_true_eq,ge_iff_le] at hs
    refine⟨0,1,cap,zs,_,_,rfl,⟨rfl,rfl⟩,⟨hz,by omega,by omega⟩,⟨_,rfl,by omega,by omega⟩,?_⟩
    rintro _ k2 ⟨_,b2,hnn,rfl,⟨er2,ek2⟩,hk2⟩;cases hnn;subst er2
    refine⟨fun q=>?_,fun q=>?_⟩
    ·refine⟨fun q=>?_,fun h=>nomatch h⟩
     (refine⟨(⟨_,_,_,_,_,_,_,_,_⟩,_),?_,⟨rfl,rfl,rfl,rfl,rfl,rfl,trivial⟩,⟨rfl,rfl,rfl,rfl,rfl,rfl,rfl,rfl,trivial⟩⟩;dsimp only;(refine⟨⟨⟨by omega,by omega⟩,?_,?_⟩,?_⟩<;>first | assumption | omega | (try (simp only[beq_iff_eq,beq_eq_false_iff_ne,bne_iff_ne,bne_eq_false_iff_eq,ne_eq,decide_eq_true_eq,decide_eq_false_iff_not,ge_iff_le,gt_iff_lt] at *);simp only[gA, *,ge_iff_le,gt_iff_lt,if_true,if_false,or_true,true_or,or_false,or_self,not_true_eq_false,not_false_eq_true,Bool.false_eq_true,reduceIte];try rfl)))
    ·refine⟨fun q=>?_,fun q=>?_⟩
     ·(refine⟨(⟨_,_,_,_,_,_,_,_,_⟩,_),?_,⟨rfl,rfl,rfl,rfl,rfl,rfl,trivial⟩,⟨rfl,rfl,rfl,rfl,rfl,rfl,rfl,rfl,trivial⟩⟩;dsimp only;(refine⟨⟨⟨by omega,by omega⟩,?_,?_⟩,?_⟩<;>first | assumption | omega | (try (simp only[beq_iff_eq,beq_eq_false_iff_ne,bne_iff_ne,bne_eq_false_iff_eq,ne_eq,decide_eq_true_eq,decide_eq_false_iff_not,ge_iff_le,gt_iff_lt] at *);simp only[gA, *,ge_iff_le,gt_iff_lt,if_true,if_false,or_true,true_or,or_false,or_self,not_true_eq_false,not_false_eq_true,Bool.false_eq_true,reduceIte];try rfl)))
     ·(refine⟨(⟨_,_,_,_,_,_,_,_,_⟩,_),?_,⟨rfl,rfl,rfl,rfl,rfl,rfl,trivial⟩,⟨rfl,rfl,rfl,rfl,rfl,rfl,rfl,rfl,trivial⟩⟩;dsimp only;(refine⟨⟨⟨by omega,by omega⟩,?_,?_⟩,?_⟩<;>first | assumption | omega | (try (simp only[beq_iff_eq,beq_eq_false_iff_ne,bne_iff_ne,bne_eq_false_iff_eq,ne_eq,decide_eq_true_eq,decide_eq_false_iff_not,ge_iff_le,gt_iff_lt] at *);simp only[gA, *,ge_iff_le,gt_iff_lt,if_true,if_false,or_true,true_or,or_false,or_self,not_true_eq_false,not_false_eq_true,Bool.false_eq_true,reduceIte];try rfl)))
   ·refine⟨(fun h=>nomatch h),fun q=>?_⟩
    (refine⟨(⟨_,_,_,_,_,_,_,_,_⟩,_),?_,⟨rfl,rfl,rfl,rfl,rfl,rfl,trivial⟩,⟨rfl,rfl,rfl,rfl,rfl,rfl,rfl,rfl,trivial⟩⟩;dsimp only;(refine⟨⟨⟨by omega,by omega⟩,?_,?_⟩,?_⟩<;>first | assumption | omega | (try (simp only[beq_iff_eq,beq_eq_false_iff_ne,bne_iff_ne,bne_eq_false_iff_eq,ne_eq,decide_eq_true_eq,decide_eq_false_iff_not,ge_iff_le,gt_iff_lt] at *);simp only[gA, *,ge_iff_le,gt_iff_lt,if_true,if_false,or_true,true_or,or_false,or_self,not_true_eq_false,not_false_eq_true,Bool.false_eq_true,reduceIte];try rfl)))
 ·rintro⟨⟨ekind,etick,etenant,ecell,eother,eepoch,esince,etill,en⟩,kk⟩ ⟨⟨hkk,hcell⟩,hE⟩
  refine⟨⟨by decide,rfl,rfl⟩,?_⟩
  simp only at hkk hcell
  refine⟨Ent×Int,fun _=>[],fun y=>match y with | (⟨a1,a2,a3,a4,a5,a6,a7,a8,a9⟩,kk)=>[(0,tapeB 1 zs.length cap kk),(12,.box 143 [.int .i64 a1,.int .i64 a2,.int .i64 a3,.int .i64 a4,.int .i64 a5,.int .i64 a6,.int .i64 a7,.int .i64 a8,.int .i64 a9])],fun y=>((k≤y.2∧y.2≤k+3)∧0≤y.1.cell∧y.1.cell<s.cells.length)∧y=(gB zs (s.tenants.getD tenant.toNat default) (gA zs (s.tenants.getD tenant.toNat default) (⟨kind,tick,tenant,cell,other,epoch,since,till,n⟩,k))),?_,?_⟩
  ·refine⟨fun q=>?_,fun q=>?_⟩
   ·refine⟨fun q=>?_,fun h=>nomatch h⟩
    refine⟨fun q=>?_,fun h=>nomatch h⟩
    (refine⟨(⟨_,_,_,_,_,_,_,_,_⟩,_),?_,⟨rfl,rfl,rfl,rfl,rfl,rfl,trivial⟩,⟨rfl,rfl,rfl,rfl,rfl,rfl,rfl,rfl,trivial⟩⟩;dsimp only;(refine⟨⟨⟨by omega,by omega⟩,?_,?_⟩,?_⟩<;>first | assumption | omega | (rw[← hE];clear hE;try (simp only[beq_iff_eq,beq_eq_false_iff_ne,bne_iff_ne,bne_eq_false_iff_eq,ne_eq,decide_eq_true_eq,decide_eq_false_iff_not,ge_iff_le,gt_iff_lt] at *);simp only[gB, *,ge_iff_le,gt_iff_lt,if_true,if_false,or_true,true_or,or_false,or_self,not_true_eq_false,not_false_eq_true,Bool.false_eq_true,reduceIte];try rfl)))
   ·refine⟨fun q=>?_,fun q=>?_⟩
    ·refine⟨fun q=>?_,fun h=>nomatch h⟩
     (refine⟨(⟨_,_,_,_,_,_,_,_,_⟩,_),?_,⟨rfl,rfl,rfl,rfl,rfl,rfl,trivial⟩,⟨rfl,rfl,rfl,rfl,rfl,rfl,rfl,rfl,trivial⟩⟩;dsimp only;(refine⟨⟨⟨by omega,by omega⟩,?_,?_⟩,?_⟩<;>first | assumption | omega | (rw[← hE];clear hE;try (simp only[beq_iff_eq,beq_eq_false_iff_ne,bne_iff_ne,bne_eq_false_iff_eq,ne_eq,decide_eq_true_eq,decide_eq_false_iff_not,ge_iff_le,gt_iff_lt] at *);simp only[gB, *,ge_iff_le,gt_iff_lt,if_true,if_false,or_true,true_or,or_false,or_self,not_true_eq_false,not_false_eq_true,Bool.false_eq_true,reduceIte];try rfl)))
    ·refine⟨0,1,cap,zs,_,_,rfl,⟨rfl,rfl⟩,⟨hz,by omega,by omega⟩,⟨_,rfl,by omega,by omega⟩,?_⟩
     rintro _ k3 ⟨_,b3,hnn,rfl,⟨er3,ek3⟩,hk3⟩;cases hnn;subst er3
     refine⟨fun q=>?_,fun q=>?_⟩
     ·(refine⟨(⟨_,_,_,_,_,_,_,_,_⟩,_),?_,⟨rfl,rfl,rfl,rfl,rfl,rfl,trivial⟩,⟨rfl,rfl,rfl,rfl,rfl,rfl,rfl,rfl,trivial⟩⟩;dsimp only;(refine⟨⟨⟨by omega,by omega⟩,?_,?_⟩,?_⟩<;>first | assumption | omega | (rw[← hE];clear hE;try (simp only[beq_iff_eq,beq_eq_false_iff_ne,bne_iff_ne,bne_eq_false_iff_eq,ne_eq,decide_eq_true_eq,decide_eq_false_iff_not,ge_iff_le,gt_iff_lt] at *);simp only[gB, *,ge_iff_le,gt_iff_lt,if_true,if_false,or_true,true_or,or_false,or_self,not_true_eq_false,not_false_eq_true,Bool.false_eq_true,reduceIte];try rfl)))
     ·(refine⟨(⟨_,_,_,_,_,_,_,_,_⟩,_),?_,⟨rfl,rfl,rfl,rfl,rfl,rfl,trivial⟩,⟨rfl,rfl,rfl,rfl,rfl,rfl,rfl,rfl,trivial⟩⟩;dsimp only;(refine⟨⟨⟨by omega,by omega⟩,?_,?_⟩,?_⟩<;>first | assumption | omega | (rw[← hE];clear hE;try (simp only[beq_iff_eq,beq_eq_false_iff_ne,bne_iff_ne,bne_eq_false_iff_eq,ne_eq,decide_eq_true_eq,decide_eq_false_iff_not,ge_iff_le,gt_iff_lt] at *);simp only[gB, *,ge_iff_le,gt_iff_lt,if_true,if_false,or_true,true_or,or_false,or_self,not_true_eq_false,not_false_eq_true,Bool.false_eq_true,reduceIte];try rfl)))
  ·rintro⟨⟨ekind,etick,etenant,ecell,eother,eepoch,esince,etill,en⟩,kk⟩ ⟨⟨hkk,hcell⟩,hE⟩
   refine⟨⟨by decide,rfl,rfl⟩,?_⟩
   simp only at hkk hcell
   refine⟨Ent×Int,fun _=>[],fun y=>match y with | (⟨a1,a2,a3,a4,a5,a6,a7,a8,a9⟩,kk)=>[(0,tapeB 1 zs.length cap kk),(12,.box 143 [.int .i64 a1,.int .i64 a2,.int .i64 a3,.int .i64 a4,.int .i64 a5,.int .i64 a6,.int .i64 a7,.int .i64 a8,.int .i64 a9])],fun y=>((k≤y.2∧y.2≤k+4)∧0≤y.1.cell∧y.1.cell<s.cells.length)∧y=(gC zs (s.tenants.getD tenant.toNat default) (gB zs (s.tenants.getD tenant.toNat default) (gA zs (s.tenants.getD tenant.toNat default) (⟨kind,tick,tenant,cell,other,epoch,since,till,n⟩,k)))),?_,?_⟩
   ·refine⟨fun q=>?_,fun q=>?_⟩
    ·refine⟨0,1,cap,zs,_,_,rfl,⟨rfl,rfl⟩,⟨hz,by omega,by omega⟩,⟨_,rfl,by omega,by omega⟩,?_⟩
     rintro _ k3 ⟨_,r3,hnn,rfl,⟨er3,ek3⟩,hr3,hk3⟩
     cases hnn
     refine⟨fun q=>?_,fun q=>?_⟩
     ·(refine⟨(⟨_,_,_,_,_,_,_,_,_⟩,_),?_,⟨rfl,rfl,rfl,rfl,rfl,rfl,trivial⟩,⟨rfl,rfl,rfl,rfl,rfl,rfl,rfl,rfl,trivial⟩⟩;dsimp only;(refine⟨⟨⟨by omega,by omega⟩,?_,?_⟩,?_⟩<;>first | assumption | omega | (rw[← hE];clear hE;try (simp only[beq_iff_eq,beq_eq_false_iff_ne,bne_iff_ne,bne_eq_false_iff_eq,ne_eq,decide_eq_true_eq,decide_eq_false_iff_not,ge_iff_le,gt_iff_lt] at *);simp only[gC, *,ge_iff_le,gt_iff_lt,if_true,if_false,or_true,true_or,or_false,or_self,not_true_eq_false,not_false_eq_true,Bool.false_eq_true,reduceIte];try rfl)))
     ·(refine⟨(⟨_,_,_,_,_,_,_,_,_⟩,_),?_,⟨rfl,rfl,rfl,rfl,rfl,rfl,trivial⟩,⟨rfl,rfl,rfl,rfl,rfl,rfl,rfl,rfl,trivial⟩⟩;dsimp only;(refine⟨⟨⟨by omega,by omega⟩,?_,?_⟩,?_⟩<;>first | assumption | omega | (rw[← hE];clear hE;try (simp only[beq_iff_eq,beq_eq_false_iff_ne,bne_iff_ne,bne_eq_false_iff_eq,ne_eq,decide_eq_true_eq,decide_eq_false_iff_not,ge_iff_le,gt_iff_lt] at *);simp only[gC, *,ge_iff_le,gt_iff_lt,if_true,if_false,or_true,true_or,or_false,or_self,not_true_eq_false,not_false_eq_true,Bool.false_eq_true,reduceIte];try rfl)))
    ·refine⟨(fun h=>nomatch h),fun q=>?_⟩
     (refine⟨(⟨_,_,_,_,_,_,_,_,_⟩,_),?_,⟨rfl,rfl,rfl,rfl,rfl,rfl,trivial⟩,⟨rfl,rfl,rfl,rfl,rfl,rfl,rfl,rfl,trivial⟩⟩;dsimp only;(refine⟨⟨⟨by omega,by omega⟩,?_,?_⟩,?_⟩<;>first | assumption | omega | (rw[← hE];clear hE;try (simp only[beq_iff_eq,beq_eq_false_iff_ne,bne_iff_ne,bne_eq_false_iff_eq,ne_eq,decide_eq_true_eq,decide_eq_false_iff_not,ge_iff_le,gt_iff_lt] at *);simp only[gC, *,ge_iff_le,gt_iff_lt,if_true,if_false,or_true,true_or,or_false,or_self,not_true_eq_false,not_false_eq_true,Bool.false_eq_true,reduceIte];try rfl)))
   ·rintro⟨⟨ekind,etick,etenant,ecell,eother,eepoch,esince,etill,en⟩,kk⟩ ⟨⟨hkk,hcell⟩,hE⟩
    refine⟨⟨by decide,rfl,rfl⟩,?_⟩
    simp only at hkk hcell
    refine⟨Ent×Int,fun _=>[],fun y=>match y with | (⟨a1,a2,a3,a4,a5,a6,a7,a8,a9⟩,kk)=>[(0,tapeB 1 zs.length cap kk),(12,.box 143 [.int .i64 a1,.int .i64 a2,.int .i64 a3,.int .i64 a4,.int .i64 a5,.int .i64 a6,.int .i64 a7,.int .i64 a8,.int .i64 a9])],fun y=>((k≤y.2∧y.2≤k+6)∧0≤y.1.cell∧y.1.cell<s.cells.length)∧y=(gD zs (s.tenants.getD tenant.toNat default) (gC zs (s.tenants.getD tenant.toNat default) (gB zs (s.tenants.getD tenant.toNat default) (gA zs (s.tenants.getD tenant.toNat default) (⟨kind,tick,tenant,cell,other,epoch,since,till,n⟩,k))))),?_,?_⟩
    ·refine⟨0,1,cap,zs,_,_,rfl,⟨rfl,rfl⟩,⟨hz,by omega,by omega⟩,⟨_,rfl,by omega,by omega⟩,?_⟩
     rintro _ k3 ⟨_,b3,hnn,rfl,⟨er3,ek3⟩,hk3⟩;cases hnn;subst er3
     refine⟨fun q=>?_,fun q=>?_⟩
     ·refine⟨0,1,cap,zs,_,_,rfl,⟨rfl,rfl⟩,⟨hz,by omega,by omega⟩,⟨_,rfl,by omega,by omega⟩,?_⟩
      rintro _ k4 ⟨_,r4,hnn,rfl,⟨er4,ek4⟩,hr4,hk4⟩
      cases hnn
      refine⟨⟨rfl,trivial⟩,?_⟩
      (refine⟨(⟨_,_,_,_,_,_,_,_,_⟩,_),?_,⟨rfl,rfl,rfl,rfl,rfl,rfl,trivial⟩,⟨rfl,rfl,rfl,rfl,rfl,rfl,rfl,rfl,trivial⟩⟩;dsimp only;(refine⟨⟨⟨by omega,by omega⟩,?_,?_⟩,?_⟩<;>first | assumption | omega | (rw[← hE];clear hE;try (simp only[beq_iff_eq,beq_eq_false_iff_ne,bne_iff_ne,bne_eq_false_iff_eq,ne_eq,decide_eq_true_eq,decide_eq_false_iff_not,ge_iff_le,gt_iff_lt] at *);simp only[gD, *,ge_iff_le,gt_iff_lt,if_true,if_false,or_true,true_or,or_false,or_self,not_true_eq_false,not_false_eq_true,Bool.false_eq_true,reduceIte];try rfl)))
     ·(refine⟨(⟨_,_,_,_,_,_,_,_,_⟩,_),?_,⟨rfl,rfl,rfl,rfl,rfl,rfl,trivial⟩,⟨rfl,rfl,rfl,rfl,rfl,rfl,rfl,rfl,trivial⟩⟩;dsimp only;(refine⟨⟨⟨by omega,by omega⟩,?_,?_⟩,?_⟩<;>first | assumption | omega | (rw[← hE];clear hE;try (simp only[beq_iff_eq,beq_eq_false_iff_ne,bne_iff_ne,bne_eq_false_iff_eq,ne_eq,decide_eq_true_eq,decide_eq_false_iff_not,ge_iff_le,gt_iff_lt] at *);simp only[gD, *,ge_iff_le,gt_iff_lt,if_true,if_false,or_true,true_or,or_false,or_self,not_true_eq_false,not_false_eq_true,Bool.false_eq_true,reduceIte];try rfl)))
    ·rintro⟨⟨ekind,etick,etenant,ecell,eother,eepoch,esince,etill,en⟩,kk⟩ ⟨⟨hkk,hcell⟩,hE⟩
     refine⟨⟨by decide,rfl,rfl⟩,?_⟩
     simp only at hkk hcell
     refine⟨0,1,cap,zs,_,_,rfl,⟨rfl,rfl⟩,⟨hz,by omega,by omega⟩,⟨_,_,rfl,by omega,by omega,by omega⟩,?_⟩
     rintro _ k3 ⟨_,_,r3,hnn,rfl,⟨er3,ek3⟩,hr3,hk3⟩
     cases hnn
     refine⟨⟨rfl,rfl,trivial⟩,?_⟩
     refine⟨⟨Nat.le_refl _,by omega,by omega⟩,?_⟩
     refine⟨Ent×Int,fun _=>[],fun y=>match y with | (⟨a1,a2,a3,a4,a5,a6,a7,a8,a9⟩,kk)=>[(0,tapeB 1 zs.length cap kk),(12,.box 143 [.int .i64 a1,.int .i64 a2,.int .i64 a3,.int .i64 a4,.int .i64 a5,.int .i64 a6,.int .i64 a7,.int .i64 a8,.int .i64 a9])],fun y=>((k≤y.2∧y.2≤k+9)∧0≤y.1.cell∧y.1.cell<s.cells.length)∧y=(gF zs (gE zs c s (gD zs (s.tenants.getD tenant.toNat default) (gC zs (s.tenants.getD tenant.toNat default) (gB zs (s.tenants.getD tenant.toNat default) (gA zs (s.tenants.getD tenant.toNat default) (⟨kind,tick,tenant,cell,other,epoch,since,till,n⟩,k))))))),?_,?_⟩
     ·refine⟨0,1,cap,zs,_,_,rfl,⟨rfl,rfl⟩,⟨hz,by omega,by omega⟩,⟨_,rfl,by omega,by omega⟩,?_⟩
      rintro _ k5 ⟨_,b5,hnn,rfl,⟨er5,ek5⟩,hk5⟩;cases hnn;subst er5
      refine⟨fun q=>?_,fun q=>?_⟩
      ·have hq:nxV zs (gE zs c s (gD zs (s.tenants.getD tenant.toNat default) (gC zs (s.tenants.getD tenant.toNat default) (gB zs (s.tenants.getD tenant.toNat default) (gA zs (s.tenants.getD tenant.toNat default) (⟨kind,tick,tenant,cell,other,epoch,since,till,n⟩,k)))))).2 15=0:=by show nxV zs (advK zs (gD zs (s.tenants.getD tenant.toNat default) (gC zs (s.tenants.getD tenant.toNat default) (gB zs (s.tenants.getD tenant.toNat default) (gA zs (s.tenants.getD tenant.toNat default) (⟨kind,tick,tenant,cell,other,epoch,since,till,n⟩,k))))).2) 15=0;rw[← hE];dsimp only;rw[ek3];exact of_decide_eq_true q
       refine⟨Ent×Int,fun _=>[],fun y=>match y with | (⟨a1,a2,a3,a4,a5,a6,a7,a8,a9⟩,kk)=>[(0,tapeB 1 zs.length cap kk),(12,.box 143 [.int .i64 a1,.int .i64 a2,.int .i64 a3,.int .i64 a4,.int .i64 a5,.int .i64 a6,.int .i64 a7,.int .i64 a8,.int .i64 a9])],fun y=>((k≤y.2∧y.2≤k+9)∧0≤y.1.cell∧y.1.cell<s.cells.length)∧y=(gF1 zs (gE zs c s (gD zs (s.tenants.getD tenant.toNat default) (gC zs (s.tenants.getD tenant.toNat default) (gB zs (s.tenants.getD tenant.toNat default) (gA zs (s.tenants.getD tenant.toNat default) (⟨kind,tick,tenant,cell,other,epoch,since,till,n⟩,k))))))),?_,?_⟩
       ·refine⟨?_,?_,?_⟩
        ·refine⟨trivial,?_⟩
         refine⟨?_,?_⟩
         ·refine⟨trivial,?_⟩
          refine⟨0,1,cap,zs,_,_,rfl,⟨rfl,rfl⟩,⟨hz,by omega,by omega⟩,⟨_,rfl,by omega,by omega⟩,?_⟩
          rintro _ k4 ⟨_,r4,hnn,rfl,⟨er4,ek4⟩,hr4,hk4⟩
          cases hnn
          refine⟨trivial,?_⟩
          refine⟨trivial,?_⟩
          (refine⟨(⟨_,_,_,_,_,_,_,_,_⟩,_),?_,⟨rfl,rfl,rfl,rfl,rfl,rfl,trivial⟩,⟨rfl,rfl,rfl,rfl,rfl,rfl,rfl,rfl,trivial⟩⟩;dsimp only;(refine⟨⟨⟨by omega,by omega⟩,?_,?_⟩,?_⟩<;>first | assumption | omega | (show _=gF1 zs (gE zs c s (gD zs (s.tenants.getD tenant.toNat default) (gC zs (s.tenants.getD tenant.toNat default) (gB zs (s.tenants.getD tenant.toNat default) (gA zs (s.tenants.getD tenant.toNat default) (⟨kind,tick,tenant,cell,other,epoch,since,till,n⟩,k))))));rw[← hE];clear hE;try (simp only[beq_iff_eq,beq_eq_false_iff_ne,bne_iff_ne,bne_eq_false_iff_eq,ne_eq,decide_eq_true_eq,decide_eq_false_iff_not,ge_iff_le,gt_iff_lt] at *);simp only[gF1,gE, *,ge_iff_le,gt_iff_lt,if_true,if_false,or_true,true_or,or_false,or_self,not_true_eq_false,not_false_eq_true,Bool.false_eq_true,reduceIte];try rfl)))
         ·refine⟨0,1,cap,zs,_,_,rfl,⟨rfl,rfl⟩,⟨hz,by omega,by omega⟩,⟨_,rfl,by omega,by omega⟩,?_⟩
          rintro _ k4 ⟨_,r4,hnn,rfl,⟨er4,ek4⟩,hr4,hk4⟩
          cases hnn
          refine⟨trivial,?_⟩
          refine⟨trivial,?_⟩
          refine⟨trivial,?_⟩
          (refine⟨(⟨_,_,_,_,_,_,_,_,_⟩,_),?_,⟨rfl,rfl,rfl,rfl,rfl,rfl,trivial⟩,⟨rfl,rfl,rfl,rfl,rfl,rfl,rfl,rfl,trivial⟩⟩;dsimp only;(refine⟨⟨⟨by omega,by omega⟩,?_,?_⟩,?_⟩<;>first | assumption | omega | (show _=gF1 zs (gE zs c s (gD zs (s.tenants.getD tenant.toNat default) (gC zs (s.tenants.getD tenant.toNat default) (gB zs (s.tenants.getD tenant.toNat default) (gA zs (s.tenants.getD tenant.toNat default) (⟨kind,tick,tenant,cell,other,epoch,since,till,n⟩,k))))));rw[← hE];clear hE;try (simp only[beq_iff_eq,beq_eq_false_iff_ne,bne_iff_ne,bne_eq_false_iff_eq,ne_eq,decide_eq_true_eq,decide_eq_false_iff_not,ge_iff_le,gt_iff_lt] at *);simp only[gF1,gE, *,ge_iff_le,gt_iff_lt,if_true,if_false,or_true,true_or,or_false,or_self,not_true_eq_false,not_false_eq_true,Bool.false_eq_true,reduceIte];try rfl)))
        ·refine⟨trivial,?_⟩
         refine⟨?_,?_⟩
         ·refine⟨trivial,?_⟩
          refine⟨0,1,cap,zs,_,_,rfl,⟨rfl,rfl⟩,⟨hz,by omega,by omega⟩,⟨_,rfl,by omega,by omega⟩,?_⟩
          rintro _ k4 ⟨_,r4,hnn,rfl,⟨er4,ek4⟩,hr4,hk4⟩
          cases hnn
          refine⟨trivial,?_⟩
          refine⟨trivial,?_⟩
          (refine⟨(⟨_,_,_,_,_,_,_,_,_⟩,_),?_,⟨rfl,rfl,rfl,rfl,rfl,rfl,trivial⟩,⟨rfl,rfl,rfl,rfl,rfl,rfl,rfl,rfl,trivial⟩⟩;dsimp only;(refine⟨⟨⟨by omega,by omega⟩,?_,?_⟩,?_⟩<;>first | assumption | omega | (show _=gF1 zs (gE zs c s (gD zs (s.tenants.getD tenant.toNat default) (gC zs (s.tenants.getD tenant.toNat default) (gB zs (s.tenants.getD tenant.toNat default) (gA zs (s.tenants.getD tenant.toNat default) (⟨kind,tick,tenant,cell,other,epoch,since,till,n⟩,k))))));rw[← hE];clear hE;try (simp only[beq_iff_eq,beq_eq_false_iff_ne,bne_iff_ne,bne_eq_false_iff_eq,ne_eq,decide_eq_true_eq,decide_eq_false_iff_not,ge_iff_le,gt_iff_lt] at *);simp only[gF1,gE, *,ge_iff_le,gt_iff_lt,if_true,if_false,or_true,true_or,or_false,or_self,not_true_eq_false,not_false_eq_true,Bool.false_eq_true,reduceIte];try rfl)))
         ·refine⟨0,1,cap,zs,_,_,rfl,⟨rfl,rfl⟩,⟨hz,by omega,by omega⟩,⟨_,rfl,by omega,by omega⟩,?_⟩
          rintro _ k4 ⟨_,r4,hnn,rfl,⟨er4,ek4⟩,hr4,hk4⟩
          cases hnn
          refine⟨trivial,?_⟩
          refine⟨trivial,?_⟩
          refine⟨trivial,?_⟩
          (refine⟨(⟨_,_,_,_,_,_,_,_,_⟩,_),?_,⟨rfl,rfl,rfl,rfl,rfl,rfl,trivial⟩,⟨rfl,rfl,rfl,rfl,rfl,rfl,rfl,rfl,trivial⟩⟩;dsimp only;(refine⟨⟨⟨by omega,by omega⟩,?_,?_⟩,?_⟩<;>first | assumption | omega | (show _=gF1 zs (gE zs c s (gD zs (s.tenants.getD tenant.toNat default) (gC zs (s.tenants.getD tenant.toNat default) (gB zs (s.tenants.getD tenant.toNat default) (gA zs (s.tenants.getD tenant.toNat default) (⟨kind,tick,tenant,cell,other,epoch,since,till,n⟩,k))))));rw[← hE];clear hE;try (simp only[beq_iff_eq,beq_eq_false_iff_ne,bne_iff_ne,bne_eq_false_iff_eq,ne_eq,decide_eq_true_eq,decide_eq_false_iff_not,ge_iff_le,gt_iff_lt] at *);simp only[gF1,gE, *,ge_iff_le,gt_iff_lt,if_true,if_false,or_true,true_or,or_false,or_self,not_true_eq_false,not_false_eq_true,Bool.false_eq_true,reduceIte];try rfl)))
        ·refine⟨0,1,cap,zs,_,_,rfl,⟨rfl,rfl⟩,⟨hz,by omega,by omega⟩,⟨_,rfl,by omega,by omega⟩,?_⟩
         rintro _ k4 ⟨_,r4,hnn,rfl,⟨er4,ek4⟩,hr4,hk4⟩
         cases hnn
         refine⟨trivial,?_⟩
         refine⟨?_,?_⟩
         ·refine⟨trivial,?_⟩
          refine⟨trivial,?_⟩
          refine⟨trivial,?_⟩
          (refine⟨(⟨_,_,_,_,_,_,_,_,_⟩,_),?_,⟨rfl,rfl,rfl,rfl,rfl,rfl,trivial⟩,⟨rfl,rfl,rfl,rfl,rfl,rfl,rfl,rfl,trivial⟩⟩;dsimp only;(refine⟨⟨⟨by omega,by omega⟩,?_,?_⟩,?_⟩<;>first | assumption | omega | (show _=gF1 zs (gE zs c s (gD zs (s.tenants.getD tenant.toNat default) (gC zs (s.tenants.getD tenant.toNat default) (gB zs (s.tenants.getD tenant.toNat default) (gA zs (s.tenants.getD tenant.toNat default) (⟨kind,tick,tenant,cell,other,epoch,since,till,n⟩,k))))));rw[← hE];clear hE;try (simp only[beq_iff_eq,beq_eq_false_iff_ne,bne_iff_ne,bne_eq_false_iff_eq,ne_eq,decide_eq_true_eq,decide_eq_false_iff_not,ge_iff_le,gt_iff_lt] at *);simp only[gF1,gE, *,ge_iff_le,gt_iff_lt,if_true,if_false,or_true,true_or,or_false,or_self,not_true_eq_false,not_false_eq_true,Bool.false_eq_true,reduceIte];try rfl)))
         ·refine⟨trivial,?_⟩
          refine⟨trivial,?_⟩
          refine⟨trivial,?_⟩
          (refine⟨(⟨_,_,_,_,_,_,_,_,_⟩,_),?_,⟨rfl,rfl,rfl,rfl,rfl,rfl,trivial⟩,⟨rfl,rfl,rfl,rfl,rfl,rfl,rfl,rfl,trivial⟩⟩;dsimp only;(refine⟨⟨⟨by omega,by omega⟩,?_,?_⟩,?_⟩<;>first | assumption | omega | (show _=gF1 zs (gE zs c s (gD zs (s.tenants.getD tenant.toNat default) (gC zs (s.tenants.getD tenant.toNat default) (gB zs (s.tenants.getD tenant.toNat default) (gA zs (s.tenants.getD tenant.toNat default) (⟨kind,tick,tenant,cell,other,epoch,since,till,n⟩,k))))));rw[← hE];clear hE;try (simp only[beq_iff_eq,beq_eq_false_iff_ne,bne_iff_ne,bne_eq_false_iff_eq,ne_eq,decide_eq_true_eq,decide_eq_false_iff_not,ge_iff_le,gt_iff_lt] at *);simp only[gF1,gE, *,ge_iff_le,gt_iff_lt,if_true,if_false,or_true,true_or,or_false,or_self,not_true_eq_false,not_false_eq_true,Bool.false_eq_true,reduceIte];try rfl)))
       ·rintro⟨⟨ekind,etick,etenant,ecell,eother,eepoch,esince,etill,en⟩,kk⟩ ⟨⟨hkk,hcell⟩,hE⟩
        refine⟨⟨by decide,rfl,rfl⟩,?_⟩
        simp only at hkk hcell
        (refine⟨(⟨_,_,_,_,_,_,_,_,_⟩,_),?_,⟨rfl,rfl,rfl,rfl,rfl,rfl,trivial⟩,⟨rfl,rfl,rfl,rfl,rfl,rfl,rfl,rfl,trivial⟩⟩;dsimp only;(refine⟨⟨⟨by omega,by omega⟩,?_,?_⟩,?_⟩<;>first | assumption | omega | (unfold gF;rw[if_pos hq,← hE])))
      ·(refine⟨(⟨_,_,_,_,_,_,_,_,_⟩,_),?_,⟨rfl,rfl,rfl,rfl,rfl,rfl,trivial⟩,⟨rfl,rfl,rfl,rfl,rfl,rfl,rfl,rfl,trivial⟩⟩;dsimp only;(refine⟨⟨⟨by omega,by omega⟩,?_,?_⟩,?_⟩<;>first | assumption | omega | (show _=gF zs (gE zs c s (gD zs (s.tenants.getD tenant.toNat default) (gC zs (s.tenants.getD tenant.toNat default) (gB zs (s.tenants.getD tenant.toNat default) (gA zs (s.tenants.getD tenant.toNat default) (⟨kind,tick,tenant,cell,other,epoch,since,till,n⟩,k))))));rw[← hE];clear hE;try (simp only[beq_iff_eq,beq_eq_false_iff_ne,bne_iff_ne,bne_eq_false_iff_eq,ne_eq,decide_eq_true_eq,decide_eq_false_iff_not,ge_iff_le,gt_iff_lt] at *);simp only[gF,gE,gF1, *,ge_iff_le,gt_iff_lt,if_true,if_false,or_true,true_or,or_false,or_self,not_true_eq_false,not_false_eq_true,Bool.false_eq_true,reduceIte];try rfl)))
     ·rintro⟨⟨ekind,etick,etenant,ecell,eother,eepoch,esince,etill,en⟩,kk⟩ ⟨⟨hkk,hcell⟩,hE⟩
      refine⟨⟨by decide,rfl,rfl⟩,?_⟩
      simp only at hkk hcell
      exact⟨kk,⟨⟨_,_,_,_,_,_,_,_,_⟩,⟨_,_,_,_,_,_,_,_,_⟩,rfl,rfl,hE.symm,by omega,by omega⟩,pure_ent ⟨_,_,_,_,_,_,_,_,_⟩,rfl⟩
def ctGrantX:CT:=ctGen GrantX preGrant
theorem grantXOk:CSound Try.prog 115 ctGrantX:=genOk (by kernel_rfl) (by
  rintro c s args k ⟨-,e,rfl,-⟩ v hv
  simp at hv
  subst hv
  exact pure_ent e) (by
 rintro args g A cap zs k x c y s w hz hk0 hk1 ⟨⟨hV,hI⟩,e,rfl,h0,h1⟩ ht hc hs
 refine gen_calls ggrXFok Try.func115 rfl (D:=ggrD) (by kernel_rfl) rfl (fun v hv=>by simp at hv;subst hv;exact pure_ent e) g A cap zs k x c y s w ht hc hs (R:=GrantX zs c s [entV' e] k) ?_
 exact grantX_sx cap zs k _ c _ s e hz ⟨hk0,by omega⟩ hV hI h0 h1)
/-! make.Entry,exactly. -/
def mx0 (v:Int):Int:=if v>0 then v else 0
def enT (zs:List Int) (s:St) (k:Int):Int×Int:=
 if nxV zs (advK zs k) 20=0 then (if IntKind.i64.wrap (s.tick-1)>0 then IntKind.i64.wrap (s.tick-1) else 0,advK zs (advK zs k))
 else (IntKind.i64.wrap (s.tick+nxV zs k 4),advK zs (advK zs k))
def enP (zs:List Int) (c:Cfg) (i tk k:Int):Ent×Int:=
 (⟨1,tk,i,mx0 (pkV zs (homesL c i) k),pkV zs (standbysL c i (mx0 (pkV zs (homesL c i) k))) (pkK zs (homesL c i) k),0,0,0,0⟩,pkK zs (standbysL c i (mx0 (pkV zs (homesL c i) k))) (pkK zs (homesL c i) k))
def enS (zs:List Int) (c:Cfg) (s:St) (x:TS) (i tk k:Int):Ent×Int:=
 if nxV zs k 12=0 then (⟨3,tk,i,-1,-1,if x.epoch>1 then x.epoch else 1,0,0,0⟩,advK zs k)
 else if nxV zs k 12=1 then (⟨4,tk,i,pkV zs (standbysL c i x.home) (advK zs k),-1,0,0,0,0⟩,pkK zs (standbysL c i x.home) (advK zs k))
 else if nxV zs k 12=2 then (⟨5,tk,i,mx0 x.next,-1,0,0,0,0⟩,advK zs k)
 else if nxV zs k 12=3 then (⟨6,tk,i,mx0 (pkV zs (homesL c i) (advK zs k)),-1,0,0,0,0⟩,pkK zs (homesL c i) (advK zs k))
 else if nxV zs k 12=4 then (⟨7,tk,i,-1,-1,0,0,0,0⟩,advK zs k)
 else if nxV zs k 12=5 then (⟨8,tk,i,-1,-1,0,0,0,if x.shed=true then 0 else 1⟩,advK zs k)
 else gG zs c s ⟨2,tk,i,-1,-1,0,0,0,0⟩ (advK zs k)
def enQ (zs:List Int) (c:Cfg) (s:St) (i tk k:Int):Ent×Int:=
 if (s.tenants.getD i.toNat default).placed=true then enS zs c s (s.tenants.getD i.toNat default) i tk k else enP zs c i tk k
def enE (zs:List Int) (c:Cfg) (s:St) (k:Int):Ent×Int:=
 match enT zs s k with
 | (tk,k2)=>if c.tenants.length=0 then plE zs c s tk k2 else if nxV zs k2 4=0 then plE zs c s tk (advK zs k2) else enQ zs c s (nxV zs (advK zs k2) c.tenants.length) tk (advK zs (advK zs k2))
def entryXF:FT:=[(48,ctNextX),(50,ctYesX),(110,ctPlatformX),(115,ctGrantX),(111,ctNone),(112,ctPickX),(113,ctHomesX),(114,ctStandbysX)]
theorem entryXFok:FTok Try.prog entryXF:=ft_cons nextXOk (ft_cons yesXOk (ft_cons platformXOk (ft_cons grantXOk (ft_cons noneOk (ft_cons pickXOk (ft_cons homesXOk (ft_cons standbysXOk ft_nil)))))))
def EntX (zs:List Int) (c:Cfg) (s:St) (k:Int) (v:Value) (k':Int):Prop:=∃ en,v=entV' en∧enE zs c s k=(en,k')∧k≤k'∧k'≤k+40∧(zs.length≠0→k<k')
set_option maxRecDepth 100000 in
set_option maxHeartbeats 4000000 in
theorem entryX_sx (cap:Nat) (zs:List Int) (k:Int) (x:CfgK) (c:Cfg) (y:StK) (s:St) (hz:zs.length≤400) (hk:0≤k∧k≤880000) (hV:CfgV c) (hI:StInv c s) :
  sx tt entryXF entryD (bodyOf Try.f80) (argF 0 (ptr 0::cfgV CN0 x c::stV SN0 y s::[])) ((0,tapeB 1 zs.length cap k)::(1,intRow zs)::(cfgM CN0 c++stM SN0 s)) 10
   (endx tt Try.f80.results.toList fun v mem' _=>∃ k',EntX zs c s k v k'∧pureV v∧lk mem' 0=some (tapeB 1 zs.length cap k')):=by
 have hnc:=hV.nc
 have hnt:=hV.nt
 have hlt:=hI.lt
 have htk:=hI.tick
 refine⟨0,1,cap,zs,_,_,rfl,⟨rfl,rfl⟩,⟨hz,by omega,by omega⟩,⟨_,rfl,by omega,by omega⟩,?_⟩
 rintro _ k1 ⟨_,r1,hnn,rfl,⟨er1,ek1⟩,hr1,hk1⟩
 cases hnn
 refine⟨⟨rfl,trivial⟩,?_⟩
 refine⟨Int×Int,fun y=>match y with | (tk,kk)=>[(7,.int .i64 tk)],fun y=>match y with | (tk,kk)=>[(0,tapeB 1 zs.length cap kk)],fun y=>((0≤y.1∧y.1≤2147483648)∧k≤y.2∧y.2≤k+2∧(zs.length≠0→k<y.2))∧y=enT zs s k,?_,?_⟩
 ·refine⟨0,1,cap,zs,_,_,rfl,⟨rfl,rfl⟩,⟨hz,by omega,by omega⟩,⟨_,rfl,by omega,by omega⟩,?_⟩
  rintro _ k2 ⟨_,b2,hnn,rfl,⟨er2,ek2⟩,hk2⟩;cases hnn;subst er2
  refine⟨fun q=>?_,fun q=>?_⟩
  ·(refine⟨(_,_),?_,⟨rfl,rfl,rfl,rfl,rfl,trivial⟩,⟨rfl,rfl,rfl,rfl,rfl,rfl,rfl,rfl,rfl,rfl,rfl,rfl,rfl,trivial⟩⟩;dsimp only;refine⟨?_,(by try (simp only[beq_iff_eq,beq_eq_false_iff_ne,bne_iff_ne,bne_eq_false_iff_eq,ne_eq,decide_eq_true_eq,decide_eq_false_iff_not,ge_iff_le,gt_iff_lt] at *);simp only[enT, *,ge_iff_le,gt_iff_lt,if_true,if_false,or_true,true_or,or_false,or_self,not_true_eq_false,not_false_eq_true,Bool.false_eq_true,reduceIte];try rfl)⟩;(split<;>(try rw[wrapi (by omega)] at *)<;>omega))
  ·(refine⟨(_,_),?_,⟨rfl,rfl,rfl,rfl,rfl,trivial⟩,⟨rfl,rfl,rfl,rfl,rfl,rfl,rfl,rfl,rfl,rfl,rfl,rfl,rfl,trivial⟩⟩;dsimp only;refine⟨?_,(by try (simp only[beq_iff_eq,beq_eq_false_iff_ne,bne_iff_ne,bne_eq_false_iff_eq,ne_eq,decide_eq_true_eq,decide_eq_false_iff_not,ge_iff_le,gt_iff_lt] at *);simp only[enT, *,ge_iff_le,gt_iff_lt,if_true,if_false,or_true,true_or,or_false,or_self,not_true_eq_false,not_false_eq_true,Bool.false_eq_true,reduceIte];try rfl)⟩;(rw[wrapi (by omega)];omega))
 ·rintro⟨tk,kk⟩ ⟨⟨htk,hkk⟩,hE⟩
  refine⟨⟨by decide,rfl,rfl⟩,?_⟩
  dsimp only at htk hkk
  refine⟨fun h0=>?_,fun h0=>?_⟩
  ·refine⟨fun _=>?_,fun h=>nomatch h⟩
   have hpos:c.tenants.length=0:=by simpa using h0
   refine⟨0,1,cap,zs,_,CN0,x,c,SN0,y,s,[.int .i64 tk],rfl,⟨rfl,rfl⟩,⟨rfl,rfl,rfl,rfl,rfl,rfl,trivial⟩,⟨rfl,rfl,trivial⟩,⟨hz,by omega,by omega⟩,⟨⟨hV,hI⟩,tk,rfl,htk.1,htk.2⟩,?_⟩
   rintro _ k9 ⟨_,en,hnn,rfl,e9,hk9⟩
   cases hnn
   exact⟨k9,⟨en,rfl,(by rw[enE,← hE];try (simp only[beq_iff_eq,beq_eq_false_iff_ne,bne_iff_ne,bne_eq_false_iff_eq,ne_eq,decide_eq_true_eq,decide_eq_false_iff_not,ge_iff_le,gt_iff_lt] at *);simp only[reduceIte, *,ge_iff_le,gt_iff_lt,if_true,if_false,or_true,true_or,or_false,or_self,not_true_eq_false,not_false_eq_true,Bool.false_eq_true,reduceIte];try rfl),by omega,by omega,by omega⟩,pure_ent en,rfl⟩
  ·have hpos:c.tenants.length≠0:=by simpa using h0
   have hpos2:¬ (c.tenants.length:Int)=0:=by omega
   refine⟨0,1,cap,zs,_,_,rfl,⟨rfl,rfl⟩,⟨hz,by omega,by omega⟩,⟨_,rfl,by omega,by omega⟩,?_⟩
   rintro _ k8 ⟨_,b8,hnn,rfl,⟨er8,ek8⟩,hk8⟩;cases hnn;subst er8
   refine⟨fun q=>?_,fun q=>?_⟩
   ·refine⟨0,1,cap,zs,_,CN0,x,c,SN0,y,s,[.int .i64 tk],rfl,⟨rfl,rfl⟩,⟨rfl,rfl,rfl,rfl,rfl,rfl,trivial⟩,⟨rfl,rfl,trivial⟩,⟨hz,by omega,by omega⟩,⟨⟨hV,hI⟩,tk,rfl,htk.1,htk.2⟩,?_⟩
    rintro _ k9 ⟨_,en,hnn,rfl,e9,hk9⟩
    cases hnn
    exact⟨k9,⟨en,rfl,(by rw[enE,← hE];try (simp only[beq_iff_eq,beq_eq_false_iff_ne,bne_iff_ne,bne_eq_false_iff_eq,ne_eq,decide_eq_true_eq,decide_eq_false_iff_not,ge_iff_le,gt_iff_lt] at *);simp only[reduceIte, *,ge_iff_le,gt_iff_lt,if_true,if_false,or_true,true_or,or_false,or_self,not_true_eq_false,not_false_eq_true,Bool.false_eq_true,reduceIte];try rfl),by omega,by omega,by omega⟩,pure_ent en,rfl⟩
   ·refine⟨0,1,cap,zs,_,_,rfl,⟨rfl,rfl⟩,⟨hz,by omega,by omega⟩,⟨_,rfl,by omega,by omega⟩,?_⟩
    rintro _ k3 ⟨_,r3,hnn,rfl,⟨er3,ek3⟩,hr3,hk3⟩
    cases hnn
    refine⟨⟨Nat.le_refl _,by omega,by omega⟩,?_⟩
    obtain⟨t,htd⟩:∃ t,t=s.tenants.getD r3.toNat default:=⟨_,rfl⟩
    refine⟨fun hpl=>?_,fun hpl=>?_⟩
    ·have hplq:(s.tenants.getD r3.toNat default).placed=false:=by simpa using hpl
     refine⟨_,_,rfl,?_⟩
     refine⟨CN0,x,c,_,rfl,⟨rfl,rfl,rfl,rfl,rfl,rfl,trivial⟩,hV,?_⟩
     intro lH cpH elH hlH
     refine⟨0,1,cap,zs,_,_,_,_,rfl,⟨rfl,rfl,rfl⟩,⟨hz,by omega,by omega⟩,by assumption,?_⟩
     rintro v4 k4 ⟨ev4,ek4⟩ hk4
     refine⟨CN0,x,c,_,_,rfl,⟨rfl,rfl,rfl,rfl,rfl,rfl,trivial⟩,hV,?_⟩
     intro lS cpS elS hlS
     refine⟨0,1,cap,zs,_,_,_,_,rfl,⟨rfl,rfl,rfl⟩,⟨hz,by omega,by omega⟩,by assumption,?_⟩
     rintro v5 k5 ⟨ev5,ek5⟩ hk5
     exact⟨k5,⟨⟨_,_,_,_,_,_,_,_,_⟩,rfl,(by rw[enE,← hE];try (simp only[beq_iff_eq,beq_eq_false_iff_ne,bne_iff_ne,bne_eq_false_iff_eq,ne_eq,decide_eq_true_eq,decide_eq_false_iff_not,ge_iff_le,gt_iff_lt] at *);simp only[enQ,enP,mx0, *,ge_iff_le,gt_iff_lt,if_true,if_false,or_true,true_or,or_false,or_self,not_true_eq_false,not_false_eq_true,Bool.false_eq_true,reduceIte];try rfl),by omega,by omega,by omega⟩,pure_ent ⟨_,_,_,_,_,_,_,_,_⟩,rfl⟩
    ·have hplq:(s.tenants.getD r3.toNat default).placed=true:=by simpa using hpl
     replace hpl:(tsAt s r3).placed=true:=hplq
     refine⟨_,_,rfl,?_⟩
     refine⟨Ent×Int,fun _=>[],fun y=>match y with | (⟨a1,a2,a3,a4,a5,a6,a7,a8,a9⟩,kk)=>[(0,tapeB 1 zs.length cap kk),(14,.box 143 [.int .i64 a1,.int .i64 a2,.int .i64 a3,.int .i64 a4,.int .i64 a5,.int .i64 a6,.int .i64 a7,.int .i64 a8,.int .i64 a9])],fun y=>(k≤y.2∧y.2≤k+10∧(zs.length≠0→k<y.2))∧y=enE zs c s k,?_,?_⟩
     ·refine⟨0,1,cap,zs,_,_,rfl,⟨rfl,rfl⟩,⟨hz,by omega,by omega⟩,⟨_,rfl,by omega,by omega⟩,?_⟩
      rintro _ k6 ⟨_,r6,hnn,rfl,⟨er6,ek6⟩,hr6,hk6⟩
      cases hnn
      refine⟨fun q=>?_,fun q=>?_⟩
      ·refine⟨⟨rfl,trivial⟩,?_⟩
       (refine⟨(⟨_,_,_,_,_,_,_,_,_⟩,_),?_,⟨rfl,rfl,trivial⟩,⟨rfl,rfl,rfl,trivial⟩⟩;dsimp only;refine⟨by omega,?_⟩;rw[enE,← hE];try (simp only[beq_iff_eq,beq_eq_false_iff_ne,bne_iff_ne,bne_eq_false_iff_eq,ne_eq,decide_eq_true_eq,decide_eq_false_iff_not,ge_iff_le,gt_iff_lt] at *);simp only[enQ,enS,mx0, *,ge_iff_le,gt_iff_lt,if_true,if_false,or_true,true_or,or_false,or_self,not_true_eq_false,not_false_eq_true,Bool.false_eq_true,reduceIte];try rfl)
      refine⟨fun q=>?_,fun q=>?_⟩
      ·refine⟨CN0,x,c,_,_,rfl,⟨rfl,rfl,rfl,rfl,rfl,rfl,trivial⟩,hV,?_⟩
       intro lS cpS elS hlS
       refine⟨0,1,cap,zs,_,_,_,_,rfl,⟨rfl,rfl,rfl⟩,⟨hz,by omega,by omega⟩,by assumption,?_⟩
       rintro v7 k7 ⟨ev7,ek7⟩ hk7
       (refine⟨(⟨_,_,_,_,_,_,_,_,_⟩,_),?_,⟨rfl,rfl,trivial⟩,⟨rfl,rfl,rfl,trivial⟩⟩;dsimp only;refine⟨by omega,?_⟩;rw[enE,← hE];try (simp only[beq_iff_eq,beq_eq_false_iff_ne,bne_iff_ne,bne_eq_false_iff_eq,ne_eq,decide_eq_true_eq,decide_eq_false_iff_not,ge_iff_le,gt_iff_lt] at *);simp only[enQ,enS,mx0, *,ge_iff_le,gt_iff_lt,if_true,if_false,or_true,true_or,or_false,or_self,not_true_eq_false,not_false_eq_true,Bool.false_eq_true,reduceIte];try rfl)
      refine⟨fun q=>?_,fun q=>?_⟩
      ·refine⟨⟨rfl,trivial⟩,?_⟩
       (refine⟨(⟨_,_,_,_,_,_,_,_,_⟩,_),?_,⟨rfl,rfl,trivial⟩,⟨rfl,rfl,rfl,trivial⟩⟩;dsimp only;refine⟨by omega,?_⟩;rw[enE,← hE];try (simp only[beq_iff_eq,beq_eq_false_iff_ne,bne_iff_ne,bne_eq_false_iff_eq,ne_eq,decide_eq_true_eq,decide_eq_false_iff_not,ge_iff_le,gt_iff_lt] at *);simp only[enQ,enS,mx0, *,ge_iff_le,gt_iff_lt,if_true,if_false,or_true,true_or,or_false,or_self,not_true_eq_false,not_false_eq_true,Bool.false_eq_true,reduceIte];try rfl)
      refine⟨fun q=>?_,fun q=>?_⟩
      ·refine⟨CN0,x,c,_,rfl,⟨rfl,rfl,rfl,rfl,rfl,rfl,trivial⟩,hV,?_⟩
       intro lH cpH elH hlH
       refine⟨0,1,cap,zs,_,_,_,_,rfl,⟨rfl,rfl,rfl⟩,⟨hz,by omega,by omega⟩,by assumption,?_⟩
       rintro v7 k7 ⟨ev7,ek7⟩ hk7
       (refine⟨(⟨_,_,_,_,_,_,_,_,_⟩,_),?_,⟨rfl,rfl,trivial⟩,⟨rfl,rfl,rfl,trivial⟩⟩;dsimp only;refine⟨by omega,?_⟩;rw[enE,← hE];try (simp only[beq_iff_eq,beq_eq_false_iff_ne,bne_iff_ne,bne_eq_false_iff_eq,ne_eq,decide_eq_true_eq,decide_eq_false_iff_not,ge_iff_le,gt_iff_lt] at *);simp only[enQ,enS,mx0, *,ge_iff_le,gt_iff_lt,if_true,if_false,or_true,true_or,or_false,or_self,not_true_eq_false,not_false_eq_true,Bool.false_eq_true,reduceIte];try rfl)
      refine⟨fun q=>?_,fun q=>?_⟩
      ·(refine⟨(⟨_,_,_,_,_,_,_,_,_⟩,_),?_,⟨rfl,rfl,trivial⟩,⟨rfl,rfl,rfl,trivial⟩⟩;dsimp only;refine⟨by omega,?_⟩;rw[enE,← hE];try (simp only[beq_iff_eq,beq_eq_false_iff_ne,bne_iff_ne,bne_eq_false_iff_eq,ne_eq,decide_eq_true_eq,decide_eq_false_iff_not,ge_iff_le,gt_iff_lt] at *);simp only[enQ,enS,mx0, *,ge_iff_le,gt_iff_lt,if_true,if_false,or_true,true_or,or_false,or_self,not_true_eq_false,not_false_eq_true,Bool.false_eq_true,reduceIte];try rfl)
      refine⟨fun q=>?_,fun q=>?_⟩
      ·refine⟨fun q=>?_,fun q=>?_⟩
       ·(refine⟨(⟨_,_,_,_,_,_,_,_,_⟩,_),?_,⟨rfl,rfl,trivial⟩,⟨rfl,rfl,rfl,trivial⟩⟩;dsimp only;refine⟨by omega,?_⟩;rw[enE,← hE];try (simp only[beq_iff_eq,beq_eq_false_iff_ne,bne_iff_ne,bne_eq_false_iff_eq,ne_eq,decide_eq_true_eq,decide_eq_false_iff_not,ge_iff_le,gt_iff_lt] at *);simp only[enQ,enS,mx0, *,ge_iff_le,gt_iff_lt,if_true,if_false,or_true,true_or,or_false,or_self,not_true_eq_false,not_false_eq_true,Bool.false_eq_true,reduceIte];try rfl)
       ·(refine⟨(⟨_,_,_,_,_,_,_,_,_⟩,_),?_,⟨rfl,rfl,trivial⟩,⟨rfl,rfl,rfl,trivial⟩⟩;dsimp only;refine⟨by omega,?_⟩;rw[enE,← hE];try (simp only[beq_iff_eq,beq_eq_false_iff_ne,bne_iff_ne,bne_eq_false_iff_eq,ne_eq,decide_eq_true_eq,decide_eq_false_iff_not,ge_iff_le,gt_iff_lt] at *);simp only[enQ,enS,mx0, *,ge_iff_le,gt_iff_lt,if_true,if_false,or_true,true_or,or_false,or_self,not_true_eq_false,not_false_eq_true,Bool.false_eq_true,reduceIte];try rfl)
      refine⟨0,1,cap,zs,_,CN0,x,c,SN0,y,s,[entV' ⟨2,tk,r3,-1,-1,0,0,0,0⟩],rfl,⟨rfl,rfl⟩,⟨rfl,rfl,rfl,rfl,rfl,rfl,trivial⟩,⟨rfl,rfl,trivial⟩,⟨hz,by omega,by omega⟩,⟨⟨hV,hI⟩,⟨2,tk,r3,-1,-1,0,0,0,0⟩,rfl,⟨hr3.1,by show r3<_;omega⟩,hpl⟩,?_⟩
      rintro _ k9 ⟨⟨a1,a2,a3,a4,a5,a6,a7,a8,a9⟩,en,hnn,rfl,e9,hk9⟩
      cases hnn
      exact⟨k9,⟨en,rfl,(by rw[enE,← hE];try (simp only[beq_iff_eq,beq_eq_false_iff_ne,bne_iff_ne,bne_eq_false_iff_eq,ne_eq,decide_eq_true_eq,decide_eq_false_iff_not,ge_iff_le,gt_iff_lt] at *);simp only[enQ,enS, *,ge_iff_le,gt_iff_lt,if_true,if_false,or_true,true_or,or_false,or_self,not_true_eq_false,not_false_eq_true,Bool.false_eq_true,reduceIte];exact e9),by omega,by omega,by omega⟩,pure_ent en,rfl⟩
     ·rintro⟨⟨ekind,etick,etenant,ecell,eother,eepoch,esince,etill,en⟩,k8⟩ ⟨hk8,hE2⟩
      refine⟨⟨by decide,rfl,rfl⟩,?_⟩
      dsimp only at hk8
      exact⟨k8,⟨⟨_,_,_,_,_,_,_,_,_⟩,rfl,hE2.symm,by omega,by omega,by omega⟩,pure_ent ⟨_,_,_,_,_,_,_,_,_⟩,rfl⟩
def ctEntryX:CT:=ctGen (fun zs c s _=>EntX zs c s) fun c s args k=>(CfgV c∧StInv c s∧k≤880000)∧args=[]
theorem entryXOk:CSound Try.prog 80 ctEntryX:=genOk (by kernel_rfl) (by
  rintro c s args k ⟨-,rfl⟩ v hv
  cases hv) (by
 rintro args g A cap zs k x c y s w hz hk0 hk1 ⟨⟨hV,hI,hk2⟩,rfl⟩ ht hc hs
 refine gen_calls entryXFok Try.func80 rfl (D:=entryD) (by kernel_rfl) rfl (fun v hv=>by cases hv) g A cap zs k x c y s w ht hc hs (R:=EntX zs c s k) ?_
 exact entryX_sx cap zs k _ c _ s hz ⟨hk0,hk2⟩ hV hI)
/-! make.Log,exactly. -/
def lgS (zs:List Int) (c:Cfg) (q:Int×St×List Ent):Int×St×List Ent:=
 if (applyP c q.2.1 (enE zs c q.2.1 q.1).1).2=0 then ((enE zs c q.2.1 q.1).2,(applyP c q.2.1 (enE zs c q.2.1 q.1).1).1,q.2.2++[(enE zs c q.2.1 q.1).1]) else ((enE zs c q.2.1 q.1).2,q.2.1,q.2.2)
def lgC (zs:List Int) (n:Int) (q:Int×St×List Ent):Prop:=(q.2.2.length:Int)<n∧q.1<zs.length
inductive LgT (zs:List Int) (c:Cfg) (n:Int):Int×St×List Ent→Int×St×List Ent→Prop
 | refl (q):LgT zs c n q q
 | step {q r}:lgC zs n q→LgT zs c n (lgS zs c q) r→LgT zs c n q r
theorem LgT.trans {zs:List Int} {c:Cfg} {n:Int} {p q r:Int×St×List Ent} (h:LgT zs c n p q) (h2:LgT zs c n q r):LgT zs c n p r:=by
 induction h with
 | refl _=>exact h2
 | step hc _ ih=>exact .step hc (ih h2)
theorem LgT.snoc {zs:List Int} {c:Cfg} {n:Int} {p q:Int×St×List Ent} (h:LgT zs c n p q) (hc:lgC zs n q):LgT zs c n p (lgS zs c q):=h.trans (.step hc (.refl _))
theorem LgT.snoc2 {zs:List Int} {c:Cfg} {n:Int} {p:Int×St×List Ent} {k:Int} {s:St} {es:List Ent} (h:LgT zs c n p (k,s,es)) (h1:(es.length:Int)<n) (h2:k<zs.length) {q:Int×St×List Ent} (e:lgS zs c (k,s,es)=q):LgT zs c n p q:=e ▸ h.snoc ⟨h1,h2⟩
theorem LgT.more {zs:List Int} {c:Cfg} {n m:Int} (hnm:n≤m) {p q:Int×St×List Ent} (h:LgT zs c n p q):LgT zs c m p q:=by
 induction h with
 | refl _=>exact .refl _
 | step hc _ ih=>exact .step ⟨by have:=hc.1;omega,hc.2⟩ ih
theorem LgT.meet {zs:List Int} {c:Cfg} {n:Int} {p q r:Int×St×List Ent} (h:LgT zs c n p q) (h2:LgT zs c n p r) (hr:¬ lgC zs n r):LgT zs c n q r:=by
 induction h with
 | refl _=>exact h2
 | step hc _ ih=>
  cases h2 with
  | refl _=>exact absurd hc hr
  | step _ h3=>exact ih h3
theorem Run.app {c:Cfg} {s s' s2:St} {es l:List Ent} (h:Run c s es s') (h2:Run c s' l s2):Run c s (es++l) s2:=by
 induction h with
 | nil _=>exact h2
 | cons he _ ih=>exact .cons he (ih h2)
theorem lgS_run (zs:List Int) (c:Cfg) (q:Int×St×List Ent):∃ es,Run c q.2.1 es (lgS zs c q).2.1:=by
 unfold lgS
 split
 ·rename_i h
  exact⟨[_],.cons (e:=(enE zs c q.2.1 q.1).1) (by rw[← h]) (.nil _)⟩
 ·exact⟨[],.nil _⟩
theorem LgT.run {zs:List Int} {c:Cfg} {n:Int} {p q:Int×St×List Ent} (h:LgT zs c n p q):∃ es,Run c p.2.1 es q.2.1:=by
 induction h with
 | refl q=>exact⟨[],.nil _⟩
 | step hc _ ih=>
  obtain⟨e1,h1⟩:=lgS_run zs c _
  obtain⟨e2,h2⟩:=ih
  exact⟨e1++e2,h1.app h2⟩
theorem lgS_yes {zs:List Int} {c:Cfg} {k k2:Int} {s s2:St} {es:List Ent} {en:Ent} (e:enE zs c s k=(en,k2)) (h:applyP c s en=(s2,0)):lgS zs c (k,s,es)=(k2,s2,es++[en]):=by
 unfold lgS
 dsimp only
 rw[e]
 dsimp only
 rw[h,if_pos rfl]
theorem lgS_no {zs:List Int} {c:Cfg} {k k2:Int} {s:St} {es:List Ent} {en:Ent} (e:enE zs c s k=(en,k2)) (h:¬ (applyP c s en).2=0):lgS zs c (k,s,es)=(k2,s,es):=by
 unfold lgS
 dsimp only
 rw[e]
 dsimp only
 rw[if_neg h]
def StX (zs:List Int) (c:Cfg) (n:Int) (s:St):Prop:=∃ k es,LgT zs c n (0,stNew c,[]) (k,s,es)∧¬ lgC zs n (k,s,es)
theorem StX.run {zs:List Int} {c:Cfg} {n m:Int} (hnm:n≤m) {s t:St} (hs:StX zs c n s) (ht:StX zs c m t):∃ es,Run c s es t:=by
 obtain⟨k,es,h1,-⟩:=hs
 obtain⟨k2,es2,h2,h3⟩:=ht
 exact ((h1.more hnm).meet h2 h3).run
def lgXF:FT:=[(46,ctTapeNew),(77,ctNewR),(79,ctMoreX),(80,ctEntryX),(78,ctApplyR)]
theorem lgXFok:FTok Try.prog lgXF:=ft_cons tapeNewOk (ft_cons newROk (ft_cons moreXOk (ft_cons entryXOk (ft_cons applyROk ft_nil))))
def lgXD:List (Nat×DQ):=[(3000004,{ k:=21,L:=[0,1,2,3,4,5,6,7,8,9,10,11,12,13],sl:=[2,4,7,8] })]
set_option maxRecDepth 100000 in
set_option maxHeartbeats 8000000 in
theorem logX_sx (d:UD) (x:CfgK) (cap0:Nat) (n:Int) (hV:CfgV d.c) (hz:d.l0.length≤400) (hn:0≤n∧n≤1000) :
  sx tt lgXF lgXD (bodyOf Try.f59) (argF 0 [slc 0 d.l0.length cap0,cfgV CNu x d.c,.int .i64 n]) (uniM d) 13 (endx tt Try.f59.results.toList fun v mem' _=>∃ es s,(Run d.c (stNew d.c) es s∧∃ k,LgT d.l0 d.c n (0,stNew d.c,[]) (k,s,es)∧¬ lgC d.l0 n (k,s,es))∧(es.length:Int)≤n∧SlR mem' 9 entC default es v∧LenCap es.length v):=by
 have hnt:=hV.nt
 have hnc:=hV.nc
 refine⟨0,cap0,d.l0,rfl,rfl,by omega,?_⟩
 refine⟨CNu,x,d.c,rfl,kp_,⟨by omega,by omega,by omega⟩,?_⟩
 intro y0
 refine⟨St×StK×Int×List Ent×Option (Nat×(Nat→List Value)),fun q=>match q with | (s,y,k,es,none)=>[(9,zs0)] | (s,y,k,es,some (cap,el))=>[(9,slc 20 es.length cap)],fun q=>match q with | (s,y,k,es,none)=>[(14,tapeB 0 d.l0.length cap0 k),(17,.box 51 [.int .i64 s.tick,.int .i64 s.count,slc 18 s.tenants.length y.ct,slc 19 s.cells.length y.cc,.int .i64 s.proven,.int .i64 s.evac,.int .i64 s.low,.int .i64 s.high]),(18,rowOfL 500000 12 tsC default s.tenants),(19,rowOfL 500000 4 csC default s.cells)] | (s,y,k,es,some (cap,el))=>(20,.row (1000000+143) 9 cap el)::[(14,tapeB 0 d.l0.length cap0 k),(17,.box 51 [.int .i64 s.tick,.int .i64 s.count,slc 18 s.tenants.length y.ct,slc 19 s.cells.length y.cc,.int .i64 s.proven,.int .i64 s.evac,.int .i64 s.low,.int .i64 s.high]),(18,rowOfL 500000 12 tsC default s.tenants),(19,rowOfL 500000 4 csC default s.cells)],fun q=>match q with | (s,y,k,es,o)=>(Run d.c (stNew d.c) es s∧LgT d.l0 d.c n (0,stNew d.c,[]) (k,s,es))∧(0≤k∧k≤445)∧(es.length:Int)≤n∧match o with | none=>es=[] | some (cap,el)=>es.length≤cap∧∀ j,j<es.length→el j=entC (es.getD j default),fun q=>match q with | (s,y,k,es,o)=>(1000-k).toNat,⟨(stNew d.c,y0,0,[],none),[(18,16),(19,15)],⟨⟨.nil _,.refl _⟩,by omega,by simpa using hn.1,rfl⟩,⟨rfl,rfl⟩,kp_,kp_⟩,?_⟩
 rintro⟨s,y,k,es,(_ | ⟨cap,el⟩)⟩ ⟨hR,hk,hn2,ho⟩
 ·refine⟨⟨by decide,rfl,rfl⟩,?_⟩
  refine⟨fun hc=>?_,fun hc=>?_⟩
  ·refine⟨14,0,cap0,d.l0,_,[],rfl,⟨rfl,rfl⟩,⟨by omega,by omega,by omega⟩,rfl,?_⟩
   rintro _ k1 ⟨b1,rfl,rfl,hb1⟩
   refine⟨fun hb=>?_,fun hb=>?_⟩
   ·have hkl:k1<d.l0.length:=of_decide_eq_true (hb1.trans hb)
    have hlen:(es.length:Int)<n:=by rw[show es=[] from ho];exact of_decide_eq_true hc
    clear hb1
    have hI:=(hR.1.rinv hV (.new hV)).inv
    have hcp:=(hR.1.rinv hV (.new hV)).cap
    refine⟨14,0,cap0,d.l0,_,CNu,x,d.c,⟨18,19,500000⟩,y,s,[],rfl,⟨rfl,rfl⟩,kp_,kp_,⟨by omega,by omega,by omega⟩,⟨⟨hV,hI,by omega⟩,rfl⟩,?_⟩
    rintro _ k2 ⟨en,rfl,een,hk2a,hk2b,hk2c⟩
    refine⟨CNu,x,d.c,⟨18,19,500000⟩,y,s,en,rfl,⟨kp_,.list rfl,.list rfl⟩,⟨hV,hI⟩,?_⟩
    intro y2
    rw[applyRP hV hI hcp]
    refine⟨fun he=>?_,fun he=>?_⟩
    ·have he2:applyP d.c s en=((applyP d.c s en).1,0):=by
      have q:(applyP d.c s en).2=0:=by simpa using he
      rw[← q]
     have he0:es=[]:=ho
     subst he0
     refine⟨⟨Nat.le_refl _,fun j hj=>by match j,hj with | 0,_=>rfl⟩,?_⟩
     refine⟨fun h=>absurd h (by decide),fun _=>⟨by decide,fun cap2 el2 hc2 hel2=>?_⟩⟩
     refine⟨((applyP d.c s en).1,y2,k2,[en],some (cap2,el2)),[(18,23),(19,22),(20,26)],?_,⟨rfl,rfl⟩,kp_,kp_⟩
     dsimp only
     refine⟨⟨⟨hR.1.snoc he2,hR.2.snoc2 (by omega) hkl (lgS_yes een he2)⟩,by omega,by simp;omega,hc2,fun j hj=>?_⟩,by omega⟩
     obtain rfl:j=0:=by simpa using hj
     exact hel2 0 (by omega)
    ·refine⟨(s,y,k2,es,none),[],?_,⟨rfl,rfl⟩,kp_,kp_⟩
     dsimp only
     exact⟨⟨⟨hR.1,hR.2.snoc2 (by omega) hkl (lgS_no een (by simpa using he))⟩,by omega,hn2,ho⟩,by omega⟩
   ·exact⟨es,s,⟨hR.1,_,hR.2,(fun h=>absurd (hb1.symm.trans (decide_eq_true h.2)) (by rw[hb];decide))⟩,hn2,.inl ⟨rfl,ho⟩,none,0,0,rfl,(by rw[ho];decide)⟩
  ·refine⟨fun h=>Bool.noConfusion h,fun _=>?_⟩
   exact⟨es,s,⟨hR.1,_,hR.2,(fun h=>by have h1:=h.1;have hc2:=of_decide_eq_false hc;rw[show es=[] from ho] at h1;dsimp only at h1;omega)⟩,hn2,.inl ⟨rfl,ho⟩,none,0,0,rfl,(by rw[ho];decide)⟩
 ·refine⟨⟨by decide,rfl,rfl⟩,?_⟩
  refine⟨fun hc=>?_,fun hc=>?_⟩
  ·refine⟨14,0,cap0,d.l0,_,[],rfl,⟨rfl,rfl⟩,⟨by omega,by omega,by omega⟩,rfl,?_⟩
   rintro _ k1 ⟨b1,rfl,rfl,hb1⟩
   refine⟨fun hb=>?_,fun hb=>?_⟩
   ·have hkl:k1<d.l0.length:=of_decide_eq_true (hb1.trans hb)
    have hlen:(es.length:Int)<n:=of_decide_eq_true hc
    clear hb1
    have hI:=(hR.1.rinv hV (.new hV)).inv
    have hcp:=(hR.1.rinv hV (.new hV)).cap
    refine⟨14,0,cap0,d.l0,_,CNu,x,d.c,⟨18,19,500000⟩,y,s,[],rfl,⟨rfl,rfl⟩,kp_,kp_,⟨by omega,by omega,by omega⟩,⟨⟨hV,hI,by omega⟩,rfl⟩,?_⟩
    rintro _ k2 ⟨en,rfl,een,hk2a,hk2b,hk2c⟩
    refine⟨CNu,x,d.c,⟨18,19,500000⟩,y,s,en,rfl,⟨kp_,.list rfl,.list rfl⟩,⟨hV,hI⟩,?_⟩
    intro y2
    rw[applyRP hV hI hcp]
    refine⟨fun he=>?_,fun he=>?_⟩
    ·have he2:applyP d.c s en=((applyP d.c s en).1,0):=by
      have q:(applyP d.c s en).2=0:=by simpa using he
      rw[← q]
     refine⟨⟨Nat.le_refl _,fun j hj=>by match j,hj with | 0,_=>rfl⟩,?_⟩
     refine⟨⟨rfl,ho.1⟩,fun hin el2 g1 g2=>?_,fun hgt=>⟨by show (es.length+1) * 72≤140737488355328;omega,fun cap2 el2 hc2 g1 g2=>?_⟩⟩
     ·rw[show es.length+1=(es++[en]).length by simp]
      refine⟨((applyP d.c s en).1,y2,k2,es++[en],some (cap,el2)),[(18,23),(19,22)],?_,⟨rfl,rfl⟩,kp_,kp_⟩
      dsimp only
      refine⟨⟨⟨hR.1.snoc he2,hR.2.snoc2 (by omega) hkl (lgS_yes een he2)⟩,by omega,by simp;omega,by first | exact hc2 | (simp;omega),fun j hj=>?_⟩,by omega⟩
      by_cases hjn:j<es.length
      ·rw[g1 j hjn,ho.2 j hjn,List.getD_eq_getElem?_getD,List.getD_eq_getElem?_getD,List.getElem?_append_left hjn]
      ·obtain rfl:j=es.length:=by simp at hj;omega
       have:=g2 0 (by omega)
       rw[Nat.add_zero] at this
       rw[this,List.getD_eq_getElem?_getD,List.getElem?_append_right (Nat.le_refl _),Nat.sub_self]
       rfl
     ·rw[show es.length+1=(es++[en]).length by simp] at hc2 ⊢
      refine⟨((applyP d.c s en).1,y2,k2,es++[en],some (cap2,el2)),[(18,23),(19,22),(20,26)],?_,⟨rfl,rfl⟩,kp_,kp_⟩
      dsimp only
      refine⟨⟨⟨hR.1.snoc he2,hR.2.snoc2 (by omega) hkl (lgS_yes een he2)⟩,by omega,by simp;omega,by first | exact hc2 | (simp;omega),fun j hj=>?_⟩,by omega⟩
      by_cases hjn:j<es.length
      ·rw[g1 j hjn,ho.2 j hjn,List.getD_eq_getElem?_getD,List.getD_eq_getElem?_getD,List.getElem?_append_left hjn]
      ·obtain rfl:j=es.length:=by simp at hj;omega
       have:=g2 0 (by omega)
       rw[Nat.add_zero] at this
       rw[this,List.getD_eq_getElem?_getD,List.getElem?_append_right (Nat.le_refl _),Nat.sub_self]
       rfl
    ·refine⟨(s,y,k2,es,some (cap,el)),[],?_,⟨rfl,rfl⟩,kp_,kp_⟩
     dsimp only
     exact⟨⟨⟨hR.1,hR.2.snoc2 (by omega) hkl (lgS_no een (by simpa using he))⟩,by omega,hn2,ho⟩,by omega⟩
   ·exact⟨es,s,⟨hR.1,_,hR.2,(fun h=>absurd (hb1.symm.trans (decide_eq_true h.2)) (by rw[hb];decide))⟩,hn2,.inr ⟨20,_,_,cap,el,rfl,rfl,rfl,ho.1,ho.2⟩,_,_,cap,rfl,ho.1⟩
  ·refine⟨fun h=>Bool.noConfusion h,fun _=>?_⟩
   exact⟨es,s,⟨hR.1,_,hR.2,(fun h=>by have h1:=h.1;have hc2:=of_decide_eq_false hc;dsimp only at h1;omega)⟩,hn2,.inr ⟨20,_,_,cap,el,rfl,rfl,rfl,ho.1,ho.2⟩,_,_,cap,rfl,ho.1⟩
theorem mkLogX_calls (x:CfgA) (c:Cfg) (A0:Option Addr) (cap0:Nat) (l:List Int) (n:Int) (w:World) (hV:CfgV c) (hz:l.length≤400) (hn:0≤n∧n≤1000) (hc:CfgOk w (·<w.heap.size) x c) (hr:Rd w (·<w.heap.size) A0 (flat intC l)) :
  Calls Try.prog 59 #[.slice A0 l.length cap0,.agg (cfgC x c),.int .i64 n] w fun e w'=>∃ es s A cap,e=.returned (.slice A (es:List Ent).length cap)∧(Run c (stNew c) es s∧∃ k,LgT l c n (0,stNew c,[]) (k,s,es)∧¬ lgC l n (k,s,es))∧(es.length:Int)≤n∧es.length≤cap∧Rd w' (fun b=>w.heap.size≤b∧b<w'.heap.size) A (flat entC es)∧Below w.heap.size w w':=by
 have:=uni_calls ttOk (lgXFok.i _) Try.func59 rfl (D:=lgXD) (by kernel_rfl) (vs:=[slc 0 l.length cap0,cfgV CNu (ck x) c,.int .i64 n]) rfl { a0:=A0,x:=x } { l0:=l,c:=c } w { r0:=hr,c:=hc } (fun v hv=>by
  simp only[List.mem_cons,List.not_mem_nil,or_false] at hv
  rcases hv with rfl | rfl | rfl
  ·exact⟨show (0:Nat)<13 by decide,rfl⟩
  ·exact upl_cfg_ok { a0:=A0,x:=x } { l0:=l,c:=c }
  ·trivial) (logX_sx { l0:=l,c:=c } (ck x) cap0 n hV hz hn)
 rw[List.map_cons,List.map_cons] at this
 have e0:=upl_cfg { a0:=A0,x:=x } { l0:=l,c:=c }
 dsimp only at e0 this
 rw[e0] at this
 refine this.mono ?_
 rintro e w' ⟨v,mem',nx',ρ',rfl,⟨es,s,hR,hen,hS,A1,m1,cap1,rfl,hcap⟩,hv,hm',hb⟩
 obtain⟨A,cp,e1,hr'⟩:=hm'.slR (enc:=entC) (sz:=9) (fun _=>rfl) (by omega) hS
 have e2:den ρ' (.slice A1 m1 cap1)=.slice A es.length cp:=e1
 have e3:cap1=cp:=by cases A1<;>simp[den1] at e1<;>exact e1.2.2
 exact⟨es,s,A,cp,by rw[e2],hR,hen,e3 ▸ hcap,hr',hb⟩
def ctLogX:CT:=fun vs mem nx K=>∃ N x c r cap l n,vs=[slc r (l:List Int).length cap,cfgV N x c,.int .i64 n]∧(keeps mem (cfgM N c)∧HasRow mem r 1 intC 0 l)∧(CfgV c∧l.length≤400∧0≤n∧n≤1000)∧∀ es s cap',(Run c (stNew c) es s∧∃ k,LgT l c n (0,stNew c,[]) (k,s,es)∧¬ lgC l n (k,s,es))→(es.length:Int)≤n→es.length≤cap'→K (slc nx es.length cap') ((nx,rowOfL 500000 9 entC default es)::mem) (nx+1)
theorem logXOk:CSound Try.prog 59 ctLogX:=⟨by kernel_rfl,fun {C ρ fr mem nx a w vs K} hc hs hv=>by
 obtain⟨N,x,c,r,cap,l,n,rfl,⟨hk,hr⟩,⟨hV,hl,hn⟩,hK⟩:=hc
 have e0:([slc r l.length cap,cfgV N x c,.int .i64 n].map (den ρ)).toArray=#[.slice (ρ r).A l.length cap,.agg (cfgC (cfgX ρ N x) c),.int .i64 n]:=by
  rw[List.map_cons,List.map_cons,den_cfg]
  rfl
 rw[e0]
 refine (mkLogX_calls (cfgX ρ N x) c (ρ r).A cap l n w hV hl hn (hs.cfg hk (fun b h _=>h)) (hs.hasRd (enc:=intC) (sz:=1) (fun _=>rfl) (by omega) hr)).mono ?_
 rintro e w' ⟨es,s,A,cp,rfl,hR,hen,hcp,hrd,hb⟩
 obtain⟨q1,-⟩:=(hs.later hb).addList hs.frB hs.rest.size (enc:=entC) (sz:=9) (fun _=>rfl) (by omega) entC_plain default (t:=500000) rfl hrd
 have q2:setPl ρ nx ⟨A,9,es.length,false,noSub⟩ nx=⟨A,9,es.length,false,noSub⟩:=setPl_same _ _ _
 refine⟨slc nx es.length cp,_,_,_,?_,hK es s cp hR hen hcp,q1,?_,fun i hi=>setPl_lt _ _ hi,by omega⟩
 ·show Ending.returned (.slice A es.length cp)=.returned (.slice (setPl ρ nx ⟨A,9,es.length,false,noSub⟩ nx).A es.length cp)
  rw[q2]
 ·exact⟨show nx<nx+1 by omega,by rw[q2]⟩⟩
/-! make.State,exactly. -/
def msXF:FT:=[(59,ctLogX),(58,ctFoldR)]
theorem msXFok:FTok Try.prog msXF:=ft_cons logXOk (ft_cons foldROk ft_nil)
def msXD:List (Nat×DQ):=[(1,{ k:=13,L:=[13],A:=[10],pre:=[(0,false),(1,false),(2,false),(3,false),(4,true),(5,true),(6,false),(7,false),(8,false),(9,false)],post:=[(11,true),(12,false)] })]
set_option maxRecDepth 100000 in
set_option maxHeartbeats 8000000 in
theorem mkStateX_sx (d:UD) (x:CfgK) (cap0:Nat) (n:Int) (hV:CfgV d.c) (hz:d.l0.length≤400) (hn:0≤n∧n≤1000) :
  sx tt msXF msXD (bodyOf Try.f21) (argF 0 [slc 0 d.l0.length cap0,cfgV CNu x d.c,.int .i64 n]) (uniM d) 13 (endx tt Try.f21.results.toList fun v mem' _=>∃ es s y,(Run d.c (stNew d.c) es s∧StX d.l0 d.c n s)∧(es.length:Int)≤n∧v=stV ⟨18,17,500000⟩ y s∧keeps mem' (stM ⟨18,17,500000⟩ s)):=by
 have hnt:=hV.nt
 have hnc:=hV.nc
 refine⟨CNu,x,d.c,0,cap0,d.l0,n,rfl,⟨kp_,?_⟩,⟨hV,hz,hn⟩,?_⟩
 ·exact⟨_,_,_,rfl,Nat.le_refl _,fun k hk=>rfl⟩
 rintro es s cap2 ⟨hR,kx,hL1,hL2⟩ hen hcp
 refine⟨kp_,?_⟩
 refine⟨CNu,x,d.c,16,cap2,es,rfl,⟨kp_,⟨_,_,_,rfl,Nat.le_refl _,fun k hk=>rfl⟩⟩,⟨hV,by omega⟩,?_⟩
 intro y
 rw[hR.foldC]
 refine⟨kp_,?_⟩
 refine⟨kp_,?_⟩
 exact⟨es,s,y,⟨hR,kx,es,hL1,hL2⟩,hen,rfl,kp_⟩
theorem mkStateX_calls (x:CfgA) (c:Cfg) (A0:Option Addr) (cap0:Nat) (l:List Int) (n:Int) (w:World) (hV:CfgV c) (hz:l.length≤400) (hn:0≤n∧n≤1000) (hc:CfgOk w (·<w.heap.size) x c) (hr:Rd w (·<w.heap.size) A0 (flat intC l)) :
  Calls Try.prog 21 #[.slice A0 l.length cap0,.agg (cfgC x c),.int .i64 n] w fun e w'=>∃ es s y,e=.returned (.agg (stC y s))∧(Run c (stNew c) es s∧StX l c n s)∧(es.length:Int)≤n∧StOk w' (fun b=>w.heap.size≤b∧b<w'.heap.size) y s∧Below w.heap.size w w':=by
 have:=uni_calls ttOk (msXFok.i _) Try.func21 rfl (D:=msXD) (by kernel_rfl) (vs:=[slc 0 l.length cap0,cfgV CNu (ck x) c,.int .i64 n]) rfl { a0:=A0,x:=x } { l0:=l,c:=c } w { r0:=hr,c:=hc } (fun v hv=>by
  simp only[List.mem_cons,List.not_mem_nil,or_false] at hv
  rcases hv with rfl | rfl | rfl
  ·exact⟨show (0:Nat)<13 by decide,rfl⟩
  ·exact upl_cfg_ok { a0:=A0,x:=x } { l0:=l,c:=c }
  ·trivial) (mkStateX_sx { l0:=l,c:=c } (ck x) cap0 n hV hz hn)
 rw[List.map_cons,List.map_cons] at this
 have e0:=upl_cfg { a0:=A0,x:=x } { l0:=l,c:=c }
 dsimp only at e0 this
 rw[e0] at this
 refine this.mono ?_
 rintro e w' ⟨v,mem',nx',ρ',rfl,⟨es,s,y,hR,hen,rfl,k1,k2,-⟩,hv,hm',hb⟩
 refine⟨es,s,⟨(ρ' 18).A,y.ct,(ρ' 17).A,y.cc⟩,?_,hR,hen,⟨?_,?_⟩,hb⟩
 ·rw[den_st]
  rfl
 ·exact (hm'.blk 18 _ k1).fresh (enc:=tsC) default rfl rfl (fun k hk=>rfl) (fun _=>rfl) (by omega)
 ·exact (hm'.blk 17 _ k2).fresh (enc:=csC) default rfl rfl (fun k hk=>rfl) (fun _=>rfl) (by omega)
def ctStateX:CT:=fun vs mem nx K=>∃ N x c v l n,vs=[v,cfgV N x c,.int .i64 n]∧(HasCfg mem N c∧SrcR mem 1 intC 0 (l:List Int) v)∧(CfgV c∧l.length≤400∧0≤n∧n≤1000)∧∀ es s y,(Run c (stNew c) es s∧StX l c n s)→(es.length:Int)≤n→K (stV ⟨nx+1,nx,500000⟩ y s) (stM ⟨nx+1,nx,500000⟩ s++mem) (nx+2)
theorem stateXOk:CSound Try.prog 21 ctStateX:=⟨by kernel_rfl,fun {C ρ fr mem nx a w vs K} hc hs hv=>by
 obtain⟨N,x,c,v,l,n,rfl,⟨hk,hr⟩,⟨hV,hl,hn⟩,hK⟩:=hc
 obtain⟨A,cap,e0,hr⟩:=hs.srcR (enc:=intC) (sz:=1) (fun _=>rfl) (by omega) hr
 have e0:([v,cfgV N x c,.int .i64 n].map (den ρ)).toArray=#[.slice A l.length cap,.agg (cfgC (cfgX ρ N x) c),.int .i64 n]:=by
  rw[List.map_cons,List.map_cons,den_cfg,e0]
  rfl
 rw[e0]
 refine (mkStateX_calls (cfgX ρ N x) c A cap l n w hV hl hn (hs.cfgH hk) hr).mono ?_
 rintro e w' ⟨es,s,y,rfl,hR,hen,hst,hb⟩
 obtain⟨q1,q2,q3,q4⟩:=hs.addSt hb hst
 exact⟨_,_,_,_,by rw[q2],hK es s ⟨y.ct,y.cc⟩ hR hen,q1,q3,q4⟩⟩
/-! law16.copies: the epochs of the atlases of one log never fall. -/
structure CopyU (c:Cfg) (key:Int) (xs:List Atl):Prop where
 cp:CopyP c key xs
 up:∀ k,k+1<xs.length→∀ t,t<c.tenants.length→((xs.getD k aZ).routes.getD t (0,0)).2≤((xs.getD (k+1) aZ).routes.getD t (0,0)).2
def UpL (zs:List Int) (c:Cfg) (key i:Int) (xs:List Atl):Prop:=∃ s par,xs.getD (xs.length-1) aZ=makeA s par key∧RInv c s∧∀ m t,3 * i≤m→StX zs c m t→UpS s t
theorem StX.up0 {zs:List Int} {c:Cfg} {n:Int} {t:St} (hV:CfgV c) (h:StX zs c n t):UpS (stNew c) t:=by
 obtain⟨k,es,h1,-⟩:=h
 obtain⟨es2,h2⟩:=h1.run
 exact h2.up hV (.new hV)
theorem UpL.one {zs:List Int} {c:Cfg} {key:Int} (hV:CfgV c) (par i:Int):UpL zs c key i [makeA (stNew c) par key]:=⟨_,_,rfl,.new hV,fun m t _ h=>h.up0 hV⟩
theorem UpL.snoc {zs:List Int} {c:Cfg} {key i:Int} {xs:List Atl} (hL:UpL zs c key i xs) (hV:CfgV c) {s:St} (hJ:RInv c s) (hX:StX zs c (3 * i) s) (par:Int):UpL zs c key (i+1) (xs++[makeA s par key]):=by
 refine⟨s,par,by rw[show (xs++[makeA s par key]).length-1=xs.length by simp,getD_endA],hJ,fun m t hm ht=>?_⟩
 obtain⟨es2,h2⟩:=hX.run (by omega) ht
 exact h2.up hV hJ
theorem UpL.wait {zs:List Int} {c:Cfg} {key i:Int} {xs:List Atl} (hL:UpL zs c key i xs):UpL zs c key (i+1) xs:=by
 obtain⟨s,par,h1,h2,h3⟩:=hL
 exact⟨s,par,h1,h2,fun m t hm ht=>h3 m t (by omega) ht⟩
theorem CopyU.one {c:Cfg} {key:Int} {s:St} (h:RInv c s) (h0:s.count=0) (par:Int):CopyU c key [makeA s par key]:=⟨.one h h0 par,fun k hk=>absurd hk (by simp)⟩
theorem CopyU.snoc {zs:List Int} {c:Cfg} {key i:Int} {xs:List Atl} (hP:CopyU c key xs) (hV:CfgV c) (hl:xs.length≤12) (hL:UpL zs c key i xs) {s:St} (h:RInv c s) (hX:StX zs c (3 * i) s) (par:Int) (hn:(makeA s par key).number>(xs.getD (xs.length-1) aZ).number):CopyU c key (xs++[makeA s par key]):=by
 have h1:=hP.cp.ne
 refine⟨hP.cp.snoc hl h par hn,fun k hk t ht=>?_⟩
 simp at hk
 by_cases q:k+1<xs.length
 ·rw[getD_appA q,getD_appA (by omega)];exact hP.up k q t ht
 ·obtain rfl:k=xs.length-1:=by omega
  rw[show xs.length-1+1=xs.length by omega,getD_endA,getD_appA (by omega)]
  obtain⟨s0,p0,e,hJ0,hU⟩:=hL
  rw[e]
  exact (hU _ _ (Int.le_refl _) hX).ep t (by rw[hJ0.inv.lt];exact ht)
theorem CopyU.mono {c:Cfg} {key:Int} {xs:List Atl} (hP:CopyU c key xs) {j t:Nat} (ht:t<c.tenants.length):∀ m,m<xs.length→j≤m→((xs.getD j aZ).routes.getD t (0,0)).2≤((xs.getD m aZ).routes.getD t (0,0)).2
 | 0,_,h=>by
  obtain rfl:j=0:=by omega
  exact Int.le_refl _
 | m+1,hm,h=>by
  by_cases q:j=m+1
  ·subst q;exact Int.le_refl _
  ·exact Int.le_trans (hP.mono ht m (by omega) (by omega)) (hP.up m hm t ht)
def cuF:FT:=[(21,ctStateX),(24,ctMakeGR)]
def cuD:List (Nat×DQ):=[(1,{ k:=5,L:=[0,1,2,3,4,5,6,7,8,9,10,11,12,13,14,15,16,17,18,19,20,21,22,23,24,25,26,27,28,29,30,31,32,33,34,35,36,37,38,39,40,41,42,43,44,45,46,47,48,49,50,51,52,53,54,55,56,57,58,59,60],pre:=[(0,false),(1,false),(3,false),(4,false),(2,true)] }),(5,{ k:=15,L:=[0,1,2,3,4,5,6,7,8,9,10,11,12,13,14,15,16,17,18,19,20,21,22,23,24,25,26,27,28,29,30,31,32,33,34,35,36,37,38,39,40,41,42,43,44,45,46,47,48,49,50,51,52,53,54,55,56,57,58,59,60],A:=[14],pre:=[(0,false),(1,false),(2,false),(3,false),(4,false),(6,false),(7,false),(8,false),(9,false),(10,false),(11,false),(12,false),(5,true),(13,true)],post:=[] }),(6,{ k:=9,L:=[0,1,2,3,4,5,6,7,8,9,10,11,12,13,14,15,16,17,18,19,20,21,22,23,24,25,26,27,28,29,30,31,32,33,34,35,36,37,38,39,40,41,42,43,44,45,46,47,48,49,50,51,52,53,54,55,56,57,58,59,60],pre:=[(0,false),(1,false),(2,false),(3,false),(4,false),(5,false),(6,false),(7,false),(8,false)] }),(3000003,{ k:=21,L:=[0,1,2,3,4,5,6,7,8,9,10,11,12,13],sl:=[1,2,3] })]
theorem cuFok:FTokI Try.prog cuF (inlOf cuD):=fti_cons (stateXOk.i _) (fti_cons (makeGROk.i _) fti_nil)
set_option maxRecDepth 100000 in
set_option maxHeartbeats 4000000 in
theorem copiesU_sx (d:UD) (x:CfgK) (cap0:Nat) (key:Int) (hV:CfgV d.c) (hz:d.l0.length≤400) :
  sx ttL cuF cuD (bodyOf Try.f36) (argF 0 [cfgV CNu x d.c,slc 0 d.l0.length cap0,.int .i64 key]) (uniM d) 13 (endx ttL Try.f36.results.toList fun v mem' _=>∃ xs cps cap cp r u,v=.slice (some ⟨r,0,none⟩) xs.length cap∧lk mem' r=some (deepA (1000000+46) cp xs cps u)∧lk mem' u=some (famB 500000 xs)∧CopyU d.c key xs):=by
 have hnt:=hV.nt
 have hnc:=hV.nc
 refine⟨CNu,x,d.c,zs0,[],0,rfl,⟨HasCfg.keeps kp_,.inl ⟨rfl,rfl⟩⟩,⟨hV,by simp,by decide⟩,?_⟩
 rintro es s y ⟨hR,hX⟩ hen
 have hJ:=hR.rinv hV (.new hV)
 refine⟨kp_,?_⟩
 refine⟨CNu,x,d.c,⟨15,14,500000⟩,y,s,0,0,zs0,0,0,key,rfl,⟨HasCfg.keeps kp_,.list rfl,.list rfl⟩,⟨_,_,_,rfl⟩,atlIn_st hV hJ.inv _,fun cp1=>?_⟩
 refine⟨atlEl [makeA s 0 key] [cp1],famA [makeA s 0 key],⟨fun k hk=>?_,fun k hk o=>famA_out hk o⟩,?_⟩
 ·match k,hk with
  | 0,_=>exact⟨rfl,fun o=>famA_list _ o rfl⟩
 have he0:es=[]:=List.eq_nil_of_length_eq_zero (by omega)
 subst he0
 cases hR
 refine⟨List Atl×List Nat×Nat×Nat×Int,fun q=>match q with | (xs,cps,cap,cp,i)=>[(7,.slice (some ⟨20,0,none⟩) xs.length cap),(8,.int .i64 i)],fun q=>match q with | (xs,cps,cap,cp,i)=>[(19,famB 500000 xs),(20,deepA (1000000+46) cp xs cps 19)],fun q=>match q with | (xs,cps,cap,cp,i)=>CopyU d.c key xs∧cps.length=xs.length∧cap=cp∧(1≤i∧i≤13)∧(xs.length:Int)≤i∧UpL d.l0 d.c key i xs,fun q=>match q with | (xs,cps,cap,cp,i)=>(13-i).toNat,⟨([makeA (stNew d.c) 0 key],[cp1],1,1,1),[(19,17),(20,18)],⟨.one hJ rfl 0,rfl,rfl,by omega,by simp,.one hV 0 1⟩,⟨rfl,rfl⟩,kp_,kp_⟩,?_⟩
 clear hen hJ y cp1
 rintro⟨xs,cps,cap,cp,i⟩ ⟨hP,hcl,rfl,hi,hxl,hL⟩
 have hne:=hP.cp.ne
 refine⟨⟨by decide,rfl,rfl⟩,?_⟩
 refine⟨fun hc=>?_,fun hc=>?_⟩
 ·have hc2:i≤12:=of_decide_eq_true hc
  have w1:=wrapi (n:=(xs.length:Int)-1) (by omega)
  have w2:=wrapi (n:=3 * i) (by omega)
  refine⟨⟨Nat.le_refl _,by rw[w1];omega,by rw[w1];omega⟩,?_⟩
  rw[w1,w2]
  refine⟨CNu,x,d.c,_,d.l0,_,rfl,⟨HasCfg.keeps kp_,.inr (.inl ⟨0,_,rfl,⟨_,_,_,rfl,Nat.le_refl _,fun k hk=>rfl⟩⟩)⟩,⟨hV,hz,by omega⟩,?_⟩
  rintro es s y ⟨hR,hX⟩ hen
  have hJ:=hR.rinv hV (.new hV)
  refine⟨kp_,?_⟩
  refine⟨CNu,x,d.c,⟨23,22,500000⟩,y,s,_,_,_,_,_,key,rfl,⟨HasCfg.keeps kp_,.list rfl,.list rfl⟩,⟨_,_,_,rfl⟩,atlIn_st hV hJ.inv _,fun cp1=>?_⟩
  refine⟨kp_,?_⟩
  refine⟨⟨Nat.le_refl _,by rw[w1];omega,by rw[w1];omega⟩,?_⟩
  rw[w1]
  refine⟨fun hg=>?_,fun hg=>?_⟩
  ·refine⟨atlEl [(makeA s (xs.getD ((xs.length:Int)-1).toNat aZ).sum key)] [cp1],famA [(makeA s (xs.getD ((xs.length:Int)-1).toNat aZ).sum key)],⟨fun k hk=>?_,fun k hk o=>famA_out hk o⟩,?_⟩
   ·match k,hk with
    | 0,_=>exact⟨rfl,fun o=>famA_list _ o rfl⟩
   refine⟨⟨Nat.le_refl _,fun k hk=>(match k,hk with | 0,_=>rfl)⟩,?_⟩
   refine⟨⟨⟨rfl,rfl⟩,by decide,by show (xs.length+1) * 56≤140737488355328;omega⟩,fun cap2 hcp2=>⟨atlEl (xs++[(makeA s (xs.getD ((xs.length:Int)-1).toNat aZ).sum key)]) (cps++[cp1]),famA (xs++[(makeA s (xs.getD ((xs.length:Int)-1).toNat aZ).sum key)]),app_at hcl,?_⟩⟩
   have hlx:xs.length+1=(xs++[(makeA s (xs.getD ((xs.length:Int)-1).toNat aZ).sum key)]).length:=by simp
   rw[hlx]
   have w3:=wrapi (n:=i+1) (by omega)
   refine⟨(xs++[(makeA s (xs.getD ((xs.length:Int)-1).toNat aZ).sum key)],cps++[cp1],cap2,cap2,IntKind.i64.wrap (i+1)),[(19,27),(20,28)],?_,⟨rfl,rfl⟩,kp_,kp_⟩
   dsimp only
   rw[w3]
   refine⟨⟨hP.snoc hV (by omega) hL hJ hX _ ?_,by simp[hcl],rfl,by omega,by simp;omega,hL.snoc hV hJ hX _⟩,by omega⟩
   have hg2:=of_decide_eq_true hg
   rw[show ((xs.length:Int)-1).toNat=xs.length-1 by omega] at hg2 ⊢
   exact hg2
  ·have w3:=wrapi (n:=i+1) (by omega)
   refine⟨(xs,cps,cap,cap,IntKind.i64.wrap (i+1)),[],?_,⟨rfl,rfl⟩,kp_,kp_⟩
   dsimp only
   rw[w3]
   exact⟨⟨hP,hcl,rfl,by omega,by omega,hL.wait⟩,by omega⟩
 ·exact⟨xs,cps,cap,cap,20,19,rfl,rfl,rfl,hP⟩
theorem copiesU_calls (x:CfgA) (c:Cfg) (A0:Option Addr) (cap0:Nat) (l:List Int) (key:Int) (w:World) (hV:CfgV c) (hz:l.length≤400) (hc:CfgOk w (·<w.heap.size) x c) (hr:Rd w (·<w.heap.size) A0 (flat intC l)) :
  Calls Try.prog 36 #[.agg (cfgC x c),.slice A0 l.length cap0,.int .i64 key] w fun e w'=>∃ xs cps cap cp r u mem' nx' C' ρ',e=.returned (.slice ((ρ':Nat→Pl) r).A (xs:List Atl).length cap)∧MemAt C' ρ' mem' nx' w'∧(C':Ctx).w0=w∧lk mem' r=some (deepA (1000000+46) cp xs cps u)∧lk mem' u=some (famB 500000 xs)∧CopyU c key xs∧Below w.heap.size w w':=by
 have:=uni_calls ttLok cuFok Try.func36 rfl (D:=cuD) (by kernel_rfl) (vs:=[cfgV CNu (ck x) c,slc 0 l.length cap0,.int .i64 key]) rfl { a0:=A0,x:=x } { l0:=l,c:=c } w { r0:=hr,c:=hc } (fun v hv=>by
  simp only[List.mem_cons,List.not_mem_nil,or_false] at hv
  rcases hv with rfl | rfl | rfl
  ·exact upl_cfg_ok { a0:=A0,x:=x } { l0:=l,c:=c }
  ·exact⟨show (0:Nat)<13 by decide,rfl⟩
  ·trivial) (copiesU_sx { l0:=l,c:=c } (ck x) cap0 key hV hz)
 rw[List.map_cons] at this
 have e0:=upl_cfg { a0:=A0,x:=x } { l0:=l,c:=c }
 dsimp only at e0 this
 rw[e0] at this
 refine this.mono ?_
 rintro e w' ⟨v,mem',nx',ρ',rfl,⟨xs,cps,cap,cp,r,u,rfl,h1,h2,hP⟩,hv,hm',hb⟩
 exact⟨xs,cps,cap,cp,r,u,mem',nx',_,ρ',rfl,hm',rfl,h1,h2,hP,hb⟩
def ctCopiesU:CT:=fun vs mem nx K=>∃ N x c v l key,vs=[cfgV N x c,v,.int .i64 key]∧(HasCfg mem N c∧SrcR mem 1 intC 0 (l:List Int) v)∧(CfgV c∧l.length≤400)∧∀ xs cps cap,CopyU c key xs→K (.slice (some ⟨nx+1,0,none⟩) xs.length cap) ((nx+1,deepA 500000 0 xs cps nx)::(nx,famB 500000 xs)::mem) (nx+1+1)
theorem copiesUOk:CSound Try.prog 36 ctCopiesU:=⟨by kernel_rfl,fun {C ρ fr mem nx a w vs K} hc hs hv=>by
 obtain⟨N,x,c,v,l,key,rfl,⟨hk,hr⟩,⟨hV,hl⟩,hK⟩:=hc
 obtain⟨A,cap0,e0,hr⟩:=hs.srcR (enc:=intC) (sz:=1) (fun _=>rfl) (by omega) hr
 have e1:([cfgV N x c,v,.int .i64 key].map (den ρ)).toArray=#[.agg (cfgC (cfgX ρ N x) c),.slice A l.length cap0,.int .i64 key]:=by
  rw[List.map_cons,List.map_cons,den_cfg,e0]
  rfl
 rw[e1]
 refine (copiesU_calls (cfgX ρ N x) c A cap0 l key w hV hl (hs.cfgH hk) hr).mono ?_
 rintro e w' ⟨xs,cps,cap,cp,r,u,mem',nx',C',ρ',rfl,hm,hw,h1,h2,hP,hb⟩
 have q:=hs.takeDeep hb hm hw h1 (.inl rfl) h2 rfl
 have q1:setPl (setPl ρ nx (plF ρ' u)) (nx+1) (plD ρ' r 5 xs.length) (nx+1)=plD ρ' r 5 xs.length:=setPl_same _ _ _
 refine⟨.slice (some ⟨nx+1,0,none⟩) xs.length cap,_,_,_,?_,hK xs cps cap hP,q,?_,fun i hi=>?_,by omega⟩
 ·show Ending.returned (.slice (ρ' r).A xs.length cap)=.returned (.slice (setPl (setPl ρ nx (plF ρ' u)) (nx+1) (plD ρ' r 5 xs.length) (nx+1)).A xs.length cap)
  rw[q1]
 ·exact⟨show nx+1<nx+1+1 by omega,by rw[q1]⟩
 ·rw[setPl_lt _ _ (by omega),setPl_lt _ _ hi]⟩
end Go.Proofs.Ytdjkeplekchfdaa
