import Derived.Test.YtchhdflealgkaaaGreatPo14
namespace Go.Proofs.YtchhdflealgkaaaGreat
open Go.RowKit
set_option linter.unusedSimpArgs false
set_option linter.unusedVariables false
/-! make.Config,walked -/
def cwF:FT:=[(37,ctTapeNew),(39,ctNext),(40,ctRange),(41,ctYes),(38,ctBetw)]
theorem cwFok:FTok Tryz.prog cwF:=ft_cons tapeNewOk (ft_cons nextOk (ft_cons rangeOk (ft_cons yesOk (ft_cons betwOk ft_nil))))
def cwD:List (Nat×DQ):=[(6,{ k:=8,L:=[3],pre:=[(0,false),(1,false),(2,false),(3,false),(4,false),(5,false),(6,false),(7,true)] }),
 (10,{ k:=12,L:=[3],pre:=[(0,false),(1,false),(2,false),(3,false),(4,false),(5,false),(6,false),(7,false),(8,true),(9,false),(10,false),(11,true)] }),
 (15,{ k:=20,L:=[3],A:=[19],pre:=[(0,false),(1,false),(2,false),(3,false),(5,false),(7,false),(9,false),(10,false),(11,false),(12,false),(13,false),(14,false),(16,false),(4,true),(6,true),(8,true),(15,true),(17,true),(18,false)],post:=[] }),
 (24,{ k:=9,L:=[3],pre:=[(0,false),(1,false),(2,false),(3,false),(4,false),(5,true),(6,false),(7,false),(8,true)] }),
 (28,{ k:=8,L:=[3],pre:=[(0,false),(1,false),(2,false),(3,false),(4,false),(5,false),(6,true),(7,true)] }),
 (32,{ k:=8,L:=[3],pre:=[(0,false),(1,false),(2,false),(3,false),(4,false),(5,false),(6,true),(7,true)] }),
 (1000007,{ k:=5,L:=[0,1],sl:=[2,3,4] }),(1000011,{ k:=6,L:=[0,1,4],sl:=[2,3,4] }),
 (3000004,{ k:=5,L:=[0,1],sl:=[2,3,4] }),(1000006,{ k:=5,L:=[0,1,3,4],sl:=[2,3,4,5] }),(3000008,{ k:=6,L:=[0,1,4],sl:=[2,3,4] }),(1000010,{ k:=6,L:=[0,1,3,4,5],sl:=[2,3,4,6] }),
 (3000012,{ k:=7,L:=[0,1,4,5],sl:=[2,3,4] }),(1000018,{ k:=8,L:=[0,1,3,4,5,6],sl:=[2,3,4,7,9] }),(3000021,{ k:=9,L:=[0,1,4,5,6],sl:=[2,3,4] }),(3000026,{ k:=10,L:=[0,1,4,5,6,8],sl:=[2,3,4] }),(3000030,{ k:=11,L:=[0,1,4,5,6,8,9],sl:=[2,3,4] })]
def IsMade (v:Value) (mem':AM):Prop:=∃ (N:CN) (x:CfgK) (c:Cfg) (T:Value),MadeCfg c∧v=.agg #[.int .i64 c.regions,slc N.z c.zones.length x.cz,slc N.c c.cells.length x.cc,T,slc N.v c.versions.length x.cv,slc N.r c.replicas.length x.cr,slc N.o c.observers.length x.co,.int .i64 c.blast,.int .i64 c.lease,.int .i64 c.bake]∧(NewRow mem' N.z 1 intC 0 c.zones∧NewRow mem' N.c 2 pairC (0,0) c.cells∧NewRow mem' N.v 2 pairC (0,0) c.versions∧NewRow mem' N.r 1 intC 0 c.replicas∧NewRow mem' N.o 1 intC 0 c.observers)∧((T=zs0∧c.tenants=[])∨∃ r cp,T=slc r c.tenants.length cp∧NewRow mem' r 7 tenC default c.tenants)
set_option maxRecDepth 100000 in
set_option maxHeartbeats 8000000 in
theorem config_sx (cap:Nat) (zs:List Int) (hz:zs.length≤400) :
  sx ttU cwF cwD (bodyOf Tryz.f10) (argF 0 [slc 0 zs.length cap]) [(0,intRow zs)] 1 (endx ttU Tryz.f10.results.toList fun v mem' _=>IsMade v mem'):=by
 refine⟨0,cap,zs,rfl,rfl,hz,?_⟩
 refine⟨2,0,cap,zs,_,_,rfl,⟨rfl,rfl⟩,⟨hz,by omega,by omega⟩,⟨_,rfl,by omega,by omega⟩,?_⟩
 rintro _ k0 ⟨_,r0,hnn,rfl,⟨hr0,hk0⟩⟩
 cases hnn
 refine⟨_,1,3,rfl,⟨by decide,by decide,by decide⟩,fun rg hg1 hg2=>?_⟩
 refine⟨2,0,cap,zs,_,_,rfl,⟨rfl,rfl⟩,⟨hz,by omega,by omega⟩,⟨_,_,rfl,by omega,by omega,by omega⟩,?_⟩
 rintro _ k1 ⟨_,_,r1,hnn,rfl,hr1,hk1⟩
 cases hnn
 refine⟨2,0,cap,zs,_,_,rfl,⟨rfl,rfl⟩,⟨hz,by omega,by omega⟩,⟨_,_,rfl,by omega,by omega,by omega⟩,?_⟩
 rintro _ k2 ⟨_,_,r2,hnn,rfl,hr2,hk2⟩
 cases hnn
 refine⟨2,0,cap,zs,_,_,rfl,⟨rfl,rfl⟩,⟨hz,by omega,by omega⟩,⟨_,rfl,by omega,by omega⟩,?_⟩
 rintro _ k3 ⟨_,r3,hnn,rfl,⟨hr3,hk3⟩⟩
 cases hnn
 refine⟨Int×List Int×Nat×(Nat→List Value),fun _=>[],fun q=>match q with | (kk,zl,cp,el)=>[(2,tapeB 0 zs.length cap kk),(3,.box 31 [.int .i64 rg,(slc 4 zl.length cp),zs0,zs0,zs0,zs0,zs0,.int .i64 r1,.int .i64 r2,.int .i64 r3]),(4,.row (1000000+84) 1 cp el)],fun q=>match q with | (kk,zl,cp,el)=>(1≤zl.length∧zl.length≤6)∧(zl.all (fun z=>inR z 0 (rg-1))=true)∧(0≤kk∧kk≤20)∧zl.length≤cp∧∀ j,j<zl.length→el j=intC (zl.getD j 0),?_,?_⟩
 ·refine⟨Int×List Int×Option (Nat×(Nat→List Value)),fun q=>match q with | (kk,zl,o)=>[(5,.int .i64 (zl.length:Int))],fun q=>match q with | (kk,zl,none)=>[(2,tapeB 0 zs.length cap kk),(3,.box 31 [.int .i64 rg,zs0,zs0,zs0,zs0,zs0,zs0,.int .i64 r1,.int .i64 r2,.int .i64 r3])] | (kk,zl,some (cp,el))=>[(2,tapeB 0 zs.length cap kk),(3,.box 31 [.int .i64 rg,(slc 4 zl.length cp),zs0,zs0,zs0,zs0,zs0,.int .i64 r1,.int .i64 r2,.int .i64 r3]),(4,.row (1000000+84) 1 cp el)],fun q=>match q with | (kk,zl,o)=>zl.length≤6∧(zl.all (fun z=>inR z 0 (rg-1))=true)∧(0≤kk∧kk≤10+zl.length)∧match o with | none=>zl=[] | some (cp,el)=>zl.length≤cp∧∀ j,j<zl.length→el j=intC (zl.getD j 0),fun q=>match q with | (kk,zl,o)=>6-zl.length,⟨(k3,[],none),[],⟨by decide,rfl,by simp;omega,rfl⟩,⟨rfl,rfl⟩,kp_,kp_⟩,?_⟩
  rintro⟨kk,zl,(_ | ⟨cp,el⟩)⟩ ⟨hzl,hza,hkk,ho⟩
  ·refine⟨⟨by decide,rfl,rfl⟩,?_⟩
   refine⟨Int,fun _=>[],fun kq=>[(2,tapeB 0 zs.length cap kq)],fun kq=>zl.length<6∧(kk≤kq∧kq≤kk+1),?_,?_⟩
   ·refine⟨fun q1=>?_,fun q1=>?_⟩
    ·have q1b:(zl.length:Int)<rg:=of_decide_eq_true q1
     refine⟨fun _=>?_,fun h=>nomatch h⟩
     refine⟨_,?_,kp_,kp_⟩
     exact⟨by omega,by omega,by omega⟩
    ·have q1b:¬ (zl.length:Int)<rg:=of_decide_eq_false q1
     refine⟨2,0,cap,zs,_,_,rfl,⟨rfl,rfl⟩,⟨hz,by omega,by omega⟩,⟨_,rfl,by omega,by omega⟩,?_⟩
     rintro _ k5 ⟨b5,rfl,hk5⟩
     refine⟨fun q2=>?_,fun q2=>?_⟩
     ·refine⟨fun q3=>?_,fun q3=>?_⟩
      ·have q3b:(zl.length:Int)<6:=of_decide_eq_true q3
       refine⟨_,?_,kp_,kp_⟩
       exact⟨by omega,by omega,by omega⟩
      ·exfalso
       have h0:zl.length=0:=by rw[show zl=[] from ho];rfl
       omega
     ·refine⟨fun h=>Bool.noConfusion h,fun _=>?_⟩
      exfalso
      have h0:zl.length=0:=by rw[show zl=[] from ho];rfl
      omega
   ·rintro kq ⟨hn6,hq1,hq2⟩
    refine⟨⟨by decide,rfl,rfl⟩,?_⟩
    refine⟨⟨rfl,by omega⟩,?_⟩
    refine⟨kp_,?_⟩
    refine⟨⟨Nat.le_refl _,fun j hj=>by match j,hj with | 0,_=>rfl⟩,?_⟩
    refine⟨fun h=>absurd h (by decide),fun _=>⟨by decide,fun capz elz ⟨hcz,_⟩ g2z=>?_⟩⟩
    subst ho
    have hl0:([]:List Int).length=0:=rfl
    refine⟨(_,([(Int.tmod (([]:List Int).length:Int) rg)]),some (capz,elz)),[(4,6)],?_,⟨rfl,rfl⟩,(by refine⟨?_,?_⟩;(show some (Value.int .i64 (IntKind.i64.wrap (((0:Nat):Int)+1)))=some (Value.int .i64 ((([(Int.tmod (([]:List Int).length:Int) rg)]).length:Nat):Int));rw[wrapi (by omega)];simp);repeat (first | exact trivial | refine⟨rfl,?_⟩)),kp_⟩
    dsimp only
    refine⟨⟨by simp<;>omega,?_,⟨by omega,by simp<;>omega⟩,⟨by first | exact hcz | simp,one_el (g2z 0 (by omega))⟩⟩,by simp<;>omega⟩
    exact cwz (by decide) (by omega)
  ·refine⟨⟨by decide,rfl,rfl⟩,?_⟩
   refine⟨Int,fun _=>[],fun kq=>[(2,tapeB 0 zs.length cap kq)],fun kq=>zl.length<6∧(kk≤kq∧kq≤kk+1),?_,?_⟩
   ·refine⟨fun q1=>?_,fun q1=>?_⟩
    ·have q1b:(zl.length:Int)<rg:=of_decide_eq_true q1
     refine⟨fun _=>?_,fun h=>nomatch h⟩
     refine⟨_,?_,kp_,kp_⟩
     exact⟨by omega,by omega,by omega⟩
    ·have q1b:¬ (zl.length:Int)<rg:=of_decide_eq_false q1
     refine⟨2,0,cap,zs,_,_,rfl,⟨rfl,rfl⟩,⟨hz,by omega,by omega⟩,⟨_,rfl,by omega,by omega⟩,?_⟩
     rintro _ k5 ⟨b5,rfl,hk5⟩
     refine⟨fun q2=>?_,fun q2=>?_⟩
     ·refine⟨fun q3=>?_,fun q3=>?_⟩
      ·have q3b:(zl.length:Int)<6:=of_decide_eq_true q3
       refine⟨_,?_,kp_,kp_⟩
       exact⟨by omega,by omega,by omega⟩
      ·refine⟨(_,zl,cp,el),?_,kp_,kp_⟩
       exact⟨⟨by omega,hzl⟩,hza,by omega,ho⟩
     ·refine⟨fun h=>Bool.noConfusion h,fun _=>?_⟩
      refine⟨(_,zl,cp,el),?_,kp_,kp_⟩
      exact⟨⟨by omega,hzl⟩,hza,by omega,ho⟩
   ·rintro kq ⟨hn6,hq1,hq2⟩
    refine⟨⟨by decide,rfl,rfl⟩,?_⟩
    refine⟨⟨rfl,by omega⟩,?_⟩
    refine⟨kp_,?_⟩
    refine⟨⟨Nat.le_refl _,fun j hj=>by match j,hj with | 0,_=>rfl⟩,?_⟩
    refine⟨⟨rfl,ho.1⟩,fun hinz elz ⟨g1z,_⟩ g2z=>?_,fun hgtz=>⟨by show (zl.length+1) * 8≤140737488355328;omega,fun capz elz ⟨hcz,_⟩ g1z g2z=>?_⟩⟩
    ·rw[show zl.length+1=(zl++[(Int.tmod (zl.length:Int) rg)]).length by simp]
     refine⟨(_,(zl++[(Int.tmod (zl.length:Int) rg)]),some (cp,elz)),[],?_,⟨rfl,rfl⟩,(by refine⟨?_,?_⟩;(show some (Value.int .i64 (IntKind.i64.wrap (((zl.length:Nat):Int)+1)))=some (Value.int .i64 (((zl++[(Int.tmod (zl.length:Int) rg)]).length:Nat):Int));rw[wrapi (by omega)];simp);repeat (first | exact trivial | refine⟨rfl,?_⟩)),kp_⟩
     dsimp only
     refine⟨⟨by simp<;>omega,?_,⟨by omega,by simp<;>omega⟩,⟨by simp;omega,snoc_el ho.2 g1z (g2z 0 (by omega))⟩⟩,by simp<;>omega⟩
     rw[List.all_append,hza]
     exact cwz (by omega) (by omega)
    ·rw[show zl.length+1=(zl++[(Int.tmod (zl.length:Int) rg)]).length by simp] at hcz ⊢
     refine⟨(_,(zl++[(Int.tmod (zl.length:Int) rg)]),some (capz,elz)),[(4,6)],?_,⟨rfl,rfl⟩,(by refine⟨?_,?_⟩;(show some (Value.int .i64 (IntKind.i64.wrap (((zl.length:Nat):Int)+1)))=some (Value.int .i64 (((zl++[(Int.tmod (zl.length:Int) rg)]).length:Nat):Int));rw[wrapi (by omega)];simp);repeat (first | exact trivial | refine⟨rfl,?_⟩)),kp_⟩
     dsimp only
     refine⟨⟨by simp<;>omega,?_,⟨by omega,by simp<;>omega⟩,⟨by first | exact hcz | (simp;omega),snoc_el ho.2 g1z (g2z 0 (by omega))⟩⟩,by simp<;>omega⟩
     rw[List.all_append,hza]
     exact cwz (by omega) (by omega)
 ·rintro⟨kz,zl,cpz,elz⟩ ⟨hzl,hza,hkz,hez⟩
  refine⟨⟨by decide,rfl,rfl⟩,?_⟩
  refine⟨Int×List (Int×Int)×Nat×(Nat→List Value),fun _=>[],fun q=>match q with | (kk,cs,cpc,elc)=>[(2,tapeB 0 zs.length cap kk),(3,.box 31 [.int .i64 rg,(slc 4 zl.length cpz),(slc 5 cs.length cpc),zs0,zs0,zs0,zs0,.int .i64 r1,.int .i64 r2,.int .i64 r3]),(5,.row (1000000+86) 2 cpc elc)],fun q=>match q with | (kk,cs,cpc,elc)=>(1≤cs.length∧cs.length≤7)∧(cs.all (fun y=>inR y.1 0 (zl.length-1)&&inR y.2 1 40)=true)∧(0≤kk∧kk≤60)∧cs.length≤cpc∧∀ j,j<cs.length→elc j=pairC (cs.getD j (0,0)),?_,?_⟩
  ·refine⟨Int×List (Int×Int)×Option (Nat×(Nat→List Value)),fun q=>match q with | (kk,cs,o)=>[(6,.int .i64 (cs.length:Int))],fun q=>match q with | (kk,cs,none)=>[(2,tapeB 0 zs.length cap kk),(3,.box 31 [.int .i64 rg,(slc 4 zl.length cpz),zs0,zs0,zs0,zs0,zs0,.int .i64 r1,.int .i64 r2,.int .i64 r3])] | (kk,cs,some (cpc,elc))=>[(2,tapeB 0 zs.length cap kk),(3,.box 31 [.int .i64 rg,(slc 4 zl.length cpz),(slc 5 cs.length cpc),zs0,zs0,zs0,zs0,.int .i64 r1,.int .i64 r2,.int .i64 r3]),(5,.row (1000000+86) 2 cpc elc)],fun q=>match q with | (kk,cs,o)=>cs.length≤7∧(cs.all (fun y=>inR y.1 0 (zl.length-1)&&inR y.2 1 40)=true)∧(0≤kk∧kk≤30+2 * cs.length)∧match o with | none=>cs=[] | some (cpc,elc)=>cs.length≤cpc∧∀ j,j<cs.length→elc j=pairC (cs.getD j (0,0)),fun q=>match q with | (kk,cs,o)=>7-cs.length,⟨(kz,[],none),[],⟨by decide,rfl,by simp;omega,rfl⟩,⟨rfl,rfl⟩,kp_,kp_⟩,?_⟩
   rintro⟨kk,cs,(_ | ⟨cp,elc⟩)⟩ ⟨hcl,hca,hkk,ho⟩
   ·refine⟨⟨by decide,rfl,rfl⟩,?_⟩
    refine⟨Int,fun _=>[],fun kq=>[(2,tapeB 0 zs.length cap kq)],fun kq=>cs.length<7∧(kk≤kq∧kq≤kk+1),?_,?_⟩
    ·refine⟨fun q1=>?_,fun q1=>?_⟩
     ·have q1b:(cs.length:Int)<(zl.length:Int):=of_decide_eq_true q1
      refine⟨fun _=>?_,fun h=>nomatch h⟩
      refine⟨_,?_,kp_,kp_⟩
      exact⟨by omega,by omega,by omega⟩
     ·have q1b:¬ (cs.length:Int)<(zl.length:Int):=of_decide_eq_false q1
      refine⟨2,0,cap,zs,_,_,rfl,⟨rfl,rfl⟩,⟨hz,by omega,by omega⟩,⟨_,rfl,by omega,by omega⟩,?_⟩
      rintro _ k7 ⟨b7,rfl,hk7⟩
      refine⟨fun q2=>?_,fun q2=>?_⟩
      ·refine⟨fun q3=>?_,fun q3=>?_⟩
       ·have q3b:(cs.length:Int)<7:=of_decide_eq_true q3
        refine⟨_,?_,kp_,kp_⟩
        exact⟨by omega,by omega,by omega⟩
       ·exfalso
        have h0:cs.length=0:=by rw[show cs=[] from ho];rfl
        omega
      ·refine⟨fun h=>Bool.noConfusion h,fun _=>?_⟩
       exfalso
       have h0:cs.length=0:=by rw[show cs=[] from ho];rfl
       omega
    ·rintro kq ⟨hn6,hq1,hq2⟩
     refine⟨⟨by decide,rfl,rfl⟩,?_⟩
     refine⟨⟨rfl,by omega⟩,?_⟩
     refine⟨2,0,cap,zs,_,_,rfl,⟨rfl,rfl⟩,⟨hz,by omega,by omega⟩,⟨_,_,rfl,by omega,by omega,by omega⟩,?_⟩
     rintro _ k6 ⟨_,_,r6,hnn,rfl,hr6,hk6⟩
     cases hnn
     refine⟨kp_,?_⟩
     refine⟨kp_,?_⟩
     refine⟨⟨Nat.le_refl _,fun j hj=>by match j,hj with | 0,_=>rfl⟩,?_⟩
     refine⟨fun h=>absurd h (by decide),fun _=>⟨by decide,fun capc elc ⟨hcc,_⟩ g2c=>?_⟩⟩
     subst ho
     have hl0:([]:List (Int×Int)).length=0:=rfl
     refine⟨(_,([(Int.tmod (([]:List (Int×Int)).length:Int) (zl.length:Int),IntKind.i64.wrap (r6 * 10))]),some (capc,elc)),[(5,7)],?_,⟨rfl,rfl⟩,(by refine⟨?_,?_⟩;(show some (Value.int .i64 (IntKind.i64.wrap (((0:Nat):Int)+1)))=some (Value.int .i64 ((([(Int.tmod (([]:List (Int×Int)).length:Int) (zl.length:Int),IntKind.i64.wrap (r6 * 10))]).length:Nat):Int));rw[wrapi (by omega)];simp);repeat (first | exact trivial | refine⟨rfl,?_⟩)),kp_⟩
     dsimp only
     refine⟨⟨by simp<;>omega,?_,⟨by omega,by simp<;>omega⟩,⟨by first | exact hcc | simp,one_el (g2c 0 (by omega))⟩⟩,by simp<;>omega⟩
     exact cwc (by decide) (by omega) hr6
   ·refine⟨⟨by decide,rfl,rfl⟩,?_⟩
    refine⟨Int,fun _=>[],fun kq=>[(2,tapeB 0 zs.length cap kq)],fun kq=>cs.length<7∧(kk≤kq∧kq≤kk+1),?_,?_⟩
    ·refine⟨fun q1=>?_,fun q1=>?_⟩
     ·have q1b:(cs.length:Int)<(zl.length:Int):=of_decide_eq_true q1
      refine⟨fun _=>?_,fun h=>nomatch h⟩
      refine⟨_,?_,kp_,kp_⟩
      exact⟨by omega,by omega,by omega⟩
     ·have q1b:¬ (cs.length:Int)<(zl.length:Int):=of_decide_eq_false q1
      refine⟨2,0,cap,zs,_,_,rfl,⟨rfl,rfl⟩,⟨hz,by omega,by omega⟩,⟨_,rfl,by omega,by omega⟩,?_⟩
      rintro _ k7 ⟨b7,rfl,hk7⟩
      refine⟨fun q2=>?_,fun q2=>?_⟩
      ·refine⟨fun q3=>?_,fun q3=>?_⟩
       ·have q3b:(cs.length:Int)<7:=of_decide_eq_true q3
        refine⟨_,?_,kp_,kp_⟩
        exact⟨by omega,by omega,by omega⟩
       ·refine⟨(_,cs,cp,elc),?_,kp_,kp_⟩
        exact⟨⟨by omega,hcl⟩,hca,by omega,ho⟩
      ·refine⟨fun h=>Bool.noConfusion h,fun _=>?_⟩
       refine⟨(_,cs,cp,elc),?_,kp_,kp_⟩
       exact⟨⟨by omega,hcl⟩,hca,by omega,ho⟩
    ·rintro kq ⟨hn6,hq1,hq2⟩
     refine⟨⟨by decide,rfl,rfl⟩,?_⟩
     refine⟨⟨rfl,by omega⟩,?_⟩
     refine⟨2,0,cap,zs,_,_,rfl,⟨rfl,rfl⟩,⟨hz,by omega,by omega⟩,⟨_,_,rfl,by omega,by omega,by omega⟩,?_⟩
     rintro _ k6 ⟨_,_,r6,hnn,rfl,hr6,hk6⟩
     cases hnn
     refine⟨kp_,?_⟩
     refine⟨kp_,?_⟩
     refine⟨⟨Nat.le_refl _,fun j hj=>by match j,hj with | 0,_=>rfl⟩,?_⟩
     refine⟨⟨rfl,ho.1⟩,fun hinc elc ⟨g1c,_⟩ g2c=>?_,fun hgtc=>⟨by show (cs.length+1) * 16≤140737488355328;omega,fun capc elc ⟨hcc,_⟩ g1c g2c=>?_⟩⟩
     ·rw[show cs.length+1=(cs++[(Int.tmod (cs.length:Int) (zl.length:Int),IntKind.i64.wrap (r6 * 10))]).length by simp]
      refine⟨(_,(cs++[(Int.tmod (cs.length:Int) (zl.length:Int),IntKind.i64.wrap (r6 * 10))]),some (cp,elc)),[],?_,⟨rfl,rfl⟩,(by refine⟨?_,?_⟩;(show some (Value.int .i64 (IntKind.i64.wrap (((cs.length:Nat):Int)+1)))=some (Value.int .i64 (((cs++[(Int.tmod (cs.length:Int) (zl.length:Int),IntKind.i64.wrap (r6 * 10))]).length:Nat):Int));rw[wrapi (by omega)];simp);repeat (first | exact trivial | refine⟨rfl,?_⟩)),kp_⟩
      dsimp only
      refine⟨⟨by simp<;>omega,?_,⟨by omega,by simp<;>omega⟩,⟨by simp;omega,snoc_el ho.2 g1c (g2c 0 (by omega))⟩⟩,by simp<;>omega⟩
      rw[List.all_append,hca]
      exact cwc (by omega) (by omega) hr6
     ·rw[show cs.length+1=(cs++[(Int.tmod (cs.length:Int) (zl.length:Int),IntKind.i64.wrap (r6 * 10))]).length by simp] at hcc ⊢
      refine⟨(_,(cs++[(Int.tmod (cs.length:Int) (zl.length:Int),IntKind.i64.wrap (r6 * 10))]),some (capc,elc)),[(5,7)],?_,⟨rfl,rfl⟩,(by refine⟨?_,?_⟩;(show some (Value.int .i64 (IntKind.i64.wrap (((cs.length:Nat):Int)+1)))=some (Value.int .i64 (((cs++[(Int.tmod (cs.length:Int) (zl.length:Int),IntKind.i64.wrap (r6 * 10))]).length:Nat):Int));rw[wrapi (by omega)];simp);repeat (first | exact trivial | refine⟨rfl,?_⟩)),kp_⟩
      dsimp only
      refine⟨⟨by simp<;>omega,?_,⟨by omega,by simp<;>omega⟩,⟨by first | exact hcc | (simp;omega),snoc_el ho.2 g1c (g2c 0 (by omega))⟩⟩,by simp<;>omega⟩
      rw[List.all_append,hca]
      exact cwc (by omega) (by omega) hr6
  ·rintro⟨kc,cs,cpc,elc⟩ ⟨hcl,hca,hkc,hec⟩
   refine⟨⟨by decide,rfl,rfl⟩,?_⟩
   refine⟨2,0,cap,zs,_,_,rfl,⟨rfl,rfl⟩,⟨hz,by omega,by omega⟩,⟨_,rfl,by omega,by omega⟩,?_⟩
   rintro _ k10 ⟨_,r10,hnn,rfl,⟨hr10,hk10⟩⟩
   cases hnn
   refine⟨Int×Int×List Ten×Option (Nat×(Nat→List Value)),fun p=>match p with | (q,kk,ts,o)=>[(7,.int .i64 q)],fun p=>match p with | (q,kk,ts,none)=>[(2,tapeB 0 zs.length cap kk),(3,.box 31 [.int .i64 rg,(slc 4 zl.length cpz),(slc 5 cs.length cpc),zs0,zs0,zs0,zs0,.int .i64 r1,.int .i64 r2,.int .i64 r3])] | (q,kk,ts,some (cpt,elt))=>[(2,tapeB 0 zs.length cap kk),(3,.box 31 [.int .i64 rg,(slc 4 zl.length cpz),(slc 5 cs.length cpc),(slc 6 ts.length cpt),zs0,zs0,zs0,.int .i64 r1,.int .i64 r2,.int .i64 r3]),(6,.row (1000000+90) 7 cpt elt)],fun p=>match p with | (q,kk,ts,o)=>(0≤q∧q≤5)∧((ts.length:Int)+q≤5)∧(ts.all (tenOk rg)=true)∧(0≤kk∧kk≤70+10 * ts.length)∧match o with | none=>ts=[] | some (cpt,elt)=>ts.length≤cpt∧∀ j,j<ts.length→elt j=tenC (ts.getD j default),fun p=>match p with | (q,kk,ts,o)=>q.toNat,⟨(r10,k10,[],none),[],⟨by omega,by simp;omega,rfl,by simp;omega,rfl⟩,⟨rfl,rfl⟩,kp_,kp_⟩,?_⟩
   rintro⟨q,kk,ts,(_ | ⟨cp,elt⟩)⟩ ⟨hq,htl,hta,hkk,ho⟩
   ·refine⟨⟨by decide,rfl,rfl⟩,?_⟩
    refine⟨fun hqq=>?_,fun hqq=>?_⟩
    ·have hq0:q>0:=of_decide_eq_true hqq
     refine⟨2,0,cap,zs,_,_,rfl,⟨rfl,rfl⟩,⟨hz,by omega,by omega⟩,⟨_,_,rfl,by omega,by omega,by omega⟩,?_⟩
     rintro _ k11 ⟨_,_,r11,hnn,rfl,hr11,hk11⟩
     cases hnn
     refine⟨by rw[IntKind.wrap_u64];omega,?_⟩
     refine⟨2,0,cap,zs,_,_,rfl,⟨rfl,rfl⟩,⟨hz,by omega,by omega⟩,⟨_,rfl,by rw[wrapi (by omega)];omega,by rw[wrapi (by omega)];omega⟩,?_⟩
     rintro _ k12 ⟨_,r12,hnn,rfl,⟨hr12,hk12⟩⟩
     cases hnn
     rw[wrapi (n:=r11+1) (by omega)] at hr12
     refine⟨kp_,?_⟩
     refine⟨2,0,cap,zs,_,_,rfl,⟨rfl,rfl⟩,⟨hz,by omega,by omega⟩,⟨_,rfl,by omega,by omega⟩,?_⟩
     rintro _ k13 ⟨_,r13,hnn,rfl,⟨hr13,hk13⟩⟩
     cases hnn
     refine⟨kp_,?_⟩
     refine⟨2,0,cap,zs,_,_,rfl,⟨rfl,rfl⟩,⟨hz,by omega,by omega⟩,⟨_,_,rfl,by omega,by omega,by omega⟩,?_⟩
     rintro _ k14 ⟨_,_,r14,hnn,rfl,hr14,hk14⟩
     cases hnn
     refine⟨kp_,?_⟩
     refine⟨2,0,cap,zs,_,_,rfl,⟨rfl,rfl⟩,⟨hz,by omega,by omega⟩,⟨_,rfl,by omega,by omega⟩,?_⟩
     rintro _ k15 ⟨_,r15,hnn,rfl,⟨hr15,hk15⟩⟩
     cases hnn
     refine⟨kp_,?_⟩
     refine⟨2,0,cap,zs,_,_,rfl,⟨rfl,rfl⟩,⟨hz,by omega,by omega⟩,⟨_,rfl,by omega,by omega⟩,?_⟩
     rintro _ k16 ⟨b16,rfl,hk16⟩
     refine⟨kp_,?_⟩
     have hal:=allowC_eq ⟨hg1,hg2⟩
     have hsb:=shl1_bd rg
     refine⟨Int×Int,fun _=>[],fun p=>match p with | (al,kq)=>[(2,tapeB 0 zs.length cap kq),(7,.box 90 [.int .i64 r11,.int .i64 r12,.int .i64 r13,.int .i64 r14,.int .i64 al,.int .i64 r15,.bool b16])],fun p=>match p with | (al,kq)=>(1≤al∧al≤shl1 rg-1)∧(kk≤kq∧kq≤kk+10),?_,?_⟩
     ·refine⟨2,0,cap,zs,_,_,rfl,⟨rfl,rfl⟩,⟨hz,by omega,by omega⟩,⟨_,rfl,by omega,by omega⟩,?_⟩
      rintro _ k17 ⟨b17,rfl,hk17⟩
      refine⟨fun hy=>?_,fun hy=>?_⟩
      ·refine⟨by rw[IntKind.wrap_u64];omega,?_⟩
       refine⟨2,0,cap,zs,_,_,rfl,⟨rfl,rfl⟩,⟨hz,by omega,by omega⟩,⟨_,_,rfl,by omega,(by show 1≤allowC rg;omega),(by show allowC rg≤100000;omega)⟩,?_⟩
       rintro _ k18 ⟨_,_,r18,hnn,rfl,hr18,hk18⟩
       cases hnn
       refine⟨(r18,k18),⟨⟨hr18.1,by have:r18≤allowC rg:=hr18.2;omega⟩,by omega,by omega⟩,kp_,kp_⟩
      ·refine⟨(allowC rg,k17),⟨⟨by omega,by omega⟩,by omega,by omega⟩,kp_,kp_⟩
     ·rintro⟨al,kq⟩ ⟨ha2,hq1,hq2⟩
      refine⟨⟨by decide,rfl,rfl⟩,?_⟩
      refine⟨⟨Nat.le_refl _,fun j hj=>by match j,hj with | 0,_=>rfl⟩,?_⟩
      refine⟨fun h=>absurd h (by decide),fun _=>⟨by decide,fun capt elt ⟨hct,_⟩ g2t=>?_⟩⟩
      subst ho
      have hl0:([]:List Ten).length=0:=rfl
      refine⟨(_,kq,([(⟨r11,r12,r13,r14,al,r15,b16⟩:Ten)]),some (capt,elt)),[(6,9)],?_,⟨rfl,rfl⟩,kp_,kp_⟩
      dsimp only
      rw[wrapi (n:=q-1) (by omega)]
      refine⟨⟨⟨by omega,by omega⟩,by simp<;>omega,?_,⟨by omega,by simp<;>omega⟩,⟨by first | exact hct | simp,one_el (g2t 0 (by omega))⟩⟩,by omega⟩
      simp only[List.all_cons,List.all_nil,Bool.and_true]
      exact ten_okC ⟨hg1,hg2⟩ hr11 hr12 hr13 hr14 ha2 hr15
    ·refine⟨2,0,cap,zs,_,_,rfl,⟨rfl,rfl⟩,⟨hz,by omega,by omega⟩,⟨_,rfl,by omega,by omega⟩,?_⟩
     rintro _ k20 ⟨_,r20,hnn,rfl,⟨hr20,hk20⟩⟩
     cases hnn
     refine⟨2,0,cap,zs,_,_,rfl,⟨rfl,rfl⟩,⟨hz,by omega,by omega⟩,⟨_,rfl,by omega,by omega⟩,?_⟩
     rintro _ k21 ⟨_,r21,hnn,rfl,⟨hr21,hk21⟩⟩
     cases hnn
     refine⟨Int×Int×List (Int×Int)×Nat×(Nat→List Value),fun p=>match p with | (q,kk,vl,cpv,elv)=>[(10,.int .i64 q)],fun p=>match p with | (q,kk,vl,cpv,elv)=>[(2,tapeB 0 zs.length cap kk),(3,.box 31 [.int .i64 rg,(slc 4 zl.length cpz),(slc 5 cs.length cpc),zs0,(slc 8 vl.length cpv),zs0,zs0,.int .i64 r1,.int .i64 r2,.int .i64 r3]),(8,.row (1000000+88) 2 cpv elv)],fun p=>match p with | (q,kk,vl,cpv,elv)=>(0≤q∧q≤2)∧(1≤vl.length∧(vl.length:Int)+q≤3)∧versOk vl=true∧(0≤kk∧kk≤140+10 * vl.length)∧vl.length≤cpv∧∀ j,j<vl.length→elv j=pairC (vl.getD j (0,0)),fun p=>match p with | (q,kk,vl,cpv,elv)=>q.toNat,⟨(r21,k21,[(0,r20)],1,_),[(8,7)],⟨by omega,⟨by simp,by simp;omega⟩,versOk_one (by omega) (by omega),⟨by omega,by simp;omega⟩,by simp,one_el rfl⟩,⟨rfl,rfl⟩,kp_,kp_⟩,?_⟩
     have htl5:ts.length≤5:=by omega
     clear hkk hq htl hqq
     rintro⟨q,kk,vl,cpv,elv⟩ ⟨hq,⟨hv1,hv2⟩,hvo,hkk,hov⟩
     refine⟨⟨by decide,rfl,rfl⟩,?_⟩
     refine⟨fun hqq=>?_,fun hqq=>?_⟩
     ·have hq0:q>0:=of_decide_eq_true hqq
      refine⟨2,0,cap,zs,_,_,rfl,⟨rfl,rfl⟩,⟨hz,by omega,by omega⟩,⟨_,rfl,by omega,by omega⟩,?_⟩
      rintro _ k22 ⟨_,r22,hnn,rfl,⟨hr22,hk22⟩⟩
      cases hnn
      refine⟨2,0,cap,zs,_,_,rfl,⟨rfl,rfl⟩,⟨hz,by omega,by omega⟩,⟨_,rfl,by omega,by omega⟩,?_⟩
      rintro _ k23 ⟨_,r23,hnn,rfl,⟨hr23,hk23⟩⟩
      cases hnn
      refine⟨kp_,?_⟩
      refine⟨kp_,?_⟩
      refine⟨⟨Nat.le_refl _,fun j hj=>by match j,hj with | 0,_=>rfl⟩,?_⟩
      refine⟨⟨rfl,hov.1⟩,fun hinv elv ⟨g1v,_⟩ g2v=>?_,fun hgtv=>⟨by show (vl.length+1) * 16≤140737488355328;omega,fun capv elv ⟨hcv,_⟩ g1v g2v=>?_⟩⟩
      ·rw[show vl.length+1=(vl++[(r22,IntKind.i64.wrap (r22+r23))]).length by simp]
       refine⟨(_,_,(vl++[(r22,IntKind.i64.wrap (r22+r23))]),cpv,elv),[],?_,⟨rfl,rfl⟩,kp_,kp_⟩
       dsimp only
       rw[wrapi (n:=q-1) (by omega)]
       refine⟨⟨⟨by omega,by omega⟩,⟨by simp,by simp<;>omega⟩,versOk_snoc hvo hv1 hr22.1 (by rw[wrapi (by omega)];omega) (by rw[wrapi (by omega)];omega),⟨by omega,by simp<;>omega⟩,by first | exact hcv | (simp;omega),snoc_el hov.2 g1v (g2v 0 (by omega))⟩,by omega⟩
      ·rw[show vl.length+1=(vl++[(r22,IntKind.i64.wrap (r22+r23))]).length by simp] at hcv ⊢
       refine⟨(_,_,(vl++[(r22,IntKind.i64.wrap (r22+r23))]),capv,elv),[(8,10)],?_,⟨rfl,rfl⟩,kp_,kp_⟩
       dsimp only
       rw[wrapi (n:=q-1) (by omega)]
       refine⟨⟨⟨by omega,by omega⟩,⟨by simp,by simp<;>omega⟩,versOk_snoc hvo hv1 hr22.1 (by rw[wrapi (by omega)];omega) (by rw[wrapi (by omega)];omega),⟨by omega,by simp<;>omega⟩,by first | exact hcv | (simp;omega),snoc_el hov.2 g1v (g2v 0 (by omega))⟩,by omega⟩
     ·have hvl3:vl.length≤3:=by omega
      refine⟨2,0,cap,zs,_,_,rfl,⟨rfl,rfl⟩,⟨hz,by omega,by omega⟩,⟨_,rfl,by omega,by omega⟩,?_⟩
      rintro _ k24 ⟨_,r24,hnn,rfl,⟨hr24,hk24⟩⟩
      cases hnn
      have e24:IntKind.i64.wrap (IntKind.i64.wrap (2 * r24)+1)=2 * r24+1:=by rw[wrapi (n:=2 * r24) (by omega),wrapi (by omega)]
      have hto:=ho
      refine⟨Int×Int×List Int×Option (Nat×(Nat→List Value)),fun p=>match p with | (q,kk,il,o)=>[(12,.int .i64 q)],fun p=>match p with | (q,kk,il,none)=>[(2,tapeB 0 zs.length cap kk),(3,.box 31 [.int .i64 rg,(slc 4 zl.length cpz),(slc 5 cs.length cpc),zs0,(slc 8 vl.length cpv),zs0,zs0,.int .i64 r1,.int .i64 r2,.int .i64 r3])] | (q,kk,il,some (cpx,elx))=>[(2,tapeB 0 zs.length cap kk),(3,.box 31 [.int .i64 rg,(slc 4 zl.length cpz),(slc 5 cs.length cpc),zs0,(slc 8 vl.length cpv),(slc 9 il.length cpx),zs0,.int .i64 r1,.int .i64 r2,.int .i64 r3]),(9,.row (1000000+3) 1 cpx elx)],fun p=>match p with | (q,kk,il,o)=>(0≤q∧(il.length:Int)+q=2 * r24+1)∧(il.all (fun z=>inR z 0 (zl.length-1))=true)∧(0≤kk∧kk≤200+10 * il.length)∧match o with | none=>il=[] | some (cpx,elx)=>il.length≤cpx∧∀ j,j<il.length→elx j=intC (il.getD j 0),fun p=>match p with | (q,kk,il,o)=>q.toNat,⟨(IntKind.i64.wrap (IntKind.i64.wrap (2 * r24)+1),_,[],none),[],?_,⟨rfl,rfl⟩,kp_,kp_⟩,?_⟩
      ·exact⟨⟨by rw[e24];omega,by rw[e24];simp⟩,rfl,⟨by omega,by simp;omega⟩,rfl⟩
      ·clear hqq hq hkk
       rintro⟨q,kk,il,(_ | ⟨cp,elx⟩)⟩ ⟨⟨hq,hqs⟩,hia,hkk,ho⟩
       ·refine⟨⟨by decide,rfl,rfl⟩,?_⟩
        refine⟨fun hqq=>?_,fun hqq=>?_⟩
        ·have hq0:q>0:=of_decide_eq_true hqq
         refine⟨2,0,cap,zs,_,_,rfl,⟨rfl,rfl⟩,⟨hz,by omega,by omega⟩,⟨_,rfl,by omega,by omega⟩,?_⟩
         rintro _ k25 ⟨_,r25,hnn,rfl,⟨hr25,hk25⟩⟩
         cases hnn
         refine⟨kp_,?_⟩
         refine⟨kp_,?_⟩
         refine⟨⟨Nat.le_refl _,fun j hj=>by match j,hj with | 0,_=>rfl⟩,?_⟩
         refine⟨fun h=>absurd h (by decide),fun _=>⟨by decide,fun capx elx ⟨hcx,_⟩ g2x=>?_⟩⟩
         subst ho
         have hl0:([]:List Int).length=0:=rfl
         refine⟨(_,_,([r25]),some (capx,elx)),[(9,11)],?_,⟨rfl,rfl⟩,kp_,kp_⟩
         dsimp only
         rw[wrapi (n:=q-1) (by omega)]
         refine⟨⟨⟨by omega,by simp<;>omega⟩,?_,⟨by omega,by simp<;>omega⟩,⟨by first | exact hcx | simp,one_el (g2x 0 (by omega))⟩⟩,by omega⟩
         exact cwi hr25
        ·have hq0:¬ q>0:=of_decide_eq_false hqq
         exfalso
         have h0:il.length=0:=by rw[show il=[] from ho];rfl
         omega
       ·refine⟨⟨by decide,rfl,rfl⟩,?_⟩
        refine⟨fun hqq=>?_,fun hqq=>?_⟩
        ·have hq0:q>0:=of_decide_eq_true hqq
         refine⟨2,0,cap,zs,_,_,rfl,⟨rfl,rfl⟩,⟨hz,by omega,by omega⟩,⟨_,rfl,by omega,by omega⟩,?_⟩
         rintro _ k25 ⟨_,r25,hnn,rfl,⟨hr25,hk25⟩⟩
         cases hnn
         refine⟨kp_,?_⟩
         refine⟨kp_,?_⟩
         refine⟨⟨Nat.le_refl _,fun j hj=>by match j,hj with | 0,_=>rfl⟩,?_⟩
         refine⟨⟨rfl,ho.1⟩,fun hinx elx ⟨g1x,_⟩ g2x=>?_,fun hgtx=>⟨by show (il.length+1) * 8≤140737488355328;omega,fun capx elx ⟨hcx,_⟩ g1x g2x=>?_⟩⟩
         ·rw[show il.length+1=(il++[r25]).length by simp]
          refine⟨(_,_,(il++[r25]),some (cp,elx)),[],?_,⟨rfl,rfl⟩,kp_,kp_⟩
          dsimp only
          rw[wrapi (n:=q-1) (by omega)]
          refine⟨⟨⟨by omega,by simp<;>omega⟩,?_,⟨by omega,by simp<;>omega⟩,⟨by simp;omega,snoc_el ho.2 g1x (g2x 0 (by omega))⟩⟩,by omega⟩
          rw[List.all_append,hia]
          exact cwi hr25
         ·rw[show il.length+1=(il++[r25]).length by simp] at hcx ⊢
          refine⟨(_,_,(il++[r25]),some (capx,elx)),[(9,11)],?_,⟨rfl,rfl⟩,kp_,kp_⟩
          dsimp only
          rw[wrapi (n:=q-1) (by omega)]
          refine⟨⟨⟨by omega,by simp<;>omega⟩,?_,⟨by omega,by simp<;>omega⟩,⟨by first | exact hcx | (simp;omega),snoc_el ho.2 g1x (g2x 0 (by omega))⟩⟩,by omega⟩
          rw[List.all_append,hia]
          exact cwi hr25
        ·have hq0:¬ q>0:=of_decide_eq_false hqq
         refine⟨2,0,cap,zs,_,_,rfl,⟨rfl,rfl⟩,⟨hz,by omega,by omega⟩,⟨_,_,rfl,by omega,by omega,by omega⟩,?_⟩
         rintro _ k26 ⟨_,_,r26,hnn,rfl,hr26,hk26⟩
         cases hnn
         have hio:=ho
         have hil:=hia
         generalize cp=cpi at hio ⊢
         generalize elx=eli at hio ⊢
         have hi3:il.length=1∨il.length=3:=by omega
         refine⟨Int×Int×List Int×Option (Nat×(Nat→List Value)),fun p=>match p with | (q,kk,ol,o)=>[(13,.int .i64 q)],fun p=>match p with | (q,kk,ol,none)=>[(2,tapeB 0 zs.length cap kk),(3,.box 31 [.int .i64 rg,(slc 4 zl.length cpz),(slc 5 cs.length cpc),zs0,(slc 8 vl.length cpv),(slc 9 il.length cpi),zs0,.int .i64 r1,.int .i64 r2,.int .i64 r3])] | (q,kk,ol,some (cpx,elx))=>[(2,tapeB 0 zs.length cap kk),(3,.box 31 [.int .i64 rg,(slc 4 zl.length cpz),(slc 5 cs.length cpc),zs0,(slc 8 vl.length cpv),(slc 9 il.length cpi),(slc 10 ol.length cpx),.int .i64 r1,.int .i64 r2,.int .i64 r3]),(10,.row (1000000+3) 1 cpx elx)],fun p=>match p with | (q,kk,ol,o)=>(0≤q∧(ol.length:Int)+q=r26)∧(ol.all (fun z=>inR z 0 (zl.length-1))=true)∧(0≤kk∧kk≤300+10 * ol.length)∧match o with | none=>ol=[] | some (cpx,elx)=>ol.length≤cpx∧∀ j,j<ol.length→elx j=intC (ol.getD j 0),fun p=>match p with | (q,kk,ol,o)=>q.toNat,⟨(r26,_,[],none),[],?_,⟨rfl,rfl⟩,kp_,kp_⟩,?_⟩
         ·exact⟨⟨by omega,by simp⟩,rfl,⟨by omega,by simp;omega⟩,rfl⟩
         ·clear hqq hq hkk
          rintro⟨q,kk,ol,(_ | ⟨cp,elx⟩)⟩ ⟨⟨hq,hqs⟩,hia,hkk,ho⟩
          ·refine⟨⟨by decide,rfl,rfl⟩,?_⟩
           refine⟨fun hqq=>?_,fun hqq=>?_⟩
           ·have hq0:q>0:=of_decide_eq_true hqq
            refine⟨2,0,cap,zs,_,_,rfl,⟨rfl,rfl⟩,⟨hz,by omega,by omega⟩,⟨_,rfl,by omega,by omega⟩,?_⟩
            rintro _ k27 ⟨_,r27,hnn,rfl,⟨hr27,hk27⟩⟩
            cases hnn
            refine⟨kp_,?_⟩
            refine⟨kp_,?_⟩
            refine⟨⟨Nat.le_refl _,fun j hj=>by match j,hj with | 0,_=>rfl⟩,?_⟩
            refine⟨fun h=>absurd h (by decide),fun _=>⟨by decide,fun capx elx ⟨hcx,_⟩ g2x=>?_⟩⟩
            subst ho
            have hl0:([]:List Int).length=0:=rfl
            refine⟨(_,_,([r27]),some (capx,elx)),[(10,12)],?_,⟨rfl,rfl⟩,kp_,kp_⟩
            dsimp only
            rw[wrapi (n:=q-1) (by omega)]
            refine⟨⟨⟨by omega,by simp<;>omega⟩,?_,⟨by omega,by simp<;>omega⟩,⟨by first | exact hcx | simp,one_el (g2x 0 (by omega))⟩⟩,by omega⟩
            exact cwi hr27
           ·have hq0:¬ q>0:=of_decide_eq_false hqq
            exfalso
            have h0:ol.length=0:=by rw[show ol=[] from ho];rfl
            omega
          ·refine⟨⟨by decide,rfl,rfl⟩,?_⟩
           refine⟨fun hqq=>?_,fun hqq=>?_⟩
           ·have hq0:q>0:=of_decide_eq_true hqq
            refine⟨2,0,cap,zs,_,_,rfl,⟨rfl,rfl⟩,⟨hz,by omega,by omega⟩,⟨_,rfl,by omega,by omega⟩,?_⟩
            rintro _ k27 ⟨_,r27,hnn,rfl,⟨hr27,hk27⟩⟩
            cases hnn
            refine⟨kp_,?_⟩
            refine⟨kp_,?_⟩
            refine⟨⟨Nat.le_refl _,fun j hj=>by match j,hj with | 0,_=>rfl⟩,?_⟩
            refine⟨⟨rfl,ho.1⟩,fun hinx elx ⟨g1x,_⟩ g2x=>?_,fun hgtx=>⟨by show (ol.length+1) * 8≤140737488355328;omega,fun capx elx ⟨hcx,_⟩ g1x g2x=>?_⟩⟩
            ·rw[show ol.length+1=(ol++[r27]).length by simp]
             refine⟨(_,_,(ol++[r27]),some (cp,elx)),[],?_,⟨rfl,rfl⟩,kp_,kp_⟩
             dsimp only
             rw[wrapi (n:=q-1) (by omega)]
             refine⟨⟨⟨by omega,by simp<;>omega⟩,?_,⟨by omega,by simp<;>omega⟩,⟨by simp;omega,snoc_el ho.2 g1x (g2x 0 (by omega))⟩⟩,by omega⟩
             rw[List.all_append,hia]
             exact cwi hr27
            ·rw[show ol.length+1=(ol++[r27]).length by simp] at hcx ⊢
             refine⟨(_,_,(ol++[r27]),some (capx,elx)),[(10,12)],?_,⟨rfl,rfl⟩,kp_,kp_⟩
             dsimp only
             rw[wrapi (n:=q-1) (by omega)]
             refine⟨⟨⟨by omega,by simp<;>omega⟩,?_,⟨by omega,by simp<;>omega⟩,⟨by first | exact hcx | (simp;omega),snoc_el ho.2 g1x (g2x 0 (by omega))⟩⟩,by omega⟩
             rw[List.all_append,hia]
             exact cwi hr27
           ·have hq0:¬ q>0:=of_decide_eq_false hqq
            exact⟨⟨4,5,6,8,9,10,0⟩,⟨cpz,cpc,0,cpv,cpi,cp⟩,⟨rg,zl,cs,ts,vl,il,ol,r1,r2,r3⟩,_,madeCfg_of rg r1 r2 r3 zl cs ts vl il ol ⟨hg1,hg2⟩ hzl hcl htl5 ⟨hv1,hvl3⟩ hza hca hta hvo hil hia hi3 ⟨by omega,by omega⟩ hr1 hr2 ⟨hr3.1,by omega⟩,rfl,⟨⟨_,_,_,rfl,rfl,hez.1,hez.2⟩,⟨_,_,_,rfl,rfl,hec.1,hec.2⟩,⟨_,_,_,rfl,rfl,hov.1,hov.2⟩,⟨_,_,_,rfl,rfl,hio.1,hio.2⟩,⟨_,_,_,rfl,rfl,ho.1,ho.2⟩⟩,.inl ⟨rfl,hto⟩⟩
   ·refine⟨⟨by decide,rfl,rfl⟩,?_⟩
    refine⟨fun hqq=>?_,fun hqq=>?_⟩
    ·have hq0:q>0:=of_decide_eq_true hqq
     refine⟨2,0,cap,zs,_,_,rfl,⟨rfl,rfl⟩,⟨hz,by omega,by omega⟩,⟨_,_,rfl,by omega,by omega,by omega⟩,?_⟩
     rintro _ k11 ⟨_,_,r11,hnn,rfl,hr11,hk11⟩
     cases hnn
     refine⟨by rw[IntKind.wrap_u64];omega,?_⟩
     refine⟨2,0,cap,zs,_,_,rfl,⟨rfl,rfl⟩,⟨hz,by omega,by omega⟩,⟨_,rfl,by rw[wrapi (by omega)];omega,by rw[wrapi (by omega)];omega⟩,?_⟩
     rintro _ k12 ⟨_,r12,hnn,rfl,⟨hr12,hk12⟩⟩
     cases hnn
     rw[wrapi (n:=r11+1) (by omega)] at hr12
     refine⟨kp_,?_⟩
     refine⟨2,0,cap,zs,_,_,rfl,⟨rfl,rfl⟩,⟨hz,by omega,by omega⟩,⟨_,rfl,by omega,by omega⟩,?_⟩
     rintro _ k13 ⟨_,r13,hnn,rfl,⟨hr13,hk13⟩⟩
     cases hnn
     refine⟨kp_,?_⟩
     refine⟨2,0,cap,zs,_,_,rfl,⟨rfl,rfl⟩,⟨hz,by omega,by omega⟩,⟨_,_,rfl,by omega,by omega,by omega⟩,?_⟩
     rintro _ k14 ⟨_,_,r14,hnn,rfl,hr14,hk14⟩
     cases hnn
     refine⟨kp_,?_⟩
     refine⟨2,0,cap,zs,_,_,rfl,⟨rfl,rfl⟩,⟨hz,by omega,by omega⟩,⟨_,rfl,by omega,by omega⟩,?_⟩
     rintro _ k15 ⟨_,r15,hnn,rfl,⟨hr15,hk15⟩⟩
     cases hnn
     refine⟨kp_,?_⟩
     refine⟨2,0,cap,zs,_,_,rfl,⟨rfl,rfl⟩,⟨hz,by omega,by omega⟩,⟨_,rfl,by omega,by omega⟩,?_⟩
     rintro _ k16 ⟨b16,rfl,hk16⟩
     refine⟨kp_,?_⟩
     have hal:=allowC_eq ⟨hg1,hg2⟩
     have hsb:=shl1_bd rg
     refine⟨Int×Int,fun _=>[],fun p=>match p with | (al,kq)=>[(2,tapeB 0 zs.length cap kq),(7,.box 90 [.int .i64 r11,.int .i64 r12,.int .i64 r13,.int .i64 r14,.int .i64 al,.int .i64 r15,.bool b16])],fun p=>match p with | (al,kq)=>(1≤al∧al≤shl1 rg-1)∧(kk≤kq∧kq≤kk+10),?_,?_⟩
     ·refine⟨2,0,cap,zs,_,_,rfl,⟨rfl,rfl⟩,⟨hz,by omega,by omega⟩,⟨_,rfl,by omega,by omega⟩,?_⟩
      rintro _ k17 ⟨b17,rfl,hk17⟩
      refine⟨fun hy=>?_,fun hy=>?_⟩
      ·refine⟨by rw[IntKind.wrap_u64];omega,?_⟩
       refine⟨2,0,cap,zs,_,_,rfl,⟨rfl,rfl⟩,⟨hz,by omega,by omega⟩,⟨_,_,rfl,by omega,(by show 1≤allowC rg;omega),(by show allowC rg≤100000;omega)⟩,?_⟩
       rintro _ k18 ⟨_,_,r18,hnn,rfl,hr18,hk18⟩
       cases hnn
       refine⟨(r18,k18),⟨⟨hr18.1,by have:r18≤allowC rg:=hr18.2;omega⟩,by omega,by omega⟩,kp_,kp_⟩
      ·refine⟨(allowC rg,k17),⟨⟨by omega,by omega⟩,by omega,by omega⟩,kp_,kp_⟩
     ·rintro⟨al,kq⟩ ⟨ha2,hq1,hq2⟩
      refine⟨⟨by decide,rfl,rfl⟩,?_⟩
      refine⟨⟨Nat.le_refl _,fun j hj=>by match j,hj with | 0,_=>rfl⟩,?_⟩
      refine⟨⟨rfl,ho.1⟩,fun hint elt ⟨g1t,_⟩ g2t=>?_,fun hgtt=>⟨by show (ts.length+1) * 56≤140737488355328;omega,fun capt elt ⟨hct,_⟩ g1t g2t=>?_⟩⟩
      ·rw[show ts.length+1=(ts++[(⟨r11,r12,r13,r14,al,r15,b16⟩:Ten)]).length by simp]
       refine⟨(_,kq,(ts++[(⟨r11,r12,r13,r14,al,r15,b16⟩:Ten)]),some (cp,elt)),[],?_,⟨rfl,rfl⟩,kp_,kp_⟩
       dsimp only
       rw[wrapi (n:=q-1) (by omega)]
       refine⟨⟨⟨by omega,by omega⟩,by simp<;>omega,?_,⟨by omega,by simp<;>omega⟩,⟨by simp;omega,snoc_el ho.2 g1t (g2t 0 (by omega))⟩⟩,by omega⟩
       rw[List.all_append,hta]
       simp only[List.all_cons,List.all_nil,Bool.and_true,Bool.true_and]
       exact ten_okC ⟨hg1,hg2⟩ hr11 hr12 hr13 hr14 ha2 hr15
      ·rw[show ts.length+1=(ts++[(⟨r11,r12,r13,r14,al,r15,b16⟩:Ten)]).length by simp] at hct ⊢
       refine⟨(_,kq,(ts++[(⟨r11,r12,r13,r14,al,r15,b16⟩:Ten)]),some (capt,elt)),[(6,9)],?_,⟨rfl,rfl⟩,kp_,kp_⟩
       dsimp only
       rw[wrapi (n:=q-1) (by omega)]
       refine⟨⟨⟨by omega,by omega⟩,by simp<;>omega,?_,⟨by omega,by simp<;>omega⟩,⟨by first | exact hct | (simp;omega),snoc_el ho.2 g1t (g2t 0 (by omega))⟩⟩,by omega⟩
       rw[List.all_append,hta]
       simp only[List.all_cons,List.all_nil,Bool.and_true,Bool.true_and]
       exact ten_okC ⟨hg1,hg2⟩ hr11 hr12 hr13 hr14 ha2 hr15
    ·refine⟨2,0,cap,zs,_,_,rfl,⟨rfl,rfl⟩,⟨hz,by omega,by omega⟩,⟨_,rfl,by omega,by omega⟩,?_⟩
     rintro _ k20 ⟨_,r20,hnn,rfl,⟨hr20,hk20⟩⟩
     cases hnn
     refine⟨2,0,cap,zs,_,_,rfl,⟨rfl,rfl⟩,⟨hz,by omega,by omega⟩,⟨_,rfl,by omega,by omega⟩,?_⟩
     rintro _ k21 ⟨_,r21,hnn,rfl,⟨hr21,hk21⟩⟩
     cases hnn
     refine⟨Int×Int×List (Int×Int)×Nat×(Nat→List Value),fun p=>match p with | (q,kk,vl,cpv,elv)=>[(10,.int .i64 q)],fun p=>match p with | (q,kk,vl,cpv,elv)=>[(2,tapeB 0 zs.length cap kk),(3,.box 31 [.int .i64 rg,(slc 4 zl.length cpz),(slc 5 cs.length cpc),(slc 6 ts.length cp),(slc 8 vl.length cpv),zs0,zs0,.int .i64 r1,.int .i64 r2,.int .i64 r3]),(8,.row (1000000+88) 2 cpv elv)],fun p=>match p with | (q,kk,vl,cpv,elv)=>(0≤q∧q≤2)∧(1≤vl.length∧(vl.length:Int)+q≤3)∧versOk vl=true∧(0≤kk∧kk≤140+10 * vl.length)∧vl.length≤cpv∧∀ j,j<vl.length→elv j=pairC (vl.getD j (0,0)),fun p=>match p with | (q,kk,vl,cpv,elv)=>q.toNat,⟨(r21,k21,[(0,r20)],1,_),[(8,7)],⟨by omega,⟨by simp,by simp;omega⟩,versOk_one (by omega) (by omega),⟨by omega,by simp;omega⟩,by simp,one_el rfl⟩,⟨rfl,rfl⟩,kp_,kp_⟩,?_⟩
     have htl5:ts.length≤5:=by omega
     clear hkk hq htl hqq
     rintro⟨q,kk,vl,cpv,elv⟩ ⟨hq,⟨hv1,hv2⟩,hvo,hkk,hov⟩
     refine⟨⟨by decide,rfl,rfl⟩,?_⟩
     refine⟨fun hqq=>?_,fun hqq=>?_⟩
     ·have hq0:q>0:=of_decide_eq_true hqq
      refine⟨2,0,cap,zs,_,_,rfl,⟨rfl,rfl⟩,⟨hz,by omega,by omega⟩,⟨_,rfl,by omega,by omega⟩,?_⟩
      rintro _ k22 ⟨_,r22,hnn,rfl,⟨hr22,hk22⟩⟩
      cases hnn
      refine⟨2,0,cap,zs,_,_,rfl,⟨rfl,rfl⟩,⟨hz,by omega,by omega⟩,⟨_,rfl,by omega,by omega⟩,?_⟩
      rintro _ k23 ⟨_,r23,hnn,rfl,⟨hr23,hk23⟩⟩
      cases hnn
      refine⟨kp_,?_⟩
      refine⟨kp_,?_⟩
      refine⟨⟨Nat.le_refl _,fun j hj=>by match j,hj with | 0,_=>rfl⟩,?_⟩
      refine⟨⟨rfl,hov.1⟩,fun hinv elv ⟨g1v,_⟩ g2v=>?_,fun hgtv=>⟨by show (vl.length+1) * 16≤140737488355328;omega,fun capv elv ⟨hcv,_⟩ g1v g2v=>?_⟩⟩
      ·rw[show vl.length+1=(vl++[(r22,IntKind.i64.wrap (r22+r23))]).length by simp]
       refine⟨(_,_,(vl++[(r22,IntKind.i64.wrap (r22+r23))]),cpv,elv),[],?_,⟨rfl,rfl⟩,kp_,kp_⟩
       dsimp only
       rw[wrapi (n:=q-1) (by omega)]
       refine⟨⟨⟨by omega,by omega⟩,⟨by simp,by simp<;>omega⟩,versOk_snoc hvo hv1 hr22.1 (by rw[wrapi (by omega)];omega) (by rw[wrapi (by omega)];omega),⟨by omega,by simp<;>omega⟩,by first | exact hcv | (simp;omega),snoc_el hov.2 g1v (g2v 0 (by omega))⟩,by omega⟩
      ·rw[show vl.length+1=(vl++[(r22,IntKind.i64.wrap (r22+r23))]).length by simp] at hcv ⊢
       refine⟨(_,_,(vl++[(r22,IntKind.i64.wrap (r22+r23))]),capv,elv),[(8,10)],?_,⟨rfl,rfl⟩,kp_,kp_⟩
       dsimp only
       rw[wrapi (n:=q-1) (by omega)]
       refine⟨⟨⟨by omega,by omega⟩,⟨by simp,by simp<;>omega⟩,versOk_snoc hvo hv1 hr22.1 (by rw[wrapi (by omega)];omega) (by rw[wrapi (by omega)];omega),⟨by omega,by simp<;>omega⟩,by first | exact hcv | (simp;omega),snoc_el hov.2 g1v (g2v 0 (by omega))⟩,by omega⟩
     ·have hvl3:vl.length≤3:=by omega
      refine⟨2,0,cap,zs,_,_,rfl,⟨rfl,rfl⟩,⟨hz,by omega,by omega⟩,⟨_,rfl,by omega,by omega⟩,?_⟩
      rintro _ k24 ⟨_,r24,hnn,rfl,⟨hr24,hk24⟩⟩
      cases hnn
      have e24:IntKind.i64.wrap (IntKind.i64.wrap (2 * r24)+1)=2 * r24+1:=by rw[wrapi (n:=2 * r24) (by omega),wrapi (by omega)]
      have hto:=ho
      generalize cp=cpt at hto ⊢
      refine⟨Int×Int×List Int×Option (Nat×(Nat→List Value)),fun p=>match p with | (q,kk,il,o)=>[(12,.int .i64 q)],fun p=>match p with | (q,kk,il,none)=>[(2,tapeB 0 zs.length cap kk),(3,.box 31 [.int .i64 rg,(slc 4 zl.length cpz),(slc 5 cs.length cpc),(slc 6 ts.length cpt),(slc 8 vl.length cpv),zs0,zs0,.int .i64 r1,.int .i64 r2,.int .i64 r3])] | (q,kk,il,some (cpx,elx))=>[(2,tapeB 0 zs.length cap kk),(3,.box 31 [.int .i64 rg,(slc 4 zl.length cpz),(slc 5 cs.length cpc),(slc 6 ts.length cpt),(slc 8 vl.length cpv),(slc 9 il.length cpx),zs0,.int .i64 r1,.int .i64 r2,.int .i64 r3]),(9,.row (1000000+3) 1 cpx elx)],fun p=>match p with | (q,kk,il,o)=>(0≤q∧(il.length:Int)+q=2 * r24+1)∧(il.all (fun z=>inR z 0 (zl.length-1))=true)∧(0≤kk∧kk≤200+10 * il.length)∧match o with | none=>il=[] | some (cpx,elx)=>il.length≤cpx∧∀ j,j<il.length→elx j=intC (il.getD j 0),fun p=>match p with | (q,kk,il,o)=>q.toNat,⟨(IntKind.i64.wrap (IntKind.i64.wrap (2 * r24)+1),_,[],none),[],?_,⟨rfl,rfl⟩,kp_,kp_⟩,?_⟩
      ·exact⟨⟨by rw[e24];omega,by rw[e24];simp⟩,rfl,⟨by omega,by simp;omega⟩,rfl⟩
      ·clear hqq hq hkk
       rintro⟨q,kk,il,(_ | ⟨cp,elx⟩)⟩ ⟨⟨hq,hqs⟩,hia,hkk,ho⟩
       ·refine⟨⟨by decide,rfl,rfl⟩,?_⟩
        refine⟨fun hqq=>?_,fun hqq=>?_⟩
        ·have hq0:q>0:=of_decide_eq_true hqq
         refine⟨2,0,cap,zs,_,_,rfl,⟨rfl,rfl⟩,⟨hz,by omega,by omega⟩,⟨_,rfl,by omega,by omega⟩,?_⟩
         rintro _ k25 ⟨_,r25,hnn,rfl,⟨hr25,hk25⟩⟩
         cases hnn
         refine⟨kp_,?_⟩
         refine⟨kp_,?_⟩
         refine⟨⟨Nat.le_refl _,fun j hj=>by match j,hj with | 0,_=>rfl⟩,?_⟩
         refine⟨fun h=>absurd h (by decide),fun _=>⟨by decide,fun capx elx ⟨hcx,_⟩ g2x=>?_⟩⟩
         subst ho
         have hl0:([]:List Int).length=0:=rfl
         refine⟨(_,_,([r25]),some (capx,elx)),[(9,11)],?_,⟨rfl,rfl⟩,kp_,kp_⟩
         dsimp only
         rw[wrapi (n:=q-1) (by omega)]
         refine⟨⟨⟨by omega,by simp<;>omega⟩,?_,⟨by omega,by simp<;>omega⟩,⟨by first | exact hcx | simp,one_el (g2x 0 (by omega))⟩⟩,by omega⟩
         exact cwi hr25
        ·have hq0:¬ q>0:=of_decide_eq_false hqq
         exfalso
         have h0:il.length=0:=by rw[show il=[] from ho];rfl
         omega
       ·refine⟨⟨by decide,rfl,rfl⟩,?_⟩
        refine⟨fun hqq=>?_,fun hqq=>?_⟩
        ·have hq0:q>0:=of_decide_eq_true hqq
         refine⟨2,0,cap,zs,_,_,rfl,⟨rfl,rfl⟩,⟨hz,by omega,by omega⟩,⟨_,rfl,by omega,by omega⟩,?_⟩
         rintro _ k25 ⟨_,r25,hnn,rfl,⟨hr25,hk25⟩⟩
         cases hnn
         refine⟨kp_,?_⟩
         refine⟨kp_,?_⟩
         refine⟨⟨Nat.le_refl _,fun j hj=>by match j,hj with | 0,_=>rfl⟩,?_⟩
         refine⟨⟨rfl,ho.1⟩,fun hinx elx ⟨g1x,_⟩ g2x=>?_,fun hgtx=>⟨by show (il.length+1) * 8≤140737488355328;omega,fun capx elx ⟨hcx,_⟩ g1x g2x=>?_⟩⟩
         ·rw[show il.length+1=(il++[r25]).length by simp]
          refine⟨(_,_,(il++[r25]),some (cp,elx)),[],?_,⟨rfl,rfl⟩,kp_,kp_⟩
          dsimp only
          rw[wrapi (n:=q-1) (by omega)]
          refine⟨⟨⟨by omega,by simp<;>omega⟩,?_,⟨by omega,by simp<;>omega⟩,⟨by simp;omega,snoc_el ho.2 g1x (g2x 0 (by omega))⟩⟩,by omega⟩
          rw[List.all_append,hia]
          exact cwi hr25
         ·rw[show il.length+1=(il++[r25]).length by simp] at hcx ⊢
          refine⟨(_,_,(il++[r25]),some (capx,elx)),[(9,11)],?_,⟨rfl,rfl⟩,kp_,kp_⟩
          dsimp only
          rw[wrapi (n:=q-1) (by omega)]
          refine⟨⟨⟨by omega,by simp<;>omega⟩,?_,⟨by omega,by simp<;>omega⟩,⟨by first | exact hcx | (simp;omega),snoc_el ho.2 g1x (g2x 0 (by omega))⟩⟩,by omega⟩
          rw[List.all_append,hia]
          exact cwi hr25
        ·have hq0:¬ q>0:=of_decide_eq_false hqq
         refine⟨2,0,cap,zs,_,_,rfl,⟨rfl,rfl⟩,⟨hz,by omega,by omega⟩,⟨_,_,rfl,by omega,by omega,by omega⟩,?_⟩
         rintro _ k26 ⟨_,_,r26,hnn,rfl,hr26,hk26⟩
         cases hnn
         have hio:=ho
         have hil:=hia
         generalize cp=cpi at hio ⊢
         generalize elx=eli at hio ⊢
         have hi3:il.length=1∨il.length=3:=by omega
         refine⟨Int×Int×List Int×Option (Nat×(Nat→List Value)),fun p=>match p with | (q,kk,ol,o)=>[(13,.int .i64 q)],fun p=>match p with | (q,kk,ol,none)=>[(2,tapeB 0 zs.length cap kk),(3,.box 31 [.int .i64 rg,(slc 4 zl.length cpz),(slc 5 cs.length cpc),(slc 6 ts.length cpt),(slc 8 vl.length cpv),(slc 9 il.length cpi),zs0,.int .i64 r1,.int .i64 r2,.int .i64 r3])] | (q,kk,ol,some (cpx,elx))=>[(2,tapeB 0 zs.length cap kk),(3,.box 31 [.int .i64 rg,(slc 4 zl.length cpz),(slc 5 cs.length cpc),(slc 6 ts.length cpt),(slc 8 vl.length cpv),(slc 9 il.length cpi),(slc 10 ol.length cpx),.int .i64 r1,.int .i64 r2,.int .i64 r3]),(10,.row (1000000+3) 1 cpx elx)],fun p=>match p with | (q,kk,ol,o)=>(0≤q∧(ol.length:Int)+q=r26)∧(ol.all (fun z=>inR z 0 (zl.length-1))=true)∧(0≤kk∧kk≤300+10 * ol.length)∧match o with | none=>ol=[] | some (cpx,elx)=>ol.length≤cpx∧∀ j,j<ol.length→elx j=intC (ol.getD j 0),fun p=>match p with | (q,kk,ol,o)=>q.toNat,⟨(r26,_,[],none),[],?_,⟨rfl,rfl⟩,kp_,kp_⟩,?_⟩
         ·exact⟨⟨by omega,by simp⟩,rfl,⟨by omega,by simp;omega⟩,rfl⟩
         ·clear hqq hq hkk
          rintro⟨q,kk,ol,(_ | ⟨cp,elx⟩)⟩ ⟨⟨hq,hqs⟩,hia,hkk,ho⟩
          ·refine⟨⟨by decide,rfl,rfl⟩,?_⟩
           refine⟨fun hqq=>?_,fun hqq=>?_⟩
           ·have hq0:q>0:=of_decide_eq_true hqq
            refine⟨2,0,cap,zs,_,_,rfl,⟨rfl,rfl⟩,⟨hz,by omega,by omega⟩,⟨_,rfl,by omega,by omega⟩,?_⟩
            rintro _ k27 ⟨_,r27,hnn,rfl,⟨hr27,hk27⟩⟩
            cases hnn
            refine⟨kp_,?_⟩
            refine⟨kp_,?_⟩
            refine⟨⟨Nat.le_refl _,fun j hj=>by match j,hj with | 0,_=>rfl⟩,?_⟩
            refine⟨fun h=>absurd h (by decide),fun _=>⟨by decide,fun capx elx ⟨hcx,_⟩ g2x=>?_⟩⟩
            subst ho
            have hl0:([]:List Int).length=0:=rfl
            refine⟨(_,_,([r27]),some (capx,elx)),[(10,12)],?_,⟨rfl,rfl⟩,kp_,kp_⟩
            dsimp only
            rw[wrapi (n:=q-1) (by omega)]
            refine⟨⟨⟨by omega,by simp<;>omega⟩,?_,⟨by omega,by simp<;>omega⟩,⟨by first | exact hcx | simp,one_el (g2x 0 (by omega))⟩⟩,by omega⟩
            exact cwi hr27
           ·have hq0:¬ q>0:=of_decide_eq_false hqq
            exfalso
            have h0:ol.length=0:=by rw[show ol=[] from ho];rfl
            omega
          ·refine⟨⟨by decide,rfl,rfl⟩,?_⟩
           refine⟨fun hqq=>?_,fun hqq=>?_⟩
           ·have hq0:q>0:=of_decide_eq_true hqq
            refine⟨2,0,cap,zs,_,_,rfl,⟨rfl,rfl⟩,⟨hz,by omega,by omega⟩,⟨_,rfl,by omega,by omega⟩,?_⟩
            rintro _ k27 ⟨_,r27,hnn,rfl,⟨hr27,hk27⟩⟩
            cases hnn
            refine⟨kp_,?_⟩
            refine⟨kp_,?_⟩
            refine⟨⟨Nat.le_refl _,fun j hj=>by match j,hj with | 0,_=>rfl⟩,?_⟩
            refine⟨⟨rfl,ho.1⟩,fun hinx elx ⟨g1x,_⟩ g2x=>?_,fun hgtx=>⟨by show (ol.length+1) * 8≤140737488355328;omega,fun capx elx ⟨hcx,_⟩ g1x g2x=>?_⟩⟩
            ·rw[show ol.length+1=(ol++[r27]).length by simp]
             refine⟨(_,_,(ol++[r27]),some (cp,elx)),[],?_,⟨rfl,rfl⟩,kp_,kp_⟩
             dsimp only
             rw[wrapi (n:=q-1) (by omega)]
             refine⟨⟨⟨by omega,by simp<;>omega⟩,?_,⟨by omega,by simp<;>omega⟩,⟨by simp;omega,snoc_el ho.2 g1x (g2x 0 (by omega))⟩⟩,by omega⟩
             rw[List.all_append,hia]
             exact cwi hr27
            ·rw[show ol.length+1=(ol++[r27]).length by simp] at hcx ⊢
             refine⟨(_,_,(ol++[r27]),some (capx,elx)),[(10,12)],?_,⟨rfl,rfl⟩,kp_,kp_⟩
             dsimp only
             rw[wrapi (n:=q-1) (by omega)]
             refine⟨⟨⟨by omega,by simp<;>omega⟩,?_,⟨by omega,by simp<;>omega⟩,⟨by first | exact hcx | (simp;omega),snoc_el ho.2 g1x (g2x 0 (by omega))⟩⟩,by omega⟩
             rw[List.all_append,hia]
             exact cwi hr27
           ·have hq0:¬ q>0:=of_decide_eq_false hqq
            exact⟨⟨4,5,6,8,9,10,0⟩,⟨cpz,cpc,0,cpv,cpi,cp⟩,⟨rg,zl,cs,ts,vl,il,ol,r1,r2,r3⟩,_,madeCfg_of rg r1 r2 r3 zl cs ts vl il ol ⟨hg1,hg2⟩ hzl hcl htl5 ⟨hv1,hvl3⟩ hza hca hta hvo hil hia hi3 ⟨by omega,by omega⟩ hr1 hr2 ⟨hr3.1,by omega⟩,rfl,⟨⟨_,_,_,rfl,rfl,hez.1,hez.2⟩,⟨_,_,_,rfl,rfl,hec.1,hec.2⟩,⟨_,_,_,rfl,rfl,hov.1,hov.2⟩,⟨_,_,_,rfl,rfl,hio.1,hio.2⟩,⟨_,_,_,rfl,rfl,ho.1,ho.2⟩⟩,.inr ⟨6,_,rfl,⟨_,_,_,rfl,rfl,hto.1,hto.2⟩⟩⟩
end Go.Proofs.YtchhdflealgkaaaGreat
