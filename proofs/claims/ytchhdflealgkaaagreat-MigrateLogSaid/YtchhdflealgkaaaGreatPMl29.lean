import Derived.Test.YtchhdflealgkaaaGreatPp26
import Derived.Test.YtchhdflealgkaaaGreatPp28
namespace Go.Proofs.YtchhdflealgkaaaGreat
open Go.RowKit
set_option linter.unusedSimpArgs false
set_option linter.unusedVariables false
/-! law31.MigrateLog -/
theorem argM_ok {c:Cfg} {m:Mig} (h1:0≤m.a∧m.a<c.tenants.length) (h2:0≤m.b∧m.b<c.cells.length) (h3:0≤m.d∧m.d<c.cells.length):argM c m=false:=by
 simp[argM]
 omega
theorem migE_of {c:Cfg} {s x:St} {m:Mig} {tick:Int} {e:Ent} (hA:argM c m=false) (ht:taskE c s m tick=some e) (hap:applyP c s e=(x,0)):migE c s m tick=(e,0):=by
 unfold migE
 rw[if_neg (by simp[hA]),ht]
 dsimp only
 rw[hap,if_pos rfl]
theorem PlanI.home {c:Cfg} {s:St} {i dst:Int} (h:PlanI c s i dst):0≤(tsAt s i).home∧(tsAt s i).home<c.cells.length:=by
 have hT:=h.inv.inv.ten _ (tsAt_mem h.ten.1 h.ten.2).2
 exact⟨hT.placed h.pl,hT.home.2⟩
theorem PlanI.argM {c:Cfg} {s:St} {i dst:Int} (h:PlanI c s i dst) (ep p:Int) (cl:Bool) (ea:Int):argM c ⟨i,(tsAt s i).home,dst,ep,p,cl,ea⟩=false:=
 argM_ok (by have:=h.ten;have:=h.inv.inv.lt;dsimp only;omega) h.home h.cel
theorem task_grant {c:Cfg} {s:St} {i dst tick:Int} (h:PlanI c s i dst) (hV:CfgV c) (ht:0≤tick∧tick≤1000000) (b ep:Int) (cl:Bool) (ea:Int):taskE c s ⟨i,b,dst,ep,5,cl,ea⟩ tick=some (eGrantP i dst ((tsAt s i).epoch+1) tick (tick+c.lease) (csAt s dst).running tick):=by
 have h1:=h.ep
 have h2:=hV.lease
 unfold taskE
 rw[if_neg (by dsimp only;omega),if_pos rfl]
 unfold eGrantM
 dsimp only
 rw[show s.tenants.getD i.toNat default=tsAt s i from rfl,show s.cells.getD dst.toNat default=csAt s dst from rfl,wrapi (n:=(tsAt s i).epoch+1) (by omega),wrapi (n:=tick+c.lease) (by omega)]
theorem task_drop {c:Cfg} {s:St} {i dst tick:Int} (b ep p:Int) (hp:p=7∨p=8) (cl:Bool) (ea:Int):taskE c s ⟨i,b,dst,ep,p,cl,ea⟩ tick=some (eDropP i tick):=by
 unfold taskE
 rw[if_neg (by dsimp only;omega),if_neg (by dsimp only;omega),if_pos (by dsimp only;omega)]
 rfl
theorem after_cut {tick:Int} (ht:0≤tick∧tick≤1000000):afterM 4 3 tick=5:=by
 simp[afterM,fenceM]
 omega
def FinI (s:St) (i dst home ep p:Int) (n:Nat):Prop:=s.tenants.length=n∧(tsAt s i).target=-1∧((p=6∧(tsAt s i).home=dst∧(tsAt s i).epoch=ep+1∧(tsAt s i).win.cell=dst)∨((p=9∨p=10)∧(tsAt s i).home=home∧(tsAt s i).epoch=ep))
structure PreI (c:Cfg) (s:St) (i dst home ep k p tk t0:Int):Prop where
 pl:PlanI c s i dst
 hk:0≤k∧k≤4
 hp:p=k+1
 ho:(tsAt s i).home=home
 he:(tsAt s i).epoch=ep
 cn:s.count≤45+k
 tick:s.tick≤tk∧tk=t0+k
 gr:k=4→(tsAt s i).win.till≤tk
def ttM31:TT:=[(82,{ size:=1,agg:=false,zero:=[.map none],mpk:=some .i64,mpe:=3 })]++tt
theorem ttM31ok:TTok Tryz.prog ttM31:=by
 refine tt_mem _ _ ?_
 unfold ttM31 tt
 repeat (refine tt_cons ⟨by kernel_rfl,by kernel_rfl,plains (by rfl),by kernel_rfl,by kernel_rfl,by kernel_rfl⟩ ?_)
 exact tt_nil
def mlF:FT:=[(18,ctAwake31),(8,ctLight),(10,ctConfig),(19,ctStateX),(23,ctModM),(20,ctBeginP),(31,ctApply),(24,ctInl tt [] [] Tryz.f24 (bodyOf Tryz.f24)),(29,ctStepP),(32,ctTaskP),(27,ctEnt migC),(33,ctInl tt [] [] Tryz.f33 (bodyOf Tryz.f33))]
def mlD:List (Nat×DQ):=[(9000000,{ k:=0,L:=[20,24,29,33] }),
 (9,{ k:=9,L:=[0,1,2,3,4,5,6,7,8,9,10,11,12,13,14,15,16,17,18,19,20,21,22,23,24,25,26,27,28,29,30,31,32,33,34,35,36,37,38,39,40,41,42,43,44,45,46,47,48,49,50,51,52,53,54,55,56,57,58,59,60],pre:=[(0,false),(1,false),(2,false),(3,false),(5,false),(6,false),(7,false),(8,false),(4,true)] }),
 (11,{ k:=24,L:=[0,1,2,3,4,5,6,7,8,9,10,11,12,13,14,15,16,17,18,19,20,21,22,23,24,25,26,27,28,29,30,31,32,33,34,35,36,37,38,39,40,41,42,43,44,45,46,47,48,49,50,51,52,53,54,55,56,57,58,59,60],pre:=[(0,false),(1,false),(2,false),(3,false),(4,false),(5,false),(6,false),(7,false),(8,false),(9,false),(10,false),(11,false),(12,false),(13,false),(14,false),(15,false),(16,false),(17,false),(18,false),(19,false),(20,false),(21,false),(22,false),(23,false)] }),(13,{ k:=13,L:=[0,1,2,3,4,5,6,7,8,9,10,11,12,13,14,15,16,17,18,19,20,21,22,23,24,25,26,27,28,29,30,31,32,33,34,35,36,37,38,39,40,41,42,43,44,45,46,47,48,49,50,51,52,53,54,55,56,57,58,59,60],pre:=[(0,false),(1,false),(2,false),(3,false),(4,false),(5,false),(6,false),(7,false),(8,false),(9,false),(10,false),(11,false),(12,false)] }),(27,{ k:=13,L:=[0,1,2,3,4,5,6,7,8,9,10,11,12,13,14,15,16,17,18,19,20,21,22,23,24,25,26,27,28,29,30,31,32,33,34,35,36,37,38,39,40,41,42,43,44,45,46,47,48,49,50,51,52,53,54,55,56,57,58,59,60],pre:=[(0,false),(1,false),(2,false),(3,false),(4,false),(5,false),(6,false),(7,false),(8,false),(9,false),(10,false),(11,false),(12,false)] }),
 (3000018,{ k:=42,L:=[0,1,2,3,4,5,6,7,8,9,10,11,12,13,14,15,16,17,18,19],sl:=[3,4,11,12,13,16,17,18] })]
theorem mlFok:FTokI Tryz.prog mlF (inlOf mlD):=fti_cons (awake31Ok.i _) (fti_cons (lightOk.i _) (fti_cons (configOk.i _) (fti_cons (stateXOk.i _) (fti_cons (modMOk.i _) (fti_cons (beginPOk (by decide)) (fti_cons (applyOk.i _) (fti_cons (inl_ok ttOk fti_nil mixed (by kernel_rfl) Tryz.func24 rfl (by kernel_rfl) (by decide)) (fti_cons (stepPOk (by decide)) (fti_cons (taskPOk.i _) (fti_cons (entPOk.i _) (fti_cons (inl_ok ttOk fti_nil mixed (by kernel_rfl) Tryz.func33 rfl (by kernel_rfl) (by decide)) fti_nil)))))))))))
set_option maxRecDepth 100000 in
set_option maxHeartbeats 16000000 in
theorem mlog_sx (cap0 cap1:Nat) (l more:List Int) (ten dst0 ab:Int) (hm0:l.length≤maxLen) (hm1:more.length≤maxLen) :
  sx ttM31 mlF mlD (bodyOf Tryz.f7) (argF 0 [slc 0 l.length cap0,slc 1 more.length cap1,.int .i64 ten,.int .i64 dst0,.int .i64 ab]) (uniM { l0:=l,l1:=more }) 13 (endx ttM31 Tryz.f7.results.toList fun v _ _=>v=.bool true):=by
 refine⟨rfl,?_⟩
 refine⟨fun q=>absurd q (by simp),fun _=>?_⟩
 refine⟨0,cap0,l,rfl,rfl,hm0,?_⟩
 refine⟨fun h=>?_,fun h0=>?_⟩
 ·refine⟨fun _=>?_,fun h=>nomatch h⟩
  rfl
 ·refine⟨1,cap1,more,rfl,rfl,hm1,?_⟩
  refine⟨fun _=>?_,fun h1=>?_⟩
  ·rfl
  ·have hl1:more.length≤200:=by simpa using h1
   refine⟨0,cap0,l,rfl,rfl,(by have q:l.length≤200:=(by simpa using h0);omega),?_⟩
   intro xk c hM
   have hV:=cfgV_of hM.valid
   have hnt:=hV.nt
   have hnc:=hV.nc
   have hls:=hV.lease
   refine⟨⟨18,17,16,15,14,13,500000⟩,xk,c,_,more,_,rfl,⟨HasCfg.keeps kp_,.inr (.inl ⟨1,_,rfl,⟨_,_,_,rfl,Nat.le_refl _,fun k hk=>rfl⟩⟩)⟩,⟨hV,by omega,by decide⟩,?_⟩
   rintro es s y ⟨hR,hX⟩ hen
   have hJ:=hR.rinv hV (.new hV)
   have hI:=hJ.inv
   have htn:=hI.lt
   have hcn:=hI.lc
   have hB:=hX.bnd hV (by decide)
   have hcnt:s.count≤40:=by have:=hR.count;rw[show (stNew c).count=0 from rfl] at this;omega
   clear hX hR hen h0 h1 hm0 hm1
   refine⟨fun _=>rfl,fun hne=>?_⟩
   have hne2:0<c.tenants.length:=by have q:(c.tenants.length:Int)≠0:=of_decide_eq_false hne;omega
   clear hne
   refine⟨_,_,rfl,⟨by omega,by omega⟩,fun i i0 i1=>?_⟩
   refine⟨kp_,?_⟩
   refine⟨_,_,rfl,⟨by omega,by omega⟩,fun dst dst0 dst1=>?_⟩
   refine⟨⟨18,17,16,15,14,13,500000⟩,xk,c,⟨21,20,500000⟩,y,s,(eMig i dst s.tick),rfl,kp_,⟨.list rfl,.list rfl⟩,hV,hI,?_⟩
   intro y3
   refine⟨fun hz=>?_,fun hz=>?_⟩
   ·refine⟨fun _=>?_,fun q=>absurd (hz.symm.trans q) (by decide)⟩
    repeat (first | refine⟨fun _=>?_,fun h=>Bool.noConfusion h⟩ | refine⟨fun h=>Bool.noConfusion h,fun _=>?_⟩ | fail)
    rfl
   ·have hz2:(applyP c s (eMig i dst s.tick)).2=0:=by simpa using hz
    obtain⟨s1,hap⟩:∃ s1,applyP c s (eMig i dst s.tick)=(s1,0):=⟨_,Prod.ext rfl hz2⟩
    repeat (first | refine⟨fun _=>?_,fun h=>Bool.noConfusion h⟩ | refine⟨fun h=>Bool.noConfusion h,fun _=>?_⟩ | fail)
    refine⟨⟨Nat.le_refl _,i0,by rw[htn];exact i1⟩,?_⟩
    refine⟨fun he=>?_,fun he=>?_⟩
    ·repeat (first | refine⟨fun _=>?_,fun h=>Bool.noConfusion h⟩ | refine⟨fun h=>Bool.noConfusion h,fun _=>?_⟩ | fail)
     rfl
    ·have he0:(tsAt s i).epoch≠0:=of_decide_eq_false he
     refine⟨⟨Nat.le_refl _,dst0,by rw[hcn];exact dst1⟩,?_⟩
     refine⟨⟨Nat.le_refl _,dst0,by rw[hcn];exact dst1⟩,?_⟩
     refine⟨fun hr=>?_,fun hr=>?_⟩
     ·rfl
     ·have hrn:(csAt s dst).running=(csAt s dst).wanted:=by have q:((csAt s dst).running != (csAt s dst).wanted)=false:=hr;simpa using q
      refine⟨⟨Nat.le_refl _,i0,by rw[htn];exact i1⟩,?_⟩
      refine⟨⟨Nat.le_refl _,i0,by rw[htn];exact i1⟩,?_⟩
      refine⟨⟨18,17,16,15,14,13,500000⟩,xk,c,⟨21,20,500000⟩,y,s,(eMig i dst s.tick),rfl,kp_,kp_,hV,hI,?_⟩
      intro y4
      rw[hap]
      have hbt:=hB.tick
      have hit:=hI.tick
      obtain⟨hPl,hPh,hPe,hPt⟩:=plan_begin (i:=i) (dst:=dst) hV hJ hB (by omega) (by omega) (by omega) hap he0 hrn
      have hs1c:s1.count≤45:=by
       obtain⟨-,q,-⟩:=applyP_ok hap
       rw[q,effOf_count]
       omega
      have hi:i<c.tenants.length:=i1
      refine⟨Int×Int×Bool×Int×Int×St×StK,fun q=>match q with | (k,p,cl,ea,tk,s2,y2)=>[(20,.int .i64 k),(19,.int .i64 tk),(15,.int .i64 0)],fun q=>match q with | (k,p,cl,ea,tk,s2,y2)=>[(39,migB i (tsAt s i).home dst (tsAt s i).epoch p cl ea),(22,.box 53 [.int .i64 s2.tick,.int .i64 s2.count,slc 41 s2.tenants.length y2.ct,slc 40 s2.cells.length y2.cc,.int .i64 s2.proven,.int .i64 s2.evac,.int .i64 s2.low,.int .i64 s2.high]),(41,rowOfL 500000 12 tsC default s2.tenants),(40,rowOfL 500000 4 csC default s2.cells)],fun q=>match q with | (k,p,cl,ea,tk,s2,y2)=>0≤k∧(PreI c s2 i dst (tsAt s i).home (tsAt s i).epoch k p tk s.tick∨FinI s2 i dst (tsAt s i).home (tsAt s i).epoch p c.tenants.length),fun q=>match q with | (k,p,cl,ea,tk,s2,y2)=>(13+3 * c.lease-k).toNat,⟨(0,1,false,0,s1.tick,s1,y4),[(41,38),(40,37)],⟨by omega,.inl ⟨hPl,by omega,rfl,hPh,hPe,by omega,by omega,fun h=>absurd h (by decide)⟩⟩,⟨rfl,rfl⟩,kp_,kp_⟩,?_⟩
      clear hPl hPh hPe hPt hs1c hap y4 y3 hz hz2 s1
      rintro⟨k,p,cl,ea,tk,s2,y2⟩ ⟨hk0,hinv⟩
      refine⟨⟨by decide,rfl,rfl⟩,?_⟩
      have w1:=wrapi (n:=3 * c.lease) (by omega)
      have w2:=wrapi (n:=12+3 * c.lease) (by omega)
      refine⟨fun hlt=>?_,fun hge=>?_⟩
      ·have hlt2:k<12+3 * c.lease:=by
        have q:=of_decide_eq_true hlt
        rw[w1,w2] at q
        exact q
       clear hlt
       rcases hinv with hp | hp
       ·obtain⟨hPl,hk1,hpk,ho,he,cn,htk,hgr⟩:=hp
        have hlen:s2.tenants.length=c.tenants.length:=hPl.inv.inv.lt
        rcases (show k=0∨k=1∨k=2∨k=3∨k=4 by omega) with rfl | rfl | rfl | rfl | rfl
        ·obtain rfl:p=1:=by omega
         repeat (first | refine⟨fun _=>?_,fun h=>Bool.noConfusion h⟩ | refine⟨fun h=>Bool.noConfusion h,fun _=>?_⟩ | fail)
         refine⟨_,_,rfl,⟨by decide,by decide⟩,fun r r0 r1=>?_⟩
         refine⟨fun _=>?_,fun _=>?_⟩
         ·refine⟨39,5,0,1,_,_,rfl,rfl,rfl,?_⟩
          rw[show afterM 1 5 0=7 from by first | rfl | exact after_cut ⟨by omega,by omega⟩ | simp[afterM,fenceM]]
          repeat (first | refine⟨fun _=>?_,fun h=>Bool.noConfusion h⟩ | refine⟨fun h=>Bool.noConfusion h,fun _=>?_⟩ | fail)
          refine⟨39,7,_,_,rfl,rfl,rfl,?_⟩
          rw[show taskM 7=5 from rfl]
          repeat (first | refine⟨fun _=>?_,fun h=>Bool.noConfusion h⟩ | refine⟨fun h=>Bool.noConfusion h,fun _=>?_⟩ | fail)
          obtain⟨x,hax,hxR,hxl,hxh,hxe,hxg⟩:=plan_drop hV hPl (tick:=tk) (by omega) ⟨by omega,by omega⟩
          have hME:=migE_of (m:=⟨i,(tsAt s i).home,dst,(tsAt s i).epoch,7,cl,ea⟩) (tick:=tk) (by have:=hPl.argM (tsAt s i).epoch 7 cl ea;rwa[ho] at this) (task_drop _ _ _ (.inl rfl) _ _) hax
          refine⟨39,_,⟨i,(tsAt s i).home,dst,(tsAt s i).epoch,7,cl,ea⟩,⟨18,17,16,15,14,13,500000⟩,xk,c,⟨41,40,500000⟩,y2,s2,tk,rfl,⟨rfl,kp_,.list rfl,.list rfl⟩,⟨hV,hPl.inv.inv,hPl.inv.cap⟩,?_⟩
          rw[hME]
          repeat (first | refine⟨fun _=>?_,fun h=>Bool.noConfusion h⟩ | refine⟨fun h=>Bool.noConfusion h,fun _=>?_⟩ | fail)
          refine⟨⟨Nat.le_refl _,i0,hPl.ten.2⟩,?_⟩
          refine⟨⟨18,17,16,15,14,13,500000⟩,xk,c,⟨41,40,500000⟩,y2,s2,(eDropP i tk),rfl,kp_,kp_,hV,hPl.inv.inv,?_⟩
          intro y5
          rw[hax]
          repeat (first | refine⟨fun _=>?_,fun h=>Bool.noConfusion h⟩ | refine⟨fun h=>Bool.noConfusion h,fun _=>?_⟩ | fail)
          refine⟨_,fun z=>rfl,?_⟩
          refine⟨_,fun z=>rfl,?_⟩
          refine⟨_,fun z=>rfl,?_⟩
          refine⟨fun l hl=>?_,fun hl=>nomatch (show some [Value.int .i64 6]=(none:Option (List Value)) from hl)⟩
          have hl2:some [Value.int .i64 6]=some l:=hl
          obtain rfl:=Option.some.inj hl2
          repeat (first | refine⟨fun _=>?_,fun h=>Bool.noConfusion h⟩ | refine⟨fun h=>Bool.noConfusion h,fun _=>?_⟩ | fail)
          refine⟨39,6,tk,7,_,_,rfl,rfl,rfl,?_⟩
          rw[show afterM 7 6 tk=10 from by first | rfl | exact after_cut ⟨by omega,by omega⟩ | simp[afterM,fenceM]]
          repeat (first | refine⟨fun _=>?_,fun h=>Bool.noConfusion h⟩ | refine⟨fun h=>Bool.noConfusion h,fun _=>?_⟩ | fail)
          refine⟨(IntKind.i64.wrap (0+1),10,cl,ea,IntKind.i64.wrap (tk+1),x,y5),[(41,45),(40,44)],?_,⟨rfl,rfl⟩,kp_,kp_⟩
          dsimp only
          rw[wrapi (n:=0+1) (by omega),wrapi (n:=tk+1) (by omega)]
          exact⟨⟨by omega,.inr ⟨by rw[hxl];exact hlen,hxg,.inr ⟨by decide,by rw[hxh,ho],by rw[hxe,he]⟩⟩⟩,by omega⟩
         ·refine⟨39,1,_,_,rfl,rfl,rfl,?_⟩
          rw[show taskM 1=1 from rfl]
          repeat (first | refine⟨fun _=>?_,fun h=>Bool.noConfusion h⟩ | refine⟨fun h=>Bool.noConfusion h,fun _=>?_⟩ | fail)
          refine⟨39,1,0,1,_,_,rfl,rfl,rfl,?_⟩
          rw[show afterM 1 1 0=2 from by first | rfl | exact after_cut ⟨by omega,by omega⟩ | simp[afterM,fenceM]]
          repeat (first | refine⟨fun _=>?_,fun h=>Bool.noConfusion h⟩ | refine⟨fun h=>Bool.noConfusion h,fun _=>?_⟩ | fail)
          refine⟨(IntKind.i64.wrap (0+1),2,cl,ea,IntKind.i64.wrap (tk+1),s2,y2),[],?_,⟨rfl,rfl⟩,kp_,kp_⟩
          dsimp only
          rw[wrapi (n:=0+1) (by omega),wrapi (n:=tk+1) (by omega)]
          exact⟨⟨by omega,.inl ⟨hPl,by omega,rfl,ho,he,by omega,⟨by omega,by omega⟩,fun h=>absurd h (by decide)⟩⟩,by omega⟩
        ·obtain rfl:p=2:=by omega
         repeat (first | refine⟨fun _=>?_,fun h=>Bool.noConfusion h⟩ | refine⟨fun h=>Bool.noConfusion h,fun _=>?_⟩ | fail)
         refine⟨_,_,rfl,⟨by decide,by decide⟩,fun r r0 r1=>?_⟩
         refine⟨fun _=>?_,fun _=>?_⟩
         ·refine⟨39,5,0,2,_,_,rfl,rfl,rfl,?_⟩
          rw[show afterM 2 5 0=7 from by first | rfl | exact after_cut ⟨by omega,by omega⟩ | simp[afterM,fenceM]]
          repeat (first | refine⟨fun _=>?_,fun h=>Bool.noConfusion h⟩ | refine⟨fun h=>Bool.noConfusion h,fun _=>?_⟩ | fail)
          refine⟨39,7,_,_,rfl,rfl,rfl,?_⟩
          rw[show taskM 7=5 from rfl]
          repeat (first | refine⟨fun _=>?_,fun h=>Bool.noConfusion h⟩ | refine⟨fun h=>Bool.noConfusion h,fun _=>?_⟩ | fail)
          obtain⟨x,hax,hxR,hxl,hxh,hxe,hxg⟩:=plan_drop hV hPl (tick:=tk) (by omega) ⟨by omega,by omega⟩
          have hME:=migE_of (m:=⟨i,(tsAt s i).home,dst,(tsAt s i).epoch,7,cl,ea⟩) (tick:=tk) (by have:=hPl.argM (tsAt s i).epoch 7 cl ea;rwa[ho] at this) (task_drop _ _ _ (.inl rfl) _ _) hax
          refine⟨39,_,⟨i,(tsAt s i).home,dst,(tsAt s i).epoch,7,cl,ea⟩,⟨18,17,16,15,14,13,500000⟩,xk,c,⟨41,40,500000⟩,y2,s2,tk,rfl,⟨rfl,kp_,.list rfl,.list rfl⟩,⟨hV,hPl.inv.inv,hPl.inv.cap⟩,?_⟩
          rw[hME]
          repeat (first | refine⟨fun _=>?_,fun h=>Bool.noConfusion h⟩ | refine⟨fun h=>Bool.noConfusion h,fun _=>?_⟩ | fail)
          refine⟨⟨Nat.le_refl _,i0,hPl.ten.2⟩,?_⟩
          refine⟨⟨18,17,16,15,14,13,500000⟩,xk,c,⟨41,40,500000⟩,y2,s2,(eDropP i tk),rfl,kp_,kp_,hV,hPl.inv.inv,?_⟩
          intro y5
          rw[hax]
          repeat (first | refine⟨fun _=>?_,fun h=>Bool.noConfusion h⟩ | refine⟨fun h=>Bool.noConfusion h,fun _=>?_⟩ | fail)
          refine⟨_,fun z=>rfl,?_⟩
          refine⟨_,fun z=>rfl,?_⟩
          refine⟨_,fun z=>rfl,?_⟩
          refine⟨fun l hl=>?_,fun hl=>nomatch (show some [Value.int .i64 6]=(none:Option (List Value)) from hl)⟩
          have hl2:some [Value.int .i64 6]=some l:=hl
          obtain rfl:=Option.some.inj hl2
          repeat (first | refine⟨fun _=>?_,fun h=>Bool.noConfusion h⟩ | refine⟨fun h=>Bool.noConfusion h,fun _=>?_⟩ | fail)
          refine⟨39,6,tk,7,_,_,rfl,rfl,rfl,?_⟩
          rw[show afterM 7 6 tk=10 from by first | rfl | exact after_cut ⟨by omega,by omega⟩ | simp[afterM,fenceM]]
          repeat (first | refine⟨fun _=>?_,fun h=>Bool.noConfusion h⟩ | refine⟨fun h=>Bool.noConfusion h,fun _=>?_⟩ | fail)
          refine⟨(IntKind.i64.wrap (1+1),10,cl,ea,IntKind.i64.wrap (tk+1),x,y5),[(41,45),(40,44)],?_,⟨rfl,rfl⟩,kp_,kp_⟩
          dsimp only
          rw[wrapi (n:=1+1) (by omega),wrapi (n:=tk+1) (by omega)]
          exact⟨⟨by omega,.inr ⟨by rw[hxl];exact hlen,hxg,.inr ⟨by decide,by rw[hxh,ho],by rw[hxe,he]⟩⟩⟩,by omega⟩
         ·refine⟨39,2,_,_,rfl,rfl,rfl,?_⟩
          rw[show taskM 2=2 from rfl]
          repeat (first | refine⟨fun _=>?_,fun h=>Bool.noConfusion h⟩ | refine⟨fun h=>Bool.noConfusion h,fun _=>?_⟩ | fail)
          refine⟨39,2,0,2,_,_,rfl,rfl,rfl,?_⟩
          rw[show afterM 2 2 0=3 from by first | rfl | exact after_cut ⟨by omega,by omega⟩ | simp[afterM,fenceM]]
          repeat (first | refine⟨fun _=>?_,fun h=>Bool.noConfusion h⟩ | refine⟨fun h=>Bool.noConfusion h,fun _=>?_⟩ | fail)
          refine⟨(IntKind.i64.wrap (1+1),3,true,ea,IntKind.i64.wrap (tk+1),s2,y2),[],?_,⟨rfl,rfl⟩,kp_,kp_⟩
          dsimp only
          rw[wrapi (n:=1+1) (by omega),wrapi (n:=tk+1) (by omega)]
          exact⟨⟨by omega,.inl ⟨hPl,by omega,rfl,ho,he,by omega,⟨by omega,by omega⟩,fun h=>absurd h (by decide)⟩⟩,by omega⟩
        ·obtain rfl:p=3:=by omega
         repeat (first | refine⟨fun _=>?_,fun h=>Bool.noConfusion h⟩ | refine⟨fun h=>Bool.noConfusion h,fun _=>?_⟩ | fail)
         refine⟨_,_,rfl,⟨by decide,by decide⟩,fun r r0 r1=>?_⟩
         refine⟨fun _=>?_,fun _=>?_⟩
         ·refine⟨39,5,0,3,_,_,rfl,rfl,rfl,?_⟩
          rw[show afterM 3 5 0=8 from by first | rfl | exact after_cut ⟨by omega,by omega⟩ | simp[afterM,fenceM]]
          repeat (first | refine⟨fun _=>?_,fun h=>Bool.noConfusion h⟩ | refine⟨fun h=>Bool.noConfusion h,fun _=>?_⟩ | fail)
          refine⟨39,8,_,_,rfl,rfl,rfl,?_⟩
          rw[show taskM 8=5 from rfl]
          repeat (first | refine⟨fun _=>?_,fun h=>Bool.noConfusion h⟩ | refine⟨fun h=>Bool.noConfusion h,fun _=>?_⟩ | fail)
          obtain⟨x,hax,hxR,hxl,hxh,hxe,hxg⟩:=plan_drop hV hPl (tick:=tk) (by omega) ⟨by omega,by omega⟩
          have hME:=migE_of (m:=⟨i,(tsAt s i).home,dst,(tsAt s i).epoch,8,cl,ea⟩) (tick:=tk) (by have:=hPl.argM (tsAt s i).epoch 8 cl ea;rwa[ho] at this) (task_drop _ _ _ (.inr rfl) _ _) hax
          refine⟨39,_,⟨i,(tsAt s i).home,dst,(tsAt s i).epoch,8,cl,ea⟩,⟨18,17,16,15,14,13,500000⟩,xk,c,⟨41,40,500000⟩,y2,s2,tk,rfl,⟨rfl,kp_,.list rfl,.list rfl⟩,⟨hV,hPl.inv.inv,hPl.inv.cap⟩,?_⟩
          rw[hME]
          repeat (first | refine⟨fun _=>?_,fun h=>Bool.noConfusion h⟩ | refine⟨fun h=>Bool.noConfusion h,fun _=>?_⟩ | fail)
          refine⟨⟨Nat.le_refl _,i0,hPl.ten.2⟩,?_⟩
          refine⟨⟨18,17,16,15,14,13,500000⟩,xk,c,⟨41,40,500000⟩,y2,s2,(eDropP i tk),rfl,kp_,kp_,hV,hPl.inv.inv,?_⟩
          intro y5
          rw[hax]
          repeat (first | refine⟨fun _=>?_,fun h=>Bool.noConfusion h⟩ | refine⟨fun h=>Bool.noConfusion h,fun _=>?_⟩ | fail)
          refine⟨_,fun z=>rfl,?_⟩
          refine⟨_,fun z=>rfl,?_⟩
          refine⟨_,fun z=>rfl,?_⟩
          refine⟨fun l hl=>?_,fun hl=>nomatch (show some [Value.int .i64 6]=(none:Option (List Value)) from hl)⟩
          have hl2:some [Value.int .i64 6]=some l:=hl
          obtain rfl:=Option.some.inj hl2
          repeat (first | refine⟨fun _=>?_,fun h=>Bool.noConfusion h⟩ | refine⟨fun h=>Bool.noConfusion h,fun _=>?_⟩ | fail)
          refine⟨39,6,tk,8,_,_,rfl,rfl,rfl,?_⟩
          rw[show afterM 8 6 tk=9 from by first | rfl | exact after_cut ⟨by omega,by omega⟩ | simp[afterM,fenceM]]
          repeat (first | refine⟨fun _=>?_,fun h=>Bool.noConfusion h⟩ | refine⟨fun h=>Bool.noConfusion h,fun _=>?_⟩ | fail)
          refine⟨(IntKind.i64.wrap (2+1),9,cl,ea,IntKind.i64.wrap (tk+1),x,y5),[(41,45),(40,44)],?_,⟨rfl,rfl⟩,kp_,kp_⟩
          dsimp only
          rw[wrapi (n:=2+1) (by omega),wrapi (n:=tk+1) (by omega)]
          exact⟨⟨by omega,.inr ⟨by rw[hxl];exact hlen,hxg,.inr ⟨by decide,by rw[hxh,ho],by rw[hxe,he]⟩⟩⟩,by omega⟩
         ·refine⟨39,3,_,_,rfl,rfl,rfl,?_⟩
          rw[show taskM 3=1 from rfl]
          repeat (first | refine⟨fun _=>?_,fun h=>Bool.noConfusion h⟩ | refine⟨fun h=>Bool.noConfusion h,fun _=>?_⟩ | fail)
          refine⟨39,1,0,3,_,_,rfl,rfl,rfl,?_⟩
          rw[show afterM 3 1 0=4 from by first | rfl | exact after_cut ⟨by omega,by omega⟩ | simp[afterM,fenceM]]
          repeat (first | refine⟨fun _=>?_,fun h=>Bool.noConfusion h⟩ | refine⟨fun h=>Bool.noConfusion h,fun _=>?_⟩ | fail)
          refine⟨(IntKind.i64.wrap (2+1),4,cl,ea,IntKind.i64.wrap (tk+1),s2,y2),[],?_,⟨rfl,rfl⟩,kp_,kp_⟩
          dsimp only
          rw[wrapi (n:=2+1) (by omega),wrapi (n:=tk+1) (by omega)]
          exact⟨⟨by omega,.inl ⟨hPl,by omega,rfl,ho,he,by omega,⟨by omega,by omega⟩,fun h=>absurd h (by decide)⟩⟩,by omega⟩
        ·obtain rfl:p=4:=by omega
         repeat (first | refine⟨fun _=>?_,fun h=>Bool.noConfusion h⟩ | refine⟨fun h=>Bool.noConfusion h,fun _=>?_⟩ | fail)
         refine⟨_,_,rfl,⟨by decide,by decide⟩,fun r r0 r1=>?_⟩
         refine⟨fun _=>?_,fun _=>?_⟩
         ·refine⟨39,5,0,4,_,_,rfl,rfl,rfl,?_⟩
          rw[show afterM 4 5 0=8 from by first | rfl | exact after_cut ⟨by omega,by omega⟩ | simp[afterM,fenceM]]
          repeat (first | refine⟨fun _=>?_,fun h=>Bool.noConfusion h⟩ | refine⟨fun h=>Bool.noConfusion h,fun _=>?_⟩ | fail)
          refine⟨39,8,_,_,rfl,rfl,rfl,?_⟩
          rw[show taskM 8=5 from rfl]
          repeat (first | refine⟨fun _=>?_,fun h=>Bool.noConfusion h⟩ | refine⟨fun h=>Bool.noConfusion h,fun _=>?_⟩ | fail)
          obtain⟨x,hax,hxR,hxl,hxh,hxe,hxg⟩:=plan_drop hV hPl (tick:=tk) (by omega) ⟨by omega,by omega⟩
          have hME:=migE_of (m:=⟨i,(tsAt s i).home,dst,(tsAt s i).epoch,8,cl,ea⟩) (tick:=tk) (by have:=hPl.argM (tsAt s i).epoch 8 cl ea;rwa[ho] at this) (task_drop _ _ _ (.inr rfl) _ _) hax
          refine⟨39,_,⟨i,(tsAt s i).home,dst,(tsAt s i).epoch,8,cl,ea⟩,⟨18,17,16,15,14,13,500000⟩,xk,c,⟨41,40,500000⟩,y2,s2,tk,rfl,⟨rfl,kp_,.list rfl,.list rfl⟩,⟨hV,hPl.inv.inv,hPl.inv.cap⟩,?_⟩
          rw[hME]
          repeat (first | refine⟨fun _=>?_,fun h=>Bool.noConfusion h⟩ | refine⟨fun h=>Bool.noConfusion h,fun _=>?_⟩ | fail)
          refine⟨⟨Nat.le_refl _,i0,hPl.ten.2⟩,?_⟩
          refine⟨⟨18,17,16,15,14,13,500000⟩,xk,c,⟨41,40,500000⟩,y2,s2,(eDropP i tk),rfl,kp_,kp_,hV,hPl.inv.inv,?_⟩
          intro y5
          rw[hax]
          repeat (first | refine⟨fun _=>?_,fun h=>Bool.noConfusion h⟩ | refine⟨fun h=>Bool.noConfusion h,fun _=>?_⟩ | fail)
          refine⟨_,fun z=>rfl,?_⟩
          refine⟨_,fun z=>rfl,?_⟩
          refine⟨_,fun z=>rfl,?_⟩
          refine⟨fun l hl=>?_,fun hl=>nomatch (show some [Value.int .i64 6]=(none:Option (List Value)) from hl)⟩
          have hl2:some [Value.int .i64 6]=some l:=hl
          obtain rfl:=Option.some.inj hl2
          repeat (first | refine⟨fun _=>?_,fun h=>Bool.noConfusion h⟩ | refine⟨fun h=>Bool.noConfusion h,fun _=>?_⟩ | fail)
          refine⟨39,6,tk,8,_,_,rfl,rfl,rfl,?_⟩
          rw[show afterM 8 6 tk=9 from by first | rfl | exact after_cut ⟨by omega,by omega⟩ | simp[afterM,fenceM]]
          repeat (first | refine⟨fun _=>?_,fun h=>Bool.noConfusion h⟩ | refine⟨fun h=>Bool.noConfusion h,fun _=>?_⟩ | fail)
          refine⟨(IntKind.i64.wrap (3+1),9,cl,ea,IntKind.i64.wrap (tk+1),x,y5),[(41,45),(40,44)],?_,⟨rfl,rfl⟩,kp_,kp_⟩
          dsimp only
          rw[wrapi (n:=3+1) (by omega),wrapi (n:=tk+1) (by omega)]
          exact⟨⟨by omega,.inr ⟨by rw[hxl];exact hlen,hxg,.inr ⟨by decide,by rw[hxh,ho],by rw[hxe,he]⟩⟩⟩,by omega⟩
         ·refine⟨39,4,_,_,rfl,rfl,rfl,?_⟩
          rw[show taskM 4=3 from rfl]
          repeat (first | refine⟨fun _=>?_,fun h=>Bool.noConfusion h⟩ | refine⟨fun h=>Bool.noConfusion h,fun _=>?_⟩ | fail)
          obtain⟨x,hax,hPx,hxh,hxe,hxt,hxc,hxw⟩:=plan_cut hV hPl (tick:=tk) (by omega) ⟨by omega,by omega⟩
          rw[he] at hax
          have hME:=migE_of (m:=⟨i,(tsAt s i).home,dst,(tsAt s i).epoch,4,cl,ea⟩) (tick:=tk) (by have:=hPl.argM (tsAt s i).epoch 4 cl ea;rwa[ho] at this) rfl hax
          refine⟨39,_,⟨i,(tsAt s i).home,dst,(tsAt s i).epoch,4,cl,ea⟩,⟨18,17,16,15,14,13,500000⟩,xk,c,⟨41,40,500000⟩,y2,s2,tk,rfl,⟨rfl,kp_,.list rfl,.list rfl⟩,⟨hV,hPl.inv.inv,hPl.inv.cap⟩,?_⟩
          rw[hME]
          repeat (first | refine⟨fun _=>?_,fun h=>Bool.noConfusion h⟩ | refine⟨fun h=>Bool.noConfusion h,fun _=>?_⟩ | fail)
          refine⟨⟨Nat.le_refl _,i0,hPl.ten.2⟩,?_⟩
          refine⟨⟨18,17,16,15,14,13,500000⟩,xk,c,⟨41,40,500000⟩,y2,s2,(eCutP i (tsAt s i).epoch tk),rfl,kp_,kp_,hV,hPl.inv.inv,?_⟩
          intro y5
          rw[hax]
          repeat (first | refine⟨fun _=>?_,fun h=>Bool.noConfusion h⟩ | refine⟨fun h=>Bool.noConfusion h,fun _=>?_⟩ | fail)
          refine⟨_,fun z=>rfl,?_⟩
          refine⟨_,fun z=>rfl,?_⟩
          refine⟨_,fun z=>rfl,?_⟩
          refine⟨fun l hl=>?_,fun hl=>nomatch (show some [Value.int .i64 3]=(none:Option (List Value)) from hl)⟩
          have hl2:some [Value.int .i64 3]=some l:=hl
          obtain rfl:=Option.some.inj hl2
          repeat (first | refine⟨fun _=>?_,fun h=>Bool.noConfusion h⟩ | refine⟨fun h=>Bool.noConfusion h,fun _=>?_⟩ | fail)
          refine⟨39,3,tk,4,_,_,rfl,rfl,rfl,?_⟩
          rw[show afterM 4 3 tk=5 from by first | rfl | exact after_cut ⟨by omega,by omega⟩ | simp[afterM,fenceM]]
          repeat (first | refine⟨fun _=>?_,fun h=>Bool.noConfusion h⟩ | refine⟨fun h=>Bool.noConfusion h,fun _=>?_⟩ | fail)
          refine⟨(IntKind.i64.wrap (3+1),5,cl,(IntKind.i64.wrap (tk+1)),IntKind.i64.wrap (tk+1),x,y5),[(41,45),(40,44)],?_,⟨rfl,rfl⟩,kp_,kp_⟩
          dsimp only
          rw[wrapi (n:=3+1) (by omega),wrapi (n:=tk+1) (by omega)]
          exact⟨⟨by omega,.inl ⟨hPx,by omega,rfl,by rw[hxh,ho],by rw[hxe,he],by omega,⟨by omega,by omega⟩,fun _=>hxw⟩⟩,by omega⟩
        ·obtain rfl:p=5:=by omega
         repeat (first | refine⟨fun _=>?_,fun h=>Bool.noConfusion h⟩ | refine⟨fun h=>Bool.noConfusion h,fun _=>?_⟩ | fail)
         refine⟨_,_,rfl,⟨by decide,by decide⟩,fun r r0 r1=>?_⟩
         refine⟨fun _=>?_,fun _=>?_⟩
         ·refine⟨39,5,0,5,_,_,rfl,rfl,rfl,?_⟩
          rw[show afterM 5 5 0=8 from by first | rfl | exact after_cut ⟨by omega,by omega⟩ | simp[afterM,fenceM]]
          repeat (first | refine⟨fun _=>?_,fun h=>Bool.noConfusion h⟩ | refine⟨fun h=>Bool.noConfusion h,fun _=>?_⟩ | fail)
          refine⟨39,8,_,_,rfl,rfl,rfl,?_⟩
          rw[show taskM 8=5 from rfl]
          repeat (first | refine⟨fun _=>?_,fun h=>Bool.noConfusion h⟩ | refine⟨fun h=>Bool.noConfusion h,fun _=>?_⟩ | fail)
          obtain⟨x,hax,hxR,hxl,hxh,hxe,hxg⟩:=plan_drop hV hPl (tick:=tk) (by omega) ⟨by omega,by omega⟩
          have hME:=migE_of (m:=⟨i,(tsAt s i).home,dst,(tsAt s i).epoch,8,cl,ea⟩) (tick:=tk) (by have:=hPl.argM (tsAt s i).epoch 8 cl ea;rwa[ho] at this) (task_drop _ _ _ (.inr rfl) _ _) hax
          refine⟨39,_,⟨i,(tsAt s i).home,dst,(tsAt s i).epoch,8,cl,ea⟩,⟨18,17,16,15,14,13,500000⟩,xk,c,⟨41,40,500000⟩,y2,s2,tk,rfl,⟨rfl,kp_,.list rfl,.list rfl⟩,⟨hV,hPl.inv.inv,hPl.inv.cap⟩,?_⟩
          rw[hME]
          repeat (first | refine⟨fun _=>?_,fun h=>Bool.noConfusion h⟩ | refine⟨fun h=>Bool.noConfusion h,fun _=>?_⟩ | fail)
          refine⟨⟨Nat.le_refl _,i0,hPl.ten.2⟩,?_⟩
          refine⟨⟨18,17,16,15,14,13,500000⟩,xk,c,⟨41,40,500000⟩,y2,s2,(eDropP i tk),rfl,kp_,kp_,hV,hPl.inv.inv,?_⟩
          intro y5
          rw[hax]
          repeat (first | refine⟨fun _=>?_,fun h=>Bool.noConfusion h⟩ | refine⟨fun h=>Bool.noConfusion h,fun _=>?_⟩ | fail)
          refine⟨_,fun z=>rfl,?_⟩
          refine⟨_,fun z=>rfl,?_⟩
          refine⟨_,fun z=>rfl,?_⟩
          refine⟨fun l hl=>?_,fun hl=>nomatch (show some [Value.int .i64 6]=(none:Option (List Value)) from hl)⟩
          have hl2:some [Value.int .i64 6]=some l:=hl
          obtain rfl:=Option.some.inj hl2
          repeat (first | refine⟨fun _=>?_,fun h=>Bool.noConfusion h⟩ | refine⟨fun h=>Bool.noConfusion h,fun _=>?_⟩ | fail)
          refine⟨39,6,tk,8,_,_,rfl,rfl,rfl,?_⟩
          rw[show afterM 8 6 tk=9 from by first | rfl | exact after_cut ⟨by omega,by omega⟩ | simp[afterM,fenceM]]
          repeat (first | refine⟨fun _=>?_,fun h=>Bool.noConfusion h⟩ | refine⟨fun h=>Bool.noConfusion h,fun _=>?_⟩ | fail)
          refine⟨(IntKind.i64.wrap (4+1),9,cl,ea,IntKind.i64.wrap (tk+1),x,y5),[(41,45),(40,44)],?_,⟨rfl,rfl⟩,kp_,kp_⟩
          dsimp only
          rw[wrapi (n:=4+1) (by omega),wrapi (n:=tk+1) (by omega)]
          exact⟨⟨by omega,.inr ⟨by rw[hxl];exact hlen,hxg,.inr ⟨by decide,by rw[hxh,ho],by rw[hxe,he]⟩⟩⟩,by omega⟩
         ·refine⟨39,5,_,_,rfl,rfl,rfl,?_⟩
          rw[show taskM 5=4 from rfl]
          repeat (first | refine⟨fun _=>?_,fun h=>Bool.noConfusion h⟩ | refine⟨fun h=>Bool.noConfusion h,fun _=>?_⟩ | fail)
          obtain⟨x,hax,hxR,hxl,hxh,hxe,hxg,hxw,hxs⟩:=plan_grant hV hPl (tick:=tk) (by omega) ⟨by omega,by omega⟩ (hgr rfl)
          have hME:=migE_of (m:=⟨i,(tsAt s i).home,dst,(tsAt s i).epoch,5,cl,ea⟩) (tick:=tk) (by have:=hPl.argM (tsAt s i).epoch 5 cl ea;rwa[ho] at this) (by rw[task_grant hPl hV ⟨by omega,by omega⟩]) hax
          refine⟨39,_,⟨i,(tsAt s i).home,dst,(tsAt s i).epoch,5,cl,ea⟩,⟨18,17,16,15,14,13,500000⟩,xk,c,⟨41,40,500000⟩,y2,s2,tk,rfl,⟨rfl,kp_,.list rfl,.list rfl⟩,⟨hV,hPl.inv.inv,hPl.inv.cap⟩,?_⟩
          rw[hME]
          repeat (first | refine⟨fun _=>?_,fun h=>Bool.noConfusion h⟩ | refine⟨fun h=>Bool.noConfusion h,fun _=>?_⟩ | fail)
          refine⟨⟨Nat.le_refl _,i0,hPl.ten.2⟩,?_⟩
          refine⟨⟨18,17,16,15,14,13,500000⟩,xk,c,⟨41,40,500000⟩,y2,s2,(eGrantP i dst ((tsAt s2 i).epoch+1) tk (tk+c.lease) (csAt s2 dst).running tk),rfl,kp_,kp_,hV,hPl.inv.inv,?_⟩
          intro y5
          rw[hax]
          repeat (first | refine⟨fun _=>?_,fun h=>Bool.noConfusion h⟩ | refine⟨fun h=>Bool.noConfusion h,fun _=>?_⟩ | fail)
          refine⟨⟨Nat.le_refl _,i0,by rw[hxl];exact hPl.ten.2⟩,?_⟩
          refine⟨fun q=>absurd (of_decide_eq_true q) (Int.not_lt.2 (show (tsAt s2 i).win.till≤(tsAt x i).win.since by rw[hxs];exact hgr rfl)),fun _=>?_⟩
          refine⟨_,fun z=>rfl,?_⟩
          refine⟨_,fun z=>rfl,?_⟩
          refine⟨_,fun z=>rfl,?_⟩
          refine⟨fun l hl=>?_,fun hl=>nomatch (show some [Value.int .i64 4]=(none:Option (List Value)) from hl)⟩
          have hl2:some [Value.int .i64 4]=some l:=hl
          obtain rfl:=Option.some.inj hl2
          repeat (first | refine⟨fun _=>?_,fun h=>Bool.noConfusion h⟩ | refine⟨fun h=>Bool.noConfusion h,fun _=>?_⟩ | fail)
          refine⟨39,4,tk,5,_,_,rfl,rfl,rfl,?_⟩
          rw[show afterM 5 4 tk=6 from by first | rfl | exact after_cut ⟨by omega,by omega⟩ | simp[afterM,fenceM]]
          repeat (first | refine⟨fun _=>?_,fun h=>Bool.noConfusion h⟩ | refine⟨fun h=>Bool.noConfusion h,fun _=>?_⟩ | fail)
          refine⟨(IntKind.i64.wrap (4+1),6,cl,ea,IntKind.i64.wrap (tk+1),x,y5),[(41,45),(40,44)],?_,⟨rfl,rfl⟩,kp_,kp_⟩
          dsimp only
          rw[wrapi (n:=4+1) (by omega),wrapi (n:=tk+1) (by omega)]
          exact⟨⟨by omega,.inr ⟨by rw[hxl];exact hlen,hxg,.inl ⟨rfl,hxh,by rw[hxe,he],hxw⟩⟩⟩,by omega⟩
       ·obtain⟨hlen,hg,hf⟩:=hp
        have hp3:p=6∨p=9∨p=10:=by omega
        rcases hp3 with rfl | rfl | rfl
        ·repeat (first | refine⟨fun _=>?_,fun h=>Bool.noConfusion h⟩ | refine⟨fun h=>Bool.noConfusion h,fun _=>?_⟩ | fail)
         refine⟨_,_,rfl,⟨by decide,by decide⟩,fun r r0 r1=>?_⟩
         refine⟨fun _=>?_,fun _=>?_⟩
         ·refine⟨39,5,0,6,_,_,rfl,rfl,rfl,?_⟩
          rw[show afterM 6 5 0=0 from by first | rfl | exact after_cut ⟨by omega,by omega⟩ | simp[afterM,fenceM]]
          repeat (first | refine⟨fun _=>?_,fun h=>Bool.noConfusion h⟩ | refine⟨fun h=>Bool.noConfusion h,fun _=>?_⟩ | fail)
          refine⟨39,6,_,_,rfl,rfl,rfl,?_⟩
          rw[show taskM 6=0 from rfl]
          repeat (first | refine⟨fun _=>?_,fun h=>Bool.noConfusion h⟩ | refine⟨fun h=>Bool.noConfusion h,fun _=>?_⟩ | fail)
          refine⟨(IntKind.i64.wrap ((IntKind.i64.wrap (12+IntKind.i64.wrap (3 * c.lease)))+1),6,cl,ea,IntKind.i64.wrap (tk+1),s2,y2),[],?_,⟨rfl,rfl⟩,kp_,kp_⟩
          dsimp only
          rw[w1,w2,wrapi (n:=12+3 * c.lease+1) (by omega)]
          exact⟨⟨by omega,.inr ⟨hlen,hg,hf⟩⟩,by omega⟩
         ·refine⟨39,6,_,_,rfl,rfl,rfl,?_⟩
          rw[show taskM 6=0 from rfl]
          repeat (first | refine⟨fun _=>?_,fun h=>Bool.noConfusion h⟩ | refine⟨fun h=>Bool.noConfusion h,fun _=>?_⟩ | fail)
          refine⟨(IntKind.i64.wrap ((IntKind.i64.wrap (12+IntKind.i64.wrap (3 * c.lease)))+1),6,cl,ea,IntKind.i64.wrap (tk+1),s2,y2),[],?_,⟨rfl,rfl⟩,kp_,kp_⟩
          dsimp only
          rw[w1,w2,wrapi (n:=12+3 * c.lease+1) (by omega)]
          exact⟨⟨by omega,.inr ⟨hlen,hg,hf⟩⟩,by omega⟩
        ·repeat (first | refine⟨fun _=>?_,fun h=>Bool.noConfusion h⟩ | refine⟨fun h=>Bool.noConfusion h,fun _=>?_⟩ | fail)
         refine⟨_,_,rfl,⟨by decide,by decide⟩,fun r r0 r1=>?_⟩
         refine⟨fun _=>?_,fun _=>?_⟩
         ·refine⟨39,5,0,9,_,_,rfl,rfl,rfl,?_⟩
          rw[show afterM 9 5 0=0 from by first | rfl | exact after_cut ⟨by omega,by omega⟩ | simp[afterM,fenceM]]
          repeat (first | refine⟨fun _=>?_,fun h=>Bool.noConfusion h⟩ | refine⟨fun h=>Bool.noConfusion h,fun _=>?_⟩ | fail)
          refine⟨39,9,_,_,rfl,rfl,rfl,?_⟩
          rw[show taskM 9=6 from rfl]
          repeat (first | refine⟨fun _=>?_,fun h=>Bool.noConfusion h⟩ | refine⟨fun h=>Bool.noConfusion h,fun _=>?_⟩ | fail)
          refine⟨(IntKind.i64.wrap ((IntKind.i64.wrap (12+IntKind.i64.wrap (3 * c.lease)))+1),9,cl,ea,IntKind.i64.wrap (tk+1),s2,y2),[],?_,⟨rfl,rfl⟩,kp_,kp_⟩
          dsimp only
          rw[w1,w2,wrapi (n:=12+3 * c.lease+1) (by omega)]
          exact⟨⟨by omega,.inr ⟨hlen,hg,hf⟩⟩,by omega⟩
         ·refine⟨39,9,_,_,rfl,rfl,rfl,?_⟩
          rw[show taskM 9=6 from rfl]
          repeat (first | refine⟨fun _=>?_,fun h=>Bool.noConfusion h⟩ | refine⟨fun h=>Bool.noConfusion h,fun _=>?_⟩ | fail)
          refine⟨(IntKind.i64.wrap ((IntKind.i64.wrap (12+IntKind.i64.wrap (3 * c.lease)))+1),9,cl,ea,IntKind.i64.wrap (tk+1),s2,y2),[],?_,⟨rfl,rfl⟩,kp_,kp_⟩
          dsimp only
          rw[w1,w2,wrapi (n:=12+3 * c.lease+1) (by omega)]
          exact⟨⟨by omega,.inr ⟨hlen,hg,hf⟩⟩,by omega⟩
        ·repeat (first | refine⟨fun _=>?_,fun h=>Bool.noConfusion h⟩ | refine⟨fun h=>Bool.noConfusion h,fun _=>?_⟩ | fail)
         refine⟨_,_,rfl,⟨by decide,by decide⟩,fun r r0 r1=>?_⟩
         refine⟨fun _=>?_,fun _=>?_⟩
         ·refine⟨39,5,0,10,_,_,rfl,rfl,rfl,?_⟩
          rw[show afterM 10 5 0=0 from by first | rfl | exact after_cut ⟨by omega,by omega⟩ | simp[afterM,fenceM]]
          repeat (first | refine⟨fun _=>?_,fun h=>Bool.noConfusion h⟩ | refine⟨fun h=>Bool.noConfusion h,fun _=>?_⟩ | fail)
          refine⟨39,10,_,_,rfl,rfl,rfl,?_⟩
          rw[show taskM 10=0 from rfl]
          repeat (first | refine⟨fun _=>?_,fun h=>Bool.noConfusion h⟩ | refine⟨fun h=>Bool.noConfusion h,fun _=>?_⟩ | fail)
          refine⟨(IntKind.i64.wrap ((IntKind.i64.wrap (12+IntKind.i64.wrap (3 * c.lease)))+1),10,cl,ea,IntKind.i64.wrap (tk+1),s2,y2),[],?_,⟨rfl,rfl⟩,kp_,kp_⟩
          dsimp only
          rw[w1,w2,wrapi (n:=12+3 * c.lease+1) (by omega)]
          exact⟨⟨by omega,.inr ⟨hlen,hg,hf⟩⟩,by omega⟩
         ·refine⟨39,10,_,_,rfl,rfl,rfl,?_⟩
          rw[show taskM 10=0 from rfl]
          repeat (first | refine⟨fun _=>?_,fun h=>Bool.noConfusion h⟩ | refine⟨fun h=>Bool.noConfusion h,fun _=>?_⟩ | fail)
          refine⟨(IntKind.i64.wrap ((IntKind.i64.wrap (12+IntKind.i64.wrap (3 * c.lease)))+1),10,cl,ea,IntKind.i64.wrap (tk+1),s2,y2),[],?_,⟨rfl,rfl⟩,kp_,kp_⟩
          dsimp only
          rw[w1,w2,wrapi (n:=12+3 * c.lease+1) (by omega)]
          exact⟨⟨by omega,.inr ⟨hlen,hg,hf⟩⟩,by omega⟩
      ·have hge2:¬ k<12+3 * c.lease:=by
        have q:=of_decide_eq_false hge
        rw[w1,w2] at q
        exact q
       clear hge
       rcases hinv with hp | hp
       ·have:=hp.hk
        omega
       ·obtain⟨hlen,hg,hf⟩:=hp
        have hep:=(hI.ten _ (tsAt_mem i0 (by rw[htn];exact i1)).2).epoch
        have w3:=wrapi (n:=(tsAt s i).epoch+1) (by omega)
        have hp3:p=6∨p=9∨p=10:=by omega
        rcases hp3 with rfl | rfl | rfl
        ·repeat (first | refine⟨fun _=>?_,fun h=>Bool.noConfusion h⟩ | refine⟨fun h=>Bool.noConfusion h,fun _=>?_⟩ | fail)
         refine⟨⟨Nat.le_refl _,i0,by rw[hlen];exact i1⟩,?_⟩
         repeat (first | refine⟨fun _=>?_,fun h=>Bool.noConfusion h⟩ | refine⟨fun h=>Bool.noConfusion h,fun _=>?_⟩ | fail)
         obtain⟨-,f1,f2,f3⟩:=hf.resolve_right (fun q=>absurd q.1 (by decide))
         rw[← w3] at f2
         refine⟨fun _=>?_,fun q=>absurd f1 (of_decide_eq_false q)⟩
         refine⟨fun _=>?_,fun q=>absurd hg (of_decide_eq_false q)⟩
         refine⟨fun _=>?_,fun q=>absurd f2 (of_decide_eq_false q)⟩
         exact congrArg Value.bool (decide_eq_true f3)
        ·repeat (first | refine⟨fun _=>?_,fun h=>Bool.noConfusion h⟩ | refine⟨fun h=>Bool.noConfusion h,fun _=>?_⟩ | fail)
         refine⟨⟨Nat.le_refl _,i0,by rw[hlen];exact i1⟩,?_⟩
         repeat (first | refine⟨fun _=>?_,fun h=>Bool.noConfusion h⟩ | refine⟨fun h=>Bool.noConfusion h,fun _=>?_⟩ | fail)
         obtain⟨-,f1,f2⟩:=hf.resolve_left (fun q=>absurd q.1 (by decide))
         refine⟨fun _=>?_,fun q=>absurd f1 (of_decide_eq_false q)⟩
         refine⟨fun _=>?_,fun q=>absurd hg (of_decide_eq_false q)⟩
         exact congrArg Value.bool (decide_eq_true f2)
        ·repeat (first | refine⟨fun _=>?_,fun h=>Bool.noConfusion h⟩ | refine⟨fun h=>Bool.noConfusion h,fun _=>?_⟩ | fail)
         refine⟨⟨Nat.le_refl _,i0,by rw[hlen];exact i1⟩,?_⟩
         repeat (first | refine⟨fun _=>?_,fun h=>Bool.noConfusion h⟩ | refine⟨fun h=>Bool.noConfusion h,fun _=>?_⟩ | fail)
         obtain⟨-,f1,f2⟩:=hf.resolve_left (fun q=>absurd q.1 (by decide))
         refine⟨fun _=>?_,fun q=>absurd f1 (of_decide_eq_false q)⟩
         refine⟨fun _=>?_,fun q=>absurd hg (of_decide_eq_false q)⟩
         exact congrArg Value.bool (decide_eq_true f2)
theorem migrateLog_law (a0:Option Addr) (cap0:Nat) (z0:List Int) (a1:Option Addr) (cap1:Nat) (z1:List Int) (ten dst ab:Int) (W:World) (hr0:Rd W (·<W.heap.size) a0 (z0.map (Value.int .i64))) (hm0:z0.length≤maxLen) (hr1:Rd W (·<W.heap.size) a1 (z1.map (Value.int .i64))) (hm1:z1.length≤maxLen) (hw_ten:(Lit.int .i64 ten).wf=true) (hw_dst:(Lit.int .i64 dst).wf=true) (hw_ab:(Lit.int .i64 ab).wf=true) :
  Calls Tryz.prog 7 #[.slice a0 z0.length cap0,.slice a1 z1.length cap1,.int .i64 ten,.int .i64 dst,.int .i64 ab] W fun e w'=>e=.returned (.bool true)∧Below W.heap.size W w':=by
 rw[← flat_ints] at hr0 hr1
 have h:=uni_calls ttM31ok mlFok Tryz.func7 rfl (D:=mlD) (codeF_ok _ (by kernel_rfl)) (vs:=[slc 0 z0.length cap0,slc 1 z1.length cap1,.int .i64 ten,.int .i64 dst,.int .i64 ab]) rfl { a0:=a0,a1:=a1 } { l0:=z0,l1:=z1 } W { r0:=hr0,r1:=hr1 } (fun v hv=>by
  simp only[List.mem_cons,List.not_mem_nil,or_false] at hv
  rcases hv with rfl | rfl | rfl | rfl | rfl
  ·exact⟨show (0:Nat)<13 by decide,rfl⟩
  ·exact⟨show (1:Nat)<13 by decide,rfl⟩
  ·trivial
  ·trivial
  ·trivial
  ) (mlog_sx cap0 cap1 z0 z1 ten dst ab hm0 hm1)
 refine h.mono ?_
 rintro e w' ⟨v,mem',nx',ρ',rfl,rfl,hv,hm',hb⟩
 exact⟨rfl,hb⟩
end Go.Proofs.YtchhdflealgkaaaGreat
