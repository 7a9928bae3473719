import Derived.Test.YtchhdflealgkaaaGreatPp16
namespace Go.Proofs.YtchhdflealgkaaaGreat
open Go.RowKit
set_option linter.unusedSimpArgs false
set_option linter.unusedVariables false
theorem efFok:FTokI Tryz.prog efF (inlOf efD):=fti_cons (cloneTOk.i _) (fti_cons (cloneCOk.i _) (fti_cons (inl_ok ttOk fti_nil mixed (by kernel_rfl) Tryz.func119 rfl (by kernel_rfl) (by decide)) (fti_cons (inl_ok ttOk (fti_cons (inl_ok ttOk fti_nil mixed (by kernel_rfl) Tryz.func165 rfl (by kernel_rfl) (by decide)) fti_nil) mixed (by kernel_rfl) Tryz.func120 rfl (by kernel_rfl) (by decide)) fti_nil)))
theorem keepsO {mem:AM} {a b:Nat} {y:StK} {s:St} (h:keeps mem (stMO ⟨a,b,0⟩ s)):SlO mem 12 tsC default s.tenants (slc a s.tenants.length y.ct) a∧SlO mem 4 csC default s.cells (slc b s.cells.length y.cc) b:=
 ⟨⟨_,_,_,_,_,rfl,rfl,h.1,rfl,Nat.le_refl _,fun k hk=>rfl⟩,⟨_,_,_,_,_,rfl,rfl,h.2.1,rfl,Nat.le_refl _,fun k hk=>rfl⟩⟩
theorem stEff_any (c:Cfg) (y:StA) (s:St) (e:Ent) (w:World) (hV:CfgV c) (hI:StInv c s) (ha:Acc c s e) (hs:StOk w (·<w.heap.size) y s) :
  Calls Tryz.prog 76 #[.agg (stC y s),.agg (entC e).toArray] w fun r w'=>∃ y2,r=.returned (.agg (stC y2 (effOf s e)))∧StOwn2 w.heap.size w' y2 (effOf s e)∧Below w.heap.size w w':=by
 have:=rd_callsM ttOk efFok Tryz.func76 rfl (D:=efD) (by kernel_rfl) (vs:=[stV SN1 (sk y) s,entV' e]) rfl noX noC y s noA noS w (noC_ok _ _) hs (noS_ok w _) (fun v hv=>by
  simp only[List.mem_cons,List.not_mem_nil,or_false] at hv
  rcases hv with rfl | rfl
  ·exact rpl_st_ok noX noC y s noA noS
  ·exact (pure_den (pure_ent e) _ _).2) (effect_sx c (sk y) s e hV hI ha)
 rw[List.map_cons,rpl_st,List.map_cons,(pure_den (pure_ent e) _ 0).1] at this
 refine this.mono ?_
 rintro r w' ⟨v,mem',nx',ρ',rfl,⟨y3,rfl,hk⟩,hv,hm',hb⟩
 obtain⟨y2,e1,e2⟩:=hm'.own2 rfl (by decide) (keepsO (y:=y3) hk).1 (keepsO (y:=y3) hk).2
 exact⟨y2,congrArg Ending.returned e1,e2,hb⟩
def ctEff:CT:=fun vs mem nx K=>∃ M y s e,vs=[stV M y s,entV' e]∧(HasRow mem M.t 12 tsC default s.tenants∧HasRow mem M.c 4 csC default s.cells)∧(∃ c,CfgV c∧StInv c s∧Acc c s e)∧∀ y2,K (stV ⟨nx+1,nx,0⟩ y2 (effOf s e)) (stMO ⟨nx+1,nx,0⟩ (effOf s e)++mem) (nx+2)
theorem effOk:CSound Tryz.prog 76 ctEff:=⟨by kernel_rfl,fun {C ρ fr mem nx a w vs K} hc hs hv=>by
 obtain⟨M,y,s,e,rfl,⟨h1,h2⟩,⟨c,hV,hI,ha⟩,hK⟩:=hc
 rw[List.map_cons,den_st,List.map_cons,(pure_den (pure_ent e) _ 0).1]
 refine (stEff_any c (stX ρ M y) s e w hV hI ha (hs.stRow h1 h2)).mono ?_
 rintro e w' ⟨y2,rfl,ho,hb⟩
 obtain⟨q1,q2,q3,q4⟩:=hs.addOwnSt hb ho
 exact⟨_,_,_,_,by rw[q2],hK ⟨y2.ct,y2.cc⟩,q1,q3,q4⟩⟩
theorem modeAt_eq {s:St} {k:Int} (h:0≤k∧k<s.cells.length):modeAt s k=(csAt s k).mode:=if_pos h
theorem shedE_m {c:Cfg} {s:St} {e:Ent} {t:TS} (hI:StInv c s) (h:tsAt s e.tenant=t) (hT:TsInv c t):shedE s e=if e.n=0 then (if t.shed=false then 4 else if modeAt s t.home=3 then 6 else 0) else if t.placed=false∨t.shed=true then 4 else if e.tick<t.win.till then 9 else 0:=by
 unfold shedE
 rw[h]
 by_cases hsh:t.shed=true
 ·rw[modeAt_eq ⟨hT.placed (hT.shed hsh),by have:=hT.home;have:=hI.lc;omega⟩]
 ·simp[hsh]
theorem placeE_m {c:Cfg} {s:St} {e:Ent} {t:TS} (h:tsAt s e.tenant=t) (hcl:0≤e.cell∧e.cell<s.cells.length) (hot:e.other=-1∨(0≤e.other∧e.other<s.cells.length)) :
  placeE c s e=if t.placed=true then 4 else if modeAt s e.cell≠1∨(e.other≠-1∧modeAt s e.other≠1) then 6 else if frozenB c s e.cell=true∨(e.other≠-1∧frozenB c s e.other=true) then 12 else if mayB c e.tenant e.cell=false∨(e.other≠-1∧mayB c e.tenant e.other=false)∨nearB c e.cell e.other=true then 11 else 0:=by
 unfold placeE
 rw[h,modeAt_eq hcl]
 rcases hot with ho | ho
 ·simp[ho]
 ·rw[modeAt_eq ho]
theorem standbyE_m {c:Cfg} {s:St} {e:Ent} {t:TS} (h:tsAt s e.tenant=t) (hT:TsInv c t) (hcl:e.cell=-1∨(0≤e.cell∧e.cell<s.cells.length)) :
  standbyE c s e=if t.placed=false then 4 else if e.cell=-1 then 0 else if e.cell=t.home∨e.cell=t.standby∨e.cell=t.target then 5 else if modeAt s e.cell≠1 then 6 else if frozenB c s e.cell=true then 12 else if mayB c e.tenant e.cell=false∨apartB c e.cell t.home=false∨nearB c e.cell t.target=true then 11 else 0:=by
 unfold standbyE
 rw[h]
 by_cases hpl:t.placed=true
 ·rcases hcl with ho | ho
  ·simp[ho]
  ·have hh:=hT.placed hpl
   rw[modeAt_eq ho]
   have hne:t.home≠-1:=by omega
   simp[nearB,hne]
 ·simp[hpl]
def ctPMode:CT:=fun vs mem nx K=>∃ M y s k,vs=[stV M y s,.int .i64 k]∧(keeps mem (stM M s))∧(s.cells.length≤100)∧K (.int .i64 (modeAt s k)) mem nx
theorem pModeOk:CSound Tryz.prog 157 ctPMode:=(ptsOk (R:=fun l z=>∃ s k,l=[.st s,.vl (.int .i64 k)]∧z=.int .i64 (modeAt s k)) (pre:=fun l=>∃ s k,l=[.st s,.vl (.int .i64 k)]∧(s.cells.length≤100)) (by kernel_rfl) (by
 rintro ps w ⟨s,k,hps,hpre⟩ hok
 obtain⟨y,ps0,rfl,hps0⟩:=dt_s hps
 obtain⟨ps1,rfl,hps1⟩:=dt_v hps0
 obtain rfl:=dt_nil hps1
 have hps:=hok (.st y s) (by simp)
 refine (stModeOf_any y s k w hpre hps).mono ?_
 rintro e w' ⟨rfl,hb⟩
 exact⟨_,⟨s,k,rfl,rfl⟩,trivial,rfl,hb⟩)).mono (by
 rintro vs mem nx K ⟨M,y,s,k,rfl,hk,hpre,hK⟩
 exact⟨[.st M y s,.vl _],rfl,⟨hk,trivial,trivial⟩,⟨_,_,rfl,hpre⟩,by rintro z ⟨s',k',hl,hz⟩;cases hl;subst hz;exact hK⟩)
def ctPFrozen:CT:=fun vs mem nx K=>∃ N x c M y s k,vs=[cfgV N x c,stV M y s,.int .i64 k]∧(keeps mem (cfgM N c)∧keeps mem (stM M s))∧(CfgV c∧StInv c s)∧K (.bool (frozenB c s k)) mem nx
theorem pFrozenOk:CSound Tryz.prog 158 ctPFrozen:=(ptsOk (R:=fun l z=>∃ c s k,l=[.cf c,.st s,.vl (.int .i64 k)]∧z=.bool (frozenB c s k)) (pre:=fun l=>∃ c s k,l=[.cf c,.st s,.vl (.int .i64 k)]∧(CfgV c∧StInv c s)) (by kernel_rfl) (by
 rintro ps w ⟨c,s,k,hps,hpre⟩ hok
 obtain⟨x,ps0,rfl,hps0⟩:=dt_c hps
 obtain⟨y,ps1,rfl,hps1⟩:=dt_s hps0
 obtain⟨ps2,rfl,hps2⟩:=dt_v hps1
 obtain rfl:=dt_nil hps2
 have hpc:=hok (.cf x c) (by simp)
 have hps:=hok (.st y s) (by simp)
 refine (stFrozen_any x c y s k w hpre.1 hpc hpre.2).mono ?_
 rintro e w' ⟨rfl,hb⟩
 exact⟨_,⟨c,s,k,rfl,rfl⟩,trivial,rfl,hb⟩)).mono (by
 rintro vs mem nx K ⟨N,x,c,M,y,s,k,rfl,hk,hpre,hK⟩
 exact⟨[.cf N x c,.st M y s,.vl _],rfl,⟨hk.1,hk.2,trivial,trivial⟩,⟨_,_,_,rfl,hpre⟩,by rintro z ⟨c',s',k',hl,hz⟩;cases hl;subst hz;exact hK⟩)
def ctPMay:CT:=fun vs mem nx K=>∃ N x c t k,vs=[cfgV N x c,.int .i64 t,.int .i64 k]∧(keeps mem (cfgM N c))∧(CfgV c)∧K (.bool (mayB c t k)) mem nx
theorem pMayOk:CSound Tryz.prog 159 ctPMay:=(ptsOk (R:=fun l z=>∃ c t k,l=[.cf c,.vl (.int .i64 t),.vl (.int .i64 k)]∧z=.bool (mayB c t k)) (pre:=fun l=>∃ c t k,l=[.cf c,.vl (.int .i64 t),.vl (.int .i64 k)]∧(CfgV c)) (by kernel_rfl) (by
 rintro ps w ⟨c,t,k,hps,hpre⟩ hok
 obtain⟨x,ps0,rfl,hps0⟩:=dt_c hps
 obtain⟨ps1,rfl,hps1⟩:=dt_v hps0
 obtain⟨ps2,rfl,hps2⟩:=dt_v hps1
 obtain rfl:=dt_nil hps2
 have hpc:=hok (.cf x c) (by simp)
 refine (tenantMay_any x c t k w hpre hpc).mono ?_
 rintro e w' ⟨rfl,hb⟩
 exact⟨_,⟨c,t,k,rfl,rfl⟩,trivial,rfl,hb⟩)).mono (by
 rintro vs mem nx K ⟨N,x,c,t,k,rfl,hk,hpre,hK⟩
 exact⟨[.cf N x c,.vl _,.vl _],rfl,⟨hk,trivial,trivial,trivial⟩,⟨_,_,_,rfl,hpre⟩,by rintro z ⟨c',t',k',hl,hz⟩;cases hl;subst hz;exact hK⟩)
def ctPApart:CT:=fun vs mem nx K=>∃ N x c t k,vs=[cfgV N x c,.int .i64 t,.int .i64 k]∧(keeps mem (cfgM N c))∧(CfgV c)∧K (.bool (apartB c t k)) mem nx
theorem pApartOk:CSound Tryz.prog 161 ctPApart:=(ptsOk (R:=fun l z=>∃ c t k,l=[.cf c,.vl (.int .i64 t),.vl (.int .i64 k)]∧z=.bool (apartB c t k)) (pre:=fun l=>∃ c t k,l=[.cf c,.vl (.int .i64 t),.vl (.int .i64 k)]∧(CfgV c)) (by kernel_rfl) (by
 rintro ps w ⟨c,t,k,hps,hpre⟩ hok
 obtain⟨x,ps0,rfl,hps0⟩:=dt_c hps
 obtain⟨ps1,rfl,hps1⟩:=dt_v hps0
 obtain⟨ps2,rfl,hps2⟩:=dt_v hps1
 obtain rfl:=dt_nil hps2
 have hpc:=hok (.cf x c) (by simp)
 refine (tenantApart_any x c t k w hpre hpc).mono ?_
 rintro e w' ⟨rfl,hb⟩
 exact⟨_,⟨c,t,k,rfl,rfl⟩,trivial,rfl,hb⟩)).mono (by
 rintro vs mem nx K ⟨N,x,c,t,k,rfl,hk,hpre,hK⟩
 exact⟨[.cf N x c,.vl _,.vl _],rfl,⟨hk,trivial,trivial,trivial⟩,⟨_,_,_,rfl,hpre⟩,by rintro z ⟨c',t',k',hl,hz⟩;cases hl;subst hz;exact hK⟩)
def ctPNear:CT:=fun vs mem nx K=>∃ N x c t k,vs=[cfgV N x c,.int .i64 t,.int .i64 k]∧(keeps mem (cfgM N c))∧(CfgV c)∧K (.bool (nearB c t k)) mem nx
theorem pNearOk:CSound Tryz.prog 160 ctPNear:=(ptsOk (R:=fun l z=>∃ c t k,l=[.cf c,.vl (.int .i64 t),.vl (.int .i64 k)]∧z=.bool (nearB c t k)) (pre:=fun l=>∃ c t k,l=[.cf c,.vl (.int .i64 t),.vl (.int .i64 k)]∧(CfgV c)) (by kernel_rfl) (by
 rintro ps w ⟨c,t,k,hps,hpre⟩ hok
 obtain⟨x,ps0,rfl,hps0⟩:=dt_c hps
 obtain⟨ps1,rfl,hps1⟩:=dt_v hps0
 obtain⟨ps2,rfl,hps2⟩:=dt_v hps1
 obtain rfl:=dt_nil hps2
 have hpc:=hok (.cf x c) (by simp)
 refine (stNear_any x c t k w hpre hpc).mono ?_
 rintro e w' ⟨rfl,hb⟩
 exact⟨_,⟨c,t,k,rfl,rfl⟩,trivial,rfl,hb⟩)).mono (by
 rintro vs mem nx K ⟨N,x,c,t,k,rfl,hk,hpre,hK⟩
 exact⟨[.cf N x c,.vl _,.vl _],rfl,⟨hk,trivial,trivial,trivial⟩,⟨_,_,_,rfl,hpre⟩,by rintro z ⟨c',t',k',hl,hz⟩;cases hl;subst hz;exact hK⟩)
def rfF:FT:=[(157,ctPMode),(158,ctPFrozen),(159,ctPMay),(161,ctPApart),(160,ctPNear)]
theorem rfFok:FTok Tryz.prog rfF:=ft_cons pModeOk (ft_cons pFrozenOk (ft_cons pMayOk (ft_cons pApartOk (ft_cons pNearOk ft_nil))))
theorem tsMem {s:St} {k:Int} (h0:0≤k) (h1:k<s.tenants.length):tsAt s k ∈ s.tenants:=by
 unfold tsAt
 rw[List.getD_eq_getElem?_getD,List.getElem?_eq_getElem (show k.toNat<s.tenants.length by omega)]
 exact List.getElem_mem _
set_option maxRecDepth 100000 in
set_option maxHeartbeats 8000000 in
theorem stAbandon_sx (x:CfgK) (c:Cfg) (y:StK) (s:St) (e:Ent) (hV:CfgV c) (hI:StInv c s) (ht0:0≤e.tenant) (ht1:e.tenant<s.tenants.length) :
  sx tt rfF [] (bodyOf Tryz.f106) (argF 0 [stV SN1 y s,entV' e]) (rdM noC s noS) 10 (endx tt Tryz.f106.results.toList fun v _ _=>v=.int .i64 (abandonE s e)∧pureV v):=by
 have hnc:=hV.nc
 have hlc:=hI.lc
 have hP:=(show abandonE s e=if (tsAt s e.tenant).placed=false∨(tsAt s e.tenant).target=-1 then 4 else 0 from rfl)
 unfold tsAt at hP
 repeat' (first | refine⟨fun _=>?_,fun h=>Bool.noConfusion h⟩ | refine⟨fun h=>Bool.noConfusion h,fun _=>?_⟩ | refine⟨fun _=>?_,fun _=>?_⟩ | refine⟨⟨Nat.le_refl _,ht0,ht1⟩,?_⟩ | (refine⟨congrArg (Value.int .i64) ?_,trivial⟩;rw[hP];grind) | fail)
set_option maxRecDepth 100000 in
theorem stAbandon_any (c:Cfg) (y:StA) (s:St) (e:Ent) (w:World) (hV:CfgV c) (hI:StInv c s) (hs:StOk w (·<w.heap.size) y s) (ht0:0≤e.tenant) (ht1:e.tenant<s.tenants.length) :
  Calls Tryz.prog 106 #[.agg (stC y s),.agg (entC e).toArray] w fun r w'=>r=.returned (.int .i64 (abandonE s e))∧Below w.heap.size w w':=by
 have:=rd_calls rfFok Tryz.func106 rfl (D:=[]) (by kernel_rfl) (vs:=[stV SN1 (sk y) s,entV' e]) rfl noX noC y s noA noS w (noC_ok _ _) hs (noS_ok w _) (fun v hv=>by
  simp only[List.mem_cons,List.not_mem_nil,or_false] at hv
  rcases hv with rfl | rfl
  ·exact rpl_st_ok noX noC y s noA noS
  ·exact (pure_den (pure_ent e) _ 10).2) (R:=fun v=>v=.int .i64 (abandonE s e)) (stAbandon_sx (ck noX) c (sk y) s e hV hI ht0 ht1)
 have e0:[stV SN1 (sk y) s,entV' e].map (den (rpl noX noC y s noA noS))=[.agg (stC y s),.agg (entC e).toArray]:=by show [den _ _,den _ _]=_;exact congr (congrArg List.cons (rpl_st noX noC y s noA noS)) (congr (congrArg List.cons (pure_den (pure_ent e) _ 10).1) rfl)
 rw[e0] at this
 refine this.mono ?_
 rintro r w' ⟨v,rfl,-,rfl,hb⟩
 exact⟨rfl,hb⟩
set_option maxRecDepth 100000 in
set_option maxHeartbeats 8000000 in
theorem stCut_sx (x:CfgK) (c:Cfg) (y:StK) (s:St) (e:Ent) (hV:CfgV c) (hI:StInv c s) (ht0:0≤e.tenant) (ht1:e.tenant<s.tenants.length) :
  sx tt rfF [] (bodyOf Tryz.f109) (argF 0 [stV SN1 y s,entV' e]) (rdM noC s noS) 10 (endx tt Tryz.f109.results.toList fun v _ _=>v=.int .i64 (cutE s e)∧pureV v):=by
 have hnc:=hV.nc
 have hlc:=hI.lc
 have hP:=(show cutE s e=if (tsAt s e.tenant).placed=false then 4 else if e.epoch≠(tsAt s e.tenant).epoch then 7 else 0 from rfl)
 unfold tsAt at hP
 repeat' (first | refine⟨fun _=>?_,fun h=>Bool.noConfusion h⟩ | refine⟨fun h=>Bool.noConfusion h,fun _=>?_⟩ | refine⟨fun _=>?_,fun _=>?_⟩ | refine⟨⟨Nat.le_refl _,ht0,ht1⟩,?_⟩ | (refine⟨congrArg (Value.int .i64) ?_,trivial⟩;rw[hP];grind) | fail)
set_option maxRecDepth 100000 in
theorem stCut_any (c:Cfg) (y:StA) (s:St) (e:Ent) (w:World) (hV:CfgV c) (hI:StInv c s) (hs:StOk w (·<w.heap.size) y s) (ht0:0≤e.tenant) (ht1:e.tenant<s.tenants.length) :
  Calls Tryz.prog 109 #[.agg (stC y s),.agg (entC e).toArray] w fun r w'=>r=.returned (.int .i64 (cutE s e))∧Below w.heap.size w w':=by
 have:=rd_calls rfFok Tryz.func109 rfl (D:=[]) (by kernel_rfl) (vs:=[stV SN1 (sk y) s,entV' e]) rfl noX noC y s noA noS w (noC_ok _ _) hs (noS_ok w _) (fun v hv=>by
  simp only[List.mem_cons,List.not_mem_nil,or_false] at hv
  rcases hv with rfl | rfl
  ·exact rpl_st_ok noX noC y s noA noS
  ·exact (pure_den (pure_ent e) _ 10).2) (R:=fun v=>v=.int .i64 (cutE s e)) (stCut_sx (ck noX) c (sk y) s e hV hI ht0 ht1)
 have e0:[stV SN1 (sk y) s,entV' e].map (den (rpl noX noC y s noA noS))=[.agg (stC y s),.agg (entC e).toArray]:=by show [den _ _,den _ _]=_;exact congr (congrArg List.cons (rpl_st noX noC y s noA noS)) (congr (congrArg List.cons (pure_den (pure_ent e) _ 10).1) rfl)
 rw[e0] at this
 refine this.mono ?_
 rintro r w' ⟨v,rfl,-,rfl,hb⟩
 exact⟨rfl,hb⟩
set_option maxRecDepth 100000 in
set_option maxHeartbeats 8000000 in
theorem stReady_sx (x:CfgK) (c:Cfg) (y:StK) (s:St) (e:Ent) (hV:CfgV c) (hI:StInv c s) (ht0:0≤e.tenant) (ht1:e.tenant<s.tenants.length) (hcl:0≤e.cell∧e.cell<s.cells.length) :
  sx tt rfF [] (bodyOf Tryz.f104) (argF 0 [stV SN1 y s,entV' e]) (rdM noC s noS) 10 (endx tt Tryz.f104.results.toList fun v _ _=>v=.int .i64 (readyE s e)∧pureV v):=by
 have hnc:=hV.nc
 have hlc:=hI.lc
 have hP:=(show readyE s e=if (tsAt s e.tenant).placed=false then 4 else if e.cell≠(tsAt s e.tenant).next then 5 else if modeAt s e.cell=3 then 6 else 0 by unfold readyE;rw[modeAt_eq hcl])
 unfold tsAt at hP
 repeat' (first | refine⟨fun _=>?_,fun h=>Bool.noConfusion h⟩ | refine⟨fun h=>Bool.noConfusion h,fun _=>?_⟩ | refine⟨fun _=>?_,fun _=>?_⟩ | refine⟨⟨Nat.le_refl _,ht0,ht1⟩,?_⟩ | refine⟨SN1,y,s,_,rfl,kp_,(by omega:s.cells.length≤100),?_⟩ | (refine⟨congrArg (Value.int .i64) ?_,trivial⟩;rw[hP];grind) | fail)
set_option maxRecDepth 100000 in
theorem stReady_any (c:Cfg) (y:StA) (s:St) (e:Ent) (w:World) (hV:CfgV c) (hI:StInv c s) (hs:StOk w (·<w.heap.size) y s) (ht0:0≤e.tenant) (ht1:e.tenant<s.tenants.length) (hcl:0≤e.cell∧e.cell<s.cells.length) :
  Calls Tryz.prog 104 #[.agg (stC y s),.agg (entC e).toArray] w fun r w'=>r=.returned (.int .i64 (readyE s e))∧Below w.heap.size w w':=by
 have:=rd_calls rfFok Tryz.func104 rfl (D:=[]) (by kernel_rfl) (vs:=[stV SN1 (sk y) s,entV' e]) rfl noX noC y s noA noS w (noC_ok _ _) hs (noS_ok w _) (fun v hv=>by
  simp only[List.mem_cons,List.not_mem_nil,or_false] at hv
  rcases hv with rfl | rfl
  ·exact rpl_st_ok noX noC y s noA noS
  ·exact (pure_den (pure_ent e) _ 10).2) (R:=fun v=>v=.int .i64 (readyE s e)) (stReady_sx (ck noX) c (sk y) s e hV hI ht0 ht1 hcl)
 have e0:[stV SN1 (sk y) s,entV' e].map (den (rpl noX noC y s noA noS))=[.agg (stC y s),.agg (entC e).toArray]:=by show [den _ _,den _ _]=_;exact congr (congrArg List.cons (rpl_st noX noC y s noA noS)) (congr (congrArg List.cons (pure_den (pure_ent e) _ 10).1) rfl)
 rw[e0] at this
 refine this.mono ?_
 rintro r w' ⟨v,rfl,-,rfl,hb⟩
 exact⟨rfl,hb⟩
set_option maxRecDepth 100000 in
set_option maxHeartbeats 8000000 in
theorem stShed_sx (x:CfgK) (c:Cfg) (y:StK) (s:St) (e:Ent) (hV:CfgV c) (hI:StInv c s) (ht0:0≤e.tenant) (ht1:e.tenant<s.tenants.length) :
  sx tt rfF [] (bodyOf Tryz.f107) (argF 0 [stV SN1 y s,entV' e]) (rdM noC s noS) 10 (endx tt Tryz.f107.results.toList fun v _ _=>v=.int .i64 (shedE s e)∧pureV v):=by
 have hnc:=hV.nc
 have hlc:=hI.lc
 have hP:=(shedE_m (e:=e) hI rfl (hI.ten _ (tsMem ht0 ht1)))
 unfold tsAt at hP
 repeat' (first | refine⟨fun _=>?_,fun h=>Bool.noConfusion h⟩ | refine⟨fun h=>Bool.noConfusion h,fun _=>?_⟩ | refine⟨fun _=>?_,fun _=>?_⟩ | refine⟨⟨Nat.le_refl _,ht0,ht1⟩,?_⟩ | refine⟨SN1,y,s,_,rfl,kp_,(by omega:s.cells.length≤100),?_⟩ | (refine⟨congrArg (Value.int .i64) ?_,trivial⟩;rw[hP];grind) | fail)
set_option maxRecDepth 100000 in
theorem stShed_any (c:Cfg) (y:StA) (s:St) (e:Ent) (w:World) (hV:CfgV c) (hI:StInv c s) (hs:StOk w (·<w.heap.size) y s) (ht0:0≤e.tenant) (ht1:e.tenant<s.tenants.length) :
  Calls Tryz.prog 107 #[.agg (stC y s),.agg (entC e).toArray] w fun r w'=>r=.returned (.int .i64 (shedE s e))∧Below w.heap.size w w':=by
 have:=rd_calls rfFok Tryz.func107 rfl (D:=[]) (by kernel_rfl) (vs:=[stV SN1 (sk y) s,entV' e]) rfl noX noC y s noA noS w (noC_ok _ _) hs (noS_ok w _) (fun v hv=>by
  simp only[List.mem_cons,List.not_mem_nil,or_false] at hv
  rcases hv with rfl | rfl
  ·exact rpl_st_ok noX noC y s noA noS
  ·exact (pure_den (pure_ent e) _ 10).2) (R:=fun v=>v=.int .i64 (shedE s e)) (stShed_sx (ck noX) c (sk y) s e hV hI ht0 ht1)
 have e0:[stV SN1 (sk y) s,entV' e].map (den (rpl noX noC y s noA noS))=[.agg (stC y s),.agg (entC e).toArray]:=by show [den _ _,den _ _]=_;exact congr (congrArg List.cons (rpl_st noX noC y s noA noS)) (congr (congrArg List.cons (pure_den (pure_ent e) _ 10).1) rfl)
 rw[e0] at this
 refine this.mono ?_
 rintro r w' ⟨v,rfl,-,rfl,hb⟩
 exact⟨rfl,hb⟩
set_option maxRecDepth 100000 in
set_option maxHeartbeats 8000000 in
theorem stPlace_sx (x:CfgK) (c:Cfg) (y:StK) (s:St) (e:Ent) (hV:CfgV c) (hI:StInv c s) (ht0:0≤e.tenant) (ht1:e.tenant<s.tenants.length) (hcl:0≤e.cell∧e.cell<s.cells.length) (hot:e.other=-1∨(0≤e.other∧e.other<s.cells.length)) :
  sx tt rfF [] (bodyOf Tryz.f102) (argF 0 [cfgV CN1 x c,stV SN1 y s,entV' e]) (rdM c s noS) 10 (endx tt Tryz.f102.results.toList fun v _ _=>v=.int .i64 (placeE c s e)∧pureV v):=by
 have hnc:=hV.nc
 have hlc:=hI.lc
 have hP:=(placeE_m (c:=c) (e:=e) rfl hcl hot)
 unfold tsAt at hP
 repeat' (first | refine⟨fun _=>?_,fun h=>Bool.noConfusion h⟩ | refine⟨fun h=>Bool.noConfusion h,fun _=>?_⟩ | refine⟨fun _=>?_,fun _=>?_⟩ | refine⟨⟨Nat.le_refl _,ht0,ht1⟩,?_⟩ | refine⟨SN1,y,s,_,rfl,kp_,(by omega:s.cells.length≤100),?_⟩ | refine⟨CN1,x,c,SN1,y,s,_,rfl,⟨kp_,kp_⟩,⟨hV,hI⟩,?_⟩ | refine⟨CN1,x,c,_,_,rfl,kp_,hV,?_⟩ | (refine⟨congrArg (Value.int .i64) ?_,trivial⟩;rw[hP];grind) | fail)
set_option maxRecDepth 100000 in
theorem stPlace_any (x:CfgA) (c:Cfg) (y:StA) (s:St) (e:Ent) (w:World) (hV:CfgV c) (hc:CfgOk w (·<w.heap.size) x c) (hI:StInv c s) (hs:StOk w (·<w.heap.size) y s) (ht0:0≤e.tenant) (ht1:e.tenant<s.tenants.length) (hcl:0≤e.cell∧e.cell<s.cells.length) (hot:e.other=-1∨(0≤e.other∧e.other<s.cells.length)) :
  Calls Tryz.prog 102 #[.agg (cfgC x c),.agg (stC y s),.agg (entC e).toArray] w fun r w'=>r=.returned (.int .i64 (placeE c s e))∧Below w.heap.size w w':=by
 have:=rd_calls rfFok Tryz.func102 rfl (D:=[]) (by kernel_rfl) (vs:=[cfgV CN1 (ck x) c,stV SN1 (sk y) s,entV' e]) rfl x c y s noA noS w hc hs (noS_ok w _) (fun v hv=>by
  simp only[List.mem_cons,List.not_mem_nil,or_false] at hv
  rcases hv with rfl | rfl | rfl
  ·exact rpl_cfg_ok x c y s noA noS
  ·exact rpl_st_ok x c y s noA noS
  ·exact (pure_den (pure_ent e) _ 10).2) (R:=fun v=>v=.int .i64 (placeE c s e)) (stPlace_sx (ck x) c (sk y) s e hV hI ht0 ht1 hcl hot)
 have e0:[cfgV CN1 (ck x) c,stV SN1 (sk y) s,entV' e].map (den (rpl x c y s noA noS))=[.agg (cfgC x c),.agg (stC y s),.agg (entC e).toArray]:=by show [den _ _,den _ _,den _ _]=_;exact congr (congrArg List.cons (rpl_cfg x c y s noA noS)) (congr (congrArg List.cons (rpl_st x c y s noA noS)) (congr (congrArg List.cons (pure_den (pure_ent e) _ 10).1) rfl))
 rw[e0] at this
 refine this.mono ?_
 rintro r w' ⟨v,rfl,-,rfl,hb⟩
 exact⟨rfl,hb⟩
set_option maxRecDepth 100000 in
set_option maxHeartbeats 8000000 in
theorem stMigrate_sx (x:CfgK) (c:Cfg) (y:StK) (s:St) (e:Ent) (hV:CfgV c) (hI:StInv c s) (ht0:0≤e.tenant) (ht1:e.tenant<s.tenants.length) (hcl:0≤e.cell∧e.cell<s.cells.length) :
  sx tt rfF [] (bodyOf Tryz.f105) (argF 0 [cfgV CN1 x c,stV SN1 y s,entV' e]) (rdM c s noS) 10 (endx tt Tryz.f105.results.toList fun v _ _=>v=.int .i64 (migrateE c s e)∧pureV v):=by
 have hnc:=hV.nc
 have hlc:=hI.lc
 have hP:=(show migrateE c s e=if (tsAt s e.tenant).placed=false∨(tsAt s e.tenant).shed=true∨(tsAt s e.tenant).target≠-1 then 4 else if e.cell=(tsAt s e.tenant).home∨e.cell=(tsAt s e.tenant).standby∨e.cell=(tsAt s e.tenant).next then 5 else if modeAt s e.cell≠1 then 6 else if frozenB c s e.cell=true then 12 else if mayB c e.tenant e.cell=false∨nearB c e.cell (tsAt s e.tenant).standby=true∨nearB c e.cell (tsAt s e.tenant).next=true then 11 else 0 by unfold migrateE;rw[modeAt_eq hcl])
 unfold tsAt at hP
 repeat' (first | refine⟨fun _=>?_,fun h=>Bool.noConfusion h⟩ | refine⟨fun h=>Bool.noConfusion h,fun _=>?_⟩ | refine⟨fun _=>?_,fun _=>?_⟩ | refine⟨⟨Nat.le_refl _,ht0,ht1⟩,?_⟩ | refine⟨SN1,y,s,_,rfl,kp_,(by omega:s.cells.length≤100),?_⟩ | refine⟨CN1,x,c,SN1,y,s,_,rfl,⟨kp_,kp_⟩,⟨hV,hI⟩,?_⟩ | refine⟨CN1,x,c,_,_,rfl,kp_,hV,?_⟩ | (refine⟨congrArg (Value.int .i64) ?_,trivial⟩;rw[hP];grind) | fail)
set_option maxRecDepth 100000 in
theorem stMigrate_any (x:CfgA) (c:Cfg) (y:StA) (s:St) (e:Ent) (w:World) (hV:CfgV c) (hc:CfgOk w (·<w.heap.size) x c) (hI:StInv c s) (hs:StOk w (·<w.heap.size) y s) (ht0:0≤e.tenant) (ht1:e.tenant<s.tenants.length) (hcl:0≤e.cell∧e.cell<s.cells.length) :
  Calls Tryz.prog 105 #[.agg (cfgC x c),.agg (stC y s),.agg (entC e).toArray] w fun r w'=>r=.returned (.int .i64 (migrateE c s e))∧Below w.heap.size w w':=by
 have:=rd_calls rfFok Tryz.func105 rfl (D:=[]) (by kernel_rfl) (vs:=[cfgV CN1 (ck x) c,stV SN1 (sk y) s,entV' e]) rfl x c y s noA noS w hc hs (noS_ok w _) (fun v hv=>by
  simp only[List.mem_cons,List.not_mem_nil,or_false] at hv
  rcases hv with rfl | rfl | rfl
  ·exact rpl_cfg_ok x c y s noA noS
  ·exact rpl_st_ok x c y s noA noS
  ·exact (pure_den (pure_ent e) _ 10).2) (R:=fun v=>v=.int .i64 (migrateE c s e)) (stMigrate_sx (ck x) c (sk y) s e hV hI ht0 ht1 hcl)
 have e0:[cfgV CN1 (ck x) c,stV SN1 (sk y) s,entV' e].map (den (rpl x c y s noA noS))=[.agg (cfgC x c),.agg (stC y s),.agg (entC e).toArray]:=by show [den _ _,den _ _,den _ _]=_;exact congr (congrArg List.cons (rpl_cfg x c y s noA noS)) (congr (congrArg List.cons (rpl_st x c y s noA noS)) (congr (congrArg List.cons (pure_den (pure_ent e) _ 10).1) rfl))
 rw[e0] at this
 refine this.mono ?_
 rintro r w' ⟨v,rfl,-,rfl,hb⟩
 exact⟨rfl,hb⟩
set_option maxRecDepth 100000 in
set_option maxHeartbeats 8000000 in
theorem stStandby_sx (x:CfgK) (c:Cfg) (y:StK) (s:St) (e:Ent) (hV:CfgV c) (hI:StInv c s) (ht0:0≤e.tenant) (ht1:e.tenant<s.tenants.length) (hcl:e.cell=-1∨(0≤e.cell∧e.cell<s.cells.length)) :
  sx tt rfF [] (bodyOf Tryz.f103) (argF 0 [cfgV CN1 x c,stV SN1 y s,entV' e]) (rdM c s noS) 10 (endx tt Tryz.f103.results.toList fun v _ _=>v=.int .i64 (standbyE c s e)∧pureV v):=by
 have hnc:=hV.nc
 have hlc:=hI.lc
 have hP:=(standbyE_m (c:=c) (e:=e) rfl (hI.ten _ (tsMem ht0 ht1)) hcl)
 unfold tsAt at hP
 repeat' (first | refine⟨fun _=>?_,fun h=>Bool.noConfusion h⟩ | refine⟨fun h=>Bool.noConfusion h,fun _=>?_⟩ | refine⟨fun _=>?_,fun _=>?_⟩ | refine⟨⟨Nat.le_refl _,ht0,ht1⟩,?_⟩ | refine⟨SN1,y,s,_,rfl,kp_,(by omega:s.cells.length≤100),?_⟩ | refine⟨CN1,x,c,SN1,y,s,_,rfl,⟨kp_,kp_⟩,⟨hV,hI⟩,?_⟩ | refine⟨CN1,x,c,_,_,rfl,kp_,hV,?_⟩ | (refine⟨congrArg (Value.int .i64) ?_,trivial⟩;rw[hP];grind) | fail)
set_option maxRecDepth 100000 in
theorem stStandby_any (x:CfgA) (c:Cfg) (y:StA) (s:St) (e:Ent) (w:World) (hV:CfgV c) (hc:CfgOk w (·<w.heap.size) x c) (hI:StInv c s) (hs:StOk w (·<w.heap.size) y s) (ht0:0≤e.tenant) (ht1:e.tenant<s.tenants.length) (hcl:e.cell=-1∨(0≤e.cell∧e.cell<s.cells.length)) :
  Calls Tryz.prog 103 #[.agg (cfgC x c),.agg (stC y s),.agg (entC e).toArray] w fun r w'=>r=.returned (.int .i64 (standbyE c s e))∧Below w.heap.size w w':=by
 have:=rd_calls rfFok Tryz.func103 rfl (D:=[]) (by kernel_rfl) (vs:=[cfgV CN1 (ck x) c,stV SN1 (sk y) s,entV' e]) rfl x c y s noA noS w hc hs (noS_ok w _) (fun v hv=>by
  simp only[List.mem_cons,List.not_mem_nil,or_false] at hv
  rcases hv with rfl | rfl | rfl
  ·exact rpl_cfg_ok x c y s noA noS
  ·exact rpl_st_ok x c y s noA noS
  ·exact (pure_den (pure_ent e) _ 10).2) (R:=fun v=>v=.int .i64 (standbyE c s e)) (stStandby_sx (ck x) c (sk y) s e hV hI ht0 ht1 hcl)
 have e0:[cfgV CN1 (ck x) c,stV SN1 (sk y) s,entV' e].map (den (rpl x c y s noA noS))=[.agg (cfgC x c),.agg (stC y s),.agg (entC e).toArray]:=by show [den _ _,den _ _,den _ _]=_;exact congr (congrArg List.cons (rpl_cfg x c y s noA noS)) (congr (congrArg List.cons (rpl_st x c y s noA noS)) (congr (congrArg List.cons (pure_den (pure_ent e) _ 10).1) rfl))
 rw[e0] at this
 refine this.mono ?_
 rintro r w' ⟨v,rfl,-,rfl,hb⟩
 exact⟨rfl,hb⟩
set_option maxHeartbeats 2000000 in
set_option maxRecDepth 100000 in
theorem stMode_any (c:Cfg) (y:StA) (s:St) (e:Ent) (w:World) (hV:CfgV c) (hI:StInv c s) (hs:StOk w (·<w.heap.size) y s) (hx0:0≤e.cell) (hx1:e.cell<s.cells.length) :
  Calls Tryz.prog 110 #[.agg (stC y s),.agg (entC e).toArray] w fun r w'=>r=.returned (.int .i64 (modeE s e))∧Below w.heap.size w w':=by
 have hnc:=hV.nc
 have hntt:=hV.nt
 have HV:=Lib.hid hV
 clear hV
 obtain⟨sat,sct,sac,scc⟩:=y
 have HKs:=Lib.hid hs
 have hsl:1≤s.cells.length∧s.cells.length≤16:=by have:=hI.lc;omega
 have hst:s.tenants.length≤32:=by have:=hI.lt;omega
 have HI:=Lib.hid hI
 clear hs hI
 obtain⟨kind,tick,tenant,cell,other,epoch,since,till,n⟩:=e
 try simp only at *
 obtain⟨xn,rfl⟩:=Int.eq_ofNat_of_zero_le hx0
 have hxn:xn<s.cells.length:=by omega
 obtain⟨bx,ofx,x,rfl,hbx,hzx,hcx⟩:=HKs.out.cells.row (enc:=csC) (sz:=4) (fun _=>rfl) (by omega) hxn
 have HX:Hid (csAt s xn=x):=Lib.hid (by unfold csAt;rw[Int.toNat_natCast,getD_some hzx])
 have HXI:=Lib.hid (HI.out.cel _ (List.mem_of_getElem? hzx))
 have hbx1:bx<w.heap.size:=hbx
 have HR:Hid (modeE s ⟨kind,tick,tenant,xn,other,epoch,since,till,n⟩=if x.mode=n then 4 else 0):=Lib.hid (by unfold modeE;rw[HX.out])
 have hL:Below w.heap.size w ((w.alloc (.cells #[.int .i64 s.tick,.int .i64 s.count,.slice sat s.tenants.length sct,.slice (some ⟨bx,ofx,none⟩) s.cells.length scc,.int .i64 s.proven,.int .i64 s.evac,.int .i64 s.low,.int .i64 s.high] 53)).alloc (.cells #[.int .i64 kind,.int .i64 tick,.int .i64 tenant,.int .i64 xn,.int .i64 other,.int .i64 epoch,.int .i64 since,.int .i64 till,.int .i64 n] 56)):=(((Below.refl w.heap.size w).alloc (by simp<;>omega) (.cells #[.int .i64 s.tick,.int .i64 s.count,.slice sat s.tenants.length sct,.slice (some ⟨bx,ofx,none⟩) s.cells.length scc,.int .i64 s.proven,.int .i64 s.evac,.int .i64 s.low,.int .i64 s.high] 53)).alloc (by simp<;>omega) (.cells #[.int .i64 kind,.int .i64 tick,.int .i64 tenant,.int .i64 xn,.int .i64 other,.int .i64 epoch,.int .i64 since,.int .i64 till,.int .i64 n] 56))
 have hBs:Blk ((w.alloc (.cells #[.int .i64 s.tick,.int .i64 s.count,.slice sat s.tenants.length sct,.slice (some ⟨bx,ofx,none⟩) s.cells.length scc,.int .i64 s.proven,.int .i64 s.evac,.int .i64 s.low,.int .i64 s.high] 53)).alloc (.cells #[.int .i64 kind,.int .i64 tick,.int .i64 tenant,.int .i64 xn,.int .i64 other,.int .i64 epoch,.int .i64 since,.int .i64 till,.int .i64 n] 56)) (w.heap.size) 53 #[.int .i64 s.tick,.int .i64 s.count,.slice sat s.tenants.length sct,.slice (some ⟨bx,ofx,none⟩) s.cells.length scc,.int .i64 s.proven,.int .i64 s.evac,.int .i64 s.low,.int .i64 s.high]:=by
  have:=((Blk.new w 53 #[.int .i64 s.tick,.int .i64 s.count,.slice sat s.tenants.length sct,.slice (some ⟨bx,ofx,none⟩) s.cells.length scc,.int .i64 s.proven,.int .i64 s.evac,.int .i64 s.low,.int .i64 s.high]).alloc (.cells #[.int .i64 kind,.int .i64 tick,.int .i64 tenant,.int .i64 xn,.int .i64 other,.int .i64 epoch,.int .i64 since,.int .i64 till,.int .i64 n] 56))
  simpa using this
 have hBe:Blk ((w.alloc (.cells #[.int .i64 s.tick,.int .i64 s.count,.slice sat s.tenants.length sct,.slice (some ⟨bx,ofx,none⟩) s.cells.length scc,.int .i64 s.proven,.int .i64 s.evac,.int .i64 s.low,.int .i64 s.high] 53)).alloc (.cells #[.int .i64 kind,.int .i64 tick,.int .i64 tenant,.int .i64 xn,.int .i64 other,.int .i64 epoch,.int .i64 since,.int .i64 till,.int .i64 n] 56)) (w.heap.size+1) 56 #[.int .i64 kind,.int .i64 tick,.int .i64 tenant,.int .i64 xn,.int .i64 other,.int .i64 epoch,.int .i64 since,.int .i64 till,.int .i64 n]:=by
  have:=(Blk.new (w.alloc (.cells #[.int .i64 s.tick,.int .i64 s.count,.slice sat s.tenants.length sct,.slice (some ⟨bx,ofx,none⟩) s.cells.length scc,.int .i64 s.proven,.int .i64 s.evac,.int .i64 s.low,.int .i64 s.high] 53)) 56 #[.int .i64 kind,.int .i64 tick,.int .i64 tenant,.int .i64 xn,.int .i64 other,.int .i64 epoch,.int .i64 since,.int .i64 till,.int .i64 n])
  simpa using this
 unfold stC entC
 simp only
 go_enter Tryz.func110,Tryz.ntmps110
 go_upto_region 1 with fail
 generalize (w.alloc _).alloc _=W at *
 have hgs:=hBs.lt
 have su0:=hBs.cell' (i:=0) (v:=.int .i64 s.tick) rfl
 have su1:=hBs.cell' (i:=1) (v:=.int .i64 s.count) rfl
 have su2:=hBs.cell' (i:=2) (v:=.slice sat s.tenants.length sct) rfl
 have su3:=hBs.cell' (i:=3) (v:=.slice (some ⟨bx,ofx,none⟩) s.cells.length scc) rfl
 have su4:=hBs.cell' (i:=4) (v:=.int .i64 s.proven) rfl
 have su5:=hBs.cell' (i:=5) (v:=.int .i64 s.evac) rfl
 have su6:=hBs.cell' (i:=6) (v:=.int .i64 s.low) rfl
 have su7:=hBs.cell' (i:=7) (v:=.int .i64 s.high) rfl
 clear hBs
 have hge:=hBe.lt
 have v0:=hBe.cell' (i:=0) (v:=.int .i64 kind) rfl
 have v1:=hBe.cell' (i:=1) (v:=.int .i64 tick) rfl
 have v2:=hBe.cell' (i:=2) (v:=.int .i64 tenant) rfl
 have v3:=hBe.cell' (i:=3) (v:=.int .i64 xn) rfl
 have v4:=hBe.cell' (i:=4) (v:=.int .i64 other) rfl
 have v5:=hBe.cell' (i:=5) (v:=.int .i64 epoch) rfl
 have v6:=hBe.cell' (i:=6) (v:=.int .i64 since) rfl
 have v7:=hBe.cell' (i:=7) (v:=.int .i64 till) rfl
 have v8:=hBe.cell' (i:=8) (v:=.int .i64 n) rfl
 clear hBe
 have HL:=Lib.hid hL
 have HWs:=Lib.hid (HKs.out.belowW hL)
 clear hL
 have x0:W.cell? ⟨bx,ofx+xn * 4,none⟩=some (.int .i64 x.mode):=(HL.out.cell (p:=⟨bx,ofx+xn * 4,none⟩) hbx1).trans (hcx 0 _ rfl)
 have x1:W.cell? ⟨bx,ofx+xn * 4+1,none⟩=some (.int .i64 x.running):=(HL.out.cell (p:=⟨bx,ofx+xn * 4+1,none⟩) hbx1).trans (hcx 1 _ rfl)
 have x2:W.cell? ⟨bx,ofx+xn * 4+2,none⟩=some (.int .i64 x.wanted):=(HL.out.cell (p:=⟨bx,ofx+xn * 4+2,none⟩) hbx1).trans (hcx 2 _ rfl)
 have x3:W.cell? ⟨bx,ofx+xn * 4+3,none⟩=some (.int .i64 x.since):=(HL.out.cell (p:=⟨bx,ofx+xn * 4+3,none⟩) hbx1).trans (hcx 3 _ rfl)
 have hbxW:bx<W.heap.size:=Nat.lt_of_lt_of_le hbx1 HL.out.size
 clear hcx hzx hbx hbx1
 have hx:∀ (y:Later W.heap.size W) b o,b<W.heap.size→y.world.cell? ⟨b,o,none⟩=W.cell? ⟨b,o,none⟩:=fun y b o h=>y.cell h
 refine wp_region_below W.heap.size (by kernel_rfl) (by kernel_rfl) ?_
 repeat (first | go_big_quiet_step ((first | fail)) | quiet_step ((first | fail)))
 refine wpQuiet_nil ?_
 rintro w' ⟨y0,rfl⟩
 clear hx
 go_wp2
 all_goals
  go_ret
  refine⟨ret_i64 ?_,(by first | exact HL.out | exact HL.out.trans ((Later.below _).mono HL.out.size))⟩
  rw[HR.out]
  go_light
  clear HR HL
  simp_all
  try omega
set_option maxHeartbeats 2000000 in
set_option maxRecDepth 100000 in
theorem stEvac_any (c:Cfg) (y:StA) (s:St) (e:Ent) (w:World) (hV:CfgV c) (hI:StInv c s) (hs:StOk w (·<w.heap.size) y s)  :
  Calls Tryz.prog 114 #[.agg (stC y s),.agg (entC e).toArray] w fun r w'=>r=.returned (.int .i64 (evacE s e))∧Below w.heap.size w w':=by
 have hnc:=hV.nc
 have hntt:=hV.nt
 have HV:=Lib.hid hV
 clear hV
 obtain⟨sat,sct,sac,scc⟩:=y
 have HKs:=Lib.hid hs
 have hsl:1≤s.cells.length∧s.cells.length≤16:=by have:=hI.lc;omega
 have hst:s.tenants.length≤32:=by have:=hI.lt;omega
 have HI:=Lib.hid hI
 clear hs hI
 obtain⟨kind,tick,tenant,cell,other,epoch,since,till,n⟩:=e
 try simp only at *
 have hev:=HI.out.evac
 have HR:Hid (evacE s ⟨kind,tick,tenant,cell,other,epoch,since,till,n⟩=if hasB s.evac other=decide (n=1) then 4 else 0):=Lib.hid rfl
 have hL:Below w.heap.size w ((w.alloc (.cells #[.int .i64 s.tick,.int .i64 s.count,.slice sat s.tenants.length sct,.slice sac s.cells.length scc,.int .i64 s.proven,.int .i64 s.evac,.int .i64 s.low,.int .i64 s.high] 53)).alloc (.cells #[.int .i64 kind,.int .i64 tick,.int .i64 tenant,.int .i64 cell,.int .i64 other,.int .i64 epoch,.int .i64 since,.int .i64 till,.int .i64 n] 56)):=(((Below.refl w.heap.size w).alloc (by simp<;>omega) (.cells #[.int .i64 s.tick,.int .i64 s.count,.slice sat s.tenants.length sct,.slice sac s.cells.length scc,.int .i64 s.proven,.int .i64 s.evac,.int .i64 s.low,.int .i64 s.high] 53)).alloc (by simp<;>omega) (.cells #[.int .i64 kind,.int .i64 tick,.int .i64 tenant,.int .i64 cell,.int .i64 other,.int .i64 epoch,.int .i64 since,.int .i64 till,.int .i64 n] 56))
 have hBs:Blk ((w.alloc (.cells #[.int .i64 s.tick,.int .i64 s.count,.slice sat s.tenants.length sct,.slice sac s.cells.length scc,.int .i64 s.proven,.int .i64 s.evac,.int .i64 s.low,.int .i64 s.high] 53)).alloc (.cells #[.int .i64 kind,.int .i64 tick,.int .i64 tenant,.int .i64 cell,.int .i64 other,.int .i64 epoch,.int .i64 since,.int .i64 till,.int .i64 n] 56)) (w.heap.size) 53 #[.int .i64 s.tick,.int .i64 s.count,.slice sat s.tenants.length sct,.slice sac s.cells.length scc,.int .i64 s.proven,.int .i64 s.evac,.int .i64 s.low,.int .i64 s.high]:=by
  have:=((Blk.new w 53 #[.int .i64 s.tick,.int .i64 s.count,.slice sat s.tenants.length sct,.slice sac s.cells.length scc,.int .i64 s.proven,.int .i64 s.evac,.int .i64 s.low,.int .i64 s.high]).alloc (.cells #[.int .i64 kind,.int .i64 tick,.int .i64 tenant,.int .i64 cell,.int .i64 other,.int .i64 epoch,.int .i64 since,.int .i64 till,.int .i64 n] 56))
  simpa using this
 have hBe:Blk ((w.alloc (.cells #[.int .i64 s.tick,.int .i64 s.count,.slice sat s.tenants.length sct,.slice sac s.cells.length scc,.int .i64 s.proven,.int .i64 s.evac,.int .i64 s.low,.int .i64 s.high] 53)).alloc (.cells #[.int .i64 kind,.int .i64 tick,.int .i64 tenant,.int .i64 cell,.int .i64 other,.int .i64 epoch,.int .i64 since,.int .i64 till,.int .i64 n] 56)) (w.heap.size+1) 56 #[.int .i64 kind,.int .i64 tick,.int .i64 tenant,.int .i64 cell,.int .i64 other,.int .i64 epoch,.int .i64 since,.int .i64 till,.int .i64 n]:=by
  have:=(Blk.new (w.alloc (.cells #[.int .i64 s.tick,.int .i64 s.count,.slice sat s.tenants.length sct,.slice sac s.cells.length scc,.int .i64 s.proven,.int .i64 s.evac,.int .i64 s.low,.int .i64 s.high] 53)) 56 #[.int .i64 kind,.int .i64 tick,.int .i64 tenant,.int .i64 cell,.int .i64 other,.int .i64 epoch,.int .i64 since,.int .i64 till,.int .i64 n])
  simpa using this
 unfold stC entC
 simp only
 go_enter Tryz.func114,Tryz.ntmps114
 go_upto_region 1 with fail
 generalize (w.alloc _).alloc _=W at *
 have hgs:=hBs.lt
 have su0:=hBs.cell' (i:=0) (v:=.int .i64 s.tick) rfl
 have su1:=hBs.cell' (i:=1) (v:=.int .i64 s.count) rfl
 have su2:=hBs.cell' (i:=2) (v:=.slice sat s.tenants.length sct) rfl
 have su3:=hBs.cell' (i:=3) (v:=.slice sac s.cells.length scc) rfl
 have su4:=hBs.cell' (i:=4) (v:=.int .i64 s.proven) rfl
 have su5:=hBs.cell' (i:=5) (v:=.int .i64 s.evac) rfl
 have su6:=hBs.cell' (i:=6) (v:=.int .i64 s.low) rfl
 have su7:=hBs.cell' (i:=7) (v:=.int .i64 s.high) rfl
 clear hBs
 have hge:=hBe.lt
 have v0:=hBe.cell' (i:=0) (v:=.int .i64 kind) rfl
 have v1:=hBe.cell' (i:=1) (v:=.int .i64 tick) rfl
 have v2:=hBe.cell' (i:=2) (v:=.int .i64 tenant) rfl
 have v3:=hBe.cell' (i:=3) (v:=.int .i64 cell) rfl
 have v4:=hBe.cell' (i:=4) (v:=.int .i64 other) rfl
 have v5:=hBe.cell' (i:=5) (v:=.int .i64 epoch) rfl
 have v6:=hBe.cell' (i:=6) (v:=.int .i64 since) rfl
 have v7:=hBe.cell' (i:=7) (v:=.int .i64 till) rfl
 have v8:=hBe.cell' (i:=8) (v:=.int .i64 n) rfl
 clear hBe
 have HL:=Lib.hid hL
 have HWs:=Lib.hid (HKs.out.belowW hL)
 clear hL
 have hx:∀ (y:Later W.heap.size W) b o,b<W.heap.size→y.world.cell? ⟨b,o,none⟩=W.cell? ⟨b,o,none⟩:=fun y b o h=>y.cell h
 refine wp_region_below W.heap.size (by kernel_rfl) (by kernel_rfl) ?_
 repeat (first | go_big_quiet_step ((first | (go_at_call 163;exact quiet_sameW _ (stHas_any _ _ _ (by omega) (by omega))))) | quiet_step ((first | (go_at_call 163;exact quiet_sameW _ (stHas_any _ _ _ (by omega) (by omega))))))
 refine wpQuiet_nil ?_
 rintro w' ⟨y0,rfl⟩
 clear hx
 go_wp2
 all_goals
  go_ret
  refine⟨ret_i64 ?_,(by first | exact HL.out | exact HL.out.trans ((Later.below _).mono HL.out.size))⟩
  rw[HR.out]
  go_light
  clear HR HL
  have e1:(n==1)=decide (n=1):=(by rw[Bool.eq_iff_iff];simp);rw[e1] at *;generalize hasB s.evac other=hb at *;cases hb<;>by_cases hn:n=1<;>simp_all
  try omega
set_option maxHeartbeats 2000000 in
set_option maxRecDepth 100000 in
theorem stContract_any (c:Cfg) (y:StA) (s:St) (w:World) (hV:CfgV c) (hI:StInv c s) (hs:StOk w (·<w.heap.size) y s)  :
  Calls Tryz.prog 116 #[.agg (stC y s)] w fun r w'=>r=.returned (.int .i64 (contractE s))∧Below w.heap.size w w':=by
 have hnc:=hV.nc
 have hntt:=hV.nt
 have HV:=Lib.hid hV
 clear hV
 obtain⟨sat,sct,sac,scc⟩:=y
 have HKs:=Lib.hid hs
 have hsl:1≤s.cells.length∧s.cells.length≤16:=by have:=hI.lc;omega
 have hst:s.tenants.length≤32:=by have:=hI.lt;omega
 have HI:=Lib.hid hI
 clear hs hI
 have HR:Hid (contractE s=if s.high=s.low then 4 else 0):=Lib.hid rfl
 have hL:Below w.heap.size w (w.alloc (.cells #[.int .i64 s.tick,.int .i64 s.count,.slice sat s.tenants.length sct,.slice sac s.cells.length scc,.int .i64 s.proven,.int .i64 s.evac,.int .i64 s.low,.int .i64 s.high] 53)):=((Below.refl w.heap.size w).alloc (by simp<;>omega) (.cells #[.int .i64 s.tick,.int .i64 s.count,.slice sat s.tenants.length sct,.slice sac s.cells.length scc,.int .i64 s.proven,.int .i64 s.evac,.int .i64 s.low,.int .i64 s.high] 53))
 have hBs:Blk (w.alloc (.cells #[.int .i64 s.tick,.int .i64 s.count,.slice sat s.tenants.length sct,.slice sac s.cells.length scc,.int .i64 s.proven,.int .i64 s.evac,.int .i64 s.low,.int .i64 s.high] 53)) (w.heap.size) 53 #[.int .i64 s.tick,.int .i64 s.count,.slice sat s.tenants.length sct,.slice sac s.cells.length scc,.int .i64 s.proven,.int .i64 s.evac,.int .i64 s.low,.int .i64 s.high]:=by
  have:=(Blk.new w 53 #[.int .i64 s.tick,.int .i64 s.count,.slice sat s.tenants.length sct,.slice sac s.cells.length scc,.int .i64 s.proven,.int .i64 s.evac,.int .i64 s.low,.int .i64 s.high])
  simpa using this
 unfold stC
 simp only
 go_enter Tryz.func116,Tryz.ntmps116
 go_upto_region 1 with fail
 generalize w.alloc _=W at *
 have hgs:=hBs.lt
 have su0:=hBs.cell' (i:=0) (v:=.int .i64 s.tick) rfl
 have su1:=hBs.cell' (i:=1) (v:=.int .i64 s.count) rfl
 have su2:=hBs.cell' (i:=2) (v:=.slice sat s.tenants.length sct) rfl
 have su3:=hBs.cell' (i:=3) (v:=.slice sac s.cells.length scc) rfl
 have su4:=hBs.cell' (i:=4) (v:=.int .i64 s.proven) rfl
 have su5:=hBs.cell' (i:=5) (v:=.int .i64 s.evac) rfl
 have su6:=hBs.cell' (i:=6) (v:=.int .i64 s.low) rfl
 have su7:=hBs.cell' (i:=7) (v:=.int .i64 s.high) rfl
 clear hBs
 have HL:=Lib.hid hL
 have HWs:=Lib.hid (HKs.out.belowW hL)
 clear hL
 go_wp2
 all_goals
  go_ret
  refine⟨ret_i64 ?_,(by first | exact HL.out | exact HL.out.trans ((Later.below _).mono HL.out.size))⟩
  rw[HR.out]
  go_light
  clear HR HL
  simp_all
  try omega
end Go.Proofs.YtchhdflealgkaaaGreat
