import Derived.Test.YtdjkeplekchfdaaPn17
namespace Go.Proofs.Ytdjkeplekchfdaa
open Go.RowKit
set_option linter.unusedSimpArgs false
set_option linter.unusedVariables false
/-! law16.RouterNew -/
def ttN:TT:=[(112,tiRec [zi,zs0,zs0,zs0,zs0,zs0,zs0,zi,zi,zi,zi,zb,zi,zi,zs0,.int .u64 0,.int .u64 0,zs0] [0,10,11,12,17] [10,1,1,5,1] [2,1,1,2,1]),(39,{ size:=1,agg:=false,zero:=[.pointer none],isP:=true }),(34,tiSl 10 28 176)]++ttR
theorem ttNok:TTok Try.prog ttN:=by
 refine tt_mem _ _ ?_
 unfold ttN ttR ttL ttA tt
 repeat (refine tt_cons ⟨by kernel_rfl,by kernel_rfl,plains (by rfl),by kernel_rfl,by kernel_rfl,by kernel_rfl⟩ ?_)
 exact tt_nil
/-! Lists of configurations: rows of the wider kind. -/
def famC (cs:List Cfg):Nat→Nat→SB:=fun k o=>match o with
 | 1=>⟨1,(cs.getD k zCfg).zones.length,fun j=>intC ((cs.getD k zCfg).zones.getD j 0)⟩
 | 2=>⟨2,(cs.getD k zCfg).cells.length,fun j=>pairC ((cs.getD k zCfg).cells.getD j (0,0))⟩
 | 3=>⟨7,(cs.getD k zCfg).tenants.length,fun j=>tenC ((cs.getD k zCfg).tenants.getD j default)⟩
 | 4=>⟨2,(cs.getD k zCfg).versions.length,fun j=>pairC ((cs.getD k zCfg).versions.getD j (0,0))⟩
 | 5=>⟨1,(cs.getD k zCfg).replicas.length,fun j=>intC ((cs.getD k zCfg).replicas.getD j 0)⟩
 | 6=>⟨1,(cs.getD k zCfg).observers.length,fun j=>intC ((cs.getD k zCfg).observers.getD j 0)⟩
 | _=>emptySB
abbrev cfgD (c:Cfg) (x:CfgK):List Value:=[.int .i64 c.regions,.slice (some ⟨0,0,none⟩) c.zones.length x.cz,.slice (some ⟨0,0,none⟩) c.cells.length x.cc,.slice (some ⟨0,0,none⟩) c.tenants.length x.ct,.slice (some ⟨0,0,none⟩) c.versions.length x.cv,.slice (some ⟨0,0,none⟩) c.replicas.length x.cr,.slice (some ⟨0,0,none⟩) c.observers.length x.co,.int .i64 c.blast,.int .i64 c.lease,.int .i64 c.bake]
abbrev cfgEl (cs:List Cfg) (xs:List CfgK):Nat→List Value:=fun k=>cfgD (cs.getD k zCfg) (xs.getD k ⟨0,0,0,0,0,0⟩)
theorem famC_out {cs:List Cfg} {k:Nat} (h:cs.length≤k) (o:Nat):(famC cs k o).n=0:=by
 unfold famC
 rw[show cs.getD k zCfg=zCfg by rw[List.getD_eq_getElem?_getD,List.getElem?_eq_none h];rfl]
 split<;>rfl
theorem famC_list (c:Cfg) (o:Nat):(match o with
 | 1=>(⟨1,c.zones.length,fun j=>intC (c.zones.getD j 0)⟩:SB)
 | 2=>⟨2,c.cells.length,fun j=>pairC (c.cells.getD j (0,0))⟩
 | 3=>⟨7,c.tenants.length,fun j=>tenC (c.tenants.getD j default)⟩
 | 4=>⟨2,c.versions.length,fun j=>pairC (c.versions.getD j (0,0))⟩
 | 5=>⟨1,c.replicas.length,fun j=>intC (c.replicas.getD j 0)⟩
 | 6=>⟨1,c.observers.length,fun j=>intC (c.observers.getD j 0)⟩
 | _=>emptySB)=[emptySB,⟨1,c.zones.length,fun j=>intC (c.zones.getD j 0)⟩,⟨2,c.cells.length,fun j=>pairC (c.cells.getD j (0,0))⟩,⟨7,c.tenants.length,fun j=>tenC (c.tenants.getD j default)⟩,⟨2,c.versions.length,fun j=>pairC (c.versions.getD j (0,0))⟩,⟨1,c.replicas.length,fun j=>intC (c.replicas.getD j 0)⟩,⟨1,c.observers.length,fun j=>intC (c.observers.getD j 0)⟩,emptySB,emptySB,emptySB].getD o emptySB:=by
 match o with
 | 0 | 1 | 2 | 3 | 4 | 5 | 6 | 7 | 8 | 9=>rfl
 | n+10=>rfl
theorem CfgSrc.fam {mem:AM} {u k:Nat} {t:TypeId} {cs:List Cfg} {x:CfgK} (h:lk mem u=some (.ext (.fam t (famC cs)))):CfgSrc mem (.agg #[.int .i64 (cs.getD k zCfg).regions,.slice (some ⟨u,1,some k⟩) (cs.getD k zCfg).zones.length x.cz,.slice (some ⟨u,2,some k⟩) (cs.getD k zCfg).cells.length x.cc,.slice (some ⟨u,3,some k⟩) (cs.getD k zCfg).tenants.length x.ct,.slice (some ⟨u,4,some k⟩) (cs.getD k zCfg).versions.length x.cv,.slice (some ⟨u,5,some k⟩) (cs.getD k zCfg).replicas.length x.cr,.slice (some ⟨u,6,some k⟩) (cs.getD k zCfg).observers.length x.co,.int .i64 (cs.getD k zCfg).blast,.int .i64 (cs.getD k zCfg).lease,.int .i64 (cs.getD k zCfg).bake]) (cs.getD k zCfg):=
 ⟨_,_,_,_,_,_,rfl,⟨.inr (.inr ⟨u,1,k,_,rfl,t,famC cs,h,rfl,Nat.le_refl _,fun _ _=>rfl⟩),.inr (.inr ⟨u,2,k,_,rfl,t,famC cs,h,rfl,Nat.le_refl _,fun _ _=>rfl⟩),.inr (.inr ⟨u,3,k,_,rfl,t,famC cs,h,rfl,Nat.le_refl _,fun _ _=>rfl⟩)⟩,.inr (.inr ⟨u,4,k,_,rfl,t,famC cs,h,rfl,Nat.le_refl _,fun _ _=>rfl⟩),.inr (.inr ⟨u,5,k,_,rfl,t,famC cs,h,rfl,Nat.le_refl _,fun _ _=>rfl⟩),.inr (.inr ⟨u,6,k,_,rfl,t,famC cs,h,rfl,Nat.le_refl _,fun _ _=>rfl⟩)⟩
structure Few (c:Cfg):Prop where
 zones:c.zones.length≤100
 cells:c.cells.length≤100
 tenants:c.tenants.length≤100
 versions:c.versions.length≤100
 replicas:c.replicas.length≤100
 observers:c.observers.length≤100
theorem Few.lens {c:Cfg} (h:Few c):Lens c:=by
 obtain⟨h1,h2,h3,h4,h5,h6⟩:=h
 unfold Lens
 have:100≤maxLen:=by decide
 omega
abbrev r16F:FT:=[(57,ctV5G)]
abbrev ctNwQ:CT:=ctInl ttN r16F [(4,{ k:=6,L:=[0,1,2,3,4,5,6,7,8,9,10,11,12,13,14,15,16,17,18,19,20,21,22,23,24,25,26,27,28,29,30,31,32,33,34,35,36,37,38,39,40,41,42,43,44,45,46,47,48,49,50,51,52,53,54,55,56,57,58,59,60],pre:=[(0,false),(1,false),(2,false),(3,false),(4,false),(5,true)] })] Try.f18 (bodyOf Try.f18)
theorem nwQOk {I:List Nat} (hI:I.contains 18=true):CSoundI Try.prog I 18 ctNwQ:=inl_ok ttNok (fti_cons (v5GOk.i _) fti_nil) mixed (by kernel_rfl) Try.func18 rfl (by kernel_rfl) hI
abbrev ctSm:CT:=ctInl ttN [] [] Try.f12 (bodyOf Try.f12)
theorem smOk {I:List Nat} (hI:I.contains 12=true):CSoundI Try.prog I 12 ctSm:=inl_ok ttNok (fti_nil) mixed (by kernel_rfl) Try.func12 rfl (by kernel_rfl) hI
def nrF:FT:=[(12,ctSm),(13,ctLight),(14,ctAwake16),(16,ctConfig),(15,ctBentC),(17,ctRN),(18,ctNwQ)]
def nrD:List (Nat×DQ):=[(9000000,{ k:=0,L:=[12,17,18] }),(3,{ k:=6,L:=[0,1,2,3,4,5,6,7,8,9,10,11,12,13,14,15,16,17,18,19,20,21,22,23,24,25,26,27,28,29,30,31,32,33,34,35,36,37,38,39,40,41,42,43,44,45,46,47,48,49,50,51,52,53,54,55,56,57,58,59,60],pre:=[(0,false),(1,false),(3,false),(4,false),(2,true),(5,true)] }),(1000004,{ k:=29,L:=[],sl:=[] }),(2000005,{ k:=0,L:=[0,1,2,3,4,5,6,7,8,9,10,11,12,13,14,15,16,17,18,19,20,21,22,23,24,25,26,27,28],sl:=[2,11] })]
theorem nrFok:FTokI Try.prog nrF (inlOf nrD):=fti_cons (smOk (by decide)) (fti_cons (lightOk.i _) (fti_cons (awake16Ok.i _) (fti_cons (configOk.i _) (fti_cons (bentCOk.i _) (fti_cons (rnOk (by decide)) (fti_cons (nwQOk (by decide)) fti_nil))))))
set_option maxRecDepth 100000 in
set_option maxHeartbeats 8000000 in
theorem rnew_sx (rc:Cfg) (xr:CfgK) (cap0:Nat) (l:List Int) (key which by_:Int) (hL:Lens rc) (hm0:l.length≤maxLen) :
  sx ttN nrF nrD (bodyOf Try.f3) (argF 0 [cfgV CNu xr rc,slc 0 l.length cap0,.int .i64 key,.int .i64 which,.int .i64 by_]) (uniM { l0:=l,c:=rc }) 13 (endx ttN Try.f3.results.toList fun v _ _=>v=.bool true):=by
 refine⟨fun g0=>?_,fun g0=>?_⟩
 ·have g02:(rc.zones.length:Int)≤20:=of_decide_eq_true g0
  refine⟨fun g1=>?_,fun g1=>?_⟩
  ·have g12:(rc.cells.length:Int)≤20:=of_decide_eq_true g1
   refine⟨fun g2=>?_,fun g2=>?_⟩
   ·have g22:(rc.tenants.length:Int)≤40:=of_decide_eq_true g2
    refine⟨fun g3=>?_,fun g3=>?_⟩
    ·have g32:(rc.versions.length:Int)≤40:=of_decide_eq_true g3
     refine⟨fun g4=>?_,fun g4=>?_⟩
     ·have g42:(rc.replicas.length:Int)≤12:=of_decide_eq_true g4
      refine⟨fun g5=>?_,fun g5=>?_⟩
      ·repeat (first | refine⟨fun _=>?_,fun h=>Bool.noConfusion h⟩ | refine⟨fun h=>Bool.noConfusion h,fun _=>?_⟩ | fail)
       exact⟨rfl,rfl⟩
      ·have g52:(rc.observers.length:Int)≤12:=by simpa using g5
       have hf1:Few rc:=⟨by omega,by omega,by omega,by omega,by omega,by omega⟩
       refine⟨0,cap0,l,rfl,rfl,hm0,?_⟩
       refine⟨fun h=>?_,fun h0=>?_⟩
       ·repeat (first | refine⟨fun _=>?_,fun h=>Bool.noConfusion h⟩ | refine⟨fun h=>Bool.noConfusion h,fun _=>?_⟩ | fail)
        exact⟨rfl,rfl⟩
       ·have hl0:l.length≤200:=by simpa using h0
        clear hm0 h0
        refine⟨Cfg×CfgK,fun _=>[(2,.int .i64 key),(11,.slice (some ⟨28,0,none⟩) 2 2)],fun q=>[(27,.ext (.fam (famT false) (famC [rc,q.1]))),(28,.ext (.deep (1000000+28) 10 2 2 (cfgEl [rc,q.1] [xr,q.2]) 27))],fun q=>Few q.1,?_,?_⟩
        ·refine⟨0,cap0,l,rfl,rfl,by omega,?_⟩
         intro xk c hM
         have hm1:=hM.zones
         have hm2:=hM.cells
         have hm3:=hM.tenants
         have hm4:=hM.versions
         have hm5:=hM.replicas
         have hm6:=hM.observers
         refine⟨kp_,?_⟩
         refine⟨20,19,18,17,16,15,xk,c,which,by_,rfl,kp_,hM,fun c2 x2 h2=>?_⟩
         obtain⟨h21,h22,h23,h24,h25,h26⟩:=h2
         refine⟨kp_,?_⟩
         refine⟨cfgEl [rc,c2] [xr,x2],famC [rc,c2],⟨fun k hk=>?_,fun k hk o=>famC_out hk o⟩,?_⟩
         ·match k,hk with
          | 0,_=>exact⟨rfl,fun o=>famC_list _ o⟩
          | 1,_=>exact⟨rfl,fun o=>famC_list _ o⟩
         have hf2:Few c2:=⟨by omega,by omega,by omega,by omega,by omega,by omega⟩
         exact⟨(c2,x2),hf2,kp_,kp_⟩
        ·rintro⟨c2,x2⟩ hf2
         refine⟨⟨by decide,rfl,rfl⟩,?_⟩
         dsimp only at hf2
         have hall:∀ i:Nat,i<2→Few ([rc,c2].getD i zCfg):=fun i hi=>(match i,hi with | 0,_=>hf1 | 1,_=>hf2)
         refine⟨Int,fun i=>[(12,.int .i64 i)],fun _=>[],fun i=>0≤i∧i≤2,fun i=>(2-i).toNat,⟨0,by omega,kp_,kp_⟩,?_⟩
         rintro i hi
         refine⟨⟨rfl,rfl⟩,?_⟩
         refine⟨fun hlt=>?_,fun hge=>?_⟩
         ·have hlt2:i<2:=of_decide_eq_true hlt
          have hf:=hall i.toNat (by omega)
          have hLn:=hf.lens
          obtain⟨b1,b2,b3,b4,b5,b6⟩:=hf
          clear hall
          refine⟨⟨Nat.le_refl _,hi.1,hlt2⟩,?_⟩
          refine⟨_,([rc,c2].getD i.toNat zCfg),rfl,CfgSrc.fam (t:=famT false) (x:=[xr,x2].getD i.toNat ⟨0,0,0,0,0,0⟩) rfl,hLn,?_⟩
          refine⟨fun q=>?_,fun q=>?_⟩
          ·refine⟨⟨Nat.le_refl _,hi.1,hlt2⟩,?_⟩
           refine⟨_,([rc,c2].getD i.toNat zCfg),rfl,CfgSrc.fam (t:=famT false) (x:=[xr,x2].getD i.toNat ⟨0,0,0,0,0,0⟩) rfl,hLn,?_⟩
           refine⟨fun q2=>?_,fun q2=>absurd q2 (by rw[q];decide)⟩
           refine⟨fun h=>absurd h (by simp),fun _=>?_⟩
           refine⟨fun h=>absurd h (by rw[q];decide),fun _=>?_⟩
           refine⟨_,?_,kp_,kp_⟩
           rw[wrapi (n:=i+1) (by omega)]
           dsimp only
           exact⟨by omega,by omega⟩
          ·refine⟨_,([rc,c2].getD i.toNat zCfg).zones,rfl,.inr (.inr ⟨27,1,i.toNat,_,rfl,famT false,famC [rc,c2],rfl,rfl,Nat.le_refl _,fun _ _=>rfl⟩),by omega,fun k_zones=>?_⟩
           refine⟨_,([rc,c2].getD i.toNat zCfg).cells,rfl,.inr (.inr ⟨27,2,i.toNat,_,rfl,famT false,famC [rc,c2],rfl,rfl,Nat.le_refl _,fun _ _=>rfl⟩),by omega,fun k_cells=>?_⟩
           refine⟨_,([rc,c2].getD i.toNat zCfg).tenants,rfl,.inr (.inr ⟨27,3,i.toNat,_,rfl,famT false,famC [rc,c2],rfl,rfl,Nat.le_refl _,fun _ _=>rfl⟩),by omega,fun k_tenants=>?_⟩
           refine⟨_,([rc,c2].getD i.toNat zCfg).versions,rfl,.inr (.inr ⟨27,4,i.toNat,_,rfl,famT false,famC [rc,c2],rfl,rfl,Nat.le_refl _,fun _ _=>rfl⟩),by omega,fun k_versions=>?_⟩
           refine⟨_,([rc,c2].getD i.toNat zCfg).replicas,rfl,.inr (.inr ⟨27,5,i.toNat,_,rfl,famT false,famC [rc,c2],rfl,rfl,Nat.le_refl _,fun _ _=>rfl⟩),by omega,fun k_replicas=>?_⟩
           refine⟨_,([rc,c2].getD i.toNat zCfg).observers,rfl,.inr (.inr ⟨27,6,i.toNat,_,rfl,famT false,famC [rc,c2],rfl,rfl,Nat.le_refl _,fun _ _=>rfl⟩),by omega,fun k_observers=>?_⟩
           refine⟨⟨Nat.le_refl _,hi.1,hlt2⟩,?_⟩
           refine⟨_,([rc,c2].getD i.toNat zCfg),rfl,CfgSrc.fam (t:=famT false) (x:=[xr,x2].getD i.toNat ⟨0,0,0,0,0,0⟩) rfl,hLn,?_⟩
           refine⟨fun q2=>absurd q2 (by rw[q];decide),fun q2=>?_⟩
           refine⟨⟨Int.le_refl _,Int.natCast_nonneg _,by show (([rc,c2].getD i.toNat zCfg).tenants.length:Int) * 16≤281474976710656;omega⟩,?_⟩
           refine⟨kp_,?_⟩
           refine⟨fun h=>absurd h (by simp),fun _=>?_⟩
           refine⟨fun h=>absurd h (by decide),fun _=>?_⟩
           refine⟨_,?_,kp_,kp_⟩
           rw[wrapi (n:=i+1) (by omega)]
           dsimp only
           exact⟨by omega,by omega⟩
         ·exact⟨rfl,rfl⟩
     ·repeat (first | refine⟨fun _=>?_,fun h=>Bool.noConfusion h⟩ | refine⟨fun h=>Bool.noConfusion h,fun _=>?_⟩ | fail)
      exact⟨rfl,rfl⟩
    ·repeat (first | refine⟨fun _=>?_,fun h=>Bool.noConfusion h⟩ | refine⟨fun h=>Bool.noConfusion h,fun _=>?_⟩ | fail)
     exact⟨rfl,rfl⟩
   ·repeat (first | refine⟨fun _=>?_,fun h=>Bool.noConfusion h⟩ | refine⟨fun h=>Bool.noConfusion h,fun _=>?_⟩ | fail)
    exact⟨rfl,rfl⟩
  ·repeat (first | refine⟨fun _=>?_,fun h=>Bool.noConfusion h⟩ | refine⟨fun h=>Bool.noConfusion h,fun _=>?_⟩ | fail)
   exact⟨rfl,rfl⟩
 ·repeat (first | refine⟨fun _=>?_,fun h=>Bool.noConfusion h⟩ | refine⟨fun h=>Bool.noConfusion h,fun _=>?_⟩ | fail)
  exact⟨rfl,rfl⟩
theorem routerNew_law (z:CfgA×Cfg) (a1:Option Addr) (cap1:Nat) (z1:List Int) (key which by_:Int) (W:World) (hz:Lens z.2∧CfgOk W (·<W.heap.size) z.1 z.2) (hr1:Rd W (·<W.heap.size) a1 (z1.map (Value.int .i64))) (hm1:z1.length≤maxLen) {Q Q2 Q3:Prop} (_hq:Q) (_hq2:Q2) (_hq3:Q3) :
  Calls Try.prog 3 #[.agg (cfgC z.1 z.2),.slice a1 z1.length cap1,.int .i64 key,.int .i64 which,.int .i64 by_] W fun e w'=>e=.returned (.bool true)∧Below W.heap.size W w':=by
 rw[← flat_ints] at hr1
 have h:=uni_calls ttNok nrFok Try.func3 rfl (D:=nrD) (by kernel_rfl) (vs:=[cfgV CNu (ck z.1) z.2,slc 0 z1.length cap1,.int .i64 key,.int .i64 which,.int .i64 by_]) rfl { a0:=a1,x:=z.1 } { l0:=z1,c:=z.2 } W { r0:=hr1,c:=hz.2 } (fun v hv=>by
  simp only[List.mem_cons,List.not_mem_nil,or_false] at hv
  rcases hv with rfl | rfl | rfl | rfl | rfl
  ·exact upl_cfg_ok { a0:=a1,x:=z.1 } { l0:=z1,c:=z.2 }
  ·exact⟨show (0:Nat)<13 by decide,rfl⟩
  ·trivial
  ·trivial
  ·trivial) (rnew_sx z.2 (ck z.1) cap1 z1 key which by_ hz.1 hm1)
 rw[List.map_cons] at h
 have e0:=upl_cfg { a0:=a1,x:=z.1 } { l0:=z1,c:=z.2 }
 dsimp only at e0 h
 rw[e0] at h
 refine h.mono ?_
 rintro e w' ⟨v,mem',nx',ρ',rfl,rfl,hv,hm',hb⟩
 exact⟨rfl,hb⟩
end Go.Proofs.Ytdjkeplekchfdaa
