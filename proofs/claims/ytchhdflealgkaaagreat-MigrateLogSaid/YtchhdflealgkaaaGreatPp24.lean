import Derived.Test.YtchhdflealgkaaaGreatPp20
import Derived.Test.YtchhdflealgkaaaGreatPp21
import Derived.Test.YtchhdflealgkaaaGreatPp23
namespace Go.Proofs.YtchhdflealgkaaaGreat
open Go.RowKit
set_option linter.unusedSimpArgs false
set_option linter.unusedVariables false
set_option maxHeartbeats 16000000 in
set_option maxRecDepth 100000 in
theorem stRefused_any (x:CfgA) (c:Cfg) (y:StA) (s:St) (e:Ent) (w:World) (hV:CfgV c) (hc:CfgOk w (·<w.heap.size) x c) (hI:StInv c s) (hs:StOk w (·<w.heap.size) y s) :
  Calls Tryz.prog 75 #[.agg (cfgC x c),.agg (stC y s),.agg (entC e).toArray] w fun r w'=>r=.returned (.int .i64 (refusedE c s e))∧Below w.heap.size w w':=by
 have hnc:=hV.nc
 have hntt:=hV.nt
 obtain⟨az,cz,ac,cc,at_,ct,av,cv,ar,cr,ao,co⟩:=x
 have HV:=Lib.hid hV
 have HKc:=Lib.hid hc
 clear hV hc
 obtain⟨sat,sct,sac,scc⟩:=y
 have HKs:=Lib.hid hs
 have hsl:1≤s.cells.length∧s.cells.length≤16:=by have:=hI.lc;omega
 have hst:s.tenants.length≤32:=by have:=hI.lt;omega
 have HI:=Lib.hid hI
 clear hs hI
 obtain⟨kind,tick,tenant,cell,other,epoch,since,till,n⟩:=e
 try simp only at *
 have HVA:=Lib.hid (fun W=>entValid_any ⟨az,cz,ac,cc,at_,ct,av,cv,ar,cr,ao,co⟩ c ⟨kind,tick,tenant,cell,other,epoch,since,till,n⟩ W HV.out)
 unfold cfgC entC at HVA
 simp only at HVA
 have hL:Below w.heap.size w (((w.alloc (.cells #[.int .i64 c.regions,.slice az c.zones.length cz,.slice ac c.cells.length cc,.slice at_ c.tenants.length ct,.slice av c.versions.length cv,.slice ar c.replicas.length cr,.slice ao c.observers.length co,.int .i64 c.blast,.int .i64 c.lease,.int .i64 c.bake] 31)).alloc (.cells #[.int .i64 s.tick,.int .i64 s.count,.slice sat s.tenants.length sct,.slice sac s.cells.length scc,.int .i64 s.proven,.int .i64 s.evac,.int .i64 s.low,.int .i64 s.high] 53)).alloc (.cells #[.int .i64 kind,.int .i64 tick,.int .i64 tenant,.int .i64 cell,.int .i64 other,.int .i64 epoch,.int .i64 since,.int .i64 till,.int .i64 n] 56)):=((((Below.refl w.heap.size w).alloc (by simp<;>omega) (.cells #[.int .i64 c.regions,.slice az c.zones.length cz,.slice ac c.cells.length cc,.slice at_ c.tenants.length ct,.slice av c.versions.length cv,.slice ar c.replicas.length cr,.slice ao c.observers.length co,.int .i64 c.blast,.int .i64 c.lease,.int .i64 c.bake] 31)).alloc (by simp<;>omega) (.cells #[.int .i64 s.tick,.int .i64 s.count,.slice sat s.tenants.length sct,.slice sac s.cells.length scc,.int .i64 s.proven,.int .i64 s.evac,.int .i64 s.low,.int .i64 s.high] 53)).alloc (by simp<;>omega) (.cells #[.int .i64 kind,.int .i64 tick,.int .i64 tenant,.int .i64 cell,.int .i64 other,.int .i64 epoch,.int .i64 since,.int .i64 till,.int .i64 n] 56))
 have hBc:Blk (((w.alloc (.cells #[.int .i64 c.regions,.slice az c.zones.length cz,.slice ac c.cells.length cc,.slice at_ c.tenants.length ct,.slice av c.versions.length cv,.slice ar c.replicas.length cr,.slice ao c.observers.length co,.int .i64 c.blast,.int .i64 c.lease,.int .i64 c.bake] 31)).alloc (.cells #[.int .i64 s.tick,.int .i64 s.count,.slice sat s.tenants.length sct,.slice sac s.cells.length scc,.int .i64 s.proven,.int .i64 s.evac,.int .i64 s.low,.int .i64 s.high] 53)).alloc (.cells #[.int .i64 kind,.int .i64 tick,.int .i64 tenant,.int .i64 cell,.int .i64 other,.int .i64 epoch,.int .i64 since,.int .i64 till,.int .i64 n] 56)) (w.heap.size) 31 #[.int .i64 c.regions,.slice az c.zones.length cz,.slice ac c.cells.length cc,.slice at_ c.tenants.length ct,.slice av c.versions.length cv,.slice ar c.replicas.length cr,.slice ao c.observers.length co,.int .i64 c.blast,.int .i64 c.lease,.int .i64 c.bake]:=by
  have:=(((Blk.new w 31 #[.int .i64 c.regions,.slice az c.zones.length cz,.slice ac c.cells.length cc,.slice at_ c.tenants.length ct,.slice av c.versions.length cv,.slice ar c.replicas.length cr,.slice ao c.observers.length co,.int .i64 c.blast,.int .i64 c.lease,.int .i64 c.bake]).alloc (.cells #[.int .i64 s.tick,.int .i64 s.count,.slice sat s.tenants.length sct,.slice sac s.cells.length scc,.int .i64 s.proven,.int .i64 s.evac,.int .i64 s.low,.int .i64 s.high] 53)).alloc (.cells #[.int .i64 kind,.int .i64 tick,.int .i64 tenant,.int .i64 cell,.int .i64 other,.int .i64 epoch,.int .i64 since,.int .i64 till,.int .i64 n] 56))
  simpa using this
 have hBs:Blk (((w.alloc (.cells #[.int .i64 c.regions,.slice az c.zones.length cz,.slice ac c.cells.length cc,.slice at_ c.tenants.length ct,.slice av c.versions.length cv,.slice ar c.replicas.length cr,.slice ao c.observers.length co,.int .i64 c.blast,.int .i64 c.lease,.int .i64 c.bake] 31)).alloc (.cells #[.int .i64 s.tick,.int .i64 s.count,.slice sat s.tenants.length sct,.slice sac s.cells.length scc,.int .i64 s.proven,.int .i64 s.evac,.int .i64 s.low,.int .i64 s.high] 53)).alloc (.cells #[.int .i64 kind,.int .i64 tick,.int .i64 tenant,.int .i64 cell,.int .i64 other,.int .i64 epoch,.int .i64 since,.int .i64 till,.int .i64 n] 56)) (w.heap.size+1) 53 #[.int .i64 s.tick,.int .i64 s.count,.slice sat s.tenants.length sct,.slice sac s.cells.length scc,.int .i64 s.proven,.int .i64 s.evac,.int .i64 s.low,.int .i64 s.high]:=by
  have:=((Blk.new (w.alloc (.cells #[.int .i64 c.regions,.slice az c.zones.length cz,.slice ac c.cells.length cc,.slice at_ c.tenants.length ct,.slice av c.versions.length cv,.slice ar c.replicas.length cr,.slice ao c.observers.length co,.int .i64 c.blast,.int .i64 c.lease,.int .i64 c.bake] 31)) 53 #[.int .i64 s.tick,.int .i64 s.count,.slice sat s.tenants.length sct,.slice sac s.cells.length scc,.int .i64 s.proven,.int .i64 s.evac,.int .i64 s.low,.int .i64 s.high]).alloc (.cells #[.int .i64 kind,.int .i64 tick,.int .i64 tenant,.int .i64 cell,.int .i64 other,.int .i64 epoch,.int .i64 since,.int .i64 till,.int .i64 n] 56))
  simpa using this
 have hBe:Blk (((w.alloc (.cells #[.int .i64 c.regions,.slice az c.zones.length cz,.slice ac c.cells.length cc,.slice at_ c.tenants.length ct,.slice av c.versions.length cv,.slice ar c.replicas.length cr,.slice ao c.observers.length co,.int .i64 c.blast,.int .i64 c.lease,.int .i64 c.bake] 31)).alloc (.cells #[.int .i64 s.tick,.int .i64 s.count,.slice sat s.tenants.length sct,.slice sac s.cells.length scc,.int .i64 s.proven,.int .i64 s.evac,.int .i64 s.low,.int .i64 s.high] 53)).alloc (.cells #[.int .i64 kind,.int .i64 tick,.int .i64 tenant,.int .i64 cell,.int .i64 other,.int .i64 epoch,.int .i64 since,.int .i64 till,.int .i64 n] 56)) (w.heap.size+1+1) 56 #[.int .i64 kind,.int .i64 tick,.int .i64 tenant,.int .i64 cell,.int .i64 other,.int .i64 epoch,.int .i64 since,.int .i64 till,.int .i64 n]:=by
  have:=(Blk.new ((w.alloc (.cells #[.int .i64 c.regions,.slice az c.zones.length cz,.slice ac c.cells.length cc,.slice at_ c.tenants.length ct,.slice av c.versions.length cv,.slice ar c.replicas.length cr,.slice ao c.observers.length co,.int .i64 c.blast,.int .i64 c.lease,.int .i64 c.bake] 31)).alloc (.cells #[.int .i64 s.tick,.int .i64 s.count,.slice sat s.tenants.length sct,.slice sac s.cells.length scc,.int .i64 s.proven,.int .i64 s.evac,.int .i64 s.low,.int .i64 s.high] 53)) 56 #[.int .i64 kind,.int .i64 tick,.int .i64 tenant,.int .i64 cell,.int .i64 other,.int .i64 epoch,.int .i64 since,.int .i64 till,.int .i64 n])
  simpa using this
 unfold cfgC stC entC
 simp only
 go_enter Tryz.func75,Tryz.ntmps75
 go_upto_region 1 with fail
 generalize ((w.alloc _).alloc _).alloc _=W at *
 have hgc:=hBc.lt
 have d0:=hBc.cell' (i:=0) (v:=.int .i64 c.regions) rfl
 have d1:=hBc.cell' (i:=1) (v:=.slice az c.zones.length cz) rfl
 have d2:=hBc.cell' (i:=2) (v:=.slice ac c.cells.length cc) rfl
 have d3:=hBc.cell' (i:=3) (v:=.slice at_ c.tenants.length ct) rfl
 have d4:=hBc.cell' (i:=4) (v:=.slice av c.versions.length cv) rfl
 have d5:=hBc.cell' (i:=5) (v:=.slice ar c.replicas.length cr) rfl
 have d6:=hBc.cell' (i:=6) (v:=.slice ao c.observers.length co) rfl
 have d7:=hBc.cell' (i:=7) (v:=.int .i64 c.blast) rfl
 have d8:=hBc.cell' (i:=8) (v:=.int .i64 c.lease) rfl
 have d9:=hBc.cell' (i:=9) (v:=.int .i64 c.bake) rfl
 clear hBc
 have hgs:=hBs.lt
 have su0:=hBs.cell' (i:=0) (v:=.int .i64 s.tick) rfl
 have su1:=hBs.cell' (i:=1) (v:=.int .i64 s.count) rfl
 have su2:=hBs.cell' (i:=2) (v:=.slice sat s.tenants.length sct) rfl
 have su3:=hBs.cell' (i:=3) (v:=.slice sac s.cells.length scc) rfl
 have su4:=hBs.cell' (i:=4) (v:=.int .i64 s.proven) rfl
 have su5:=hBs.cell' (i:=5) (v:=.int .i64 s.evac) rfl
 have su6:=hBs.cell' (i:=6) (v:=.int .i64 s.low) rfl
 have su7:=hBs.cell' (i:=7) (v:=.int .i64 s.high) rfl
 clear hBs
 have hge:=hBe.lt
 have v0:=hBe.cell' (i:=0) (v:=.int .i64 kind) rfl
 have v1:=hBe.cell' (i:=1) (v:=.int .i64 tick) rfl
 have v2:=hBe.cell' (i:=2) (v:=.int .i64 tenant) rfl
 have v3:=hBe.cell' (i:=3) (v:=.int .i64 cell) rfl
 have v4:=hBe.cell' (i:=4) (v:=.int .i64 other) rfl
 have v5:=hBe.cell' (i:=5) (v:=.int .i64 epoch) rfl
 have v6:=hBe.cell' (i:=6) (v:=.int .i64 since) rfl
 have v7:=hBe.cell' (i:=7) (v:=.int .i64 till) rfl
 have v8:=hBe.cell' (i:=8) (v:=.int .i64 n) rfl
 clear hBe
 have HL:=Lib.hid hL
 have HWc:=Lib.hid (HKc.out.belowW hL)
 have HWs:=Lib.hid (HKs.out.belowW hL)
 clear hL
 have hl1:((s.tenants.length:Int) != (c.tenants.length:Int))=false:=by rw[HI.out.lt];simp
 have hl2:((s.cells.length:Int) != (c.cells.length:Int))=false:=by rw[HI.out.lc];simp
 have hx:∀ (y:Later W.heap.size W) b o,b<W.heap.size→y.world.cell? ⟨b,o,none⟩=W.cell? ⟨b,o,none⟩:=fun y b o h=>y.cell h
 refine start_later W.heap.size ?_
 intro y0
 go_wp2_with fail
 refine (HVA.out _).mono ?_
 rintro r wq ⟨rfl,hbq⟩
 obtain⟨yq,rfl⟩:=later_next _ (Nat.le_refl _) hbq
 clear hbq HVA
 by_cases hv:entV c ⟨kind,tick,tenant,cell,other,epoch,since,till,n⟩=true
 ·by_cases hcn:4096≤s.count
  ·have HRF:Hid (refusedE c s ⟨kind,tick,tenant,cell,other,epoch,since,till,n⟩=2):=Lib.hid (by unfold refusedE;rw[if_neg (by simp[hv]),if_pos hcn])
   rw[hv]
   go_wp2
   go_ret
   exact⟨ret_i64 HRF.out.symm,HL.out.trans (yq.below.mono HL.out.size)⟩
  ·by_cases htt:tick<s.tick
   ·have HRF:Hid (refusedE c s ⟨kind,tick,tenant,cell,other,epoch,since,till,n⟩=3):=Lib.hid (by unfold refusedE;rw[if_neg (by simp[hv]),if_neg hcn,if_pos htt])
    rw[hv]
    go_wp2
    go_ret
    exact⟨ret_i64 HRF.out.symm,HL.out.trans (yq.below.mono HL.out.size)⟩
   ·have HRF:Hid (refusedE c s ⟨kind,tick,tenant,cell,other,epoch,since,till,n⟩=kindE c s ⟨kind,tick,tenant,cell,other,epoch,since,till,n⟩):=Lib.hid (by unfold refusedE;rw[if_neg (by simp[hv]),if_neg hcn,if_neg htt])
    have hkk:=ent_kind hv
    obtain⟨htk,hT,hC,hO,hE,hS,hU,hN,hne⟩:=ent_rng hv
    rw[hv]
    simp only at hkk htk hT hC hO hE hS hU hN hne
    clear hv hne
    rcases hkk with rfl | rfl | rfl | rfl | rfl | rfl | rfl | rfl | rfl | rfl | rfl | rfl | rfl | rfl | rfl | rfl
    ·simp[inS,inR,fT,fC,fO,fE,fW,fN] at hT hC hO hE hS hU hN
     have ht:0≤tenant∧tenant<s.tenants.length:=by have:=HI.out.lt;omega
     have hcl:0≤cell∧cell<s.cells.length:=by have:=HI.out.lc;omega
     have hot:other=-1∨(0≤other∧other<s.cells.length):=by have:=HI.out.lc;omega
     have HKD:Hid (∀ yy:Later W.heap.size W,Calls Tryz.prog 102 #[.agg #[.int .i64 c.regions,.slice az c.zones.length cz,.slice ac c.cells.length cc,.slice at_ c.tenants.length ct,.slice av c.versions.length cv,.slice ar c.replicas.length cr,.slice ao c.observers.length co,.int .i64 c.blast,.int .i64 c.lease,.int .i64 c.bake],.agg #[.int .i64 s.tick,.int .i64 s.count,.slice sat s.tenants.length sct,.slice sac s.cells.length scc,.int .i64 s.proven,.int .i64 s.evac,.int .i64 s.low,.int .i64 s.high],.agg #[.int .i64 1,.int .i64 tick,.int .i64 tenant,.int .i64 cell,.int .i64 other,.int .i64 epoch,.int .i64 since,.int .i64 till,.int .i64 n]] yy.world fun r w'=>r=.returned (.int .i64 (placeE c s ⟨1,tick,tenant,cell,other,epoch,since,till,n⟩))∧Below yy.world.heap.size yy.world w'):=Lib.hid (fun yy=>stPlace_any ⟨az,cz,ac,cc,at_,ct,av,cv,ar,cr,ao,co⟩ c ⟨sat,sct,sac,scc⟩ s ⟨1,tick,tenant,cell,other,epoch,since,till,n⟩ yy.world HV.out (HWc.out.laterW yy) HI.out (HWs.out.laterW yy) ht.1 ht.2 hcl hot)
     go_wp2_with (go_at_call 102;(with_reducible refine (HKD.out _).mono ?_);rintro r wq ⟨rfl,hbq⟩;obtain⟨yq,rfl⟩:=later_next _ (Nat.le_refl _) hbq;clear hbq)
     go_ret
     exact⟨ret_i64 (by rw[HRF.out];rfl),HL.out.trans ((Later.below _).mono HL.out.size)⟩
    ·simp[inS,inR,fT,fC,fO,fE,fW,fN] at hT hC hO hE hS hU hN
     have ht:0≤tenant∧tenant<s.tenants.length:=by have:=HI.out.lt;omega
     have hcl:0≤cell∧cell<s.cells.length:=by have:=HI.out.lc;omega
     have hep:0≤epoch∧epoch≤1048576:=by omega
     have hsi:0≤since∧since≤1073741824:=by omega
     have htl:0≤till∧till≤1073741824:=by omega
     have HKD:Hid (∀ yy:Later W.heap.size W,Calls Tryz.prog 108 #[.agg #[.int .i64 c.regions,.slice az c.zones.length cz,.slice ac c.cells.length cc,.slice at_ c.tenants.length ct,.slice av c.versions.length cv,.slice ar c.replicas.length cr,.slice ao c.observers.length co,.int .i64 c.blast,.int .i64 c.lease,.int .i64 c.bake],.agg #[.int .i64 s.tick,.int .i64 s.count,.slice sat s.tenants.length sct,.slice sac s.cells.length scc,.int .i64 s.proven,.int .i64 s.evac,.int .i64 s.low,.int .i64 s.high],.agg #[.int .i64 2,.int .i64 tick,.int .i64 tenant,.int .i64 cell,.int .i64 other,.int .i64 epoch,.int .i64 since,.int .i64 till,.int .i64 n]] yy.world fun r w'=>r=.returned (.int .i64 (grantE c s ⟨2,tick,tenant,cell,other,epoch,since,till,n⟩))∧Below yy.world.heap.size yy.world w'):=Lib.hid (fun yy=>stGrant_any ⟨az,cz,ac,cc,at_,ct,av,cv,ar,cr,ao,co⟩ c ⟨sat,sct,sac,scc⟩ s ⟨2,tick,tenant,cell,other,epoch,since,till,n⟩ yy.world HV.out (HWc.out.laterW yy) HI.out (HWs.out.laterW yy) ht.1 ht.2 hcl.1 hcl.2 htk hep hsi htl)
     go_wp2_with (go_at_call 108;(with_reducible refine (HKD.out _).mono ?_);rintro r wq ⟨rfl,hbq⟩;obtain⟨yq,rfl⟩:=later_next _ (Nat.le_refl _) hbq;clear hbq)
     go_ret
     exact⟨ret_i64 (by rw[HRF.out];rfl),HL.out.trans ((Later.below _).mono HL.out.size)⟩
    ·simp[inS,inR,fT,fC,fO,fE,fW,fN] at hT hC hO hE hS hU hN
     have ht:0≤tenant∧tenant<s.tenants.length:=by have:=HI.out.lt;omega
     have HKD:Hid (∀ yy:Later W.heap.size W,Calls Tryz.prog 109 #[.agg #[.int .i64 s.tick,.int .i64 s.count,.slice sat s.tenants.length sct,.slice sac s.cells.length scc,.int .i64 s.proven,.int .i64 s.evac,.int .i64 s.low,.int .i64 s.high],.agg #[.int .i64 3,.int .i64 tick,.int .i64 tenant,.int .i64 cell,.int .i64 other,.int .i64 epoch,.int .i64 since,.int .i64 till,.int .i64 n]] yy.world fun r w'=>r=.returned (.int .i64 (cutE s ⟨3,tick,tenant,cell,other,epoch,since,till,n⟩))∧Below yy.world.heap.size yy.world w'):=Lib.hid (fun yy=>stCut_any c ⟨sat,sct,sac,scc⟩ s ⟨3,tick,tenant,cell,other,epoch,since,till,n⟩ yy.world HV.out HI.out (HWs.out.laterW yy) ht.1 ht.2)
     go_wp2_with (go_at_call 109;(with_reducible refine (HKD.out _).mono ?_);rintro r wq ⟨rfl,hbq⟩;obtain⟨yq,rfl⟩:=later_next _ (Nat.le_refl _) hbq;clear hbq)
     go_ret
     exact⟨ret_i64 (by rw[HRF.out];rfl),HL.out.trans ((Later.below _).mono HL.out.size)⟩
    ·simp[inS,inR,fT,fC,fO,fE,fW,fN] at hT hC hO hE hS hU hN
     have ht:0≤tenant∧tenant<s.tenants.length:=by have:=HI.out.lt;omega
     have hcl:cell=-1∨(0≤cell∧cell<s.cells.length):=by have:=HI.out.lc;omega
     have HKD:Hid (∀ yy:Later W.heap.size W,Calls Tryz.prog 103 #[.agg #[.int .i64 c.regions,.slice az c.zones.length cz,.slice ac c.cells.length cc,.slice at_ c.tenants.length ct,.slice av c.versions.length cv,.slice ar c.replicas.length cr,.slice ao c.observers.length co,.int .i64 c.blast,.int .i64 c.lease,.int .i64 c.bake],.agg #[.int .i64 s.tick,.int .i64 s.count,.slice sat s.tenants.length sct,.slice sac s.cells.length scc,.int .i64 s.proven,.int .i64 s.evac,.int .i64 s.low,.int .i64 s.high],.agg #[.int .i64 4,.int .i64 tick,.int .i64 tenant,.int .i64 cell,.int .i64 other,.int .i64 epoch,.int .i64 since,.int .i64 till,.int .i64 n]] yy.world fun r w'=>r=.returned (.int .i64 (standbyE c s ⟨4,tick,tenant,cell,other,epoch,since,till,n⟩))∧Below yy.world.heap.size yy.world w'):=Lib.hid (fun yy=>stStandby_any ⟨az,cz,ac,cc,at_,ct,av,cv,ar,cr,ao,co⟩ c ⟨sat,sct,sac,scc⟩ s ⟨4,tick,tenant,cell,other,epoch,since,till,n⟩ yy.world HV.out (HWc.out.laterW yy) HI.out (HWs.out.laterW yy) ht.1 ht.2 hcl)
     go_wp2_with (go_at_call 103;(with_reducible refine (HKD.out _).mono ?_);rintro r wq ⟨rfl,hbq⟩;obtain⟨yq,rfl⟩:=later_next _ (Nat.le_refl _) hbq;clear hbq)
     go_ret
     exact⟨ret_i64 (by rw[HRF.out];rfl),HL.out.trans ((Later.below _).mono HL.out.size)⟩
    ·simp[inS,inR,fT,fC,fO,fE,fW,fN] at hT hC hO hE hS hU hN
     have ht:0≤tenant∧tenant<s.tenants.length:=by have:=HI.out.lt;omega
     have hcl:0≤cell∧cell<s.cells.length:=by have:=HI.out.lc;omega
     have HKD:Hid (∀ yy:Later W.heap.size W,Calls Tryz.prog 104 #[.agg #[.int .i64 s.tick,.int .i64 s.count,.slice sat s.tenants.length sct,.slice sac s.cells.length scc,.int .i64 s.proven,.int .i64 s.evac,.int .i64 s.low,.int .i64 s.high],.agg #[.int .i64 5,.int .i64 tick,.int .i64 tenant,.int .i64 cell,.int .i64 other,.int .i64 epoch,.int .i64 since,.int .i64 till,.int .i64 n]] yy.world fun r w'=>r=.returned (.int .i64 (readyE s ⟨5,tick,tenant,cell,other,epoch,since,till,n⟩))∧Below yy.world.heap.size yy.world w'):=Lib.hid (fun yy=>stReady_any c ⟨sat,sct,sac,scc⟩ s ⟨5,tick,tenant,cell,other,epoch,since,till,n⟩ yy.world HV.out HI.out (HWs.out.laterW yy) ht.1 ht.2 hcl)
     go_wp2_with (go_at_call 104;(with_reducible refine (HKD.out _).mono ?_);rintro r wq ⟨rfl,hbq⟩;obtain⟨yq,rfl⟩:=later_next _ (Nat.le_refl _) hbq;clear hbq)
     go_ret
     exact⟨ret_i64 (by rw[HRF.out];rfl),HL.out.trans ((Later.below _).mono HL.out.size)⟩
    ·simp[inS,inR,fT,fC,fO,fE,fW,fN] at hT hC hO hE hS hU hN
     have ht:0≤tenant∧tenant<s.tenants.length:=by have:=HI.out.lt;omega
     have hcl:0≤cell∧cell<s.cells.length:=by have:=HI.out.lc;omega
     have HKD:Hid (∀ yy:Later W.heap.size W,Calls Tryz.prog 105 #[.agg #[.int .i64 c.regions,.slice az c.zones.length cz,.slice ac c.cells.length cc,.slice at_ c.tenants.length ct,.slice av c.versions.length cv,.slice ar c.replicas.length cr,.slice ao c.observers.length co,.int .i64 c.blast,.int .i64 c.lease,.int .i64 c.bake],.agg #[.int .i64 s.tick,.int .i64 s.count,.slice sat s.tenants.length sct,.slice sac s.cells.length scc,.int .i64 s.proven,.int .i64 s.evac,.int .i64 s.low,.int .i64 s.high],.agg #[.int .i64 6,.int .i64 tick,.int .i64 tenant,.int .i64 cell,.int .i64 other,.int .i64 epoch,.int .i64 since,.int .i64 till,.int .i64 n]] yy.world fun r w'=>r=.returned (.int .i64 (migrateE c s ⟨6,tick,tenant,cell,other,epoch,since,till,n⟩))∧Below yy.world.heap.size yy.world w'):=Lib.hid (fun yy=>stMigrate_any ⟨az,cz,ac,cc,at_,ct,av,cv,ar,cr,ao,co⟩ c ⟨sat,sct,sac,scc⟩ s ⟨6,tick,tenant,cell,other,epoch,since,till,n⟩ yy.world HV.out (HWc.out.laterW yy) HI.out (HWs.out.laterW yy) ht.1 ht.2 hcl)
     go_wp2_with (go_at_call 105;(with_reducible refine (HKD.out _).mono ?_);rintro r wq ⟨rfl,hbq⟩;obtain⟨yq,rfl⟩:=later_next _ (Nat.le_refl _) hbq;clear hbq)
     go_ret
     exact⟨ret_i64 (by rw[HRF.out];rfl),HL.out.trans ((Later.below _).mono HL.out.size)⟩
    ·simp[inS,inR,fT,fC,fO,fE,fW,fN] at hT hC hO hE hS hU hN
     have ht:0≤tenant∧tenant<s.tenants.length:=by have:=HI.out.lt;omega
     have HKD:Hid (∀ yy:Later W.heap.size W,Calls Tryz.prog 106 #[.agg #[.int .i64 s.tick,.int .i64 s.count,.slice sat s.tenants.length sct,.slice sac s.cells.length scc,.int .i64 s.proven,.int .i64 s.evac,.int .i64 s.low,.int .i64 s.high],.agg #[.int .i64 7,.int .i64 tick,.int .i64 tenant,.int .i64 cell,.int .i64 other,.int .i64 epoch,.int .i64 since,.int .i64 till,.int .i64 n]] yy.world fun r w'=>r=.returned (.int .i64 (abandonE s ⟨7,tick,tenant,cell,other,epoch,since,till,n⟩))∧Below yy.world.heap.size yy.world w'):=Lib.hid (fun yy=>stAbandon_any c ⟨sat,sct,sac,scc⟩ s ⟨7,tick,tenant,cell,other,epoch,since,till,n⟩ yy.world HV.out HI.out (HWs.out.laterW yy) ht.1 ht.2)
     go_wp2_with (go_at_call 106;(with_reducible refine (HKD.out _).mono ?_);rintro r wq ⟨rfl,hbq⟩;obtain⟨yq,rfl⟩:=later_next _ (Nat.le_refl _) hbq;clear hbq)
     go_ret
     exact⟨ret_i64 (by rw[HRF.out];rfl),HL.out.trans ((Later.below _).mono HL.out.size)⟩
    ·simp[inS,inR,fT,fC,fO,fE,fW,fN] at hT hC hO hE hS hU hN
     have ht:0≤tenant∧tenant<s.tenants.length:=by have:=HI.out.lt;omega
     have HKD:Hid (∀ yy:Later W.heap.size W,Calls Tryz.prog 107 #[.agg #[.int .i64 s.tick,.int .i64 s.count,.slice sat s.tenants.length sct,.slice sac s.cells.length scc,.int .i64 s.proven,.int .i64 s.evac,.int .i64 s.low,.int .i64 s.high],.agg #[.int .i64 8,.int .i64 tick,.int .i64 tenant,.int .i64 cell,.int .i64 other,.int .i64 epoch,.int .i64 since,.int .i64 till,.int .i64 n]] yy.world fun r w'=>r=.returned (.int .i64 (shedE s ⟨8,tick,tenant,cell,other,epoch,since,till,n⟩))∧Below yy.world.heap.size yy.world w'):=Lib.hid (fun yy=>stShed_any c ⟨sat,sct,sac,scc⟩ s ⟨8,tick,tenant,cell,other,epoch,since,till,n⟩ yy.world HV.out HI.out (HWs.out.laterW yy) ht.1 ht.2)
     go_wp2_with (go_at_call 107;(with_reducible refine (HKD.out _).mono ?_);rintro r wq ⟨rfl,hbq⟩;obtain⟨yq,rfl⟩:=later_next _ (Nat.le_refl _) hbq;clear hbq)
     go_ret
     exact⟨ret_i64 (by rw[HRF.out];rfl),HL.out.trans ((Later.below _).mono HL.out.size)⟩
    ·simp[inS,inR,fT,fC,fO,fE,fW,fN] at hT hC hO hE hS hU hN
     have hcl:0≤cell∧cell<s.cells.length:=by have:=HI.out.lc;omega
     have HKD:Hid (∀ yy:Later W.heap.size W,Calls Tryz.prog 110 #[.agg #[.int .i64 s.tick,.int .i64 s.count,.slice sat s.tenants.length sct,.slice sac s.cells.length scc,.int .i64 s.proven,.int .i64 s.evac,.int .i64 s.low,.int .i64 s.high],.agg #[.int .i64 9,.int .i64 tick,.int .i64 tenant,.int .i64 cell,.int .i64 other,.int .i64 epoch,.int .i64 since,.int .i64 till,.int .i64 n]] yy.world fun r w'=>r=.returned (.int .i64 (modeE s ⟨9,tick,tenant,cell,other,epoch,since,till,n⟩))∧Below yy.world.heap.size yy.world w'):=Lib.hid (fun yy=>stMode_any c ⟨sat,sct,sac,scc⟩ s ⟨9,tick,tenant,cell,other,epoch,since,till,n⟩ yy.world HV.out HI.out (HWs.out.laterW yy) hcl.1 hcl.2)
     go_wp2_with (go_at_call 110;(with_reducible refine (HKD.out _).mono ?_);rintro r wq ⟨rfl,hbq⟩;obtain⟨yq,rfl⟩:=later_next _ (Nat.le_refl _) hbq;clear hbq)
     go_ret
     exact⟨ret_i64 (by rw[HRF.out];rfl),HL.out.trans ((Later.below _).mono HL.out.size)⟩
    ·simp[inS,inR,fT,fC,fO,fE,fW,fN] at hT hC hO hE hS hU hN
     have hcl:0≤cell∧cell<s.cells.length:=by have:=HI.out.lc;omega
     have hn:0≤n∧n<c.versions.length:=by omega
     have HKD:Hid (∀ yy:Later W.heap.size W,Calls Tryz.prog 111 #[.agg #[.int .i64 c.regions,.slice az c.zones.length cz,.slice ac c.cells.length cc,.slice at_ c.tenants.length ct,.slice av c.versions.length cv,.slice ar c.replicas.length cr,.slice ao c.observers.length co,.int .i64 c.blast,.int .i64 c.lease,.int .i64 c.bake],.agg #[.int .i64 s.tick,.int .i64 s.count,.slice sat s.tenants.length sct,.slice sac s.cells.length scc,.int .i64 s.proven,.int .i64 s.evac,.int .i64 s.low,.int .i64 s.high],.agg #[.int .i64 10,.int .i64 tick,.int .i64 tenant,.int .i64 cell,.int .i64 other,.int .i64 epoch,.int .i64 since,.int .i64 till,.int .i64 n]] yy.world fun r w'=>r=.returned (.int .i64 (wantE c s ⟨10,tick,tenant,cell,other,epoch,since,till,n⟩))∧Below yy.world.heap.size yy.world w'):=Lib.hid (fun yy=>stWant_any ⟨az,cz,ac,cc,at_,ct,av,cv,ar,cr,ao,co⟩ c ⟨sat,sct,sac,scc⟩ s ⟨10,tick,tenant,cell,other,epoch,since,till,n⟩ yy.world HV.out (HWc.out.laterW yy) HI.out (HWs.out.laterW yy) hcl.1 hcl.2 hn)
     go_wp2_with (go_at_call 111;(with_reducible refine (HKD.out _).mono ?_);rintro r wq ⟨rfl,hbq⟩;obtain⟨yq,rfl⟩:=later_next _ (Nat.le_refl _) hbq;clear hbq)
     go_ret
     exact⟨ret_i64 (by rw[HRF.out];rfl),HL.out.trans ((Later.below _).mono HL.out.size)⟩
    ·simp[inS,inR,fT,fC,fO,fE,fW,fN] at hT hC hO hE hS hU hN
     have hcl:0≤cell∧cell<s.cells.length:=by have:=HI.out.lc;omega
     have HKD:Hid (∀ yy:Later W.heap.size W,Calls Tryz.prog 112 #[.agg #[.int .i64 s.tick,.int .i64 s.count,.slice sat s.tenants.length sct,.slice sac s.cells.length scc,.int .i64 s.proven,.int .i64 s.evac,.int .i64 s.low,.int .i64 s.high],.agg #[.int .i64 11,.int .i64 tick,.int .i64 tenant,.int .i64 cell,.int .i64 other,.int .i64 epoch,.int .i64 since,.int .i64 till,.int .i64 n]] yy.world fun r w'=>r=.returned (.int .i64 (runsE s ⟨11,tick,tenant,cell,other,epoch,since,till,n⟩))∧Below yy.world.heap.size yy.world w'):=Lib.hid (fun yy=>stRuns_any c ⟨sat,sct,sac,scc⟩ s ⟨11,tick,tenant,cell,other,epoch,since,till,n⟩ yy.world HV.out HI.out (HWs.out.laterW yy) hcl.1 hcl.2)
     go_wp2_with (go_at_call 112;(with_reducible refine (HKD.out _).mono ?_);rintro r wq ⟨rfl,hbq⟩;obtain⟨yq,rfl⟩:=later_next _ (Nat.le_refl _) hbq;clear hbq)
     go_ret
     exact⟨ret_i64 (by rw[HRF.out];rfl),HL.out.trans ((Later.below _).mono HL.out.size)⟩
    ·simp[inS,inR,fT,fC,fO,fE,fW,fN] at hT hC hO hE hS hU hN
     have HKD:Hid (∀ yy:Later W.heap.size W,Calls Tryz.prog 113 #[.agg #[.int .i64 c.regions,.slice az c.zones.length cz,.slice ac c.cells.length cc,.slice at_ c.tenants.length ct,.slice av c.versions.length cv,.slice ar c.replicas.length cr,.slice ao c.observers.length co,.int .i64 c.blast,.int .i64 c.lease,.int .i64 c.bake],.agg #[.int .i64 s.tick,.int .i64 s.count,.slice sat s.tenants.length sct,.slice sac s.cells.length scc,.int .i64 s.proven,.int .i64 s.evac,.int .i64 s.low,.int .i64 s.high],.agg #[.int .i64 12,.int .i64 tick,.int .i64 tenant,.int .i64 cell,.int .i64 other,.int .i64 epoch,.int .i64 since,.int .i64 till,.int .i64 n]] yy.world fun r w'=>r=.returned (.int .i64 (proveE c s ⟨12,tick,tenant,cell,other,epoch,since,till,n⟩))∧Below yy.world.heap.size yy.world w'):=Lib.hid (fun yy=>stProve_any ⟨az,cz,ac,cc,at_,ct,av,cv,ar,cr,ao,co⟩ c ⟨sat,sct,sac,scc⟩ s ⟨12,tick,tenant,cell,other,epoch,since,till,n⟩ yy.world HV.out (HWc.out.laterW yy) HI.out (HWs.out.laterW yy) htk)
     go_wp2_with (go_at_call 113;(with_reducible refine (HKD.out _).mono ?_);rintro r wq ⟨rfl,hbq⟩;obtain⟨yq,rfl⟩:=later_next _ (Nat.le_refl _) hbq;clear hbq)
     go_ret
     exact⟨ret_i64 (by rw[HRF.out];rfl),HL.out.trans ((Later.below _).mono HL.out.size)⟩
    ·simp[inS,inR,fT,fC,fO,fE,fW,fN] at hT hC hO hE hS hU hN
     have HKD:Hid (∀ yy:Later W.heap.size W,Calls Tryz.prog 114 #[.agg #[.int .i64 s.tick,.int .i64 s.count,.slice sat s.tenants.length sct,.slice sac s.cells.length scc,.int .i64 s.proven,.int .i64 s.evac,.int .i64 s.low,.int .i64 s.high],.agg #[.int .i64 13,.int .i64 tick,.int .i64 tenant,.int .i64 cell,.int .i64 other,.int .i64 epoch,.int .i64 since,.int .i64 till,.int .i64 n]] yy.world fun r w'=>r=.returned (.int .i64 (evacE s ⟨13,tick,tenant,cell,other,epoch,since,till,n⟩))∧Below yy.world.heap.size yy.world w'):=Lib.hid (fun yy=>stEvac_any c ⟨sat,sct,sac,scc⟩ s ⟨13,tick,tenant,cell,other,epoch,since,till,n⟩ yy.world HV.out HI.out (HWs.out.laterW yy) )
     go_wp2_with (go_at_call 114;(with_reducible refine (HKD.out _).mono ?_);rintro r wq ⟨rfl,hbq⟩;obtain⟨yq,rfl⟩:=later_next _ (Nat.le_refl _) hbq;clear hbq)
     go_ret
     exact⟨ret_i64 (by rw[HRF.out];rfl),HL.out.trans ((Later.below _).mono HL.out.size)⟩
    ·simp[inS,inR,fT,fC,fO,fE,fW,fN] at hT hC hO hE hS hU hN
     have HKD:Hid (∀ yy:Later W.heap.size W,Calls Tryz.prog 115 #[.agg #[.int .i64 c.regions,.slice az c.zones.length cz,.slice ac c.cells.length cc,.slice at_ c.tenants.length ct,.slice av c.versions.length cv,.slice ar c.replicas.length cr,.slice ao c.observers.length co,.int .i64 c.blast,.int .i64 c.lease,.int .i64 c.bake],.agg #[.int .i64 s.tick,.int .i64 s.count,.slice sat s.tenants.length sct,.slice sac s.cells.length scc,.int .i64 s.proven,.int .i64 s.evac,.int .i64 s.low,.int .i64 s.high]] yy.world fun r w'=>r=.returned (.int .i64 (expandE c s))∧Below yy.world.heap.size yy.world w'):=Lib.hid (fun yy=>stExpand_any ⟨az,cz,ac,cc,at_,ct,av,cv,ar,cr,ao,co⟩ c ⟨sat,sct,sac,scc⟩ s yy.world HV.out (HWc.out.laterW yy) HI.out (HWs.out.laterW yy) )
     go_wp2_with (go_at_call 115;(with_reducible refine (HKD.out _).mono ?_);rintro r wq ⟨rfl,hbq⟩;obtain⟨yq,rfl⟩:=later_next _ (Nat.le_refl _) hbq;clear hbq)
     go_ret
     exact⟨ret_i64 (by rw[HRF.out];rfl),HL.out.trans ((Later.below _).mono HL.out.size)⟩
    ·simp[inS,inR,fT,fC,fO,fE,fW,fN] at hT hC hO hE hS hU hN
     have HKD:Hid (∀ yy:Later W.heap.size W,Calls Tryz.prog 116 #[.agg #[.int .i64 s.tick,.int .i64 s.count,.slice sat s.tenants.length sct,.slice sac s.cells.length scc,.int .i64 s.proven,.int .i64 s.evac,.int .i64 s.low,.int .i64 s.high]] yy.world fun r w'=>r=.returned (.int .i64 (contractE s))∧Below yy.world.heap.size yy.world w'):=Lib.hid (fun yy=>stContract_any c ⟨sat,sct,sac,scc⟩ s yy.world HV.out HI.out (HWs.out.laterW yy) )
     go_wp2_with (go_at_call 116;(with_reducible refine (HKD.out _).mono ?_);rintro r wq ⟨rfl,hbq⟩;obtain⟨yq,rfl⟩:=later_next _ (Nat.le_refl _) hbq;clear hbq)
     go_ret
     exact⟨ret_i64 (by rw[HRF.out];rfl),HL.out.trans ((Later.below _).mono HL.out.size)⟩
    ·simp[inS,inR,fT,fC,fO,fE,fW,fN] at hT hC hO hE hS hU hN
     go_wp2
     go_ret
     exact⟨ret_i64 (by rw[HRF.out];rfl),HL.out.trans ((Later.below _).mono HL.out.size)⟩
 ·have hv2:entV c ⟨kind,tick,tenant,cell,other,epoch,since,till,n⟩=false:=by simpa using hv
  have HRF:Hid (refusedE c s ⟨kind,tick,tenant,cell,other,epoch,since,till,n⟩=1):=Lib.hid (by unfold refusedE;rw[if_pos hv2])
  rw[hv2]
  clear hv hv2
  go_wp2
  go_ret
  exact⟨ret_i64 HRF.out.symm,HL.out.trans (yq.below.mono HL.out.size)⟩
end Go.Proofs.YtchhdflealgkaaaGreat
