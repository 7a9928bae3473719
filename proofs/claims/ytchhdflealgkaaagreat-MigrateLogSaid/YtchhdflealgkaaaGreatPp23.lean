import Derived.Test.YtchhdflealgkaaaGreatPp15
import Derived.Test.YtchhdflealgkaaaGreatPp22
namespace Go.Proofs.YtchhdflealgkaaaGreat
open Go.RowKit
set_option linter.unusedSimpArgs false
set_option linter.unusedVariables false
set_option maxHeartbeats 4000000 in
set_option maxRecDepth 100000 in
theorem entFits_any (e:Ent) (nt nc nr nv:Int) (w:World) (h0:0≤nt∧nt≤100) (h1:0≤nc∧nc≤100) (h2:0≤nr∧nr≤100) (h3:0≤nv∧nv≤100) :
  Calls Tryz.prog 156 #[.agg (entC e).toArray,.agg #[.int .i64 nt,.int .i64 nc,.int .i64 nr,.int .i64 nv]] w fun r w'=>r=.returned (.bool (entOk nt nc nr nv e))∧Below w.heap.size w w':=by
 obtain⟨kind,tick,tenant,cell,other,epoch,since,till,n⟩:=e
 unfold entC
 simp only
 have hL:Below w.heap.size w ((w.alloc (.cells #[.int .i64 kind,.int .i64 tick,.int .i64 tenant,.int .i64 cell,.int .i64 other,.int .i64 epoch,.int .i64 since,.int .i64 till,.int .i64 n] 56)).alloc (.cells #[.int .i64 nt,.int .i64 nc,.int .i64 nr,.int .i64 nv] 183)):=((Below.refl _ _).alloc (Nat.le_refl _) _).alloc (by simp) _
 have hBe:Blk ((w.alloc (.cells #[.int .i64 kind,.int .i64 tick,.int .i64 tenant,.int .i64 cell,.int .i64 other,.int .i64 epoch,.int .i64 since,.int .i64 till,.int .i64 n] 56)).alloc (.cells #[.int .i64 nt,.int .i64 nc,.int .i64 nr,.int .i64 nv] 183)) w.heap.size 56 #[.int .i64 kind,.int .i64 tick,.int .i64 tenant,.int .i64 cell,.int .i64 other,.int .i64 epoch,.int .i64 since,.int .i64 till,.int .i64 n]:=(Blk.new _ _ _).alloc _
 have hBb:Blk ((w.alloc (.cells #[.int .i64 kind,.int .i64 tick,.int .i64 tenant,.int .i64 cell,.int .i64 other,.int .i64 epoch,.int .i64 since,.int .i64 till,.int .i64 n] 56)).alloc (.cells #[.int .i64 nt,.int .i64 nc,.int .i64 nr,.int .i64 nv] 183)) (w.heap.size+1) 183 #[.int .i64 nt,.int .i64 nc,.int .i64 nr,.int .i64 nv]:=by
  have:=Blk.new (w.alloc (.cells #[.int .i64 kind,.int .i64 tick,.int .i64 tenant,.int .i64 cell,.int .i64 other,.int .i64 epoch,.int .i64 since,.int .i64 till,.int .i64 n] 56)) 183 #[.int .i64 nt,.int .i64 nc,.int .i64 nr,.int .i64 nv]
  simpa using this
 go_enter Tryz.func156,Tryz.ntmps156
 go_upto_region 1 with fail
 generalize (w.alloc _).alloc _=W at *
 have v0:=hBe.cell' (i:=0) (v:=.int .i64 kind) rfl
 have v1:=hBe.cell' (i:=1) (v:=.int .i64 tick) rfl
 have v2:=hBe.cell' (i:=2) (v:=.int .i64 tenant) rfl
 have v3:=hBe.cell' (i:=3) (v:=.int .i64 cell) rfl
 have v4:=hBe.cell' (i:=4) (v:=.int .i64 other) rfl
 have v5:=hBe.cell' (i:=5) (v:=.int .i64 epoch) rfl
 have v6:=hBe.cell' (i:=6) (v:=.int .i64 since) rfl
 have v7:=hBe.cell' (i:=7) (v:=.int .i64 till) rfl
 have v8:=hBe.cell' (i:=8) (v:=.int .i64 n) rfl
 have q0:=hBb.cell' (i:=0) (v:=.int .i64 nt) rfl
 have q1:=hBb.cell' (i:=1) (v:=.int .i64 nc) rfl
 have q2:=hBb.cell' (i:=2) (v:=.int .i64 nr) rfl
 have q3:=hBb.cell' (i:=3) (v:=.int .i64 nv) rfl
 have hge:=hBe.lt
 have hgb:=hBb.lt
 have HBe:=Lib.hid hBe
 have HL:=Lib.hid hL
 clear hBe hBb hL
 go_wp2_with fail
 refine (entFormOf_any kind nt nc nr nv W h0 h1 h2 h3).mono ?_
 rintro r wy ⟨rfl,hby⟩
 by_cases hk:inR kind 1 16=true
 ·have HR:Hid (entOk nt nc nr nv ⟨kind,tick,tenant,cell,other,epoch,since,till,n⟩=(inR tick 0 1073741824&&inR tenant (fT nt kind).1 (fT nt kind).2&&inR cell (fC nc kind).1 (fC nc kind).2&&inR other (fO nc nr kind).1 (fO nc nr kind).2&&inR epoch (fE kind).1 (fE kind).2&&inR since (fW kind).1 (fW kind).2&&inR till (fW kind).1 (fW kind).2&&inR n (fN nv kind).1 (fN nv kind).2&&(decide (kind≠1)||decide (other≠cell)))):=Lib.hid (by simp[entOk,inS,hk])
  have hfo:formC nt nc nr nv kind=#[.int .i64 (fT nt kind).1,.int .i64 (fT nt kind).2,.int .i64 (fC nc kind).1,.int .i64 (fC nc kind).2,.int .i64 (fO nc nr kind).1,.int .i64 (fO nc nr kind).2,.int .i64 (fE kind).1,.int .i64 (fE kind).2,.int .i64 (fW kind).1,.int .i64 (fW kind).2,.int .i64 (fN nv kind).1,.int .i64 (fN nv kind).2]:=if_pos hk
  rw[hfo,hk]
  clear hfo hk h0 h1 h2 h3
  have hBf:=Blk.new wy 199 #[.int .i64 (fT nt kind).1,.int .i64 (fT nt kind).2,.int .i64 (fC nc kind).1,.int .i64 (fC nc kind).2,.int .i64 (fO nc nr kind).1,.int .i64 (fO nc nr kind).2,.int .i64 (fE kind).1,.int .i64 (fE kind).2,.int .i64 (fW kind).1,.int .i64 (fW kind).2,.int .i64 (fN nv kind).1,.int .i64 (fN nv kind).2]
  have hL2:=(Below.refl wy.heap.size wy).alloc (Nat.le_refl _) (.cells #[.int .i64 (fT nt kind).1,.int .i64 (fT nt kind).2,.int .i64 (fC nc kind).1,.int .i64 (fC nc kind).2,.int .i64 (fO nc nr kind).1,.int .i64 (fO nc nr kind).2,.int .i64 (fE kind).1,.int .i64 (fE kind).2,.int .i64 (fW kind).1,.int .i64 (fW kind).2,.int .i64 (fN nv kind).1,.int .i64 (fN nv kind).2] 199)
  have hBe2:=(HBe.out.below hby HBe.out.lt).below hL2 ((HBe.out.below hby HBe.out.lt).lt)
  have hLL:=(HL.out.trans (hby.mono HL.out.size)).trans (hL2.mono (HL.out.trans (hby.mono HL.out.size)).size)
  clear v0 v1 v2 v3 v4 v5 v6 v7 v8 q0 q1 q2 q3 hge hgb HBe HL hby
  go_upto_region 2 with fail
  generalize wy.alloc _=W2 at *
  clear hL2
  have v0:=hBe2.cell' (i:=0) (v:=.int .i64 kind) rfl
  have v1:=hBe2.cell' (i:=1) (v:=.int .i64 tick) rfl
  have v2:=hBe2.cell' (i:=2) (v:=.int .i64 tenant) rfl
  have v3:=hBe2.cell' (i:=3) (v:=.int .i64 cell) rfl
  have v4:=hBe2.cell' (i:=4) (v:=.int .i64 other) rfl
  have v5:=hBe2.cell' (i:=5) (v:=.int .i64 epoch) rfl
  have v6:=hBe2.cell' (i:=6) (v:=.int .i64 since) rfl
  have v7:=hBe2.cell' (i:=7) (v:=.int .i64 till) rfl
  have v8:=hBe2.cell' (i:=8) (v:=.int .i64 n) rfl
  have p0:=hBf.cell' (i:=0) (v:=.int .i64 (fT nt kind).1) rfl
  have p1:=hBf.cell' (i:=1) (v:=.int .i64 (fT nt kind).2) rfl
  have p2:=hBf.cell' (i:=2) (v:=.int .i64 (fC nc kind).1) rfl
  have p3:=hBf.cell' (i:=3) (v:=.int .i64 (fC nc kind).2) rfl
  have p4:=hBf.cell' (i:=4) (v:=.int .i64 (fO nc nr kind).1) rfl
  have p5:=hBf.cell' (i:=5) (v:=.int .i64 (fO nc nr kind).2) rfl
  have p6:=hBf.cell' (i:=6) (v:=.int .i64 (fE kind).1) rfl
  have p7:=hBf.cell' (i:=7) (v:=.int .i64 (fE kind).2) rfl
  have p8:=hBf.cell' (i:=8) (v:=.int .i64 (fW kind).1) rfl
  have p9:=hBf.cell' (i:=9) (v:=.int .i64 (fW kind).2) rfl
  have p10:=hBf.cell' (i:=10) (v:=.int .i64 (fN nv kind).1) rfl
  have p11:=hBf.cell' (i:=11) (v:=.int .i64 (fN nv kind).2) rfl
  have hge:=hBe2.lt
  have hgf:=hBf.lt
  have HL:=Lib.hid hLL
  clear hBe2 hBf hLL
  generalize wy.heap.size=gf at *
  have hx:∀ (y:Later W2.heap.size W2) b o,b<W2.heap.size→y.world.cell? ⟨b,o,none⟩=W2.cell? ⟨b,o,none⟩:=fun y b o h=>y.cell h
  refine start_later W2.heap.size ?_
  intro y0
  have HT:Hid (inR tick 0 1073741824=(decide (0≤tick)&&decide (tick≤1073741824))):=Lib.hid rfl
  generalize fT nt kind=f1 at *
  generalize fC nc kind=f2 at *
  generalize fO nc nr kind=f3 at *
  generalize fE kind=f4 at *
  generalize fW kind=f5 at *
  generalize fN nv kind=f6 at *
  go_wp2_with (go_at_call 184;(with_reducible refine (entHas_any _ _ _ _).mono ?_);rintro r wq ⟨rfl,hbq⟩;obtain⟨yq,rfl⟩:=later_next _ (Nat.le_refl _) hbq;clear hbq)
  all_goals
   go_ret
   refine⟨ret_bool ?_,(by first | exact HL.out | exact HL.out.trans ((Later.below _).mono HL.out.size))⟩
   go_light
   first | rw[HR.out,HT.out] | (obtain rfl:kind=1:=(by clear HR HL HT;simp_all);rw[HR.out,HT.out])
   clear HR HL HT
   simp_all
   try omega
 ·have hk:inR kind 1 16=false:=by simpa using hk
  have HR:Hid (entOk nt nc nr nv ⟨kind,tick,tenant,cell,other,epoch,since,till,n⟩=false):=Lib.hid (by simp[entOk,hk])
  have hfo:formC nt nc nr nv kind=#[.int .i64 0,.int .i64 0,.int .i64 0,.int .i64 0,.int .i64 0,.int .i64 0,.int .i64 0,.int .i64 0,.int .i64 0,.int .i64 0,.int .i64 0,.int .i64 0]:=if_neg (by simp[hk])
  have hLL:=HL.out.trans (hby.mono HL.out.size)
  have HLL:=Lib.hid (hLL.alloc hLL.size (.cells #[.int .i64 0,.int .i64 0,.int .i64 0,.int .i64 0,.int .i64 0,.int .i64 0,.int .i64 0,.int .i64 0,.int .i64 0,.int .i64 0,.int .i64 0,.int .i64 0] 199))
  rw[hfo,hk]
  clear hfo hk h0 h1 h2 h3 hby hLL v0 v1 v2 v3 v4 v5 v6 v7 v8 q0 q1 q2 q3 hge hgb HBe
  go_wp2
  go_ret
  exact⟨ret_bool HR.out.symm,HLL.out⟩
theorem shape_of {c:Cfg} {e:Ent} (hV:CfgV c) (h:entV c e=true):entOk 32 16 4 30 e=true:=by
 have hk:=ent_kind h
 obtain⟨hti,hT,hC,hO,hE,hS,hU,hN,hne⟩:=ent_rng h
 have h1:=hV.nt
 have h2:=hV.nc
 have h3:=hV.reg
 have h4:=hV.nv
 obtain⟨kind,tick,tenant,cell,other,epoch,since,till,n⟩:=e
 simp only at *
 clear h hV
 rcases hk with rfl | rfl | rfl | rfl | rfl | rfl | rfl | rfl | rfl | rfl | rfl | rfl | rfl | rfl | rfl | rfl
 all_goals
  simp[inS,inR,fT,fC,fO,fE,fW,fN] at hT hC hO hE hS hU hN hne
  simp[entOk,inS,inR,fT,fC,fO,fE,fW,fN]
  try omega
set_option maxHeartbeats 2000000 in
theorem entShape_any (e:Ent) (w:World):Calls Tryz.prog 155 #[.agg (entC e).toArray] w fun r w'=>r=.returned (.bool (entOk 32 16 4 30 e))∧Below w.heap.size w w':=by
 have HF:=Lib.hid (fun W=>entFits_any e 32 16 4 30 W (by omega) (by omega) (by omega) (by omega))
 obtain⟨kind,tick,tenant,cell,other,epoch,since,till,n⟩:=e
 unfold entC at *
 simp only at *
 have hbx:=Blk.new w 56 #[.int .i64 kind,.int .i64 tick,.int .i64 tenant,.int .i64 cell,.int .i64 other,.int .i64 epoch,.int .i64 since,.int .i64 till,.int .i64 n]
 have hbel:=(Below.refl w.heap.size w).alloc (Nat.le_refl _) (.cells #[.int .i64 kind,.int .i64 tick,.int .i64 tenant,.int .i64 cell,.int .i64 other,.int .i64 epoch,.int .i64 since,.int .i64 till,.int .i64 n] 56)
 have c0:=hbx.cell' (i:=0) (v:=.int .i64 kind) rfl
 have c1:=hbx.cell' (i:=1) (v:=.int .i64 tick) rfl
 have c2:=hbx.cell' (i:=2) (v:=.int .i64 tenant) rfl
 have c3:=hbx.cell' (i:=3) (v:=.int .i64 cell) rfl
 have c4:=hbx.cell' (i:=4) (v:=.int .i64 other) rfl
 have c5:=hbx.cell' (i:=5) (v:=.int .i64 epoch) rfl
 have c6:=hbx.cell' (i:=6) (v:=.int .i64 since) rfl
 have c7:=hbx.cell' (i:=7) (v:=.int .i64 till) rfl
 have c8:=hbx.cell' (i:=8) (v:=.int .i64 n) rfl
 go_enter Tryz.func155,Tryz.ntmps155
 go_wp2_with fail
 refine (HF.out _).mono ?_
 rintro x w1 ⟨rfl,hb1⟩
 replace hbel:=hbel.trans (hb1.mono hbel.size)
 clear hbx c0 c1 c2 c3 c4 c5 c6 c7 c8 hb1 HF
 go_wp2
 go_ret
 exact⟨rfl,hbel⟩
set_option maxHeartbeats 2000000 in
theorem entValid_any (x:CfgA) (c:Cfg) (e:Ent) (w:World) (hV:CfgV c) :
  Calls Tryz.prog 101 #[.agg (cfgC x c),.agg (entC e).toArray] w fun r w'=>r=.returned (.bool (entV c e))∧Below w.heap.size w w':=by
 have hSh:=shape_of (e:=e) hV
 have h1:=hV.nt
 have h2:=hV.nc
 have h3:=hV.reg
 have h4:=hV.nv
 have HF:=Lib.hid (fun W=>entFits_any e c.tenants.length c.cells.length c.regions c.versions.length W (by omega) (by omega) (by omega) (by omega))
 have HS:=Lib.hid (fun W=>entShape_any e W)
 have HE:Hid (entOk (c.tenants.length:Int) c.cells.length c.regions c.versions.length e=entV c e):=Lib.hid rfl
 obtain⟨az,cz,ac,cc,at_,ct,av,cv,ar,cr,ao,co⟩:=x
 obtain⟨kind,tick,tenant,cell,other,epoch,since,till,n⟩:=e
 have HSh:=Lib.hid hSh
 clear hSh hV
 unfold entC at HF HS
 simp only at HF HS
 have hL:Below w.heap.size w ((w.alloc (.cells #[.int .i64 c.regions,.slice az c.zones.length cz,.slice ac c.cells.length cc,.slice at_ c.tenants.length ct,.slice av c.versions.length cv,.slice ar c.replicas.length cr,.slice ao c.observers.length co,.int .i64 c.blast,.int .i64 c.lease,.int .i64 c.bake] 31)).alloc (.cells #[.int .i64 kind,.int .i64 tick,.int .i64 tenant,.int .i64 cell,.int .i64 other,.int .i64 epoch,.int .i64 since,.int .i64 till,.int .i64 n] 56)):=(((Below.refl w.heap.size w).alloc (by simp<;>omega) (.cells #[.int .i64 c.regions,.slice az c.zones.length cz,.slice ac c.cells.length cc,.slice at_ c.tenants.length ct,.slice av c.versions.length cv,.slice ar c.replicas.length cr,.slice ao c.observers.length co,.int .i64 c.blast,.int .i64 c.lease,.int .i64 c.bake] 31)).alloc (by simp<;>omega) (.cells #[.int .i64 kind,.int .i64 tick,.int .i64 tenant,.int .i64 cell,.int .i64 other,.int .i64 epoch,.int .i64 since,.int .i64 till,.int .i64 n] 56))
 have hBc:Blk ((w.alloc (.cells #[.int .i64 c.regions,.slice az c.zones.length cz,.slice ac c.cells.length cc,.slice at_ c.tenants.length ct,.slice av c.versions.length cv,.slice ar c.replicas.length cr,.slice ao c.observers.length co,.int .i64 c.blast,.int .i64 c.lease,.int .i64 c.bake] 31)).alloc (.cells #[.int .i64 kind,.int .i64 tick,.int .i64 tenant,.int .i64 cell,.int .i64 other,.int .i64 epoch,.int .i64 since,.int .i64 till,.int .i64 n] 56)) (w.heap.size) 31 #[.int .i64 c.regions,.slice az c.zones.length cz,.slice ac c.cells.length cc,.slice at_ c.tenants.length ct,.slice av c.versions.length cv,.slice ar c.replicas.length cr,.slice ao c.observers.length co,.int .i64 c.blast,.int .i64 c.lease,.int .i64 c.bake]:=by
  have:=((Blk.new w 31 #[.int .i64 c.regions,.slice az c.zones.length cz,.slice ac c.cells.length cc,.slice at_ c.tenants.length ct,.slice av c.versions.length cv,.slice ar c.replicas.length cr,.slice ao c.observers.length co,.int .i64 c.blast,.int .i64 c.lease,.int .i64 c.bake]).alloc (.cells #[.int .i64 kind,.int .i64 tick,.int .i64 tenant,.int .i64 cell,.int .i64 other,.int .i64 epoch,.int .i64 since,.int .i64 till,.int .i64 n] 56))
  simpa using this
 have hBe:Blk ((w.alloc (.cells #[.int .i64 c.regions,.slice az c.zones.length cz,.slice ac c.cells.length cc,.slice at_ c.tenants.length ct,.slice av c.versions.length cv,.slice ar c.replicas.length cr,.slice ao c.observers.length co,.int .i64 c.blast,.int .i64 c.lease,.int .i64 c.bake] 31)).alloc (.cells #[.int .i64 kind,.int .i64 tick,.int .i64 tenant,.int .i64 cell,.int .i64 other,.int .i64 epoch,.int .i64 since,.int .i64 till,.int .i64 n] 56)) (w.heap.size+1) 56 #[.int .i64 kind,.int .i64 tick,.int .i64 tenant,.int .i64 cell,.int .i64 other,.int .i64 epoch,.int .i64 since,.int .i64 till,.int .i64 n]:=by
  have:=(Blk.new (w.alloc (.cells #[.int .i64 c.regions,.slice az c.zones.length cz,.slice ac c.cells.length cc,.slice at_ c.tenants.length ct,.slice av c.versions.length cv,.slice ar c.replicas.length cr,.slice ao c.observers.length co,.int .i64 c.blast,.int .i64 c.lease,.int .i64 c.bake] 31)) 56 #[.int .i64 kind,.int .i64 tick,.int .i64 tenant,.int .i64 cell,.int .i64 other,.int .i64 epoch,.int .i64 since,.int .i64 till,.int .i64 n])
  simpa using this
 unfold cfgC entC
 simp only
 go_enter Tryz.func101,Tryz.ntmps101
 go_upto_region 1 with fail
 generalize (w.alloc _).alloc _=W at *
 have hgc:=hBc.lt
 have d0:=hBc.cell' (i:=0) (v:=.int .i64 c.regions) rfl
 have d1:=hBc.cell' (i:=1) (v:=.slice az c.zones.length cz) rfl
 have d2:=hBc.cell' (i:=2) (v:=.slice ac c.cells.length cc) rfl
 have d3:=hBc.cell' (i:=3) (v:=.slice at_ c.tenants.length ct) rfl
 have d4:=hBc.cell' (i:=4) (v:=.slice av c.versions.length cv) rfl
 have d5:=hBc.cell' (i:=5) (v:=.slice ar c.replicas.length cr) rfl
 have d6:=hBc.cell' (i:=6) (v:=.slice ao c.observers.length co) rfl
 have d7:=hBc.cell' (i:=7) (v:=.int .i64 c.blast) rfl
 have d8:=hBc.cell' (i:=8) (v:=.int .i64 c.lease) rfl
 have d9:=hBc.cell' (i:=9) (v:=.int .i64 c.bake) rfl
 clear hBc
 have hge:=hBe.lt
 have v0:=hBe.cell' (i:=0) (v:=.int .i64 kind) rfl
 have v1:=hBe.cell' (i:=1) (v:=.int .i64 tick) rfl
 have v2:=hBe.cell' (i:=2) (v:=.int .i64 tenant) rfl
 have v3:=hBe.cell' (i:=3) (v:=.int .i64 cell) rfl
 have v4:=hBe.cell' (i:=4) (v:=.int .i64 other) rfl
 have v5:=hBe.cell' (i:=5) (v:=.int .i64 epoch) rfl
 have v6:=hBe.cell' (i:=6) (v:=.int .i64 since) rfl
 have v7:=hBe.cell' (i:=7) (v:=.int .i64 till) rfl
 have v8:=hBe.cell' (i:=8) (v:=.int .i64 n) rfl
 clear hBe
 have HL:=Lib.hid hL
 clear hL
 have hx:∀ (y:Later W.heap.size W) b o,b<W.heap.size→y.world.cell? ⟨b,o,none⟩=W.cell? ⟨b,o,none⟩:=fun y b o h=>y.cell h
 refine start_later W.heap.size ?_
 intro y0
 go_wp2_with fail
 refine (HS.out _).mono ?_
 rintro r wq ⟨rfl,hbq⟩
 obtain⟨yq,rfl⟩:=later_next _ (Nat.le_refl _) hbq
 clear hbq
 by_cases hsh:entOk 32 16 4 30 ⟨kind,tick,tenant,cell,other,epoch,since,till,n⟩=true
 ·rw[hsh]
  go_wp2_with fail
  refine (HF.out _).mono ?_
  rintro r wq ⟨rfl,hbq⟩
  obtain⟨yr,rfl⟩:=later_next _ (Nat.le_refl _) hbq
  clear hbq
  go_wp2
  go_ret
  exact⟨ret_bool HE.out,HL.out.trans (yr.below.mono HL.out.size)⟩
 ·have hsh2:entOk 32 16 4 30 ⟨kind,tick,tenant,cell,other,epoch,since,till,n⟩=false:=by simpa using hsh
  have HN:Hid (entV c ⟨kind,tick,tenant,cell,other,epoch,since,till,n⟩=false):=Lib.hid (by rw[Bool.eq_false_iff];exact fun h=>hsh (HSh.out h))
  rw[hsh2]
  clear hsh hsh2
  go_wp2
  go_ret
  exact⟨ret_bool HN.out.symm,HL.out.trans (yq.below.mono HL.out.size)⟩
end Go.Proofs.YtchhdflealgkaaaGreat
