import Derived.Test.YtchhdflealgkaaaGreatPp19
namespace Go.Proofs.YtchhdflealgkaaaGreat
open Go.RowKit
set_option linter.unusedSimpArgs false
set_option linter.unusedVariables false
theorem tsSize:(Tryz.prog.info? 64).map (·.size)=some 12:=by kernel_rfl
theorem csSize:(Tryz.prog.info? 78).map (·.size)=some 4:=by kernel_rfl
set_option maxHeartbeats 60000000 in
set_option maxRecDepth 100000 in
theorem stGrant_any (x:CfgA) (c:Cfg) (y:StA) (s:St) (e:Ent) (w:World) (hV:CfgV c) (hc:CfgOk w (·<w.heap.size) x c) (hI:StInv c s) (hs:StOk w (·<w.heap.size) y s) (ht0:0≤e.tenant) (ht1:e.tenant<s.tenants.length) (hx0:0≤e.cell) (hx1:e.cell<s.cells.length) (htk:0≤e.tick∧e.tick≤1073741824) (hep:0≤e.epoch∧e.epoch≤1048576) (hsi:0≤e.since∧e.since≤1073741824) (htl:0≤e.till∧e.till≤1073741824) :
  Calls Tryz.prog 108 #[.agg (cfgC x c),.agg (stC y s),.agg (entC e).toArray] w fun r w'=>r=.returned (.int .i64 (grantE c s e))∧Below w.heap.size w w':=by
 have hnc:=hV.nc
 have hntt:=hV.nt
 obtain⟨az,cz,ac,cc,at_,ct,av,cv,ar,cr,ao,co⟩:=x
 have HV:=Lib.hid hV
 have HKc:=Lib.hid hc
 clear hV hc
 obtain⟨sat,sct,sac,scc⟩:=y
 have HKs:=Lib.hid hs
 have hsl:1≤s.cells.length∧s.cells.length≤16:=by have:=hI.lc;omega
 have hst:s.tenants.length≤32:=by have:=hI.lt;omega
 have HI:=Lib.hid hI
 clear hs hI
 obtain⟨kind,tick,tenant,cell,other,epoch,since,till,n⟩:=e
 try simp only at *
 obtain⟨tn,rfl⟩:=Int.eq_ofNat_of_zero_le ht0
 have htn:tn<s.tenants.length:=by omega
 obtain⟨bt,oft,t,rfl,hbt,hzt,hct⟩:=HKs.out.tenants.row (enc:=tsC) (sz:=12) (fun _=>rfl) (by omega) htn
 have HT:Hid (tsAt s tn=t):=Lib.hid (by unfold tsAt;rw[Int.toNat_natCast,getD_some hzt])
 have HTI:=Lib.hid (HI.out.ten _ (List.mem_of_getElem? hzt))
 have hbt1:bt<w.heap.size:=hbt
 obtain⟨xn,rfl⟩:=Int.eq_ofNat_of_zero_le hx0
 have hxn:xn<s.cells.length:=by omega
 obtain⟨bx,ofx,x,rfl,hbx,hzx,hcx⟩:=HKs.out.cells.row (enc:=csC) (sz:=4) (fun _=>rfl) (by omega) hxn
 have HX:Hid (csAt s xn=x):=Lib.hid (by unfold csAt;rw[Int.toNat_natCast,getD_some hzx])
 have HXI:=Lib.hid (HI.out.cel _ (List.mem_of_getElem? hzx))
 have hbx1:bx<w.heap.size:=hbx
 have HR:Hid (grantE c s ⟨kind,tick,tn,xn,other,epoch,since,till,n⟩=if t.placed=false∨(t.shed=true∧(xn:Int)≠t.standby) then 4 else if (xn:Int)≠t.home∧(xn:Int)≠t.standby∧(xn:Int)≠t.target then 5 else if x.mode=3∨(x.mode=2∧(xn:Int)≠t.home) then 6 else if epoch≠t.epoch+1∧¬ ((xn:Int)=t.home∧epoch=t.epoch) then 7 else if n≠x.running∨x.running≠x.wanted then 8 else if since<tick∨tick+c.lease<since∨till≤since∨c.lease<till-since∨since<t.win.till∨((xn:Int)≠t.home∧tick<t.win.till) then 9 else 0):=Lib.hid (by unfold grantE;rw[HT.out,HX.out])
 have hls:=HV.out.lease
 have hte:=HTI.out.epoch
 have htw:=HTI.out.wtill
 have hL:Below w.heap.size w (((w.alloc (.cells #[.int .i64 c.regions,.slice az c.zones.length cz,.slice ac c.cells.length cc,.slice at_ c.tenants.length ct,.slice av c.versions.length cv,.slice ar c.replicas.length cr,.slice ao c.observers.length co,.int .i64 c.blast,.int .i64 c.lease,.int .i64 c.bake] 31)).alloc (.cells #[.int .i64 s.tick,.int .i64 s.count,.slice (some ⟨bt,oft,none⟩) s.tenants.length sct,.slice (some ⟨bx,ofx,none⟩) s.cells.length scc,.int .i64 s.proven,.int .i64 s.evac,.int .i64 s.low,.int .i64 s.high] 53)).alloc (.cells #[.int .i64 kind,.int .i64 tick,.int .i64 tn,.int .i64 xn,.int .i64 other,.int .i64 epoch,.int .i64 since,.int .i64 till,.int .i64 n] 56)):=((((Below.refl w.heap.size w).alloc (by simp<;>omega) (.cells #[.int .i64 c.regions,.slice az c.zones.length cz,.slice ac c.cells.length cc,.slice at_ c.tenants.length ct,.slice av c.versions.length cv,.slice ar c.replicas.length cr,.slice ao c.observers.length co,.int .i64 c.blast,.int .i64 c.lease,.int .i64 c.bake] 31)).alloc (by simp<;>omega) (.cells #[.int .i64 s.tick,.int .i64 s.count,.slice (some ⟨bt,oft,none⟩) s.tenants.length sct,.slice (some ⟨bx,ofx,none⟩) s.cells.length scc,.int .i64 s.proven,.int .i64 s.evac,.int .i64 s.low,.int .i64 s.high] 53)).alloc (by simp<;>omega) (.cells #[.int .i64 kind,.int .i64 tick,.int .i64 tn,.int .i64 xn,.int .i64 other,.int .i64 epoch,.int .i64 since,.int .i64 till,.int .i64 n] 56))
 have hBc:Blk (((w.alloc (.cells #[.int .i64 c.regions,.slice az c.zones.length cz,.slice ac c.cells.length cc,.slice at_ c.tenants.length ct,.slice av c.versions.length cv,.slice ar c.replicas.length cr,.slice ao c.observers.length co,.int .i64 c.blast,.int .i64 c.lease,.int .i64 c.bake] 31)).alloc (.cells #[.int .i64 s.tick,.int .i64 s.count,.slice (some ⟨bt,oft,none⟩) s.tenants.length sct,.slice (some ⟨bx,ofx,none⟩) s.cells.length scc,.int .i64 s.proven,.int .i64 s.evac,.int .i64 s.low,.int .i64 s.high] 53)).alloc (.cells #[.int .i64 kind,.int .i64 tick,.int .i64 tn,.int .i64 xn,.int .i64 other,.int .i64 epoch,.int .i64 since,.int .i64 till,.int .i64 n] 56)) (w.heap.size) 31 #[.int .i64 c.regions,.slice az c.zones.length cz,.slice ac c.cells.length cc,.slice at_ c.tenants.length ct,.slice av c.versions.length cv,.slice ar c.replicas.length cr,.slice ao c.observers.length co,.int .i64 c.blast,.int .i64 c.lease,.int .i64 c.bake]:=by
  have:=(((Blk.new w 31 #[.int .i64 c.regions,.slice az c.zones.length cz,.slice ac c.cells.length cc,.slice at_ c.tenants.length ct,.slice av c.versions.length cv,.slice ar c.replicas.length cr,.slice ao c.observers.length co,.int .i64 c.blast,.int .i64 c.lease,.int .i64 c.bake]).alloc (.cells #[.int .i64 s.tick,.int .i64 s.count,.slice (some ⟨bt,oft,none⟩) s.tenants.length sct,.slice (some ⟨bx,ofx,none⟩) s.cells.length scc,.int .i64 s.proven,.int .i64 s.evac,.int .i64 s.low,.int .i64 s.high] 53)).alloc (.cells #[.int .i64 kind,.int .i64 tick,.int .i64 tn,.int .i64 xn,.int .i64 other,.int .i64 epoch,.int .i64 since,.int .i64 till,.int .i64 n] 56))
  simpa using this
 have hBs:Blk (((w.alloc (.cells #[.int .i64 c.regions,.slice az c.zones.length cz,.slice ac c.cells.length cc,.slice at_ c.tenants.length ct,.slice av c.versions.length cv,.slice ar c.replicas.length cr,.slice ao c.observers.length co,.int .i64 c.blast,.int .i64 c.lease,.int .i64 c.bake] 31)).alloc (.cells #[.int .i64 s.tick,.int .i64 s.count,.slice (some ⟨bt,oft,none⟩) s.tenants.length sct,.slice (some ⟨bx,ofx,none⟩) s.cells.length scc,.int .i64 s.proven,.int .i64 s.evac,.int .i64 s.low,.int .i64 s.high] 53)).alloc (.cells #[.int .i64 kind,.int .i64 tick,.int .i64 tn,.int .i64 xn,.int .i64 other,.int .i64 epoch,.int .i64 since,.int .i64 till,.int .i64 n] 56)) (w.heap.size+1) 53 #[.int .i64 s.tick,.int .i64 s.count,.slice (some ⟨bt,oft,none⟩) s.tenants.length sct,.slice (some ⟨bx,ofx,none⟩) s.cells.length scc,.int .i64 s.proven,.int .i64 s.evac,.int .i64 s.low,.int .i64 s.high]:=by
  have:=((Blk.new (w.alloc (.cells #[.int .i64 c.regions,.slice az c.zones.length cz,.slice ac c.cells.length cc,.slice at_ c.tenants.length ct,.slice av c.versions.length cv,.slice ar c.replicas.length cr,.slice ao c.observers.length co,.int .i64 c.blast,.int .i64 c.lease,.int .i64 c.bake] 31)) 53 #[.int .i64 s.tick,.int .i64 s.count,.slice (some ⟨bt,oft,none⟩) s.tenants.length sct,.slice (some ⟨bx,ofx,none⟩) s.cells.length scc,.int .i64 s.proven,.int .i64 s.evac,.int .i64 s.low,.int .i64 s.high]).alloc (.cells #[.int .i64 kind,.int .i64 tick,.int .i64 tn,.int .i64 xn,.int .i64 other,.int .i64 epoch,.int .i64 since,.int .i64 till,.int .i64 n] 56))
  simpa using this
 have hBe:Blk (((w.alloc (.cells #[.int .i64 c.regions,.slice az c.zones.length cz,.slice ac c.cells.length cc,.slice at_ c.tenants.length ct,.slice av c.versions.length cv,.slice ar c.replicas.length cr,.slice ao c.observers.length co,.int .i64 c.blast,.int .i64 c.lease,.int .i64 c.bake] 31)).alloc (.cells #[.int .i64 s.tick,.int .i64 s.count,.slice (some ⟨bt,oft,none⟩) s.tenants.length sct,.slice (some ⟨bx,ofx,none⟩) s.cells.length scc,.int .i64 s.proven,.int .i64 s.evac,.int .i64 s.low,.int .i64 s.high] 53)).alloc (.cells #[.int .i64 kind,.int .i64 tick,.int .i64 tn,.int .i64 xn,.int .i64 other,.int .i64 epoch,.int .i64 since,.int .i64 till,.int .i64 n] 56)) (w.heap.size+1+1) 56 #[.int .i64 kind,.int .i64 tick,.int .i64 tn,.int .i64 xn,.int .i64 other,.int .i64 epoch,.int .i64 since,.int .i64 till,.int .i64 n]:=by
  have:=(Blk.new ((w.alloc (.cells #[.int .i64 c.regions,.slice az c.zones.length cz,.slice ac c.cells.length cc,.slice at_ c.tenants.length ct,.slice av c.versions.length cv,.slice ar c.replicas.length cr,.slice ao c.observers.length co,.int .i64 c.blast,.int .i64 c.lease,.int .i64 c.bake] 31)).alloc (.cells #[.int .i64 s.tick,.int .i64 s.count,.slice (some ⟨bt,oft,none⟩) s.tenants.length sct,.slice (some ⟨bx,ofx,none⟩) s.cells.length scc,.int .i64 s.proven,.int .i64 s.evac,.int .i64 s.low,.int .i64 s.high] 53)) 56 #[.int .i64 kind,.int .i64 tick,.int .i64 tn,.int .i64 xn,.int .i64 other,.int .i64 epoch,.int .i64 since,.int .i64 till,.int .i64 n])
  simpa using this
 unfold cfgC stC entC
 simp only
 go_enter Tryz.func108,Tryz.ntmps108
 go_upto_region 1 with fail
 generalize ((w.alloc _).alloc _).alloc _=W at *
 have hgc:=hBc.lt
 have d0:=hBc.cell' (i:=0) (v:=.int .i64 c.regions) rfl
 have d1:=hBc.cell' (i:=1) (v:=.slice az c.zones.length cz) rfl
 have d2:=hBc.cell' (i:=2) (v:=.slice ac c.cells.length cc) rfl
 have d3:=hBc.cell' (i:=3) (v:=.slice at_ c.tenants.length ct) rfl
 have d4:=hBc.cell' (i:=4) (v:=.slice av c.versions.length cv) rfl
 have d5:=hBc.cell' (i:=5) (v:=.slice ar c.replicas.length cr) rfl
 have d6:=hBc.cell' (i:=6) (v:=.slice ao c.observers.length co) rfl
 have d7:=hBc.cell' (i:=7) (v:=.int .i64 c.blast) rfl
 have d8:=hBc.cell' (i:=8) (v:=.int .i64 c.lease) rfl
 have d9:=hBc.cell' (i:=9) (v:=.int .i64 c.bake) rfl
 clear hBc
 have hgs:=hBs.lt
 have su0:=hBs.cell' (i:=0) (v:=.int .i64 s.tick) rfl
 have su1:=hBs.cell' (i:=1) (v:=.int .i64 s.count) rfl
 have su2:=hBs.cell' (i:=2) (v:=.slice (some ⟨bt,oft,none⟩) s.tenants.length sct) rfl
 have su3:=hBs.cell' (i:=3) (v:=.slice (some ⟨bx,ofx,none⟩) s.cells.length scc) rfl
 have su4:=hBs.cell' (i:=4) (v:=.int .i64 s.proven) rfl
 have su5:=hBs.cell' (i:=5) (v:=.int .i64 s.evac) rfl
 have su6:=hBs.cell' (i:=6) (v:=.int .i64 s.low) rfl
 have su7:=hBs.cell' (i:=7) (v:=.int .i64 s.high) rfl
 clear hBs
 have hge:=hBe.lt
 have v0:=hBe.cell' (i:=0) (v:=.int .i64 kind) rfl
 have v1:=hBe.cell' (i:=1) (v:=.int .i64 tick) rfl
 have v2:=hBe.cell' (i:=2) (v:=.int .i64 tn) rfl
 have v3:=hBe.cell' (i:=3) (v:=.int .i64 xn) rfl
 have v4:=hBe.cell' (i:=4) (v:=.int .i64 other) rfl
 have v5:=hBe.cell' (i:=5) (v:=.int .i64 epoch) rfl
 have v6:=hBe.cell' (i:=6) (v:=.int .i64 since) rfl
 have v7:=hBe.cell' (i:=7) (v:=.int .i64 till) rfl
 have v8:=hBe.cell' (i:=8) (v:=.int .i64 n) rfl
 clear hBe
 have HL:=Lib.hid hL
 have HWc:=Lib.hid (HKc.out.belowW hL)
 have HWs:=Lib.hid (HKs.out.belowW hL)
 clear hL
 have t0:W.cell? ⟨bt,oft+tn * 12,none⟩=some (.bool t.placed):=(HL.out.cell (p:=⟨bt,oft+tn * 12,none⟩) hbt1).trans (hct 0 _ rfl)
 have t1:W.cell? ⟨bt,oft+tn * 12+1,none⟩=some (.bool t.shed):=(HL.out.cell (p:=⟨bt,oft+tn * 12+1,none⟩) hbt1).trans (hct 1 _ rfl)
 have t2:W.cell? ⟨bt,oft+tn * 12+2,none⟩=some (.int .i64 t.home):=(HL.out.cell (p:=⟨bt,oft+tn * 12+2,none⟩) hbt1).trans (hct 2 _ rfl)
 have t3:W.cell? ⟨bt,oft+tn * 12+3,none⟩=some (.int .i64 t.standby):=(HL.out.cell (p:=⟨bt,oft+tn * 12+3,none⟩) hbt1).trans (hct 3 _ rfl)
 have t4:W.cell? ⟨bt,oft+tn * 12+4,none⟩=some (.int .i64 t.next):=(HL.out.cell (p:=⟨bt,oft+tn * 12+4,none⟩) hbt1).trans (hct 4 _ rfl)
 have t5:W.cell? ⟨bt,oft+tn * 12+5,none⟩=some (.int .i64 t.target):=(HL.out.cell (p:=⟨bt,oft+tn * 12+5,none⟩) hbt1).trans (hct 5 _ rfl)
 have t6:W.cell? ⟨bt,oft+tn * 12+6,none⟩=some (.int .i64 t.epoch):=(HL.out.cell (p:=⟨bt,oft+tn * 12+6,none⟩) hbt1).trans (hct 6 _ rfl)
 have t7:W.cell? ⟨bt,oft+tn * 12+7,none⟩=some (.int .i64 t.win.cell):=(HL.out.cell (p:=⟨bt,oft+tn * 12+7,none⟩) hbt1).trans (hct 7 _ rfl)
 have t8:W.cell? ⟨bt,oft+tn * 12+8,none⟩=some (.int .i64 t.win.epoch):=(HL.out.cell (p:=⟨bt,oft+tn * 12+8,none⟩) hbt1).trans (hct 8 _ rfl)
 have t9:W.cell? ⟨bt,oft+tn * 12+9,none⟩=some (.int .i64 t.win.version):=(HL.out.cell (p:=⟨bt,oft+tn * 12+9,none⟩) hbt1).trans (hct 9 _ rfl)
 have t10:W.cell? ⟨bt,oft+tn * 12+10,none⟩=some (.int .i64 t.win.since):=(HL.out.cell (p:=⟨bt,oft+tn * 12+10,none⟩) hbt1).trans (hct 10 _ rfl)
 have t11:W.cell? ⟨bt,oft+tn * 12+11,none⟩=some (.int .i64 t.win.till):=(HL.out.cell (p:=⟨bt,oft+tn * 12+11,none⟩) hbt1).trans (hct 11 _ rfl)
 have hbtW:bt<W.heap.size:=Nat.lt_of_lt_of_le hbt1 HL.out.size
 clear hct hzt hbt hbt1
 have x0:W.cell? ⟨bx,ofx+xn * 4,none⟩=some (.int .i64 x.mode):=(HL.out.cell (p:=⟨bx,ofx+xn * 4,none⟩) hbx1).trans (hcx 0 _ rfl)
 have x1:W.cell? ⟨bx,ofx+xn * 4+1,none⟩=some (.int .i64 x.running):=(HL.out.cell (p:=⟨bx,ofx+xn * 4+1,none⟩) hbx1).trans (hcx 1 _ rfl)
 have x2:W.cell? ⟨bx,ofx+xn * 4+2,none⟩=some (.int .i64 x.wanted):=(HL.out.cell (p:=⟨bx,ofx+xn * 4+2,none⟩) hbx1).trans (hcx 2 _ rfl)
 have x3:W.cell? ⟨bx,ofx+xn * 4+3,none⟩=some (.int .i64 x.since):=(HL.out.cell (p:=⟨bx,ofx+xn * 4+3,none⟩) hbx1).trans (hcx 3 _ rfl)
 have hbxW:bx<W.heap.size:=Nat.lt_of_lt_of_le hbx1 HL.out.size
 clear hcx hzx hbx hbx1
 go_cut [7,8] (fun v7 v8 wx=>∃ ga gb,v7=.pointer (some ⟨ga,0,none⟩)∧v8=.pointer (some ⟨gb,0,none⟩)∧TwoC W 64 78 #[.bool t.placed,.bool t.shed,.int .i64 t.home,.int .i64 t.standby,.int .i64 t.next,.int .i64 t.target,.int .i64 t.epoch,.int .i64 t.win.cell,.int .i64 t.win.epoch,.int .i64 t.win.version,.int .i64 t.win.since,.int .i64 t.win.till] #[.int .i64 x.mode,.int .i64 x.running,.int .i64 x.wanted,.int .i64 x.since] ga gb wx)
 case first=>
  refine wp_region_seqI (fun w':World=>Below W.heap.size W w') 15 [0,1,2,3,4,5,6,7,8,9,10,11] [12,13,14] (fun i=>if i=14 then [12,13] else []) (by kernel_rfl) (by kernel_rfl) (Below.refl _ _).drew ?_
  simp only[List.take_succ_cons,List.take_zero,List.drop_succ_cons,List.drop_zero]
  repeat (refine wpSeqI_fix _ ?_ rfl (by first | exact fun _ _ _ h=>h | exact fun _ _ _ h=>hpan _ _ _ _ _ h) (Or.inl ⟨by rfl,?_⟩) ?_;rotate_left;(intro w' hSw;(try dsimp only at hSw);obtain⟨hc,hf⟩:=bcell hSw;clear hf hSw;go_simp;(try with_reducible rfl));(simp only[List.getElem_toArray,List.getElem_cons_zero,List.getElem_cons_succ,Act.put,List.setIfInBounds_toArray,List.set_cons_zero,List.set_cons_succ]))
  refine wpSeqI_acts (fun a0 d a wx=>∃ va vb ga gb,a=((a0.put (some 7) va).put (some 8) vb)∧TwoJ W 64 78 #[.bool false,.bool false,.int .i64 0,.int .i64 0,.int .i64 0,.int .i64 0,.int .i64 0,.int .i64 0,.int .i64 0,.int .i64 0,.int .i64 0,.int .i64 0] #[.bool t.placed,.bool t.shed,.int .i64 t.home,.int .i64 t.standby,.int .i64 t.next,.int .i64 t.target,.int .i64 t.epoch,.int .i64 t.win.cell,.int .i64 t.win.epoch,.int .i64 t.win.version,.int .i64 t.win.since,.int .i64 t.win.till] #[.int .i64 0,.int .i64 0,.int .i64 0,.int .i64 0] 12 13 14 d va vb ga gb wx) ?j1 ?j2 ?j3
  case j1=>
   intro d hd
   refine⟨_,_,0,0,rfl,TwoJ.start (Below.refl _ _).drew (hd 12 (by simp)) (hd 13 (by simp)) (hd 14 (by simp))⟩
  case j2=>
   refine acts_cons (actStep_op rfl rfl ?s12) (acts_cons (actStep_op rfl rfl ?s13) (acts_cons (actStep_op rfl rfl ?s14) acts_nil))
   case s12=>
    rintro d a wx h0 hp hS ⟨va,vb,ga,gb,rfl,hJ⟩
    have HJ:=Lib.hid (hJ.allocA h0 (by decide) (by decide))
    clear hJ hS hp h0
    simp only[List.getElem_toArray,List.getElem_cons_zero,List.getElem_cons_succ,Act.put,List.setIfInBounds_toArray,List.set_cons_zero,List.set_cons_succ]
    go_simp
    exact⟨HJ.out.below,_,_,⟨rfl,rfl⟩,_,gb,HJ.out⟩
   case s13=>
    rintro d a wx h0 hp hS ⟨va,vb,ga,gb,rfl,hJ⟩
    have HJ:=Lib.hid (hJ.allocB (by decide) (by decide))
    clear hJ hS hp h0
    simp only[List.getElem_toArray,List.getElem_cons_zero,List.getElem_cons_succ,Act.put,List.setIfInBounds_toArray,List.set_cons_zero,List.set_cons_succ]
    go_simp
    exact⟨HJ.out.below,_,_,⟨rfl,rfl⟩,ga,_,HJ.out⟩
   case s14=>
    rintro d a wx h0 hp hS ⟨va,vb,ga,gb,rfl,hJ⟩
    have HJ:=Lib.hid (hJ.storeA (hp 12 (by simp)) (hp 13 (by simp)) (by decide) (by decide) (putL_full rfl) (putL_full rfl))
    obtain⟨rfl,hk,hle⟩:=hJ.a (hp 12 (by simp))
    clear hJ hS hp h0
    simp only[List.getElem_toArray,List.getElem_cons_zero,List.getElem_cons_succ,Act.put,List.setIfInBounds_toArray,List.set_cons_zero,List.set_cons_succ]
    refine wp_store_mid _ _ _ (by rfl) ga 0 #[.bool t.placed,.bool t.shed,.int .i64 t.home,.int .i64 t.standby,.int .i64 t.next,.int .i64 t.target,.int .i64 t.epoch,.int .i64 t.win.cell,.int .i64 t.win.epoch,.int .i64 t.win.version,.int .i64 t.win.since,.int .i64 t.win.till] (by go_simp) (by go_simp) (hk.there 0 12 (by split<;>simp)) tsSize (by simp[Value.oneCell']) ?_
    refine⟨HJ.out.below,?_⟩
    go_simp
    exact⟨_,_,⟨rfl,rfl⟩,ga,gb,HJ.out⟩
  case j3=>
   rintro d a wx hp hS ⟨va,vb,ga,gb,rfl,hJ⟩
   obtain⟨rfl,hka,hla⟩:=hJ.a (hp 12 (by simp))
   obtain⟨rfl,hkb,hlb⟩:=hJ.b (hp 13 (by simp))
   have HJ:=Lib.hid (hJ.done1 (FB:=#[.int .i64 x.mode,.int .i64 x.running,.int .i64 x.wanted,.int .i64 x.since]) (hp 12 (by simp)) (hp 13 (by simp)) (hp 14 (by simp)) (putL_full rfl))
   clear hJ hS hp
   simp only[List.getElem_toArray,List.getElem_cons_zero,List.getElem_cons_succ,Act.put,List.setIfInBounds_toArray,List.set_cons_zero,List.set_cons_succ,thenK]
   refine wpList_store_mid (by rfl) _ _ _ (by rfl) gb 0 #[.int .i64 x.mode,.int .i64 x.running,.int .i64 x.wanted,.int .i64 x.since] (by go_simp) (by go_simp) (hkb.there 0 4 (by simp)) csSize (by simp[Value.oneCell']) ?_
   go_wp2
   go_meet
   exact⟨ga,gb,rfl,rfl,HJ.out⟩
 case rest=>
  obtain⟨ga,gb,rfl,rfl,hC⟩:=hcut
  have hL2:=hC.below
  clear t0 t1 t2 t3 t4 t5 t6 t7 t8 t9 t10 t11 x0 x1 x2 x3 hbtW hbxW
  obtain⟨W2,rfl⟩:∃ W2,W2=wc:=⟨_,rfl⟩
  replace d0:W2.cell? ⟨w.heap.size,0,none⟩=some (.int .i64 c.regions):=(hL2.cell (p:=⟨w.heap.size,0,none⟩) hgc).trans d0
  replace d1:W2.cell? ⟨w.heap.size,1,none⟩=some (.slice az c.zones.length cz):=(hL2.cell (p:=⟨w.heap.size,1,none⟩) hgc).trans d1
  replace d2:W2.cell? ⟨w.heap.size,2,none⟩=some (.slice ac c.cells.length cc):=(hL2.cell (p:=⟨w.heap.size,2,none⟩) hgc).trans d2
  replace d3:W2.cell? ⟨w.heap.size,3,none⟩=some (.slice at_ c.tenants.length ct):=(hL2.cell (p:=⟨w.heap.size,3,none⟩) hgc).trans d3
  replace d4:W2.cell? ⟨w.heap.size,4,none⟩=some (.slice av c.versions.length cv):=(hL2.cell (p:=⟨w.heap.size,4,none⟩) hgc).trans d4
  replace d5:W2.cell? ⟨w.heap.size,5,none⟩=some (.slice ar c.replicas.length cr):=(hL2.cell (p:=⟨w.heap.size,5,none⟩) hgc).trans d5
  replace d6:W2.cell? ⟨w.heap.size,6,none⟩=some (.slice ao c.observers.length co):=(hL2.cell (p:=⟨w.heap.size,6,none⟩) hgc).trans d6
  replace d7:W2.cell? ⟨w.heap.size,7,none⟩=some (.int .i64 c.blast):=(hL2.cell (p:=⟨w.heap.size,7,none⟩) hgc).trans d7
  replace d8:W2.cell? ⟨w.heap.size,8,none⟩=some (.int .i64 c.lease):=(hL2.cell (p:=⟨w.heap.size,8,none⟩) hgc).trans d8
  replace d9:W2.cell? ⟨w.heap.size,9,none⟩=some (.int .i64 c.bake):=(hL2.cell (p:=⟨w.heap.size,9,none⟩) hgc).trans d9
  replace hgc:w.heap.size<W2.heap.size:=Nat.lt_of_lt_of_le hgc hL2.size
  replace su0:W2.cell? ⟨w.heap.size+1,0,none⟩=some (.int .i64 s.tick):=(hL2.cell (p:=⟨w.heap.size+1,0,none⟩) hgs).trans su0
  replace su1:W2.cell? ⟨w.heap.size+1,1,none⟩=some (.int .i64 s.count):=(hL2.cell (p:=⟨w.heap.size+1,1,none⟩) hgs).trans su1
  replace su2:W2.cell? ⟨w.heap.size+1,2,none⟩=some (.slice (some ⟨bt,oft,none⟩) s.tenants.length sct):=(hL2.cell (p:=⟨w.heap.size+1,2,none⟩) hgs).trans su2
  replace su3:W2.cell? ⟨w.heap.size+1,3,none⟩=some (.slice (some ⟨bx,ofx,none⟩) s.cells.length scc):=(hL2.cell (p:=⟨w.heap.size+1,3,none⟩) hgs).trans su3
  replace su4:W2.cell? ⟨w.heap.size+1,4,none⟩=some (.int .i64 s.proven):=(hL2.cell (p:=⟨w.heap.size+1,4,none⟩) hgs).trans su4
  replace su5:W2.cell? ⟨w.heap.size+1,5,none⟩=some (.int .i64 s.evac):=(hL2.cell (p:=⟨w.heap.size+1,5,none⟩) hgs).trans su5
  replace su6:W2.cell? ⟨w.heap.size+1,6,none⟩=some (.int .i64 s.low):=(hL2.cell (p:=⟨w.heap.size+1,6,none⟩) hgs).trans su6
  replace su7:W2.cell? ⟨w.heap.size+1,7,none⟩=some (.int .i64 s.high):=(hL2.cell (p:=⟨w.heap.size+1,7,none⟩) hgs).trans su7
  replace hgs:w.heap.size+1<W2.heap.size:=Nat.lt_of_lt_of_le hgs hL2.size
  replace v0:W2.cell? ⟨w.heap.size+1+1,0,none⟩=some (.int .i64 kind):=(hL2.cell (p:=⟨w.heap.size+1+1,0,none⟩) hge).trans v0
  replace v1:W2.cell? ⟨w.heap.size+1+1,1,none⟩=some (.int .i64 tick):=(hL2.cell (p:=⟨w.heap.size+1+1,1,none⟩) hge).trans v1
  replace v2:W2.cell? ⟨w.heap.size+1+1,2,none⟩=some (.int .i64 tn):=(hL2.cell (p:=⟨w.heap.size+1+1,2,none⟩) hge).trans v2
  replace v3:W2.cell? ⟨w.heap.size+1+1,3,none⟩=some (.int .i64 xn):=(hL2.cell (p:=⟨w.heap.size+1+1,3,none⟩) hge).trans v3
  replace v4:W2.cell? ⟨w.heap.size+1+1,4,none⟩=some (.int .i64 other):=(hL2.cell (p:=⟨w.heap.size+1+1,4,none⟩) hge).trans v4
  replace v5:W2.cell? ⟨w.heap.size+1+1,5,none⟩=some (.int .i64 epoch):=(hL2.cell (p:=⟨w.heap.size+1+1,5,none⟩) hge).trans v5
  replace v6:W2.cell? ⟨w.heap.size+1+1,6,none⟩=some (.int .i64 since):=(hL2.cell (p:=⟨w.heap.size+1+1,6,none⟩) hge).trans v6
  replace v7:W2.cell? ⟨w.heap.size+1+1,7,none⟩=some (.int .i64 till):=(hL2.cell (p:=⟨w.heap.size+1+1,7,none⟩) hge).trans v7
  replace v8:W2.cell? ⟨w.heap.size+1+1,8,none⟩=some (.int .i64 n):=(hL2.cell (p:=⟨w.heap.size+1+1,8,none⟩) hge).trans v8
  replace hge:w.heap.size+1+1<W2.heap.size:=Nat.lt_of_lt_of_le hge hL2.size
  replace HWc:=Lib.hid (HWc.out.belowW hL2)
  replace HWs:=Lib.hid (HWs.out.belowW hL2)
  have p0:=hC.a.cell' (i:=0) (v:=.bool t.placed) rfl
  have p1:=hC.a.cell' (i:=1) (v:=.bool t.shed) rfl
  have p2:=hC.a.cell' (i:=2) (v:=.int .i64 t.home) rfl
  have p3:=hC.a.cell' (i:=3) (v:=.int .i64 t.standby) rfl
  have p4:=hC.a.cell' (i:=4) (v:=.int .i64 t.next) rfl
  have p5:=hC.a.cell' (i:=5) (v:=.int .i64 t.target) rfl
  have p6:=hC.a.cell' (i:=6) (v:=.int .i64 t.epoch) rfl
  have p7:=hC.a.cell' (i:=7) (v:=.int .i64 t.win.cell) rfl
  have p8:=hC.a.cell' (i:=8) (v:=.int .i64 t.win.epoch) rfl
  have p9:=hC.a.cell' (i:=9) (v:=.int .i64 t.win.version) rfl
  have p10:=hC.a.cell' (i:=10) (v:=.int .i64 t.win.since) rfl
  have p11:=hC.a.cell' (i:=11) (v:=.int .i64 t.win.till) rfl
  have q0:=hC.b.cell' (i:=0) (v:=.int .i64 x.mode) rfl
  have q1:=hC.b.cell' (i:=1) (v:=.int .i64 x.running) rfl
  have q2:=hC.b.cell' (i:=2) (v:=.int .i64 x.wanted) rfl
  have q3:=hC.b.cell' (i:=3) (v:=.int .i64 x.since) rfl
  replace HL:=Lib.hid (HL.out.trans (hL2.mono HL.out.size))
  clear hL2 hC
  go_wp2
  all_goals
   go_ret
   refine⟨ret_i64 ?_,(by first | exact HL.out | exact HL.out.trans ((Later.below _).mono HL.out.size))⟩
   rw[HR.out]
   go_light
   clear HR HL
   clear d0 d1 d2 d3 d4 d5 d6 d7 d8 d9 su0 su1 su2 su3 su4 su5 su6 su7 v0 v1 v2 v3 v4 v5 v6 v7 v8 p0 p1 p2 p3 p4 p5 p6 p7 p8 p9 p10 p11 q0 q1 q2 q3 HWc HWs HKc HKs HV HI HT HX HTI HXI hgc hgs hge
   simp_all
   try omega
end Go.Proofs.YtchhdflealgkaaaGreat
