import Derived.Test.YtchhdflealgkaaaGreatPp19
namespace Go.Proofs.YtchhdflealgkaaaGreat
open Go.RowKit
set_option linter.unusedSimpArgs false
set_option linter.unusedVariables false
theorem csSize8:(Tryz.prog.info? 78).map (·.size)=some 4:=by kernel_rfl
theorem vrSize8:(Tryz.prog.info? 88).map (·.size)=some 2:=by kernel_rfl
def WantRel (ll:List Int) (xn:Nat) (w1:World) (gk:Nat) (so si:Value) (wr:World):Prop:=
 ∃ k:Nat,gk+k=ll.length∧si=.int .i64 k∧so=.int .i64 ((ll.take k).countP (fun z=>decide (z≠(xn:Int))):Nat)∧wr=w1
theorem others_count (s:St) (k:Nat):(unproven s).countP (fun z=>decide (z≠(k:Int)))=others s k:=by
 unfold unproven others
 rw[List.countP_map,← List.countP_eq_length_filter,List.countP_filter]
 apply List.countP_congr
 intro i hi
 simp
theorem take_countP {α:Type} (l:List α) (p:α→Bool) {k:Nat} (hk:k<l.length):(l.take (k+1)).countP p=(l.take k).countP p+if p l[k] then 1 else 0:=by
 rw[List.take_succ_eq_append_getElem hk,List.countP_append]
 simp[List.countP_cons]
theorem flat_int8 (l:List Int):flat intC l=l.map (Value.int .i64):=by
 induction l with
 | nil=>rfl
 | cons a l ih=>simp only[flat,List.flatMap_cons,intC] at ih ⊢;simp[ih]
set_option maxHeartbeats 16000000 in
set_option maxRecDepth 100000 in
theorem stWant_any (x:CfgA) (c:Cfg) (y:StA) (s:St) (e:Ent) (w:World) (hV:CfgV c) (hc:CfgOk w (·<w.heap.size) x c) (hI:StInv c s) (hs:StOk w (·<w.heap.size) y s) (hx0:0≤e.cell) (hx1:e.cell<s.cells.length) (hn:0≤e.n∧e.n<c.versions.length) :
  Calls Tryz.prog 111 #[.agg (cfgC x c),.agg (stC y s),.agg (entC e).toArray] w fun r w'=>r=.returned (.int .i64 (wantE c s e))∧Below w.heap.size w w':=by
 have hnc:=hV.nc
 have hntt:=hV.nt
 obtain⟨az,cz,ac,cc,at_,ct,av,cv,ar,cr,ao,co⟩:=x
 have HV:=Lib.hid hV
 have HKc:=Lib.hid hc
 clear hV hc
 obtain⟨sat,sct,sac,scc⟩:=y
 have HKs:=Lib.hid hs
 have hsl:1≤s.cells.length∧s.cells.length≤16:=by have:=hI.lc;omega
 have hst:s.tenants.length≤32:=by have:=hI.lt;omega
 have HI:=Lib.hid hI
 clear hs hI
 obtain⟨kind,tick,tenant,cell,other,epoch,since,till,n⟩:=e
 try simp only at *
 obtain⟨xn,rfl⟩:=Int.eq_ofNat_of_zero_le hx0
 have hxn:xn<s.cells.length:=by omega
 obtain⟨bx,ofx,x,rfl,hbx,hzx,hcx⟩:=HKs.out.cells.row (enc:=csC) (sz:=4) (fun _=>rfl) (by omega) hxn
 have HX:Hid (csAt s xn=x):=Lib.hid (by unfold csAt;rw[Int.toNat_natCast,getD_some hzx])
 have HXI:=Lib.hid (HI.out.cel _ (List.mem_of_getElem? hzx))
 have hbx1:bx<w.heap.size:=hbx
 have hpr:=HI.out.proven
 have hbl:=HV.out.blast
 have hvo:=verOf_eq (c:=c) hn
 have HVO:=Lib.hid hvo
 clear hvo
 have HR:Hid (wantE c s ⟨kind,tick,tenant,xn,other,epoch,since,till,n⟩=if x.wanted=n then 4 else if s.low<(verOf c n).1∨(verOf c n).2<s.high then 13 else if x.running=n∨hasB s.proven n=true then 0 else if s.evac≠0 then 12 else if c.blast≤(others s xn:Nat) then 14 else 0):=Lib.hid (by unfold wantE;rw[HX.out,HVO.out])
 have hL:Below w.heap.size w (((w.alloc (.cells #[.int .i64 c.regions,.slice az c.zones.length cz,.slice ac c.cells.length cc,.slice at_ c.tenants.length ct,.slice av c.versions.length cv,.slice ar c.replicas.length cr,.slice ao c.observers.length co,.int .i64 c.blast,.int .i64 c.lease,.int .i64 c.bake] 31)).alloc (.cells #[.int .i64 s.tick,.int .i64 s.count,.slice sat s.tenants.length sct,.slice (some ⟨bx,ofx,none⟩) s.cells.length scc,.int .i64 s.proven,.int .i64 s.evac,.int .i64 s.low,.int .i64 s.high] 53)).alloc (.cells #[.int .i64 kind,.int .i64 tick,.int .i64 tenant,.int .i64 xn,.int .i64 other,.int .i64 epoch,.int .i64 since,.int .i64 till,.int .i64 n] 56)):=((((Below.refl w.heap.size w).alloc (by simp<;>omega) (.cells #[.int .i64 c.regions,.slice az c.zones.length cz,.slice ac c.cells.length cc,.slice at_ c.tenants.length ct,.slice av c.versions.length cv,.slice ar c.replicas.length cr,.slice ao c.observers.length co,.int .i64 c.blast,.int .i64 c.lease,.int .i64 c.bake] 31)).alloc (by simp<;>omega) (.cells #[.int .i64 s.tick,.int .i64 s.count,.slice sat s.tenants.length sct,.slice (some ⟨bx,ofx,none⟩) s.cells.length scc,.int .i64 s.proven,.int .i64 s.evac,.int .i64 s.low,.int .i64 s.high] 53)).alloc (by simp<;>omega) (.cells #[.int .i64 kind,.int .i64 tick,.int .i64 tenant,.int .i64 xn,.int .i64 other,.int .i64 epoch,.int .i64 since,.int .i64 till,.int .i64 n] 56))
 have hBc:Blk (((w.alloc (.cells #[.int .i64 c.regions,.slice az c.zones.length cz,.slice ac c.cells.length cc,.slice at_ c.tenants.length ct,.slice av c.versions.length cv,.slice ar c.replicas.length cr,.slice ao c.observers.length co,.int .i64 c.blast,.int .i64 c.lease,.int .i64 c.bake] 31)).alloc (.cells #[.int .i64 s.tick,.int .i64 s.count,.slice sat s.tenants.length sct,.slice (some ⟨bx,ofx,none⟩) s.cells.length scc,.int .i64 s.proven,.int .i64 s.evac,.int .i64 s.low,.int .i64 s.high] 53)).alloc (.cells #[.int .i64 kind,.int .i64 tick,.int .i64 tenant,.int .i64 xn,.int .i64 other,.int .i64 epoch,.int .i64 since,.int .i64 till,.int .i64 n] 56)) (w.heap.size) 31 #[.int .i64 c.regions,.slice az c.zones.length cz,.slice ac c.cells.length cc,.slice at_ c.tenants.length ct,.slice av c.versions.length cv,.slice ar c.replicas.length cr,.slice ao c.observers.length co,.int .i64 c.blast,.int .i64 c.lease,.int .i64 c.bake]:=by
  have:=(((Blk.new w 31 #[.int .i64 c.regions,.slice az c.zones.length cz,.slice ac c.cells.length cc,.slice at_ c.tenants.length ct,.slice av c.versions.length cv,.slice ar c.replicas.length cr,.slice ao c.observers.length co,.int .i64 c.blast,.int .i64 c.lease,.int .i64 c.bake]).alloc (.cells #[.int .i64 s.tick,.int .i64 s.count,.slice sat s.tenants.length sct,.slice (some ⟨bx,ofx,none⟩) s.cells.length scc,.int .i64 s.proven,.int .i64 s.evac,.int .i64 s.low,.int .i64 s.high] 53)).alloc (.cells #[.int .i64 kind,.int .i64 tick,.int .i64 tenant,.int .i64 xn,.int .i64 other,.int .i64 epoch,.int .i64 since,.int .i64 till,.int .i64 n] 56))
  simpa using this
 have hBs:Blk (((w.alloc (.cells #[.int .i64 c.regions,.slice az c.zones.length cz,.slice ac c.cells.length cc,.slice at_ c.tenants.length ct,.slice av c.versions.length cv,.slice ar c.replicas.length cr,.slice ao c.observers.length co,.int .i64 c.blast,.int .i64 c.lease,.int .i64 c.bake] 31)).alloc (.cells #[.int .i64 s.tick,.int .i64 s.count,.slice sat s.tenants.length sct,.slice (some ⟨bx,ofx,none⟩) s.cells.length scc,.int .i64 s.proven,.int .i64 s.evac,.int .i64 s.low,.int .i64 s.high] 53)).alloc (.cells #[.int .i64 kind,.int .i64 tick,.int .i64 tenant,.int .i64 xn,.int .i64 other,.int .i64 epoch,.int .i64 since,.int .i64 till,.int .i64 n] 56)) (w.heap.size+1) 53 #[.int .i64 s.tick,.int .i64 s.count,.slice sat s.tenants.length sct,.slice (some ⟨bx,ofx,none⟩) s.cells.length scc,.int .i64 s.proven,.int .i64 s.evac,.int .i64 s.low,.int .i64 s.high]:=by
  have:=((Blk.new (w.alloc (.cells #[.int .i64 c.regions,.slice az c.zones.length cz,.slice ac c.cells.length cc,.slice at_ c.tenants.length ct,.slice av c.versions.length cv,.slice ar c.replicas.length cr,.slice ao c.observers.length co,.int .i64 c.blast,.int .i64 c.lease,.int .i64 c.bake] 31)) 53 #[.int .i64 s.tick,.int .i64 s.count,.slice sat s.tenants.length sct,.slice (some ⟨bx,ofx,none⟩) s.cells.length scc,.int .i64 s.proven,.int .i64 s.evac,.int .i64 s.low,.int .i64 s.high]).alloc (.cells #[.int .i64 kind,.int .i64 tick,.int .i64 tenant,.int .i64 xn,.int .i64 other,.int .i64 epoch,.int .i64 since,.int .i64 till,.int .i64 n] 56))
  simpa using this
 have hBe:Blk (((w.alloc (.cells #[.int .i64 c.regions,.slice az c.zones.length cz,.slice ac c.cells.length cc,.slice at_ c.tenants.length ct,.slice av c.versions.length cv,.slice ar c.replicas.length cr,.slice ao c.observers.length co,.int .i64 c.blast,.int .i64 c.lease,.int .i64 c.bake] 31)).alloc (.cells #[.int .i64 s.tick,.int .i64 s.count,.slice sat s.tenants.length sct,.slice (some ⟨bx,ofx,none⟩) s.cells.length scc,.int .i64 s.proven,.int .i64 s.evac,.int .i64 s.low,.int .i64 s.high] 53)).alloc (.cells #[.int .i64 kind,.int .i64 tick,.int .i64 tenant,.int .i64 xn,.int .i64 other,.int .i64 epoch,.int .i64 since,.int .i64 till,.int .i64 n] 56)) (w.heap.size+1+1) 56 #[.int .i64 kind,.int .i64 tick,.int .i64 tenant,.int .i64 xn,.int .i64 other,.int .i64 epoch,.int .i64 since,.int .i64 till,.int .i64 n]:=by
  have:=(Blk.new ((w.alloc (.cells #[.int .i64 c.regions,.slice az c.zones.length cz,.slice ac c.cells.length cc,.slice at_ c.tenants.length ct,.slice av c.versions.length cv,.slice ar c.replicas.length cr,.slice ao c.observers.length co,.int .i64 c.blast,.int .i64 c.lease,.int .i64 c.bake] 31)).alloc (.cells #[.int .i64 s.tick,.int .i64 s.count,.slice sat s.tenants.length sct,.slice (some ⟨bx,ofx,none⟩) s.cells.length scc,.int .i64 s.proven,.int .i64 s.evac,.int .i64 s.low,.int .i64 s.high] 53)) 56 #[.int .i64 kind,.int .i64 tick,.int .i64 tenant,.int .i64 xn,.int .i64 other,.int .i64 epoch,.int .i64 since,.int .i64 till,.int .i64 n])
  simpa using this
 unfold cfgC stC entC
 simp only
 go_enter Tryz.func111,Tryz.ntmps111
 go_upto_region 1 with fail
 generalize ((w.alloc _).alloc _).alloc _=W at *
 have hgc:=hBc.lt
 have d0:=hBc.cell' (i:=0) (v:=.int .i64 c.regions) rfl
 have d1:=hBc.cell' (i:=1) (v:=.slice az c.zones.length cz) rfl
 have d2:=hBc.cell' (i:=2) (v:=.slice ac c.cells.length cc) rfl
 have d3:=hBc.cell' (i:=3) (v:=.slice at_ c.tenants.length ct) rfl
 have d4:=hBc.cell' (i:=4) (v:=.slice av c.versions.length cv) rfl
 have d5:=hBc.cell' (i:=5) (v:=.slice ar c.replicas.length cr) rfl
 have d6:=hBc.cell' (i:=6) (v:=.slice ao c.observers.length co) rfl
 have d7:=hBc.cell' (i:=7) (v:=.int .i64 c.blast) rfl
 have d8:=hBc.cell' (i:=8) (v:=.int .i64 c.lease) rfl
 have d9:=hBc.cell' (i:=9) (v:=.int .i64 c.bake) rfl
 clear hBc
 have hgs:=hBs.lt
 have su0:=hBs.cell' (i:=0) (v:=.int .i64 s.tick) rfl
 have su1:=hBs.cell' (i:=1) (v:=.int .i64 s.count) rfl
 have su2:=hBs.cell' (i:=2) (v:=.slice sat s.tenants.length sct) rfl
 have su3:=hBs.cell' (i:=3) (v:=.slice (some ⟨bx,ofx,none⟩) s.cells.length scc) rfl
 have su4:=hBs.cell' (i:=4) (v:=.int .i64 s.proven) rfl
 have su5:=hBs.cell' (i:=5) (v:=.int .i64 s.evac) rfl
 have su6:=hBs.cell' (i:=6) (v:=.int .i64 s.low) rfl
 have su7:=hBs.cell' (i:=7) (v:=.int .i64 s.high) rfl
 clear hBs
 have hge:=hBe.lt
 have v0:=hBe.cell' (i:=0) (v:=.int .i64 kind) rfl
 have v1:=hBe.cell' (i:=1) (v:=.int .i64 tick) rfl
 have v2:=hBe.cell' (i:=2) (v:=.int .i64 tenant) rfl
 have v3:=hBe.cell' (i:=3) (v:=.int .i64 xn) rfl
 have v4:=hBe.cell' (i:=4) (v:=.int .i64 other) rfl
 have v5:=hBe.cell' (i:=5) (v:=.int .i64 epoch) rfl
 have v6:=hBe.cell' (i:=6) (v:=.int .i64 since) rfl
 have v7:=hBe.cell' (i:=7) (v:=.int .i64 till) rfl
 have v8:=hBe.cell' (i:=8) (v:=.int .i64 n) rfl
 clear hBe
 have HL:=Lib.hid hL
 have HWc:=Lib.hid (HKc.out.belowW hL)
 have HWs:=Lib.hid (HKs.out.belowW hL)
 clear hL
 have x0:W.cell? ⟨bx,ofx+xn * 4,none⟩=some (.int .i64 x.mode):=(HL.out.cell (p:=⟨bx,ofx+xn * 4,none⟩) hbx1).trans (hcx 0 _ rfl)
 have x1:W.cell? ⟨bx,ofx+xn * 4+1,none⟩=some (.int .i64 x.running):=(HL.out.cell (p:=⟨bx,ofx+xn * 4+1,none⟩) hbx1).trans (hcx 1 _ rfl)
 have x2:W.cell? ⟨bx,ofx+xn * 4+2,none⟩=some (.int .i64 x.wanted):=(HL.out.cell (p:=⟨bx,ofx+xn * 4+2,none⟩) hbx1).trans (hcx 2 _ rfl)
 have x3:W.cell? ⟨bx,ofx+xn * 4+3,none⟩=some (.int .i64 x.since):=(HL.out.cell (p:=⟨bx,ofx+xn * 4+3,none⟩) hbx1).trans (hcx 3 _ rfl)
 have hbxW:bx<W.heap.size:=Nat.lt_of_lt_of_le hbx1 HL.out.size
 clear hcx hzx hbx hbx1
 have HVR:=Lib.hid (fun yy hyy=>stVersionOf_any ⟨az,cz,ac,cc,at_,ct,av,cv,ar,cr,ao,co⟩ c n yy HV.out (HWc.out.belowW hyy))
 go_cut [7,8] (fun v7 v8 wx=>∃ ga gb,v7=.pointer (some ⟨ga,0,none⟩)∧v8=.pointer (some ⟨gb,0,none⟩)∧TwoC W 78 88 #[.int .i64 x.mode,.int .i64 x.running,.int .i64 x.wanted,.int .i64 x.since] #[.int .i64 (verOf c n).1,.int .i64 (verOf c n).2] ga gb wx)
 case first=>
  refine wp_region_seqI (fun w':World=>Below W.heap.size W w') 13 [0,1,2,3,4,5,6,7,8] [9,10,11,12] (fun i=>if i=12 then [10,11] else []) (by kernel_rfl) (by kernel_rfl) (Below.refl _ _).drew ?_
  simp only[List.take_succ_cons,List.take_zero,List.drop_succ_cons,List.drop_zero]
  repeat (refine wpSeqI_fix _ ?_ rfl (by first | exact fun _ _ _ h=>h | exact fun _ _ _ h=>hpan _ _ _ _ _ h) (Or.inl ⟨by rfl,?_⟩) ?_;rotate_left;(intro w' hSw;(try dsimp only at hSw);obtain⟨hc,hf⟩:=bcell hSw;clear hf hSw;go_simp;(try with_reducible rfl));(simp only[List.getElem_toArray,List.getElem_cons_zero,List.getElem_cons_succ,Act.put,List.setIfInBounds_toArray,List.set_cons_zero,List.set_cons_succ]))
  refine wpSeqI_acts (fun a0 d a wx=>∃ va vb vc ga gb,a=(((a0.put (some 7) va).put (some 8) vb).put (some 21) vc)∧TwoJ W 78 88 #[.int .i64 0,.int .i64 0,.int .i64 0,.int .i64 0] #[.int .i64 x.mode,.int .i64 x.running,.int .i64 x.wanted,.int .i64 x.since] #[.int .i64 0,.int .i64 0] 10 11 12 d va vb ga gb wx∧(d 9=true→vc=.agg #[.int .i64 (verOf c n).1,.int .i64 (verOf c n).2])) ?j1 ?j2 ?j3
  case j1=>
   intro d hd
   refine⟨_,_,_,0,0,rfl,TwoJ.start (Below.refl _ _).drew (hd 10 (by simp)) (hd 11 (by simp)) (hd 12 (by simp)),fun q=>(by rw[hd 9 (by simp)] at q;cases q)⟩
  case j2=>
   refine acts_cons (actStep_op rfl rfl ?s9) (acts_cons (actStep_op rfl rfl ?s10) (acts_cons (actStep_op rfl rfl ?s11) (acts_cons (actStep_op rfl rfl ?s12) acts_nil)))
   case s9=>
    rintro d a wx h0 hp hS ⟨va,vb,vc,ga,gb,rfl,hJ,hcv⟩
    have HJ:=Lib.hid hJ
    clear hJ hS hp h0 hcv
    simp only[List.getElem_toArray,List.getElem_cons_zero,List.getElem_cons_succ,Act.put,List.setIfInBounds_toArray,List.set_cons_zero,List.set_cons_succ]
    go_simp
    refine (HVR.out wx HJ.out.below).mono ?_
    rintro r wy ⟨rfl,hbq⟩
    exact⟨(HJ.out.later hbq).below,_,_,_,⟨rfl,rfl,rfl⟩,⟨ga,gb,(HJ.out.later hbq).other (by decide) (by decide) (by decide)⟩,fun _=>rfl⟩
   case s10=>
    rintro d a wx h0 hp hS ⟨va,vb,vc,ga,gb,rfl,hJ,hcv⟩
    have HJ:=Lib.hid (hJ.allocA h0 (by decide) (by decide))
    clear hJ hS hp h0
    simp only[List.getElem_toArray,List.getElem_cons_zero,List.getElem_cons_succ,Act.put,List.setIfInBounds_toArray,List.set_cons_zero,List.set_cons_succ]
    go_simp
    exact⟨HJ.out.below,_,_,_,⟨rfl,rfl,rfl⟩,⟨_,gb,HJ.out⟩,hcv⟩
   case s11=>
    rintro d a wx h0 hp hS ⟨va,vb,vc,ga,gb,rfl,hJ,hcv⟩
    have HJ:=Lib.hid (hJ.allocB (by decide) (by decide))
    clear hJ hS hp h0
    simp only[List.getElem_toArray,List.getElem_cons_zero,List.getElem_cons_succ,Act.put,List.setIfInBounds_toArray,List.set_cons_zero,List.set_cons_succ]
    go_simp
    exact⟨HJ.out.below,_,_,_,⟨rfl,rfl,rfl⟩,⟨ga,_,HJ.out⟩,hcv⟩
   case s12=>
    rintro d a wx h0 hp hS ⟨va,vb,vc,ga,gb,rfl,hJ,hcv⟩
    have HJ:=Lib.hid (hJ.storeA (hp 10 (by simp)) (hp 11 (by simp)) (by decide) (by decide) (putL_full rfl) (putL_full rfl))
    obtain⟨rfl,hk,hle⟩:=hJ.a (hp 10 (by simp))
    clear hJ hS hp h0
    simp only[List.getElem_toArray,List.getElem_cons_zero,List.getElem_cons_succ,Act.put,List.setIfInBounds_toArray,List.set_cons_zero,List.set_cons_succ]
    refine wp_store_mid _ _ _ (by rfl) ga 0 #[.int .i64 x.mode,.int .i64 x.running,.int .i64 x.wanted,.int .i64 x.since] (by go_simp) (by go_simp) (hk.there 0 4 (by split<;>simp)) csSize8 (by simp[Value.oneCell']) ?_
    refine⟨HJ.out.below,?_⟩
    go_simp
    exact⟨_,_,_,⟨rfl,rfl,rfl⟩,⟨ga,gb,HJ.out⟩,hcv⟩
  case j3=>
   rintro d a wx hp hS ⟨va,vb,vc,ga,gb,rfl,hJ,hcv⟩
   obtain⟨rfl,hka,hla⟩:=hJ.a (hp 10 (by simp))
   obtain⟨rfl,hkb,hlb⟩:=hJ.b (hp 11 (by simp))
   obtain rfl:=hcv (hp 9 (by simp))
   have HJ:=Lib.hid (hJ.done1 (FB:=#[.int .i64 (verOf c n).1,.int .i64 (verOf c n).2]) (hp 10 (by simp)) (hp 11 (by simp)) (hp 12 (by simp)) (putL_full rfl))
   clear hJ hS hp
   simp only[List.getElem_toArray,List.getElem_cons_zero,List.getElem_cons_succ,Act.put,List.setIfInBounds_toArray,List.set_cons_zero,List.set_cons_succ,thenK]
   refine wpList_store_mid (by rfl) _ _ _ (by rfl) gb 0 #[.int .i64 (verOf c n).1,.int .i64 (verOf c n).2] (by go_simp) (by go_simp) (hkb.there 0 2 (by simp)) vrSize8 (by simp[Value.oneCell']) ?_
   go_wp2
   go_meet
   exact⟨ga,gb,rfl,rfl,HJ.out⟩
 case rest=>
  obtain⟨ga,gb,rfl,rfl,hC⟩:=hcut
  have hL2:=hC.below
  clear x0 x1 x2 x3 hbxW
  obtain⟨W2,rfl⟩:∃ W2,W2=wc:=⟨_,rfl⟩
  replace d0:W2.cell? ⟨w.heap.size,0,none⟩=some (.int .i64 c.regions):=(hL2.cell (p:=⟨w.heap.size,0,none⟩) hgc).trans d0
  replace d1:W2.cell? ⟨w.heap.size,1,none⟩=some (.slice az c.zones.length cz):=(hL2.cell (p:=⟨w.heap.size,1,none⟩) hgc).trans d1
  replace d2:W2.cell? ⟨w.heap.size,2,none⟩=some (.slice ac c.cells.length cc):=(hL2.cell (p:=⟨w.heap.size,2,none⟩) hgc).trans d2
  replace d3:W2.cell? ⟨w.heap.size,3,none⟩=some (.slice at_ c.tenants.length ct):=(hL2.cell (p:=⟨w.heap.size,3,none⟩) hgc).trans d3
  replace d4:W2.cell? ⟨w.heap.size,4,none⟩=some (.slice av c.versions.length cv):=(hL2.cell (p:=⟨w.heap.size,4,none⟩) hgc).trans d4
  replace d5:W2.cell? ⟨w.heap.size,5,none⟩=some (.slice ar c.replicas.length cr):=(hL2.cell (p:=⟨w.heap.size,5,none⟩) hgc).trans d5
  replace d6:W2.cell? ⟨w.heap.size,6,none⟩=some (.slice ao c.observers.length co):=(hL2.cell (p:=⟨w.heap.size,6,none⟩) hgc).trans d6
  replace d7:W2.cell? ⟨w.heap.size,7,none⟩=some (.int .i64 c.blast):=(hL2.cell (p:=⟨w.heap.size,7,none⟩) hgc).trans d7
  replace d8:W2.cell? ⟨w.heap.size,8,none⟩=some (.int .i64 c.lease):=(hL2.cell (p:=⟨w.heap.size,8,none⟩) hgc).trans d8
  replace d9:W2.cell? ⟨w.heap.size,9,none⟩=some (.int .i64 c.bake):=(hL2.cell (p:=⟨w.heap.size,9,none⟩) hgc).trans d9
  replace hgc:w.heap.size<W2.heap.size:=Nat.lt_of_lt_of_le hgc hL2.size
  replace su0:W2.cell? ⟨w.heap.size+1,0,none⟩=some (.int .i64 s.tick):=(hL2.cell (p:=⟨w.heap.size+1,0,none⟩) hgs).trans su0
  replace su1:W2.cell? ⟨w.heap.size+1,1,none⟩=some (.int .i64 s.count):=(hL2.cell (p:=⟨w.heap.size+1,1,none⟩) hgs).trans su1
  replace su2:W2.cell? ⟨w.heap.size+1,2,none⟩=some (.slice sat s.tenants.length sct):=(hL2.cell (p:=⟨w.heap.size+1,2,none⟩) hgs).trans su2
  replace su3:W2.cell? ⟨w.heap.size+1,3,none⟩=some (.slice (some ⟨bx,ofx,none⟩) s.cells.length scc):=(hL2.cell (p:=⟨w.heap.size+1,3,none⟩) hgs).trans su3
  replace su4:W2.cell? ⟨w.heap.size+1,4,none⟩=some (.int .i64 s.proven):=(hL2.cell (p:=⟨w.heap.size+1,4,none⟩) hgs).trans su4
  replace su5:W2.cell? ⟨w.heap.size+1,5,none⟩=some (.int .i64 s.evac):=(hL2.cell (p:=⟨w.heap.size+1,5,none⟩) hgs).trans su5
  replace su6:W2.cell? ⟨w.heap.size+1,6,none⟩=some (.int .i64 s.low):=(hL2.cell (p:=⟨w.heap.size+1,6,none⟩) hgs).trans su6
  replace su7:W2.cell? ⟨w.heap.size+1,7,none⟩=some (.int .i64 s.high):=(hL2.cell (p:=⟨w.heap.size+1,7,none⟩) hgs).trans su7
  replace hgs:w.heap.size+1<W2.heap.size:=Nat.lt_of_lt_of_le hgs hL2.size
  replace v0:W2.cell? ⟨w.heap.size+1+1,0,none⟩=some (.int .i64 kind):=(hL2.cell (p:=⟨w.heap.size+1+1,0,none⟩) hge).trans v0
  replace v1:W2.cell? ⟨w.heap.size+1+1,1,none⟩=some (.int .i64 tick):=(hL2.cell (p:=⟨w.heap.size+1+1,1,none⟩) hge).trans v1
  replace v2:W2.cell? ⟨w.heap.size+1+1,2,none⟩=some (.int .i64 tenant):=(hL2.cell (p:=⟨w.heap.size+1+1,2,none⟩) hge).trans v2
  replace v3:W2.cell? ⟨w.heap.size+1+1,3,none⟩=some (.int .i64 xn):=(hL2.cell (p:=⟨w.heap.size+1+1,3,none⟩) hge).trans v3
  replace v4:W2.cell? ⟨w.heap.size+1+1,4,none⟩=some (.int .i64 other):=(hL2.cell (p:=⟨w.heap.size+1+1,4,none⟩) hge).trans v4
  replace v5:W2.cell? ⟨w.heap.size+1+1,5,none⟩=some (.int .i64 epoch):=(hL2.cell (p:=⟨w.heap.size+1+1,5,none⟩) hge).trans v5
  replace v6:W2.cell? ⟨w.heap.size+1+1,6,none⟩=some (.int .i64 since):=(hL2.cell (p:=⟨w.heap.size+1+1,6,none⟩) hge).trans v6
  replace v7:W2.cell? ⟨w.heap.size+1+1,7,none⟩=some (.int .i64 till):=(hL2.cell (p:=⟨w.heap.size+1+1,7,none⟩) hge).trans v7
  replace v8:W2.cell? ⟨w.heap.size+1+1,8,none⟩=some (.int .i64 n):=(hL2.cell (p:=⟨w.heap.size+1+1,8,none⟩) hge).trans v8
  replace hge:w.heap.size+1+1<W2.heap.size:=Nat.lt_of_lt_of_le hge hL2.size
  replace HWc:=Lib.hid (HWc.out.belowW hL2)
  replace HWs:=Lib.hid (HWs.out.belowW hL2)
  have p0:=hC.a.cell' (i:=0) (v:=.int .i64 x.mode) rfl
  have p1:=hC.a.cell' (i:=1) (v:=.int .i64 x.running) rfl
  have p2:=hC.a.cell' (i:=2) (v:=.int .i64 x.wanted) rfl
  have p3:=hC.a.cell' (i:=3) (v:=.int .i64 x.since) rfl
  have q0:=hC.b.cell' (i:=0) (v:=.int .i64 (verOf c n).1) rfl
  have q1:=hC.b.cell' (i:=1) (v:=.int .i64 (verOf c n).2) rfl
  replace HL:=Lib.hid (HL.out.trans (hL2.mono HL.out.size))
  clear hL2 hC HVR
  generalize verOf c n=vv at *
  by_cases a1:x.wanted=n
  ·have b1:(x.wanted==n)=true:=beq_iff_eq.2 a1
   go_wp2
   go_ret
   refine⟨ret_i64 ?_,HL.out⟩
   rw[HR.out,if_pos a1]
  have b1:(x.wanted==n)=false:=beq_eq_false_iff_ne.2 a1
  by_cases a2:s.low<vv.1
  ·go_wp2
   go_ret
   refine⟨ret_i64 ?_,HL.out⟩
   rw[HR.out,if_neg a1,if_pos (.inl a2)]
  by_cases a3:vv.2<s.high
  ·go_wp2
   go_ret
   refine⟨ret_i64 ?_,HL.out⟩
   rw[HR.out,if_neg a1,if_pos (.inr a3)]
  have a23:¬ (s.low<vv.1∨vv.2<s.high):=by omega
  by_cases a4:x.running=n
  ·have b4:(x.running==n)=true:=beq_iff_eq.2 a4
   go_wp2
   go_ret
   refine⟨ret_i64 ?_,HL.out⟩
   rw[HR.out,if_neg a1,if_neg a23,if_pos (.inl a4)]
  have b4:(x.running==n)=false:=beq_eq_false_iff_ne.2 a4
  by_cases hhb:hasB s.proven n=true
  ·go_wp2_with (go_at_call 163;(with_reducible refine (stHas_any _ _ _ (by omega) (by omega)).mono ?_);rintro r wq ⟨rfl,rfl⟩;rw[hhb])
   go_ret
   refine⟨ret_i64 ?_,HL.out⟩
   rw[HR.out,if_neg a1,if_neg a23,if_pos (.inr hhb)]
  replace hhb:hasB s.proven n=false:=by simpa using hhb
  have a45:¬ (x.running=n∨hasB s.proven n=true):=by simp[a4,hhb]
  by_cases a5:s.evac≠0
  ·have b5:(s.evac != 0)=true:=by simpa using a5
   go_wp2_with (go_at_call 163;(with_reducible refine (stHas_any _ _ _ (by omega) (by omega)).mono ?_);rintro r wq ⟨rfl,rfl⟩;rw[hhb])
   go_ret
   refine⟨ret_i64 ?_,HL.out⟩
   rw[HR.out,if_neg a1,if_neg a23,if_neg a45,if_pos a5]
  have b5:(s.evac != 0)=false:=by simpa using a5
  have HRR:Hid (wantE c s ⟨kind,tick,tenant,xn,other,epoch,since,till,n⟩=if c.blast≤(others s xn:Nat) then 14 else 0):=Lib.hid (by rw[HR.out,if_neg a1,if_neg a23,if_neg a45,if_neg a5])
  have HUN:=Lib.hid (stUnproven_any c ⟨sat,sct,some ⟨bx,ofx,none⟩,scc⟩ s W2 HV.out HI.out HWs.out)
  clear HR a23 a45
  go_wp2_with (go_at_call 163;(with_reducible refine (stHas_any _ _ _ (by omega) (by omega)).mono ?_);rintro r wq ⟨rfl,rfl⟩;rw[hhb])
  refine HUN.out.mono ?_
  rintro r w1 ⟨A1,cp1,rfl,hO1,hb1⟩
  have HO1:=Lib.hid hO1
  have HL1:=Lib.hid (HL.out.trans (hb1.mono HL.out.size))
  have hull:(unproven s).length≤s.cells.length:=by rw[unproven_pick];exact pickK_len _ _
  have HOT:=Lib.hid (others_count s xn)
  replace d7:w1.cell? ⟨w.heap.size,7,none⟩=some (.int .i64 c.blast):=(hb1.cell (p:=⟨w.heap.size,7,none⟩) hgc).trans d7
  replace v3:w1.cell? ⟨w.heap.size+1+1,3,none⟩=some (.int .i64 xn):=(hb1.cell (p:=⟨w.heap.size+1+1,3,none⟩) hge).trans v3
  clear hO1 hb1 HUN HL
  generalize hll:unproven s=ll at *
  clear hll
  go_wp2
  go_loopg [9,57] ll.length (fun gk so si wr=>WantRel ll xn w1 gk so si wr)
  case atStart=>exact⟨0,by omega,rfl,rfl,rfl⟩
  case round=>
   rename_i J K aJ aK
   obtain⟨k,hgk,rfl,rfl,rfl⟩:=hrel
   have hcl:(ll.take k).countP (fun z=>decide (z≠(xn:Int)))≤k:=Nat.le_trans List.countP_le_length (by simp;omega)
   by_cases hk:k<ll.length
   ·have hlt:(k:Int)<(ll.length:Int):=by omega
    obtain⟨g1,cap1,hv1,_,hlt1⟩:=HO1.out.form (by omega)
    simp only[Value.slice.injEq,true_and] at hv1
    obtain⟨rfl,rfl⟩:=hv1
    have c0:=HO1.out.cellAt k (by omega)
    rw[flat_int8,List.getElem?_map,List.getElem?_eq_getElem hk] at c0
    simp only[Option.map_some] at c0
    have HTK:=Lib.hid (take_countP ll (fun z=>decide (z≠(xn:Int))) hk)
    generalize ll[k]=m at *
    generalize (ll.take k).countP (fun z=>decide (z≠(xn:Int)))=cnt at *
    by_cases hm:m=(xn:Int)
    ·have hmb:(m != (xn:Int))=false:=by simp[hm]
     go_wp2
     go_roundg (gk-1)
     case measure=>omega
     case rel=>exact⟨k+1,by omega,by go_num,by rw[HTK.out];simp[hm],rfl⟩
    ·have hmb:(m != (xn:Int))=true:=by simp[hm]
     go_wp2
     go_roundg (gk-1)
     case measure=>omega
     case rel=>exact⟨k+1,by omega,by go_num,by rw[HTK.out];simp[hm],rfl⟩
   ·have hge:¬ (k:Int)<(ll.length:Int):=by omega
    have htk:ll.take k=ll:=List.take_of_length_le (by omega)
    rw[htk]
    rw[htk] at hcl
    rw[HOT.out] at hcl ⊢
    by_cases hfin:c.blast≤(others s xn:Nat)
    ·go_wp2
     go_ret
     exact⟨ret_i64 (by rw[HRR.out,if_pos hfin]),HL1.out⟩
    ·go_wp2
     go_ret
     exact⟨ret_i64 (by rw[HRR.out,if_neg (by omega)]),HL1.out⟩
end Go.Proofs.YtchhdflealgkaaaGreat
