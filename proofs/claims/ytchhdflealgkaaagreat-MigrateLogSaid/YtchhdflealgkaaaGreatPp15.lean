import Derived.Test.YtchhdflealgkaaaGreatPp14
import Derived.Laws.OwnMore
namespace Go.Proofs.YtchhdflealgkaaaGreat
open Go.RowKit
set_option linter.unusedSimpArgs false
set_option linter.unusedVariables false
theorem later_next {B:Nat} {w wq:World} (y:Later B w) (hw:B≤w.heap.size) (hb:Below y.world.heap.size y.world wq):∃ y2:Later B w,wq=y2.world:=
 ⟨⟨wq,y.below.trans (hb.mono (Nat.le_trans hw y.below.size))⟩,rfl⟩
theorem start_later {P:Program} {c:Code} {Q:Exit→Act→World→Prop} {a:Act} {w:World} (B:Nat) (h:∀ y:Later B w,c.wp P Q a y.world):c.wp P Q a w:=h ⟨w,Below.refl _ _⟩
set_option maxHeartbeats 400000 in
theorem stHas_any (set i:Int) (w:World) (h0:0≤set) (h1:set<1073741824) :
  Calls Tryz.prog 163 #[.int .i64 set,.int .i64 i] w fun e w'=>e=.returned (.bool (hasB set i))∧w=w':=by
 have HB:=Lib.hid (bit_div2 set i h0)
 have HD:=div_bd (z:=set) i h0 (by omega)
 have HH:Hid (62≤i→bitB set i=false):=by
  refine Lib.hid fun hi=>?_
  obtain⟨n,rfl⟩:=Int.eq_ofNat_of_zero_le h0
  unfold bitB
  rw[Int.toNat_natCast]
  refine Nat.testBit_lt_two_pow (Nat.lt_of_lt_of_le (show n<2 ^ 30 by omega) (Nat.pow_le_pow_right (by omega) (by omega)))
 go_enter Tryz.func163,Tryz.ntmps163
 go_wp2
 all_goals
  go_ret
  refine⟨ret_bool ?_,rfl⟩
 ·rw[i64_and1 _ (by omega) (by omega),HB.out]
  by_cases h62:i<62
  ·simp[hasB, *]
  ·rw[HH.out (by omega)]
   simp[hasB]
   omega
 ·simp[hasB]
  omega
 ·simp[hasB]
  omega
def modeAt (s:St) (k:Int):Int:=if 0≤k∧k<s.cells.length then (csAt s k).mode else 0
set_option maxHeartbeats 400000 in
theorem stModeOf_any (x:StA) (s:St) (k:Int) (w:World) (hl:s.cells.length≤100) (hok:StOk w (·<w.heap.size) x s) :
  Calls Tryz.prog 157 #[.agg (stC x s),.int .i64 k] w fun e w'=>e=.returned (.int .i64 (modeAt s k))∧Below w.heap.size w w':=by
 obtain⟨at_,ct,ac,cc⟩:=x
 have HK:=Lib.hid hok
 clear hok
 unfold stC
 simp only
 by_cases hk:0≤k∧k<s.cells.length
 ·obtain⟨hk0,hk1⟩:=hk
  obtain⟨n,rfl⟩:=Int.eq_ofNat_of_zero_le hk0
  have hn:n<s.cells.length:=by omega
  obtain⟨b,off,z,rfl,hb,hz,hcell⟩:=HK.out.cells.row (enc:=csC) (sz:=4) (fun _=>rfl) (by omega) hn
  have e0:=hcell 0 (.int .i64 z.mode) rfl
  simp only[Nat.add_zero] at e0
  have hzo:modeAt s n=z.mode:=by unfold modeAt csAt;rw[if_pos ⟨hk0,hk1⟩,Int.toNat_natCast,getD_some hz]
  have HZ:=Lib.hid hzo
  have hb1:b<w.heap.size:=hb
  clear hcell hz hzo
  go_enter Tryz.func157,Tryz.ntmps157
  go_wp2
  go_ret
  exact⟨ret_i64 HZ.out.symm,(Below.refl _ _).alloc (Nat.le_refl _) _⟩
 ·have hzo:modeAt s k=0:=by unfold modeAt;rw[if_neg hk]
  have HZ:=Lib.hid hzo
  have hd:k<0∨(0≤k∧(s.cells.length:Int)≤k):=by omega
  clear hk hzo
  rcases hd with hd | ⟨hd1,hd⟩
  all_goals
   go_enter Tryz.func157,Tryz.ntmps157
   go_wp2
   go_ret
   exact⟨ret_i64 HZ.out.symm,(Below.refl _ _).alloc (Nat.le_refl _) _⟩
def verOf (c:Cfg) (k:Int):Int×Int:=if 0≤k∧k<c.versions.length then verAt c k else (0,0)
set_option maxHeartbeats 400000 in
theorem stVersionOf_any (x:CfgA) (c:Cfg) (k:Int) (w:World) (hV:CfgV c) (hok:CfgOk w (·<w.heap.size) x c) :
  Calls Tryz.prog 162 #[.agg (cfgC x c),.int .i64 k] w fun e w'=>e=.returned (.agg (pairC (verOf c k)).toArray)∧Below w.heap.size w w':=by
 obtain⟨az,cz,ac,cc,at_,ct,av,cv,ar,cr,ao,co⟩:=x
 have hnc:=hV.nv
 have HK:=Lib.hid hok
 clear hok hV
 unfold cfgC
 simp only
 by_cases hk:0≤k∧k<c.versions.length
 ·obtain⟨hk0,hk1⟩:=hk
  obtain⟨n,rfl⟩:=Int.eq_ofNat_of_zero_le hk0
  have hn:n<c.versions.length:=by omega
  obtain⟨b,off,z,rfl,hb,hz,hcell⟩:=HK.out.versions.row (enc:=pairC) (sz:=2) (fun _=>rfl) (by omega) hn
  have e0:=hcell 0 (.int .i64 z.1) rfl
  have e1:=hcell 1 (.int .i64 z.2) rfl
  simp only[Nat.add_zero] at e0
  have hzo:verOf c n=z:=by unfold verOf verAt;rw[if_pos ⟨hk0,hk1⟩,Int.toNat_natCast,getD_some hz]
  have HZ:=Lib.hid hzo
  have hb1:b<w.heap.size:=hb
  have hg:b<(w.alloc (.cells #[.int .i64 c.regions,.slice az c.zones.length cz,.slice ac c.cells.length cc,.slice at_ c.tenants.length ct,.slice (some ⟨b,off,none⟩) c.versions.length cv,.slice ar c.replicas.length cr,.slice ao c.observers.length co,.int .i64 c.blast,.int .i64 c.lease,.int .i64 c.bake] 31)).heap.size:=by simp;omega
  have e0':=(World.cell?_alloc_lt w (.cells #[.int .i64 c.regions,.slice az c.zones.length cz,.slice ac c.cells.length cc,.slice at_ c.tenants.length ct,.slice (some ⟨b,off,none⟩) c.versions.length cv,.slice ar c.replicas.length cr,.slice ao c.observers.length co,.int .i64 c.blast,.int .i64 c.lease,.int .i64 c.bake] 31) ⟨b,off+n * 2,none⟩ hb1).trans e0
  have e1':=(World.cell?_alloc_lt w (.cells #[.int .i64 c.regions,.slice az c.zones.length cz,.slice ac c.cells.length cc,.slice at_ c.tenants.length ct,.slice (some ⟨b,off,none⟩) c.versions.length cv,.slice ar c.replicas.length cr,.slice ao c.observers.length co,.int .i64 c.blast,.int .i64 c.lease,.int .i64 c.bake] 31) ⟨b,off+n * 2+1,none⟩ hb1).trans e1
  clear hcell hz hzo
  go_enter Tryz.func162,Tryz.ntmps162
  go_wp2
  rw[HZ.out]
  refine bodyPost_ret (v:=.agg #[.int .i64 z.1,.int .i64 z.2]) (by simp[results,Tryz.results162,go_sem]) rfl ?_
  exact⟨rfl,((Below.refl _ _).alloc (Nat.le_refl _) _).alloc (by simp) _⟩
 ·have hzo:verOf c k=(0,0):=by unfold verOf;rw[if_neg hk]
  have HZ:=Lib.hid hzo
  have hd:k<0∨(0≤k∧(c.versions.length:Int)≤k):=by omega
  clear hk hzo
  rcases hd with hd | ⟨hd1,hd⟩
  all_goals
   go_enter Tryz.func162,Tryz.ntmps162
   go_wp2
   rw[HZ.out]
   refine bodyPost_ret (v:=.agg #[.int .i64 0,.int .i64 0]) (by simp[results,Tryz.results162,go_sem]) rfl ?_
   exact⟨rfl,((Below.refl _ _).alloc (Nat.le_refl _) _).alloc (by simp) _⟩
set_option maxHeartbeats 1000000 in
theorem stNear_any (x:CfgA) (c:Cfg) (a b:Int) (w:World) (hV:CfgV c) (hok:CfgOk w (·<w.heap.size) x c) :
  Calls Tryz.prog 160 #[.agg (cfgC x c),.int .i64 a,.int .i64 b] w fun e w'=>e=.returned (.bool (nearB c a b))∧Below w.heap.size w w':=by
 obtain⟨az,cz,ac,cc,at_,ct,av,cv,ar,cr,ao,co⟩:=x
 have HV:=Lib.hid hV
 have HK:=Lib.hid hok
 have HL:=Lib.hid ((Below.refl w.heap.size w).alloc (Nat.le_refl _) (.cells (cfgC ⟨az,cz,ac,cc,at_,ct,av,cv,ar,cr,ao,co⟩ c) 31))
 have HW:=Lib.hid (HK.out.allocW (.cells (cfgC ⟨az,cz,ac,cc,at_,ct,av,cv,ar,cr,ao,co⟩ c) 31))
 have hBx:=Blk.new w 31 (cfgC ⟨az,cz,ac,cc,at_,ct,av,cv,ar,cr,ao,co⟩ c)
 have hg:=hBx.lt
 have d0:=hBx.cell' (i:=0) (v:=.int .i64 c.regions) rfl
 have d1:=hBx.cell' (i:=1) (v:=.slice az c.zones.length cz) rfl
 have d2:=hBx.cell' (i:=2) (v:=.slice ac c.cells.length cc) rfl
 have d3:=hBx.cell' (i:=3) (v:=.slice at_ c.tenants.length ct) rfl
 have d4:=hBx.cell' (i:=4) (v:=.slice av c.versions.length cv) rfl
 have d5:=hBx.cell' (i:=5) (v:=.slice ar c.replicas.length cr) rfl
 have d6:=hBx.cell' (i:=6) (v:=.slice ao c.observers.length co) rfl
 have d7:=hBx.cell' (i:=7) (v:=.int .i64 c.blast) rfl
 have d8:=hBx.cell' (i:=8) (v:=.int .i64 c.lease) rfl
 have d9:=hBx.cell' (i:=9) (v:=.int .i64 c.bake) rfl
 clear hBx
 unfold cfgC at HL HW d0 d1 d2 d3 d4 d5 d6 d7 d8 d9 hg
 simp only at HL HW d0 d1 d2 d3 d4 d5 d6 d7 d8 d9 hg
 clear hok hV HK
 unfold cfgC
 simp only
 by_cases hb:b=-1
 ·have hN:nearB c a b=false:=by simp[nearB,hb]
  have HN:=Lib.hid hN
  subst hb
  clear hN
  go_enter Tryz.func160,Tryz.ntmps160
  go_wp2
  go_ret
  exact⟨ret_bool HN.out.symm,HL.out⟩
 ·have hN:nearB c a b=!apartB c a b:=by simp[nearB,hb]
  have HN:=Lib.hid hN
  have hb2:(b != -1)=true:=by simpa using hb
  clear hN hb
  go_enter Tryz.func160,Tryz.ntmps160
  go_wp2_with fail
  refine (tenantApart_any ⟨az,cz,ac,cc,at_,ct,av,cv,ar,cr,ao,co⟩ c a b _ HV.out HW.out).mono ?_
  rintro e w1 ⟨rfl,hb1⟩
  have HB:=Lib.hid (HL.out.trans (hb1.mono (Nat.le_of_lt hg)))
  clear hb1 d0 d1 d2 d3 d4 d5 d6 d7 d8 d9 hg
  go_wp2
  go_ret
  exact⟨ret_bool HN.out.symm,HB.out⟩
set_option maxHeartbeats 1000000 in
theorem stFrozen_any (x:CfgA) (c:Cfg) (y:StA) (s:St) (k:Int) (w:World) (hV:CfgV c) (hc:CfgOk w (·<w.heap.size) x c) (hI:StInv c s) :
  Calls Tryz.prog 158 #[.agg (cfgC x c),.agg (stC y s),.int .i64 k] w fun e w'=>e=.returned (.bool (frozenB c s k))∧Below w.heap.size w w':=by
 obtain⟨az,cz,ac,cc,at_,ct,av,cv,ar,cr,ao,co⟩:=x
 have HV:=Lib.hid hV
 have HKc:=Lib.hid hc
 obtain⟨sat,sct,sac,scc⟩:=y
 have hev:=hI.evac
 have HF:Hid (frozenB c s k=hasB s.evac (regionOf c k)):=Lib.hid rfl
 clear hV hc hI
 have hL:Below w.heap.size w ((w.alloc (.cells #[.int .i64 c.regions,.slice az c.zones.length cz,.slice ac c.cells.length cc,.slice at_ c.tenants.length ct,.slice av c.versions.length cv,.slice ar c.replicas.length cr,.slice ao c.observers.length co,.int .i64 c.blast,.int .i64 c.lease,.int .i64 c.bake] 31)).alloc (.cells #[.int .i64 s.tick,.int .i64 s.count,.slice sat s.tenants.length sct,.slice sac s.cells.length scc,.int .i64 s.proven,.int .i64 s.evac,.int .i64 s.low,.int .i64 s.high] 53)):=(((Below.refl w.heap.size w).alloc (by simp<;>omega) (.cells #[.int .i64 c.regions,.slice az c.zones.length cz,.slice ac c.cells.length cc,.slice at_ c.tenants.length ct,.slice av c.versions.length cv,.slice ar c.replicas.length cr,.slice ao c.observers.length co,.int .i64 c.blast,.int .i64 c.lease,.int .i64 c.bake] 31)).alloc (by simp<;>omega) (.cells #[.int .i64 s.tick,.int .i64 s.count,.slice sat s.tenants.length sct,.slice sac s.cells.length scc,.int .i64 s.proven,.int .i64 s.evac,.int .i64 s.low,.int .i64 s.high] 53))
 have hBc:Blk ((w.alloc (.cells #[.int .i64 c.regions,.slice az c.zones.length cz,.slice ac c.cells.length cc,.slice at_ c.tenants.length ct,.slice av c.versions.length cv,.slice ar c.replicas.length cr,.slice ao c.observers.length co,.int .i64 c.blast,.int .i64 c.lease,.int .i64 c.bake] 31)).alloc (.cells #[.int .i64 s.tick,.int .i64 s.count,.slice sat s.tenants.length sct,.slice sac s.cells.length scc,.int .i64 s.proven,.int .i64 s.evac,.int .i64 s.low,.int .i64 s.high] 53)) (w.heap.size) 31 #[.int .i64 c.regions,.slice az c.zones.length cz,.slice ac c.cells.length cc,.slice at_ c.tenants.length ct,.slice av c.versions.length cv,.slice ar c.replicas.length cr,.slice ao c.observers.length co,.int .i64 c.blast,.int .i64 c.lease,.int .i64 c.bake]:=by
  have:=((Blk.new w 31 #[.int .i64 c.regions,.slice az c.zones.length cz,.slice ac c.cells.length cc,.slice at_ c.tenants.length ct,.slice av c.versions.length cv,.slice ar c.replicas.length cr,.slice ao c.observers.length co,.int .i64 c.blast,.int .i64 c.lease,.int .i64 c.bake]).alloc (.cells #[.int .i64 s.tick,.int .i64 s.count,.slice sat s.tenants.length sct,.slice sac s.cells.length scc,.int .i64 s.proven,.int .i64 s.evac,.int .i64 s.low,.int .i64 s.high] 53))
  simpa using this
 have hBs:Blk ((w.alloc (.cells #[.int .i64 c.regions,.slice az c.zones.length cz,.slice ac c.cells.length cc,.slice at_ c.tenants.length ct,.slice av c.versions.length cv,.slice ar c.replicas.length cr,.slice ao c.observers.length co,.int .i64 c.blast,.int .i64 c.lease,.int .i64 c.bake] 31)).alloc (.cells #[.int .i64 s.tick,.int .i64 s.count,.slice sat s.tenants.length sct,.slice sac s.cells.length scc,.int .i64 s.proven,.int .i64 s.evac,.int .i64 s.low,.int .i64 s.high] 53)) (w.heap.size+1) 53 #[.int .i64 s.tick,.int .i64 s.count,.slice sat s.tenants.length sct,.slice sac s.cells.length scc,.int .i64 s.proven,.int .i64 s.evac,.int .i64 s.low,.int .i64 s.high]:=by
  have:=(Blk.new (w.alloc (.cells #[.int .i64 c.regions,.slice az c.zones.length cz,.slice ac c.cells.length cc,.slice at_ c.tenants.length ct,.slice av c.versions.length cv,.slice ar c.replicas.length cr,.slice ao c.observers.length co,.int .i64 c.blast,.int .i64 c.lease,.int .i64 c.bake] 31)) 53 #[.int .i64 s.tick,.int .i64 s.count,.slice sat s.tenants.length sct,.slice sac s.cells.length scc,.int .i64 s.proven,.int .i64 s.evac,.int .i64 s.low,.int .i64 s.high])
  simpa using this
 unfold cfgC stC
 simp only
 go_enter Tryz.func158,Tryz.ntmps158
 go_upto_region 1 with fail
 generalize (w.alloc _).alloc _=W at *
 have hgc:=hBc.lt
 have d0:=hBc.cell' (i:=0) (v:=.int .i64 c.regions) rfl
 have d1:=hBc.cell' (i:=1) (v:=.slice az c.zones.length cz) rfl
 have d2:=hBc.cell' (i:=2) (v:=.slice ac c.cells.length cc) rfl
 have d3:=hBc.cell' (i:=3) (v:=.slice at_ c.tenants.length ct) rfl
 have d4:=hBc.cell' (i:=4) (v:=.slice av c.versions.length cv) rfl
 have d5:=hBc.cell' (i:=5) (v:=.slice ar c.replicas.length cr) rfl
 have d6:=hBc.cell' (i:=6) (v:=.slice ao c.observers.length co) rfl
 have d7:=hBc.cell' (i:=7) (v:=.int .i64 c.blast) rfl
 have d8:=hBc.cell' (i:=8) (v:=.int .i64 c.lease) rfl
 have d9:=hBc.cell' (i:=9) (v:=.int .i64 c.bake) rfl
 clear hBc
 have hgs:=hBs.lt
 have su0:=hBs.cell' (i:=0) (v:=.int .i64 s.tick) rfl
 have su1:=hBs.cell' (i:=1) (v:=.int .i64 s.count) rfl
 have su2:=hBs.cell' (i:=2) (v:=.slice sat s.tenants.length sct) rfl
 have su3:=hBs.cell' (i:=3) (v:=.slice sac s.cells.length scc) rfl
 have su4:=hBs.cell' (i:=4) (v:=.int .i64 s.proven) rfl
 have su5:=hBs.cell' (i:=5) (v:=.int .i64 s.evac) rfl
 have su6:=hBs.cell' (i:=6) (v:=.int .i64 s.low) rfl
 have su7:=hBs.cell' (i:=7) (v:=.int .i64 s.high) rfl
 clear hBs
 have HL:=Lib.hid hL
 have HWc:=Lib.hid (HKc.out.belowW hL)
 clear hL
 have hx:∀ (y:Later W.heap.size W) b o,b<W.heap.size→y.world.cell? ⟨b,o,none⟩=W.cell? ⟨b,o,none⟩:=fun y b o h=>y.cell h
 refine wp_region_below W.heap.size (by kernel_rfl) (by kernel_rfl) ?_
 repeat (quiet_step ((first | (go_at_call 185;exact quiet_belowW _ (topoRegionOf_any ⟨az,cz,ac,cc,at_,ct,av,cv,ar,cr,ao,co⟩ c _ _ HV.out (HWc.out.laterW _))) | (go_at_call 163;exact quiet_sameW _ (stHas_any _ _ _ (by omega) (by omega))))))
 refine wpQuiet_nil ?_
 rintro w' ⟨y,rfl⟩
 have HY:=Lib.hid (HL.out.trans (y.below.mono (Nat.le_of_lt hgc)))
 clear hx d0 d1 d2 d3 d4 d5 d6 d7 d8 d9 hgc hgs su0 su1 su2 su3 su4 su5 su6 su7
 go_wp2
 go_ret
 exact⟨ret_bool HF.out.symm,HY.out⟩
theorem tsInfo:(Tryz.prog.info? 64).map (fun i=>(i.zero,i.size,i.bytes))=some (some (.agg #[.bool false,.bool false,.int .i64 0,.int .i64 0,.int .i64 0,.int .i64 0,.int .i64 0,.int .i64 0,.int .i64 0,.int .i64 0,.int .i64 0,.int .i64 0]),12,88):=by kernel_rfl
theorem csInfo:(Tryz.prog.info? 78).map (fun i=>(i.zero,i.size,i.bytes))=some (some (.agg #[.int .i64 0,.int .i64 0,.int .i64 0,.int .i64 0]),4,32):=by kernel_rfl
theorem tsNil (n cp:Nat) (w:World):Sem.run Tryz.prog (binOp BinOp.eql 50 (.slice none n cp) (.slice none 0 0)) w=.ok (.bool true) w:=by kernel_rfl
theorem tsSome (ad:Addr) (n cp:Nat) (w:World):Sem.run Tryz.prog (binOp BinOp.eql 50 (.slice (some ad) n cp) (.slice none 0 0)) w=.ok (.bool false) w:=by kernel_rfl
theorem csNil (n cp:Nat) (w:World):Sem.run Tryz.prog (binOp BinOp.eql 51 (.slice none n cp) (.slice none 0 0)) w=.ok (.bool true) w:=by kernel_rfl
theorem csSome (ad:Addr) (n cp:Nat) (w:World):Sem.run Tryz.prog (binOp BinOp.eql 51 (.slice (some ad) n cp) (.slice none 0 0)) w=.ok (.bool false) w:=by kernel_rfl
def RowPost (T:TypeId) (size:Nat) (w:World) (n:Nat) (xs:List Value) (e:Ending) (w':World):Prop:=
 ∃ (A:Option Addr) (cp:Nat),e=.returned (.slice A n cp)∧w'.ownsRow w.heap.size T size (.slice A n cp) n xs∧Below w.heap.size w w'
set_option maxHeartbeats 2000000 in
set_option maxRecDepth 100000 in
theorem cloneTs_any (A:Option Addr) (cp:Nat) (l:List TS) (w:World) (hl:l.length≤100) (hr:Rd w (·<w.heap.size) A (flat tsC l)) :
  Calls Tryz.prog 117 #[.slice A l.length cp] w (RowPost 64 12 w l.length (flat tsC l)):=by
 obtain⟨ii,hii,hi0,hi1,hi2⟩:=info_parts tsInfo
 have hlen:=flat_length (enc:=tsC) (sz:=12) (fun _=>rfl) l
 cases A with
 | none=>
  have h0:l=[]:=by
   cases l with
   | nil=>rfl
   | cons a r=>
    obtain⟨b,o,hA,_⟩:=hr (by simp[flat,tsC])
    cases hA
  subst h0
  go_enter Tryz.func117,Tryz.ntmps117
  have hq:=tsNil 0 cp w
  go_wp2
  go_ret
  exact⟨none,0,rfl,World.ownsRow_nil _ _ _ _,Below.refl _ _⟩
 | some ad=>
  have hq:=tsSome ad l.length cp w
  have h0:=World.ownsRow_lit (base:=w.heap.size) (e:=64) (size:=12) w #[] 0 (Nat.le_refl _) (by unfold maxLen;omega) rfl
  have hb0:=(Below.refl w.heap.size w).alloc (Nat.le_refl _) (.cells #[] 64)
  have h1:=(hr.alloc (.cells #[] 64))
  have hone:∀ u ∈ flat tsC l,u.oneCell'=true:=by
   intro u hu
   obtain⟨a,_,ha⟩:=List.mem_flatMap.1 (show u ∈ l.flatMap tsC from hu)
   simp only[tsC,List.mem_cons,List.not_mem_nil,or_false] at ha
   rcases ha with rfl | rfl | rfl | rfl | rfl | rfl | rfl | rfl | rfl | rfl | rfl | rfl<;>rfl
  go_enter Tryz.func117,Tryz.ntmps117
  go_wp2_with (at_builtin;refine wpList_append_rd _ rfl _ _ _ rfl w.heap.size 64 ii _ 12 88 Tryz.underlying50 hii hi0 hi1 hi2 rfl (by omega) _ 0 [] rfl h0 _ (some ad) l.length cp (flat tsC l) rfl hlen h1 hone ?c1 ?c2 ?c3 ?_)
  case c1=>unfold maxLen;omega
  case c2=>omega
  intro v' w2 hown hg hat
  (try rw[Nat.zero_add] at hown);(try rw[List.nil_append] at hown)
  obtain⟨A',cp',rfl⟩:=own_form hown
  have HO:=Lib.hid hown
  have HB:=Lib.hid (hb0.grown hg (by simp) (fun k hk=>by injection hk with hk;rw[← hk];exact Nat.le_refl _))
  clear hown hg hat h0 hb0 hq
  go_wp2
  go_ret
  exact⟨A',cp',rfl,HO.out,HB.out⟩
set_option maxHeartbeats 2000000 in
set_option maxRecDepth 100000 in
theorem cloneCs_any (A:Option Addr) (cp:Nat) (l:List CS) (w:World) (hl:l.length≤100) (hr:Rd w (·<w.heap.size) A (flat csC l)) :
  Calls Tryz.prog 118 #[.slice A l.length cp] w (RowPost 78 4 w l.length (flat csC l)):=by
 obtain⟨ii,hii,hi0,hi1,hi2⟩:=info_parts csInfo
 have hlen:=flat_length (enc:=csC) (sz:=4) (fun _=>rfl) l
 cases A with
 | none=>
  have h0:l=[]:=by
   cases l with
   | nil=>rfl
   | cons a r=>
    obtain⟨b,o,hA,_⟩:=hr (by simp[flat,csC])
    cases hA
  subst h0
  go_enter Tryz.func118,Tryz.ntmps118
  have hq:=csNil 0 cp w
  go_wp2
  go_ret
  exact⟨none,0,rfl,World.ownsRow_nil _ _ _ _,Below.refl _ _⟩
 | some ad=>
  have hq:=csSome ad l.length cp w
  have h0:=World.ownsRow_lit (base:=w.heap.size) (e:=78) (size:=4) w #[] 0 (Nat.le_refl _) (by unfold maxLen;omega) rfl
  have hb0:=(Below.refl w.heap.size w).alloc (Nat.le_refl _) (.cells #[] 78)
  have h1:=(hr.alloc (.cells #[] 78))
  have hone:∀ u ∈ flat csC l,u.oneCell'=true:=by
   intro u hu
   obtain⟨a,_,ha⟩:=List.mem_flatMap.1 (show u ∈ l.flatMap csC from hu)
   simp only[csC,List.mem_cons,List.not_mem_nil,or_false] at ha
   rcases ha with rfl | rfl | rfl | rfl<;>rfl
  go_enter Tryz.func118,Tryz.ntmps118
  go_wp2_with (at_builtin;refine wpList_append_rd _ rfl _ _ _ rfl w.heap.size 78 ii _ 4 32 Tryz.underlying51 hii hi0 hi1 hi2 rfl (by omega) _ 0 [] rfl h0 _ (some ad) l.length cp (flat csC l) rfl hlen h1 hone ?c1 ?c2 ?c3 ?_)
  case c1=>unfold maxLen;omega
  case c2=>omega
  intro v' w2 hown hg hat
  (try rw[Nat.zero_add] at hown);(try rw[List.nil_append] at hown)
  obtain⟨A',cp',rfl⟩:=own_form hown
  have HO:=Lib.hid hown
  have HB:=Lib.hid (hb0.grown hg (by simp) (fun k hk=>by injection hk with hk;rw[← hk];exact Nat.le_refl _))
  clear hown hg hat h0 hb0 hq
  go_wp2
  go_ret
  exact⟨A',cp',rfl,HO.out,HB.out⟩
theorem Blk.setCellsFar2 {w:World} {g b:Nat} {t:TypeId} {cs:Array Value} (h:Blk w g t cs) (hb:g≠b) (o:Nat) (vs:List Value):Blk (w.setCells b o vs) g t cs:=(setCells_far vs o g hb).trans h
theorem below_setCells2 {B:Nat} {w wx:World} (h:Below B w wx) {b:Nat} (hb:B≤b):∀ (vs:List Value) (o:Nat),Below B w (wx.setCells b o vs):=by
 intro vs
 induction vs generalizing wx with
 | nil=>intro o;exact h
 | cons v r ih=>intro o;rw[World.setCells];exact ih (h.setCell (p:=⟨b,o,none⟩) hb v) _
theorem putL_get:∀ (vs:List Value) (cs:Array Value) (o j:Nat),(putL cs o vs)[j]?=if o≤j∧j<o+vs.length∧j<cs.size then vs[j-o]? else cs[j]?
 | [],cs,o,j=>by simp only[putL,List.length_nil];rw[if_neg (by omega)]
 | v::r,cs,o,j=>by
  rw[putL,putL_get r,Array.size_setIfInBounds]
  by_cases h1:j=o
  ·subst h1
   rw[if_neg (by omega),Array.getElem?_setIfInBounds]
   by_cases h2:j<cs.size
   ·simp[h2]
   ·simp[h2,Array.getElem?_eq_none (Nat.le_of_not_lt h2)]
  ·by_cases h2:o+1≤j∧j<o+1+r.length∧j<cs.size
   ·rw[if_pos h2,if_pos (by simp only[List.length_cons];omega)]
    have:j-o=(j-(o+1))+1:=by omega
    rw[this,List.getElem?_cons_succ]
   ·rw[if_neg h2,if_neg (by simp only[List.length_cons];omega),Array.getElem?_setIfInBounds,if_neg (by omega)]
theorem putL_full {ZA FA:Array Value} (h:ZA.size=FA.size):putL ZA 0 FA.toList=FA:=by
 apply Array.ext_getElem?
 intro j
 rw[putL_get]
 by_cases hj:j<FA.size
 ·rw[if_pos ⟨Nat.zero_le _,by simpa using hj,by omega⟩]
  simp
 ·rw[if_neg (by omega),Array.getElem?_eq_none (by omega),Array.getElem?_eq_none (by omega)]
theorem upd_same (d:Nat→Bool) (i:Nat):upd d i i=true:=if_pos rfl
theorem upd_other (d:Nat→Bool) {i j:Nat} (h:j≠i):upd d i j=d j:=if_neg h
structure TwoJ (W:World) (Ta Tb:TypeId) (ZA FA ZB:Array Value) (ia ib is:Nat) (d:Nat→Bool) (va vb:Value) (ga gb:Nat) (wx:World):Prop where
 below:Below W.heap.size W wx
 a:d ia=true→va=.pointer (some ⟨ga,0,none⟩)∧Blk wx ga Ta (if d is=true then FA else ZA)∧W.heap.size≤ga
 b:d ib=true→vb=.pointer (some ⟨gb,0,none⟩)∧Blk wx gb Tb ZB∧W.heap.size≤gb
 ne:d ia=true→d ib=true→ga≠gb
 st:d is=true→d ia=true
section
variable {W wx:World} {Ta Tb:TypeId} {ZA FA ZB:Array Value} {ia ib is:Nat} {d:Nat→Bool} {va vb:Value} {ga gb:Nat}
theorem TwoJ.later (h:TwoJ W Ta Tb ZA FA ZB ia ib is d va vb ga gb wx) {wy:World} (hb:Below wx.heap.size wx wy):TwoJ W Ta Tb ZA FA ZB ia ib is d va vb ga gb wy:=
 ⟨h.below.trans (hb.mono h.below.size),fun q=>⟨(h.a q).1,(h.a q).2.1.below hb (h.a q).2.1.lt,(h.a q).2.2⟩,fun q=>⟨(h.b q).1,(h.b q).2.1.below hb (h.b q).2.1.lt,(h.b q).2.2⟩,h.ne,h.st⟩
theorem TwoJ.other (h:TwoJ W Ta Tb ZA FA ZB ia ib is d va vb ga gb wx) {i:Nat} (h1:ia≠i) (h2:ib≠i) (h3:is≠i):TwoJ W Ta Tb ZA FA ZB ia ib is (upd d i) va vb ga gb wx:=by
 obtain⟨q1,q2,q3,q4,q5⟩:=h
 refine⟨q1,?_,?_,?_,?_⟩<;>simp only[upd_other d h1,upd_other d h2,upd_other d h3]<;>assumption
theorem TwoJ.start (hb:Below W.heap.size W wx) (h1:d ia=false) (h2:d ib=false) (h3:d is=false):TwoJ W Ta Tb ZA FA ZB ia ib is d va vb ga gb wx:=
 ⟨hb,fun q=>(by rw[h1] at q;cases q),fun q=>(by rw[h2] at q;cases q),fun q=>(by rw[h1] at q;cases q),fun q=>(by rw[h3] at q;cases q)⟩
theorem TwoJ.allocA (h:TwoJ W Ta Tb ZA FA ZB ia ib is d va vb ga gb wx) (h0:d ia=false) (h1:ib≠ia) (h2:is≠ia):TwoJ W Ta Tb ZA FA ZB ia ib is (upd d ia) (.pointer (some ⟨wx.heap.size,0,none⟩)) vb wx.heap.size gb (wx.alloc (.cells ZA Ta)):=by
 have h2':=h.later ((Below.refl wx.heap.size wx).alloc (Nat.le_refl _) (.cells ZA Ta))
 have hs:d is=false:=Bool.eq_false_iff.2 fun q=>by rw[h.st q] at h0;cases h0
 refine⟨h2'.below,?_,?_,?_,?_⟩<;>simp only[upd_same,upd_other d h1,upd_other d h2]
 ·intro _
  rw[hs]
  exact⟨trivial,Blk.new _ _ _,h.below.size⟩
 ·exact h2'.b
 ·intro _ q
  have:=(h.b q).2.1.lt
  omega
 ·intro _;trivial
theorem TwoJ.allocB (h:TwoJ W Ta Tb ZA FA ZB ia ib is d va vb ga gb wx) (h1:ia≠ib) (h2:is≠ib):TwoJ W Ta Tb ZA FA ZB ia ib is (upd d ib) va (.pointer (some ⟨wx.heap.size,0,none⟩)) ga wx.heap.size (wx.alloc (.cells ZB Tb)):=by
 have h2':=h.later ((Below.refl wx.heap.size wx).alloc (Nat.le_refl _) (.cells ZB Tb))
 refine⟨h2'.below,?_,?_,?_,?_⟩<;>simp only[upd_same,upd_other d h1,upd_other d h2]
 ·exact h2'.a
 ·intro _
  exact⟨trivial,Blk.new _ _ _,h.below.size⟩
 ·intro q _
  have:=(h.a q).2.1.lt
  omega
 ·exact h.st
theorem TwoJ.storeA (h:TwoJ W Ta Tb ZA FA ZB ia ib is d va vb ga gb wx) (h1:d ia=true) (h1b:d ib=true) (h2:ia≠is) (h3:ib≠is) (hp:putL ZA 0 FA.toList=FA) (hp2:putL FA 0 FA.toList=FA):TwoJ W Ta Tb ZA FA ZB ia ib is (upd d is) va vb ga gb (wx.setCells ga 0 FA.toList):=by
 have ha:=h.a h1
 refine⟨below_setCells2 h.below ha.2.2 _ _,?_,?_,?_,?_⟩<;>simp only[upd_same,upd_other d h2,upd_other d h3]
 ·intro _
  refine⟨ha.1,?_,ha.2.2⟩
  have:=ha.2.1.setCells FA.toList 0
  have e:putL (if d is=true then FA else ZA) 0 FA.toList=FA:=by split<;>assumption
  rw[e] at this
  exact this
 ·exact fun q=>⟨(h.b q).1,(h.b q).2.1.setCellsFar2 (Ne.symm (h.ne h1 h1b)) _ _,(h.b q).2.2⟩
 ·exact h.ne
 ·exact fun _=>h1
structure TwoC (W:World) (Ta Tb:TypeId) (FA FB:Array Value) (ga gb:Nat) (wx:World):Prop where
 a:Blk wx ga Ta FA
 b:Blk wx gb Tb FB
 below:Below W.heap.size W wx
theorem TwoJ.done1 {FB:Array Value} (h:TwoJ W Ta Tb ZA FA ZB ia ib is d va vb ga gb wx) (h1:d ia=true) (h2:d ib=true) (hs:d is=true) (hp2:putL ZB 0 FB.toList=FB) :
  TwoC W Ta Tb FA FB ga gb (wx.setCells gb 0 FB.toList):=by
 have ha:=h.a h1
 have hb:=h.b h2
 rw[if_pos hs] at ha
 have q2:=hb.2.1.setCells FB.toList 0
 rw[hp2] at q2
 exact⟨ha.2.1.setCellsFar2 (h.ne h1 h2) _ _,q2,below_setCells2 h.below hb.2.2 _ _⟩
end
def RowAt (cs:Array Value) (off:Nat) (l:List Value):Prop:=∀ (j:Nat) (v:Value),l[j]?=some v→cs[off+j]?=some v
theorem RowAt.fits {cs:Array Value} {off:Nat} {l:List Value} (h:RowAt cs off l) (hl:0<l.length):off+l.length≤cs.size:=by
 have h1:l[l.length-1]?=some l[l.length-1]:=List.getElem?_eq_getElem (by omega)
 have h2:=h _ _ h1
 have:=(Array.getElem?_eq_some_iff.1 h2).1
 omega
theorem putL_same {cs:Array Value} {off:Nat} {l:List Value} (h:RowAt cs off l):putL cs off l=cs:=by
 apply Array.ext_getElem?
 intro j
 rw[putL_get]
 by_cases hj:off≤j∧j<off+l.length∧j<cs.size
 ·rw[if_pos hj]
  have h1:l[j-off]?=some l[j-off]:=List.getElem?_eq_getElem (by omega)
  have h2:=h _ _ h1
  rw[h1,← h2]
  congr 1
  omega
 ·rw[if_neg hj]
theorem putL_set {cs:Array Value} {off:Nat} {l:List Value} (hf:off+l.length≤cs.size) {j:Nat} (hj:j<l.length) (v:Value):(putL cs off l).setIfInBounds (off+j) v=putL cs off (l.set j v):=by
 apply Array.ext_getElem?
 intro i
 rw[Array.getElem?_setIfInBounds,putL_get,putL_get,putL_size,List.length_set]
 by_cases hi:off+j=i
 ·subst hi
  rw[if_pos rfl,if_pos (show off+j<cs.size by omega),if_pos (by omega)]
  have:off+j-off=j:=by omega
  rw[this]
  simp[hj]
 ·rw[if_neg hi]
  by_cases hc:off≤i∧i<off+l.length∧i<cs.size
  ·rw[if_pos hc,if_pos hc,List.getElem?_set_ne (by omega)]
  ·rw[if_neg hc,if_neg hc]
theorem putL_row {cs:Array Value} {off:Nat} {l:List Value} (hf:off+l.length≤cs.size):RowAt (putL cs off l) off l:=by
 intro j v hv
 have hj:=(List.getElem?_eq_some_iff.1 hv).1
 rw[putL_get,if_pos (by omega),show off+j-off=j by omega]
 exact hv
structure InRow (w:World) (g:Nat) (T:TypeId) (cs:Array Value) (off:Nat) (l:List Value) (wx:World):Prop where
 blk:Blk wx g T (putL cs off l)
 fits:off+l.length≤cs.size
 grown:w.grownBy wx (some g)
theorem InRow.start {w:World} {g:Nat} {T:TypeId} {cs:Array Value} {off:Nat} {l:List Value} (hb:Blk w g T cs) (hr:RowAt cs off l) (hl:0<l.length):InRow w g T cs off l w:=
 ⟨by rw[putL_same hr];exact hb,hr.fits hl,grown_refl _ _⟩
section
variable {w wx:World} {g:Nat} {T:TypeId} {cs:Array Value} {off:Nat} {l:List Value}
theorem InRow.set (h:InRow w g T cs off l wx) {j:Nat} (hj:j<l.length) (v:Value):InRow w g T cs off (l.set j v) (wx.setCell ⟨g,off+j,none⟩ v):=
 ⟨by rw[← putL_set h.fits hj];exact h.blk.set_ _ _,by rw[List.length_set];exact h.fits,grown_set h.grown _ _⟩
theorem InRow.alloc (h:InRow w g T cs off l wx) (o:Obj):InRow w g T cs off l (wx.alloc o):=⟨h.blk.alloc o,h.fits,grown_alloc h.grown o⟩
theorem InRow.drew (h:InRow w g T cs off l wx):InRow w g T cs off l wx.drew:=⟨h.blk,h.fits,grown_drewN h.grown 1⟩
theorem InRow.cell (h:InRow w g T cs off l wx) {j:Nat} {v:Value} (hv:l[j]?=some v):wx.cell? ⟨g,off+j,none⟩=some v:=h.blk.cell' (putL_row h.fits j v hv)
theorem InRow.frozen (h:InRow w g T cs off l wx) (i:Nat):wx.frozen? ⟨g,i,none⟩=false:=h.blk.frozen i
end
theorem own_blk {w:World} {base:Nat} {T:TypeId} {size:Nat} {A:Option Addr} {cp n:Nat} {xs:List Value} (h:w.ownsRow base T size (.slice A n cp) n xs) (hn:0<n) :
  ∃ g cur,A=some ⟨g,0,none⟩∧base≤g∧Blk w g T cur∧cur.toList.take (n * size)=xs∧cur.size=cp * size∧n≤cp∧cp≤maxLen:=by
 rcases h.2 with⟨h1,h2⟩ | ⟨g,cap,cur,hv,hb,hh,h1,h2,h3,h4⟩
 ·omega
 ·injection hv with hv1 hv2 hv3
  subst hv3
  exact⟨g,cur,hv1,hb,hh,h4,h3,h1,h2⟩
theorem own_row {α:Type} {enc:α→List Value} {size:Nat} (hs:∀ x,(enc x).length=size) {l:List α} {cur:Array Value} {k:Nat} {t:α} (hk:l[k]?=some t) (ht:cur.toList.take (l.length * size)=flat enc l):RowAt cur (k * size) (enc t):=by
 intro j v hv
 have h1:=flat_get hs l k t hk j v hv
 rw[← ht] at h1
 have hlt:k * size+j<(cur.toList.take (l.length * size)).length:=(List.getElem?_eq_some_iff.1 h1).1
 rw[List.length_take] at hlt
 rw[List.getElem?_take_of_lt (by omega)] at h1
 simpa using h1
/-! slices.Clone: rows of the callee's own. -/
theorem own_ownL {α:Type} {enc:α→List Value} {sz:Nat} (hs:∀ x,(enc x).length=sz) (hpos:0<sz) (d:α) {w:World} {base:Nat} {T:TypeId} {A:Option Addr} {cp:Nat} {l:List α} (h:w.ownsRow base T sz (.slice A l.length cp) l.length (flat enc l)):∃ b,OwnL base w A sz enc d l b:=by
 by_cases h0:l=[]
 ·subst h0
  exact⟨0,fun h=>absurd rfl h,fun k hk=>absurd hk (by simp)⟩
 ·obtain⟨g,cur,hA,hb,hblk,htk,hsz,hn,hm⟩:=own_blk h (List.length_pos_iff.2 h0)
  refine⟨g,fun _=>⟨hA,hb,_,_,hblk⟩,fun k hk j v hv=>?_⟩
  have hk2:l[k]?=some (l.getD k d):=by rw[List.getD_eq_getElem?_getD,List.getElem?_eq_getElem hk];rfl
  exact hblk.cell' (own_row hs hk2 htk j v hv)
theorem Sat.addOwnRow {C:Ctx} {ρ:Nat→Pl} {fr:AF} {mem:AM} {nx:Nat} {a:Act} {w w':World} (h0:Sat C ρ fr mem nx a w) (hb:Below w.heap.size w w') {α:Type} {enc:α→List Value} {sz:Nat} (hs:∀ x,(enc x).length=sz) (hpl:∀ x,∀ v ∈ enc x,plain1 v) {d:α} {A:Option Addr} {l:List α} {b:Nat} (t:TypeId) (hc:OwnL w.heap.size w' A sz enc d l b) :
  Sat C (setPl ρ nx ⟨A,sz,l.length,false,noSub⟩) fr ((nx,.row (1000000+t) sz l.length (fun k=>enc (l.getD k d)))::mem) (nx+1) a w':=by
 refine (h0.later hb).addOwn (p:=⟨A,sz,l.length,false,noSub⟩) rfl (hc.blk (t:=1000000+t) h0.rest.size hs hpl (setPl_same _ _ _)) ?_
 by_cases hz:l=[]
 ·exact .inl (by rw[hz];rfl)
 ·obtain⟨hA,hle,-⟩:=hc.at_ hz
  refine .inr fun i b hi g hg=>?_
  have:=(h0.blk i b hi).brd_lt hg
  rw[hA]
  simp
  omega
def ctCloneT:CT:=fun vs mem nx K=>∃ r cap l,vs=[slc r (l:List TS).length cap]∧HasRow mem r 12 tsC default l∧l.length≤100∧∀ cap2,K (slc nx l.length cap2) ((nx,tsO l)::mem) (nx+1)
theorem cloneTOk:CSound Tryz.prog 117 ctCloneT:=⟨by kernel_rfl,fun {C ρ fr mem nx a w vs K} hc hs hv=>by
 obtain⟨r,cap,l,rfl,hr,hl,hK⟩:=hc
 refine (cloneTs_any (ρ r).A cap l w hl (hs.hasRd (enc:=tsC) (sz:=12) (fun _=>rfl) (by omega) hr)).mono ?_
 rintro e w' ⟨A,cp,rfl,ho,hb⟩
 obtain⟨b,hL⟩:=own_ownL (enc:=tsC) (fun _=>rfl) (by omega) default ho
 have q2:setPl ρ nx ⟨A,12,l.length,false,noSub⟩ nx=⟨A,12,l.length,false,noSub⟩:=setPl_same _ _ _
 have q3:=hs.addOwnRow (enc:=tsC) (sz:=12) (d:=default) hb (fun _=>rfl) tsC_plain 64 hL
 refine⟨slc nx l.length cp,_,_,setPl ρ nx ⟨A,12,l.length,false,noSub⟩,?_,hK cp,q3,?_,fun i hi=>setPl_lt _ _ hi,by omega⟩
 ·show Ending.returned (.slice A l.length cp)=.returned (.slice (setPl ρ nx ⟨A,12,l.length,false,noSub⟩ nx).A l.length cp)
  rw[q2]
 ·exact⟨show nx<nx+1 by omega,by rw[q2]⟩⟩
def ctCloneC:CT:=fun vs mem nx K=>∃ r cap l,vs=[slc r (l:List CS).length cap]∧HasRow mem r 4 csC default l∧l.length≤100∧∀ cap2,K (slc nx l.length cap2) ((nx,csO l)::mem) (nx+1)
theorem cloneCOk:CSound Tryz.prog 118 ctCloneC:=⟨by kernel_rfl,fun {C ρ fr mem nx a w vs K} hc hs hv=>by
 obtain⟨r,cap,l,rfl,hr,hl,hK⟩:=hc
 refine (cloneCs_any (ρ r).A cap l w hl (hs.hasRd (enc:=csC) (sz:=4) (fun _=>rfl) (by omega) hr)).mono ?_
 rintro e w' ⟨A,cp,rfl,ho,hb⟩
 obtain⟨b,hL⟩:=own_ownL (enc:=csC) (fun _=>rfl) (by omega) default ho
 have q2:setPl ρ nx ⟨A,4,l.length,false,noSub⟩ nx=⟨A,4,l.length,false,noSub⟩:=setPl_same _ _ _
 have q3:=hs.addOwnRow (enc:=csC) (sz:=4) (d:=default) hb (fun _=>rfl) csC_plain 78 hL
 refine⟨slc nx l.length cp,_,_,setPl ρ nx ⟨A,4,l.length,false,noSub⟩,?_,hK cp,q3,?_,fun i hi=>setPl_lt _ _ hi,by omega⟩
 ·show Ending.returned (.slice A l.length cp)=.returned (.slice (setPl ρ nx ⟨A,4,l.length,false,noSub⟩ nx).A l.length cp)
  rw[q2]
 ·exact⟨show nx<nx+1 by omega,by rw[q2]⟩⟩
end Go.Proofs.YtchhdflealgkaaaGreat
