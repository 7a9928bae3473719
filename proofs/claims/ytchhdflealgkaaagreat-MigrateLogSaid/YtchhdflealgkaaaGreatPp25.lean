import Derived.Test.YtchhdflealgkaaaGreatPp24
namespace Go.Proofs.YtchhdflealgkaaaGreat
open Go.RowKit
set_option linter.unusedSimpArgs false
set_option linter.unusedVariables false
set_option maxHeartbeats 1000000 in
theorem ldAdd_any (base:Nat) (A:Option Addr) (cp:Nat) (l:List Int) (i n:Int) (w:World) (hm:l.length≤1000) (hown:w.ownsRow base 3 1 (.slice A l.length cp) l.length (flat intC l))
  (hl:∀ z ∈ l,0≤z∧z≤1000000000) (hn:0≤n) (hn2:n≤1000000) :
  Calls Tryz.prog 168 #[.slice A l.length cp,.int .i64 i,.int .i64 n] w (fun e w'=>AddPost base A cp (addAt l i n) w e w'):=by
 have hlen:=addAt_len l i n
 by_cases hi:0≤i∧i<l.length
 ·obtain⟨h0,h1⟩:=hi
  obtain⟨k,rfl⟩:=Int.eq_ofNat_of_zero_le h0
  have hk:k<l.length:=by omega
  obtain⟨g,cap',hv,_,hlt⟩:=hown.form (by omega)
  simp only[Value.slice.injEq,true_and] at hv
  obtain⟨rfl,rfl⟩:=hv
  have c0:=hown.cellAt k (by omega)
  rw[flat_int,List.getElem?_map,List.getElem?_eq_getElem hk] at c0
  simp only[Option.map_some] at c0
  have f0:=hown.frozenAt k
  have hz:=hl l[k] (List.getElem_mem hk)
  have ha:addAt l k n=l.set k (l[k]+n):=by
   unfold addAt
   rw[if_pos ⟨h0,h1⟩,Int.toNat_natCast,getD_some (List.getElem?_eq_getElem hk)]
  have hst:=hown.stored k (.int .i64 (l[k]+n))
  rw[flat_int_set] at hst
  have hp:AddPost base (some ⟨g,0,none⟩) cp (addAt l k n) w (.returned (.tuple #[])) (w.setCell ⟨g,k,none⟩ (.int .i64 (l[k]+n))):=by
   refine⟨rfl,?_,?_⟩
   ·rw[hlen,ha];exact hst.1
   ·exact hst.2
  have HP:=Lib.hid hp
  clear hp hst ha hown hl hlen
  generalize l[k]=z at *
  go_enter Tryz.func168,Tryz.ntmps168
  go_wp2
  go_end0
  exact HP.out
 ·have ha:addAt l i n=l:=by unfold addAt;rw[if_neg hi]
  have hp:AddPost base A cp (addAt l i n) w (.returned (.tuple #[])) w:=by rw[ha];exact⟨rfl,hown,grown_refl _ _⟩
  have HP:=Lib.hid hp
  have hd:i<0∨(0≤i∧(l.length:Int)≤i):=by omega
  clear hp ha hown hl hlen hi
  rcases hd with hd | ⟨hd1,hd⟩
  all_goals
   go_enter Tryz.func168,Tryz.ntmps168
   go_wp2
   go_end0
   exact HP.out
set_option maxHeartbeats 1000000 in
theorem ldActive_any (t:TS) (w:World):Calls Tryz.prog 167 #[.agg (tsC t).toArray] w fun r w'=>r=.returned (.bool (t.placed&&!t.shed))∧Below w.heap.size w w':=by
 unfold tsC
 go_enter Tryz.func167,Tryz.ntmps167
 go_wp2
 all_goals
  go_ret
  refine⟨ret_bool ?_,(Below.refl _ _).alloc (Nat.le_refl _) _⟩
  go_light
  simp_all
set_option maxHeartbeats 1000000 in
theorem ldCount_any (x:CfgA) (c:Cfg) (y:StA) (s:St) (w:World) (hV:CfgV c) (hI:s.tenants.length=c.tenants.length) :
  Calls Tryz.prog 166 #[.agg (cfgC x c),.agg (stC y s)] w fun r w'=>r=.returned (.int .i64 s.tenants.length)∧Below w.heap.size w w':=by
 have hnt:=hV.nt
 obtain⟨az,cz,ac,cc,at_,ct,av,cv,ar,cr,ao,co⟩:=x
 obtain⟨sat,sct,sac,scc⟩:=y
 have HI:=Lib.hid hI
 unfold cfgC stC
 simp only
 rw[hI]
 clear hI hV
 generalize c.tenants.length=m at *
 go_enter Tryz.func166,Tryz.ntmps166
 go_wp2
 all_goals
  go_ret
  exact⟨rfl,((Below.refl _ _).alloc (Nat.le_refl _) _).alloc (by simp) _⟩
theorem tenSize7:(Tryz.prog.info? 90).map (·.size)=some 7:=by kernel_rfl
theorem tsSize12:(Tryz.prog.info? 64).map (·.size)=some 12:=by kernel_rfl
def BookRel (W:World) (c:Cfg) (s:St) (A:Option Addr) (cp:Nat) (gk:Nat) (si:Value) (wr:World):Prop:=
 ∃ k:Nat,gk+k=s.tenants.length∧si=.int .i64 k∧wr.ownsRow W.heap.size 3 1 (.slice A c.cells.length cp) c.cells.length (flat intC (bookK c s k))∧Below W.heap.size W wr
theorem ldAdd2 (m base:Nat) (A:Option Addr) (cp:Nat) (l:List Int) (i n:Int) (w:World) (hlm:l.length=m) (hm:m≤1000) (hown:w.ownsRow base 3 1 (.slice A m cp) m (flat intC l))
  (hl:∀ z ∈ l,0≤z∧z≤1000000000) (hn:0≤n) (hn2:n≤1000000) :
  Calls Tryz.prog 168 #[.slice A m cp,.int .i64 i,.int .i64 n] w (fun e w'=>e=.returned (.tuple #[])∧w'.ownsRow base 3 1 (.slice A m cp) m (flat intC (addAt l i n))∧w.grownBy w' (Value.slice A m cp).ownBlock):=by
 subst hlm
 refine (ldAdd_any base A cp l i n w hm hown hl hn hn2).mono ?_
 rintro e w' ⟨h1,h2,h3⟩
 rw[addAt_len] at h2 h3
 exact⟨h1,h2,h3⟩
theorem made_zeros (n:Nat):(madeCells #[Value.int IntKind.i64 0] n).toList=flat intC (List.replicate n 0):=by
 rw[flat_int,toList_madeCells_one]
 simp
set_option maxHeartbeats 8000000 in
set_option maxRecDepth 100000 in
theorem ldBooked_any (x:CfgA) (c:Cfg) (y:StA) (s:St) (w:World) (hV:CfgV c) (hc:CfgOk w (·<w.heap.size) x c) (hI:StInv c s) (hs:StOk w (·<w.heap.size) y s) :
  Calls Tryz.prog 121 #[.agg (cfgC x c),.agg (stC y s)] w (IntsPost w (booked c s)):=by
 obtain⟨ii,hii,hi0,hi1,hi2⟩:=info_parts r5intInfo
 have hnc:=hV.nc
 have hntt:=hV.nt
 have hlt0:=hI.lt
 have HLT:=Lib.hid hlt0
 clear hlt0
 obtain⟨az,cz,ac,cc,at_,ct,av,cv,ar,cr,ao,co⟩:=x
 have HV:=Lib.hid hV
 have HKc:=Lib.hid hc
 clear hV hc
 obtain⟨sat,sct,sac,scc⟩:=y
 have HKs:=Lib.hid hs
 have hsl:1≤s.cells.length∧s.cells.length≤16:=by have:=hI.lc;omega
 have hst:s.tenants.length≤32:=by have:=hI.lt;omega
 have HI:=Lib.hid hI
 clear hs hI
 have HC:=Lib.hid (fun W=>ldCount_any ⟨az,cz,ac,cc,at_,ct,av,cv,ar,cr,ao,co⟩ c ⟨sat,sct,sac,scc⟩ s W HV.out HLT.out)
 unfold cfgC stC at HC
 simp only at HC
 have hL:Below w.heap.size w ((w.alloc (.cells #[.int .i64 c.regions,.slice az c.zones.length cz,.slice ac c.cells.length cc,.slice at_ c.tenants.length ct,.slice av c.versions.length cv,.slice ar c.replicas.length cr,.slice ao c.observers.length co,.int .i64 c.blast,.int .i64 c.lease,.int .i64 c.bake] 31)).alloc (.cells #[.int .i64 s.tick,.int .i64 s.count,.slice sat s.tenants.length sct,.slice sac s.cells.length scc,.int .i64 s.proven,.int .i64 s.evac,.int .i64 s.low,.int .i64 s.high] 53)):=(((Below.refl w.heap.size w).alloc (by simp<;>omega) (.cells #[.int .i64 c.regions,.slice az c.zones.length cz,.slice ac c.cells.length cc,.slice at_ c.tenants.length ct,.slice av c.versions.length cv,.slice ar c.replicas.length cr,.slice ao c.observers.length co,.int .i64 c.blast,.int .i64 c.lease,.int .i64 c.bake] 31)).alloc (by simp<;>omega) (.cells #[.int .i64 s.tick,.int .i64 s.count,.slice sat s.tenants.length sct,.slice sac s.cells.length scc,.int .i64 s.proven,.int .i64 s.evac,.int .i64 s.low,.int .i64 s.high] 53))
 have hBc:Blk ((w.alloc (.cells #[.int .i64 c.regions,.slice az c.zones.length cz,.slice ac c.cells.length cc,.slice at_ c.tenants.length ct,.slice av c.versions.length cv,.slice ar c.replicas.length cr,.slice ao c.observers.length co,.int .i64 c.blast,.int .i64 c.lease,.int .i64 c.bake] 31)).alloc (.cells #[.int .i64 s.tick,.int .i64 s.count,.slice sat s.tenants.length sct,.slice sac s.cells.length scc,.int .i64 s.proven,.int .i64 s.evac,.int .i64 s.low,.int .i64 s.high] 53)) (w.heap.size) 31 #[.int .i64 c.regions,.slice az c.zones.length cz,.slice ac c.cells.length cc,.slice at_ c.tenants.length ct,.slice av c.versions.length cv,.slice ar c.replicas.length cr,.slice ao c.observers.length co,.int .i64 c.blast,.int .i64 c.lease,.int .i64 c.bake]:=by
  have:=((Blk.new w 31 #[.int .i64 c.regions,.slice az c.zones.length cz,.slice ac c.cells.length cc,.slice at_ c.tenants.length ct,.slice av c.versions.length cv,.slice ar c.replicas.length cr,.slice ao c.observers.length co,.int .i64 c.blast,.int .i64 c.lease,.int .i64 c.bake]).alloc (.cells #[.int .i64 s.tick,.int .i64 s.count,.slice sat s.tenants.length sct,.slice sac s.cells.length scc,.int .i64 s.proven,.int .i64 s.evac,.int .i64 s.low,.int .i64 s.high] 53))
  simpa using this
 have hBs:Blk ((w.alloc (.cells #[.int .i64 c.regions,.slice az c.zones.length cz,.slice ac c.cells.length cc,.slice at_ c.tenants.length ct,.slice av c.versions.length cv,.slice ar c.replicas.length cr,.slice ao c.observers.length co,.int .i64 c.blast,.int .i64 c.lease,.int .i64 c.bake] 31)).alloc (.cells #[.int .i64 s.tick,.int .i64 s.count,.slice sat s.tenants.length sct,.slice sac s.cells.length scc,.int .i64 s.proven,.int .i64 s.evac,.int .i64 s.low,.int .i64 s.high] 53)) (w.heap.size+1) 53 #[.int .i64 s.tick,.int .i64 s.count,.slice sat s.tenants.length sct,.slice sac s.cells.length scc,.int .i64 s.proven,.int .i64 s.evac,.int .i64 s.low,.int .i64 s.high]:=by
  have:=(Blk.new (w.alloc (.cells #[.int .i64 c.regions,.slice az c.zones.length cz,.slice ac c.cells.length cc,.slice at_ c.tenants.length ct,.slice av c.versions.length cv,.slice ar c.replicas.length cr,.slice ao c.observers.length co,.int .i64 c.blast,.int .i64 c.lease,.int .i64 c.bake] 31)) 53 #[.int .i64 s.tick,.int .i64 s.count,.slice sat s.tenants.length sct,.slice sac s.cells.length scc,.int .i64 s.proven,.int .i64 s.evac,.int .i64 s.low,.int .i64 s.high])
  simpa using this
 unfold cfgC stC
 simp only
 go_enter Tryz.func121,Tryz.ntmps121
 go_upto_region 1 with fail
 generalize (w.alloc _).alloc _=W at *
 have hgc:=hBc.lt
 have d0:=hBc.cell' (i:=0) (v:=.int .i64 c.regions) rfl
 have d1:=hBc.cell' (i:=1) (v:=.slice az c.zones.length cz) rfl
 have d2:=hBc.cell' (i:=2) (v:=.slice ac c.cells.length cc) rfl
 have d3:=hBc.cell' (i:=3) (v:=.slice at_ c.tenants.length ct) rfl
 have d4:=hBc.cell' (i:=4) (v:=.slice av c.versions.length cv) rfl
 have d5:=hBc.cell' (i:=5) (v:=.slice ar c.replicas.length cr) rfl
 have d6:=hBc.cell' (i:=6) (v:=.slice ao c.observers.length co) rfl
 have d7:=hBc.cell' (i:=7) (v:=.int .i64 c.blast) rfl
 have d8:=hBc.cell' (i:=8) (v:=.int .i64 c.lease) rfl
 have d9:=hBc.cell' (i:=9) (v:=.int .i64 c.bake) rfl
 clear hBc
 have hgs:=hBs.lt
 have su0:=hBs.cell' (i:=0) (v:=.int .i64 s.tick) rfl
 have su1:=hBs.cell' (i:=1) (v:=.int .i64 s.count) rfl
 have su2:=hBs.cell' (i:=2) (v:=.slice sat s.tenants.length sct) rfl
 have su3:=hBs.cell' (i:=3) (v:=.slice sac s.cells.length scc) rfl
 have su4:=hBs.cell' (i:=4) (v:=.int .i64 s.proven) rfl
 have su5:=hBs.cell' (i:=5) (v:=.int .i64 s.evac) rfl
 have su6:=hBs.cell' (i:=6) (v:=.int .i64 s.low) rfl
 have su7:=hBs.cell' (i:=7) (v:=.int .i64 s.high) rfl
 clear hBs
 have HL:=Lib.hid hL
 have HWc:=Lib.hid (HKc.out.belowW hL)
 have HWs:=Lib.hid (HKs.out.belowW hL)
 clear hL
 go_wp2_with (at_make;refine wpList_make_full W rfl _ _ _ rfl W.heap.size 3 ii _ 1 Tryz.underlying22 hii hi0 hi1 .i64 .i64 _ _ c.cells.length rfl rfl rfl rfl ?b1 ?b2 ?b3 ?_)
 case b1=>rw[hi2];omega
 case b2=>unfold maxLen;omega
 case b3=>exact Nat.le_refl _
 intro w1 hO1 hg1
 rw[made_zeros] at hO1
 have hB1:Below W.heap.size W w1:=(Below.refl _ _).grown hg1 (Nat.le_refl _) (by rintro _ ⟨⟩)
 have hlt1:=(hO1.lt W.heap.size rfl).2
 obtain⟨hc1,hf1⟩:=bcell hB1
 have HO1:=Lib.hid hO1
 have HB1:=Lib.hid hB1
 clear hO1 hg1 hB1 hf1
 go_wp2_with fail
 refine (HC.out _).mono ?_
 rintro r w2 ⟨rfl,hb2⟩
 have HO2:=Lib.hid (own_below HO1.out hb2 fun j hj=>(HO1.out.lt j hj).2)
 have HB2:=Lib.hid (HB1.out.trans (hb2.mono HB1.out.size))
 clear hb2 HO1 HB1 hc1 hlt1 HC
 go_wp2
 have hgr:∃ gr,gr=W.heap.size:=⟨_,rfl⟩
 obtain⟨gr,hgr⟩:=hgr
 go_loopg [16] s.tenants.length (fun gk si wr=>BookRel W c s (some ⟨W.heap.size,0,none⟩) c.cells.length gk si wr)
 case atStart=>exact⟨0,by omega,rfl,HO2.out,HB2.out⟩
 case round=>
  rename_i J K aJ aK
  obtain⟨k,hgk,rfl,hown,hbel⟩:=hrel
  have HO:=Lib.hid hown
  have HB:=Lib.hid hbel
  have hsz:=hbel.size
  have hszlt:W.heap.size<wr.heap.size:=(hown.lt W.heap.size rfl).2
  obtain⟨hcW,hfW⟩:=bcell hbel
  clear hown hbel hfW HO2 HB2
  by_cases hk:k<s.tenants.length
  ·have hlt:(k:Int)<(s.tenants.length:Int):=by omega
   have hk2:k<c.tenants.length:=by have:=HLT.out;omega
   have hlt2:(k:Int)<(c.tenants.length:Int):=by omega
   obtain⟨bt,oft,t,rfl,hbt,hzt,hct⟩:=HWs.out.tenants.row (enc:=tsC) (sz:=12) (fun _=>rfl) (by omega) hk
   obtain⟨bd,ofd,de,rfl,hbd,hzd,hcd⟩:=HWc.out.tenants.row (enc:=tenC) (sz:=7) (fun _=>rfl) (by omega) hk2
   have hbtW:bt<W.heap.size:=hbt
   have hbdW:bd<W.heap.size:=hbd
   have hbt2:bt<wr.heap.size:=Nat.lt_of_lt_of_le hbt hsz
   have hbd2:bd<wr.heap.size:=Nat.lt_of_lt_of_le hbd hsz
   have hgc2:w.heap.size<wr.heap.size:=Nat.lt_of_lt_of_le hgc hsz
   have hgs2:w.heap.size+1<wr.heap.size:=Nat.lt_of_lt_of_le hgs hsz
   have t0:=hct 0 (.bool t.placed) rfl
   have t1:=hct 1 (.bool t.shed) rfl
   have t2:=hct 2 (.int .i64 t.home) rfl
   have t3:=hct 3 (.int .i64 t.standby) rfl
   have t4:=hct 4 (.int .i64 t.next) rfl
   have t5:=hct 5 (.int .i64 t.target) rfl
   have t6:=hct 6 (.int .i64 t.epoch) rfl
   have t7:=hct 7 (.int .i64 t.win.cell) rfl
   have t8:=hct 8 (.int .i64 t.win.epoch) rfl
   have t9:=hct 9 (.int .i64 t.win.version) rfl
   have t10:=hct 10 (.int .i64 t.win.since) rfl
   have t11:=hct 11 (.int .i64 t.win.till) rfl
   have y0:=hcd 0 (.int .i64 de.load) rfl
   have y1:=hcd 1 (.int .i64 de.shadow) rfl
   have y2:=hcd 2 (.int .i64 de.prio) rfl
   have y3:=hcd 3 (.int .i64 de.lag) rfl
   have y4:=hcd 4 (.int .i64 de.allowed) rfl
   have y5:=hcd 5 (.int .i64 de.group) rfl
   have y6:=hcd 6 (.bool de.noisy) rfl
   simp only[Nat.add_zero] at t0 y0
   have hdb:=tenAt_bd HV.out hzd
   have HS:=Lib.hid (bookK_succ hzt hzd)
   have HWI:=Lib.hid (bookK_within HV.out s k)
   clear hct hcd hzt hzd hbt hbd
   go_upto_region 5 with fail
   go_cut [7,8,16] from 16 to 58 (fun v7 v8 v16 wx=>v16=.int .i64 k∧∃ ga gb,v7=.pointer (some ⟨ga,0,none⟩)∧v8=.pointer (some ⟨gb,0,none⟩)∧TwoC wr 90 64 #[.int .i64 de.load,.int .i64 de.shadow,.int .i64 de.prio,.int .i64 de.lag,.int .i64 de.allowed,.int .i64 de.group,.bool de.noisy] #[.bool t.placed,.bool t.shed,.int .i64 t.home,.int .i64 t.standby,.int .i64 t.next,.int .i64 t.target,.int .i64 t.epoch,.int .i64 t.win.cell,.int .i64 t.win.epoch,.int .i64 t.win.version,.int .i64 t.win.since,.int .i64 t.win.till] ga gb wx∧wr.heap.size≤ga∧wr.heap.size≤gb)
   case first=>
    refine wp_region_seqI (fun w':World=>Below wr.heap.size wr w') 13 [0,1,2,3,4,5,6,7,8,9] [10,11,12] (fun i=>if i=12 then [10,11] else []) (by kernel_rfl) (by kernel_rfl) (Below.refl _ _).drew ?_
    simp only[List.take_succ_cons,List.take_zero,List.drop_succ_cons,List.drop_zero]
    repeat (refine wpSeqI_fix _ ?_ rfl (by first | exact fun _ _ _ h=>h | exact fun _ _ _ h=>hpan _ _ _ _ _ h) (Or.inl ⟨by rfl,?_⟩) ?_;rotate_left;(intro w' hSw;(try dsimp only at hSw);obtain⟨hc,hf⟩:=bcell hSw;clear hf hSw;go_simp;(try with_reducible rfl));(simp only[List.getElem_toArray,List.getElem_cons_zero,List.getElem_cons_succ,Act.put,List.setIfInBounds_toArray,List.set_cons_zero,List.set_cons_succ]))
    refine wpSeqI_acts (fun a0 d a wx=>∃ va vb ga gb,a=((a0.put (some 7) va).put (some 8) vb)∧TwoJ wr 90 64 #[.int .i64 0,.int .i64 0,.int .i64 0,.int .i64 0,.int .i64 0,.int .i64 0,.bool false] #[.int .i64 de.load,.int .i64 de.shadow,.int .i64 de.prio,.int .i64 de.lag,.int .i64 de.allowed,.int .i64 de.group,.bool de.noisy] #[.bool false,.bool false,.int .i64 0,.int .i64 0,.int .i64 0,.int .i64 0,.int .i64 0,.int .i64 0,.int .i64 0,.int .i64 0,.int .i64 0,.int .i64 0] 10 11 12 d va vb ga gb wx) ?j1 ?j2 ?j3
    case j1=>
     intro d hd
     refine⟨_,_,0,0,rfl,TwoJ.start (Below.refl _ _).drew (hd 10 (by simp)) (hd 11 (by simp)) (hd 12 (by simp))⟩
    case j2=>
     refine acts_cons (actStep_op rfl rfl ?s10) (acts_cons (actStep_op rfl rfl ?s11) (acts_cons (actStep_op rfl rfl ?s12) acts_nil))
     case s10=>
      rintro d a wx h0 hp hS ⟨va,vb,ga,gb,rfl,hJ⟩
      have HJ:=Lib.hid (hJ.allocA h0 (by decide) (by decide))
      clear hJ hS hp h0
      simp only[List.getElem_toArray,List.getElem_cons_zero,List.getElem_cons_succ,Act.put,List.setIfInBounds_toArray,List.set_cons_zero,List.set_cons_succ]
      go_simp
      exact⟨HJ.out.below,_,_,⟨rfl,rfl⟩,_,gb,HJ.out⟩
     case s11=>
      rintro d a wx h0 hp hS ⟨va,vb,ga,gb,rfl,hJ⟩
      have HJ:=Lib.hid (hJ.allocB (by decide) (by decide))
      clear hJ hS hp h0
      simp only[List.getElem_toArray,List.getElem_cons_zero,List.getElem_cons_succ,Act.put,List.setIfInBounds_toArray,List.set_cons_zero,List.set_cons_succ]
      go_simp
      exact⟨HJ.out.below,_,_,⟨rfl,rfl⟩,ga,_,HJ.out⟩
     case s12=>
      rintro d a wx h0 hp hS ⟨va,vb,ga,gb,rfl,hJ⟩
      have HJ:=Lib.hid (hJ.storeA (hp 10 (by simp)) (hp 11 (by simp)) (by decide) (by decide) (putL_full rfl) (putL_full rfl))
      obtain⟨rfl,hk,hle⟩:=hJ.a (hp 10 (by simp))
      clear hJ hS hp h0
      simp only[List.getElem_toArray,List.getElem_cons_zero,List.getElem_cons_succ,Act.put,List.setIfInBounds_toArray,List.set_cons_zero,List.set_cons_succ]
      refine wp_store_mid _ _ _ (by rfl) ga 0 #[.int .i64 de.load,.int .i64 de.shadow,.int .i64 de.prio,.int .i64 de.lag,.int .i64 de.allowed,.int .i64 de.group,.bool de.noisy] (by go_simp) (by go_simp) (hk.there 0 7 (by split<;>simp)) tenSize7 (by simp[Value.oneCell']) ?_
      refine⟨HJ.out.below,?_⟩
      go_simp
      exact⟨_,_,⟨rfl,rfl⟩,ga,gb,HJ.out⟩
    case j3=>
     rintro d a wx hp hS ⟨va,vb,ga,gb,rfl,hJ⟩
     obtain⟨rfl,hka,hla⟩:=hJ.a (hp 10 (by simp))
     obtain⟨rfl,hkb,hlb⟩:=hJ.b (hp 11 (by simp))
     have HJ:=Lib.hid (hJ.done1 (FB:=#[.bool t.placed,.bool t.shed,.int .i64 t.home,.int .i64 t.standby,.int .i64 t.next,.int .i64 t.target,.int .i64 t.epoch,.int .i64 t.win.cell,.int .i64 t.win.epoch,.int .i64 t.win.version,.int .i64 t.win.since,.int .i64 t.win.till]) (hp 10 (by simp)) (hp 11 (by simp)) (hp 12 (by simp)) (putL_full rfl))
     clear hJ hS hp
     simp only[List.getElem_toArray,List.getElem_cons_zero,List.getElem_cons_succ,Act.put,List.setIfInBounds_toArray,List.set_cons_zero,List.set_cons_succ,thenK]
     refine wpList_store_mid (by rfl) _ _ _ (by rfl) gb 0 #[.bool t.placed,.bool t.shed,.int .i64 t.home,.int .i64 t.standby,.int .i64 t.next,.int .i64 t.target,.int .i64 t.epoch,.int .i64 t.win.cell,.int .i64 t.win.epoch,.int .i64 t.win.version,.int .i64 t.win.since,.int .i64 t.win.till] (by go_simp) (by go_simp) (hkb.there 0 12 (by simp)) tsSize12 (by simp[Value.oneCell']) ?_
     go_wp2
     go_meet
     exact⟨rfl,ga,gb,rfl,rfl,HJ.out,hla,hlb⟩
   case rest=>
    obtain⟨rfl,ga,gb,rfl,rfl,hC,hC2⟩:=hcut
    have hA:=hC.a
    have hBk:=hC.b
    replace HO:=Lib.hid (own_below HO.out hC.below fun j hj=>(HO.out.lt j hj).2)
    replace HB:=Lib.hid (HB.out.trans (hC.below.mono hsz))
    have hga:W.heap.size<ga:=Nat.lt_of_lt_of_le hszlt hC2.1
    have hgb:W.heap.size<gb:=Nat.lt_of_lt_of_le hszlt hC2.2
    clear t0 t1 t2 t3 t4 t5 t6 t7 t8 t9 t10 t11 y0 y1 y2 y3 y4 y5 y6 hcW hC hbt2 hbd2 hgc2 hgs2 hbtW hbdW hsz
    have p0:=hA.cell' (i:=0) (v:=.int .i64 de.load) rfl
    have p1:=hA.cell' (i:=1) (v:=.int .i64 de.shadow) rfl
    have q0:=hBk.cell' (i:=0) (v:=.bool t.placed) rfl
    have q1:=hBk.cell' (i:=1) (v:=.bool t.shed) rfl
    have q2:=hBk.cell' (i:=2) (v:=.int .i64 t.home) rfl
    have q3:=hBk.cell' (i:=3) (v:=.int .i64 t.standby) rfl
    have q4:=hBk.cell' (i:=4) (v:=.int .i64 t.next) rfl
    have q5:=hBk.cell' (i:=5) (v:=.int .i64 t.target) rfl
    have q6:=hBk.cell' (i:=6) (v:=.int .i64 t.epoch) rfl
    have q7:=hBk.cell' (i:=7) (v:=.int .i64 t.win.cell) rfl
    have q8:=hBk.cell' (i:=8) (v:=.int .i64 t.win.epoch) rfl
    have q9:=hBk.cell' (i:=9) (v:=.int .i64 t.win.version) rfl
    have q10:=hBk.cell' (i:=10) (v:=.int .i64 t.win.since) rfl
    have q11:=hBk.cell' (i:=11) (v:=.int .i64 t.win.till) rfl
    have hw0:=HWI.out
    cases hpl:t.placed
    ·have HE:Hid (bookK c s (k+1)=bookK c s k):=Lib.hid (by rw[HS.out];unfold bookT;rw[if_pos hpl])
     rw[hpl] at q0
     go_wp2
     go_roundg (gk-1)
     case measure=>omega
     case rel=>exact⟨k+1,by omega,by go_num,by rw[HE.out];exact HO.out,HB.out⟩
    ·have HAC:=Lib.hid (fun W=>ldActive_any t W)
     unfold tsC at HAC
     rw[hpl] at HAC
     go_wp2_with fail
     refine (HAC.out _).mono ?_
     rintro r wn ⟨rfl,hbn⟩
     clear HAC
     replace HO:=Lib.hid (own_below HO.out hbn fun j hj=>(HO.out.lt j hj).2)
     replace HB:=Lib.hid (HB.out.trans (hbn.mono HB.out.size))
     replace hA:=hA.below hbn hA.lt
     replace hBk:=hBk.below hbn hBk.lt
     clear hbn
     replace p0:=hA.cell' (i:=0) (v:=.int .i64 de.load) rfl
     replace p1:=hA.cell' (i:=1) (v:=.int .i64 de.shadow) rfl
     replace q0:=hBk.cell' (i:=0) (v:=.bool t.placed) rfl
     replace q1:=hBk.cell' (i:=1) (v:=.bool t.shed) rfl
     replace q2:=hBk.cell' (i:=2) (v:=.int .i64 t.home) rfl
     replace q3:=hBk.cell' (i:=3) (v:=.int .i64 t.standby) rfl
     replace q4:=hBk.cell' (i:=4) (v:=.int .i64 t.next) rfl
     replace q5:=hBk.cell' (i:=5) (v:=.int .i64 t.target) rfl
     replace q6:=hBk.cell' (i:=6) (v:=.int .i64 t.epoch) rfl
     replace q7:=hBk.cell' (i:=7) (v:=.int .i64 t.win.cell) rfl
     replace q8:=hBk.cell' (i:=8) (v:=.int .i64 t.win.epoch) rfl
     replace q9:=hBk.cell' (i:=9) (v:=.int .i64 t.win.version) rfl
     replace q10:=hBk.cell' (i:=10) (v:=.int .i64 t.win.since) rfl
     replace q11:=hBk.cell' (i:=11) (v:=.int .i64 t.win.till) rfl
     cases hsh:t.shed
     ·have HE:Hid (bookK c s (k+1)=addAt (addAt (addAt (addAt (bookK c s k) t.home de.load) t.target de.load) t.standby de.shadow) t.next de.shadow):=Lib.hid (by rw[HS.out];unfold bookT;rw[if_neg (by simp[hpl]),if_neg (by simp[hsh])])
      have hw1:=hw0.add (n:=de.load) (by omega) t.home
      have hw2:=hw1.add (n:=de.load) (by omega) t.target
      have hw3:=hw2.add (n:=de.shadow) (by omega) t.standby
      go_wp2_with fail
      refine (ldAdd2 c.cells.length W.heap.size (some ⟨W.heap.size,0,none⟩) c.cells.length (bookK c s k) t.home de.load _ (by (try simp only[addAt_len]);exact bookK_len _ _ _) (by omega) HO.out (by intro z hz;have:=hw0 z hz;omega) (by omega) (by omega)).mono ?_
      rintro r wn ⟨rfl,hOn,hgn⟩
      replace HB:=Lib.hid (HB.out.grown hgn HB.out.size (by rintro _ ⟨⟩;exact Nat.le_refl _))
      replace HO:=Lib.hid hOn
      replace hA:=hA.grown hgn (by intro q;have q2:ga=W.heap.size:=Option.some.inj q;omega)
      replace hBk:=hBk.grown hgn (by intro q;have q2:gb=W.heap.size:=Option.some.inj q;omega)
      clear hOn hgn
      replace p0:=hA.cell' (i:=0) (v:=.int .i64 de.load) rfl
      replace p1:=hA.cell' (i:=1) (v:=.int .i64 de.shadow) rfl
      replace q0:=hBk.cell' (i:=0) (v:=.bool t.placed) rfl
      replace q1:=hBk.cell' (i:=1) (v:=.bool t.shed) rfl
      replace q2:=hBk.cell' (i:=2) (v:=.int .i64 t.home) rfl
      replace q3:=hBk.cell' (i:=3) (v:=.int .i64 t.standby) rfl
      replace q4:=hBk.cell' (i:=4) (v:=.int .i64 t.next) rfl
      replace q5:=hBk.cell' (i:=5) (v:=.int .i64 t.target) rfl
      replace q6:=hBk.cell' (i:=6) (v:=.int .i64 t.epoch) rfl
      replace q7:=hBk.cell' (i:=7) (v:=.int .i64 t.win.cell) rfl
      replace q8:=hBk.cell' (i:=8) (v:=.int .i64 t.win.epoch) rfl
      replace q9:=hBk.cell' (i:=9) (v:=.int .i64 t.win.version) rfl
      replace q10:=hBk.cell' (i:=10) (v:=.int .i64 t.win.since) rfl
      replace q11:=hBk.cell' (i:=11) (v:=.int .i64 t.win.till) rfl
      go_wp2_with fail
      refine (ldAdd2 c.cells.length W.heap.size (some ⟨W.heap.size,0,none⟩) c.cells.length (addAt (bookK c s k) t.home de.load) t.target de.load _ (by (try simp only[addAt_len]);exact bookK_len _ _ _) (by omega) HO.out (by intro z hz;have:=hw1 z hz;omega) (by omega) (by omega)).mono ?_
      rintro r wn ⟨rfl,hOn,hgn⟩
      replace HB:=Lib.hid (HB.out.grown hgn HB.out.size (by rintro _ ⟨⟩;exact Nat.le_refl _))
      replace HO:=Lib.hid hOn
      replace hA:=hA.grown hgn (by intro q;have q2:ga=W.heap.size:=Option.some.inj q;omega)
      replace hBk:=hBk.grown hgn (by intro q;have q2:gb=W.heap.size:=Option.some.inj q;omega)
      clear hOn hgn
      replace p0:=hA.cell' (i:=0) (v:=.int .i64 de.load) rfl
      replace p1:=hA.cell' (i:=1) (v:=.int .i64 de.shadow) rfl
      replace q0:=hBk.cell' (i:=0) (v:=.bool t.placed) rfl
      replace q1:=hBk.cell' (i:=1) (v:=.bool t.shed) rfl
      replace q2:=hBk.cell' (i:=2) (v:=.int .i64 t.home) rfl
      replace q3:=hBk.cell' (i:=3) (v:=.int .i64 t.standby) rfl
      replace q4:=hBk.cell' (i:=4) (v:=.int .i64 t.next) rfl
      replace q5:=hBk.cell' (i:=5) (v:=.int .i64 t.target) rfl
      replace q6:=hBk.cell' (i:=6) (v:=.int .i64 t.epoch) rfl
      replace q7:=hBk.cell' (i:=7) (v:=.int .i64 t.win.cell) rfl
      replace q8:=hBk.cell' (i:=8) (v:=.int .i64 t.win.epoch) rfl
      replace q9:=hBk.cell' (i:=9) (v:=.int .i64 t.win.version) rfl
      replace q10:=hBk.cell' (i:=10) (v:=.int .i64 t.win.since) rfl
      replace q11:=hBk.cell' (i:=11) (v:=.int .i64 t.win.till) rfl
      go_wp2_with fail
      refine (ldAdd2 c.cells.length W.heap.size (some ⟨W.heap.size,0,none⟩) c.cells.length (addAt (addAt (bookK c s k) t.home de.load) t.target de.load) t.standby de.shadow _ (by (try simp only[addAt_len]);exact bookK_len _ _ _) (by omega) HO.out (by intro z hz;have:=hw2 z hz;omega) (by omega) (by omega)).mono ?_
      rintro r wn ⟨rfl,hOn,hgn⟩
      replace HB:=Lib.hid (HB.out.grown hgn HB.out.size (by rintro _ ⟨⟩;exact Nat.le_refl _))
      replace HO:=Lib.hid hOn
      replace hA:=hA.grown hgn (by intro q;have q2:ga=W.heap.size:=Option.some.inj q;omega)
      replace hBk:=hBk.grown hgn (by intro q;have q2:gb=W.heap.size:=Option.some.inj q;omega)
      clear hOn hgn
      replace p0:=hA.cell' (i:=0) (v:=.int .i64 de.load) rfl
      replace p1:=hA.cell' (i:=1) (v:=.int .i64 de.shadow) rfl
      replace q0:=hBk.cell' (i:=0) (v:=.bool t.placed) rfl
      replace q1:=hBk.cell' (i:=1) (v:=.bool t.shed) rfl
      replace q2:=hBk.cell' (i:=2) (v:=.int .i64 t.home) rfl
      replace q3:=hBk.cell' (i:=3) (v:=.int .i64 t.standby) rfl
      replace q4:=hBk.cell' (i:=4) (v:=.int .i64 t.next) rfl
      replace q5:=hBk.cell' (i:=5) (v:=.int .i64 t.target) rfl
      replace q6:=hBk.cell' (i:=6) (v:=.int .i64 t.epoch) rfl
      replace q7:=hBk.cell' (i:=7) (v:=.int .i64 t.win.cell) rfl
      replace q8:=hBk.cell' (i:=8) (v:=.int .i64 t.win.epoch) rfl
      replace q9:=hBk.cell' (i:=9) (v:=.int .i64 t.win.version) rfl
      replace q10:=hBk.cell' (i:=10) (v:=.int .i64 t.win.since) rfl
      replace q11:=hBk.cell' (i:=11) (v:=.int .i64 t.win.till) rfl
      go_wp2_with fail
      refine (ldAdd2 c.cells.length W.heap.size (some ⟨W.heap.size,0,none⟩) c.cells.length (addAt (addAt (addAt (bookK c s k) t.home de.load) t.target de.load) t.standby de.shadow) t.next de.shadow _ (by (try simp only[addAt_len]);exact bookK_len _ _ _) (by omega) HO.out (by intro z hz;have:=hw3 z hz;omega) (by omega) (by omega)).mono ?_
      rintro r wn ⟨rfl,hOn,hgn⟩
      replace HB:=Lib.hid (HB.out.grown hgn HB.out.size (by rintro _ ⟨⟩;exact Nat.le_refl _))
      replace HO:=Lib.hid hOn
      replace hA:=hA.grown hgn (by intro q;have q2:ga=W.heap.size:=Option.some.inj q;omega)
      replace hBk:=hBk.grown hgn (by intro q;have q2:gb=W.heap.size:=Option.some.inj q;omega)
      clear hOn hgn
      replace p0:=hA.cell' (i:=0) (v:=.int .i64 de.load) rfl
      replace p1:=hA.cell' (i:=1) (v:=.int .i64 de.shadow) rfl
      replace q0:=hBk.cell' (i:=0) (v:=.bool t.placed) rfl
      replace q1:=hBk.cell' (i:=1) (v:=.bool t.shed) rfl
      replace q2:=hBk.cell' (i:=2) (v:=.int .i64 t.home) rfl
      replace q3:=hBk.cell' (i:=3) (v:=.int .i64 t.standby) rfl
      replace q4:=hBk.cell' (i:=4) (v:=.int .i64 t.next) rfl
      replace q5:=hBk.cell' (i:=5) (v:=.int .i64 t.target) rfl
      replace q6:=hBk.cell' (i:=6) (v:=.int .i64 t.epoch) rfl
      replace q7:=hBk.cell' (i:=7) (v:=.int .i64 t.win.cell) rfl
      replace q8:=hBk.cell' (i:=8) (v:=.int .i64 t.win.epoch) rfl
      replace q9:=hBk.cell' (i:=9) (v:=.int .i64 t.win.version) rfl
      replace q10:=hBk.cell' (i:=10) (v:=.int .i64 t.win.since) rfl
      replace q11:=hBk.cell' (i:=11) (v:=.int .i64 t.win.till) rfl
      go_wp2
      go_roundg (gk-1)
      case measure=>omega
      case rel=>exact⟨k+1,by omega,by go_num,by rw[HE.out];exact HO.out,HB.out⟩
     ·have HE:Hid (bookK c s (k+1)=addAt (addAt (bookK c s k) t.standby de.shadow) t.next de.shadow):=Lib.hid (by rw[HS.out];unfold bookT;rw[if_neg (by simp[hpl]),if_pos hsh])
      have hw1:=hw0.add (n:=de.shadow) (by omega) t.standby
      go_wp2_with fail
      refine (ldAdd2 c.cells.length W.heap.size (some ⟨W.heap.size,0,none⟩) c.cells.length (bookK c s k) t.standby de.shadow _ (by (try simp only[addAt_len]);exact bookK_len _ _ _) (by omega) HO.out (by intro z hz;have:=hw0 z hz;omega) (by omega) (by omega)).mono ?_
      rintro r wn ⟨rfl,hOn,hgn⟩
      replace HB:=Lib.hid (HB.out.grown hgn HB.out.size (by rintro _ ⟨⟩;exact Nat.le_refl _))
      replace HO:=Lib.hid hOn
      replace hA:=hA.grown hgn (by intro q;have q2:ga=W.heap.size:=Option.some.inj q;omega)
      replace hBk:=hBk.grown hgn (by intro q;have q2:gb=W.heap.size:=Option.some.inj q;omega)
      clear hOn hgn
      replace p0:=hA.cell' (i:=0) (v:=.int .i64 de.load) rfl
      replace p1:=hA.cell' (i:=1) (v:=.int .i64 de.shadow) rfl
      replace q0:=hBk.cell' (i:=0) (v:=.bool t.placed) rfl
      replace q1:=hBk.cell' (i:=1) (v:=.bool t.shed) rfl
      replace q2:=hBk.cell' (i:=2) (v:=.int .i64 t.home) rfl
      replace q3:=hBk.cell' (i:=3) (v:=.int .i64 t.standby) rfl
      replace q4:=hBk.cell' (i:=4) (v:=.int .i64 t.next) rfl
      replace q5:=hBk.cell' (i:=5) (v:=.int .i64 t.target) rfl
      replace q6:=hBk.cell' (i:=6) (v:=.int .i64 t.epoch) rfl
      replace q7:=hBk.cell' (i:=7) (v:=.int .i64 t.win.cell) rfl
      replace q8:=hBk.cell' (i:=8) (v:=.int .i64 t.win.epoch) rfl
      replace q9:=hBk.cell' (i:=9) (v:=.int .i64 t.win.version) rfl
      replace q10:=hBk.cell' (i:=10) (v:=.int .i64 t.win.since) rfl
      replace q11:=hBk.cell' (i:=11) (v:=.int .i64 t.win.till) rfl
      go_wp2_with fail
      refine (ldAdd2 c.cells.length W.heap.size (some ⟨W.heap.size,0,none⟩) c.cells.length (addAt (bookK c s k) t.standby de.shadow) t.next de.shadow _ (by (try simp only[addAt_len]);exact bookK_len _ _ _) (by omega) HO.out (by intro z hz;have:=hw1 z hz;omega) (by omega) (by omega)).mono ?_
      rintro r wn ⟨rfl,hOn,hgn⟩
      replace HB:=Lib.hid (HB.out.grown hgn HB.out.size (by rintro _ ⟨⟩;exact Nat.le_refl _))
      replace HO:=Lib.hid hOn
      replace hA:=hA.grown hgn (by intro q;have q2:ga=W.heap.size:=Option.some.inj q;omega)
      replace hBk:=hBk.grown hgn (by intro q;have q2:gb=W.heap.size:=Option.some.inj q;omega)
      clear hOn hgn
      replace p0:=hA.cell' (i:=0) (v:=.int .i64 de.load) rfl
      replace p1:=hA.cell' (i:=1) (v:=.int .i64 de.shadow) rfl
      replace q0:=hBk.cell' (i:=0) (v:=.bool t.placed) rfl
      replace q1:=hBk.cell' (i:=1) (v:=.bool t.shed) rfl
      replace q2:=hBk.cell' (i:=2) (v:=.int .i64 t.home) rfl
      replace q3:=hBk.cell' (i:=3) (v:=.int .i64 t.standby) rfl
      replace q4:=hBk.cell' (i:=4) (v:=.int .i64 t.next) rfl
      replace q5:=hBk.cell' (i:=5) (v:=.int .i64 t.target) rfl
      replace q6:=hBk.cell' (i:=6) (v:=.int .i64 t.epoch) rfl
      replace q7:=hBk.cell' (i:=7) (v:=.int .i64 t.win.cell) rfl
      replace q8:=hBk.cell' (i:=8) (v:=.int .i64 t.win.epoch) rfl
      replace q9:=hBk.cell' (i:=9) (v:=.int .i64 t.win.version) rfl
      replace q10:=hBk.cell' (i:=10) (v:=.int .i64 t.win.since) rfl
      replace q11:=hBk.cell' (i:=11) (v:=.int .i64 t.win.till) rfl
      go_wp2
      go_roundg (gk-1)
      case measure=>omega
      case rel=>exact⟨k+1,by omega,by go_num,by rw[HE.out];exact HO.out,HB.out⟩
  ·have hge:¬ (k:Int)<(s.tenants.length:Int):=by omega
   obtain rfl:k=s.tenants.length:=by omega
   have HE:Hid (bookK c s s.tenants.length=booked c s):=Lib.hid (bookK_all c s (Nat.le_refl _))
   have HEL:Hid ((booked c s).length=c.cells.length):=Lib.hid (by rw[← HE.out];exact bookK_len _ _ _)
   go_wp2
   go_ret
   refine⟨some ⟨W.heap.size,0,none⟩,c.cells.length,?_,?_,HL.out.trans (HB.out.mono (Nat.le_of_lt hgc))⟩
   ·rw[HEL.out];rfl
   ·rw[HEL.out,← HE.out]
    exact own_base HO.out (Nat.le_of_lt hgc)
def overP (c:Cfg) (s:St) (k:Nat):Bool:=decide ((c.cells.getD k (0,0)).2<(booked c s).getD k 0)
theorem over_pick (c:Cfg) (s:St):over c s=pickK (overP c s) c.cells.length:=rfl
theorem booked_len (c:Cfg) (s:St):(booked c s).length=c.cells.length:=by rw[← bookK_all c s (Nat.le_refl _)];exact bookK_len _ _ _
set_option maxHeartbeats 4000000 in
set_option maxRecDepth 100000 in
theorem ldOver_any (x:CfgA) (c:Cfg) (y:StA) (s:St) (w:World) (hV:CfgV c) (hc:CfgOk w (·<w.heap.size) x c) (hI:StInv c s) (hs:StOk w (·<w.heap.size) y s) :
  Calls Tryz.prog 78 #[.agg (cfgC x c),.agg (stC y s)] w (IntsPost w (over c s)):=by
 rw[over_pick]
 obtain⟨ii,hii,hi0,hi1,hi2⟩:=info_parts r5intInfo
 have hnc:=hV.nc
 have hntt:=hV.nt
 have hbl:=booked_len c s
 obtain⟨az,cz,ac,cc,at_,ct,av,cv,ar,cr,ao,co⟩:=x
 have HV:=Lib.hid hV
 have HKc:=Lib.hid hc
 clear hV hc
 obtain⟨sat,sct,sac,scc⟩:=y
 have HKs:=Lib.hid hs
 have hsl:1≤s.cells.length∧s.cells.length≤16:=by have:=hI.lc;omega
 have hst:s.tenants.length≤32:=by have:=hI.lt;omega
 have HI:=Lib.hid hI
 clear hs hI
 obtain⟨pd,hpd⟩:∃ pd:Nat→Bool,pd=overP c s:=⟨_,rfl⟩
 have HP:=Lib.hid hpd
 rw[← hpd]
 clear hpd
 have hL:Below w.heap.size w ((w.alloc (.cells #[.int .i64 c.regions,.slice az c.zones.length cz,.slice ac c.cells.length cc,.slice at_ c.tenants.length ct,.slice av c.versions.length cv,.slice ar c.replicas.length cr,.slice ao c.observers.length co,.int .i64 c.blast,.int .i64 c.lease,.int .i64 c.bake] 31)).alloc (.cells #[.int .i64 s.tick,.int .i64 s.count,.slice sat s.tenants.length sct,.slice sac s.cells.length scc,.int .i64 s.proven,.int .i64 s.evac,.int .i64 s.low,.int .i64 s.high] 53)):=(((Below.refl w.heap.size w).alloc (by simp<;>omega) (.cells #[.int .i64 c.regions,.slice az c.zones.length cz,.slice ac c.cells.length cc,.slice at_ c.tenants.length ct,.slice av c.versions.length cv,.slice ar c.replicas.length cr,.slice ao c.observers.length co,.int .i64 c.blast,.int .i64 c.lease,.int .i64 c.bake] 31)).alloc (by simp<;>omega) (.cells #[.int .i64 s.tick,.int .i64 s.count,.slice sat s.tenants.length sct,.slice sac s.cells.length scc,.int .i64 s.proven,.int .i64 s.evac,.int .i64 s.low,.int .i64 s.high] 53))
 have hBc:Blk ((w.alloc (.cells #[.int .i64 c.regions,.slice az c.zones.length cz,.slice ac c.cells.length cc,.slice at_ c.tenants.length ct,.slice av c.versions.length cv,.slice ar c.replicas.length cr,.slice ao c.observers.length co,.int .i64 c.blast,.int .i64 c.lease,.int .i64 c.bake] 31)).alloc (.cells #[.int .i64 s.tick,.int .i64 s.count,.slice sat s.tenants.length sct,.slice sac s.cells.length scc,.int .i64 s.proven,.int .i64 s.evac,.int .i64 s.low,.int .i64 s.high] 53)) (w.heap.size) 31 #[.int .i64 c.regions,.slice az c.zones.length cz,.slice ac c.cells.length cc,.slice at_ c.tenants.length ct,.slice av c.versions.length cv,.slice ar c.replicas.length cr,.slice ao c.observers.length co,.int .i64 c.blast,.int .i64 c.lease,.int .i64 c.bake]:=by
  have:=((Blk.new w 31 #[.int .i64 c.regions,.slice az c.zones.length cz,.slice ac c.cells.length cc,.slice at_ c.tenants.length ct,.slice av c.versions.length cv,.slice ar c.replicas.length cr,.slice ao c.observers.length co,.int .i64 c.blast,.int .i64 c.lease,.int .i64 c.bake]).alloc (.cells #[.int .i64 s.tick,.int .i64 s.count,.slice sat s.tenants.length sct,.slice sac s.cells.length scc,.int .i64 s.proven,.int .i64 s.evac,.int .i64 s.low,.int .i64 s.high] 53))
  simpa using this
 have hBs:Blk ((w.alloc (.cells #[.int .i64 c.regions,.slice az c.zones.length cz,.slice ac c.cells.length cc,.slice at_ c.tenants.length ct,.slice av c.versions.length cv,.slice ar c.replicas.length cr,.slice ao c.observers.length co,.int .i64 c.blast,.int .i64 c.lease,.int .i64 c.bake] 31)).alloc (.cells #[.int .i64 s.tick,.int .i64 s.count,.slice sat s.tenants.length sct,.slice sac s.cells.length scc,.int .i64 s.proven,.int .i64 s.evac,.int .i64 s.low,.int .i64 s.high] 53)) (w.heap.size+1) 53 #[.int .i64 s.tick,.int .i64 s.count,.slice sat s.tenants.length sct,.slice sac s.cells.length scc,.int .i64 s.proven,.int .i64 s.evac,.int .i64 s.low,.int .i64 s.high]:=by
  have:=(Blk.new (w.alloc (.cells #[.int .i64 c.regions,.slice az c.zones.length cz,.slice ac c.cells.length cc,.slice at_ c.tenants.length ct,.slice av c.versions.length cv,.slice ar c.replicas.length cr,.slice ao c.observers.length co,.int .i64 c.blast,.int .i64 c.lease,.int .i64 c.bake] 31)) 53 #[.int .i64 s.tick,.int .i64 s.count,.slice sat s.tenants.length sct,.slice sac s.cells.length scc,.int .i64 s.proven,.int .i64 s.evac,.int .i64 s.low,.int .i64 s.high])
  simpa using this
 unfold cfgC stC
 simp only
 go_enter Tryz.func78,Tryz.ntmps78
 go_upto_region 1 with fail
 generalize (w.alloc _).alloc _=W at *
 have hgc:=hBc.lt
 have d0:=hBc.cell' (i:=0) (v:=.int .i64 c.regions) rfl
 have d1:=hBc.cell' (i:=1) (v:=.slice az c.zones.length cz) rfl
 have d2:=hBc.cell' (i:=2) (v:=.slice ac c.cells.length cc) rfl
 have d3:=hBc.cell' (i:=3) (v:=.slice at_ c.tenants.length ct) rfl
 have d4:=hBc.cell' (i:=4) (v:=.slice av c.versions.length cv) rfl
 have d5:=hBc.cell' (i:=5) (v:=.slice ar c.replicas.length cr) rfl
 have d6:=hBc.cell' (i:=6) (v:=.slice ao c.observers.length co) rfl
 have d7:=hBc.cell' (i:=7) (v:=.int .i64 c.blast) rfl
 have d8:=hBc.cell' (i:=8) (v:=.int .i64 c.lease) rfl
 have d9:=hBc.cell' (i:=9) (v:=.int .i64 c.bake) rfl
 clear hBc
 have hgs:=hBs.lt
 have su0:=hBs.cell' (i:=0) (v:=.int .i64 s.tick) rfl
 have su1:=hBs.cell' (i:=1) (v:=.int .i64 s.count) rfl
 have su2:=hBs.cell' (i:=2) (v:=.slice sat s.tenants.length sct) rfl
 have su3:=hBs.cell' (i:=3) (v:=.slice sac s.cells.length scc) rfl
 have su4:=hBs.cell' (i:=4) (v:=.int .i64 s.proven) rfl
 have su5:=hBs.cell' (i:=5) (v:=.int .i64 s.evac) rfl
 have su6:=hBs.cell' (i:=6) (v:=.int .i64 s.low) rfl
 have su7:=hBs.cell' (i:=7) (v:=.int .i64 s.high) rfl
 clear hBs
 have HL:=Lib.hid hL
 have HWc:=Lib.hid (HKc.out.belowW hL)
 have HWs:=Lib.hid (HKs.out.belowW hL)
 clear hL
 have HBK:=Lib.hid (ldBooked_any ⟨az,cz,ac,cc,at_,ct,av,cv,ar,cr,ao,co⟩ c ⟨sat,sct,sac,scc⟩ s W HV.out HWc.out HI.out HWs.out)
 go_wp2_with fail
 refine HBK.out.mono ?_
 rintro r w1 ⟨A1,cp1,rfl,hO1,hb1⟩
 rw[hbl] at hO1 ⊢
 have hlt1:W.heap.size<w1.heap.size∨True:=.inr trivial
 have HWc1:=Lib.hid (HWc.out.belowW hb1)
 have HL1:=Lib.hid (HL.out.trans (hb1.mono HL.out.size))
 replace d0:w1.cell? ⟨w.heap.size,0,none⟩=some (.int .i64 c.regions):=(hb1.cell (p:=⟨w.heap.size,0,none⟩) hgc).trans d0
 replace d1:w1.cell? ⟨w.heap.size,1,none⟩=some (.slice az c.zones.length cz):=(hb1.cell (p:=⟨w.heap.size,1,none⟩) hgc).trans d1
 replace d2:w1.cell? ⟨w.heap.size,2,none⟩=some (.slice ac c.cells.length cc):=(hb1.cell (p:=⟨w.heap.size,2,none⟩) hgc).trans d2
 replace d3:w1.cell? ⟨w.heap.size,3,none⟩=some (.slice at_ c.tenants.length ct):=(hb1.cell (p:=⟨w.heap.size,3,none⟩) hgc).trans d3
 replace d4:w1.cell? ⟨w.heap.size,4,none⟩=some (.slice av c.versions.length cv):=(hb1.cell (p:=⟨w.heap.size,4,none⟩) hgc).trans d4
 replace d5:w1.cell? ⟨w.heap.size,5,none⟩=some (.slice ar c.replicas.length cr):=(hb1.cell (p:=⟨w.heap.size,5,none⟩) hgc).trans d5
 replace d6:w1.cell? ⟨w.heap.size,6,none⟩=some (.slice ao c.observers.length co):=(hb1.cell (p:=⟨w.heap.size,6,none⟩) hgc).trans d6
 replace d7:w1.cell? ⟨w.heap.size,7,none⟩=some (.int .i64 c.blast):=(hb1.cell (p:=⟨w.heap.size,7,none⟩) hgc).trans d7
 replace d8:w1.cell? ⟨w.heap.size,8,none⟩=some (.int .i64 c.lease):=(hb1.cell (p:=⟨w.heap.size,8,none⟩) hgc).trans d8
 replace d9:w1.cell? ⟨w.heap.size,9,none⟩=some (.int .i64 c.bake):=(hb1.cell (p:=⟨w.heap.size,9,none⟩) hgc).trans d9
 replace hgc:w.heap.size<w1.heap.size:=Nat.lt_of_lt_of_le hgc hb1.size
 have HO1:=Lib.hid hO1
 clear HBK hO1 hb1 su0 su1 su2 su3 su4 su5 su6 su7 hgs HWc HWs HL hlt1
 generalize hbk:booked c s=bk at *
 have HBKE:=Lib.hid hbk
 clear hbk
 go_wp2
 go_loopg [5,12] c.cells.length (fun gk so si wr=>r5HomesRel w1 pd c.cells.length gk so si wr)
 case atStart=>exact⟨0,none,0,by omega,rfl,rfl,World.ownsRow_nil _ _ _ _,Below.refl _ _⟩
 case round=>
  rename_i J K aJ aK
  obtain⟨k,A,cp,hgk,rfl,rfl,hown,hbel⟩:=hrel
  have HO:=Lib.hid hown
  have HB:=Lib.hid hbel
  have hsz:=hbel.size
  have hlen:=pickK_len pd k
  obtain⟨hc,hf⟩:=bcell hbel
  clear hown hbel hf
  by_cases hk:k<c.cells.length
  ·have hlt:(k:Int)<(c.cells.length:Int):=by omega
   have hkb:k<bk.length:=by omega
   obtain⟨b,off,z,rfl,hb,hzz,hcell⟩:=HWc1.out.cells.row (enc:=pairC) (sz:=2) (fun _=>rfl) (by omega) hk
   obtain⟨g1,cap1,hv1,_,hlt1⟩:=HO1.out.form (by omega)
   simp only[Value.slice.injEq,true_and] at hv1
   obtain⟨rfl,rfl⟩:=hv1
   have c0:=HO1.out.cellAt k (by omega)
   rw[flat_int,List.getElem?_map,List.getElem?_eq_getElem hkb] at c0
   simp only[Option.map_some] at c0
   have hbW:b<w1.heap.size:=hb
   have e1:=hcell 1 (.int .i64 z.2) rfl
   have HPK:Hid (pd k=decide (z.2<bk[k])):=Lib.hid (by rw[HP.out];unfold overP;rw[getD_some hzz,HBKE.out,getD_some (List.getElem?_eq_getElem hkb)])
   have HS:=Lib.hid (pickK_succ pd k)
   generalize bk[k]=m at *
   clear hcell hzz hb
   by_cases hp:pd k=true
   ·have hp2:z.2<m:=by have:=HPK.out;rw[hp] at this;simpa using this.symm
    go_wp2_with (at_builtin;refine wpList_append_lies _ rfl _ _ _ rfl w1.heap.size 3 ii _ 1 8 Tryz.underlying22 hii hi0 hi1 hi2 rfl (by omega) _ (pickK pd k).length (flat intC (pickK pd k)) rfl (HO.out.alloc _) ⟨wr.heap.size,0,none⟩ 1 1 [.int .i64 k] rfl rfl ?c1 ?c2 ?c0 ?c3 ?c4 ?c5 (wr.heap.size+1) ?c6 ?_)
    case c1=>exact World.news_of_block (cs:=#[.int .i64 k]) (heap_alloc_new _ _)
    case c2=>simp[Value.oneCell']
    case c0=>omega
    case c3=>unfold maxLen;omega
    case c4=>omega
    case c5=>have:=HB.out.size;simp;omega
    case c6=>simp
    intro gg cq w9 hown9 hg9 hat9 hlt9
    have HB9:=Lib.hid ((HB.out.alloc HB.out.size _).grown hg9 (by have:=HB.out.size;simp;omega) (fun j hj=>(HO.out.lt j hj).1))
    have HX:Hid (w9.ownsRow w1.heap.size 3 1 (.slice (some ⟨gg,0,none⟩) (pickK pd (k+1)).length cq) (pickK pd (k+1)).length (flat intC (pickK pd (k+1)))):=by
     refine Lib.hid ?_;rw[HS.out,if_pos hp,← flat_snoc5,List.length_append];exact hown9
    have hl9:(pickK pd (k+1)).length=(pickK pd k).length+1:=by rw[HS.out,if_pos hp,List.length_append];rfl
    have HL9:=Lib.hid hl9
    clear hown9 hg9 hat9 hlt9 HB hl9 hc
    go_wp2
    go_roundg (gk-1)
    case measure=>omega
    case rel=>exact⟨k+1,some ⟨gg,0,none⟩,cq,by omega,by go_num,by rw[HL9.out],HX.out,HB9.out⟩
   ·have hp:pd k=false:=by simpa using hp
    have hp2:m≤z.2:=by have:=HPK.out;rw[hp] at this;simpa using this.symm
    have HX:Hid (wr.ownsRow w1.heap.size 3 1 (.slice A (pickK pd (k+1)).length cp) (pickK pd (k+1)).length (flat intC (pickK pd (k+1)))):=by
     refine Lib.hid ?_;rw[HS.out,if_neg (by simp[hp])];exact HO.out
    have hl9:(pickK pd (k+1)).length=(pickK pd k).length:=by rw[HS.out,if_neg (by simp[hp])]
    have HL9:=Lib.hid hl9
    clear hl9
    go_wp2
    go_roundg (gk-1)
    case measure=>omega
    case rel=>exact⟨k+1,A,cp,by omega,by go_num,by rw[HL9.out],HX.out,HB.out⟩
  ·have hge:¬ (k:Int)<(c.cells.length:Int):=by omega
   obtain rfl:k=c.cells.length:=by omega
   go_wp2
   go_ret
   exact⟨A,cp,rfl,own_base HO.out (Nat.le_of_lt hgc),HL1.out.trans (HB.out.mono (Nat.le_of_lt hgc))⟩
/-! state.Apply: a state in rows of its own. -/
def ctRefused:CT:=fun vs mem nx K=>∃ N x c M y s e,vs=[cfgV N x c,stV M y s,entV' e]∧keeps mem (cfgM N c)∧(HasRow mem M.t 12 tsC default s.tenants∧HasRow mem M.c 4 csC default s.cells)∧CfgV c∧StInv c s∧K (.int .i64 (refusedE c s e)) mem nx
theorem refusedOk:CSound Tryz.prog 75 ctRefused:=⟨by kernel_rfl,fun {C ρ fr mem nx a w vs K} hc hs hv=>by
 obtain⟨N,x,c,M,y,s,e,rfl,hk,⟨h1,h2⟩,hV,hI,hK⟩:=hc
 rw[List.map_cons,den_cfg,List.map_cons,den_st,List.map_cons,(pure_den (pure_ent e) _ 0).1]
 refine (stRefused_any (cfgX ρ N x) c (stX ρ M y) s e w hV (hs.cfg hk (fun b hb _=>hb)) hI (hs.stRow h1 h2)).mono ?_
 rintro r w' ⟨rfl,hb⟩
 exact⟨.int .i64 (refusedE c s e),mem,nx,ρ,rfl,hK,hs.later hb,trivial,ExtS.refl _ _⟩⟩
def ctOverP:CT:=fun vs mem nx K=>∃ N x c M y s,vs=[cfgV N x c,stV M y s]∧keeps mem (cfgM N c)∧(HasRow mem M.t 12 tsC default s.tenants∧HasRow mem M.c 4 csC default s.cells)∧CfgV c∧StInv c s∧∀ cp,K (slc nx (over c s).length cp) ((nx,rowOfL 500000 1 intC 0 (over c s))::mem) (nx+1)
theorem overPOk:CSound Tryz.prog 78 ctOverP:=⟨by kernel_rfl,fun {C ρ fr mem nx a w vs K} hc hs hv=>by
 obtain⟨N,x,c,M,y,s,rfl,hk,⟨h1,h2⟩,hV,hI,hK⟩:=hc
 rw[List.map_cons,den_cfg,List.map_cons,den_st]
 refine (ldOver_any (cfgX ρ N x) c (stX ρ M y) s w hV (hs.cfg hk (fun b hb _=>hb)) hI (hs.stRow h1 h2)).mono ?_
 rintro e w' ⟨A,cp,rfl,ho,hb⟩
 obtain⟨q1,-⟩:=(hs.later hb).addList hs.frB hs.rest.size (enc:=intC) (sz:=1) (fun _=>rfl) (by omega) intC_plain 0 (t:=500000) rfl (Rd.of_own ho)
 have q2:setPl ρ nx ⟨A,1,(over c s).length,false,noSub⟩ nx=⟨A,1,(over c s).length,false,noSub⟩:=setPl_same _ _ _
 refine⟨slc nx (over c s).length cp,_,_,setPl ρ nx ⟨A,1,(over c s).length,false,noSub⟩,?_,hK cp,q1,?_,fun i hi=>setPl_lt _ _ hi,by omega⟩
 ·show Ending.returned (.slice A (over c s).length cp)=.returned (.slice (setPl ρ nx ⟨A,1,(over c s).length,false,noSub⟩ nx).A (over c s).length cp)
  rw[q2]
 ·exact⟨show nx<nx+1 by omega,by rw[q2]⟩⟩
def apF:FT:=[(75,ctRefused),(76,ctEff),(77,ctInl tt [] [] Tryz.f77 (bodyOf Tryz.f77)),(78,ctOverP)]
def apD:List (Nat×DQ):=[(9000000,{ k:=0,L:=[77] })]
theorem apFok:FTokI Tryz.prog apF (inlOf apD):=fti_cons (refusedOk.i _) (fti_cons (effOk.i _) (fti_cons (inl_ok ttOk fti_nil mixed (by kernel_rfl) Tryz.func77 rfl (by kernel_rfl) (by decide)) (fti_cons (overPOk.i _) fti_nil)))
theorem over_pos (c:Cfg) (s:St):overB c s=decide (0<(over c s).length):=by
 unfold overB over
 rw[List.length_map]
 cases h:(List.range c.cells.length).any fun i=>decide ((c.cells.getD i (0,0)).2<(booked c s).getD i 0)
 ·rw[List.any_eq_false] at h
  have:((List.range c.cells.length).filter fun i=>decide ((c.cells.getD i (0,0)).2<(booked c s).getD i 0))=[]:=List.filter_eq_nil_iff.2 h
  rw[this]
  rfl
 ·rw[List.any_eq_true] at h
  obtain⟨i,hi,hp⟩:=h
  have:i ∈ (List.range c.cells.length).filter fun i=>decide ((c.cells.getD i (0,0)).2<(booked c s).getD i 0):=List.mem_filter.2 ⟨hi,hp⟩
  have:=List.length_pos_of_mem this
  exact (decide_eq_true this).symm
theorem applyP_over {c:Cfg} {s:St} {e:Ent} (h:refusedE c s e=0) (hb:booksB e=true) (ho:0<(over c (effOf s e)).length):applyP c s e=(St.zero,10):=by
 unfold applyP
 rw[if_neg (by omega),if_pos ⟨hb,by rw[over_pos];simpa using ho⟩]
theorem applyP_fine {c:Cfg} {s:St} {e:Ent} (h:refusedE c s e=0) (hb:booksB e=true→¬ 0<(over c (effOf s e)).length):applyP c s e=(effOf s e,0):=by
 unfold applyP
 rw[if_neg (by omega),if_neg]
 rintro⟨h1,h2⟩
 rw[over_pos] at h2
 exact hb h1 (by simpa using h2)
def ApR (mem':AM) (v:Value) (p:St×Int):Prop:=∃ T Cc,v=.tuple #[.agg #[.int .i64 p.1.tick,.int .i64 p.1.count,T,Cc,.int .i64 p.1.proven,.int .i64 p.1.evac,.int .i64 p.1.low,.int .i64 p.1.high],.int .i64 p.2]∧
 ((p.1=St.zero∧T=zs0∧Cc=zs0)∨∃ rT rC,rT≠rC∧SlO mem' 12 tsC default p.1.tenants T rT∧SlO mem' 4 csC default p.1.cells Cc rC)
set_option maxRecDepth 100000 in
set_option maxHeartbeats 4000000 in
theorem apply_sx (x : CfgK) (c : Cfg) (y : StK) (s : St) (e : Ent) (hV : CfgV c) (hI : StInv c s) :
    sx tt apF apD (bodyOf Tryz.f31) (argF 0 [cfgV CN1 x c, stV SN1 y s, entV' e]) (rdM c s noS) 10 (endx tt Tryz.f31.results.toList fun v mem' _ => ApR mem' v (applyP c s e)) := by
  refine ⟨CN1, x, c, SN1, y, s, e, rfl, kp_, ⟨.list rfl, .list rfl⟩, hV, hI, ?_⟩
  refine ⟨fun hr => ?_, fun hr => ?_⟩
  · have hr : refusedE c s e ≠ 0 := by simpa using hr
    refine ⟨zs0, zs0, ?_, .inl ⟨?_, rfl, rfl⟩⟩
    · unfold applyP; rw [if_pos hr]; rfl
    · unfold applyP; rw [if_pos hr]
  · have hr : refusedE c s e = 0 := by simpa using hr
    have ha := acc_of hr
    refine ⟨_, y, s, e, rfl, ⟨.list rfl, .list rfl⟩, ⟨c, hV, hI, ha⟩, ?_⟩
    intro y2
    repeat' (first | refine ⟨fun _ => ?_, fun h => Bool.noConfusion h⟩ | refine ⟨fun h => Bool.noConfusion h, fun _ => ?_⟩ | refine ⟨CN1, x, c, ⟨15, 14, 0⟩, y2, effOf s e, rfl, kp_, ⟨.list rfl, .list rfl⟩, hV, hI.step hV hr, ?_⟩ | intro cp | refine ⟨fun _ => ?_, fun _ => ?_⟩ | fail)
    all_goals first
      | (have hq := applyP_over (c := c) (s := s) (e := e) hr (by unfold booksB; grind) (by grind)
         exact ⟨zs0, zs0, (by rw [hq]; rfl), .inl ⟨by rw [hq], rfl, rfl⟩⟩)
      | (have hq := applyP_fine (c := c) (s := s) (e := e) hr (by unfold booksB; grind)
         exact ⟨slc 15 (effOf s e).tenants.length y2.ct, slc 14 (effOf s e).cells.length y2.cc, (by rw [hq]), .inr ⟨15, 14, by decide, (by rw [hq]; exact ⟨_, _, _, _, _, rfl, rfl, rfl, rfl, Nat.le_refl _, fun k hk => rfl⟩), (by rw [hq]; exact ⟨_, _, _, _, _, rfl, rfl, rfl, rfl, Nat.le_refl _, fun k hk => rfl⟩)⟩⟩)
      | fail
theorem stApplyO_any (x:CfgA) (c:Cfg) (y:StA) (s:St) (e:Ent) (w:World) (hV:CfgV c) (hc:CfgOk w (·<w.heap.size) x c) (hI:StInv c s) (hs:StOk w (·<w.heap.size) y s) :
  Calls Tryz.prog 31 #[.agg (cfgC x c),.agg (stC y s),.agg (entC e).toArray] w fun r w'=>∃ y2,r=.returned (.tuple #[.agg (stC y2 (applyP c s e).1),.int .i64 (applyP c s e).2])∧StOwn2 w.heap.size w' y2 (applyP c s e).1∧Below w.heap.size w w':=by
 have:=rd_callsM ttOk apFok Tryz.func31 rfl (D:=apD) (by kernel_rfl) (vs:=[cfgV CN1 (ck x) c,stV SN1 (sk y) s,entV' e]) rfl x c y s noA noS w hc hs (noS_ok w _) (fun v hv=>by
  simp only[List.mem_cons,List.not_mem_nil,or_false] at hv
  rcases hv with rfl | rfl | rfl
  ·exact rpl_cfg_ok x c y s noA noS
  ·exact rpl_st_ok x c y s noA noS
  ·exact (pure_den (pure_ent e) _ _).2) (apply_sx (ck x) c (sk y) s e hV hI)
 rw[List.map_cons,rpl_cfg,List.map_cons,rpl_st,List.map_cons,(pure_den (pure_ent e) _ 0).1] at this
 refine this.mono ?_
 rintro r w' ⟨v,mem',nx',ρ',rfl,⟨T,Cc,rfl,hr⟩,hv,hm',hb⟩
 have key:∃ y2,den2 ρ' (.agg #[.int .i64 (applyP c s e).1.tick,.int .i64 (applyP c s e).1.count,T,Cc,.int .i64 (applyP c s e).1.proven,.int .i64 (applyP c s e).1.evac,.int .i64 (applyP c s e).1.low,.int .i64 (applyP c s e).1.high])=.agg (stC y2 (applyP c s e).1)∧StOwn2 w.heap.size w' y2 (applyP c s e).1:=by
  rcases hr with⟨h0,rfl,rfl⟩ | ⟨rT,rC,hne,hT,hC⟩
  ·rw[h0];exact⟨noA,by simp[den2,den1,stC,noA,St.zero],StOwn2.zero _ _⟩
  ·exact hm'.own2 rfl hne hT hC
 obtain⟨y2,e1,e2⟩:=key
 refine⟨y2,?_,e2,hb⟩
 rw[← e1]
 have d:∀ z,den2 ρ' (.int .i64 z)=.int .i64 z:=fun _=>rfl
 simp only[den,List.map_toArray,List.map_cons,List.map_nil,d]
def ctApplyO:CT:=fun vs mem nx K=>∃ N x c M y s e,vs=[cfgV N x c,stV M y s,entV' e]∧keeps mem (cfgM N c)∧(HasRow mem M.t 12 tsC default s.tenants∧HasRow mem M.c 4 csC default s.cells)∧CfgV c∧StInv c s∧∀ y2,K (.tuple #[stV ⟨nx+1,nx,0⟩ y2 (applyP c s e).1,.int .i64 (applyP c s e).2]) (stMO ⟨nx+1,nx,0⟩ (applyP c s e).1++mem) (nx+2)
theorem applyOOk:CSound Tryz.prog 31 ctApplyO:=⟨by kernel_rfl,fun {C ρ fr mem nx a w vs K} hc hs hv=>by
 obtain⟨N,x,c,M,y,s,e,rfl,hk1,⟨h1,h2⟩,hV,hI,hK⟩:=hc
 rw[List.map_cons,den_cfg,List.map_cons,den_st,List.map_cons,(pure_den (pure_ent e) _ 0).1]
 refine (stApplyO_any (cfgX ρ N x) c (stX ρ M y) s e w hV (hs.cfg hk1 (fun b h _=>h)) hI (hs.stRow h1 h2)).mono ?_
 rintro r w' ⟨y2,rfl,ho,hb⟩
 obtain⟨q1,q2,q3,q4⟩:=hs.addOwnSt hb ho
 refine⟨.tuple #[stV ⟨nx+1,nx,0⟩ ⟨y2.ct,y2.cc⟩ (applyP c s e).1,.int .i64 (applyP c s e).2],_,_,_,?_,hK ⟨y2.ct,y2.cc⟩,q1,?_,q4⟩
 ·rw[← q2]
  simp[den,den2,den1]
 ·intro u hu
  simp at hu
  rcases hu with rfl | rfl
  ·exact q3
  ·trivial⟩
theorem mkLight_below (A:Option Addr) (n cp:Nat) (w:World) (hn:n≤maxLen):Calls Tryz.prog 8 #[.slice A n cp] w fun r w'=>r=.returned (.bool (decide (n≤200)))∧Below w.heap.size w w':=by
 refine (mkLight_any A n cp w hn).mono ?_
 rintro e w' ⟨h,rfl⟩
 exact⟨h,Below.refl _ _⟩
def ctLight:CT:=fun vs mem nx K=>∃ Mz0 xz0 z0,vs=[slc Mz0 (z0:List Int).length xz0]∧(lk mem Mz0=some (intRow z0))∧(z0.length≤maxLen)∧K (.bool (decide (z0.length≤200))) mem nx
theorem lightOk:CSound Tryz.prog 8 ctLight:=(ptsOk (R:=fun l z=>∃ z0,l=[.li z0]∧z=.bool (decide (z0.length≤200))) (pre:=fun l=>∃ z0,l=[.li z0]∧(z0.length≤maxLen)) (by kernel_rfl) (by
 rintro ps w ⟨z0,hps,hpre⟩ hok
 obtain⟨xz0,yz0,ps0,rfl,hps0⟩:=dt_l hps
 obtain rfl:=dt_nil hps0
 have hpz0:=hok (.li xz0 yz0 z0) (by simp)
 refine (mkLight_below xz0 z0.length yz0 w hpre).mono ?_
 rintro e w' ⟨rfl,hb⟩
 exact⟨_,⟨z0,rfl,rfl⟩,trivial,rfl,hb⟩)).mono (by
 rintro vs mem nx K ⟨Mz0,xz0,z0,rfl,hk,hpre,hK⟩
 exact⟨[.li Mz0 xz0 z0],rfl,⟨hk,trivial⟩,⟨_,rfl,hpre⟩,by rintro z ⟨z0',hl,hz⟩;cases hl;subst hz;exact hK⟩)
set_option maxHeartbeats 4000000 in
set_option maxRecDepth 100000 in
theorem awake31b_any (w:World) :
  Calls Tryz.prog 18 #[] w fun e w'=>e=.returned (.bool true)∧Below w.heap.size w w':=by
 go_enter Tryz.func18,Tryz.ntmps18
 go_wp2
 go_ret
 exact⟨rfl,(Below.refl _ _).alloc (Nat.le_refl _) _⟩
def ctAwake31:CT:=fun vs mem nx K=>vs=[]∧K (.bool true) mem nx
theorem awake31Ok:CSound Tryz.prog 18 ctAwake31:=CSound.pure (by kernel_rfl) (by
 rintro vs mem nx K ⟨rfl,hK⟩
 exact⟨_,hK,fun ρ n=>⟨rfl,trivial⟩,fun ρ w=>awake31b_any w⟩)
/-! law31.MigrateBegins -/
abbrev ctCheckP:CT:=ctInl tt [(31,ctApplyO)] [] Tryz.f97 (bodyOf Tryz.f97)
abbrev ckdD:List (Nat×DQ):=[(9000000,{ k:=0,L:=[97] })]
abbrev ckdF:FT:=[(97,ctCheckP)]
abbrev ctChecked:CT:=ctInl tt ckdF ckdD Tryz.f66 (bodyOf Tryz.f66)
abbrev bgpD:List (Nat×DQ):=[(9000000,{ k:=0,L:=[66] })]
abbrev ctBeginP:CT:=ctInl tt [(66,ctChecked)] bgpD Tryz.f20 (bodyOf Tryz.f20)
theorem checkPOk {I:List Nat} (hI:I.contains 97=true):CSoundI Tryz.prog I 97 ctCheckP:=inl_ok ttOk (fti_cons (applyOOk.i _) fti_nil) mixed (by kernel_rfl) Tryz.func97 rfl (by kernel_rfl) hI
theorem checkedOk {I:List Nat} (hI:I.contains 66=true):CSoundI Tryz.prog I 66 ctChecked:=inl_ok ttOk (fti_cons (checkPOk (by decide)) fti_nil) mixed (by kernel_rfl) Tryz.func66 rfl (by kernel_rfl) hI
theorem beginPOk {I:List Nat} (hI:I.contains 20=true):CSoundI Tryz.prog I 20 ctBeginP:=inl_ok ttOk (fti_cons (checkedOk (by decide)) fti_nil) mixed (by kernel_rfl) Tryz.func20 rfl (by kernel_rfl) hI
/-! The tape of mill. -/
structure TmAt (w:World) (g:Nat) (A:Option Addr) (cap:Nat) (zs:List Int) (k:Int):Prop where
 row:Rd w (fun b=>b≠g∧b<w.heap.size) A (flat intC zs)
 blk:Blk w g 150 #[.slice A zs.length cap,.int .i64 k]
def ctModM:CT:=fun vs mem nx K=>∃ v n,vs=[.int .i64 v,.int .i64 n]∧(1≤n∧n≤2147483648)∧∀ r:Int,0≤r→r<n→K (.int .i64 r) mem nx
def modMx (v n:Int):Int:=if v.tmod n<0 then v.tmod n+n else v.tmod n
theorem modMx_bd (v n:Int) (hn:1≤n):0≤modMx v n∧modMx v n<n:=by
 have h1:=Int.natAbs_tmod v n
 have h2:v.natAbs % n.natAbs<n.natAbs:=Nat.mod_lt _ (by omega)
 unfold modMx
 split<;>omega
set_option maxRecDepth 100000 in
theorem modM_sx (v n:Int) (hn:1≤n) (hn2:n≤2147483648):sx tt [] [] (bodyOf Tryz.f23) (argF 0 [.int .i64 v,.int .i64 n]) [] 0 (endx tt Tryz.f23.results.toList fun z _ _=>z=.int .i64 (modMx v n)):=by
 have h1:=Int.natAbs_tmod v n
 have h2:v.natAbs % n.natAbs<n.natAbs:=Nat.mod_lt _ (by omega)
 refine⟨⟨rfl,by omega⟩,?_⟩
 refine⟨fun h=>?_,fun h=>?_⟩
 ·have h:v.tmod n<0:=of_decide_eq_true h
  unfold modMx
  rw[if_pos h]
  show Value.int .i64 (IntKind.i64.wrap (v.tmod n+n))=_
  rw[wrapi (by omega)]
 ·have h:¬ v.tmod n<0:=of_decide_eq_false h
  unfold modMx
  rw[if_neg h]
  rfl
theorem modM_any (v n:Int) (w:World) (hn:1≤n) (hn2:n≤2147483648):Calls Tryz.prog 23 #[.int .i64 v,.int .i64 n] w fun e w'=>e=.returned (.int .i64 (modMx v n))∧Below w.heap.size w w':=by
 have:=calls_sx ttOk ft_nil mixed Tryz.func23 rfl (by kernel_rfl) (vs:=[.int .i64 v,.int .i64 n]) rfl (C:={ w0:=w,bor:=[],n0:=0,ρ0:=fun _=>⟨none,0,0,false,noSub⟩,nt:=Tryz.f23.ntmps }) ⟨rfl,rfl⟩ rfl (ρ:=fun _=>⟨none,0,0,false,noSub⟩) (mem:=[]) (nx:=0) (MemAt.rows (mem:=[]) trivial trivial) (fun u hu=>by
  simp only[List.mem_cons,List.not_mem_nil,or_false] at hu
  rcases hu with rfl | rfl<;>trivial) (modM_sx v n hn hn2)
 refine this.mono ?_
 rintro e w' ⟨z,mem',nx',ρ',rfl,rfl,hv,hm'⟩
 exact⟨rfl,⟨hm'.rest.os,hm'.rest.tape,hm'.rest.output,hm'.rest.size,fun b hlt=>hm'.rest.block b hlt (by simp)⟩⟩
theorem modMOk:CSound Tryz.prog 23 ctModM:=CSound.val (by kernel_rfl) (by
 rintro vs mem nx K ⟨v,n,rfl,hn,hK⟩
 have hb:=modMx_bd v n hn.1
 exact⟨_,hK _ hb.1 hb.2,trivial,rfl,fun ρ w=>modM_any v n w hn.1 hn.2⟩)
/-! Contracts: what a migration does. -/
theorem Sat.boxCell {C:Ctx} {ρ:Nat→Pl} {fr:AF} {mem:AM} {nx:Nat} {a:Act} {w:World} (h:Sat C ρ fr mem nx a w) {i:Nat} {t:TypeId} {cs:List Value} (hi:lk mem i=some (.box t cs)):∃ g,(ρ i).A=some ⟨g,0,none⟩∧∀ k v,cs[k]?=some v→w.cell? ⟨g,k,none⟩=some (den1 ρ v):=by
 obtain⟨g,hA,hb,-,-⟩:=h.blk i _ (lk_app hi)
 exact⟨g,hA,fun k v hv=>hb.cell' (by simp[hv])⟩
def migB (a b d e p:Int) (cl:Bool) (ea:Int):ABlk:=.box 129 [.int .i64 a,.int .i64 b,.int .i64 d,.int .i64 e,.int .i64 p,.bool cl,.int .i64 ea]
def ctAfterP:CT:=fun vs mem nx K=>∃ i ev n p t cs,vs=[ptr i,.int .i64 ev,.int .i64 n]∧lk mem i=some (.box t cs)∧cs[4]?=some (.int .i64 p)∧K (.int .i64 (afterM p ev n)) mem nx
theorem afterPOk:CSound Tryz.prog 73 ctAfterP:=⟨by kernel_rfl,fun {C ρ fr mem nx a w vs K} hc hs hv=>by
 obtain⟨i,ev,n,p,t,cs,rfl,hi,h4,hK⟩:=hc
 obtain⟨g,hA,hcell⟩:=hs.boxCell hi
 have e:([ptr i,.int .i64 ev,.int .i64 n].map (den ρ)).toArray=#[.pointer (some ⟨g,0,none⟩),.int .i64 ev,.int .i64 n]:=by simp[den,den2,den1,dA_whole,dS_whole,hA]
 rw[e]
 refine (after_any g p ev n w (hcell 4 _ h4)).mono ?_
 rintro e w' ⟨rfl,rfl⟩
 exact⟨_,mem,nx,ρ,rfl,hK,hs,trivial,ExtS.refl _ _⟩⟩
def ctTaskP:CT:=fun vs mem nx K=>∃ i p t cs,vs=[ptr i]∧lk mem i=some (.box t cs)∧cs[4]?=some (.int .i64 p)∧K (.int .i64 (taskM p)) mem nx
theorem taskPOk:CSound Tryz.prog 32 ctTaskP:=⟨by kernel_rfl,fun {C ρ fr mem nx a w vs K} hc hs hv=>by
 obtain⟨i,p,t,cs,rfl,hi,h4,hK⟩:=hc
 obtain⟨g,hA,hcell⟩:=hs.boxCell hi
 have e:([ptr i].map (den ρ)).toArray=#[.pointer (some ⟨g,0,none⟩)]:=by simp[den,den2,den1,dA_whole,dS_whole,hA]
 rw[e]
 refine (task_any g p w (hcell 4 _ h4)).mono ?_
 rintro e w' ⟨rfl,rfl⟩
 exact⟨_,mem,nx,ρ,rfl,hK,hs,trivial,ExtS.refl _ _⟩⟩
abbrev ctStepP:CT:=ctInl tt [(73,ctAfterP)] [] Tryz.f29 (bodyOf Tryz.f29)
theorem stepPOk {I:List Nat} (hI:I.contains 29=true):CSoundI Tryz.prog I 29 ctStepP:=inl_ok ttOk (fti_cons (afterPOk.i _) fti_nil) mixed (by kernel_rfl) Tryz.func29 rfl (by kernel_rfl) hI
/-! A quicker check of a region's order: who has come up is kept as one number. -/
def lsm (n L:Nat):Array Bool:=((List.range n).map fun i=>L.testBit i).toArray
theorem lsm_size (n L:Nat):(lsm n L).size=n:=by simp[lsm]
theorem lsm_zero (n:Nat):Array.replicate n false=lsm n 0:=by
 apply Array.ext
 ·simp[lsm]
 ·intro i h1 h2;simp[lsm]
theorem lsm_set (n L i:Nat):(lsm n L).setIfInBounds i true=lsm n (L ||| 2 ^ i):=by
 apply Array.ext
 ·simp[lsm]
 ·intro j h1 h2
  have hj:j<n:=by simpa [lsm] using h2
  rw[Array.getElem_setIfInBounds (by rw[lsm_size];exact hj)]
  by_cases h:i=j
  ·subst h;simp[lsm,Nat.testBit_or,Nat.testBit_two_pow]
  ·simp[lsm,Nat.testBit_or,Nat.testBit_two_pow,h]
noncomputable def fastB (ops:Array Oper) (n:Nat) (σ:List (Nat×Bool)):Nat→Bool:=
 List.rec (motive:=fun _=>Nat→Bool) (fun L=>seqHB ops [] (lsm n L))
  (fun p _ ih L=>match p.2 with
   | false=>Region.free .any ops (lsm n L) p.1&&(Region.ready .any ops (lsm n L)).contains p.1&&ih (L ||| 2 ^ p.1)
   | true=>(match Region.ready .any ops (lsm n L) with
    | [j]=>Nat.beq j p.1&&ih (L ||| 2 ^ p.1)
    | _=>false)) σ
theorem fastB_float (ops:Array Oper) (n:Nat):∀ (σ:List (Nat×Bool)) (L m:Nat),σ.length<m→fastB ops n σ L=true→floatB ops [] m σ (lsm n L) []=true
 | [],L,0,hm,h=>by simp at hm
 | [],L,m+1,hm,h=>h
 | p::r,L,0,hm,h=>by simp at hm
 | (i,b)::r,L,m+1,hm,h=>by
  cases b with
  | false=>
   have h:(Region.free .any ops (lsm n L) i&&(Region.ready .any ops (lsm n L)).contains i&&fastB ops n r (L ||| 2 ^ i))=true:=h
   simp only[Bool.and_eq_true] at h
   rw[floatB]
   simp only[Bool.and_eq_true]
   exact⟨h.1,by rw[lsm_set];exact fastB_float ops n r _ m (by simpa using hm) h.2⟩
  | true=>
   have h:(match Region.ready .any ops (lsm n L) with
    | [j]=>Nat.beq j i&&fastB ops n r (L ||| 2 ^ i)
    | _=>false)=true:=h
   rw[floatB]
   split at h
   ·rename_i j hj
    simp only[Bool.and_eq_true] at h
    have hji:=Nat.eq_of_beq_eq_true h.1
    subst hji
    rw[hj]
    have:=fastB_float ops n r _ m (by simpa using hm) h.2
    rw[lsm_set]
    simp[this]
   ·cases h
def lastF (l:List Oper) (k:Nat):Bool:=Nat.beq k l.length &&
 ((List.range k).all fun i=>match l[i]? with
  | none=>true
  | some o=>(o.after.all fun e=>!Region.binds .any e||decide (e.on<i))&&(match o.guard with | none=>true | some (g,_)=>decide (g<k))) &&
 Region.seqB .any l.toArray (l.drop k).length k (Array.replicate k true++Array.replicate (l.length-k) false)
theorem lastF_ok {l:List Oper} {k:Nat} (h:lastF l k=true):lastB l k=true:=by
 unfold lastF at h
 simp only[Bool.and_eq_true] at h
 obtain⟨⟨h1,h2⟩,h3⟩:=h
 have hk:=Nat.eq_of_beq_eq_true h1
 unfold lastB
 simp only[Bool.and_eq_true]
 refine⟨⟨⟨decide_eq_true (by omega),h2⟩,?_⟩,h3⟩
 rw[List.all_eq_true]
 intro j hj
 rw[show decide (j<k)=true from decide_eq_true (by rw[hk];exact List.mem_range.1 hj)]
 rfl
noncomputable def dregF (l:List Oper) (d:DP):Bool:=
 lastF l d.k&&Region.noSelect (l.take d.k).toArray&&decide (d.pre.length+d.A.length+d.post.length=d.k)&&(match d.A,d.post with | [],[]=>fastB (l.take d.k).toArray d.k d.pre 0 | _,_=>false)
theorem dregF_ok {l:List Oper} {d:DP} (h:dregF l d=true):dregB l d=true:=by
 unfold dregF at h
 simp only[Bool.and_eq_true] at h
 obtain⟨⟨⟨h1,h2⟩,h3⟩,h4⟩:=h
 unfold dregB
 cases hA:d.A with
 | cons a r=>rw[hA] at h4;simp at h4
 | nil=>
  cases hp:d.post with
  | cons a r=>rw[hA,hp] at h4;simp at h4
  | nil=>
   rw[hA,hp] at h4
   rw[hA,hp] at h3
   simp only[Bool.and_eq_true]
   have hl:d.pre.length=d.k:=by simpa using h3
   refine⟨⟨⟨⟨⟨⟨lastF_ok h1,h2⟩,h3⟩,?_⟩,?_⟩,rfl⟩,rfl⟩
   ·rw[lsm_zero]
    exact fastB_float _ _ _ _ _ (by omega) h4
   ·unfold preDst
    rw[List.all_eq_true]
    intro p hp
    split<;>simp
noncomputable def codeF (nt:Nat) (D:List (Nat×DQ)):Code→Bool
 | .region id ops draw=>(ops.toList.all fun o=>match o.dst with | some d=>decide (d<nt) | none=>true)&&(match draw with
  | false=>true
  | true=>(match lk D id with | some d=>(match d.g with | none=>(match d.sl with | []=>dregB ops.toList d.toDP | _::_=>dregF ops.toList d.toDP)&&(match d.A with | []=>true | _::_=>ops.toList.all fun o=>inlOk (inlOf D) o.op) | some σ=>gregB ops.toList d.k σ) | none=>false))
 | .seq a b=>codeF nt D a&&codeF nt D b
 | .cond _ a b=>codeF nt D a&&codeF nt D b
 | .block _ a=>codeF nt D a
 | .loop a=>codeF nt D a
 | .scope a=>codeF nt D a
 | _=>true
theorem codeF_ok {nt:Nat} {D:List (Nat×DQ)} (c:Code) (h:codeF nt D c=true):codeB nt D c=true:=by
 induction c with
 | region id ops draw=>
  unfold codeF at h
  unfold codeB
  simp only[Bool.and_eq_true] at h ⊢
  refine⟨h.1,?_⟩
  have h2:=h.2
  cases draw with
  | false=>rfl
  | true=>
   revert h2
   cases hd:lk D id with
   | none=>intro h2;exact h2
   | some d=>
    dsimp only
    cases hg:d.g with
    | some σ=>intro h2;exact h2
    | none=>
     intro h2
     simp only[Bool.and_eq_true] at h2 ⊢
     refine⟨?_,h2.2⟩
     have h3:=h2.1
     cases hs:d.sl with
     | nil=>rw[hs] at h3;exact h3
     | cons a r=>rw[hs] at h3;exact dregF_ok h3
 | seq a b iha ihb=>
  have h:(codeF nt D a&&codeF nt D b)=true:=h
  show (codeB nt D a&&codeB nt D b)=true
  simp only[Bool.and_eq_true] at h ⊢
  exact⟨iha h.1,ihb h.2⟩
 | cond _ a b iha ihb=>
  have h:(codeF nt D a&&codeF nt D b)=true:=h
  show (codeB nt D a&&codeB nt D b)=true
  simp only[Bool.and_eq_true] at h ⊢
  exact⟨iha h.1,ihb h.2⟩
 | block _ a ih=>exact ih h
 | loop a ih=>exact ih h
 | scope a ih=>exact ih h
 | _=>rfl
end Go.Proofs.YtchhdflealgkaaaGreat
