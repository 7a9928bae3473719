import Derived.Test.YtdjkeplekchfdaaGreatPy19
import Derived.Test.YtdjkeplekchfdaaGreatPy29
namespace Go.Proofs.YtdjkeplekchfdaaGreat
open Go.RowKit
set_option linter.unusedSimpArgs false
set_option linter.unusedVariables false
set_option maxHeartbeats 1000000 in
theorem ldAdd_any (base:Nat) (A:Option Addr) (cp:Nat) (l:List Int) (i n:Int) (w:World) (hm:l.length≤1000) (hown:w.ownsRow base 3 1 (.slice A l.length cp) l.length (flat intC l))
  (hl:∀ z ∈ l,0≤z∧z≤1000000000) (hn:0≤n) (hn2:n≤1000000) :
  Calls Tryz.prog 147 #[.slice A l.length cp,.int .i64 i,.int .i64 n] w (fun e w'=>AddPost base A cp (addAt l i n) w e w'):=by
 have hlen:=addAt_len l i n
 by_cases hi:0≤i∧i<l.length
 ·obtain⟨h0,h1⟩:=hi
  obtain⟨k,rfl⟩:=Int.eq_ofNat_of_zero_le h0
  have hk:k<l.length:=by omega
  obtain⟨g,cap',hv,_,hlt⟩:=hown.form (by omega)
  simp only[Value.slice.injEq,true_and] at hv
  obtain⟨rfl,rfl⟩:=hv
  have c0:=hown.cellAt k (by omega)
  rw[flat_int,List.getElem?_map,List.getElem?_eq_getElem hk] at c0
  simp only[Option.map_some] at c0
  have f0:=hown.frozenAt k
  have hz:=hl l[k] (List.getElem_mem hk)
  have ha:addAt l k n=l.set k (l[k]+n):=by
   unfold addAt
   rw[if_pos ⟨h0,h1⟩,Int.toNat_natCast,getD_some (List.getElem?_eq_getElem hk)]
  have hst:=hown.stored k (.int .i64 (l[k]+n))
  rw[flat_int_set] at hst
  have hp:AddPost base (some ⟨g,0,none⟩) cp (addAt l k n) w (.returned (.tuple #[])) (w.setCell ⟨g,k,none⟩ (.int .i64 (l[k]+n))):=by
   refine⟨rfl,?_,?_⟩
   ·rw[hlen,ha];exact hst.1
   ·exact hst.2
  have HP:=Lib.hid hp
  clear hp hst ha hown hl hlen
  generalize l[k]=z at *
  go_enter Tryz.func147,Tryz.ntmps147
  go_wp2
  go_end0
  exact HP.out
 ·have ha:addAt l i n=l:=by unfold addAt;rw[if_neg hi]
  have hp:AddPost base A cp (addAt l i n) w (.returned (.tuple #[])) w:=by rw[ha];exact⟨rfl,hown,grown_refl _ _⟩
  have HP:=Lib.hid hp
  have hd:i<0∨(0≤i∧(l.length:Int)≤i):=by omega
  clear hp ha hown hl hlen hi
  rcases hd with hd | ⟨hd1,hd⟩
  all_goals
   go_enter Tryz.func147,Tryz.ntmps147
   go_wp2
   go_end0
   exact HP.out
set_option maxHeartbeats 1000000 in
theorem ldActive_any (t:TS) (w:World):Calls Tryz.prog 146 #[.agg (tsC t).toArray] w fun r w'=>r=.returned (.bool (t.placed&&!t.shed))∧Below w.heap.size w w':=by
 unfold tsC
 go_enter Tryz.func146,Tryz.ntmps146
 go_wp2
 all_goals
  go_ret
  refine⟨ret_bool ?_,(Below.refl _ _).alloc (Nat.le_refl _) _⟩
  go_light
  simp_all
set_option maxHeartbeats 1000000 in
theorem ldCount_any (x:CfgA) (c:Cfg) (y:StA) (s:St) (w:World) (hV:CfgV c) (hI:s.tenants.length=c.tenants.length) :
  Calls Tryz.prog 145 #[.agg (cfgC x c),.agg (stC y s)] w fun r w'=>r=.returned (.int .i64 s.tenants.length)∧Below w.heap.size w w':=by
 have hnt:=hV.nt
 obtain⟨az,cz,ac,cc,at_,ct,av,cv,ar,cr,ao,co⟩:=x
 obtain⟨sat,sct,sac,scc⟩:=y
 have HI:=Lib.hid hI
 unfold cfgC stC
 simp only
 rw[hI]
 clear hI hV
 generalize c.tenants.length=m at *
 go_enter Tryz.func145,Tryz.ntmps145
 go_wp2
 all_goals
  go_ret
  exact⟨rfl,((Below.refl _ _).alloc (Nat.le_refl _) _).alloc (by simp) _⟩
theorem tenSize7:(Tryz.prog.info? 85).map (·.size)=some 7:=by kernel_rfl
theorem tsSize12:(Tryz.prog.info? 73).map (·.size)=some 12:=by kernel_rfl
def BookRel (W:World) (c:Cfg) (s:St) (A:Option Addr) (cp:Nat) (gk:Nat) (si:Value) (wr:World):Prop:=
 ∃ k:Nat,gk+k=s.tenants.length∧si=.int .i64 k∧wr.ownsRow W.heap.size 3 1 (.slice A c.cells.length cp) c.cells.length (flat intC (bookK c s k))∧Below W.heap.size W wr
theorem ldAdd2 (m base:Nat) (A:Option Addr) (cp:Nat) (l:List Int) (i n:Int) (w:World) (hlm:l.length=m) (hm:m≤1000) (hown:w.ownsRow base 3 1 (.slice A m cp) m (flat intC l))
  (hl:∀ z ∈ l,0≤z∧z≤1000000000) (hn:0≤n) (hn2:n≤1000000) :
  Calls Tryz.prog 147 #[.slice A m cp,.int .i64 i,.int .i64 n] w (fun e w'=>e=.returned (.tuple #[])∧w'.ownsRow base 3 1 (.slice A m cp) m (flat intC (addAt l i n))∧w.grownBy w' (Value.slice A m cp).ownBlock):=by
 subst hlm
 refine (ldAdd_any base A cp l i n w hm hown hl hn hn2).mono ?_
 rintro e w' ⟨h1,h2,h3⟩
 rw[addAt_len] at h2 h3
 exact⟨h1,h2,h3⟩
theorem made_zeros (n:Nat):(madeCells #[Value.int IntKind.i64 0] n).toList=flat intC (List.replicate n 0):=by
 rw[flat_int,toList_madeCells_one]
 simp
set_option maxHeartbeats 8000000 in
set_option maxRecDepth 100000 in
theorem ldBooked_any (x:CfgA) (c:Cfg) (y:StA) (s:St) (w:World) (hV:CfgV c) (hc:CfgOk w (·<w.heap.size) x c) (hI:StInv c s) (hs:StOk w (·<w.heap.size) y s) :
  Calls Tryz.prog 114 #[.agg (cfgC x c),.agg (stC y s)] w (IntsPost w (booked c s)):=by
 obtain⟨ii,hii,hi0,hi1,hi2⟩:=info_parts r5intInfo
 have hnc:=hV.nc
 have hntt:=hV.nt
 have hlt0:=hI.lt
 have HLT:=Lib.hid hlt0
 clear hlt0
 obtain⟨az,cz,ac,cc,at_,ct,av,cv,ar,cr,ao,co⟩:=x
 have HV:=Lib.hid hV
 have HKc:=Lib.hid hc
 clear hV hc
 obtain⟨sat,sct,sac,scc⟩:=y
 have HKs:=Lib.hid hs
 have hsl:1≤s.cells.length∧s.cells.length≤16:=by have:=hI.lc;omega
 have hst:s.tenants.length≤32:=by have:=hI.lt;omega
 have HI:=Lib.hid hI
 clear hs hI
 have HC:=Lib.hid (fun W=>ldCount_any ⟨az,cz,ac,cc,at_,ct,av,cv,ar,cr,ao,co⟩ c ⟨sat,sct,sac,scc⟩ s W HV.out HLT.out)
 unfold cfgC stC at HC
 simp only at HC
 have hL:Below w.heap.size w ((w.alloc (.cells #[.int .i64 c.regions,.slice az c.zones.length cz,.slice ac c.cells.length cc,.slice at_ c.tenants.length ct,.slice av c.versions.length cv,.slice ar c.replicas.length cr,.slice ao c.observers.length co,.int .i64 c.blast,.int .i64 c.lease,.int .i64 c.bake] 36)).alloc (.cells #[.int .i64 s.tick,.int .i64 s.count,.slice sat s.tenants.length sct,.slice sac s.cells.length scc,.int .i64 s.proven,.int .i64 s.evac,.int .i64 s.low,.int .i64 s.high] 52)):=(((Below.refl w.heap.size w).alloc (by simp<;>omega) (.cells #[.int .i64 c.regions,.slice az c.zones.length cz,.slice ac c.cells.length cc,.slice at_ c.tenants.length ct,.slice av c.versions.length cv,.slice ar c.replicas.length cr,.slice ao c.observers.length co,.int .i64 c.blast,.int .i64 c.lease,.int .i64 c.bake] 36)).alloc (by simp<;>omega) (.cells #[.int .i64 s.tick,.int .i64 s.count,.slice sat s.tenants.length sct,.slice sac s.cells.length scc,.int .i64 s.proven,.int .i64 s.evac,.int .i64 s.low,.int .i64 s.high] 52))
 have hBc:Blk ((w.alloc (.cells #[.int .i64 c.regions,.slice az c.zones.length cz,.slice ac c.cells.length cc,.slice at_ c.tenants.length ct,.slice av c.versions.length cv,.slice ar c.replicas.length cr,.slice ao c.observers.length co,.int .i64 c.blast,.int .i64 c.lease,.int .i64 c.bake] 36)).alloc (.cells #[.int .i64 s.tick,.int .i64 s.count,.slice sat s.tenants.length sct,.slice sac s.cells.length scc,.int .i64 s.proven,.int .i64 s.evac,.int .i64 s.low,.int .i64 s.high] 52)) (w.heap.size) 36 #[.int .i64 c.regions,.slice az c.zones.length cz,.slice ac c.cells.length cc,.slice at_ c.tenants.length ct,.slice av c.versions.length cv,.slice ar c.replicas.length cr,.slice ao c.observers.length co,.int .i64 c.blast,.int .i64 c.lease,.int .i64 c.bake]:=by
  have:=((Blk.new w 36 #[.int .i64 c.regions,.slice az c.zones.length cz,.slice ac c.cells.length cc,.slice at_ c.tenants.length ct,.slice av c.versions.length cv,.slice ar c.replicas.length cr,.slice ao c.observers.length co,.int .i64 c.blast,.int .i64 c.lease,.int .i64 c.bake]).alloc (.cells #[.int .i64 s.tick,.int .i64 s.count,.slice sat s.tenants.length sct,.slice sac s.cells.length scc,.int .i64 s.proven,.int .i64 s.evac,.int .i64 s.low,.int .i64 s.high] 52))
  simpa using this
 have hBs:Blk ((w.alloc (.cells #[.int .i64 c.regions,.slice az c.zones.length cz,.slice ac c.cells.length cc,.slice at_ c.tenants.length ct,.slice av c.versions.length cv,.slice ar c.replicas.length cr,.slice ao c.observers.length co,.int .i64 c.blast,.int .i64 c.lease,.int .i64 c.bake] 36)).alloc (.cells #[.int .i64 s.tick,.int .i64 s.count,.slice sat s.tenants.length sct,.slice sac s.cells.length scc,.int .i64 s.proven,.int .i64 s.evac,.int .i64 s.low,.int .i64 s.high] 52)) (w.heap.size+1) 52 #[.int .i64 s.tick,.int .i64 s.count,.slice sat s.tenants.length sct,.slice sac s.cells.length scc,.int .i64 s.proven,.int .i64 s.evac,.int .i64 s.low,.int .i64 s.high]:=by
  have:=(Blk.new (w.alloc (.cells #[.int .i64 c.regions,.slice az c.zones.length cz,.slice ac c.cells.length cc,.slice at_ c.tenants.length ct,.slice av c.versions.length cv,.slice ar c.replicas.length cr,.slice ao c.observers.length co,.int .i64 c.blast,.int .i64 c.lease,.int .i64 c.bake] 36)) 52 #[.int .i64 s.tick,.int .i64 s.count,.slice sat s.tenants.length sct,.slice sac s.cells.length scc,.int .i64 s.proven,.int .i64 s.evac,.int .i64 s.low,.int .i64 s.high])
  simpa using this
 unfold cfgC stC
 simp only
 go_enter Tryz.func114,Tryz.ntmps114
 go_upto_region 1 with fail
 generalize (w.alloc _).alloc _=W at *
 have hgc:=hBc.lt
 have d0:=hBc.cell' (i:=0) (v:=.int .i64 c.regions) rfl
 have d1:=hBc.cell' (i:=1) (v:=.slice az c.zones.length cz) rfl
 have d2:=hBc.cell' (i:=2) (v:=.slice ac c.cells.length cc) rfl
 have d3:=hBc.cell' (i:=3) (v:=.slice at_ c.tenants.length ct) rfl
 have d4:=hBc.cell' (i:=4) (v:=.slice av c.versions.length cv) rfl
 have d5:=hBc.cell' (i:=5) (v:=.slice ar c.replicas.length cr) rfl
 have d6:=hBc.cell' (i:=6) (v:=.slice ao c.observers.length co) rfl
 have d7:=hBc.cell' (i:=7) (v:=.int .i64 c.blast) rfl
 have d8:=hBc.cell' (i:=8) (v:=.int .i64 c.lease) rfl
 have d9:=hBc.cell' (i:=9) (v:=.int .i64 c.bake) rfl
 clear hBc
 have hgs:=hBs.lt
 have su0:=hBs.cell' (i:=0) (v:=.int .i64 s.tick) rfl
 have su1:=hBs.cell' (i:=1) (v:=.int .i64 s.count) rfl
 have su2:=hBs.cell' (i:=2) (v:=.slice sat s.tenants.length sct) rfl
 have su3:=hBs.cell' (i:=3) (v:=.slice sac s.cells.length scc) rfl
 have su4:=hBs.cell' (i:=4) (v:=.int .i64 s.proven) rfl
 have su5:=hBs.cell' (i:=5) (v:=.int .i64 s.evac) rfl
 have su6:=hBs.cell' (i:=6) (v:=.int .i64 s.low) rfl
 have su7:=hBs.cell' (i:=7) (v:=.int .i64 s.high) rfl
 clear hBs
 have HL:=Lib.hid hL
 have HWc:=Lib.hid (HKc.out.belowW hL)
 have HWs:=Lib.hid (HKs.out.belowW hL)
 clear hL
 go_wp2_with (at_make;refine wpList_make_full W rfl _ _ _ rfl W.heap.size 3 ii _ 1 Tryz.underlying22 hii hi0 hi1 .i64 .i64 _ _ c.cells.length rfl rfl rfl rfl ?b1 ?b2 ?b3 ?_)
 case b1=>rw[hi2];omega
 case b2=>unfold maxLen;omega
 case b3=>exact Nat.le_refl _
 intro w1 hO1 hg1
 rw[made_zeros] at hO1
 have hB1:Below W.heap.size W w1:=(Below.refl _ _).grown hg1 (Nat.le_refl _) (by rintro _ ⟨⟩)
 have hlt1:=(hO1.lt W.heap.size rfl).2
 obtain⟨hc1,hf1⟩:=bcell hB1
 have HO1:=Lib.hid hO1
 have HB1:=Lib.hid hB1
 clear hO1 hg1 hB1 hf1
 go_wp2_with fail
 refine (HC.out _).mono ?_
 rintro r w2 ⟨rfl,hb2⟩
 have HO2:=Lib.hid (own_below HO1.out hb2 fun j hj=>(HO1.out.lt j hj).2)
 have HB2:=Lib.hid (HB1.out.trans (hb2.mono HB1.out.size))
 clear hb2 HO1 HB1 hc1 hlt1 HC
 go_wp2
 have hgr:∃ gr,gr=W.heap.size:=⟨_,rfl⟩
 obtain⟨gr,hgr⟩:=hgr
 go_loopg [16] s.tenants.length (fun gk si wr=>BookRel W c s (some ⟨W.heap.size,0,none⟩) c.cells.length gk si wr)
 case atStart=>exact⟨0,by omega,rfl,HO2.out,HB2.out⟩
 case round=>
  rename_i J K aJ aK
  obtain⟨k,hgk,rfl,hown,hbel⟩:=hrel
  have HO:=Lib.hid hown
  have HB:=Lib.hid hbel
  have hsz:=hbel.size
  have hszlt:W.heap.size<wr.heap.size:=(hown.lt W.heap.size rfl).2
  obtain⟨hcW,hfW⟩:=bcell hbel
  clear hown hbel hfW HO2 HB2
  by_cases hk:k<s.tenants.length
  ·have hlt:(k:Int)<(s.tenants.length:Int):=by omega
   have hk2:k<c.tenants.length:=by have:=HLT.out;omega
   have hlt2:(k:Int)<(c.tenants.length:Int):=by omega
   obtain⟨bt,oft,t,rfl,hbt,hzt,hct⟩:=HWs.out.tenants.row (enc:=tsC) (sz:=12) (fun _=>rfl) (by omega) hk
   obtain⟨bd,ofd,de,rfl,hbd,hzd,hcd⟩:=HWc.out.tenants.row (enc:=tenC) (sz:=7) (fun _=>rfl) (by omega) hk2
   have hbtW:bt<W.heap.size:=hbt
   have hbdW:bd<W.heap.size:=hbd
   have hbt2:bt<wr.heap.size:=Nat.lt_of_lt_of_le hbt hsz
   have hbd2:bd<wr.heap.size:=Nat.lt_of_lt_of_le hbd hsz
   have hgc2:w.heap.size<wr.heap.size:=Nat.lt_of_lt_of_le hgc hsz
   have hgs2:w.heap.size+1<wr.heap.size:=Nat.lt_of_lt_of_le hgs hsz
   have t0:=hct 0 (.bool t.placed) rfl
   have t1:=hct 1 (.bool t.shed) rfl
   have t2:=hct 2 (.int .i64 t.home) rfl
   have t3:=hct 3 (.int .i64 t.standby) rfl
   have t4:=hct 4 (.int .i64 t.next) rfl
   have t5:=hct 5 (.int .i64 t.target) rfl
   have t6:=hct 6 (.int .i64 t.epoch) rfl
   have t7:=hct 7 (.int .i64 t.win.cell) rfl
   have t8:=hct 8 (.int .i64 t.win.epoch) rfl
   have t9:=hct 9 (.int .i64 t.win.version) rfl
   have t10:=hct 10 (.int .i64 t.win.since) rfl
   have t11:=hct 11 (.int .i64 t.win.till) rfl
   have y0:=hcd 0 (.int .i64 de.load) rfl
   have y1:=hcd 1 (.int .i64 de.shadow) rfl
   have y2:=hcd 2 (.int .i64 de.prio) rfl
   have y3:=hcd 3 (.int .i64 de.lag) rfl
   have y4:=hcd 4 (.int .i64 de.allowed) rfl
   have y5:=hcd 5 (.int .i64 de.group) rfl
   have y6:=hcd 6 (.bool de.noisy) rfl
   simp only[Nat.add_zero] at t0 y0
   have hdb:=tenAt_bd HV.out hzd
   have HS:=Lib.hid (bookK_succ hzt hzd)
   have HWI:=Lib.hid (bookK_within HV.out s k)
   clear hct hcd hzt hzd hbt hbd
   go_upto_region 5 with fail
   go_cut [7,8,16] from 16 to 58 (fun v7 v8 v16 wx=>v16=.int .i64 k∧∃ ga gb,v7=.pointer (some ⟨ga,0,none⟩)∧v8=.pointer (some ⟨gb,0,none⟩)∧TwoC wr 85 73 #[.int .i64 de.load,.int .i64 de.shadow,.int .i64 de.prio,.int .i64 de.lag,.int .i64 de.allowed,.int .i64 de.group,.bool de.noisy] #[.bool t.placed,.bool t.shed,.int .i64 t.home,.int .i64 t.standby,.int .i64 t.next,.int .i64 t.target,.int .i64 t.epoch,.int .i64 t.win.cell,.int .i64 t.win.epoch,.int .i64 t.win.version,.int .i64 t.win.since,.int .i64 t.win.till] ga gb wx∧wr.heap.size≤ga∧wr.heap.size≤gb)
   case first=>
    refine wp_region_seqI (fun w':World=>Below wr.heap.size wr w') 13 [0,1,2,3,4,5,6,7,8,9] [10,11,12] (fun i=>if i=12 then [10,11] else []) (by kernel_rfl) (by kernel_rfl) (Below.refl _ _).drew ?_
    simp only[List.take_succ_cons,List.take_zero,List.drop_succ_cons,List.drop_zero]
    repeat (refine wpSeqI_fix _ ?_ rfl (by first | exact fun _ _ _ h=>h | exact fun _ _ _ h=>hpan _ _ _ _ _ h) (Or.inl ⟨by rfl,?_⟩) ?_;rotate_left;(intro w' hSw;(try dsimp only at hSw);obtain⟨hc,hf⟩:=bcell hSw;clear hf hSw;go_simp;(try with_reducible rfl));(simp only[List.getElem_toArray,List.getElem_cons_zero,List.getElem_cons_succ,Act.put,List.setIfInBounds_toArray,List.set_cons_zero,List.set_cons_succ]))
    refine wpSeqI_acts (fun a0 d a wx=>∃ va vb ga gb,a=((a0.put (some 7) va).put (some 8) vb)∧TwoJ wr 85 73 #[.int .i64 0,.int .i64 0,.int .i64 0,.int .i64 0,.int .i64 0,.int .i64 0,.bool false] #[.int .i64 de.load,.int .i64 de.shadow,.int .i64 de.prio,.int .i64 de.lag,.int .i64 de.allowed,.int .i64 de.group,.bool de.noisy] #[.bool false,.bool false,.int .i64 0,.int .i64 0,.int .i64 0,.int .i64 0,.int .i64 0,.int .i64 0,.int .i64 0,.int .i64 0,.int .i64 0,.int .i64 0] 10 11 12 d va vb ga gb wx) ?j1 ?j2 ?j3
    case j1=>
     intro d hd
     refine⟨_,_,0,0,rfl,TwoJ.start (Below.refl _ _).drew (hd 10 (by simp)) (hd 11 (by simp)) (hd 12 (by simp))⟩
    case j2=>
     refine acts_cons (actStep_op rfl rfl ?s10) (acts_cons (actStep_op rfl rfl ?s11) (acts_cons (actStep_op rfl rfl ?s12) acts_nil))
     case s10=>
      rintro d a wx h0 hp hS ⟨va,vb,ga,gb,rfl,hJ⟩
      have HJ:=Lib.hid (hJ.allocA h0 (by decide) (by decide))
      clear hJ hS hp h0
      simp only[List.getElem_toArray,List.getElem_cons_zero,List.getElem_cons_succ,Act.put,List.setIfInBounds_toArray,List.set_cons_zero,List.set_cons_succ]
      go_simp
      exact⟨HJ.out.below,_,_,⟨rfl,rfl⟩,_,gb,HJ.out⟩
     case s11=>
      rintro d a wx h0 hp hS ⟨va,vb,ga,gb,rfl,hJ⟩
      have HJ:=Lib.hid (hJ.allocB (by decide) (by decide))
      clear hJ hS hp h0
      simp only[List.getElem_toArray,List.getElem_cons_zero,List.getElem_cons_succ,Act.put,List.setIfInBounds_toArray,List.set_cons_zero,List.set_cons_succ]
      go_simp
      exact⟨HJ.out.below,_,_,⟨rfl,rfl⟩,ga,_,HJ.out⟩
     case s12=>
      rintro d a wx h0 hp hS ⟨va,vb,ga,gb,rfl,hJ⟩
      have HJ:=Lib.hid (hJ.storeA (hp 10 (by simp)) (hp 11 (by simp)) (by decide) (by decide) (putL_full rfl) (putL_full rfl))
      obtain⟨rfl,hk,hle⟩:=hJ.a (hp 10 (by simp))
      clear hJ hS hp h0
      simp only[List.getElem_toArray,List.getElem_cons_zero,List.getElem_cons_succ,Act.put,List.setIfInBounds_toArray,List.set_cons_zero,List.set_cons_succ]
      refine wp_store_mid _ _ _ (by rfl) ga 0 #[.int .i64 de.load,.int .i64 de.shadow,.int .i64 de.prio,.int .i64 de.lag,.int .i64 de.allowed,.int .i64 de.group,.bool de.noisy] (by go_simp) (by go_simp) (hk.there 0 7 (by split<;>simp)) tenSize7 (by simp[Value.oneCell']) ?_
      refine⟨HJ.out.below,?_⟩
      go_simp
      exact⟨_,_,⟨rfl,rfl⟩,ga,gb,HJ.out⟩
    case j3=>
     rintro d a wx hp hS ⟨va,vb,ga,gb,rfl,hJ⟩
     obtain⟨rfl,hka,hla⟩:=hJ.a (hp 10 (by simp))
     obtain⟨rfl,hkb,hlb⟩:=hJ.b (hp 11 (by simp))
     have HJ:=Lib.hid (hJ.done1 (FB:=#[.bool t.placed,.bool t.shed,.int .i64 t.home,.int .i64 t.standby,.int .i64 t.next,.int .i64 t.target,.int .i64 t.epoch,.int .i64 t.win.cell,.int .i64 t.win.epoch,.int .i64 t.win.version,.int .i64 t.win.since,.int .i64 t.win.till]) (hp 10 (by simp)) (hp 11 (by simp)) (hp 12 (by simp)) (putL_full rfl))
     clear hJ hS hp
     simp only[List.getElem_toArray,List.getElem_cons_zero,List.getElem_cons_succ,Act.put,List.setIfInBounds_toArray,List.set_cons_zero,List.set_cons_succ,thenK]
     refine wpList_store_mid (by rfl) _ _ _ (by rfl) gb 0 #[.bool t.placed,.bool t.shed,.int .i64 t.home,.int .i64 t.standby,.int .i64 t.next,.int .i64 t.target,.int .i64 t.epoch,.int .i64 t.win.cell,.int .i64 t.win.epoch,.int .i64 t.win.version,.int .i64 t.win.since,.int .i64 t.win.till] (by go_simp) (by go_simp) (hkb.there 0 12 (by simp)) tsSize12 (by simp[Value.oneCell']) ?_
     go_wp2
     go_meet
     exact⟨rfl,ga,gb,rfl,rfl,HJ.out,hla,hlb⟩
   case rest=>
    obtain⟨rfl,ga,gb,rfl,rfl,hC,hC2⟩:=hcut
    have hA:=hC.a
    have hBk:=hC.b
    replace HO:=Lib.hid (own_below HO.out hC.below fun j hj=>(HO.out.lt j hj).2)
    replace HB:=Lib.hid (HB.out.trans (hC.below.mono hsz))
    have hga:W.heap.size<ga:=Nat.lt_of_lt_of_le hszlt hC2.1
    have hgb:W.heap.size<gb:=Nat.lt_of_lt_of_le hszlt hC2.2
    clear t0 t1 t2 t3 t4 t5 t6 t7 t8 t9 t10 t11 y0 y1 y2 y3 y4 y5 y6 hcW hC hbt2 hbd2 hgc2 hgs2 hbtW hbdW hsz
    have p0:=hA.cell' (i:=0) (v:=.int .i64 de.load) rfl
    have p1:=hA.cell' (i:=1) (v:=.int .i64 de.shadow) rfl
    have q0:=hBk.cell' (i:=0) (v:=.bool t.placed) rfl
    have q1:=hBk.cell' (i:=1) (v:=.bool t.shed) rfl
    have q2:=hBk.cell' (i:=2) (v:=.int .i64 t.home) rfl
    have q3:=hBk.cell' (i:=3) (v:=.int .i64 t.standby) rfl
    have q4:=hBk.cell' (i:=4) (v:=.int .i64 t.next) rfl
    have q5:=hBk.cell' (i:=5) (v:=.int .i64 t.target) rfl
    have q6:=hBk.cell' (i:=6) (v:=.int .i64 t.epoch) rfl
    have q7:=hBk.cell' (i:=7) (v:=.int .i64 t.win.cell) rfl
    have q8:=hBk.cell' (i:=8) (v:=.int .i64 t.win.epoch) rfl
    have q9:=hBk.cell' (i:=9) (v:=.int .i64 t.win.version) rfl
    have q10:=hBk.cell' (i:=10) (v:=.int .i64 t.win.since) rfl
    have q11:=hBk.cell' (i:=11) (v:=.int .i64 t.win.till) rfl
    have hw0:=HWI.out
    cases hpl:t.placed
    ·have HE:Hid (bookK c s (k+1)=bookK c s k):=Lib.hid (by rw[HS.out];unfold bookT;rw[if_pos hpl])
     rw[hpl] at q0
     go_wp2
     go_roundg (gk-1)
     case measure=>omega
     case rel=>exact⟨k+1,by omega,by go_num,by rw[HE.out];exact HO.out,HB.out⟩
    ·have HAC:=Lib.hid (fun W=>ldActive_any t W)
     unfold tsC at HAC
     rw[hpl] at HAC
     go_wp2_with fail
     refine (HAC.out _).mono ?_
     rintro r wn ⟨rfl,hbn⟩
     clear HAC
     replace HO:=Lib.hid (own_below HO.out hbn fun j hj=>(HO.out.lt j hj).2)
     replace HB:=Lib.hid (HB.out.trans (hbn.mono HB.out.size))
     replace hA:=hA.below hbn hA.lt
     replace hBk:=hBk.below hbn hBk.lt
     clear hbn
     replace p0:=hA.cell' (i:=0) (v:=.int .i64 de.load) rfl
     replace p1:=hA.cell' (i:=1) (v:=.int .i64 de.shadow) rfl
     replace q0:=hBk.cell' (i:=0) (v:=.bool t.placed) rfl
     replace q1:=hBk.cell' (i:=1) (v:=.bool t.shed) rfl
     replace q2:=hBk.cell' (i:=2) (v:=.int .i64 t.home) rfl
     replace q3:=hBk.cell' (i:=3) (v:=.int .i64 t.standby) rfl
     replace q4:=hBk.cell' (i:=4) (v:=.int .i64 t.next) rfl
     replace q5:=hBk.cell' (i:=5) (v:=.int .i64 t.target) rfl
     replace q6:=hBk.cell' (i:=6) (v:=.int .i64 t.epoch) rfl
     replace q7:=hBk.cell' (i:=7) (v:=.int .i64 t.win.cell) rfl
     replace q8:=hBk.cell' (i:=8) (v:=.int .i64 t.win.epoch) rfl
     replace q9:=hBk.cell' (i:=9) (v:=.int .i64 t.win.version) rfl
     replace q10:=hBk.cell' (i:=10) (v:=.int .i64 t.win.since) rfl
     replace q11:=hBk.cell' (i:=11) (v:=.int .i64 t.win.till) rfl
     cases hsh:t.shed
     ·have HE:Hid (bookK c s (k+1)=addAt (addAt (addAt (addAt (bookK c s k) t.home de.load) t.target de.load) t.standby de.shadow) t.next de.shadow):=Lib.hid (by rw[HS.out];unfold bookT;rw[if_neg (by simp[hpl]),if_neg (by simp[hsh])])
      have hw1:=hw0.add (n:=de.load) (by omega) t.home
      have hw2:=hw1.add (n:=de.load) (by omega) t.target
      have hw3:=hw2.add (n:=de.shadow) (by omega) t.standby
      go_wp2_with fail
      refine (ldAdd2 c.cells.length W.heap.size (some ⟨W.heap.size,0,none⟩) c.cells.length (bookK c s k) t.home de.load _ (by (try simp only[addAt_len]);exact bookK_len _ _ _) (by omega) HO.out (by intro z hz;have:=hw0 z hz;omega) (by omega) (by omega)).mono ?_
      rintro r wn ⟨rfl,hOn,hgn⟩
      replace HB:=Lib.hid (HB.out.grown hgn HB.out.size (by rintro _ ⟨⟩;exact Nat.le_refl _))
      replace HO:=Lib.hid hOn
      replace hA:=hA.grown hgn (by intro q;have q2:ga=W.heap.size:=Option.some.inj q;omega)
      replace hBk:=hBk.grown hgn (by intro q;have q2:gb=W.heap.size:=Option.some.inj q;omega)
      clear hOn hgn
      replace p0:=hA.cell' (i:=0) (v:=.int .i64 de.load) rfl
      replace p1:=hA.cell' (i:=1) (v:=.int .i64 de.shadow) rfl
      replace q0:=hBk.cell' (i:=0) (v:=.bool t.placed) rfl
      replace q1:=hBk.cell' (i:=1) (v:=.bool t.shed) rfl
      replace q2:=hBk.cell' (i:=2) (v:=.int .i64 t.home) rfl
      replace q3:=hBk.cell' (i:=3) (v:=.int .i64 t.standby) rfl
      replace q4:=hBk.cell' (i:=4) (v:=.int .i64 t.next) rfl
      replace q5:=hBk.cell' (i:=5) (v:=.int .i64 t.target) rfl
      replace q6:=hBk.cell' (i:=6) (v:=.int .i64 t.epoch) rfl
      replace q7:=hBk.cell' (i:=7) (v:=.int .i64 t.win.cell) rfl
      replace q8:=hBk.cell' (i:=8) (v:=.int .i64 t.win.epoch) rfl
      replace q9:=hBk.cell' (i:=9) (v:=.int .i64 t.win.version) rfl
      replace q10:=hBk.cell' (i:=10) (v:=.int .i64 t.win.since) rfl
      replace q11:=hBk.cell' (i:=11) (v:=.int .i64 t.win.till) rfl
      go_wp2_with fail
      refine (ldAdd2 c.cells.length W.heap.size (some ⟨W.heap.size,0,none⟩) c.cells.length (addAt (bookK c s k) t.home de.load) t.target de.load _ (by (try simp only[addAt_len]);exact bookK_len _ _ _) (by omega) HO.out (by intro z hz;have:=hw1 z hz;omega) (by omega) (by omega)).mono ?_
      rintro r wn ⟨rfl,hOn,hgn⟩
      replace HB:=Lib.hid (HB.out.grown hgn HB.out.size (by rintro _ ⟨⟩;exact Nat.le_refl _))
      replace HO:=Lib.hid hOn
      replace hA:=hA.grown hgn (by intro q;have q2:ga=W.heap.size:=Option.some.inj q;omega)
      replace hBk:=hBk.grown hgn (by intro q;have q2:gb=W.heap.size:=Option.some.inj q;omega)
      clear hOn hgn
      replace p0:=hA.cell' (i:=0) (v:=.int .i64 de.load) rfl
      replace p1:=hA.cell' (i:=1) (v:=.int .i64 de.shadow) rfl
      replace q0:=hBk.cell' (i:=0) (v:=.bool t.placed) rfl
      replace q1:=hBk.cell' (i:=1) (v:=.bool t.shed) rfl
      replace q2:=hBk.cell' (i:=2) (v:=.int .i64 t.home) rfl
      replace q3:=hBk.cell' (i:=3) (v:=.int .i64 t.standby) rfl
      replace q4:=hBk.cell' (i:=4) (v:=.int .i64 t.next) rfl
      replace q5:=hBk.cell' (i:=5) (v:=.int .i64 t.target) rfl
      replace q6:=hBk.cell' (i:=6) (v:=.int .i64 t.epoch) rfl
      replace q7:=hBk.cell' (i:=7) (v:=.int .i64 t.win.cell) rfl
      replace q8:=hBk.cell' (i:=8) (v:=.int .i64 t.win.epoch) rfl
      replace q9:=hBk.cell' (i:=9) (v:=.int .i64 t.win.version) rfl
      replace q10:=hBk.cell' (i:=10) (v:=.int .i64 t.win.since) rfl
      replace q11:=hBk.cell' (i:=11) (v:=.int .i64 t.win.till) rfl
      go_wp2_with fail
      refine (ldAdd2 c.cells.length W.heap.size (some ⟨W.heap.size,0,none⟩) c.cells.length (addAt (addAt (bookK c s k) t.home de.load) t.target de.load) t.standby de.shadow _ (by (try simp only[addAt_len]);exact bookK_len _ _ _) (by omega) HO.out (by intro z hz;have:=hw2 z hz;omega) (by omega) (by omega)).mono ?_
      rintro r wn ⟨rfl,hOn,hgn⟩
      replace HB:=Lib.hid (HB.out.grown hgn HB.out.size (by rintro _ ⟨⟩;exact Nat.le_refl _))
      replace HO:=Lib.hid hOn
      replace hA:=hA.grown hgn (by intro q;have q2:ga=W.heap.size:=Option.some.inj q;omega)
      replace hBk:=hBk.grown hgn (by intro q;have q2:gb=W.heap.size:=Option.some.inj q;omega)
      clear hOn hgn
      replace p0:=hA.cell' (i:=0) (v:=.int .i64 de.load) rfl
      replace p1:=hA.cell' (i:=1) (v:=.int .i64 de.shadow) rfl
      replace q0:=hBk.cell' (i:=0) (v:=.bool t.placed) rfl
      replace q1:=hBk.cell' (i:=1) (v:=.bool t.shed) rfl
      replace q2:=hBk.cell' (i:=2) (v:=.int .i64 t.home) rfl
      replace q3:=hBk.cell' (i:=3) (v:=.int .i64 t.standby) rfl
      replace q4:=hBk.cell' (i:=4) (v:=.int .i64 t.next) rfl
      replace q5:=hBk.cell' (i:=5) (v:=.int .i64 t.target) rfl
      replace q6:=hBk.cell' (i:=6) (v:=.int .i64 t.epoch) rfl
      replace q7:=hBk.cell' (i:=7) (v:=.int .i64 t.win.cell) rfl
      replace q8:=hBk.cell' (i:=8) (v:=.int .i64 t.win.epoch) rfl
      replace q9:=hBk.cell' (i:=9) (v:=.int .i64 t.win.version) rfl
      replace q10:=hBk.cell' (i:=10) (v:=.int .i64 t.win.since) rfl
      replace q11:=hBk.cell' (i:=11) (v:=.int .i64 t.win.till) rfl
      go_wp2_with fail
      refine (ldAdd2 c.cells.length W.heap.size (some ⟨W.heap.size,0,none⟩) c.cells.length (addAt (addAt (addAt (bookK c s k) t.home de.load) t.target de.load) t.standby de.shadow) t.next de.shadow _ (by (try simp only[addAt_len]);exact bookK_len _ _ _) (by omega) HO.out (by intro z hz;have:=hw3 z hz;omega) (by omega) (by omega)).mono ?_
      rintro r wn ⟨rfl,hOn,hgn⟩
      replace HB:=Lib.hid (HB.out.grown hgn HB.out.size (by rintro _ ⟨⟩;exact Nat.le_refl _))
      replace HO:=Lib.hid hOn
      replace hA:=hA.grown hgn (by intro q;have q2:ga=W.heap.size:=Option.some.inj q;omega)
      replace hBk:=hBk.grown hgn (by intro q;have q2:gb=W.heap.size:=Option.some.inj q;omega)
      clear hOn hgn
      replace p0:=hA.cell' (i:=0) (v:=.int .i64 de.load) rfl
      replace p1:=hA.cell' (i:=1) (v:=.int .i64 de.shadow) rfl
      replace q0:=hBk.cell' (i:=0) (v:=.bool t.placed) rfl
      replace q1:=hBk.cell' (i:=1) (v:=.bool t.shed) rfl
      replace q2:=hBk.cell' (i:=2) (v:=.int .i64 t.home) rfl
      replace q3:=hBk.cell' (i:=3) (v:=.int .i64 t.standby) rfl
      replace q4:=hBk.cell' (i:=4) (v:=.int .i64 t.next) rfl
      replace q5:=hBk.cell' (i:=5) (v:=.int .i64 t.target) rfl
      replace q6:=hBk.cell' (i:=6) (v:=.int .i64 t.epoch) rfl
      replace q7:=hBk.cell' (i:=7) (v:=.int .i64 t.win.cell) rfl
      replace q8:=hBk.cell' (i:=8) (v:=.int .i64 t.win.epoch) rfl
      replace q9:=hBk.cell' (i:=9) (v:=.int .i64 t.win.version) rfl
      replace q10:=hBk.cell' (i:=10) (v:=.int .i64 t.win.since) rfl
      replace q11:=hBk.cell' (i:=11) (v:=.int .i64 t.win.till) rfl
      go_wp2
      go_roundg (gk-1)
      case measure=>omega
      case rel=>exact⟨k+1,by omega,by go_num,by rw[HE.out];exact HO.out,HB.out⟩
     ·have HE:Hid (bookK c s (k+1)=addAt (addAt (bookK c s k) t.standby de.shadow) t.next de.shadow):=Lib.hid (by rw[HS.out];unfold bookT;rw[if_neg (by simp[hpl]),if_pos hsh])
      have hw1:=hw0.add (n:=de.shadow) (by omega) t.standby
      go_wp2_with fail
      refine (ldAdd2 c.cells.length W.heap.size (some ⟨W.heap.size,0,none⟩) c.cells.length (bookK c s k) t.standby de.shadow _ (by (try simp only[addAt_len]);exact bookK_len _ _ _) (by omega) HO.out (by intro z hz;have:=hw0 z hz;omega) (by omega) (by omega)).mono ?_
      rintro r wn ⟨rfl,hOn,hgn⟩
      replace HB:=Lib.hid (HB.out.grown hgn HB.out.size (by rintro _ ⟨⟩;exact Nat.le_refl _))
      replace HO:=Lib.hid hOn
      replace hA:=hA.grown hgn (by intro q;have q2:ga=W.heap.size:=Option.some.inj q;omega)
      replace hBk:=hBk.grown hgn (by intro q;have q2:gb=W.heap.size:=Option.some.inj q;omega)
      clear hOn hgn
      replace p0:=hA.cell' (i:=0) (v:=.int .i64 de.load) rfl
      replace p1:=hA.cell' (i:=1) (v:=.int .i64 de.shadow) rfl
      replace q0:=hBk.cell' (i:=0) (v:=.bool t.placed) rfl
      replace q1:=hBk.cell' (i:=1) (v:=.bool t.shed) rfl
      replace q2:=hBk.cell' (i:=2) (v:=.int .i64 t.home) rfl
      replace q3:=hBk.cell' (i:=3) (v:=.int .i64 t.standby) rfl
      replace q4:=hBk.cell' (i:=4) (v:=.int .i64 t.next) rfl
      replace q5:=hBk.cell' (i:=5) (v:=.int .i64 t.target) rfl
      replace q6:=hBk.cell' (i:=6) (v:=.int .i64 t.epoch) rfl
      replace q7:=hBk.cell' (i:=7) (v:=.int .i64 t.win.cell) rfl
      replace q8:=hBk.cell' (i:=8) (v:=.int .i64 t.win.epoch) rfl
      replace q9:=hBk.cell' (i:=9) (v:=.int .i64 t.win.version) rfl
      replace q10:=hBk.cell' (i:=10) (v:=.int .i64 t.win.since) rfl
      replace q11:=hBk.cell' (i:=11) (v:=.int .i64 t.win.till) rfl
      go_wp2_with fail
      refine (ldAdd2 c.cells.length W.heap.size (some ⟨W.heap.size,0,none⟩) c.cells.length (addAt (bookK c s k) t.standby de.shadow) t.next de.shadow _ (by (try simp only[addAt_len]);exact bookK_len _ _ _) (by omega) HO.out (by intro z hz;have:=hw1 z hz;omega) (by omega) (by omega)).mono ?_
      rintro r wn ⟨rfl,hOn,hgn⟩
      replace HB:=Lib.hid (HB.out.grown hgn HB.out.size (by rintro _ ⟨⟩;exact Nat.le_refl _))
      replace HO:=Lib.hid hOn
      replace hA:=hA.grown hgn (by intro q;have q2:ga=W.heap.size:=Option.some.inj q;omega)
      replace hBk:=hBk.grown hgn (by intro q;have q2:gb=W.heap.size:=Option.some.inj q;omega)
      clear hOn hgn
      replace p0:=hA.cell' (i:=0) (v:=.int .i64 de.load) rfl
      replace p1:=hA.cell' (i:=1) (v:=.int .i64 de.shadow) rfl
      replace q0:=hBk.cell' (i:=0) (v:=.bool t.placed) rfl
      replace q1:=hBk.cell' (i:=1) (v:=.bool t.shed) rfl
      replace q2:=hBk.cell' (i:=2) (v:=.int .i64 t.home) rfl
      replace q3:=hBk.cell' (i:=3) (v:=.int .i64 t.standby) rfl
      replace q4:=hBk.cell' (i:=4) (v:=.int .i64 t.next) rfl
      replace q5:=hBk.cell' (i:=5) (v:=.int .i64 t.target) rfl
      replace q6:=hBk.cell' (i:=6) (v:=.int .i64 t.epoch) rfl
      replace q7:=hBk.cell' (i:=7) (v:=.int .i64 t.win.cell) rfl
      replace q8:=hBk.cell' (i:=8) (v:=.int .i64 t.win.epoch) rfl
      replace q9:=hBk.cell' (i:=9) (v:=.int .i64 t.win.version) rfl
      replace q10:=hBk.cell' (i:=10) (v:=.int .i64 t.win.since) rfl
      replace q11:=hBk.cell' (i:=11) (v:=.int .i64 t.win.till) rfl
      go_wp2
      go_roundg (gk-1)
      case measure=>omega
      case rel=>exact⟨k+1,by omega,by go_num,by rw[HE.out];exact HO.out,HB.out⟩
  ·have hge:¬ (k:Int)<(s.tenants.length:Int):=by omega
   obtain rfl:k=s.tenants.length:=by omega
   have HE:Hid (bookK c s s.tenants.length=booked c s):=Lib.hid (bookK_all c s (Nat.le_refl _))
   have HEL:Hid ((booked c s).length=c.cells.length):=Lib.hid (by rw[← HE.out];exact bookK_len _ _ _)
   go_wp2
   go_ret
   refine⟨some ⟨W.heap.size,0,none⟩,c.cells.length,?_,?_,HL.out.trans (HB.out.mono (Nat.le_of_lt hgc))⟩
   ·rw[HEL.out];rfl
   ·rw[HEL.out,← HE.out]
    exact own_base HO.out (Nat.le_of_lt hgc)
def overP (c:Cfg) (s:St) (k:Nat):Bool:=decide ((c.cells.getD k (0,0)).2<(booked c s).getD k 0)
theorem over_pick (c:Cfg) (s:St):over c s=pickK (overP c s) c.cells.length:=rfl
theorem booked_len (c:Cfg) (s:St):(booked c s).length=c.cells.length:=by rw[← bookK_all c s (Nat.le_refl _)];exact bookK_len _ _ _
set_option maxHeartbeats 4000000 in
set_option maxRecDepth 100000 in
theorem ldOver_any (x:CfgA) (c:Cfg) (y:StA) (s:St) (w:World) (hV:CfgV c) (hc:CfgOk w (·<w.heap.size) x c) (hI:StInv c s) (hs:StOk w (·<w.heap.size) y s) :
  Calls Tryz.prog 53 #[.agg (cfgC x c),.agg (stC y s)] w (IntsPost w (over c s)):=by
 rw[over_pick]
 obtain⟨ii,hii,hi0,hi1,hi2⟩:=info_parts r5intInfo
 have hnc:=hV.nc
 have hntt:=hV.nt
 have hbl:=booked_len c s
 obtain⟨az,cz,ac,cc,at_,ct,av,cv,ar,cr,ao,co⟩:=x
 have HV:=Lib.hid hV
 have HKc:=Lib.hid hc
 clear hV hc
 obtain⟨sat,sct,sac,scc⟩:=y
 have HKs:=Lib.hid hs
 have hsl:1≤s.cells.length∧s.cells.length≤16:=by have:=hI.lc;omega
 have hst:s.tenants.length≤32:=by have:=hI.lt;omega
 have HI:=Lib.hid hI
 clear hs hI
 obtain⟨pd,hpd⟩:∃ pd:Nat→Bool,pd=overP c s:=⟨_,rfl⟩
 have HP:=Lib.hid hpd
 rw[← hpd]
 clear hpd
 have hL:Below w.heap.size w ((w.alloc (.cells #[.int .i64 c.regions,.slice az c.zones.length cz,.slice ac c.cells.length cc,.slice at_ c.tenants.length ct,.slice av c.versions.length cv,.slice ar c.replicas.length cr,.slice ao c.observers.length co,.int .i64 c.blast,.int .i64 c.lease,.int .i64 c.bake] 36)).alloc (.cells #[.int .i64 s.tick,.int .i64 s.count,.slice sat s.tenants.length sct,.slice sac s.cells.length scc,.int .i64 s.proven,.int .i64 s.evac,.int .i64 s.low,.int .i64 s.high] 52)):=(((Below.refl w.heap.size w).alloc (by simp<;>omega) (.cells #[.int .i64 c.regions,.slice az c.zones.length cz,.slice ac c.cells.length cc,.slice at_ c.tenants.length ct,.slice av c.versions.length cv,.slice ar c.replicas.length cr,.slice ao c.observers.length co,.int .i64 c.blast,.int .i64 c.lease,.int .i64 c.bake] 36)).alloc (by simp<;>omega) (.cells #[.int .i64 s.tick,.int .i64 s.count,.slice sat s.tenants.length sct,.slice sac s.cells.length scc,.int .i64 s.proven,.int .i64 s.evac,.int .i64 s.low,.int .i64 s.high] 52))
 have hBc:Blk ((w.alloc (.cells #[.int .i64 c.regions,.slice az c.zones.length cz,.slice ac c.cells.length cc,.slice at_ c.tenants.length ct,.slice av c.versions.length cv,.slice ar c.replicas.length cr,.slice ao c.observers.length co,.int .i64 c.blast,.int .i64 c.lease,.int .i64 c.bake] 36)).alloc (.cells #[.int .i64 s.tick,.int .i64 s.count,.slice sat s.tenants.length sct,.slice sac s.cells.length scc,.int .i64 s.proven,.int .i64 s.evac,.int .i64 s.low,.int .i64 s.high] 52)) (w.heap.size) 36 #[.int .i64 c.regions,.slice az c.zones.length cz,.slice ac c.cells.length cc,.slice at_ c.tenants.length ct,.slice av c.versions.length cv,.slice ar c.replicas.length cr,.slice ao c.observers.length co,.int .i64 c.blast,.int .i64 c.lease,.int .i64 c.bake]:=by
  have:=((Blk.new w 36 #[.int .i64 c.regions,.slice az c.zones.length cz,.slice ac c.cells.length cc,.slice at_ c.tenants.length ct,.slice av c.versions.length cv,.slice ar c.replicas.length cr,.slice ao c.observers.length co,.int .i64 c.blast,.int .i64 c.lease,.int .i64 c.bake]).alloc (.cells #[.int .i64 s.tick,.int .i64 s.count,.slice sat s.tenants.length sct,.slice sac s.cells.length scc,.int .i64 s.proven,.int .i64 s.evac,.int .i64 s.low,.int .i64 s.high] 52))
  simpa using this
 have hBs:Blk ((w.alloc (.cells #[.int .i64 c.regions,.slice az c.zones.length cz,.slice ac c.cells.length cc,.slice at_ c.tenants.length ct,.slice av c.versions.length cv,.slice ar c.replicas.length cr,.slice ao c.observers.length co,.int .i64 c.blast,.int .i64 c.lease,.int .i64 c.bake] 36)).alloc (.cells #[.int .i64 s.tick,.int .i64 s.count,.slice sat s.tenants.length sct,.slice sac s.cells.length scc,.int .i64 s.proven,.int .i64 s.evac,.int .i64 s.low,.int .i64 s.high] 52)) (w.heap.size+1) 52 #[.int .i64 s.tick,.int .i64 s.count,.slice sat s.tenants.length sct,.slice sac s.cells.length scc,.int .i64 s.proven,.int .i64 s.evac,.int .i64 s.low,.int .i64 s.high]:=by
  have:=(Blk.new (w.alloc (.cells #[.int .i64 c.regions,.slice az c.zones.length cz,.slice ac c.cells.length cc,.slice at_ c.tenants.length ct,.slice av c.versions.length cv,.slice ar c.replicas.length cr,.slice ao c.observers.length co,.int .i64 c.blast,.int .i64 c.lease,.int .i64 c.bake] 36)) 52 #[.int .i64 s.tick,.int .i64 s.count,.slice sat s.tenants.length sct,.slice sac s.cells.length scc,.int .i64 s.proven,.int .i64 s.evac,.int .i64 s.low,.int .i64 s.high])
  simpa using this
 unfold cfgC stC
 simp only
 go_enter Tryz.func53,Tryz.ntmps53
 go_upto_region 1 with fail
 generalize (w.alloc _).alloc _=W at *
 have hgc:=hBc.lt
 have d0:=hBc.cell' (i:=0) (v:=.int .i64 c.regions) rfl
 have d1:=hBc.cell' (i:=1) (v:=.slice az c.zones.length cz) rfl
 have d2:=hBc.cell' (i:=2) (v:=.slice ac c.cells.length cc) rfl
 have d3:=hBc.cell' (i:=3) (v:=.slice at_ c.tenants.length ct) rfl
 have d4:=hBc.cell' (i:=4) (v:=.slice av c.versions.length cv) rfl
 have d5:=hBc.cell' (i:=5) (v:=.slice ar c.replicas.length cr) rfl
 have d6:=hBc.cell' (i:=6) (v:=.slice ao c.observers.length co) rfl
 have d7:=hBc.cell' (i:=7) (v:=.int .i64 c.blast) rfl
 have d8:=hBc.cell' (i:=8) (v:=.int .i64 c.lease) rfl
 have d9:=hBc.cell' (i:=9) (v:=.int .i64 c.bake) rfl
 clear hBc
 have hgs:=hBs.lt
 have su0:=hBs.cell' (i:=0) (v:=.int .i64 s.tick) rfl
 have su1:=hBs.cell' (i:=1) (v:=.int .i64 s.count) rfl
 have su2:=hBs.cell' (i:=2) (v:=.slice sat s.tenants.length sct) rfl
 have su3:=hBs.cell' (i:=3) (v:=.slice sac s.cells.length scc) rfl
 have su4:=hBs.cell' (i:=4) (v:=.int .i64 s.proven) rfl
 have su5:=hBs.cell' (i:=5) (v:=.int .i64 s.evac) rfl
 have su6:=hBs.cell' (i:=6) (v:=.int .i64 s.low) rfl
 have su7:=hBs.cell' (i:=7) (v:=.int .i64 s.high) rfl
 clear hBs
 have HL:=Lib.hid hL
 have HWc:=Lib.hid (HKc.out.belowW hL)
 have HWs:=Lib.hid (HKs.out.belowW hL)
 clear hL
 have HBK:=Lib.hid (ldBooked_any ⟨az,cz,ac,cc,at_,ct,av,cv,ar,cr,ao,co⟩ c ⟨sat,sct,sac,scc⟩ s W HV.out HWc.out HI.out HWs.out)
 go_wp2_with fail
 refine HBK.out.mono ?_
 rintro r w1 ⟨A1,cp1,rfl,hO1,hb1⟩
 rw[hbl] at hO1 ⊢
 have hlt1:W.heap.size<w1.heap.size∨True:=.inr trivial
 have HWc1:=Lib.hid (HWc.out.belowW hb1)
 have HL1:=Lib.hid (HL.out.trans (hb1.mono HL.out.size))
 replace d0:w1.cell? ⟨w.heap.size,0,none⟩=some (.int .i64 c.regions):=(hb1.cell (p:=⟨w.heap.size,0,none⟩) hgc).trans d0
 replace d1:w1.cell? ⟨w.heap.size,1,none⟩=some (.slice az c.zones.length cz):=(hb1.cell (p:=⟨w.heap.size,1,none⟩) hgc).trans d1
 replace d2:w1.cell? ⟨w.heap.size,2,none⟩=some (.slice ac c.cells.length cc):=(hb1.cell (p:=⟨w.heap.size,2,none⟩) hgc).trans d2
 replace d3:w1.cell? ⟨w.heap.size,3,none⟩=some (.slice at_ c.tenants.length ct):=(hb1.cell (p:=⟨w.heap.size,3,none⟩) hgc).trans d3
 replace d4:w1.cell? ⟨w.heap.size,4,none⟩=some (.slice av c.versions.length cv):=(hb1.cell (p:=⟨w.heap.size,4,none⟩) hgc).trans d4
 replace d5:w1.cell? ⟨w.heap.size,5,none⟩=some (.slice ar c.replicas.length cr):=(hb1.cell (p:=⟨w.heap.size,5,none⟩) hgc).trans d5
 replace d6:w1.cell? ⟨w.heap.size,6,none⟩=some (.slice ao c.observers.length co):=(hb1.cell (p:=⟨w.heap.size,6,none⟩) hgc).trans d6
 replace d7:w1.cell? ⟨w.heap.size,7,none⟩=some (.int .i64 c.blast):=(hb1.cell (p:=⟨w.heap.size,7,none⟩) hgc).trans d7
 replace d8:w1.cell? ⟨w.heap.size,8,none⟩=some (.int .i64 c.lease):=(hb1.cell (p:=⟨w.heap.size,8,none⟩) hgc).trans d8
 replace d9:w1.cell? ⟨w.heap.size,9,none⟩=some (.int .i64 c.bake):=(hb1.cell (p:=⟨w.heap.size,9,none⟩) hgc).trans d9
 replace hgc:w.heap.size<w1.heap.size:=Nat.lt_of_lt_of_le hgc hb1.size
 have HO1:=Lib.hid hO1
 clear HBK hO1 hb1 su0 su1 su2 su3 su4 su5 su6 su7 hgs HWc HWs HL hlt1
 generalize hbk:booked c s=bk at *
 have HBKE:=Lib.hid hbk
 clear hbk
 go_wp2
 go_loopg [5,12] c.cells.length (fun gk so si wr=>r5HomesRel w1 pd c.cells.length gk so si wr)
 case atStart=>exact⟨0,none,0,by omega,rfl,rfl,World.ownsRow_nil _ _ _ _,Below.refl _ _⟩
 case round=>
  rename_i J K aJ aK
  obtain⟨k,A,cp,hgk,rfl,rfl,hown,hbel⟩:=hrel
  have HO:=Lib.hid hown
  have HB:=Lib.hid hbel
  have hsz:=hbel.size
  have hlen:=pickK_len pd k
  obtain⟨hc,hf⟩:=bcell hbel
  clear hown hbel hf
  by_cases hk:k<c.cells.length
  ·have hlt:(k:Int)<(c.cells.length:Int):=by omega
   have hkb:k<bk.length:=by omega
   obtain⟨b,off,z,rfl,hb,hzz,hcell⟩:=HWc1.out.cells.row (enc:=pairC) (sz:=2) (fun _=>rfl) (by omega) hk
   obtain⟨g1,cap1,hv1,_,hlt1⟩:=HO1.out.form (by omega)
   simp only[Value.slice.injEq,true_and] at hv1
   obtain⟨rfl,rfl⟩:=hv1
   have c0:=HO1.out.cellAt k (by omega)
   rw[flat_int,List.getElem?_map,List.getElem?_eq_getElem hkb] at c0
   simp only[Option.map_some] at c0
   have hbW:b<w1.heap.size:=hb
   have e1:=hcell 1 (.int .i64 z.2) rfl
   have HPK:Hid (pd k=decide (z.2<bk[k])):=Lib.hid (by rw[HP.out];unfold overP;rw[getD_some hzz,HBKE.out,getD_some (List.getElem?_eq_getElem hkb)])
   have HS:=Lib.hid (pickK_succ pd k)
   generalize bk[k]=m at *
   clear hcell hzz hb
   by_cases hp:pd k=true
   ·have hp2:z.2<m:=by have:=HPK.out;rw[hp] at this;simpa using this.symm
    go_wp2_with (at_builtin;refine wpList_append_lies _ rfl _ _ _ rfl w1.heap.size 3 ii _ 1 8 Tryz.underlying22 hii hi0 hi1 hi2 rfl (by omega) _ (pickK pd k).length (flat intC (pickK pd k)) rfl (HO.out.alloc _) ⟨wr.heap.size,0,none⟩ 1 1 [.int .i64 k] rfl rfl ?c1 ?c2 ?c0 ?c3 ?c4 ?c5 (wr.heap.size+1) ?c6 ?_)
    case c1=>exact World.news_of_block (cs:=#[.int .i64 k]) (heap_alloc_new _ _)
    case c2=>simp[Value.oneCell']
    case c0=>omega
    case c3=>unfold maxLen;omega
    case c4=>omega
    case c5=>have:=HB.out.size;simp;omega
    case c6=>simp
    intro gg cq w9 hown9 hg9 hat9 hlt9
    have HB9:=Lib.hid ((HB.out.alloc HB.out.size _).grown hg9 (by have:=HB.out.size;simp;omega) (fun j hj=>(HO.out.lt j hj).1))
    have HX:Hid (w9.ownsRow w1.heap.size 3 1 (.slice (some ⟨gg,0,none⟩) (pickK pd (k+1)).length cq) (pickK pd (k+1)).length (flat intC (pickK pd (k+1)))):=by
     refine Lib.hid ?_;rw[HS.out,if_pos hp,← flat_snoc5,List.length_append];exact hown9
    have hl9:(pickK pd (k+1)).length=(pickK pd k).length+1:=by rw[HS.out,if_pos hp,List.length_append];rfl
    have HL9:=Lib.hid hl9
    clear hown9 hg9 hat9 hlt9 HB hl9 hc
    go_wp2
    go_roundg (gk-1)
    case measure=>omega
    case rel=>exact⟨k+1,some ⟨gg,0,none⟩,cq,by omega,by go_num,by rw[HL9.out],HX.out,HB9.out⟩
   ·have hp:pd k=false:=by simpa using hp
    have hp2:m≤z.2:=by have:=HPK.out;rw[hp] at this;simpa using this.symm
    have HX:Hid (wr.ownsRow w1.heap.size 3 1 (.slice A (pickK pd (k+1)).length cp) (pickK pd (k+1)).length (flat intC (pickK pd (k+1)))):=by
     refine Lib.hid ?_;rw[HS.out,if_neg (by simp[hp])];exact HO.out
    have hl9:(pickK pd (k+1)).length=(pickK pd k).length:=by rw[HS.out,if_neg (by simp[hp])]
    have HL9:=Lib.hid hl9
    clear hl9
    go_wp2
    go_roundg (gk-1)
    case measure=>omega
    case rel=>exact⟨k+1,A,cp,by omega,by go_num,by rw[HL9.out],HX.out,HB.out⟩
  ·have hge:¬ (k:Int)<(c.cells.length:Int):=by omega
   obtain rfl:k=c.cells.length:=by omega
   go_wp2
   go_ret
   exact⟨A,cp,rfl,own_base HO.out (Nat.le_of_lt hgc),HL1.out.trans (HB.out.mono (Nat.le_of_lt hgc))⟩
/-! state.Apply: a state in rows of its own. -/
def ctRefused:CT:=fun vs mem nx K=>∃ N x c M y s e,vs=[cfgV N x c,stV M y s,entV' e]∧keeps mem (cfgM N c)∧(HasRow mem M.t 12 tsC default s.tenants∧HasRow mem M.c 4 csC default s.cells)∧CfgV c∧StInv c s∧K (.int .i64 (refusedE c s e)) mem nx
theorem refusedOk:CSound Tryz.prog 50 ctRefused:=⟨by kernel_rfl,fun {C ρ fr mem nx a w vs K} hc hs hv=>by
 obtain⟨N,x,c,M,y,s,e,rfl,hk,⟨h1,h2⟩,hV,hI,hK⟩:=hc
 rw[List.map_cons,den_cfg,List.map_cons,den_st,List.map_cons,(pure_den (pure_ent e) _ 0).1]
 refine (stRefused_any (cfgX ρ N x) c (stX ρ M y) s e w hV (hs.cfg hk (fun b hb _=>hb)) hI (hs.stRow h1 h2)).mono ?_
 rintro r w' ⟨rfl,hb⟩
 exact⟨.int .i64 (refusedE c s e),mem,nx,ρ,rfl,hK,hs.later hb,trivial,ExtS.refl _ _⟩⟩
def ctOverP:CT:=fun vs mem nx K=>∃ N x c M y s,vs=[cfgV N x c,stV M y s]∧keeps mem (cfgM N c)∧(HasRow mem M.t 12 tsC default s.tenants∧HasRow mem M.c 4 csC default s.cells)∧CfgV c∧StInv c s∧∀ cp,K (slc nx (over c s).length cp) ((nx,rowOfL 500000 1 intC 0 (over c s))::mem) (nx+1)
theorem overPOk:CSound Tryz.prog 53 ctOverP:=⟨by kernel_rfl,fun {C ρ fr mem nx a w vs K} hc hs hv=>by
 obtain⟨N,x,c,M,y,s,rfl,hk,⟨h1,h2⟩,hV,hI,hK⟩:=hc
 rw[List.map_cons,den_cfg,List.map_cons,den_st]
 refine (ldOver_any (cfgX ρ N x) c (stX ρ M y) s w hV (hs.cfg hk (fun b hb _=>hb)) hI (hs.stRow h1 h2)).mono ?_
 rintro e w' ⟨A,cp,rfl,ho,hb⟩
 obtain⟨q1,-⟩:=(hs.later hb).addList hs.frB hs.rest.size (enc:=intC) (sz:=1) (fun _=>rfl) (by omega) intC_plain 0 (t:=500000) rfl (Rd.of_own ho)
 have q2:setPl ρ nx ⟨A,1,(over c s).length,false,noSub⟩ nx=⟨A,1,(over c s).length,false,noSub⟩:=setPl_same _ _ _
 refine⟨slc nx (over c s).length cp,_,_,setPl ρ nx ⟨A,1,(over c s).length,false,noSub⟩,?_,hK cp,q1,?_,fun i hi=>setPl_lt _ _ hi,by omega⟩
 ·show Ending.returned (.slice A (over c s).length cp)=.returned (.slice (setPl ρ nx ⟨A,1,(over c s).length,false,noSub⟩ nx).A (over c s).length cp)
  rw[q2]
 ·exact⟨show nx<nx+1 by omega,by rw[q2]⟩⟩
def apF:FT:=[(50,ctRefused),(51,ctEff),(52,ctInl tt [] [] Tryz.f52 (bodyOf Tryz.f52)),(53,ctOverP)]
def apD:List (Nat×DQ):=[(9000000,{ k:=0,L:=[52] })]
theorem apFok:FTokI Tryz.prog apF (inlOf apD):=fti_cons (refusedOk.i _) (fti_cons (effOk.i _) (fti_cons (inl_ok ttOk fti_nil mixed (by kernel_rfl) Tryz.func52 rfl (by kernel_rfl) (by decide)) (fti_cons (overPOk.i _) fti_nil)))
theorem over_pos (c:Cfg) (s:St):overB c s=decide (0<(over c s).length):=by
 unfold overB over
 rw[List.length_map]
 cases h:(List.range c.cells.length).any fun i=>decide ((c.cells.getD i (0,0)).2<(booked c s).getD i 0)
 ·rw[List.any_eq_false] at h
  have:((List.range c.cells.length).filter fun i=>decide ((c.cells.getD i (0,0)).2<(booked c s).getD i 0))=[]:=List.filter_eq_nil_iff.2 h
  rw[this]
  rfl
 ·rw[List.any_eq_true] at h
  obtain⟨i,hi,hp⟩:=h
  have:i ∈ (List.range c.cells.length).filter fun i=>decide ((c.cells.getD i (0,0)).2<(booked c s).getD i 0):=List.mem_filter.2 ⟨hi,hp⟩
  have:=List.length_pos_of_mem this
  exact (decide_eq_true this).symm
theorem applyP_over {c:Cfg} {s:St} {e:Ent} (h:refusedE c s e=0) (hb:booksB e=true) (ho:0<(over c (effOf s e)).length):applyP c s e=(St.zero,10):=by
 unfold applyP
 rw[if_neg (by omega),if_pos ⟨hb,by rw[over_pos];simpa using ho⟩]
theorem applyP_fine {c:Cfg} {s:St} {e:Ent} (h:refusedE c s e=0) (hb:booksB e=true→¬ 0<(over c (effOf s e)).length):applyP c s e=(effOf s e,0):=by
 unfold applyP
 rw[if_neg (by omega),if_neg]
 rintro⟨h1,h2⟩
 rw[over_pos] at h2
 exact hb h1 (by simpa using h2)
def ApR (mem':AM) (v:Value) (p:St×Int):Prop:=∃ T Cc,v=.tuple #[.agg #[.int .i64 p.1.tick,.int .i64 p.1.count,T,Cc,.int .i64 p.1.proven,.int .i64 p.1.evac,.int .i64 p.1.low,.int .i64 p.1.high],.int .i64 p.2]∧
 ((p.1=St.zero∧T=zs0∧Cc=zs0)∨∃ rT rC,rT≠rC∧SlO mem' 12 tsC default p.1.tenants T rT∧SlO mem' 4 csC default p.1.cells Cc rC)
set_option maxRecDepth 100000 in
set_option maxHeartbeats 4000000 in
theorem apply_sx (x : CfgK) (c : Cfg) (y : StK) (s : St) (e : Ent) (hV : CfgV c) (hI : StInv c s) :
    sx tt apF apD (bodyOf Tryz.f21) (argF 0 [cfgV CN1 x c, stV SN1 y s, entV' e]) (rdM c s noS) 10 (endx tt Tryz.f21.results.toList fun v mem' _ => ApR mem' v (applyP c s e)) := by
  refine ⟨CN1, x, c, SN1, y, s, e, rfl, kp_, ⟨.list rfl, .list rfl⟩, hV, hI, ?_⟩
  refine ⟨fun hr => ?_, fun hr => ?_⟩
  · have hr : refusedE c s e ≠ 0 := by simpa using hr
    refine ⟨zs0, zs0, ?_, .inl ⟨?_, rfl, rfl⟩⟩
    · unfold applyP; rw [if_pos hr]; rfl
    · unfold applyP; rw [if_pos hr]
  · have hr : refusedE c s e = 0 := by simpa using hr
    have ha := acc_of hr
    refine ⟨_, y, s, e, rfl, ⟨.list rfl, .list rfl⟩, ⟨c, hV, hI, ha⟩, ?_⟩
    intro y2
    repeat' (first | refine ⟨fun _ => ?_, fun h => Bool.noConfusion h⟩ | refine ⟨fun h => Bool.noConfusion h, fun _ => ?_⟩ | refine ⟨CN1, x, c, ⟨15, 14, 0⟩, y2, effOf s e, rfl, kp_, ⟨.list rfl, .list rfl⟩, hV, hI.step hV hr, ?_⟩ | intro cp | refine ⟨fun _ => ?_, fun _ => ?_⟩ | fail)
    all_goals first
      | (have hq := applyP_over (c := c) (s := s) (e := e) hr (by unfold booksB; grind) (by grind)
         exact ⟨zs0, zs0, (by rw [hq]; rfl), .inl ⟨by rw [hq], rfl, rfl⟩⟩)
      | (have hq := applyP_fine (c := c) (s := s) (e := e) hr (by unfold booksB; grind)
         exact ⟨slc 15 (effOf s e).tenants.length y2.ct, slc 14 (effOf s e).cells.length y2.cc, (by rw [hq]), .inr ⟨15, 14, by decide, (by rw [hq]; exact ⟨_, _, _, _, _, rfl, rfl, rfl, rfl, Nat.le_refl _, fun k hk => rfl⟩), (by rw [hq]; exact ⟨_, _, _, _, _, rfl, rfl, rfl, rfl, Nat.le_refl _, fun k hk => rfl⟩)⟩⟩)
      | fail
theorem stApplyO_any (x:CfgA) (c:Cfg) (y:StA) (s:St) (e:Ent) (w:World) (hV:CfgV c) (hc:CfgOk w (·<w.heap.size) x c) (hI:StInv c s) (hs:StOk w (·<w.heap.size) y s) :
  Calls Tryz.prog 21 #[.agg (cfgC x c),.agg (stC y s),.agg (entC e).toArray] w fun r w'=>∃ y2,r=.returned (.tuple #[.agg (stC y2 (applyP c s e).1),.int .i64 (applyP c s e).2])∧StOwn2 w.heap.size w' y2 (applyP c s e).1∧Below w.heap.size w w':=by
 have:=rd_callsM ttOk apFok Tryz.func21 rfl (D:=apD) (by kernel_rfl) (vs:=[cfgV CN1 (ck x) c,stV SN1 (sk y) s,entV' e]) rfl x c y s noA noS w hc hs (noS_ok w _) (fun v hv=>by
  simp only[List.mem_cons,List.not_mem_nil,or_false] at hv
  rcases hv with rfl | rfl | rfl
  ·exact rpl_cfg_ok x c y s noA noS
  ·exact rpl_st_ok x c y s noA noS
  ·exact (pure_den (pure_ent e) _ _).2) (apply_sx (ck x) c (sk y) s e hV hI)
 rw[List.map_cons,rpl_cfg,List.map_cons,rpl_st,List.map_cons,(pure_den (pure_ent e) _ 0).1] at this
 refine this.mono ?_
 rintro r w' ⟨v,mem',nx',ρ',rfl,⟨T,Cc,rfl,hr⟩,hv,hm',hb⟩
 have key:∃ y2,den2 ρ' (.agg #[.int .i64 (applyP c s e).1.tick,.int .i64 (applyP c s e).1.count,T,Cc,.int .i64 (applyP c s e).1.proven,.int .i64 (applyP c s e).1.evac,.int .i64 (applyP c s e).1.low,.int .i64 (applyP c s e).1.high])=.agg (stC y2 (applyP c s e).1)∧StOwn2 w.heap.size w' y2 (applyP c s e).1:=by
  rcases hr with⟨h0,rfl,rfl⟩ | ⟨rT,rC,hne,hT,hC⟩
  ·rw[h0];exact⟨noA,by simp[den2,den1,stC,noA,St.zero],StOwn2.zero _ _⟩
  ·exact hm'.own2 rfl hne hT hC
 obtain⟨y2,e1,e2⟩:=key
 refine⟨y2,?_,e2,hb⟩
 rw[← e1]
 have d:∀ z,den2 ρ' (.int .i64 z)=.int .i64 z:=fun _=>rfl
 simp only[den,List.map_toArray,List.map_cons,List.map_nil,d]
def ctApply:CT:=fun vs mem nx K=>∃ N x c M y s e,vs=[cfgV N x c,stV M y s,entV' e]∧keeps mem (cfgM N c)∧keeps mem (stM M s)∧CfgV c∧StInv c s∧∀ y2,K (.tuple #[stV ⟨nx+1,nx,500000⟩ y2 (applyP c s e).1,.int .i64 (applyP c s e).2]) (stM ⟨nx+1,nx,500000⟩ (applyP c s e).1++mem) (nx+2)
theorem applyOk:CSound Tryz.prog 21 ctApply:=⟨by kernel_rfl,fun {C ρ fr mem nx a w vs K} hc hs hv=>by
 obtain⟨N,x,c,M,y,s,e,rfl,hk1,hk2,hV,hI,hK⟩:=hc
 have e0:([cfgV N x c,stV M y s,entV' e].map (den ρ)).toArray=#[.agg (cfgC (cfgX ρ N x) c),.agg (stC (stX ρ M y) s),.agg (entC e).toArray]:=by
  rw[List.map_cons,List.map_cons,List.map_cons,den_cfg,den_st]
  simp[den,den2,den1,entC]
 rw[e0]
 refine (stApplyO_any (cfgX ρ N x) c (stX ρ M y) s e w hV (hs.cfg hk1 (fun b h _=>h)) hI (hs.st hk2 (fun b h _=>h))).mono ?_
 rintro r w' ⟨y2,rfl,ho,hb⟩
 obtain⟨q1,q2,q3,q4⟩:=hs.addSt hb (s:=(applyP c s e).1) ho.ok
 refine⟨.tuple #[stV ⟨nx+1,nx,500000⟩ ⟨y2.ct,y2.cc⟩ (applyP c s e).1,.int .i64 (applyP c s e).2],_,_,_,?_,hK ⟨y2.ct,y2.cc⟩,q1,?_,q4⟩
 ·rw[← q2]
  simp[den,den2,den1]
 ·intro u hu
  simp at hu
  rcases hu with rfl | rfl
  ·exact q3
  ·trivial⟩
/-! state.Fold -/
def foF:FT:=[(18,ctNewS),(21,ctApply)]
theorem foFok:FTok Tryz.prog foF:=ft_cons newSOk (ft_cons applyOk ft_nil)
def foD:List (Nat×DQ):=[(3000003,{ k:=14,L:=[0,1,2,3,4,5,6,7,8],sl:=[1,2,4,7,14,15] })]
abbrev foM (c:Cfg) (es:List Ent):AM:=cfgM CN1 c++[(6,rowOfL 3 9 entC default es)]
set_option maxRecDepth 100000 in
set_option maxHeartbeats 4000000 in
theorem fold_sx (x:CfgK) (c:Cfg) (cap:Nat) (es:List Ent) (hV:CfgV c) (hl:es.length≤1000000) :
  sx tt foF foD (bodyOf Tryz.f24) (argF 0 [cfgV CN1 x c,slc 6 es.length cap]) (foM c es) 7 (endx tt Tryz.f24.results.toList fun v mem' _=>∃ y,v=.tuple #[stV ⟨12,13,500000⟩ y (foldC c es).1,.int .i64 (foldC c es).2.1,.int .i64 (foldC c es).2.2]∧keeps mem' (stM ⟨12,13,500000⟩ (foldC c es).1)):=by
 have hnt:=hV.nt
 have hnc:=hV.nc
 refine⟨CN1,x,c,rfl,⟨rfl,rfl,rfl,rfl,rfl,rfl,trivial⟩,⟨by omega,by omega⟩,?_⟩
 intro y0
 refine⟨St×StK×Int,fun q=>match q with | (s,y,i)=>[(16,.int .i64 i)],fun q=>match q with | (s,y,i)=>[(11,.box 52 [.int .i64 s.tick,.int .i64 s.count,slc 12 s.tenants.length y.ct,slc 13 s.cells.length y.cc,.int .i64 s.proven,.int .i64 s.evac,.int .i64 s.low,.int .i64 s.high]),(12,rowOfL 500000 12 tsC default s.tenants),(13,rowOfL 500000 4 csC default s.cells)],fun q=>match q with | (s,y,i)=>StInv c s∧(0≤i∧i≤es.length)∧foldGo c i s (es.drop i.toNat)=foldC c es,fun q=>match q with | (s,y,i)=>((es.length:Int)-i).toNat,⟨(stNew c,y0,0),[(12,10),(13,9)],⟨stNew_inv hV,by omega,rfl⟩,⟨rfl,rfl⟩,⟨rfl,rfl,rfl,rfl,rfl,rfl,rfl,trivial⟩,⟨rfl,rfl,rfl,rfl,rfl,rfl,rfl,rfl,rfl,rfl,rfl,rfl,trivial⟩⟩,?_⟩
 rintro⟨s,y,i⟩ ⟨hI,hi,hf⟩
 refine⟨⟨by decide,rfl,rfl⟩,?_⟩
 refine⟨fun hlt=>?_,fun hge=>?_⟩
 ·have hlt2:i<(es.length:Int):=of_decide_eq_true hlt
  have hd:es.drop i.toNat=es.getD i.toNat default::es.drop (i+1).toNat:=by
   rw[show (i+1).toNat=i.toNat+1 by omega,← List.getElem_cons_drop (show i.toNat<es.length by omega)]
   congr 1
   rw[List.getD_eq_getElem?_getD,List.getElem?_eq_getElem (show i.toNat<es.length by omega)]
   rfl
  rw[hd] at hf
  refine⟨⟨Nat.le_refl _,hi.1,hlt2⟩,?_⟩
  refine⟨CN1,x,c,⟨12,13,500000⟩,y,s,es.getD i.toNat default,rfl,⟨rfl,rfl,rfl,rfl,rfl,rfl,trivial⟩,⟨rfl,rfl,trivial⟩,hV,hI,?_⟩
  intro y2
  generalize es.getD i.toNat default=e at hf ⊢
  refine⟨fun he=>?_,fun he=>?_⟩
  ·have he2:(applyP c s e).2≠0:=by simpa using he
   rw[foldGo,if_pos he2] at hf
   rw[← hf]
   exact⟨y,rfl,⟨rfl,rfl,trivial⟩⟩
  ·have he2:(applyP c s e).2=0:=by simpa using he
   rw[foldGo,if_neg (fun h=>h he2)] at hf
   have hr:=(applyP_ok (c:=c) (s:=s) (e:=e) (x:=(applyP c s e).1) (by rw[← he2]))
   refine⟨((applyP c s e).1,y2,_),[(12,16),(13,15)],?_,⟨rfl,rfl⟩,⟨rfl,rfl,rfl,rfl,rfl,rfl,rfl,trivial⟩,⟨rfl,rfl,rfl,rfl,rfl,rfl,rfl,rfl,rfl,rfl,rfl,rfl,trivial⟩⟩
   dsimp only
   rw[wrapi (n:=i+1) (by omega)]
   exact⟨⟨by rw[hr.2.1];exact hI.step hV hr.1,by omega,hf⟩,by omega⟩
 ·have hge2:¬ i<(es.length:Int):=of_decide_eq_false hge
  obtain rfl:i=es.length:=by omega
  rw[Int.toNat_natCast,List.drop_length] at hf
  rw[foldGo] at hf
  rw[← hf]
  exact⟨y,rfl,⟨rfl,rfl,trivial⟩⟩
/-! state.Fold,by contract. -/
def fpl (x:CfgA) (c:Cfg) (A:Option Addr) (n:Nat):Nat→Pl:=fun j=>match j with
 | 0=>⟨x.az,1,c.zones.length,false,noSub⟩
 | 1=>⟨x.ac,2,c.cells.length,false,noSub⟩
 | 2=>⟨x.at_,7,c.tenants.length,false,noSub⟩
 | 3=>⟨x.av,2,c.versions.length,false,noSub⟩
 | 4=>⟨x.ar,1,c.replicas.length,false,noSub⟩
 | 5=>⟨x.ao,1,c.observers.length,false,noSub⟩
 | _=>⟨A,9,n,false,noSub⟩
theorem stFold_calls (x:CfgA) (c:Cfg) (A:Option Addr) (cap:Nat) (es:List Ent) (w:World) (hV:CfgV c) (hl:es.length≤1000000) (hc:CfgOk w (·<w.heap.size) x c) (hr:Rd w (·<w.heap.size) A (flat entC es)) :
  Calls Tryz.prog 24 #[.agg (cfgC x c),.slice A es.length cap] w fun e w'=>∃ y,e=.returned (.tuple #[.agg (stC y (foldC c es).1),.int .i64 (foldC c es).2.1,.int .i64 (foldC c es).2.2])∧StOk w' (fun b=>w.heap.size≤b∧b<w'.heap.size) y (foldC c es).1∧Below w.heap.size w w':=by
 have hpc:CfgPl (fpl x c A es.length) CN1 x c:=⟨rfl,rfl,rfl,rfl,rfl,rfl⟩
 have hm:MemAt { w0:=w,bor:=[],n0:=7,ρ0:=fpl x c A es.length,nt:=(Tryz.f24).ntmps } (fpl x c A es.length) (foM c es) 7 w:=MemAt.rows trivial (cfg_blks hpc hc (fun b hb=>hb) (by decide) ⟨⟨by decide,rfl,row_of_rd (enc:=entC) (sz:=9) (fun _=>rfl) (by omega) entC_plain default rfl hr (fun b hb=>hb)⟩,trivial⟩)
 have hv0:#[Value.agg (cfgC x c),.slice A es.length cap]=([cfgV CN1 (ck x) c,slc 6 es.length cap].map (den (fpl x c A es.length))).toArray:=by
  rw[List.map_cons,den_cfg]
  rfl
 rw[hv0]
 refine (calls_sx ttOk foFok mixed Tryz.func24 rfl (D:=foD) (by kernel_rfl) (vs:=[cfgV CN1 (ck x) c,slc 6 es.length cap]) rfl ⟨rfl,rfl⟩ rfl hm (fun v hv=>?_) (fold_sx (ck x) c cap es hV hl)).mono ?_
 ·simp only[List.mem_cons,List.not_mem_nil,or_false] at hv
  rcases hv with rfl | rfl
  ·intro u hu
   simp at hu
   rcases hu with rfl | rfl | rfl | rfl | rfl | rfl | rfl | rfl | rfl | rfl<;>first | trivial | exact⟨by decide,rfl⟩
  ·exact⟨by decide,rfl⟩
 ·rintro e w' ⟨v,mem',nx',ρ',rfl,⟨y,rfl,k1,k2,-⟩,hv,hm'⟩
  refine⟨⟨(ρ' 12).A,y.ct,(ρ' 13).A,y.cc⟩,?_,⟨?_,?_⟩,⟨hm'.rest.os,hm'.rest.tape,hm'.rest.output,hm'.rest.size,fun b hlt=>hm'.rest.block b hlt (by simp)⟩⟩
  ·simp[den,den2,den1,dA_whole,dS_whole,stC]
  ·exact (hm'.blk 12 _ k1).fresh (enc:=tsC) default rfl rfl (fun k hk=>rfl) (fun _=>rfl) (by omega)
  ·exact (hm'.blk 13 _ k2).fresh (enc:=csC) default rfl rfl (fun k hk=>rfl) (fun _=>rfl) (by omega)
def ctFold:CT:=fun vs mem nx K=>∃ N x c r cap es,vs=[cfgV N x c,slc r (es:List Ent).length cap]∧keeps mem (cfgM N c)∧HasRow mem r 9 entC default es∧CfgV c∧es.length≤1000000∧∀ y,K (.tuple #[stV ⟨nx+1,nx,500000⟩ y (foldC c es).1,.int .i64 (foldC c es).2.1,.int .i64 (foldC c es).2.2]) (stM ⟨nx+1,nx,500000⟩ (foldC c es).1++mem) (nx+2)
theorem foldOk:CSound Tryz.prog 24 ctFold:=⟨by kernel_rfl,fun {C ρ fr mem nx a w vs K} hc hs hv=>by
 obtain⟨N,x,c,r,cap,es,rfl,hk,hr,hV,hl,hK⟩:=hc
 have e0:([cfgV N x c,slc r es.length cap].map (den ρ)).toArray=#[.agg (cfgC (cfgX ρ N x) c),.slice (ρ r).A es.length cap]:=by
  rw[List.map_cons,den_cfg]
  rfl
 rw[e0]
 refine (stFold_calls (cfgX ρ N x) c (ρ r).A cap es w hV hl (hs.cfg hk (fun b h _=>h)) (hs.hasRd (enc:=entC) (sz:=9) (fun _=>rfl) (by omega) hr)).mono ?_
 rintro e w' ⟨y,rfl,hst,hb⟩
 obtain⟨q1,q2,q3,q4⟩:=hs.addSt hb hst
 refine⟨.tuple #[stV ⟨nx+1,nx,500000⟩ ⟨y.ct,y.cc⟩ (foldC c es).1,.int .i64 (foldC c es).2.1,.int .i64 (foldC c es).2.2],_,_,_,?_,hK ⟨y.ct,y.cc⟩,q1,?_,q4⟩
 ·rw[← q2]
  simp[den,den2,den1]
 ·intro u hu
  simp at hu
  rcases hu with rfl | rfl | rfl
  ·exact q3
  ·trivial
  ·trivial⟩
/-! make.State: the state of a log. -/
/-! A callee hands back a row of the wider kind. -/
/-! Make,by contract,with any parent;rows of atlases that grow. -/
def ctMakeGP:CT:=fun vs mem nx K=>∃ N x c M y s pn pt pv ps psum key,vs=[cfgV N x c,stV M y s,.agg #[.int .i64 pn,.int .i64 pt,pv,.int .u64 ps,.int .u64 psum],.int .i64 key]∧(HasCfg mem N c∧HasRow mem M.t 12 tsC default s.tenants∧HasRow mem M.c 4 csC default s.cells)∧(∃ A n cap,pv=.slice A n cap)∧AtlIn (atl0 s psum)∧∀ cp,K (atlV (makeA s psum key) (slc nx (routesOf s).length cp)) ((nx,rowOfL 500000 2 pairC (0,0) (routesOf s))::mem) (nx+1)
theorem makeGPOk:CSound Tryz.prog 19 ctMakeGP:=⟨by kernel_rfl,fun {C ρ fr mem nx a w vs K} hc hs hv=>by
 obtain⟨N,x,c,M,y,s,pn,pt,pv,ps,psum,key,rfl,⟨hk,h1,h2⟩,hpv,hA,hK⟩:=hc
 have epv:∃ Ap pl pc,den1 ρ pv=.slice Ap pl pc:=by
  obtain⟨A,n,cap,rfl⟩:=hpv
  cases A with
  | none=>exact⟨_,_,_,rfl⟩
  | some ad=>exact⟨_,_,_,rfl⟩
 obtain⟨Ap,pl,pc,epv⟩:=epv
 have e0:([cfgV N x c,stV M y s,.agg #[.int .i64 pn,.int .i64 pt,pv,.int .u64 ps,.int .u64 psum],.int .i64 key].map (den ρ)).toArray=#[.agg (cfgC (cfgX ρ N x) c),.agg (stC (stX ρ M y) s),.agg #[.int .i64 pn,.int .i64 pt,.slice Ap pl pc,.int .u64 ps,.int .u64 psum],.int .i64 key]:=by
  have dI:∀ k n,den1 ρ (.int k n)=.int k n:=fun _ _=>rfl
  rw[List.map_cons,List.map_cons,den_cfg,den_st]
  simp[den,den2,epv,dI]
 rw[e0]
 refine (makeP_calls (cfgX ρ N x) c (stX ρ M y) s pn pt ps psum Ap pl pc key w hA (hs.cfgH (x:=x) hk) (hs.stRow (y:=y) h1 h2)).mono ?_
 rintro e w' ⟨A2,cp,rfl,hr2,hb⟩
 obtain⟨q1,-⟩:=(hs.later hb).addList hs.frB hs.rest.size (enc:=pairC) (sz:=2) (fun _=>rfl) (by omega) pairC_plain (0,0) (t:=500000) rfl hr2
 have q2:setPl ρ nx ⟨A2,2,(routesOf s).length,false,noSub⟩ nx=⟨A2,2,(routesOf s).length,false,noSub⟩:=setPl_same _ _ _
 refine⟨atlV (makeA s psum key) (slc nx (routesOf s).length cp),_,_,_,?_,hK cp,q1,?_,fun i hi=>setPl_lt _ _ hi,by omega⟩
 ·simp[den,den2,den1,dA_whole,dS_whole,q2]
 ·intro u hu
  simp at hu
  rcases hu with rfl | rfl | rfl | rfl | rfl<;>first | trivial | exact⟨Nat.lt_succ_self _,by rw[q2]⟩⟩
theorem getD_appA {α:Type} {l:List α} {x d:α} {k:Nat} (h:k<l.length):(l++[x]).getD k d=l.getD k d:=by rw[List.getD_eq_getElem?_getD,List.getD_eq_getElem?_getD,List.getElem?_append_left h]
theorem getD_endA {α:Type} {l:List α} {x d:α}:(l++[x]).getD l.length d=x:=by rw[List.getD_eq_getElem?_getD,List.getElem?_append_right (Nat.le_refl _)];simp
theorem atlEl_app {xs:List Atl} {cps:List Nat} {a:Atl} {cp k:Nat} (hc:cps.length=xs.length) (h:k<xs.length):atlEl (xs++[a]) (cps++[cp]) k=atlEl xs cps k:=by
 show atlC _ _=atlC _ _
 rw[getD_appA h,getD_appA (hc ▸ h)]
theorem atlEl_end {xs:List Atl} {cps:List Nat} {a:Atl} {cp:Nat} (hc:cps.length=xs.length):atlEl (xs++[a]) (cps++[cp]) (xs.length+0)=atlEl [a] [cp] 0:=by
 show atlC _ _=atlC _ _
 rw[Nat.add_zero,getD_endA,← hc,getD_endA]
 rfl
theorem famA_app {xs:List Atl} {a:Atl} {k:Nat} (h:k<xs.length):famA (xs++[a]) k=famA xs k:=by
 unfold famA
 rw[getD_appA h]
theorem famA_end {xs:List Atl} {a:Atl}:famA (xs++[a]) (xs.length+0)=famA [a] 0:=by
 unfold famA
 rw[Nat.add_zero,getD_endA]
 rfl
theorem app_at {xs:List Atl} {cps:List Nat} {a:Atl} {cp:Nat} (hc:cps.length=xs.length):((∀ k,k<xs.length→atlEl (xs++[a]) (cps++[cp]) k=atlEl xs cps k∧famA (xs++[a]) k=famA xs k)∧(∀ k,k<1→atlEl (xs++[a]) (cps++[cp]) (xs.length+k)=atlEl [a] [cp] k∧famA (xs++[a]) (xs.length+k)=famA [a] k)∧∀ k,xs.length+1≤k→∀ o,(famA (xs++[a]) k o).n=0):=
 ⟨fun k hk=>⟨atlEl_app hc hk,famA_app hk⟩,fun k hk=>(match k,hk with | 0,_=>⟨atlEl_end hc,famA_end⟩),fun k hk o=>famA_out (by simpa using hk) o⟩
/-! The laws of one step: places,epochs,windows. -/
structure PlOk (c:Cfg) (i:Int) (t:TS):Prop where
 home:0≤t.home∧mayB c i t.home=true
 standby:0≤t.standby→mayB c i t.standby=true∧apartB c t.standby t.home=true∧(0≤t.target→apartB c t.standby t.target=true)
 next:0≤t.next→mayB c i t.next=true∧apartB c t.next t.home=true∧(0≤t.target→apartB c t.next t.target=true)
 target:0≤t.target→mayB c i t.target=true
 ne:t.target≠t.home
structure PlInv (c:Cfg) (i:Int) (t:TS):Prop where
 on:t.placed=true→PlOk c i t
 off:t.placed=false→t.standby=-1∧t.next=-1∧t.target=-1
def PlsInv (c:Cfg) (s:St):Prop:=∀ (i:Nat) (t:TS),s.tenants[i]?=some t→PlInv c i t
theorem pl_new (c:Cfg):PlsInv c (stNew c):=by
 intro i t h
 have hm:t ∈ List.replicate c.tenants.length tsNew:=List.mem_of_getElem? h
 obtain rfl:=List.eq_of_mem_replicate hm
 exact⟨fun h=>(by cases h),fun _=>⟨rfl,rfl,rfl⟩⟩
theorem apartB_comm (c:Cfg) (a b:Int):apartB c a b=apartB c b a:=by
 unfold apartB
 rw[Bool.eq_iff_iff]
 simp
 constructor
 ·rintro⟨⟨h1,h2⟩,h3⟩;exact⟨⟨h2,h1⟩,fun h=>h3 h.symm⟩
 ·rintro⟨⟨h1,h2⟩,h3⟩;exact⟨⟨h2,h1⟩,fun h=>h3 h.symm⟩
theorem apartB_ne {c:Cfg} {a b:Int} (h:apartB c a b=true):a≠b:=by
 rintro rfl
 simp[apartB] at h
theorem near_apart {c:Cfg} {a b:Int} (h:nearB c a b=false) (hb:0≤b):apartB c a b=true:=by
 have:b≠-1:=by omega
 simpa [nearB,this] using h
theorem eff_ten {s:St} {e:Ent} (h8:e.kind≤8):(effOf s e).tenants=s.tenants.set e.tenant.toNat (tenEff (tsAt s e.tenant) e):=by
 unfold effOf
 simp only[h8,if_true]
 rfl
theorem eff_ten' {s:St} {e:Ent} (h8:¬ e.kind≤8):(effOf s e).tenants=s.tenants:=by
 unfold effOf
 simp only[h8,if_false]
 repeat' split
 all_goals rfl
theorem eff_tick {s:St} {e:Ent}:(effOf s e).tick=e.tick:=by
 unfold effOf
 simp only
 repeat' split
 all_goals rfl
theorem eff_count {s:St} {e:Ent}:(effOf s e).count=s.count+1:=by
 unfold effOf
 simp only
 repeat' split
 all_goals rfl
theorem eff_cel {s:St} {e:Ent} (h:e.kind≤8∨11<e.kind):(effOf s e).cells=s.cells:=by
 unfold effOf
 simp only
 split
 ·rfl
 ·split
  ·omega
  ·repeat' split
   all_goals rfl
theorem eff_cel' {s:St} {e:Ent} (h1:8<e.kind) (h2:e.kind≤11):(effOf s e).cells=s.cells.set e.cell.toNat (celEff (csAt s e.cell) e):=by
 unfold effOf
 simp only[show ¬ e.kind≤8 by omega,h2,if_false,if_true]
 rfl
theorem pl_ten {c:Cfg} {s:St} {e:Ent} (hV:CfgV c) (hI:StInv c s) (ha:Acc c s e) (h8:e.kind≤8) (hp:PlInv c e.tenant (tsAt s e.tenant)):PlInv c e.tenant (tenEff (tsAt s e.tenant) e):=by
 have hk:=ent_kind ha.ent
 obtain⟨hti,hT,hC,hO,hE,hS,hU,hN,hne⟩:=ent_rng ha.ent
 have hkd:=ha.kind
 have hnc:=hV.nc
 clear ha
 obtain⟨kind,tick,tenant,cell,other,epoch,since,till,n⟩:=e
 simp only at *
 have hk':kind=1∨kind=2∨kind=3∨kind=4∨kind=5∨kind=6∨kind=7∨kind=8:=by omega
 generalize htd:tsAt s tenant=t at *
 rcases hk' with rfl | rfl | rfl | rfl | rfl | rfl | rfl | rfl
 ·simp[inS,inR,fC,fO] at hC hO
  simp only[kindE,placeE,htd] at hkd
  simp at hkd
  have hpl:t.placed=false:=by
   cases h:t.placed with
   | false=>rfl
   | true=>simp[h] at hkd
  obtain⟨hs,hn,ht⟩:=hp.off hpl
  rw[if_neg (by simp[hpl])] at hkd
  by_cases q1:¬(csAt s cell).mode=1∨¬other=-1∧¬(csAt s other).mode=1
  ·rw[if_pos q1] at hkd;omega
  rw[if_neg q1] at hkd
  by_cases q2:frozenB c s cell=true∨¬other=-1∧frozenB c s other=true
  ·rw[if_pos q2] at hkd;omega
  rw[if_neg q2] at hkd
  have hkd:=Classical.not_not.1 (fun h=>h hkd)
  have q3:¬ (mayB c tenant cell=false∨¬other=-1∧mayB c tenant other=false∨nearB c cell other=true):=by simpa using hkd
  simp only[not_or,not_and,Bool.not_eq_false,Bool.not_eq_true] at q3
  obtain⟨q4,q5,q6⟩:=q3
  refine⟨fun _=>⟨⟨by simp[tenEff];omega,by simpa [tenEff] using q4⟩,?_,?_,?_,?_⟩,fun h=>by simp[tenEff] at h⟩
  ·intro h
   simp[tenEff] at h ⊢
   refine⟨q5 (by omega),?_,by omega⟩
   rw[apartB_comm]
   exact near_apart q6 h
  ·intro h;simp[tenEff] at h;omega
  ·intro h;simp[tenEff] at h;omega
  ·simp[tenEff];omega
 ·simp only[kindE,grantE,htd] at hkd
  simp at hkd
  simp[inS,inR,fC] at hC
  have hpl:t.placed=true:=by
   cases h:t.placed with
   | true=>rfl
   | false=>simp[h] at hkd
  have ho:=hp.on hpl
  have hcell:cell=t.home∨cell=t.standby∨cell=t.target:=by
   by_cases q1:t.placed=false∨t.shed=true∧¬cell=t.standby
   ·rw[if_pos q1] at hkd;omega
   rw[if_neg q1] at hkd
   by_cases q2:¬cell=t.home∧¬cell=t.standby∧¬cell=t.target
   ·rw[if_pos q2] at hkd;omega
   omega
  simp only[tenEff,grantT,show ¬ ((2:Int)=1) by omega,if_false,if_true]
  split
  ·exact⟨fun _=>⟨ho.home,ho.standby,ho.next,ho.target,ho.ne⟩,fun h=>(by rw[hpl] at h;cases h)⟩
  ·split
   ·rename_i h1 h2
    refine⟨fun _=>⟨⟨hC.1,?_⟩,fun h=>?_,fun h=>?_,fun h=>?_,?_⟩,fun h=>(by rw[hpl] at h;cases h)⟩
    ·rw[h2];exact (ho.standby (by omega)).1
    ·simp at h
    ·simp at h
    ·simp at h
    ·simp only;omega
   ·rename_i h1 h2
    have h3:cell=t.target:=by omega
    have h4:0≤t.target:=by omega
    refine⟨fun _=>⟨⟨hC.1,?_⟩,fun h=>?_,fun h=>?_,fun h=>?_,?_⟩,fun h=>(by rw[hpl] at h;cases h)⟩
    ·rw[h3];exact ho.target h4
    ·have:=ho.standby h
     exact⟨this.1,by simp only[h3];exact this.2.2 h4,fun h=>by simp at h⟩
    ·have:=ho.next h
     exact⟨this.1,by simp only[h3];exact this.2.2 h4,fun h=>by simp at h⟩
    ·simp at h
    ·simp only;omega
 ·exact⟨fun h=>⟨(hp.on h).home,(hp.on h).standby,(hp.on h).next,(hp.on h).target,(hp.on h).ne⟩,hp.off⟩
 ·simp only[kindE,standbyE,htd] at hkd
  simp at hkd
  simp[inS,inR,fC] at hC
  have hpl:t.placed=true:=by
   cases h:t.placed with
   | true=>rfl
   | false=>simp[h] at hkd
  have ho:=hp.on hpl
  refine⟨fun _=>⟨ho.home,ho.standby,fun h=>?_,ho.target,ho.ne⟩,fun h=>by rw[show (tenEff t ⟨4,tick,tenant,cell,other,epoch,since,till,n⟩).placed=t.placed from rfl,hpl] at h;cases h⟩
  have hc0:0≤cell:=h
  rw[if_neg (by simp[hpl]),if_neg (by omega)] at hkd
  by_cases q1:cell=t.home∨cell=t.standby∨cell=t.target
  ·rw[if_pos q1] at hkd;omega
  rw[if_neg q1] at hkd
  by_cases q2:(csAt s cell).mode=1
  case neg=>rw[if_neg q2] at hkd;omega
  rw[if_pos q2] at hkd
  by_cases q3:frozenB c s cell=true
  ·rw[if_pos q3] at hkd;omega
  rw[if_neg q3] at hkd
  have q4:¬ (mayB c tenant cell=false∨nearB c cell t.home=true∨nearB c cell t.target=true):=by simpa using hkd
  simp only[not_or,Bool.not_eq_false,Bool.not_eq_true] at q4
  exact⟨q4.1,near_apart q4.2.1 ho.home.1,fun ht=>near_apart q4.2.2 ht⟩
 ·simp only[kindE,readyE,htd] at hkd
  simp at hkd
  simp[inS,inR,fC] at hC
  have hpl:t.placed=true:=by
   cases h:t.placed with
   | true=>rfl
   | false=>simp[h] at hkd
  have ho:=hp.on hpl
  have hc:cell=t.next:=by
   refine Classical.byContradiction fun h=>?_
   simp[hpl,h] at hkd
  refine⟨fun _=>⟨ho.home,fun h=>?_,fun h=>?_,ho.target,ho.ne⟩,fun h=>by rw[show (tenEff t ⟨5,tick,tenant,cell,other,epoch,since,till,n⟩).placed=t.placed from rfl,hpl] at h;cases h⟩
  ·have h2:0≤t.next:=by rw[← hc];exact h
   have:=ho.next h2
   rw[← hc] at this
   exact this
  ·exact absurd h (by simp[tenEff])
 ·simp only[kindE,migrateE,htd] at hkd
  simp at hkd
  simp[inS,inR,fC] at hC
  have hpl:t.placed=true:=by
   cases h:t.placed with
   | true=>rfl
   | false=>simp[h] at hkd
  have ho:=hp.on hpl
  by_cases q0:t.placed=false∨t.shed=true∨¬t.target=-1
  ·rw[if_pos q0] at hkd;omega
  rw[if_neg q0] at hkd
  by_cases q1:cell=t.home∨cell=t.standby∨cell=t.next
  ·rw[if_pos q1] at hkd;omega
  rw[if_neg q1] at hkd
  by_cases q2:(csAt s cell).mode=1
  case neg=>rw[if_neg q2] at hkd;omega
  rw[if_pos q2] at hkd
  by_cases q3:frozenB c s cell=true
  ·rw[if_pos q3] at hkd;omega
  rw[if_neg q3] at hkd
  have q4:¬ (mayB c tenant cell=false∨nearB c cell t.standby=true∨nearB c cell t.next=true):=by simpa using hkd
  simp only[not_or,Bool.not_eq_false,Bool.not_eq_true] at q4
  refine⟨fun _=>⟨ho.home,fun h=>?_,fun h=>?_,fun h=>q4.1,?_⟩,fun h=>by rw[show (tenEff t ⟨6,tick,tenant,cell,other,epoch,since,till,n⟩).placed=t.placed from rfl,hpl] at h;cases h⟩
  ·have:=ho.standby h
   refine⟨this.1,this.2.1,fun _=>?_⟩
   show apartB c t.standby cell=true
   rw[apartB_comm];exact near_apart q4.2.1 h
  ·have:=ho.next h
   refine⟨this.1,this.2.1,fun _=>?_⟩
   show apartB c t.next cell=true
   rw[apartB_comm];exact near_apart q4.2.2 h
  ·show cell≠t.home
   omega
 ·refine⟨fun h=>?_,fun h=>⟨(hp.off h).1,(hp.off h).2.1,rfl⟩⟩
  have ho:=hp.on h
  refine⟨ho.home,fun h=>⟨(ho.standby h).1,(ho.standby h).2.1,fun h=>absurd h (by simp[tenEff])⟩,fun h=>⟨(ho.next h).1,(ho.next h).2.1,fun h=>absurd h (by simp[tenEff])⟩,fun h=>absurd h (by simp[tenEff]),?_⟩
  show (-1:Int)≠t.home
  have:=ho.home.1
  omega
 ·by_cases hn:n=1
  ·subst hn
   refine⟨fun h=>?_,fun h=>⟨(hp.off h).1,(hp.off h).2.1,rfl⟩⟩
   have ho:=hp.on h
   refine⟨ho.home,fun h=>⟨(ho.standby h).1,(ho.standby h).2.1,fun h=>absurd h (by simp[tenEff])⟩,fun h=>⟨(ho.next h).1,(ho.next h).2.1,fun h=>absurd h (by simp[tenEff])⟩,fun h=>absurd h (by simp[tenEff]),?_⟩
   show (-1:Int)≠t.home
   have:=ho.home.1
   omega
  ·have:tenEff t ⟨8,tick,tenant,cell,other,epoch,since,till,n⟩={ t with shed:=false }:=by simp[tenEff,hn]
   rw[this]
   exact⟨fun h=>⟨(hp.on h).home,(hp.on h).standby,(hp.on h).next,(hp.on h).target,(hp.on h).ne⟩,hp.off⟩
theorem pl_step {c:Cfg} {s x:St} {e:Ent} (hV:CfgV c) (hI:StInv c s) (hc:PlsInv c s) (h:applyP c s e=(x,0)):PlsInv c x:=by
 obtain⟨hr,hx,-⟩:=applyP_ok h
 have ha:=acc_of hr
 subst hx
 by_cases h8:e.kind≤8
 ·have hten:=ent_ten hI ha.ent h8
  intro i t hit
  rw[eff_ten h8,List.getElem?_set] at hit
  by_cases hi:e.tenant.toNat=i
  ·have hi':(i:Int)=e.tenant:=by omega
   simp[hi,show i<s.tenants.length by omega] at hit
   subst hit
   rw[hi']
   have h2:=hc _ _ (tsAt_mem hten.1 hten.2).1
   rw[Int.toNat_of_nonneg hten.1] at h2
   exact pl_ten hV hI ha h8 h2
  ·simp[hi] at hit
   exact hc i t hit
 ·intro i t hit
  rw[eff_ten' h8] at hit
  exact hc i t hit
/-! Epochs. -/
structure EpOk (tick:Int) (a b:TS):Prop where
 up:a.epoch≤b.epoch∧b.epoch≤a.epoch+1
 home:a.placed=true→a.home≠b.home→b.epoch=a.epoch+1∧a.win.till≤tick
 placed:a.placed=true→b.placed=true
theorem ep_same (tick:Int) (a:TS):EpOk tick a a:=⟨⟨by omega,by omega⟩,fun _ h=>absurd rfl h,fun h=>h⟩
theorem ep_step {c:Cfg} {s x:St} {e:Ent} (hV:CfgV c) (hI:StInv c s) (h:applyP c s e=(x,0)):s.tick≤x.tick∧x.count=s.count+1∧x.tenants.length=s.tenants.length∧∀ (i:Nat) (a b:TS),s.tenants[i]?=some a→x.tenants[i]?=some b→EpOk x.tick a b:=by
 obtain⟨hr,hx,-⟩:=applyP_ok h
 have ha:=acc_of hr
 subst hx
 rw[eff_tick,eff_count]
 refine⟨ha.tick,rfl,?_,?_⟩
 ·by_cases h8:e.kind≤8
  ·rw[eff_ten h8];simp
  ·rw[eff_ten' h8]
 intro i a b h1 h2
 by_cases h8:e.kind≤8
 ·have hten:=ent_ten hI ha.ent h8
  rw[eff_ten h8,List.getElem?_set] at h2
  by_cases hi:e.tenant.toNat=i
  ·simp[hi,show i<s.tenants.length by omega] at h2
   have hta:=(tsAt_mem hten.1 hten.2).1
   rw[hi,h1] at hta
   injection hta with hta
   subst h2
   rw[← hta]
   have hkd:=ha.kind
   have hk:=ent_kind ha.ent
   clear ha h hr h1 hi hI
   obtain⟨kind,tick,tenant,cell,other,epoch,since,till,n⟩:=e
   simp only at *
   have hk':kind=1∨kind=2∨kind=3∨kind=4∨kind=5∨kind=6∨kind=7∨kind=8:=by omega
   rcases hk' with rfl | rfl | rfl | rfl | rfl | rfl | rfl | rfl
   ·have hpl:a.placed=false:=by
     simp only[kindE,placeE,← hta] at hkd
     simp at hkd
     cases h:a.placed with
     | false=>rfl
     | true=>simp[h] at hkd
    refine⟨⟨by simp[tenEff],by simp[tenEff];omega⟩,fun h=>(by rw[hpl] at h;cases h),fun h=>(by rw[hpl] at h;cases h)⟩
   ·simp only[kindE,grantE,← hta] at hkd
    simp at hkd
    by_cases q1:a.placed=false∨a.shed=true∧¬cell=a.standby
    ·rw[if_pos q1] at hkd;omega
    rw[if_neg q1] at hkd
    by_cases q2:¬cell=a.home∧¬cell=a.standby∧¬cell=a.target
    ·rw[if_pos q2] at hkd;omega
    rw[if_neg q2] at hkd
    by_cases q3:(csAt s cell).mode=3∨(csAt s cell).mode=2∧¬cell=a.home
    ·rw[if_pos q3] at hkd;omega
    rw[if_neg q3] at hkd
    by_cases q4:¬epoch=a.epoch+1∧(cell=a.home→¬epoch=a.epoch)
    ·rw[if_pos q4] at hkd;omega
    rw[if_neg q4] at hkd
    by_cases q5:¬n=(csAt s cell).running∨¬(csAt s cell).running=(csAt s cell).wanted
    ·rw[if_pos q5] at hkd;omega
    rw[if_neg q5] at hkd
    have q6:¬ (since<tick∨tick+c.lease<since∨till≤since∨c.lease<till-since∨since<a.win.till∨¬cell=a.home∧tick<a.win.till):=by simpa using hkd
    simp only[tenEff,grantT,show ¬ ((2:Int)=1) by omega,if_false,if_true]
    split
    ·rename_i hh
     refine⟨⟨?_,?_⟩,fun _ h=>absurd rfl h,fun h=>h⟩<;>simp only<;>omega
    ·have hep:epoch=a.epoch+1:=by omega
     split
     ·refine⟨⟨?_,?_⟩,fun _ h=>⟨hep,?_⟩,fun h=>h⟩<;>(try simp only)<;>omega
     ·refine⟨⟨?_,?_⟩,fun _ h=>⟨hep,?_⟩,fun h=>h⟩<;>(try simp only)<;>omega
   ·exact⟨⟨Int.le_refl _,by simp[tenEff];omega⟩,fun _ h=>absurd rfl h,fun h=>h⟩
   ·exact⟨⟨Int.le_refl _,by simp[tenEff];omega⟩,fun _ h=>absurd rfl h,fun h=>h⟩
   ·exact⟨⟨Int.le_refl _,by simp[tenEff];omega⟩,fun _ h=>absurd rfl h,fun h=>h⟩
   ·exact⟨⟨Int.le_refl _,by simp[tenEff];omega⟩,fun _ h=>absurd rfl h,fun h=>h⟩
   ·exact⟨⟨Int.le_refl _,by simp[tenEff];omega⟩,fun _ h=>absurd rfl h,fun h=>h⟩
   ·by_cases hn:n=1
    ·subst hn
     exact⟨⟨Int.le_refl _,by simp[tenEff];omega⟩,fun _ h=>absurd rfl h,fun h=>h⟩
    ·have:tenEff a ⟨8,tick,tenant,cell,other,epoch,since,till,n⟩={ a with shed:=false }:=by simp[tenEff,hn]
     rw[this]
     exact⟨⟨Int.le_refl _,by simp only;omega⟩,fun _ h=>absurd rfl h,fun h=>h⟩
  ·simp[hi] at h2
   rw[h1] at h2
   injection h2 with h2
   rw[← h2]
   exact ep_same _ _
 ·rw[eff_ten' h8,h1] at h2
  injection h2 with h2
  rw[← h2]
  exact ep_same _ _
/-! Windows. -/
def WinOk (s:St) (t:TS):Prop:=t.win.till≤s.tick∨(t.placed=true∧t.shed=false∧t.win.cell=t.home∧t.win.epoch=t.epoch∧t.win.version=(csAt s t.home).running)
def WinInv (s:St):Prop:=∀ t ∈ s.tenants,WinOk s t
theorem win_new (c:Cfg):WinInv (stNew c):=by
 intro t ht
 obtain rfl:=List.eq_of_mem_replicate (show t ∈ List.replicate c.tenants.length tsNew from ht)
 exact .inl (by simp[tsNew,stNew])
theorem win_keep {s x:St} {t:TS} (h:WinOk s t) (ht:s.tick≤x.tick) (hc:∀ k,(csAt x k).running=(csAt s k).running):WinOk x t:=by
 rcases h with h | ⟨h1,h2,h3,h4,h5⟩
 ·exact .inl (by omega)
 ·exact .inr ⟨h1,h2,h3,h4,by rw[hc];exact h5⟩
theorem win_step {c:Cfg} {s x:St} {e:Ent} (hV:CfgV c) (hI:StInv c s) (hP:PlsInv c s) (hc:WinInv s) (h:applyP c s e=(x,0)):WinInv x:=by
 obtain⟨hr,hx,-⟩:=applyP_ok h
 have ha:=acc_of hr
 have hx':x.tick=e.tick:=by rw[hx];exact eff_tick
 have htk:=ha.tick
 by_cases h8:e.kind≤8
 ·have hcc:∀ k,(csAt x k).running=(csAt s k).running:=by
   intro k
   rw[hx];unfold csAt
   rw[eff_cel (.inl h8)]
  have hcs:∀ k,csAt x k=csAt s k:=by
   intro k
   rw[hx];unfold csAt
   rw[eff_cel (.inl h8)]
  intro t ht
  rw[hx,eff_ten h8] at ht
  rcases List.mem_or_eq_of_mem_set ht with ht | rfl
  ·exact win_keep (hc t ht) (by omega) hcc
  ·have hten:=ent_ten hI ha.ent h8
   have h0:=hc _ (tsAt_mem hten.1 hten.2).2
   have hp:=hP _ _ (tsAt_mem hten.1 hten.2).1
   have hti:=hI.ten _ (tsAt_mem hten.1 hten.2).2
   have hkd:=ha.kind
   have hk:=ent_kind ha.ent
   have h0':WinOk x (tsAt s e.tenant):=win_keep h0 (by omega) hcc
   clear ha h hr ht hI hP
   obtain⟨kind,tick,tenant,cell,other,epoch,since,till,n⟩:=e
   simp only at *
   have hk':kind=1∨kind=2∨kind=3∨kind=4∨kind=5∨kind=6∨kind=7∨kind=8:=by omega
   generalize htd:tsAt s tenant=a at *
   rcases hk' with rfl | rfl | rfl | rfl | rfl | rfl | rfl | rfl
   ·have hpl:a.placed=false:=by
     simp only[kindE,placeE,htd] at hkd
     simp at hkd
     cases h:a.placed with
     | false=>rfl
     | true=>simp[h] at hkd
    rcases h0' with h | ⟨h,-⟩
    ·exact .inl h
    ·rw[hpl] at h;cases h
   ·simp only[kindE,grantE,htd] at hkd
    simp at hkd
    by_cases q1:a.placed=false∨a.shed=true∧¬cell=a.standby
    ·rw[if_pos q1] at hkd;omega
    rw[if_neg q1] at hkd
    by_cases q2:¬cell=a.home∧¬cell=a.standby∧¬cell=a.target
    ·rw[if_pos q2] at hkd;omega
    rw[if_neg q2] at hkd
    by_cases q3:(csAt s cell).mode=3∨(csAt s cell).mode=2∧¬cell=a.home
    ·rw[if_pos q3] at hkd;omega
    rw[if_neg q3] at hkd
    by_cases q4:¬epoch=a.epoch+1∧(cell=a.home→¬epoch=a.epoch)
    ·rw[if_pos q4] at hkd;omega
    rw[if_neg q4] at hkd
    by_cases q5:¬n=(csAt s cell).running∨¬(csAt s cell).running=(csAt s cell).wanted
    ·rw[if_pos q5] at hkd;omega
    simp only[not_or,not_and,Bool.not_eq_false,Classical.not_not] at q1 q5
    have ho:=hp.on q1.1
    simp only[tenEff,grantT,show ¬ ((2:Int)=1) by omega,if_false,if_true]
    right
    split
    ·rename_i hh
     refine⟨q1.1,?_,hh,rfl,?_⟩
     ·show a.shed=false
      cases hs:a.shed with
      | false=>rfl
      | true=>
       have h1:=q1.2 hs
       have h2:=ho.standby (by have:=ho.home.1;omega)
       exact absurd (h1.symm.trans hh) (apartB_ne h2.2.1)
     ·show n=(csAt x a.home).running
      rw[hcc,← hh];exact q5.1
    ·split
     ·exact⟨q1.1,rfl,rfl,rfl,by show n=(csAt x cell).running;rw[hcc];exact q5.1⟩
     ·rename_i hh1 hh2
      refine⟨q1.1,?_,rfl,rfl,by show n=(csAt x cell).running;rw[hcc];exact q5.1⟩
      show a.shed=false
      cases hs:a.shed with
      | false=>rfl
      | true=>exact absurd (q1.2 hs) hh2
   ·rcases h0' with h | ⟨h1,h2,h3,h4,h5⟩
    ·left
     show min a.win.till (tick+1)≤x.tick
     omega
    ·exact .inr ⟨h1,h2,h3,h4,h5⟩
   ·exact h0'
   ·exact h0'
   ·exact h0'
   ·exact h0'
   ·simp only[kindE,shedE,htd] at hkd
    simp at hkd
    left
    by_cases hn:n=0
    ·rw[if_pos hn] at hkd
     have hs:a.shed=true:=by
      cases h:a.shed with
      | true=>rfl
      | false=>simp[h] at hkd
     have:tenEff a ⟨8,tick,tenant,cell,other,epoch,since,till,n⟩={ a with shed:=false }:=by simp[tenEff,hn]
     rw[this]
     rcases h0' with h | ⟨h1,h2,-⟩
     ·exact h
     ·rw[hs] at h2;cases h2
    ·rw[if_neg hn] at hkd
     have hw:a.win.till≤tick:=by
      by_cases q1:a.placed=false∨a.shed=true
      ·rw[if_pos q1] at hkd;omega
      rw[if_neg q1] at hkd
      have:¬ tick<a.win.till:=by simpa using hkd
      omega
     have:(tenEff a ⟨8,tick,tenant,cell,other,epoch,since,till,n⟩).win=a.win:=by
      simp only[tenEff]
      simp
      split<;>rfl
     rw[this]
     omega
 ·intro t ht
  rw[hx,eff_ten' h8] at ht
  by_cases h11:e.kind=11
  ·rcases hc t ht with h | ⟨h1,h2,h3,h4,h5⟩
   ·exact .inl (by omega)
   ·by_cases hcl:e.tick<t.win.till
    ·right
     refine⟨h1,h2,h3,h4,?_⟩
     have hne:t.home≠e.cell:=by
      intro hh
      have hkd:=ha.kind
      have:(s.tenants.any (fun t=>decide (t.win.cell=e.cell)&&decide (e.tick<t.win.till)))=true:=List.any_eq_true.2 ⟨t,ht,by simp[h3,hh,hcl]⟩
      simp only[kindE,h11,runsE,this] at hkd
      simp at hkd
      by_cases q1:¬(csAt s e.cell).wanted=e.n∨(csAt s e.cell).running=(csAt s e.cell).wanted
      ·rw[if_pos q1] at hkd;omega
      rw[if_neg q1] at hkd
      by_cases q2:hasB s.proven e.n=false∧¬s.evac=0
      ·rw[if_pos q2] at hkd;omega
      rw[if_neg q2] at hkd
      omega
     obtain⟨-,-,hC,-⟩:=ent_rng ha.ent
     have hcel:0≤e.cell:=by
      have:fC c.cells.length e.kind=(0,(c.cells.length:Int)-1):=if_pos (by omega)
      rw[this] at hC
      simp[inS,inR] at hC
      omega
     have hh:=(hI.ten t ht).placed h1
     rw[h5]
     unfold csAt
     rw[hx,eff_cel' (by omega) (by omega),List.getD_eq_getElem?_getD,List.getD_eq_getElem?_getD,List.getElem?_set_ne (by omega)]
    ·exact .inl (by omega)
  ·have hcc:∀ k,(csAt x k).running=(csAt s k).running:=by
    intro k
    rw[hx];unfold csAt
    by_cases h2:11<e.kind
    ·rw[eff_cel (.inr h2)]
    ·rw[eff_cel' (by omega) (by omega)]
     have hrun:(celEff (csAt s e.cell) e).running=(csAt s e.cell).running:=by
      simp only[celEff,h11,if_false]
      split
      ·rfl
      ·split<;>rfl
     rw[List.getD_eq_getElem?_getD,List.getElem?_set]
     by_cases hk:e.cell.toNat=k.toNat
     ·rw[if_pos hk]
      split
      ·rename_i hl
       simp only[Option.getD_some,hrun]
       unfold csAt
       rw[hk]
      ·rename_i hl
       rw[List.getD_eq_getElem?_getD,List.getElem?_eq_none (by omega)]
     ·rw[if_neg hk,List.getD_eq_getElem?_getD]
   exact win_keep (hc t ht) (by omega) hcc
theorem mkLight_below (A:Option Addr) (n cp:Nat) (w:World) (hn:n≤maxLen):Calls Tryz.prog 6 #[.slice A n cp] w fun r w'=>r=.returned (.bool (decide (n≤200)))∧Below w.heap.size w w':=by
 refine (mkLight_any A n cp w hn).mono ?_
 rintro e w' ⟨h,rfl⟩
 exact⟨h,Below.refl _ _⟩
def ctLight:CT:=fun vs mem nx K=>∃ Mz0 xz0 z0,vs=[slc Mz0 (z0:List Int).length xz0]∧(lk mem Mz0=some (intRow z0))∧(z0.length≤maxLen)∧K (.bool (decide (z0.length≤200))) mem nx
theorem lightOk:CSound Tryz.prog 6 ctLight:=(ptsOk (R:=fun l z=>∃ z0,l=[.li z0]∧z=.bool (decide (z0.length≤200))) (pre:=fun l=>∃ z0,l=[.li z0]∧(z0.length≤maxLen)) (by kernel_rfl) (by
 rintro ps w ⟨z0,hps,hpre⟩ hok
 obtain⟨xz0,yz0,ps0,rfl,hps0⟩:=dt_l hps
 obtain rfl:=dt_nil hps0
 have hpz0:=hok (.li xz0 yz0 z0) (by simp)
 refine (mkLight_below xz0 z0.length yz0 w hpre).mono ?_
 rintro e w' ⟨rfl,hb⟩
 exact⟨_,⟨z0,rfl,rfl⟩,trivial,rfl,hb⟩)).mono (by
 rintro vs mem nx K ⟨Mz0,xz0,z0,rfl,hk,hpre,hK⟩
 exact⟨[.li Mz0 xz0 z0],rfl,⟨hk,trivial⟩,⟨_,rfl,hpre⟩,by rintro z ⟨z0',hl,hz⟩;cases hl;subst hz;exact hK⟩)
end Go.Proofs.YtdjkeplekchfdaaGreat
