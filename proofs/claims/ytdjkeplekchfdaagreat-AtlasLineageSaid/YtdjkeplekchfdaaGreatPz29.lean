import Derived.Test.YtdjkeplekchfdaaGreatPz18
import Derived.Test.YtdjkeplekchfdaaGreatPz28
namespace Go.Proofs.YtdjkeplekchfdaaGreat
open Go.RowKit
set_option linter.unusedSimpArgs false
set_option linter.unusedVariables false
set_option maxHeartbeats 1000000 in
theorem ldAdd_any (base:Nat) (A:Option Addr) (cp:Nat) (l:List Int) (i n:Int) (w:World) (hm:l.length≤1000) (hown:w.ownsRow base 3 1 (.slice A l.length cp) l.length (flat intC l))
  (hl:∀ z ∈ l,0≤z∧z≤1000000000) (hn:0≤n) (hn2:n≤1000000) :
  Calls Tryz.prog 147 #[.slice A l.length cp,.int .i64 i,.int .i64 n] w (fun e w'=>AddPost base A cp (addAt l i n) w e w'):=by
 have hlen:=addAt_len l i n
 by_cases hi:0≤i∧i<l.length
 ·obtain⟨h0,h1⟩:=hi
  obtain⟨k,rfl⟩:=Int.eq_ofNat_of_zero_le h0
  have hk:k<l.length:=by omega
  obtain⟨g,cap',hv,_,hlt⟩:=hown.form (by omega)
  simp only[Value.slice.injEq,true_and] at hv
  obtain⟨rfl,rfl⟩:=hv
  have c0:=hown.cellAt k (by omega)
  rw[flat_int,List.getElem?_map,List.getElem?_eq_getElem hk] at c0
  simp only[Option.map_some] at c0
  have f0:=hown.frozenAt k
  have hz:=hl l[k] (List.getElem_mem hk)
  have ha:addAt l k n=l.set k (l[k]+n):=by
   unfold addAt
   rw[if_pos ⟨h0,h1⟩,Int.toNat_natCast,getD_some (List.getElem?_eq_getElem hk)]
  have hst:=hown.stored k (.int .i64 (l[k]+n))
  rw[flat_int_set] at hst
  have hp:AddPost base (some ⟨g,0,none⟩) cp (addAt l k n) w (.returned (.tuple #[])) (w.setCell ⟨g,k,none⟩ (.int .i64 (l[k]+n))):=by
   refine⟨rfl,?_,?_⟩
   ·rw[hlen,ha];exact hst.1
   ·exact hst.2
  have HP:=Lib.hid hp
  clear hp hst ha hown hl hlen
  generalize l[k]=z at *
  go_enter Tryz.func147,Tryz.ntmps147
  go_wp2
  go_end0
  exact HP.out
 ·have ha:addAt l i n=l:=by unfold addAt;rw[if_neg hi]
  have hp:AddPost base A cp (addAt l i n) w (.returned (.tuple #[])) w:=by rw[ha];exact⟨rfl,hown,grown_refl _ _⟩
  have HP:=Lib.hid hp
  have hd:i<0∨(0≤i∧(l.length:Int)≤i):=by omega
  clear hp ha hown hl hlen hi
  rcases hd with hd | ⟨hd1,hd⟩
  all_goals
   go_enter Tryz.func147,Tryz.ntmps147
   go_wp2
   go_end0
   exact HP.out
set_option maxHeartbeats 1000000 in
theorem ldActive_any (t:TS) (w:World):Calls Tryz.prog 146 #[.agg (tsC t).toArray] w fun r w'=>r=.returned (.bool (t.placed&&!t.shed))∧Below w.heap.size w w':=by
 unfold tsC
 go_enter Tryz.func146,Tryz.ntmps146
 go_wp2
 all_goals
  go_ret
  refine⟨ret_bool ?_,(Below.refl _ _).alloc (Nat.le_refl _) _⟩
  go_light
  simp_all
set_option maxHeartbeats 1000000 in
theorem ldCount_any (x:CfgA) (c:Cfg) (y:StA) (s:St) (w:World) (hV:CfgV c) (hI:s.tenants.length=c.tenants.length) :
  Calls Tryz.prog 145 #[.agg (cfgC x c),.agg (stC y s)] w fun r w'=>r=.returned (.int .i64 s.tenants.length)∧Below w.heap.size w w':=by
 have hnt:=hV.nt
 obtain⟨az,cz,ac,cc,at_,ct,av,cv,ar,cr,ao,co⟩:=x
 obtain⟨sat,sct,sac,scc⟩:=y
 have HI:=Lib.hid hI
 unfold cfgC stC
 simp only
 rw[hI]
 clear hI hV
 generalize c.tenants.length=m at *
 go_enter Tryz.func145,Tryz.ntmps145
 go_wp2
 all_goals
  go_ret
  exact⟨rfl,((Below.refl _ _).alloc (Nat.le_refl _) _).alloc (by simp) _⟩
theorem tenSize7:(Tryz.prog.info? 85).map (·.size)=some 7:=by kernel_rfl
theorem tsSize12:(Tryz.prog.info? 73).map (·.size)=some 12:=by kernel_rfl
def BookRel (W:World) (c:Cfg) (s:St) (A:Option Addr) (cp:Nat) (gk:Nat) (si:Value) (wr:World):Prop:=
 ∃ k:Nat,gk+k=s.tenants.length∧si=.int .i64 k∧wr.ownsRow W.heap.size 3 1 (.slice A c.cells.length cp) c.cells.length (flat intC (bookK c s k))∧Below W.heap.size W wr
theorem ldAdd2 (m base:Nat) (A:Option Addr) (cp:Nat) (l:List Int) (i n:Int) (w:World) (hlm:l.length=m) (hm:m≤1000) (hown:w.ownsRow base 3 1 (.slice A m cp) m (flat intC l))
  (hl:∀ z ∈ l,0≤z∧z≤1000000000) (hn:0≤n) (hn2:n≤1000000) :
  Calls Tryz.prog 147 #[.slice A m cp,.int .i64 i,.int .i64 n] w (fun e w'=>e=.returned (.tuple #[])∧w'.ownsRow base 3 1 (.slice A m cp) m (flat intC (addAt l i n))∧w.grownBy w' (Value.slice A m cp).ownBlock):=by
 subst hlm
 refine (ldAdd_any base A cp l i n w hm hown hl hn hn2).mono ?_
 rintro e w' ⟨h1,h2,h3⟩
 rw[addAt_len] at h2 h3
 exact⟨h1,h2,h3⟩
theorem made_zeros (n:Nat):(madeCells #[Value.int IntKind.i64 0] n).toList=flat intC (List.replicate n 0):=by
 rw[flat_int,toList_madeCells_one]
 simp
set_option maxHeartbeats 8000000 in
set_option maxRecDepth 100000 in
theorem ldBooked_any (x:CfgA) (c:Cfg) (y:StA) (s:St) (w:World) (hV:CfgV c) (hc:CfgOk w (·<w.heap.size) x c) (hI:StInv c s) (hs:StOk w (·<w.heap.size) y s) :
  Calls Tryz.prog 114 #[.agg (cfgC x c),.agg (stC y s)] w (IntsPost w (booked c s)):=by
 obtain⟨ii,hii,hi0,hi1,hi2⟩:=info_parts r5intInfo
 have hnc:=hV.nc
 have hntt:=hV.nt
 have hlt0:=hI.lt
 have HLT:=Lib.hid hlt0
 clear hlt0
 obtain⟨az,cz,ac,cc,at_,ct,av,cv,ar,cr,ao,co⟩:=x
 have HV:=Lib.hid hV
 have HKc:=Lib.hid hc
 clear hV hc
 obtain⟨sat,sct,sac,scc⟩:=y
 have HKs:=Lib.hid hs
 have hsl:1≤s.cells.length∧s.cells.length≤16:=by have:=hI.lc;omega
 have hst:s.tenants.length≤32:=by have:=hI.lt;omega
 have HI:=Lib.hid hI
 clear hs hI
 have HC:=Lib.hid (fun W=>ldCount_any ⟨az,cz,ac,cc,at_,ct,av,cv,ar,cr,ao,co⟩ c ⟨sat,sct,sac,scc⟩ s W HV.out HLT.out)
 unfold cfgC stC at HC
 simp only at HC
 have hL:Below w.heap.size w ((w.alloc (.cells #[.int .i64 c.regions,.slice az c.zones.length cz,.slice ac c.cells.length cc,.slice at_ c.tenants.length ct,.slice av c.versions.length cv,.slice ar c.replicas.length cr,.slice ao c.observers.length co,.int .i64 c.blast,.int .i64 c.lease,.int .i64 c.bake] 36)).alloc (.cells #[.int .i64 s.tick,.int .i64 s.count,.slice sat s.tenants.length sct,.slice sac s.cells.length scc,.int .i64 s.proven,.int .i64 s.evac,.int .i64 s.low,.int .i64 s.high] 52)):=(((Below.refl w.heap.size w).alloc (by simp<;>omega) (.cells #[.int .i64 c.regions,.slice az c.zones.length cz,.slice ac c.cells.length cc,.slice at_ c.tenants.length ct,.slice av c.versions.length cv,.slice ar c.replicas.length cr,.slice ao c.observers.length co,.int .i64 c.blast,.int .i64 c.lease,.int .i64 c.bake] 36)).alloc (by simp<;>omega) (.cells #[.int .i64 s.tick,.int .i64 s.count,.slice sat s.tenants.length sct,.slice sac s.cells.length scc,.int .i64 s.proven,.int .i64 s.evac,.int .i64 s.low,.int .i64 s.high] 52))
 have hBc:Blk ((w.alloc (.cells #[.int .i64 c.regions,.slice az c.zones.length cz,.slice ac c.cells.length cc,.slice at_ c.tenants.length ct,.slice av c.versions.length cv,.slice ar c.replicas.length cr,.slice ao c.observers.length co,.int .i64 c.blast,.int .i64 c.lease,.int .i64 c.bake] 36)).alloc (.cells #[.int .i64 s.tick,.int .i64 s.count,.slice sat s.tenants.length sct,.slice sac s.cells.length scc,.int .i64 s.proven,.int .i64 s.evac,.int .i64 s.low,.int .i64 s.high] 52)) (w.heap.size) 36 #[.int .i64 c.regions,.slice az c.zones.length cz,.slice ac c.cells.length cc,.slice at_ c.tenants.length ct,.slice av c.versions.length cv,.slice ar c.replicas.length cr,.slice ao c.observers.length co,.int .i64 c.blast,.int .i64 c.lease,.int .i64 c.bake]:=by
  have:=((Blk.new w 36 #[.int .i64 c.regions,.slice az c.zones.length cz,.slice ac c.cells.length cc,.slice at_ c.tenants.length ct,.slice av c.versions.length cv,.slice ar c.replicas.length cr,.slice ao c.observers.length co,.int .i64 c.blast,.int .i64 c.lease,.int .i64 c.bake]).alloc (.cells #[.int .i64 s.tick,.int .i64 s.count,.slice sat s.tenants.length sct,.slice sac s.cells.length scc,.int .i64 s.proven,.int .i64 s.evac,.int .i64 s.low,.int .i64 s.high] 52))
  simpa using this
 have hBs:Blk ((w.alloc (.cells #[.int .i64 c.regions,.slice az c.zones.length cz,.slice ac c.cells.length cc,.slice at_ c.tenants.length ct,.slice av c.versions.length cv,.slice ar c.replicas.length cr,.slice ao c.observers.length co,.int .i64 c.blast,.int .i64 c.lease,.int .i64 c.bake] 36)).alloc (.cells #[.int .i64 s.tick,.int .i64 s.count,.slice sat s.tenants.length sct,.slice sac s.cells.length scc,.int .i64 s.proven,.int .i64 s.evac,.int .i64 s.low,.int .i64 s.high] 52)) (w.heap.size+1) 52 #[.int .i64 s.tick,.int .i64 s.count,.slice sat s.tenants.length sct,.slice sac s.cells.length scc,.int .i64 s.proven,.int .i64 s.evac,.int .i64 s.low,.int .i64 s.high]:=by
  have:=(Blk.new (w.alloc (.cells #[.int .i64 c.regions,.slice az c.zones.length cz,.slice ac c.cells.length cc,.slice at_ c.tenants.length ct,.slice av c.versions.length cv,.slice ar c.replicas.length cr,.slice ao c.observers.length co,.int .i64 c.blast,.int .i64 c.lease,.int .i64 c.bake] 36)) 52 #[.int .i64 s.tick,.int .i64 s.count,.slice sat s.tenants.length sct,.slice sac s.cells.length scc,.int .i64 s.proven,.int .i64 s.evac,.int .i64 s.low,.int .i64 s.high])
  simpa using this
 unfold cfgC stC
 simp only
 go_enter Tryz.func114,Tryz.ntmps114
 go_upto_region 1 with fail
 generalize (w.alloc _).alloc _=W at *
 have hgc:=hBc.lt
 have d0:=hBc.cell' (i:=0) (v:=.int .i64 c.regions) rfl
 have d1:=hBc.cell' (i:=1) (v:=.slice az c.zones.length cz) rfl
 have d2:=hBc.cell' (i:=2) (v:=.slice ac c.cells.length cc) rfl
 have d3:=hBc.cell' (i:=3) (v:=.slice at_ c.tenants.length ct) rfl
 have d4:=hBc.cell' (i:=4) (v:=.slice av c.versions.length cv) rfl
 have d5:=hBc.cell' (i:=5) (v:=.slice ar c.replicas.length cr) rfl
 have d6:=hBc.cell' (i:=6) (v:=.slice ao c.observers.length co) rfl
 have d7:=hBc.cell' (i:=7) (v:=.int .i64 c.blast) rfl
 have d8:=hBc.cell' (i:=8) (v:=.int .i64 c.lease) rfl
 have d9:=hBc.cell' (i:=9) (v:=.int .i64 c.bake) rfl
 clear hBc
 have hgs:=hBs.lt
 have su0:=hBs.cell' (i:=0) (v:=.int .i64 s.tick) rfl
 have su1:=hBs.cell' (i:=1) (v:=.int .i64 s.count) rfl
 have su2:=hBs.cell' (i:=2) (v:=.slice sat s.tenants.length sct) rfl
 have su3:=hBs.cell' (i:=3) (v:=.slice sac s.cells.length scc) rfl
 have su4:=hBs.cell' (i:=4) (v:=.int .i64 s.proven) rfl
 have su5:=hBs.cell' (i:=5) (v:=.int .i64 s.evac) rfl
 have su6:=hBs.cell' (i:=6) (v:=.int .i64 s.low) rfl
 have su7:=hBs.cell' (i:=7) (v:=.int .i64 s.high) rfl
 clear hBs
 have HL:=Lib.hid hL
 have HWc:=Lib.hid (HKc.out.belowW hL)
 have HWs:=Lib.hid (HKs.out.belowW hL)
 clear hL
 go_wp2_with (at_make;refine wpList_make_full W rfl _ _ _ rfl W.heap.size 3 ii _ 1 Tryz.underlying22 hii hi0 hi1 .i64 .i64 _ _ c.cells.length rfl rfl rfl rfl ?b1 ?b2 ?b3 ?_)
 case b1=>rw[hi2];omega
 case b2=>unfold maxLen;omega
 case b3=>exact Nat.le_refl _
 intro w1 hO1 hg1
 rw[made_zeros] at hO1
 have hB1:Below W.heap.size W w1:=(Below.refl _ _).grown hg1 (Nat.le_refl _) (by rintro _ ⟨⟩)
 have hlt1:=(hO1.lt W.heap.size rfl).2
 obtain⟨hc1,hf1⟩:=bcell hB1
 have HO1:=Lib.hid hO1
 have HB1:=Lib.hid hB1
 clear hO1 hg1 hB1 hf1
 go_wp2_with fail
 refine (HC.out _).mono ?_
 rintro r w2 ⟨rfl,hb2⟩
 have HO2:=Lib.hid (own_below HO1.out hb2 fun j hj=>(HO1.out.lt j hj).2)
 have HB2:=Lib.hid (HB1.out.trans (hb2.mono HB1.out.size))
 clear hb2 HO1 HB1 hc1 hlt1 HC
 go_wp2
 have hgr:∃ gr,gr=W.heap.size:=⟨_,rfl⟩
 obtain⟨gr,hgr⟩:=hgr
 go_loopg [16] s.tenants.length (fun gk si wr=>BookRel W c s (some ⟨W.heap.size,0,none⟩) c.cells.length gk si wr)
 case atStart=>exact⟨0,by omega,rfl,HO2.out,HB2.out⟩
 case round=>
  rename_i J K aJ aK
  obtain⟨k,hgk,rfl,hown,hbel⟩:=hrel
  have HO:=Lib.hid hown
  have HB:=Lib.hid hbel
  have hsz:=hbel.size
  have hszlt:W.heap.size<wr.heap.size:=(hown.lt W.heap.size rfl).2
  obtain⟨hcW,hfW⟩:=bcell hbel
  clear hown hbel hfW HO2 HB2
  by_cases hk:k<s.tenants.length
  ·have hlt:(k:Int)<(s.tenants.length:Int):=by omega
   have hk2:k<c.tenants.length:=by have:=HLT.out;omega
   have hlt2:(k:Int)<(c.tenants.length:Int):=by omega
   obtain⟨bt,oft,t,rfl,hbt,hzt,hct⟩:=HWs.out.tenants.row (enc:=tsC) (sz:=12) (fun _=>rfl) (by omega) hk
   obtain⟨bd,ofd,de,rfl,hbd,hzd,hcd⟩:=HWc.out.tenants.row (enc:=tenC) (sz:=7) (fun _=>rfl) (by omega) hk2
   have hbtW:bt<W.heap.size:=hbt
   have hbdW:bd<W.heap.size:=hbd
   have hbt2:bt<wr.heap.size:=Nat.lt_of_lt_of_le hbt hsz
   have hbd2:bd<wr.heap.size:=Nat.lt_of_lt_of_le hbd hsz
   have hgc2:w.heap.size<wr.heap.size:=Nat.lt_of_lt_of_le hgc hsz
   have hgs2:w.heap.size+1<wr.heap.size:=Nat.lt_of_lt_of_le hgs hsz
   have t0:=hct 0 (.bool t.placed) rfl
   have t1:=hct 1 (.bool t.shed) rfl
   have t2:=hct 2 (.int .i64 t.home) rfl
   have t3:=hct 3 (.int .i64 t.standby) rfl
   have t4:=hct 4 (.int .i64 t.next) rfl
   have t5:=hct 5 (.int .i64 t.target) rfl
   have t6:=hct 6 (.int .i64 t.epoch) rfl
   have t7:=hct 7 (.int .i64 t.win.cell) rfl
   have t8:=hct 8 (.int .i64 t.win.epoch) rfl
   have t9:=hct 9 (.int .i64 t.win.version) rfl
   have t10:=hct 10 (.int .i64 t.win.since) rfl
   have t11:=hct 11 (.int .i64 t.win.till) rfl
   have y0:=hcd 0 (.int .i64 de.load) rfl
   have y1:=hcd 1 (.int .i64 de.shadow) rfl
   have y2:=hcd 2 (.int .i64 de.prio) rfl
   have y3:=hcd 3 (.int .i64 de.lag) rfl
   have y4:=hcd 4 (.int .i64 de.allowed) rfl
   have y5:=hcd 5 (.int .i64 de.group) rfl
   have y6:=hcd 6 (.bool de.noisy) rfl
   simp only[Nat.add_zero] at t0 y0
   have hdb:=tenAt_bd HV.out hzd
   have HS:=Lib.hid (bookK_succ hzt hzd)
   have HWI:=Lib.hid (bookK_within HV.out s k)
   clear hct hcd hzt hzd hbt hbd
   go_upto_region 5 with fail
   go_cut [7,8,16] from 16 to 58 (fun v7 v8 v16 wx=>v16=.int .i64 k∧∃ ga gb,v7=.pointer (some ⟨ga,0,none⟩)∧v8=.pointer (some ⟨gb,0,none⟩)∧TwoC wr 85 73 #[.int .i64 de.load,.int .i64 de.shadow,.int .i64 de.prio,.int .i64 de.lag,.int .i64 de.allowed,.int .i64 de.group,.bool de.noisy] #[.bool t.placed,.bool t.shed,.int .i64 t.home,.int .i64 t.standby,.int .i64 t.next,.int .i64 t.target,.int .i64 t.epoch,.int .i64 t.win.cell,.int .i64 t.win.epoch,.int .i64 t.win.version,.int .i64 t.win.since,.int .i64 t.win.till] ga gb wx∧wr.heap.size≤ga∧wr.heap.size≤gb)
   case first=>
    refine wp_region_seqI (fun w':World=>Below wr.heap.size wr w') 13 [0,1,2,3,4,5,6,7,8,9] [10,11,12] (fun i=>if i=12 then [10,11] else []) (by kernel_rfl) (by kernel_rfl) (Below.refl _ _).drew ?_
    simp only[List.take_succ_cons,List.take_zero,List.drop_succ_cons,List.drop_zero]
    repeat (refine wpSeqI_fix _ ?_ rfl (by first | exact fun _ _ _ h=>h | exact fun _ _ _ h=>hpan _ _ _ _ _ h) (Or.inl ⟨by rfl,?_⟩) ?_;rotate_left;(intro w' hSw;(try dsimp only at hSw);obtain⟨hc,hf⟩:=bcell hSw;clear hf hSw;go_simp;(try with_reducible rfl));(simp only[List.getElem_toArray,List.getElem_cons_zero,List.getElem_cons_succ,Act.put,List.setIfInBounds_toArray,List.set_cons_zero,List.set_cons_succ]))
    refine wpSeqI_acts (fun a0 d a wx=>∃ va vb ga gb,a=((a0.put (some 7) va).put (some 8) vb)∧TwoJ wr 85 73 #[.int .i64 0,.int .i64 0,.int .i64 0,.int .i64 0,.int .i64 0,.int .i64 0,.bool false] #[.int .i64 de.load,.int .i64 de.shadow,.int .i64 de.prio,.int .i64 de.lag,.int .i64 de.allowed,.int .i64 de.group,.bool de.noisy] #[.bool false,.bool false,.int .i64 0,.int .i64 0,.int .i64 0,.int .i64 0,.int .i64 0,.int .i64 0,.int .i64 0,.int .i64 0,.int .i64 0,.int .i64 0] 10 11 12 d va vb ga gb wx) ?j1 ?j2 ?j3
    case j1=>
     intro d hd
     refine⟨_,_,0,0,rfl,TwoJ.start (Below.refl _ _).drew (hd 10 (by simp)) (hd 11 (by simp)) (hd 12 (by simp))⟩
    case j2=>
     refine acts_cons (actStep_op rfl rfl ?s10) (acts_cons (actStep_op rfl rfl ?s11) (acts_cons (actStep_op rfl rfl ?s12) acts_nil))
     case s10=>
      rintro d a wx h0 hp hS ⟨va,vb,ga,gb,rfl,hJ⟩
      have HJ:=Lib.hid (hJ.allocA h0 (by decide) (by decide))
      clear hJ hS hp h0
      simp only[List.getElem_toArray,List.getElem_cons_zero,List.getElem_cons_succ,Act.put,List.setIfInBounds_toArray,List.set_cons_zero,List.set_cons_succ]
      go_simp
      exact⟨HJ.out.below,_,_,⟨rfl,rfl⟩,_,gb,HJ.out⟩
     case s11=>
      rintro d a wx h0 hp hS ⟨va,vb,ga,gb,rfl,hJ⟩
      have HJ:=Lib.hid (hJ.allocB (by decide) (by decide))
      clear hJ hS hp h0
      simp only[List.getElem_toArray,List.getElem_cons_zero,List.getElem_cons_succ,Act.put,List.setIfInBounds_toArray,List.set_cons_zero,List.set_cons_succ]
      go_simp
      exact⟨HJ.out.below,_,_,⟨rfl,rfl⟩,ga,_,HJ.out⟩
     case s12=>
      rintro d a wx h0 hp hS ⟨va,vb,ga,gb,rfl,hJ⟩
      have HJ:=Lib.hid (hJ.storeA (hp 10 (by simp)) (hp 11 (by simp)) (by decide) (by decide) (putL_full rfl) (putL_full rfl))
      obtain⟨rfl,hk,hle⟩:=hJ.a (hp 10 (by simp))
      clear hJ hS hp h0
      simp only[List.getElem_toArray,List.getElem_cons_zero,List.getElem_cons_succ,Act.put,List.setIfInBounds_toArray,List.set_cons_zero,List.set_cons_succ]
      refine wp_store_mid _ _ _ (by rfl) ga 0 #[.int .i64 de.load,.int .i64 de.shadow,.int .i64 de.prio,.int .i64 de.lag,.int .i64 de.allowed,.int .i64 de.group,.bool de.noisy] (by go_simp) (by go_simp) (hk.there 0 7 (by split<;>simp)) tenSize7 (by simp[Value.oneCell']) ?_
      refine⟨HJ.out.below,?_⟩
      go_simp
      exact⟨_,_,⟨rfl,rfl⟩,ga,gb,HJ.out⟩
    case j3=>
     rintro d a wx hp hS ⟨va,vb,ga,gb,rfl,hJ⟩
     obtain⟨rfl,hka,hla⟩:=hJ.a (hp 10 (by simp))
     obtain⟨rfl,hkb,hlb⟩:=hJ.b (hp 11 (by simp))
     have HJ:=Lib.hid (hJ.done1 (FB:=#[.bool t.placed,.bool t.shed,.int .i64 t.home,.int .i64 t.standby,.int .i64 t.next,.int .i64 t.target,.int .i64 t.epoch,.int .i64 t.win.cell,.int .i64 t.win.epoch,.int .i64 t.win.version,.int .i64 t.win.since,.int .i64 t.win.till]) (hp 10 (by simp)) (hp 11 (by simp)) (hp 12 (by simp)) (putL_full rfl))
     clear hJ hS hp
     simp only[List.getElem_toArray,List.getElem_cons_zero,List.getElem_cons_succ,Act.put,List.setIfInBounds_toArray,List.set_cons_zero,List.set_cons_succ,thenK]
     refine wpList_store_mid (by rfl) _ _ _ (by rfl) gb 0 #[.bool t.placed,.bool t.shed,.int .i64 t.home,.int .i64 t.standby,.int .i64 t.next,.int .i64 t.target,.int .i64 t.epoch,.int .i64 t.win.cell,.int .i64 t.win.epoch,.int .i64 t.win.version,.int .i64 t.win.since,.int .i64 t.win.till] (by go_simp) (by go_simp) (hkb.there 0 12 (by simp)) tsSize12 (by simp[Value.oneCell']) ?_
     go_wp2
     go_meet
     exact⟨rfl,ga,gb,rfl,rfl,HJ.out,hla,hlb⟩
   case rest=>
    obtain⟨rfl,ga,gb,rfl,rfl,hC,hC2⟩:=hcut
    have hA:=hC.a
    have hBk:=hC.b
    replace HO:=Lib.hid (own_below HO.out hC.below fun j hj=>(HO.out.lt j hj).2)
    replace HB:=Lib.hid (HB.out.trans (hC.below.mono hsz))
    have hga:W.heap.size<ga:=Nat.lt_of_lt_of_le hszlt hC2.1
    have hgb:W.heap.size<gb:=Nat.lt_of_lt_of_le hszlt hC2.2
    clear t0 t1 t2 t3 t4 t5 t6 t7 t8 t9 t10 t11 y0 y1 y2 y3 y4 y5 y6 hcW hC hbt2 hbd2 hgc2 hgs2 hbtW hbdW hsz
    have p0:=hA.cell' (i:=0) (v:=.int .i64 de.load) rfl
    have p1:=hA.cell' (i:=1) (v:=.int .i64 de.shadow) rfl
    have q0:=hBk.cell' (i:=0) (v:=.bool t.placed) rfl
    have q1:=hBk.cell' (i:=1) (v:=.bool t.shed) rfl
    have q2:=hBk.cell' (i:=2) (v:=.int .i64 t.home) rfl
    have q3:=hBk.cell' (i:=3) (v:=.int .i64 t.standby) rfl
    have q4:=hBk.cell' (i:=4) (v:=.int .i64 t.next) rfl
    have q5:=hBk.cell' (i:=5) (v:=.int .i64 t.target) rfl
    have q6:=hBk.cell' (i:=6) (v:=.int .i64 t.epoch) rfl
    have q7:=hBk.cell' (i:=7) (v:=.int .i64 t.win.cell) rfl
    have q8:=hBk.cell' (i:=8) (v:=.int .i64 t.win.epoch) rfl
    have q9:=hBk.cell' (i:=9) (v:=.int .i64 t.win.version) rfl
    have q10:=hBk.cell' (i:=10) (v:=.int .i64 t.win.since) rfl
    have q11:=hBk.cell' (i:=11) (v:=.int .i64 t.win.till) rfl
    have hw0:=HWI.out
    cases hpl:t.placed
    ·have HE:Hid (bookK c s (k+1)=bookK c s k):=Lib.hid (by rw[HS.out];unfold bookT;rw[if_pos hpl])
     rw[hpl] at q0
     go_wp2
     go_roundg (gk-1)
     case measure=>omega
     case rel=>exact⟨k+1,by omega,by go_num,by rw[HE.out];exact HO.out,HB.out⟩
    ·have HAC:=Lib.hid (fun W=>ldActive_any t W)
     unfold tsC at HAC
     rw[hpl] at HAC
     go_wp2_with fail
     refine (HAC.out _).mono ?_
     rintro r wn ⟨rfl,hbn⟩
     clear HAC
     replace HO:=Lib.hid (own_below HO.out hbn fun j hj=>(HO.out.lt j hj).2)
     replace HB:=Lib.hid (HB.out.trans (hbn.mono HB.out.size))
     replace hA:=hA.below hbn hA.lt
     replace hBk:=hBk.below hbn hBk.lt
     clear hbn
     replace p0:=hA.cell' (i:=0) (v:=.int .i64 de.load) rfl
     replace p1:=hA.cell' (i:=1) (v:=.int .i64 de.shadow) rfl
     replace q0:=hBk.cell' (i:=0) (v:=.bool t.placed) rfl
     replace q1:=hBk.cell' (i:=1) (v:=.bool t.shed) rfl
     replace q2:=hBk.cell' (i:=2) (v:=.int .i64 t.home) rfl
     replace q3:=hBk.cell' (i:=3) (v:=.int .i64 t.standby) rfl
     replace q4:=hBk.cell' (i:=4) (v:=.int .i64 t.next) rfl
     replace q5:=hBk.cell' (i:=5) (v:=.int .i64 t.target) rfl
     replace q6:=hBk.cell' (i:=6) (v:=.int .i64 t.epoch) rfl
     replace q7:=hBk.cell' (i:=7) (v:=.int .i64 t.win.cell) rfl
     replace q8:=hBk.cell' (i:=8) (v:=.int .i64 t.win.epoch) rfl
     replace q9:=hBk.cell' (i:=9) (v:=.int .i64 t.win.version) rfl
     replace q10:=hBk.cell' (i:=10) (v:=.int .i64 t.win.since) rfl
     replace q11:=hBk.cell' (i:=11) (v:=.int .i64 t.win.till) rfl
     cases hsh:t.shed
     ·have HE:Hid (bookK c s (k+1)=addAt (addAt (addAt (addAt (bookK c s k) t.home de.load) t.target de.load) t.standby de.shadow) t.next de.shadow):=Lib.hid (by rw[HS.out];unfold bookT;rw[if_neg (by simp[hpl]),if_neg (by simp[hsh])])
      have hw1:=hw0.add (n:=de.load) (by omega) t.home
      have hw2:=hw1.add (n:=de.load) (by omega) t.target
      have hw3:=hw2.add (n:=de.shadow) (by omega) t.standby
      go_wp2_with fail
      refine (ldAdd2 c.cells.length W.heap.size (some ⟨W.heap.size,0,none⟩) c.cells.length (bookK c s k) t.home de.load _ (by (try simp only[addAt_len]);exact bookK_len _ _ _) (by omega) HO.out (by intro z hz;have:=hw0 z hz;omega) (by omega) (by omega)).mono ?_
      rintro r wn ⟨rfl,hOn,hgn⟩
      replace HB:=Lib.hid (HB.out.grown hgn HB.out.size (by rintro _ ⟨⟩;exact Nat.le_refl _))
      replace HO:=Lib.hid hOn
      replace hA:=hA.grown hgn (by intro q;have q2:ga=W.heap.size:=Option.some.inj q;omega)
      replace hBk:=hBk.grown hgn (by intro q;have q2:gb=W.heap.size:=Option.some.inj q;omega)
      clear hOn hgn
      replace p0:=hA.cell' (i:=0) (v:=.int .i64 de.load) rfl
      replace p1:=hA.cell' (i:=1) (v:=.int .i64 de.shadow) rfl
      replace q0:=hBk.cell' (i:=0) (v:=.bool t.placed) rfl
      replace q1:=hBk.cell' (i:=1) (v:=.bool t.shed) rfl
      replace q2:=hBk.cell' (i:=2) (v:=.int .i64 t.home) rfl
      replace q3:=hBk.cell' (i:=3) (v:=.int .i64 t.standby) rfl
      replace q4:=hBk.cell' (i:=4) (v:=.int .i64 t.next) rfl
      replace q5:=hBk.cell' (i:=5) (v:=.int .i64 t.target) rfl
      replace q6:=hBk.cell' (i:=6) (v:=.int .i64 t.epoch) rfl
      replace q7:=hBk.cell' (i:=7) (v:=.int .i64 t.win.cell) rfl
      replace q8:=hBk.cell' (i:=8) (v:=.int .i64 t.win.epoch) rfl
      replace q9:=hBk.cell' (i:=9) (v:=.int .i64 t.win.version) rfl
      replace q10:=hBk.cell' (i:=10) (v:=.int .i64 t.win.since) rfl
      replace q11:=hBk.cell' (i:=11) (v:=.int .i64 t.win.till) rfl
      go_wp2_with fail
      refine (ldAdd2 c.cells.length W.heap.size (some ⟨W.heap.size,0,none⟩) c.cells.length (addAt (bookK c s k) t.home de.load) t.target de.load _ (by (try simp only[addAt_len]);exact bookK_len _ _ _) (by omega) HO.out (by intro z hz;have:=hw1 z hz;omega) (by omega) (by omega)).mono ?_
      rintro r wn ⟨rfl,hOn,hgn⟩
      replace HB:=Lib.hid (HB.out.grown hgn HB.out.size (by rintro _ ⟨⟩;exact Nat.le_refl _))
      replace HO:=Lib.hid hOn
      replace hA:=hA.grown hgn (by intro q;have q2:ga=W.heap.size:=Option.some.inj q;omega)
      replace hBk:=hBk.grown hgn (by intro q;have q2:gb=W.heap.size:=Option.some.inj q;omega)
      clear hOn hgn
      replace p0:=hA.cell' (i:=0) (v:=.int .i64 de.load) rfl
      replace p1:=hA.cell' (i:=1) (v:=.int .i64 de.shadow) rfl
      replace q0:=hBk.cell' (i:=0) (v:=.bool t.placed) rfl
      replace q1:=hBk.cell' (i:=1) (v:=.bool t.shed) rfl
      replace q2:=hBk.cell' (i:=2) (v:=.int .i64 t.home) rfl
      replace q3:=hBk.cell' (i:=3) (v:=.int .i64 t.standby) rfl
      replace q4:=hBk.cell' (i:=4) (v:=.int .i64 t.next) rfl
      replace q5:=hBk.cell' (i:=5) (v:=.int .i64 t.target) rfl
      replace q6:=hBk.cell' (i:=6) (v:=.int .i64 t.epoch) rfl
      replace q7:=hBk.cell' (i:=7) (v:=.int .i64 t.win.cell) rfl
      replace q8:=hBk.cell' (i:=8) (v:=.int .i64 t.win.epoch) rfl
      replace q9:=hBk.cell' (i:=9) (v:=.int .i64 t.win.version) rfl
      replace q10:=hBk.cell' (i:=10) (v:=.int .i64 t.win.since) rfl
      replace q11:=hBk.cell' (i:=11) (v:=.int .i64 t.win.till) rfl
      go_wp2_with fail
      refine (ldAdd2 c.cells.length W.heap.size (some ⟨W.heap.size,0,none⟩) c.cells.length (addAt (addAt (bookK c s k) t.home de.load) t.target de.load) t.standby de.shadow _ (by (try simp only[addAt_len]);exact bookK_len _ _ _) (by omega) HO.out (by intro z hz;have:=hw2 z hz;omega) (by omega) (by omega)).mono ?_
      rintro r wn ⟨rfl,hOn,hgn⟩
      replace HB:=Lib.hid (HB.out.grown hgn HB.out.size (by rintro _ ⟨⟩;exact Nat.le_refl _))
      replace HO:=Lib.hid hOn
      replace hA:=hA.grown hgn (by intro q;have q2:ga=W.heap.size:=Option.some.inj q;omega)
      replace hBk:=hBk.grown hgn (by intro q;have q2:gb=W.heap.size:=Option.some.inj q;omega)
      clear hOn hgn
      replace p0:=hA.cell' (i:=0) (v:=.int .i64 de.load) rfl
      replace p1:=hA.cell' (i:=1) (v:=.int .i64 de.shadow) rfl
      replace q0:=hBk.cell' (i:=0) (v:=.bool t.placed) rfl
      replace q1:=hBk.cell' (i:=1) (v:=.bool t.shed) rfl
      replace q2:=hBk.cell' (i:=2) (v:=.int .i64 t.home) rfl
      replace q3:=hBk.cell' (i:=3) (v:=.int .i64 t.standby) rfl
      replace q4:=hBk.cell' (i:=4) (v:=.int .i64 t.next) rfl
      replace q5:=hBk.cell' (i:=5) (v:=.int .i64 t.target) rfl
      replace q6:=hBk.cell' (i:=6) (v:=.int .i64 t.epoch) rfl
      replace q7:=hBk.cell' (i:=7) (v:=.int .i64 t.win.cell) rfl
      replace q8:=hBk.cell' (i:=8) (v:=.int .i64 t.win.epoch) rfl
      replace q9:=hBk.cell' (i:=9) (v:=.int .i64 t.win.version) rfl
      replace q10:=hBk.cell' (i:=10) (v:=.int .i64 t.win.since) rfl
      replace q11:=hBk.cell' (i:=11) (v:=.int .i64 t.win.till) rfl
      go_wp2_with fail
      refine (ldAdd2 c.cells.length W.heap.size (some ⟨W.heap.size,0,none⟩) c.cells.length (addAt (addAt (addAt (bookK c s k) t.home de.load) t.target de.load) t.standby de.shadow) t.next de.shadow _ (by (try simp only[addAt_len]);exact bookK_len _ _ _) (by omega) HO.out (by intro z hz;have:=hw3 z hz;omega) (by omega) (by omega)).mono ?_
      rintro r wn ⟨rfl,hOn,hgn⟩
      replace HB:=Lib.hid (HB.out.grown hgn HB.out.size (by rintro _ ⟨⟩;exact Nat.le_refl _))
      replace HO:=Lib.hid hOn
      replace hA:=hA.grown hgn (by intro q;have q2:ga=W.heap.size:=Option.some.inj q;omega)
      replace hBk:=hBk.grown hgn (by intro q;have q2:gb=W.heap.size:=Option.some.inj q;omega)
      clear hOn hgn
      replace p0:=hA.cell' (i:=0) (v:=.int .i64 de.load) rfl
      replace p1:=hA.cell' (i:=1) (v:=.int .i64 de.shadow) rfl
      replace q0:=hBk.cell' (i:=0) (v:=.bool t.placed) rfl
      replace q1:=hBk.cell' (i:=1) (v:=.bool t.shed) rfl
      replace q2:=hBk.cell' (i:=2) (v:=.int .i64 t.home) rfl
      replace q3:=hBk.cell' (i:=3) (v:=.int .i64 t.standby) rfl
      replace q4:=hBk.cell' (i:=4) (v:=.int .i64 t.next) rfl
      replace q5:=hBk.cell' (i:=5) (v:=.int .i64 t.target) rfl
      replace q6:=hBk.cell' (i:=6) (v:=.int .i64 t.epoch) rfl
      replace q7:=hBk.cell' (i:=7) (v:=.int .i64 t.win.cell) rfl
      replace q8:=hBk.cell' (i:=8) (v:=.int .i64 t.win.epoch) rfl
      replace q9:=hBk.cell' (i:=9) (v:=.int .i64 t.win.version) rfl
      replace q10:=hBk.cell' (i:=10) (v:=.int .i64 t.win.since) rfl
      replace q11:=hBk.cell' (i:=11) (v:=.int .i64 t.win.till) rfl
      go_wp2
      go_roundg (gk-1)
      case measure=>omega
      case rel=>exact⟨k+1,by omega,by go_num,by rw[HE.out];exact HO.out,HB.out⟩
     ·have HE:Hid (bookK c s (k+1)=addAt (addAt (bookK c s k) t.standby de.shadow) t.next de.shadow):=Lib.hid (by rw[HS.out];unfold bookT;rw[if_neg (by simp[hpl]),if_pos hsh])
      have hw1:=hw0.add (n:=de.shadow) (by omega) t.standby
      go_wp2_with fail
      refine (ldAdd2 c.cells.length W.heap.size (some ⟨W.heap.size,0,none⟩) c.cells.length (bookK c s k) t.standby de.shadow _ (by (try simp only[addAt_len]);exact bookK_len _ _ _) (by omega) HO.out (by intro z hz;have:=hw0 z hz;omega) (by omega) (by omega)).mono ?_
      rintro r wn ⟨rfl,hOn,hgn⟩
      replace HB:=Lib.hid (HB.out.grown hgn HB.out.size (by rintro _ ⟨⟩;exact Nat.le_refl _))
      replace HO:=Lib.hid hOn
      replace hA:=hA.grown hgn (by intro q;have q2:ga=W.heap.size:=Option.some.inj q;omega)
      replace hBk:=hBk.grown hgn (by intro q;have q2:gb=W.heap.size:=Option.some.inj q;omega)
      clear hOn hgn
      replace p0:=hA.cell' (i:=0) (v:=.int .i64 de.load) rfl
      replace p1:=hA.cell' (i:=1) (v:=.int .i64 de.shadow) rfl
      replace q0:=hBk.cell' (i:=0) (v:=.bool t.placed) rfl
      replace q1:=hBk.cell' (i:=1) (v:=.bool t.shed) rfl
      replace q2:=hBk.cell' (i:=2) (v:=.int .i64 t.home) rfl
      replace q3:=hBk.cell' (i:=3) (v:=.int .i64 t.standby) rfl
      replace q4:=hBk.cell' (i:=4) (v:=.int .i64 t.next) rfl
      replace q5:=hBk.cell' (i:=5) (v:=.int .i64 t.target) rfl
      replace q6:=hBk.cell' (i:=6) (v:=.int .i64 t.epoch) rfl
      replace q7:=hBk.cell' (i:=7) (v:=.int .i64 t.win.cell) rfl
      replace q8:=hBk.cell' (i:=8) (v:=.int .i64 t.win.epoch) rfl
      replace q9:=hBk.cell' (i:=9) (v:=.int .i64 t.win.version) rfl
      replace q10:=hBk.cell' (i:=10) (v:=.int .i64 t.win.since) rfl
      replace q11:=hBk.cell' (i:=11) (v:=.int .i64 t.win.till) rfl
      go_wp2_with fail
      refine (ldAdd2 c.cells.length W.heap.size (some ⟨W.heap.size,0,none⟩) c.cells.length (addAt (bookK c s k) t.standby de.shadow) t.next de.shadow _ (by (try simp only[addAt_len]);exact bookK_len _ _ _) (by omega) HO.out (by intro z hz;have:=hw1 z hz;omega) (by omega) (by omega)).mono ?_
      rintro r wn ⟨rfl,hOn,hgn⟩
      replace HB:=Lib.hid (HB.out.grown hgn HB.out.size (by rintro _ ⟨⟩;exact Nat.le_refl _))
      replace HO:=Lib.hid hOn
      replace hA:=hA.grown hgn (by intro q;have q2:ga=W.heap.size:=Option.some.inj q;omega)
      replace hBk:=hBk.grown hgn (by intro q;have q2:gb=W.heap.size:=Option.some.inj q;omega)
      clear hOn hgn
      replace p0:=hA.cell' (i:=0) (v:=.int .i64 de.load) rfl
      replace p1:=hA.cell' (i:=1) (v:=.int .i64 de.shadow) rfl
      replace q0:=hBk.cell' (i:=0) (v:=.bool t.placed) rfl
      replace q1:=hBk.cell' (i:=1) (v:=.bool t.shed) rfl
      replace q2:=hBk.cell' (i:=2) (v:=.int .i64 t.home) rfl
      replace q3:=hBk.cell' (i:=3) (v:=.int .i64 t.standby) rfl
      replace q4:=hBk.cell' (i:=4) (v:=.int .i64 t.next) rfl
      replace q5:=hBk.cell' (i:=5) (v:=.int .i64 t.target) rfl
      replace q6:=hBk.cell' (i:=6) (v:=.int .i64 t.epoch) rfl
      replace q7:=hBk.cell' (i:=7) (v:=.int .i64 t.win.cell) rfl
      replace q8:=hBk.cell' (i:=8) (v:=.int .i64 t.win.epoch) rfl
      replace q9:=hBk.cell' (i:=9) (v:=.int .i64 t.win.version) rfl
      replace q10:=hBk.cell' (i:=10) (v:=.int .i64 t.win.since) rfl
      replace q11:=hBk.cell' (i:=11) (v:=.int .i64 t.win.till) rfl
      go_wp2
      go_roundg (gk-1)
      case measure=>omega
      case rel=>exact⟨k+1,by omega,by go_num,by rw[HE.out];exact HO.out,HB.out⟩
  ·have hge:¬ (k:Int)<(s.tenants.length:Int):=by omega
   obtain rfl:k=s.tenants.length:=by omega
   have HE:Hid (bookK c s s.tenants.length=booked c s):=Lib.hid (bookK_all c s (Nat.le_refl _))
   have HEL:Hid ((booked c s).length=c.cells.length):=Lib.hid (by rw[← HE.out];exact bookK_len _ _ _)
   go_wp2
   go_ret
   refine⟨some ⟨W.heap.size,0,none⟩,c.cells.length,?_,?_,HL.out.trans (HB.out.mono (Nat.le_of_lt hgc))⟩
   ·rw[HEL.out];rfl
   ·rw[HEL.out,← HE.out]
    exact own_base HO.out (Nat.le_of_lt hgc)
def overP (c:Cfg) (s:St) (k:Nat):Bool:=decide ((c.cells.getD k (0,0)).2<(booked c s).getD k 0)
theorem over_pick (c:Cfg) (s:St):over c s=pickK (overP c s) c.cells.length:=rfl
theorem booked_len (c:Cfg) (s:St):(booked c s).length=c.cells.length:=by rw[← bookK_all c s (Nat.le_refl _)];exact bookK_len _ _ _
set_option maxHeartbeats 4000000 in
set_option maxRecDepth 100000 in
theorem ldOver_any (x:CfgA) (c:Cfg) (y:StA) (s:St) (w:World) (hV:CfgV c) (hc:CfgOk w (·<w.heap.size) x c) (hI:StInv c s) (hs:StOk w (·<w.heap.size) y s) :
  Calls Tryz.prog 53 #[.agg (cfgC x c),.agg (stC y s)] w (IntsPost w (over c s)):=by
 rw[over_pick]
 obtain⟨ii,hii,hi0,hi1,hi2⟩:=info_parts r5intInfo
 have hnc:=hV.nc
 have hntt:=hV.nt
 have hbl:=booked_len c s
 obtain⟨az,cz,ac,cc,at_,ct,av,cv,ar,cr,ao,co⟩:=x
 have HV:=Lib.hid hV
 have HKc:=Lib.hid hc
 clear hV hc
 obtain⟨sat,sct,sac,scc⟩:=y
 have HKs:=Lib.hid hs
 have hsl:1≤s.cells.length∧s.cells.length≤16:=by have:=hI.lc;omega
 have hst:s.tenants.length≤32:=by have:=hI.lt;omega
 have HI:=Lib.hid hI
 clear hs hI
 obtain⟨pd,hpd⟩:∃ pd:Nat→Bool,pd=overP c s:=⟨_,rfl⟩
 have HP:=Lib.hid hpd
 rw[← hpd]
 clear hpd
 have hL:Below w.heap.size w ((w.alloc (.cells #[.int .i64 c.regions,.slice az c.zones.length cz,.slice ac c.cells.length cc,.slice at_ c.tenants.length ct,.slice av c.versions.length cv,.slice ar c.replicas.length cr,.slice ao c.observers.length co,.int .i64 c.blast,.int .i64 c.lease,.int .i64 c.bake] 36)).alloc (.cells #[.int .i64 s.tick,.int .i64 s.count,.slice sat s.tenants.length sct,.slice sac s.cells.length scc,.int .i64 s.proven,.int .i64 s.evac,.int .i64 s.low,.int .i64 s.high] 52)):=(((Below.refl w.heap.size w).alloc (by simp<;>omega) (.cells #[.int .i64 c.regions,.slice az c.zones.length cz,.slice ac c.cells.length cc,.slice at_ c.tenants.length ct,.slice av c.versions.length cv,.slice ar c.replicas.length cr,.slice ao c.observers.length co,.int .i64 c.blast,.int .i64 c.lease,.int .i64 c.bake] 36)).alloc (by simp<;>omega) (.cells #[.int .i64 s.tick,.int .i64 s.count,.slice sat s.tenants.length sct,.slice sac s.cells.length scc,.int .i64 s.proven,.int .i64 s.evac,.int .i64 s.low,.int .i64 s.high] 52))
 have hBc:Blk ((w.alloc (.cells #[.int .i64 c.regions,.slice az c.zones.length cz,.slice ac c.cells.length cc,.slice at_ c.tenants.length ct,.slice av c.versions.length cv,.slice ar c.replicas.length cr,.slice ao c.observers.length co,.int .i64 c.blast,.int .i64 c.lease,.int .i64 c.bake] 36)).alloc (.cells #[.int .i64 s.tick,.int .i64 s.count,.slice sat s.tenants.length sct,.slice sac s.cells.length scc,.int .i64 s.proven,.int .i64 s.evac,.int .i64 s.low,.int .i64 s.high] 52)) (w.heap.size) 36 #[.int .i64 c.regions,.slice az c.zones.length cz,.slice ac c.cells.length cc,.slice at_ c.tenants.length ct,.slice av c.versions.length cv,.slice ar c.replicas.length cr,.slice ao c.observers.length co,.int .i64 c.blast,.int .i64 c.lease,.int .i64 c.bake]:=by
  have:=((Blk.new w 36 #[.int .i64 c.regions,.slice az c.zones.length cz,.slice ac c.cells.length cc,.slice at_ c.tenants.length ct,.slice av c.versions.length cv,.slice ar c.replicas.length cr,.slice ao c.observers.length co,.int .i64 c.blast,.int .i64 c.lease,.int .i64 c.bake]).alloc (.cells #[.int .i64 s.tick,.int .i64 s.count,.slice sat s.tenants.length sct,.slice sac s.cells.length scc,.int .i64 s.proven,.int .i64 s.evac,.int .i64 s.low,.int .i64 s.high] 52))
  simpa using this
 have hBs:Blk ((w.alloc (.cells #[.int .i64 c.regions,.slice az c.zones.length cz,.slice ac c.cells.length cc,.slice at_ c.tenants.length ct,.slice av c.versions.length cv,.slice ar c.replicas.length cr,.slice ao c.observers.length co,.int .i64 c.blast,.int .i64 c.lease,.int .i64 c.bake] 36)).alloc (.cells #[.int .i64 s.tick,.int .i64 s.count,.slice sat s.tenants.length sct,.slice sac s.cells.length scc,.int .i64 s.proven,.int .i64 s.evac,.int .i64 s.low,.int .i64 s.high] 52)) (w.heap.size+1) 52 #[.int .i64 s.tick,.int .i64 s.count,.slice sat s.tenants.length sct,.slice sac s.cells.length scc,.int .i64 s.proven,.int .i64 s.evac,.int .i64 s.low,.int .i64 s.high]:=by
  have:=(Blk.new (w.alloc (.cells #[.int .i64 c.regions,.slice az c.zones.length cz,.slice ac c.cells.length cc,.slice at_ c.tenants.length ct,.slice av c.versions.length cv,.slice ar c.replicas.length cr,.slice ao c.observers.length co,.int .i64 c.blast,.int .i64 c.lease,.int .i64 c.bake] 36)) 52 #[.int .i64 s.tick,.int .i64 s.count,.slice sat s.tenants.length sct,.slice sac s.cells.length scc,.int .i64 s.proven,.int .i64 s.evac,.int .i64 s.low,.int .i64 s.high])
  simpa using this
 unfold cfgC stC
 simp only
 go_enter Tryz.func53,Tryz.ntmps53
 go_upto_region 1 with fail
 generalize (w.alloc _).alloc _=W at *
 have hgc:=hBc.lt
 have d0:=hBc.cell' (i:=0) (v:=.int .i64 c.regions) rfl
 have d1:=hBc.cell' (i:=1) (v:=.slice az c.zones.length cz) rfl
 have d2:=hBc.cell' (i:=2) (v:=.slice ac c.cells.length cc) rfl
 have d3:=hBc.cell' (i:=3) (v:=.slice at_ c.tenants.length ct) rfl
 have d4:=hBc.cell' (i:=4) (v:=.slice av c.versions.length cv) rfl
 have d5:=hBc.cell' (i:=5) (v:=.slice ar c.replicas.length cr) rfl
 have d6:=hBc.cell' (i:=6) (v:=.slice ao c.observers.length co) rfl
 have d7:=hBc.cell' (i:=7) (v:=.int .i64 c.blast) rfl
 have d8:=hBc.cell' (i:=8) (v:=.int .i64 c.lease) rfl
 have d9:=hBc.cell' (i:=9) (v:=.int .i64 c.bake) rfl
 clear hBc
 have hgs:=hBs.lt
 have su0:=hBs.cell' (i:=0) (v:=.int .i64 s.tick) rfl
 have su1:=hBs.cell' (i:=1) (v:=.int .i64 s.count) rfl
 have su2:=hBs.cell' (i:=2) (v:=.slice sat s.tenants.length sct) rfl
 have su3:=hBs.cell' (i:=3) (v:=.slice sac s.cells.length scc) rfl
 have su4:=hBs.cell' (i:=4) (v:=.int .i64 s.proven) rfl
 have su5:=hBs.cell' (i:=5) (v:=.int .i64 s.evac) rfl
 have su6:=hBs.cell' (i:=6) (v:=.int .i64 s.low) rfl
 have su7:=hBs.cell' (i:=7) (v:=.int .i64 s.high) rfl
 clear hBs
 have HL:=Lib.hid hL
 have HWc:=Lib.hid (HKc.out.belowW hL)
 have HWs:=Lib.hid (HKs.out.belowW hL)
 clear hL
 have HBK:=Lib.hid (ldBooked_any ⟨az,cz,ac,cc,at_,ct,av,cv,ar,cr,ao,co⟩ c ⟨sat,sct,sac,scc⟩ s W HV.out HWc.out HI.out HWs.out)
 go_wp2_with fail
 refine HBK.out.mono ?_
 rintro r w1 ⟨A1,cp1,rfl,hO1,hb1⟩
 rw[hbl] at hO1 ⊢
 have hlt1:W.heap.size<w1.heap.size∨True:=.inr trivial
 have HWc1:=Lib.hid (HWc.out.belowW hb1)
 have HL1:=Lib.hid (HL.out.trans (hb1.mono HL.out.size))
 replace d0:w1.cell? ⟨w.heap.size,0,none⟩=some (.int .i64 c.regions):=(hb1.cell (p:=⟨w.heap.size,0,none⟩) hgc).trans d0
 replace d1:w1.cell? ⟨w.heap.size,1,none⟩=some (.slice az c.zones.length cz):=(hb1.cell (p:=⟨w.heap.size,1,none⟩) hgc).trans d1
 replace d2:w1.cell? ⟨w.heap.size,2,none⟩=some (.slice ac c.cells.length cc):=(hb1.cell (p:=⟨w.heap.size,2,none⟩) hgc).trans d2
 replace d3:w1.cell? ⟨w.heap.size,3,none⟩=some (.slice at_ c.tenants.length ct):=(hb1.cell (p:=⟨w.heap.size,3,none⟩) hgc).trans d3
 replace d4:w1.cell? ⟨w.heap.size,4,none⟩=some (.slice av c.versions.length cv):=(hb1.cell (p:=⟨w.heap.size,4,none⟩) hgc).trans d4
 replace d5:w1.cell? ⟨w.heap.size,5,none⟩=some (.slice ar c.replicas.length cr):=(hb1.cell (p:=⟨w.heap.size,5,none⟩) hgc).trans d5
 replace d6:w1.cell? ⟨w.heap.size,6,none⟩=some (.slice ao c.observers.length co):=(hb1.cell (p:=⟨w.heap.size,6,none⟩) hgc).trans d6
 replace d7:w1.cell? ⟨w.heap.size,7,none⟩=some (.int .i64 c.blast):=(hb1.cell (p:=⟨w.heap.size,7,none⟩) hgc).trans d7
 replace d8:w1.cell? ⟨w.heap.size,8,none⟩=some (.int .i64 c.lease):=(hb1.cell (p:=⟨w.heap.size,8,none⟩) hgc).trans d8
 replace d9:w1.cell? ⟨w.heap.size,9,none⟩=some (.int .i64 c.bake):=(hb1.cell (p:=⟨w.heap.size,9,none⟩) hgc).trans d9
 replace hgc:w.heap.size<w1.heap.size:=Nat.lt_of_lt_of_le hgc hb1.size
 have HO1:=Lib.hid hO1
 clear HBK hO1 hb1 su0 su1 su2 su3 su4 su5 su6 su7 hgs HWc HWs HL hlt1
 generalize hbk:booked c s=bk at *
 have HBKE:=Lib.hid hbk
 clear hbk
 go_wp2
 go_loopg [5,12] c.cells.length (fun gk so si wr=>r5HomesRel w1 pd c.cells.length gk so si wr)
 case atStart=>exact⟨0,none,0,by omega,rfl,rfl,World.ownsRow_nil _ _ _ _,Below.refl _ _⟩
 case round=>
  rename_i J K aJ aK
  obtain⟨k,A,cp,hgk,rfl,rfl,hown,hbel⟩:=hrel
  have HO:=Lib.hid hown
  have HB:=Lib.hid hbel
  have hsz:=hbel.size
  have hlen:=pickK_len pd k
  obtain⟨hc,hf⟩:=bcell hbel
  clear hown hbel hf
  by_cases hk:k<c.cells.length
  ·have hlt:(k:Int)<(c.cells.length:Int):=by omega
   have hkb:k<bk.length:=by omega
   obtain⟨b,off,z,rfl,hb,hzz,hcell⟩:=HWc1.out.cells.row (enc:=pairC) (sz:=2) (fun _=>rfl) (by omega) hk
   obtain⟨g1,cap1,hv1,_,hlt1⟩:=HO1.out.form (by omega)
   simp only[Value.slice.injEq,true_and] at hv1
   obtain⟨rfl,rfl⟩:=hv1
   have c0:=HO1.out.cellAt k (by omega)
   rw[flat_int,List.getElem?_map,List.getElem?_eq_getElem hkb] at c0
   simp only[Option.map_some] at c0
   have hbW:b<w1.heap.size:=hb
   have e1:=hcell 1 (.int .i64 z.2) rfl
   have HPK:Hid (pd k=decide (z.2<bk[k])):=Lib.hid (by rw[HP.out];unfold overP;rw[getD_some hzz,HBKE.out,getD_some (List.getElem?_eq_getElem hkb)])
   have HS:=Lib.hid (pickK_succ pd k)
   generalize bk[k]=m at *
   clear hcell hzz hb
   by_cases hp:pd k=true
   ·have hp2:z.2<m:=by have:=HPK.out;rw[hp] at this;simpa using this.symm
    go_wp2_with (at_builtin;refine wpList_append_lies _ rfl _ _ _ rfl w1.heap.size 3 ii _ 1 8 Tryz.underlying22 hii hi0 hi1 hi2 rfl (by omega) _ (pickK pd k).length (flat intC (pickK pd k)) rfl (HO.out.alloc _) ⟨wr.heap.size,0,none⟩ 1 1 [.int .i64 k] rfl rfl ?c1 ?c2 ?c0 ?c3 ?c4 ?c5 (wr.heap.size+1) ?c6 ?_)
    case c1=>exact World.news_of_block (cs:=#[.int .i64 k]) (heap_alloc_new _ _)
    case c2=>simp[Value.oneCell']
    case c0=>omega
    case c3=>unfold maxLen;omega
    case c4=>omega
    case c5=>have:=HB.out.size;simp;omega
    case c6=>simp
    intro gg cq w9 hown9 hg9 hat9 hlt9
    have HB9:=Lib.hid ((HB.out.alloc HB.out.size _).grown hg9 (by have:=HB.out.size;simp;omega) (fun j hj=>(HO.out.lt j hj).1))
    have HX:Hid (w9.ownsRow w1.heap.size 3 1 (.slice (some ⟨gg,0,none⟩) (pickK pd (k+1)).length cq) (pickK pd (k+1)).length (flat intC (pickK pd (k+1)))):=by
     refine Lib.hid ?_;rw[HS.out,if_pos hp,← flat_snoc5,List.length_append];exact hown9
    have hl9:(pickK pd (k+1)).length=(pickK pd k).length+1:=by rw[HS.out,if_pos hp,List.length_append];rfl
    have HL9:=Lib.hid hl9
    clear hown9 hg9 hat9 hlt9 HB hl9 hc
    go_wp2
    go_roundg (gk-1)
    case measure=>omega
    case rel=>exact⟨k+1,some ⟨gg,0,none⟩,cq,by omega,by go_num,by rw[HL9.out],HX.out,HB9.out⟩
   ·have hp:pd k=false:=by simpa using hp
    have hp2:m≤z.2:=by have:=HPK.out;rw[hp] at this;simpa using this.symm
    have HX:Hid (wr.ownsRow w1.heap.size 3 1 (.slice A (pickK pd (k+1)).length cp) (pickK pd (k+1)).length (flat intC (pickK pd (k+1)))):=by
     refine Lib.hid ?_;rw[HS.out,if_neg (by simp[hp])];exact HO.out
    have hl9:(pickK pd (k+1)).length=(pickK pd k).length:=by rw[HS.out,if_neg (by simp[hp])]
    have HL9:=Lib.hid hl9
    clear hl9
    go_wp2
    go_roundg (gk-1)
    case measure=>omega
    case rel=>exact⟨k+1,A,cp,by omega,by go_num,by rw[HL9.out],HX.out,HB.out⟩
  ·have hge:¬ (k:Int)<(c.cells.length:Int):=by omega
   obtain rfl:k=c.cells.length:=by omega
   go_wp2
   go_ret
   exact⟨A,cp,rfl,own_base HO.out (Nat.le_of_lt hgc),HL1.out.trans (HB.out.mono (Nat.le_of_lt hgc))⟩
/-! state.Apply: a state in rows of its own. -/
def ctRefused:CT:=fun vs mem nx K=>∃ N x c M y s e,vs=[cfgV N x c,stV M y s,entV' e]∧keeps mem (cfgM N c)∧(HasRow mem M.t 12 tsC default s.tenants∧HasRow mem M.c 4 csC default s.cells)∧CfgV c∧StInv c s∧K (.int .i64 (refusedE c s e)) mem nx
theorem refusedOk:CSound Tryz.prog 50 ctRefused:=⟨by kernel_rfl,fun {C ρ fr mem nx a w vs K} hc hs hv=>by
 obtain⟨N,x,c,M,y,s,e,rfl,hk,⟨h1,h2⟩,hV,hI,hK⟩:=hc
 rw[List.map_cons,den_cfg,List.map_cons,den_st,List.map_cons,(pure_den (pure_ent e) _ 0).1]
 refine (stRefused_any (cfgX ρ N x) c (stX ρ M y) s e w hV (hs.cfg hk (fun b hb _=>hb)) hI (hs.stRow h1 h2)).mono ?_
 rintro r w' ⟨rfl,hb⟩
 exact⟨.int .i64 (refusedE c s e),mem,nx,ρ,rfl,hK,hs.later hb,trivial,ExtS.refl _ _⟩⟩
def ctOverP:CT:=fun vs mem nx K=>∃ N x c M y s,vs=[cfgV N x c,stV M y s]∧keeps mem (cfgM N c)∧(HasRow mem M.t 12 tsC default s.tenants∧HasRow mem M.c 4 csC default s.cells)∧CfgV c∧StInv c s∧∀ cp,K (slc nx (over c s).length cp) ((nx,rowOfL 500000 1 intC 0 (over c s))::mem) (nx+1)
theorem overPOk:CSound Tryz.prog 53 ctOverP:=⟨by kernel_rfl,fun {C ρ fr mem nx a w vs K} hc hs hv=>by
 obtain⟨N,x,c,M,y,s,rfl,hk,⟨h1,h2⟩,hV,hI,hK⟩:=hc
 rw[List.map_cons,den_cfg,List.map_cons,den_st]
 refine (ldOver_any (cfgX ρ N x) c (stX ρ M y) s w hV (hs.cfg hk (fun b hb _=>hb)) hI (hs.stRow h1 h2)).mono ?_
 rintro e w' ⟨A,cp,rfl,ho,hb⟩
 obtain⟨q1,-⟩:=(hs.later hb).addList hs.frB hs.rest.size (enc:=intC) (sz:=1) (fun _=>rfl) (by omega) intC_plain 0 (t:=500000) rfl (Rd.of_own ho)
 have q2:setPl ρ nx ⟨A,1,(over c s).length,false,noSub⟩ nx=⟨A,1,(over c s).length,false,noSub⟩:=setPl_same _ _ _
 refine⟨slc nx (over c s).length cp,_,_,setPl ρ nx ⟨A,1,(over c s).length,false,noSub⟩,?_,hK cp,q1,?_,fun i hi=>setPl_lt _ _ hi,by omega⟩
 ·show Ending.returned (.slice A (over c s).length cp)=.returned (.slice (setPl ρ nx ⟨A,1,(over c s).length,false,noSub⟩ nx).A (over c s).length cp)
  rw[q2]
 ·exact⟨show nx<nx+1 by omega,by rw[q2]⟩⟩
def apF:FT:=[(50,ctRefused),(51,ctEff),(52,ctInl tt [] [] Tryz.f52 (bodyOf Tryz.f52)),(53,ctOverP)]
def apD:List (Nat×DQ):=[(9000000,{ k:=0,L:=[52] })]
theorem apFok:FTokI Tryz.prog apF (inlOf apD):=fti_cons (refusedOk.i _) (fti_cons (effOk.i _) (fti_cons (inl_ok ttOk fti_nil mixed (by kernel_rfl) Tryz.func52 rfl (by kernel_rfl) (by decide)) (fti_cons (overPOk.i _) fti_nil)))
theorem over_pos (c:Cfg) (s:St):overB c s=decide (0<(over c s).length):=by
 unfold overB over
 rw[List.length_map]
 cases h:(List.range c.cells.length).any fun i=>decide ((c.cells.getD i (0,0)).2<(booked c s).getD i 0)
 ·rw[List.any_eq_false] at h
  have:((List.range c.cells.length).filter fun i=>decide ((c.cells.getD i (0,0)).2<(booked c s).getD i 0))=[]:=List.filter_eq_nil_iff.2 h
  rw[this]
  rfl
 ·rw[List.any_eq_true] at h
  obtain⟨i,hi,hp⟩:=h
  have:i ∈ (List.range c.cells.length).filter fun i=>decide ((c.cells.getD i (0,0)).2<(booked c s).getD i 0):=List.mem_filter.2 ⟨hi,hp⟩
  have:=List.length_pos_of_mem this
  exact (decide_eq_true this).symm
theorem applyP_over {c:Cfg} {s:St} {e:Ent} (h:refusedE c s e=0) (hb:booksB e=true) (ho:0<(over c (effOf s e)).length):applyP c s e=(St.zero,10):=by
 unfold applyP
 rw[if_neg (by omega),if_pos ⟨hb,by rw[over_pos];simpa using ho⟩]
theorem applyP_fine {c:Cfg} {s:St} {e:Ent} (h:refusedE c s e=0) (hb:booksB e=true→¬ 0<(over c (effOf s e)).length):applyP c s e=(effOf s e,0):=by
 unfold applyP
 rw[if_neg (by omega),if_neg]
 rintro⟨h1,h2⟩
 rw[over_pos] at h2
 exact hb h1 (by simpa using h2)
def ApR (mem':AM) (v:Value) (p:St×Int):Prop:=∃ T Cc,v=.tuple #[.agg #[.int .i64 p.1.tick,.int .i64 p.1.count,T,Cc,.int .i64 p.1.proven,.int .i64 p.1.evac,.int .i64 p.1.low,.int .i64 p.1.high],.int .i64 p.2]∧
 ((p.1=St.zero∧T=zs0∧Cc=zs0)∨∃ rT rC,rT≠rC∧SlO mem' 12 tsC default p.1.tenants T rT∧SlO mem' 4 csC default p.1.cells Cc rC)
set_option maxRecDepth 100000 in
set_option maxHeartbeats 4000000 in
theorem apply_sx (x : CfgK) (c : Cfg) (y : StK) (s : St) (e : Ent) (hV : CfgV c) (hI : StInv c s) :
    sx tt apF apD (bodyOf Tryz.f21) (argF 0 [cfgV CN1 x c, stV SN1 y s, entV' e]) (rdM c s noS) 10 (endx tt Tryz.f21.results.toList fun v mem' _ => ApR mem' v (applyP c s e)) := by
  refine ⟨CN1, x, c, SN1, y, s, e, rfl, kp_, ⟨.list rfl, .list rfl⟩, hV, hI, ?_⟩
  refine ⟨fun hr => ?_, fun hr => ?_⟩
  · have hr : refusedE c s e ≠ 0 := by simpa using hr
    refine ⟨zs0, zs0, ?_, .inl ⟨?_, rfl, rfl⟩⟩
    · unfold applyP; rw [if_pos hr]; rfl
    · unfold applyP; rw [if_pos hr]
  · have hr : refusedE c s e = 0 := by simpa using hr
    have ha := acc_of hr
    refine ⟨_, y, s, e, rfl, ⟨.list rfl, .list rfl⟩, ⟨c, hV, hI, ha⟩, ?_⟩
    intro y2
    repeat' (first | refine ⟨fun _ => ?_, fun h => Bool.noConfusion h⟩ | refine ⟨fun h => Bool.noConfusion h, fun _ => ?_⟩ | refine ⟨CN1, x, c, ⟨15, 14, 0⟩, y2, effOf s e, rfl, kp_, ⟨.list rfl, .list rfl⟩, hV, hI.step hV hr, ?_⟩ | intro cp | refine ⟨fun _ => ?_, fun _ => ?_⟩ | fail)
    all_goals first
      | (have hq := applyP_over (c := c) (s := s) (e := e) hr (by unfold booksB; grind) (by grind)
         exact ⟨zs0, zs0, (by rw [hq]; rfl), .inl ⟨by rw [hq], rfl, rfl⟩⟩)
      | (have hq := applyP_fine (c := c) (s := s) (e := e) hr (by unfold booksB; grind)
         exact ⟨slc 15 (effOf s e).tenants.length y2.ct, slc 14 (effOf s e).cells.length y2.cc, (by rw [hq]), .inr ⟨15, 14, by decide, (by rw [hq]; exact ⟨_, _, _, _, _, rfl, rfl, rfl, rfl, Nat.le_refl _, fun k hk => rfl⟩), (by rw [hq]; exact ⟨_, _, _, _, _, rfl, rfl, rfl, rfl, Nat.le_refl _, fun k hk => rfl⟩)⟩⟩)
      | fail
theorem stApplyO_any (x:CfgA) (c:Cfg) (y:StA) (s:St) (e:Ent) (w:World) (hV:CfgV c) (hc:CfgOk w (·<w.heap.size) x c) (hI:StInv c s) (hs:StOk w (·<w.heap.size) y s) :
  Calls Tryz.prog 21 #[.agg (cfgC x c),.agg (stC y s),.agg (entC e).toArray] w fun r w'=>∃ y2,r=.returned (.tuple #[.agg (stC y2 (applyP c s e).1),.int .i64 (applyP c s e).2])∧StOwn2 w.heap.size w' y2 (applyP c s e).1∧Below w.heap.size w w':=by
 have:=rd_callsM ttOk apFok Tryz.func21 rfl (D:=apD) (by kernel_rfl) (vs:=[cfgV CN1 (ck x) c,stV SN1 (sk y) s,entV' e]) rfl x c y s noA noS w hc hs (noS_ok w _) (fun v hv=>by
  simp only[List.mem_cons,List.not_mem_nil,or_false] at hv
  rcases hv with rfl | rfl | rfl
  ·exact rpl_cfg_ok x c y s noA noS
  ·exact rpl_st_ok x c y s noA noS
  ·exact (pure_den (pure_ent e) _ _).2) (apply_sx (ck x) c (sk y) s e hV hI)
 rw[List.map_cons,rpl_cfg,List.map_cons,rpl_st,List.map_cons,(pure_den (pure_ent e) _ 0).1] at this
 refine this.mono ?_
 rintro r w' ⟨v,mem',nx',ρ',rfl,⟨T,Cc,rfl,hr⟩,hv,hm',hb⟩
 have key:∃ y2,den2 ρ' (.agg #[.int .i64 (applyP c s e).1.tick,.int .i64 (applyP c s e).1.count,T,Cc,.int .i64 (applyP c s e).1.proven,.int .i64 (applyP c s e).1.evac,.int .i64 (applyP c s e).1.low,.int .i64 (applyP c s e).1.high])=.agg (stC y2 (applyP c s e).1)∧StOwn2 w.heap.size w' y2 (applyP c s e).1:=by
  rcases hr with⟨h0,rfl,rfl⟩ | ⟨rT,rC,hne,hT,hC⟩
  ·rw[h0];exact⟨noA,by simp[den2,den1,stC,noA,St.zero],StOwn2.zero _ _⟩
  ·exact hm'.own2 rfl hne hT hC
 obtain⟨y2,e1,e2⟩:=key
 refine⟨y2,?_,e2,hb⟩
 rw[← e1]
 have d:∀ z,den2 ρ' (.int .i64 z)=.int .i64 z:=fun _=>rfl
 simp only[den,List.map_toArray,List.map_cons,List.map_nil,d]
def ctApply:CT:=fun vs mem nx K=>∃ N x c M y s e,vs=[cfgV N x c,stV M y s,entV' e]∧keeps mem (cfgM N c)∧keeps mem (stM M s)∧CfgV c∧StInv c s∧∀ y2,K (.tuple #[stV ⟨nx+1,nx,500000⟩ y2 (applyP c s e).1,.int .i64 (applyP c s e).2]) (stM ⟨nx+1,nx,500000⟩ (applyP c s e).1++mem) (nx+2)
theorem applyOk:CSound Tryz.prog 21 ctApply:=⟨by kernel_rfl,fun {C ρ fr mem nx a w vs K} hc hs hv=>by
 obtain⟨N,x,c,M,y,s,e,rfl,hk1,hk2,hV,hI,hK⟩:=hc
 have e0:([cfgV N x c,stV M y s,entV' e].map (den ρ)).toArray=#[.agg (cfgC (cfgX ρ N x) c),.agg (stC (stX ρ M y) s),.agg (entC e).toArray]:=by
  rw[List.map_cons,List.map_cons,List.map_cons,den_cfg,den_st]
  simp[den,den2,den1,entC]
 rw[e0]
 refine (stApplyO_any (cfgX ρ N x) c (stX ρ M y) s e w hV (hs.cfg hk1 (fun b h _=>h)) hI (hs.st hk2 (fun b h _=>h))).mono ?_
 rintro r w' ⟨y2,rfl,ho,hb⟩
 obtain⟨q1,q2,q3,q4⟩:=hs.addSt hb (s:=(applyP c s e).1) ho.ok
 refine⟨.tuple #[stV ⟨nx+1,nx,500000⟩ ⟨y2.ct,y2.cc⟩ (applyP c s e).1,.int .i64 (applyP c s e).2],_,_,_,?_,hK ⟨y2.ct,y2.cc⟩,q1,?_,q4⟩
 ·rw[← q2]
  simp[den,den2,den1]
 ·intro u hu
  simp at hu
  rcases hu with rfl | rfl
  ·exact q3
  ·trivial⟩
/-! state.Fold -/
/-! state.Fold,by contract. -/
/-! make.State: the state of a log. -/
/-! A callee hands back a row of the wider kind. -/
/-! Make,by contract,with any parent;rows of atlases that grow. -/
def ctMakeGP:CT:=fun vs mem nx K=>∃ N x c M y s pn pt pv ps psum key,vs=[cfgV N x c,stV M y s,.agg #[.int .i64 pn,.int .i64 pt,pv,.int .u64 ps,.int .u64 psum],.int .i64 key]∧(HasCfg mem N c∧HasRow mem M.t 12 tsC default s.tenants∧HasRow mem M.c 4 csC default s.cells)∧(∃ A n cap,pv=.slice A n cap)∧AtlIn (atl0 s psum)∧∀ cp,K (atlV (makeA s psum key) (slc nx (routesOf s).length cp)) ((nx,rowOfL 500000 2 pairC (0,0) (routesOf s))::mem) (nx+1)
theorem makeGPOk:CSound Tryz.prog 19 ctMakeGP:=⟨by kernel_rfl,fun {C ρ fr mem nx a w vs K} hc hs hv=>by
 obtain⟨N,x,c,M,y,s,pn,pt,pv,ps,psum,key,rfl,⟨hk,h1,h2⟩,hpv,hA,hK⟩:=hc
 have epv:∃ Ap pl pc,den1 ρ pv=.slice Ap pl pc:=by
  obtain⟨A,n,cap,rfl⟩:=hpv
  cases A with
  | none=>exact⟨_,_,_,rfl⟩
  | some ad=>exact⟨_,_,_,rfl⟩
 obtain⟨Ap,pl,pc,epv⟩:=epv
 have e0:([cfgV N x c,stV M y s,.agg #[.int .i64 pn,.int .i64 pt,pv,.int .u64 ps,.int .u64 psum],.int .i64 key].map (den ρ)).toArray=#[.agg (cfgC (cfgX ρ N x) c),.agg (stC (stX ρ M y) s),.agg #[.int .i64 pn,.int .i64 pt,.slice Ap pl pc,.int .u64 ps,.int .u64 psum],.int .i64 key]:=by
  have dI:∀ k n,den1 ρ (.int k n)=.int k n:=fun _ _=>rfl
  rw[List.map_cons,List.map_cons,den_cfg,den_st]
  simp[den,den2,epv,dI]
 rw[e0]
 refine (makeP_calls (cfgX ρ N x) c (stX ρ M y) s pn pt ps psum Ap pl pc key w hA (hs.cfgH (x:=x) hk) (hs.stRow (y:=y) h1 h2)).mono ?_
 rintro e w' ⟨A2,cp,rfl,hr2,hb⟩
 obtain⟨q1,-⟩:=(hs.later hb).addList hs.frB hs.rest.size (enc:=pairC) (sz:=2) (fun _=>rfl) (by omega) pairC_plain (0,0) (t:=500000) rfl hr2
 have q2:setPl ρ nx ⟨A2,2,(routesOf s).length,false,noSub⟩ nx=⟨A2,2,(routesOf s).length,false,noSub⟩:=setPl_same _ _ _
 refine⟨atlV (makeA s psum key) (slc nx (routesOf s).length cp),_,_,_,?_,hK cp,q1,?_,fun i hi=>setPl_lt _ _ hi,by omega⟩
 ·simp[den,den2,den1,dA_whole,dS_whole,q2]
 ·intro u hu
  simp at hu
  rcases hu with rfl | rfl | rfl | rfl | rfl<;>first | trivial | exact⟨Nat.lt_succ_self _,by rw[q2]⟩⟩
theorem getD_appA {α:Type} {l:List α} {x d:α} {k:Nat} (h:k<l.length):(l++[x]).getD k d=l.getD k d:=by rw[List.getD_eq_getElem?_getD,List.getD_eq_getElem?_getD,List.getElem?_append_left h]
theorem getD_endA {α:Type} {l:List α} {x d:α}:(l++[x]).getD l.length d=x:=by rw[List.getD_eq_getElem?_getD,List.getElem?_append_right (Nat.le_refl _)];simp
theorem atlEl_app {xs:List Atl} {cps:List Nat} {a:Atl} {cp k:Nat} (hc:cps.length=xs.length) (h:k<xs.length):atlEl (xs++[a]) (cps++[cp]) k=atlEl xs cps k:=by
 show atlC _ _=atlC _ _
 rw[getD_appA h,getD_appA (hc ▸ h)]
theorem atlEl_end {xs:List Atl} {cps:List Nat} {a:Atl} {cp:Nat} (hc:cps.length=xs.length):atlEl (xs++[a]) (cps++[cp]) (xs.length+0)=atlEl [a] [cp] 0:=by
 show atlC _ _=atlC _ _
 rw[Nat.add_zero,getD_endA,← hc,getD_endA]
 rfl
theorem famA_app {xs:List Atl} {a:Atl} {k:Nat} (h:k<xs.length):famA (xs++[a]) k=famA xs k:=by
 unfold famA
 rw[getD_appA h]
theorem famA_end {xs:List Atl} {a:Atl}:famA (xs++[a]) (xs.length+0)=famA [a] 0:=by
 unfold famA
 rw[Nat.add_zero,getD_endA]
 rfl
theorem app_at {xs:List Atl} {cps:List Nat} {a:Atl} {cp:Nat} (hc:cps.length=xs.length):((∀ k,k<xs.length→atlEl (xs++[a]) (cps++[cp]) k=atlEl xs cps k∧famA (xs++[a]) k=famA xs k)∧(∀ k,k<1→atlEl (xs++[a]) (cps++[cp]) (xs.length+k)=atlEl [a] [cp] k∧famA (xs++[a]) (xs.length+k)=famA [a] k)∧∀ k,xs.length+1≤k→∀ o,(famA (xs++[a]) k o).n=0):=
 ⟨fun k hk=>⟨atlEl_app hc hk,famA_app hk⟩,fun k hk=>(match k,hk with | 0,_=>⟨atlEl_end hc,famA_end⟩),fun k hk o=>famA_out (by simpa using hk) o⟩
/-! The laws of one step: places,epochs,windows. -/
structure PlOk (c:Cfg) (i:Int) (t:TS):Prop where
 home:0≤t.home∧mayB c i t.home=true
 standby:0≤t.standby→mayB c i t.standby=true∧apartB c t.standby t.home=true∧(0≤t.target→apartB c t.standby t.target=true)
 next:0≤t.next→mayB c i t.next=true∧apartB c t.next t.home=true∧(0≤t.target→apartB c t.next t.target=true)
 target:0≤t.target→mayB c i t.target=true
 ne:t.target≠t.home
structure PlInv (c:Cfg) (i:Int) (t:TS):Prop where
 on:t.placed=true→PlOk c i t
 off:t.placed=false→t.standby=-1∧t.next=-1∧t.target=-1
theorem eff_ten {s:St} {e:Ent} (h8:e.kind≤8):(effOf s e).tenants=s.tenants.set e.tenant.toNat (tenEff (tsAt s e.tenant) e):=by
 unfold effOf
 simp only[h8,if_true]
 rfl
theorem eff_ten' {s:St} {e:Ent} (h8:¬ e.kind≤8):(effOf s e).tenants=s.tenants:=by
 unfold effOf
 simp only[h8,if_false]
 repeat' split
 all_goals rfl
theorem eff_tick {s:St} {e:Ent}:(effOf s e).tick=e.tick:=by
 unfold effOf
 simp only
 repeat' split
 all_goals rfl
theorem eff_count {s:St} {e:Ent}:(effOf s e).count=s.count+1:=by
 unfold effOf
 simp only
 repeat' split
 all_goals rfl
/-! Epochs. -/
structure EpOk (tick:Int) (a b:TS):Prop where
 up:a.epoch≤b.epoch∧b.epoch≤a.epoch+1
 home:a.placed=true→a.home≠b.home→b.epoch=a.epoch+1∧a.win.till≤tick
 placed:a.placed=true→b.placed=true
theorem ep_same (tick:Int) (a:TS):EpOk tick a a:=⟨⟨by omega,by omega⟩,fun _ h=>absurd rfl h,fun h=>h⟩
theorem ep_step {c:Cfg} {s x:St} {e:Ent} (hV:CfgV c) (hI:StInv c s) (h:applyP c s e=(x,0)):s.tick≤x.tick∧x.count=s.count+1∧x.tenants.length=s.tenants.length∧∀ (i:Nat) (a b:TS),s.tenants[i]?=some a→x.tenants[i]?=some b→EpOk x.tick a b:=by
 obtain⟨hr,hx,-⟩:=applyP_ok h
 have ha:=acc_of hr
 subst hx
 rw[eff_tick,eff_count]
 refine⟨ha.tick,rfl,?_,?_⟩
 ·by_cases h8:e.kind≤8
  ·rw[eff_ten h8];simp
  ·rw[eff_ten' h8]
 intro i a b h1 h2
 by_cases h8:e.kind≤8
 ·have hten:=ent_ten hI ha.ent h8
  rw[eff_ten h8,List.getElem?_set] at h2
  by_cases hi:e.tenant.toNat=i
  ·simp[hi,show i<s.tenants.length by omega] at h2
   have hta:=(tsAt_mem hten.1 hten.2).1
   rw[hi,h1] at hta
   injection hta with hta
   subst h2
   rw[← hta]
   have hkd:=ha.kind
   have hk:=ent_kind ha.ent
   clear ha h hr h1 hi hI
   obtain⟨kind,tick,tenant,cell,other,epoch,since,till,n⟩:=e
   simp only at *
   have hk':kind=1∨kind=2∨kind=3∨kind=4∨kind=5∨kind=6∨kind=7∨kind=8:=by omega
   rcases hk' with rfl | rfl | rfl | rfl | rfl | rfl | rfl | rfl
   ·have hpl:a.placed=false:=by
     simp only[kindE,placeE,← hta] at hkd
     simp at hkd
     cases h:a.placed with
     | false=>rfl
     | true=>simp[h] at hkd
    refine⟨⟨by simp[tenEff],by simp[tenEff];omega⟩,fun h=>(by rw[hpl] at h;cases h),fun h=>(by rw[hpl] at h;cases h)⟩
   ·simp only[kindE,grantE,← hta] at hkd
    simp at hkd
    by_cases q1:a.placed=false∨a.shed=true∧¬cell=a.standby
    ·rw[if_pos q1] at hkd;omega
    rw[if_neg q1] at hkd
    by_cases q2:¬cell=a.home∧¬cell=a.standby∧¬cell=a.target
    ·rw[if_pos q2] at hkd;omega
    rw[if_neg q2] at hkd
    by_cases q3:(csAt s cell).mode=3∨(csAt s cell).mode=2∧¬cell=a.home
    ·rw[if_pos q3] at hkd;omega
    rw[if_neg q3] at hkd
    by_cases q4:¬epoch=a.epoch+1∧(cell=a.home→¬epoch=a.epoch)
    ·rw[if_pos q4] at hkd;omega
    rw[if_neg q4] at hkd
    by_cases q5:¬n=(csAt s cell).running∨¬(csAt s cell).running=(csAt s cell).wanted
    ·rw[if_pos q5] at hkd;omega
    rw[if_neg q5] at hkd
    have q6:¬ (since<tick∨tick+c.lease<since∨till≤since∨c.lease<till-since∨since<a.win.till∨¬cell=a.home∧tick<a.win.till):=by simpa using hkd
    simp only[tenEff,grantT,show ¬ ((2:Int)=1) by omega,if_false,if_true]
    split
    ·rename_i hh
     refine⟨⟨?_,?_⟩,fun _ h=>absurd rfl h,fun h=>h⟩<;>simp only<;>omega
    ·have hep:epoch=a.epoch+1:=by omega
     split
     ·refine⟨⟨?_,?_⟩,fun _ h=>⟨hep,?_⟩,fun h=>h⟩<;>(try simp only)<;>omega
     ·refine⟨⟨?_,?_⟩,fun _ h=>⟨hep,?_⟩,fun h=>h⟩<;>(try simp only)<;>omega
   ·exact⟨⟨Int.le_refl _,by simp[tenEff];omega⟩,fun _ h=>absurd rfl h,fun h=>h⟩
   ·exact⟨⟨Int.le_refl _,by simp[tenEff];omega⟩,fun _ h=>absurd rfl h,fun h=>h⟩
   ·exact⟨⟨Int.le_refl _,by simp[tenEff];omega⟩,fun _ h=>absurd rfl h,fun h=>h⟩
   ·exact⟨⟨Int.le_refl _,by simp[tenEff];omega⟩,fun _ h=>absurd rfl h,fun h=>h⟩
   ·exact⟨⟨Int.le_refl _,by simp[tenEff];omega⟩,fun _ h=>absurd rfl h,fun h=>h⟩
   ·by_cases hn:n=1
    ·subst hn
     exact⟨⟨Int.le_refl _,by simp[tenEff];omega⟩,fun _ h=>absurd rfl h,fun h=>h⟩
    ·have:tenEff a ⟨8,tick,tenant,cell,other,epoch,since,till,n⟩={ a with shed:=false }:=by simp[tenEff,hn]
     rw[this]
     exact⟨⟨Int.le_refl _,by simp only;omega⟩,fun _ h=>absurd rfl h,fun h=>h⟩
  ·simp[hi] at h2
   rw[h1] at h2
   injection h2 with h2
   rw[← h2]
   exact ep_same _ _
 ·rw[eff_ten' h8,h1] at h2
  injection h2 with h2
  rw[← h2]
  exact ep_same _ _
/-! Windows. -/
theorem mkLight_below (A:Option Addr) (n cp:Nat) (w:World) (hn:n≤maxLen):Calls Tryz.prog 6 #[.slice A n cp] w fun r w'=>r=.returned (.bool (decide (n≤200)))∧Below w.heap.size w w':=by
 refine (mkLight_any A n cp w hn).mono ?_
 rintro e w' ⟨h,rfl⟩
 exact⟨h,Below.refl _ _⟩
def ctLight:CT:=fun vs mem nx K=>∃ Mz0 xz0 z0,vs=[slc Mz0 (z0:List Int).length xz0]∧(lk mem Mz0=some (intRow z0))∧(z0.length≤maxLen)∧K (.bool (decide (z0.length≤200))) mem nx
theorem lightOk:CSound Tryz.prog 6 ctLight:=(ptsOk (R:=fun l z=>∃ z0,l=[.li z0]∧z=.bool (decide (z0.length≤200))) (pre:=fun l=>∃ z0,l=[.li z0]∧(z0.length≤maxLen)) (by kernel_rfl) (by
 rintro ps w ⟨z0,hps,hpre⟩ hok
 obtain⟨xz0,yz0,ps0,rfl,hps0⟩:=dt_l hps
 obtain rfl:=dt_nil hps0
 have hpz0:=hok (.li xz0 yz0 z0) (by simp)
 refine (mkLight_below xz0 z0.length yz0 w hpre).mono ?_
 rintro e w' ⟨rfl,hb⟩
 exact⟨_,⟨z0,rfl,rfl⟩,trivial,rfl,hb⟩)).mono (by
 rintro vs mem nx K ⟨Mz0,xz0,z0,rfl,hk,hpre,hK⟩
 exact⟨[.li Mz0 xz0 z0],rfl,⟨hk,trivial⟩,⟨_,rfl,hpre⟩,by rintro z ⟨z0',hl,hz⟩;cases hl;subst hz;exact hK⟩)
/-! atlas.Follows,by contract. -/
structure FolA (a b:Atl):Prop where
 par:b.parent=a.sum
 num:a.number<b.number
 tick:a.tick≤b.tick
 len:a.routes.length=b.routes.length
 ep:∀ k,k<a.routes.length→(a.routes.getD k (0,0)).2≤(b.routes.getD k (0,0)).2
abbrev foD15:List (Nat×DQ):=[(2000004,{ k:=0,L:=[0,1,2,3,4,5,6,7,8,9,10,11,12,13,14],sl:=[2,3,36,37] }),(6,{ k:=8,L:=[0,1,2,3,4,5,6,7,8,9,10,11,12,13,14,15,16,17,18,19,20],pre:=[(0,false),(1,false),(2,false),(3,false),(4,false),(5,false),(6,false),(7,false)] })]
set_option maxRecDepth 100000 in
set_option maxHeartbeats 4000000 in
theorem follows_sx (c1 c2:Nat) (a b:Atl) (hl:a.routes.length≤1000000) :
  sx ttA [] foD15 (bodyOf Tryz.f54) (argF 0 [atlV a (slc 3 a.routes.length c1),atlV b (slc 5 b.routes.length c2)]) (uniM { c:={ noC with cells:=a.routes,versions:=b.routes } }) 13 (endx ttA Tryz.f54.results.toList fun v _ _=>∃ r,v=.bool r∧(r=true↔FolA a b)):=by
 refine⟨fun h1=>?_,fun h1=>?_⟩
 ·repeat (first | refine⟨fun _=>?_,fun h=>Bool.noConfusion h⟩ | refine⟨fun h=>Bool.noConfusion h,fun _=>?_⟩ | fail)
  exact⟨false,rfl,(fun q=>Bool.noConfusion q),fun q=>absurd q.par (by simpa using h1)⟩
 ·refine⟨fun h2=>?_,fun h2=>?_⟩
  ·repeat (first | refine⟨fun _=>?_,fun h=>Bool.noConfusion h⟩ | refine⟨fun h=>Bool.noConfusion h,fun _=>?_⟩ | fail)
   exact⟨false,rfl,(fun q=>Bool.noConfusion q),fun q=>absurd q.num (by have:=of_decide_eq_true h2;omega)⟩
  ·refine⟨fun h3=>?_,fun h3=>?_⟩
   ·repeat (first | refine⟨fun _=>?_,fun h=>Bool.noConfusion h⟩ | refine⟨fun h=>Bool.noConfusion h,fun _=>?_⟩ | fail)
    exact⟨false,rfl,(fun q=>Bool.noConfusion q),fun q=>absurd q.tick (by have:=of_decide_eq_true h3;omega)⟩
   ·refine⟨fun h4=>?_,fun h4=>?_⟩
    ·repeat (first | refine⟨fun _=>?_,fun h=>Bool.noConfusion h⟩ | refine⟨fun h=>Bool.noConfusion h,fun _=>?_⟩ | fail)
     exact⟨false,rfl,(fun q=>Bool.noConfusion q),fun q=>absurd q.len (by intro q2;rw[q2] at h4;simp at h4)⟩
    ·have hlen:(a.routes.length:Int)=b.routes.length:=by simpa using h4
     refine⟨Int,fun i=>[(38,.int .i64 i)],fun _=>[],fun i=>(0≤i∧i≤a.routes.length)∧∀ k,k<i.toNat→(a.routes.getD k (0,0)).2≤(b.routes.getD k (0,0)).2,fun i=>((a.routes.length:Int)-i).toNat,⟨0,⟨by omega,fun k hk=>absurd hk (by omega)⟩,kp_,kp_⟩,?_⟩
     rintro i ⟨hi,hall⟩
     refine⟨⟨rfl,rfl⟩,?_⟩
     refine⟨fun hlt=>?_,fun hge=>?_⟩
     ·have hlt2:i<(a.routes.length:Int):=of_decide_eq_true hlt
      refine⟨⟨Nat.le_refl _,hi.1,by omega⟩,?_⟩
      refine⟨⟨Nat.le_refl _,hi.1,by omega⟩,?_⟩
      refine⟨fun hb=>?_,fun hb=>?_⟩
      ·have hb2:(b.routes.getD i.toNat (0,0)).2<(a.routes.getD i.toNat (0,0)).2:=of_decide_eq_true hb
       exact⟨false,rfl,(fun q=>Bool.noConfusion q),fun q=>absurd (q.ep i.toNat (by omega)) (by omega)⟩
      ·have hb2:¬ (b.routes.getD i.toNat (0,0)).2<(a.routes.getD i.toNat (0,0)).2:=of_decide_eq_false hb
       refine⟨_,?_,kp_,kp_⟩
       rw[wrapi (n:=i+1) (by omega)]
       dsimp only
       refine⟨⟨by omega,fun k hk=>?_⟩,by omega⟩
       by_cases hki:k<i.toNat
       ·exact hall k hki
       ·obtain rfl:k=i.toNat:=by omega
        omega
     ·have hge2:¬ i<(a.routes.length:Int):=of_decide_eq_false hge
      exact⟨true,rfl,fun _=>⟨by simpa using h1,by have:=of_decide_eq_false h2;omega,by have:=of_decide_eq_false h3;omega,by omega,fun k hk=>hall k (by omega)⟩,fun _=>rfl⟩
theorem follows_calls (A1 A2:Option Addr) (c1 c2:Nat) (a b:Atl) (w:World) (hl:a.routes.length≤1000000) (hr1:Rd w (·<w.heap.size) A1 (flat pairC a.routes)) (hr2:Rd w (·<w.heap.size) A2 (flat pairC b.routes)):Calls Tryz.prog 54 #[.agg #[.int .i64 a.number,.int .i64 a.tick,.slice A1 a.routes.length c1,.int .u64 a.parent,.int .u64 a.sum],.agg #[.int .i64 b.number,.int .i64 b.tick,.slice A2 b.routes.length c2,.int .u64 b.parent,.int .u64 b.sum]] w fun e w'=>∃ r,e=.returned (.bool r)∧(r=true↔FolA a b)∧Below w.heap.size w w':=by
 have:=uni_calls ttAok fti_nil Tryz.func54 rfl (D:=foD15) (by kernel_rfl) (vs:=[atlV a (slc 3 a.routes.length c1),atlV b (slc 5 b.routes.length c2)]) rfl { x:={ noX with ac:=A1,av:=A2 } } { c:={ noC with cells:=a.routes,versions:=b.routes } } w { c:={ noC_ok w (·<w.heap.size) with cells:=hr1,versions:=hr2 } } (fun v hv=>by
  simp only[List.mem_cons,List.not_mem_nil,or_false] at hv
  rcases hv with rfl | rfl
  ·intro u hu
   simp at hu
   rcases hu with rfl | rfl | rfl | rfl | rfl<;>first | trivial | exact⟨by decide,rfl⟩
  ·intro u hu
   simp at hu
   rcases hu with rfl | rfl | rfl | rfl | rfl<;>first | trivial | exact⟨by decide,rfl⟩) (follows_sx c1 c2 a b hl)
 have e0:([atlV a (slc 3 a.routes.length c1),atlV b (slc 5 b.routes.length c2)].map (den (upl { x:={ noX with ac:=A1,av:=A2 } } { c:={ noC with cells:=a.routes,versions:=b.routes } }))).toArray=#[.agg #[.int .i64 a.number,.int .i64 a.tick,.slice A1 a.routes.length c1,.int .u64 a.parent,.int .u64 a.sum],.agg #[.int .i64 b.number,.int .i64 b.tick,.slice A2 b.routes.length c2,.int .u64 b.parent,.int .u64 b.sum]]:=by simp[den,den2,den1,dA_whole,dS_whole,upl]
 rw[e0] at this
 refine this.mono ?_
 rintro e w' ⟨v,mem',nx',ρ',rfl,⟨r,rfl,hr⟩,hv,hm',hb⟩
 exact⟨r,rfl,hr,hb⟩
def ctFollows:CT:=fun vs mem nx K=>∃ a b v1 v2,vs=[atlV a v1,atlV b v2]∧(SrcR mem 2 pairC (0,0) a.routes v1∧SrcR mem 2 pairC (0,0) b.routes v2)∧a.routes.length≤1000000∧∀ r,(r=true↔FolA a b)→K (.bool r) mem nx
theorem followsOk:CSound Tryz.prog 54 ctFollows:=⟨by kernel_rfl,fun {C ρ fr mem nx q w vs K} hc hs hv=>by
 obtain⟨a,b,v1,v2,rfl,⟨h1,h2⟩,hl,hK⟩:=hc
 obtain⟨A1,c1,e1,hr1⟩:=hs.srcR (enc:=pairC) (sz:=2) (fun _=>rfl) (by omega) h1
 obtain⟨A2,c2,e2,hr2⟩:=hs.srcR (enc:=pairC) (sz:=2) (fun _=>rfl) (by omega) h2
 rw[List.map_cons,List.map_cons,den_atl h1 e1,den_atl h2 e2]
 refine (follows_calls A1 A2 c1 c2 a b w hl hr1 hr2).mono ?_
 rintro e w' ⟨r,rfl,hr,hb⟩
 exact⟨_,mem,nx,ρ,rfl,hK r hr,hs.later hb,trivial,ExtS.refl _ _⟩⟩
/-! Atlases of states that follow one another. -/
theorem fol_step {c:Cfg} {s x:St} {e:Ent} (hV:CfgV c) (hI:StInv c s) (h:applyP c s e=(x,0)) (p key key2:Int):FolA (makeA s p key) (makeA x (makeA s p key).sum key2):=by
 obtain⟨h1,h2,h3,h4⟩:=ep_step hV hI h
 refine⟨rfl,?_,h1,?_,fun k hk=>?_⟩
 ·show s.count<x.count
  omega
 ·show (routesOf s).length=(routesOf x).length
  rw[routes_len,routes_len,h3]
 ·have hk1:k<s.tenants.length:=by rw[← routes_len];exact hk
  have hk2:k<x.tenants.length:=by omega
  show ((routesOf s).getD k (0,0)).2≤((routesOf x).getD k (0,0)).2
  rw[routes_get hk1,routes_get hk2]
  have:=(h4 k _ _ (List.getElem?_eq_getElem hk1) (List.getElem?_eq_getElem hk2)).up.1
  rw[List.getD_eq_getElem?_getD,List.getD_eq_getElem?_getD,List.getElem?_eq_getElem hk1,List.getElem?_eq_getElem hk2]
  exact this
structure LnP (c:Cfg) (key:Int) (xs:List Atl):Prop where
 val:∀ k,k<xs.length→ValidA c (xs.getD k aZ) key
 fol:∀ k,k+1<xs.length→FolA (xs.getD k aZ) (xs.getD (k+1) aZ)
theorem LnP.one {c:Cfg} {key:Int} {a:Atl} (h:ValidA c a key):LnP c key [a]:=⟨fun k hk=>(match k,hk with | 0,_=>h),fun k hk=>absurd hk (by simp)⟩
theorem LnP.snoc {c:Cfg} {key:Int} {xs:List Atl} {a b:Atl} (hP:LnP c key xs) (hne:1≤xs.length) (hl:xs.getD (xs.length-1) aZ=a) (h:ValidA c b key) (hf:FolA a b):LnP c key (xs++[b]):=by
 refine⟨fun k hk=>?_,fun k hk=>?_⟩
 ·by_cases q:k<xs.length
  ·rw[getD_appA q];exact hP.val k q
  ·obtain rfl:k=xs.length:=by simp at hk;omega
   rw[getD_endA];exact h
 ·simp at hk
  by_cases q:k+1<xs.length
  ·rw[getD_appA q,getD_appA (by omega)];exact hP.fol k q
  ·obtain rfl:k=xs.length-1:=by omega
   rw[show xs.length-1+1=xs.length by omega,getD_endA,getD_appA (by omega),hl]
   exact hf
structure UpS (s t:St):Prop where
 tick:s.tick≤t.tick
 count:s.count≤t.count
 len:s.tenants.length=t.tenants.length
 ep:∀ k,k<s.tenants.length→((routesOf s).getD k (0,0)).2≤((routesOf t).getD k (0,0)).2
theorem UpS.refl (s:St):UpS s s:=⟨Int.le_refl _,Int.le_refl _,rfl,fun _ _=>Int.le_refl _⟩
theorem UpS.trans {s t u:St} (h:UpS s t) (h2:UpS t u):UpS s u:=⟨Int.le_trans h.tick h2.tick,Int.le_trans h.count h2.count,h.len.trans h2.len,fun k hk=>Int.le_trans (h.ep k hk) (h2.ep k (by rw[← h.len];exact hk))⟩
theorem up_step {c:Cfg} {s x:St} {e:Ent} (hV:CfgV c) (hI:StInv c s) (h:applyP c s e=(x,0)):UpS s x:=by
 have hf:=fol_step hV hI h 0 0 0
 have h1:=hf.len
 rw[show (makeA s 0 0).routes=routesOf s from rfl,show (makeA x (makeA s 0 0).sum 0).routes=routesOf x from rfl,routes_len,routes_len] at h1
 exact⟨hf.tick,Int.le_of_lt hf.num,h1,fun k hk=>hf.ep k (by rw[show (makeA s 0 0).routes=routesOf s from rfl,routes_len];exact hk)⟩
theorem Run.up {c:Cfg} (hV:CfgV c) {s s':St} {es:List Ent} (h:Run c s es s') (hs:RInv c s):UpS s s':=by
 induction h with
 | nil s=>exact .refl s
 | cons he _ ih=>exact (up_step hV hs.inv he).trans (ih (hs.step hV he))
theorem UpS.fol {s t:St} (h:UpS s t) (hn:s.count<t.count) (p key key2:Int):FolA (makeA s p key) (makeA t (makeA s p key).sum key2):=
 ⟨rfl,hn,h.tick,by rw[show (makeA s p key).routes=routesOf s from rfl,show (makeA t (makeA s p key).sum key2).routes=routesOf t from rfl,routes_len,routes_len];exact h.len,fun k hk=>h.ep k (by rw[← routes_len];exact hk)⟩
end Go.Proofs.YtdjkeplekchfdaaGreat
