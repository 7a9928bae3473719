import Derived.Test.YtnnpgbleacapfaaGreatPc20
import Derived.Test.YtnnpgbleacapfaaGreatPc25
namespace Go.Proofs.YtnnpgbleacapfaaGreat
open Go.RowKit
set_option linter.unusedSimpArgs false
set_option linter.unusedVariables false
set_option maxHeartbeats 1000000 in
theorem ldAdd_any (base:Nat) (A:Option Addr) (cp:Nat) (l:List Int) (i n:Int) (w:World) (hm:l.length≤1000) (hown:w.ownsRow base 3 1 (.slice A l.length cp) l.length (flat intC l))
  (hl:∀ z ∈ l,0≤z∧z≤1000000000) (hn:0≤n) (hn2:n≤1000000) :
  Calls Tryz.prog 132 #[.slice A l.length cp,.int .i64 i,.int .i64 n] w (fun e w'=>AddPost base A cp (addAt l i n) w e w'):=by
 have hlen:=addAt_len l i n
 by_cases hi:0≤i∧i<l.length
 ·obtain⟨h0,h1⟩:=hi
  obtain⟨k,rfl⟩:=Int.eq_ofNat_of_zero_le h0
  have hk:k<l.length:=by omega
  obtain⟨g,cap',hv,_,hlt⟩:=hown.form (by omega)
  simp only[Value.slice.injEq,true_and] at hv
  obtain⟨rfl,rfl⟩:=hv
  have c0:=hown.cellAt k (by omega)
  rw[flat_int,List.getElem?_map,List.getElem?_eq_getElem hk] at c0
  simp only[Option.map_some] at c0
  have f0:=hown.frozenAt k
  have hz:=hl l[k] (List.getElem_mem hk)
  have ha:addAt l k n=l.set k (l[k]+n):=by
   unfold addAt
   rw[if_pos ⟨h0,h1⟩,Int.toNat_natCast,getD_some (List.getElem?_eq_getElem hk)]
  have hst:=hown.stored k (.int .i64 (l[k]+n))
  rw[flat_int_set] at hst
  have hp:AddPost base (some ⟨g,0,none⟩) cp (addAt l k n) w (.returned (.tuple #[])) (w.setCell ⟨g,k,none⟩ (.int .i64 (l[k]+n))):=by
   refine⟨rfl,?_,?_⟩
   ·rw[hlen,ha];exact hst.1
   ·exact hst.2
  have HP:=Lib.hid hp
  clear hp hst ha hown hl hlen
  generalize l[k]=z at *
  go_enter Tryz.func132,Tryz.ntmps132
  go_wp2
  go_end0
  exact HP.out
 ·have ha:addAt l i n=l:=by unfold addAt;rw[if_neg hi]
  have hp:AddPost base A cp (addAt l i n) w (.returned (.tuple #[])) w:=by rw[ha];exact⟨rfl,hown,grown_refl _ _⟩
  have HP:=Lib.hid hp
  have hd:i<0∨(0≤i∧(l.length:Int)≤i):=by omega
  clear hp ha hown hl hlen hi
  rcases hd with hd | ⟨hd1,hd⟩
  all_goals
   go_enter Tryz.func132,Tryz.ntmps132
   go_wp2
   go_end0
   exact HP.out
set_option maxHeartbeats 1000000 in
theorem ldActive_any (t:TS) (w:World):Calls Tryz.prog 131 #[.agg (tsC t).toArray] w fun r w'=>r=.returned (.bool (t.placed&&!t.shed))∧Below w.heap.size w w':=by
 unfold tsC
 go_enter Tryz.func131,Tryz.ntmps131
 go_wp2
 all_goals
  go_ret
  refine⟨ret_bool ?_,(Below.refl _ _).alloc (Nat.le_refl _) _⟩
  go_light
  simp_all
set_option maxHeartbeats 1000000 in
theorem ldCount_any (x:CfgA) (c:Cfg) (y:StA) (s:St) (w:World) (hV:CfgV c) (hI:s.tenants.length=c.tenants.length) :
  Calls Tryz.prog 130 #[.agg (cfgC x c),.agg (stC y s)] w fun r w'=>r=.returned (.int .i64 s.tenants.length)∧Below w.heap.size w w':=by
 have hnt:=hV.nt
 obtain⟨az,cz,ac,cc,at_,ct,av,cv,ar,cr,ao,co⟩:=x
 obtain⟨sat,sct,sac,scc⟩:=y
 have HI:=Lib.hid hI
 unfold cfgC stC
 simp only
 rw[hI]
 clear hI hV
 generalize c.tenants.length=m at *
 go_enter Tryz.func130,Tryz.ntmps130
 go_wp2
 all_goals
  go_ret
  exact⟨rfl,((Below.refl _ _).alloc (Nat.le_refl _) _).alloc (by simp) _⟩
theorem tenSize7:(Tryz.prog.info? 98).map (·.size)=some 7:=by kernel_rfl
theorem tsSize12:(Tryz.prog.info? 63).map (·.size)=some 12:=by kernel_rfl
def BookRel (W:World) (c:Cfg) (s:St) (A:Option Addr) (cp:Nat) (gk:Nat) (si:Value) (wr:World):Prop:=
 ∃ k:Nat,gk+k=s.tenants.length∧si=.int .i64 k∧wr.ownsRow W.heap.size 3 1 (.slice A c.cells.length cp) c.cells.length (flat intC (bookK c s k))∧Below W.heap.size W wr
theorem ldAdd2 (m base:Nat) (A:Option Addr) (cp:Nat) (l:List Int) (i n:Int) (w:World) (hlm:l.length=m) (hm:m≤1000) (hown:w.ownsRow base 3 1 (.slice A m cp) m (flat intC l))
  (hl:∀ z ∈ l,0≤z∧z≤1000000000) (hn:0≤n) (hn2:n≤1000000) :
  Calls Tryz.prog 132 #[.slice A m cp,.int .i64 i,.int .i64 n] w (fun e w'=>e=.returned (.tuple #[])∧w'.ownsRow base 3 1 (.slice A m cp) m (flat intC (addAt l i n))∧w.grownBy w' (Value.slice A m cp).ownBlock):=by
 subst hlm
 refine (ldAdd_any base A cp l i n w hm hown hl hn hn2).mono ?_
 rintro e w' ⟨h1,h2,h3⟩
 rw[addAt_len] at h2 h3
 exact⟨h1,h2,h3⟩
theorem made_zeros (n:Nat):(madeCells #[Value.int IntKind.i64 0] n).toList=flat intC (List.replicate n 0):=by
 rw[flat_int,toList_madeCells_one]
 simp
set_option maxHeartbeats 8000000 in
set_option maxRecDepth 100000 in
theorem ldBooked_any (x:CfgA) (c:Cfg) (y:StA) (s:St) (w:World) (hV:CfgV c) (hc:CfgOk w (·<w.heap.size) x c) (hI:StInv c s) (hs:StOk w (·<w.heap.size) y s) :
  Calls Tryz.prog 95 #[.agg (cfgC x c),.agg (stC y s)] w (IntsPost w (booked c s)):=by
 obtain⟨ii,hii,hi0,hi1,hi2⟩:=info_parts r5intInfo
 have hnc:=hV.nc
 have hntt:=hV.nt
 have hlt0:=hI.lt
 have HLT:=Lib.hid hlt0
 clear hlt0
 obtain⟨az,cz,ac,cc,at_,ct,av,cv,ar,cr,ao,co⟩:=x
 have HV:=Lib.hid hV
 have HKc:=Lib.hid hc
 clear hV hc
 obtain⟨sat,sct,sac,scc⟩:=y
 have HKs:=Lib.hid hs
 have hsl:1≤s.cells.length∧s.cells.length≤16:=by have:=hI.lc;omega
 have hst:s.tenants.length≤32:=by have:=hI.lt;omega
 have HI:=Lib.hid hI
 clear hs hI
 have HC:=Lib.hid (fun W=>ldCount_any ⟨az,cz,ac,cc,at_,ct,av,cv,ar,cr,ao,co⟩ c ⟨sat,sct,sac,scc⟩ s W HV.out HLT.out)
 unfold cfgC stC at HC
 simp only at HC
 have hL:Below w.heap.size w ((w.alloc (.cells #[.int .i64 c.regions,.slice az c.zones.length cz,.slice ac c.cells.length cc,.slice at_ c.tenants.length ct,.slice av c.versions.length cv,.slice ar c.replicas.length cr,.slice ao c.observers.length co,.int .i64 c.blast,.int .i64 c.lease,.int .i64 c.bake] 30)).alloc (.cells #[.int .i64 s.tick,.int .i64 s.count,.slice sat s.tenants.length sct,.slice sac s.cells.length scc,.int .i64 s.proven,.int .i64 s.evac,.int .i64 s.low,.int .i64 s.high] 34)):=(((Below.refl w.heap.size w).alloc (by simp<;>omega) (.cells #[.int .i64 c.regions,.slice az c.zones.length cz,.slice ac c.cells.length cc,.slice at_ c.tenants.length ct,.slice av c.versions.length cv,.slice ar c.replicas.length cr,.slice ao c.observers.length co,.int .i64 c.blast,.int .i64 c.lease,.int .i64 c.bake] 30)).alloc (by simp<;>omega) (.cells #[.int .i64 s.tick,.int .i64 s.count,.slice sat s.tenants.length sct,.slice sac s.cells.length scc,.int .i64 s.proven,.int .i64 s.evac,.int .i64 s.low,.int .i64 s.high] 34))
 have hBc:Blk ((w.alloc (.cells #[.int .i64 c.regions,.slice az c.zones.length cz,.slice ac c.cells.length cc,.slice at_ c.tenants.length ct,.slice av c.versions.length cv,.slice ar c.replicas.length cr,.slice ao c.observers.length co,.int .i64 c.blast,.int .i64 c.lease,.int .i64 c.bake] 30)).alloc (.cells #[.int .i64 s.tick,.int .i64 s.count,.slice sat s.tenants.length sct,.slice sac s.cells.length scc,.int .i64 s.proven,.int .i64 s.evac,.int .i64 s.low,.int .i64 s.high] 34)) (w.heap.size) 30 #[.int .i64 c.regions,.slice az c.zones.length cz,.slice ac c.cells.length cc,.slice at_ c.tenants.length ct,.slice av c.versions.length cv,.slice ar c.replicas.length cr,.slice ao c.observers.length co,.int .i64 c.blast,.int .i64 c.lease,.int .i64 c.bake]:=by
  have:=((Blk.new w 30 #[.int .i64 c.regions,.slice az c.zones.length cz,.slice ac c.cells.length cc,.slice at_ c.tenants.length ct,.slice av c.versions.length cv,.slice ar c.replicas.length cr,.slice ao c.observers.length co,.int .i64 c.blast,.int .i64 c.lease,.int .i64 c.bake]).alloc (.cells #[.int .i64 s.tick,.int .i64 s.count,.slice sat s.tenants.length sct,.slice sac s.cells.length scc,.int .i64 s.proven,.int .i64 s.evac,.int .i64 s.low,.int .i64 s.high] 34))
  simpa using this
 have hBs:Blk ((w.alloc (.cells #[.int .i64 c.regions,.slice az c.zones.length cz,.slice ac c.cells.length cc,.slice at_ c.tenants.length ct,.slice av c.versions.length cv,.slice ar c.replicas.length cr,.slice ao c.observers.length co,.int .i64 c.blast,.int .i64 c.lease,.int .i64 c.bake] 30)).alloc (.cells #[.int .i64 s.tick,.int .i64 s.count,.slice sat s.tenants.length sct,.slice sac s.cells.length scc,.int .i64 s.proven,.int .i64 s.evac,.int .i64 s.low,.int .i64 s.high] 34)) (w.heap.size+1) 34 #[.int .i64 s.tick,.int .i64 s.count,.slice sat s.tenants.length sct,.slice sac s.cells.length scc,.int .i64 s.proven,.int .i64 s.evac,.int .i64 s.low,.int .i64 s.high]:=by
  have:=(Blk.new (w.alloc (.cells #[.int .i64 c.regions,.slice az c.zones.length cz,.slice ac c.cells.length cc,.slice at_ c.tenants.length ct,.slice av c.versions.length cv,.slice ar c.replicas.length cr,.slice ao c.observers.length co,.int .i64 c.blast,.int .i64 c.lease,.int .i64 c.bake] 30)) 34 #[.int .i64 s.tick,.int .i64 s.count,.slice sat s.tenants.length sct,.slice sac s.cells.length scc,.int .i64 s.proven,.int .i64 s.evac,.int .i64 s.low,.int .i64 s.high])
  simpa using this
 unfold cfgC stC
 simp only
 go_enter Tryz.func95,Tryz.ntmps95
 go_upto_region 1 with fail
 generalize (w.alloc _).alloc _=W at *
 have hgc:=hBc.lt
 have d0:=hBc.cell' (i:=0) (v:=.int .i64 c.regions) rfl
 have d1:=hBc.cell' (i:=1) (v:=.slice az c.zones.length cz) rfl
 have d2:=hBc.cell' (i:=2) (v:=.slice ac c.cells.length cc) rfl
 have d3:=hBc.cell' (i:=3) (v:=.slice at_ c.tenants.length ct) rfl
 have d4:=hBc.cell' (i:=4) (v:=.slice av c.versions.length cv) rfl
 have d5:=hBc.cell' (i:=5) (v:=.slice ar c.replicas.length cr) rfl
 have d6:=hBc.cell' (i:=6) (v:=.slice ao c.observers.length co) rfl
 have d7:=hBc.cell' (i:=7) (v:=.int .i64 c.blast) rfl
 have d8:=hBc.cell' (i:=8) (v:=.int .i64 c.lease) rfl
 have d9:=hBc.cell' (i:=9) (v:=.int .i64 c.bake) rfl
 clear hBc
 have hgs:=hBs.lt
 have su0:=hBs.cell' (i:=0) (v:=.int .i64 s.tick) rfl
 have su1:=hBs.cell' (i:=1) (v:=.int .i64 s.count) rfl
 have su2:=hBs.cell' (i:=2) (v:=.slice sat s.tenants.length sct) rfl
 have su3:=hBs.cell' (i:=3) (v:=.slice sac s.cells.length scc) rfl
 have su4:=hBs.cell' (i:=4) (v:=.int .i64 s.proven) rfl
 have su5:=hBs.cell' (i:=5) (v:=.int .i64 s.evac) rfl
 have su6:=hBs.cell' (i:=6) (v:=.int .i64 s.low) rfl
 have su7:=hBs.cell' (i:=7) (v:=.int .i64 s.high) rfl
 clear hBs
 have HL:=Lib.hid hL
 have HWc:=Lib.hid (HKc.out.belowW hL)
 have HWs:=Lib.hid (HKs.out.belowW hL)
 clear hL
 go_wp2_with (at_make;refine wpList_make_full W rfl _ _ _ rfl W.heap.size 3 ii _ 1 Tryz.underlying22 hii hi0 hi1 .i64 .i64 _ _ c.cells.length rfl rfl rfl rfl ?b1 ?b2 ?b3 ?_)
 case b1=>rw[hi2];omega
 case b2=>unfold maxLen;omega
 case b3=>exact Nat.le_refl _
 intro w1 hO1 hg1
 rw[made_zeros] at hO1
 have hB1:Below W.heap.size W w1:=(Below.refl _ _).grown hg1 (Nat.le_refl _) (by rintro _ ⟨⟩)
 have hlt1:=(hO1.lt W.heap.size rfl).2
 obtain⟨hc1,hf1⟩:=bcell hB1
 have HO1:=Lib.hid hO1
 have HB1:=Lib.hid hB1
 clear hO1 hg1 hB1 hf1
 go_wp2_with fail
 refine (HC.out _).mono ?_
 rintro r w2 ⟨rfl,hb2⟩
 have HO2:=Lib.hid (own_below HO1.out hb2 fun j hj=>(HO1.out.lt j hj).2)
 have HB2:=Lib.hid (HB1.out.trans (hb2.mono HB1.out.size))
 clear hb2 HO1 HB1 hc1 hlt1 HC
 go_wp2
 have hgr:∃ gr,gr=W.heap.size:=⟨_,rfl⟩
 obtain⟨gr,hgr⟩:=hgr
 go_loopg [16] s.tenants.length (fun gk si wr=>BookRel W c s (some ⟨W.heap.size,0,none⟩) c.cells.length gk si wr)
 case atStart=>exact⟨0,by omega,rfl,HO2.out,HB2.out⟩
 case round=>
  rename_i J K aJ aK
  obtain⟨k,hgk,rfl,hown,hbel⟩:=hrel
  have HO:=Lib.hid hown
  have HB:=Lib.hid hbel
  have hsz:=hbel.size
  have hszlt:W.heap.size<wr.heap.size:=(hown.lt W.heap.size rfl).2
  obtain⟨hcW,hfW⟩:=bcell hbel
  clear hown hbel hfW HO2 HB2
  by_cases hk:k<s.tenants.length
  ·have hlt:(k:Int)<(s.tenants.length:Int):=by omega
   have hk2:k<c.tenants.length:=by have:=HLT.out;omega
   have hlt2:(k:Int)<(c.tenants.length:Int):=by omega
   obtain⟨bt,oft,t,rfl,hbt,hzt,hct⟩:=HWs.out.tenants.row (enc:=tsC) (sz:=12) (fun _=>rfl) (by omega) hk
   obtain⟨bd,ofd,de,rfl,hbd,hzd,hcd⟩:=HWc.out.tenants.row (enc:=tenC) (sz:=7) (fun _=>rfl) (by omega) hk2
   have hbtW:bt<W.heap.size:=hbt
   have hbdW:bd<W.heap.size:=hbd
   have hbt2:bt<wr.heap.size:=Nat.lt_of_lt_of_le hbt hsz
   have hbd2:bd<wr.heap.size:=Nat.lt_of_lt_of_le hbd hsz
   have hgc2:w.heap.size<wr.heap.size:=Nat.lt_of_lt_of_le hgc hsz
   have hgs2:w.heap.size+1<wr.heap.size:=Nat.lt_of_lt_of_le hgs hsz
   have t0:=hct 0 (.bool t.placed) rfl
   have t1:=hct 1 (.bool t.shed) rfl
   have t2:=hct 2 (.int .i64 t.home) rfl
   have t3:=hct 3 (.int .i64 t.standby) rfl
   have t4:=hct 4 (.int .i64 t.next) rfl
   have t5:=hct 5 (.int .i64 t.target) rfl
   have t6:=hct 6 (.int .i64 t.epoch) rfl
   have t7:=hct 7 (.int .i64 t.win.cell) rfl
   have t8:=hct 8 (.int .i64 t.win.epoch) rfl
   have t9:=hct 9 (.int .i64 t.win.version) rfl
   have t10:=hct 10 (.int .i64 t.win.since) rfl
   have t11:=hct 11 (.int .i64 t.win.till) rfl
   have y0:=hcd 0 (.int .i64 de.load) rfl
   have y1:=hcd 1 (.int .i64 de.shadow) rfl
   have y2:=hcd 2 (.int .i64 de.prio) rfl
   have y3:=hcd 3 (.int .i64 de.lag) rfl
   have y4:=hcd 4 (.int .i64 de.allowed) rfl
   have y5:=hcd 5 (.int .i64 de.group) rfl
   have y6:=hcd 6 (.bool de.noisy) rfl
   simp only[Nat.add_zero] at t0 y0
   have hdb:=tenAt_bd HV.out hzd
   have HS:=Lib.hid (bookK_succ hzt hzd)
   have HWI:=Lib.hid (bookK_within HV.out s k)
   clear hct hcd hzt hzd hbt hbd
   go_upto_region 5 with fail
   go_cut [7,8,16] from 16 to 58 (fun v7 v8 v16 wx=>v16=.int .i64 k∧∃ ga gb,v7=.pointer (some ⟨ga,0,none⟩)∧v8=.pointer (some ⟨gb,0,none⟩)∧TwoC wr 98 63 #[.int .i64 de.load,.int .i64 de.shadow,.int .i64 de.prio,.int .i64 de.lag,.int .i64 de.allowed,.int .i64 de.group,.bool de.noisy] #[.bool t.placed,.bool t.shed,.int .i64 t.home,.int .i64 t.standby,.int .i64 t.next,.int .i64 t.target,.int .i64 t.epoch,.int .i64 t.win.cell,.int .i64 t.win.epoch,.int .i64 t.win.version,.int .i64 t.win.since,.int .i64 t.win.till] ga gb wx∧wr.heap.size≤ga∧wr.heap.size≤gb)
   case first=>
    refine wp_region_seqI (fun w':World=>Below wr.heap.size wr w') 13 [0,1,2,3,4,5,6,7,8,9] [10,11,12] (fun i=>if i=12 then [10,11] else []) (by kernel_rfl) (by kernel_rfl) (Below.refl _ _).drew ?_
    simp only[List.take_succ_cons,List.take_zero,List.drop_succ_cons,List.drop_zero]
    repeat (refine wpSeqI_fix _ ?_ rfl (by first | exact fun _ _ _ h=>h | exact fun _ _ _ h=>hpan _ _ _ _ _ h) (Or.inl ⟨by rfl,?_⟩) ?_;rotate_left;(intro w' hSw;(try dsimp only at hSw);obtain⟨hc,hf⟩:=bcell hSw;clear hf hSw;go_simp;(try with_reducible rfl));(simp only[List.getElem_toArray,List.getElem_cons_zero,List.getElem_cons_succ,Act.put,List.setIfInBounds_toArray,List.set_cons_zero,List.set_cons_succ]))
    refine wpSeqI_acts (fun a0 d a wx=>∃ va vb ga gb,a=((a0.put (some 7) va).put (some 8) vb)∧TwoJ wr 98 63 #[.int .i64 0,.int .i64 0,.int .i64 0,.int .i64 0,.int .i64 0,.int .i64 0,.bool false] #[.int .i64 de.load,.int .i64 de.shadow,.int .i64 de.prio,.int .i64 de.lag,.int .i64 de.allowed,.int .i64 de.group,.bool de.noisy] #[.bool false,.bool false,.int .i64 0,.int .i64 0,.int .i64 0,.int .i64 0,.int .i64 0,.int .i64 0,.int .i64 0,.int .i64 0,.int .i64 0,.int .i64 0] 10 11 12 d va vb ga gb wx) ?j1 ?j2 ?j3
    case j1=>
     intro d hd
     refine⟨_,_,0,0,rfl,TwoJ.start (Below.refl _ _).drew (hd 10 (by simp)) (hd 11 (by simp)) (hd 12 (by simp))⟩
    case j2=>
     refine acts_cons (actStep_op rfl rfl ?s10) (acts_cons (actStep_op rfl rfl ?s11) (acts_cons (actStep_op rfl rfl ?s12) acts_nil))
     case s10=>
      rintro d a wx h0 hp hS ⟨va,vb,ga,gb,rfl,hJ⟩
      have HJ:=Lib.hid (hJ.allocA h0 (by decide) (by decide))
      clear hJ hS hp h0
      simp only[List.getElem_toArray,List.getElem_cons_zero,List.getElem_cons_succ,Act.put,List.setIfInBounds_toArray,List.set_cons_zero,List.set_cons_succ]
      go_simp
      exact⟨HJ.out.below,_,_,⟨rfl,rfl⟩,_,gb,HJ.out⟩
     case s11=>
      rintro d a wx h0 hp hS ⟨va,vb,ga,gb,rfl,hJ⟩
      have HJ:=Lib.hid (hJ.allocB (by decide) (by decide))
      clear hJ hS hp h0
      simp only[List.getElem_toArray,List.getElem_cons_zero,List.getElem_cons_succ,Act.put,List.setIfInBounds_toArray,List.set_cons_zero,List.set_cons_succ]
      go_simp
      exact⟨HJ.out.below,_,_,⟨rfl,rfl⟩,ga,_,HJ.out⟩
     case s12=>
      rintro d a wx h0 hp hS ⟨va,vb,ga,gb,rfl,hJ⟩
      have HJ:=Lib.hid (hJ.storeA (hp 10 (by simp)) (hp 11 (by simp)) (by decide) (by decide) (putL_full rfl) (putL_full rfl))
      obtain⟨rfl,hk,hle⟩:=hJ.a (hp 10 (by simp))
      clear hJ hS hp h0
      simp only[List.getElem_toArray,List.getElem_cons_zero,List.getElem_cons_succ,Act.put,List.setIfInBounds_toArray,List.set_cons_zero,List.set_cons_succ]
      refine wp_store_mid _ _ _ (by rfl) ga 0 #[.int .i64 de.load,.int .i64 de.shadow,.int .i64 de.prio,.int .i64 de.lag,.int .i64 de.allowed,.int .i64 de.group,.bool de.noisy] (by go_simp) (by go_simp) (hk.there 0 7 (by split<;>simp)) tenSize7 (by simp[Value.oneCell']) ?_
      refine⟨HJ.out.below,?_⟩
      go_simp
      exact⟨_,_,⟨rfl,rfl⟩,ga,gb,HJ.out⟩
    case j3=>
     rintro d a wx hp hS ⟨va,vb,ga,gb,rfl,hJ⟩
     obtain⟨rfl,hka,hla⟩:=hJ.a (hp 10 (by simp))
     obtain⟨rfl,hkb,hlb⟩:=hJ.b (hp 11 (by simp))
     have HJ:=Lib.hid (hJ.done1 (FB:=#[.bool t.placed,.bool t.shed,.int .i64 t.home,.int .i64 t.standby,.int .i64 t.next,.int .i64 t.target,.int .i64 t.epoch,.int .i64 t.win.cell,.int .i64 t.win.epoch,.int .i64 t.win.version,.int .i64 t.win.since,.int .i64 t.win.till]) (hp 10 (by simp)) (hp 11 (by simp)) (hp 12 (by simp)) (putL_full rfl))
     clear hJ hS hp
     simp only[List.getElem_toArray,List.getElem_cons_zero,List.getElem_cons_succ,Act.put,List.setIfInBounds_toArray,List.set_cons_zero,List.set_cons_succ,thenK]
     refine wpList_store_mid (by rfl) _ _ _ (by rfl) gb 0 #[.bool t.placed,.bool t.shed,.int .i64 t.home,.int .i64 t.standby,.int .i64 t.next,.int .i64 t.target,.int .i64 t.epoch,.int .i64 t.win.cell,.int .i64 t.win.epoch,.int .i64 t.win.version,.int .i64 t.win.since,.int .i64 t.win.till] (by go_simp) (by go_simp) (hkb.there 0 12 (by simp)) tsSize12 (by simp[Value.oneCell']) ?_
     go_wp2
     go_meet
     exact⟨rfl,ga,gb,rfl,rfl,HJ.out,hla,hlb⟩
   case rest=>
    obtain⟨rfl,ga,gb,rfl,rfl,hC,hC2⟩:=hcut
    have hA:=hC.a
    have hBk:=hC.b
    replace HO:=Lib.hid (own_below HO.out hC.below fun j hj=>(HO.out.lt j hj).2)
    replace HB:=Lib.hid (HB.out.trans (hC.below.mono hsz))
    have hga:W.heap.size<ga:=Nat.lt_of_lt_of_le hszlt hC2.1
    have hgb:W.heap.size<gb:=Nat.lt_of_lt_of_le hszlt hC2.2
    clear t0 t1 t2 t3 t4 t5 t6 t7 t8 t9 t10 t11 y0 y1 y2 y3 y4 y5 y6 hcW hC hbt2 hbd2 hgc2 hgs2 hbtW hbdW hsz
    have p0:=hA.cell' (i:=0) (v:=.int .i64 de.load) rfl
    have p1:=hA.cell' (i:=1) (v:=.int .i64 de.shadow) rfl
    have q0:=hBk.cell' (i:=0) (v:=.bool t.placed) rfl
    have q1:=hBk.cell' (i:=1) (v:=.bool t.shed) rfl
    have q2:=hBk.cell' (i:=2) (v:=.int .i64 t.home) rfl
    have q3:=hBk.cell' (i:=3) (v:=.int .i64 t.standby) rfl
    have q4:=hBk.cell' (i:=4) (v:=.int .i64 t.next) rfl
    have q5:=hBk.cell' (i:=5) (v:=.int .i64 t.target) rfl
    have q6:=hBk.cell' (i:=6) (v:=.int .i64 t.epoch) rfl
    have q7:=hBk.cell' (i:=7) (v:=.int .i64 t.win.cell) rfl
    have q8:=hBk.cell' (i:=8) (v:=.int .i64 t.win.epoch) rfl
    have q9:=hBk.cell' (i:=9) (v:=.int .i64 t.win.version) rfl
    have q10:=hBk.cell' (i:=10) (v:=.int .i64 t.win.since) rfl
    have q11:=hBk.cell' (i:=11) (v:=.int .i64 t.win.till) rfl
    have hw0:=HWI.out
    cases hpl:t.placed
    ·have HE:Hid (bookK c s (k+1)=bookK c s k):=Lib.hid (by rw[HS.out];unfold bookT;rw[if_pos hpl])
     rw[hpl] at q0
     go_wp2
     go_roundg (gk-1)
     case measure=>omega
     case rel=>exact⟨k+1,by omega,by go_num,by rw[HE.out];exact HO.out,HB.out⟩
    ·have HAC:=Lib.hid (fun W=>ldActive_any t W)
     unfold tsC at HAC
     rw[hpl] at HAC
     go_wp2_with fail
     refine (HAC.out _).mono ?_
     rintro r wn ⟨rfl,hbn⟩
     clear HAC
     replace HO:=Lib.hid (own_below HO.out hbn fun j hj=>(HO.out.lt j hj).2)
     replace HB:=Lib.hid (HB.out.trans (hbn.mono HB.out.size))
     replace hA:=hA.below hbn hA.lt
     replace hBk:=hBk.below hbn hBk.lt
     clear hbn
     replace p0:=hA.cell' (i:=0) (v:=.int .i64 de.load) rfl
     replace p1:=hA.cell' (i:=1) (v:=.int .i64 de.shadow) rfl
     replace q0:=hBk.cell' (i:=0) (v:=.bool t.placed) rfl
     replace q1:=hBk.cell' (i:=1) (v:=.bool t.shed) rfl
     replace q2:=hBk.cell' (i:=2) (v:=.int .i64 t.home) rfl
     replace q3:=hBk.cell' (i:=3) (v:=.int .i64 t.standby) rfl
     replace q4:=hBk.cell' (i:=4) (v:=.int .i64 t.next) rfl
     replace q5:=hBk.cell' (i:=5) (v:=.int .i64 t.target) rfl
     replace q6:=hBk.cell' (i:=6) (v:=.int .i64 t.epoch) rfl
     replace q7:=hBk.cell' (i:=7) (v:=.int .i64 t.win.cell) rfl
     replace q8:=hBk.cell' (i:=8) (v:=.int .i64 t.win.epoch) rfl
     replace q9:=hBk.cell' (i:=9) (v:=.int .i64 t.win.version) rfl
     replace q10:=hBk.cell' (i:=10) (v:=.int .i64 t.win.since) rfl
     replace q11:=hBk.cell' (i:=11) (v:=.int .i64 t.win.till) rfl
     cases hsh:t.shed
     ·have HE:Hid (bookK c s (k+1)=addAt (addAt (addAt (addAt (bookK c s k) t.home de.load) t.target de.load) t.standby de.shadow) t.next de.shadow):=Lib.hid (by rw[HS.out];unfold bookT;rw[if_neg (by simp[hpl]),if_neg (by simp[hsh])])
      have hw1:=hw0.add (n:=de.load) (by omega) t.home
      have hw2:=hw1.add (n:=de.load) (by omega) t.target
      have hw3:=hw2.add (n:=de.shadow) (by omega) t.standby
      go_wp2_with fail
      refine (ldAdd2 c.cells.length W.heap.size (some ⟨W.heap.size,0,none⟩) c.cells.length (bookK c s k) t.home de.load _ (by (try simp only[addAt_len]);exact bookK_len _ _ _) (by omega) HO.out (by intro z hz;have:=hw0 z hz;omega) (by omega) (by omega)).mono ?_
      rintro r wn ⟨rfl,hOn,hgn⟩
      replace HB:=Lib.hid (HB.out.grown hgn HB.out.size (by rintro _ ⟨⟩;exact Nat.le_refl _))
      replace HO:=Lib.hid hOn
      replace hA:=hA.grown hgn (by intro q;have q2:ga=W.heap.size:=Option.some.inj q;omega)
      replace hBk:=hBk.grown hgn (by intro q;have q2:gb=W.heap.size:=Option.some.inj q;omega)
      clear hOn hgn
      replace p0:=hA.cell' (i:=0) (v:=.int .i64 de.load) rfl
      replace p1:=hA.cell' (i:=1) (v:=.int .i64 de.shadow) rfl
      replace q0:=hBk.cell' (i:=0) (v:=.bool t.placed) rfl
      replace q1:=hBk.cell' (i:=1) (v:=.bool t.shed) rfl
      replace q2:=hBk.cell' (i:=2) (v:=.int .i64 t.home) rfl
      replace q3:=hBk.cell' (i:=3) (v:=.int .i64 t.standby) rfl
      replace q4:=hBk.cell' (i:=4) (v:=.int .i64 t.next) rfl
      replace q5:=hBk.cell' (i:=5) (v:=.int .i64 t.target) rfl
      replace q6:=hBk.cell' (i:=6) (v:=.int .i64 t.epoch) rfl
      replace q7:=hBk.cell' (i:=7) (v:=.int .i64 t.win.cell) rfl
      replace q8:=hBk.cell' (i:=8) (v:=.int .i64 t.win.epoch) rfl
      replace q9:=hBk.cell' (i:=9) (v:=.int .i64 t.win.version) rfl
      replace q10:=hBk.cell' (i:=10) (v:=.int .i64 t.win.since) rfl
      replace q11:=hBk.cell' (i:=11) (v:=.int .i64 t.win.till) rfl
      go_wp2_with fail
      refine (ldAdd2 c.cells.length W.heap.size (some ⟨W.heap.size,0,none⟩) c.cells.length (addAt (bookK c s k) t.home de.load) t.target de.load _ (by (try simp only[addAt_len]);exact bookK_len _ _ _) (by omega) HO.out (by intro z hz;have:=hw1 z hz;omega) (by omega) (by omega)).mono ?_
      rintro r wn ⟨rfl,hOn,hgn⟩
      replace HB:=Lib.hid (HB.out.grown hgn HB.out.size (by rintro _ ⟨⟩;exact Nat.le_refl _))
      replace HO:=Lib.hid hOn
      replace hA:=hA.grown hgn (by intro q;have q2:ga=W.heap.size:=Option.some.inj q;omega)
      replace hBk:=hBk.grown hgn (by intro q;have q2:gb=W.heap.size:=Option.some.inj q;omega)
      clear hOn hgn
      replace p0:=hA.cell' (i:=0) (v:=.int .i64 de.load) rfl
      replace p1:=hA.cell' (i:=1) (v:=.int .i64 de.shadow) rfl
      replace q0:=hBk.cell' (i:=0) (v:=.bool t.placed) rfl
      replace q1:=hBk.cell' (i:=1) (v:=.bool t.shed) rfl
      replace q2:=hBk.cell' (i:=2) (v:=.int .i64 t.home) rfl
      replace q3:=hBk.cell' (i:=3) (v:=.int .i64 t.standby) rfl
      replace q4:=hBk.cell' (i:=4) (v:=.int .i64 t.next) rfl
      replace q5:=hBk.cell' (i:=5) (v:=.int .i64 t.target) rfl
      replace q6:=hBk.cell' (i:=6) (v:=.int .i64 t.epoch) rfl
      replace q7:=hBk.cell' (i:=7) (v:=.int .i64 t.win.cell) rfl
      replace q8:=hBk.cell' (i:=8) (v:=.int .i64 t.win.epoch) rfl
      replace q9:=hBk.cell' (i:=9) (v:=.int .i64 t.win.version) rfl
      replace q10:=hBk.cell' (i:=10) (v:=.int .i64 t.win.since) rfl
      replace q11:=hBk.cell' (i:=11) (v:=.int .i64 t.win.till) rfl
      go_wp2_with fail
      refine (ldAdd2 c.cells.length W.heap.size (some ⟨W.heap.size,0,none⟩) c.cells.length (addAt (addAt (bookK c s k) t.home de.load) t.target de.load) t.standby de.shadow _ (by (try simp only[addAt_len]);exact bookK_len _ _ _) (by omega) HO.out (by intro z hz;have:=hw2 z hz;omega) (by omega) (by omega)).mono ?_
      rintro r wn ⟨rfl,hOn,hgn⟩
      replace HB:=Lib.hid (HB.out.grown hgn HB.out.size (by rintro _ ⟨⟩;exact Nat.le_refl _))
      replace HO:=Lib.hid hOn
      replace hA:=hA.grown hgn (by intro q;have q2:ga=W.heap.size:=Option.some.inj q;omega)
      replace hBk:=hBk.grown hgn (by intro q;have q2:gb=W.heap.size:=Option.some.inj q;omega)
      clear hOn hgn
      replace p0:=hA.cell' (i:=0) (v:=.int .i64 de.load) rfl
      replace p1:=hA.cell' (i:=1) (v:=.int .i64 de.shadow) rfl
      replace q0:=hBk.cell' (i:=0) (v:=.bool t.placed) rfl
      replace q1:=hBk.cell' (i:=1) (v:=.bool t.shed) rfl
      replace q2:=hBk.cell' (i:=2) (v:=.int .i64 t.home) rfl
      replace q3:=hBk.cell' (i:=3) (v:=.int .i64 t.standby) rfl
      replace q4:=hBk.cell' (i:=4) (v:=.int .i64 t.next) rfl
      replace q5:=hBk.cell' (i:=5) (v:=.int .i64 t.target) rfl
      replace q6:=hBk.cell' (i:=6) (v:=.int .i64 t.epoch) rfl
      replace q7:=hBk.cell' (i:=7) (v:=.int .i64 t.win.cell) rfl
      replace q8:=hBk.cell' (i:=8) (v:=.int .i64 t.win.epoch) rfl
      replace q9:=hBk.cell' (i:=9) (v:=.int .i64 t.win.version) rfl
      replace q10:=hBk.cell' (i:=10) (v:=.int .i64 t.win.since) rfl
      replace q11:=hBk.cell' (i:=11) (v:=.int .i64 t.win.till) rfl
      go_wp2_with fail
      refine (ldAdd2 c.cells.length W.heap.size (some ⟨W.heap.size,0,none⟩) c.cells.length (addAt (addAt (addAt (bookK c s k) t.home de.load) t.target de.load) t.standby de.shadow) t.next de.shadow _ (by (try simp only[addAt_len]);exact bookK_len _ _ _) (by omega) HO.out (by intro z hz;have:=hw3 z hz;omega) (by omega) (by omega)).mono ?_
      rintro r wn ⟨rfl,hOn,hgn⟩
      replace HB:=Lib.hid (HB.out.grown hgn HB.out.size (by rintro _ ⟨⟩;exact Nat.le_refl _))
      replace HO:=Lib.hid hOn
      replace hA:=hA.grown hgn (by intro q;have q2:ga=W.heap.size:=Option.some.inj q;omega)
      replace hBk:=hBk.grown hgn (by intro q;have q2:gb=W.heap.size:=Option.some.inj q;omega)
      clear hOn hgn
      replace p0:=hA.cell' (i:=0) (v:=.int .i64 de.load) rfl
      replace p1:=hA.cell' (i:=1) (v:=.int .i64 de.shadow) rfl
      replace q0:=hBk.cell' (i:=0) (v:=.bool t.placed) rfl
      replace q1:=hBk.cell' (i:=1) (v:=.bool t.shed) rfl
      replace q2:=hBk.cell' (i:=2) (v:=.int .i64 t.home) rfl
      replace q3:=hBk.cell' (i:=3) (v:=.int .i64 t.standby) rfl
      replace q4:=hBk.cell' (i:=4) (v:=.int .i64 t.next) rfl
      replace q5:=hBk.cell' (i:=5) (v:=.int .i64 t.target) rfl
      replace q6:=hBk.cell' (i:=6) (v:=.int .i64 t.epoch) rfl
      replace q7:=hBk.cell' (i:=7) (v:=.int .i64 t.win.cell) rfl
      replace q8:=hBk.cell' (i:=8) (v:=.int .i64 t.win.epoch) rfl
      replace q9:=hBk.cell' (i:=9) (v:=.int .i64 t.win.version) rfl
      replace q10:=hBk.cell' (i:=10) (v:=.int .i64 t.win.since) rfl
      replace q11:=hBk.cell' (i:=11) (v:=.int .i64 t.win.till) rfl
      go_wp2
      go_roundg (gk-1)
      case measure=>omega
      case rel=>exact⟨k+1,by omega,by go_num,by rw[HE.out];exact HO.out,HB.out⟩
     ·have HE:Hid (bookK c s (k+1)=addAt (addAt (bookK c s k) t.standby de.shadow) t.next de.shadow):=Lib.hid (by rw[HS.out];unfold bookT;rw[if_neg (by simp[hpl]),if_pos hsh])
      have hw1:=hw0.add (n:=de.shadow) (by omega) t.standby
      go_wp2_with fail
      refine (ldAdd2 c.cells.length W.heap.size (some ⟨W.heap.size,0,none⟩) c.cells.length (bookK c s k) t.standby de.shadow _ (by (try simp only[addAt_len]);exact bookK_len _ _ _) (by omega) HO.out (by intro z hz;have:=hw0 z hz;omega) (by omega) (by omega)).mono ?_
      rintro r wn ⟨rfl,hOn,hgn⟩
      replace HB:=Lib.hid (HB.out.grown hgn HB.out.size (by rintro _ ⟨⟩;exact Nat.le_refl _))
      replace HO:=Lib.hid hOn
      replace hA:=hA.grown hgn (by intro q;have q2:ga=W.heap.size:=Option.some.inj q;omega)
      replace hBk:=hBk.grown hgn (by intro q;have q2:gb=W.heap.size:=Option.some.inj q;omega)
      clear hOn hgn
      replace p0:=hA.cell' (i:=0) (v:=.int .i64 de.load) rfl
      replace p1:=hA.cell' (i:=1) (v:=.int .i64 de.shadow) rfl
      replace q0:=hBk.cell' (i:=0) (v:=.bool t.placed) rfl
      replace q1:=hBk.cell' (i:=1) (v:=.bool t.shed) rfl
      replace q2:=hBk.cell' (i:=2) (v:=.int .i64 t.home) rfl
      replace q3:=hBk.cell' (i:=3) (v:=.int .i64 t.standby) rfl
      replace q4:=hBk.cell' (i:=4) (v:=.int .i64 t.next) rfl
      replace q5:=hBk.cell' (i:=5) (v:=.int .i64 t.target) rfl
      replace q6:=hBk.cell' (i:=6) (v:=.int .i64 t.epoch) rfl
      replace q7:=hBk.cell' (i:=7) (v:=.int .i64 t.win.cell) rfl
      replace q8:=hBk.cell' (i:=8) (v:=.int .i64 t.win.epoch) rfl
      replace q9:=hBk.cell' (i:=9) (v:=.int .i64 t.win.version) rfl
      replace q10:=hBk.cell' (i:=10) (v:=.int .i64 t.win.since) rfl
      replace q11:=hBk.cell' (i:=11) (v:=.int .i64 t.win.till) rfl
      go_wp2_with fail
      refine (ldAdd2 c.cells.length W.heap.size (some ⟨W.heap.size,0,none⟩) c.cells.length (addAt (bookK c s k) t.standby de.shadow) t.next de.shadow _ (by (try simp only[addAt_len]);exact bookK_len _ _ _) (by omega) HO.out (by intro z hz;have:=hw1 z hz;omega) (by omega) (by omega)).mono ?_
      rintro r wn ⟨rfl,hOn,hgn⟩
      replace HB:=Lib.hid (HB.out.grown hgn HB.out.size (by rintro _ ⟨⟩;exact Nat.le_refl _))
      replace HO:=Lib.hid hOn
      replace hA:=hA.grown hgn (by intro q;have q2:ga=W.heap.size:=Option.some.inj q;omega)
      replace hBk:=hBk.grown hgn (by intro q;have q2:gb=W.heap.size:=Option.some.inj q;omega)
      clear hOn hgn
      replace p0:=hA.cell' (i:=0) (v:=.int .i64 de.load) rfl
      replace p1:=hA.cell' (i:=1) (v:=.int .i64 de.shadow) rfl
      replace q0:=hBk.cell' (i:=0) (v:=.bool t.placed) rfl
      replace q1:=hBk.cell' (i:=1) (v:=.bool t.shed) rfl
      replace q2:=hBk.cell' (i:=2) (v:=.int .i64 t.home) rfl
      replace q3:=hBk.cell' (i:=3) (v:=.int .i64 t.standby) rfl
      replace q4:=hBk.cell' (i:=4) (v:=.int .i64 t.next) rfl
      replace q5:=hBk.cell' (i:=5) (v:=.int .i64 t.target) rfl
      replace q6:=hBk.cell' (i:=6) (v:=.int .i64 t.epoch) rfl
      replace q7:=hBk.cell' (i:=7) (v:=.int .i64 t.win.cell) rfl
      replace q8:=hBk.cell' (i:=8) (v:=.int .i64 t.win.epoch) rfl
      replace q9:=hBk.cell' (i:=9) (v:=.int .i64 t.win.version) rfl
      replace q10:=hBk.cell' (i:=10) (v:=.int .i64 t.win.since) rfl
      replace q11:=hBk.cell' (i:=11) (v:=.int .i64 t.win.till) rfl
      go_wp2
      go_roundg (gk-1)
      case measure=>omega
      case rel=>exact⟨k+1,by omega,by go_num,by rw[HE.out];exact HO.out,HB.out⟩
  ·have hge:¬ (k:Int)<(s.tenants.length:Int):=by omega
   obtain rfl:k=s.tenants.length:=by omega
   have HE:Hid (bookK c s s.tenants.length=booked c s):=Lib.hid (bookK_all c s (Nat.le_refl _))
   have HEL:Hid ((booked c s).length=c.cells.length):=Lib.hid (by rw[← HE.out];exact bookK_len _ _ _)
   go_wp2
   go_ret
   refine⟨some ⟨W.heap.size,0,none⟩,c.cells.length,?_,?_,HL.out.trans (HB.out.mono (Nat.le_of_lt hgc))⟩
   ·rw[HEL.out];rfl
   ·rw[HEL.out,← HE.out]
    exact own_base HO.out (Nat.le_of_lt hgc)
def overP (c:Cfg) (s:St) (k:Nat):Bool:=decide ((c.cells.getD k (0,0)).2<(booked c s).getD k 0)
theorem over_pick (c:Cfg) (s:St):over c s=pickK (overP c s) c.cells.length:=rfl
theorem booked_len (c:Cfg) (s:St):(booked c s).length=c.cells.length:=by rw[← bookK_all c s (Nat.le_refl _)];exact bookK_len _ _ _
set_option maxHeartbeats 4000000 in
set_option maxRecDepth 100000 in
theorem ldOver_any (x:CfgA) (c:Cfg) (y:StA) (s:St) (w:World) (hV:CfgV c) (hc:CfgOk w (·<w.heap.size) x c) (hI:StInv c s) (hs:StOk w (·<w.heap.size) y s) :
  Calls Tryz.prog 51 #[.agg (cfgC x c),.agg (stC y s)] w (IntsPost w (over c s)):=by
 rw[over_pick]
 obtain⟨ii,hii,hi0,hi1,hi2⟩:=info_parts r5intInfo
 have hnc:=hV.nc
 have hntt:=hV.nt
 have hbl:=booked_len c s
 obtain⟨az,cz,ac,cc,at_,ct,av,cv,ar,cr,ao,co⟩:=x
 have HV:=Lib.hid hV
 have HKc:=Lib.hid hc
 clear hV hc
 obtain⟨sat,sct,sac,scc⟩:=y
 have HKs:=Lib.hid hs
 have hsl:1≤s.cells.length∧s.cells.length≤16:=by have:=hI.lc;omega
 have hst:s.tenants.length≤32:=by have:=hI.lt;omega
 have HI:=Lib.hid hI
 clear hs hI
 obtain⟨pd,hpd⟩:∃ pd:Nat→Bool,pd=overP c s:=⟨_,rfl⟩
 have HP:=Lib.hid hpd
 rw[← hpd]
 clear hpd
 have hL:Below w.heap.size w ((w.alloc (.cells #[.int .i64 c.regions,.slice az c.zones.length cz,.slice ac c.cells.length cc,.slice at_ c.tenants.length ct,.slice av c.versions.length cv,.slice ar c.replicas.length cr,.slice ao c.observers.length co,.int .i64 c.blast,.int .i64 c.lease,.int .i64 c.bake] 30)).alloc (.cells #[.int .i64 s.tick,.int .i64 s.count,.slice sat s.tenants.length sct,.slice sac s.cells.length scc,.int .i64 s.proven,.int .i64 s.evac,.int .i64 s.low,.int .i64 s.high] 34)):=(((Below.refl w.heap.size w).alloc (by simp<;>omega) (.cells #[.int .i64 c.regions,.slice az c.zones.length cz,.slice ac c.cells.length cc,.slice at_ c.tenants.length ct,.slice av c.versions.length cv,.slice ar c.replicas.length cr,.slice ao c.observers.length co,.int .i64 c.blast,.int .i64 c.lease,.int .i64 c.bake] 30)).alloc (by simp<;>omega) (.cells #[.int .i64 s.tick,.int .i64 s.count,.slice sat s.tenants.length sct,.slice sac s.cells.length scc,.int .i64 s.proven,.int .i64 s.evac,.int .i64 s.low,.int .i64 s.high] 34))
 have hBc:Blk ((w.alloc (.cells #[.int .i64 c.regions,.slice az c.zones.length cz,.slice ac c.cells.length cc,.slice at_ c.tenants.length ct,.slice av c.versions.length cv,.slice ar c.replicas.length cr,.slice ao c.observers.length co,.int .i64 c.blast,.int .i64 c.lease,.int .i64 c.bake] 30)).alloc (.cells #[.int .i64 s.tick,.int .i64 s.count,.slice sat s.tenants.length sct,.slice sac s.cells.length scc,.int .i64 s.proven,.int .i64 s.evac,.int .i64 s.low,.int .i64 s.high] 34)) (w.heap.size) 30 #[.int .i64 c.regions,.slice az c.zones.length cz,.slice ac c.cells.length cc,.slice at_ c.tenants.length ct,.slice av c.versions.length cv,.slice ar c.replicas.length cr,.slice ao c.observers.length co,.int .i64 c.blast,.int .i64 c.lease,.int .i64 c.bake]:=by
  have:=((Blk.new w 30 #[.int .i64 c.regions,.slice az c.zones.length cz,.slice ac c.cells.length cc,.slice at_ c.tenants.length ct,.slice av c.versions.length cv,.slice ar c.replicas.length cr,.slice ao c.observers.length co,.int .i64 c.blast,.int .i64 c.lease,.int .i64 c.bake]).alloc (.cells #[.int .i64 s.tick,.int .i64 s.count,.slice sat s.tenants.length sct,.slice sac s.cells.length scc,.int .i64 s.proven,.int .i64 s.evac,.int .i64 s.low,.int .i64 s.high] 34))
  simpa using this
 have hBs:Blk ((w.alloc (.cells #[.int .i64 c.regions,.slice az c.zones.length cz,.slice ac c.cells.length cc,.slice at_ c.tenants.length ct,.slice av c.versions.length cv,.slice ar c.replicas.length cr,.slice ao c.observers.length co,.int .i64 c.blast,.int .i64 c.lease,.int .i64 c.bake] 30)).alloc (.cells #[.int .i64 s.tick,.int .i64 s.count,.slice sat s.tenants.length sct,.slice sac s.cells.length scc,.int .i64 s.proven,.int .i64 s.evac,.int .i64 s.low,.int .i64 s.high] 34)) (w.heap.size+1) 34 #[.int .i64 s.tick,.int .i64 s.count,.slice sat s.tenants.length sct,.slice sac s.cells.length scc,.int .i64 s.proven,.int .i64 s.evac,.int .i64 s.low,.int .i64 s.high]:=by
  have:=(Blk.new (w.alloc (.cells #[.int .i64 c.regions,.slice az c.zones.length cz,.slice ac c.cells.length cc,.slice at_ c.tenants.length ct,.slice av c.versions.length cv,.slice ar c.replicas.length cr,.slice ao c.observers.length co,.int .i64 c.blast,.int .i64 c.lease,.int .i64 c.bake] 30)) 34 #[.int .i64 s.tick,.int .i64 s.count,.slice sat s.tenants.length sct,.slice sac s.cells.length scc,.int .i64 s.proven,.int .i64 s.evac,.int .i64 s.low,.int .i64 s.high])
  simpa using this
 unfold cfgC stC
 simp only
 go_enter Tryz.func51,Tryz.ntmps51
 go_upto_region 1 with fail
 generalize (w.alloc _).alloc _=W at *
 have hgc:=hBc.lt
 have d0:=hBc.cell' (i:=0) (v:=.int .i64 c.regions) rfl
 have d1:=hBc.cell' (i:=1) (v:=.slice az c.zones.length cz) rfl
 have d2:=hBc.cell' (i:=2) (v:=.slice ac c.cells.length cc) rfl
 have d3:=hBc.cell' (i:=3) (v:=.slice at_ c.tenants.length ct) rfl
 have d4:=hBc.cell' (i:=4) (v:=.slice av c.versions.length cv) rfl
 have d5:=hBc.cell' (i:=5) (v:=.slice ar c.replicas.length cr) rfl
 have d6:=hBc.cell' (i:=6) (v:=.slice ao c.observers.length co) rfl
 have d7:=hBc.cell' (i:=7) (v:=.int .i64 c.blast) rfl
 have d8:=hBc.cell' (i:=8) (v:=.int .i64 c.lease) rfl
 have d9:=hBc.cell' (i:=9) (v:=.int .i64 c.bake) rfl
 clear hBc
 have hgs:=hBs.lt
 have su0:=hBs.cell' (i:=0) (v:=.int .i64 s.tick) rfl
 have su1:=hBs.cell' (i:=1) (v:=.int .i64 s.count) rfl
 have su2:=hBs.cell' (i:=2) (v:=.slice sat s.tenants.length sct) rfl
 have su3:=hBs.cell' (i:=3) (v:=.slice sac s.cells.length scc) rfl
 have su4:=hBs.cell' (i:=4) (v:=.int .i64 s.proven) rfl
 have su5:=hBs.cell' (i:=5) (v:=.int .i64 s.evac) rfl
 have su6:=hBs.cell' (i:=6) (v:=.int .i64 s.low) rfl
 have su7:=hBs.cell' (i:=7) (v:=.int .i64 s.high) rfl
 clear hBs
 have HL:=Lib.hid hL
 have HWc:=Lib.hid (HKc.out.belowW hL)
 have HWs:=Lib.hid (HKs.out.belowW hL)
 clear hL
 have HBK:=Lib.hid (ldBooked_any ⟨az,cz,ac,cc,at_,ct,av,cv,ar,cr,ao,co⟩ c ⟨sat,sct,sac,scc⟩ s W HV.out HWc.out HI.out HWs.out)
 go_wp2_with fail
 refine HBK.out.mono ?_
 rintro r w1 ⟨A1,cp1,rfl,hO1,hb1⟩
 rw[hbl] at hO1 ⊢
 have hlt1:W.heap.size<w1.heap.size∨True:=.inr trivial
 have HWc1:=Lib.hid (HWc.out.belowW hb1)
 have HL1:=Lib.hid (HL.out.trans (hb1.mono HL.out.size))
 replace d0:w1.cell? ⟨w.heap.size,0,none⟩=some (.int .i64 c.regions):=(hb1.cell (p:=⟨w.heap.size,0,none⟩) hgc).trans d0
 replace d1:w1.cell? ⟨w.heap.size,1,none⟩=some (.slice az c.zones.length cz):=(hb1.cell (p:=⟨w.heap.size,1,none⟩) hgc).trans d1
 replace d2:w1.cell? ⟨w.heap.size,2,none⟩=some (.slice ac c.cells.length cc):=(hb1.cell (p:=⟨w.heap.size,2,none⟩) hgc).trans d2
 replace d3:w1.cell? ⟨w.heap.size,3,none⟩=some (.slice at_ c.tenants.length ct):=(hb1.cell (p:=⟨w.heap.size,3,none⟩) hgc).trans d3
 replace d4:w1.cell? ⟨w.heap.size,4,none⟩=some (.slice av c.versions.length cv):=(hb1.cell (p:=⟨w.heap.size,4,none⟩) hgc).trans d4
 replace d5:w1.cell? ⟨w.heap.size,5,none⟩=some (.slice ar c.replicas.length cr):=(hb1.cell (p:=⟨w.heap.size,5,none⟩) hgc).trans d5
 replace d6:w1.cell? ⟨w.heap.size,6,none⟩=some (.slice ao c.observers.length co):=(hb1.cell (p:=⟨w.heap.size,6,none⟩) hgc).trans d6
 replace d7:w1.cell? ⟨w.heap.size,7,none⟩=some (.int .i64 c.blast):=(hb1.cell (p:=⟨w.heap.size,7,none⟩) hgc).trans d7
 replace d8:w1.cell? ⟨w.heap.size,8,none⟩=some (.int .i64 c.lease):=(hb1.cell (p:=⟨w.heap.size,8,none⟩) hgc).trans d8
 replace d9:w1.cell? ⟨w.heap.size,9,none⟩=some (.int .i64 c.bake):=(hb1.cell (p:=⟨w.heap.size,9,none⟩) hgc).trans d9
 replace hgc:w.heap.size<w1.heap.size:=Nat.lt_of_lt_of_le hgc hb1.size
 have HO1:=Lib.hid hO1
 clear HBK hO1 hb1 su0 su1 su2 su3 su4 su5 su6 su7 hgs HWc HWs HL hlt1
 generalize hbk:booked c s=bk at *
 have HBKE:=Lib.hid hbk
 clear hbk
 go_wp2
 go_loopg [5,12] c.cells.length (fun gk so si wr=>r5HomesRel w1 pd c.cells.length gk so si wr)
 case atStart=>exact⟨0,none,0,by omega,rfl,rfl,World.ownsRow_nil _ _ _ _,Below.refl _ _⟩
 case round=>
  rename_i J K aJ aK
  obtain⟨k,A,cp,hgk,rfl,rfl,hown,hbel⟩:=hrel
  have HO:=Lib.hid hown
  have HB:=Lib.hid hbel
  have hsz:=hbel.size
  have hlen:=pickK_len pd k
  obtain⟨hc,hf⟩:=bcell hbel
  clear hown hbel hf
  by_cases hk:k<c.cells.length
  ·have hlt:(k:Int)<(c.cells.length:Int):=by omega
   have hkb:k<bk.length:=by omega
   obtain⟨b,off,z,rfl,hb,hzz,hcell⟩:=HWc1.out.cells.row (enc:=pairC) (sz:=2) (fun _=>rfl) (by omega) hk
   obtain⟨g1,cap1,hv1,_,hlt1⟩:=HO1.out.form (by omega)
   simp only[Value.slice.injEq,true_and] at hv1
   obtain⟨rfl,rfl⟩:=hv1
   have c0:=HO1.out.cellAt k (by omega)
   rw[flat_int,List.getElem?_map,List.getElem?_eq_getElem hkb] at c0
   simp only[Option.map_some] at c0
   have hbW:b<w1.heap.size:=hb
   have e1:=hcell 1 (.int .i64 z.2) rfl
   have HPK:Hid (pd k=decide (z.2<bk[k])):=Lib.hid (by rw[HP.out];unfold overP;rw[getD_some hzz,HBKE.out,getD_some (List.getElem?_eq_getElem hkb)])
   have HS:=Lib.hid (pickK_succ pd k)
   generalize bk[k]=m at *
   clear hcell hzz hb
   by_cases hp:pd k=true
   ·have hp2:z.2<m:=by have:=HPK.out;rw[hp] at this;simpa using this.symm
    go_wp2_with (at_builtin;refine wpList_append_lies _ rfl _ _ _ rfl w1.heap.size 3 ii _ 1 8 Tryz.underlying22 hii hi0 hi1 hi2 rfl (by omega) _ (pickK pd k).length (flat intC (pickK pd k)) rfl (HO.out.alloc _) ⟨wr.heap.size,0,none⟩ 1 1 [.int .i64 k] rfl rfl ?c1 ?c2 ?c0 ?c3 ?c4 ?c5 (wr.heap.size+1) ?c6 ?_)
    case c1=>exact World.news_of_block (cs:=#[.int .i64 k]) (heap_alloc_new _ _)
    case c2=>simp[Value.oneCell']
    case c0=>omega
    case c3=>unfold maxLen;omega
    case c4=>omega
    case c5=>have:=HB.out.size;simp;omega
    case c6=>simp
    intro gg cq w9 hown9 hg9 hat9 hlt9
    have HB9:=Lib.hid ((HB.out.alloc HB.out.size _).grown hg9 (by have:=HB.out.size;simp;omega) (fun j hj=>(HO.out.lt j hj).1))
    have HX:Hid (w9.ownsRow w1.heap.size 3 1 (.slice (some ⟨gg,0,none⟩) (pickK pd (k+1)).length cq) (pickK pd (k+1)).length (flat intC (pickK pd (k+1)))):=by
     refine Lib.hid ?_;rw[HS.out,if_pos hp,← flat_snoc5,List.length_append];exact hown9
    have hl9:(pickK pd (k+1)).length=(pickK pd k).length+1:=by rw[HS.out,if_pos hp,List.length_append];rfl
    have HL9:=Lib.hid hl9
    clear hown9 hg9 hat9 hlt9 HB hl9 hc
    go_wp2
    go_roundg (gk-1)
    case measure=>omega
    case rel=>exact⟨k+1,some ⟨gg,0,none⟩,cq,by omega,by go_num,by rw[HL9.out],HX.out,HB9.out⟩
   ·have hp:pd k=false:=by simpa using hp
    have hp2:m≤z.2:=by have:=HPK.out;rw[hp] at this;simpa using this.symm
    have HX:Hid (wr.ownsRow w1.heap.size 3 1 (.slice A (pickK pd (k+1)).length cp) (pickK pd (k+1)).length (flat intC (pickK pd (k+1)))):=by
     refine Lib.hid ?_;rw[HS.out,if_neg (by simp[hp])];exact HO.out
    have hl9:(pickK pd (k+1)).length=(pickK pd k).length:=by rw[HS.out,if_neg (by simp[hp])]
    have HL9:=Lib.hid hl9
    clear hl9
    go_wp2
    go_roundg (gk-1)
    case measure=>omega
    case rel=>exact⟨k+1,A,cp,by omega,by go_num,by rw[HL9.out],HX.out,HB.out⟩
  ·have hge:¬ (k:Int)<(c.cells.length:Int):=by omega
   obtain rfl:k=c.cells.length:=by omega
   go_wp2
   go_ret
   exact⟨A,cp,rfl,own_base HO.out (Nat.le_of_lt hgc),HL1.out.trans (HB.out.mono (Nat.le_of_lt hgc))⟩
/-! state.Apply: a state in rows of its own. -/
def ctRefused:CT:=fun vs mem nx K=>∃ N x c M y s e,vs=[cfgV N x c,stV M y s,entV' e]∧keeps mem (cfgM N c)∧(HasRow mem M.t 12 tsC default s.tenants∧HasRow mem M.c 4 csC default s.cells)∧CfgV c∧StInv c s∧K (.int .i64 (refusedE c s e)) mem nx
theorem refusedOk:CSound Tryz.prog 48 ctRefused:=⟨by kernel_rfl,fun {C ρ fr mem nx a w vs K} hc hs hv=>by
 obtain⟨N,x,c,M,y,s,e,rfl,hk,⟨h1,h2⟩,hV,hI,hK⟩:=hc
 rw[List.map_cons,den_cfg,List.map_cons,den_st,List.map_cons,(pure_den (pure_ent e) _ 0).1]
 refine (stRefused_any (cfgX ρ N x) c (stX ρ M y) s e w hV (hs.cfg hk (fun b hb _=>hb)) hI (hs.stRow h1 h2)).mono ?_
 rintro r w' ⟨rfl,hb⟩
 exact⟨.int .i64 (refusedE c s e),mem,nx,ρ,rfl,hK,hs.later hb,trivial,ExtS.refl _ _⟩⟩
def ctOverP:CT:=fun vs mem nx K=>∃ N x c M y s,vs=[cfgV N x c,stV M y s]∧keeps mem (cfgM N c)∧(HasRow mem M.t 12 tsC default s.tenants∧HasRow mem M.c 4 csC default s.cells)∧CfgV c∧StInv c s∧∀ cp,K (slc nx (over c s).length cp) ((nx,rowOfL 500000 1 intC 0 (over c s))::mem) (nx+1)
theorem overPOk:CSound Tryz.prog 51 ctOverP:=⟨by kernel_rfl,fun {C ρ fr mem nx a w vs K} hc hs hv=>by
 obtain⟨N,x,c,M,y,s,rfl,hk,⟨h1,h2⟩,hV,hI,hK⟩:=hc
 rw[List.map_cons,den_cfg,List.map_cons,den_st]
 refine (ldOver_any (cfgX ρ N x) c (stX ρ M y) s w hV (hs.cfg hk (fun b hb _=>hb)) hI (hs.stRow h1 h2)).mono ?_
 rintro e w' ⟨A,cp,rfl,ho,hb⟩
 obtain⟨q1,-⟩:=(hs.later hb).addList hs.frB hs.rest.size (enc:=intC) (sz:=1) (fun _=>rfl) (by omega) intC_plain 0 (t:=500000) rfl (Rd.of_own ho)
 have q2:setPl ρ nx ⟨A,1,(over c s).length,false⟩ nx=⟨A,1,(over c s).length,false⟩:=setPl_same _ _ _
 refine⟨slc nx (over c s).length cp,_,_,setPl ρ nx ⟨A,1,(over c s).length,false⟩,?_,hK cp,q1,?_,fun i hi=>setPl_lt _ _ hi,by omega⟩
 ·show Ending.returned (.slice A (over c s).length cp)=.returned (.slice (setPl ρ nx ⟨A,1,(over c s).length,false⟩ nx).A (over c s).length cp)
  rw[q2]
 ·exact⟨show nx<nx+1 by omega,by rw[q2]⟩⟩
def apF:FT:=[(48,ctRefused),(49,ctEff),(50,ctInl tt [] [] Tryz.f50 (bodyOf Tryz.f50)),(51,ctOverP)]
def apD:List (Nat×DQ):=[(9000000,{ k:=0,L:=[50] })]
theorem apFok:FTokI Tryz.prog apF (inlOf apD):=fti_cons (refusedOk.i _) (fti_cons (effOk.i _) (fti_cons (inl_ok ttOk fti_nil mixed (by kernel_rfl) Tryz.func50 rfl (by kernel_rfl) (by decide)) (fti_cons (overPOk.i _) fti_nil)))
theorem over_pos (c:Cfg) (s:St):overB c s=decide (0<(over c s).length):=by
 unfold overB over
 rw[List.length_map]
 cases h:(List.range c.cells.length).any fun i=>decide ((c.cells.getD i (0,0)).2<(booked c s).getD i 0)
 ·rw[List.any_eq_false] at h
  have:((List.range c.cells.length).filter fun i=>decide ((c.cells.getD i (0,0)).2<(booked c s).getD i 0))=[]:=List.filter_eq_nil_iff.2 h
  rw[this]
  rfl
 ·rw[List.any_eq_true] at h
  obtain⟨i,hi,hp⟩:=h
  have:i ∈ (List.range c.cells.length).filter fun i=>decide ((c.cells.getD i (0,0)).2<(booked c s).getD i 0):=List.mem_filter.2 ⟨hi,hp⟩
  have:=List.length_pos_of_mem this
  exact (decide_eq_true this).symm
theorem applyP_over {c:Cfg} {s:St} {e:Ent} (h:refusedE c s e=0) (hb:booksB e=true) (ho:0<(over c (effOf s e)).length):applyP c s e=(St.zero,10):=by
 unfold applyP
 rw[if_neg (by omega),if_pos ⟨hb,by rw[over_pos];simpa using ho⟩]
theorem applyP_fine {c:Cfg} {s:St} {e:Ent} (h:refusedE c s e=0) (hb:booksB e=true→¬ 0<(over c (effOf s e)).length):applyP c s e=(effOf s e,0):=by
 unfold applyP
 rw[if_neg (by omega),if_neg]
 rintro⟨h1,h2⟩
 rw[over_pos] at h2
 exact hb h1 (by simpa using h2)
def ApR (mem':AM) (v:Value) (p:St×Int):Prop:=∃ T Cc,v=.tuple #[.agg #[.int .i64 p.1.tick,.int .i64 p.1.count,T,Cc,.int .i64 p.1.proven,.int .i64 p.1.evac,.int .i64 p.1.low,.int .i64 p.1.high],.int .i64 p.2]∧
 ((p.1=St.zero∧T=zs0∧Cc=zs0)∨∃ rT rC,rT≠rC∧SlO mem' 12 tsC default p.1.tenants T rT∧SlO mem' 4 csC default p.1.cells Cc rC)
set_option maxRecDepth 100000 in
set_option maxHeartbeats 4000000 in
theorem apply_sx (x : CfgK) (c : Cfg) (y : StK) (s : St) (e : Ent) (hV : CfgV c) (hI : StInv c s) :
    sx tt apF apD (bodyOf Tryz.f20) (argF 0 [cfgV CN1 x c, stV SN1 y s, entV' e]) (rdM c s noS) 10 (endx tt Tryz.f20.results.toList fun v mem' _ => ApR mem' v (applyP c s e)) := by
  refine ⟨CN1, x, c, SN1, y, s, e, rfl, kp_, ⟨.list rfl, .list rfl⟩, hV, hI, ?_⟩
  refine ⟨fun hr => ?_, fun hr => ?_⟩
  · have hr : refusedE c s e ≠ 0 := by simpa using hr
    refine ⟨zs0, zs0, ?_, .inl ⟨?_, rfl, rfl⟩⟩
    · unfold applyP; rw [if_pos hr]; rfl
    · unfold applyP; rw [if_pos hr]
  · have hr : refusedE c s e = 0 := by simpa using hr
    have ha := acc_of hr
    refine ⟨_, y, s, e, rfl, ⟨.list rfl, .list rfl⟩, ⟨c, hV, hI, ha⟩, ?_⟩
    intro y2
    repeat' (first | refine ⟨fun _ => ?_, fun h => Bool.noConfusion h⟩ | refine ⟨fun h => Bool.noConfusion h, fun _ => ?_⟩ | refine ⟨CN1, x, c, ⟨15, 14, 0⟩, y2, effOf s e, rfl, kp_, ⟨.list rfl, .list rfl⟩, hV, hI.step hV hr, ?_⟩ | intro cp | refine ⟨fun _ => ?_, fun _ => ?_⟩ | fail)
    all_goals first
      | (have hq := applyP_over (c := c) (s := s) (e := e) hr (by unfold booksB; grind) (by grind)
         exact ⟨zs0, zs0, (by rw [hq]; rfl), .inl ⟨by rw [hq], rfl, rfl⟩⟩)
      | (have hq := applyP_fine (c := c) (s := s) (e := e) hr (by unfold booksB; grind)
         exact ⟨slc 15 (effOf s e).tenants.length y2.ct, slc 14 (effOf s e).cells.length y2.cc, (by rw [hq]), .inr ⟨15, 14, by decide, (by rw [hq]; exact ⟨_, _, _, _, _, rfl, rfl, rfl, rfl, Nat.le_refl _, fun k hk => rfl⟩), (by rw [hq]; exact ⟨_, _, _, _, _, rfl, rfl, rfl, rfl, Nat.le_refl _, fun k hk => rfl⟩)⟩⟩)
      | fail
theorem stApplyO_any (x:CfgA) (c:Cfg) (y:StA) (s:St) (e:Ent) (w:World) (hV:CfgV c) (hc:CfgOk w (·<w.heap.size) x c) (hI:StInv c s) (hs:StOk w (·<w.heap.size) y s) :
  Calls Tryz.prog 20 #[.agg (cfgC x c),.agg (stC y s),.agg (entC e).toArray] w fun r w'=>∃ y2,r=.returned (.tuple #[.agg (stC y2 (applyP c s e).1),.int .i64 (applyP c s e).2])∧StOwn2 w.heap.size w' y2 (applyP c s e).1∧Below w.heap.size w w':=by
 have:=rd_callsM ttOk apFok Tryz.func20 rfl (D:=apD) (by kernel_rfl) (vs:=[cfgV CN1 (ck x) c,stV SN1 (sk y) s,entV' e]) rfl x c y s noA noS w hc hs (noS_ok w _) (fun v hv=>by
  simp only[List.mem_cons,List.not_mem_nil,or_false] at hv
  rcases hv with rfl | rfl | rfl
  ·exact rpl_cfg_ok x c y s noA noS
  ·exact rpl_st_ok x c y s noA noS
  ·exact (pure_den (pure_ent e) _ _).2) (apply_sx (ck x) c (sk y) s e hV hI)
 rw[List.map_cons,rpl_cfg,List.map_cons,rpl_st,List.map_cons,(pure_den (pure_ent e) _ 0).1] at this
 refine this.mono ?_
 rintro r w' ⟨v,mem',nx',ρ',rfl,⟨T,Cc,rfl,hr⟩,hv,hm',hb⟩
 have key:∃ y2,den2 ρ' (.agg #[.int .i64 (applyP c s e).1.tick,.int .i64 (applyP c s e).1.count,T,Cc,.int .i64 (applyP c s e).1.proven,.int .i64 (applyP c s e).1.evac,.int .i64 (applyP c s e).1.low,.int .i64 (applyP c s e).1.high])=.agg (stC y2 (applyP c s e).1)∧StOwn2 w.heap.size w' y2 (applyP c s e).1:=by
  rcases hr with⟨h0,rfl,rfl⟩ | ⟨rT,rC,hne,hT,hC⟩
  ·rw[h0];exact⟨noA,by simp[den2,den1,stC,noA,St.zero],StOwn2.zero _ _⟩
  ·exact hm'.own2 rfl hne hT hC
 obtain⟨y2,e1,e2⟩:=key
 refine⟨y2,?_,e2,hb⟩
 rw[← e1]
 have d:∀ z,den2 ρ' (.int .i64 z)=.int .i64 z:=fun _=>rfl
 simp only[den,List.map_toArray,List.map_cons,List.map_nil,d]
def ctApplyO:CT:=fun vs mem nx K=>∃ N x c M y s e,vs=[cfgV N x c,stV M y s,entV' e]∧keeps mem (cfgM N c)∧(HasRow mem M.t 12 tsC default s.tenants∧HasRow mem M.c 4 csC default s.cells)∧CfgV c∧StInv c s∧∀ y2,K (.tuple #[stV ⟨nx+1,nx,0⟩ y2 (applyP c s e).1,.int .i64 (applyP c s e).2]) (stMO ⟨nx+1,nx,0⟩ (applyP c s e).1++mem) (nx+2)
theorem applyOOk:CSound Tryz.prog 20 ctApplyO:=⟨by kernel_rfl,fun {C ρ fr mem nx a w vs K} hc hs hv=>by
 obtain⟨N,x,c,M,y,s,e,rfl,hk1,⟨h1,h2⟩,hV,hI,hK⟩:=hc
 rw[List.map_cons,den_cfg,List.map_cons,den_st,List.map_cons,(pure_den (pure_ent e) _ 0).1]
 refine (stApplyO_any (cfgX ρ N x) c (stX ρ M y) s e w hV (hs.cfg hk1 (fun b h _=>h)) hI (hs.stRow h1 h2)).mono ?_
 rintro r w' ⟨y2,rfl,ho,hb⟩
 obtain⟨q1,q2,q3,q4⟩:=hs.addOwnSt hb ho
 refine⟨.tuple #[stV ⟨nx+1,nx,0⟩ ⟨y2.ct,y2.cc⟩ (applyP c s e).1,.int .i64 (applyP c s e).2],_,_,_,?_,hK ⟨y2.ct,y2.cc⟩,q1,?_,q4⟩
 ·rw[← q2]
  simp[den,den2,den1]
 ·intro u hu
  simp at hu
  rcases hu with rfl | rfl
  ·exact q3
  ·trivial⟩
/-! schema.Path -/
structure HasCfg (mem:AM) (N:CN) (c:Cfg):Prop where
 rz:HasRow mem N.z 1 intC 0 c.zones
 rc:HasRow mem N.c 2 pairC (0,0) c.cells
 rt:HasRow mem N.t 7 tenC default c.tenants
 rv:HasRow mem N.v 2 pairC (0,0) c.versions
 rr:HasRow mem N.r 1 intC 0 c.replicas
 ro:HasRow mem N.o 1 intC 0 c.observers
theorem HasCfg.keeps {mem:AM} {N:CN} {c:Cfg} (h:keeps mem (cfgM N c)):HasCfg mem N c:=
 ⟨⟨_,_,_,h.1,Nat.le_refl _,fun k hk=>rfl⟩,⟨_,_,_,h.2.1,Nat.le_refl _,fun k hk=>rfl⟩,⟨_,_,_,h.2.2.1,Nat.le_refl _,fun k hk=>rfl⟩,⟨_,_,_,h.2.2.2.1,Nat.le_refl _,fun k hk=>rfl⟩,⟨_,_,_,h.2.2.2.2.1,Nat.le_refl _,fun k hk=>rfl⟩,⟨_,_,_,h.2.2.2.2.2.1,Nat.le_refl _,fun k hk=>rfl⟩⟩
theorem Sat.cfgH {C:Ctx} {ρ:Nat→Pl} {fr:AF} {mem:AM} {nx:Nat} {a:Act} {w:World} (h:Sat C ρ fr mem nx a w) {N:CN} {x:CfgK} {c:Cfg} (hk:HasCfg mem N c):CfgOk w (·<w.heap.size) (cfgX ρ N x) c:=
 ⟨h.hasRd (enc:=intC) (sz:=1) (fun _=>rfl) (by omega) hk.rz,h.hasRd (enc:=pairC) (sz:=2) (fun _=>rfl) (by omega) hk.rc,h.hasRd (enc:=tenC) (sz:=7) (fun _=>rfl) (by omega) hk.rt,h.hasRd (enc:=pairC) (sz:=2) (fun _=>rfl) (by omega) hk.rv,h.hasRd (enc:=intC) (sz:=1) (fun _=>rfl) (by omega) hk.rr,h.hasRd (enc:=intC) (sz:=1) (fun _=>rfl) (by omega) hk.ro⟩
theorem rd_callsL {τ:TT} (hτ:TTok Tryz.prog τ) {f:FuncId} {fn:Func} {F:FT} {D:List (Nat×DQ)} (hF:FTokI Tryz.prog F (inlOf D)) (hf:(Tryz.prog).funcs[f]?=some fn) (hb:fn.body=some (bodyOf fn)) (hcode:codeB fn.ntmps D (bodyOf fn)=true) {vs:List Value} (hn:Nat.ble vs.length fn.ntmps=true)
  (x:CfgA) (c:Cfg) (y:StA) (s:St) (w:World) (hc:CfgOk w (·<w.heap.size) x c) (hs:StOk w (·<w.heap.size) y s) (hv:∀ v ∈ vs,okV (rpl x c y s noA noS) 10 v) {R:Value→AM→Nat→Prop}
  (h:sx τ F D (bodyOf fn) (argF 0 vs) (rdM c s noS) 10 (endx τ fn.results.toList R)) :
  Calls Tryz.prog f (vs.map (den (rpl x c y s noA noS))).toArray w fun e w'=>∃ v mem' nx' ρ',e=.returned (den ρ' v)∧R v mem' nx'∧okV ρ' nx' v∧MemAt { w0:=w,bor:=[],n0:=10,ρ0:=rpl x c y s noA noS,nt:=fn.ntmps } ρ' mem' nx' w'∧Below w.heap.size w w':=by
 have hpc:CfgPl (rpl x c y s noA noS) CN1 x c:=⟨rfl,rfl,rfl,rfl,rfl,rfl⟩
 have hps:StPl (rpl x c y s noA noS) SN1 y s:=⟨rfl,rfl⟩
 have hps2:StPl (rpl x c y s noA noS) SN2 noA noS:=⟨rfl,rfl⟩
 have hm:MemAt { w0:=w,bor:=[],n0:=10,ρ0:=rpl x c y s noA noS,nt:=fn.ntmps } (rpl x c y s noA noS) (rdM c s noS) 10 w:=MemAt.rows trivial (cfg_blks hpc hc (fun b hb=>hb) (by decide) (st_blks hps hs (fun b hb=>hb) (by decide) (by
  have:=st_blks (C:={ w0:=w,bor:=[],n0:=10,ρ0:=rpl x c y s noA noS,nt:=fn.ntmps }) (nx:=10) (r:=[]) hps2 (noS_ok w _) (fun b hb=>hb) (by decide) trivial
  exact this)))
 refine (calls_sxI hτ hF mixed hf hb hcode (vs:=vs) hn ⟨rfl,rfl⟩ rfl hm hv h).mono ?_
 rintro e w' ⟨v,mem',nx',ρ',rfl,hR,hv',hm'⟩
 exact⟨v,mem',nx',ρ',rfl,hR,hv',hm',⟨hm'.rest.os,hm'.rest.tape,hm'.rest.output,hm'.rest.size,fun b hlt=>hm'.rest.block b hlt (by simp)⟩⟩
theorem Sat.intsL {C:Ctx} {ρ:Nat→Pl} {fr:AF} {mem:AM} {nx:Nat} {a:Act} {w w':World} {K:Value→AM→Nat→Prop} (hs:Sat C ρ fr mem nx a w) (hb:Below w.heap.size w w') {A:Option Addr} {cp:Nat} {l:List Int} (hr:Rd w' (fun b=>w.heap.size≤b∧b<w'.heap.size) A (flat intC l)) (hK:K (slc nx l.length cp) ((nx,rowOfL 500000 1 intC 0 l)::mem) (nx+1)) :
  ∃ v mem' nx' ρ',Ending.returned (.slice A l.length cp)=.returned (den ρ' v)∧K v mem' nx'∧Sat C ρ' fr mem' nx' a w'∧okV ρ' nx' v∧ExtS ρ nx ρ' nx':=by
 obtain⟨q1,-⟩:=(hs.later hb).addList hs.frB hs.rest.size (enc:=intC) (sz:=1) (fun _=>rfl) (by omega) intC_plain 0 (t:=500000) rfl hr
 have q2:setPl ρ nx ⟨A,1,l.length,false⟩ nx=⟨A,1,l.length,false⟩:=setPl_same _ _ _
 refine⟨slc nx l.length cp,_,_,_,?_,hK,q1,?_,fun i hi=>setPl_lt _ _ hi,by omega⟩
 ·show Ending.returned (.slice A l.length cp)=.returned (.slice (setPl ρ nx ⟨A,1,l.length,false⟩ nx).A l.length cp)
  rw[q2]
 ·exact⟨show nx<nx+1 by omega,by rw[q2]⟩
theorem drop_getD {α:Type} {d:α} {l:List α} {i:Int} (h0:0≤i) (h1:i<l.length):l.drop i.toNat=l.getD i.toNat d::l.drop (i+1).toNat:=by
 rw[show (i+1).toNat=i.toNat+1 by omega,← List.getElem_cons_drop (show i.toNat<l.length by omega)]
 congr 1
 rw[List.getD_eq_getElem?_getD,List.getElem?_eq_getElem (show i.toNat<l.length by omega)]
 rfl
def verWorks (h:Int) (v:Int×Int):Bool:=decide (v.1≤h)&&decide (h+1≤v.2)
def leastGo (h:Int):Int→List (Int×Int)→Int
 | _,[]=>-1
 | i,v::r=>if verWorks h v=true then i else leastGo h (i+1) r
def leastC (c:Cfg) (h:Int):Int:=leastGo h 0 c.versions
def pathL (c:Cfg) (lo hi:Int):List Int:=if lo<0∨lo≥hi∨hi>30 then [] else (List.range (hi-lo).toNat).map fun (k:Nat)=>leastC c (lo+(k:Int))
def lsD:List (Nat×DQ):=[(2000002,{ k:=0,L:=[0,1,2,3,4,5,6,7,8,9,10],sl:=[1,8,9] })]
set_option maxRecDepth 100000 in
set_option maxHeartbeats 4000000 in
theorem least_sx (x:CfgK) (c:Cfg) (h:Int) (hl:c.versions.length≤1000) (hh:-1000≤h∧h≤1000) :
  sx tt [] lsD (bodyOf Tryz.f68) (argF 0 [cfgV CN1 x c,.int .i64 h]) (rdM c noS noS) 10 (endx tt Tryz.f68.results.toList fun v _ _=>v=.int .i64 (leastC c h)∧pureV v):=by
 refine⟨Int,fun i=>[(10,.int .i64 i)],fun _=>[],fun i=>(0≤i∧i≤c.versions.length)∧leastGo h i (c.versions.drop i.toNat)=leastC c h,fun i=>((c.versions.length:Int)-i).toNat,⟨0,⟨by omega,rfl⟩,kp_,kp_⟩,?_⟩
 rintro i ⟨hi,hg⟩
 refine⟨⟨rfl,rfl⟩,?_⟩
 refine⟨fun hlt=>?_,fun hge=>?_⟩
 ·have hlt2:i<(c.versions.length:Int):=of_decide_eq_true hlt
  have hd:=drop_getD (d:=(0,0)) (l:=c.versions) hi.1 hlt2
  refine⟨⟨Nat.le_refl _,hi.1,hlt2⟩,?_⟩
  refine⟨fun q1=>?_,fun q1=>?_⟩
  ·replace q1:(c.versions.getD i.toNat (0,0)).1≤h:=of_decide_eq_true q1
   refine⟨fun q2=>?_,fun q2=>?_⟩
   ·have q2:(c.versions.getD i.toNat (0,0)).2≥IntKind.i64.wrap (h+1):=of_decide_eq_true q2
    rw[wrapi (n:=h+1) (by omega)] at q2
    have hw:verWorks h (c.versions.getD i.toNat (0,0))=true:=Bool.and_eq_true_iff.2 ⟨decide_eq_true q1,decide_eq_true (by omega)⟩
    rw[hd,leastGo,if_pos hw] at hg
    rw[← hg]
    exact⟨rfl,trivial⟩
   ·have q2:¬ (c.versions.getD i.toNat (0,0)).2≥IntKind.i64.wrap (h+1):=of_decide_eq_false q2
    rw[wrapi (n:=h+1) (by omega)] at q2
    have hw:¬ verWorks h (c.versions.getD i.toNat (0,0))=true:=fun q=>by have:=of_decide_eq_true (Bool.and_eq_true_iff.1 q).2;omega
    refine⟨_,?_,kp_,kp_⟩
    rw[wrapi (n:=i+1) (by omega)]
    dsimp only
    refine⟨⟨by omega,?_⟩,by omega⟩
    rw[hd,leastGo,if_neg hw] at hg
    exact hg
  ·replace q1:¬ (c.versions.getD i.toNat (0,0)).1≤h:=of_decide_eq_false q1
   have hw:¬ verWorks h (c.versions.getD i.toNat (0,0))=true:=fun q=>by have:=of_decide_eq_true (Bool.and_eq_true_iff.1 q).1;omega
   refine⟨fun q=>Bool.noConfusion q,fun _=>?_⟩
   refine⟨_,?_,kp_,kp_⟩
   rw[wrapi (n:=i+1) (by omega)]
   dsimp only
   refine⟨⟨by omega,?_⟩,by omega⟩
   rw[hd,leastGo,if_neg hw] at hg
   exact hg
 ·have hge2:¬ i<(c.versions.length:Int):=of_decide_eq_false hge
  obtain rfl:i=c.versions.length:=by omega
  rw[Int.toNat_natCast,List.drop_length] at hg
  rw[← hg]
  exact⟨rfl,trivial⟩
theorem least_any (x:CfgA) (c:Cfg) (h:Int) (w:World) (hc:CfgOk w (·<w.heap.size) x c) (hl:c.versions.length≤1000) (hh:-1000≤h∧h≤1000) :
  Calls Tryz.prog 68 #[.agg (cfgC x c),.int .i64 h] w fun e w'=>e=.returned (.int .i64 (leastC c h))∧Below w.heap.size w w':=by
 have:=rd_calls ft_nil Tryz.func68 rfl (D:=lsD) (by kernel_rfl) (vs:=[cfgV CN1 (ck x) c,.int .i64 h]) rfl x c noA noS noA noS w hc (noS_ok w _) (noS_ok w _) (fun v hv=>by
  simp only[List.mem_cons,List.not_mem_nil,or_false] at hv
  rcases hv with rfl | rfl
  ·exact rpl_cfg_ok x c noA noS noA noS
  ·trivial) (R:=fun v=>v=.int .i64 (leastC c h)) (least_sx (ck x) c h hl hh)
 rw[List.map_cons,rpl_cfg] at this
 refine this.mono ?_
 rintro e w' ⟨v,rfl,-,rfl,hb⟩
 exact⟨rfl,hb⟩
def ctLeast:CT:=fun vs mem nx K=>∃ N x c h,vs=[cfgV N x c,.int .i64 h]∧HasCfg mem N c∧(c.versions.length≤1000∧-1000≤h∧h≤1000)∧K (.int .i64 (leastC c h)) mem nx
theorem leastOk:CSound Tryz.prog 68 ctLeast:=⟨by kernel_rfl,fun {C ρ fr mem nx a w vs K} hc hs hv=>by
 obtain⟨N,x,c,h,rfl,hk,⟨hl,hh⟩,hK⟩:=hc
 rw[List.map_cons,den_cfg]
 refine (least_any (cfgX ρ N x) c h w (hs.cfgH hk) hl hh).mono ?_
 rintro e w' ⟨rfl,hb⟩
 exact⟨_,mem,nx,ρ,rfl,hK,hs.later hb,trivial,ExtS.refl _ _⟩⟩
theorem pathL_len (c:Cfg) {lo hi:Int} (q1:¬ lo<0) (q2:¬ lo≥hi) (q3:¬ hi>30):(pathL c lo hi).length=(hi-lo).toNat:=by
 unfold pathL
 rw[if_neg (by omega),List.length_map,List.length_range]
theorem pathL_get (c:Cfg) {lo hi:Int} (q1:¬ lo<0) (q2:¬ lo≥hi) (q3:¬ hi>30):∀ j:Nat,j<(hi-lo).toNat→(pathL c lo hi).getD j 0=leastC c (lo+(j:Int)):=by
 intro j hj
 unfold pathL
 rw[if_neg (by omega),List.getD_eq_getElem?_getD,List.getElem?_map,List.getElem?_range hj]
 rfl
def ptF:FT:=[(68,ctLeast)]
theorem ptFok:FTok Tryz.prog ptF:=ft_cons leastOk ft_nil
def ptD:List (Nat×DQ):=[(3000005,{ k:=12,L:=[0,1,2,3,4,5,6,7,8,9,10],sl:=[1,2,3] }),(2000009,{ k:=0,L:=[0,1,2,3,4,5,6,7,8,9,10,11],sl:=[1,2,3,7,8] })]
set_option maxRecDepth 100000 in
set_option maxHeartbeats 4000000 in
theorem pathP_sx (x:CfgK) (c:Cfg) (lo hi:Int) (hl:c.versions.length≤1000) :
  sx tt ptF ptD (bodyOf Tryz.f43) (argF 0 [cfgV CN1 x c,.int .i64 lo,.int .i64 hi]) (rdM c noS noS) 10 (endx tt Tryz.f43.results.toList fun v mem' _=>SlR mem' 1 intC 0 (pathL c lo hi) v):=by
 refine⟨fun q1=>?_,fun q1=>?_⟩
 ·replace q1:lo<0:=of_decide_eq_true q1
  repeat (first | refine⟨fun _=>?_,fun h=>Bool.noConfusion h⟩ | refine⟨fun h=>Bool.noConfusion h,fun _=>?_⟩ | fail)
  exact .inl ⟨rfl,if_pos (by omega)⟩
 ·replace q1:¬ lo<0:=of_decide_eq_false q1
  refine⟨fun q2=>?_,fun q2=>?_⟩
  ·replace q2:lo≥hi:=of_decide_eq_true q2
   repeat (first | refine⟨fun _=>?_,fun h=>Bool.noConfusion h⟩ | refine⟨fun h=>Bool.noConfusion h,fun _=>?_⟩ | fail)
   exact .inl ⟨rfl,if_pos (by omega)⟩
  ·replace q2:¬ lo≥hi:=of_decide_eq_false q2
   refine⟨fun q3=>?_,fun q3=>?_⟩
   ·replace q3:hi>30:=of_decide_eq_true q3
    exact .inl ⟨rfl,if_pos (by omega)⟩
   ·replace q3:¬ hi>30:=of_decide_eq_false q3
    repeat (first | refine⟨fun _=>?_,fun h=>Bool.noConfusion h⟩ | refine⟨fun h=>Bool.noConfusion h,fun _=>?_⟩ | fail)
    have hlen:=pathL_len c (lo:=lo) (hi:=hi) q1 q2 q3
    have hget:=pathL_get c (lo:=lo) (hi:=hi) q1 q2 q3
    refine⟨Nat×Option (Nat×(Nat→List Value)),fun q=>match q with | (k,none)=>[(8,.int .i64 (lo+k)),(7,zs0)] | (k,some (cap,el))=>[(8,.int .i64 (lo+k)),(7,slc 11 k cap)],fun q=>match q with | (k,none)=>[] | (k,some (cap,el))=>[(11,.row (1000000+3) 1 cap el)],fun q=>match q with | (k,o)=>k≤(hi-lo).toNat∧match o with | none=>k=0 | some (cap,el)=>k≤cap∧∀ j,j<k→el j=intC (leastC c (lo+((j:Nat):Int))),fun q=>match q with | (k,o)=>(hi-lo).toNat-k,⟨(0,none),[],⟨by omega,rfl⟩,⟨rfl,rfl⟩,(by refine⟨?_,?_,?_⟩;(show some (Value.int .i64 lo)=some (Value.int .i64 (lo+((0:Nat):Int)));rw[show lo+((0:Nat):Int)=lo by omega]);(exact rfl);repeat (first | exact trivial | refine⟨rfl,?_⟩)),kp_⟩,?_⟩
    rintro⟨k,(_ | ⟨cap,el⟩)⟩ ⟨hk,ho⟩
    ·refine⟨⟨by decide,rfl,rfl⟩,?_⟩
     refine⟨fun hlt1=>?_,fun hge=>?_⟩
     ·have hlt2:lo+(k:Int)<hi:=of_decide_eq_true hlt1
      refine⟨CN1,x,c,lo+(k:Int),rfl,HasCfg.keeps kp_,⟨hl,by omega,by omega⟩,?_⟩
      refine⟨⟨Nat.le_refl _,fun j hj=>by match j,hj with | 0,_=>rfl⟩,?_⟩
      refine⟨fun h=>absurd h (by decide),fun _=>⟨by decide,fun cap2 el2 hc2 hel2=>?_⟩⟩
      obtain rfl:k=0:=ho
      refine⟨(0+1,some (cap2,el2)),[(11,13)],?_,⟨rfl,rfl⟩,(by refine⟨?_,?_,?_⟩;(show some (Value.int .i64 (IntKind.i64.wrap (lo+((0:Nat):Int)+1)))=some (Value.int .i64 (lo+((0+1:Nat):Int)));rw[wrapi (by omega)];rw[show lo+((0+1:Nat):Int)=lo+((0:Nat):Int)+1 by omega]);(exact rfl);repeat (first | exact trivial | refine⟨rfl,?_⟩)),kp_⟩
      dsimp only
      refine⟨⟨by omega,by omega,fun j hj=>?_⟩,by omega⟩
      obtain rfl:j=0:=by omega
      exact hel2 0 (by omega)
     ·have hge2:¬ lo+(k:Int)<hi:=of_decide_eq_false hge
      obtain rfl:k=(hi-lo).toNat:=by omega
      omega
    ·refine⟨⟨by decide,rfl,rfl⟩,?_⟩
     refine⟨fun hlt1=>?_,fun hge=>?_⟩
     ·have hlt2:lo+(k:Int)<hi:=of_decide_eq_true hlt1
      refine⟨CN1,x,c,lo+(k:Int),rfl,HasCfg.keeps kp_,⟨hl,by omega,by omega⟩,?_⟩
      refine⟨⟨Nat.le_refl _,fun j hj=>by match j,hj with | 0,_=>rfl⟩,?_⟩
      refine⟨⟨rfl,ho.1⟩,fun hin el2 g1 g2=>?_,fun hgt=>⟨by show (k+1) * 8≤140737488355328;omega,fun cap2 el2 hc2 g1 g2=>?_⟩⟩
      ·refine⟨(k+1,some (cap,el2)),[],?_,⟨rfl,rfl⟩,(by refine⟨?_,?_,?_⟩;(show some (Value.int .i64 (IntKind.i64.wrap (lo+((k:Nat):Int)+1)))=some (Value.int .i64 (lo+((k+1:Nat):Int)));rw[wrapi (by omega)];rw[show lo+((k+1:Nat):Int)=lo+((k:Nat):Int)+1 by omega]);(exact rfl);repeat (first | exact trivial | refine⟨rfl,?_⟩)),kp_⟩
       dsimp only
       refine⟨⟨by omega,by omega,fun j hj=>?_⟩,by omega⟩
       by_cases hjk:j<k
       ·exact (g1 j hjk).trans (ho.2 j hjk)
       ·obtain rfl:j=k:=by omega
        exact g2 0 (by omega)
      ·refine⟨(k+1,some (cap2,el2)),[(11,13)],?_,⟨rfl,rfl⟩,(by refine⟨?_,?_,?_⟩;(show some (Value.int .i64 (IntKind.i64.wrap (lo+((k:Nat):Int)+1)))=some (Value.int .i64 (lo+((k+1:Nat):Int)));rw[wrapi (by omega)];rw[show lo+((k+1:Nat):Int)=lo+((k:Nat):Int)+1 by omega]);(exact rfl);repeat (first | exact trivial | refine⟨rfl,?_⟩)),kp_⟩
       dsimp only
       refine⟨⟨by omega,by omega,fun j hj=>?_⟩,by omega⟩
       by_cases hjk:j<k
       ·exact (g1 j hjk).trans (ho.2 j hjk)
       ·obtain rfl:j=k:=by omega
        exact g2 0 (by omega)
     ·have hge2:¬ lo+(k:Int)<hi:=of_decide_eq_false hge
      obtain rfl:k=(hi-lo).toNat:=by omega
      exact .inr ⟨11,cap,_,cap,el,by rw[hlen],rfl,rfl,by rw[hlen];exact ho.1,fun j hj=>by rw[hlen] at hj;rw[ho.2 j hj,hget j hj]⟩
/-! schema.Next,ref39.Next -/
def entK (k tick:Int):Ent:=⟨k,tick,-1,-1,-1,0,0,0,0⟩
def entZ:Ent:=⟨0,0,0,0,0,0,0,0,0⟩
def nextP (c:Cfg) (s:St) (goal:Int) (moved:Bool) (tick:Int):Ent×Int:=
 if s.low<s.high then (if moved=true∧(applyP c s (entK 15 tick)).2=0 then (entK 15 tick,5) else (entZ,4))
 else if goal≤s.high then (entZ,1) else if (applyP c s (entK 14 tick)).2=0 then (entK 14 tick,3) else (entZ,2)
theorem applyR_K (c:Cfg) (s:St) {k:Int} (hk:k=14∨k=15) (tick:Int):applyR c s (entK k tick)=applyP c s (entK k tick):=by
 rcases hk with rfl | rfl<;>(unfold applyR applyP;simp[fitsB,booksB,entK])
theorem nx_eq {p q:Ent×Int} (h:q=p):Value.tuple #[entV' p.1,.int .i64 p.2]=.tuple #[entV' q.1,.int .i64 q.2]:=by rw[h]
theorem den_next (ρ:Nat→Pl) (e:Ent) (p:Int):den ρ (.tuple #[entV' e,.int .i64 p])=.tuple #[.agg (entC e).toArray,.int .i64 p]:=by simp[den,den2,den1,entC]
abbrev ctChkP:CT:=ctInl tt [(20,ctApplyO)] [] Tryz.f45 (bodyOf Tryz.f45)
abbrev ctChkR:CT:=ctInl tt [(72,ctApplyR)] [] Tryz.f46 (bodyOf Tryz.f46)
def nxF:FT:=[(45,ctChkP)]
def nxD:List (Nat×DQ):=[(9000000,{ k:=0,L:=[45] })]
theorem nxFok:FTokI Tryz.prog nxF (inlOf nxD):=fti_cons (inl_ok ttOk (fti_cons (applyOOk.i _) fti_nil) mixed (by kernel_rfl) Tryz.func45 rfl (by kernel_rfl) (by decide)) fti_nil
def nxrF:FT:=[(46,ctChkR)]
def nxrD:List (Nat×DQ):=[(9000000,{ k:=0,L:=[46] })]
theorem nxrFok:FTokI Tryz.prog nxrF (inlOf nxrD):=fti_cons (inl_ok ttOk (fti_cons (applyROk.i _) fti_nil) mixed (by kernel_rfl) Tryz.func46 rfl (by kernel_rfl) (by decide)) fti_nil
set_option maxRecDepth 100000 in
set_option maxHeartbeats 4000000 in
theorem nextP_sx (x:CfgK) (c:Cfg) (y:StK) (s:St) (goal:Int) (moved:Bool) (tick:Int) (hV:CfgV c) (hI:StInv c s) :
  sx tt nxF nxD (bodyOf Tryz.f15) (argF 0 [cfgV CN1 x c,stV SN1 y s,.int .i64 goal,.bool moved,.int .i64 tick]) (rdM c s noS) 10 (endx tt Tryz.f15.results.toList fun v _ _=>v=.tuple #[entV' (nextP c s goal moved tick).1,.int .i64 (nextP c s goal moved tick).2]):=by
 refine⟨fun h1=>?_,fun h1=>?_⟩
 ·have h1b:s.low<s.high:=of_decide_eq_true h1
  refine⟨fun hm=>?_,fun hm=>?_⟩
  ·refine⟨CN1,x,c,SN1,y,s,entK 15 tick,rfl,kp_,⟨.list rfl,.list rfl⟩,hV,hI,?_⟩
   intro y2
   refine⟨fun hz=>?_,fun hz=>?_⟩
   ·have hz2:(applyP c s (entK 15 tick)).2=0:=by simpa using hz
    refine nx_eq (p:=(entK 15 tick,5)) ?_
    unfold nextP
    rw[if_pos h1b,if_pos ⟨hm,hz2⟩]
   ·have hz2:¬ (applyP c s (entK 15 tick)).2=0:=by simpa using hz
    refine nx_eq (p:=(entZ,4)) ?_
    unfold nextP
    rw[if_pos h1b,if_neg (fun q=>hz2 q.2)]
  ·refine⟨fun q=>Bool.noConfusion q,fun _=>?_⟩
   refine nx_eq (p:=(entZ,4)) ?_
   unfold nextP
   rw[if_pos h1b,if_neg (fun q=>by rw[hm] at q;cases q.1)]
 ·have h1b:¬ s.low<s.high:=of_decide_eq_false h1
  refine⟨fun h2=>?_,fun h2=>?_⟩
  ·have h2b:goal≤s.high:=of_decide_eq_true h2
   refine nx_eq (p:=(entZ,1)) ?_
   unfold nextP
   rw[if_neg h1b,if_pos h2b]
  ·have h2b:¬ goal≤s.high:=of_decide_eq_false h2
   refine⟨CN1,x,c,SN1,y,s,entK 14 tick,rfl,kp_,⟨.list rfl,.list rfl⟩,hV,hI,?_⟩
   intro y2
   refine⟨fun hz=>?_,fun hz=>?_⟩
   ·have hz2:(applyP c s (entK 14 tick)).2=0:=by simpa using hz
    refine nx_eq (p:=(entK 14 tick,3)) ?_
    unfold nextP
    rw[if_neg h1b,if_neg h2b,if_pos hz2]
   ·have hz2:¬ (applyP c s (entK 14 tick)).2=0:=by simpa using hz
    refine nx_eq (p:=(entZ,2)) ?_
    unfold nextP
    rw[if_neg h1b,if_neg h2b,if_neg hz2]
set_option maxRecDepth 100000 in
set_option maxHeartbeats 4000000 in
theorem nextR_sx (x:CfgK) (c:Cfg) (y:StK) (s:St) (goal:Int) (moved:Bool) (tick:Int) (hV:CfgV c) (hI:StInv c s) :
  sx tt nxrF nxrD (bodyOf Tryz.f16) (argF 0 [cfgV CN1 x c,stV SN1 y s,.int .i64 goal,.bool moved,.int .i64 tick]) (rdM c s noS) 10 (endx tt Tryz.f16.results.toList fun v _ _=>v=.tuple #[entV' (nextP c s goal moved tick).1,.int .i64 (nextP c s goal moved tick).2]):=by
 refine⟨fun h1=>?_,fun h1=>?_⟩
 ·have h1b:s.low<s.high:=of_decide_eq_true h1
  refine⟨fun hm=>?_,fun hm=>?_⟩
  ·refine⟨CN1,x,c,SN1,y,s,entK 15 tick,rfl,⟨kp_,.list rfl,.list rfl⟩,⟨hV,hI⟩,?_⟩
   intro y2
   rw[applyR_K c s (k:=15) (by decide) tick]
   refine⟨fun hz=>?_,fun hz=>?_⟩
   ·have hz2:(applyP c s (entK 15 tick)).2=0:=by simpa using hz
    refine nx_eq (p:=(entK 15 tick,5)) ?_
    unfold nextP
    rw[if_pos h1b,if_pos ⟨hm,hz2⟩]
   ·have hz2:¬ (applyP c s (entK 15 tick)).2=0:=by simpa using hz
    refine nx_eq (p:=(entZ,4)) ?_
    unfold nextP
    rw[if_pos h1b,if_neg (fun q=>hz2 q.2)]
  ·refine⟨fun q=>Bool.noConfusion q,fun _=>?_⟩
   refine nx_eq (p:=(entZ,4)) ?_
   unfold nextP
   rw[if_pos h1b,if_neg (fun q=>by rw[hm] at q;cases q.1)]
 ·have h1b:¬ s.low<s.high:=of_decide_eq_false h1
  refine⟨fun h2=>?_,fun h2=>?_⟩
  ·have h2b:goal≤s.high:=of_decide_eq_true h2
   refine nx_eq (p:=(entZ,1)) ?_
   unfold nextP
   rw[if_neg h1b,if_pos h2b]
  ·have h2b:¬ goal≤s.high:=of_decide_eq_false h2
   refine⟨CN1,x,c,SN1,y,s,entK 14 tick,rfl,⟨kp_,.list rfl,.list rfl⟩,⟨hV,hI⟩,?_⟩
   intro y2
   rw[applyR_K c s (k:=14) (by decide) tick]
   refine⟨fun hz=>?_,fun hz=>?_⟩
   ·have hz2:(applyP c s (entK 14 tick)).2=0:=by simpa using hz
    refine nx_eq (p:=(entK 14 tick,3)) ?_
    unfold nextP
    rw[if_neg h1b,if_neg h2b,if_pos hz2]
   ·have hz2:¬ (applyP c s (entK 14 tick)).2=0:=by simpa using hz
    refine nx_eq (p:=(entZ,2)) ?_
    unfold nextP
    rw[if_neg h1b,if_neg h2b,if_neg hz2]
theorem nextP_calls (x:CfgA) (c:Cfg) (y:StA) (s:St) (goal:Int) (moved:Bool) (tick:Int) (w:World) (hV:CfgV c) (hI:StInv c s) (hc:CfgOk w (·<w.heap.size) x c) (hs:StOk w (·<w.heap.size) y s) :
  Calls Tryz.prog 15 #[.agg (cfgC x c),.agg (stC y s),.int .i64 goal,.bool moved,.int .i64 tick] w fun e w'=>e=.returned (.tuple #[.agg (entC (nextP c s goal moved tick).1).toArray,.int .i64 (nextP c s goal moved tick).2])∧Below w.heap.size w w':=by
 have:=rd_callsL ttOk nxFok Tryz.func15 rfl (D:=nxD) (by kernel_rfl) (vs:=[cfgV CN1 (ck x) c,stV SN1 (sk y) s,.int .i64 goal,.bool moved,.int .i64 tick]) rfl x c y s w hc hs (fun v hv=>by
  simp only[List.mem_cons,List.not_mem_nil,or_false] at hv
  rcases hv with rfl | rfl | rfl | rfl | rfl
  ·exact rpl_cfg_ok x c y s noA noS
  ·exact rpl_st_ok x c y s noA noS
  ·trivial
  ·trivial
  ·trivial) (nextP_sx (ck x) c (sk y) s goal moved tick hV hI)
 rw[List.map_cons,rpl_cfg,List.map_cons,rpl_st] at this
 refine this.mono ?_
 rintro e w' ⟨v,mem',nx',ρ',rfl,rfl,hv,hm',hb⟩
 exact⟨congrArg Ending.returned (den_next ρ' _ _),hb⟩
def ctNextP:CT:=fun vs mem nx K=>∃ N x c M y s goal moved tick,vs=[cfgV N x c,stV M y s,.int .i64 goal,.bool moved,.int .i64 tick]∧HasCfg mem N c∧(HasRow mem M.t 12 tsC default s.tenants∧HasRow mem M.c 4 csC default s.cells)∧(CfgV c∧StInv c s)∧K (.tuple #[entV' (nextP c s goal moved tick).1,.int .i64 (nextP c s goal moved tick).2]) mem nx
theorem nextPOk:CSound Tryz.prog 15 ctNextP:=⟨by kernel_rfl,fun {C ρ fr mem nx a w vs K} hc hs hv=>by
 obtain⟨N,x,c,M,y,s,goal,moved,tick,rfl,hk,⟨h1,h2⟩,⟨hV,hI⟩,hK⟩:=hc
 rw[List.map_cons,den_cfg,List.map_cons,den_st]
 refine (nextP_calls (cfgX ρ N x) c (stX ρ M y) s goal moved tick w hV hI (hs.cfgH hk) (hs.stRow h1 h2)).mono ?_
 rintro e w' ⟨rfl,hb⟩
 refine⟨_,mem,nx,ρ,?_,hK,hs.later hb,?_,ExtS.refl _ _⟩
 ·exact congrArg Ending.returned (den_next ρ _ _).symm
 ·intro u hu
  simp at hu
  rcases hu with rfl | rfl
  ·exact (pure_den (pure_ent _) _ _).2
  ·trivial⟩
theorem nextR_calls (x:CfgA) (c:Cfg) (y:StA) (s:St) (goal:Int) (moved:Bool) (tick:Int) (w:World) (hV:CfgV c) (hI:StInv c s) (hc:CfgOk w (·<w.heap.size) x c) (hs:StOk w (·<w.heap.size) y s) :
  Calls Tryz.prog 16 #[.agg (cfgC x c),.agg (stC y s),.int .i64 goal,.bool moved,.int .i64 tick] w fun e w'=>e=.returned (.tuple #[.agg (entC (nextP c s goal moved tick).1).toArray,.int .i64 (nextP c s goal moved tick).2])∧Below w.heap.size w w':=by
 have:=rd_callsL ttOk nxrFok Tryz.func16 rfl (D:=nxrD) (by kernel_rfl) (vs:=[cfgV CN1 (ck x) c,stV SN1 (sk y) s,.int .i64 goal,.bool moved,.int .i64 tick]) rfl x c y s w hc hs (fun v hv=>by
  simp only[List.mem_cons,List.not_mem_nil,or_false] at hv
  rcases hv with rfl | rfl | rfl | rfl | rfl
  ·exact rpl_cfg_ok x c y s noA noS
  ·exact rpl_st_ok x c y s noA noS
  ·trivial
  ·trivial
  ·trivial) (nextR_sx (ck x) c (sk y) s goal moved tick hV hI)
 rw[List.map_cons,rpl_cfg,List.map_cons,rpl_st] at this
 refine this.mono ?_
 rintro e w' ⟨v,mem',nx',ρ',rfl,rfl,hv,hm',hb⟩
 exact⟨congrArg Ending.returned (den_next ρ' _ _),hb⟩
def ctNextR:CT:=fun vs mem nx K=>∃ N x c M y s goal moved tick,vs=[cfgV N x c,stV M y s,.int .i64 goal,.bool moved,.int .i64 tick]∧HasCfg mem N c∧(HasRow mem M.t 12 tsC default s.tenants∧HasRow mem M.c 4 csC default s.cells)∧(CfgV c∧StInv c s)∧K (.tuple #[entV' (nextP c s goal moved tick).1,.int .i64 (nextP c s goal moved tick).2]) mem nx
theorem nextROk:CSound Tryz.prog 16 ctNextR:=⟨by kernel_rfl,fun {C ρ fr mem nx a w vs K} hc hs hv=>by
 obtain⟨N,x,c,M,y,s,goal,moved,tick,rfl,hk,⟨h1,h2⟩,⟨hV,hI⟩,hK⟩:=hc
 rw[List.map_cons,den_cfg,List.map_cons,den_st]
 refine (nextR_calls (cfgX ρ N x) c (stX ρ M y) s goal moved tick w hV hI (hs.cfgH hk) (hs.stRow h1 h2)).mono ?_
 rintro e w' ⟨rfl,hb⟩
 refine⟨_,mem,nx,ρ,?_,hK,hs.later hb,?_,ExtS.refl _ _⟩
 ·exact congrArg Ending.returned (den_next ρ _ _).symm
 ·intro u hu
  simp at hu
  rcases hu with rfl | rfl
  ·exact (pure_den (pure_ent _) _ _).2
  ·trivial⟩
/-! The steps of a change of the schema: plain facts. -/
theorem entV_K {c:Cfg} {k t:Int} (hk:k=14∨k=15) (ht:0≤t∧t≤1073741824):entV c (entK k t)=true:=by
 unfold entV entOk
 rcases hk with rfl | rfl<;>simp[entK,inR,inS,fT,fC,fO,fE,fW,fN]<;>exact⟨decide_eq_true ht.1,decide_eq_true ht.2⟩
theorem refused_K {c:Cfg} {s:St} {k:Int} (hk:k=14∨k=15) (hI:StInv c s) (hct:s.count≤4000):refusedE c s (entK k s.tick)=kindE c s (entK k s.tick):=by
 have ht:=hI.tick
 unfold refusedE
 rw[if_neg (by rw[entV_K hk ht];decide),if_neg (by omega),if_neg (by show ¬ s.tick<s.tick;omega)]
theorem apply_K {c:Cfg} {s:St} {k:Int} (hk:k=14∨k=15) (t:Int) (h0:refusedE c s (entK k t)=0):applyP c s (entK k t)=(effOf s (entK k t),0):=by
 unfold applyP
 rw[if_neg (by rw[h0];decide),if_neg]
 rcases hk with rfl | rfl<;>simp[booksB,entK]
theorem apply_K_bad {c:Cfg} {s:St} {k:Int} (t:Int) (h0:refusedE c s (entK k t)≠0):(applyP c s (entK k t)).2≠0:=by
 unfold applyP
 rw[if_pos h0]
 exact h0
theorem contract_ok {c:Cfg} {s:St} (hI:StInv c s) (hct:s.count≤4000) (h:s.low<s.high):applyP c s (entK 15 s.tick)=(effOf s (entK 15 s.tick),0):=by
 refine apply_K (.inr rfl) _ ?_
 rw[refused_K (.inr rfl) hI hct]
 show contractE s=0
 unfold contractE
 rw[if_neg (by omega)]
theorem eff_15 (s:St) (t:Int):effOf s (entK 15 t)={ s with tick:=t,count:=s.count+1,low:=s.high }:=rfl
theorem eff_14 (s:St) (t:Int):effOf s (entK 14 t)={ s with tick:=t,count:=s.count+1,high:=s.high+1 }:=rfl
theorem expand_iff {c:Cfg} {s:St} (hI:StInv c s) (hct:s.count≤4000) (h:¬ s.low<s.high) (h30:s.high<30):(applyP c s (entK 14 s.tick)).2=0↔s.cells.any (blockB c s)=false:=by
 have hk:kindE c s (entK 14 s.tick)=if s.cells.any (blockB c s) then 13 else 0:=by
  show expandE c s=_
  unfold expandE
  rw[if_neg h,if_neg (by omega)]
 constructor
 ·intro hz
  cases hb:s.cells.any (blockB c s) with
  | false=>rfl
  | true=>
   rw[hb] at hk
   exact absurd hz (apply_K_bad _ (by rw[refused_K (.inl rfl) hI hct,hk];decide))
 ·intro hb
  rw[hb] at hk
  rw[apply_K (.inl rfl) _ (by rw[refused_K (.inl rfl) hI hct,hk];rfl)]
theorem apply_eff {c:Cfg} {s x:St} {e:Ent} (h:applyP c s e=(x,0)):x=effOf s e:=(applyP_ok h).2.1
theorem next_stays {c:Cfg} {s:St} {g t:Int}:(nextP c s g false t).1.kind≠15∧(nextP c s g false t).2≠5:=by
 unfold nextP
 split
 ·rw[if_neg (fun q=>by cases q.1)]
  decide
 ·split
  ·decide
  ·split
   ·exact⟨(by decide:(14:Int)≠15),(by decide:(3:Int)≠5)⟩
   ·exact⟨(by decide:(0:Int)≠15),(by decide:(2:Int)≠5)⟩
theorem next_move {c:Cfg} {s:St} {g t:Int} (h:s.low<s.high):nextP c s g false t=(entZ,4):=by
 unfold nextP
 rw[if_pos h,if_neg (fun q=>by cases q.1)]
theorem next_contract {c:Cfg} {s:St} {g:Int} (hI:StInv c s) (hct:s.count≤4000) (h:s.low<s.high):nextP c s g true s.tick=(entK 15 s.tick,5):=by
 unfold nextP
 rw[if_pos h,if_pos ⟨rfl,by rw[contract_ok hI hct h]⟩]
def stepsP (s:St) (g:Int):Int:=(if s.low<s.high then 1 else 0)+2 * max 0 (g-s.high)
theorem next_done {c:Cfg} {s:St} {g t:Int} (h:¬ s.low<s.high) (hg:g≤s.high) (b:Bool):nextP c s g b t=(entZ,1):=by
 unfold nextP
 rw[if_neg h,if_pos hg]
theorem next_expand {c:Cfg} {s:St} {g t:Int} (h:¬ s.low<s.high) (hg:¬ g≤s.high) (b:Bool) (hz:(applyP c s (entK 14 t)).2=0):nextP c s g b t=(entK 14 t,3):=by
 unfold nextP
 rw[if_neg h,if_neg hg,if_pos hz]
theorem next_wait {c:Cfg} {s:St} {g t:Int} (h:¬ s.low<s.high) (hg:¬ g≤s.high) (b:Bool) (hz:¬ (applyP c s (entK 14 t)).2=0):nextP c s g b t=(entZ,2):=by
 unfold nextP
 rw[if_neg h,if_neg hg,if_neg hz]
def ctApply:CT:=fun vs mem nx K=>∃ N x c M y s e,vs=[cfgV N x c,stV M y s,entV' e]∧keeps mem (cfgM N c)∧keeps mem (stM M s)∧CfgV c∧StInv c s∧∀ y2,K (.tuple #[stV ⟨nx+1,nx,500000⟩ y2 (applyP c s e).1,.int .i64 (applyP c s e).2]) (stM ⟨nx+1,nx,500000⟩ (applyP c s e).1++mem) (nx+2)
theorem applyOk:CSound Tryz.prog 20 ctApply:=⟨by kernel_rfl,fun {C ρ fr mem nx a w vs K} hc hs hv=>by
 obtain⟨N,x,c,M,y,s,e,rfl,hk1,hk2,hV,hI,hK⟩:=hc
 have e0:([cfgV N x c,stV M y s,entV' e].map (den ρ)).toArray=#[.agg (cfgC (cfgX ρ N x) c),.agg (stC (stX ρ M y) s),.agg (entC e).toArray]:=by
  rw[List.map_cons,List.map_cons,List.map_cons,den_cfg,den_st]
  simp[den,den2,den1,entC]
 rw[e0]
 refine (stApplyO_any (cfgX ρ N x) c (stX ρ M y) s e w hV (hs.cfg hk1 (fun b h _=>h)) hI (hs.st hk2 (fun b h _=>h))).mono ?_
 rintro r w' ⟨y2,rfl,ho,hb⟩
 obtain⟨q1,q2,q3,q4⟩:=hs.addSt hb (s:=(applyP c s e).1) ho.ok
 refine⟨.tuple #[stV ⟨nx+1,nx,500000⟩ ⟨y2.ct,y2.cc⟩ (applyP c s e).1,.int .i64 (applyP c s e).2],_,_,_,?_,hK ⟨y2.ct,y2.cc⟩,q1,?_,q4⟩
 ·rw[← q2]
  simp[den,den2,den1]
 ·intro u hu
  simp at hu
  rcases hu with rfl | rfl
  ·exact q3
  ·trivial⟩
theorem pathP_calls (x:CfgA) (c:Cfg) (lo hi:Int) (w:World) (hc:CfgOk w (·<w.heap.size) x c) (hl:c.versions.length≤1000) :
  Calls Tryz.prog 43 #[.agg (cfgC x c),.int .i64 lo,.int .i64 hi] w fun e w'=>∃ A cp,e=.returned (.slice A (pathL c lo hi).length cp)∧Rd w' (fun b=>w.heap.size≤b∧b<w'.heap.size) A (flat intC (pathL c lo hi))∧Below w.heap.size w w':=by
 have:=rd_callsL ttOk (ptFok.i _) Tryz.func43 rfl (D:=ptD) (by kernel_rfl) (vs:=[cfgV CN1 (ck x) c,.int .i64 lo,.int .i64 hi]) rfl x c noA noS w hc (noS_ok w _) (fun v hv=>by
  simp only[List.mem_cons,List.not_mem_nil,or_false] at hv
  rcases hv with rfl | rfl | rfl
  ·exact rpl_cfg_ok x c noA noS noA noS
  ·trivial
  ·trivial) (pathP_sx (ck x) c lo hi hl)
 rw[List.map_cons,rpl_cfg] at this
 refine this.mono ?_
 rintro e w' ⟨v,mem',nx',ρ',rfl,hR,hv,hm',hb⟩
 obtain⟨A,cp,e1,hr⟩:=hm'.slR (enc:=intC) (sz:=1) (fun _=>rfl) (by omega) hR
 refine⟨A,cp,?_,hr,hb⟩
 congr 1
 rcases hR with⟨rfl,-⟩ | ⟨r,cap,t,n,el,rfl,-⟩
 ·exact e1
 ·exact e1
def ctPathP:CT:=fun vs mem nx K=>∃ N x c lo hi,vs=[cfgV N x c,.int .i64 lo,.int .i64 hi]∧HasCfg mem N c∧c.versions.length≤1000∧∀ cp,K (slc nx (pathL c lo hi).length cp) ((nx,rowOfL 500000 1 intC 0 (pathL c lo hi))::mem) (nx+1)
theorem pathPOk:CSound Tryz.prog 43 ctPathP:=⟨by kernel_rfl,fun {C ρ fr mem nx a w vs K} hc hs hv=>by
 obtain⟨N,x,c,lo,hi,rfl,hk,hl,hK⟩:=hc
 rw[List.map_cons,den_cfg]
 refine (pathP_calls (cfgX ρ N x) c lo hi w (hs.cfgH hk) hl).mono ?_
 rintro e w' ⟨A,cp,rfl,hr,hb⟩
 exact hs.intsL hb hr (hK cp)⟩
/-! ref24.SameInts -/
theorem list_eqL {α:Type} {l l2:List α} (d:α) (hl:l.length=l2.length) (h:∀ k:Nat,(k:Int)<l.length→l.getD k d=l2.getD k d):l=l2:=by
 apply List.ext_getElem? 
 intro k
 by_cases hk:k<l.length
 ·have:=h k (by omega)
  rw[List.getD_eq_getElem?_getD,List.getD_eq_getElem?_getD,List.getElem?_eq_getElem hk,List.getElem?_eq_getElem (by omega)] at this
  rw[List.getElem?_eq_getElem hk,List.getElem?_eq_getElem (by omega)]
  exact congrArg some this
 ·rw[List.getElem?_eq_none (by omega),List.getElem?_eq_none (by omega)]
def s24D:List (Nat×DQ):=[(2000004,{ k:=0,L:=[0,1,2,3,4,5,6,7,8,9],sl:=[0,1,12] }),(6,{ k:=8,L:=[4,5],pre:=[(0,false),(1,false),(2,false),(3,false),(4,false),(5,false),(6,false),(7,false)] })]
set_option maxRecDepth 100000 in
set_option maxHeartbeats 4000000 in
theorem same24_sx (l l2:List Int) (c0 c1:Nat) (hm:l.length≤1000000) :
  sx tt [] s24D (bodyOf Tryz.f23) (argF 0 [slc 4 l.length c0,slc 5 l2.length c1]) (rdM { noC with replicas:=l,observers:=l2 } noS noS) 10 (endx tt Tryz.f23.results.toList fun v _ _=>(∃ b,v=.bool b∧(b=true↔l=l2))∧pureV v):=by
 refine⟨fun h=>?_,fun h=>?_⟩
 ·refine⟨⟨false,rfl,(fun q=>nomatch q),fun q=>?_⟩,trivial⟩
  rw[q] at h
  simp at h
 ·have hlen:l.length=l2.length:=by have q:=h;simp at q;omega
  refine⟨Int,fun i=>[(13,.int .i64 i)],fun _=>[],fun i=>(0≤i∧i≤l.length)∧∀ k:Nat,(k:Int)<i→l.getD k 0=l2.getD k 0,fun i=>((l.length:Int)-i).toNat,⟨0,⟨by omega,fun k hk=>absurd hk (by omega)⟩,kp_,kp_⟩,?_⟩
  rintro i ⟨hi,he⟩
  refine⟨⟨rfl,rfl⟩,?_⟩
  refine⟨fun hlt=>?_,fun hge=>?_⟩
  ·have hlt2:i<(l.length:Int):=of_decide_eq_true hlt
   refine⟨⟨Nat.le_refl _,hi.1,hlt2⟩,?_⟩
   refine⟨⟨Nat.le_refl _,hi.1,by omega⟩,?_⟩
   refine⟨fun hne=>?_,fun heq=>?_⟩
   ·have hne2:l.getD i.toNat 0≠l2.getD i.toNat 0:=by simpa using hne
    exact⟨⟨false,rfl,(fun q=>nomatch q),fun q=>absurd (by rw[q]) hne2⟩,trivial⟩
   ·have hq:l.getD i.toNat 0=l2.getD i.toNat 0:=by simpa using heq
    refine⟨_,?_,kp_,kp_⟩
    rw[wrapi (n:=i+1) (by omega)]
    dsimp only
    refine⟨⟨⟨by omega,by omega⟩,fun k hk=>?_⟩,by omega⟩
    by_cases hki:(k:Int)<i
    ·exact he k hki
    ·obtain rfl:k=i.toNat:=by omega
     exact hq
  ·have hge2:¬ i<(l.length:Int):=of_decide_eq_false hge
   exact⟨⟨true,rfl,fun _=>list_eqL 0 hlen fun k hk=>he k (by omega),fun _=>rfl⟩,trivial⟩
theorem same24_any (A A2:Option Addr) (c0 c1:Nat) (l l2:List Int) (w:World) (hm:l.length≤1000000) (hr:Rd w (·<w.heap.size) A (flat intC l)) (hr2:Rd w (·<w.heap.size) A2 (flat intC l2)) :
  Calls Tryz.prog 23 #[.slice A l.length c0,.slice A2 l2.length c1] w fun e w'=>∃ b,e=.returned (.bool b)∧(b=true↔l=l2)∧Below w.heap.size w w':=by
 have hz:=noC_ok w (·<w.heap.size)
 have:=rd_calls ft_nil Tryz.func23 rfl (D:=s24D) (by kernel_rfl) (vs:=[slc 4 l.length c0,slc 5 l2.length c1]) rfl { noX with ar:=A,ao:=A2 } { noC with replicas:=l,observers:=l2 } noA noS noA noS w ⟨hz.zones,hz.cells,hz.tenants,hz.versions,hr,hr2⟩ (noS_ok w _) (noS_ok w _) (fun v hv=>by
  simp only[List.mem_cons,List.not_mem_nil,or_false] at hv
  rcases hv with rfl | rfl
  ·exact⟨show (4:Nat)<10 by decide,rfl⟩
  ·exact⟨show (5:Nat)<10 by decide,rfl⟩) (R:=fun v=>∃ b,v=.bool b∧(b=true↔l=l2)) (same24_sx l l2 c0 c1 hm)
 refine this.mono ?_
 rintro e w' ⟨v,⟨b,rfl,hb⟩,-,rfl,hbw⟩
 exact⟨b,rfl,hb,hbw⟩
def ctSame24:CT:=fun vs mem nx K=>∃ r r2 c c2 l l2,vs=[slc r (l:List Int).length c,slc r2 (l2:List Int).length c2]∧(HasRow mem r 1 intC 0 l∧HasRow mem r2 1 intC 0 l2)∧l.length≤1000000∧∀ b,(b=true↔l=l2)→K (.bool b) mem nx
theorem same24Ok:CSound Tryz.prog 23 ctSame24:=⟨by kernel_rfl,fun {C ρ fr mem nx a w vs K} hc hs hv=>by
 obtain⟨r,r2,c,c2,l,l2,rfl,⟨h1,h2⟩,hm,hK⟩:=hc
 refine (same24_any (ρ r).A (ρ r2).A c c2 l l2 w hm (hs.hasRd (enc:=intC) (sz:=1) (fun _=>rfl) (by omega) h1) (hs.hasRd (enc:=intC) (sz:=1) (fun _=>rfl) (by omega) h2)).mono ?_
 rintro e w' ⟨b,rfl,hb,hbw⟩
 exact⟨.bool b,mem,nx,ρ,rfl,hK b hb,hs.later hbw,trivial,ExtS.refl _ _⟩⟩
end Go.Proofs.YtnnpgbleacapfaaGreat
