import Derived.Test.YtchhdflealgkaaaGreatPo09
namespace Go.Proofs.YtchhdflealgkaaaGreat
open Go.RowKit
set_option linter.unusedSimpArgs false
set_option linter.unusedVariables false
def rightR (e:Ent) (nt nc nr nv:Int):Bool:=
 inR e.kind 1 16&&inR e.tick 0 1073741824&&placesR (hasK e.kind 116) (hasK e.kind 99) (hasK e.kind 67) (hasK e.kind 111) (hasK e.kind 114) e nt nc nr &&
  numbersR (hasK e.kind 101) (hasK e.kind 119) (hasK e.kind 118) (hasK e.kind 98) (hasK e.kind 109) (hasK e.kind 110) e nv
theorem rightR_eq (e:Ent) (nt nc nr nv:Int):rightR e nt nc nr nv=entOk nt nc nr nv e:=by
 obtain⟨kind,tick,tenant,cell,other,epoch,since,till,n⟩:=e
 by_cases hk:inR kind 1 16=true
 ·have hb:1≤kind∧kind≤16:=by simp[inR] at hk;omega
  have hk16:kind=1∨kind=2∨kind=3∨kind=4∨kind=5∨kind=6∨kind=7∨kind=8∨kind=9∨kind=10∨kind=11∨kind=12∨kind=13∨kind=14∨kind=15∨kind=16:=by omega
  clear hb hk
  rcases hk16 with rfl | rfl | rfl | rfl | rfl | rfl | rfl | rfl | rfl | rfl | rfl | rfl | rfl | rfl | rfl | rfl
  all_goals
   rw[Bool.eq_iff_iff]
   simp[rightR,entOk,placesR,numbersR,hasK,usesL,inS,inR,fT,fC,fO,fE,fW,fN]
   try omega
 ·have hk':inR kind 1 16=false:=by simpa using hk
  simp[rightR,entOk,hk']
set_option maxHeartbeats 2000000 in
set_option maxRecDepth 100000 in
theorem r6right_any (e:Ent) (nt nc nr nv:Int) (w:World) (hv:0≤nt) (hv2:nt≤100) (hw:0≤nc) (hw2:nc≤100) (hx:0≤nr) (hx2:nr≤100) (hy:0≤nv) (hy2:nv≤100) :
  Calls Tryz.prog 173 #[.agg (entC e).toArray,.int .i64 nt,.int .i64 nc,.int .i64 nr,.int .i64 nv] w fun x w'=>x=.returned (.bool (entOk nt nc nr nv e))∧Below w.heap.size w w':=by
 rw[← rightR_eq]
 by_cases hk:inR e.kind 1 16=true
 ·have hb:1≤e.kind∧e.kind≤16:=by simp[inR] at hk;omega
  by_cases ht:inR e.tick 0 1073741824=true
  ·have HP:=Lib.hid (fun W=>r6places_any e nt nc nr W hb.1 hb.2 hv hv2 hw hw2 hx hx2)
   have HN:=Lib.hid (fun W=>r6numbers_any e nv W hb.1 hb.2 hy hy2)
   have HR:Hid (rightR e nt nc nr nv=(placesR (hasK e.kind 116) (hasK e.kind 99) (hasK e.kind 67) (hasK e.kind 111) (hasK e.kind 114) e nt nc nr &&
    numbersR (hasK e.kind 101) (hasK e.kind 119) (hasK e.kind 118) (hasK e.kind 98) (hasK e.kind 109) (hasK e.kind 110) e nv)):=Lib.hid (by unfold rightR;rw[hk,ht];simp)
   clear hb
   generalize placesR _ _ _ _ _ _ _ _ _=pb at *
   generalize numbersR _ _ _ _ _ _ _ _=nb at *
   obtain⟨kind,tick,tenant,cell,other,epoch,since,till,n⟩:=e
   unfold entC at *
   simp only at *
   have hbx:=Blk.new w 56 #[.int .i64 kind,.int .i64 tick,.int .i64 tenant,.int .i64 cell,.int .i64 other,.int .i64 epoch,.int .i64 since,.int .i64 till,.int .i64 n]
   have hbel:=(Below.refl w.heap.size w).alloc (Nat.le_refl _) (.cells #[.int .i64 kind,.int .i64 tick,.int .i64 tenant,.int .i64 cell,.int .i64 other,.int .i64 epoch,.int .i64 since,.int .i64 till,.int .i64 n] 56)
   have c0:=hbx.cell' (i:=0) (v:=.int .i64 kind) rfl
   have c1:=hbx.cell' (i:=1) (v:=.int .i64 tick) rfl
   have c2:=hbx.cell' (i:=2) (v:=.int .i64 tenant) rfl
   have c3:=hbx.cell' (i:=3) (v:=.int .i64 cell) rfl
   have c4:=hbx.cell' (i:=4) (v:=.int .i64 other) rfl
   have c5:=hbx.cell' (i:=5) (v:=.int .i64 epoch) rfl
   have c6:=hbx.cell' (i:=6) (v:=.int .i64 since) rfl
   have c7:=hbx.cell' (i:=7) (v:=.int .i64 till) rfl
   have c8:=hbx.cell' (i:=8) (v:=.int .i64 n) rfl
   go_enter Tryz.func173,Tryz.ntmps173
   go_wp2_with (go_at_call 189;(with_reducible refine (r6in_any _ _ _ _).mono ?_);rintro x wq ⟨rfl,rfl⟩)
   refine (HP.out _).mono ?_
   rintro x w1 ⟨rfl,hb1⟩
   replace hbel:=hbel.trans (hb1.mono hbel.size)
   replace hbx:=hbx.below hb1 hbx.lt
   replace c0:=hbx.cell' (i:=0) (v:=.int .i64 kind) rfl
   replace c1:=hbx.cell' (i:=1) (v:=.int .i64 tick) rfl
   replace c2:=hbx.cell' (i:=2) (v:=.int .i64 tenant) rfl
   replace c3:=hbx.cell' (i:=3) (v:=.int .i64 cell) rfl
   replace c4:=hbx.cell' (i:=4) (v:=.int .i64 other) rfl
   replace c5:=hbx.cell' (i:=5) (v:=.int .i64 epoch) rfl
   replace c6:=hbx.cell' (i:=6) (v:=.int .i64 since) rfl
   replace c7:=hbx.cell' (i:=7) (v:=.int .i64 till) rfl
   replace c8:=hbx.cell' (i:=8) (v:=.int .i64 n) rfl
   clear hb1
   cases pb
   ·go_wp2
    go_ret
    exact⟨ret_bool (by rw[HR.out];rfl),hbel⟩
   ·go_wp2_with fail
    refine (HN.out _).mono ?_
    rintro x w2 ⟨rfl,hb2⟩
    replace hbel:=hbel.trans (hb2.mono hbel.size)
    clear hbx c0 c1 c2 c3 c4 c5 c6 c7 c8 hb2
    go_wp2
    go_ret
    exact⟨ret_bool (by rw[HR.out];rfl),hbel⟩
  ·have ht':inR e.tick 0 1073741824=false:=by simpa using ht
   have HR:Hid (rightR e nt nc nr nv=false):=Lib.hid (by unfold rightR;rw[hk,ht'];simp)
   obtain⟨kind,tick,tenant,cell,other,epoch,since,till,n⟩:=e
   unfold entC
   simp only at *
   go_enter Tryz.func173,Tryz.ntmps173
   go_wp2_with (go_at_call 189;(with_reducible refine (r6in_any _ _ _ _).mono ?_);rintro x wq ⟨rfl,rfl⟩)
   go_ret
   exact⟨ret_bool HR.out.symm,(Below.refl _ _).alloc (Nat.le_refl _) _⟩
 ·have hk':inR e.kind 1 16=false:=by simpa using hk
  have HR:Hid (rightR e nt nc nr nv=false):=Lib.hid (by unfold rightR;rw[hk'];simp)
  obtain⟨kind,tick,tenant,cell,other,epoch,since,till,n⟩:=e
  unfold entC
  simp only at *
  go_enter Tryz.func173,Tryz.ntmps173
  go_wp2_with (go_at_call 189;(with_reducible refine (r6in_any _ _ _ _).mono ?_);rintro x wq ⟨rfl,rfl⟩)
  go_ret
  exact⟨ret_bool HR.out.symm,(Below.refl _ _).alloc (Nat.le_refl _) _⟩
set_option maxHeartbeats 2000000 in
theorem r6Valid_any (x:CfgA) (c:Cfg) (e:Ent) (w:World) (hV:CfgV c) :
  Calls Tryz.prog 133 #[.agg (cfgC x c),.agg (entC e).toArray] w fun r w'=>r=.returned (.bool (entV c e))∧Below w.heap.size w w':=by
 obtain⟨az,cz,ac,cc,at_,ct,av,cv,ar,cr,ao,co⟩:=x
 have h1:=hV.nt
 have h2:=hV.nc
 have h3:=hV.reg
 have h4:=hV.nv
 have m1:min (c.tenants.length:Int) 32=c.tenants.length:=by omega
 have m2:min (c.cells.length:Int) 16=c.cells.length:=by omega
 have m3:min c.regions 4=c.regions:=by omega
 have m4:min (c.versions.length:Int) 30=c.versions.length:=by omega
 have HR:=Lib.hid (fun W=>r6right_any e c.tenants.length c.cells.length c.regions c.versions.length W (by omega) (by omega) (by omega) (by omega) (by omega) (by omega) (by omega) (by omega))
 clear hV
 obtain⟨kind,tick,tenant,cell,other,epoch,since,till,n⟩:=e
 unfold entC at *
 unfold cfgC
 simp only at *
 go_enter Tryz.func133,Tryz.ntmps133
 go_wp2_with fail
 refine (HR.out _).mono ?_
 rintro r w1 ⟨rfl,hb⟩
 have HB:=Lib.hid ((((Below.refl w.heap.size w).alloc (Nat.le_refl _) _).alloc (by simp) _).trans (hb.mono (by simp;omega)))
 clear hb m1 m2 m3 m4
 go_wp2
 go_ret
 exact⟨rfl,HB.out⟩
theorem CSound.mono {P:Program} {f:FuncId} {ct ct':CT} (h:CSound P f ct) (hi:∀ vs mem nx K,ct' vs mem nx K→ct vs mem nx K):CSound P f ct':=⟨h.ent,fun {C ρ fr mem nx a w vs K} hc hs hv=>h.run (hi vs mem nx K hc) hs hv⟩
def ctMay:CT:=fun vs mem nx K=>∃ N x c t k,vs=[cfgV N x c,.int .i64 t,.int .i64 k]∧(keeps mem (cfgM N c))∧(CfgV c)∧K (.bool (mayB c t k)) mem nx
theorem mayOk:CSound Tryz.prog 175 ctMay:=(ptsOk (R:=fun l z=>∃ c t k,l=[.cf c,.vl (.int .i64 t),.vl (.int .i64 k)]∧z=.bool (mayB c t k)) (pre:=fun l=>∃ c t k,l=[.cf c,.vl (.int .i64 t),.vl (.int .i64 k)]∧(CfgV c)) (by kernel_rfl) (by
 rintro ps w ⟨c,t,k,hps,hpre⟩ hok
 obtain⟨x,ps0,rfl,hps0⟩:=dt_c hps
 obtain⟨ps1,rfl,hps1⟩:=dt_v hps0
 obtain⟨ps2,rfl,hps2⟩:=dt_v hps1
 obtain rfl:=dt_nil hps2
 have hpc:=hok (.cf x c) (by simp)
 refine (r5May_any x c t k w hpre hpc).mono ?_
 rintro e w' ⟨rfl,hb⟩
 exact⟨_,⟨c,t,k,rfl,rfl⟩,trivial,rfl,hb⟩)).mono (by
 rintro vs mem nx K ⟨N,x,c,t,k,rfl,hk,hpre,hK⟩
 exact⟨[.cf N x c,.vl _,.vl _],rfl,⟨hk,trivial,trivial,trivial⟩,⟨_,_,_,rfl,hpre⟩,by rintro z ⟨c',t',k',hl,hz⟩;cases hl;subst hz;exact hK⟩)
def ctApart:CT:=fun vs mem nx K=>∃ N x c t k,vs=[cfgV N x c,.int .i64 t,.int .i64 k]∧(keeps mem (cfgM N c))∧(CfgV c)∧K (.bool (apartB c t k)) mem nx
theorem apartOk:CSound Tryz.prog 182 ctApart:=(ptsOk (R:=fun l z=>∃ c t k,l=[.cf c,.vl (.int .i64 t),.vl (.int .i64 k)]∧z=.bool (apartB c t k)) (pre:=fun l=>∃ c t k,l=[.cf c,.vl (.int .i64 t),.vl (.int .i64 k)]∧(CfgV c)) (by kernel_rfl) (by
 rintro ps w ⟨c,t,k,hps,hpre⟩ hok
 obtain⟨x,ps0,rfl,hps0⟩:=dt_c hps
 obtain⟨ps1,rfl,hps1⟩:=dt_v hps0
 obtain⟨ps2,rfl,hps2⟩:=dt_v hps1
 obtain rfl:=dt_nil hps2
 have hpc:=hok (.cf x c) (by simp)
 refine (r5Apart_any x c t k w hpre hpc).mono ?_
 rintro e w' ⟨rfl,hb⟩
 exact⟨_,⟨c,t,k,rfl,rfl⟩,trivial,rfl,hb⟩)).mono (by
 rintro vs mem nx K ⟨N,x,c,t,k,rfl,hk,hpre,hK⟩
 exact⟨[.cf N x c,.vl _,.vl _],rfl,⟨hk,trivial,trivial,trivial⟩,⟨_,_,_,rfl,hpre⟩,by rintro z ⟨c',t',k',hl,hz⟩;cases hl;subst hz;exact hK⟩)
set_option maxHeartbeats 1000000 in
theorem mkNone_any (kind tick:Int) (w:World):Calls Tryz.prog 150 #[.int .i64 kind,.int .i64 tick] w fun r w'=>r=.returned (.agg (entC ⟨kind,tick,-1,-1,-1,0,0,0,0⟩).toArray)∧Below w.heap.size w w':=by
 go_enter Tryz.func150,Tryz.ntmps150
 go_wp2
 refine bodyPost_ret (v:=.agg #[.int .i64 kind,.int .i64 tick,.int .i64 (-1),.int .i64 (-1),.int .i64 (-1),.int .i64 0,.int .i64 0,.int .i64 0,.int .i64 0]) (by simp[results,Tryz.results150,go_sem]) rfl ?_
 exact⟨rfl,(Below.refl _ _).alloc (Nat.le_refl _) _⟩
set_option maxHeartbeats 1000000 in
theorem mkLight_any (A:Option Addr) (n cp:Nat) (w:World) (hn:n≤maxLen):Calls Tryz.prog 8 #[.slice A n cp] w fun r w'=>r=.returned (.bool (decide (n≤200)))∧w=w':=by
 unfold maxLen at hn
 go_enter Tryz.func8,Tryz.ntmps8
 go_wp2
 go_ret
 refine⟨ret_bool ?_,rfl⟩
 rw[Bool.eq_iff_iff]
 simp
 try omega
def CN0:CN:=⟨2,3,4,5,6,7,3⟩
def SN0:SN:=⟨8,9,3⟩
def gpl (g:Nat) (A:Option Addr) (n:Nat) (x:CfgA) (c:Cfg) (y:StA) (s:St):Nat→Pl:=fun j=>match j with
 | 0=>⟨some ⟨g,0,none⟩,0,0,false,noSub⟩
 | 1=>⟨A,1,n,false,noSub⟩
 | 2=>⟨x.az,1,c.zones.length,false,noSub⟩
 | 3=>⟨x.ac,2,c.cells.length,false,noSub⟩
 | 4=>⟨x.at_,7,c.tenants.length,false,noSub⟩
 | 5=>⟨x.av,2,c.versions.length,false,noSub⟩
 | 6=>⟨x.ar,1,c.replicas.length,false,noSub⟩
 | 7=>⟨x.ao,1,c.observers.length,false,noSub⟩
 | 8=>⟨y.at_,12,s.tenants.length,false,noSub⟩
 | _=>⟨y.ac,4,s.cells.length,false,noSub⟩
set_option maxRecDepth 20000 in
theorem gen_calls {f:FuncId} {fn:Func} {F:FT} {D:List (Nat×DQ)} (hF:FTok Tryz.prog F) (hf:(Tryz.prog).funcs[f]?=some fn) (hb:fn.body=some (bodyOf fn)) (hcode:codeB fn.ntmps D (bodyOf fn)=true) {args:List Value} (hn:Nat.ble (args.length+3) fn.ntmps=true) (hargs:∀ v ∈ args,pureV v)
  (g:Nat) (A:Option Addr) (cap:Nat) (zs:List Int) (k:Int) (x:CfgA) (c:Cfg) (y:StA) (s:St) (w:World) (ht:TpAt w g A cap zs k) (hc:CfgOk w (fun b=>b≠g∧b<w.heap.size) x c) (hs:StOk w (fun b=>b≠g∧b<w.heap.size) y s) {R:Value→Int→Prop}
  (h:sx tt F D (bodyOf fn) (argF 0 (ptr 0::cfgV CN0 ⟨x.cz,x.cc,x.ct,x.cv,x.cr,x.co⟩ c::stV SN0 ⟨y.ct,y.cc⟩ s::args)) ((0,tapeB 1 zs.length cap k)::(1,intRow zs)::(cfgM CN0 c++stM SN0 s)) 10 (endx tt fn.results.toList fun v mem' _=>∃ k',R v k'∧pureV v∧lk mem' 0=some (tapeB 1 zs.length cap k'))) :
  Calls Tryz.prog f (.pointer (some ⟨g,0,none⟩)::.agg (cfgC x c)::.agg (stC y s)::args).toArray w fun e w'=>∃ v k',R v k'∧pureV v∧e=.returned v∧TpAt w' g A cap zs k'∧w.grownBy w' (some g):=by
 have hpc:CfgPl (gpl g A zs.length x c y s) CN0 x c:=⟨rfl,rfl,rfl,rfl,rfl,rfl⟩
 have hps:StPl (gpl g A zs.length x c y s) SN0 y s:=⟨rfl,rfl⟩
 have hrow:∀ C nx,BlkOk C (gpl g A zs.length x c y s) nx 1 w (intRow zs):=fun C nx=>row_of_rd (enc:=intC) (sz:=1) (fun _=>rfl) (by omega) intC_plain 0 rfl ht.row (fun b hb=>hb.2)
 have hblk:blksOk { w0:=w,bor:=[g],n0:=10,ρ0:=gpl g A zs.length x c y s,nt:=fn.ntmps } (gpl g A zs.length x c y s) 10 w ((1,intRow zs)::(cfgM CN0 c++stM SN0 s)):=
  ⟨⟨by omega,rfl,hrow _ _⟩,cfg_blks hpc hc (fun b hb=>hb.2) (by decide) (by have:=st_blks (C:={ w0:=w,bor:=[g],n0:=10,ρ0:=gpl g A zs.length x c y s,nt:=fn.ntmps }) (nx:=10) (r:=[]) hps hs (fun b hb=>hb.2) (by decide) trivial;exact this)⟩
 have hap:∀ j t sz n el,lk ((1,intRow zs)::(cfgM CN0 c++stM SN0 s)) j=some (.row t sz n el)→n=0∨bno (gpl g A zs.length x c y s) j≠some g:=by
  have one:∀ {α:Type} {enc:α→List Value} {sz:Nat} (hsz:∀ x,(enc x).length=sz) (hpos:0<sz) {l:List α} {Ar:Option Addr},Rd w (fun b=>b≠g∧b<w.heap.size) Ar (flat enc l)→l.length=0∨Ar.map (·.block)≠some g:=by
   intro α enc sz hsz hpos l Ar hrd
   by_cases h0:l.length=0
   ·exact .inl h0
   ·obtain⟨b,off,x,hA,hb,-,-⟩:=hrd.row hsz hpos (k:=0) (by omega)
    subst hA
    exact .inr (by simp;exact hb.1)
  intro j t sz n el hj
  rcases lk_cons hj with⟨rfl,q⟩ | ⟨_,hj⟩
  ·cases q;exact one (enc:=intC) (sz:=1) (fun _=>rfl) (by omega) ht.row
  rcases lk_cons hj with⟨rfl,q⟩ | ⟨_,hj⟩
  ·cases q;exact one (enc:=intC) (sz:=1) (fun _=>rfl) (by omega) hc.zones
  rcases lk_cons hj with⟨rfl,q⟩ | ⟨_,hj⟩
  ·cases q;exact one (enc:=pairC) (sz:=2) (fun _=>rfl) (by omega) hc.cells
  rcases lk_cons hj with⟨rfl,q⟩ | ⟨_,hj⟩
  ·cases q;exact one (enc:=tenC) (sz:=7) (fun _=>rfl) (by omega) hc.tenants
  rcases lk_cons hj with⟨rfl,q⟩ | ⟨_,hj⟩
  ·cases q;exact one (enc:=pairC) (sz:=2) (fun _=>rfl) (by omega) hc.versions
  rcases lk_cons hj with⟨rfl,q⟩ | ⟨_,hj⟩
  ·cases q;exact one (enc:=intC) (sz:=1) (fun _=>rfl) (by omega) hc.replicas
  rcases lk_cons hj with⟨rfl,q⟩ | ⟨_,hj⟩
  ·cases q;exact one (enc:=intC) (sz:=1) (fun _=>rfl) (by omega) hc.observers
  rcases lk_cons hj with⟨rfl,q⟩ | ⟨_,hj⟩
  ·cases q;exact one (enc:=tsC) (sz:=12) (fun _=>rfl) (by omega) hs.tenants
  rcases lk_cons hj with⟨rfl,q⟩ | ⟨_,hj⟩
  ·cases q;exact one (enc:=csC) (sz:=4) (fun _=>rfl) (by omega) hs.cells
  ·simp[lk] at hj
 have hm:=MemAt.one (ρ:=gpl g A zs.length x c y s) (nx:=10) (nt:=fn.ntmps) (w:=w) (mem:=(1,intRow zs)::(cfgM CN0 c++stM SN0 s)) (g:=g) (i:=0) (t:=138) (cs:=[slc 1 zs.length cap,.int .i64 k]) trivial (by omega) rfl
  ⟨g,rfl,by
   have:=ht.blk
   simpa [den1,dA_whole,dS_whole,gpl] using this,.inr (by simp),fun v hv=>by
    simp at hv
    rcases hv with rfl | rfl
    ·exact⟨show (1:Nat)<10 by decide,rfl⟩
    ·trivial⟩ hblk hap
 have hargs2:(ptr 0::cfgV CN0 ⟨x.cz,x.cc,x.ct,x.cv,x.cr,x.co⟩ c::stV SN0 ⟨y.ct,y.cc⟩ s::args).map (den (gpl g A zs.length x c y s))=.pointer (some ⟨g,0,none⟩)::.agg (cfgC x c)::.agg (stC y s)::args:=by
  rw[List.map_cons,List.map_cons,List.map_cons]
  refine congr (congrArg List.cons rfl) (congr (congrArg List.cons ?_) (congr (congrArg List.cons ?_) ?_))
  ·exact den_cfg _ CN0 _ c
  ·exact den_st _ SN0 _ s
  ··conv=>rhs;rw[← List.map_id args]
    exact List.map_congr_left fun v hv=>(pure_den (hargs v hv) _ 0).1
 rw[← hargs2]
 refine (calls_sx ttOk hF mixed hf hb hcode (vs:=ptr 0::cfgV CN0 ⟨x.cz,x.cc,x.ct,x.cv,x.cr,x.co⟩ c::stV SN0 ⟨y.ct,y.cc⟩ s::args) hn ⟨rfl,rfl⟩ rfl hm (fun v hv=>?_) h).mono ?_
 ·rcases List.mem_cons.1 hv with rfl | hv
  ·exact⟨⟨show (0:Nat)<10 by decide,rfl⟩,⟨g,0,rfl⟩,fun k hk=>by cases hk⟩
  ·rcases List.mem_cons.1 hv with rfl | hv
   ·intro u hu
    simp at hu
    rcases hu with rfl | rfl | rfl | rfl | rfl | rfl | rfl | rfl | rfl | rfl<;>first | trivial | exact⟨by decide,rfl⟩
   ·rcases List.mem_cons.1 hv with rfl | hv
    ·intro u hu
     simp at hu
     rcases hu with rfl | rfl | rfl | rfl | rfl | rfl | rfl | rfl<;>first | trivial | exact⟨by decide,rfl⟩
    ·exact (pure_den (hargs v hv) _ _).2
 ·rintro e w' ⟨v,mem',nx',ρ',rfl,⟨k',hr,hpl,hlk⟩,-,hm'⟩
  have e0:ρ' 0=gpl g A zs.length x c y s 0:=hm'.low 0 (show (0:Nat)<10 by decide)
  have e1:ρ' 1=gpl g A zs.length x c y s 1:=hm'.low 1 (show (1:Nat)<10 by decide)
  obtain⟨g',hA,hb,-,-⟩:=hm'.blk 0 _ hlk
  rw[e0] at hA
  cases hA
  have hgr:w.grownBy w' (some g):=⟨hm'.rest.os,hm'.rest.tape,hm'.rest.output,hm'.rest.size,fun b hlt hne=>hm'.rest.block b hlt (by simp;intro q;exact hne (by rw[q]))⟩
  refine⟨v,k',hr,hpl,by rw[(pure_den hpl ρ' 0).1],⟨?_,?_⟩,hgr⟩
  ·exact (ht.row.keep fun b hb=>hgr.block b hb.2 (by intro q;injection q with q;exact hb.1 q)).more fun b hb=>⟨hb.1,Nat.lt_of_lt_of_le hb.2 hgr.size⟩
  ·simpa [den1,dA_whole,dS_whole,e1,gpl] using hb
def ctGen (R:List Int→Cfg→St→List Value→Int→Value→Int→Prop) (pre:Cfg→St→List Value→Int→Prop):CT:=fun vs mem nx K=>∃ i r cap zs k N x c M y s args,vs=ptr i::cfgV N x c::stV M y s::args∧(lk mem i=some (tapeB r (zs:List Int).length cap k)∧lk mem r=some (intRow zs))∧keeps mem (cfgM N c)∧keeps mem (stM M s)∧
 (zs.length≤400∧0≤k∧k≤900000)∧pre c s args k∧∀ z k',R zs c s args k z k'→K z ((i,tapeB r zs.length cap k')::mem) nx
theorem genOk {f : FuncId} {R : List Int → Cfg → St → List Value → Int → Value → Int → Prop} {pre : Cfg → St → List Value → Int → Prop} (ent : ((Tryz.prog).funcs[f]?).map (fun fn => (fn.name == "runtime.NumGoroutine", fn.body.isNone)) = some (false, false))
  (hpre:∀ c s args k,pre c s args k→∀ v ∈ args,pureV v)
  (h:∀ args g A cap zs k x c y s w,zs.length≤400→0≤k→k≤900000→pre c s args k→TpAt w g A cap zs k→CfgOk w (fun b=>b≠g∧b<w.heap.size) x c→StOk w (fun b=>b≠g∧b<w.heap.size) y s→
   Calls Tryz.prog f (.pointer (some ⟨g,0,none⟩)::.agg (cfgC x c)::.agg (stC y s)::args).toArray w fun e w'=>∃ v k',R zs c s args k v k'∧pureV v∧e=.returned v∧TpAt w' g A cap zs k'∧w.grownBy w' (some g)):CSound Tryz.prog f (ctGen R pre):=
 ⟨ent,fun {C ρ fr mem nx a w vs K} hc hs hv=>by
  obtain⟨i,r,cap,zs,k,N,x,c,M,y,s,args,rfl,⟨hi,hr⟩,hkc,hks,⟨hz,hk0,hk1⟩,hp,hK⟩:=hc
  obtain⟨g,hA,ht,hok⟩:=hs.tape hi hr
  have hargs:=hpre c s args k hp
  have hvs:(ptr i::cfgV N x c::stV M y s::args).map (den ρ)=.pointer (some ⟨g,0,none⟩)::.agg (cfgC (cfgX ρ N x) c)::.agg (stC (stX ρ M y) s)::args:=by
   rw[List.map_cons,List.map_cons,List.map_cons,den_cfg,den_st]
   refine congr (congrArg List.cons ?_) (congr (congrArg List.cons rfl) (congr (congrArg List.cons rfl) ?_))
   ·simp[den,den2,den1,dA_whole,dS_whole,hA]
   ·conv=>rhs;rw[← List.map_id args]
    exact List.map_congr_left fun v hv=>(pure_den (hargs v hv) _ 0).1
  rw[hvs]
  have hS:∀ b,b<w.heap.size→(∀ j t cs,lk mem j=some (.box t cs)→bno ρ j≠some b)→(fun b=>b≠g∧b<w.heap.size) b:=fun b hlt hb=>⟨by rintro rfl;exact hb i _ _ hi (by simp[bno,hA]),hlt⟩
  refine (h args g (ρ r).A cap zs k (cfgX ρ N x) c (stX ρ M y) s w hz hk0 hk1 hp ht (hs.cfg hkc hS) (hs.st hks hS)).mono ?_
  rintro e w' ⟨v,k',hR,hpl,rfl,ht',hg⟩
  refine⟨v,_,nx,ρ,by rw[(pure_den hpl ρ 0).1],hK v k' hR,hs.grownBox (cs':=[slc r zs.length cap,.int .i64 k']) hi hA hg ?_ ?_,(pure_den hpl ρ nx).2,ExtS.refl _ _⟩
  ·simpa [den1,dA_whole,dS_whole] using ht'.blk
  ·intro u hu
   simp at hu
   rcases hu with rfl | rfl
   ·exact hok
   ·trivial⟩
def ctNone:CT:=fun vs mem nx K=>∃ kind tick,vs=[.int .i64 kind,.int .i64 tick]∧K (.agg #[.int .i64 kind,.int .i64 tick,.int .i64 (-1),.int .i64 (-1),.int .i64 (-1),.int .i64 0,.int .i64 0,.int .i64 0,.int .i64 0]) mem nx
theorem noneOk:CSound Tryz.prog 150 ctNone:=⟨by kernel_rfl,fun {C ρ fr mem nx a w vs K} hc hs hv=>by
 obtain⟨kind,tick,rfl,hK⟩:=hc
 refine (mkNone_any kind tick w).mono ?_
 rintro e w' ⟨rfl,hb⟩
 have hp:pureV (.agg #[.int .i64 kind,.int .i64 tick,.int .i64 (-1),.int .i64 (-1),.int .i64 (-1),.int .i64 0,.int .i64 0,.int .i64 0,.int .i64 0]):=pure_ent ⟨kind,tick,-1,-1,-1,0,0,0,0⟩
 exact⟨_,mem,nx,ρ,by rw[(pure_den hp ρ 0).1];rfl,hK,hs.later hb,(pure_den hp ρ nx).2,ExtS.refl _ _⟩⟩
def ctHas:CT:=fun vs mem nx K=>∃ set i,vs=[.int .i64 set,.int .i64 i]∧(0≤set∧set<4294967296)∧K (.bool (hasB set i)) mem nx
theorem hasOk:CSound Tryz.prog 147 ctHas:=CSound.val (by kernel_rfl) (by
 rintro vs mem nx K ⟨set,i,rfl,hn,hK⟩
 refine⟨_,hK,trivial,rfl,fun ρ w=>?_⟩
 refine (r4Has_any set i w hn.1 hn.2).mono ?_
 rintro e w' ⟨rfl,rfl⟩
 exact⟨rfl,Below.refl _ _⟩)
def platF:FT:=[(39,ctNext),(40,ctRange),(150,ctNone),(147,ctHas)]
theorem platFok:FTok Tryz.prog platF:=ft_cons nextOk (ft_cons rangeOk (ft_cons noneOk (ft_cons hasOk ft_nil)))
def platD:List (Nat×DQ):=[
 (17,{ k:=7,L:=[14],pre:=[(0,false),(1,false),(2,false),(3,false),(4,true),(5,false),(6,true)] }),
 (20,{ k:=4,L:=[14],pre:=[(0,false),(1,false),(2,false),(3,true)] }),
 (1000030,{ k:=15,L:=[12],sl:=[8,9] })]
def EntR (k:Int) (v:Value) (k':Int):Prop:=(∃ en,v=entV' en)∧k≤k'∧k'≤k+20
set_option maxRecDepth 100000 in
theorem plat_sx (cap:Nat) (zs:List Int) (k tick:Int) (x:CfgK) (c:Cfg) (y:StK) (s:St) (hz:zs.length≤400) (hk:0≤k∧k≤990000) (hV:CfgV c) (hI:StInv c s) (ht:0≤tick∧tick≤2147483648) :
  sx tt platF platD (bodyOf Tryz.f149) (argF 0 (ptr 0::cfgV CN0 x c::stV SN0 y s::[.int .i64 tick])) ((0,tapeB 1 zs.length cap k)::(1,intRow zs)::(cfgM CN0 c++stM SN0 s)) 10
   (endx tt Tryz.f149.results.toList fun v mem' _=>∃ k',EntR k v k'∧pureV v∧lk mem' 0=some (tapeB 1 zs.length cap k')):=by
 have hnc:=hV.nc
 have hnv:=hV.nv
 have hlc:=hI.lc
 have hls:=hV.lease
 have hbk:=hV.bake
 have hrg:=hV.reg
 have hev:=hI.evac
 refine⟨_,_,rfl,?_⟩
 refine⟨0,1,cap,zs,_,_,rfl,⟨rfl,rfl⟩,⟨hz,by omega,by omega⟩,⟨_,rfl,by omega,by omega⟩,?_⟩
 rintro _ k1 ⟨_,r1,hnn,rfl,⟨hr1,hk1⟩⟩
 cases hnn
 refine⟨⟨Nat.le_refl _,by omega,by omega⟩,?_⟩
 refine⟨Ent×Int,fun _=>[],fun y=>[(0,tapeB 1 zs.length cap y.2),(13,.box 56 [.int .i64 y.1.kind,.int .i64 y.1.tick,.int .i64 y.1.tenant,.int .i64 y.1.cell,.int .i64 y.1.other,.int .i64 y.1.epoch,.int .i64 y.1.since,.int .i64 y.1.till,.int .i64 y.1.n])],fun y=>k≤y.2∧y.2≤k+10,?_,?_⟩
 ·refine⟨0,1,cap,zs,_,_,rfl,⟨rfl,rfl⟩,⟨hz,by omega,by omega⟩,⟨_,rfl,by omega,by omega⟩,?_⟩
  rintro _ k2 ⟨_,r2,hnn,rfl,⟨hr2,hk2⟩⟩
  cases hnn
  refine⟨fun _=>?_,fun _=>?_⟩
  ·refine⟨0,1,cap,zs,_,_,rfl,⟨rfl,rfl⟩,⟨hz,by omega,by omega⟩,⟨_,_,rfl,by omega,by omega,by omega⟩,?_⟩
   rintro _ k3 ⟨_,_,r3,hnn,rfl,hr3,hk3⟩
   cases hnn
   exact⟨(⟨_,_,_,_,_,_,_,_,_⟩,_),⟨by omega,by omega⟩,⟨rfl,rfl,trivial⟩,⟨rfl,rfl,rfl,trivial⟩⟩
  refine⟨fun _=>?_,fun _=>?_⟩
  ·exact⟨(⟨_,_,_,_,_,_,_,_,_⟩,_),⟨by omega,by omega⟩,⟨rfl,rfl,trivial⟩,⟨rfl,rfl,rfl,trivial⟩⟩
  refine⟨fun _=>?_,fun _=>?_⟩
  ·refine⟨fun _=>?_,fun h=>nomatch h⟩
   refine⟨0,1,cap,zs,_,_,rfl,⟨rfl,rfl⟩,⟨hz,by omega,by omega⟩,⟨_,rfl,by omega,by omega⟩,?_⟩
   rintro _ k3 ⟨_,r3,hnn,rfl,⟨hr3,hk3⟩⟩
   cases hnn
   exact⟨(⟨_,_,_,_,_,_,_,_,_⟩,_),⟨by omega,by omega⟩,⟨rfl,rfl,trivial⟩,⟨rfl,rfl,rfl,trivial⟩⟩
  refine⟨fun _=>?_,fun _=>?_⟩
  ·refine⟨fun _=>?_,fun h=>nomatch h⟩
   refine⟨0,1,cap,zs,_,_,rfl,⟨rfl,rfl⟩,⟨hz,by omega,by omega⟩,⟨_,rfl,by omega,by omega⟩,?_⟩
   rintro _ k3 ⟨_,r3,hnn,rfl,⟨hr3,hk3⟩⟩
   cases hnn
   exact⟨(⟨_,_,_,_,_,_,_,_,_⟩,_),⟨by omega,by omega⟩,⟨rfl,rfl,trivial⟩,⟨rfl,rfl,rfl,trivial⟩⟩
  refine⟨fun _=>?_,fun _=>?_⟩
  ·refine⟨0,1,cap,zs,_,_,rfl,⟨rfl,rfl⟩,⟨hz,by omega,by omega⟩,⟨_,rfl,by omega,by omega⟩,?_⟩
   rintro _ k3 ⟨_,r3,hnn,rfl,⟨hr3,hk3⟩⟩
   cases hnn
   exact⟨(⟨_,_,_,_,_,_,_,_,_⟩,_),⟨by omega,by omega⟩,⟨rfl,rfl,trivial⟩,⟨rfl,rfl,rfl,trivial⟩⟩
  refine⟨fun _=>?_,fun _=>?_⟩
  ·refine⟨fun _=>?_,fun h=>nomatch h⟩
   refine⟨⟨rfl,trivial⟩,⟨rfl,trivial⟩,?_⟩
   refine⟨0,1,cap,zs,_,_,rfl,⟨rfl,rfl⟩,⟨hz,by omega,by omega⟩,⟨_,rfl,by omega,by omega⟩,?_⟩
   rintro _ k3 ⟨_,r3,hnn,rfl,⟨hr3,hk3⟩⟩
   cases hnn
   exact⟨(⟨_,_,_,_,_,_,_,_,_⟩,_),⟨by omega,by omega⟩,⟨rfl,rfl,trivial⟩,⟨rfl,rfl,rfl,trivial⟩⟩
  refine⟨fun _=>?_,fun _=>?_⟩
  ·refine⟨fun _=>?_,fun h=>nomatch h⟩
   refine⟨⟨rfl,trivial⟩,⟨rfl,trivial⟩,?_⟩
   refine⟨0,1,cap,zs,_,_,rfl,⟨rfl,rfl⟩,⟨hz,by omega,by omega⟩,⟨_,rfl,by omega,by omega⟩,?_⟩
   rintro _ k3 ⟨_,r3,hnn,rfl,⟨hr3,hk3⟩⟩
   cases hnn
   exact⟨(⟨_,_,_,_,_,_,_,_,_⟩,_),⟨by omega,by omega⟩,⟨rfl,rfl,trivial⟩,⟨rfl,rfl,rfl,trivial⟩⟩
  refine⟨fun _=>?_,fun _=>?_⟩
  ·refine⟨⟨rfl,trivial⟩,⟨rfl,trivial⟩,?_⟩
   refine⟨0,1,cap,zs,_,_,rfl,⟨rfl,rfl⟩,⟨hz,by omega,by omega⟩,⟨_,rfl,by omega,by omega⟩,?_⟩
   rintro _ k3 ⟨_,r3,hnn,rfl,⟨hr3,hk3⟩⟩
   cases hnn
   exact⟨(⟨_,_,_,_,_,_,_,_,_⟩,_),⟨by omega,by omega⟩,⟨rfl,rfl,trivial⟩,⟨rfl,rfl,rfl,trivial⟩⟩
  refine⟨fun _=>?_,fun _=>?_⟩
  ·refine⟨⟨rfl,trivial⟩,?_⟩
   refine⟨0,1,cap,zs,_,_,rfl,⟨rfl,rfl⟩,⟨hz,by omega,by omega⟩,⟨_,rfl,by rw[wrapi (by omega)];omega,by rw[wrapi (by omega)];omega⟩,?_⟩
   rintro _ k3 ⟨_,r3,hnn,rfl,⟨hr3,hk3⟩⟩
   cases hnn
   exact⟨(⟨_,_,_,_,_,_,_,_,_⟩,_),⟨by omega,by omega⟩,⟨rfl,rfl,trivial⟩,⟨rfl,rfl,rfl,trivial⟩⟩
  refine⟨fun _=>?_,fun _=>?_⟩
  ·refine⟨0,1,cap,zs,_,_,rfl,⟨rfl,rfl⟩,⟨hz,by omega,by omega⟩,⟨_,rfl,by omega,by omega⟩,?_⟩
   rintro _ k3 ⟨_,r3,hnn,rfl,⟨hr3,hk3⟩⟩
   cases hnn
   refine⟨_,_,rfl,⟨by omega,by omega⟩,?_⟩
   refine⟨fun _=>?_,fun _=>?_⟩
   ·exact⟨(⟨_,_,_,_,_,_,_,_,_⟩,_),⟨by omega,by omega⟩,⟨rfl,rfl,trivial⟩,⟨rfl,rfl,rfl,trivial⟩⟩
   ·exact⟨(⟨_,_,_,_,_,_,_,_,_⟩,_),⟨by omega,by omega⟩,⟨rfl,rfl,trivial⟩,⟨rfl,rfl,rfl,trivial⟩⟩
  refine⟨fun _=>?_,fun _=>?_⟩
  ·refine⟨fun _=>?_,fun _=>?_⟩
   ·exact⟨(⟨_,_,_,_,_,_,_,_,_⟩,_),⟨by omega,by omega⟩,⟨rfl,rfl,trivial⟩,⟨rfl,rfl,rfl,trivial⟩⟩
   ·exact⟨(⟨_,_,_,_,_,_,_,_,_⟩,_),⟨by omega,by omega⟩,⟨rfl,rfl,trivial⟩,⟨rfl,rfl,rfl,trivial⟩⟩
  refine⟨0,1,cap,zs,_,_,rfl,⟨rfl,rfl⟩,⟨hz,by omega,by omega⟩,⟨_,rfl,by omega,by omega⟩,?_⟩
  rintro _ k3 ⟨_,r3,hnn,rfl,⟨hr3,hk3⟩⟩
  cases hnn
  exact⟨(⟨_,_,_,_,_,_,_,_,_⟩,_),⟨by omega,by omega⟩,⟨rfl,rfl,trivial⟩,⟨rfl,rfl,rfl,trivial⟩⟩
 ·rintro⟨en,k2⟩ hk2
  refine⟨⟨by decide,rfl,rfl⟩,?_⟩
  exact⟨k2,⟨⟨en,rfl⟩,by omega,by omega⟩,pure_ent en,rfl⟩
def prePlat (c:Cfg) (s:St) (args:List Value) (k:Int):Prop:=(CfgV c∧StInv c s)∧∃ tick,args=[.int .i64 tick]∧0≤tick∧tick≤2147483648
def ctPlatform:CT:=ctGen (fun _ _ _ _=>EntR) prePlat
theorem platformOk:CSound Tryz.prog 149 ctPlatform:=genOk (by kernel_rfl) (by
  rintro c s args k ⟨-,tick,rfl,-⟩ v hv
  simp at hv
  subst hv
  trivial) (by
 rintro args g A cap zs k x c y s w hz hk0 hk1 ⟨⟨hV,hI⟩,tick,rfl,h0,h1⟩ ht hc hs
 refine gen_calls platFok Tryz.func149 rfl (D:=platD) (by kernel_rfl) rfl (fun v hv=>by simp at hv;subst hv;trivial) g A cap zs k x c y s w ht hc hs (R:=EntR k) ?_
 exact plat_sx cap zs k tick _ c _ s hz ⟨hk0,by omega⟩ hV hI ⟨h0,h1⟩)
theorem r12Copied_calls (y:StA) (s:St) (w:World) (hs:StOk w (·<w.heap.size) y s) (hm:s.tenants.length≤1000000) (hm2:s.cells.length≤1000000) :
  Calls Tryz.prog 135 #[.agg (stC y s)] w fun e w'=>∃ y2,e=.returned (.agg (stC y2 s))∧StOwn2 w.heap.size w' y2 s∧Below w.heap.size w w':=by
 have:=rd_callsM ttOk (ft_nil.i _) Tryz.func135 rfl (D:=[]) (by kernel_rfl) (vs:=[stV SN1 (sk y) s]) rfl noX noC y s noA noS w (noC_ok _ _) hs (noS_ok w _) (fun v hv=>by
  simp only[List.mem_cons,List.not_mem_nil,or_false] at hv
  rcases hv with rfl
  exact rpl_st_ok noX noC y s noA noS) (copied_sx (sk y) s hm hm2)
 rw[List.map_cons,rpl_st] at this
 refine this.mono ?_
 rintro e w' ⟨v,mem',nx',ρ',rfl,⟨T,Cc,rT,rC,hne,rfl,hT,hC⟩,hv,hm',hb⟩
 obtain⟨y2,e1,e2⟩:=hm'.own2 rfl hne hT hC
 exact⟨y2,congrArg Ending.returned e1,e2,hb⟩
def ctCopied:CT:=fun vs mem nx K=>∃ M y s,vs=[stV M y s]∧(HasRow mem M.t 12 tsC default s.tenants∧HasRow mem M.c 4 csC default s.cells)∧(s.tenants.length≤1000000∧s.cells.length≤1000000)∧∀ y2,K (stV ⟨nx+1,nx,0⟩ y2 s) (stMO ⟨nx+1,nx,0⟩ s++mem) (nx+2)
theorem copiedOk:CSound Tryz.prog 135 ctCopied:=⟨by kernel_rfl,fun {C ρ fr mem nx a w vs K} hc hs hv=>by
 obtain⟨M,y,s,rfl,⟨h1,h2⟩,⟨hm,hm2⟩,hK⟩:=hc
 rw[List.map_cons,den_st]
 refine (r12Copied_calls (stX ρ M y) s w (hs.stRow h1 h2) hm hm2).mono ?_
 rintro e w' ⟨y2,rfl,ho,hb⟩
 obtain⟨q1,q2,q3,q4⟩:=hs.addOwnSt hb ho
 exact⟨_,_,_,_,by rw[q2],hK ⟨y2.ct,y2.cc⟩,q1,q3,q4⟩⟩
/-! ref12.no,together -/
abbrev stZ:Value:=.agg #[zi,zi,zs0,zs0,zi,zi,zi,zi]
theorem CSound.pure {f : FuncId} {ct : CT} (ent : ((Tryz.prog).funcs[f]?).map (fun fn => (fn.name == "runtime.NumGoroutine", fn.body.isNone)) = some (false, false))
  (h:∀ vs mem nx K,ct vs mem nx K→∃ v,K v mem nx∧(∀ ρ n,den ρ v=v∧okV ρ n v)∧∀ ρ w,Calls Tryz.prog f (vs.map (den ρ)).toArray w fun e w'=>e=.returned v∧Below w.heap.size w w'):CSound Tryz.prog f ct:=
 ⟨ent,fun {C ρ fr mem nx a w vs K} hc hs hv=>by
  obtain⟨v,hK,hp,hcalls⟩:=h vs mem nx K hc
  refine (hcalls ρ w).mono ?_
  rintro e w' ⟨rfl,hb⟩
  exact⟨v,mem,nx,ρ,by rw[(hp ρ nx).1],hK,hs.later hb,(hp ρ nx).2,ExtS.refl _ _⟩⟩
def ctNo:CT:=fun vs mem nx K=>∃ e,vs=[.int .i64 e]∧K (.tuple #[stZ,.int .i64 e]) mem nx
theorem noOk:CSound Tryz.prog 134 ctNo:=CSound.pure (by kernel_rfl) (by
 rintro vs mem nx K ⟨e,rfl,hK⟩
 refine⟨_,hK,fun ρ n=>⟨by simp[den,den2,den1],fun u hu=>?_⟩,fun ρ w=>?_⟩
 ·simp at hu
  rcases hu with rfl | rfl
  ·intro u hu
   simp at hu
   rcases hu with rfl | rfl | rfl<;>trivial
  ·trivial
 ·have:=rd_callsM ttOk (ft_nil.i _) Tryz.func134 rfl (D:=[]) (by kernel_rfl) (vs:=[.int .i64 e]) rfl noX noC noA noS noA noS w (noC_ok _ _) (noS_ok w _) (noS_ok w _) (fun v hv=>by simp at hv;subst hv;trivial) (R:=fun v _ _=>v=.tuple #[stZ,.int .i64 e]) rfl
  refine this.mono ?_
  rintro e2 w' ⟨v,mem',nx',ρ',rfl,rfl,-,-,hb⟩
  exact⟨by simp[den,den2,den1],hb⟩)
def togB (c:Cfg) (a b:Int):Bool:=decide (0≤a)&&decide (0≤b)&&!apartB c a b
def tgF:FT:=[(182,ctApart)]
theorem tgFok:FTok Tryz.prog tgF:=ft_cons apartOk ft_nil
set_option maxRecDepth 100000 in
theorem together_sx (x:CfgK) (c:Cfg) (a b:Int) (hV:CfgV c) :
  sx tt tgF [] (bodyOf Tryz.f176) (argF 0 [cfgV CN1 x c,.int .i64 a,.int .i64 b]) (rdM c noS noS) 10 (endx tt Tryz.f176.results.toList fun v _ _=>v=.bool (togB c a b)∧pureV v):=by
 unfold togB
 refine⟨fun h0=>?_,fun h0=>?_⟩
 ·refine⟨fun h1=>?_,fun h1=>?_⟩
  ·refine⟨CN1,x,c,a,b,rfl,by repeat (first | exact trivial | refine⟨rfl,?_⟩),hV,?_⟩
   refine⟨?_,trivial⟩
   have e0:decide (0≤a)=true:=h0
   have e1:decide (0≤b)=true:=h1
   rw[e0,e1]
   rfl
  ·refine⟨?_,trivial⟩
   have e0:decide (0≤a)=true:=h0
   have e1:decide (0≤b)=false:=h1
   rw[e0,e1]
   rfl
 ·refine⟨(fun h=>nomatch h),fun _=>?_⟩
  refine⟨?_,trivial⟩
  have e0:decide (0≤a)=false:=h0
  rw[e0]
  rfl
theorem r12Together_any (x:CfgA) (c:Cfg) (a b:Int) (w:World) (hV:CfgV c) (hc:CfgOk w (·<w.heap.size) x c):Calls Tryz.prog 176 #[.agg (cfgC x c),.int .i64 a,.int .i64 b] w fun r w'=>r=.returned (.bool (togB c a b))∧Below w.heap.size w w':=by
 have:=rd_calls tgFok Tryz.func176 rfl (D:=[]) (by kernel_rfl) (vs:=[cfgV CN1 (ck x) c,.int .i64 a,.int .i64 b]) rfl x c noA noS noA noS w hc (noS_ok w _) (noS_ok w _) (fun v hv=>by
  simp only[List.mem_cons,List.not_mem_nil,or_false] at hv
  rcases hv with rfl | rfl | rfl
  ·exact rpl_cfg_ok x c noA noS noA noS
  ·trivial
  ·trivial) (R:=fun v=>v=.bool (togB c a b)) (together_sx (ck x) c a b hV)
 rw[List.map_cons,rpl_cfg] at this
 refine this.mono ?_
 rintro e w' ⟨v,rfl,-,rfl,hb⟩
 exact⟨rfl,hb⟩
def ctTogether:CT:=fun vs mem nx K=>∃ N x c a b,vs=[cfgV N x c,.int .i64 a,.int .i64 b]∧(keeps mem (cfgM N c))∧(CfgV c)∧K (.bool (togB c a b)) mem nx
theorem togetherOk:CSound Tryz.prog 176 ctTogether:=(ptsOk (R:=fun l z=>∃ c a b,l=[.cf c,.vl (.int .i64 a),.vl (.int .i64 b)]∧z=.bool (togB c a b)) (pre:=fun l=>∃ c a b,l=[.cf c,.vl (.int .i64 a),.vl (.int .i64 b)]∧(CfgV c)) (by kernel_rfl) (by
 rintro ps w ⟨c,a,b,hps,hpre⟩ hok
 obtain⟨x,ps0,rfl,hps0⟩:=dt_c hps
 obtain⟨ps1,rfl,hps1⟩:=dt_v hps0
 obtain⟨ps2,rfl,hps2⟩:=dt_v hps1
 obtain rfl:=dt_nil hps2
 have hpc:=hok (.cf x c) (by simp)
 refine (r12Together_any x c a b w hpre hpc).mono ?_
 rintro e w' ⟨rfl,hb⟩
 exact⟨_,⟨c,a,b,rfl,rfl⟩,trivial,rfl,hb⟩)).mono (by
 rintro vs mem nx K ⟨N,x,c,a,b,rfl,hk,hpre,hK⟩
 exact⟨[.cf N x c,.vl _,.vl _],rfl,⟨hk,trivial,trivial,trivial⟩,⟨_,_,_,rfl,hpre⟩,by rintro z ⟨c',a',b',hl,hz⟩;cases hl;subst hz;exact hK⟩)
def ctValid6:CT:=fun vs mem nx K=>∃ N x c e,vs=[cfgV N x c,entV' e]∧keeps mem (cfgM N c)∧CfgV c∧K (.bool (entV c e)) mem nx
theorem valid6Ok:CSound Tryz.prog 133 ctValid6:=⟨by kernel_rfl,fun {C ρ fr mem nx a w vs K} hc hs hv=>by
 obtain⟨N,x,c,e,rfl,hk,hV,hK⟩:=hc
 have e0:([cfgV N x c,entV' e].map (den ρ)).toArray=#[.agg (cfgC (cfgX ρ N x) c),.agg (entC e).toArray]:=by
  rw[List.map_cons,den_cfg]
  simp[den,den2,den1,entC]
 rw[e0]
 refine (r6Valid_any (cfgX ρ N x) c e w hV).mono ?_
 rintro r w' ⟨rfl,hb⟩
 exact⟨.bool (entV c e),mem,nx,ρ,rfl,hK,hs.later hb,trivial,ExtS.refl _ _⟩⟩
def ctRegOf:CT:=fun vs mem nx K=>∃ N x c k,vs=[cfgV N x c,.int .i64 k]∧(keeps mem (cfgM N c))∧(CfgV c)∧K (.int .i64 (regionOf c k)) mem nx
theorem regOfOk:CSound Tryz.prog 192 ctRegOf:=(ptsOk (R:=fun l z=>∃ c k,l=[.cf c,.vl (.int .i64 k)]∧z=.int .i64 (regionOf c k)) (pre:=fun l=>∃ c k,l=[.cf c,.vl (.int .i64 k)]∧(CfgV c)) (by kernel_rfl) (by
 rintro ps w ⟨c,k,hps,hpre⟩ hok
 obtain⟨x,ps0,rfl,hps0⟩:=dt_c hps
 obtain⟨ps1,rfl,hps1⟩:=dt_v hps0
 obtain rfl:=dt_nil hps1
 have hpc:=hok (.cf x c) (by simp)
 refine (r4RegionOf_any x c k w hpre hpc).mono ?_
 rintro e w' ⟨rfl,hb⟩
 exact⟨_,⟨c,k,rfl,rfl⟩,trivial,rfl,hb⟩)).mono (by
 rintro vs mem nx K ⟨N,x,c,k,rfl,hk,hpre,hK⟩
 exact⟨[.cf N x c,.vl _],rfl,⟨hk,trivial,trivial⟩,⟨_,_,rfl,hpre⟩,by rintro z ⟨c',k',hl,hz⟩;cases hl;subst hz;exact hK⟩)
/-! Bytes: plain facts. -/
theorem wrapu64 (n:Int):IntKind.u64.wrap n=n % 18446744073709551616:=by
 simp[IntKind.wrap,IntKind.bits,IntKind.signed]
theorem wrapu8 (n:Int):IntKind.u8.wrap n=n % 256:=by
 simp[IntKind.wrap,IntKind.bits,IntKind.signed]
theorem wu64 {n:Int} (h:0≤n∧n<18446744073709551616):IntKind.u64.wrap n=n:=by rw[wrapu64];omega
theorem wu8 {n:Int} (h:0≤n∧n<256):IntKind.u8.wrap n=n:=by rw[wrapu8];omega
abbrev u8C (x:Int):List Value:=[.int .u8 x]
theorem u8C_plain:∀ x,∀ v ∈ u8C x,plain1 v:=fun x v hv=>by simp at hv;subst hv;trivial
def encU (u:Nat):List Int:=if u<128 then [(u:Int)] else ((u % 128+128:Nat):Int)::encU (u / 128)
termination_by u
decreasing_by omega
theorem encU_lt {u:Nat} (h:u<128):encU u=[(u:Int)]:=by rw[encU,if_pos h]
theorem encU_ge {u:Nat} (h:¬ u<128):encU u=((u % 128+128:Nat):Int)::encU (u / 128):=by rw[encU,if_neg h]
def codeI (n:Int):Int:=if 0≤n then 2 * n else -2 * n-1
def intBy (n:Int):List Int:=encU (codeI n).toNat
def in64 (n:Int):Prop:=-9223372036854775808≤n∧n<9223372036854775808
theorem codeI_bd {n:Int} (h:in64 n):0≤codeI n∧codeI n<18446744073709551616:=by
 unfold in64 at h
 unfold codeI
 split<;>omega
set_option maxRecDepth 100000 in
theorem or128_nat:∀ b:Fin 256,(BitVec.ofNat 8 b.val ||| 128#8).toNat=b.val % 128+128:=by decide
theorem or128 {u:Int} (h:0≤u):IntKind.u8.wrap ((BitVec.ofInt 8 (IntKind.u8.wrap u) ||| BitVec.ofInt 8 128).toNat:Int)=u % 128+128:=by
 rw[wrapu8 u]
 have hb:u % 256=(((u % 256).toNat:Nat):Int):=by omega
 have h2:=or128_nat ⟨(u % 256).toNat,by omega⟩
 rw[hb,BitVec.ofInt_natCast]
 have h3:(BitVec.ofInt 8 128)=128#8:=by decide
 rw[h3,h2,wu8 (by dsimp only;omega)]
 dsimp only
 omega
theorem not64 {x:Int} (h:0≤x∧x<18446744073709551616):IntKind.u64.wrap ((BitVec.ofInt 64 18446744073709551615 ^^^ BitVec.ofInt 64 x).toNat:Int)=18446744073709551615-x:=by
 have h1:BitVec.ofInt 64 18446744073709551615=BitVec.allOnes 64:=by decide
 have hx:x=((x.toNat:Nat):Int):=by omega
 rw[h1,BitVec.allOnes_xor,BitVec.toNat_not,hx,BitVec.ofInt_natCast,BitVec.toNat_ofNat,Nat.mod_eq_of_lt (by omega),wu64 (by omega)]
 omega
theorem shl1u {n:Int}:IntKind.u64.wrap (IntKind.u64.wrap n * 2 ^ min (1:Int).toNat IntKind.u64.bits)=(2 * n) % 18446744073709551616:=by
 have:(2:Int) ^ min (1:Int).toNat IntKind.u64.bits=2:=by decide
 rw[this,wrapu64,wrapu64]
 omega
theorem codeP_neg {n:Int} (h:in64 n) (h0:n<0):IntKind.u64.wrap ((BitVec.ofInt IntKind.u64.bits (if IntKind.u64.signed then -1 else IntKind.u64.max) ^^^ BitVec.ofInt IntKind.u64.bits (IntKind.u64.wrap (IntKind.u64.wrap n * 2 ^ min (1:Int).toNat IntKind.u64.bits))).toNat:Int)=codeI n:=by
 rw[shl1u]
 unfold in64 at h
 have e:(2 * n) % 18446744073709551616=2 * n+18446744073709551616:=by omega
 rw[e]
 have:=not64 (x:=2 * n+18446744073709551616) (by omega)
 refine Eq.trans this ?_
 unfold codeI
 rw[if_neg (by omega)]
 omega
theorem codeP_pos {n:Int} (h:in64 n) (h0:¬ n<0):IntKind.u64.wrap (IntKind.u64.wrap n * 2 ^ min (1:Int).toNat IntKind.u64.bits)=codeI n:=by
 rw[shl1u]
 unfold in64 at h
 unfold codeI
 rw[if_pos (by omega)]
 omega
theorem codeR_pos {n:Int} (h:in64 n) (h0:n≥0):IntKind.u64.wrap (2 * IntKind.u64.wrap n)=codeI n:=by
 unfold in64 at h
 rw[wrapu64 n,wrapu64]
 unfold codeI
 rw[if_pos h0]
 omega
theorem codeR_neg {n:Int} (h:in64 n) (h0:¬ n≥0):IntKind.u64.wrap (IntKind.u64.wrap (2 * IntKind.u64.wrap (IntKind.i64.wrap (0-IntKind.i64.wrap (n+1))))+1)=codeI n:=by
 unfold in64 at h
 rw[wrapi (n:=n+1) (by omega),wrapi (by omega),wrapu64,wrapu64,wrapu64]
 unfold codeI
 rw[if_neg h0]
 omega
theorem shr7 {u:Int} (h:0≤u):u.fdiv (2 ^ min (7:Int).toNat IntKind.u64.bits)=u / 128:=by
 have:(2:Int) ^ min (7:Int).toNat IntKind.u64.bits=128:=by decide
 rw[this,Int.fdiv_eq_ediv_of_nonneg _ (by omega)]
theorem byteR {u:Int} (h:0≤u):IntKind.u8.wrap (IntKind.u8.wrap (u.tmod 128)+128)=u % 128+128:=by
 rw[Int.tmod_eq_emod_of_nonneg h,wu8 (n:=u % 128) (by omega),wu8 (by omega)]
theorem quo128 {u:Int} (h:0≤u∧u<18446744073709551616):IntKind.u64.wrap (u.tdiv 128)=u / 128:=by
 rw[Int.tdiv_eq_ediv_of_nonneg h.1,wu64 (by omega)]
theorem encU_len:∀ (k u:Nat),u<128 ^ (k+1)→(encU u).length≤k+1
 | 0,u,h=>by rw[encU_lt (by simpa using h)];simp
 | k+1,u,h=>by
  by_cases hu:u<128
  ·rw[encU_lt hu];simp
  ·rw[encU_ge hu,List.length_cons]
   have:=encU_len k (u / 128) (by rw[Nat.pow_succ] at h;omega)
   omega
theorem intBy_len {n:Int} (h:in64 n):(intBy n).length≤10:=by
 have:=codeI_bd h
 exact encU_len 9 _ (by omega)
theorem encU_step {u:Int} (h0:0≤u) (h:¬ u<128):encU u.toNat=(u % 128+128)::encU (u / 128).toNat:=by
 rw[encU_ge (by omega)]
 congr 1
 ·omega
 ·congr 1
  omega
theorem encU_last {u:Int} (h0:0≤u) (h:u<128):encU u.toNat=[u]:=by
 rw[encU_lt (by omega)]
 congr 1
 omega
theorem el_snoc {s:List Int} {x:Int} {el el2:Nat→List Value} (h0:∀ k,k<s.length→el k=u8C (s.getD k 0)) (h1:∀ k,k<s.length→el2 k=el k) (h2:el2 (s.length+0)=u8C x):∀ k,k<(s++[x]).length→el2 k=u8C ((s++[x]).getD k 0):=by
 intro k hk
 rw[List.length_append] at hk
 by_cases hkn:k<s.length
 ·rw[h1 k hkn,h0 k hkn,List.getD_eq_getElem?_getD,List.getD_eq_getElem?_getD,List.getElem?_append_left hkn]
 ·obtain rfl:k=s.length:=by simp at hk;omega
  rw[Nat.add_zero] at h2
  rw[h2,List.getD_eq_getElem?_getD,List.getElem?_append_right (Nat.le_refl _),Nat.sub_self]
  rfl
end Go.Proofs.YtchhdflealgkaaaGreat
