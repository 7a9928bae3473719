import Derived.Test.YtchhdflealgkaaaGreatPp11
namespace Go.Proofs.YtchhdflealgkaaaGreat
open Go.RowKit
set_option linter.unusedSimpArgs false
set_option linter.unusedVariables false
def rightR (e:Ent) (nt nc nr nv:Int):Bool:=
 inR e.kind 1 16&&inR e.tick 0 1073741824&&placesR (hasK e.kind 116) (hasK e.kind 99) (hasK e.kind 67) (hasK e.kind 111) (hasK e.kind 114) e nt nc nr &&
  numbersR (hasK e.kind 101) (hasK e.kind 119) (hasK e.kind 118) (hasK e.kind 98) (hasK e.kind 109) (hasK e.kind 110) e nv
theorem rightR_eq (e:Ent) (nt nc nr nv:Int):rightR e nt nc nr nv=entOk nt nc nr nv e:=by
 obtain⟨kind,tick,tenant,cell,other,epoch,since,till,n⟩:=e
 by_cases hk:inR kind 1 16=true
 ·have hb:1≤kind∧kind≤16:=by simp[inR] at hk;omega
  have hk16:kind=1∨kind=2∨kind=3∨kind=4∨kind=5∨kind=6∨kind=7∨kind=8∨kind=9∨kind=10∨kind=11∨kind=12∨kind=13∨kind=14∨kind=15∨kind=16:=by omega
  clear hb hk
  rcases hk16 with rfl | rfl | rfl | rfl | rfl | rfl | rfl | rfl | rfl | rfl | rfl | rfl | rfl | rfl | rfl | rfl
  all_goals
   rw[Bool.eq_iff_iff]
   simp[rightR,entOk,placesR,numbersR,hasK,usesL,inS,inR,fT,fC,fO,fE,fW,fN]
   try omega
 ·have hk':inR kind 1 16=false:=by simpa using hk
  simp[rightR,entOk,hk']
set_option maxHeartbeats 2000000 in
set_option maxRecDepth 100000 in
theorem r6right_any (e:Ent) (nt nc nr nv:Int) (w:World) (hv:0≤nt) (hv2:nt≤100) (hw:0≤nc) (hw2:nc≤100) (hx:0≤nr) (hx2:nr≤100) (hy:0≤nv) (hy2:nv≤100) :
  Calls Tryz.prog 173 #[.agg (entC e).toArray,.int .i64 nt,.int .i64 nc,.int .i64 nr,.int .i64 nv] w fun x w'=>x=.returned (.bool (entOk nt nc nr nv e))∧Below w.heap.size w w':=by
 rw[← rightR_eq]
 by_cases hk:inR e.kind 1 16=true
 ·have hb:1≤e.kind∧e.kind≤16:=by simp[inR] at hk;omega
  by_cases ht:inR e.tick 0 1073741824=true
  ·have HP:=Lib.hid (fun W=>r6places_any e nt nc nr W hb.1 hb.2 hv hv2 hw hw2 hx hx2)
   have HN:=Lib.hid (fun W=>r6numbers_any e nv W hb.1 hb.2 hy hy2)
   have HR:Hid (rightR e nt nc nr nv=(placesR (hasK e.kind 116) (hasK e.kind 99) (hasK e.kind 67) (hasK e.kind 111) (hasK e.kind 114) e nt nc nr &&
    numbersR (hasK e.kind 101) (hasK e.kind 119) (hasK e.kind 118) (hasK e.kind 98) (hasK e.kind 109) (hasK e.kind 110) e nv)):=Lib.hid (by unfold rightR;rw[hk,ht];simp)
   clear hb
   generalize placesR _ _ _ _ _ _ _ _ _=pb at *
   generalize numbersR _ _ _ _ _ _ _ _=nb at *
   obtain⟨kind,tick,tenant,cell,other,epoch,since,till,n⟩:=e
   unfold entC at *
   simp only at *
   have hbx:=Blk.new w 56 #[.int .i64 kind,.int .i64 tick,.int .i64 tenant,.int .i64 cell,.int .i64 other,.int .i64 epoch,.int .i64 since,.int .i64 till,.int .i64 n]
   have hbel:=(Below.refl w.heap.size w).alloc (Nat.le_refl _) (.cells #[.int .i64 kind,.int .i64 tick,.int .i64 tenant,.int .i64 cell,.int .i64 other,.int .i64 epoch,.int .i64 since,.int .i64 till,.int .i64 n] 56)
   have c0:=hbx.cell' (i:=0) (v:=.int .i64 kind) rfl
   have c1:=hbx.cell' (i:=1) (v:=.int .i64 tick) rfl
   have c2:=hbx.cell' (i:=2) (v:=.int .i64 tenant) rfl
   have c3:=hbx.cell' (i:=3) (v:=.int .i64 cell) rfl
   have c4:=hbx.cell' (i:=4) (v:=.int .i64 other) rfl
   have c5:=hbx.cell' (i:=5) (v:=.int .i64 epoch) rfl
   have c6:=hbx.cell' (i:=6) (v:=.int .i64 since) rfl
   have c7:=hbx.cell' (i:=7) (v:=.int .i64 till) rfl
   have c8:=hbx.cell' (i:=8) (v:=.int .i64 n) rfl
   go_enter Tryz.func173,Tryz.ntmps173
   go_wp2_with (go_at_call 189;(with_reducible refine (r6in_any _ _ _ _).mono ?_);rintro x wq ⟨rfl,rfl⟩)
   refine (HP.out _).mono ?_
   rintro x w1 ⟨rfl,hb1⟩
   replace hbel:=hbel.trans (hb1.mono hbel.size)
   replace hbx:=hbx.below hb1 hbx.lt
   replace c0:=hbx.cell' (i:=0) (v:=.int .i64 kind) rfl
   replace c1:=hbx.cell' (i:=1) (v:=.int .i64 tick) rfl
   replace c2:=hbx.cell' (i:=2) (v:=.int .i64 tenant) rfl
   replace c3:=hbx.cell' (i:=3) (v:=.int .i64 cell) rfl
   replace c4:=hbx.cell' (i:=4) (v:=.int .i64 other) rfl
   replace c5:=hbx.cell' (i:=5) (v:=.int .i64 epoch) rfl
   replace c6:=hbx.cell' (i:=6) (v:=.int .i64 since) rfl
   replace c7:=hbx.cell' (i:=7) (v:=.int .i64 till) rfl
   replace c8:=hbx.cell' (i:=8) (v:=.int .i64 n) rfl
   clear hb1
   cases pb
   ·go_wp2
    go_ret
    exact⟨ret_bool (by rw[HR.out];rfl),hbel⟩
   ·go_wp2_with fail
    refine (HN.out _).mono ?_
    rintro x w2 ⟨rfl,hb2⟩
    replace hbel:=hbel.trans (hb2.mono hbel.size)
    clear hbx c0 c1 c2 c3 c4 c5 c6 c7 c8 hb2
    go_wp2
    go_ret
    exact⟨ret_bool (by rw[HR.out];rfl),hbel⟩
  ·have ht':inR e.tick 0 1073741824=false:=by simpa using ht
   have HR:Hid (rightR e nt nc nr nv=false):=Lib.hid (by unfold rightR;rw[hk,ht'];simp)
   obtain⟨kind,tick,tenant,cell,other,epoch,since,till,n⟩:=e
   unfold entC
   simp only at *
   go_enter Tryz.func173,Tryz.ntmps173
   go_wp2_with (go_at_call 189;(with_reducible refine (r6in_any _ _ _ _).mono ?_);rintro x wq ⟨rfl,rfl⟩)
   go_ret
   exact⟨ret_bool HR.out.symm,(Below.refl _ _).alloc (Nat.le_refl _) _⟩
 ·have hk':inR e.kind 1 16=false:=by simpa using hk
  have HR:Hid (rightR e nt nc nr nv=false):=Lib.hid (by unfold rightR;rw[hk'];simp)
  obtain⟨kind,tick,tenant,cell,other,epoch,since,till,n⟩:=e
  unfold entC
  simp only at *
  go_enter Tryz.func173,Tryz.ntmps173
  go_wp2_with (go_at_call 189;(with_reducible refine (r6in_any _ _ _ _).mono ?_);rintro x wq ⟨rfl,rfl⟩)
  go_ret
  exact⟨ret_bool HR.out.symm,(Below.refl _ _).alloc (Nat.le_refl _) _⟩
set_option maxHeartbeats 2000000 in
theorem r6Valid_any (x:CfgA) (c:Cfg) (e:Ent) (w:World) (hV:CfgV c) :
  Calls Tryz.prog 133 #[.agg (cfgC x c),.agg (entC e).toArray] w fun r w'=>r=.returned (.bool (entV c e))∧Below w.heap.size w w':=by
 obtain⟨az,cz,ac,cc,at_,ct,av,cv,ar,cr,ao,co⟩:=x
 have h1:=hV.nt
 have h2:=hV.nc
 have h3:=hV.reg
 have h4:=hV.nv
 have m1:min (c.tenants.length:Int) 32=c.tenants.length:=by omega
 have m2:min (c.cells.length:Int) 16=c.cells.length:=by omega
 have m3:min c.regions 4=c.regions:=by omega
 have m4:min (c.versions.length:Int) 30=c.versions.length:=by omega
 have HR:=Lib.hid (fun W=>r6right_any e c.tenants.length c.cells.length c.regions c.versions.length W (by omega) (by omega) (by omega) (by omega) (by omega) (by omega) (by omega) (by omega))
 clear hV
 obtain⟨kind,tick,tenant,cell,other,epoch,since,till,n⟩:=e
 unfold entC at *
 unfold cfgC
 simp only at *
 go_enter Tryz.func133,Tryz.ntmps133
 go_wp2_with fail
 refine (HR.out _).mono ?_
 rintro r w1 ⟨rfl,hb⟩
 have HB:=Lib.hid ((((Below.refl w.heap.size w).alloc (Nat.le_refl _) _).alloc (by simp) _).trans (hb.mono (by simp;omega)))
 clear hb m1 m2 m3 m4
 go_wp2
 go_ret
 exact⟨rfl,HB.out⟩
theorem CSound.mono {P:Program} {f:FuncId} {ct ct':CT} (h:CSound P f ct) (hi:∀ vs mem nx K,ct' vs mem nx K→ct vs mem nx K):CSound P f ct':=⟨h.ent,fun {C ρ fr mem nx a w vs K} hc hs hv=>h.run (hi vs mem nx K hc) hs hv⟩
def ctMay:CT:=fun vs mem nx K=>∃ N x c t k,vs=[cfgV N x c,.int .i64 t,.int .i64 k]∧(keeps mem (cfgM N c))∧(CfgV c)∧K (.bool (mayB c t k)) mem nx
theorem mayOk:CSound Tryz.prog 175 ctMay:=(ptsOk (R:=fun l z=>∃ c t k,l=[.cf c,.vl (.int .i64 t),.vl (.int .i64 k)]∧z=.bool (mayB c t k)) (pre:=fun l=>∃ c t k,l=[.cf c,.vl (.int .i64 t),.vl (.int .i64 k)]∧(CfgV c)) (by kernel_rfl) (by
 rintro ps w ⟨c,t,k,hps,hpre⟩ hok
 obtain⟨x,ps0,rfl,hps0⟩:=dt_c hps
 obtain⟨ps1,rfl,hps1⟩:=dt_v hps0
 obtain⟨ps2,rfl,hps2⟩:=dt_v hps1
 obtain rfl:=dt_nil hps2
 have hpc:=hok (.cf x c) (by simp)
 refine (r5May_any x c t k w hpre hpc).mono ?_
 rintro e w' ⟨rfl,hb⟩
 exact⟨_,⟨c,t,k,rfl,rfl⟩,trivial,rfl,hb⟩)).mono (by
 rintro vs mem nx K ⟨N,x,c,t,k,rfl,hk,hpre,hK⟩
 exact⟨[.cf N x c,.vl _,.vl _],rfl,⟨hk,trivial,trivial,trivial⟩,⟨_,_,_,rfl,hpre⟩,by rintro z ⟨c',t',k',hl,hz⟩;cases hl;subst hz;exact hK⟩)
def ctApart:CT:=fun vs mem nx K=>∃ N x c t k,vs=[cfgV N x c,.int .i64 t,.int .i64 k]∧(keeps mem (cfgM N c))∧(CfgV c)∧K (.bool (apartB c t k)) mem nx
theorem apartOk:CSound Tryz.prog 182 ctApart:=(ptsOk (R:=fun l z=>∃ c t k,l=[.cf c,.vl (.int .i64 t),.vl (.int .i64 k)]∧z=.bool (apartB c t k)) (pre:=fun l=>∃ c t k,l=[.cf c,.vl (.int .i64 t),.vl (.int .i64 k)]∧(CfgV c)) (by kernel_rfl) (by
 rintro ps w ⟨c,t,k,hps,hpre⟩ hok
 obtain⟨x,ps0,rfl,hps0⟩:=dt_c hps
 obtain⟨ps1,rfl,hps1⟩:=dt_v hps0
 obtain⟨ps2,rfl,hps2⟩:=dt_v hps1
 obtain rfl:=dt_nil hps2
 have hpc:=hok (.cf x c) (by simp)
 refine (r5Apart_any x c t k w hpre hpc).mono ?_
 rintro e w' ⟨rfl,hb⟩
 exact⟨_,⟨c,t,k,rfl,rfl⟩,trivial,rfl,hb⟩)).mono (by
 rintro vs mem nx K ⟨N,x,c,t,k,rfl,hk,hpre,hK⟩
 exact⟨[.cf N x c,.vl _,.vl _],rfl,⟨hk,trivial,trivial,trivial⟩,⟨_,_,_,rfl,hpre⟩,by rintro z ⟨c',t',k',hl,hz⟩;cases hl;subst hz;exact hK⟩)
set_option maxHeartbeats 1000000 in
theorem mkNone_any (kind tick:Int) (w:World):Calls Tryz.prog 150 #[.int .i64 kind,.int .i64 tick] w fun r w'=>r=.returned (.agg (entC ⟨kind,tick,-1,-1,-1,0,0,0,0⟩).toArray)∧Below w.heap.size w w':=by
 go_enter Tryz.func150,Tryz.ntmps150
 go_wp2
 refine bodyPost_ret (v:=.agg #[.int .i64 kind,.int .i64 tick,.int .i64 (-1),.int .i64 (-1),.int .i64 (-1),.int .i64 0,.int .i64 0,.int .i64 0,.int .i64 0]) (by simp[results,Tryz.results150,go_sem]) rfl ?_
 exact⟨rfl,(Below.refl _ _).alloc (Nat.le_refl _) _⟩
set_option maxHeartbeats 1000000 in
theorem mkLight_any (A:Option Addr) (n cp:Nat) (w:World) (hn:n≤maxLen):Calls Tryz.prog 8 #[.slice A n cp] w fun r w'=>r=.returned (.bool (decide (n≤200)))∧w=w':=by
 unfold maxLen at hn
 go_enter Tryz.func8,Tryz.ntmps8
 go_wp2
 go_ret
 refine⟨ret_bool ?_,rfl⟩
 rw[Bool.eq_iff_iff]
 simp
 try omega
def CN0:CN:=⟨2,3,4,5,6,7,3⟩
def SN0:SN:=⟨8,9,3⟩
def gpl (g:Nat) (A:Option Addr) (n:Nat) (x:CfgA) (c:Cfg) (y:StA) (s:St):Nat→Pl:=fun j=>match j with
 | 0=>⟨some ⟨g,0,none⟩,0,0,false,noSub⟩
 | 1=>⟨A,1,n,false,noSub⟩
 | 2=>⟨x.az,1,c.zones.length,false,noSub⟩
 | 3=>⟨x.ac,2,c.cells.length,false,noSub⟩
 | 4=>⟨x.at_,7,c.tenants.length,false,noSub⟩
 | 5=>⟨x.av,2,c.versions.length,false,noSub⟩
 | 6=>⟨x.ar,1,c.replicas.length,false,noSub⟩
 | 7=>⟨x.ao,1,c.observers.length,false,noSub⟩
 | 8=>⟨y.at_,12,s.tenants.length,false,noSub⟩
 | _=>⟨y.ac,4,s.cells.length,false,noSub⟩
set_option maxRecDepth 20000 in
theorem gen_calls {f:FuncId} {fn:Func} {F:FT} {D:List (Nat×DQ)} (hF:FTok Tryz.prog F) (hf:(Tryz.prog).funcs[f]?=some fn) (hb:fn.body=some (bodyOf fn)) (hcode:codeB fn.ntmps D (bodyOf fn)=true) {args:List Value} (hn:Nat.ble (args.length+3) fn.ntmps=true) (hargs:∀ v ∈ args,pureV v)
  (g:Nat) (A:Option Addr) (cap:Nat) (zs:List Int) (k:Int) (x:CfgA) (c:Cfg) (y:StA) (s:St) (w:World) (ht:TpAt w g A cap zs k) (hc:CfgOk w (fun b=>b≠g∧b<w.heap.size) x c) (hs:StOk w (fun b=>b≠g∧b<w.heap.size) y s) {R:Value→Int→Prop}
  (h:sx tt F D (bodyOf fn) (argF 0 (ptr 0::cfgV CN0 ⟨x.cz,x.cc,x.ct,x.cv,x.cr,x.co⟩ c::stV SN0 ⟨y.ct,y.cc⟩ s::args)) ((0,tapeB 1 zs.length cap k)::(1,intRow zs)::(cfgM CN0 c++stM SN0 s)) 10 (endx tt fn.results.toList fun v mem' _=>∃ k',R v k'∧pureV v∧lk mem' 0=some (tapeB 1 zs.length cap k'))) :
  Calls Tryz.prog f (.pointer (some ⟨g,0,none⟩)::.agg (cfgC x c)::.agg (stC y s)::args).toArray w fun e w'=>∃ v k',R v k'∧pureV v∧e=.returned v∧TpAt w' g A cap zs k'∧w.grownBy w' (some g):=by
 have hpc:CfgPl (gpl g A zs.length x c y s) CN0 x c:=⟨rfl,rfl,rfl,rfl,rfl,rfl⟩
 have hps:StPl (gpl g A zs.length x c y s) SN0 y s:=⟨rfl,rfl⟩
 have hrow:∀ C nx,BlkOk C (gpl g A zs.length x c y s) nx 1 w (intRow zs):=fun C nx=>row_of_rd (enc:=intC) (sz:=1) (fun _=>rfl) (by omega) intC_plain 0 rfl ht.row (fun b hb=>hb.2)
 have hblk:blksOk { w0:=w,bor:=[g],n0:=10,ρ0:=gpl g A zs.length x c y s,nt:=fn.ntmps } (gpl g A zs.length x c y s) 10 w ((1,intRow zs)::(cfgM CN0 c++stM SN0 s)):=
  ⟨⟨by omega,rfl,hrow _ _⟩,cfg_blks hpc hc (fun b hb=>hb.2) (by decide) (by have:=st_blks (C:={ w0:=w,bor:=[g],n0:=10,ρ0:=gpl g A zs.length x c y s,nt:=fn.ntmps }) (nx:=10) (r:=[]) hps hs (fun b hb=>hb.2) (by decide) trivial;exact this)⟩
 have hap:∀ j t sz n el,lk ((1,intRow zs)::(cfgM CN0 c++stM SN0 s)) j=some (.row t sz n el)→n=0∨bno (gpl g A zs.length x c y s) j≠some g:=by
  have one:∀ {α:Type} {enc:α→List Value} {sz:Nat} (hsz:∀ x,(enc x).length=sz) (hpos:0<sz) {l:List α} {Ar:Option Addr},Rd w (fun b=>b≠g∧b<w.heap.size) Ar (flat enc l)→l.length=0∨Ar.map (·.block)≠some g:=by
   intro α enc sz hsz hpos l Ar hrd
   by_cases h0:l.length=0
   ·exact .inl h0
   ·obtain⟨b,off,x,hA,hb,-,-⟩:=hrd.row hsz hpos (k:=0) (by omega)
    subst hA
    exact .inr (by simp;exact hb.1)
  intro j t sz n el hj
  rcases lk_cons hj with⟨rfl,q⟩ | ⟨_,hj⟩
  ·cases q;exact one (enc:=intC) (sz:=1) (fun _=>rfl) (by omega) ht.row
  rcases lk_cons hj with⟨rfl,q⟩ | ⟨_,hj⟩
  ·cases q;exact one (enc:=intC) (sz:=1) (fun _=>rfl) (by omega) hc.zones
  rcases lk_cons hj with⟨rfl,q⟩ | ⟨_,hj⟩
  ·cases q;exact one (enc:=pairC) (sz:=2) (fun _=>rfl) (by omega) hc.cells
  rcases lk_cons hj with⟨rfl,q⟩ | ⟨_,hj⟩
  ·cases q;exact one (enc:=tenC) (sz:=7) (fun _=>rfl) (by omega) hc.tenants
  rcases lk_cons hj with⟨rfl,q⟩ | ⟨_,hj⟩
  ·cases q;exact one (enc:=pairC) (sz:=2) (fun _=>rfl) (by omega) hc.versions
  rcases lk_cons hj with⟨rfl,q⟩ | ⟨_,hj⟩
  ·cases q;exact one (enc:=intC) (sz:=1) (fun _=>rfl) (by omega) hc.replicas
  rcases lk_cons hj with⟨rfl,q⟩ | ⟨_,hj⟩
  ·cases q;exact one (enc:=intC) (sz:=1) (fun _=>rfl) (by omega) hc.observers
  rcases lk_cons hj with⟨rfl,q⟩ | ⟨_,hj⟩
  ·cases q;exact one (enc:=tsC) (sz:=12) (fun _=>rfl) (by omega) hs.tenants
  rcases lk_cons hj with⟨rfl,q⟩ | ⟨_,hj⟩
  ·cases q;exact one (enc:=csC) (sz:=4) (fun _=>rfl) (by omega) hs.cells
  ·simp[lk] at hj
 have hm:=MemAt.one (ρ:=gpl g A zs.length x c y s) (nx:=10) (nt:=fn.ntmps) (w:=w) (mem:=(1,intRow zs)::(cfgM CN0 c++stM SN0 s)) (g:=g) (i:=0) (t:=138) (cs:=[slc 1 zs.length cap,.int .i64 k]) trivial (by omega) rfl
  ⟨g,rfl,by
   have:=ht.blk
   simpa [den1,dA_whole,dS_whole,gpl] using this,.inr (by simp),fun v hv=>by
    simp at hv
    rcases hv with rfl | rfl
    ·exact⟨show (1:Nat)<10 by decide,rfl⟩
    ·trivial⟩ hblk hap
 have hargs2:(ptr 0::cfgV CN0 ⟨x.cz,x.cc,x.ct,x.cv,x.cr,x.co⟩ c::stV SN0 ⟨y.ct,y.cc⟩ s::args).map (den (gpl g A zs.length x c y s))=.pointer (some ⟨g,0,none⟩)::.agg (cfgC x c)::.agg (stC y s)::args:=by
  rw[List.map_cons,List.map_cons,List.map_cons]
  refine congr (congrArg List.cons rfl) (congr (congrArg List.cons ?_) (congr (congrArg List.cons ?_) ?_))
  ·exact den_cfg _ CN0 _ c
  ·exact den_st _ SN0 _ s
  ··conv=>rhs;rw[← List.map_id args]
    exact List.map_congr_left fun v hv=>(pure_den (hargs v hv) _ 0).1
 rw[← hargs2]
 refine (calls_sx ttOk hF mixed hf hb hcode (vs:=ptr 0::cfgV CN0 ⟨x.cz,x.cc,x.ct,x.cv,x.cr,x.co⟩ c::stV SN0 ⟨y.ct,y.cc⟩ s::args) hn ⟨rfl,rfl⟩ rfl hm (fun v hv=>?_) h).mono ?_
 ·rcases List.mem_cons.1 hv with rfl | hv
  ·exact⟨⟨show (0:Nat)<10 by decide,rfl⟩,⟨g,0,rfl⟩,fun k hk=>by cases hk⟩
  ·rcases List.mem_cons.1 hv with rfl | hv
   ·intro u hu
    simp at hu
    rcases hu with rfl | rfl | rfl | rfl | rfl | rfl | rfl | rfl | rfl | rfl<;>first | trivial | exact⟨by decide,rfl⟩
   ·rcases List.mem_cons.1 hv with rfl | hv
    ·intro u hu
     simp at hu
     rcases hu with rfl | rfl | rfl | rfl | rfl | rfl | rfl | rfl<;>first | trivial | exact⟨by decide,rfl⟩
    ·exact (pure_den (hargs v hv) _ _).2
 ·rintro e w' ⟨v,mem',nx',ρ',rfl,⟨k',hr,hpl,hlk⟩,-,hm'⟩
  have e0:ρ' 0=gpl g A zs.length x c y s 0:=hm'.low 0 (show (0:Nat)<10 by decide)
  have e1:ρ' 1=gpl g A zs.length x c y s 1:=hm'.low 1 (show (1:Nat)<10 by decide)
  obtain⟨g',hA,hb,-,-⟩:=hm'.blk 0 _ hlk
  rw[e0] at hA
  cases hA
  have hgr:w.grownBy w' (some g):=⟨hm'.rest.os,hm'.rest.tape,hm'.rest.output,hm'.rest.size,fun b hlt hne=>hm'.rest.block b hlt (by simp;intro q;exact hne (by rw[q]))⟩
  refine⟨v,k',hr,hpl,by rw[(pure_den hpl ρ' 0).1],⟨?_,?_⟩,hgr⟩
  ·exact (ht.row.keep fun b hb=>hgr.block b hb.2 (by intro q;injection q with q;exact hb.1 q)).more fun b hb=>⟨hb.1,Nat.lt_of_lt_of_le hb.2 hgr.size⟩
  ·simpa [den1,dA_whole,dS_whole,e1,gpl] using hb
def ctGen (R:List Int→Cfg→St→List Value→Int→Value→Int→Prop) (pre:Cfg→St→List Value→Int→Prop):CT:=fun vs mem nx K=>∃ i r cap zs k N x c M y s args,vs=ptr i::cfgV N x c::stV M y s::args∧(lk mem i=some (tapeB r (zs:List Int).length cap k)∧lk mem r=some (intRow zs))∧keeps mem (cfgM N c)∧keeps mem (stM M s)∧
 (zs.length≤400∧0≤k∧k≤900000)∧pre c s args k∧∀ z k',R zs c s args k z k'→K z ((i,tapeB r zs.length cap k')::mem) nx
theorem genOk {f : FuncId} {R : List Int → Cfg → St → List Value → Int → Value → Int → Prop} {pre : Cfg → St → List Value → Int → Prop} (ent : ((Tryz.prog).funcs[f]?).map (fun fn => (fn.name == "runtime.NumGoroutine", fn.body.isNone)) = some (false, false))
  (hpre:∀ c s args k,pre c s args k→∀ v ∈ args,pureV v)
  (h:∀ args g A cap zs k x c y s w,zs.length≤400→0≤k→k≤900000→pre c s args k→TpAt w g A cap zs k→CfgOk w (fun b=>b≠g∧b<w.heap.size) x c→StOk w (fun b=>b≠g∧b<w.heap.size) y s→
   Calls Tryz.prog f (.pointer (some ⟨g,0,none⟩)::.agg (cfgC x c)::.agg (stC y s)::args).toArray w fun e w'=>∃ v k',R zs c s args k v k'∧pureV v∧e=.returned v∧TpAt w' g A cap zs k'∧w.grownBy w' (some g)):CSound Tryz.prog f (ctGen R pre):=
 ⟨ent,fun {C ρ fr mem nx a w vs K} hc hs hv=>by
  obtain⟨i,r,cap,zs,k,N,x,c,M,y,s,args,rfl,⟨hi,hr⟩,hkc,hks,⟨hz,hk0,hk1⟩,hp,hK⟩:=hc
  obtain⟨g,hA,ht,hok⟩:=hs.tape hi hr
  have hargs:=hpre c s args k hp
  have hvs:(ptr i::cfgV N x c::stV M y s::args).map (den ρ)=.pointer (some ⟨g,0,none⟩)::.agg (cfgC (cfgX ρ N x) c)::.agg (stC (stX ρ M y) s)::args:=by
   rw[List.map_cons,List.map_cons,List.map_cons,den_cfg,den_st]
   refine congr (congrArg List.cons ?_) (congr (congrArg List.cons rfl) (congr (congrArg List.cons rfl) ?_))
   ·simp[den,den2,den1,dA_whole,dS_whole,hA]
   ·conv=>rhs;rw[← List.map_id args]
    exact List.map_congr_left fun v hv=>(pure_den (hargs v hv) _ 0).1
  rw[hvs]
  have hS:∀ b,b<w.heap.size→(∀ j t cs,lk mem j=some (.box t cs)→bno ρ j≠some b)→(fun b=>b≠g∧b<w.heap.size) b:=fun b hlt hb=>⟨by rintro rfl;exact hb i _ _ hi (by simp[bno,hA]),hlt⟩
  refine (h args g (ρ r).A cap zs k (cfgX ρ N x) c (stX ρ M y) s w hz hk0 hk1 hp ht (hs.cfg hkc hS) (hs.st hks hS)).mono ?_
  rintro e w' ⟨v,k',hR,hpl,rfl,ht',hg⟩
  refine⟨v,_,nx,ρ,by rw[(pure_den hpl ρ 0).1],hK v k' hR,hs.grownBox (cs':=[slc r zs.length cap,.int .i64 k']) hi hA hg ?_ ?_,(pure_den hpl ρ nx).2,ExtS.refl _ _⟩
  ·simpa [den1,dA_whole,dS_whole] using ht'.blk
  ·intro u hu
   simp at hu
   rcases hu with rfl | rfl
   ·exact hok
   ·trivial⟩
def ctNone:CT:=fun vs mem nx K=>∃ kind tick,vs=[.int .i64 kind,.int .i64 tick]∧K (.agg #[.int .i64 kind,.int .i64 tick,.int .i64 (-1),.int .i64 (-1),.int .i64 (-1),.int .i64 0,.int .i64 0,.int .i64 0,.int .i64 0]) mem nx
theorem noneOk:CSound Tryz.prog 150 ctNone:=⟨by kernel_rfl,fun {C ρ fr mem nx a w vs K} hc hs hv=>by
 obtain⟨kind,tick,rfl,hK⟩:=hc
 refine (mkNone_any kind tick w).mono ?_
 rintro e w' ⟨rfl,hb⟩
 have hp:pureV (.agg #[.int .i64 kind,.int .i64 tick,.int .i64 (-1),.int .i64 (-1),.int .i64 (-1),.int .i64 0,.int .i64 0,.int .i64 0,.int .i64 0]):=pure_ent ⟨kind,tick,-1,-1,-1,0,0,0,0⟩
 exact⟨_,mem,nx,ρ,by rw[(pure_den hp ρ 0).1];rfl,hK,hs.later hb,(pure_den hp ρ nx).2,ExtS.refl _ _⟩⟩
def ctHas:CT:=fun vs mem nx K=>∃ set i,vs=[.int .i64 set,.int .i64 i]∧(0≤set∧set<4294967296)∧K (.bool (hasB set i)) mem nx
theorem hasOk:CSound Tryz.prog 147 ctHas:=CSound.val (by kernel_rfl) (by
 rintro vs mem nx K ⟨set,i,rfl,hn,hK⟩
 refine⟨_,hK,trivial,rfl,fun ρ w=>?_⟩
 refine (r4Has_any set i w hn.1 hn.2).mono ?_
 rintro e w' ⟨rfl,rfl⟩
 exact⟨rfl,Below.refl _ _⟩)
def platD:List (Nat×DQ):=[
 (17,{ k:=7,L:=[14],pre:=[(0,false),(1,false),(2,false),(3,false),(4,true),(5,false),(6,true)] }),
 (20,{ k:=4,L:=[14],pre:=[(0,false),(1,false),(2,false),(3,true)] }),
 (1000030,{ k:=15,L:=[12],sl:=[8,9] })]
def prePlat (c:Cfg) (s:St) (args:List Value) (k:Int):Prop:=(CfgV c∧StInv c s)∧∃ tick,args=[.int .i64 tick]∧0≤tick∧tick≤2147483648
theorem r12Copied_calls (y:StA) (s:St) (w:World) (hs:StOk w (·<w.heap.size) y s) (hm:s.tenants.length≤1000000) (hm2:s.cells.length≤1000000) :
  Calls Tryz.prog 135 #[.agg (stC y s)] w fun e w'=>∃ y2,e=.returned (.agg (stC y2 s))∧StOwn2 w.heap.size w' y2 s∧Below w.heap.size w w':=by
 have:=rd_callsM ttOk (ft_nil.i _) Tryz.func135 rfl (D:=[]) (by kernel_rfl) (vs:=[stV SN1 (sk y) s]) rfl noX noC y s noA noS w (noC_ok _ _) hs (noS_ok w _) (fun v hv=>by
  simp only[List.mem_cons,List.not_mem_nil,or_false] at hv
  rcases hv with rfl
  exact rpl_st_ok noX noC y s noA noS) (copied_sx (sk y) s hm hm2)
 rw[List.map_cons,rpl_st] at this
 refine this.mono ?_
 rintro e w' ⟨v,mem',nx',ρ',rfl,⟨T,Cc,rT,rC,hne,rfl,hT,hC⟩,hv,hm',hb⟩
 obtain⟨y2,e1,e2⟩:=hm'.own2 rfl hne hT hC
 exact⟨y2,congrArg Ending.returned e1,e2,hb⟩
def ctCopied:CT:=fun vs mem nx K=>∃ M y s,vs=[stV M y s]∧(HasRow mem M.t 12 tsC default s.tenants∧HasRow mem M.c 4 csC default s.cells)∧(s.tenants.length≤1000000∧s.cells.length≤1000000)∧∀ y2,K (stV ⟨nx+1,nx,0⟩ y2 s) (stMO ⟨nx+1,nx,0⟩ s++mem) (nx+2)
theorem copiedOk:CSound Tryz.prog 135 ctCopied:=⟨by kernel_rfl,fun {C ρ fr mem nx a w vs K} hc hs hv=>by
 obtain⟨M,y,s,rfl,⟨h1,h2⟩,⟨hm,hm2⟩,hK⟩:=hc
 rw[List.map_cons,den_st]
 refine (r12Copied_calls (stX ρ M y) s w (hs.stRow h1 h2) hm hm2).mono ?_
 rintro e w' ⟨y2,rfl,ho,hb⟩
 obtain⟨q1,q2,q3,q4⟩:=hs.addOwnSt hb ho
 exact⟨_,_,_,_,by rw[q2],hK ⟨y2.ct,y2.cc⟩,q1,q3,q4⟩⟩
/-! ref12.no,together -/
abbrev stZ:Value:=.agg #[zi,zi,zs0,zs0,zi,zi,zi,zi]
theorem CSound.pure {f : FuncId} {ct : CT} (ent : ((Tryz.prog).funcs[f]?).map (fun fn => (fn.name == "runtime.NumGoroutine", fn.body.isNone)) = some (false, false))
  (h:∀ vs mem nx K,ct vs mem nx K→∃ v,K v mem nx∧(∀ ρ n,den ρ v=v∧okV ρ n v)∧∀ ρ w,Calls Tryz.prog f (vs.map (den ρ)).toArray w fun e w'=>e=.returned v∧Below w.heap.size w w'):CSound Tryz.prog f ct:=
 ⟨ent,fun {C ρ fr mem nx a w vs K} hc hs hv=>by
  obtain⟨v,hK,hp,hcalls⟩:=h vs mem nx K hc
  refine (hcalls ρ w).mono ?_
  rintro e w' ⟨rfl,hb⟩
  exact⟨v,mem,nx,ρ,by rw[(hp ρ nx).1],hK,hs.later hb,(hp ρ nx).2,ExtS.refl _ _⟩⟩
def ctNo:CT:=fun vs mem nx K=>∃ e,vs=[.int .i64 e]∧K (.tuple #[stZ,.int .i64 e]) mem nx
theorem noOk:CSound Tryz.prog 134 ctNo:=CSound.pure (by kernel_rfl) (by
 rintro vs mem nx K ⟨e,rfl,hK⟩
 refine⟨_,hK,fun ρ n=>⟨by simp[den,den2,den1],fun u hu=>?_⟩,fun ρ w=>?_⟩
 ·simp at hu
  rcases hu with rfl | rfl
  ·intro u hu
   simp at hu
   rcases hu with rfl | rfl | rfl<;>trivial
  ·trivial
 ·have:=rd_callsM ttOk (ft_nil.i _) Tryz.func134 rfl (D:=[]) (by kernel_rfl) (vs:=[.int .i64 e]) rfl noX noC noA noS noA noS w (noC_ok _ _) (noS_ok w _) (noS_ok w _) (fun v hv=>by simp at hv;subst hv;trivial) (R:=fun v _ _=>v=.tuple #[stZ,.int .i64 e]) rfl
  refine this.mono ?_
  rintro e2 w' ⟨v,mem',nx',ρ',rfl,rfl,-,-,hb⟩
  exact⟨by simp[den,den2,den1],hb⟩)
def togB (c:Cfg) (a b:Int):Bool:=decide (0≤a)&&decide (0≤b)&&!apartB c a b
def tgF:FT:=[(182,ctApart)]
theorem tgFok:FTok Tryz.prog tgF:=ft_cons apartOk ft_nil
set_option maxRecDepth 100000 in
theorem together_sx (x:CfgK) (c:Cfg) (a b:Int) (hV:CfgV c) :
  sx tt tgF [] (bodyOf Tryz.f176) (argF 0 [cfgV CN1 x c,.int .i64 a,.int .i64 b]) (rdM c noS noS) 10 (endx tt Tryz.f176.results.toList fun v _ _=>v=.bool (togB c a b)∧pureV v):=by
 unfold togB
 refine⟨fun h0=>?_,fun h0=>?_⟩
 ·refine⟨fun h1=>?_,fun h1=>?_⟩
  ·refine⟨CN1,x,c,a,b,rfl,by repeat (first | exact trivial | refine⟨rfl,?_⟩),hV,?_⟩
   refine⟨?_,trivial⟩
   have e0:decide (0≤a)=true:=h0
   have e1:decide (0≤b)=true:=h1
   rw[e0,e1]
   rfl
  ·refine⟨?_,trivial⟩
   have e0:decide (0≤a)=true:=h0
   have e1:decide (0≤b)=false:=h1
   rw[e0,e1]
   rfl
 ·refine⟨(fun h=>nomatch h),fun _=>?_⟩
  refine⟨?_,trivial⟩
  have e0:decide (0≤a)=false:=h0
  rw[e0]
  rfl
theorem r12Together_any (x:CfgA) (c:Cfg) (a b:Int) (w:World) (hV:CfgV c) (hc:CfgOk w (·<w.heap.size) x c):Calls Tryz.prog 176 #[.agg (cfgC x c),.int .i64 a,.int .i64 b] w fun r w'=>r=.returned (.bool (togB c a b))∧Below w.heap.size w w':=by
 have:=rd_calls tgFok Tryz.func176 rfl (D:=[]) (by kernel_rfl) (vs:=[cfgV CN1 (ck x) c,.int .i64 a,.int .i64 b]) rfl x c noA noS noA noS w hc (noS_ok w _) (noS_ok w _) (fun v hv=>by
  simp only[List.mem_cons,List.not_mem_nil,or_false] at hv
  rcases hv with rfl | rfl | rfl
  ·exact rpl_cfg_ok x c noA noS noA noS
  ·trivial
  ·trivial) (R:=fun v=>v=.bool (togB c a b)) (together_sx (ck x) c a b hV)
 rw[List.map_cons,rpl_cfg] at this
 refine this.mono ?_
 rintro e w' ⟨v,rfl,-,rfl,hb⟩
 exact⟨rfl,hb⟩
def ctTogether:CT:=fun vs mem nx K=>∃ N x c a b,vs=[cfgV N x c,.int .i64 a,.int .i64 b]∧(keeps mem (cfgM N c))∧(CfgV c)∧K (.bool (togB c a b)) mem nx
theorem togetherOk:CSound Tryz.prog 176 ctTogether:=(ptsOk (R:=fun l z=>∃ c a b,l=[.cf c,.vl (.int .i64 a),.vl (.int .i64 b)]∧z=.bool (togB c a b)) (pre:=fun l=>∃ c a b,l=[.cf c,.vl (.int .i64 a),.vl (.int .i64 b)]∧(CfgV c)) (by kernel_rfl) (by
 rintro ps w ⟨c,a,b,hps,hpre⟩ hok
 obtain⟨x,ps0,rfl,hps0⟩:=dt_c hps
 obtain⟨ps1,rfl,hps1⟩:=dt_v hps0
 obtain⟨ps2,rfl,hps2⟩:=dt_v hps1
 obtain rfl:=dt_nil hps2
 have hpc:=hok (.cf x c) (by simp)
 refine (r12Together_any x c a b w hpre hpc).mono ?_
 rintro e w' ⟨rfl,hb⟩
 exact⟨_,⟨c,a,b,rfl,rfl⟩,trivial,rfl,hb⟩)).mono (by
 rintro vs mem nx K ⟨N,x,c,a,b,rfl,hk,hpre,hK⟩
 exact⟨[.cf N x c,.vl _,.vl _],rfl,⟨hk,trivial,trivial,trivial⟩,⟨_,_,_,rfl,hpre⟩,by rintro z ⟨c',a',b',hl,hz⟩;cases hl;subst hz;exact hK⟩)
def ctValid6:CT:=fun vs mem nx K=>∃ N x c e,vs=[cfgV N x c,entV' e]∧keeps mem (cfgM N c)∧CfgV c∧K (.bool (entV c e)) mem nx
theorem valid6Ok:CSound Tryz.prog 133 ctValid6:=⟨by kernel_rfl,fun {C ρ fr mem nx a w vs K} hc hs hv=>by
 obtain⟨N,x,c,e,rfl,hk,hV,hK⟩:=hc
 have e0:([cfgV N x c,entV' e].map (den ρ)).toArray=#[.agg (cfgC (cfgX ρ N x) c),.agg (entC e).toArray]:=by
  rw[List.map_cons,den_cfg]
  simp[den,den2,den1,entC]
 rw[e0]
 refine (r6Valid_any (cfgX ρ N x) c e w hV).mono ?_
 rintro r w' ⟨rfl,hb⟩
 exact⟨.bool (entV c e),mem,nx,ρ,rfl,hK,hs.later hb,trivial,ExtS.refl _ _⟩⟩
def ctRegOf:CT:=fun vs mem nx K=>∃ N x c k,vs=[cfgV N x c,.int .i64 k]∧(keeps mem (cfgM N c))∧(CfgV c)∧K (.int .i64 (regionOf c k)) mem nx
theorem regOfOk:CSound Tryz.prog 192 ctRegOf:=(ptsOk (R:=fun l z=>∃ c k,l=[.cf c,.vl (.int .i64 k)]∧z=.int .i64 (regionOf c k)) (pre:=fun l=>∃ c k,l=[.cf c,.vl (.int .i64 k)]∧(CfgV c)) (by kernel_rfl) (by
 rintro ps w ⟨c,k,hps,hpre⟩ hok
 obtain⟨x,ps0,rfl,hps0⟩:=dt_c hps
 obtain⟨ps1,rfl,hps1⟩:=dt_v hps0
 obtain rfl:=dt_nil hps1
 have hpc:=hok (.cf x c) (by simp)
 refine (r4RegionOf_any x c k w hpre hpc).mono ?_
 rintro e w' ⟨rfl,hb⟩
 exact⟨_,⟨c,k,rfl,rfl⟩,trivial,rfl,hb⟩)).mono (by
 rintro vs mem nx K ⟨N,x,c,k,rfl,hk,hpre,hK⟩
 exact⟨[.cf N x c,.vl _],rfl,⟨hk,trivial,trivial⟩,⟨_,_,rfl,hpre⟩,by rintro z ⟨c',k',hl,hz⟩;cases hl;subst hz;exact hK⟩)
theorem flat_int (l:List Int):flat intC l=l.map (Value.int .i64):=by
 induction l with
 | nil=>rfl
 | cons a l ih=>simp only[flat,List.flatMap_cons,intC] at ih ⊢;simp[ih]
theorem flat_int_set (l:List Int) (k:Nat) (z:Int):(flat intC l).set k (.int .i64 z)=flat intC (l.set k z):=by
 rw[flat_int,flat_int,List.map_set]
theorem addAt_len (l:List Int) (i n:Int):(addAt l i n).length=l.length:=by unfold addAt;split<;>simp
def AddPost (base:Nat) (A:Option Addr) (cp:Nat) (l:List Int) (w:World) (e:Ending) (w':World):Prop:=
 e=.returned (.tuple #[])∧w'.ownsRow base 3 1 (.slice A l.length cp) l.length (flat intC l)∧w.grownBy w' (Value.slice A l.length cp).ownBlock
def bookK (c:Cfg) (s:St) (k:Nat):List Int:=((s.tenants.zip c.tenants).take k).foldl (fun l p=>bookT l p.1 p.2) (List.replicate c.cells.length 0)
theorem bookK_succ {c:Cfg} {s:St} {k:Nat} {t:TS} {d:Ten} (h1:s.tenants[k]?=some t) (h2:c.tenants[k]?=some d):bookK c s (k+1)=bookT (bookK c s k) t d:=by
 have hz:(s.tenants.zip c.tenants)[k]?=some (t,d):=by
  rw[List.getElem?_zip_eq_some]
  exact⟨h1,h2⟩
 obtain⟨hk,he⟩:=List.getElem?_eq_some_iff.1 hz
 unfold bookK
 rw[List.take_succ_eq_append_getElem hk,List.foldl_append,he]
 rfl
theorem bookK_all (c:Cfg) (s:St) {k:Nat} (hk:s.tenants.length≤k):bookK c s k=booked c s:=by
 unfold bookK booked
 rw[List.take_of_length_le]
 rw[List.length_zip]
 omega
def Within (l:List Int) (m:Int):Prop:=∀ z ∈ l,0≤z∧z≤m
theorem Within.add {l:List Int} {m n:Int} (h:Within l m) (hn:0≤n) (i:Int):Within (addAt l i n) (m+n):=by
 unfold addAt
 split
 ·rename_i hi
  intro z hz
  obtain⟨k,rfl⟩:=Int.eq_ofNat_of_zero_le hi.1
  have hk:k<l.length:=by omega
  rcases List.mem_or_eq_of_mem_set hz with hz | rfl
  ·have:=h z hz;omega
  ·rw[Int.toNat_natCast,getD_some (List.getElem?_eq_getElem hk)]
   have:=h _ (List.getElem_mem hk)
   omega
 ·intro z hz
  have:=h z hz
  omega
theorem bookT_len (l:List Int) (t:TS) (d:Ten):(bookT l t d).length=l.length:=by
 unfold bookT
 split
 ·rfl
 ·rw[addAt_len,addAt_len]
  split
  ·rfl
  ·rw[addAt_len,addAt_len]
theorem Within.mono {l:List Int} {m m':Int} (h:Within l m) (hm:m≤m'):Within l m':=fun z hz=>by have:=h z hz;omega
theorem Within.book {l:List Int} {m:Int} (h:Within l m) (t:TS) {d:Ten} (h1:0≤d.load) (h2:0≤d.shadow):Within (bookT l t d) (m+2 * d.load+2 * d.shadow):=by
 unfold bookT
 split
 ·exact h.mono (by omega)
 ·split
  ·exact ((h.add h2 _).add h2 _).mono (by omega)
  ·exact ((((h.add h1 _).add h1 _).add h2 _).add h2 _).mono (by omega)
theorem bookK_len (c:Cfg) (s:St) (k:Nat):(bookK c s k).length=c.cells.length:=by
 unfold bookK
 generalize (s.tenants.zip c.tenants).take k=q
 have:∀ (q:List (TS×Ten)) (l:List Int),(q.foldl (fun l p=>bookT l p.1 p.2) l).length=l.length:=by
  intro q
  induction q with
  | nil=>intro l;rfl
  | cons a q ih=>intro l;rw[List.foldl_cons,ih,bookT_len]
 rw[this]
 simp
theorem bookK_within {c:Cfg} (hV:CfgV c) (s:St):∀ k,Within (bookK c s k) (k * 262144):=by
 intro k
 induction k with
 | zero=>
  intro z hz
  have:z=0:=by
   have hz':z ∈ List.replicate c.cells.length (0:Int):=hz
   exact List.eq_of_mem_replicate hz'
  subst this
  simp
 | succ k ih=>
  cases h1:s.tenants[k]? with
  | none=>
   have hk:s.tenants.length≤k:=by simpa using h1
   rw[bookK_all c s (by omega),← bookK_all c s hk]
   exact ih.mono (by omega)
  | some t=>
   cases h2:c.tenants[k]? with
   | none=>
    have hk:c.tenants.length≤k:=by simpa using h2
    have e:bookK c s (k+1)=bookK c s k:=by
     unfold bookK
     rw[List.take_of_length_le (by rw[List.length_zip];omega),List.take_of_length_le (by rw[List.length_zip];omega)]
    rw[e]
    exact ih.mono (by omega)
   | some d=>
    rw[bookK_succ h1 h2]
    have hd:=tenAt_bd hV h2
    exact (ih.book t (by omega) (by omega)).mono (by omega)
/-! ref11.Booked,ref11.Over -/
theorem addAt_in {l:List Int} {i n:Int} (h0:0≤i) (h1:i<l.length):addAt l i n=l.set i.toNat (l.getD i.toNat 0+n):=by unfold addAt;rw[if_pos ⟨h0,h1⟩]
theorem addAt_out {l:List Int} {i n:Int} (h:¬ (0≤i∧i<l.length)):addAt l i n=l:=by unfold addAt;rw[if_neg h]
theorem Within.getD {l:List Int} {m:Int} (h:Within l m) {k:Nat} (hk:k<l.length):0≤l.getD k 0∧l.getD k 0≤m:=by
 rw[getD_some (List.getElem?_eq_getElem hk)]
 exact h _ (List.getElem_mem hk)
abbrev rowI (n:Nat) (l:List Int):ABlk:=.row (1000000+3) 1 n (fun k=>intC (l.getD k 0))
def bkF:FT:=[(204,ctInl tt [] [] Tryz.f204 (bodyOf Tryz.f204))]
def bkD:List (Nat×DQ):=[(9000000,{ k:=0,L:=[204] }),
 (2000003,{ k:=0,L:=[0,1,2,3,4,5,6,7,8,9,10,11],sl:=[2,3,5] }),
 (5,{ k:=13,L:=[0,1,2,3,4,5,6,7,8,9,10,11],A:=[10,11],pre:=[(0,false),(1,false),(2,false),(3,false),(4,false),(5,false),(6,false),(7,false),(8,false),(9,false)],post:=[(12,true)] }),
 (1000009,{ k:=15,L:=[0,1,2,3,4,5,6,7,8,9,10,11,13,14],sl:=[2,3,5,6,7,8] }),
 (1000010,{ k:=15,L:=[0,1,2,3,4,5,6,7,8,9,10,11,13,14],sl:=[2,3,5,6,7,8] }),
 (1000011,{ k:=15,L:=[0,1,2,3,4,5,6,7,8,9,10,11,13,14],sl:=[2,3,5,6,7,8] }),
 (1000004,{ k:=15,L:=[0,1,2,3,4,5,6,7,8,9,10,11],sl:=[2,3,5,6] })]
theorem bkFok:FTokI Tryz.prog bkF (inlOf bkD):=fti_cons (inl_ok ttOk (ft_nil.i _) mixed (by kernel_rfl) Tryz.func204 rfl (by kernel_rfl) (by decide)) fti_nil
set_option maxRecDepth 100000 in
set_option maxHeartbeats 4000000 in
theorem booked_sx (x:CfgK) (c:Cfg) (y:StK) (s:St) (hV:CfgV c) (hlt:s.tenants.length=c.tenants.length) :
  sx tt bkF bkD (bodyOf Tryz.f201) (argF 0 [cfgV CN1 x c,stV SN1 y s]) (rdM c s noS) 10 (endx tt Tryz.f201.results.toList fun v mem' _=>SlR mem' 1 intC 0 (booked c s) v):=by
 have hnt:=hV.nt
 have hnc:=hV.nc
 have e0:(fun _:Nat=>[zi])=fun k=>intC ((bookK c s 0).getD k 0):=by
  funext k
  show [zi]=intC ((List.replicate c.cells.length (0:Int)).getD k 0)
  rw[List.getD_eq_getElem?_getD,List.getElem?_replicate]
  split<;>rfl
 refine⟨⟨Int.le_refl _,by omega,by show _ * (8:Int)≤_;omega⟩,?_⟩
 refine⟨Int×List Int,fun q=>match q with | (i,l)=>[(6,.int .i64 i)],fun q=>match q with | (i,l)=>[(12,rowI c.cells.length l)],fun q=>match q with | (i,l)=>(0≤i∧i≤s.tenants.length)∧l=bookK c s i.toNat,fun q=>match q with | (i,l)=>((s.tenants.length:Int)-i).toNat,⟨(0,bookK c s 0),⟨by omega,rfl⟩,kp_,⟨?_,kp_⟩⟩,?_⟩
 ·show some (ABlk.row _ 1 _ (fun _=>[zi]))=_
  rw[e0]
  rfl
 ·rintro⟨i,l⟩ ⟨hi,hl⟩
  refine⟨⟨rfl,rfl⟩,?_⟩
  refine⟨fun hlt1=>?_,fun hge=>?_⟩
  ·have hlt2:i<(s.tenants.length:Int):=of_decide_eq_true hlt1
   have hk0:i.toNat<s.tenants.length:=by omega
   have hk1:i.toNat<c.tenants.length:=by omega
   have hd:=tenAt_bd hV (getD_get (d:=default) hk1)
   have hw0:=bookK_within hV s i.toNat
   have hl0:=bookK_len c s i.toNat
   have hsucc:=bookK_succ (getD_get (d:=default) hk0) (getD_get (d:=default) hk1)
   refine⟨List Int,fun _=>[],fun l=>[(12,rowI c.cells.length l)],fun l=>l=(bookT (bookK c s i.toNat) (s.tenants.getD i.toNat default) (c.tenants.getD i.toNat default)),?_,?_⟩
   ·refine⟨⟨Nat.le_refl _,hi.1,hlt2⟩,?_⟩
    refine⟨⟨Nat.le_refl _,hi.1,by omega⟩,?_⟩
    refine⟨kp_,?_⟩
    refine⟨fun hp=>?_,fun hp=>?_⟩
    ·refine⟨_,?_,kp_,kp_⟩
     rw[hl];unfold bookT;rw[if_pos (by simpa using hp)]
    ·have hpl:(s.tenants.getD i.toNat default).placed=true:=by simpa using hp
     refine⟨List Int,fun _=>[],fun l=>[(12,rowI c.cells.length l)],fun l=>l=(if (s.tenants.getD i.toNat default).shed then (bookK c s i.toNat) else (addAt (addAt (bookK c s i.toNat) (s.tenants.getD i.toNat default).home (c.tenants.getD i.toNat default).load) (s.tenants.getD i.toNat default).target (c.tenants.getD i.toNat default).load)),?_,?_⟩
     ·refine⟨fun hs=>?_,fun hs=>?_⟩
      ·have hs2:(s.tenants.getD i.toNat default).shed=false:=by simpa using hs
       refine⟨List Int,fun _=>[],fun l=>[(12,rowI c.cells.length l)],fun l=>l=(addAt (bookK c s i.toNat) (s.tenants.getD i.toNat default).home (c.tenants.getD i.toNat default).load),?_,?_⟩
       ·have hle:=hl
        have hw:=hw0
        rw[← hle] at hw
        have hlen:l.length=c.cells.length:=by rw[hle];exact hl0
        refine⟨fun a0=>?_,fun a0=>?_⟩
        ·refine⟨fun a1=>?_,fun a1=>?_⟩
         ·have a1b:(s.tenants.getD i.toNat default).home<(l.length:Int):=by have q:(s.tenants.getD i.toNat default).home<((c.cells.length:Int).toNat:Int):=of_decide_eq_true a1;omega
          have a0b:0≤(s.tenants.getD i.toNat default).home:=of_decide_eq_true a0
          have hk:((s.tenants.getD i.toNat default).home).toNat<l.length:=by omega
          have hg:=hw.getD hk
          refine⟨⟨by omega,a0b,by omega⟩,?_⟩
          refine⟨⟨by omega,a0b,by omega⟩,?_⟩
          refine⟨intC (l.getD ((s.tenants.getD i.toNat default).home).toNat 0+(c.tenants.getD i.toNat default).load),by rw[wrapi (n:=l.getD ((s.tenants.getD i.toNat default).home).toNat 0+(c.tenants.getD i.toNat default).load) (by omega)];rfl,?_⟩
          rw[setEl_set hk]
          refine⟨_,?_,kp_,kp_⟩
          rw[← hle];exact (addAt_in a0b a1b).symm
         ·refine⟨_,?_,kp_,kp_⟩
          rw[← hle];exact (addAt_out (by rintro⟨-,q⟩;have q2:¬ (s.tenants.getD i.toNat default).home<((c.cells.length:Int).toNat:Int):=of_decide_eq_false a1;omega)).symm
        ·refine⟨(fun h=>nomatch h),fun _=>?_⟩
         refine⟨_,?_,kp_,kp_⟩
         rw[← hle];exact (addAt_out (by rintro⟨q,-⟩;exact absurd q (of_decide_eq_false a0))).symm
       ·rintro l hle
        refine⟨⟨by decide,rfl,rfl⟩,?_⟩
        have hw1:=hw0.add (n:=(c.tenants.getD i.toNat default).load) (by omega) (s.tenants.getD i.toNat default).home
        have hw:=hw1
        rw[← hle] at hw
        have hlen:l.length=c.cells.length:=by rw[hle,addAt_len];exact hl0
        refine⟨fun a0=>?_,fun a0=>?_⟩
        ·refine⟨fun a1=>?_,fun a1=>?_⟩
         ·have a1b:(s.tenants.getD i.toNat default).target<(l.length:Int):=by have q:(s.tenants.getD i.toNat default).target<((c.cells.length:Int).toNat:Int):=of_decide_eq_true a1;omega
          have a0b:0≤(s.tenants.getD i.toNat default).target:=of_decide_eq_true a0
          have hk:((s.tenants.getD i.toNat default).target).toNat<l.length:=by omega
          have hg:=hw.getD hk
          refine⟨⟨by omega,a0b,by omega⟩,?_⟩
          refine⟨⟨by omega,a0b,by omega⟩,?_⟩
          refine⟨intC (l.getD ((s.tenants.getD i.toNat default).target).toNat 0+(c.tenants.getD i.toNat default).load),by rw[wrapi (n:=l.getD ((s.tenants.getD i.toNat default).target).toNat 0+(c.tenants.getD i.toNat default).load) (by omega)];rfl,?_⟩
          rw[setEl_set hk]
          refine⟨_,?_,kp_,kp_⟩
          rw[hs2,if_neg (by decide),← hle];exact (addAt_in a0b a1b).symm
         ·refine⟨_,?_,kp_,kp_⟩
          rw[hs2,if_neg (by decide),← hle];exact (addAt_out (by rintro⟨-,q⟩;have q2:¬ (s.tenants.getD i.toNat default).target<((c.cells.length:Int).toNat:Int):=of_decide_eq_false a1;omega)).symm
        ·refine⟨(fun h=>nomatch h),fun _=>?_⟩
         refine⟨_,?_,kp_,kp_⟩
         rw[hs2,if_neg (by decide),← hle];exact (addAt_out (by rintro⟨q,-⟩;exact absurd q (of_decide_eq_false a0))).symm
      ·have hs2:(s.tenants.getD i.toNat default).shed=true:=by simpa using hs
       refine⟨_,?_,kp_,kp_⟩
       rw[hs2,if_pos rfl];exact hl
     ·rintro l hle
      refine⟨⟨by decide,rfl,rfl⟩,?_⟩
      refine⟨List Int,fun _=>[],fun l=>[(12,rowI c.cells.length l)],fun l=>l=(addAt (if (s.tenants.getD i.toNat default).shed then (bookK c s i.toNat) else (addAt (addAt (bookK c s i.toNat) (s.tenants.getD i.toNat default).home (c.tenants.getD i.toNat default).load) (s.tenants.getD i.toNat default).target (c.tenants.getD i.toNat default).load)) (s.tenants.getD i.toNat default).standby (c.tenants.getD i.toNat default).shadow),?_,?_⟩
      ·have hw2:Within (if (s.tenants.getD i.toNat default).shed then (bookK c s i.toNat) else (addAt (addAt (bookK c s i.toNat) (s.tenants.getD i.toNat default).home (c.tenants.getD i.toNat default).load) (s.tenants.getD i.toNat default).target (c.tenants.getD i.toNat default).load)) ((i.toNat:Int) * 262144+(c.tenants.getD i.toNat default).load+(c.tenants.getD i.toNat default).load):=by
        split
        ·exact hw0.mono (by omega)
        ·exact (hw0.add (n:=(c.tenants.getD i.toNat default).load) (by omega) (s.tenants.getD i.toNat default).home).add (n:=(c.tenants.getD i.toNat default).load) (by omega) (s.tenants.getD i.toNat default).target
       have hw:=hw2
       rw[← hle] at hw
       have hlen:l.length=c.cells.length:=by
        rw[hle];split<;>simp only[addAt_len,hl0]
       refine⟨fun a0=>?_,fun a0=>?_⟩
       ·refine⟨fun a1=>?_,fun a1=>?_⟩
        ·have a1b:(s.tenants.getD i.toNat default).standby<(l.length:Int):=by have q:(s.tenants.getD i.toNat default).standby<((c.cells.length:Int).toNat:Int):=of_decide_eq_true a1;omega
         have a0b:0≤(s.tenants.getD i.toNat default).standby:=of_decide_eq_true a0
         have hk:((s.tenants.getD i.toNat default).standby).toNat<l.length:=by omega
         have hg:=hw.getD hk
         refine⟨⟨by omega,a0b,by omega⟩,?_⟩
         refine⟨⟨by omega,a0b,by omega⟩,?_⟩
         refine⟨intC (l.getD ((s.tenants.getD i.toNat default).standby).toNat 0+(c.tenants.getD i.toNat default).shadow),by rw[wrapi (n:=l.getD ((s.tenants.getD i.toNat default).standby).toNat 0+(c.tenants.getD i.toNat default).shadow) (by omega)];rfl,?_⟩
         rw[setEl_set hk]
         refine⟨_,?_,kp_,kp_⟩
         rw[← hle];exact (addAt_in a0b a1b).symm
        ·refine⟨_,?_,kp_,kp_⟩
         rw[← hle];exact (addAt_out (by rintro⟨-,q⟩;have q2:¬ (s.tenants.getD i.toNat default).standby<((c.cells.length:Int).toNat:Int):=of_decide_eq_false a1;omega)).symm
       ·refine⟨(fun h=>nomatch h),fun _=>?_⟩
        refine⟨_,?_,kp_,kp_⟩
        rw[← hle];exact (addAt_out (by rintro⟨q,-⟩;exact absurd q (of_decide_eq_false a0))).symm
      ·rintro l hle
       refine⟨⟨by decide,rfl,rfl⟩,?_⟩
       have hw2:Within (if (s.tenants.getD i.toNat default).shed then (bookK c s i.toNat) else (addAt (addAt (bookK c s i.toNat) (s.tenants.getD i.toNat default).home (c.tenants.getD i.toNat default).load) (s.tenants.getD i.toNat default).target (c.tenants.getD i.toNat default).load)) ((i.toNat:Int) * 262144+(c.tenants.getD i.toNat default).load+(c.tenants.getD i.toNat default).load):=by
        split
        ·exact hw0.mono (by omega)
        ·exact (hw0.add (n:=(c.tenants.getD i.toNat default).load) (by omega) (s.tenants.getD i.toNat default).home).add (n:=(c.tenants.getD i.toNat default).load) (by omega) (s.tenants.getD i.toNat default).target
       have hw3:=hw2.add (n:=(c.tenants.getD i.toNat default).shadow) (by omega) (s.tenants.getD i.toNat default).standby
       have hw:=hw3
       rw[← hle] at hw
       have hlen:l.length=c.cells.length:=by
        rw[hle,addAt_len]
        split<;>simp only[addAt_len,hl0]
       have hbt:(bookT (bookK c s i.toNat) (s.tenants.getD i.toNat default) (c.tenants.getD i.toNat default))=addAt (addAt (if (s.tenants.getD i.toNat default).shed then (bookK c s i.toNat) else (addAt (addAt (bookK c s i.toNat) (s.tenants.getD i.toNat default).home (c.tenants.getD i.toNat default).load) (s.tenants.getD i.toNat default).target (c.tenants.getD i.toNat default).load)) (s.tenants.getD i.toNat default).standby (c.tenants.getD i.toNat default).shadow) (s.tenants.getD i.toNat default).next (c.tenants.getD i.toNat default).shadow:=by unfold bookT;rw[if_neg (by rw[hpl];decide)]
       rw[← hle] at hbt
       refine⟨fun a0=>?_,fun a0=>?_⟩
       ·refine⟨fun a1=>?_,fun a1=>?_⟩
        ·have a1b:(s.tenants.getD i.toNat default).next<(l.length:Int):=by have q:(s.tenants.getD i.toNat default).next<((c.cells.length:Int).toNat:Int):=of_decide_eq_true a1;omega
         have a0b:0≤(s.tenants.getD i.toNat default).next:=of_decide_eq_true a0
         have hk:((s.tenants.getD i.toNat default).next).toNat<l.length:=by omega
         have hg:=hw.getD hk
         refine⟨⟨by omega,a0b,by omega⟩,?_⟩
         refine⟨⟨by omega,a0b,by omega⟩,?_⟩
         refine⟨intC (l.getD ((s.tenants.getD i.toNat default).next).toNat 0+(c.tenants.getD i.toNat default).shadow),by rw[wrapi (n:=l.getD ((s.tenants.getD i.toNat default).next).toNat 0+(c.tenants.getD i.toNat default).shadow) (by omega)];rfl,?_⟩
         rw[setEl_set hk]
         refine⟨_,?_,kp_,kp_⟩
         rw[hbt];exact (addAt_in a0b a1b).symm
        ·refine⟨_,?_,kp_,kp_⟩
         rw[hbt];exact (addAt_out (by rintro⟨-,q⟩;have q2:¬ (s.tenants.getD i.toNat default).next<((c.cells.length:Int).toNat:Int):=of_decide_eq_false a1;omega)).symm
       ·refine⟨(fun h=>nomatch h),fun _=>?_⟩
        refine⟨_,?_,kp_,kp_⟩
        rw[hbt];exact (addAt_out (by rintro⟨q,-⟩;exact absurd q (of_decide_eq_false a0))).symm
   ·rintro l hle
    refine⟨⟨by decide,rfl,rfl⟩,?_⟩
    refine⟨(_,_),?_,kp_,kp_⟩
    dsimp only
    rw[wrapi (n:=i+1) (by omega)]
    refine⟨⟨by omega,?_⟩,by omega⟩
    rw[show (i+1).toNat=i.toNat+1 by omega,hsucc]
    exact hle
  ·have hge2:¬ i<(s.tenants.length:Int):=of_decide_eq_false hge
   have hb:bookK c s i.toNat=booked c s:=bookK_all c s (by omega)
   rw[hb] at hl
   have hlen:(booked c s).length=c.cells.length:=by rw[← hb];exact bookK_len c s _
   subst hl
   exact .inr ⟨12,_,_,c.cells.length,_,by rw[hlen];rfl,rfl,rfl,by omega,fun k hk=>rfl⟩
theorem r11Booked_calls (x:CfgA) (c:Cfg) (y:StA) (s:St) (w:World) (hV:CfgV c) (hlt:s.tenants.length=c.tenants.length) (hc:CfgOk w (·<w.heap.size) x c) (hs:StOk w (·<w.heap.size) y s) :
  Calls Tryz.prog 201 #[.agg (cfgC x c),.agg (stC y s)] w fun e w'=>∃ A cp,e=.returned (.slice A (booked c s).length cp)∧Rd w' (fun b=>w.heap.size≤b∧b<w'.heap.size) A (flat intC (booked c s))∧Below w.heap.size w w':=by
 have:=rd_callsM ttOk bkFok Tryz.func201 rfl (D:=bkD) (by kernel_rfl) (vs:=[cfgV CN1 (ck x) c,stV SN1 (sk y) s]) rfl x c y s noA noS w hc hs (noS_ok w _) (fun v hv=>by
  simp only[List.mem_cons,List.not_mem_nil,or_false] at hv
  rcases hv with rfl | rfl
  ·exact rpl_cfg_ok x c y s noA noS
  ·exact rpl_st_ok x c y s noA noS) (booked_sx (ck x) c (sk y) s hV hlt)
 rw[List.map_cons,List.map_cons,rpl_cfg,rpl_st] at this
 refine this.mono ?_
 rintro e w' ⟨v,mem',nx',ρ',rfl,hR,hv,hm',hb⟩
 obtain⟨A,cp,e1,hr⟩:=hm'.slR (enc:=intC) (sz:=1) (fun _=>rfl) (by omega) hR
 refine⟨A,cp,?_,hr,hb⟩
 congr 1
 rcases hR with⟨rfl,-⟩ | ⟨r,cap,t,n,el,rfl,-⟩
 ·exact e1
 ·exact e1
def ctBookedR:CT:=fun vs mem nx K=>∃ N x c M y s,vs=[cfgV N x c,stV M y s]∧(keeps mem (cfgM N c)∧HasRow mem M.t 12 tsC default s.tenants∧HasRow mem M.c 4 csC default s.cells)∧(CfgV c∧s.tenants.length=c.tenants.length)∧∀ cap,K (slc nx (booked c s).length cap) ((nx,rowOfL 500000 1 intC 0 (booked c s))::mem) (nx+1)
theorem bookedROk:CSound Tryz.prog 201 ctBookedR:=⟨by kernel_rfl,fun {C ρ fr mem nx a w vs K} hc hs hv=>by
 obtain⟨N,x,c,M,y,s,rfl,⟨hk,h1,h2⟩,⟨hV,hlt⟩,hK⟩:=hc
 rw[List.map_cons,List.map_cons,den_cfg,den_st]
 refine (r11Booked_calls (cfgX ρ N x) c (stX ρ M y) s w hV hlt (hs.cfg hk (fun b h _=>h)) (hs.stRow h1 h2)).mono ?_
 rintro e w' ⟨A,cp,rfl,hr,hb⟩
 obtain⟨q1,-⟩:=(hs.later hb).addList hs.frB hs.rest.size (enc:=intC) (sz:=1) (fun _=>rfl) (by omega) intC_plain 0 (t:=500000) rfl hr
 refine⟨slc nx (booked c s).length cp,_,_,_,?_,hK cp,q1,⟨Nat.lt_succ_self nx,by rw[setPl_same]⟩,⟨fun i hi=>setPl_lt ρ _ hi,Nat.le_succ _⟩⟩
 show Ending.returned _=Ending.returned _
 simp[den,den2,den1,dA_whole,dS_whole,setPl_same]⟩
def ovB (c:Cfg) (s:St) (i:Nat):Bool:=decide ((c.cells.getD i (0,0)).2<(booked c s).getD i 0)
def overN (c:Cfg) (s:St) (k:Nat):Nat:=((List.range k).filter (ovB c s)).length
theorem overN_succ (c:Cfg) (s:St) (k:Nat):overN c s (k+1)=overN c s k+(if ovB c s k=true then 1 else 0):=by
 unfold overN
 rw[List.range_succ,List.filter_append,List.length_append]
 congr 1
 by_cases h:ovB c s k=true
 ·rw[if_pos h];simp[List.filter,h]
 ·rw[if_neg h];simp[List.filter,h]
theorem overN_le (c:Cfg) (s:St) (k:Nat):overN c s k≤k:=by
 unfold overN
 have:=List.length_filter_le (ovB c s) (List.range k)
 simpa using this
theorem overN_pos (c:Cfg) (s:St):decide (0<overN c s c.cells.length)=overB c s:=by
 unfold overN overB
 cases h:(List.range c.cells.length).any fun i=>decide ((c.cells.getD i (0,0)).2<(booked c s).getD i 0) with
 | true=>
  obtain⟨i,hi,hp⟩:=List.any_eq_true.1 h
  have:i ∈ (List.range c.cells.length).filter (ovB c s):=List.mem_filter.2 ⟨hi,hp⟩
  exact decide_eq_true (List.length_pos_of_mem this)
 | false=>
  refine decide_eq_false fun hp=>?_
  obtain⟨i,hi⟩:=List.exists_mem_of_length_pos hp
  obtain⟨h1,h2⟩:=List.mem_filter.1 hi
  have:(List.range c.cells.length).any (fun i=>decide ((c.cells.getD i (0,0)).2<(booked c s).getD i 0))=true:=List.any_eq_true.2 ⟨i,h1,h2⟩
  rw[h] at this
  cases this
theorem bookedR_len (c:Cfg) (s:St):(booked c s).length=c.cells.length:=by rw[← bookK_all c s (Nat.le_refl _)];exact bookK_len c s _
def ovF:FT:=[(201,ctBookedR)]
theorem ovFok:FTok Tryz.prog ovF:=ft_cons bookedROk ft_nil
def ovD:List (Nat×DQ):=[(3000004,{ k:=14,L:=[0,1,2,3,4,5,6,7,8,9,10,11,12],sl:=[2,3,6] }),
 (6,{ k:=10,L:=[0,1,2,3,4,5,6,7,8,9,10,11,12],pre:=[(0,false),(1,false),(2,false),(3,false),(4,false),(5,false),(6,false),(7,false),(8,false),(9,false)] })]
set_option maxRecDepth 100000 in
set_option maxHeartbeats 4000000 in
theorem over_sx (x:CfgK) (c:Cfg) (y:StK) (s:St) (hV:CfgV c) (hlt:s.tenants.length=c.tenants.length) :
  sx tt ovF ovD (bodyOf Tryz.f193) (argF 0 [cfgV CN1 x c,stV SN1 y s]) (rdM c s noS) 10 (endx tt Tryz.f193.results.toList fun v _ _=>∃ A n cap,v=.slice A n cap∧n=overN c s c.cells.length):=by
 have hnc:=hV.nc
 have hbl:=bookedR_len c s
 refine⟨CN1,x,c,SN1,y,s,rfl,⟨kp_,⟨_,_,_,rfl,Nat.le_refl _,fun k hk=>rfl⟩,⟨_,_,_,rfl,Nat.le_refl _,fun k hk=>rfl⟩⟩,⟨hV,hlt⟩,?_⟩
 intro cap0
 refine⟨Int×Nat×Option (Nat×(Nat→List Value)),fun q=>match q with | (i,n,none)=>[(7,.int .i64 i),(5,zs0)] | (i,n,some (cap,el))=>[(7,.int .i64 i),(5,slc 13 n cap)],fun q=>match q with | (i,n,none)=>[] | (i,n,some (cap,el))=>[(13,.row (1000000+3) 1 cap el)],fun q=>match q with | (i,n,o)=>((0≤i∧i≤c.cells.length)∧n=overN c s i.toNat)∧match o with | none=>n=0 | some (cap,el)=>n≤cap,fun q=>match q with | (i,n,o)=>((c.cells.length:Int)-i).toNat,⟨(0,0,none),[],⟨⟨by omega,rfl⟩,rfl⟩,⟨rfl,rfl⟩,kp_,kp_⟩,?_⟩
 rintro⟨i,n,(_ | ⟨cap,el⟩)⟩ ⟨⟨hi,hn⟩,ho⟩
 ·refine⟨⟨by decide,rfl,rfl⟩,?_⟩
  refine⟨fun hlt1=>?_,fun hge=>?_⟩
  ·have hlt2:i<(c.cells.length:Int):=by have q:i<((booked c s).length:Int):=of_decide_eq_true hlt1;omega
   have hle:=overN_le c s i.toNat
   refine⟨⟨Nat.le_refl _,hi.1,by omega⟩,?_⟩
   refine⟨⟨Nat.le_refl _,hi.1,hlt2⟩,?_⟩
   refine⟨fun hb=>?_,fun hb=>?_⟩
   ·have hov:ovB c s i.toNat=true:=hb
    refine⟨⟨Nat.le_refl _,fun k hk=>by match k,hk with | 0,_=>rfl⟩,?_⟩
    refine⟨fun h=>absurd h (by decide),fun _=>⟨by decide,fun cap2 el2 hc2 hel2=>?_⟩⟩
    refine⟨(_,_,some (cap2,el2)),[(13,15)],?_,⟨rfl,rfl⟩,kp_,kp_⟩
    dsimp only
    rw[wrapi (n:=i+1) (by omega)]
    refine⟨⟨⟨by omega,?_⟩,by omega⟩,by omega⟩
    rw[show (i+1).toNat=i.toNat+1 by omega,overN_succ,if_pos hov]
    omega
   ·have hov:¬ (ovB c s i.toNat=true):=fun q=>absurd (q.symm.trans hb) (by decide)
    refine⟨(_,n,none),[],?_,⟨rfl,rfl⟩,kp_,kp_⟩
    dsimp only
    rw[wrapi (n:=i+1) (by omega)]
    refine⟨⟨⟨by omega,?_⟩,by omega⟩,by omega⟩
    rw[show (i+1).toNat=i.toNat+1 by omega,overN_succ,if_neg hov]
    omega
  ·have hge2:¬ i<(c.cells.length:Int):=by have q:¬ i<((booked c s).length:Int):=of_decide_eq_false hge;omega
   have hie:i.toNat=c.cells.length:=by omega
   rw[hie] at hn
   exact⟨_,_,_,rfl,by rw[← hn];exact ho.symm⟩
 ·refine⟨⟨by decide,rfl,rfl⟩,?_⟩
  refine⟨fun hlt1=>?_,fun hge=>?_⟩
  ·have hlt2:i<(c.cells.length:Int):=by have q:i<((booked c s).length:Int):=of_decide_eq_true hlt1;omega
   have hle:=overN_le c s i.toNat
   refine⟨⟨Nat.le_refl _,hi.1,by omega⟩,?_⟩
   refine⟨⟨Nat.le_refl _,hi.1,hlt2⟩,?_⟩
   refine⟨fun hb=>?_,fun hb=>?_⟩
   ·have hov:ovB c s i.toNat=true:=hb
    refine⟨⟨Nat.le_refl _,fun k hk=>by match k,hk with | 0,_=>rfl⟩,?_⟩
    refine⟨⟨rfl,ho⟩,fun hin el2 h1 h2=>?_,fun hgt=>⟨by show (n+1) * 8≤140737488355328;omega,fun cap2 el2 hc2 h1 h2=>?_⟩⟩
    ·refine⟨(_,_,some (cap,el2)),[],?_,⟨rfl,rfl⟩,kp_,kp_⟩
     dsimp only
     rw[wrapi (n:=i+1) (by omega)]
     refine⟨⟨⟨by omega,?_⟩,by omega⟩,by omega⟩
     rw[show (i+1).toNat=i.toNat+1 by omega,overN_succ,if_pos hov]
     omega
    ·refine⟨(_,_,some (cap2,el2)),[(13,15)],?_,⟨rfl,rfl⟩,kp_,kp_⟩
     dsimp only
     rw[wrapi (n:=i+1) (by omega)]
     refine⟨⟨⟨by omega,?_⟩,by omega⟩,by omega⟩
     rw[show (i+1).toNat=i.toNat+1 by omega,overN_succ,if_pos hov]
     omega
   ·have hov:¬ (ovB c s i.toNat=true):=fun q=>absurd (q.symm.trans hb) (by decide)
    refine⟨(_,n,some (cap,el)),[],?_,⟨rfl,rfl⟩,kp_,kp_⟩
    dsimp only
    rw[wrapi (n:=i+1) (by omega)]
    refine⟨⟨⟨by omega,?_⟩,by omega⟩,by omega⟩
    rw[show (i+1).toNat=i.toNat+1 by omega,overN_succ,if_neg hov]
    omega
  ·have hge2:¬ i<(c.cells.length:Int):=by have q:¬ i<((booked c s).length:Int):=of_decide_eq_false hge;omega
   have hie:i.toNat=c.cells.length:=by omega
   rw[hie] at hn
   exact⟨_,_,_,rfl,hn⟩
theorem r11Over_calls (x:CfgA) (c:Cfg) (y:StA) (s:St) (w:World) (hV:CfgV c) (hlt:s.tenants.length=c.tenants.length) (hc:CfgOk w (·<w.heap.size) x c) (hs:StOk w (·<w.heap.size) y s) :
  Calls Tryz.prog 193 #[.agg (cfgC x c),.agg (stC y s)] w fun e w'=>∃ A cp,e=.returned (.slice A (overN c s c.cells.length) cp)∧Below w.heap.size w w':=by
 have:=rd_callsM ttOk (ovFok.i _) Tryz.func193 rfl (D:=ovD) (by kernel_rfl) (vs:=[cfgV CN1 (ck x) c,stV SN1 (sk y) s]) rfl x c y s noA noS w hc hs (noS_ok w _) (fun v hv=>by
  simp only[List.mem_cons,List.not_mem_nil,or_false] at hv
  rcases hv with rfl | rfl
  ·exact rpl_cfg_ok x c y s noA noS
  ·exact rpl_st_ok x c y s noA noS) (over_sx (ck x) c (sk y) s hV hlt)
 rw[List.map_cons,List.map_cons,rpl_cfg,rpl_st] at this
 refine this.mono ?_
 rintro e w' ⟨v,mem',nx',ρ',rfl,⟨A,n,cap,rfl,rfl⟩,hv,hm',hb⟩
 cases A with
 | none=>exact⟨none,cap,rfl,hb⟩
 | some a=>exact⟨_,cap,rfl,hb⟩
def ctOverR:CT:=fun vs mem nx K=>∃ N x c M y s,vs=[cfgV N x c,stV M y s]∧(keeps mem (cfgM N c)∧HasRow mem M.t 12 tsC default s.tenants∧HasRow mem M.c 4 csC default s.cells)∧(CfgV c∧s.tenants.length=c.tenants.length)∧∀ cap,K (slc nx (overN c s c.cells.length) cap) mem (nx+1)
theorem overROk:CSound Tryz.prog 193 ctOverR:=⟨by kernel_rfl,fun {C ρ fr mem nx a w vs K} hc hs hv=>by
 obtain⟨N,x,c,M,y,s,rfl,⟨hk,h1,h2⟩,⟨hV,hlt⟩,hK⟩:=hc
 rw[List.map_cons,List.map_cons,den_cfg,den_st]
 refine (r11Over_calls (cfgX ρ N x) c (stX ρ M y) s w hV hlt (hs.cfg hk (fun b h _=>h)) (hs.stRow h1 h2)).mono ?_
 rintro e w' ⟨A,cp,rfl,hb⟩
 refine⟨slc nx (overN c s c.cells.length) cp,_,_,setPl ρ nx ⟨A,0,0,false,noSub⟩,?_,hK cp,(hs.later hb).ren (fun j hj _=>setPl_lt ρ _ hj) (Nat.le_succ _) (fun j hj=>setPl_lt ρ _ (Nat.lt_of_lt_of_le hj hs.n0)),⟨Nat.lt_succ_self nx,by rw[setPl_same]⟩,⟨fun i hi=>setPl_lt ρ _ hi,Nat.le_succ _⟩⟩
 show Ending.returned _=Ending.returned _
 simp[den,den2,den1,dA_whole,dS_whole,setPl_same]⟩
/-! ref12.Apply: what its parts ask,and what it hands back. -/
abbrev stVg (M:SN) (y:StK) (nT nC:Nat) (s:St):Value:=.agg #[.int .i64 s.tick,.int .i64 s.count,slc M.t nT y.ct,slc M.c nC y.cc,.int .i64 s.proven,.int .i64 s.evac,.int .i64 s.low,.int .i64 s.high]
structure HasSt (mem:AM) (M:SN) (nT nC:Nat) (s:St):Prop where
 nT:nT=s.tenants.length
 nC:nC=s.cells.length
 t:HasRow mem M.t 12 tsC default s.tenants
 c:HasRow mem M.c 4 csC default s.cells
def ctOverG:CT:=fun vs mem nx K=>∃ N x c M y nT nC s,vs=[cfgV N x c,stVg M y nT nC s]∧(keeps mem (cfgM N c)∧HasSt mem M nT nC s)∧(CfgV c∧s.tenants.length=c.tenants.length)∧∀ cap,K (slc nx (overN c s c.cells.length) cap) mem (nx+1)
theorem overGOk:CSound Tryz.prog 193 ctOverG:=overROk.mono (by
 rintro vs mem nx K ⟨N,x,c,M,y,nT,nC,s,rfl,⟨h1,h2⟩,hV,hK⟩
 obtain⟨rfl,rfl,h3,h4⟩:=h2
 exact⟨N,x,c,M,y,s,rfl,⟨h1,h3,h4⟩,hV,hK⟩)
theorem CSound.reads {f : FuncId} (ent : ((Tryz.prog).funcs[f]?).map (fun fn => (fn.name == "runtime.NumGoroutine", fn.body.isNone)) = some (false, false)) {pre : Cfg → St → Int → Prop} {res : Cfg → St → Int → Value} (hp : ∀ c s k, pureV (res c s k))
  (h:∀ x c y s k w,pre c s k→CfgOk w (·<w.heap.size) x c→StOk w (·<w.heap.size) y s→Calls Tryz.prog f #[.agg (cfgC x c),.agg (stC y s),.int .i64 k] w fun r w'=>r=.returned (res c s k)∧Below w.heap.size w w') :
  CSound Tryz.prog f (fun vs mem nx K=>∃ N x c M y nT nC s k,vs=[cfgV N x c,stVg M y nT nC s,.int .i64 k]∧(keeps mem (cfgM N c)∧HasSt mem M nT nC s)∧pre c s k∧K (res c s k) mem nx):=⟨ent,fun {C ρ fr mem nx a w vs K} hc hs hv=>by
 obtain⟨N,x,c,M,y,nT,nC,s,k,rfl,⟨h1,h2⟩,hpre,hK⟩:=hc
 obtain⟨rfl,rfl,h3,h4⟩:=h2
 rw[List.map_cons,List.map_cons,den_cfg,den_st]
 refine (h (cfgX ρ N x) c (stX ρ M y) s k w hpre (hs.cfg h1 (fun b h _=>h)) (hs.stRow h3 h4)).mono ?_
 rintro e w' ⟨rfl,hb⟩
 have hpp:=pure_den (hp c s k) ρ nx
 exact⟨_,mem,nx,ρ,by rw[hpp.1],hK,hs.later hb,hpp.2,ExtS.refl _ _⟩⟩
theorem CSound.readsS {f : FuncId} (ent : ((Tryz.prog).funcs[f]?).map (fun fn => (fn.name == "runtime.NumGoroutine", fn.body.isNone)) = some (false, false)) {pre : St → Int → Prop} {res : St → Int → Value} (hp : ∀ s k, pureV (res s k))
  (h:∀ y s k w,pre s k→StOk w (·<w.heap.size) y s→Calls Tryz.prog f #[.agg (stC y s),.int .i64 k] w fun r w'=>r=.returned (res s k)∧Below w.heap.size w w') :
  CSound Tryz.prog f (fun vs mem nx K=>∃ M y nT nC s k,vs=[stVg M y nT nC s,.int .i64 k]∧HasSt mem M nT nC s∧pre s k∧K (res s k) mem nx):=⟨ent,fun {C ρ fr mem nx a w vs K} hc hs hv=>by
 obtain⟨M,y,nT,nC,s,k,rfl,h2,hpre,hK⟩:=hc
 obtain⟨rfl,rfl,h3,h4⟩:=h2
 rw[List.map_cons,den_st]
 refine (h (stX ρ M y) s k w hpre (hs.stRow h3 h4)).mono ?_
 rintro e w' ⟨rfl,hb⟩
 have hpp:=pure_den (hp s k) ρ nx
 exact⟨_,mem,nx,ρ,by rw[hpp.1],hK,hs.later hb,hpp.2,ExtS.refl _ _⟩⟩
/-! frozen,proven,open -/
def fzF:FT:=[(192,ctRegOf),(147,ctHas)]
theorem fzFok:FTok Tryz.prog fzF:=ft_cons regOfOk (ft_cons hasOk ft_nil)
def fzD:List (Nat×DQ):=[(1,{ k:=5,L:=[0,1,2,3,4,5,6,7,10,11],pre:=[(0,false),(1,false),(2,false),(3,false),(4,true)] })]
set_option maxRecDepth 100000 in
theorem frozen_sx (x:CfgK) (c:Cfg) (y:StK) (s:St) (k:Int) (hV:CfgV c) (he:0≤s.evac∧s.evac<4294967296) :
  sx tt fzF fzD (bodyOf Tryz.f174) (argF 0 [cfgV CN1 x c,stV SN1 y s,.int .i64 k]) (rdM c s noS) 10 (endx tt Tryz.f174.results.toList fun v _ _=>v=.bool (frozenB c s k)∧pureV v):=by
 refine⟨CN1,x,c,k,rfl,by repeat (first | exact trivial | refine⟨rfl,?_⟩),hV,?_⟩
 refine⟨by repeat (first | exact trivial | refine⟨rfl,?_⟩),?_⟩
 exact⟨_,_,rfl,he,rfl,trivial⟩
def ctFrozenR:CT:=fun vs mem nx K=>∃ N x c M y nT nC s k,vs=[cfgV N x c,stVg M y nT nC s,.int .i64 k]∧(keeps mem (cfgM N c)∧HasSt mem M nT nC s)∧(CfgV c∧0≤s.evac∧s.evac<4294967296)∧K (.bool (frozenB c s k)) mem nx
theorem frozenROk:CSound Tryz.prog 174 ctFrozenR:=CSound.reads (by kernel_rfl) (pre:=fun c s k=>CfgV c∧0≤s.evac∧s.evac<4294967296) (res:=fun c s k=>.bool (frozenB c s k)) (fun _ _ _=>trivial) (by
 rintro x c y s k w ⟨hV,he⟩ hc hs
 have:=rd_calls fzFok Tryz.func174 rfl (D:=fzD) (by kernel_rfl) (vs:=[cfgV CN1 (ck x) c,stV SN1 (sk y) s,.int .i64 k]) rfl x c y s noA noS w hc hs (noS_ok w _) (fun v hv=>by
  simp only[List.mem_cons,List.not_mem_nil,or_false] at hv
  rcases hv with rfl | rfl | rfl
  ·exact rpl_cfg_ok x c y s noA noS
  ·exact rpl_st_ok x c y s noA noS
  ·trivial) (R:=fun v=>v=.bool (frozenB c s k)) (frozen_sx (ck x) c (sk y) s k hV he)
 rw[List.map_cons,List.map_cons,rpl_cfg,rpl_st] at this
 refine this.mono ?_
 rintro e w' ⟨v,rfl,-,rfl,hb⟩
 exact⟨rfl,hb⟩)
def pvF:FT:=[(147,ctHas)]
theorem pvFok:FTok Tryz.prog pvF:=ft_cons hasOk ft_nil
set_option maxRecDepth 100000 in
theorem proven_sx (y:StK) (s:St) (k:Int) (he:0≤s.proven∧s.proven<4294967296) :
  sx tt pvF [] (bodyOf Tryz.f181) (argF 0 [stV SN1 y s,.int .i64 k]) (rdM noC s noS) 10 (endx tt Tryz.f181.results.toList fun v _ _=>v=.bool (hasB s.proven k)∧pureV v):=by
 exact⟨_,_,rfl,he,rfl,trivial⟩
def ctProvenR:CT:=fun vs mem nx K=>∃ M y nT nC s k,vs=[stVg M y nT nC s,.int .i64 k]∧HasSt mem M nT nC s∧(0≤s.proven∧s.proven<4294967296)∧K (.bool (hasB s.proven k)) mem nx
theorem provenROk:CSound Tryz.prog 181 ctProvenR:=CSound.readsS (by kernel_rfl) (pre:=fun s k=>0≤s.proven∧s.proven<4294967296) (res:=fun s k=>.bool (hasB s.proven k)) (fun _ _=>trivial) (by
 rintro y s k w he hs
 have:=rd_calls pvFok Tryz.func181 rfl (D:=[]) (by kernel_rfl) (vs:=[stV SN1 (sk y) s,.int .i64 k]) rfl noX noC y s noA noS w (noC_ok _ _) hs (noS_ok w _) (fun v hv=>by
  simp only[List.mem_cons,List.not_mem_nil,or_false] at hv
  rcases hv with rfl | rfl
  ·exact rpl_st_ok noX noC y s noA noS
  ·trivial) (R:=fun v=>v=.bool (hasB s.proven k)) (proven_sx (sk y) s k he)
 rw[List.map_cons,rpl_st] at this
 refine this.mono ?_
 rintro e w' ⟨v,rfl,-,rfl,hb⟩
 exact⟨rfl,hb⟩)
def opF:FT:=[(181,ctProvenR)]
theorem opFok:FTok Tryz.prog opF:=ft_cons provenROk ft_nil
def opD:List (Nat×DQ):=[(1,{ k:=17,L:=[6,7,10],pre:=[(0,false),(1,false),(2,false),(3,false),(4,false),(5,false),(6,false),(7,true),(8,false),(9,false),(10,false),(11,false),(12,false),(13,false),(14,false),(15,false),(16,false)] })]
set_option maxRecDepth 100000 in
theorem open_sx (y:StK) (s:St) (k:Int) (he:0≤s.proven∧s.proven<4294967296) (hk:0≤k∧k<s.cells.length) :
  sx tt opF opD (bodyOf Tryz.f180) (argF 0 [stV SN1 y s,.int .i64 k]) (rdM noC s noS) 10 (endx tt Tryz.f180.results.toList fun v _ _=>v=.bool (openB s.proven (csAt s k))∧pureV v):=by
 refine⟨⟨Nat.le_refl _,hk.1,hk.2⟩,?_⟩
 refine⟨SN1,y,_,_,s,_,rfl,⟨rfl,rfl,.list rfl,.list rfl⟩,he,?_⟩
 refine⟨by repeat (first | exact trivial | refine⟨rfl,?_⟩),?_⟩
 unfold openB csAt
 refine⟨fun h=>?_,fun h=>?_⟩
 ·refine⟨?_,trivial⟩
  have h2:(!hasB s.proven (s.cells.getD k.toNat default).running)=true:=h
  rw[h2]
  rfl
 ·refine⟨⟨Nat.le_refl _,hk.1,hk.2⟩,?_⟩
  refine⟨SN1,y,_,_,s,_,rfl,⟨rfl,rfl,.list rfl,.list rfl⟩,he,?_⟩
  refine⟨?_,trivial⟩
  have h2:(!hasB s.proven (s.cells.getD k.toNat default).running)=false:=h
  rw[h2]
  rfl
def ctOpenR:CT:=fun vs mem nx K=>∃ M y nT nC s k,vs=[stVg M y nT nC s,.int .i64 k]∧HasSt mem M nT nC s∧((0≤s.proven∧s.proven<4294967296)∧0≤k∧k<s.cells.length)∧K (.bool (openB s.proven (csAt s k))) mem nx
theorem openROk:CSound Tryz.prog 180 ctOpenR:=CSound.readsS (by kernel_rfl) (pre:=fun s k=>(0≤s.proven∧s.proven<4294967296)∧0≤k∧k<s.cells.length) (res:=fun s k=>.bool (openB s.proven (csAt s k))) (fun _ _=>trivial) (by
 rintro y s k w ⟨he,hk⟩ hs
 have:=rd_calls opFok Tryz.func180 rfl (D:=opD) (by kernel_rfl) (vs:=[stV SN1 (sk y) s,.int .i64 k]) rfl noX noC y s noA noS w (noC_ok _ _) hs (noS_ok w _) (fun v hv=>by
  simp only[List.mem_cons,List.not_mem_nil,or_false] at hv
  rcases hv with rfl | rfl
  ·exact rpl_st_ok noX noC y s noA noS
  ·trivial) (R:=fun v=>v=.bool (openB s.proven (csAt s k))) (open_sx (sk y) s k he hk)
 rw[List.map_cons,rpl_st] at this
 refine this.mono ?_
 rintro e w' ⟨v,rfl,-,rfl,hb⟩
 exact⟨rfl,hb⟩)
/-! The result. -/
def ApS (mem:AM) (v:Value) (p:St×Int):Prop:=∃ T Cc,v=.tuple #[.agg #[.int .i64 p.1.tick,.int .i64 p.1.count,T,Cc,.int .i64 p.1.proven,.int .i64 p.1.evac,.int .i64 p.1.low,.int .i64 p.1.high],.int .i64 p.2]∧SlR mem 12 tsC default p.1.tenants T∧SlR mem 4 csC default p.1.cells Cc
theorem ApS.err {mem:AM} {p:St×Int} {n:Int} (h:p=(St.zero,n)):ApS mem (.tuple #[stZ,.int .i64 n]) p:=by
 subst h
 exact⟨zs0,zs0,rfl,.inl ⟨rfl,rfl⟩,.inl ⟨rfl,rfl⟩⟩
theorem ApS.ok {mem:AM} {p:St×Int} {s:St} {y:StK} {M:SN} {nT nC:Nat} {n:Int} (h:p=(s,n)) (hT:nT=s.tenants.length) (hC:nC=s.cells.length) (h1:NewRow mem M.t 12 tsC default s.tenants) (h2:NewRow mem M.c 4 csC default s.cells):ApS mem (.tuple #[stVg M y nT nC s,.int .i64 n]) p:=by
 subst h hT hC
 obtain⟨t1,n1,e1,q1,q2,q3,q4⟩:=h1
 obtain⟨t2,n2,e2,r1,r2,r3,r4⟩:=h2
 exact⟨_,_,rfl,.inr ⟨M.t,_,_,_,_,rfl,q1,q2,q3,q4⟩,.inr ⟨M.c,_,_,_,_,rfl,r1,r2,r3,r4⟩⟩
structure ArH (c:Cfg) (s:St) (e:Ent):Prop where
 cfg:CfgV c
 inv:StInv c s
 ent:entV c e=true
 cnt:s.count<4096
 tick:s.tick≤e.tick
theorem ArH.ref {c:Cfg} {s:St} {e:Ent} (h:ArH c s e):refusedE c s e=kindE c s e:=by
 have h1:=h.ent
 have h2:=h.cnt
 have h3:=h.tick
 unfold refusedE
 rw[if_neg (by rw[h1];decide),if_neg (by omega),if_neg (by omega)]
theorem ArH.err {c:Cfg} {s:St} {e:Ent} (h:ArH c s e) {n:Int} (hk:kindE c s e=n) (hn:n≠0):applyR c s e=(St.zero,n):=by
 unfold applyR
 rw[h.ref,hk,if_pos hn]
theorem ArH.over {c:Cfg} {s:St} {e:Ent} (h:ArH c s e) (hk:kindE c s e=0) (hf:fitsB e=true) (ho:overB c (effOf s e)=true):applyR c s e=(St.zero,10):=by
 unfold applyR
 rw[h.ref,hk,if_neg (fun q=>q rfl),if_pos ⟨hf,ho⟩]
theorem ArH.fine {c:Cfg} {s:St} {e:Ent} (h:ArH c s e) (hk:kindE c s e=0) (hf:fitsB e=true→overB c (effOf s e)=false):applyR c s e=(effOf s e,0):=by
 unfold applyR
 rw[h.ref,hk,if_neg (fun q=>q rfl),if_neg (fun⟨q1,q2⟩=>by rw[hf q1] at q2;cases q2)]
theorem ArH.tB {c:Cfg} {s:St} {e:Ent} (h:ArH c s e):0≤e.tick∧e.tick≤1073741824:=by
 have h1:=h.ent
 simp only[entV,entOk,inR,Bool.and_eq_true,decide_eq_true_eq] at h1
 omega
def LA:List Nat:=[0,1,2,3,4,5,6,7,8,9,10,11,12,13,14,15,16,17,18,19,20,21,22,23,24,25,26,27,28,29,30,31,32]
def fitF:FT:=[(193,ctOverG)]
theorem fitFok:FTok Tryz.prog fitF:=ft_cons overGOk ft_nil
abbrev ctFit:CT:=ctInl ttU fitF [] Tryz.f177 (bodyOf Tryz.f177)
theorem fitOk {I:List Nat} (hI:I.contains 177=true):CSoundI Tryz.prog I 177 ctFit:=inl_ok ttUok (fitFok.i _) mixed (by kernel_rfl) Tryz.func177 rfl (by kernel_rfl) hI
/-! ref12.granted,ref12.Cut -/
def grantedE (c:Cfg) (s:St) (e:Ent):Int:=
 let t:=tsAt s e.tenant
 let x:=csAt s e.cell
 if x.mode=3∨(x.mode=2∧e.cell≠t.home) then 6
 else if e.epoch≠t.epoch+1∧¬ (e.cell=t.home∧e.epoch=t.epoch) then 7
 else if e.n≠x.running∨x.running≠x.wanted then 8
 else if e.since<e.tick∨e.tick+c.lease<e.since∨e.till≤e.since∨c.lease<e.till-e.since∨e.since<t.win.till∨(e.cell≠t.home∧e.tick<t.win.till) then 9 else 0
theorem grantE_eq (c:Cfg) (s:St) (e:Ent):grantE c s e=if (tsAt s e.tenant).placed=false∨((tsAt s e.tenant).shed=true∧e.cell≠(tsAt s e.tenant).standby) then 4 else if e.cell≠(tsAt s e.tenant).home∧e.cell≠(tsAt s e.tenant).standby∧e.cell≠(tsAt s e.tenant).target then 5 else grantedE c s e:=rfl
def gdD:List (Nat×DQ):=[
 (5000005,{ k:=40,L:=LA,sl:=[3,4,5,6,7,8,9] }),(5000007,{ k:=40,L:=LA,sl:=[3,4,5,6,7,8,9] }),(5000009,{ k:=40,L:=LA,sl:=[3,4,5,6,7,8,9] }),(5000011,{ k:=40,L:=LA,sl:=[3,4,5,6,7,8,9] }),(5000013,{ k:=40,L:=LA,sl:=[3,4,5,6,7,8,9] })
]
abbrev gdPre (c:Cfg) (s:St) (e:Ent):Prop:=(0≤e.tenant∧e.tenant<s.tenants.length)∧(0≤e.cell∧e.cell<s.cells.length)∧(0≤e.tick∧e.tick≤1073741824)∧(0≤e.since∧e.since≤1073741824)∧(0≤e.till∧e.till≤1073741824)∧(0≤(tsAt s e.tenant).epoch∧(tsAt s e.tenant).epoch≤1048576)
set_option maxRecDepth 100000 in
set_option maxHeartbeats 4000000 in
theorem granted_sx (x:CfgK) (c:Cfg) (y:StK) (s:St) (e:Ent) (hV:CfgV c) (hp:gdPre c s e):sx tt [] gdD (bodyOf Tryz.f178) (argF 0 [cfgV CN1 x c,stV SN1 y s,entV' e]) (rdM c s noS) 10 (endx tt Tryz.f178.results.toList fun v _ _=>v=.int .i64 (grantedE c s e)∧pureV v):=by
 have hls:=hV.lease
 obtain⟨p1,p2,p3,p4,p5,p6⟩:=hp
 have p6b:0≤(s.tenants.getD e.tenant.toNat default).epoch∧(s.tenants.getD e.tenant.toNat default).epoch≤1048576:=p6
 have w1:IntKind.i64.wrap ((s.tenants.getD e.tenant.toNat default).epoch+1)=(s.tenants.getD e.tenant.toNat default).epoch+1:=wrapi (by omega)
 have w2:IntKind.i64.wrap (e.tick+c.lease)=e.tick+c.lease:=wrapi (by omega)
 have w3:IntKind.i64.wrap (e.till-e.since)=e.till-e.since:=wrapi (by omega)
 refine⟨⟨Nat.le_refl _,p1.1,p1.2⟩,?_⟩
 refine⟨⟨Nat.le_refl _,p2.1,p2.2⟩,?_⟩
 refine⟨Bool,fun b=>[(27,.bool b)],fun _=>[],fun b=>(b=true↔((s.cells.getD e.cell.toNat default).mode=3∨((s.cells.getD e.cell.toNat default).mode=2∧¬ e.cell=(s.tenants.getD e.tenant.toNat default).home))),?_,?_⟩
 ·repeat' (first | refine⟨fun _=>?_,fun h=>Bool.noConfusion h⟩ | refine⟨fun h=>Bool.noConfusion h,fun _=>?_⟩ | refine⟨fun _=>?_,fun _=>?_⟩ | refine⟨⟨Nat.le_refl _,by omega,by omega⟩,?_⟩ | fail)
  all_goals (refine⟨_,?_,kp_,kp_⟩;dsimp only;grind)
 ·rintro b1 hb1
  refine⟨⟨by decide,rfl,rfl⟩,?_⟩
  refine⟨fun qb1=>?_,fun qb1=>?_⟩
  ·unfold grantedE tsAt csAt
   refine⟨?_,trivial⟩
   congr 1
   grind
  ·refine⟨Bool,fun b=>[(40,.bool b)],fun _=>[],fun b=>(b=true↔(e.epoch≠(s.tenants.getD e.tenant.toNat default).epoch+1∧¬ (e.cell=(s.tenants.getD e.tenant.toNat default).home∧e.epoch=(s.tenants.getD e.tenant.toNat default).epoch))),?_,?_⟩
   ·repeat' (first | refine⟨fun _=>?_,fun h=>Bool.noConfusion h⟩ | refine⟨fun h=>Bool.noConfusion h,fun _=>?_⟩ | refine⟨fun _=>?_,fun _=>?_⟩ | refine⟨⟨Nat.le_refl _,by omega,by omega⟩,?_⟩ | fail)
    all_goals (refine⟨_,?_,kp_,kp_⟩;dsimp only;grind)
   ·rintro b2 hb2
    refine⟨⟨by decide,rfl,rfl⟩,?_⟩
    refine⟨fun qb2=>?_,fun qb2=>?_⟩
    ·unfold grantedE tsAt csAt
     refine⟨?_,trivial⟩
     congr 1
     grind
    ·refine⟨Bool,fun b=>[(69,.bool b)],fun _=>[],fun b=>(b=true↔(e.n≠(s.cells.getD e.cell.toNat default).running∨(s.cells.getD e.cell.toNat default).running≠(s.cells.getD e.cell.toNat default).wanted)),?_,?_⟩
     ·repeat' (first | refine⟨fun _=>?_,fun h=>Bool.noConfusion h⟩ | refine⟨fun h=>Bool.noConfusion h,fun _=>?_⟩ | refine⟨fun _=>?_,fun _=>?_⟩ | refine⟨⟨Nat.le_refl _,by omega,by omega⟩,?_⟩ | fail)
      all_goals (refine⟨_,?_,kp_,kp_⟩;dsimp only;grind)
     ·rintro b3 hb3
      refine⟨⟨by decide,rfl,rfl⟩,?_⟩
      refine⟨fun qb3=>?_,fun qb3=>?_⟩
      ·unfold grantedE tsAt csAt
       refine⟨?_,trivial⟩
       congr 1
       grind
      ·refine⟨Bool,fun b=>[(82,.bool b)],fun _=>[],fun b=>(b=true↔(e.since<e.tick∨e.tick+c.lease<e.since∨e.till≤e.since∨c.lease<e.till-e.since∨e.since<(s.tenants.getD e.tenant.toNat default).win.till)),?_,?_⟩
       ·repeat' (first | refine⟨fun _=>?_,fun h=>Bool.noConfusion h⟩ | refine⟨fun h=>Bool.noConfusion h,fun _=>?_⟩ | refine⟨fun _=>?_,fun _=>?_⟩ | refine⟨⟨Nat.le_refl _,by omega,by omega⟩,?_⟩ | fail)
        all_goals (refine⟨_,?_,kp_,kp_⟩;dsimp only;grind)
       ·rintro b4 hb4
        refine⟨⟨by decide,rfl,rfl⟩,?_⟩
        refine⟨fun qb4=>?_,fun qb4=>?_⟩
        ·unfold grantedE tsAt csAt
         refine⟨?_,trivial⟩
         congr 1
         grind
        ·refine⟨Bool,fun b=>[(123,.bool b)],fun _=>[],fun b=>(b=true↔(¬ e.cell=(s.tenants.getD e.tenant.toNat default).home∧e.tick<(s.tenants.getD e.tenant.toNat default).win.till)),?_,?_⟩
         ·repeat' (first | refine⟨fun _=>?_,fun h=>Bool.noConfusion h⟩ | refine⟨fun h=>Bool.noConfusion h,fun _=>?_⟩ | refine⟨fun _=>?_,fun _=>?_⟩ | refine⟨⟨Nat.le_refl _,by omega,by omega⟩,?_⟩ | fail)
          all_goals (refine⟨_,?_,kp_,kp_⟩;dsimp only;grind)
         ·rintro b5 hb5
          refine⟨⟨by decide,rfl,rfl⟩,?_⟩
          refine⟨fun qb5=>?_,fun qb5=>?_⟩
          ·unfold grantedE tsAt csAt
           refine⟨?_,trivial⟩
           congr 1
           grind
          ·unfold grantedE tsAt csAt
           refine⟨?_,trivial⟩
           congr 1
           grind
def ctGrantedR:CT:=fun vs mem nx K=>∃ N x c M y nT nC s e,vs=[cfgV N x c,stVg M y nT nC s,entV' e]∧(keeps mem (cfgM N c)∧HasSt mem M nT nC s)∧(CfgV c∧gdPre c s e)∧K (.int .i64 (grantedE c s e)) mem nx
theorem grantedROk:CSound Tryz.prog 178 ctGrantedR:=⟨by kernel_rfl,fun {C ρ fr mem nx a w vs K} hc hs hv=>by
 obtain⟨N,x,c,M,y,nT,nC,s,e,rfl,⟨h1,h2⟩,⟨hV,hp⟩,hK⟩:=hc
 obtain⟨rfl,rfl,h3,h4⟩:=h2
 have e0:([cfgV N x c,stV M y s,entV' e].map (den ρ)).toArray=#[.agg (cfgC (cfgX ρ N x) c),.agg (stC (stX ρ M y) s),entV' e]:=by
  rw[List.map_cons,List.map_cons,den_cfg,den_st]
  simp[den,den2,den1]
 rw[e0]
 have hcc:=hs.cfg (x:=x) h1 (S:=(·<w.heap.size)) (fun b h _=>h)
 have hss:=hs.stRow (y:=y) h3 h4
 have:=rd_calls ft_nil Tryz.func178 rfl (D:=gdD) (by kernel_rfl) (vs:=[cfgV CN1 (ck (cfgX ρ N x)) c,stV SN1 (sk (stX ρ M y)) s,entV' e]) rfl (cfgX ρ N x) c (stX ρ M y) s noA noS w hcc hss (noS_ok w _) (fun v hv=>by
  simp only[List.mem_cons,List.not_mem_nil,or_false] at hv
  rcases hv with rfl | rfl | rfl
  ·exact rpl_cfg_ok _ c _ s noA noS
  ·exact rpl_st_ok _ c _ s noA noS
  ·exact (pure_den (pure_ent e) _ _).2) (R:=fun v=>v=.int .i64 (grantedE c s e)) (granted_sx _ c _ s e hV hp)
 rw[List.map_cons,List.map_cons,rpl_cfg,rpl_st,List.map_cons,(pure_den (pure_ent e) _ 0).1] at this
 refine this.mono ?_
 rintro r w' ⟨v,rfl,-,rfl,hb⟩
 exact⟨.int .i64 (grantedE c s e),mem,nx,ρ,rfl,hK,hs.later hb,trivial,ExtS.refl _ _⟩⟩
abbrev winV (x:Win):Value:=.agg #[.int .i64 x.cell,.int .i64 x.epoch,.int .i64 x.version,.int .i64 x.since,.int .i64 x.till]
theorem pure_win (x:Win):pureV (winV x):=fun v hv=>by
 simp at hv
 rcases hv with rfl | rfl | rfl | rfl | rfl<;>trivial
def ctCutW:CT:=fun vs mem nx K=>∃ (x:Win) (t:Int),vs=[winV x,.int .i64 t]∧(-1000000000000≤t∧t≤1000000000000)∧K (winV (cutW x t)) mem nx
set_option maxRecDepth 100000 in
theorem cut_sx (x:Win) (t:Int) (ht:-1000000000000≤t∧t≤1000000000000):sx tt [] [] (bodyOf Tryz.f179) (argF 0 [winV x,.int .i64 t]) (rdM noC noS noS) 10 (endx tt Tryz.f179.results.toList fun v _ _=>v=winV (cutW x t)∧pureV v):=by
 have w1:IntKind.i64.wrap (t+1)=t+1:=wrapi (by omega)
 have hm:∀ a b:Int,(if b<a then b else a)=min a b:=fun a b=>by rw[Int.min_def];split<;>split<;>omega
 refine⟨?_,?_⟩
 ·show Value.agg #[_,_,_,.int .i64 (if (if IntKind.i64.wrap (t+1)<x.till then IntKind.i64.wrap (t+1) else x.till)<x.since then (if IntKind.i64.wrap (t+1)<x.till then IntKind.i64.wrap (t+1) else x.till) else x.since),.int .i64 (if IntKind.i64.wrap (t+1)<x.till then IntKind.i64.wrap (t+1) else x.till)]=_
  rw[w1,hm,hm]
  rfl
 ·intro u hu
  simp at hu
  rcases hu with rfl | rfl | rfl | rfl | rfl<;>trivial
theorem cutWOk:CSound Tryz.prog 179 ctCutW:=CSound.pure (by kernel_rfl) (by
 rintro vs mem nx K ⟨x,t,rfl,ht,hK⟩
 refine⟨_,hK,fun ρ n=>pure_den (pure_win _) ρ n,fun ρ w=>?_⟩
 have:=rd_calls ft_nil Tryz.func179 rfl (D:=[]) (by kernel_rfl) (vs:=[winV x,.int .i64 t]) rfl noX noC noA noS noA noS w (noC_ok _ _) (noS_ok w _) (noS_ok w _) (fun v hv=>by
  simp only[List.mem_cons,List.not_mem_nil,or_false] at hv
  rcases hv with rfl | rfl
  ·exact (pure_den (pure_win x) _ _).2
  ·trivial) (R:=fun v=>v=winV (cutW x t)) (cut_sx x t ht)
 rw[List.map_cons,(pure_den (pure_win x) _ 0).1] at this
 rw[List.map_cons,(pure_den (pure_win x) _ 0).1]
 refine this.mono ?_
 rintro e w' ⟨v,rfl,-,rfl,hb⟩
 exact⟨rfl,hb⟩)
end Go.Proofs.YtchhdflealgkaaaGreat
