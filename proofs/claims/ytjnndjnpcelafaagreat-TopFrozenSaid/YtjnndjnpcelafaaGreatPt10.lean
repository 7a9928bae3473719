import Derived.Test.YtjnndjnpcelafaaGreatPt09
namespace Go.Proofs.YtjnndjnpcelafaaGreat
set_option maxHeartbeats 16000000
set_option maxRecDepth 100000
open Go.RowKit
set_option linter.unusedSimpArgs false
set_option linter.unusedVariables false
def zew (e:Ent) (nt nc nr nv:Int):Bool:=
 inR e.kind 1 16&&inR e.tick 0 1073741824&&zeg (zcP e.kind 116) (zcP e.kind 99) (zcP e.kind 67) (zcP e.kind 111) (zcP e.kind 114) e nt nc nr &&
  zdQ (zcP e.kind 101) (zcP e.kind 119) (zcP e.kind 118) (zcP e.kind 98) (zcP e.kind 109) (zcP e.kind 110) e nv
theorem zm8 (e:Ent) (nt nc nr nv:Int):zew e nt nc nr nv=zaN nt nc nr nv e:=by
 obtain⟨kind,tick,tenant,cell,other,epoch,since,till,n⟩:=e;by_cases hk:inR kind 1 16=true
 ·have hb:1<=kind/\kind<=16:=by simp[inR] at hk;omega
  have hk16:kind=1∨kind=2∨kind=3∨kind=4∨kind=5∨kind=6∨kind=7∨kind=8∨kind=9∨kind=10∨kind=11∨kind=12∨kind=13∨kind=14∨kind=15∨kind=16:=by omega
  clear hb hk;rcases hk16 with rfl | rfl | rfl | rfl | rfl | rfl | rfl | rfl | rfl | rfl | rfl | rfl | rfl | rfl | rfl | rfl
  all_goals
   rw[Bool.eq_iff_iff];simp[zew,zaN,zeg,zdQ,zcP,zii,inS,inR,fT,fC,fO,fE,fW,fN];try omega
 ·have hk':inR kind 1 16=false:=by simpa using hk
  simp[zew,zaN,hk']
theorem ziE (e:Ent) (nt nc nr nv:Int) (w:World) (hv:0<=nt) (hv2:nt<=100) (hw:0<=nc) (hw2:nc<=100) (hx:0<=nr) (hx2:nr<=100) (hy:0<=nv) (hy2:nv<=100) :
  Calls Tryz.prog 144 #[.agg (zbe e).toArray,.int .i64 nt,.int .i64 nc,.int .i64 nr,.int .i64 nv] w fun x w'=>x=.returned (.bool (zaN nt nc nr nv e))/\Below w.heap.size w w':=by
 rw[← zm8];by_cases hk:inR e.kind 1 16=true
 ·have hb:1<=e.kind/\e.kind<=16:=by simp[inR] at hk;omega
  by_cases ht:inR e.tick 0 1073741824=true
  ·have HP:=Lib.hid (fun W=>zhy e nt nc nr W hb.1 hb.2 hv hv2 hw hw2 hx hx2);have HN:=Lib.hid (fun W=>zgO e nv W hb.1 hb.2 hy hy2)
   have HR:Hid (zew e nt nc nr nv=(zeg (zcP e.kind 116) (zcP e.kind 99) (zcP e.kind 67) (zcP e.kind 111) (zcP e.kind 114) e nt nc nr &&
    zdQ (zcP e.kind 101) (zcP e.kind 119) (zcP e.kind 118) (zcP e.kind 98) (zcP e.kind 109) (zcP e.kind 110) e nv)):=Lib.hid (by unfold zew;rw[hk,ht];simp)
   clear hb;generalize zeg _ _ _ _ _ _ _ _ _=pb at *;generalize zdQ _ _ _ _ _ _ _ _=nb at *;obtain⟨kind,tick,tenant,cell,other,epoch,since,till,n⟩:=e;unfold zbe at *;simp only at *;have hbx:=Blk.new w 43 #[.int .i64 kind,.int .i64 tick,.int .i64 tenant,.int .i64 cell,.int .i64 other,.int .i64 epoch,.int .i64 since,.int .i64 till,.int .i64 n];have hbel:=(Below.refl w.heap.size w).alloc nl_ (.cells #[.int .i64 kind,.int .i64 tick,.int .i64 tenant,.int .i64 cell,.int .i64 other,.int .i64 epoch,.int .i64 since,.int .i64 till,.int .i64 n] 43);have c0:=hbx.cell' (i:=0) (v:=.int .i64 kind) rfl;have c1:=hbx.cell' (i:=1) (v:=.int .i64 tick) rfl;have c2:=hbx.cell' (i:=2) (v:=.int .i64 tenant) rfl;have c3:=hbx.cell' (i:=3) (v:=.int .i64 cell) rfl;have c4:=hbx.cell' (i:=4) (v:=.int .i64 other) rfl;have c5:=hbx.cell' (i:=5) (v:=.int .i64 epoch) rfl;have c6:=hbx.cell' (i:=6) (v:=.int .i64 since) rfl;have c7:=hbx.cell' (i:=7) (v:=.int .i64 till) rfl;have c8:=hbx.cell' (i:=8) (v:=.int .i64 n) rfl;go_enter Tryz.func144,Tryz.ntmps144;go_wp2_with (go_at_call 209;(with_reducible refine (zcq _ _ _ _).mono ?_);rintro x wq ⟨rfl,rfl⟩);refine (HP.out _).mono ?_;rintro x w1 ⟨rfl,hb1⟩;replace hbel:=hbel.trans (hb1.mono hbel.size);replace hbx:=hbx.below hb1 hbx.lt;replace c0:=hbx.cell' (i:=0) (v:=.int .i64 kind) rfl;replace c1:=hbx.cell' (i:=1) (v:=.int .i64 tick) rfl;replace c2:=hbx.cell' (i:=2) (v:=.int .i64 tenant) rfl;replace c3:=hbx.cell' (i:=3) (v:=.int .i64 cell) rfl;replace c4:=hbx.cell' (i:=4) (v:=.int .i64 other) rfl;replace c5:=hbx.cell' (i:=5) (v:=.int .i64 epoch) rfl;replace c6:=hbx.cell' (i:=6) (v:=.int .i64 since) rfl;replace c7:=hbx.cell' (i:=7) (v:=.int .i64 till) rfl;replace c8:=hbx.cell' (i:=8) (v:=.int .i64 n) rfl;clear hb1;cases pb
   ·go_wp2;go_ret;exact⟨zak (by rw[HR.out];rfl),hbel⟩
   ·go_wp2_with fail;refine (HN.out _).mono ?_;rintro x w2 ⟨rfl,hb2⟩;replace hbel:=hbel.trans (hb2.mono hbel.size);clear hbx c0 c1 c2 c3 c4 c5 c6 c7 c8 hb2;go_wp2;go_ret;exact⟨zak (by rw[HR.out];rfl),hbel⟩
  ·have ht':inR e.tick 0 1073741824=false:=by simpa using ht
   have HR:Hid (zew e nt nc nr nv=false):=Lib.hid (by unfold zew;rw[hk,ht'];simp);obtain⟨kind,tick,tenant,cell,other,epoch,since,till,n⟩:=e;unfold zbe;simp only at *;go_enter Tryz.func144,Tryz.ntmps144;go_wp2_with (go_at_call 209;(with_reducible refine (zcq _ _ _ _).mono ?_);rintro x wq ⟨rfl,rfl⟩);go_ret;exact⟨zak HR.out.symm,(Below.refl _ _).alloc nl_ _⟩
 ·have hk':inR e.kind 1 16=false:=by simpa using hk
  have HR:Hid (zew e nt nc nr nv=false):=Lib.hid (by unfold zew;rw[hk'];simp);obtain⟨kind,tick,tenant,cell,other,epoch,since,till,n⟩:=e;unfold zbe;simp only at *;go_enter Tryz.func144,Tryz.ntmps144;go_wp2_with (go_at_call 209;(with_reducible refine (zcq _ _ _ _).mono ?_);rintro x wq ⟨rfl,rfl⟩);go_ret;exact⟨zak HR.out.symm,(Below.refl _ _).alloc nl_ _⟩
theorem ziF (x:CfgA) (c:Cfg) (e:Ent) (w:World) (hV:CfgV c) :
  Calls Tryz.prog 72 #[.agg (zaH x c),.agg (zbe e).toArray] w fun r w'=>r=.returned (.bool (zca c e))/\Below w.heap.size w w':=by
 obtain⟨az,cz,ac,cc,at_,ct,av,cv,ar,cr,ao,co⟩:=x;have h1:=hV.nt;have h2:=hV.nc;have h3:=hV.reg;have h4:=hV.nv;have m1:min (c.tenants.length:Int) 32=c.tenants.length:=by omega
 have m2:min (c.cells.length:Int) 16=c.cells.length:=by omega
 have m3:min c.regions 4=c.regions:=by omega
 have m4:min (c.versions.length:Int) 30=c.versions.length:=by omega
 have HR:=Lib.hid (fun W=>ziE e c.tenants.length c.cells.length c.regions c.versions.length W o_ o_ o_ o_ o_ o_ o_ o_);clear hV;obtain⟨kind,tick,tenant,cell,other,epoch,since,till,n⟩:=e;unfold zbe at *;unfold zaH;simp only at *;go_enter Tryz.func72,Tryz.ntmps72;go_wp2_with fail;refine (HR.out _).mono ?_;rintro r w1 ⟨rfl,hb⟩;have HB:=Lib.hid ((((Below.refl w.heap.size w).alloc nl_ _).alloc (by simp) _).trans (hb.mono (by simp;omega)));clear hb m1 m2 m3 m4;go_wp2;go_ret;exact⟨rfl,HB.out⟩
theorem CSound.mono {P:Program} {f:FuncId} {ct ct':CT} (h:CSound P f ct) (hi:∀ vs mem nx K,ct' vs mem nx K->ct vs mem nx K):CSound P f ct':=⟨h.ent,fun {C ρ fr mem nx a w vs K} hc hs hv=>h.run (hi vs mem nx K hc) hs hv⟩
def ctMay:CT:=fun vs mem nx K=>∃ N x c t k,vs=[zaX N x c,.int .i64 t,.int .i64 k]/\(keeps mem (zcH N c))/\(CfgV c)/\K (.bool (ze4 c t k)) mem nx
theorem mayOk:CSound Tryz.prog 142 ctMay:=(zfM (R:=fun l z=>∃ c t k,l=[.cf c,.vl (.int .i64 t),.vl (.int .i64 k)]/\z=.bool (ze4 c t k)) (pre:=fun l=>∃ c t k,l=[.cf c,.vl (.int .i64 t),.vl (.int .i64 k)]/\(CfgV c)) k_ (by
 rintro ps w ⟨c,t,k,hps,hpre⟩ hok;obtain⟨x,ps0,rfl,hps0⟩:=dt_c hps;obtain⟨ps1,rfl,hps1⟩:=zif hps0;obtain⟨ps2,rfl,hps2⟩:=zif hps1;obtain rfl:=zdE hps2;have hpc:=hok (.cf x c) (by simp);refine (zfG x c t k w hpre hpc).mono ?_;rintro e w' ⟨rfl,hb⟩
 exact⟨_,⟨c,t,k,rfl,rfl⟩,trivial,rfl,hb⟩)).mono (by
 rintro vs mem nx K ⟨N,x,c,t,k,rfl,hk,hpre,hK⟩
 exact⟨[.cf N x c,.vl _,.vl _],rfl,⟨hk,trivial,trivial,trivial⟩,⟨_,_,_,rfl,hpre⟩,by rintro z ⟨c',t',k',hl,hz⟩;cases hl;subst hz;exact hK⟩)
def ctApart:CT:=fun vs mem nx K=>∃ N x c t k,vs=[zaX N x c,.int .i64 t,.int .i64 k]/\(keeps mem (zcH N c))/\(CfgV c)/\K (.bool (zco c t k)) mem nx
theorem apartOk:CSound Tryz.prog 143 ctApart:=(zfM (R:=fun l z=>∃ c t k,l=[.cf c,.vl (.int .i64 t),.vl (.int .i64 k)]/\z=.bool (zco c t k)) (pre:=fun l=>∃ c t k,l=[.cf c,.vl (.int .i64 t),.vl (.int .i64 k)]/\(CfgV c)) k_ (by
 rintro ps w ⟨c,t,k,hps,hpre⟩ hok;obtain⟨x,ps0,rfl,hps0⟩:=dt_c hps;obtain⟨ps1,rfl,hps1⟩:=zif hps0;obtain⟨ps2,rfl,hps2⟩:=zif hps1;obtain rfl:=zdE hps2;have hpc:=hok (.cf x c) (by simp);refine (zfH x c t k w hpre hpc).mono ?_;rintro e w' ⟨rfl,hb⟩
 exact⟨_,⟨c,t,k,rfl,rfl⟩,trivial,rfl,hb⟩)).mono (by
 rintro vs mem nx K ⟨N,x,c,t,k,rfl,hk,hpre,hK⟩
 exact⟨[.cf N x c,.vl _,.vl _],rfl,⟨hk,trivial,trivial,trivial⟩,⟨_,_,_,rfl,hpre⟩,by rintro z ⟨c',t',k',hl,hz⟩;cases hl;subst hz;exact hK⟩)
theorem zkI (kind tick:Int) (w:World):Calls Tryz.prog 67 #[.int .i64 kind,.int .i64 tick] w fun r w'=>r=.returned (.agg (zbe ⟨kind,tick,-1,-1,-1,0,0,0,0⟩).toArray)/\Below w.heap.size w w':=by
 go_enter Tryz.func67,Tryz.ntmps67;go_wp2;refine bodyPost_ret (v:=.agg #[.int .i64 kind,.int .i64 tick,.int .i64 (-1),.int .i64 (-1),.int .i64 (-1),.int .i64 0,.int .i64 0,.int .i64 0,.int .i64 0]) (by simp[results,Tryz.results67,go_sem]) rfl ?_;exact⟨rfl,(Below.refl _ _).alloc nl_ _⟩
theorem ziR (A:Option Addr) (n cp:Nat) (w:World) (hn:n<=maxLen):Calls Tryz.prog 6 #[.slice A n cp] w fun r w'=>r=.returned (.bool (decide (n<=200)))/\w=w':=by
 unfold maxLen at hn;go_enter Tryz.func6,Tryz.ntmps6;go_wp2;go_ret;refine⟨zak ?_,rfl⟩;rw[Bool.eq_iff_iff];simp;try omega
def CN0:CN:=⟨2,3,4,5,6,7,3⟩
def SN0:SN:=⟨8,9,3⟩
def gpl (g:Nat) (A:Option Addr) (n:Nat) (x:CfgA) (c:Cfg) (y:StA) (s:St):Nat->Pl:=fun j=>match j with
 | 0=>⟨some ⟨g,0,none⟩,0,0,false,za4⟩
 | 1=>⟨A,1,n,false,za4⟩
 | 2=>⟨x.az,1,c.zones.length,false,za4⟩
 | 3=>⟨x.ac,2,c.cells.length,false,za4⟩
 | 4=>⟨x.at_,7,c.tenants.length,false,za4⟩
 | 5=>⟨x.av,2,c.versions.length,false,za4⟩
 | 6=>⟨x.ar,1,c.replicas.length,false,za4⟩
 | 7=>⟨x.ao,1,c.observers.length,false,za4⟩
 | 8=>⟨y.at_,12,s.tenants.length,false,za4⟩
 | _=>⟨y.ac,4,s.cells.length,false,za4⟩
theorem zfU {f:FuncId} {fn:Func} {F:FT} {D:List (Nat×DQ)} (hF:FTok Tryz.prog F) (hf:(Tryz.prog).funcs[f]?=some fn) (hb:fn.body=some (za1 fn)) (hcode:zc6 fn.ntmps D (za1 fn)=true) {args:List Value} (hn:Nat.ble (args.length+3) fn.ntmps=true) (hargs:∀ v ∈ args,zbJ v)
  (g:Nat) (A:Option Addr) (cap:Nat) (zs:List Int) (k:Int) (x:CfgA) (c:Cfg) (y:StA) (s:St) (w:World) (ht:TpAt w g A cap zs k) (hc:CfgOk w (fun b=>b≠g/\b<w.heap.size) x c) (hs:StOk w (fun b=>b≠g/\b<w.heap.size) y s) {R:Value->Int->Prop}
  (h:sx tt F D (za1 fn) (zb3 0 (ptr 0::zaX CN0 ⟨x.cz,x.cc,x.ct,x.cv,x.cr,x.co⟩ c::stV SN0 ⟨y.ct,y.cc⟩ s::args)) ((0,zaU 1 zs.length cap k)::(1,zb6 zs)::(zcH CN0 c++stM SN0 s)) 10 (zb8 tt fn.results.toList fun v mem' _=>∃ k',R v k'/\zbJ v/\lk mem' 0=some (zaU 1 zs.length cap k'))) :
  Calls Tryz.prog f (.pointer (some ⟨g,0,none⟩)::.agg (zaH x c)::.agg (stC y s)::args).toArray w fun e w'=>∃ v k',R v k'/\zbJ v/\e=.returned v/\TpAt w' g A cap zs k'/\w.grownBy w' (some g):=by
 have hpc:CfgPl (gpl g A zs.length x c y s) CN0 x c:=⟨rfl,rfl,rfl,rfl,rfl,rfl⟩;have hps:StPl (gpl g A zs.length x c y s) SN0 y s:=⟨rfl,rfl⟩;have hrow:∀ C nx,BlkOk C (gpl g A zs.length x c y s) nx 1 w (zb6 zs):=fun C nx=>zaL (enc:=zaw) (sz:=1) (fun _=>rfl) o_ zaS 0 rfl ht.row (fun b hb=>hb.2)
 have hblk:zdI { w0:=w,bor:=[g],n0:=10,ρ0:=gpl g A zs.length x c y s,nt:=fn.ntmps } (gpl g A zs.length x c y s) 10 w ((1,zb6 zs)::(zcH CN0 c++stM SN0 s)):=
  ⟨⟨o_,rfl,hrow _ _⟩,zcR hpc hc (fun b hb=>hb.2) d_ (by have:=zed (C:={ w0:=w,bor:=[g],n0:=10,ρ0:=gpl g A zs.length x c y s,nt:=fn.ntmps }) (nx:=10) (r:=[]) hps hs (fun b hb=>hb.2) d_ trivial;exact this)⟩
 have hap:∀ j t sz n el,lk ((1,zb6 zs)::(zcH CN0 c++stM SN0 s)) j=some (.row t sz n el)->n=0∨bno (gpl g A zs.length x c y s) j≠some g:=by
  have one:∀ {α:Type} {enc:α->List Value} {sz:Nat} (hsz:∀ x,(enc x).length=sz) (hpos:0<sz) {l:List α} {Ar:Option Addr},Rd w (fun b=>b≠g/\b<w.heap.size) Ar (zaJ enc l)->l.length=0∨Ar.map (·.block)≠some g:=by
   intro α enc sz hsz hpos l Ar hrd;by_cases h0:l.length=0
   ·exact .inl h0
   ·obtain⟨b,off,x,hA,hb,-,-⟩:=hrd.row hsz hpos (k:=0) o_;subst hA;exact .inr (by simp;exact hb.1)
  intro j t sz n el hj;rcases za5 hj with⟨rfl,q⟩ | ⟨_,hj⟩
  ·cases q;exact one (enc:=zaw) (sz:=1) (fun _=>rfl) o_ ht.row
  rcases za5 hj with⟨rfl,q⟩ | ⟨_,hj⟩
  ·cases q;exact one (enc:=zaw) (sz:=1) (fun _=>rfl) o_ hc.zones
  rcases za5 hj with⟨rfl,q⟩ | ⟨_,hj⟩
  ·cases q;exact one (enc:=zaI) (sz:=2) (fun _=>rfl) o_ hc.cells
  rcases za5 hj with⟨rfl,q⟩ | ⟨_,hj⟩
  ·cases q;exact one (enc:=zd8) (sz:=7) (fun _=>rfl) o_ hc.tenants
  rcases za5 hj with⟨rfl,q⟩ | ⟨_,hj⟩
  ·cases q;exact one (enc:=zaI) (sz:=2) (fun _=>rfl) o_ hc.versions
  rcases za5 hj with⟨rfl,q⟩ | ⟨_,hj⟩
  ·cases q;exact one (enc:=zaw) (sz:=1) (fun _=>rfl) o_ hc.replicas
  rcases za5 hj with⟨rfl,q⟩ | ⟨_,hj⟩
  ·cases q;exact one (enc:=zaw) (sz:=1) (fun _=>rfl) o_ hc.observers
  rcases za5 hj with⟨rfl,q⟩ | ⟨_,hj⟩
  ·cases q;exact one (enc:=tsC) (sz:=12) (fun _=>rfl) o_ hs.tenants
  rcases za5 hj with⟨rfl,q⟩ | ⟨_,hj⟩
  ·cases q;exact one (enc:=csC) (sz:=4) (fun _=>rfl) o_ hs.cells
  ·simp[lk] at hj
 have hm:=MemAt.one (ρ:=gpl g A zs.length x c y s) (nx:=10) (nt:=fn.ntmps) (w:=w) (mem:=(1,zb6 zs)::(zcH CN0 c++stM SN0 s)) (g:=g) (i:=0) (t:=144) (cs:=[slc 1 zs.length cap,.int .i64 k]) trivial o_ rfl
  ⟨g,rfl,by
   have:=ht.blk
   simpa [zal,zau,zaq,gpl] using this,.inr (by simp),fun v hv=>by
    simp at hv
    rcases hv with rfl | rfl
    ·exact⟨show (1:Nat)<10 by decide,rfl⟩
    ·trivial⟩ hblk hap
 have hargs2:(ptr 0::zaX CN0 ⟨x.cz,x.cc,x.ct,x.cv,x.cr,x.co⟩ c::stV SN0 ⟨y.ct,y.cc⟩ s::args).map (den (gpl g A zs.length x c y s))=.pointer (some ⟨g,0,none⟩)::.agg (zaH x c)::.agg (stC y s)::args:=by
  rw[List.map_cons,List.map_cons,List.map_cons];refine congr (congrArg List.cons rfl) (congr (congrArg List.cons ?_) (congr (congrArg List.cons ?_) ?_))
  ·exact zaP _ CN0 _ c
  ·exact zc3 _ SN0 _ s
  ··conv=>rhs;rw[← List.map_id args]
    exact List.map_congr_left fun v hv=>(zag (hargs v hv) _ 0).1
 rw[← hargs2];refine (zcu zg6 hF mixed hf hb hcode (vs:=ptr 0::zaX CN0 ⟨x.cz,x.cc,x.ct,x.cv,x.cr,x.co⟩ c::stV SN0 ⟨y.ct,y.cc⟩ s::args) hn ⟨rfl,rfl⟩ rfl hm (fun v hv=>?_) h).mono ?_
 ·rcases List.mem_cons.1 hv with rfl | hv
  ·exact⟨⟨show (0:Nat)<10 by decide,rfl⟩,⟨g,0,rfl⟩,fun k hk=>by cases hk⟩
  ·rcases List.mem_cons.1 hv with rfl | hv
   ·intro u hu;simp at hu;rcases hu with rfl | rfl | rfl | rfl | rfl | rfl | rfl | rfl | rfl | rfl<;>first | trivial | exact⟨d_,rfl⟩
   ·rcases List.mem_cons.1 hv with rfl | hv
    ·intro u hu;simp at hu;rcases hu with rfl | rfl | rfl | rfl | rfl | rfl | rfl | rfl<;>first | trivial | exact⟨d_,rfl⟩
    ·exact (zag (hargs v hv) _ _).2
 ·rintro e w' ⟨v,mem',nx',ρ',rfl,⟨k',hr,hpl,hlk⟩,-,hm'⟩;have e0:ρ' 0=gpl g A zs.length x c y s 0:=hm'.low 0 (show (0:Nat)<10 by decide);have e1:ρ' 1=gpl g A zs.length x c y s 1:=hm'.low 1 (show (1:Nat)<10 by decide);obtain⟨g',hA,hb,-,-⟩:=hm'.blk 0 _ hlk;rw[e0] at hA;cases hA
  have hgr:w.grownBy w' (some g):=⟨hm'.rest.os,hm'.rest.tape,hm'.rest.output,hm'.rest.size,fun b hlt hne=>hm'.rest.block b hlt (by simp;intro q;exact hne (by rw[q]))⟩;refine⟨v,k',hr,hpl,by rw[(zag hpl ρ' 0).1],⟨?_,?_⟩,hgr⟩
  ·exact (ht.row.keep fun b hb=>hgr.block b hb.2 (by intro q;injection q with q;exact hb.1 q)).more fun b hb=>⟨hb.1,Nat.lt_of_lt_of_le hb.2 hgr.size⟩
  ·simpa [zal,zau,zaq,e1,gpl] using hb
def ctGen (R:List Int->Cfg->St->List Value->Int->Value->Int->Prop) (pre:Cfg->St->List Value->Int->Prop):CT:=fun vs mem nx K=>∃ i r cap zs k N x c M y s args,vs=ptr i::zaX N x c::stV M y s::args/\(lk mem i=some (zaU r (zs:List Int).length cap k)/\lk mem r=some (zb6 zs))/\keeps mem (zcH N c)/\keeps mem (stM M s)/\
 (zs.length<=400/\0<=k/\k<=900000)/\pre c s args k/\∀ z k',R zs c s args k z k'->K z ((i,zaU r zs.length cap k')::mem) nx
theorem genOk {f : FuncId} {R : List Int -> Cfg -> St -> List Value -> Int -> Value -> Int -> Prop} {pre : Cfg -> St -> List Value -> Int -> Prop} (ent : ((Tryz.prog).funcs[f]?).map (fun fn => (fn.name == "runtime.NumGoroutine", fn.body.isNone)) = some (false, false))
  (hpre:∀ c s args k,pre c s args k->∀ v ∈ args,zbJ v)
  (h:∀ args g A cap zs k x c y s w,zs.length<=400->0<=k->k<=900000->pre c s args k->TpAt w g A cap zs k->CfgOk w (fun b=>b≠g/\b<w.heap.size) x c->StOk w (fun b=>b≠g/\b<w.heap.size) y s->
   Calls Tryz.prog f (.pointer (some ⟨g,0,none⟩)::.agg (zaH x c)::.agg (stC y s)::args).toArray w fun e w'=>∃ v k',R zs c s args k v k'/\zbJ v/\e=.returned v/\TpAt w' g A cap zs k'/\w.grownBy w' (some g)):CSound Tryz.prog f (ctGen R pre):=
 ⟨ent,fun {C ρ fr mem nx a w vs K} hc hs hv=>by
  obtain⟨i,r,cap,zs,k,N,x,c,M,y,s,args,rfl,⟨hi,hr⟩,hkc,hks,⟨hz,hk0,hk1⟩,hp,hK⟩:=hc
  obtain⟨g,hA,ht,hok⟩:=hs.tape hi hr
  have hargs:=hpre c s args k hp
  have hvs:(ptr i::zaX N x c::stV M y s::args).map (den ρ)=.pointer (some ⟨g,0,none⟩)::.agg (zaH (zdp ρ N x) c)::.agg (stC (stX ρ M y) s)::args:=by
   rw[List.map_cons,List.map_cons,List.map_cons,zaP,zc3]
   refine congr (congrArg List.cons ?_) (congr (congrArg List.cons rfl) (congr (congrArg List.cons rfl) ?_))
   ·simp[den,zaW,zal,zau,zaq,hA]
   ·conv=>rhs;rw[← List.map_id args]
    exact List.map_congr_left fun v hv=>(zag (hargs v hv) _ 0).1
  rw[hvs]
  have hS:∀ b,b<w.heap.size->(∀ j t cs,lk mem j=some (.box t cs)->bno ρ j≠some b)->(fun b=>b≠g/\b<w.heap.size) b:=fun b hlt hb=>⟨by rintro rfl;exact hb i _ _ hi (by simp[bno,hA]),hlt⟩
  refine (h args g (ρ r).A cap zs k (zdp ρ N x) c (stX ρ M y) s w hz hk0 hk1 hp ht (hs.cfg hkc hS) (hs.st hks hS)).mono ?_
  rintro e w' ⟨v,k',hR,hpl,rfl,ht',hg⟩
  refine⟨v,_,nx,ρ,by rw[(zag hpl ρ 0).1],hK v k' hR,hs.grownBox (cs':=[slc r zs.length cap,.int .i64 k']) hi hA hg ?_ ?_,(zag hpl ρ nx).2,ExtS.refl _ _⟩
  ·simpa [zal,zau,zaq] using ht'.blk
  ·intro u hu
   simp at hu
   rcases hu with rfl | rfl
   ·exact hok
   ·trivial⟩
def ctNone:CT:=fun vs mem nx K=>∃ kind tick,vs=[.int .i64 kind,.int .i64 tick]/\K (.agg #[.int .i64 kind,.int .i64 tick,.int .i64 (-1),.int .i64 (-1),.int .i64 (-1),.int .i64 0,.int .i64 0,.int .i64 0,.int .i64 0]) mem nx
theorem noneOk:CSound Tryz.prog 67 ctNone:=⟨k_,fun {C ρ fr mem nx a w vs K} hc hs hv=>by
 obtain⟨kind,tick,rfl,hK⟩:=hc;refine (zkI kind tick w).mono ?_;rintro e w' ⟨rfl,hb⟩;have hp:zbJ (.agg #[.int .i64 kind,.int .i64 tick,.int .i64 (-1),.int .i64 (-1),.int .i64 (-1),.int .i64 0,.int .i64 0,.int .i64 0,.int .i64 0]):=zap ⟨kind,tick,-1,-1,-1,0,0,0,0⟩
 exact⟨_,mem,nx,ρ,by rw[(zag hp ρ 0).1];rfl,hK,hs.later hb,(zag hp ρ nx).2,ExtS.refl _ _⟩⟩
def ctHas:CT:=fun vs mem nx K=>∃ set i,vs=[.int .i64 set,.int .i64 i]/\(0<=set/\set<4294967296)/\K (.bool (zc2 set i)) mem nx
theorem hasOk:CSound Tryz.prog 86 ctHas:=CSound.val k_ (by
 rintro vs mem nx K ⟨set,i,rfl,hn,hK⟩;refine⟨_,hK,trivial,rfl,fun ρ w=>?_⟩;refine (zfI set i w hn.1 hn.2).mono ?_;rintro e w' ⟨rfl,rfl⟩
 exact⟨rfl,Below.refl _ _⟩)
def platF:FT:=[(31,ctNext),(32,ctRange),(67,ctNone),(86,ctHas)]
theorem platFok:FTok Tryz.prog platF:=zan zhM (zan ziD (zan noneOk (zan hasOk zb7)))
def platD:List (Nat×DQ):=[
 (17,{ k:=7,L:=[14],pre:=[(0,false),(1,false),(2,false),(3,false),(4,true),(5,false),(6,true)] }),
 (20,{ k:=4,L:=[14],pre:=[(0,false),(1,false),(2,false),(3,true)] }),
 (1000030,{ k:=15,L:=[12],sl:=[8,9] })]
def EntR (k:Int) (v:Value) (k':Int):Prop:=(∃ en,v=entV' en)/\k<=k'/\k'<=k+20
theorem plat_sx (cap:Nat) (zs:List Int) (k tick:Int) (x:CfgK) (c:Cfg) (y:StK) (s:St) (hz:zs.length<=400) (hk:0<=k/\k<=990000) (hV:CfgV c) (hI:StInv c s) (ht:0<=tick/\tick<=2147483648) :
  sx tt platF platD (za1 Tryz.f66) (zb3 0 (ptr 0::zaX CN0 x c::stV SN0 y s::[.int .i64 tick])) ((0,zaU 1 zs.length cap k)::(1,zb6 zs)::(zcH CN0 c++stM SN0 s)) 10
   (zb8 tt Tryz.f66.results.toList fun v mem' _=>∃ k',EntR k v k'/\zbJ v/\lk mem' 0=some (zaU 1 zs.length cap k')):=by
 have hnc:=hV.nc;have hnv:=hV.nv;have hlc:=hI.lc;have hls:=hV.lease;have hbk:=hV.bake;have hrg:=hV.reg;have hev:=hI.evac;refine⟨_,_,rfl,?_⟩;refine⟨0,1,cap,zs,_,_,rfl,⟨rfl,rfl⟩,⟨hz,o_,o_⟩,⟨_,rfl,o_,o_⟩,?_⟩;rintro _ k1 ⟨_,r1,hnn,rfl,⟨hr1,hk1⟩⟩;cases hnn
 refine⟨⟨nl_,o_,o_⟩,?_⟩;refine⟨Ent×Int,fun _=>[],fun y=>[(0,zaU 1 zs.length cap y.2),(13,.box 43 [.int .i64 y.1.kind,.int .i64 y.1.tick,.int .i64 y.1.tenant,.int .i64 y.1.cell,.int .i64 y.1.other,.int .i64 y.1.epoch,.int .i64 y.1.since,.int .i64 y.1.till,.int .i64 y.1.n])],fun y=>k<=y.2/\y.2<=k+10,?_,?_⟩
 ·refine⟨0,1,cap,zs,_,_,rfl,⟨rfl,rfl⟩,⟨hz,o_,o_⟩,⟨_,rfl,o_,o_⟩,?_⟩;rintro _ k2 ⟨_,r2,hnn,rfl,⟨hr2,hk2⟩⟩;cases hnn
  refine⟨fun _=>?_,fun _=>?_⟩
  ·refine⟨0,1,cap,zs,_,_,rfl,⟨rfl,rfl⟩,⟨hz,o_,o_⟩,⟨_,_,rfl,o_,o_,o_⟩,?_⟩;rintro _ k3 ⟨_,_,r3,hnn,rfl,hr3,hk3⟩;cases hnn
   exact⟨(⟨_,_,_,_,_,_,_,_,_⟩,_),⟨o_,o_⟩,⟨rfl,rfl,trivial⟩,⟨rfl,rfl,rfl,trivial⟩⟩
  refine⟨fun _=>?_,fun _=>?_⟩
  ·exact⟨(⟨_,_,_,_,_,_,_,_,_⟩,_),⟨o_,o_⟩,⟨rfl,rfl,trivial⟩,⟨rfl,rfl,rfl,trivial⟩⟩
  refine⟨fun _=>?_,fun _=>?_⟩
  ·refine⟨fun _=>?_,fun h=>nomatch h⟩;refine⟨0,1,cap,zs,_,_,rfl,⟨rfl,rfl⟩,⟨hz,o_,o_⟩,⟨_,rfl,o_,o_⟩,?_⟩;rintro _ k3 ⟨_,r3,hnn,rfl,⟨hr3,hk3⟩⟩;cases hnn
   exact⟨(⟨_,_,_,_,_,_,_,_,_⟩,_),⟨o_,o_⟩,⟨rfl,rfl,trivial⟩,⟨rfl,rfl,rfl,trivial⟩⟩
  refine⟨fun _=>?_,fun _=>?_⟩
  ·refine⟨fun _=>?_,fun h=>nomatch h⟩;refine⟨0,1,cap,zs,_,_,rfl,⟨rfl,rfl⟩,⟨hz,o_,o_⟩,⟨_,rfl,o_,o_⟩,?_⟩;rintro _ k3 ⟨_,r3,hnn,rfl,⟨hr3,hk3⟩⟩;cases hnn
   exact⟨(⟨_,_,_,_,_,_,_,_,_⟩,_),⟨o_,o_⟩,⟨rfl,rfl,trivial⟩,⟨rfl,rfl,rfl,trivial⟩⟩
  refine⟨fun _=>?_,fun _=>?_⟩
  ·refine⟨0,1,cap,zs,_,_,rfl,⟨rfl,rfl⟩,⟨hz,o_,o_⟩,⟨_,rfl,o_,o_⟩,?_⟩;rintro _ k3 ⟨_,r3,hnn,rfl,⟨hr3,hk3⟩⟩;cases hnn
   exact⟨(⟨_,_,_,_,_,_,_,_,_⟩,_),⟨o_,o_⟩,⟨rfl,rfl,trivial⟩,⟨rfl,rfl,rfl,trivial⟩⟩
  refine⟨fun _=>?_,fun _=>?_⟩
  ·refine⟨fun _=>?_,fun h=>nomatch h⟩;refine⟨⟨rfl,trivial⟩,⟨rfl,trivial⟩,?_⟩;refine⟨0,1,cap,zs,_,_,rfl,⟨rfl,rfl⟩,⟨hz,o_,o_⟩,⟨_,rfl,o_,o_⟩,?_⟩;rintro _ k3 ⟨_,r3,hnn,rfl,⟨hr3,hk3⟩⟩;cases hnn
   exact⟨(⟨_,_,_,_,_,_,_,_,_⟩,_),⟨o_,o_⟩,⟨rfl,rfl,trivial⟩,⟨rfl,rfl,rfl,trivial⟩⟩
  refine⟨fun _=>?_,fun _=>?_⟩
  ·refine⟨fun _=>?_,fun h=>nomatch h⟩;refine⟨⟨rfl,trivial⟩,⟨rfl,trivial⟩,?_⟩;refine⟨0,1,cap,zs,_,_,rfl,⟨rfl,rfl⟩,⟨hz,o_,o_⟩,⟨_,rfl,o_,o_⟩,?_⟩;rintro _ k3 ⟨_,r3,hnn,rfl,⟨hr3,hk3⟩⟩;cases hnn
   exact⟨(⟨_,_,_,_,_,_,_,_,_⟩,_),⟨o_,o_⟩,⟨rfl,rfl,trivial⟩,⟨rfl,rfl,rfl,trivial⟩⟩
  refine⟨fun _=>?_,fun _=>?_⟩
  ·refine⟨⟨rfl,trivial⟩,⟨rfl,trivial⟩,?_⟩;refine⟨0,1,cap,zs,_,_,rfl,⟨rfl,rfl⟩,⟨hz,o_,o_⟩,⟨_,rfl,o_,o_⟩,?_⟩;rintro _ k3 ⟨_,r3,hnn,rfl,⟨hr3,hk3⟩⟩;cases hnn
   exact⟨(⟨_,_,_,_,_,_,_,_,_⟩,_),⟨o_,o_⟩,⟨rfl,rfl,trivial⟩,⟨rfl,rfl,rfl,trivial⟩⟩
  refine⟨fun _=>?_,fun _=>?_⟩
  ·refine⟨⟨rfl,trivial⟩,?_⟩;refine⟨0,1,cap,zs,_,_,rfl,⟨rfl,rfl⟩,⟨hz,o_,o_⟩,⟨_,rfl,by rw[zaf o_];omega,by rw[zaf o_];omega⟩,?_⟩;rintro _ k3 ⟨_,r3,hnn,rfl,⟨hr3,hk3⟩⟩;cases hnn
   exact⟨(⟨_,_,_,_,_,_,_,_,_⟩,_),⟨o_,o_⟩,⟨rfl,rfl,trivial⟩,⟨rfl,rfl,rfl,trivial⟩⟩
  refine⟨fun _=>?_,fun _=>?_⟩
  ·refine⟨0,1,cap,zs,_,_,rfl,⟨rfl,rfl⟩,⟨hz,o_,o_⟩,⟨_,rfl,o_,o_⟩,?_⟩;rintro _ k3 ⟨_,r3,hnn,rfl,⟨hr3,hk3⟩⟩;cases hnn
   refine⟨_,_,rfl,⟨o_,o_⟩,?_⟩;refine⟨fun _=>?_,fun _=>?_⟩
   ·exact⟨(⟨_,_,_,_,_,_,_,_,_⟩,_),⟨o_,o_⟩,⟨rfl,rfl,trivial⟩,⟨rfl,rfl,rfl,trivial⟩⟩
   ·exact⟨(⟨_,_,_,_,_,_,_,_,_⟩,_),⟨o_,o_⟩,⟨rfl,rfl,trivial⟩,⟨rfl,rfl,rfl,trivial⟩⟩
  refine⟨fun _=>?_,fun _=>?_⟩
  ·refine⟨fun _=>?_,fun _=>?_⟩
   ·exact⟨(⟨_,_,_,_,_,_,_,_,_⟩,_),⟨o_,o_⟩,⟨rfl,rfl,trivial⟩,⟨rfl,rfl,rfl,trivial⟩⟩
   ·exact⟨(⟨_,_,_,_,_,_,_,_,_⟩,_),⟨o_,o_⟩,⟨rfl,rfl,trivial⟩,⟨rfl,rfl,rfl,trivial⟩⟩
  refine⟨0,1,cap,zs,_,_,rfl,⟨rfl,rfl⟩,⟨hz,o_,o_⟩,⟨_,rfl,o_,o_⟩,?_⟩;rintro _ k3 ⟨_,r3,hnn,rfl,⟨hr3,hk3⟩⟩;cases hnn
  exact⟨(⟨_,_,_,_,_,_,_,_,_⟩,_),⟨o_,o_⟩,⟨rfl,rfl,trivial⟩,⟨rfl,rfl,rfl,trivial⟩⟩
 ·rintro⟨en,k2⟩ hk2;refine⟨⟨d_,rfl,rfl⟩,?_⟩;exact⟨k2,⟨⟨en,rfl⟩,o_,o_⟩,zap en,rfl⟩
def prePlat (c:Cfg) (s:St) (args:List Value) (k:Int):Prop:=(CfgV c/\StInv c s)/\∃ tick,args=[.int .i64 tick]/\0<=tick/\tick<=2147483648
def ctPlatform:CT:=ctGen (fun _ _ _ _=>EntR) prePlat
theorem zkC:CSound Tryz.prog 66 ctPlatform:=genOk k_ (by
  rintro c s args k ⟨-,tick,rfl,-⟩ v hv;simp at hv;subst hv
  trivial) (by
 rintro args g A cap zs k x c y s w hz hk0 hk1 ⟨⟨hV,hI⟩,tick,rfl,h0,h1⟩ ht hc hs;refine zfU platFok Tryz.func66 rfl (D:=platD) k_ rfl (fun v hv=>by simp at hv;subst hv;trivial) g A cap zs k x c y s w ht hc hs (R:=EntR k) ?_
 exact plat_sx cap zs k tick _ c _ s hz ⟨hk0,o_⟩ hV hI ⟨h0,h1⟩)
theorem zfK (y:StA) (s:St) (w:World) (hs:StOk w (·<w.heap.size) y s) (hm:s.tenants.length<=1000000) (hm2:s.cells.length<=1000000) :
  Calls Tryz.prog 74 #[.agg (stC y s)] w fun e w'=>∃ y2,e=.returned (.agg (stC y2 s))/\StOwn2 w.heap.size w' y2 s/\Below w.heap.size w w':=by
 have:=zcA zg6 (zb7.i _) Tryz.func74 rfl (D:=[]) k_ (vs:=[stV SN1 (sk y) s]) rfl noX noC y s noA noS w (zdB _ _) hs (zbt w _) (fun v hv=>by
  simp only[List.mem_cons,List.not_mem_nil,or_false] at hv
  rcases hv with rfl
  exact zb1 noX noC y s noA noS) (znd (sk y) s hm hm2)
 rw[List.map_cons,zcf] at this;refine this.mono ?_;rintro e w' ⟨v,mem',nx',ρ',rfl,⟨T,Cc,rT,rC,hne,rfl,hT,hC⟩,hv,hm',hb⟩;obtain⟨y2,e1,e2⟩:=hm'.own2 rfl hne hT hC;exact⟨y2,congrArg Ending.returned e1,e2,hb⟩
def ctCopied:CT:=fun vs mem nx K=>∃ M y s,vs=[stV M y s]/\(HasRow mem M.t 12 tsC default s.tenants/\HasRow mem M.c 4 csC default s.cells)/\(s.tenants.length<=1000000/\s.cells.length<=1000000)/\∀ y2,K (stV ⟨nx+1,nx,0⟩ y2 s) (stMO ⟨nx+1,nx,0⟩ s++mem) (nx+2)
theorem copiedOk:CSound Tryz.prog 74 ctCopied:=⟨k_,fun {C ρ fr mem nx a w vs K} hc hs hv=>by
 obtain⟨M,y,s,rfl,⟨h1,h2⟩,⟨hm,hm2⟩,hK⟩:=hc;rw[List.map_cons,zc3];refine (zfK (stX ρ M y) s w (hs.stRow h1 h2) hm hm2).mono ?_;rintro e w' ⟨y2,rfl,ho,hb⟩;obtain⟨q1,q2,q3,q4⟩:=hs.addOwnSt hb ho
 exact⟨_,_,_,_,by rw[q2],hK ⟨y2.ct,y2.cc⟩,q1,q3,q4⟩⟩
/-! ref12.no,together -/
abbrev stZ:Value:=.agg #[zi,zi,zs0,zs0,zi,zi,zi,zi]
theorem CSound.pure {f : FuncId} {ct : CT} (ent : ((Tryz.prog).funcs[f]?).map (fun fn => (fn.name == "runtime.NumGoroutine", fn.body.isNone)) = some (false, false))
  (h:∀ vs mem nx K,ct vs mem nx K->∃ v,K v mem nx/\(∀ ρ n,den ρ v=v/\okV ρ n v)/\∀ ρ w,Calls Tryz.prog f (vs.map (den ρ)).toArray w fun e w'=>e=.returned v/\Below w.heap.size w w'):CSound Tryz.prog f ct:=
 ⟨ent,fun {C ρ fr mem nx a w vs K} hc hs hv=>by
  obtain⟨v,hK,hp,hcalls⟩:=h vs mem nx K hc
  refine (hcalls ρ w).mono ?_
  rintro e w' ⟨rfl,hb⟩
  exact⟨v,mem,nx,ρ,by rw[(hp ρ nx).1],hK,hs.later hb,(hp ρ nx).2,ExtS.refl _ _⟩⟩
def ctNo:CT:=fun vs mem nx K=>∃ e,vs=[.int .i64 e]/\K (.tuple #[stZ,.int .i64 e]) mem nx
theorem zkG:CSound Tryz.prog 73 ctNo:=CSound.pure k_ (by
 rintro vs mem nx K ⟨e,rfl,hK⟩;refine⟨_,hK,fun ρ n=>⟨by simp[den,zaW,zal],fun u hu=>?_⟩,fun ρ w=>?_⟩
 ·simp at hu;rcases hu with rfl | rfl
  ·intro u hu;simp at hu;rcases hu with rfl | rfl | rfl<;>trivial
  ·trivial
 ·have:=zcA zg6 (zb7.i _) Tryz.func73 rfl (D:=[]) k_ (vs:=[.int .i64 e]) rfl noX noC noA noS noA noS w (zdB _ _) (zbt w _) (zbt w _) (fun v hv=>by simp at hv;subst hv;trivial) (R:=fun v _ _=>v=.tuple #[stZ,.int .i64 e]) rfl;refine this.mono ?_;rintro e2 w' ⟨v,mem',nx',ρ',rfl,rfl,-,-,hb⟩
  exact⟨by simp[den,zaW,zal],hb⟩)
def zil (c:Cfg) (a b:Int):Bool:=decide (0<=a)&&decide (0<=b)&&!zco c a b
def tgF:FT:=[(143,ctApart)]
theorem tgFok:FTok Tryz.prog tgF:=zan apartOk zb7
theorem zik (x:CfgK) (c:Cfg) (a b:Int) (hV:CfgV c) :
  sx tt tgF [] (za1 Tryz.f146) (zb3 0 [zaX CN1 x c,.int .i64 a,.int .i64 b]) (rdM c noS noS) 10 (zb8 tt Tryz.f146.results.toList fun v _ _=>v=.bool (zil c a b)/\zbJ v):=by
 unfold zil;refine⟨fun h0=>?_,fun h0=>?_⟩
 ·refine⟨fun h1=>?_,fun h1=>?_⟩
  ·refine⟨CN1,x,c,a,b,rfl,by repeat (first | exact trivial | refine⟨rfl,?_⟩),hV,?_⟩;refine⟨?_,trivial⟩;have e0:decide (0<=a)=true:=h0;have e1:decide (0<=b)=true:=h1;rw[e0,e1];rfl
  ·refine⟨?_,trivial⟩;have e0:decide (0<=a)=true:=h0;have e1:decide (0<=b)=false:=h1;rw[e0,e1];rfl
 ·refine⟨(fun h=>nomatch h),fun _=>?_⟩;refine⟨?_,trivial⟩;have e0:decide (0<=a)=false:=h0;rw[e0];rfl
theorem zfJ (x:CfgA) (c:Cfg) (a b:Int) (w:World) (hV:CfgV c) (hc:CfgOk w (·<w.heap.size) x c):Calls Tryz.prog 146 #[.agg (zaH x c),.int .i64 a,.int .i64 b] w fun r w'=>r=.returned (.bool (zil c a b))/\Below w.heap.size w w':=by
 have:=zbI tgFok Tryz.func146 rfl (D:=[]) k_ (vs:=[zaX CN1 (ck x) c,.int .i64 a,.int .i64 b]) rfl x c noA noS noA noS w hc (zbt w _) (zbt w _) (fun v hv=>by
  simp only[List.mem_cons,List.not_mem_nil,or_false] at hv
  rcases hv with rfl | rfl | rfl
  ·exact zbw x c noA noS noA noS
  ·trivial
  ·trivial) (R:=fun v=>v=.bool (zil c a b)) (zik (ck x) c a b hV)
 rw[List.map_cons,zcU] at this;refine this.mono ?_;rintro e w' ⟨v,rfl,-,rfl,hb⟩;exact⟨rfl,hb⟩
def ctTogether:CT:=fun vs mem nx K=>∃ N x c a b,vs=[zaX N x c,.int .i64 a,.int .i64 b]/\(keeps mem (zcH N c))/\(CfgV c)/\K (.bool (zil c a b)) mem nx
theorem zeT:CSound Tryz.prog 146 ctTogether:=(zfM (R:=fun l z=>∃ c a b,l=[.cf c,.vl (.int .i64 a),.vl (.int .i64 b)]/\z=.bool (zil c a b)) (pre:=fun l=>∃ c a b,l=[.cf c,.vl (.int .i64 a),.vl (.int .i64 b)]/\(CfgV c)) k_ (by
 rintro ps w ⟨c,a,b,hps,hpre⟩ hok;obtain⟨x,ps0,rfl,hps0⟩:=dt_c hps;obtain⟨ps1,rfl,hps1⟩:=zif hps0;obtain⟨ps2,rfl,hps2⟩:=zif hps1;obtain rfl:=zdE hps2;have hpc:=hok (.cf x c) (by simp);refine (zfJ x c a b w hpre hpc).mono ?_;rintro e w' ⟨rfl,hb⟩
 exact⟨_,⟨c,a,b,rfl,rfl⟩,trivial,rfl,hb⟩)).mono (by
 rintro vs mem nx K ⟨N,x,c,a,b,rfl,hk,hpre,hK⟩
 exact⟨[.cf N x c,.vl _,.vl _],rfl,⟨hk,trivial,trivial,trivial⟩,⟨_,_,_,rfl,hpre⟩,by rintro z ⟨c',a',b',hl,hz⟩;cases hl;subst hz;exact hK⟩)
def ctValid6:CT:=fun vs mem nx K=>∃ N x c e,vs=[zaX N x c,entV' e]/\keeps mem (zcH N c)/\CfgV c/\K (.bool (zca c e)) mem nx
theorem valid6Ok:CSound Tryz.prog 72 ctValid6:=⟨k_,fun {C ρ fr mem nx a w vs K} hc hs hv=>by
 obtain⟨N,x,c,e,rfl,hk,hV,hK⟩:=hc;have e0:([zaX N x c,entV' e].map (den ρ)).toArray=#[.agg (zaH (zdp ρ N x) c),.agg (zbe e).toArray]:=by
  rw[List.map_cons,zaP];simp[den,zaW,zal,zbe]
 rw[e0];refine (ziF (zdp ρ N x) c e w hV).mono ?_;rintro r w' ⟨rfl,hb⟩
 exact⟨.bool (zca c e),mem,nx,ρ,rfl,hK,hs.later hb,trivial,ExtS.refl _ _⟩⟩
def ctRegOf:CT:=fun vs mem nx K=>∃ N x c k,vs=[zaX N x c,.int .i64 k]/\(keeps mem (zcH N c))/\(CfgV c)/\K (.int .i64 (zax c k)) mem nx
theorem regOfOk:CSound Tryz.prog 208 ctRegOf:=(zfM (R:=fun l z=>∃ c k,l=[.cf c,.vl (.int .i64 k)]/\z=.int .i64 (zax c k)) (pre:=fun l=>∃ c k,l=[.cf c,.vl (.int .i64 k)]/\(CfgV c)) k_ (by
 rintro ps w ⟨c,k,hps,hpre⟩ hok;obtain⟨x,ps0,rfl,hps0⟩:=dt_c hps;obtain⟨ps1,rfl,hps1⟩:=zif hps0;obtain rfl:=zdE hps1;have hpc:=hok (.cf x c) (by simp);refine (zc8 x c k w hpre hpc).mono ?_;rintro e w' ⟨rfl,hb⟩
 exact⟨_,⟨c,k,rfl,rfl⟩,trivial,rfl,hb⟩)).mono (by
 rintro vs mem nx K ⟨N,x,c,k,rfl,hk,hpre,hK⟩
 exact⟨[.cf N x c,.vl _],rfl,⟨hk,trivial,trivial⟩,⟨_,_,rfl,hpre⟩,by rintro z ⟨c',k',hl,hz⟩;cases hl;subst hz;exact hK⟩)
/-! Bytes: plain facts. -/
theorem zig (n:Int):IntKind.u64.wrap n=n % 18446744073709551616:=by
 simp[IntKind.wrap,IntKind.bits,IntKind.signed]
theorem wrapu8 (n:Int):IntKind.u8.wrap n=n % 256:=by
 simp[IntKind.wrap,IntKind.bits,IntKind.signed]
theorem wu64 {n:Int} (h:0<=n/\n<18446744073709551616):IntKind.u64.wrap n=n:=by rw[zig];omega
theorem wu8 {n:Int} (h:0<=n/\n<256):IntKind.u8.wrap n=n:=by rw[wrapu8];omega
abbrev u8C (x:Int):List Value:=[.int .u8 x]
theorem zeq:∀ x,∀ v ∈ u8C x,zam v:=fun x v hv=>by simp at hv;subst hv;trivial
def zlm (u:Nat):List Int:=if u<128 then [(u:Int)] else ((u % 128+128:Nat):Int)::zlm (u / 128)
termination_by u
decreasing_by omega
theorem zj8 {u:Nat} (h:u<128):zlm u=[(u:Int)]:=by rw[zlm,if_pos h]
theorem zn6 {u:Nat} (h:¬ u<128):zlm u=((u % 128+128:Nat):Int)::zlm (u / 128):=by rw[zlm,if_neg h]
def zfk (n:Int):Int:=if 0<=n then 2 * n else -2 * n-1
def zaC (n:Int):List Int:=zlm (zfk n).toNat
def zem (n:Int):Prop:=-9223372036854775808<=n/\n<9223372036854775808
theorem zk0 {n:Int} (h:zem n):0<=zfk n/\zfk n<18446744073709551616:=by
 unfold zem at h;unfold zfk;split<;>omega
theorem zmx:∀ b:Fin 256,(BitVec.ofNat 8 b.val ||| 128#8).toNat=b.val % 128+128:=by decide
theorem or128 {u:Int} (h:0<=u):IntKind.u8.wrap ((BitVec.ofInt 8 (IntKind.u8.wrap u) ||| BitVec.ofInt 8 128).toNat:Int)=u % 128+128:=by
 rw[wrapu8 u];have hb:u % 256=(((u % 256).toNat:Nat):Int):=by omega
 have h2:=zmx ⟨(u % 256).toNat,o_⟩;rw[hb,BitVec.ofInt_natCast];have h3:(BitVec.ofInt 8 128)=128#8:=by decide
 rw[h3,h2,wu8 (by dsimp only;omega)];dsimp only;omega
theorem not64 {x:Int} (h:0<=x/\x<18446744073709551616):IntKind.u64.wrap ((BitVec.ofInt 64 18446744073709551615 ^^^ BitVec.ofInt 64 x).toNat:Int)=18446744073709551615-x:=by
 have h1:BitVec.ofInt 64 18446744073709551615=BitVec.allOnes 64:=by decide
 have hx:x=((x.toNat:Nat):Int):=by omega
 rw[h1,BitVec.allOnes_xor,BitVec.toNat_not,hx,BitVec.ofInt_natCast,BitVec.toNat_ofNat,Nat.mod_eq_of_lt o_,wu64 o_];omega
theorem shl1u {n:Int}:IntKind.u64.wrap (IntKind.u64.wrap n * 2 ^ min (1:Int).toNat IntKind.u64.bits)=(2 * n) % 18446744073709551616:=by
 have:(2:Int) ^ min (1:Int).toNat IntKind.u64.bits=2:=by decide
 rw[this,zig,zig];omega
theorem znh {n:Int} (h:zem n) (h0:n<0):IntKind.u64.wrap ((BitVec.ofInt IntKind.u64.bits (if IntKind.u64.signed then -1 else IntKind.u64.max) ^^^ BitVec.ofInt IntKind.u64.bits (IntKind.u64.wrap (IntKind.u64.wrap n * 2 ^ min (1:Int).toNat IntKind.u64.bits))).toNat:Int)=zfk n:=by
 rw[shl1u];unfold zem at h;have e:(2 * n) % 18446744073709551616=2 * n+18446744073709551616:=by omega
 rw[e];have:=not64 (x:=2 * n+18446744073709551616) o_;refine Eq.trans this ?_;unfold zfk;rw[if_neg o_];omega
theorem zng {n:Int} (h:zem n) (h0:¬ n<0):IntKind.u64.wrap (IntKind.u64.wrap n * 2 ^ min (1:Int).toNat IntKind.u64.bits)=zfk n:=by
 rw[shl1u];unfold zem at h;unfold zfk;rw[if_pos o_];omega
theorem shr7 {u:Int} (h:0<=u):u.fdiv (2 ^ min (7:Int).toNat IntKind.u64.bits)=u / 128:=by
 have:(2:Int) ^ min (7:Int).toNat IntKind.u64.bits=128:=by decide
 rw[this,Int.fdiv_eq_ediv_of_nonneg _ o_]
theorem zjY:∀ (k u:Nat),u<128 ^ (k+1)->(zlm u).length<=k+1
 | 0,u,h=>by rw[zj8 (by simpa using h)];simp
 | k+1,u,h=>by
  by_cases hu:u<128
  ·rw[zj8 hu];simp
  ·rw[zn6 hu,List.length_cons]
   have:=zjY k (u / 128) (by rw[Nat.pow_succ] at h;omega)
   omega
theorem zaj {n:Int} (h:zem n):(zaC n).length<=10:=by
 have:=zk0 h;exact zjY 9 _ o_
theorem zi3 {u:Int} (h0:0<=u) (h:¬ u<128):zlm u.toNat=(u % 128+128)::zlm (u / 128).toNat:=by
 rw[zn6 o_];congr 1
 ·omega
 ·congr 1
  omega
theorem zi4 {u:Int} (h0:0<=u) (h:u<128):zlm u.toNat=[u]:=by
 rw[zj8 o_];congr 1
 omega
theorem zh4 {s:List Int} {x:Int} {el el2:Nat->List Value} (h0:∀ k,k<s.length->el k=u8C (s.getD k 0)) (h1:∀ k,k<s.length->el2 k=el k) (h2:el2 (s.length+0)=u8C x):∀ k,k<(s++[x]).length->el2 k=u8C ((s++[x]).getD k 0):=by
 intro k hk;rw[List.length_append] at hk;by_cases hkn:k<s.length
 ·rw[h1 k hkn,h0 k hkn,gd_,gd_,List.getElem?_append_left hkn]
 ·obtain rfl:k=s.length:=by simp at hk;omega
  rw[Nat.add_zero] at h2;rw[h2,gd_,List.getElem?_append_right nl_,Nat.sub_self];rfl
/-! wire.Int,ref01.Int -/
def tiU:TI:={ size:=1,agg:=false,zero:=[.int .u64 0],ik:=some .u64 }
def tiB:TI:={ size:=1,agg:=false,zero:=[.int .u8 0],ik:=some .u8 }
def ttA:TT:=[(3,{ size:=1,agg:=false,zero:=[zi],ik:=some .i64 }),(237,tiU),(5,tiB),(320,zgm 1 5 1)]++tt
theorem zg7:zcl Tryz.prog ttA:=by
 refine zgl _ _ ?_;unfold ttA tt;repeat (refine zeS ⟨k_,k_,zgr (by rfl),k_,k_,k_⟩ ?_)
 exact zgk
theorem zeU {α:Type} {enc:α->List Value} {sz:Nat} (hsz:∀ x,(enc x).length=sz) (hpos:0<sz) (hpl:∀ x,∀ v ∈ enc x,zam v) (d:α) {τ:TT} (hτ:zcl Tryz.prog τ) {f:FuncId} {fn:Func} {F:FT} {D:List (Nat×DQ)} (hF:zaY Tryz.prog F (zbj D)) (hf:(Tryz.prog).funcs[f]?=some fn) (hb:fn.body=some (za1 fn)) (hcode:zc6 fn.ntmps D (za1 fn)=true) {vs:List Value} (hn:Nat.ble vs.length fn.ntmps=true)
  (A:Option Addr) (l:List α) (w:World) (hr:Rd w (·<w.heap.size) A (zaJ enc l)) (hv:∀ v ∈ vs,okV (fun _=>⟨A,sz,l.length,false,za4⟩) 1 v) {R:Value->AM->Nat->Prop}
  (h:sx τ F D (za1 fn) (zb3 0 vs) [(0,zaz 3 sz enc d l)] 1 (zb8 τ fn.results.toList R)) :
  Calls Tryz.prog f (vs.map (den fun _=>⟨A,sz,l.length,false,za4⟩)).toArray w fun e w'=>∃ v mem' nx' ρ',e=.returned (den ρ' v)/\R v mem' nx'/\okV ρ' nx' v/\MemAt { w0:=w,bor:=[],n0:=1,ρ0:=fun _=>⟨A,sz,l.length,false,za4⟩,nt:=fn.ntmps } ρ' mem' nx' w'/\Below w.heap.size w w':=by
 have hm:MemAt { w0:=w,bor:=[],n0:=1,ρ0:=fun _=>⟨A,sz,l.length,false,za4⟩,nt:=fn.ntmps } (fun _=>⟨A,sz,l.length,false,za4⟩) [(0,zaz 3 sz enc d l)] 1 w:=MemAt.rows trivial ⟨⟨Nat.zero_lt_one,rfl,zaL (enc:=enc) (sz:=sz) hsz hpos hpl d rfl hr (fun b hb=>hb)⟩,trivial⟩;refine (zbR hτ hF mixed hf hb hcode (vs:=vs) hn ⟨rfl,rfl⟩ rfl hm hv h).mono ?_;rintro e w' ⟨v,mem',nx',ρ',rfl,hR,hv',hm'⟩;exact⟨v,mem',nx',ρ',rfl,hR,hv',hm',⟨hm'.rest.os,hm'.rest.tape,hm'.rest.output,hm'.rest.size,fun b hlt=>hm'.rest.block b hlt (by simp)⟩⟩
def HasFam {α:Type} (mem:AM) (u o k sz:Nat) (enc:α->List Value) (d:α) (l:List α):Prop:=∃ t sb,lk mem u=some (.ext (.fam t sb))/\(sb k o).sz=sz/\l.length<=(sb k o).n/\∀ j,j<l.length->(sb k o).el j=enc (l.getD j d)
def SrcR {α:Type} (mem:AM) (sz:Nat) (enc:α->List Value) (d:α) (l:List α) (v:Value):Prop:=(v=zs0/\l=[])∨(∃ r cap,v=slc r l.length cap/\HasRow mem r sz enc d l)∨∃ u o k cap,v=.slice (some ⟨u,o,some k⟩) l.length cap/\HasFam mem u o k sz enc d l
theorem SrcR.slice {α:Type} {mem:AM} {sz:Nat} {enc:α->List Value} {d:α} {l:List α} {v:Value} (h:SrcR mem sz enc d l v):∃ A cap,v=.slice A l.length cap:=by
 rcases h with⟨rfl,rfl⟩ | ⟨r,cap,rfl,-⟩ | ⟨u,o,k,cap,rfl,-⟩
 ·exact⟨_,_,rfl⟩
 ·exact⟨_,_,rfl⟩
 ·exact⟨_,_,rfl⟩
theorem SrcR.row {α:Type} {mem:AM} {sz:Nat} {enc:α->List Value} {d:α} {l:List α} {r cap:Nat} (h:HasRow mem r sz enc d l):SrcR mem sz enc d l (slc r l.length cap):=.inr (.inl ⟨r,cap,rfl,h⟩)
abbrev ctPut:CT:=zat ttA [(343,zat ttA [] [] Tryz.f343 (za1 Tryz.f343))] [(9000000,{ k:=0,L:=[343] }),(1000002,{ k:=2,L:=[0,1],sl:=[0] }),(3000002,{ k:=3,L:=[0],sl:=[] })] Tryz.f329 (za1 Tryz.f329)
def wiF:FT:=[(330,zat ttA [] [] Tryz.f330 (za1 Tryz.f330)),(329,ctPut)]
def wiD:List (Nat×DQ):=[(9000000,{ k:=0,L:=[330,329] })]
theorem wiFok:zaY Tryz.prog wiF (zbj wiD):=za0 (zad zg7 za3 mixed k_ Tryz.func330 rfl k_ d_) (za0 (zad zg7 (za0 (zad zg7 za3 mixed k_ Tryz.func343 rfl k_ d_) za3) mixed k_ Tryz.func329 rfl k_ d_) za3)
theorem Sat.srcR {C:Ctx} {ρ:Nat->Pl} {fr:AF} {mem:AM} {nx:Nat} {a:Act} {w:World} (hs:Sat C ρ fr mem nx a w) {α:Type} {enc:α->List Value} {sz:Nat} (hsz:∀ x,(enc x).length=sz) (hpos:0<sz) {d:α} {l:List α} {v:Value} (h:SrcR mem sz enc d l v):∃ A cap,den ρ v=.slice A l.length cap/\Rd w (·<w.heap.size) A (zaJ enc l):=by
 rcases h with⟨rfl,rfl⟩ | ⟨r,cap,rfl,hr⟩ | ⟨u,o,k,cap,rfl,t,sb,h1,h2,h3,h4⟩
 ·exact⟨none,0,rfl,fun h=>absurd rfl h⟩
 ·exact⟨(ρ r).A,cap,by simp[den,zaW,zal,zau,zaq],hs.hasRd hsz hpos hr⟩
 ·refine⟨(ρ u).sub k o,cap,rfl,?_⟩;have hat:=hs.famAt h1 k o;by_cases hn:(sb k o).n=0
  ·have:l=[]:=List.eq_nil_of_length_eq_zero o_;subst this;exact fun h=>absurd rfl h
  ·have hb:BlkOk C (fun _=>⟨(ρ u).sub k o,sz,(sb k o).n,false,za4⟩) nx 0 w (.row 0 sz (sb k o).n (sb k o).el):=⟨⟨rfl,rfl⟩,fun j hj=>by rw[← h2];exact hat.pl j hj,by
    obtain⟨b,off,e1,e2,e3,-⟩:=hat.at_.resolve_left hn
    exact .inr ⟨b,off,e1,⟨e2.lt,(fun q=>by cases q),(fun q=>by cases q)⟩,fun j hj q v hv=>by rw[← h2];exact e3 j hj q v hv⟩⟩
   exact hb.rdOf h3 h4 hsz hpos fun _ b off _ hr=>hr.lt
theorem Sat.bytes {C:Ctx} {ρ:Nat->Pl} {fr:AF} {mem:AM} {nx:Nat} {a:Act} {w w':World} {K:Value->AM->Nat->Prop} (hs:Sat C ρ fr mem nx a w) (hb:Below w.heap.size w w') {A:Option Addr} {cp:Nat} {l:List Int} (hr:Rd w' (fun b=>w.heap.size<=b/\b<w'.heap.size) A (zaJ u8C l)) (hK:K (slc nx l.length cp) ((nx,zaz 500000 1 u8C 0 l)::mem) (nx+1)) :
  ∃ v mem' nx' ρ',Ending.returned (.slice A l.length cp)=.returned (den ρ' v)/\K v mem' nx'/\Sat C ρ' fr mem' nx' a w'/\okV ρ' nx' v/\ExtS ρ nx ρ' nx':=by
 obtain⟨q1,-⟩:=(hs.later hb).addList hs.frB hs.rest.size (enc:=u8C) (sz:=1) (fun _=>rfl) o_ zeq 0 (t:=500000) rfl hr;have q2:zac ρ nx ⟨A,1,l.length,false,za4⟩ nx=⟨A,1,l.length,false,za4⟩:=za2 _ _ _;refine⟨slc nx l.length cp,_,_,_,?_,hK,q1,?_,fun i hi=>za8 _ _ hi,o_⟩
 ·show Ending.returned (.slice A l.length cp)=.returned (.slice (zac ρ nx ⟨A,1,l.length,false,za4⟩ nx).A l.length cp);rw[q2]
 ·exact⟨show nx<nx+1 by omega,by rw[q2]⟩
/-! Bytes in rows of the caller's own. -/
def SlB (mem:AM) (l:List Int) (v:Value):Prop:=∃ r cp el,v=slc r l.length cp/\lk mem r=some (.row (1000000+5) 1 cp el)/\l.length<=cp/\∀ k,k<l.length->el k=u8C (l.getD k 0)
theorem Sat.ownBytes {C C':Ctx} {ρ ρ':Nat->Pl} {fr:AF} {mem mem':AM} {nx nx':Nat} {a:Act} {w w':World} {K:Value->AM->Nat->Prop} (hs:Sat C ρ fr mem nx a w) (hb:Below w.heap.size w w') (hm:MemAt C' ρ' mem' nx' w') (h0:C'.w0=w) {l:List Int} {v:Value} (h:SlB mem' l v) (hK:∀ cp el,l.length<=cp->(∀ k,k<l.length->el k=u8C (l.getD k 0))->K (slc nx l.length cp) ((nx,.row (1000000+5) 1 cp el)::mem) (nx+1)) (hbor:C'.bor=[]:=by exact rfl) :
  ∃ v2 mem2 nx2 ρ2,Ending.returned (den ρ' v)=.returned (den ρ2 v2)/\K v2 mem2 nx2/\Sat C ρ2 fr mem2 nx2 a w'/\okV ρ2 nx2 v2/\ExtS ρ nx ρ2 nx2:=by
 obtain⟨r,cp,el,rfl,hr,hl,he⟩:=h;obtain⟨⟨q0,q1⟩,q2,q3⟩:=hm.blk r _ hr;have hown:zc1 (1000000+5)=true:=rfl
 have key:=(hs.later hb).addOwn (p:=⟨(ρ' r).A,1,cp,false,za4⟩) (t:=1000000+5) (sz:=1) (n:=cp) (el:=el) rfl ⟨⟨by rw[za2],by rw[za2]⟩,q2,q3.imp id (by
  rintro⟨b,off,hA,hat,hc⟩
  refine⟨b,off,by rw[za2];exact hA,⟨hat.lt,fun ho=>?_,fun hf=>?_⟩,hc⟩
  ·obtain⟨e1,e2',e3⟩:=hat.own ho
   have e2:=Ctx.ok_nil hbor e2'
   rw[h0] at e2
   exact⟨e1,.inl (Nat.le_trans hs.rest.size e2),e3⟩
  ·have e2:=Ctx.ok_nil hbor (hat.new hf)
   rw[h0] at e2
   exact .inl (Nat.le_trans hs.rest.size e2))⟩ (q3.imp id (by
  rintro⟨b,off,hA,hat,hc⟩ i b' hi g hg
  have e2:=Ctx.ok_nil hbor (hat.new rfl)
  rw[h0] at e2
  have:=(hs.blk i b' hi).brd_lt hg
  rw[hA]
  simp
  omega))
 have q:zac ρ nx ⟨(ρ' r).A,1,cp,false,za4⟩ nx=⟨(ρ' r).A,1,cp,false,za4⟩:=za2 _ _ _;refine⟨slc nx l.length cp,_,_,zac ρ nx ⟨(ρ' r).A,1,cp,false,za4⟩,?_,hK cp el hl he,key,?_,fun i hi=>za8 _ _ hi,o_⟩
 ·show Ending.returned (.slice (ρ' r).A l.length cp)=.returned (.slice (zac ρ nx ⟨(ρ' r).A,1,cp,false,za4⟩ nx).A l.length cp);rw[q]
 ·exact⟨show nx<nx+1 by omega,by rw[q]⟩
theorem wintO_sx (cap:Nat) (l:List Int) (n:Int) (hl:l.length<=1000000) (hn:zem n) :
  sx ttA wiF wiD (za1 Tryz.f314) (zb3 0 [slc 0 l.length cap,.int .i64 n]) [(0,zaz 3 1 u8C 0 l)] 1 (zb8 ttA Tryz.f314.results.toList fun v mem' _=>SlB mem' (l++zaC n) v):=by
 have hw:IntKind.i64.wrap ((l.length:Int)+10)=(l.length:Int)+10:=zaf o_;refine⟨⟨by rw[hw];omega,o_,by rw[hw];show ((l.length:Int)+10) * (1:Int)<=_;omega⟩,?_⟩;refine⟨⟨nl_,fun k hk=>rfl⟩,?_⟩;have hw2:(IntKind.i64.wrap ((l.length:Int)+10)).toNat=l.length+10:=by rw[hw];omega
 refine⟨⟨rfl,Nat.zero_le _⟩,fun hin el2 ⟨g1,_⟩ g2=>?_,fun hgt=>absurd hgt (by rw[hw2];omega)⟩;rw[show Int.toNat 0+l.length=l.length from Nat.zero_add _,hw2];clear hin hw hw2 g1;have g3:∀ k,k<l.length->el2 k=u8C (l.getD k 0):=fun k hk=>by have:=g2 k hk;rwa[show Int.toNat 0+k=k from Nat.zero_add _] at this
 refine⟨Unit,fun _=>[(5,.int .u64 (zfk n))],fun _=>[],fun _=>True,?_,?_⟩
 ·refine⟨fun hneg=>?_,fun hneg=>?_⟩
  ·have hneg2:n<0:=of_decide_eq_true hneg;refine⟨d_,?_⟩;refine⟨(),trivial,(by refine⟨?_,?_⟩;(show some (Value.int .u64 _)=some (Value.int .u64 (zfk n));rw[znh hn hneg2]);repeat (first | exact trivial | refine⟨rfl,?_⟩)),kp_⟩
  ·have hneg2:¬ n<0:=of_decide_eq_false hneg;refine⟨d_,?_⟩;refine⟨(),trivial,(by refine⟨?_,?_⟩;(show some (Value.int .u64 _)=some (Value.int .u64 (zfk n));rw[zng hn hneg2]);repeat (first | exact trivial | refine⟨rfl,?_⟩)),kp_⟩
 ·rintro - -;refine⟨⟨d_,rfl,rfl⟩,?_⟩;have hcb:=zk0 hn;have hil:=zaj hn;refine⟨Int×List Int×Nat×(Nat->List Value),fun q=>match q with | (u,s,cp,el)=>[(5,.int .u64 u),(0,slc 2 s.length cp)],fun q=>match q with | (u,s,cp,el)=>[(2,.row (1000000+5) 1 cp el)],fun q=>match q with | (u,s,cp,el)=>(0<=u/\u<18446744073709551616)/\s.length<=cp/\(∀ k,k<s.length->el k=u8C (s.getD k 0))/\s++zlm u.toNat=l++zaC n,fun q=>match q with | (u,s,cp,el)=>u.toNat,⟨(zfk n,l,_,_),[(2,1)],?_,⟨rfl,rfl⟩,kp_,kp_⟩,?_⟩
  ·exact⟨hcb,o_,g3,rfl⟩
  rintro⟨u,s,cp,el⟩ ⟨hu,hcp,hel,heq⟩;have hsl:s.length<=l.length+10:=by have:=congrArg List.length heq;simp at this;omega
  refine⟨⟨d_,rfl,rfl⟩,?_⟩;refine⟨fun hge=>?_,fun hlt=>?_⟩
  ·have hge2:u≥128:=of_decide_eq_true hge;refine⟨⟨nl_,fun j hj=>by match j,hj with | 0,_=>rfl⟩,?_⟩;refine⟨⟨rfl,hcp⟩,fun hinq elq ⟨g1q,_⟩ g2q=>?_,fun hgtq=>⟨by show (s.length+1) * 1<=140737488355328;omega,fun capq elq ⟨hcq,_⟩ g1q g2q=>?_⟩⟩
   ·rw[show s.length+1=(s++[u % 128+128]).length by simp];refine⟨d_,?_⟩;refine⟨(_,s++[u % 128+128],cp,elq),[],?_,⟨rfl,rfl⟩,kp_,kp_⟩;dsimp only;rw[shr7 hu.1];refine⟨⟨⟨o_,o_⟩,by simp;omega,zh4 hel g1q ?_,?_⟩,o_⟩
    ·rw[g2q 0 o_];exact congrArg (fun z=>[Value.int .u8 z]) (or128 hu.1)
    ·rw[List.append_assoc];rw[zi3 hu.1 o_] at heq;exact heq
   ·rw[show s.length+1=(s++[u % 128+128]).length by simp] at hcq ⊢;refine⟨d_,?_⟩;refine⟨(_,s++[u % 128+128],capq,elq),[(2,4)],?_,⟨rfl,rfl⟩,kp_,kp_⟩;dsimp only;rw[shr7 hu.1];refine⟨⟨⟨o_,o_⟩,hcq,zh4 hel g1q ?_,?_⟩,o_⟩
    ·rw[g2q 0 o_];exact congrArg (fun z=>[Value.int .u8 z]) (or128 hu.1)
    ·rw[List.append_assoc];rw[zi3 hu.1 o_] at heq;exact heq
  ·have hlt2:¬ u≥128:=of_decide_eq_false hlt;refine⟨⟨nl_,fun j hj=>by match j,hj with | 0,_=>rfl⟩,?_⟩;refine⟨⟨rfl,hcp⟩,fun hinz elz ⟨g1z,_⟩ g2z=>?_,fun hgtz=>⟨by show (s.length+1) * 1<=140737488355328;omega,fun capz elz ⟨hcz,_⟩ g1z g2z=>?_⟩⟩
   ·rw[zi4 hu.1 o_] at heq;rw[← heq];refine⟨2,cp,elz,?_,rfl,by simp;omega,zh4 hel g1z ?_⟩
    ·rw[show (s++[u]).length=s.length+1 by simp]
    ·rw[g2z 0 o_];exact congrArg (fun z=>[Value.int .u8 z]) (wu8 o_)
   ·rw[zi4 hu.1 o_] at heq;rw[← heq];refine⟨4,capz,elz,?_,rfl,by simp;exact hcz,zh4 hel g1z ?_⟩
    ·rw[show (s++[u]).length=s.length+1 by simp]
    ·rw[g2z 0 o_];exact congrArg (fun z=>[Value.int .u8 z]) (wu8 o_)
def ctWIntO:CT:=fun vs mem nx K=>∃ v l n,vs=[v,.int .i64 n]/\SrcR mem 1 u8C 0 (l:List Int) v/\(l.length<=1000000/\zem n)/\∀ cp el,(l++zaC n).length<=cp->(∀ k,k<(l++zaC n).length->el k=u8C ((l++zaC n).getD k 0))->K (slc nx (l++zaC n).length cp) ((nx,.row (1000000+5) 1 cp el)::mem) (nx+1)
theorem zlA:CSound Tryz.prog 314 ctWIntO:=⟨k_,fun {C ρ fr mem nx a w vs K} hc hs hv=>by
 obtain⟨v,l,n,rfl,hsrc,⟨hl,hn⟩,hK⟩:=hc;obtain⟨A,cap,e0,hr⟩:=hs.srcR (enc:=u8C) (sz:=1) (fun _=>rfl) o_ hsrc;have e1:([v,.int .i64 n].map (den ρ)).toArray=([slc 0 l.length cap,.int .i64 n].map (den fun _=>⟨A,1,l.length,false,za4⟩)).toArray:=by rw[List.map_cons,e0];rfl
 rw[e1]
 refine (zeU (enc:=u8C) (sz:=1) (fun _=>rfl) o_ zeq 0 zg7 wiFok Tryz.func314 rfl (D:=wiD) k_ (vs:=[slc 0 l.length cap,.int .i64 n]) rfl A l w hr (fun v hv=>by
  simp only[List.mem_cons,List.not_mem_nil,or_false] at hv
  rcases hv with rfl | rfl
  ·exact⟨Nat.zero_lt_one,rfl⟩
  ·trivial) (wintO_sx cap l n hl hn)).mono ?_
 rintro e w' ⟨v,mem',nx',ρ',rfl,hR,hv,hm',hb⟩
 exact hs.ownBytes hb hm' rfl hR hK⟩
/-! A callee walked once,in a small memory of its own;its contract holds in any memory that this one is renamed into. -/
def unB:ABlk->ABlk
 | .row t sz n el=>(match zc1 t with | true=>.row t sz n el | false=>.row 0 sz n el)
 | .ext (.deep t sz n cap el u)=>(match zc1 t with | true=>.ext (.deep t sz n cap el u) | false=>.ext (.deep 0 sz n cap el u))
 | .ext (.fam t sb)=>.ext (.fam 0 sb)
 | b=>b
def zjR (mem:AM) (σ:List (Nat×Nat)) (m:AM):Prop:=List.rec (motive:=fun _=>Prop) True (fun p _ ih=>(lk mem (rnm σ p.1)).map unB=some (rnB σ p.2)/\ih) m
def sgn (σ:List (Nat×Nat)) (k0 nx:Nat):Nat->List (Nat×Nat)
 | 0=>σ
 | d+1=>(k0+d,nx+d)::sgn σ k0 nx d
def rnM (σ:List (Nat×Nat)) (m:AM):AM:=m.map fun p=>(rnm σ p.1,rnB σ p.2)
def frBk:ABlk->Bool
 | .box _ _=>true
 | .row t _ _ _=>frT t
 | .ext (.deep t _ _ _ _ _)=>frT t
 | .ext (.fam _ _)=>false
 | .ext (.map _ _ _)=>true
 | .ext (.obj _ _)=>true
def zjm (σ:List (Nat×Nat)) (nx:Nat):Nat->Bool
 | 0=>true
 | k+1=>Nat.blt (rnm σ k) nx&&zjm σ nx k
def objB0 (k0:Nat) (vs0:List Value) (m0:AM):Bool:=nmM k0 m0&&vs0.all (nmV k0)
def objB1 (k0 d:Nat) (m0:AM) (V:Value) (M1:AM):Bool:=nmM (k0+d) M1&&nmV (k0+d) V&&M1.all (fun p=>frBk p.2)&&(exN m0).all (fun i=>(lk M1 i).isSome)
def znc {X Y:Type} (vs0:X->List Value) (m0:X->AM) (k0:Nat) (pre:X->Prop) (post:X->Y->Prop) (V:X->Y->Value) (M1:X->Y->AM) (d:Nat):CT:=fun vs mem nx K=>
 ∃ x σ,pre x/\vs=(vs0 x).map (rnV σ)/\zjR mem σ (m0 x)/\zfj σ (m0 x)=true/\zjm σ nx k0=true/\∀ y,post x y->K (rnV (sgn σ k0 nx d) (V x y)) (rnM (sgn σ k0 nx d) (M1 x y)++mem) (nx+d)
def objR {Y:Type} (k0:Nat) (post:Y->Prop) (V:Y->Value) (M1:Y->AM) (v:Value) (mem':AM) (nx':Nat):Prop:=∃ y σ,post y/\zhv k0 σ=true/\zfj σ (M1 y)=true/\v=rnV σ (V y)/\zeG mem' σ (M1 y)
section
variable {P:Program} {C:Ctx} {ρ ρ':Nat->Pl} {fr:AF} {mem mem':AM} {nx nx':Nat} {a:Act} {w w':World} {σ:List (Nat×Nat)}
theorem zdv {σ:List (Nat×Nat)} {k0 nx i:Nat} (hi:i<k0):∀ d,rnm (sgn σ k0 nx d) i=rnm σ i
 | 0=>rfl
 | d+1=>by
  have:=zdv (σ:=σ) (nx:=nx) hi d
  unfold rnm at this ⊢
  simp only[sgn]
  rw[zcI _ _ o_]
  exact this
theorem zdu {σ:List (Nat×Nat)} {k0 nx i:Nat} (hi:k0<=i):∀ d,i<k0+d->rnm (sgn σ k0 nx d) i=nx+(i-k0)
 | 0,h=>by omega
 | d+1,h=>by
  by_cases he:k0+d=i
  ·subst he
   unfold rnm
   simp only[sgn]
   rw[zbM]
   simp
  ·have:=zdu (σ:=σ) (nx:=nx) hi d o_
   unfold rnm at this ⊢
   simp only[sgn]
   rw[zcI _ _ he]
   exact this
theorem zdk {nx:Nat}:∀ {k:Nat},zjm σ nx k=true->∀ i,i<k->rnm σ i<nx
 | 0,_,i,hi=>by omega
 | k+1,h,i,hi=>by
  simp only[zjm,Bool.and_eq_true,Nat.blt_eq] at h
  by_cases he:i=k
  ·subst he;exact h.1
  ·exact zdk h.2 i o_
theorem zd2:∀ {m:AM},zjR mem σ m->∀ i b,lk m i=some b->∃ b',lk mem (rnm σ i)=some b'/\unB b'=rnB σ b
 | [],_,t,v,h=>by simp[lk] at h
 | (k,u)::l,hs,t,v,h=>by
  rcases za5 h with⟨rfl,rfl⟩ | ⟨_,h⟩
  ·have:=hs.1
   simp only[Option.map_eq_some_iff] at this
   exact this
  ·exact zd2 hs.2 t v h
theorem znx {i g:Nat} (b:ABlk):bwr ρ i (unB b) g↔bwr ρ i b g:=by
 cases b with
 | box t cs=>exact Iff.rfl
 | row t sz n el=>
  cases ho:zc1 t with
  | true=>simp only[unB,ho]
  | false=>
   simp only[unB,ho,bwr];exact⟨fun h=>by have:=h.1;simp[zc1] at this,fun h=>by simp at h⟩
 | ext e=>cases e with
  | deep t sz n cap el u=>
   cases ho:zc1 t with
   | true=>simp only[unB,ho]
   | false=>
    simp only[unB,ho,bwr,xwr];exact⟨fun h=>by have:=h.1;simp[zc1] at this,fun h=>by simp at h⟩
  | fam t sb=>exact Iff.rfl
  | map kk ag f=>exact Iff.rfl
  | obj S Φ=>exact Iff.rfl
theorem brd_un {i g:Nat} (b:ABlk):brd ρ i (unB b) g↔brd ρ i b g:=by
 cases b with
 | box t cs=>exact Iff.rfl
 | row t sz n el=>cases ho:zc1 t<;>simp only[unB,ho,brd]
 | ext e=>cases e with
  | deep t sz n cap el u=>cases ho:zc1 t<;>simp only[unB,ho,brd,xrd]
  | fam t sb=>exact Iff.rfl
  | map kk ag f=>exact Iff.rfl
  | obj S Φ=>exact Iff.rfl
theorem exB_un (b:ABlk):exB (unB b)=exB b:=by
 cases b with
 | box t cs=>rfl
 | row t sz n el=>cases ho:zc1 t<;>simp[unB,ho,exB]<;>rfl
 | ext e=>cases e with
  | deep t sz n cap el u=>cases ho:zc1 t<;>simp[unB,ho,exB]<;>rfl
  | fam t sb=>rfl
  | map kk ag f=>rfl
  | obj S Φ=>rfl
theorem BlkOk.perm {i:Nat} {b:ABlk} (h:BlkOk C ρ nx i w b) {g:Nat} (hg:bwr ρ i b g):C.ok g:=by
 cases b with
 | box t cs=>
  obtain⟨g',h1,h2,h3,-⟩:=h;have:g'=g:=by simpa [bwr,bno,h1] using hg
  exact this ▸ h3
 | row t sz n el=>
  obtain⟨ho,hn,hg⟩:=hg;obtain⟨-,-,h3⟩:=h;obtain⟨b,off,hA,hr,-⟩:=h3.resolve_left hn;have:b=g:=by simpa [bno,hA] using hg
  exact this ▸ (hr.own ho).2.1
 | ext e=>cases e with
  | deep t sz n cap el u=>
   obtain⟨ho,hn,hg⟩:=hg;obtain⟨-,-,-,h3⟩:=h;rcases h3 with h3 | ⟨-,b,off,hA,hr,-⟩
   ·exact absurd h3.1 hn
   ·have:b=g:=by simpa [bno,hA] using hg
    exact this ▸ (hr.own ho).2.1
  | fam t sb=>exact hg.elim
  | map kk ag f=>
   obtain⟨g',es,cl,h1,-,h3,-⟩:=h;have:g'=g:=by simpa [bwr,xwr,bno,h1] using hg
   exact this ▸ h3
  | obj S Φ=>
   obtain⟨g',h1,h2,h3,-⟩:=h;exact (h3 g hg).2
theorem BlkOk.made {i:Nat} {b:ABlk} (h:BlkOk C ρ nx i w b) (hf:frBk b=true) {g:Nat} (hg:brd ρ i b g):C.ok g:=by
 cases b with
 | box t cs=>
  obtain⟨g',h1,h2,h3,-⟩:=h;have:g'=g:=by simpa [brd,bno,h1] using hg
  exact this ▸ h3
 | row t sz n el=>
  obtain⟨hn,hg⟩:=hg;obtain⟨-,-,h3⟩:=h;obtain⟨b,off,hA,hr,-⟩:=h3.resolve_left hn;have:b=g:=by simpa [bno,hA] using hg
  exact this ▸ hr.new hf
 | ext e=>cases e with
  | deep t sz n cap el u=>
   obtain⟨hn,hg⟩:=hg;obtain⟨-,-,-,h3⟩:=h;rcases h3 with h3 | ⟨-,b,off,hA,hr,-⟩
   ·exact absurd h3.1 hn
   ·have:b=g:=by simpa [bno,hA] using hg
    exact this ▸ hr.new hf
  | fam t sb=>cases hf
  | map kk ag f=>
   obtain⟨g',es,cl,h1,-,h3,-⟩:=h;have:g'=g:=by simpa [brd,xrd,bno,h1] using hg
   exact this ▸ h3
  | obj S Φ=>
   obtain⟨g',h1,h2,h3,-⟩:=h;exact (h3 g hg).2
theorem BlkOk.ctxU {C':Ctx} {i:Nat} {b:ABlk} (h:BlkOk C ρ nx i w b) (hw:∀ g,bwr ρ i b g->C'.ok g):BlkOk C' ρ nx i w (unB b):=by
 cases b with
 | box t cs=>
  obtain⟨g,h1,h2,h3,h4⟩:=h;exact⟨g,h1,h2,hw g (by simp[bwr,bno,h1]),h4⟩
 | row t sz n el=>
  obtain⟨h1,h2,h3⟩:=h;cases ho:zc1 t with
  | true=>
   simp only[unB,ho];refine⟨h1,h2,?_⟩;by_cases hn:n=0
   ·exact .inl hn
   ·obtain⟨b,off,hA,hr,hc⟩:=h3.resolve_left hn;have hx:C'.ok b:=hw b ⟨ho,hn,by simp[bno,hA]⟩;exact .inr ⟨b,off,hA,⟨hr.lt,fun ho=>⟨(hr.own ho).1,hx,(hr.own ho).2.2⟩,fun _=>hx⟩,hc⟩
  | false=>
   simp only[unB,ho];refine⟨h1,h2,h3.imp id ?_⟩;rintro⟨b,off,hA,hr,hc⟩;exact⟨b,off,hA,⟨hr.lt,fun q=>by simp[zc1] at q,fun q=>by simp[frT] at q⟩,hc⟩
 | ext e=>cases e with
  | deep t sz n cap el u=>
   obtain⟨h1,h2,h0,h3⟩:=h;cases ho:zc1 t with
   | true=>
    simp only[unB,ho];refine⟨h1,h2,h0,h3.imp id ?_⟩;rintro⟨hn,b,off,hA,hr,hcap,hc⟩;have hx:C'.ok b:=hw b ⟨ho,hn,by simp[bno,hA]⟩;exact⟨hn,b,off,hA,⟨hr.lt,fun ho=>⟨(hr.own ho).1,hx,(hr.own ho).2.2⟩,fun _=>hx⟩,hcap,hc⟩
   | false=>
    simp only[unB,ho];refine⟨h1,h2,h0,h3.imp (fun q=>⟨q.1,fun q=>by simp[zc1] at q⟩) ?_⟩;rintro⟨hn,b,off,hA,hr,hcap,hc⟩;exact⟨hn,b,off,hA,⟨hr.lt,fun q=>by simp[zc1] at q,fun q=>by simp[frT] at q⟩,fun q=>by simp[zc1] at q,hc⟩
  | fam t sb=>
   refine⟨rfl,fun k o=>⟨(h.2 k o).1,(h.2 k o).2.imp id ?_⟩⟩;rintro⟨b,off,hA,hr,hc⟩;exact⟨b,off,hA,⟨hr.lt,fun q=>by simp[zc1] at q,fun q=>by simp[frT] at q⟩,hc⟩
  | map kk ag f=>
   obtain⟨g,es,cl,h1,h2,h3,h4⟩:=h;exact⟨g,es,cl,h1,h2,hw g (by simp[bwr,xwr,bno,h1]),h4⟩
  | obj S Φ=>
   obtain⟨g,h1,h2,h3,h4⟩:=h;exact⟨g,h1,h2,fun b hb=>⟨(h3 b hb).1,hw b hb⟩,h4⟩
theorem BlkOk.ctxF {C':Ctx} {i:Nat} {b:ABlk} (h:BlkOk C ρ nx i w b) (hw:∀ g,C.ok g->C'.ok g):BlkOk C' ρ nx i w b:=by
 cases b with
 | box t cs=>
  obtain⟨g,h1,h2,h3,h4⟩:=h;exact⟨g,h1,h2,hw g h3,h4⟩
 | row t sz n el=>
  obtain⟨h1,h2,h3⟩:=h;refine⟨h1,h2,h3.imp id ?_⟩;rintro⟨b,off,hA,hr,hc⟩;exact⟨b,off,hA,⟨hr.lt,fun ho=>⟨(hr.own ho).1,hw _ (hr.own ho).2.1,(hr.own ho).2.2⟩,fun ho=>hw _ (hr.new ho)⟩,hc⟩
 | ext e=>cases e with
  | deep t sz n cap el u=>
   obtain⟨h1,h2,h0,h3⟩:=h;refine⟨h1,h2,h0,h3.imp id ?_⟩;rintro⟨hn,b,off,hA,hr,hcap,hc⟩;exact⟨hn,b,off,hA,⟨hr.lt,fun ho=>⟨(hr.own ho).1,hw _ (hr.own ho).2.1,(hr.own ho).2.2⟩,fun ho=>hw _ (hr.new ho)⟩,hcap,hc⟩
  | fam t sb=>
   refine⟨h.1,fun k o=>⟨(h.2 k o).1,(h.2 k o).2.imp id ?_⟩⟩;rintro⟨b,off,hA,hr,hc⟩;exact⟨b,off,hA,⟨hr.lt,fun ho=>⟨(hr.own ho).1,hw _ (hr.own ho).2.1,(hr.own ho).2.2⟩,fun ho=>hw _ (hr.new ho)⟩,hc⟩
  | map kk ag f=>
   obtain⟨g,es,cl,h1,h2,h3,h4⟩:=h;exact⟨g,es,cl,h1,h2,hw g h3,h4⟩
  | obj S Φ=>
   obtain⟨g,h1,h2,h3,h4⟩:=h;exact⟨g,h1,h2,fun b hb=>⟨(h3 b hb).1,hw b (h3 b hb).2⟩,h4⟩
theorem BlkOk.rnI {n i:Nat} {b:ABlk} (h:BlkOk C ρ nx (rnm σ i) w (rnB σ b)) (hb:nmB n b=true):BlkOk C (fun i=>ρ (rnm σ i)) n i w b:=by
 cases b with
 | box t cs=>
  obtain⟨g,e1,e2,e3,e4⟩:=h;simp only[nmB,List.all_eq_true] at hb;refine⟨g,e1,?_,e3,fun v hv=>zdA (e4 _ (List.mem_map_of_mem hv)) (hb v hv)⟩;have:cs.map (zal fun i=>ρ (rnm σ i))=(cs.map (rn1 σ)).map (zal ρ):=by simp[Function.comp_def,zg2]
  rw[this];exact e2
 | row t sz k el=>exact h
 | ext eb=>cases eb with
  | fam t sb=>exact h
  | map kk ag f=>exact h
  | obj S Φ=>exact h
  | deep t sz k cap el u=>
   simp only[nmB,decide_eq_true_eq] at hb;obtain⟨e1,e2,e3,e4⟩:=h
   exact⟨e1,⟨hb,e2.2⟩,e3,e4.imp id fun⟨hn,b,off,hA,hlt,hcap,hc⟩=>⟨hn,b,off,hA,hlt,hcap,fun k hk j v hv=>by
    rw[hc k hk j v hv]
    cases v with
    | slice A _ _=>cases A<;>rfl
    | pointer p=>cases p with
     | none=>rfl
     | some ad=>exact ((e3 k hk).2 _ (List.mem_of_getElem? hv)).elim
    | map p=>cases p with
     | none=>rfl
     | some ad=>exact ((e3 k hk).2 _ (List.mem_of_getElem? hv)).elim
    | _=>rfl⟩⟩
theorem zei {n m:Nat} (hlt:∀ i,i<n->rnm σ i<m) {v:Value} (h:ok1 (fun i=>ρ (rnm σ i)) n v):ok1 ρ m (rn1 σ v):=by
 cases v with
 | pointer p=>cases p with
  | none=>trivial
  | some ad=>exact⟨⟨hlt _ h.1.1,h.1.2⟩,h.2⟩
 | slice p k c=>cases p with
  | none=>trivial
  | some ad=>exact⟨hlt _ h.1,h.2⟩
 | map p=>cases p with
  | none=>trivial
  | some i=>exact⟨⟨hlt _ h.1.1,h.1.2⟩,h.2⟩
 | _=>trivial
theorem zfO {n m:Nat} (hlt:∀ i,i<n->rnm σ i<m) {v:Value} (h:ok2 (fun i=>ρ (rnm σ i)) n v):ok2 ρ m (rn2 σ v):=by
 cases v with
 | agg cs=>
  intro u hu;simp at hu;obtain⟨x,hx,rfl⟩:=hu;exact zei hlt (h x hx)
 | pointer p=>cases p with
  | none=>trivial
  | some q=>exact zei (v:=.pointer (some q)) hlt h
 | slice p k c=>cases p with
  | none=>trivial
  | some q=>exact zei (v:=.slice (some q) k c) hlt h
 | map p=>cases p with
  | none=>trivial
  | some q=>exact zei (v:=.map (some q)) hlt h
 | _=>trivial
theorem ziM {n m:Nat} (hlt:∀ i,i<n->rnm σ i<m) {v:Value} (h:okV (fun i=>ρ (rnm σ i)) n v):okV ρ m (rnV σ v):=by
 cases v with
 | tuple vs=>
  intro u hu;simp at hu;obtain⟨x,hx,rfl⟩:=hu;exact zfO hlt (h x hx)
 | func f a b=>
  constructor
  ·intro u hu;simp at hu;obtain⟨x,hx,rfl⟩:=hu;exact zei hlt (h.1 x hx)
  ·intro u hu;simp at hu;obtain⟨x,hx,rfl⟩:=hu;exact zei hlt (h.2 x hx)
 | agg cs=>exact zfO (v:=.agg cs) hlt h
 | pointer p=>cases p with
  | none=>trivial
  | some q=>exact zfO (v:=.pointer (some q)) hlt h
 | slice p k c=>cases p with
  | none=>trivial
  | some q=>exact zfO (v:=.slice (some q) k c) hlt h
 | map p=>cases p with
  | none=>trivial
  | some q=>exact zfO (v:=.map (some q)) hlt h
 | _=>trivial
theorem BlkOk.rnO {n m i:Nat} (hlt:∀ i,i<n->rnm σ i<m) {b:ABlk} (h:BlkOk C (fun i=>ρ (rnm σ i)) n i w b):BlkOk C ρ m (rnm σ i) w (rnB σ b):=by
 cases b with
 | box t cs=>
  obtain⟨g,e1,e2,e3,e4⟩:=h;refine⟨g,e1,?_,e3,fun v hv=>?_⟩
  ·have:cs.map (zal fun i=>ρ (rnm σ i))=(cs.map (rn1 σ)).map (zal ρ):=by simp[Function.comp_def,zg2]
   rw[← this];exact e2
  ·obtain⟨x,hx,rfl⟩:=List.mem_map.1 hv;exact zei hlt (e4 x hx)
 | row t sz k el=>exact h
 | ext eb=>cases eb with
  | fam t sb=>exact h
  | map kk ag f=>exact h
  | obj S Φ=>exact h
  | deep t sz k cap el u=>
   obtain⟨e1,e2,e3,e4⟩:=h
   exact⟨e1,⟨hlt _ e2.1,e2.2⟩,e3,e4.imp id fun⟨hn,b,off,hA,hlt,hcap,hc⟩=>⟨hn,b,off,hA,hlt,hcap,fun k hk j v hv=>by
    rw[hc k hk j v hv]
    cases v with
    | slice A _ _=>cases A<;>rfl
    | pointer p=>cases p with
     | none=>rfl
     | some ad=>exact ((e3 k hk).2 _ (List.mem_of_getElem? hv)).elim
    | map p=>cases p with
     | none=>rfl
     | some ad=>exact ((e3 k hk).2 _ (List.mem_of_getElem? hv)).elim
    | _=>rfl⟩⟩
theorem zm6:∀ {m:AM} {j:Nat} {b:ABlk},lk (rnM σ m) j=some b->∃ i b0,lk m i=some b0/\rnm σ i=j/\b=rnB σ b0
 | [],j,b,h=>by simp[rnM,lk] at h
 | (k,c)::r,j,b,h=>by
  rcases za5 h with⟨h1,h2⟩ | ⟨hne,h⟩
  ·exact⟨k,c,zbM _ _ _,h1,h2.symm⟩
  ·obtain⟨i,b0,h1,h2,h3⟩:=zm6 (m:=r) h
   exact⟨i,b0,by rw[zcI _ _ (by rintro rfl;exact hne h2)];exact h1,h2,h3⟩
theorem zjE:∀ {m:AM} {i:Nat} {b:ABlk},lk m i=some b->lk (rnM σ m) (rnm σ i)≠none
 | [],i,b,h=>by simp[lk] at h
 | (k,c)::r,i,b,h=>by
  show lk ((rnm σ k,rnB σ c)::rnM σ r) (rnm σ i)≠none
  by_cases he:rnm σ k=rnm σ i
  ·rw[he,zbM];simp
  ·rw[zcI _ _ he]
   rcases za5 h with⟨rfl,_⟩ | ⟨_,h⟩
   ·exact absurd rfl he
   ·exact zjE h
def wrB (ρ:Nat->Pl) (i:Nat):ABlk->Option Nat
 | .box _ _=>bno ρ i
 | .row t _ n _=>if zc1 t=true/\n≠0 then bno ρ i else none
 | .ext (.deep t _ n _ _ _)=>if zc1 t=true/\n≠0 then bno ρ i else none
 | .ext (.fam _ _)=>none
 | .ext (.map _ _ _)=>bno ρ i
 | .ext (.obj _ _)=>none
def wrL (ρ:Nat->Pl) (i:Nat):ABlk->List Nat
 | .ext (.obj S _)=>S
 | b=>(wrB ρ i b).toList
theorem wrB_iff {i g:Nat} (b:ABlk) (ho:∀ S Φ,b≠.ext (.obj S Φ)):wrB ρ i b=some g↔bwr ρ i b g:=by
 cases b with
 | box t cs=>exact Iff.rfl
 | row t sz n el=>
  simp only[wrB,bwr];by_cases h:zc1 t=true/\n≠0
  ·rw[if_pos h];exact⟨fun q=>⟨h.1,h.2,q⟩,fun q=>q.2.2⟩
  ·rw[if_neg h];exact⟨fun q=>(by cases q),fun q=>absurd ⟨q.1,q.2.1⟩ h⟩
 | ext e=>cases e with
  | deep t sz n cap el u=>
   simp only[wrB,bwr,xwr];by_cases h:zc1 t=true/\n≠0
   ·rw[if_pos h];exact⟨fun q=>⟨h.1,h.2,q⟩,fun q=>q.2.2⟩
   ·rw[if_neg h];exact⟨fun q=>(by cases q),fun q=>absurd ⟨q.1,q.2.1⟩ h⟩
  | fam t sb=>exact⟨fun q=>(by cases q),fun q=>q.elim⟩
  | map kk ag f=>exact Iff.rfl
  | obj S Φ=>exact absurd rfl (ho S Φ)
theorem zlt {i g:Nat} (b:ABlk):g ∈ wrL ρ i b↔bwr ρ i b g:=by
 have key:(∀ S Φ,b≠.ext (.obj S Φ))->(g ∈ (wrB ρ i b).toList↔bwr ρ i b g):=fun ho=>by
  rw[Option.mem_toList];exact wrB_iff b ho
 cases b with
 | box t cs=>exact key (by intro S Φ h;cases h)
 | row t sz n el=>exact key (by intro S Φ h;cases h)
 | ext e=>cases e with
  | obj S Φ=>exact Iff.rfl
  | deep t sz n cap el u=>exact key (by intro S Φ h;cases h)
  | fam t sb=>exact key (by intro S Φ h;cases h)
  | map kk ag f=>exact key (by intro S Φ h;cases h)
def borM (ρ:Nat->Pl) (m:AM):List Nat:=(m.map (·.1)).flatMap fun i=>match lk m i with | some b=>wrL ρ i b | none=>[]
theorem zh9 {m:AM} {g:Nat}:g ∈ borM ρ m↔∃ i b,lk m i=some b/\bwr ρ i b g:=by
 constructor
 ·intro h;obtain⟨i,-,h⟩:=List.mem_flatMap.1 h;cases hl:lk m i with
  | none=>rw[hl] at h;cases h
  | some b=>rw[hl] at h;exact⟨i,b,hl,(zlt b).1 h⟩
 ·rintro⟨i,b,hl,h⟩;exact List.mem_flatMap.2 ⟨i,List.mem_map.2 ⟨_,zaO hl,rfl⟩,by rw[hl];exact (zlt b).2 h⟩
theorem Sat.lend (h:Sat C ρ fr mem nx a w) {m0:AM} {k0:Nat} (hk:zjR mem σ m0) (hnb:zfj σ m0=true) (hnm:nmM k0 m0=true) (nt:Nat) :
  MemAt { w0:=w,bor:=borM (fun i=>ρ (rnm σ i)) m0,n0:=k0,ρ0:=fun i=>ρ (rnm σ i),nt:=nt } (fun i=>ρ (rnm σ i)) m0 k0 w:=by
 simp only[nmM,List.all_eq_true,Bool.and_eq_true,decide_eq_true_eq] at hnm;have hblk:∀ i b,lk m0 i=some b->BlkOk { w0:=w,bor:=borM (fun i=>ρ (rnm σ i)) m0,n0:=k0,ρ0:=fun i=>ρ (rnm σ i),nt:=nt } (fun i=>ρ (rnm σ i)) k0 i w b:=by
  intro i b hi;obtain⟨b',h1,h2⟩:=zd2 hk i b hi;have hb:=h.blk _ _ (za9 h1);have:=hb.ctxU (C':={ w0:=w,bor:=borM (fun i=>ρ (rnm σ i)) m0,n0:=k0,ρ0:=fun i=>ρ (rnm σ i),nt:=nt }) fun g hg=>.inr (zh9.2 ⟨i,b,hi,by rw[zdF,← h2,znx];exact hg⟩)
  rw[h2] at this;exact this.rnI (hnm _ (zaO hi)).2
 refine⟨fun i b hi=>?_,hblk,fun i j b b' hne hi hj=>?_,nl_,fun _ _=>rfl,⟨rfl,rfl,rfl,nl_,fun _ _ _=>rfl⟩⟩
 ·obtain⟨b',h1,-⟩:=zd2 hk i b hi;exact⟨(hnm _ (zaO hi)).1,(h.mlt _ _ (za9 h1)).2⟩
 ·refine (hblk i b hi).apart fun g hg hg2=>?_
  obtain⟨c,h1,h2⟩:=zd2 hk i b hi;obtain⟨c',h1',h2'⟩:=zd2 hk j b' hj;rw[zdF,← h2,znx] at hg;rw[ze9,← h2',brd_un] at hg2;by_cases he:rnm σ i=rnm σ j
  ·rw[he,h1'] at h1;have hx:exB b=true:=by rw[← ze6 (σ:=σ),← h2,exB_un];exact zfe hg
   have hx2:exB b'=true:=by rw[← ze6 (σ:=σ),← h2',exB_un,Option.some.inj h1];exact zfe hg
   exact hne (zdR hnb hi hj hx hx2 he)
  ·exact (h.sep _ _ _ _ he (za9 h1) (za9 h1')).wr (h.sep _ _ _ _ (Ne.symm he) (za9 h1') (za9 h1)) hg hg2
theorem Sat.back (h:Sat C ρ fr mem nx a w) {m0:AM} {k0 d nt:Nat} (hk:zjR mem σ m0) (hnm00:nmM k0 m0=true) (hlt:zjm σ nx k0=true) {ρ2:Nat->Pl} {mem2:AM} {nx2:Nat}
  (hm:MemAt { w0:=w,bor:=borM (fun i=>ρ (rnm σ i)) m0,n0:=k0,ρ0:=fun i=>ρ (rnm σ i),nt:=nt } ρ2 mem2 nx2 w') {σ1:List (Nat×Nat)} {M1:AM} (hlow1:zhv k0 σ1=true) (hnb:zfj σ1 M1=true) (hk1:zeG mem2 σ1 M1) (hnm:nmM (k0+d) M1=true)
  (hfr:M1.all (fun p=>frBk p.2)=true) (hall:(exN m0).all (fun i=>(lk M1 i).isSome)=true) {V:Value} (hV:okV ρ2 nx2 (rnV σ1 V)) (hVn:nmV (k0+d) V=true) :
  ∃ ρ',den ρ2 (rnV σ1 V)=den ρ' (rnV (sgn σ k0 nx d) V)/\okV ρ' (nx+d) (rnV (sgn σ k0 nx d) V)/\Sat C ρ' fr (rnM (sgn σ k0 nx d) M1++mem) (nx+d) a w'/\ExtS ρ nx ρ' (nx+d):=by
 simp only[nmM,List.all_eq_true,Bool.and_eq_true,decide_eq_true_eq] at hnm hnm00 hfr hall;have hnm0:∀ i b,lk m0 i=some b->i<k0:=fun i b hi=>(hnm00 _ (zaO hi)).1
 let σ':=sgn σ k0 nx d
 let ρF:Nat->Pl:=fun i=>if i<nx then ρ i else ρ2 (rnm σ1 (k0+(i-nx)))
 have hFlow:∀ i,i<nx->ρF i=ρ i:=fun i hi=>if_pos hi
 have hlt':∀ i,i<k0+d->rnm σ' i<nx+d:=fun i hi=>by
  rcases Nat.lt_or_ge i k0 with q | q
  ·rw[show rnm σ' i=rnm σ i from zdv q d];exact Nat.lt_of_lt_of_le (zdk hlt i q) (Nat.le_add_right _ _)
  ·rw[show rnm σ' i=_ from zdu q d hi];omega
 have hσ:∀ i,i<k0+d->ρF (rnm σ' i)=ρ2 (rnm σ1 i):=fun i hi=>by
  rcases Nat.lt_or_ge i k0 with q | q
  ·rw[show rnm σ' i=rnm σ i from zdv q d,hFlow _ (zdk hlt i q),zm4 hlow1 q];exact (hm.low i q).symm
  ·rw[show rnm σ' i=_ from zdu q d hi];show (if nx+(i-k0)<nx then _ else _)=_;rw[if_neg o_];congr 2
   omega
 -- the permissions
 have hlent:∀ {i b g},lk m0 i=some b->bwr (fun i=>ρ (rnm σ i)) i b g->∃ c,lk mem (rnm σ i)=some c/\bwr ρ (rnm σ i) c g/\exB b=true:=by
  intro i b g hi hg;obtain⟨c,h1,h2⟩:=zd2 hk i b hi;refine⟨c,h1,?_,zfe hg⟩;rw[zdF,← h2,znx] at hg;exact hg
 have hok:∀ g,({ w0:=w,bor:=borM (fun i=>ρ (rnm σ i)) m0,n0:=k0,ρ0:=fun i=>ρ (rnm σ i),nt:=nt }:Ctx).ok g->C.ok g:=by
  rintro g (hg | hg)
  ·exact .inl (Nat.le_trans h.rest.size hg)
  ·obtain⟨i,b,hi,hg⟩:=zh9.1 hg;obtain⟨c,h1,h2,-⟩:=hlent hi hg;exact (h.blk _ _ (za9 h1)).perm h2
 have hlow:∀ i,i<nx->ρF i=ρ i:=hFlow;have hsz:w.heap.size<=w'.heap.size:=hm.rest.size;have hstay:∀ b,b<w.heap.size->b ∉ borM (fun i=>ρ (rnm σ i)) m0->w'.heap[b]?=w.heap[b]?:=fun b hlt hn=>hm.rest.block b hlt hn
 -- blocks behind the call
 have hblk1:∀ i b,lk M1 i=some b->BlkOk { w0:=w,bor:=borM (fun i=>ρ (rnm σ i)) m0,n0:=k0,ρ0:=fun i=>ρ (rnm σ i),nt:=nt } (fun i=>ρF (rnm σ' i)) (k0+d) i w' b:=by
  intro i b hi;have h1:=hm.blk _ _ (zbF hk1 i b hi);have h2:=h1.rnI (hnm _ (zaO hi)).2;exact h2.ren (hσ i (hnm _ (zaO hi)).1) (fun j hj _=>hσ j hj) nl_
 have hblk2:∀ i b,lk M1 i=some b->BlkOk C ρF (nx+d) (rnm σ' i) w' (rnB σ' b):=fun i b hi=>((hblk1 i b hi).ctxF hok).rnO hlt'
 have hsep1:∀ i j b b' g,i≠j->lk M1 i=some b->lk M1 j=some b'->bwr ρF (rnm σ' i) (rnB σ' b) g->¬ brd ρF (rnm σ' j) (rnB σ' b') g:=by
  intro i j b b' g hne hi hj hg hg2;rw[← zdF,zdG (ρ:=fun i=>ρ2 (rnm σ1 i)) (ρ':=fun i=>ρF (rnm σ' i)) (hσ i (hnm _ (zaO hi)).1) b,zdF (σ:=σ1)] at hg;rw[← ze9,zbX (ρ:=fun i=>ρ2 (rnm σ1 i)) (ρ':=fun i=>ρF (rnm σ' i)) (hσ j (hnm _ (zaO hj)).1) b',ze9 (σ:=σ1)] at hg2;have h1:=zbF hk1 i b hi;have h2:=zbF hk1 j b' hj;by_cases he:rnm σ1 i=rnm σ1 j
  ·rw[he,h2] at h1;have hx:=zfe hg;have hx2:exB b'=true:=by rw[← ze6 (σ:=σ1),Option.some.inj h1];exact hx
   rw[ze6] at hx;exact hne (zdR hnb hi hj hx hx2 he)
  ·exact (hm.sep _ _ _ _ he h1 h2).wr (hm.sep _ _ _ _ (Ne.symm he) h2 h1) hg hg2
 have hlk:∀ j b,lk (rnM σ' M1++mem++C.fm) j=some b->(∃ i b0,lk M1 i=some b0/\rnm σ' i=j/\b=rnB σ' b0)∨(lk (rnM σ' M1) j=none/\lk (mem++C.fm) j=some b):=by
  intro j b hj;rw[List.append_assoc] at hj;cases hki:lk (rnM σ' M1) j with
  | some c=>rw[za9 hki] at hj;cases hj;exact .inl (zm6 hki)
  | none=>rw[zbd hki] at hj;exact .inr ⟨rfl,hj⟩
 -- an old block rests on nothing that was lent
 have hfar:∀ j b g,lk (rnM σ' M1) j=none->lk (mem++C.fm) j=some b->brd ρ j b g->g<w.heap.size/\g ∉ borM (fun i=>ρ (rnm σ i)) m0:=by
  intro j b g hn hj hg;refine⟨(h.blk j b hj).brd_lt hg,fun hb=>?_⟩;obtain⟨i,b0,hi,hg0⟩:=zh9.1 hb;obtain⟨c,h1,h2,hx⟩:=hlent hi hg0;have hne:rnm σ i≠j:=by
   rintro rfl;have:=hall i (zi0 hi hx);cases hl:lk M1 i with
   | none=>rw[hl] at this;cases this
   | some b1=>
    have hi0:i<k0:=hnm0 i b0 hi;have:=zjE (σ:=σ') hl;rw[show rnm σ' i=rnm σ i from zdv hi0 d] at this;exact this hn
  exact (h.sep _ _ _ _ hne (za9 h1) hj).wr (h.sep _ _ _ _ (Ne.symm hne) hj (za9 h1)) h2 hg
 have hnew:∀ i b g,lk M1 i=some b->brd ρF (rnm σ' i) (rnB σ' b) g->w.heap.size<=g∨g ∈ borM (fun i=>ρ (rnm σ i)) m0:=by
  intro i b g hi hg;rw[← ze9] at hg;exact (hblk1 i b hi).made (hfr _ (zaO hi)) hg
 have hold:∀ j b,lk (rnM σ' M1) j=none->lk (mem++C.fm) j=some b->BlkOk C ρF (nx+d) j w' b:=by
  intro j b hn hj;have hltj:=(h.mlt j b hj).1;refine (((h.blk j b hj).far hsz fun g hg=>?_)).ren (hlow j hltj) (fun q hq _=>hlow q hq) (Nat.le_add_right _ _);obtain⟨q1,q2⟩:=hfar j b g hn hj hg;exact hstay g q1 q2
 have hcross:∀ i b j b',lk M1 i=some b->lk (rnM σ' M1) j=none->lk (mem++C.fm) j=some b'->∀ g,brd ρF (rnm σ' i) (rnB σ' b) g->¬ brd ρF j b' g:=by
  intro i b j b' hi hn hj g hg hg2;rw[zbX (hlow j (h.mlt j b' hj).1)] at hg2;obtain⟨q1,q2⟩:=hfar j b' g hn hj hg2;rcases hnew i b g hi hg with q | q
  ·omega
  ·exact q2 q
 refine⟨ρF,?_,?_,⟨⟨fun t v hv=>?_,fun t v hv=>zc9 (fun j hj _=>hlow j hj) (Nat.le_add_right _ _) (h.fok.frk t v hv)⟩,h.sz,h.dfr,fun j b hj=>?_,fun j b hj=>?_,fun i j b b' hne hi hj=>?_,Nat.le_trans h.n0 (Nat.le_add_right _ _),fun i hi=>(hlow i (Nat.lt_of_lt_of_le hi h.n0)).trans (h.low i hi),?_⟩,⟨hlow,Nat.le_add_right _ _⟩⟩
 ·rw[← ze8,← ze8];exact (zbQ (ρ:=fun i=>ρ2 (rnm σ1 i)) (ρ':=fun i=>ρF (rnm σ' i)) (fun j hj _=>hσ j hj) (zfa hV hVn)).symm
 ·exact ziM hlt' (zc9 (ρ':=fun i=>ρF (rnm σ' i)) (fun j hj _=>hσ j hj) nl_ (zfa hV hVn))
 ·rw[zbQ (fun j hj _=>hlow j hj) (h.fok.frk t v hv)];exact h.fok.frm t v hv
 ·rcases hlk j b hj with⟨i,b0,hi,rfl,rfl⟩ | ⟨hn,hj⟩
  ·have hi2:=(hnm _ (zaO hi)).1;exact⟨hlt' i hi2,by rw[hσ i hi2];exact (hm.mlt _ _ (zbF hk1 i b0 hi)).2⟩
  ·exact⟨Nat.lt_of_lt_of_le (h.mlt j b hj).1 (Nat.le_add_right _ _),by rw[hlow j (h.mlt j b hj).1];exact (h.mlt j b hj).2⟩
 ·rcases hlk j b hj with⟨i,b0,hi,rfl,rfl⟩ | ⟨hn,hj⟩
  ·exact hblk2 i b0 hi
  ·exact hold j b hn hj
 ·rcases hlk i b hi with⟨i0,b0,hi1,rfl,rfl⟩ | ⟨hn,hi1⟩
  ·rcases hlk j b' hj with⟨j0,b0',hj1,rfl,rfl⟩ | ⟨hn2,hj1⟩
   ·exact (hblk2 i0 b0 hi1).apart fun g hg=>hsep1 i0 j0 b0 b0' g (fun q=>hne (by rw[q])) hi1 hj1 hg
   ·exact (hblk2 i0 b0 hi1).apart fun g hg=>hcross i0 b0 j b' hi1 hn2 hj1 g (zbm hg)
  ·rcases hlk j b' hj with⟨j0,b0',hj1,rfl,rfl⟩ | ⟨hn2,hj1⟩
   ·exact (hold i b hn hi1).apart fun g hg hg2=>hcross j0 b0' i b hj1 hn hi1 g hg2 (zbm hg)
   ·exact (h.sep i j b b' hne hi1 hj1).ren (hlow i (h.mlt i b hi1).1) (hlow j (h.mlt j b' hj1).1)
 ·refine⟨hm.rest.os.trans h.rest.os,hm.rest.tape.trans h.rest.tape,hm.rest.output.trans h.rest.output,Nat.le_trans h.rest.size hsz,fun b hltb hnb=>?_⟩;refine (hstay b (Nat.lt_of_lt_of_le hltb h.rest.size) fun hb=>?_).trans (h.rest.block b hltb hnb);rcases hok b (.inr hb) with q | q
  ·omega
  ·exact hnb q
theorem zfp {τ : TT} {F : FT} {D : List (Nat × DQ)} (hτ : zcl P τ) (hF : zaY P F (zbj D)) (hmix : P.follows .mixedOrders = true) {f : FuncId} {fn : Func} {c : Code} (hent : (P.funcs[f]?).map (fun fn => (fn.name == "runtime.NumGoroutine", fn.body.isNone)) = some (false, false)) (hf : P.funcs[f]? = some fn) (hb : fn.body = some c) (hcode : zc6 fn.ntmps D c = true)
  {X Y:Type} {vs0:X->List Value} {m0:X->AM} {k0:Nat} {pre:X->Prop} {post:X->Y->Prop} {V:X->Y->Value} {M1:X->Y->AM} {d:Nat}
  (hn0:∀ x,Nat.ble (vs0 x).length fn.ntmps=true) (h0:∀ x,objB0 k0 (vs0 x) (m0 x)=true) (h1:∀ x y,objB1 k0 d (m0 x) (V x y) (M1 x y)=true)
  (hw:∀ x,pre x->sx τ F D c (zb3 0 (vs0 x)) (m0 x) k0 (zb8 τ fn.results.toList (objR k0 (post x) (V x) (M1 x)))):CSound P f (znc vs0 m0 k0 pre post V M1 d):=by
 refine⟨hent,?_⟩;rintro C ρ fr mem nx a w vs K ⟨x,σ,hpre,rfl,hk,hnb,hlt,hK⟩ hs hv;have h0x:=h0 x;simp only[objB0,Bool.and_eq_true] at h0x;have hm:=hs.lend hk hnb h0x.1 fn.ntmps;have hvs:((vs0 x).map (rnV σ)).map (den ρ)=(vs0 x).map (den fun i=>ρ (rnm σ i)):=by simp[Function.comp_def,ze8]
 rw[hvs];have hva:∀ v ∈ vs0 x,okV (fun i=>ρ (rnm σ i)) k0 v:=fun v hv'=>zfa (hv _ (List.mem_map_of_mem hv')) (List.all_eq_true.1 h0x.2 v hv')
 refine (zbR hτ hF hmix hf hb hcode (hn0 x) ⟨rfl,rfl⟩ rfl hm hva (hw x hpre)).mono ?_;rintro e w' ⟨v,mem2,nx2,ρ2,rfl,⟨y,σ1,hpost,hlow1,hnb1,rfl,hk1⟩,hv2,hm2⟩;have h1x:=h1 x y;simp only[objB1,Bool.and_eq_true] at h1x;obtain⟨ρ',e1,e2,e3,e4⟩:=hs.back (d:=d) hk h0x.1 hlt hm2 hlow1 hnb1 hk1 h1x.1.1.1 h1x.1.2 h1x.2 hv2 h1x.1.1.2;exact⟨_,_,_,ρ',by rw[e1],hK y hpost,e3,e2,e4⟩
end
end Go.Proofs.YtjnndjnpcelafaaGreat
