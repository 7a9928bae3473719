import Derived.Test.YtchhdflealgkaaaGreatPp14
namespace Go.Proofs.YtchhdflealgkaaaGreat
open Go.RowKit
set_option linter.unusedSimpArgs false
set_option linter.unusedVariables false
/-! The tape,exactly: what is read is a function of the tape and its place. -/
def nxV (zs:List Int) (k n:Int):Int:=if zs.length=0 then 0 else IntKind.i64.wrap ((zs.getD (k.tmod zs.length).toNat 0) % 1073741824+IntKind.i64.wrap ((IntKind.i64.wrap (k.tdiv zs.length)) * 7)) % n
def advK (zs:List Int) (k:Int):Int:=if zs.length=0 then k else k+1
theorem advK_adv (zs:List Int) (k:Int):Adv zs k (advK zs k):=by
 unfold advK
 by_cases h:zs.length=0
 ·rw[if_pos h];exact⟨by omega,by omega,fun q=>absurd h q⟩
 ·rw[if_neg h];exact⟨by omega,by omega,fun _=>rfl⟩
theorem nxV_in (zs:List Int) (k:Int) {n:Int} (hn:1≤n):0≤nxV zs k n∧nxV zs k n<n:=by
 unfold nxV
 by_cases h:zs.length=0
 ·rw[if_pos h];omega
 ·rw[if_neg h];exact⟨Int.emod_nonneg _ (by omega),Int.emod_lt_of_pos _ (by omega)⟩
theorem nextX_sx (cap:Nat) (zs:List Int) (k n:Int) (hz:zs.length≤400) (hk:0≤k∧k≤1000000) (hn:1≤n∧n≤1000000) :
  sx tt nextF nextD (bodyOf Tryz.f39) (argF 0 [ptr 0,.int .i64 n]) [(0,tapeB 1 zs.length cap k),(1,intRow zs)] 2
   (endx tt [.tmp 4] fun v mem' _=>∃ k',(∃ n' r,[Value.int .i64 n]=[.int .i64 n']∧v=.int .i64 r∧(nxV zs k n'=r∧advK zs k=k')∧NextR zs n' k r k')∧(plain1 v∧atom v=true)∧lk mem' 0=some (tapeB 1 zs.length cap k')):=by
 refine⟨fun h0=>?_,fun h0=>?_⟩
 ·have hz0:zs.length=0:=by
   have:(zs.length:Int)=0:=by simpa using h0
   omega
  have e1:nxV zs k n=0:=by rw[nxV,if_pos hz0]
  have e2:advK zs k=k:=by rw[advK,if_pos hz0]
  exact⟨k,⟨n,0,rfl,rfl,⟨e1,e2⟩,e1 ▸ nxV_in zs k hn.1,by omega,by omega,by omega⟩,⟨trivial,rfl⟩,rfl⟩
 ·have hpos:(zs.length:Int)≠0:=by simpa using h0
  have hz0:zs.length≠0:=by omega
  refine⟨⟨rfl,hpos⟩,⟨rfl,rfl,trivial⟩,⟨Nat.le_refl _,?i1,?i2⟩,⟨rfl,rfl,trivial⟩,⟨rfl,hpos⟩,⟨rfl,rfl,trivial⟩,?rest⟩
  case i1=>exact Int.tmod_nonneg _ hk.1
  case i2=>exact Int.tmod_lt_of_pos _ (by omega)
  refine⟨_,_,rfl,by decide,?_⟩
  refine⟨_,_,rfl,by omega,?_⟩
  have e2:advK zs k=k+1:=by rw[advK,if_neg hz0]
  refine⟨k+1,⟨n,nxV zs k n,rfl,?_,⟨rfl,e2⟩,nxV_in zs k hn.1,by omega,by omega,fun _=>rfl⟩,?_,?_⟩
  ·rw[nxV,if_neg hz0]
  ·exact⟨trivial,rfl⟩
  show some (tapeB 1 zs.length cap (IntKind.i64.wrap (k+1)))=_
  rw[wrapi (by omega)]
def ctNextX:CT:=ctTape (fun zs args k z k'=>∃ n r,args=[.int .i64 n]∧z=.int .i64 r∧(nxV zs k n=r∧advK zs k=k')∧NextR zs n k r k') (preInt 1 1000000)
theorem nextXOk:CSound Tryz.prog 39 ctNextX:=tapeOk (by kernel_rfl) preInt_plain (by
 rintro args g A cap zs k w hz hk0 hk1 ⟨n,rfl,hn⟩ ht
 refine tape_calls nextFok Tryz.func39 rfl (D:=nextD) (by kernel_rfl) rfl (preInt_plain _ k ⟨n,rfl,hn⟩) g A cap zs k w ht (R:=fun z k'=>∃ n' r,[Value.int .i64 n]=[.int .i64 n']∧z=.int .i64 r∧(nxV zs k n'=r∧advK zs k=k')∧NextR zs n' k r k') ?_
 exact (nextX_sx cap zs k n hz ⟨hk0,hk1⟩ hn))
def txF:FT:=[(39,ctNextX)]
theorem txFok:FTok Tryz.prog txF:=ft_cons nextXOk ft_nil
def ctYesX:CT:=ctTape (fun zs args k z k'=>∃ n b,args=[.int .i64 n]∧z=.bool b∧(decide (nxV zs k n=0)=b∧advK zs k=k')∧Adv zs k k') (preInt 1 1000000)
theorem yesXOk:CSound Tryz.prog 41 ctYesX:=tapeOk (by kernel_rfl) preInt_plain (by
 rintro args g A cap zs k w hz hk0 hk1 ⟨n,rfl,hn⟩ ht
 refine tape_calls txFok Tryz.func41 rfl (D:=[]) (by kernel_rfl) rfl (preInt_plain _ k ⟨n,rfl,hn⟩) g A cap zs k w ht (R:=fun z k'=>∃ n' b,[Value.int .i64 n]=[.int .i64 n']∧z=.bool b∧(decide (nxV zs k n'=0)=b∧advK zs k=k')∧Adv zs k k') ?_
 refine⟨0,1,cap,zs,k,_,rfl,⟨rfl,rfl⟩,⟨hz,hk0,hk1⟩,⟨n,rfl,hn⟩,?_⟩
 rintro z k' ⟨n',r,hnn,rfl,⟨rfl,rfl⟩,hr⟩
 cases hnn
 exact⟨_,⟨n,_,rfl,rfl,⟨rfl,rfl⟩,hr.2⟩,⟨trivial,rfl⟩,rfl⟩)
def rgV (zs:List Int) (k lo hi:Int):Int:=lo+nxV zs k (hi-lo+1)
def RangeX (zs:List Int) (args:List Value) (k:Int) (z:Value) (k':Int):Prop:=∃ lo hi r,args=[.int .i64 lo,.int .i64 hi]∧z=.int .i64 r∧(rgV zs k lo hi=r∧advK zs k=k')∧(lo≤r∧r≤hi)∧Adv zs k k'
def ctRangeX:CT:=ctTape RangeX preRange
theorem rangeXOk:CSound Tryz.prog 40 ctRangeX:=tapeOk (by kernel_rfl) preRange_plain (by
 rintro args g A cap zs k w hz hk0 hk1 ⟨lo,hi,rfl,h1,h2,h3⟩ ht
 refine tape_calls txFok Tryz.func40 rfl (D:=[]) (by kernel_rfl) rfl (preRange_plain _ k ⟨lo,hi,rfl,h1,h2,h3⟩) g A cap zs k w ht (R:=fun z k'=>RangeX zs _ k z k') ?_
 refine⟨0,1,cap,zs,k,_,rfl,⟨rfl,rfl⟩,⟨hz,hk0,hk1⟩,⟨_,rfl,?_⟩,?_⟩
 ·rw[wrapi (n:=hi-lo) (by omega),wrapi (by omega)];omega
 ·rintro z k' ⟨n',r,hnn,rfl,⟨rfl,rfl⟩,hr⟩
  simp only[List.cons.injEq,Value.int.injEq,and_true,true_and] at hnn
  rw[wrapi (n:=hi-lo) (by omega),wrapi (by omega)] at hnn
  subst hnn
  have hr1:=hr.1
  refine⟨_,⟨lo,hi,rgV zs k lo hi,rfl,?_,⟨rfl,rfl⟩,by unfold rgV;omega,hr.2⟩,?_,rfl⟩
  ·show Value.int .i64 (IntKind.i64.wrap (lo+_))=_
   rw[wrapi (by omega)];rfl
  ·exact⟨trivial,rfl⟩)
def ctMoreX:CT:=ctTape (fun zs args k z k'=>∃ b,z=.bool b∧k'=k∧decide (k<zs.length)=b) preNone
theorem moreXOk:CSound Tryz.prog 95 ctMoreX:=tapeOk (by kernel_rfl) preNone_plain (by
 rintro args g A cap zs k w hz hk0 hk1 hp ht
 cases hp
 refine tape_calls ft_nil Tryz.func95 rfl (D:=moreD) (by kernel_rfl) rfl (preNone_plain _ k rfl) g A cap zs k w ht (R:=fun z k'=>∃ b,z=.bool b∧k'=k∧decide (k<zs.length)=b) ?_
 exact⟨k,⟨_,rfl,rfl,rfl⟩,⟨trivial,rfl⟩,rfl⟩)
/-! Lists of candidates,and the choice among them. -/
def homesL (c:Cfg) (t:Int):List Int:=pickK (fun (n:Nat)=>mayB c t n) c.cells.length
def standbysL (c:Cfg) (t h:Int):List Int:=pickK (fun (n:Nat)=>(mayB c t n&&apartB c h n)) c.cells.length
def ctHomesX:CT:=fun vs mem nx K=>∃ N x c t,vs=[cfgV N x c,.int .i64 t]∧keeps mem (cfgM N c)∧CfgV c∧∀ (l:List Int) cp,homesL c t=l→l.length≤16→K (slc nx l.length cp) ((nx,intRow l)::mem) (nx+1)
theorem homesXOk:CSound Tryz.prog 152 ctHomesX:=⟨by kernel_rfl,fun {C ρ fr mem nx a w vs K} hc hs hv=>by
 obtain⟨N,x,c,t,rfl,hk,hV,hK⟩:=hc
 rw[show [cfgV N x c,.int .i64 t].map (den ρ)=[.agg (cfgC (cfgX ρ N x) c),.int .i64 t] by rw[List.map_cons,den_cfg];rfl]
 refine (r5Homes_any (cfgX ρ N x) c t w hV (hs.cfg hk (fun b hb _=>hb))).mono ?_
 rintro e w' ⟨A,cp,rfl,ho,hb⟩
 obtain⟨h1,h2,h3⟩:=ints_new hs ho hb
 exact⟨_,_,_,_,by rw[h2],hK (pickK (fun (n:Nat)=>mayB c t n) c.cells.length) cp rfl (Nat.le_trans (pickK_len _ _) hV.nc.2),h1,h3,ExtS.set _ _ _⟩⟩
def ctStandbysX:CT:=fun vs mem nx K=>∃ N x c t h,vs=[cfgV N x c,.int .i64 t,.int .i64 h]∧keeps mem (cfgM N c)∧CfgV c∧∀ (l:List Int) cp,standbysL c t h=l→l.length≤16→K (slc nx l.length cp) ((nx,intRow l)::mem) (nx+1)
theorem standbysXOk:CSound Tryz.prog 153 ctStandbysX:=⟨by kernel_rfl,fun {C ρ fr mem nx a w vs K} hc hs hv=>by
 obtain⟨N,x,c,t,h,rfl,hk,hV,hK⟩:=hc
 rw[show [cfgV N x c,.int .i64 t,.int .i64 h].map (den ρ)=[.agg (cfgC (cfgX ρ N x) c),.int .i64 t,.int .i64 h] by rw[List.map_cons,den_cfg];rfl]
 refine (r5Standbys_any (cfgX ρ N x) c t h w hV (hs.cfg hk (fun b hb _=>hb))).mono ?_
 rintro e w' ⟨A,cp,rfl,ho,hb⟩
 obtain⟨h1,h2,h3⟩:=ints_new hs ho hb
 exact⟨_,_,_,_,by rw[h2],hK (pickK (fun (n:Nat)=>(mayB c t n&&apartB c h n)) c.cells.length) cp rfl (Nat.le_trans (pickK_len _ _) hV.nc.2),h1,h3,ExtS.set _ _ _⟩⟩
def pkV (zs:List Int) (l:List Int) (k:Int):Int:=if l.length=0 then -1 else l.getD (nxV zs k l.length).toNat 0
def pkK (zs:List Int) (l:List Int) (k:Int):Int:=if l.length=0 then k else advK zs k
theorem pkK_in (zs:List Int) (l:List Int) (k:Int):k≤pkK zs l k∧pkK zs l k≤k+1:=by
 have:=advK_adv zs k
 unfold pkK
 split
 ·omega
 ·exact⟨this.1,this.2.1⟩
theorem pickX_sx (cap cp:Nat) (zs l:List Int) (k:Int) (hz:zs.length≤400) (hk:0≤k∧k≤990000) (hl:l.length≤16) :
  sx tt txF [] (bodyOf Tryz.f151) (argF 0 [ptr 0,slc 2 l.length cp]) [(0,tapeB 1 zs.length cap k),(1,intRow zs),(2,intRow l)] 3
   (endx tt Tryz.f151.results.toList fun v mem' _=>∃ k',(v=.int .i64 (pkV zs l k)∧k'=pkK zs l k)∧lk mem' 0=some (tapeB 1 zs.length cap k')):=by
 refine⟨fun h0=>?_,fun h0=>?_⟩
 ·have h1:l.length=0:=by
   have:(l.length:Int)=0:=by simpa using h0
   omega
  exact⟨k,⟨by rw[pkV,if_pos h1],by rw[pkK,if_pos h1]⟩,rfl⟩
 ·have hpos:(l.length:Int)≠0:=by simpa using h0
  have h1:l.length≠0:=by omega
  have hr:=nxV_in zs k (n:=l.length) (by omega)
  refine⟨0,1,cap,zs,_,_,rfl,⟨rfl,rfl⟩,⟨hz,by omega,by omega⟩,⟨_,rfl,by omega,by omega⟩,?_⟩
  rintro _ _ ⟨_,_,hnn,rfl,⟨rfl,rfl⟩,-⟩
  cases hnn
  refine⟨⟨Nat.le_refl _,by omega,by omega⟩,?_⟩
  exact⟨_,⟨by rw[pkV,if_neg h1],by rw[pkK,if_neg h1]⟩,rfl⟩
def ctPickX:CT:=fun vs mem nx K=>∃ i r cap zs k j cp l,vs=[ptr i,slc j (l:List Int).length cp]∧(lk mem i=some (tapeB r (zs:List Int).length cap k)∧lk mem r=some (intRow zs)∧lk mem j=some (intRow l))∧(zs.length≤400∧0≤k∧k≤990000)∧l.length≤16∧
 ∀ z k',pkV zs l k=z∧pkK zs l k=k'→k≤k'∧k'≤k+1→K (.int .i64 z) ((i,tapeB r zs.length cap k')::mem) nx
theorem pickXOk:CSound Tryz.prog 151 ctPickX:=⟨by kernel_rfl,fun {C ρ fr mem nx a w vs K} hc hs hv=>by
 obtain⟨i,r,cap,zs,k,j,cp,l,rfl,⟨hi,hr,hj⟩,⟨hz,hk0,hk1⟩,hl,hK⟩:=hc
 obtain⟨g,hA,ht,hok⟩:=hs.tape hi hr
 have hrl:=hs.rd (enc:=intC) (sz:=1) (fun _=>rfl) (by omega) hj (S:=fun b=>b≠g∧b<w.heap.size) (fun b hlt hb=>⟨by rintro rfl;exact hb i _ _ hi (by simp[bno,hA]),hlt⟩)
 let σ:Nat→Pl:=fun q=>match q with | 0=>⟨some ⟨g,0,none⟩,0,0,false,noSub⟩ | 1=>⟨(ρ r).A,1,zs.length,false,noSub⟩ | _=>⟨(ρ j).A,1,l.length,false,noSub⟩
 have one:∀ {l:List Int} {Ar:Option Addr},Rd w (fun b=>b≠g∧b<w.heap.size) Ar (flat intC l)→l.length=0∨Ar.map (·.block)≠some g:=by
  intro l Ar hrd
  by_cases h0:l.length=0
  ·exact .inl h0
  ·obtain⟨b,off,x,hA,hb,-,-⟩:=hrd.row (enc:=intC) (sz:=1) (fun _=>rfl) (by omega) (k:=0) (by omega)
   subst hA
   exact .inr (by simp;exact hb.1)
 have hm:=MemAt.one (ρ:=σ) (nx:=3) (nt:=Tryz.f151.ntmps) (w:=w) (mem:=[(1,intRow zs),(2,intRow l)]) (g:=g) (i:=0) (t:=138) (cs:=[slc 1 zs.length cap,.int .i64 k]) trivial (by omega) rfl
  ⟨g,rfl,by
   have:=ht.blk
   simpa [den1,dA_whole,dS_whole,σ] using this,.inr (by simp),fun v hv=>by
    simp at hv
    rcases hv with rfl | rfl
    ·exact⟨show (1:Nat)<3 by decide,rfl⟩
    ·trivial⟩
  ⟨⟨by omega,rfl,row_of_rd (enc:=intC) (sz:=1) (fun _=>rfl) (by omega) intC_plain 0 rfl ht.row (fun b hb=>hb.2)⟩,⟨by omega,rfl,row_of_rd (enc:=intC) (sz:=1) (fun _=>rfl) (by omega) intC_plain 0 rfl hrl (fun b hb=>hb.2)⟩,trivial⟩ (fun q t sz n el hq=>by
   rcases lk_cons hq with⟨rfl,e⟩ | ⟨_,hq⟩
   ·cases e;exact one ht.row
   rcases lk_cons hq with⟨rfl,e⟩ | ⟨_,hq⟩
   ·cases e;exact one hrl
   ·simp[lk] at hq)
 have hvs:[ptr i,slc j l.length cp].map (den ρ)=[ptr 0,slc 2 l.length cp].map (den σ):=by simp[den,den2,den1,dA_whole,dS_whole,hA,σ]
 rw[hvs]
 refine (calls_sx ttOk txFok mixed Tryz.func151 rfl (D:=[]) (by kernel_rfl) (vs:=[ptr 0,slc 2 l.length cp]) rfl ⟨rfl,rfl⟩ rfl hm (fun v hv=>?_) (pickX_sx cap cp zs l k hz ⟨hk0,hk1⟩ hl)).mono ?_
 ·simp at hv
  rcases hv with rfl | rfl
  ·exact⟨⟨show (0:Nat)<3 by decide,rfl⟩,⟨g,0,rfl⟩,fun k hk=>by cases hk⟩
  ·exact⟨show (2:Nat)<3 by decide,rfl⟩
 ·rintro e w' ⟨v,mem',nx',ρ',rfl,⟨k',⟨rfl,rfl⟩,hlk⟩,-,hm'⟩
  have e0:ρ' 0=σ 0:=hm'.low 0 (show (0:Nat)<3 by decide)
  have e1:ρ' 1=σ 1:=hm'.low 1 (show (1:Nat)<3 by decide)
  obtain⟨g',hA',hb,-,-⟩:=hm'.blk 0 _ hlk
  rw[e0] at hA'
  cases hA'
  have hgr:w.grownBy w' (some g):=⟨hm'.rest.os,hm'.rest.tape,hm'.rest.output,hm'.rest.size,fun b hlt hne=>hm'.rest.block b hlt (by simp;intro q;exact hne (by rw[q]))⟩
  refine⟨.int .i64 (pkV zs l k),_,nx,ρ,rfl,hK _ _ ⟨rfl,rfl⟩ (pkK_in zs l k),hs.grownBox (cs':=[slc r zs.length cap,.int .i64 (pkK zs l k)]) hi hA hgr ?_ ?_,trivial,ExtS.refl _ _⟩
  ·simpa [den1,dA_whole,dS_whole,e1,σ] using hb
  ·intro u hu
   simp at hu
   rcases hu with rfl | rfl
   ·exact hok
   ·trivial⟩
/-! make.platform,exactly. -/
def plE (zs:List Int) (c:Cfg) (s:St) (tick k:Int):Ent×Int:=
 if nxV zs (advK zs k) 12=0 then (⟨9,tick,-1,nxV zs k c.cells.length,-1,0,0,0,rgV zs (advK zs (advK zs k)) 1 3⟩,advK zs (advK zs (advK zs k)))
 else if nxV zs (advK zs k) 12=1 then (⟨9,tick,-1,nxV zs k c.cells.length,-1,0,0,0,1⟩,advK zs (advK zs k))
 else if nxV zs (advK zs k) 12=2∨nxV zs (advK zs k) 12=3∨nxV zs (advK zs k) 12=4 then (⟨10,tick,-1,nxV zs k c.cells.length,-1,0,0,0,nxV zs (advK zs (advK zs k)) c.versions.length⟩,advK zs (advK zs (advK zs k)))
 else if nxV zs (advK zs k) 12=5∨nxV zs (advK zs k) 12=6∨nxV zs (advK zs k) 12=7 then (⟨11,IntKind.i64.wrap (tick+nxV zs (advK zs (advK zs k)) c.lease),-1,nxV zs k c.cells.length,-1,0,0,0,(csAt s (nxV zs k c.cells.length)).wanted⟩,advK zs (advK zs (advK zs k)))
 else if nxV zs (advK zs k) 12=8 then (⟨12,IntKind.i64.wrap (tick+nxV zs (advK zs (advK zs k)) (IntKind.i64.wrap (c.bake+1))),-1,-1,-1,0,0,0,(csAt s (nxV zs k c.cells.length)).running⟩,advK zs (advK zs (advK zs k)))
 else if nxV zs (advK zs k) 12=9 then (⟨13,tick,-1,-1,nxV zs (advK zs (advK zs k)) c.regions,0,0,0,if hasB s.evac (nxV zs (advK zs (advK zs k)) c.regions)=true then 0 else 1⟩,advK zs (advK zs (advK zs k)))
 else if nxV zs (advK zs k) 12=10 then (⟨if s.high>s.low then 15 else 14,tick,-1,-1,-1,0,0,0,0⟩,advK zs (advK zs k))
 else (⟨16,tick,-1,-1,-1,0,0,0,nxV zs (advK zs (advK zs k)) 100⟩,advK zs (advK zs (advK zs k)))
def PlatX (zs:List Int) (c:Cfg) (s:St) (args:List Value) (k:Int) (v:Value) (k':Int):Prop:=∃ tick en,args=[.int .i64 tick]∧v=entV' en∧plE zs c s tick k=(en,k')∧k≤k'∧k'≤k+20
def platXF:FT:=[(39,ctNextX),(40,ctRangeX),(150,ctNone),(147,ctHas)]
theorem platXFok:FTok Tryz.prog platXF:=ft_cons nextXOk (ft_cons rangeXOk (ft_cons noneOk (ft_cons hasOk ft_nil)))
set_option maxRecDepth 100000 in
set_option maxHeartbeats 4000000 in
theorem platX_sx (cap:Nat) (zs:List Int) (k tick:Int) (x:CfgK) (c:Cfg) (y:StK) (s:St) (hz:zs.length≤400) (hk:0≤k∧k≤990000) (hV:CfgV c) (hI:StInv c s) (ht:0≤tick∧tick≤2147483648) :
  sx tt platXF platD (bodyOf Tryz.f149) (argF 0 (ptr 0::cfgV CN0 x c::stV SN0 y s::[.int .i64 tick])) ((0,tapeB 1 zs.length cap k)::(1,intRow zs)::(cfgM CN0 c++stM SN0 s)) 10
   (endx tt Tryz.f149.results.toList fun v mem' _=>∃ k',PlatX zs c s [.int .i64 tick] k v k'∧pureV v∧lk mem' 0=some (tapeB 1 zs.length cap k')):=by
 have hnc:=hV.nc
 have hnv:=hV.nv
 have hlc:=hI.lc
 have hls:=hV.lease
 have hbk:=hV.bake
 have hrg:=hV.reg
 have hev:=hI.evac
 refine⟨_,_,rfl,?_⟩
 refine⟨0,1,cap,zs,_,_,rfl,⟨rfl,rfl⟩,⟨hz,by omega,by omega⟩,⟨_,rfl,by omega,by omega⟩,?_⟩
 rintro _ k1 ⟨_,r1,hnn,rfl,⟨er1,ek1⟩,hr1,hk1⟩
 cases hnn
 refine⟨⟨Nat.le_refl _,by omega,by omega⟩,?_⟩
 refine⟨Ent×Int,fun _=>[],fun y=>[(0,tapeB 1 zs.length cap y.2),(13,.box 56 [.int .i64 y.1.kind,.int .i64 y.1.tick,.int .i64 y.1.tenant,.int .i64 y.1.cell,.int .i64 y.1.other,.int .i64 y.1.epoch,.int .i64 y.1.since,.int .i64 y.1.till,.int .i64 y.1.n])],fun y=>(k≤y.2∧y.2≤k+10)∧y=plE zs c s tick k,?_,?_⟩
 ·refine⟨0,1,cap,zs,_,_,rfl,⟨rfl,rfl⟩,⟨hz,by omega,by omega⟩,⟨_,rfl,by omega,by omega⟩,?_⟩
  rintro _ k2 ⟨_,r2,hnn,rfl,⟨er2,ek2⟩,hr2,hk2⟩
  cases hnn
  refine⟨fun q=>?_,fun q=>?_⟩
  ·refine⟨0,1,cap,zs,_,_,rfl,⟨rfl,rfl⟩,⟨hz,by omega,by omega⟩,⟨_,_,rfl,by omega,by omega,by omega⟩,?_⟩
   rintro _ k3 ⟨_,_,r3,hnn,rfl,⟨er3,ek3⟩,hr3,hk3⟩
   cases hnn
   (refine⟨(⟨_,_,_,_,_,_,_,_,_⟩,_),⟨⟨by omega,by omega⟩,?_⟩,⟨rfl,rfl,trivial⟩,⟨rfl,rfl,rfl,trivial⟩⟩;simp only[beq_iff_eq,beq_eq_false_iff_ne,ne_eq,decide_eq_true_eq,decide_eq_false_iff_not] at *;simp only[plE, *,if_true,if_false,or_true,true_or,or_false,or_self,not_true_eq_false,not_false_eq_true,Bool.false_eq_true,reduceIte];try rfl)
  refine⟨fun q=>?_,fun q=>?_⟩
  ·(refine⟨(⟨_,_,_,_,_,_,_,_,_⟩,_),⟨⟨by omega,by omega⟩,?_⟩,⟨rfl,rfl,trivial⟩,⟨rfl,rfl,rfl,trivial⟩⟩;simp only[beq_iff_eq,beq_eq_false_iff_ne,ne_eq,decide_eq_true_eq,decide_eq_false_iff_not] at *;simp only[plE, *,if_true,if_false,or_true,true_or,or_false,or_self,not_true_eq_false,not_false_eq_true,Bool.false_eq_true,reduceIte];try rfl)
  refine⟨fun q=>?_,fun q=>?_⟩
  ·refine⟨fun q=>?_,fun h=>nomatch h⟩
   refine⟨0,1,cap,zs,_,_,rfl,⟨rfl,rfl⟩,⟨hz,by omega,by omega⟩,⟨_,rfl,by omega,by omega⟩,?_⟩
   rintro _ k3 ⟨_,r3,hnn,rfl,⟨er3,ek3⟩,hr3,hk3⟩
   cases hnn
   (refine⟨(⟨_,_,_,_,_,_,_,_,_⟩,_),⟨⟨by omega,by omega⟩,?_⟩,⟨rfl,rfl,trivial⟩,⟨rfl,rfl,rfl,trivial⟩⟩;simp only[beq_iff_eq,beq_eq_false_iff_ne,ne_eq,decide_eq_true_eq,decide_eq_false_iff_not] at *;simp only[plE, *,if_true,if_false,or_true,true_or,or_false,or_self,not_true_eq_false,not_false_eq_true,Bool.false_eq_true,reduceIte];try rfl)
  refine⟨fun q=>?_,fun q=>?_⟩
  ·refine⟨fun q=>?_,fun h=>nomatch h⟩
   refine⟨0,1,cap,zs,_,_,rfl,⟨rfl,rfl⟩,⟨hz,by omega,by omega⟩,⟨_,rfl,by omega,by omega⟩,?_⟩
   rintro _ k3 ⟨_,r3,hnn,rfl,⟨er3,ek3⟩,hr3,hk3⟩
   cases hnn
   (refine⟨(⟨_,_,_,_,_,_,_,_,_⟩,_),⟨⟨by omega,by omega⟩,?_⟩,⟨rfl,rfl,trivial⟩,⟨rfl,rfl,rfl,trivial⟩⟩;simp only[beq_iff_eq,beq_eq_false_iff_ne,ne_eq,decide_eq_true_eq,decide_eq_false_iff_not] at *;simp only[plE, *,if_true,if_false,or_true,true_or,or_false,or_self,not_true_eq_false,not_false_eq_true,Bool.false_eq_true,reduceIte];try rfl)
  refine⟨fun q=>?_,fun q=>?_⟩
  ·refine⟨0,1,cap,zs,_,_,rfl,⟨rfl,rfl⟩,⟨hz,by omega,by omega⟩,⟨_,rfl,by omega,by omega⟩,?_⟩
   rintro _ k3 ⟨_,r3,hnn,rfl,⟨er3,ek3⟩,hr3,hk3⟩
   cases hnn
   (refine⟨(⟨_,_,_,_,_,_,_,_,_⟩,_),⟨⟨by omega,by omega⟩,?_⟩,⟨rfl,rfl,trivial⟩,⟨rfl,rfl,rfl,trivial⟩⟩;simp only[beq_iff_eq,beq_eq_false_iff_ne,ne_eq,decide_eq_true_eq,decide_eq_false_iff_not] at *;simp only[plE, *,if_true,if_false,or_true,true_or,or_false,or_self,not_true_eq_false,not_false_eq_true,Bool.false_eq_true,reduceIte];try rfl)
  refine⟨fun q=>?_,fun q=>?_⟩
  ·refine⟨fun q=>?_,fun h=>nomatch h⟩
   refine⟨⟨rfl,trivial⟩,⟨rfl,trivial⟩,?_⟩
   refine⟨0,1,cap,zs,_,_,rfl,⟨rfl,rfl⟩,⟨hz,by omega,by omega⟩,⟨_,rfl,by omega,by omega⟩,?_⟩
   rintro _ k3 ⟨_,r3,hnn,rfl,⟨er3,ek3⟩,hr3,hk3⟩
   cases hnn
   (refine⟨(⟨_,_,_,_,_,_,_,_,_⟩,_),⟨⟨by omega,by omega⟩,?_⟩,⟨rfl,rfl,trivial⟩,⟨rfl,rfl,rfl,trivial⟩⟩;simp only[beq_iff_eq,beq_eq_false_iff_ne,ne_eq,decide_eq_true_eq,decide_eq_false_iff_not] at *;simp only[plE, *,if_true,if_false,or_true,true_or,or_false,or_self,not_true_eq_false,not_false_eq_true,Bool.false_eq_true,reduceIte];try rfl)
  refine⟨fun q=>?_,fun q=>?_⟩
  ·refine⟨fun q=>?_,fun h=>nomatch h⟩
   refine⟨⟨rfl,trivial⟩,⟨rfl,trivial⟩,?_⟩
   refine⟨0,1,cap,zs,_,_,rfl,⟨rfl,rfl⟩,⟨hz,by omega,by omega⟩,⟨_,rfl,by omega,by omega⟩,?_⟩
   rintro _ k3 ⟨_,r3,hnn,rfl,⟨er3,ek3⟩,hr3,hk3⟩
   cases hnn
   (refine⟨(⟨_,_,_,_,_,_,_,_,_⟩,_),⟨⟨by omega,by omega⟩,?_⟩,⟨rfl,rfl,trivial⟩,⟨rfl,rfl,rfl,trivial⟩⟩;simp only[beq_iff_eq,beq_eq_false_iff_ne,ne_eq,decide_eq_true_eq,decide_eq_false_iff_not] at *;simp only[plE, *,if_true,if_false,or_true,true_or,or_false,or_self,not_true_eq_false,not_false_eq_true,Bool.false_eq_true,reduceIte];try rfl)
  refine⟨fun q=>?_,fun q=>?_⟩
  ·refine⟨⟨rfl,trivial⟩,⟨rfl,trivial⟩,?_⟩
   refine⟨0,1,cap,zs,_,_,rfl,⟨rfl,rfl⟩,⟨hz,by omega,by omega⟩,⟨_,rfl,by omega,by omega⟩,?_⟩
   rintro _ k3 ⟨_,r3,hnn,rfl,⟨er3,ek3⟩,hr3,hk3⟩
   cases hnn
   (refine⟨(⟨_,_,_,_,_,_,_,_,_⟩,_),⟨⟨by omega,by omega⟩,?_⟩,⟨rfl,rfl,trivial⟩,⟨rfl,rfl,rfl,trivial⟩⟩;simp only[beq_iff_eq,beq_eq_false_iff_ne,ne_eq,decide_eq_true_eq,decide_eq_false_iff_not] at *;simp only[plE, *,if_true,if_false,or_true,true_or,or_false,or_self,not_true_eq_false,not_false_eq_true,Bool.false_eq_true,reduceIte];try rfl)
  refine⟨fun q=>?_,fun q=>?_⟩
  ·refine⟨⟨rfl,trivial⟩,?_⟩
   refine⟨0,1,cap,zs,_,_,rfl,⟨rfl,rfl⟩,⟨hz,by omega,by omega⟩,⟨_,rfl,by rw[wrapi (by omega)];omega,by rw[wrapi (by omega)];omega⟩,?_⟩
   rintro _ k3 ⟨_,r3,hnn,rfl,⟨er3,ek3⟩,hr3,hk3⟩
   cases hnn
   (refine⟨(⟨_,_,_,_,_,_,_,_,_⟩,_),⟨⟨by omega,by omega⟩,?_⟩,⟨rfl,rfl,trivial⟩,⟨rfl,rfl,rfl,trivial⟩⟩;simp only[beq_iff_eq,beq_eq_false_iff_ne,ne_eq,decide_eq_true_eq,decide_eq_false_iff_not] at *;simp only[plE, *,if_true,if_false,or_true,true_or,or_false,or_self,not_true_eq_false,not_false_eq_true,Bool.false_eq_true,reduceIte];try rfl)
  refine⟨fun q=>?_,fun q=>?_⟩
  ·refine⟨0,1,cap,zs,_,_,rfl,⟨rfl,rfl⟩,⟨hz,by omega,by omega⟩,⟨_,rfl,by omega,by omega⟩,?_⟩
   rintro _ k3 ⟨_,r3,hnn,rfl,⟨er3,ek3⟩,hr3,hk3⟩
   cases hnn
   refine⟨_,_,rfl,⟨by omega,by omega⟩,?_⟩
   refine⟨fun q=>?_,fun q=>?_⟩
   ·(refine⟨(⟨_,_,_,_,_,_,_,_,_⟩,_),⟨⟨by omega,by omega⟩,?_⟩,⟨rfl,rfl,trivial⟩,⟨rfl,rfl,rfl,trivial⟩⟩;simp only[beq_iff_eq,beq_eq_false_iff_ne,ne_eq,decide_eq_true_eq,decide_eq_false_iff_not] at *;simp only[plE, *,if_true,if_false,or_true,true_or,or_false,or_self,not_true_eq_false,not_false_eq_true,Bool.false_eq_true,reduceIte];try rfl)
   ·(refine⟨(⟨_,_,_,_,_,_,_,_,_⟩,_),⟨⟨by omega,by omega⟩,?_⟩,⟨rfl,rfl,trivial⟩,⟨rfl,rfl,rfl,trivial⟩⟩;simp only[beq_iff_eq,beq_eq_false_iff_ne,ne_eq,decide_eq_true_eq,decide_eq_false_iff_not] at *;simp only[plE, *,if_true,if_false,or_true,true_or,or_false,or_self,not_true_eq_false,not_false_eq_true,Bool.false_eq_true,reduceIte];try rfl)
  refine⟨fun q=>?_,fun q=>?_⟩
  ·refine⟨fun q=>?_,fun q=>?_⟩
   ·(refine⟨(⟨_,_,_,_,_,_,_,_,_⟩,_),⟨⟨by omega,by omega⟩,?_⟩,⟨rfl,rfl,trivial⟩,⟨rfl,rfl,rfl,trivial⟩⟩;simp only[beq_iff_eq,beq_eq_false_iff_ne,ne_eq,decide_eq_true_eq,decide_eq_false_iff_not] at *;simp only[plE, *,if_true,if_false,or_true,true_or,or_false,or_self,not_true_eq_false,not_false_eq_true,Bool.false_eq_true,reduceIte];try rfl)
   ·(refine⟨(⟨_,_,_,_,_,_,_,_,_⟩,_),⟨⟨by omega,by omega⟩,?_⟩,⟨rfl,rfl,trivial⟩,⟨rfl,rfl,rfl,trivial⟩⟩;simp only[beq_iff_eq,beq_eq_false_iff_ne,ne_eq,decide_eq_true_eq,decide_eq_false_iff_not] at *;simp only[plE, *,if_true,if_false,or_true,true_or,or_false,or_self,not_true_eq_false,not_false_eq_true,Bool.false_eq_true,reduceIte];try rfl)
  refine⟨0,1,cap,zs,_,_,rfl,⟨rfl,rfl⟩,⟨hz,by omega,by omega⟩,⟨_,rfl,by omega,by omega⟩,?_⟩
  rintro _ k3 ⟨_,r3,hnn,rfl,⟨er3,ek3⟩,hr3,hk3⟩
  cases hnn
  (refine⟨(⟨_,_,_,_,_,_,_,_,_⟩,_),⟨⟨by omega,by omega⟩,?_⟩,⟨rfl,rfl,trivial⟩,⟨rfl,rfl,rfl,trivial⟩⟩;simp only[beq_iff_eq,beq_eq_false_iff_ne,ne_eq,decide_eq_true_eq,decide_eq_false_iff_not] at *;simp only[plE, *,if_true,if_false,or_true,true_or,or_false,or_self,not_true_eq_false,not_false_eq_true,Bool.false_eq_true,reduceIte];try rfl)
 ·rintro⟨en,k2⟩ ⟨hk2,hpe⟩
  refine⟨⟨by decide,rfl,rfl⟩,?_⟩
  exact⟨k2,⟨tick,en,rfl,rfl,hpe.symm,by omega,by omega⟩,pure_ent en,rfl⟩
def ctPlatformX:CT:=ctGen PlatX prePlat
theorem platformXOk:CSound Tryz.prog 149 ctPlatformX:=genOk (by kernel_rfl) (by
  rintro c s args k ⟨-,tick,rfl,-⟩ v hv
  simp at hv
  subst hv
  trivial) (by
 rintro args g A cap zs k x c y s w hz hk0 hk1 ⟨⟨hV,hI⟩,tick,rfl,h0,h1⟩ ht hc hs
 refine gen_calls platXFok Tryz.func149 rfl (D:=platD) (by kernel_rfl) rfl (fun v hv=>by simp at hv;subst hv;trivial) g A cap zs k x c y s w ht hc hs (R:=PlatX zs c s [.int .i64 tick] k) ?_
 exact platX_sx cap zs k tick _ c _ s hz ⟨hk0,by omega⟩ hV hI ⟨h0,h1⟩)
/-! make.grant,exactly,in six steps. -/
def gA (zs:List Int) (x:TS) (p:Ent×Int):Ent×Int:=
 if 0≤x.target then
  if nxV zs p.2 2=0 then ({ p.1 with cell:=x.target },advK zs p.2)
  else if 0≤x.standby then (if nxV zs (advK zs p.2) 5=0∨x.shed=true then ({ p.1 with cell:=x.standby },advK zs (advK zs p.2)) else ({ p.1 with cell:=x.home },advK zs (advK zs p.2)))
  else ({ p.1 with cell:=x.home },advK zs p.2)
 else if 0≤x.standby then (if nxV zs p.2 5=0∨x.shed=true then ({ p.1 with cell:=x.standby },advK zs p.2) else ({ p.1 with cell:=x.home },advK zs p.2))
 else ({ p.1 with cell:=x.home },p.2)
def gB (zs:List Int) (x:TS) (p:Ent×Int):Ent×Int:=
 if p.1.cell=x.home then
  if x.epoch=0 then ({ p.1 with epoch:=IntKind.i64.wrap (x.epoch+1) },p.2)
  else if nxV zs p.2 4=0 then ({ p.1 with epoch:=IntKind.i64.wrap (x.epoch+1) },advK zs p.2)
  else ({ p.1 with epoch:=x.epoch },advK zs p.2)
 else ({ p.1 with epoch:=IntKind.i64.wrap (x.epoch+1) },p.2)
def gC (zs:List Int) (x:TS) (p:Ent×Int):Ent×Int:=
 if p.1.cell=x.home then p
 else if nxV zs p.2 4>0 then ({ p.1 with tick:=if x.win.till>p.1.tick then x.win.till else p.1.tick },advK zs p.2)
 else (p.1,advK zs p.2)
def gD (zs:List Int) (x:TS) (p:Ent×Int):Ent×Int:=
 if nxV zs p.2 5=0 then ({ p.1 with since:=IntKind.i64.wrap ((if x.win.till>p.1.tick then x.win.till else p.1.tick)+nxV zs (advK zs p.2) 3) },advK zs (advK zs p.2))
 else ({ p.1 with since:=if x.win.till>p.1.tick then x.win.till else p.1.tick },advK zs p.2)
def gE (zs:List Int) (c:Cfg) (s:St) (p:Ent×Int):Ent×Int:=
 ({ p.1 with till:=IntKind.i64.wrap (p.1.since+rgV zs p.2 1 c.lease),n:=(s.cells.getD p.1.cell.toNat default).running },advK zs p.2)
def gF1 (zs:List Int) (p:Ent×Int):Ent×Int:=
 ({ p.1 with since:=IntKind.i64.wrap (p.1.since-1),till:=IntKind.i64.wrap (p.1.till+nxV zs (advK zs p.2) 30) },advK zs (advK zs p.2))
def gF (zs:List Int) (p:Ent×Int):Ent×Int:=
 if nxV zs p.2 15=0 then ({ (gF1 zs p).1 with since:=if (gF1 zs p).1.since>0 then (gF1 zs p).1.since else 0 },(gF1 zs p).2)
 else (p.1,advK zs p.2)
def gG (zs:List Int) (c:Cfg) (s:St) (e:Ent) (k:Int):Ent×Int:=
 gF zs (gE zs c s (gD zs (s.tenants.getD e.tenant.toNat default) (gC zs (s.tenants.getD e.tenant.toNat default) (gB zs (s.tenants.getD e.tenant.toNat default) (gA zs (s.tenants.getD e.tenant.toNat default) (e,k))))))
def GrantX (zs:List Int) (c:Cfg) (s:St) (args:List Value) (k:Int) (v:Value) (k':Int):Prop:=∃ e en,args=[entV' e]∧v=entV' en∧gG zs c s e k=(en,k')∧k≤k'∧k'≤k+20
def ggrXF:FT:=[(39,ctNextX),(40,ctRangeX),(41,ctYesX)]
theorem ggrXFok:FTok Tryz.prog ggrXF:=ft_cons nextXOk (ft_cons rangeXOk (ft_cons yesXOk ft_nil))
set_option maxRecDepth 100000 in
set_option maxHeartbeats 4000000 in
theorem grantX_sx (cap:Nat) (zs:List Int) (k:Int) (x:CfgK) (c:Cfg) (y:StK) (s:St) (e:Ent) (hz:zs.length≤400) (hk:0≤k∧k≤990000) (hV:CfgV c) (hI:StInv c s) (ht:0≤e.tenant∧e.tenant<s.tenants.length) (hp:(tsAt s e.tenant).placed=true) :
  sx tt ggrXF ggrD (bodyOf Tryz.f154) (argF 0 (ptr 0::cfgV CN0 x c::stV SN0 y s::[entV' e])) ((0,tapeB 1 zs.length cap k)::(1,intRow zs)::(cfgM CN0 c++stM SN0 s)) 10
   (endx tt Tryz.f154.results.toList fun v mem' _=>∃ k',GrantX zs c s [entV' e] k v k'∧pureV v∧lk mem' 0=some (tapeB 1 zs.length cap k')):=by
 have hnc:=hV.nc
 have hlc:=hI.lc
 have hls:=hV.lease
 have hti:=hI.ten _ (tsAt_mem ht.1 ht.2).2
 have h1:=hti.placed hp
 have h2:=hti.home
 have h3:=hti.standby
 have h4:=hti.target
 unfold tsAt at h1 h2 h3 h4
 rw[← hlc] at h2 h3 h4
 replace h2:=h2.2
 replace h3:=h3.2
 replace h4:=h4.2
 clear hti hp hI hV
 obtain⟨kind,tick,tenant,cell,other,epoch,since,till,n⟩:=e
 dsimp only[entV'] at *
 refine⟨⟨Nat.le_refl _,by omega,by omega⟩,?_⟩
 refine⟨Ent×Int,fun _=>[],fun y=>match y with | (⟨a1,a2,a3,a4,a5,a6,a7,a8,a9⟩,kk)=>[(0,tapeB 1 zs.length cap kk),(12,.box 56 [.int .i64 a1,.int .i64 a2,.int .i64 a3,.int .i64 a4,.int .i64 a5,.int .i64 a6,.int .i64 a7,.int .i64 a8,.int .i64 a9])],fun y=>((k≤y.2∧y.2≤k+2)∧0≤y.1.cell∧y.1.cell<s.cells.length)∧y=(gA zs (s.tenants.getD tenant.toNat default) (⟨kind,tick,tenant,cell,other,epoch,since,till,n⟩,k)),?_,?_⟩
 ·refine⟨fun htg=>?_,fun htg=>?_⟩
  ·simp only[decide_eq_true_eq,ge_iff_le] at htg
   refine⟨0,1,cap,zs,_,_,rfl,⟨rfl,rfl⟩,⟨hz,by omega,by omega⟩,⟨_,rfl,by omega,by omega⟩,?_⟩
   rintro _ k1 ⟨_,b1,hnn,rfl,⟨er1,ek1⟩,hk1⟩;cases hnn;subst er1
   refine⟨fun q=>?_,fun q=>?_⟩
   ·(refine⟨(⟨_,_,_,_,_,_,_,_,_⟩,_),?_,⟨rfl,rfl,rfl,rfl,rfl,rfl,trivial⟩,⟨rfl,rfl,rfl,rfl,rfl,rfl,rfl,rfl,trivial⟩⟩;dsimp only;(refine⟨⟨⟨by omega,by omega⟩,?_,?_⟩,?_⟩<;>first | assumption | omega | (try (simp only[beq_iff_eq,beq_eq_false_iff_ne,bne_iff_ne,bne_eq_false_iff_eq,ne_eq,decide_eq_true_eq,decide_eq_false_iff_not,ge_iff_le,gt_iff_lt] at *);simp only[gA, *,ge_iff_le,gt_iff_lt,if_true,if_false,or_true,true_or,or_false,or_self,not_true_eq_false,not_false_eq_true,Bool.false_eq_true,reduceIte];try rfl)))
   ·refine⟨fun hs=>?_,fun q=>?_⟩
    ·simp only[decide_eq_true_eq,ge_iff_le] at hs
     refine⟨0,1,cap,zs,_,_,rfl,⟨rfl,rfl⟩,⟨hz,by omega,by omega⟩,⟨_,rfl,by omega,by omega⟩,?_⟩
     rintro _ k2 ⟨_,b2,hnn,rfl,⟨er2,ek2⟩,hk2⟩;cases hnn;subst er2
     refine⟨fun q=>?_,fun q=>?_⟩
     ·refine⟨fun q=>?_,fun h=>nomatch h⟩
      (refine⟨(⟨_,_,_,_,_,_,_,_,_⟩,_),?_,⟨rfl,rfl,rfl,rfl,rfl,rfl,trivial⟩,⟨rfl,rfl,rfl,rfl,rfl,rfl,rfl,rfl,trivial⟩⟩;dsimp only;(refine⟨⟨⟨by omega,by omega⟩,?_,?_⟩,?_⟩<;>first | assumption | omega | (try (simp only[beq_iff_eq,beq_eq_false_iff_ne,bne_iff_ne,bne_eq_false_iff_eq,ne_eq,decide_eq_true_eq,decide_eq_false_iff_not,ge_iff_le,gt_iff_lt] at *);simp only[gA, *,ge_iff_le,gt_iff_lt,if_true,if_false,or_true,true_or,or_false,or_self,not_true_eq_false,not_false_eq_true,Bool.false_eq_true,reduceIte];try rfl)))
     ·refine⟨fun q=>?_,fun q=>?_⟩
      ·(refine⟨(⟨_,_,_,_,_,_,_,_,_⟩,_),?_,⟨rfl,rfl,rfl,rfl,rfl,rfl,trivial⟩,⟨rfl,rfl,rfl,rfl,rfl,rfl,rfl,rfl,trivial⟩⟩;dsimp only;(refine⟨⟨⟨by omega,by omega⟩,?_,?_⟩,?_⟩<;>first | assumption | omega | (try (simp only[beq_iff_eq,beq_eq_false_iff_ne,bne_iff_ne,bne_eq_false_iff_eq,ne_eq,decide_eq_true_eq,decide_eq_false_iff_not,ge_iff_le,gt_iff_lt] at *);simp only[gA, *,ge_iff_le,gt_iff_lt,if_true,if_false,or_true,true_or,or_false,or_self,not_true_eq_false,not_false_eq_true,Bool.false_eq_true,reduceIte];try rfl)))
      ·(refine⟨(⟨_,_,_,_,_,_,_,_,_⟩,_),?_,⟨rfl,rfl,rfl,rfl,rfl,rfl,trivial⟩,⟨rfl,rfl,rfl,rfl,rfl,rfl,rfl,rfl,trivial⟩⟩;dsimp only;(refine⟨⟨⟨by omega,by omega⟩,?_,?_⟩,?_⟩<;>first | assumption | omega | (try (simp only[beq_iff_eq,beq_eq_false_iff_ne,bne_iff_ne,bne_eq_false_iff_eq,ne_eq,decide_eq_true_eq,decide_eq_false_iff_not,ge_iff_le,gt_iff_lt] at *);simp only[gA, *,ge_iff_le,gt_iff_lt,if_true,if_false,or_true,true_or,or_false,or_self,not_true_eq_false,not_false_eq_true,Bool.false_eq_true,reduceIte];try rfl)))
    ·refine⟨(fun h=>nomatch h),fun q=>?_⟩
     (refine⟨(⟨_,_,_,_,_,_,_,_,_⟩,_),?_,⟨rfl,rfl,rfl,rfl,rfl,rfl,trivial⟩,⟨rfl,rfl,rfl,rfl,rfl,rfl,rfl,rfl,trivial⟩⟩;dsimp only;(refine⟨⟨⟨by omega,by omega⟩,?_,?_⟩,?_⟩<;>first | assumption | omega | (try (simp only[beq_iff_eq,beq_eq_false_iff_ne,bne_iff_ne,bne_eq_false_iff_eq,ne_eq,decide_eq_true_eq,decide_eq_false_iff_not,ge_iff_le,gt_iff_lt] at *);simp only[gA, *,ge_iff_le,gt_iff_lt,if_true,if_false,or_true,true_or,or_false,or_self,not_true_eq_false,not_false_eq_true,Bool.false_eq_true,reduceIte];try rfl)))
  ·refine⟨(fun h=>nomatch h),fun q=>?_⟩
   refine⟨fun hs=>?_,fun q=>?_⟩
   ·simp only[decide_eq_true_eq,ge_iff_le] at hs
    refine⟨0,1,cap,zs,_,_,rfl,⟨rfl,rfl⟩,⟨hz,by omega,by omega⟩,⟨_,rfl,by omega,by omega⟩,?_⟩
    rintro _ k2 ⟨_,b2,hnn,rfl,⟨er2,ek2⟩,hk2⟩;cases hnn;subst er2
    refine⟨fun q=>?_,fun q=>?_⟩
    ·refine⟨fun q=>?_,fun h=>nomatch h⟩
     (refine⟨(⟨_,_,_,_,_,_,_,_,_⟩,_),?_,⟨rfl,rfl,rfl,rfl,rfl,rfl,trivial⟩,⟨rfl,rfl,rfl,rfl,rfl,rfl,rfl,rfl,trivial⟩⟩;dsimp only;(refine⟨⟨⟨by omega,by omega⟩,?_,?_⟩,?_⟩<;>first | assumption | omega | (try (simp only[beq_iff_eq,beq_eq_false_iff_ne,bne_iff_ne,bne_eq_false_iff_eq,ne_eq,decide_eq_true_eq,decide_eq_false_iff_not,ge_iff_le,gt_iff_lt] at *);simp only[gA, *,ge_iff_le,gt_iff_lt,if_true,if_false,or_true,true_or,or_false,or_self,not_true_eq_false,not_false_eq_true,Bool.false_eq_true,reduceIte];try rfl)))
    ·refine⟨fun q=>?_,fun q=>?_⟩
     ·(refine⟨(⟨_,_,_,_,_,_,_,_,_⟩,_),?_,⟨rfl,rfl,rfl,rfl,rfl,rfl,trivial⟩,⟨rfl,rfl,rfl,rfl,rfl,rfl,rfl,rfl,trivial⟩⟩;dsimp only;(refine⟨⟨⟨by omega,by omega⟩,?_,?_⟩,?_⟩<;>first | assumption | omega | (try (simp only[beq_iff_eq,beq_eq_false_iff_ne,bne_iff_ne,bne_eq_false_iff_eq,ne_eq,decide_eq_true_eq,decide_eq_false_iff_not,ge_iff_le,gt_iff_lt] at *);simp only[gA, *,ge_iff_le,gt_iff_lt,if_true,if_false,or_true,true_or,or_false,or_self,not_true_eq_false,not_false_eq_true,Bool.false_eq_true,reduceIte];try rfl)))
     ·(refine⟨(⟨_,_,_,_,_,_,_,_,_⟩,_),?_,⟨rfl,rfl,rfl,rfl,rfl,rfl,trivial⟩,⟨rfl,rfl,rfl,rfl,rfl,rfl,rfl,rfl,trivial⟩⟩;dsimp only;(refine⟨⟨⟨by omega,by omega⟩,?_,?_⟩,?_⟩<;>first | assumption | omega | (try (simp only[beq_iff_eq,beq_eq_false_iff_ne,bne_iff_ne,bne_eq_false_iff_eq,ne_eq,decide_eq_true_eq,decide_eq_false_iff_not,ge_iff_le,gt_iff_lt] at *);simp only[gA, *,ge_iff_le,gt_iff_lt,if_true,if_false,or_true,true_or,or_false,or_self,not_true_eq_false,not_false_eq_true,Bool.false_eq_true,reduceIte];try rfl)))
   ·refine⟨(fun h=>nomatch h),fun q=>?_⟩
    (refine⟨(⟨_,_,_,_,_,_,_,_,_⟩,_),?_,⟨rfl,rfl,rfl,rfl,rfl,rfl,trivial⟩,⟨rfl,rfl,rfl,rfl,rfl,rfl,rfl,rfl,trivial⟩⟩;dsimp only;(refine⟨⟨⟨by omega,by omega⟩,?_,?_⟩,?_⟩<;>first | assumption | omega | (try (simp only[beq_iff_eq,beq_eq_false_iff_ne,bne_iff_ne,bne_eq_false_iff_eq,ne_eq,decide_eq_true_eq,decide_eq_false_iff_not,ge_iff_le,gt_iff_lt] at *);simp only[gA, *,ge_iff_le,gt_iff_lt,if_true,if_false,or_true,true_or,or_false,or_self,not_true_eq_false,not_false_eq_true,Bool.false_eq_true,reduceIte];try rfl)))
 ·rintro⟨⟨ekind,etick,etenant,ecell,eother,eepoch,esince,etill,en⟩,kk⟩ ⟨⟨hkk,hcell⟩,hE⟩
  refine⟨⟨by decide,rfl,rfl⟩,?_⟩
  simp only at hkk hcell
  refine⟨Ent×Int,fun _=>[],fun y=>match y with | (⟨a1,a2,a3,a4,a5,a6,a7,a8,a9⟩,kk)=>[(0,tapeB 1 zs.length cap kk),(12,.box 56 [.int .i64 a1,.int .i64 a2,.int .i64 a3,.int .i64 a4,.int .i64 a5,.int .i64 a6,.int .i64 a7,.int .i64 a8,.int .i64 a9])],fun y=>((k≤y.2∧y.2≤k+3)∧0≤y.1.cell∧y.1.cell<s.cells.length)∧y=(gB zs (s.tenants.getD tenant.toNat default) (gA zs (s.tenants.getD tenant.toNat default) (⟨kind,tick,tenant,cell,other,epoch,since,till,n⟩,k))),?_,?_⟩
  ·refine⟨fun q=>?_,fun q=>?_⟩
   ·refine⟨fun q=>?_,fun h=>nomatch h⟩
    refine⟨fun q=>?_,fun h=>nomatch h⟩
    (refine⟨(⟨_,_,_,_,_,_,_,_,_⟩,_),?_,⟨rfl,rfl,rfl,rfl,rfl,rfl,trivial⟩,⟨rfl,rfl,rfl,rfl,rfl,rfl,rfl,rfl,trivial⟩⟩;dsimp only;(refine⟨⟨⟨by omega,by omega⟩,?_,?_⟩,?_⟩<;>first | assumption | omega | (rw[← hE];clear hE;try (simp only[beq_iff_eq,beq_eq_false_iff_ne,bne_iff_ne,bne_eq_false_iff_eq,ne_eq,decide_eq_true_eq,decide_eq_false_iff_not,ge_iff_le,gt_iff_lt] at *);simp only[gB, *,ge_iff_le,gt_iff_lt,if_true,if_false,or_true,true_or,or_false,or_self,not_true_eq_false,not_false_eq_true,Bool.false_eq_true,reduceIte];try rfl)))
   ·refine⟨fun q=>?_,fun q=>?_⟩
    ·refine⟨fun q=>?_,fun h=>nomatch h⟩
     (refine⟨(⟨_,_,_,_,_,_,_,_,_⟩,_),?_,⟨rfl,rfl,rfl,rfl,rfl,rfl,trivial⟩,⟨rfl,rfl,rfl,rfl,rfl,rfl,rfl,rfl,trivial⟩⟩;dsimp only;(refine⟨⟨⟨by omega,by omega⟩,?_,?_⟩,?_⟩<;>first | assumption | omega | (rw[← hE];clear hE;try (simp only[beq_iff_eq,beq_eq_false_iff_ne,bne_iff_ne,bne_eq_false_iff_eq,ne_eq,decide_eq_true_eq,decide_eq_false_iff_not,ge_iff_le,gt_iff_lt] at *);simp only[gB, *,ge_iff_le,gt_iff_lt,if_true,if_false,or_true,true_or,or_false,or_self,not_true_eq_false,not_false_eq_true,Bool.false_eq_true,reduceIte];try rfl)))
    ·refine⟨0,1,cap,zs,_,_,rfl,⟨rfl,rfl⟩,⟨hz,by omega,by omega⟩,⟨_,rfl,by omega,by omega⟩,?_⟩
     rintro _ k3 ⟨_,b3,hnn,rfl,⟨er3,ek3⟩,hk3⟩;cases hnn;subst er3
     refine⟨fun q=>?_,fun q=>?_⟩
     ·(refine⟨(⟨_,_,_,_,_,_,_,_,_⟩,_),?_,⟨rfl,rfl,rfl,rfl,rfl,rfl,trivial⟩,⟨rfl,rfl,rfl,rfl,rfl,rfl,rfl,rfl,trivial⟩⟩;dsimp only;(refine⟨⟨⟨by omega,by omega⟩,?_,?_⟩,?_⟩<;>first | assumption | omega | (rw[← hE];clear hE;try (simp only[beq_iff_eq,beq_eq_false_iff_ne,bne_iff_ne,bne_eq_false_iff_eq,ne_eq,decide_eq_true_eq,decide_eq_false_iff_not,ge_iff_le,gt_iff_lt] at *);simp only[gB, *,ge_iff_le,gt_iff_lt,if_true,if_false,or_true,true_or,or_false,or_self,not_true_eq_false,not_false_eq_true,Bool.false_eq_true,reduceIte];try rfl)))
     ·(refine⟨(⟨_,_,_,_,_,_,_,_,_⟩,_),?_,⟨rfl,rfl,rfl,rfl,rfl,rfl,trivial⟩,⟨rfl,rfl,rfl,rfl,rfl,rfl,rfl,rfl,trivial⟩⟩;dsimp only;(refine⟨⟨⟨by omega,by omega⟩,?_,?_⟩,?_⟩<;>first | assumption | omega | (rw[← hE];clear hE;try (simp only[beq_iff_eq,beq_eq_false_iff_ne,bne_iff_ne,bne_eq_false_iff_eq,ne_eq,decide_eq_true_eq,decide_eq_false_iff_not,ge_iff_le,gt_iff_lt] at *);simp only[gB, *,ge_iff_le,gt_iff_lt,if_true,if_false,or_true,true_or,or_false,or_self,not_true_eq_false,not_false_eq_true,Bool.false_eq_true,reduceIte];try rfl)))
  ·rintro⟨⟨ekind,etick,etenant,ecell,eother,eepoch,esince,etill,en⟩,kk⟩ ⟨⟨hkk,hcell⟩,hE⟩
   refine⟨⟨by decide,rfl,rfl⟩,?_⟩
   simp only at hkk hcell
   refine⟨Ent×Int,fun _=>[],fun y=>match y with | (⟨a1,a2,a3,a4,a5,a6,a7,a8,a9⟩,kk)=>[(0,tapeB 1 zs.length cap kk),(12,.box 56 [.int .i64 a1,.int .i64 a2,.int .i64 a3,.int .i64 a4,.int .i64 a5,.int .i64 a6,.int .i64 a7,.int .i64 a8,.int .i64 a9])],fun y=>((k≤y.2∧y.2≤k+4)∧0≤y.1.cell∧y.1.cell<s.cells.length)∧y=(gC zs (s.tenants.getD tenant.toNat default) (gB zs (s.tenants.getD tenant.toNat default) (gA zs (s.tenants.getD tenant.toNat default) (⟨kind,tick,tenant,cell,other,epoch,since,till,n⟩,k)))),?_,?_⟩
   ·refine⟨fun q=>?_,fun q=>?_⟩
    ·refine⟨0,1,cap,zs,_,_,rfl,⟨rfl,rfl⟩,⟨hz,by omega,by omega⟩,⟨_,rfl,by omega,by omega⟩,?_⟩
     rintro _ k3 ⟨_,r3,hnn,rfl,⟨er3,ek3⟩,hr3,hk3⟩
     cases hnn
     refine⟨fun q=>?_,fun q=>?_⟩
     ·(refine⟨(⟨_,_,_,_,_,_,_,_,_⟩,_),?_,⟨rfl,rfl,rfl,rfl,rfl,rfl,trivial⟩,⟨rfl,rfl,rfl,rfl,rfl,rfl,rfl,rfl,trivial⟩⟩;dsimp only;(refine⟨⟨⟨by omega,by omega⟩,?_,?_⟩,?_⟩<;>first | assumption | omega | (rw[← hE];clear hE;try (simp only[beq_iff_eq,beq_eq_false_iff_ne,bne_iff_ne,bne_eq_false_iff_eq,ne_eq,decide_eq_true_eq,decide_eq_false_iff_not,ge_iff_le,gt_iff_lt] at *);simp only[gC, *,ge_iff_le,gt_iff_lt,if_true,if_false,or_true,true_or,or_false,or_self,not_true_eq_false,not_false_eq_true,Bool.false_eq_true,reduceIte];try rfl)))
     ·(refine⟨(⟨_,_,_,_,_,_,_,_,_⟩,_),?_,⟨rfl,rfl,rfl,rfl,rfl,rfl,trivial⟩,⟨rfl,rfl,rfl,rfl,rfl,rfl,rfl,rfl,trivial⟩⟩;dsimp only;(refine⟨⟨⟨by omega,by omega⟩,?_,?_⟩,?_⟩<;>first | assumption | omega | (rw[← hE];clear hE;try (simp only[beq_iff_eq,beq_eq_false_iff_ne,bne_iff_ne,bne_eq_false_iff_eq,ne_eq,decide_eq_true_eq,decide_eq_false_iff_not,ge_iff_le,gt_iff_lt] at *);simp only[gC, *,ge_iff_le,gt_iff_lt,if_true,if_false,or_true,true_or,or_false,or_self,not_true_eq_false,not_false_eq_true,Bool.false_eq_true,reduceIte];try rfl)))
    ·refine⟨(fun h=>nomatch h),fun q=>?_⟩
     (refine⟨(⟨_,_,_,_,_,_,_,_,_⟩,_),?_,⟨rfl,rfl,rfl,rfl,rfl,rfl,trivial⟩,⟨rfl,rfl,rfl,rfl,rfl,rfl,rfl,rfl,trivial⟩⟩;dsimp only;(refine⟨⟨⟨by omega,by omega⟩,?_,?_⟩,?_⟩<;>first | assumption | omega | (rw[← hE];clear hE;try (simp only[beq_iff_eq,beq_eq_false_iff_ne,bne_iff_ne,bne_eq_false_iff_eq,ne_eq,decide_eq_true_eq,decide_eq_false_iff_not,ge_iff_le,gt_iff_lt] at *);simp only[gC, *,ge_iff_le,gt_iff_lt,if_true,if_false,or_true,true_or,or_false,or_self,not_true_eq_false,not_false_eq_true,Bool.false_eq_true,reduceIte];try rfl)))
   ·rintro⟨⟨ekind,etick,etenant,ecell,eother,eepoch,esince,etill,en⟩,kk⟩ ⟨⟨hkk,hcell⟩,hE⟩
    refine⟨⟨by decide,rfl,rfl⟩,?_⟩
    simp only at hkk hcell
    refine⟨Ent×Int,fun _=>[],fun y=>match y with | (⟨a1,a2,a3,a4,a5,a6,a7,a8,a9⟩,kk)=>[(0,tapeB 1 zs.length cap kk),(12,.box 56 [.int .i64 a1,.int .i64 a2,.int .i64 a3,.int .i64 a4,.int .i64 a5,.int .i64 a6,.int .i64 a7,.int .i64 a8,.int .i64 a9])],fun y=>((k≤y.2∧y.2≤k+6)∧0≤y.1.cell∧y.1.cell<s.cells.length)∧y=(gD zs (s.tenants.getD tenant.toNat default) (gC zs (s.tenants.getD tenant.toNat default) (gB zs (s.tenants.getD tenant.toNat default) (gA zs (s.tenants.getD tenant.toNat default) (⟨kind,tick,tenant,cell,other,epoch,since,till,n⟩,k))))),?_,?_⟩
    ·refine⟨0,1,cap,zs,_,_,rfl,⟨rfl,rfl⟩,⟨hz,by omega,by omega⟩,⟨_,rfl,by omega,by omega⟩,?_⟩
     rintro _ k3 ⟨_,b3,hnn,rfl,⟨er3,ek3⟩,hk3⟩;cases hnn;subst er3
     refine⟨fun q=>?_,fun q=>?_⟩
     ·refine⟨0,1,cap,zs,_,_,rfl,⟨rfl,rfl⟩,⟨hz,by omega,by omega⟩,⟨_,rfl,by omega,by omega⟩,?_⟩
      rintro _ k4 ⟨_,r4,hnn,rfl,⟨er4,ek4⟩,hr4,hk4⟩
      cases hnn
      refine⟨⟨rfl,trivial⟩,?_⟩
      (refine⟨(⟨_,_,_,_,_,_,_,_,_⟩,_),?_,⟨rfl,rfl,rfl,rfl,rfl,rfl,trivial⟩,⟨rfl,rfl,rfl,rfl,rfl,rfl,rfl,rfl,trivial⟩⟩;dsimp only;(refine⟨⟨⟨by omega,by omega⟩,?_,?_⟩,?_⟩<;>first | assumption | omega | (rw[← hE];clear hE;try (simp only[beq_iff_eq,beq_eq_false_iff_ne,bne_iff_ne,bne_eq_false_iff_eq,ne_eq,decide_eq_true_eq,decide_eq_false_iff_not,ge_iff_le,gt_iff_lt] at *);simp only[gD, *,ge_iff_le,gt_iff_lt,if_true,if_false,or_true,true_or,or_false,or_self,not_true_eq_false,not_false_eq_true,Bool.false_eq_true,reduceIte];try rfl)))
     ·(refine⟨(⟨_,_,_,_,_,_,_,_,_⟩,_),?_,⟨rfl,rfl,rfl,rfl,rfl,rfl,trivial⟩,⟨rfl,rfl,rfl,rfl,rfl,rfl,rfl,rfl,trivial⟩⟩;dsimp only;(refine⟨⟨⟨by omega,by omega⟩,?_,?_⟩,?_⟩<;>first | assumption | omega | (rw[← hE];clear hE;try (simp only[beq_iff_eq,beq_eq_false_iff_ne,bne_iff_ne,bne_eq_false_iff_eq,ne_eq,decide_eq_true_eq,decide_eq_false_iff_not,ge_iff_le,gt_iff_lt] at *);simp only[gD, *,ge_iff_le,gt_iff_lt,if_true,if_false,or_true,true_or,or_false,or_self,not_true_eq_false,not_false_eq_true,Bool.false_eq_true,reduceIte];try rfl)))
    ·rintro⟨⟨ekind,etick,etenant,ecell,eother,eepoch,esince,etill,en⟩,kk⟩ ⟨⟨hkk,hcell⟩,hE⟩
     refine⟨⟨by decide,rfl,rfl⟩,?_⟩
     simp only at hkk hcell
     refine⟨0,1,cap,zs,_,_,rfl,⟨rfl,rfl⟩,⟨hz,by omega,by omega⟩,⟨_,_,rfl,by omega,by omega,by omega⟩,?_⟩
     rintro _ k3 ⟨_,_,r3,hnn,rfl,⟨er3,ek3⟩,hr3,hk3⟩
     cases hnn
     refine⟨⟨rfl,rfl,trivial⟩,?_⟩
     refine⟨⟨Nat.le_refl _,by omega,by omega⟩,?_⟩
     refine⟨Ent×Int,fun _=>[],fun y=>match y with | (⟨a1,a2,a3,a4,a5,a6,a7,a8,a9⟩,kk)=>[(0,tapeB 1 zs.length cap kk),(12,.box 56 [.int .i64 a1,.int .i64 a2,.int .i64 a3,.int .i64 a4,.int .i64 a5,.int .i64 a6,.int .i64 a7,.int .i64 a8,.int .i64 a9])],fun y=>((k≤y.2∧y.2≤k+9)∧0≤y.1.cell∧y.1.cell<s.cells.length)∧y=(gF zs (gE zs c s (gD zs (s.tenants.getD tenant.toNat default) (gC zs (s.tenants.getD tenant.toNat default) (gB zs (s.tenants.getD tenant.toNat default) (gA zs (s.tenants.getD tenant.toNat default) (⟨kind,tick,tenant,cell,other,epoch,since,till,n⟩,k))))))),?_,?_⟩
     ·refine⟨0,1,cap,zs,_,_,rfl,⟨rfl,rfl⟩,⟨hz,by omega,by omega⟩,⟨_,rfl,by omega,by omega⟩,?_⟩
      rintro _ k5 ⟨_,b5,hnn,rfl,⟨er5,ek5⟩,hk5⟩;cases hnn;subst er5
      refine⟨fun q=>?_,fun q=>?_⟩
      ·have hq:nxV zs (gE zs c s (gD zs (s.tenants.getD tenant.toNat default) (gC zs (s.tenants.getD tenant.toNat default) (gB zs (s.tenants.getD tenant.toNat default) (gA zs (s.tenants.getD tenant.toNat default) (⟨kind,tick,tenant,cell,other,epoch,since,till,n⟩,k)))))).2 15=0:=by show nxV zs (advK zs (gD zs (s.tenants.getD tenant.toNat default) (gC zs (s.tenants.getD tenant.toNat default) (gB zs (s.tenants.getD tenant.toNat default) (gA zs (s.tenants.getD tenant.toNat default) (⟨kind,tick,tenant,cell,other,epoch,since,till,n⟩,k))))).2) 15=0;rw[← hE];dsimp only;rw[ek3];exact of_decide_eq_true q
       refine⟨Ent×Int,fun _=>[],fun y=>match y with | (⟨a1,a2,a3,a4,a5,a6,a7,a8,a9⟩,kk)=>[(0,tapeB 1 zs.length cap kk),(12,.box 56 [.int .i64 a1,.int .i64 a2,.int .i64 a3,.int .i64 a4,.int .i64 a5,.int .i64 a6,.int .i64 a7,.int .i64 a8,.int .i64 a9])],fun y=>((k≤y.2∧y.2≤k+9)∧0≤y.1.cell∧y.1.cell<s.cells.length)∧y=(gF1 zs (gE zs c s (gD zs (s.tenants.getD tenant.toNat default) (gC zs (s.tenants.getD tenant.toNat default) (gB zs (s.tenants.getD tenant.toNat default) (gA zs (s.tenants.getD tenant.toNat default) (⟨kind,tick,tenant,cell,other,epoch,since,till,n⟩,k))))))),?_,?_⟩
       ·refine⟨?_,?_,?_⟩
        ·refine⟨trivial,?_⟩
         refine⟨?_,?_⟩
         ·refine⟨trivial,?_⟩
          refine⟨0,1,cap,zs,_,_,rfl,⟨rfl,rfl⟩,⟨hz,by omega,by omega⟩,⟨_,rfl,by omega,by omega⟩,?_⟩
          rintro _ k4 ⟨_,r4,hnn,rfl,⟨er4,ek4⟩,hr4,hk4⟩
          cases hnn
          refine⟨trivial,?_⟩
          refine⟨trivial,?_⟩
          (refine⟨(⟨_,_,_,_,_,_,_,_,_⟩,_),?_,⟨rfl,rfl,rfl,rfl,rfl,rfl,trivial⟩,⟨rfl,rfl,rfl,rfl,rfl,rfl,rfl,rfl,trivial⟩⟩;dsimp only;(refine⟨⟨⟨by omega,by omega⟩,?_,?_⟩,?_⟩<;>first | assumption | omega | (show _=gF1 zs (gE zs c s (gD zs (s.tenants.getD tenant.toNat default) (gC zs (s.tenants.getD tenant.toNat default) (gB zs (s.tenants.getD tenant.toNat default) (gA zs (s.tenants.getD tenant.toNat default) (⟨kind,tick,tenant,cell,other,epoch,since,till,n⟩,k))))));rw[← hE];clear hE;try (simp only[beq_iff_eq,beq_eq_false_iff_ne,bne_iff_ne,bne_eq_false_iff_eq,ne_eq,decide_eq_true_eq,decide_eq_false_iff_not,ge_iff_le,gt_iff_lt] at *);simp only[gF1,gE, *,ge_iff_le,gt_iff_lt,if_true,if_false,or_true,true_or,or_false,or_self,not_true_eq_false,not_false_eq_true,Bool.false_eq_true,reduceIte];try rfl)))
         ·refine⟨0,1,cap,zs,_,_,rfl,⟨rfl,rfl⟩,⟨hz,by omega,by omega⟩,⟨_,rfl,by omega,by omega⟩,?_⟩
          rintro _ k4 ⟨_,r4,hnn,rfl,⟨er4,ek4⟩,hr4,hk4⟩
          cases hnn
          refine⟨trivial,?_⟩
          refine⟨trivial,?_⟩
          refine⟨trivial,?_⟩
          (refine⟨(⟨_,_,_,_,_,_,_,_,_⟩,_),?_,⟨rfl,rfl,rfl,rfl,rfl,rfl,trivial⟩,⟨rfl,rfl,rfl,rfl,rfl,rfl,rfl,rfl,trivial⟩⟩;dsimp only;(refine⟨⟨⟨by omega,by omega⟩,?_,?_⟩,?_⟩<;>first | assumption | omega | (show _=gF1 zs (gE zs c s (gD zs (s.tenants.getD tenant.toNat default) (gC zs (s.tenants.getD tenant.toNat default) (gB zs (s.tenants.getD tenant.toNat default) (gA zs (s.tenants.getD tenant.toNat default) (⟨kind,tick,tenant,cell,other,epoch,since,till,n⟩,k))))));rw[← hE];clear hE;try (simp only[beq_iff_eq,beq_eq_false_iff_ne,bne_iff_ne,bne_eq_false_iff_eq,ne_eq,decide_eq_true_eq,decide_eq_false_iff_not,ge_iff_le,gt_iff_lt] at *);simp only[gF1,gE, *,ge_iff_le,gt_iff_lt,if_true,if_false,or_true,true_or,or_false,or_self,not_true_eq_false,not_false_eq_true,Bool.false_eq_true,reduceIte];try rfl)))
        ·refine⟨trivial,?_⟩
         refine⟨?_,?_⟩
         ·refine⟨trivial,?_⟩
          refine⟨0,1,cap,zs,_,_,rfl,⟨rfl,rfl⟩,⟨hz,by omega,by omega⟩,⟨_,rfl,by omega,by omega⟩,?_⟩
          rintro _ k4 ⟨_,r4,hnn,rfl,⟨er4,ek4⟩,hr4,hk4⟩
          cases hnn
          refine⟨trivial,?_⟩
          refine⟨trivial,?_⟩
          (refine⟨(⟨_,_,_,_,_,_,_,_,_⟩,_),?_,⟨rfl,rfl,rfl,rfl,rfl,rfl,trivial⟩,⟨rfl,rfl,rfl,rfl,rfl,rfl,rfl,rfl,trivial⟩⟩;dsimp only;(refine⟨⟨⟨by omega,by omega⟩,?_,?_⟩,?_⟩<;>first | assumption | omega | (show _=gF1 zs (gE zs c s (gD zs (s.tenants.getD tenant.toNat default) (gC zs (s.tenants.getD tenant.toNat default) (gB zs (s.tenants.getD tenant.toNat default) (gA zs (s.tenants.getD tenant.toNat default) (⟨kind,tick,tenant,cell,other,epoch,since,till,n⟩,k))))));rw[← hE];clear hE;try (simp only[beq_iff_eq,beq_eq_false_iff_ne,bne_iff_ne,bne_eq_false_iff_eq,ne_eq,decide_eq_true_eq,decide_eq_false_iff_not,ge_iff_le,gt_iff_lt] at *);simp only[gF1,gE, *,ge_iff_le,gt_iff_lt,if_true,if_false,or_true,true_or,or_false,or_self,not_true_eq_false,not_false_eq_true,Bool.false_eq_true,reduceIte];try rfl)))
         ·refine⟨0,1,cap,zs,_,_,rfl,⟨rfl,rfl⟩,⟨hz,by omega,by omega⟩,⟨_,rfl,by omega,by omega⟩,?_⟩
          rintro _ k4 ⟨_,r4,hnn,rfl,⟨er4,ek4⟩,hr4,hk4⟩
          cases hnn
          refine⟨trivial,?_⟩
          refine⟨trivial,?_⟩
          refine⟨trivial,?_⟩
          (refine⟨(⟨_,_,_,_,_,_,_,_,_⟩,_),?_,⟨rfl,rfl,rfl,rfl,rfl,rfl,trivial⟩,⟨rfl,rfl,rfl,rfl,rfl,rfl,rfl,rfl,trivial⟩⟩;dsimp only;(refine⟨⟨⟨by omega,by omega⟩,?_,?_⟩,?_⟩<;>first | assumption | omega | (show _=gF1 zs (gE zs c s (gD zs (s.tenants.getD tenant.toNat default) (gC zs (s.tenants.getD tenant.toNat default) (gB zs (s.tenants.getD tenant.toNat default) (gA zs (s.tenants.getD tenant.toNat default) (⟨kind,tick,tenant,cell,other,epoch,since,till,n⟩,k))))));rw[← hE];clear hE;try (simp only[beq_iff_eq,beq_eq_false_iff_ne,bne_iff_ne,bne_eq_false_iff_eq,ne_eq,decide_eq_true_eq,decide_eq_false_iff_not,ge_iff_le,gt_iff_lt] at *);simp only[gF1,gE, *,ge_iff_le,gt_iff_lt,if_true,if_false,or_true,true_or,or_false,or_self,not_true_eq_false,not_false_eq_true,Bool.false_eq_true,reduceIte];try rfl)))
        ·refine⟨0,1,cap,zs,_,_,rfl,⟨rfl,rfl⟩,⟨hz,by omega,by omega⟩,⟨_,rfl,by omega,by omega⟩,?_⟩
         rintro _ k4 ⟨_,r4,hnn,rfl,⟨er4,ek4⟩,hr4,hk4⟩
         cases hnn
         refine⟨trivial,?_⟩
         refine⟨?_,?_⟩
         ·refine⟨trivial,?_⟩
          refine⟨trivial,?_⟩
          refine⟨trivial,?_⟩
          (refine⟨(⟨_,_,_,_,_,_,_,_,_⟩,_),?_,⟨rfl,rfl,rfl,rfl,rfl,rfl,trivial⟩,⟨rfl,rfl,rfl,rfl,rfl,rfl,rfl,rfl,trivial⟩⟩;dsimp only;(refine⟨⟨⟨by omega,by omega⟩,?_,?_⟩,?_⟩<;>first | assumption | omega | (show _=gF1 zs (gE zs c s (gD zs (s.tenants.getD tenant.toNat default) (gC zs (s.tenants.getD tenant.toNat default) (gB zs (s.tenants.getD tenant.toNat default) (gA zs (s.tenants.getD tenant.toNat default) (⟨kind,tick,tenant,cell,other,epoch,since,till,n⟩,k))))));rw[← hE];clear hE;try (simp only[beq_iff_eq,beq_eq_false_iff_ne,bne_iff_ne,bne_eq_false_iff_eq,ne_eq,decide_eq_true_eq,decide_eq_false_iff_not,ge_iff_le,gt_iff_lt] at *);simp only[gF1,gE, *,ge_iff_le,gt_iff_lt,if_true,if_false,or_true,true_or,or_false,or_self,not_true_eq_false,not_false_eq_true,Bool.false_eq_true,reduceIte];try rfl)))
         ·refine⟨trivial,?_⟩
          refine⟨trivial,?_⟩
          refine⟨trivial,?_⟩
          (refine⟨(⟨_,_,_,_,_,_,_,_,_⟩,_),?_,⟨rfl,rfl,rfl,rfl,rfl,rfl,trivial⟩,⟨rfl,rfl,rfl,rfl,rfl,rfl,rfl,rfl,trivial⟩⟩;dsimp only;(refine⟨⟨⟨by omega,by omega⟩,?_,?_⟩,?_⟩<;>first | assumption | omega | (show _=gF1 zs (gE zs c s (gD zs (s.tenants.getD tenant.toNat default) (gC zs (s.tenants.getD tenant.toNat default) (gB zs (s.tenants.getD tenant.toNat default) (gA zs (s.tenants.getD tenant.toNat default) (⟨kind,tick,tenant,cell,other,epoch,since,till,n⟩,k))))));rw[← hE];clear hE;try (simp only[beq_iff_eq,beq_eq_false_iff_ne,bne_iff_ne,bne_eq_false_iff_eq,ne_eq,decide_eq_true_eq,decide_eq_false_iff_not,ge_iff_le,gt_iff_lt] at *);simp only[gF1,gE, *,ge_iff_le,gt_iff_lt,if_true,if_false,or_true,true_or,or_false,or_self,not_true_eq_false,not_false_eq_true,Bool.false_eq_true,reduceIte];try rfl)))
       ·rintro⟨⟨ekind,etick,etenant,ecell,eother,eepoch,esince,etill,en⟩,kk⟩ ⟨⟨hkk,hcell⟩,hE⟩
        refine⟨⟨by decide,rfl,rfl⟩,?_⟩
        simp only at hkk hcell
        (refine⟨(⟨_,_,_,_,_,_,_,_,_⟩,_),?_,⟨rfl,rfl,rfl,rfl,rfl,rfl,trivial⟩,⟨rfl,rfl,rfl,rfl,rfl,rfl,rfl,rfl,trivial⟩⟩;dsimp only;(refine⟨⟨⟨by omega,by omega⟩,?_,?_⟩,?_⟩<;>first | assumption | omega | (unfold gF;rw[if_pos hq,← hE])))
      ·(refine⟨(⟨_,_,_,_,_,_,_,_,_⟩,_),?_,⟨rfl,rfl,rfl,rfl,rfl,rfl,trivial⟩,⟨rfl,rfl,rfl,rfl,rfl,rfl,rfl,rfl,trivial⟩⟩;dsimp only;(refine⟨⟨⟨by omega,by omega⟩,?_,?_⟩,?_⟩<;>first | assumption | omega | (show _=gF zs (gE zs c s (gD zs (s.tenants.getD tenant.toNat default) (gC zs (s.tenants.getD tenant.toNat default) (gB zs (s.tenants.getD tenant.toNat default) (gA zs (s.tenants.getD tenant.toNat default) (⟨kind,tick,tenant,cell,other,epoch,since,till,n⟩,k))))));rw[← hE];clear hE;try (simp only[beq_iff_eq,beq_eq_false_iff_ne,bne_iff_ne,bne_eq_false_iff_eq,ne_eq,decide_eq_true_eq,decide_eq_false_iff_not,ge_iff_le,gt_iff_lt] at *);simp only[gF,gE,gF1, *,ge_iff_le,gt_iff_lt,if_true,if_false,or_true,true_or,or_false,or_self,not_true_eq_false,not_false_eq_true,Bool.false_eq_true,reduceIte];try rfl)))
     ·rintro⟨⟨ekind,etick,etenant,ecell,eother,eepoch,esince,etill,en⟩,kk⟩ ⟨⟨hkk,hcell⟩,hE⟩
      refine⟨⟨by decide,rfl,rfl⟩,?_⟩
      simp only at hkk hcell
      exact⟨kk,⟨⟨_,_,_,_,_,_,_,_,_⟩,⟨_,_,_,_,_,_,_,_,_⟩,rfl,rfl,hE.symm,by omega,by omega⟩,pure_ent ⟨_,_,_,_,_,_,_,_,_⟩,rfl⟩
def ctGrantX:CT:=ctGen GrantX preGrant
theorem grantXOk:CSound Tryz.prog 154 ctGrantX:=genOk (by kernel_rfl) (by
  rintro c s args k ⟨-,e,rfl,-⟩ v hv
  simp at hv
  subst hv
  exact pure_ent e) (by
 rintro args g A cap zs k x c y s w hz hk0 hk1 ⟨⟨hV,hI⟩,e,rfl,h0,h1⟩ ht hc hs
 refine gen_calls ggrXFok Tryz.func154 rfl (D:=ggrD) (by kernel_rfl) rfl (fun v hv=>by simp at hv;subst hv;exact pure_ent e) g A cap zs k x c y s w ht hc hs (R:=GrantX zs c s [entV' e] k) ?_
 exact grantX_sx cap zs k _ c _ s e hz ⟨hk0,by omega⟩ hV hI h0 h1)
/-! make.Entry,exactly. -/
def mx0 (v:Int):Int:=if v>0 then v else 0
def enT (zs:List Int) (s:St) (k:Int):Int×Int:=
 if nxV zs (advK zs k) 20=0 then (if IntKind.i64.wrap (s.tick-1)>0 then IntKind.i64.wrap (s.tick-1) else 0,advK zs (advK zs k))
 else (IntKind.i64.wrap (s.tick+nxV zs k 4),advK zs (advK zs k))
def enP (zs:List Int) (c:Cfg) (i tk k:Int):Ent×Int:=
 (⟨1,tk,i,mx0 (pkV zs (homesL c i) k),pkV zs (standbysL c i (mx0 (pkV zs (homesL c i) k))) (pkK zs (homesL c i) k),0,0,0,0⟩,pkK zs (standbysL c i (mx0 (pkV zs (homesL c i) k))) (pkK zs (homesL c i) k))
def enS (zs:List Int) (c:Cfg) (s:St) (x:TS) (i tk k:Int):Ent×Int:=
 if nxV zs k 12=0 then (⟨3,tk,i,-1,-1,if x.epoch>1 then x.epoch else 1,0,0,0⟩,advK zs k)
 else if nxV zs k 12=1 then (⟨4,tk,i,pkV zs (standbysL c i x.home) (advK zs k),-1,0,0,0,0⟩,pkK zs (standbysL c i x.home) (advK zs k))
 else if nxV zs k 12=2 then (⟨5,tk,i,mx0 x.next,-1,0,0,0,0⟩,advK zs k)
 else if nxV zs k 12=3 then (⟨6,tk,i,mx0 (pkV zs (homesL c i) (advK zs k)),-1,0,0,0,0⟩,pkK zs (homesL c i) (advK zs k))
 else if nxV zs k 12=4 then (⟨7,tk,i,-1,-1,0,0,0,0⟩,advK zs k)
 else if nxV zs k 12=5 then (⟨8,tk,i,-1,-1,0,0,0,if x.shed=true then 0 else 1⟩,advK zs k)
 else gG zs c s ⟨2,tk,i,-1,-1,0,0,0,0⟩ (advK zs k)
def enQ (zs:List Int) (c:Cfg) (s:St) (i tk k:Int):Ent×Int:=
 if (s.tenants.getD i.toNat default).placed=true then enS zs c s (s.tenants.getD i.toNat default) i tk k else enP zs c i tk k
def enE (zs:List Int) (c:Cfg) (s:St) (k:Int):Ent×Int:=
 match enT zs s k with
 | (tk,k2)=>if c.tenants.length=0 then plE zs c s tk k2 else if nxV zs k2 4=0 then plE zs c s tk (advK zs k2) else enQ zs c s (nxV zs (advK zs k2) c.tenants.length) tk (advK zs (advK zs k2))
def entryXF:FT:=[(39,ctNextX),(41,ctYesX),(149,ctPlatformX),(154,ctGrantX),(150,ctNone),(151,ctPickX),(152,ctHomesX),(153,ctStandbysX)]
theorem entryXFok:FTok Tryz.prog entryXF:=ft_cons nextXOk (ft_cons yesXOk (ft_cons platformXOk (ft_cons grantXOk (ft_cons noneOk (ft_cons pickXOk (ft_cons homesXOk (ft_cons standbysXOk ft_nil)))))))
def EntX (zs:List Int) (c:Cfg) (s:St) (k:Int) (v:Value) (k':Int):Prop:=∃ en,v=entV' en∧enE zs c s k=(en,k')∧k≤k'∧k'≤k+40∧(zs.length≠0→k<k')
set_option maxRecDepth 100000 in
set_option maxHeartbeats 4000000 in
theorem entryX_sx (cap:Nat) (zs:List Int) (k:Int) (x:CfgK) (c:Cfg) (y:StK) (s:St) (hz:zs.length≤400) (hk:0≤k∧k≤880000) (hV:CfgV c) (hI:StInv c s) :
  sx tt entryXF entryD (bodyOf Tryz.f96) (argF 0 (ptr 0::cfgV CN0 x c::stV SN0 y s::[])) ((0,tapeB 1 zs.length cap k)::(1,intRow zs)::(cfgM CN0 c++stM SN0 s)) 10
   (endx tt Tryz.f96.results.toList fun v mem' _=>∃ k',EntX zs c s k v k'∧pureV v∧lk mem' 0=some (tapeB 1 zs.length cap k')):=by
 have hnc:=hV.nc
 have hnt:=hV.nt
 have hlt:=hI.lt
 have htk:=hI.tick
 refine⟨0,1,cap,zs,_,_,rfl,⟨rfl,rfl⟩,⟨hz,by omega,by omega⟩,⟨_,rfl,by omega,by omega⟩,?_⟩
 rintro _ k1 ⟨_,r1,hnn,rfl,⟨er1,ek1⟩,hr1,hk1⟩
 cases hnn
 refine⟨⟨rfl,trivial⟩,?_⟩
 refine⟨Int×Int,fun y=>match y with | (tk,kk)=>[(7,.int .i64 tk)],fun y=>match y with | (tk,kk)=>[(0,tapeB 1 zs.length cap kk)],fun y=>((0≤y.1∧y.1≤2147483648)∧k≤y.2∧y.2≤k+2∧(zs.length≠0→k<y.2))∧y=enT zs s k,?_,?_⟩
 ·refine⟨0,1,cap,zs,_,_,rfl,⟨rfl,rfl⟩,⟨hz,by omega,by omega⟩,⟨_,rfl,by omega,by omega⟩,?_⟩
  rintro _ k2 ⟨_,b2,hnn,rfl,⟨er2,ek2⟩,hk2⟩;cases hnn;subst er2
  refine⟨fun q=>?_,fun q=>?_⟩
  ·(refine⟨(_,_),?_,⟨rfl,rfl,rfl,rfl,rfl,trivial⟩,⟨rfl,rfl,rfl,rfl,rfl,rfl,rfl,rfl,rfl,rfl,rfl,rfl,rfl,trivial⟩⟩;dsimp only;refine⟨?_,(by try (simp only[beq_iff_eq,beq_eq_false_iff_ne,bne_iff_ne,bne_eq_false_iff_eq,ne_eq,decide_eq_true_eq,decide_eq_false_iff_not,ge_iff_le,gt_iff_lt] at *);simp only[enT, *,ge_iff_le,gt_iff_lt,if_true,if_false,or_true,true_or,or_false,or_self,not_true_eq_false,not_false_eq_true,Bool.false_eq_true,reduceIte];try rfl)⟩;(split<;>(try rw[wrapi (by omega)] at *)<;>omega))
  ·(refine⟨(_,_),?_,⟨rfl,rfl,rfl,rfl,rfl,trivial⟩,⟨rfl,rfl,rfl,rfl,rfl,rfl,rfl,rfl,rfl,rfl,rfl,rfl,rfl,trivial⟩⟩;dsimp only;refine⟨?_,(by try (simp only[beq_iff_eq,beq_eq_false_iff_ne,bne_iff_ne,bne_eq_false_iff_eq,ne_eq,decide_eq_true_eq,decide_eq_false_iff_not,ge_iff_le,gt_iff_lt] at *);simp only[enT, *,ge_iff_le,gt_iff_lt,if_true,if_false,or_true,true_or,or_false,or_self,not_true_eq_false,not_false_eq_true,Bool.false_eq_true,reduceIte];try rfl)⟩;(rw[wrapi (by omega)];omega))
 ·rintro⟨tk,kk⟩ ⟨⟨htk,hkk⟩,hE⟩
  refine⟨⟨by decide,rfl,rfl⟩,?_⟩
  dsimp only at htk hkk
  refine⟨fun h0=>?_,fun h0=>?_⟩
  ·refine⟨fun _=>?_,fun h=>nomatch h⟩
   have hpos:c.tenants.length=0:=by simpa using h0
   refine⟨0,1,cap,zs,_,CN0,x,c,SN0,y,s,[.int .i64 tk],rfl,⟨rfl,rfl⟩,⟨rfl,rfl,rfl,rfl,rfl,rfl,trivial⟩,⟨rfl,rfl,trivial⟩,⟨hz,by omega,by omega⟩,⟨⟨hV,hI⟩,tk,rfl,htk.1,htk.2⟩,?_⟩
   rintro _ k9 ⟨_,en,hnn,rfl,e9,hk9⟩
   cases hnn
   exact⟨k9,⟨en,rfl,(by rw[enE,← hE];try (simp only[beq_iff_eq,beq_eq_false_iff_ne,bne_iff_ne,bne_eq_false_iff_eq,ne_eq,decide_eq_true_eq,decide_eq_false_iff_not,ge_iff_le,gt_iff_lt] at *);simp only[reduceIte, *,ge_iff_le,gt_iff_lt,if_true,if_false,or_true,true_or,or_false,or_self,not_true_eq_false,not_false_eq_true,Bool.false_eq_true,reduceIte];try rfl),by omega,by omega,by omega⟩,pure_ent en,rfl⟩
  ·have hpos:c.tenants.length≠0:=by simpa using h0
   have hpos2:¬ (c.tenants.length:Int)=0:=by omega
   refine⟨0,1,cap,zs,_,_,rfl,⟨rfl,rfl⟩,⟨hz,by omega,by omega⟩,⟨_,rfl,by omega,by omega⟩,?_⟩
   rintro _ k8 ⟨_,b8,hnn,rfl,⟨er8,ek8⟩,hk8⟩;cases hnn;subst er8
   refine⟨fun q=>?_,fun q=>?_⟩
   ·refine⟨0,1,cap,zs,_,CN0,x,c,SN0,y,s,[.int .i64 tk],rfl,⟨rfl,rfl⟩,⟨rfl,rfl,rfl,rfl,rfl,rfl,trivial⟩,⟨rfl,rfl,trivial⟩,⟨hz,by omega,by omega⟩,⟨⟨hV,hI⟩,tk,rfl,htk.1,htk.2⟩,?_⟩
    rintro _ k9 ⟨_,en,hnn,rfl,e9,hk9⟩
    cases hnn
    exact⟨k9,⟨en,rfl,(by rw[enE,← hE];try (simp only[beq_iff_eq,beq_eq_false_iff_ne,bne_iff_ne,bne_eq_false_iff_eq,ne_eq,decide_eq_true_eq,decide_eq_false_iff_not,ge_iff_le,gt_iff_lt] at *);simp only[reduceIte, *,ge_iff_le,gt_iff_lt,if_true,if_false,or_true,true_or,or_false,or_self,not_true_eq_false,not_false_eq_true,Bool.false_eq_true,reduceIte];try rfl),by omega,by omega,by omega⟩,pure_ent en,rfl⟩
   ·refine⟨0,1,cap,zs,_,_,rfl,⟨rfl,rfl⟩,⟨hz,by omega,by omega⟩,⟨_,rfl,by omega,by omega⟩,?_⟩
    rintro _ k3 ⟨_,r3,hnn,rfl,⟨er3,ek3⟩,hr3,hk3⟩
    cases hnn
    refine⟨⟨Nat.le_refl _,by omega,by omega⟩,?_⟩
    obtain⟨t,htd⟩:∃ t,t=s.tenants.getD r3.toNat default:=⟨_,rfl⟩
    refine⟨fun hpl=>?_,fun hpl=>?_⟩
    ·have hplq:(s.tenants.getD r3.toNat default).placed=false:=by simpa using hpl
     refine⟨_,_,rfl,?_⟩
     refine⟨CN0,x,c,_,rfl,⟨rfl,rfl,rfl,rfl,rfl,rfl,trivial⟩,hV,?_⟩
     intro lH cpH elH hlH
     refine⟨0,1,cap,zs,_,_,_,_,rfl,⟨rfl,rfl,rfl⟩,⟨hz,by omega,by omega⟩,by assumption,?_⟩
     rintro v4 k4 ⟨ev4,ek4⟩ hk4
     refine⟨CN0,x,c,_,_,rfl,⟨rfl,rfl,rfl,rfl,rfl,rfl,trivial⟩,hV,?_⟩
     intro lS cpS elS hlS
     refine⟨0,1,cap,zs,_,_,_,_,rfl,⟨rfl,rfl,rfl⟩,⟨hz,by omega,by omega⟩,by assumption,?_⟩
     rintro v5 k5 ⟨ev5,ek5⟩ hk5
     exact⟨k5,⟨⟨_,_,_,_,_,_,_,_,_⟩,rfl,(by rw[enE,← hE];try (simp only[beq_iff_eq,beq_eq_false_iff_ne,bne_iff_ne,bne_eq_false_iff_eq,ne_eq,decide_eq_true_eq,decide_eq_false_iff_not,ge_iff_le,gt_iff_lt] at *);simp only[enQ,enP,mx0, *,ge_iff_le,gt_iff_lt,if_true,if_false,or_true,true_or,or_false,or_self,not_true_eq_false,not_false_eq_true,Bool.false_eq_true,reduceIte];try rfl),by omega,by omega,by omega⟩,pure_ent ⟨_,_,_,_,_,_,_,_,_⟩,rfl⟩
    ·have hplq:(s.tenants.getD r3.toNat default).placed=true:=by simpa using hpl
     replace hpl:(tsAt s r3).placed=true:=hplq
     refine⟨_,_,rfl,?_⟩
     refine⟨Ent×Int,fun _=>[],fun y=>match y with | (⟨a1,a2,a3,a4,a5,a6,a7,a8,a9⟩,kk)=>[(0,tapeB 1 zs.length cap kk),(14,.box 56 [.int .i64 a1,.int .i64 a2,.int .i64 a3,.int .i64 a4,.int .i64 a5,.int .i64 a6,.int .i64 a7,.int .i64 a8,.int .i64 a9])],fun y=>(k≤y.2∧y.2≤k+10∧(zs.length≠0→k<y.2))∧y=enE zs c s k,?_,?_⟩
     ·refine⟨0,1,cap,zs,_,_,rfl,⟨rfl,rfl⟩,⟨hz,by omega,by omega⟩,⟨_,rfl,by omega,by omega⟩,?_⟩
      rintro _ k6 ⟨_,r6,hnn,rfl,⟨er6,ek6⟩,hr6,hk6⟩
      cases hnn
      refine⟨fun q=>?_,fun q=>?_⟩
      ·refine⟨⟨rfl,trivial⟩,?_⟩
       (refine⟨(⟨_,_,_,_,_,_,_,_,_⟩,_),?_,⟨rfl,rfl,trivial⟩,⟨rfl,rfl,rfl,trivial⟩⟩;dsimp only;refine⟨by omega,?_⟩;rw[enE,← hE];try (simp only[beq_iff_eq,beq_eq_false_iff_ne,bne_iff_ne,bne_eq_false_iff_eq,ne_eq,decide_eq_true_eq,decide_eq_false_iff_not,ge_iff_le,gt_iff_lt] at *);simp only[enQ,enS,mx0, *,ge_iff_le,gt_iff_lt,if_true,if_false,or_true,true_or,or_false,or_self,not_true_eq_false,not_false_eq_true,Bool.false_eq_true,reduceIte];try rfl)
      refine⟨fun q=>?_,fun q=>?_⟩
      ·refine⟨CN0,x,c,_,_,rfl,⟨rfl,rfl,rfl,rfl,rfl,rfl,trivial⟩,hV,?_⟩
       intro lS cpS elS hlS
       refine⟨0,1,cap,zs,_,_,_,_,rfl,⟨rfl,rfl,rfl⟩,⟨hz,by omega,by omega⟩,by assumption,?_⟩
       rintro v7 k7 ⟨ev7,ek7⟩ hk7
       (refine⟨(⟨_,_,_,_,_,_,_,_,_⟩,_),?_,⟨rfl,rfl,trivial⟩,⟨rfl,rfl,rfl,trivial⟩⟩;dsimp only;refine⟨by omega,?_⟩;rw[enE,← hE];try (simp only[beq_iff_eq,beq_eq_false_iff_ne,bne_iff_ne,bne_eq_false_iff_eq,ne_eq,decide_eq_true_eq,decide_eq_false_iff_not,ge_iff_le,gt_iff_lt] at *);simp only[enQ,enS,mx0, *,ge_iff_le,gt_iff_lt,if_true,if_false,or_true,true_or,or_false,or_self,not_true_eq_false,not_false_eq_true,Bool.false_eq_true,reduceIte];try rfl)
      refine⟨fun q=>?_,fun q=>?_⟩
      ·refine⟨⟨rfl,trivial⟩,?_⟩
       (refine⟨(⟨_,_,_,_,_,_,_,_,_⟩,_),?_,⟨rfl,rfl,trivial⟩,⟨rfl,rfl,rfl,trivial⟩⟩;dsimp only;refine⟨by omega,?_⟩;rw[enE,← hE];try (simp only[beq_iff_eq,beq_eq_false_iff_ne,bne_iff_ne,bne_eq_false_iff_eq,ne_eq,decide_eq_true_eq,decide_eq_false_iff_not,ge_iff_le,gt_iff_lt] at *);simp only[enQ,enS,mx0, *,ge_iff_le,gt_iff_lt,if_true,if_false,or_true,true_or,or_false,or_self,not_true_eq_false,not_false_eq_true,Bool.false_eq_true,reduceIte];try rfl)
      refine⟨fun q=>?_,fun q=>?_⟩
      ·refine⟨CN0,x,c,_,rfl,⟨rfl,rfl,rfl,rfl,rfl,rfl,trivial⟩,hV,?_⟩
       intro lH cpH elH hlH
       refine⟨0,1,cap,zs,_,_,_,_,rfl,⟨rfl,rfl,rfl⟩,⟨hz,by omega,by omega⟩,by assumption,?_⟩
       rintro v7 k7 ⟨ev7,ek7⟩ hk7
       (refine⟨(⟨_,_,_,_,_,_,_,_,_⟩,_),?_,⟨rfl,rfl,trivial⟩,⟨rfl,rfl,rfl,trivial⟩⟩;dsimp only;refine⟨by omega,?_⟩;rw[enE,← hE];try (simp only[beq_iff_eq,beq_eq_false_iff_ne,bne_iff_ne,bne_eq_false_iff_eq,ne_eq,decide_eq_true_eq,decide_eq_false_iff_not,ge_iff_le,gt_iff_lt] at *);simp only[enQ,enS,mx0, *,ge_iff_le,gt_iff_lt,if_true,if_false,or_true,true_or,or_false,or_self,not_true_eq_false,not_false_eq_true,Bool.false_eq_true,reduceIte];try rfl)
      refine⟨fun q=>?_,fun q=>?_⟩
      ·(refine⟨(⟨_,_,_,_,_,_,_,_,_⟩,_),?_,⟨rfl,rfl,trivial⟩,⟨rfl,rfl,rfl,trivial⟩⟩;dsimp only;refine⟨by omega,?_⟩;rw[enE,← hE];try (simp only[beq_iff_eq,beq_eq_false_iff_ne,bne_iff_ne,bne_eq_false_iff_eq,ne_eq,decide_eq_true_eq,decide_eq_false_iff_not,ge_iff_le,gt_iff_lt] at *);simp only[enQ,enS,mx0, *,ge_iff_le,gt_iff_lt,if_true,if_false,or_true,true_or,or_false,or_self,not_true_eq_false,not_false_eq_true,Bool.false_eq_true,reduceIte];try rfl)
      refine⟨fun q=>?_,fun q=>?_⟩
      ·refine⟨fun q=>?_,fun q=>?_⟩
       ·(refine⟨(⟨_,_,_,_,_,_,_,_,_⟩,_),?_,⟨rfl,rfl,trivial⟩,⟨rfl,rfl,rfl,trivial⟩⟩;dsimp only;refine⟨by omega,?_⟩;rw[enE,← hE];try (simp only[beq_iff_eq,beq_eq_false_iff_ne,bne_iff_ne,bne_eq_false_iff_eq,ne_eq,decide_eq_true_eq,decide_eq_false_iff_not,ge_iff_le,gt_iff_lt] at *);simp only[enQ,enS,mx0, *,ge_iff_le,gt_iff_lt,if_true,if_false,or_true,true_or,or_false,or_self,not_true_eq_false,not_false_eq_true,Bool.false_eq_true,reduceIte];try rfl)
       ·(refine⟨(⟨_,_,_,_,_,_,_,_,_⟩,_),?_,⟨rfl,rfl,trivial⟩,⟨rfl,rfl,rfl,trivial⟩⟩;dsimp only;refine⟨by omega,?_⟩;rw[enE,← hE];try (simp only[beq_iff_eq,beq_eq_false_iff_ne,bne_iff_ne,bne_eq_false_iff_eq,ne_eq,decide_eq_true_eq,decide_eq_false_iff_not,ge_iff_le,gt_iff_lt] at *);simp only[enQ,enS,mx0, *,ge_iff_le,gt_iff_lt,if_true,if_false,or_true,true_or,or_false,or_self,not_true_eq_false,not_false_eq_true,Bool.false_eq_true,reduceIte];try rfl)
      refine⟨0,1,cap,zs,_,CN0,x,c,SN0,y,s,[entV' ⟨2,tk,r3,-1,-1,0,0,0,0⟩],rfl,⟨rfl,rfl⟩,⟨rfl,rfl,rfl,rfl,rfl,rfl,trivial⟩,⟨rfl,rfl,trivial⟩,⟨hz,by omega,by omega⟩,⟨⟨hV,hI⟩,⟨2,tk,r3,-1,-1,0,0,0,0⟩,rfl,⟨hr3.1,by show r3<_;omega⟩,hpl⟩,?_⟩
      rintro _ k9 ⟨⟨a1,a2,a3,a4,a5,a6,a7,a8,a9⟩,en,hnn,rfl,e9,hk9⟩
      cases hnn
      exact⟨k9,⟨en,rfl,(by rw[enE,← hE];try (simp only[beq_iff_eq,beq_eq_false_iff_ne,bne_iff_ne,bne_eq_false_iff_eq,ne_eq,decide_eq_true_eq,decide_eq_false_iff_not,ge_iff_le,gt_iff_lt] at *);simp only[enQ,enS, *,ge_iff_le,gt_iff_lt,if_true,if_false,or_true,true_or,or_false,or_self,not_true_eq_false,not_false_eq_true,Bool.false_eq_true,reduceIte];exact e9),by omega,by omega,by omega⟩,pure_ent en,rfl⟩
     ·rintro⟨⟨ekind,etick,etenant,ecell,eother,eepoch,esince,etill,en⟩,k8⟩ ⟨hk8,hE2⟩
      refine⟨⟨by decide,rfl,rfl⟩,?_⟩
      dsimp only at hk8
      exact⟨k8,⟨⟨_,_,_,_,_,_,_,_,_⟩,rfl,hE2.symm,by omega,by omega,by omega⟩,pure_ent ⟨_,_,_,_,_,_,_,_,_⟩,rfl⟩
def ctEntryX:CT:=ctGen (fun zs c s _=>EntX zs c s) fun c s args k=>(CfgV c∧StInv c s∧k≤880000)∧args=[]
theorem entryXOk:CSound Tryz.prog 96 ctEntryX:=genOk (by kernel_rfl) (by
  rintro c s args k ⟨-,rfl⟩ v hv
  cases hv) (by
 rintro args g A cap zs k x c y s w hz hk0 hk1 ⟨⟨hV,hI,hk2⟩,rfl⟩ ht hc hs
 refine gen_calls entryXFok Tryz.func96 rfl (D:=entryD) (by kernel_rfl) rfl (fun v hv=>by cases hv) g A cap zs k x c y s w ht hc hs (R:=EntX zs c s k) ?_
 exact entryX_sx cap zs k _ c _ s hz ⟨hk0,hk2⟩ hV hI)
/-! make.Log,exactly. -/
def lgS (zs:List Int) (c:Cfg) (q:Int×St×List Ent):Int×St×List Ent:=
 if (applyP c q.2.1 (enE zs c q.2.1 q.1).1).2=0 then ((enE zs c q.2.1 q.1).2,(applyP c q.2.1 (enE zs c q.2.1 q.1).1).1,q.2.2++[(enE zs c q.2.1 q.1).1]) else ((enE zs c q.2.1 q.1).2,q.2.1,q.2.2)
def lgC (zs:List Int) (n:Int) (q:Int×St×List Ent):Prop:=(q.2.2.length:Int)<n∧q.1<zs.length
inductive LgT (zs:List Int) (c:Cfg) (n:Int):Int×St×List Ent→Int×St×List Ent→Prop
 | refl (q):LgT zs c n q q
 | step {q r}:lgC zs n q→LgT zs c n (lgS zs c q) r→LgT zs c n q r
theorem LgT.trans {zs:List Int} {c:Cfg} {n:Int} {p q r:Int×St×List Ent} (h:LgT zs c n p q) (h2:LgT zs c n q r):LgT zs c n p r:=by
 induction h with
 | refl _=>exact h2
 | step hc _ ih=>exact .step hc (ih h2)
theorem LgT.snoc {zs:List Int} {c:Cfg} {n:Int} {p q:Int×St×List Ent} (h:LgT zs c n p q) (hc:lgC zs n q):LgT zs c n p (lgS zs c q):=h.trans (.step hc (.refl _))
theorem LgT.snoc2 {zs:List Int} {c:Cfg} {n:Int} {p:Int×St×List Ent} {k:Int} {s:St} {es:List Ent} (h:LgT zs c n p (k,s,es)) (h1:(es.length:Int)<n) (h2:k<zs.length) {q:Int×St×List Ent} (e:lgS zs c (k,s,es)=q):LgT zs c n p q:=e ▸ h.snoc ⟨h1,h2⟩
theorem LgT.more {zs:List Int} {c:Cfg} {n m:Int} (hnm:n≤m) {p q:Int×St×List Ent} (h:LgT zs c n p q):LgT zs c m p q:=by
 induction h with
 | refl _=>exact .refl _
 | step hc _ ih=>exact .step ⟨by have:=hc.1;omega,hc.2⟩ ih
theorem LgT.meet {zs:List Int} {c:Cfg} {n:Int} {p q r:Int×St×List Ent} (h:LgT zs c n p q) (h2:LgT zs c n p r) (hr:¬ lgC zs n r):LgT zs c n q r:=by
 induction h with
 | refl _=>exact h2
 | step hc _ ih=>
  cases h2 with
  | refl _=>exact absurd hc hr
  | step _ h3=>exact ih h3
theorem Run.app {c:Cfg} {s s' s2:St} {es l:List Ent} (h:Run c s es s') (h2:Run c s' l s2):Run c s (es++l) s2:=by
 induction h with
 | nil _=>exact h2
 | cons he _ ih=>exact .cons he (ih h2)
theorem lgS_run (zs:List Int) (c:Cfg) (q:Int×St×List Ent):∃ es,Run c q.2.1 es (lgS zs c q).2.1:=by
 unfold lgS
 split
 ·rename_i h
  exact⟨[_],.cons (e:=(enE zs c q.2.1 q.1).1) (by rw[← h]) (.nil _)⟩
 ·exact⟨[],.nil _⟩
theorem LgT.run {zs:List Int} {c:Cfg} {n:Int} {p q:Int×St×List Ent} (h:LgT zs c n p q):∃ es,Run c p.2.1 es q.2.1:=by
 induction h with
 | refl q=>exact⟨[],.nil _⟩
 | step hc _ ih=>
  obtain⟨e1,h1⟩:=lgS_run zs c _
  obtain⟨e2,h2⟩:=ih
  exact⟨e1++e2,h1.app h2⟩
theorem lgS_yes {zs:List Int} {c:Cfg} {k k2:Int} {s s2:St} {es:List Ent} {en:Ent} (e:enE zs c s k=(en,k2)) (h:applyP c s en=(s2,0)):lgS zs c (k,s,es)=(k2,s2,es++[en]):=by
 unfold lgS
 dsimp only
 rw[e]
 dsimp only
 rw[h,if_pos rfl]
theorem lgS_no {zs:List Int} {c:Cfg} {k k2:Int} {s:St} {es:List Ent} {en:Ent} (e:enE zs c s k=(en,k2)) (h:¬ (applyP c s en).2=0):lgS zs c (k,s,es)=(k2,s,es):=by
 unfold lgS
 dsimp only
 rw[e]
 dsimp only
 rw[if_neg h]
def StX (zs:List Int) (c:Cfg) (n:Int) (s:St):Prop:=∃ k es,LgT zs c n (0,stNew c,[]) (k,s,es)∧¬ lgC zs n (k,s,es)
theorem StX.run {zs:List Int} {c:Cfg} {n m:Int} (hnm:n≤m) {s t:St} (hs:StX zs c n s) (ht:StX zs c m t):∃ es,Run c s es t:=by
 obtain⟨k,es,h1,-⟩:=hs
 obtain⟨k2,es2,h2,h3⟩:=ht
 exact ((h1.more hnm).meet h2 h3).run
def lgXF:FT:=[(37,ctTapeNew),(93,ctNewR),(95,ctMoreX),(96,ctEntryX),(94,ctApplyR)]
theorem lgXFok:FTok Tryz.prog lgXF:=ft_cons tapeNewOk (ft_cons newROk (ft_cons moreXOk (ft_cons entryXOk (ft_cons applyROk ft_nil))))
def lgXD:List (Nat×DQ):=[(3000004,{ k:=21,L:=[0,1,2,3,4,5,6,7,8,9,10,11,12,13],sl:=[2,4,7,8] })]
set_option maxRecDepth 100000 in
set_option maxHeartbeats 8000000 in
theorem logX_sx (d:UD) (x:CfgK) (cap0:Nat) (n:Int) (hV:CfgV d.c) (hz:d.l0.length≤400) (hn:0≤n∧n≤1000) :
  sx tt lgXF lgXD (bodyOf Tryz.f65) (argF 0 [slc 0 d.l0.length cap0,cfgV CNu x d.c,.int .i64 n]) (uniM d) 13 (endx tt Tryz.f65.results.toList fun v mem' _=>∃ es s,(Run d.c (stNew d.c) es s∧∃ k,LgT d.l0 d.c n (0,stNew d.c,[]) (k,s,es)∧¬ lgC d.l0 n (k,s,es))∧(es.length:Int)≤n∧SlR mem' 9 entC default es v∧LenCap es.length v):=by
 have hnt:=hV.nt
 have hnc:=hV.nc
 refine⟨0,cap0,d.l0,rfl,rfl,by omega,?_⟩
 refine⟨CNu,x,d.c,rfl,kp_,⟨by omega,by omega,by omega⟩,?_⟩
 intro y0
 refine⟨St×StK×Int×List Ent×Option (Nat×(Nat→List Value)),fun q=>match q with | (s,y,k,es,none)=>[(9,zs0)] | (s,y,k,es,some (cap,el))=>[(9,slc 20 es.length cap)],fun q=>match q with | (s,y,k,es,none)=>[(14,tapeB 0 d.l0.length cap0 k),(17,.box 53 [.int .i64 s.tick,.int .i64 s.count,slc 18 s.tenants.length y.ct,slc 19 s.cells.length y.cc,.int .i64 s.proven,.int .i64 s.evac,.int .i64 s.low,.int .i64 s.high]),(18,rowOfL 500000 12 tsC default s.tenants),(19,rowOfL 500000 4 csC default s.cells)] | (s,y,k,es,some (cap,el))=>(20,.row (1000000+56) 9 cap el)::[(14,tapeB 0 d.l0.length cap0 k),(17,.box 53 [.int .i64 s.tick,.int .i64 s.count,slc 18 s.tenants.length y.ct,slc 19 s.cells.length y.cc,.int .i64 s.proven,.int .i64 s.evac,.int .i64 s.low,.int .i64 s.high]),(18,rowOfL 500000 12 tsC default s.tenants),(19,rowOfL 500000 4 csC default s.cells)],fun q=>match q with | (s,y,k,es,o)=>(Run d.c (stNew d.c) es s∧LgT d.l0 d.c n (0,stNew d.c,[]) (k,s,es))∧(0≤k∧k≤445)∧(es.length:Int)≤n∧match o with | none=>es=[] | some (cap,el)=>es.length≤cap∧∀ j,j<es.length→el j=entC (es.getD j default),fun q=>match q with | (s,y,k,es,o)=>(1000-k).toNat,⟨(stNew d.c,y0,0,[],none),[(18,16),(19,15)],⟨⟨.nil _,.refl _⟩,by omega,by simpa using hn.1,rfl⟩,⟨rfl,rfl⟩,kp_,kp_⟩,?_⟩
 rintro⟨s,y,k,es,(_ | ⟨cap,el⟩)⟩ ⟨hR,hk,hn2,ho⟩
 ·refine⟨⟨by decide,rfl,rfl⟩,?_⟩
  refine⟨fun hc=>?_,fun hc=>?_⟩
  ·refine⟨14,0,cap0,d.l0,_,[],rfl,⟨rfl,rfl⟩,⟨by omega,by omega,by omega⟩,rfl,?_⟩
   rintro _ k1 ⟨b1,rfl,rfl,hb1⟩
   refine⟨fun hb=>?_,fun hb=>?_⟩
   ·have hkl:k1<d.l0.length:=of_decide_eq_true (hb1.trans hb)
    have hlen:(es.length:Int)<n:=by rw[show es=[] from ho];exact of_decide_eq_true hc
    clear hb1
    have hI:=(hR.1.rinv hV (.new hV)).inv
    have hcp:=(hR.1.rinv hV (.new hV)).cap
    refine⟨14,0,cap0,d.l0,_,CNu,x,d.c,⟨18,19,500000⟩,y,s,[],rfl,⟨rfl,rfl⟩,kp_,kp_,⟨by omega,by omega,by omega⟩,⟨⟨hV,hI,by omega⟩,rfl⟩,?_⟩
    rintro _ k2 ⟨en,rfl,een,hk2a,hk2b,hk2c⟩
    refine⟨CNu,x,d.c,⟨18,19,500000⟩,y,s,en,rfl,⟨kp_,.list rfl,.list rfl⟩,⟨hV,hI⟩,?_⟩
    intro y2
    rw[applyRP hV hI hcp]
    refine⟨fun he=>?_,fun he=>?_⟩
    ·have he2:applyP d.c s en=((applyP d.c s en).1,0):=by
      have q:(applyP d.c s en).2=0:=by simpa using he
      rw[← q]
     have he0:es=[]:=ho
     subst he0
     refine⟨⟨Nat.le_refl _,fun j hj=>by match j,hj with | 0,_=>rfl⟩,?_⟩
     refine⟨fun h=>absurd h (by decide),fun _=>⟨by decide,fun cap2 el2 hc2 hel2=>?_⟩⟩
     refine⟨((applyP d.c s en).1,y2,k2,[en],some (cap2,el2)),[(18,23),(19,22),(20,26)],?_,⟨rfl,rfl⟩,kp_,kp_⟩
     dsimp only
     refine⟨⟨⟨hR.1.snoc he2,hR.2.snoc2 (by omega) hkl (lgS_yes een he2)⟩,by omega,by simp;omega,hc2,fun j hj=>?_⟩,by omega⟩
     obtain rfl:j=0:=by simpa using hj
     exact hel2 0 (by omega)
    ·refine⟨(s,y,k2,es,none),[],?_,⟨rfl,rfl⟩,kp_,kp_⟩
     dsimp only
     exact⟨⟨⟨hR.1,hR.2.snoc2 (by omega) hkl (lgS_no een (by simpa using he))⟩,by omega,hn2,ho⟩,by omega⟩
   ·exact⟨es,s,⟨hR.1,_,hR.2,(fun h=>absurd (hb1.symm.trans (decide_eq_true h.2)) (by rw[hb];decide))⟩,hn2,.inl ⟨rfl,ho⟩,none,0,0,rfl,(by rw[ho];decide)⟩
  ·refine⟨fun h=>Bool.noConfusion h,fun _=>?_⟩
   exact⟨es,s,⟨hR.1,_,hR.2,(fun h=>by have h1:=h.1;have hc2:=of_decide_eq_false hc;rw[show es=[] from ho] at h1;dsimp only at h1;omega)⟩,hn2,.inl ⟨rfl,ho⟩,none,0,0,rfl,(by rw[ho];decide)⟩
 ·refine⟨⟨by decide,rfl,rfl⟩,?_⟩
  refine⟨fun hc=>?_,fun hc=>?_⟩
  ·refine⟨14,0,cap0,d.l0,_,[],rfl,⟨rfl,rfl⟩,⟨by omega,by omega,by omega⟩,rfl,?_⟩
   rintro _ k1 ⟨b1,rfl,rfl,hb1⟩
   refine⟨fun hb=>?_,fun hb=>?_⟩
   ·have hkl:k1<d.l0.length:=of_decide_eq_true (hb1.trans hb)
    have hlen:(es.length:Int)<n:=of_decide_eq_true hc
    clear hb1
    have hI:=(hR.1.rinv hV (.new hV)).inv
    have hcp:=(hR.1.rinv hV (.new hV)).cap
    refine⟨14,0,cap0,d.l0,_,CNu,x,d.c,⟨18,19,500000⟩,y,s,[],rfl,⟨rfl,rfl⟩,kp_,kp_,⟨by omega,by omega,by omega⟩,⟨⟨hV,hI,by omega⟩,rfl⟩,?_⟩
    rintro _ k2 ⟨en,rfl,een,hk2a,hk2b,hk2c⟩
    refine⟨CNu,x,d.c,⟨18,19,500000⟩,y,s,en,rfl,⟨kp_,.list rfl,.list rfl⟩,⟨hV,hI⟩,?_⟩
    intro y2
    rw[applyRP hV hI hcp]
    refine⟨fun he=>?_,fun he=>?_⟩
    ·have he2:applyP d.c s en=((applyP d.c s en).1,0):=by
      have q:(applyP d.c s en).2=0:=by simpa using he
      rw[← q]
     refine⟨⟨Nat.le_refl _,fun j hj=>by match j,hj with | 0,_=>rfl⟩,?_⟩
     refine⟨⟨rfl,ho.1⟩,fun hin el2 g1 g2=>?_,fun hgt=>⟨by show (es.length+1) * 72≤140737488355328;omega,fun cap2 el2 hc2 g1 g2=>?_⟩⟩
     ·rw[show es.length+1=(es++[en]).length by simp]
      refine⟨((applyP d.c s en).1,y2,k2,es++[en],some (cap,el2)),[(18,23),(19,22)],?_,⟨rfl,rfl⟩,kp_,kp_⟩
      dsimp only
      refine⟨⟨⟨hR.1.snoc he2,hR.2.snoc2 (by omega) hkl (lgS_yes een he2)⟩,by omega,by simp;omega,by first | exact hc2 | (simp;omega),fun j hj=>?_⟩,by omega⟩
      by_cases hjn:j<es.length
      ·rw[g1 j hjn,ho.2 j hjn,List.getD_eq_getElem?_getD,List.getD_eq_getElem?_getD,List.getElem?_append_left hjn]
      ·obtain rfl:j=es.length:=by simp at hj;omega
       have:=g2 0 (by omega)
       rw[Nat.add_zero] at this
       rw[this,List.getD_eq_getElem?_getD,List.getElem?_append_right (Nat.le_refl _),Nat.sub_self]
       rfl
     ·rw[show es.length+1=(es++[en]).length by simp] at hc2 ⊢
      refine⟨((applyP d.c s en).1,y2,k2,es++[en],some (cap2,el2)),[(18,23),(19,22),(20,26)],?_,⟨rfl,rfl⟩,kp_,kp_⟩
      dsimp only
      refine⟨⟨⟨hR.1.snoc he2,hR.2.snoc2 (by omega) hkl (lgS_yes een he2)⟩,by omega,by simp;omega,by first | exact hc2 | (simp;omega),fun j hj=>?_⟩,by omega⟩
      by_cases hjn:j<es.length
      ·rw[g1 j hjn,ho.2 j hjn,List.getD_eq_getElem?_getD,List.getD_eq_getElem?_getD,List.getElem?_append_left hjn]
      ·obtain rfl:j=es.length:=by simp at hj;omega
       have:=g2 0 (by omega)
       rw[Nat.add_zero] at this
       rw[this,List.getD_eq_getElem?_getD,List.getElem?_append_right (Nat.le_refl _),Nat.sub_self]
       rfl
    ·refine⟨(s,y,k2,es,some (cap,el)),[],?_,⟨rfl,rfl⟩,kp_,kp_⟩
     dsimp only
     exact⟨⟨⟨hR.1,hR.2.snoc2 (by omega) hkl (lgS_no een (by simpa using he))⟩,by omega,hn2,ho⟩,by omega⟩
   ·exact⟨es,s,⟨hR.1,_,hR.2,(fun h=>absurd (hb1.symm.trans (decide_eq_true h.2)) (by rw[hb];decide))⟩,hn2,.inr ⟨20,_,_,cap,el,rfl,rfl,rfl,ho.1,ho.2⟩,_,_,cap,rfl,ho.1⟩
  ·refine⟨fun h=>Bool.noConfusion h,fun _=>?_⟩
   exact⟨es,s,⟨hR.1,_,hR.2,(fun h=>by have h1:=h.1;have hc2:=of_decide_eq_false hc;dsimp only at h1;omega)⟩,hn2,.inr ⟨20,_,_,cap,el,rfl,rfl,rfl,ho.1,ho.2⟩,_,_,cap,rfl,ho.1⟩
theorem mkLogX_calls (x:CfgA) (c:Cfg) (A0:Option Addr) (cap0:Nat) (l:List Int) (n:Int) (w:World) (hV:CfgV c) (hz:l.length≤400) (hn:0≤n∧n≤1000) (hc:CfgOk w (·<w.heap.size) x c) (hr:Rd w (·<w.heap.size) A0 (flat intC l)) :
  Calls Tryz.prog 65 #[.slice A0 l.length cap0,.agg (cfgC x c),.int .i64 n] w fun e w'=>∃ es s A cap,e=.returned (.slice A (es:List Ent).length cap)∧(Run c (stNew c) es s∧∃ k,LgT l c n (0,stNew c,[]) (k,s,es)∧¬ lgC l n (k,s,es))∧(es.length:Int)≤n∧es.length≤cap∧Rd w' (fun b=>w.heap.size≤b∧b<w'.heap.size) A (flat entC es)∧Below w.heap.size w w':=by
 have:=uni_calls ttOk (lgXFok.i _) Tryz.func65 rfl (D:=lgXD) (by kernel_rfl) (vs:=[slc 0 l.length cap0,cfgV CNu (ck x) c,.int .i64 n]) rfl { a0:=A0,x:=x } { l0:=l,c:=c } w { r0:=hr,c:=hc } (fun v hv=>by
  simp only[List.mem_cons,List.not_mem_nil,or_false] at hv
  rcases hv with rfl | rfl | rfl
  ·exact⟨show (0:Nat)<13 by decide,rfl⟩
  ·exact upl_cfg_ok { a0:=A0,x:=x } { l0:=l,c:=c }
  ·trivial) (logX_sx { l0:=l,c:=c } (ck x) cap0 n hV hz hn)
 rw[List.map_cons,List.map_cons] at this
 have e0:=upl_cfg { a0:=A0,x:=x } { l0:=l,c:=c }
 dsimp only at e0 this
 rw[e0] at this
 refine this.mono ?_
 rintro e w' ⟨v,mem',nx',ρ',rfl,⟨es,s,hR,hen,hS,A1,m1,cap1,rfl,hcap⟩,hv,hm',hb⟩
 obtain⟨A,cp,e1,hr'⟩:=hm'.slR (enc:=entC) (sz:=9) (fun _=>rfl) (by omega) hS
 have e2:den ρ' (.slice A1 m1 cap1)=.slice A es.length cp:=e1
 have e3:cap1=cp:=by cases A1<;>simp[den1] at e1<;>exact e1.2.2
 exact⟨es,s,A,cp,by rw[e2],hR,hen,e3 ▸ hcap,hr',hb⟩
def ctLogX:CT:=fun vs mem nx K=>∃ N x c r cap l n,vs=[slc r (l:List Int).length cap,cfgV N x c,.int .i64 n]∧(keeps mem (cfgM N c)∧HasRow mem r 1 intC 0 l)∧(CfgV c∧l.length≤400∧0≤n∧n≤1000)∧∀ es s cap',(Run c (stNew c) es s∧∃ k,LgT l c n (0,stNew c,[]) (k,s,es)∧¬ lgC l n (k,s,es))→(es.length:Int)≤n→es.length≤cap'→K (slc nx es.length cap') ((nx,rowOfL 500000 9 entC default es)::mem) (nx+1)
theorem logXOk:CSound Tryz.prog 65 ctLogX:=⟨by kernel_rfl,fun {C ρ fr mem nx a w vs K} hc hs hv=>by
 obtain⟨N,x,c,r,cap,l,n,rfl,⟨hk,hr⟩,⟨hV,hl,hn⟩,hK⟩:=hc
 have e0:([slc r l.length cap,cfgV N x c,.int .i64 n].map (den ρ)).toArray=#[.slice (ρ r).A l.length cap,.agg (cfgC (cfgX ρ N x) c),.int .i64 n]:=by
  rw[List.map_cons,List.map_cons,den_cfg]
  rfl
 rw[e0]
 refine (mkLogX_calls (cfgX ρ N x) c (ρ r).A cap l n w hV hl hn (hs.cfg hk (fun b h _=>h)) (hs.hasRd (enc:=intC) (sz:=1) (fun _=>rfl) (by omega) hr)).mono ?_
 rintro e w' ⟨es,s,A,cp,rfl,hR,hen,hcp,hrd,hb⟩
 obtain⟨q1,-⟩:=(hs.later hb).addList hs.frB hs.rest.size (enc:=entC) (sz:=9) (fun _=>rfl) (by omega) entC_plain default (t:=500000) rfl hrd
 have q2:setPl ρ nx ⟨A,9,es.length,false,noSub⟩ nx=⟨A,9,es.length,false,noSub⟩:=setPl_same _ _ _
 refine⟨slc nx es.length cp,_,_,_,?_,hK es s cp hR hen hcp,q1,?_,fun i hi=>setPl_lt _ _ hi,by omega⟩
 ·show Ending.returned (.slice A es.length cp)=.returned (.slice (setPl ρ nx ⟨A,9,es.length,false,noSub⟩ nx).A es.length cp)
  rw[q2]
 ·exact⟨show nx<nx+1 by omega,by rw[q2]⟩⟩
end Go.Proofs.YtchhdflealgkaaaGreat
