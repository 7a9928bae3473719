import Derived.Test.YtjnndjnpcelafaaGreatPt20
namespace Go.Proofs.YtjnndjnpcelafaaGreat
set_option maxHeartbeats 16000000
set_option maxRecDepth 100000
open Go.RowKit
set_option linter.unusedSimpArgs false
set_option linter.unusedVariables false
/-! The control plane of one replica: its class,New. -/
structure PSt where
 c:Cfg
 q:QSt
 s:St
structure PY where
 S:List Nat
 x:CfgK
 y:StK
def PN:CN:={ z:=2,c:=3,t:=4,v:=5,r:=6,o:=7,g:=0 }
def PS:SN:={ t:=9,c:=8,g:=0 }
structure CR where
 nz:Nat
 ez:Nat->List Value
 nc:Nat
 ec:Nat->List Value
 nt:Nat
 et:Nat->List Value
 nv:Nat
 ev:Nat->List Value
 nr:Nat
 er:Nat->List Value
 no:Nat
 eo:Nat->List Value
structure CROk (g:Cfg) (R:CR):Prop where
 z:g.zones.length<=R.nz/\∀ k,k<g.zones.length->R.ez k=zaw (g.zones.getD k 0)
 c:g.cells.length<=R.nc/\∀ k,k<g.cells.length->R.ec k=zaI (g.cells.getD k (0,0))
 t:g.tenants.length<=R.nt/\∀ k,k<g.tenants.length->R.et k=zd8 (g.tenants.getD k default)
 v:g.versions.length<=R.nv/\∀ k,k<g.versions.length->R.ev k=zaI (g.versions.getD k (0,0))
 r:g.replicas.length<=R.nr/\∀ k,k<g.replicas.length->R.er k=zaw (g.replicas.getD k 0)
 o:g.observers.length<=R.no/\∀ k,k<g.observers.length->R.eo k=zaw (g.observers.getD k 0)
def EN:CN:={ z:=0,c:=1,t:=2,v:=3,r:=4,o:=5,g:=0 }
abbrev crM (R:CR):AM:=[(0,.row 0 1 R.nz R.ez),(1,.row 0 2 R.nc R.ec),(2,.row 0 7 R.nt R.et),(3,.row 0 2 R.nv R.ev),(4,.row 0 1 R.nr R.er),(5,.row 0 1 R.no R.eo)]
structure CfgP (c:Cfg):Prop where
 ok:zdn c=0
 lens:Lens c
 rep:c.replicas.length=1
 obs:c.observers.length<=100
def pI (p:PSt) (_:PY):Prop:=CfgP p.c/\(StInv p.c p.s/\p.s.count=p.q.es.length)/\(p.q.n=1/\p.q.ph=0/\(p.q.led=false->p.q.es=[]))
abbrev cfgCells (n:CN) (x:CfgK) (c:Cfg):List Value:=[.int .i64 c.regions,slc n.z c.zones.length x.cz,slc n.c c.cells.length x.cc,slc n.t c.tenants.length x.ct,slc n.v c.versions.length x.cv,slc n.r c.replicas.length x.cr,slc n.o c.observers.length x.co,.int .i64 c.blast,.int .i64 c.lease,.int .i64 c.bake]
abbrev stCells (n:SN) (y:StK) (s:St):List Value:=[.int .i64 s.tick,.int .i64 s.count,slc n.t s.tenants.length y.ct,slc n.c s.cells.length y.cc,.int .i64 s.proven,.int .i64 s.evac,.int .i64 s.low,.int .i64 s.high]
def ownCfg (n:CN) (c:Cfg):AM:=[(n.z,zaz (1000000+93) 1 zaw 0 c.zones),(n.c,zaz (1000000+95) 2 zaI (0,0) c.cells),(n.t,zaz (1000000+98) 7 zd8 default c.tenants),(n.v,zaz (1000000+100) 2 zaI (0,0) c.versions),(n.r,zaz (1000000+3) 1 zaw 0 c.replicas),(n.o,zaz (1000000+3) 1 zaw 0 c.observers)]
def pM (p:PSt) (y:PY):AM:=(0,.box 111 (cfgCells PN y.x p.c++[.pointer (some ⟨1,0,none⟩),.int .i64 1]++stCells PS y.y p.s))::(1,qO y.S p.q)::(ownCfg PN p.c++stMO PS p.s)
theorem pB (p:PSt) (y:PY) (_:pI p y):zln 10 (pM p y)=true:=rfl
abbrev pO (S:List Nat) (p:PSt):ABlk:=.ext (.obj S (zkF (pI p) (pM p) 10))
structure PX where
 c:Cfg
 x:CfgK
 R:CR
abbrev pNF:FT:=[(107,ctTenV),(108,ctQNew1),(9,ctNewO),(167,ctOZone),(168,ctOCell),(169,ctOTen),(170,ctOVer),(171,ctOInt)]
abbrev ctClonedI:CT:=zat ttP pNF [] Tryz.f109 (za1 Tryz.f109)
theorem pNFok {I:List Nat}:zaY Tryz.prog pNF I:=za0 (tenVOk.i _) (za0 (qNew1Ok.i _) (za0 (newOOk.i _) (za0 (oZoneOk.i _) (za0 (oCellOk.i _) (za0 (oTenOk.i _) (za0 (oVerOk.i _) (za0 (oIntOk.i _) za3)))))))
theorem zkD {I:List Nat} (h:I.contains 109=true):zab Tryz.prog I 109 ctClonedI:=zad zaT (D:=[]) pNFok mixed k_ Tryz.func109 rfl k_ h
abbrev pNF2:FT:=(109,ctClonedI)::pNF
abbrev pND:List (Nat×DQ):=[(9000000,{ k:=0,L:=[109] }),(8,{ k:=9,L:=[6],pre:=[(0,false),(1,false),(2,false),(3,false),(4,false),(5,false),(6,false),(7,false),(8,true)] })]
def pNpre (x:PX):Prop:=CfgP x.c/\CROk x.c x.R
def pNpost (x:PX) (_:Unit) (p:PSt):Prop:=p=⟨x.c,⟨1,0,false,[]⟩,zaB x.c⟩
def ctPNew:CT:=zgC (X:=PX) (R:=Unit) pI pM 10 6 (fun x=>[zaX EN x.x x.c]) (fun x=>crM x.R) pNpre pNpost (fun _ _=>.tuple #[.pointer (some ⟨6,0,none⟩),.int .i64 0])
theorem pNew_sx (x:PX) (hx:pNpre x):sx ttP pNF2 pND (za1 Tryz.f43) (zb3 0 [zaX EN x.x x.c]) (crM x.R) 6 (zb8 ttP Tryz.f43.results.toList (zkL (X:=PX) (R:=Unit) pI pM 6 pNpost (fun _ _=>.tuple #[.pointer (some ⟨6,0,none⟩),.int .i64 0]) x)):=by
 obtain⟨c,x,R⟩:=x;obtain⟨⟨hok,hL,hrep,hobs⟩,hR⟩:=hx;dsimp only at hok hL hrep hobs hR;have hV:=zg3 hok;have hV1:=hV.nz;have hV2:=hV.nc;have hV3:=hV.nt;have hV4:=hV.nv;repeat (first | refine⟨fun _=>?_,bt_⟩ | refine⟨bf_,fun _=>?_⟩ | refine⟨⟨na_,nb_,nb_⟩,?_⟩ | refine⟨fun q=>absurd q nc_,fun _=>?_⟩ | refine⟨fun _=>?_,fun q=>absurd q s_⟩ | refine⟨fun q=>absurd q s_,fun _=>?_⟩ | refine⟨⟨d_,d_,d_⟩,?_⟩)
 refine⟨EN,x,c,rfl,⟨⟨_,_,_,rfl,hR.z.1,hR.z.2⟩,⟨_,_,_,rfl,hR.c.1,hR.c.2⟩,⟨_,_,_,rfl,hR.t.1,hR.t.2⟩,⟨_,_,_,rfl,hR.v.1,hR.v.2⟩,⟨_,_,_,rfl,hR.r.1,hR.r.2⟩,⟨_,_,_,rfl,hR.o.1,hR.o.2⟩⟩,hL,?_⟩;rw[hok];repeat (first | refine⟨fun _=>?_,bt_⟩ | refine⟨bf_,fun _=>?_⟩ | refine⟨⟨na_,nb_,nb_⟩,?_⟩ | refine⟨fun q=>absurd q nc_,fun _=>?_⟩ | refine⟨fun _=>?_,fun q=>absurd q s_⟩ | refine⟨fun q=>absurd q s_,fun _=>?_⟩ | refine⟨⟨d_,d_,d_⟩,?_⟩)
 refine⟨(),[],trivial,?_,trivial,rfl,fun _ q1 S1 hq1=>?_⟩
 ·show [Value.int .i64 c.replicas.length]=_;rw[hrep];rfl
 obtain rfl:=(show q1=⟨1,0,false,[]⟩ from hq1);repeat (first | refine⟨fun _=>?_,bt_⟩ | refine⟨bf_,fun _=>?_⟩ | refine⟨⟨na_,nb_,nb_⟩,?_⟩ | refine⟨fun q=>absurd q nc_,fun _=>?_⟩ | refine⟨fun _=>?_,fun q=>absurd q s_⟩ | refine⟨fun q=>absurd q s_,fun _=>?_⟩ | refine⟨⟨d_,d_,d_⟩,?_⟩)
 refine⟨_,_,c.zones,rfl,⟨_,_,_,rfl,hR.z.1,hR.z.2⟩,o_,fun cpz=>?_⟩;repeat (first | refine⟨fun _=>?_,bt_⟩ | refine⟨bf_,fun _=>?_⟩ | refine⟨⟨na_,nb_,nb_⟩,?_⟩ | refine⟨fun q=>absurd q nc_,fun _=>?_⟩ | refine⟨fun _=>?_,fun q=>absurd q s_⟩ | refine⟨fun q=>absurd q s_,fun _=>?_⟩ | refine⟨⟨d_,d_,d_⟩,?_⟩)
 refine⟨_,_,c.cells,rfl,⟨_,_,_,rfl,hR.c.1,hR.c.2⟩,o_,fun cpc=>?_⟩;repeat (first | refine⟨fun _=>?_,bt_⟩ | refine⟨bf_,fun _=>?_⟩ | refine⟨⟨na_,nb_,nb_⟩,?_⟩ | refine⟨fun q=>absurd q nc_,fun _=>?_⟩ | refine⟨fun _=>?_,fun q=>absurd q s_⟩ | refine⟨fun q=>absurd q s_,fun _=>?_⟩ | refine⟨⟨d_,d_,d_⟩,?_⟩)
 refine⟨_,_,c.tenants,rfl,⟨_,_,_,rfl,hR.t.1,hR.t.2⟩,o_,fun cpt=>?_⟩;repeat (first | refine⟨fun _=>?_,bt_⟩ | refine⟨bf_,fun _=>?_⟩ | refine⟨⟨na_,nb_,nb_⟩,?_⟩ | refine⟨fun q=>absurd q nc_,fun _=>?_⟩ | refine⟨fun _=>?_,fun q=>absurd q s_⟩ | refine⟨fun q=>absurd q s_,fun _=>?_⟩ | refine⟨⟨d_,d_,d_⟩,?_⟩)
 refine⟨_,_,c.versions,rfl,⟨_,_,_,rfl,hR.v.1,hR.v.2⟩,o_,fun cpv=>?_⟩;repeat (first | refine⟨fun _=>?_,bt_⟩ | refine⟨bf_,fun _=>?_⟩ | refine⟨⟨na_,nb_,nb_⟩,?_⟩ | refine⟨fun q=>absurd q nc_,fun _=>?_⟩ | refine⟨fun _=>?_,fun q=>absurd q s_⟩ | refine⟨fun q=>absurd q s_,fun _=>?_⟩ | refine⟨⟨d_,d_,d_⟩,?_⟩)
 refine⟨_,_,c.replicas,rfl,⟨_,_,_,rfl,hR.r.1,hR.r.2⟩,o_,fun cpr=>?_⟩;repeat (first | refine⟨fun _=>?_,bt_⟩ | refine⟨bf_,fun _=>?_⟩ | refine⟨⟨na_,nb_,nb_⟩,?_⟩ | refine⟨fun q=>absurd q nc_,fun _=>?_⟩ | refine⟨fun _=>?_,fun q=>absurd q s_⟩ | refine⟨fun q=>absurd q s_,fun _=>?_⟩ | refine⟨⟨d_,d_,d_⟩,?_⟩)
 refine⟨_,_,c.observers,rfl,⟨_,_,_,rfl,hR.o.1,hR.o.2⟩,hobs,fun cpo=>?_⟩;refine⟨o_,?_⟩;repeat (first | refine⟨fun _=>?_,bt_⟩ | refine⟨bf_,fun _=>?_⟩ | refine⟨⟨na_,nb_,nb_⟩,?_⟩ | refine⟨fun q=>absurd q nc_,fun _=>?_⟩ | refine⟨fun _=>?_,fun q=>absurd q s_⟩ | refine⟨fun q=>absurd q s_,fun _=>?_⟩ | refine⟨⟨d_,d_,d_⟩,?_⟩)
 refine⟨{ z:=10,c:=11,t:=12,v:=13,r:=14,o:=15,g:=0 },⟨cpz,cpc,cpt,cpv,cpr,cpo⟩,c,rfl,⟨⟨_,_,_,rfl,nl_,fun k hk=>rfl⟩,⟨_,_,_,rfl,nl_,fun k hk=>rfl⟩,⟨_,_,_,rfl,nl_,fun k hk=>rfl⟩,⟨_,_,_,rfl,nl_,fun k hk=>rfl⟩,⟨_,_,_,rfl,nl_,fun k hk=>rfl⟩,⟨_,_,_,rfl,nl_,fun k hk=>rfl⟩⟩,⟨o_,o_⟩,fun y=>?_⟩;refine⟨kp_,?_⟩;repeat (first | refine⟨fun _=>?_,bt_⟩ | refine⟨bf_,fun _=>?_⟩ | refine⟨⟨na_,nb_,nb_⟩,?_⟩ | refine⟨fun q=>absurd q nc_,fun _=>?_⟩ | refine⟨fun _=>?_,fun q=>absurd q s_⟩ | refine⟨fun q=>absurd q s_,fun _=>?_⟩ | refine⟨⟨d_,d_,d_⟩,?_⟩)
 conv=>whnf
 have hsh:IntKind.i64.wrap (IntKind.i64.wrap (1 * 2 ^ min ((c.replicas.length:Int)).toNat IntKind.i64.bits)-1)=1:=by rw[hrep];decide
 rw[hsh];exact⟨(),⟨c,⟨1,0,false,[]⟩,zaB c⟩,⟨S1,⟨cpz,cpc,cpt,cpv,cpr,cpo⟩,y⟩,[(0,18),(1,7),(2,10),(3,11),(4,12),(5,13),(6,14),(7,15),(8,16),(9,17)],rfl,⟨⟨hok,hL,hrep,hobs⟩,⟨zfD hV,rfl⟩,rfl,rfl,fun _=>rfl⟩,rfl,rfl,kp_⟩
theorem pNewOk:CSound Tryz.prog 43 ctPNew:=zfS zaT (D:=pND) (za0 (zkD d_) pNFok) mixed k_ Tryz.func43 rfl k_ (fun _=>rfl) pB (fun _=>rfl) (fun _ _=>rfl) (fun x hx=>pNew_sx x hx)
/-! plane.Propose of an entry that is accepted. -/
theorem zle {c:Cfg} {s:St} {e:Ent} (h:(zao c s e).2=0):zao c s e=(zae s e,0)/\zas c s e=0:=by
 unfold zao at h ⊢;split at h
 ·rename_i h1
  exact absurd h h1
 ·rename_i h1
  split at h
  ·exact absurd h d_
  ·rename_i h2
   exact⟨by rw[if_neg h1,if_neg h2],Classical.not_not.1 h1⟩
theorem zi8 {s:St} {e:Ent}:(zae s e).count=s.count+1:=by
 unfold zae;dsimp only;repeat' split
 all_goals rfl
abbrev ctOnes64:CT:=zat ttP [] [] Tryz.f173 (za1 Tryz.f173)
theorem ones64ok {I:List Nat} (h:I.contains 173=true):zab Tryz.prog I 173 ctOnes64:=zad zaT (D:=[]) za3 mixed k_ Tryz.func173 rfl k_ h
abbrev onD:List (Nat×DQ):=[(9000000,{ k:=0,L:=[173] })]
abbrev ctOnes:CT:=zat ttP [(173,ctOnes64)] onD Tryz.f111 (za1 Tryz.f111)
theorem onesOk {I:List Nat} (h:I.contains 111=true):zab Tryz.prog I 111 ctOnes:=zad zaT (D:=onD) (za0 (ones64ok d_) za3) mixed k_ Tryz.func111 rfl k_ h
abbrev rdyD:List (Nat×DQ):=[(9000000,{ k:=0,L:=[111] }),(1,{ k:=13,L:=[0],pre:=[(0,false),(1,false),(2,false),(3,false),(4,false),(7,false),(8,false),(9,false),(10,false),(11,false),(12,false),(5,true),(6,false)] })]
abbrev ctRdyI:CT:=zat ttP [(111,ctOnes)] rdyD Tryz.f47 (za1 Tryz.f47)
theorem rdyIok {I:List Nat} (h:I.contains 47=true):zab Tryz.prog I 47 ctRdyI:=zad zaT (D:=rdyD) (za0 (onesOk d_) za3) mixed k_ Tryz.func47 rfl k_ h
abbrev ctUpI:CT:=zat ttP [] [] Tryz.f113 (za1 Tryz.f113)
theorem upIok {I:List Nat} (h:I.contains 113=true):zab Tryz.prog I 113 ctUpI:=zad zaT (D:=[]) za3 mixed k_ Tryz.func113 rfl k_ h
abbrev beF:FT:=[(113,ctUpI),(187,ctQLog0)]
abbrev beD:List (Nat×DQ):=[(9000000,{ k:=0,L:=[113] }),(6000003,{ k:=2,L:=[] })]
abbrev ctBestI:CT:=zat ttP beF beD Tryz.f117 (za1 Tryz.f117)
theorem bestIok {I:List Nat} (h:I.contains 117=true):zab Tryz.prog I 117 ctBestI:=zad zaT (D:=beD) (za0 (upIok d_) (za0 (qLog0Ok.i _) za3)) mixed k_ Tryz.func117 rfl k_ h
abbrev cmF:FT:=[(113,ctUpI),(117,ctBestI),(112,ctQLeader),(114,ctQDo),(115,ctQFlush1),(116,ctQCommit)]
abbrev cmD:List (Nat×DQ):=[(9000000,{ k:=0,L:=[113,117] }),(6000002,{ k:=4,L:=[] }),
 (4,{ k:=11,L:=[0,14],pre:=[(0,false),(1,false),(2,true),(3,false),(4,false),(5,false),(6,false),(7,false),(8,false),(9,false),(10,false)] }),
 (5,{ k:=8,L:=[0],pre:=[(0,false),(1,false),(2,false),(3,false),(4,false),(5,false),(6,false),(7,false)] }),
 (6,{ k:=11,L:=[0],pre:=[(0,false),(1,false),(2,false),(3,false),(4,false),(6,false),(7,false),(8,false),(9,false),(10,false),(5,true)] }),
 (7,{ k:=7,L:=[0],pre:=[(0,false),(1,false),(2,false),(3,false),(4,false),(5,true),(6,false)] }),
 (8,{ k:=8,L:=[0],pre:=[(0,false),(1,false),(2,false),(3,false),(4,false),(5,false),(6,false),(7,false)] })]
abbrev ctCommitI:CT:=zat ttP cmF cmD Tryz.f48 (za1 Tryz.f48)
theorem znf {I:List Nat} (h:I.contains 48=true):zab Tryz.prog I 48 ctCommitI:=zad zaT (D:=cmD) (za0 (upIok d_) (za0 (bestIok d_) (za0 (zmh.i _) (za0 (qDoOk.i _) (za0 (zmi.i _) (za0 (zmk.i _) za3)))))) mixed k_ Tryz.func48 rfl k_ h
abbrev ppF:FT:=[(47,ctRdyI),(48,ctCommitI),(10,ctApplyOH)]
abbrev ppD:List (Nat×DQ):=[(9000000,{ k:=0,L:=[47,48] }),(3,{ k:=15,L:=[0,10],A:=[13],pre:=[(0,false),(1,false),(2,false),(3,false),(4,false),(5,false),(6,false),(7,false),(8,false),(9,true),(10,false),(11,false),(12,false)],post:=[(14,true)] })]
def pPpre (e:Ent) (p:PSt):Prop:=(zao p.c p.s e).2=0/\(zaN 32 16 4 30 e=true/\EntIn e)/\p.q.es.length<4000
def pPpost (e:Ent) (p:PSt) (r:Int) (p':PSt):Prop:=r=p.s.count/\p'=⟨p.c,{ p.q with led:=true,es:=p.q.es++[e] },zae p.s e⟩
def ctPProp:CT:=zbu pI pM 10 10 0 (fun e=>[entV' e]) (fun _=>[]) pPpre pPpost (fun _ r=>.tuple #[.int .i64 r,.int .i64 0]) (fun _ _=>[])
theorem pProp_sx (e:Ent) (p:PSt) (y:PY) (hp:pPpre e p) (hy:pI p y):sx ttP ppF ppD (za1 Tryz.f16) (zb3 0 (.pointer (some ⟨0,0,none⟩)::[entV' e])) (pM p y++[]) 10 (zb8 ttP Tryz.f16.results.toList (zch pI pM 10 10 pPpost (fun _ r=>.tuple #[.int .i64 r,.int .i64 0]) (fun _ _=>[]) e p)):=by
 obtain⟨c,⟨n,ph,led,es⟩,s⟩:=p;obtain⟨S,x,st⟩:=y;obtain⟨ha,⟨hsh,hIn⟩,hlen⟩:=hp;obtain⟨⟨hok,hL,hrep,hobs⟩,⟨hI,hct⟩,hn,hph,hle⟩:=hy;dsimp only at ha hlen hok hL hrep hobs hI hct hn hph hle;subst ph;obtain⟨r0,hr0⟩:∃ r0,c.replicas=[r0]:=List.length_eq_one_iff.1 hrep;obtain⟨regions,zones,cells,tenants,versions,replicas,observers,blast,lease,bake⟩:=c;dsimp only at hr0;subst hr0;skip
 have hV:=zg3 hok;obtain⟨hap,hre⟩:=zle ha;repeat (first | refine⟨fun _=>?_,bt_⟩ | refine⟨bf_,fun _=>?_⟩ | refine⟨⟨na_,nb_,nb_⟩,?_⟩ | refine⟨fun q=>absurd q nc_,fun _=>?_⟩ | refine⟨fun _=>?_,fun q=>absurd q s_⟩ | refine⟨fun q=>absurd q s_,fun _=>?_⟩ | refine⟨⟨d_,d_,d_⟩,?_⟩)
 refine⟨d_,?_⟩;refine⟨d_,?_⟩;refine⟨d_,?_⟩;refine⟨d_,?_⟩;refine⟨d_,?_⟩;refine⟨d_,?_⟩;repeat (first | refine⟨fun _=>?_,bt_⟩ | refine⟨bf_,fun _=>?_⟩ | refine⟨⟨na_,nb_,nb_⟩,?_⟩ | refine⟨fun q=>absurd q nc_,fun _=>?_⟩ | refine⟨fun _=>?_,fun q=>absurd q s_⟩ | refine⟨fun q=>absurd q s_,fun _=>?_⟩ | refine⟨⟨d_,d_,d_⟩,?_⟩)
 refine⟨kp_,?_⟩;repeat (first | refine⟨fun _=>?_,bt_⟩ | refine⟨bf_,fun _=>?_⟩ | refine⟨⟨na_,nb_,nb_⟩,?_⟩ | refine⟨fun q=>absurd q nc_,fun _=>?_⟩ | refine⟨fun _=>?_,fun q=>absurd q s_⟩ | refine⟨fun q=>absurd q s_,fun _=>?_⟩ | refine⟨⟨d_,d_,d_⟩,?_⟩)
 refine⟨PN,x,⟨regions,zones,cells,tenants,versions,[r0],observers,blast,lease,bake⟩,PS,st,s,e,rfl,⟨⟨_,_,_,rfl,nl_,fun k hk=>rfl⟩,⟨_,_,_,rfl,nl_,fun k hk=>rfl⟩,⟨_,_,_,rfl,nl_,fun k hk=>rfl⟩,⟨_,_,_,rfl,nl_,fun k hk=>rfl⟩,⟨_,_,_,rfl,nl_,fun k hk=>rfl⟩,⟨_,_,_,rfl,nl_,fun k hk=>rfl⟩⟩,⟨⟨_,_,_,rfl,nl_,fun k hk=>rfl⟩,⟨_,_,_,rfl,nl_,fun k hk=>rfl⟩⟩,hV,hI,fun y2=>?_⟩;rw[hap];refine⟨kp_,?_⟩;refine⟨kp_,?_⟩;repeat (first | refine⟨fun _=>?_,bt_⟩ | refine⟨bf_,fun _=>?_⟩ | refine⟨⟨na_,nb_,nb_⟩,?_⟩ | refine⟨fun q=>absurd q nc_,fun _=>?_⟩ | refine⟨fun _=>?_,fun q=>absurd q s_⟩ | refine⟨fun q=>absurd q s_,fun _=>?_⟩ | refine⟨⟨d_,d_,d_⟩,?_⟩)
 refine⟨(),⟨n,0,led,es⟩,1,S,[],rfl,rfl,rfl,trivial,rfl,fun r1 q1 S1 hq1=>?_⟩;obtain⟨hr1,rfl⟩:=hq1;dsimp only at hr1;cases led
 ·replace hr1:r1=-1:=hr1;subst r1;obtain rfl:es=[]:=hle rfl;repeat (first | refine⟨fun _=>?_,bt_⟩ | refine⟨bf_,fun _=>?_⟩ | refine⟨⟨na_,nb_,nb_⟩,?_⟩ | refine⟨fun q=>absurd q nc_,fun _=>?_⟩ | refine⟨fun _=>?_,fun q=>absurd q s_⟩ | refine⟨fun q=>absurd q s_,fun _=>?_⟩ | refine⟨⟨d_,d_,d_⟩,?_⟩)
  refine⟨kp_,?_⟩;repeat (first | refine⟨fun _=>?_,bt_⟩ | refine⟨bf_,fun _=>?_⟩ | refine⟨⟨na_,nb_,nb_⟩,?_⟩ | refine⟨fun q=>absurd q nc_,fun _=>?_⟩ | refine⟨fun _=>?_,fun q=>absurd q s_⟩ | refine⟨fun q=>absurd q s_,fun _=>?_⟩ | refine⟨⟨d_,d_,d_⟩,?_⟩)
  refine⟨d_,?_⟩;repeat (first | refine⟨fun _=>?_,bt_⟩ | refine⟨bf_,fun _=>?_⟩ | refine⟨⟨na_,nb_,nb_⟩,?_⟩ | refine⟨fun q=>absurd q nc_,fun _=>?_⟩ | refine⟨fun _=>?_,fun q=>absurd q s_⟩ | refine⟨fun q=>absurd q s_,fun _=>?_⟩ | refine⟨⟨d_,d_,d_⟩,?_⟩)
  refine⟨(),⟨n,0,false,[]⟩,1,S1,[],⟨rfl,rfl⟩,rfl,rfl,trivial,rfl,fun _ q2 S2 hq2=>?_⟩;obtain rfl:=(show q2=⟨n,0,false,[]⟩ from hq2);repeat (first | refine⟨fun _=>?_,bt_⟩ | refine⟨bf_,fun _=>?_⟩ | refine⟨⟨na_,nb_,nb_⟩,?_⟩ | refine⟨fun q=>absurd q nc_,fun _=>?_⟩ | refine⟨fun _=>?_,fun q=>absurd q s_⟩ | refine⟨fun q=>absurd q s_,fun _=>?_⟩ | refine⟨⟨d_,d_,d_⟩,?_⟩)
  refine⟨kp_,?_⟩;repeat (first | refine⟨fun _=>?_,bt_⟩ | refine⟨bf_,fun _=>?_⟩ | refine⟨⟨na_,nb_,nb_⟩,?_⟩ | refine⟨fun q=>absurd q nc_,fun _=>?_⟩ | refine⟨fun _=>?_,fun q=>absurd q s_⟩ | refine⟨fun q=>absurd q s_,fun _=>?_⟩ | refine⟨⟨d_,d_,d_⟩,?_⟩)
  refine⟨none,⟨n,0,false,[]⟩,1,S2,[],⟨rfl,rfl⟩,rfl,rfl,trivial,rfl,fun _ q3 S3 hq3=>?_⟩;obtain rfl:=(show q3=⟨n,1,false,[]⟩ from hq3);repeat (first | refine⟨fun _=>?_,bt_⟩ | refine⟨bf_,fun _=>?_⟩ | refine⟨⟨na_,nb_,nb_⟩,?_⟩ | refine⟨fun q=>absurd q nc_,fun _=>?_⟩ | refine⟨fun _=>?_,fun q=>absurd q s_⟩ | refine⟨fun q=>absurd q s_,fun _=>?_⟩ | refine⟨⟨d_,d_,d_⟩,?_⟩)
  refine⟨(),⟨n,1,false,[]⟩,1,S3,[],(show (1:Nat)≠0 from by decide),rfl,rfl,trivial,rfl,fun _ q4 S4 hq4=>?_⟩;obtain rfl:=(show q4=⟨n,0,true,[]⟩ from hq4);repeat (first | refine⟨fun _=>?_,bt_⟩ | refine⟨bf_,fun _=>?_⟩ | refine⟨⟨na_,nb_,nb_⟩,?_⟩ | refine⟨fun q=>absurd q nc_,fun _=>?_⟩ | refine⟨fun _=>?_,fun q=>absurd q s_⟩ | refine⟨fun q=>absurd q s_,fun _=>?_⟩ | refine⟨⟨d_,d_,d_⟩,?_⟩)
  refine⟨(),⟨n,0,true,[]⟩,1,S4,[],rfl,rfl,rfl,trivial,rfl,fun r5 q5 S5 hq5=>?_⟩;obtain⟨hr5,rfl⟩:=hq5;replace hr5:r5=0:=hr5;subst r5;repeat (first | refine⟨fun _=>?_,bt_⟩ | refine⟨bf_,fun _=>?_⟩ | refine⟨⟨na_,nb_,nb_⟩,?_⟩ | refine⟨fun q=>absurd q nc_,fun _=>?_⟩ | refine⟨fun _=>?_,fun q=>absurd q s_⟩ | refine⟨fun q=>absurd q s_,fun _=>?_⟩ | refine⟨⟨d_,d_,d_⟩,?_⟩)
  refine⟨d_,?_⟩;repeat (first | refine⟨fun _=>?_,bt_⟩ | refine⟨bf_,fun _=>?_⟩ | refine⟨⟨na_,nb_,nb_⟩,?_⟩ | refine⟨fun q=>absurd q nc_,fun _=>?_⟩ | refine⟨fun _=>?_,fun q=>absurd q s_⟩ | refine⟨fun q=>absurd q s_,fun _=>?_⟩ | refine⟨⟨d_,d_,d_⟩,?_⟩)
  refine⟨kp_,?_⟩;repeat (first | refine⟨fun _=>?_,bt_⟩ | refine⟨bf_,fun _=>?_⟩ | refine⟨⟨na_,nb_,nb_⟩,?_⟩ | refine⟨fun q=>absurd q nc_,fun _=>?_⟩ | refine⟨fun _=>?_,fun q=>absurd q s_⟩ | refine⟨fun q=>absurd q s_,fun _=>?_⟩ | refine⟨⟨d_,d_,d_⟩,?_⟩)
  refine⟨some e,⟨n,0,true,[]⟩,1,S5,[],⟨rfl,rfl,⟨hsh,hIn⟩,by dsimp only;omega⟩,rfl,rfl,trivial,rfl,fun _ q6 S6 hq6=>?_⟩;obtain rfl:=(show q6=⟨n,2,true,[]++[e]⟩ from hq6);repeat (first | refine⟨fun _=>?_,bt_⟩ | refine⟨bf_,fun _=>?_⟩ | refine⟨⟨na_,nb_,nb_⟩,?_⟩ | refine⟨fun q=>absurd q nc_,fun _=>?_⟩ | refine⟨fun _=>?_,fun q=>absurd q s_⟩ | refine⟨fun q=>absurd q s_,fun _=>?_⟩ | refine⟨⟨d_,d_,d_⟩,?_⟩)
  refine⟨(),⟨n,2,true,[]++[e]⟩,1,S6,[],(show (2:Nat)≠0 from by decide),rfl,rfl,trivial,rfl,fun _ q7 S7 hq7=>?_⟩;obtain rfl:=(show q7=⟨n,0,true,[]++[e]⟩ from hq7);repeat (first | refine⟨fun _=>?_,bt_⟩ | refine⟨bf_,fun _=>?_⟩ | refine⟨⟨na_,nb_,nb_⟩,?_⟩ | refine⟨fun q=>absurd q nc_,fun _=>?_⟩ | refine⟨fun _=>?_,fun q=>absurd q s_⟩ | refine⟨fun q=>absurd q s_,fun _=>?_⟩ | refine⟨⟨d_,d_,d_⟩,?_⟩)
  refine⟨(),⟨n,0,true,[]++[e]⟩,1,S7,[],rfl,rfl,rfl,trivial,rfl,fun r8 q8 S8 hq8=>?_⟩;obtain⟨hr8,rfl⟩:=hq8;have hL1:r8=([]:List Ent).length+1:=hr8.trans (by show (([]++[e]).length:Int)=_;rw[List.length_append];rfl);refine⟨kp_,?_⟩;repeat (first | refine⟨fun _=>?_,bt_⟩ | refine⟨bf_,fun _=>?_⟩ | refine⟨⟨na_,by first | omega | (dsimp only;omega) | (rw[hL1,hct];omega),by first | omega | (dsimp only;omega) | (rw[hL1,hct];omega)⟩,?_⟩ | refine⟨fun q=>absurd q nc_,fun _=>?_⟩ | refine⟨fun _=>?_,fun q=>absurd q (by first | omega | (simp[-List.getD_eq_getElem?_getD];done) | (simp[-List.getD_eq_getElem?_getD];omega) | (simp only[hL1,hct];omega) | (simp[-List.getD_eq_getElem?_getD,hL1,hct];omega))⟩ | refine⟨fun q=>absurd q (by first | omega | (simp[-List.getD_eq_getElem?_getD];done) | (simp[-List.getD_eq_getElem?_getD];omega) | (simp only[hL1,hct];omega) | (simp[-List.getD_eq_getElem?_getD,hL1,hct];omega)),fun _=>?_⟩ | refine⟨⟨d_,d_,d_⟩,?_⟩)
  exact⟨_,⟨⟨regions,zones,cells,tenants,versions,[r0],observers,blast,lease,bake⟩,⟨n,0,true,[]++[e]⟩,zae s e⟩,⟨S8,x,⟨y2.ct,y2.cc⟩⟩,[(8,12),(9,13)],⟨rfl,rfl⟩,⟨⟨hok,hL,hrep,hobs⟩,⟨StInv.step hV hI hre,by show (zae s e).count=((([]++[e]).length:Nat):Int);rw[zi8,hct,List.length_append];rfl⟩,hn,rfl,fun h=>nomatch h⟩,⟨rfl,rfl,rfl⟩,rfl,kp_⟩
 ·replace hr1:r1=0:=hr1;subst r1;repeat (first | refine⟨fun _=>?_,bt_⟩ | refine⟨bf_,fun _=>?_⟩ | refine⟨⟨na_,nb_,nb_⟩,?_⟩ | refine⟨fun q=>absurd q nc_,fun _=>?_⟩ | refine⟨fun _=>?_,fun q=>absurd q s_⟩ | refine⟨fun q=>absurd q s_,fun _=>?_⟩ | refine⟨⟨d_,d_,d_⟩,?_⟩)
  refine⟨d_,?_⟩;repeat (first | refine⟨fun _=>?_,bt_⟩ | refine⟨bf_,fun _=>?_⟩ | refine⟨⟨na_,nb_,nb_⟩,?_⟩ | refine⟨fun q=>absurd q nc_,fun _=>?_⟩ | refine⟨fun _=>?_,fun q=>absurd q s_⟩ | refine⟨fun q=>absurd q s_,fun _=>?_⟩ | refine⟨⟨d_,d_,d_⟩,?_⟩)
  refine⟨kp_,?_⟩;repeat (first | refine⟨fun _=>?_,bt_⟩ | refine⟨bf_,fun _=>?_⟩ | refine⟨⟨na_,nb_,nb_⟩,?_⟩ | refine⟨fun q=>absurd q nc_,fun _=>?_⟩ | refine⟨fun _=>?_,fun q=>absurd q s_⟩ | refine⟨fun q=>absurd q s_,fun _=>?_⟩ | refine⟨⟨d_,d_,d_⟩,?_⟩)
  refine⟨some e,⟨n,0,true,es⟩,1,S1,[],⟨rfl,rfl,⟨hsh,hIn⟩,by dsimp only;omega⟩,rfl,rfl,trivial,rfl,fun _ q2 S2 hq2=>?_⟩;obtain rfl:=(show q2=⟨n,2,true,es++[e]⟩ from hq2);repeat (first | refine⟨fun _=>?_,bt_⟩ | refine⟨bf_,fun _=>?_⟩ | refine⟨⟨na_,nb_,nb_⟩,?_⟩ | refine⟨fun q=>absurd q nc_,fun _=>?_⟩ | refine⟨fun _=>?_,fun q=>absurd q s_⟩ | refine⟨fun q=>absurd q s_,fun _=>?_⟩ | refine⟨⟨d_,d_,d_⟩,?_⟩)
  refine⟨(),⟨n,2,true,es++[e]⟩,1,S2,[],(show (2:Nat)≠0 from by decide),rfl,rfl,trivial,rfl,fun _ q3 S3 hq3=>?_⟩;obtain rfl:=(show q3=⟨n,0,true,es++[e]⟩ from hq3);repeat (first | refine⟨fun _=>?_,bt_⟩ | refine⟨bf_,fun _=>?_⟩ | refine⟨⟨na_,nb_,nb_⟩,?_⟩ | refine⟨fun q=>absurd q nc_,fun _=>?_⟩ | refine⟨fun _=>?_,fun q=>absurd q s_⟩ | refine⟨fun q=>absurd q s_,fun _=>?_⟩ | refine⟨⟨d_,d_,d_⟩,?_⟩)
  refine⟨(),⟨n,0,true,es++[e]⟩,1,S3,[],rfl,rfl,rfl,trivial,rfl,fun r4 q4 S4 hq4=>?_⟩;obtain⟨hr4,rfl⟩:=hq4;have hL1:r4=(es:List Ent).length+1:=hr4.trans (by show ((es++[e]).length:Int)=_;rw[List.length_append];rfl);refine⟨kp_,?_⟩;repeat (first | refine⟨fun _=>?_,bt_⟩ | refine⟨bf_,fun _=>?_⟩ | refine⟨⟨na_,by first | omega | (dsimp only;omega) | (rw[hL1,hct];omega),by first | omega | (dsimp only;omega) | (rw[hL1,hct];omega)⟩,?_⟩ | refine⟨fun q=>absurd q nc_,fun _=>?_⟩ | refine⟨fun _=>?_,fun q=>absurd q (by first | omega | (simp[-List.getD_eq_getElem?_getD];done) | (simp[-List.getD_eq_getElem?_getD];omega) | (simp only[hL1,hct];omega) | (simp[-List.getD_eq_getElem?_getD,hL1,hct];omega))⟩ | refine⟨fun q=>absurd q (by first | omega | (simp[-List.getD_eq_getElem?_getD];done) | (simp[-List.getD_eq_getElem?_getD];omega) | (simp only[hL1,hct];omega) | (simp[-List.getD_eq_getElem?_getD,hL1,hct];omega)),fun _=>?_⟩ | refine⟨⟨d_,d_,d_⟩,?_⟩)
  exact⟨_,⟨⟨regions,zones,cells,tenants,versions,[r0],observers,blast,lease,bake⟩,⟨n,0,true,es++[e]⟩,zae s e⟩,⟨S4,x,⟨y2.ct,y2.cc⟩⟩,[(8,12),(9,13)],⟨rfl,rfl⟩,⟨⟨hok,hL,hrep,hobs⟩,⟨StInv.step hV hI hre,by show (zae s e).count=(((es++[e]).length:Nat):Int);rw[zi8,hct,List.length_append];rfl⟩,hn,rfl,fun h=>nomatch h⟩,⟨rfl,rfl,rfl⟩,rfl,kp_⟩
theorem pPropOk:CSound Tryz.prog 16 ctPProp:=zbb zaT (D:=ppD) (za0 (rdyIok d_) (za0 (znf d_) (za0 (znK.i _) za3))) mixed k_ Tryz.func16 rfl k_ ⟨d_,d_⟩ (fun _=>rfl) pB (fun _=>rfl) (fun _ _=>rfl) (fun x p y hp hy=>pProp_sx x p y hp hy)
/-! plane.Entries,State. -/
abbrev pSF:FT:=[(44,ctCloneT),(45,ctCloneC)]
abbrev pSD:List (Nat×DQ):=[(2,{ k:=7,L:=[11],pre:=[(0,false),(1,false),(3,false),(4,false),(2,true),(6,false),(5,true)] })]
abbrev pSpost (_:Unit) (p:PSt) (r:St×StK) (p':PSt):Prop:=r.1=p.s/\p'=p
def ctPState:CT:=zbu (X:=Unit) pI pM 10 10 2 (fun _=>[]) (fun _=>[]) (fun _ _=>True) pSpost (fun _ r=>stV { t:=10,c:=11,g:=0 } r.2 r.1) (fun _ r=>stMO { t:=10,c:=11,g:=0 } r.1)
theorem zmr (p:PSt) (y:PY) (hy:pI p y):sx ttP pSF pSD (za1 Tryz.f14) (zb3 0 (.pointer (some ⟨0,0,none⟩)::[])) (pM p y++[]) 10 (zb8 ttP Tryz.f14.results.toList (zch (X:=Unit) pI pM 10 10 pSpost (fun _ r=>stV { t:=10,c:=11,g:=0 } r.2 r.1) (fun _ r=>stMO { t:=10,c:=11,g:=0 } r.1) () p)):=by
 obtain⟨c,q,s⟩:=p;obtain⟨S,x,st⟩:=y;have hV:=zg3 hy.1.ok;have hI:=hy.2.1.1;have h1:=hV.nt;have h2:=hV.nc;have h3:=hI.lt;have h4:=hI.lc;dsimp only at h1 h2 h3 h4;repeat (first | refine⟨fun _=>?_,bt_⟩ | refine⟨bf_,fun _=>?_⟩ | refine⟨⟨na_,nb_,nb_⟩,?_⟩ | refine⟨fun q=>absurd q nc_,fun _=>?_⟩ | refine⟨fun _=>?_,fun q=>absurd q s_⟩ | refine⟨fun q=>absurd q s_,fun _=>?_⟩ | refine⟨⟨d_,d_,d_⟩,?_⟩)
 refine⟨_,_,s.tenants,rfl,⟨_,_,_,rfl,nl_,fun k hk=>rfl⟩,o_,fun ct2=>?_⟩;refine⟨kp_,?_⟩;repeat (first | refine⟨fun _=>?_,bt_⟩ | refine⟨bf_,fun _=>?_⟩ | refine⟨⟨na_,nb_,nb_⟩,?_⟩ | refine⟨fun q=>absurd q nc_,fun _=>?_⟩ | refine⟨fun _=>?_,fun q=>absurd q s_⟩ | refine⟨fun q=>absurd q s_,fun _=>?_⟩ | refine⟨⟨d_,d_,d_⟩,?_⟩)
 refine⟨_,_,s.cells,rfl,⟨_,_,_,rfl,nl_,fun k hk=>rfl⟩,o_,fun cc2=>?_⟩;refine⟨kp_,?_⟩;exact⟨(s,⟨ct2,cc2⟩),⟨c,q,s⟩,⟨S,x,st⟩,[(10,12),(11,13)],⟨rfl,rfl⟩,hy,⟨rfl,rfl,rfl⟩,rfl,kp_⟩
theorem pStateOk:CSound Tryz.prog 14 ctPState:=zbb zaT (D:=pSD) (za0 (zk1.i _) (za0 (zk2.i _) za3)) mixed k_ Tryz.func14 rfl k_ ⟨d_,d_⟩ (fun _=>rfl) pB (fun _=>rfl) (fun _ _=>rfl) (fun _ p y _ hy=>zmr p y hy)
/-! What Fold answers. -/
def zeH (c:Cfg):Int->St->List Ent->St×Int×Int
 | i,s,[]=>(s,i,0)
 | i,s,e::r=>if (zao c s e).2≠0 then (s,i,(zao c s e).2) else zeH c (i+1) (zao c s e).1 r
def foldC (c:Cfg) (es:List Ent):St×Int×Int:=zeH c 0 (zaB c) es
def ctApply:CT:=fun vs mem nx K=>∃ N x c M y s e,vs=[zaX N x c,stV M y s,entV' e]/\keeps mem (zcH N c)/\keeps mem (stM M s)/\CfgV c/\StInv c s/\∀ y2,K (.tuple #[stV ⟨nx+1,nx,500000⟩ y2 (zao c s e).1,.int .i64 (zao c s e).2]) (stM ⟨nx+1,nx,500000⟩ (zao c s e).1++mem) (nx+2)
theorem znJ:CSound Tryz.prog 10 ctApply:=⟨k_,fun {C ρ fr mem nx a w vs K} hc hs hv=>by
 obtain⟨N,x,c,M,y,s,e,rfl,hk1,hk2,hV,hI,hK⟩:=hc;have e0:([zaX N x c,stV M y s,entV' e].map (den ρ)).toArray=#[.agg (zaH (zdp ρ N x) c),.agg (stC (stX ρ M y) s),.agg (zbe e).toArray]:=by
  rw[List.map_cons,List.map_cons,List.map_cons,zaP,zc3];simp[den,zaW,zal,zbe]
 rw[e0];refine (zf3 (zdp ρ N x) c (stX ρ M y) s e w hV (hs.cfg hk1 (fun b h _=>h)) hI (hs.st hk2 (fun b h _=>h))).mono ?_;rintro r w' ⟨y2,rfl,ho,hb⟩;obtain⟨q1,q2,q3,q4⟩:=hs.addSt hb (s:=(zao c s e).1) ho.ok;refine⟨.tuple #[stV ⟨nx+1,nx,500000⟩ ⟨y2.ct,y2.cc⟩ (zao c s e).1,.int .i64 (zao c s e).2],_,_,_,?_,hK ⟨y2.ct,y2.cc⟩,q1,?_,q4⟩
 ·rw[← q2];simp[den,zaW,zal]
 ·intro u hu;simp at hu;rcases hu with rfl | rfl
  ·exact q3
  ·trivial⟩
/-! state.Fold -/
def foF:FT:=[(9,ctNewS),(10,ctApply)]
theorem foFok:FTok Tryz.prog foF:=zan newSOk (zan znJ zb7)
def foD:List (Nat×DQ):=[(3000003,{ k:=14,L:=[0,1,2,3,4,5,6,7,8],sl:=[1,2,4,7,14,15] })]
abbrev foM (c:Cfg) (es:List Ent):AM:=zcH CN1 c++[(6,zaz 3 9 zbe default es)]
theorem fold_sx (x:CfgK) (c:Cfg) (cap:Nat) (es:List Ent) (hV:CfgV c) (hl:es.length<=1000000) :
  sx tt foF foD (za1 Tryz.f133) (zb3 0 [zaX CN1 x c,slc 6 es.length cap]) (foM c es) 7 (zb8 tt Tryz.f133.results.toList fun v mem' _=>∃ y,v=.tuple #[stV ⟨12,13,500000⟩ y (foldC c es).1,.int .i64 (foldC c es).2.1,.int .i64 (foldC c es).2.2]/\keeps mem' (stM ⟨12,13,500000⟩ (foldC c es).1)):=by
 have hnt:=hV.nt;have hnc:=hV.nc;refine⟨CN1,x,c,rfl,⟨rfl,rfl,rfl,rfl,rfl,rfl,trivial⟩,⟨o_,o_⟩,?_⟩;intro y0;refine⟨St×StK×Int,fun q=>match q with | (s,y,i)=>[(16,.int .i64 i)],fun q=>match q with | (s,y,i)=>[(11,.box 37 [.int .i64 s.tick,.int .i64 s.count,slc 12 s.tenants.length y.ct,slc 13 s.cells.length y.cc,.int .i64 s.proven,.int .i64 s.evac,.int .i64 s.low,.int .i64 s.high]),(12,zaz 500000 12 tsC default s.tenants),(13,zaz 500000 4 csC default s.cells)],fun q=>match q with | (s,y,i)=>StInv c s/\(0<=i/\i<=es.length)/\zeH c i s (es.drop i.toNat)=foldC c es,fun q=>match q with | (s,y,i)=>((es.length:Int)-i).toNat,⟨(zaB c,y0,0),[(12,10),(13,9)],⟨zfD hV,o_,rfl⟩,⟨rfl,rfl⟩,⟨rfl,rfl,rfl,rfl,rfl,rfl,rfl,trivial⟩,⟨rfl,rfl,rfl,rfl,rfl,rfl,rfl,rfl,rfl,rfl,rfl,rfl,trivial⟩⟩,?_⟩;rintro⟨s,y,i⟩ ⟨hI,hi,hf⟩;refine⟨⟨d_,rfl,rfl⟩,?_⟩;refine⟨fun hlt=>?_,fun hge=>?_⟩
 ·have hlt2:i<(es.length:Int):=of_decide_eq_true hlt;have hd:es.drop i.toNat=es.getD i.toNat default::es.drop (i+1).toNat:=by
   rw[show (i+1).toNat=i.toNat+1 by omega,← List.getElem_cons_drop (show i.toNat<es.length by omega)];congr 1
   rw[gd_,List.getElem?_eq_getElem (show i.toNat<es.length by omega)];rfl
  rw[hd] at hf;refine⟨⟨nl_,hi.1,hlt2⟩,?_⟩;refine⟨CN1,x,c,⟨12,13,500000⟩,y,s,es.getD i.toNat default,rfl,⟨rfl,rfl,rfl,rfl,rfl,rfl,trivial⟩,⟨rfl,rfl,trivial⟩,hV,hI,?_⟩;intro y2;generalize es.getD i.toNat default=e at hf ⊢;refine⟨fun he=>?_,fun he=>?_⟩
  ·have he2:(zao c s e).2≠0:=by simpa using he
   rw[zeH,if_pos he2] at hf;rw[← hf];exact⟨y,rfl,⟨rfl,rfl,trivial⟩⟩
  ·have he2:(zao c s e).2=0:=by simpa using he
   rw[zeH,if_neg (fun h=>h he2)] at hf;have hr:=(zd7 (c:=c) (s:=s) (e:=e) (x:=(zao c s e).1) (by rw[← he2]));refine⟨((zao c s e).1,y2,_),[(12,16),(13,15)],?_,⟨rfl,rfl⟩,⟨rfl,rfl,rfl,rfl,rfl,rfl,rfl,trivial⟩,⟨rfl,rfl,rfl,rfl,rfl,rfl,rfl,rfl,rfl,rfl,rfl,rfl,trivial⟩⟩;dsimp only;rw[zaf (n:=i+1) o_];exact⟨⟨by rw[hr.2.1];exact hI.step hV hr.1,o_,hf⟩,o_⟩
 ·have hge2:¬ i<(es.length:Int):=of_decide_eq_false hge;obtain rfl:i=es.length:=by omega
  rw[Int.toNat_natCast,List.drop_length] at hf;rw[zeH] at hf;rw[← hf];exact⟨y,rfl,⟨rfl,rfl,trivial⟩⟩
def zmo (args:List Value) (k:Int):Prop:=args=[]
theorem zeA (args:List Value) (k:Int) (h:zmo args k):∀ v ∈ args,zam v/\zcW v=true:=by
 cases h;intro v hv;cases hv
def ctMore:CT:=zi7 (fun zs args k z k'=>∃ b,z=.bool b/\k'=k/\(b=true->k<zs.length)) zmo
def moreD:List (Nat×DQ):=[(1,{ k:=10,L:=[0],pre:=[(0,false),(1,false),(2,false),(3,false),(4,false),(5,false),(6,false),(7,false),(8,false),(9,false)] })]
theorem moreOk:CSound Tryz.prog 35 ctMore:=zjw k_ zeA (by
 rintro args g A cap zs k w hz hk0 hk1 hp ht;cases hp
 refine zdK zb7 Tryz.func35 rfl (D:=moreD) k_ rfl (zeA _ k rfl) g A cap zs k w ht (R:=fun z k'=>∃ b,z=.bool b/\k'=k/\(b=true->k<zs.length)) ?_
 exact⟨k,⟨_,rfl,rfl,fun h=>of_decide_eq_true h⟩,⟨trivial,rfl⟩,rfl⟩)
def tiUint:TI:={ size:=1,agg:=false,zero:=[.int .u64 0],ik:=some .u64 }
def ttU:TT:=(96,tiUint)::tt
theorem zeb:zcl Tryz.prog ttU:=by
 refine zgl _ _ ?_;unfold ttU tt;repeat (refine zeS ⟨k_,k_,zgr (by rfl),k_,k_,k_⟩ ?_)
 exact zgk
/-! The functions that are walked where they are called. -/
/-! make.Config -/
theorem zlY (r:Int):2<=zll r/\zll r<=16:=by unfold zll;repeat' split<;>omega
theorem zda {l:List (Int×Int)} {lo hi:Int} (h:zcm l=true) (h1:1<=l.length) (a:0<=lo) (b:lo<=hi) (d:hi<=30):zcm (l++[(lo,hi)])=true:=by
 unfold zcm at *;rw[List.all_eq_true] at *;intro i hi';rw[List.mem_range,List.length_append] at hi';simp at hi';by_cases hlt:i<l.length
 ·have:=h i (List.mem_range.2 hlt);rw[List.getElem?_append_left hlt];exact this
 ·obtain rfl:i=l.length:=by omega
  have hne:l≠[]:=by rintro rfl;simp at h1
  simp[zeR,hne];omega
structure MadeCfg (c:Cfg):Prop where
 valid:zdn c=0
 regions:1<=c.regions/\c.regions<=3
 zones:1<=c.zones.length/\c.zones.length<=6
 cells:1<=c.cells.length/\c.cells.length<=7
 tenants:c.tenants.length<=5
 versions:1<=c.versions.length/\c.versions.length<=3
 replicas:c.replicas.length=1∨c.replicas.length=3
 observers:1<=c.observers.length/\c.observers.length<=4
 blast:1<=c.blast/\c.blast<=3
 lease:2<=c.lease/\c.lease<=12
 bake:0<=c.bake/\c.bake<=8
 caps:c.cells.all (fun y=>inR y.1 0 (c.zones.length-1)&&inR y.2 1 40)=true
theorem zgu (r bl le ba:Int) (zl:List Int) (cl:List (Int×Int)) (tl:List Ten) (vl:List (Int×Int)) (rl ol:List Int) (h1:1<=r/\r<=3) (h2:1<=zl.length/\zl.length<=6) (h3:1<=cl.length/\cl.length<=7)
  (h4:tl.length<=5) (h5:1<=vl.length/\vl.length<=3) (a1:zl.all (fun z=>inR z 0 (r-1))=true) (a2:cl.all (fun y=>inR y.1 0 (zl.length-1)&&inR y.2 1 40)=true) (a3:tl.all (zdo r)=true) (a4:zcm vl=true)
  (a5:rl.all (fun z=>inR z 0 (zl.length-1))=true) (a6:ol.all (fun z=>inR z 0 (zl.length-1))=true) (h6:rl.length=1∨rl.length=3) (h7:1<=ol.length/\ol.length<=4) (h8:1<=bl/\bl<=3) (h9:2<=le/\le<=12) (h10:0<=ba/\ba<=8) :
  MadeCfg ⟨r,zl,cl,tl,vl,rl,ol,bl,le,ba⟩:=by
 refine⟨?_,h1,h2,h3,h4,h5,h6,h7,h8,h9,h10,a2⟩;have b1:cl.all (fun y=>inR y.1 0 (zl.length-1))=true:=by
  rw[List.all_eq_true] at a2 ⊢;exact fun y hy=>(Bool.and_eq_true _ _ ▸ a2 y hy).1
 have b2:cl.all (fun y=>inR y.2 1 4194304)=true:=by
  rw[List.all_eq_true] at a2 ⊢;intro y hy;have:=(Bool.and_eq_true _ _ ▸ a2 y hy).2;simp[inR] at this ⊢;omega
 have l1:zbi ⟨r,zl,cl,tl,vl,rl,ol,bl,le,ba⟩=true:=by simp[zbi,inR];omega
 have l2:zbB ⟨r,zl,cl,tl,vl,rl,ol,bl,le,ba⟩=true:=by unfold zbB;rw[a1,b1,a5,a6];rfl
 have l3:zbV ⟨r,zl,cl,tl,vl,rl,ol,bl,le,ba⟩=true:=by
  unfold zbV;rw[b2,a4];simp[inR];omega
 have l4:¬ rl.length % 2=0:=by omega
 have l5:zbo ⟨r,zl,cl,tl,vl,rl,ol,bl,le,ba⟩=0:=by simp[zbo,l1,l2,l3,l4]
 simp only[zdn,l5,a3];rfl
def CfgPost (w:World) (e:Ending) (w':World):Prop:=
 ∃ (x:CfgA) (c:Cfg),e=.returned (.agg (zaH x c))/\CfgOk w' (fun b=>w.heap.size<=b/\b<w'.heap.size) x c/\MadeCfg c/\Below w.heap.size w w'
theorem zgh {h:Int} (h0:0<=h) (h1:h<=30):zcm [(0,h)]=true:=by
 simp[zcm,zeR];omega
abbrev zeM (r:Int):Int:=IntKind.i64.wrap (IntKind.i64.wrap (1 * 2 ^ min (IntKind.u64.wrap r).toNat IntKind.i64.bits)-1)
theorem zib {r:Int} (h:1<=r/\r<=3):zeM r=zll r-1:=by
 rcases (show r=1∨r=2∨r=3 by omega) with rfl | rfl | rfl<;>decide
theorem zin {r a b p g al gr:Int} {no:Bool} (h1:1<=r/\r<=3) (ha:1<=a/\a<=12) (hb:0<=b/\b<a+1) (hp:0<=p/\p<4) (hg:-1<=g/\g<=3) (hal:1<=al/\al<=zll r-1) (hgr:0<=gr/\gr<3):zdo r ⟨a,b,p,g,al,gr,no⟩=true:=by
 unfold zdo inR;simp only[Bool.and_eq_true,decide_eq_true_eq];omega
def ctBetw:CT:=fun vs mem nx K=>∃ v lo hi,vs=[.int .i64 v,.int .i64 lo,.int .i64 hi]/\(lo<=hi/\-1000000<=lo/\hi<=1000000)/\∀ r:Int,lo<=r->r<=hi->K (.int .i64 r) mem nx
theorem betwOk:CSound Tryz.prog 30 ctBetw:=⟨k_,fun {C ρ fr mem nx a w vs K} hc hs hv=>by
 obtain⟨v,lo,hi,rfl,⟨h1,h2,h3⟩,hK⟩:=hc;refine (zgS v lo hi w h1 h2 h3).mono ?_;rintro e w' ⟨⟨r,hr1,hr2,-,rfl⟩,rfl⟩
 exact⟨.int .i64 r,mem,nx,ρ,rfl,hK r hr1 hr2,hs,trivial,ExtS.refl _ _⟩⟩
theorem zbA {α:Type} {enc:α->List Value} {d:α} {l:List α} {x:α} {el el2:Nat->List Value} (h0:∀ j,j<l.length->el j=enc (l.getD j d)) (h1:∀ j,j<l.length->el2 j=el j) (h2:el2 (l.length+0)=enc x):∀ j,j<(l++[x]).length->el2 j=enc ((l++[x]).getD j d):=by
 intro j hj;by_cases hjn:j<l.length
 ·rw[h1 j hjn,h0 j hjn,gd_,gd_,List.getElem?_append_left hjn]
 ·obtain rfl:j=l.length:=by simp at hj;omega
  rw[Nat.add_zero] at h2;rw[h2,gd_,List.getElem?_append_right nl_,Nat.sub_self];rfl
theorem zeD {α:Type} {enc:α->List Value} {d x:α} {el2:Nat->List Value} (h2:el2 0=enc x):∀ j,j<[x].length->el2 j=enc ([x].getD j d):=by
 intro j hj;obtain rfl:j=0:=by simpa using hj
 exact h2
theorem cwz {n rg:Int} (hn:0<=n) (hr:1<=rg):(true&&[Int.tmod n rg].all (fun z=>inR z 0 (rg-1)))=true:=by
 have t1:=Int.tmod_nonneg rg hn;have t2:=Int.tmod_lt_of_pos n (show 0<rg by omega);simp[inR];omega
theorem cwc {n z r:Int} (hn:0<=n) (hz:1<=z) (hr:1<=r/\r<=4):(true&&[(Int.tmod n z,IntKind.i64.wrap (r * 10))].all (fun y=>inR y.1 0 (z-1)&&inR y.2 1 40))=true:=by
 have t1:=Int.tmod_nonneg z hn;have t2:=Int.tmod_lt_of_pos n (show 0<z by omega);rw[zaf (n:=r * 10) o_];simp[inR];omega
theorem cwi {z r:Int} (hr:0<=r/\r<z):(true&&[r].all (fun y=>inR y 0 (z-1)))=true:=by
 simp[inR];omega
end Go.Proofs.YtjnndjnpcelafaaGreat
