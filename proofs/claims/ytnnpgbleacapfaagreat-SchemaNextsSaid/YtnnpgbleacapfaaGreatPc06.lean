import Derived.Test.YtnnpgbleacapfaaGreatPc05
namespace Go.Proofs.YtnnpgbleacapfaaGreat
open Go.RowKit
set_option linter.unusedSimpArgs false
set_option linter.unusedVariables false
/-! mill.config -/
def CsOk (n:Nat) (cs:List (Int×Int)):Prop:=(∀ y ∈ cs,(0≤y.1∧y.1<(n:Int))∧8≤y.2∧y.2≤30)∧∀ y,cs[0]?=some y→y.1=0
theorem CsOk.nil (n:Nat):CsOk n []:=⟨(fun y hy=>by cases hy),(fun y hy=>by simp at hy)⟩
theorem CsOk.mono {n:Nat} {cs:List (Int×Int)} (h:CsOk n cs):CsOk (n+1) cs:=⟨fun y hy=>⟨⟨(h.1 y hy).1.1,by have:=(h.1 y hy).1.2;omega⟩,(h.1 y hy).2⟩,h.2⟩
theorem CsOk.snoc {n:Nat} {cs:List (Int×Int)} {r:Int} (h:CsOk (n+1) cs) (hn:n≤cs.length) (hr:8≤r∧r≤30):CsOk (n+1) (cs++[((n:Int),r)]):=by
 refine⟨fun y hy=>?_,fun y hy=>?_⟩
 ·rcases List.mem_append.1 hy with hy | hy
  ·exact h.1 y hy
  ·rw[List.mem_singleton.1 hy]
   exact⟨⟨by omega,by show (n:Int)<((n+1:Nat):Int);omega⟩,hr⟩
 ·cases cs with
  | nil=>
   have hz:n=0:=by simpa using hn
   subst hz
   simp at hy
   rw[← hy]
  | cons a l=>exact h.2 y (by simpa using hy)
abbrev allowRaw (r:Int):Int:=IntKind.i64.wrap (IntKind.i64.wrap (1 * 2 ^ min (IntKind.u64.wrap r).toNat IntKind.i64.bits)-1)
theorem ten_ok {r1 a b p g:Int} (h1:2≤r1∧r1≤3) (ha:1≤a∧a≤9) (hb:0≤b∧b<a+1) (hp:0≤p∧p<4) (hg:-1≤g∧g≤2):tenOk r1 ⟨a,b,p,g,allowRaw r1,0,false⟩=true:=by
 have hal:allowRaw r1=shl1 r1-1:=by
  rcases (show r1=2∨r1=3 by omega) with rfl | rfl<;>decide
 have h1':1≤shl1 r1-1:=by rcases (show r1=2∨r1=3 by omega) with rfl | rfl<;>decide
 unfold tenOk inR
 simp only[hal,Bool.and_eq_true,decide_eq_true_eq]
 omega
def zonesL (n:Nat):List Int:=(List.range n).map Int.ofNat
theorem zonesL_get {n j:Nat} (h:j<n):(zonesL n).getD j 0=(j:Int):=by
 unfold zonesL
 rw[List.getD_eq_getElem?_getD,List.getElem?_map,List.getElem?_range h]
 rfl
def mcC (n:Nat) (r1:Int) (cs:List (Int×Int)) (ts:List Ten) (r5 r6 ra r2 r3 r4:Int):Cfg:=⟨r1,zonesL n,cs,ts,[(0,2),(0,1+r5),(r6,2)],[ra,r1-1,r1-1],[0],r2,r3,r4⟩
theorem mcC_ok {n:Nat} {r1 r2 r3 r4 r5 r6 ra:Int} {cs:List (Int×Int)} {ts:List Ten} (hn:(n:Int)=r1) (h1:2≤r1∧r1≤3) (hcs:CsOk n cs) (hu:cs.length≤2 * n) (hl:n≤cs.length) (hts:∀ t ∈ ts,tenOk r1 t=true) (htl:ts.length≤32) (h5:0≤r5∧r5<2) (h6:0≤r6∧r6<2) (h2:1≤r2∧r2≤2) (h3:2≤r3∧r3≤8) (h4:0≤r4∧r4<5):CfgV (mcC n r1 cs ts r5 r6 ra r2 r3 r4):=by
 have hzl:(zonesL n).length=n:=by simp[zonesL]
 refine⟨by unfold mcC;dsimp only;omega,by unfold mcC;dsimp only;rw[hzl];omega,by unfold mcC;dsimp only;omega,htl,by unfold mcC;dsimp only[List.length];omega,fun y hy=>?_,fun y hy=>?_,fun z hz=>?_,hts,fun k v hv=>?_,by unfold mcC;dsimp only;omega,by unfold mcC;dsimp only;omega,by unfold mcC;dsimp only;omega⟩
 ·have:=(hcs.1 y hy).1
  unfold mcC;dsimp only;rw[hzl];exact this
 ·have:=(hcs.1 y hy).2
  omega
 ·obtain⟨i,hi,rfl⟩:=List.mem_map.1 hz
  have:=List.mem_range.1 hi
  unfold mcC;dsimp only
  show 0≤(i:Int)∧(i:Int)<r1
  omega
 ·unfold mcC at hv
  dsimp only at hv
  match k,hv with
  | 0,hv=>cases hv;rfl
  | 1,hv=>
   cases hv
   unfold verOk
   simp
   omega
  | 2,hv=>
   cases hv
   unfold verOk
   simp
   omega
  | k+3,hv=>simp at hv
theorem mcC_first {n:Nat} {cs:List (Int×Int)} (h:CsOk n cs) (hn:2≤n) (hl:n≤cs.length):(zonesL n).getD 0 0=0∧(cs.getD 0 (0,0)).1=0:=by
 refine⟨zonesL_get (by omega),?_⟩
 rw[List.getD_eq_getElem?_getD,List.getElem?_eq_getElem (by omega)]
 exact h.2 _ (List.getElem?_eq_getElem (by omega))
def mcF:FT:=[(63,ctRangeM),(64,ctNextM)]
theorem mcFok:FTok Tryz.prog mcF:=ft_cons rangeMOk (ft_cons nextMOk ft_nil)
def mcD:List (Nat×DQ):=[(9,{ k:=7,L:=[5],pre:=[(0,false),(1,false),(2,false),(3,false),(4,true),(5,false),(6,true)] }),
 (14,{ k:=18,L:=[5],pre:=[(0,false),(1,false),(2,false),(3,false),(4,false),(5,false),(7,false),(9,false),(11,false),(12,false),(13,false),(14,false),(15,false),(6,true),(8,true),(10,true),(16,false),(17,true)] }),
 (15,{ k:=10,L:=[5],pre:=[(0,false),(1,false),(2,false),(4,false),(5,false),(6,false),(7,false),(8,false),(9,false),(3,true)] }),
 (3000003,{ k:=8,L:=[1,2,3,4],sl:=[0,2,3] }),(4000006,{ k:=12,L:=[0,1,2,3,4],sl:=[0,2,3,4] }),(3000007,{ k:=13,L:=[1,2,3,4,10],sl:=[0,2,3,4] }),(3000011,{ k:=9,L:=[1,2,3,4,6,7],sl:=[0,2,3] })]
set_option maxRecDepth 100000 in
set_option maxHeartbeats 8000000 in
theorem mconfig_sx (cap:Nat) (zs:List Int) (k:Int) (hz:zs.length≤400) (hk0:0≤k) (hk1:k≤900000) :
  sx ttU mcF mcD (bodyOf Tryz.f69) (argF 0 [ptr 0]) [(0,tapeM 1 zs.length cap k),(1,intRow zs)] 2 (endx ttU Tryz.f69.results.toList fun v mem' _=>∃ k' N x c,(CfgV c∧c.zones.getD 0 0=0∧(c.cells.getD 0 (0,0)).1=0∧1≤c.tenants.length)∧(k≤k'∧k'≤k+100)∧v=cfgV N x c∧lk mem' 0=some (tapeM 1 zs.length cap k')∧(NewRow mem' N.z 1 intC 0 c.zones∧NewRow mem' N.c 2 pairC (0,0) c.cells∧NewRow mem' N.t 7 tenC default c.tenants∧NewRow mem' N.v 2 pairC (0,0) c.versions∧NewRow mem' N.r 1 intC 0 c.replicas∧NewRow mem' N.o 1 intC 0 c.observers)):=by
 refine⟨0,1,cap,zs,_,_,rfl,⟨rfl,rfl⟩,⟨hz,by omega,by omega⟩,⟨_,_,rfl,by omega,by omega,by omega⟩,?_⟩
 rintro _ k1 ⟨_,_,r1,hnn,rfl,hr1,hk1⟩
 cases hnn
 refine⟨0,1,cap,zs,_,_,rfl,⟨rfl,rfl⟩,⟨hz,by omega,by omega⟩,⟨_,_,rfl,by omega,by omega,by omega⟩,?_⟩
 rintro _ k2 ⟨_,_,r2,hnn,rfl,hr2,hk2⟩
 cases hnn
 refine⟨0,1,cap,zs,_,_,rfl,⟨rfl,rfl⟩,⟨hz,by omega,by omega⟩,⟨_,_,rfl,by omega,by omega,by omega⟩,?_⟩
 rintro _ k3 ⟨_,_,r3,hnn,rfl,hr3,hk3⟩
 cases hnn
 refine⟨0,1,cap,zs,_,_,rfl,⟨rfl,rfl⟩,⟨hz,by omega,by omega⟩,⟨_,rfl,by omega,by omega⟩,?_⟩
 rintro _ k4 ⟨_,r4,hnn,rfl,⟨hr4,hk4⟩⟩
 cases hnn
 refine⟨0,1,cap,zs,_,_,rfl,⟨rfl,rfl⟩,⟨hz,by omega,by omega⟩,⟨_,rfl,by omega,by omega⟩,?_⟩
 rintro _ k5 ⟨_,r5,hnn,rfl,⟨hr5,hk5⟩⟩
 cases hnn
 refine⟨0,1,cap,zs,_,_,rfl,⟨rfl,rfl⟩,⟨hz,by omega,by omega⟩,⟨_,rfl,by omega,by omega⟩,?_⟩
 rintro _ k6 ⟨_,r6,hnn,rfl,⟨hr6,hk6⟩⟩
 cases hnn
 refine⟨Nat×Int×List (Int×Int)×Option (Nat×(Nat→List Value)×Nat×(Nat→List Value)),fun q=>match q with | (n,kk,cs,o)=>[(4,.int .i64 (n:Int))],fun q=>match q with | (n,kk,cs,none)=>[(0,tapeM 1 zs.length cap kk),(5,.box 30 [.int .i64 r1,zs0,zs0,zs0,slc 3 3 3,zs0,slc 4 1 1,.int .i64 r2,.int .i64 r3,.int .i64 r4])] | (n,kk,cs,some (capz,elz,capc,elc))=>[(0,tapeM 1 zs.length cap kk),(5,.box 30 [.int .i64 r1,(slc 6 n capz),(slc 7 cs.length capc),zs0,slc 3 3 3,zs0,slc 4 1 1,.int .i64 r2,.int .i64 r3,.int .i64 r4]),(6,.row (1000000+93) 1 capz elz),(7,.row (1000000+95) 2 capc elc)],fun q=>match q with | (n,kk,cs,o)=>(n:Int)≤r1∧(k6≤kk∧kk≤k6+3 * n)∧CsOk n cs∧cs.length≤2 * n∧n≤cs.length∧match o with | none=>n=0 | some (capz,elz,capc,elc)=>(n≤capz∧∀ j,j<n→elz j=intC (j:Int))∧(cs.length≤capc∧∀ j,j<cs.length→elc j=pairC (cs.getD j (0,0))),fun q=>match q with | (n,kk,cs,o)=>r1.toNat-n,⟨(0,k6,[],none),[],⟨by omega,by omega,CsOk.nil _,by decide,by decide,rfl⟩,⟨rfl,rfl⟩,kp_,kp_⟩,?_⟩
 rintro⟨n,kk,cs,(_ | ⟨capz,elz,capc,elc⟩)⟩ ⟨hn,hkk,hcs,hcl,hcu,ho⟩
 ·have hn0:n=0:=ho
  refine⟨⟨by decide,rfl,rfl⟩,?_⟩
  refine⟨fun hlt=>?_,fun hlt=>?_⟩
  ·have hlt2:(n:Int)<r1:=of_decide_eq_true hlt
   subst hn0
   refine⟨Nat×(Nat→List Value),fun _=>[],fun q=>match q with | (capy,ely)=>[(5,.box 30 [.int .i64 r1,(slc 10 (0+1) capy),zs0,zs0,slc 3 3 3,zs0,slc 4 1 1,.int .i64 r2,.int .i64 r3,.int .i64 r4]),(10,.row (1000000+93) 1 capy ely)],fun q=>match q with | (capy,ely)=>0+1≤capy∧∀ j,j<0+1→ely j=intC (j:Int),?_,?_⟩
   ·refine⟨⟨Nat.le_refl _,fun j hj=>by match j,hj with | 0,_=>rfl⟩,?_⟩
    refine⟨fun h=>absurd h (by decide),fun _=>⟨by decide,fun capz elz hcz g2z=>?_⟩⟩
    refine⟨(capz,elz),[(10,9)],⟨by omega,fun j hj=>?_⟩,⟨rfl,rfl⟩,kp_,kp_⟩
    obtain rfl:j=0:=by omega
    exact g2z 0 (by omega)
   ·rintro⟨capy,ely⟩ ⟨hy1,hy2⟩
    refine⟨⟨by decide,rfl,rfl⟩,?_⟩
    refine⟨0,1,cap,zs,_,_,rfl,⟨rfl,rfl⟩,⟨hz,by omega,by omega⟩,⟨_,_,rfl,by omega,by omega,by omega⟩,?_⟩
    rintro _ k7 ⟨_,_,r7,hnn,rfl,hr7,hk7⟩
    cases hnn
    refine⟨Int×Int×List (Int×Int)×Option (Nat×(Nat→List Value)),fun p=>match p with | (q,kq,ds,o)=>[(5,.int .i64 q)],fun p=>match p with | (q,kq,ds,none)=>[(0,tapeM 1 zs.length cap kq),(5,.box 30 [.int .i64 r1,(slc 10 (0+1) capy),zs0,zs0,slc 3 3 3,zs0,slc 4 1 1,.int .i64 r2,.int .i64 r3,.int .i64 r4])] | (q,kq,ds,some (capd,eld))=>[(0,tapeM 1 zs.length cap kq),(5,.box 30 [.int .i64 r1,(slc 10 (0+1) capy),(slc 12 ds.length capd),zs0,slc 3 3 3,zs0,slc 4 1 1,.int .i64 r2,.int .i64 r3,.int .i64 r4]),(12,.row (1000000+95) 2 capd eld)],fun p=>match p with | (q,kq,ds,o)=>(0≤q∧q≤2)∧(k7≤kq∧kq+q≤k7+r7)∧(CsOk (0+1) ds∧0≤ds.length)∧((ds.length:Int)+q≤2 * 0+2)∧((0:Int)+1≤ds.length+q)∧match o with | none=>ds=[] | some (capd,eld)=>ds.length≤capd∧∀ j,j<ds.length→eld j=pairC (ds.getD j (0,0)),fun p=>match p with | (q,kq,ds,o)=>q.toNat,⟨(r7,k7,[],none),[],⟨by omega,by omega,⟨CsOk.nil _,by decide⟩,by simp;omega,by simp;omega,rfl⟩,⟨rfl,rfl⟩,kp_,kp_⟩,?_⟩
    rintro⟨q,kq,ds,(_ | ⟨capd,eld⟩)⟩ ⟨hqb,hkq,hds,hup,hlo,hd1⟩
    ·refine⟨⟨by decide,rfl,rfl⟩,?_⟩
     refine⟨fun hq=>?_,fun hq=>?_⟩
     ·have hq0:q>0:=of_decide_eq_true hq
      refine⟨0,1,cap,zs,_,_,rfl,⟨rfl,rfl⟩,⟨hz,by omega,by omega⟩,⟨_,_,rfl,by omega,by omega,by omega⟩,?_⟩
      rintro _ k8 ⟨_,_,r8,hnn,rfl,hr8,hk8⟩
      cases hnn
      refine⟨kp_,?_⟩
      refine⟨kp_,?_⟩
      refine⟨⟨Nat.le_refl _,fun j hj=>by match j,hj with | 0,_=>rfl⟩,?_⟩
      refine⟨fun h=>absurd h (by decide),fun _=>⟨by decide,fun capd eld hcd g2d=>?_⟩⟩
      subst hd1
      simp only[List.length_nil] at hup hlo
      refine⟨(_,_,([]++[(((0:Nat):Int),r8)]),some (capd,eld)),[(12,14)],?_,⟨rfl,rfl⟩,kp_,kp_⟩
      dsimp only
      rw[wrapi (n:=q-1) (by omega)]
      refine⟨?_,by omega⟩
      refine⟨by omega,by omega,⟨CsOk.snoc (CsOk.nil _) (Nat.le_of_eq (by first | rfl | (have:=hds.2;simp at this;omega))) (by omega),by simp<;>omega⟩,by simp;omega,by simp;omega,by first | exact hcd | (simp;omega),fun j hj=>?_⟩
      obtain rfl:j=0:=by simpa using hj
      exact g2d 0 (by omega)
     ·have hq0:¬ q>0:=of_decide_eq_false hq
      have:ds=[]:=hd1
      subst this
      simp at hlo
      omega
    ·refine⟨⟨by decide,rfl,rfl⟩,?_⟩
     refine⟨fun hq=>?_,fun hq=>?_⟩
     ·have hq0:q>0:=of_decide_eq_true hq
      refine⟨0,1,cap,zs,_,_,rfl,⟨rfl,rfl⟩,⟨hz,by omega,by omega⟩,⟨_,_,rfl,by omega,by omega,by omega⟩,?_⟩
      rintro _ k8 ⟨_,_,r8,hnn,rfl,hr8,hk8⟩
      cases hnn
      refine⟨kp_,?_⟩
      refine⟨kp_,?_⟩
      refine⟨⟨Nat.le_refl _,fun j hj=>by match j,hj with | 0,_=>rfl⟩,?_⟩
      refine⟨⟨rfl,hd1.1⟩,fun hind eld g1d g2d=>?_,fun hgtd=>⟨by show (ds.length+1) * 16≤140737488355328;omega,fun capd eld hcd g1d g2d=>?_⟩⟩
      ·rw[show ds.length+1=(ds++[(((0:Nat):Int),r8)]).length by simp]
       refine⟨(_,_,(ds++[(((0:Nat):Int),r8)]),some (capd,eld)),[],?_,⟨rfl,rfl⟩,kp_,kp_⟩
       dsimp only
       rw[wrapi (n:=q-1) (by omega)]
       refine⟨?_,by omega⟩
       refine⟨by omega,by omega,⟨CsOk.snoc hds.1 hds.2 (by omega),by have:=hds.2;simp<;>omega⟩,by simp;omega,by simp;omega,by first | exact hcd | (simp;omega),fun j hj=>?_⟩
       by_cases hjn:j<ds.length
       ·rw[g1d j hjn,hd1.2 j hjn,List.getD_eq_getElem?_getD,List.getD_eq_getElem?_getD,List.getElem?_append_left hjn]
       ·obtain rfl:j=ds.length:=by simp at hj;omega
        have:=g2d 0 (by omega)
        rw[Nat.add_zero] at this
        rw[this,List.getD_eq_getElem?_getD,List.getElem?_append_right (Nat.le_refl _),Nat.sub_self]
        rfl
      ·rw[show ds.length+1=(ds++[(((0:Nat):Int),r8)]).length by simp] at hcd ⊢
       refine⟨(_,_,(ds++[(((0:Nat):Int),r8)]),some (capd,eld)),[(12,14)],?_,⟨rfl,rfl⟩,kp_,kp_⟩
       dsimp only
       rw[wrapi (n:=q-1) (by omega)]
       refine⟨?_,by omega⟩
       refine⟨by omega,by omega,⟨CsOk.snoc hds.1 hds.2 (by omega),by have:=hds.2;simp<;>omega⟩,by simp;omega,by simp;omega,by first | exact hcd | (simp;omega),fun j hj=>?_⟩
       by_cases hjn:j<ds.length
       ·rw[g1d j hjn,hd1.2 j hjn,List.getD_eq_getElem?_getD,List.getD_eq_getElem?_getD,List.getElem?_append_left hjn]
       ·obtain rfl:j=ds.length:=by simp at hj;omega
        have:=g2d 0 (by omega)
        rw[Nat.add_zero] at this
        rw[this,List.getD_eq_getElem?_getD,List.getElem?_append_right (Nat.le_refl _),Nat.sub_self]
        rfl
     ·have hq0:¬ q>0:=of_decide_eq_false hq
      refine⟨(0+1,_,ds,some (capy,ely,capd,eld)),[(6,10),(7,12)],?_,⟨rfl,rfl⟩,(by refine⟨?_,?_⟩;(show some (Value.int .i64 (IntKind.i64.wrap (((0:Nat):Int)+1)))=some (Value.int .i64 ((0+1:Nat):Int));rw[wrapi (by omega),show ((0+1:Nat):Int)=((0:Nat):Int)+1 by omega]);repeat (first | exact trivial | refine⟨rfl,?_⟩)),kp_⟩
      dsimp only
      exact⟨⟨by omega,by omega,hds.1,by omega,by omega,⟨hy1,hy2⟩,hd1⟩,by omega⟩
  ·have hge:¬ ((n:Nat):Int)<r1:=of_decide_eq_false hlt
   exfalso
   omega
 ·obtain⟨hz1,hc1⟩:=ho
  refine⟨⟨by decide,rfl,rfl⟩,?_⟩
  refine⟨fun hlt=>?_,fun hlt=>?_⟩
  ·have hlt2:(n:Int)<r1:=of_decide_eq_true hlt
   refine⟨Nat×(Nat→List Value),fun _=>[],fun q=>match q with | (capy,ely)=>[(5,.box 30 [.int .i64 r1,(slc 10 (n+1) capy),(slc 11 cs.length capc),zs0,slc 3 3 3,zs0,slc 4 1 1,.int .i64 r2,.int .i64 r3,.int .i64 r4]),(10,.row (1000000+93) 1 capy ely),(11,.row (1000000+95) 2 capc elc)],fun q=>match q with | (capy,ely)=>n+1≤capy∧∀ j,j<n+1→ely j=intC (j:Int),?_,?_⟩
   ·refine⟨⟨Nat.le_refl _,fun j hj=>by match j,hj with | 0,_=>rfl⟩,?_⟩
    refine⟨⟨rfl,hz1.1⟩,fun hinz elz g1z g2z=>?_,fun hgtz=>⟨by show (n+1) * 8≤140737488355328;omega,fun capz elz hcz g1z g2z=>?_⟩⟩
    ·refine⟨(capz,elz),[(10,6),(11,7)],⟨by omega,fun j hj=>?_⟩,⟨rfl,rfl⟩,kp_,kp_⟩
     by_cases hjn:j<n
     ·exact (g1z j hjn).trans (hz1.2 j hjn)
     ·obtain rfl:j=n:=by omega
      exact g2z 0 (by omega)
    ·refine⟨(capz,elz),[(10,9),(11,7)],⟨by omega,fun j hj=>?_⟩,⟨rfl,rfl⟩,kp_,kp_⟩
     by_cases hjn:j<n
     ·exact (g1z j hjn).trans (hz1.2 j hjn)
     ·obtain rfl:j=n:=by omega
      exact g2z 0 (by omega)
   ·rintro⟨capy,ely⟩ ⟨hy1,hy2⟩
    refine⟨⟨by decide,rfl,rfl⟩,?_⟩
    refine⟨0,1,cap,zs,_,_,rfl,⟨rfl,rfl⟩,⟨hz,by omega,by omega⟩,⟨_,_,rfl,by omega,by omega,by omega⟩,?_⟩
    rintro _ k7 ⟨_,_,r7,hnn,rfl,hr7,hk7⟩
    cases hnn
    refine⟨Int×Int×List (Int×Int)×Option (Nat×(Nat→List Value)),fun p=>match p with | (q,kq,ds,o)=>[(5,.int .i64 q)],fun p=>match p with | (q,kq,ds,none)=>[(0,tapeM 1 zs.length cap kq),(5,.box 30 [.int .i64 r1,(slc 10 (n+1) capy),zs0,zs0,slc 3 3 3,zs0,slc 4 1 1,.int .i64 r2,.int .i64 r3,.int .i64 r4])] | (q,kq,ds,some (capd,eld))=>[(0,tapeM 1 zs.length cap kq),(5,.box 30 [.int .i64 r1,(slc 10 (n+1) capy),(slc 12 ds.length capd),zs0,slc 3 3 3,zs0,slc 4 1 1,.int .i64 r2,.int .i64 r3,.int .i64 r4]),(12,.row (1000000+95) 2 capd eld)],fun p=>match p with | (q,kq,ds,o)=>(0≤q∧q≤2)∧(k7≤kq∧kq+q≤k7+r7)∧(CsOk (n+1) ds∧n≤ds.length)∧((ds.length:Int)+q≤2 * n+2)∧((n:Int)+1≤ds.length+q)∧match o with | none=>ds=[] | some (capd,eld)=>ds.length≤capd∧∀ j,j<ds.length→eld j=pairC (ds.getD j (0,0)),fun p=>match p with | (q,kq,ds,o)=>q.toNat,⟨(r7,k7,cs,some (capc,elc)),[(12,11)],⟨by omega,by omega,⟨hcs.mono,by omega⟩,by omega,by omega,hc1⟩,⟨rfl,rfl⟩,kp_,kp_⟩,?_⟩
    rintro⟨q,kq,ds,(_ | ⟨capd,eld⟩)⟩ ⟨hqb,hkq,hds,hup,hlo,hd1⟩
    ·refine⟨⟨by decide,rfl,rfl⟩,?_⟩
     refine⟨fun hq=>?_,fun hq=>?_⟩
     ·have hq0:q>0:=of_decide_eq_true hq
      refine⟨0,1,cap,zs,_,_,rfl,⟨rfl,rfl⟩,⟨hz,by omega,by omega⟩,⟨_,_,rfl,by omega,by omega,by omega⟩,?_⟩
      rintro _ k8 ⟨_,_,r8,hnn,rfl,hr8,hk8⟩
      cases hnn
      refine⟨kp_,?_⟩
      refine⟨kp_,?_⟩
      refine⟨⟨Nat.le_refl _,fun j hj=>by match j,hj with | 0,_=>rfl⟩,?_⟩
      refine⟨fun h=>absurd h (by decide),fun _=>⟨by decide,fun capd eld hcd g2d=>?_⟩⟩
      subst hd1
      simp only[List.length_nil] at hup hlo
      refine⟨(_,_,([]++[((n:Int),r8)]),some (capd,eld)),[(12,14)],?_,⟨rfl,rfl⟩,kp_,kp_⟩
      dsimp only
      rw[wrapi (n:=q-1) (by omega)]
      refine⟨?_,by omega⟩
      refine⟨by omega,by omega,⟨CsOk.snoc (CsOk.nil _) (Nat.le_of_eq (by first | rfl | (have:=hds.2;simp at this;omega))) (by omega),by simp<;>omega⟩,by simp;omega,by simp;omega,by first | exact hcd | (simp;omega),fun j hj=>?_⟩
      obtain rfl:j=0:=by simpa using hj
      exact g2d 0 (by omega)
     ·have hq0:¬ q>0:=of_decide_eq_false hq
      have:ds=[]:=hd1
      subst this
      simp at hlo
      omega
    ·refine⟨⟨by decide,rfl,rfl⟩,?_⟩
     refine⟨fun hq=>?_,fun hq=>?_⟩
     ·have hq0:q>0:=of_decide_eq_true hq
      refine⟨0,1,cap,zs,_,_,rfl,⟨rfl,rfl⟩,⟨hz,by omega,by omega⟩,⟨_,_,rfl,by omega,by omega,by omega⟩,?_⟩
      rintro _ k8 ⟨_,_,r8,hnn,rfl,hr8,hk8⟩
      cases hnn
      refine⟨kp_,?_⟩
      refine⟨kp_,?_⟩
      refine⟨⟨Nat.le_refl _,fun j hj=>by match j,hj with | 0,_=>rfl⟩,?_⟩
      refine⟨⟨rfl,hd1.1⟩,fun hind eld g1d g2d=>?_,fun hgtd=>⟨by show (ds.length+1) * 16≤140737488355328;omega,fun capd eld hcd g1d g2d=>?_⟩⟩
      ·rw[show ds.length+1=(ds++[((n:Int),r8)]).length by simp]
       refine⟨(_,_,(ds++[((n:Int),r8)]),some (capd,eld)),[],?_,⟨rfl,rfl⟩,kp_,kp_⟩
       dsimp only
       rw[wrapi (n:=q-1) (by omega)]
       refine⟨?_,by omega⟩
       refine⟨by omega,by omega,⟨CsOk.snoc hds.1 hds.2 (by omega),by have:=hds.2;simp<;>omega⟩,by simp;omega,by simp;omega,by first | exact hcd | (simp;omega),fun j hj=>?_⟩
       by_cases hjn:j<ds.length
       ·rw[g1d j hjn,hd1.2 j hjn,List.getD_eq_getElem?_getD,List.getD_eq_getElem?_getD,List.getElem?_append_left hjn]
       ·obtain rfl:j=ds.length:=by simp at hj;omega
        have:=g2d 0 (by omega)
        rw[Nat.add_zero] at this
        rw[this,List.getD_eq_getElem?_getD,List.getElem?_append_right (Nat.le_refl _),Nat.sub_self]
        rfl
      ·rw[show ds.length+1=(ds++[((n:Int),r8)]).length by simp] at hcd ⊢
       refine⟨(_,_,(ds++[((n:Int),r8)]),some (capd,eld)),[(12,14)],?_,⟨rfl,rfl⟩,kp_,kp_⟩
       dsimp only
       rw[wrapi (n:=q-1) (by omega)]
       refine⟨?_,by omega⟩
       refine⟨by omega,by omega,⟨CsOk.snoc hds.1 hds.2 (by omega),by have:=hds.2;simp<;>omega⟩,by simp;omega,by simp;omega,by first | exact hcd | (simp;omega),fun j hj=>?_⟩
       by_cases hjn:j<ds.length
       ·rw[g1d j hjn,hd1.2 j hjn,List.getD_eq_getElem?_getD,List.getD_eq_getElem?_getD,List.getElem?_append_left hjn]
       ·obtain rfl:j=ds.length:=by simp at hj;omega
        have:=g2d 0 (by omega)
        rw[Nat.add_zero] at this
        rw[this,List.getD_eq_getElem?_getD,List.getElem?_append_right (Nat.le_refl _),Nat.sub_self]
        rfl
     ·have hq0:¬ q>0:=of_decide_eq_false hq
      refine⟨(n+1,_,ds,some (capy,ely,capd,eld)),[(6,10),(7,12)],?_,⟨rfl,rfl⟩,(by refine⟨?_,?_⟩;(show some (Value.int .i64 (IntKind.i64.wrap ((n:Int)+1)))=some (Value.int .i64 ((n+1:Nat):Int));rw[wrapi (by omega),show ((n+1:Nat):Int)=(n:Int)+1 by omega]);repeat (first | exact trivial | refine⟨rfl,?_⟩)),kp_⟩
      dsimp only
      exact⟨⟨by omega,by omega,hds.1,by omega,by omega,⟨hy1,hy2⟩,hd1⟩,by omega⟩
  ·have hge:¬ (n:Int)<r1:=of_decide_eq_false hlt
   refine⟨0,1,cap,zs,_,_,rfl,⟨rfl,rfl⟩,⟨hz,by omega,by omega⟩,⟨_,_,rfl,by omega,by omega,by omega⟩,?_⟩
   rintro _ k9 ⟨_,_,r9,hnn,rfl,hr9,hk9⟩
   cases hnn
   have hnr:(n:Int)=r1:=by omega
   refine⟨Int×Int×List Ten×Option (Nat×(Nat→List Value)),fun p=>match p with | (q,kq,ts,o)=>[(6,.int .i64 q)],fun p=>match p with | (q,kq,ts,none)=>[(0,tapeM 1 zs.length cap kq),(5,.box 30 [.int .i64 r1,(slc 6 n capz),(slc 7 cs.length capc),zs0,slc 3 3 3,zs0,slc 4 1 1,.int .i64 r2,.int .i64 r3,.int .i64 r4])] | (q,kq,ts,some (capt,elt))=>[(0,tapeM 1 zs.length cap kq),(5,.box 30 [.int .i64 r1,(slc 6 n capz),(slc 7 cs.length capc),(slc 8 ts.length capt),slc 3 3 3,zs0,slc 4 1 1,.int .i64 r2,.int .i64 r3,.int .i64 r4]),(8,.row (1000000+98) 7 capt elt)],fun p=>match p with | (q,kq,ts,o)=>(0≤q∧q≤8)∧(k9≤kq∧kq+4 * q≤k9+4 * r9)∧(∀ t ∈ ts,tenOk r1 t=true)∧((ts.length:Int)+q≤8)∧(2≤(ts.length:Int)+q)∧match o with | none=>ts=[] | some (capt,elt)=>ts.length≤capt∧∀ j,j<ts.length→elt j=tenC (ts.getD j default),fun p=>match p with | (q,kq,ts,o)=>q.toNat,⟨(r9,k9,[],none),[],⟨by omega,by omega,(fun t ht=>by cases ht),by simp;omega,by simp;omega,rfl⟩,⟨rfl,rfl⟩,kp_,kp_⟩,?_⟩
   rintro⟨q,kq,ts,(_ | ⟨capt,elt⟩)⟩ ⟨hqb,hkq,hts,hup,hlo,ht1⟩
   ·refine⟨⟨by decide,rfl,rfl⟩,?_⟩
    refine⟨fun hq=>?_,fun hq=>?_⟩
    ·have hq0:q>0:=of_decide_eq_true hq
     refine⟨0,1,cap,zs,_,_,rfl,⟨rfl,rfl⟩,⟨hz,by omega,by omega⟩,⟨_,_,rfl,by omega,by omega,by omega⟩,?_⟩
     rintro _ k10 ⟨_,_,r10,hnn,rfl,hr10,hk10⟩
     cases hnn
     refine⟨by rw[IntKind.wrap_u64];omega,?_⟩
     refine⟨0,1,cap,zs,_,_,rfl,⟨rfl,rfl⟩,⟨hz,by omega,by omega⟩,⟨_,rfl,by rw[wrapi (by omega)];omega,by rw[wrapi (by omega)];omega⟩,?_⟩
     rintro _ k11 ⟨_,r11,hnn,rfl,⟨hr11,hk11⟩⟩
     cases hnn
     rw[wrapi (n:=r10+1) (by omega)] at hr11
     refine⟨kp_,?_⟩
     refine⟨0,1,cap,zs,_,_,rfl,⟨rfl,rfl⟩,⟨hz,by omega,by omega⟩,⟨_,rfl,by omega,by omega⟩,?_⟩
     rintro _ k12 ⟨_,r12,hnn,rfl,⟨hr12,hk12⟩⟩
     cases hnn
     refine⟨kp_,?_⟩
     refine⟨0,1,cap,zs,_,_,rfl,⟨rfl,rfl⟩,⟨hz,by omega,by omega⟩,⟨_,_,rfl,by omega,by omega,by omega⟩,?_⟩
     rintro _ k13 ⟨_,_,r13,hnn,rfl,hr13,hk13⟩
     cases hnn
     refine⟨kp_,?_⟩
     refine⟨kp_,?_⟩
     refine⟨⟨Nat.le_refl _,fun j hj=>by match j,hj with | 0,_=>rfl⟩,?_⟩
     refine⟨fun h=>absurd h (by decide),fun _=>⟨by decide,fun capt elt hct g2t=>?_⟩⟩
     subst ht1
     simp only[List.length_nil] at hup hlo
     refine⟨(_,_,([]++[(⟨r10,r11,r12,r13,allowRaw r1,0,false⟩:Ten)]),some (capt,elt)),[(8,10)],?_,⟨rfl,rfl⟩,kp_,kp_⟩
     dsimp only
     rw[wrapi (n:=q-1) (by omega)]
     refine⟨?_,by omega⟩
     refine⟨by omega,by omega,?_,by simp;omega,by simp;omega,by first | exact hct | (simp;omega),fun j hj=>?_⟩
     ·intro t ht
      rcases List.mem_append.1 ht with ht | ht
      ·exact hts t ht
      ·rw[List.mem_singleton.1 ht];exact ten_ok hr1 hr10 hr11 hr12 hr13
     obtain rfl:j=0:=by simpa using hj
     exact g2t 0 (by omega)
    ·have hq0:¬ q>0:=of_decide_eq_false hq
     have:ts=[]:=ht1
     subst this
     simp at hlo
     omega
   ·refine⟨⟨by decide,rfl,rfl⟩,?_⟩
    refine⟨fun hq=>?_,fun hq=>?_⟩
    ·have hq0:q>0:=of_decide_eq_true hq
     refine⟨0,1,cap,zs,_,_,rfl,⟨rfl,rfl⟩,⟨hz,by omega,by omega⟩,⟨_,_,rfl,by omega,by omega,by omega⟩,?_⟩
     rintro _ k10 ⟨_,_,r10,hnn,rfl,hr10,hk10⟩
     cases hnn
     refine⟨by rw[IntKind.wrap_u64];omega,?_⟩
     refine⟨0,1,cap,zs,_,_,rfl,⟨rfl,rfl⟩,⟨hz,by omega,by omega⟩,⟨_,rfl,by rw[wrapi (by omega)];omega,by rw[wrapi (by omega)];omega⟩,?_⟩
     rintro _ k11 ⟨_,r11,hnn,rfl,⟨hr11,hk11⟩⟩
     cases hnn
     rw[wrapi (n:=r10+1) (by omega)] at hr11
     refine⟨kp_,?_⟩
     refine⟨0,1,cap,zs,_,_,rfl,⟨rfl,rfl⟩,⟨hz,by omega,by omega⟩,⟨_,rfl,by omega,by omega⟩,?_⟩
     rintro _ k12 ⟨_,r12,hnn,rfl,⟨hr12,hk12⟩⟩
     cases hnn
     refine⟨kp_,?_⟩
     refine⟨0,1,cap,zs,_,_,rfl,⟨rfl,rfl⟩,⟨hz,by omega,by omega⟩,⟨_,_,rfl,by omega,by omega,by omega⟩,?_⟩
     rintro _ k13 ⟨_,_,r13,hnn,rfl,hr13,hk13⟩
     cases hnn
     refine⟨kp_,?_⟩
     refine⟨kp_,?_⟩
     refine⟨⟨Nat.le_refl _,fun j hj=>by match j,hj with | 0,_=>rfl⟩,?_⟩
     refine⟨⟨rfl,ht1.1⟩,fun hint elt g1t g2t=>?_,fun hgtt=>⟨by show (ts.length+1) * 56≤140737488355328;omega,fun capt elt hct g1t g2t=>?_⟩⟩
     ·rw[show ts.length+1=(ts++[(⟨r10,r11,r12,r13,allowRaw r1,0,false⟩:Ten)]).length by simp]
      refine⟨(_,_,(ts++[(⟨r10,r11,r12,r13,allowRaw r1,0,false⟩:Ten)]),some (capt,elt)),[],?_,⟨rfl,rfl⟩,kp_,kp_⟩
      dsimp only
      rw[wrapi (n:=q-1) (by omega)]
      refine⟨?_,by omega⟩
      refine⟨by omega,by omega,?_,by simp;omega,by simp;omega,by first | exact hct | (simp;omega),fun j hj=>?_⟩
      ·intro t ht
       rcases List.mem_append.1 ht with ht | ht
       ·exact hts t ht
       ·rw[List.mem_singleton.1 ht];exact ten_ok hr1 hr10 hr11 hr12 hr13
      by_cases hjn:j<ts.length
      ·rw[g1t j hjn,ht1.2 j hjn,List.getD_eq_getElem?_getD,List.getD_eq_getElem?_getD,List.getElem?_append_left hjn]
      ·obtain rfl:j=ts.length:=by simp at hj;omega
       have:=g2t 0 (by omega)
       rw[Nat.add_zero] at this
       rw[this,List.getD_eq_getElem?_getD,List.getElem?_append_right (Nat.le_refl _),Nat.sub_self]
       rfl
     ·rw[show ts.length+1=(ts++[(⟨r10,r11,r12,r13,allowRaw r1,0,false⟩:Ten)]).length by simp] at hct ⊢
      refine⟨(_,_,(ts++[(⟨r10,r11,r12,r13,allowRaw r1,0,false⟩:Ten)]),some (capt,elt)),[(8,10)],?_,⟨rfl,rfl⟩,kp_,kp_⟩
      dsimp only
      rw[wrapi (n:=q-1) (by omega)]
      refine⟨?_,by omega⟩
      refine⟨by omega,by omega,?_,by simp;omega,by simp;omega,by first | exact hct | (simp;omega),fun j hj=>?_⟩
      ·intro t ht
       rcases List.mem_append.1 ht with ht | ht
       ·exact hts t ht
       ·rw[List.mem_singleton.1 ht];exact ten_ok hr1 hr10 hr11 hr12 hr13
      by_cases hjn:j<ts.length
      ·rw[g1t j hjn,ht1.2 j hjn,List.getD_eq_getElem?_getD,List.getD_eq_getElem?_getD,List.getElem?_append_left hjn]
      ·obtain rfl:j=ts.length:=by simp at hj;omega
       have:=g2t 0 (by omega)
       rw[Nat.add_zero] at this
       rw[this,List.getD_eq_getElem?_getD,List.getElem?_append_right (Nat.le_refl _),Nat.sub_self]
       rfl
    ·have hq0:¬ q>0:=of_decide_eq_false hq
     refine⟨0,1,cap,zs,_,_,rfl,⟨rfl,rfl⟩,⟨hz,by omega,by omega⟩,⟨_,rfl,by omega,by omega⟩,?_⟩
     rintro _ k14 ⟨_,r14,hnn,rfl,⟨hr14,hk14⟩⟩
     cases hnn
     refine⟨kp_,?_⟩
     have hzl:(zonesL n).length=n:=by simp[zonesL]
     have e5:IntKind.i64.wrap (1+r5)=1+r5:=wrapi (by omega)
     have e1:IntKind.i64.wrap (r1-1)=r1-1:=wrapi (by omega)
     refine⟨k14,⟨6,7,8,3,9,4,0⟩,⟨capz,capc,capt,3,3,1⟩,mcC n r1 cs ts r5 r6 r14 r2 r3 r4,⟨mcC_ok hnr hr1 hcs hcl hcu hts (by omega) hr5 hr6 hr2 hr3 hr4,(mcC_first hcs (by omega) hcu).1,(mcC_first hcs (by omega) hcu).2,(show 1≤ts.length by omega)⟩,⟨by omega,by omega⟩,?_,rfl,?_⟩
     ·exact congrArg (fun m=>Value.agg #[.int .i64 r1,slc 6 m capz,slc 7 cs.length capc,slc 8 ts.length capt,slc 3 3 3,slc 9 3 3,slc 4 1 1,.int .i64 r2,.int .i64 r3,.int .i64 r4]) hzl.symm
     ·refine⟨⟨_,_,_,rfl,rfl,?_,fun j hj=>?_⟩,⟨_,_,_,rfl,rfl,hc1.1,hc1.2⟩,⟨_,_,_,rfl,rfl,ht1.1,ht1.2⟩,⟨_,3,_,rfl,rfl,Nat.le_refl _,fun j hj=>?_⟩,⟨_,3,_,rfl,rfl,Nat.le_refl _,fun j hj=>?_⟩,⟨_,1,_,rfl,rfl,Nat.le_refl _,fun j hj=>?_⟩⟩
      ·show (zonesL n).length≤capz
       rw[hzl]
       exact hz1.1
      ·have hj:j<(zonesL n).length:=hj
       rw[hzl] at hj
       show _=intC ((zonesL n).getD j 0)
       rw[hz1.2 j hj,zonesL_get hj]
      ·match j,hj with
       | 0,_=>rfl
       | 1,_=>(show [Value.int .i64 0,Value.int .i64 (IntKind.i64.wrap (1+r5))]=_;rw[e5];rfl)
       | 2,_=>rfl
      ·match j,hj with
       | 0,_=>rfl
       | 1,_=>(show [Value.int .i64 (IntKind.i64.wrap (r1-1))]=_;rw[e1];rfl)
       | 2,_=>(show [Value.int .i64 (IntKind.i64.wrap (r1-1))]=_;rw[e1];rfl)
      ·match j,hj with
       | 0,_=>rfl
end Go.Proofs.YtnnpgbleacapfaaGreat
