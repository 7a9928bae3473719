import Derived.Test.YtdjkeplekchfdaaPf22
namespace Go.Proofs.Ytdjkeplekchfdaa
open Go.RowKit
set_option linter.unusedSimpArgs false
set_option linter.unusedVariables false
/-! Lineage,program and reference: where a list of atlases breaks. -/
def LinOk (c:Cfg) (key:Int) (xs:List Atl) (i:Nat):Prop:=ValidA c (xs.getD i aZ) key∧(0<i→FolA (xs.getD (i-1) aZ) (xs.getD i aZ))
def LinR (c:Cfg) (key:Int) (xs:List Atl) (z:Int):Prop:=(z=-1∧∀ i,i<xs.length→LinOk c key xs i)∨∃ i:Nat,z=i∧i<xs.length∧¬ LinOk c key xs i∧∀ j,j<i→LinOk c key xs j
theorem LinR.uniq {c:Cfg} {key:Int} {xs:List Atl} {z y:Int} (h:LinR c key xs z) (h2:LinR c key xs y):z=y:=by
 rcases h with⟨rfl,h⟩ | ⟨i,rfl,hi,hn,ho⟩
 ·rcases h2 with⟨rfl,-⟩ | ⟨j,rfl,hj,hm,-⟩
  ·rfl
  ·exact absurd (h j hj) hm
 ·rcases h2 with⟨rfl,h2⟩ | ⟨j,rfl,hj,hm,hp⟩
  ·exact absurd (h2 i hi) hn
  ·by_cases q:i<j
   ·exact absurd (hp i q) hn
   ·by_cases q2:j<i
    ·exact absurd (ho j q2) hm
    ·rw[show i=j by omega]
abbrev dM (c:Cfg) (xs:List Atl) (cps:List Nat):AM:=(0,deepA 3 0 xs cps 1)::(1,famB 3 xs)::(cfgM CN0 c++[])
def dpL9 (p q:Pl) (n:Nat) (x:CfgA) (c:Cfg):Nat→Pl:=fun j=>match j with
 | 0=>⟨p.A,5,n,false,noSub⟩
 | 1=>⟨none,0,0,false,fun k o=>q.sub k o⟩
 | 2=>⟨x.az,1,c.zones.length,false,noSub⟩
 | 3=>⟨x.ac,2,c.cells.length,false,noSub⟩
 | 4=>⟨x.at_,7,c.tenants.length,false,noSub⟩
 | 5=>⟨x.av,2,c.versions.length,false,noSub⟩
 | 6=>⟨x.ar,1,c.replicas.length,false,noSub⟩
 | _=>⟨x.ao,1,c.observers.length,false,noSub⟩
set_option maxRecDepth 20000 in
theorem deep_calls {τ:TT} (hτ:TTok Try.prog τ) {f:FuncId} {fn:Func} {F:FT} {D:List (Nat×DQ)} (hF:FTokI Try.prog F (inlOf D)) (hf:(Try.prog).funcs[f]?=some fn) (hb:fn.body=some (bodyOf fn)) (hcode:codeB fn.ntmps D (bodyOf fn)=true) (hn:Nat.ble 3 fn.ntmps=true)
  {C:Ctx} {ρ:Nat→Pl} {fr:AF} {mem:AM} {nx:Nat} {a:Act} {w:World} (hs:Sat C ρ fr mem nx a w) {r u cp:Nat} {t tf:TypeId} {xs:List Atl} {cps:List Nat} (h1:lk mem r=some (deepA t cp xs cps u)) (h2:lk mem u=some (famB tf xs)) {N:CN} {x:CfgK} {c:Cfg} (hc:HasCfg mem N c) (cap:Nat) (key:Int) {R:Int→Prop}
  (h:sx τ F D (bodyOf fn) (argF 0 [cfgV CN0 x c,.slice (some ⟨0,0,none⟩) xs.length cap,.int .i64 key]) (dM c xs cps) 8 (endx τ fn.results.toList fun v _ _=>∃ z,v=.int .i64 z∧R z)) :
  Calls Try.prog f ([cfgV N x c,.slice (some ⟨r,0,none⟩) xs.length cap,.int .i64 key].map (den ρ)).toArray w fun e w'=>∃ z,e=.returned (.int .i64 z)∧R z∧Below w.heap.size w w':=by
 have hco:=hs.cfgH (x:=x) hc
 obtain⟨hfo,hfs⟩:=hs.blk u _ (lk_app h2)
 obtain⟨⟨hz,hn0⟩,hu,hel,hd⟩:=hs.blk r _ (lk_app h1)
 have hpc:CfgPl (dpL9 (ρ r) (ρ u) xs.length (cfgX ρ N x) c) CN0 (cfgX ρ N x) c:=⟨rfl,rfl,rfl,rfl,rfl,rfl⟩
 have qc:=cfg_blks (C:={ w0:=w,bor:=[],n0:=8,ρ0:=dpL9 (ρ r) (ρ u) xs.length (cfgX ρ N x) c,nt:=fn.ntmps }) (nx:=8) (r:=[]) hpc hco (fun b hb=>hb) (by decide) trivial
 have hm:MemAt { w0:=w,bor:=[],n0:=8,ρ0:=dpL9 (ρ r) (ρ u) xs.length (cfgX ρ N x) c,nt:=fn.ntmps } (dpL9 (ρ r) (ρ u) xs.length (cfgX ρ N x) c) (dM c xs cps) 8 w:=MemAt.ro trivial ⟨⟨by decide,rfl,⟨rfl,rfl⟩,⟨by decide,rfl⟩,hel,?_⟩,⟨by decide,rfl,rfl,fun k o=>⟨(hfs k o).1,?_⟩⟩,qc⟩
 ·have hv:[cfgV N x c,.slice (some ⟨r,0,none⟩) xs.length cap,.int .i64 key].map (den ρ)=[cfgV CN0 x c,.slice (some ⟨0,0,none⟩) xs.length cap,.int .i64 key].map (den (dpL9 (ρ r) (ρ u) xs.length (cfgX ρ N x) c)):=by
   have e1:=den_cfg ρ N x c
   have e2:=den_cfg (dpL9 (ρ r) (ρ u) xs.length (cfgX ρ N x) c) CN0 x c
   simp only[List.map_cons,List.map_nil,e1,e2]
   rfl
  rw[hv]
  refine (calls_sxI hτ hF mixed hf hb hcode (vs:=[cfgV CN0 x c,.slice (some ⟨0,0,none⟩) xs.length cap,.int .i64 key]) hn ⟨rfl,rfl⟩ rfl hm (fun v hv=>?_) h).mono ?_
  ·simp only[List.mem_cons,List.not_mem_nil,or_false] at hv
   rcases hv with rfl | rfl | rfl
   ·intro u hu
    simp at hu
    rcases hu with rfl | rfl | rfl | rfl | rfl | rfl | rfl | rfl | rfl | rfl<;>first | trivial | exact⟨by decide,rfl⟩
   ·exact⟨show (0:Nat)<8 by decide,rfl⟩
   ·trivial
  ·rintro e w' ⟨v,mem',nx',ρ',rfl,⟨z,rfl,hR⟩,hv',hm'⟩
   exact⟨z,rfl,hR,⟨hm'.rest.os,hm'.rest.tape,hm'.rest.output,hm'.rest.size,fun b hlt=>hm'.rest.block b hlt (by simp)⟩⟩
 ·rcases hd with h0 | ⟨h0,b,off,e1,e2,-,e3⟩
  ·exact .inl ⟨h0.1,fun q=>by cases q⟩
  ·refine .inr ⟨h0,b,off,e1,⟨e2.lt,(fun q=>by cases q),(fun q=>by cases q)⟩,(fun q=>by cases q),fun k hk j v hv=>?_⟩
   rw[e3 k hk j v hv]
   exact congrArg some (dp_dp (ρ:=ρ) (u:=u) (k:=k) (ρ':=dpL9 (ρ r) (ρ u) xs.length (cfgX ρ N x) c) (u':=1) (k':=k) ((hel k hk).2 v (List.mem_of_getElem? hv)) rfl).symm
 ·rcases (hfs k o).2 with h0 | ⟨b,off,e1,e2,e3⟩
  ·exact .inl h0
  ·exact .inr ⟨b,off,e1,⟨e2.lt,(fun q=>by cases q),(fun q=>by cases q)⟩,e3⟩
def lpF:FT:=[(28,ctValidGP),(32,ctFollows)]
def lpD:List (Nat×DQ):=[(2000002,{ k:=0,L:=[0,1,2,3,4,5,6,7,8],sl:=[1,2,3,9,10] }),(4,{ k:=15,L:=[0,1,2,3,4,5,6,7,8,9,10,11,12,13,14,15,16,17,18,19,20,21,22,23,24,25,26,27,28,29,30,31,32,33,34,35,36,37,38,39,40,41,42,43,44,45,46,47,48,49,50,51,52,53,54,55,56,57,58,59,60],pre:=[(0,false),(1,false),(2,false),(3,true),(4,false),(5,false),(6,false),(7,false),(8,false),(9,false),(10,false),(11,false),(12,false),(13,false),(14,false)] })]
theorem lpFok:FTokI Try.prog lpF (inlOf lpD):=fti_cons (validGPOk.i _) (fti_cons (followsOk.i _) fti_nil)
def lqF:FT:=[(29,ctValidGR),(33,ctFollowsR)]
def lqD:List (Nat×DQ):=[(2000002,{ k:=0,L:=[0,1,2,3,4,5,6,7,8],sl:=[1,2,3] }),(4,{ k:=21,L:=[0,1,2,3,4,5,6,7,8,9,10,11,12,13,14,15,16,17,18,19,20,21,22,23,24,25,26,27,28,29,30,31,32,33,34,35,36,37,38,39,40,41,42,43,44,45,46,47,48,49,50,51,52,53,54,55,56,57,58,59,60],pre:=[(0,false),(1,false),(2,false),(3,false),(4,false),(5,false),(6,true),(7,false),(8,false),(9,false),(10,false),(11,false),(12,false),(13,false),(14,false),(15,false),(16,false),(17,false),(18,false),(19,false),(20,false)] })]
theorem lqFok:FTokI Try.prog lqF (inlOf lqD):=fti_cons (validGROk.i _) (fti_cons (followsROk.i _) fti_nil)
set_option maxRecDepth 100000 in
set_option maxHeartbeats 4000000 in
theorem linP_sx (c:Cfg) (x:CfgK) (xs:List Atl) (cps:List Nat) (cap:Nat) (key:Int) (hL:Lens c) (hlen:xs.length≤1000) (hr:∀ k,k<xs.length→(xs.getD k aZ).routes.length≤1000000) :
  sx ttL lpF lpD (bodyOf Try.f34) (argF 0 [cfgV CN0 x c,.slice (some ⟨0,0,none⟩) xs.length cap,.int .i64 key]) (dM c xs cps) 8 (endx ttL Try.f34.results.toList fun v _ _=>∃ z,v=.int .i64 z∧LinR c key xs z):=by
 refine⟨Int,fun j=>[(11,.int .i64 j)],fun _=>[],fun j=>(0≤j∧j≤xs.length)∧∀ i,i<j.toNat→LinOk c key xs i,fun j=>((xs.length:Int)-j).toNat,⟨0,⟨by omega,fun i hi=>absurd hi (by omega)⟩,kp_,kp_⟩,?_⟩
 rintro j ⟨hj,hall⟩
 refine⟨⟨rfl,rfl⟩,?_⟩
 refine⟨fun hlt=>?_,fun hge=>?_⟩
 ·have hlt2:j<(xs.length:Int):=of_decide_eq_true hlt
  refine⟨⟨Nat.le_refl _,hj.1,hlt2⟩,?_⟩
  refine⟨_,c,xs.getD j.toNat aZ,_,key,rfl,⟨.has (N:=CN0) (x:=x) (HasCfg.keeps kp_),.fam rfl⟩,hL,fun b1 hb1=>?_⟩
  refine⟨kp_,?_⟩
  cases b1
  ·repeat (first | refine⟨fun _=>?_,fun h=>Bool.noConfusion h⟩ | refine⟨fun h=>Bool.noConfusion h,fun _=>?_⟩ | fail)
   exact⟨j,rfl,.inr ⟨j.toNat,by omega,by omega,(fun q=>Bool.noConfusion (hb1.2 q.1)),hall⟩⟩
  ·have hv:=hb1.1 rfl
   repeat (first | refine⟨fun _=>?_,fun h=>Bool.noConfusion h⟩ | refine⟨fun h=>Bool.noConfusion h,fun _=>?_⟩ | fail)
   refine⟨fun hp=>?_,fun hp=>?_⟩
   ·have hp2:j>0:=of_decide_eq_true hp
    have w1:=wrapi (n:=j-1) (by omega)
    refine⟨⟨Nat.le_refl _,by rw[w1];omega,by rw[w1];omega⟩,?_⟩
    rw[w1]
    refine⟨xs.getD (j-1).toNat aZ,xs.getD j.toNat aZ,_,_,rfl,⟨.fam rfl,.fam rfl⟩,hr _ (by omega),fun r hr2=>?_⟩
    rw[show (j-1).toNat=j.toNat-1 by omega] at hr2
    cases r
    ·repeat (first | refine⟨fun _=>?_,fun h=>Bool.noConfusion h⟩ | refine⟨fun h=>Bool.noConfusion h,fun _=>?_⟩ | fail)
     exact⟨j,rfl,.inr ⟨j.toNat,by omega,by omega,(fun q=>Bool.noConfusion (hr2.2 (q.2 (by omega)))),hall⟩⟩
    ·repeat (first | refine⟨fun _=>?_,fun h=>Bool.noConfusion h⟩ | refine⟨fun h=>Bool.noConfusion h,fun _=>?_⟩ | fail)
     refine⟨_,?_,kp_,kp_⟩
     rw[wrapi (n:=j+1) (by omega)]
     dsimp only
     refine⟨⟨by omega,fun i hi=>?_⟩,by omega⟩
     by_cases q:i<j.toNat
     ·exact hall i q
     ·obtain rfl:i=j.toNat:=by omega
      exact⟨hv,fun _=>hr2.1 rfl⟩
   ·repeat (first | refine⟨fun _=>?_,fun h=>Bool.noConfusion h⟩ | refine⟨fun h=>Bool.noConfusion h,fun _=>?_⟩ | fail)
    have hp2:¬ j>0:=of_decide_eq_false hp
    refine⟨_,?_,kp_,kp_⟩
    rw[wrapi (n:=j+1) (by omega)]
    dsimp only
    refine⟨⟨by omega,fun i hi=>?_⟩,by omega⟩
    by_cases q:i<j.toNat
    ·exact hall i q
    ·obtain rfl:i=j.toNat:=by omega
     exact⟨hv,fun h=>absurd h (by omega)⟩
 ·have hge2:¬ j<(xs.length:Int):=of_decide_eq_false hge
  exact⟨-1,rfl,.inl ⟨rfl,fun i hi=>hall i (by omega)⟩⟩
set_option maxRecDepth 100000 in
set_option maxHeartbeats 4000000 in
theorem linQ_sx (c:Cfg) (x:CfgK) (xs:List Atl) (cps:List Nat) (cap:Nat) (key:Int) (hL:Lens c) (hlen:xs.length≤1000) (hr:∀ k,k<xs.length→(xs.getD k aZ).routes.length≤1000000) :
  sx ttL lqF lqD (bodyOf Try.f35) (argF 0 [cfgV CN0 x c,.slice (some ⟨0,0,none⟩) xs.length cap,.int .i64 key]) (dM c xs cps) 8 (endx ttL Try.f35.results.toList fun v _ _=>∃ z,v=.int .i64 z∧LinR c key xs z):=by
 refine⟨Int,fun j=>[(7,.int .i64 j)],fun _=>[],fun j=>(0≤j∧j≤xs.length)∧∀ i,i<j.toNat→LinOk c key xs i,fun j=>((xs.length:Int)-j).toNat,⟨0,⟨by omega,fun i hi=>absurd hi (by omega)⟩,kp_,kp_⟩,?_⟩
 rintro j ⟨hj,hall⟩
 refine⟨⟨rfl,rfl⟩,?_⟩
 refine⟨fun hlt=>?_,fun hge=>?_⟩
 ·have hlt2:j<(xs.length:Int):=of_decide_eq_true hlt
  refine⟨⟨Nat.le_refl _,hj.1,hlt2⟩,?_⟩
  refine⟨_,c,xs.getD j.toNat aZ,_,key,rfl,⟨.has (N:=CN0) (x:=x) (HasCfg.keeps kp_),.fam rfl⟩,hL,fun b1 hb1=>?_⟩
  refine⟨kp_,?_⟩
  cases b1
  ·repeat (first | refine⟨fun _=>?_,fun h=>Bool.noConfusion h⟩ | refine⟨fun h=>Bool.noConfusion h,fun _=>?_⟩ | fail)
   exact⟨j,rfl,.inr ⟨j.toNat,by omega,by omega,(fun q=>Bool.noConfusion (hb1.2 q.1)),hall⟩⟩
  ·have hv:=hb1.1 rfl
   repeat (first | refine⟨fun _=>?_,fun h=>Bool.noConfusion h⟩ | refine⟨fun h=>Bool.noConfusion h,fun _=>?_⟩ | fail)
   refine⟨fun hp=>?_,fun hp=>?_⟩
   ·have hp2:j>0:=of_decide_eq_true hp
    have w1:=wrapi (n:=j-1) (by omega)
    refine⟨⟨Nat.le_refl _,by rw[w1];omega,by rw[w1];omega⟩,?_⟩
    refine⟨⟨Nat.le_refl _,hj.1,hlt2⟩,?_⟩
    rw[w1]
    refine⟨xs.getD (j-1).toNat aZ,xs.getD j.toNat aZ,_,_,rfl,⟨.fam rfl,.fam rfl⟩,hr _ (by omega),fun r hr2=>?_⟩
    rw[show (j-1).toNat=j.toNat-1 by omega] at hr2
    cases r
    ·repeat (first | refine⟨fun _=>?_,fun h=>Bool.noConfusion h⟩ | refine⟨fun h=>Bool.noConfusion h,fun _=>?_⟩ | fail)
     exact⟨j,rfl,.inr ⟨j.toNat,by omega,by omega,(fun q=>Bool.noConfusion (hr2.2 (q.2 (by omega)))),hall⟩⟩
    ·repeat (first | refine⟨fun _=>?_,fun h=>Bool.noConfusion h⟩ | refine⟨fun h=>Bool.noConfusion h,fun _=>?_⟩ | fail)
     refine⟨_,?_,kp_,kp_⟩
     rw[wrapi (n:=j+1) (by omega)]
     dsimp only
     refine⟨⟨by omega,fun i hi=>?_⟩,by omega⟩
     by_cases q:i<j.toNat
     ·exact hall i q
     ·obtain rfl:i=j.toNat:=by omega
      exact⟨hv,fun _=>hr2.1 rfl⟩
   ·repeat (first | refine⟨fun _=>?_,fun h=>Bool.noConfusion h⟩ | refine⟨fun h=>Bool.noConfusion h,fun _=>?_⟩ | fail)
    have hp2:¬ j>0:=of_decide_eq_false hp
    refine⟨_,?_,kp_,kp_⟩
    rw[wrapi (n:=j+1) (by omega)]
    dsimp only
    refine⟨⟨by omega,fun i hi=>?_⟩,by omega⟩
    by_cases q:i<j.toNat
    ·exact hall i q
    ·obtain rfl:i=j.toNat:=by omega
     exact⟨hv,fun h=>absurd h (by omega)⟩
 ·have hge2:¬ j<(xs.length:Int):=of_decide_eq_false hge
  exact⟨-1,rfl,.inl ⟨rfl,fun i hi=>hall i (by omega)⟩⟩
def ctLinG:CT:=fun vs mem nx K=>∃ N x c r u cp t tf xs cps cap key n,vs=[cfgV N x c,.slice (some ⟨r,0,none⟩) n cap,.int .i64 key]∧n=(xs:List Atl).length∧(HasCfg mem N c∧lk mem r=some (.ext (.deep t 5 n cp (atlEl xs cps) u))∧lk mem u=some (famB tf xs))∧(Lens c∧xs.length≤1000∧∀ k,k<xs.length→(xs.getD k aZ).routes.length≤1000000)∧∀ z,LinR c key xs z→K (.int .i64 z) mem nx
theorem linPOk:CSound Try.prog 34 ctLinG:=⟨by kernel_rfl,fun {C ρ fr mem nx q w vs K} hc hs hv=>by
 obtain⟨N,x,c,r,u,cp,t,tf,xs,cps,cap,key,n,rfl,rfl,⟨hcf,h1,h2⟩,⟨hL,hlen,hr⟩,hK⟩:=hc
 refine (deep_calls ttLok lpFok Try.func34 rfl (D:=lpD) (by kernel_rfl) rfl hs h1 h2 hcf cap key (linP_sx c x xs cps cap key hL hlen hr)).mono ?_
 rintro e w' ⟨z,rfl,hz,hb⟩
 exact⟨_,mem,nx,ρ,rfl,hK z hz,hs.later hb,trivial,ExtS.refl _ _⟩⟩
theorem linROk:CSound Try.prog 35 ctLinG:=⟨by kernel_rfl,fun {C ρ fr mem nx q w vs K} hc hs hv=>by
 obtain⟨N,x,c,r,u,cp,t,tf,xs,cps,cap,key,n,rfl,rfl,⟨hcf,h1,h2⟩,⟨hL,hlen,hr⟩,hK⟩:=hc
 refine (deep_calls ttLok lqFok Try.func35 rfl (D:=lqD) (by kernel_rfl) rfl hs h1 h2 hcf cap key (linQ_sx c x xs cps cap key hL hlen hr)).mono ?_
 rintro e w' ⟨z,rfl,hz,hb⟩
 exact⟨_,mem,nx,ρ,rfl,hK z hz,hs.later hb,trivial,ExtS.refl _ _⟩⟩
/-! law15.bent -/
def bentK (a:Atl) (by_:Int):Int:=if a.routes.length=0 then 0 else by_ % a.routes.length
theorem bentK_pos {a:Atl} {by_:Int} (h:a.routes.length≠0):by_ % (a.routes.length:Int)=bentK a by_:=by unfold bentK;rw[if_neg h]
theorem bentK_zero {a:Atl} {by_:Int} (h:a.routes.length=0):0=bentK a by_:=by unfold bentK;rw[if_pos h]
theorem bentK_bd {a:Atl} {by_:Int} (h:a.routes.length≠0):0≤bentK a by_∧bentK a by_<a.routes.length:=by
 unfold bentK
 rw[if_neg h]
 exact⟨Int.emod_nonneg _ (by omega),Int.emod_lt_of_pos _ (by omega)⟩
def bentA (a:Atl) (which by_:Int):Atl:=
 if which % 7=0 then { a with number:=by_ } else if which % 7=1 then { a with tick:=by_ } else if which % 7=2 then { a with parent:=IntKind.u64.wrap by_ } else if which % 7=3 then { a with sum:=IntKind.u64.wrap by_ }
 else if which % 7=4 then { a with routes:=a.routes++[(-1,0)] } else if a.routes.length=0 then a else { a with routes:=a.routes.set (bentK a by_).toNat (-2+by_ % 12,-1+which % 11) }
section
variable {a:Atl} {which by_:Int}
theorem bent_0 (h0:which % 7=0):bentA a which by_={ a with number:=by_ }:=if_pos h0
theorem bent_1 (h0:¬ which % 7=0) (h1:which % 7=1):bentA a which by_={ a with tick:=by_ }:=(if_neg h0).trans (if_pos h1)
theorem bent_2 (h0:¬ which % 7=0) (h1:¬ which % 7=1) (h2:which % 7=2):bentA a which by_={ a with parent:=IntKind.u64.wrap by_ }:=(if_neg h0).trans ((if_neg h1).trans (if_pos h2))
theorem bent_3 (h0:¬ which % 7=0) (h1:¬ which % 7=1) (h2:¬ which % 7=2) (h3:which % 7=3):bentA a which by_={ a with sum:=IntKind.u64.wrap by_ }:=(if_neg h0).trans ((if_neg h1).trans ((if_neg h2).trans (if_pos h3)))
theorem bent_4 (h0:¬ which % 7=0) (h1:¬ which % 7=1) (h2:¬ which % 7=2) (h3:¬ which % 7=3) (h4:which % 7=4):bentA a which by_={ a with routes:=a.routes++[(-1,0)] }:=(if_neg h0).trans ((if_neg h1).trans ((if_neg h2).trans ((if_neg h3).trans (if_pos h4))))
theorem bent_6 (h0:¬ which % 7=0) (h1:¬ which % 7=1) (h2:¬ which % 7=2) (h3:¬ which % 7=3) (h4:¬ which % 7=4) (h5:a.routes.length=0):bentA a which by_=a:=(if_neg h0).trans ((if_neg h1).trans ((if_neg h2).trans ((if_neg h3).trans ((if_neg h4).trans (if_pos h5)))))
theorem bent_5 (h0:¬ which % 7=0) (h1:¬ which % 7=1) (h2:¬ which % 7=2) (h3:¬ which % 7=3) (h4:¬ which % 7=4) (h5:a.routes.length≠0):bentA a which by_={ a with routes:=a.routes.set (bentK a by_).toNat (-2+by_ % 12,-1+which % 11) }:=(if_neg h0).trans ((if_neg h1).trans ((if_neg h2).trans ((if_neg h3).trans ((if_neg h4).trans (if_neg h5)))))
end
theorem snoc_rt {l:List (Int×Int)} {el el2:Nat→List Value} {x:Int×Int} (h:∀ k,k<l.length→el k=pairC (l.getD k (0,0))) (g1:∀ k,k<l.length→el2 k=el k) (g2:el2 (l.length+0)=pairC x):∀ k,k<l.length+1→el2 k=pairC ((l++[x]).getD k (0,0)):=by
 intro k hk
 by_cases h1:k<l.length
 ·rw[g1 k h1,h k h1,List.getD_eq_getElem?_getD,List.getD_eq_getElem?_getD,List.getElem?_append_left h1]
 ·obtain rfl:k=l.length:=by omega
  rw[Nat.add_zero] at g2
  rw[g2,List.getD_eq_getElem?_getD,List.getElem?_append_right (Nat.le_refl _)]
  simp
theorem set_rt {l:List (Int×Int)} {el:Nat→List Value} {j:Nat} {x:Int×Int} {c:List Value} (h:∀ k,k<l.length→el k=pairC (l.getD k (0,0))) (hc:c=pairC x):∀ k,k<l.length→setEl el j c k=pairC ((l.set j x).getD k (0,0)):=by
 intro k hk
 by_cases h1:k=j
 ·subst h1
  rw[getD_set hk]
  unfold setEl
  rw[Nat.beq_refl,hc]
 ·rw[setEl_ne h1,h k hk,List.getD_eq_getElem?_getD,List.getD_eq_getElem?_getD,List.getElem?_set_ne (Ne.symm h1)]
abbrev btF:FT:=[(31,ctMod)]
abbrev ctBtw:CT:=ctInl ttA btF [] Try.f47 (bodyOf Try.f47)
def bnF:FT:=[(31,ctMod),(47,ctBtw)]
def bnD:List (Nat×DQ):=[(9000000,{ k:=0,L:=[47] }),(4000002,{ k:=4,L:=[2],sl:=[1,2,3,6] }),(1000005,{ k:=4,L:=[1,2,3],sl:=[1,2,3,6] }),(7,{ k:=8,L:=[0,1,2,3,4,5,6,7,8,9,10,11,12],pre:=[(0,false),(1,false),(2,false),(3,false),(5,false),(4,true),(6,true),(7,false)] })]
theorem bnFok:FTokI Try.prog bnF (inlOf bnD):=fti_cons (modOk.i _) (fti_cons (inl_ok ttAok (fti_cons (modOk.i _) fti_nil) mixed (by kernel_rfl) Try.func47 rfl (by kernel_rfl) (by decide)) fti_nil)
set_option maxRecDepth 100000 in
set_option maxHeartbeats 4000000 in
theorem bent_sx (cap:Nat) (a:Atl) (which by_:Int) (hl:a.routes.length≤1000) :
  sx ttA bnF bnD (bodyOf Try.f26) (argF 0 [atlV a (slc 0 a.routes.length cap),.int .i64 which,.int .i64 by_]) [(0,rowOfL 3 2 pairC (0,0) a.routes)] 1 (endx ttA Try.f26.results.toList fun v mem' _=>∃ v2,v=atlV (bentA a which by_) v2∧SlR mem' 2 pairC (0,0) (bentA a which by_).routes v2):=by
 refine⟨Nat×(Nat→List Value),fun q=>match q with | (cp,el)=>[],fun q=>match q with | (cp,el)=>[(1,.box 46 [.int .i64 a.number,.int .i64 a.tick,slc 3 a.routes.length cp,.int .u64 a.parent,.int .u64 a.sum]),(3,.row (1000000+75) 2 cp el)],fun q=>match q with | (cp,el)=>a.routes.length≤cp∧∀ k,k<a.routes.length→el k=pairC (a.routes.getD k (0,0)),?_,?_⟩
 ·refine⟨⟨Nat.le_refl _,fun k hk=>rfl⟩,?_⟩
  refine⟨⟨rfl,Nat.le_refl _⟩,fun hin el2 g1 g2=>?_,fun hgt=>⟨by show (0+a.routes.length) * 16≤140737488355328;omega,fun cap2 el2 hc g1 g2=>?_⟩⟩
  ·rw[Nat.zero_add]
   refine⟨(0,el2),[],⟨by omega,fun k hk=>?_⟩,⟨rfl,rfl⟩,kp_,(by (try rw[Nat.zero_add]);repeat (first | exact trivial | refine⟨rfl,?_⟩))⟩
   have:=g2 k hk
   rwa[Nat.zero_add] at this
  ·rw[Nat.zero_add]
   refine⟨(cap2,el2),[(3,4)],⟨by omega,fun k hk=>?_⟩,⟨rfl,rfl⟩,kp_,(by (try rw[Nat.zero_add]);repeat (first | exact trivial | refine⟨rfl,?_⟩))⟩
   have:=g2 k hk
   rwa[Nat.zero_add] at this
 ·rintro⟨cp,el⟩ ⟨hcp,hel⟩
  refine⟨⟨by decide,rfl,rfl⟩,?_⟩
  refine⟨Unit,fun _=>[(7,.int .i64 (bentK a by_))],fun _=>[],fun _=>True,?_,?_⟩
  ·refine⟨fun hpos=>?_,fun hpos=>?_⟩
   ·have hpos2:(a.routes.length:Int)>0:=of_decide_eq_true hpos
    refine⟨_,(a.routes.length:Int),rfl,⟨by omega,by omega⟩,?_⟩
    refine⟨(),trivial,(by refine⟨?_,?_⟩;(show some (Value.int .i64 _)=some (Value.int .i64 (bentK a by_));rw[bentK_pos (a:=a) (by_:=by_) (by omega)]);repeat (first | exact trivial | refine⟨rfl,?_⟩)),kp_⟩
   ·have hpos2:¬ (a.routes.length:Int)>0:=of_decide_eq_false hpos
    refine⟨(),trivial,(by refine⟨?_,?_⟩;(show some (Value.int .i64 _)=some (Value.int .i64 (bentK a by_));rw[bentK_zero (a:=a) (by_:=by_) (by omega)]);repeat (first | exact trivial | refine⟨rfl,?_⟩)),kp_⟩
  ·rintro - -
   refine⟨⟨by decide,rfl,rfl⟩,?_⟩
   refine⟨_,7,rfl,by decide,?_⟩
   refine⟨fun h0=>?_,fun h0=>?_⟩
   ·have m0:which % 7=0:=by simpa using h0
    rw[bent_0 m0]
    exact⟨slc 3 _ cp,rfl,.inr ⟨3,cp,_,cp,_,rfl,rfl,rfl,hcp,hel⟩⟩
   ·have m0:¬ which % 7=0:=by simpa using h0
    refine⟨fun h1=>?_,fun h1=>?_⟩
    ·have m1:which % 7=1:=by simpa using h1
     rw[bent_1 m0 m1]
     exact⟨slc 3 _ cp,rfl,.inr ⟨3,cp,_,cp,_,rfl,rfl,rfl,hcp,hel⟩⟩
    ·have m1:¬ which % 7=1:=by simpa using h1
     refine⟨fun h2=>?_,fun h2=>?_⟩
     ·have m2:which % 7=2:=by simpa using h2
      rw[bent_2 m0 m1 m2]
      exact⟨slc 3 _ cp,rfl,.inr ⟨3,cp,_,cp,_,rfl,rfl,rfl,hcp,hel⟩⟩
     ·have m2:¬ which % 7=2:=by simpa using h2
      refine⟨fun h3=>?_,fun h3=>?_⟩
      ·have m3:which % 7=3:=by simpa using h3
       rw[bent_3 m0 m1 m2 m3]
       exact⟨slc 3 _ cp,rfl,.inr ⟨3,cp,_,cp,_,rfl,rfl,rfl,hcp,hel⟩⟩
      ·have m3:¬ which % 7=3:=by simpa using h3
       refine⟨fun h4=>?_,fun h4=>?_⟩
       ·have m4:which % 7=4:=by simpa using h4
        refine⟨⟨Nat.le_refl _,fun k hk=>by obtain rfl:k=0:=(by omega);rfl⟩,?_⟩
        rw[bent_4 m0 m1 m2 m3 m4]
        refine⟨⟨rfl,hcp⟩,fun hin el2 g1 g2=>?_,fun hgt=>⟨by show (a.routes.length+1) * 16≤140737488355328;omega,fun cap2 el2 hc g1 g2=>?_⟩⟩
        ·refine⟨slc 3 (a.routes.length+1) cp,?_,.inr ⟨3,cp,_,cp,_,?_,rfl,rfl,?_,fun k hk=>?_⟩⟩
         ·rfl
         ·simp[slc]
         ·simp;omega
         ·exact snoc_rt (x:=(-1,0)) hel g1 (g2 0 Nat.one_pos) k (by simpa using hk)
        ·refine⟨slc 5 (a.routes.length+1) cap2,?_,.inr ⟨5,cap2,_,cap2,_,?_,rfl,rfl,?_,fun k hk=>?_⟩⟩
         ·rfl
         ·simp[slc]
         ·simp;omega
         ·exact snoc_rt (x:=(-1,0)) hel g1 (g2 0 Nat.one_pos) k (by simpa using hk)
       ·have m4:¬ which % 7=4:=by simpa using h4
        refine⟨fun hpos=>?_,fun hpos=>?_⟩
        ·have hpos2:(a.routes.length:Int)>0:=of_decide_eq_true hpos
         have hk1:=bentK_bd (a:=a) (by_:=by_) (by omega)
         refine⟨_,12,rfl,by decide,?_⟩
         refine⟨kp_,?_⟩
         refine⟨_,11,rfl,by decide,?_⟩
         refine⟨kp_,?_⟩
         refine⟨⟨by omega,hk1.1,hk1.2⟩,?_⟩
         refine⟨pairC (IntKind.i64.wrap (-2+by_ % 12),IntKind.i64.wrap (-1+which % 11)),by show putN _ _ (el _)=_;rw[hel _ (by omega)];rfl,?_⟩
         rw[bent_5 m0 m1 m2 m3 m4 (by omega)]
         refine⟨slc 3 a.routes.length cp,?_,.inr ⟨3,cp,_,cp,_,?_,rfl,rfl,?_,fun k hk=>?_⟩⟩
         ·rfl
         ·simp[slc]
         ·simp;omega
         ·exact set_rt hel (by rw[wrapi (by omega),wrapi (by omega)]) k (by simpa using hk)
        ·have hpos2:¬ (a.routes.length:Int)>0:=of_decide_eq_false hpos
         rw[bent_6 m0 m1 m2 m3 m4 (by omega)]
         exact⟨slc 3 _ cp,rfl,.inr ⟨3,cp,_,cp,_,rfl,rfl,rfl,hcp,hel⟩⟩
theorem bent_calls (A:Option Addr) (cap:Nat) (a:Atl) (which by_:Int) (w:World) (hl:a.routes.length≤1000) (hr:Rd w (·<w.heap.size) A (flat pairC a.routes)):Calls Try.prog 26 #[.agg #[.int .i64 (a).number,.int .i64 (a).tick,.slice A (a).routes.length cap,.int .u64 (a).parent,.int .u64 (a).sum],.int .i64 which,.int .i64 by_] w fun e w'=>∃ A2 cp,e=.returned (.agg #[.int .i64 (bentA a which by_).number,.int .i64 (bentA a which by_).tick,.slice A2 (bentA a which by_).routes.length cp,.int .u64 (bentA a which by_).parent,.int .u64 (bentA a which by_).sum])∧Rd w' (fun b=>w.heap.size≤b∧b<w'.heap.size) A2 (flat pairC (bentA a which by_).routes)∧Below w.heap.size w w':=by
 have:=row1_calls (enc:=pairC) (sz:=2) (fun _=>rfl) (by omega) pairC_plain (0,0) ttAok bnFok Try.func26 rfl (D:=bnD) (by kernel_rfl) (vs:=[atlV a (slc 0 a.routes.length cap),.int .i64 which,.int .i64 by_]) rfl A a.routes w hr (fun v hv=>by
  simp only[List.mem_cons,List.not_mem_nil,or_false] at hv
  rcases hv with rfl | rfl | rfl
  ·intro u hu
   simp at hu
   rcases hu with rfl | rfl | rfl | rfl | rfl<;>first | trivial | exact⟨Nat.zero_lt_one,rfl⟩
  ·trivial
  ·trivial
  ) (bent_sx cap a which by_ hl)
 have e0:([atlV a (slc 0 a.routes.length cap),.int .i64 which,.int .i64 by_].map (den fun _=>⟨A,2,a.routes.length,false,noSub⟩)).toArray=#[.agg #[.int .i64 (a).number,.int .i64 (a).tick,.slice A (a).routes.length cap,.int .u64 (a).parent,.int .u64 (a).sum],.int .i64 which,.int .i64 by_]:=by simp[den,den2,den1,dA_whole,dS_whole]
 rw[e0] at this
 refine this.mono ?_
 rintro e w' ⟨v,mem',nx',ρ',rfl,⟨v2,rfl,hR⟩,hv,hm',hb⟩
 obtain⟨A2,cp,e1,hr2⟩:=hm'.slR (enc:=pairC) (sz:=2) (fun _=>rfl) (by omega) hR
 refine⟨A2,cp,?_,hr2,hb⟩
 congr 1
 have dI:∀ k n,den1 ρ' (.int k n)=.int k n:=fun _ _=>rfl
 simp only[den,den2]
 simp[e1,dI]
def ctBent:CT:=fun vs mem nx K=>∃ a v which by_,vs=[atlV a v,.int .i64 which,.int .i64 by_]∧SrcR mem 2 pairC (0,0) a.routes v∧(a.routes.length≤1000)∧∀ cp,K (atlV (bentA a which by_) (slc nx (bentA a which by_).routes.length cp)) ((nx,rowOfL 500000 2 pairC (0,0) (bentA a which by_).routes)::mem) (nx+1)
theorem bentOk:CSound Try.prog 26 ctBent:=⟨by kernel_rfl,fun {C ρ fr mem nx q w vs K} hc hs hv=>by
 obtain⟨a,v,which,by_,rfl,hsrc,hpre,hK⟩:=hc
 obtain⟨A,cap,e0,hr⟩:=hs.srcR (enc:=pairC) (sz:=2) (fun _=>rfl) (by omega) hsrc
 have e1:([atlV a v,.int .i64 which,.int .i64 by_].map (den ρ)).toArray=#[.agg #[.int .i64 (a).number,.int .i64 (a).tick,.slice A (a).routes.length cap,.int .u64 (a).parent,.int .u64 (a).sum],.int .i64 which,.int .i64 by_]:=by
  obtain⟨A',cp,rfl⟩:=hsrc.slice
  have dI:∀ k n,den1 ρ (.int k n)=.int k n:=fun _ _=>rfl
  simp only[List.map_cons,List.map_nil,atlV,den,den2]
  simp[dI,den1_slice e0]
 rw[e1]
 refine (bent_calls A cap a which by_ w hpre hr).mono ?_
 rintro e w' ⟨A2,cp,rfl,hr2,hb⟩
 obtain⟨q1,-⟩:=(hs.later hb).addList hs.frB hs.rest.size (enc:=pairC) (sz:=2) (fun _=>rfl) (by omega) pairC_plain (0,0) (t:=500000) rfl hr2
 have q2:setPl ρ nx ⟨A2,2,(bentA a which by_).routes.length,false,noSub⟩ nx=⟨A2,2,(bentA a which by_).routes.length,false,noSub⟩:=setPl_same _ _ _
 refine⟨atlV (bentA a which by_) (slc nx (bentA a which by_).routes.length cp),_,_,_,?_,hK cp,q1,?_,fun i hi=>setPl_lt _ _ hi,by omega⟩
 ·simp[den,den2,den1,dA_whole,dS_whole,q2]
 ·intro u hu
  simp at hu
  rcases hu with rfl | rfl | rfl | rfl | rfl<;>first | trivial | exact⟨Nat.lt_succ_self _,by rw[q2]⟩⟩
theorem mkLight_below (A:Option Addr) (n cp:Nat) (w:World) (hn:n≤maxLen):Calls Try.prog 13 #[.slice A n cp] w fun r w'=>r=.returned (.bool (decide (n≤200)))∧Below w.heap.size w w':=by
 refine (mkLight_any A n cp w hn).mono ?_
 rintro e w' ⟨h,rfl⟩
 exact⟨h,Below.refl _ _⟩
def ctLight:CT:=fun vs mem nx K=>∃ Mz0 xz0 z0,vs=[slc Mz0 (z0:List Int).length xz0]∧(lk mem Mz0=some (intRow z0))∧(z0.length≤maxLen)∧K (.bool (decide (z0.length≤200))) mem nx
theorem lightOk:CSound Try.prog 13 ctLight:=(ptsOk (R:=fun l z=>∃ z0,l=[.li z0]∧z=.bool (decide (z0.length≤200))) (pre:=fun l=>∃ z0,l=[.li z0]∧(z0.length≤maxLen)) (by kernel_rfl) (by
 rintro ps w ⟨z0,hps,hpre⟩ hok
 obtain⟨xz0,yz0,ps0,rfl,hps0⟩:=dt_l hps
 obtain rfl:=dt_nil hps0
 have hpz0:=hok (.li xz0 yz0 z0) (by simp)
 refine (mkLight_below xz0 z0.length yz0 w hpre).mono ?_
 rintro e w' ⟨rfl,hb⟩
 exact⟨_,⟨z0,rfl,rfl⟩,trivial,rfl,hb⟩)).mono (by
 rintro vs mem nx K ⟨Mz0,xz0,z0,rfl,hk,hpre,hK⟩
 exact⟨[.li Mz0 xz0 z0],rfl,⟨hk,trivial⟩,⟨_,rfl,hpre⟩,by rintro z ⟨z0',hl,hz⟩;cases hl;subst hz;exact hK⟩)
/-! law15.AtlasMake -/
/-! ref15.Signed,by contract. -/
abbrev sgW:List (Nat×DQ):=[(1,{ k:=5,L:=[0,1,2,3,4,5,6,7,8,9,10,11,12,13,14,15,16,17,18,19,20,21,22,23,24,25,26,27,28,29,30,31,32,33,34,35,36,37,38,39,40,41,42,43,44,45,46,47,48,49,50,51,52,53,54,55,56,57,58,59,60],pre:=[(0,false),(1,false),(2,false),(3,false),(4,true)] })]
def signA (a:Atl) (key:Int):Atl:={ a with sum:=chainI key a.parent (bodyI a) }
set_option maxRecDepth 100000 in
set_option maxHeartbeats 4000000 in
theorem signed_sx (cap:Nat) (a:Atl) (key:Int) (ha:AtlIn a) :
  sx ttA sgF sgW (bodyOf Try.f27) (argF 0 [atlV a (slc 0 a.routes.length cap),.int .i64 key]) [(0,rowOfL 3 2 pairC (0,0) a.routes)] 1 (endx ttA Try.f27.results.toList fun v _ _=>v=atlV (signA a key) (slc 0 a.routes.length cap)):=by
 have hl:=body_len ha
 have hl2:=ha.len
 refine⟨a,_,rfl,.inr (.inl ⟨0,_,rfl,.list rfl⟩),ha,fun cp=>?_⟩
 refine⟨kp_,?_⟩
 refine⟨_,_,key,a.parent,rfl,.inr (.inl ⟨_,cp,rfl,.list rfl⟩),by omega,?_⟩
 rfl
theorem signed_calls (A:Option Addr) (cap:Nat) (a:Atl) (key:Int) (w:World) (ha:AtlIn a) (hr:Rd w (·<w.heap.size) A (flat pairC a.routes)):Calls Try.prog 27 #[.agg #[.int .i64 a.number,.int .i64 a.tick,.slice A a.routes.length cap,.int .u64 a.parent,.int .u64 a.sum],.int .i64 key] w fun e w'=>e=.returned (.agg #[.int .i64 a.number,.int .i64 a.tick,.slice A a.routes.length cap,.int .u64 a.parent,.int .u64 (signA a key).sum])∧Below w.heap.size w w':=by
 have:=row1_calls (enc:=pairC) (sz:=2) (fun _=>rfl) (by omega) pairC_plain (0,0) ttAok sgFok Try.func27 rfl (D:=sgW) (by kernel_rfl) (vs:=[atlV a (slc 0 a.routes.length cap),.int .i64 key]) rfl A a.routes w hr (fun v hv=>by
  simp only[List.mem_cons,List.not_mem_nil,or_false] at hv
  rcases hv with rfl | rfl
  ·intro u hu
   simp at hu
   rcases hu with rfl | rfl | rfl | rfl | rfl<;>first | trivial | exact⟨Nat.zero_lt_one,rfl⟩
  ·trivial) (signed_sx cap a key ha)
 have e0:([atlV a (slc 0 a.routes.length cap),.int .i64 key].map (den fun _=>⟨A,2,a.routes.length,false,noSub⟩)).toArray=#[.agg #[.int .i64 a.number,.int .i64 a.tick,.slice A a.routes.length cap,.int .u64 a.parent,.int .u64 a.sum],.int .i64 key]:=by simp[den,den2,den1,dA_whole,dS_whole]
 rw[e0] at this
 refine this.mono ?_
 rintro e w' ⟨v,mem',nx',ρ',rfl,rfl,hv,hm',hb⟩
 refine⟨?_,hb⟩
 have e1:(ρ' 0).A=A:=by rw[hm'.low 0 (Nat.zero_lt_one)]
 simp[den,den2,den1,dA_whole,dS_whole,e1,signA]
def ctSigned:CT:=fun vs mem nx K=>∃ a v key,vs=[atlV a v,.int .i64 key]∧SrcR mem 2 pairC (0,0) a.routes v∧AtlIn a∧K (atlV (signA a key) v) mem nx
theorem signedOk:CSound Try.prog 27 ctSigned:=⟨by kernel_rfl,fun {C ρ fr mem nx q w vs K} hc hs hv=>by
 obtain⟨a,v,key,rfl,hsrc,ha,hK⟩:=hc
 obtain⟨A,cap,e0,hr⟩:=hs.srcR (enc:=pairC) (sz:=2) (fun _=>rfl) (by omega) hsrc
 have hv0:=hv (atlV a v) (List.mem_cons_self ..)
 obtain⟨A',cp,rfl⟩:=hsrc.slice
 have dI:∀ k n,den1 ρ (.int k n)=.int k n:=fun _ _=>rfl
 have e1:([atlV a (.slice A' a.routes.length cp),.int .i64 key].map (den ρ)).toArray=#[.agg #[.int .i64 a.number,.int .i64 a.tick,.slice A a.routes.length cap,.int .u64 a.parent,.int .u64 a.sum],.int .i64 key]:=by
  simp only[List.map_cons,List.map_nil,atlV,den,den2]
  simp[dI,den1_slice e0]
 rw[e1]
 refine (signed_calls A cap a key w ha hr).mono ?_
 rintro e w' ⟨rfl,hb⟩
 refine⟨_,mem,nx,ρ,?_,hK,hs.later hb,?_,ExtS.refl _ _⟩
 ·simp only[atlV,den,den2]
  simp[dI,den1_slice e0,signA]
 ·intro u hu
  simp at hu
  rcases hu with rfl | rfl | rfl | rfl | rfl<;>first | trivial | exact hv0 _ (by simp)⟩
/-! law15.AtlasValid -/
theorem in64_emod {b m:Int} (h:0<m∧m≤1000) (o:Int) (ho:-2≤o∧o≤2):in64 (o+b % m):=by
 have h1:=Int.emod_nonneg b (show m≠0 by omega)
 have h2:=Int.emod_lt_of_pos b h.1
 unfold in64
 omega
theorem bent_in {a:Atl} {which by_:Int} (h:AtlIn a) (hb:in64 by_) (hl:a.routes.length≤999):AtlIn (bentA a which by_):=by
 have h1:=h.n
 have h2:=h.t
 have h3:=h.r
 unfold bentA
 split
 ·exact⟨hb,h2,h.len,h3⟩
 ·split
  ·exact⟨h1,hb,h.len,h3⟩
  ·split
   ·exact⟨h1,h2,h.len,h3⟩
   ·split
    ·exact⟨h1,h2,h.len,h3⟩
    ·split
     ·refine⟨h1,h2,by simp;omega,fun x hx=>?_⟩
      rcases List.mem_append.1 hx with hx | hx
      ·exact h3 x hx
      ·obtain rfl:x=(-1,0):=by simpa using hx
       exact⟨in0.2.2,in0.1⟩
     ·split
      ·exact h
      ·refine⟨h1,h2,by simpa using h.len,fun x hx=>?_⟩
       rcases List.mem_or_eq_of_mem_set hx with hx | rfl
       ·exact h3 x hx
       ·exact⟨in64_emod (by omega) (-2) (by omega),in64_emod (by omega) (-1) (by omega)⟩
end Go.Proofs.Ytdjkeplekchfdaa
