import Derived.Test.YtchhdflealgkaaaGreatPo13
import Derived.Test.YtchhdflealgkaaaGreatRows
namespace Go.Proofs.YtchhdflealgkaaaGreat
open Go.RowKit
set_option linter.unusedSimpArgs false
set_option linter.unusedVariables false
/-! One start for all: two lists of numbers,a configuration,a list of entries,two states. -/
abbrev CNu:CN:=⟨2,3,4,5,6,7,3⟩
abbrev SNu:SN:=⟨9,10,3⟩
abbrev SNv:SN:=⟨11,12,3⟩
structure UA where
 a0:Option Addr:=none
 a1:Option Addr:=none
 x:CfgA:=noX
 ae:Option Addr:=none
 y:StA:=noA
 y2:StA:=noA
structure UD where
 l0:List Int:=[]
 l1:List Int:=[]
 c:Cfg:=noC
 es:List Ent:=[]
 s:St:=noS
 s2:St:=noS
abbrev entRow (es:List Ent):ABlk:=rowOfL 3 9 entC default es
abbrev uniM (d:UD):AM:=(0,intRow d.l0)::(1,intRow d.l1)::(cfgM CNu d.c++((8,entRow d.es)::(stM SNu d.s++stM SNv d.s2)))
def upl (a:UA) (d:UD):Nat→Pl:=fun j=>match j with
 | 0=>⟨a.a0,1,d.l0.length,false,noSub⟩
 | 1=>⟨a.a1,1,d.l1.length,false,noSub⟩
 | 2=>⟨a.x.az,1,d.c.zones.length,false,noSub⟩
 | 3=>⟨a.x.ac,2,d.c.cells.length,false,noSub⟩
 | 4=>⟨a.x.at_,7,d.c.tenants.length,false,noSub⟩
 | 5=>⟨a.x.av,2,d.c.versions.length,false,noSub⟩
 | 6=>⟨a.x.ar,1,d.c.replicas.length,false,noSub⟩
 | 7=>⟨a.x.ao,1,d.c.observers.length,false,noSub⟩
 | 8=>⟨a.ae,9,d.es.length,false,noSub⟩
 | 9=>⟨a.y.at_,12,d.s.tenants.length,false,noSub⟩
 | 10=>⟨a.y.ac,4,d.s.cells.length,false,noSub⟩
 | 11=>⟨a.y2.at_,12,d.s2.tenants.length,false,noSub⟩
 | _=>⟨a.y2.ac,4,d.s2.cells.length,false,noSub⟩
structure UOk (w:World) (a:UA) (d:UD):Prop where
 r0:Rd w (·<w.heap.size) a.a0 (flat intC d.l0):=by exact fun h=>absurd rfl h
 r1:Rd w (·<w.heap.size) a.a1 (flat intC d.l1):=by exact fun h=>absurd rfl h
 c:CfgOk w (·<w.heap.size) a.x d.c:=by exact noC_ok _ _
 e:Rd w (·<w.heap.size) a.ae (flat entC d.es):=by exact fun h=>absurd rfl h
 s:StOk w (·<w.heap.size) a.y d.s:=by exact noS_ok _ _
 s2:StOk w (·<w.heap.size) a.y2 d.s2:=by exact noS_ok _ _
theorem upl_cfg (a:UA) (d:UD):den (upl a d) (cfgV CNu (ck a.x) d.c)=.agg (cfgC a.x d.c):=by rw[den_cfg];rfl
theorem upl_st (a:UA) (d:UD):den (upl a d) (stV SNu (sk a.y) d.s)=.agg (stC a.y d.s):=by rw[den_st];rfl
theorem upl_cfg_ok (a:UA) (d:UD):okV (upl a d) 13 (cfgV CNu (ck a.x) d.c):=by
 intro u hu
 simp at hu
 rcases hu with rfl | rfl | rfl | rfl | rfl | rfl | rfl | rfl | rfl | rfl<;>first | trivial | exact⟨by decide,rfl⟩
theorem upl_st_ok (a:UA) (d:UD):okV (upl a d) 13 (stV SNu (sk a.y) d.s):=by
 intro u hu
 simp at hu
 rcases hu with rfl | rfl | rfl | rfl | rfl | rfl | rfl | rfl<;>first | trivial | exact⟨by decide,rfl⟩
theorem uni_calls {τ:TT} (hτ:TTok Tryz.prog τ) {f:FuncId} {fn:Func} {F:FT} {D:List (Nat×DQ)} (hF:FTokI Tryz.prog F (inlOf D)) (hf:(Tryz.prog).funcs[f]?=some fn) (hb:fn.body=some (bodyOf fn)) (hcode:codeB fn.ntmps D (bodyOf fn)=true) {vs:List Value} (hn:Nat.ble vs.length fn.ntmps=true)
  (a:UA) (d:UD) (w:World) (hu:UOk w a d) (hv:∀ v ∈ vs,okV (upl a d) 13 v) {R:Value→AM→Nat→Prop}
  (h:sx τ F D (bodyOf fn) (argF 0 vs) (uniM d) 13 (endx τ fn.results.toList R)) :
  Calls Tryz.prog f (vs.map (den (upl a d))).toArray w fun e w'=>∃ v mem' nx' ρ',e=.returned (den ρ' v)∧R v mem' nx'∧okV ρ' nx' v∧MemAt { w0:=w,bor:=[],n0:=13,ρ0:=upl a d,nt:=fn.ntmps } ρ' mem' nx' w'∧Below w.heap.size w w':=by
 have hpc:CfgPl (upl a d) CNu a.x d.c:=⟨rfl,rfl,rfl,rfl,rfl,rfl⟩
 have hps:StPl (upl a d) SNu a.y d.s:=⟨rfl,rfl⟩
 have hps2:StPl (upl a d) SNv a.y2 d.s2:=⟨rfl,rfl⟩
 have q2:=st_blks (C:={ w0:=w,bor:=[],n0:=13,ρ0:=upl a d,nt:=fn.ntmps }) (nx:=13) (r:=[]) hps2 hu.s2 (fun b hb=>hb) (by decide) trivial
 have q1:=st_blks (C:={ w0:=w,bor:=[],n0:=13,ρ0:=upl a d,nt:=fn.ntmps }) (nx:=13) hps hu.s (fun b hb=>hb) (by decide) q2
 have q0:blksOk { w0:=w,bor:=[],n0:=13,ρ0:=upl a d,nt:=fn.ntmps } (upl a d) 13 w ((8,entRow d.es)::(stM SNu d.s++(stM SNv d.s2++[]))):=⟨⟨by decide,rfl,row_of_rd (enc:=entC) (sz:=9) (fun _=>rfl) (by omega) entC_plain default rfl hu.e (fun b hb=>hb)⟩,q1⟩
 have qc:=cfg_blks (C:={ w0:=w,bor:=[],n0:=13,ρ0:=upl a d,nt:=fn.ntmps }) (nx:=13) hpc hu.c (fun b hb=>hb) (by decide) q0
 have hm:MemAt { w0:=w,bor:=[],n0:=13,ρ0:=upl a d,nt:=fn.ntmps } (upl a d) (uniM d) 13 w:=MemAt.rows trivial
  ⟨⟨by decide,rfl,row_of_rd (enc:=intC) (sz:=1) (fun _=>rfl) (by omega) intC_plain 0 rfl hu.r0 (fun b hb=>hb)⟩,⟨by decide,rfl,row_of_rd (enc:=intC) (sz:=1) (fun _=>rfl) (by omega) intC_plain 0 rfl hu.r1 (fun b hb=>hb)⟩,qc⟩
 refine (calls_sxI hτ hF mixed hf hb hcode (vs:=vs) hn ⟨rfl,rfl⟩ rfl hm hv h).mono ?_
 rintro e w' ⟨v,mem',nx',ρ',rfl,hR,hv',hm'⟩
 exact⟨v,mem',nx',ρ',rfl,hR,hv',hm',⟨hm'.rest.os,hm'.rest.tape,hm'.rest.output,hm'.rest.size,fun b hlt=>hm'.rest.block b hlt (by simp)⟩⟩
structure HasCfg (mem:AM) (N:CN) (c:Cfg):Prop where
 rz:HasRow mem N.z 1 intC 0 c.zones
 rc:HasRow mem N.c 2 pairC (0,0) c.cells
 rt:HasRow mem N.t 7 tenC default c.tenants
 rv:HasRow mem N.v 2 pairC (0,0) c.versions
 rr:HasRow mem N.r 1 intC 0 c.replicas
 ro:HasRow mem N.o 1 intC 0 c.observers
theorem HasCfg.keeps {mem:AM} {N:CN} {c:Cfg} (h:keeps mem (cfgM N c)):HasCfg mem N c:=
 ⟨⟨_,_,_,h.1,Nat.le_refl _,fun k hk=>rfl⟩,⟨_,_,_,h.2.1,Nat.le_refl _,fun k hk=>rfl⟩,⟨_,_,_,h.2.2.1,Nat.le_refl _,fun k hk=>rfl⟩,⟨_,_,_,h.2.2.2.1,Nat.le_refl _,fun k hk=>rfl⟩,⟨_,_,_,h.2.2.2.2.1,Nat.le_refl _,fun k hk=>rfl⟩,⟨_,_,_,h.2.2.2.2.2.1,Nat.le_refl _,fun k hk=>rfl⟩⟩
theorem Sat.cfgH {C:Ctx} {ρ:Nat→Pl} {fr:AF} {mem:AM} {nx:Nat} {a:Act} {w:World} (h:Sat C ρ fr mem nx a w) {N:CN} {x:CfgK} {c:Cfg} (hk:HasCfg mem N c):CfgOk w (·<w.heap.size) (cfgX ρ N x) c:=
 ⟨h.hasRd (enc:=intC) (sz:=1) (fun _=>rfl) (by omega) hk.rz,h.hasRd (enc:=pairC) (sz:=2) (fun _=>rfl) (by omega) hk.rc,h.hasRd (enc:=tenC) (sz:=7) (fun _=>rfl) (by omega) hk.rt,h.hasRd (enc:=pairC) (sz:=2) (fun _=>rfl) (by omega) hk.rv,h.hasRd (enc:=intC) (sz:=1) (fun _=>rfl) (by omega) hk.rr,h.hasRd (enc:=intC) (sz:=1) (fun _=>rfl) (by omega) hk.ro⟩
/-! atlas.Make,ref15.Make -/
def routeT (t:TS):Int×Int:=(if t.placed=true∧t.shed=false then t.home else -1,t.epoch)
def routesOf (s:St):List (Int×Int):=s.tenants.map routeT
def atl0 (s:St) (par:Int):Atl:=⟨s.count,s.tick,routesOf s,par,0⟩
def makeA (s:St) (par key:Int):Atl:={ atl0 s par with sum:=chainI key par (bodyI (atl0 s par)) }
theorem routes_get {s:St} {k:Nat} (h:k<s.tenants.length):(routesOf s).getD k (0,0)=routeT (s.tenants.getD k default):=by
 unfold routesOf
 rw[List.getD_eq_getElem?_getD,List.getD_eq_getElem?_getD,List.getElem?_map,List.getElem?_eq_getElem h]
 rfl
theorem routes_len (s:St):(routesOf s).length=s.tenants.length:=by simp[routesOf]
theorem body_len {a:Atl} (ha:AtlIn a):(bodyI a).length≤30+20 * a.routes.length:=by
 have h1:=intBy_len ha.n
 have h2:=intBy_len ha.t
 have h3:=intBy_len (show in64 (a.routes.length:Int) by have:=ha.len;unfold in64;omega)
 have h4:∀ l:List (Int×Int),(∀ x ∈ l,in64 x.1∧in64 x.2)→(l.flatMap routeB).length≤20 * l.length:=by
  intro l
  induction l with
  | nil=>intro _;simp
  | cons x l ih=>
   intro h
   have hx:=h x (List.mem_cons_self ..)
   have:=ih fun y hy=>h y (List.mem_cons_of_mem _ hy)
   have q1:=intBy_len hx.1
   have q2:=intBy_len hx.2
   rw[List.flatMap_cons,List.length_append,List.length_cons]
   unfold routeB at this ⊢
   rw[List.length_append]
   omega
 have h5:=h4 _ ha.r
 unfold bodyI
 simp only[List.length_append]
 omega
abbrev sumF:FT:=[(171,ctBodyP),(170,ctChainP)]
abbrev sgF:FT:=[(90,ctBodyR),(89,ctChainR)]
abbrev sgD:List (Nat×DQ):=[(1,{ k:=5,L:=[13,14,15,16,17,18,19,20,21,22,23,24,25,26,27,28,29,30,31,32,33,34,35,36,37,38,39,40,41,42,43,44,45,46,47,48,49,50,51,52,53,54,55,56,57,58,59,60],pre:=[(0,false),(1,false),(2,false),(3,false),(4,true)] })]
abbrev ctSignedI:CT:=ctInl ttA sgF sgD Tryz.f59 (bodyOf Tryz.f59)
theorem sgFok:FTokI Tryz.prog sgF (inlOf sgD):=fti_cons (bodyROk.i _) (fti_cons (chainROk.i _) fti_nil)
abbrev mkRF:FT:=[(59,ctSignedI)]
abbrev mkRD:List (Nat×DQ):=[(9000000,{ k:=0,L:=[59] }),(3000003,{ k:=19,L:=[0,1,2,3,4,5,6,7,8,9,10,11,12,13,14,15,16],sl:=[3,5,8,9] }),(1000009,{ k:=21,L:=[0,1,2,3,4,5,6,7,8,9,10,11,12,13,14,15,16,17,18,19],sl:=[3,5,8,9,10,12] })]
theorem mkRFok:FTokI Tryz.prog mkRF (inlOf mkRD):=fti_cons (inl_ok ttAok sgFok mixed (by kernel_rfl) Tryz.func59 rfl (by kernel_rfl) (by decide)) fti_nil
set_option maxRecDepth 100000 in
set_option maxHeartbeats 4000000 in
theorem makeR_sx (x:CfgK) (c:Cfg) (y:StK) (s:St) (pn pt ps psum:Int) (pl pc:Nat) (key:Int) (hA:AtlIn (atl0 s psum)) :
  sx ttA mkRF mkRD (bodyOf Tryz.f55) (argF 0 [cfgV CNu x c,stV SNu y s,.agg #[.int .i64 pn,.int .i64 pt,slc 0 pl pc,.int .u64 ps,.int .u64 psum],.int .i64 key]) (uniM { c:=c,s:=s }) 13 (endx ttA Tryz.f55.results.toList fun v mem' _=>∃ v2,v=atlV (makeA s psum key) v2∧SlR mem' 2 pairC (0,0) (routesOf s) v2):=by
 have hln:=hA.len
 have hrl:=routes_len s
 have hln2:s.tenants.length≤1000:=by rw[← hrl];exact hln
 have hbl:=body_len hA
 refine⟨Nat×Option (Nat×(Nat→List Value)),fun q=>match q with | (k,o)=>[(10,.int .i64 (k:Int))],fun q=>match q with | (k,none)=>[(17,.box 112 [.int .i64 s.count,.int .i64 s.tick,zs0,.int .u64 psum,.int .u64 0])] | (k,some (cap,el))=>[(17,.box 112 [.int .i64 s.count,.int .i64 s.tick,slc 18 k cap,.int .u64 psum,.int .u64 0]),(18,.row (1000000+92) 2 cap el)],fun q=>match q with | (k,o)=>k≤s.tenants.length∧match o with | none=>k=0 | some (cap,el)=>k≤cap∧∀ j,j<k→el j=pairC (routeT (s.tenants.getD j default)),fun q=>match q with | (k,o)=>s.tenants.length-k,⟨(0,none),[],⟨Nat.zero_le _,rfl⟩,⟨rfl,rfl⟩,kp_,kp_⟩,?_⟩
 rintro⟨k,(_ | ⟨cap,el⟩)⟩ ⟨hk,ho⟩
 ·obtain rfl:k=0:=ho
  refine⟨⟨by decide,rfl,rfl⟩,?_⟩
  refine⟨fun hlt=>?_,fun hge=>?_⟩
  ·have hlt2:((0:Nat):Int)<(s.tenants.length:Int):=of_decide_eq_true hlt
   refine⟨⟨Nat.le_refl _,by omega,by omega⟩,?_⟩
   refine⟨Unit,fun _=>[],fun _=>[(20,.box 92 [.int .i64 (routeT (s.tenants.getD ((0:Nat):Int).toNat default)).1,.int .i64 (routeT (s.tenants.getD ((0:Nat):Int).toNat default)).2])],fun _=>True,?_,?_⟩
   ·refine⟨fun hp=>?_,fun hp=>?_⟩
    ·refine⟨fun _=>?_,fun h=>Bool.noConfusion h⟩
     have hrt:routeT (s.tenants.getD ((0:Nat):Int).toNat default)=(-1,(s.tenants.getD ((0:Nat):Int).toNat default).epoch):=by unfold routeT;rw[if_neg (fun q=>absurd q.1 (by simpa using hp))]
     rw[hrt]
     exact⟨(),trivial,kp_,kp_⟩
    ·refine⟨fun hs=>?_,fun hs=>?_⟩
     ·have hrt:routeT (s.tenants.getD ((0:Nat):Int).toNat default)=(-1,(s.tenants.getD ((0:Nat):Int).toNat default).epoch):=by unfold routeT;rw[if_neg (fun q=>absurd (hs.symm.trans q.2) (by decide))]
      rw[hrt]
      exact⟨(),trivial,kp_,kp_⟩
     ·have hrt:routeT (s.tenants.getD ((0:Nat):Int).toNat default)=((s.tenants.getD ((0:Nat):Int).toNat default).home,(s.tenants.getD ((0:Nat):Int).toNat default).epoch):=by unfold routeT;rw[if_pos ⟨by simpa using hp,hs⟩]
      rw[hrt]
      exact⟨(),trivial,kp_,kp_⟩
   ·rintro - -
    refine⟨⟨by decide,rfl,rfl⟩,?_⟩
    refine⟨⟨Nat.le_refl _,fun j hj=>by match j,hj with | 0,_=>rfl⟩,?_⟩
    refine⟨fun h=>absurd h (by decide),fun _=>⟨by decide,fun capq elq ⟨hcq,_⟩ g2q=>?_⟩⟩
    refine⟨(0+1,some (capq,elq)),[(18,22)],?_,⟨rfl,rfl⟩,(by refine⟨?_,?_⟩;(show some (Value.int .i64 (IntKind.i64.wrap (((0:Nat):Int)+1)))=some (Value.int .i64 ((0+1:Nat):Int));rw[wrapi (by omega)];rfl);repeat (first | exact trivial | refine⟨rfl,?_⟩)),kp_⟩
    dsimp only
    refine⟨⟨by omega,hcq,fun j hj=>?_⟩,by omega⟩
    obtain rfl:j=0:=by omega
    exact g2q 0 (by omega)
  ·have hge2:¬ ((0:Nat):Int)<(s.tenants.length:Int):=of_decide_eq_false hge
   have hnil:routesOf s=[]:=List.eq_nil_of_length_eq_zero (by omega)
   refine⟨atl0 s psum,zs0,rfl,.inl ⟨rfl,hnil⟩,hA,fun cp=>?_⟩
   refine⟨kp_,?_⟩
   refine⟨_,_,key,psum,rfl,.inr (.inl ⟨_,cp,rfl,.list rfl⟩),by omega,?_⟩
   refine⟨zs0,rfl,.inl ⟨rfl,hnil⟩⟩
 ·refine⟨⟨by decide,rfl,rfl⟩,?_⟩
  refine⟨fun hlt=>?_,fun hge=>?_⟩
  ·have hlt2:((k:Nat):Int)<(s.tenants.length:Int):=of_decide_eq_true hlt
   refine⟨⟨Nat.le_refl _,by omega,by omega⟩,?_⟩
   refine⟨Unit,fun _=>[],fun _=>[(20,.box 92 [.int .i64 (routeT (s.tenants.getD ((k:Nat):Int).toNat default)).1,.int .i64 (routeT (s.tenants.getD ((k:Nat):Int).toNat default)).2])],fun _=>True,?_,?_⟩
   ·refine⟨fun hp=>?_,fun hp=>?_⟩
    ·refine⟨fun _=>?_,fun h=>Bool.noConfusion h⟩
     have hrt:routeT (s.tenants.getD ((k:Nat):Int).toNat default)=(-1,(s.tenants.getD ((k:Nat):Int).toNat default).epoch):=by unfold routeT;rw[if_neg (fun q=>absurd q.1 (by simpa using hp))]
     rw[hrt]
     exact⟨(),trivial,kp_,kp_⟩
    ·refine⟨fun hs=>?_,fun hs=>?_⟩
     ·have hrt:routeT (s.tenants.getD ((k:Nat):Int).toNat default)=(-1,(s.tenants.getD ((k:Nat):Int).toNat default).epoch):=by unfold routeT;rw[if_neg (fun q=>absurd (hs.symm.trans q.2) (by decide))]
      rw[hrt]
      exact⟨(),trivial,kp_,kp_⟩
     ·have hrt:routeT (s.tenants.getD ((k:Nat):Int).toNat default)=((s.tenants.getD ((k:Nat):Int).toNat default).home,(s.tenants.getD ((k:Nat):Int).toNat default).epoch):=by unfold routeT;rw[if_pos ⟨by simpa using hp,hs⟩]
      rw[hrt]
      exact⟨(),trivial,kp_,kp_⟩
   ·rintro - -
    refine⟨⟨by decide,rfl,rfl⟩,?_⟩
    refine⟨⟨Nat.le_refl _,fun j hj=>by match j,hj with | 0,_=>rfl⟩,?_⟩
    refine⟨⟨rfl,ho.1⟩,fun hinq elq ⟨g1q,_⟩ g2q=>?_,fun hgtq=>⟨by show (k+1) * 16≤140737488355328;omega,fun capq elq ⟨hcq,_⟩ g1q g2q=>?_⟩⟩
    ·refine⟨(k+1,some (cap,elq)),[],?_,⟨rfl,rfl⟩,(by refine⟨?_,?_⟩;(show some (Value.int .i64 (IntKind.i64.wrap (((k:Nat):Int)+1)))=some (Value.int .i64 ((k+1:Nat):Int));rw[wrapi (by omega)];rfl);repeat (first | exact trivial | refine⟨rfl,?_⟩)),kp_⟩
     dsimp only
     refine⟨⟨by omega,by omega,fun j hj=>?_⟩,by omega⟩
     by_cases hjk:j<k
     ·rw[g1q j hjk]
      exact ho.2 j hjk
     ·obtain rfl:j=k:=by omega
      exact g2q 0 (by omega)
    ·refine⟨(k+1,some (capq,elq)),[(18,22)],?_,⟨rfl,rfl⟩,(by refine⟨?_,?_⟩;(show some (Value.int .i64 (IntKind.i64.wrap (((k:Nat):Int)+1)))=some (Value.int .i64 ((k+1:Nat):Int));rw[wrapi (by omega)];rfl);repeat (first | exact trivial | refine⟨rfl,?_⟩)),kp_⟩
     dsimp only
     refine⟨⟨by omega,hcq,fun j hj=>?_⟩,by omega⟩
     by_cases hjk:j<k
     ·rw[g1q j hjk]
      exact ho.2 j hjk
     ·obtain rfl:j=k:=by omega
      exact g2q 0 (by omega)
  ·have hge2:¬ ((k:Nat):Int)<(s.tenants.length:Int):=of_decide_eq_false hge
   obtain rfl:k=s.tenants.length:=by omega
   have hrow:∀ j,j<(routesOf s).length→el j=pairC ((routesOf s).getD j (0,0)):=fun j hj=>by rw[hrl] at hj;rw[routes_get hj];exact ho.2 j hj
   refine⟨atl0 s psum,_,rfl,.inr (.inl ⟨18,_,congrArg (fun n=>slc 18 n _) hrl.symm,⟨_,_,_,rfl,by show (routesOf s).length≤_;have:=ho.1;omega,hrow⟩⟩),hA,fun cp=>?_⟩
   refine⟨kp_,?_⟩
   refine⟨_,_,key,psum,rfl,.inr (.inl ⟨_,cp,rfl,.list rfl⟩),by omega,?_⟩
   refine⟨slc 18 s.tenants.length cap,rfl,.inr ⟨18,_,_,_,el,congrArg (fun n=>slc 18 n _) hrl.symm,rfl,rfl,by show (routesOf s).length≤_;have:=ho.1;omega,hrow⟩⟩
theorem makeR_calls (x:CfgA) (c:Cfg) (y:StA) (s:St) (pn pt ps psum:Int) (Ap:Option Addr) (pl pc:Nat) (key:Int) (w:World) (hA:AtlIn (atl0 s psum)) (hc:CfgOk w (·<w.heap.size) x c) (hs:StOk w (·<w.heap.size) y s):Calls Tryz.prog 55 #[.agg (cfgC x c),.agg (stC y s),.agg #[.int .i64 pn,.int .i64 pt,.slice Ap pl pc,.int .u64 ps,.int .u64 psum],.int .i64 key] w fun e w'=>∃ A2 cp,e=.returned (.agg #[.int .i64 (makeA s psum key).number,.int .i64 (makeA s psum key).tick,.slice A2 (routesOf s).length cp,.int .u64 (makeA s psum key).parent,.int .u64 (makeA s psum key).sum])∧Rd w' (fun b=>w.heap.size≤b∧b<w'.heap.size) A2 (flat pairC (routesOf s))∧Below w.heap.size w w':=by
 have:=uni_calls ttAok mkRFok Tryz.func55 rfl (D:=mkRD) (by kernel_rfl) (vs:=[cfgV CNu (ck x) c,stV SNu (sk y) s,.agg #[.int .i64 pn,.int .i64 pt,slc 0 pl pc,.int .u64 ps,.int .u64 psum],.int .i64 key]) rfl { a0:=Ap,x:=x,y:=y } { c:=c,s:=s } w { c:=hc,s:=hs } (fun v hv=>by
  simp only[List.mem_cons,List.not_mem_nil,or_false] at hv
  rcases hv with rfl | rfl | rfl | rfl
  ·exact upl_cfg_ok { a0:=Ap,x:=x,y:=y } { c:=c,s:=s }
  ·exact upl_st_ok { a0:=Ap,x:=x,y:=y } { c:=c,s:=s }
  ·intro u hu
   simp at hu
   rcases hu with rfl | rfl | rfl | rfl | rfl<;>first | trivial | exact⟨by decide,rfl⟩
  ·trivial) (makeR_sx (ck x) c (sk y) s pn pt ps psum pl pc key hA)
 have e0:([cfgV CNu (ck x) c,stV SNu (sk y) s,.agg #[.int .i64 pn,.int .i64 pt,slc 0 pl pc,.int .u64 ps,.int .u64 psum],.int .i64 key].map (den (upl { a0:=Ap,x:=x,y:=y } { c:=c,s:=s }))).toArray=#[.agg (cfgC x c),.agg (stC y s),.agg #[.int .i64 pn,.int .i64 pt,.slice Ap pl pc,.int .u64 ps,.int .u64 psum],.int .i64 key]:=by
  rw[List.map_cons,upl_cfg { a0:=Ap,x:=x,y:=y } { c:=c,s:=s },List.map_cons,upl_st { a0:=Ap,x:=x,y:=y } { c:=c,s:=s }]
  simp[den,den2,den1,dA_whole,dS_whole,upl]
 rw[e0] at this
 refine this.mono ?_
 rintro e w' ⟨v,mem',nx',ρ',rfl,⟨v2,rfl,hR⟩,hv,hm',hb⟩
 obtain⟨A2,cp,e1,hr2⟩:=hm'.slR (enc:=pairC) (sz:=2) (fun _=>rfl) (by omega) hR
 refine⟨A2,cp,?_,hr2,hb⟩
 congr 1
 have dI:∀ k n,den1 ρ' (.int k n)=.int k n:=fun _ _=>rfl
 simp only[den,den2]
 simp[e1,dI]
set_option maxHeartbeats 400000 in
theorem topoWithin_any (n lo hi:Int) (w:World) :
  Calls Tryz.prog 169 #[.int .i64 n,.int .i64 lo,.int .i64 hi] w fun e w'=>e=.returned (.bool (inR n lo hi))∧w=w':=by
 go_enter Tryz.func169,Tryz.ntmps169
 go_wp2
 all_goals
  go_ret
  refine⟨ret_bool ?_,rfl⟩
  go_light
  simp[inR, *]<;>omega
set_option maxHeartbeats 1000000 in
set_option maxRecDepth 100000 in
theorem topoNumbers_any (x:CfgA) (c:Cfg) (w:World) (hl:Lens c) :
  Calls Tryz.prog 122 #[.agg (cfgC x c)] w fun e w'=>e=.returned (.bool (limitsB c))∧Below w.heap.size w w':=by
 obtain⟨l1,l2,l3,l4,l5,l6⟩:=hl
 unfold maxLen at *
 unfold cfgC
 go_enter Tryz.func122,Tryz.ntmps122
 go_wp2_with (go_at_call 169;refine (topoWithin_any _ _ _ _).mono ?_;rintro e w' ⟨rfl,rfl⟩)
 all_goals
  go_ret
  refine⟨ret_bool ?_,(Below.refl _ _).alloc (Nat.le_refl _) _⟩
  go_light
  simp[limitsB, *]<;>omega
structure CfgBox (w:World) (g:Nat) (x:CfgA) (c:Cfg) (wr:World):Prop where
 box:Blk wr g 31 (cfgC x c)
 ok:CfgOk wr (·<g) x c
 below:Below w.heap.size w wr
 le:w.heap.size≤g
theorem CfgBox.alloc {w:World} {g:Nat} {x:CfgA} {c:Cfg} {wr:World} (h:CfgBox w g x c wr) (o:Obj):CfgBox w g x c (wr.alloc o):=
 ⟨h.box.alloc o,h.ok.keep fun k hk=>Below.heap_alloc _ _ _ (Nat.lt_trans hk h.box.lt),h.below.alloc h.below.size o,h.le⟩
theorem CfgBox.new {w:World} {x:CfgA} {c:Cfg} (h:CfgOk w (·<w.heap.size) x c):CfgBox w w.heap.size x c (w.alloc (.cells (cfgC x c) 31)):=
 ⟨Blk.new _ _ _,h.keep fun k hk=>Below.heap_alloc _ _ _ hk,(Below.refl _ _).alloc (Nat.le_refl _) _,Nat.le_refl _⟩
theorem take_all {α:Type} (l:List α) (p:α→Bool) (k:Nat) (x:α) (h:l[k]?=some x):(l.take (k+1)).all p=((l.take k).all p&&p x):=by
 obtain⟨hk,he⟩:=List.getElem?_eq_some_iff.1 h
 rw[List.take_succ_eq_append_getElem hk,List.all_append,he]
 simp
theorem take_all_yes {α:Type} {l:List α} {p:α→Bool} {k:Nat} {x:α} (h:l[k]?=some x) (ha:(l.take k).all p=true) (hp:p x=true):(l.take (k+1)).all p=true:=by
 rw[take_all l p k x h,ha,hp];rfl
theorem all_no {α:Type} {l:List α} {p:α→Bool} {k:Nat} {x:α} (h:l[k]?=some x) (hp:p x=false):l.all p=false:=by
 rw[List.all_eq_false]
 exact⟨x,List.mem_of_getElem? h,by simp[hp]⟩
set_option maxHeartbeats 1000000 in
set_option maxRecDepth 100000 in
theorem topoPlaces_any (x:CfgA) (c:Cfg) (w:World) (hl:limitsB c=true) (hok:CfgOk w (·<w.heap.size) x c) :
  Calls Tryz.prog 123 #[.agg (cfgC x c)] w fun e w'=>e=.returned (.bool (placesB c))∧Below w.heap.size w w':=by
 obtain⟨az,cz,ac,cc,at_,ct,av,cv,ar,cr,ao,co⟩:=x
 have hbox:=CfgBox.new hok
 have HL:=Lib.hid hl
 clear hl hok
 have hlz:c.zones.length≤8:=by have:=HL.out;simp[limitsB,inR] at this;omega
 have hlc:c.cells.length≤16:=by have:=HL.out;simp[limitsB,inR] at this;omega
 have hlr:c.replicas.length≤5:=by have:=HL.out;simp[limitsB,inR] at this;omega
 have hlo:c.observers.length≤9:=by have:=HL.out;simp[limitsB,inR] at this;omega
 have hreg:c.regions≤4:=by have:=HL.out;simp[limitsB,inR] at this;omega
 have hreg1:1≤c.regions:=by have:=HL.out;simp[limitsB,inR] at this;omega
 unfold cfgC at *
 simp only at *
 go_enter Tryz.func123,Tryz.ntmps123
 go_upto_block 0 with fail
 go_cut [] (fun wx=>CfgBox w w.heap.size ⟨az,cz,ac,cc,at_,ct,av,cv,ar,cr,ao,co⟩ c wx∧c.zones.all (fun z=>inR z 0 (c.regions-1))=true)
 case first=>
  go_wp2
  go_loopg [15] c.zones.length (fun gk si wr=>∃ k:Nat,gk+k=c.zones.length∧si=.int .i64 k∧CfgBox w w.heap.size ⟨az,cz,ac,cc,at_,ct,av,cv,ar,cr,ao,co⟩ c wr∧(c.zones.take k).all (fun z=>inR z 0 (c.regions-1))=true)
  case atStart=>exact⟨0,rfl,rfl,hbox,rfl⟩
  case round=>
   rename_i J K aJ aK
   clear hbox
   obtain⟨k,hgk,rfl,hbox,hall⟩:=hrel
   have HA:=Lib.hid hall
   clear hall
   by_cases hk:k<c.zones.length
   ·have hlt:(k:Int)<(c.zones.length:Int):=by omega
    obtain⟨b,off,z,rfl,hb,hz,hcell⟩:=hbox.ok.zones.row (enc:=intC) (sz:=1) (fun _=>rfl) (by omega) hk
    have e0:=hcell 0 (.int .i64 z) rfl
    simp only[Nat.add_zero,Nat.mul_one] at e0
    have cb0:=hbox.box.cell' (i:=0) (v:=.int .i64 c.regions) rfl
    have hgs:w.heap.size<wr.heap.size:=hbox.box.lt
    have HZ:=Lib.hid hz
    clear hcell hz
    by_cases hp:(fun z=>inR z 0 (c.regions-1)) z=true
    ·have hn:(c.zones.take (k+1)).all (fun z=>inR z 0 (c.regions-1))=true:=take_all_yes HZ.out HA.out hp
     have HN:=Lib.hid hn
     clear hn
     simp only at hp
     go_wp2_with (go_at_call 169;refine (topoWithin_any _ _ _ _).mono ?_;rintro e w' ⟨rfl,rfl⟩)
     go_roundg (gk-1)
     case measure=>omega
     case rel=>exact⟨k+1,by omega,by go_num,hbox.alloc _,HN.out⟩
    ·have hp':(fun z=>inR z 0 (c.regions-1)) z=false:=by simpa using hp
     have hn:placesB c=false:=by unfold placesB;simp only[all_no (p:=(fun z=>inR z 0 (c.regions-1))) HZ.out hp',Bool.and_false,Bool.false_and]
     have HN:=Lib.hid hn
     clear hn hp
     simp only at hp'
     go_wp2_with (go_at_call 169;refine (topoWithin_any _ _ _ _).mono ?_;rintro e w' ⟨rfl,rfl⟩)
     go_ret
     exact⟨ret_bool HN.out.symm,(hbox.alloc _).below⟩
   ·have hge:¬ ((k:Int)<(c.zones.length:Int)):=by omega
    have hall:c.zones.all (fun z=>inR z 0 (c.regions-1))=true:=by have:=HA.out;rwa[List.take_of_length_le (by omega)] at this
    have HA2:=Lib.hid hall
    clear hall HA
    go_wp2
    go_meet
    exact⟨hbox,HA2.out⟩
 case rest=>
  clear hbox
  obtain⟨hbox,hall0⟩:=hcut
  have HA0:=Lib.hid hall0
  clear hall0
  have cb1:=hbox.box.cell' (i:=1) (v:=.slice az c.zones.length cz) rfl
  have cb2:=hbox.box.cell' (i:=2) (v:=.slice ac c.cells.length cc) rfl
  go_upto_block 2 with fail
  go_cut [] (fun wx=>CfgBox w w.heap.size ⟨az,cz,ac,cc,at_,ct,av,cv,ar,cr,ao,co⟩ c wx∧c.cells.all (fun y=>inR y.1 0 (c.zones.length-1))=true)
  case first=>
   go_wp2
   go_loopg [34] c.cells.length (fun gk si wr=>∃ k:Nat,gk+k=c.cells.length∧si=.int .i64 k∧CfgBox w w.heap.size ⟨az,cz,ac,cc,at_,ct,av,cv,ar,cr,ao,co⟩ c wr∧(c.cells.take k).all (fun y=>inR y.1 0 (c.zones.length-1))=true)
   case atStart=>exact⟨0,rfl,rfl,hbox,rfl⟩
   case round=>
    rename_i J K aJ aK
    clear hbox
    obtain⟨k,hgk,rfl,hbox,hall⟩:=hrel
    have HA:=Lib.hid hall
    clear hall
    by_cases hk:k<c.cells.length
    ·have hlt:(k:Int)<(c.cells.length:Int):=by omega
     obtain⟨b,off,z,rfl,hb,hz,hcell⟩:=hbox.ok.cells.row (enc:=pairC) (sz:=2) (fun _=>rfl) (by omega) hk
     have e0:=hcell 0 (.int .i64 z.1) rfl
     have e1:=hcell 1 (.int .i64 z.2) rfl
     simp only[Nat.add_zero,Nat.mul_one] at e0 e1
     have hgs:w.heap.size<wr.heap.size:=hbox.box.lt
     have HZ:=Lib.hid hz
     clear hcell hz
     by_cases hp:(fun y=>inR y.1 0 (c.zones.length-1)) z=true
     ·have hn:(c.cells.take (k+1)).all (fun y=>inR y.1 0 (c.zones.length-1))=true:=take_all_yes HZ.out HA.out hp
      have HN:=Lib.hid hn
      clear hn
      simp only at hp
      go_wp2_with (go_at_call 169;refine (topoWithin_any _ _ _ _).mono ?_;rintro e w' ⟨rfl,rfl⟩)
      go_roundg (gk-1)
      case measure=>omega
      case rel=>exact⟨k+1,by omega,by go_num,hbox.alloc _,HN.out⟩
     ·have hp':(fun y=>inR y.1 0 (c.zones.length-1)) z=false:=by simpa using hp
      have hn:placesB c=false:=by unfold placesB;simp only[all_no (p:=(fun y=>inR y.1 0 (c.zones.length-1))) HZ.out hp',Bool.and_false,Bool.false_and]
      have HN:=Lib.hid hn
      clear hn hp
      simp only at hp'
      go_wp2_with (go_at_call 169;refine (topoWithin_any _ _ _ _).mono ?_;rintro e w' ⟨rfl,rfl⟩)
      go_ret
      exact⟨ret_bool HN.out.symm,(hbox.alloc _).below⟩
    ·have hge:¬ ((k:Int)<(c.cells.length:Int)):=by omega
     have hall:c.cells.all (fun y=>inR y.1 0 (c.zones.length-1))=true:=by have:=HA.out;rwa[List.take_of_length_le (by omega)] at this
     have HA2:=Lib.hid hall
     clear hall HA
     go_wp2
     go_meet
     exact⟨hbox,HA2.out⟩
  case rest=>
   clear hbox
   obtain⟨hbox,hall2⟩:=hcut
   have HA2:=Lib.hid hall2
   clear hall2
   have cb5:=hbox.box.cell' (i:=5) (v:=.slice ar c.replicas.length cr) rfl
   go_upto_block 4 with fail
   go_cut [] (fun wx=>CfgBox w w.heap.size ⟨az,cz,ac,cc,at_,ct,av,cv,ar,cr,ao,co⟩ c wx∧c.replicas.all (fun z=>inR z 0 (c.zones.length-1))=true)
   case first=>
    go_wp2
    go_loopg [47] c.replicas.length (fun gk si wr=>∃ k:Nat,gk+k=c.replicas.length∧si=.int .i64 k∧CfgBox w w.heap.size ⟨az,cz,ac,cc,at_,ct,av,cv,ar,cr,ao,co⟩ c wr∧(c.replicas.take k).all (fun z=>inR z 0 (c.zones.length-1))=true)
    case atStart=>exact⟨0,rfl,rfl,hbox,rfl⟩
    case round=>
     rename_i J K aJ aK
     clear hbox
     obtain⟨k,hgk,rfl,hbox,hall⟩:=hrel
     have HA:=Lib.hid hall
     clear hall
     by_cases hk:k<c.replicas.length
     ·have hlt:(k:Int)<(c.replicas.length:Int):=by omega
      obtain⟨b,off,z,rfl,hb,hz,hcell⟩:=hbox.ok.replicas.row (enc:=intC) (sz:=1) (fun _=>rfl) (by omega) hk
      have e0:=hcell 0 (.int .i64 z) rfl
      simp only[Nat.add_zero,Nat.mul_one] at e0
      have hgs:w.heap.size<wr.heap.size:=hbox.box.lt
      have HZ:=Lib.hid hz
      clear hcell hz
      by_cases hp:(fun z=>inR z 0 (c.zones.length-1)) z=true
      ·have hn:(c.replicas.take (k+1)).all (fun z=>inR z 0 (c.zones.length-1))=true:=take_all_yes HZ.out HA.out hp
       have HN:=Lib.hid hn
       clear hn
       simp only at hp
       go_wp2_with (go_at_call 169;refine (topoWithin_any _ _ _ _).mono ?_;rintro e w' ⟨rfl,rfl⟩)
       go_roundg (gk-1)
       case measure=>omega
       case rel=>exact⟨k+1,by omega,by go_num,hbox,HN.out⟩
      ·have hp':(fun z=>inR z 0 (c.zones.length-1)) z=false:=by simpa using hp
       have hn:placesB c=false:=by unfold placesB;simp only[all_no (p:=(fun z=>inR z 0 (c.zones.length-1))) HZ.out hp',Bool.and_false,Bool.false_and]
       have HN:=Lib.hid hn
       clear hn hp
       simp only at hp'
       go_wp2_with (go_at_call 169;refine (topoWithin_any _ _ _ _).mono ?_;rintro e w' ⟨rfl,rfl⟩)
       go_ret
       exact⟨ret_bool HN.out.symm,hbox.below⟩
     ·have hge:¬ ((k:Int)<(c.replicas.length:Int)):=by omega
      have hall:c.replicas.all (fun z=>inR z 0 (c.zones.length-1))=true:=by have:=HA.out;rwa[List.take_of_length_le (by omega)] at this
      have HA2:=Lib.hid hall
      clear hall HA
      go_wp2
      go_meet
      exact⟨hbox,HA2.out⟩
   case rest=>
    clear hbox
    obtain⟨hbox,hall4⟩:=hcut
    have HA4:=Lib.hid hall4
    clear hall4
    have cb6:=hbox.box.cell' (i:=6) (v:=.slice ao c.observers.length co) rfl
    go_upto_block 6 with fail
    go_cut [] (fun wx=>CfgBox w w.heap.size ⟨az,cz,ac,cc,at_,ct,av,cv,ar,cr,ao,co⟩ c wx∧c.observers.all (fun z=>inR z 0 (c.zones.length-1))=true)
    case first=>
     go_wp2
     go_loopg [59] c.observers.length (fun gk si wr=>∃ k:Nat,gk+k=c.observers.length∧si=.int .i64 k∧CfgBox w w.heap.size ⟨az,cz,ac,cc,at_,ct,av,cv,ar,cr,ao,co⟩ c wr∧(c.observers.take k).all (fun z=>inR z 0 (c.zones.length-1))=true)
     case atStart=>exact⟨0,rfl,rfl,hbox,rfl⟩
     case round=>
      rename_i J K aJ aK
      clear hbox
      obtain⟨k,hgk,rfl,hbox,hall⟩:=hrel
      have HA:=Lib.hid hall
      clear hall
      by_cases hk:k<c.observers.length
      ·have hlt:(k:Int)<(c.observers.length:Int):=by omega
       obtain⟨b,off,z,rfl,hb,hz,hcell⟩:=hbox.ok.observers.row (enc:=intC) (sz:=1) (fun _=>rfl) (by omega) hk
       have e0:=hcell 0 (.int .i64 z) rfl
       simp only[Nat.add_zero,Nat.mul_one] at e0
       have hgs:w.heap.size<wr.heap.size:=hbox.box.lt
       have HZ:=Lib.hid hz
       clear hcell hz
       by_cases hp:(fun z=>inR z 0 (c.zones.length-1)) z=true
       ·have hn:(c.observers.take (k+1)).all (fun z=>inR z 0 (c.zones.length-1))=true:=take_all_yes HZ.out HA.out hp
        have HN:=Lib.hid hn
        clear hn
        simp only at hp
        go_wp2_with (go_at_call 169;refine (topoWithin_any _ _ _ _).mono ?_;rintro e w' ⟨rfl,rfl⟩)
        go_roundg (gk-1)
        case measure=>omega
        case rel=>exact⟨k+1,by omega,by go_num,hbox,HN.out⟩
       ·have hp':(fun z=>inR z 0 (c.zones.length-1)) z=false:=by simpa using hp
        have hn:placesB c=false:=by unfold placesB;simp only[all_no (p:=(fun z=>inR z 0 (c.zones.length-1))) HZ.out hp',Bool.and_false,Bool.false_and]
        have HN:=Lib.hid hn
        clear hn hp
        simp only at hp'
        go_wp2_with (go_at_call 169;refine (topoWithin_any _ _ _ _).mono ?_;rintro e w' ⟨rfl,rfl⟩)
        go_ret
        exact⟨ret_bool HN.out.symm,hbox.below⟩
      ·have hge:¬ ((k:Int)<(c.observers.length:Int)):=by omega
       have hall:c.observers.all (fun z=>inR z 0 (c.zones.length-1))=true:=by have:=HA.out;rwa[List.take_of_length_le (by omega)] at this
       have HA2:=Lib.hid hall
       clear hall HA
       go_wp2
       go_meet
       exact⟨hbox,HA2.out⟩
    case rest=>
     clear hbox
     obtain⟨hbox,hall6⟩:=hcut
     have HA6:=Lib.hid hall6
     clear hall6
     go_wp2
     go_ret
     refine⟨ret_bool ?_,hbox.below⟩
     unfold placesB
     rw[HA0.out,HA2.out,HA4.out,HA6.out]
     rfl
theorem versOk_no {l:List (Int×Int)} {k:Nat} {v:Int×Int} (h:l[k]?=some v) (hp:verOk k v=false):versOk l=false:=by
 unfold versOk
 rw[List.all_eq_false]
 exact⟨k,List.mem_range.2 (List.getElem?_eq_some_iff.1 h).1,by simp[h,hp]⟩
theorem versOk_yes {l:List (Int×Int)} (h:∀ k v,l[k]?=some v→verOk k v=true):versOk l=true:=by
 unfold versOk
 rw[List.all_eq_true]
 intro i _
 cases hi:l[i]? with
 | none=>rfl
 | some v=>exact h i v hi
set_option maxHeartbeats 1000000 in
set_option maxRecDepth 100000 in
theorem topoValues_any (x:CfgA) (c:Cfg) (w:World) (hl:limitsB c=true) (hok:CfgOk w (·<w.heap.size) x c) :
  Calls Tryz.prog 124 #[.agg (cfgC x c)] w fun e w'=>e=.returned (.bool (valuesB c))∧Below w.heap.size w w':=by
 obtain⟨az,cz,ac,cc,at_,ct,av,cv,ar,cr,ao,co⟩:=x
 have hbox:=CfgBox.new hok
 have HL:=Lib.hid hl
 clear hl hok
 have hlc:c.cells.length≤16:=by have:=HL.out;simp[limitsB,inR] at this;omega
 have hlv:c.versions.length≤30:=by have:=HL.out;simp[limitsB,inR] at this;omega
 unfold cfgC at *
 simp only at *
 go_enter Tryz.func124,Tryz.ntmps124
 go_upto_block 0 with fail
 go_cut [] (fun wx=>CfgBox w w.heap.size ⟨az,cz,ac,cc,at_,ct,av,cv,ar,cr,ao,co⟩ c wx∧c.cells.all (fun y=>inR y.2 1 4194304)=true)
 case first=>
  go_wp2
  go_loopg [10] c.cells.length (fun gk si wr=>∃ k:Nat,gk+k=c.cells.length∧si=.int .i64 k∧CfgBox w w.heap.size ⟨az,cz,ac,cc,at_,ct,av,cv,ar,cr,ao,co⟩ c wr∧(c.cells.take k).all (fun y=>inR y.2 1 4194304)=true)
  case atStart=>exact⟨0,rfl,rfl,hbox,rfl⟩
  case round=>
   rename_i J K aJ aK
   clear hbox
   obtain⟨k,hgk,rfl,hbox,hall⟩:=hrel
   have HA:=Lib.hid hall
   clear hall
   by_cases hk:k<c.cells.length
   ·have hlt:(k:Int)<(c.cells.length:Int):=by omega
    obtain⟨b,off,z,rfl,hb,hz,hcell⟩:=hbox.ok.cells.row (enc:=pairC) (sz:=2) (fun _=>rfl) (by omega) hk
    have e0:=hcell 0 (.int .i64 z.1) rfl
    have e1:=hcell 1 (.int .i64 z.2) rfl
    simp only[Nat.add_zero] at e0 e1
    have hgs:w.heap.size<wr.heap.size:=hbox.box.lt
    have HZ:=Lib.hid hz
    clear hcell hz
    by_cases hp:(fun y:Int×Int=>inR y.2 1 4194304) z=true
    ·have hn:=take_all_yes HZ.out HA.out hp
     have HN:=Lib.hid hn
     clear hn
     simp only at hp
     go_wp2_with (go_at_call 169;refine (topoWithin_any _ _ _ _).mono ?_;rintro e w' ⟨rfl,rfl⟩)
     go_roundg (gk-1)
     case measure=>omega
     case rel=>exact⟨k+1,by omega,by go_num,hbox.alloc _,HN.out⟩
    ·have hp':(fun y:Int×Int=>inR y.2 1 4194304) z=false:=by simpa using hp
     have hn:valuesB c=false:=by unfold valuesB;simp only[all_no (p:=fun y:Int×Int=>inR y.2 1 4194304) HZ.out hp',Bool.and_false,Bool.false_and]
     have HN:=Lib.hid hn
     clear hn hp
     simp only at hp'
     go_wp2_with (go_at_call 169;refine (topoWithin_any _ _ _ _).mono ?_;rintro e w' ⟨rfl,rfl⟩)
     go_ret
     exact⟨ret_bool HN.out.symm,(hbox.alloc _).below⟩
   ·have hge:¬ ((k:Int)<(c.cells.length:Int)):=by omega
    have hall:c.cells.all (fun y=>inR y.2 1 4194304)=true:=by have:=HA.out;rwa[List.take_of_length_le (by omega)] at this
    have HA2:=Lib.hid hall
    clear hall HA
    go_wp2
    go_meet
    exact⟨hbox,HA2.out⟩
 case rest=>
  clear hbox
  obtain⟨hbox,hall0⟩:=hcut
  have HA0:=Lib.hid hall0
  clear hall0
  have cb4:=hbox.box.cell' (i:=4) (v:=.slice av c.versions.length cv) rfl
  go_upto_block 2 with fail
  go_cut [] (fun wx=>CfgBox w w.heap.size ⟨az,cz,ac,cc,at_,ct,av,cv,ar,cr,ao,co⟩ c wx∧versOk c.versions=true)
  case first=>
   go_wp2
   go_loopg [22] c.versions.length (fun gk si wr=>∃ k:Nat,gk+k=c.versions.length∧si=.int .i64 k∧CfgBox w w.heap.size ⟨az,cz,ac,cc,at_,ct,av,cv,ar,cr,ao,co⟩ c wr∧∀ i v,i<k→c.versions[i]?=some v→verOk i v=true)
   case atStart=>exact⟨0,rfl,rfl,hbox,fun i v hi=>absurd hi (by omega)⟩
   case round=>
    rename_i J K aJ aK
    clear hbox
    obtain⟨k,hgk,rfl,hbox,hall⟩:=hrel
    have HA:=Lib.hid hall
    clear hall
    by_cases hk:k<c.versions.length
    ·have hlt:(k:Int)<(c.versions.length:Int):=by omega
     obtain⟨b,off,z,rfl,hb,hz,hcell⟩:=hbox.ok.versions.row (enc:=pairC) (sz:=2) (fun _=>rfl) (by omega) hk
     obtain⟨lo,hi⟩:=z
     have e0:=hcell 0 (.int .i64 lo) rfl
     have e1:=hcell 1 (.int .i64 hi) rfl
     simp only[Nat.add_zero] at e0 e1
     have hgs:w.heap.size<wr.heap.size:=hbox.box.lt
     have HZ:=Lib.hid hz
     clear hcell hz cb4
     by_cases hp:verOk k (lo,hi)=true
     ·have hn:∀ i v,i<k+1→c.versions[i]?=some v→verOk i v=true:=by
       intro i v hi hv
       by_cases hik:i<k
       ·exact HA.out i v hik hv
       ·obtain rfl:i=k:=by omega
        rw[HZ.out] at hv
        cases hv
        exact hp
      have HN:=Lib.hid hn
      clear hn
      have hq:0≤lo∧lo≤hi∧hi≤30∧(k=0→lo=0):=by
       simp[verOk] at hp
       omega
      obtain⟨q1,q2,q3,q4⟩:=hq
      clear hp
      by_cases hk0:k=0
      ·have hb0:((k:Int)==0)=true:=by simp;omega
       have hb1:(lo != 0)=false:=by simp;omega
       have q4':lo≤0:=by have:=q4 hk0;omega
       clear q4 hk0
       go_wp2
       go_roundg (gk-1)
       case measure=>omega
       case rel=>exact⟨k+1,by omega,by go_num,hbox.alloc _,HN.out⟩
      ·have hb0:((k:Int)==0)=false:=by simp;omega
       clear q4 hk0
       go_wp2
       go_roundg (gk-1)
       case measure=>omega
       case rel=>exact⟨k+1,by omega,by go_num,hbox.alloc _,HN.out⟩
     ·have hp':verOk k (lo,hi)=false:=by simpa using hp
      have hn:valuesB c=false:=by unfold valuesB;rw[versOk_no HZ.out hp'];simp
      have HN:=Lib.hid hn
      have hq:lo<0∨(0≤lo∧hi<lo)∨(0≤lo∧lo≤hi∧30<hi)∨(0≤lo∧lo≤hi∧hi≤30∧k=0∧lo≠0):=by
       simp[verOk] at hp'
       omega
      clear hn hp hp'
      rcases hq with q1 | ⟨q1,q2⟩ | ⟨q1,q2,q3⟩ | ⟨q1,q2,q3,q4,q5⟩
      ·have hd:decide (lo<0)=true:=by simpa using q1
       go_wp2
       go_ret
       exact⟨ret_bool HN.out.symm,(hbox.alloc _).below⟩
      ·go_wp2
       go_ret
       exact⟨ret_bool HN.out.symm,(hbox.alloc _).below⟩
      ·go_wp2
       go_ret
       exact⟨ret_bool HN.out.symm,(hbox.alloc _).below⟩
      ·have hb0:((k:Int)==0)=true:=by simp;omega
       have hb1:(lo != 0)=true:=by simp;omega
       clear q4 q5
       go_wp2
       go_ret
       exact⟨ret_bool HN.out.symm,(hbox.alloc _).below⟩
    ·have hge:¬ ((k:Int)<(c.versions.length:Int)):=by omega
     have hall:versOk c.versions=true:=versOk_yes fun i v hv=>HA.out i v (by have:=(List.getElem?_eq_some_iff.1 hv).1;omega) hv
     have HA2:=Lib.hid hall
     clear hall HA
     go_wp2
     go_meet
     exact⟨hbox,HA2.out⟩
  case rest=>
   clear hbox cb4
   obtain⟨hbox,hall2⟩:=hcut
   have HA2:=Lib.hid hall2
   clear hall2
   have cb7:=hbox.box.cell' (i:=7) (v:=.int .i64 c.blast) rfl
   have cb8:=hbox.box.cell' (i:=8) (v:=.int .i64 c.lease) rfl
   have cb9:=hbox.box.cell' (i:=9) (v:=.int .i64 c.bake) rfl
   have hfin:valuesB c=(inR c.blast 1 16&&inR c.lease 1 1000&&inR c.bake 0 10000):=by unfold valuesB;rw[HA0.out,HA2.out];rfl
   have HF:=Lib.hid hfin
   clear hfin
   go_wp2_with (go_at_call 169;refine (topoWithin_any _ _ _ _).mono ?_;rintro e w' ⟨rfl,rfl⟩)
   all_goals
    go_ret
    refine⟨ret_bool ?_,hbox.below⟩
    rw[HF.out]
    go_light
    simp[*]
theorem CfgBox.later {w:World} {g:Nat} {x:CfgA} {c:Cfg} {wr wx:World} (h:CfgBox w g x c wr) (hb:Below wr.heap.size wr wx):CfgBox w g x c wx:=
 ⟨h.box.below hb h.box.lt,h.ok.keep fun k hk=>hb.block k (Nat.lt_trans hk h.box.lt),h.below.trans (hb.mono h.below.size),h.le⟩
theorem CfgBox.okW {w:World} {g:Nat} {x:CfgA} {c:Cfg} {wr:World} (h:CfgBox w g x c wr):CfgOk wr (·<wr.heap.size) x c:=h.ok.more fun b hb=>Nat.lt_trans hb h.box.lt
set_option maxHeartbeats 1000000 in
set_option maxRecDepth 100000 in
theorem topoValid_any (x:CfgA) (c:Cfg) (w:World) (hl:Lens c) (hok:CfgOk w (·<w.heap.size) x c) :
  Calls Tryz.prog 80 #[.agg (cfgC x c)] w fun e w'=>e=.returned (.int .i64 (topoErr c))∧Below w.heap.size w w':=by
 obtain⟨az,cz,ac,cc,at_,ct,av,cv,ar,cr,ao,co⟩:=x
 have hbox:=CfgBox.new hok
 have HN:=Lib.hid (topoNumbers_any ⟨az,cz,ac,cc,at_,ct,av,cv,ar,cr,ao,co⟩ c (w.alloc (.cells (cfgC ⟨az,cz,ac,cc,at_,ct,av,cv,ar,cr,ao,co⟩ c) 31)) hl)
 have hlr:c.replicas.length≤maxLen:=hl.2.2.2.2.1
 unfold maxLen at hlr
 clear hok hl
 unfold cfgC at *
 simp only at *
 have HBX:=Lib.hid hbox
 clear hbox
 go_enter Tryz.func80,Tryz.ntmps80
 go_wp2_with fail
 refine HN.out.mono ?_
 rintro e w1 ⟨rfl,hb1⟩
 have hbox:=HBX.out.later hb1
 clear hb1 HN HBX
 by_cases h1:limitsB c=true
 ·have c0:=hbox.box.cell' (i:=0) (v:=.int .i64 c.regions) rfl
  have c1:=hbox.box.cell' (i:=1) (v:=.slice az c.zones.length cz) rfl
  have c2:=hbox.box.cell' (i:=2) (v:=.slice ac c.cells.length cc) rfl
  have c3:=hbox.box.cell' (i:=3) (v:=.slice at_ c.tenants.length ct) rfl
  have c4:=hbox.box.cell' (i:=4) (v:=.slice av c.versions.length cv) rfl
  have c5:=hbox.box.cell' (i:=5) (v:=.slice ar c.replicas.length cr) rfl
  have c6:=hbox.box.cell' (i:=6) (v:=.slice ao c.observers.length co) rfl
  have c7:=hbox.box.cell' (i:=7) (v:=.int .i64 c.blast) rfl
  have c8:=hbox.box.cell' (i:=8) (v:=.int .i64 c.lease) rfl
  have c9:=hbox.box.cell' (i:=9) (v:=.int .i64 c.bake) rfl
  by_cases h2:c.replicas.length % 2=0
  ·have e2:((c.replicas.length:Int) % 2==0)=true:=by simp;omega
   have HX:=Lib.hid h2
   clear h2
   go_wp2_with fail
   go_ret
   exact⟨ret_i64 (by simp[topoErr,h1,HX.out]),hbox.below⟩
  ·have e2:((c.replicas.length:Int) % 2==0)=false:=by simp;omega
   have HX:=Lib.hid h2
   clear h2
   go_wp2_with fail
   refine (topoPlaces_any ⟨az,cz,ac,cc,at_,ct,av,cv,ar,cr,ao,co⟩ c w1 h1 hbox.okW).mono ?_
   rintro e w2 ⟨rfl,hb2⟩
   have hbox2:=hbox.later hb2
   clear c0 c1 c2 c3 c4 c5 c6 c7 c8 c9 hb2 hbox
   by_cases h3:placesB c=true
   ·have c0:=hbox2.box.cell' (i:=0) (v:=.int .i64 c.regions) rfl
    have c1:=hbox2.box.cell' (i:=1) (v:=.slice az c.zones.length cz) rfl
    have c2:=hbox2.box.cell' (i:=2) (v:=.slice ac c.cells.length cc) rfl
    have c3:=hbox2.box.cell' (i:=3) (v:=.slice at_ c.tenants.length ct) rfl
    have c4:=hbox2.box.cell' (i:=4) (v:=.slice av c.versions.length cv) rfl
    have c5:=hbox2.box.cell' (i:=5) (v:=.slice ar c.replicas.length cr) rfl
    have c6:=hbox2.box.cell' (i:=6) (v:=.slice ao c.observers.length co) rfl
    have c7:=hbox2.box.cell' (i:=7) (v:=.int .i64 c.blast) rfl
    have c8:=hbox2.box.cell' (i:=8) (v:=.int .i64 c.lease) rfl
    have c9:=hbox2.box.cell' (i:=9) (v:=.int .i64 c.bake) rfl
    go_wp2_with fail
    refine (topoValues_any ⟨az,cz,ac,cc,at_,ct,av,cv,ar,cr,ao,co⟩ c w2 h1 hbox2.okW).mono ?_
    rintro e w3 ⟨rfl,hb3⟩
    have hbel:=(hbox2.later hb3).below
    clear c0 c1 c2 c3 c4 c5 c6 c7 c8 c9 hb3 hbox2
    by_cases h4:valuesB c=true
    ·go_wp2
     go_ret
     exact⟨ret_i64 (by simp[topoErr,h1,h3,h4,HX.out]),hbel⟩
    ·have h4':valuesB c=false:=by simpa using h4
     go_wp2
     go_ret
     exact⟨ret_i64 (by simp[topoErr,h1,h3,h4',HX.out]),hbel⟩
   ·have h3':placesB c=false:=by simpa using h3
    go_wp2_with fail
    go_ret
    exact⟨ret_i64 (by simp[topoErr,h1,h3',HX.out]),hbox2.below⟩
 ·have h1':limitsB c=false:=by simpa using h1
  go_wp2
  go_ret
  exact⟨ret_i64 (by simp[topoErr,h1']),hbox.below⟩
set_option maxHeartbeats 400000 in
theorem tenantWithin_any (n lo hi:Int) (w:World) :
  Calls Tryz.prog 125 #[.int .i64 n,.int .i64 lo,.int .i64 hi] w fun e w'=>e=.returned (.bool (inR n lo hi))∧w=w':=by
 go_enter Tryz.func125,Tryz.ntmps125
 go_wp2
 all_goals
  go_ret
  refine⟨ret_bool ?_,rfl⟩
  go_light
  simp[inR, *]<;>omega
set_option maxHeartbeats 1000000 in
set_option maxRecDepth 100000 in
theorem tenantPermitted_any (t:Ten) (r:Int) (w:World) (h1:1≤r) (h4:r≤4) :
  Calls Tryz.prog 81 #[.agg (tenC t).toArray,.int .i64 r] w fun e w'=>e=.returned (.bool (tenOk r t))∧Below w.heap.size w w':=by
 unfold tenC
 have hr:r=1∨r=2∨r=3∨r=4:=by omega
 clear h1 h4
 rcases hr with rfl | rfl | rfl | rfl
 all_goals
  go_enter Tryz.func81,Tryz.ntmps81
  go_wp2_with (go_at_call 125;refine (tenantWithin_any _ _ _ _).mono ?_;rintro e w' ⟨rfl,rfl⟩)
  all_goals
   go_ret
   refine⟨ret_bool ?_,(Below.refl _ _).alloc (Nat.le_refl _) _⟩
   go_light
   simp[tenOk,shl1, *]
/-! tenant.Valid,atlas.Valid -/
def ctTopoV:CT:=fun vs mem nx K=>∃ N x c,vs=[cfgV N x c]∧HasCfg mem N c∧Lens c∧K (.int .i64 (topoErr c)) mem nx
theorem topoVOk:CSound Tryz.prog 80 ctTopoV:=⟨by kernel_rfl,fun {C ρ fr mem nx a w vs K} hc hs hv=>by
 obtain⟨N,x,c,rfl,hk,hl,hK⟩:=hc
 rw[List.map_cons,den_cfg]
 refine (topoValid_any (cfgX ρ N x) c w hl (hs.cfgH hk)).mono ?_
 rintro e w' ⟨rfl,hb⟩
 exact⟨_,mem,nx,ρ,rfl,hK,hs.later hb,trivial,ExtS.refl _ _⟩⟩
def ctPermit:CT:=fun vs mem nx K=>∃ t r,vs=[.agg (tenC t).toArray,.int .i64 r]∧(1≤r∧r≤4)∧K (.bool (tenOk r t)) mem nx
theorem permitOk:CSound Tryz.prog 81 ctPermit:=CSound.pure (by kernel_rfl) (by
 rintro vs mem nx K ⟨t,r,rfl,⟨h1,h2⟩,hK⟩
 refine⟨_,hK,fun ρ n=>⟨rfl,trivial⟩,fun ρ w=>?_⟩
 have e:([.agg (tenC t).toArray,.int .i64 r].map (den ρ)).toArray=#[.agg (tenC t).toArray,.int .i64 r]:=by simp[den,den2,den1,tenC]
 rw[e]
 exact tenantPermitted_any t r w h1 h2)
def tvF:FT:=[(80,ctTopoV),(81,ctPermit)]
def tvD:List (Nat×DQ):=[(2000005,{ k:=0,L:=[0,1,2,3,4,5,6,7,8,9,10,11,12,13],sl:=[1,12,13] })]
theorem tvFok:FTokI Tryz.prog tvF (inlOf tvD):=fti_cons (topoVOk.i _) (fti_cons (permitOk.i _) fti_nil)
theorem reg_of {c:Cfg} (h:topoErr c=0):1≤c.regions∧c.regions≤4:=by
 unfold topoErr at h
 by_cases hl:limitsB c=false
 ·rw[if_pos hl] at h;cases h
 ·simp[limitsB,inR] at hl
  omega
set_option maxRecDepth 100000 in
set_option maxHeartbeats 4000000 in
theorem tenV_sx (x:CfgK) (c:Cfg) (hL:Lens c) :
  sx ttA tvF tvD (bodyOf Tryz.f42) (argF 0 [cfgV CNu x c]) (uniM { c:=c }) 13 (endx ttA Tryz.f42.results.toList fun v _ _=>v=.int .i64 (cfgErr c)):=by
 have hmax:=hL.2.2.1
 unfold maxLen at hmax
 refine⟨CNu,x,c,rfl,HasCfg.keeps kp_,hL,?_⟩
 refine⟨fun hne=>?_,fun heq=>?_⟩
 ·have hne2:topoErr c≠0:=by simpa using hne
  rw[show cfgErr c=topoErr c from if_pos hne2]
  rfl
 ·have heq2:topoErr c=0:=by simpa using heq
  have hreg:=reg_of heq2
  have hce:cfgErr c=if c.tenants.all (tenOk c.regions) then 0 else 1:=if_neg (by simpa using heq2)
  refine⟨Int,fun i=>[(14,.int .i64 i)],fun _=>[],fun i=>(0≤i∧i≤c.tenants.length)∧∀ k,k<i.toNat→tenOk c.regions (c.tenants.getD k default)=true,fun i=>((c.tenants.length:Int)-i).toNat,⟨0,⟨by omega,fun k hk=>absurd hk (by omega)⟩,kp_,kp_⟩,?_⟩
  rintro i ⟨hi,hall⟩
  refine⟨⟨rfl,rfl⟩,?_⟩
  refine⟨fun hlt=>?_,fun hge=>?_⟩
  ·have hlt2:i<(c.tenants.length:Int):=of_decide_eq_true hlt
   refine⟨⟨Nat.le_refl _,hi.1,hlt2⟩,?_⟩
   refine⟨(c.tenants.getD i.toNat default),_,rfl,hreg,?_⟩
   refine⟨fun hb=>?_,fun hb=>?_⟩
   ·have hb2:tenOk c.regions (c.tenants.getD i.toNat default)=false:=by simpa using hb
    have hf:c.tenants.all (tenOk c.regions)=false:=by
     rw[List.all_eq_false]
     refine⟨(c.tenants.getD i.toNat default),?_,by rw[hb2];decide⟩
     rw[List.getD_eq_getElem?_getD,List.getElem?_eq_getElem (by omega)]
     exact List.getElem_mem _
    rw[hce,hf]
    rfl
   ·have hb2:tenOk c.regions (c.tenants.getD i.toNat default)=true:=by simpa using hb
    refine⟨_,?_,kp_,kp_⟩
    rw[wrapi (n:=i+1) (by omega)]
    dsimp only
    refine⟨⟨by omega,fun k hk=>?_⟩,by omega⟩
    by_cases hki:k<i.toNat
    ·exact hall k hki
    ·obtain rfl:k=i.toNat:=by omega
     exact hb2
  ·have hge2:¬ i<(c.tenants.length:Int):=of_decide_eq_false hge
   have ht:c.tenants.all (tenOk c.regions)=true:=by
    rw[List.all_eq_true]
    intro t ht
    obtain⟨k,hk,rfl⟩:=List.getElem_of_mem ht
    have:=hall k (by omega)
    rwa[List.getD_eq_getElem?_getD,List.getElem?_eq_getElem hk] at this
   rw[hce,ht]
   rfl
theorem tenV_calls (x:CfgA) (c:Cfg) (w:World) (hL:Lens c) (hc:CfgOk w (·<w.heap.size) x c):Calls Tryz.prog 42 #[.agg (cfgC x c)] w fun e w'=>e=.returned (.int .i64 (cfgErr c))∧Below w.heap.size w w':=by
 have:=uni_calls ttAok tvFok Tryz.func42 rfl (D:=tvD) (by kernel_rfl) (vs:=[cfgV CNu (ck x) c]) rfl { x:=x } { c:=c } w { c:=hc } (fun v hv=>by
  simp only[List.mem_cons,List.not_mem_nil,or_false] at hv
  subst hv
  exact upl_cfg_ok { x:=x } { c:=c }) (tenV_sx (ck x) c hL)
 rw[List.map_cons,upl_cfg { x:=x } { c:=c }] at this
 refine this.mono ?_
 rintro e w' ⟨v,mem',nx',ρ',rfl,rfl,hv,hm',hb⟩
 exact⟨rfl,hb⟩
def ctTenV:CT:=fun vs mem nx K=>∃ N x c,vs=[cfgV N x c]∧HasCfg mem N c∧Lens c∧K (.int .i64 (cfgErr c)) mem nx
theorem tenVOk:CSound Tryz.prog 42 ctTenV:=⟨by kernel_rfl,fun {C ρ fr mem nx a w vs K} hc hs hv=>by
 obtain⟨N,x,c,rfl,hk,hl,hK⟩:=hc
 rw[List.map_cons,den_cfg]
 refine (tenV_calls (cfgX ρ N x) c w hl (hs.cfgH hk)).mono ?_
 rintro e w' ⟨rfl,hb⟩
 exact⟨_,mem,nx,ρ,rfl,hK,hs.later hb,trivial,ExtS.refl _ _⟩⟩
/-! atlas.Valid,ref15.Valid -/
def xpl (A:Option Addr) (sz n:Nat) (x:CfgA) (c:Cfg):Nat→Pl:=fun j=>match j with
 | 10=>⟨A,sz,n,false,noSub⟩
 | j=>rpl x c noA noS noA noS j
abbrev xM {α:Type} (enc:α→List Value) (sz:Nat) (d:α) (l:List α) (c:Cfg):AM:=(10,rowOfL 3 sz enc d l)::rdM c noS noS
set_option maxRecDepth 100000 in
theorem rowc_calls {α:Type} {enc:α→List Value} {sz:Nat} (hsz:∀ x,(enc x).length=sz) (hpos:0<sz) (hpl:∀ x,∀ v ∈ enc x,plain1 v) (d:α) {τ:TT} (hτ:TTok Tryz.prog τ) {f:FuncId} {fn:Func} {F:FT} {D:List (Nat×DQ)} (hF:FTokI Tryz.prog F (inlOf D)) (hf:(Tryz.prog).funcs[f]?=some fn) (hb:fn.body=some (bodyOf fn)) (hcode:codeB fn.ntmps D (bodyOf fn)=true) {vs:List Value} (hn:Nat.ble vs.length fn.ntmps=true)
  (A:Option Addr) (l:List α) (x:CfgA) (c:Cfg) (w:World) (hr:Rd w (·<w.heap.size) A (flat enc l)) (hc:CfgOk w (·<w.heap.size) x c) (hv:∀ v ∈ vs,okV (xpl A sz l.length x c) 11 v) {R:Value→AM→Nat→Prop}
  (h:sx τ F D (bodyOf fn) (argF 0 vs) (xM enc sz d l c) 11 (endx τ fn.results.toList R)) :
  Calls Tryz.prog f (vs.map (den (xpl A sz l.length x c))).toArray w fun e w'=>∃ v mem' nx' ρ',e=.returned (den ρ' v)∧R v mem' nx'∧okV ρ' nx' v∧MemAt { w0:=w,bor:=[],n0:=11,ρ0:=xpl A sz l.length x c,nt:=fn.ntmps } ρ' mem' nx' w'∧Below w.heap.size w w':=by
 have hpc:CfgPl (xpl A sz l.length x c) CN1 x c:=⟨rfl,rfl,rfl,rfl,rfl,rfl⟩
 have hps:StPl (xpl A sz l.length x c) SN1 noA noS:=⟨rfl,rfl⟩
 have hps2:StPl (xpl A sz l.length x c) SN2 noA noS:=⟨rfl,rfl⟩
 have hm:MemAt { w0:=w,bor:=[],n0:=11,ρ0:=xpl A sz l.length x c,nt:=fn.ntmps } (xpl A sz l.length x c) (xM enc sz d l c) 11 w:=MemAt.rows trivial ⟨⟨by decide,rfl,row_of_rd (enc:=enc) (sz:=sz) hsz hpos hpl d rfl hr (fun b hb=>hb)⟩,cfg_blks hpc hc (fun b hb=>hb) (by decide) (st_blks hps (noS_ok w _) (fun b hb=>hb) (by decide) (by
  have:=st_blks (C:={ w0:=w,bor:=[],n0:=11,ρ0:=xpl A sz l.length x c,nt:=fn.ntmps }) (nx:=11) (r:=[]) hps2 (noS_ok w _) (fun b hb=>hb) (by decide) trivial
  exact this))⟩
 refine (calls_sxI hτ hF mixed hf hb hcode (vs:=vs) hn ⟨rfl,rfl⟩ rfl hm hv h).mono ?_
 rintro e w' ⟨v,mem',nx',ρ',rfl,hR,hv',hm'⟩
 exact⟨v,mem',nx',ρ',rfl,hR,hv',hm',⟨hm'.rest.os,hm'.rest.tape,hm'.rest.output,hm'.rest.size,fun b hlt=>hm'.rest.block b hlt (by simp)⟩⟩
def RouteOk (c:Cfg) (r:Int×Int):Prop:=(-1≤r.1∧r.1<c.cells.length)∧0≤r.2∧r.2≤1048576
structure ValidA (c:Cfg) (a:Atl) (key:Int):Prop where
 cfg:cfgErr c=0
 len:a.routes.length=c.tenants.length
 n:0≤a.number∧a.number≤4096
 t:0≤a.tick∧a.tick≤1073741824
 r:∀ k,k<a.routes.length→RouteOk c (a.routes.getD k (0,0))
 sum:a.sum=chainI key a.parent (bodyI a)
theorem cfg_lims {c:Cfg} (h:cfgErr c=0):c.cells.length≤16∧c.tenants.length≤32:=by
 have h0:topoErr c=0:=by
  unfold cfgErr at h
  by_cases q:topoErr c≠0
  ·rw[if_pos q] at h;exact h
  ·exact Classical.not_not.1 q
 unfold topoErr at h0
 by_cases hl:limitsB c=false
 ·rw[if_pos hl] at h0;cases h0
 ·simp[limitsB,inR] at hl
  omega
theorem atlIn_of {c:Cfg} {a:Atl} (h:cfgErr c=0) (hl:a.routes.length=c.tenants.length) (hn:0≤a.number∧a.number≤4096) (ht:0≤a.tick∧a.tick≤1073741824) (hr:∀ k,k<a.routes.length→RouteOk c (a.routes.getD k (0,0))):AtlIn a:=by
 have hc:=cfg_lims h
 refine⟨by unfold in64;omega,by unfold in64;omega,by omega,fun x hx=>?_⟩
 obtain⟨k,hk,rfl⟩:=List.getElem_of_mem hx
 have:=hr k hk
 rw[List.getD_eq_getElem?_getD,List.getElem?_eq_getElem hk] at this
 simp only[Option.getD_some] at this
 unfold RouteOk at this
 unfold in64
 omega
abbrev sumE:List (Nat×DQ):=[(1,{ k:=5,L:=[0,1,2,3,4,5,6,7,8,9,10,11,12,13,14,15,16,17,18,19,20,21,22,23,24,25,26,27,28,29,30,31,32,33,34,35,36,37,38,39,40],pre:=[(0,false),(1,false),(2,false),(3,false),(4,true)] })]
def vaPF:FT:=[(42,ctTenV),(129,ctInl ttA sumF sumE Tryz.f129 (bodyOf Tryz.f129))]
def vaPD:List (Nat×DQ):=[(9000000,{ k:=0,L:=[129] }),(2000006,{ k:=0,L:=[0,1,2,3,4,5,6,7,8,9,10,11,12],sl:=[2,3,4,40,41] }),(11,{ k:=5,L:=[0,1,2,3,4,5,6,7,8,9,10,11,12],pre:=[(0,false),(1,false),(2,false),(3,false),(4,true)] })]
theorem vaPFok:FTokI Tryz.prog vaPF (inlOf vaPD):=fti_cons (tenVOk.i _) (fti_cons (inl_ok ttAok (fti_cons (bodyPOk.i _) (fti_cons (chainPOk.i _) fti_nil)) mixed (by kernel_rfl) Tryz.func129 rfl (by kernel_rfl) (by decide)) fti_nil)
set_option maxRecDepth 100000 in
set_option maxHeartbeats 4000000 in
theorem validP_sx (cap:Nat) (x:CfgK) (c:Cfg) (a:Atl) (key:Int) (hL:Lens c) :
  sx ttA vaPF vaPD (bodyOf Tryz.f85) (argF 0 [cfgV CN1 x c,atlV a (slc 10 a.routes.length cap),.int .i64 key]) (xM pairC 2 (0,0) a.routes c) 11 (endx ttA Tryz.f85.results.toList fun v _ _=>∃ b,v=.bool b∧(b=true↔ValidA c a key)):=by
 refine⟨CN1,x,c,rfl,HasCfg.keeps kp_,hL,?_⟩
 refine⟨fun h1=>?_,fun h1=>?_⟩
 ·repeat (first | refine⟨fun _=>?_,fun h=>Bool.noConfusion h⟩ | refine⟨fun h=>Bool.noConfusion h,fun _=>?_⟩ | fail)
  exact⟨false,rfl,fun q=>Bool.noConfusion q,fun q=>absurd q.cfg (by simpa using h1)⟩
 ·replace h1:cfgErr c=0:=by simpa using h1
  refine⟨fun h2=>?_,fun h2=>?_⟩
  ·exact⟨false,rfl,fun q=>Bool.noConfusion q,fun q=>absurd q.len (by have q2:¬ (a.routes.length:Int)=c.tenants.length:=(by simpa using h2);omega)⟩
  ·replace h2:a.routes.length=c.tenants.length:=by have q2:(a.routes.length:Int)=c.tenants.length:=(by simpa using h2);omega
   refine⟨fun n1=>?_,fun n1=>?_⟩
   ·repeat (first | refine⟨fun _=>?_,fun h=>Bool.noConfusion h⟩ | refine⟨fun h=>Bool.noConfusion h,fun _=>?_⟩ | fail)
    exact⟨false,rfl,fun q=>Bool.noConfusion q,fun q=>absurd q.n (fun q=>by have:=of_decide_eq_true n1;omega)⟩
   ·have n1b:=of_decide_eq_false n1
    refine⟨fun n2=>?_,fun n2=>?_⟩
    ·repeat (first | refine⟨fun _=>?_,fun h=>Bool.noConfusion h⟩ | refine⟨fun h=>Bool.noConfusion h,fun _=>?_⟩ | fail)
     exact⟨false,rfl,fun q=>Bool.noConfusion q,fun q=>absurd q.n (fun q=>by have:=of_decide_eq_true n2;omega)⟩
    ·have n2b:=of_decide_eq_false n2
     refine⟨fun t1=>?_,fun t1=>?_⟩
     ·repeat (first | refine⟨fun _=>?_,fun h=>Bool.noConfusion h⟩ | refine⟨fun h=>Bool.noConfusion h,fun _=>?_⟩ | fail)
      exact⟨false,rfl,fun q=>Bool.noConfusion q,fun q=>absurd q.t (fun q=>by have:=of_decide_eq_true t1;omega)⟩
     ·have t1b:=of_decide_eq_false t1
      refine⟨fun t2=>?_,fun t2=>?_⟩
      ·exact⟨false,rfl,fun q=>Bool.noConfusion q,fun q=>absurd q.t (fun q=>by have:=of_decide_eq_true t2;omega)⟩
      ·have t2b:=of_decide_eq_false t2
       have hcl:=cfg_lims h1
       refine⟨Int,fun i=>[(42,.int .i64 i)],fun _=>[],fun i=>(0≤i∧i≤a.routes.length)∧∀ k,k<i.toNat→RouteOk c (a.routes.getD k (0,0)),fun i=>((a.routes.length:Int)-i).toNat,⟨0,⟨by omega,fun k hk=>absurd hk (by omega)⟩,kp_,kp_⟩,?_⟩
       rintro i ⟨hi,hall⟩
       refine⟨⟨rfl,rfl⟩,?_⟩
       refine⟨fun hlt=>?_,fun hge=>?_⟩
       ·have hlt2:i<(a.routes.length:Int):=of_decide_eq_true hlt
        refine⟨⟨Nat.le_refl _,hi.1,hlt2⟩,?_⟩
        refine⟨fun g1=>?_,fun g1=>?_⟩
        ·repeat (first | refine⟨fun _=>?_,fun h=>Bool.noConfusion h⟩ | refine⟨fun h=>Bool.noConfusion h,fun _=>?_⟩ | fail)
         exact⟨false,rfl,fun q=>Bool.noConfusion q,fun q=>absurd q.r (fun q=>by have q2:=q i.toNat (by omega);unfold RouteOk at q2;have:=of_decide_eq_true g1;omega)⟩
        ·have g1b:=of_decide_eq_false g1
         refine⟨fun g2=>?_,fun g2=>?_⟩
         ·repeat (first | refine⟨fun _=>?_,fun h=>Bool.noConfusion h⟩ | refine⟨fun h=>Bool.noConfusion h,fun _=>?_⟩ | fail)
          exact⟨false,rfl,fun q=>Bool.noConfusion q,fun q=>absurd q.r (fun q=>by have q2:=q i.toNat (by omega);unfold RouteOk at q2;have:=of_decide_eq_true g2;omega)⟩
         ·have g2b:=of_decide_eq_false g2
          refine⟨fun g3=>?_,fun g3=>?_⟩
          ·repeat (first | refine⟨fun _=>?_,fun h=>Bool.noConfusion h⟩ | refine⟨fun h=>Bool.noConfusion h,fun _=>?_⟩ | fail)
           exact⟨false,rfl,fun q=>Bool.noConfusion q,fun q=>absurd q.r (fun q=>by have q2:=q i.toNat (by omega);unfold RouteOk at q2;have:=of_decide_eq_true g3;omega)⟩
          ·have g3b:=of_decide_eq_false g3
           refine⟨fun g4=>?_,fun g4=>?_⟩
           ·exact⟨false,rfl,fun q=>Bool.noConfusion q,fun q=>absurd q.r (fun q=>by have q2:=q i.toNat (by omega);unfold RouteOk at q2;have:=of_decide_eq_true g4;omega)⟩
           ·have g4b:=of_decide_eq_false g4
            have hok:RouteOk c (a.routes.getD i.toNat (0,0)):=by unfold RouteOk;omega
            refine⟨_,?_,kp_,kp_⟩
            rw[wrapi (n:=i+1) (by omega)]
            dsimp only
            refine⟨⟨by omega,fun k hk=>?_⟩,by omega⟩
            by_cases hki:k<i.toNat
            ·exact hall k hki
            ·obtain rfl:k=i.toNat:=by omega
             exact hok
       ·have hge2:¬ i<(a.routes.length:Int):=of_decide_eq_false hge
        have hr:∀ k,k<a.routes.length→RouteOk c (a.routes.getD k (0,0)):=fun k hk=>hall k (by omega)
        have hin:=atlIn_of h1 h2 ⟨by omega,by omega⟩ ⟨by omega,by omega⟩ hr
        have hbl:=body_len hin
        refine⟨a,_,rfl,.inr (.inl ⟨10,_,rfl,.list rfl⟩),hin,fun cp=>?_⟩
        refine⟨kp_,?_⟩
        refine⟨_,_,key,a.parent,rfl,.inr (.inl ⟨_,cp,rfl,.list rfl⟩),by omega,?_⟩
        refine⟨kp_,?_⟩
        refine⟨_,rfl,fun q=>⟨h1,h2,⟨by omega,by omega⟩,⟨by omega,by omega⟩,hr,by simpa using q⟩,fun q=>?_⟩
        have:=q.sum
        simpa using this
theorem validP_calls (x:CfgA) (c:Cfg) (A:Option Addr) (cap:Nat) (a:Atl) (key:Int) (w:World) (hL:Lens c) (hr:Rd w (·<w.heap.size) A (flat pairC a.routes)) (hc:CfgOk w (·<w.heap.size) x c):Calls Tryz.prog 85 #[.agg (cfgC x c),.agg #[.int .i64 a.number,.int .i64 a.tick,.slice A a.routes.length cap,.int .u64 a.parent,.int .u64 a.sum],.int .i64 key] w fun e w'=>∃ b,(b=true↔ValidA c a key)∧e=.returned (.bool b)∧Below w.heap.size w w':=by
 have:=rowc_calls (enc:=pairC) (sz:=2) (fun _=>rfl) (by omega) pairC_plain (0,0) ttAok vaPFok Tryz.func85 rfl (D:=vaPD) (by kernel_rfl) (vs:=[cfgV CN1 (ck x) c,atlV a (slc 10 a.routes.length cap),.int .i64 key]) rfl A a.routes x c w hr hc (fun v hv=>by
  simp only[List.mem_cons,List.not_mem_nil,or_false] at hv
  rcases hv with rfl | rfl | rfl
  ·intro u hu
   simp at hu
   rcases hu with rfl | rfl | rfl | rfl | rfl | rfl | rfl | rfl | rfl | rfl<;>first | trivial | exact⟨by decide,rfl⟩
  ·intro u hu
   simp at hu
   rcases hu with rfl | rfl | rfl | rfl | rfl<;>first | trivial | exact⟨by decide,rfl⟩
  ·trivial) (validP_sx cap (ck x) c a key hL)
 have e1:den (xpl A 2 a.routes.length x c) (cfgV CN1 (ck x) c)=.agg (cfgC x c):=by rw[den_cfg];rfl
 have e2:den (xpl A 2 a.routes.length x c) (atlV a (slc 10 a.routes.length cap))=.agg #[.int .i64 a.number,.int .i64 a.tick,.slice A a.routes.length cap,.int .u64 a.parent,.int .u64 a.sum]:=by simp[den,den2,den1,dA_whole,dS_whole,xpl]
 rw[List.map_cons,List.map_cons,e1,e2] at this
 refine this.mono ?_
 rintro e w' ⟨v,mem',nx',ρ',rfl,⟨b,rfl,hb2⟩,hv,hm',hb⟩
 exact⟨b,hb2,rfl,hb⟩
/-! law15.awake -/
theorem body_sum (a:Atl) (k:Int):bodyI { a with sum:=k }=bodyI a:=rfl
theorem body_make (s:St) (par key:Int):bodyI (makeA s par key)=bodyI (atl0 s par):=body_sum _ _
theorem sum_make (s:St) (par key:Int):(makeA s par key).sum=chainI key par (bodyI (atl0 s par)):=rfl
theorem par_make (s:St) (par key:Int):(makeA s par key).parent=par:=rfl
def ttL:TT:=[(41,tiSl 5 112 56)]++ttA
theorem ttLok:TTok Tryz.prog ttL:=by
 refine tt_mem _ _ ?_
 unfold ttL ttA tt
 repeat (refine tt_cons ⟨by kernel_rfl,by kernel_rfl,plains (by rfl),by kernel_rfl,by kernel_rfl,by kernel_rfl⟩ ?_)
 exact tt_nil
/-! ref15.Same,of equal atlases -/
/-! Lists of atlases: rows of the wider kind. -/
abbrev aZ:Atl:=⟨0,0,[],0,0⟩
abbrev atlC (a:Atl) (cp:Nat):List Value:=[.int .i64 a.number,.int .i64 a.tick,.slice (some ⟨0,0,none⟩) a.routes.length cp,.int .u64 a.parent,.int .u64 a.sum]
abbrev rowSB (l:List (Int×Int)):SB:=⟨2,l.length,fun j=>pairC (l.getD j (0,0))⟩
def famA (xs:List Atl):Nat→Nat→SB:=fun k o=>match o with
 | 2=>rowSB (xs.getD k aZ).routes
 | _=>emptySB
abbrev atlEl (xs:List Atl) (cps:List Nat):Nat→List Value:=fun k=>atlC (xs.getD k aZ) (cps.getD k 0)
abbrev deepA (t:TypeId) (cap:Nat) (xs:List Atl) (cps:List Nat) (u:Nat):ABlk:=.ext (.deep t 5 xs.length cap (atlEl xs cps) u)
abbrev famB (t:TypeId) (xs:List Atl):ABlk:=.ext (.fam t (famA xs))
theorem famA_out {xs:List Atl} {k:Nat} (h:xs.length≤k) (o:Nat):(famA xs k o).n=0:=by
 unfold famA
 rw[show xs.getD k aZ=aZ by rw[List.getD_eq_getElem?_getD,List.getElem?_eq_none h];rfl]
 split<;>rfl
abbrev rtS (u k:Nat) (a:Atl) (cp:Nat):Value:=.slice (some ⟨u,2,some k⟩) a.routes.length cp
theorem SrcR.fam {mem:AM} {u k cp:Nat} {t:TypeId} {xs:List Atl} (h:lk mem u=some (famB t xs)):SrcR mem 2 pairC (0,0) (xs.getD k aZ).routes (rtS u k (xs.getD k aZ) cp):=
 .inr (.inr ⟨u,2,k,cp,rfl,t,famA xs,h,rfl,Nat.le_refl _,fun _ _=>rfl⟩)
theorem famA_list (l:List (Int×Int)) (o:Nat) {a:Atl} (h:a.routes=l):(match o with | 2=>rowSB a.routes | _=>emptySB)=[emptySB,emptySB,rowSB l,emptySB,emptySB].getD o emptySB:=by
 subst h
 match o with
 | 0=>rfl
 | 1=>rfl
 | 2=>rfl
 | 3=>rfl
 | 4=>rfl
 | n+5=>rfl
/-! Configurations in slices of whatever kind. -/
def CfgSrc (mem:AM) (cv:Value) (c:Cfg):Prop:=∃ vz vc vt vv vr vo,cv=.agg #[.int .i64 c.regions,vz,vc,vt,vv,vr,vo,.int .i64 c.blast,.int .i64 c.lease,.int .i64 c.bake]∧
 (SrcR mem 1 intC 0 c.zones vz∧SrcR mem 2 pairC (0,0) c.cells vc∧SrcR mem 7 tenC default c.tenants vt)∧SrcR mem 2 pairC (0,0) c.versions vv∧SrcR mem 1 intC 0 c.replicas vr∧SrcR mem 1 intC 0 c.observers vo
theorem CfgSrc.has {mem:AM} {N:CN} {x:CfgK} {c:Cfg} (h:HasCfg mem N c):CfgSrc mem (cfgV N x c) c:=⟨_,_,_,_,_,_,rfl,⟨.row h.rz,.row h.rc,.row h.rt⟩,.row h.rv,.row h.rr,.row h.ro⟩
theorem Sat.srcD {C:Ctx} {ρ:Nat→Pl} {fr:AF} {mem:AM} {nx:Nat} {a:Act} {w:World} (hs:Sat C ρ fr mem nx a w) {α:Type} {enc:α→List Value} {sz:Nat} (hsz:∀ x,(enc x).length=sz) (hpos:0<sz) {d:α} {l:List α} {v:Value} (h:SrcR mem sz enc d l v):∃ A cap,den1 ρ v=.slice A l.length cap∧Rd w (·<w.heap.size) A (flat enc l):=by
 obtain⟨A,cap,e,hr⟩:=hs.srcR hsz hpos h
 obtain⟨A',c',rfl⟩:=h.slice
 exact⟨A,cap,e,hr⟩
theorem Sat.cfgSrc {C:Ctx} {ρ:Nat→Pl} {fr:AF} {mem:AM} {nx:Nat} {a:Act} {w:World} (hs:Sat C ρ fr mem nx a w) {cv:Value} {c:Cfg} (h:CfgSrc mem cv c):∃ x:CfgA,den ρ cv=.agg (cfgC x c)∧CfgOk w (·<w.heap.size) x c:=by
 obtain⟨vz,vc,vt,vv,vr,vo,rfl,⟨h1,h2,h3⟩,h4,h5,h6⟩:=h
 obtain⟨A1,c1,e1,r1⟩:=hs.srcD (enc:=intC) (sz:=1) (fun _=>rfl) (by omega) h1
 obtain⟨A2,c2,e2,r2⟩:=hs.srcD (enc:=pairC) (sz:=2) (fun _=>rfl) (by omega) h2
 obtain⟨A3,c3,e3,r3⟩:=hs.srcD (enc:=tenC) (sz:=7) (fun _=>rfl) (by omega) h3
 obtain⟨A4,c4,e4,r4⟩:=hs.srcD (enc:=pairC) (sz:=2) (fun _=>rfl) (by omega) h4
 obtain⟨A5,c5,e5,r5⟩:=hs.srcD (enc:=intC) (sz:=1) (fun _=>rfl) (by omega) h5
 obtain⟨A6,c6,e6,r6⟩:=hs.srcD (enc:=intC) (sz:=1) (fun _=>rfl) (by omega) h6
 have dI:∀ k n,den1 ρ (.int k n)=.int k n:=fun _ _=>rfl
 exact⟨⟨A1,c1,A2,c2,A3,c3,A4,c4,A5,c5,A6,c6⟩,by simp only[den,den2];simp[dI,e1,e2,e3,e4,e5,e6,cfgC],r1,r2,r3,r4,r5,r6⟩
def ctValidGP:CT:=fun vs mem nx K=>∃ cv c a v key,vs=[cv,atlV a v,.int .i64 key]∧(CfgSrc mem cv c∧SrcR mem 2 pairC (0,0) a.routes v)∧Lens c∧∀ b,(b=true↔ValidA c a key)→K (.bool b) mem nx
theorem validGPOk:CSound Tryz.prog 85 ctValidGP:=⟨by kernel_rfl,fun {C ρ fr mem nx q w vs K} hc hs hv=>by
 obtain⟨cv,c,a,v,key,rfl,⟨hk,hsrc⟩,hL,hK⟩:=hc
 obtain⟨A,cap,e0,hr⟩:=hs.srcR (enc:=pairC) (sz:=2) (fun _=>rfl) (by omega) hsrc
 obtain⟨x,ex,hx⟩:=hs.cfgSrc hk
 have e1:([cv,atlV a v,.int .i64 key].map (den ρ)).toArray=#[.agg (cfgC x c),.agg #[.int .i64 a.number,.int .i64 a.tick,.slice A a.routes.length cap,.int .u64 a.parent,.int .u64 a.sum],.int .i64 key]:=by
  rw[List.map_cons,ex]
  obtain⟨A',cp,rfl⟩:=hsrc.slice
  have dI:∀ k n,den1 ρ (.int k n)=.int k n:=fun _ _=>rfl
  simp only[List.map_cons,List.map_nil,atlV,den,den2]
  simp[dI,den1_slice e0]
 rw[e1]
 refine (validP_calls x c A cap a key w hL hr hx).mono ?_
 rintro e w' ⟨b,hb2,rfl,hb⟩
 exact⟨_,mem,nx,ρ,rfl,hK b hb2,hs.later hb,trivial,ExtS.refl _ _⟩⟩
def ctTenG:CT:=fun vs mem nx K=>∃ cv c,vs=[cv]∧CfgSrc mem cv c∧Lens c∧K (.int .i64 (cfgErr c)) mem nx
theorem tenGOk:CSound Tryz.prog 42 ctTenG:=⟨by kernel_rfl,fun {C ρ fr mem nx q w vs K} hc hs hv=>by
 obtain⟨cv,c,rfl,hk,hL,hK⟩:=hc
 obtain⟨x,ex,hx⟩:=hs.cfgSrc hk
 have e1:([cv].map (den ρ)).toArray=#[.agg (cfgC x c)]:=by rw[List.map_cons,ex];rfl
 rw[e1]
 refine (tenV_calls x c w hL hx).mono ?_
 rintro e w' ⟨rfl,hb⟩
 exact⟨_,mem,nx,ρ,rfl,hK,hs.later hb,trivial,ExtS.refl _ _⟩⟩
/-! The router: types,and its functions by inlining. -/
def ttR:TT:=[(114,tiRec [zi,zs0,zs0,zs0,zs0,zs0,zs0,zi,zi,zi,zi,zb,zi,zi,zs0,.int .u64 0,.int .u64 0,.map none] [0,10,11,12,17] [10,1,1,5,1] [2,1,1,2,1]),(33,{ size:=1,agg:=false,zero:=[.pointer none],isP:=true }),(108,{ size:=1,agg:=false,zero:=[.map none],mpk:=some .i64,mpe:=92 })]++ttL
theorem ttRok:TTok Tryz.prog ttR:=by
 refine tt_mem _ _ ?_
 unfold ttR ttL ttA tt
 repeat (refine tt_cons ⟨by kernel_rfl,by kernel_rfl,plains (by rfl),by kernel_rfl,by kernel_rfl,by kernel_rfl⟩ ?_)
 exact tt_nil
abbrev rnF:FT:=[(42,ctTenG),(43,ctCkZone),(44,ctCkCell),(45,ctCkTen),(46,ctCkVer),(47,ctCkInt)]
theorem rnFok:FTokI Tryz.prog rnF []:=fti_cons (tenGOk.i _) (fti_cons (ckZoneOk.i _) (fti_cons (ckCellOk.i _) (fti_cons (ckTenOk.i _) (fti_cons (ckVerOk.i _) (fti_cons (ckIntOk.i _) fti_nil)))))
abbrev ctRN:CT:=ctInl ttR rnF [] Tryz.f11 (bodyOf Tryz.f11)
theorem rnOk {I:List Nat} (hI:I.contains 11=true):CSoundI Tryz.prog I 11 ctRN:=inl_ok ttRok rnFok mixed (by kernel_rfl) Tryz.func11 rfl (by kernel_rfl) hI
abbrev ctRt:CT:=ctInl ttR [] [] Tryz.f34 (bodyOf Tryz.f34)
theorem rtOk {I:List Nat} (hI:I.contains 34=true):CSoundI Tryz.prog I 34 ctRt:=inl_ok ttRok (fti_nil) mixed (by kernel_rfl) Tryz.func34 rfl (by kernel_rfl) hI
abbrev ctNb:CT:=ctInl ttR [] [] Tryz.f36 (bodyOf Tryz.f36)
theorem nbOk {I:List Nat} (hI:I.contains 36=true):CSoundI Tryz.prog I 36 ctNb:=inl_ok ttRok (fti_nil) mixed (by kernel_rfl) Tryz.func36 rfl (by kernel_rfl) hI
abbrev ctTc:CT:=ctInl ttR [] [] Tryz.f53 (bodyOf Tryz.f53)
theorem tcOk {I:List Nat} (hI:I.contains 53=true):CSoundI Tryz.prog I 53 ctTc:=inl_ok ttRok (fti_nil) mixed (by kernel_rfl) Tryz.func53 rfl (by kernel_rfl) hI
abbrev ctKn:CT:=ctInl ttR [] [] Tryz.f79 (bodyOf Tryz.f79)
theorem knOk {I:List Nat} (hI:I.contains 79=true):CSoundI Tryz.prog I 79 ctKn:=inl_ok ttRok (fti_nil) mixed (by kernel_rfl) Tryz.func79 rfl (by kernel_rfl) hI
abbrev lnF:FT:=[(79,ctKn)]
abbrev ctLn:CT:=ctInl ttR lnF [(9000000,{ k:=0,L:=[79] })] Tryz.f35 (bodyOf Tryz.f35)
theorem lnOk {I:List Nat} (hI:I.contains 35=true):CSoundI Tryz.prog I 35 ctLn:=inl_ok ttRok (fti_cons (knOk (by decide)) fti_nil) mixed (by kernel_rfl) Tryz.func35 rfl (by kernel_rfl) hI
/-! law16.awake -/
abbrev wC16:Cfg:=⟨1,[0],[(0,5),(0,5),(0,5)],[⟨1,0,0,0,1,0,false⟩],[(0,0)],[0],[0],1,5,0⟩
theorem lens16:Lens wC16:=by
 unfold Lens maxLen
 decide
def aw6F:FT:=[(11,ctRN),(34,ctRt),(35,ctLn),(36,ctNb)]
def aw6D:List (Nat×DQ):=[(9000000,{ k:=0,L:=[11,34,35,36] })]
theorem aw6Fok:FTokI Tryz.prog aw6F (inlOf aw6D):=fti_cons (rnOk (by decide)) (fti_cons (rtOk (by decide)) (fti_cons (lnOk (by decide)) (fti_cons (nbOk (by decide)) fti_nil)))
set_option maxRecDepth 100000 in
set_option maxHeartbeats 4000000 in
theorem awake16_sx:sx ttR aw6F aw6D (bodyOf Tryz.f9) (argF 0 []) (uniM {}) 13 (endx ttR Tryz.f9.results.toList fun v _ _=>v=.bool true):=by
 refine⟨_,wC16,rfl,⟨_,_,_,_,_,_,rfl,⟨.inr (.inl ⟨13,_,rfl,⟨_,_,_,rfl,Nat.le_refl _,fun k hk=>by match k,hk with | 0,_=>rfl⟩⟩),.inr (.inl ⟨14,_,rfl,⟨_,_,_,rfl,Nat.le_refl _,fun k hk=>by match k,hk with | 0,_=>rfl | 1,_=>rfl | 2,_=>rfl⟩⟩),.inr (.inl ⟨18,_,rfl,⟨_,_,_,rfl,Nat.le_refl _,fun k hk=>by match k,hk with | 0,_=>rfl⟩⟩)⟩,.inr (.inl ⟨15,_,rfl,⟨_,_,_,rfl,Nat.le_refl _,fun k hk=>by match k,hk with | 0,_=>rfl⟩⟩),.inr (.inl ⟨16,_,rfl,⟨_,_,_,rfl,Nat.le_refl _,fun k hk=>by match k,hk with | 0,_=>rfl⟩⟩),.inr (.inl ⟨17,_,rfl,⟨_,_,_,rfl,Nat.le_refl _,fun k hk=>by match k,hk with | 0,_=>rfl⟩⟩)⟩,lens16,?_⟩
 refine⟨fun q=>absurd q (by decide),fun _=>?_⟩
 refine⟨_,wC16.zones,rfl,.inr (.inl ⟨13,_,rfl,⟨_,_,_,rfl,Nat.le_refl _,fun k hk=>by match k,hk with | 0,_=>rfl⟩⟩),by decide,fun k_zones=>?_⟩
 refine⟨_,wC16.cells,rfl,.inr (.inl ⟨14,_,rfl,⟨_,_,_,rfl,Nat.le_refl _,fun k hk=>by match k,hk with | 0,_=>rfl | 1,_=>rfl | 2,_=>rfl⟩⟩),by decide,fun k_cells=>?_⟩
 refine⟨_,wC16.tenants,rfl,.inr (.inl ⟨18,_,rfl,⟨_,_,_,rfl,Nat.le_refl _,fun k hk=>by match k,hk with | 0,_=>rfl⟩⟩),by decide,fun k_tenants=>?_⟩
 refine⟨_,wC16.versions,rfl,.inr (.inl ⟨15,_,rfl,⟨_,_,_,rfl,Nat.le_refl _,fun k hk=>by match k,hk with | 0,_=>rfl⟩⟩),by decide,fun k_versions=>?_⟩
 refine⟨_,wC16.replicas,rfl,.inr (.inl ⟨16,_,rfl,⟨_,_,_,rfl,Nat.le_refl _,fun k hk=>by match k,hk with | 0,_=>rfl⟩⟩),by decide,fun k_replicas=>?_⟩
 refine⟨_,wC16.observers,rfl,.inr (.inl ⟨17,_,rfl,⟨_,_,_,rfl,Nat.le_refl _,fun k hk=>by match k,hk with | 0,_=>rfl⟩⟩),by decide,fun k_observers=>?_⟩
 repeat (first | refine⟨fun _=>?_,fun h=>Bool.noConfusion h⟩ | refine⟨fun h=>Bool.noConfusion h,fun _=>?_⟩ | fail)
 refine⟨(fun l h=>nomatch h),fun _=>?_⟩
 repeat (first | refine⟨fun _=>?_,fun h=>Bool.noConfusion h⟩ | refine⟨fun h=>Bool.noConfusion h,fun _=>?_⟩ | fail)
 refine⟨(fun l h=>nomatch h),fun _=>?_⟩
 repeat (first | refine⟨fun _=>?_,fun h=>Bool.noConfusion h⟩ | refine⟨fun h=>Bool.noConfusion h,fun _=>?_⟩ | fail)
 refine⟨fun y=>if y=0 then some [.int .i64 1,.int .i64 1] else none,fun y=>rfl,?_⟩
 repeat (first | refine⟨fun _=>?_,fun h=>Bool.noConfusion h⟩ | refine⟨fun h=>Bool.noConfusion h,fun _=>?_⟩ | fail)
 refine⟨fun l h=>?_,fun h=>absurd h (by simp)⟩
 obtain rfl:l=[.int .i64 1,.int .i64 1]:=(by simpa using h.symm)
 repeat (first | refine⟨fun _=>?_,fun h=>Bool.noConfusion h⟩ | refine⟨fun h=>Bool.noConfusion h,fun _=>?_⟩ | fail)
 refine⟨fun l h=>?_,fun h=>absurd h (by simp)⟩
 obtain rfl:l=[.int .i64 1,.int .i64 1]:=(by simpa using h.symm)
 repeat (first | refine⟨fun _=>?_,fun h=>Bool.noConfusion h⟩ | refine⟨fun h=>Bool.noConfusion h,fun _=>?_⟩ | fail)
 rfl
theorem awake16_any (w:World):Calls Tryz.prog 9 #[] w fun e w'=>e=.returned (.bool true)∧Below w.heap.size w w':=by
 have:=uni_calls ttRok aw6Fok Tryz.func9 rfl (D:=aw6D) (by kernel_rfl) (vs:=[]) rfl {} {} w {} (fun v hv=>absurd hv (List.not_mem_nil)) awake16_sx
 refine this.mono ?_
 rintro e w' ⟨v,mem',nx',ρ',rfl,rfl,hv,hm',hb⟩
 exact⟨rfl,hb⟩
def ctAwake16:CT:=fun vs mem nx K=>vs=[]∧K (.bool true) mem nx
theorem awake16Ok:CSound Tryz.prog 9 ctAwake16:=CSound.pure (by kernel_rfl) (by
 rintro vs mem nx K ⟨rfl,hK⟩
 exact⟨_,hK,fun ρ n=>⟨rfl,trivial⟩,fun ρ w=>awake16_any w⟩)
theorem BlkOk.fresh {C:Ctx} {ρ:Nat→Pl} {nx i:Nat} {w:World} {t:TypeId} {sz n:Nat} {el:Nat→List Value} {α:Type} {enc:α→List Value} {l:List α} (d:α) (h:BlkOk C ρ nx i w (.row t sz n el)) (ho:frT t=true) (hl:l.length=n) (he:∀ k,k<n→el k=enc (l.getD k d)) (hs:∀ x,(enc x).length=sz) (hpos:0<sz) (hbor:C.bor=[]:=by exact rfl) :
  Rd w (fun b=>C.w0.heap.size≤b∧b<w.heap.size) (ρ i).A (flat enc l):=by
 subst hl
 obtain⟨h1,h2,h3⟩:=h
 have hb:BlkOk C ρ nx i w (.row t sz l.length (fun k=>enc (l.getD k d))):=by
  refine⟨h1,fun k hk=>by have:=h2 k hk;rw[he k hk] at this;exact this,h3.imp id ?_⟩
  rintro⟨b,off,hA,hat,hc⟩
  exact⟨b,off,hA,hat,fun k hk j v hv=>hc k hk j v (by rw[he k hk];exact hv)⟩
 refine rd_of_row hs hpos hb fun hne b off hA hlt=>?_
 rcases h3 with h0 | ⟨b2,off2,hA2,hat,-⟩
 ·exact absurd h0 hne
 ·rw[hA] at hA2
  cases hA2
  exact⟨Ctx.ok_nil hbor (hat.new ho),hlt⟩
def cpl (x:CfgA) (c:Cfg):Nat→Pl:=fun j=>match j with
 | 0=>⟨x.az,1,c.zones.length,false,noSub⟩
 | 1=>⟨x.ac,2,c.cells.length,false,noSub⟩
 | 2=>⟨x.at_,7,c.tenants.length,false,noSub⟩
 | 3=>⟨x.av,2,c.versions.length,false,noSub⟩
 | 4=>⟨x.ar,1,c.replicas.length,false,noSub⟩
 | _=>⟨x.ao,1,c.observers.length,false,noSub⟩
theorem getD_rep {α:Type} {n k:Nat} {a d:α} (h:k<n):(List.replicate n a).getD k d=a:=by
 rw[List.getD_eq_getElem?_getD,List.getElem?_replicate,if_pos h];rfl
def preNone (args:List Value) (k:Int):Prop:=args=[]
theorem preNone_plain (args:List Value) (k:Int) (h:preNone args k):∀ v ∈ args,plain1 v∧atom v=true:=by
 cases h;intro v hv;cases hv
def ctMore:CT:=ctTape (fun zs args k z k'=>∃ b,z=.bool b∧k'=k∧(b=true→k<zs.length)) preNone
def moreD:List (Nat×DQ):=[(1,{ k:=10,L:=[0],pre:=[(0,false),(1,false),(2,false),(3,false),(4,false),(5,false),(6,false),(7,false),(8,false),(9,false)] })]
theorem moreOk:CSound Tryz.prog 95 ctMore:=tapeOk (by kernel_rfl) preNone_plain (by
 rintro args g A cap zs k w hz hk0 hk1 hp ht
 cases hp
 refine tape_calls ft_nil Tryz.func95 rfl (D:=moreD) (by kernel_rfl) rfl (preNone_plain _ k rfl) g A cap zs k w ht (R:=fun z k'=>∃ b,z=.bool b∧k'=k∧(b=true→k<zs.length)) ?_
 exact⟨k,⟨_,rfl,rfl,fun h=>of_decide_eq_true h⟩,⟨trivial,rfl⟩,rfl⟩)
def tiUint:TI:={ size:=1,agg:=false,zero:=[.int .u64 0],ik:=some .u64 }
def ttU:TT:=(101,tiUint)::tt
theorem ttUok:TTok Tryz.prog ttU:=by
 refine tt_mem _ _ ?_
 unfold ttU tt
 repeat (refine tt_cons ⟨by kernel_rfl,by kernel_rfl,plains (by rfl),by kernel_rfl,by kernel_rfl,by kernel_rfl⟩ ?_)
 exact tt_nil
/-! The functions that are walked where they are called. -/
/-! make.Config -/
theorem shl1_bd (r:Int):2≤shl1 r∧shl1 r≤16:=by unfold shl1;repeat' split<;>omega
theorem versOk_snoc {l:List (Int×Int)} {lo hi:Int} (h:versOk l=true) (h1:1≤l.length) (a:0≤lo) (b:lo≤hi) (d:hi≤30):versOk (l++[(lo,hi)])=true:=by
 unfold versOk at *
 rw[List.all_eq_true] at *
 intro i hi'
 rw[List.mem_range,List.length_append] at hi'
 simp at hi'
 by_cases hlt:i<l.length
 ·have:=h i (List.mem_range.2 hlt)
  rw[List.getElem?_append_left hlt]
  exact this
 ·obtain rfl:i=l.length:=by omega
  have hne:l≠[]:=by rintro rfl;simp at h1
  simp[verOk,hne]
  omega
structure MadeCfg (c:Cfg):Prop where
 valid:cfgErr c=0
 regions:1≤c.regions∧c.regions≤3
 zones:1≤c.zones.length∧c.zones.length≤6
 cells:1≤c.cells.length∧c.cells.length≤7
 tenants:c.tenants.length≤5
 versions:1≤c.versions.length∧c.versions.length≤3
 replicas:c.replicas.length=1∨c.replicas.length=3
 observers:1≤c.observers.length∧c.observers.length≤4
 blast:1≤c.blast∧c.blast≤3
 lease:2≤c.lease∧c.lease≤12
 bake:0≤c.bake∧c.bake≤8
 caps:c.cells.all (fun y=>inR y.1 0 (c.zones.length-1)&&inR y.2 1 40)=true
theorem madeCfg_of (r bl le ba:Int) (zl:List Int) (cl:List (Int×Int)) (tl:List Ten) (vl:List (Int×Int)) (rl ol:List Int) (h1:1≤r∧r≤3) (h2:1≤zl.length∧zl.length≤6) (h3:1≤cl.length∧cl.length≤7)
  (h4:tl.length≤5) (h5:1≤vl.length∧vl.length≤3) (a1:zl.all (fun z=>inR z 0 (r-1))=true) (a2:cl.all (fun y=>inR y.1 0 (zl.length-1)&&inR y.2 1 40)=true) (a3:tl.all (tenOk r)=true) (a4:versOk vl=true)
  (a5:rl.all (fun z=>inR z 0 (zl.length-1))=true) (a6:ol.all (fun z=>inR z 0 (zl.length-1))=true) (h6:rl.length=1∨rl.length=3) (h7:1≤ol.length∧ol.length≤4) (h8:1≤bl∧bl≤3) (h9:2≤le∧le≤12) (h10:0≤ba∧ba≤8) :
  MadeCfg ⟨r,zl,cl,tl,vl,rl,ol,bl,le,ba⟩:=by
 refine⟨?_,h1,h2,h3,h4,h5,h6,h7,h8,h9,h10,a2⟩
 have b1:cl.all (fun y=>inR y.1 0 (zl.length-1))=true:=by
  rw[List.all_eq_true] at a2 ⊢
  exact fun y hy=>(Bool.and_eq_true _ _ ▸ a2 y hy).1
 have b2:cl.all (fun y=>inR y.2 1 4194304)=true:=by
  rw[List.all_eq_true] at a2 ⊢
  intro y hy
  have:=(Bool.and_eq_true _ _ ▸ a2 y hy).2
  simp[inR] at this ⊢
  omega
 have l1:limitsB ⟨r,zl,cl,tl,vl,rl,ol,bl,le,ba⟩=true:=by simp[limitsB,inR];omega
 have l2:placesB ⟨r,zl,cl,tl,vl,rl,ol,bl,le,ba⟩=true:=by unfold placesB;rw[a1,b1,a5,a6];rfl
 have l3:valuesB ⟨r,zl,cl,tl,vl,rl,ol,bl,le,ba⟩=true:=by
  unfold valuesB
  rw[b2,a4]
  simp[inR]
  omega
 have l4:¬ rl.length % 2=0:=by omega
 have l5:topoErr ⟨r,zl,cl,tl,vl,rl,ol,bl,le,ba⟩=0:=by simp[topoErr,l1,l2,l3,l4]
 simp only[cfgErr,l5,a3]
 rfl
def CfgPost (w:World) (e:Ending) (w':World):Prop:=
 ∃ (x:CfgA) (c:Cfg),e=.returned (.agg (cfgC x c))∧CfgOk w' (fun b=>w.heap.size≤b∧b<w'.heap.size) x c∧MadeCfg c∧Below w.heap.size w w'
theorem versOk_one {h:Int} (h0:0≤h) (h1:h≤30):versOk [(0,h)]=true:=by
 simp[versOk,verOk]
 omega
abbrev allowC (r:Int):Int:=IntKind.i64.wrap (IntKind.i64.wrap (1 * 2 ^ min (IntKind.u64.wrap r).toNat IntKind.i64.bits)-1)
theorem allowC_eq {r:Int} (h:1≤r∧r≤3):allowC r=shl1 r-1:=by
 rcases (show r=1∨r=2∨r=3 by omega) with rfl | rfl | rfl<;>decide
theorem ten_okC {r a b p g al gr:Int} {no:Bool} (h1:1≤r∧r≤3) (ha:1≤a∧a≤12) (hb:0≤b∧b<a+1) (hp:0≤p∧p<4) (hg:-1≤g∧g≤3) (hal:1≤al∧al≤shl1 r-1) (hgr:0≤gr∧gr<3):tenOk r ⟨a,b,p,g,al,gr,no⟩=true:=by
 unfold tenOk inR
 simp only[Bool.and_eq_true,decide_eq_true_eq]
 omega
def ctBetw:CT:=fun vs mem nx K=>∃ v lo hi,vs=[.int .i64 v,.int .i64 lo,.int .i64 hi]∧(lo≤hi∧-1000000≤lo∧hi≤1000000)∧∀ r:Int,lo≤r→r≤hi→K (.int .i64 r) mem nx
theorem betwOk:CSound Tryz.prog 38 ctBetw:=⟨by kernel_rfl,fun {C ρ fr mem nx a w vs K} hc hs hv=>by
 obtain⟨v,lo,hi,rfl,⟨h1,h2,h3⟩,hK⟩:=hc
 refine (mkBetween_any v lo hi w h1 h2 h3).mono ?_
 rintro e w' ⟨⟨r,hr1,hr2,-,rfl⟩,rfl⟩
 exact⟨.int .i64 r,mem,nx,ρ,rfl,hK r hr1 hr2,hs,trivial,ExtS.refl _ _⟩⟩
theorem snoc_el {α:Type} {enc:α→List Value} {d:α} {l:List α} {x:α} {el el2:Nat→List Value} (h0:∀ j,j<l.length→el j=enc (l.getD j d)) (h1:∀ j,j<l.length→el2 j=el j) (h2:el2 (l.length+0)=enc x):∀ j,j<(l++[x]).length→el2 j=enc ((l++[x]).getD j d):=by
 intro j hj
 by_cases hjn:j<l.length
 ·rw[h1 j hjn,h0 j hjn,List.getD_eq_getElem?_getD,List.getD_eq_getElem?_getD,List.getElem?_append_left hjn]
 ·obtain rfl:j=l.length:=by simp at hj;omega
  rw[Nat.add_zero] at h2
  rw[h2,List.getD_eq_getElem?_getD,List.getElem?_append_right (Nat.le_refl _),Nat.sub_self]
  rfl
theorem one_el {α:Type} {enc:α→List Value} {d x:α} {el2:Nat→List Value} (h2:el2 0=enc x):∀ j,j<[x].length→el2 j=enc ([x].getD j d):=by
 intro j hj
 obtain rfl:j=0:=by simpa using hj
 exact h2
theorem cwz {n rg:Int} (hn:0≤n) (hr:1≤rg):(true&&[Int.tmod n rg].all (fun z=>inR z 0 (rg-1)))=true:=by
 have t1:=Int.tmod_nonneg rg hn
 have t2:=Int.tmod_lt_of_pos n (show 0<rg by omega)
 simp[inR]
 omega
theorem cwc {n z r:Int} (hn:0≤n) (hz:1≤z) (hr:1≤r∧r≤4):(true&&[(Int.tmod n z,IntKind.i64.wrap (r * 10))].all (fun y=>inR y.1 0 (z-1)&&inR y.2 1 40))=true:=by
 have t1:=Int.tmod_nonneg z hn
 have t2:=Int.tmod_lt_of_pos n (show 0<z by omega)
 rw[wrapi (n:=r * 10) (by omega)]
 simp[inR]
 omega
theorem cwi {z r:Int} (hr:0≤r∧r<z):(true&&[r].all (fun y=>inR y 0 (z-1)))=true:=by
 simp[inR]
 omega
end Go.Proofs.YtchhdflealgkaaaGreat
