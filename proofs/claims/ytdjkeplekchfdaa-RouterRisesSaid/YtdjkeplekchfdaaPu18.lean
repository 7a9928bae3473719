import Derived.Test.YtdjkeplekchfdaaPu17
namespace Go.Proofs.Ytdjkeplekchfdaa
open Go.RowKit
set_option linter.unusedSimpArgs false
set_option linter.unusedVariables false
def rnD:List (Nat×DQ):=[
 (3000003,{ k:=10,L:=[0,1,2,3,4,5,6,7],sl:=[1,2,3] }),
 (3000007,{ k:=11,L:=[0,1,2,3,4,5,6,7,9],sl:=[1,2,3] })]
abbrev stB (T Cc:Value):List Value:=[zi,zi,T,Cc,.int .i64 1,zi,zi,zi]
set_option maxRecDepth 100000 in
set_option maxHeartbeats 4000000 in
theorem r12New_sx (x:CfgK) (c:Cfg) (hnt:c.tenants.length≤1000) (hnc:c.cells.length≤1000) (hc0:0<c.cells.length) :
  sx tt [] rnD (bodyOf Try.f77) (argF 0 [cfgV CN1 x c]) (cfgM CN1 c) 6
   (endx tt Try.f77.results.toList fun v mem' _=>∃ T Cc,v=.agg (stB T Cc).toArray∧SlR mem' 12 tsC default (stNew c).tenants T∧SlR mem' 4 csC default (stNew c).cells Cc):=by
 refine⟨Int×Nat×Option (Nat×(Nat→List Value)),fun q=>match q with | (i,n,o)=>[(4,.int .i64 i)],fun q=>match q with | (i,n,none)=>[(8,.box 51 (stB zs0 zs0))] | (i,n,some (cap,el))=>[(8,.box 51 (stB (slc 9 n cap) zs0)),(9,tsB cap el)],fun q=>match q with | (i,n,o)=>(i=(n:Int)∧n≤c.tenants.length)∧match o with | none=>n=0 | some (cap,el)=>n≤cap∧∀ k,k<n→el k=tsC tsNew,fun q=>match q with | (i,n,o)=>((c.tenants.length:Int)-i).toNat,⟨(0,0,none),[],⟨⟨rfl,by omega⟩,rfl⟩,⟨rfl,rfl⟩,kp_,kp_⟩,?_⟩
 rintro⟨i,n,(_ | ⟨cap,el⟩)⟩ ⟨⟨hi,hn⟩,ho⟩
 ·refine⟨⟨by decide,rfl,rfl⟩,?_⟩
  obtain rfl:n=0:=ho
  refine⟨fun hlt=>?_,fun hge=>?_⟩
  ·have hlt2:i<(c.tenants.length:Int):=of_decide_eq_true hlt
   refine⟨⟨Nat.le_refl _,fun k hk=>by match k,hk with | 0,_=>rfl⟩,?_⟩
   refine⟨fun h=>absurd h (by decide),fun _=>⟨by decide,fun cap2 el2 hc2 hel2=>?_⟩⟩
   refine⟨(_,_,some (cap2,el2)),[(9,11)],?_,⟨rfl,rfl⟩,kp_,kp_⟩
   dsimp only
   rw[wrapi (n:=i+1) (by omega)]
   refine⟨⟨⟨by omega,by omega⟩,by omega,fun k hk=>?_⟩,by omega⟩
   obtain rfl:k=0:=by omega
   exact hel2 0 (by omega)
  ·have hge2:¬ i<(c.tenants.length:Int):=of_decide_eq_false hge
   have hTz:(stNew c).tenants=[]:=by simp only[stNew];rw[show c.tenants.length=0 by omega];rfl
   clear hi hn
   refine⟨Int×Nat×Option (Nat×(Nat→List Value)),fun q=>match q with | (i,n,o)=>[(5,.int .i64 i)],fun q=>match q with | (i,n,none)=>[(8,.box 51 (stB zs0 zs0))] | (i,n,some (cap,el))=>[(8,.box 51 (stB zs0 (slc 10 n cap))),(10,csB cap el)],fun q=>match q with | (i,n,o)=>(i=(n:Int)∧n≤c.cells.length)∧match o with | none=>n=0 | some (cap,el)=>n≤cap∧∀ k,k<n→el k=csC csNew,fun q=>match q with | (i,n,o)=>((c.cells.length:Int)-i).toNat,⟨(0,0,none),[],⟨⟨rfl,by omega⟩,rfl⟩,⟨rfl,rfl⟩,kp_,kp_⟩,?_⟩
   rintro⟨i,n,(_ | ⟨cap,el⟩)⟩ ⟨⟨hi,hn⟩,ho⟩
   ·refine⟨⟨by decide,rfl,rfl⟩,?_⟩
    obtain rfl:n=0:=ho
    refine⟨fun hlt=>?_,fun hge=>?_⟩
    ·have hlt2:i<(c.cells.length:Int):=of_decide_eq_true hlt
     refine⟨⟨Nat.le_refl _,fun k hk=>by match k,hk with | 0,_=>rfl⟩,?_⟩
     refine⟨fun h=>absurd h (by decide),fun _=>⟨by decide,fun cap2 el2 hc2 hel2=>?_⟩⟩
     refine⟨(_,_,some (cap2,el2)),[(10,12)],?_,⟨rfl,rfl⟩,kp_,kp_⟩
     dsimp only
     rw[wrapi (n:=i+1) (by omega)]
     refine⟨⟨⟨by omega,by omega⟩,by omega,fun k hk=>?_⟩,by omega⟩
     obtain rfl:k=0:=by omega
     exact hel2 0 (by omega)
    ·have hge2:¬ i<(c.cells.length:Int):=of_decide_eq_false hge
     omega
   ·refine⟨⟨by decide,rfl,rfl⟩,?_⟩
    obtain⟨hcap,hel⟩:=ho
    refine⟨fun hlt=>?_,fun hge=>?_⟩
    ·have hlt2:i<(c.cells.length:Int):=of_decide_eq_true hlt
     refine⟨⟨Nat.le_refl _,fun k hk=>by match k,hk with | 0,_=>rfl⟩,?_⟩
     refine⟨⟨rfl,hcap⟩,fun hin el2 h1 h2=>?_,fun hgt=>⟨by show (n+1) * 32≤140737488355328;omega,fun cap2 el2 hc2 h1 h2=>?_⟩⟩
     ·refine⟨(_,_,some (cap,el2)),[],?_,⟨rfl,rfl⟩,kp_,kp_⟩
      dsimp only
      rw[wrapi (n:=i+1) (by omega)]
      refine⟨⟨⟨by omega,by omega⟩,by omega,fun k hk=>?_⟩,by omega⟩
      by_cases hkn:k<n
      ·exact (h1 k hkn).trans (hel k hkn)
      ·obtain rfl:k=n:=by omega
       exact h2 0 (by omega)
     ·refine⟨(_,_,some (cap2,el2)),[(10,12)],?_,⟨rfl,rfl⟩,kp_,kp_⟩
      dsimp only
      rw[wrapi (n:=i+1) (by omega)]
      refine⟨⟨⟨by omega,by omega⟩,by omega,fun k hk=>?_⟩,by omega⟩
      by_cases hkn:k<n
      ·exact (h1 k hkn).trans (hel k hkn)
      ·obtain rfl:k=n:=by omega
       exact h2 0 (by omega)
    ·have hge2:¬ i<(c.cells.length:Int):=of_decide_eq_false hge
     have hnn:n=c.cells.length:=by omega
     subst hnn
     have hlc:(stNew c).cells.length=c.cells.length:=by simp[stNew]
     have hlt:(stNew c).tenants.length=c.tenants.length:=by simp[stNew]
     exact⟨_,_,rfl,.inl ⟨rfl,hTz⟩,.inr ⟨10,cap,_,cap,el,by rw[hlc],rfl,rfl,by rw[hlc];exact hcap,fun k hk=>by rw[hlc] at hk;rw[hel k hk];simp only[stNew];rw[getD_rep hk]⟩⟩
 ·refine⟨⟨by decide,rfl,rfl⟩,?_⟩
  obtain⟨hcap,hel⟩:=ho
  refine⟨fun hlt=>?_,fun hge=>?_⟩
  ·have hlt2:i<(c.tenants.length:Int):=of_decide_eq_true hlt
   refine⟨⟨Nat.le_refl _,fun k hk=>by match k,hk with | 0,_=>rfl⟩,?_⟩
   refine⟨⟨rfl,hcap⟩,fun hin el2 h1 h2=>?_,fun hgt=>⟨by show (n+1) * 88≤140737488355328;omega,fun cap2 el2 hc2 h1 h2=>?_⟩⟩
   ·refine⟨(_,_,some (cap,el2)),[],?_,⟨rfl,rfl⟩,kp_,kp_⟩
    dsimp only
    rw[wrapi (n:=i+1) (by omega)]
    refine⟨⟨⟨by omega,by omega⟩,by omega,fun k hk=>?_⟩,by omega⟩
    by_cases hkn:k<n
    ·exact (h1 k hkn).trans (hel k hkn)
    ·obtain rfl:k=n:=by omega
     exact h2 0 (by omega)
   ·refine⟨(_,_,some (cap2,el2)),[(9,11)],?_,⟨rfl,rfl⟩,kp_,kp_⟩
    dsimp only
    rw[wrapi (n:=i+1) (by omega)]
    refine⟨⟨⟨by omega,by omega⟩,by omega,fun k hk=>?_⟩,by omega⟩
    by_cases hkn:k<n
    ·exact (h1 k hkn).trans (hel k hkn)
    ·obtain rfl:k=n:=by omega
     exact h2 0 (by omega)
  ·have hge2:¬ i<(c.tenants.length:Int):=of_decide_eq_false hge
   have hnn:n=c.tenants.length:=by omega
   subst hnn
   have hcapT:=hcap
   have helT:=hel
   clear hcap hel hi hn hge2 hge
   obtain⟨capT,hce⟩:∃ q,q=cap:=⟨_,rfl⟩
   obtain⟨elT,hee⟩:∃ q,q=el:=⟨_,rfl⟩
   subst hce hee
   refine⟨Int×Nat×Option (Nat×(Nat→List Value)),fun q=>match q with | (i,n,o)=>[(5,.int .i64 i)],fun q=>match q with | (i,n,none)=>[(8,.box 51 (stB (slc 9 c.tenants.length capT) zs0))] | (i,n,some (cap,el))=>[(8,.box 51 (stB (slc 9 c.tenants.length capT) (slc 10 n cap))),(10,csB cap el)],fun q=>match q with | (i,n,o)=>(i=(n:Int)∧n≤c.cells.length)∧match o with | none=>n=0 | some (cap,el)=>n≤cap∧∀ k,k<n→el k=csC csNew,fun q=>match q with | (i,n,o)=>((c.cells.length:Int)-i).toNat,⟨(0,0,none),[],⟨⟨rfl,by omega⟩,rfl⟩,⟨rfl,rfl⟩,kp_,kp_⟩,?_⟩
   rintro⟨i,n,(_ | ⟨cap,el⟩)⟩ ⟨⟨hi,hn⟩,ho⟩
   ·refine⟨⟨by decide,rfl,rfl⟩,?_⟩
    obtain rfl:n=0:=ho
    refine⟨fun hlt=>?_,fun hge=>?_⟩
    ·have hlt2:i<(c.cells.length:Int):=of_decide_eq_true hlt
     refine⟨⟨Nat.le_refl _,fun k hk=>by match k,hk with | 0,_=>rfl⟩,?_⟩
     refine⟨fun h=>absurd h (by decide),fun _=>⟨by decide,fun cap2 el2 hc2 hel2=>?_⟩⟩
     refine⟨(_,_,some (cap2,el2)),[(10,12)],?_,⟨rfl,rfl⟩,kp_,kp_⟩
     dsimp only
     rw[wrapi (n:=i+1) (by omega)]
     refine⟨⟨⟨by omega,by omega⟩,by omega,fun k hk=>?_⟩,by omega⟩
     obtain rfl:k=0:=by omega
     exact hel2 0 (by omega)
    ·have hge2:¬ i<(c.cells.length:Int):=of_decide_eq_false hge
     omega
   ·refine⟨⟨by decide,rfl,rfl⟩,?_⟩
    obtain⟨hcap,hel⟩:=ho
    refine⟨fun hlt=>?_,fun hge=>?_⟩
    ·have hlt2:i<(c.cells.length:Int):=of_decide_eq_true hlt
     refine⟨⟨Nat.le_refl _,fun k hk=>by match k,hk with | 0,_=>rfl⟩,?_⟩
     refine⟨⟨rfl,hcap⟩,fun hin el2 h1 h2=>?_,fun hgt=>⟨by show (n+1) * 32≤140737488355328;omega,fun cap2 el2 hc2 h1 h2=>?_⟩⟩
     ·refine⟨(_,_,some (cap,el2)),[],?_,⟨rfl,rfl⟩,kp_,kp_⟩
      dsimp only
      rw[wrapi (n:=i+1) (by omega)]
      refine⟨⟨⟨by omega,by omega⟩,by omega,fun k hk=>?_⟩,by omega⟩
      by_cases hkn:k<n
      ·exact (h1 k hkn).trans (hel k hkn)
      ·obtain rfl:k=n:=by omega
       exact h2 0 (by omega)
     ·refine⟨(_,_,some (cap2,el2)),[(10,12)],?_,⟨rfl,rfl⟩,kp_,kp_⟩
      dsimp only
      rw[wrapi (n:=i+1) (by omega)]
      refine⟨⟨⟨by omega,by omega⟩,by omega,fun k hk=>?_⟩,by omega⟩
      by_cases hkn:k<n
      ·exact (h1 k hkn).trans (hel k hkn)
      ·obtain rfl:k=n:=by omega
       exact h2 0 (by omega)
    ·have hge2:¬ i<(c.cells.length:Int):=of_decide_eq_false hge
     have hnn:n=c.cells.length:=by omega
     subst hnn
     have hlc:(stNew c).cells.length=c.cells.length:=by simp[stNew]
     have hlt:(stNew c).tenants.length=c.tenants.length:=by simp[stNew]
     exact⟨_,_,rfl,.inr ⟨9,capT,_,capT,elT,by rw[hlt],rfl,rfl,by rw[hlt];exact hcapT,fun k hk=>by rw[hlt] at hk;rw[helT k hk];simp only[stNew];rw[getD_rep hk]⟩,.inr ⟨10,cap,_,cap,el,by rw[hlc],rfl,rfl,by rw[hlc];exact hcap,fun k hk=>by rw[hlc] at hk;rw[hel k hk];simp only[stNew];rw[getD_rep hk]⟩⟩
theorem r12New_calls (x:CfgA) (c:Cfg) (w:World) (hc:CfgOk w (·<w.heap.size) x c) (hnt:c.tenants.length≤1000) (hnc:c.cells.length≤1000) (hc0:0<c.cells.length) :
  Calls Try.prog 77 #[.agg (cfgC x c)] w fun e w'=>∃ y,e=.returned (.agg (stC y (stNew c)))∧StOk w' (fun b=>w.heap.size≤b∧b<w'.heap.size) y (stNew c)∧Below w.heap.size w w':=by
 have hpc:CfgPl (cpl x c) CN1 x c:=⟨rfl,rfl,rfl,rfl,rfl,rfl⟩
 have hm:MemAt { w0:=w,bor:=[],n0:=6,ρ0:=cpl x c,nt:=(Try.f77).ntmps } (cpl x c) (cfgM CN1 c) 6 w:=MemAt.rows trivial (by
  have:=cfg_blks (C:={ w0:=w,bor:=[],n0:=6,ρ0:=cpl x c,nt:=(Try.f77).ntmps }) (nx:=6) (r:=[]) hpc hc (fun b hb=>hb) (by decide) trivial
  exact this)
 have hv0:#[Value.agg (cfgC x c)]=([cfgV CN1 ⟨x.cz,x.cc,x.ct,x.cv,x.cr,x.co⟩ c].map (den (cpl x c))).toArray:=by
  rw[List.map_cons,den_cfg]
  rfl
 rw[hv0]
 refine (calls_sx ttOk ft_nil mixed Try.func77 rfl (D:=rnD) (by kernel_rfl) (vs:=[cfgV CN1 ⟨x.cz,x.cc,x.ct,x.cv,x.cr,x.co⟩ c]) rfl ⟨rfl,rfl⟩ rfl hm (fun v hv=>?_) (r12New_sx _ c hnt hnc hc0)).mono ?_
 ·obtain rfl:v=_:=by simpa using hv
  intro u hu
  simp at hu
  rcases hu with rfl | rfl | rfl | rfl | rfl | rfl | rfl | rfl | rfl | rfl<;>first | trivial | exact⟨by decide,rfl⟩
 ·rintro e w' ⟨v,mem',nx',ρ',rfl,⟨T,Cc,rfl,hT,hC⟩,hv,hm'⟩
  obtain⟨a1,c1,e1,r1⟩:=hm'.slR (enc:=tsC) (sz:=12) (fun _=>rfl) (by omega) hT
  obtain⟨a2,c2,e2,r2⟩:=hm'.slR (enc:=csC) (sz:=4) (fun _=>rfl) (by omega) hC
  refine⟨⟨a1,c1,a2,c2⟩,?_,⟨r1,r2⟩,⟨hm'.rest.os,hm'.rest.tape,hm'.rest.output,hm'.rest.size,fun b hlt=>hm'.rest.block b hlt (by simp)⟩⟩
  have d:∀ v,den1 ρ' (.int .i64 v)=.int .i64 v:=fun _=>rfl
  simp[den,den2,stC,stNew,d] at e1 e2 ⊢
  exact⟨e1,e2⟩
def ctNewR:CT:=fun vs mem nx K=>∃ N x c,vs=[cfgV N x c]∧keeps mem (cfgM N c)∧(c.tenants.length≤1000∧c.cells.length≤1000∧0<c.cells.length)∧∀ y,K (stV ⟨nx+1,nx,500000⟩ y (stNew c)) (stM ⟨nx+1,nx,500000⟩ (stNew c)++mem) (nx+2)
theorem newROk:CSound Try.prog 77 ctNewR:=⟨by kernel_rfl,fun {C ρ fr mem nx a w vs K} hc hs hv=>by
 obtain⟨N,x,c,rfl,hk,⟨hnt,hnc,hc0⟩,hK⟩:=hc
 rw[List.map_cons,den_cfg]
 refine (r12New_calls (cfgX ρ N x) c w (hs.cfg hk (fun b h _=>h)) hnt hnc hc0).mono ?_
 rintro e w' ⟨y,rfl,hst,hb⟩
 obtain⟨q1,q2,q3,q4⟩:=hs.addSt hb hst
 exact⟨_,_,_,_,by rw[q2],hK ⟨y.ct,y.cc⟩,q1,q3,q4⟩⟩
/-! Logs that are accepted,and ref12.Fold. -/
inductive Run (c:Cfg):St→List Ent→St→Prop where
 | nil (s:St):Run c s [] s
 | cons {s x s':St} {e:Ent} {es:List Ent} (h:applyP c s e=(x,0)) (hr:Run c x es s'):Run c s (e::es) s'
structure RInv (c:Cfg) (s:St):Prop where
 inv:StInv c s
 cap:overB c s=false
theorem RInv.new {c:Cfg} (hV:CfgV c):RInv c (stNew c):=⟨stNew_inv hV,cap_new hV⟩
theorem RInv.step {c:Cfg} {s x:St} {e:Ent} (hV:CfgV c) (h:RInv c s) (he:applyP c s e=(x,0)):RInv c x:=by
 obtain⟨hr,hx,-⟩:=applyP_ok he
 exact⟨by rw[hx];exact h.inv.step hV hr,cap_step hV h.inv h.cap he⟩
theorem Run.rinv {c:Cfg} (hV:CfgV c) {s s':St} {es:List Ent} (h:Run c s es s') (hs:RInv c s):RInv c s':=by
 induction h with
 | nil s=>exact hs
 | cons he _ ih=>exact ih (hs.step hV he)
theorem Run.snoc {c:Cfg} {s s' x:St} {es:List Ent} {e:Ent} (h:Run c s es s') (he:applyP c s' e=(x,0)):Run c s (es++[e]) x:=by
 induction h with
 | nil s=>exact .cons he (.nil _)
 | cons h1 _ ih=>exact .cons h1 (ih he)
theorem Run.fold {c:Cfg} {s s':St} {es:List Ent} (h:Run c s es s'):∀ i:Int,foldGo c i s es=(s',i+es.length,0):=by
 induction h with
 | nil s=>intro i;simp[foldGo]
 | cons h1 _ ih=>
  intro i
  rw[foldGo,h1,if_neg (by simp),ih]
  simp
  omega
theorem Run.foldC {c:Cfg} {s':St} {es:List Ent} (h:Run c (stNew c) es s'):foldC c es=(s',(es.length:Int),0):=by
 unfold Go.Proofs.Ytdjkeplekchfdaa.foldC
 rw[h.fold 0,Int.zero_add]
theorem Run.count {c:Cfg} {s s':St} {es:List Ent} (h:Run c s es s'):s'.count=s.count+es.length:=by
 induction h with
 | nil s=>simp
 | cons h1 _ ih=>
  obtain⟨hr,hx,-⟩:=applyP_ok h1
  rw[ih,hx]
  have:∀ (s:St) (e:Ent),(effOf s e).count=s.count+1:=by
   intro s e
   unfold effOf stamped setTen setCel
   repeat (split<;>try rfl)
  rw[this]
  simp
  omega
theorem Run.split {c:Cfg} {s s':St} {l r:List Ent} (h:Run c s (l++r) s'):∃ m,Run c s l m∧Run c m r s':=by
 induction l generalizing s with
 | nil=>exact⟨s,.nil s,h⟩
 | cons e l ih=>
  cases h with
  | cons h1 hr=>
   obtain⟨m,q1,q2⟩:=ih hr
   exact⟨m,.cons h1 q1,q2⟩
def frF:FT:=[(77,ctNewR),(78,ctApplyR)]
theorem frFok:FTok Try.prog frF:=ft_cons newROk (ft_cons applyROk ft_nil)
def frD:List (Nat×DQ):=[(3000003,{ k:=20,L:=[0,1,2,3,4,5,6,7,8,9,10,11,12,13,14],sl:=[1,2,4,7] }),
 (5,{ k:=12,L:=[0,1,2,3,4,5,6,7,8,9,10,11,12,13,14,17,18,19],A:=[10],pre:=[(0,false),(1,false),(2,false),(3,false),(4,false),(5,false),(6,true),(7,false),(8,false),(9,false)],post:=[(11,true)] })]
set_option maxRecDepth 100000 in
set_option maxHeartbeats 4000000 in
theorem foldR_sx (d:UD) (x:CfgK) (cap:Nat) (hV:CfgV d.c) (hl:d.es.length≤1000000) :
  sx tt frF frD (bodyOf Try.f58) (argF 0 [cfgV CNu x d.c,slc 8 d.es.length cap]) (uniM d) 13 (endx tt Try.f58.results.toList fun v mem' _=>∃ y,v=.tuple #[stV ⟨18,19,500000⟩ y (foldC d.c d.es).1,.int .i64 (foldC d.c d.es).2.1,.int .i64 (foldC d.c d.es).2.2]∧keeps mem' (stM ⟨18,19,500000⟩ (foldC d.c d.es).1)):=by
 have hnt:=hV.nt
 have hnc:=hV.nc
 refine⟨CNu,x,d.c,rfl,kp_,⟨by omega,by omega,by omega⟩,?_⟩
 intro y0
 refine⟨St×StK×Int,fun q=>match q with | (s,y,i)=>[(8,.int .i64 i)],fun q=>match q with | (s,y,i)=>[(17,.box 51 [.int .i64 s.tick,.int .i64 s.count,slc 18 s.tenants.length y.ct,slc 19 s.cells.length y.cc,.int .i64 s.proven,.int .i64 s.evac,.int .i64 s.low,.int .i64 s.high]),(18,rowOfL 500000 12 tsC default s.tenants),(19,rowOfL 500000 4 csC default s.cells)],fun q=>match q with | (s,y,i)=>RInv d.c s∧(0≤i∧i≤d.es.length)∧foldGo d.c i s (d.es.drop i.toNat)=foldC d.c d.es,fun q=>match q with | (s,y,i)=>((d.es.length:Int)-i).toNat,⟨(stNew d.c,y0,0),[(18,16),(19,15)],⟨.new hV,by omega,rfl⟩,⟨rfl,rfl⟩,kp_,kp_⟩,?_⟩
 rintro⟨s,y,i⟩ ⟨hR,hi,hf⟩
 refine⟨⟨by decide,rfl,rfl⟩,?_⟩
 refine⟨fun hlt=>?_,fun hge=>?_⟩
 ·have hlt2:i<(d.es.length:Int):=of_decide_eq_true hlt
  have hd:d.es.drop i.toNat=(d.es.getD i.toNat default)::d.es.drop (i+1).toNat:=by
   rw[show (i+1).toNat=i.toNat+1 by omega,← List.getElem_cons_drop (show i.toNat<d.es.length by omega)]
   congr 1
   rw[List.getD_eq_getElem?_getD,List.getElem?_eq_getElem (show i.toNat<d.es.length by omega)]
   rfl
  rw[hd] at hf
  refine⟨⟨Nat.le_refl _,hi.1,hlt2⟩,?_⟩
  refine⟨CNu,x,d.c,⟨18,19,500000⟩,y,s,(d.es.getD i.toNat default),rfl,⟨kp_,.list rfl,.list rfl⟩,⟨hV,hR.inv⟩,?_⟩
  intro y2
  rw[applyRP hV hR.inv hR.cap]
  refine⟨kp_,?_⟩
  refine⟨kp_,?_⟩
  generalize (d.es.getD i.toNat default)=e at hf ⊢
  refine⟨fun he=>?_,fun he=>?_⟩
  ·have he2:(applyP d.c s e).2≠0:=by simpa using he
   rw[foldGo,if_pos he2] at hf
   rw[← hf]
   exact⟨y,rfl,kp_⟩
  ·have he2:(applyP d.c s e).2=0:=by simpa using he
   rw[foldGo,if_neg (fun h=>h he2)] at hf
   refine⟨((applyP d.c s e).1,y2,_),[(18,22),(19,21)],?_,⟨rfl,rfl⟩,kp_,kp_⟩
   dsimp only
   rw[wrapi (n:=i+1) (by omega)]
   exact⟨⟨hR.step hV (e:=e) (by rw[← he2]),by omega,hf⟩,by omega⟩
 ·have hge2:¬ i<(d.es.length:Int):=of_decide_eq_false hge
  obtain rfl:i=d.es.length:=by omega
  rw[Int.toNat_natCast,List.drop_length] at hf
  rw[foldGo] at hf
  rw[← hf]
  exact⟨y,rfl,kp_⟩
theorem r12Fold_calls (x:CfgA) (c:Cfg) (A:Option Addr) (cap:Nat) (es:List Ent) (w:World) (hV:CfgV c) (hl:es.length≤1000000) (hc:CfgOk w (·<w.heap.size) x c) (hr:Rd w (·<w.heap.size) A (flat entC es)) :
  Calls Try.prog 58 #[.agg (cfgC x c),.slice A es.length cap] w fun e w'=>∃ y,e=.returned (.tuple #[.agg (stC y (foldC c es).1),.int .i64 (foldC c es).2.1,.int .i64 (foldC c es).2.2])∧StOk w' (fun b=>w.heap.size≤b∧b<w'.heap.size) y (foldC c es).1∧Below w.heap.size w w':=by
 have:=uni_calls ttOk (frFok.i _) Try.func58 rfl (D:=frD) (by kernel_rfl) (vs:=[cfgV CNu (ck x) c,slc 8 es.length cap]) rfl { x:=x,ae:=A } { c:=c,es:=es } w { c:=hc,e:=hr } (fun v hv=>by
  simp only[List.mem_cons,List.not_mem_nil,or_false] at hv
  rcases hv with rfl | rfl
  ·exact upl_cfg_ok { x:=x,ae:=A } { c:=c,es:=es }
  ·exact⟨show (8:Nat)<13 by decide,rfl⟩) (foldR_sx { c:=c,es:=es } (ck x) cap hV hl)
 rw[List.map_cons] at this
 have e0:=upl_cfg { x:=x,ae:=A } { c:=c,es:=es }
 dsimp only at e0 this
 rw[e0] at this
 refine this.mono ?_
 rintro e w' ⟨v,mem',nx',ρ',rfl,⟨y,rfl,k1,k2,-⟩,hv,hm',hb⟩
 refine⟨⟨(ρ' 18).A,y.ct,(ρ' 19).A,y.cc⟩,?_,⟨?_,?_⟩,hb⟩
 ·simp[den,den2,den1,dA_whole,dS_whole,stC]
 ·exact (hm'.blk 18 _ k1).fresh (enc:=tsC) default rfl rfl (fun k hk=>rfl) (fun _=>rfl) (by omega)
 ·exact (hm'.blk 19 _ k2).fresh (enc:=csC) default rfl rfl (fun k hk=>rfl) (fun _=>rfl) (by omega)
def ctFoldR:CT:=fun vs mem nx K=>∃ N x c r cap es,vs=[cfgV N x c,slc r (es:List Ent).length cap]∧(keeps mem (cfgM N c)∧HasRow mem r 9 entC default es)∧(CfgV c∧es.length≤1000000)∧∀ y,K (.tuple #[stV ⟨nx+1,nx,500000⟩ y (foldC c es).1,.int .i64 (foldC c es).2.1,.int .i64 (foldC c es).2.2]) (stM ⟨nx+1,nx,500000⟩ (foldC c es).1++mem) (nx+2)
theorem foldROk:CSound Try.prog 58 ctFoldR:=⟨by kernel_rfl,fun {C ρ fr mem nx a w vs K} hc hs hv=>by
 obtain⟨N,x,c,r,cap,es,rfl,⟨hk,hr⟩,⟨hV,hl⟩,hK⟩:=hc
 have e0:([cfgV N x c,slc r es.length cap].map (den ρ)).toArray=#[.agg (cfgC (cfgX ρ N x) c),.slice (ρ r).A es.length cap]:=by
  rw[List.map_cons,den_cfg]
  rfl
 rw[e0]
 refine (r12Fold_calls (cfgX ρ N x) c (ρ r).A cap es w hV hl (hs.cfg hk (fun b h _=>h)) (hs.hasRd (enc:=entC) (sz:=9) (fun _=>rfl) (by omega) hr)).mono ?_
 rintro e w' ⟨y,rfl,hst,hb⟩
 obtain⟨q1,q2,q3,q4⟩:=hs.addSt hb hst
 refine⟨.tuple #[stV ⟨nx+1,nx,500000⟩ ⟨y.ct,y.cc⟩ (foldC c es).1,.int .i64 (foldC c es).2.1,.int .i64 (foldC c es).2.2],_,_,_,?_,hK ⟨y.ct,y.cc⟩,q1,?_,q4⟩
 ·rw[← q2]
  simp[den,den2,den1]
 ·intro u hu
  simp at hu
  rcases hu with rfl | rfl | rfl
  ·exact q3
  ·trivial
  ·trivial⟩
def gcutQ:DQ:={ k:=15,L:=[1,9,10,11,13,14],sl:=[0,5,6,7,8,9] }
def ggrD:List (Nat×DQ):=[
 (14,{ k:=5,L:=[12],pre:=[(0,false),(1,false),(2,false),(3,true),(4,false)] }),
 (15,{ k:=7,L:=[12,10],pre:=[(0,false),(1,false),(2,false),(3,false),(4,false),(5,true),(6,false)] }),
 (18,{ k:=10,g:=some (.fix 0 (.fix 3 (.fix 5 (.three
  1 (.fix 2 (.two 4 (.fix 8 (.act 6 (.fix 7 (.act 9 .fin)))) 6 (.act 4 (.fix 7 (.fix 8 (.act 9 .fin))))))
  4 (.two 1 (.fix 2 (.fix 8 (.act 6 (.fix 7 (.act 9 .fin))))) 6 (.fix 7 (.act 1 (.fix 2 (.fix 8 (.act 9 .fin))))))
  6 (.two 1 (.fix 2 (.act 4 (.fix 7 (.fix 8 (.act 9 .fin))))) 4 (.fix 7 (.act 1 (.fix 2 (.fix 8 (.act 9 .fin))))))))))}),
 (1000007,gcutQ),(1000010,gcutQ),(1000012,gcutQ),(1000015,gcutQ),(1000019,gcutQ),(1000020,gcutQ)]
def preGrant (c:Cfg) (s:St) (args:List Value) (k:Int):Prop:=(CfgV c∧StInv c s)∧∃ e,args=[entV' e]∧(0≤e.tenant∧e.tenant<s.tenants.length)∧(tsAt s e.tenant).placed=true
theorem ints_new {C:Ctx} {ρ:Nat→Pl} {fr:AF} {mem:AM} {nx:Nat} {a:Act} {w w':World} (hs:Sat C ρ fr mem nx a w) {l:List Int} {A:Option Addr} {cp:Nat} (ho:w'.ownsRow w.heap.size 3 1 (.slice A l.length cp) l.length (flat intC l)) (hb:Below w.heap.size w w') :
  Sat C (setPl ρ nx ⟨A,1,l.length,false,noSub⟩) fr ((nx,intRow l)::mem) (nx+1) a w'∧den (setPl ρ nx ⟨A,1,l.length,false,noSub⟩) (slc nx l.length cp)=.slice A l.length cp∧okV (setPl ρ nx ⟨A,1,l.length,false,noSub⟩) (nx+1) (slc nx l.length cp):=by
 have hrd:=Rd.of_own ho
 refine⟨hs.add hb (row_of_rd (enc:=intC) (sz:=1) (fun _=>rfl) (by omega) intC_plain 0 (setPl_same _ _ _) hrd (fun b hb=>hb.2)) ?_ rfl,by simp[den,den2,den1,dA_whole,dS_whole,setPl_same],⟨Nat.lt_succ_self nx,by rw[setPl_same]⟩⟩
 intro g hg
 cases A with
 | none=>simp at hg
 | some ad=>
  simp at hg
  subst hg
  exact (ho.lt _ rfl).1
/-! pick -/
def entryD:List (Nat×DQ):=[
 (1,{ k:=5,L:=[11],pre:=[(0,false),(1,false),(2,false),(3,true),(4,false)] }),
 (19,{ k:=5,L:=[13],pre:=[(0,false),(1,false),(2,false),(3,false),(4,true)] }),
 (23,{ k:=5,L:=[13],pre:=[(0,false),(1,false),(2,false),(3,false),(4,true)] }),
 (1000004,{ k:=13,L:=[1,2,3,4,5,6,7,8,9,10,11,12],sl:=[0,4,5,6] }),(1000032,{ k:=15,L:=[12],sl:=[6,11] })]
/-! make.Log: entries that are accepted one after the other. -/
def LenCap (n:Nat) (v:Value):Prop:=∃ A m cap,v=.slice A m cap∧n≤cap
/-! make.State: the state of a log. -/
/-! A callee hands back a row of the wider kind. -/
abbrev plF (ρ':Nat→Pl) (u:Nat):Pl:=⟨none,0,0,false,fun k o=>(ρ' u).sub k o⟩
abbrev plD (ρ':Nat→Pl) (r sz n:Nat):Pl:=⟨(ρ' r).A,sz,n,false,noSub⟩
theorem Sat.takeDeep {C C':Ctx} {ρ ρ':Nat→Pl} {fr:AF} {mem mem':AM} {nx nx':Nat} {a:Act} {w w':World} (hs:Sat C ρ fr mem nx a w) (hb:Below w.heap.size w w') (hm:MemAt C' ρ' mem' nx' w') (hw:C'.w0=w) {r u sz n cap:Nat} {t tf:TypeId} {el:Nat→List Value} {sb:Nat→Nat→SB}
  (h1:lk mem' r=some (.ext (.deep t sz n cap el u))) (ht:ownT t=true∨frT t=true) (h2:lk mem' u=some (.ext (.fam tf sb))) (htf:frT tf=true) :
  Sat C (setPl (setPl ρ nx (plF ρ' u)) (nx+1) (plD ρ' r sz n)) fr ((nx+1,.ext (.deep 500000 sz n 0 el nx))::(nx,.ext (.fam 500000 sb))::mem) (nx+1+1) a w':=by
 obtain⟨hfo,hfs⟩:=hm.blk u _ h2
 obtain⟨⟨hz,hn⟩,hu,hel,hd⟩:=hm.blk r _ h1
 have hbase:C.w0.heap.size≤w.heap.size:=hs.rest.size
 subst hw
 have q0:setPl ρ nx (plF ρ' u) nx=plF ρ' u:=setPl_same _ _ _
 have key:=(hs.later hb).addPlainX hs.frB (b:=.ext (.fam 500000 sb)) (p:=plF ρ' u) (fun g hg=>hg) rfl ⟨rfl,fun k o=>⟨(hfs k o).1,by
  rcases (hfs k o).2 with h0 | ⟨b,off,e1,e2,e3⟩
  ·exact .inl h0
  ·exact .inr ⟨b,off,by rw[q0];exact e1,⟨e2.lt,(fun q=>by cases q),fun _=>Nat.le_trans hbase (e2.new htf)⟩,e3⟩⟩⟩ (fun g hg=>by
  obtain⟨k,o,e1,e2⟩:=hg
  rw[q0] at e2
  rcases (hfs k o).2 with h0 | ⟨b,off,e3,e4,e5⟩
  ·exact absurd h0 e1
  ·rw[show (plF ρ' u).sub k o=(ρ' u).sub k o from rfl,e3] at e2
   obtain rfl:b=g:=by simpa using e2
   exact e4.new htf)
 obtain⟨s1,f1⟩:=key
 have q1:setPl (setPl ρ nx (plF ρ' u)) (nx+1) (plD ρ' r sz n) (nx+1)=plD ρ' r sz n:=setPl_same _ _ _
 have q2:setPl (setPl ρ nx (plF ρ' u)) (nx+1) (plD ρ' r sz n) nx=plF ρ' u:=by rw[setPl_lt _ _ (Nat.lt_succ_self _)];exact q0
 have hge:∀ {b off:Nat},RowA C'.w0.heap.size w' t b off→C'.w0.heap.size≤b:=fun {b off} e=>ht.elim (fun q=>(e.own q).2.1) e.new
 refine (s1.addPlainX f1 (b:=.ext (.deep 500000 sz n 0 el nx)) (p:=plD ρ' r sz n) (fun g hg=>by cases hg.1) rfl ⟨⟨by rw[q1],by rw[q1]⟩,⟨by omega,by rw[q2]⟩,hel,?_⟩ ?_).1
 ·rcases hd with h0 | ⟨h0,b,off,e1,e2,-,e3⟩
  ·exact .inl ⟨h0.1,fun q=>by cases q⟩
  ·refine .inr ⟨h0,b,off,by rw[q1];exact e1,⟨e2.lt,(fun q=>by cases q),fun _=>Nat.le_trans hbase (hge e2)⟩,(fun q=>by cases q),fun k hk j v hv=>?_⟩
   rw[e3 k hk j v hv,← dp_dp (ρ:=ρ') (u:=u) (k:=k) ((hel k hk).2 v (List.mem_of_getElem? hv)) (show (setPl (setPl ρ nx (plF ρ' u)) (nx+1) (plD ρ' r sz n) nx).sub k j=(ρ' u).sub k j by rw[q2])]
 ·intro g hg
  obtain⟨e0,e1⟩:=hg
  unfold bno at e1
  rw[q1] at e1
  rcases hd with h0 | ⟨h0,b,off,e2,e3,-⟩
  ·exact absurd h0.1 e0
  ·rw[show (plD ρ' r sz n).A=(ρ' r).A from rfl,e2] at e1
   obtain rfl:b=g:=by simpa using e1
   exact hge e3
/-! Make,by contract,with any parent;rows of atlases that grow. -/
def ctMakeGR:CT:=fun vs mem nx K=>∃ N x c M y s pn pt pv ps psum key,vs=[cfgV N x c,stV M y s,.agg #[.int .i64 pn,.int .i64 pt,pv,.int .u64 ps,.int .u64 psum],.int .i64 key]∧(HasCfg mem N c∧HasRow mem M.t 12 tsC default s.tenants∧HasRow mem M.c 4 csC default s.cells)∧(∃ A n cap,pv=.slice A n cap)∧AtlIn (atl0 s psum)∧∀ cp,K (atlV (makeA s psum key) (slc nx (routesOf s).length cp)) ((nx,rowOfL 500000 2 pairC (0,0) (routesOf s))::mem) (nx+1)
theorem makeGROk:CSound Try.prog 24 ctMakeGR:=⟨by kernel_rfl,fun {C ρ fr mem nx a w vs K} hc hs hv=>by
 obtain⟨N,x,c,M,y,s,pn,pt,pv,ps,psum,key,rfl,⟨hk,h1,h2⟩,hpv,hA,hK⟩:=hc
 have epv:∃ Ap pl pc,den1 ρ pv=.slice Ap pl pc:=by
  obtain⟨A,n,cap,rfl⟩:=hpv
  cases A with
  | none=>exact⟨_,_,_,rfl⟩
  | some ad=>exact⟨_,_,_,rfl⟩
 obtain⟨Ap,pl,pc,epv⟩:=epv
 have e0:([cfgV N x c,stV M y s,.agg #[.int .i64 pn,.int .i64 pt,pv,.int .u64 ps,.int .u64 psum],.int .i64 key].map (den ρ)).toArray=#[.agg (cfgC (cfgX ρ N x) c),.agg (stC (stX ρ M y) s),.agg #[.int .i64 pn,.int .i64 pt,.slice Ap pl pc,.int .u64 ps,.int .u64 psum],.int .i64 key]:=by
  have dI:∀ k n,den1 ρ (.int k n)=.int k n:=fun _ _=>rfl
  rw[List.map_cons,List.map_cons,den_cfg,den_st]
  simp[den,den2,epv,dI]
 rw[e0]
 refine (makeR_calls (cfgX ρ N x) c (stX ρ M y) s pn pt ps psum Ap pl pc key w hA (hs.cfgH (x:=x) hk) (hs.stRow (y:=y) h1 h2)).mono ?_
 rintro e w' ⟨A2,cp,rfl,hr2,hb⟩
 obtain⟨q1,-⟩:=(hs.later hb).addList hs.frB hs.rest.size (enc:=pairC) (sz:=2) (fun _=>rfl) (by omega) pairC_plain (0,0) (t:=500000) rfl hr2
 have q2:setPl ρ nx ⟨A2,2,(routesOf s).length,false,noSub⟩ nx=⟨A2,2,(routesOf s).length,false,noSub⟩:=setPl_same _ _ _
 refine⟨atlV (makeA s psum key) (slc nx (routesOf s).length cp),_,_,_,?_,hK cp,q1,?_,fun i hi=>setPl_lt _ _ hi,by omega⟩
 ·simp[den,den2,den1,dA_whole,dS_whole,q2]
 ·intro u hu
  simp at hu
  rcases hu with rfl | rfl | rfl | rfl | rfl<;>first | trivial | exact⟨Nat.lt_succ_self _,by rw[q2]⟩⟩
theorem getD_appA {α:Type} {l:List α} {x d:α} {k:Nat} (h:k<l.length):(l++[x]).getD k d=l.getD k d:=by rw[List.getD_eq_getElem?_getD,List.getD_eq_getElem?_getD,List.getElem?_append_left h]
theorem getD_endA {α:Type} {l:List α} {x d:α}:(l++[x]).getD l.length d=x:=by rw[List.getD_eq_getElem?_getD,List.getElem?_append_right (Nat.le_refl _)];simp
theorem atlEl_app {xs:List Atl} {cps:List Nat} {a:Atl} {cp k:Nat} (hc:cps.length=xs.length) (h:k<xs.length):atlEl (xs++[a]) (cps++[cp]) k=atlEl xs cps k:=by
 show atlC _ _=atlC _ _
 rw[getD_appA h,getD_appA (hc ▸ h)]
theorem atlEl_end {xs:List Atl} {cps:List Nat} {a:Atl} {cp:Nat} (hc:cps.length=xs.length):atlEl (xs++[a]) (cps++[cp]) (xs.length+0)=atlEl [a] [cp] 0:=by
 show atlC _ _=atlC _ _
 rw[Nat.add_zero,getD_endA,← hc,getD_endA]
 rfl
theorem famA_app {xs:List Atl} {a:Atl} {k:Nat} (h:k<xs.length):famA (xs++[a]) k=famA xs k:=by
 unfold famA
 rw[getD_appA h]
theorem famA_end {xs:List Atl} {a:Atl}:famA (xs++[a]) (xs.length+0)=famA [a] 0:=by
 unfold famA
 rw[Nat.add_zero,getD_endA]
 rfl
theorem app_at {xs:List Atl} {cps:List Nat} {a:Atl} {cp:Nat} (hc:cps.length=xs.length):((∀ k,k<xs.length→atlEl (xs++[a]) (cps++[cp]) k=atlEl xs cps k∧famA (xs++[a]) k=famA xs k)∧(∀ k,k<1→atlEl (xs++[a]) (cps++[cp]) (xs.length+k)=atlEl [a] [cp] k∧famA (xs++[a]) (xs.length+k)=famA [a] k)∧∀ k,xs.length+1≤k→∀ o,(famA (xs++[a]) k o).n=0):=
 ⟨fun k hk=>⟨atlEl_app hc hk,famA_app hk⟩,fun k hk=>(match k,hk with | 0,_=>⟨atlEl_end hc,famA_end⟩),fun k hk o=>famA_out (by simpa using hk) o⟩
/-! Plain facts on configurations and atlases. -/
theorem atlIn_st {c:Cfg} {s:St} (hV:CfgV c) (hI:StInv c s) (par:Int):AtlIn (atl0 s par):=by
 have h1:=hI.tick
 have h2:=hI.count
 have h3:=hI.lt
 have h4:=hV.nt
 have h5:=hV.nc
 refine⟨by unfold in64;show -9223372036854775808≤s.count∧s.count<_;omega,by unfold in64;show -9223372036854775808≤s.tick∧s.tick<_;omega,by show (routesOf s).length≤1000;rw[routes_len];omega,fun x hx=>?_⟩
 obtain⟨t,ht,rfl⟩:=List.mem_map.1 (show x ∈ s.tenants.map routeT from hx)
 have hT:=hI.ten t ht
 have h6:=hT.home
 have h7:=hT.epoch
 unfold routeT in64
 refine⟨?_,by dsimp only;omega⟩
 dsimp only
 split<;>omega
theorem make_valid {c:Cfg} {s:St} (hE:cfgErr c=0) (hV:CfgV c) (hI:StInv c s) (par key:Int):ValidA c (makeA s par key) key:=by
 have h1:=hI.tick
 have h2:=hI.count
 have h3:=hI.lt
 refine⟨hE,by show (routesOf s).length=_;rw[routes_len,h3],?_,?_,fun k hk=>?_,?_⟩
 ·show 0≤s.count∧s.count≤4096;omega
 ·show 0≤s.tick∧s.tick≤1073741824;omega
 ·have hk':k<s.tenants.length:=by rw[← routes_len];exact hk
  show RouteOk c ((routesOf s).getD k (0,0))
  rw[routes_get hk']
  have hT:=hI.ten (s.tenants.getD k default) (by rw[List.getD_eq_getElem?_getD,List.getElem?_eq_getElem hk'];exact List.getElem_mem _)
  have h6:=hT.home
  have h7:=hT.epoch
  unfold RouteOk routeT
  dsimp only
  split<;>omega
 ·show (makeA s par key).sum=_
  rw[sum_make,body_make,par_make]
theorem MadeCfg.lens {c:Cfg} (h:MadeCfg c):Lens c:=by
 have h1:=h.zones
 have h2:=h.cells
 have h3:=h.tenants
 have h4:=h.versions
 have h5:=h.replicas
 have h6:=h.observers
 unfold Lens maxLen
 omega
/-! law16.copies: the atlases of the states of a log. -/
structure CopyP (c:Cfg) (key:Int) (xs:List Atl):Prop where
 ne:1≤xs.length
 le:xs.length≤13
 made:∀ k,k<xs.length→∃ s par,RInv c s∧xs.getD k aZ=makeA s par key
 inc:∀ k,k+1<xs.length→(xs.getD k aZ).number<(xs.getD (k+1) aZ).number
 first:(xs.getD 0 aZ).number=0
theorem CopyP.one {c:Cfg} {key:Int} {s:St} (h:RInv c s) (h0:s.count=0) (par:Int):CopyP c key [makeA s par key]:=
 ⟨Nat.le_refl _,by simp,fun k hk=>(match k,hk with | 0,_=>⟨s,par,h,rfl⟩),fun k hk=>absurd hk (by simp),h0⟩
theorem CopyP.snoc {c:Cfg} {key:Int} {xs:List Atl} (hP:CopyP c key xs) (hl:xs.length≤12) {s:St} (h:RInv c s) (par:Int) (hn:(makeA s par key).number>(xs.getD (xs.length-1) aZ).number):CopyP c key (xs++[makeA s par key]):=by
 have h1:=hP.ne
 refine⟨by simp,by simpa using hl,fun k hk=>?_,fun k hk=>?_,by rw[getD_appA (by omega)];exact hP.first⟩
 ·by_cases q:k<xs.length
  ·rw[getD_appA q];exact hP.made k q
  ·obtain rfl:k=xs.length:=by simp at hk;omega
   rw[getD_endA];exact⟨s,par,h,rfl⟩
 ·simp at hk
  by_cases q:k+1<xs.length
  ·rw[getD_appA q,getD_appA (by omega)];exact hP.inc k q
  ·obtain rfl:k=xs.length-1:=by omega
   rw[show xs.length-1+1=xs.length by omega,getD_endA,getD_appA (by omega)]
   exact hn
/-! atlas.Follows,by contract. -/
structure FolA (a b:Atl):Prop where
 par:b.parent=a.sum
 num:a.number<b.number
 tick:a.tick≤b.tick
 len:a.routes.length=b.routes.length
 ep:∀ k,k<a.routes.length→(a.routes.getD k (0,0)).2≤(b.routes.getD k (0,0)).2
/-! The laws of one step: places,epochs,windows. -/
structure PlOk (c:Cfg) (i:Int) (t:TS):Prop where
 home:0≤t.home∧mayB c i t.home=true
 standby:0≤t.standby→mayB c i t.standby=true∧apartB c t.standby t.home=true∧(0≤t.target→apartB c t.standby t.target=true)
 next:0≤t.next→mayB c i t.next=true∧apartB c t.next t.home=true∧(0≤t.target→apartB c t.next t.target=true)
 target:0≤t.target→mayB c i t.target=true
 ne:t.target≠t.home
structure PlInv (c:Cfg) (i:Int) (t:TS):Prop where
 on:t.placed=true→PlOk c i t
 off:t.placed=false→t.standby=-1∧t.next=-1∧t.target=-1
theorem eff_ten {s:St} {e:Ent} (h8:e.kind≤8):(effOf s e).tenants=s.tenants.set e.tenant.toNat (tenEff (tsAt s e.tenant) e):=by
 unfold effOf
 simp only[h8,if_true]
 rfl
theorem eff_ten' {s:St} {e:Ent} (h8:¬ e.kind≤8):(effOf s e).tenants=s.tenants:=by
 unfold effOf
 simp only[h8,if_false]
 repeat' split
 all_goals rfl
theorem eff_tick {s:St} {e:Ent}:(effOf s e).tick=e.tick:=by
 unfold effOf
 simp only
 repeat' split
 all_goals rfl
theorem eff_count {s:St} {e:Ent}:(effOf s e).count=s.count+1:=by
 unfold effOf
 simp only
 repeat' split
 all_goals rfl
/-! Epochs. -/
structure EpOk (tick:Int) (a b:TS):Prop where
 up:a.epoch≤b.epoch∧b.epoch≤a.epoch+1
 home:a.placed=true→a.home≠b.home→b.epoch=a.epoch+1∧a.win.till≤tick
 placed:a.placed=true→b.placed=true
theorem ep_same (tick:Int) (a:TS):EpOk tick a a:=⟨⟨by omega,by omega⟩,fun _ h=>absurd rfl h,fun h=>h⟩
theorem ep_step {c:Cfg} {s x:St} {e:Ent} (hV:CfgV c) (hI:StInv c s) (h:applyP c s e=(x,0)):s.tick≤x.tick∧x.count=s.count+1∧x.tenants.length=s.tenants.length∧∀ (i:Nat) (a b:TS),s.tenants[i]?=some a→x.tenants[i]?=some b→EpOk x.tick a b:=by
 obtain⟨hr,hx,-⟩:=applyP_ok h
 have ha:=acc_of hr
 subst hx
 rw[eff_tick,eff_count]
 refine⟨ha.tick,rfl,?_,?_⟩
 ·by_cases h8:e.kind≤8
  ·rw[eff_ten h8];simp
  ·rw[eff_ten' h8]
 intro i a b h1 h2
 by_cases h8:e.kind≤8
 ·have hten:=ent_ten hI ha.ent h8
  rw[eff_ten h8,List.getElem?_set] at h2
  by_cases hi:e.tenant.toNat=i
  ·simp[hi,show i<s.tenants.length by omega] at h2
   have hta:=(tsAt_mem hten.1 hten.2).1
   rw[hi,h1] at hta
   injection hta with hta
   subst h2
   rw[← hta]
   have hkd:=ha.kind
   have hk:=ent_kind ha.ent
   clear ha h hr h1 hi hI
   obtain⟨kind,tick,tenant,cell,other,epoch,since,till,n⟩:=e
   simp only at *
   have hk':kind=1∨kind=2∨kind=3∨kind=4∨kind=5∨kind=6∨kind=7∨kind=8:=by omega
   rcases hk' with rfl | rfl | rfl | rfl | rfl | rfl | rfl | rfl
   ·have hpl:a.placed=false:=by
     simp only[kindE,placeE,← hta] at hkd
     simp at hkd
     cases h:a.placed with
     | false=>rfl
     | true=>simp[h] at hkd
    refine⟨⟨by simp[tenEff],by simp[tenEff];omega⟩,fun h=>(by rw[hpl] at h;cases h),fun h=>(by rw[hpl] at h;cases h)⟩
   ·simp only[kindE,grantE,← hta] at hkd
    simp at hkd
    by_cases q1:a.placed=false∨a.shed=true∧¬cell=a.standby
    ·rw[if_pos q1] at hkd;omega
    rw[if_neg q1] at hkd
    by_cases q2:¬cell=a.home∧¬cell=a.standby∧¬cell=a.target
    ·rw[if_pos q2] at hkd;omega
    rw[if_neg q2] at hkd
    by_cases q3:(csAt s cell).mode=3∨(csAt s cell).mode=2∧¬cell=a.home
    ·rw[if_pos q3] at hkd;omega
    rw[if_neg q3] at hkd
    by_cases q4:¬epoch=a.epoch+1∧(cell=a.home→¬epoch=a.epoch)
    ·rw[if_pos q4] at hkd;omega
    rw[if_neg q4] at hkd
    by_cases q5:¬n=(csAt s cell).running∨¬(csAt s cell).running=(csAt s cell).wanted
    ·rw[if_pos q5] at hkd;omega
    rw[if_neg q5] at hkd
    have q6:¬ (since<tick∨tick+c.lease<since∨till≤since∨c.lease<till-since∨since<a.win.till∨¬cell=a.home∧tick<a.win.till):=by simpa using hkd
    simp only[tenEff,grantT,show ¬ ((2:Int)=1) by omega,if_false,if_true]
    split
    ·rename_i hh
     refine⟨⟨?_,?_⟩,fun _ h=>absurd rfl h,fun h=>h⟩<;>simp only<;>omega
    ·have hep:epoch=a.epoch+1:=by omega
     split
     ·refine⟨⟨?_,?_⟩,fun _ h=>⟨hep,?_⟩,fun h=>h⟩<;>(try simp only)<;>omega
     ·refine⟨⟨?_,?_⟩,fun _ h=>⟨hep,?_⟩,fun h=>h⟩<;>(try simp only)<;>omega
   ·exact⟨⟨Int.le_refl _,by simp[tenEff];omega⟩,fun _ h=>absurd rfl h,fun h=>h⟩
   ·exact⟨⟨Int.le_refl _,by simp[tenEff];omega⟩,fun _ h=>absurd rfl h,fun h=>h⟩
   ·exact⟨⟨Int.le_refl _,by simp[tenEff];omega⟩,fun _ h=>absurd rfl h,fun h=>h⟩
   ·exact⟨⟨Int.le_refl _,by simp[tenEff];omega⟩,fun _ h=>absurd rfl h,fun h=>h⟩
   ·exact⟨⟨Int.le_refl _,by simp[tenEff];omega⟩,fun _ h=>absurd rfl h,fun h=>h⟩
   ·by_cases hn:n=1
    ·subst hn
     exact⟨⟨Int.le_refl _,by simp[tenEff];omega⟩,fun _ h=>absurd rfl h,fun h=>h⟩
    ·have:tenEff a ⟨8,tick,tenant,cell,other,epoch,since,till,n⟩={ a with shed:=false }:=by simp[tenEff,hn]
     rw[this]
     exact⟨⟨Int.le_refl _,by simp only;omega⟩,fun _ h=>absurd rfl h,fun h=>h⟩
  ·simp[hi] at h2
   rw[h1] at h2
   injection h2 with h2
   rw[← h2]
   exact ep_same _ _
 ·rw[eff_ten' h8,h1] at h2
  injection h2 with h2
  rw[← h2]
  exact ep_same _ _
/-! Windows. -/
/-! Atlases of states that follow one another. -/
theorem fol_step {c:Cfg} {s x:St} {e:Ent} (hV:CfgV c) (hI:StInv c s) (h:applyP c s e=(x,0)) (p key key2:Int):FolA (makeA s p key) (makeA x (makeA s p key).sum key2):=by
 obtain⟨h1,h2,h3,h4⟩:=ep_step hV hI h
 refine⟨rfl,?_,h1,?_,fun k hk=>?_⟩
 ·show s.count<x.count
  omega
 ·show (routesOf s).length=(routesOf x).length
  rw[routes_len,routes_len,h3]
 ·have hk1:k<s.tenants.length:=by rw[← routes_len];exact hk
  have hk2:k<x.tenants.length:=by omega
  show ((routesOf s).getD k (0,0)).2≤((routesOf x).getD k (0,0)).2
  rw[routes_get hk1,routes_get hk2]
  have:=(h4 k _ _ (List.getElem?_eq_getElem hk1) (List.getElem?_eq_getElem hk2)).up.1
  rw[List.getD_eq_getElem?_getD,List.getD_eq_getElem?_getD,List.getElem?_eq_getElem hk1,List.getElem?_eq_getElem hk2]
  exact this
structure LnP (c:Cfg) (key:Int) (xs:List Atl):Prop where
 val:∀ k,k<xs.length→ValidA c (xs.getD k aZ) key
 fol:∀ k,k+1<xs.length→FolA (xs.getD k aZ) (xs.getD (k+1) aZ)
theorem LnP.one {c:Cfg} {key:Int} {a:Atl} (h:ValidA c a key):LnP c key [a]:=⟨fun k hk=>(match k,hk with | 0,_=>h),fun k hk=>absurd hk (by simp)⟩
theorem LnP.snoc {c:Cfg} {key:Int} {xs:List Atl} {a b:Atl} (hP:LnP c key xs) (hne:1≤xs.length) (hl:xs.getD (xs.length-1) aZ=a) (h:ValidA c b key) (hf:FolA a b):LnP c key (xs++[b]):=by
 refine⟨fun k hk=>?_,fun k hk=>?_⟩
 ·by_cases q:k<xs.length
  ·rw[getD_appA q];exact hP.val k q
  ·obtain rfl:k=xs.length:=by simp at hk;omega
   rw[getD_endA];exact h
 ·simp at hk
  by_cases q:k+1<xs.length
  ·rw[getD_appA q,getD_appA (by omega)];exact hP.fol k q
  ·obtain rfl:k=xs.length-1:=by omega
   rw[show xs.length-1+1=xs.length by omega,getD_endA,getD_appA (by omega),hl]
   exact hf
structure UpS (s t:St):Prop where
 tick:s.tick≤t.tick
 count:s.count≤t.count
 len:s.tenants.length=t.tenants.length
 ep:∀ k,k<s.tenants.length→((routesOf s).getD k (0,0)).2≤((routesOf t).getD k (0,0)).2
theorem UpS.refl (s:St):UpS s s:=⟨Int.le_refl _,Int.le_refl _,rfl,fun _ _=>Int.le_refl _⟩
theorem UpS.trans {s t u:St} (h:UpS s t) (h2:UpS t u):UpS s u:=⟨Int.le_trans h.tick h2.tick,Int.le_trans h.count h2.count,h.len.trans h2.len,fun k hk=>Int.le_trans (h.ep k hk) (h2.ep k (by rw[← h.len];exact hk))⟩
theorem up_step {c:Cfg} {s x:St} {e:Ent} (hV:CfgV c) (hI:StInv c s) (h:applyP c s e=(x,0)):UpS s x:=by
 have hf:=fol_step hV hI h 0 0 0
 have h1:=hf.len
 rw[show (makeA s 0 0).routes=routesOf s from rfl,show (makeA x (makeA s 0 0).sum 0).routes=routesOf x from rfl,routes_len,routes_len] at h1
 exact⟨hf.tick,Int.le_of_lt hf.num,h1,fun k hk=>hf.ep k (by rw[show (makeA s 0 0).routes=routesOf s from rfl,routes_len];exact hk)⟩
theorem Run.up {c:Cfg} (hV:CfgV c) {s s':St} {es:List Ent} (h:Run c s es s') (hs:RInv c s):UpS s s':=by
 induction h with
 | nil s=>exact .refl s
 | cons he _ ih=>exact (up_step hV hs.inv he).trans (ih (hs.step hV he))
theorem UpS.fol {s t:St} (h:UpS s t) (hn:s.count<t.count) (p key key2:Int):FolA (makeA s p key) (makeA t (makeA s p key).sum key2):=
 ⟨rfl,hn,h.tick,by rw[show (makeA s p key).routes=routesOf s from rfl,show (makeA t (makeA s p key).sum key2).routes=routesOf t from rfl,routes_len,routes_len];exact h.len,fun k hk=>h.ep k (by rw[← routes_len];exact hk)⟩
/-! The tape,exactly: what is read is a function of the tape and its place. -/
def nxV (zs:List Int) (k n:Int):Int:=if zs.length=0 then 0 else IntKind.i64.wrap ((zs.getD (k.tmod zs.length).toNat 0) % 1073741824+IntKind.i64.wrap ((IntKind.i64.wrap (k.tdiv zs.length)) * 7)) % n
def advK (zs:List Int) (k:Int):Int:=if zs.length=0 then k else k+1
theorem advK_adv (zs:List Int) (k:Int):Adv zs k (advK zs k):=by
 unfold advK
 by_cases h:zs.length=0
 ·rw[if_pos h];exact⟨by omega,by omega,fun q=>absurd h q⟩
 ·rw[if_neg h];exact⟨by omega,by omega,fun _=>rfl⟩
theorem nxV_in (zs:List Int) (k:Int) {n:Int} (hn:1≤n):0≤nxV zs k n∧nxV zs k n<n:=by
 unfold nxV
 by_cases h:zs.length=0
 ·rw[if_pos h];omega
 ·rw[if_neg h];exact⟨Int.emod_nonneg _ (by omega),Int.emod_lt_of_pos _ (by omega)⟩
theorem nextX_sx (cap:Nat) (zs:List Int) (k n:Int) (hz:zs.length≤400) (hk:0≤k∧k≤1000000) (hn:1≤n∧n≤1000000) :
  sx tt nextF nextD (bodyOf Try.f48) (argF 0 [ptr 0,.int .i64 n]) [(0,tapeB 1 zs.length cap k),(1,intRow zs)] 2
   (endx tt [.tmp 4] fun v mem' _=>∃ k',(∃ n' r,[Value.int .i64 n]=[.int .i64 n']∧v=.int .i64 r∧(nxV zs k n'=r∧advK zs k=k')∧NextR zs n' k r k')∧(plain1 v∧atom v=true)∧lk mem' 0=some (tapeB 1 zs.length cap k')):=by
 refine⟨fun h0=>?_,fun h0=>?_⟩
 ·have hz0:zs.length=0:=by
   have:(zs.length:Int)=0:=by simpa using h0
   omega
  have e1:nxV zs k n=0:=by rw[nxV,if_pos hz0]
  have e2:advK zs k=k:=by rw[advK,if_pos hz0]
  exact⟨k,⟨n,0,rfl,rfl,⟨e1,e2⟩,e1 ▸ nxV_in zs k hn.1,by omega,by omega,by omega⟩,⟨trivial,rfl⟩,rfl⟩
 ·have hpos:(zs.length:Int)≠0:=by simpa using h0
  have hz0:zs.length≠0:=by omega
  refine⟨⟨rfl,hpos⟩,⟨rfl,rfl,trivial⟩,⟨Nat.le_refl _,?i1,?i2⟩,⟨rfl,rfl,trivial⟩,⟨rfl,hpos⟩,⟨rfl,rfl,trivial⟩,?rest⟩
  case i1=>exact Int.tmod_nonneg _ hk.1
  case i2=>exact Int.tmod_lt_of_pos _ (by omega)
  refine⟨_,_,rfl,by decide,?_⟩
  refine⟨_,_,rfl,by omega,?_⟩
  have e2:advK zs k=k+1:=by rw[advK,if_neg hz0]
  refine⟨k+1,⟨n,nxV zs k n,rfl,?_,⟨rfl,e2⟩,nxV_in zs k hn.1,by omega,by omega,fun _=>rfl⟩,?_,?_⟩
  ·rw[nxV,if_neg hz0]
  ·exact⟨trivial,rfl⟩
  show some (tapeB 1 zs.length cap (IntKind.i64.wrap (k+1)))=_
  rw[wrapi (by omega)]
def ctNextX:CT:=ctTape (fun zs args k z k'=>∃ n r,args=[.int .i64 n]∧z=.int .i64 r∧(nxV zs k n=r∧advK zs k=k')∧NextR zs n k r k') (preInt 1 1000000)
theorem nextXOk:CSound Try.prog 48 ctNextX:=tapeOk (by kernel_rfl) preInt_plain (by
 rintro args g A cap zs k w hz hk0 hk1 ⟨n,rfl,hn⟩ ht
 refine tape_calls nextFok Try.func48 rfl (D:=nextD) (by kernel_rfl) rfl (preInt_plain _ k ⟨n,rfl,hn⟩) g A cap zs k w ht (R:=fun z k'=>∃ n' r,[Value.int .i64 n]=[.int .i64 n']∧z=.int .i64 r∧(nxV zs k n'=r∧advK zs k=k')∧NextR zs n' k r k') ?_
 exact (nextX_sx cap zs k n hz ⟨hk0,hk1⟩ hn))
def txF:FT:=[(48,ctNextX)]
theorem txFok:FTok Try.prog txF:=ft_cons nextXOk ft_nil
def ctYesX:CT:=ctTape (fun zs args k z k'=>∃ n b,args=[.int .i64 n]∧z=.bool b∧(decide (nxV zs k n=0)=b∧advK zs k=k')∧Adv zs k k') (preInt 1 1000000)
theorem yesXOk:CSound Try.prog 50 ctYesX:=tapeOk (by kernel_rfl) preInt_plain (by
 rintro args g A cap zs k w hz hk0 hk1 ⟨n,rfl,hn⟩ ht
 refine tape_calls txFok Try.func50 rfl (D:=[]) (by kernel_rfl) rfl (preInt_plain _ k ⟨n,rfl,hn⟩) g A cap zs k w ht (R:=fun z k'=>∃ n' b,[Value.int .i64 n]=[.int .i64 n']∧z=.bool b∧(decide (nxV zs k n'=0)=b∧advK zs k=k')∧Adv zs k k') ?_
 refine⟨0,1,cap,zs,k,_,rfl,⟨rfl,rfl⟩,⟨hz,hk0,hk1⟩,⟨n,rfl,hn⟩,?_⟩
 rintro z k' ⟨n',r,hnn,rfl,⟨rfl,rfl⟩,hr⟩
 cases hnn
 exact⟨_,⟨n,_,rfl,rfl,⟨rfl,rfl⟩,hr.2⟩,⟨trivial,rfl⟩,rfl⟩)
def rgV (zs:List Int) (k lo hi:Int):Int:=lo+nxV zs k (hi-lo+1)
def RangeX (zs:List Int) (args:List Value) (k:Int) (z:Value) (k':Int):Prop:=∃ lo hi r,args=[.int .i64 lo,.int .i64 hi]∧z=.int .i64 r∧(rgV zs k lo hi=r∧advK zs k=k')∧(lo≤r∧r≤hi)∧Adv zs k k'
def ctRangeX:CT:=ctTape RangeX preRange
theorem rangeXOk:CSound Try.prog 49 ctRangeX:=tapeOk (by kernel_rfl) preRange_plain (by
 rintro args g A cap zs k w hz hk0 hk1 ⟨lo,hi,rfl,h1,h2,h3⟩ ht
 refine tape_calls txFok Try.func49 rfl (D:=[]) (by kernel_rfl) rfl (preRange_plain _ k ⟨lo,hi,rfl,h1,h2,h3⟩) g A cap zs k w ht (R:=fun z k'=>RangeX zs _ k z k') ?_
 refine⟨0,1,cap,zs,k,_,rfl,⟨rfl,rfl⟩,⟨hz,hk0,hk1⟩,⟨_,rfl,?_⟩,?_⟩
 ·rw[wrapi (n:=hi-lo) (by omega),wrapi (by omega)];omega
 ·rintro z k' ⟨n',r,hnn,rfl,⟨rfl,rfl⟩,hr⟩
  simp only[List.cons.injEq,Value.int.injEq,and_true,true_and] at hnn
  rw[wrapi (n:=hi-lo) (by omega),wrapi (by omega)] at hnn
  subst hnn
  have hr1:=hr.1
  refine⟨_,⟨lo,hi,rgV zs k lo hi,rfl,?_,⟨rfl,rfl⟩,by unfold rgV;omega,hr.2⟩,?_,rfl⟩
  ·show Value.int .i64 (IntKind.i64.wrap (lo+_))=_
   rw[wrapi (by omega)];rfl
  ·exact⟨trivial,rfl⟩)
def ctMoreX:CT:=ctTape (fun zs args k z k'=>∃ b,z=.bool b∧k'=k∧decide (k<zs.length)=b) preNone
theorem moreXOk:CSound Try.prog 79 ctMoreX:=tapeOk (by kernel_rfl) preNone_plain (by
 rintro args g A cap zs k w hz hk0 hk1 hp ht
 cases hp
 refine tape_calls ft_nil Try.func79 rfl (D:=moreD) (by kernel_rfl) rfl (preNone_plain _ k rfl) g A cap zs k w ht (R:=fun z k'=>∃ b,z=.bool b∧k'=k∧decide (k<zs.length)=b) ?_
 exact⟨k,⟨_,rfl,rfl,rfl⟩,⟨trivial,rfl⟩,rfl⟩)
/-! Lists of candidates,and the choice among them. -/
def homesL (c:Cfg) (t:Int):List Int:=pickK (fun (n:Nat)=>mayB c t n) c.cells.length
def standbysL (c:Cfg) (t h:Int):List Int:=pickK (fun (n:Nat)=>(mayB c t n&&apartB c h n)) c.cells.length
def ctHomesX:CT:=fun vs mem nx K=>∃ N x c t,vs=[cfgV N x c,.int .i64 t]∧keeps mem (cfgM N c)∧CfgV c∧∀ (l:List Int) cp,homesL c t=l→l.length≤16→K (slc nx l.length cp) ((nx,intRow l)::mem) (nx+1)
theorem homesXOk:CSound Try.prog 113 ctHomesX:=⟨by kernel_rfl,fun {C ρ fr mem nx a w vs K} hc hs hv=>by
 obtain⟨N,x,c,t,rfl,hk,hV,hK⟩:=hc
 rw[show [cfgV N x c,.int .i64 t].map (den ρ)=[.agg (cfgC (cfgX ρ N x) c),.int .i64 t] by rw[List.map_cons,den_cfg];rfl]
 refine (r5Homes_any (cfgX ρ N x) c t w hV (hs.cfg hk (fun b hb _=>hb))).mono ?_
 rintro e w' ⟨A,cp,rfl,ho,hb⟩
 obtain⟨h1,h2,h3⟩:=ints_new hs ho hb
 exact⟨_,_,_,_,by rw[h2],hK (pickK (fun (n:Nat)=>mayB c t n) c.cells.length) cp rfl (Nat.le_trans (pickK_len _ _) hV.nc.2),h1,h3,ExtS.set _ _ _⟩⟩
def ctStandbysX:CT:=fun vs mem nx K=>∃ N x c t h,vs=[cfgV N x c,.int .i64 t,.int .i64 h]∧keeps mem (cfgM N c)∧CfgV c∧∀ (l:List Int) cp,standbysL c t h=l→l.length≤16→K (slc nx l.length cp) ((nx,intRow l)::mem) (nx+1)
theorem standbysXOk:CSound Try.prog 114 ctStandbysX:=⟨by kernel_rfl,fun {C ρ fr mem nx a w vs K} hc hs hv=>by
 obtain⟨N,x,c,t,h,rfl,hk,hV,hK⟩:=hc
 rw[show [cfgV N x c,.int .i64 t,.int .i64 h].map (den ρ)=[.agg (cfgC (cfgX ρ N x) c),.int .i64 t,.int .i64 h] by rw[List.map_cons,den_cfg];rfl]
 refine (r5Standbys_any (cfgX ρ N x) c t h w hV (hs.cfg hk (fun b hb _=>hb))).mono ?_
 rintro e w' ⟨A,cp,rfl,ho,hb⟩
 obtain⟨h1,h2,h3⟩:=ints_new hs ho hb
 exact⟨_,_,_,_,by rw[h2],hK (pickK (fun (n:Nat)=>(mayB c t n&&apartB c h n)) c.cells.length) cp rfl (Nat.le_trans (pickK_len _ _) hV.nc.2),h1,h3,ExtS.set _ _ _⟩⟩
def pkV (zs:List Int) (l:List Int) (k:Int):Int:=if l.length=0 then -1 else l.getD (nxV zs k l.length).toNat 0
def pkK (zs:List Int) (l:List Int) (k:Int):Int:=if l.length=0 then k else advK zs k
theorem pkK_in (zs:List Int) (l:List Int) (k:Int):k≤pkK zs l k∧pkK zs l k≤k+1:=by
 have:=advK_adv zs k
 unfold pkK
 split
 ·omega
 ·exact⟨this.1,this.2.1⟩
theorem pickX_sx (cap cp:Nat) (zs l:List Int) (k:Int) (hz:zs.length≤400) (hk:0≤k∧k≤990000) (hl:l.length≤16) :
  sx tt txF [] (bodyOf Try.f112) (argF 0 [ptr 0,slc 2 l.length cp]) [(0,tapeB 1 zs.length cap k),(1,intRow zs),(2,intRow l)] 3
   (endx tt Try.f112.results.toList fun v mem' _=>∃ k',(v=.int .i64 (pkV zs l k)∧k'=pkK zs l k)∧lk mem' 0=some (tapeB 1 zs.length cap k')):=by
 refine⟨fun h0=>?_,fun h0=>?_⟩
 ·have h1:l.length=0:=by
   have:(l.length:Int)=0:=by simpa using h0
   omega
  exact⟨k,⟨by rw[pkV,if_pos h1],by rw[pkK,if_pos h1]⟩,rfl⟩
 ·have hpos:(l.length:Int)≠0:=by simpa using h0
  have h1:l.length≠0:=by omega
  have hr:=nxV_in zs k (n:=l.length) (by omega)
  refine⟨0,1,cap,zs,_,_,rfl,⟨rfl,rfl⟩,⟨hz,by omega,by omega⟩,⟨_,rfl,by omega,by omega⟩,?_⟩
  rintro _ _ ⟨_,_,hnn,rfl,⟨rfl,rfl⟩,-⟩
  cases hnn
  refine⟨⟨Nat.le_refl _,by omega,by omega⟩,?_⟩
  exact⟨_,⟨by rw[pkV,if_neg h1],by rw[pkK,if_neg h1]⟩,rfl⟩
def ctPickX:CT:=fun vs mem nx K=>∃ i r cap zs k j cp l,vs=[ptr i,slc j (l:List Int).length cp]∧(lk mem i=some (tapeB r (zs:List Int).length cap k)∧lk mem r=some (intRow zs)∧lk mem j=some (intRow l))∧(zs.length≤400∧0≤k∧k≤990000)∧l.length≤16∧
 ∀ z k',pkV zs l k=z∧pkK zs l k=k'→k≤k'∧k'≤k+1→K (.int .i64 z) ((i,tapeB r zs.length cap k')::mem) nx
theorem pickXOk:CSound Try.prog 112 ctPickX:=⟨by kernel_rfl,fun {C ρ fr mem nx a w vs K} hc hs hv=>by
 obtain⟨i,r,cap,zs,k,j,cp,l,rfl,⟨hi,hr,hj⟩,⟨hz,hk0,hk1⟩,hl,hK⟩:=hc
 obtain⟨g,hA,ht,hok⟩:=hs.tape hi hr
 have hrl:=hs.rd (enc:=intC) (sz:=1) (fun _=>rfl) (by omega) hj (S:=fun b=>b≠g∧b<w.heap.size) (fun b hlt hb=>⟨by rintro rfl;exact hb i _ _ hi (by simp[bno,hA]),hlt⟩)
 let σ:Nat→Pl:=fun q=>match q with | 0=>⟨some ⟨g,0,none⟩,0,0,false,noSub⟩ | 1=>⟨(ρ r).A,1,zs.length,false,noSub⟩ | _=>⟨(ρ j).A,1,l.length,false,noSub⟩
 have one:∀ {l:List Int} {Ar:Option Addr},Rd w (fun b=>b≠g∧b<w.heap.size) Ar (flat intC l)→l.length=0∨Ar.map (·.block)≠some g:=by
  intro l Ar hrd
  by_cases h0:l.length=0
  ·exact .inl h0
  ·obtain⟨b,off,x,hA,hb,-,-⟩:=hrd.row (enc:=intC) (sz:=1) (fun _=>rfl) (by omega) (k:=0) (by omega)
   subst hA
   exact .inr (by simp;exact hb.1)
 have hm:=MemAt.one (ρ:=σ) (nx:=3) (nt:=Try.f112.ntmps) (w:=w) (mem:=[(1,intRow zs),(2,intRow l)]) (g:=g) (i:=0) (t:=136) (cs:=[slc 1 zs.length cap,.int .i64 k]) trivial (by omega) rfl
  ⟨g,rfl,by
   have:=ht.blk
   simpa [den1,dA_whole,dS_whole,σ] using this,.inr (by simp),fun v hv=>by
    simp at hv
    rcases hv with rfl | rfl
    ·exact⟨show (1:Nat)<3 by decide,rfl⟩
    ·trivial⟩
  ⟨⟨by omega,rfl,row_of_rd (enc:=intC) (sz:=1) (fun _=>rfl) (by omega) intC_plain 0 rfl ht.row (fun b hb=>hb.2)⟩,⟨by omega,rfl,row_of_rd (enc:=intC) (sz:=1) (fun _=>rfl) (by omega) intC_plain 0 rfl hrl (fun b hb=>hb.2)⟩,trivial⟩ (fun q t sz n el hq=>by
   rcases lk_cons hq with⟨rfl,e⟩ | ⟨_,hq⟩
   ·cases e;exact one ht.row
   rcases lk_cons hq with⟨rfl,e⟩ | ⟨_,hq⟩
   ·cases e;exact one hrl
   ·simp[lk] at hq)
 have hvs:[ptr i,slc j l.length cp].map (den ρ)=[ptr 0,slc 2 l.length cp].map (den σ):=by simp[den,den2,den1,dA_whole,dS_whole,hA,σ]
 rw[hvs]
 refine (calls_sx ttOk txFok mixed Try.func112 rfl (D:=[]) (by kernel_rfl) (vs:=[ptr 0,slc 2 l.length cp]) rfl ⟨rfl,rfl⟩ rfl hm (fun v hv=>?_) (pickX_sx cap cp zs l k hz ⟨hk0,hk1⟩ hl)).mono ?_
 ·simp at hv
  rcases hv with rfl | rfl
  ·exact⟨⟨show (0:Nat)<3 by decide,rfl⟩,⟨g,0,rfl⟩,fun k hk=>by cases hk⟩
  ·exact⟨show (2:Nat)<3 by decide,rfl⟩
 ·rintro e w' ⟨v,mem',nx',ρ',rfl,⟨k',⟨rfl,rfl⟩,hlk⟩,-,hm'⟩
  have e0:ρ' 0=σ 0:=hm'.low 0 (show (0:Nat)<3 by decide)
  have e1:ρ' 1=σ 1:=hm'.low 1 (show (1:Nat)<3 by decide)
  obtain⟨g',hA',hb,-,-⟩:=hm'.blk 0 _ hlk
  rw[e0] at hA'
  cases hA'
  have hgr:w.grownBy w' (some g):=⟨hm'.rest.os,hm'.rest.tape,hm'.rest.output,hm'.rest.size,fun b hlt hne=>hm'.rest.block b hlt (by simp;intro q;exact hne (by rw[q]))⟩
  refine⟨.int .i64 (pkV zs l k),_,nx,ρ,rfl,hK _ _ ⟨rfl,rfl⟩ (pkK_in zs l k),hs.grownBox (cs':=[slc r zs.length cap,.int .i64 (pkK zs l k)]) hi hA hgr ?_ ?_,trivial,ExtS.refl _ _⟩
  ·simpa [den1,dA_whole,dS_whole,e1,σ] using hb
  ·intro u hu
   simp at hu
   rcases hu with rfl | rfl
   ·exact hok
   ·trivial⟩
/-! make.platform,exactly. -/
def plE (zs:List Int) (c:Cfg) (s:St) (tick k:Int):Ent×Int:=
 if nxV zs (advK zs k) 12=0 then (⟨9,tick,-1,nxV zs k c.cells.length,-1,0,0,0,rgV zs (advK zs (advK zs k)) 1 3⟩,advK zs (advK zs (advK zs k)))
 else if nxV zs (advK zs k) 12=1 then (⟨9,tick,-1,nxV zs k c.cells.length,-1,0,0,0,1⟩,advK zs (advK zs k))
 else if nxV zs (advK zs k) 12=2∨nxV zs (advK zs k) 12=3∨nxV zs (advK zs k) 12=4 then (⟨10,tick,-1,nxV zs k c.cells.length,-1,0,0,0,nxV zs (advK zs (advK zs k)) c.versions.length⟩,advK zs (advK zs (advK zs k)))
 else if nxV zs (advK zs k) 12=5∨nxV zs (advK zs k) 12=6∨nxV zs (advK zs k) 12=7 then (⟨11,IntKind.i64.wrap (tick+nxV zs (advK zs (advK zs k)) c.lease),-1,nxV zs k c.cells.length,-1,0,0,0,(csAt s (nxV zs k c.cells.length)).wanted⟩,advK zs (advK zs (advK zs k)))
 else if nxV zs (advK zs k) 12=8 then (⟨12,IntKind.i64.wrap (tick+nxV zs (advK zs (advK zs k)) (IntKind.i64.wrap (c.bake+1))),-1,-1,-1,0,0,0,(csAt s (nxV zs k c.cells.length)).running⟩,advK zs (advK zs (advK zs k)))
 else if nxV zs (advK zs k) 12=9 then (⟨13,tick,-1,-1,nxV zs (advK zs (advK zs k)) c.regions,0,0,0,if hasB s.evac (nxV zs (advK zs (advK zs k)) c.regions)=true then 0 else 1⟩,advK zs (advK zs (advK zs k)))
 else if nxV zs (advK zs k) 12=10 then (⟨if s.high>s.low then 15 else 14,tick,-1,-1,-1,0,0,0,0⟩,advK zs (advK zs k))
 else (⟨16,tick,-1,-1,-1,0,0,0,nxV zs (advK zs (advK zs k)) 100⟩,advK zs (advK zs (advK zs k)))
def PlatX (zs:List Int) (c:Cfg) (s:St) (args:List Value) (k:Int) (v:Value) (k':Int):Prop:=∃ tick en,args=[.int .i64 tick]∧v=entV' en∧plE zs c s tick k=(en,k')∧k≤k'∧k'≤k+20
def platXF:FT:=[(48,ctNextX),(49,ctRangeX),(111,ctNone),(108,ctHas)]
theorem platXFok:FTok Try.prog platXF:=ft_cons nextXOk (ft_cons rangeXOk (ft_cons noneOk (ft_cons hasOk ft_nil)))
set_option maxRecDepth 100000 in
set_option maxHeartbeats 4000000 in
theorem platX_sx (cap:Nat) (zs:List Int) (k tick:Int) (x:CfgK) (c:Cfg) (y:StK) (s:St) (hz:zs.length≤400) (hk:0≤k∧k≤990000) (hV:CfgV c) (hI:StInv c s) (ht:0≤tick∧tick≤2147483648) :
  sx tt platXF platD (bodyOf Try.f110) (argF 0 (ptr 0::cfgV CN0 x c::stV SN0 y s::[.int .i64 tick])) ((0,tapeB 1 zs.length cap k)::(1,intRow zs)::(cfgM CN0 c++stM SN0 s)) 10
   (endx tt Try.f110.results.toList fun v mem' _=>∃ k',PlatX zs c s [.int .i64 tick] k v k'∧pureV v∧lk mem' 0=some (tapeB 1 zs.length cap k')):=by
 have hnc:=hV.nc
 have hnv:=hV.nv
 have hlc:=hI.lc
 have hls:=hV.lease
 have hbk:=hV.bake
 have hrg:=hV.reg
 have hev:=hI.evac
 refine⟨_,_,rfl,?_⟩
 refine⟨0,1,cap,zs,_,_,rfl,⟨rfl,rfl⟩,⟨hz,by omega,by omega⟩,⟨_,rfl,by omega,by omega⟩,?_⟩
 rintro _ k1 ⟨_,r1,hnn,rfl,⟨er1,ek1⟩,hr1,hk1⟩
 cases hnn
 refine⟨⟨Nat.le_refl _,by omega,by omega⟩,?_⟩
 refine⟨Ent×Int,fun _=>[],fun y=>[(0,tapeB 1 zs.length cap y.2),(13,.box 143 [.int .i64 y.1.kind,.int .i64 y.1.tick,.int .i64 y.1.tenant,.int .i64 y.1.cell,.int .i64 y.1.other,.int .i64 y.1.epoch,.int .i64 y.1.since,.int .i64 y.1.till,.int .i64 y.1.n])],fun y=>(k≤y.2∧y.2≤k+10)∧y=plE zs c s tick k,?_,?_⟩
 ·refine⟨0,1,cap,zs,_,_,rfl,⟨rfl,rfl⟩,⟨hz,by omega,by omega⟩,⟨_,rfl,by omega,by omega⟩,?_⟩
  rintro _ k2 ⟨_,r2,hnn,rfl,⟨er2,ek2⟩,hr2,hk2⟩
  cases hnn
  refine⟨fun q=>?_,fun q=>?_⟩
  ·refine⟨0,1,cap,zs,_,_,rfl,⟨rfl,rfl⟩,⟨hz,by omega,by omega⟩,⟨_,_,rfl,by omega,by omega,by omega⟩,?_⟩
   rintro _ k3 ⟨_,_,r3,hnn,rfl,⟨er3,ek3⟩,hr3,hk3⟩
   cases hnn
   (refine⟨(⟨_,_,_,_,_,_,_,_,_⟩,_),⟨⟨by omega,by omega⟩,?_⟩,⟨rfl,rfl,trivial⟩,⟨rfl,rfl,rfl,trivial⟩⟩;simp only[beq_iff_eq,beq_eq_false_iff_ne,ne_eq,decide_eq_true_eq,decide_eq_false_iff_not] at *;simp only[plE, *,if_true,if_false,or_true,true_or,or_false,or_self,not_true_eq_false,not_false_eq_true,Bool.false_eq_true,reduceIte];try rfl)
  refine⟨fun q=>?_,fun q=>?_⟩
  ·(refine⟨(⟨_,_,_,_,_,_,_,_,_⟩,_),⟨⟨by omega,by omega⟩,?_⟩,⟨rfl,rfl,trivial⟩,⟨rfl,rfl,rfl,trivial⟩⟩;simp only[beq_iff_eq,beq_eq_false_iff_ne,ne_eq,decide_eq_true_eq,decide_eq_false_iff_not] at *;simp only[plE, *,if_true,if_false,or_true,true_or,or_false,or_self,not_true_eq_false,not_false_eq_true,Bool.false_eq_true,reduceIte];try rfl)
  refine⟨fun q=>?_,fun q=>?_⟩
  ·refine⟨fun q=>?_,fun h=>nomatch h⟩
   refine⟨0,1,cap,zs,_,_,rfl,⟨rfl,rfl⟩,⟨hz,by omega,by omega⟩,⟨_,rfl,by omega,by omega⟩,?_⟩
   rintro _ k3 ⟨_,r3,hnn,rfl,⟨er3,ek3⟩,hr3,hk3⟩
   cases hnn
   (refine⟨(⟨_,_,_,_,_,_,_,_,_⟩,_),⟨⟨by omega,by omega⟩,?_⟩,⟨rfl,rfl,trivial⟩,⟨rfl,rfl,rfl,trivial⟩⟩;simp only[beq_iff_eq,beq_eq_false_iff_ne,ne_eq,decide_eq_true_eq,decide_eq_false_iff_not] at *;simp only[plE, *,if_true,if_false,or_true,true_or,or_false,or_self,not_true_eq_false,not_false_eq_true,Bool.false_eq_true,reduceIte];try rfl)
  refine⟨fun q=>?_,fun q=>?_⟩
  ·refine⟨fun q=>?_,fun h=>nomatch h⟩
   refine⟨0,1,cap,zs,_,_,rfl,⟨rfl,rfl⟩,⟨hz,by omega,by omega⟩,⟨_,rfl,by omega,by omega⟩,?_⟩
   rintro _ k3 ⟨_,r3,hnn,rfl,⟨er3,ek3⟩,hr3,hk3⟩
   cases hnn
   (refine⟨(⟨_,_,_,_,_,_,_,_,_⟩,_),⟨⟨by omega,by omega⟩,?_⟩,⟨rfl,rfl,trivial⟩,⟨rfl,rfl,rfl,trivial⟩⟩;simp only[beq_iff_eq,beq_eq_false_iff_ne,ne_eq,decide_eq_true_eq,decide_eq_false_iff_not] at *;simp only[plE, *,if_true,if_false,or_true,true_or,or_false,or_self,not_true_eq_false,not_false_eq_true,Bool.false_eq_true,reduceIte];try rfl)
  refine⟨fun q=>?_,fun q=>?_⟩
  ·refine⟨0,1,cap,zs,_,_,rfl,⟨rfl,rfl⟩,⟨hz,by omega,by omega⟩,⟨_,rfl,by omega,by omega⟩,?_⟩
   rintro _ k3 ⟨_,r3,hnn,rfl,⟨er3,ek3⟩,hr3,hk3⟩
   cases hnn
   (refine⟨(⟨_,_,_,_,_,_,_,_,_⟩,_),⟨⟨by omega,by omega⟩,?_⟩,⟨rfl,rfl,trivial⟩,⟨rfl,rfl,rfl,trivial⟩⟩;simp only[beq_iff_eq,beq_eq_false_iff_ne,ne_eq,decide_eq_true_eq,decide_eq_false_iff_not] at *;simp only[plE, *,if_true,if_false,or_true,true_or,or_false,or_self,not_true_eq_false,not_false_eq_true,Bool.false_eq_true,reduceIte];try rfl)
  refine⟨fun q=>?_,fun q=>?_⟩
  ·refine⟨fun q=>?_,fun h=>nomatch h⟩
   refine⟨⟨rfl,trivial⟩,⟨rfl,trivial⟩,?_⟩
   refine⟨0,1,cap,zs,_,_,rfl,⟨rfl,rfl⟩,⟨hz,by omega,by omega⟩,⟨_,rfl,by omega,by omega⟩,?_⟩
   rintro _ k3 ⟨_,r3,hnn,rfl,⟨er3,ek3⟩,hr3,hk3⟩
   cases hnn
   (refine⟨(⟨_,_,_,_,_,_,_,_,_⟩,_),⟨⟨by omega,by omega⟩,?_⟩,⟨rfl,rfl,trivial⟩,⟨rfl,rfl,rfl,trivial⟩⟩;simp only[beq_iff_eq,beq_eq_false_iff_ne,ne_eq,decide_eq_true_eq,decide_eq_false_iff_not] at *;simp only[plE, *,if_true,if_false,or_true,true_or,or_false,or_self,not_true_eq_false,not_false_eq_true,Bool.false_eq_true,reduceIte];try rfl)
  refine⟨fun q=>?_,fun q=>?_⟩
  ·refine⟨fun q=>?_,fun h=>nomatch h⟩
   refine⟨⟨rfl,trivial⟩,⟨rfl,trivial⟩,?_⟩
   refine⟨0,1,cap,zs,_,_,rfl,⟨rfl,rfl⟩,⟨hz,by omega,by omega⟩,⟨_,rfl,by omega,by omega⟩,?_⟩
   rintro _ k3 ⟨_,r3,hnn,rfl,⟨er3,ek3⟩,hr3,hk3⟩
   cases hnn
   (refine⟨(⟨_,_,_,_,_,_,_,_,_⟩,_),⟨⟨by omega,by omega⟩,?_⟩,⟨rfl,rfl,trivial⟩,⟨rfl,rfl,rfl,trivial⟩⟩;simp only[beq_iff_eq,beq_eq_false_iff_ne,ne_eq,decide_eq_true_eq,decide_eq_false_iff_not] at *;simp only[plE, *,if_true,if_false,or_true,true_or,or_false,or_self,not_true_eq_false,not_false_eq_true,Bool.false_eq_true,reduceIte];try rfl)
  refine⟨fun q=>?_,fun q=>?_⟩
  ·refine⟨⟨rfl,trivial⟩,⟨rfl,trivial⟩,?_⟩
   refine⟨0,1,cap,zs,_,_,rfl,⟨rfl,rfl⟩,⟨hz,by omega,by omega⟩,⟨_,rfl,by omega,by omega⟩,?_⟩
   rintro _ k3 ⟨_,r3,hnn,rfl,⟨er3,ek3⟩,hr3,hk3⟩
   cases hnn
   (refine⟨(⟨_,_,_,_,_,_,_,_,_⟩,_),⟨⟨by omega,by omega⟩,?_⟩,⟨rfl,rfl,trivial⟩,⟨rfl,rfl,rfl,trivial⟩⟩;simp only[beq_iff_eq,beq_eq_false_iff_ne,ne_eq,decide_eq_true_eq,decide_eq_false_iff_not] at *;simp only[plE, *,if_true,if_false,or_true,true_or,or_false,or_self,not_true_eq_false,not_false_eq_true,Bool.false_eq_true,reduceIte];try rfl)
  refine⟨fun q=>?_,fun q=>?_⟩
  ·refine⟨⟨rfl,trivial⟩,?_⟩
   refine⟨0,1,cap,zs,_,_,rfl,⟨rfl,rfl⟩,⟨hz,by omega,by omega⟩,⟨_,rfl,by rw[wrapi (by omega)];omega,by rw[wrapi (by omega)];omega⟩,?_⟩
   rintro _ k3 ⟨_,r3,hnn,rfl,⟨er3,ek3⟩,hr3,hk3⟩
   cases hnn
   (refine⟨(⟨_,_,_,_,_,_,_,_,_⟩,_),⟨⟨by omega,by omega⟩,?_⟩,⟨rfl,rfl,trivial⟩,⟨rfl,rfl,rfl,trivial⟩⟩;simp only[beq_iff_eq,beq_eq_false_iff_ne,ne_eq,decide_eq_true_eq,decide_eq_false_iff_not] at *;simp only[plE, *,if_true,if_false,or_true,true_or,or_false,or_self,not_true_eq_false,not_false_eq_true,Bool.false_eq_true,reduceIte];try rfl)
  refine⟨fun q=>?_,fun q=>?_⟩
  ·refine⟨0,1,cap,zs,_,_,rfl,⟨rfl,rfl⟩,⟨hz,by omega,by omega⟩,⟨_,rfl,by omega,by omega⟩,?_⟩
   rintro _ k3 ⟨_,r3,hnn,rfl,⟨er3,ek3⟩,hr3,hk3⟩
   cases hnn
   refine⟨_,_,rfl,⟨by omega,by omega⟩,?_⟩
   refine⟨fun q=>?_,fun q=>?_⟩
   ·(refine⟨(⟨_,_,_,_,_,_,_,_,_⟩,_),⟨⟨by omega,by omega⟩,?_⟩,⟨rfl,rfl,trivial⟩,⟨rfl,rfl,rfl,trivial⟩⟩;simp only[beq_iff_eq,beq_eq_false_iff_ne,ne_eq,decide_eq_true_eq,decide_eq_false_iff_not] at *;simp only[plE, *,if_true,if_false,or_true,true_or,or_false,or_self,not_true_eq_false,not_false_eq_true,Bool.false_eq_true,reduceIte];try rfl)
   ·(refine⟨(⟨_,_,_,_,_,_,_,_,_⟩,_),⟨⟨by omega,by omega⟩,?_⟩,⟨rfl,rfl,trivial⟩,⟨rfl,rfl,rfl,trivial⟩⟩;simp only[beq_iff_eq,beq_eq_false_iff_ne,ne_eq,decide_eq_true_eq,decide_eq_false_iff_not] at *;simp only[plE, *,if_true,if_false,or_true,true_or,or_false,or_self,not_true_eq_false,not_false_eq_true,Bool.false_eq_true,reduceIte];try rfl)
  refine⟨fun q=>?_,fun q=>?_⟩
  ·refine⟨fun q=>?_,fun q=>?_⟩
   ·(refine⟨(⟨_,_,_,_,_,_,_,_,_⟩,_),⟨⟨by omega,by omega⟩,?_⟩,⟨rfl,rfl,trivial⟩,⟨rfl,rfl,rfl,trivial⟩⟩;simp only[beq_iff_eq,beq_eq_false_iff_ne,ne_eq,decide_eq_true_eq,decide_eq_false_iff_not] at *;simp only[plE, *,if_true,if_false,or_true,true_or,or_false,or_self,not_true_eq_false,not_false_eq_true,Bool.false_eq_true,reduceIte];try rfl)
   ·(refine⟨(⟨_,_,_,_,_,_,_,_,_⟩,_),⟨⟨by omega,by omega⟩,?_⟩,⟨rfl,rfl,trivial⟩,⟨rfl,rfl,rfl,trivial⟩⟩;simp only[beq_iff_eq,beq_eq_false_iff_ne,ne_eq,decide_eq_true_eq,decide_eq_false_iff_not] at *;simp only[plE, *,if_true,if_false,or_true,true_or,or_false,or_self,not_true_eq_false,not_false_eq_true,Bool.false_eq_true,reduceIte];try rfl)
  refine⟨0,1,cap,zs,_,_,rfl,⟨rfl,rfl⟩,⟨hz,by omega,by omega⟩,⟨_,rfl,by omega,by omega⟩,?_⟩
  rintro _ k3 ⟨_,r3,hnn,rfl,⟨er3,ek3⟩,hr3,hk3⟩
  cases hnn
  (refine⟨(⟨_,_,_,_,_,_,_,_,_⟩,_),⟨⟨by omega,by omega⟩,?_⟩,⟨rfl,rfl,trivial⟩,⟨rfl,rfl,rfl,trivial⟩⟩;simp only[beq_iff_eq,beq_eq_false_iff_ne,ne_eq,decide_eq_true_eq,decide_eq_false_iff_not] at *;simp only[plE, *,if_true,if_false,or_true,true_or,or_false,or_self,not_true_eq_false,not_false_eq_true,Bool.false_eq_true,reduceIte];try rfl)
 ·rintro⟨en,k2⟩ ⟨hk2,hpe⟩
  refine⟨⟨by decide,rfl,rfl⟩,?_⟩
  exact⟨k2,⟨tick,en,rfl,rfl,hpe.symm,by omega,by omega⟩,pure_ent en,rfl⟩
def ctPlatformX:CT:=ctGen PlatX prePlat
theorem platformXOk:CSound Try.prog 110 ctPlatformX:=genOk (by kernel_rfl) (by
  rintro c s args k ⟨-,tick,rfl,-⟩ v hv
  simp at hv
  subst hv
  trivial) (by
 rintro args g A cap zs k x c y s w hz hk0 hk1 ⟨⟨hV,hI⟩,tick,rfl,h0,h1⟩ ht hc hs
 refine gen_calls platXFok Try.func110 rfl (D:=platD) (by kernel_rfl) rfl (fun v hv=>by simp at hv;subst hv;trivial) g A cap zs k x c y s w ht hc hs (R:=PlatX zs c s [.int .i64 tick] k) ?_
 exact platX_sx cap zs k tick _ c _ s hz ⟨hk0,by omega⟩ hV hI ⟨h0,h1⟩)
end Go.Proofs.Ytdjkeplekchfdaa
