import Derived.Test.YtbmlgcjoeeejbaaGreatPx18
import Derived.Test.YtbmlgcjoeeejbaaGreatRows
import Derived.ChangeArms
namespace Go.Proofs.YtbmlgcjoeeejbaaGreat
open Go.RowKit
set_option linter.unusedSimpArgs false
set_option linter.unusedVariables false
def rnD:List (Nat×DQ):=[
 (3000003,{ k:=10,L:=[0,1,2,3,4,5,6,7],sl:=[1,2,3] }),
 (3000007,{ k:=11,L:=[0,1,2,3,4,5,6,7,9],sl:=[1,2,3] })]
abbrev stB (T Cc:Value):List Value:=[zi,zi,T,Cc,.int .i64 1,zi,zi,zi]
set_option maxRecDepth 100000 in
set_option maxHeartbeats 4000000 in
theorem r12New_sx (x:CfgK) (c:Cfg) (hnt:c.tenants.length≤1000) (hnc:c.cells.length≤1000) (hc0:0<c.cells.length) :
  sx tt [] rnD (bodyOf Tryz.f48) (argF 0 [cfgV CN1 x c]) (cfgM CN1 c) 6
   (endx tt Tryz.f48.results.toList fun v mem' _=>∃ T Cc,v=.agg (stB T Cc).toArray∧SlR mem' 12 tsC default (stNew c).tenants T∧SlR mem' 4 csC default (stNew c).cells Cc):=by
 refine⟨Int×Nat×Option (Nat×(Nat→List Value)),fun q=>match q with | (i,n,o)=>[(4,.int .i64 i)],fun q=>match q with | (i,n,none)=>[(8,.box 65 (stB zs0 zs0))] | (i,n,some (cap,el))=>[(8,.box 65 (stB (slc 9 n cap) zs0)),(9,tsB cap el)],fun q=>match q with | (i,n,o)=>(i=(n:Int)∧n≤c.tenants.length)∧match o with | none=>n=0 | some (cap,el)=>n≤cap∧∀ k,k<n→el k=tsC tsNew,fun q=>match q with | (i,n,o)=>((c.tenants.length:Int)-i).toNat,⟨(0,0,none),[],⟨⟨rfl,by omega⟩,rfl⟩,⟨rfl,rfl⟩,kp_,kp_⟩,?_⟩
 rintro⟨i,n,(_ | ⟨cap,el⟩)⟩ ⟨⟨hi,hn⟩,ho⟩
 ·refine⟨⟨by decide,rfl,rfl⟩,?_⟩
  obtain rfl:n=0:=ho
  refine⟨fun hlt=>?_,fun hge=>?_⟩
  ·have hlt2:i<(c.tenants.length:Int):=of_decide_eq_true hlt
   refine⟨⟨Nat.le_refl _,fun k hk=>by match k,hk with | 0,_=>rfl⟩,?_⟩
   refine⟨fun h=>absurd h (by decide),fun _=>⟨by decide,fun cap2 el2 ⟨hc2,_⟩ hel2=>?_⟩⟩
   refine⟨(_,_,some (cap2,el2)),[(9,11)],?_,⟨rfl,rfl⟩,kp_,kp_⟩
   dsimp only
   rw[wrapi (n:=i+1) (by omega)]
   refine⟨⟨⟨by omega,by omega⟩,by omega,fun k hk=>?_⟩,by omega⟩
   obtain rfl:k=0:=by omega
   exact hel2 0 (by omega)
  ·have hge2:¬ i<(c.tenants.length:Int):=of_decide_eq_false hge
   have hTz:(stNew c).tenants=[]:=by simp only[stNew];rw[show c.tenants.length=0 by omega];rfl
   clear hi hn
   refine⟨Int×Nat×Option (Nat×(Nat→List Value)),fun q=>match q with | (i,n,o)=>[(5,.int .i64 i)],fun q=>match q with | (i,n,none)=>[(8,.box 65 (stB zs0 zs0))] | (i,n,some (cap,el))=>[(8,.box 65 (stB zs0 (slc 10 n cap))),(10,csB cap el)],fun q=>match q with | (i,n,o)=>(i=(n:Int)∧n≤c.cells.length)∧match o with | none=>n=0 | some (cap,el)=>n≤cap∧∀ k,k<n→el k=csC csNew,fun q=>match q with | (i,n,o)=>((c.cells.length:Int)-i).toNat,⟨(0,0,none),[],⟨⟨rfl,by omega⟩,rfl⟩,⟨rfl,rfl⟩,kp_,kp_⟩,?_⟩
   rintro⟨i,n,(_ | ⟨cap,el⟩)⟩ ⟨⟨hi,hn⟩,ho⟩
   ·refine⟨⟨by decide,rfl,rfl⟩,?_⟩
    obtain rfl:n=0:=ho
    refine⟨fun hlt=>?_,fun hge=>?_⟩
    ·have hlt2:i<(c.cells.length:Int):=of_decide_eq_true hlt
     refine⟨⟨Nat.le_refl _,fun k hk=>by match k,hk with | 0,_=>rfl⟩,?_⟩
     refine⟨fun h=>absurd h (by decide),fun _=>⟨by decide,fun cap2 el2 ⟨hc2,_⟩ hel2=>?_⟩⟩
     refine⟨(_,_,some (cap2,el2)),[(10,12)],?_,⟨rfl,rfl⟩,kp_,kp_⟩
     dsimp only
     rw[wrapi (n:=i+1) (by omega)]
     refine⟨⟨⟨by omega,by omega⟩,by omega,fun k hk=>?_⟩,by omega⟩
     obtain rfl:k=0:=by omega
     exact hel2 0 (by omega)
    ·have hge2:¬ i<(c.cells.length:Int):=of_decide_eq_false hge
     omega
   ·refine⟨⟨by decide,rfl,rfl⟩,?_⟩
    obtain⟨hcap,hel⟩:=ho
    refine⟨fun hlt=>?_,fun hge=>?_⟩
    ·have hlt2:i<(c.cells.length:Int):=of_decide_eq_true hlt
     refine⟨⟨Nat.le_refl _,fun k hk=>by match k,hk with | 0,_=>rfl⟩,?_⟩
     refine⟨⟨rfl,hcap⟩,fun hin el2 ⟨h1,_⟩ h2=>?_,fun hgt=>⟨by show (n+1) * 32≤140737488355328;omega,fun cap2 el2 ⟨hc2,_⟩ h1 h2=>?_⟩⟩
     ·refine⟨(_,_,some (cap,el2)),[],?_,⟨rfl,rfl⟩,kp_,kp_⟩
      dsimp only
      rw[wrapi (n:=i+1) (by omega)]
      refine⟨⟨⟨by omega,by omega⟩,by omega,fun k hk=>?_⟩,by omega⟩
      by_cases hkn:k<n
      ·exact (h1 k hkn).trans (hel k hkn)
      ·obtain rfl:k=n:=by omega
       exact h2 0 (by omega)
     ·refine⟨(_,_,some (cap2,el2)),[(10,12)],?_,⟨rfl,rfl⟩,kp_,kp_⟩
      dsimp only
      rw[wrapi (n:=i+1) (by omega)]
      refine⟨⟨⟨by omega,by omega⟩,by omega,fun k hk=>?_⟩,by omega⟩
      by_cases hkn:k<n
      ·exact (h1 k hkn).trans (hel k hkn)
      ·obtain rfl:k=n:=by omega
       exact h2 0 (by omega)
    ·have hge2:¬ i<(c.cells.length:Int):=of_decide_eq_false hge
     have hnn:n=c.cells.length:=by omega
     subst hnn
     have hlc:(stNew c).cells.length=c.cells.length:=by simp[stNew]
     have hlt:(stNew c).tenants.length=c.tenants.length:=by simp[stNew]
     exact⟨_,_,rfl,.inl ⟨rfl,hTz⟩,.inr ⟨10,cap,_,cap,el,by rw[hlc],rfl,rfl,by rw[hlc];exact hcap,fun k hk=>by rw[hlc] at hk;rw[hel k hk];simp only[stNew];rw[getD_rep hk]⟩⟩
 ·refine⟨⟨by decide,rfl,rfl⟩,?_⟩
  obtain⟨hcap,hel⟩:=ho
  refine⟨fun hlt=>?_,fun hge=>?_⟩
  ·have hlt2:i<(c.tenants.length:Int):=of_decide_eq_true hlt
   refine⟨⟨Nat.le_refl _,fun k hk=>by match k,hk with | 0,_=>rfl⟩,?_⟩
   refine⟨⟨rfl,hcap⟩,fun hin el2 ⟨h1,_⟩ h2=>?_,fun hgt=>⟨by show (n+1) * 88≤140737488355328;omega,fun cap2 el2 ⟨hc2,_⟩ h1 h2=>?_⟩⟩
   ·refine⟨(_,_,some (cap,el2)),[],?_,⟨rfl,rfl⟩,kp_,kp_⟩
    dsimp only
    rw[wrapi (n:=i+1) (by omega)]
    refine⟨⟨⟨by omega,by omega⟩,by omega,fun k hk=>?_⟩,by omega⟩
    by_cases hkn:k<n
    ·exact (h1 k hkn).trans (hel k hkn)
    ·obtain rfl:k=n:=by omega
     exact h2 0 (by omega)
   ·refine⟨(_,_,some (cap2,el2)),[(9,11)],?_,⟨rfl,rfl⟩,kp_,kp_⟩
    dsimp only
    rw[wrapi (n:=i+1) (by omega)]
    refine⟨⟨⟨by omega,by omega⟩,by omega,fun k hk=>?_⟩,by omega⟩
    by_cases hkn:k<n
    ·exact (h1 k hkn).trans (hel k hkn)
    ·obtain rfl:k=n:=by omega
     exact h2 0 (by omega)
  ·have hge2:¬ i<(c.tenants.length:Int):=of_decide_eq_false hge
   have hnn:n=c.tenants.length:=by omega
   subst hnn
   have hcapT:=hcap
   have helT:=hel
   clear hcap hel hi hn hge2 hge
   obtain⟨capT,hce⟩:∃ q,q=cap:=⟨_,rfl⟩
   obtain⟨elT,hee⟩:∃ q,q=el:=⟨_,rfl⟩
   subst hce hee
   refine⟨Int×Nat×Option (Nat×(Nat→List Value)),fun q=>match q with | (i,n,o)=>[(5,.int .i64 i)],fun q=>match q with | (i,n,none)=>[(8,.box 65 (stB (slc 9 c.tenants.length capT) zs0))] | (i,n,some (cap,el))=>[(8,.box 65 (stB (slc 9 c.tenants.length capT) (slc 10 n cap))),(10,csB cap el)],fun q=>match q with | (i,n,o)=>(i=(n:Int)∧n≤c.cells.length)∧match o with | none=>n=0 | some (cap,el)=>n≤cap∧∀ k,k<n→el k=csC csNew,fun q=>match q with | (i,n,o)=>((c.cells.length:Int)-i).toNat,⟨(0,0,none),[],⟨⟨rfl,by omega⟩,rfl⟩,⟨rfl,rfl⟩,kp_,kp_⟩,?_⟩
   rintro⟨i,n,(_ | ⟨cap,el⟩)⟩ ⟨⟨hi,hn⟩,ho⟩
   ·refine⟨⟨by decide,rfl,rfl⟩,?_⟩
    obtain rfl:n=0:=ho
    refine⟨fun hlt=>?_,fun hge=>?_⟩
    ·have hlt2:i<(c.cells.length:Int):=of_decide_eq_true hlt
     refine⟨⟨Nat.le_refl _,fun k hk=>by match k,hk with | 0,_=>rfl⟩,?_⟩
     refine⟨fun h=>absurd h (by decide),fun _=>⟨by decide,fun cap2 el2 ⟨hc2,_⟩ hel2=>?_⟩⟩
     refine⟨(_,_,some (cap2,el2)),[(10,12)],?_,⟨rfl,rfl⟩,kp_,kp_⟩
     dsimp only
     rw[wrapi (n:=i+1) (by omega)]
     refine⟨⟨⟨by omega,by omega⟩,by omega,fun k hk=>?_⟩,by omega⟩
     obtain rfl:k=0:=by omega
     exact hel2 0 (by omega)
    ·have hge2:¬ i<(c.cells.length:Int):=of_decide_eq_false hge
     omega
   ·refine⟨⟨by decide,rfl,rfl⟩,?_⟩
    obtain⟨hcap,hel⟩:=ho
    refine⟨fun hlt=>?_,fun hge=>?_⟩
    ·have hlt2:i<(c.cells.length:Int):=of_decide_eq_true hlt
     refine⟨⟨Nat.le_refl _,fun k hk=>by match k,hk with | 0,_=>rfl⟩,?_⟩
     refine⟨⟨rfl,hcap⟩,fun hin el2 ⟨h1,_⟩ h2=>?_,fun hgt=>⟨by show (n+1) * 32≤140737488355328;omega,fun cap2 el2 ⟨hc2,_⟩ h1 h2=>?_⟩⟩
     ·refine⟨(_,_,some (cap,el2)),[],?_,⟨rfl,rfl⟩,kp_,kp_⟩
      dsimp only
      rw[wrapi (n:=i+1) (by omega)]
      refine⟨⟨⟨by omega,by omega⟩,by omega,fun k hk=>?_⟩,by omega⟩
      by_cases hkn:k<n
      ·exact (h1 k hkn).trans (hel k hkn)
      ·obtain rfl:k=n:=by omega
       exact h2 0 (by omega)
     ·refine⟨(_,_,some (cap2,el2)),[(10,12)],?_,⟨rfl,rfl⟩,kp_,kp_⟩
      dsimp only
      rw[wrapi (n:=i+1) (by omega)]
      refine⟨⟨⟨by omega,by omega⟩,by omega,fun k hk=>?_⟩,by omega⟩
      by_cases hkn:k<n
      ·exact (h1 k hkn).trans (hel k hkn)
      ·obtain rfl:k=n:=by omega
       exact h2 0 (by omega)
    ·have hge2:¬ i<(c.cells.length:Int):=of_decide_eq_false hge
     have hnn:n=c.cells.length:=by omega
     subst hnn
     have hlc:(stNew c).cells.length=c.cells.length:=by simp[stNew]
     have hlt:(stNew c).tenants.length=c.tenants.length:=by simp[stNew]
     exact⟨_,_,rfl,.inr ⟨9,capT,_,capT,elT,by rw[hlt],rfl,rfl,by rw[hlt];exact hcapT,fun k hk=>by rw[hlt] at hk;rw[helT k hk];simp only[stNew];rw[getD_rep hk]⟩,.inr ⟨10,cap,_,cap,el,by rw[hlc],rfl,rfl,by rw[hlc];exact hcap,fun k hk=>by rw[hlc] at hk;rw[hel k hk];simp only[stNew];rw[getD_rep hk]⟩⟩
theorem r12New_calls (x:CfgA) (c:Cfg) (w:World) (hc:CfgOk w (·<w.heap.size) x c) (hnt:c.tenants.length≤1000) (hnc:c.cells.length≤1000) (hc0:0<c.cells.length) :
  Calls Tryz.prog 48 #[.agg (cfgC x c)] w fun e w'=>∃ y,e=.returned (.agg (stC y (stNew c)))∧StOk w' (fun b=>w.heap.size≤b∧b<w'.heap.size) y (stNew c)∧Below w.heap.size w w':=by
 have hpc:CfgPl (cpl x c) CN1 x c:=⟨rfl,rfl,rfl,rfl,rfl,rfl⟩
 have hm:MemAt { w0:=w,bor:=[],n0:=6,ρ0:=cpl x c,nt:=(Tryz.f48).ntmps } (cpl x c) (cfgM CN1 c) 6 w:=MemAt.rows trivial (by
  have:=cfg_blks (C:={ w0:=w,bor:=[],n0:=6,ρ0:=cpl x c,nt:=(Tryz.f48).ntmps }) (nx:=6) (r:=[]) hpc hc (fun b hb=>hb) (by decide) trivial
  exact this)
 have hv0:#[Value.agg (cfgC x c)]=([cfgV CN1 ⟨x.cz,x.cc,x.ct,x.cv,x.cr,x.co⟩ c].map (den (cpl x c))).toArray:=by
  rw[List.map_cons,den_cfg]
  rfl
 rw[hv0]
 refine (calls_sx ttOk ft_nil mixed Tryz.func48 rfl (D:=rnD) (by kernel_rfl) (vs:=[cfgV CN1 ⟨x.cz,x.cc,x.ct,x.cv,x.cr,x.co⟩ c]) rfl ⟨rfl,rfl⟩ rfl hm (fun v hv=>?_) (r12New_sx _ c hnt hnc hc0)).mono ?_
 ·obtain rfl:v=_:=by simpa using hv
  intro u hu
  simp at hu
  rcases hu with rfl | rfl | rfl | rfl | rfl | rfl | rfl | rfl | rfl | rfl<;>first | trivial | exact⟨by decide,rfl⟩
 ·rintro e w' ⟨v,mem',nx',ρ',rfl,⟨T,Cc,rfl,hT,hC⟩,hv,hm'⟩
  obtain⟨a1,c1,e1,r1⟩:=hm'.slR (enc:=tsC) (sz:=12) (fun _=>rfl) (by omega) hT
  obtain⟨a2,c2,e2,r2⟩:=hm'.slR (enc:=csC) (sz:=4) (fun _=>rfl) (by omega) hC
  refine⟨⟨a1,c1,a2,c2⟩,?_,⟨r1,r2⟩,⟨hm'.rest.os,hm'.rest.tape,hm'.rest.output,hm'.rest.size,fun b hlt=>hm'.rest.block b hlt (by simp)⟩⟩
  have d:∀ v,den1 ρ' (.int .i64 v)=.int .i64 v:=fun _=>rfl
  simp[den,den2,stC,stNew,d] at e1 e2 ⊢
  exact⟨e1,e2⟩
def ctNewR:CT:=fun vs mem nx K=>∃ N x c,vs=[cfgV N x c]∧keeps mem (cfgM N c)∧(c.tenants.length≤1000∧c.cells.length≤1000∧0<c.cells.length)∧∀ y,K (stV ⟨nx+1,nx,500000⟩ y (stNew c)) (stM ⟨nx+1,nx,500000⟩ (stNew c)++mem) (nx+2)
theorem newROk:CSound Tryz.prog 48 ctNewR:=⟨by kernel_rfl,fun {C ρ fr mem nx a w vs K} hc hs hv=>by
 obtain⟨N,x,c,rfl,hk,⟨hnt,hnc,hc0⟩,hK⟩:=hc
 rw[List.map_cons,den_cfg]
 refine (r12New_calls (cfgX ρ N x) c w (hs.cfg hk (fun b h _=>h)) hnt hnc hc0).mono ?_
 rintro e w' ⟨y,rfl,hst,hb⟩
 obtain⟨q1,q2,q3,q4⟩:=hs.addSt hb hst
 exact⟨_,_,_,_,by rw[q2],hK ⟨y.ct,y.cc⟩,q1,q3,q4⟩⟩
/-! Logs that are accepted,and ref12.Fold. -/
inductive Run (c:Cfg):St→List Ent→St→Prop where
 | nil (s:St):Run c s [] s
 | cons {s x s':St} {e:Ent} {es:List Ent} (h:applyP c s e=(x,0)) (hr:Run c x es s'):Run c s (e::es) s'
structure RInv (c:Cfg) (s:St):Prop where
 inv:StInv c s
 cap:overB c s=false
theorem RInv.new {c:Cfg} (hV:CfgV c):RInv c (stNew c):=⟨stNew_inv hV,cap_new hV⟩
theorem RInv.step {c:Cfg} {s x:St} {e:Ent} (hV:CfgV c) (h:RInv c s) (he:applyP c s e=(x,0)):RInv c x:=by
 obtain⟨hr,hx,-⟩:=applyP_ok he
 exact⟨by rw[hx];exact h.inv.step hV hr,cap_step hV h.inv h.cap he⟩
theorem Run.rinv {c:Cfg} (hV:CfgV c) {s s':St} {es:List Ent} (h:Run c s es s') (hs:RInv c s):RInv c s':=by
 induction h with
 | nil s=>exact hs
 | cons he _ ih=>exact ih (hs.step hV he)
theorem Run.snoc {c:Cfg} {s s' x:St} {es:List Ent} {e:Ent} (h:Run c s es s') (he:applyP c s' e=(x,0)):Run c s (es++[e]) x:=by
 induction h with
 | nil s=>exact .cons he (.nil _)
 | cons h1 _ ih=>exact .cons h1 (ih he)
theorem Run.fold {c:Cfg} {s s':St} {es:List Ent} (h:Run c s es s'):∀ i:Int,foldGo c i s es=(s',i+es.length,0):=by
 induction h with
 | nil s=>intro i;simp[foldGo]
 | cons h1 _ ih=>
  intro i
  rw[foldGo,h1,if_neg (by simp),ih]
  simp
  omega
theorem Run.foldC {c:Cfg} {s':St} {es:List Ent} (h:Run c (stNew c) es s'):foldC c es=(s',(es.length:Int),0):=by
 unfold Go.Proofs.YtbmlgcjoeeejbaaGreat.foldC
 rw[h.fold 0,Int.zero_add]
theorem Run.count {c:Cfg} {s s':St} {es:List Ent} (h:Run c s es s'):s'.count=s.count+es.length:=by
 induction h with
 | nil s=>simp
 | cons h1 _ ih=>
  obtain⟨hr,hx,-⟩:=applyP_ok h1
  rw[ih,hx]
  have:∀ (s:St) (e:Ent),(effOf s e).count=s.count+1:=by
   intro s e
   unfold effOf stamped setTen setCel
   repeat (split<;>try rfl)
  rw[this]
  simp
  omega
theorem Run.split {c:Cfg} {s s':St} {l r:List Ent} (h:Run c s (l++r) s'):∃ m,Run c s l m∧Run c m r s':=by
 induction l generalizing s with
 | nil=>exact⟨s,.nil s,h⟩
 | cons e l ih=>
  cases h with
  | cons h1 hr=>
   obtain⟨m,q1,q2⟩:=ih hr
   exact⟨m,.cons h1 q1,q2⟩
def frF:FT:=[(48,ctNewR),(49,ctApplyR)]
theorem frFok:FTok Tryz.prog frF:=ft_cons newROk (ft_cons applyROk ft_nil)
def frD:List (Nat×DQ):=[(3000003,{ k:=20,L:=[0,1,2,3,4,5,6,7,8,9,10,11,12,13,14],sl:=[1,2,4,7] }),
 (5,{ k:=12,L:=[0,1,2,3,4,5,6,7,8,9,10,11,12,13,14,17,18,19],A:=[10],pre:=[(0,false),(1,false),(2,false),(3,false),(4,false),(5,false),(6,true),(7,false),(8,false),(9,false)],post:=[(11,true)] })]
set_option maxRecDepth 100000 in
set_option maxHeartbeats 4000000 in
theorem foldR_sx (d:UD) (x:CfgK) (cap:Nat) (hV:CfgV d.c) (hl:d.es.length≤1000000) :
  sx tt frF frD (bodyOf Tryz.f39) (argF 0 [cfgV CNu x d.c,slc 8 d.es.length cap]) (uniM d) 13 (endx tt Tryz.f39.results.toList fun v mem' _=>∃ y,v=.tuple #[stV ⟨18,19,500000⟩ y (foldC d.c d.es).1,.int .i64 (foldC d.c d.es).2.1,.int .i64 (foldC d.c d.es).2.2]∧keeps mem' (stM ⟨18,19,500000⟩ (foldC d.c d.es).1)):=by
 have hnt:=hV.nt
 have hnc:=hV.nc
 refine⟨CNu,x,d.c,rfl,kp_,⟨by omega,by omega,by omega⟩,?_⟩
 intro y0
 refine⟨St×StK×Int,fun q=>match q with | (s,y,i)=>[(8,.int .i64 i)],fun q=>match q with | (s,y,i)=>[(17,.box 65 [.int .i64 s.tick,.int .i64 s.count,slc 18 s.tenants.length y.ct,slc 19 s.cells.length y.cc,.int .i64 s.proven,.int .i64 s.evac,.int .i64 s.low,.int .i64 s.high]),(18,rowOfL 500000 12 tsC default s.tenants),(19,rowOfL 500000 4 csC default s.cells)],fun q=>match q with | (s,y,i)=>RInv d.c s∧(0≤i∧i≤d.es.length)∧foldGo d.c i s (d.es.drop i.toNat)=foldC d.c d.es,fun q=>match q with | (s,y,i)=>((d.es.length:Int)-i).toNat,⟨(stNew d.c,y0,0),[(18,16),(19,15)],⟨.new hV,by omega,rfl⟩,⟨rfl,rfl⟩,kp_,kp_⟩,?_⟩
 rintro⟨s,y,i⟩ ⟨hR,hi,hf⟩
 refine⟨⟨by decide,rfl,rfl⟩,?_⟩
 refine⟨fun hlt=>?_,fun hge=>?_⟩
 ·have hlt2:i<(d.es.length:Int):=of_decide_eq_true hlt
  have hd:d.es.drop i.toNat=(d.es.getD i.toNat default)::d.es.drop (i+1).toNat:=by
   rw[show (i+1).toNat=i.toNat+1 by omega,← List.getElem_cons_drop (show i.toNat<d.es.length by omega)]
   congr 1
   rw[List.getD_eq_getElem?_getD,List.getElem?_eq_getElem (show i.toNat<d.es.length by omega)]
   rfl
  rw[hd] at hf
  refine⟨⟨Nat.le_refl _,hi.1,hlt2⟩,?_⟩
  refine⟨CNu,x,d.c,⟨18,19,500000⟩,y,s,(d.es.getD i.toNat default),rfl,⟨kp_,.list rfl,.list rfl⟩,⟨hV,hR.inv⟩,?_⟩
  intro y2
  rw[applyRP hV hR.inv hR.cap]
  refine⟨kp_,?_⟩
  refine⟨kp_,?_⟩
  generalize (d.es.getD i.toNat default)=e at hf ⊢
  refine⟨fun he=>?_,fun he=>?_⟩
  ·have he2:(applyP d.c s e).2≠0:=by simpa using he
   rw[foldGo,if_pos he2] at hf
   rw[← hf]
   exact⟨y,rfl,kp_⟩
  ·have he2:(applyP d.c s e).2=0:=by simpa using he
   rw[foldGo,if_neg (fun h=>h he2)] at hf
   refine⟨((applyP d.c s e).1,y2,_),[(18,22),(19,21)],?_,⟨rfl,rfl⟩,kp_,kp_⟩
   dsimp only
   rw[wrapi (n:=i+1) (by omega)]
   exact⟨⟨hR.step hV (e:=e) (by rw[← he2]),by omega,hf⟩,by omega⟩
 ·have hge2:¬ i<(d.es.length:Int):=of_decide_eq_false hge
  obtain rfl:i=d.es.length:=by omega
  rw[Int.toNat_natCast,List.drop_length] at hf
  rw[foldGo] at hf
  rw[← hf]
  exact⟨y,rfl,kp_⟩
theorem r12Fold_calls (x:CfgA) (c:Cfg) (A:Option Addr) (cap:Nat) (es:List Ent) (w:World) (hV:CfgV c) (hl:es.length≤1000000) (hc:CfgOk w (·<w.heap.size) x c) (hr:Rd w (·<w.heap.size) A (flat entC es)) :
  Calls Tryz.prog 39 #[.agg (cfgC x c),.slice A es.length cap] w fun e w'=>∃ y,e=.returned (.tuple #[.agg (stC y (foldC c es).1),.int .i64 (foldC c es).2.1,.int .i64 (foldC c es).2.2])∧StOk w' (fun b=>w.heap.size≤b∧b<w'.heap.size) y (foldC c es).1∧Below w.heap.size w w':=by
 have:=uni_calls ttOk (frFok.i _) Tryz.func39 rfl (D:=frD) (by kernel_rfl) (vs:=[cfgV CNu (ck x) c,slc 8 es.length cap]) rfl { x:=x,ae:=A } { c:=c,es:=es } w { c:=hc,e:=hr } (fun v hv=>by
  simp only[List.mem_cons,List.not_mem_nil,or_false] at hv
  rcases hv with rfl | rfl
  ·exact upl_cfg_ok { x:=x,ae:=A } { c:=c,es:=es }
  ·exact⟨show (8:Nat)<13 by decide,rfl⟩) (foldR_sx { c:=c,es:=es } (ck x) cap hV hl)
 rw[List.map_cons] at this
 have e0:=upl_cfg { x:=x,ae:=A } { c:=c,es:=es }
 dsimp only at e0 this
 rw[e0] at this
 refine this.mono ?_
 rintro e w' ⟨v,mem',nx',ρ',rfl,⟨y,rfl,k1,k2,-⟩,hv,hm',hb⟩
 refine⟨⟨(ρ' 18).A,y.ct,(ρ' 19).A,y.cc⟩,?_,⟨?_,?_⟩,hb⟩
 ·simp[den,den2,den1,dA_whole,dS_whole,stC]
 ·exact (hm'.blk 18 _ k1).fresh (enc:=tsC) default rfl rfl (fun k hk=>rfl) (fun _=>rfl) (by omega)
 ·exact (hm'.blk 19 _ k2).fresh (enc:=csC) default rfl rfl (fun k hk=>rfl) (fun _=>rfl) (by omega)
def ctFoldR:CT:=fun vs mem nx K=>∃ N x c r cap es,vs=[cfgV N x c,slc r (es:List Ent).length cap]∧(keeps mem (cfgM N c)∧HasRow mem r 9 entC default es)∧(CfgV c∧es.length≤1000000)∧∀ y,K (.tuple #[stV ⟨nx+1,nx,500000⟩ y (foldC c es).1,.int .i64 (foldC c es).2.1,.int .i64 (foldC c es).2.2]) (stM ⟨nx+1,nx,500000⟩ (foldC c es).1++mem) (nx+2)
theorem foldROk:CSound Tryz.prog 39 ctFoldR:=⟨by kernel_rfl,fun {C ρ fr mem nx a w vs K} hc hs hv=>by
 obtain⟨N,x,c,r,cap,es,rfl,⟨hk,hr⟩,⟨hV,hl⟩,hK⟩:=hc
 have e0:([cfgV N x c,slc r es.length cap].map (den ρ)).toArray=#[.agg (cfgC (cfgX ρ N x) c),.slice (ρ r).A es.length cap]:=by
  rw[List.map_cons,den_cfg]
  rfl
 rw[e0]
 refine (r12Fold_calls (cfgX ρ N x) c (ρ r).A cap es w hV hl (hs.cfg hk (fun b h _=>h)) (hs.hasRd (enc:=entC) (sz:=9) (fun _=>rfl) (by omega) hr)).mono ?_
 rintro e w' ⟨y,rfl,hst,hb⟩
 obtain⟨q1,q2,q3,q4⟩:=hs.addSt hb hst
 refine⟨.tuple #[stV ⟨nx+1,nx,500000⟩ ⟨y.ct,y.cc⟩ (foldC c es).1,.int .i64 (foldC c es).2.1,.int .i64 (foldC c es).2.2],_,_,_,?_,hK ⟨y.ct,y.cc⟩,q1,?_,q4⟩
 ·rw[← q2]
  simp[den,den2,den1]
 ·intro u hu
  simp at hu
  rcases hu with rfl | rfl | rfl
  ·exact q3
  ·trivial
  ·trivial⟩
def ggrF:FT:=[(35,ctNext),(36,ctRange),(37,ctYes)]
theorem ggrFok:FTok Tryz.prog ggrF:=ft_cons nextOk (ft_cons rangeOk (ft_cons yesOk ft_nil))
def gcutQ:DQ:={ k:=15,L:=[1,9,10,11,13,14],sl:=[0,5,6,7,8,9] }
def ggrD:List (Nat×DQ):=[
 (14,{ k:=5,L:=[12],pre:=[(0,false),(1,false),(2,false),(3,true),(4,false)] }),
 (15,{ k:=7,L:=[12,10],pre:=[(0,false),(1,false),(2,false),(3,false),(4,false),(5,true),(6,false)] }),
 (18,{ k:=10,g:=some (.fix 0 (.fix 3 (.fix 5 (.three
  1 (.fix 2 (.two 4 (.fix 8 (.act 6 (.fix 7 (.act 9 .fin)))) 6 (.act 4 (.fix 7 (.fix 8 (.act 9 .fin))))))
  4 (.two 1 (.fix 2 (.fix 8 (.act 6 (.fix 7 (.act 9 .fin))))) 6 (.fix 7 (.act 1 (.fix 2 (.fix 8 (.act 9 .fin))))))
  6 (.two 1 (.fix 2 (.act 4 (.fix 7 (.fix 8 (.act 9 .fin))))) 4 (.fix 7 (.act 1 (.fix 2 (.fix 8 (.act 9 .fin))))))))))}),
 (1000007,gcutQ),(1000010,gcutQ),(1000012,gcutQ),(1000015,gcutQ),(1000019,gcutQ),(1000020,gcutQ)]
set_option maxRecDepth 100000 in
set_option maxHeartbeats 4000000 in
theorem grant_sx (cap:Nat) (zs:List Int) (k:Int) (x:CfgK) (c:Cfg) (y:StK) (s:St) (e:Ent) (hz:zs.length≤400) (hk:0≤k∧k≤990000) (hV:CfgV c) (hI:StInv c s) (ht:0≤e.tenant∧e.tenant<s.tenants.length) (hp:(tsAt s e.tenant).placed=true) :
  sx tt ggrF ggrD (bodyOf Tryz.f84) (argF 0 (ptr 0::cfgV CN0 x c::stV SN0 y s::[entV' e])) ((0,tapeB 1 zs.length cap k)::(1,intRow zs)::(cfgM CN0 c++stM SN0 s)) 10
   (endx tt Tryz.f84.results.toList fun v mem' _=>∃ k',EntR k v k'∧pureV v∧lk mem' 0=some (tapeB 1 zs.length cap k')):=by
 have hnc:=hV.nc
 have hlc:=hI.lc
 have hls:=hV.lease
 have hti:=hI.ten _ (tsAt_mem ht.1 ht.2).2
 have h1:=hti.placed hp
 have h2:=hti.home
 have h3:=hti.standby
 have h4:=hti.target
 unfold tsAt at h1 h2 h3 h4
 rw[← hlc] at h2 h3 h4
 replace h2:=h2.2
 replace h3:=h3.2
 replace h4:=h4.2
 clear hti hp hI hV
 obtain⟨kind,tick,tenant,cell,other,epoch,since,till,n⟩:=e
 dsimp only[entV'] at *
 refine⟨⟨Nat.le_refl _,by omega,by omega⟩,?_⟩
 refine⟨Ent×Int,fun _=>[],fun y=>match y with | (⟨a1,a2,a3,a4,a5,a6,a7,a8,a9⟩,kk)=>[(0,tapeB 1 zs.length cap kk),(12,.box 104 [.int .i64 a1,.int .i64 a2,.int .i64 a3,.int .i64 a4,.int .i64 a5,.int .i64 a6,.int .i64 a7,.int .i64 a8,.int .i64 a9])],fun y=>(k≤y.2∧y.2≤k+2)∧0≤y.1.cell∧y.1.cell<s.cells.length,?_,?_⟩
 ·refine⟨fun htg=>?_,fun _=>?_⟩
  ·simp only[decide_eq_true_eq,ge_iff_le] at htg
   refine⟨0,1,cap,zs,_,_,rfl,⟨rfl,rfl⟩,⟨hz,by omega,by omega⟩,⟨_,rfl,by omega,by omega⟩,?_⟩
   rintro _ k1 ⟨b1,rfl,hk1⟩
   refine⟨fun _=>?_,fun _=>?_⟩
   ·(refine⟨(⟨_,_,_,_,_,_,_,_,_⟩,_),?_,⟨rfl,rfl,rfl,rfl,rfl,rfl,trivial⟩,⟨rfl,rfl,rfl,rfl,rfl,rfl,rfl,rfl,trivial⟩⟩;dsimp only;(refine⟨⟨by omega,by omega⟩,?_,?_⟩<;>first | assumption | omega))
   ·refine⟨fun hs=>?_,fun _=>?_⟩
    ·simp only[decide_eq_true_eq,ge_iff_le] at hs
     refine⟨0,1,cap,zs,_,_,rfl,⟨rfl,rfl⟩,⟨hz,by omega,by omega⟩,⟨_,rfl,by omega,by omega⟩,?_⟩
     rintro _ k2 ⟨b2,rfl,hk2⟩
     refine⟨fun _=>?_,fun _=>?_⟩
     ·refine⟨fun _=>?_,fun h=>nomatch h⟩
      (refine⟨(⟨_,_,_,_,_,_,_,_,_⟩,_),?_,⟨rfl,rfl,rfl,rfl,rfl,rfl,trivial⟩,⟨rfl,rfl,rfl,rfl,rfl,rfl,rfl,rfl,trivial⟩⟩;dsimp only;(refine⟨⟨by omega,by omega⟩,?_,?_⟩<;>first | assumption | omega))
     ·refine⟨fun _=>?_,fun _=>?_⟩
      ·(refine⟨(⟨_,_,_,_,_,_,_,_,_⟩,_),?_,⟨rfl,rfl,rfl,rfl,rfl,rfl,trivial⟩,⟨rfl,rfl,rfl,rfl,rfl,rfl,rfl,rfl,trivial⟩⟩;dsimp only;(refine⟨⟨by omega,by omega⟩,?_,?_⟩<;>first | assumption | omega))
      ·(refine⟨(⟨_,_,_,_,_,_,_,_,_⟩,_),?_,⟨rfl,rfl,rfl,rfl,rfl,rfl,trivial⟩,⟨rfl,rfl,rfl,rfl,rfl,rfl,rfl,rfl,trivial⟩⟩;dsimp only;(refine⟨⟨by omega,by omega⟩,?_,?_⟩<;>first | assumption | omega))
    ·refine⟨(fun h=>nomatch h),fun _=>?_⟩
     (refine⟨(⟨_,_,_,_,_,_,_,_,_⟩,_),?_,⟨rfl,rfl,rfl,rfl,rfl,rfl,trivial⟩,⟨rfl,rfl,rfl,rfl,rfl,rfl,rfl,rfl,trivial⟩⟩;dsimp only;(refine⟨⟨by omega,by omega⟩,?_,?_⟩<;>first | assumption | omega))
  ·refine⟨(fun h=>nomatch h),fun _=>?_⟩
   refine⟨fun hs=>?_,fun _=>?_⟩
   ·simp only[decide_eq_true_eq,ge_iff_le] at hs
    refine⟨0,1,cap,zs,_,_,rfl,⟨rfl,rfl⟩,⟨hz,by omega,by omega⟩,⟨_,rfl,by omega,by omega⟩,?_⟩
    rintro _ k2 ⟨b2,rfl,hk2⟩
    refine⟨fun _=>?_,fun _=>?_⟩
    ·refine⟨fun _=>?_,fun h=>nomatch h⟩
     (refine⟨(⟨_,_,_,_,_,_,_,_,_⟩,_),?_,⟨rfl,rfl,rfl,rfl,rfl,rfl,trivial⟩,⟨rfl,rfl,rfl,rfl,rfl,rfl,rfl,rfl,trivial⟩⟩;dsimp only;(refine⟨⟨by omega,by omega⟩,?_,?_⟩<;>first | assumption | omega))
    ·refine⟨fun _=>?_,fun _=>?_⟩
     ·(refine⟨(⟨_,_,_,_,_,_,_,_,_⟩,_),?_,⟨rfl,rfl,rfl,rfl,rfl,rfl,trivial⟩,⟨rfl,rfl,rfl,rfl,rfl,rfl,rfl,rfl,trivial⟩⟩;dsimp only;(refine⟨⟨by omega,by omega⟩,?_,?_⟩<;>first | assumption | omega))
     ·(refine⟨(⟨_,_,_,_,_,_,_,_,_⟩,_),?_,⟨rfl,rfl,rfl,rfl,rfl,rfl,trivial⟩,⟨rfl,rfl,rfl,rfl,rfl,rfl,rfl,rfl,trivial⟩⟩;dsimp only;(refine⟨⟨by omega,by omega⟩,?_,?_⟩<;>first | assumption | omega))
   ·refine⟨(fun h=>nomatch h),fun _=>?_⟩
    (refine⟨(⟨_,_,_,_,_,_,_,_,_⟩,_),?_,⟨rfl,rfl,rfl,rfl,rfl,rfl,trivial⟩,⟨rfl,rfl,rfl,rfl,rfl,rfl,rfl,rfl,trivial⟩⟩;dsimp only;(refine⟨⟨by omega,by omega⟩,?_,?_⟩<;>first | assumption | omega))
 ·rintro⟨⟨ekind,etick,etenant,ecell,eother,eepoch,esince,etill,en⟩,kk⟩ ⟨hkk,hcell⟩
  refine⟨⟨by decide,rfl,rfl⟩,?_⟩
  simp only at hkk hcell
  refine⟨Ent×Int,fun _=>[],fun y=>match y with | (⟨a1,a2,a3,a4,a5,a6,a7,a8,a9⟩,kk)=>[(0,tapeB 1 zs.length cap kk),(12,.box 104 [.int .i64 a1,.int .i64 a2,.int .i64 a3,.int .i64 a4,.int .i64 a5,.int .i64 a6,.int .i64 a7,.int .i64 a8,.int .i64 a9])],fun y=>(k≤y.2∧y.2≤k+3)∧0≤y.1.cell∧y.1.cell<s.cells.length,?_,?_⟩
  ·refine⟨fun _=>?_,fun _=>?_⟩
   ·refine⟨fun _=>?_,fun h=>nomatch h⟩
    refine⟨fun _=>?_,fun h=>nomatch h⟩
    (refine⟨(⟨_,_,_,_,_,_,_,_,_⟩,_),?_,⟨rfl,rfl,rfl,rfl,rfl,rfl,trivial⟩,⟨rfl,rfl,rfl,rfl,rfl,rfl,rfl,rfl,trivial⟩⟩;dsimp only;(refine⟨⟨by omega,by omega⟩,?_,?_⟩<;>first | assumption | omega))
   ·refine⟨fun _=>?_,fun _=>?_⟩
    ·refine⟨fun _=>?_,fun h=>nomatch h⟩
     (refine⟨(⟨_,_,_,_,_,_,_,_,_⟩,_),?_,⟨rfl,rfl,rfl,rfl,rfl,rfl,trivial⟩,⟨rfl,rfl,rfl,rfl,rfl,rfl,rfl,rfl,trivial⟩⟩;dsimp only;(refine⟨⟨by omega,by omega⟩,?_,?_⟩<;>first | assumption | omega))
    ·refine⟨0,1,cap,zs,_,_,rfl,⟨rfl,rfl⟩,⟨hz,by omega,by omega⟩,⟨_,rfl,by omega,by omega⟩,?_⟩
     rintro _ k3 ⟨b3,rfl,hk3⟩
     refine⟨fun _=>?_,fun _=>?_⟩
     ·(refine⟨(⟨_,_,_,_,_,_,_,_,_⟩,_),?_,⟨rfl,rfl,rfl,rfl,rfl,rfl,trivial⟩,⟨rfl,rfl,rfl,rfl,rfl,rfl,rfl,rfl,trivial⟩⟩;dsimp only;(refine⟨⟨by omega,by omega⟩,?_,?_⟩<;>first | assumption | omega))
     ·(refine⟨(⟨_,_,_,_,_,_,_,_,_⟩,_),?_,⟨rfl,rfl,rfl,rfl,rfl,rfl,trivial⟩,⟨rfl,rfl,rfl,rfl,rfl,rfl,rfl,rfl,trivial⟩⟩;dsimp only;(refine⟨⟨by omega,by omega⟩,?_,?_⟩<;>first | assumption | omega))
  ·rintro⟨⟨ekind,etick,etenant,ecell,eother,eepoch,esince,etill,en⟩,kk⟩ ⟨hkk,hcell⟩
   refine⟨⟨by decide,rfl,rfl⟩,?_⟩
   simp only at hkk hcell
   refine⟨Ent×Int,fun _=>[],fun y=>match y with | (⟨a1,a2,a3,a4,a5,a6,a7,a8,a9⟩,kk)=>[(0,tapeB 1 zs.length cap kk),(12,.box 104 [.int .i64 a1,.int .i64 a2,.int .i64 a3,.int .i64 a4,.int .i64 a5,.int .i64 a6,.int .i64 a7,.int .i64 a8,.int .i64 a9])],fun y=>(k≤y.2∧y.2≤k+4)∧0≤y.1.cell∧y.1.cell<s.cells.length,?_,?_⟩
   ·refine⟨fun _=>?_,fun _=>?_⟩
    ·refine⟨0,1,cap,zs,_,_,rfl,⟨rfl,rfl⟩,⟨hz,by omega,by omega⟩,⟨_,rfl,by omega,by omega⟩,?_⟩
     rintro _ k3 ⟨_,r3,hnn,rfl,⟨hr3,hk3⟩⟩
     cases hnn
     refine⟨fun _=>?_,fun _=>?_⟩
     ·(refine⟨(⟨_,_,_,_,_,_,_,_,_⟩,_),?_,⟨rfl,rfl,rfl,rfl,rfl,rfl,trivial⟩,⟨rfl,rfl,rfl,rfl,rfl,rfl,rfl,rfl,trivial⟩⟩;dsimp only;(refine⟨⟨by omega,by omega⟩,?_,?_⟩<;>first | assumption | omega))
     ·(refine⟨(⟨_,_,_,_,_,_,_,_,_⟩,_),?_,⟨rfl,rfl,rfl,rfl,rfl,rfl,trivial⟩,⟨rfl,rfl,rfl,rfl,rfl,rfl,rfl,rfl,trivial⟩⟩;dsimp only;(refine⟨⟨by omega,by omega⟩,?_,?_⟩<;>first | assumption | omega))
    ·refine⟨(fun h=>nomatch h),fun _=>?_⟩
     (refine⟨(⟨_,_,_,_,_,_,_,_,_⟩,_),?_,⟨rfl,rfl,rfl,rfl,rfl,rfl,trivial⟩,⟨rfl,rfl,rfl,rfl,rfl,rfl,rfl,rfl,trivial⟩⟩;dsimp only;(refine⟨⟨by omega,by omega⟩,?_,?_⟩<;>first | assumption | omega))
   ·rintro⟨⟨ekind,etick,etenant,ecell,eother,eepoch,esince,etill,en⟩,kk⟩ ⟨hkk,hcell⟩
    refine⟨⟨by decide,rfl,rfl⟩,?_⟩
    simp only at hkk hcell
    refine⟨Ent×Int,fun _=>[],fun y=>match y with | (⟨a1,a2,a3,a4,a5,a6,a7,a8,a9⟩,kk)=>[(0,tapeB 1 zs.length cap kk),(12,.box 104 [.int .i64 a1,.int .i64 a2,.int .i64 a3,.int .i64 a4,.int .i64 a5,.int .i64 a6,.int .i64 a7,.int .i64 a8,.int .i64 a9])],fun y=>(k≤y.2∧y.2≤k+6)∧0≤y.1.cell∧y.1.cell<s.cells.length,?_,?_⟩
    ·refine⟨0,1,cap,zs,_,_,rfl,⟨rfl,rfl⟩,⟨hz,by omega,by omega⟩,⟨_,rfl,by omega,by omega⟩,?_⟩
     rintro _ k3 ⟨b3,rfl,hk3⟩
     refine⟨fun _=>?_,fun _=>?_⟩
     ·refine⟨0,1,cap,zs,_,_,rfl,⟨rfl,rfl⟩,⟨hz,by omega,by omega⟩,⟨_,rfl,by omega,by omega⟩,?_⟩
      rintro _ k4 ⟨_,r4,hnn,rfl,⟨hr4,hk4⟩⟩
      cases hnn
      refine⟨⟨rfl,trivial⟩,?_⟩
      (refine⟨(⟨_,_,_,_,_,_,_,_,_⟩,_),?_,⟨rfl,rfl,rfl,rfl,rfl,rfl,trivial⟩,⟨rfl,rfl,rfl,rfl,rfl,rfl,rfl,rfl,trivial⟩⟩;dsimp only;(refine⟨⟨by omega,by omega⟩,?_,?_⟩<;>first | assumption | omega))
     ·(refine⟨(⟨_,_,_,_,_,_,_,_,_⟩,_),?_,⟨rfl,rfl,rfl,rfl,rfl,rfl,trivial⟩,⟨rfl,rfl,rfl,rfl,rfl,rfl,rfl,rfl,trivial⟩⟩;dsimp only;(refine⟨⟨by omega,by omega⟩,?_,?_⟩<;>first | assumption | omega))
    ·rintro⟨⟨ekind,etick,etenant,ecell,eother,eepoch,esince,etill,en⟩,kk⟩ ⟨hkk,hcell⟩
     refine⟨⟨by decide,rfl,rfl⟩,?_⟩
     simp only at hkk hcell
     refine⟨0,1,cap,zs,_,_,rfl,⟨rfl,rfl⟩,⟨hz,by omega,by omega⟩,⟨_,_,rfl,by omega,by omega,by omega⟩,?_⟩
     rintro _ k3 ⟨_,_,r3,hnn,rfl,hr3,hk3⟩
     cases hnn
     refine⟨⟨rfl,rfl,trivial⟩,?_⟩
     refine⟨⟨Nat.le_refl _,by omega,by omega⟩,?_⟩
     refine⟨Ent×Int,fun _=>[],fun y=>match y with | (⟨a1,a2,a3,a4,a5,a6,a7,a8,a9⟩,kk)=>[(0,tapeB 1 zs.length cap kk),(12,.box 104 [.int .i64 a1,.int .i64 a2,.int .i64 a3,.int .i64 a4,.int .i64 a5,.int .i64 a6,.int .i64 a7,.int .i64 a8,.int .i64 a9])],fun y=>(k≤y.2∧y.2≤k+9)∧0≤y.1.cell∧y.1.cell<s.cells.length,?_,?_⟩
     ·refine⟨0,1,cap,zs,_,_,rfl,⟨rfl,rfl⟩,⟨hz,by omega,by omega⟩,⟨_,rfl,by omega,by omega⟩,?_⟩
      rintro _ k5 ⟨b5,rfl,hk5⟩
      refine⟨fun _=>?_,fun _=>?_⟩
      ·refine⟨Ent×Int,fun _=>[],fun y=>match y with | (⟨a1,a2,a3,a4,a5,a6,a7,a8,a9⟩,kk)=>[(0,tapeB 1 zs.length cap kk),(12,.box 104 [.int .i64 a1,.int .i64 a2,.int .i64 a3,.int .i64 a4,.int .i64 a5,.int .i64 a6,.int .i64 a7,.int .i64 a8,.int .i64 a9])],fun y=>(k≤y.2∧y.2≤k+9)∧0≤y.1.cell∧y.1.cell<s.cells.length,?_,?_⟩
       ·refine⟨?_,?_,?_⟩
        ·refine⟨trivial,?_⟩
         refine⟨?_,?_⟩
         ·refine⟨trivial,?_⟩
          refine⟨0,1,cap,zs,_,_,rfl,⟨rfl,rfl⟩,⟨hz,by omega,by omega⟩,⟨_,rfl,by omega,by omega⟩,?_⟩
          rintro _ k4 ⟨_,r4,hnn,rfl,⟨hr4,hk4⟩⟩
          cases hnn
          refine⟨trivial,?_⟩
          refine⟨trivial,?_⟩
          (refine⟨(⟨_,_,_,_,_,_,_,_,_⟩,_),?_,⟨rfl,rfl,rfl,rfl,rfl,rfl,trivial⟩,⟨rfl,rfl,rfl,rfl,rfl,rfl,rfl,rfl,trivial⟩⟩;dsimp only;(refine⟨⟨by omega,by omega⟩,?_,?_⟩<;>first | assumption | omega))
         ·refine⟨0,1,cap,zs,_,_,rfl,⟨rfl,rfl⟩,⟨hz,by omega,by omega⟩,⟨_,rfl,by omega,by omega⟩,?_⟩
          rintro _ k4 ⟨_,r4,hnn,rfl,⟨hr4,hk4⟩⟩
          cases hnn
          refine⟨trivial,?_⟩
          refine⟨trivial,?_⟩
          refine⟨trivial,?_⟩
          (refine⟨(⟨_,_,_,_,_,_,_,_,_⟩,_),?_,⟨rfl,rfl,rfl,rfl,rfl,rfl,trivial⟩,⟨rfl,rfl,rfl,rfl,rfl,rfl,rfl,rfl,trivial⟩⟩;dsimp only;(refine⟨⟨by omega,by omega⟩,?_,?_⟩<;>first | assumption | omega))
        ·refine⟨trivial,?_⟩
         refine⟨?_,?_⟩
         ·refine⟨trivial,?_⟩
          refine⟨0,1,cap,zs,_,_,rfl,⟨rfl,rfl⟩,⟨hz,by omega,by omega⟩,⟨_,rfl,by omega,by omega⟩,?_⟩
          rintro _ k4 ⟨_,r4,hnn,rfl,⟨hr4,hk4⟩⟩
          cases hnn
          refine⟨trivial,?_⟩
          refine⟨trivial,?_⟩
          (refine⟨(⟨_,_,_,_,_,_,_,_,_⟩,_),?_,⟨rfl,rfl,rfl,rfl,rfl,rfl,trivial⟩,⟨rfl,rfl,rfl,rfl,rfl,rfl,rfl,rfl,trivial⟩⟩;dsimp only;(refine⟨⟨by omega,by omega⟩,?_,?_⟩<;>first | assumption | omega))
         ·refine⟨0,1,cap,zs,_,_,rfl,⟨rfl,rfl⟩,⟨hz,by omega,by omega⟩,⟨_,rfl,by omega,by omega⟩,?_⟩
          rintro _ k4 ⟨_,r4,hnn,rfl,⟨hr4,hk4⟩⟩
          cases hnn
          refine⟨trivial,?_⟩
          refine⟨trivial,?_⟩
          refine⟨trivial,?_⟩
          (refine⟨(⟨_,_,_,_,_,_,_,_,_⟩,_),?_,⟨rfl,rfl,rfl,rfl,rfl,rfl,trivial⟩,⟨rfl,rfl,rfl,rfl,rfl,rfl,rfl,rfl,trivial⟩⟩;dsimp only;(refine⟨⟨by omega,by omega⟩,?_,?_⟩<;>first | assumption | omega))
        ·refine⟨0,1,cap,zs,_,_,rfl,⟨rfl,rfl⟩,⟨hz,by omega,by omega⟩,⟨_,rfl,by omega,by omega⟩,?_⟩
         rintro _ k4 ⟨_,r4,hnn,rfl,⟨hr4,hk4⟩⟩
         cases hnn
         refine⟨trivial,?_⟩
         refine⟨?_,?_⟩
         ·refine⟨trivial,?_⟩
          refine⟨trivial,?_⟩
          refine⟨trivial,?_⟩
          (refine⟨(⟨_,_,_,_,_,_,_,_,_⟩,_),?_,⟨rfl,rfl,rfl,rfl,rfl,rfl,trivial⟩,⟨rfl,rfl,rfl,rfl,rfl,rfl,rfl,rfl,trivial⟩⟩;dsimp only;(refine⟨⟨by omega,by omega⟩,?_,?_⟩<;>first | assumption | omega))
         ·refine⟨trivial,?_⟩
          refine⟨trivial,?_⟩
          refine⟨trivial,?_⟩
          (refine⟨(⟨_,_,_,_,_,_,_,_,_⟩,_),?_,⟨rfl,rfl,rfl,rfl,rfl,rfl,trivial⟩,⟨rfl,rfl,rfl,rfl,rfl,rfl,rfl,rfl,trivial⟩⟩;dsimp only;(refine⟨⟨by omega,by omega⟩,?_,?_⟩<;>first | assumption | omega))
       ·rintro⟨⟨ekind,etick,etenant,ecell,eother,eepoch,esince,etill,en⟩,kk⟩ ⟨hkk,hcell⟩
        refine⟨⟨by decide,rfl,rfl⟩,?_⟩
        simp only at hkk hcell
        (refine⟨(⟨_,_,_,_,_,_,_,_,_⟩,_),?_,⟨rfl,rfl,rfl,rfl,rfl,rfl,trivial⟩,⟨rfl,rfl,rfl,rfl,rfl,rfl,rfl,rfl,trivial⟩⟩;dsimp only;(refine⟨⟨by omega,by omega⟩,?_,?_⟩<;>first | assumption | omega))
      ·(refine⟨(⟨_,_,_,_,_,_,_,_,_⟩,_),?_,⟨rfl,rfl,rfl,rfl,rfl,rfl,trivial⟩,⟨rfl,rfl,rfl,rfl,rfl,rfl,rfl,rfl,trivial⟩⟩;dsimp only;(refine⟨⟨by omega,by omega⟩,?_,?_⟩<;>first | assumption | omega))
     ·rintro⟨⟨ekind,etick,etenant,ecell,eother,eepoch,esince,etill,en⟩,kk⟩ ⟨hkk,hcell⟩
      refine⟨⟨by decide,rfl,rfl⟩,?_⟩
      simp only at hkk hcell
      exact⟨kk,⟨⟨⟨_,_,_,_,_,_,_,_,_⟩,rfl⟩,by omega,by omega⟩,pure_ent ⟨_,_,_,_,_,_,_,_,_⟩,rfl⟩
def preGrant (c:Cfg) (s:St) (args:List Value) (k:Int):Prop:=(CfgV c∧StInv c s)∧∃ e,args=[entV' e]∧(0≤e.tenant∧e.tenant<s.tenants.length)∧(tsAt s e.tenant).placed=true
def ctGrant:CT:=ctGen (fun _ _ _ _=>EntR) preGrant
theorem grantOk:CSound Tryz.prog 84 ctGrant:=genOk (by kernel_rfl) (by
  rintro c s args k ⟨-,e,rfl,-⟩ v hv
  simp at hv
  subst hv
  exact pure_ent e) (by
 rintro args g A cap zs k x c y s w hz hk0 hk1 ⟨⟨hV,hI⟩,e,rfl,h0,h1⟩ ht hc hs
 refine gen_calls ggrFok Tryz.func84 rfl (D:=ggrD) (by kernel_rfl) rfl (fun v hv=>by simp at hv;subst hv;exact pure_ent e) g A cap zs k x c y s w ht hc hs (R:=EntR k) ?_
 exact grant_sx cap zs k _ c _ s e hz ⟨hk0,by omega⟩ hV hI h0 h1)
theorem ints_new {C:Ctx} {ρ:Nat→Pl} {fr:AF} {mem:AM} {nx:Nat} {a:Act} {w w':World} (hs:Sat C ρ fr mem nx a w) {l:List Int} {A:Option Addr} {cp:Nat} (ho:w'.ownsRow w.heap.size 3 1 (.slice A l.length cp) l.length (flat intC l)) (hb:Below w.heap.size w w') :
  Sat C (setPl ρ nx ⟨A,1,l.length,false,noSub⟩) fr ((nx,intRow l)::mem) (nx+1) a w'∧den (setPl ρ nx ⟨A,1,l.length,false,noSub⟩) (slc nx l.length cp)=.slice A l.length cp∧okV (setPl ρ nx ⟨A,1,l.length,false,noSub⟩) (nx+1) (slc nx l.length cp):=by
 have hrd:=Rd.of_own ho
 refine⟨hs.add hb (row_of_rd (enc:=intC) (sz:=1) (fun _=>rfl) (by omega) intC_plain 0 (setPl_same _ _ _) hrd (fun b hb=>hb.2)) ?_ rfl,by simp[den,den2,den1,dA_whole,dS_whole,setPl_same],⟨Nat.lt_succ_self nx,by rw[setPl_same]⟩⟩
 intro g hg
 cases A with
 | none=>simp at hg
 | some ad=>
  simp at hg
  subst hg
  exact (ho.lt _ rfl).1
def ctHomes:CT:=fun vs mem nx K=>∃ N x c t,vs=[cfgV N x c,.int .i64 t]∧keeps mem (cfgM N c)∧CfgV c∧∀ (l:List Int) cp,l.length≤16→K (slc nx l.length cp) ((nx,intRow l)::mem) (nx+1)
theorem homesOk:CSound Tryz.prog 82 ctHomes:=⟨by kernel_rfl,fun {C ρ fr mem nx a w vs K} hc hs hv=>by
 obtain⟨N,x,c,t,rfl,hk,hV,hK⟩:=hc
 rw[show [cfgV N x c,.int .i64 t].map (den ρ)=[.agg (cfgC (cfgX ρ N x) c),.int .i64 t] by rw[List.map_cons,den_cfg];rfl]
 refine (r5Homes_any (cfgX ρ N x) c t w hV (hs.cfg hk (fun b hb _=>hb))).mono ?_
 rintro e w' ⟨A,cp,rfl,ho,hb⟩
 obtain⟨h1,h2,h3⟩:=ints_new hs ho hb
 exact⟨_,_,_,_,by rw[h2],hK _ cp (Nat.le_trans (pickK_len _ _) hV.nc.2),h1,h3,ExtS.set _ _ _⟩⟩
def ctStandbys:CT:=fun vs mem nx K=>∃ N x c t h,vs=[cfgV N x c,.int .i64 t,.int .i64 h]∧keeps mem (cfgM N c)∧CfgV c∧∀ (l:List Int) cp,l.length≤16→K (slc nx l.length cp) ((nx,intRow l)::mem) (nx+1)
theorem standbysOk:CSound Tryz.prog 83 ctStandbys:=⟨by kernel_rfl,fun {C ρ fr mem nx a w vs K} hc hs hv=>by
 obtain⟨N,x,c,t,h,rfl,hk,hV,hK⟩:=hc
 rw[show [cfgV N x c,.int .i64 t,.int .i64 h].map (den ρ)=[.agg (cfgC (cfgX ρ N x) c),.int .i64 t,.int .i64 h] by rw[List.map_cons,den_cfg];rfl]
 refine (r5Standbys_any (cfgX ρ N x) c t h w hV (hs.cfg hk (fun b hb _=>hb))).mono ?_
 rintro e w' ⟨A,cp,rfl,ho,hb⟩
 obtain⟨h1,h2,h3⟩:=ints_new hs ho hb
 exact⟨_,_,_,_,by rw[h2],hK _ cp (Nat.le_trans (pickK_len _ _) hV.nc.2),h1,h3,ExtS.set _ _ _⟩⟩
/-! pick -/
theorem pick_sx (cap cp:Nat) (zs l:List Int) (k:Int) (hz:zs.length≤400) (hk:0≤k∧k≤990000) (hl:l.length≤16) :
  sx tt tpF [] (bodyOf Tryz.f81) (argF 0 [ptr 0,slc 2 l.length cp]) [(0,tapeB 1 zs.length cap k),(1,intRow zs),(2,intRow l)] 3
   (endx tt Tryz.f81.results.toList fun v mem' _=>∃ k',(∃ r,v=.int .i64 r∧k≤k'∧k'≤k+1)∧lk mem' 0=some (tapeB 1 zs.length cap k')):=by
 refine⟨fun _=>?_,fun h0=>?_⟩
 ·exact⟨k,⟨_,rfl,by omega,by omega⟩,rfl⟩
 ·have hpos:(l.length:Int)≠0:=by simpa using h0
  refine⟨0,1,cap,zs,_,_,rfl,⟨rfl,rfl⟩,⟨hz,by omega,by omega⟩,⟨_,rfl,by omega,by omega⟩,?_⟩
  rintro _ k1 ⟨_,r1,hnn,rfl,⟨hr1,hk1⟩⟩
  cases hnn
  refine⟨⟨Nat.le_refl _,by omega,by omega⟩,?_⟩
  exact⟨k1,⟨_,rfl,by omega,by omega⟩,rfl⟩
def ctPick:CT:=fun vs mem nx K=>∃ i r cap zs k j cp l,vs=[ptr i,slc j (l:List Int).length cp]∧(lk mem i=some (tapeB r (zs:List Int).length cap k)∧lk mem r=some (intRow zs)∧lk mem j=some (intRow l))∧(zs.length≤400∧0≤k∧k≤990000)∧l.length≤16∧
 ∀ z k',k≤k'∧k'≤k+1→K (.int .i64 z) ((i,tapeB r zs.length cap k')::mem) nx
theorem pickOk:CSound Tryz.prog 81 ctPick:=⟨by kernel_rfl,fun {C ρ fr mem nx a w vs K} hc hs hv=>by
 obtain⟨i,r,cap,zs,k,j,cp,l,rfl,⟨hi,hr,hj⟩,⟨hz,hk0,hk1⟩,hl,hK⟩:=hc
 obtain⟨g,hA,ht,hok⟩:=hs.tape hi hr
 have hrl:=hs.rd (enc:=intC) (sz:=1) (fun _=>rfl) (by omega) hj (S:=fun b=>b≠g∧b<w.heap.size) (fun b hlt hb=>⟨by rintro rfl;exact hb i _ _ hi (by simp[bno,hA]),hlt⟩)
 let σ:Nat→Pl:=fun q=>match q with | 0=>⟨some ⟨g,0,none⟩,0,0,false,noSub⟩ | 1=>⟨(ρ r).A,1,zs.length,false,noSub⟩ | _=>⟨(ρ j).A,1,l.length,false,noSub⟩
 have one:∀ {l:List Int} {Ar:Option Addr},Rd w (fun b=>b≠g∧b<w.heap.size) Ar (flat intC l)→l.length=0∨Ar.map (·.block)≠some g:=by
  intro l Ar hrd
  by_cases h0:l.length=0
  ·exact .inl h0
  ·obtain⟨b,off,x,hA,hb,-,-⟩:=hrd.row (enc:=intC) (sz:=1) (fun _=>rfl) (by omega) (k:=0) (by omega)
   subst hA
   exact .inr (by simp;exact hb.1)
 have hm:=MemAt.one (ρ:=σ) (nx:=3) (nt:=Tryz.f81.ntmps) (w:=w) (mem:=[(1,intRow zs),(2,intRow l)]) (g:=g) (i:=0) (t:=99) (cs:=[slc 1 zs.length cap,.int .i64 k]) trivial (by omega) rfl
  ⟨g,rfl,by
   have:=ht.blk
   simpa [den1,dA_whole,dS_whole,σ] using this,.inr (by simp),fun v hv=>by
    simp at hv
    rcases hv with rfl | rfl
    ·exact⟨show (1:Nat)<3 by decide,rfl⟩
    ·trivial⟩
  ⟨⟨by omega,rfl,row_of_rd (enc:=intC) (sz:=1) (fun _=>rfl) (by omega) intC_plain 0 rfl ht.row (fun b hb=>hb.2)⟩,⟨by omega,rfl,row_of_rd (enc:=intC) (sz:=1) (fun _=>rfl) (by omega) intC_plain 0 rfl hrl (fun b hb=>hb.2)⟩,trivial⟩ (fun q t sz n el hq=>by
   rcases lk_cons hq with⟨rfl,e⟩ | ⟨_,hq⟩
   ·cases e;exact one ht.row
   rcases lk_cons hq with⟨rfl,e⟩ | ⟨_,hq⟩
   ·cases e;exact one hrl
   ·simp[lk] at hq)
 have hvs:[ptr i,slc j l.length cp].map (den ρ)=[ptr 0,slc 2 l.length cp].map (den σ):=by simp[den,den2,den1,dA_whole,dS_whole,hA,σ]
 rw[hvs]
 refine (calls_sx ttOk tpFok mixed Tryz.func81 rfl (D:=[]) (by kernel_rfl) (vs:=[ptr 0,slc 2 l.length cp]) rfl ⟨rfl,rfl⟩ rfl hm (fun v hv=>?_) (pick_sx cap cp zs l k hz ⟨hk0,hk1⟩ hl)).mono ?_
 ·simp at hv
  rcases hv with rfl | rfl
  ·exact⟨⟨show (0:Nat)<3 by decide,rfl⟩,⟨g,0,rfl⟩,fun k hk=>by cases hk⟩
  ·exact⟨show (2:Nat)<3 by decide,rfl⟩
 ·rintro e w' ⟨v,mem',nx',ρ',rfl,⟨k',⟨z,rfl,hkk⟩,hlk⟩,-,hm'⟩
  have e0:ρ' 0=σ 0:=hm'.low 0 (show (0:Nat)<3 by decide)
  have e1:ρ' 1=σ 1:=hm'.low 1 (show (1:Nat)<3 by decide)
  obtain⟨g',hA',hb,-,-⟩:=hm'.blk 0 _ hlk
  rw[e0] at hA'
  cases hA'
  have hgr:w.grownBy w' (some g):=⟨hm'.rest.os,hm'.rest.tape,hm'.rest.output,hm'.rest.size,fun b hlt hne=>hm'.rest.block b hlt (by simp;intro q;exact hne (by rw[q]))⟩
  refine⟨.int .i64 z,_,nx,ρ,rfl,hK z k' hkk,hs.grownBox (cs':=[slc r zs.length cap,.int .i64 k']) hi hA hgr ?_ ?_,trivial,ExtS.refl _ _⟩
  ·simpa [den1,dA_whole,dS_whole,e1,σ] using hb
  ·intro u hu
   simp at hu
   rcases hu with rfl | rfl
   ·exact hok
   ·trivial⟩
def entryF:FT:=[(35,ctNext),(37,ctYes),(79,ctPlatform),(84,ctGrant),(80,ctNone),(81,ctPick),(82,ctHomes),(83,ctStandbys)]
theorem entryFok:FTok Tryz.prog entryF:=ft_cons nextOk (ft_cons yesOk (ft_cons platformOk (ft_cons grantOk (ft_cons noneOk (ft_cons pickOk (ft_cons homesOk (ft_cons standbysOk ft_nil)))))))
def entryD:List (Nat×DQ):=[
 (1,{ k:=5,L:=[11],pre:=[(0,false),(1,false),(2,false),(3,true),(4,false)] }),
 (19,{ k:=5,L:=[13],pre:=[(0,false),(1,false),(2,false),(3,false),(4,true)] }),
 (23,{ k:=5,L:=[13],pre:=[(0,false),(1,false),(2,false),(3,false),(4,true)] }),
 (1000004,{ k:=13,L:=[1,2,3,4,5,6,7,8,9,10,11,12],sl:=[0,4,5,6] }),(1000032,{ k:=15,L:=[12],sl:=[6,11] })]
def EntR2 (zs:List Int) (k:Int) (v:Value) (k':Int):Prop:=(∃ en,v=entV' en)∧k≤k'∧k'≤k+40∧(zs.length≠0→k<k')
set_option maxRecDepth 100000 in
set_option maxHeartbeats 4000000 in
theorem entry_sx (cap:Nat) (zs:List Int) (k:Int) (x:CfgK) (c:Cfg) (y:StK) (s:St) (hz:zs.length≤400) (hk:0≤k∧k≤880000) (hV:CfgV c) (hI:StInv c s) :
  sx tt entryF entryD (bodyOf Tryz.f51) (argF 0 (ptr 0::cfgV CN0 x c::stV SN0 y s::[])) ((0,tapeB 1 zs.length cap k)::(1,intRow zs)::(cfgM CN0 c++stM SN0 s)) 10
   (endx tt Tryz.f51.results.toList fun v mem' _=>∃ k',EntR2 zs k v k'∧pureV v∧lk mem' 0=some (tapeB 1 zs.length cap k')):=by
 have hnc:=hV.nc
 have hnt:=hV.nt
 have hlt:=hI.lt
 have htk:=hI.tick
 refine⟨0,1,cap,zs,_,_,rfl,⟨rfl,rfl⟩,⟨hz,by omega,by omega⟩,⟨_,rfl,by omega,by omega⟩,?_⟩
 rintro _ k1 ⟨_,r1,hnn,rfl,⟨hr1,hk1⟩⟩
 cases hnn
 refine⟨⟨rfl,trivial⟩,?_⟩
 refine⟨Int×Int,fun y=>match y with | (tk,kk)=>[(7,.int .i64 tk)],fun y=>match y with | (tk,kk)=>[(0,tapeB 1 zs.length cap kk)],fun y=>(0≤y.1∧y.1≤2147483648)∧k≤y.2∧y.2≤k+2∧(zs.length≠0→k<y.2),?_,?_⟩
 ·refine⟨0,1,cap,zs,_,_,rfl,⟨rfl,rfl⟩,⟨hz,by omega,by omega⟩,⟨_,rfl,by omega,by omega⟩,?_⟩
  rintro _ k2 ⟨b2,rfl,hk2⟩
  refine⟨fun _=>?_,fun _=>?_⟩
  ·(refine⟨(_,_),?_,⟨rfl,rfl,rfl,rfl,rfl,trivial⟩,⟨rfl,rfl,rfl,rfl,rfl,rfl,rfl,rfl,rfl,rfl,rfl,rfl,rfl,trivial⟩⟩;dsimp only;(split<;>(try rw[wrapi (by omega)] at *)<;>omega))
  ·(refine⟨(_,_),?_,⟨rfl,rfl,rfl,rfl,rfl,trivial⟩,⟨rfl,rfl,rfl,rfl,rfl,rfl,rfl,rfl,rfl,rfl,rfl,rfl,rfl,trivial⟩⟩;dsimp only;(rw[wrapi (by omega)];omega))
 ·rintro⟨tk,kk⟩ ⟨htk,hkk⟩
  refine⟨⟨by decide,rfl,rfl⟩,?_⟩
  dsimp only at htk hkk
  refine⟨fun h0=>?_,fun h0=>?_⟩
  ·refine⟨fun _=>?_,fun h=>nomatch h⟩
   refine⟨0,1,cap,zs,_,CN0,x,c,SN0,y,s,[.int .i64 tk],rfl,⟨rfl,rfl⟩,⟨rfl,rfl,rfl,rfl,rfl,rfl,trivial⟩,⟨rfl,rfl,trivial⟩,⟨hz,by omega,by omega⟩,⟨⟨hV,hI⟩,tk,rfl,htk.1,htk.2⟩,?_⟩
   rintro _ k9 ⟨⟨en,rfl⟩,hk9⟩
   exact⟨k9,⟨⟨en,rfl⟩,by omega,by omega,by omega⟩,pure_ent en,rfl⟩
  ·have hpos:(c.tenants.length:Int)≠0:=by simpa using h0
   refine⟨0,1,cap,zs,_,_,rfl,⟨rfl,rfl⟩,⟨hz,by omega,by omega⟩,⟨_,rfl,by omega,by omega⟩,?_⟩
   rintro _ k8 ⟨b8,rfl,hk8⟩
   refine⟨fun _=>?_,fun _=>?_⟩
   ·refine⟨0,1,cap,zs,_,CN0,x,c,SN0,y,s,[.int .i64 tk],rfl,⟨rfl,rfl⟩,⟨rfl,rfl,rfl,rfl,rfl,rfl,trivial⟩,⟨rfl,rfl,trivial⟩,⟨hz,by omega,by omega⟩,⟨⟨hV,hI⟩,tk,rfl,htk.1,htk.2⟩,?_⟩
    rintro _ k9 ⟨⟨en,rfl⟩,hk9⟩
    exact⟨k9,⟨⟨en,rfl⟩,by omega,by omega,by omega⟩,pure_ent en,rfl⟩
   ·refine⟨0,1,cap,zs,_,_,rfl,⟨rfl,rfl⟩,⟨hz,by omega,by omega⟩,⟨_,rfl,by omega,by omega⟩,?_⟩
    rintro _ k3 ⟨_,r3,hnn,rfl,⟨hr3,hk3⟩⟩
    cases hnn
    refine⟨⟨Nat.le_refl _,by omega,by omega⟩,?_⟩
    obtain⟨t,htd⟩:∃ t,t=s.tenants.getD r3.toNat default:=⟨_,rfl⟩
    refine⟨fun hpl=>?_,fun hpl=>?_⟩
    ·refine⟨_,_,rfl,?_⟩
     refine⟨CN0,x,c,_,rfl,⟨rfl,rfl,rfl,rfl,rfl,rfl,trivial⟩,hV,?_⟩
     intro lH cpH hlH
     refine⟨0,1,cap,zs,_,_,_,_,rfl,⟨rfl,rfl,rfl⟩,⟨hz,by omega,by omega⟩,by assumption,?_⟩
     intro v4 k4 hk4
     refine⟨CN0,x,c,_,_,rfl,⟨rfl,rfl,rfl,rfl,rfl,rfl,trivial⟩,hV,?_⟩
     intro lS cpS hlS
     refine⟨0,1,cap,zs,_,_,_,_,rfl,⟨rfl,rfl,rfl⟩,⟨hz,by omega,by omega⟩,by assumption,?_⟩
     intro v5 k5 hk5
     exact⟨k5,⟨⟨⟨_,_,_,_,_,_,_,_,_⟩,rfl⟩,by omega,by omega,by omega⟩,pure_ent ⟨_,_,_,_,_,_,_,_,_⟩,rfl⟩
    ·replace hpl:(tsAt s r3).placed=true:=by unfold tsAt;simpa using hpl
     refine⟨_,_,rfl,?_⟩
     refine⟨Ent×Int,fun _=>[],fun y=>match y with | (⟨a1,a2,a3,a4,a5,a6,a7,a8,a9⟩,kk)=>[(0,tapeB 1 zs.length cap kk),(14,.box 104 [.int .i64 a1,.int .i64 a2,.int .i64 a3,.int .i64 a4,.int .i64 a5,.int .i64 a6,.int .i64 a7,.int .i64 a8,.int .i64 a9])],fun y=>k≤y.2∧y.2≤k+10∧(zs.length≠0→k<y.2),?_,?_⟩
     ·refine⟨0,1,cap,zs,_,_,rfl,⟨rfl,rfl⟩,⟨hz,by omega,by omega⟩,⟨_,rfl,by omega,by omega⟩,?_⟩
      rintro _ k6 ⟨_,r6,hnn,rfl,⟨hr6,hk6⟩⟩
      cases hnn
      refine⟨fun _=>?_,fun _=>?_⟩
      ·refine⟨⟨rfl,trivial⟩,?_⟩
       (refine⟨(⟨_,_,_,_,_,_,_,_,_⟩,_),?_,⟨rfl,rfl,trivial⟩,⟨rfl,rfl,rfl,trivial⟩⟩;dsimp only;omega)
      refine⟨fun _=>?_,fun _=>?_⟩
      ·refine⟨CN0,x,c,_,_,rfl,⟨rfl,rfl,rfl,rfl,rfl,rfl,trivial⟩,hV,?_⟩
       intro lS cpS hlS
       refine⟨0,1,cap,zs,_,_,_,_,rfl,⟨rfl,rfl,rfl⟩,⟨hz,by omega,by omega⟩,by assumption,?_⟩
       intro v7 k7 hk7
       (refine⟨(⟨_,_,_,_,_,_,_,_,_⟩,_),?_,⟨rfl,rfl,trivial⟩,⟨rfl,rfl,rfl,trivial⟩⟩;dsimp only;omega)
      refine⟨fun _=>?_,fun _=>?_⟩
      ·refine⟨⟨rfl,trivial⟩,?_⟩
       (refine⟨(⟨_,_,_,_,_,_,_,_,_⟩,_),?_,⟨rfl,rfl,trivial⟩,⟨rfl,rfl,rfl,trivial⟩⟩;dsimp only;omega)
      refine⟨fun _=>?_,fun _=>?_⟩
      ·refine⟨CN0,x,c,_,rfl,⟨rfl,rfl,rfl,rfl,rfl,rfl,trivial⟩,hV,?_⟩
       intro lH cpH hlH
       refine⟨0,1,cap,zs,_,_,_,_,rfl,⟨rfl,rfl,rfl⟩,⟨hz,by omega,by omega⟩,by assumption,?_⟩
       intro v7 k7 hk7
       (refine⟨(⟨_,_,_,_,_,_,_,_,_⟩,_),?_,⟨rfl,rfl,trivial⟩,⟨rfl,rfl,rfl,trivial⟩⟩;dsimp only;omega)
      refine⟨fun _=>?_,fun _=>?_⟩
      ·(refine⟨(⟨_,_,_,_,_,_,_,_,_⟩,_),?_,⟨rfl,rfl,trivial⟩,⟨rfl,rfl,rfl,trivial⟩⟩;dsimp only;omega)
      refine⟨fun _=>?_,fun _=>?_⟩
      ·refine⟨fun _=>?_,fun _=>?_⟩
       ·(refine⟨(⟨_,_,_,_,_,_,_,_,_⟩,_),?_,⟨rfl,rfl,trivial⟩,⟨rfl,rfl,rfl,trivial⟩⟩;dsimp only;omega)
       ·(refine⟨(⟨_,_,_,_,_,_,_,_,_⟩,_),?_,⟨rfl,rfl,trivial⟩,⟨rfl,rfl,rfl,trivial⟩⟩;dsimp only;omega)
      refine⟨0,1,cap,zs,_,CN0,x,c,SN0,y,s,[entV' ⟨2,tk,r3,-1,-1,0,0,0,0⟩],rfl,⟨rfl,rfl⟩,⟨rfl,rfl,rfl,rfl,rfl,rfl,trivial⟩,⟨rfl,rfl,trivial⟩,⟨hz,by omega,by omega⟩,⟨⟨hV,hI⟩,⟨2,tk,r3,-1,-1,0,0,0,0⟩,rfl,⟨hr3.1,by show r3<_;omega⟩,hpl⟩,?_⟩
      rintro _ k9 ⟨⟨en,rfl⟩,hk9⟩
      exact⟨k9,⟨⟨en,rfl⟩,by omega,by omega,by omega⟩,pure_ent en,rfl⟩
     ·rintro⟨⟨ekind,etick,etenant,ecell,eother,eepoch,esince,etill,en⟩,k8⟩ hk8
      refine⟨⟨by decide,rfl,rfl⟩,?_⟩
      dsimp only at hk8
      exact⟨k8,⟨⟨⟨_,_,_,_,_,_,_,_,_⟩,rfl⟩,by omega,by omega,by omega⟩,pure_ent ⟨_,_,_,_,_,_,_,_,_⟩,rfl⟩
def ctEntry:CT:=ctGen (fun zs _ _ _=>EntR2 zs) fun c s args k=>(CfgV c∧StInv c s∧k≤880000)∧args=[]
theorem entryOk:CSound Tryz.prog 51 ctEntry:=genOk (by kernel_rfl) (by
  rintro c s args k ⟨-,rfl⟩ v hv
  cases hv) (by
 rintro args g A cap zs k x c y s w hz hk0 hk1 ⟨⟨hV,hI,hk2⟩,rfl⟩ ht hc hs
 refine gen_calls entryFok Tryz.func51 rfl (D:=entryD) (by kernel_rfl) rfl (fun v hv=>by cases hv) g A cap zs k x c y s w ht hc hs (R:=EntR2 zs k) ?_
 exact entry_sx cap zs k _ c _ s hz ⟨hk0,hk2⟩ hV hI)
/-! make.Log: entries that are accepted one after the other. -/
def LenCap (n:Nat) (v:Value):Prop:=∃ A m cap,v=.slice A m cap∧n≤cap
def lgF:FT:=[(33,ctTapeNew),(48,ctNewR),(50,ctMore),(51,ctEntry),(49,ctApplyR)]
theorem lgFok:FTok Tryz.prog lgF:=ft_cons tapeNewOk (ft_cons newROk (ft_cons moreOk (ft_cons entryOk (ft_cons applyROk ft_nil))))
def lgD:List (Nat×DQ):=[(3000004,{ k:=21,L:=[0,1,2,3,4,5,6,7,8,9,10,11,12,13],sl:=[2,4,7,8] })]
set_option maxRecDepth 100000 in
set_option maxHeartbeats 8000000 in
theorem log_sx (d:UD) (x:CfgK) (cap0:Nat) (n:Int) (hV:CfgV d.c) (hz:d.l0.length≤400) (hn:0≤n∧n≤1000) :
  sx tt lgF lgD (bodyOf Tryz.f40) (argF 0 [slc 0 d.l0.length cap0,cfgV CNu x d.c,.int .i64 n]) (uniM d) 13 (endx tt Tryz.f40.results.toList fun v mem' _=>∃ es s,Run d.c (stNew d.c) es s∧(es.length:Int)≤n∧SlR mem' 9 entC default es v∧LenCap es.length v):=by
 have hnt:=hV.nt
 have hnc:=hV.nc
 refine⟨0,cap0,d.l0,rfl,rfl,by omega,?_⟩
 refine⟨CNu,x,d.c,rfl,kp_,⟨by omega,by omega,by omega⟩,?_⟩
 intro y0
 refine⟨St×StK×Int×List Ent×Option (Nat×(Nat→List Value)),fun q=>match q with | (s,y,k,es,none)=>[(9,zs0)] | (s,y,k,es,some (cap,el))=>[(9,slc 20 es.length cap)],fun q=>match q with | (s,y,k,es,none)=>[(14,tapeB 0 d.l0.length cap0 k),(17,.box 65 [.int .i64 s.tick,.int .i64 s.count,slc 18 s.tenants.length y.ct,slc 19 s.cells.length y.cc,.int .i64 s.proven,.int .i64 s.evac,.int .i64 s.low,.int .i64 s.high]),(18,rowOfL 500000 12 tsC default s.tenants),(19,rowOfL 500000 4 csC default s.cells)] | (s,y,k,es,some (cap,el))=>(20,.row (1000000+104) 9 cap el)::[(14,tapeB 0 d.l0.length cap0 k),(17,.box 65 [.int .i64 s.tick,.int .i64 s.count,slc 18 s.tenants.length y.ct,slc 19 s.cells.length y.cc,.int .i64 s.proven,.int .i64 s.evac,.int .i64 s.low,.int .i64 s.high]),(18,rowOfL 500000 12 tsC default s.tenants),(19,rowOfL 500000 4 csC default s.cells)],fun q=>match q with | (s,y,k,es,o)=>Run d.c (stNew d.c) es s∧(0≤k∧k≤445)∧(es.length:Int)≤n∧match o with | none=>es=[] | some (cap,el)=>es.length≤cap∧∀ j,j<es.length→el j=entC (es.getD j default),fun q=>match q with | (s,y,k,es,o)=>(1000-k).toNat,⟨(stNew d.c,y0,0,[],none),[(18,16),(19,15)],⟨.nil _,by omega,by simpa using hn.1,rfl⟩,⟨rfl,rfl⟩,kp_,kp_⟩,?_⟩
 rintro⟨s,y,k,es,(_ | ⟨cap,el⟩)⟩ ⟨hR,hk,hn2,ho⟩
 ·refine⟨⟨by decide,rfl,rfl⟩,?_⟩
  refine⟨fun hc=>?_,fun hc=>?_⟩
  ·refine⟨14,0,cap0,d.l0,_,[],rfl,⟨rfl,rfl⟩,⟨by omega,by omega,by omega⟩,rfl,?_⟩
   rintro _ k1 ⟨b1,rfl,rfl,hb1⟩
   refine⟨fun hb=>?_,fun hb=>?_⟩
   ·have hkl:=hb1 hb
    have hlen:(es.length:Int)<n:=by rw[show es=[] from ho];exact of_decide_eq_true hc
    clear hb1
    have hI:=(hR.rinv hV (.new hV)).inv
    have hcp:=(hR.rinv hV (.new hV)).cap
    refine⟨14,0,cap0,d.l0,_,CNu,x,d.c,⟨18,19,500000⟩,y,s,[],rfl,⟨rfl,rfl⟩,kp_,kp_,⟨by omega,by omega,by omega⟩,⟨⟨hV,hI,by omega⟩,rfl⟩,?_⟩
    rintro _ k2 ⟨⟨en,rfl⟩,hk2a,hk2b,hk2c⟩
    refine⟨CNu,x,d.c,⟨18,19,500000⟩,y,s,en,rfl,⟨kp_,.list rfl,.list rfl⟩,⟨hV,hI⟩,?_⟩
    intro y2
    rw[applyRP hV hI hcp]
    refine⟨fun he=>?_,fun he=>?_⟩
    ·have he2:applyP d.c s en=((applyP d.c s en).1,0):=by
      have q:(applyP d.c s en).2=0:=by simpa using he
      rw[← q]
     have he0:es=[]:=ho
     subst he0
     refine⟨⟨Nat.le_refl _,fun j hj=>by match j,hj with | 0,_=>rfl⟩,?_⟩
     refine⟨fun h=>absurd h (by decide),fun _=>⟨by decide,fun cap2 el2 ⟨hc2,_⟩ hel2=>?_⟩⟩
     refine⟨((applyP d.c s en).1,y2,k2,[en],some (cap2,el2)),[(18,23),(19,22),(20,26)],?_,⟨rfl,rfl⟩,kp_,kp_⟩
     dsimp only
     refine⟨⟨hR.snoc he2,by omega,by simp;omega,hc2,fun j hj=>?_⟩,by omega⟩
     obtain rfl:j=0:=by simpa using hj
     exact hel2 0 (by omega)
    ·refine⟨(s,y,k2,es,none),[],?_,⟨rfl,rfl⟩,kp_,kp_⟩
     dsimp only
     exact⟨⟨hR,by omega,hn2,ho⟩,by omega⟩
   ·exact⟨es,s,hR,hn2,.inl ⟨rfl,ho⟩,none,0,0,rfl,(by rw[ho];decide)⟩
  ·refine⟨fun h=>Bool.noConfusion h,fun _=>?_⟩
   exact⟨es,s,hR,hn2,.inl ⟨rfl,ho⟩,none,0,0,rfl,(by rw[ho];decide)⟩
 ·refine⟨⟨by decide,rfl,rfl⟩,?_⟩
  refine⟨fun hc=>?_,fun hc=>?_⟩
  ·refine⟨14,0,cap0,d.l0,_,[],rfl,⟨rfl,rfl⟩,⟨by omega,by omega,by omega⟩,rfl,?_⟩
   rintro _ k1 ⟨b1,rfl,rfl,hb1⟩
   refine⟨fun hb=>?_,fun hb=>?_⟩
   ·have hkl:=hb1 hb
    have hlen:(es.length:Int)<n:=of_decide_eq_true hc
    clear hb1
    have hI:=(hR.rinv hV (.new hV)).inv
    have hcp:=(hR.rinv hV (.new hV)).cap
    refine⟨14,0,cap0,d.l0,_,CNu,x,d.c,⟨18,19,500000⟩,y,s,[],rfl,⟨rfl,rfl⟩,kp_,kp_,⟨by omega,by omega,by omega⟩,⟨⟨hV,hI,by omega⟩,rfl⟩,?_⟩
    rintro _ k2 ⟨⟨en,rfl⟩,hk2a,hk2b,hk2c⟩
    refine⟨CNu,x,d.c,⟨18,19,500000⟩,y,s,en,rfl,⟨kp_,.list rfl,.list rfl⟩,⟨hV,hI⟩,?_⟩
    intro y2
    rw[applyRP hV hI hcp]
    refine⟨fun he=>?_,fun he=>?_⟩
    ·have he2:applyP d.c s en=((applyP d.c s en).1,0):=by
      have q:(applyP d.c s en).2=0:=by simpa using he
      rw[← q]
     refine⟨⟨Nat.le_refl _,fun j hj=>by match j,hj with | 0,_=>rfl⟩,?_⟩
     refine⟨⟨rfl,ho.1⟩,fun hin el2 ⟨g1,_⟩ g2=>?_,fun hgt=>⟨by show (es.length+1) * 72≤140737488355328;omega,fun cap2 el2 ⟨hc2,_⟩ g1 g2=>?_⟩⟩
     ·rw[show es.length+1=(es++[en]).length by simp]
      refine⟨((applyP d.c s en).1,y2,k2,es++[en],some (cap,el2)),[(18,23),(19,22)],?_,⟨rfl,rfl⟩,kp_,kp_⟩
      dsimp only
      refine⟨⟨hR.snoc he2,by omega,by simp;omega,by first | exact hc2 | (simp;omega),fun j hj=>?_⟩,by omega⟩
      by_cases hjn:j<es.length
      ·rw[g1 j hjn,ho.2 j hjn,List.getD_eq_getElem?_getD,List.getD_eq_getElem?_getD,List.getElem?_append_left hjn]
      ·obtain rfl:j=es.length:=by simp at hj;omega
       have:=g2 0 (by omega)
       rw[Nat.add_zero] at this
       rw[this,List.getD_eq_getElem?_getD,List.getElem?_append_right (Nat.le_refl _),Nat.sub_self]
       rfl
     ·rw[show es.length+1=(es++[en]).length by simp] at hc2 ⊢
      refine⟨((applyP d.c s en).1,y2,k2,es++[en],some (cap2,el2)),[(18,23),(19,22),(20,26)],?_,⟨rfl,rfl⟩,kp_,kp_⟩
      dsimp only
      refine⟨⟨hR.snoc he2,by omega,by simp;omega,by first | exact hc2 | (simp;omega),fun j hj=>?_⟩,by omega⟩
      by_cases hjn:j<es.length
      ·rw[g1 j hjn,ho.2 j hjn,List.getD_eq_getElem?_getD,List.getD_eq_getElem?_getD,List.getElem?_append_left hjn]
      ·obtain rfl:j=es.length:=by simp at hj;omega
       have:=g2 0 (by omega)
       rw[Nat.add_zero] at this
       rw[this,List.getD_eq_getElem?_getD,List.getElem?_append_right (Nat.le_refl _),Nat.sub_self]
       rfl
    ·refine⟨(s,y,k2,es,some (cap,el)),[],?_,⟨rfl,rfl⟩,kp_,kp_⟩
     dsimp only
     exact⟨⟨hR,by omega,hn2,ho⟩,by omega⟩
   ·exact⟨es,s,hR,hn2,.inr ⟨20,_,_,cap,el,rfl,rfl,rfl,ho.1,ho.2⟩,_,_,cap,rfl,ho.1⟩
  ·refine⟨fun h=>Bool.noConfusion h,fun _=>?_⟩
   exact⟨es,s,hR,hn2,.inr ⟨20,_,_,cap,el,rfl,rfl,rfl,ho.1,ho.2⟩,_,_,cap,rfl,ho.1⟩
theorem mkLog_calls (x:CfgA) (c:Cfg) (A0:Option Addr) (cap0:Nat) (l:List Int) (n:Int) (w:World) (hV:CfgV c) (hz:l.length≤400) (hn:0≤n∧n≤1000) (hc:CfgOk w (·<w.heap.size) x c) (hr:Rd w (·<w.heap.size) A0 (flat intC l)) :
  Calls Tryz.prog 40 #[.slice A0 l.length cap0,.agg (cfgC x c),.int .i64 n] w fun e w'=>∃ es s A cap,e=.returned (.slice A (es:List Ent).length cap)∧Run c (stNew c) es s∧(es.length:Int)≤n∧es.length≤cap∧Rd w' (fun b=>w.heap.size≤b∧b<w'.heap.size) A (flat entC es)∧Below w.heap.size w w':=by
 have:=uni_calls ttOk (lgFok.i _) Tryz.func40 rfl (D:=lgD) (by kernel_rfl) (vs:=[slc 0 l.length cap0,cfgV CNu (ck x) c,.int .i64 n]) rfl { a0:=A0,x:=x } { l0:=l,c:=c } w { r0:=hr,c:=hc } (fun v hv=>by
  simp only[List.mem_cons,List.not_mem_nil,or_false] at hv
  rcases hv with rfl | rfl | rfl
  ·exact⟨show (0:Nat)<13 by decide,rfl⟩
  ·exact upl_cfg_ok { a0:=A0,x:=x } { l0:=l,c:=c }
  ·trivial) (log_sx { l0:=l,c:=c } (ck x) cap0 n hV hz hn)
 rw[List.map_cons,List.map_cons] at this
 have e0:=upl_cfg { a0:=A0,x:=x } { l0:=l,c:=c }
 dsimp only at e0 this
 rw[e0] at this
 refine this.mono ?_
 rintro e w' ⟨v,mem',nx',ρ',rfl,⟨es,s,hR,hen,hS,A1,m1,cap1,rfl,hcap⟩,hv,hm',hb⟩
 obtain⟨A,cp,e1,hr'⟩:=hm'.slR (enc:=entC) (sz:=9) (fun _=>rfl) (by omega) hS
 have e2:den ρ' (.slice A1 m1 cap1)=.slice A es.length cp:=e1
 have e3:cap1=cp:=by cases A1<;>simp[den1] at e1<;>exact e1.2.2
 exact⟨es,s,A,cp,by rw[e2],hR,hen,e3 ▸ hcap,hr',hb⟩
def ctLog:CT:=fun vs mem nx K=>∃ N x c r cap l n,vs=[slc r (l:List Int).length cap,cfgV N x c,.int .i64 n]∧(keeps mem (cfgM N c)∧HasRow mem r 1 intC 0 l)∧(CfgV c∧l.length≤400∧0≤n∧n≤1000)∧∀ es s cap',Run c (stNew c) es s→(es.length:Int)≤n→es.length≤cap'→K (slc nx es.length cap') ((nx,rowOfL 500000 9 entC default es)::mem) (nx+1)
theorem logOk:CSound Tryz.prog 40 ctLog:=⟨by kernel_rfl,fun {C ρ fr mem nx a w vs K} hc hs hv=>by
 obtain⟨N,x,c,r,cap,l,n,rfl,⟨hk,hr⟩,⟨hV,hl,hn⟩,hK⟩:=hc
 have e0:([slc r l.length cap,cfgV N x c,.int .i64 n].map (den ρ)).toArray=#[.slice (ρ r).A l.length cap,.agg (cfgC (cfgX ρ N x) c),.int .i64 n]:=by
  rw[List.map_cons,List.map_cons,den_cfg]
  rfl
 rw[e0]
 refine (mkLog_calls (cfgX ρ N x) c (ρ r).A cap l n w hV hl hn (hs.cfg hk (fun b h _=>h)) (hs.hasRd (enc:=intC) (sz:=1) (fun _=>rfl) (by omega) hr)).mono ?_
 rintro e w' ⟨es,s,A,cp,rfl,hR,hen,hcp,hrd,hb⟩
 obtain⟨q1,-⟩:=(hs.later hb).addList hs.frB hs.rest.size (enc:=entC) (sz:=9) (fun _=>rfl) (by omega) entC_plain default (t:=500000) rfl hrd
 have q2:setPl ρ nx ⟨A,9,es.length,false,noSub⟩ nx=⟨A,9,es.length,false,noSub⟩:=setPl_same _ _ _
 refine⟨slc nx es.length cp,_,_,_,?_,hK es s cp hR hen hcp,q1,?_,fun i hi=>setPl_lt _ _ hi,by omega⟩
 ·show Ending.returned (.slice A es.length cp)=.returned (.slice (setPl ρ nx ⟨A,9,es.length,false,noSub⟩ nx).A es.length cp)
  rw[q2]
 ·exact⟨show nx<nx+1 by omega,by rw[q2]⟩⟩
/-! make.State: the state of a log. -/
def msF:FT:=[(40,ctLog),(39,ctFoldR)]
theorem msFok:FTok Tryz.prog msF:=ft_cons logOk (ft_cons foldROk ft_nil)
def msD:List (Nat×DQ):=[(1,{ k:=13,L:=[13],A:=[10],pre:=[(0,false),(1,false),(2,false),(3,false),(4,true),(5,true),(6,false),(7,false),(8,false),(9,false)],post:=[(11,true),(12,false)] })]
set_option maxRecDepth 100000 in
set_option maxHeartbeats 8000000 in
theorem mkState_sx (d:UD) (x:CfgK) (cap0:Nat) (n:Int) (hV:CfgV d.c) (hz:d.l0.length≤400) (hn:0≤n∧n≤1000) :
  sx tt msF msD (bodyOf Tryz.f20) (argF 0 [slc 0 d.l0.length cap0,cfgV CNu x d.c,.int .i64 n]) (uniM d) 13 (endx tt Tryz.f20.results.toList fun v mem' _=>∃ es s y,Run d.c (stNew d.c) es s∧(es.length:Int)≤n∧v=stV ⟨18,17,500000⟩ y s∧keeps mem' (stM ⟨18,17,500000⟩ s)):=by
 have hnt:=hV.nt
 have hnc:=hV.nc
 refine⟨CNu,x,d.c,0,cap0,d.l0,n,rfl,⟨kp_,?_⟩,⟨hV,hz,hn⟩,?_⟩
 ·exact⟨_,_,_,rfl,Nat.le_refl _,fun k hk=>rfl⟩
 intro es s cap2 hR hen hcp
 refine⟨kp_,?_⟩
 refine⟨CNu,x,d.c,16,cap2,es,rfl,⟨kp_,⟨_,_,_,rfl,Nat.le_refl _,fun k hk=>rfl⟩⟩,⟨hV,by omega⟩,?_⟩
 intro y
 rw[hR.foldC]
 refine⟨kp_,?_⟩
 refine⟨kp_,?_⟩
 exact⟨es,s,y,hR,hen,rfl,kp_⟩
theorem mkState_calls (x:CfgA) (c:Cfg) (A0:Option Addr) (cap0:Nat) (l:List Int) (n:Int) (w:World) (hV:CfgV c) (hz:l.length≤400) (hn:0≤n∧n≤1000) (hc:CfgOk w (·<w.heap.size) x c) (hr:Rd w (·<w.heap.size) A0 (flat intC l)) :
  Calls Tryz.prog 20 #[.slice A0 l.length cap0,.agg (cfgC x c),.int .i64 n] w fun e w'=>∃ es s y,e=.returned (.agg (stC y s))∧Run c (stNew c) es s∧(es.length:Int)≤n∧StOk w' (fun b=>w.heap.size≤b∧b<w'.heap.size) y s∧Below w.heap.size w w':=by
 have:=uni_calls ttOk (msFok.i _) Tryz.func20 rfl (D:=msD) (by kernel_rfl) (vs:=[slc 0 l.length cap0,cfgV CNu (ck x) c,.int .i64 n]) rfl { a0:=A0,x:=x } { l0:=l,c:=c } w { r0:=hr,c:=hc } (fun v hv=>by
  simp only[List.mem_cons,List.not_mem_nil,or_false] at hv
  rcases hv with rfl | rfl | rfl
  ·exact⟨show (0:Nat)<13 by decide,rfl⟩
  ·exact upl_cfg_ok { a0:=A0,x:=x } { l0:=l,c:=c }
  ·trivial) (mkState_sx { l0:=l,c:=c } (ck x) cap0 n hV hz hn)
 rw[List.map_cons,List.map_cons] at this
 have e0:=upl_cfg { a0:=A0,x:=x } { l0:=l,c:=c }
 dsimp only at e0 this
 rw[e0] at this
 refine this.mono ?_
 rintro e w' ⟨v,mem',nx',ρ',rfl,⟨es,s,y,hR,hen,rfl,k1,k2,-⟩,hv,hm',hb⟩
 refine⟨es,s,⟨(ρ' 18).A,y.ct,(ρ' 17).A,y.cc⟩,?_,hR,hen,⟨?_,?_⟩,hb⟩
 ·rw[den_st]
  rfl
 ·exact (hm'.blk 18 _ k1).fresh (enc:=tsC) default rfl rfl (fun k hk=>rfl) (fun _=>rfl) (by omega)
 ·exact (hm'.blk 17 _ k2).fresh (enc:=csC) default rfl rfl (fun k hk=>rfl) (fun _=>rfl) (by omega)
def ctState:CT:=fun vs mem nx K=>∃ N x c r cap l n,vs=[slc r (l:List Int).length cap,cfgV N x c,.int .i64 n]∧(keeps mem (cfgM N c)∧HasRow mem r 1 intC 0 l)∧(CfgV c∧l.length≤400∧0≤n∧n≤1000)∧∀ es s y,Run c (stNew c) es s→(es.length:Int)≤n→K (stV ⟨nx+1,nx,500000⟩ y s) (stM ⟨nx+1,nx,500000⟩ s++mem) (nx+2)
theorem stateOk:CSound Tryz.prog 20 ctState:=⟨by kernel_rfl,fun {C ρ fr mem nx a w vs K} hc hs hv=>by
 obtain⟨N,x,c,r,cap,l,n,rfl,⟨hk,hr⟩,⟨hV,hl,hn⟩,hK⟩:=hc
 have e0:([slc r l.length cap,cfgV N x c,.int .i64 n].map (den ρ)).toArray=#[.slice (ρ r).A l.length cap,.agg (cfgC (cfgX ρ N x) c),.int .i64 n]:=by
  rw[List.map_cons,List.map_cons,den_cfg]
  rfl
 rw[e0]
 refine (mkState_calls (cfgX ρ N x) c (ρ r).A cap l n w hV hl hn (hs.cfg hk (fun b h _=>h)) (hs.hasRd (enc:=intC) (sz:=1) (fun _=>rfl) (by omega) hr)).mono ?_
 rintro e w' ⟨es,s,y,rfl,hR,hen,hst,hb⟩
 obtain⟨q1,q2,q3,q4⟩:=hs.addSt hb hst
 exact⟨_,_,_,_,by rw[q2],hK es s ⟨y.ct,y.cc⟩ hR hen,q1,q3,q4⟩⟩
theorem mkLight_below (A:Option Addr) (n cp:Nat) (w:World) (hn:n≤maxLen):Calls Tryz.prog 4 #[.slice A n cp] w fun r w'=>r=.returned (.bool (decide (n≤200)))∧Below w.heap.size w w':=by
 refine (mkLight_any A n cp w hn).mono ?_
 rintro e w' ⟨h,rfl⟩
 exact⟨h,Below.refl _ _⟩
def ctLight:CT:=fun vs mem nx K=>∃ Mz0 xz0 z0,vs=[slc Mz0 (z0:List Int).length xz0]∧(lk mem Mz0=some (intRow z0))∧(z0.length≤maxLen)∧K (.bool (decide (z0.length≤200))) mem nx
theorem lightOk:CSound Tryz.prog 4 ctLight:=(ptsOk (R:=fun l z=>∃ z0,l=[.li z0]∧z=.bool (decide (z0.length≤200))) (pre:=fun l=>∃ z0,l=[.li z0]∧(z0.length≤maxLen)) (by kernel_rfl) (by
 rintro ps w ⟨z0,hps,hpre⟩ hok
 obtain⟨xz0,yz0,ps0,rfl,hps0⟩:=dt_l hps
 obtain rfl:=dt_nil hps0
 have hpz0:=hok (.li xz0 yz0 z0) (by simp)
 refine (mkLight_below xz0 z0.length yz0 w hpre).mono ?_
 rintro e w' ⟨rfl,hb⟩
 exact⟨_,⟨z0,rfl,rfl⟩,trivial,rfl,hb⟩)).mono (by
 rintro vs mem nx K ⟨Mz0,xz0,z0,rfl,hk,hpre,hK⟩
 exact⟨[.li Mz0 xz0 z0],rfl,⟨hk,trivial⟩,⟨_,rfl,hpre⟩,by rintro z ⟨z0',hl,hz⟩;cases hl;subst hz;exact hK⟩)
end Go.Proofs.YtbmlgcjoeeejbaaGreat
namespace Go.Proofs.YtbmlgcjoeeejbaaGreat
open Go.ChangeShapes Go.WideShapes Go.ChangeAt Go.RowKit Go.Deep
set_option linter.unusedSimpArgs false
set_option linter.unusedVariables false
section
variable {H:Type} {enc:TypeId×Value→H} {w:World} {base:Nat} {spare:Nat→Bool} {held:Bool}
theorem trod_route {fuel:Nat} {cs:List Value} {x:DataW H×List MemPlace} (h:DataW.trod enc Tryz.prog w base spare held fuel 68 cs=some x) :
  ∃ e:{ e:Int×Int // (Lit.int .i64 e.1).wf=true∧(Lit.int .i64 e.2).wf=true },cs=[.int .i64 e.1.1,.int .i64 e.1.2]:=by
 obtain⟨hl,hc⟩:=trod_struct_cell Tryz.underlying68 (by kernel_rfl) (by kernel_rfl) h
 obtain⟨v0,n0,y0,g0,t0⟩:=hc 0 _ rfl
 obtain⟨v1,n1,y1,g1,t1⟩:=hc 1 _ rfl
 obtain⟨a,ha,_,wa⟩:=DataW.trod_int Tryz.underlying3 t0
 obtain⟨b,hb,_,wb⟩:=DataW.trod_int Tryz.underlying3 t1
 simp at ha hb
 subst ha hb
 refine⟨⟨(a,b),wa,wb⟩,?_⟩
 match cs,hl with
 | [c0,c1],_=>
  simp at g0 g1
  rw[g0,g1]
theorem open_routes {fuel:Nat} {A:Option Addr} {len cap:Nat} {x:DataW H×List MemPlace} (h:DataW.trod enc Tryz.prog w base spare held fuel 23 [.slice A len cap]=some x) :
  len≤maxLen∧∃ raw:List (Int×Int),raw.length=len∧(∀ e ∈ raw,(Lit.int .i64 e.1).wf=true∧(Lit.int .i64 e.2).wf=true)∧Rd w (·<w.heap.size) A (flat pairC raw):=by
 obtain⟨hm,css,h1,h2,h3⟩:=open_rows Tryz.underlying23 (by kernel_rfl) (sz:=2) (by omega) h
 refine⟨hm,?_⟩
 have hx:∀ c ∈ css,∃ e:{ e:Int×Int // (Lit.int .i64 e.1).wf=true∧(Lit.int .i64 e.2).wf=true },c=[Value.int .i64 e.1.1,.int .i64 e.1.2]:=by
  intro c hc
  obtain⟨_,n,y,hy⟩:=h2 c hc
  exact trod_route hy
 obtain⟨r,hr⟩:=map_of_all hx
 refine⟨r.map (·.1),by rw[← h1,hr];simp,?_,?_⟩
 ·intro z hz
  obtain⟨e,_,rfl⟩:=List.mem_map.1 hz
  exact e.2
 ·have:css.flatten=flat pairC (r.map (·.1)):=by
   rw[hr]
   clear hr
   induction r with
   | nil=>rfl
   | cons a l ih=>simp only[List.map_cons,List.flatten_cons,flat,List.flatMap_cons] at ih ⊢;rw[ih];rfl
  rwa[this] at h3
end
end Go.Proofs.YtbmlgcjoeeejbaaGreat
namespace Go.Proofs.YtbmlgcjoeeejbaaGreat
open Go.RowKit
set_option linter.unusedSimpArgs false
set_option linter.unusedVariables false
/-! Plain facts on configurations and atlases. -/
theorem atlIn_st {c:Cfg} {s:St} (hV:CfgV c) (hI:StInv c s) (par:Int):AtlIn (atl0 s par):=by
 have h1:=hI.tick
 have h2:=hI.count
 have h3:=hI.lt
 have h4:=hV.nt
 have h5:=hV.nc
 refine⟨by unfold in64;show -9223372036854775808≤s.count∧s.count<_;omega,by unfold in64;show -9223372036854775808≤s.tick∧s.tick<_;omega,by show (routesOf s).length≤1000;rw[routes_len];omega,fun x hx=>?_⟩
 obtain⟨t,ht,rfl⟩:=List.mem_map.1 (show x ∈ s.tenants.map routeT from hx)
 have hT:=hI.ten t ht
 have h6:=hT.home
 have h7:=hT.epoch
 unfold routeT in64
 refine⟨?_,by dsimp only;omega⟩
 dsimp only
 split<;>omega
theorem make_in {c:Cfg} {s:St} (hV:CfgV c) (hI:StInv c s) (par key:Int):AtlIn (makeA s par key):=⟨(atlIn_st hV hI par).n,(atlIn_st hV hI par).t,(atlIn_st hV hI par).len,(atlIn_st hV hI par).r⟩
end Go.Proofs.YtbmlgcjoeeejbaaGreat
namespace Go.Proofs.YtbmlgcjoeeejbaaGreat
open Go.ChangeShapes Go.WideShapes Go.ChangeAt Go.RowKit Go.Deep
set_option linter.unusedSimpArgs false
set_option linter.unusedVariables false
section
variable {H:Type} {enc:TypeId×Value→H} {w:World} {base:Nat} {spare:Nat→Bool} {held:Bool}
theorem u8_wf {z:Int} (h:(Lit.int .u8 z).wf=true):0≤z∧z<256:=by
 simp[Lit.wf,IntKind.min,IntKind.max,IntKind.bits,IntKind.signed] at h
 omega
theorem open_bytes {fuel:Nat} {A:Option Addr} {len cap:Nat} {x:DataW H×List MemPlace} (h:DataW.trod enc Tryz.prog w base spare held fuel 27 [.slice A len cap]=some x) :
  len≤maxLen∧∃ zs:List Int,zs.length=len∧True∧((∀ x ∈ zs,0≤x∧x<256)∧zs.length≤cap∧Rd w (·<w.heap.size) A (flat u8C zs)):=by
 have hcap:len≤cap:=by
  rcases open_slice Tryz.underlying27 h with⟨h0,_⟩ | ⟨a,len',cap',m,n,D,Pl,hcs,hb,hl,hm,hmm,hx,hi⟩
  ·simp at h0
   obtain⟨rfl,rfl,rfl⟩:=h0
   exact Nat.le_refl _
  ·simp at hcs
   obtain⟨rfl,rfl,rfl⟩:=hcs
   exact hl
 obtain⟨hm,css,h1,h2,h3⟩:=open_rows Tryz.underlying27 (by kernel_rfl) (sz:=1) (by omega) h
 refine⟨hm,?_⟩
 have hx:∀ c ∈ css,∃ e:{ z:Int // (Lit.int .u8 z).wf=true },c=[Value.int .u8 e.1]:=by
  intro c hc
  obtain⟨_,n,y,hy⟩:=h2 c hc
  obtain⟨z,rfl,_,hw⟩:=DataW.trod_int Tryz.underlying5 hy
  exact⟨⟨z,hw⟩,rfl⟩
 obtain⟨r,hr⟩:=map_of_all hx
 have hlen:(r.map (·.1)).length=len:=by rw[← h1,hr];simp
 refine⟨r.map (·.1),hlen,trivial,?_,by rw[hlen];exact hcap,?_⟩
 ·intro z hz
  obtain⟨e,_,rfl⟩:=List.mem_map.1 hz
  exact u8_wf e.2
 ·have:css.flatten=flat u8C (r.map (·.1)):=by
   rw[hr]
   clear hr hlen
   induction r with
   | nil=>rfl
   | cons a l ih=>simp[flat] at ih ⊢;exact ih
  rwa[this] at h3
end
end Go.Proofs.YtbmlgcjoeeejbaaGreat
namespace Go.Proofs.YtbmlgcjoeeejbaaGreat
open Go.RowKit
set_option linter.unusedSimpArgs false
set_option linter.unusedVariables false
/-! Reading integers out of bytes: plain facts. -/
abbrev byteL (l:List Int):Prop:=∀ x ∈ l,0≤x∧x<256
theorem byteL.at_ {l:List Int} (h:byteL l) (k:Nat):0≤l.getD k 0∧l.getD k 0<256:=by
 rw[List.getD_eq_getElem?_getD]
 cases hk:l[k]? with
 | none=>simp
 | some x=>exact h x (List.mem_of_getElem? hk)
def tkU (l:List Int):Nat→Int
 | 0=>0
 | k+1=>tkU l k+(l.getD k 0 % 128) * 128 ^ k
def numI (u:Int):Int:=if u % 2=0 then u / 2 else -(u / 2)-1
def tkGo (l:List Int):Nat→Nat→Int×Int×Int
 | 0,_=>(0,0,18)
 | f+1,k=>if l.length≤k then (0,0,17) else if l.getD k 0<128 then (if (0<k∧l.getD k 0=0)∨(k=9∧1<l.getD k 0) then (0,0,18) else (numI (tkU l (k+1)),(k:Int)+1,0)) else tkGo l f (k+1)
def takeI (l:List Int):Int×Int×Int:=tkGo l 10 0
theorem e128_9:(128:Int) ^ 9=9223372036854775808:=by decide
theorem pow128 (k:Nat):(0:Int)<128 ^ k:=Int.pow_pos (by decide)
theorem tkU_bd {l:List Int} (h:byteL l):∀ k,0≤tkU l k∧tkU l k<128 ^ k
 | 0=>by simp[tkU]
 | k+1=>by
  have h1:=tkU_bd h k
  have h2:=h.at_ k
  have h3:=pow128 k
  have h4:0≤(l.getD k 0 % 128) * 128 ^ k:=Int.mul_nonneg (by omega) (by omega)
  have h5:(l.getD k 0 % 128) * 128 ^ k≤127 * 128 ^ k:=Int.mul_le_mul_of_nonneg_right (by omega) (by omega)
  have h6:(128:Int) ^ (k+1)=128 ^ k * 128:=Int.pow_succ _ _
  rw[tkU,h6]
  omega
theorem or_add {u y:Int} {m:Nat} (hu:0≤u∧u<2 ^ m) (hy:0≤y) (hb:y * 2 ^ m<18446744073709551616) (hm:m<64):IntKind.u64.wrap ((BitVec.ofInt 64 u ||| BitVec.ofInt 64 (y * 2 ^ m)).toNat:Int)=u+y * 2 ^ m:=by
 obtain⟨u,rfl⟩:=Int.eq_ofNat_of_zero_le hu.1
 obtain⟨y,rfl⟩:=Int.eq_ofNat_of_zero_le hy
 have e2:(2:Int) ^ m=((2 ^ m:Nat):Int):=by push_cast;rfl
 rw[e2] at hu hb ⊢
 have hu':u<2 ^ m:=by omega
 have e3:((y:Int) * ((2 ^ m:Nat):Int))=((y * 2 ^ m:Nat):Int):=by push_cast;rfl
 rw[e3] at hb ⊢
 have hb':y * 2 ^ m<18446744073709551616:=by omega
 have h64:2 ^ m≤2 ^ 63:=Nat.pow_le_pow_right (by decide) (by omega)
 have h3:(2:Nat) ^ 63=9223372036854775808:=by decide
 rw[BitVec.ofInt_natCast,BitVec.ofInt_natCast,BitVec.toNat_or,BitVec.toNat_ofNat,BitVec.toNat_ofNat,Nat.mod_eq_of_lt (by omega),Nat.mod_eq_of_lt (by omega)]
 have h1:u ||| y * 2 ^ m=y * 2 ^ m+u:=by
  rw[Nat.or_comm,Nat.mul_comm,Nat.two_pow_add_eq_or_of_lt hu']
 have h2:y * 2 ^ m+u<18446744073709551616:=by
  by_cases hm0:y=0
  ·subst hm0;omega
  ·have e64:(18446744073709551616:Nat)=2 ^ (64-m) * 2 ^ m:=by rw[← Nat.pow_add,show 64-m+m=64 by omega]
   rw[e64] at hb' ⊢
   have hlt:=Nat.lt_of_mul_lt_mul_right hb'
   have:=Nat.mul_le_mul_right (2 ^ m) (show y+1≤2 ^ (64-m) by omega)
   rw[Nat.add_mul] at this
   omega
 rw[h1,wu64 (by omega)]
 omega
set_option maxRecDepth 100000 in
theorem and127_nat:∀ b:Fin 256,(BitVec.ofNat 8 b.val &&& 127#8).toNat=b.val % 128:=by decide
theorem and127 {x:Int} (h:0≤x∧x<256):IntKind.u8.wrap ((BitVec.ofInt 8 x &&& BitVec.ofInt 8 127).toNat:Int)=x % 128:=by
 have hb:x=((x.toNat:Nat):Int):=by omega
 have h2:=and127_nat ⟨x.toNat,by omega⟩
 have h3:(BitVec.ofInt 8 127)=127#8:=by decide
 rw[hb,BitVec.ofInt_natCast,h3,h2,wu8 (by dsimp only;omega)]
 dsimp only
 omega
theorem pow7 (k:Nat):(128:Int) ^ k=2 ^ (7 * k):=by
 rw[Int.pow_mul];rfl
theorem grp_step {l:List Int} (hl:byteL l) {k:Nat} {y:Int} (hy:y=l.getD k 0 % 128) (hk:k≤8∨k=9∧y≤1):IntKind.u64.wrap ((BitVec.ofInt 64 (tkU l k) ||| BitVec.ofInt 64 (IntKind.u64.wrap (y * 2 ^ min (7 * k) 64))).toNat:Int)=tkU l (k+1):=by
 subst hy
 have h1:=tkU_bd hl k
 have h2:=hl.at_ k
 have h3:min (7 * k) 64=7 * k:=by omega
 rw[pow7] at h1
 have h4:(l.getD k 0 % 128) * 2 ^ (7 * k)<18446744073709551616:=by
  rcases hk with hk | ⟨rfl,hy⟩
  ·have e1:(2:Int) ^ (7 * k)≤2 ^ 56:=by
    have:(2:Nat) ^ (7 * k)≤2 ^ 56:=Nat.pow_le_pow_right (by decide) (by omega)
    exact_mod_cast this
   have e2:(2:Int) ^ 56=72057594037927936:=by decide
   have e3:(l.getD k 0 % 128) * 2 ^ (7 * k)≤127 * 2 ^ (7 * k):=Int.mul_le_mul_of_nonneg_right (by omega) (by omega)
   omega
  ·have e2:(2:Int) ^ (7 * 9)=9223372036854775808:=by decide
   rw[e2]
   omega
 have h0:0≤(l.getD k 0 % 128) * 2 ^ (7 * k):=Int.mul_nonneg (by omega) (by omega)
 rw[h3,wu64 ⟨h0,h4⟩,or_add h1 (by omega) h4 (by omega),tkU,pow7]
theorem num_even {u:Int} (h:0≤u∧u<18446744073709551616) (he:u % 2=0):IntKind.i64.wrap (u / 2)=numI u:=by
 unfold numI
 rw[if_pos he,wrapi (by omega)]
theorem numI_bd {u:Int} (h:0≤u∧u<18446744073709551616):in64 (numI u):=by
 unfold numI in64
 split<;>omega
theorem code_num {u:Int} (h:0≤u):codeI (numI u)=u:=by
 unfold numI codeI
 by_cases he:u % 2=0
 ·rw[if_pos he,if_pos (by omega)];omega
 ·rw[if_neg he,if_neg (by omega)];omega
theorem byteL_enc:∀ (k u:Nat),u<128 ^ (k+1)→byteL (encU u)
 | 0,u,h=>by rw[encU_lt (by simpa using h)];intro x hx;simp at hx h;omega
 | k+1,u,h=>by
  by_cases hu:u<128
  ·rw[encU_lt hu];intro x hx;simp at hx;omega
  ·rw[encU_ge hu]
   intro x hx
   rcases List.mem_cons.1 hx with rfl | hx
   ·omega
   ·exact byteL_enc k (u / 128) (by rw[Nat.pow_succ] at h;omega) x hx
theorem byteL_int {n:Int} (h:in64 n):byteL (intBy n):=by
 have:=codeI_bd h
 exact byteL_enc 9 _ (by omega)
theorem tkGo_ok {l:List Int} (hl:byteL l):∀ (f k:Nat) (v n:Int),k+f=10→tkGo l f k=(v,n,0)→∃ u m:Nat,n=((k+m:Nat):Int)∧k+m≤l.length∧1≤m∧(k=0∨0<u)∧v=numI (tkU l k+(u:Int) * 128 ^ k)∧tkU l k+(u:Int) * 128 ^ k<18446744073709551616∧(l.drop k).take m=encU u
 | 0,k,v,n,hf,h=>by simp[tkGo] at h
 | f+1,k,v,n,hf,h=>by
  rw[tkGo] at h
  by_cases h1:l.length≤k
  ·rw[if_pos h1] at h;simp at h
  ·rw[if_neg h1] at h
   have hx:=hl.at_ k
   have hd:l.drop k=l.getD k 0::l.drop (k+1):=by
    rw[List.drop_eq_getElem_cons (by omega),List.getD_eq_getElem?_getD,List.getElem?_eq_getElem (by omega)]
    rfl
   by_cases h2:l.getD k 0<128
   ·rw[if_pos h2] at h
    by_cases h3:(0<k∧l.getD k 0=0)∨(k=9∧1<l.getD k 0)
    ·rw[if_pos h3] at h;simp at h
    ·rw[if_neg h3] at h
     simp only[Prod.mk.injEq,and_true] at h
     obtain⟨rfl,rfl⟩:=h
     have e1:l.getD k 0 % 128=l.getD k 0:=by omega
     refine⟨(l.getD k 0).toNat,1,by omega,by omega,by omega,?_,?_,?_,?_⟩
     ·by_cases hk:k=0
      ·exact .inl hk
      ·have:¬ (l.getD k 0=0):=fun q=>h3 (.inl ⟨by omega,q⟩)
       exact .inr (by omega)
     ·rw[tkU,e1,Int.toNat_of_nonneg hx.1]
     ·rw[Int.toNat_of_nonneg hx.1]
      have hb:=tkU_bd hl k
      by_cases hk:k=9
      ·subst hk
       have:=e128_9
       have h4:¬ (1<l.getD 9 0):=fun q=>h3 (.inr ⟨rfl,q⟩)
       have h5:l.getD 9 0 * 128 ^ 9≤1 * 128 ^ 9:=Int.mul_le_mul_of_nonneg_right (by omega) (by omega)
       omega
      ·have e2:(128:Int) ^ k≤128 ^ 8:=by
        have:(128:Nat) ^ k≤128 ^ 8:=Nat.pow_le_pow_right (by decide) (by omega)
        exact_mod_cast this
       have e3:(128:Int) ^ 8=72057594037927936:=by decide
       have h5:l.getD k 0 * 128 ^ k≤127 * 128 ^ k:=Int.mul_le_mul_of_nonneg_right (by omega) (by omega)
       omega
     ·rw[hd,List.take_succ_cons,List.take_zero,encU_lt (by omega),Int.toNat_of_nonneg hx.1]
   ·rw[if_neg h2] at h
    obtain⟨u,m,q1,q2,q3,q4,q5,q6,q7⟩:=tkGo_ok hl f (k+1) v n (by omega) h
    have hu:0<u:=by omega
    have e6:(128:Int) ^ (k+1)=128 ^ k * 128:=Int.pow_succ _ _
    have e5:tkU l (k+1)+(u:Int) * 128 ^ (k+1)=tkU l k+(((l.getD k 0 % 128).toNat+u * 128:Nat):Int) * 128 ^ k:=by
     rw[tkU,e6]
     have:(((l.getD k 0 % 128).toNat+u * 128:Nat):Int)=l.getD k 0 % 128+u * 128:=by omega
     rw[this,Int.add_mul,Int.mul_comm ((128:Int) ^ k) 128,← Int.mul_assoc,Int.add_assoc]
    have hu2:0<(l.getD k 0 % 128).toNat+u * 128:=by clear q6 q5 e5;omega
    refine⟨(l.getD k 0 % 128).toNat+u * 128,m+1,by rw[q1];congr 1;omega,by omega,by omega,.inr hu2,by rw[q5,e5],by rw[← e5];exact q6,?_⟩
    rw[hd,List.take_succ_cons,q7,encU_ge (u:=(l.getD k 0 % 128).toNat+u * 128) (by omega)]
    have g1:(((l.getD k 0 % 128).toNat+u * 128) % 128+128:Nat)=(l.getD k 0).toNat:=by omega
    have g2:((l.getD k 0 % 128).toNat+u * 128) / 128=u:=by omega
    rw[g1,g2,Int.toNat_of_nonneg hx.1]
theorem take_ok {l:List Int} (hl:byteL l) {v n:Int} (h:takeI l=(v,n,0)):∃ m:Nat,n=(m:Int)∧1≤m∧m≤l.length∧in64 v∧l.take m=intBy v:=by
 obtain⟨u,m,q1,q2,q3,-,q5,q6,q7⟩:=tkGo_ok hl 10 0 v n rfl h
 have e0:tkU l 0+(u:Int) * 128 ^ 0=u:=by simp[tkU]
 rw[e0] at q5 q6
 refine⟨m,by omega,q3,by omega,by rw[q5];exact numI_bd (by omega),?_⟩
 rw[List.drop_zero] at q7
 rw[q7]
 unfold intBy
 rw[q5,code_num (by omega)]
 rfl
/-! Bytes and Read: plain facts. -/
def eightGo (h:Int):Nat→List Int
 | 0=>[]
 | k+1=>eightGo h k++[h / 256 ^ k % 256]
def eightI (h:Int):List Int:=eightGo h 8
def bk (l:List Int):Nat→Int
 | 0=>0
 | k+1=>bk l k+l.getD k 0 * 256 ^ k
theorem eightGo_len (h:Int):∀ k,(eightGo h k).length=k
 | 0=>rfl
 | k+1=>by simp[eightGo,eightGo_len h k]
theorem eightI_eq (h:Int):eightI h=[h % 256,h / 256 % 256,h / 65536 % 256,h / 16777216 % 256,h / 4294967296 % 256,h / 1099511627776 % 256,h / 281474976710656 % 256,h / 72057594037927936 % 256]:=by
 simp[eightI,eightGo]
theorem byteL_eight (h:Int):byteL (eightI h):=by
 rw[eightI_eq]
 intro x hx
 simp only[List.mem_cons,List.not_mem_nil,or_false] at hx
 omega
theorem bk_eq (l:List Int):bk l 8=l.getD 0 0+l.getD 1 0 * 256+l.getD 2 0 * 65536+l.getD 3 0 * 16777216+l.getD 4 0 * 4294967296+l.getD 5 0 * 1099511627776+l.getD 6 0 * 281474976710656+l.getD 7 0 * 72057594037927936:=by
 simp[bk]
theorem bk_bd {l:List Int} (h:byteL l):∀ k,0≤bk l k∧bk l k<256 ^ k
 | 0=>by simp[bk]
 | k+1=>by
  have h1:=bk_bd h k
  have h2:=h.at_ k
  have h3:(0:Int)<256 ^ k:=Int.pow_pos (by decide)
  have h4:0≤l.getD k 0 * 256 ^ k:=Int.mul_nonneg (by omega) (by omega)
  have h5:l.getD k 0 * 256 ^ k≤255 * 256 ^ k:=Int.mul_le_mul_of_nonneg_right (by omega) (by omega)
  have h6:(256:Int) ^ (k+1)=256 ^ k * 256:=Int.pow_succ _ _
  rw[bk,h6]
  omega
def bytesA (a:Atl):List Int:=bodyI a++eightI a.parent++eightI a.sum
def rdN (b:List Int):Nat→Int×List Int×Nat
 | 0=>(0,[],0)
 | m+1=>if (rdN b m).1=0 then (if (takeI (b.drop (rdN b m).2.2)).2.2=0 then (0,(rdN b m).2.1++[(takeI (b.drop (rdN b m).2.2)).1],(rdN b m).2.2+(takeI (b.drop (rdN b m).2.2)).2.1.toNat) else ((takeI (b.drop (rdN b m).2.2)).2.2,[],0)) else ((rdN b m).1,[],0)
def rtO (xs:List Int) (c:Nat):List (Int×Int):=(List.range c).map fun i=>(xs.getD (3+2 * i) 0,xs.getD (4+2 * i) 0)
def aZ0:Atl:=⟨0,0,[],0,0⟩
def readA (b:List Int):Atl×Int×Int:=
 if (rdN b 3).1=0 then
  (if (rdN b 3).2.1.getD 2 0<0∨32<(rdN b 3).2.1.getD 2 0 then (aZ0,0,18)
  else (match rdN b (3+2 * ((rdN b 3).2.1.getD 2 0).toNat) with
   | (e,xs,p)=>if e=0 then (if b.length<p+16 then (aZ0,0,17) else (⟨xs.getD 0 0,xs.getD 1 0,rtO xs ((rdN b 3).2.1.getD 2 0).toNat,bk (b.drop p) 8,bk (b.drop (p+8)) 8⟩,(p:Int)+16,0)) else (aZ0,0,e)))
 else (aZ0,0,(rdN b 3).1)
theorem byteL.drop {l:List Int} (h:byteL l) (k:Nat):byteL (l.drop k):=fun x hx=>h x (List.mem_of_mem_drop hx)
theorem byteL.app {l r:List Int} (h:byteL l) (k:byteL r):byteL (l++r):=fun x hx=>(List.mem_append.1 hx).elim (h x) (k x)
theorem rdN_ok {b:List Int} (hb:byteL b):∀ {m:Nat},(rdN b m).1=0→(rdN b m).2.1.length=m∧(rdN b m).2.2≤b.length∧(∀ x ∈ (rdN b m).2.1,in64 x)∧(rdN b m).2.1.flatMap intBy=b.take (rdN b m).2.2∧m≤(rdN b m).2.2
 | 0,_=>by simp[rdN]
 | m+1,h=>by
  rw[rdN] at h ⊢
  by_cases h1:(rdN b m).1=0
  ·rw[if_pos h1] at h ⊢
   by_cases h2:(takeI (b.drop (rdN b m).2.2)).2.2=0
   ·rw[if_pos h2]
    obtain⟨q1,q2,q3,q4,q5⟩:=rdN_ok hb h1
    obtain⟨k,r1,r2,r3,r4,r5⟩:=take_ok (hb.drop _) (v:=(takeI (b.drop (rdN b m).2.2)).1) (n:=(takeI (b.drop (rdN b m).2.2)).2.1) (by rw[← h2])
    rw[List.length_drop] at r3
    have hk:(takeI (b.drop (rdN b m).2.2)).2.1.toNat=k:=by omega
    refine⟨by simp[q1],by show _+_≤_;omega,fun x hx=>?_,?_,by show _≤_+_;omega⟩
    ·rcases List.mem_append.1 hx with hx | hx
     ·exact q3 x hx
     ·rw[List.mem_singleton.1 hx];exact r4
    ·show ((rdN b m).2.1++[_]).flatMap intBy=b.take (_+_)
     rw[List.flatMap_append,q4,hk,List.take_add,List.flatMap_cons,List.flatMap_nil,List.append_nil,r5]
   ·rw[if_neg h2] at h
    exact absurd h h2
  ·rw[if_neg h1] at h
   exact absurd h h1
theorem rdN_pre {b:List Int} {m:Nat} (h:(rdN b (m+1)).1=0):(rdN b m).1=0∧(takeI (b.drop (rdN b m).2.2)).2.2=0∧(rdN b (m+1)).2.1=(rdN b m).2.1++[(takeI (b.drop (rdN b m).2.2)).1]∧(rdN b (m+1)).2.2=(rdN b m).2.2+(takeI (b.drop (rdN b m).2.2)).2.1.toNat:=by
 rw[rdN] at h
 by_cases h1:(rdN b m).1=0
 ·rw[if_pos h1] at h
  by_cases h2:(takeI (b.drop (rdN b m).2.2)).2.2=0
  ·refine⟨h1,h2,?_,?_⟩<;>rw[rdN,if_pos h1,if_pos h2]
  ·rw[if_neg h2] at h;exact absurd h h2
 ·rw[if_neg h1] at h;exact absurd h h1
theorem rdN_step {b:List Int} {m:Nat} (h1:(rdN b m).1=0) (h2:(takeI (b.drop (rdN b m).2.2)).2.2=0):rdN b (m+1)=(0,(rdN b m).2.1++[(takeI (b.drop (rdN b m).2.2)).1],(rdN b m).2.2+(takeI (b.drop (rdN b m).2.2)).2.1.toNat):=by rw[rdN,if_pos h1,if_pos h2]
theorem rdN_bad {b:List Int} {m:Nat} (h1:(rdN b m).1=0) (h2:(takeI (b.drop (rdN b m).2.2)).2.2≠0):rdN b (m+1)=((takeI (b.drop (rdN b m).2.2)).2.2,[],0):=by rw[rdN,if_pos h1,if_neg h2]
theorem rdN_bads {b:List Int} {m:Nat} {e:Int} (he:e≠0) (h:rdN b m=(e,[],0)):∀ k,rdN b (m+k)=(e,[],0)
 | 0=>h
 | k+1=>by
  have:=rdN_bads he h k
  rw[show m+(k+1)=(m+k)+1 by omega,rdN,this,if_neg he]
theorem rdN_take {b:List Int}:∀ (k:Nat) {m:Nat},(rdN b (m+k)).1=0→(rdN b m).1=0∧(rdN b m).2.1 <+: (rdN b (m+k)).2.1
 | 0,m,h=>⟨h,List.prefix_refl _⟩
 | k+1,m,h=>by
  obtain⟨h1,-,h3,-⟩:=rdN_pre (m:=m+k) h
  obtain⟨q1,q2⟩:=rdN_take k h1
  exact⟨q1,q2.trans (by rw[show m+(k+1)=m+k+1 by omega,h3];exact List.prefix_append _ _)⟩
def nsA (a:Atl):List Int:=a.number::a.tick::(a.routes.length:Int)::a.routes.flatMap fun r=>[r.1,r.2]
theorem body_ns (a:Atl):bodyI a=(nsA a).flatMap intBy:=by
 unfold bodyI nsA
 rw[List.flatMap_cons,List.flatMap_cons,List.flatMap_cons,List.append_assoc,List.append_assoc]
 congr 3
 induction a.routes with
 | nil=>rfl
 | cons x l ih=>simp[routeB,ih]
structure AtlBy (a:Atl):Prop extends AtlIn a where
 p:0≤a.parent∧a.parent<18446744073709551616
 s:0≤a.sum∧a.sum<18446744073709551616
 few:a.routes.length≤32
theorem nsA_in {a:Atl} (h:AtlIn a):∀ x ∈ nsA a,in64 x:=by
 intro x hx
 have hl:=h.len
 unfold nsA at hx
 simp only[List.mem_cons] at hx
 rcases hx with rfl | rfl | rfl | hx
 ·exact h.n
 ·exact h.t
 ·unfold in64;omega
 ·obtain⟨r,hr,hx⟩:=List.mem_flatMap.1 hx
  have:=h.r r hr
  simp only[List.mem_cons,List.not_mem_nil,or_false] at hx
  rcases hx with rfl | rfl
  ·exact this.1
  ·exact this.2
theorem bytesA_len (a:Atl):(bytesA a).length=(bodyI a).length+16:=by
 simp[bytesA,eightI,eightGo_len]
theorem byteL_flat {ns:List Int} (hn:∀ x ∈ ns,in64 x):byteL (ns.flatMap intBy):=fun x hx=>by
 obtain⟨n,h1,h2⟩:=List.mem_flatMap.1 hx
 exact byteL_int (hn n h1) x h2
theorem byteL_bytes {a:Atl} (h:AtlIn a):byteL (bytesA a):=by
 unfold bytesA
 rw[body_ns]
 exact ((byteL_flat (nsA_in h)).app (byteL_eight _)).app (byteL_eight _)
end Go.Proofs.YtbmlgcjoeeejbaaGreat
