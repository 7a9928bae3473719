import Derived.Test.YtjnndjnpcelafaaGreatPt31
import Derived.Test.YtjnndjnpcelafaaGreatPt33
namespace Go.Proofs.YtjnndjnpcelafaaGreat
set_option maxHeartbeats 16000000
set_option maxRecDepth 100000
open Go.RowKit
set_option linter.unusedSimpArgs false
set_option linter.unusedVariables false
def rnD:List (Nat×DQ):=[
 (3000003,{ k:=10,L:=[0,1,2,3,4,5,6,7],sl:=[1,2,3] }),
 (3000007,{ k:=11,L:=[0,1,2,3,4,5,6,7,9],sl:=[1,2,3] })]
abbrev stB (T Cc:Value):List Value:=[zi,zi,T,Cc,.int .i64 1,zi,zi,zi]
theorem zmf (x:CfgK) (c:Cfg) (hnt:c.tenants.length<=1000) (hnc:c.cells.length<=1000) (hc0:0<c.cells.length) :
  sx tt [] rnD (za1 Tryz.f34) (zb3 0 [zaX CN1 x c]) (zcH CN1 c) 6
   (zb8 tt Tryz.f34.results.toList fun v mem' _=>∃ T Cc,v=.agg (stB T Cc).toArray/\SlR mem' 12 tsC default (zaB c).tenants T/\SlR mem' 4 csC default (zaB c).cells Cc):=by
 refine⟨Int×Nat×Option (Nat×(Nat->List Value)),fun q=>match q with | (i,n,o)=>[(4,.int .i64 i)],fun q=>match q with | (i,n,none)=>[(8,.box 37 (stB zs0 zs0))] | (i,n,some (cap,el))=>[(8,.box 37 (stB (slc 9 n cap) zs0)),(9,tsB cap el)],fun q=>match q with | (i,n,o)=>(i=(n:Int)/\n<=c.tenants.length)/\match o with | none=>n=0 | some (cap,el)=>n<=cap/\∀ k,k<n->el k=tsC tsNew,fun q=>match q with | (i,n,o)=>((c.tenants.length:Int)-i).toNat,⟨(0,0,none),[],⟨⟨rfl,o_⟩,rfl⟩,⟨rfl,rfl⟩,kp_,kp_⟩,?_⟩;rintro⟨i,n,(_ | ⟨cap,el⟩)⟩ ⟨⟨hi,hn⟩,ho⟩
 ·refine⟨⟨d_,rfl,rfl⟩,?_⟩;obtain rfl:n=0:=ho;refine⟨fun hlt=>?_,fun hge=>?_⟩
  ·have hlt2:i<(c.tenants.length:Int):=of_decide_eq_true hlt;refine⟨⟨nl_,fun k hk=>by match k,hk with | 0,_=>rfl⟩,?_⟩;refine⟨fun h=>absurd h d_,fun _=>⟨d_,fun cap2 el2 ⟨hc2,_⟩ hel2=>?_⟩⟩;refine⟨(_,_,some (cap2,el2)),[(9,11)],?_,⟨rfl,rfl⟩,kp_,kp_⟩;dsimp only;rw[zaf (n:=i+1) o_];refine⟨⟨⟨o_,o_⟩,o_,fun k hk=>?_⟩,o_⟩;obtain rfl:k=0:=by omega
   exact hel2 0 o_
  ·have hge2:¬ i<(c.tenants.length:Int):=of_decide_eq_false hge;have hTz:(zaB c).tenants=[]:=by simp only[zaB];rw[show c.tenants.length=0 by omega];rfl
   clear hi hn;refine⟨Int×Nat×Option (Nat×(Nat->List Value)),fun q=>match q with | (i,n,o)=>[(5,.int .i64 i)],fun q=>match q with | (i,n,none)=>[(8,.box 37 (stB zs0 zs0))] | (i,n,some (cap,el))=>[(8,.box 37 (stB zs0 (slc 10 n cap))),(10,csB cap el)],fun q=>match q with | (i,n,o)=>(i=(n:Int)/\n<=c.cells.length)/\match o with | none=>n=0 | some (cap,el)=>n<=cap/\∀ k,k<n->el k=csC csNew,fun q=>match q with | (i,n,o)=>((c.cells.length:Int)-i).toNat,⟨(0,0,none),[],⟨⟨rfl,o_⟩,rfl⟩,⟨rfl,rfl⟩,kp_,kp_⟩,?_⟩;rintro⟨i,n,(_ | ⟨cap,el⟩)⟩ ⟨⟨hi,hn⟩,ho⟩
   ·refine⟨⟨d_,rfl,rfl⟩,?_⟩;obtain rfl:n=0:=ho;refine⟨fun hlt=>?_,fun hge=>?_⟩
    ·have hlt2:i<(c.cells.length:Int):=of_decide_eq_true hlt;refine⟨⟨nl_,fun k hk=>by match k,hk with | 0,_=>rfl⟩,?_⟩;refine⟨fun h=>absurd h d_,fun _=>⟨d_,fun cap2 el2 ⟨hc2,_⟩ hel2=>?_⟩⟩;refine⟨(_,_,some (cap2,el2)),[(10,12)],?_,⟨rfl,rfl⟩,kp_,kp_⟩;dsimp only;rw[zaf (n:=i+1) o_];refine⟨⟨⟨o_,o_⟩,o_,fun k hk=>?_⟩,o_⟩;obtain rfl:k=0:=by omega
     exact hel2 0 o_
    ·have hge2:¬ i<(c.cells.length:Int):=of_decide_eq_false hge;omega
   ·refine⟨⟨d_,rfl,rfl⟩,?_⟩;obtain⟨hcap,hel⟩:=ho;refine⟨fun hlt=>?_,fun hge=>?_⟩
    ·have hlt2:i<(c.cells.length:Int):=of_decide_eq_true hlt;refine⟨⟨nl_,fun k hk=>by match k,hk with | 0,_=>rfl⟩,?_⟩;refine⟨⟨rfl,hcap⟩,fun hin el2 ⟨h1,_⟩ h2=>?_,fun hgt=>⟨by show (n+1) * 32<=140737488355328;omega,fun cap2 el2 ⟨hc2,_⟩ h1 h2=>?_⟩⟩
     ·refine⟨(_,_,some (cap,el2)),[],?_,⟨rfl,rfl⟩,kp_,kp_⟩;dsimp only;rw[zaf (n:=i+1) o_];refine⟨⟨⟨o_,o_⟩,o_,fun k hk=>?_⟩,o_⟩;by_cases hkn:k<n
      ·exact (h1 k hkn).trans (hel k hkn)
      ·obtain rfl:k=n:=by omega
       exact h2 0 o_
     ·refine⟨(_,_,some (cap2,el2)),[(10,12)],?_,⟨rfl,rfl⟩,kp_,kp_⟩;dsimp only;rw[zaf (n:=i+1) o_];refine⟨⟨⟨o_,o_⟩,o_,fun k hk=>?_⟩,o_⟩;by_cases hkn:k<n
      ·exact (h1 k hkn).trans (hel k hkn)
      ·obtain rfl:k=n:=by omega
       exact h2 0 o_
    ·have hge2:¬ i<(c.cells.length:Int):=of_decide_eq_false hge;have hnn:n=c.cells.length:=by omega
     subst hnn;have hlc:(zaB c).cells.length=c.cells.length:=by simp[zaB]
     have hlt:(zaB c).tenants.length=c.tenants.length:=by simp[zaB]
     exact⟨_,_,rfl,.inl ⟨rfl,hTz⟩,.inr ⟨10,cap,_,cap,el,by rw[hlc],rfl,rfl,by rw[hlc];exact hcap,fun k hk=>by rw[hlc] at hk;rw[hel k hk];simp only[zaB];rw[zde hk]⟩⟩
 ·refine⟨⟨d_,rfl,rfl⟩,?_⟩;obtain⟨hcap,hel⟩:=ho;refine⟨fun hlt=>?_,fun hge=>?_⟩
  ·have hlt2:i<(c.tenants.length:Int):=of_decide_eq_true hlt;refine⟨⟨nl_,fun k hk=>by match k,hk with | 0,_=>rfl⟩,?_⟩;refine⟨⟨rfl,hcap⟩,fun hin el2 ⟨h1,_⟩ h2=>?_,fun hgt=>⟨by show (n+1) * 88<=140737488355328;omega,fun cap2 el2 ⟨hc2,_⟩ h1 h2=>?_⟩⟩
   ·refine⟨(_,_,some (cap,el2)),[],?_,⟨rfl,rfl⟩,kp_,kp_⟩;dsimp only;rw[zaf (n:=i+1) o_];refine⟨⟨⟨o_,o_⟩,o_,fun k hk=>?_⟩,o_⟩;by_cases hkn:k<n
    ·exact (h1 k hkn).trans (hel k hkn)
    ·obtain rfl:k=n:=by omega
     exact h2 0 o_
   ·refine⟨(_,_,some (cap2,el2)),[(9,11)],?_,⟨rfl,rfl⟩,kp_,kp_⟩;dsimp only;rw[zaf (n:=i+1) o_];refine⟨⟨⟨o_,o_⟩,o_,fun k hk=>?_⟩,o_⟩;by_cases hkn:k<n
    ·exact (h1 k hkn).trans (hel k hkn)
    ·obtain rfl:k=n:=by omega
     exact h2 0 o_
  ·have hge2:¬ i<(c.tenants.length:Int):=of_decide_eq_false hge;have hnn:n=c.tenants.length:=by omega
   subst hnn;have hcapT:=hcap;have helT:=hel;clear hcap hel hi hn hge2 hge;obtain⟨capT,hce⟩:∃ q,q=cap:=⟨_,rfl⟩;obtain⟨elT,hee⟩:∃ q,q=el:=⟨_,rfl⟩;subst hce hee;refine⟨Int×Nat×Option (Nat×(Nat->List Value)),fun q=>match q with | (i,n,o)=>[(5,.int .i64 i)],fun q=>match q with | (i,n,none)=>[(8,.box 37 (stB (slc 9 c.tenants.length capT) zs0))] | (i,n,some (cap,el))=>[(8,.box 37 (stB (slc 9 c.tenants.length capT) (slc 10 n cap))),(10,csB cap el)],fun q=>match q with | (i,n,o)=>(i=(n:Int)/\n<=c.cells.length)/\match o with | none=>n=0 | some (cap,el)=>n<=cap/\∀ k,k<n->el k=csC csNew,fun q=>match q with | (i,n,o)=>((c.cells.length:Int)-i).toNat,⟨(0,0,none),[],⟨⟨rfl,o_⟩,rfl⟩,⟨rfl,rfl⟩,kp_,kp_⟩,?_⟩;rintro⟨i,n,(_ | ⟨cap,el⟩)⟩ ⟨⟨hi,hn⟩,ho⟩
   ·refine⟨⟨d_,rfl,rfl⟩,?_⟩;obtain rfl:n=0:=ho;refine⟨fun hlt=>?_,fun hge=>?_⟩
    ·have hlt2:i<(c.cells.length:Int):=of_decide_eq_true hlt;refine⟨⟨nl_,fun k hk=>by match k,hk with | 0,_=>rfl⟩,?_⟩;refine⟨fun h=>absurd h d_,fun _=>⟨d_,fun cap2 el2 ⟨hc2,_⟩ hel2=>?_⟩⟩;refine⟨(_,_,some (cap2,el2)),[(10,12)],?_,⟨rfl,rfl⟩,kp_,kp_⟩;dsimp only;rw[zaf (n:=i+1) o_];refine⟨⟨⟨o_,o_⟩,o_,fun k hk=>?_⟩,o_⟩;obtain rfl:k=0:=by omega
     exact hel2 0 o_
    ·have hge2:¬ i<(c.cells.length:Int):=of_decide_eq_false hge;omega
   ·refine⟨⟨d_,rfl,rfl⟩,?_⟩;obtain⟨hcap,hel⟩:=ho;refine⟨fun hlt=>?_,fun hge=>?_⟩
    ·have hlt2:i<(c.cells.length:Int):=of_decide_eq_true hlt;refine⟨⟨nl_,fun k hk=>by match k,hk with | 0,_=>rfl⟩,?_⟩;refine⟨⟨rfl,hcap⟩,fun hin el2 ⟨h1,_⟩ h2=>?_,fun hgt=>⟨by show (n+1) * 32<=140737488355328;omega,fun cap2 el2 ⟨hc2,_⟩ h1 h2=>?_⟩⟩
     ·refine⟨(_,_,some (cap,el2)),[],?_,⟨rfl,rfl⟩,kp_,kp_⟩;dsimp only;rw[zaf (n:=i+1) o_];refine⟨⟨⟨o_,o_⟩,o_,fun k hk=>?_⟩,o_⟩;by_cases hkn:k<n
      ·exact (h1 k hkn).trans (hel k hkn)
      ·obtain rfl:k=n:=by omega
       exact h2 0 o_
     ·refine⟨(_,_,some (cap2,el2)),[(10,12)],?_,⟨rfl,rfl⟩,kp_,kp_⟩;dsimp only;rw[zaf (n:=i+1) o_];refine⟨⟨⟨o_,o_⟩,o_,fun k hk=>?_⟩,o_⟩;by_cases hkn:k<n
      ·exact (h1 k hkn).trans (hel k hkn)
      ·obtain rfl:k=n:=by omega
       exact h2 0 o_
    ·have hge2:¬ i<(c.cells.length:Int):=of_decide_eq_false hge;have hnn:n=c.cells.length:=by omega
     subst hnn;have hlc:(zaB c).cells.length=c.cells.length:=by simp[zaB]
     have hlt:(zaB c).tenants.length=c.tenants.length:=by simp[zaB]
     exact⟨_,_,rfl,.inr ⟨9,capT,_,capT,elT,by rw[hlt],rfl,rfl,by rw[hlt];exact hcapT,fun k hk=>by rw[hlt] at hk;rw[helT k hk];simp only[zaB];rw[zde hk]⟩,.inr ⟨10,cap,_,cap,el,by rw[hlc],rfl,rfl,by rw[hlc];exact hcap,fun k hk=>by rw[hlc] at hk;rw[hel k hk];simp only[zaB];rw[zde hk]⟩⟩
theorem zhB (x:CfgA) (c:Cfg) (w:World) (hc:CfgOk w (·<w.heap.size) x c) (hnt:c.tenants.length<=1000) (hnc:c.cells.length<=1000) (hc0:0<c.cells.length) :
  Calls Tryz.prog 34 #[.agg (zaH x c)] w fun e w'=>∃ y,e=.returned (.agg (stC y (zaB c)))/\StOk w' (fun b=>w.heap.size<=b/\b<w'.heap.size) y (zaB c)/\Below w.heap.size w w':=by
 have hpc:CfgPl (cpl x c) CN1 x c:=⟨rfl,rfl,rfl,rfl,rfl,rfl⟩
 have hm:MemAt { w0:=w,bor:=[],n0:=6,ρ0:=cpl x c,nt:=(Tryz.f34).ntmps } (cpl x c) (zcH CN1 c) 6 w:=MemAt.rows trivial (by
  have:=zcR (C:={ w0:=w,bor:=[],n0:=6,ρ0:=cpl x c,nt:=(Tryz.f34).ntmps }) (nx:=6) (r:=[]) hpc hc (fun b hb=>hb) d_ trivial
  exact this)
 have hv0:#[Value.agg (zaH x c)]=([zaX CN1 ⟨x.cz,x.cc,x.ct,x.cv,x.cr,x.co⟩ c].map (den (cpl x c))).toArray:=by
  rw[List.map_cons,zaP];rfl
 rw[hv0];refine (zcu zg6 zb7 mixed Tryz.func34 rfl (D:=rnD) k_ (vs:=[zaX CN1 ⟨x.cz,x.cc,x.ct,x.cv,x.cr,x.co⟩ c]) rfl ⟨rfl,rfl⟩ rfl hm (fun v hv=>?_) (zmf _ c hnt hnc hc0)).mono ?_
 ·obtain rfl:v=_:=by simpa using hv
  intro u hu;simp at hu;rcases hu with rfl | rfl | rfl | rfl | rfl | rfl | rfl | rfl | rfl | rfl<;>first | trivial | exact⟨d_,rfl⟩
 ·rintro e w' ⟨v,mem',nx',ρ',rfl,⟨T,Cc,rfl,hT,hC⟩,hv,hm'⟩;obtain⟨a1,c1,e1,r1⟩:=hm'.slR (enc:=tsC) (sz:=12) (fun _=>rfl) o_ hT;obtain⟨a2,c2,e2,r2⟩:=hm'.slR (enc:=csC) (sz:=4) (fun _=>rfl) o_ hC;refine⟨⟨a1,c1,a2,c2⟩,?_,⟨r1,r2⟩,⟨hm'.rest.os,hm'.rest.tape,hm'.rest.output,hm'.rest.size,fun b hlt=>hm'.rest.block b hlt (by simp)⟩⟩;have d:∀ v,zal ρ' (.int .i64 v)=.int .i64 v:=fun _=>rfl
  simp[den,zaW,stC,zaB,d] at e1 e2 ⊢;exact⟨e1,e2⟩
def ctNewR:CT:=fun vs mem nx K=>∃ N x c,vs=[zaX N x c]/\keeps mem (zcH N c)/\(c.tenants.length<=1000/\c.cells.length<=1000/\0<c.cells.length)/\∀ y,K (stV ⟨nx+1,nx,500000⟩ y (zaB c)) (stM ⟨nx+1,nx,500000⟩ (zaB c)++mem) (nx+2)
theorem newROk:CSound Tryz.prog 34 ctNewR:=⟨k_,fun {C ρ fr mem nx a w vs K} hc hs hv=>by
 obtain⟨N,x,c,rfl,hk,⟨hnt,hnc,hc0⟩,hK⟩:=hc;rw[List.map_cons,zaP];refine (zhB (zdp ρ N x) c w (hs.cfg hk (fun b h _=>h)) hnt hnc hc0).mono ?_;rintro e w' ⟨y,rfl,hst,hb⟩;obtain⟨q1,q2,q3,q4⟩:=hs.addSt hb hst
 exact⟨_,_,_,_,by rw[q2],hK ⟨y.ct,y.cc⟩,q1,q3,q4⟩⟩
/-! Logs that are accepted,and ref12.Fold. -/
inductive Run (c:Cfg):St->List Ent->St->Prop where
 | nil (s:St):Run c s [] s
 | cons {s x s':St} {e:Ent} {es:List Ent} (h:zao c s e=(x,0)) (hr:Run c x es s'):Run c s (e::es) s'
structure RInv (c:Cfg) (s:St):Prop where
 inv:StInv c s
 cap:zcr c s=false
theorem RInv.new {c:Cfg} (hV:CfgV c):RInv c (zaB c):=⟨zfD hV,cap_new hV⟩
theorem RInv.step {c:Cfg} {s x:St} {e:Ent} (hV:CfgV c) (h:RInv c s) (he:zao c s e=(x,0)):RInv c x:=by
 obtain⟨hr,hx,-⟩:=zd7 he;exact⟨by rw[hx];exact h.inv.step hV hr,zk4 hV h.inv h.cap he⟩
theorem Run.rinv {c:Cfg} (hV:CfgV c) {s s':St} {es:List Ent} (h:Run c s es s') (hs:RInv c s):RInv c s':=by
 induction h with
 | nil s=>exact hs
 | cons he _ ih=>exact ih (hs.step hV he)
theorem Run.snoc {c:Cfg} {s s' x:St} {es:List Ent} {e:Ent} (h:Run c s es s') (he:zao c s' e=(x,0)):Run c s (es++[e]) x:=by
 induction h with
 | nil s=>exact .cons he (.nil _)
 | cons h1 _ ih=>exact .cons h1 (ih he)
theorem Run.fold {c:Cfg} {s s':St} {es:List Ent} (h:Run c s es s'):∀ i:Int,zeH c i s es=(s',i+es.length,0):=by
 induction h with
 | nil s=>intro i;simp[zeH]
 | cons h1 _ ih=>
  intro i;rw[zeH,h1,if_neg (by simp),ih];simp;omega
theorem Run.foldC {c:Cfg} {s':St} {es:List Ent} (h:Run c (zaB c) es s'):foldC c es=(s',(es.length:Int),0):=by
 unfold Go.Proofs.YtjnndjnpcelafaaGreat.foldC;rw[h.fold 0,Int.zero_add]
theorem Run.count {c:Cfg} {s s':St} {es:List Ent} (h:Run c s es s'):s'.count=s.count+es.length:=by
 induction h with
 | nil s=>simp
 | cons h1 _ ih=>
  obtain⟨hr,hx,-⟩:=zd7 h1;rw[ih,hx];have:∀ (s:St) (e:Ent),(zae s e).count=s.count+1:=by
   intro s e;unfold zae zai zaK zbc;repeat (split<;>try rfl)
  rw[this];simp;omega
theorem Run.split {c:Cfg} {s s':St} {l r:List Ent} (h:Run c s (l++r) s'):∃ m,Run c s l m/\Run c m r s':=by
 induction l generalizing s with
 | nil=>exact⟨s,.nil s,h⟩
 | cons e l ih=>
  cases h with
  | cons h1 hr=>
   obtain⟨m,q1,q2⟩:=ih hr;exact⟨m,.cons h1 q1,q2⟩
def ggrF:FT:=[(31,ctNext),(32,ctRange),(33,ctYes)]
theorem ggrFok:FTok Tryz.prog ggrF:=zan zhM (zan ziD (zan yesOk zb7))
def zkV:DQ:={ k:=15,L:=[1,9,10,11,13,14],sl:=[0,5,6,7,8,9] }
def ggrD:List (Nat×DQ):=[
 (14,{ k:=5,L:=[12],pre:=[(0,false),(1,false),(2,false),(3,true),(4,false)] }),
 (15,{ k:=7,L:=[12,10],pre:=[(0,false),(1,false),(2,false),(3,false),(4,false),(5,true),(6,false)] }),
 (18,{ k:=10,g:=some (.fix 0 (.fix 3 (.fix 5 (.three
  1 (.fix 2 (.two 4 (.fix 8 (.act 6 (.fix 7 (.act 9 .fin)))) 6 (.act 4 (.fix 7 (.fix 8 (.act 9 .fin))))))
  4 (.two 1 (.fix 2 (.fix 8 (.act 6 (.fix 7 (.act 9 .fin))))) 6 (.fix 7 (.act 1 (.fix 2 (.fix 8 (.act 9 .fin))))))
  6 (.two 1 (.fix 2 (.act 4 (.fix 7 (.fix 8 (.act 9 .fin))))) 4 (.fix 7 (.act 1 (.fix 2 (.fix 8 (.act 9 .fin))))))))))}),
 (1000007,zkV),(1000010,zkV),(1000012,zkV),(1000015,zkV),(1000019,zkV),(1000020,zkV)]
theorem grant_sx (cap:Nat) (zs:List Int) (k:Int) (x:CfgK) (c:Cfg) (y:StK) (s:St) (e:Ent) (hz:zs.length<=400) (hk:0<=k/\k<=990000) (hV:CfgV c) (hI:StInv c s) (ht:0<=e.tenant/\e.tenant<s.tenants.length) (hp:(zaA s e.tenant).placed=true) :
  sx tt ggrF ggrD (za1 Tryz.f71) (zb3 0 (ptr 0::zaX CN0 x c::stV SN0 y s::[entV' e])) ((0,zaU 1 zs.length cap k)::(1,zb6 zs)::(zcH CN0 c++stM SN0 s)) 10
   (zb8 tt Tryz.f71.results.toList fun v mem' _=>∃ k',EntR k v k'/\zbJ v/\lk mem' 0=some (zaU 1 zs.length cap k')):=by
 have hnc:=hV.nc;have hlc:=hI.lc;have hls:=hV.lease;have hti:=hI.ten _ (zfn ht.1 ht.2).2;have h1:=hti.placed hp;have h2:=hti.home;have h3:=hti.standby;have h4:=hti.target;unfold zaA at h1 h2 h3 h4;rw[← hlc] at h2 h3 h4;replace h2:=h2.2;replace h3:=h3.2;replace h4:=h4.2;clear hti hp hI hV;obtain⟨kind,tick,tenant,cell,other,epoch,since,till,n⟩:=e;dsimp only[entV'] at *;refine⟨⟨nl_,o_,o_⟩,?_⟩;refine⟨Ent×Int,fun _=>[],fun y=>match y with | (⟨a1,a2,a3,a4,a5,a6,a7,a8,a9⟩,kk)=>[(0,zaU 1 zs.length cap kk),(12,.box 43 [.int .i64 a1,.int .i64 a2,.int .i64 a3,.int .i64 a4,.int .i64 a5,.int .i64 a6,.int .i64 a7,.int .i64 a8,.int .i64 a9])],fun y=>(k<=y.2/\y.2<=k+2)/\0<=y.1.cell/\y.1.cell<s.cells.length,?_,?_⟩
 ·refine⟨fun htg=>?_,fun _=>?_⟩
  ·simp only[decide_eq_true_eq,ge_iff_le] at htg;refine⟨0,1,cap,zs,_,_,rfl,⟨rfl,rfl⟩,⟨hz,o_,o_⟩,⟨_,rfl,o_,o_⟩,?_⟩;rintro _ k1 ⟨b1,rfl,hk1⟩;refine⟨fun _=>?_,fun _=>?_⟩
   ·(refine⟨(⟨_,_,_,_,_,_,_,_,_⟩,_),?_,⟨rfl,rfl,rfl,rfl,rfl,rfl,trivial⟩,⟨rfl,rfl,rfl,rfl,rfl,rfl,rfl,rfl,trivial⟩⟩;dsimp only;(refine⟨⟨o_,o_⟩,?_,?_⟩<;>first | assumption | omega))
   ·refine⟨fun hs=>?_,fun _=>?_⟩
    ·simp only[decide_eq_true_eq,ge_iff_le] at hs;refine⟨0,1,cap,zs,_,_,rfl,⟨rfl,rfl⟩,⟨hz,o_,o_⟩,⟨_,rfl,o_,o_⟩,?_⟩;rintro _ k2 ⟨b2,rfl,hk2⟩;refine⟨fun _=>?_,fun _=>?_⟩
     ·refine⟨fun _=>?_,fun h=>nomatch h⟩;(refine⟨(⟨_,_,_,_,_,_,_,_,_⟩,_),?_,⟨rfl,rfl,rfl,rfl,rfl,rfl,trivial⟩,⟨rfl,rfl,rfl,rfl,rfl,rfl,rfl,rfl,trivial⟩⟩;dsimp only;(refine⟨⟨o_,o_⟩,?_,?_⟩<;>first | assumption | omega))
     ·refine⟨fun _=>?_,fun _=>?_⟩
      ·(refine⟨(⟨_,_,_,_,_,_,_,_,_⟩,_),?_,⟨rfl,rfl,rfl,rfl,rfl,rfl,trivial⟩,⟨rfl,rfl,rfl,rfl,rfl,rfl,rfl,rfl,trivial⟩⟩;dsimp only;(refine⟨⟨o_,o_⟩,?_,?_⟩<;>first | assumption | omega))
      ·(refine⟨(⟨_,_,_,_,_,_,_,_,_⟩,_),?_,⟨rfl,rfl,rfl,rfl,rfl,rfl,trivial⟩,⟨rfl,rfl,rfl,rfl,rfl,rfl,rfl,rfl,trivial⟩⟩;dsimp only;(refine⟨⟨o_,o_⟩,?_,?_⟩<;>first | assumption | omega))
    ·refine⟨(fun h=>nomatch h),fun _=>?_⟩;(refine⟨(⟨_,_,_,_,_,_,_,_,_⟩,_),?_,⟨rfl,rfl,rfl,rfl,rfl,rfl,trivial⟩,⟨rfl,rfl,rfl,rfl,rfl,rfl,rfl,rfl,trivial⟩⟩;dsimp only;(refine⟨⟨o_,o_⟩,?_,?_⟩<;>first | assumption | omega))
  ·refine⟨(fun h=>nomatch h),fun _=>?_⟩;refine⟨fun hs=>?_,fun _=>?_⟩
   ·simp only[decide_eq_true_eq,ge_iff_le] at hs;refine⟨0,1,cap,zs,_,_,rfl,⟨rfl,rfl⟩,⟨hz,o_,o_⟩,⟨_,rfl,o_,o_⟩,?_⟩;rintro _ k2 ⟨b2,rfl,hk2⟩;refine⟨fun _=>?_,fun _=>?_⟩
    ·refine⟨fun _=>?_,fun h=>nomatch h⟩;(refine⟨(⟨_,_,_,_,_,_,_,_,_⟩,_),?_,⟨rfl,rfl,rfl,rfl,rfl,rfl,trivial⟩,⟨rfl,rfl,rfl,rfl,rfl,rfl,rfl,rfl,trivial⟩⟩;dsimp only;(refine⟨⟨o_,o_⟩,?_,?_⟩<;>first | assumption | omega))
    ·refine⟨fun _=>?_,fun _=>?_⟩
     ·(refine⟨(⟨_,_,_,_,_,_,_,_,_⟩,_),?_,⟨rfl,rfl,rfl,rfl,rfl,rfl,trivial⟩,⟨rfl,rfl,rfl,rfl,rfl,rfl,rfl,rfl,trivial⟩⟩;dsimp only;(refine⟨⟨o_,o_⟩,?_,?_⟩<;>first | assumption | omega))
     ·(refine⟨(⟨_,_,_,_,_,_,_,_,_⟩,_),?_,⟨rfl,rfl,rfl,rfl,rfl,rfl,trivial⟩,⟨rfl,rfl,rfl,rfl,rfl,rfl,rfl,rfl,trivial⟩⟩;dsimp only;(refine⟨⟨o_,o_⟩,?_,?_⟩<;>first | assumption | omega))
   ·refine⟨(fun h=>nomatch h),fun _=>?_⟩;(refine⟨(⟨_,_,_,_,_,_,_,_,_⟩,_),?_,⟨rfl,rfl,rfl,rfl,rfl,rfl,trivial⟩,⟨rfl,rfl,rfl,rfl,rfl,rfl,rfl,rfl,trivial⟩⟩;dsimp only;(refine⟨⟨o_,o_⟩,?_,?_⟩<;>first | assumption | omega))
 ·rintro⟨⟨ekind,etick,etenant,ecell,eother,eepoch,esince,etill,en⟩,kk⟩ ⟨hkk,hcell⟩;refine⟨⟨d_,rfl,rfl⟩,?_⟩;simp only at hkk hcell;refine⟨Ent×Int,fun _=>[],fun y=>match y with | (⟨a1,a2,a3,a4,a5,a6,a7,a8,a9⟩,kk)=>[(0,zaU 1 zs.length cap kk),(12,.box 43 [.int .i64 a1,.int .i64 a2,.int .i64 a3,.int .i64 a4,.int .i64 a5,.int .i64 a6,.int .i64 a7,.int .i64 a8,.int .i64 a9])],fun y=>(k<=y.2/\y.2<=k+3)/\0<=y.1.cell/\y.1.cell<s.cells.length,?_,?_⟩
  ·refine⟨fun _=>?_,fun _=>?_⟩
   ·refine⟨fun _=>?_,fun h=>nomatch h⟩;refine⟨fun _=>?_,fun h=>nomatch h⟩;(refine⟨(⟨_,_,_,_,_,_,_,_,_⟩,_),?_,⟨rfl,rfl,rfl,rfl,rfl,rfl,trivial⟩,⟨rfl,rfl,rfl,rfl,rfl,rfl,rfl,rfl,trivial⟩⟩;dsimp only;(refine⟨⟨o_,o_⟩,?_,?_⟩<;>first | assumption | omega))
   ·refine⟨fun _=>?_,fun _=>?_⟩
    ·refine⟨fun _=>?_,fun h=>nomatch h⟩;(refine⟨(⟨_,_,_,_,_,_,_,_,_⟩,_),?_,⟨rfl,rfl,rfl,rfl,rfl,rfl,trivial⟩,⟨rfl,rfl,rfl,rfl,rfl,rfl,rfl,rfl,trivial⟩⟩;dsimp only;(refine⟨⟨o_,o_⟩,?_,?_⟩<;>first | assumption | omega))
    ·refine⟨0,1,cap,zs,_,_,rfl,⟨rfl,rfl⟩,⟨hz,o_,o_⟩,⟨_,rfl,o_,o_⟩,?_⟩;rintro _ k3 ⟨b3,rfl,hk3⟩;refine⟨fun _=>?_,fun _=>?_⟩
     ·(refine⟨(⟨_,_,_,_,_,_,_,_,_⟩,_),?_,⟨rfl,rfl,rfl,rfl,rfl,rfl,trivial⟩,⟨rfl,rfl,rfl,rfl,rfl,rfl,rfl,rfl,trivial⟩⟩;dsimp only;(refine⟨⟨o_,o_⟩,?_,?_⟩<;>first | assumption | omega))
     ·(refine⟨(⟨_,_,_,_,_,_,_,_,_⟩,_),?_,⟨rfl,rfl,rfl,rfl,rfl,rfl,trivial⟩,⟨rfl,rfl,rfl,rfl,rfl,rfl,rfl,rfl,trivial⟩⟩;dsimp only;(refine⟨⟨o_,o_⟩,?_,?_⟩<;>first | assumption | omega))
  ·rintro⟨⟨ekind,etick,etenant,ecell,eother,eepoch,esince,etill,en⟩,kk⟩ ⟨hkk,hcell⟩;refine⟨⟨d_,rfl,rfl⟩,?_⟩;simp only at hkk hcell;refine⟨Ent×Int,fun _=>[],fun y=>match y with | (⟨a1,a2,a3,a4,a5,a6,a7,a8,a9⟩,kk)=>[(0,zaU 1 zs.length cap kk),(12,.box 43 [.int .i64 a1,.int .i64 a2,.int .i64 a3,.int .i64 a4,.int .i64 a5,.int .i64 a6,.int .i64 a7,.int .i64 a8,.int .i64 a9])],fun y=>(k<=y.2/\y.2<=k+4)/\0<=y.1.cell/\y.1.cell<s.cells.length,?_,?_⟩
   ·refine⟨fun _=>?_,fun _=>?_⟩
    ·refine⟨0,1,cap,zs,_,_,rfl,⟨rfl,rfl⟩,⟨hz,o_,o_⟩,⟨_,rfl,o_,o_⟩,?_⟩;rintro _ k3 ⟨_,r3,hnn,rfl,⟨hr3,hk3⟩⟩;cases hnn
     refine⟨fun _=>?_,fun _=>?_⟩
     ·(refine⟨(⟨_,_,_,_,_,_,_,_,_⟩,_),?_,⟨rfl,rfl,rfl,rfl,rfl,rfl,trivial⟩,⟨rfl,rfl,rfl,rfl,rfl,rfl,rfl,rfl,trivial⟩⟩;dsimp only;(refine⟨⟨o_,o_⟩,?_,?_⟩<;>first | assumption | omega))
     ·(refine⟨(⟨_,_,_,_,_,_,_,_,_⟩,_),?_,⟨rfl,rfl,rfl,rfl,rfl,rfl,trivial⟩,⟨rfl,rfl,rfl,rfl,rfl,rfl,rfl,rfl,trivial⟩⟩;dsimp only;(refine⟨⟨o_,o_⟩,?_,?_⟩<;>first | assumption | omega))
    ·refine⟨(fun h=>nomatch h),fun _=>?_⟩;(refine⟨(⟨_,_,_,_,_,_,_,_,_⟩,_),?_,⟨rfl,rfl,rfl,rfl,rfl,rfl,trivial⟩,⟨rfl,rfl,rfl,rfl,rfl,rfl,rfl,rfl,trivial⟩⟩;dsimp only;(refine⟨⟨o_,o_⟩,?_,?_⟩<;>first | assumption | omega))
   ·rintro⟨⟨ekind,etick,etenant,ecell,eother,eepoch,esince,etill,en⟩,kk⟩ ⟨hkk,hcell⟩;refine⟨⟨d_,rfl,rfl⟩,?_⟩;simp only at hkk hcell;refine⟨Ent×Int,fun _=>[],fun y=>match y with | (⟨a1,a2,a3,a4,a5,a6,a7,a8,a9⟩,kk)=>[(0,zaU 1 zs.length cap kk),(12,.box 43 [.int .i64 a1,.int .i64 a2,.int .i64 a3,.int .i64 a4,.int .i64 a5,.int .i64 a6,.int .i64 a7,.int .i64 a8,.int .i64 a9])],fun y=>(k<=y.2/\y.2<=k+6)/\0<=y.1.cell/\y.1.cell<s.cells.length,?_,?_⟩
    ·refine⟨0,1,cap,zs,_,_,rfl,⟨rfl,rfl⟩,⟨hz,o_,o_⟩,⟨_,rfl,o_,o_⟩,?_⟩;rintro _ k3 ⟨b3,rfl,hk3⟩;refine⟨fun _=>?_,fun _=>?_⟩
     ·refine⟨0,1,cap,zs,_,_,rfl,⟨rfl,rfl⟩,⟨hz,o_,o_⟩,⟨_,rfl,o_,o_⟩,?_⟩;rintro _ k4 ⟨_,r4,hnn,rfl,⟨hr4,hk4⟩⟩;cases hnn
      refine⟨⟨rfl,trivial⟩,?_⟩;(refine⟨(⟨_,_,_,_,_,_,_,_,_⟩,_),?_,⟨rfl,rfl,rfl,rfl,rfl,rfl,trivial⟩,⟨rfl,rfl,rfl,rfl,rfl,rfl,rfl,rfl,trivial⟩⟩;dsimp only;(refine⟨⟨o_,o_⟩,?_,?_⟩<;>first | assumption | omega))
     ·(refine⟨(⟨_,_,_,_,_,_,_,_,_⟩,_),?_,⟨rfl,rfl,rfl,rfl,rfl,rfl,trivial⟩,⟨rfl,rfl,rfl,rfl,rfl,rfl,rfl,rfl,trivial⟩⟩;dsimp only;(refine⟨⟨o_,o_⟩,?_,?_⟩<;>first | assumption | omega))
    ·rintro⟨⟨ekind,etick,etenant,ecell,eother,eepoch,esince,etill,en⟩,kk⟩ ⟨hkk,hcell⟩;refine⟨⟨d_,rfl,rfl⟩,?_⟩;simp only at hkk hcell;refine⟨0,1,cap,zs,_,_,rfl,⟨rfl,rfl⟩,⟨hz,o_,o_⟩,⟨_,_,rfl,o_,o_,o_⟩,?_⟩;rintro _ k3 ⟨_,_,r3,hnn,rfl,hr3,hk3⟩;cases hnn
     refine⟨⟨rfl,rfl,trivial⟩,?_⟩;refine⟨⟨nl_,o_,o_⟩,?_⟩;refine⟨Ent×Int,fun _=>[],fun y=>match y with | (⟨a1,a2,a3,a4,a5,a6,a7,a8,a9⟩,kk)=>[(0,zaU 1 zs.length cap kk),(12,.box 43 [.int .i64 a1,.int .i64 a2,.int .i64 a3,.int .i64 a4,.int .i64 a5,.int .i64 a6,.int .i64 a7,.int .i64 a8,.int .i64 a9])],fun y=>(k<=y.2/\y.2<=k+9)/\0<=y.1.cell/\y.1.cell<s.cells.length,?_,?_⟩
     ·refine⟨0,1,cap,zs,_,_,rfl,⟨rfl,rfl⟩,⟨hz,o_,o_⟩,⟨_,rfl,o_,o_⟩,?_⟩;rintro _ k5 ⟨b5,rfl,hk5⟩;refine⟨fun _=>?_,fun _=>?_⟩
      ·refine⟨Ent×Int,fun _=>[],fun y=>match y with | (⟨a1,a2,a3,a4,a5,a6,a7,a8,a9⟩,kk)=>[(0,zaU 1 zs.length cap kk),(12,.box 43 [.int .i64 a1,.int .i64 a2,.int .i64 a3,.int .i64 a4,.int .i64 a5,.int .i64 a6,.int .i64 a7,.int .i64 a8,.int .i64 a9])],fun y=>(k<=y.2/\y.2<=k+9)/\0<=y.1.cell/\y.1.cell<s.cells.length,?_,?_⟩
       ·refine⟨?_,?_,?_⟩
        ·refine⟨trivial,?_⟩;refine⟨?_,?_⟩
         ·refine⟨trivial,?_⟩;refine⟨0,1,cap,zs,_,_,rfl,⟨rfl,rfl⟩,⟨hz,o_,o_⟩,⟨_,rfl,o_,o_⟩,?_⟩;rintro _ k4 ⟨_,r4,hnn,rfl,⟨hr4,hk4⟩⟩;cases hnn
          refine⟨trivial,?_⟩;refine⟨trivial,?_⟩;(refine⟨(⟨_,_,_,_,_,_,_,_,_⟩,_),?_,⟨rfl,rfl,rfl,rfl,rfl,rfl,trivial⟩,⟨rfl,rfl,rfl,rfl,rfl,rfl,rfl,rfl,trivial⟩⟩;dsimp only;(refine⟨⟨o_,o_⟩,?_,?_⟩<;>first | assumption | omega))
         ·refine⟨0,1,cap,zs,_,_,rfl,⟨rfl,rfl⟩,⟨hz,o_,o_⟩,⟨_,rfl,o_,o_⟩,?_⟩;rintro _ k4 ⟨_,r4,hnn,rfl,⟨hr4,hk4⟩⟩;cases hnn
          refine⟨trivial,?_⟩;refine⟨trivial,?_⟩;refine⟨trivial,?_⟩;(refine⟨(⟨_,_,_,_,_,_,_,_,_⟩,_),?_,⟨rfl,rfl,rfl,rfl,rfl,rfl,trivial⟩,⟨rfl,rfl,rfl,rfl,rfl,rfl,rfl,rfl,trivial⟩⟩;dsimp only;(refine⟨⟨o_,o_⟩,?_,?_⟩<;>first | assumption | omega))
        ·refine⟨trivial,?_⟩;refine⟨?_,?_⟩
         ·refine⟨trivial,?_⟩;refine⟨0,1,cap,zs,_,_,rfl,⟨rfl,rfl⟩,⟨hz,o_,o_⟩,⟨_,rfl,o_,o_⟩,?_⟩;rintro _ k4 ⟨_,r4,hnn,rfl,⟨hr4,hk4⟩⟩;cases hnn
          refine⟨trivial,?_⟩;refine⟨trivial,?_⟩;(refine⟨(⟨_,_,_,_,_,_,_,_,_⟩,_),?_,⟨rfl,rfl,rfl,rfl,rfl,rfl,trivial⟩,⟨rfl,rfl,rfl,rfl,rfl,rfl,rfl,rfl,trivial⟩⟩;dsimp only;(refine⟨⟨o_,o_⟩,?_,?_⟩<;>first | assumption | omega))
         ·refine⟨0,1,cap,zs,_,_,rfl,⟨rfl,rfl⟩,⟨hz,o_,o_⟩,⟨_,rfl,o_,o_⟩,?_⟩;rintro _ k4 ⟨_,r4,hnn,rfl,⟨hr4,hk4⟩⟩;cases hnn
          refine⟨trivial,?_⟩;refine⟨trivial,?_⟩;refine⟨trivial,?_⟩;(refine⟨(⟨_,_,_,_,_,_,_,_,_⟩,_),?_,⟨rfl,rfl,rfl,rfl,rfl,rfl,trivial⟩,⟨rfl,rfl,rfl,rfl,rfl,rfl,rfl,rfl,trivial⟩⟩;dsimp only;(refine⟨⟨o_,o_⟩,?_,?_⟩<;>first | assumption | omega))
        ·refine⟨0,1,cap,zs,_,_,rfl,⟨rfl,rfl⟩,⟨hz,o_,o_⟩,⟨_,rfl,o_,o_⟩,?_⟩;rintro _ k4 ⟨_,r4,hnn,rfl,⟨hr4,hk4⟩⟩;cases hnn
         refine⟨trivial,?_⟩;refine⟨?_,?_⟩
         ·refine⟨trivial,?_⟩;refine⟨trivial,?_⟩;refine⟨trivial,?_⟩;(refine⟨(⟨_,_,_,_,_,_,_,_,_⟩,_),?_,⟨rfl,rfl,rfl,rfl,rfl,rfl,trivial⟩,⟨rfl,rfl,rfl,rfl,rfl,rfl,rfl,rfl,trivial⟩⟩;dsimp only;(refine⟨⟨o_,o_⟩,?_,?_⟩<;>first | assumption | omega))
         ·refine⟨trivial,?_⟩;refine⟨trivial,?_⟩;refine⟨trivial,?_⟩;(refine⟨(⟨_,_,_,_,_,_,_,_,_⟩,_),?_,⟨rfl,rfl,rfl,rfl,rfl,rfl,trivial⟩,⟨rfl,rfl,rfl,rfl,rfl,rfl,rfl,rfl,trivial⟩⟩;dsimp only;(refine⟨⟨o_,o_⟩,?_,?_⟩<;>first | assumption | omega))
       ·rintro⟨⟨ekind,etick,etenant,ecell,eother,eepoch,esince,etill,en⟩,kk⟩ ⟨hkk,hcell⟩;refine⟨⟨d_,rfl,rfl⟩,?_⟩;simp only at hkk hcell;(refine⟨(⟨_,_,_,_,_,_,_,_,_⟩,_),?_,⟨rfl,rfl,rfl,rfl,rfl,rfl,trivial⟩,⟨rfl,rfl,rfl,rfl,rfl,rfl,rfl,rfl,trivial⟩⟩;dsimp only;(refine⟨⟨o_,o_⟩,?_,?_⟩<;>first | assumption | omega))
      ·(refine⟨(⟨_,_,_,_,_,_,_,_,_⟩,_),?_,⟨rfl,rfl,rfl,rfl,rfl,rfl,trivial⟩,⟨rfl,rfl,rfl,rfl,rfl,rfl,rfl,rfl,trivial⟩⟩;dsimp only;(refine⟨⟨o_,o_⟩,?_,?_⟩<;>first | assumption | omega))
     ·rintro⟨⟨ekind,etick,etenant,ecell,eother,eepoch,esince,etill,en⟩,kk⟩ ⟨hkk,hcell⟩;refine⟨⟨d_,rfl,rfl⟩,?_⟩;simp only at hkk hcell;exact⟨kk,⟨⟨⟨_,_,_,_,_,_,_,_,_⟩,rfl⟩,o_,o_⟩,zap ⟨_,_,_,_,_,_,_,_,_⟩,rfl⟩
def preGrant (c:Cfg) (s:St) (args:List Value) (k:Int):Prop:=(CfgV c/\StInv c s)/\∃ e,args=[entV' e]/\(0<=e.tenant/\e.tenant<s.tenants.length)/\(zaA s e.tenant).placed=true
def ctGrant:CT:=ctGen (fun _ _ _ _=>EntR) preGrant
theorem grantOk:CSound Tryz.prog 71 ctGrant:=genOk k_ (by
  rintro c s args k ⟨-,e,rfl,-⟩ v hv;simp at hv;subst hv
  exact zap e) (by
 rintro args g A cap zs k x c y s w hz hk0 hk1 ⟨⟨hV,hI⟩,e,rfl,h0,h1⟩ ht hc hs;refine zfU ggrFok Tryz.func71 rfl (D:=ggrD) k_ rfl (fun v hv=>by simp at hv;subst hv;exact zap e) g A cap zs k x c y s w ht hc hs (R:=EntR k) ?_
 exact grant_sx cap zs k _ c _ s e hz ⟨hk0,o_⟩ hV hI h0 h1)
theorem zjS {C:Ctx} {ρ:Nat->Pl} {fr:AF} {mem:AM} {nx:Nat} {a:Act} {w w':World} (hs:Sat C ρ fr mem nx a w) {l:List Int} {A:Option Addr} {cp:Nat} (ho:w'.ownsRow w.heap.size 3 1 (.slice A l.length cp) l.length (zaJ zaw l)) (hb:Below w.heap.size w w') :
  Sat C (zac ρ nx ⟨A,1,l.length,false,za4⟩) fr ((nx,zb6 l)::mem) (nx+1) a w'/\den (zac ρ nx ⟨A,1,l.length,false,za4⟩) (slc nx l.length cp)=.slice A l.length cp/\okV (zac ρ nx ⟨A,1,l.length,false,za4⟩) (nx+1) (slc nx l.length cp):=by
 have hrd:=Rd.of_own ho;refine⟨hs.add hb (zaL (enc:=zaw) (sz:=1) (fun _=>rfl) o_ zaS 0 (za2 _ _ _) hrd (fun b hb=>hb.2)) ?_ rfl,by simp[den,zaW,zal,zau,zaq,za2],⟨Nat.lt_succ_self nx,by rw[za2]⟩⟩;intro g hg;cases A with
 | none=>simp at hg
 | some ad=>
  simp at hg;subst hg;exact (ho.lt _ rfl).1
def ctHomes:CT:=fun vs mem nx K=>∃ N x c t,vs=[zaX N x c,.int .i64 t]/\keeps mem (zcH N c)/\CfgV c/\∀ (l:List Int) cp,l.length<=16->K (slc nx l.length cp) ((nx,zb6 l)::mem) (nx+1)
theorem homesOk:CSound Tryz.prog 69 ctHomes:=⟨k_,fun {C ρ fr mem nx a w vs K} hc hs hv=>by
 obtain⟨N,x,c,t,rfl,hk,hV,hK⟩:=hc;rw[show [zaX N x c,.int .i64 t].map (den ρ)=[.agg (zaH (zdp ρ N x) c),.int .i64 t] by rw[List.map_cons,zaP];rfl];refine (ziG (zdp ρ N x) c t w hV (hs.cfg hk (fun b hb _=>hb))).mono ?_;rintro e w' ⟨A,cp,rfl,ho,hb⟩;obtain⟨h1,h2,h3⟩:=zjS hs ho hb
 exact⟨_,_,_,_,by rw[h2],hK _ cp (Nat.le_trans (zcC _ _) hV.nc.2),h1,h3,ExtS.set _ _ _⟩⟩
def ctStandbys:CT:=fun vs mem nx K=>∃ N x c t h,vs=[zaX N x c,.int .i64 t,.int .i64 h]/\keeps mem (zcH N c)/\CfgV c/\∀ (l:List Int) cp,l.length<=16->K (slc nx l.length cp) ((nx,zb6 l)::mem) (nx+1)
theorem zkf:CSound Tryz.prog 70 ctStandbys:=⟨k_,fun {C ρ fr mem nx a w vs K} hc hs hv=>by
 obtain⟨N,x,c,t,h,rfl,hk,hV,hK⟩:=hc;rw[show [zaX N x c,.int .i64 t,.int .i64 h].map (den ρ)=[.agg (zaH (zdp ρ N x) c),.int .i64 t,.int .i64 h] by rw[List.map_cons,zaP];rfl];refine (zgc (zdp ρ N x) c t h w hV (hs.cfg hk (fun b hb _=>hb))).mono ?_;rintro e w' ⟨A,cp,rfl,ho,hb⟩;obtain⟨h1,h2,h3⟩:=zjS hs ho hb
 exact⟨_,_,_,_,by rw[h2],hK _ cp (Nat.le_trans (zcC _ _) hV.nc.2),h1,h3,ExtS.set _ _ _⟩⟩
/-! pick -/
theorem pick_sx (cap cp:Nat) (zs l:List Int) (k:Int) (hz:zs.length<=400) (hk:0<=k/\k<=990000) (hl:l.length<=16) :
  sx tt tpF [] (za1 Tryz.f68) (zb3 0 [ptr 0,slc 2 l.length cp]) [(0,zaU 1 zs.length cap k),(1,zb6 zs),(2,zb6 l)] 3
   (zb8 tt Tryz.f68.results.toList fun v mem' _=>∃ k',(∃ r,v=.int .i64 r/\k<=k'/\k'<=k+1)/\lk mem' 0=some (zaU 1 zs.length cap k')):=by
 refine⟨fun _=>?_,fun h0=>?_⟩
 ·exact⟨k,⟨_,rfl,o_,o_⟩,rfl⟩
 ·have hpos:(l.length:Int)≠0:=by simpa using h0
  refine⟨0,1,cap,zs,_,_,rfl,⟨rfl,rfl⟩,⟨hz,o_,o_⟩,⟨_,rfl,o_,o_⟩,?_⟩;rintro _ k1 ⟨_,r1,hnn,rfl,⟨hr1,hk1⟩⟩;cases hnn
  refine⟨⟨nl_,o_,o_⟩,?_⟩;exact⟨k1,⟨_,rfl,o_,o_⟩,rfl⟩
def ctPick:CT:=fun vs mem nx K=>∃ i r cap zs k j cp l,vs=[ptr i,slc j (l:List Int).length cp]/\(lk mem i=some (zaU r (zs:List Int).length cap k)/\lk mem r=some (zb6 zs)/\lk mem j=some (zb6 l))/\(zs.length<=400/\0<=k/\k<=990000)/\l.length<=16/\
 ∀ z k',k<=k'/\k'<=k+1->K (.int .i64 z) ((i,zaU r zs.length cap k')::mem) nx
theorem pickOk:CSound Tryz.prog 68 ctPick:=⟨k_,fun {C ρ fr mem nx a w vs K} hc hs hv=>by
 obtain⟨i,r,cap,zs,k,j,cp,l,rfl,⟨hi,hr,hj⟩,⟨hz,hk0,hk1⟩,hl,hK⟩:=hc;obtain⟨g,hA,ht,hok⟩:=hs.tape hi hr;have hrl:=hs.rd (enc:=zaw) (sz:=1) (fun _=>rfl) o_ hj (S:=fun b=>b≠g/\b<w.heap.size) (fun b hlt hb=>⟨by rintro rfl;exact hb i _ _ hi (by simp[bno,hA]),hlt⟩);let σ:Nat->Pl:=fun q=>match q with | 0=>⟨some ⟨g,0,none⟩,0,0,false,za4⟩ | 1=>⟨(ρ r).A,1,zs.length,false,za4⟩ | _=>⟨(ρ j).A,1,l.length,false,za4⟩
 have one:∀ {l:List Int} {Ar:Option Addr},Rd w (fun b=>b≠g/\b<w.heap.size) Ar (zaJ zaw l)->l.length=0∨Ar.map (·.block)≠some g:=by
  intro l Ar hrd;by_cases h0:l.length=0
  ·exact .inl h0
  ·obtain⟨b,off,x,hA,hb,-,-⟩:=hrd.row (enc:=zaw) (sz:=1) (fun _=>rfl) o_ (k:=0) o_;subst hA;exact .inr (by simp;exact hb.1)
 have hm:=MemAt.one (ρ:=σ) (nx:=3) (nt:=Tryz.f68.ntmps) (w:=w) (mem:=[(1,zb6 zs),(2,zb6 l)]) (g:=g) (i:=0) (t:=144) (cs:=[slc 1 zs.length cap,.int .i64 k]) trivial o_ rfl
  ⟨g,rfl,by
   have:=ht.blk
   simpa [zal,zau,zaq,σ] using this,.inr (by simp),fun v hv=>by
    simp at hv
    rcases hv with rfl | rfl
    ·exact⟨show (1:Nat)<3 by decide,rfl⟩
    ·trivial⟩
  ⟨⟨o_,rfl,zaL (enc:=zaw) (sz:=1) (fun _=>rfl) o_ zaS 0 rfl ht.row (fun b hb=>hb.2)⟩,⟨o_,rfl,zaL (enc:=zaw) (sz:=1) (fun _=>rfl) o_ zaS 0 rfl hrl (fun b hb=>hb.2)⟩,trivial⟩ (fun q t sz n el hq=>by
   rcases za5 hq with⟨rfl,e⟩ | ⟨_,hq⟩
   ·cases e;exact one ht.row
   rcases za5 hq with⟨rfl,e⟩ | ⟨_,hq⟩
   ·cases e;exact one hrl
   ·simp[lk] at hq)
 have hvs:[ptr i,slc j l.length cp].map (den ρ)=[ptr 0,slc 2 l.length cp].map (den σ):=by simp[den,zaW,zal,zau,zaq,hA,σ]
 rw[hvs];refine (zcu zg6 tpFok mixed Tryz.func68 rfl (D:=[]) k_ (vs:=[ptr 0,slc 2 l.length cp]) rfl ⟨rfl,rfl⟩ rfl hm (fun v hv=>?_) (pick_sx cap cp zs l k hz ⟨hk0,hk1⟩ hl)).mono ?_
 ·simp at hv;rcases hv with rfl | rfl
  ·exact⟨⟨show (0:Nat)<3 by decide,rfl⟩,⟨g,0,rfl⟩,fun k hk=>by cases hk⟩
  ·exact⟨show (2:Nat)<3 by decide,rfl⟩
 ·rintro e w' ⟨v,mem',nx',ρ',rfl,⟨k',⟨z,rfl,hkk⟩,hlk⟩,-,hm'⟩;have e0:ρ' 0=σ 0:=hm'.low 0 (show (0:Nat)<3 by decide);have e1:ρ' 1=σ 1:=hm'.low 1 (show (1:Nat)<3 by decide);obtain⟨g',hA',hb,-,-⟩:=hm'.blk 0 _ hlk;rw[e0] at hA';cases hA'
  have hgr:w.grownBy w' (some g):=⟨hm'.rest.os,hm'.rest.tape,hm'.rest.output,hm'.rest.size,fun b hlt hne=>hm'.rest.block b hlt (by simp;intro q;exact hne (by rw[q]))⟩;refine⟨.int .i64 z,_,nx,ρ,rfl,hK z k' hkk,hs.grownBox (cs':=[slc r zs.length cap,.int .i64 k']) hi hA hgr ?_ ?_,trivial,ExtS.refl _ _⟩
  ·simpa [zal,zau,zaq,e1,σ] using hb
  ·intro u hu;simp at hu;rcases hu with rfl | rfl
   ·exact hok
   ·trivial⟩
def entryF:FT:=[(31,ctNext),(33,ctYes),(66,ctPlatform),(71,ctGrant),(67,ctNone),(68,ctPick),(69,ctHomes),(70,ctStandbys)]
theorem entryFok:FTok Tryz.prog entryF:=zan zhM (zan yesOk (zan zkC (zan grantOk (zan noneOk (zan pickOk (zan homesOk (zan zkf zb7)))))))
def entryD:List (Nat×DQ):=[
 (1,{ k:=5,L:=[11],pre:=[(0,false),(1,false),(2,false),(3,true),(4,false)] }),
 (19,{ k:=5,L:=[13],pre:=[(0,false),(1,false),(2,false),(3,false),(4,true)] }),
 (23,{ k:=5,L:=[13],pre:=[(0,false),(1,false),(2,false),(3,false),(4,true)] }),
 (1000004,{ k:=13,L:=[1,2,3,4,5,6,7,8,9,10,11,12],sl:=[0,4,5,6] }),(1000032,{ k:=15,L:=[12],sl:=[6,11] })]
def EntR2 (zs:List Int) (k:Int) (v:Value) (k':Int):Prop:=(∃ en,v=entV' en)/\k<=k'/\k'<=k+40/\(zs.length≠0->k<k')
theorem entry_sx (cap:Nat) (zs:List Int) (k:Int) (x:CfgK) (c:Cfg) (y:StK) (s:St) (hz:zs.length<=400) (hk:0<=k/\k<=880000) (hV:CfgV c) (hI:StInv c s) :
  sx tt entryF entryD (za1 Tryz.f36) (zb3 0 (ptr 0::zaX CN0 x c::stV SN0 y s::[])) ((0,zaU 1 zs.length cap k)::(1,zb6 zs)::(zcH CN0 c++stM SN0 s)) 10
   (zb8 tt Tryz.f36.results.toList fun v mem' _=>∃ k',EntR2 zs k v k'/\zbJ v/\lk mem' 0=some (zaU 1 zs.length cap k')):=by
 have hnc:=hV.nc;have hnt:=hV.nt;have hlt:=hI.lt;have htk:=hI.tick;refine⟨0,1,cap,zs,_,_,rfl,⟨rfl,rfl⟩,⟨hz,o_,o_⟩,⟨_,rfl,o_,o_⟩,?_⟩;rintro _ k1 ⟨_,r1,hnn,rfl,⟨hr1,hk1⟩⟩;cases hnn
 refine⟨⟨rfl,trivial⟩,?_⟩;refine⟨Int×Int,fun y=>match y with | (tk,kk)=>[(7,.int .i64 tk)],fun y=>match y with | (tk,kk)=>[(0,zaU 1 zs.length cap kk)],fun y=>(0<=y.1/\y.1<=2147483648)/\k<=y.2/\y.2<=k+2/\(zs.length≠0->k<y.2),?_,?_⟩
 ·refine⟨0,1,cap,zs,_,_,rfl,⟨rfl,rfl⟩,⟨hz,o_,o_⟩,⟨_,rfl,o_,o_⟩,?_⟩;rintro _ k2 ⟨b2,rfl,hk2⟩;refine⟨fun _=>?_,fun _=>?_⟩
  ·(refine⟨(_,_),?_,⟨rfl,rfl,rfl,rfl,rfl,trivial⟩,⟨rfl,rfl,rfl,rfl,rfl,rfl,rfl,rfl,rfl,rfl,rfl,rfl,rfl,trivial⟩⟩;dsimp only;(split<;>(try rw[zaf o_] at *)<;>omega))
  ·(refine⟨(_,_),?_,⟨rfl,rfl,rfl,rfl,rfl,trivial⟩,⟨rfl,rfl,rfl,rfl,rfl,rfl,rfl,rfl,rfl,rfl,rfl,rfl,rfl,trivial⟩⟩;dsimp only;(rw[zaf o_];omega))
 ·rintro⟨tk,kk⟩ ⟨htk,hkk⟩;refine⟨⟨d_,rfl,rfl⟩,?_⟩;dsimp only at htk hkk;refine⟨fun h0=>?_,fun h0=>?_⟩
  ·refine⟨fun _=>?_,fun h=>nomatch h⟩;refine⟨0,1,cap,zs,_,CN0,x,c,SN0,y,s,[.int .i64 tk],rfl,⟨rfl,rfl⟩,⟨rfl,rfl,rfl,rfl,rfl,rfl,trivial⟩,⟨rfl,rfl,trivial⟩,⟨hz,o_,o_⟩,⟨⟨hV,hI⟩,tk,rfl,htk.1,htk.2⟩,?_⟩;rintro _ k9 ⟨⟨en,rfl⟩,hk9⟩;exact⟨k9,⟨⟨en,rfl⟩,o_,o_,o_⟩,zap en,rfl⟩
  ·have hpos:(c.tenants.length:Int)≠0:=by simpa using h0
   refine⟨0,1,cap,zs,_,_,rfl,⟨rfl,rfl⟩,⟨hz,o_,o_⟩,⟨_,rfl,o_,o_⟩,?_⟩;rintro _ k8 ⟨b8,rfl,hk8⟩;refine⟨fun _=>?_,fun _=>?_⟩
   ·refine⟨0,1,cap,zs,_,CN0,x,c,SN0,y,s,[.int .i64 tk],rfl,⟨rfl,rfl⟩,⟨rfl,rfl,rfl,rfl,rfl,rfl,trivial⟩,⟨rfl,rfl,trivial⟩,⟨hz,o_,o_⟩,⟨⟨hV,hI⟩,tk,rfl,htk.1,htk.2⟩,?_⟩;rintro _ k9 ⟨⟨en,rfl⟩,hk9⟩;exact⟨k9,⟨⟨en,rfl⟩,o_,o_,o_⟩,zap en,rfl⟩
   ·refine⟨0,1,cap,zs,_,_,rfl,⟨rfl,rfl⟩,⟨hz,o_,o_⟩,⟨_,rfl,o_,o_⟩,?_⟩;rintro _ k3 ⟨_,r3,hnn,rfl,⟨hr3,hk3⟩⟩;cases hnn
    refine⟨⟨nl_,o_,o_⟩,?_⟩;obtain⟨t,htd⟩:∃ t,t=s.tenants.getD r3.toNat default:=⟨_,rfl⟩;refine⟨fun hpl=>?_,fun hpl=>?_⟩
    ·refine⟨_,_,rfl,?_⟩;refine⟨CN0,x,c,_,rfl,⟨rfl,rfl,rfl,rfl,rfl,rfl,trivial⟩,hV,?_⟩;intro lH cpH hlH;refine⟨0,1,cap,zs,_,_,_,_,rfl,⟨rfl,rfl,rfl⟩,⟨hz,o_,o_⟩,by assumption,?_⟩;intro v4 k4 hk4;refine⟨CN0,x,c,_,_,rfl,⟨rfl,rfl,rfl,rfl,rfl,rfl,trivial⟩,hV,?_⟩;intro lS cpS hlS;refine⟨0,1,cap,zs,_,_,_,_,rfl,⟨rfl,rfl,rfl⟩,⟨hz,o_,o_⟩,by assumption,?_⟩;intro v5 k5 hk5;exact⟨k5,⟨⟨⟨_,_,_,_,_,_,_,_,_⟩,rfl⟩,o_,o_,o_⟩,zap ⟨_,_,_,_,_,_,_,_,_⟩,rfl⟩
    ·replace hpl:(zaA s r3).placed=true:=by unfold zaA;simpa using hpl
     refine⟨_,_,rfl,?_⟩;refine⟨Ent×Int,fun _=>[],fun y=>match y with | (⟨a1,a2,a3,a4,a5,a6,a7,a8,a9⟩,kk)=>[(0,zaU 1 zs.length cap kk),(14,.box 43 [.int .i64 a1,.int .i64 a2,.int .i64 a3,.int .i64 a4,.int .i64 a5,.int .i64 a6,.int .i64 a7,.int .i64 a8,.int .i64 a9])],fun y=>k<=y.2/\y.2<=k+10/\(zs.length≠0->k<y.2),?_,?_⟩
     ·refine⟨0,1,cap,zs,_,_,rfl,⟨rfl,rfl⟩,⟨hz,o_,o_⟩,⟨_,rfl,o_,o_⟩,?_⟩;rintro _ k6 ⟨_,r6,hnn,rfl,⟨hr6,hk6⟩⟩;cases hnn
      refine⟨fun _=>?_,fun _=>?_⟩
      ·refine⟨⟨rfl,trivial⟩,?_⟩;(refine⟨(⟨_,_,_,_,_,_,_,_,_⟩,_),?_,⟨rfl,rfl,trivial⟩,⟨rfl,rfl,rfl,trivial⟩⟩;dsimp only;omega)
      refine⟨fun _=>?_,fun _=>?_⟩
      ·refine⟨CN0,x,c,_,_,rfl,⟨rfl,rfl,rfl,rfl,rfl,rfl,trivial⟩,hV,?_⟩;intro lS cpS hlS;refine⟨0,1,cap,zs,_,_,_,_,rfl,⟨rfl,rfl,rfl⟩,⟨hz,o_,o_⟩,by assumption,?_⟩;intro v7 k7 hk7;(refine⟨(⟨_,_,_,_,_,_,_,_,_⟩,_),?_,⟨rfl,rfl,trivial⟩,⟨rfl,rfl,rfl,trivial⟩⟩;dsimp only;omega)
      refine⟨fun _=>?_,fun _=>?_⟩
      ·refine⟨⟨rfl,trivial⟩,?_⟩;(refine⟨(⟨_,_,_,_,_,_,_,_,_⟩,_),?_,⟨rfl,rfl,trivial⟩,⟨rfl,rfl,rfl,trivial⟩⟩;dsimp only;omega)
      refine⟨fun _=>?_,fun _=>?_⟩
      ·refine⟨CN0,x,c,_,rfl,⟨rfl,rfl,rfl,rfl,rfl,rfl,trivial⟩,hV,?_⟩;intro lH cpH hlH;refine⟨0,1,cap,zs,_,_,_,_,rfl,⟨rfl,rfl,rfl⟩,⟨hz,o_,o_⟩,by assumption,?_⟩;intro v7 k7 hk7;(refine⟨(⟨_,_,_,_,_,_,_,_,_⟩,_),?_,⟨rfl,rfl,trivial⟩,⟨rfl,rfl,rfl,trivial⟩⟩;dsimp only;omega)
      refine⟨fun _=>?_,fun _=>?_⟩
      ·(refine⟨(⟨_,_,_,_,_,_,_,_,_⟩,_),?_,⟨rfl,rfl,trivial⟩,⟨rfl,rfl,rfl,trivial⟩⟩;dsimp only;omega)
      refine⟨fun _=>?_,fun _=>?_⟩
      ·refine⟨fun _=>?_,fun _=>?_⟩
       ·(refine⟨(⟨_,_,_,_,_,_,_,_,_⟩,_),?_,⟨rfl,rfl,trivial⟩,⟨rfl,rfl,rfl,trivial⟩⟩;dsimp only;omega)
       ·(refine⟨(⟨_,_,_,_,_,_,_,_,_⟩,_),?_,⟨rfl,rfl,trivial⟩,⟨rfl,rfl,rfl,trivial⟩⟩;dsimp only;omega)
      refine⟨0,1,cap,zs,_,CN0,x,c,SN0,y,s,[entV' ⟨2,tk,r3,-1,-1,0,0,0,0⟩],rfl,⟨rfl,rfl⟩,⟨rfl,rfl,rfl,rfl,rfl,rfl,trivial⟩,⟨rfl,rfl,trivial⟩,⟨hz,o_,o_⟩,⟨⟨hV,hI⟩,⟨2,tk,r3,-1,-1,0,0,0,0⟩,rfl,⟨hr3.1,by show r3<_;omega⟩,hpl⟩,?_⟩;rintro _ k9 ⟨⟨en,rfl⟩,hk9⟩;exact⟨k9,⟨⟨en,rfl⟩,o_,o_,o_⟩,zap en,rfl⟩
     ·rintro⟨⟨ekind,etick,etenant,ecell,eother,eepoch,esince,etill,en⟩,k8⟩ hk8;refine⟨⟨d_,rfl,rfl⟩,?_⟩;dsimp only at hk8;exact⟨k8,⟨⟨⟨_,_,_,_,_,_,_,_,_⟩,rfl⟩,o_,o_,o_⟩,zap ⟨_,_,_,_,_,_,_,_,_⟩,rfl⟩
def ctEntry:CT:=ctGen (fun zs _ _ _=>EntR2 zs) fun c s args k=>(CfgV c/\StInv c s/\k<=880000)/\args=[]
theorem entryOk:CSound Tryz.prog 36 ctEntry:=genOk k_ (by
  rintro c s args k ⟨-,rfl⟩ v hv
  cases hv) (by
 rintro args g A cap zs k x c y s w hz hk0 hk1 ⟨⟨hV,hI,hk2⟩,rfl⟩ ht hc hs;refine zfU entryFok Tryz.func36 rfl (D:=entryD) k_ rfl (fun v hv=>by cases hv) g A cap zs k x c y s w ht hc hs (R:=EntR2 zs k) ?_
 exact entry_sx cap zs k _ c _ s hz ⟨hk0,hk2⟩ hV hI)
/-! make.Log: entries that are accepted one after the other. -/
def LenCap (n:Nat) (v:Value):Prop:=∃ A m cap,v=.slice A m cap/\n<=cap
def lgF:FT:=[(29,ctTapeNew),(34,ctNewR),(35,ctMore),(36,ctEntry),(37,ctApplyR)]
theorem lgFok:FTok Tryz.prog lgF:=zan zhg (zan newROk (zan moreOk (zan entryOk (zan applyROk zb7))))
def lgD:List (Nat×DQ):=[(3000004,{ k:=21,L:=[0,1,2,3,4,5,6,7,8,9,10,11,12,13],sl:=[2,4,7,8] })]
theorem log_sx (d:UD) (x:CfgK) (cap0:Nat) (n:Int) (hV:CfgV d.c) (hz:d.l0.length<=400) (hn:0<=n/\n<=1000) :
  sx tt lgF lgD (za1 Tryz.f8) (zb3 0 [slc 0 d.l0.length cap0,zaX CNu x d.c,.int .i64 n]) (uniM d) 13 (zb8 tt Tryz.f8.results.toList fun v mem' _=>∃ es s,Run d.c (zaB d.c) es s/\(es.length:Int)<=n/\SlR mem' 9 zbe default es v/\LenCap es.length v):=by
 have hnt:=hV.nt;have hnc:=hV.nc;refine⟨0,cap0,d.l0,rfl,rfl,o_,?_⟩;refine⟨CNu,x,d.c,rfl,kp_,⟨o_,o_,o_⟩,?_⟩;intro y0;refine⟨St×StK×Int×List Ent×Option (Nat×(Nat->List Value)),fun q=>match q with | (s,y,k,es,none)=>[(9,zs0)] | (s,y,k,es,some (cap,el))=>[(9,slc 20 es.length cap)],fun q=>match q with | (s,y,k,es,none)=>[(14,zaU 0 d.l0.length cap0 k),(17,.box 37 [.int .i64 s.tick,.int .i64 s.count,slc 18 s.tenants.length y.ct,slc 19 s.cells.length y.cc,.int .i64 s.proven,.int .i64 s.evac,.int .i64 s.low,.int .i64 s.high]),(18,zaz 500000 12 tsC default s.tenants),(19,zaz 500000 4 csC default s.cells)] | (s,y,k,es,some (cap,el))=>(20,.row (1000000+43) 9 cap el)::[(14,zaU 0 d.l0.length cap0 k),(17,.box 37 [.int .i64 s.tick,.int .i64 s.count,slc 18 s.tenants.length y.ct,slc 19 s.cells.length y.cc,.int .i64 s.proven,.int .i64 s.evac,.int .i64 s.low,.int .i64 s.high]),(18,zaz 500000 12 tsC default s.tenants),(19,zaz 500000 4 csC default s.cells)],fun q=>match q with | (s,y,k,es,o)=>Run d.c (zaB d.c) es s/\(0<=k/\k<=445)/\(es.length:Int)<=n/\match o with | none=>es=[] | some (cap,el)=>es.length<=cap/\∀ j,j<es.length->el j=zbe (es.getD j default),fun q=>match q with | (s,y,k,es,o)=>(1000-k).toNat,⟨(zaB d.c,y0,0,[],none),[(18,16),(19,15)],⟨.nil _,o_,by simpa using hn.1,rfl⟩,⟨rfl,rfl⟩,kp_,kp_⟩,?_⟩;rintro⟨s,y,k,es,(_ | ⟨cap,el⟩)⟩ ⟨hR,hk,hn2,ho⟩
 ·refine⟨⟨d_,rfl,rfl⟩,?_⟩;refine⟨fun hc=>?_,fun hc=>?_⟩
  ·refine⟨14,0,cap0,d.l0,_,[],rfl,⟨rfl,rfl⟩,⟨o_,o_,o_⟩,rfl,?_⟩;rintro _ k1 ⟨b1,rfl,rfl,hb1⟩;refine⟨fun hb=>?_,fun hb=>?_⟩
   ·have hkl:=hb1 hb;have hlen:(es.length:Int)<n:=by rw[show es=[] from ho];exact of_decide_eq_true hc
    clear hb1;have hI:=(hR.rinv hV (.new hV)).inv;have hcp:=(hR.rinv hV (.new hV)).cap;refine⟨14,0,cap0,d.l0,_,CNu,x,d.c,⟨18,19,500000⟩,y,s,[],rfl,⟨rfl,rfl⟩,kp_,kp_,⟨o_,o_,o_⟩,⟨⟨hV,hI,o_⟩,rfl⟩,?_⟩;rintro _ k2 ⟨⟨en,rfl⟩,hk2a,hk2b,hk2c⟩;refine⟨CNu,x,d.c,⟨18,19,500000⟩,y,s,en,rfl,⟨kp_,.list rfl,.list rfl⟩,⟨hV,hI⟩,?_⟩;intro y2;rw[znI hV hI hcp];refine⟨fun he=>?_,fun he=>?_⟩
    ·have he2:zao d.c s en=((zao d.c s en).1,0):=by
      have q:(zao d.c s en).2=0:=by simpa using he
      rw[← q]
     have he0:es=[]:=ho;subst he0;refine⟨⟨nl_,fun j hj=>by match j,hj with | 0,_=>rfl⟩,?_⟩;refine⟨fun h=>absurd h d_,fun _=>⟨d_,fun cap2 el2 ⟨hc2,_⟩ hel2=>?_⟩⟩;refine⟨((zao d.c s en).1,y2,k2,[en],some (cap2,el2)),[(18,23),(19,22),(20,26)],?_,⟨rfl,rfl⟩,kp_,kp_⟩;dsimp only;refine⟨⟨hR.snoc he2,o_,by simp;omega,hc2,fun j hj=>?_⟩,o_⟩;obtain rfl:j=0:=by simpa using hj
     exact hel2 0 o_
    ·refine⟨(s,y,k2,es,none),[],?_,⟨rfl,rfl⟩,kp_,kp_⟩;dsimp only;exact⟨⟨hR,o_,hn2,ho⟩,o_⟩
   ·exact⟨es,s,hR,hn2,.inl ⟨rfl,ho⟩,none,0,0,rfl,(by rw[ho];decide)⟩
  ·refine⟨bf_,fun _=>?_⟩;exact⟨es,s,hR,hn2,.inl ⟨rfl,ho⟩,none,0,0,rfl,(by rw[ho];decide)⟩
 ·refine⟨⟨d_,rfl,rfl⟩,?_⟩;refine⟨fun hc=>?_,fun hc=>?_⟩
  ·refine⟨14,0,cap0,d.l0,_,[],rfl,⟨rfl,rfl⟩,⟨o_,o_,o_⟩,rfl,?_⟩;rintro _ k1 ⟨b1,rfl,rfl,hb1⟩;refine⟨fun hb=>?_,fun hb=>?_⟩
   ·have hkl:=hb1 hb;have hlen:(es.length:Int)<n:=of_decide_eq_true hc;clear hb1;have hI:=(hR.rinv hV (.new hV)).inv;have hcp:=(hR.rinv hV (.new hV)).cap;refine⟨14,0,cap0,d.l0,_,CNu,x,d.c,⟨18,19,500000⟩,y,s,[],rfl,⟨rfl,rfl⟩,kp_,kp_,⟨o_,o_,o_⟩,⟨⟨hV,hI,o_⟩,rfl⟩,?_⟩;rintro _ k2 ⟨⟨en,rfl⟩,hk2a,hk2b,hk2c⟩;refine⟨CNu,x,d.c,⟨18,19,500000⟩,y,s,en,rfl,⟨kp_,.list rfl,.list rfl⟩,⟨hV,hI⟩,?_⟩;intro y2;rw[znI hV hI hcp];refine⟨fun he=>?_,fun he=>?_⟩
    ·have he2:zao d.c s en=((zao d.c s en).1,0):=by
      have q:(zao d.c s en).2=0:=by simpa using he
      rw[← q]
     refine⟨⟨nl_,fun j hj=>by match j,hj with | 0,_=>rfl⟩,?_⟩;refine⟨⟨rfl,ho.1⟩,fun hin el2 ⟨g1,_⟩ g2=>?_,fun hgt=>⟨by show (es.length+1) * 72<=140737488355328;omega,fun cap2 el2 ⟨hc2,_⟩ g1 g2=>?_⟩⟩
     ·rw[show es.length+1=(es++[en]).length by simp];refine⟨((zao d.c s en).1,y2,k2,es++[en],some (cap,el2)),[(18,23),(19,22)],?_,⟨rfl,rfl⟩,kp_,kp_⟩;dsimp only;refine⟨⟨hR.snoc he2,o_,by simp;omega,by first | exact hc2 | (simp;omega),fun j hj=>?_⟩,o_⟩;by_cases hjn:j<es.length
      ·rw[g1 j hjn,ho.2 j hjn,gd_,gd_,List.getElem?_append_left hjn]
      ·obtain rfl:j=es.length:=by simp at hj;omega
       have:=g2 0 o_;rw[Nat.add_zero] at this;rw[this,gd_,List.getElem?_append_right nl_,Nat.sub_self];rfl
     ·rw[show es.length+1=(es++[en]).length by simp] at hc2 ⊢;refine⟨((zao d.c s en).1,y2,k2,es++[en],some (cap2,el2)),[(18,23),(19,22),(20,26)],?_,⟨rfl,rfl⟩,kp_,kp_⟩;dsimp only;refine⟨⟨hR.snoc he2,o_,by simp;omega,by first | exact hc2 | (simp;omega),fun j hj=>?_⟩,o_⟩;by_cases hjn:j<es.length
      ·rw[g1 j hjn,ho.2 j hjn,gd_,gd_,List.getElem?_append_left hjn]
      ·obtain rfl:j=es.length:=by simp at hj;omega
       have:=g2 0 o_;rw[Nat.add_zero] at this;rw[this,gd_,List.getElem?_append_right nl_,Nat.sub_self];rfl
    ·refine⟨(s,y,k2,es,some (cap,el)),[],?_,⟨rfl,rfl⟩,kp_,kp_⟩;dsimp only;exact⟨⟨hR,o_,hn2,ho⟩,o_⟩
   ·exact⟨es,s,hR,hn2,.inr ⟨20,_,_,cap,el,rfl,rfl,rfl,ho.1,ho.2⟩,_,_,cap,rfl,ho.1⟩
  ·refine⟨bf_,fun _=>?_⟩;exact⟨es,s,hR,hn2,.inr ⟨20,_,_,cap,el,rfl,rfl,rfl,ho.1,ho.2⟩,_,_,cap,rfl,ho.1⟩
theorem ziQ (x:CfgA) (c:Cfg) (A0:Option Addr) (cap0:Nat) (l:List Int) (n:Int) (w:World) (hV:CfgV c) (hz:l.length<=400) (hn:0<=n/\n<=1000) (hc:CfgOk w (·<w.heap.size) x c) (hr:Rd w (·<w.heap.size) A0 (zaJ zaw l)) :
  Calls Tryz.prog 8 #[.slice A0 l.length cap0,.agg (zaH x c),.int .i64 n] w fun e w'=>∃ es s A cap,e=.returned (.slice A (es:List Ent).length cap)/\Run c (zaB c) es s/\(es.length:Int)<=n/\es.length<=cap/\Rd w' (fun b=>w.heap.size<=b/\b<w'.heap.size) A (zaJ zbe es)/\Below w.heap.size w w':=by
 have:=zfz zg6 (lgFok.i _) Tryz.func8 rfl (D:=lgD) k_ (vs:=[slc 0 l.length cap0,zaX CNu (ck x) c,.int .i64 n]) rfl { a0:=A0,x:=x } { l0:=l,c:=c } w { r0:=hr,c:=hc } (fun v hv=>by
  simp only[List.mem_cons,List.not_mem_nil,or_false] at hv
  rcases hv with rfl | rfl | rfl
  ·exact⟨show (0:Nat)<13 by decide,rfl⟩
  ·exact zgi { a0:=A0,x:=x } { l0:=l,c:=c }
  ·trivial) (log_sx { l0:=l,c:=c } (ck x) cap0 n hV hz hn)
 rw[List.map_cons,List.map_cons] at this;have e0:=zlK { a0:=A0,x:=x } { l0:=l,c:=c };dsimp only at e0 this;rw[e0] at this;refine this.mono ?_;rintro e w' ⟨v,mem',nx',ρ',rfl,⟨es,s,hR,hen,hS,A1,m1,cap1,rfl,hcap⟩,hv,hm',hb⟩;obtain⟨A,cp,e1,hr'⟩:=hm'.slR (enc:=zbe) (sz:=9) (fun _=>rfl) o_ hS;have e2:den ρ' (.slice A1 m1 cap1)=.slice A es.length cp:=e1;have e3:cap1=cp:=by cases A1<;>simp[zal] at e1<;>exact e1.2.2
 exact⟨es,s,A,cp,by rw[e2],hR,hen,e3 ▸ hcap,hr',hb⟩
def ctLog:CT:=fun vs mem nx K=>∃ N x c r cap l n,vs=[slc r (l:List Int).length cap,zaX N x c,.int .i64 n]/\(keeps mem (zcH N c)/\HasRow mem r 1 zaw 0 l)/\(CfgV c/\l.length<=400/\0<=n/\n<=1000)/\∀ es s cap',Run c (zaB c) es s->(es.length:Int)<=n->es.length<=cap'->K (slc nx es.length cap') ((nx,zaz 500000 9 zbe default es)::mem) (nx+1)
theorem logOk:CSound Tryz.prog 8 ctLog:=⟨k_,fun {C ρ fr mem nx a w vs K} hc hs hv=>by
 obtain⟨N,x,c,r,cap,l,n,rfl,⟨hk,hr⟩,⟨hV,hl,hn⟩,hK⟩:=hc;have e0:([slc r l.length cap,zaX N x c,.int .i64 n].map (den ρ)).toArray=#[.slice (ρ r).A l.length cap,.agg (zaH (zdp ρ N x) c),.int .i64 n]:=by
  rw[List.map_cons,List.map_cons,zaP];rfl
 rw[e0];refine (ziQ (zdp ρ N x) c (ρ r).A cap l n w hV hl hn (hs.cfg hk (fun b h _=>h)) (hs.hasRd (enc:=zaw) (sz:=1) (fun _=>rfl) o_ hr)).mono ?_;rintro e w' ⟨es,s,A,cp,rfl,hR,hen,hcp,hrd,hb⟩;obtain⟨q1,-⟩:=(hs.later hb).addList hs.frB hs.rest.size (enc:=zbe) (sz:=9) (fun _=>rfl) o_ zf0 default (t:=500000) rfl hrd;have q2:zac ρ nx ⟨A,9,es.length,false,za4⟩ nx=⟨A,9,es.length,false,za4⟩:=za2 _ _ _;refine⟨slc nx es.length cp,_,_,_,?_,hK es s cp hR hen hcp,q1,?_,fun i hi=>za8 _ _ hi,o_⟩
 ·show Ending.returned (.slice A es.length cp)=.returned (.slice (zac ρ nx ⟨A,9,es.length,false,za4⟩ nx).A es.length cp);rw[q2]
 ·exact⟨show nx<nx+1 by omega,by rw[q2]⟩⟩
theorem zgR (A:Option Addr) (n cp:Nat) (w:World) (hn:n<=maxLen):Calls Tryz.prog 6 #[.slice A n cp] w fun r w'=>r=.returned (.bool (decide (n<=200)))/\Below w.heap.size w w':=by
 refine (ziR A n cp w hn).mono ?_;rintro e w' ⟨h,rfl⟩;exact⟨h,Below.refl _ _⟩
def ctLight:CT:=fun vs mem nx K=>∃ Mz0 xz0 z0,vs=[slc Mz0 (z0:List Int).length xz0]/\(lk mem Mz0=some (zb6 z0))/\(z0.length<=maxLen)/\K (.bool (decide (z0.length<=200))) mem nx
theorem lightOk:CSound Tryz.prog 6 ctLight:=(zfM (R:=fun l z=>∃ z0,l=[.li z0]/\z=.bool (decide (z0.length<=200))) (pre:=fun l=>∃ z0,l=[.li z0]/\(z0.length<=maxLen)) k_ (by
 rintro ps w ⟨z0,hps,hpre⟩ hok;obtain⟨xz0,yz0,ps0,rfl,hps0⟩:=dt_l hps;obtain rfl:=zdE hps0;have hpz0:=hok (.li xz0 yz0 z0) (by simp);refine (zgR xz0 z0.length yz0 w hpre).mono ?_;rintro e w' ⟨rfl,hb⟩
 exact⟨_,⟨z0,rfl,rfl⟩,trivial,rfl,hb⟩)).mono (by
 rintro vs mem nx K ⟨Mz0,xz0,z0,rfl,hk,hpre,hK⟩
 exact⟨[.li Mz0 xz0 z0],rfl,⟨hk,trivial⟩,⟨_,rfl,hpre⟩,by rintro z ⟨z0',hl,hz⟩;cases hl;subst hz;exact hK⟩)
/-! While a region is evacuating no cell becomes zaa. No program in sight. -/
theorem zhw {c:Cfg} {s:St} {e:Ent} (h:zas c s e=0):zaD c s e=0:=by
 unfold zas at h;split at h
 ·cases h
 ·split at h
  ·cases h
  ·split at h
   ·cases h
   ·exact h
theorem ziL {c:Cfg} {s:St} {e:Ent} (hk:zaD c s e=0) (hev:s.evac≠0) (h8:¬ e.kind<=8) (h11:e.kind<=11) (ho:zc7 s.proven (zaR (zaQ s e.cell) e)=true):zc7 s.proven (zaQ s e.cell)=true:=by
 obtain⟨kind,tick,tenant,cell,other,epoch,since,till,n⟩:=e;dsimp only at h8 h11;have hc:kind=9∨kind=10∨kind=11:=by omega
 generalize hx:zaQ s cell=x;rcases hc with rfl | rfl | rfl
 ·simpa [zaR,zc7,hx] using ho
 ·simp only[zaD,zen] at hk;simp[hx] at hk;simp[zaR,zc7,hx] at ho ⊢;by_cases q1:x.wanted=n
  ·simp[q1] at hk
  ·by_cases q2:s.low<(zcj c n).1∨(zcj c n).2<s.high
   ·simp[q1,q2] at hk
   ·by_cases q3:x.running=n∨zc2 s.proven n=true
    ·rcases ho with h | h
     ·exact .inl h
     ·rcases q3 with q3 | q3
      ·rw[q3];exact .inl h
      ·rw[q3] at h;cases h
    ·simp[q1,q2,q3,hev] at hk
 ·simp only[zaD,zfg] at hk;simp[hx] at hk;simp[zaR,zc7,hx] at ho ⊢;by_cases q1:x.wanted=n
  ·subst q1;exact .inr (by rcases ho with h | h<;>exact h)
  ·simp[q1] at hk
theorem zj3 {c:Cfg} {s x:St} {e:Ent} (hI:StInv c s) (h:zao c s e=(x,0)) (hev:s.evac≠0) (i:Nat) (hi:i<s.cells.length) (ho:zc7 x.proven (x.cells.getD i default)=true):zc7 s.proven (s.cells.getD i default)=true:=by
 obtain⟨h1,rfl,-⟩:=zd7 h;have hk:=zhw h1;unfold zae at ho;by_cases h8:e.kind<=8
 ·rw[if_pos h8] at ho;exact ho
 ·rw[if_neg h8] at ho;by_cases h11:e.kind<=11
  ·rw[if_pos h11] at ho;have hp:(zbc (zai s e) e.cell (zaR (zaQ s e.cell) e)).proven=s.proven:=rfl;have hcl:(zbc (zai s e) e.cell (zaR (zaQ s e.cell) e)).cells=s.cells.set e.cell.toNat (zaR (zaQ s e.cell) e):=rfl;rw[hp,hcl] at ho;by_cases he:e.cell.toNat=i
   ·subst he;rw[gd_,List.getElem?_set_self hi] at ho;exact ziL hk hev h8 h11 ho
   ·rw[gd_,List.getElem?_set_ne he,← gd_] at ho;exact ho
  ·rw[if_neg h11] at ho;by_cases h12:e.kind=12
   ·rw[if_pos h12] at ho;have hp:=hI.proven;change zc7 (zeX s.proven e.n) (s.cells.getD i default)=true at ho;simp only[zc7,Bool.or_eq_true,Bool.not_eq_true'] at ho ⊢;rcases ho with h | h
    ·left;cases hh:zc2 s.proven (s.cells.getD i default).running with
     | false=>rfl
     | true=>rw[zmP hp.1 hh] at h;cases h
    ·right;cases hh:zc2 s.proven (s.cells.getD i default).wanted with
     | false=>rfl
     | true=>rw[zmP hp.1 hh] at h;cases h
   ·rw[if_neg h12] at ho;repeat' split at ho
    all_goals exact ho
theorem znw {c:Cfg} {s x:St} {e:Ent} (h:zao c s e=(x,0)):x.cells.length=s.cells.length:=by
 obtain⟨h1,rfl,-⟩:=zd7 h;unfold zae;repeat' split
 all_goals first | rfl | (show (List.set _ _ _).length=_;rw[List.length_set];rfl)
theorem zhf {s:St} {z:Int}:z ∈ zaa s↔∃ i:Nat,i<s.cells.length/\zc7 s.proven (s.cells.getD i default)=true/\(i:Int)=z:=by
 unfold zaa;simp only[List.mem_map,List.mem_filter,List.mem_range];constructor
 ·rintro⟨i,⟨h1,h2⟩,h3⟩;exact⟨i,h1,h2,h3⟩
 ·rintro⟨i,h1,h2,h3⟩;exact⟨i,⟨h1,h2⟩,h3⟩
theorem zkX {c:Cfg} {s x:St} {e:Ent} (hI:StInv c s) (h:zao c s e=(x,0)) (hev:s.evac≠0):∀ z ∈ zaa x,z ∈ zaa s:=by
 intro z hz;rw[zhf] at hz ⊢;obtain⟨i,h1,h2,h3⟩:=hz;rw[znw h] at h1;exact⟨i,h1,zj3 hI h hev i h1 h2,h3⟩
theorem zij (s:St):(zaa s).Pairwise (·<·):=by
 unfold zaa;rw[List.pairwise_map];exact ((List.pairwise_lt_range (n:=s.cells.length)).filter _).imp fun h=>by exact Int.ofNat_lt.2 h
theorem zep (s:St) {i j:Nat} (h:i<j) (hj:j<(zaa s).length):(zaa s).getD i 0<(zaa s).getD j 0:=by
 have:=List.pairwise_iff_getElem.1 (zij s) i j o_ hj h;rw[gd_,gd_,List.getElem?_eq_getElem o_,List.getElem?_eq_getElem hj];exact this
def FzI (was now:List Int) (n k:Nat):Prop:=k<=was.length/\∀ m,n<=m->m<now.length->∃ j,k<=j/\j<was.length/\was.getD j 0=now.getD m 0
theorem FzI.start {was now:List Int} (h:∀ z ∈ now,z ∈ was):FzI was now 0 0:=by
 refine⟨Nat.zero_le _,fun m _ hm=>?_⟩;have:=h (now.getD m 0) (by rw[gd_,List.getElem?_eq_getElem hm];exact List.getElem_mem hm);obtain⟨j,hj,he⟩:=List.getElem_of_mem this;exact⟨j,Nat.zero_le _,hj,by rw[← he,gd_,List.getElem?_eq_getElem hj];rfl⟩
theorem FzI.on {s x:St} {n k:Nat} (h:FzI (zaa s) (zaa x) n k) (hn:n<(zaa x).length) (hlt:(zaa s).getD k 0<(zaa x).getD n 0):FzI (zaa s) (zaa x) n (k+1):=by
 refine⟨?_,fun m h1 h2=>?_⟩
 ·obtain⟨j,h3,h4,h5⟩:=h.2 n nl_ hn;by_cases he:j=k
  ·subst he;omega
  ·omega
 ·obtain⟨j,h3,h4,h5⟩:=h.2 m h1 h2;refine⟨j,?_,h4,h5⟩;by_cases he:j=k
  ·subst he;have:(zaa x).getD n 0<=(zaa x).getD m 0:=by
    by_cases hm:n=m
    ·subst hm;exact il_
    ·exact Int.le_of_lt (zep x o_ h2)
   omega
  ·omega
theorem FzI.found {s x:St} {n k:Nat} (h:FzI (zaa s) (zaa x) n k) (hn:n<(zaa x).length) (hst:k<(zaa s).length->¬ (zaa s).getD k 0<(zaa x).getD n 0):k<(zaa s).length/\(zaa s).getD k 0=(zaa x).getD n 0:=by
 obtain⟨j,h3,h4,h5⟩:=h.2 n nl_ hn;have hk:k<(zaa s).length:=by omega
 have:=hst hk;refine⟨hk,?_⟩;by_cases he:j=k
 ·subst he;exact h5
 ·have:=zep s (i:=k) (j:=j) o_ h4;omega
theorem FzI.next {was now:List Int} {n k:Nat} (h:FzI was now n k):FzI was now (n+1) k:=⟨h.1,fun m h1 h2=>h.2 m o_ h2⟩
/-! cellplanetop.TopFrozen -/
def ctAwS:CT:=fun vs mem nx K=>vs=[]/\K (.bool true) mem nx
theorem awSOk:CSound Tryz.prog 5 ctAwS:=⟨awTOk.1,fun {C ρ fr mem nx a w vs K} hc hs hv=>awTOk.2 (by
 obtain⟨rfl,hK⟩:=hc
 exact⟨(),[],trivial,rfl,trivial,rfl,rfl,fun _ _=>hK⟩) hs hv⟩
theorem Run.uncons {c:Cfg} {s s':St} {e:Ent} {es:List Ent} (h:Run c s (e::es) s'):∃ x,zao c s e=(x,0)/\Run c x es s':=by
 cases h with
 | cons h hr=>exact⟨_,h,hr⟩
theorem drop_at {es:List Ent} {i:Int} (hi:0<=i/\i<es.length):es.drop i.toNat=es.getD i.toNat default::es.drop (i+1).toNat:=by
 rw[show (i+1).toNat=i.toNat+1 by omega,List.drop_eq_getElem_cons o_,gd_,List.getElem?_eq_getElem o_];rfl
def tfF:FT:=[(5,ctAwS),(6,ctLight),(7,ctConfig),(8,ctLog),(9,ctNewS),(10,ctApply),(11,ctUnpP)]
def tfD:List (Nat×DQ):=[(3000007,{ k:=26,L:=[0,1,2,3,4,5,6,7,8,9,10,11,12,13,14,15,16,17,18,19,20],sl:=[5,6,7] }),(9,{ k:=12,L:=[19,20,23],A:=[10],pre:=[(0,false),(1,false),(2,false),(3,false),(4,false),(5,false),(6,true),(7,false),(8,false),(9,false)],post:=[(11,true)] }),
 (2000017,{ k:=0,L:=[0,1,2,3,4,5,6,7,8,9,10,11,12,13,14,15,16,17,18,19,20,21,22,23,24,25,26,27,28,29,30],sl:=[5,6,7,8,9,11,12] }),(2000019,{ k:=0,L:=[0,1,2,3,4,5,6,7,8,9,10,11,12,13,14,15,16,17,18,19,20,21,22,23,24,25,26,27,28,29,30],sl:=[5,6,7,8,9,11,12,14] }),
 (19,{ k:=13,L:=[29,30],pre:=[(0,false),(1,false),(2,false),(3,false),(4,false),(5,false),(6,false),(7,false),(8,false),(9,false),(10,false),(11,false),(12,false)] }),(21,{ k:=13,L:=[29,30],pre:=[(0,false),(1,false),(2,false),(3,false),(4,false),(5,false),(6,false),(7,false),(8,false),(9,false),(10,false),(11,false),(12,false)] })]
theorem tfFok:zaY Tryz.prog tfF (zbj tfD):=za0 (awSOk.i _) (za0 (lightOk.i _) (za0 (configOk.i _) (za0 (logOk.i _) (za0 (newSOk.i _) (za0 (znJ.i _) (za0 (unpPOk.i _) za3))))))
theorem topFz_sx (cap0 cap1:Nat) (l more:List Int) (hm0:l.length<=maxLen) (hm1:more.length<=maxLen) :
  sx tt tfF tfD (za1 Tryz.f3) (zb3 0 [slc 0 l.length cap0,slc 1 more.length cap1]) (uniM { l0:=l,l1:=more }) 13 (zb8 tt Tryz.f3.results.toList fun v _ _=>v=.bool true):=by
 refine⟨rfl,?_⟩;repeat (first | refine⟨fun _=>?_,bt_⟩ | refine⟨bf_,fun _=>?_⟩)
 refine⟨0,cap0,l,rfl,rfl,hm0,?_⟩;refine⟨fun h=>?_,fun h0=>?_⟩
 ·repeat (first | refine⟨fun _=>?_,bt_⟩ | refine⟨bf_,fun _=>?_⟩)
  exact⟨rfl,rfl⟩
 ·refine⟨1,cap1,more,rfl,rfl,hm1,?_⟩;refine⟨fun h=>?_,fun h1=>?_⟩
  ·repeat (first | refine⟨fun _=>?_,bt_⟩ | refine⟨bf_,fun _=>?_⟩)
   exact⟨rfl,rfl⟩
  ·have hl0:l.length<=200:=by simpa using h0
   have hl1:more.length<=200:=by simpa using h1
   clear h0 h1 hm0 hm1;refine⟨0,cap0,l,rfl,rfl,o_,?_⟩;intro xk c hM;have hV:=zg3 hM.valid;have hnt:=hV.nt;have hnc:=hV.nc;have hm1:=hM.zones;have hm2:=hM.cells;have hm3:=hM.tenants;have hm4:=hM.versions;have hm5:=hM.replicas;have hm6:=hM.observers;refine⟨⟨18,17,16,15,14,13,500000⟩,xk,c,1,cap1,more,60,rfl,⟨kp_,⟨_,_,_,rfl,nl_,fun k hk=>rfl⟩⟩,⟨hV,o_,d_⟩,?_⟩;intro es sF cap2 hR hen hcp;refine⟨⟨18,17,16,15,14,13,500000⟩,xk,c,rfl,kp_,⟨o_,o_⟩,fun y0=>?_⟩;have hJ0:=RInv.new hV;refine⟨Int×St×StK,fun q=>match q with | (i,s,y)=>[(8,.int .i64 i)],fun q=>match q with | (i,s,y)=>[(23,.box 37 [.int .i64 s.tick,.int .i64 s.count,slc 25 s.tenants.length y.ct,slc 24 s.cells.length y.cc,.int .i64 s.proven,.int .i64 s.evac,.int .i64 s.low,.int .i64 s.high]),(24,zaz 500000 4 csC default s.cells),(25,zaz 500000 12 tsC default s.tenants)],fun q=>match q with | (i,s,y)=>(RInv c s/\Run c s (es.drop i.toNat) sF)/\(0<=i/\i<=es.length),fun q=>match q with | (i,s,y)=>((es.length:Int)-i).toNat,⟨(0,zaB c,y0),[(24,21),(25,22)],⟨⟨hJ0,hR⟩,o_⟩,⟨rfl,rfl⟩,kp_,kp_⟩,?_⟩;clear hJ0 y0 hR;rintro⟨i,s,y⟩ ⟨⟨hJ,hR⟩,hi⟩;refine⟨⟨d_,rfl,rfl⟩,?_⟩;refine⟨fun hlt=>?_,fun hge=>?_⟩
   ·have hlt2:i<(es.length:Int):=of_decide_eq_true hlt;rw[drop_at ⟨hi.1,hlt2⟩] at hR;obtain⟨x,he,hR2⟩:=hR.uncons;have hJ2:=hJ.step hV he;refine⟨⟨nl_,hi.1,hlt2⟩,?_⟩;refine⟨⟨18,17,16,15,14,13,500000⟩,xk,c,⟨25,24,500000⟩,y,s,es.getD i.toNat default,rfl,kp_,kp_,hV,hJ.inv,fun y2=>?_⟩;rw[he];refine⟨kp_,?_⟩;refine⟨kp_,?_⟩;repeat (first | refine⟨fun _=>?_,bt_⟩ | refine⟨bf_,fun _=>?_⟩)
    refine⟨fun hev=>?_,fun hev=>?_⟩
    ·have hev2:s.evac≠0:=by simpa using hev
     have hsub:=zkX hJ.inv he hev2;refine⟨⟨25,24,500000⟩,y,s,rfl,⟨⟨_,_,_,rfl,nl_,fun k hk=>rfl⟩,⟨_,_,_,rfl,nl_,fun k hk=>rfl⟩⟩,⟨c,hV,hJ.inv⟩,fun cp1=>?_⟩;refine⟨⟨28,27,500000⟩,y2,x,rfl,⟨⟨_,_,_,rfl,nl_,fun k hk=>rfl⟩,⟨_,_,_,rfl,nl_,fun k hk=>rfl⟩⟩,⟨c,hV,hJ2.inv⟩,fun cp2=>?_⟩;have hlw:(zaa s).length<=s.cells.length:=by have:=zlL s s.cells.length;rwa[zjv] at this
     have hln:(zaa x).length<=x.cells.length:=by have:=zlL x x.cells.length;rwa[zjv] at this
     have hlc:=hJ.inv.lc;have hlc2:=hJ2.inv.lc;refine⟨Nat×Nat,fun q=>match q with | (n,k)=>[(14,.int .i64 (n:Int)),(13,.int .i64 (k:Int))],fun _=>[],fun q=>match q with | (n,k)=>n<=(zaa x).length/\FzI (zaa s) (zaa x) n k,fun q=>match q with | (n,k)=>(zaa x).length-n,⟨(0,0),⟨Nat.zero_le _,.start hsub⟩,kp_,kp_⟩,?_⟩;rintro⟨n,k⟩ ⟨hn,hF⟩;refine⟨⟨rfl,rfl⟩,?_⟩;refine⟨fun hlt3=>?_,fun hge3=>?_⟩
     ·have hn2:n<(zaa x).length:=by have q:=of_decide_eq_true hlt3;omega
      refine⟨Nat,fun k=>[(13,.int .i64 (k:Int))],fun _=>[],fun k=>FzI (zaa s) (zaa x) n k,fun k=>(zaa s).length-k,⟨k,hF,kp_,kp_⟩,?_⟩;clear hF;rintro k hF;refine⟨⟨rfl,rfl⟩,?_⟩;refine⟨fun hk=>?_,fun hk=>?_⟩
      ·have hk2:k<(zaa s).length:=by have q:=of_decide_eq_true hk;omega
       refine⟨⟨nl_,o_,o_⟩,?_⟩;refine⟨⟨nl_,o_,o_⟩,?_⟩;refine⟨fun hlt4=>?_,fun hge4=>?_⟩
       ·have hw:IntKind.i64.wrap ((k:Int)+1)=((k+1:Nat):Int):=by rw[zaf (n:=(k:Int)+1) o_];rfl
        refine⟨k+1,?_,(by repeat (first | exact trivial | refine⟨rfl,?_⟩ | refine⟨congrArg (fun z=>some (Value.int IntKind.i64 z)) hw,?_⟩)),kp_⟩;exact⟨hF.on hn2 (of_decide_eq_true hlt4),by show (zaa s).length-(k+1)<(zaa s).length-k;omega⟩
       ·obtain⟨-,heq⟩:=hF.found hn2 (fun _=>of_decide_eq_false hge4);have hkf:((k:Int)==((zaa s).length:Int))=false:=by simp;omega
        refine⟨fun q=>absurd (hkf.symm.trans q) d_,fun _=>?_⟩;refine⟨⟨nl_,o_,o_⟩,?_⟩;refine⟨⟨nl_,o_,o_⟩,?_⟩;refine⟨fun q=>?_,fun _=>?_⟩
        ·have q2:((zaa s).getD k 0 != (zaa x).getD n 0)=true:=q;rw[heq] at q2;simp at q2
        have hw:IntKind.i64.wrap ((n:Int)+1)=((n+1:Nat):Int):=by rw[zaf (n:=(n:Int)+1) o_];rfl
        refine⟨(n+1,k),?_,(by repeat (first | exact trivial | refine⟨rfl,?_⟩ | refine⟨congrArg (fun z=>some (Value.int IntKind.i64 z)) hw,?_⟩)),kp_⟩;exact⟨⟨hn2,hF.next⟩,by show (zaa x).length-(n+1)<(zaa x).length-n;omega⟩
      ·obtain⟨hkl,-⟩:=hF.found hn2 (fun q=>absurd (show (k:Int)<((zaa s).length:Int) by omega) (of_decide_eq_false hk));exact absurd (show (k:Int)<((zaa s).length:Int) by omega) (of_decide_eq_false hk)
     ·repeat (first | refine⟨fun _=>?_,bt_⟩ | refine⟨bf_,fun _=>?_⟩)
      refine⟨(IntKind.i64.wrap (i+1),x,y2),[(24,27),(25,28)],?_,⟨rfl,rfl⟩,kp_,kp_⟩;dsimp only;rw[zaf (n:=i+1) o_];exact⟨⟨⟨hJ2,hR2⟩,o_,o_⟩,o_⟩
    ·repeat (first | refine⟨fun _=>?_,bt_⟩ | refine⟨bf_,fun _=>?_⟩)
     refine⟨(IntKind.i64.wrap (i+1),x,y2),[(24,27),(25,28)],?_,⟨rfl,rfl⟩,kp_,kp_⟩;dsimp only;rw[zaf (n:=i+1) o_];exact⟨⟨⟨hJ2,hR2⟩,o_,o_⟩,o_⟩
   ·repeat (first | refine⟨fun _=>?_,bt_⟩ | refine⟨bf_,fun _=>?_⟩)
    rfl
theorem zgG (a0:Option Addr) (cap0:Nat) (z0:List Int) (a1:Option Addr) (cap1:Nat) (z1:List Int)  (W:World) (hr0:Rd W (·<W.heap.size) a0 (z0.map (Value.int .i64))) (hm0:z0.length<=maxLen) (hr1:Rd W (·<W.heap.size) a1 (z1.map (Value.int .i64))) (hm1:z1.length<=maxLen)  :
  Calls Tryz.prog 3 #[.slice a0 z0.length cap0,.slice a1 z1.length cap1] W fun e w'=>e=.returned (.bool true)/\Below W.heap.size W w':=by
 rw[← zfY] at hr0 hr1
 have h:=zfz zg6 tfFok Tryz.func3 rfl (D:=tfD) k_ (vs:=[slc 0 z0.length cap0,slc 1 z1.length cap1]) rfl { a0:=a0,a1:=a1 } { l0:=z0,l1:=z1 } W { r0:=hr0,r1:=hr1 } (fun v hv=>by
  simp only[List.mem_cons,List.not_mem_nil,or_false] at hv
  rcases hv with rfl | rfl
  ·exact⟨show (0:Nat)<13 by decide,rfl⟩
  ·exact⟨show (1:Nat)<13 by decide,rfl⟩
  ) (topFz_sx cap0 cap1 z0 z1 hm0 hm1)
 refine h.mono ?_;rintro e w' ⟨v,mem',nx',ρ',rfl,rfl,hv,hm',hb⟩;exact⟨rfl,hb⟩
end Go.Proofs.YtjnndjnpcelafaaGreat
