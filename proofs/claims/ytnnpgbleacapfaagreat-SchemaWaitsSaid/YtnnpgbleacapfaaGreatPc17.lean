import Derived.Test.YtnnpgbleacapfaaGreatPc16
namespace Go.Proofs.YtnnpgbleacapfaaGreat
open Go.RowKit
set_option linter.unusedSimpArgs false
set_option linter.unusedVariables false
/-! Logs that are accepted,and ref12.Fold. -/
inductive Run (c:Cfg):St→List Ent→St→Prop where
 | nil (s:St):Run c s [] s
 | cons {s x s':St} {e:Ent} {es:List Ent} (h:applyP c s e=(x,0)) (hr:Run c x es s'):Run c s (e::es) s'
structure RInv (c:Cfg) (s:St):Prop where
 inv:StInv c s
 cap:overB c s=false
theorem RInv.new {c:Cfg} (hV:CfgV c):RInv c (stNew c):=⟨stNew_inv hV,cap_new hV⟩
theorem RInv.step {c:Cfg} {s x:St} {e:Ent} (hV:CfgV c) (h:RInv c s) (he:applyP c s e=(x,0)):RInv c x:=by
 obtain⟨hr,hx,-⟩:=applyP_ok he
 exact⟨by rw[hx];exact h.inv.step hV hr,cap_step hV h.inv h.cap he⟩
theorem Run.rinv {c:Cfg} (hV:CfgV c) {s s':St} {es:List Ent} (h:Run c s es s') (hs:RInv c s):RInv c s':=by
 induction h with
 | nil s=>exact hs
 | cons he _ ih=>exact ih (hs.step hV he)
theorem Run.snoc {c:Cfg} {s s' x:St} {es:List Ent} {e:Ent} (h:Run c s es s') (he:applyP c s' e=(x,0)):Run c s (es++[e]) x:=by
 induction h with
 | nil s=>exact .cons he (.nil _)
 | cons h1 _ ih=>exact .cons h1 (ih he)
theorem Run.fold {c:Cfg} {s s':St} {es:List Ent} (h:Run c s es s'):∀ i:Int,foldGo c i s es=(s',i+es.length,0):=by
 induction h with
 | nil s=>intro i;simp[foldGo]
 | cons h1 _ ih=>
  intro i
  rw[foldGo,h1,if_neg (by simp),ih]
  simp
  omega
theorem Run.foldC {c:Cfg} {s':St} {es:List Ent} (h:Run c (stNew c) es s'):foldC c es=(s',(es.length:Int),0):=by
 unfold Go.Proofs.YtnnpgbleacapfaaGreat.foldC
 rw[h.fold 0,Int.zero_add]
theorem Run.count {c:Cfg} {s s':St} {es:List Ent} (h:Run c s es s'):s'.count=s.count+es.length:=by
 induction h with
 | nil s=>simp
 | cons h1 _ ih=>
  obtain⟨hr,hx,-⟩:=applyP_ok h1
  rw[ih,hx]
  have:∀ (s:St) (e:Ent),(effOf s e).count=s.count+1:=by
   intro s e
   unfold effOf stamped setTen setCel
   repeat (split<;>try rfl)
  rw[this]
  simp
  omega
theorem Run.split {c:Cfg} {s s':St} {l r:List Ent} (h:Run c s (l++r) s'):∃ m,Run c s l m∧Run c m r s':=by
 induction l generalizing s with
 | nil=>exact⟨s,.nil s,h⟩
 | cons e l ih=>
  cases h with
  | cons h1 hr=>
   obtain⟨m,q1,q2⟩:=ih hr
   exact⟨m,.cons h1 q1,q2⟩
def frF:FT:=[(70,ctNewR),(72,ctApplyR)]
theorem frFok:FTok Tryz.prog frF:=ft_cons newROk (ft_cons applyROk ft_nil)
def frD:List (Nat×DQ):=[(3000003,{ k:=20,L:=[0,1,2,3,4,5,6,7,8,9,10,11,12,13,14],sl:=[1,2,4,7] }),
 (5,{ k:=12,L:=[0,1,2,3,4,5,6,7,8,9,10,11,12,13,14,17,18,19],A:=[10],pre:=[(0,false),(1,false),(2,false),(3,false),(4,false),(5,false),(6,true),(7,false),(8,false),(9,false)],post:=[(11,true)] })]
set_option maxRecDepth 100000 in
set_option maxHeartbeats 4000000 in
theorem foldR_sx (d:UD) (x:CfgK) (cap:Nat) (hV:CfgV d.c) (hl:d.es.length≤1000000) :
  sx tt frF frD (bodyOf Tryz.f58) (argF 0 [cfgV CNu x d.c,slc 8 d.es.length cap]) (uniM d) 13 (endx tt Tryz.f58.results.toList fun v mem' _=>∃ y,v=.tuple #[stV ⟨18,19,500000⟩ y (foldC d.c d.es).1,.int .i64 (foldC d.c d.es).2.1,.int .i64 (foldC d.c d.es).2.2]∧keeps mem' (stM ⟨18,19,500000⟩ (foldC d.c d.es).1)):=by
 have hnt:=hV.nt
 have hnc:=hV.nc
 refine⟨CNu,x,d.c,rfl,kp_,⟨by omega,by omega,by omega⟩,?_⟩
 intro y0
 refine⟨St×StK×Int,fun q=>match q with | (s,y,i)=>[(8,.int .i64 i)],fun q=>match q with | (s,y,i)=>[(17,.box 34 [.int .i64 s.tick,.int .i64 s.count,slc 18 s.tenants.length y.ct,slc 19 s.cells.length y.cc,.int .i64 s.proven,.int .i64 s.evac,.int .i64 s.low,.int .i64 s.high]),(18,rowOfL 500000 12 tsC default s.tenants),(19,rowOfL 500000 4 csC default s.cells)],fun q=>match q with | (s,y,i)=>RInv d.c s∧(0≤i∧i≤d.es.length)∧foldGo d.c i s (d.es.drop i.toNat)=foldC d.c d.es,fun q=>match q with | (s,y,i)=>((d.es.length:Int)-i).toNat,⟨(stNew d.c,y0,0),[(18,16),(19,15)],⟨.new hV,by omega,rfl⟩,⟨rfl,rfl⟩,kp_,kp_⟩,?_⟩
 rintro⟨s,y,i⟩ ⟨hR,hi,hf⟩
 refine⟨⟨by decide,rfl,rfl⟩,?_⟩
 refine⟨fun hlt=>?_,fun hge=>?_⟩
 ·have hlt2:i<(d.es.length:Int):=of_decide_eq_true hlt
  have hd:d.es.drop i.toNat=(d.es.getD i.toNat default)::d.es.drop (i+1).toNat:=by
   rw[show (i+1).toNat=i.toNat+1 by omega,← List.getElem_cons_drop (show i.toNat<d.es.length by omega)]
   congr 1
   rw[List.getD_eq_getElem?_getD,List.getElem?_eq_getElem (show i.toNat<d.es.length by omega)]
   rfl
  rw[hd] at hf
  refine⟨⟨Nat.le_refl _,hi.1,hlt2⟩,?_⟩
  refine⟨CNu,x,d.c,⟨18,19,500000⟩,y,s,(d.es.getD i.toNat default),rfl,⟨kp_,.list rfl,.list rfl⟩,⟨hV,hR.inv⟩,?_⟩
  intro y2
  rw[applyRP hV hR.inv hR.cap]
  refine⟨kp_,?_⟩
  refine⟨kp_,?_⟩
  generalize (d.es.getD i.toNat default)=e at hf ⊢
  refine⟨fun he=>?_,fun he=>?_⟩
  ·have he2:(applyP d.c s e).2≠0:=by simpa using he
   rw[foldGo,if_pos he2] at hf
   rw[← hf]
   exact⟨y,rfl,kp_⟩
  ·have he2:(applyP d.c s e).2=0:=by simpa using he
   rw[foldGo,if_neg (fun h=>h he2)] at hf
   refine⟨((applyP d.c s e).1,y2,_),[(18,22),(19,21)],?_,⟨rfl,rfl⟩,kp_,kp_⟩
   dsimp only
   rw[wrapi (n:=i+1) (by omega)]
   exact⟨⟨hR.step hV (e:=e) (by rw[← he2]),by omega,hf⟩,by omega⟩
 ·have hge2:¬ i<(d.es.length:Int):=of_decide_eq_false hge
  obtain rfl:i=d.es.length:=by omega
  rw[Int.toNat_natCast,List.drop_length] at hf
  rw[foldGo] at hf
  rw[← hf]
  exact⟨y,rfl,kp_⟩
theorem r12Fold_calls (x:CfgA) (c:Cfg) (A:Option Addr) (cap:Nat) (es:List Ent) (w:World) (hV:CfgV c) (hl:es.length≤1000000) (hc:CfgOk w (·<w.heap.size) x c) (hr:Rd w (·<w.heap.size) A (flat entC es)) :
  Calls Tryz.prog 58 #[.agg (cfgC x c),.slice A es.length cap] w fun e w'=>∃ y,e=.returned (.tuple #[.agg (stC y (foldC c es).1),.int .i64 (foldC c es).2.1,.int .i64 (foldC c es).2.2])∧StOk w' (fun b=>w.heap.size≤b∧b<w'.heap.size) y (foldC c es).1∧Below w.heap.size w w':=by
 have:=uni_calls ttOk (frFok.i _) Tryz.func58 rfl (D:=frD) (by kernel_rfl) (vs:=[cfgV CNu (ck x) c,slc 8 es.length cap]) rfl { x:=x,ae:=A } { c:=c,es:=es } w { c:=hc,e:=hr } (fun v hv=>by
  simp only[List.mem_cons,List.not_mem_nil,or_false] at hv
  rcases hv with rfl | rfl
  ·exact upl_cfg_ok { x:=x,ae:=A } { c:=c,es:=es }
  ·exact⟨show (8:Nat)<13 by decide,rfl⟩) (foldR_sx { c:=c,es:=es } (ck x) cap hV hl)
 rw[List.map_cons] at this
 have e0:=upl_cfg { x:=x,ae:=A } { c:=c,es:=es }
 dsimp only at e0 this
 rw[e0] at this
 refine this.mono ?_
 rintro e w' ⟨v,mem',nx',ρ',rfl,⟨y,rfl,k1,k2,-⟩,hv,hm',hb⟩
 refine⟨⟨(ρ' 18).A,y.ct,(ρ' 19).A,y.cc⟩,?_,⟨?_,?_⟩,hb⟩
 ·simp[den,den2,den1,dA_whole,stC]
 ·exact (hm'.blk 18 _ k1).fresh (enc:=tsC) default rfl rfl (fun k hk=>rfl) (fun _=>rfl) (by omega)
 ·exact (hm'.blk 19 _ k2).fresh (enc:=csC) default rfl rfl (fun k hk=>rfl) (fun _=>rfl) (by omega)
def ctFoldR:CT:=fun vs mem nx K=>∃ N x c r cap es,vs=[cfgV N x c,slc r (es:List Ent).length cap]∧(keeps mem (cfgM N c)∧HasRow mem r 9 entC default es)∧(CfgV c∧es.length≤1000000)∧∀ y,K (.tuple #[stV ⟨nx+1,nx,500000⟩ y (foldC c es).1,.int .i64 (foldC c es).2.1,.int .i64 (foldC c es).2.2]) (stM ⟨nx+1,nx,500000⟩ (foldC c es).1++mem) (nx+2)
theorem foldROk:CSound Tryz.prog 58 ctFoldR:=⟨by kernel_rfl,fun {C ρ fr mem nx a w vs K} hc hs hv=>by
 obtain⟨N,x,c,r,cap,es,rfl,⟨hk,hr⟩,⟨hV,hl⟩,hK⟩:=hc
 have e0:([cfgV N x c,slc r es.length cap].map (den ρ)).toArray=#[.agg (cfgC (cfgX ρ N x) c),.slice (ρ r).A es.length cap]:=by
  rw[List.map_cons,den_cfg]
  rfl
 rw[e0]
 refine (r12Fold_calls (cfgX ρ N x) c (ρ r).A cap es w hV hl (hs.cfg hk (fun b h _=>h)) (hs.hasRd (enc:=entC) (sz:=9) (fun _=>rfl) (by omega) hr)).mono ?_
 rintro e w' ⟨y,rfl,hst,hb⟩
 obtain⟨q1,q2,q3,q4⟩:=hs.addSt hb hst
 refine⟨.tuple #[stV ⟨nx+1,nx,500000⟩ ⟨y.ct,y.cc⟩ (foldC c es).1,.int .i64 (foldC c es).2.1,.int .i64 (foldC c es).2.2],_,_,_,?_,hK ⟨y.ct,y.cc⟩,q1,?_,q4⟩
 ·rw[← q2]
  simp[den,den2,den1]
 ·intro u hu
  simp at hu
  rcases hu with rfl | rfl | rfl
  ·exact q3
  ·trivial
  ·trivial⟩
end Go.Proofs.YtnnpgbleacapfaaGreat
