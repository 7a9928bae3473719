import Derived.Test.YtbmlgcjoeeejbaaPb20
import Derived.Test.YtbmlgcjoeeejbaaRows
import Derived.ChangeArms
namespace Go.Proofs.Ytbmlgcjoeeejbaa
open Go.RowKit
set_option linter.unusedSimpArgs false
set_option linter.unusedVariables false
/-! make.Log: entries that are accepted one after the other. -/
def LenCap (n:Nat) (v:Value):Prop:=∃ A m cap,v=.slice A m cap∧n≤cap
def lgF:FT:=[(30,ctTapeNew),(45,ctNewR),(47,ctMore),(48,ctEntry),(46,ctApplyR)]
theorem lgFok:FTok Try.prog lgF:=ft_cons tapeNewOk (ft_cons newROk (ft_cons moreOk (ft_cons entryOk (ft_cons applyROk ft_nil))))
def lgD:List (Nat×DQ):=[(3000004,{ k:=21,L:=[0,1,2,3,4,5,6,7,8,9,10,11,12,13],sl:=[2,4,7,8] })]
set_option maxRecDepth 100000 in
set_option maxHeartbeats 8000000 in
theorem log_sx (d:UD) (x:CfgK) (cap0:Nat) (n:Int) (hV:CfgV d.c) (hz:d.l0.length≤400) (hn:0≤n∧n≤1000) :
  sx tt lgF lgD (bodyOf Try.f37) (argF 0 [slc 0 d.l0.length cap0,cfgV CNu x d.c,.int .i64 n]) (uniM d) 13 (endx tt Try.f37.results.toList fun v mem' _=>∃ es s,Run d.c (stNew d.c) es s∧(es.length:Int)≤n∧SlR mem' 9 entC default es v∧LenCap es.length v):=by
 have hnt:=hV.nt
 have hnc:=hV.nc
 refine⟨0,cap0,d.l0,rfl,rfl,by omega,?_⟩
 refine⟨CNu,x,d.c,rfl,kp_,⟨by omega,by omega,by omega⟩,?_⟩
 intro y0
 refine⟨St×StK×Int×List Ent×Option (Nat×(Nat→List Value)),fun q=>match q with | (s,y,k,es,none)=>[(9,zs0)] | (s,y,k,es,some (cap,el))=>[(9,slc 20 es.length cap)],fun q=>match q with | (s,y,k,es,none)=>[(14,tapeB 0 d.l0.length cap0 k),(17,.box 65 [.int .i64 s.tick,.int .i64 s.count,slc 18 s.tenants.length y.ct,slc 19 s.cells.length y.cc,.int .i64 s.proven,.int .i64 s.evac,.int .i64 s.low,.int .i64 s.high]),(18,rowOfL 500000 12 tsC default s.tenants),(19,rowOfL 500000 4 csC default s.cells)] | (s,y,k,es,some (cap,el))=>(20,.row (1000000+103) 9 cap el)::[(14,tapeB 0 d.l0.length cap0 k),(17,.box 65 [.int .i64 s.tick,.int .i64 s.count,slc 18 s.tenants.length y.ct,slc 19 s.cells.length y.cc,.int .i64 s.proven,.int .i64 s.evac,.int .i64 s.low,.int .i64 s.high]),(18,rowOfL 500000 12 tsC default s.tenants),(19,rowOfL 500000 4 csC default s.cells)],fun q=>match q with | (s,y,k,es,o)=>Run d.c (stNew d.c) es s∧(0≤k∧k≤445)∧(es.length:Int)≤n∧match o with | none=>es=[] | some (cap,el)=>es.length≤cap∧∀ j,j<es.length→el j=entC (es.getD j default),fun q=>match q with | (s,y,k,es,o)=>(1000-k).toNat,⟨(stNew d.c,y0,0,[],none),[(18,16),(19,15)],⟨.nil _,by omega,by simpa using hn.1,rfl⟩,⟨rfl,rfl⟩,kp_,kp_⟩,?_⟩
 rintro⟨s,y,k,es,(_ | ⟨cap,el⟩)⟩ ⟨hR,hk,hn2,ho⟩
 ·refine⟨⟨by decide,rfl,rfl⟩,?_⟩
  refine⟨fun hc=>?_,fun hc=>?_⟩
  ·refine⟨14,0,cap0,d.l0,_,[],rfl,⟨rfl,rfl⟩,⟨by omega,by omega,by omega⟩,rfl,?_⟩
   rintro _ k1 ⟨b1,rfl,rfl,hb1⟩
   refine⟨fun hb=>?_,fun hb=>?_⟩
   ·have hkl:=hb1 hb
    have hlen:(es.length:Int)<n:=by rw[show es=[] from ho];exact of_decide_eq_true hc
    clear hb1
    have hI:=(hR.rinv hV (.new hV)).inv
    have hcp:=(hR.rinv hV (.new hV)).cap
    refine⟨14,0,cap0,d.l0,_,CNu,x,d.c,⟨18,19,500000⟩,y,s,[],rfl,⟨rfl,rfl⟩,kp_,kp_,⟨by omega,by omega,by omega⟩,⟨⟨hV,hI,by omega⟩,rfl⟩,?_⟩
    rintro _ k2 ⟨⟨en,rfl⟩,hk2a,hk2b,hk2c⟩
    refine⟨CNu,x,d.c,⟨18,19,500000⟩,y,s,en,rfl,⟨kp_,.list rfl,.list rfl⟩,⟨hV,hI⟩,?_⟩
    intro y2
    rw[applyRP hV hI hcp]
    refine⟨fun he=>?_,fun he=>?_⟩
    ·have he2:applyP d.c s en=((applyP d.c s en).1,0):=by
      have q:(applyP d.c s en).2=0:=by simpa using he
      rw[← q]
     have he0:es=[]:=ho
     subst he0
     refine⟨⟨Nat.le_refl _,fun j hj=>by match j,hj with | 0,_=>rfl⟩,?_⟩
     refine⟨fun h=>absurd h (by decide),fun _=>⟨by decide,fun cap2 el2 ⟨hc2,_⟩ hel2=>?_⟩⟩
     refine⟨((applyP d.c s en).1,y2,k2,[en],some (cap2,el2)),[(18,23),(19,22),(20,26)],?_,⟨rfl,rfl⟩,kp_,kp_⟩
     dsimp only
     refine⟨⟨hR.snoc he2,by omega,by simp;omega,hc2,fun j hj=>?_⟩,by omega⟩
     obtain rfl:j=0:=by simpa using hj
     exact hel2 0 (by omega)
    ·refine⟨(s,y,k2,es,none),[],?_,⟨rfl,rfl⟩,kp_,kp_⟩
     dsimp only
     exact⟨⟨hR,by omega,hn2,ho⟩,by omega⟩
   ·exact⟨es,s,hR,hn2,.inl ⟨rfl,ho⟩,none,0,0,rfl,(by rw[ho];decide)⟩
  ·refine⟨fun h=>Bool.noConfusion h,fun _=>?_⟩
   exact⟨es,s,hR,hn2,.inl ⟨rfl,ho⟩,none,0,0,rfl,(by rw[ho];decide)⟩
 ·refine⟨⟨by decide,rfl,rfl⟩,?_⟩
  refine⟨fun hc=>?_,fun hc=>?_⟩
  ·refine⟨14,0,cap0,d.l0,_,[],rfl,⟨rfl,rfl⟩,⟨by omega,by omega,by omega⟩,rfl,?_⟩
   rintro _ k1 ⟨b1,rfl,rfl,hb1⟩
   refine⟨fun hb=>?_,fun hb=>?_⟩
   ·have hkl:=hb1 hb
    have hlen:(es.length:Int)<n:=of_decide_eq_true hc
    clear hb1
    have hI:=(hR.rinv hV (.new hV)).inv
    have hcp:=(hR.rinv hV (.new hV)).cap
    refine⟨14,0,cap0,d.l0,_,CNu,x,d.c,⟨18,19,500000⟩,y,s,[],rfl,⟨rfl,rfl⟩,kp_,kp_,⟨by omega,by omega,by omega⟩,⟨⟨hV,hI,by omega⟩,rfl⟩,?_⟩
    rintro _ k2 ⟨⟨en,rfl⟩,hk2a,hk2b,hk2c⟩
    refine⟨CNu,x,d.c,⟨18,19,500000⟩,y,s,en,rfl,⟨kp_,.list rfl,.list rfl⟩,⟨hV,hI⟩,?_⟩
    intro y2
    rw[applyRP hV hI hcp]
    refine⟨fun he=>?_,fun he=>?_⟩
    ·have he2:applyP d.c s en=((applyP d.c s en).1,0):=by
      have q:(applyP d.c s en).2=0:=by simpa using he
      rw[← q]
     refine⟨⟨Nat.le_refl _,fun j hj=>by match j,hj with | 0,_=>rfl⟩,?_⟩
     refine⟨⟨rfl,ho.1⟩,fun hin el2 ⟨g1,_⟩ g2=>?_,fun hgt=>⟨by show (es.length+1) * 72≤140737488355328;omega,fun cap2 el2 ⟨hc2,_⟩ g1 g2=>?_⟩⟩
     ·rw[show es.length+1=(es++[en]).length by simp]
      refine⟨((applyP d.c s en).1,y2,k2,es++[en],some (cap,el2)),[(18,23),(19,22)],?_,⟨rfl,rfl⟩,kp_,kp_⟩
      dsimp only
      refine⟨⟨hR.snoc he2,by omega,by simp;omega,by first | exact hc2 | (simp;omega),fun j hj=>?_⟩,by omega⟩
      by_cases hjn:j<es.length
      ·rw[g1 j hjn,ho.2 j hjn,List.getD_eq_getElem?_getD,List.getD_eq_getElem?_getD,List.getElem?_append_left hjn]
      ·obtain rfl:j=es.length:=by simp at hj;omega
       have:=g2 0 (by omega)
       rw[Nat.add_zero] at this
       rw[this,List.getD_eq_getElem?_getD,List.getElem?_append_right (Nat.le_refl _),Nat.sub_self]
       rfl
     ·rw[show es.length+1=(es++[en]).length by simp] at hc2 ⊢
      refine⟨((applyP d.c s en).1,y2,k2,es++[en],some (cap2,el2)),[(18,23),(19,22),(20,26)],?_,⟨rfl,rfl⟩,kp_,kp_⟩
      dsimp only
      refine⟨⟨hR.snoc he2,by omega,by simp;omega,by first | exact hc2 | (simp;omega),fun j hj=>?_⟩,by omega⟩
      by_cases hjn:j<es.length
      ·rw[g1 j hjn,ho.2 j hjn,List.getD_eq_getElem?_getD,List.getD_eq_getElem?_getD,List.getElem?_append_left hjn]
      ·obtain rfl:j=es.length:=by simp at hj;omega
       have:=g2 0 (by omega)
       rw[Nat.add_zero] at this
       rw[this,List.getD_eq_getElem?_getD,List.getElem?_append_right (Nat.le_refl _),Nat.sub_self]
       rfl
    ·refine⟨(s,y,k2,es,some (cap,el)),[],?_,⟨rfl,rfl⟩,kp_,kp_⟩
     dsimp only
     exact⟨⟨hR,by omega,hn2,ho⟩,by omega⟩
   ·exact⟨es,s,hR,hn2,.inr ⟨20,_,_,cap,el,rfl,rfl,rfl,ho.1,ho.2⟩,_,_,cap,rfl,ho.1⟩
  ·refine⟨fun h=>Bool.noConfusion h,fun _=>?_⟩
   exact⟨es,s,hR,hn2,.inr ⟨20,_,_,cap,el,rfl,rfl,rfl,ho.1,ho.2⟩,_,_,cap,rfl,ho.1⟩
theorem mkLog_calls (x:CfgA) (c:Cfg) (A0:Option Addr) (cap0:Nat) (l:List Int) (n:Int) (w:World) (hV:CfgV c) (hz:l.length≤400) (hn:0≤n∧n≤1000) (hc:CfgOk w (·<w.heap.size) x c) (hr:Rd w (·<w.heap.size) A0 (flat intC l)) :
  Calls Try.prog 37 #[.slice A0 l.length cap0,.agg (cfgC x c),.int .i64 n] w fun e w'=>∃ es s A cap,e=.returned (.slice A (es:List Ent).length cap)∧Run c (stNew c) es s∧(es.length:Int)≤n∧es.length≤cap∧Rd w' (fun b=>w.heap.size≤b∧b<w'.heap.size) A (flat entC es)∧Below w.heap.size w w':=by
 have:=uni_calls ttOk (lgFok.i _) Try.func37 rfl (D:=lgD) (by kernel_rfl) (vs:=[slc 0 l.length cap0,cfgV CNu (ck x) c,.int .i64 n]) rfl { a0:=A0,x:=x } { l0:=l,c:=c } w { r0:=hr,c:=hc } (fun v hv=>by
  simp only[List.mem_cons,List.not_mem_nil,or_false] at hv
  rcases hv with rfl | rfl | rfl
  ·exact⟨show (0:Nat)<13 by decide,rfl⟩
  ·exact upl_cfg_ok { a0:=A0,x:=x } { l0:=l,c:=c }
  ·trivial) (log_sx { l0:=l,c:=c } (ck x) cap0 n hV hz hn)
 rw[List.map_cons,List.map_cons] at this
 have e0:=upl_cfg { a0:=A0,x:=x } { l0:=l,c:=c }
 dsimp only at e0 this
 rw[e0] at this
 refine this.mono ?_
 rintro e w' ⟨v,mem',nx',ρ',rfl,⟨es,s,hR,hen,hS,A1,m1,cap1,rfl,hcap⟩,hv,hm',hb⟩
 obtain⟨A,cp,e1,hr'⟩:=hm'.slR (enc:=entC) (sz:=9) (fun _=>rfl) (by omega) hS
 have e2:den ρ' (.slice A1 m1 cap1)=.slice A es.length cp:=e1
 have e3:cap1=cp:=by cases A1<;>simp[den1] at e1<;>exact e1.2.2
 exact⟨es,s,A,cp,by rw[e2],hR,hen,e3 ▸ hcap,hr',hb⟩
def ctLog:CT:=fun vs mem nx K=>∃ N x c r cap l n,vs=[slc r (l:List Int).length cap,cfgV N x c,.int .i64 n]∧(keeps mem (cfgM N c)∧HasRow mem r 1 intC 0 l)∧(CfgV c∧l.length≤400∧0≤n∧n≤1000)∧∀ es s cap',Run c (stNew c) es s→(es.length:Int)≤n→es.length≤cap'→K (slc nx es.length cap') ((nx,rowOfL 500000 9 entC default es)::mem) (nx+1)
theorem logOk:CSound Try.prog 37 ctLog:=⟨by kernel_rfl,fun {C ρ fr mem nx a w vs K} hc hs hv=>by
 obtain⟨N,x,c,r,cap,l,n,rfl,⟨hk,hr⟩,⟨hV,hl,hn⟩,hK⟩:=hc
 have e0:([slc r l.length cap,cfgV N x c,.int .i64 n].map (den ρ)).toArray=#[.slice (ρ r).A l.length cap,.agg (cfgC (cfgX ρ N x) c),.int .i64 n]:=by
  rw[List.map_cons,List.map_cons,den_cfg]
  rfl
 rw[e0]
 refine (mkLog_calls (cfgX ρ N x) c (ρ r).A cap l n w hV hl hn (hs.cfg hk (fun b h _=>h)) (hs.hasRd (enc:=intC) (sz:=1) (fun _=>rfl) (by omega) hr)).mono ?_
 rintro e w' ⟨es,s,A,cp,rfl,hR,hen,hcp,hrd,hb⟩
 obtain⟨q1,-⟩:=(hs.later hb).addList hs.frB hs.rest.size (enc:=entC) (sz:=9) (fun _=>rfl) (by omega) entC_plain default (t:=500000) rfl hrd
 have q2:setPl ρ nx ⟨A,9,es.length,false,noSub⟩ nx=⟨A,9,es.length,false,noSub⟩:=setPl_same _ _ _
 refine⟨slc nx es.length cp,_,_,_,?_,hK es s cp hR hen hcp,q1,?_,fun i hi=>setPl_lt _ _ hi,by omega⟩
 ·show Ending.returned (.slice A es.length cp)=.returned (.slice (setPl ρ nx ⟨A,9,es.length,false,noSub⟩ nx).A es.length cp)
  rw[q2]
 ·exact⟨show nx<nx+1 by omega,by rw[q2]⟩⟩
/-! make.State: the state of a log. -/
def msF:FT:=[(37,ctLog),(36,ctFoldR)]
theorem msFok:FTok Try.prog msF:=ft_cons logOk (ft_cons foldROk ft_nil)
def msD:List (Nat×DQ):=[(1,{ k:=13,L:=[13],A:=[10],pre:=[(0,false),(1,false),(2,false),(3,false),(4,true),(5,true),(6,false),(7,false),(8,false),(9,false)],post:=[(11,true),(12,false)] })]
set_option maxRecDepth 100000 in
set_option maxHeartbeats 8000000 in
theorem mkState_sx (d:UD) (x:CfgK) (cap0:Nat) (n:Int) (hV:CfgV d.c) (hz:d.l0.length≤400) (hn:0≤n∧n≤1000) :
  sx tt msF msD (bodyOf Try.f19) (argF 0 [slc 0 d.l0.length cap0,cfgV CNu x d.c,.int .i64 n]) (uniM d) 13 (endx tt Try.f19.results.toList fun v mem' _=>∃ es s y,Run d.c (stNew d.c) es s∧(es.length:Int)≤n∧v=stV ⟨18,17,500000⟩ y s∧keeps mem' (stM ⟨18,17,500000⟩ s)):=by
 have hnt:=hV.nt
 have hnc:=hV.nc
 refine⟨CNu,x,d.c,0,cap0,d.l0,n,rfl,⟨kp_,?_⟩,⟨hV,hz,hn⟩,?_⟩
 ·exact⟨_,_,_,rfl,Nat.le_refl _,fun k hk=>rfl⟩
 intro es s cap2 hR hen hcp
 refine⟨kp_,?_⟩
 refine⟨CNu,x,d.c,16,cap2,es,rfl,⟨kp_,⟨_,_,_,rfl,Nat.le_refl _,fun k hk=>rfl⟩⟩,⟨hV,by omega⟩,?_⟩
 intro y
 rw[hR.foldC]
 refine⟨kp_,?_⟩
 refine⟨kp_,?_⟩
 exact⟨es,s,y,hR,hen,rfl,kp_⟩
theorem mkState_calls (x:CfgA) (c:Cfg) (A0:Option Addr) (cap0:Nat) (l:List Int) (n:Int) (w:World) (hV:CfgV c) (hz:l.length≤400) (hn:0≤n∧n≤1000) (hc:CfgOk w (·<w.heap.size) x c) (hr:Rd w (·<w.heap.size) A0 (flat intC l)) :
  Calls Try.prog 19 #[.slice A0 l.length cap0,.agg (cfgC x c),.int .i64 n] w fun e w'=>∃ es s y,e=.returned (.agg (stC y s))∧Run c (stNew c) es s∧(es.length:Int)≤n∧StOk w' (fun b=>w.heap.size≤b∧b<w'.heap.size) y s∧Below w.heap.size w w':=by
 have:=uni_calls ttOk (msFok.i _) Try.func19 rfl (D:=msD) (by kernel_rfl) (vs:=[slc 0 l.length cap0,cfgV CNu (ck x) c,.int .i64 n]) rfl { a0:=A0,x:=x } { l0:=l,c:=c } w { r0:=hr,c:=hc } (fun v hv=>by
  simp only[List.mem_cons,List.not_mem_nil,or_false] at hv
  rcases hv with rfl | rfl | rfl
  ·exact⟨show (0:Nat)<13 by decide,rfl⟩
  ·exact upl_cfg_ok { a0:=A0,x:=x } { l0:=l,c:=c }
  ·trivial) (mkState_sx { l0:=l,c:=c } (ck x) cap0 n hV hz hn)
 rw[List.map_cons,List.map_cons] at this
 have e0:=upl_cfg { a0:=A0,x:=x } { l0:=l,c:=c }
 dsimp only at e0 this
 rw[e0] at this
 refine this.mono ?_
 rintro e w' ⟨v,mem',nx',ρ',rfl,⟨es,s,y,hR,hen,rfl,k1,k2,-⟩,hv,hm',hb⟩
 refine⟨es,s,⟨(ρ' 18).A,y.ct,(ρ' 17).A,y.cc⟩,?_,hR,hen,⟨?_,?_⟩,hb⟩
 ·rw[den_st]
  rfl
 ·exact (hm'.blk 18 _ k1).fresh (enc:=tsC) default rfl rfl (fun k hk=>rfl) (fun _=>rfl) (by omega)
 ·exact (hm'.blk 17 _ k2).fresh (enc:=csC) default rfl rfl (fun k hk=>rfl) (fun _=>rfl) (by omega)
def ctState:CT:=fun vs mem nx K=>∃ N x c r cap l n,vs=[slc r (l:List Int).length cap,cfgV N x c,.int .i64 n]∧(keeps mem (cfgM N c)∧HasRow mem r 1 intC 0 l)∧(CfgV c∧l.length≤400∧0≤n∧n≤1000)∧∀ es s y,Run c (stNew c) es s→(es.length:Int)≤n→K (stV ⟨nx+1,nx,500000⟩ y s) (stM ⟨nx+1,nx,500000⟩ s++mem) (nx+2)
theorem stateOk:CSound Try.prog 19 ctState:=⟨by kernel_rfl,fun {C ρ fr mem nx a w vs K} hc hs hv=>by
 obtain⟨N,x,c,r,cap,l,n,rfl,⟨hk,hr⟩,⟨hV,hl,hn⟩,hK⟩:=hc
 have e0:([slc r l.length cap,cfgV N x c,.int .i64 n].map (den ρ)).toArray=#[.slice (ρ r).A l.length cap,.agg (cfgC (cfgX ρ N x) c),.int .i64 n]:=by
  rw[List.map_cons,List.map_cons,den_cfg]
  rfl
 rw[e0]
 refine (mkState_calls (cfgX ρ N x) c (ρ r).A cap l n w hV hl hn (hs.cfg hk (fun b h _=>h)) (hs.hasRd (enc:=intC) (sz:=1) (fun _=>rfl) (by omega) hr)).mono ?_
 rintro e w' ⟨es,s,y,rfl,hR,hen,hst,hb⟩
 obtain⟨q1,q2,q3,q4⟩:=hs.addSt hb hst
 exact⟨_,_,_,_,by rw[q2],hK es s ⟨y.ct,y.cc⟩ hR hen,q1,q3,q4⟩⟩
theorem mkLight_below (A:Option Addr) (n cp:Nat) (w:World) (hn:n≤maxLen):Calls Try.prog 5 #[.slice A n cp] w fun r w'=>r=.returned (.bool (decide (n≤200)))∧Below w.heap.size w w':=by
 refine (mkLight_any A n cp w hn).mono ?_
 rintro e w' ⟨h,rfl⟩
 exact⟨h,Below.refl _ _⟩
def ctLight:CT:=fun vs mem nx K=>∃ Mz0 xz0 z0,vs=[slc Mz0 (z0:List Int).length xz0]∧(lk mem Mz0=some (intRow z0))∧(z0.length≤maxLen)∧K (.bool (decide (z0.length≤200))) mem nx
theorem lightOk:CSound Try.prog 5 ctLight:=(ptsOk (R:=fun l z=>∃ z0,l=[.li z0]∧z=.bool (decide (z0.length≤200))) (pre:=fun l=>∃ z0,l=[.li z0]∧(z0.length≤maxLen)) (by kernel_rfl) (by
 rintro ps w ⟨z0,hps,hpre⟩ hok
 obtain⟨xz0,yz0,ps0,rfl,hps0⟩:=dt_l hps
 obtain rfl:=dt_nil hps0
 have hpz0:=hok (.li xz0 yz0 z0) (by simp)
 refine (mkLight_below xz0 z0.length yz0 w hpre).mono ?_
 rintro e w' ⟨rfl,hb⟩
 exact⟨_,⟨z0,rfl,rfl⟩,trivial,rfl,hb⟩)).mono (by
 rintro vs mem nx K ⟨Mz0,xz0,z0,rfl,hk,hpre,hK⟩
 exact⟨[.li Mz0 xz0 z0],rfl,⟨hk,trivial⟩,⟨_,rfl,hpre⟩,by rintro z ⟨z0',hl,hz⟩;cases hl;subst hz;exact hK⟩)
end Go.Proofs.Ytbmlgcjoeeejbaa
namespace Go.Proofs.Ytbmlgcjoeeejbaa
open Go.ChangeShapes Go.WideShapes Go.ChangeAt Go.RowKit Go.Deep
set_option linter.unusedSimpArgs false
set_option linter.unusedVariables false
section
variable {H:Type} {enc:TypeId×Value→H} {w:World} {base:Nat} {spare:Nat→Bool} {held:Bool}
end
end Go.Proofs.Ytbmlgcjoeeejbaa
namespace Go.Proofs.Ytbmlgcjoeeejbaa
open Go.RowKit
set_option linter.unusedSimpArgs false
set_option linter.unusedVariables false
/-! Plain facts on configurations and atlases. -/
theorem atlIn_st {c:Cfg} {s:St} (hV:CfgV c) (hI:StInv c s) (par:Int):AtlIn (atl0 s par):=by
 have h1:=hI.tick
 have h2:=hI.count
 have h3:=hI.lt
 have h4:=hV.nt
 have h5:=hV.nc
 refine⟨by unfold in64;show -9223372036854775808≤s.count∧s.count<_;omega,by unfold in64;show -9223372036854775808≤s.tick∧s.tick<_;omega,by show (routesOf s).length≤1000;rw[routes_len];omega,fun x hx=>?_⟩
 obtain⟨t,ht,rfl⟩:=List.mem_map.1 (show x ∈ s.tenants.map routeT from hx)
 have hT:=hI.ten t ht
 have h6:=hT.home
 have h7:=hT.epoch
 unfold routeT in64
 refine⟨?_,by dsimp only;omega⟩
 dsimp only
 split<;>omega
theorem make_in {c:Cfg} {s:St} (hV:CfgV c) (hI:StInv c s) (par key:Int):AtlIn (makeA s par key):=⟨(atlIn_st hV hI par).n,(atlIn_st hV hI par).t,(atlIn_st hV hI par).len,(atlIn_st hV hI par).r⟩
theorem make_valid {c:Cfg} {s:St} (hE:cfgErr c=0) (hV:CfgV c) (hI:StInv c s) (par key:Int):ValidA c (makeA s par key) key:=by
 have h1:=hI.tick
 have h2:=hI.count
 have h3:=hI.lt
 refine⟨hE,by show (routesOf s).length=_;rw[routes_len,h3],?_,?_,fun k hk=>?_,?_⟩
 ·show 0≤s.count∧s.count≤4096;omega
 ·show 0≤s.tick∧s.tick≤1073741824;omega
 ·have hk':k<s.tenants.length:=by rw[← routes_len];exact hk
  show RouteOk c ((routesOf s).getD k (0,0))
  rw[routes_get hk']
  have hT:=hI.ten (s.tenants.getD k default) (by rw[List.getD_eq_getElem?_getD,List.getElem?_eq_getElem hk'];exact List.getElem_mem _)
  have h6:=hT.home
  have h7:=hT.epoch
  unfold RouteOk routeT
  dsimp only
  split<;>omega
 ·show (makeA s par key).sum=_
  rw[sum_make,body_make,par_make]
theorem MadeCfg.lens {c:Cfg} (h:MadeCfg c):Lens c:=by
 have h1:=h.zones
 have h2:=h.cells
 have h3:=h.tenants
 have h4:=h.versions
 have h5:=h.replicas
 have h6:=h.observers
 unfold Lens maxLen
 omega
end Go.Proofs.Ytbmlgcjoeeejbaa
namespace Go.Proofs.Ytbmlgcjoeeejbaa
open Go.ChangeShapes Go.WideShapes Go.ChangeAt Go.RowKit Go.Deep
set_option linter.unusedSimpArgs false
set_option linter.unusedVariables false
section
variable {H:Type} {enc:TypeId×Value→H} {w:World} {base:Nat} {spare:Nat→Bool} {held:Bool}
theorem u8_wf {z:Int} (h:(Lit.int .u8 z).wf=true):0≤z∧z<256:=by
 simp[Lit.wf,IntKind.min,IntKind.max,IntKind.bits,IntKind.signed] at h
 omega
theorem open_bytes {fuel:Nat} {A:Option Addr} {len cap:Nat} {x:DataW H×List MemPlace} (h:DataW.trod enc Try.prog w base spare held fuel 37 [.slice A len cap]=some x) :
  len≤maxLen∧∃ zs:List Int,zs.length=len∧True∧((∀ x ∈ zs,0≤x∧x<256)∧zs.length≤cap∧Rd w (·<w.heap.size) A (flat u8C zs)):=by
 have hcap:len≤cap:=by
  rcases open_slice Try.underlying37 h with⟨h0,_⟩ | ⟨a,len',cap',m,n,D,Pl,hcs,hb,hl,hm,hmm,hx,hi⟩
  ·simp at h0
   obtain⟨rfl,rfl,rfl⟩:=h0
   exact Nat.le_refl _
  ·simp at hcs
   obtain⟨rfl,rfl,rfl⟩:=hcs
   exact hl
 obtain⟨hm,css,h1,h2,h3⟩:=open_rows Try.underlying37 (by kernel_rfl) (sz:=1) (by omega) h
 refine⟨hm,?_⟩
 have hx:∀ c ∈ css,∃ e:{ z:Int // (Lit.int .u8 z).wf=true },c=[Value.int .u8 e.1]:=by
  intro c hc
  obtain⟨_,n,y,hy⟩:=h2 c hc
  obtain⟨z,rfl,_,hw⟩:=DataW.trod_int Try.underlying5 hy
  exact⟨⟨z,hw⟩,rfl⟩
 obtain⟨r,hr⟩:=map_of_all hx
 have hlen:(r.map (·.1)).length=len:=by rw[← h1,hr];simp
 refine⟨r.map (·.1),hlen,trivial,?_,by rw[hlen];exact hcap,?_⟩
 ·intro z hz
  obtain⟨e,_,rfl⟩:=List.mem_map.1 hz
  exact u8_wf e.2
 ·have:css.flatten=flat u8C (r.map (·.1)):=by
   rw[hr]
   clear hr hlen
   induction r with
   | nil=>rfl
   | cons a l ih=>simp[flat] at ih ⊢;exact ih
  rwa[this] at h3
end
end Go.Proofs.Ytbmlgcjoeeejbaa
namespace Go.Proofs.Ytbmlgcjoeeejbaa
open Go.RowKit
set_option linter.unusedSimpArgs false
set_option linter.unusedVariables false
/-! Reading integers out of bytes: plain facts. -/
abbrev byteL (l:List Int):Prop:=∀ x ∈ l,0≤x∧x<256
theorem byteL.at_ {l:List Int} (h:byteL l) (k:Nat):0≤l.getD k 0∧l.getD k 0<256:=by
 rw[List.getD_eq_getElem?_getD]
 cases hk:l[k]? with
 | none=>simp
 | some x=>exact h x (List.mem_of_getElem? hk)
def tkU (l:List Int):Nat→Int
 | 0=>0
 | k+1=>tkU l k+(l.getD k 0 % 128) * 128 ^ k
def numI (u:Int):Int:=if u % 2=0 then u / 2 else -(u / 2)-1
def tkGo (l:List Int):Nat→Nat→Int×Int×Int
 | 0,_=>(0,0,18)
 | f+1,k=>if l.length≤k then (0,0,17) else if l.getD k 0<128 then (if (0<k∧l.getD k 0=0)∨(k=9∧1<l.getD k 0) then (0,0,18) else (numI (tkU l (k+1)),(k:Int)+1,0)) else tkGo l f (k+1)
def takeI (l:List Int):Int×Int×Int:=tkGo l 10 0
theorem e128_9:(128:Int) ^ 9=9223372036854775808:=by decide
theorem e128_10:(128:Int) ^ 10=1180591620717411303424:=by decide
theorem pow128 (k:Nat):(0:Int)<128 ^ k:=Int.pow_pos (by decide)
theorem tkU_bd {l:List Int} (h:byteL l):∀ k,0≤tkU l k∧tkU l k<128 ^ k
 | 0=>by simp[tkU]
 | k+1=>by
  have h1:=tkU_bd h k
  have h2:=h.at_ k
  have h3:=pow128 k
  have h4:0≤(l.getD k 0 % 128) * 128 ^ k:=Int.mul_nonneg (by omega) (by omega)
  have h5:(l.getD k 0 % 128) * 128 ^ k≤127 * 128 ^ k:=Int.mul_le_mul_of_nonneg_right (by omega) (by omega)
  have h6:(128:Int) ^ (k+1)=128 ^ k * 128:=Int.pow_succ _ _
  rw[tkU,h6]
  omega
theorem or_add {u y:Int} {m:Nat} (hu:0≤u∧u<2 ^ m) (hy:0≤y) (hb:y * 2 ^ m<18446744073709551616) (hm:m<64):IntKind.u64.wrap ((BitVec.ofInt 64 u ||| BitVec.ofInt 64 (y * 2 ^ m)).toNat:Int)=u+y * 2 ^ m:=by
 obtain⟨u,rfl⟩:=Int.eq_ofNat_of_zero_le hu.1
 obtain⟨y,rfl⟩:=Int.eq_ofNat_of_zero_le hy
 have e2:(2:Int) ^ m=((2 ^ m:Nat):Int):=by push_cast;rfl
 rw[e2] at hu hb ⊢
 have hu':u<2 ^ m:=by omega
 have e3:((y:Int) * ((2 ^ m:Nat):Int))=((y * 2 ^ m:Nat):Int):=by push_cast;rfl
 rw[e3] at hb ⊢
 have hb':y * 2 ^ m<18446744073709551616:=by omega
 have h64:2 ^ m≤2 ^ 63:=Nat.pow_le_pow_right (by decide) (by omega)
 have h3:(2:Nat) ^ 63=9223372036854775808:=by decide
 rw[BitVec.ofInt_natCast,BitVec.ofInt_natCast,BitVec.toNat_or,BitVec.toNat_ofNat,BitVec.toNat_ofNat,Nat.mod_eq_of_lt (by omega),Nat.mod_eq_of_lt (by omega)]
 have h1:u ||| y * 2 ^ m=y * 2 ^ m+u:=by
  rw[Nat.or_comm,Nat.mul_comm,Nat.two_pow_add_eq_or_of_lt hu']
 have h2:y * 2 ^ m+u<18446744073709551616:=by
  by_cases hm0:y=0
  ·subst hm0;omega
  ·have e64:(18446744073709551616:Nat)=2 ^ (64-m) * 2 ^ m:=by rw[← Nat.pow_add,show 64-m+m=64 by omega]
   rw[e64] at hb' ⊢
   have hlt:=Nat.lt_of_mul_lt_mul_right hb'
   have:=Nat.mul_le_mul_right (2 ^ m) (show y+1≤2 ^ (64-m) by omega)
   rw[Nat.add_mul] at this
   omega
 rw[h1,wu64 (by omega)]
 omega
set_option maxRecDepth 100000 in
theorem and127_nat:∀ b:Fin 256,(BitVec.ofNat 8 b.val &&& 127#8).toNat=b.val % 128:=by decide
theorem and127 {x:Int} (h:0≤x∧x<256):IntKind.u8.wrap ((BitVec.ofInt 8 x &&& BitVec.ofInt 8 127).toNat:Int)=x % 128:=by
 have hb:x=((x.toNat:Nat):Int):=by omega
 have h2:=and127_nat ⟨x.toNat,by omega⟩
 have h3:(BitVec.ofInt 8 127)=127#8:=by decide
 rw[hb,BitVec.ofInt_natCast,h3,h2,wu8 (by dsimp only;omega)]
 dsimp only
 omega
theorem pow7 (k:Nat):(128:Int) ^ k=2 ^ (7 * k):=by
 rw[Int.pow_mul];rfl
theorem grp_step {l:List Int} (hl:byteL l) {k:Nat} {y:Int} (hy:y=l.getD k 0 % 128) (hk:k≤8∨k=9∧y≤1):IntKind.u64.wrap ((BitVec.ofInt 64 (tkU l k) ||| BitVec.ofInt 64 (IntKind.u64.wrap (y * 2 ^ min (7 * k) 64))).toNat:Int)=tkU l (k+1):=by
 subst hy
 have h1:=tkU_bd hl k
 have h2:=hl.at_ k
 have h3:min (7 * k) 64=7 * k:=by omega
 rw[pow7] at h1
 have h4:(l.getD k 0 % 128) * 2 ^ (7 * k)<18446744073709551616:=by
  rcases hk with hk | ⟨rfl,hy⟩
  ·have e1:(2:Int) ^ (7 * k)≤2 ^ 56:=by
    have:(2:Nat) ^ (7 * k)≤2 ^ 56:=Nat.pow_le_pow_right (by decide) (by omega)
    exact_mod_cast this
   have e2:(2:Int) ^ 56=72057594037927936:=by decide
   have e3:(l.getD k 0 % 128) * 2 ^ (7 * k)≤127 * 2 ^ (7 * k):=Int.mul_le_mul_of_nonneg_right (by omega) (by omega)
   omega
  ·have e2:(2:Int) ^ (7 * 9)=9223372036854775808:=by decide
   rw[e2]
   omega
 have h0:0≤(l.getD k 0 % 128) * 2 ^ (7 * k):=Int.mul_nonneg (by omega) (by omega)
 rw[h3,wu64 ⟨h0,h4⟩,or_add h1 (by omega) h4 (by omega),tkU,pow7]
theorem num_even {u:Int} (h:0≤u∧u<18446744073709551616) (he:u % 2=0):IntKind.i64.wrap (u / 2)=numI u:=by
 unfold numI
 rw[if_pos he,wrapi (by omega)]
theorem numI_bd {u:Int} (h:0≤u∧u<18446744073709551616):in64 (numI u):=by
 unfold numI in64
 split<;>omega
theorem code_num {u:Int} (h:0≤u):codeI (numI u)=u:=by
 unfold numI codeI
 by_cases he:u % 2=0
 ·rw[if_pos he,if_pos (by omega)];omega
 ·rw[if_neg he,if_neg (by omega)];omega
theorem num_code (n:Int):numI (codeI n)=n:=by
 unfold codeI numI
 by_cases h:0≤n
 ·rw[if_pos h,if_pos (by omega)];omega
 ·rw[if_neg h,if_neg (by omega)];omega
theorem tkU_app {l r:List Int}:∀ {k:Nat},k≤l.length→tkU (l++r) k=tkU l k
 | 0,_=>rfl
 | k+1,h=>by
  rw[tkU,tkU,tkU_app (by omega),List.getD_eq_getElem?_getD,List.getD_eq_getElem?_getD,List.getElem?_append_left (by omega)]
theorem getD_mid (p:List Int) (x:Int) (r:List Int):(p++x::r).getD p.length 0=x:=by
 rw[List.getD_eq_getElem?_getD,List.getElem?_append_right (Nat.le_refl _),Nat.sub_self]
 rfl
theorem tkGo_enc (f:Nat):∀ (p:List Int) (u:Nat) (r:List Int),p.length+f=10→(p=[]∨0<u)→(u:Int) * 128 ^ p.length<18446744073709551616→tkGo (p++encU u++r) f p.length=(numI (tkU p p.length+(u:Int) * 128 ^ p.length),((p.length+(encU u).length:Nat):Int),0):=by
 induction f with
 | zero=>
  intro p u r hf hp hb
  rcases hp with rfl | hu
  ·simp at hf
  ·rw[show p.length=10 by omega] at hb
   have:=e128_10
   omega
 | succ f ih0=>
  intro p u r hf hp hb
  rw[tkGo]
  by_cases hu:u<128
  ·rw[encU_lt hu]
   have e0:p++[(u:Int)]++r=p++(u:Int)::r:=by simp
   rw[e0,if_neg (by simp),getD_mid,if_pos (by omega)]
   have h9:¬ ((0<p.length∧(u:Int)=0)∨(p.length=9∧1<(u:Int))):=by
    rintro (⟨h1,h2⟩ | ⟨h1,h2⟩)
    ·rcases hp with rfl | hu0
     ·simp at h1
     ·omega
    ·rw[h1] at hb
     have:=e128_9
     omega
   rw[if_neg h9]
   have e1:tkU (p++(u:Int)::r) (p.length+1)=tkU p p.length+(u:Int) * 128 ^ p.length:=by
    rw[tkU,tkU_app (Nat.le_refl _),getD_mid,show (u:Int) % 128=u by omega]
   rw[e1]
   simp
  ·rw[encU_ge hu]
   have e0:p++(((u % 128+128:Nat):Int)::encU (u / 128))++r=(p++[((u % 128+128:Nat):Int)])++encU (u / 128)++r:=by simp
   have e00:p++(((u % 128+128:Nat):Int)::encU (u / 128))++r=p++((u % 128+128:Nat):Int)::(encU (u / 128)++r):=by simp
   have h1:(p++(((u % 128+128:Nat):Int)::encU (u / 128))++r).getD p.length 0=((u % 128+128:Nat):Int):=by rw[e00,getD_mid]
   have e1:tkU (p++[((u % 128+128:Nat):Int)]) (p.length+1)=tkU p p.length+((u % 128:Nat):Int) * 128 ^ p.length:=by
    rw[tkU,tkU_app (Nat.le_refl _),getD_mid]
    congr 2
    omega
   have e6:(128:Int) ^ (p.length+1)=128 ^ p.length * 128:=Int.pow_succ _ _
   have e7:((u / 128:Nat):Int) * (128 ^ p.length * 128)=((u / 128:Nat):Int) * 128 * 128 ^ p.length:=by
    rw[Int.mul_comm ((128:Int) ^ p.length) 128,Int.mul_assoc]
   have e8:(u:Int) * 128 ^ p.length=((u % 128:Nat):Int) * 128 ^ p.length+((u / 128:Nat):Int) * 128 * 128 ^ p.length:=by
    rw[← Int.add_mul]
    congr 1
    omega
   have e9:0≤((u % 128:Nat):Int) * 128 ^ p.length:=Int.mul_nonneg (by omega) (Int.le_of_lt (pow128 _))
   have ih:=ih0 (p++[((u % 128+128:Nat):Int)]) (u / 128) r (by simp;omega) (.inr (by omega)) (by
    rw[List.length_append,List.length_singleton,e6,e7]
    omega)
   rw[List.length_append,List.length_singleton,e1,e6,e7] at ih
   rw[if_neg (by rw[e00];simp),h1,if_neg (by omega),e0,ih]
   refine Prod.ext ?_ (Prod.ext ?_ rfl)
   ·show numI _=numI _
    rw[e8]
    congr 1
    omega
   ·simp
    omega
theorem take_enc {n:Int} (hn:in64 n) (r:List Int):takeI (intBy n++r)=(n,((intBy n).length:Int),0):=by
 have hb:=codeI_bd hn
 have h:=tkGo_enc 10 [] (codeI n).toNat r rfl (.inl rfl) (by simp;omega)
 simp only[List.length_nil,List.nil_append,tkU,Nat.zero_add] at h
 unfold takeI intBy
 rw[h]
 have:(0:Int)+((codeI n).toNat:Int) * 128 ^ 0=codeI n:=by simp;omega
 rw[this,num_code]
theorem byteL_enc:∀ (k u:Nat),u<128 ^ (k+1)→byteL (encU u)
 | 0,u,h=>by rw[encU_lt (by simpa using h)];intro x hx;simp at hx h;omega
 | k+1,u,h=>by
  by_cases hu:u<128
  ·rw[encU_lt hu];intro x hx;simp at hx;omega
  ·rw[encU_ge hu]
   intro x hx
   rcases List.mem_cons.1 hx with rfl | hx
   ·omega
   ·exact byteL_enc k (u / 128) (by rw[Nat.pow_succ] at h;omega) x hx
theorem byteL_int {n:Int} (h:in64 n):byteL (intBy n):=by
 have:=codeI_bd h
 exact byteL_enc 9 _ (by omega)
theorem tkGo_ok {l:List Int} (hl:byteL l):∀ (f k:Nat) (v n:Int),k+f=10→tkGo l f k=(v,n,0)→∃ u m:Nat,n=((k+m:Nat):Int)∧k+m≤l.length∧1≤m∧(k=0∨0<u)∧v=numI (tkU l k+(u:Int) * 128 ^ k)∧tkU l k+(u:Int) * 128 ^ k<18446744073709551616∧(l.drop k).take m=encU u
 | 0,k,v,n,hf,h=>by simp[tkGo] at h
 | f+1,k,v,n,hf,h=>by
  rw[tkGo] at h
  by_cases h1:l.length≤k
  ·rw[if_pos h1] at h;simp at h
  ·rw[if_neg h1] at h
   have hx:=hl.at_ k
   have hd:l.drop k=l.getD k 0::l.drop (k+1):=by
    rw[List.drop_eq_getElem_cons (by omega),List.getD_eq_getElem?_getD,List.getElem?_eq_getElem (by omega)]
    rfl
   by_cases h2:l.getD k 0<128
   ·rw[if_pos h2] at h
    by_cases h3:(0<k∧l.getD k 0=0)∨(k=9∧1<l.getD k 0)
    ·rw[if_pos h3] at h;simp at h
    ·rw[if_neg h3] at h
     simp only[Prod.mk.injEq,and_true] at h
     obtain⟨rfl,rfl⟩:=h
     have e1:l.getD k 0 % 128=l.getD k 0:=by omega
     refine⟨(l.getD k 0).toNat,1,by omega,by omega,by omega,?_,?_,?_,?_⟩
     ·by_cases hk:k=0
      ·exact .inl hk
      ·have:¬ (l.getD k 0=0):=fun q=>h3 (.inl ⟨by omega,q⟩)
       exact .inr (by omega)
     ·rw[tkU,e1,Int.toNat_of_nonneg hx.1]
     ·rw[Int.toNat_of_nonneg hx.1]
      have hb:=tkU_bd hl k
      by_cases hk:k=9
      ·subst hk
       have:=e128_9
       have h4:¬ (1<l.getD 9 0):=fun q=>h3 (.inr ⟨rfl,q⟩)
       have h5:l.getD 9 0 * 128 ^ 9≤1 * 128 ^ 9:=Int.mul_le_mul_of_nonneg_right (by omega) (by omega)
       omega
      ·have e2:(128:Int) ^ k≤128 ^ 8:=by
        have:(128:Nat) ^ k≤128 ^ 8:=Nat.pow_le_pow_right (by decide) (by omega)
        exact_mod_cast this
       have e3:(128:Int) ^ 8=72057594037927936:=by decide
       have h5:l.getD k 0 * 128 ^ k≤127 * 128 ^ k:=Int.mul_le_mul_of_nonneg_right (by omega) (by omega)
       omega
     ·rw[hd,List.take_succ_cons,List.take_zero,encU_lt (by omega),Int.toNat_of_nonneg hx.1]
   ·rw[if_neg h2] at h
    obtain⟨u,m,q1,q2,q3,q4,q5,q6,q7⟩:=tkGo_ok hl f (k+1) v n (by omega) h
    have hu:0<u:=by omega
    have e6:(128:Int) ^ (k+1)=128 ^ k * 128:=Int.pow_succ _ _
    have e5:tkU l (k+1)+(u:Int) * 128 ^ (k+1)=tkU l k+(((l.getD k 0 % 128).toNat+u * 128:Nat):Int) * 128 ^ k:=by
     rw[tkU,e6]
     have:(((l.getD k 0 % 128).toNat+u * 128:Nat):Int)=l.getD k 0 % 128+u * 128:=by omega
     rw[this,Int.add_mul,Int.mul_comm ((128:Int) ^ k) 128,← Int.mul_assoc,Int.add_assoc]
    have hu2:0<(l.getD k 0 % 128).toNat+u * 128:=by clear q6 q5 e5;omega
    refine⟨(l.getD k 0 % 128).toNat+u * 128,m+1,by rw[q1];congr 1;omega,by omega,by omega,.inr hu2,by rw[q5,e5],by rw[← e5];exact q6,?_⟩
    rw[hd,List.take_succ_cons,q7,encU_ge (u:=(l.getD k 0 % 128).toNat+u * 128) (by omega)]
    have g1:(((l.getD k 0 % 128).toNat+u * 128) % 128+128:Nat)=(l.getD k 0).toNat:=by omega
    have g2:((l.getD k 0 % 128).toNat+u * 128) / 128=u:=by omega
    rw[g1,g2,Int.toNat_of_nonneg hx.1]
theorem take_ok {l:List Int} (hl:byteL l) {v n:Int} (h:takeI l=(v,n,0)):∃ m:Nat,n=(m:Int)∧1≤m∧m≤l.length∧in64 v∧l.take m=intBy v:=by
 obtain⟨u,m,q1,q2,q3,-,q5,q6,q7⟩:=tkGo_ok hl 10 0 v n rfl h
 have e0:tkU l 0+(u:Int) * 128 ^ 0=u:=by simp[tkU]
 rw[e0] at q5 q6
 refine⟨m,by omega,q3,by omega,by rw[q5];exact numI_bd (by omega),?_⟩
 rw[List.drop_zero] at q7
 rw[q7]
 unfold intBy
 rw[q5,code_num (by omega)]
 rfl
/-! Bytes and Read: plain facts. -/
def eightGo (h:Int):Nat→List Int
 | 0=>[]
 | k+1=>eightGo h k++[h / 256 ^ k % 256]
def eightI (h:Int):List Int:=eightGo h 8
def bk (l:List Int):Nat→Int
 | 0=>0
 | k+1=>bk l k+l.getD k 0 * 256 ^ k
theorem eightGo_len (h:Int):∀ k,(eightGo h k).length=k
 | 0=>rfl
 | k+1=>by simp[eightGo,eightGo_len h k]
theorem eightI_eq (h:Int):eightI h=[h % 256,h / 256 % 256,h / 65536 % 256,h / 16777216 % 256,h / 4294967296 % 256,h / 1099511627776 % 256,h / 281474976710656 % 256,h / 72057594037927936 % 256]:=by
 simp[eightI,eightGo]
theorem byteL_eight (h:Int):byteL (eightI h):=by
 rw[eightI_eq]
 intro x hx
 simp only[List.mem_cons,List.not_mem_nil,or_false] at hx
 omega
theorem bk_eq (l:List Int):bk l 8=l.getD 0 0+l.getD 1 0 * 256+l.getD 2 0 * 65536+l.getD 3 0 * 16777216+l.getD 4 0 * 4294967296+l.getD 5 0 * 1099511627776+l.getD 6 0 * 281474976710656+l.getD 7 0 * 72057594037927936:=by
 simp[bk]
theorem bk_bd {l:List Int} (h:byteL l):∀ k,0≤bk l k∧bk l k<256 ^ k
 | 0=>by simp[bk]
 | k+1=>by
  have h1:=bk_bd h k
  have h2:=h.at_ k
  have h3:(0:Int)<256 ^ k:=Int.pow_pos (by decide)
  have h4:0≤l.getD k 0 * 256 ^ k:=Int.mul_nonneg (by omega) (by omega)
  have h5:l.getD k 0 * 256 ^ k≤255 * 256 ^ k:=Int.mul_le_mul_of_nonneg_right (by omega) (by omega)
  have h6:(256:Int) ^ (k+1)=256 ^ k * 256:=Int.pow_succ _ _
  rw[bk,h6]
  omega
theorem bk_bd8 {l:List Int} (h:byteL l):0≤bk l 8∧bk l 8<18446744073709551616:=by
 have:=bk_bd h 8
 have e:(256:Int) ^ 8=18446744073709551616:=by decide
 omega
theorem bk_eight {h:Int} (hh:0≤h∧h<18446744073709551616) (r:List Int):bk (eightI h++r) 8=h:=by
 rw[bk_eq,eightI_eq]
 simp only[List.cons_append,List.getD_cons_zero,List.getD_cons_succ]
 omega
theorem eight_bk {l:List Int} (h:byteL l) (hl:8≤l.length):eightI (bk l 8)=l.take 8:=by
 match l,hl with
 | a::b::c::d::e::f::g::i::r,_=>
  have h0:=h a (by simp)
  have h1:=h b (by simp)
  have h2:=h c (by simp)
  have h3:=h d (by simp)
  have h4:=h e (by simp)
  have h5:=h f (by simp)
  have h6:=h g (by simp)
  have h7:=h i (by simp)
  rw[bk_eq,eightI_eq]
  simp only[List.getD_cons_zero,List.getD_cons_succ,List.take_succ_cons,List.take_zero,List.cons.injEq,and_true]
  refine⟨?_,?_,?_,?_,?_,?_,?_,?_⟩<;>omega
def bytesA (a:Atl):List Int:=bodyI a++eightI a.parent++eightI a.sum
def rdN (b:List Int):Nat→Int×List Int×Nat
 | 0=>(0,[],0)
 | m+1=>if (rdN b m).1=0 then (if (takeI (b.drop (rdN b m).2.2)).2.2=0 then (0,(rdN b m).2.1++[(takeI (b.drop (rdN b m).2.2)).1],(rdN b m).2.2+(takeI (b.drop (rdN b m).2.2)).2.1.toNat) else ((takeI (b.drop (rdN b m).2.2)).2.2,[],0)) else ((rdN b m).1,[],0)
def rtO (xs:List Int) (c:Nat):List (Int×Int):=(List.range c).map fun i=>(xs.getD (3+2 * i) 0,xs.getD (4+2 * i) 0)
def aZ0:Atl:=⟨0,0,[],0,0⟩
def readA (b:List Int):Atl×Int×Int:=
 if (rdN b 3).1=0 then
  (if (rdN b 3).2.1.getD 2 0<0∨32<(rdN b 3).2.1.getD 2 0 then (aZ0,0,18)
  else (match rdN b (3+2 * ((rdN b 3).2.1.getD 2 0).toNat) with
   | (e,xs,p)=>if e=0 then (if b.length<p+16 then (aZ0,0,17) else (⟨xs.getD 0 0,xs.getD 1 0,rtO xs ((rdN b 3).2.1.getD 2 0).toNat,bk (b.drop p) 8,bk (b.drop (p+8)) 8⟩,(p:Int)+16,0)) else (aZ0,0,e)))
 else (aZ0,0,(rdN b 3).1)
theorem byteL.drop {l:List Int} (h:byteL l) (k:Nat):byteL (l.drop k):=fun x hx=>h x (List.mem_of_mem_drop hx)
theorem byteL.app {l r:List Int} (h:byteL l) (k:byteL r):byteL (l++r):=fun x hx=>(List.mem_append.1 hx).elim (h x) (k x)
theorem rdN_ok {b:List Int} (hb:byteL b):∀ {m:Nat},(rdN b m).1=0→(rdN b m).2.1.length=m∧(rdN b m).2.2≤b.length∧(∀ x ∈ (rdN b m).2.1,in64 x)∧(rdN b m).2.1.flatMap intBy=b.take (rdN b m).2.2∧m≤(rdN b m).2.2
 | 0,_=>by simp[rdN]
 | m+1,h=>by
  rw[rdN] at h ⊢
  by_cases h1:(rdN b m).1=0
  ·rw[if_pos h1] at h ⊢
   by_cases h2:(takeI (b.drop (rdN b m).2.2)).2.2=0
   ·rw[if_pos h2]
    obtain⟨q1,q2,q3,q4,q5⟩:=rdN_ok hb h1
    obtain⟨k,r1,r2,r3,r4,r5⟩:=take_ok (hb.drop _) (v:=(takeI (b.drop (rdN b m).2.2)).1) (n:=(takeI (b.drop (rdN b m).2.2)).2.1) (by rw[← h2])
    rw[List.length_drop] at r3
    have hk:(takeI (b.drop (rdN b m).2.2)).2.1.toNat=k:=by omega
    refine⟨by simp[q1],by show _+_≤_;omega,fun x hx=>?_,?_,by show _≤_+_;omega⟩
    ·rcases List.mem_append.1 hx with hx | hx
     ·exact q3 x hx
     ·rw[List.mem_singleton.1 hx];exact r4
    ·show ((rdN b m).2.1++[_]).flatMap intBy=b.take (_+_)
     rw[List.flatMap_append,q4,hk,List.take_add,List.flatMap_cons,List.flatMap_nil,List.append_nil,r5]
   ·rw[if_neg h2] at h
    exact absurd h h2
  ·rw[if_neg h1] at h
   exact absurd h h1
theorem rdN_pre {b:List Int} {m:Nat} (h:(rdN b (m+1)).1=0):(rdN b m).1=0∧(takeI (b.drop (rdN b m).2.2)).2.2=0∧(rdN b (m+1)).2.1=(rdN b m).2.1++[(takeI (b.drop (rdN b m).2.2)).1]∧(rdN b (m+1)).2.2=(rdN b m).2.2+(takeI (b.drop (rdN b m).2.2)).2.1.toNat:=by
 rw[rdN] at h
 by_cases h1:(rdN b m).1=0
 ·rw[if_pos h1] at h
  by_cases h2:(takeI (b.drop (rdN b m).2.2)).2.2=0
  ·refine⟨h1,h2,?_,?_⟩<;>rw[rdN,if_pos h1,if_pos h2]
  ·rw[if_neg h2] at h;exact absurd h h2
 ·rw[if_neg h1] at h;exact absurd h h1
theorem rdN_step {b:List Int} {m:Nat} (h1:(rdN b m).1=0) (h2:(takeI (b.drop (rdN b m).2.2)).2.2=0):rdN b (m+1)=(0,(rdN b m).2.1++[(takeI (b.drop (rdN b m).2.2)).1],(rdN b m).2.2+(takeI (b.drop (rdN b m).2.2)).2.1.toNat):=by rw[rdN,if_pos h1,if_pos h2]
theorem rdN_bad {b:List Int} {m:Nat} (h1:(rdN b m).1=0) (h2:(takeI (b.drop (rdN b m).2.2)).2.2≠0):rdN b (m+1)=((takeI (b.drop (rdN b m).2.2)).2.2,[],0):=by rw[rdN,if_pos h1,if_neg h2]
theorem rdN_bads {b:List Int} {m:Nat} {e:Int} (he:e≠0) (h:rdN b m=(e,[],0)):∀ k,rdN b (m+k)=(e,[],0)
 | 0=>h
 | k+1=>by
  have:=rdN_bads he h k
  rw[show m+(k+1)=(m+k)+1 by omega,rdN,this,if_neg he]
theorem rdN_take {b:List Int}:∀ (k:Nat) {m:Nat},(rdN b (m+k)).1=0→(rdN b m).1=0∧(rdN b m).2.1 <+: (rdN b (m+k)).2.1
 | 0,m,h=>⟨h,List.prefix_refl _⟩
 | k+1,m,h=>by
  obtain⟨h1,-,h3,-⟩:=rdN_pre (m:=m+k) h
  obtain⟨q1,q2⟩:=rdN_take k h1
  exact⟨q1,q2.trans (by rw[show m+(k+1)=m+k+1 by omega,h3];exact List.prefix_append _ _)⟩
theorem rdN_enc {ns:List Int} (hn:∀ x ∈ ns,in64 x) (r:List Int):∀ m,m≤ns.length→rdN (ns.flatMap intBy++r) m=(0,ns.take m,((ns.take m).flatMap intBy).length)
 | 0,_=>by simp[rdN]
 | m+1,h=>by
  have ih:=rdN_enc hn r m (by omega)
  have e1:(ns.flatMap intBy++r).drop ((ns.take m).flatMap intBy).length=intBy (ns[m]'(by omega))++((ns.drop (m+1)).flatMap intBy++r):=by
   conv=>lhs;arg 2;arg 1;rw[← List.take_append_drop m ns,List.drop_eq_getElem_cons (by omega)]
   rw[List.flatMap_append,List.flatMap_cons,List.append_assoc,List.append_assoc,List.drop_left]
  have e2:=take_enc (hn _ (List.getElem_mem (show m<ns.length by omega))) ((ns.drop (m+1)).flatMap intBy++r)
  rw[rdN,ih]
  simp only[if_true,e1,e2]
  rw[List.take_add_one,List.getElem?_eq_getElem (by omega)]
  simp only[Option.toList,List.flatMap_append,List.length_append,List.flatMap_cons,List.flatMap_nil,List.append_nil,Int.toNat_natCast]
def nsA (a:Atl):List Int:=a.number::a.tick::(a.routes.length:Int)::a.routes.flatMap fun r=>[r.1,r.2]
theorem body_ns (a:Atl):bodyI a=(nsA a).flatMap intBy:=by
 unfold bodyI nsA
 rw[List.flatMap_cons,List.flatMap_cons,List.flatMap_cons,List.append_assoc,List.append_assoc]
 congr 3
 induction a.routes with
 | nil=>rfl
 | cons x l ih=>simp[routeB,ih]
theorem flat2_len (l:List (Int×Int)):(l.flatMap fun r=>[r.1,r.2]).length=2 * l.length:=by
 induction l with
 | nil=>rfl
 | cons x l ih=>simp[List.flatMap_cons,ih];omega
theorem flat2_get (l:List (Int×Int)):∀ i,i<l.length→(l.flatMap fun r=>[r.1,r.2]).getD (2 * i) 0=(l.getD i (0,0)).1∧(l.flatMap fun r=>[r.1,r.2]).getD (2 * i+1) 0=(l.getD i (0,0)).2:=by
 induction l with
 | nil=>intro i hi;simp at hi
 | cons x l ih=>
  intro i hi
  cases i with
  | zero=>simp[List.flatMap_cons]
  | succ i=>
   have:=ih i (by simp at hi;omega)
   rw[List.flatMap_cons,show 2 * (i+1)=2 * i+1+1 by omega]
   simpa using this
theorem rtO_ns (a:Atl) (r:List Int) (h:r=[]):rtO (nsA a) a.routes.length=a.routes:=by
 apply List.ext_getElem
 ·simp[rtO]
 ·intro i h1 h2
  have q:=flat2_get a.routes i h2
  rw[List.getD_eq_getElem?_getD (l:=a.routes),List.getElem?_eq_getElem h2] at q
  simp only[rtO,List.getElem_map,List.getElem_range,nsA]
  rw[show 3+2 * i=2 * i+1+1+1 by omega,show 4+2 * i=2 * i+1+1+1+1 by omega]
  simp only[List.getD_cons_succ]
  exact Prod.ext q.1 q.2
theorem rtO_flat {xs:List Int} {c:Nat} (h:xs.length=3+2 * c):((rtO xs c).flatMap fun r=>[r.1,r.2])=xs.drop 3:=by
 have key:∀ (k:Nat),k≤c→(((List.range k).map fun i=>(xs.getD (3+2 * i) 0,xs.getD (4+2 * i) 0)).flatMap fun r=>[r.1,r.2])=(xs.drop 3).take (2 * k):=by
  intro k
  induction k with
  | zero=>intro _;simp
  | succ k ih=>
   intro hk
   rw[List.range_succ,List.map_append,List.flatMap_append,ih (by omega),show 2 * (k+1)=2 * k+1+1 by omega,List.take_add_one,List.take_add_one,List.getElem?_drop,List.getElem?_drop,List.getElem?_eq_getElem (by omega),List.getElem?_eq_getElem (by omega),List.append_assoc]
   congr 1
   simp only[List.map_cons,List.map_nil,List.flatMap_cons,List.flatMap_nil,List.append_nil,Option.toList]
   rw[List.getD_eq_getElem?_getD,List.getElem?_eq_getElem (by omega),List.getD_eq_getElem?_getD,List.getElem?_eq_getElem (by omega)]
   simp only[Option.getD_some,List.cons_append,List.nil_append]
   congr 2
   congr 1
   omega
 have:=key c (Nat.le_refl _)
 rw[List.take_of_length_le (by simp;omega)] at this
 exact this
structure AtlBy (a:Atl):Prop extends AtlIn a where
 p:0≤a.parent∧a.parent<18446744073709551616
 s:0≤a.sum∧a.sum<18446744073709551616
 few:a.routes.length≤32
theorem nsA_in {a:Atl} (h:AtlIn a):∀ x ∈ nsA a,in64 x:=by
 intro x hx
 have hl:=h.len
 unfold nsA at hx
 simp only[List.mem_cons] at hx
 rcases hx with rfl | rfl | rfl | hx
 ·exact h.n
 ·exact h.t
 ·unfold in64;omega
 ·obtain⟨r,hr,hx⟩:=List.mem_flatMap.1 hx
  have:=h.r r hr
  simp only[List.mem_cons,List.not_mem_nil,or_false] at hx
  rcases hx with rfl | rfl
  ·exact this.1
  ·exact this.2
theorem nsA_len (a:Atl):(nsA a).length=3+2 * a.routes.length:=by
 unfold nsA
 simp only[List.length_cons,flat2_len]
 omega
theorem bytesA_len (a:Atl):(bytesA a).length=(bodyI a).length+16:=by
 simp[bytesA,eightI,eightGo_len]
theorem byteL_flat {ns:List Int} (hn:∀ x ∈ ns,in64 x):byteL (ns.flatMap intBy):=fun x hx=>by
 obtain⟨n,h1,h2⟩:=List.mem_flatMap.1 hx
 exact byteL_int (hn n h1) x h2
theorem byteL_bytes {a:Atl} (h:AtlIn a):byteL (bytesA a):=by
 unfold bytesA
 rw[body_ns]
 exact ((byteL_flat (nsA_in h)).app (byteL_eight _)).app (byteL_eight _)
theorem read_bytes {a:Atl} (h:AtlBy a) (r:List Int):readA (bytesA a++r)=(a,((bytesA a).length:Int),0):=by
 have e0:bytesA a++r=(nsA a).flatMap intBy++(eightI a.parent++(eightI a.sum++r)):=by
  unfold bytesA;rw[body_ns];simp only[List.append_assoc]
 have hf:=h.few
 have hl:=nsA_len a
 have e1:=rdN_enc (nsA_in h.toAtlIn) (eightI a.parent++(eightI a.sum++r)) 3 (by omega)
 have e2:=rdN_enc (nsA_in h.toAtlIn) (eightI a.parent++(eightI a.sum++r)) (3+2 * a.routes.length) (by omega)
 have e3:((nsA a).take 3).getD 2 0=(a.routes.length:Int):=rfl
 have e8:∀ h,(eightI h).length=8:=fun h=>eightGo_len h 8
 rw[List.take_of_length_le (by omega)] at e2
 unfold readA
 rw[e0,e1]
 simp only[e3,if_true,Int.toNat_natCast,e2]
 rw[if_neg (by omega),if_neg (by simp[e8];omega),List.drop_left,bk_eight h.p,rtO_ns a [] rfl]
 have e4:((nsA a).flatMap intBy++(eightI a.parent++(eightI a.sum++r))).drop (((nsA a).flatMap intBy).length+8)=eightI a.sum++r:=by
  rw[← List.drop_drop,List.drop_left,← e8 a.parent,List.drop_left]
 rw[e4,bk_eight h.s]
 refine Prod.ext rfl (Prod.ext ?_ rfl)
 show (((nsA a).flatMap intBy).length:Int)+16=((bytesA a).length:Int)
 rw[bytesA_len,body_ns]
 omega
theorem read_ok {b:List Int} (hb:byteL b) {a:Atl} {n:Int} (h:readA b=(a,n,0)):AtlBy a∧∃ m:Nat,n=(m:Int)∧19≤m∧m≤b.length∧bytesA a=b.take m:=by
 unfold readA at h
 by_cases h1:(rdN b 3).1=0
 ·rw[if_pos h1] at h
  by_cases h2:(rdN b 3).2.1.getD 2 0<0∨32<(rdN b 3).2.1.getD 2 0
  ·rw[if_pos h2] at h;simp at h
  ·rw[if_neg h2] at h
   generalize hr:rdN b (3+2 * ((rdN b 3).2.1.getD 2 0).toNat)=R at h
   obtain⟨e,xs,p⟩:=R
   dsimp only at h
   by_cases h3:e=0
   ·rw[if_pos h3] at h
    subst h3
    by_cases h4:b.length<p+16
    ·rw[if_pos h4] at h;simp at h
    ·rw[if_neg h4] at h
     simp only[Prod.mk.injEq,and_true] at h
     obtain⟨rfl,rfl⟩:=h
     obtain⟨q1,q2,q3,q4,q5⟩:=rdN_ok hb (m:=3+2 * ((rdN b 3).2.1.getD 2 0).toNat) (by rw[hr])
     obtain⟨-,t2⟩:=rdN_take (b:=b) (2 * ((rdN b 3).2.1.getD 2 0).toNat) (m:=3) (by rw[hr])
     obtain⟨w1,-,-,-,-⟩:=rdN_ok hb h1
     rw[hr] at q1 q2 q3 q4 q5 t2
     dsimp only at q1 q2 q3 q4 q5 t2
     have hc:(rdN b 3).2.1.getD 2 0=xs.getD 2 0:=by
      obtain⟨t,rfl⟩:=t2
      rw[List.getD_eq_getElem?_getD,List.getD_eq_getElem?_getD,List.getElem?_append_left (by omega)]
     generalize hcn:((rdN b 3).2.1.getD 2 0).toNat=c at *
     have hc2:xs.getD 2 0=(c:Int):=by omega
     have hlen:(rtO xs c).length=c:=by simp[rtO]
     have hx:xs=xs.getD 0 0::xs.getD 1 0::xs.getD 2 0::xs.drop 3:=by
      rcases xs with _ | ⟨x,_ | ⟨y,_ | ⟨z,r⟩⟩⟩
      ·simp only[List.length_nil] at q1;omega
      ·simp only[List.length_nil,List.length_cons] at q1;omega
      ·simp only[List.length_nil,List.length_cons] at q1;omega
      ·rfl
     have hns:nsA ⟨xs.getD 0 0,xs.getD 1 0,rtO xs c,bk (b.drop p) 8,bk (b.drop (p+8)) 8⟩=xs:=by
      unfold nsA
      dsimp only
      rw[rtO_flat (by omega),hlen,← hc2]
      exact hx.symm
     have hg:∀ i,in64 (xs.getD i 0):=fun i=>by
      rw[List.getD_eq_getElem?_getD]
      cases hi:xs[i]? with
      | none=>exact⟨by decide,by decide⟩
      | some x=>exact q3 x (List.mem_of_getElem? hi)
     have hd1:=hb.drop p
     have hd2:=hb.drop (p+8)
     refine⟨⟨⟨hg 0,hg 1,by dsimp only;omega,fun x hx=>?_⟩,bk_bd8 hd1,bk_bd8 hd2,by dsimp only;omega⟩,p+16,by omega,by omega,by omega,?_⟩
     ·obtain⟨i,-,rfl⟩:=List.mem_map.1 hx
      exact⟨hg _,hg _⟩
     ·unfold bytesA
      rw[body_ns,hns,q4]
      dsimp only
      rw[eight_bk hd1 (by rw[List.length_drop];omega),eight_bk hd2 (by rw[List.length_drop];omega),show p+16=p+8+8 by omega,List.take_add,List.take_add]
   ·rw[if_neg h3] at h
    simp only[Prod.mk.injEq] at h
    exact absurd h.2.2 h3
 ·rw[if_neg h1] at h
  simp only[Prod.mk.injEq] at h
  exact absurd h.2.2 h1
/-! wire.TakeInt,ref01.TakeInt -/
def ttB:TT:=[(87,{ size:=1,agg:=false,zero:=[.int .u64 0],ik:=some .u64 }),(73,{ size:=1,agg:=false,zero:=[.pointer none],isP:=true }),(77,tiSl 1 73 8)]++ttA
theorem ttBok:TTok Try.prog ttB:=by
 refine tt_mem _ _ ?_
 unfold ttB ttA tt
 repeat (refine tt_cons ⟨by kernel_rfl,by kernel_rfl,plains (by rfl),by kernel_rfl,by kernel_rfl,by kernel_rfl⟩ ?_)
 exact tt_nil
abbrev tkV (r:Int×Int×Int):Value:=.tuple #[.int .i64 r.1,.int .i64 r.2.1,.int .i64 r.2.2]
theorem tkV_ok {ρ:Nat→Pl} {n:Nat} (r:Int×Int×Int):okV ρ n (tkV r):=fun v hv=>by
 simp at hv
 rcases hv with rfl | rfl | rfl<;>trivial
theorem den_tk {ρ:Nat→Pl} (r:Int×Int×Int):den ρ (tkV r)=tkV r:=by simp[den,den2,den1]
theorem tkU_64 {l:List Int} (hl:byteL l) {k:Nat} (h:k≤8∨k=9∧l.getD k 0 % 128≤1):0≤tkU l (k+1)∧tkU l (k+1)<18446744073709551616:=by
 have h1:=tkU_bd hl (k+1)
 rcases h with h | ⟨rfl,h⟩
 ·have e2:(128:Int) ^ (k+1)≤128 ^ 9:=by
   have:(128:Nat) ^ (k+1)≤128 ^ 9:=Nat.pow_le_pow_right (by decide) (by omega)
   exact_mod_cast this
  have e3:(128:Int) ^ 9=9223372036854775808:=by decide
  omega
 ·have h2:=tkU_bd hl 9
  have e3:(128:Int) ^ 9=9223372036854775808:=by decide
  rw[tkU] at h1 ⊢
  rw[e3] at h2 ⊢
  omega
theorem takeC {k:Int} (h0:0≤k) (h1:k<10):0≤IntKind.u64.wrap (IntKind.i64.wrap (7 * k)):=by rw[wrapi (by omega),wu64 (by omega)];omega
theorem takeP_step {l:List Int} (hl:byteL l) {k u:Int} (hk:0≤k) (hk9:k≤9) (hu:u=tkU l k.toNat) (h:k≤8∨l.getD k.toNat 0 % 128≤1) :
  IntKind.u64.wrap ((BitVec.ofInt IntKind.u64.bits u ||| BitVec.ofInt IntKind.u64.bits (IntKind.u64.wrap (IntKind.u64.wrap (IntKind.u8.wrap ((BitVec.ofInt IntKind.u8.bits (l.getD k.toNat 0) &&& BitVec.ofInt IntKind.u8.bits 127).toNat:Int)) * 2 ^ min (IntKind.u64.wrap (IntKind.i64.wrap (7 * k))).toNat IntKind.u64.bits))).toNat:Int)=tkU l (k.toNat+1):=by
 subst hu
 have hx:=hl.at_ k.toNat
 have e1:IntKind.u8.wrap ((BitVec.ofInt IntKind.u8.bits (l.getD k.toNat 0) &&& BitVec.ofInt IntKind.u8.bits 127).toNat:Int)=l.getD k.toNat 0 % 128:=and127 hx
 have e2:(IntKind.u64.wrap (IntKind.i64.wrap (7 * k))).toNat=7 * k.toNat:=by rw[wrapi (by omega),wu64 (by omega)];omega
 rw[e1,e2,wu64 (n:=l.getD k.toNat 0 % 128) (by omega)]
 exact grp_step hl rfl (by rcases h with h | h;exact .inl (by omega);by_cases h8:k≤8;exact .inl (by omega);exact .inr ⟨by omega,h⟩)
theorem and1 {v:Int} (h:0≤v∧v<18446744073709551616):IntKind.u64.wrap ((BitVec.ofInt IntKind.u64.bits v &&& BitVec.ofInt IntKind.u64.bits 1).toNat:Int)=v % 2:=by
 show IntKind.u64.wrap ((BitVec.ofInt 64 v &&& BitVec.ofInt 64 1).toNat:Int)=v % 2
 have hb:v=((v.toNat:Nat):Int):=by omega
 have h3:(BitVec.ofInt 64 1)=BitVec.ofNat 64 1:=by decide
 rw[hb,BitVec.ofInt_natCast,h3,BitVec.toNat_and,BitVec.toNat_ofNat,BitVec.toNat_ofNat,Nat.mod_eq_of_lt (a:=v.toNat) (by omega),Nat.mod_eq_of_lt (a:=1) (by omega),Nat.and_one_is_mod,wu64 (by omega)]
 omega
theorem half {v:Int} (h:0≤v):v.fdiv (2 ^ min (1:Int).toNat IntKind.u64.bits)=v / 2:=by
 have:(2:Int) ^ min (1:Int).toNat IntKind.u64.bits=2:=by decide
 rw[this,Int.fdiv_eq_ediv_of_nonneg _ (by omega)]
theorem numP_odd {v:Int} (h:0≤v∧v<18446744073709551616) (ho:v % 2=1):IntKind.i64.wrap (IntKind.u64.wrap ((BitVec.ofInt IntKind.u64.bits (if IntKind.u64.signed then -1 else IntKind.u64.max) ^^^ BitVec.ofInt IntKind.u64.bits (v.fdiv (2 ^ min (1:Int).toNat IntKind.u64.bits))).toNat:Int))=numI v:=by
 rw[half h.1]
 have e:IntKind.u64.wrap ((BitVec.ofInt IntKind.u64.bits (if IntKind.u64.signed then -1 else IntKind.u64.max) ^^^ BitVec.ofInt IntKind.u64.bits (v / 2)).toNat:Int)=18446744073709551615-v / 2:=not64 (by omega)
 rw[e,numI,if_neg (by omega)]
 simp[IntKind.wrap,IntKind.bits,IntKind.signed]
 omega
theorem numP_even {v:Int} (h:0≤v∧v<18446744073709551616) (he:v % 2=0):IntKind.i64.wrap (v.fdiv (2 ^ min (1:Int).toNat IntKind.u64.bits))=numI v:=by
 rw[half h.1,num_even h he]
def tkPF:FT:=[(39,ctInl ttB [] [] Try.f39 (bodyOf Try.f39))]
def tkPD:List (Nat×DQ):=[(9000000,{ k:=0,L:=[39] }),(2000003,{ k:=0,L:=[0],sl:=[0] }),(1000009,{ k:=1,L:=[0],sl:=[0,6,7,8] })]
theorem tkPFok:FTokI Try.prog tkPF (inlOf tkPD):=fti_cons (inl_ok ttBok fti_nil mixed (by kernel_rfl) Try.func39 rfl (by kernel_rfl) (by decide)) fti_nil
set_option maxRecDepth 100000 in
set_option maxHeartbeats 4000000 in
theorem takeP_sx (cap:Nat) (l:List Int) (hl:byteL l) :
  sx ttB tkPF tkPD (bodyOf Try.f23) (argF 0 [slc 0 l.length cap]) [(0,rowOfL 3 1 u8C 0 l)] 1 (endx ttB Try.f23.results.toList fun v _ _=>v=tkV (takeI l)):=by
 refine⟨Int×Int,fun q=>match q with | (k,u)=>[(8,.int .i64 k),(5,.int .u64 u)],fun _=>[],fun q=>match q with | (k,u)=>(0≤k∧k≤10∧k≤l.length)∧(k≤9→u=tkU l k.toNat)∧tkGo l (10-k.toNat) k.toNat=takeI l,fun q=>match q with | (k,u)=>(10-k).toNat,⟨(0,0),⟨⟨by omega,by omega,by omega⟩,fun _=>rfl,rfl⟩,kp_,kp_⟩,?_⟩
 rintro⟨k,u⟩ ⟨hk,hu,hg⟩
 refine⟨⟨rfl,rfl⟩,?_⟩
 refine⟨fun hlt=>?_,fun hge=>?_⟩
 ·have hlt2:k<10:=of_decide_eq_true hlt
  have hf:10-k.toNat=(9-k.toNat)+1:=by omega
  rw[hf,tkGo] at hg
  have hx:=hl.at_ k.toNat
  refine⟨fun he=>?_,fun hne=>?_⟩
  ·have he2:k=(l.length:Int):=by simpa using he
   rw[if_pos (by omega)] at hg
   repeat (first | refine⟨fun _=>?_,fun h=>Bool.noConfusion h⟩ | refine⟨fun h=>Bool.noConfusion h,fun _=>?_⟩ | fail)
   exact congrArg tkV hg
  ·have hne2:¬ k=(l.length:Int):=by simpa using hne
   rw[if_neg (by omega)] at hg
   refine⟨⟨Nat.le_refl _,hk.1,by omega⟩,?_⟩
   refine⟨Int,fun v=>[(5,.int .u64 v)],fun _=>[],fun v=>(k≤8∨(l.getD k.toNat 0) % 128≤1)→v=tkU l (k.toNat+1),?_,?_⟩
   ·refine⟨takeC hk.1 hlt2,?_⟩
    refine⟨_,fun h=>takeP_step hl hk.1 (by omega) (hu (by omega)) h,kp_,kp_⟩
   ·rintro v hv
    refine⟨⟨by decide,rfl,rfl⟩,?_⟩
    refine⟨fun hb=>?_,fun hb=>?_⟩
    ·have hb2:(l.getD k.toNat 0)≥128:=of_decide_eq_true hb
     rw[if_neg (by omega)] at hg
     refine⟨(IntKind.i64.wrap (k+1),v),?_,kp_,kp_⟩
     rw[wrapi (n:=k+1) (by omega)]
     dsimp only
     rw[show (k+1).toNat=k.toNat+1 by omega]
     refine⟨⟨⟨by omega,by omega,by omega⟩,fun h9=>hv (.inl (by omega)),?_⟩,by omega⟩
     rw[show 10-(k.toNat+1)=9-k.toNat by omega]
     exact hg
    ·have hb2:¬ (l.getD k.toNat 0)≥128:=of_decide_eq_false hb
     refine⟨fun q1=>?_,fun q1=>?_⟩
     ·have q1b:k>0:=of_decide_eq_true q1
      refine⟨fun q2=>?_,fun q2=>?_⟩
      ·have q2b:(l.getD k.toNat 0)=0:=by simpa using q2
       rw[if_pos (by omega)] at hg
       rw[if_pos (by omega)] at hg
       repeat (first | refine⟨fun _=>?_,fun h=>Bool.noConfusion h⟩ | refine⟨fun h=>Bool.noConfusion h,fun _=>?_⟩ | fail)
       exact congrArg tkV hg
      ·have q2b:¬ (l.getD k.toNat 0)=0:=by simpa using q2
       repeat (first | refine⟨fun _=>?_,fun h=>Bool.noConfusion h⟩ | refine⟨fun h=>Bool.noConfusion h,fun _=>?_⟩ | fail)
       refine⟨fun q3=>?_,fun q3=>?_⟩
       ·have q3b:k=9:=by simpa using q3
        refine⟨fun q4=>?_,fun q4=>?_⟩
        ·have q4b:(l.getD k.toNat 0)>1:=of_decide_eq_true q4
         rw[if_pos (by omega)] at hg
         rw[if_pos (by omega)] at hg
         repeat (first | refine⟨fun _=>?_,fun h=>Bool.noConfusion h⟩ | refine⟨fun h=>Bool.noConfusion h,fun _=>?_⟩ | fail)
         exact congrArg tkV hg
        ·have q4b:¬ (l.getD k.toNat 0)>1:=of_decide_eq_false q4
         rw[if_pos (by omega),if_neg (by omega)] at hg
         repeat (first | refine⟨fun _=>?_,fun h=>Bool.noConfusion h⟩ | refine⟨fun h=>Bool.noConfusion h,fun _=>?_⟩ | fail)
         have hv2:=hv (by omega)
         have hvb:0≤v∧v<18446744073709551616:=by rw[hv2];exact tkU_64 hl (by omega)
         refine⟨fun q=>?_,fun q=>?_⟩
         ·have q2:v % 2=1:=by have h3:(v % 2==1)=true:=(by rw[← and1 hvb];exact q);simpa using h3
          refine⟨by decide,?_⟩
          show tkV (_,_,_)=tkV (takeI l)
          rw[← hg]
          refine congrArg tkV (Prod.ext ?_ (Prod.ext ?_ rfl))
          ·exact (numP_odd hvb q2).trans (congrArg numI hv2)
          ·show IntKind.i64.wrap (k+1)=((k.toNat:Nat):Int)+1
           rw[wrapi (by omega)]
           omega
         ·have q2:¬ v % 2=1:=by have h3:(v % 2==1)=false:=(by rw[← and1 hvb];exact q);simpa using h3
          refine⟨by decide,?_⟩
          show tkV (_,_,_)=tkV (takeI l)
          rw[← hg]
          refine congrArg tkV (Prod.ext ?_ (Prod.ext ?_ rfl))
          ·exact (numP_even hvb (by omega)).trans (congrArg numI hv2)
          ·show IntKind.i64.wrap (k+1)=((k.toNat:Nat):Int)+1
           rw[wrapi (by omega)]
           omega
       ·have q3b:¬ k=9:=by simpa using q3
        rw[if_pos (by omega),if_neg (by omega)] at hg
        repeat (first | refine⟨fun _=>?_,fun h=>Bool.noConfusion h⟩ | refine⟨fun h=>Bool.noConfusion h,fun _=>?_⟩ | fail)
        have hv2:=hv (by omega)
        have hvb:0≤v∧v<18446744073709551616:=by rw[hv2];exact tkU_64 hl (by omega)
        refine⟨fun q=>?_,fun q=>?_⟩
        ·have q2:v % 2=1:=by have h3:(v % 2==1)=true:=(by rw[← and1 hvb];exact q);simpa using h3
         refine⟨by decide,?_⟩
         show tkV (_,_,_)=tkV (takeI l)
         rw[← hg]
         refine congrArg tkV (Prod.ext ?_ (Prod.ext ?_ rfl))
         ·exact (numP_odd hvb q2).trans (congrArg numI hv2)
         ·show IntKind.i64.wrap (k+1)=((k.toNat:Nat):Int)+1
          rw[wrapi (by omega)]
          omega
        ·have q2:¬ v % 2=1:=by have h3:(v % 2==1)=false:=(by rw[← and1 hvb];exact q);simpa using h3
         refine⟨by decide,?_⟩
         show tkV (_,_,_)=tkV (takeI l)
         rw[← hg]
         refine congrArg tkV (Prod.ext ?_ (Prod.ext ?_ rfl))
         ·exact (numP_even hvb (by omega)).trans (congrArg numI hv2)
         ·show IntKind.i64.wrap (k+1)=((k.toNat:Nat):Int)+1
          rw[wrapi (by omega)]
          omega
     ·have q1b:¬ k>0:=of_decide_eq_false q1
      repeat (first | refine⟨fun _=>?_,fun h=>Bool.noConfusion h⟩ | refine⟨fun h=>Bool.noConfusion h,fun _=>?_⟩ | fail)
      refine⟨fun q3=>?_,fun q3=>?_⟩
      ·have q3b:k=9:=by simpa using q3
       refine⟨fun q4=>?_,fun q4=>?_⟩
       ·have q4b:(l.getD k.toNat 0)>1:=of_decide_eq_true q4
        rw[if_pos (by omega)] at hg
        rw[if_pos (by omega)] at hg
        repeat (first | refine⟨fun _=>?_,fun h=>Bool.noConfusion h⟩ | refine⟨fun h=>Bool.noConfusion h,fun _=>?_⟩ | fail)
        exact congrArg tkV hg
       ·have q4b:¬ (l.getD k.toNat 0)>1:=of_decide_eq_false q4
        rw[if_pos (by omega),if_neg (by omega)] at hg
        repeat (first | refine⟨fun _=>?_,fun h=>Bool.noConfusion h⟩ | refine⟨fun h=>Bool.noConfusion h,fun _=>?_⟩ | fail)
        have hv2:=hv (by omega)
        have hvb:0≤v∧v<18446744073709551616:=by rw[hv2];exact tkU_64 hl (by omega)
        refine⟨fun q=>?_,fun q=>?_⟩
        ·have q2:v % 2=1:=by have h3:(v % 2==1)=true:=(by rw[← and1 hvb];exact q);simpa using h3
         refine⟨by decide,?_⟩
         show tkV (_,_,_)=tkV (takeI l)
         rw[← hg]
         refine congrArg tkV (Prod.ext ?_ (Prod.ext ?_ rfl))
         ·exact (numP_odd hvb q2).trans (congrArg numI hv2)
         ·show IntKind.i64.wrap (k+1)=((k.toNat:Nat):Int)+1
          rw[wrapi (by omega)]
          omega
        ·have q2:¬ v % 2=1:=by have h3:(v % 2==1)=false:=(by rw[← and1 hvb];exact q);simpa using h3
         refine⟨by decide,?_⟩
         show tkV (_,_,_)=tkV (takeI l)
         rw[← hg]
         refine congrArg tkV (Prod.ext ?_ (Prod.ext ?_ rfl))
         ·exact (numP_even hvb (by omega)).trans (congrArg numI hv2)
         ·show IntKind.i64.wrap (k+1)=((k.toNat:Nat):Int)+1
          rw[wrapi (by omega)]
          omega
      ·have q3b:¬ k=9:=by simpa using q3
       rw[if_pos (by omega),if_neg (by omega)] at hg
       repeat (first | refine⟨fun _=>?_,fun h=>Bool.noConfusion h⟩ | refine⟨fun h=>Bool.noConfusion h,fun _=>?_⟩ | fail)
       have hv2:=hv (by omega)
       have hvb:0≤v∧v<18446744073709551616:=by rw[hv2];exact tkU_64 hl (by omega)
       refine⟨fun q=>?_,fun q=>?_⟩
       ·have q2:v % 2=1:=by have h3:(v % 2==1)=true:=(by rw[← and1 hvb];exact q);simpa using h3
        refine⟨by decide,?_⟩
        show tkV (_,_,_)=tkV (takeI l)
        rw[← hg]
        refine congrArg tkV (Prod.ext ?_ (Prod.ext ?_ rfl))
        ·exact (numP_odd hvb q2).trans (congrArg numI hv2)
        ·show IntKind.i64.wrap (k+1)=((k.toNat:Nat):Int)+1
         rw[wrapi (by omega)]
         omega
       ·have q2:¬ v % 2=1:=by have h3:(v % 2==1)=false:=(by rw[← and1 hvb];exact q);simpa using h3
        refine⟨by decide,?_⟩
        show tkV (_,_,_)=tkV (takeI l)
        rw[← hg]
        refine congrArg tkV (Prod.ext ?_ (Prod.ext ?_ rfl))
        ·exact (numP_even hvb (by omega)).trans (congrArg numI hv2)
        ·show IntKind.i64.wrap (k+1)=((k.toNat:Nat):Int)+1
         rw[wrapi (by omega)]
         omega
 ·have hge2:¬ k<10:=of_decide_eq_false hge
  obtain rfl:k=10:=by omega
  exact congrArg tkV hg
theorem takeP_calls (A:Option Addr) (cap:Nat) (l:List Int) (w:World) (hl:byteL l) (hr:Rd w (·<w.heap.size) A (flat u8C l)):Calls Try.prog 23 #[.slice A l.length cap] w fun e w'=>e=.returned (tkV (takeI l))∧Below w.heap.size w w':=by
 have:=row1_calls (enc:=u8C) (sz:=1) (fun _=>rfl) (by omega) u8C_plain 0 ttBok tkPFok Try.func23 rfl (D:=tkPD) (by kernel_rfl) (vs:=[slc 0 l.length cap]) rfl A l w hr (fun v hv=>by
  simp only[List.mem_cons,List.not_mem_nil,or_false] at hv
  subst hv
  exact⟨Nat.zero_lt_one,rfl⟩) (takeP_sx cap l hl)
 have e0:([slc 0 l.length cap].map (den fun _=>⟨A,1,l.length,false,noSub⟩)).toArray=#[.slice A l.length cap]:=by simp[den,den2,den1,dA_whole,dS_whole]
 rw[e0] at this
 refine this.mono ?_
 rintro e w' ⟨v,mem',nx',ρ',rfl,rfl,hv,hm',hb⟩
 exact⟨by rw[den_tk],hb⟩
def ctTakeP:CT:=fun vs mem nx K=>∃ v l,vs=[v]∧SrcR mem 1 u8C 0 (l:List Int) v∧byteL l∧K (tkV (takeI l)) mem nx
theorem takePOk:CSound Try.prog 23 ctTakeP:=⟨by kernel_rfl,fun {C ρ fr mem nx a w vs K} hc hs hv=>by
 obtain⟨v,l,rfl,hsrc,hl,hK⟩:=hc
 obtain⟨A,cap,e0,hr⟩:=hs.srcR (enc:=u8C) (sz:=1) (fun _=>rfl) (by omega) hsrc
 have e1:([v].map (den ρ)).toArray=#[.slice A l.length cap]:=by rw[List.map_cons,e0];rfl
 rw[e1]
 refine (takeP_calls A cap l w hl hr).mono ?_
 rintro e w' ⟨rfl,hb⟩
 exact⟨tkV (takeI l),mem,nx,ρ,by rw[den_tk],hK,hs.later hb,tkV_ok _,ExtS.refl _ _⟩⟩
end Go.Proofs.Ytbmlgcjoeeejbaa
