import Derived.Test.YtchhdflealgkaaaGreatPo18
namespace Go.Proofs.YtchhdflealgkaaaGreat
open Go.RowKit
set_option linter.unusedSimpArgs false
set_option linter.unusedVariables false
/-! make.Log: entries that are accepted one after the other. -/
def LenCap (n:Nat) (v:Value):Prop:=∃ A m cap,v=.slice A m cap∧n≤cap
def lgF:FT:=[(37,ctTapeNew),(93,ctNewR),(95,ctMore),(96,ctEntry),(94,ctApplyR)]
theorem lgFok:FTok Tryz.prog lgF:=ft_cons tapeNewOk (ft_cons newROk (ft_cons moreOk (ft_cons entryOk (ft_cons applyROk ft_nil))))
def lgD:List (Nat×DQ):=[(3000004,{ k:=21,L:=[0,1,2,3,4,5,6,7,8,9,10,11,12,13],sl:=[2,4,7,8] })]
set_option maxRecDepth 100000 in
set_option maxHeartbeats 8000000 in
theorem log_sx (d:UD) (x:CfgK) (cap0:Nat) (n:Int) (hV:CfgV d.c) (hz:d.l0.length≤400) (hn:0≤n∧n≤1000) :
  sx tt lgF lgD (bodyOf Tryz.f65) (argF 0 [slc 0 d.l0.length cap0,cfgV CNu x d.c,.int .i64 n]) (uniM d) 13 (endx tt Tryz.f65.results.toList fun v mem' _=>∃ es s,Run d.c (stNew d.c) es s∧(es.length:Int)≤n∧SlR mem' 9 entC default es v∧LenCap es.length v):=by
 have hnt:=hV.nt
 have hnc:=hV.nc
 refine⟨0,cap0,d.l0,rfl,rfl,by omega,?_⟩
 refine⟨CNu,x,d.c,rfl,kp_,⟨by omega,by omega,by omega⟩,?_⟩
 intro y0
 refine⟨St×StK×Int×List Ent×Option (Nat×(Nat→List Value)),fun q=>match q with | (s,y,k,es,none)=>[(9,zs0)] | (s,y,k,es,some (cap,el))=>[(9,slc 20 es.length cap)],fun q=>match q with | (s,y,k,es,none)=>[(14,tapeB 0 d.l0.length cap0 k),(17,.box 53 [.int .i64 s.tick,.int .i64 s.count,slc 18 s.tenants.length y.ct,slc 19 s.cells.length y.cc,.int .i64 s.proven,.int .i64 s.evac,.int .i64 s.low,.int .i64 s.high]),(18,rowOfL 500000 12 tsC default s.tenants),(19,rowOfL 500000 4 csC default s.cells)] | (s,y,k,es,some (cap,el))=>(20,.row (1000000+56) 9 cap el)::[(14,tapeB 0 d.l0.length cap0 k),(17,.box 53 [.int .i64 s.tick,.int .i64 s.count,slc 18 s.tenants.length y.ct,slc 19 s.cells.length y.cc,.int .i64 s.proven,.int .i64 s.evac,.int .i64 s.low,.int .i64 s.high]),(18,rowOfL 500000 12 tsC default s.tenants),(19,rowOfL 500000 4 csC default s.cells)],fun q=>match q with | (s,y,k,es,o)=>Run d.c (stNew d.c) es s∧(0≤k∧k≤445)∧(es.length:Int)≤n∧match o with | none=>es=[] | some (cap,el)=>es.length≤cap∧∀ j,j<es.length→el j=entC (es.getD j default),fun q=>match q with | (s,y,k,es,o)=>(1000-k).toNat,⟨(stNew d.c,y0,0,[],none),[(18,16),(19,15)],⟨.nil _,by omega,by simpa using hn.1,rfl⟩,⟨rfl,rfl⟩,kp_,kp_⟩,?_⟩
 rintro⟨s,y,k,es,(_ | ⟨cap,el⟩)⟩ ⟨hR,hk,hn2,ho⟩
 ·refine⟨⟨by decide,rfl,rfl⟩,?_⟩
  refine⟨fun hc=>?_,fun hc=>?_⟩
  ·refine⟨14,0,cap0,d.l0,_,[],rfl,⟨rfl,rfl⟩,⟨by omega,by omega,by omega⟩,rfl,?_⟩
   rintro _ k1 ⟨b1,rfl,rfl,hb1⟩
   refine⟨fun hb=>?_,fun hb=>?_⟩
   ·have hkl:=hb1 hb
    have hlen:(es.length:Int)<n:=by rw[show es=[] from ho];exact of_decide_eq_true hc
    clear hb1
    have hI:=(hR.rinv hV (.new hV)).inv
    have hcp:=(hR.rinv hV (.new hV)).cap
    refine⟨14,0,cap0,d.l0,_,CNu,x,d.c,⟨18,19,500000⟩,y,s,[],rfl,⟨rfl,rfl⟩,kp_,kp_,⟨by omega,by omega,by omega⟩,⟨⟨hV,hI,by omega⟩,rfl⟩,?_⟩
    rintro _ k2 ⟨⟨en,rfl⟩,hk2a,hk2b,hk2c⟩
    refine⟨CNu,x,d.c,⟨18,19,500000⟩,y,s,en,rfl,⟨kp_,.list rfl,.list rfl⟩,⟨hV,hI⟩,?_⟩
    intro y2
    rw[applyRP hV hI hcp]
    refine⟨fun he=>?_,fun he=>?_⟩
    ·have he2:applyP d.c s en=((applyP d.c s en).1,0):=by
      have q:(applyP d.c s en).2=0:=by simpa using he
      rw[← q]
     have he0:es=[]:=ho
     subst he0
     refine⟨⟨Nat.le_refl _,fun j hj=>by match j,hj with | 0,_=>rfl⟩,?_⟩
     refine⟨fun h=>absurd h (by decide),fun _=>⟨by decide,fun cap2 el2 ⟨hc2,_⟩ hel2=>?_⟩⟩
     refine⟨((applyP d.c s en).1,y2,k2,[en],some (cap2,el2)),[(18,23),(19,22),(20,26)],?_,⟨rfl,rfl⟩,kp_,kp_⟩
     dsimp only
     refine⟨⟨hR.snoc he2,by omega,by simp;omega,hc2,fun j hj=>?_⟩,by omega⟩
     obtain rfl:j=0:=by simpa using hj
     exact hel2 0 (by omega)
    ·refine⟨(s,y,k2,es,none),[],?_,⟨rfl,rfl⟩,kp_,kp_⟩
     dsimp only
     exact⟨⟨hR,by omega,hn2,ho⟩,by omega⟩
   ·exact⟨es,s,hR,hn2,.inl ⟨rfl,ho⟩,none,0,0,rfl,(by rw[ho];decide)⟩
  ·refine⟨fun h=>Bool.noConfusion h,fun _=>?_⟩
   exact⟨es,s,hR,hn2,.inl ⟨rfl,ho⟩,none,0,0,rfl,(by rw[ho];decide)⟩
 ·refine⟨⟨by decide,rfl,rfl⟩,?_⟩
  refine⟨fun hc=>?_,fun hc=>?_⟩
  ·refine⟨14,0,cap0,d.l0,_,[],rfl,⟨rfl,rfl⟩,⟨by omega,by omega,by omega⟩,rfl,?_⟩
   rintro _ k1 ⟨b1,rfl,rfl,hb1⟩
   refine⟨fun hb=>?_,fun hb=>?_⟩
   ·have hkl:=hb1 hb
    have hlen:(es.length:Int)<n:=of_decide_eq_true hc
    clear hb1
    have hI:=(hR.rinv hV (.new hV)).inv
    have hcp:=(hR.rinv hV (.new hV)).cap
    refine⟨14,0,cap0,d.l0,_,CNu,x,d.c,⟨18,19,500000⟩,y,s,[],rfl,⟨rfl,rfl⟩,kp_,kp_,⟨by omega,by omega,by omega⟩,⟨⟨hV,hI,by omega⟩,rfl⟩,?_⟩
    rintro _ k2 ⟨⟨en,rfl⟩,hk2a,hk2b,hk2c⟩
    refine⟨CNu,x,d.c,⟨18,19,500000⟩,y,s,en,rfl,⟨kp_,.list rfl,.list rfl⟩,⟨hV,hI⟩,?_⟩
    intro y2
    rw[applyRP hV hI hcp]
    refine⟨fun he=>?_,fun he=>?_⟩
    ·have he2:applyP d.c s en=((applyP d.c s en).1,0):=by
      have q:(applyP d.c s en).2=0:=by simpa using he
      rw[← q]
     refine⟨⟨Nat.le_refl _,fun j hj=>by match j,hj with | 0,_=>rfl⟩,?_⟩
     refine⟨⟨rfl,ho.1⟩,fun hin el2 ⟨g1,_⟩ g2=>?_,fun hgt=>⟨by show (es.length+1) * 72≤140737488355328;omega,fun cap2 el2 ⟨hc2,_⟩ g1 g2=>?_⟩⟩
     ·rw[show es.length+1=(es++[en]).length by simp]
      refine⟨((applyP d.c s en).1,y2,k2,es++[en],some (cap,el2)),[(18,23),(19,22)],?_,⟨rfl,rfl⟩,kp_,kp_⟩
      dsimp only
      refine⟨⟨hR.snoc he2,by omega,by simp;omega,by first | exact hc2 | (simp;omega),fun j hj=>?_⟩,by omega⟩
      by_cases hjn:j<es.length
      ·rw[g1 j hjn,ho.2 j hjn,List.getD_eq_getElem?_getD,List.getD_eq_getElem?_getD,List.getElem?_append_left hjn]
      ·obtain rfl:j=es.length:=by simp at hj;omega
       have:=g2 0 (by omega)
       rw[Nat.add_zero] at this
       rw[this,List.getD_eq_getElem?_getD,List.getElem?_append_right (Nat.le_refl _),Nat.sub_self]
       rfl
     ·rw[show es.length+1=(es++[en]).length by simp] at hc2 ⊢
      refine⟨((applyP d.c s en).1,y2,k2,es++[en],some (cap2,el2)),[(18,23),(19,22),(20,26)],?_,⟨rfl,rfl⟩,kp_,kp_⟩
      dsimp only
      refine⟨⟨hR.snoc he2,by omega,by simp;omega,by first | exact hc2 | (simp;omega),fun j hj=>?_⟩,by omega⟩
      by_cases hjn:j<es.length
      ·rw[g1 j hjn,ho.2 j hjn,List.getD_eq_getElem?_getD,List.getD_eq_getElem?_getD,List.getElem?_append_left hjn]
      ·obtain rfl:j=es.length:=by simp at hj;omega
       have:=g2 0 (by omega)
       rw[Nat.add_zero] at this
       rw[this,List.getD_eq_getElem?_getD,List.getElem?_append_right (Nat.le_refl _),Nat.sub_self]
       rfl
    ·refine⟨(s,y,k2,es,some (cap,el)),[],?_,⟨rfl,rfl⟩,kp_,kp_⟩
     dsimp only
     exact⟨⟨hR,by omega,hn2,ho⟩,by omega⟩
   ·exact⟨es,s,hR,hn2,.inr ⟨20,_,_,cap,el,rfl,rfl,rfl,ho.1,ho.2⟩,_,_,cap,rfl,ho.1⟩
  ·refine⟨fun h=>Bool.noConfusion h,fun _=>?_⟩
   exact⟨es,s,hR,hn2,.inr ⟨20,_,_,cap,el,rfl,rfl,rfl,ho.1,ho.2⟩,_,_,cap,rfl,ho.1⟩
theorem mkLog_calls (x:CfgA) (c:Cfg) (A0:Option Addr) (cap0:Nat) (l:List Int) (n:Int) (w:World) (hV:CfgV c) (hz:l.length≤400) (hn:0≤n∧n≤1000) (hc:CfgOk w (·<w.heap.size) x c) (hr:Rd w (·<w.heap.size) A0 (flat intC l)) :
  Calls Tryz.prog 65 #[.slice A0 l.length cap0,.agg (cfgC x c),.int .i64 n] w fun e w'=>∃ es s A cap,e=.returned (.slice A (es:List Ent).length cap)∧Run c (stNew c) es s∧(es.length:Int)≤n∧es.length≤cap∧Rd w' (fun b=>w.heap.size≤b∧b<w'.heap.size) A (flat entC es)∧Below w.heap.size w w':=by
 have:=uni_calls ttOk (lgFok.i _) Tryz.func65 rfl (D:=lgD) (by kernel_rfl) (vs:=[slc 0 l.length cap0,cfgV CNu (ck x) c,.int .i64 n]) rfl { a0:=A0,x:=x } { l0:=l,c:=c } w { r0:=hr,c:=hc } (fun v hv=>by
  simp only[List.mem_cons,List.not_mem_nil,or_false] at hv
  rcases hv with rfl | rfl | rfl
  ·exact⟨show (0:Nat)<13 by decide,rfl⟩
  ·exact upl_cfg_ok { a0:=A0,x:=x } { l0:=l,c:=c }
  ·trivial) (log_sx { l0:=l,c:=c } (ck x) cap0 n hV hz hn)
 rw[List.map_cons,List.map_cons] at this
 have e0:=upl_cfg { a0:=A0,x:=x } { l0:=l,c:=c }
 dsimp only at e0 this
 rw[e0] at this
 refine this.mono ?_
 rintro e w' ⟨v,mem',nx',ρ',rfl,⟨es,s,hR,hen,hS,A1,m1,cap1,rfl,hcap⟩,hv,hm',hb⟩
 obtain⟨A,cp,e1,hr'⟩:=hm'.slR (enc:=entC) (sz:=9) (fun _=>rfl) (by omega) hS
 have e2:den ρ' (.slice A1 m1 cap1)=.slice A es.length cp:=e1
 have e3:cap1=cp:=by cases A1<;>simp[den1] at e1<;>exact e1.2.2
 exact⟨es,s,A,cp,by rw[e2],hR,hen,e3 ▸ hcap,hr',hb⟩
def ctLog:CT:=fun vs mem nx K=>∃ N x c r cap l n,vs=[slc r (l:List Int).length cap,cfgV N x c,.int .i64 n]∧(keeps mem (cfgM N c)∧HasRow mem r 1 intC 0 l)∧(CfgV c∧l.length≤400∧0≤n∧n≤1000)∧∀ es s cap',Run c (stNew c) es s→(es.length:Int)≤n→es.length≤cap'→K (slc nx es.length cap') ((nx,rowOfL 500000 9 entC default es)::mem) (nx+1)
theorem logOk:CSound Tryz.prog 65 ctLog:=⟨by kernel_rfl,fun {C ρ fr mem nx a w vs K} hc hs hv=>by
 obtain⟨N,x,c,r,cap,l,n,rfl,⟨hk,hr⟩,⟨hV,hl,hn⟩,hK⟩:=hc
 have e0:([slc r l.length cap,cfgV N x c,.int .i64 n].map (den ρ)).toArray=#[.slice (ρ r).A l.length cap,.agg (cfgC (cfgX ρ N x) c),.int .i64 n]:=by
  rw[List.map_cons,List.map_cons,den_cfg]
  rfl
 rw[e0]
 refine (mkLog_calls (cfgX ρ N x) c (ρ r).A cap l n w hV hl hn (hs.cfg hk (fun b h _=>h)) (hs.hasRd (enc:=intC) (sz:=1) (fun _=>rfl) (by omega) hr)).mono ?_
 rintro e w' ⟨es,s,A,cp,rfl,hR,hen,hcp,hrd,hb⟩
 obtain⟨q1,-⟩:=(hs.later hb).addList hs.frB hs.rest.size (enc:=entC) (sz:=9) (fun _=>rfl) (by omega) entC_plain default (t:=500000) rfl hrd
 have q2:setPl ρ nx ⟨A,9,es.length,false,noSub⟩ nx=⟨A,9,es.length,false,noSub⟩:=setPl_same _ _ _
 refine⟨slc nx es.length cp,_,_,_,?_,hK es s cp hR hen hcp,q1,?_,fun i hi=>setPl_lt _ _ hi,by omega⟩
 ·show Ending.returned (.slice A es.length cp)=.returned (.slice (setPl ρ nx ⟨A,9,es.length,false,noSub⟩ nx).A es.length cp)
  rw[q2]
 ·exact⟨show nx<nx+1 by omega,by rw[q2]⟩⟩
/-! make.State: the state of a log. -/
def msF:FT:=[(65,ctLog),(64,ctFoldR)]
theorem msFok:FTok Tryz.prog msF:=ft_cons logOk (ft_cons foldROk ft_nil)
def msD:List (Nat×DQ):=[(1,{ k:=13,L:=[13],A:=[10],pre:=[(0,false),(1,false),(2,false),(3,false),(4,true),(5,true),(6,false),(7,false),(8,false),(9,false)],post:=[(11,true),(12,false)] })]
set_option maxRecDepth 100000 in
set_option maxHeartbeats 8000000 in
theorem mkState_sx (d:UD) (x:CfgK) (cap0:Nat) (n:Int) (hV:CfgV d.c) (hz:d.l0.length≤400) (hn:0≤n∧n≤1000) :
  sx tt msF msD (bodyOf Tryz.f19) (argF 0 [slc 0 d.l0.length cap0,cfgV CNu x d.c,.int .i64 n]) (uniM d) 13 (endx tt Tryz.f19.results.toList fun v mem' _=>∃ es s y,Run d.c (stNew d.c) es s∧(es.length:Int)≤n∧v=stV ⟨18,17,500000⟩ y s∧keeps mem' (stM ⟨18,17,500000⟩ s)):=by
 have hnt:=hV.nt
 have hnc:=hV.nc
 refine⟨CNu,x,d.c,0,cap0,d.l0,n,rfl,⟨kp_,?_⟩,⟨hV,hz,hn⟩,?_⟩
 ·exact⟨_,_,_,rfl,Nat.le_refl _,fun k hk=>rfl⟩
 intro es s cap2 hR hen hcp
 refine⟨kp_,?_⟩
 refine⟨CNu,x,d.c,16,cap2,es,rfl,⟨kp_,⟨_,_,_,rfl,Nat.le_refl _,fun k hk=>rfl⟩⟩,⟨hV,by omega⟩,?_⟩
 intro y
 rw[hR.foldC]
 refine⟨kp_,?_⟩
 refine⟨kp_,?_⟩
 exact⟨es,s,y,hR,hen,rfl,kp_⟩
theorem mkState_calls (x:CfgA) (c:Cfg) (A0:Option Addr) (cap0:Nat) (l:List Int) (n:Int) (w:World) (hV:CfgV c) (hz:l.length≤400) (hn:0≤n∧n≤1000) (hc:CfgOk w (·<w.heap.size) x c) (hr:Rd w (·<w.heap.size) A0 (flat intC l)) :
  Calls Tryz.prog 19 #[.slice A0 l.length cap0,.agg (cfgC x c),.int .i64 n] w fun e w'=>∃ es s y,e=.returned (.agg (stC y s))∧Run c (stNew c) es s∧(es.length:Int)≤n∧StOk w' (fun b=>w.heap.size≤b∧b<w'.heap.size) y s∧Below w.heap.size w w':=by
 have:=uni_calls ttOk (msFok.i _) Tryz.func19 rfl (D:=msD) (by kernel_rfl) (vs:=[slc 0 l.length cap0,cfgV CNu (ck x) c,.int .i64 n]) rfl { a0:=A0,x:=x } { l0:=l,c:=c } w { r0:=hr,c:=hc } (fun v hv=>by
  simp only[List.mem_cons,List.not_mem_nil,or_false] at hv
  rcases hv with rfl | rfl | rfl
  ·exact⟨show (0:Nat)<13 by decide,rfl⟩
  ·exact upl_cfg_ok { a0:=A0,x:=x } { l0:=l,c:=c }
  ·trivial) (mkState_sx { l0:=l,c:=c } (ck x) cap0 n hV hz hn)
 rw[List.map_cons,List.map_cons] at this
 have e0:=upl_cfg { a0:=A0,x:=x } { l0:=l,c:=c }
 dsimp only at e0 this
 rw[e0] at this
 refine this.mono ?_
 rintro e w' ⟨v,mem',nx',ρ',rfl,⟨es,s,y,hR,hen,rfl,k1,k2,-⟩,hv,hm',hb⟩
 refine⟨es,s,⟨(ρ' 18).A,y.ct,(ρ' 17).A,y.cc⟩,?_,hR,hen,⟨?_,?_⟩,hb⟩
 ·rw[den_st]
  rfl
 ·exact (hm'.blk 18 _ k1).fresh (enc:=tsC) default rfl rfl (fun k hk=>rfl) (fun _=>rfl) (by omega)
 ·exact (hm'.blk 17 _ k2).fresh (enc:=csC) default rfl rfl (fun k hk=>rfl) (fun _=>rfl) (by omega)
/-! A callee hands back a row of the wider kind. -/
abbrev plF (ρ':Nat→Pl) (u:Nat):Pl:=⟨none,0,0,false,fun k o=>(ρ' u).sub k o⟩
abbrev plD (ρ':Nat→Pl) (r sz n:Nat):Pl:=⟨(ρ' r).A,sz,n,false,noSub⟩
theorem Sat.takeDeep {C C':Ctx} {ρ ρ':Nat→Pl} {fr:AF} {mem mem':AM} {nx nx':Nat} {a:Act} {w w':World} (hs:Sat C ρ fr mem nx a w) (hb:Below w.heap.size w w') (hm:MemAt C' ρ' mem' nx' w') (hw:C'.w0=w) {r u sz n cap:Nat} {t tf:TypeId} {el:Nat→List Value} {sb:Nat→Nat→SB}
  (h1:lk mem' r=some (.ext (.deep t sz n cap el u))) (ht:ownT t=true∨frT t=true) (h2:lk mem' u=some (.ext (.fam tf sb))) (htf:frT tf=true) (hbor:C'.bor=[]:=by exact rfl) :
  Sat C (setPl (setPl ρ nx (plF ρ' u)) (nx+1) (plD ρ' r sz n)) fr ((nx+1,.ext (.deep 500000 sz n 0 el nx))::(nx,.ext (.fam 500000 sb))::mem) (nx+1+1) a w':=by
 obtain⟨hfo,hfs⟩:=hm.blk u _ h2
 obtain⟨⟨hz,hn⟩,hu,hel,hd⟩:=hm.blk r _ h1
 have hbase:C.w0.heap.size≤w.heap.size:=hs.rest.size
 subst hw
 have q0:setPl ρ nx (plF ρ' u) nx=plF ρ' u:=setPl_same _ _ _
 have key:=(hs.later hb).addPlainX hs.frB (b:=.ext (.fam 500000 sb)) (p:=plF ρ' u) (fun g hg=>hg) rfl ⟨rfl,fun k o=>⟨(hfs k o).1,by
  rcases (hfs k o).2 with h0 | ⟨b,off,e1,e2,e3⟩
  ·exact .inl h0
  ·exact .inr ⟨b,off,by rw[q0];exact e1,⟨e2.lt,(fun q=>by cases q),fun _=>.inl (Nat.le_trans hbase (Ctx.ok_nil hbor (e2.new htf)))⟩,e3⟩⟩⟩ (fun g hg=>by
  obtain⟨k,o,e1,e2⟩:=hg
  rw[q0] at e2
  rcases (hfs k o).2 with h0 | ⟨b,off,e3,e4,e5⟩
  ·exact absurd h0 e1
  ·rw[show (plF ρ' u).sub k o=(ρ' u).sub k o from rfl,e3] at e2
   obtain rfl:b=g:=by simpa using e2
   exact Ctx.ok_nil hbor (e4.new htf))
 obtain⟨s1,f1⟩:=key
 have q1:setPl (setPl ρ nx (plF ρ' u)) (nx+1) (plD ρ' r sz n) (nx+1)=plD ρ' r sz n:=setPl_same _ _ _
 have q2:setPl (setPl ρ nx (plF ρ' u)) (nx+1) (plD ρ' r sz n) nx=plF ρ' u:=by rw[setPl_lt _ _ (Nat.lt_succ_self _)];exact q0
 have hge:∀ {b off:Nat},RowA C'.ok w' t b off→C'.w0.heap.size≤b:=fun {b off} e=>Ctx.ok_nil hbor (ht.elim (fun q=>(e.own q).2.1) e.new)
 refine (s1.addPlainX f1 (b:=.ext (.deep 500000 sz n 0 el nx)) (p:=plD ρ' r sz n) (fun g hg=>by cases hg.1) rfl ⟨⟨by rw[q1],by rw[q1]⟩,⟨by omega,by rw[q2]⟩,hel,?_⟩ ?_).1
 ·rcases hd with h0 | ⟨h0,b,off,e1,e2,-,e3⟩
  ·exact .inl ⟨h0.1,fun q=>by cases q⟩
  ·refine .inr ⟨h0,b,off,by rw[q1];exact e1,⟨e2.lt,(fun q=>by cases q),fun _=>.inl (Nat.le_trans hbase (hge e2))⟩,(fun q=>by cases q),fun k hk j v hv=>?_⟩
   rw[e3 k hk j v hv,← dp_dp (ρ:=ρ') (u:=u) (k:=k) ((hel k hk).2 v (List.mem_of_getElem? hv)) (show (setPl (setPl ρ nx (plF ρ' u)) (nx+1) (plD ρ' r sz n) nx).sub k j=(ρ' u).sub k j by rw[q2])]
 ·intro g hg
  obtain⟨e0,e1⟩:=hg
  unfold bno at e1
  rw[q1] at e1
  rcases hd with h0 | ⟨h0,b,off,e2,e3,-⟩
  ·exact absurd h0.1 e0
  ·rw[show (plD ρ' r sz n).A=(ρ' r).A from rfl,e2] at e1
   obtain rfl:b=g:=by simpa using e1
   exact hge e3
def ctStateG:CT:=fun vs mem nx K=>∃ N x c v l n,vs=[v,cfgV N x c,.int .i64 n]∧(HasCfg mem N c∧SrcR mem 1 intC 0 (l:List Int) v)∧(CfgV c∧l.length≤400∧0≤n∧n≤1000)∧∀ es s y,Run c (stNew c) es s→(es.length:Int)≤n→K (stV ⟨nx+1,nx,500000⟩ y s) (stM ⟨nx+1,nx,500000⟩ s++mem) (nx+2)
theorem stateGOk:CSound Tryz.prog 19 ctStateG:=⟨by kernel_rfl,fun {C ρ fr mem nx a w vs K} hc hs hv=>by
 obtain⟨N,x,c,v,l,n,rfl,⟨hk,hr⟩,⟨hV,hl,hn⟩,hK⟩:=hc
 obtain⟨A,cap,e0,hr⟩:=hs.srcR (enc:=intC) (sz:=1) (fun _=>rfl) (by omega) hr
 have e0:([v,cfgV N x c,.int .i64 n].map (den ρ)).toArray=#[.slice A l.length cap,.agg (cfgC (cfgX ρ N x) c),.int .i64 n]:=by
  rw[List.map_cons,List.map_cons,den_cfg,e0]
  rfl
 rw[e0]
 refine (mkState_calls (cfgX ρ N x) c A cap l n w hV hl hn (hs.cfgH hk) hr).mono ?_
 rintro e w' ⟨es,s,y,rfl,hR,hen,hst,hb⟩
 obtain⟨q1,q2,q3,q4⟩:=hs.addSt hb hst
 exact⟨_,_,_,_,by rw[q2],hK es s ⟨y.ct,y.cc⟩ hR hen,q1,q3,q4⟩⟩
/-! Make,by contract,with any parent;rows of atlases that grow. -/
def ctMakeGR:CT:=fun vs mem nx K=>∃ N x c M y s pn pt pv ps psum key,vs=[cfgV N x c,stV M y s,.agg #[.int .i64 pn,.int .i64 pt,pv,.int .u64 ps,.int .u64 psum],.int .i64 key]∧(HasCfg mem N c∧HasRow mem M.t 12 tsC default s.tenants∧HasRow mem M.c 4 csC default s.cells)∧(∃ A n cap,pv=.slice A n cap)∧AtlIn (atl0 s psum)∧∀ cp,K (atlV (makeA s psum key) (slc nx (routesOf s).length cp)) ((nx,rowOfL 500000 2 pairC (0,0) (routesOf s))::mem) (nx+1)
theorem makeGROk:CSound Tryz.prog 55 ctMakeGR:=⟨by kernel_rfl,fun {C ρ fr mem nx a w vs K} hc hs hv=>by
 obtain⟨N,x,c,M,y,s,pn,pt,pv,ps,psum,key,rfl,⟨hk,h1,h2⟩,hpv,hA,hK⟩:=hc
 have epv:∃ Ap pl pc,den1 ρ pv=.slice Ap pl pc:=by
  obtain⟨A,n,cap,rfl⟩:=hpv
  cases A with
  | none=>exact⟨_,_,_,rfl⟩
  | some ad=>exact⟨_,_,_,rfl⟩
 obtain⟨Ap,pl,pc,epv⟩:=epv
 have e0:([cfgV N x c,stV M y s,.agg #[.int .i64 pn,.int .i64 pt,pv,.int .u64 ps,.int .u64 psum],.int .i64 key].map (den ρ)).toArray=#[.agg (cfgC (cfgX ρ N x) c),.agg (stC (stX ρ M y) s),.agg #[.int .i64 pn,.int .i64 pt,.slice Ap pl pc,.int .u64 ps,.int .u64 psum],.int .i64 key]:=by
  have dI:∀ k n,den1 ρ (.int k n)=.int k n:=fun _ _=>rfl
  rw[List.map_cons,List.map_cons,den_cfg,den_st]
  simp[den,den2,epv,dI]
 rw[e0]
 refine (makeR_calls (cfgX ρ N x) c (stX ρ M y) s pn pt ps psum Ap pl pc key w hA (hs.cfgH (x:=x) hk) (hs.stRow (y:=y) h1 h2)).mono ?_
 rintro e w' ⟨A2,cp,rfl,hr2,hb⟩
 obtain⟨q1,-⟩:=(hs.later hb).addList hs.frB hs.rest.size (enc:=pairC) (sz:=2) (fun _=>rfl) (by omega) pairC_plain (0,0) (t:=500000) rfl hr2
 have q2:setPl ρ nx ⟨A2,2,(routesOf s).length,false,noSub⟩ nx=⟨A2,2,(routesOf s).length,false,noSub⟩:=setPl_same _ _ _
 refine⟨atlV (makeA s psum key) (slc nx (routesOf s).length cp),_,_,_,?_,hK cp,q1,?_,fun i hi=>setPl_lt _ _ hi,by omega⟩
 ·simp[den,den2,den1,dA_whole,dS_whole,q2]
 ·intro u hu
  simp at hu
  rcases hu with rfl | rfl | rfl | rfl | rfl<;>first | trivial | exact⟨Nat.lt_succ_self _,by rw[q2]⟩⟩
theorem getD_appA {α:Type} {l:List α} {x d:α} {k:Nat} (h:k<l.length):(l++[x]).getD k d=l.getD k d:=by rw[List.getD_eq_getElem?_getD,List.getD_eq_getElem?_getD,List.getElem?_append_left h]
theorem getD_endA {α:Type} {l:List α} {x d:α}:(l++[x]).getD l.length d=x:=by rw[List.getD_eq_getElem?_getD,List.getElem?_append_right (Nat.le_refl _)];simp
theorem atlEl_app {xs:List Atl} {cps:List Nat} {a:Atl} {cp k:Nat} (hc:cps.length=xs.length) (h:k<xs.length):atlEl (xs++[a]) (cps++[cp]) k=atlEl xs cps k:=by
 show atlC _ _=atlC _ _
 rw[getD_appA h,getD_appA (hc ▸ h)]
theorem atlEl_end {xs:List Atl} {cps:List Nat} {a:Atl} {cp:Nat} (hc:cps.length=xs.length):atlEl (xs++[a]) (cps++[cp]) (xs.length+0)=atlEl [a] [cp] 0:=by
 show atlC _ _=atlC _ _
 rw[Nat.add_zero,getD_endA,← hc,getD_endA]
 rfl
theorem famA_app {xs:List Atl} {a:Atl} {k:Nat} (h:k<xs.length):famA (xs++[a]) k=famA xs k:=by
 unfold famA
 rw[getD_appA h]
theorem famA_end {xs:List Atl} {a:Atl}:famA (xs++[a]) (xs.length+0)=famA [a] 0:=by
 unfold famA
 rw[Nat.add_zero,getD_endA]
 rfl
theorem app_at {xs:List Atl} {cps:List Nat} {a:Atl} {cp:Nat} (hc:cps.length=xs.length):((∀ k,k<xs.length→atlEl (xs++[a]) (cps++[cp]) k=atlEl xs cps k∧famA (xs++[a]) k=famA xs k)∧(∀ k,k<1→atlEl (xs++[a]) (cps++[cp]) (xs.length+k)=atlEl [a] [cp] k∧famA (xs++[a]) (xs.length+k)=famA [a] k)∧∀ k,xs.length+1≤k→∀ o,(famA (xs++[a]) k o).n=0):=
 ⟨fun k hk=>⟨atlEl_app hc hk,famA_app hk⟩,fun k hk=>(match k,hk with | 0,_=>⟨atlEl_end hc,famA_end⟩),fun k hk o=>famA_out (by simpa using hk) o⟩
/-! law16.copies: the atlases of the states of a log. -/
structure CopyP (c:Cfg) (key:Int) (xs:List Atl):Prop where
 ne:1≤xs.length
 le:xs.length≤13
 made:∀ k,k<xs.length→∃ s par,RInv c s∧xs.getD k aZ=makeA s par key
 inc:∀ k,k+1<xs.length→(xs.getD k aZ).number<(xs.getD (k+1) aZ).number
 first:(xs.getD 0 aZ).number=0
theorem CopyP.one {c:Cfg} {key:Int} {s:St} (h:RInv c s) (h0:s.count=0) (par:Int):CopyP c key [makeA s par key]:=
 ⟨Nat.le_refl _,by simp,fun k hk=>(match k,hk with | 0,_=>⟨s,par,h,rfl⟩),fun k hk=>absurd hk (by simp),h0⟩
theorem CopyP.snoc {c:Cfg} {key:Int} {xs:List Atl} (hP:CopyP c key xs) (hl:xs.length≤12) {s:St} (h:RInv c s) (par:Int) (hn:(makeA s par key).number>(xs.getD (xs.length-1) aZ).number):CopyP c key (xs++[makeA s par key]):=by
 have h1:=hP.ne
 refine⟨by simp,by simpa using hl,fun k hk=>?_,fun k hk=>?_,by rw[getD_appA (by omega)];exact hP.first⟩
 ·by_cases q:k<xs.length
  ·rw[getD_appA q];exact hP.made k q
  ·obtain rfl:k=xs.length:=by simp at hk;omega
   rw[getD_endA];exact⟨s,par,h,rfl⟩
 ·simp at hk
  by_cases q:k+1<xs.length
  ·rw[getD_appA q,getD_appA (by omega)];exact hP.inc k q
  ·obtain rfl:k=xs.length-1:=by omega
   rw[show xs.length-1+1=xs.length by omega,getD_endA,getD_appA (by omega)]
   exact hn
def cyF:FT:=[(19,ctStateG),(55,ctMakeGR)]
def cyD:List (Nat×DQ):=[(1,{ k:=5,L:=[0,1,2,3,4,5,6,7,8,9,10,11,12,13,14,15,16,17,18,19,20,21,22,23,24,25,26,27,28,29,30,31,32,33,34,35,36,37,38,39,40,41,42,43,44,45,46,47,48,49,50,51,52,53,54,55,56,57,58,59,60],pre:=[(0,false),(1,false),(3,false),(4,false),(2,true)] }),(5,{ k:=15,L:=[0,1,2,3,4,5,6,7,8,9,10,11,12,13,14,15,16,17,18,19,20,21,22,23,24,25,26,27,28,29,30,31,32,33,34,35,36,37,38,39,40,41,42,43,44,45,46,47,48,49,50,51,52,53,54,55,56,57,58,59,60],A:=[14],pre:=[(0,false),(1,false),(2,false),(3,false),(4,false),(6,false),(7,false),(8,false),(9,false),(10,false),(11,false),(12,false),(5,true),(13,true)],post:=[] }),(6,{ k:=9,L:=[0,1,2,3,4,5,6,7,8,9,10,11,12,13,14,15,16,17,18,19,20,21,22,23,24,25,26,27,28,29,30,31,32,33,34,35,36,37,38,39,40,41,42,43,44,45,46,47,48,49,50,51,52,53,54,55,56,57,58,59,60],pre:=[(0,false),(1,false),(2,false),(3,false),(4,false),(5,false),(6,false),(7,false),(8,false)] }),(3000003,{ k:=21,L:=[0,1,2,3,4,5,6,7,8,9,10,11,12,13],sl:=[1,2,3] })]
theorem cyFok:FTokI Tryz.prog cyF (inlOf cyD):=fti_cons (stateGOk.i _) (fti_cons (makeGROk.i _) fti_nil)
set_option maxRecDepth 100000 in
set_option maxHeartbeats 4000000 in
theorem copies_sx (d:UD) (x:CfgK) (cap0:Nat) (key:Int) (hV:CfgV d.c) (hz:d.l0.length≤400) :
  sx ttL cyF cyD (bodyOf Tryz.f14) (argF 0 [cfgV CNu x d.c,slc 0 d.l0.length cap0,.int .i64 key]) (uniM d) 13 (endx ttL Tryz.f14.results.toList fun v mem' _=>∃ xs cps cap cp r u,v=.slice (some ⟨r,0,none⟩) xs.length cap∧lk mem' r=some (deepA (1000000+112) cp xs cps u)∧lk mem' u=some (famB 500000 xs)∧CopyP d.c key xs):=by
 have hnt:=hV.nt
 have hnc:=hV.nc
 refine⟨CNu,x,d.c,zs0,[],0,rfl,⟨HasCfg.keeps kp_,.inl ⟨rfl,rfl⟩⟩,⟨hV,by simp,by decide⟩,?_⟩
 intro es s y hR hen
 have hJ:=hR.rinv hV (.new hV)
 refine⟨kp_,?_⟩
 refine⟨CNu,x,d.c,⟨15,14,500000⟩,y,s,0,0,zs0,0,0,key,rfl,⟨HasCfg.keeps kp_,.list rfl,.list rfl⟩,⟨_,_,_,rfl⟩,atlIn_st hV hJ.inv _,fun cp1=>?_⟩
 refine⟨atlEl [makeA s 0 key] [cp1],famA [makeA s 0 key],⟨fun k hk=>?_,fun k hk o=>famA_out hk o⟩,?_⟩
 ·match k,hk with
  | 0,_=>exact⟨rfl,fun o=>famA_list _ o rfl⟩
 have he0:es=[]:=List.eq_nil_of_length_eq_zero (by omega)
 subst he0
 cases hR
 refine⟨List Atl×List Nat×Nat×Nat×Int,fun q=>match q with | (xs,cps,cap,cp,i)=>[(7,.slice (some ⟨20,0,none⟩) xs.length cap),(8,.int .i64 i)],fun q=>match q with | (xs,cps,cap,cp,i)=>[(19,famB 500000 xs),(20,deepA (1000000+112) cp xs cps 19)],fun q=>match q with | (xs,cps,cap,cp,i)=>CopyP d.c key xs∧cps.length=xs.length∧cap=cp∧(1≤i∧i≤13)∧(xs.length:Int)≤i,fun q=>match q with | (xs,cps,cap,cp,i)=>(13-i).toNat,⟨([makeA (stNew d.c) 0 key],[cp1],1,1,1),[(19,17),(20,18)],⟨.one hJ rfl 0,rfl,rfl,by omega,by simp⟩,⟨rfl,rfl⟩,kp_,kp_⟩,?_⟩
 clear hen hJ y cp1
 rintro⟨xs,cps,cap,cp,i⟩ ⟨hP,hcl,rfl,hi,hxl⟩
 have hne:=hP.ne
 refine⟨⟨by decide,rfl,rfl⟩,?_⟩
 refine⟨fun hc=>?_,fun hc=>?_⟩
 ·have hc2:i≤12:=of_decide_eq_true hc
  have w1:=wrapi (n:=(xs.length:Int)-1) (by omega)
  have w2:=wrapi (n:=3 * i) (by omega)
  refine⟨⟨Nat.le_refl _,by rw[w1];omega,by rw[w1];omega⟩,?_⟩
  rw[w1,w2]
  refine⟨CNu,x,d.c,_,d.l0,_,rfl,⟨HasCfg.keeps kp_,.inr (.inl ⟨0,_,rfl,⟨_,_,_,rfl,Nat.le_refl _,fun k hk=>rfl⟩⟩)⟩,⟨hV,hz,by omega⟩,?_⟩
  intro es s y hR hen
  have hJ:=hR.rinv hV (.new hV)
  refine⟨kp_,?_⟩
  refine⟨CNu,x,d.c,⟨23,22,500000⟩,y,s,_,_,_,_,_,key,rfl,⟨HasCfg.keeps kp_,.list rfl,.list rfl⟩,⟨_,_,_,rfl⟩,atlIn_st hV hJ.inv _,fun cp1=>?_⟩
  refine⟨kp_,?_⟩
  refine⟨⟨Nat.le_refl _,by rw[w1];omega,by rw[w1];omega⟩,?_⟩
  rw[w1]
  refine⟨fun hg=>?_,fun hg=>?_⟩
  ·refine⟨atlEl [(makeA s (xs.getD ((xs.length:Int)-1).toNat aZ).sum key)] [cp1],famA [(makeA s (xs.getD ((xs.length:Int)-1).toNat aZ).sum key)],⟨fun k hk=>?_,fun k hk o=>famA_out hk o⟩,?_⟩
   ·match k,hk with
    | 0,_=>exact⟨rfl,fun o=>famA_list _ o rfl⟩
   refine⟨⟨Nat.le_refl _,fun k hk=>(match k,hk with | 0,_=>rfl)⟩,?_⟩
   refine⟨⟨⟨rfl,rfl⟩,by decide,by show (xs.length+1) * 56≤140737488355328;omega⟩,fun cap2 hcp2=>⟨atlEl (xs++[(makeA s (xs.getD ((xs.length:Int)-1).toNat aZ).sum key)]) (cps++[cp1]),famA (xs++[(makeA s (xs.getD ((xs.length:Int)-1).toNat aZ).sum key)]),app_at hcl,?_⟩⟩
   have hlx:xs.length+1=(xs++[(makeA s (xs.getD ((xs.length:Int)-1).toNat aZ).sum key)]).length:=by simp
   rw[hlx]
   have w3:=wrapi (n:=i+1) (by omega)
   refine⟨(xs++[(makeA s (xs.getD ((xs.length:Int)-1).toNat aZ).sum key)],cps++[cp1],cap2,cap2,IntKind.i64.wrap (i+1)),[(19,27),(20,28)],?_,⟨rfl,rfl⟩,kp_,kp_⟩
   dsimp only
   rw[w3]
   refine⟨⟨hP.snoc (by omega) hJ _ ?_,by simp[hcl],rfl,by omega,by simp;omega⟩,by omega⟩
   have hg2:=of_decide_eq_true hg
   rw[show ((xs.length:Int)-1).toNat=xs.length-1 by omega] at hg2 ⊢
   exact hg2
  ·have w3:=wrapi (n:=i+1) (by omega)
   refine⟨(xs,cps,cap,cap,IntKind.i64.wrap (i+1)),[],?_,⟨rfl,rfl⟩,kp_,kp_⟩
   dsimp only
   rw[w3]
   exact⟨⟨hP,hcl,rfl,by omega,by omega⟩,by omega⟩
 ·exact⟨xs,cps,cap,cap,20,19,rfl,rfl,rfl,hP⟩
theorem copies_calls (x:CfgA) (c:Cfg) (A0:Option Addr) (cap0:Nat) (l:List Int) (key:Int) (w:World) (hV:CfgV c) (hz:l.length≤400) (hc:CfgOk w (·<w.heap.size) x c) (hr:Rd w (·<w.heap.size) A0 (flat intC l)) :
  Calls Tryz.prog 14 #[.agg (cfgC x c),.slice A0 l.length cap0,.int .i64 key] w fun e w'=>∃ xs cps cap cp r u mem' nx' C' ρ',e=.returned (.slice ((ρ':Nat→Pl) r).A (xs:List Atl).length cap)∧MemAt C' ρ' mem' nx' w'∧((C':Ctx).w0=w∧(C':Ctx).bor=[])∧lk mem' r=some (deepA (1000000+112) cp xs cps u)∧lk mem' u=some (famB 500000 xs)∧CopyP c key xs∧Below w.heap.size w w':=by
 have:=uni_calls ttLok cyFok Tryz.func14 rfl (D:=cyD) (by kernel_rfl) (vs:=[cfgV CNu (ck x) c,slc 0 l.length cap0,.int .i64 key]) rfl { a0:=A0,x:=x } { l0:=l,c:=c } w { r0:=hr,c:=hc } (fun v hv=>by
  simp only[List.mem_cons,List.not_mem_nil,or_false] at hv
  rcases hv with rfl | rfl | rfl
  ·exact upl_cfg_ok { a0:=A0,x:=x } { l0:=l,c:=c }
  ·exact⟨show (0:Nat)<13 by decide,rfl⟩
  ·trivial) (copies_sx { l0:=l,c:=c } (ck x) cap0 key hV hz)
 rw[List.map_cons] at this
 have e0:=upl_cfg { a0:=A0,x:=x } { l0:=l,c:=c }
 dsimp only at e0 this
 rw[e0] at this
 refine this.mono ?_
 rintro e w' ⟨v,mem',nx',ρ',rfl,⟨xs,cps,cap,cp,r,u,rfl,h1,h2,hP⟩,hv,hm',hb⟩
 exact⟨xs,cps,cap,cp,r,u,mem',nx',_,ρ',rfl,hm',⟨rfl,rfl⟩,h1,h2,hP,hb⟩
def ctCopies:CT:=fun vs mem nx K=>∃ N x c v l key,vs=[cfgV N x c,v,.int .i64 key]∧(HasCfg mem N c∧SrcR mem 1 intC 0 (l:List Int) v)∧(CfgV c∧l.length≤400)∧∀ xs cps cap,CopyP c key xs→K (.slice (some ⟨nx+1,0,none⟩) xs.length cap) ((nx+1,deepA 500000 0 xs cps nx)::(nx,famB 500000 xs)::mem) (nx+1+1)
theorem copiesOk:CSound Tryz.prog 14 ctCopies:=⟨by kernel_rfl,fun {C ρ fr mem nx a w vs K} hc hs hv=>by
 obtain⟨N,x,c,v,l,key,rfl,⟨hk,hr⟩,⟨hV,hl⟩,hK⟩:=hc
 obtain⟨A,cap0,e0,hr⟩:=hs.srcR (enc:=intC) (sz:=1) (fun _=>rfl) (by omega) hr
 have e1:([cfgV N x c,v,.int .i64 key].map (den ρ)).toArray=#[.agg (cfgC (cfgX ρ N x) c),.slice A l.length cap0,.int .i64 key]:=by
  rw[List.map_cons,List.map_cons,den_cfg,e0]
  rfl
 rw[e1]
 refine (copies_calls (cfgX ρ N x) c A cap0 l key w hV hl (hs.cfgH hk) hr).mono ?_
 rintro e w' ⟨xs,cps,cap,cp,r,u,mem',nx',C',ρ',rfl,hm,hw,h1,h2,hP,hb⟩
 have q:=hs.takeDeep hb hm hw.1 h1 (.inl rfl) h2 rfl (hbor:=hw.2)
 have q1:setPl (setPl ρ nx (plF ρ' u)) (nx+1) (plD ρ' r 5 xs.length) (nx+1)=plD ρ' r 5 xs.length:=setPl_same _ _ _
 refine⟨.slice (some ⟨nx+1,0,none⟩) xs.length cap,_,_,_,?_,hK xs cps cap hP,q,?_,fun i hi=>?_,by omega⟩
 ·show Ending.returned (.slice (ρ' r).A xs.length cap)=.returned (.slice (setPl (setPl ρ nx (plF ρ' u)) (nx+1) (plD ρ' r 5 xs.length) (nx+1)).A xs.length cap)
  rw[q1]
 ·exact⟨show nx+1<nx+1+1 by omega,by rw[q1]⟩
 ·rw[setPl_lt _ _ (by omega),setPl_lt _ _ hi]⟩
/-! Taking copies: what all laws of the router need. -/
theorem CopyP.ge {c:Cfg} {key:Int} {xs:List Atl} (hP:CopyP c key xs):∀ k,k<xs.length→(k:Int)≤(xs.getD k aZ).number
 | 0,_=>by rw[hP.first];exact Int.le_refl _
 | k+1,hk=>by
  have h1:=hP.ge k (by omega)
  have h2:=hP.inc k hk
  omega
theorem CopyP.valid {c:Cfg} {key:Int} {xs:List Atl} (hP:CopyP c key xs) (hE:cfgErr c=0) {k:Nat} (hk:k<xs.length):ValidA c (xs.getD k aZ) key:=by
 obtain⟨s,par,hJ,e⟩:=hP.made k hk
 rw[e]
 exact make_valid hE (cfgV_of hE) hJ.inv par key
theorem CopyP.len {c:Cfg} {key:Int} {xs:List Atl} (hP:CopyP c key xs) {k:Nat} (hk:k<xs.length):(xs.getD k aZ).routes.length=c.tenants.length:=by
 obtain⟨s,par,hJ,e⟩:=hP.made k hk
 rw[e]
 show (routesOf s).length=_
 rw[routes_len,hJ.inv.lt]
/-! ref04.Valid,ref05.Valid: first parts -/
set_option maxRecDepth 100000 in
theorem in_sx (n lo hi:Int):sx ttA [] [] (bodyOf Tryz.f128) (argF 0 [.int .i64 n,.int .i64 lo,.int .i64 hi]) (uniM {}) 13 (endx ttA Tryz.f128.results.toList fun v _ _=>v=.bool (inR n lo hi)):=by
 refine⟨fun h=>?_,fun h=>?_⟩
 ·exact congrArg Value.bool (by unfold inR;grind)
 ·exact congrArg Value.bool (by unfold inR;grind)
theorem in_calls (n lo hi:Int) (w:World):Calls Tryz.prog 128 #[.int .i64 n,.int .i64 lo,.int .i64 hi] w fun e w'=>e=.returned (.bool (inR n lo hi))∧Below w.heap.size w w':=by
 have:=uni_calls ttAok fti_nil Tryz.func128 rfl (D:=[]) (by kernel_rfl) (vs:=[.int .i64 n,.int .i64 lo,.int .i64 hi]) rfl {} {} w {} (fun v hv=>by
  simp only[List.mem_cons,List.not_mem_nil,or_false] at hv
  rcases hv with rfl | rfl | rfl<;>trivial) (in_sx n lo hi)
 refine this.mono ?_
 rintro e w' ⟨v,mem',nx',ρ',rfl,rfl,hv,hm',hb⟩
 exact⟨rfl,hb⟩
def ctIn:CT:=fun vs mem nx K=>∃ n lo hi,vs=[.int .i64 n,.int .i64 lo,.int .i64 hi]∧K (.bool (inR n lo hi)) mem nx
theorem inOk:CSound Tryz.prog 128 ctIn:=CSound.pure (by kernel_rfl) (by
 rintro vs mem nx K ⟨n,lo,hi,rfl,hK⟩
 exact⟨_,hK,fun ρ m=>⟨rfl,trivial⟩,fun ρ w=>in_calls n lo hi w⟩)
def liF:FT:=[(128,ctIn)]
theorem liFok:FTokI Tryz.prog liF (inlOf []):=fti_cons (inOk.i _) fti_nil
set_option maxRecDepth 100000 in
set_option maxHeartbeats 4000000 in
theorem limits_sx (x:CfgK) (c:Cfg) :
  sx ttA liF [] (bodyOf Tryz.f126) (argF 0 [cfgV CNu x c]) (uniM { c:=c }) 13 (endx ttA Tryz.f126.results.toList fun v _ _=>v=.bool (limitsB c)):=by
 refine⟨_,_,_,rfl,?_⟩
 refine⟨fun h1=>?_,fun h1=>?_⟩
 ·refine⟨_,_,_,rfl,?_⟩
  refine⟨fun h2=>?_,fun h2=>?_⟩
  ·refine⟨_,_,_,rfl,?_⟩
   refine⟨fun h3=>?_,fun h3=>?_⟩
   ·refine⟨_,_,_,rfl,?_⟩
    refine⟨fun h4=>?_,fun h4=>?_⟩
    ·refine⟨_,_,_,rfl,?_⟩
     refine⟨fun h5=>?_,fun h5=>?_⟩
     ·refine⟨_,_,_,rfl,?_⟩
      refine⟨fun h6=>?_,fun h6=>?_⟩
      ·exact congrArg Value.bool (by unfold limitsB;simp[h1,h2,h3,h4,h5,h6];omega)
      ·repeat (first | refine⟨fun _=>?_,fun h=>Bool.noConfusion h⟩ | refine⟨fun h=>Bool.noConfusion h,fun _=>?_⟩ | fail)
       exact congrArg Value.bool (by unfold limitsB;simp[h1,h2,h3,h4,h5,h6])
     ·repeat (first | refine⟨fun _=>?_,fun h=>Bool.noConfusion h⟩ | refine⟨fun h=>Bool.noConfusion h,fun _=>?_⟩ | fail)
      exact congrArg Value.bool (by unfold limitsB;simp[h1,h2,h3,h4,h5])
    ·repeat (first | refine⟨fun _=>?_,fun h=>Bool.noConfusion h⟩ | refine⟨fun h=>Bool.noConfusion h,fun _=>?_⟩ | fail)
     exact congrArg Value.bool (by unfold limitsB;simp[h1,h2,h3,h4])
   ·repeat (first | refine⟨fun _=>?_,fun h=>Bool.noConfusion h⟩ | refine⟨fun h=>Bool.noConfusion h,fun _=>?_⟩ | fail)
    exact congrArg Value.bool (by unfold limitsB;simp[h1,h2,h3])
  ·repeat (first | refine⟨fun _=>?_,fun h=>Bool.noConfusion h⟩ | refine⟨fun h=>Bool.noConfusion h,fun _=>?_⟩ | fail)
   exact congrArg Value.bool (by unfold limitsB;simp[h1,h2])
 ·repeat (first | refine⟨fun _=>?_,fun h=>Bool.noConfusion h⟩ | refine⟨fun h=>Bool.noConfusion h,fun _=>?_⟩ | fail)
  exact congrArg Value.bool (by unfold limitsB;simp[h1])
set_option maxRecDepth 100000 in
set_option maxHeartbeats 4000000 in
theorem zones_sx (x:CfgK) (c:Cfg) (l:List Int) (cap:Nat) (hl:l.length≤1000000) (hz:c.zones.length≤1000000) :
  sx ttA liF [(2000002,{ k:=0,L:=[0,1,2,3,4,5,6,7,8,9,10,11,12,13],sl:=[1,2] }),(4,{ k:=8,L:=[0,1,2,3,4,5,6,7,8,9,10,11,12,13],pre:=[(0,false),(1,false),(2,false),(3,false),(4,false),(5,false),(6,false),(7,false)] })] (bodyOf Tryz.f127) (argF 0 [cfgV CNu x c,slc 0 l.length cap]) (uniM { l0:=l,c:=c }) 13 (endx ttA Tryz.f127.results.toList fun v _ _=>v=.bool (l.all fun z=>inR z 0 (c.zones.length-1))):=by
 refine⟨Int,fun i=>[(5,.int .i64 i)],fun _=>[],fun i=>(0≤i∧i≤l.length)∧∀ k,k<i.toNat→inR (l.getD k 0) 0 (c.zones.length-1)=true,fun i=>((l.length:Int)-i).toNat,⟨0,⟨by omega,fun k hk=>absurd hk (by omega)⟩,kp_,kp_⟩,?_⟩
 rintro i ⟨hi,hall⟩
 refine⟨⟨rfl,rfl⟩,?_⟩
 refine⟨fun hlt=>?_,fun hge=>?_⟩
 ·have hlt2:i<(l.length:Int):=of_decide_eq_true hlt
  refine⟨⟨Nat.le_refl _,hi.1,hlt2⟩,?_⟩
  refine⟨_,_,_,rfl,?_⟩
  rw[wrapi (n:=(c.zones.length:Int)-1) (by omega)]
  refine⟨fun hb=>?_,fun hb=>?_⟩
  ·have hb2:inR (l.getD i.toNat 0) 0 (c.zones.length-1)=false:=by simpa using hb
   refine congrArg Value.bool (Eq.symm ?_)
   rw[List.all_eq_false]
   refine⟨l.getD i.toNat 0,?_,by rw[hb2];decide⟩
   rw[List.getD_eq_getElem?_getD,List.getElem?_eq_getElem (by omega)]
   exact List.getElem_mem _
  ·have hb2:inR (l.getD i.toNat 0) 0 (c.zones.length-1)=true:=by simpa using hb
   refine⟨_,?_,kp_,kp_⟩
   rw[wrapi (n:=i+1) (by omega)]
   dsimp only
   refine⟨⟨by omega,fun k hk=>?_⟩,by omega⟩
   by_cases hki:k<i.toNat
   ·exact hall k hki
   ·obtain rfl:k=i.toNat:=by omega
    exact hb2
 ·have hge2:¬ i<(l.length:Int):=of_decide_eq_false hge
  refine congrArg Value.bool (Eq.symm ?_)
  rw[List.all_eq_true]
  intro z hz2
  obtain⟨k,hk,rfl⟩:=List.getElem_of_mem hz2
  have:=hall k (by omega)
  rwa[List.getD_eq_getElem?_getD,List.getElem?_eq_getElem hk] at this
/-! ref04.Valid: plain facts -/
theorem all_getD {α:Type} {l:List α} {p:α→Bool} (d:α):l.all p=true↔∀ k,k<l.length→p (l.getD k d)=true:=by
 rw[List.all_eq_true]
 constructor
 ·intro h k hk
  rw[List.getD_eq_getElem?_getD,List.getElem?_eq_getElem hk]
  exact h _ (List.getElem_mem _)
 ·intro h x hx
  obtain⟨k,hk,rfl⟩:=List.getElem_of_mem hx
  have:=h k hk
  rwa[List.getD_eq_getElem?_getD,List.getElem?_eq_getElem hk] at this
theorem versOk_iff (l:List (Int×Int)):versOk l=true↔∀ k,k<l.length→verOk k (l.getD k (0,0))=true:=by
 constructor
 ·intro h k hk
  rw[List.getD_eq_getElem?_getD,List.getElem?_eq_getElem hk]
  cases hv:verOk k l[k] with
  | true=>exact hv
  | false=>rw[versOk_no (List.getElem?_eq_getElem hk) hv] at h;cases h
 ·intro h
  refine versOk_yes fun k v hv=>?_
  have hk:=(List.getElem?_eq_some_iff.1 hv).1
  have:=h k hk
  rwa[List.getD_eq_getElem?_getD,hv] at this
def G04 (c:Cfg):Prop:=c.replicas.length % 2=1∧(c.replicas.all fun z=>inR z 0 (c.zones.length-1))=true∧(c.observers.all fun z=>inR z 0 (c.zones.length-1))=true∧inR c.blast 1 16=true∧inR c.lease 1 1000=true∧inR c.bake 0 10000=true∧(c.versions.getD 0 (0,0)).1=0
def ZK4 (c:Cfg) (i:Nat):Prop:=∀ k,k<i→inR (c.zones.getD k 0) 0 (c.regions-1)=true
def CK4 (c:Cfg) (i:Nat):Prop:=∀ k,k<i→inR (c.cells.getD k (0,0)).1 0 (c.zones.length-1)=true∧inR (c.cells.getD k (0,0)).2 1 4194304=true
def VK4 (c:Cfg) (i:Nat):Prop:=∀ k,k<i→inR (c.versions.getD k (0,0)).1 0 (c.versions.getD k (0,0)).2=true∧(c.versions.getD k (0,0)).2≤30
theorem valid4_yes {c:Cfg} (hl:limitsB c=true) (h0:G04 c) (hz:ZK4 c c.zones.length) (hc:CK4 c c.cells.length) (hv:VK4 c c.versions.length):topoErr c=0:=by
 obtain⟨g1,g2,g3,g4,g5,g6,g7⟩:=h0
 have hp:placesB c=true:=by
  unfold placesB
  rw[g2,g3,(all_getD (p:=fun z=>inR z 0 (c.regions-1)) 0).2 hz,(all_getD (0,0)).2 fun k hk=>(hc k hk).1]
  rfl
 have hver:versOk c.versions=true:=(versOk_iff _).2 fun k hk=>by
  have:=hv k hk
  unfold verOk
  unfold inR at this
  cases k with
  | zero=>grind
  | succ k=>grind
 have hq:valuesB c=true:=by
  unfold valuesB
  rw[g4,g5,g6,hver,(all_getD (0,0)).2 fun k hk=>(hc k hk).2]
  rfl
 unfold topoErr
 rw[if_neg (by rw[hl];decide),if_neg]
 rw[hp,hq]
 rintro (q | q | q)
 ·omega
 ·cases q
 ·cases q
theorem valid4_no {c:Cfg} (hl:limitsB c=true) (h:¬ (((G04 c∧ZK4 c c.zones.length)∧CK4 c c.cells.length)∧VK4 c c.versions.length)):topoErr c=1:=by
 unfold topoErr
 rw[if_neg (by rw[hl];decide)]
 by_cases hr:c.replicas.length % 2=0
 ·rw[if_pos (.inl hr)]
 by_cases hp:placesB c=false
 ·rw[if_pos (.inr (.inl hp))]
 by_cases hq:valuesB c=false
 ·rw[if_pos (.inr (.inr hq))]
 exfalso
 rw[Bool.not_eq_false] at hp hq
 unfold placesB at hp
 unfold valuesB at hq
 simp only[Bool.and_eq_true] at hp hq
 obtain⟨⟨⟨p1,p2⟩,p3⟩,p4⟩:=hp
 obtain⟨⟨q1,q2⟩,⟨q3,q4⟩,q5⟩:=hq
 have hnv:0<c.versions.length:=by
  simp[limitsB,inR] at hl
  omega
 have hv:=(versOk_iff _).1 q2
 refine h ⟨⟨⟨⟨by omega,p3,p4,q3,q4,q5,?_⟩,(all_getD 0).1 p1⟩,fun k hk=>⟨(all_getD (0,0)).1 p2 k hk,(all_getD (0,0)).1 q1 k hk⟩⟩,fun k hk=>?_⟩
 ·have:=hv 0 hnv
  unfold verOk at this
  grind
 ·have:=hv k hk
  unfold verOk at this
  unfold inR
  grind
theorem limits_calls (x:CfgA) (c:Cfg) (w:World) (hc:CfgOk w (·<w.heap.size) x c):Calls Tryz.prog 126 #[.agg (cfgC x c)] w fun e w'=>e=.returned (.bool (limitsB c))∧Below w.heap.size w w':=by
 have:=uni_calls ttAok liFok Tryz.func126 rfl (D:=[]) (by kernel_rfl) (vs:=[cfgV CNu (ck x) c]) rfl { x:=x } { c:=c } w { c:=hc } (fun v hv=>by
  simp only[List.mem_cons,List.not_mem_nil,or_false] at hv
  subst hv
  exact upl_cfg_ok { x:=x } { c:=c }) (limits_sx (ck x) c)
 rw[List.map_cons,upl_cfg { x:=x } { c:=c }] at this
 refine this.mono ?_
 rintro e w' ⟨v,mem',nx',ρ',rfl,rfl,hv,hm',hb⟩
 exact⟨rfl,hb⟩
def ctLimits:CT:=fun vs mem nx K=>∃ N x c,vs=[cfgV N x c]∧HasCfg mem N c∧K (.bool (limitsB c)) mem nx
theorem limitsOk:CSound Tryz.prog 126 ctLimits:=⟨by kernel_rfl,fun {C ρ fr mem nx a w vs K} hc hs hv=>by
 obtain⟨N,x,c,rfl,hk,hK⟩:=hc
 rw[List.map_cons,den_cfg]
 refine (limits_calls (cfgX ρ N x) c w (hs.cfgH hk)).mono ?_
 rintro e w' ⟨rfl,hb⟩
 exact⟨_,mem,nx,ρ,rfl,hK,hs.later hb,trivial,ExtS.refl _ _⟩⟩
theorem zones_calls (x:CfgA) (c:Cfg) (A:Option Addr) (l:List Int) (cap:Nat) (w:World) (hl:l.length≤1000000) (hz:c.zones.length≤1000000) (hr:Rd w (·<w.heap.size) A (flat intC l)) (hc:CfgOk w (·<w.heap.size) x c):Calls Tryz.prog 127 #[.agg (cfgC x c),.slice A l.length cap] w fun e w'=>e=.returned (.bool (l.all fun z=>inR z 0 (c.zones.length-1)))∧Below w.heap.size w w':=by
 have:=uni_calls ttAok liFok Tryz.func127 rfl (D:=[(2000002,{ k:=0,L:=[0,1,2,3,4,5,6,7,8,9,10,11,12,13],sl:=[1,2] }),(4,{ k:=8,L:=[0,1,2,3,4,5,6,7,8,9,10,11,12,13],pre:=[(0,false),(1,false),(2,false),(3,false),(4,false),(5,false),(6,false),(7,false)] })]) (by kernel_rfl) (vs:=[cfgV CNu (ck x) c,slc 0 l.length cap]) rfl { a0:=A,x:=x } { l0:=l,c:=c } w { r0:=hr,c:=hc } (fun v hv=>by
  simp only[List.mem_cons,List.not_mem_nil,or_false] at hv
  rcases hv with rfl | rfl
  ·exact upl_cfg_ok { a0:=A,x:=x } { l0:=l,c:=c }
  ·exact⟨show (0:Nat)<13 by decide,rfl⟩) (zones_sx (ck x) c l cap hl hz)
 rw[List.map_cons,upl_cfg { a0:=A,x:=x } { l0:=l,c:=c }] at this
 refine this.mono ?_
 rintro e w' ⟨v,mem',nx',ρ',rfl,rfl,hv,hm',hb⟩
 exact⟨rfl,hb⟩
def ctZones:CT:=fun vs mem nx K=>∃ N x c r l cap,vs=[cfgV N x c,slc r (l:List Int).length cap]∧(HasCfg mem N c∧HasRow mem r 1 intC 0 l)∧(l.length≤1000000∧c.zones.length≤1000000)∧K (.bool (l.all fun z=>inR z 0 (c.zones.length-1))) mem nx
theorem zonesOk:CSound Tryz.prog 127 ctZones:=⟨by kernel_rfl,fun {C ρ fr mem nx a w vs K} hc hs hv=>by
 obtain⟨N,x,c,r,l,cap,rfl,⟨hk,hr⟩,⟨hl,hz⟩,hK⟩:=hc
 have e0:([cfgV N x c,slc r l.length cap].map (den ρ)).toArray=#[.agg (cfgC (cfgX ρ N x) c),.slice (ρ r).A l.length cap]:=by
  rw[List.map_cons,den_cfg]
  simp[den,den2,den1,dA_whole,dS_whole]
 rw[e0]
 refine (zones_calls (cfgX ρ N x) c (ρ r).A l cap w hl hz (hs.hasRd (enc:=intC) (sz:=1) (fun _=>rfl) (by omega) hr) (hs.cfgH hk)).mono ?_
 rintro e w' ⟨rfl,hb⟩
 exact⟨_,mem,nx,ρ,rfl,hK,hs.later hb,trivial,ExtS.refl _ _⟩⟩
/-! ref04.Valid -/
theorem all_succ {P:Nat→Prop} {i:Int} (h:0≤i):(∀ k,k<(i+1).toNat→P k)↔(∀ k,k<i.toNat→P k)∧P i.toNat:=by
 constructor
 ·exact fun q=>⟨fun k hk=>q k (by omega),q _ (by omega)⟩
 ·rintro⟨q1,q2⟩ k hk
  by_cases hki:k<i.toNat
  ·exact q1 k hki
  ·obtain rfl:k=i.toNat:=by omega
   exact q2
def v4F:FT:=[(126,ctLimits),(127,ctZones),(128,ctIn)]
theorem v4Fok:FTokI Tryz.prog v4F (inlOf []):=fti_cons (limitsOk.i _) (fti_cons (zonesOk.i _) (fti_cons (inOk.i _) fti_nil))
def v4D:List (Nat×DQ):=[(1000004,{ k:=14,L:=[0,1,2,3,4,5,6,7,8,9,10,11,12,13],sl:=[1] }),(2000005,{ k:=0,L:=[0,1,2,3,4,5,6,7,8,9,10,11,12,13],sl:=[1] }),(2000009,{ k:=0,L:=[0,1,2,3,4,5,6,7,8,9,10,11,12,13],sl:=[1] }),(2000013,{ k:=0,L:=[0,1,2,3,4,5,6,7,8,9,10,11,12,13],sl:=[1] }),(7,{ k:=11,L:=[0,1,2,3,4,5,6,7,8,9,10,11,12,13],pre:=[(0,false),(1,false),(2,false),(3,false),(4,false),(5,false),(6,false),(7,false),(8,false),(9,false),(10,false)] }),
 (11,{ k:=18,L:=[0,1,2,3,4,5,6,7,8,9,10,11,12,13],pre:=[(0,false),(1,false),(2,false),(3,false),(4,false),(5,false),(6,false),(7,false),(8,false),(9,false),(10,false),(11,false),(12,true),(13,false),(14,false),(15,false),(16,false),(17,false)] }),(15,{ k:=20,L:=[0,1,2,3,4,5,6,7,8,9,10,11,12,13],pre:=[(0,false),(1,false),(2,false),(3,false),(4,false),(5,false),(6,false),(7,false),(8,false),(9,false),(10,false),(11,false),(12,false),(13,false),(14,true),(15,false),(16,false),(17,false),(18,false),(19,false)] })]
set_option maxRecDepth 100000 in
set_option maxHeartbeats 8000000 in
theorem valid4_sx (x:CfgK) (c:Cfg) :
  sx ttA v4F v4D (bodyOf Tryz.f82) (argF 0 [cfgV CNu x c]) (uniM { c:=c }) 13 (endx ttA Tryz.f82.results.toList fun v _ _=>v=.int .i64 (topoErr c)):=by
 refine⟨CNu,x,c,rfl,HasCfg.keeps kp_,?_⟩
 refine⟨fun hl=>?_,fun hl=>?_⟩
 ·replace hl:limitsB c=false:=by simpa using hl
  exact congrArg (Value.int .i64) (show topoErr c=2 from if_pos hl).symm
 ·replace hl:limitsB c=true:=by simpa using hl
  have hlm:=hl
  simp[limitsB,inR] at hlm
  refine⟨Bool,fun b=>[(3,.bool b)],fun _=>[],fun b=>(b=true↔G04 c),?_,?_⟩
  ·refine⟨⟨rfl,by decide⟩,?_⟩
   refine⟨fun h1=>?_,fun h1=>?_⟩
   ·refine⟨CNu,x,c,6,c.replicas,_,rfl,⟨HasCfg.keeps kp_,.list rfl⟩,⟨by omega,by omega⟩,?_⟩
    refine⟨fun h2=>?_,fun h2=>?_⟩
    ·refine⟨CNu,x,c,7,c.observers,_,rfl,⟨HasCfg.keeps kp_,.list rfl⟩,⟨by omega,by omega⟩,?_⟩
     refine⟨fun h3=>?_,fun h3=>?_⟩
     ·refine⟨_,_,_,rfl,?_⟩
      refine⟨fun h4=>?_,fun h4=>?_⟩
      ·refine⟨_,_,_,rfl,?_⟩
       refine⟨fun h5=>?_,fun h5=>?_⟩
       ·refine⟨_,_,_,rfl,?_⟩
        refine⟨fun h6=>?_,fun h6=>?_⟩
        ·refine⟨⟨Nat.le_refl _,by omega,by omega⟩,?_⟩
         refine⟨_,?_,kp_,kp_⟩
         have h1b:=(by simpa using h1:(c.replicas.length:Int).tmod 2=1)
         rw[Int.tmod_eq_emod_of_nonneg (by omega)] at h1b
         exact⟨fun q=>⟨by omega,h2,h3,h4,h5,h6,by simpa using q⟩,fun q=>by simpa using q.2.2.2.2.2.2⟩
        ·repeat (first | refine⟨fun _=>?_,fun h=>Bool.noConfusion h⟩ | refine⟨fun h=>Bool.noConfusion h,fun _=>?_⟩ | fail)
         exact⟨false,⟨fun q=>Bool.noConfusion q,fun q=>absurd q.2.2.2.2.2.1 (by rw[h6];decide)⟩,kp_,kp_⟩
       ·repeat (first | refine⟨fun _=>?_,fun h=>Bool.noConfusion h⟩ | refine⟨fun h=>Bool.noConfusion h,fun _=>?_⟩ | fail)
        exact⟨false,⟨fun q=>Bool.noConfusion q,fun q=>absurd q.2.2.2.2.1 (by rw[h5];decide)⟩,kp_,kp_⟩
      ·repeat (first | refine⟨fun _=>?_,fun h=>Bool.noConfusion h⟩ | refine⟨fun h=>Bool.noConfusion h,fun _=>?_⟩ | fail)
       exact⟨false,⟨fun q=>Bool.noConfusion q,fun q=>absurd q.2.2.2.1 (by rw[h4];decide)⟩,kp_,kp_⟩
     ·repeat (first | refine⟨fun _=>?_,fun h=>Bool.noConfusion h⟩ | refine⟨fun h=>Bool.noConfusion h,fun _=>?_⟩ | fail)
      exact⟨false,⟨fun q=>Bool.noConfusion q,fun q=>absurd q.2.2.1 (by rw[h3];decide)⟩,kp_,kp_⟩
    ·repeat (first | refine⟨fun _=>?_,fun h=>Bool.noConfusion h⟩ | refine⟨fun h=>Bool.noConfusion h,fun _=>?_⟩ | fail)
     exact⟨false,⟨fun q=>Bool.noConfusion q,fun q=>absurd q.2.1 (by rw[h2];decide)⟩,kp_,kp_⟩
   ·repeat (first | refine⟨fun _=>?_,fun h=>Bool.noConfusion h⟩ | refine⟨fun h=>Bool.noConfusion h,fun _=>?_⟩ | fail)
    exact⟨false,⟨fun q=>Bool.noConfusion q,fun q=>absurd q.1 (by have h1b:=(by simpa using h1:¬ ((c.replicas.length:Int).tmod 2=1));rw[Int.tmod_eq_emod_of_nonneg (by omega)] at h1b;omega)⟩,kp_,kp_⟩
  ·rintro b hb
   refine⟨⟨by decide,rfl,rfl⟩,?_⟩
   refine⟨Int×Bool,fun q=>match q with | (i,b)=>[(4,.int .i64 i),(3,.bool b)],fun _=>[],fun q=>match q with | (i,b)=>(0≤i∧i≤c.zones.length)∧(b=true↔(G04 c∧ZK4 c i.toNat)),fun q=>match q with | (i,b)=>((c.zones.length:Int)-i).toNat,⟨(0,b),⟨by omega,⟨fun q=>⟨hb.1 q,fun k hk=>absurd hk (by omega)⟩,fun q=>hb.2 q.1⟩⟩,kp_,kp_⟩,?_⟩
   clear hb b
   rintro⟨i,b⟩ ⟨hi,hb⟩
   refine⟨⟨rfl,rfl⟩,?_⟩
   refine⟨fun hlt=>?_,fun hge=>?_⟩
   ·have hlt2:i<(c.zones.length:Int):=of_decide_eq_true hlt
    refine⟨fun hbt=>?_,fun hbt=>?_⟩
    ·refine⟨⟨Nat.le_refl _,by omega,by omega⟩,?_⟩
     refine⟨_,_,_,rfl,?_⟩
     rw[wrapi (n:=c.regions-1) (by omega)]
     refine⟨(_,_),?_,kp_,kp_⟩
     dsimp only
     rw[wrapi (n:=i+1) (by omega)]
     have hs:=all_succ (P:=fun k=>inR (c.zones.getD k 0) 0 (c.regions-1)=true) hi.1
     refine⟨⟨by omega,?_⟩,by omega⟩
     exact⟨fun q=>⟨(hb.1 hbt).1,hs.2 ⟨(hb.1 hbt).2,q⟩⟩,fun q=>(hs.1 q.2).2⟩
    ·refine⟨(_,false),?_,kp_,kp_⟩
     dsimp only
     rw[wrapi (n:=i+1) (by omega)]
     have hs:=all_succ (P:=fun k=>inR (c.zones.getD k 0) 0 (c.regions-1)=true) hi.1
     refine⟨⟨by omega,?_⟩,by omega⟩
     exact⟨fun q=>Bool.noConfusion q,fun q=>absurd (hb.2 ⟨q.1,(hs.1 q.2).1⟩) (by rw[hbt];decide)⟩
   ·have hge2:¬ i<(c.zones.length:Int):=of_decide_eq_false hge
    obtain rfl:i=c.zones.length:=by omega
    rw[Int.toNat_natCast] at hb
    refine⟨Int×Bool,fun q=>match q with | (i,b)=>[(5,.int .i64 i),(3,.bool b)],fun _=>[],fun q=>match q with | (i,b)=>(0≤i∧i≤c.cells.length)∧(b=true↔((G04 c∧ZK4 c c.zones.length)∧CK4 c i.toNat)),fun q=>match q with | (i,b)=>((c.cells.length:Int)-i).toNat,⟨(0,b),⟨by omega,⟨fun q=>⟨hb.1 q,fun k hk=>absurd hk (by omega)⟩,fun q=>hb.2 q.1⟩⟩,kp_,kp_⟩,?_⟩
    clear hb b
    rintro⟨i,b⟩ ⟨hi,hb⟩
    refine⟨⟨rfl,rfl⟩,?_⟩
    refine⟨fun hlt=>?_,fun hge=>?_⟩
    ·have hlt2:i<(c.cells.length:Int):=of_decide_eq_true hlt
     refine⟨fun hbt=>?_,fun hbt=>?_⟩
     ·refine⟨⟨Nat.le_refl _,by omega,by omega⟩,?_⟩
      refine⟨_,_,_,rfl,?_⟩
      rw[wrapi (n:=(c.zones.length:Int)-1) (by omega)]
      refine⟨kp_,?_⟩
      refine⟨fun hc1=>?_,fun hc1=>?_⟩
      ·refine⟨⟨Nat.le_refl _,by omega,by omega⟩,?_⟩
       refine⟨_,_,_,rfl,?_⟩
       refine⟨(_,_),?_,kp_,kp_⟩
       dsimp only
       rw[wrapi (n:=i+1) (by omega)]
       have hs:=all_succ (P:=fun k=>inR (c.cells.getD k (0,0)).1 0 (c.zones.length-1)=true∧inR (c.cells.getD k (0,0)).2 1 4194304=true) hi.1
       refine⟨⟨by omega,?_⟩,by omega⟩
       exact⟨fun q=>⟨(hb.1 hbt).1,hs.2 ⟨(hb.1 hbt).2,hc1,q⟩⟩,fun q=>(hs.1 q.2).2.2⟩
      ·refine⟨(_,false),?_,kp_,kp_⟩
       dsimp only
       rw[wrapi (n:=i+1) (by omega)]
       have hs:=all_succ (P:=fun k=>inR (c.cells.getD k (0,0)).1 0 (c.zones.length-1)=true∧inR (c.cells.getD k (0,0)).2 1 4194304=true) hi.1
       refine⟨⟨by omega,?_⟩,by omega⟩
       exact⟨fun q=>Bool.noConfusion q,fun q=>absurd (hs.1 q.2).2.1 (by rw[hc1];decide)⟩
     ·repeat (first | refine⟨fun _=>?_,fun h=>Bool.noConfusion h⟩ | refine⟨fun h=>Bool.noConfusion h,fun _=>?_⟩ | fail)
      refine⟨(_,false),?_,kp_,kp_⟩
      dsimp only
      rw[wrapi (n:=i+1) (by omega)]
      have hs:=all_succ (P:=fun k=>inR (c.cells.getD k (0,0)).1 0 (c.zones.length-1)=true∧inR (c.cells.getD k (0,0)).2 1 4194304=true) hi.1
      refine⟨⟨by omega,?_⟩,by omega⟩
      exact⟨fun q=>Bool.noConfusion q,fun q=>absurd (hb.2 ⟨q.1,(hs.1 q.2).1⟩) (by rw[hbt];decide)⟩
    ·have hge2:¬ i<(c.cells.length:Int):=of_decide_eq_false hge
     obtain rfl:i=c.cells.length:=by omega
     rw[Int.toNat_natCast] at hb
     refine⟨Int×Bool,fun q=>match q with | (i,b)=>[(6,.int .i64 i),(3,.bool b)],fun _=>[],fun q=>match q with | (i,b)=>(0≤i∧i≤c.versions.length)∧(b=true↔(((G04 c∧ZK4 c c.zones.length)∧CK4 c c.cells.length)∧VK4 c i.toNat)),fun q=>match q with | (i,b)=>((c.versions.length:Int)-i).toNat,⟨(0,b),⟨by omega,⟨fun q=>⟨hb.1 q,fun k hk=>absurd hk (by omega)⟩,fun q=>hb.2 q.1⟩⟩,kp_,kp_⟩,?_⟩
     clear hb b
     rintro⟨i,b⟩ ⟨hi,hb⟩
     refine⟨⟨rfl,rfl⟩,?_⟩
     refine⟨fun hlt=>?_,fun hge=>?_⟩
     ·have hlt2:i<(c.versions.length:Int):=of_decide_eq_true hlt
      refine⟨fun hbt=>?_,fun hbt=>?_⟩
      ·refine⟨⟨Nat.le_refl _,by omega,by omega⟩,?_⟩
       refine⟨⟨Nat.le_refl _,by omega,by omega⟩,?_⟩
       refine⟨_,_,_,rfl,?_⟩
       refine⟨kp_,?_⟩
       refine⟨fun hc1=>?_,fun hc1=>?_⟩
       ·refine⟨⟨Nat.le_refl _,by omega,by omega⟩,?_⟩
        refine⟨(_,_),?_,kp_,kp_⟩
        dsimp only
        rw[wrapi (n:=i+1) (by omega)]
        have hs:=all_succ (P:=fun k=>inR (c.versions.getD k (0,0)).1 0 (c.versions.getD k (0,0)).2=true∧(c.versions.getD k (0,0)).2≤30) hi.1
        refine⟨⟨by omega,?_⟩,by omega⟩
        exact⟨fun q=>⟨(hb.1 hbt).1,hs.2 ⟨(hb.1 hbt).2,hc1,of_decide_eq_true q⟩⟩,fun q=>decide_eq_true (hs.1 q.2).2.2⟩
       ·refine⟨(_,false),?_,kp_,kp_⟩
        dsimp only
        rw[wrapi (n:=i+1) (by omega)]
        have hs:=all_succ (P:=fun k=>inR (c.versions.getD k (0,0)).1 0 (c.versions.getD k (0,0)).2=true∧(c.versions.getD k (0,0)).2≤30) hi.1
        refine⟨⟨by omega,?_⟩,by omega⟩
        exact⟨fun q=>Bool.noConfusion q,fun q=>absurd (hs.1 q.2).2.1 (by rw[hc1];decide)⟩
      ·repeat (first | refine⟨fun _=>?_,fun h=>Bool.noConfusion h⟩ | refine⟨fun h=>Bool.noConfusion h,fun _=>?_⟩ | fail)
       refine⟨(_,false),?_,kp_,kp_⟩
       dsimp only
       rw[wrapi (n:=i+1) (by omega)]
       have hs:=all_succ (P:=fun k=>inR (c.versions.getD k (0,0)).1 0 (c.versions.getD k (0,0)).2=true∧(c.versions.getD k (0,0)).2≤30) hi.1
       refine⟨⟨by omega,?_⟩,by omega⟩
       exact⟨fun q=>Bool.noConfusion q,fun q=>absurd (hb.2 ⟨q.1,(hs.1 q.2).1⟩) (by rw[hbt];decide)⟩
     ·have hge2:¬ i<(c.versions.length:Int):=of_decide_eq_false hge
      obtain rfl:i=c.versions.length:=by omega
      rw[Int.toNat_natCast] at hb
      refine⟨fun hn=>?_,fun hn=>?_⟩
      ·have hbf:¬ (b=true):=by simpa using hn
       exact congrArg (Value.int .i64) (valid4_no hl fun q=>hbf (hb.2 q)).symm
      ·have hbt:b=true:=by simpa using hn
       have q:=hb.1 hbt
       exact congrArg (Value.int .i64) (valid4_yes hl q.1.1.1 q.1.1.2 q.1.2 q.2).symm
theorem valid4_calls (x:CfgA) (c:Cfg) (w:World) (hc:CfgOk w (·<w.heap.size) x c):Calls Tryz.prog 82 #[.agg (cfgC x c)] w fun e w'=>e=.returned (.int .i64 (topoErr c))∧Below w.heap.size w w':=by
 have:=uni_calls ttAok v4Fok Tryz.func82 rfl (D:=v4D) (by kernel_rfl) (vs:=[cfgV CNu (ck x) c]) rfl { x:=x } { c:=c } w { c:=hc } (fun v hv=>by
  simp only[List.mem_cons,List.not_mem_nil,or_false] at hv
  subst hv
  exact upl_cfg_ok { x:=x } { c:=c }) (valid4_sx (ck x) c)
 rw[List.map_cons,upl_cfg { x:=x } { c:=c }] at this
 refine this.mono ?_
 rintro e w' ⟨v,mem',nx',ρ',rfl,rfl,hv,hm',hb⟩
 exact⟨rfl,hb⟩
def ctV4:CT:=fun vs mem nx K=>∃ N x c,vs=[cfgV N x c]∧HasCfg mem N c∧K (.int .i64 (topoErr c)) mem nx
theorem v4Ok:CSound Tryz.prog 82 ctV4:=⟨by kernel_rfl,fun {C ρ fr mem nx a w vs K} hc hs hv=>by
 obtain⟨N,x,c,rfl,hk,hK⟩:=hc
 rw[List.map_cons,den_cfg]
 refine (valid4_calls (cfgX ρ N x) c w (hs.cfgH hk)).mono ?_
 rintro e w' ⟨rfl,hb⟩
 exact⟨_,mem,nx,ρ,rfl,hK,hs.later hb,trivial,ExtS.refl _ _⟩⟩
/-! ref05.declared,ref05.Valid -/
def ttV:TT:=[(101,tiU)]++ttA
theorem ttVok:TTok Tryz.prog ttV:=by
 refine tt_mem _ _ ?_
 unfold ttV ttA tt
 repeat (refine tt_cons ⟨by kernel_rfl,by kernel_rfl,plains (by rfl),by kernel_rfl,by kernel_rfl,by kernel_rfl⟩ ?_)
 exact tt_nil
set_option maxRecDepth 100000 in
set_option maxHeartbeats 8000000 in
theorem declared_sx (x:CfgK) (c:Cfg) (t:Ten) (hr:1≤c.regions∧c.regions≤4) :
  sx ttV [] [] (bodyOf Tryz.f83) (argF 0 [cfgV CNu x c,.agg (tenC t).toArray]) (uniM { c:=c }) 13 (endx ttV Tryz.f83.results.toList fun v _ _=>v=.bool (tenOk c.regions t)):=by
 obtain⟨rg,zs,cs,ts,vs,rs,os,bl,le,ba⟩:=c
 dsimp only at hr ⊢
 obtain rfl | rfl | rfl | rfl:rg=1∨rg=2∨rg=3∨rg=4:=by omega
 ·have e1:IntKind.i64.wrap (1 * 2 ^ min (IntKind.u64.wrap 1).toNat IntKind.i64.bits)=2:=by decide
  repeat' (first | refine⟨fun _=>?_,fun h=>Bool.noConfusion h⟩ | refine⟨fun h=>Bool.noConfusion h,fun _=>?_⟩ | refine⟨fun _=>?_,fun _=>?_⟩ | refine⟨by rw[wrapu64];exact Int.emod_nonneg _ (by decide),?_⟩ | fail)
  all_goals (refine congrArg Value.bool ?_;unfold tenOk inR shl1;simp_all;try omega)
 ·have e1:IntKind.i64.wrap (1 * 2 ^ min (IntKind.u64.wrap 2).toNat IntKind.i64.bits)=4:=by decide
  repeat' (first | refine⟨fun _=>?_,fun h=>Bool.noConfusion h⟩ | refine⟨fun h=>Bool.noConfusion h,fun _=>?_⟩ | refine⟨fun _=>?_,fun _=>?_⟩ | refine⟨by rw[wrapu64];exact Int.emod_nonneg _ (by decide),?_⟩ | fail)
  all_goals (refine congrArg Value.bool ?_;unfold tenOk inR shl1;simp_all;try omega)
 ·have e1:IntKind.i64.wrap (1 * 2 ^ min (IntKind.u64.wrap 3).toNat IntKind.i64.bits)=8:=by decide
  repeat' (first | refine⟨fun _=>?_,fun h=>Bool.noConfusion h⟩ | refine⟨fun h=>Bool.noConfusion h,fun _=>?_⟩ | refine⟨fun _=>?_,fun _=>?_⟩ | refine⟨by rw[wrapu64];exact Int.emod_nonneg _ (by decide),?_⟩ | fail)
  all_goals (refine congrArg Value.bool ?_;unfold tenOk inR shl1;simp_all;try omega)
 ·have e1:IntKind.i64.wrap (1 * 2 ^ min (IntKind.u64.wrap 4).toNat IntKind.i64.bits)=16:=by decide
  repeat' (first | refine⟨fun _=>?_,fun h=>Bool.noConfusion h⟩ | refine⟨fun h=>Bool.noConfusion h,fun _=>?_⟩ | refine⟨fun _=>?_,fun _=>?_⟩ | refine⟨by rw[wrapu64];exact Int.emod_nonneg _ (by decide),?_⟩ | fail)
  all_goals (refine congrArg Value.bool ?_;unfold tenOk inR shl1;simp_all;try omega)
theorem declared_calls (x:CfgA) (c:Cfg) (t:Ten) (w:World) (hr:1≤c.regions∧c.regions≤4) (hc:CfgOk w (·<w.heap.size) x c):Calls Tryz.prog 83 #[.agg (cfgC x c),.agg (tenC t).toArray] w fun e w'=>e=.returned (.bool (tenOk c.regions t))∧Below w.heap.size w w':=by
 have:=uni_calls ttVok fti_nil Tryz.func83 rfl (D:=[]) (by kernel_rfl) (vs:=[cfgV CNu (ck x) c,.agg (tenC t).toArray]) rfl { x:=x } { c:=c } w { c:=hc } (fun v hv=>by
  simp only[List.mem_cons,List.not_mem_nil,or_false] at hv
  rcases hv with rfl | rfl
  ·exact upl_cfg_ok { x:=x } { c:=c }
  ·intro u hu
   simp[tenC] at hu
   rcases hu with rfl | rfl | rfl | rfl | rfl | rfl | rfl<;>trivial) (declared_sx (ck x) c t hr)
 have e0:den (upl { x:=x } { c:=c }) (.agg (tenC t).toArray)=.agg (tenC t).toArray:=by simp[den,den2,den1,tenC]
 rw[List.map_cons,upl_cfg { x:=x } { c:=c },List.map_cons,e0] at this
 refine this.mono ?_
 rintro e w' ⟨v,mem',nx',ρ',rfl,rfl,hv,hm',hb⟩
 exact⟨rfl,hb⟩
def ctDecl:CT:=fun vs mem nx K=>∃ N x c t,vs=[cfgV N x c,.agg (tenC t).toArray]∧HasCfg mem N c∧(1≤c.regions∧c.regions≤4)∧K (.bool (tenOk c.regions t)) mem nx
theorem declOk:CSound Tryz.prog 83 ctDecl:=⟨by kernel_rfl,fun {C ρ fr mem nx a w vs K} hc hs hv=>by
 obtain⟨N,x,c,t,rfl,hk,hr,hK⟩:=hc
 have e0:den ρ (.agg (tenC t).toArray)=.agg (tenC t).toArray:=by simp[den,den2,den1,tenC]
 rw[List.map_cons,den_cfg,List.map_cons,e0]
 refine (declared_calls (cfgX ρ N x) c t w hr (hs.cfgH hk)).mono ?_
 rintro e w' ⟨rfl,hb⟩
 exact⟨_,mem,nx,ρ,rfl,hK,hs.later hb,trivial,ExtS.refl _ _⟩⟩
def v5F:FT:=[(82,ctV4),(83,ctDecl)]
def v5D:List (Nat×DQ):=[(2000005,{ k:=0,L:=[0,1,2,3,4,5,6,7,8,9,10,11,12,13],sl:=[1] }),(7,{ k:=6,L:=[0,1,2,3,4,5,6,7,8,9,10,11,12,13],pre:=[(0,false),(1,false),(2,false),(3,false),(4,false),(5,false)] })]
theorem v5Fok:FTokI Tryz.prog v5F (inlOf v5D):=fti_cons (v4Ok.i _) (fti_cons (declOk.i _) fti_nil)
set_option maxRecDepth 100000 in
set_option maxHeartbeats 4000000 in
theorem valid5_sx (x:CfgK) (c:Cfg) (hL:Lens c) :
  sx ttA v5F v5D (bodyOf Tryz.f48) (argF 0 [cfgV CNu x c]) (uniM { c:=c }) 13 (endx ttA Tryz.f48.results.toList fun v _ _=>v=.int .i64 (cfgErr c)):=by
 have hmax:=hL.2.2.1
 unfold maxLen at hmax
 refine⟨CNu,x,c,rfl,HasCfg.keeps kp_,?_⟩
 refine⟨fun hne=>?_,fun heq=>?_⟩
 ·have hne2:topoErr c≠0:=by simpa using hne
  rw[show cfgErr c=topoErr c from if_pos hne2]
  rfl
 ·have heq2:topoErr c=0:=by simpa using heq
  have hreg:=reg_of heq2
  have hce:cfgErr c=if c.tenants.all (tenOk c.regions) then 0 else 1:=if_neg (by simpa using heq2)
  refine⟨Int,fun i=>[(4,.int .i64 i)],fun _=>[],fun i=>(0≤i∧i≤c.tenants.length)∧∀ k,k<i.toNat→tenOk c.regions (c.tenants.getD k default)=true,fun i=>((c.tenants.length:Int)-i).toNat,⟨0,⟨by omega,fun k hk=>absurd hk (by omega)⟩,kp_,kp_⟩,?_⟩
  rintro i ⟨hi,hall⟩
  refine⟨⟨rfl,rfl⟩,?_⟩
  refine⟨fun hlt=>?_,fun hge=>?_⟩
  ·have hlt2:i<(c.tenants.length:Int):=of_decide_eq_true hlt
   refine⟨⟨Nat.le_refl _,hi.1,hlt2⟩,?_⟩
   refine⟨CNu,x,c,(c.tenants.getD i.toNat default),rfl,HasCfg.keeps kp_,hreg,?_⟩
   refine⟨fun hb=>?_,fun hb=>?_⟩
   ·have hb2:tenOk c.regions (c.tenants.getD i.toNat default)=false:=by simpa using hb
    have hf:c.tenants.all (tenOk c.regions)=false:=by
     rw[List.all_eq_false]
     refine⟨(c.tenants.getD i.toNat default),?_,by rw[hb2];decide⟩
     rw[List.getD_eq_getElem?_getD,List.getElem?_eq_getElem (by omega)]
     exact List.getElem_mem _
    rw[hce,hf]
    rfl
   ·have hb2:tenOk c.regions (c.tenants.getD i.toNat default)=true:=by simpa using hb
    refine⟨_,?_,kp_,kp_⟩
    rw[wrapi (n:=i+1) (by omega)]
    dsimp only
    refine⟨⟨by omega,fun k hk=>?_⟩,by omega⟩
    by_cases hki:k<i.toNat
    ·exact hall k hki
    ·obtain rfl:k=i.toNat:=by omega
     exact hb2
  ·have hge2:¬ i<(c.tenants.length:Int):=of_decide_eq_false hge
   have ht:c.tenants.all (tenOk c.regions)=true:=by
    rw[List.all_eq_true]
    intro t ht
    obtain⟨k,hk,rfl⟩:=List.getElem_of_mem ht
    have:=hall k (by omega)
    rwa[List.getD_eq_getElem?_getD,List.getElem?_eq_getElem hk] at this
   rw[hce,ht]
   rfl
theorem valid5_calls (x:CfgA) (c:Cfg) (w:World) (hL:Lens c) (hc:CfgOk w (·<w.heap.size) x c):Calls Tryz.prog 48 #[.agg (cfgC x c)] w fun e w'=>e=.returned (.int .i64 (cfgErr c))∧Below w.heap.size w w':=by
 have:=uni_calls ttAok v5Fok Tryz.func48 rfl (D:=v5D) (by kernel_rfl) (vs:=[cfgV CNu (ck x) c]) rfl { x:=x } { c:=c } w { c:=hc } (fun v hv=>by
  simp only[List.mem_cons,List.not_mem_nil,or_false] at hv
  subst hv
  exact upl_cfg_ok { x:=x } { c:=c }) (valid5_sx (ck x) c hL)
 rw[List.map_cons,upl_cfg { x:=x } { c:=c }] at this
 refine this.mono ?_
 rintro e w' ⟨v,mem',nx',ρ',rfl,rfl,hv,hm',hb⟩
 exact⟨rfl,hb⟩
def ctV5:CT:=fun vs mem nx K=>∃ N x c,vs=[cfgV N x c]∧HasCfg mem N c∧Lens c∧K (.int .i64 (cfgErr c)) mem nx
theorem v5Ok:CSound Tryz.prog 48 ctV5:=⟨by kernel_rfl,fun {C ρ fr mem nx a w vs K} hc hs hv=>by
 obtain⟨N,x,c,rfl,hk,hL,hK⟩:=hc
 rw[List.map_cons,den_cfg]
 refine (valid5_calls (cfgX ρ N x) c w hL (hs.cfgH hk)).mono ?_
 rintro e w' ⟨rfl,hb⟩
 exact⟨_,mem,nx,ρ,rfl,hK,hs.later hb,trivial,ExtS.refl _ _⟩⟩
/-! ref15.Valid -/
abbrev sgE:List (Nat×DQ):=[(1,{ k:=5,L:=[0,1,2,3,4,5,6,7,8,9,10,11,12,13,14,15,16,17,18,19,20,21,22,23,24,25,26,27,28,29,30,31,32,33,34,35,36,37,38,39,40],pre:=[(0,false),(1,false),(2,false),(3,false),(4,true)] })]
def vaRF:FT:=[(48,ctV5),(59,ctInl ttA sgF sgE Tryz.f59 (bodyOf Tryz.f59))]
def vaRD:List (Nat×DQ):=[(9000000,{ k:=0,L:=[59] }),(2000004,{ k:=0,L:=[0,1,2,3,4,5,6,7,8,9,10,11,12],sl:=[2,3,4] }),(9,{ k:=6,L:=[0,1,2,3,4,5,6,7,8,9,10,11,12],pre:=[(0,false),(1,false),(4,false),(5,false),(2,true),(3,false)] })]
theorem vaRFok:FTokI Tryz.prog vaRF (inlOf vaRD):=fti_cons (v5Ok.i _) (fti_cons (inl_ok ttAok (fti_cons (bodyROk.i _) (fti_cons (chainROk.i _) fti_nil)) mixed (by kernel_rfl) Tryz.func59 rfl (by kernel_rfl) (by decide)) fti_nil)
set_option maxRecDepth 100000 in
set_option maxHeartbeats 4000000 in
theorem validR_sx (cap:Nat) (x:CfgK) (c:Cfg) (a:Atl) (key:Int) (hL:Lens c) :
  sx ttA vaRF vaRD (bodyOf Tryz.f88) (argF 0 [cfgV CN1 x c,atlV a (slc 10 a.routes.length cap),.int .i64 key]) (xM pairC 2 (0,0) a.routes c) 11 (endx ttA Tryz.f88.results.toList fun v _ _=>∃ b,v=.bool b∧(b=true↔ValidA c a key)):=by
 refine⟨CN1,x,c,rfl,HasCfg.keeps kp_,hL,?_⟩
 refine⟨fun h1=>?_,fun h1=>?_⟩
 ·repeat (first | refine⟨fun _=>?_,fun h=>Bool.noConfusion h⟩ | refine⟨fun h=>Bool.noConfusion h,fun _=>?_⟩ | fail)
  exact⟨false,rfl,fun q=>Bool.noConfusion q,fun q=>absurd q.cfg (by simpa using h1)⟩
 ·replace h1:cfgErr c=0:=by simpa using h1
  refine⟨fun n1=>?_,fun n1=>?_⟩
  ·repeat (first | refine⟨fun _=>?_,fun h=>Bool.noConfusion h⟩ | refine⟨fun h=>Bool.noConfusion h,fun _=>?_⟩ | fail)
   exact⟨false,rfl,fun q=>Bool.noConfusion q,fun q=>absurd q.n (fun q=>by have:=of_decide_eq_true n1;omega)⟩
  ·have n1b:=of_decide_eq_false n1
   refine⟨fun n2=>?_,fun n2=>?_⟩
   ·repeat (first | refine⟨fun _=>?_,fun h=>Bool.noConfusion h⟩ | refine⟨fun h=>Bool.noConfusion h,fun _=>?_⟩ | fail)
    exact⟨false,rfl,fun q=>Bool.noConfusion q,fun q=>absurd q.n (fun q=>by have:=of_decide_eq_true n2;omega)⟩
   ·have n2b:=of_decide_eq_false n2
    refine⟨fun t1=>?_,fun t1=>?_⟩
    ·repeat (first | refine⟨fun _=>?_,fun h=>Bool.noConfusion h⟩ | refine⟨fun h=>Bool.noConfusion h,fun _=>?_⟩ | fail)
     exact⟨false,rfl,fun q=>Bool.noConfusion q,fun q=>absurd q.t (fun q=>by have:=of_decide_eq_true t1;omega)⟩
    ·have t1b:=of_decide_eq_false t1
     refine⟨fun t2=>?_,fun t2=>?_⟩
     ·repeat (first | refine⟨fun _=>?_,fun h=>Bool.noConfusion h⟩ | refine⟨fun h=>Bool.noConfusion h,fun _=>?_⟩ | fail)
      exact⟨false,rfl,fun q=>Bool.noConfusion q,fun q=>absurd q.t (fun q=>by have:=of_decide_eq_true t2;omega)⟩
     ·have t2b:=of_decide_eq_false t2
      refine⟨fun h2=>?_,fun h2=>?_⟩
      ·exact⟨false,rfl,fun q=>Bool.noConfusion q,fun q=>absurd q.len (by have q2:¬ (a.routes.length:Int)=c.tenants.length:=(by simpa using h2);omega)⟩
      ·replace h2:a.routes.length=c.tenants.length:=by have q2:(a.routes.length:Int)=c.tenants.length:=(by simpa using h2);omega
       have hcl:=cfg_lims h1
       refine⟨Int,fun i=>[(7,.int .i64 i)],fun _=>[],fun i=>(0≤i∧i≤a.routes.length)∧∀ k,k<i.toNat→RouteOk c (a.routes.getD k (0,0)),fun i=>((a.routes.length:Int)-i).toNat,⟨0,⟨by omega,fun k hk=>absurd hk (by omega)⟩,kp_,kp_⟩,?_⟩
       rintro i ⟨hi,hall⟩
       refine⟨⟨rfl,rfl⟩,?_⟩
       refine⟨fun hlt=>?_,fun hge=>?_⟩
       ·have hlt2:i<(a.routes.length:Int):=of_decide_eq_true hlt
        refine⟨⟨Nat.le_refl _,hi.1,hlt2⟩,?_⟩
        refine⟨fun g1=>?_,fun g1=>?_⟩
        ·repeat (first | refine⟨fun _=>?_,fun h=>Bool.noConfusion h⟩ | refine⟨fun h=>Bool.noConfusion h,fun _=>?_⟩ | fail)
         exact⟨false,rfl,fun q=>Bool.noConfusion q,fun q=>absurd q.r (fun q=>by have q2:=q i.toNat (by omega);unfold RouteOk at q2;have:=of_decide_eq_true g1;omega)⟩
        ·have g1b:=of_decide_eq_false g1
         refine⟨fun g2=>?_,fun g2=>?_⟩
         ·repeat (first | refine⟨fun _=>?_,fun h=>Bool.noConfusion h⟩ | refine⟨fun h=>Bool.noConfusion h,fun _=>?_⟩ | fail)
          exact⟨false,rfl,fun q=>Bool.noConfusion q,fun q=>absurd q.r (fun q=>by have q2:=q i.toNat (by omega);unfold RouteOk at q2;have:=of_decide_eq_true g2;omega)⟩
         ·have g2b:=of_decide_eq_false g2
          refine⟨fun g3=>?_,fun g3=>?_⟩
          ·repeat (first | refine⟨fun _=>?_,fun h=>Bool.noConfusion h⟩ | refine⟨fun h=>Bool.noConfusion h,fun _=>?_⟩ | fail)
           exact⟨false,rfl,fun q=>Bool.noConfusion q,fun q=>absurd q.r (fun q=>by have q2:=q i.toNat (by omega);unfold RouteOk at q2;have:=of_decide_eq_true g3;omega)⟩
          ·have g3b:=of_decide_eq_false g3
           refine⟨fun g4=>?_,fun g4=>?_⟩
           ·exact⟨false,rfl,fun q=>Bool.noConfusion q,fun q=>absurd q.r (fun q=>by have q2:=q i.toNat (by omega);unfold RouteOk at q2;have:=of_decide_eq_true g4;omega)⟩
           ·have g4b:=of_decide_eq_false g4
            have hok:RouteOk c (a.routes.getD i.toNat (0,0)):=by unfold RouteOk;omega
            refine⟨_,?_,kp_,kp_⟩
            rw[wrapi (n:=i+1) (by omega)]
            dsimp only
            refine⟨⟨by omega,fun k hk=>?_⟩,by omega⟩
            by_cases hki:k<i.toNat
            ·exact hall k hki
            ·obtain rfl:k=i.toNat:=by omega
             exact hok
       ·have hge2:¬ i<(a.routes.length:Int):=of_decide_eq_false hge
        have hr:∀ k,k<a.routes.length→RouteOk c (a.routes.getD k (0,0)):=fun k hk=>hall k (by omega)
        have hin:=atlIn_of h1 h2 ⟨by omega,by omega⟩ ⟨by omega,by omega⟩ hr
        have hbl:=body_len hin
        refine⟨a,_,rfl,.inr (.inl ⟨10,_,rfl,.list rfl⟩),hin,fun cp=>?_⟩
        refine⟨kp_,?_⟩
        refine⟨_,_,key,a.parent,rfl,.inr (.inl ⟨_,cp,rfl,.list rfl⟩),by omega,?_⟩
        refine⟨kp_,?_⟩
        refine⟨_,rfl,fun q=>⟨h1,h2,⟨by omega,by omega⟩,⟨by omega,by omega⟩,hr,by have q2:=q;simp at q2;exact q2.symm⟩,fun q=>?_⟩
        have:=q.sum
        simp[← this]
theorem validR_calls (x:CfgA) (c:Cfg) (A:Option Addr) (cap:Nat) (a:Atl) (key:Int) (w:World) (hL:Lens c) (hr:Rd w (·<w.heap.size) A (flat pairC a.routes)) (hc:CfgOk w (·<w.heap.size) x c):Calls Tryz.prog 88 #[.agg (cfgC x c),.agg #[.int .i64 a.number,.int .i64 a.tick,.slice A a.routes.length cap,.int .u64 a.parent,.int .u64 a.sum],.int .i64 key] w fun e w'=>∃ b,(b=true↔ValidA c a key)∧e=.returned (.bool b)∧Below w.heap.size w w':=by
 have:=rowc_calls (enc:=pairC) (sz:=2) (fun _=>rfl) (by omega) pairC_plain (0,0) ttAok vaRFok Tryz.func88 rfl (D:=vaRD) (by kernel_rfl) (vs:=[cfgV CN1 (ck x) c,atlV a (slc 10 a.routes.length cap),.int .i64 key]) rfl A a.routes x c w hr hc (fun v hv=>by
  simp only[List.mem_cons,List.not_mem_nil,or_false] at hv
  rcases hv with rfl | rfl | rfl
  ·intro u hu
   simp at hu
   rcases hu with rfl | rfl | rfl | rfl | rfl | rfl | rfl | rfl | rfl | rfl<;>first | trivial | exact⟨by decide,rfl⟩
  ·intro u hu
   simp at hu
   rcases hu with rfl | rfl | rfl | rfl | rfl<;>first | trivial | exact⟨by decide,rfl⟩
  ·trivial) (validR_sx cap (ck x) c a key hL)
 have e1:den (xpl A 2 a.routes.length x c) (cfgV CN1 (ck x) c)=.agg (cfgC x c):=by rw[den_cfg];rfl
 have e2:den (xpl A 2 a.routes.length x c) (atlV a (slc 10 a.routes.length cap))=.agg #[.int .i64 a.number,.int .i64 a.tick,.slice A a.routes.length cap,.int .u64 a.parent,.int .u64 a.sum]:=by simp[den,den2,den1,dA_whole,dS_whole,xpl]
 rw[List.map_cons,List.map_cons,e1,e2] at this
 refine this.mono ?_
 rintro e w' ⟨v,mem',nx',ρ',rfl,⟨b,rfl,hb2⟩,hv,hm',hb⟩
 exact⟨b,hb2,rfl,hb⟩
def ctValidGR:CT:=fun vs mem nx K=>∃ cv c a v key,vs=[cv,atlV a v,.int .i64 key]∧(CfgSrc mem cv c∧SrcR mem 2 pairC (0,0) a.routes v)∧Lens c∧∀ b,(b=true↔ValidA c a key)→K (.bool b) mem nx
theorem validGROk:CSound Tryz.prog 88 ctValidGR:=⟨by kernel_rfl,fun {C ρ fr mem nx q w vs K} hc hs hv=>by
 obtain⟨cv,c,a,v,key,rfl,⟨hk,hsrc⟩,hL,hK⟩:=hc
 obtain⟨A,cap,e0,hr⟩:=hs.srcR (enc:=pairC) (sz:=2) (fun _=>rfl) (by omega) hsrc
 obtain⟨x,ex,hx⟩:=hs.cfgSrc hk
 have e1:([cv,atlV a v,.int .i64 key].map (den ρ)).toArray=#[.agg (cfgC x c),.agg #[.int .i64 a.number,.int .i64 a.tick,.slice A a.routes.length cap,.int .u64 a.parent,.int .u64 a.sum],.int .i64 key]:=by
  rw[List.map_cons,ex]
  obtain⟨A',cp,rfl⟩:=hsrc.slice
  have dI:∀ k n,den1 ρ (.int k n)=.int k n:=fun _ _=>rfl
  simp only[List.map_cons,List.map_nil,atlV,den,den2]
  simp[dI,den1_slice e0]
 rw[e1]
 refine (validR_calls x c A cap a key w hL hr hx).mono ?_
 rintro e w' ⟨b,hb2,rfl,hb⟩
 exact⟨_,mem,nx,ρ,rfl,hK b hb2,hs.later hb,trivial,ExtS.refl _ _⟩⟩
def ctV5G:CT:=fun vs mem nx K=>∃ cv c,vs=[cv]∧CfgSrc mem cv c∧Lens c∧K (.int .i64 (cfgErr c)) mem nx
theorem v5GOk:CSound Tryz.prog 48 ctV5G:=⟨by kernel_rfl,fun {C ρ fr mem nx q w vs K} hc hs hv=>by
 obtain⟨cv,c,rfl,hk,hL,hK⟩:=hc
 obtain⟨x,ex,hx⟩:=hs.cfgSrc hk
 have e1:([cv].map (den ρ)).toArray=#[.agg (cfgC x c)]:=by rw[List.map_cons,ex];rfl
 rw[e1]
 refine (valid5_calls x c w hL hx).mono ?_
 rintro e w' ⟨rfl,hb⟩
 exact⟨_,mem,nx,ρ,rfl,hK,hs.later hb,trivial,ExtS.refl _ _⟩⟩
/-! ref15.Signed,by contract. -/
abbrev sgW:List (Nat×DQ):=[(1,{ k:=5,L:=[0,1,2,3,4,5,6,7,8,9,10,11,12,13,14,15,16,17,18,19,20,21,22,23,24,25,26,27,28,29,30,31,32,33,34,35,36,37,38,39,40,41,42,43,44,45,46,47,48,49,50,51,52,53,54,55,56,57,58,59,60],pre:=[(0,false),(1,false),(2,false),(3,false),(4,true)] })]
def signA (a:Atl) (key:Int):Atl:={ a with sum:=chainI key a.parent (bodyI a) }
set_option maxRecDepth 100000 in
set_option maxHeartbeats 4000000 in
theorem signed_sx (cap:Nat) (a:Atl) (key:Int) (ha:AtlIn a) :
  sx ttA sgF sgW (bodyOf Tryz.f59) (argF 0 [atlV a (slc 0 a.routes.length cap),.int .i64 key]) [(0,rowOfL 3 2 pairC (0,0) a.routes)] 1 (endx ttA Tryz.f59.results.toList fun v _ _=>v=atlV (signA a key) (slc 0 a.routes.length cap)):=by
 have hl:=body_len ha
 have hl2:=ha.len
 refine⟨a,_,rfl,.inr (.inl ⟨0,_,rfl,.list rfl⟩),ha,fun cp=>?_⟩
 refine⟨kp_,?_⟩
 refine⟨_,_,key,a.parent,rfl,.inr (.inl ⟨_,cp,rfl,.list rfl⟩),by omega,?_⟩
 rfl
theorem signed_calls (A:Option Addr) (cap:Nat) (a:Atl) (key:Int) (w:World) (ha:AtlIn a) (hr:Rd w (·<w.heap.size) A (flat pairC a.routes)):Calls Tryz.prog 59 #[.agg #[.int .i64 a.number,.int .i64 a.tick,.slice A a.routes.length cap,.int .u64 a.parent,.int .u64 a.sum],.int .i64 key] w fun e w'=>e=.returned (.agg #[.int .i64 a.number,.int .i64 a.tick,.slice A a.routes.length cap,.int .u64 a.parent,.int .u64 (signA a key).sum])∧Below w.heap.size w w':=by
 have:=row1_calls (enc:=pairC) (sz:=2) (fun _=>rfl) (by omega) pairC_plain (0,0) ttAok sgFok Tryz.func59 rfl (D:=sgW) (by kernel_rfl) (vs:=[atlV a (slc 0 a.routes.length cap),.int .i64 key]) rfl A a.routes w hr (fun v hv=>by
  simp only[List.mem_cons,List.not_mem_nil,or_false] at hv
  rcases hv with rfl | rfl
  ·intro u hu
   simp at hu
   rcases hu with rfl | rfl | rfl | rfl | rfl<;>first | trivial | exact⟨Nat.zero_lt_one,rfl⟩
  ·trivial) (signed_sx cap a key ha)
 have e0:([atlV a (slc 0 a.routes.length cap),.int .i64 key].map (den fun _=>⟨A,2,a.routes.length,false,noSub⟩)).toArray=#[.agg #[.int .i64 a.number,.int .i64 a.tick,.slice A a.routes.length cap,.int .u64 a.parent,.int .u64 a.sum],.int .i64 key]:=by simp[den,den2,den1,dA_whole,dS_whole]
 rw[e0] at this
 refine this.mono ?_
 rintro e w' ⟨v,mem',nx',ρ',rfl,rfl,hv,hm',hb⟩
 refine⟨?_,hb⟩
 have e1:(ρ' 0).A=A:=by rw[hm'.low 0 (Nat.zero_lt_one)]
 simp[den,den2,den1,dA_whole,dS_whole,e1,signA]
def ctSigned:CT:=fun vs mem nx K=>∃ a v key,vs=[atlV a v,.int .i64 key]∧SrcR mem 2 pairC (0,0) a.routes v∧AtlIn a∧K (atlV (signA a key) v) mem nx
theorem signedOk:CSound Tryz.prog 59 ctSigned:=⟨by kernel_rfl,fun {C ρ fr mem nx q w vs K} hc hs hv=>by
 obtain⟨a,v,key,rfl,hsrc,ha,hK⟩:=hc
 obtain⟨A,cap,e0,hr⟩:=hs.srcR (enc:=pairC) (sz:=2) (fun _=>rfl) (by omega) hsrc
 have hv0:=hv (atlV a v) (List.mem_cons_self ..)
 obtain⟨A',cp,rfl⟩:=hsrc.slice
 have dI:∀ k n,den1 ρ (.int k n)=.int k n:=fun _ _=>rfl
 have e1:([atlV a (.slice A' a.routes.length cp),.int .i64 key].map (den ρ)).toArray=#[.agg #[.int .i64 a.number,.int .i64 a.tick,.slice A a.routes.length cap,.int .u64 a.parent,.int .u64 a.sum],.int .i64 key]:=by
  simp only[List.map_cons,List.map_nil,atlV,den,den2]
  simp[dI,den1_slice e0]
 rw[e1]
 refine (signed_calls A cap a key w ha hr).mono ?_
 rintro e w' ⟨rfl,hb⟩
 refine⟨_,mem,nx,ρ,?_,hK,hs.later hb,?_,ExtS.refl _ _⟩
 ·simp only[atlV,den,den2]
  simp[dI,den1_slice e0,signA]
 ·intro u hu
  simp at hu
  rcases hu with rfl | rfl | rfl | rfl | rfl<;>first | trivial | exact hv0 _ (by simp)⟩
theorem mkLight_below (A:Option Addr) (n cp:Nat) (w:World) (hn:n≤maxLen):Calls Tryz.prog 8 #[.slice A n cp] w fun r w'=>r=.returned (.bool (decide (n≤200)))∧Below w.heap.size w w':=by
 refine (mkLight_any A n cp w hn).mono ?_
 rintro e w' ⟨h,rfl⟩
 exact⟨h,Below.refl _ _⟩
def ctLight:CT:=fun vs mem nx K=>∃ Mz0 xz0 z0,vs=[slc Mz0 (z0:List Int).length xz0]∧(lk mem Mz0=some (intRow z0))∧(z0.length≤maxLen)∧K (.bool (decide (z0.length≤200))) mem nx
theorem lightOk:CSound Tryz.prog 8 ctLight:=(ptsOk (R:=fun l z=>∃ z0,l=[.li z0]∧z=.bool (decide (z0.length≤200))) (pre:=fun l=>∃ z0,l=[.li z0]∧(z0.length≤maxLen)) (by kernel_rfl) (by
 rintro ps w ⟨z0,hps,hpre⟩ hok
 obtain⟨xz0,yz0,ps0,rfl,hps0⟩:=dt_l hps
 obtain rfl:=dt_nil hps0
 have hpz0:=hok (.li xz0 yz0 z0) (by simp)
 refine (mkLight_below xz0 z0.length yz0 w hpre).mono ?_
 rintro e w' ⟨rfl,hb⟩
 exact⟨_,⟨z0,rfl,rfl⟩,trivial,rfl,hb⟩)).mono (by
 rintro vs mem nx K ⟨Mz0,xz0,z0,rfl,hk,hpre,hK⟩
 exact⟨[.li Mz0 xz0 z0],rfl,⟨hk,trivial⟩,⟨_,rfl,hpre⟩,by rintro z ⟨z0',hl,hz⟩;cases hl;subst hz;exact hK⟩)
/-! The router beside its reference: types,hints,functions by inlining. -/
def ttP:TT:=[(116,tiRec [zi,zs0,zs0,zs0,zs0,zs0,zs0,zi,zi,zi,zi,zb,zi,zi,zs0,.int .u64 0,.int .u64 0,zs0] [0,10,11,12,17] [10,1,1,5,1] [2,1,1,2,1]),(37,{ size:=1,agg:=false,zero:=[.pointer none],isP:=true })]++ttS
theorem ttPok:TTok Tryz.prog ttP:=by
 refine tt_mem _ _ ?_
 unfold ttP ttS ttR ttL ttA tt
 repeat (refine tt_cons ⟨by kernel_rfl,by kernel_rfl,plains (by rfl),by kernel_rfl,by kernel_rfl,by kernel_rfl⟩ ?_)
 exact tt_nil
abbrev HF:=Nat→Int×Int
def hmOf (nt:Nat) (hf:HF):Int→Option (Int×Int):=fun z=>if 0≤z∧z<nt then (if (hf z.toNat).2=0 then none else some (hf z.toNat)) else none
def dlF (rs:List (Int×Int)) (hf:HF) (n:Nat):HF:=fun k=>if k<n∧(hf k).2≤(rs.getD k (0,0)).2 then (0,0) else hf k
def stF (hf:HF) (t:Nat) (p:Int×Int):HF:=fun k=>if k=t then p else hf k
theorem hmOf_in {nt:Nat} {hf:HF} {z:Int} (h:0≤z∧z<nt) (he:(hf z.toNat).2≠0):hmOf nt hf z=some (hf z.toNat):=by
 unfold hmOf
 rw[if_pos h,if_neg he]
theorem hmOf_no {nt:Nat} {hf:HF} {z:Int} (h:0≤z∧z<nt) (he:(hf z.toNat).2=0):hmOf nt hf z=none:=by
 unfold hmOf
 rw[if_pos h,if_pos he]
theorem hmOf_out {nt:Nat} {hf:HF} {z:Int} (h:¬ (0≤z∧z<nt)):hmOf nt hf z=none:=by
 unfold hmOf
 rw[if_neg h]
theorem hmOf_key {nt:Nat} {hf:HF} {z:Int} {p:Int×Int} (h:hmOf nt hf z=some p):0≤z∧z<nt:=by
 by_cases q:0≤z∧z<nt
 ·exact q
 ·rw[hmOf_out q] at h;cases h
theorem hmOf_new (nt:Nat):hmOf nt (fun _=>(0,0))=fun _=>none:=by
 funext z
 by_cases q:0≤z∧z<nt
 ·rw[hmOf_no q rfl]
 ·rw[hmOf_out q]
theorem hmOf_del {nt:Nat} {hf:HF} {rs:List (Int×Int)} (h:∀ k,k<nt→0≤(rs.getD k (0,0)).2):delH (hmOf nt hf) rs=hmOf nt (dlF rs hf nt):=by
 funext z
 by_cases q:0≤z∧z<nt
 ·have hk:z.toNat<nt:=by omega
  have h0:=h z.toNat hk
  by_cases e:(hf z.toNat).2=0
  ·rw[hmOf_no q (by unfold dlF;rw[if_pos ⟨hk,by omega⟩])]
   unfold delH
   rw[hmOf_no q e]
  ·by_cases g:(hf z.toNat).2≤(rs.getD z.toNat (0,0)).2
   ·rw[hmOf_no q (by unfold dlF;rw[if_pos ⟨hk,g⟩])]
    unfold delH
    rw[hmOf_in q e]
    dsimp only
    rw[if_pos g]
   ·have e2:dlF rs hf nt z.toNat=hf z.toNat:=by unfold dlF;rw[if_neg (fun q=>g q.2)]
    rw[hmOf_in q (by rw[e2];exact e),e2]
    unfold delH
    rw[hmOf_in q e]
    dsimp only
    rw[if_neg g]
 ·rw[hmOf_out q]
  unfold delH
  rw[hmOf_out q]
theorem hmOf_set {nt:Nat} {hf:HF} {t:Int} {p:Int×Int} (ht:0≤t∧t<nt) (hp:p.2≠0):putH (hmOf nt hf) t p=hmOf nt (stF hf t.toNat p):=by
 funext z
 unfold putH
 by_cases e:z=t
 ·subst e
  have e2:stF hf z.toNat p z.toNat=p:=by unfold stF;rw[if_pos rfl]
  rw[if_pos rfl,hmOf_in ht (by rw[e2];exact hp),e2]
 ·rw[if_neg e]
  by_cases q:0≤z∧z<nt
  ·have e2:stF hf t.toNat p z.toNat=hf z.toNat:=by unfold stF;rw[if_neg (by omega)]
   unfold hmOf
   rw[e2]
  ·rw[hmOf_out q,hmOf_out q]
theorem dlF_zero (rs:List (Int×Int)) (hf:HF):dlF rs hf 0=hf:=by
 funext k
 unfold dlF
 rw[if_neg (by omega)]
theorem dlF_yes {rs:List (Int×Int)} {hf:HF} {n:Nat} (h:(hf n).2≤(rs.getD n (0,0)).2):stF (dlF rs hf n) n (0,0)=dlF rs hf (n+1):=by
 funext k
 unfold stF dlF
 by_cases e:k=n
 ·subst e;rw[if_pos rfl,if_pos ⟨by omega,h⟩]
 ·rw[if_neg e]
  by_cases g:k<n∧(hf k).2≤(rs.getD k (0,0)).2
  ·rw[if_pos g,if_pos ⟨by omega,g.2⟩]
  ·rw[if_neg g,if_neg (fun q=>g ⟨by omega,q.2⟩)]
theorem dlF_no {rs:List (Int×Int)} {hf:HF} {n:Nat} (h:¬ (hf n).2≤(rs.getD n (0,0)).2):dlF rs hf n=dlF rs hf (n+1):=by
 funext k
 unfold dlF
 by_cases e:k=n
 ·subst e;rw[if_neg (by omega),if_neg (fun q=>h q.2)]
 ·by_cases g:k<n∧(hf k).2≤(rs.getD k (0,0)).2
  ·rw[if_pos g,if_pos ⟨by omega,g.2⟩]
  ·rw[if_neg g,if_neg (fun q=>g ⟨by omega,q.2⟩)]
theorem dlF_at (rs:List (Int×Int)) (hf:HF) (n:Nat):dlF rs hf n n=hf n:=by
 unfold dlF
 rw[if_neg (by omega)]
theorem setEl_hf (hf:HF) (t:Nat) (p:Int×Int):setEl (fun k=>pairC (hf k)) t (pairC p)=fun k=>pairC (stF hf t p k):=by
 funext j
 unfold setEl stF
 by_cases h:j=t
 ·subst h;simp
 ·rw[if_neg h,show Nat.beq j t=false from Bool.eq_false_iff.2 fun q=>h (Nat.eq_of_beq_eq_true q)]
def HfOk (nt:Nat) (hf:HF):Prop:=∀ k,k<nt→0≤(hf k).2
theorem HfOk.del {nt:Nat} {hf:HF} (h:HfOk nt hf) (rs:List (Int×Int)) (n:Nat):HfOk nt (dlF rs hf n):=fun k hk=>by
 unfold dlF
 split
 ·exact Int.le_refl _
 ·exact h k hk
theorem HfOk.set {nt:Nat} {hf:HF} (h:HfOk nt hf) {t:Nat} {p:Int×Int} (hp:0≤p.2):HfOk nt (stF hf t p):=fun k hk=>by
 unfold stF
 split
 ·exact hp
 ·exact h k hk
theorem vx_row_at {τ:TT} {fr:AF} {mem:AM} {t:TypeId} {x:Operand} {r k ty sz n o:Nat} {el:Nat→List Value} {ti:TI} {l:List Value} {v:Value} (he:el k=l) (hx:ev fr x=some (.pointer (some ⟨r,o,some k⟩))) (ht:lk τ t=some ti) (hm:lk mem r=some (.row ty sz n el)) (hv:(match takeN o ti.size l with | some l=>ofC ti.agg l | none=>none)=some v):vx τ fr mem (.load t x)=some v:=by
 show (match ev fr x with | some p=>ldx τ mem t p | none=>none)=some v
 rw[hx]
 show ldx τ mem t (.pointer (some ⟨r,o,some k⟩))=some v
 unfold ldx
 simp only[ht,hm,he]
 exact hv
theorem ValidA.rt {c:Cfg} {a:Atl} {key:Int} (h:ValidA c a key) {k:Nat} (hk:k<c.tenants.length):-1≤(a.routes.getD k (0,0)).1∧0≤(a.routes.getD k (0,0)).2:=by
 have:=h.r k (by rw[h.len];exact hk)
 unfold RouteOk at this
 omega
theorem wrapIn (n:Int):in64 (IntKind.i64.wrap n):=by
 unfold in64 IntKind.wrap
 simp[IntKind.bits,IntKind.signed]
 omega
theorem CopyP.numIn {c:Cfg} {key:Int} {xs:List Atl} (hP:CopyP c key xs) (hV:CfgV c) (hE:cfgErr c=0) {k:Nat} (hk:k<xs.length) {n:Int} (hn:in64 n):AtlIn { xs.getD k aZ with number:=n }:=by
 obtain⟨s,par,hJ,e⟩:=hP.made k hk
 have h:=make_in hV hJ.inv par key
 rw[e]
 exact⟨hn,h.t,h.len,h.r⟩
/-! The functions. -/
abbrev ctHnP:CT:=ctInl ttP [] [] Tryz.f50 (bodyOf Tryz.f50)
theorem hnPOk {I:List Nat} (hI:I.contains 50=true):CSoundI Tryz.prog I 50 ctHnP:=inl_ok ttPok (fti_nil) mixed (by kernel_rfl) Tryz.func50 rfl (by kernel_rfl) hI
theorem between_sx (v lo hi:Int) (h:1≤IntKind.i64.wrap (IntKind.i64.wrap (hi-lo)+1)∧IntKind.i64.wrap (IntKind.i64.wrap (hi-lo)+1)≤2147483648):sx ttP [(56,ctMod)] [] (bodyOf Tryz.f38) (argF 0 [.int .i64 v,.int .i64 lo,.int .i64 hi]) (uniM {}) 13 (endx ttP Tryz.f38.results.toList fun u _ _=>∃ r,in64 r∧u=.int .i64 r):=by
 refine⟨_,_,rfl,h,?_⟩
 exact⟨_,wrapIn _,rfl⟩
def ctBwG:CT:=fun vs mem nx K=>∃ v lo hi,vs=[.int .i64 v,.int .i64 lo,.int .i64 hi]∧(1≤IntKind.i64.wrap (IntKind.i64.wrap (hi-lo)+1)∧IntKind.i64.wrap (IntKind.i64.wrap (hi-lo)+1)≤2147483648)∧∀ r:Int,in64 r→K (.int .i64 r) mem nx
theorem bwGOk:CSound Tryz.prog 38 ctBwG:=⟨by kernel_rfl,fun {C ρ fr mem nx a w vs K} hc hs hv=>by
 obtain⟨v,lo,hi,rfl,h,hK⟩:=hc
 have:=uni_calls ttPok (fti_cons (modOk.i _) fti_nil) Tryz.func38 rfl (D:=[]) (by kernel_rfl) (vs:=[.int .i64 v,.int .i64 lo,.int .i64 hi]) rfl {} {} w {} (fun v hv=>by
  simp only[List.mem_cons,List.not_mem_nil,or_false] at hv
  rcases hv with rfl | rfl | rfl<;>trivial) (between_sx v lo hi h)
 refine this.mono ?_
 rintro e w' ⟨u,mem',nx',ρ',rfl,⟨r,hr,rfl⟩,-,-,hb⟩
 exact⟨.int .i64 r,mem,nx,ρ,rfl,hK r hr,hs.later hb,trivial,ExtS.refl _ _⟩⟩
abbrev ctTnQ:CT:=ctInl ttP [] [] Tryz.f84 (bodyOf Tryz.f84)
theorem tnQOk {I:List Nat} (hI:I.contains 84=true):CSoundI Tryz.prog I 84 ctTnQ:=inl_ok ttPok (fti_nil) mixed (by kernel_rfl) Tryz.func84 rfl (by kernel_rfl) hI
abbrev ctHnQ:CT:=ctInl ttP [(84,ctTnQ)] [(9000000,{ k:=0,L:=[84] })] Tryz.f51 (bodyOf Tryz.f51)
theorem hnQOk {I:List Nat} (hI:I.contains 51=true):CSoundI Tryz.prog I 51 ctHnQ:=inl_ok ttPok (fti_cons (tnQOk (by decide)) fti_nil) mixed (by kernel_rfl) Tryz.func51 rfl (by kernel_rfl) hI
abbrev ctRtQ:CT:=ctInl ttP [(84,ctTnQ),(51,ctHnQ)] [(9000000,{ k:=0,L:=[84,51] })] Tryz.f49 (bodyOf Tryz.f49)
theorem rtQOk {I:List Nat} (hI:I.contains 49=true):CSoundI Tryz.prog I 49 ctRtQ:=inl_ok ttPok (fti_cons (tnQOk (by decide)) (fti_cons (hnQOk (by decide)) fti_nil)) mixed (by kernel_rfl) Tryz.func49 rfl (by kernel_rfl) hI
abbrev ctNbQ:CT:=ctInl ttP [] [] Tryz.f52 (bodyOf Tryz.f52)
theorem nbQOk {I:List Nat} (hI:I.contains 52=true):CSoundI Tryz.prog I 52 ctNbQ:=inl_ok ttPok (fti_nil) mixed (by kernel_rfl) Tryz.func52 rfl (by kernel_rfl) hI
abbrev ctTcQ:CT:=ctInl ttP [] [] Tryz.f54 (bodyOf Tryz.f54)
theorem tcQOk {I:List Nat} (hI:I.contains 54=true):CSoundI Tryz.prog I 54 ctTcQ:=inl_ok ttPok (fti_nil) mixed (by kernel_rfl) Tryz.func54 rfl (by kernel_rfl) hI
abbrev ctKnQ:CT:=ctInl ttP [] [] Tryz.f91 (bodyOf Tryz.f91)
theorem knQOk {I:List Nat} (hI:I.contains 91=true):CSoundI Tryz.prog I 91 ctKnQ:=inl_ok ttPok (fti_nil) mixed (by kernel_rfl) Tryz.func91 rfl (by kernel_rfl) hI
abbrev r16F:FT:=[(48,ctV5G)]
abbrev ctNwQ:CT:=ctInl ttP r16F [(4,{ k:=6,L:=[0,1,2,3,4,5,6,7,8,9,10,11,12,13,14,15,16,17,18,19,20,21,22,23,24,25,26,27,28,29,30,31,32,33,34,35,36,37,38,39,40,41,42,43,44,45,46,47,48,49,50,51,52,53,54,55,56,57,58,59,60],pre:=[(0,false),(1,false),(2,false),(3,false),(4,false),(5,true)] })] Tryz.f12 (bodyOf Tryz.f12)
theorem nwQOk {I:List Nat} (hI:I.contains 12=true):CSoundI Tryz.prog I 12 ctNwQ:=inl_ok ttPok (fti_cons (v5GOk.i _) fti_nil) mixed (by kernel_rfl) Tryz.func12 rfl (by kernel_rfl) hI
abbrev smF:FT:=[(34,ctRt),(49,ctRtQ),(50,ctHnP),(51,ctHnQ),(36,ctNb),(52,ctNbQ),(53,ctTc),(54,ctTcQ)]
abbrev smD:List (Nat×DQ):=[(9000000,{ k:=0,L:=[34,49,50,51,36,52,53,54] }),(2000002,{ k:=0,L:=[0,1,2,3,4,5,6,7,8,9,10,11,12,13,14,15,16,17,18,19,20,21,22,23,24,25,26,27,28,29,30,31,32,33,34,35,36,37,38,39,40,41,42,43,44,45,46,47,48,49,50,51,52,53,54,55,56,57,58,59,60,61,62,63,64,65,66,67,68,69,70,71,72,73,74,75,76,77,78,79,80,81,82,83,84,85,86,87,88,89,90,91,92,93,94,95,96,97,98,99],sl:=[0,1] })]
theorem smFok:FTokI Tryz.prog smF (inlOf smD):=fti_cons (rtOk (by decide)) (fti_cons (rtQOk (by decide)) (fti_cons (hnPOk (by decide)) (fti_cons (hnQOk (by decide)) (fti_cons (nbOk (by decide)) (fti_cons (nbQOk (by decide)) (fti_cons (tcOk (by decide)) (fti_cons (tcQOk (by decide)) fti_nil)))))))
end Go.Proofs.YtchhdflealgkaaaGreat
