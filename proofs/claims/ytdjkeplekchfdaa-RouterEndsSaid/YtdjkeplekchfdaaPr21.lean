import Derived.Test.YtdjkeplekchfdaaPr20
namespace Go.Proofs.Ytdjkeplekchfdaa
open Go.RowKit
set_option linter.unusedSimpArgs false
set_option linter.unusedVariables false
/-! make.Log: entries that are accepted one after the other. -/
def LenCap (n:Nat) (v:Value):Prop:=∃ A m cap,v=.slice A m cap∧n≤cap
def lgF:FT:=[(46,ctTapeNew),(77,ctNewR),(79,ctMore),(80,ctEntry),(78,ctApplyR)]
theorem lgFok:FTok Try.prog lgF:=ft_cons tapeNewOk (ft_cons newROk (ft_cons moreOk (ft_cons entryOk (ft_cons applyROk ft_nil))))
def lgD:List (Nat×DQ):=[(3000004,{ k:=21,L:=[0,1,2,3,4,5,6,7,8,9,10,11,12,13],sl:=[2,4,7,8] })]
set_option maxRecDepth 100000 in
set_option maxHeartbeats 8000000 in
theorem log_sx (d:UD) (x:CfgK) (cap0:Nat) (n:Int) (hV:CfgV d.c) (hz:d.l0.length≤400) (hn:0≤n∧n≤1000) :
  sx tt lgF lgD (bodyOf Try.f59) (argF 0 [slc 0 d.l0.length cap0,cfgV CNu x d.c,.int .i64 n]) (uniM d) 13 (endx tt Try.f59.results.toList fun v mem' _=>∃ es s,Run d.c (stNew d.c) es s∧(es.length:Int)≤n∧SlR mem' 9 entC default es v∧LenCap es.length v):=by
 have hnt:=hV.nt
 have hnc:=hV.nc
 refine⟨0,cap0,d.l0,rfl,rfl,by omega,?_⟩
 refine⟨CNu,x,d.c,rfl,kp_,⟨by omega,by omega,by omega⟩,?_⟩
 intro y0
 refine⟨St×StK×Int×List Ent×Option (Nat×(Nat→List Value)),fun q=>match q with | (s,y,k,es,none)=>[(9,zs0)] | (s,y,k,es,some (cap,el))=>[(9,slc 20 es.length cap)],fun q=>match q with | (s,y,k,es,none)=>[(14,tapeB 0 d.l0.length cap0 k),(17,.box 51 [.int .i64 s.tick,.int .i64 s.count,slc 18 s.tenants.length y.ct,slc 19 s.cells.length y.cc,.int .i64 s.proven,.int .i64 s.evac,.int .i64 s.low,.int .i64 s.high]),(18,rowOfL 500000 12 tsC default s.tenants),(19,rowOfL 500000 4 csC default s.cells)] | (s,y,k,es,some (cap,el))=>(20,.row (1000000+143) 9 cap el)::[(14,tapeB 0 d.l0.length cap0 k),(17,.box 51 [.int .i64 s.tick,.int .i64 s.count,slc 18 s.tenants.length y.ct,slc 19 s.cells.length y.cc,.int .i64 s.proven,.int .i64 s.evac,.int .i64 s.low,.int .i64 s.high]),(18,rowOfL 500000 12 tsC default s.tenants),(19,rowOfL 500000 4 csC default s.cells)],fun q=>match q with | (s,y,k,es,o)=>Run d.c (stNew d.c) es s∧(0≤k∧k≤445)∧(es.length:Int)≤n∧match o with | none=>es=[] | some (cap,el)=>es.length≤cap∧∀ j,j<es.length→el j=entC (es.getD j default),fun q=>match q with | (s,y,k,es,o)=>(1000-k).toNat,⟨(stNew d.c,y0,0,[],none),[(18,16),(19,15)],⟨.nil _,by omega,by simpa using hn.1,rfl⟩,⟨rfl,rfl⟩,kp_,kp_⟩,?_⟩
 rintro⟨s,y,k,es,(_ | ⟨cap,el⟩)⟩ ⟨hR,hk,hn2,ho⟩
 ·refine⟨⟨by decide,rfl,rfl⟩,?_⟩
  refine⟨fun hc=>?_,fun hc=>?_⟩
  ·refine⟨14,0,cap0,d.l0,_,[],rfl,⟨rfl,rfl⟩,⟨by omega,by omega,by omega⟩,rfl,?_⟩
   rintro _ k1 ⟨b1,rfl,rfl,hb1⟩
   refine⟨fun hb=>?_,fun hb=>?_⟩
   ·have hkl:=hb1 hb
    have hlen:(es.length:Int)<n:=by rw[show es=[] from ho];exact of_decide_eq_true hc
    clear hb1
    have hI:=(hR.rinv hV (.new hV)).inv
    have hcp:=(hR.rinv hV (.new hV)).cap
    refine⟨14,0,cap0,d.l0,_,CNu,x,d.c,⟨18,19,500000⟩,y,s,[],rfl,⟨rfl,rfl⟩,kp_,kp_,⟨by omega,by omega,by omega⟩,⟨⟨hV,hI,by omega⟩,rfl⟩,?_⟩
    rintro _ k2 ⟨⟨en,rfl⟩,hk2a,hk2b,hk2c⟩
    refine⟨CNu,x,d.c,⟨18,19,500000⟩,y,s,en,rfl,⟨kp_,.list rfl,.list rfl⟩,⟨hV,hI⟩,?_⟩
    intro y2
    rw[applyRP hV hI hcp]
    refine⟨fun he=>?_,fun he=>?_⟩
    ·have he2:applyP d.c s en=((applyP d.c s en).1,0):=by
      have q:(applyP d.c s en).2=0:=by simpa using he
      rw[← q]
     have he0:es=[]:=ho
     subst he0
     refine⟨⟨Nat.le_refl _,fun j hj=>by match j,hj with | 0,_=>rfl⟩,?_⟩
     refine⟨fun h=>absurd h (by decide),fun _=>⟨by decide,fun cap2 el2 hc2 hel2=>?_⟩⟩
     refine⟨((applyP d.c s en).1,y2,k2,[en],some (cap2,el2)),[(18,23),(19,22),(20,26)],?_,⟨rfl,rfl⟩,kp_,kp_⟩
     dsimp only
     refine⟨⟨hR.snoc he2,by omega,by simp;omega,hc2,fun j hj=>?_⟩,by omega⟩
     obtain rfl:j=0:=by simpa using hj
     exact hel2 0 (by omega)
    ·refine⟨(s,y,k2,es,none),[],?_,⟨rfl,rfl⟩,kp_,kp_⟩
     dsimp only
     exact⟨⟨hR,by omega,hn2,ho⟩,by omega⟩
   ·exact⟨es,s,hR,hn2,.inl ⟨rfl,ho⟩,none,0,0,rfl,(by rw[ho];decide)⟩
  ·refine⟨fun h=>Bool.noConfusion h,fun _=>?_⟩
   exact⟨es,s,hR,hn2,.inl ⟨rfl,ho⟩,none,0,0,rfl,(by rw[ho];decide)⟩
 ·refine⟨⟨by decide,rfl,rfl⟩,?_⟩
  refine⟨fun hc=>?_,fun hc=>?_⟩
  ·refine⟨14,0,cap0,d.l0,_,[],rfl,⟨rfl,rfl⟩,⟨by omega,by omega,by omega⟩,rfl,?_⟩
   rintro _ k1 ⟨b1,rfl,rfl,hb1⟩
   refine⟨fun hb=>?_,fun hb=>?_⟩
   ·have hkl:=hb1 hb
    have hlen:(es.length:Int)<n:=of_decide_eq_true hc
    clear hb1
    have hI:=(hR.rinv hV (.new hV)).inv
    have hcp:=(hR.rinv hV (.new hV)).cap
    refine⟨14,0,cap0,d.l0,_,CNu,x,d.c,⟨18,19,500000⟩,y,s,[],rfl,⟨rfl,rfl⟩,kp_,kp_,⟨by omega,by omega,by omega⟩,⟨⟨hV,hI,by omega⟩,rfl⟩,?_⟩
    rintro _ k2 ⟨⟨en,rfl⟩,hk2a,hk2b,hk2c⟩
    refine⟨CNu,x,d.c,⟨18,19,500000⟩,y,s,en,rfl,⟨kp_,.list rfl,.list rfl⟩,⟨hV,hI⟩,?_⟩
    intro y2
    rw[applyRP hV hI hcp]
    refine⟨fun he=>?_,fun he=>?_⟩
    ·have he2:applyP d.c s en=((applyP d.c s en).1,0):=by
      have q:(applyP d.c s en).2=0:=by simpa using he
      rw[← q]
     refine⟨⟨Nat.le_refl _,fun j hj=>by match j,hj with | 0,_=>rfl⟩,?_⟩
     refine⟨⟨rfl,ho.1⟩,fun hin el2 g1 g2=>?_,fun hgt=>⟨by show (es.length+1) * 72≤140737488355328;omega,fun cap2 el2 hc2 g1 g2=>?_⟩⟩
     ·rw[show es.length+1=(es++[en]).length by simp]
      refine⟨((applyP d.c s en).1,y2,k2,es++[en],some (cap,el2)),[(18,23),(19,22)],?_,⟨rfl,rfl⟩,kp_,kp_⟩
      dsimp only
      refine⟨⟨hR.snoc he2,by omega,by simp;omega,by first | exact hc2 | (simp;omega),fun j hj=>?_⟩,by omega⟩
      by_cases hjn:j<es.length
      ·rw[g1 j hjn,ho.2 j hjn,List.getD_eq_getElem?_getD,List.getD_eq_getElem?_getD,List.getElem?_append_left hjn]
      ·obtain rfl:j=es.length:=by simp at hj;omega
       have:=g2 0 (by omega)
       rw[Nat.add_zero] at this
       rw[this,List.getD_eq_getElem?_getD,List.getElem?_append_right (Nat.le_refl _),Nat.sub_self]
       rfl
     ·rw[show es.length+1=(es++[en]).length by simp] at hc2 ⊢
      refine⟨((applyP d.c s en).1,y2,k2,es++[en],some (cap2,el2)),[(18,23),(19,22),(20,26)],?_,⟨rfl,rfl⟩,kp_,kp_⟩
      dsimp only
      refine⟨⟨hR.snoc he2,by omega,by simp;omega,by first | exact hc2 | (simp;omega),fun j hj=>?_⟩,by omega⟩
      by_cases hjn:j<es.length
      ·rw[g1 j hjn,ho.2 j hjn,List.getD_eq_getElem?_getD,List.getD_eq_getElem?_getD,List.getElem?_append_left hjn]
      ·obtain rfl:j=es.length:=by simp at hj;omega
       have:=g2 0 (by omega)
       rw[Nat.add_zero] at this
       rw[this,List.getD_eq_getElem?_getD,List.getElem?_append_right (Nat.le_refl _),Nat.sub_self]
       rfl
    ·refine⟨(s,y,k2,es,some (cap,el)),[],?_,⟨rfl,rfl⟩,kp_,kp_⟩
     dsimp only
     exact⟨⟨hR,by omega,hn2,ho⟩,by omega⟩
   ·exact⟨es,s,hR,hn2,.inr ⟨20,_,_,cap,el,rfl,rfl,rfl,ho.1,ho.2⟩,_,_,cap,rfl,ho.1⟩
  ·refine⟨fun h=>Bool.noConfusion h,fun _=>?_⟩
   exact⟨es,s,hR,hn2,.inr ⟨20,_,_,cap,el,rfl,rfl,rfl,ho.1,ho.2⟩,_,_,cap,rfl,ho.1⟩
theorem mkLog_calls (x:CfgA) (c:Cfg) (A0:Option Addr) (cap0:Nat) (l:List Int) (n:Int) (w:World) (hV:CfgV c) (hz:l.length≤400) (hn:0≤n∧n≤1000) (hc:CfgOk w (·<w.heap.size) x c) (hr:Rd w (·<w.heap.size) A0 (flat intC l)) :
  Calls Try.prog 59 #[.slice A0 l.length cap0,.agg (cfgC x c),.int .i64 n] w fun e w'=>∃ es s A cap,e=.returned (.slice A (es:List Ent).length cap)∧Run c (stNew c) es s∧(es.length:Int)≤n∧es.length≤cap∧Rd w' (fun b=>w.heap.size≤b∧b<w'.heap.size) A (flat entC es)∧Below w.heap.size w w':=by
 have:=uni_calls ttOk (lgFok.i _) Try.func59 rfl (D:=lgD) (by kernel_rfl) (vs:=[slc 0 l.length cap0,cfgV CNu (ck x) c,.int .i64 n]) rfl { a0:=A0,x:=x } { l0:=l,c:=c } w { r0:=hr,c:=hc } (fun v hv=>by
  simp only[List.mem_cons,List.not_mem_nil,or_false] at hv
  rcases hv with rfl | rfl | rfl
  ·exact⟨show (0:Nat)<13 by decide,rfl⟩
  ·exact upl_cfg_ok { a0:=A0,x:=x } { l0:=l,c:=c }
  ·trivial) (log_sx { l0:=l,c:=c } (ck x) cap0 n hV hz hn)
 rw[List.map_cons,List.map_cons] at this
 have e0:=upl_cfg { a0:=A0,x:=x } { l0:=l,c:=c }
 dsimp only at e0 this
 rw[e0] at this
 refine this.mono ?_
 rintro e w' ⟨v,mem',nx',ρ',rfl,⟨es,s,hR,hen,hS,A1,m1,cap1,rfl,hcap⟩,hv,hm',hb⟩
 obtain⟨A,cp,e1,hr'⟩:=hm'.slR (enc:=entC) (sz:=9) (fun _=>rfl) (by omega) hS
 have e2:den ρ' (.slice A1 m1 cap1)=.slice A es.length cp:=e1
 have e3:cap1=cp:=by cases A1<;>simp[den1] at e1<;>exact e1.2.2
 exact⟨es,s,A,cp,by rw[e2],hR,hen,e3 ▸ hcap,hr',hb⟩
def ctLog:CT:=fun vs mem nx K=>∃ N x c r cap l n,vs=[slc r (l:List Int).length cap,cfgV N x c,.int .i64 n]∧(keeps mem (cfgM N c)∧HasRow mem r 1 intC 0 l)∧(CfgV c∧l.length≤400∧0≤n∧n≤1000)∧∀ es s cap',Run c (stNew c) es s→(es.length:Int)≤n→es.length≤cap'→K (slc nx es.length cap') ((nx,rowOfL 500000 9 entC default es)::mem) (nx+1)
theorem logOk:CSound Try.prog 59 ctLog:=⟨by kernel_rfl,fun {C ρ fr mem nx a w vs K} hc hs hv=>by
 obtain⟨N,x,c,r,cap,l,n,rfl,⟨hk,hr⟩,⟨hV,hl,hn⟩,hK⟩:=hc
 have e0:([slc r l.length cap,cfgV N x c,.int .i64 n].map (den ρ)).toArray=#[.slice (ρ r).A l.length cap,.agg (cfgC (cfgX ρ N x) c),.int .i64 n]:=by
  rw[List.map_cons,List.map_cons,den_cfg]
  rfl
 rw[e0]
 refine (mkLog_calls (cfgX ρ N x) c (ρ r).A cap l n w hV hl hn (hs.cfg hk (fun b h _=>h)) (hs.hasRd (enc:=intC) (sz:=1) (fun _=>rfl) (by omega) hr)).mono ?_
 rintro e w' ⟨es,s,A,cp,rfl,hR,hen,hcp,hrd,hb⟩
 obtain⟨q1,-⟩:=(hs.later hb).addList hs.frB hs.rest.size (enc:=entC) (sz:=9) (fun _=>rfl) (by omega) entC_plain default (t:=500000) rfl hrd
 have q2:setPl ρ nx ⟨A,9,es.length,false,noSub⟩ nx=⟨A,9,es.length,false,noSub⟩:=setPl_same _ _ _
 refine⟨slc nx es.length cp,_,_,_,?_,hK es s cp hR hen hcp,q1,?_,fun i hi=>setPl_lt _ _ hi,by omega⟩
 ·show Ending.returned (.slice A es.length cp)=.returned (.slice (setPl ρ nx ⟨A,9,es.length,false,noSub⟩ nx).A es.length cp)
  rw[q2]
 ·exact⟨show nx<nx+1 by omega,by rw[q2]⟩⟩
/-! make.State: the state of a log. -/
def msF:FT:=[(59,ctLog),(58,ctFoldR)]
theorem msFok:FTok Try.prog msF:=ft_cons logOk (ft_cons foldROk ft_nil)
def msD:List (Nat×DQ):=[(1,{ k:=13,L:=[13],A:=[10],pre:=[(0,false),(1,false),(2,false),(3,false),(4,true),(5,true),(6,false),(7,false),(8,false),(9,false)],post:=[(11,true),(12,false)] })]
set_option maxRecDepth 100000 in
set_option maxHeartbeats 8000000 in
theorem mkState_sx (d:UD) (x:CfgK) (cap0:Nat) (n:Int) (hV:CfgV d.c) (hz:d.l0.length≤400) (hn:0≤n∧n≤1000) :
  sx tt msF msD (bodyOf Try.f21) (argF 0 [slc 0 d.l0.length cap0,cfgV CNu x d.c,.int .i64 n]) (uniM d) 13 (endx tt Try.f21.results.toList fun v mem' _=>∃ es s y,Run d.c (stNew d.c) es s∧(es.length:Int)≤n∧v=stV ⟨18,17,500000⟩ y s∧keeps mem' (stM ⟨18,17,500000⟩ s)):=by
 have hnt:=hV.nt
 have hnc:=hV.nc
 refine⟨CNu,x,d.c,0,cap0,d.l0,n,rfl,⟨kp_,?_⟩,⟨hV,hz,hn⟩,?_⟩
 ·exact⟨_,_,_,rfl,Nat.le_refl _,fun k hk=>rfl⟩
 intro es s cap2 hR hen hcp
 refine⟨kp_,?_⟩
 refine⟨CNu,x,d.c,16,cap2,es,rfl,⟨kp_,⟨_,_,_,rfl,Nat.le_refl _,fun k hk=>rfl⟩⟩,⟨hV,by omega⟩,?_⟩
 intro y
 rw[hR.foldC]
 refine⟨kp_,?_⟩
 refine⟨kp_,?_⟩
 exact⟨es,s,y,hR,hen,rfl,kp_⟩
theorem mkState_calls (x:CfgA) (c:Cfg) (A0:Option Addr) (cap0:Nat) (l:List Int) (n:Int) (w:World) (hV:CfgV c) (hz:l.length≤400) (hn:0≤n∧n≤1000) (hc:CfgOk w (·<w.heap.size) x c) (hr:Rd w (·<w.heap.size) A0 (flat intC l)) :
  Calls Try.prog 21 #[.slice A0 l.length cap0,.agg (cfgC x c),.int .i64 n] w fun e w'=>∃ es s y,e=.returned (.agg (stC y s))∧Run c (stNew c) es s∧(es.length:Int)≤n∧StOk w' (fun b=>w.heap.size≤b∧b<w'.heap.size) y s∧Below w.heap.size w w':=by
 have:=uni_calls ttOk (msFok.i _) Try.func21 rfl (D:=msD) (by kernel_rfl) (vs:=[slc 0 l.length cap0,cfgV CNu (ck x) c,.int .i64 n]) rfl { a0:=A0,x:=x } { l0:=l,c:=c } w { r0:=hr,c:=hc } (fun v hv=>by
  simp only[List.mem_cons,List.not_mem_nil,or_false] at hv
  rcases hv with rfl | rfl | rfl
  ·exact⟨show (0:Nat)<13 by decide,rfl⟩
  ·exact upl_cfg_ok { a0:=A0,x:=x } { l0:=l,c:=c }
  ·trivial) (mkState_sx { l0:=l,c:=c } (ck x) cap0 n hV hz hn)
 rw[List.map_cons,List.map_cons] at this
 have e0:=upl_cfg { a0:=A0,x:=x } { l0:=l,c:=c }
 dsimp only at e0 this
 rw[e0] at this
 refine this.mono ?_
 rintro e w' ⟨v,mem',nx',ρ',rfl,⟨es,s,y,hR,hen,rfl,k1,k2,-⟩,hv,hm',hb⟩
 refine⟨es,s,⟨(ρ' 18).A,y.ct,(ρ' 17).A,y.cc⟩,?_,hR,hen,⟨?_,?_⟩,hb⟩
 ·rw[den_st]
  rfl
 ·exact (hm'.blk 18 _ k1).fresh (enc:=tsC) default rfl rfl (fun k hk=>rfl) (fun _=>rfl) (by omega)
 ·exact (hm'.blk 17 _ k2).fresh (enc:=csC) default rfl rfl (fun k hk=>rfl) (fun _=>rfl) (by omega)
/-! A callee hands back a row of the wider kind. -/
abbrev plF (ρ':Nat→Pl) (u:Nat):Pl:=⟨none,0,0,false,fun k o=>(ρ' u).sub k o⟩
abbrev plD (ρ':Nat→Pl) (r sz n:Nat):Pl:=⟨(ρ' r).A,sz,n,false,noSub⟩
theorem Sat.takeDeep {C C':Ctx} {ρ ρ':Nat→Pl} {fr:AF} {mem mem':AM} {nx nx':Nat} {a:Act} {w w':World} (hs:Sat C ρ fr mem nx a w) (hb:Below w.heap.size w w') (hm:MemAt C' ρ' mem' nx' w') (hw:C'.w0=w) {r u sz n cap:Nat} {t tf:TypeId} {el:Nat→List Value} {sb:Nat→Nat→SB}
  (h1:lk mem' r=some (.ext (.deep t sz n cap el u))) (ht:ownT t=true∨frT t=true) (h2:lk mem' u=some (.ext (.fam tf sb))) (htf:frT tf=true) :
  Sat C (setPl (setPl ρ nx (plF ρ' u)) (nx+1) (plD ρ' r sz n)) fr ((nx+1,.ext (.deep 500000 sz n 0 el nx))::(nx,.ext (.fam 500000 sb))::mem) (nx+1+1) a w':=by
 obtain⟨hfo,hfs⟩:=hm.blk u _ h2
 obtain⟨⟨hz,hn⟩,hu,hel,hd⟩:=hm.blk r _ h1
 have hbase:C.w0.heap.size≤w.heap.size:=hs.rest.size
 subst hw
 have q0:setPl ρ nx (plF ρ' u) nx=plF ρ' u:=setPl_same _ _ _
 have key:=(hs.later hb).addPlainX hs.frB (b:=.ext (.fam 500000 sb)) (p:=plF ρ' u) (fun g hg=>hg) rfl ⟨rfl,fun k o=>⟨(hfs k o).1,by
  rcases (hfs k o).2 with h0 | ⟨b,off,e1,e2,e3⟩
  ·exact .inl h0
  ·exact .inr ⟨b,off,by rw[q0];exact e1,⟨e2.lt,(fun q=>by cases q),fun _=>Nat.le_trans hbase (e2.new htf)⟩,e3⟩⟩⟩ (fun g hg=>by
  obtain⟨k,o,e1,e2⟩:=hg
  rw[q0] at e2
  rcases (hfs k o).2 with h0 | ⟨b,off,e3,e4,e5⟩
  ·exact absurd h0 e1
  ·rw[show (plF ρ' u).sub k o=(ρ' u).sub k o from rfl,e3] at e2
   obtain rfl:b=g:=by simpa using e2
   exact e4.new htf)
 obtain⟨s1,f1⟩:=key
 have q1:setPl (setPl ρ nx (plF ρ' u)) (nx+1) (plD ρ' r sz n) (nx+1)=plD ρ' r sz n:=setPl_same _ _ _
 have q2:setPl (setPl ρ nx (plF ρ' u)) (nx+1) (plD ρ' r sz n) nx=plF ρ' u:=by rw[setPl_lt _ _ (Nat.lt_succ_self _)];exact q0
 have hge:∀ {b off:Nat},RowA C'.w0.heap.size w' t b off→C'.w0.heap.size≤b:=fun {b off} e=>ht.elim (fun q=>(e.own q).2.1) e.new
 refine (s1.addPlainX f1 (b:=.ext (.deep 500000 sz n 0 el nx)) (p:=plD ρ' r sz n) (fun g hg=>by cases hg.1) rfl ⟨⟨by rw[q1],by rw[q1]⟩,⟨by omega,by rw[q2]⟩,hel,?_⟩ ?_).1
 ·rcases hd with h0 | ⟨h0,b,off,e1,e2,-,e3⟩
  ·exact .inl ⟨h0.1,fun q=>by cases q⟩
  ·refine .inr ⟨h0,b,off,by rw[q1];exact e1,⟨e2.lt,(fun q=>by cases q),fun _=>Nat.le_trans hbase (hge e2)⟩,(fun q=>by cases q),fun k hk j v hv=>?_⟩
   rw[e3 k hk j v hv,← dp_dp (ρ:=ρ') (u:=u) (k:=k) ((hel k hk).2 v (List.mem_of_getElem? hv)) (show (setPl (setPl ρ nx (plF ρ' u)) (nx+1) (plD ρ' r sz n) nx).sub k j=(ρ' u).sub k j by rw[q2])]
 ·intro g hg
  obtain⟨e0,e1⟩:=hg
  unfold bno at e1
  rw[q1] at e1
  rcases hd with h0 | ⟨h0,b,off,e2,e3,-⟩
  ·exact absurd h0.1 e0
  ·rw[show (plD ρ' r sz n).A=(ρ' r).A from rfl,e2] at e1
   obtain rfl:b=g:=by simpa using e1
   exact hge e3
def ctStateG:CT:=fun vs mem nx K=>∃ N x c v l n,vs=[v,cfgV N x c,.int .i64 n]∧(HasCfg mem N c∧SrcR mem 1 intC 0 (l:List Int) v)∧(CfgV c∧l.length≤400∧0≤n∧n≤1000)∧∀ es s y,Run c (stNew c) es s→(es.length:Int)≤n→K (stV ⟨nx+1,nx,500000⟩ y s) (stM ⟨nx+1,nx,500000⟩ s++mem) (nx+2)
theorem stateGOk:CSound Try.prog 21 ctStateG:=⟨by kernel_rfl,fun {C ρ fr mem nx a w vs K} hc hs hv=>by
 obtain⟨N,x,c,v,l,n,rfl,⟨hk,hr⟩,⟨hV,hl,hn⟩,hK⟩:=hc
 obtain⟨A,cap,e0,hr⟩:=hs.srcR (enc:=intC) (sz:=1) (fun _=>rfl) (by omega) hr
 have e0:([v,cfgV N x c,.int .i64 n].map (den ρ)).toArray=#[.slice A l.length cap,.agg (cfgC (cfgX ρ N x) c),.int .i64 n]:=by
  rw[List.map_cons,List.map_cons,den_cfg,e0]
  rfl
 rw[e0]
 refine (mkState_calls (cfgX ρ N x) c A cap l n w hV hl hn (hs.cfgH hk) hr).mono ?_
 rintro e w' ⟨es,s,y,rfl,hR,hen,hst,hb⟩
 obtain⟨q1,q2,q3,q4⟩:=hs.addSt hb hst
 exact⟨_,_,_,_,by rw[q2],hK es s ⟨y.ct,y.cc⟩ hR hen,q1,q3,q4⟩⟩
/-! Make,by contract,with any parent;rows of atlases that grow. -/
def ctMakeGR:CT:=fun vs mem nx K=>∃ N x c M y s pn pt pv ps psum key,vs=[cfgV N x c,stV M y s,.agg #[.int .i64 pn,.int .i64 pt,pv,.int .u64 ps,.int .u64 psum],.int .i64 key]∧(HasCfg mem N c∧HasRow mem M.t 12 tsC default s.tenants∧HasRow mem M.c 4 csC default s.cells)∧(∃ A n cap,pv=.slice A n cap)∧AtlIn (atl0 s psum)∧∀ cp,K (atlV (makeA s psum key) (slc nx (routesOf s).length cp)) ((nx,rowOfL 500000 2 pairC (0,0) (routesOf s))::mem) (nx+1)
theorem makeGROk:CSound Try.prog 24 ctMakeGR:=⟨by kernel_rfl,fun {C ρ fr mem nx a w vs K} hc hs hv=>by
 obtain⟨N,x,c,M,y,s,pn,pt,pv,ps,psum,key,rfl,⟨hk,h1,h2⟩,hpv,hA,hK⟩:=hc
 have epv:∃ Ap pl pc,den1 ρ pv=.slice Ap pl pc:=by
  obtain⟨A,n,cap,rfl⟩:=hpv
  cases A with
  | none=>exact⟨_,_,_,rfl⟩
  | some ad=>exact⟨_,_,_,rfl⟩
 obtain⟨Ap,pl,pc,epv⟩:=epv
 have e0:([cfgV N x c,stV M y s,.agg #[.int .i64 pn,.int .i64 pt,pv,.int .u64 ps,.int .u64 psum],.int .i64 key].map (den ρ)).toArray=#[.agg (cfgC (cfgX ρ N x) c),.agg (stC (stX ρ M y) s),.agg #[.int .i64 pn,.int .i64 pt,.slice Ap pl pc,.int .u64 ps,.int .u64 psum],.int .i64 key]:=by
  have dI:∀ k n,den1 ρ (.int k n)=.int k n:=fun _ _=>rfl
  rw[List.map_cons,List.map_cons,den_cfg,den_st]
  simp[den,den2,epv,dI]
 rw[e0]
 refine (makeR_calls (cfgX ρ N x) c (stX ρ M y) s pn pt ps psum Ap pl pc key w hA (hs.cfgH (x:=x) hk) (hs.stRow (y:=y) h1 h2)).mono ?_
 rintro e w' ⟨A2,cp,rfl,hr2,hb⟩
 obtain⟨q1,-⟩:=(hs.later hb).addList hs.frB hs.rest.size (enc:=pairC) (sz:=2) (fun _=>rfl) (by omega) pairC_plain (0,0) (t:=500000) rfl hr2
 have q2:setPl ρ nx ⟨A2,2,(routesOf s).length,false,noSub⟩ nx=⟨A2,2,(routesOf s).length,false,noSub⟩:=setPl_same _ _ _
 refine⟨atlV (makeA s psum key) (slc nx (routesOf s).length cp),_,_,_,?_,hK cp,q1,?_,fun i hi=>setPl_lt _ _ hi,by omega⟩
 ·simp[den,den2,den1,dA_whole,dS_whole,q2]
 ·intro u hu
  simp at hu
  rcases hu with rfl | rfl | rfl | rfl | rfl<;>first | trivial | exact⟨Nat.lt_succ_self _,by rw[q2]⟩⟩
theorem getD_appA {α:Type} {l:List α} {x d:α} {k:Nat} (h:k<l.length):(l++[x]).getD k d=l.getD k d:=by rw[List.getD_eq_getElem?_getD,List.getD_eq_getElem?_getD,List.getElem?_append_left h]
theorem getD_endA {α:Type} {l:List α} {x d:α}:(l++[x]).getD l.length d=x:=by rw[List.getD_eq_getElem?_getD,List.getElem?_append_right (Nat.le_refl _)];simp
theorem atlEl_app {xs:List Atl} {cps:List Nat} {a:Atl} {cp k:Nat} (hc:cps.length=xs.length) (h:k<xs.length):atlEl (xs++[a]) (cps++[cp]) k=atlEl xs cps k:=by
 show atlC _ _=atlC _ _
 rw[getD_appA h,getD_appA (hc ▸ h)]
theorem atlEl_end {xs:List Atl} {cps:List Nat} {a:Atl} {cp:Nat} (hc:cps.length=xs.length):atlEl (xs++[a]) (cps++[cp]) (xs.length+0)=atlEl [a] [cp] 0:=by
 show atlC _ _=atlC _ _
 rw[Nat.add_zero,getD_endA,← hc,getD_endA]
 rfl
theorem famA_app {xs:List Atl} {a:Atl} {k:Nat} (h:k<xs.length):famA (xs++[a]) k=famA xs k:=by
 unfold famA
 rw[getD_appA h]
theorem famA_end {xs:List Atl} {a:Atl}:famA (xs++[a]) (xs.length+0)=famA [a] 0:=by
 unfold famA
 rw[Nat.add_zero,getD_endA]
 rfl
theorem app_at {xs:List Atl} {cps:List Nat} {a:Atl} {cp:Nat} (hc:cps.length=xs.length):((∀ k,k<xs.length→atlEl (xs++[a]) (cps++[cp]) k=atlEl xs cps k∧famA (xs++[a]) k=famA xs k)∧(∀ k,k<1→atlEl (xs++[a]) (cps++[cp]) (xs.length+k)=atlEl [a] [cp] k∧famA (xs++[a]) (xs.length+k)=famA [a] k)∧∀ k,xs.length+1≤k→∀ o,(famA (xs++[a]) k o).n=0):=
 ⟨fun k hk=>⟨atlEl_app hc hk,famA_app hk⟩,fun k hk=>(match k,hk with | 0,_=>⟨atlEl_end hc,famA_end⟩),fun k hk o=>famA_out (by simpa using hk) o⟩
/-! law16.copies: the atlases of the states of a log. -/
structure CopyP (c:Cfg) (key:Int) (xs:List Atl):Prop where
 ne:1≤xs.length
 le:xs.length≤13
 made:∀ k,k<xs.length→∃ s par,RInv c s∧xs.getD k aZ=makeA s par key
 inc:∀ k,k+1<xs.length→(xs.getD k aZ).number<(xs.getD (k+1) aZ).number
 first:(xs.getD 0 aZ).number=0
theorem CopyP.one {c:Cfg} {key:Int} {s:St} (h:RInv c s) (h0:s.count=0) (par:Int):CopyP c key [makeA s par key]:=
 ⟨Nat.le_refl _,by simp,fun k hk=>(match k,hk with | 0,_=>⟨s,par,h,rfl⟩),fun k hk=>absurd hk (by simp),h0⟩
theorem CopyP.snoc {c:Cfg} {key:Int} {xs:List Atl} (hP:CopyP c key xs) (hl:xs.length≤12) {s:St} (h:RInv c s) (par:Int) (hn:(makeA s par key).number>(xs.getD (xs.length-1) aZ).number):CopyP c key (xs++[makeA s par key]):=by
 have h1:=hP.ne
 refine⟨by simp,by simpa using hl,fun k hk=>?_,fun k hk=>?_,by rw[getD_appA (by omega)];exact hP.first⟩
 ·by_cases q:k<xs.length
  ·rw[getD_appA q];exact hP.made k q
  ·obtain rfl:k=xs.length:=by simp at hk;omega
   rw[getD_endA];exact⟨s,par,h,rfl⟩
 ·simp at hk
  by_cases q:k+1<xs.length
  ·rw[getD_appA q,getD_appA (by omega)];exact hP.inc k q
  ·obtain rfl:k=xs.length-1:=by omega
   rw[show xs.length-1+1=xs.length by omega,getD_endA,getD_appA (by omega)]
   exact hn
def cyF:FT:=[(21,ctStateG),(24,ctMakeGR)]
def cyD:List (Nat×DQ):=[(1,{ k:=5,L:=[0,1,2,3,4,5,6,7,8,9,10,11,12,13,14,15,16,17,18,19,20,21,22,23,24,25,26,27,28,29,30,31,32,33,34,35,36,37,38,39,40,41,42,43,44,45,46,47,48,49,50,51,52,53,54,55,56,57,58,59,60],pre:=[(0,false),(1,false),(3,false),(4,false),(2,true)] }),(5,{ k:=15,L:=[0,1,2,3,4,5,6,7,8,9,10,11,12,13,14,15,16,17,18,19,20,21,22,23,24,25,26,27,28,29,30,31,32,33,34,35,36,37,38,39,40,41,42,43,44,45,46,47,48,49,50,51,52,53,54,55,56,57,58,59,60],A:=[14],pre:=[(0,false),(1,false),(2,false),(3,false),(4,false),(6,false),(7,false),(8,false),(9,false),(10,false),(11,false),(12,false),(5,true),(13,true)],post:=[] }),(6,{ k:=9,L:=[0,1,2,3,4,5,6,7,8,9,10,11,12,13,14,15,16,17,18,19,20,21,22,23,24,25,26,27,28,29,30,31,32,33,34,35,36,37,38,39,40,41,42,43,44,45,46,47,48,49,50,51,52,53,54,55,56,57,58,59,60],pre:=[(0,false),(1,false),(2,false),(3,false),(4,false),(5,false),(6,false),(7,false),(8,false)] }),(3000003,{ k:=21,L:=[0,1,2,3,4,5,6,7,8,9,10,11,12,13],sl:=[1,2,3] })]
theorem cyFok:FTokI Try.prog cyF (inlOf cyD):=fti_cons (stateGOk.i _) (fti_cons (makeGROk.i _) fti_nil)
set_option maxRecDepth 100000 in
set_option maxHeartbeats 4000000 in
theorem copies_sx (d:UD) (x:CfgK) (cap0:Nat) (key:Int) (hV:CfgV d.c) (hz:d.l0.length≤400) :
  sx ttL cyF cyD (bodyOf Try.f36) (argF 0 [cfgV CNu x d.c,slc 0 d.l0.length cap0,.int .i64 key]) (uniM d) 13 (endx ttL Try.f36.results.toList fun v mem' _=>∃ xs cps cap cp r u,v=.slice (some ⟨r,0,none⟩) xs.length cap∧lk mem' r=some (deepA (1000000+46) cp xs cps u)∧lk mem' u=some (famB 500000 xs)∧CopyP d.c key xs):=by
 have hnt:=hV.nt
 have hnc:=hV.nc
 refine⟨CNu,x,d.c,zs0,[],0,rfl,⟨HasCfg.keeps kp_,.inl ⟨rfl,rfl⟩⟩,⟨hV,by simp,by decide⟩,?_⟩
 intro es s y hR hen
 have hJ:=hR.rinv hV (.new hV)
 refine⟨kp_,?_⟩
 refine⟨CNu,x,d.c,⟨15,14,500000⟩,y,s,0,0,zs0,0,0,key,rfl,⟨HasCfg.keeps kp_,.list rfl,.list rfl⟩,⟨_,_,_,rfl⟩,atlIn_st hV hJ.inv _,fun cp1=>?_⟩
 refine⟨atlEl [makeA s 0 key] [cp1],famA [makeA s 0 key],⟨fun k hk=>?_,fun k hk o=>famA_out hk o⟩,?_⟩
 ·match k,hk with
  | 0,_=>exact⟨rfl,fun o=>famA_list _ o rfl⟩
 have he0:es=[]:=List.eq_nil_of_length_eq_zero (by omega)
 subst he0
 cases hR
 refine⟨List Atl×List Nat×Nat×Nat×Int,fun q=>match q with | (xs,cps,cap,cp,i)=>[(7,.slice (some ⟨20,0,none⟩) xs.length cap),(8,.int .i64 i)],fun q=>match q with | (xs,cps,cap,cp,i)=>[(19,famB 500000 xs),(20,deepA (1000000+46) cp xs cps 19)],fun q=>match q with | (xs,cps,cap,cp,i)=>CopyP d.c key xs∧cps.length=xs.length∧cap=cp∧(1≤i∧i≤13)∧(xs.length:Int)≤i,fun q=>match q with | (xs,cps,cap,cp,i)=>(13-i).toNat,⟨([makeA (stNew d.c) 0 key],[cp1],1,1,1),[(19,17),(20,18)],⟨.one hJ rfl 0,rfl,rfl,by omega,by simp⟩,⟨rfl,rfl⟩,kp_,kp_⟩,?_⟩
 clear hen hJ y cp1
 rintro⟨xs,cps,cap,cp,i⟩ ⟨hP,hcl,rfl,hi,hxl⟩
 have hne:=hP.ne
 refine⟨⟨by decide,rfl,rfl⟩,?_⟩
 refine⟨fun hc=>?_,fun hc=>?_⟩
 ·have hc2:i≤12:=of_decide_eq_true hc
  have w1:=wrapi (n:=(xs.length:Int)-1) (by omega)
  have w2:=wrapi (n:=3 * i) (by omega)
  refine⟨⟨Nat.le_refl _,by rw[w1];omega,by rw[w1];omega⟩,?_⟩
  rw[w1,w2]
  refine⟨CNu,x,d.c,_,d.l0,_,rfl,⟨HasCfg.keeps kp_,.inr (.inl ⟨0,_,rfl,⟨_,_,_,rfl,Nat.le_refl _,fun k hk=>rfl⟩⟩)⟩,⟨hV,hz,by omega⟩,?_⟩
  intro es s y hR hen
  have hJ:=hR.rinv hV (.new hV)
  refine⟨kp_,?_⟩
  refine⟨CNu,x,d.c,⟨23,22,500000⟩,y,s,_,_,_,_,_,key,rfl,⟨HasCfg.keeps kp_,.list rfl,.list rfl⟩,⟨_,_,_,rfl⟩,atlIn_st hV hJ.inv _,fun cp1=>?_⟩
  refine⟨kp_,?_⟩
  refine⟨⟨Nat.le_refl _,by rw[w1];omega,by rw[w1];omega⟩,?_⟩
  rw[w1]
  refine⟨fun hg=>?_,fun hg=>?_⟩
  ·refine⟨atlEl [(makeA s (xs.getD ((xs.length:Int)-1).toNat aZ).sum key)] [cp1],famA [(makeA s (xs.getD ((xs.length:Int)-1).toNat aZ).sum key)],⟨fun k hk=>?_,fun k hk o=>famA_out hk o⟩,?_⟩
   ·match k,hk with
    | 0,_=>exact⟨rfl,fun o=>famA_list _ o rfl⟩
   refine⟨⟨Nat.le_refl _,fun k hk=>(match k,hk with | 0,_=>rfl)⟩,?_⟩
   refine⟨⟨⟨rfl,rfl⟩,by decide,by show (xs.length+1) * 56≤140737488355328;omega⟩,fun cap2 hcp2=>⟨atlEl (xs++[(makeA s (xs.getD ((xs.length:Int)-1).toNat aZ).sum key)]) (cps++[cp1]),famA (xs++[(makeA s (xs.getD ((xs.length:Int)-1).toNat aZ).sum key)]),app_at hcl,?_⟩⟩
   have hlx:xs.length+1=(xs++[(makeA s (xs.getD ((xs.length:Int)-1).toNat aZ).sum key)]).length:=by simp
   rw[hlx]
   have w3:=wrapi (n:=i+1) (by omega)
   refine⟨(xs++[(makeA s (xs.getD ((xs.length:Int)-1).toNat aZ).sum key)],cps++[cp1],cap2,cap2,IntKind.i64.wrap (i+1)),[(19,27),(20,28)],?_,⟨rfl,rfl⟩,kp_,kp_⟩
   dsimp only
   rw[w3]
   refine⟨⟨hP.snoc (by omega) hJ _ ?_,by simp[hcl],rfl,by omega,by simp;omega⟩,by omega⟩
   have hg2:=of_decide_eq_true hg
   rw[show ((xs.length:Int)-1).toNat=xs.length-1 by omega] at hg2 ⊢
   exact hg2
  ·have w3:=wrapi (n:=i+1) (by omega)
   refine⟨(xs,cps,cap,cap,IntKind.i64.wrap (i+1)),[],?_,⟨rfl,rfl⟩,kp_,kp_⟩
   dsimp only
   rw[w3]
   exact⟨⟨hP,hcl,rfl,by omega,by omega⟩,by omega⟩
 ·exact⟨xs,cps,cap,cap,20,19,rfl,rfl,rfl,hP⟩
theorem copies_calls (x:CfgA) (c:Cfg) (A0:Option Addr) (cap0:Nat) (l:List Int) (key:Int) (w:World) (hV:CfgV c) (hz:l.length≤400) (hc:CfgOk w (·<w.heap.size) x c) (hr:Rd w (·<w.heap.size) A0 (flat intC l)) :
  Calls Try.prog 36 #[.agg (cfgC x c),.slice A0 l.length cap0,.int .i64 key] w fun e w'=>∃ xs cps cap cp r u mem' nx' C' ρ',e=.returned (.slice ((ρ':Nat→Pl) r).A (xs:List Atl).length cap)∧MemAt C' ρ' mem' nx' w'∧(C':Ctx).w0=w∧lk mem' r=some (deepA (1000000+46) cp xs cps u)∧lk mem' u=some (famB 500000 xs)∧CopyP c key xs∧Below w.heap.size w w':=by
 have:=uni_calls ttLok cyFok Try.func36 rfl (D:=cyD) (by kernel_rfl) (vs:=[cfgV CNu (ck x) c,slc 0 l.length cap0,.int .i64 key]) rfl { a0:=A0,x:=x } { l0:=l,c:=c } w { r0:=hr,c:=hc } (fun v hv=>by
  simp only[List.mem_cons,List.not_mem_nil,or_false] at hv
  rcases hv with rfl | rfl | rfl
  ·exact upl_cfg_ok { a0:=A0,x:=x } { l0:=l,c:=c }
  ·exact⟨show (0:Nat)<13 by decide,rfl⟩
  ·trivial) (copies_sx { l0:=l,c:=c } (ck x) cap0 key hV hz)
 rw[List.map_cons] at this
 have e0:=upl_cfg { a0:=A0,x:=x } { l0:=l,c:=c }
 dsimp only at e0 this
 rw[e0] at this
 refine this.mono ?_
 rintro e w' ⟨v,mem',nx',ρ',rfl,⟨xs,cps,cap,cp,r,u,rfl,h1,h2,hP⟩,hv,hm',hb⟩
 exact⟨xs,cps,cap,cp,r,u,mem',nx',_,ρ',rfl,hm',rfl,h1,h2,hP,hb⟩
def ctCopies:CT:=fun vs mem nx K=>∃ N x c v l key,vs=[cfgV N x c,v,.int .i64 key]∧(HasCfg mem N c∧SrcR mem 1 intC 0 (l:List Int) v)∧(CfgV c∧l.length≤400)∧∀ xs cps cap,CopyP c key xs→K (.slice (some ⟨nx+1,0,none⟩) xs.length cap) ((nx+1,deepA 500000 0 xs cps nx)::(nx,famB 500000 xs)::mem) (nx+1+1)
theorem copiesOk:CSound Try.prog 36 ctCopies:=⟨by kernel_rfl,fun {C ρ fr mem nx a w vs K} hc hs hv=>by
 obtain⟨N,x,c,v,l,key,rfl,⟨hk,hr⟩,⟨hV,hl⟩,hK⟩:=hc
 obtain⟨A,cap0,e0,hr⟩:=hs.srcR (enc:=intC) (sz:=1) (fun _=>rfl) (by omega) hr
 have e1:([cfgV N x c,v,.int .i64 key].map (den ρ)).toArray=#[.agg (cfgC (cfgX ρ N x) c),.slice A l.length cap0,.int .i64 key]:=by
  rw[List.map_cons,List.map_cons,den_cfg,e0]
  rfl
 rw[e1]
 refine (copies_calls (cfgX ρ N x) c A cap0 l key w hV hl (hs.cfgH hk) hr).mono ?_
 rintro e w' ⟨xs,cps,cap,cp,r,u,mem',nx',C',ρ',rfl,hm,hw,h1,h2,hP,hb⟩
 have q:=hs.takeDeep hb hm hw h1 (.inl rfl) h2 rfl
 have q1:setPl (setPl ρ nx (plF ρ' u)) (nx+1) (plD ρ' r 5 xs.length) (nx+1)=plD ρ' r 5 xs.length:=setPl_same _ _ _
 refine⟨.slice (some ⟨nx+1,0,none⟩) xs.length cap,_,_,_,?_,hK xs cps cap hP,q,?_,fun i hi=>?_,by omega⟩
 ·show Ending.returned (.slice (ρ' r).A xs.length cap)=.returned (.slice (setPl (setPl ρ nx (plF ρ' u)) (nx+1) (plD ρ' r 5 xs.length) (nx+1)).A xs.length cap)
  rw[q1]
 ·exact⟨show nx+1<nx+1+1 by omega,by rw[q1]⟩
 ·rw[setPl_lt _ _ (by omega),setPl_lt _ _ hi]⟩
/-! Taking copies: what all laws of the router need. -/
theorem CopyP.ge {c:Cfg} {key:Int} {xs:List Atl} (hP:CopyP c key xs):∀ k,k<xs.length→(k:Int)≤(xs.getD k aZ).number
 | 0,_=>by rw[hP.first];exact Int.le_refl _
 | k+1,hk=>by
  have h1:=hP.ge k (by omega)
  have h2:=hP.inc k hk
  omega
theorem CopyP.valid {c:Cfg} {key:Int} {xs:List Atl} (hP:CopyP c key xs) (hE:cfgErr c=0) {k:Nat} (hk:k<xs.length):ValidA c (xs.getD k aZ) key:=by
 obtain⟨s,par,hJ,e⟩:=hP.made k hk
 rw[e]
 exact make_valid hE (cfgV_of hE) hJ.inv par key
theorem CopyP.len {c:Cfg} {key:Int} {xs:List Atl} (hP:CopyP c key xs) {k:Nat} (hk:k<xs.length):(xs.getD k aZ).routes.length=c.tenants.length:=by
 obtain⟨s,par,hJ,e⟩:=hP.made k hk
 rw[e]
 show (routesOf s).length=_
 rw[routes_len,hJ.inv.lt]
theorem CopyP.invalid {c:Cfg} {key other:Int} {xs:List Atl} (hP:CopyP c other xs) (h1:in64 key) (h2:in64 other) (hne:key≠other) {k:Nat} (hk:k<xs.length):¬ ValidA c (xs.getD k aZ) key:=by
 obtain⟨s,par,hJ,e⟩:=hP.made k hk
 rw[e]
 intro q
 have h:=q.sum
 rw[sum_make,body_make,par_make] at h
 exact hne (chain_key h1 h2 h.symm)
theorem mkLight_below (A:Option Addr) (n cp:Nat) (w:World) (hn:n≤maxLen):Calls Try.prog 13 #[.slice A n cp] w fun r w'=>r=.returned (.bool (decide (n≤200)))∧Below w.heap.size w w':=by
 refine (mkLight_any A n cp w hn).mono ?_
 rintro e w' ⟨h,rfl⟩
 exact⟨h,Below.refl _ _⟩
def ctLight:CT:=fun vs mem nx K=>∃ Mz0 xz0 z0,vs=[slc Mz0 (z0:List Int).length xz0]∧(lk mem Mz0=some (intRow z0))∧(z0.length≤maxLen)∧K (.bool (decide (z0.length≤200))) mem nx
theorem lightOk:CSound Try.prog 13 ctLight:=(ptsOk (R:=fun l z=>∃ z0,l=[.li z0]∧z=.bool (decide (z0.length≤200))) (pre:=fun l=>∃ z0,l=[.li z0]∧(z0.length≤maxLen)) (by kernel_rfl) (by
 rintro ps w ⟨z0,hps,hpre⟩ hok
 obtain⟨xz0,yz0,ps0,rfl,hps0⟩:=dt_l hps
 obtain rfl:=dt_nil hps0
 have hpz0:=hok (.li xz0 yz0 z0) (by simp)
 refine (mkLight_below xz0 z0.length yz0 w hpre).mono ?_
 rintro e w' ⟨rfl,hb⟩
 exact⟨_,⟨z0,rfl,rfl⟩,trivial,rfl,hb⟩)).mono (by
 rintro vs mem nx K ⟨Mz0,xz0,z0,rfl,hk,hpre,hK⟩
 exact⟨[.li Mz0 xz0 z0],rfl,⟨hk,trivial⟩,⟨_,rfl,hpre⟩,by rintro z ⟨z0',hl,hz⟩;cases hl;subst hz;exact hK⟩)
end Go.Proofs.Ytdjkeplekchfdaa
