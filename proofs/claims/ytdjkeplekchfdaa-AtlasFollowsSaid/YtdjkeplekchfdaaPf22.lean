import Derived.Test.YtdjkeplekchfdaaPf21
namespace Go.Proofs.Ytdjkeplekchfdaa
open Go.RowKit
set_option linter.unusedSimpArgs false
set_option linter.unusedVariables false
/-! make.Log,exactly. -/
def lgS (zs:List Int) (c:Cfg) (q:Int×St×List Ent):Int×St×List Ent:=
 if (applyP c q.2.1 (enE zs c q.2.1 q.1).1).2=0 then ((enE zs c q.2.1 q.1).2,(applyP c q.2.1 (enE zs c q.2.1 q.1).1).1,q.2.2++[(enE zs c q.2.1 q.1).1]) else ((enE zs c q.2.1 q.1).2,q.2.1,q.2.2)
def lgC (zs:List Int) (n:Int) (q:Int×St×List Ent):Prop:=(q.2.2.length:Int)<n∧q.1<zs.length
inductive LgT (zs:List Int) (c:Cfg) (n:Int):Int×St×List Ent→Int×St×List Ent→Prop
 | refl (q):LgT zs c n q q
 | step {q r}:lgC zs n q→LgT zs c n (lgS zs c q) r→LgT zs c n q r
theorem LgT.trans {zs:List Int} {c:Cfg} {n:Int} {p q r:Int×St×List Ent} (h:LgT zs c n p q) (h2:LgT zs c n q r):LgT zs c n p r:=by
 induction h with
 | refl _=>exact h2
 | step hc _ ih=>exact .step hc (ih h2)
theorem LgT.snoc {zs:List Int} {c:Cfg} {n:Int} {p q:Int×St×List Ent} (h:LgT zs c n p q) (hc:lgC zs n q):LgT zs c n p (lgS zs c q):=h.trans (.step hc (.refl _))
theorem LgT.snoc2 {zs:List Int} {c:Cfg} {n:Int} {p:Int×St×List Ent} {k:Int} {s:St} {es:List Ent} (h:LgT zs c n p (k,s,es)) (h1:(es.length:Int)<n) (h2:k<zs.length) {q:Int×St×List Ent} (e:lgS zs c (k,s,es)=q):LgT zs c n p q:=e ▸ h.snoc ⟨h1,h2⟩
theorem LgT.more {zs:List Int} {c:Cfg} {n m:Int} (hnm:n≤m) {p q:Int×St×List Ent} (h:LgT zs c n p q):LgT zs c m p q:=by
 induction h with
 | refl _=>exact .refl _
 | step hc _ ih=>exact .step ⟨by have:=hc.1;omega,hc.2⟩ ih
theorem LgT.meet {zs:List Int} {c:Cfg} {n:Int} {p q r:Int×St×List Ent} (h:LgT zs c n p q) (h2:LgT zs c n p r) (hr:¬ lgC zs n r):LgT zs c n q r:=by
 induction h with
 | refl _=>exact h2
 | step hc _ ih=>
  cases h2 with
  | refl _=>exact absurd hc hr
  | step _ h3=>exact ih h3
theorem Run.app {c:Cfg} {s s' s2:St} {es l:List Ent} (h:Run c s es s') (h2:Run c s' l s2):Run c s (es++l) s2:=by
 induction h with
 | nil _=>exact h2
 | cons he _ ih=>exact .cons he (ih h2)
theorem lgS_run (zs:List Int) (c:Cfg) (q:Int×St×List Ent):∃ es,Run c q.2.1 es (lgS zs c q).2.1:=by
 unfold lgS
 split
 ·rename_i h
  exact⟨[_],.cons (e:=(enE zs c q.2.1 q.1).1) (by rw[← h]) (.nil _)⟩
 ·exact⟨[],.nil _⟩
theorem LgT.run {zs:List Int} {c:Cfg} {n:Int} {p q:Int×St×List Ent} (h:LgT zs c n p q):∃ es,Run c p.2.1 es q.2.1:=by
 induction h with
 | refl q=>exact⟨[],.nil _⟩
 | step hc _ ih=>
  obtain⟨e1,h1⟩:=lgS_run zs c _
  obtain⟨e2,h2⟩:=ih
  exact⟨e1++e2,h1.app h2⟩
theorem lgS_yes {zs:List Int} {c:Cfg} {k k2:Int} {s s2:St} {es:List Ent} {en:Ent} (e:enE zs c s k=(en,k2)) (h:applyP c s en=(s2,0)):lgS zs c (k,s,es)=(k2,s2,es++[en]):=by
 unfold lgS
 dsimp only
 rw[e]
 dsimp only
 rw[h,if_pos rfl]
theorem lgS_no {zs:List Int} {c:Cfg} {k k2:Int} {s:St} {es:List Ent} {en:Ent} (e:enE zs c s k=(en,k2)) (h:¬ (applyP c s en).2=0):lgS zs c (k,s,es)=(k2,s,es):=by
 unfold lgS
 dsimp only
 rw[e]
 dsimp only
 rw[if_neg h]
def StX (zs:List Int) (c:Cfg) (n:Int) (s:St):Prop:=∃ k es,LgT zs c n (0,stNew c,[]) (k,s,es)∧¬ lgC zs n (k,s,es)
theorem StX.run {zs:List Int} {c:Cfg} {n m:Int} (hnm:n≤m) {s t:St} (hs:StX zs c n s) (ht:StX zs c m t):∃ es,Run c s es t:=by
 obtain⟨k,es,h1,-⟩:=hs
 obtain⟨k2,es2,h2,h3⟩:=ht
 exact ((h1.more hnm).meet h2 h3).run
def lgXF:FT:=[(46,ctTapeNew),(77,ctNewR),(79,ctMoreX),(80,ctEntryX),(78,ctApplyR)]
theorem lgXFok:FTok Try.prog lgXF:=ft_cons tapeNewOk (ft_cons newROk (ft_cons moreXOk (ft_cons entryXOk (ft_cons applyROk ft_nil))))
def lgXD:List (Nat×DQ):=[(3000004,{ k:=21,L:=[0,1,2,3,4,5,6,7,8,9,10,11,12,13],sl:=[2,4,7,8] })]
set_option maxRecDepth 100000 in
set_option maxHeartbeats 8000000 in
theorem logX_sx (d:UD) (x:CfgK) (cap0:Nat) (n:Int) (hV:CfgV d.c) (hz:d.l0.length≤400) (hn:0≤n∧n≤1000) :
  sx tt lgXF lgXD (bodyOf Try.f59) (argF 0 [slc 0 d.l0.length cap0,cfgV CNu x d.c,.int .i64 n]) (uniM d) 13 (endx tt Try.f59.results.toList fun v mem' _=>∃ es s,(Run d.c (stNew d.c) es s∧∃ k,LgT d.l0 d.c n (0,stNew d.c,[]) (k,s,es)∧¬ lgC d.l0 n (k,s,es))∧(es.length:Int)≤n∧SlR mem' 9 entC default es v∧LenCap es.length v):=by
 have hnt:=hV.nt
 have hnc:=hV.nc
 refine⟨0,cap0,d.l0,rfl,rfl,by omega,?_⟩
 refine⟨CNu,x,d.c,rfl,kp_,⟨by omega,by omega,by omega⟩,?_⟩
 intro y0
 refine⟨St×StK×Int×List Ent×Option (Nat×(Nat→List Value)),fun q=>match q with | (s,y,k,es,none)=>[(9,zs0)] | (s,y,k,es,some (cap,el))=>[(9,slc 20 es.length cap)],fun q=>match q with | (s,y,k,es,none)=>[(14,tapeB 0 d.l0.length cap0 k),(17,.box 51 [.int .i64 s.tick,.int .i64 s.count,slc 18 s.tenants.length y.ct,slc 19 s.cells.length y.cc,.int .i64 s.proven,.int .i64 s.evac,.int .i64 s.low,.int .i64 s.high]),(18,rowOfL 500000 12 tsC default s.tenants),(19,rowOfL 500000 4 csC default s.cells)] | (s,y,k,es,some (cap,el))=>(20,.row (1000000+143) 9 cap el)::[(14,tapeB 0 d.l0.length cap0 k),(17,.box 51 [.int .i64 s.tick,.int .i64 s.count,slc 18 s.tenants.length y.ct,slc 19 s.cells.length y.cc,.int .i64 s.proven,.int .i64 s.evac,.int .i64 s.low,.int .i64 s.high]),(18,rowOfL 500000 12 tsC default s.tenants),(19,rowOfL 500000 4 csC default s.cells)],fun q=>match q with | (s,y,k,es,o)=>(Run d.c (stNew d.c) es s∧LgT d.l0 d.c n (0,stNew d.c,[]) (k,s,es))∧(0≤k∧k≤445)∧(es.length:Int)≤n∧match o with | none=>es=[] | some (cap,el)=>es.length≤cap∧∀ j,j<es.length→el j=entC (es.getD j default),fun q=>match q with | (s,y,k,es,o)=>(1000-k).toNat,⟨(stNew d.c,y0,0,[],none),[(18,16),(19,15)],⟨⟨.nil _,.refl _⟩,by omega,by simpa using hn.1,rfl⟩,⟨rfl,rfl⟩,kp_,kp_⟩,?_⟩
 rintro⟨s,y,k,es,(_ | ⟨cap,el⟩)⟩ ⟨hR,hk,hn2,ho⟩
 ·refine⟨⟨by decide,rfl,rfl⟩,?_⟩
  refine⟨fun hc=>?_,fun hc=>?_⟩
  ·refine⟨14,0,cap0,d.l0,_,[],rfl,⟨rfl,rfl⟩,⟨by omega,by omega,by omega⟩,rfl,?_⟩
   rintro _ k1 ⟨b1,rfl,rfl,hb1⟩
   refine⟨fun hb=>?_,fun hb=>?_⟩
   ·have hkl:k1<d.l0.length:=of_decide_eq_true (hb1.trans hb)
    have hlen:(es.length:Int)<n:=by rw[show es=[] from ho];exact of_decide_eq_true hc
    clear hb1
    have hI:=(hR.1.rinv hV (.new hV)).inv
    have hcp:=(hR.1.rinv hV (.new hV)).cap
    refine⟨14,0,cap0,d.l0,_,CNu,x,d.c,⟨18,19,500000⟩,y,s,[],rfl,⟨rfl,rfl⟩,kp_,kp_,⟨by omega,by omega,by omega⟩,⟨⟨hV,hI,by omega⟩,rfl⟩,?_⟩
    rintro _ k2 ⟨en,rfl,een,hk2a,hk2b,hk2c⟩
    refine⟨CNu,x,d.c,⟨18,19,500000⟩,y,s,en,rfl,⟨kp_,.list rfl,.list rfl⟩,⟨hV,hI⟩,?_⟩
    intro y2
    rw[applyRP hV hI hcp]
    refine⟨fun he=>?_,fun he=>?_⟩
    ·have he2:applyP d.c s en=((applyP d.c s en).1,0):=by
      have q:(applyP d.c s en).2=0:=by simpa using he
      rw[← q]
     have he0:es=[]:=ho
     subst he0
     refine⟨⟨Nat.le_refl _,fun j hj=>by match j,hj with | 0,_=>rfl⟩,?_⟩
     refine⟨fun h=>absurd h (by decide),fun _=>⟨by decide,fun cap2 el2 hc2 hel2=>?_⟩⟩
     refine⟨((applyP d.c s en).1,y2,k2,[en],some (cap2,el2)),[(18,23),(19,22),(20,26)],?_,⟨rfl,rfl⟩,kp_,kp_⟩
     dsimp only
     refine⟨⟨⟨hR.1.snoc he2,hR.2.snoc2 (by omega) hkl (lgS_yes een he2)⟩,by omega,by simp;omega,hc2,fun j hj=>?_⟩,by omega⟩
     obtain rfl:j=0:=by simpa using hj
     exact hel2 0 (by omega)
    ·refine⟨(s,y,k2,es,none),[],?_,⟨rfl,rfl⟩,kp_,kp_⟩
     dsimp only
     exact⟨⟨⟨hR.1,hR.2.snoc2 (by omega) hkl (lgS_no een (by simpa using he))⟩,by omega,hn2,ho⟩,by omega⟩
   ·exact⟨es,s,⟨hR.1,_,hR.2,(fun h=>absurd (hb1.symm.trans (decide_eq_true h.2)) (by rw[hb];decide))⟩,hn2,.inl ⟨rfl,ho⟩,none,0,0,rfl,(by rw[ho];decide)⟩
  ·refine⟨fun h=>Bool.noConfusion h,fun _=>?_⟩
   exact⟨es,s,⟨hR.1,_,hR.2,(fun h=>by have h1:=h.1;have hc2:=of_decide_eq_false hc;rw[show es=[] from ho] at h1;dsimp only at h1;omega)⟩,hn2,.inl ⟨rfl,ho⟩,none,0,0,rfl,(by rw[ho];decide)⟩
 ·refine⟨⟨by decide,rfl,rfl⟩,?_⟩
  refine⟨fun hc=>?_,fun hc=>?_⟩
  ·refine⟨14,0,cap0,d.l0,_,[],rfl,⟨rfl,rfl⟩,⟨by omega,by omega,by omega⟩,rfl,?_⟩
   rintro _ k1 ⟨b1,rfl,rfl,hb1⟩
   refine⟨fun hb=>?_,fun hb=>?_⟩
   ·have hkl:k1<d.l0.length:=of_decide_eq_true (hb1.trans hb)
    have hlen:(es.length:Int)<n:=of_decide_eq_true hc
    clear hb1
    have hI:=(hR.1.rinv hV (.new hV)).inv
    have hcp:=(hR.1.rinv hV (.new hV)).cap
    refine⟨14,0,cap0,d.l0,_,CNu,x,d.c,⟨18,19,500000⟩,y,s,[],rfl,⟨rfl,rfl⟩,kp_,kp_,⟨by omega,by omega,by omega⟩,⟨⟨hV,hI,by omega⟩,rfl⟩,?_⟩
    rintro _ k2 ⟨en,rfl,een,hk2a,hk2b,hk2c⟩
    refine⟨CNu,x,d.c,⟨18,19,500000⟩,y,s,en,rfl,⟨kp_,.list rfl,.list rfl⟩,⟨hV,hI⟩,?_⟩
    intro y2
    rw[applyRP hV hI hcp]
    refine⟨fun he=>?_,fun he=>?_⟩
    ·have he2:applyP d.c s en=((applyP d.c s en).1,0):=by
      have q:(applyP d.c s en).2=0:=by simpa using he
      rw[← q]
     refine⟨⟨Nat.le_refl _,fun j hj=>by match j,hj with | 0,_=>rfl⟩,?_⟩
     refine⟨⟨rfl,ho.1⟩,fun hin el2 g1 g2=>?_,fun hgt=>⟨by show (es.length+1) * 72≤140737488355328;omega,fun cap2 el2 hc2 g1 g2=>?_⟩⟩
     ·rw[show es.length+1=(es++[en]).length by simp]
      refine⟨((applyP d.c s en).1,y2,k2,es++[en],some (cap,el2)),[(18,23),(19,22)],?_,⟨rfl,rfl⟩,kp_,kp_⟩
      dsimp only
      refine⟨⟨⟨hR.1.snoc he2,hR.2.snoc2 (by omega) hkl (lgS_yes een he2)⟩,by omega,by simp;omega,by first | exact hc2 | (simp;omega),fun j hj=>?_⟩,by omega⟩
      by_cases hjn:j<es.length
      ·rw[g1 j hjn,ho.2 j hjn,List.getD_eq_getElem?_getD,List.getD_eq_getElem?_getD,List.getElem?_append_left hjn]
      ·obtain rfl:j=es.length:=by simp at hj;omega
       have:=g2 0 (by omega)
       rw[Nat.add_zero] at this
       rw[this,List.getD_eq_getElem?_getD,List.getElem?_append_right (Nat.le_refl _),Nat.sub_self]
       rfl
     ·rw[show es.length+1=(es++[en]).length by simp] at hc2 ⊢
      refine⟨((applyP d.c s en).1,y2,k2,es++[en],some (cap2,el2)),[(18,23),(19,22),(20,26)],?_,⟨rfl,rfl⟩,kp_,kp_⟩
      dsimp only
      refine⟨⟨⟨hR.1.snoc he2,hR.2.snoc2 (by omega) hkl (lgS_yes een he2)⟩,by omega,by simp;omega,by first | exact hc2 | (simp;omega),fun j hj=>?_⟩,by omega⟩
      by_cases hjn:j<es.length
      ·rw[g1 j hjn,ho.2 j hjn,List.getD_eq_getElem?_getD,List.getD_eq_getElem?_getD,List.getElem?_append_left hjn]
      ·obtain rfl:j=es.length:=by simp at hj;omega
       have:=g2 0 (by omega)
       rw[Nat.add_zero] at this
       rw[this,List.getD_eq_getElem?_getD,List.getElem?_append_right (Nat.le_refl _),Nat.sub_self]
       rfl
    ·refine⟨(s,y,k2,es,some (cap,el)),[],?_,⟨rfl,rfl⟩,kp_,kp_⟩
     dsimp only
     exact⟨⟨⟨hR.1,hR.2.snoc2 (by omega) hkl (lgS_no een (by simpa using he))⟩,by omega,hn2,ho⟩,by omega⟩
   ·exact⟨es,s,⟨hR.1,_,hR.2,(fun h=>absurd (hb1.symm.trans (decide_eq_true h.2)) (by rw[hb];decide))⟩,hn2,.inr ⟨20,_,_,cap,el,rfl,rfl,rfl,ho.1,ho.2⟩,_,_,cap,rfl,ho.1⟩
  ·refine⟨fun h=>Bool.noConfusion h,fun _=>?_⟩
   exact⟨es,s,⟨hR.1,_,hR.2,(fun h=>by have h1:=h.1;have hc2:=of_decide_eq_false hc;dsimp only at h1;omega)⟩,hn2,.inr ⟨20,_,_,cap,el,rfl,rfl,rfl,ho.1,ho.2⟩,_,_,cap,rfl,ho.1⟩
theorem mkLogX_calls (x:CfgA) (c:Cfg) (A0:Option Addr) (cap0:Nat) (l:List Int) (n:Int) (w:World) (hV:CfgV c) (hz:l.length≤400) (hn:0≤n∧n≤1000) (hc:CfgOk w (·<w.heap.size) x c) (hr:Rd w (·<w.heap.size) A0 (flat intC l)) :
  Calls Try.prog 59 #[.slice A0 l.length cap0,.agg (cfgC x c),.int .i64 n] w fun e w'=>∃ es s A cap,e=.returned (.slice A (es:List Ent).length cap)∧(Run c (stNew c) es s∧∃ k,LgT l c n (0,stNew c,[]) (k,s,es)∧¬ lgC l n (k,s,es))∧(es.length:Int)≤n∧es.length≤cap∧Rd w' (fun b=>w.heap.size≤b∧b<w'.heap.size) A (flat entC es)∧Below w.heap.size w w':=by
 have:=uni_calls ttOk (lgXFok.i _) Try.func59 rfl (D:=lgXD) (by kernel_rfl) (vs:=[slc 0 l.length cap0,cfgV CNu (ck x) c,.int .i64 n]) rfl { a0:=A0,x:=x } { l0:=l,c:=c } w { r0:=hr,c:=hc } (fun v hv=>by
  simp only[List.mem_cons,List.not_mem_nil,or_false] at hv
  rcases hv with rfl | rfl | rfl
  ·exact⟨show (0:Nat)<13 by decide,rfl⟩
  ·exact upl_cfg_ok { a0:=A0,x:=x } { l0:=l,c:=c }
  ·trivial) (logX_sx { l0:=l,c:=c } (ck x) cap0 n hV hz hn)
 rw[List.map_cons,List.map_cons] at this
 have e0:=upl_cfg { a0:=A0,x:=x } { l0:=l,c:=c }
 dsimp only at e0 this
 rw[e0] at this
 refine this.mono ?_
 rintro e w' ⟨v,mem',nx',ρ',rfl,⟨es,s,hR,hen,hS,A1,m1,cap1,rfl,hcap⟩,hv,hm',hb⟩
 obtain⟨A,cp,e1,hr'⟩:=hm'.slR (enc:=entC) (sz:=9) (fun _=>rfl) (by omega) hS
 have e2:den ρ' (.slice A1 m1 cap1)=.slice A es.length cp:=e1
 have e3:cap1=cp:=by cases A1<;>simp[den1] at e1<;>exact e1.2.2
 exact⟨es,s,A,cp,by rw[e2],hR,hen,e3 ▸ hcap,hr',hb⟩
def ctLogX:CT:=fun vs mem nx K=>∃ N x c r cap l n,vs=[slc r (l:List Int).length cap,cfgV N x c,.int .i64 n]∧(keeps mem (cfgM N c)∧HasRow mem r 1 intC 0 l)∧(CfgV c∧l.length≤400∧0≤n∧n≤1000)∧∀ es s cap',(Run c (stNew c) es s∧∃ k,LgT l c n (0,stNew c,[]) (k,s,es)∧¬ lgC l n (k,s,es))→(es.length:Int)≤n→es.length≤cap'→K (slc nx es.length cap') ((nx,rowOfL 500000 9 entC default es)::mem) (nx+1)
theorem logXOk:CSound Try.prog 59 ctLogX:=⟨by kernel_rfl,fun {C ρ fr mem nx a w vs K} hc hs hv=>by
 obtain⟨N,x,c,r,cap,l,n,rfl,⟨hk,hr⟩,⟨hV,hl,hn⟩,hK⟩:=hc
 have e0:([slc r l.length cap,cfgV N x c,.int .i64 n].map (den ρ)).toArray=#[.slice (ρ r).A l.length cap,.agg (cfgC (cfgX ρ N x) c),.int .i64 n]:=by
  rw[List.map_cons,List.map_cons,den_cfg]
  rfl
 rw[e0]
 refine (mkLogX_calls (cfgX ρ N x) c (ρ r).A cap l n w hV hl hn (hs.cfg hk (fun b h _=>h)) (hs.hasRd (enc:=intC) (sz:=1) (fun _=>rfl) (by omega) hr)).mono ?_
 rintro e w' ⟨es,s,A,cp,rfl,hR,hen,hcp,hrd,hb⟩
 obtain⟨q1,-⟩:=(hs.later hb).addList hs.frB hs.rest.size (enc:=entC) (sz:=9) (fun _=>rfl) (by omega) entC_plain default (t:=500000) rfl hrd
 have q2:setPl ρ nx ⟨A,9,es.length,false,noSub⟩ nx=⟨A,9,es.length,false,noSub⟩:=setPl_same _ _ _
 refine⟨slc nx es.length cp,_,_,_,?_,hK es s cp hR hen hcp,q1,?_,fun i hi=>setPl_lt _ _ hi,by omega⟩
 ·show Ending.returned (.slice A es.length cp)=.returned (.slice (setPl ρ nx ⟨A,9,es.length,false,noSub⟩ nx).A es.length cp)
  rw[q2]
 ·exact⟨show nx<nx+1 by omega,by rw[q2]⟩⟩
/-! make.State,exactly. -/
def msXF:FT:=[(59,ctLogX),(58,ctFoldR)]
theorem msXFok:FTok Try.prog msXF:=ft_cons logXOk (ft_cons foldROk ft_nil)
def msXD:List (Nat×DQ):=[(1,{ k:=13,L:=[13],A:=[10],pre:=[(0,false),(1,false),(2,false),(3,false),(4,true),(5,true),(6,false),(7,false),(8,false),(9,false)],post:=[(11,true),(12,false)] })]
set_option maxRecDepth 100000 in
set_option maxHeartbeats 8000000 in
theorem mkStateX_sx (d:UD) (x:CfgK) (cap0:Nat) (n:Int) (hV:CfgV d.c) (hz:d.l0.length≤400) (hn:0≤n∧n≤1000) :
  sx tt msXF msXD (bodyOf Try.f21) (argF 0 [slc 0 d.l0.length cap0,cfgV CNu x d.c,.int .i64 n]) (uniM d) 13 (endx tt Try.f21.results.toList fun v mem' _=>∃ es s y,(Run d.c (stNew d.c) es s∧StX d.l0 d.c n s)∧(es.length:Int)≤n∧v=stV ⟨18,17,500000⟩ y s∧keeps mem' (stM ⟨18,17,500000⟩ s)):=by
 have hnt:=hV.nt
 have hnc:=hV.nc
 refine⟨CNu,x,d.c,0,cap0,d.l0,n,rfl,⟨kp_,?_⟩,⟨hV,hz,hn⟩,?_⟩
 ·exact⟨_,_,_,rfl,Nat.le_refl _,fun k hk=>rfl⟩
 rintro es s cap2 ⟨hR,kx,hL1,hL2⟩ hen hcp
 refine⟨kp_,?_⟩
 refine⟨CNu,x,d.c,16,cap2,es,rfl,⟨kp_,⟨_,_,_,rfl,Nat.le_refl _,fun k hk=>rfl⟩⟩,⟨hV,by omega⟩,?_⟩
 intro y
 rw[hR.foldC]
 refine⟨kp_,?_⟩
 refine⟨kp_,?_⟩
 exact⟨es,s,y,⟨hR,kx,es,hL1,hL2⟩,hen,rfl,kp_⟩
theorem mkStateX_calls (x:CfgA) (c:Cfg) (A0:Option Addr) (cap0:Nat) (l:List Int) (n:Int) (w:World) (hV:CfgV c) (hz:l.length≤400) (hn:0≤n∧n≤1000) (hc:CfgOk w (·<w.heap.size) x c) (hr:Rd w (·<w.heap.size) A0 (flat intC l)) :
  Calls Try.prog 21 #[.slice A0 l.length cap0,.agg (cfgC x c),.int .i64 n] w fun e w'=>∃ es s y,e=.returned (.agg (stC y s))∧(Run c (stNew c) es s∧StX l c n s)∧(es.length:Int)≤n∧StOk w' (fun b=>w.heap.size≤b∧b<w'.heap.size) y s∧Below w.heap.size w w':=by
 have:=uni_calls ttOk (msXFok.i _) Try.func21 rfl (D:=msXD) (by kernel_rfl) (vs:=[slc 0 l.length cap0,cfgV CNu (ck x) c,.int .i64 n]) rfl { a0:=A0,x:=x } { l0:=l,c:=c } w { r0:=hr,c:=hc } (fun v hv=>by
  simp only[List.mem_cons,List.not_mem_nil,or_false] at hv
  rcases hv with rfl | rfl | rfl
  ·exact⟨show (0:Nat)<13 by decide,rfl⟩
  ·exact upl_cfg_ok { a0:=A0,x:=x } { l0:=l,c:=c }
  ·trivial) (mkStateX_sx { l0:=l,c:=c } (ck x) cap0 n hV hz hn)
 rw[List.map_cons,List.map_cons] at this
 have e0:=upl_cfg { a0:=A0,x:=x } { l0:=l,c:=c }
 dsimp only at e0 this
 rw[e0] at this
 refine this.mono ?_
 rintro e w' ⟨v,mem',nx',ρ',rfl,⟨es,s,y,hR,hen,rfl,k1,k2,-⟩,hv,hm',hb⟩
 refine⟨es,s,⟨(ρ' 18).A,y.ct,(ρ' 17).A,y.cc⟩,?_,hR,hen,⟨?_,?_⟩,hb⟩
 ·rw[den_st]
  rfl
 ·exact (hm'.blk 18 _ k1).fresh (enc:=tsC) default rfl rfl (fun k hk=>rfl) (fun _=>rfl) (by omega)
 ·exact (hm'.blk 17 _ k2).fresh (enc:=csC) default rfl rfl (fun k hk=>rfl) (fun _=>rfl) (by omega)
def ctStateX:CT:=fun vs mem nx K=>∃ N x c v l n,vs=[v,cfgV N x c,.int .i64 n]∧(HasCfg mem N c∧SrcR mem 1 intC 0 (l:List Int) v)∧(CfgV c∧l.length≤400∧0≤n∧n≤1000)∧∀ es s y,(Run c (stNew c) es s∧StX l c n s)→(es.length:Int)≤n→K (stV ⟨nx+1,nx,500000⟩ y s) (stM ⟨nx+1,nx,500000⟩ s++mem) (nx+2)
theorem stateXOk:CSound Try.prog 21 ctStateX:=⟨by kernel_rfl,fun {C ρ fr mem nx a w vs K} hc hs hv=>by
 obtain⟨N,x,c,v,l,n,rfl,⟨hk,hr⟩,⟨hV,hl,hn⟩,hK⟩:=hc
 obtain⟨A,cap,e0,hr⟩:=hs.srcR (enc:=intC) (sz:=1) (fun _=>rfl) (by omega) hr
 have e0:([v,cfgV N x c,.int .i64 n].map (den ρ)).toArray=#[.slice A l.length cap,.agg (cfgC (cfgX ρ N x) c),.int .i64 n]:=by
  rw[List.map_cons,List.map_cons,den_cfg,e0]
  rfl
 rw[e0]
 refine (mkStateX_calls (cfgX ρ N x) c A cap l n w hV hl hn (hs.cfgH hk) hr).mono ?_
 rintro e w' ⟨es,s,y,rfl,hR,hen,hst,hb⟩
 obtain⟨q1,q2,q3,q4⟩:=hs.addSt hb hst
 exact⟨_,_,_,_,by rw[q2],hK es s ⟨y.ct,y.cc⟩ hR hen,q1,q3,q4⟩⟩
/-! law15.chain: the atlases of the states of a log,each with more entries than the one before it. -/
structure ChainP (c:Cfg) (key:Int) (xs:List Atl):Prop where
 ne:1≤xs.length
 le:xs.length≤8
 made:∀ k,k<xs.length→∃ s par,RInv c s∧xs.getD k aZ=makeA s par key
 fol:∀ k,k+1<xs.length→FolA (xs.getD k aZ) (xs.getD (k+1) aZ)
theorem ChainP.one {c:Cfg} {key:Int} {s:St} (h:RInv c s) (par:Int):ChainP c key [makeA s par key]:=
 ⟨Nat.le_refl _,by simp,fun k hk=>(match k,hk with | 0,_=>⟨s,par,h,rfl⟩),fun k hk=>absurd hk (by simp)⟩
theorem ChainP.snoc {c:Cfg} {key:Int} {xs:List Atl} {b:Atl} (hP:ChainP c key xs) (hl:xs.length≤7) (hm:∃ s par,RInv c s∧b=makeA s par key) (hf:FolA (xs.getD (xs.length-1) aZ) b):ChainP c key (xs++[b]):=by
 have h1:=hP.ne
 refine⟨by simp,by simpa using hl,fun k hk=>?_,fun k hk=>?_⟩
 ·by_cases q:k<xs.length
  ·rw[getD_appA q];exact hP.made k q
  ·obtain rfl:k=xs.length:=by simp at hk;omega
   rw[getD_endA];exact hm
 ·simp at hk
  by_cases q:k+1<xs.length
  ·rw[getD_appA q,getD_appA (by omega)];exact hP.fol k q
  ·obtain rfl:k=xs.length-1:=by omega
   rw[show xs.length-1+1=xs.length by omega,getD_endA,getD_appA (by omega)]
   exact hf
def chF9:FT:=[(21,ctStateX),(24,ctMakeGR)]
def chD9:List (Nat×DQ):=[(6,{ k:=11,L:=[0,1,2,3,4,5,6,7,8,9,10,11,12,13,14,15,16,17,18,19,20,21,22,23,24,25,26,27,28,29,30,31,32,33,34,35,36,37,38,39,40,41,42,43,44,45,46,47,48,49,50,51,52,53,54,55,56,57,58,59,60],A:=[10],pre:=[(0,false),(1,false),(2,false),(3,false),(4,false),(5,false),(7,false),(8,false),(6,true),(9,true)],post:=[] }),(3000004,{ k:=18,L:=[0,1,2,3,4,5,6,7,8,9,10,11,12,13],sl:=[1,2,3,4,10] })]
theorem chFok9:FTokI Try.prog chF9 (inlOf chD9):=fti_cons (stateXOk.i _) (fti_cons (makeGROk.i _) fti_nil)
set_option maxRecDepth 100000 in
set_option maxHeartbeats 4000000 in
theorem chain_sx (d:UD) (x:CfgK) (cap0:Nat) (key:Int) (hV:CfgV d.c) (hz:d.l0.length≤400) :
  sx ttL chF9 chD9 (bodyOf Try.f30) (argF 0 [cfgV CNu x d.c,slc 0 d.l0.length cap0,.int .i64 8,.int .i64 key]) (uniM d) 13 (endx ttL Try.f30.results.toList fun v mem' _=>∃ xs cps cap cp r u,v=.slice (some ⟨r,0,none⟩) xs.length cap∧lk mem' r=some (deepA (1000000+46) cp xs cps u)∧lk mem' u=some (famB 500000 xs)∧ChainP d.c key xs∧xs.length≤cap):=by
 have hnt:=hV.nt
 have hnc:=hV.nc
 refine⟨Option (Int×List Atl×List Nat×Nat×Nat×St×Int),fun q=>match q with | none=>[(9,zs0),(11,.int .i64 0)] | some (i,xs,cps,cap,cpl,s,par)=>[(9,.slice (some ⟨17,0,none⟩) xs.length cap),(11,.int .i64 i)],fun q=>match q with | none=>[(14,.box 46 [.int .i64 0,.int .i64 0,zs0,.int .u64 0,.int .u64 0])] | some (i,xs,cps,cap,cpl,s,par)=>[(14,.box 46 [.int .i64 (makeA s par key).number,.int .i64 (makeA s par key).tick,slc 15 (routesOf s).length cpl,.int .u64 (makeA s par key).parent,.int .u64 (makeA s par key).sum]),(15,rowOfL 500000 2 pairC (0,0) (routesOf s)),(16,famB 500000 xs),(17,deepA (1000000+46) cap xs cps 16)],fun q=>match q with | none=>True | some (i,xs,cps,cap,cpl,s,par)=>(RInv d.c s∧StX d.l0 d.c (3 * (i-1)+1) s)∧(ChainP d.c key xs∧cps.length=xs.length)∧((1≤i∧i≤8)∧(xs.length:Int)≤i∧xs.length≤cap)∧xs.getD (xs.length-1) aZ=(makeA s par key),fun q=>match q with | none=>9 | some (i,xs,cps,cap,cpl,s,par)=>(8-i).toNat,⟨none,[],trivial,⟨rfl,rfl⟩,kp_,kp_⟩,?_⟩
 rintro (_ | ⟨i,xs,cps,cap,cpl,s,par⟩) hI
 ·refine⟨⟨by decide,rfl,rfl⟩,?_⟩
  refine⟨fun _=>?_,fun h=>nomatch h⟩
  refine⟨CNu,x,d.c,_,d.l0,_,rfl,⟨HasCfg.keeps kp_,.inr (.inl ⟨0,_,rfl,⟨_,_,_,rfl,Nat.le_refl _,fun k hk=>rfl⟩⟩)⟩,⟨hV,hz,by decide⟩,?_⟩
  rintro es s2 y2 ⟨hR,hX⟩ hen
  have hJ:=hR.rinv hV (.new hV)
  refine⟨kp_,?_⟩
  refine⟨CNu,x,d.c,⟨20,19,500000⟩,y2,s2,_,_,_,_,_,key,rfl,⟨HasCfg.keeps kp_,.list rfl,.list rfl⟩,⟨_,_,_,rfl⟩,atlIn_st hV hJ.inv _,fun cp1=>?_⟩
  refine⟨kp_,?_⟩
  repeat (first | refine⟨fun _=>?_,fun h=>Bool.noConfusion h⟩ | refine⟨fun h=>Bool.noConfusion h,fun _=>?_⟩ | fail)
  refine⟨atlEl [makeA s2 0 key] [cp1],famA [makeA s2 0 key],⟨fun k hk=>?_,fun k hk o=>famA_out hk o⟩,?_⟩
  ·match k,hk with
   | 0,_=>exact⟨rfl,fun o=>famA_list _ o rfl⟩
  refine⟨⟨Nat.le_refl _,fun k hk=>(match k,hk with | 0,_=>rfl)⟩,?_⟩
  refine⟨⟨by decide,by decide⟩,fun cap2 hcp2=>⟨atlEl [makeA s2 0 key] [cp1],famA [makeA s2 0 key],⟨fun k hk=>⟨rfl,rfl⟩,fun k hk o=>famA_out hk o⟩,?_⟩⟩
  refine⟨some (1,[makeA s2 0 key],[cp1],cap2,cp1,s2,0),[(15,21),(16,24),(17,25)],?_,⟨rfl,rfl⟩,kp_,kp_⟩
  dsimp only
  exact⟨⟨⟨hJ,hX⟩,⟨.one hJ 0,rfl⟩,⟨⟨by decide,by decide⟩,by simp,by simpa using hcp2⟩,rfl⟩,by decide⟩
 ·obtain⟨⟨hJ0,hX0⟩,⟨hP,hcl⟩,⟨hi,hxl,hcp⟩,hlast⟩:=hI
  have hne:=hP.ne
  have hle:=hP.le
  refine⟨⟨by decide,rfl,rfl⟩,?_⟩
  refine⟨fun hc=>?_,fun hc=>?_⟩
  ·have hc2:i<8:=of_decide_eq_true hc
   have w2:IntKind.i64.wrap (IntKind.i64.wrap (3 * i)+1)=3 * i+1:=by rw[wrapi (n:=3 * i) (by omega),wrapi (by omega)]
   refine⟨CNu,x,d.c,_,d.l0,_,rfl,⟨HasCfg.keeps kp_,.inr (.inl ⟨0,_,rfl,⟨_,_,_,rfl,Nat.le_refl _,fun k hk=>rfl⟩⟩)⟩,⟨hV,hz,by rw[w2];omega⟩,?_⟩
   rintro es s2 y2 ⟨hR,hX⟩ hen
   have hJ:=hR.rinv hV (.new hV)
   refine⟨kp_,?_⟩
   rw[w2] at hX hen
   refine⟨CNu,x,d.c,⟨20,19,500000⟩,y2,s2,_,_,_,_,_,key,rfl,⟨HasCfg.keeps kp_,.list rfl,.list rfl⟩,⟨_,_,_,rfl⟩,atlIn_st hV hJ.inv _,fun cp1=>?_⟩
   refine⟨kp_,?_⟩
   obtain⟨es2,hR2⟩:=hX0.run (by omega) hX
   have hU:=hR2.up hV hJ0
   have hi0:decide (i>0)=true:=decide_eq_true (by omega)
   refine⟨fun _=>?_,fun h=>absurd h (by rw[hi0];decide)⟩
   refine⟨fun hg=>?_,fun hg=>?_⟩
   ·exact⟨xs,cps,cap,cap,17,16,rfl,rfl,rfl,hP,hcp⟩
   ·have hg2:¬ s2.count≤s.count:=of_decide_eq_false hg
    refine⟨atlEl [(makeA s2 (makeA s par key).sum key)] [cp1],famA [(makeA s2 (makeA s par key).sum key)],⟨fun k hk=>?_,fun k hk o=>famA_out hk o⟩,?_⟩
    ·match k,hk with
     | 0,_=>exact⟨rfl,fun o=>famA_list _ o rfl⟩
    refine⟨⟨Nat.le_refl _,fun k hk=>(match k,hk with | 0,_=>rfl)⟩,?_⟩
    refine⟨⟨⟨rfl,rfl⟩,by decide,by show (xs.length+1) * 56≤140737488355328;omega⟩,fun cap2 hcp2=>⟨atlEl (xs++[(makeA s2 (makeA s par key).sum key)]) (cps++[cp1]),famA (xs++[(makeA s2 (makeA s par key).sum key)]),app_at hcl,?_⟩⟩
    have hlx:xs.length+1=(xs++[(makeA s2 (makeA s par key).sum key)]).length:=by simp
    rw[hlx]
    have w3:=wrapi (n:=i+1) (by omega)
    refine⟨some (IntKind.i64.wrap (i+1),xs++[(makeA s2 (makeA s par key).sum key)],cps++[cp1],cap2,cp1,s2,(makeA s par key).sum),[(15,21),(16,24),(17,25)],?_,⟨rfl,rfl⟩,kp_,kp_⟩
    dsimp only
    rw[w3]
    refine⟨⟨⟨hJ,by rw[show 3 * (i+1-1)+1=3 * i+1 by omega];exact hX⟩,⟨hP.snoc (by omega) ⟨s2,_,hJ,rfl⟩ (by rw[hlast];exact hU.fol (by omega) _ _ _),by simp[hcl]⟩,⟨by omega,by simp;omega,by simpa using hcp2⟩,?_⟩,by omega⟩
    rw[show (xs++[(makeA s2 (makeA s par key).sum key)]).length-1=xs.length by simp,getD_endA]
  ·exact⟨xs,cps,cap,cap,17,16,rfl,rfl,rfl,hP,hcp⟩
theorem chain_calls (x:CfgA) (c:Cfg) (A0:Option Addr) (cap0:Nat) (l:List Int) (key:Int) (w:World) (hV:CfgV c) (hz:l.length≤400) (hc:CfgOk w (·<w.heap.size) x c) (hr:Rd w (·<w.heap.size) A0 (flat intC l)) :
  Calls Try.prog 30 #[.agg (cfgC x c),.slice A0 l.length cap0,.int .i64 8,.int .i64 key] w fun e w'=>∃ xs cps cap cp r u mem' nx' C' ρ',e=.returned (.slice ((ρ':Nat→Pl) r).A (xs:List Atl).length cap)∧MemAt C' ρ' mem' nx' w'∧(C':Ctx).w0=w∧lk mem' r=some (deepA (1000000+46) cp xs cps u)∧lk mem' u=some (famB 500000 xs)∧(ChainP c key xs∧xs.length≤cap)∧Below w.heap.size w w':=by
 have:=uni_calls ttLok chFok9 Try.func30 rfl (D:=chD9) (by kernel_rfl) (vs:=[cfgV CNu (ck x) c,slc 0 l.length cap0,.int .i64 8,.int .i64 key]) rfl { a0:=A0,x:=x } { l0:=l,c:=c } w { r0:=hr,c:=hc } (fun v hv=>by
  simp only[List.mem_cons,List.not_mem_nil,or_false] at hv
  rcases hv with rfl | rfl | rfl | rfl
  ·exact upl_cfg_ok { a0:=A0,x:=x } { l0:=l,c:=c }
  ·exact⟨show (0:Nat)<13 by decide,rfl⟩
  ·trivial
  ·trivial) (chain_sx { l0:=l,c:=c } (ck x) cap0 key hV hz)
 rw[List.map_cons] at this
 have e0:=upl_cfg { a0:=A0,x:=x } { l0:=l,c:=c }
 dsimp only at e0 this
 rw[e0] at this
 refine this.mono ?_
 rintro e w' ⟨v,mem',nx',ρ',rfl,⟨xs,cps,cap,cp,r,u,rfl,h1,h2,hP⟩,hv,hm',hb⟩
 exact⟨xs,cps,cap,cp,r,u,mem',nx',_,ρ',rfl,hm',rfl,h1,h2,hP,hb⟩
def ctChain:CT:=fun vs mem nx K=>∃ N x c v l key,vs=[cfgV N x c,v,.int .i64 8,.int .i64 key]∧(HasCfg mem N c∧SrcR mem 1 intC 0 (l:List Int) v)∧(CfgV c∧l.length≤400)∧∀ xs cps cap,ChainP c key xs∧xs.length≤cap→K (.slice (some ⟨nx+1,0,none⟩) xs.length cap) ((nx+1,deepA 500000 0 xs cps nx)::(nx,famB 500000 xs)::mem) (nx+1+1)
theorem chainOk:CSound Try.prog 30 ctChain:=⟨by kernel_rfl,fun {C ρ fr mem nx a w vs K} hc hs hv=>by
 obtain⟨N,x,c,v,l,key,rfl,⟨hk,hr⟩,⟨hV,hl⟩,hK⟩:=hc
 obtain⟨A,cap0,e0,hr⟩:=hs.srcR (enc:=intC) (sz:=1) (fun _=>rfl) (by omega) hr
 have e1:([cfgV N x c,v,.int .i64 8,.int .i64 key].map (den ρ)).toArray=#[.agg (cfgC (cfgX ρ N x) c),.slice A l.length cap0,.int .i64 8,.int .i64 key]:=by
  rw[List.map_cons,List.map_cons,den_cfg,e0]
  rfl
 rw[e1]
 refine (chain_calls (cfgX ρ N x) c A cap0 l key w hV hl (hs.cfgH hk) hr).mono ?_
 rintro e w' ⟨xs,cps,cap,cp,r,u,mem',nx',C',ρ',rfl,hm,hw,h1,h2,hP,hb⟩
 have q:=hs.takeDeep hb hm hw h1 (.inl rfl) h2 rfl
 have q1:setPl (setPl ρ nx (plF ρ' u)) (nx+1) (plD ρ' r 5 xs.length) (nx+1)=plD ρ' r 5 xs.length:=setPl_same _ _ _
 refine⟨.slice (some ⟨nx+1,0,none⟩) xs.length cap,_,_,_,?_,hK xs cps cap hP,q,?_,fun i hi=>?_,by omega⟩
 ·show Ending.returned (.slice (ρ' r).A xs.length cap)=.returned (.slice (setPl (setPl ρ nx (plF ρ' u)) (nx+1) (plD ρ' r 5 xs.length) (nx+1)).A xs.length cap)
  rw[q1]
 ·exact⟨show nx+1<nx+1+1 by omega,by rw[q1]⟩
 ·rw[setPl_lt _ _ (by omega),setPl_lt _ _ hi]⟩
/-! ref04.Valid,ref05.Valid: first parts -/
set_option maxRecDepth 100000 in
theorem in_sx (n lo hi:Int):sx ttA [] [] (bodyOf Try.f93) (argF 0 [.int .i64 n,.int .i64 lo,.int .i64 hi]) (uniM {}) 13 (endx ttA Try.f93.results.toList fun v _ _=>v=.bool (inR n lo hi)):=by
 refine⟨fun h=>?_,fun h=>?_⟩
 ·exact congrArg Value.bool (by unfold inR;grind)
 ·exact congrArg Value.bool (by unfold inR;grind)
theorem in_calls (n lo hi:Int) (w:World):Calls Try.prog 93 #[.int .i64 n,.int .i64 lo,.int .i64 hi] w fun e w'=>e=.returned (.bool (inR n lo hi))∧Below w.heap.size w w':=by
 have:=uni_calls ttAok fti_nil Try.func93 rfl (D:=[]) (by kernel_rfl) (vs:=[.int .i64 n,.int .i64 lo,.int .i64 hi]) rfl {} {} w {} (fun v hv=>by
  simp only[List.mem_cons,List.not_mem_nil,or_false] at hv
  rcases hv with rfl | rfl | rfl<;>trivial) (in_sx n lo hi)
 refine this.mono ?_
 rintro e w' ⟨v,mem',nx',ρ',rfl,rfl,hv,hm',hb⟩
 exact⟨rfl,hb⟩
def ctIn:CT:=fun vs mem nx K=>∃ n lo hi,vs=[.int .i64 n,.int .i64 lo,.int .i64 hi]∧K (.bool (inR n lo hi)) mem nx
theorem inOk:CSound Try.prog 93 ctIn:=CSound.pure (by kernel_rfl) (by
 rintro vs mem nx K ⟨n,lo,hi,rfl,hK⟩
 exact⟨_,hK,fun ρ m=>⟨rfl,trivial⟩,fun ρ w=>in_calls n lo hi w⟩)
def liF:FT:=[(93,ctIn)]
theorem liFok:FTokI Try.prog liF (inlOf []):=fti_cons (inOk.i _) fti_nil
set_option maxRecDepth 100000 in
set_option maxHeartbeats 4000000 in
theorem limits_sx (x:CfgK) (c:Cfg) :
  sx ttA liF [] (bodyOf Try.f91) (argF 0 [cfgV CNu x c]) (uniM { c:=c }) 13 (endx ttA Try.f91.results.toList fun v _ _=>v=.bool (limitsB c)):=by
 refine⟨_,_,_,rfl,?_⟩
 refine⟨fun h1=>?_,fun h1=>?_⟩
 ·refine⟨_,_,_,rfl,?_⟩
  refine⟨fun h2=>?_,fun h2=>?_⟩
  ·refine⟨_,_,_,rfl,?_⟩
   refine⟨fun h3=>?_,fun h3=>?_⟩
   ·refine⟨_,_,_,rfl,?_⟩
    refine⟨fun h4=>?_,fun h4=>?_⟩
    ·refine⟨_,_,_,rfl,?_⟩
     refine⟨fun h5=>?_,fun h5=>?_⟩
     ·refine⟨_,_,_,rfl,?_⟩
      refine⟨fun h6=>?_,fun h6=>?_⟩
      ·exact congrArg Value.bool (by unfold limitsB;simp[h1,h2,h3,h4,h5,h6];omega)
      ·repeat (first | refine⟨fun _=>?_,fun h=>Bool.noConfusion h⟩ | refine⟨fun h=>Bool.noConfusion h,fun _=>?_⟩ | fail)
       exact congrArg Value.bool (by unfold limitsB;simp[h1,h2,h3,h4,h5,h6])
     ·repeat (first | refine⟨fun _=>?_,fun h=>Bool.noConfusion h⟩ | refine⟨fun h=>Bool.noConfusion h,fun _=>?_⟩ | fail)
      exact congrArg Value.bool (by unfold limitsB;simp[h1,h2,h3,h4,h5])
    ·repeat (first | refine⟨fun _=>?_,fun h=>Bool.noConfusion h⟩ | refine⟨fun h=>Bool.noConfusion h,fun _=>?_⟩ | fail)
     exact congrArg Value.bool (by unfold limitsB;simp[h1,h2,h3,h4])
   ·repeat (first | refine⟨fun _=>?_,fun h=>Bool.noConfusion h⟩ | refine⟨fun h=>Bool.noConfusion h,fun _=>?_⟩ | fail)
    exact congrArg Value.bool (by unfold limitsB;simp[h1,h2,h3])
  ·repeat (first | refine⟨fun _=>?_,fun h=>Bool.noConfusion h⟩ | refine⟨fun h=>Bool.noConfusion h,fun _=>?_⟩ | fail)
   exact congrArg Value.bool (by unfold limitsB;simp[h1,h2])
 ·repeat (first | refine⟨fun _=>?_,fun h=>Bool.noConfusion h⟩ | refine⟨fun h=>Bool.noConfusion h,fun _=>?_⟩ | fail)
  exact congrArg Value.bool (by unfold limitsB;simp[h1])
set_option maxRecDepth 100000 in
set_option maxHeartbeats 4000000 in
theorem zones_sx (x:CfgK) (c:Cfg) (l:List Int) (cap:Nat) (hl:l.length≤1000000) (hz:c.zones.length≤1000000) :
  sx ttA liF [(2000002,{ k:=0,L:=[0,1,2,3,4,5,6,7,8,9,10,11,12,13],sl:=[1,2] }),(4,{ k:=8,L:=[0,1,2,3,4,5,6,7,8,9,10,11,12,13],pre:=[(0,false),(1,false),(2,false),(3,false),(4,false),(5,false),(6,false),(7,false)] })] (bodyOf Try.f92) (argF 0 [cfgV CNu x c,slc 0 l.length cap]) (uniM { l0:=l,c:=c }) 13 (endx ttA Try.f92.results.toList fun v _ _=>v=.bool (l.all fun z=>inR z 0 (c.zones.length-1))):=by
 refine⟨Int,fun i=>[(5,.int .i64 i)],fun _=>[],fun i=>(0≤i∧i≤l.length)∧∀ k,k<i.toNat→inR (l.getD k 0) 0 (c.zones.length-1)=true,fun i=>((l.length:Int)-i).toNat,⟨0,⟨by omega,fun k hk=>absurd hk (by omega)⟩,kp_,kp_⟩,?_⟩
 rintro i ⟨hi,hall⟩
 refine⟨⟨rfl,rfl⟩,?_⟩
 refine⟨fun hlt=>?_,fun hge=>?_⟩
 ·have hlt2:i<(l.length:Int):=of_decide_eq_true hlt
  refine⟨⟨Nat.le_refl _,hi.1,hlt2⟩,?_⟩
  refine⟨_,_,_,rfl,?_⟩
  rw[wrapi (n:=(c.zones.length:Int)-1) (by omega)]
  refine⟨fun hb=>?_,fun hb=>?_⟩
  ·have hb2:inR (l.getD i.toNat 0) 0 (c.zones.length-1)=false:=by simpa using hb
   refine congrArg Value.bool (Eq.symm ?_)
   rw[List.all_eq_false]
   refine⟨l.getD i.toNat 0,?_,by rw[hb2];decide⟩
   rw[List.getD_eq_getElem?_getD,List.getElem?_eq_getElem (by omega)]
   exact List.getElem_mem _
  ·have hb2:inR (l.getD i.toNat 0) 0 (c.zones.length-1)=true:=by simpa using hb
   refine⟨_,?_,kp_,kp_⟩
   rw[wrapi (n:=i+1) (by omega)]
   dsimp only
   refine⟨⟨by omega,fun k hk=>?_⟩,by omega⟩
   by_cases hki:k<i.toNat
   ·exact hall k hki
   ·obtain rfl:k=i.toNat:=by omega
    exact hb2
 ·have hge2:¬ i<(l.length:Int):=of_decide_eq_false hge
  refine congrArg Value.bool (Eq.symm ?_)
  rw[List.all_eq_true]
  intro z hz2
  obtain⟨k,hk,rfl⟩:=List.getElem_of_mem hz2
  have:=hall k (by omega)
  rwa[List.getD_eq_getElem?_getD,List.getElem?_eq_getElem hk] at this
/-! ref04.Valid: plain facts -/
theorem all_getD {α:Type} {l:List α} {p:α→Bool} (d:α):l.all p=true↔∀ k,k<l.length→p (l.getD k d)=true:=by
 rw[List.all_eq_true]
 constructor
 ·intro h k hk
  rw[List.getD_eq_getElem?_getD,List.getElem?_eq_getElem hk]
  exact h _ (List.getElem_mem _)
 ·intro h x hx
  obtain⟨k,hk,rfl⟩:=List.getElem_of_mem hx
  have:=h k hk
  rwa[List.getD_eq_getElem?_getD,List.getElem?_eq_getElem hk] at this
theorem versOk_iff (l:List (Int×Int)):versOk l=true↔∀ k,k<l.length→verOk k (l.getD k (0,0))=true:=by
 constructor
 ·intro h k hk
  rw[List.getD_eq_getElem?_getD,List.getElem?_eq_getElem hk]
  cases hv:verOk k l[k] with
  | true=>exact hv
  | false=>rw[versOk_no (List.getElem?_eq_getElem hk) hv] at h;cases h
 ·intro h
  refine versOk_yes fun k v hv=>?_
  have hk:=(List.getElem?_eq_some_iff.1 hv).1
  have:=h k hk
  rwa[List.getD_eq_getElem?_getD,hv] at this
def G04 (c:Cfg):Prop:=c.replicas.length % 2=1∧(c.replicas.all fun z=>inR z 0 (c.zones.length-1))=true∧(c.observers.all fun z=>inR z 0 (c.zones.length-1))=true∧inR c.blast 1 16=true∧inR c.lease 1 1000=true∧inR c.bake 0 10000=true∧(c.versions.getD 0 (0,0)).1=0
def ZK4 (c:Cfg) (i:Nat):Prop:=∀ k,k<i→inR (c.zones.getD k 0) 0 (c.regions-1)=true
def CK4 (c:Cfg) (i:Nat):Prop:=∀ k,k<i→inR (c.cells.getD k (0,0)).1 0 (c.zones.length-1)=true∧inR (c.cells.getD k (0,0)).2 1 4194304=true
def VK4 (c:Cfg) (i:Nat):Prop:=∀ k,k<i→inR (c.versions.getD k (0,0)).1 0 (c.versions.getD k (0,0)).2=true∧(c.versions.getD k (0,0)).2≤30
theorem valid4_yes {c:Cfg} (hl:limitsB c=true) (h0:G04 c) (hz:ZK4 c c.zones.length) (hc:CK4 c c.cells.length) (hv:VK4 c c.versions.length):topoErr c=0:=by
 obtain⟨g1,g2,g3,g4,g5,g6,g7⟩:=h0
 have hp:placesB c=true:=by
  unfold placesB
  rw[g2,g3,(all_getD (p:=fun z=>inR z 0 (c.regions-1)) 0).2 hz,(all_getD (0,0)).2 fun k hk=>(hc k hk).1]
  rfl
 have hver:versOk c.versions=true:=(versOk_iff _).2 fun k hk=>by
  have:=hv k hk
  unfold verOk
  unfold inR at this
  cases k with
  | zero=>grind
  | succ k=>grind
 have hq:valuesB c=true:=by
  unfold valuesB
  rw[g4,g5,g6,hver,(all_getD (0,0)).2 fun k hk=>(hc k hk).2]
  rfl
 unfold topoErr
 rw[if_neg (by rw[hl];decide),if_neg]
 rw[hp,hq]
 rintro (q | q | q)
 ·omega
 ·cases q
 ·cases q
theorem valid4_no {c:Cfg} (hl:limitsB c=true) (h:¬ (((G04 c∧ZK4 c c.zones.length)∧CK4 c c.cells.length)∧VK4 c c.versions.length)):topoErr c=1:=by
 unfold topoErr
 rw[if_neg (by rw[hl];decide)]
 by_cases hr:c.replicas.length % 2=0
 ·rw[if_pos (.inl hr)]
 by_cases hp:placesB c=false
 ·rw[if_pos (.inr (.inl hp))]
 by_cases hq:valuesB c=false
 ·rw[if_pos (.inr (.inr hq))]
 exfalso
 rw[Bool.not_eq_false] at hp hq
 unfold placesB at hp
 unfold valuesB at hq
 simp only[Bool.and_eq_true] at hp hq
 obtain⟨⟨⟨p1,p2⟩,p3⟩,p4⟩:=hp
 obtain⟨⟨q1,q2⟩,⟨q3,q4⟩,q5⟩:=hq
 have hnv:0<c.versions.length:=by
  simp[limitsB,inR] at hl
  omega
 have hv:=(versOk_iff _).1 q2
 refine h ⟨⟨⟨⟨by omega,p3,p4,q3,q4,q5,?_⟩,(all_getD 0).1 p1⟩,fun k hk=>⟨(all_getD (0,0)).1 p2 k hk,(all_getD (0,0)).1 q1 k hk⟩⟩,fun k hk=>?_⟩
 ·have:=hv 0 hnv
  unfold verOk at this
  grind
 ·have:=hv k hk
  unfold verOk at this
  unfold inR
  grind
theorem limits_calls (x:CfgA) (c:Cfg) (w:World) (hc:CfgOk w (·<w.heap.size) x c):Calls Try.prog 91 #[.agg (cfgC x c)] w fun e w'=>e=.returned (.bool (limitsB c))∧Below w.heap.size w w':=by
 have:=uni_calls ttAok liFok Try.func91 rfl (D:=[]) (by kernel_rfl) (vs:=[cfgV CNu (ck x) c]) rfl { x:=x } { c:=c } w { c:=hc } (fun v hv=>by
  simp only[List.mem_cons,List.not_mem_nil,or_false] at hv
  subst hv
  exact upl_cfg_ok { x:=x } { c:=c }) (limits_sx (ck x) c)
 rw[List.map_cons,upl_cfg { x:=x } { c:=c }] at this
 refine this.mono ?_
 rintro e w' ⟨v,mem',nx',ρ',rfl,rfl,hv,hm',hb⟩
 exact⟨rfl,hb⟩
def ctLimits:CT:=fun vs mem nx K=>∃ N x c,vs=[cfgV N x c]∧HasCfg mem N c∧K (.bool (limitsB c)) mem nx
theorem limitsOk:CSound Try.prog 91 ctLimits:=⟨by kernel_rfl,fun {C ρ fr mem nx a w vs K} hc hs hv=>by
 obtain⟨N,x,c,rfl,hk,hK⟩:=hc
 rw[List.map_cons,den_cfg]
 refine (limits_calls (cfgX ρ N x) c w (hs.cfgH hk)).mono ?_
 rintro e w' ⟨rfl,hb⟩
 exact⟨_,mem,nx,ρ,rfl,hK,hs.later hb,trivial,ExtS.refl _ _⟩⟩
theorem zones_calls (x:CfgA) (c:Cfg) (A:Option Addr) (l:List Int) (cap:Nat) (w:World) (hl:l.length≤1000000) (hz:c.zones.length≤1000000) (hr:Rd w (·<w.heap.size) A (flat intC l)) (hc:CfgOk w (·<w.heap.size) x c):Calls Try.prog 92 #[.agg (cfgC x c),.slice A l.length cap] w fun e w'=>e=.returned (.bool (l.all fun z=>inR z 0 (c.zones.length-1)))∧Below w.heap.size w w':=by
 have:=uni_calls ttAok liFok Try.func92 rfl (D:=[(2000002,{ k:=0,L:=[0,1,2,3,4,5,6,7,8,9,10,11,12,13],sl:=[1,2] }),(4,{ k:=8,L:=[0,1,2,3,4,5,6,7,8,9,10,11,12,13],pre:=[(0,false),(1,false),(2,false),(3,false),(4,false),(5,false),(6,false),(7,false)] })]) (by kernel_rfl) (vs:=[cfgV CNu (ck x) c,slc 0 l.length cap]) rfl { a0:=A,x:=x } { l0:=l,c:=c } w { r0:=hr,c:=hc } (fun v hv=>by
  simp only[List.mem_cons,List.not_mem_nil,or_false] at hv
  rcases hv with rfl | rfl
  ·exact upl_cfg_ok { a0:=A,x:=x } { l0:=l,c:=c }
  ·exact⟨show (0:Nat)<13 by decide,rfl⟩) (zones_sx (ck x) c l cap hl hz)
 rw[List.map_cons,upl_cfg { a0:=A,x:=x } { l0:=l,c:=c }] at this
 refine this.mono ?_
 rintro e w' ⟨v,mem',nx',ρ',rfl,rfl,hv,hm',hb⟩
 exact⟨rfl,hb⟩
def ctZones:CT:=fun vs mem nx K=>∃ N x c r l cap,vs=[cfgV N x c,slc r (l:List Int).length cap]∧(HasCfg mem N c∧HasRow mem r 1 intC 0 l)∧(l.length≤1000000∧c.zones.length≤1000000)∧K (.bool (l.all fun z=>inR z 0 (c.zones.length-1))) mem nx
theorem zonesOk:CSound Try.prog 92 ctZones:=⟨by kernel_rfl,fun {C ρ fr mem nx a w vs K} hc hs hv=>by
 obtain⟨N,x,c,r,l,cap,rfl,⟨hk,hr⟩,⟨hl,hz⟩,hK⟩:=hc
 have e0:([cfgV N x c,slc r l.length cap].map (den ρ)).toArray=#[.agg (cfgC (cfgX ρ N x) c),.slice (ρ r).A l.length cap]:=by
  rw[List.map_cons,den_cfg]
  simp[den,den2,den1,dA_whole,dS_whole]
 rw[e0]
 refine (zones_calls (cfgX ρ N x) c (ρ r).A l cap w hl hz (hs.hasRd (enc:=intC) (sz:=1) (fun _=>rfl) (by omega) hr) (hs.cfgH hk)).mono ?_
 rintro e w' ⟨rfl,hb⟩
 exact⟨_,mem,nx,ρ,rfl,hK,hs.later hb,trivial,ExtS.refl _ _⟩⟩
/-! ref04.Valid -/
theorem all_succ {P:Nat→Prop} {i:Int} (h:0≤i):(∀ k,k<(i+1).toNat→P k)↔(∀ k,k<i.toNat→P k)∧P i.toNat:=by
 constructor
 ·exact fun q=>⟨fun k hk=>q k (by omega),q _ (by omega)⟩
 ·rintro⟨q1,q2⟩ k hk
  by_cases hki:k<i.toNat
  ·exact q1 k hki
  ·obtain rfl:k=i.toNat:=by omega
   exact q2
def v4F:FT:=[(91,ctLimits),(92,ctZones),(93,ctIn)]
theorem v4Fok:FTokI Try.prog v4F (inlOf []):=fti_cons (limitsOk.i _) (fti_cons (zonesOk.i _) (fti_cons (inOk.i _) fti_nil))
def v4D:List (Nat×DQ):=[(1000004,{ k:=14,L:=[0,1,2,3,4,5,6,7,8,9,10,11,12,13],sl:=[1] }),(2000005,{ k:=0,L:=[0,1,2,3,4,5,6,7,8,9,10,11,12,13],sl:=[1] }),(2000009,{ k:=0,L:=[0,1,2,3,4,5,6,7,8,9,10,11,12,13],sl:=[1] }),(2000013,{ k:=0,L:=[0,1,2,3,4,5,6,7,8,9,10,11,12,13],sl:=[1] }),(7,{ k:=11,L:=[0,1,2,3,4,5,6,7,8,9,10,11,12,13],pre:=[(0,false),(1,false),(2,false),(3,false),(4,false),(5,false),(6,false),(7,false),(8,false),(9,false),(10,false)] }),
 (11,{ k:=18,L:=[0,1,2,3,4,5,6,7,8,9,10,11,12,13],pre:=[(0,false),(1,false),(2,false),(3,false),(4,false),(5,false),(6,false),(7,false),(8,false),(9,false),(10,false),(11,false),(12,true),(13,false),(14,false),(15,false),(16,false),(17,false)] }),(15,{ k:=20,L:=[0,1,2,3,4,5,6,7,8,9,10,11,12,13],pre:=[(0,false),(1,false),(2,false),(3,false),(4,false),(5,false),(6,false),(7,false),(8,false),(9,false),(10,false),(11,false),(12,false),(13,false),(14,true),(15,false),(16,false),(17,false),(18,false),(19,false)] })]
set_option maxRecDepth 100000 in
set_option maxHeartbeats 8000000 in
theorem valid4_sx (x:CfgK) (c:Cfg) :
  sx ttA v4F v4D (bodyOf Try.f75) (argF 0 [cfgV CNu x c]) (uniM { c:=c }) 13 (endx ttA Try.f75.results.toList fun v _ _=>v=.int .i64 (topoErr c)):=by
 refine⟨CNu,x,c,rfl,HasCfg.keeps kp_,?_⟩
 refine⟨fun hl=>?_,fun hl=>?_⟩
 ·replace hl:limitsB c=false:=by simpa using hl
  exact congrArg (Value.int .i64) (show topoErr c=2 from if_pos hl).symm
 ·replace hl:limitsB c=true:=by simpa using hl
  have hlm:=hl
  simp[limitsB,inR] at hlm
  refine⟨Bool,fun b=>[(3,.bool b)],fun _=>[],fun b=>(b=true↔G04 c),?_,?_⟩
  ·refine⟨⟨rfl,by decide⟩,?_⟩
   refine⟨fun h1=>?_,fun h1=>?_⟩
   ·refine⟨CNu,x,c,6,c.replicas,_,rfl,⟨HasCfg.keeps kp_,.list rfl⟩,⟨by omega,by omega⟩,?_⟩
    refine⟨fun h2=>?_,fun h2=>?_⟩
    ·refine⟨CNu,x,c,7,c.observers,_,rfl,⟨HasCfg.keeps kp_,.list rfl⟩,⟨by omega,by omega⟩,?_⟩
     refine⟨fun h3=>?_,fun h3=>?_⟩
     ·refine⟨_,_,_,rfl,?_⟩
      refine⟨fun h4=>?_,fun h4=>?_⟩
      ·refine⟨_,_,_,rfl,?_⟩
       refine⟨fun h5=>?_,fun h5=>?_⟩
       ·refine⟨_,_,_,rfl,?_⟩
        refine⟨fun h6=>?_,fun h6=>?_⟩
        ·refine⟨⟨Nat.le_refl _,by omega,by omega⟩,?_⟩
         refine⟨_,?_,kp_,kp_⟩
         have h1b:=(by simpa using h1:(c.replicas.length:Int).tmod 2=1)
         rw[Int.tmod_eq_emod_of_nonneg (by omega)] at h1b
         exact⟨fun q=>⟨by omega,h2,h3,h4,h5,h6,by simpa using q⟩,fun q=>by simpa using q.2.2.2.2.2.2⟩
        ·repeat (first | refine⟨fun _=>?_,fun h=>Bool.noConfusion h⟩ | refine⟨fun h=>Bool.noConfusion h,fun _=>?_⟩ | fail)
         exact⟨false,⟨fun q=>Bool.noConfusion q,fun q=>absurd q.2.2.2.2.2.1 (by rw[h6];decide)⟩,kp_,kp_⟩
       ·repeat (first | refine⟨fun _=>?_,fun h=>Bool.noConfusion h⟩ | refine⟨fun h=>Bool.noConfusion h,fun _=>?_⟩ | fail)
        exact⟨false,⟨fun q=>Bool.noConfusion q,fun q=>absurd q.2.2.2.2.1 (by rw[h5];decide)⟩,kp_,kp_⟩
      ·repeat (first | refine⟨fun _=>?_,fun h=>Bool.noConfusion h⟩ | refine⟨fun h=>Bool.noConfusion h,fun _=>?_⟩ | fail)
       exact⟨false,⟨fun q=>Bool.noConfusion q,fun q=>absurd q.2.2.2.1 (by rw[h4];decide)⟩,kp_,kp_⟩
     ·repeat (first | refine⟨fun _=>?_,fun h=>Bool.noConfusion h⟩ | refine⟨fun h=>Bool.noConfusion h,fun _=>?_⟩ | fail)
      exact⟨false,⟨fun q=>Bool.noConfusion q,fun q=>absurd q.2.2.1 (by rw[h3];decide)⟩,kp_,kp_⟩
    ·repeat (first | refine⟨fun _=>?_,fun h=>Bool.noConfusion h⟩ | refine⟨fun h=>Bool.noConfusion h,fun _=>?_⟩ | fail)
     exact⟨false,⟨fun q=>Bool.noConfusion q,fun q=>absurd q.2.1 (by rw[h2];decide)⟩,kp_,kp_⟩
   ·repeat (first | refine⟨fun _=>?_,fun h=>Bool.noConfusion h⟩ | refine⟨fun h=>Bool.noConfusion h,fun _=>?_⟩ | fail)
    exact⟨false,⟨fun q=>Bool.noConfusion q,fun q=>absurd q.1 (by have h1b:=(by simpa using h1:¬ ((c.replicas.length:Int).tmod 2=1));rw[Int.tmod_eq_emod_of_nonneg (by omega)] at h1b;omega)⟩,kp_,kp_⟩
  ·rintro b hb
   refine⟨⟨by decide,rfl,rfl⟩,?_⟩
   refine⟨Int×Bool,fun q=>match q with | (i,b)=>[(4,.int .i64 i),(3,.bool b)],fun _=>[],fun q=>match q with | (i,b)=>(0≤i∧i≤c.zones.length)∧(b=true↔(G04 c∧ZK4 c i.toNat)),fun q=>match q with | (i,b)=>((c.zones.length:Int)-i).toNat,⟨(0,b),⟨by omega,⟨fun q=>⟨hb.1 q,fun k hk=>absurd hk (by omega)⟩,fun q=>hb.2 q.1⟩⟩,kp_,kp_⟩,?_⟩
   clear hb b
   rintro⟨i,b⟩ ⟨hi,hb⟩
   refine⟨⟨rfl,rfl⟩,?_⟩
   refine⟨fun hlt=>?_,fun hge=>?_⟩
   ·have hlt2:i<(c.zones.length:Int):=of_decide_eq_true hlt
    refine⟨fun hbt=>?_,fun hbt=>?_⟩
    ·refine⟨⟨Nat.le_refl _,by omega,by omega⟩,?_⟩
     refine⟨_,_,_,rfl,?_⟩
     rw[wrapi (n:=c.regions-1) (by omega)]
     refine⟨(_,_),?_,kp_,kp_⟩
     dsimp only
     rw[wrapi (n:=i+1) (by omega)]
     have hs:=all_succ (P:=fun k=>inR (c.zones.getD k 0) 0 (c.regions-1)=true) hi.1
     refine⟨⟨by omega,?_⟩,by omega⟩
     exact⟨fun q=>⟨(hb.1 hbt).1,hs.2 ⟨(hb.1 hbt).2,q⟩⟩,fun q=>(hs.1 q.2).2⟩
    ·refine⟨(_,false),?_,kp_,kp_⟩
     dsimp only
     rw[wrapi (n:=i+1) (by omega)]
     have hs:=all_succ (P:=fun k=>inR (c.zones.getD k 0) 0 (c.regions-1)=true) hi.1
     refine⟨⟨by omega,?_⟩,by omega⟩
     exact⟨fun q=>Bool.noConfusion q,fun q=>absurd (hb.2 ⟨q.1,(hs.1 q.2).1⟩) (by rw[hbt];decide)⟩
   ·have hge2:¬ i<(c.zones.length:Int):=of_decide_eq_false hge
    obtain rfl:i=c.zones.length:=by omega
    rw[Int.toNat_natCast] at hb
    refine⟨Int×Bool,fun q=>match q with | (i,b)=>[(5,.int .i64 i),(3,.bool b)],fun _=>[],fun q=>match q with | (i,b)=>(0≤i∧i≤c.cells.length)∧(b=true↔((G04 c∧ZK4 c c.zones.length)∧CK4 c i.toNat)),fun q=>match q with | (i,b)=>((c.cells.length:Int)-i).toNat,⟨(0,b),⟨by omega,⟨fun q=>⟨hb.1 q,fun k hk=>absurd hk (by omega)⟩,fun q=>hb.2 q.1⟩⟩,kp_,kp_⟩,?_⟩
    clear hb b
    rintro⟨i,b⟩ ⟨hi,hb⟩
    refine⟨⟨rfl,rfl⟩,?_⟩
    refine⟨fun hlt=>?_,fun hge=>?_⟩
    ·have hlt2:i<(c.cells.length:Int):=of_decide_eq_true hlt
     refine⟨fun hbt=>?_,fun hbt=>?_⟩
     ·refine⟨⟨Nat.le_refl _,by omega,by omega⟩,?_⟩
      refine⟨_,_,_,rfl,?_⟩
      rw[wrapi (n:=(c.zones.length:Int)-1) (by omega)]
      refine⟨kp_,?_⟩
      refine⟨fun hc1=>?_,fun hc1=>?_⟩
      ·refine⟨⟨Nat.le_refl _,by omega,by omega⟩,?_⟩
       refine⟨_,_,_,rfl,?_⟩
       refine⟨(_,_),?_,kp_,kp_⟩
       dsimp only
       rw[wrapi (n:=i+1) (by omega)]
       have hs:=all_succ (P:=fun k=>inR (c.cells.getD k (0,0)).1 0 (c.zones.length-1)=true∧inR (c.cells.getD k (0,0)).2 1 4194304=true) hi.1
       refine⟨⟨by omega,?_⟩,by omega⟩
       exact⟨fun q=>⟨(hb.1 hbt).1,hs.2 ⟨(hb.1 hbt).2,hc1,q⟩⟩,fun q=>(hs.1 q.2).2.2⟩
      ·refine⟨(_,false),?_,kp_,kp_⟩
       dsimp only
       rw[wrapi (n:=i+1) (by omega)]
       have hs:=all_succ (P:=fun k=>inR (c.cells.getD k (0,0)).1 0 (c.zones.length-1)=true∧inR (c.cells.getD k (0,0)).2 1 4194304=true) hi.1
       refine⟨⟨by omega,?_⟩,by omega⟩
       exact⟨fun q=>Bool.noConfusion q,fun q=>absurd (hs.1 q.2).2.1 (by rw[hc1];decide)⟩
     ·repeat (first | refine⟨fun _=>?_,fun h=>Bool.noConfusion h⟩ | refine⟨fun h=>Bool.noConfusion h,fun _=>?_⟩ | fail)
      refine⟨(_,false),?_,kp_,kp_⟩
      dsimp only
      rw[wrapi (n:=i+1) (by omega)]
      have hs:=all_succ (P:=fun k=>inR (c.cells.getD k (0,0)).1 0 (c.zones.length-1)=true∧inR (c.cells.getD k (0,0)).2 1 4194304=true) hi.1
      refine⟨⟨by omega,?_⟩,by omega⟩
      exact⟨fun q=>Bool.noConfusion q,fun q=>absurd (hb.2 ⟨q.1,(hs.1 q.2).1⟩) (by rw[hbt];decide)⟩
    ·have hge2:¬ i<(c.cells.length:Int):=of_decide_eq_false hge
     obtain rfl:i=c.cells.length:=by omega
     rw[Int.toNat_natCast] at hb
     refine⟨Int×Bool,fun q=>match q with | (i,b)=>[(6,.int .i64 i),(3,.bool b)],fun _=>[],fun q=>match q with | (i,b)=>(0≤i∧i≤c.versions.length)∧(b=true↔(((G04 c∧ZK4 c c.zones.length)∧CK4 c c.cells.length)∧VK4 c i.toNat)),fun q=>match q with | (i,b)=>((c.versions.length:Int)-i).toNat,⟨(0,b),⟨by omega,⟨fun q=>⟨hb.1 q,fun k hk=>absurd hk (by omega)⟩,fun q=>hb.2 q.1⟩⟩,kp_,kp_⟩,?_⟩
     clear hb b
     rintro⟨i,b⟩ ⟨hi,hb⟩
     refine⟨⟨rfl,rfl⟩,?_⟩
     refine⟨fun hlt=>?_,fun hge=>?_⟩
     ·have hlt2:i<(c.versions.length:Int):=of_decide_eq_true hlt
      refine⟨fun hbt=>?_,fun hbt=>?_⟩
      ·refine⟨⟨Nat.le_refl _,by omega,by omega⟩,?_⟩
       refine⟨⟨Nat.le_refl _,by omega,by omega⟩,?_⟩
       refine⟨_,_,_,rfl,?_⟩
       refine⟨kp_,?_⟩
       refine⟨fun hc1=>?_,fun hc1=>?_⟩
       ·refine⟨⟨Nat.le_refl _,by omega,by omega⟩,?_⟩
        refine⟨(_,_),?_,kp_,kp_⟩
        dsimp only
        rw[wrapi (n:=i+1) (by omega)]
        have hs:=all_succ (P:=fun k=>inR (c.versions.getD k (0,0)).1 0 (c.versions.getD k (0,0)).2=true∧(c.versions.getD k (0,0)).2≤30) hi.1
        refine⟨⟨by omega,?_⟩,by omega⟩
        exact⟨fun q=>⟨(hb.1 hbt).1,hs.2 ⟨(hb.1 hbt).2,hc1,of_decide_eq_true q⟩⟩,fun q=>decide_eq_true (hs.1 q.2).2.2⟩
       ·refine⟨(_,false),?_,kp_,kp_⟩
        dsimp only
        rw[wrapi (n:=i+1) (by omega)]
        have hs:=all_succ (P:=fun k=>inR (c.versions.getD k (0,0)).1 0 (c.versions.getD k (0,0)).2=true∧(c.versions.getD k (0,0)).2≤30) hi.1
        refine⟨⟨by omega,?_⟩,by omega⟩
        exact⟨fun q=>Bool.noConfusion q,fun q=>absurd (hs.1 q.2).2.1 (by rw[hc1];decide)⟩
      ·repeat (first | refine⟨fun _=>?_,fun h=>Bool.noConfusion h⟩ | refine⟨fun h=>Bool.noConfusion h,fun _=>?_⟩ | fail)
       refine⟨(_,false),?_,kp_,kp_⟩
       dsimp only
       rw[wrapi (n:=i+1) (by omega)]
       have hs:=all_succ (P:=fun k=>inR (c.versions.getD k (0,0)).1 0 (c.versions.getD k (0,0)).2=true∧(c.versions.getD k (0,0)).2≤30) hi.1
       refine⟨⟨by omega,?_⟩,by omega⟩
       exact⟨fun q=>Bool.noConfusion q,fun q=>absurd (hb.2 ⟨q.1,(hs.1 q.2).1⟩) (by rw[hbt];decide)⟩
     ·have hge2:¬ i<(c.versions.length:Int):=of_decide_eq_false hge
      obtain rfl:i=c.versions.length:=by omega
      rw[Int.toNat_natCast] at hb
      refine⟨fun hn=>?_,fun hn=>?_⟩
      ·have hbf:¬ (b=true):=by simpa using hn
       exact congrArg (Value.int .i64) (valid4_no hl fun q=>hbf (hb.2 q)).symm
      ·have hbt:b=true:=by simpa using hn
       have q:=hb.1 hbt
       exact congrArg (Value.int .i64) (valid4_yes hl q.1.1.1 q.1.1.2 q.1.2 q.2).symm
theorem valid4_calls (x:CfgA) (c:Cfg) (w:World) (hc:CfgOk w (·<w.heap.size) x c):Calls Try.prog 75 #[.agg (cfgC x c)] w fun e w'=>e=.returned (.int .i64 (topoErr c))∧Below w.heap.size w w':=by
 have:=uni_calls ttAok v4Fok Try.func75 rfl (D:=v4D) (by kernel_rfl) (vs:=[cfgV CNu (ck x) c]) rfl { x:=x } { c:=c } w { c:=hc } (fun v hv=>by
  simp only[List.mem_cons,List.not_mem_nil,or_false] at hv
  subst hv
  exact upl_cfg_ok { x:=x } { c:=c }) (valid4_sx (ck x) c)
 rw[List.map_cons,upl_cfg { x:=x } { c:=c }] at this
 refine this.mono ?_
 rintro e w' ⟨v,mem',nx',ρ',rfl,rfl,hv,hm',hb⟩
 exact⟨rfl,hb⟩
def ctV4:CT:=fun vs mem nx K=>∃ N x c,vs=[cfgV N x c]∧HasCfg mem N c∧K (.int .i64 (topoErr c)) mem nx
theorem v4Ok:CSound Try.prog 75 ctV4:=⟨by kernel_rfl,fun {C ρ fr mem nx a w vs K} hc hs hv=>by
 obtain⟨N,x,c,rfl,hk,hK⟩:=hc
 rw[List.map_cons,den_cfg]
 refine (valid4_calls (cfgX ρ N x) c w (hs.cfgH hk)).mono ?_
 rintro e w' ⟨rfl,hb⟩
 exact⟨_,mem,nx,ρ,rfl,hK,hs.later hb,trivial,ExtS.refl _ _⟩⟩
/-! ref05.declared,ref05.Valid -/
def ttV:TT:=[(101,tiU)]++ttA
theorem ttVok:TTok Try.prog ttV:=by
 refine tt_mem _ _ ?_
 unfold ttV ttA tt
 repeat (refine tt_cons ⟨by kernel_rfl,by kernel_rfl,plains (by rfl),by kernel_rfl,by kernel_rfl,by kernel_rfl⟩ ?_)
 exact tt_nil
set_option maxRecDepth 100000 in
set_option maxHeartbeats 8000000 in
theorem declared_sx (x:CfgK) (c:Cfg) (t:Ten) (hr:1≤c.regions∧c.regions≤4) :
  sx ttV [] [] (bodyOf Try.f76) (argF 0 [cfgV CNu x c,.agg (tenC t).toArray]) (uniM { c:=c }) 13 (endx ttV Try.f76.results.toList fun v _ _=>v=.bool (tenOk c.regions t)):=by
 obtain⟨rg,zs,cs,ts,vs,rs,os,bl,le,ba⟩:=c
 dsimp only at hr ⊢
 obtain rfl | rfl | rfl | rfl:rg=1∨rg=2∨rg=3∨rg=4:=by omega
 ·have e1:IntKind.i64.wrap (1 * 2 ^ min (IntKind.u64.wrap 1).toNat IntKind.i64.bits)=2:=by decide
  repeat' (first | refine⟨fun _=>?_,fun h=>Bool.noConfusion h⟩ | refine⟨fun h=>Bool.noConfusion h,fun _=>?_⟩ | refine⟨fun _=>?_,fun _=>?_⟩ | refine⟨by rw[wrapu64];exact Int.emod_nonneg _ (by decide),?_⟩ | fail)
  all_goals (refine congrArg Value.bool ?_;unfold tenOk inR shl1;simp_all;try omega)
 ·have e1:IntKind.i64.wrap (1 * 2 ^ min (IntKind.u64.wrap 2).toNat IntKind.i64.bits)=4:=by decide
  repeat' (first | refine⟨fun _=>?_,fun h=>Bool.noConfusion h⟩ | refine⟨fun h=>Bool.noConfusion h,fun _=>?_⟩ | refine⟨fun _=>?_,fun _=>?_⟩ | refine⟨by rw[wrapu64];exact Int.emod_nonneg _ (by decide),?_⟩ | fail)
  all_goals (refine congrArg Value.bool ?_;unfold tenOk inR shl1;simp_all;try omega)
 ·have e1:IntKind.i64.wrap (1 * 2 ^ min (IntKind.u64.wrap 3).toNat IntKind.i64.bits)=8:=by decide
  repeat' (first | refine⟨fun _=>?_,fun h=>Bool.noConfusion h⟩ | refine⟨fun h=>Bool.noConfusion h,fun _=>?_⟩ | refine⟨fun _=>?_,fun _=>?_⟩ | refine⟨by rw[wrapu64];exact Int.emod_nonneg _ (by decide),?_⟩ | fail)
  all_goals (refine congrArg Value.bool ?_;unfold tenOk inR shl1;simp_all;try omega)
 ·have e1:IntKind.i64.wrap (1 * 2 ^ min (IntKind.u64.wrap 4).toNat IntKind.i64.bits)=16:=by decide
  repeat' (first | refine⟨fun _=>?_,fun h=>Bool.noConfusion h⟩ | refine⟨fun h=>Bool.noConfusion h,fun _=>?_⟩ | refine⟨fun _=>?_,fun _=>?_⟩ | refine⟨by rw[wrapu64];exact Int.emod_nonneg _ (by decide),?_⟩ | fail)
  all_goals (refine congrArg Value.bool ?_;unfold tenOk inR shl1;simp_all;try omega)
theorem declared_calls (x:CfgA) (c:Cfg) (t:Ten) (w:World) (hr:1≤c.regions∧c.regions≤4) (hc:CfgOk w (·<w.heap.size) x c):Calls Try.prog 76 #[.agg (cfgC x c),.agg (tenC t).toArray] w fun e w'=>e=.returned (.bool (tenOk c.regions t))∧Below w.heap.size w w':=by
 have:=uni_calls ttVok fti_nil Try.func76 rfl (D:=[]) (by kernel_rfl) (vs:=[cfgV CNu (ck x) c,.agg (tenC t).toArray]) rfl { x:=x } { c:=c } w { c:=hc } (fun v hv=>by
  simp only[List.mem_cons,List.not_mem_nil,or_false] at hv
  rcases hv with rfl | rfl
  ·exact upl_cfg_ok { x:=x } { c:=c }
  ·intro u hu
   simp[tenC] at hu
   rcases hu with rfl | rfl | rfl | rfl | rfl | rfl | rfl<;>trivial) (declared_sx (ck x) c t hr)
 have e0:den (upl { x:=x } { c:=c }) (.agg (tenC t).toArray)=.agg (tenC t).toArray:=by simp[den,den2,den1,tenC]
 rw[List.map_cons,upl_cfg { x:=x } { c:=c },List.map_cons,e0] at this
 refine this.mono ?_
 rintro e w' ⟨v,mem',nx',ρ',rfl,rfl,hv,hm',hb⟩
 exact⟨rfl,hb⟩
def ctDecl:CT:=fun vs mem nx K=>∃ N x c t,vs=[cfgV N x c,.agg (tenC t).toArray]∧HasCfg mem N c∧(1≤c.regions∧c.regions≤4)∧K (.bool (tenOk c.regions t)) mem nx
theorem declOk:CSound Try.prog 76 ctDecl:=⟨by kernel_rfl,fun {C ρ fr mem nx a w vs K} hc hs hv=>by
 obtain⟨N,x,c,t,rfl,hk,hr,hK⟩:=hc
 have e0:den ρ (.agg (tenC t).toArray)=.agg (tenC t).toArray:=by simp[den,den2,den1,tenC]
 rw[List.map_cons,den_cfg,List.map_cons,e0]
 refine (declared_calls (cfgX ρ N x) c t w hr (hs.cfgH hk)).mono ?_
 rintro e w' ⟨rfl,hb⟩
 exact⟨_,mem,nx,ρ,rfl,hK,hs.later hb,trivial,ExtS.refl _ _⟩⟩
def v5F:FT:=[(75,ctV4),(76,ctDecl)]
def v5D:List (Nat×DQ):=[(2000005,{ k:=0,L:=[0,1,2,3,4,5,6,7,8,9,10,11,12,13],sl:=[1] }),(7,{ k:=6,L:=[0,1,2,3,4,5,6,7,8,9,10,11,12,13],pre:=[(0,false),(1,false),(2,false),(3,false),(4,false),(5,false)] })]
theorem v5Fok:FTokI Try.prog v5F (inlOf v5D):=fti_cons (v4Ok.i _) (fti_cons (declOk.i _) fti_nil)
set_option maxRecDepth 100000 in
set_option maxHeartbeats 4000000 in
theorem valid5_sx (x:CfgK) (c:Cfg) (hL:Lens c) :
  sx ttA v5F v5D (bodyOf Try.f57) (argF 0 [cfgV CNu x c]) (uniM { c:=c }) 13 (endx ttA Try.f57.results.toList fun v _ _=>v=.int .i64 (cfgErr c)):=by
 have hmax:=hL.2.2.1
 unfold maxLen at hmax
 refine⟨CNu,x,c,rfl,HasCfg.keeps kp_,?_⟩
 refine⟨fun hne=>?_,fun heq=>?_⟩
 ·have hne2:topoErr c≠0:=by simpa using hne
  rw[show cfgErr c=topoErr c from if_pos hne2]
  rfl
 ·have heq2:topoErr c=0:=by simpa using heq
  have hreg:=reg_of heq2
  have hce:cfgErr c=if c.tenants.all (tenOk c.regions) then 0 else 1:=if_neg (by simpa using heq2)
  refine⟨Int,fun i=>[(4,.int .i64 i)],fun _=>[],fun i=>(0≤i∧i≤c.tenants.length)∧∀ k,k<i.toNat→tenOk c.regions (c.tenants.getD k default)=true,fun i=>((c.tenants.length:Int)-i).toNat,⟨0,⟨by omega,fun k hk=>absurd hk (by omega)⟩,kp_,kp_⟩,?_⟩
  rintro i ⟨hi,hall⟩
  refine⟨⟨rfl,rfl⟩,?_⟩
  refine⟨fun hlt=>?_,fun hge=>?_⟩
  ·have hlt2:i<(c.tenants.length:Int):=of_decide_eq_true hlt
   refine⟨⟨Nat.le_refl _,hi.1,hlt2⟩,?_⟩
   refine⟨CNu,x,c,(c.tenants.getD i.toNat default),rfl,HasCfg.keeps kp_,hreg,?_⟩
   refine⟨fun hb=>?_,fun hb=>?_⟩
   ·have hb2:tenOk c.regions (c.tenants.getD i.toNat default)=false:=by simpa using hb
    have hf:c.tenants.all (tenOk c.regions)=false:=by
     rw[List.all_eq_false]
     refine⟨(c.tenants.getD i.toNat default),?_,by rw[hb2];decide⟩
     rw[List.getD_eq_getElem?_getD,List.getElem?_eq_getElem (by omega)]
     exact List.getElem_mem _
    rw[hce,hf]
    rfl
   ·have hb2:tenOk c.regions (c.tenants.getD i.toNat default)=true:=by simpa using hb
    refine⟨_,?_,kp_,kp_⟩
    rw[wrapi (n:=i+1) (by omega)]
    dsimp only
    refine⟨⟨by omega,fun k hk=>?_⟩,by omega⟩
    by_cases hki:k<i.toNat
    ·exact hall k hki
    ·obtain rfl:k=i.toNat:=by omega
     exact hb2
  ·have hge2:¬ i<(c.tenants.length:Int):=of_decide_eq_false hge
   have ht:c.tenants.all (tenOk c.regions)=true:=by
    rw[List.all_eq_true]
    intro t ht
    obtain⟨k,hk,rfl⟩:=List.getElem_of_mem ht
    have:=hall k (by omega)
    rwa[List.getD_eq_getElem?_getD,List.getElem?_eq_getElem hk] at this
   rw[hce,ht]
   rfl
theorem valid5_calls (x:CfgA) (c:Cfg) (w:World) (hL:Lens c) (hc:CfgOk w (·<w.heap.size) x c):Calls Try.prog 57 #[.agg (cfgC x c)] w fun e w'=>e=.returned (.int .i64 (cfgErr c))∧Below w.heap.size w w':=by
 have:=uni_calls ttAok v5Fok Try.func57 rfl (D:=v5D) (by kernel_rfl) (vs:=[cfgV CNu (ck x) c]) rfl { x:=x } { c:=c } w { c:=hc } (fun v hv=>by
  simp only[List.mem_cons,List.not_mem_nil,or_false] at hv
  subst hv
  exact upl_cfg_ok { x:=x } { c:=c }) (valid5_sx (ck x) c hL)
 rw[List.map_cons,upl_cfg { x:=x } { c:=c }] at this
 refine this.mono ?_
 rintro e w' ⟨v,mem',nx',ρ',rfl,rfl,hv,hm',hb⟩
 exact⟨rfl,hb⟩
def ctV5:CT:=fun vs mem nx K=>∃ N x c,vs=[cfgV N x c]∧HasCfg mem N c∧Lens c∧K (.int .i64 (cfgErr c)) mem nx
theorem v5Ok:CSound Try.prog 57 ctV5:=⟨by kernel_rfl,fun {C ρ fr mem nx a w vs K} hc hs hv=>by
 obtain⟨N,x,c,rfl,hk,hL,hK⟩:=hc
 rw[List.map_cons,den_cfg]
 refine (valid5_calls (cfgX ρ N x) c w hL (hs.cfgH hk)).mono ?_
 rintro e w' ⟨rfl,hb⟩
 exact⟨_,mem,nx,ρ,rfl,hK,hs.later hb,trivial,ExtS.refl _ _⟩⟩
/-! ref15.Valid -/
abbrev sgE:List (Nat×DQ):=[(1,{ k:=5,L:=[0,1,2,3,4,5,6,7,8,9,10,11,12,13,14,15,16,17,18,19,20,21,22,23,24,25,26,27,28,29,30,31,32,33,34,35,36,37,38,39,40],pre:=[(0,false),(1,false),(2,false),(3,false),(4,true)] })]
def vaRF:FT:=[(57,ctV5),(27,ctInl ttA sgF sgE Try.f27 (bodyOf Try.f27))]
def vaRD:List (Nat×DQ):=[(9000000,{ k:=0,L:=[27] }),(2000004,{ k:=0,L:=[0,1,2,3,4,5,6,7,8,9,10,11,12],sl:=[2,3,4] }),(9,{ k:=6,L:=[0,1,2,3,4,5,6,7,8,9,10,11,12],pre:=[(0,false),(1,false),(4,false),(5,false),(2,true),(3,false)] })]
theorem vaRFok:FTokI Try.prog vaRF (inlOf vaRD):=fti_cons (v5Ok.i _) (fti_cons (inl_ok ttAok (fti_cons (bodyROk.i _) (fti_cons (chainROk.i _) fti_nil)) mixed (by kernel_rfl) Try.func27 rfl (by kernel_rfl) (by decide)) fti_nil)
set_option maxRecDepth 100000 in
set_option maxHeartbeats 4000000 in
theorem validR_sx (cap:Nat) (x:CfgK) (c:Cfg) (a:Atl) (key:Int) (hL:Lens c) :
  sx ttA vaRF vaRD (bodyOf Try.f29) (argF 0 [cfgV CN1 x c,atlV a (slc 10 a.routes.length cap),.int .i64 key]) (xM pairC 2 (0,0) a.routes c) 11 (endx ttA Try.f29.results.toList fun v _ _=>∃ b,v=.bool b∧(b=true↔ValidA c a key)):=by
 refine⟨CN1,x,c,rfl,HasCfg.keeps kp_,hL,?_⟩
 refine⟨fun h1=>?_,fun h1=>?_⟩
 ·repeat (first | refine⟨fun _=>?_,fun h=>Bool.noConfusion h⟩ | refine⟨fun h=>Bool.noConfusion h,fun _=>?_⟩ | fail)
  exact⟨false,rfl,fun q=>Bool.noConfusion q,fun q=>absurd q.cfg (by simpa using h1)⟩
 ·replace h1:cfgErr c=0:=by simpa using h1
  refine⟨fun n1=>?_,fun n1=>?_⟩
  ·repeat (first | refine⟨fun _=>?_,fun h=>Bool.noConfusion h⟩ | refine⟨fun h=>Bool.noConfusion h,fun _=>?_⟩ | fail)
   exact⟨false,rfl,fun q=>Bool.noConfusion q,fun q=>absurd q.n (fun q=>by have:=of_decide_eq_true n1;omega)⟩
  ·have n1b:=of_decide_eq_false n1
   refine⟨fun n2=>?_,fun n2=>?_⟩
   ·repeat (first | refine⟨fun _=>?_,fun h=>Bool.noConfusion h⟩ | refine⟨fun h=>Bool.noConfusion h,fun _=>?_⟩ | fail)
    exact⟨false,rfl,fun q=>Bool.noConfusion q,fun q=>absurd q.n (fun q=>by have:=of_decide_eq_true n2;omega)⟩
   ·have n2b:=of_decide_eq_false n2
    refine⟨fun t1=>?_,fun t1=>?_⟩
    ·repeat (first | refine⟨fun _=>?_,fun h=>Bool.noConfusion h⟩ | refine⟨fun h=>Bool.noConfusion h,fun _=>?_⟩ | fail)
     exact⟨false,rfl,fun q=>Bool.noConfusion q,fun q=>absurd q.t (fun q=>by have:=of_decide_eq_true t1;omega)⟩
    ·have t1b:=of_decide_eq_false t1
     refine⟨fun t2=>?_,fun t2=>?_⟩
     ·repeat (first | refine⟨fun _=>?_,fun h=>Bool.noConfusion h⟩ | refine⟨fun h=>Bool.noConfusion h,fun _=>?_⟩ | fail)
      exact⟨false,rfl,fun q=>Bool.noConfusion q,fun q=>absurd q.t (fun q=>by have:=of_decide_eq_true t2;omega)⟩
     ·have t2b:=of_decide_eq_false t2
      refine⟨fun h2=>?_,fun h2=>?_⟩
      ·exact⟨false,rfl,fun q=>Bool.noConfusion q,fun q=>absurd q.len (by have q2:¬ (a.routes.length:Int)=c.tenants.length:=(by simpa using h2);omega)⟩
      ·replace h2:a.routes.length=c.tenants.length:=by have q2:(a.routes.length:Int)=c.tenants.length:=(by simpa using h2);omega
       have hcl:=cfg_lims h1
       refine⟨Int,fun i=>[(7,.int .i64 i)],fun _=>[],fun i=>(0≤i∧i≤a.routes.length)∧∀ k,k<i.toNat→RouteOk c (a.routes.getD k (0,0)),fun i=>((a.routes.length:Int)-i).toNat,⟨0,⟨by omega,fun k hk=>absurd hk (by omega)⟩,kp_,kp_⟩,?_⟩
       rintro i ⟨hi,hall⟩
       refine⟨⟨rfl,rfl⟩,?_⟩
       refine⟨fun hlt=>?_,fun hge=>?_⟩
       ·have hlt2:i<(a.routes.length:Int):=of_decide_eq_true hlt
        refine⟨⟨Nat.le_refl _,hi.1,hlt2⟩,?_⟩
        refine⟨fun g1=>?_,fun g1=>?_⟩
        ·repeat (first | refine⟨fun _=>?_,fun h=>Bool.noConfusion h⟩ | refine⟨fun h=>Bool.noConfusion h,fun _=>?_⟩ | fail)
         exact⟨false,rfl,fun q=>Bool.noConfusion q,fun q=>absurd q.r (fun q=>by have q2:=q i.toNat (by omega);unfold RouteOk at q2;have:=of_decide_eq_true g1;omega)⟩
        ·have g1b:=of_decide_eq_false g1
         refine⟨fun g2=>?_,fun g2=>?_⟩
         ·repeat (first | refine⟨fun _=>?_,fun h=>Bool.noConfusion h⟩ | refine⟨fun h=>Bool.noConfusion h,fun _=>?_⟩ | fail)
          exact⟨false,rfl,fun q=>Bool.noConfusion q,fun q=>absurd q.r (fun q=>by have q2:=q i.toNat (by omega);unfold RouteOk at q2;have:=of_decide_eq_true g2;omega)⟩
         ·have g2b:=of_decide_eq_false g2
          refine⟨fun g3=>?_,fun g3=>?_⟩
          ·repeat (first | refine⟨fun _=>?_,fun h=>Bool.noConfusion h⟩ | refine⟨fun h=>Bool.noConfusion h,fun _=>?_⟩ | fail)
           exact⟨false,rfl,fun q=>Bool.noConfusion q,fun q=>absurd q.r (fun q=>by have q2:=q i.toNat (by omega);unfold RouteOk at q2;have:=of_decide_eq_true g3;omega)⟩
          ·have g3b:=of_decide_eq_false g3
           refine⟨fun g4=>?_,fun g4=>?_⟩
           ·exact⟨false,rfl,fun q=>Bool.noConfusion q,fun q=>absurd q.r (fun q=>by have q2:=q i.toNat (by omega);unfold RouteOk at q2;have:=of_decide_eq_true g4;omega)⟩
           ·have g4b:=of_decide_eq_false g4
            have hok:RouteOk c (a.routes.getD i.toNat (0,0)):=by unfold RouteOk;omega
            refine⟨_,?_,kp_,kp_⟩
            rw[wrapi (n:=i+1) (by omega)]
            dsimp only
            refine⟨⟨by omega,fun k hk=>?_⟩,by omega⟩
            by_cases hki:k<i.toNat
            ·exact hall k hki
            ·obtain rfl:k=i.toNat:=by omega
             exact hok
       ·have hge2:¬ i<(a.routes.length:Int):=of_decide_eq_false hge
        have hr:∀ k,k<a.routes.length→RouteOk c (a.routes.getD k (0,0)):=fun k hk=>hall k (by omega)
        have hin:=atlIn_of h1 h2 ⟨by omega,by omega⟩ ⟨by omega,by omega⟩ hr
        have hbl:=body_len hin
        refine⟨a,_,rfl,.inr (.inl ⟨10,_,rfl,.list rfl⟩),hin,fun cp=>?_⟩
        refine⟨kp_,?_⟩
        refine⟨_,_,key,a.parent,rfl,.inr (.inl ⟨_,cp,rfl,.list rfl⟩),by omega,?_⟩
        refine⟨kp_,?_⟩
        refine⟨_,rfl,fun q=>⟨h1,h2,⟨by omega,by omega⟩,⟨by omega,by omega⟩,hr,by have q2:=q;simp at q2;exact q2.symm⟩,fun q=>?_⟩
        have:=q.sum
        simp[← this]
theorem validR_calls (x:CfgA) (c:Cfg) (A:Option Addr) (cap:Nat) (a:Atl) (key:Int) (w:World) (hL:Lens c) (hr:Rd w (·<w.heap.size) A (flat pairC a.routes)) (hc:CfgOk w (·<w.heap.size) x c):Calls Try.prog 29 #[.agg (cfgC x c),.agg #[.int .i64 a.number,.int .i64 a.tick,.slice A a.routes.length cap,.int .u64 a.parent,.int .u64 a.sum],.int .i64 key] w fun e w'=>∃ b,(b=true↔ValidA c a key)∧e=.returned (.bool b)∧Below w.heap.size w w':=by
 have:=rowc_calls (enc:=pairC) (sz:=2) (fun _=>rfl) (by omega) pairC_plain (0,0) ttAok vaRFok Try.func29 rfl (D:=vaRD) (by kernel_rfl) (vs:=[cfgV CN1 (ck x) c,atlV a (slc 10 a.routes.length cap),.int .i64 key]) rfl A a.routes x c w hr hc (fun v hv=>by
  simp only[List.mem_cons,List.not_mem_nil,or_false] at hv
  rcases hv with rfl | rfl | rfl
  ·intro u hu
   simp at hu
   rcases hu with rfl | rfl | rfl | rfl | rfl | rfl | rfl | rfl | rfl | rfl<;>first | trivial | exact⟨by decide,rfl⟩
  ·intro u hu
   simp at hu
   rcases hu with rfl | rfl | rfl | rfl | rfl<;>first | trivial | exact⟨by decide,rfl⟩
  ·trivial) (validR_sx cap (ck x) c a key hL)
 have e1:den (xpl A 2 a.routes.length x c) (cfgV CN1 (ck x) c)=.agg (cfgC x c):=by rw[den_cfg];rfl
 have e2:den (xpl A 2 a.routes.length x c) (atlV a (slc 10 a.routes.length cap))=.agg #[.int .i64 a.number,.int .i64 a.tick,.slice A a.routes.length cap,.int .u64 a.parent,.int .u64 a.sum]:=by simp[den,den2,den1,dA_whole,dS_whole,xpl]
 rw[List.map_cons,List.map_cons,e1,e2] at this
 refine this.mono ?_
 rintro e w' ⟨v,mem',nx',ρ',rfl,⟨b,rfl,hb2⟩,hv,hm',hb⟩
 exact⟨b,hb2,rfl,hb⟩
/-! Configurations in slices of whatever kind. -/
def CfgSrc (mem:AM) (cv:Value) (c:Cfg):Prop:=∃ vz vc vt vv vr vo,cv=.agg #[.int .i64 c.regions,vz,vc,vt,vv,vr,vo,.int .i64 c.blast,.int .i64 c.lease,.int .i64 c.bake]∧
 (SrcR mem 1 intC 0 c.zones vz∧SrcR mem 2 pairC (0,0) c.cells vc∧SrcR mem 7 tenC default c.tenants vt)∧SrcR mem 2 pairC (0,0) c.versions vv∧SrcR mem 1 intC 0 c.replicas vr∧SrcR mem 1 intC 0 c.observers vo
theorem CfgSrc.has {mem:AM} {N:CN} {x:CfgK} {c:Cfg} (h:HasCfg mem N c):CfgSrc mem (cfgV N x c) c:=⟨_,_,_,_,_,_,rfl,⟨.row h.rz,.row h.rc,.row h.rt⟩,.row h.rv,.row h.rr,.row h.ro⟩
theorem Sat.srcD {C:Ctx} {ρ:Nat→Pl} {fr:AF} {mem:AM} {nx:Nat} {a:Act} {w:World} (hs:Sat C ρ fr mem nx a w) {α:Type} {enc:α→List Value} {sz:Nat} (hsz:∀ x,(enc x).length=sz) (hpos:0<sz) {d:α} {l:List α} {v:Value} (h:SrcR mem sz enc d l v):∃ A cap,den1 ρ v=.slice A l.length cap∧Rd w (·<w.heap.size) A (flat enc l):=by
 obtain⟨A,cap,e,hr⟩:=hs.srcR hsz hpos h
 obtain⟨A',c',rfl⟩:=h.slice
 exact⟨A,cap,e,hr⟩
theorem Sat.cfgSrc {C:Ctx} {ρ:Nat→Pl} {fr:AF} {mem:AM} {nx:Nat} {a:Act} {w:World} (hs:Sat C ρ fr mem nx a w) {cv:Value} {c:Cfg} (h:CfgSrc mem cv c):∃ x:CfgA,den ρ cv=.agg (cfgC x c)∧CfgOk w (·<w.heap.size) x c:=by
 obtain⟨vz,vc,vt,vv,vr,vo,rfl,⟨h1,h2,h3⟩,h4,h5,h6⟩:=h
 obtain⟨A1,c1,e1,r1⟩:=hs.srcD (enc:=intC) (sz:=1) (fun _=>rfl) (by omega) h1
 obtain⟨A2,c2,e2,r2⟩:=hs.srcD (enc:=pairC) (sz:=2) (fun _=>rfl) (by omega) h2
 obtain⟨A3,c3,e3,r3⟩:=hs.srcD (enc:=tenC) (sz:=7) (fun _=>rfl) (by omega) h3
 obtain⟨A4,c4,e4,r4⟩:=hs.srcD (enc:=pairC) (sz:=2) (fun _=>rfl) (by omega) h4
 obtain⟨A5,c5,e5,r5⟩:=hs.srcD (enc:=intC) (sz:=1) (fun _=>rfl) (by omega) h5
 obtain⟨A6,c6,e6,r6⟩:=hs.srcD (enc:=intC) (sz:=1) (fun _=>rfl) (by omega) h6
 have dI:∀ k n,den1 ρ (.int k n)=.int k n:=fun _ _=>rfl
 exact⟨⟨A1,c1,A2,c2,A3,c3,A4,c4,A5,c5,A6,c6⟩,by simp only[den,den2];simp[dI,e1,e2,e3,e4,e5,e6,cfgC],r1,r2,r3,r4,r5,r6⟩
def ctValidGP:CT:=fun vs mem nx K=>∃ cv c a v key,vs=[cv,atlV a v,.int .i64 key]∧(CfgSrc mem cv c∧SrcR mem 2 pairC (0,0) a.routes v)∧Lens c∧∀ b,(b=true↔ValidA c a key)→K (.bool b) mem nx
theorem validGPOk:CSound Try.prog 28 ctValidGP:=⟨by kernel_rfl,fun {C ρ fr mem nx q w vs K} hc hs hv=>by
 obtain⟨cv,c,a,v,key,rfl,⟨hk,hsrc⟩,hL,hK⟩:=hc
 obtain⟨A,cap,e0,hr⟩:=hs.srcR (enc:=pairC) (sz:=2) (fun _=>rfl) (by omega) hsrc
 obtain⟨x,ex,hx⟩:=hs.cfgSrc hk
 have e1:([cv,atlV a v,.int .i64 key].map (den ρ)).toArray=#[.agg (cfgC x c),.agg #[.int .i64 a.number,.int .i64 a.tick,.slice A a.routes.length cap,.int .u64 a.parent,.int .u64 a.sum],.int .i64 key]:=by
  rw[List.map_cons,ex]
  obtain⟨A',cp,rfl⟩:=hsrc.slice
  have dI:∀ k n,den1 ρ (.int k n)=.int k n:=fun _ _=>rfl
  simp only[List.map_cons,List.map_nil,atlV,den,den2]
  simp[dI,den1_slice e0]
 rw[e1]
 refine (validP_calls x c A cap a key w hL hr hx).mono ?_
 rintro e w' ⟨b,hb2,rfl,hb⟩
 exact⟨_,mem,nx,ρ,rfl,hK b hb2,hs.later hb,trivial,ExtS.refl _ _⟩⟩
def ctValidGR:CT:=fun vs mem nx K=>∃ cv c a v key,vs=[cv,atlV a v,.int .i64 key]∧(CfgSrc mem cv c∧SrcR mem 2 pairC (0,0) a.routes v)∧Lens c∧∀ b,(b=true↔ValidA c a key)→K (.bool b) mem nx
theorem validGROk:CSound Try.prog 29 ctValidGR:=⟨by kernel_rfl,fun {C ρ fr mem nx q w vs K} hc hs hv=>by
 obtain⟨cv,c,a,v,key,rfl,⟨hk,hsrc⟩,hL,hK⟩:=hc
 obtain⟨A,cap,e0,hr⟩:=hs.srcR (enc:=pairC) (sz:=2) (fun _=>rfl) (by omega) hsrc
 obtain⟨x,ex,hx⟩:=hs.cfgSrc hk
 have e1:([cv,atlV a v,.int .i64 key].map (den ρ)).toArray=#[.agg (cfgC x c),.agg #[.int .i64 a.number,.int .i64 a.tick,.slice A a.routes.length cap,.int .u64 a.parent,.int .u64 a.sum],.int .i64 key]:=by
  rw[List.map_cons,ex]
  obtain⟨A',cp,rfl⟩:=hsrc.slice
  have dI:∀ k n,den1 ρ (.int k n)=.int k n:=fun _ _=>rfl
  simp only[List.map_cons,List.map_nil,atlV,den,den2]
  simp[dI,den1_slice e0]
 rw[e1]
 refine (validR_calls x c A cap a key w hL hr hx).mono ?_
 rintro e w' ⟨b,hb2,rfl,hb⟩
 exact⟨_,mem,nx,ρ,rfl,hK b hb2,hs.later hb,trivial,ExtS.refl _ _⟩⟩
/-! ref15.Follows,by contract. -/
abbrev foR15:List (Nat×DQ):=[(2000004,{ k:=0,L:=[0,1,2,3,4,5,6,7,8,9,10,11,12,13,14],sl:=[2,3] }),(6,{ k:=12,L:=[0,1,2,3,4,5,6,7,8,9,10,11,12,13,14,15,16,17,18,19,20],pre:=[(0,false),(1,false),(2,false),(3,false),(4,false),(5,false),(6,false),(7,false),(8,false),(9,false),(10,false),(11,false)] })]
set_option maxRecDepth 100000 in
set_option maxHeartbeats 4000000 in
theorem followsR_sx (c1 c2:Nat) (a b:Atl) (hl:a.routes.length≤1000000) :
  sx ttA [] foR15 (bodyOf Try.f33) (argF 0 [atlV a (slc 3 a.routes.length c1),atlV b (slc 5 b.routes.length c2)]) (uniM { c:={ noC with cells:=a.routes,versions:=b.routes } }) 13 (endx ttA Try.f33.results.toList fun v _ _=>∃ r,v=.bool r∧(r=true↔FolA a b)):=by
 refine⟨fun h1=>?_,fun h1=>?_⟩
 ·repeat (first | refine⟨fun _=>?_,fun h=>Bool.noConfusion h⟩ | refine⟨fun h=>Bool.noConfusion h,fun _=>?_⟩ | fail)
  exact⟨false,rfl,(fun q=>Bool.noConfusion q),fun q=>absurd q.par (by simpa using h1)⟩
 ·refine⟨fun h2=>?_,fun h2=>?_⟩
  ·repeat (first | refine⟨fun _=>?_,fun h=>Bool.noConfusion h⟩ | refine⟨fun h=>Bool.noConfusion h,fun _=>?_⟩ | fail)
   exact⟨false,rfl,(fun q=>Bool.noConfusion q),fun q=>absurd q.num (by have:=of_decide_eq_true h2;omega)⟩
  ·refine⟨fun h3=>?_,fun h3=>?_⟩
   ·repeat (first | refine⟨fun _=>?_,fun h=>Bool.noConfusion h⟩ | refine⟨fun h=>Bool.noConfusion h,fun _=>?_⟩ | fail)
    exact⟨false,rfl,(fun q=>Bool.noConfusion q),fun q=>absurd q.tick (by have:=of_decide_eq_true h3;omega)⟩
   ·refine⟨fun h4=>?_,fun h4=>?_⟩
    ·repeat (first | refine⟨fun _=>?_,fun h=>Bool.noConfusion h⟩ | refine⟨fun h=>Bool.noConfusion h,fun _=>?_⟩ | fail)
     exact⟨false,rfl,(fun q=>Bool.noConfusion q),fun q=>absurd q.len (by intro q2;rw[q2] at h4;simp at h4)⟩
    ·have hlen:(a.routes.length:Int)=b.routes.length:=by simpa using h4
     refine⟨Int,fun i=>[(5,.int .i64 i)],fun _=>[],fun i=>(0≤i∧i≤a.routes.length)∧∀ k,k<i.toNat→(a.routes.getD k (0,0)).2≤(b.routes.getD k (0,0)).2,fun i=>((a.routes.length:Int)-i).toNat,⟨0,⟨by omega,fun k hk=>absurd hk (by omega)⟩,kp_,kp_⟩,?_⟩
     rintro i ⟨hi,hall⟩
     refine⟨⟨rfl,rfl⟩,?_⟩
     refine⟨fun hlt=>?_,fun hge=>?_⟩
     ·have hlt2:i<(a.routes.length:Int):=of_decide_eq_true hlt
      refine⟨⟨Nat.le_refl _,hi.1,by omega⟩,?_⟩
      refine⟨⟨Nat.le_refl _,hi.1,by omega⟩,?_⟩
      refine⟨fun hb=>?_,fun hb=>?_⟩
      ·have hb2:(b.routes.getD i.toNat (0,0)).2<(a.routes.getD i.toNat (0,0)).2:=of_decide_eq_true hb
       exact⟨false,rfl,(fun q=>Bool.noConfusion q),fun q=>absurd (q.ep i.toNat (by omega)) (by omega)⟩
      ·have hb2:¬ (b.routes.getD i.toNat (0,0)).2<(a.routes.getD i.toNat (0,0)).2:=of_decide_eq_false hb
       refine⟨_,?_,kp_,kp_⟩
       rw[wrapi (n:=i+1) (by omega)]
       dsimp only
       refine⟨⟨by omega,fun k hk=>?_⟩,by omega⟩
       by_cases hki:k<i.toNat
       ·exact hall k hki
       ·obtain rfl:k=i.toNat:=by omega
        omega
     ·have hge2:¬ i<(a.routes.length:Int):=of_decide_eq_false hge
      exact⟨true,rfl,fun _=>⟨by simpa using h1,by have:=of_decide_eq_false h2;omega,by have:=of_decide_eq_false h3;omega,by omega,fun k hk=>hall k (by omega)⟩,fun _=>rfl⟩
theorem followsR_calls (A1 A2:Option Addr) (c1 c2:Nat) (a b:Atl) (w:World) (hl:a.routes.length≤1000000) (hr1:Rd w (·<w.heap.size) A1 (flat pairC a.routes)) (hr2:Rd w (·<w.heap.size) A2 (flat pairC b.routes)):Calls Try.prog 33 #[.agg #[.int .i64 a.number,.int .i64 a.tick,.slice A1 a.routes.length c1,.int .u64 a.parent,.int .u64 a.sum],.agg #[.int .i64 b.number,.int .i64 b.tick,.slice A2 b.routes.length c2,.int .u64 b.parent,.int .u64 b.sum]] w fun e w'=>∃ r,e=.returned (.bool r)∧(r=true↔FolA a b)∧Below w.heap.size w w':=by
 have:=uni_calls ttAok fti_nil Try.func33 rfl (D:=foR15) (by kernel_rfl) (vs:=[atlV a (slc 3 a.routes.length c1),atlV b (slc 5 b.routes.length c2)]) rfl { x:={ noX with ac:=A1,av:=A2 } } { c:={ noC with cells:=a.routes,versions:=b.routes } } w { c:={ noC_ok w (·<w.heap.size) with cells:=hr1,versions:=hr2 } } (fun v hv=>by
  simp only[List.mem_cons,List.not_mem_nil,or_false] at hv
  rcases hv with rfl | rfl
  ·intro u hu
   simp at hu
   rcases hu with rfl | rfl | rfl | rfl | rfl<;>first | trivial | exact⟨by decide,rfl⟩
  ·intro u hu
   simp at hu
   rcases hu with rfl | rfl | rfl | rfl | rfl<;>first | trivial | exact⟨by decide,rfl⟩) (followsR_sx c1 c2 a b hl)
 have e0:([atlV a (slc 3 a.routes.length c1),atlV b (slc 5 b.routes.length c2)].map (den (upl { x:={ noX with ac:=A1,av:=A2 } } { c:={ noC with cells:=a.routes,versions:=b.routes } }))).toArray=#[.agg #[.int .i64 a.number,.int .i64 a.tick,.slice A1 a.routes.length c1,.int .u64 a.parent,.int .u64 a.sum],.agg #[.int .i64 b.number,.int .i64 b.tick,.slice A2 b.routes.length c2,.int .u64 b.parent,.int .u64 b.sum]]:=by simp[den,den2,den1,dA_whole,dS_whole,upl]
 rw[e0] at this
 refine this.mono ?_
 rintro e w' ⟨v,mem',nx',ρ',rfl,⟨r,rfl,hr⟩,hv,hm',hb⟩
 exact⟨r,rfl,hr,hb⟩
def ctFollowsR:CT:=fun vs mem nx K=>∃ a b v1 v2,vs=[atlV a v1,atlV b v2]∧(SrcR mem 2 pairC (0,0) a.routes v1∧SrcR mem 2 pairC (0,0) b.routes v2)∧a.routes.length≤1000000∧∀ r,(r=true↔FolA a b)→K (.bool r) mem nx
theorem followsROk:CSound Try.prog 33 ctFollowsR:=⟨by kernel_rfl,fun {C ρ fr mem nx q w vs K} hc hs hv=>by
 obtain⟨a,b,v1,v2,rfl,⟨h1,h2⟩,hl,hK⟩:=hc
 obtain⟨A1,c1,e1,hr1⟩:=hs.srcR (enc:=pairC) (sz:=2) (fun _=>rfl) (by omega) h1
 obtain⟨A2,c2,e2,hr2⟩:=hs.srcR (enc:=pairC) (sz:=2) (fun _=>rfl) (by omega) h2
 rw[List.map_cons,List.map_cons,den_atl h1 e1,den_atl h2 e2]
 refine (followsR_calls A1 A2 c1 c2 a b w hl hr1 hr2).mono ?_
 rintro e w' ⟨r,rfl,hr,hb⟩
 exact⟨_,mem,nx,ρ,rfl,hK r hr,hs.later hb,trivial,ExtS.refl _ _⟩⟩
end Go.Proofs.Ytdjkeplekchfdaa
