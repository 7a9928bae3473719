import Derived.Test.YtbmlgcjoeeejbaaPb15
namespace Go.Proofs.Ytbmlgcjoeeejbaa
open Go.RowKit
set_option linter.unusedSimpArgs false
set_option linter.unusedVariables false
/-! ref15.Same,of equal atlases -/
abbrev saD:List (Nat×DQ):=[(2000004,{ k:=0,L:=[0,1,2,3,4,5,6,7,8,9,10,11,12,13,14],sl:=[2,3] }),(6,{ k:=10,L:=[0,1,2,3,4,5,6,7,8,9,10,11,12,13,14],pre:=[(0,false),(1,false),(2,false),(3,false),(4,false),(5,false),(6,false),(7,false),(8,false),(9,false)] })]
set_option maxRecDepth 100000 in
set_option maxHeartbeats 4000000 in
theorem sameA_sx (c1 c2:Nat) (a:Atl) (hl:a.routes.length≤1000000) :
  sx ttA [] saD (bodyOf Try.f14) (argF 0 [atlV a (slc 3 a.routes.length c1),atlV a (slc 5 a.routes.length c2)]) (uniM { c:={ noC with cells:=a.routes,versions:=a.routes } }) 13 (endx ttA Try.f14.results.toList fun v _ _=>v=.bool true):=by
 refine⟨fun q=>absurd q (by simp),fun _=>?_⟩
 refine⟨fun q=>absurd q (by simp),fun _=>?_⟩
 refine⟨fun q=>absurd q (by simp),fun _=>?_⟩
 refine⟨fun q=>absurd q (by simp),fun _=>?_⟩
 refine⟨fun q=>absurd q (by simp),fun _=>?_⟩
 refine⟨Int,fun i=>[(5,.int .i64 i)],fun _=>[],fun i=>0≤i∧i≤a.routes.length,fun i=>((a.routes.length:Int)-i).toNat,⟨0,by omega,kp_,kp_⟩,?_⟩
 rintro i hi
 refine⟨⟨rfl,rfl⟩,?_⟩
 refine⟨fun hlt=>?_,fun hge=>?_⟩
 ·have hlt2:i<(a.routes.length:Int):=of_decide_eq_true hlt
  refine⟨⟨Nat.le_refl _,hi.1,hlt2⟩,?_⟩
  refine⟨⟨Nat.le_refl _,hi.1,hlt2⟩,?_⟩
  refine⟨fun q=>absurd q (by simp[eqCs,eqC1]),fun _=>?_⟩
  refine⟨_,?_,kp_,kp_⟩
  rw[wrapi (n:=i+1) (by omega)]
  dsimp only
  exact⟨by omega,by omega⟩
 ·rfl
theorem sameA_calls (A1 A2:Option Addr) (c1 c2:Nat) (a:Atl) (w:World) (hl:a.routes.length≤1000000) (hr1:Rd w (·<w.heap.size) A1 (flat pairC a.routes)) (hr2:Rd w (·<w.heap.size) A2 (flat pairC a.routes)):Calls Try.prog 14 #[.agg #[.int .i64 a.number,.int .i64 a.tick,.slice A1 a.routes.length c1,.int .u64 a.parent,.int .u64 a.sum],.agg #[.int .i64 a.number,.int .i64 a.tick,.slice A2 a.routes.length c2,.int .u64 a.parent,.int .u64 a.sum]] w fun e w'=>e=.returned (.bool true)∧Below w.heap.size w w':=by
 have:=uni_calls ttAok fti_nil Try.func14 rfl (D:=saD) (by kernel_rfl) (vs:=[atlV a (slc 3 a.routes.length c1),atlV a (slc 5 a.routes.length c2)]) rfl { x:={ noX with ac:=A1,av:=A2 } } { c:={ noC with cells:=a.routes,versions:=a.routes } } w { c:={ noC_ok w (·<w.heap.size) with cells:=hr1,versions:=hr2 } } (fun v hv=>by
  simp only[List.mem_cons,List.not_mem_nil,or_false] at hv
  rcases hv with rfl | rfl
  ·intro u hu
   simp at hu
   rcases hu with rfl | rfl | rfl | rfl | rfl<;>first | trivial | exact⟨by decide,rfl⟩
  ·intro u hu
   simp at hu
   rcases hu with rfl | rfl | rfl | rfl | rfl<;>first | trivial | exact⟨by decide,rfl⟩) (sameA_sx c1 c2 a hl)
 have e0:([atlV a (slc 3 a.routes.length c1),atlV a (slc 5 a.routes.length c2)].map (den (upl { x:={ noX with ac:=A1,av:=A2 } } { c:={ noC with cells:=a.routes,versions:=a.routes } }))).toArray=#[.agg #[.int .i64 a.number,.int .i64 a.tick,.slice A1 a.routes.length c1,.int .u64 a.parent,.int .u64 a.sum],.agg #[.int .i64 a.number,.int .i64 a.tick,.slice A2 a.routes.length c2,.int .u64 a.parent,.int .u64 a.sum]]:=by simp[den,den2,den1,dA_whole,dS_whole,upl]
 rw[e0] at this
 refine this.mono ?_
 rintro e w' ⟨v,mem',nx',ρ',rfl,rfl,hv,hm',hb⟩
 exact⟨rfl,hb⟩
def ctSameA:CT:=fun vs mem nx K=>∃ a v1 v2,vs=[atlV a v1,atlV a v2]∧(SrcR mem 2 pairC (0,0) a.routes v1∧SrcR mem 2 pairC (0,0) a.routes v2)∧a.routes.length≤1000000∧K (.bool true) mem nx
theorem den_atl {ρ:Nat→Pl} {mem:AM} {a:Atl} {v:Value} (h:SrcR mem 2 pairC (0,0) a.routes v) {A:Option Addr} {cap:Nat} (e:den ρ v=.slice A a.routes.length cap):den ρ (atlV a v)=.agg #[.int .i64 a.number,.int .i64 a.tick,.slice A a.routes.length cap,.int .u64 a.parent,.int .u64 a.sum]:=by
 obtain⟨A',cp,rfl⟩:=h.slice
 have dI:∀ k n,den1 ρ (.int k n)=.int k n:=fun _ _=>rfl
 simp only[atlV,den,den2]
 simp[dI,den1_slice e]
theorem sameAOk:CSound Try.prog 14 ctSameA:=⟨by kernel_rfl,fun {C ρ fr mem nx q w vs K} hc hs hv=>by
 obtain⟨a,v1,v2,rfl,⟨h1,h2⟩,hl,hK⟩:=hc
 obtain⟨A1,c1,e1,hr1⟩:=hs.srcR (enc:=pairC) (sz:=2) (fun _=>rfl) (by omega) h1
 obtain⟨A2,c2,e2,hr2⟩:=hs.srcR (enc:=pairC) (sz:=2) (fun _=>rfl) (by omega) h2
 rw[List.map_cons,List.map_cons,den_atl h1 e1,den_atl h2 e2]
 refine (sameA_calls A1 A2 c1 c2 a w hl hr1 hr2).mono ?_
 rintro e w' ⟨rfl,hb⟩
 exact⟨_,mem,nx,ρ,rfl,hK,hs.later hb,trivial,ExtS.refl _ _⟩⟩
def preNone (args:List Value) (k:Int):Prop:=args=[]
theorem preNone_plain (args:List Value) (k:Int) (h:preNone args k):∀ v ∈ args,plain1 v∧atom v=true:=by
 cases h;intro v hv;cases hv
def ctMore:CT:=ctTape (fun zs args k z k'=>∃ b,z=.bool b∧k'=k∧(b=true→k<zs.length)) preNone
def moreD:List (Nat×DQ):=[(1,{ k:=10,L:=[0],pre:=[(0,false),(1,false),(2,false),(3,false),(4,false),(5,false),(6,false),(7,false),(8,false),(9,false)] })]
theorem moreOk:CSound Try.prog 47 ctMore:=tapeOk (by kernel_rfl) preNone_plain (by
 rintro args g A cap zs k w hz hk0 hk1 hp ht
 cases hp
 refine tape_calls ft_nil Try.func47 rfl (D:=moreD) (by kernel_rfl) rfl (preNone_plain _ k rfl) g A cap zs k w ht (R:=fun z k'=>∃ b,z=.bool b∧k'=k∧(b=true→k<zs.length)) ?_
 exact⟨k,⟨_,rfl,rfl,fun h=>of_decide_eq_true h⟩,⟨trivial,rfl⟩,rfl⟩)
/-! What Fold answers. -/
def foldGo (c:Cfg):Int→St→List Ent→St×Int×Int
 | i,s,[]=>(s,i,0)
 | i,s,e::r=>if (applyP c s e).2≠0 then (s,i,(applyP c s e).2) else foldGo c (i+1) (applyP c s e).1 r
def foldC (c:Cfg) (es:List Ent):St×Int×Int:=foldGo c 0 (stNew c) es
theorem BlkOk.fresh {C:Ctx} {ρ:Nat→Pl} {nx i:Nat} {w:World} {t:TypeId} {sz n:Nat} {el:Nat→List Value} {α:Type} {enc:α→List Value} {l:List α} (d:α) (h:BlkOk C ρ nx i w (.row t sz n el)) (ho:frT t=true) (hl:l.length=n) (he:∀ k,k<n→el k=enc (l.getD k d)) (hs:∀ x,(enc x).length=sz) (hpos:0<sz) :
  Rd w (fun b=>C.w0.heap.size≤b∧b<w.heap.size) (ρ i).A (flat enc l):=by
 subst hl
 obtain⟨h1,h2,h3⟩:=h
 have hb:BlkOk C ρ nx i w (.row t sz l.length (fun k=>enc (l.getD k d))):=by
  refine⟨h1,fun k hk=>by have:=h2 k hk;rw[he k hk] at this;exact this,h3.imp id ?_⟩
  rintro⟨b,off,hA,hat,hc⟩
  exact⟨b,off,hA,hat,fun k hk j v hv=>hc k hk j v (by rw[he k hk];exact hv)⟩
 refine rd_of_row hs hpos hb fun hne b off hA hlt=>?_
 rcases h3 with h0 | ⟨b2,off2,hA2,hat,-⟩
 ·exact absurd h0 hne
 ·rw[hA] at hA2
  cases hA2
  exact⟨hat.new ho,hlt⟩
def cpl (x:CfgA) (c:Cfg):Nat→Pl:=fun j=>match j with
 | 0=>⟨x.az,1,c.zones.length,false,noSub⟩
 | 1=>⟨x.ac,2,c.cells.length,false,noSub⟩
 | 2=>⟨x.at_,7,c.tenants.length,false,noSub⟩
 | 3=>⟨x.av,2,c.versions.length,false,noSub⟩
 | 4=>⟨x.ar,1,c.replicas.length,false,noSub⟩
 | _=>⟨x.ao,1,c.observers.length,false,noSub⟩
theorem getD_rep {α:Type} {n k:Nat} {a d:α} (h:k<n):(List.replicate n a).getD k d=a:=by
 rw[List.getD_eq_getElem?_getD,List.getElem?_replicate,if_pos h];rfl
def tiUint:TI:={ size:=1,agg:=false,zero:=[.int .u64 0],ik:=some .u64 }
def ttU:TT:=(87,tiUint)::tt
theorem ttUok:TTok Try.prog ttU:=by
 refine tt_mem _ _ ?_
 unfold ttU tt
 repeat (refine tt_cons ⟨by kernel_rfl,by kernel_rfl,plains (by rfl),by kernel_rfl,by kernel_rfl,by kernel_rfl⟩ ?_)
 exact tt_nil
/-! The functions that are walked where they are called. -/
/-! make.Config -/
theorem shl1_bd (r:Int):2≤shl1 r∧shl1 r≤16:=by unfold shl1;repeat' split<;>omega
theorem versOk_snoc {l:List (Int×Int)} {lo hi:Int} (h:versOk l=true) (h1:1≤l.length) (a:0≤lo) (b:lo≤hi) (d:hi≤30):versOk (l++[(lo,hi)])=true:=by
 unfold versOk at *
 rw[List.all_eq_true] at *
 intro i hi'
 rw[List.mem_range,List.length_append] at hi'
 simp at hi'
 by_cases hlt:i<l.length
 ·have:=h i (List.mem_range.2 hlt)
  rw[List.getElem?_append_left hlt]
  exact this
 ·obtain rfl:i=l.length:=by omega
  have hne:l≠[]:=by rintro rfl;simp at h1
  simp[verOk,hne]
  omega
structure MadeCfg (c:Cfg):Prop where
 valid:cfgErr c=0
 regions:1≤c.regions∧c.regions≤3
 zones:1≤c.zones.length∧c.zones.length≤6
 cells:1≤c.cells.length∧c.cells.length≤7
 tenants:c.tenants.length≤5
 versions:1≤c.versions.length∧c.versions.length≤3
 replicas:c.replicas.length=1∨c.replicas.length=3
 observers:1≤c.observers.length∧c.observers.length≤4
 blast:1≤c.blast∧c.blast≤3
 lease:2≤c.lease∧c.lease≤12
 bake:0≤c.bake∧c.bake≤8
 caps:c.cells.all (fun y=>inR y.1 0 (c.zones.length-1)&&inR y.2 1 40)=true
theorem madeCfg_of (r bl le ba:Int) (zl:List Int) (cl:List (Int×Int)) (tl:List Ten) (vl:List (Int×Int)) (rl ol:List Int) (h1:1≤r∧r≤3) (h2:1≤zl.length∧zl.length≤6) (h3:1≤cl.length∧cl.length≤7)
  (h4:tl.length≤5) (h5:1≤vl.length∧vl.length≤3) (a1:zl.all (fun z=>inR z 0 (r-1))=true) (a2:cl.all (fun y=>inR y.1 0 (zl.length-1)&&inR y.2 1 40)=true) (a3:tl.all (tenOk r)=true) (a4:versOk vl=true)
  (a5:rl.all (fun z=>inR z 0 (zl.length-1))=true) (a6:ol.all (fun z=>inR z 0 (zl.length-1))=true) (h6:rl.length=1∨rl.length=3) (h7:1≤ol.length∧ol.length≤4) (h8:1≤bl∧bl≤3) (h9:2≤le∧le≤12) (h10:0≤ba∧ba≤8) :
  MadeCfg ⟨r,zl,cl,tl,vl,rl,ol,bl,le,ba⟩:=by
 refine⟨?_,h1,h2,h3,h4,h5,h6,h7,h8,h9,h10,a2⟩
 have b1:cl.all (fun y=>inR y.1 0 (zl.length-1))=true:=by
  rw[List.all_eq_true] at a2 ⊢
  exact fun y hy=>(Bool.and_eq_true _ _ ▸ a2 y hy).1
 have b2:cl.all (fun y=>inR y.2 1 4194304)=true:=by
  rw[List.all_eq_true] at a2 ⊢
  intro y hy
  have:=(Bool.and_eq_true _ _ ▸ a2 y hy).2
  simp[inR] at this ⊢
  omega
 have l1:limitsB ⟨r,zl,cl,tl,vl,rl,ol,bl,le,ba⟩=true:=by simp[limitsB,inR];omega
 have l2:placesB ⟨r,zl,cl,tl,vl,rl,ol,bl,le,ba⟩=true:=by unfold placesB;rw[a1,b1,a5,a6];rfl
 have l3:valuesB ⟨r,zl,cl,tl,vl,rl,ol,bl,le,ba⟩=true:=by
  unfold valuesB
  rw[b2,a4]
  simp[inR]
  omega
 have l4:¬ rl.length % 2=0:=by omega
 have l5:topoErr ⟨r,zl,cl,tl,vl,rl,ol,bl,le,ba⟩=0:=by simp[topoErr,l1,l2,l3,l4]
 simp only[cfgErr,l5,a3]
 rfl
def CfgPost (w:World) (e:Ending) (w':World):Prop:=
 ∃ (x:CfgA) (c:Cfg),e=.returned (.agg (cfgC x c))∧CfgOk w' (fun b=>w.heap.size≤b∧b<w'.heap.size) x c∧MadeCfg c∧Below w.heap.size w w'
theorem versOk_one {h:Int} (h0:0≤h) (h1:h≤30):versOk [(0,h)]=true:=by
 simp[versOk,verOk]
 omega
abbrev allowC (r:Int):Int:=IntKind.i64.wrap (IntKind.i64.wrap (1 * 2 ^ min (IntKind.u64.wrap r).toNat IntKind.i64.bits)-1)
theorem allowC_eq {r:Int} (h:1≤r∧r≤3):allowC r=shl1 r-1:=by
 rcases (show r=1∨r=2∨r=3 by omega) with rfl | rfl | rfl<;>decide
theorem ten_okC {r a b p g al gr:Int} {no:Bool} (h1:1≤r∧r≤3) (ha:1≤a∧a≤12) (hb:0≤b∧b<a+1) (hp:0≤p∧p<4) (hg:-1≤g∧g≤3) (hal:1≤al∧al≤shl1 r-1) (hgr:0≤gr∧gr<3):tenOk r ⟨a,b,p,g,al,gr,no⟩=true:=by
 unfold tenOk inR
 simp only[Bool.and_eq_true,decide_eq_true_eq]
 omega
def ctBetw:CT:=fun vs mem nx K=>∃ v lo hi,vs=[.int .i64 v,.int .i64 lo,.int .i64 hi]∧(lo≤hi∧-1000000≤lo∧hi≤1000000)∧∀ r:Int,lo≤r→r≤hi→K (.int .i64 r) mem nx
theorem betwOk:CSound Try.prog 31 ctBetw:=⟨by kernel_rfl,fun {C ρ fr mem nx a w vs K} hc hs hv=>by
 obtain⟨v,lo,hi,rfl,⟨h1,h2,h3⟩,hK⟩:=hc
 refine (mkBetween_any v lo hi w h1 h2 h3).mono ?_
 rintro e w' ⟨⟨r,hr1,hr2,-,rfl⟩,rfl⟩
 exact⟨.int .i64 r,mem,nx,ρ,rfl,hK r hr1 hr2,hs,trivial,ExtS.refl _ _⟩⟩
theorem snoc_el {α:Type} {enc:α→List Value} {d:α} {l:List α} {x:α} {el el2:Nat→List Value} (h0:∀ j,j<l.length→el j=enc (l.getD j d)) (h1:∀ j,j<l.length→el2 j=el j) (h2:el2 (l.length+0)=enc x):∀ j,j<(l++[x]).length→el2 j=enc ((l++[x]).getD j d):=by
 intro j hj
 by_cases hjn:j<l.length
 ·rw[h1 j hjn,h0 j hjn,List.getD_eq_getElem?_getD,List.getD_eq_getElem?_getD,List.getElem?_append_left hjn]
 ·obtain rfl:j=l.length:=by simp at hj;omega
  rw[Nat.add_zero] at h2
  rw[h2,List.getD_eq_getElem?_getD,List.getElem?_append_right (Nat.le_refl _),Nat.sub_self]
  rfl
theorem one_el {α:Type} {enc:α→List Value} {d x:α} {el2:Nat→List Value} (h2:el2 0=enc x):∀ j,j<[x].length→el2 j=enc ([x].getD j d):=by
 intro j hj
 obtain rfl:j=0:=by simpa using hj
 exact h2
theorem cwz {n rg:Int} (hn:0≤n) (hr:1≤rg):(true&&[Int.tmod n rg].all (fun z=>inR z 0 (rg-1)))=true:=by
 have t1:=Int.tmod_nonneg rg hn
 have t2:=Int.tmod_lt_of_pos n (show 0<rg by omega)
 simp[inR]
 omega
theorem cwc {n z r:Int} (hn:0≤n) (hz:1≤z) (hr:1≤r∧r≤4):(true&&[(Int.tmod n z,IntKind.i64.wrap (r * 10))].all (fun y=>inR y.1 0 (z-1)&&inR y.2 1 40))=true:=by
 have t1:=Int.tmod_nonneg z hn
 have t2:=Int.tmod_lt_of_pos n (show 0<z by omega)
 rw[wrapi (n:=r * 10) (by omega)]
 simp[inR]
 omega
theorem cwi {z r:Int} (hr:0≤r∧r<z):(true&&[r].all (fun y=>inR y 0 (z-1)))=true:=by
 simp[inR]
 omega
end Go.Proofs.Ytbmlgcjoeeejbaa
