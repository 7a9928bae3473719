import Derived.Test.YtdjkeplekchfdaaPv15
namespace Go.Proofs.Ytdjkeplekchfdaa
open Go.RowKit
set_option linter.unusedSimpArgs false
set_option linter.unusedVariables false
/-! ref04.Valid,ref05.Valid: first parts -/
set_option maxRecDepth 100000 in
theorem in_sx (n lo hi:Int):sx ttA [] [] (bodyOf Try.f93) (argF 0 [.int .i64 n,.int .i64 lo,.int .i64 hi]) (uniM {}) 13 (endx ttA Try.f93.results.toList fun v _ _=>v=.bool (inR n lo hi)):=by
 refine⟨fun h=>?_,fun h=>?_⟩
 ·exact congrArg Value.bool (by unfold inR;grind)
 ·exact congrArg Value.bool (by unfold inR;grind)
theorem in_calls (n lo hi:Int) (w:World):Calls Try.prog 93 #[.int .i64 n,.int .i64 lo,.int .i64 hi] w fun e w'=>e=.returned (.bool (inR n lo hi))∧Below w.heap.size w w':=by
 have:=uni_calls ttAok fti_nil Try.func93 rfl (D:=[]) (by kernel_rfl) (vs:=[.int .i64 n,.int .i64 lo,.int .i64 hi]) rfl {} {} w {} (fun v hv=>by
  simp only[List.mem_cons,List.not_mem_nil,or_false] at hv
  rcases hv with rfl | rfl | rfl<;>trivial) (in_sx n lo hi)
 refine this.mono ?_
 rintro e w' ⟨v,mem',nx',ρ',rfl,rfl,hv,hm',hb⟩
 exact⟨rfl,hb⟩
def ctIn:CT:=fun vs mem nx K=>∃ n lo hi,vs=[.int .i64 n,.int .i64 lo,.int .i64 hi]∧K (.bool (inR n lo hi)) mem nx
theorem inOk:CSound Try.prog 93 ctIn:=CSound.pure (by kernel_rfl) (by
 rintro vs mem nx K ⟨n,lo,hi,rfl,hK⟩
 exact⟨_,hK,fun ρ m=>⟨rfl,trivial⟩,fun ρ w=>in_calls n lo hi w⟩)
def liF:FT:=[(93,ctIn)]
theorem liFok:FTokI Try.prog liF (inlOf []):=fti_cons (inOk.i _) fti_nil
set_option maxRecDepth 100000 in
set_option maxHeartbeats 4000000 in
theorem limits_sx (x:CfgK) (c:Cfg) :
  sx ttA liF [] (bodyOf Try.f91) (argF 0 [cfgV CNu x c]) (uniM { c:=c }) 13 (endx ttA Try.f91.results.toList fun v _ _=>v=.bool (limitsB c)):=by
 refine⟨_,_,_,rfl,?_⟩
 refine⟨fun h1=>?_,fun h1=>?_⟩
 ·refine⟨_,_,_,rfl,?_⟩
  refine⟨fun h2=>?_,fun h2=>?_⟩
  ·refine⟨_,_,_,rfl,?_⟩
   refine⟨fun h3=>?_,fun h3=>?_⟩
   ·refine⟨_,_,_,rfl,?_⟩
    refine⟨fun h4=>?_,fun h4=>?_⟩
    ·refine⟨_,_,_,rfl,?_⟩
     refine⟨fun h5=>?_,fun h5=>?_⟩
     ·refine⟨_,_,_,rfl,?_⟩
      refine⟨fun h6=>?_,fun h6=>?_⟩
      ·exact congrArg Value.bool (by unfold limitsB;simp[h1,h2,h3,h4,h5,h6];omega)
      ·repeat (first | refine⟨fun _=>?_,fun h=>Bool.noConfusion h⟩ | refine⟨fun h=>Bool.noConfusion h,fun _=>?_⟩ | fail)
       exact congrArg Value.bool (by unfold limitsB;simp[h1,h2,h3,h4,h5,h6])
     ·repeat (first | refine⟨fun _=>?_,fun h=>Bool.noConfusion h⟩ | refine⟨fun h=>Bool.noConfusion h,fun _=>?_⟩ | fail)
      exact congrArg Value.bool (by unfold limitsB;simp[h1,h2,h3,h4,h5])
    ·repeat (first | refine⟨fun _=>?_,fun h=>Bool.noConfusion h⟩ | refine⟨fun h=>Bool.noConfusion h,fun _=>?_⟩ | fail)
     exact congrArg Value.bool (by unfold limitsB;simp[h1,h2,h3,h4])
   ·repeat (first | refine⟨fun _=>?_,fun h=>Bool.noConfusion h⟩ | refine⟨fun h=>Bool.noConfusion h,fun _=>?_⟩ | fail)
    exact congrArg Value.bool (by unfold limitsB;simp[h1,h2,h3])
  ·repeat (first | refine⟨fun _=>?_,fun h=>Bool.noConfusion h⟩ | refine⟨fun h=>Bool.noConfusion h,fun _=>?_⟩ | fail)
   exact congrArg Value.bool (by unfold limitsB;simp[h1,h2])
 ·repeat (first | refine⟨fun _=>?_,fun h=>Bool.noConfusion h⟩ | refine⟨fun h=>Bool.noConfusion h,fun _=>?_⟩ | fail)
  exact congrArg Value.bool (by unfold limitsB;simp[h1])
set_option maxRecDepth 100000 in
set_option maxHeartbeats 4000000 in
theorem zones_sx (x:CfgK) (c:Cfg) (l:List Int) (cap:Nat) (hl:l.length≤1000000) (hz:c.zones.length≤1000000) :
  sx ttA liF [(2000002,{ k:=0,L:=[0,1,2,3,4,5,6,7,8,9,10,11,12,13],sl:=[1,2] }),(4,{ k:=8,L:=[0,1,2,3,4,5,6,7,8,9,10,11,12,13],pre:=[(0,false),(1,false),(2,false),(3,false),(4,false),(5,false),(6,false),(7,false)] })] (bodyOf Try.f92) (argF 0 [cfgV CNu x c,slc 0 l.length cap]) (uniM { l0:=l,c:=c }) 13 (endx ttA Try.f92.results.toList fun v _ _=>v=.bool (l.all fun z=>inR z 0 (c.zones.length-1))):=by
 refine⟨Int,fun i=>[(5,.int .i64 i)],fun _=>[],fun i=>(0≤i∧i≤l.length)∧∀ k,k<i.toNat→inR (l.getD k 0) 0 (c.zones.length-1)=true,fun i=>((l.length:Int)-i).toNat,⟨0,⟨by omega,fun k hk=>absurd hk (by omega)⟩,kp_,kp_⟩,?_⟩
 rintro i ⟨hi,hall⟩
 refine⟨⟨rfl,rfl⟩,?_⟩
 refine⟨fun hlt=>?_,fun hge=>?_⟩
 ·have hlt2:i<(l.length:Int):=of_decide_eq_true hlt
  refine⟨⟨Nat.le_refl _,hi.1,hlt2⟩,?_⟩
  refine⟨_,_,_,rfl,?_⟩
  rw[wrapi (n:=(c.zones.length:Int)-1) (by omega)]
  refine⟨fun hb=>?_,fun hb=>?_⟩
  ·have hb2:inR (l.getD i.toNat 0) 0 (c.zones.length-1)=false:=by simpa using hb
   refine congrArg Value.bool (Eq.symm ?_)
   rw[List.all_eq_false]
   refine⟨l.getD i.toNat 0,?_,by rw[hb2];decide⟩
   rw[List.getD_eq_getElem?_getD,List.getElem?_eq_getElem (by omega)]
   exact List.getElem_mem _
  ·have hb2:inR (l.getD i.toNat 0) 0 (c.zones.length-1)=true:=by simpa using hb
   refine⟨_,?_,kp_,kp_⟩
   rw[wrapi (n:=i+1) (by omega)]
   dsimp only
   refine⟨⟨by omega,fun k hk=>?_⟩,by omega⟩
   by_cases hki:k<i.toNat
   ·exact hall k hki
   ·obtain rfl:k=i.toNat:=by omega
    exact hb2
 ·have hge2:¬ i<(l.length:Int):=of_decide_eq_false hge
  refine congrArg Value.bool (Eq.symm ?_)
  rw[List.all_eq_true]
  intro z hz2
  obtain⟨k,hk,rfl⟩:=List.getElem_of_mem hz2
  have:=hall k (by omega)
  rwa[List.getD_eq_getElem?_getD,List.getElem?_eq_getElem hk] at this
/-! ref04.Valid: plain facts -/
theorem all_getD {α:Type} {l:List α} {p:α→Bool} (d:α):l.all p=true↔∀ k,k<l.length→p (l.getD k d)=true:=by
 rw[List.all_eq_true]
 constructor
 ·intro h k hk
  rw[List.getD_eq_getElem?_getD,List.getElem?_eq_getElem hk]
  exact h _ (List.getElem_mem _)
 ·intro h x hx
  obtain⟨k,hk,rfl⟩:=List.getElem_of_mem hx
  have:=h k hk
  rwa[List.getD_eq_getElem?_getD,List.getElem?_eq_getElem hk] at this
theorem versOk_iff (l:List (Int×Int)):versOk l=true↔∀ k,k<l.length→verOk k (l.getD k (0,0))=true:=by
 constructor
 ·intro h k hk
  rw[List.getD_eq_getElem?_getD,List.getElem?_eq_getElem hk]
  cases hv:verOk k l[k] with
  | true=>exact hv
  | false=>rw[versOk_no (List.getElem?_eq_getElem hk) hv] at h;cases h
 ·intro h
  refine versOk_yes fun k v hv=>?_
  have hk:=(List.getElem?_eq_some_iff.1 hv).1
  have:=h k hk
  rwa[List.getD_eq_getElem?_getD,hv] at this
def G04 (c:Cfg):Prop:=c.replicas.length % 2=1∧(c.replicas.all fun z=>inR z 0 (c.zones.length-1))=true∧(c.observers.all fun z=>inR z 0 (c.zones.length-1))=true∧inR c.blast 1 16=true∧inR c.lease 1 1000=true∧inR c.bake 0 10000=true∧(c.versions.getD 0 (0,0)).1=0
def ZK4 (c:Cfg) (i:Nat):Prop:=∀ k,k<i→inR (c.zones.getD k 0) 0 (c.regions-1)=true
def CK4 (c:Cfg) (i:Nat):Prop:=∀ k,k<i→inR (c.cells.getD k (0,0)).1 0 (c.zones.length-1)=true∧inR (c.cells.getD k (0,0)).2 1 4194304=true
def VK4 (c:Cfg) (i:Nat):Prop:=∀ k,k<i→inR (c.versions.getD k (0,0)).1 0 (c.versions.getD k (0,0)).2=true∧(c.versions.getD k (0,0)).2≤30
theorem valid4_yes {c:Cfg} (hl:limitsB c=true) (h0:G04 c) (hz:ZK4 c c.zones.length) (hc:CK4 c c.cells.length) (hv:VK4 c c.versions.length):topoErr c=0:=by
 obtain⟨g1,g2,g3,g4,g5,g6,g7⟩:=h0
 have hp:placesB c=true:=by
  unfold placesB
  rw[g2,g3,(all_getD (p:=fun z=>inR z 0 (c.regions-1)) 0).2 hz,(all_getD (0,0)).2 fun k hk=>(hc k hk).1]
  rfl
 have hver:versOk c.versions=true:=(versOk_iff _).2 fun k hk=>by
  have:=hv k hk
  unfold verOk
  unfold inR at this
  cases k with
  | zero=>grind
  | succ k=>grind
 have hq:valuesB c=true:=by
  unfold valuesB
  rw[g4,g5,g6,hver,(all_getD (0,0)).2 fun k hk=>(hc k hk).2]
  rfl
 unfold topoErr
 rw[if_neg (by rw[hl];decide),if_neg]
 rw[hp,hq]
 rintro (q | q | q)
 ·omega
 ·cases q
 ·cases q
theorem valid4_no {c:Cfg} (hl:limitsB c=true) (h:¬ (((G04 c∧ZK4 c c.zones.length)∧CK4 c c.cells.length)∧VK4 c c.versions.length)):topoErr c=1:=by
 unfold topoErr
 rw[if_neg (by rw[hl];decide)]
 by_cases hr:c.replicas.length % 2=0
 ·rw[if_pos (.inl hr)]
 by_cases hp:placesB c=false
 ·rw[if_pos (.inr (.inl hp))]
 by_cases hq:valuesB c=false
 ·rw[if_pos (.inr (.inr hq))]
 exfalso
 rw[Bool.not_eq_false] at hp hq
 unfold placesB at hp
 unfold valuesB at hq
 simp only[Bool.and_eq_true] at hp hq
 obtain⟨⟨⟨p1,p2⟩,p3⟩,p4⟩:=hp
 obtain⟨⟨q1,q2⟩,⟨q3,q4⟩,q5⟩:=hq
 have hnv:0<c.versions.length:=by
  simp[limitsB,inR] at hl
  omega
 have hv:=(versOk_iff _).1 q2
 refine h ⟨⟨⟨⟨by omega,p3,p4,q3,q4,q5,?_⟩,(all_getD 0).1 p1⟩,fun k hk=>⟨(all_getD (0,0)).1 p2 k hk,(all_getD (0,0)).1 q1 k hk⟩⟩,fun k hk=>?_⟩
 ·have:=hv 0 hnv
  unfold verOk at this
  grind
 ·have:=hv k hk
  unfold verOk at this
  unfold inR
  grind
theorem limits_calls (x:CfgA) (c:Cfg) (w:World) (hc:CfgOk w (·<w.heap.size) x c):Calls Try.prog 91 #[.agg (cfgC x c)] w fun e w'=>e=.returned (.bool (limitsB c))∧Below w.heap.size w w':=by
 have:=uni_calls ttAok liFok Try.func91 rfl (D:=[]) (by kernel_rfl) (vs:=[cfgV CNu (ck x) c]) rfl { x:=x } { c:=c } w { c:=hc } (fun v hv=>by
  simp only[List.mem_cons,List.not_mem_nil,or_false] at hv
  subst hv
  exact upl_cfg_ok { x:=x } { c:=c }) (limits_sx (ck x) c)
 rw[List.map_cons,upl_cfg { x:=x } { c:=c }] at this
 refine this.mono ?_
 rintro e w' ⟨v,mem',nx',ρ',rfl,rfl,hv,hm',hb⟩
 exact⟨rfl,hb⟩
def ctLimits:CT:=fun vs mem nx K=>∃ N x c,vs=[cfgV N x c]∧HasCfg mem N c∧K (.bool (limitsB c)) mem nx
theorem limitsOk:CSound Try.prog 91 ctLimits:=⟨by kernel_rfl,fun {C ρ fr mem nx a w vs K} hc hs hv=>by
 obtain⟨N,x,c,rfl,hk,hK⟩:=hc
 rw[List.map_cons,den_cfg]
 refine (limits_calls (cfgX ρ N x) c w (hs.cfgH hk)).mono ?_
 rintro e w' ⟨rfl,hb⟩
 exact⟨_,mem,nx,ρ,rfl,hK,hs.later hb,trivial,ExtS.refl _ _⟩⟩
theorem zones_calls (x:CfgA) (c:Cfg) (A:Option Addr) (l:List Int) (cap:Nat) (w:World) (hl:l.length≤1000000) (hz:c.zones.length≤1000000) (hr:Rd w (·<w.heap.size) A (flat intC l)) (hc:CfgOk w (·<w.heap.size) x c):Calls Try.prog 92 #[.agg (cfgC x c),.slice A l.length cap] w fun e w'=>e=.returned (.bool (l.all fun z=>inR z 0 (c.zones.length-1)))∧Below w.heap.size w w':=by
 have:=uni_calls ttAok liFok Try.func92 rfl (D:=[(2000002,{ k:=0,L:=[0,1,2,3,4,5,6,7,8,9,10,11,12,13],sl:=[1,2] }),(4,{ k:=8,L:=[0,1,2,3,4,5,6,7,8,9,10,11,12,13],pre:=[(0,false),(1,false),(2,false),(3,false),(4,false),(5,false),(6,false),(7,false)] })]) (by kernel_rfl) (vs:=[cfgV CNu (ck x) c,slc 0 l.length cap]) rfl { a0:=A,x:=x } { l0:=l,c:=c } w { r0:=hr,c:=hc } (fun v hv=>by
  simp only[List.mem_cons,List.not_mem_nil,or_false] at hv
  rcases hv with rfl | rfl
  ·exact upl_cfg_ok { a0:=A,x:=x } { l0:=l,c:=c }
  ·exact⟨show (0:Nat)<13 by decide,rfl⟩) (zones_sx (ck x) c l cap hl hz)
 rw[List.map_cons,upl_cfg { a0:=A,x:=x } { l0:=l,c:=c }] at this
 refine this.mono ?_
 rintro e w' ⟨v,mem',nx',ρ',rfl,rfl,hv,hm',hb⟩
 exact⟨rfl,hb⟩
def ctZones:CT:=fun vs mem nx K=>∃ N x c r l cap,vs=[cfgV N x c,slc r (l:List Int).length cap]∧(HasCfg mem N c∧HasRow mem r 1 intC 0 l)∧(l.length≤1000000∧c.zones.length≤1000000)∧K (.bool (l.all fun z=>inR z 0 (c.zones.length-1))) mem nx
theorem zonesOk:CSound Try.prog 92 ctZones:=⟨by kernel_rfl,fun {C ρ fr mem nx a w vs K} hc hs hv=>by
 obtain⟨N,x,c,r,l,cap,rfl,⟨hk,hr⟩,⟨hl,hz⟩,hK⟩:=hc
 have e0:([cfgV N x c,slc r l.length cap].map (den ρ)).toArray=#[.agg (cfgC (cfgX ρ N x) c),.slice (ρ r).A l.length cap]:=by
  rw[List.map_cons,den_cfg]
  simp[den,den2,den1,dA_whole,dS_whole]
 rw[e0]
 refine (zones_calls (cfgX ρ N x) c (ρ r).A l cap w hl hz (hs.hasRd (enc:=intC) (sz:=1) (fun _=>rfl) (by omega) hr) (hs.cfgH hk)).mono ?_
 rintro e w' ⟨rfl,hb⟩
 exact⟨_,mem,nx,ρ,rfl,hK,hs.later hb,trivial,ExtS.refl _ _⟩⟩
/-! ref04.Valid -/
theorem all_succ {P:Nat→Prop} {i:Int} (h:0≤i):(∀ k,k<(i+1).toNat→P k)↔(∀ k,k<i.toNat→P k)∧P i.toNat:=by
 constructor
 ·exact fun q=>⟨fun k hk=>q k (by omega),q _ (by omega)⟩
 ·rintro⟨q1,q2⟩ k hk
  by_cases hki:k<i.toNat
  ·exact q1 k hki
  ·obtain rfl:k=i.toNat:=by omega
   exact q2
def v4F:FT:=[(91,ctLimits),(92,ctZones),(93,ctIn)]
theorem v4Fok:FTokI Try.prog v4F (inlOf []):=fti_cons (limitsOk.i _) (fti_cons (zonesOk.i _) (fti_cons (inOk.i _) fti_nil))
def v4D:List (Nat×DQ):=[(1000004,{ k:=14,L:=[0,1,2,3,4,5,6,7,8,9,10,11,12,13],sl:=[1] }),(2000005,{ k:=0,L:=[0,1,2,3,4,5,6,7,8,9,10,11,12,13],sl:=[1] }),(2000009,{ k:=0,L:=[0,1,2,3,4,5,6,7,8,9,10,11,12,13],sl:=[1] }),(2000013,{ k:=0,L:=[0,1,2,3,4,5,6,7,8,9,10,11,12,13],sl:=[1] }),(7,{ k:=11,L:=[0,1,2,3,4,5,6,7,8,9,10,11,12,13],pre:=[(0,false),(1,false),(2,false),(3,false),(4,false),(5,false),(6,false),(7,false),(8,false),(9,false),(10,false)] }),
 (11,{ k:=18,L:=[0,1,2,3,4,5,6,7,8,9,10,11,12,13],pre:=[(0,false),(1,false),(2,false),(3,false),(4,false),(5,false),(6,false),(7,false),(8,false),(9,false),(10,false),(11,false),(12,true),(13,false),(14,false),(15,false),(16,false),(17,false)] }),(15,{ k:=20,L:=[0,1,2,3,4,5,6,7,8,9,10,11,12,13],pre:=[(0,false),(1,false),(2,false),(3,false),(4,false),(5,false),(6,false),(7,false),(8,false),(9,false),(10,false),(11,false),(12,false),(13,false),(14,true),(15,false),(16,false),(17,false),(18,false),(19,false)] })]
set_option maxRecDepth 100000 in
set_option maxHeartbeats 8000000 in
theorem valid4_sx (x:CfgK) (c:Cfg) :
  sx ttA v4F v4D (bodyOf Try.f75) (argF 0 [cfgV CNu x c]) (uniM { c:=c }) 13 (endx ttA Try.f75.results.toList fun v _ _=>v=.int .i64 (topoErr c)):=by
 refine⟨CNu,x,c,rfl,HasCfg.keeps kp_,?_⟩
 refine⟨fun hl=>?_,fun hl=>?_⟩
 ·replace hl:limitsB c=false:=by simpa using hl
  exact congrArg (Value.int .i64) (show topoErr c=2 from if_pos hl).symm
 ·replace hl:limitsB c=true:=by simpa using hl
  have hlm:=hl
  simp[limitsB,inR] at hlm
  refine⟨Bool,fun b=>[(3,.bool b)],fun _=>[],fun b=>(b=true↔G04 c),?_,?_⟩
  ·refine⟨⟨rfl,by decide⟩,?_⟩
   refine⟨fun h1=>?_,fun h1=>?_⟩
   ·refine⟨CNu,x,c,6,c.replicas,_,rfl,⟨HasCfg.keeps kp_,.list rfl⟩,⟨by omega,by omega⟩,?_⟩
    refine⟨fun h2=>?_,fun h2=>?_⟩
    ·refine⟨CNu,x,c,7,c.observers,_,rfl,⟨HasCfg.keeps kp_,.list rfl⟩,⟨by omega,by omega⟩,?_⟩
     refine⟨fun h3=>?_,fun h3=>?_⟩
     ·refine⟨_,_,_,rfl,?_⟩
      refine⟨fun h4=>?_,fun h4=>?_⟩
      ·refine⟨_,_,_,rfl,?_⟩
       refine⟨fun h5=>?_,fun h5=>?_⟩
       ·refine⟨_,_,_,rfl,?_⟩
        refine⟨fun h6=>?_,fun h6=>?_⟩
        ·refine⟨⟨Nat.le_refl _,by omega,by omega⟩,?_⟩
         refine⟨_,?_,kp_,kp_⟩
         have h1b:=(by simpa using h1:(c.replicas.length:Int).tmod 2=1)
         rw[Int.tmod_eq_emod_of_nonneg (by omega)] at h1b
         exact⟨fun q=>⟨by omega,h2,h3,h4,h5,h6,by simpa using q⟩,fun q=>by simpa using q.2.2.2.2.2.2⟩
        ·repeat (first | refine⟨fun _=>?_,fun h=>Bool.noConfusion h⟩ | refine⟨fun h=>Bool.noConfusion h,fun _=>?_⟩ | fail)
         exact⟨false,⟨fun q=>Bool.noConfusion q,fun q=>absurd q.2.2.2.2.2.1 (by rw[h6];decide)⟩,kp_,kp_⟩
       ·repeat (first | refine⟨fun _=>?_,fun h=>Bool.noConfusion h⟩ | refine⟨fun h=>Bool.noConfusion h,fun _=>?_⟩ | fail)
        exact⟨false,⟨fun q=>Bool.noConfusion q,fun q=>absurd q.2.2.2.2.1 (by rw[h5];decide)⟩,kp_,kp_⟩
      ·repeat (first | refine⟨fun _=>?_,fun h=>Bool.noConfusion h⟩ | refine⟨fun h=>Bool.noConfusion h,fun _=>?_⟩ | fail)
       exact⟨false,⟨fun q=>Bool.noConfusion q,fun q=>absurd q.2.2.2.1 (by rw[h4];decide)⟩,kp_,kp_⟩
     ·repeat (first | refine⟨fun _=>?_,fun h=>Bool.noConfusion h⟩ | refine⟨fun h=>Bool.noConfusion h,fun _=>?_⟩ | fail)
      exact⟨false,⟨fun q=>Bool.noConfusion q,fun q=>absurd q.2.2.1 (by rw[h3];decide)⟩,kp_,kp_⟩
    ·repeat (first | refine⟨fun _=>?_,fun h=>Bool.noConfusion h⟩ | refine⟨fun h=>Bool.noConfusion h,fun _=>?_⟩ | fail)
     exact⟨false,⟨fun q=>Bool.noConfusion q,fun q=>absurd q.2.1 (by rw[h2];decide)⟩,kp_,kp_⟩
   ·repeat (first | refine⟨fun _=>?_,fun h=>Bool.noConfusion h⟩ | refine⟨fun h=>Bool.noConfusion h,fun _=>?_⟩ | fail)
    exact⟨false,⟨fun q=>Bool.noConfusion q,fun q=>absurd q.1 (by have h1b:=(by simpa using h1:¬ ((c.replicas.length:Int).tmod 2=1));rw[Int.tmod_eq_emod_of_nonneg (by omega)] at h1b;omega)⟩,kp_,kp_⟩
  ·rintro b hb
   refine⟨⟨by decide,rfl,rfl⟩,?_⟩
   refine⟨Int×Bool,fun q=>match q with | (i,b)=>[(4,.int .i64 i),(3,.bool b)],fun _=>[],fun q=>match q with | (i,b)=>(0≤i∧i≤c.zones.length)∧(b=true↔(G04 c∧ZK4 c i.toNat)),fun q=>match q with | (i,b)=>((c.zones.length:Int)-i).toNat,⟨(0,b),⟨by omega,⟨fun q=>⟨hb.1 q,fun k hk=>absurd hk (by omega)⟩,fun q=>hb.2 q.1⟩⟩,kp_,kp_⟩,?_⟩
   clear hb b
   rintro⟨i,b⟩ ⟨hi,hb⟩
   refine⟨⟨rfl,rfl⟩,?_⟩
   refine⟨fun hlt=>?_,fun hge=>?_⟩
   ·have hlt2:i<(c.zones.length:Int):=of_decide_eq_true hlt
    refine⟨fun hbt=>?_,fun hbt=>?_⟩
    ·refine⟨⟨Nat.le_refl _,by omega,by omega⟩,?_⟩
     refine⟨_,_,_,rfl,?_⟩
     rw[wrapi (n:=c.regions-1) (by omega)]
     refine⟨(_,_),?_,kp_,kp_⟩
     dsimp only
     rw[wrapi (n:=i+1) (by omega)]
     have hs:=all_succ (P:=fun k=>inR (c.zones.getD k 0) 0 (c.regions-1)=true) hi.1
     refine⟨⟨by omega,?_⟩,by omega⟩
     exact⟨fun q=>⟨(hb.1 hbt).1,hs.2 ⟨(hb.1 hbt).2,q⟩⟩,fun q=>(hs.1 q.2).2⟩
    ·refine⟨(_,false),?_,kp_,kp_⟩
     dsimp only
     rw[wrapi (n:=i+1) (by omega)]
     have hs:=all_succ (P:=fun k=>inR (c.zones.getD k 0) 0 (c.regions-1)=true) hi.1
     refine⟨⟨by omega,?_⟩,by omega⟩
     exact⟨fun q=>Bool.noConfusion q,fun q=>absurd (hb.2 ⟨q.1,(hs.1 q.2).1⟩) (by rw[hbt];decide)⟩
   ·have hge2:¬ i<(c.zones.length:Int):=of_decide_eq_false hge
    obtain rfl:i=c.zones.length:=by omega
    rw[Int.toNat_natCast] at hb
    refine⟨Int×Bool,fun q=>match q with | (i,b)=>[(5,.int .i64 i),(3,.bool b)],fun _=>[],fun q=>match q with | (i,b)=>(0≤i∧i≤c.cells.length)∧(b=true↔((G04 c∧ZK4 c c.zones.length)∧CK4 c i.toNat)),fun q=>match q with | (i,b)=>((c.cells.length:Int)-i).toNat,⟨(0,b),⟨by omega,⟨fun q=>⟨hb.1 q,fun k hk=>absurd hk (by omega)⟩,fun q=>hb.2 q.1⟩⟩,kp_,kp_⟩,?_⟩
    clear hb b
    rintro⟨i,b⟩ ⟨hi,hb⟩
    refine⟨⟨rfl,rfl⟩,?_⟩
    refine⟨fun hlt=>?_,fun hge=>?_⟩
    ·have hlt2:i<(c.cells.length:Int):=of_decide_eq_true hlt
     refine⟨fun hbt=>?_,fun hbt=>?_⟩
     ·refine⟨⟨Nat.le_refl _,by omega,by omega⟩,?_⟩
      refine⟨_,_,_,rfl,?_⟩
      rw[wrapi (n:=(c.zones.length:Int)-1) (by omega)]
      refine⟨kp_,?_⟩
      refine⟨fun hc1=>?_,fun hc1=>?_⟩
      ·refine⟨⟨Nat.le_refl _,by omega,by omega⟩,?_⟩
       refine⟨_,_,_,rfl,?_⟩
       refine⟨(_,_),?_,kp_,kp_⟩
       dsimp only
       rw[wrapi (n:=i+1) (by omega)]
       have hs:=all_succ (P:=fun k=>inR (c.cells.getD k (0,0)).1 0 (c.zones.length-1)=true∧inR (c.cells.getD k (0,0)).2 1 4194304=true) hi.1
       refine⟨⟨by omega,?_⟩,by omega⟩
       exact⟨fun q=>⟨(hb.1 hbt).1,hs.2 ⟨(hb.1 hbt).2,hc1,q⟩⟩,fun q=>(hs.1 q.2).2.2⟩
      ·refine⟨(_,false),?_,kp_,kp_⟩
       dsimp only
       rw[wrapi (n:=i+1) (by omega)]
       have hs:=all_succ (P:=fun k=>inR (c.cells.getD k (0,0)).1 0 (c.zones.length-1)=true∧inR (c.cells.getD k (0,0)).2 1 4194304=true) hi.1
       refine⟨⟨by omega,?_⟩,by omega⟩
       exact⟨fun q=>Bool.noConfusion q,fun q=>absurd (hs.1 q.2).2.1 (by rw[hc1];decide)⟩
     ·repeat (first | refine⟨fun _=>?_,fun h=>Bool.noConfusion h⟩ | refine⟨fun h=>Bool.noConfusion h,fun _=>?_⟩ | fail)
      refine⟨(_,false),?_,kp_,kp_⟩
      dsimp only
      rw[wrapi (n:=i+1) (by omega)]
      have hs:=all_succ (P:=fun k=>inR (c.cells.getD k (0,0)).1 0 (c.zones.length-1)=true∧inR (c.cells.getD k (0,0)).2 1 4194304=true) hi.1
      refine⟨⟨by omega,?_⟩,by omega⟩
      exact⟨fun q=>Bool.noConfusion q,fun q=>absurd (hb.2 ⟨q.1,(hs.1 q.2).1⟩) (by rw[hbt];decide)⟩
    ·have hge2:¬ i<(c.cells.length:Int):=of_decide_eq_false hge
     obtain rfl:i=c.cells.length:=by omega
     rw[Int.toNat_natCast] at hb
     refine⟨Int×Bool,fun q=>match q with | (i,b)=>[(6,.int .i64 i),(3,.bool b)],fun _=>[],fun q=>match q with | (i,b)=>(0≤i∧i≤c.versions.length)∧(b=true↔(((G04 c∧ZK4 c c.zones.length)∧CK4 c c.cells.length)∧VK4 c i.toNat)),fun q=>match q with | (i,b)=>((c.versions.length:Int)-i).toNat,⟨(0,b),⟨by omega,⟨fun q=>⟨hb.1 q,fun k hk=>absurd hk (by omega)⟩,fun q=>hb.2 q.1⟩⟩,kp_,kp_⟩,?_⟩
     clear hb b
     rintro⟨i,b⟩ ⟨hi,hb⟩
     refine⟨⟨rfl,rfl⟩,?_⟩
     refine⟨fun hlt=>?_,fun hge=>?_⟩
     ·have hlt2:i<(c.versions.length:Int):=of_decide_eq_true hlt
      refine⟨fun hbt=>?_,fun hbt=>?_⟩
      ·refine⟨⟨Nat.le_refl _,by omega,by omega⟩,?_⟩
       refine⟨⟨Nat.le_refl _,by omega,by omega⟩,?_⟩
       refine⟨_,_,_,rfl,?_⟩
       refine⟨kp_,?_⟩
       refine⟨fun hc1=>?_,fun hc1=>?_⟩
       ·refine⟨⟨Nat.le_refl _,by omega,by omega⟩,?_⟩
        refine⟨(_,_),?_,kp_,kp_⟩
        dsimp only
        rw[wrapi (n:=i+1) (by omega)]
        have hs:=all_succ (P:=fun k=>inR (c.versions.getD k (0,0)).1 0 (c.versions.getD k (0,0)).2=true∧(c.versions.getD k (0,0)).2≤30) hi.1
        refine⟨⟨by omega,?_⟩,by omega⟩
        exact⟨fun q=>⟨(hb.1 hbt).1,hs.2 ⟨(hb.1 hbt).2,hc1,of_decide_eq_true q⟩⟩,fun q=>decide_eq_true (hs.1 q.2).2.2⟩
       ·refine⟨(_,false),?_,kp_,kp_⟩
        dsimp only
        rw[wrapi (n:=i+1) (by omega)]
        have hs:=all_succ (P:=fun k=>inR (c.versions.getD k (0,0)).1 0 (c.versions.getD k (0,0)).2=true∧(c.versions.getD k (0,0)).2≤30) hi.1
        refine⟨⟨by omega,?_⟩,by omega⟩
        exact⟨fun q=>Bool.noConfusion q,fun q=>absurd (hs.1 q.2).2.1 (by rw[hc1];decide)⟩
      ·repeat (first | refine⟨fun _=>?_,fun h=>Bool.noConfusion h⟩ | refine⟨fun h=>Bool.noConfusion h,fun _=>?_⟩ | fail)
       refine⟨(_,false),?_,kp_,kp_⟩
       dsimp only
       rw[wrapi (n:=i+1) (by omega)]
       have hs:=all_succ (P:=fun k=>inR (c.versions.getD k (0,0)).1 0 (c.versions.getD k (0,0)).2=true∧(c.versions.getD k (0,0)).2≤30) hi.1
       refine⟨⟨by omega,?_⟩,by omega⟩
       exact⟨fun q=>Bool.noConfusion q,fun q=>absurd (hb.2 ⟨q.1,(hs.1 q.2).1⟩) (by rw[hbt];decide)⟩
     ·have hge2:¬ i<(c.versions.length:Int):=of_decide_eq_false hge
      obtain rfl:i=c.versions.length:=by omega
      rw[Int.toNat_natCast] at hb
      refine⟨fun hn=>?_,fun hn=>?_⟩
      ·have hbf:¬ (b=true):=by simpa using hn
       exact congrArg (Value.int .i64) (valid4_no hl fun q=>hbf (hb.2 q)).symm
      ·have hbt:b=true:=by simpa using hn
       have q:=hb.1 hbt
       exact congrArg (Value.int .i64) (valid4_yes hl q.1.1.1 q.1.1.2 q.1.2 q.2).symm
theorem valid4_calls (x:CfgA) (c:Cfg) (w:World) (hc:CfgOk w (·<w.heap.size) x c):Calls Try.prog 75 #[.agg (cfgC x c)] w fun e w'=>e=.returned (.int .i64 (topoErr c))∧Below w.heap.size w w':=by
 have:=uni_calls ttAok v4Fok Try.func75 rfl (D:=v4D) (by kernel_rfl) (vs:=[cfgV CNu (ck x) c]) rfl { x:=x } { c:=c } w { c:=hc } (fun v hv=>by
  simp only[List.mem_cons,List.not_mem_nil,or_false] at hv
  subst hv
  exact upl_cfg_ok { x:=x } { c:=c }) (valid4_sx (ck x) c)
 rw[List.map_cons,upl_cfg { x:=x } { c:=c }] at this
 refine this.mono ?_
 rintro e w' ⟨v,mem',nx',ρ',rfl,rfl,hv,hm',hb⟩
 exact⟨rfl,hb⟩
def ctV4:CT:=fun vs mem nx K=>∃ N x c,vs=[cfgV N x c]∧HasCfg mem N c∧K (.int .i64 (topoErr c)) mem nx
theorem v4Ok:CSound Try.prog 75 ctV4:=⟨by kernel_rfl,fun {C ρ fr mem nx a w vs K} hc hs hv=>by
 obtain⟨N,x,c,rfl,hk,hK⟩:=hc
 rw[List.map_cons,den_cfg]
 refine (valid4_calls (cfgX ρ N x) c w (hs.cfgH hk)).mono ?_
 rintro e w' ⟨rfl,hb⟩
 exact⟨_,mem,nx,ρ,rfl,hK,hs.later hb,trivial,ExtS.refl _ _⟩⟩
/-! ref05.declared,ref05.Valid -/
def ttV:TT:=[(101,tiU)]++ttA
theorem ttVok:TTok Try.prog ttV:=by
 refine tt_mem _ _ ?_
 unfold ttV ttA tt
 repeat (refine tt_cons ⟨by kernel_rfl,by kernel_rfl,plains (by rfl),by kernel_rfl,by kernel_rfl,by kernel_rfl⟩ ?_)
 exact tt_nil
set_option maxRecDepth 100000 in
set_option maxHeartbeats 8000000 in
theorem declared_sx (x:CfgK) (c:Cfg) (t:Ten) (hr:1≤c.regions∧c.regions≤4) :
  sx ttV [] [] (bodyOf Try.f76) (argF 0 [cfgV CNu x c,.agg (tenC t).toArray]) (uniM { c:=c }) 13 (endx ttV Try.f76.results.toList fun v _ _=>v=.bool (tenOk c.regions t)):=by
 obtain⟨rg,zs,cs,ts,vs,rs,os,bl,le,ba⟩:=c
 dsimp only at hr ⊢
 obtain rfl | rfl | rfl | rfl:rg=1∨rg=2∨rg=3∨rg=4:=by omega
 ·have e1:IntKind.i64.wrap (1 * 2 ^ min (IntKind.u64.wrap 1).toNat IntKind.i64.bits)=2:=by decide
  repeat' (first | refine⟨fun _=>?_,fun h=>Bool.noConfusion h⟩ | refine⟨fun h=>Bool.noConfusion h,fun _=>?_⟩ | refine⟨fun _=>?_,fun _=>?_⟩ | refine⟨by rw[wrapu64];exact Int.emod_nonneg _ (by decide),?_⟩ | fail)
  all_goals (refine congrArg Value.bool ?_;unfold tenOk inR shl1;simp_all;try omega)
 ·have e1:IntKind.i64.wrap (1 * 2 ^ min (IntKind.u64.wrap 2).toNat IntKind.i64.bits)=4:=by decide
  repeat' (first | refine⟨fun _=>?_,fun h=>Bool.noConfusion h⟩ | refine⟨fun h=>Bool.noConfusion h,fun _=>?_⟩ | refine⟨fun _=>?_,fun _=>?_⟩ | refine⟨by rw[wrapu64];exact Int.emod_nonneg _ (by decide),?_⟩ | fail)
  all_goals (refine congrArg Value.bool ?_;unfold tenOk inR shl1;simp_all;try omega)
 ·have e1:IntKind.i64.wrap (1 * 2 ^ min (IntKind.u64.wrap 3).toNat IntKind.i64.bits)=8:=by decide
  repeat' (first | refine⟨fun _=>?_,fun h=>Bool.noConfusion h⟩ | refine⟨fun h=>Bool.noConfusion h,fun _=>?_⟩ | refine⟨fun _=>?_,fun _=>?_⟩ | refine⟨by rw[wrapu64];exact Int.emod_nonneg _ (by decide),?_⟩ | fail)
  all_goals (refine congrArg Value.bool ?_;unfold tenOk inR shl1;simp_all;try omega)
 ·have e1:IntKind.i64.wrap (1 * 2 ^ min (IntKind.u64.wrap 4).toNat IntKind.i64.bits)=16:=by decide
  repeat' (first | refine⟨fun _=>?_,fun h=>Bool.noConfusion h⟩ | refine⟨fun h=>Bool.noConfusion h,fun _=>?_⟩ | refine⟨fun _=>?_,fun _=>?_⟩ | refine⟨by rw[wrapu64];exact Int.emod_nonneg _ (by decide),?_⟩ | fail)
  all_goals (refine congrArg Value.bool ?_;unfold tenOk inR shl1;simp_all;try omega)
theorem declared_calls (x:CfgA) (c:Cfg) (t:Ten) (w:World) (hr:1≤c.regions∧c.regions≤4) (hc:CfgOk w (·<w.heap.size) x c):Calls Try.prog 76 #[.agg (cfgC x c),.agg (tenC t).toArray] w fun e w'=>e=.returned (.bool (tenOk c.regions t))∧Below w.heap.size w w':=by
 have:=uni_calls ttVok fti_nil Try.func76 rfl (D:=[]) (by kernel_rfl) (vs:=[cfgV CNu (ck x) c,.agg (tenC t).toArray]) rfl { x:=x } { c:=c } w { c:=hc } (fun v hv=>by
  simp only[List.mem_cons,List.not_mem_nil,or_false] at hv
  rcases hv with rfl | rfl
  ·exact upl_cfg_ok { x:=x } { c:=c }
  ·intro u hu
   simp[tenC] at hu
   rcases hu with rfl | rfl | rfl | rfl | rfl | rfl | rfl<;>trivial) (declared_sx (ck x) c t hr)
 have e0:den (upl { x:=x } { c:=c }) (.agg (tenC t).toArray)=.agg (tenC t).toArray:=by simp[den,den2,den1,tenC]
 rw[List.map_cons,upl_cfg { x:=x } { c:=c },List.map_cons,e0] at this
 refine this.mono ?_
 rintro e w' ⟨v,mem',nx',ρ',rfl,rfl,hv,hm',hb⟩
 exact⟨rfl,hb⟩
def ctDecl:CT:=fun vs mem nx K=>∃ N x c t,vs=[cfgV N x c,.agg (tenC t).toArray]∧HasCfg mem N c∧(1≤c.regions∧c.regions≤4)∧K (.bool (tenOk c.regions t)) mem nx
theorem declOk:CSound Try.prog 76 ctDecl:=⟨by kernel_rfl,fun {C ρ fr mem nx a w vs K} hc hs hv=>by
 obtain⟨N,x,c,t,rfl,hk,hr,hK⟩:=hc
 have e0:den ρ (.agg (tenC t).toArray)=.agg (tenC t).toArray:=by simp[den,den2,den1,tenC]
 rw[List.map_cons,den_cfg,List.map_cons,e0]
 refine (declared_calls (cfgX ρ N x) c t w hr (hs.cfgH hk)).mono ?_
 rintro e w' ⟨rfl,hb⟩
 exact⟨_,mem,nx,ρ,rfl,hK,hs.later hb,trivial,ExtS.refl _ _⟩⟩
def v5F:FT:=[(75,ctV4),(76,ctDecl)]
def v5D:List (Nat×DQ):=[(2000005,{ k:=0,L:=[0,1,2,3,4,5,6,7,8,9,10,11,12,13],sl:=[1] }),(7,{ k:=6,L:=[0,1,2,3,4,5,6,7,8,9,10,11,12,13],pre:=[(0,false),(1,false),(2,false),(3,false),(4,false),(5,false)] })]
theorem v5Fok:FTokI Try.prog v5F (inlOf v5D):=fti_cons (v4Ok.i _) (fti_cons (declOk.i _) fti_nil)
set_option maxRecDepth 100000 in
set_option maxHeartbeats 4000000 in
theorem valid5_sx (x:CfgK) (c:Cfg) (hL:Lens c) :
  sx ttA v5F v5D (bodyOf Try.f57) (argF 0 [cfgV CNu x c]) (uniM { c:=c }) 13 (endx ttA Try.f57.results.toList fun v _ _=>v=.int .i64 (cfgErr c)):=by
 have hmax:=hL.2.2.1
 unfold maxLen at hmax
 refine⟨CNu,x,c,rfl,HasCfg.keeps kp_,?_⟩
 refine⟨fun hne=>?_,fun heq=>?_⟩
 ·have hne2:topoErr c≠0:=by simpa using hne
  rw[show cfgErr c=topoErr c from if_pos hne2]
  rfl
 ·have heq2:topoErr c=0:=by simpa using heq
  have hreg:=reg_of heq2
  have hce:cfgErr c=if c.tenants.all (tenOk c.regions) then 0 else 1:=if_neg (by simpa using heq2)
  refine⟨Int,fun i=>[(4,.int .i64 i)],fun _=>[],fun i=>(0≤i∧i≤c.tenants.length)∧∀ k,k<i.toNat→tenOk c.regions (c.tenants.getD k default)=true,fun i=>((c.tenants.length:Int)-i).toNat,⟨0,⟨by omega,fun k hk=>absurd hk (by omega)⟩,kp_,kp_⟩,?_⟩
  rintro i ⟨hi,hall⟩
  refine⟨⟨rfl,rfl⟩,?_⟩
  refine⟨fun hlt=>?_,fun hge=>?_⟩
  ·have hlt2:i<(c.tenants.length:Int):=of_decide_eq_true hlt
   refine⟨⟨Nat.le_refl _,hi.1,hlt2⟩,?_⟩
   refine⟨CNu,x,c,(c.tenants.getD i.toNat default),rfl,HasCfg.keeps kp_,hreg,?_⟩
   refine⟨fun hb=>?_,fun hb=>?_⟩
   ·have hb2:tenOk c.regions (c.tenants.getD i.toNat default)=false:=by simpa using hb
    have hf:c.tenants.all (tenOk c.regions)=false:=by
     rw[List.all_eq_false]
     refine⟨(c.tenants.getD i.toNat default),?_,by rw[hb2];decide⟩
     rw[List.getD_eq_getElem?_getD,List.getElem?_eq_getElem (by omega)]
     exact List.getElem_mem _
    rw[hce,hf]
    rfl
   ·have hb2:tenOk c.regions (c.tenants.getD i.toNat default)=true:=by simpa using hb
    refine⟨_,?_,kp_,kp_⟩
    rw[wrapi (n:=i+1) (by omega)]
    dsimp only
    refine⟨⟨by omega,fun k hk=>?_⟩,by omega⟩
    by_cases hki:k<i.toNat
    ·exact hall k hki
    ·obtain rfl:k=i.toNat:=by omega
     exact hb2
  ·have hge2:¬ i<(c.tenants.length:Int):=of_decide_eq_false hge
   have ht:c.tenants.all (tenOk c.regions)=true:=by
    rw[List.all_eq_true]
    intro t ht
    obtain⟨k,hk,rfl⟩:=List.getElem_of_mem ht
    have:=hall k (by omega)
    rwa[List.getD_eq_getElem?_getD,List.getElem?_eq_getElem hk] at this
   rw[hce,ht]
   rfl
theorem valid5_calls (x:CfgA) (c:Cfg) (w:World) (hL:Lens c) (hc:CfgOk w (·<w.heap.size) x c):Calls Try.prog 57 #[.agg (cfgC x c)] w fun e w'=>e=.returned (.int .i64 (cfgErr c))∧Below w.heap.size w w':=by
 have:=uni_calls ttAok v5Fok Try.func57 rfl (D:=v5D) (by kernel_rfl) (vs:=[cfgV CNu (ck x) c]) rfl { x:=x } { c:=c } w { c:=hc } (fun v hv=>by
  simp only[List.mem_cons,List.not_mem_nil,or_false] at hv
  subst hv
  exact upl_cfg_ok { x:=x } { c:=c }) (valid5_sx (ck x) c hL)
 rw[List.map_cons,upl_cfg { x:=x } { c:=c }] at this
 refine this.mono ?_
 rintro e w' ⟨v,mem',nx',ρ',rfl,rfl,hv,hm',hb⟩
 exact⟨rfl,hb⟩
def ctV5:CT:=fun vs mem nx K=>∃ N x c,vs=[cfgV N x c]∧HasCfg mem N c∧Lens c∧K (.int .i64 (cfgErr c)) mem nx
theorem v5Ok:CSound Try.prog 57 ctV5:=⟨by kernel_rfl,fun {C ρ fr mem nx a w vs K} hc hs hv=>by
 obtain⟨N,x,c,rfl,hk,hL,hK⟩:=hc
 rw[List.map_cons,den_cfg]
 refine (valid5_calls (cfgX ρ N x) c w hL (hs.cfgH hk)).mono ?_
 rintro e w' ⟨rfl,hb⟩
 exact⟨_,mem,nx,ρ,rfl,hK,hs.later hb,trivial,ExtS.refl _ _⟩⟩
/-! ref15.Valid -/
abbrev sgE:List (Nat×DQ):=[(1,{ k:=5,L:=[0,1,2,3,4,5,6,7,8,9,10,11,12,13,14,15,16,17,18,19,20,21,22,23,24,25,26,27,28,29,30,31,32,33,34,35,36,37,38,39,40],pre:=[(0,false),(1,false),(2,false),(3,false),(4,true)] })]
def vaRF:FT:=[(57,ctV5),(27,ctInl ttA sgF sgE Try.f27 (bodyOf Try.f27))]
def vaRD:List (Nat×DQ):=[(9000000,{ k:=0,L:=[27] }),(2000004,{ k:=0,L:=[0,1,2,3,4,5,6,7,8,9,10,11,12],sl:=[2,3,4] }),(9,{ k:=6,L:=[0,1,2,3,4,5,6,7,8,9,10,11,12],pre:=[(0,false),(1,false),(4,false),(5,false),(2,true),(3,false)] })]
theorem vaRFok:FTokI Try.prog vaRF (inlOf vaRD):=fti_cons (v5Ok.i _) (fti_cons (inl_ok ttAok (fti_cons (bodyROk.i _) (fti_cons (chainROk.i _) fti_nil)) mixed (by kernel_rfl) Try.func27 rfl (by kernel_rfl) (by decide)) fti_nil)
set_option maxRecDepth 100000 in
set_option maxHeartbeats 4000000 in
theorem validR_sx (cap:Nat) (x:CfgK) (c:Cfg) (a:Atl) (key:Int) (hL:Lens c) :
  sx ttA vaRF vaRD (bodyOf Try.f29) (argF 0 [cfgV CN1 x c,atlV a (slc 10 a.routes.length cap),.int .i64 key]) (xM pairC 2 (0,0) a.routes c) 11 (endx ttA Try.f29.results.toList fun v _ _=>∃ b,v=.bool b∧(b=true↔ValidA c a key)):=by
 refine⟨CN1,x,c,rfl,HasCfg.keeps kp_,hL,?_⟩
 refine⟨fun h1=>?_,fun h1=>?_⟩
 ·repeat (first | refine⟨fun _=>?_,fun h=>Bool.noConfusion h⟩ | refine⟨fun h=>Bool.noConfusion h,fun _=>?_⟩ | fail)
  exact⟨false,rfl,fun q=>Bool.noConfusion q,fun q=>absurd q.cfg (by simpa using h1)⟩
 ·replace h1:cfgErr c=0:=by simpa using h1
  refine⟨fun n1=>?_,fun n1=>?_⟩
  ·repeat (first | refine⟨fun _=>?_,fun h=>Bool.noConfusion h⟩ | refine⟨fun h=>Bool.noConfusion h,fun _=>?_⟩ | fail)
   exact⟨false,rfl,fun q=>Bool.noConfusion q,fun q=>absurd q.n (fun q=>by have:=of_decide_eq_true n1;omega)⟩
  ·have n1b:=of_decide_eq_false n1
   refine⟨fun n2=>?_,fun n2=>?_⟩
   ·repeat (first | refine⟨fun _=>?_,fun h=>Bool.noConfusion h⟩ | refine⟨fun h=>Bool.noConfusion h,fun _=>?_⟩ | fail)
    exact⟨false,rfl,fun q=>Bool.noConfusion q,fun q=>absurd q.n (fun q=>by have:=of_decide_eq_true n2;omega)⟩
   ·have n2b:=of_decide_eq_false n2
    refine⟨fun t1=>?_,fun t1=>?_⟩
    ·repeat (first | refine⟨fun _=>?_,fun h=>Bool.noConfusion h⟩ | refine⟨fun h=>Bool.noConfusion h,fun _=>?_⟩ | fail)
     exact⟨false,rfl,fun q=>Bool.noConfusion q,fun q=>absurd q.t (fun q=>by have:=of_decide_eq_true t1;omega)⟩
    ·have t1b:=of_decide_eq_false t1
     refine⟨fun t2=>?_,fun t2=>?_⟩
     ·repeat (first | refine⟨fun _=>?_,fun h=>Bool.noConfusion h⟩ | refine⟨fun h=>Bool.noConfusion h,fun _=>?_⟩ | fail)
      exact⟨false,rfl,fun q=>Bool.noConfusion q,fun q=>absurd q.t (fun q=>by have:=of_decide_eq_true t2;omega)⟩
     ·have t2b:=of_decide_eq_false t2
      refine⟨fun h2=>?_,fun h2=>?_⟩
      ·exact⟨false,rfl,fun q=>Bool.noConfusion q,fun q=>absurd q.len (by have q2:¬ (a.routes.length:Int)=c.tenants.length:=(by simpa using h2);omega)⟩
      ·replace h2:a.routes.length=c.tenants.length:=by have q2:(a.routes.length:Int)=c.tenants.length:=(by simpa using h2);omega
       have hcl:=cfg_lims h1
       refine⟨Int,fun i=>[(7,.int .i64 i)],fun _=>[],fun i=>(0≤i∧i≤a.routes.length)∧∀ k,k<i.toNat→RouteOk c (a.routes.getD k (0,0)),fun i=>((a.routes.length:Int)-i).toNat,⟨0,⟨by omega,fun k hk=>absurd hk (by omega)⟩,kp_,kp_⟩,?_⟩
       rintro i ⟨hi,hall⟩
       refine⟨⟨rfl,rfl⟩,?_⟩
       refine⟨fun hlt=>?_,fun hge=>?_⟩
       ·have hlt2:i<(a.routes.length:Int):=of_decide_eq_true hlt
        refine⟨⟨Nat.le_refl _,hi.1,hlt2⟩,?_⟩
        refine⟨fun g1=>?_,fun g1=>?_⟩
        ·repeat (first | refine⟨fun _=>?_,fun h=>Bool.noConfusion h⟩ | refine⟨fun h=>Bool.noConfusion h,fun _=>?_⟩ | fail)
         exact⟨false,rfl,fun q=>Bool.noConfusion q,fun q=>absurd q.r (fun q=>by have q2:=q i.toNat (by omega);unfold RouteOk at q2;have:=of_decide_eq_true g1;omega)⟩
        ·have g1b:=of_decide_eq_false g1
         refine⟨fun g2=>?_,fun g2=>?_⟩
         ·repeat (first | refine⟨fun _=>?_,fun h=>Bool.noConfusion h⟩ | refine⟨fun h=>Bool.noConfusion h,fun _=>?_⟩ | fail)
          exact⟨false,rfl,fun q=>Bool.noConfusion q,fun q=>absurd q.r (fun q=>by have q2:=q i.toNat (by omega);unfold RouteOk at q2;have:=of_decide_eq_true g2;omega)⟩
         ·have g2b:=of_decide_eq_false g2
          refine⟨fun g3=>?_,fun g3=>?_⟩
          ·repeat (first | refine⟨fun _=>?_,fun h=>Bool.noConfusion h⟩ | refine⟨fun h=>Bool.noConfusion h,fun _=>?_⟩ | fail)
           exact⟨false,rfl,fun q=>Bool.noConfusion q,fun q=>absurd q.r (fun q=>by have q2:=q i.toNat (by omega);unfold RouteOk at q2;have:=of_decide_eq_true g3;omega)⟩
          ·have g3b:=of_decide_eq_false g3
           refine⟨fun g4=>?_,fun g4=>?_⟩
           ·exact⟨false,rfl,fun q=>Bool.noConfusion q,fun q=>absurd q.r (fun q=>by have q2:=q i.toNat (by omega);unfold RouteOk at q2;have:=of_decide_eq_true g4;omega)⟩
           ·have g4b:=of_decide_eq_false g4
            have hok:RouteOk c (a.routes.getD i.toNat (0,0)):=by unfold RouteOk;omega
            refine⟨_,?_,kp_,kp_⟩
            rw[wrapi (n:=i+1) (by omega)]
            dsimp only
            refine⟨⟨by omega,fun k hk=>?_⟩,by omega⟩
            by_cases hki:k<i.toNat
            ·exact hall k hki
            ·obtain rfl:k=i.toNat:=by omega
             exact hok
       ·have hge2:¬ i<(a.routes.length:Int):=of_decide_eq_false hge
        have hr:∀ k,k<a.routes.length→RouteOk c (a.routes.getD k (0,0)):=fun k hk=>hall k (by omega)
        have hin:=atlIn_of h1 h2 ⟨by omega,by omega⟩ ⟨by omega,by omega⟩ hr
        have hbl:=body_len hin
        refine⟨a,_,rfl,.inr (.inl ⟨10,_,rfl,.list rfl⟩),hin,fun cp=>?_⟩
        refine⟨kp_,?_⟩
        refine⟨_,_,key,a.parent,rfl,.inr (.inl ⟨_,cp,rfl,.list rfl⟩),by omega,?_⟩
        refine⟨kp_,?_⟩
        refine⟨_,rfl,fun q=>⟨h1,h2,⟨by omega,by omega⟩,⟨by omega,by omega⟩,hr,by have q2:=q;simp at q2;exact q2.symm⟩,fun q=>?_⟩
        have:=q.sum
        simp[← this]
theorem validR_calls (x:CfgA) (c:Cfg) (A:Option Addr) (cap:Nat) (a:Atl) (key:Int) (w:World) (hL:Lens c) (hr:Rd w (·<w.heap.size) A (flat pairC a.routes)) (hc:CfgOk w (·<w.heap.size) x c):Calls Try.prog 29 #[.agg (cfgC x c),.agg #[.int .i64 a.number,.int .i64 a.tick,.slice A a.routes.length cap,.int .u64 a.parent,.int .u64 a.sum],.int .i64 key] w fun e w'=>∃ b,(b=true↔ValidA c a key)∧e=.returned (.bool b)∧Below w.heap.size w w':=by
 have:=rowc_calls (enc:=pairC) (sz:=2) (fun _=>rfl) (by omega) pairC_plain (0,0) ttAok vaRFok Try.func29 rfl (D:=vaRD) (by kernel_rfl) (vs:=[cfgV CN1 (ck x) c,atlV a (slc 10 a.routes.length cap),.int .i64 key]) rfl A a.routes x c w hr hc (fun v hv=>by
  simp only[List.mem_cons,List.not_mem_nil,or_false] at hv
  rcases hv with rfl | rfl | rfl
  ·intro u hu
   simp at hu
   rcases hu with rfl | rfl | rfl | rfl | rfl | rfl | rfl | rfl | rfl | rfl<;>first | trivial | exact⟨by decide,rfl⟩
  ·intro u hu
   simp at hu
   rcases hu with rfl | rfl | rfl | rfl | rfl<;>first | trivial | exact⟨by decide,rfl⟩
  ·trivial) (validR_sx cap (ck x) c a key hL)
 have e1:den (xpl A 2 a.routes.length x c) (cfgV CN1 (ck x) c)=.agg (cfgC x c):=by rw[den_cfg];rfl
 have e2:den (xpl A 2 a.routes.length x c) (atlV a (slc 10 a.routes.length cap))=.agg #[.int .i64 a.number,.int .i64 a.tick,.slice A a.routes.length cap,.int .u64 a.parent,.int .u64 a.sum]:=by simp[den,den2,den1,dA_whole,dS_whole,xpl]
 rw[List.map_cons,List.map_cons,e1,e2] at this
 refine this.mono ?_
 rintro e w' ⟨v,mem',nx',ρ',rfl,⟨b,rfl,hb2⟩,hv,hm',hb⟩
 exact⟨b,hb2,rfl,hb⟩
/-! law15.bent -/
def bentK (a:Atl) (by_:Int):Int:=if a.routes.length=0 then 0 else by_ % a.routes.length
theorem bentK_pos {a:Atl} {by_:Int} (h:a.routes.length≠0):by_ % (a.routes.length:Int)=bentK a by_:=by unfold bentK;rw[if_neg h]
theorem bentK_zero {a:Atl} {by_:Int} (h:a.routes.length=0):0=bentK a by_:=by unfold bentK;rw[if_pos h]
theorem bentK_bd {a:Atl} {by_:Int} (h:a.routes.length≠0):0≤bentK a by_∧bentK a by_<a.routes.length:=by
 unfold bentK
 rw[if_neg h]
 exact⟨Int.emod_nonneg _ (by omega),Int.emod_lt_of_pos _ (by omega)⟩
def bentA (a:Atl) (which by_:Int):Atl:=
 if which % 7=0 then { a with number:=by_ } else if which % 7=1 then { a with tick:=by_ } else if which % 7=2 then { a with parent:=IntKind.u64.wrap by_ } else if which % 7=3 then { a with sum:=IntKind.u64.wrap by_ }
 else if which % 7=4 then { a with routes:=a.routes++[(-1,0)] } else if a.routes.length=0 then a else { a with routes:=a.routes.set (bentK a by_).toNat (-2+by_ % 12,-1+which % 11) }
section
variable {a:Atl} {which by_:Int}
theorem bent_0 (h0:which % 7=0):bentA a which by_={ a with number:=by_ }:=if_pos h0
theorem bent_1 (h0:¬ which % 7=0) (h1:which % 7=1):bentA a which by_={ a with tick:=by_ }:=(if_neg h0).trans (if_pos h1)
theorem bent_2 (h0:¬ which % 7=0) (h1:¬ which % 7=1) (h2:which % 7=2):bentA a which by_={ a with parent:=IntKind.u64.wrap by_ }:=(if_neg h0).trans ((if_neg h1).trans (if_pos h2))
theorem bent_3 (h0:¬ which % 7=0) (h1:¬ which % 7=1) (h2:¬ which % 7=2) (h3:which % 7=3):bentA a which by_={ a with sum:=IntKind.u64.wrap by_ }:=(if_neg h0).trans ((if_neg h1).trans ((if_neg h2).trans (if_pos h3)))
theorem bent_4 (h0:¬ which % 7=0) (h1:¬ which % 7=1) (h2:¬ which % 7=2) (h3:¬ which % 7=3) (h4:which % 7=4):bentA a which by_={ a with routes:=a.routes++[(-1,0)] }:=(if_neg h0).trans ((if_neg h1).trans ((if_neg h2).trans ((if_neg h3).trans (if_pos h4))))
theorem bent_6 (h0:¬ which % 7=0) (h1:¬ which % 7=1) (h2:¬ which % 7=2) (h3:¬ which % 7=3) (h4:¬ which % 7=4) (h5:a.routes.length=0):bentA a which by_=a:=(if_neg h0).trans ((if_neg h1).trans ((if_neg h2).trans ((if_neg h3).trans ((if_neg h4).trans (if_pos h5)))))
theorem bent_5 (h0:¬ which % 7=0) (h1:¬ which % 7=1) (h2:¬ which % 7=2) (h3:¬ which % 7=3) (h4:¬ which % 7=4) (h5:a.routes.length≠0):bentA a which by_={ a with routes:=a.routes.set (bentK a by_).toNat (-2+by_ % 12,-1+which % 11) }:=(if_neg h0).trans ((if_neg h1).trans ((if_neg h2).trans ((if_neg h3).trans ((if_neg h4).trans (if_neg h5)))))
end
theorem snoc_rt {l:List (Int×Int)} {el el2:Nat→List Value} {x:Int×Int} (h:∀ k,k<l.length→el k=pairC (l.getD k (0,0))) (g1:∀ k,k<l.length→el2 k=el k) (g2:el2 (l.length+0)=pairC x):∀ k,k<l.length+1→el2 k=pairC ((l++[x]).getD k (0,0)):=by
 intro k hk
 by_cases h1:k<l.length
 ·rw[g1 k h1,h k h1,List.getD_eq_getElem?_getD,List.getD_eq_getElem?_getD,List.getElem?_append_left h1]
 ·obtain rfl:k=l.length:=by omega
  rw[Nat.add_zero] at g2
  rw[g2,List.getD_eq_getElem?_getD,List.getElem?_append_right (Nat.le_refl _)]
  simp
theorem set_rt {l:List (Int×Int)} {el:Nat→List Value} {j:Nat} {x:Int×Int} {c:List Value} (h:∀ k,k<l.length→el k=pairC (l.getD k (0,0))) (hc:c=pairC x):∀ k,k<l.length→setEl el j c k=pairC ((l.set j x).getD k (0,0)):=by
 intro k hk
 by_cases h1:k=j
 ·subst h1
  rw[getD_set hk]
  unfold setEl
  rw[Nat.beq_refl,hc]
 ·rw[setEl_ne h1,h k hk,List.getD_eq_getElem?_getD,List.getD_eq_getElem?_getD,List.getElem?_set_ne (Ne.symm h1)]
abbrev btF:FT:=[(31,ctMod)]
abbrev ctBtw:CT:=ctInl ttA btF [] Try.f47 (bodyOf Try.f47)
def bnF:FT:=[(31,ctMod),(47,ctBtw)]
def bnD:List (Nat×DQ):=[(9000000,{ k:=0,L:=[47] }),(4000002,{ k:=4,L:=[2],sl:=[1,2,3,6] }),(1000005,{ k:=4,L:=[1,2,3],sl:=[1,2,3,6] }),(7,{ k:=8,L:=[0,1,2,3,4,5,6,7,8,9,10,11,12],pre:=[(0,false),(1,false),(2,false),(3,false),(5,false),(4,true),(6,true),(7,false)] })]
theorem bnFok:FTokI Try.prog bnF (inlOf bnD):=fti_cons (modOk.i _) (fti_cons (inl_ok ttAok (fti_cons (modOk.i _) fti_nil) mixed (by kernel_rfl) Try.func47 rfl (by kernel_rfl) (by decide)) fti_nil)
set_option maxRecDepth 100000 in
set_option maxHeartbeats 4000000 in
theorem bent_sx (cap:Nat) (a:Atl) (which by_:Int) (hl:a.routes.length≤1000) :
  sx ttA bnF bnD (bodyOf Try.f26) (argF 0 [atlV a (slc 0 a.routes.length cap),.int .i64 which,.int .i64 by_]) [(0,rowOfL 3 2 pairC (0,0) a.routes)] 1 (endx ttA Try.f26.results.toList fun v mem' _=>∃ v2,v=atlV (bentA a which by_) v2∧SlR mem' 2 pairC (0,0) (bentA a which by_).routes v2):=by
 refine⟨Nat×(Nat→List Value),fun q=>match q with | (cp,el)=>[],fun q=>match q with | (cp,el)=>[(1,.box 46 [.int .i64 a.number,.int .i64 a.tick,slc 3 a.routes.length cp,.int .u64 a.parent,.int .u64 a.sum]),(3,.row (1000000+75) 2 cp el)],fun q=>match q with | (cp,el)=>a.routes.length≤cp∧∀ k,k<a.routes.length→el k=pairC (a.routes.getD k (0,0)),?_,?_⟩
 ·refine⟨⟨Nat.le_refl _,fun k hk=>rfl⟩,?_⟩
  refine⟨⟨rfl,Nat.le_refl _⟩,fun hin el2 g1 g2=>?_,fun hgt=>⟨by show (0+a.routes.length) * 16≤140737488355328;omega,fun cap2 el2 hc g1 g2=>?_⟩⟩
  ·rw[Nat.zero_add]
   refine⟨(0,el2),[],⟨by omega,fun k hk=>?_⟩,⟨rfl,rfl⟩,kp_,(by (try rw[Nat.zero_add]);repeat (first | exact trivial | refine⟨rfl,?_⟩))⟩
   have:=g2 k hk
   rwa[Nat.zero_add] at this
  ·rw[Nat.zero_add]
   refine⟨(cap2,el2),[(3,4)],⟨by omega,fun k hk=>?_⟩,⟨rfl,rfl⟩,kp_,(by (try rw[Nat.zero_add]);repeat (first | exact trivial | refine⟨rfl,?_⟩))⟩
   have:=g2 k hk
   rwa[Nat.zero_add] at this
 ·rintro⟨cp,el⟩ ⟨hcp,hel⟩
  refine⟨⟨by decide,rfl,rfl⟩,?_⟩
  refine⟨Unit,fun _=>[(7,.int .i64 (bentK a by_))],fun _=>[],fun _=>True,?_,?_⟩
  ·refine⟨fun hpos=>?_,fun hpos=>?_⟩
   ·have hpos2:(a.routes.length:Int)>0:=of_decide_eq_true hpos
    refine⟨_,(a.routes.length:Int),rfl,⟨by omega,by omega⟩,?_⟩
    refine⟨(),trivial,(by refine⟨?_,?_⟩;(show some (Value.int .i64 _)=some (Value.int .i64 (bentK a by_));rw[bentK_pos (a:=a) (by_:=by_) (by omega)]);repeat (first | exact trivial | refine⟨rfl,?_⟩)),kp_⟩
   ·have hpos2:¬ (a.routes.length:Int)>0:=of_decide_eq_false hpos
    refine⟨(),trivial,(by refine⟨?_,?_⟩;(show some (Value.int .i64 _)=some (Value.int .i64 (bentK a by_));rw[bentK_zero (a:=a) (by_:=by_) (by omega)]);repeat (first | exact trivial | refine⟨rfl,?_⟩)),kp_⟩
  ·rintro - -
   refine⟨⟨by decide,rfl,rfl⟩,?_⟩
   refine⟨_,7,rfl,by decide,?_⟩
   refine⟨fun h0=>?_,fun h0=>?_⟩
   ·have m0:which % 7=0:=by simpa using h0
    rw[bent_0 m0]
    exact⟨slc 3 _ cp,rfl,.inr ⟨3,cp,_,cp,_,rfl,rfl,rfl,hcp,hel⟩⟩
   ·have m0:¬ which % 7=0:=by simpa using h0
    refine⟨fun h1=>?_,fun h1=>?_⟩
    ·have m1:which % 7=1:=by simpa using h1
     rw[bent_1 m0 m1]
     exact⟨slc 3 _ cp,rfl,.inr ⟨3,cp,_,cp,_,rfl,rfl,rfl,hcp,hel⟩⟩
    ·have m1:¬ which % 7=1:=by simpa using h1
     refine⟨fun h2=>?_,fun h2=>?_⟩
     ·have m2:which % 7=2:=by simpa using h2
      rw[bent_2 m0 m1 m2]
      exact⟨slc 3 _ cp,rfl,.inr ⟨3,cp,_,cp,_,rfl,rfl,rfl,hcp,hel⟩⟩
     ·have m2:¬ which % 7=2:=by simpa using h2
      refine⟨fun h3=>?_,fun h3=>?_⟩
      ·have m3:which % 7=3:=by simpa using h3
       rw[bent_3 m0 m1 m2 m3]
       exact⟨slc 3 _ cp,rfl,.inr ⟨3,cp,_,cp,_,rfl,rfl,rfl,hcp,hel⟩⟩
      ·have m3:¬ which % 7=3:=by simpa using h3
       refine⟨fun h4=>?_,fun h4=>?_⟩
       ·have m4:which % 7=4:=by simpa using h4
        refine⟨⟨Nat.le_refl _,fun k hk=>by obtain rfl:k=0:=(by omega);rfl⟩,?_⟩
        rw[bent_4 m0 m1 m2 m3 m4]
        refine⟨⟨rfl,hcp⟩,fun hin el2 g1 g2=>?_,fun hgt=>⟨by show (a.routes.length+1) * 16≤140737488355328;omega,fun cap2 el2 hc g1 g2=>?_⟩⟩
        ·refine⟨slc 3 (a.routes.length+1) cp,?_,.inr ⟨3,cp,_,cp,_,?_,rfl,rfl,?_,fun k hk=>?_⟩⟩
         ·rfl
         ·simp[slc]
         ·simp;omega
         ·exact snoc_rt (x:=(-1,0)) hel g1 (g2 0 Nat.one_pos) k (by simpa using hk)
        ·refine⟨slc 5 (a.routes.length+1) cap2,?_,.inr ⟨5,cap2,_,cap2,_,?_,rfl,rfl,?_,fun k hk=>?_⟩⟩
         ·rfl
         ·simp[slc]
         ·simp;omega
         ·exact snoc_rt (x:=(-1,0)) hel g1 (g2 0 Nat.one_pos) k (by simpa using hk)
       ·have m4:¬ which % 7=4:=by simpa using h4
        refine⟨fun hpos=>?_,fun hpos=>?_⟩
        ·have hpos2:(a.routes.length:Int)>0:=of_decide_eq_true hpos
         have hk1:=bentK_bd (a:=a) (by_:=by_) (by omega)
         refine⟨_,12,rfl,by decide,?_⟩
         refine⟨kp_,?_⟩
         refine⟨_,11,rfl,by decide,?_⟩
         refine⟨kp_,?_⟩
         refine⟨⟨by omega,hk1.1,hk1.2⟩,?_⟩
         refine⟨pairC (IntKind.i64.wrap (-2+by_ % 12),IntKind.i64.wrap (-1+which % 11)),by show putN _ _ (el _)=_;rw[hel _ (by omega)];rfl,?_⟩
         rw[bent_5 m0 m1 m2 m3 m4 (by omega)]
         refine⟨slc 3 a.routes.length cp,?_,.inr ⟨3,cp,_,cp,_,?_,rfl,rfl,?_,fun k hk=>?_⟩⟩
         ·rfl
         ·simp[slc]
         ·simp;omega
         ·exact set_rt hel (by rw[wrapi (by omega),wrapi (by omega)]) k (by simpa using hk)
        ·have hpos2:¬ (a.routes.length:Int)>0:=of_decide_eq_false hpos
         rw[bent_6 m0 m1 m2 m3 m4 (by omega)]
         exact⟨slc 3 _ cp,rfl,.inr ⟨3,cp,_,cp,_,rfl,rfl,rfl,hcp,hel⟩⟩
theorem bent_calls (A:Option Addr) (cap:Nat) (a:Atl) (which by_:Int) (w:World) (hl:a.routes.length≤1000) (hr:Rd w (·<w.heap.size) A (flat pairC a.routes)):Calls Try.prog 26 #[.agg #[.int .i64 (a).number,.int .i64 (a).tick,.slice A (a).routes.length cap,.int .u64 (a).parent,.int .u64 (a).sum],.int .i64 which,.int .i64 by_] w fun e w'=>∃ A2 cp,e=.returned (.agg #[.int .i64 (bentA a which by_).number,.int .i64 (bentA a which by_).tick,.slice A2 (bentA a which by_).routes.length cp,.int .u64 (bentA a which by_).parent,.int .u64 (bentA a which by_).sum])∧Rd w' (fun b=>w.heap.size≤b∧b<w'.heap.size) A2 (flat pairC (bentA a which by_).routes)∧Below w.heap.size w w':=by
 have:=row1_calls (enc:=pairC) (sz:=2) (fun _=>rfl) (by omega) pairC_plain (0,0) ttAok bnFok Try.func26 rfl (D:=bnD) (by kernel_rfl) (vs:=[atlV a (slc 0 a.routes.length cap),.int .i64 which,.int .i64 by_]) rfl A a.routes w hr (fun v hv=>by
  simp only[List.mem_cons,List.not_mem_nil,or_false] at hv
  rcases hv with rfl | rfl | rfl
  ·intro u hu
   simp at hu
   rcases hu with rfl | rfl | rfl | rfl | rfl<;>first | trivial | exact⟨Nat.zero_lt_one,rfl⟩
  ·trivial
  ·trivial
  ) (bent_sx cap a which by_ hl)
 have e0:([atlV a (slc 0 a.routes.length cap),.int .i64 which,.int .i64 by_].map (den fun _=>⟨A,2,a.routes.length,false,noSub⟩)).toArray=#[.agg #[.int .i64 (a).number,.int .i64 (a).tick,.slice A (a).routes.length cap,.int .u64 (a).parent,.int .u64 (a).sum],.int .i64 which,.int .i64 by_]:=by simp[den,den2,den1,dA_whole,dS_whole]
 rw[e0] at this
 refine this.mono ?_
 rintro e w' ⟨v,mem',nx',ρ',rfl,⟨v2,rfl,hR⟩,hv,hm',hb⟩
 obtain⟨A2,cp,e1,hr2⟩:=hm'.slR (enc:=pairC) (sz:=2) (fun _=>rfl) (by omega) hR
 refine⟨A2,cp,?_,hr2,hb⟩
 congr 1
 have dI:∀ k n,den1 ρ' (.int k n)=.int k n:=fun _ _=>rfl
 simp only[den,den2]
 simp[e1,dI]
def ctBent:CT:=fun vs mem nx K=>∃ a v which by_,vs=[atlV a v,.int .i64 which,.int .i64 by_]∧SrcR mem 2 pairC (0,0) a.routes v∧(a.routes.length≤1000)∧∀ cp,K (atlV (bentA a which by_) (slc nx (bentA a which by_).routes.length cp)) ((nx,rowOfL 500000 2 pairC (0,0) (bentA a which by_).routes)::mem) (nx+1)
theorem bentOk:CSound Try.prog 26 ctBent:=⟨by kernel_rfl,fun {C ρ fr mem nx q w vs K} hc hs hv=>by
 obtain⟨a,v,which,by_,rfl,hsrc,hpre,hK⟩:=hc
 obtain⟨A,cap,e0,hr⟩:=hs.srcR (enc:=pairC) (sz:=2) (fun _=>rfl) (by omega) hsrc
 have e1:([atlV a v,.int .i64 which,.int .i64 by_].map (den ρ)).toArray=#[.agg #[.int .i64 (a).number,.int .i64 (a).tick,.slice A (a).routes.length cap,.int .u64 (a).parent,.int .u64 (a).sum],.int .i64 which,.int .i64 by_]:=by
  obtain⟨A',cp,rfl⟩:=hsrc.slice
  have dI:∀ k n,den1 ρ (.int k n)=.int k n:=fun _ _=>rfl
  simp only[List.map_cons,List.map_nil,atlV,den,den2]
  simp[dI,den1_slice e0]
 rw[e1]
 refine (bent_calls A cap a which by_ w hpre hr).mono ?_
 rintro e w' ⟨A2,cp,rfl,hr2,hb⟩
 obtain⟨q1,-⟩:=(hs.later hb).addList hs.frB hs.rest.size (enc:=pairC) (sz:=2) (fun _=>rfl) (by omega) pairC_plain (0,0) (t:=500000) rfl hr2
 have q2:setPl ρ nx ⟨A2,2,(bentA a which by_).routes.length,false,noSub⟩ nx=⟨A2,2,(bentA a which by_).routes.length,false,noSub⟩:=setPl_same _ _ _
 refine⟨atlV (bentA a which by_) (slc nx (bentA a which by_).routes.length cp),_,_,_,?_,hK cp,q1,?_,fun i hi=>setPl_lt _ _ hi,by omega⟩
 ·simp[den,den2,den1,dA_whole,dS_whole,q2]
 ·intro u hu
  simp at hu
  rcases hu with rfl | rfl | rfl | rfl | rfl<;>first | trivial | exact⟨Nat.lt_succ_self _,by rw[q2]⟩⟩
/-! Lists of atlases: rows of the wider kind. -/
abbrev aZ:Atl:=⟨0,0,[],0,0⟩
abbrev atlC (a:Atl) (cp:Nat):List Value:=[.int .i64 a.number,.int .i64 a.tick,.slice (some ⟨0,0,none⟩) a.routes.length cp,.int .u64 a.parent,.int .u64 a.sum]
abbrev rowSB (l:List (Int×Int)):SB:=⟨2,l.length,fun j=>pairC (l.getD j (0,0))⟩
def famA (xs:List Atl):Nat→Nat→SB:=fun k o=>match o with
 | 2=>rowSB (xs.getD k aZ).routes
 | _=>emptySB
abbrev atlEl (xs:List Atl) (cps:List Nat):Nat→List Value:=fun k=>atlC (xs.getD k aZ) (cps.getD k 0)
abbrev famB (t:TypeId) (xs:List Atl):ABlk:=.ext (.fam t (famA xs))
theorem famA_out {xs:List Atl} {k:Nat} (h:xs.length≤k) (o:Nat):(famA xs k o).n=0:=by
 unfold famA
 rw[show xs.getD k aZ=aZ by rw[List.getD_eq_getElem?_getD,List.getElem?_eq_none h];rfl]
 split<;>rfl
abbrev rtS (u k:Nat) (a:Atl) (cp:Nat):Value:=.slice (some ⟨u,2,some k⟩) a.routes.length cp
theorem SrcR.fam {mem:AM} {u k cp:Nat} {t:TypeId} {xs:List Atl} (h:lk mem u=some (famB t xs)):SrcR mem 2 pairC (0,0) (xs.getD k aZ).routes (rtS u k (xs.getD k aZ) cp):=
 .inr (.inr ⟨u,2,k,cp,rfl,t,famA xs,h,rfl,Nat.le_refl _,fun _ _=>rfl⟩)
theorem famA_list (l:List (Int×Int)) (o:Nat) {a:Atl} (h:a.routes=l):(match o with | 2=>rowSB a.routes | _=>emptySB)=[emptySB,emptySB,rowSB l,emptySB,emptySB].getD o emptySB:=by
 subst h
 match o with
 | 0=>rfl
 | 1=>rfl
 | 2=>rfl
 | 3=>rfl
 | 4=>rfl
 | n+5=>rfl
/-! Configurations in slices of whatever kind. -/
def CfgSrc (mem:AM) (cv:Value) (c:Cfg):Prop:=∃ vz vc vt vv vr vo,cv=.agg #[.int .i64 c.regions,vz,vc,vt,vv,vr,vo,.int .i64 c.blast,.int .i64 c.lease,.int .i64 c.bake]∧
 (SrcR mem 1 intC 0 c.zones vz∧SrcR mem 2 pairC (0,0) c.cells vc∧SrcR mem 7 tenC default c.tenants vt)∧SrcR mem 2 pairC (0,0) c.versions vv∧SrcR mem 1 intC 0 c.replicas vr∧SrcR mem 1 intC 0 c.observers vo
theorem CfgSrc.has {mem:AM} {N:CN} {x:CfgK} {c:Cfg} (h:HasCfg mem N c):CfgSrc mem (cfgV N x c) c:=⟨_,_,_,_,_,_,rfl,⟨.row h.rz,.row h.rc,.row h.rt⟩,.row h.rv,.row h.rr,.row h.ro⟩
theorem Sat.srcD {C:Ctx} {ρ:Nat→Pl} {fr:AF} {mem:AM} {nx:Nat} {a:Act} {w:World} (hs:Sat C ρ fr mem nx a w) {α:Type} {enc:α→List Value} {sz:Nat} (hsz:∀ x,(enc x).length=sz) (hpos:0<sz) {d:α} {l:List α} {v:Value} (h:SrcR mem sz enc d l v):∃ A cap,den1 ρ v=.slice A l.length cap∧Rd w (·<w.heap.size) A (flat enc l):=by
 obtain⟨A,cap,e,hr⟩:=hs.srcR hsz hpos h
 obtain⟨A',c',rfl⟩:=h.slice
 exact⟨A,cap,e,hr⟩
theorem Sat.cfgSrc {C:Ctx} {ρ:Nat→Pl} {fr:AF} {mem:AM} {nx:Nat} {a:Act} {w:World} (hs:Sat C ρ fr mem nx a w) {cv:Value} {c:Cfg} (h:CfgSrc mem cv c):∃ x:CfgA,den ρ cv=.agg (cfgC x c)∧CfgOk w (·<w.heap.size) x c:=by
 obtain⟨vz,vc,vt,vv,vr,vo,rfl,⟨h1,h2,h3⟩,h4,h5,h6⟩:=h
 obtain⟨A1,c1,e1,r1⟩:=hs.srcD (enc:=intC) (sz:=1) (fun _=>rfl) (by omega) h1
 obtain⟨A2,c2,e2,r2⟩:=hs.srcD (enc:=pairC) (sz:=2) (fun _=>rfl) (by omega) h2
 obtain⟨A3,c3,e3,r3⟩:=hs.srcD (enc:=tenC) (sz:=7) (fun _=>rfl) (by omega) h3
 obtain⟨A4,c4,e4,r4⟩:=hs.srcD (enc:=pairC) (sz:=2) (fun _=>rfl) (by omega) h4
 obtain⟨A5,c5,e5,r5⟩:=hs.srcD (enc:=intC) (sz:=1) (fun _=>rfl) (by omega) h5
 obtain⟨A6,c6,e6,r6⟩:=hs.srcD (enc:=intC) (sz:=1) (fun _=>rfl) (by omega) h6
 have dI:∀ k n,den1 ρ (.int k n)=.int k n:=fun _ _=>rfl
 exact⟨⟨A1,c1,A2,c2,A3,c3,A4,c4,A5,c5,A6,c6⟩,by simp only[den,den2];simp[dI,e1,e2,e3,e4,e5,e6,cfgC],r1,r2,r3,r4,r5,r6⟩
def ctValidGP:CT:=fun vs mem nx K=>∃ cv c a v key,vs=[cv,atlV a v,.int .i64 key]∧(CfgSrc mem cv c∧SrcR mem 2 pairC (0,0) a.routes v)∧Lens c∧∀ b,(b=true↔ValidA c a key)→K (.bool b) mem nx
theorem validGPOk:CSound Try.prog 28 ctValidGP:=⟨by kernel_rfl,fun {C ρ fr mem nx q w vs K} hc hs hv=>by
 obtain⟨cv,c,a,v,key,rfl,⟨hk,hsrc⟩,hL,hK⟩:=hc
 obtain⟨A,cap,e0,hr⟩:=hs.srcR (enc:=pairC) (sz:=2) (fun _=>rfl) (by omega) hsrc
 obtain⟨x,ex,hx⟩:=hs.cfgSrc hk
 have e1:([cv,atlV a v,.int .i64 key].map (den ρ)).toArray=#[.agg (cfgC x c),.agg #[.int .i64 a.number,.int .i64 a.tick,.slice A a.routes.length cap,.int .u64 a.parent,.int .u64 a.sum],.int .i64 key]:=by
  rw[List.map_cons,ex]
  obtain⟨A',cp,rfl⟩:=hsrc.slice
  have dI:∀ k n,den1 ρ (.int k n)=.int k n:=fun _ _=>rfl
  simp only[List.map_cons,List.map_nil,atlV,den,den2]
  simp[dI,den1_slice e0]
 rw[e1]
 refine (validP_calls x c A cap a key w hL hr hx).mono ?_
 rintro e w' ⟨b,hb2,rfl,hb⟩
 exact⟨_,mem,nx,ρ,rfl,hK b hb2,hs.later hb,trivial,ExtS.refl _ _⟩⟩
def ctValidGR:CT:=fun vs mem nx K=>∃ cv c a v key,vs=[cv,atlV a v,.int .i64 key]∧(CfgSrc mem cv c∧SrcR mem 2 pairC (0,0) a.routes v)∧Lens c∧∀ b,(b=true↔ValidA c a key)→K (.bool b) mem nx
theorem validGROk:CSound Try.prog 29 ctValidGR:=⟨by kernel_rfl,fun {C ρ fr mem nx q w vs K} hc hs hv=>by
 obtain⟨cv,c,a,v,key,rfl,⟨hk,hsrc⟩,hL,hK⟩:=hc
 obtain⟨A,cap,e0,hr⟩:=hs.srcR (enc:=pairC) (sz:=2) (fun _=>rfl) (by omega) hsrc
 obtain⟨x,ex,hx⟩:=hs.cfgSrc hk
 have e1:([cv,atlV a v,.int .i64 key].map (den ρ)).toArray=#[.agg (cfgC x c),.agg #[.int .i64 a.number,.int .i64 a.tick,.slice A a.routes.length cap,.int .u64 a.parent,.int .u64 a.sum],.int .i64 key]:=by
  rw[List.map_cons,ex]
  obtain⟨A',cp,rfl⟩:=hsrc.slice
  have dI:∀ k n,den1 ρ (.int k n)=.int k n:=fun _ _=>rfl
  simp only[List.map_cons,List.map_nil,atlV,den,den2]
  simp[dI,den1_slice e0]
 rw[e1]
 refine (validR_calls x c A cap a key w hL hr hx).mono ?_
 rintro e w' ⟨b,hb2,rfl,hb⟩
 exact⟨_,mem,nx,ρ,rfl,hK b hb2,hs.later hb,trivial,ExtS.refl _ _⟩⟩
/-! ref15.Signed,by contract. -/
abbrev sgW:List (Nat×DQ):=[(1,{ k:=5,L:=[0,1,2,3,4,5,6,7,8,9,10,11,12,13,14,15,16,17,18,19,20,21,22,23,24,25,26,27,28,29,30,31,32,33,34,35,36,37,38,39,40,41,42,43,44,45,46,47,48,49,50,51,52,53,54,55,56,57,58,59,60],pre:=[(0,false),(1,false),(2,false),(3,false),(4,true)] })]
def signA (a:Atl) (key:Int):Atl:={ a with sum:=chainI key a.parent (bodyI a) }
set_option maxRecDepth 100000 in
set_option maxHeartbeats 4000000 in
theorem signed_sx (cap:Nat) (a:Atl) (key:Int) (ha:AtlIn a) :
  sx ttA sgF sgW (bodyOf Try.f27) (argF 0 [atlV a (slc 0 a.routes.length cap),.int .i64 key]) [(0,rowOfL 3 2 pairC (0,0) a.routes)] 1 (endx ttA Try.f27.results.toList fun v _ _=>v=atlV (signA a key) (slc 0 a.routes.length cap)):=by
 have hl:=body_len ha
 have hl2:=ha.len
 refine⟨a,_,rfl,.inr (.inl ⟨0,_,rfl,.list rfl⟩),ha,fun cp=>?_⟩
 refine⟨kp_,?_⟩
 refine⟨_,_,key,a.parent,rfl,.inr (.inl ⟨_,cp,rfl,.list rfl⟩),by omega,?_⟩
 rfl
theorem signed_calls (A:Option Addr) (cap:Nat) (a:Atl) (key:Int) (w:World) (ha:AtlIn a) (hr:Rd w (·<w.heap.size) A (flat pairC a.routes)):Calls Try.prog 27 #[.agg #[.int .i64 a.number,.int .i64 a.tick,.slice A a.routes.length cap,.int .u64 a.parent,.int .u64 a.sum],.int .i64 key] w fun e w'=>e=.returned (.agg #[.int .i64 a.number,.int .i64 a.tick,.slice A a.routes.length cap,.int .u64 a.parent,.int .u64 (signA a key).sum])∧Below w.heap.size w w':=by
 have:=row1_calls (enc:=pairC) (sz:=2) (fun _=>rfl) (by omega) pairC_plain (0,0) ttAok sgFok Try.func27 rfl (D:=sgW) (by kernel_rfl) (vs:=[atlV a (slc 0 a.routes.length cap),.int .i64 key]) rfl A a.routes w hr (fun v hv=>by
  simp only[List.mem_cons,List.not_mem_nil,or_false] at hv
  rcases hv with rfl | rfl
  ·intro u hu
   simp at hu
   rcases hu with rfl | rfl | rfl | rfl | rfl<;>first | trivial | exact⟨Nat.zero_lt_one,rfl⟩
  ·trivial) (signed_sx cap a key ha)
 have e0:([atlV a (slc 0 a.routes.length cap),.int .i64 key].map (den fun _=>⟨A,2,a.routes.length,false,noSub⟩)).toArray=#[.agg #[.int .i64 a.number,.int .i64 a.tick,.slice A a.routes.length cap,.int .u64 a.parent,.int .u64 a.sum],.int .i64 key]:=by simp[den,den2,den1,dA_whole,dS_whole]
 rw[e0] at this
 refine this.mono ?_
 rintro e w' ⟨v,mem',nx',ρ',rfl,rfl,hv,hm',hb⟩
 refine⟨?_,hb⟩
 have e1:(ρ' 0).A=A:=by rw[hm'.low 0 (Nat.zero_lt_one)]
 simp[den,den2,den1,dA_whole,dS_whole,e1,signA]
def ctSigned:CT:=fun vs mem nx K=>∃ a v key,vs=[atlV a v,.int .i64 key]∧SrcR mem 2 pairC (0,0) a.routes v∧AtlIn a∧K (atlV (signA a key) v) mem nx
theorem signedOk:CSound Try.prog 27 ctSigned:=⟨by kernel_rfl,fun {C ρ fr mem nx q w vs K} hc hs hv=>by
 obtain⟨a,v,key,rfl,hsrc,ha,hK⟩:=hc
 obtain⟨A,cap,e0,hr⟩:=hs.srcR (enc:=pairC) (sz:=2) (fun _=>rfl) (by omega) hsrc
 have hv0:=hv (atlV a v) (List.mem_cons_self ..)
 obtain⟨A',cp,rfl⟩:=hsrc.slice
 have dI:∀ k n,den1 ρ (.int k n)=.int k n:=fun _ _=>rfl
 have e1:([atlV a (.slice A' a.routes.length cp),.int .i64 key].map (den ρ)).toArray=#[.agg #[.int .i64 a.number,.int .i64 a.tick,.slice A a.routes.length cap,.int .u64 a.parent,.int .u64 a.sum],.int .i64 key]:=by
  simp only[List.map_cons,List.map_nil,atlV,den,den2]
  simp[dI,den1_slice e0]
 rw[e1]
 refine (signed_calls A cap a key w ha hr).mono ?_
 rintro e w' ⟨rfl,hb⟩
 refine⟨_,mem,nx,ρ,?_,hK,hs.later hb,?_,ExtS.refl _ _⟩
 ·simp only[atlV,den,den2]
  simp[dI,den1_slice e0,signA]
 ·intro u hu
  simp at hu
  rcases hu with rfl | rfl | rfl | rfl | rfl<;>first | trivial | exact hv0 _ (by simp)⟩
def preNone (args:List Value) (k:Int):Prop:=args=[]
theorem preNone_plain (args:List Value) (k:Int) (h:preNone args k):∀ v ∈ args,plain1 v∧atom v=true:=by
 cases h;intro v hv;cases hv
def ctMore:CT:=ctTape (fun zs args k z k'=>∃ b,z=.bool b∧k'=k∧(b=true→k<zs.length)) preNone
def moreD:List (Nat×DQ):=[(1,{ k:=10,L:=[0],pre:=[(0,false),(1,false),(2,false),(3,false),(4,false),(5,false),(6,false),(7,false),(8,false),(9,false)] })]
theorem moreOk:CSound Try.prog 79 ctMore:=tapeOk (by kernel_rfl) preNone_plain (by
 rintro args g A cap zs k w hz hk0 hk1 hp ht
 cases hp
 refine tape_calls ft_nil Try.func79 rfl (D:=moreD) (by kernel_rfl) rfl (preNone_plain _ k rfl) g A cap zs k w ht (R:=fun z k'=>∃ b,z=.bool b∧k'=k∧(b=true→k<zs.length)) ?_
 exact⟨k,⟨_,rfl,rfl,fun h=>of_decide_eq_true h⟩,⟨trivial,rfl⟩,rfl⟩)
/-! What Fold answers. -/
def foldGo (c:Cfg):Int→St→List Ent→St×Int×Int
 | i,s,[]=>(s,i,0)
 | i,s,e::r=>if (applyP c s e).2≠0 then (s,i,(applyP c s e).2) else foldGo c (i+1) (applyP c s e).1 r
def foldC (c:Cfg) (es:List Ent):St×Int×Int:=foldGo c 0 (stNew c) es
theorem BlkOk.fresh {C:Ctx} {ρ:Nat→Pl} {nx i:Nat} {w:World} {t:TypeId} {sz n:Nat} {el:Nat→List Value} {α:Type} {enc:α→List Value} {l:List α} (d:α) (h:BlkOk C ρ nx i w (.row t sz n el)) (ho:frT t=true) (hl:l.length=n) (he:∀ k,k<n→el k=enc (l.getD k d)) (hs:∀ x,(enc x).length=sz) (hpos:0<sz) :
  Rd w (fun b=>C.w0.heap.size≤b∧b<w.heap.size) (ρ i).A (flat enc l):=by
 subst hl
 obtain⟨h1,h2,h3⟩:=h
 have hb:BlkOk C ρ nx i w (.row t sz l.length (fun k=>enc (l.getD k d))):=by
  refine⟨h1,fun k hk=>by have:=h2 k hk;rw[he k hk] at this;exact this,h3.imp id ?_⟩
  rintro⟨b,off,hA,hat,hc⟩
  exact⟨b,off,hA,hat,fun k hk j v hv=>hc k hk j v (by rw[he k hk];exact hv)⟩
 refine rd_of_row hs hpos hb fun hne b off hA hlt=>?_
 rcases h3 with h0 | ⟨b2,off2,hA2,hat,-⟩
 ·exact absurd h0 hne
 ·rw[hA] at hA2
  cases hA2
  exact⟨hat.new ho,hlt⟩
def cpl (x:CfgA) (c:Cfg):Nat→Pl:=fun j=>match j with
 | 0=>⟨x.az,1,c.zones.length,false,noSub⟩
 | 1=>⟨x.ac,2,c.cells.length,false,noSub⟩
 | 2=>⟨x.at_,7,c.tenants.length,false,noSub⟩
 | 3=>⟨x.av,2,c.versions.length,false,noSub⟩
 | 4=>⟨x.ar,1,c.replicas.length,false,noSub⟩
 | _=>⟨x.ao,1,c.observers.length,false,noSub⟩
theorem getD_rep {α:Type} {n k:Nat} {a d:α} (h:k<n):(List.replicate n a).getD k d=a:=by
 rw[List.getD_eq_getElem?_getD,List.getElem?_replicate,if_pos h];rfl
def tiUint:TI:={ size:=1,agg:=false,zero:=[.int .u64 0],ik:=some .u64 }
def ttU:TT:=(101,tiUint)::tt
theorem ttUok:TTok Try.prog ttU:=by
 refine tt_mem _ _ ?_
 unfold ttU tt
 repeat (refine tt_cons ⟨by kernel_rfl,by kernel_rfl,plains (by rfl),by kernel_rfl,by kernel_rfl,by kernel_rfl⟩ ?_)
 exact tt_nil
/-! The functions that are walked where they are called. -/
/-! make.Config -/
theorem shl1_bd (r:Int):2≤shl1 r∧shl1 r≤16:=by unfold shl1;repeat' split<;>omega
theorem versOk_snoc {l:List (Int×Int)} {lo hi:Int} (h:versOk l=true) (h1:1≤l.length) (a:0≤lo) (b:lo≤hi) (d:hi≤30):versOk (l++[(lo,hi)])=true:=by
 unfold versOk at *
 rw[List.all_eq_true] at *
 intro i hi'
 rw[List.mem_range,List.length_append] at hi'
 simp at hi'
 by_cases hlt:i<l.length
 ·have:=h i (List.mem_range.2 hlt)
  rw[List.getElem?_append_left hlt]
  exact this
 ·obtain rfl:i=l.length:=by omega
  have hne:l≠[]:=by rintro rfl;simp at h1
  simp[verOk,hne]
  omega
structure MadeCfg (c:Cfg):Prop where
 valid:cfgErr c=0
 regions:1≤c.regions∧c.regions≤3
 zones:1≤c.zones.length∧c.zones.length≤6
 cells:1≤c.cells.length∧c.cells.length≤7
 tenants:c.tenants.length≤5
 versions:1≤c.versions.length∧c.versions.length≤3
 replicas:c.replicas.length=1∨c.replicas.length=3
 observers:1≤c.observers.length∧c.observers.length≤4
 blast:1≤c.blast∧c.blast≤3
 lease:2≤c.lease∧c.lease≤12
 bake:0≤c.bake∧c.bake≤8
 caps:c.cells.all (fun y=>inR y.1 0 (c.zones.length-1)&&inR y.2 1 40)=true
theorem madeCfg_of (r bl le ba:Int) (zl:List Int) (cl:List (Int×Int)) (tl:List Ten) (vl:List (Int×Int)) (rl ol:List Int) (h1:1≤r∧r≤3) (h2:1≤zl.length∧zl.length≤6) (h3:1≤cl.length∧cl.length≤7)
  (h4:tl.length≤5) (h5:1≤vl.length∧vl.length≤3) (a1:zl.all (fun z=>inR z 0 (r-1))=true) (a2:cl.all (fun y=>inR y.1 0 (zl.length-1)&&inR y.2 1 40)=true) (a3:tl.all (tenOk r)=true) (a4:versOk vl=true)
  (a5:rl.all (fun z=>inR z 0 (zl.length-1))=true) (a6:ol.all (fun z=>inR z 0 (zl.length-1))=true) (h6:rl.length=1∨rl.length=3) (h7:1≤ol.length∧ol.length≤4) (h8:1≤bl∧bl≤3) (h9:2≤le∧le≤12) (h10:0≤ba∧ba≤8) :
  MadeCfg ⟨r,zl,cl,tl,vl,rl,ol,bl,le,ba⟩:=by
 refine⟨?_,h1,h2,h3,h4,h5,h6,h7,h8,h9,h10,a2⟩
 have b1:cl.all (fun y=>inR y.1 0 (zl.length-1))=true:=by
  rw[List.all_eq_true] at a2 ⊢
  exact fun y hy=>(Bool.and_eq_true _ _ ▸ a2 y hy).1
 have b2:cl.all (fun y=>inR y.2 1 4194304)=true:=by
  rw[List.all_eq_true] at a2 ⊢
  intro y hy
  have:=(Bool.and_eq_true _ _ ▸ a2 y hy).2
  simp[inR] at this ⊢
  omega
 have l1:limitsB ⟨r,zl,cl,tl,vl,rl,ol,bl,le,ba⟩=true:=by simp[limitsB,inR];omega
 have l2:placesB ⟨r,zl,cl,tl,vl,rl,ol,bl,le,ba⟩=true:=by unfold placesB;rw[a1,b1,a5,a6];rfl
 have l3:valuesB ⟨r,zl,cl,tl,vl,rl,ol,bl,le,ba⟩=true:=by
  unfold valuesB
  rw[b2,a4]
  simp[inR]
  omega
 have l4:¬ rl.length % 2=0:=by omega
 have l5:topoErr ⟨r,zl,cl,tl,vl,rl,ol,bl,le,ba⟩=0:=by simp[topoErr,l1,l2,l3,l4]
 simp only[cfgErr,l5,a3]
 rfl
def CfgPost (w:World) (e:Ending) (w':World):Prop:=
 ∃ (x:CfgA) (c:Cfg),e=.returned (.agg (cfgC x c))∧CfgOk w' (fun b=>w.heap.size≤b∧b<w'.heap.size) x c∧MadeCfg c∧Below w.heap.size w w'
theorem versOk_one {h:Int} (h0:0≤h) (h1:h≤30):versOk [(0,h)]=true:=by
 simp[versOk,verOk]
 omega
abbrev allowC (r:Int):Int:=IntKind.i64.wrap (IntKind.i64.wrap (1 * 2 ^ min (IntKind.u64.wrap r).toNat IntKind.i64.bits)-1)
theorem allowC_eq {r:Int} (h:1≤r∧r≤3):allowC r=shl1 r-1:=by
 rcases (show r=1∨r=2∨r=3 by omega) with rfl | rfl | rfl<;>decide
theorem ten_okC {r a b p g al gr:Int} {no:Bool} (h1:1≤r∧r≤3) (ha:1≤a∧a≤12) (hb:0≤b∧b<a+1) (hp:0≤p∧p<4) (hg:-1≤g∧g≤3) (hal:1≤al∧al≤shl1 r-1) (hgr:0≤gr∧gr<3):tenOk r ⟨a,b,p,g,al,gr,no⟩=true:=by
 unfold tenOk inR
 simp only[Bool.and_eq_true,decide_eq_true_eq]
 omega
def ctBetw:CT:=fun vs mem nx K=>∃ v lo hi,vs=[.int .i64 v,.int .i64 lo,.int .i64 hi]∧(lo≤hi∧-1000000≤lo∧hi≤1000000)∧∀ r:Int,lo≤r→r≤hi→K (.int .i64 r) mem nx
theorem betwOk:CSound Try.prog 47 ctBetw:=⟨by kernel_rfl,fun {C ρ fr mem nx a w vs K} hc hs hv=>by
 obtain⟨v,lo,hi,rfl,⟨h1,h2,h3⟩,hK⟩:=hc
 refine (mkBetween_any v lo hi w h1 h2 h3).mono ?_
 rintro e w' ⟨⟨r,hr1,hr2,-,rfl⟩,rfl⟩
 exact⟨.int .i64 r,mem,nx,ρ,rfl,hK r hr1 hr2,hs,trivial,ExtS.refl _ _⟩⟩
theorem snoc_el {α:Type} {enc:α→List Value} {d:α} {l:List α} {x:α} {el el2:Nat→List Value} (h0:∀ j,j<l.length→el j=enc (l.getD j d)) (h1:∀ j,j<l.length→el2 j=el j) (h2:el2 (l.length+0)=enc x):∀ j,j<(l++[x]).length→el2 j=enc ((l++[x]).getD j d):=by
 intro j hj
 by_cases hjn:j<l.length
 ·rw[h1 j hjn,h0 j hjn,List.getD_eq_getElem?_getD,List.getD_eq_getElem?_getD,List.getElem?_append_left hjn]
 ·obtain rfl:j=l.length:=by simp at hj;omega
  rw[Nat.add_zero] at h2
  rw[h2,List.getD_eq_getElem?_getD,List.getElem?_append_right (Nat.le_refl _),Nat.sub_self]
  rfl
theorem one_el {α:Type} {enc:α→List Value} {d x:α} {el2:Nat→List Value} (h2:el2 0=enc x):∀ j,j<[x].length→el2 j=enc ([x].getD j d):=by
 intro j hj
 obtain rfl:j=0:=by simpa using hj
 exact h2
theorem cwz {n rg:Int} (hn:0≤n) (hr:1≤rg):(true&&[Int.tmod n rg].all (fun z=>inR z 0 (rg-1)))=true:=by
 have t1:=Int.tmod_nonneg rg hn
 have t2:=Int.tmod_lt_of_pos n (show 0<rg by omega)
 simp[inR]
 omega
theorem cwc {n z r:Int} (hn:0≤n) (hz:1≤z) (hr:1≤r∧r≤4):(true&&[(Int.tmod n z,IntKind.i64.wrap (r * 10))].all (fun y=>inR y.1 0 (z-1)&&inR y.2 1 40))=true:=by
 have t1:=Int.tmod_nonneg z hn
 have t2:=Int.tmod_lt_of_pos n (show 0<z by omega)
 rw[wrapi (n:=r * 10) (by omega)]
 simp[inR]
 omega
theorem cwi {z r:Int} (hr:0≤r∧r<z):(true&&[r].all (fun y=>inR y 0 (z-1)))=true:=by
 simp[inR]
 omega
end Go.Proofs.Ytdjkeplekchfdaa
