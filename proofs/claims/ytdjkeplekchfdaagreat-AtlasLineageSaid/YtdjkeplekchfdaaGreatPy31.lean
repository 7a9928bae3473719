import Derived.Test.YtdjkeplekchfdaaGreatPy30
namespace Go.Proofs.YtdjkeplekchfdaaGreat
open Go.RowKit
set_option linter.unusedSimpArgs false
set_option linter.unusedVariables false
/-! atlas.Follows,by contract. -/
structure FolA (a b:Atl):Prop where
 par:b.parent=a.sum
 num:a.number<b.number
 tick:a.tick≤b.tick
 len:a.routes.length=b.routes.length
 ep:∀ k,k<a.routes.length→(a.routes.getD k (0,0)).2≤(b.routes.getD k (0,0)).2
abbrev foD15:List (Nat×DQ):=[(2000004,{ k:=0,L:=[0,1,2,3,4,5,6,7,8,9,10,11,12,13,14],sl:=[2,3,36,37] }),(6,{ k:=8,L:=[0,1,2,3,4,5,6,7,8,9,10,11,12,13,14,15,16,17,18,19,20],pre:=[(0,false),(1,false),(2,false),(3,false),(4,false),(5,false),(6,false),(7,false)] })]
set_option maxRecDepth 100000 in
set_option maxHeartbeats 4000000 in
theorem follows_sx (c1 c2:Nat) (a b:Atl) (hl:a.routes.length≤1000000) :
  sx ttA [] foD15 (bodyOf Tryz.f54) (argF 0 [atlV a (slc 3 a.routes.length c1),atlV b (slc 5 b.routes.length c2)]) (uniM { c:={ noC with cells:=a.routes,versions:=b.routes } }) 13 (endx ttA Tryz.f54.results.toList fun v _ _=>∃ r,v=.bool r∧(r=true↔FolA a b)):=by
 refine⟨fun h1=>?_,fun h1=>?_⟩
 ·repeat (first | refine⟨fun _=>?_,fun h=>Bool.noConfusion h⟩ | refine⟨fun h=>Bool.noConfusion h,fun _=>?_⟩ | fail)
  exact⟨false,rfl,(fun q=>Bool.noConfusion q),fun q=>absurd q.par (by simpa using h1)⟩
 ·refine⟨fun h2=>?_,fun h2=>?_⟩
  ·repeat (first | refine⟨fun _=>?_,fun h=>Bool.noConfusion h⟩ | refine⟨fun h=>Bool.noConfusion h,fun _=>?_⟩ | fail)
   exact⟨false,rfl,(fun q=>Bool.noConfusion q),fun q=>absurd q.num (by have:=of_decide_eq_true h2;omega)⟩
  ·refine⟨fun h3=>?_,fun h3=>?_⟩
   ·repeat (first | refine⟨fun _=>?_,fun h=>Bool.noConfusion h⟩ | refine⟨fun h=>Bool.noConfusion h,fun _=>?_⟩ | fail)
    exact⟨false,rfl,(fun q=>Bool.noConfusion q),fun q=>absurd q.tick (by have:=of_decide_eq_true h3;omega)⟩
   ·refine⟨fun h4=>?_,fun h4=>?_⟩
    ·repeat (first | refine⟨fun _=>?_,fun h=>Bool.noConfusion h⟩ | refine⟨fun h=>Bool.noConfusion h,fun _=>?_⟩ | fail)
     exact⟨false,rfl,(fun q=>Bool.noConfusion q),fun q=>absurd q.len (by intro q2;rw[q2] at h4;simp at h4)⟩
    ·have hlen:(a.routes.length:Int)=b.routes.length:=by simpa using h4
     refine⟨Int,fun i=>[(38,.int .i64 i)],fun _=>[],fun i=>(0≤i∧i≤a.routes.length)∧∀ k,k<i.toNat→(a.routes.getD k (0,0)).2≤(b.routes.getD k (0,0)).2,fun i=>((a.routes.length:Int)-i).toNat,⟨0,⟨by omega,fun k hk=>absurd hk (by omega)⟩,kp_,kp_⟩,?_⟩
     rintro i ⟨hi,hall⟩
     refine⟨⟨rfl,rfl⟩,?_⟩
     refine⟨fun hlt=>?_,fun hge=>?_⟩
     ·have hlt2:i<(a.routes.length:Int):=of_decide_eq_true hlt
      refine⟨⟨Nat.le_refl _,hi.1,by omega⟩,?_⟩
      refine⟨⟨Nat.le_refl _,hi.1,by omega⟩,?_⟩
      refine⟨fun hb=>?_,fun hb=>?_⟩
      ·have hb2:(b.routes.getD i.toNat (0,0)).2<(a.routes.getD i.toNat (0,0)).2:=of_decide_eq_true hb
       exact⟨false,rfl,(fun q=>Bool.noConfusion q),fun q=>absurd (q.ep i.toNat (by omega)) (by omega)⟩
      ·have hb2:¬ (b.routes.getD i.toNat (0,0)).2<(a.routes.getD i.toNat (0,0)).2:=of_decide_eq_false hb
       refine⟨_,?_,kp_,kp_⟩
       rw[wrapi (n:=i+1) (by omega)]
       dsimp only
       refine⟨⟨by omega,fun k hk=>?_⟩,by omega⟩
       by_cases hki:k<i.toNat
       ·exact hall k hki
       ·obtain rfl:k=i.toNat:=by omega
        omega
     ·have hge2:¬ i<(a.routes.length:Int):=of_decide_eq_false hge
      exact⟨true,rfl,fun _=>⟨by simpa using h1,by have:=of_decide_eq_false h2;omega,by have:=of_decide_eq_false h3;omega,by omega,fun k hk=>hall k (by omega)⟩,fun _=>rfl⟩
theorem follows_calls (A1 A2:Option Addr) (c1 c2:Nat) (a b:Atl) (w:World) (hl:a.routes.length≤1000000) (hr1:Rd w (·<w.heap.size) A1 (flat pairC a.routes)) (hr2:Rd w (·<w.heap.size) A2 (flat pairC b.routes)):Calls Tryz.prog 54 #[.agg #[.int .i64 a.number,.int .i64 a.tick,.slice A1 a.routes.length c1,.int .u64 a.parent,.int .u64 a.sum],.agg #[.int .i64 b.number,.int .i64 b.tick,.slice A2 b.routes.length c2,.int .u64 b.parent,.int .u64 b.sum]] w fun e w'=>∃ r,e=.returned (.bool r)∧(r=true↔FolA a b)∧Below w.heap.size w w':=by
 have:=uni_calls ttAok fti_nil Tryz.func54 rfl (D:=foD15) (by kernel_rfl) (vs:=[atlV a (slc 3 a.routes.length c1),atlV b (slc 5 b.routes.length c2)]) rfl { x:={ noX with ac:=A1,av:=A2 } } { c:={ noC with cells:=a.routes,versions:=b.routes } } w { c:={ noC_ok w (·<w.heap.size) with cells:=hr1,versions:=hr2 } } (fun v hv=>by
  simp only[List.mem_cons,List.not_mem_nil,or_false] at hv
  rcases hv with rfl | rfl
  ·intro u hu
   simp at hu
   rcases hu with rfl | rfl | rfl | rfl | rfl<;>first | trivial | exact⟨by decide,rfl⟩
  ·intro u hu
   simp at hu
   rcases hu with rfl | rfl | rfl | rfl | rfl<;>first | trivial | exact⟨by decide,rfl⟩) (follows_sx c1 c2 a b hl)
 have e0:([atlV a (slc 3 a.routes.length c1),atlV b (slc 5 b.routes.length c2)].map (den (upl { x:={ noX with ac:=A1,av:=A2 } } { c:={ noC with cells:=a.routes,versions:=b.routes } }))).toArray=#[.agg #[.int .i64 a.number,.int .i64 a.tick,.slice A1 a.routes.length c1,.int .u64 a.parent,.int .u64 a.sum],.agg #[.int .i64 b.number,.int .i64 b.tick,.slice A2 b.routes.length c2,.int .u64 b.parent,.int .u64 b.sum]]:=by simp[den,den2,den1,dA_whole,dS_whole,upl]
 rw[e0] at this
 refine this.mono ?_
 rintro e w' ⟨v,mem',nx',ρ',rfl,⟨r,rfl,hr⟩,hv,hm',hb⟩
 exact⟨r,rfl,hr,hb⟩
def ctFollows:CT:=fun vs mem nx K=>∃ a b v1 v2,vs=[atlV a v1,atlV b v2]∧(SrcR mem 2 pairC (0,0) a.routes v1∧SrcR mem 2 pairC (0,0) b.routes v2)∧a.routes.length≤1000000∧∀ r,(r=true↔FolA a b)→K (.bool r) mem nx
theorem followsOk:CSound Tryz.prog 54 ctFollows:=⟨by kernel_rfl,fun {C ρ fr mem nx q w vs K} hc hs hv=>by
 obtain⟨a,b,v1,v2,rfl,⟨h1,h2⟩,hl,hK⟩:=hc
 obtain⟨A1,c1,e1,hr1⟩:=hs.srcR (enc:=pairC) (sz:=2) (fun _=>rfl) (by omega) h1
 obtain⟨A2,c2,e2,hr2⟩:=hs.srcR (enc:=pairC) (sz:=2) (fun _=>rfl) (by omega) h2
 rw[List.map_cons,List.map_cons,den_atl h1 e1,den_atl h2 e2]
 refine (follows_calls A1 A2 c1 c2 a b w hl hr1 hr2).mono ?_
 rintro e w' ⟨r,rfl,hr,hb⟩
 exact⟨_,mem,nx,ρ,rfl,hK r hr,hs.later hb,trivial,ExtS.refl _ _⟩⟩
/-! Atlases of states that follow one another. -/
theorem fol_step {c:Cfg} {s x:St} {e:Ent} (hV:CfgV c) (hI:StInv c s) (h:applyP c s e=(x,0)) (p key key2:Int):FolA (makeA s p key) (makeA x (makeA s p key).sum key2):=by
 obtain⟨h1,h2,h3,h4⟩:=ep_step hV hI h
 refine⟨rfl,?_,h1,?_,fun k hk=>?_⟩
 ·show s.count<x.count
  omega
 ·show (routesOf s).length=(routesOf x).length
  rw[routes_len,routes_len,h3]
 ·have hk1:k<s.tenants.length:=by rw[← routes_len];exact hk
  have hk2:k<x.tenants.length:=by omega
  show ((routesOf s).getD k (0,0)).2≤((routesOf x).getD k (0,0)).2
  rw[routes_get hk1,routes_get hk2]
  have:=(h4 k _ _ (List.getElem?_eq_getElem hk1) (List.getElem?_eq_getElem hk2)).up.1
  rw[List.getD_eq_getElem?_getD,List.getD_eq_getElem?_getD,List.getElem?_eq_getElem hk1,List.getElem?_eq_getElem hk2]
  exact this
structure LnP (c:Cfg) (key:Int) (xs:List Atl):Prop where
 val:∀ k,k<xs.length→ValidA c (xs.getD k aZ) key
 fol:∀ k,k+1<xs.length→FolA (xs.getD k aZ) (xs.getD (k+1) aZ)
theorem LnP.one {c:Cfg} {key:Int} {a:Atl} (h:ValidA c a key):LnP c key [a]:=⟨fun k hk=>(match k,hk with | 0,_=>h),fun k hk=>absurd hk (by simp)⟩
theorem LnP.snoc {c:Cfg} {key:Int} {xs:List Atl} {a b:Atl} (hP:LnP c key xs) (hne:1≤xs.length) (hl:xs.getD (xs.length-1) aZ=a) (h:ValidA c b key) (hf:FolA a b):LnP c key (xs++[b]):=by
 refine⟨fun k hk=>?_,fun k hk=>?_⟩
 ·by_cases q:k<xs.length
  ·rw[getD_appA q];exact hP.val k q
  ·obtain rfl:k=xs.length:=by simp at hk;omega
   rw[getD_endA];exact h
 ·simp at hk
  by_cases q:k+1<xs.length
  ·rw[getD_appA q,getD_appA (by omega)];exact hP.fol k q
  ·obtain rfl:k=xs.length-1:=by omega
   rw[show xs.length-1+1=xs.length by omega,getD_endA,getD_appA (by omega),hl]
   exact hf
structure UpS (s t:St):Prop where
 tick:s.tick≤t.tick
 count:s.count≤t.count
 len:s.tenants.length=t.tenants.length
 ep:∀ k,k<s.tenants.length→((routesOf s).getD k (0,0)).2≤((routesOf t).getD k (0,0)).2
theorem UpS.refl (s:St):UpS s s:=⟨Int.le_refl _,Int.le_refl _,rfl,fun _ _=>Int.le_refl _⟩
theorem UpS.trans {s t u:St} (h:UpS s t) (h2:UpS t u):UpS s u:=⟨Int.le_trans h.tick h2.tick,Int.le_trans h.count h2.count,h.len.trans h2.len,fun k hk=>Int.le_trans (h.ep k hk) (h2.ep k (by rw[← h.len];exact hk))⟩
theorem up_step {c:Cfg} {s x:St} {e:Ent} (hV:CfgV c) (hI:StInv c s) (h:applyP c s e=(x,0)):UpS s x:=by
 have hf:=fol_step hV hI h 0 0 0
 have h1:=hf.len
 rw[show (makeA s 0 0).routes=routesOf s from rfl,show (makeA x (makeA s 0 0).sum 0).routes=routesOf x from rfl,routes_len,routes_len] at h1
 exact⟨hf.tick,Int.le_of_lt hf.num,h1,fun k hk=>hf.ep k (by rw[show (makeA s 0 0).routes=routesOf s from rfl,routes_len];exact hk)⟩
theorem Run.up {c:Cfg} (hV:CfgV c) {s s':St} {es:List Ent} (h:Run c s es s') (hs:RInv c s):UpS s s':=by
 induction h with
 | nil s=>exact .refl s
 | cons he _ ih=>exact (up_step hV hs.inv he).trans (ih (hs.step hV he))
theorem UpS.fol {s t:St} (h:UpS s t) (hn:s.count<t.count) (p key key2:Int):FolA (makeA s p key) (makeA t (makeA s p key).sum key2):=
 ⟨rfl,hn,h.tick,by rw[show (makeA s p key).routes=routesOf s from rfl,show (makeA t (makeA s p key).sum key2).routes=routesOf t from rfl,routes_len,routes_len];exact h.len,fun k hk=>h.ep k (by rw[← routes_len];exact hk)⟩
end Go.Proofs.YtdjkeplekchfdaaGreat
