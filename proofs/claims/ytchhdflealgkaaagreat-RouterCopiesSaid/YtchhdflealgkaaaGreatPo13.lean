import Derived.Test.YtchhdflealgkaaaGreatPo12
namespace Go.Proofs.YtchhdflealgkaaaGreat
open Go.RowKit
set_option linter.unusedSimpArgs false
set_option linter.unusedVariables false
/-! The bytes of an atlas. -/
structure Atl where
 number:Int
 tick:Int
 routes:List (Int×Int)
 parent:Int
 sum:Int
abbrev atlV (a:Atl) (v:Value):Value:=.agg #[.int .i64 a.number,.int .i64 a.tick,v,.int .u64 a.parent,.int .u64 a.sum]
def routeB (r:Int×Int):List Int:=intBy r.1++intBy r.2
def bodyI (a:Atl):List Int:=intBy a.number++intBy a.tick++intBy a.routes.length++a.routes.flatMap routeB
structure AtlIn (a:Atl):Prop where
 n:in64 a.number
 t:in64 a.tick
 len:a.routes.length≤1000
 r:∀ x ∈ a.routes,in64 x.1∧in64 x.2
theorem AtlIn.at_ {a:Atl} (h:AtlIn a) {i:Int} (hi:0≤i∧i<a.routes.length):in64 (a.routes.getD i.toNat (0,0)).1∧in64 (a.routes.getD i.toNat (0,0)).2:=by
 rw[List.getD_eq_getElem?_getD,List.getElem?_eq_getElem (by omega)]
 exact h.r _ (List.getElem_mem _)
theorem body_take {a:Atl} {i:Int} (h:0≤i∧i<a.routes.length):(a.routes.take (i+1).toNat).flatMap routeB=(a.routes.take i.toNat).flatMap routeB++intBy (a.routes.getD i.toNat (0,0)).1++intBy (a.routes.getD i.toNat (0,0)).2:=by
 rw[show (i+1).toNat=i.toNat+1 by omega,List.take_add_one,List.getElem?_eq_getElem (by omega),List.flatMap_append,List.getD_eq_getElem?_getD,List.getElem?_eq_getElem (by omega)]
 simp[routeB]
def bdPF:FT:=[(188,ctWInt)]
def bdPD:List (Nat×DQ):=[(3000005,{ k:=6,L:=[0,1],sl:=[19,20] })]
def bdRF:FT:=[(132,ctRInt)]
def bdRD:List (Nat×DQ):=[(3000003,{ k:=6,L:=[0,1],sl:=[1] }),(1,{ k:=9,L:=[1],pre:=[(0,false),(1,false),(3,false),(4,false),(6,false),(7,false),(8,false),(2,true),(5,true)] }),(5,{ k:=14,L:=[0,1],pre:=[(0,false),(1,false),(2,false),(3,false),(4,false),(5,false),(6,false),(8,false),(9,false),(10,false),(11,false),(12,false),(13,false),(7,true)] })]
theorem bdPFok:FTokI Tryz.prog bdPF (inlOf bdPD):=fti_cons (wIntOk.i _) fti_nil
theorem bdRFok:FTokI Tryz.prog bdRF (inlOf bdRD):=fti_cons (rIntOk.i _) fti_nil
set_option maxRecDepth 100000 in
set_option maxHeartbeats 4000000 in
theorem bodyP_sx (cap:Nat) (a:Atl) (ha:AtlIn a) :
  sx ttA bdPF bdPD (bodyOf Tryz.f171) (argF 0 [atlV a (slc 0 a.routes.length cap)]) [(0,rowOfL 3 2 pairC (0,0) a.routes)] 1 (endx ttA Tryz.f171.results.toList fun v mem' _=>SlR mem' 1 u8C 0 (bodyI a) v):=by
 have hl1:=intBy_len ha.n
 have hl2:=intBy_len ha.t
 have hlen:=ha.len
 have hn3:in64 (a.routes.length:Int):=by unfold in64;omega
 have hl3:=intBy_len hn3
 refine⟨_,[],_,rfl,.inl ⟨rfl,rfl⟩,⟨Nat.zero_le _,ha.n⟩,fun c1=>?_⟩
 refine⟨_,_,_,rfl,.inr (.inl ⟨2,_,rfl,.list rfl⟩),⟨(by simp only[List.length_append,List.nil_append];omega),ha.t⟩,fun c2=>?_⟩
 refine⟨_,_,_,rfl,.inr (.inl ⟨3,_,rfl,.list rfl⟩),⟨(by simp only[List.length_append,List.nil_append];omega),hn3⟩,fun c3=>?_⟩
 refine⟨Int×List Int×Nat,fun q=>match q with | (i,s,cp)=>[(21,.int .i64 i),(3,slc 5 s.length cp)],fun q=>match q with | (i,s,cp)=>[(5,rowOfL 500000 1 u8C 0 s)],fun q=>match q with | (i,s,cp)=>(0≤i∧i≤a.routes.length)∧s=(intBy a.number++intBy a.tick++intBy (a.routes.length:Int))++(a.routes.take i.toNat).flatMap routeB∧(s.length:Int)≤30+20 * i,fun q=>match q with | (i,s,cp)=>((a.routes.length:Int)-i).toNat,⟨(0,_,c3),[(5,4)],⟨by omega,(List.append_nil _).symm,by simp;omega⟩,⟨rfl,rfl⟩,kp_,kp_⟩,?_⟩
 rintro⟨i,s,cp⟩ ⟨hi,hs,hsl⟩
 refine⟨⟨by decide,rfl,rfl⟩,?_⟩
 refine⟨fun hlt=>?_,fun hge=>?_⟩
 ·have hlt2:i<(a.routes.length:Int):=of_decide_eq_true hlt
  have hin:=ha.at_ ⟨hi.1,hlt2⟩
  have hl4:=intBy_len hin.1
  have hl5:=intBy_len hin.2
  refine⟨⟨Nat.le_refl _,hi.1,hlt2⟩,?_⟩
  refine⟨_,s,_,rfl,.inr (.inl ⟨5,_,rfl,.list rfl⟩),⟨(by omega),hin.1⟩,fun c4=>?_⟩
  refine⟨_,_,_,rfl,.inr (.inl ⟨7,_,rfl,.list rfl⟩),⟨(by simp only[List.length_append,List.nil_append];omega),hin.2⟩,fun c5=>?_⟩
  refine⟨(_,_,c5),[(5,8)],?_,⟨rfl,rfl⟩,kp_,kp_⟩
  dsimp only
  rw[wrapi (n:=i+1) (by omega),body_take ⟨hi.1,hlt2⟩]
  refine⟨⟨by omega,?_,?_⟩,by omega⟩
  ·rw[hs]
   simp only[List.append_assoc]
  ·simp only[List.length_append]
   omega
 ·have hge2:¬ i<(a.routes.length:Int):=of_decide_eq_false hge
  obtain rfl:i=a.routes.length:=by omega
  rw[Int.toNat_natCast,List.take_length] at hs
  subst hs
  exact .inr ⟨5,cp,_,_,_,rfl,rfl,rfl,Nat.le_refl _,fun k hk=>rfl⟩
set_option maxRecDepth 100000 in
set_option maxHeartbeats 4000000 in
theorem bodyR_sx (cap:Nat) (a:Atl) (ha:AtlIn a) :
  sx ttA bdRF bdRD (bodyOf Tryz.f90) (argF 0 [atlV a (slc 0 a.routes.length cap)]) [(0,rowOfL 3 2 pairC (0,0) a.routes)] 1 (endx ttA Tryz.f90.results.toList fun v mem' _=>SlR mem' 1 u8C 0 (bodyI a) v):=by
 have hl1:=intBy_len ha.n
 have hl2:=intBy_len ha.t
 have hlen:=ha.len
 have hn3:in64 (a.routes.length:Int):=by unfold in64;omega
 have hl3:=intBy_len hn3
 refine⟨_,[],_,rfl,.inl ⟨rfl,rfl⟩,⟨Nat.zero_le _,ha.n⟩,fun c1=>?_⟩
 refine⟨kp_,?_⟩
 refine⟨_,_,_,rfl,.inr (.inl ⟨2,_,rfl,.list rfl⟩),⟨(by simp only[List.length_append,List.nil_append];omega),ha.t⟩,fun c2=>?_⟩
 refine⟨kp_,?_⟩
 refine⟨_,_,_,rfl,.inr (.inl ⟨3,_,rfl,.list rfl⟩),⟨(by simp only[List.length_append,List.nil_append];omega),hn3⟩,fun c3=>?_⟩
 refine⟨Int×List Int×Nat,fun q=>match q with | (i,s,cp)=>[(4,.int .i64 i),(3,slc 5 s.length cp)],fun q=>match q with | (i,s,cp)=>[(5,rowOfL 500000 1 u8C 0 s)],fun q=>match q with | (i,s,cp)=>(0≤i∧i≤a.routes.length)∧s=(intBy a.number++intBy a.tick++intBy (a.routes.length:Int))++(a.routes.take i.toNat).flatMap routeB∧(s.length:Int)≤30+20 * i,fun q=>match q with | (i,s,cp)=>((a.routes.length:Int)-i).toNat,⟨(0,_,c3),[(5,4)],⟨by omega,(List.append_nil _).symm,by simp;omega⟩,⟨rfl,rfl⟩,kp_,kp_⟩,?_⟩
 rintro⟨i,s,cp⟩ ⟨hi,hs,hsl⟩
 refine⟨⟨by decide,rfl,rfl⟩,?_⟩
 refine⟨fun hlt=>?_,fun hge=>?_⟩
 ·have hlt2:i<(a.routes.length:Int):=of_decide_eq_true hlt
  have hin:=ha.at_ ⟨hi.1,hlt2⟩
  have hl4:=intBy_len hin.1
  have hl5:=intBy_len hin.2
  refine⟨⟨Nat.le_refl _,hi.1,hlt2⟩,?_⟩
  refine⟨⟨Nat.le_refl _,hi.1,hlt2⟩,?_⟩
  refine⟨_,s,_,rfl,.inr (.inl ⟨5,_,rfl,.list rfl⟩),⟨(by omega),hin.1⟩,fun c4=>?_⟩
  refine⟨kp_,?_⟩
  refine⟨_,_,_,rfl,.inr (.inl ⟨6,_,rfl,.list rfl⟩),⟨(by simp only[List.length_append,List.nil_append];omega),hin.2⟩,fun c5=>?_⟩
  refine⟨(_,_,c5),[(5,7)],?_,⟨rfl,rfl⟩,kp_,kp_⟩
  dsimp only
  rw[wrapi (n:=i+1) (by omega),body_take ⟨hi.1,hlt2⟩]
  refine⟨⟨by omega,?_,?_⟩,by omega⟩
  ·rw[hs]
   simp only[List.append_assoc]
  ·simp only[List.length_append]
   omega
 ·have hge2:¬ i<(a.routes.length:Int):=of_decide_eq_false hge
  obtain rfl:i=a.routes.length:=by omega
  rw[Int.toNat_natCast,List.take_length] at hs
  subst hs
  exact .inr ⟨5,cp,_,_,_,rfl,rfl,rfl,Nat.le_refl _,fun k hk=>rfl⟩
theorem bodyP_calls (A:Option Addr) (cap:Nat) (a:Atl) (w:World) (ha:AtlIn a) (hr:Rd w (·<w.heap.size) A (flat pairC a.routes)):Calls Tryz.prog 171 #[.agg #[.int .i64 a.number,.int .i64 a.tick,.slice A a.routes.length cap,.int .u64 a.parent,.int .u64 a.sum]] w fun e w'=>∃ A2 cp,e=.returned (.slice A2 (bodyI a).length cp)∧Rd w' (fun b=>w.heap.size≤b∧b<w'.heap.size) A2 (flat u8C (bodyI a))∧Below w.heap.size w w':=by
 have:=row1_calls (enc:=pairC) (sz:=2) (fun _=>rfl) (by omega) pairC_plain (0,0) ttAok bdPFok Tryz.func171 rfl (D:=bdPD) (by kernel_rfl) (vs:=[atlV a (slc 0 a.routes.length cap)]) rfl A a.routes w hr (fun v hv=>by
  simp only[List.mem_cons,List.not_mem_nil,or_false] at hv
  subst hv
  intro u hu
  simp at hu
  rcases hu with rfl | rfl | rfl | rfl | rfl<;>first | trivial | exact⟨Nat.zero_lt_one,rfl⟩) (bodyP_sx cap a ha)
 have e0:([atlV a (slc 0 a.routes.length cap)].map (den fun _=>⟨A,2,a.routes.length,false,noSub⟩)).toArray=#[.agg #[.int .i64 a.number,.int .i64 a.tick,.slice A a.routes.length cap,.int .u64 a.parent,.int .u64 a.sum]]:=by simp[den,den2,den1,dA_whole,dS_whole]
 rw[e0] at this
 refine this.mono ?_
 rintro e w' ⟨v,mem',nx',ρ',rfl,hR,hv,hm',hb⟩
 obtain⟨A2,cp,e1,hr2⟩:=hm'.slR (enc:=u8C) (sz:=1) (fun _=>rfl) (by omega) hR
 refine⟨A2,cp,?_,hr2,hb⟩
 congr 1
 rcases hR with⟨rfl,-⟩ | ⟨r,cap,t,n,el,rfl,-⟩
 ·exact e1
 ·exact e1
def ctBodyP:CT:=fun vs mem nx K=>∃ a v,vs=[atlV a v]∧SrcR mem 2 pairC (0,0) a.routes v∧AtlIn a∧∀ cp,K (slc nx (bodyI a).length cp) ((nx,rowOfL 500000 1 u8C 0 (bodyI a))::mem) (nx+1)
theorem bodyPOk:CSound Tryz.prog 171 ctBodyP:=⟨by kernel_rfl,fun {C ρ fr mem nx a w vs K} hc hs hv=>by
 obtain⟨a,v,rfl,hsrc,ha,hK⟩:=hc
 obtain⟨A,cap,e0,hr⟩:=hs.srcR (enc:=pairC) (sz:=2) (fun _=>rfl) (by omega) hsrc
 have e1:([atlV a v].map (den ρ)).toArray=#[.agg #[.int .i64 a.number,.int .i64 a.tick,.slice A a.routes.length cap,.int .u64 a.parent,.int .u64 a.sum]]:=by
  obtain⟨A',cp,rfl⟩:=hsrc.slice
  have dI:∀ k n,den1 ρ (.int k n)=.int k n:=fun _ _=>rfl
  simp only[List.map_cons,List.map_nil,atlV,den,den2]
  simp[dI,den1_slice e0]
 rw[e1]
 refine (bodyP_calls A cap a w ha hr).mono ?_
 rintro e w' ⟨A2,cp,rfl,hr2,hb⟩
 exact hs.bytes hb hr2 (hK cp)⟩
theorem bodyR_calls (A:Option Addr) (cap:Nat) (a:Atl) (w:World) (ha:AtlIn a) (hr:Rd w (·<w.heap.size) A (flat pairC a.routes)):Calls Tryz.prog 90 #[.agg #[.int .i64 a.number,.int .i64 a.tick,.slice A a.routes.length cap,.int .u64 a.parent,.int .u64 a.sum]] w fun e w'=>∃ A2 cp,e=.returned (.slice A2 (bodyI a).length cp)∧Rd w' (fun b=>w.heap.size≤b∧b<w'.heap.size) A2 (flat u8C (bodyI a))∧Below w.heap.size w w':=by
 have:=row1_calls (enc:=pairC) (sz:=2) (fun _=>rfl) (by omega) pairC_plain (0,0) ttAok bdRFok Tryz.func90 rfl (D:=bdRD) (by kernel_rfl) (vs:=[atlV a (slc 0 a.routes.length cap)]) rfl A a.routes w hr (fun v hv=>by
  simp only[List.mem_cons,List.not_mem_nil,or_false] at hv
  subst hv
  intro u hu
  simp at hu
  rcases hu with rfl | rfl | rfl | rfl | rfl<;>first | trivial | exact⟨Nat.zero_lt_one,rfl⟩) (bodyR_sx cap a ha)
 have e0:([atlV a (slc 0 a.routes.length cap)].map (den fun _=>⟨A,2,a.routes.length,false,noSub⟩)).toArray=#[.agg #[.int .i64 a.number,.int .i64 a.tick,.slice A a.routes.length cap,.int .u64 a.parent,.int .u64 a.sum]]:=by simp[den,den2,den1,dA_whole,dS_whole]
 rw[e0] at this
 refine this.mono ?_
 rintro e w' ⟨v,mem',nx',ρ',rfl,hR,hv,hm',hb⟩
 obtain⟨A2,cp,e1,hr2⟩:=hm'.slR (enc:=u8C) (sz:=1) (fun _=>rfl) (by omega) hR
 refine⟨A2,cp,?_,hr2,hb⟩
 congr 1
 rcases hR with⟨rfl,-⟩ | ⟨r,cap,t,n,el,rfl,-⟩
 ·exact e1
 ·exact e1
def ctBodyR:CT:=fun vs mem nx K=>∃ a v,vs=[atlV a v]∧SrcR mem 2 pairC (0,0) a.routes v∧AtlIn a∧∀ cp,K (slc nx (bodyI a).length cp) ((nx,rowOfL 500000 1 u8C 0 (bodyI a))::mem) (nx+1)
theorem bodyROk:CSound Tryz.prog 90 ctBodyR:=⟨by kernel_rfl,fun {C ρ fr mem nx a w vs K} hc hs hv=>by
 obtain⟨a,v,rfl,hsrc,ha,hK⟩:=hc
 obtain⟨A,cap,e0,hr⟩:=hs.srcR (enc:=pairC) (sz:=2) (fun _=>rfl) (by omega) hsrc
 have e1:([atlV a v].map (den ρ)).toArray=#[.agg #[.int .i64 a.number,.int .i64 a.tick,.slice A a.routes.length cap,.int .u64 a.parent,.int .u64 a.sum]]:=by
  obtain⟨A',cp,rfl⟩:=hsrc.slice
  have dI:∀ k n,den1 ρ (.int k n)=.int k n:=fun _ _=>rfl
  simp only[List.map_cons,List.map_nil,atlV,den,den2]
  simp[dI,den1_slice e0]
 rw[e1]
 refine (bodyR_calls A cap a w ha hr).mono ?_
 rintro e w' ⟨A2,cp,rfl,hr2,hb⟩
 exact hs.bytes hb hr2 (hK cp)⟩
end Go.Proofs.YtchhdflealgkaaaGreat
