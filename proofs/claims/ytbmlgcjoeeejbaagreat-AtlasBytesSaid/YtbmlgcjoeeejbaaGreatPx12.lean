import Derived.Test.YtbmlgcjoeeejbaaGreatPx11
namespace Go.Proofs.YtbmlgcjoeeejbaaGreat
open Go.RowKit
set_option linter.unusedSimpArgs false
set_option linter.unusedVariables false
/-! digest.Chain,ref02.Chain -/
def xorI (a b:Int):Int:=IntKind.u64.wrap (BitVec.ofInt IntKind.u64.bits a ^^^ BitVec.ofInt IntKind.u64.bits b).toNat
def mixI (h n:Int):Int:=xorI (IntKind.u64.wrap (xorI h (IntKind.u64.wrap n) * 1099511628211)) ((IntKind.u64.wrap (xorI h (IntKind.u64.wrap n) * 1099511628211)).fdiv (2 ^ min (29:Int).toNat IntKind.u64.bits))
def stepI (h x:Int):Int:=mixI h (IntKind.i64.wrap x)
def chainI (key parent:Int) (l:List Int):Int:=mixI (l.foldl stepI (mixI (mixI 14695981039346656037 key) (IntKind.i64.wrap parent))) l.length
theorem fold_take {l:List Int} {h0:Int} {i:Int} (h:0≤i∧i<l.length):(l.take (i+1).toNat).foldl stepI h0=stepI ((l.take i.toNat).foldl stepI h0) (l.getD i.toNat 0):=by
 rw[show (i+1).toNat=i.toNat+1 by omega,List.take_add_one,List.getElem?_eq_getElem (by omega),List.foldl_append,List.getD_eq_getElem?_getD,List.getElem?_eq_getElem (by omega)]
 rfl
abbrev ctMixP:CT:=ctInl ttA [] [] Tryz.f56 (bodyOf Tryz.f56)
abbrev mxdF:FT:=[(56,ctMixP)]
abbrev mxdD:List (Nat×DQ):=[(9000000,{ k:=0,L:=[56] }),(2000002,{ k:=0,L:=[0],sl:=[1,7,8] })]
def chPF:FT:=[(56,ctMixP),(55,ctInl ttA mxdF mxdD Tryz.f55 (bodyOf Tryz.f55))]
def chPD:List (Nat×DQ):=[(9000000,{ k:=0,L:=[56,55] })]
theorem mixPOk {I:List Nat} (hI:I.contains 56=true):CSoundI Tryz.prog I 56 ctMixP:=inl_ok ttAok fti_nil mixed (by kernel_rfl) Tryz.func56 rfl (by kernel_rfl) hI
theorem chPFok:FTokI Tryz.prog chPF (inlOf chPD):=fti_cons (mixPOk (by decide)) (fti_cons (inl_ok ttAok (fti_cons (mixPOk (by decide)) fti_nil) mixed (by kernel_rfl) Tryz.func55 rfl (by kernel_rfl) (by decide)) fti_nil)
abbrev ctMixR:CT:=ctInl ttA [] [] Tryz.f62 (bodyOf Tryz.f62)
abbrev allF:FT:=[(62,ctMixR)]
abbrev allD:List (Nat×DQ):=[(9000000,{ k:=0,L:=[62] }),(2000002,{ k:=0,L:=[0],sl:=[1] })]
def chRF:FT:=[(62,ctMixR),(61,ctInl ttA allF allD Tryz.f61 (bodyOf Tryz.f61))]
def chRD:List (Nat×DQ):=[(9000000,{ k:=0,L:=[62,61] })]
theorem mixROk {I:List Nat} (hI:I.contains 62=true):CSoundI Tryz.prog I 62 ctMixR:=inl_ok ttAok fti_nil mixed (by kernel_rfl) Tryz.func62 rfl (by kernel_rfl) hI
theorem chRFok:FTokI Tryz.prog chRF (inlOf chRD):=fti_cons (mixROk (by decide)) (fti_cons (inl_ok ttAok (fti_cons (mixROk (by decide)) fti_nil) mixed (by kernel_rfl) Tryz.func61 rfl (by kernel_rfl) (by decide)) fti_nil)
set_option maxRecDepth 100000 in
set_option maxHeartbeats 4000000 in
theorem chainP_sx (cap:Nat) (l:List Int) (key parent:Int) (hl:l.length≤1000000) :
  sx ttA chPF chPD (bodyOf Tryz.f44) (argF 0 [.int .i64 key,.int .u64 parent,slc 0 l.length cap]) [(0,rowOfL 3 1 u8C 0 l)] 1 (endx ttA Tryz.f44.results.toList fun v _ _=>v=.int .u64 (chainI key parent l)):=by
 refine⟨by decide,?_⟩
 refine⟨by decide,?_⟩
 refine⟨Int×Int,fun q=>match q with | (i,h)=>[(9,.int .i64 i),(0,.int .u64 h)],fun _=>[],fun q=>match q with | (i,h)=>(0≤i∧i≤l.length)∧h=(l.take i.toNat).foldl stepI (mixI (mixI 14695981039346656037 key) (IntKind.i64.wrap parent)),fun q=>match q with | (i,h)=>((l.length:Int)-i).toNat,⟨(0,mixI (mixI 14695981039346656037 key) (IntKind.i64.wrap parent)),⟨by omega,rfl⟩,kp_,kp_⟩,?_⟩
 rintro⟨i,h⟩ ⟨hi,hh⟩
 refine⟨⟨rfl,rfl⟩,?_⟩
 refine⟨fun hlt=>?_,fun hge=>?_⟩
 ·have hlt2:i<(l.length:Int):=of_decide_eq_true hlt
  refine⟨⟨Nat.le_refl _,hi.1,hlt2⟩,?_⟩
  refine⟨by decide,?_⟩
  refine⟨(_,stepI h (l.getD i.toNat 0)),?_,kp_,kp_⟩
  dsimp only
  rw[wrapi (n:=i+1) (by omega)]
  refine⟨⟨by omega,?_⟩,by omega⟩
  rw[fold_take ⟨hi.1,hlt2⟩,hh]
 ·have hge2:¬ i<(l.length:Int):=of_decide_eq_false hge
  obtain rfl:i=l.length:=by omega
  rw[Int.toNat_natCast,List.take_length] at hh
  subst hh
  refine⟨by decide,?_⟩
  rfl
set_option maxRecDepth 100000 in
set_option maxHeartbeats 4000000 in
theorem chainR_sx (cap:Nat) (l:List Int) (key parent:Int) (hl:l.length≤1000000) :
  sx ttA chRF chRD (bodyOf Tryz.f47) (argF 0 [.int .i64 key,.int .u64 parent,slc 0 l.length cap]) [(0,rowOfL 3 1 u8C 0 l)] 1 (endx ttA Tryz.f47.results.toList fun v _ _=>v=.int .u64 (chainI key parent l)):=by
 refine⟨by decide,?_⟩
 refine⟨by decide,?_⟩
 refine⟨Int×Int,fun q=>match q with | (i,h)=>[(5,.int .i64 i),(0,.int .u64 h)],fun _=>[],fun q=>match q with | (i,h)=>(0≤i∧i≤l.length)∧h=(l.take i.toNat).foldl stepI (mixI (mixI 14695981039346656037 key) (IntKind.i64.wrap parent)),fun q=>match q with | (i,h)=>((l.length:Int)-i).toNat,⟨(0,mixI (mixI 14695981039346656037 key) (IntKind.i64.wrap parent)),⟨by omega,rfl⟩,kp_,kp_⟩,?_⟩
 rintro⟨i,h⟩ ⟨hi,hh⟩
 refine⟨⟨rfl,rfl⟩,?_⟩
 refine⟨fun hlt=>?_,fun hge=>?_⟩
 ·have hlt2:i<(l.length:Int):=of_decide_eq_true hlt
  refine⟨⟨Nat.le_refl _,hi.1,hlt2⟩,?_⟩
  refine⟨by decide,?_⟩
  refine⟨(_,stepI h (l.getD i.toNat 0)),?_,kp_,kp_⟩
  dsimp only
  rw[wrapi (n:=i+1) (by omega)]
  refine⟨⟨by omega,?_⟩,by omega⟩
  rw[fold_take ⟨hi.1,hlt2⟩,hh]
 ·have hge2:¬ i<(l.length:Int):=of_decide_eq_false hge
  obtain rfl:i=l.length:=by omega
  rw[Int.toNat_natCast,List.take_length] at hh
  subst hh
  refine⟨by decide,?_⟩
  rfl
theorem chainP_calls (A:Option Addr) (cap:Nat) (l:List Int) (key parent:Int) (w:World) (hl:l.length≤1000000) (hr:Rd w (·<w.heap.size) A (flat u8C l)):Calls Tryz.prog 44 #[.int .i64 key,.int .u64 parent,.slice A l.length cap] w fun e w'=>e=.returned (.int .u64 (chainI key parent l))∧Below w.heap.size w w':=by
 have:=row1_calls (enc:=u8C) (sz:=1) (fun _=>rfl) (by omega) u8C_plain 0 ttAok chPFok Tryz.func44 rfl (D:=chPD) (by kernel_rfl) (vs:=[.int .i64 key,.int .u64 parent,slc 0 l.length cap]) rfl A l w hr (fun v hv=>by
  simp only[List.mem_cons,List.not_mem_nil,or_false] at hv
  rcases hv with rfl | rfl | rfl
  ·trivial
  ·trivial
  ·exact⟨Nat.zero_lt_one,rfl⟩) (chainP_sx cap l key parent hl)
 have e0:([.int .i64 key,.int .u64 parent,slc 0 l.length cap].map (den fun _=>⟨A,1,l.length,false,noSub⟩)).toArray=#[.int .i64 key,.int .u64 parent,.slice A l.length cap]:=by simp[den,den2,den1,dA_whole,dS_whole]
 rw[e0] at this
 refine this.mono ?_
 rintro e w' ⟨v,mem',nx',ρ',rfl,rfl,hv,hm',hb⟩
 exact⟨rfl,hb⟩
def ctChainP:CT:=fun vs mem nx K=>∃ v l key parent,vs=[.int .i64 key,.int .u64 parent,v]∧SrcR mem 1 u8C 0 (l:List Int) v∧l.length≤1000000∧K (.int .u64 (chainI key parent l)) mem nx
theorem chainPOk:CSound Tryz.prog 44 ctChainP:=⟨by kernel_rfl,fun {C ρ fr mem nx a w vs K} hc hs hv=>by
 obtain⟨v,l,key,parent,rfl,hsrc,hl,hK⟩:=hc
 obtain⟨A,cap,e0,hr⟩:=hs.srcR (enc:=u8C) (sz:=1) (fun _=>rfl) (by omega) hsrc
 have e1:([.int .i64 key,.int .u64 parent,v].map (den ρ)).toArray=#[.int .i64 key,.int .u64 parent,.slice A l.length cap]:=by rw[List.map_cons,List.map_cons,List.map_cons,e0];rfl
 rw[e1]
 refine (chainP_calls A cap l key parent w hl hr).mono ?_
 rintro e w' ⟨rfl,hb⟩
 exact⟨_,mem,nx,ρ,rfl,hK,hs.later hb,trivial,ExtS.refl _ _⟩⟩
theorem chainR_calls (A:Option Addr) (cap:Nat) (l:List Int) (key parent:Int) (w:World) (hl:l.length≤1000000) (hr:Rd w (·<w.heap.size) A (flat u8C l)):Calls Tryz.prog 47 #[.int .i64 key,.int .u64 parent,.slice A l.length cap] w fun e w'=>e=.returned (.int .u64 (chainI key parent l))∧Below w.heap.size w w':=by
 have:=row1_calls (enc:=u8C) (sz:=1) (fun _=>rfl) (by omega) u8C_plain 0 ttAok chRFok Tryz.func47 rfl (D:=chRD) (by kernel_rfl) (vs:=[.int .i64 key,.int .u64 parent,slc 0 l.length cap]) rfl A l w hr (fun v hv=>by
  simp only[List.mem_cons,List.not_mem_nil,or_false] at hv
  rcases hv with rfl | rfl | rfl
  ·trivial
  ·trivial
  ·exact⟨Nat.zero_lt_one,rfl⟩) (chainR_sx cap l key parent hl)
 have e0:([.int .i64 key,.int .u64 parent,slc 0 l.length cap].map (den fun _=>⟨A,1,l.length,false,noSub⟩)).toArray=#[.int .i64 key,.int .u64 parent,.slice A l.length cap]:=by simp[den,den2,den1,dA_whole,dS_whole]
 rw[e0] at this
 refine this.mono ?_
 rintro e w' ⟨v,mem',nx',ρ',rfl,rfl,hv,hm',hb⟩
 exact⟨rfl,hb⟩
def ctChainR:CT:=fun vs mem nx K=>∃ v l key parent,vs=[.int .i64 key,.int .u64 parent,v]∧SrcR mem 1 u8C 0 (l:List Int) v∧l.length≤1000000∧K (.int .u64 (chainI key parent l)) mem nx
theorem chainROk:CSound Tryz.prog 47 ctChainR:=⟨by kernel_rfl,fun {C ρ fr mem nx a w vs K} hc hs hv=>by
 obtain⟨v,l,key,parent,rfl,hsrc,hl,hK⟩:=hc
 obtain⟨A,cap,e0,hr⟩:=hs.srcR (enc:=u8C) (sz:=1) (fun _=>rfl) (by omega) hsrc
 have e1:([.int .i64 key,.int .u64 parent,v].map (den ρ)).toArray=#[.int .i64 key,.int .u64 parent,.slice A l.length cap]:=by rw[List.map_cons,List.map_cons,List.map_cons,e0];rfl
 rw[e1]
 refine (chainR_calls A cap l key parent w hl hr).mono ?_
 rintro e w' ⟨rfl,hb⟩
 exact⟨_,mem,nx,ρ,rfl,hK,hs.later hb,trivial,ExtS.refl _ _⟩⟩
end Go.Proofs.YtbmlgcjoeeejbaaGreat
