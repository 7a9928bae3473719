import Derived.Test.YtchhdflealgkaaaGreatPp15
namespace Go.Proofs.YtchhdflealgkaaaGreat
open Go.RowKit
set_option linter.unusedSimpArgs false
set_option linter.unusedVariables false
/-! state.effect: a state of its own. -/
def ocD:List (Nat×DQ):=[(3,{ k:=9,L:=[15],pre:=[(0,false),(1,false),(2,false),(3,false),(4,false),(5,false),(6,false),(7,false),(8,true)] }),(7,{ k:=9,L:=[15],pre:=[(0,false),(1,false),(2,false),(3,false),(4,false),(5,false),(6,false),(7,false),(8,true)] })]
def otD:List (Nat×DQ):=[(9000000,{ k:=0,L:=[165] }),
 (3,{ k:=13,L:=[15],pre:=[(0,false),(1,false),(2,false),(3,false),(4,false),(5,false),(6,false),(7,false),(8,false),(9,true),(10,false),(11,false),(12,true)] }),
 (17,{ k:=10,L:=[13,14,15],pre:=[(0,false),(1,false),(2,false),(3,false),(4,false),(5,false),(6,false),(7,false),(8,false),(9,false)] }),
 (18,{ k:=12,L:=[13,14,15],pre:=[(0,false),(1,false),(2,false),(3,false),(4,false),(5,false),(6,false),(7,false),(8,false),(9,false),(10,false),(11,false)] })]
def otF:FT:=[(165,ctInl tt [] [] Tryz.f165 (bodyOf Tryz.f165))]
def efF:FT:=[(117,ctCloneT),(118,ctCloneC),(119,ctInl tt [] ocD Tryz.f119 (bodyOf Tryz.f119)),(120,ctInl tt otF otD Tryz.f120 (bodyOf Tryz.f120))]
def efD:List (Nat×DQ):=[(9000000,{ k:=0,L:=[119,120] }),
 (1,{ k:=7,L:=[10],pre:=[(0,false),(1,false),(3,false),(4,false),(2,true),(6,false),(5,true)] }),
 (9,{ k:=6,L:=[10,11,13,14],pre:=[(0,false),(1,false),(2,false),(3,false),(4,false),(5,false)] }),
 (11,{ k:=6,L:=[10,11],pre:=[(0,false),(1,false),(2,false),(3,false),(4,false),(5,false)] }),
 (14,{ k:=6,L:=[10,11],pre:=[(0,false),(1,false),(2,false),(3,false),(4,false),(5,false)] }),
 (15,{ k:=6,L:=[10,11],pre:=[(0,false),(1,false),(2,false),(3,false),(4,false),(5,false)] }),
 (5,{ k:=6,L:=[10,11,13,14],pre:=[(0,false),(1,false),(2,false),(3,false),(4,false),(5,false)] })]
abbrev orRaw2 (a n:Int):Int:=IntKind.i64.wrap ((BitVec.ofInt IntKind.i64.bits a ||| BitVec.ofInt IntKind.i64.bits (IntKind.i64.wrap (1 * 2 ^ min n.toNat IntKind.i64.bits))).toNat:Nat)
abbrev offRaw (a n:Int):Int:=IntKind.i64.wrap ((BitVec.ofInt IntKind.i64.bits a &&& ~~~BitVec.ofInt IntKind.i64.bits (IntKind.i64.wrap (1 * 2 ^ min n.toNat IntKind.i64.bits))).toNat:Nat)
theorem shl_bits2 (n:Int) (h0:0≤n) (h1:n<30):IntKind.i64.wrap (1 * 2 ^ min n.toNat IntKind.i64.bits)=2 ^ n.toNat:=by
 have e2:min n.toNat IntKind.i64.bits=n.toNat:=Nat.min_eq_left (by show n.toNat≤64;omega)
 have hp:(2:Int) ^ n.toNat=((2 ^ n.toNat:Nat):Int):=by simp
 have hq:2 ^ n.toNat<2 ^ 30:=Nat.pow_lt_pow_right (by omega) (by omega)
 rw[e2,Int.one_mul,hp]
 generalize 2 ^ n.toNat=q at hq ⊢
 exact wrapi (by omega)
theorem orRaw2_eq (a n:Int) (h0:0≤a) (h1:a<1073741824) (hn:0≤n) (hn2:n<30):orRaw2 a n=orBit a n:=by
 unfold orRaw2
 rw[shl_bits2 n hn hn2]
 exact i64_orBit a n h0 h1 hn hn2
theorem hasB_bit {a i:Int} (h2:0≤i) (h3:i<4):hasB a i=Nat.testBit a.toNat i.toNat:=by
 unfold hasB bitB
 rw[show decide (0≤i)=true by simpa using h2,show decide (i<62)=true by simp;omega]
 simp
theorem evacOn_eq (a n:Int) (h0:0≤a) (h1:a<16) (hn:0≤n) (hn2:n<4) (hb:hasB a n=false):orRaw2 a n=flipBit a n:=by
 rw[orRaw2_eq a n h0 (by omega) hn (by omega)]
 unfold orBit flipBit
 rw[hasB_bit hn hn2] at hb
 exact congrArg Int.ofNat (evac_or ⟨a.toNat,by omega⟩ ⟨n.toNat,by omega⟩ hb)
theorem evacOff_eq (a n:Int) (h0:0≤a) (h1:a<16) (hn:0≤n) (hn2:n<4) (hb:hasB a n=true):offRaw a n=flipBit a n:=by
 unfold offRaw
 rw[shl_bits2 n hn (by omega)]
 rw[hasB_bit hn hn2] at hb
 obtain⟨k,rfl⟩:=Int.eq_ofNat_of_zero_le h0
 obtain⟨m,rfl⟩:=Int.eq_ofNat_of_zero_le hn
 exact evac_andNot ⟨k,by omega⟩ ⟨m,by omega⟩ hb
set_option maxRecDepth 100000 in
set_option maxHeartbeats 4000000 in
theorem effect_sx (c:Cfg) (y:StK) (s:St) (e:Ent) (hV:CfgV c) (hI:StInv c s) (ha:Acc c s e) :
  sx tt efF efD (bodyOf Tryz.f76) (argF 0 [stV SN1 y s,entV' e]) (rdM noC s noS) 10 (endx tt Tryz.f76.results.toList fun v mem' _=>∃ y2,v=stV ⟨13,14,0⟩ y2 (effOf s e)∧keeps mem' (stMO ⟨13,14,0⟩ (effOf s e))):=by
 have hlt:=hI.lt
 have hlc:=hI.lc
 have hnt:=hV.nt
 have hnc:=hV.nc
 have hnr:=hV.reg
 have hnv:=hV.nv
 have hev:=hI.evac
 have hpv:=hI.proven
 have hct:=hI.count
 have hlh:=hI.low
 refine⟨_,_,s.tenants,rfl,⟨_,_,_,rfl,Nat.le_refl _,fun k hk=>rfl⟩,by omega,?_⟩
 intro cap2
 refine⟨kp_,?_⟩
 refine⟨_,_,s.cells,rfl,⟨_,_,_,rfl,Nat.le_refl _,fun k hk=>rfl⟩,by omega,?_⟩
 intro cap3
 refine⟨kp_,?_⟩
 have hw:IntKind.i64.wrap (s.count+1)=s.count+1:=wrapi (by omega)
 rcases ent_kind ha.ent with hk | hk | hk | hk | hk | hk | hk | hk | hk | hk | hk | hk | hk | hk | hk | hk
 ·have hf:=ha.ent
  simp[entV,entOk,inS,inR,fT,fC,fO,fE,fW,fN,hk] at hf
  repeat (first | refine⟨fun h=>absurd h (by rw[hk];decide),fun _=>?_⟩ | refine⟨fun _=>?_,fun h=>absurd h (by rw[hk];decide)⟩ | refine⟨fun _=>?_,fun h=>Bool.noConfusion h⟩ | refine⟨fun h=>Bool.noConfusion h,fun _=>?_⟩ | fail)
  have hi:e.tenant.toNat<s.tenants.length:=by omega
  refine⟨⟨Nat.le_refl _,by omega,by omega⟩,?_⟩
  repeat (first | refine⟨fun h=>absurd h (by rw[hk];decide),fun _=>?_⟩ | refine⟨fun _=>?_,fun h=>absurd h (by rw[hk];decide)⟩ | refine⟨fun _=>?_,fun h=>Bool.noConfusion h⟩ | refine⟨fun h=>Bool.noConfusion h,fun _=>?_⟩ | fail)
  refine⟨tsC { (s.tenants.getD e.tenant.toNat default) with placed:=true },(by first | rfl | (show putN _ _ (tsC (List.getD _ _ _))=_;rw[getD_set hi];rfl)),?_⟩
  rw[setEl_set (by first | exact hi | (rw[List.length_set];exact hi))]
  try rw[List.set_set]
  refine⟨kp_,?_⟩
  refine⟨tsC { (s.tenants.getD e.tenant.toNat default) with placed:=true,home:=e.cell },(by first | rfl | (show putN _ _ (tsC (List.getD _ _ _))=_;rw[getD_set hi];rfl)),?_⟩
  rw[setEl_set (by first | exact hi | (rw[List.length_set];exact hi))]
  try rw[List.set_set]
  refine⟨kp_,?_⟩
  refine⟨tsC { (s.tenants.getD e.tenant.toNat default) with placed:=true,home:=e.cell,standby:=e.other },(by first | rfl | (show putN _ _ (tsC (List.getD _ _ _))=_;rw[getD_set hi];rfl)),?_⟩
  rw[setEl_set (by first | exact hi | (rw[List.length_set];exact hi))]
  try rw[List.set_set]
  have hef:effOf s e=(⟨e.tick,s.count+1,s.tenants.set e.tenant.toNat { (s.tenants.getD e.tenant.toNat default) with placed:=true,home:=e.cell,standby:=e.other },s.cells,s.proven,s.evac,s.low,s.high⟩:St):=by simp[effOf,stamped,setCel,setTen,celEff,tenEff,tsAt,csAt,hk]
  rw[hef]
  refine⟨⟨cap2,cap3⟩,(by (first | rw[hw,hwh] | rw[hw]);first | rfl | simp),(by first | exact rfl | (show some (ABlk.row _ _ s.tenants.length _)=some (ABlk.row _ _ (List.set _ _ _).length _);rw[List.length_set];try rfl)),(by first | exact rfl | (show some (ABlk.row _ _ s.cells.length _)=some (ABlk.row _ _ (List.set _ _ _).length _);rw[List.length_set])),trivial⟩
 ·have hf:=ha.ent
  simp[entV,entOk,inS,inR,fT,fC,fO,fE,fW,fN,hk] at hf
  repeat (first | refine⟨fun h=>absurd h (by rw[hk];decide),fun _=>?_⟩ | refine⟨fun _=>?_,fun h=>absurd h (by rw[hk];decide)⟩ | refine⟨fun _=>?_,fun h=>Bool.noConfusion h⟩ | refine⟨fun h=>Bool.noConfusion h,fun _=>?_⟩ | fail)
  have hi:e.tenant.toNat<s.tenants.length:=by omega
  refine⟨⟨Nat.le_refl _,by omega,by omega⟩,?_⟩
  repeat (first | refine⟨fun h=>absurd h (by rw[hk];decide),fun _=>?_⟩ | refine⟨fun _=>?_,fun h=>absurd h (by rw[hk];decide)⟩ | refine⟨fun _=>?_,fun h=>Bool.noConfusion h⟩ | refine⟨fun h=>Bool.noConfusion h,fun _=>?_⟩ | fail)
  refine⟨tsC { (s.tenants.getD e.tenant.toNat default) with win:=⟨e.cell,e.epoch,e.n,e.since,e.till⟩ },(by first | rfl | (show putN _ _ (tsC (List.getD _ _ _))=_;rw[getD_set hi];rfl)),?_⟩
  rw[setEl_set (by first | exact hi | (rw[List.length_set];exact hi))]
  try rw[List.set_set]
  refine⟨tsC { (s.tenants.getD e.tenant.toNat default) with win:=⟨e.cell,e.epoch,e.n,e.since,e.till⟩,epoch:=e.epoch },(by first | rfl | (show putN _ _ (tsC (List.getD _ _ _))=_;rw[getD_set hi];rfl)),?_⟩
  rw[setEl_set (by first | exact hi | (rw[List.length_set];exact hi))]
  try rw[List.set_set]
  refine⟨fun q1=>?_,fun q1=>?_⟩
  ·change (e.cell==((s.tenants.set e.tenant.toNat { (s.tenants.getD e.tenant.toNat default) with win:=⟨e.cell,e.epoch,e.n,e.since,e.till⟩,epoch:=e.epoch }).getD e.tenant.toNat default).home)=true at q1
   rw[getD_set hi] at q1
   repeat (first | refine⟨fun h=>absurd h (by rw[hk];decide),fun _=>?_⟩ | refine⟨fun _=>?_,fun h=>absurd h (by rw[hk];decide)⟩ | refine⟨fun _=>?_,fun h=>Bool.noConfusion h⟩ | refine⟨fun h=>Bool.noConfusion h,fun _=>?_⟩ | fail)
   have e1:e.cell=(s.tenants.getD e.tenant.toNat default).home:=by simpa using q1
   have hef:effOf s e=(⟨e.tick,s.count+1,s.tenants.set e.tenant.toNat { (s.tenants.getD e.tenant.toNat default) with win:=⟨e.cell,e.epoch,e.n,e.since,e.till⟩,epoch:=e.epoch },s.cells,s.proven,s.evac,s.low,s.high⟩:St):=by
    unfold effOf stamped setTen tenEff grantT tsAt
    simp only[hk]
    grind
   rw[hef]
   refine⟨⟨cap2,cap3⟩,(by (first | rw[hw,hwh] | rw[hw]);first | rfl | simp),(by first | exact rfl | (show some (ABlk.row _ _ s.tenants.length _)=some (ABlk.row _ _ (List.set _ _ _).length _);rw[List.length_set];try rfl)),(by first | exact rfl | (show some (ABlk.row _ _ s.cells.length _)=some (ABlk.row _ _ (List.set _ _ _).length _);rw[List.length_set])),trivial⟩
  ·change (e.cell==((s.tenants.set e.tenant.toNat { (s.tenants.getD e.tenant.toNat default) with win:=⟨e.cell,e.epoch,e.n,e.since,e.till⟩,epoch:=e.epoch }).getD e.tenant.toNat default).home)=false at q1
   rw[getD_set hi] at q1
   have e1:¬ e.cell=(s.tenants.getD e.tenant.toNat default).home:=by simpa using q1
   repeat (first | refine⟨fun h=>absurd h (by rw[hk];decide),fun _=>?_⟩ | refine⟨fun _=>?_,fun h=>absurd h (by rw[hk];decide)⟩ | refine⟨fun _=>?_,fun h=>Bool.noConfusion h⟩ | refine⟨fun h=>Bool.noConfusion h,fun _=>?_⟩ | fail)
   refine⟨fun q2=>?_,fun q2=>?_⟩
   ·change (e.cell==((s.tenants.set e.tenant.toNat { (s.tenants.getD e.tenant.toNat default) with win:=⟨e.cell,e.epoch,e.n,e.since,e.till⟩,epoch:=e.epoch }).getD e.tenant.toNat default).standby)=true at q2
    rw[getD_set hi] at q2
    repeat (first | refine⟨fun h=>absurd h (by rw[hk];decide),fun _=>?_⟩ | refine⟨fun _=>?_,fun h=>absurd h (by rw[hk];decide)⟩ | refine⟨fun _=>?_,fun h=>Bool.noConfusion h⟩ | refine⟨fun h=>Bool.noConfusion h,fun _=>?_⟩ | fail)
    refine⟨tsC { (s.tenants.getD e.tenant.toNat default) with win:=⟨e.cell,e.epoch,e.n,e.since,e.till⟩,epoch:=e.epoch,home:=e.cell },(by first | rfl | (show putN _ _ (tsC (List.getD _ _ _))=_;rw[getD_set hi];rfl)),?_⟩
    rw[setEl_set (by first | exact hi | (rw[List.length_set];exact hi))]
    try rw[List.set_set]
    refine⟨tsC { (s.tenants.getD e.tenant.toNat default) with win:=⟨e.cell,e.epoch,e.n,e.since,e.till⟩,epoch:=e.epoch,home:=e.cell,standby:=-1 },(by first | rfl | (show putN _ _ (tsC (List.getD _ _ _))=_;rw[getD_set hi];rfl)),?_⟩
    rw[setEl_set (by first | exact hi | (rw[List.length_set];exact hi))]
    try rw[List.set_set]
    refine⟨tsC { (s.tenants.getD e.tenant.toNat default) with win:=⟨e.cell,e.epoch,e.n,e.since,e.till⟩,epoch:=e.epoch,home:=e.cell,standby:=-1,next:=-1 },(by first | rfl | (show putN _ _ (tsC (List.getD _ _ _))=_;rw[getD_set hi];rfl)),?_⟩
    rw[setEl_set (by first | exact hi | (rw[List.length_set];exact hi))]
    try rw[List.set_set]
    refine⟨tsC { (s.tenants.getD e.tenant.toNat default) with win:=⟨e.cell,e.epoch,e.n,e.since,e.till⟩,epoch:=e.epoch,home:=e.cell,standby:=-1,next:=-1,target:=-1 },(by first | rfl | (show putN _ _ (tsC (List.getD _ _ _))=_;rw[getD_set hi];rfl)),?_⟩
    rw[setEl_set (by first | exact hi | (rw[List.length_set];exact hi))]
    try rw[List.set_set]
    refine⟨tsC { (s.tenants.getD e.tenant.toNat default) with win:=⟨e.cell,e.epoch,e.n,e.since,e.till⟩,epoch:=e.epoch,home:=e.cell,standby:=-1,next:=-1,target:=-1,shed:=false },(by first | rfl | (show putN _ _ (tsC (List.getD _ _ _))=_;rw[getD_set hi];rfl)),?_⟩
    rw[setEl_set (by first | exact hi | (rw[List.length_set];exact hi))]
    try rw[List.set_set]
    have e2:e.cell=(s.tenants.getD e.tenant.toNat default).standby:=by simpa using q2
    have hef:effOf s e=(⟨e.tick,s.count+1,s.tenants.set e.tenant.toNat { (s.tenants.getD e.tenant.toNat default) with win:=⟨e.cell,e.epoch,e.n,e.since,e.till⟩,epoch:=e.epoch,home:=e.cell,standby:=-1,next:=-1,target:=-1,shed:=false },s.cells,s.proven,s.evac,s.low,s.high⟩:St):=by
     unfold effOf stamped setTen tenEff grantT tsAt
     simp only[hk]
     grind
    rw[hef]
    refine⟨⟨cap2,cap3⟩,(by (first | rw[hw,hwh] | rw[hw]);first | rfl | simp),(by first | exact rfl | (show some (ABlk.row _ _ s.tenants.length _)=some (ABlk.row _ _ (List.set _ _ _).length _);rw[List.length_set];try rfl)),(by first | exact rfl | (show some (ABlk.row _ _ s.cells.length _)=some (ABlk.row _ _ (List.set _ _ _).length _);rw[List.length_set])),trivial⟩
   ·change (e.cell==((s.tenants.set e.tenant.toNat { (s.tenants.getD e.tenant.toNat default) with win:=⟨e.cell,e.epoch,e.n,e.since,e.till⟩,epoch:=e.epoch }).getD e.tenant.toNat default).standby)=false at q2
    rw[getD_set hi] at q2
    have e2:¬ e.cell=(s.tenants.getD e.tenant.toNat default).standby:=by simpa using q2
    repeat (first | refine⟨fun h=>absurd h (by rw[hk];decide),fun _=>?_⟩ | refine⟨fun _=>?_,fun h=>absurd h (by rw[hk];decide)⟩ | refine⟨fun _=>?_,fun h=>Bool.noConfusion h⟩ | refine⟨fun h=>Bool.noConfusion h,fun _=>?_⟩ | fail)
    refine⟨fun q3=>?_,fun q3=>?_⟩
    ·change (e.cell==((s.tenants.set e.tenant.toNat { (s.tenants.getD e.tenant.toNat default) with win:=⟨e.cell,e.epoch,e.n,e.since,e.till⟩,epoch:=e.epoch }).getD e.tenant.toNat default).target)=true at q3
     rw[getD_set hi] at q3
     repeat (first | refine⟨fun h=>absurd h (by rw[hk];decide),fun _=>?_⟩ | refine⟨fun _=>?_,fun h=>absurd h (by rw[hk];decide)⟩ | refine⟨fun _=>?_,fun h=>Bool.noConfusion h⟩ | refine⟨fun h=>Bool.noConfusion h,fun _=>?_⟩ | fail)
     refine⟨tsC { (s.tenants.getD e.tenant.toNat default) with win:=⟨e.cell,e.epoch,e.n,e.since,e.till⟩,epoch:=e.epoch,home:=e.cell },(by first | rfl | (show putN _ _ (tsC (List.getD _ _ _))=_;rw[getD_set hi];rfl)),?_⟩
     rw[setEl_set (by first | exact hi | (rw[List.length_set];exact hi))]
     try rw[List.set_set]
     refine⟨tsC { (s.tenants.getD e.tenant.toNat default) with win:=⟨e.cell,e.epoch,e.n,e.since,e.till⟩,epoch:=e.epoch,home:=e.cell,target:=-1 },(by first | rfl | (show putN _ _ (tsC (List.getD _ _ _))=_;rw[getD_set hi];rfl)),?_⟩
     rw[setEl_set (by first | exact hi | (rw[List.length_set];exact hi))]
     try rw[List.set_set]
     have e3:e.cell=(s.tenants.getD e.tenant.toNat default).target:=by simpa using q3
     have hef:effOf s e=(⟨e.tick,s.count+1,s.tenants.set e.tenant.toNat { (s.tenants.getD e.tenant.toNat default) with win:=⟨e.cell,e.epoch,e.n,e.since,e.till⟩,epoch:=e.epoch,home:=e.cell,target:=-1 },s.cells,s.proven,s.evac,s.low,s.high⟩:St):=by
      unfold effOf stamped setTen tenEff grantT tsAt
      simp only[hk]
      grind
     rw[hef]
     refine⟨⟨cap2,cap3⟩,(by (first | rw[hw,hwh] | rw[hw]);first | rfl | simp),(by first | exact rfl | (show some (ABlk.row _ _ s.tenants.length _)=some (ABlk.row _ _ (List.set _ _ _).length _);rw[List.length_set];try rfl)),(by first | exact rfl | (show some (ABlk.row _ _ s.cells.length _)=some (ABlk.row _ _ (List.set _ _ _).length _);rw[List.length_set])),trivial⟩
    ·change (e.cell==((s.tenants.set e.tenant.toNat { (s.tenants.getD e.tenant.toNat default) with win:=⟨e.cell,e.epoch,e.n,e.since,e.till⟩,epoch:=e.epoch }).getD e.tenant.toNat default).target)=false at q3
     rw[getD_set hi] at q3
     exfalso
     have e3:¬ e.cell=(s.tenants.getD e.tenant.toNat default).target:=by simpa using q3
     have hke:=ha.kind
     rw[show kindE c s e=grantE c s e by unfold kindE;simp[hk]] at hke
     unfold grantE tsAt at hke
     grind
 ·have hf:=ha.ent
  simp[entV,entOk,inS,inR,fT,fC,fO,fE,fW,fN,hk] at hf
  repeat (first | refine⟨fun h=>absurd h (by rw[hk];decide),fun _=>?_⟩ | refine⟨fun _=>?_,fun h=>absurd h (by rw[hk];decide)⟩ | refine⟨fun _=>?_,fun h=>Bool.noConfusion h⟩ | refine⟨fun h=>Bool.noConfusion h,fun _=>?_⟩ | fail)
  have hi:e.tenant.toNat<s.tenants.length:=by omega
  refine⟨⟨Nat.le_refl _,by omega,by omega⟩,?_⟩
  repeat (first | refine⟨fun h=>absurd h (by rw[hk];decide),fun _=>?_⟩ | refine⟨fun _=>?_,fun h=>absurd h (by rw[hk];decide)⟩ | refine⟨fun _=>?_,fun h=>Bool.noConfusion h⟩ | refine⟨fun h=>Bool.noConfusion h,fun _=>?_⟩ | fail)
  refine⟨tsC { (s.tenants.getD e.tenant.toNat default) with win:={ (s.tenants.getD e.tenant.toNat default).win with till:=(if IntKind.i64.wrap (e.tick+1)<(s.tenants.getD e.tenant.toNat default).win.till then IntKind.i64.wrap (e.tick+1) else (s.tenants.getD e.tenant.toNat default).win.till) } },(by first | rfl | (show putN _ _ (tsC (List.getD _ _ _))=_;rw[getD_set hi];rfl)),?_⟩
  rw[setEl_set (by first | exact hi | (rw[List.length_set];exact hi))]
  try rw[List.set_set]
  refine⟨tsC { (s.tenants.getD e.tenant.toNat default) with win:={ (s.tenants.getD e.tenant.toNat default).win with till:=(if IntKind.i64.wrap (e.tick+1)<(s.tenants.getD e.tenant.toNat default).win.till then IntKind.i64.wrap (e.tick+1) else (s.tenants.getD e.tenant.toNat default).win.till),since:=(if (if IntKind.i64.wrap (e.tick+1)<(s.tenants.getD e.tenant.toNat default).win.till then IntKind.i64.wrap (e.tick+1) else (s.tenants.getD e.tenant.toNat default).win.till)<(s.tenants.getD e.tenant.toNat default).win.since then (if IntKind.i64.wrap (e.tick+1)<(s.tenants.getD e.tenant.toNat default).win.till then IntKind.i64.wrap (e.tick+1) else (s.tenants.getD e.tenant.toNat default).win.till) else (s.tenants.getD e.tenant.toNat default).win.since) } },(by first | rfl | (show putN _ _ (tsC (List.getD _ _ _))=_;rw[getD_set hi];rfl)),?_⟩
  rw[setEl_set (by first | exact hi | (rw[List.length_set];exact hi))]
  try rw[List.set_set]
  have hwr:IntKind.i64.wrap (e.tick+1)=e.tick+1:=wrapi (by omega)
  have hR:(if IntKind.i64.wrap (e.tick+1)<(s.tenants.getD e.tenant.toNat default).win.till then IntKind.i64.wrap (e.tick+1) else (s.tenants.getD e.tenant.toNat default).win.till)=min (s.tenants.getD e.tenant.toNat default).win.till (e.tick+1):=by rw[hwr];grind
  have hS:(if min (s.tenants.getD e.tenant.toNat default).win.till (e.tick+1)<(s.tenants.getD e.tenant.toNat default).win.since then min (s.tenants.getD e.tenant.toNat default).win.till (e.tick+1) else (s.tenants.getD e.tenant.toNat default).win.since)=min (s.tenants.getD e.tenant.toNat default).win.since (min (s.tenants.getD e.tenant.toNat default).win.till (e.tick+1)):=by grind
  rw[hR,hS]
  have hef:effOf s e=(⟨e.tick,s.count+1,s.tenants.set e.tenant.toNat { (s.tenants.getD e.tenant.toNat default) with win:=cutW (s.tenants.getD e.tenant.toNat default).win e.tick },s.cells,s.proven,s.evac,s.low,s.high⟩:St):=by simp[effOf,stamped,setCel,setTen,celEff,tenEff,tsAt,csAt,hk]
  rw[hef]
  refine⟨⟨cap2,cap3⟩,(by (first | rw[hw,hwh] | rw[hw]);first | rfl | simp),(by first | exact rfl | (show some (ABlk.row _ _ s.tenants.length _)=some (ABlk.row _ _ (List.set _ _ _).length _);rw[List.length_set];try rfl)),(by first | exact rfl | (show some (ABlk.row _ _ s.cells.length _)=some (ABlk.row _ _ (List.set _ _ _).length _);rw[List.length_set])),trivial⟩
 ·have hf:=ha.ent
  simp[entV,entOk,inS,inR,fT,fC,fO,fE,fW,fN,hk] at hf
  repeat (first | refine⟨fun h=>absurd h (by rw[hk];decide),fun _=>?_⟩ | refine⟨fun _=>?_,fun h=>absurd h (by rw[hk];decide)⟩ | refine⟨fun _=>?_,fun h=>Bool.noConfusion h⟩ | refine⟨fun h=>Bool.noConfusion h,fun _=>?_⟩ | fail)
  have hi:e.tenant.toNat<s.tenants.length:=by omega
  refine⟨⟨Nat.le_refl _,by omega,by omega⟩,?_⟩
  repeat (first | refine⟨fun h=>absurd h (by rw[hk];decide),fun _=>?_⟩ | refine⟨fun _=>?_,fun h=>absurd h (by rw[hk];decide)⟩ | refine⟨fun _=>?_,fun h=>Bool.noConfusion h⟩ | refine⟨fun h=>Bool.noConfusion h,fun _=>?_⟩ | fail)
  refine⟨tsC { (s.tenants.getD e.tenant.toNat default) with next:=e.cell },(by first | rfl | (show putN _ _ (tsC (List.getD _ _ _))=_;rw[getD_set hi];rfl)),?_⟩
  rw[setEl_set (by first | exact hi | (rw[List.length_set];exact hi))]
  try rw[List.set_set]
  have hef:effOf s e=(⟨e.tick,s.count+1,s.tenants.set e.tenant.toNat { (s.tenants.getD e.tenant.toNat default) with next:=e.cell },s.cells,s.proven,s.evac,s.low,s.high⟩:St):=by simp[effOf,stamped,setCel,setTen,celEff,tenEff,tsAt,csAt,hk]
  rw[hef]
  refine⟨⟨cap2,cap3⟩,(by (first | rw[hw,hwh] | rw[hw]);first | rfl | simp),(by first | exact rfl | (show some (ABlk.row _ _ s.tenants.length _)=some (ABlk.row _ _ (List.set _ _ _).length _);rw[List.length_set];try rfl)),(by first | exact rfl | (show some (ABlk.row _ _ s.cells.length _)=some (ABlk.row _ _ (List.set _ _ _).length _);rw[List.length_set])),trivial⟩
 ·have hf:=ha.ent
  simp[entV,entOk,inS,inR,fT,fC,fO,fE,fW,fN,hk] at hf
  repeat (first | refine⟨fun h=>absurd h (by rw[hk];decide),fun _=>?_⟩ | refine⟨fun _=>?_,fun h=>absurd h (by rw[hk];decide)⟩ | refine⟨fun _=>?_,fun h=>Bool.noConfusion h⟩ | refine⟨fun h=>Bool.noConfusion h,fun _=>?_⟩ | fail)
  have hi:e.tenant.toNat<s.tenants.length:=by omega
  refine⟨⟨Nat.le_refl _,by omega,by omega⟩,?_⟩
  repeat (first | refine⟨fun h=>absurd h (by rw[hk];decide),fun _=>?_⟩ | refine⟨fun _=>?_,fun h=>absurd h (by rw[hk];decide)⟩ | refine⟨fun _=>?_,fun h=>Bool.noConfusion h⟩ | refine⟨fun h=>Bool.noConfusion h,fun _=>?_⟩ | fail)
  refine⟨tsC { (s.tenants.getD e.tenant.toNat default) with standby:=e.cell },(by first | rfl | (show putN _ _ (tsC (List.getD _ _ _))=_;rw[getD_set hi];rfl)),?_⟩
  rw[setEl_set (by first | exact hi | (rw[List.length_set];exact hi))]
  try rw[List.set_set]
  refine⟨tsC { (s.tenants.getD e.tenant.toNat default) with standby:=e.cell,next:=-1 },(by first | rfl | (show putN _ _ (tsC (List.getD _ _ _))=_;rw[getD_set hi];rfl)),?_⟩
  rw[setEl_set (by first | exact hi | (rw[List.length_set];exact hi))]
  try rw[List.set_set]
  have hef:effOf s e=(⟨e.tick,s.count+1,s.tenants.set e.tenant.toNat { (s.tenants.getD e.tenant.toNat default) with standby:=e.cell,next:=-1 },s.cells,s.proven,s.evac,s.low,s.high⟩:St):=by simp[effOf,stamped,setCel,setTen,celEff,tenEff,tsAt,csAt,hk]
  rw[hef]
  refine⟨⟨cap2,cap3⟩,(by (first | rw[hw,hwh] | rw[hw]);first | rfl | simp),(by first | exact rfl | (show some (ABlk.row _ _ s.tenants.length _)=some (ABlk.row _ _ (List.set _ _ _).length _);rw[List.length_set];try rfl)),(by first | exact rfl | (show some (ABlk.row _ _ s.cells.length _)=some (ABlk.row _ _ (List.set _ _ _).length _);rw[List.length_set])),trivial⟩
 ·have hf:=ha.ent
  simp[entV,entOk,inS,inR,fT,fC,fO,fE,fW,fN,hk] at hf
  repeat (first | refine⟨fun h=>absurd h (by rw[hk];decide),fun _=>?_⟩ | refine⟨fun _=>?_,fun h=>absurd h (by rw[hk];decide)⟩ | refine⟨fun _=>?_,fun h=>Bool.noConfusion h⟩ | refine⟨fun h=>Bool.noConfusion h,fun _=>?_⟩ | fail)
  have hi:e.tenant.toNat<s.tenants.length:=by omega
  refine⟨⟨Nat.le_refl _,by omega,by omega⟩,?_⟩
  repeat (first | refine⟨fun h=>absurd h (by rw[hk];decide),fun _=>?_⟩ | refine⟨fun _=>?_,fun h=>absurd h (by rw[hk];decide)⟩ | refine⟨fun _=>?_,fun h=>Bool.noConfusion h⟩ | refine⟨fun h=>Bool.noConfusion h,fun _=>?_⟩ | fail)
  refine⟨tsC { (s.tenants.getD e.tenant.toNat default) with target:=e.cell },(by first | rfl | (show putN _ _ (tsC (List.getD _ _ _))=_;rw[getD_set hi];rfl)),?_⟩
  rw[setEl_set (by first | exact hi | (rw[List.length_set];exact hi))]
  try rw[List.set_set]
  have hef:effOf s e=(⟨e.tick,s.count+1,s.tenants.set e.tenant.toNat { (s.tenants.getD e.tenant.toNat default) with target:=e.cell },s.cells,s.proven,s.evac,s.low,s.high⟩:St):=by simp[effOf,stamped,setCel,setTen,celEff,tenEff,tsAt,csAt,hk]
  rw[hef]
  refine⟨⟨cap2,cap3⟩,(by (first | rw[hw,hwh] | rw[hw]);first | rfl | simp),(by first | exact rfl | (show some (ABlk.row _ _ s.tenants.length _)=some (ABlk.row _ _ (List.set _ _ _).length _);rw[List.length_set];try rfl)),(by first | exact rfl | (show some (ABlk.row _ _ s.cells.length _)=some (ABlk.row _ _ (List.set _ _ _).length _);rw[List.length_set])),trivial⟩
 ·have hf:=ha.ent
  simp[entV,entOk,inS,inR,fT,fC,fO,fE,fW,fN,hk] at hf
  repeat (first | refine⟨fun h=>absurd h (by rw[hk];decide),fun _=>?_⟩ | refine⟨fun _=>?_,fun h=>absurd h (by rw[hk];decide)⟩ | refine⟨fun _=>?_,fun h=>Bool.noConfusion h⟩ | refine⟨fun h=>Bool.noConfusion h,fun _=>?_⟩ | fail)
  have hi:e.tenant.toNat<s.tenants.length:=by omega
  refine⟨⟨Nat.le_refl _,by omega,by omega⟩,?_⟩
  repeat (first | refine⟨fun h=>absurd h (by rw[hk];decide),fun _=>?_⟩ | refine⟨fun _=>?_,fun h=>absurd h (by rw[hk];decide)⟩ | refine⟨fun _=>?_,fun h=>Bool.noConfusion h⟩ | refine⟨fun h=>Bool.noConfusion h,fun _=>?_⟩ | fail)
  refine⟨tsC { (s.tenants.getD e.tenant.toNat default) with target:=-1 },(by first | rfl | (show putN _ _ (tsC (List.getD _ _ _))=_;rw[getD_set hi];rfl)),?_⟩
  rw[setEl_set (by first | exact hi | (rw[List.length_set];exact hi))]
  try rw[List.set_set]
  have hef:effOf s e=(⟨e.tick,s.count+1,s.tenants.set e.tenant.toNat { (s.tenants.getD e.tenant.toNat default) with target:=-1 },s.cells,s.proven,s.evac,s.low,s.high⟩:St):=by simp[effOf,stamped,setCel,setTen,celEff,tenEff,tsAt,csAt,hk]
  rw[hef]
  refine⟨⟨cap2,cap3⟩,(by (first | rw[hw,hwh] | rw[hw]);first | rfl | simp),(by first | exact rfl | (show some (ABlk.row _ _ s.tenants.length _)=some (ABlk.row _ _ (List.set _ _ _).length _);rw[List.length_set];try rfl)),(by first | exact rfl | (show some (ABlk.row _ _ s.cells.length _)=some (ABlk.row _ _ (List.set _ _ _).length _);rw[List.length_set])),trivial⟩
 ·have hf:=ha.ent
  simp[entV,entOk,inS,inR,fT,fC,fO,fE,fW,fN,hk] at hf
  repeat (first | refine⟨fun h=>absurd h (by rw[hk];decide),fun _=>?_⟩ | refine⟨fun _=>?_,fun h=>absurd h (by rw[hk];decide)⟩ | refine⟨fun _=>?_,fun h=>Bool.noConfusion h⟩ | refine⟨fun h=>Bool.noConfusion h,fun _=>?_⟩ | fail)
  have hi:e.tenant.toNat<s.tenants.length:=by omega
  refine⟨⟨Nat.le_refl _,by omega,by omega⟩,?_⟩
  repeat (first | refine⟨fun h=>absurd h (by rw[hk];decide),fun _=>?_⟩ | refine⟨fun _=>?_,fun h=>absurd h (by rw[hk];decide)⟩ | refine⟨fun _=>?_,fun h=>Bool.noConfusion h⟩ | refine⟨fun h=>Bool.noConfusion h,fun _=>?_⟩ | fail)
  refine⟨tsC { (s.tenants.getD e.tenant.toNat default) with shed:=(e.n==1) },(by first | rfl | (show putN _ _ (tsC (List.getD _ _ _))=_;rw[getD_set hi];rfl)),?_⟩
  rw[setEl_set (by first | exact hi | (rw[List.length_set];exact hi))]
  try rw[List.set_set]
  refine⟨fun h8=>?_,fun h8=>?_⟩
  ·change ((s.tenants.set e.tenant.toNat { (s.tenants.getD e.tenant.toNat default) with shed:=(e.n==1) }).getD e.tenant.toNat default).shed=true at h8
   rw[getD_set hi] at h8
   have hn:e.n=1:=by simpa using h8
   refine⟨tsC { (s.tenants.getD e.tenant.toNat default) with shed:=(e.n==1),target:=-1 },(by first | rfl | (show putN _ _ (tsC (List.getD _ _ _))=_;rw[getD_set hi];rfl)),?_⟩
   rw[setEl_set (by first | exact hi | (rw[List.length_set];exact hi))]
   try rw[List.set_set]
   rw[show (e.n==1)=true by rw[hn];rfl]
   have hef:effOf s e=(⟨e.tick,s.count+1,s.tenants.set e.tenant.toNat { (s.tenants.getD e.tenant.toNat default) with shed:=true,target:=-1 },s.cells,s.proven,s.evac,s.low,s.high⟩:St):=by simp[effOf,stamped,setCel,setTen,celEff,tenEff,tsAt,csAt,hk,hn]
   rw[hef]
   refine⟨⟨cap2,cap3⟩,(by (first | rw[hw,hwh] | rw[hw]);first | rfl | simp),(by first | exact rfl | (show some (ABlk.row _ _ s.tenants.length _)=some (ABlk.row _ _ (List.set _ _ _).length _);rw[List.length_set];try rfl)),(by first | exact rfl | (show some (ABlk.row _ _ s.cells.length _)=some (ABlk.row _ _ (List.set _ _ _).length _);rw[List.length_set])),trivial⟩
  ·change ((s.tenants.set e.tenant.toNat { (s.tenants.getD e.tenant.toNat default) with shed:=(e.n==1) }).getD e.tenant.toNat default).shed=false at h8
   rw[getD_set hi] at h8
   have hn:¬ e.n=1:=by simpa using h8
   rw[show (e.n==1)=false by simp[hn]]
   have hef:effOf s e=(⟨e.tick,s.count+1,s.tenants.set e.tenant.toNat { (s.tenants.getD e.tenant.toNat default) with shed:=false },s.cells,s.proven,s.evac,s.low,s.high⟩:St):=by simp[effOf,stamped,setCel,setTen,celEff,tenEff,tsAt,csAt,hk,hn]
   rw[hef]
   refine⟨⟨cap2,cap3⟩,(by (first | rw[hw,hwh] | rw[hw]);first | rfl | simp),(by first | exact rfl | (show some (ABlk.row _ _ s.tenants.length _)=some (ABlk.row _ _ (List.set _ _ _).length _);rw[List.length_set];try rfl)),(by first | exact rfl | (show some (ABlk.row _ _ s.cells.length _)=some (ABlk.row _ _ (List.set _ _ _).length _);rw[List.length_set])),trivial⟩
 ·have hf:=ha.ent
  simp[entV,entOk,inS,inR,fT,fC,fO,fE,fW,fN,hk] at hf
  repeat (first | refine⟨fun h=>absurd h (by rw[hk];decide),fun _=>?_⟩ | refine⟨fun _=>?_,fun h=>absurd h (by rw[hk];decide)⟩ | refine⟨fun _=>?_,fun h=>Bool.noConfusion h⟩ | refine⟨fun h=>Bool.noConfusion h,fun _=>?_⟩ | fail)
  have hi:e.cell.toNat<s.cells.length:=by omega
  refine⟨⟨Nat.le_refl _,by omega,by omega⟩,?_⟩
  repeat (first | refine⟨fun h=>absurd h (by rw[hk];decide),fun _=>?_⟩ | refine⟨fun _=>?_,fun h=>absurd h (by rw[hk];decide)⟩ | refine⟨fun _=>?_,fun h=>Bool.noConfusion h⟩ | refine⟨fun h=>Bool.noConfusion h,fun _=>?_⟩ | fail)
  refine⟨csC { (s.cells.getD e.cell.toNat default) with mode:=e.n },(by first | rfl | (show putN _ _ (csC (List.getD _ _ _))=_;rw[getD_set hi];rfl)),?_⟩
  rw[setEl_set (by first | exact hi | (rw[List.length_set];exact hi))]
  try rw[List.set_set]
  refine⟨kp_,?_⟩
  refine⟨csC { (s.cells.getD e.cell.toNat default) with mode:=e.n,since:=e.tick },(by first | rfl | (show putN _ _ (csC (List.getD _ _ _))=_;rw[getD_set hi];rfl)),?_⟩
  rw[setEl_set (by first | exact hi | (rw[List.length_set];exact hi))]
  try rw[List.set_set]
  have hef:effOf s e=(⟨e.tick,s.count+1,s.tenants,s.cells.set e.cell.toNat { (s.cells.getD e.cell.toNat default) with mode:=e.n,since:=e.tick },s.proven,s.evac,s.low,s.high⟩:St):=by simp[effOf,stamped,setCel,setTen,celEff,tenEff,tsAt,csAt,hk]
  rw[hef]
  refine⟨⟨cap2,cap3⟩,(by (first | rw[hw,hwh] | rw[hw]);first | rfl | simp),(by first | exact rfl | (show some (ABlk.row _ _ s.tenants.length _)=some (ABlk.row _ _ (List.set _ _ _).length _);rw[List.length_set];try rfl)),(by first | exact rfl | (show some (ABlk.row _ _ s.cells.length _)=some (ABlk.row _ _ (List.set _ _ _).length _);rw[List.length_set])),trivial⟩
 ·have hf:=ha.ent
  simp[entV,entOk,inS,inR,fT,fC,fO,fE,fW,fN,hk] at hf
  repeat (first | refine⟨fun h=>absurd h (by rw[hk];decide),fun _=>?_⟩ | refine⟨fun _=>?_,fun h=>absurd h (by rw[hk];decide)⟩ | refine⟨fun _=>?_,fun h=>Bool.noConfusion h⟩ | refine⟨fun h=>Bool.noConfusion h,fun _=>?_⟩ | fail)
  have hi:e.cell.toNat<s.cells.length:=by omega
  refine⟨⟨Nat.le_refl _,by omega,by omega⟩,?_⟩
  repeat (first | refine⟨fun h=>absurd h (by rw[hk];decide),fun _=>?_⟩ | refine⟨fun _=>?_,fun h=>absurd h (by rw[hk];decide)⟩ | refine⟨fun _=>?_,fun h=>Bool.noConfusion h⟩ | refine⟨fun h=>Bool.noConfusion h,fun _=>?_⟩ | fail)
  refine⟨csC { (s.cells.getD e.cell.toNat default) with wanted:=e.n },(by first | rfl | (show putN _ _ (csC (List.getD _ _ _))=_;rw[getD_set hi];rfl)),?_⟩
  rw[setEl_set (by first | exact hi | (rw[List.length_set];exact hi))]
  try rw[List.set_set]
  have hef:effOf s e=(⟨e.tick,s.count+1,s.tenants,s.cells.set e.cell.toNat { (s.cells.getD e.cell.toNat default) with wanted:=e.n },s.proven,s.evac,s.low,s.high⟩:St):=by simp[effOf,stamped,setCel,setTen,celEff,tenEff,tsAt,csAt,hk]
  rw[hef]
  refine⟨⟨cap2,cap3⟩,(by (first | rw[hw,hwh] | rw[hw]);first | rfl | simp),(by first | exact rfl | (show some (ABlk.row _ _ s.tenants.length _)=some (ABlk.row _ _ (List.set _ _ _).length _);rw[List.length_set];try rfl)),(by first | exact rfl | (show some (ABlk.row _ _ s.cells.length _)=some (ABlk.row _ _ (List.set _ _ _).length _);rw[List.length_set])),trivial⟩
 ·have hf:=ha.ent
  simp[entV,entOk,inS,inR,fT,fC,fO,fE,fW,fN,hk] at hf
  repeat (first | refine⟨fun h=>absurd h (by rw[hk];decide),fun _=>?_⟩ | refine⟨fun _=>?_,fun h=>absurd h (by rw[hk];decide)⟩ | refine⟨fun _=>?_,fun h=>Bool.noConfusion h⟩ | refine⟨fun h=>Bool.noConfusion h,fun _=>?_⟩ | fail)
  have hi:e.cell.toNat<s.cells.length:=by omega
  refine⟨⟨Nat.le_refl _,by omega,by omega⟩,?_⟩
  repeat (first | refine⟨fun h=>absurd h (by rw[hk];decide),fun _=>?_⟩ | refine⟨fun _=>?_,fun h=>absurd h (by rw[hk];decide)⟩ | refine⟨fun _=>?_,fun h=>Bool.noConfusion h⟩ | refine⟨fun h=>Bool.noConfusion h,fun _=>?_⟩ | fail)
  refine⟨csC { (s.cells.getD e.cell.toNat default) with running:=e.n },(by first | rfl | (show putN _ _ (csC (List.getD _ _ _))=_;rw[getD_set hi];rfl)),?_⟩
  rw[setEl_set (by first | exact hi | (rw[List.length_set];exact hi))]
  try rw[List.set_set]
  refine⟨kp_,?_⟩
  refine⟨csC { (s.cells.getD e.cell.toNat default) with running:=e.n,since:=e.tick },(by first | rfl | (show putN _ _ (csC (List.getD _ _ _))=_;rw[getD_set hi];rfl)),?_⟩
  rw[setEl_set (by first | exact hi | (rw[List.length_set];exact hi))]
  try rw[List.set_set]
  have hef:effOf s e=(⟨e.tick,s.count+1,s.tenants,s.cells.set e.cell.toNat { (s.cells.getD e.cell.toNat default) with running:=e.n,since:=e.tick },s.proven,s.evac,s.low,s.high⟩:St):=by simp[effOf,stamped,setCel,setTen,celEff,tenEff,tsAt,csAt,hk]
  rw[hef]
  refine⟨⟨cap2,cap3⟩,(by (first | rw[hw,hwh] | rw[hw]);first | rfl | simp),(by first | exact rfl | (show some (ABlk.row _ _ s.tenants.length _)=some (ABlk.row _ _ (List.set _ _ _).length _);rw[List.length_set];try rfl)),(by first | exact rfl | (show some (ABlk.row _ _ s.cells.length _)=some (ABlk.row _ _ (List.set _ _ _).length _);rw[List.length_set])),trivial⟩
 ·have hf:=ha.ent
  simp[entV,entOk,inS,inR,fT,fC,fO,fE,fW,fN,hk] at hf
  repeat (first | refine⟨fun h=>absurd h (by rw[hk];decide),fun _=>?_⟩ | refine⟨fun _=>?_,fun h=>absurd h (by rw[hk];decide)⟩ | refine⟨fun _=>?_,fun h=>Bool.noConfusion h⟩ | refine⟨fun h=>Bool.noConfusion h,fun _=>?_⟩ | fail)
  refine⟨by omega,?_⟩
  have hx:=orRaw2_eq s.proven e.n (by omega) (by omega) (by omega) (by omega)
  have hef:effOf s e=(⟨e.tick,s.count+1,s.tenants,s.cells,orRaw2 s.proven e.n,s.evac,s.low,s.high⟩:St):=by rw[hx];simp[effOf,stamped,hk]
  rw[hef]
  refine⟨⟨cap2,cap3⟩,(by (first | rw[hw,hwh] | rw[hw]);first | rfl | simp),(by first | exact rfl | (show some (ABlk.row _ _ s.tenants.length _)=some (ABlk.row _ _ (List.set _ _ _).length _);rw[List.length_set];try rfl)),(by first | exact rfl | (show some (ABlk.row _ _ s.cells.length _)=some (ABlk.row _ _ (List.set _ _ _).length _);rw[List.length_set])),trivial⟩
 ·have hf:=ha.ent
  simp[entV,entOk,inS,inR,fT,fC,fO,fE,fW,fN,hk] at hf
  repeat (first | refine⟨fun h=>absurd h (by rw[hk];decide),fun _=>?_⟩ | refine⟨fun _=>?_,fun h=>absurd h (by rw[hk];decide)⟩ | refine⟨fun _=>?_,fun h=>Bool.noConfusion h⟩ | refine⟨fun h=>Bool.noConfusion h,fun _=>?_⟩ | fail)
  have hke:evacE s e=0:=by have:=ha.kind;unfold kindE at this;simpa [hk] using this
  have hke:hasB s.evac e.other=!decide (e.n=1):=by unfold evacE at hke;grind
  refine⟨fun h8=>?_,fun h8=>?_⟩
  ·refine⟨by omega,?_⟩
   have hn:e.n=1:=by simpa using h8
   have hx:=evacOn_eq s.evac e.other (by omega) (by omega) (by omega) (by omega) (by simpa [hn] using hke)
   have hef:effOf s e=(⟨e.tick,s.count+1,s.tenants,s.cells,s.proven,orRaw2 s.evac e.other,s.low,s.high⟩:St):=by rw[hx];simp[effOf,stamped,hk]
   rw[hef]
   refine⟨⟨cap2,cap3⟩,(by (first | rw[hw,hwh] | rw[hw]);first | rfl | simp),(by first | exact rfl | (show some (ABlk.row _ _ s.tenants.length _)=some (ABlk.row _ _ (List.set _ _ _).length _);rw[List.length_set];try rfl)),(by first | exact rfl | (show some (ABlk.row _ _ s.cells.length _)=some (ABlk.row _ _ (List.set _ _ _).length _);rw[List.length_set])),trivial⟩
  ·refine⟨by omega,?_⟩
   have hn:¬ e.n=1:=by simpa using h8
   have hx:=evacOff_eq s.evac e.other (by omega) (by omega) (by omega) (by omega) (by simpa [hn] using hke)
   have hef:effOf s e=(⟨e.tick,s.count+1,s.tenants,s.cells,s.proven,offRaw s.evac e.other,s.low,s.high⟩:St):=by rw[hx];simp[effOf,stamped,hk]
   rw[hef]
   refine⟨⟨cap2,cap3⟩,(by (first | rw[hw,hwh] | rw[hw]);first | rfl | simp),(by first | exact rfl | (show some (ABlk.row _ _ s.tenants.length _)=some (ABlk.row _ _ (List.set _ _ _).length _);rw[List.length_set];try rfl)),(by first | exact rfl | (show some (ABlk.row _ _ s.cells.length _)=some (ABlk.row _ _ (List.set _ _ _).length _);rw[List.length_set])),trivial⟩
 ·have hf:=ha.ent
  simp[entV,entOk,inS,inR,fT,fC,fO,fE,fW,fN,hk] at hf
  repeat (first | refine⟨fun h=>absurd h (by rw[hk];decide),fun _=>?_⟩ | refine⟨fun _=>?_,fun h=>absurd h (by rw[hk];decide)⟩ | refine⟨fun _=>?_,fun h=>Bool.noConfusion h⟩ | refine⟨fun h=>Bool.noConfusion h,fun _=>?_⟩ | fail)
  have hwh:IntKind.i64.wrap (s.high+1)=s.high+1:=wrapi (by omega)
  have hef:effOf s e=(⟨e.tick,s.count+1,s.tenants,s.cells,s.proven,s.evac,s.low,s.high+1⟩:St):=by simp[effOf,stamped,setCel,setTen,celEff,tenEff,tsAt,csAt,hk]
  rw[hef]
  refine⟨⟨cap2,cap3⟩,(by (first | rw[hw,hwh] | rw[hw]);first | rfl | simp),(by first | exact rfl | (show some (ABlk.row _ _ s.tenants.length _)=some (ABlk.row _ _ (List.set _ _ _).length _);rw[List.length_set];try rfl)),(by first | exact rfl | (show some (ABlk.row _ _ s.cells.length _)=some (ABlk.row _ _ (List.set _ _ _).length _);rw[List.length_set])),trivial⟩
 ·have hf:=ha.ent
  simp[entV,entOk,inS,inR,fT,fC,fO,fE,fW,fN,hk] at hf
  repeat (first | refine⟨fun h=>absurd h (by rw[hk];decide),fun _=>?_⟩ | refine⟨fun _=>?_,fun h=>absurd h (by rw[hk];decide)⟩ | refine⟨fun _=>?_,fun h=>Bool.noConfusion h⟩ | refine⟨fun h=>Bool.noConfusion h,fun _=>?_⟩ | fail)
  have hef:effOf s e=(⟨e.tick,s.count+1,s.tenants,s.cells,s.proven,s.evac,s.high,s.high⟩:St):=by simp[effOf,stamped,setCel,setTen,celEff,tenEff,tsAt,csAt,hk]
  rw[hef]
  refine⟨⟨cap2,cap3⟩,(by (first | rw[hw,hwh] | rw[hw]);first | rfl | simp),(by first | exact rfl | (show some (ABlk.row _ _ s.tenants.length _)=some (ABlk.row _ _ (List.set _ _ _).length _);rw[List.length_set];try rfl)),(by first | exact rfl | (show some (ABlk.row _ _ s.cells.length _)=some (ABlk.row _ _ (List.set _ _ _).length _);rw[List.length_set])),trivial⟩
 ·have hf:=ha.ent
  simp[entV,entOk,inS,inR,fT,fC,fO,fE,fW,fN,hk] at hf
  repeat (first | refine⟨fun h=>absurd h (by rw[hk];decide),fun _=>?_⟩ | refine⟨fun _=>?_,fun h=>absurd h (by rw[hk];decide)⟩ | refine⟨fun _=>?_,fun h=>Bool.noConfusion h⟩ | refine⟨fun h=>Bool.noConfusion h,fun _=>?_⟩ | fail)
  have hef:effOf s e=(⟨e.tick,s.count+1,s.tenants,s.cells,s.proven,s.evac,s.low,s.high⟩:St):=by simp[effOf,stamped,setCel,setTen,celEff,tenEff,tsAt,csAt,hk]
  rw[hef]
  refine⟨⟨cap2,cap3⟩,(by (first | rw[hw,hwh] | rw[hw]);first | rfl | simp),(by first | exact rfl | (show some (ABlk.row _ _ s.tenants.length _)=some (ABlk.row _ _ (List.set _ _ _).length _);rw[List.length_set];try rfl)),(by first | exact rfl | (show some (ABlk.row _ _ s.cells.length _)=some (ABlk.row _ _ (List.set _ _ _).length _);rw[List.length_set])),trivial⟩
end Go.Proofs.YtchhdflealgkaaaGreat
