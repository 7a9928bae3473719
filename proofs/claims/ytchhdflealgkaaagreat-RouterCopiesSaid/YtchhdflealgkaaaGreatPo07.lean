import Derived.Test.YtchhdflealgkaaaGreatPo06
import Derived.Laws.OwnMore
namespace Go.Proofs.YtchhdflealgkaaaGreat
open Go.RowKit
set_option linter.unusedSimpArgs false
set_option linter.unusedVariables false
/-! What holds of every reached state. No program in sight. -/
structure TsInv (c:Cfg) (t:TS):Prop where
 home:-1≤t.home∧t.home<c.cells.length
 standby:-1≤t.standby∧t.standby<c.cells.length
 next:-1≤t.next∧t.next<c.cells.length
 target:-1≤t.target∧t.target<c.cells.length
 epoch:0≤t.epoch∧t.epoch≤1048576
 wcell:-1≤t.win.cell∧t.win.cell<c.cells.length
 wepoch:0≤t.win.epoch∧t.win.epoch≤1048576
 wver:0≤t.win.version∧t.win.version<c.versions.length
 wsince:0≤t.win.since∧t.win.since≤1073741824
 wtill:0≤t.win.till∧t.win.till≤1073741824
 placed:t.placed=true→0≤t.home
 shed:t.shed=true→t.placed=true
structure CsInv (c:Cfg) (lo hi:Int) (x:CS):Prop where
 mode:1≤x.mode∧x.mode≤3
 running:0≤x.running∧x.running<c.versions.length
 wanted:0≤x.wanted∧x.wanted<c.versions.length
 since:0≤x.since∧x.since≤1073741824
 runs:(verAt c x.running).1≤lo∧hi≤(verAt c x.running).2
 wants:(verAt c x.wanted).1≤lo∧hi≤(verAt c x.wanted).2
structure StInv (c:Cfg) (s:St):Prop where
 lt:s.tenants.length=c.tenants.length
 lc:s.cells.length=c.cells.length
 tick:0≤s.tick∧s.tick≤1073741824
 count:0≤s.count∧s.count≤4096
 proven:0≤s.proven∧s.proven<1073741824
 evac:0≤s.evac∧s.evac<16
 low:0≤s.low∧s.low≤s.high∧s.high≤s.low+1∧s.high≤30
 ten:∀ t ∈ s.tenants,TsInv c t
 cel:∀ x ∈ s.cells,CsInv c s.low s.high x
theorem verAt_zero {c:Cfg} (hV:CfgV c):(verAt c 0).1=0∧0≤(verAt c 0).2:=by
 have h:=hV.nv
 have h0:c.versions[0]?=some c.versions[0]:=List.getElem?_eq_getElem (by omega)
 have h1:=hV.ver 0 _ h0
 unfold verAt
 rw[show (0:Int).toNat=0 from rfl,getD_some h0]
 simp[verOk] at h1
 omega
theorem stNew_inv {c:Cfg} (hV:CfgV c):StInv c (stNew c):=by
 have h:=hV.nv
 have hz:=verAt_zero hV
 refine⟨by simp[stNew],by simp[stNew],by simp[stNew],by simp[stNew],by simp[stNew],by simp[stNew],by simp[stNew],fun t ht=>?_,fun x hx=>?_⟩
 ·obtain rfl:=List.eq_of_mem_replicate (show t ∈ List.replicate c.tenants.length tsNew from ht)
  constructor<;>simp[tsNew]<;>omega
 ·obtain rfl:=List.eq_of_mem_replicate (show x ∈ List.replicate c.cells.length csNew from hx)
  constructor<;>simp[csNew,stNew]<;>omega
theorem tsAt_mem {s:St} {i:Int} (h0:0≤i) (h1:i<s.tenants.length):s.tenants[i.toNat]?=some (tsAt s i)∧tsAt s i ∈ s.tenants:=by
 have h:i.toNat<s.tenants.length:=by omega
 have e:=List.getElem?_eq_getElem h
 have:tsAt s i=s.tenants[i.toNat]:=getD_some e
 rw[this]
 exact⟨e,List.getElem_mem h⟩
theorem csAt_mem {s:St} {i:Int} (h0:0≤i) (h1:i<s.cells.length):s.cells[i.toNat]?=some (csAt s i)∧csAt s i ∈ s.cells:=by
 have h:i.toNat<s.cells.length:=by omega
 have e:=List.getElem?_eq_getElem h
 have:csAt s i=s.cells[i.toNat]:=getD_some e
 rw[this]
 exact⟨e,List.getElem_mem h⟩
theorem orBit_lt {a i:Int} {m:Nat} (h0:0≤a) (h1:a<2 ^ m) (hi:i.toNat<m):0≤orBit a i∧orBit a i<2 ^ m:=by
 obtain⟨n,rfl⟩:=Int.eq_ofNat_of_zero_le h0
 have hn:n<2 ^ m:=by exact_mod_cast h1
 have h2:1 <<< i.toNat<2 ^ m:=by rw[Nat.one_shiftLeft];exact Nat.pow_lt_pow_right (by omega) hi
 have:=Nat.or_lt_two_pow hn h2
 unfold orBit
 rw[Int.toNat_natCast]
 refine⟨Int.natCast_nonneg _,?_⟩
 exact_mod_cast this
theorem flipBit_lt {a i:Int} {m:Nat} (h0:0≤a) (h1:a<2 ^ m) (hi:i.toNat<m):0≤flipBit a i∧flipBit a i<2 ^ m:=by
 obtain⟨n,rfl⟩:=Int.eq_ofNat_of_zero_le h0
 have hn:n<2 ^ m:=by exact_mod_cast h1
 have h2:1 <<< i.toNat<2 ^ m:=by rw[Nat.one_shiftLeft];exact Nat.pow_lt_pow_right (by omega) hi
 have:=Nat.xor_lt_two_pow hn h2
 unfold flipBit
 rw[Int.toNat_natCast]
 refine⟨Int.natCast_nonneg _,?_⟩
 exact_mod_cast this
structure Acc (c:Cfg) (s:St) (e:Ent):Prop where
 ent:entV c e=true
 cnt:s.count<4096
 tick:s.tick≤e.tick
 kind:kindE c s e=0
theorem acc_of {c:Cfg} {s:St} {e:Ent} (h:refusedE c s e=0):Acc c s e:=by
 unfold refusedE at h
 by_cases h1:entV c e=false
 ·rw[if_pos h1] at h;omega
 rw[if_neg h1] at h
 by_cases h2:4096≤s.count
 ·rw[if_pos h2] at h;omega
 rw[if_neg h2] at h
 by_cases h3:e.tick<s.tick
 ·rw[if_pos h3] at h;omega
 rw[if_neg h3] at h
 exact⟨by simpa using h1,by omega,by omega,h⟩
theorem ent_kind {c:Cfg} {e:Ent} (h:entV c e=true):e.kind=1∨e.kind=2∨e.kind=3∨e.kind=4∨e.kind=5∨e.kind=6∨e.kind=7∨e.kind=8∨e.kind=9∨e.kind=10∨e.kind=11∨e.kind=12∨e.kind=13∨e.kind=14∨e.kind=15∨e.kind=16:=by
 have:inR e.kind 1 16=true:=by
  unfold entV entOk at h
  simp only[Bool.and_eq_true] at h
  exact h.1.1.1.1.1.1.1.1.1
 simp[inR] at this
 omega
theorem ent_rng {c:Cfg} {e:Ent} (h:entV c e=true):(0≤e.tick∧e.tick≤1073741824)∧inS e.tenant (fT c.tenants.length e.kind)=true∧inS e.cell (fC c.cells.length e.kind)=true∧inS e.other (fO c.cells.length c.regions e.kind)=true∧
  inS e.epoch (fE e.kind)=true∧inS e.since (fW e.kind)=true∧inS e.till (fW e.kind)=true∧inS e.n (fN c.versions.length e.kind)=true∧(e.kind≠1∨e.other≠e.cell):=by
 unfold entV entOk at h
 simp only[Bool.and_eq_true] at h
 obtain⟨⟨⟨⟨⟨⟨⟨⟨⟨h1,h2⟩,h3⟩,h4⟩,h5⟩,h6⟩,h7⟩,h8⟩,h9⟩,h10⟩:=h
 refine⟨by simpa [inR] using h2,h3,h4,h5,h6,h7,h8,h9,by simpa using h10⟩
theorem inv_setTen {c:Cfg} {s:St} (h:StInv c s) {e:Ent} (hc:s.count<4096) (ht:s.tick≤e.tick) (ht2:e.tick≤1073741824) {i:Int} {t:TS} (hT:TsInv c t):StInv c (setTen (stamped s e) i t):=by
 refine⟨?_,h.lc,⟨by have:=h.tick;show 0≤e.tick;omega,ht2⟩,⟨by have:=h.count;show 0≤s.count+1;omega,by show s.count+1≤4096;omega⟩,h.proven,h.evac,h.low,fun t' ht'=>?_,h.cel⟩
 ·show (s.tenants.set i.toNat t).length=_
  rw[List.length_set];exact h.lt
 ·rcases List.mem_or_eq_of_mem_set (show t' ∈ s.tenants.set i.toNat t from ht') with h1 | rfl
  ·exact h.ten _ h1
  ·exact hT
theorem inv_setCel {c:Cfg} {s:St} (h:StInv c s) {e:Ent} (hc:s.count<4096) (ht:s.tick≤e.tick) (ht2:e.tick≤1073741824) {i:Int} {x:CS} (hX:CsInv c s.low s.high x):StInv c (setCel (stamped s e) i x):=by
 refine⟨h.lt,?_,⟨by have:=h.tick;show 0≤e.tick;omega,ht2⟩,⟨by have:=h.count;show 0≤s.count+1;omega,by show s.count+1≤4096;omega⟩,h.proven,h.evac,h.low,h.ten,fun t' ht'=>?_⟩
 ·show (s.cells.set i.toNat x).length=_
  rw[List.length_set];exact h.lc
 ·rcases List.mem_or_eq_of_mem_set (show t' ∈ s.cells.set i.toNat x from ht') with h1 | rfl
  ·exact h.cel _ h1
  ·exact hX
theorem StInv.step {c:Cfg} {s:St} {e:Ent} (hV:CfgV c) (h:StInv c s) (hr:refusedE c s e=0):StInv c (effOf s e):=by
 have ha:=acc_of hr
 have hk:=ent_kind ha.ent
 obtain⟨hti,hT,hC,hO,hE,hS,hU,hN,hne⟩:=ent_rng ha.ent
 have hkd:=ha.kind
 have hcnt:=ha.cnt
 have htk:=ha.tick
 have hlt:=h.lt
 have hlc:=h.lc
 have hnc:=hV.nc
 have hnv:=hV.nv
 have hreg:=hV.reg
 clear ha hr
 obtain⟨kind,tick,tenant,cell,other,epoch,since,till,n⟩:=e
 simp only at *
 by_cases h8:kind≤8
 ·have hten:0≤tenant∧tenant<s.tenants.length:=by
   have:fT c.tenants.length kind=(0,(c.tenants.length:Int)-1):=if_pos h8
   rw[this] at hT
   simp[inS,inR] at hT
   omega
  have hti0:=h.ten _ (tsAt_mem hten.1 hten.2).2
  have eff:effOf s ⟨kind,tick,tenant,cell,other,epoch,since,till,n⟩=setTen (stamped s ⟨kind,tick,tenant,cell,other,epoch,since,till,n⟩) tenant (tenEff (tsAt s tenant) ⟨kind,tick,tenant,cell,other,epoch,since,till,n⟩):=by
   unfold effOf
   exact if_pos h8
  rw[eff]
  refine inv_setTen h hcnt htk hti.2 ?_
  clear eff
  have hk':kind=1∨kind=2∨kind=3∨kind=4∨kind=5∨kind=6∨kind=7∨kind=8:=by omega
  obtain⟨i1,i2,i3,i4,i5,i6,i7,i8,i9,i10,i11,i12⟩:=hti0
  generalize htd:tsAt s tenant=t at *
  rcases hk' with rfl | rfl | rfl | rfl | rfl | rfl | rfl | rfl
  ·simp[inS,inR,fC,fO] at hC hO
   refine⟨?_,?_,i3,i4,i5,i6,i7,i8,i9,i10,?_,?_⟩<;>simp[tenEff]<;>omega
  ·simp[inS,inR,fC,fE,fW,fN] at hC hE hS hU hN
   simp only[tenEff,grantT]
   have hpl:t.placed=true:=by
    cases hp:t.placed with
    | true=>rfl
    | false=>simp[kindE,grantE,htd,hp] at hkd
   simp only[show ¬ ((2:Int)=1) by omega,if_false,if_true]
   split
   ·constructor<;>(try simp only)<;>first | omega | (intro hh;first | omega | exact i11 hh | exact i12 hh | exact hpl | exact hpl hn | cases hh)
   ·split
    ·constructor<;>(try simp only)<;>first | omega | (intro hh;first | omega | exact i11 hh | exact i12 hh | exact hpl | exact hpl hn | cases hh)
    ·constructor<;>(try simp only)<;>first | omega | (intro hh;first | omega | exact i11 hh | exact i12 hh | exact hpl | exact hpl hn | cases hh)
  ·refine⟨i1,i2,i3,i4,i5,i6,i7,i8,?_,?_,i11,i12⟩<;>simp[tenEff,cutW]<;>omega
  ·simp[inS,inR,fC] at hC
   refine⟨i1,i2,?_,i4,i5,i6,i7,i8,i9,i10,i11,i12⟩<;>simp[tenEff]<;>omega
  ·simp[inS,inR,fC] at hC
   refine⟨i1,?_,?_,i4,i5,i6,i7,i8,i9,i10,i11,i12⟩<;>simp[tenEff]<;>omega
  ·simp[inS,inR,fC] at hC
   refine⟨i1,i2,i3,?_,i5,i6,i7,i8,i9,i10,i11,i12⟩<;>simp[tenEff]<;>omega
  ·refine⟨i1,i2,i3,?_,i5,i6,i7,i8,i9,i10,i11,i12⟩<;>simp[tenEff]<;>omega
  ·have hpl:n=1→t.placed=true:=by
    intro hn
    cases hp:t.placed with
    | true=>rfl
    | false=>simp[kindE,shedE,htd,hp,hn] at hkd
   by_cases hn:n=1
   ·simp only[tenEff,show ¬ ((8:Int)=1) by omega,show ¬ ((8:Int)=2) by omega,show ¬ ((8:Int)=3) by omega,show ¬ ((8:Int)=4) by omega,show ¬ ((8:Int)=5) by omega,show ¬ ((8:Int)=6) by omega,show ¬ ((8:Int)=7) by omega,if_false,if_true,hn]
    constructor<;>(try simp only)<;>first | omega | (intro hh;first | omega | exact i11 hh | exact i12 hh | exact hpl | exact hpl hn | cases hh)
   ·simp only[tenEff,show ¬ ((8:Int)=1) by omega,show ¬ ((8:Int)=2) by omega,show ¬ ((8:Int)=3) by omega,show ¬ ((8:Int)=4) by omega,show ¬ ((8:Int)=5) by omega,show ¬ ((8:Int)=6) by omega,show ¬ ((8:Int)=7) by omega,if_false,if_true,hn]
    exact⟨i1,i2,i3,i4,i5,i6,i7,i8,i9,i10,i11,fun h=>by cases h⟩
 ·by_cases h11:kind≤11
  ·have eff:effOf s ⟨kind,tick,tenant,cell,other,epoch,since,till,n⟩=setCel (stamped s ⟨kind,tick,tenant,cell,other,epoch,since,till,n⟩) cell (celEff (csAt s cell) ⟨kind,tick,tenant,cell,other,epoch,since,till,n⟩):=by
    unfold effOf
    rw[if_neg h8,if_pos h11]
   have hcel:0≤cell∧cell<s.cells.length:=by
    have:fC c.cells.length kind=(0,(c.cells.length:Int)-1):=if_pos (by omega)
    rw[this] at hC
    simp[inS,inR] at hC
    omega
   rw[eff]
   refine inv_setCel h hcnt htk hti.2 ?_
   have hx:=h.cel _ (csAt_mem hcel.1 hcel.2).2
   generalize hxd:csAt s cell=x at *
   obtain⟨i1,i2,i3,i4,i5,i6⟩:=hx
   have hk':kind=9∨kind=10∨kind=11:=by omega
   rcases hk' with rfl | rfl | rfl
   ·simp[inS,inR,fN] at hN
    refine⟨?_,i2,i3,?_,i5,i6⟩<;>simp[celEff]<;>omega
   ·simp[inS,inR,fN] at hN
    have hw:(verAt c n).1≤s.low∧s.high≤(verAt c n).2:=by
     simp[kindE,wantE,hxd] at hkd
     split at hkd
     ·omega
     ·split at hkd
      ·omega
      ·omega
    refine⟨i1,i2,?_,i4,i5,?_⟩
    ·simp[celEff];omega
    ·exact hw
   ·simp[inS,inR,fN] at hN
    have hw:n=x.wanted:=by
     simp[kindE,runsE,hxd] at hkd
     by_cases hh:x.wanted=n
     ·exact hh.symm
     ·simp[hh] at hkd
    subst hw
    exact⟨i1,i3,i3,⟨by simp[celEff];omega,by simp[celEff];omega⟩,i6,i6⟩
  ·have hk':kind=12∨kind=13∨kind=14∨kind=15∨kind=16:=by omega
   have htick:0≤tick∧tick≤1073741824:=hti
   have hcn:0≤s.count+1∧s.count+1≤4096:=by have:=h.count;omega
   rcases hk' with rfl | rfl | rfl | rfl | rfl
   ·simp[inS,inR,fN] at hN
    have hp:=h.proven
    have:=orBit_lt (a:=s.proven) (i:=n) (m:=30) hp.1 (by simpa using hp.2) (by omega)
    exact⟨hlt,hlc,htick,hcn,by simpa [effOf,stamped] using this,h.evac,h.low,h.ten,h.cel⟩
   ·simp[inS,inR,fO] at hO
    have hp:=h.evac
    have:=flipBit_lt (a:=s.evac) (i:=other) (m:=4) hp.1 (by simpa using hp.2) (by omega)
    exact⟨hlt,hlc,htick,hcn,h.proven,by simpa [effOf,stamped] using this,h.low,h.ten,h.cel⟩
   ·have hlo:=h.low
    have hx:¬ s.low<s.high∧¬ 30≤s.high∧s.cells.any (blockB c s)=false:=by
     simp only[kindE,expandE] at hkd
     simp at hkd
     by_cases h1:s.low<s.high
     ·simp[h1] at hkd
     ·by_cases h2:30≤s.high
      ·simp[h1,h2] at hkd
      ·refine⟨h1,h2,?_⟩
       rw[Bool.eq_false_iff]
       intro h3
       obtain⟨x,hx,hb⟩:=List.any_eq_true.1 h3
       simp only[h1,h2,if_false] at hkd
       rw[if_pos ⟨x,hx,hb⟩] at hkd
       omega
    refine⟨hlt,hlc,htick,hcn,h.proven,h.evac,?_,h.ten,fun x hx'=>?_⟩
    ·simp[effOf,stamped];omega
    ·have hb:blockB c s x=false:=by
      rw[Bool.eq_false_iff]
      intro hb
      have:=List.any_eq_true.2 ⟨x,(show x ∈ s.cells from hx'),hb⟩
      rw[hx.2.2] at this
      cases this
     simp[blockB] at hb
     obtain⟨i1,i2,i3,i4,i5,i6⟩:=h.cel x hx'
     refine⟨i1,i2,i3,i4,⟨i5.1,?_⟩,⟨i6.1,?_⟩⟩<;>simp[effOf,stamped]<;>omega
   ·have hlo:=h.low
    refine⟨hlt,hlc,htick,hcn,h.proven,h.evac,?_,h.ten,fun x hx'=>?_⟩
    ·simp[effOf,stamped];omega
    ·obtain⟨i1,i2,i3,i4,i5,i6⟩:=h.cel x hx'
     refine⟨i1,i2,i3,i4,⟨?_,i5.2⟩,⟨?_,i6.2⟩⟩<;>simp[effOf,stamped]<;>omega
   ·exact⟨hlt,hlc,htick,hcn,h.proven,h.evac,h.low,h.ten,h.cel⟩
/-! The laws of one step. No program in sight. -/
theorem applyP_ok {c:Cfg} {s x:St} {e:Ent} (h:applyP c s e=(x,0)):refusedE c s e=0∧x=effOf s e∧(booksB e=true→overB c x=false):=by
 unfold applyP at h
 by_cases h1:refusedE c s e≠0
 ·rw[if_pos h1] at h
  exact absurd (congrArg Prod.snd h) h1
 ·rw[if_neg h1] at h
  by_cases h2:booksB e∧overB c (effOf s e)
  ·rw[if_pos h2] at h
   exact absurd (congrArg Prod.snd h) (by simp)
  ·rw[if_neg h2] at h
   have hx:effOf s e=x:=congrArg Prod.fst h
   refine⟨Classical.not_not.1 h1,hx.symm,fun hb=>?_⟩
   rw[← hx]
   cases ho:overB c (effOf s e) with
   | false=>rfl
   | true=>exact absurd ⟨hb,ho⟩ h2
/-! Capacity. -/
def bkAt (i:Int) (t:TS) (d:Ten):Int:=
 if t.placed=false then 0 else (if t.shed then 0 else (if t.home=i then d.load else 0)+(if t.target=i then d.load else 0))+(if t.standby=i then d.shadow else 0)+(if t.next=i then d.shadow else 0)
theorem addAt_length (l:List Int) (k n:Int):(addAt l k n).length=l.length:=by unfold addAt;split<;>simp
theorem addAt_getD (l:List Int) (k n:Int) {i:Nat} (hi:i<l.length):(addAt l k n).getD i 0=l.getD i 0+(if k=i then n else 0):=by
 unfold addAt
 by_cases hk:0≤k∧k<l.length
 ·rw[if_pos hk]
  obtain⟨m,rfl⟩:=Int.eq_ofNat_of_zero_le hk.1
  rw[Int.toNat_natCast,List.getD_eq_getElem?_getD,List.getElem?_set]
  by_cases hm:m=i
  ·subst hm
   simp[hi]
  ·have:¬ ((m:Int)=i):=by omega
   simp[hm,this]
 ·rw[if_neg hk]
  have:¬ (k=i):=by omega
  simp[this]
theorem bookT_length (l:List Int) (t:TS) (d:Ten):(bookT l t d).length=l.length:=by
 unfold bookT
 split
 ·rfl
 ·rw[addAt_length,addAt_length]
  split
  ·rfl
  ·rw[addAt_length,addAt_length]
theorem bookT_getD (l:List Int) (t:TS) (d:Ten) {i:Nat} (hi:i<l.length):(bookT l t d).getD i 0=l.getD i 0+bkAt i t d:=by
 unfold bookT bkAt
 by_cases hp:t.placed=false
 ·rw[if_pos hp,if_pos hp];omega
 ·rw[if_neg hp,if_neg hp]
  by_cases hs:t.shed=true
  ·rw[if_pos hs,if_pos hs,addAt_getD _ _ _ (by rw[addAt_length];exact hi),addAt_getD _ _ _ hi];omega
  ·rw[if_neg hs,if_neg hs,addAt_getD _ _ _ (by simp only[addAt_length];exact hi),addAt_getD _ _ _ (by simp only[addAt_length];exact hi),addAt_getD _ _ _ (by simp only[addAt_length];exact hi),addAt_getD _ _ _ hi];omega
def sumI (i:Int):List (TS×Ten)→Int
 | []=>0
 | p::q=>bkAt i p.1 p.2+sumI i q
theorem fold_getD {i:Nat}:∀ (q:List (TS×Ten)) (l:List Int),i<l.length→(q.foldl (fun l p=>bookT l p.1 p.2) l).getD i 0=l.getD i 0+sumI i q
 | [],l,_=>by simp[sumI]
 | p::q,l,h=>by
  rw[List.foldl_cons,fold_getD q _ (by rw[bookT_length];exact h),bookT_getD _ _ _ h,sumI]
  omega
theorem booked_getD (c:Cfg) (s:St) {i:Nat} (hi:i<c.cells.length):(booked c s).getD i 0=sumI i (s.tenants.zip c.tenants):=by
 unfold booked
 rw[fold_getD _ _ (by simpa using hi)]
 rw[List.getD_eq_getElem?_getD,List.getElem?_replicate]
 simp[hi]
theorem sumI_set {i:Int} {t t':TS} (ht:∀ d:Ten,0≤d.load→0≤d.shadow→bkAt i t' d≤bkAt i t d):∀ (ts:List TS) (ds:List Ten) (k:Nat),ts[k]?=some t→(∀ d ∈ ds,0≤d.load∧0≤d.shadow)→sumI i ((ts.set k t').zip ds)≤sumI i (ts.zip ds)
 | [],ds,k,h,hd=>by simp at h
 | a::ts,[],k,h,hd=>by cases k<;>simp[sumI]
 | a::ts,d::ds,0,h,hd=>by
  simp at h
  subst h
  have:=hd d (by simp)
  have:=ht d this.1 this.2
  simp only[List.set_cons_zero,List.zip_cons_cons,sumI]
  omega
 | a::ts,d::ds,k+1,h,hd=>by
  have ih:=sumI_set ht ts ds k (by simpa using h) (fun d hd'=>hd d (by simp[hd']))
  simp only[List.set_cons_succ,List.zip_cons_cons,sumI]
  omega
theorem overB_iff {c:Cfg} {s:St}:overB c s=false↔∀ i:Nat,i<c.cells.length→(booked c s).getD i 0≤(c.cells.getD i (0,0)).2:=by
 unfold overB
 rw[Bool.eq_false_iff]
 constructor
 ·intro h i hi
  refine Classical.byContradiction fun hn=>h (List.any_eq_true.2 ⟨i,List.mem_range.2 hi,?_⟩)
  simp only[decide_eq_true_eq]
  omega
 ·intro h hn
  obtain⟨i,hi,hd⟩:=List.any_eq_true.1 hn
  have:=h i (List.mem_range.1 hi)
  simp only[decide_eq_true_eq] at hd
  omega
theorem ten_pos {c:Cfg} (hV:CfgV c):∀ d ∈ c.tenants,0≤d.load∧0≤d.shadow:=by
 intro d hd
 have h1:=hV.ten d hd
 simp[tenOk,inR] at h1
 omega
theorem cap_new {c:Cfg} (hV:CfgV c):overB c (stNew c)=false:=by
 rw[overB_iff]
 intro i hi
 rw[booked_getD _ _ hi]
 have hcap:1≤(c.cells.getD i (0,0)).2:=by
  rw[getD_some (List.getElem?_eq_getElem hi)]
  exact (hV.capy _ (List.getElem_mem hi)).1
 have:∀ (n:Nat) (ds:List Ten),sumI i ((List.replicate n tsNew).zip ds)=0:=by
  intro n
  induction n with
  | zero=>intro ds;simp[sumI]
  | succ n ih=>
   intro ds
   cases ds with
   | nil=>simp[sumI]
   | cons d ds=>
    have hb:bkAt i tsNew d=0:=by simp[bkAt,tsNew]
    rw[List.replicate_succ,List.zip_cons_cons,sumI,ih,hb]
    rfl
 have:=this c.tenants.length c.tenants
 unfold stNew
 simp only
 omega
theorem over_same {c:Cfg} {s x:St} (h:x.tenants=s.tenants):overB c x=overB c s:=by
 unfold overB booked
 rw[h]
theorem cap_step {c:Cfg} {s x:St} {e:Ent} (hV:CfgV c) (hI:StInv c s) (hc:overB c s=false) (h:applyP c s e=(x,0)):overB c x=false:=by
 obtain⟨hr,hx,hb⟩:=applyP_ok h
 by_cases hbk:booksB e=true
 ·exact hb hbk
 have ha:=acc_of hr
 have hk:=ent_kind ha.ent
 obtain⟨hti,hT,hC,hO,hE,hS,hU,hN,hne⟩:=ent_rng ha.ent
 have hkd:=ha.kind
 subst hx
 have hlt:=hI.lt
 clear hb h hr ha
 obtain⟨kind,tick,tenant,cell,other,epoch,since,till,n⟩:=e
 simp only at *
 by_cases h8:kind≤8
 ·have hten:0≤tenant∧tenant<s.tenants.length:=by
   have:fT c.tenants.length kind=(0,(c.tenants.length:Int)-1):=if_pos h8
   rw[this] at hT
   simp[inS,inR] at hT
   omega
  have hte:(effOf s ⟨kind,tick,tenant,cell,other,epoch,since,till,n⟩).tenants=s.tenants.set tenant.toNat (tenEff (tsAt s tenant) ⟨kind,tick,tenant,cell,other,epoch,since,till,n⟩):=by
   unfold effOf
   simp only[h8,if_true]
   rfl
  rw[overB_iff] at hc ⊢
  intro i hi
  refine Int.le_trans ?_ (hc i hi)
  rw[booked_getD _ _ hi,booked_getD _ _ hi,hte]
  refine sumI_set ?_ _ _ _ (tsAt_mem hten.1 hten.2).1 (ten_pos hV)
  intro d hd1 hd2
  have hI':=hI.ten _ (tsAt_mem hten.1 hten.2).2
  generalize htd:tsAt s tenant=t at *
  have hk':kind=3∨(kind=4∧cell=-1)∨kind=5∨kind=7∨(kind=8∧n=1):=by
   simp[booksB] at hbk
   have:kind=8→n=0∨n=1:=by
    rintro rfl
    simp[inS,inR,fN] at hN
    omega
   omega
  have hi0:(0:Int)≤i:=Int.natCast_nonneg _
  rcases hk' with rfl | ⟨rfl,rfl⟩ | rfl | rfl | ⟨rfl,rfl⟩
  ·simp[bkAt,tenEff]
  ·simp only[bkAt,tenEff]
   simp
   repeat' split
   all_goals omega
  ·have hnx:cell=t.next∧t.placed=true:=by
    simp only[kindE,readyE,htd] at hkd
    simp at hkd
    by_cases hp:t.placed=true
    ·by_cases hcn:cell=t.next
     ·exact⟨hcn,hp⟩
     ·simp[hp,hcn] at hkd
    ·simp[hp] at hkd
   obtain⟨rfl,hp⟩:=hnx
   simp only[bkAt,tenEff]
   simp[hp]
   repeat' split
   all_goals omega
  ·simp only[bkAt,tenEff]
   simp
   repeat' split
   all_goals omega
  ·simp only[bkAt,tenEff]
   simp
   repeat' split
   all_goals omega
 ·rw[over_same (s:=s)]
  ·exact hc
  ·unfold effOf
   simp only[h8,if_false]
   repeat' split
   all_goals rfl
/-! Versions. -/
/-! Nothing is handed in. -/
def noC:Cfg:=⟨0,[],[],[],[],[],[],0,0,0⟩
def noX:CfgA:=⟨none,0,none,0,none,0,none,0,none,0,none,0⟩
theorem noC_ok (w:World) (S:Nat→Prop):CfgOk w S noX noC:=⟨fun h=>absurd rfl h,fun h=>absurd rfl h,fun h=>absurd rfl h,fun h=>absurd rfl h,fun h=>absurd rfl h,fun h=>absurd rfl h⟩
/-! Rows that are the call's own: stores,and what a callee hands back. -/
theorem setEl_set {α:Type} {enc:α→List Value} {d:α} {l:List α} {k:Nat} {x:α} (h:k<l.length):setEl (fun j=>enc (l.getD j d)) k (enc x)=fun j=>enc ((l.set k x).getD j d):=by
 funext j
 unfold setEl
 by_cases hj:j=k
 ·subst hj
  rw[show Nat.beq j j=true from Nat.beq_refl j]
  show enc x=_
  rw[List.getD_eq_getElem?_getD,List.getElem?_set_self h]
  rfl
 ·have hb:Nat.beq j k=false:=by
   cases hb:Nat.beq j k
   ·rfl
   ·exact absurd (Nat.eq_of_beq_eq_true hb) hj
  rw[hb]
  show enc _=_
  rw[List.getD_eq_getElem?_getD,List.getD_eq_getElem?_getD,List.getElem?_set_ne (Ne.symm hj)]
theorem getD_set {α:Type} {d:α} {l:List α} {k:Nat} {x:α} (h:k<l.length):(l.set k x).getD k d=x:=by
 rw[List.getD_eq_getElem?_getD,List.getElem?_set_self h];rfl
section
variable {C:Ctx} {ρ:Nat→Pl} {fr:AF} {mem:AM} {nx:Nat} {a:Act} {w w':World}
theorem Sat.addOwn (h:Sat C ρ fr mem nx a w) {t:TypeId} {sz n:Nat} {el:Nat→List Value} {p:Pl} (hp:p.res=false) (hok:BlkOk C (setPl ρ nx p) (nx+1) nx w (.row t sz n el))
  (hnew:n=0∨∀ i b,lk (mem++C.fm) i=some b→∀ g,brd ρ i b g→p.A.map (·.block)≠some g):Sat C (setPl ρ nx p) fr ((nx,.row t sz n el)::mem) (nx+1) a w:=by
 have hb:∀ g,brd (setPl ρ nx p) nx (.row t sz n el) g→∀ j b',lk (mem++C.fm) j=some b'→¬ brd ρ j b' g:=fun g hg j b' hj hr=>by
  have:=hg.2
  unfold bno at this
  rw[setPl_same] at this
  exact (hnew.resolve_left hg.1) j b' hj g hr this
 exact h.addN hp hok (fun g hg=>hb g (bwr_brd hg)) (fun g hg j b' hj hw=>hb g hg j b' hj (bwr_brd hw))
structure OwnL {α:Type} (B:Nat) (w:World) (A:Option Addr) (sz:Nat) (enc:α→List Value) (d:α) (l:List α) (b:Nat):Prop where
 at_:l≠[]→A=some ⟨b,0,none⟩∧B≤b∧∃ ty cs,Blk w b ty cs
 cells:∀ k,k<l.length→∀ j v,(enc (l.getD k d))[j]?=some v→w.cell? ⟨b,k * sz+j,none⟩=some v
theorem OwnL.blk {α:Type} {B:Nat} {A:Option Addr} {sz:Nat} {enc:α→List Value} {d:α} {l:List α} {b:Nat} (h:OwnL B w A sz enc d l b) (hB:C.w0.heap.size≤B) (hs:∀ x,(enc x).length=sz) (hpl:∀ x,∀ v ∈ enc x,plain1 v) {ρ:Nat→Pl} {i nx:Nat} (hρ:ρ i=⟨A,sz,l.length,false,noSub⟩) (t:TypeId):BlkOk C ρ nx i w (.row t sz l.length (fun k=>enc (l.getD k d))):=by
 refine⟨⟨by rw[hρ],by rw[hρ]⟩,fun k hk=>⟨hs _,hpl _⟩,?_⟩
 by_cases h0:l=[]
 ·exact .inl (by rw[h0];rfl)
 ·obtain⟨hA,hb,ty,cs,hblk⟩:=h.at_ h0
  refine .inr ⟨b,0,by rw[hρ];exact hA,⟨hblk.lt,fun _=>⟨rfl,.inl (Nat.le_trans hB hb),ty,cs,hblk⟩,fun _=>.inl (Nat.le_trans hB hb)⟩,fun k hk j v hv=>?_⟩
  rw[Nat.zero_add]
  exact h.cells k hk j v hv
abbrev tsO (l:List TS):ABlk:=.row (1000000+64) 12 l.length (fun k=>tsC (l.getD k default))
abbrev csO (l:List CS):ABlk:=.row (1000000+78) 4 l.length (fun k=>csC (l.getD k default))
abbrev stMO (M:SN) (s:St):AM:=[(M.t,tsO s.tenants),(M.c,csO s.cells)]
structure StOwn2 (B:Nat) (w:World) (y:StA) (s:St):Prop where
 ex:∃ bt bc,OwnL B w y.at_ 12 tsC default s.tenants bt∧OwnL B w y.ac 4 csC default s.cells bc∧(s.tenants≠[]→s.cells≠[]→bt≠bc)
theorem Sat.addOwnSt (h0:Sat C ρ fr mem nx a w) (hb:Below w.heap.size w w') {y:StA} {s:St} (hs:StOwn2 w.heap.size w' y s) :
  Sat C (stPl ρ nx y s) fr (stMO ⟨nx+1,nx,0⟩ s++mem) (nx+2) a w'∧den (stPl ρ nx y s) (stV ⟨nx+1,nx,0⟩ ⟨y.ct,y.cc⟩ s)=.agg (stC y s)∧okV (stPl ρ nx y s) (nx+2) (stV ⟨nx+1,nx,0⟩ ⟨y.ct,y.cc⟩ s)∧ExtS ρ nx (stPl ρ nx y s) (nx+2):=by
 obtain⟨bt,bc,ht,hc,hne⟩:=hs.ex
 have hlt:∀ i b,lk (mem++C.fm) i=some b→∀ g,brd ρ i b g→g<w.heap.size:=fun i b hi g hg=>(h0.blk i b hi).brd_lt hg
 have h1:=(h0.later hb).addOwn (p:=⟨y.ac,4,s.cells.length,false,noSub⟩) rfl (hc.blk (t:=1000000+78) h0.rest.size (fun _=>rfl) csC_plain (setPl_same _ _ _)) (by
  by_cases hz:s.cells=[]
  ·exact .inl (by rw[hz];rfl)
  ·obtain⟨hA,hle,-⟩:=hc.at_ hz
   refine .inr fun i b hi g hg=>?_
   have:=hlt i b hi g hg
   rw[hA]
   simp
   omega)
 have h2:=h1.addOwn (p:=⟨y.at_,12,s.tenants.length,false,noSub⟩) rfl (ht.blk (t:=1000000+64) h0.rest.size (fun _=>rfl) tsC_plain (setPl_same _ _ _)) (by
  by_cases hz:s.tenants=[]
  ·exact .inl (by rw[hz];rfl)
  ·obtain⟨hA,hle,-⟩:=ht.at_ hz
   refine .inr fun i b hi g hg=>?_
   rcases lk_cons (l:=mem++C.fm) hi with⟨rfl,rfl⟩ | ⟨_,hi⟩
   ·have hz2:s.cells≠[]:=fun q=>hg.1 (by rw[q];rfl)
    obtain⟨hA2,hle2,-⟩:=hc.at_ hz2
    have hg2:=hg.2
    unfold bno at hg2
    rw[setPl_same,hA2] at hg2
    simp at hg2
    rw[hA]
    simp
    rw[← hg2]
    exact hne hz hz2
   ·rw[brd_ren (setPl_lt ρ _ (h0.mlt i b hi).1)] at hg
    have:=hlt i b hi g hg
    rw[hA]
    simp
    omega)
 have q1:stPl ρ nx y s nx=⟨y.ac,4,s.cells.length,false,noSub⟩:=by
  unfold stPl
  rw[setPl_lt _ _ (Nat.lt_succ_self _),setPl_same]
 have q2:stPl ρ nx y s (nx+1)=⟨y.at_,12,s.tenants.length,false,noSub⟩:=setPl_same _ _ _
 refine⟨h2,?_,?_,⟨fun i hi=>?_,by omega⟩⟩
 ·rw[den_st]
  simp[stX,q1,q2]
 ·intro u hu
  simp at hu
  rcases hu with rfl | rfl | rfl | rfl | rfl | rfl | rfl | rfl
  ·trivial
  ·trivial
  ·exact⟨show nx+1<nx+2 by omega,by show (stPl ρ nx y s (nx+1)).res=false;rw[q2]⟩
  ·exact⟨show nx<nx+2 by omega,by show (stPl ρ nx y s nx).res=false;rw[q1]⟩
  all_goals trivial
 ·unfold stPl
  rw[setPl_lt _ _ (Nat.lt_succ_of_lt hi),setPl_lt _ _ hi]
end
/-! ref12.Copied -/
def SlO {α:Type} (mem:AM) (sz:Nat) (enc:α→List Value) (d:α) (l:List α) (v:Value) (r:Nat):Prop:=
 ∃ n' cap t n el,v=slc r n' cap∧n'=l.length∧lk mem r=some (.row t sz n el)∧ownT t=true∧l.length≤n∧∀ k,k<l.length→el k=enc (l.getD k d)
theorem MemAt.slO {C:Ctx} {ρ:Nat→Pl} {mem:AM} {nx:Nat} {w:World} (h:MemAt C ρ mem nx w) (hbor:C.bor=[]) {α:Type} {enc:α→List Value} {sz:Nat} (hsz:∀ x,(enc x).length=sz) (hpos:0<sz) {l:List α} {d:α} {v:Value} {r:Nat} (hi:SlO mem sz enc d l v r) :
  ∃ c b,den1 ρ v=.slice (ρ r).A l.length c∧OwnL C.w0.heap.size w (ρ r).A sz enc d l b∧(l≠[]→bno ρ r=some b):=by
 obtain⟨n',cap,t,n,el,rfl,rfl,h1,h0,h2,h3⟩:=hi
 obtain⟨q1,q2,q3⟩:=h.blk r _ h1
 by_cases hl:l=[]
 ·refine⟨cap,0,rfl,⟨fun q=>absurd hl q,fun k hk=>by rw[hl] at hk;cases hk⟩,fun q=>absurd hl q⟩
 ·have hl0:0<l.length:=List.length_pos_iff.2 hl
  rcases q3 with q | ⟨b,off,hA,hat,hc⟩
  ·omega
  ·obtain⟨rfl,hb,ty,cs,hblk⟩:=hat.own h0
   refine⟨cap,b,rfl,⟨fun _=>⟨hA,Ctx.ok_nil hbor hb,ty,cs,hblk⟩,fun k hk j v hv=>?_⟩,fun _=>by simp[bno,hA]⟩
   have:=hc k (by omega) j v (by rw[h3 k hk];exact hv)
   rw[Nat.zero_add] at this
   exact this
set_option maxRecDepth 100000 in
set_option maxHeartbeats 4000000 in
theorem copied_sx (y:StK) (s:St) (hm:s.tenants.length≤1000000) (hm2:s.cells.length≤1000000) :
  sx tt [] [] (bodyOf Tryz.f135) (argF 0 [stV SN1 y s]) (rdM noC s noS) 10 (endx tt Tryz.f135.results.toList fun v mem' _=>∃ T Cc rT rC,rT≠rC∧v=.agg #[.int .i64 s.tick,.int .i64 s.count,T,Cc,.int .i64 s.proven,.int .i64 s.evac,.int .i64 s.low,.int .i64 s.high]∧SlO mem' 12 tsC default s.tenants T rT∧SlO mem' 4 csC default s.cells Cc rC):=by
 refine⟨⟨Nat.le_refl _,fun k hk=>rfl⟩,?_⟩
 refine⟨⟨rfl,Nat.le_refl _⟩,fun hin elT ⟨g1,_⟩ g2=>?_,fun hgt=>⟨by show (0+s.tenants.length) * 88≤140737488355328;omega,fun capT elT ⟨hcT,_⟩ g1 g2=>?_⟩⟩
 ·have helT:∀ k,k<s.tenants.length→elT k=tsC (s.tenants.getD k default):=fun k hk=>by have:=g2 k hk;rw[Nat.zero_add] at this;exact this
  clear g1 g2
  have hzT:s.tenants.length≤0:=by omega
  refine⟨⟨Nat.le_refl _,fun k hk=>rfl⟩,?_⟩
  refine⟨⟨rfl,Nat.le_refl _⟩,fun hin elC ⟨g1,_⟩ g2=>?_,fun hgt=>⟨by show (0+s.cells.length) * 32≤140737488355328;omega,fun capC elC ⟨hcC,_⟩ g1 g2=>?_⟩⟩
  ·have helC:∀ k,k<s.cells.length→elC k=csC (s.cells.getD k default):=fun k hk=>by have:=g2 k hk;rw[Nat.zero_add] at this;exact this
   clear g1 g2
   have hzC:s.cells.length≤0:=by omega
   exact⟨_,_,12,13,by decide,rfl,⟨_,_,_,_,elT,rfl,Nat.zero_add _,rfl,rfl,hzT,helT⟩,⟨_,_,_,_,elC,rfl,Nat.zero_add _,rfl,rfl,hzC,helC⟩⟩
  ·have helC:∀ k,k<s.cells.length→elC k=csC (s.cells.getD k default):=fun k hk=>by have:=g2 k hk;rw[Nat.zero_add] at this;exact this
   clear g1 g2
   have hzC:s.cells.length≤capC:=by omega
   exact⟨_,_,12,14,by decide,rfl,⟨_,_,_,_,elT,rfl,Nat.zero_add _,rfl,rfl,hzT,helT⟩,⟨_,_,_,_,elC,rfl,Nat.zero_add _,rfl,rfl,hzC,helC⟩⟩
 ·have helT:∀ k,k<s.tenants.length→elT k=tsC (s.tenants.getD k default):=fun k hk=>by have:=g2 k hk;rw[Nat.zero_add] at this;exact this
  clear g1 g2
  have hzT:s.tenants.length≤capT:=by omega
  refine⟨⟨Nat.le_refl _,fun k hk=>rfl⟩,?_⟩
  refine⟨⟨rfl,Nat.le_refl _⟩,fun hin elC ⟨g1,_⟩ g2=>?_,fun hgt=>⟨by show (0+s.cells.length) * 32≤140737488355328;omega,fun capC elC ⟨hcC,_⟩ g1 g2=>?_⟩⟩
  ·have helC:∀ k,k<s.cells.length→elC k=csC (s.cells.getD k default):=fun k hk=>by have:=g2 k hk;rw[Nat.zero_add] at this;exact this
   clear g1 g2
   have hzC:s.cells.length≤0:=by omega
   exact⟨_,_,13,14,by decide,rfl,⟨_,_,_,_,elT,rfl,Nat.zero_add _,rfl,rfl,hzT,helT⟩,⟨_,_,_,_,elC,rfl,Nat.zero_add _,rfl,rfl,hzC,helC⟩⟩
  ·have helC:∀ k,k<s.cells.length→elC k=csC (s.cells.getD k default):=fun k hk=>by have:=g2 k hk;rw[Nat.zero_add] at this;exact this
   clear g1 g2
   have hzC:s.cells.length≤capC:=by omega
   exact⟨_,_,13,15,by decide,rfl,⟨_,_,_,_,elT,rfl,Nat.zero_add _,rfl,rfl,hzT,helT⟩,⟨_,_,_,_,elC,rfl,Nat.zero_add _,rfl,rfl,hzC,helC⟩⟩
theorem rd_callsM {τ:TT} (hτ:TTok Tryz.prog τ) {f:FuncId} {fn:Func} {F:FT} {D:List (Nat×DQ)} (hF:FTokI Tryz.prog F (inlOf D)) (hf:(Tryz.prog).funcs[f]?=some fn) (hb:fn.body=some (bodyOf fn)) (hcode:codeB fn.ntmps D (bodyOf fn)=true) {vs:List Value} (hn:Nat.ble vs.length fn.ntmps=true)
  (x:CfgA) (c:Cfg) (y:StA) (s:St) (y2:StA) (s2:St) (w:World) (hc:CfgOk w (·<w.heap.size) x c) (hs:StOk w (·<w.heap.size) y s) (hs2:StOk w (·<w.heap.size) y2 s2) (hv:∀ v ∈ vs,okV (rpl x c y s y2 s2) 10 v) {R:Value→AM→Nat→Prop}
  (h:sx τ F D (bodyOf fn) (argF 0 vs) (rdM c s s2) 10 (endx τ fn.results.toList R)) :
  Calls Tryz.prog f (vs.map (den (rpl x c y s y2 s2))).toArray w fun e w'=>∃ v mem' nx' ρ',e=.returned (den ρ' v)∧R v mem' nx'∧okV ρ' nx' v∧MemAt { w0:=w,bor:=[],n0:=10,ρ0:=rpl x c y s y2 s2,nt:=fn.ntmps } ρ' mem' nx' w'∧Below w.heap.size w w':=by
 have hpc:CfgPl (rpl x c y s y2 s2) CN1 x c:=⟨rfl,rfl,rfl,rfl,rfl,rfl⟩
 have hps:StPl (rpl x c y s y2 s2) SN1 y s:=⟨rfl,rfl⟩
 have hps2:StPl (rpl x c y s y2 s2) SN2 y2 s2:=⟨rfl,rfl⟩
 have hm:MemAt { w0:=w,bor:=[],n0:=10,ρ0:=rpl x c y s y2 s2,nt:=fn.ntmps } (rpl x c y s y2 s2) (rdM c s s2) 10 w:=MemAt.rows trivial (cfg_blks hpc hc (fun b hb=>hb) (by decide) (st_blks hps hs (fun b hb=>hb) (by decide) (by
  have:=st_blks (C:={ w0:=w,bor:=[],n0:=10,ρ0:=rpl x c y s y2 s2,nt:=fn.ntmps }) (nx:=10) (r:=[]) hps2 hs2 (fun b hb=>hb) (by decide) trivial
  exact this)))
 refine (calls_sxI hτ hF mixed hf hb hcode (vs:=vs) hn ⟨rfl,rfl⟩ rfl hm hv h).mono ?_
 rintro e w' ⟨v,mem',nx',ρ',rfl,hR,hv',hm'⟩
 exact⟨v,mem',nx',ρ',rfl,hR,hv',hm',⟨hm'.rest.os,hm'.rest.tape,hm'.rest.output,hm'.rest.size,fun b hlt=>hm'.rest.block b hlt (by simp)⟩⟩
theorem Sat.stRow {C:Ctx} {ρ:Nat→Pl} {fr:AF} {mem:AM} {nx:Nat} {a:Act} {w:World} (h:Sat C ρ fr mem nx a w) {M:SN} {y:StK} {s:St} (h1:HasRow mem M.t 12 tsC default s.tenants) (h2:HasRow mem M.c 4 csC default s.cells):StOk w (·<w.heap.size) (stX ρ M y) s:=
 ⟨h.hasRd (enc:=tsC) (sz:=12) (fun _=>rfl) (by omega) h1,h.hasRd (enc:=csC) (sz:=4) (fun _=>rfl) (by omega) h2⟩
theorem MemAt.own2 {C:Ctx} {ρ:Nat→Pl} {mem:AM} {nx:Nat} {w:World} (hm:MemAt C ρ mem nx w) (hbor:C.bor=[]) {s:St} {T Cc:Value} {rT rC:Nat} (hne:rT≠rC) (hT:SlO mem 12 tsC default s.tenants T rT) (hC:SlO mem 4 csC default s.cells Cc rC) :
  ∃ y2,den2 ρ (.agg #[.int .i64 s.tick,.int .i64 s.count,T,Cc,.int .i64 s.proven,.int .i64 s.evac,.int .i64 s.low,.int .i64 s.high])=.agg (stC y2 s)∧StOwn2 C.w0.heap.size w y2 s:=by
 obtain⟨c1,b1,e1,o1,p1⟩:=hm.slO hbor (enc:=tsC) (sz:=12) (fun _=>rfl) (by omega) hT
 obtain⟨c2,b2,e2,o2,p2⟩:=hm.slO hbor (enc:=csC) (sz:=4) (fun _=>rfl) (by omega) hC
 refine⟨⟨(ρ rT).A,c1,(ρ rC).A,c2⟩,?_,⟨b1,b2,o1,o2,fun h1 h2=>?_⟩⟩
 ·have d:∀ v,den1 ρ (.int .i64 v)=.int .i64 v:=fun _=>rfl
  simp[den,den2,stC,d,e1,e2]
 ·obtain⟨_,_,_,n1,_,_,_,l1,t1,g1,_⟩:=hT
  obtain⟨_,_,_,n2,_,_,_,l2,t2,g2,_⟩:=hC
  have hl1:0<s.tenants.length:=List.length_pos_iff.2 h1
  have hl2:0<s.cells.length:=List.length_pos_iff.2 h2
  have:=hm.sep rT rC _ _ hne l1 l2
  simp only[Apart] at this
  rcases this t1 with q | q | q
  ·omega
  ·omega
  ·rw[p1 h1,p2 h2] at q
   exact fun h=>q (by rw[h])
theorem OwnL.rd {α:Type} {B:Nat} {w:World} {A:Option Addr} {sz:Nat} {enc:α→List Value} {d:α} {l:List α} {b:Nat} (h:OwnL B w A sz enc d l b) (hs:∀ x,(enc x).length=sz) (hpos:0<sz):Rd w (fun b=>B≤b∧b<w.heap.size) A (flat enc l):=by
 intro hne
 have hl:l≠[]:=fun q=>hne (by rw[q];rfl)
 obtain⟨hA,hb,ty,cs,hblk⟩:=h.at_ hl
 refine⟨b,0,hA,⟨hb,hblk.lt⟩,fun j v hv=>?_⟩
 obtain⟨x,h1,h2⟩:=flat_at hs hpos l j v hv
 have hlt:j / sz<l.length:=(List.getElem?_eq_some_iff.1 h1).1
 have hx:l.getD (j / sz) d=x:=by rw[List.getD_eq_getElem?_getD,h1];rfl
 have:=h.cells (j / sz) hlt (j % sz) v (by rw[hx];exact h2)
 rw[Nat.zero_add]
 have e:j / sz * sz+j % sz=j:=by rw[Nat.mul_comm];exact Nat.div_add_mod j sz
 rw[e] at this
 exact this
theorem StOwn2.ok {B:Nat} {w:World} {y:StA} {s:St} (h:StOwn2 B w y s):StOk w (fun b=>B≤b∧b<w.heap.size) y s:=by
 obtain⟨bt,bc,ht,hc,-⟩:=h.ex
 exact⟨ht.rd (fun _=>rfl) (by omega),hc.rd (fun _=>rfl) (by omega)⟩
theorem StOwn2.zero (B:Nat) (w:World):StOwn2 B w noA St.zero:=
 ⟨0,0,⟨fun q=>absurd rfl q,fun k hk=>absurd hk (by simp[St.zero])⟩,⟨fun q=>absurd rfl q,fun k hk=>absurd hk (by simp[St.zero])⟩,fun q=>absurd rfl q⟩
set_option maxHeartbeats 400000 in
theorem r4Has_any (set i:Int) (w:World) (h0:0≤set) (h1:set<4294967296) :
  Calls Tryz.prog 147 #[.int .i64 set,.int .i64 i] w fun e w'=>e=.returned (.bool (hasB set i))∧w=w':=by
 have HB:=Lib.hid (bit_div set i h0)
 go_enter Tryz.func147,Tryz.ntmps147
 go_wp2
 all_goals
  go_ret
  refine⟨ret_bool ?_,rfl⟩
 ·rw[HB.out (by omega)]
  simp[hasB, *]
 ·simp[hasB]
  omega
 ·simp[hasB]
  omega
set_option maxHeartbeats 400000 in
theorem r4ZoneOf_any (x:CfgA) (c:Cfg) (k:Int) (w:World) (hV:CfgV c) (hok:CfgOk w (·<w.heap.size) x c) :
  Calls Tryz.prog 200 #[.agg (cfgC x c),.int .i64 k] w fun e w'=>e=.returned (.int .i64 (zoneOf c k))∧Below w.heap.size w w':=by
 obtain⟨az,cz,ac,cc,at_,ct,av,cv,ar,cr,ao,co⟩:=x
 have hnc:=hV.nc
 have HK:=Lib.hid hok
 clear hok hV
 unfold cfgC
 simp only
 by_cases hk:0≤k∧k<c.cells.length
 ·obtain⟨hk0,hk1⟩:=hk
  obtain⟨n,rfl⟩:=Int.eq_ofNat_of_zero_le hk0
  have hn:n<c.cells.length:=by omega
  obtain⟨b,off,z,rfl,hb,hz,hcell⟩:=HK.out.cells.row (enc:=pairC) (sz:=2) (fun _=>rfl) (by omega) hn
  have e0:=hcell 0 (.int .i64 z.1) rfl
  simp only[Nat.add_zero] at e0
  have hzo:zoneOf c n=z.1:=by unfold zoneOf;rw[if_pos ⟨hk0,hk1⟩,Int.toNat_natCast,getD_some hz]
  have HZ:=Lib.hid hzo
  have hb1:b<w.heap.size:=hb
  clear hcell hz hzo
  go_enter Tryz.func200,Tryz.ntmps200
  go_wp2
  go_ret
  exact⟨ret_i64 HZ.out.symm,(Below.refl _ _).alloc (Nat.le_refl _) _⟩
 ·have hzo:zoneOf c k=-1:=by unfold zoneOf;rw[if_neg hk]
  have HZ:=Lib.hid hzo
  have hd:k<0∨(0≤k∧(c.cells.length:Int)≤k):=by omega
  clear hk hzo
  rcases hd with hd | ⟨hd1,hd⟩
  all_goals
   go_enter Tryz.func200,Tryz.ntmps200
   go_wp2
   go_ret
   exact⟨ret_i64 HZ.out.symm,(Below.refl _ _).alloc (Nat.le_refl _) _⟩
theorem zoneOf_bd {c:Cfg} (hV:CfgV c) (k:Int):(zoneOf c k=-1)∨(0≤zoneOf c k∧zoneOf c k<c.zones.length):=by
 unfold zoneOf
 split
 ·rename_i h
  obtain⟨n,rfl⟩:=Int.eq_ofNat_of_zero_le h.1
  have hn:n<c.cells.length:=by omega
  right
  rw[List.getD_eq_getElem?_getD,Int.toNat_natCast,List.getElem?_eq_getElem hn]
  exact hV.zone _ (List.getElem_mem hn)
 ·exact .inl rfl
set_option maxHeartbeats 400000 in
theorem r4RegionOf_any (x:CfgA) (c:Cfg) (k:Int) (w:World) (hV:CfgV c) (hok:CfgOk w (·<w.heap.size) x c) :
  Calls Tryz.prog 192 #[.agg (cfgC x c),.int .i64 k] w fun e w'=>e=.returned (.int .i64 (regionOf c k))∧Below w.heap.size w w':=by
 obtain⟨az,cz,ac,cc,at_,ct,av,cv,ar,cr,ao,co⟩:=x
 have hnc:=hV.nz
 have HV:=Lib.hid hV
 have HK:=Lib.hid hok
 have hzb:=zoneOf_bd hV k
 clear hok hV
 unfold cfgC
 simp only
 go_enter Tryz.func192,Tryz.ntmps192
 go_wp2_with fail
 refine (r4ZoneOf_any ⟨az,cz,ac,cc,at_,ct,av,cv,ar,cr,ao,co⟩ c k _ HV.out (HK.out.allocW _)).mono ?_
 rintro e w1 ⟨rfl,hb1⟩
 have HB:Hid (Below w.heap.size w w1):=((Below.refl _ _).alloc (Nat.le_refl _) _).trans (hb1.mono (by simp))
 obtain⟨hc1,hf1⟩:=bcell hb1
 have HR:Hid (regionOf c k=regZone c (zoneOf c k)):=rfl
 generalize zoneOf c k=z at *
 rcases hzb with rfl | ⟨hz0,hz1⟩
 ·clear hc1 hf1 hb1
  go_wp2
  go_ret
  exact⟨ret_i64 (by rw[HR.out];simp[regZone]),HB.out⟩
 ·obtain⟨n,rfl⟩:=Int.eq_ofNat_of_zero_le hz0
  have hn:n<c.zones.length:=by omega
  obtain⟨b,off,z,rfl,hb,hz,hcell⟩:=HK.out.zones.row (enc:=intC) (sz:=1) (fun _=>rfl) (by omega) hn
  have e0:=hcell 0 (.int .i64 z) rfl
  simp only[Nat.add_zero,Nat.mul_one] at e0
  have hzo:regZone c n=z:=by unfold regZone;rw[if_pos ⟨hz0,hz1⟩,Int.toNat_natCast,getD_some hz]
  have HZ:=Lib.hid (HR.out.trans hzo)
  have hb0:b<w.heap.size:=hb
  have e1:w1.cell? ⟨b,off+n,none⟩=some (.int .i64 z):=by rw[hc1 b _ (by simp;omega),World.cell?_alloc_lt w _ _ (show b<w.heap.size from hb)];exact e0
  have d1:w1.cell? ⟨w.heap.size,1,none⟩=some (.slice (some ⟨b,off,none⟩) c.zones.length cz):=by rw[hc1 _ _ (by simp)];go_simp
  clear hcell hz hzo hc1 hf1 hb1 HR e0
  go_wp2
  go_ret
  exact⟨ret_i64 HZ.out.symm,HB.out⟩
instance laterNonempty {B:Nat} {w:World}:Nonempty (Later B w):=⟨⟨w,Below.refl _ _⟩⟩
section
variable {P:Program}
theorem quiet_belowW {w:World} (x:Later w.heap.size w) {f:FuncId} {args:Array Value} {v:Value}
  (h:Calls P f args x.world fun e w'=>e=.returned v∧Below x.world.heap.size x.world w'):Calls P f args x.world fun e w''=>e=.returned v∧∃ y:Later w.heap.size w,w''=y.world:=
 h.mono fun _ w' ⟨he,hb⟩=>⟨he,⟨⟨w',x.below.trans (hb.mono x.below.size)⟩,rfl⟩⟩
theorem quiet_sameW {B:Nat} {w:World} (x:Later B w) {f:FuncId} {args:Array Value} {v:Value}
  (h:Calls P f args x.world fun e w'=>e=.returned v∧x.world=w'):Calls P f args x.world fun e w''=>e=.returned v∧∃ y:Later B w,w''=y.world:=
 h.mono fun _ w' ⟨he,hb⟩=>⟨he,⟨x,hb.symm⟩⟩
end
theorem CfgOk.laterW {w:World} {x:CfgA} {c:Cfg} (h:CfgOk w (·<w.heap.size) x c) (y:Later w.heap.size w):CfgOk y.world (·<y.world.heap.size) x c:=h.belowW y.below
theorem StOk.laterW {w:World} {x:StA} {c:St} (h:StOk w (·<w.heap.size) x c) (y:Later w.heap.size w):StOk y.world (·<y.world.heap.size) x c:=h.belowW y.below
set_option maxHeartbeats 1000000 in
theorem r5Apart_any (x:CfgA) (c:Cfg) (a b:Int) (w:World) (hV:CfgV c) (hok:CfgOk w (·<w.heap.size) x c) :
  Calls Tryz.prog 182 #[.agg (cfgC x c),.int .i64 a,.int .i64 b] w fun e w'=>e=.returned (.bool (apartB c a b))∧Below w.heap.size w w':=by
 obtain⟨az,cz,ac,cc,at_,ct,av,cv,ar,cr,ao,co⟩:=x
 have HV:=Lib.hid hV
 have HK:=Lib.hid hok
 have HL:=Lib.hid ((Below.refl w.heap.size w).alloc (Nat.le_refl _) (.cells (cfgC ⟨az,cz,ac,cc,at_,ct,av,cv,ar,cr,ao,co⟩ c) 31))
 have HW:=Lib.hid (HK.out.allocW (.cells (cfgC ⟨az,cz,ac,cc,at_,ct,av,cv,ar,cr,ao,co⟩ c) 31))
 have hBx:=Blk.new w 31 (cfgC ⟨az,cz,ac,cc,at_,ct,av,cv,ar,cr,ao,co⟩ c)
 have hg:=hBx.lt
 have d0:=hBx.cell' (i:=0) (v:=.int .i64 c.regions) rfl
 have d1:=hBx.cell' (i:=1) (v:=.slice az c.zones.length cz) rfl
 have d2:=hBx.cell' (i:=2) (v:=.slice ac c.cells.length cc) rfl
 have d3:=hBx.cell' (i:=3) (v:=.slice at_ c.tenants.length ct) rfl
 have d4:=hBx.cell' (i:=4) (v:=.slice av c.versions.length cv) rfl
 have d5:=hBx.cell' (i:=5) (v:=.slice ar c.replicas.length cr) rfl
 have d6:=hBx.cell' (i:=6) (v:=.slice ao c.observers.length co) rfl
 have d7:=hBx.cell' (i:=7) (v:=.int .i64 c.blast) rfl
 have d8:=hBx.cell' (i:=8) (v:=.int .i64 c.lease) rfl
 have d9:=hBx.cell' (i:=9) (v:=.int .i64 c.bake) rfl
 clear hBx
 unfold cfgC at HL HW d0 d1 d2 d3 d4 d5 d6 d7 d8 d9 hg
 simp only at HL HW d0 d1 d2 d3 d4 d5 d6 d7 d8 d9 hg
 clear hok hV HK
 unfold cfgC
 simp only
 go_enter Tryz.func182,Tryz.ntmps182
 go_wp2_with fail
 generalize w.alloc _=W at *
 have hx:∀ (y:Later W.heap.size W) b o,b<W.heap.size→y.world.cell? ⟨b,o,none⟩=W.cell? ⟨b,o,none⟩:=fun y b o h=>y.cell h
 refine wp_region_below W.heap.size (by kernel_rfl) (by kernel_rfl) ?_
 repeat (quiet_step ((go_at_call 192;exact quiet_belowW _ (r4RegionOf_any ⟨az,cz,ac,cc,at_,ct,av,cv,ar,cr,ao,co⟩ c _ _ HV.out (HW.out.laterW _)))))
 refine wpQuiet_nil ?_
 rintro w' ⟨y,rfl⟩
 have HY:=Lib.hid (HL.out.trans (y.below.mono (Nat.le_of_lt hg)))
 have HA:Hid (apartB c a b=(decide (0≤regionOf c a)&&decide (0≤regionOf c b)&&decide (regionOf c a≠regionOf c b))):=Lib.hid rfl
 generalize regionOf c a=ra at *
 generalize regionOf c b=rb at *
 clear hx d0 d1 d2 d3 d4 d5 d6 d7 d8 d9 hg
 go_wp2
 all_goals
  go_ret
  refine⟨ret_bool ?_,HY.out⟩
  rw[HA.out,Bool.eq_iff_iff]
  go_light
  simp
  try omega
theorem tenAt_bd {c:Cfg} (hV:CfgV c) {n:Nat} {t:Ten} (h:c.tenants[n]?=some t):1≤t.load∧t.load≤65536∧0≤t.shadow∧t.shadow≤t.load∧1≤t.allowed∧t.allowed≤15:=by
 have h1:=hV.ten t (List.mem_of_getElem? h)
 have h2:2≤shl1 c.regions∧shl1 c.regions≤16:=by unfold shl1;repeat' split<;>omega
 simp[tenOk,inR] at h1
 omega
set_option maxHeartbeats 1000000 in
theorem r5May_any (x:CfgA) (c:Cfg) (t k:Int) (w:World) (hV:CfgV c) (hok:CfgOk w (·<w.heap.size) x c) :
  Calls Tryz.prog 175 #[.agg (cfgC x c),.int .i64 t,.int .i64 k] w fun e w'=>e=.returned (.bool (mayB c t k))∧Below w.heap.size w w':=by
 obtain⟨az,cz,ac,cc,at_,ct,av,cv,ar,cr,ao,co⟩:=x
 have HV:=Lib.hid hV
 have HK:=Lib.hid hok
 have hnt:=hV.nt
 clear hok hV
 by_cases ht:0≤t∧t<c.tenants.length
 ·obtain⟨ht0,ht1⟩:=ht
  obtain⟨n,rfl⟩:=Int.eq_ofNat_of_zero_le ht0
  have hn:n<c.tenants.length:=by omega
  obtain⟨b,off,z,rfl,hb,hz,hcell⟩:=HK.out.tenants.row (enc:=tenC) (sz:=7) (fun _=>rfl) (by omega) hn
  have e4:=hcell 4 (.int .i64 z.allowed) rfl
  have hzb:=tenAt_bd HV.out hz
  have hm:mayB c n k=hasB z.allowed (regionOf c k):=by
   unfold mayB tenAt
   rw[Int.toNat_natCast,getD_some hz]
   simp[hn]
  have HM:=Lib.hid hm
  have hb1:b<w.heap.size:=hb
  have HL:=Lib.hid ((Below.refl w.heap.size w).alloc (Nat.le_refl _) (.cells (cfgC ⟨az,cz,ac,cc,some ⟨b,off,none⟩,ct,av,cv,ar,cr,ao,co⟩ c) 31))
  have HW:=Lib.hid (HK.out.allocW (.cells (cfgC ⟨az,cz,ac,cc,some ⟨b,off,none⟩,ct,av,cv,ar,cr,ao,co⟩ c) 31))
  have hBx:=Blk.new w 31 (cfgC ⟨az,cz,ac,cc,some ⟨b,off,none⟩,ct,av,cv,ar,cr,ao,co⟩ c)
  have hg:=hBx.lt
  have d0:=hBx.cell' (i:=0) (v:=.int .i64 c.regions) rfl
  have d1:=hBx.cell' (i:=1) (v:=.slice az c.zones.length cz) rfl
  have d2:=hBx.cell' (i:=2) (v:=.slice ac c.cells.length cc) rfl
  have d3:=hBx.cell' (i:=3) (v:=.slice (some ⟨b,off,none⟩) c.tenants.length ct) rfl
  have d4:=hBx.cell' (i:=4) (v:=.slice av c.versions.length cv) rfl
  have d5:=hBx.cell' (i:=5) (v:=.slice ar c.replicas.length cr) rfl
  have d6:=hBx.cell' (i:=6) (v:=.slice ao c.observers.length co) rfl
  have d7:=hBx.cell' (i:=7) (v:=.int .i64 c.blast) rfl
  have d8:=hBx.cell' (i:=8) (v:=.int .i64 c.lease) rfl
  have d9:=hBx.cell' (i:=9) (v:=.int .i64 c.bake) rfl
  clear hBx
  unfold cfgC at HL HW d0 d1 d2 d3 d4 d5 d6 d7 d8 d9 hg
  simp only at HL HW d0 d1 d2 d3 d4 d5 d6 d7 d8 d9 hg
  have e4':(w.alloc (.cells (cfgC ⟨az,cz,ac,cc,some ⟨b,off,none⟩,ct,av,cv,ar,cr,ao,co⟩ c) 31)).cell? ⟨b,off+n * 7+4,none⟩=some (.int .i64 z.allowed):=by
   rw[World.cell?_alloc_lt w _ _ (show b<w.heap.size from hb)];exact e4
  have hb2:b<(w.alloc (.cells (cfgC ⟨az,cz,ac,cc,some ⟨b,off,none⟩,ct,av,cv,ar,cr,ao,co⟩ c) 31)).heap.size:=Nat.lt_trans hb1 hg
  unfold cfgC at *
  simp only at *
  clear HK hcell hz hm e4
  go_enter Tryz.func175,Tryz.ntmps175
  go_wp2_with fail
  generalize w.alloc _=W at *
  have hx:∀ (y:Later W.heap.size W) b o,b<W.heap.size→y.world.cell? ⟨b,o,none⟩=W.cell? ⟨b,o,none⟩:=fun y b o h=>y.cell h
  refine wp_region_below W.heap.size (by kernel_rfl) (by kernel_rfl) ?_
  repeat (first | go_big_quiet_step ((first | (go_at_call 192;exact quiet_belowW _ (r4RegionOf_any ⟨az,cz,ac,cc,some ⟨b,off,none⟩,ct,av,cv,ar,cr,ao,co⟩ c _ _ HV.out (HW.out.laterW _))) | (go_at_call 147;exact quiet_sameW _ (r4Has_any _ _ _ (by omega) (by omega))))) | quiet_step ((first | (go_at_call 192;exact quiet_belowW _ (r4RegionOf_any ⟨az,cz,ac,cc,some ⟨b,off,none⟩,ct,av,cv,ar,cr,ao,co⟩ c _ _ HV.out (HW.out.laterW _))) | (go_at_call 147;exact quiet_sameW _ (r4Has_any _ _ _ (by omega) (by omega))))))
  refine wpQuiet_nil ?_
  rintro w' ⟨y,rfl⟩
  have HY:=Lib.hid (HL.out.trans (y.below.mono (Nat.le_of_lt hg)))
  clear hx d0 d1 d2 d3 d4 d5 d6 d7 d8 d9 hg e4' hb1 hb2
  go_wp2
  go_ret
  exact⟨ret_bool HM.out.symm,HY.out⟩
 ·have hm:mayB c t k=false:=by unfold mayB;simp;intro h1 h2;omega
  have HM:=Lib.hid hm
  have hd:decide (0≤t)=false∨(decide (0≤t)=true∧0≤t∧decide (t<(c.tenants.length:Int))=false):=by
   by_cases h0:0≤t
   ·right
    refine⟨by simpa using h0,h0,?_⟩
    simp
    omega
   ·left;simpa using h0
  have HL:=Lib.hid ((Below.refl w.heap.size w).alloc (Nat.le_refl _) (.cells (cfgC ⟨az,cz,ac,cc,at_,ct,av,cv,ar,cr,ao,co⟩ c) 31))
  have HW:=Lib.hid (HK.out.allocW (.cells (cfgC ⟨az,cz,ac,cc,at_,ct,av,cv,ar,cr,ao,co⟩ c) 31))
  have hBx:=Blk.new w 31 (cfgC ⟨az,cz,ac,cc,at_,ct,av,cv,ar,cr,ao,co⟩ c)
  have hg:=hBx.lt
  have d0:=hBx.cell' (i:=0) (v:=.int .i64 c.regions) rfl
  have d1:=hBx.cell' (i:=1) (v:=.slice az c.zones.length cz) rfl
  have d2:=hBx.cell' (i:=2) (v:=.slice ac c.cells.length cc) rfl
  have d3:=hBx.cell' (i:=3) (v:=.slice at_ c.tenants.length ct) rfl
  have d4:=hBx.cell' (i:=4) (v:=.slice av c.versions.length cv) rfl
  have d5:=hBx.cell' (i:=5) (v:=.slice ar c.replicas.length cr) rfl
  have d6:=hBx.cell' (i:=6) (v:=.slice ao c.observers.length co) rfl
  have d7:=hBx.cell' (i:=7) (v:=.int .i64 c.blast) rfl
  have d8:=hBx.cell' (i:=8) (v:=.int .i64 c.lease) rfl
  have d9:=hBx.cell' (i:=9) (v:=.int .i64 c.bake) rfl
  clear hBx
  unfold cfgC at HL HW d0 d1 d2 d3 d4 d5 d6 d7 d8 d9 hg
  simp only at HL HW d0 d1 d2 d3 d4 d5 d6 d7 d8 d9 hg
  unfold cfgC
  simp only
  clear hm ht HK
  rcases hd with hd | ⟨hd1,hd2,hd3⟩
  all_goals
   go_enter Tryz.func175,Tryz.ntmps175
   go_wp2_with fail
   generalize w.alloc _=W at *
   have hx:∀ (y:Later W.heap.size W) b o,b<W.heap.size→y.world.cell? ⟨b,o,none⟩=W.cell? ⟨b,o,none⟩:=fun y b o h=>y.cell h
   refine wp_region_below W.heap.size (by kernel_rfl) (by kernel_rfl) ?_
   repeat (first | go_big_quiet_step (fail) | quiet_step (fail))
   refine wpQuiet_nil ?_
   rintro w' ⟨y,rfl⟩
   have HY:=Lib.hid (HL.out.trans (y.below.mono (Nat.le_of_lt hg)))
   clear hx d0 d1 d2 d3 d4 d5 d6 d7 d8 d9 hg
   go_wp2
   go_ret
   exact⟨ret_bool HM.out.symm,HY.out⟩
def pickK (p:Nat→Bool) (k:Nat):List Int:=((List.range k).filter p).map Int.ofNat
theorem pickK_succ (p:Nat→Bool) (k:Nat):pickK p (k+1)=if p k then pickK p k++[(k:Int)] else pickK p k:=by
 unfold pickK
 rw[List.range_succ,List.filter_append,List.map_append]
 by_cases h:p k<;>simp[h]
theorem pickK_len (p:Nat→Bool) (k:Nat):(pickK p k).length≤k:=by
 unfold pickK
 rw[List.length_map]
 exact Nat.le_trans (List.length_filter_le _ _) (by simp)
theorem r5intInfo:(Tryz.prog.info? 3).map (fun i=>(i.zero,i.size,i.bytes))=some (some (.int .i64 0),1,8):=by kernel_rfl
theorem flat_snoc5 {α:Type} (enc:α→List Value) (l:List α) (a:α):flat enc l++enc a=flat enc (l++[a]):=by simp[flat]
theorem own_base {w:World} {base base':Nat} {e:TypeId} {size:Nat} {v:Value} {n:Nat} {xs:List Value} (h:w.ownsRow base e size v n xs) (hb:base'≤base):w.ownsRow base' e size v n xs:=by
 refine⟨h.1,h.2.imp id ?_⟩
 rintro⟨g,cap,cur,rfl,hg,rest⟩
 exact⟨g,cap,cur,rfl,Nat.le_trans hb hg,rest⟩
def IntsPost (w:World) (l:List Int) (e:Ending) (w':World):Prop:=
 ∃ (A:Option Addr) (cp:Nat),e=.returned (.slice A l.length cp)∧w'.ownsRow w.heap.size 3 1 (.slice A l.length cp) l.length (flat intC l)∧Below w.heap.size w w'
def r5HomesRel (W:World) (p:Nat→Bool) (N gk:Nat) (so si:Value) (wr:World):Prop:=
 ∃ (k:Nat) (A:Option Addr) (cp:Nat),gk+k=N∧si=.int .i64 k∧so=.slice A (pickK p k).length cp∧wr.ownsRow W.heap.size 3 1 (.slice A (pickK p k).length cp) (pickK p k).length (flat intC (pickK p k))∧Below W.heap.size W wr
set_option maxHeartbeats 2000000 in
theorem r5Homes_any (x:CfgA) (c:Cfg) (t:Int) (w:World) (hV:CfgV c) (hok:CfgOk w (·<w.heap.size) x c) :
  Calls Tryz.prog 152 #[.agg (cfgC x c),.int .i64 t] w (IntsPost w (pickK (fun (n:Nat)=>mayB c t n) c.cells.length)):=by
 obtain⟨az,cz,ac,cc,at_,ct,av,cv,ar,cr,ao,co⟩:=x
 obtain⟨ii,hii,hi0,hi1,hi2⟩:=info_parts r5intInfo
 have HV:=Lib.hid hV
 have HK:=Lib.hid hok
 have hnc:=hV.nc
 have HL:=Lib.hid ((Below.refl w.heap.size w).alloc (Nat.le_refl _) (.cells (cfgC ⟨az,cz,ac,cc,at_,ct,av,cv,ar,cr,ao,co⟩ c) 31))
 have HW:=Lib.hid (HK.out.allocW (.cells (cfgC ⟨az,cz,ac,cc,at_,ct,av,cv,ar,cr,ao,co⟩ c) 31))
 have hBx:=Blk.new w 31 (cfgC ⟨az,cz,ac,cc,at_,ct,av,cv,ar,cr,ao,co⟩ c)
 have hg:=hBx.lt
 have d0:=hBx.cell' (i:=0) (v:=.int .i64 c.regions) rfl
 have d1:=hBx.cell' (i:=1) (v:=.slice az c.zones.length cz) rfl
 have d2:=hBx.cell' (i:=2) (v:=.slice ac c.cells.length cc) rfl
 have d3:=hBx.cell' (i:=3) (v:=.slice at_ c.tenants.length ct) rfl
 have d4:=hBx.cell' (i:=4) (v:=.slice av c.versions.length cv) rfl
 have d5:=hBx.cell' (i:=5) (v:=.slice ar c.replicas.length cr) rfl
 have d6:=hBx.cell' (i:=6) (v:=.slice ao c.observers.length co) rfl
 have d7:=hBx.cell' (i:=7) (v:=.int .i64 c.blast) rfl
 have d8:=hBx.cell' (i:=8) (v:=.int .i64 c.lease) rfl
 have d9:=hBx.cell' (i:=9) (v:=.int .i64 c.bake) rfl
 clear hBx
 unfold cfgC at HL HW d0 d1 d2 d3 d4 d5 d6 d7 d8 d9 hg
 simp only at HL HW d0 d1 d2 d3 d4 d5 d6 d7 d8 d9 hg
 clear hok hV HK
 obtain⟨pd,hpd⟩:∃ pd:Nat→Bool,pd=fun (n:Nat)=>mayB c t n:=⟨_,rfl⟩
 have HP:=Lib.hid hpd
 rw[← hpd]
 clear hpd
 unfold cfgC
 simp only
 go_enter Tryz.func152,Tryz.ntmps152
 go_wp2_with fail
 generalize w.alloc _=W at *
 go_loopg [5,6] c.cells.length (fun gk so si wr=>r5HomesRel W pd c.cells.length gk so si wr)
 case atStart=>exact⟨0,none,0,rfl,rfl,rfl,World.ownsRow_nil _ _ _ _,Below.refl _ _⟩
 case round=>
  rename_i J K aJ aK
  obtain⟨k,A,cp,hgk,rfl,rfl,hown,hbel⟩:=hrel
  have HO:=Lib.hid hown
  have HB:=Lib.hid hbel
  have hsz:=hbel.size
  have hlen:=pickK_len pd k
  obtain⟨hc,hf⟩:=bcell hbel
  clear hown hbel hf
  by_cases hk:k<c.cells.length
  ·have hlt:(k:Int)<(c.cells.length:Int):=by omega
   have hsucc:=pickK_succ pd k
   have HS:=Lib.hid hsucc
   clear hsucc
   go_wp2_with fail
   refine (r5May_any ⟨az,cz,ac,cc,at_,ct,av,cv,ar,cr,ao,co⟩ c t k wr HV.out (HW.out.belowW HB.out)).mono ?_
   rintro e wz ⟨rfl,hb1⟩
   have HB1:=Lib.hid (HB.out.trans (hb1.mono hsz))
   have HO1:=Lib.hid (own_below HO.out hb1 fun j hj=>(HO.out.lt j hj).2)
   clear hb1
   by_cases hp:pd k=true
   ·have hp2:mayB c t k=true:=by rw[HP.out] at hp;exact hp
    clear hc
    go_wp2_with (at_builtin;refine wpList_append_lies _ rfl _ _ _ rfl W.heap.size 3 ii _ 1 8 Tryz.underlying22 hii hi0 hi1 hi2 rfl (by omega) _ (pickK pd k).length (flat intC (pickK pd k)) rfl (HO1.out.alloc _) ⟨wz.heap.size,0,none⟩ 1 1 [.int .i64 k] rfl rfl ?c1 ?c2 ?c0 ?c3 ?c4 ?c5 (wz.heap.size+1) ?c6 ?_)
    case c1=>exact World.news_of_block (cs:=#[.int .i64 k]) (heap_alloc_new _ _)
    case c2=>simp[Value.oneCell']
    case c0=>omega
    case c3=>unfold maxLen;omega
    case c4=>omega
    case c5=>have:=HB1.out.size;simp;omega
    case c6=>simp
    intro gg cq w9 hown9 hg9 hat9 hlt9
    have HB9:=Lib.hid ((HB1.out.alloc HB1.out.size _).grown hg9 (by have:=HB1.out.size;simp;omega) (fun j hj=>(HO1.out.lt j hj).1))
    have HX:Hid (w9.ownsRow W.heap.size 3 1 (.slice (some ⟨gg,0,none⟩) (pickK pd (k+1)).length cq) (pickK pd (k+1)).length (flat intC (pickK pd (k+1)))):=by
     refine Lib.hid ?_;rw[HS.out,if_pos hp,← flat_snoc5,List.length_append];exact hown9
    have hl9:(pickK pd (k+1)).length=(pickK pd k).length+1:=by rw[HS.out,if_pos hp,List.length_append];rfl
    have HL9:=Lib.hid hl9
    clear hown9 hg9 hat9 hlt9 HO1 HB1 HO HB hl9
    go_wp2
    go_roundg (gk-1)
    case measure=>omega
    case rel=>exact⟨k+1,some ⟨gg,0,none⟩,cq,by omega,by go_num,by rw[HL9.out],HX.out,HB9.out⟩
   ·have hp:pd k=false:=by simpa using hp
    have hp2:mayB c t k=false:=by rw[HP.out] at hp;exact hp
    clear hc
    have HX:Hid (wz.ownsRow W.heap.size 3 1 (.slice A (pickK pd (k+1)).length cp) (pickK pd (k+1)).length (flat intC (pickK pd (k+1)))):=by
     refine Lib.hid ?_;rw[HS.out,if_neg (by simp[hp])];exact HO1.out
    have hl9:(pickK pd (k+1)).length=(pickK pd k).length:=by rw[HS.out,if_neg (by simp[hp])]
    have HL9:=Lib.hid hl9
    clear HO HB hl9
    go_wp2
    go_roundg (gk-1)
    case measure=>omega
    case rel=>exact⟨k+1,A,cp,by omega,by go_num,by rw[HL9.out],HX.out,HB1.out⟩
  ·have hge:¬ (k:Int)<(c.cells.length:Int):=by omega
   obtain rfl:k=c.cells.length:=by omega
   go_wp2
   go_ret
   exact⟨A,cp,rfl,own_base HO.out (Nat.le_of_lt hg),HL.out.trans (HB.out.mono (Nat.le_of_lt hg))⟩
def r5StandbysRel (W:World) (p:Nat→Bool) (N gk:Nat) (so si:Value) (wr:World):Prop:=
 ∃ (k:Nat) (A:Option Addr) (cp:Nat),gk+k=N∧si=.int .i64 k∧so=.slice A (pickK p k).length cp∧wr.ownsRow W.heap.size 3 1 (.slice A (pickK p k).length cp) (pickK p k).length (flat intC (pickK p k))∧Below W.heap.size W wr
set_option maxHeartbeats 2000000 in
theorem r5Standbys_any (x:CfgA) (c:Cfg) (t h:Int) (w:World) (hV:CfgV c) (hok:CfgOk w (·<w.heap.size) x c) :
  Calls Tryz.prog 153 #[.agg (cfgC x c),.int .i64 t,.int .i64 h] w (IntsPost w (pickK (fun (n:Nat)=>(mayB c t n&&apartB c h n)) c.cells.length)):=by
 obtain⟨az,cz,ac,cc,at_,ct,av,cv,ar,cr,ao,co⟩:=x
 obtain⟨ii,hii,hi0,hi1,hi2⟩:=info_parts r5intInfo
 have HV:=Lib.hid hV
 have HK:=Lib.hid hok
 have hnc:=hV.nc
 have HL:=Lib.hid ((Below.refl w.heap.size w).alloc (Nat.le_refl _) (.cells (cfgC ⟨az,cz,ac,cc,at_,ct,av,cv,ar,cr,ao,co⟩ c) 31))
 have HW:=Lib.hid (HK.out.allocW (.cells (cfgC ⟨az,cz,ac,cc,at_,ct,av,cv,ar,cr,ao,co⟩ c) 31))
 have hBx:=Blk.new w 31 (cfgC ⟨az,cz,ac,cc,at_,ct,av,cv,ar,cr,ao,co⟩ c)
 have hg:=hBx.lt
 have d0:=hBx.cell' (i:=0) (v:=.int .i64 c.regions) rfl
 have d1:=hBx.cell' (i:=1) (v:=.slice az c.zones.length cz) rfl
 have d2:=hBx.cell' (i:=2) (v:=.slice ac c.cells.length cc) rfl
 have d3:=hBx.cell' (i:=3) (v:=.slice at_ c.tenants.length ct) rfl
 have d4:=hBx.cell' (i:=4) (v:=.slice av c.versions.length cv) rfl
 have d5:=hBx.cell' (i:=5) (v:=.slice ar c.replicas.length cr) rfl
 have d6:=hBx.cell' (i:=6) (v:=.slice ao c.observers.length co) rfl
 have d7:=hBx.cell' (i:=7) (v:=.int .i64 c.blast) rfl
 have d8:=hBx.cell' (i:=8) (v:=.int .i64 c.lease) rfl
 have d9:=hBx.cell' (i:=9) (v:=.int .i64 c.bake) rfl
 clear hBx
 unfold cfgC at HL HW d0 d1 d2 d3 d4 d5 d6 d7 d8 d9 hg
 simp only at HL HW d0 d1 d2 d3 d4 d5 d6 d7 d8 d9 hg
 clear hok hV HK
 obtain⟨pd,hpd⟩:∃ pd:Nat→Bool,pd=fun (n:Nat)=>(mayB c t n&&apartB c h n):=⟨_,rfl⟩
 have HP:=Lib.hid hpd
 rw[← hpd]
 clear hpd
 unfold cfgC
 simp only
 go_enter Tryz.func153,Tryz.ntmps153
 go_wp2_with fail
 generalize w.alloc _=W at *
 go_loopg [7,8] c.cells.length (fun gk so si wr=>r5StandbysRel W pd c.cells.length gk so si wr)
 case atStart=>exact⟨0,none,0,rfl,rfl,rfl,World.ownsRow_nil _ _ _ _,Below.refl _ _⟩
 case round=>
  rename_i J K aJ aK
  obtain⟨k,A,cp,hgk,rfl,rfl,hown,hbel⟩:=hrel
  have HO:=Lib.hid hown
  have HB:=Lib.hid hbel
  have hsz:=hbel.size
  have hlen:=pickK_len pd k
  obtain⟨hc,hf⟩:=bcell hbel
  clear hown hbel hf
  by_cases hk:k<c.cells.length
  ·have hlt:(k:Int)<(c.cells.length:Int):=by omega
   have hsucc:=pickK_succ pd k
   have HS:=Lib.hid hsucc
   clear hsucc
   go_wp2_with fail
   refine (r5May_any ⟨az,cz,ac,cc,at_,ct,av,cv,ar,cr,ao,co⟩ c t k wr HV.out (HW.out.belowW HB.out)).mono ?_
   rintro e wy ⟨rfl,hb0⟩
   have HB0:=Lib.hid (HB.out.trans (hb0.mono hsz))
   have HO0:=Lib.hid (own_below HO.out hb0 fun j hj=>(HO.out.lt j hj).2)
   obtain⟨hc0,hf0⟩:=bcell HB0.out
   clear hb0 hf0 hc
   by_cases hm:mayB c t k=true
   ·go_wp2_with fail
    refine (r5Apart_any ⟨az,cz,ac,cc,at_,ct,av,cv,ar,cr,ao,co⟩ c h k wy HV.out (HW.out.belowW HB0.out)).mono ?_
    rintro e wz ⟨rfl,hb1⟩
    have HB1:=Lib.hid (HB0.out.trans (hb1.mono HB0.out.size))
    have HO1:=Lib.hid (own_below HO0.out hb1 fun j hj=>(HO0.out.lt j hj).2)
    clear hb1 HB0 HO0
    have hc:True:=trivial
    clear hc0
    by_cases hp:pd k=true
    ·have hp2:apartB c h k=true:=by rw[HP.out] at hp;simp[hm] at hp;exact hp
     clear hc
     go_wp2_with (at_builtin;refine wpList_append_lies _ rfl _ _ _ rfl W.heap.size 3 ii _ 1 8 Tryz.underlying22 hii hi0 hi1 hi2 rfl (by omega) _ (pickK pd k).length (flat intC (pickK pd k)) rfl (HO1.out.alloc _) ⟨wz.heap.size,0,none⟩ 1 1 [.int .i64 k] rfl rfl ?c1 ?c2 ?c0 ?c3 ?c4 ?c5 (wz.heap.size+1) ?c6 ?_)
     case c1=>exact World.news_of_block (cs:=#[.int .i64 k]) (heap_alloc_new _ _)
     case c2=>simp[Value.oneCell']
     case c0=>omega
     case c3=>unfold maxLen;omega
     case c4=>omega
     case c5=>have:=HB1.out.size;simp;omega
     case c6=>simp
     intro gg cq w9 hown9 hg9 hat9 hlt9
     have HB9:=Lib.hid ((HB1.out.alloc HB1.out.size _).grown hg9 (by have:=HB1.out.size;simp;omega) (fun j hj=>(HO1.out.lt j hj).1))
     have HX:Hid (w9.ownsRow W.heap.size 3 1 (.slice (some ⟨gg,0,none⟩) (pickK pd (k+1)).length cq) (pickK pd (k+1)).length (flat intC (pickK pd (k+1)))):=by
      refine Lib.hid ?_;rw[HS.out,if_pos hp,← flat_snoc5,List.length_append];exact hown9
     have hl9:(pickK pd (k+1)).length=(pickK pd k).length+1:=by rw[HS.out,if_pos hp,List.length_append];rfl
     have HL9:=Lib.hid hl9
     clear hown9 hg9 hat9 hlt9 HO1 HB1 HO HB hl9
     go_wp2
     go_roundg (gk-1)
     case measure=>omega
     case rel=>exact⟨k+1,some ⟨gg,0,none⟩,cq,by omega,by go_num,by rw[HL9.out],HX.out,HB9.out⟩
    ·have hp:pd k=false:=by simpa using hp
     have hp2:apartB c h k=false:=by rw[HP.out] at hp;simp[hm] at hp;exact hp
     clear hc
     have HX:Hid (wz.ownsRow W.heap.size 3 1 (.slice A (pickK pd (k+1)).length cp) (pickK pd (k+1)).length (flat intC (pickK pd (k+1)))):=by
      refine Lib.hid ?_;rw[HS.out,if_neg (by simp[hp])];exact HO1.out
     have hl9:(pickK pd (k+1)).length=(pickK pd k).length:=by rw[HS.out,if_neg (by simp[hp])]
     have HL9:=Lib.hid hl9
     clear HO HB hl9
     go_wp2
     go_roundg (gk-1)
     case measure=>omega
     case rel=>exact⟨k+1,A,cp,by omega,by go_num,by rw[HL9.out],HX.out,HB1.out⟩
   ·have hm:mayB c t k=false:=by simpa using hm
    have hp:pd k=false:=by rw[HP.out];simp[hm]
    have HB1:=HB0
    have HO1:=HO0
    obtain⟨wz,rfl⟩:∃ wz,wz=wy:=⟨_,rfl⟩
    clear HB0 HO0
    have hc:True:=trivial
    clear hc0
    clear hc
    have HX:Hid (wz.ownsRow W.heap.size 3 1 (.slice A (pickK pd (k+1)).length cp) (pickK pd (k+1)).length (flat intC (pickK pd (k+1)))):=by
     refine Lib.hid ?_;rw[HS.out,if_neg (by simp[hp])];exact HO1.out
    have hl9:(pickK pd (k+1)).length=(pickK pd k).length:=by rw[HS.out,if_neg (by simp[hp])]
    have HL9:=Lib.hid hl9
    clear HO HB hl9
    go_wp2
    go_roundg (gk-1)
    case measure=>omega
    case rel=>exact⟨k+1,A,cp,by omega,by go_num,by rw[HL9.out],HX.out,HB1.out⟩
  ·have hge:¬ (k:Int)<(c.cells.length:Int):=by omega
   obtain rfl:k=c.cells.length:=by omega
   go_wp2
   go_ret
   exact⟨A,cp,rfl,own_base HO.out (Nat.le_of_lt hg),HL.out.trans (HB.out.mono (Nat.le_of_lt hg))⟩
end Go.Proofs.YtchhdflealgkaaaGreat
