import Derived.Test.YtnnpgbleacapfaaGreatPc05
namespace Go.Proofs.YtnnpgbleacapfaaGreat
open Go.RowKit
set_option linter.unusedSimpArgs false
set_option linter.unusedVariables false
/-! What holds of every reached state. No program in sight. -/
structure TsInv (c:Cfg) (t:TS):Prop where
 home:-1≤t.home∧t.home<c.cells.length
 standby:-1≤t.standby∧t.standby<c.cells.length
 next:-1≤t.next∧t.next<c.cells.length
 target:-1≤t.target∧t.target<c.cells.length
 epoch:0≤t.epoch∧t.epoch≤1048576
 wcell:-1≤t.win.cell∧t.win.cell<c.cells.length
 wepoch:0≤t.win.epoch∧t.win.epoch≤1048576
 wver:0≤t.win.version∧t.win.version<c.versions.length
 wsince:0≤t.win.since∧t.win.since≤1073741824
 wtill:0≤t.win.till∧t.win.till≤1073741824
 placed:t.placed=true→0≤t.home
 shed:t.shed=true→t.placed=true
structure CsInv (c:Cfg) (lo hi:Int) (x:CS):Prop where
 mode:1≤x.mode∧x.mode≤3
 running:0≤x.running∧x.running<c.versions.length
 wanted:0≤x.wanted∧x.wanted<c.versions.length
 since:0≤x.since∧x.since≤1073741824
 runs:(verAt c x.running).1≤lo∧hi≤(verAt c x.running).2
 wants:(verAt c x.wanted).1≤lo∧hi≤(verAt c x.wanted).2
structure StInv (c:Cfg) (s:St):Prop where
 lt:s.tenants.length=c.tenants.length
 lc:s.cells.length=c.cells.length
 tick:0≤s.tick∧s.tick≤1073741824
 count:0≤s.count∧s.count≤4096
 proven:0≤s.proven∧s.proven<1073741824
 evac:0≤s.evac∧s.evac<16
 low:0≤s.low∧s.low≤s.high∧s.high≤s.low+1∧s.high≤30
 ten:∀ t ∈ s.tenants,TsInv c t
 cel:∀ x ∈ s.cells,CsInv c s.low s.high x
theorem verAt_zero {c:Cfg} (hV:CfgV c):(verAt c 0).1=0∧0≤(verAt c 0).2:=by
 have h:=hV.nv
 have h0:c.versions[0]?=some c.versions[0]:=List.getElem?_eq_getElem (by omega)
 have h1:=hV.ver 0 _ h0
 unfold verAt
 rw[show (0:Int).toNat=0 from rfl,getD_some h0]
 simp[verOk] at h1
 omega
theorem stNew_inv {c:Cfg} (hV:CfgV c):StInv c (stNew c):=by
 have h:=hV.nv
 have hz:=verAt_zero hV
 refine⟨by simp[stNew],by simp[stNew],by simp[stNew],by simp[stNew],by simp[stNew],by simp[stNew],by simp[stNew],fun t ht=>?_,fun x hx=>?_⟩
 ·obtain rfl:=List.eq_of_mem_replicate (show t ∈ List.replicate c.tenants.length tsNew from ht)
  constructor<;>simp[tsNew]<;>omega
 ·obtain rfl:=List.eq_of_mem_replicate (show x ∈ List.replicate c.cells.length csNew from hx)
  constructor<;>simp[csNew,stNew]<;>omega
theorem tsAt_mem {s:St} {i:Int} (h0:0≤i) (h1:i<s.tenants.length):s.tenants[i.toNat]?=some (tsAt s i)∧tsAt s i ∈ s.tenants:=by
 have h:i.toNat<s.tenants.length:=by omega
 have e:=List.getElem?_eq_getElem h
 have:tsAt s i=s.tenants[i.toNat]:=getD_some e
 rw[this]
 exact⟨e,List.getElem_mem h⟩
theorem csAt_mem {s:St} {i:Int} (h0:0≤i) (h1:i<s.cells.length):s.cells[i.toNat]?=some (csAt s i)∧csAt s i ∈ s.cells:=by
 have h:i.toNat<s.cells.length:=by omega
 have e:=List.getElem?_eq_getElem h
 have:csAt s i=s.cells[i.toNat]:=getD_some e
 rw[this]
 exact⟨e,List.getElem_mem h⟩
theorem orBit_lt {a i:Int} {m:Nat} (h0:0≤a) (h1:a<2 ^ m) (hi:i.toNat<m):0≤orBit a i∧orBit a i<2 ^ m:=by
 obtain⟨n,rfl⟩:=Int.eq_ofNat_of_zero_le h0
 have hn:n<2 ^ m:=by exact_mod_cast h1
 have h2:1 <<< i.toNat<2 ^ m:=by rw[Nat.one_shiftLeft];exact Nat.pow_lt_pow_right (by omega) hi
 have:=Nat.or_lt_two_pow hn h2
 unfold orBit
 rw[Int.toNat_natCast]
 refine⟨Int.natCast_nonneg _,?_⟩
 exact_mod_cast this
theorem flipBit_lt {a i:Int} {m:Nat} (h0:0≤a) (h1:a<2 ^ m) (hi:i.toNat<m):0≤flipBit a i∧flipBit a i<2 ^ m:=by
 obtain⟨n,rfl⟩:=Int.eq_ofNat_of_zero_le h0
 have hn:n<2 ^ m:=by exact_mod_cast h1
 have h2:1 <<< i.toNat<2 ^ m:=by rw[Nat.one_shiftLeft];exact Nat.pow_lt_pow_right (by omega) hi
 have:=Nat.xor_lt_two_pow hn h2
 unfold flipBit
 rw[Int.toNat_natCast]
 refine⟨Int.natCast_nonneg _,?_⟩
 exact_mod_cast this
structure Acc (c:Cfg) (s:St) (e:Ent):Prop where
 ent:entV c e=true
 cnt:s.count<4096
 tick:s.tick≤e.tick
 kind:kindE c s e=0
theorem acc_of {c:Cfg} {s:St} {e:Ent} (h:refusedE c s e=0):Acc c s e:=by
 unfold refusedE at h
 by_cases h1:entV c e=false
 ·rw[if_pos h1] at h;omega
 rw[if_neg h1] at h
 by_cases h2:4096≤s.count
 ·rw[if_pos h2] at h;omega
 rw[if_neg h2] at h
 by_cases h3:e.tick<s.tick
 ·rw[if_pos h3] at h;omega
 rw[if_neg h3] at h
 exact⟨by simpa using h1,by omega,by omega,h⟩
theorem ent_kind {c:Cfg} {e:Ent} (h:entV c e=true):e.kind=1∨e.kind=2∨e.kind=3∨e.kind=4∨e.kind=5∨e.kind=6∨e.kind=7∨e.kind=8∨e.kind=9∨e.kind=10∨e.kind=11∨e.kind=12∨e.kind=13∨e.kind=14∨e.kind=15∨e.kind=16:=by
 have:inR e.kind 1 16=true:=by
  unfold entV entOk at h
  simp only[Bool.and_eq_true] at h
  exact h.1.1.1.1.1.1.1.1.1
 simp[inR] at this
 omega
theorem ent_rng {c:Cfg} {e:Ent} (h:entV c e=true):(0≤e.tick∧e.tick≤1073741824)∧inS e.tenant (fT c.tenants.length e.kind)=true∧inS e.cell (fC c.cells.length e.kind)=true∧inS e.other (fO c.cells.length c.regions e.kind)=true∧
  inS e.epoch (fE e.kind)=true∧inS e.since (fW e.kind)=true∧inS e.till (fW e.kind)=true∧inS e.n (fN c.versions.length e.kind)=true∧(e.kind≠1∨e.other≠e.cell):=by
 unfold entV entOk at h
 simp only[Bool.and_eq_true] at h
 obtain⟨⟨⟨⟨⟨⟨⟨⟨⟨h1,h2⟩,h3⟩,h4⟩,h5⟩,h6⟩,h7⟩,h8⟩,h9⟩,h10⟩:=h
 refine⟨by simpa [inR] using h2,h3,h4,h5,h6,h7,h8,h9,by simpa using h10⟩
theorem inv_setTen {c:Cfg} {s:St} (h:StInv c s) {e:Ent} (hc:s.count<4096) (ht:s.tick≤e.tick) (ht2:e.tick≤1073741824) {i:Int} {t:TS} (hT:TsInv c t):StInv c (setTen (stamped s e) i t):=by
 refine⟨?_,h.lc,⟨by have:=h.tick;show 0≤e.tick;omega,ht2⟩,⟨by have:=h.count;show 0≤s.count+1;omega,by show s.count+1≤4096;omega⟩,h.proven,h.evac,h.low,fun t' ht'=>?_,h.cel⟩
 ·show (s.tenants.set i.toNat t).length=_
  rw[List.length_set];exact h.lt
 ·rcases List.mem_or_eq_of_mem_set (show t' ∈ s.tenants.set i.toNat t from ht') with h1 | rfl
  ·exact h.ten _ h1
  ·exact hT
theorem inv_setCel {c:Cfg} {s:St} (h:StInv c s) {e:Ent} (hc:s.count<4096) (ht:s.tick≤e.tick) (ht2:e.tick≤1073741824) {i:Int} {x:CS} (hX:CsInv c s.low s.high x):StInv c (setCel (stamped s e) i x):=by
 refine⟨h.lt,?_,⟨by have:=h.tick;show 0≤e.tick;omega,ht2⟩,⟨by have:=h.count;show 0≤s.count+1;omega,by show s.count+1≤4096;omega⟩,h.proven,h.evac,h.low,h.ten,fun t' ht'=>?_⟩
 ·show (s.cells.set i.toNat x).length=_
  rw[List.length_set];exact h.lc
 ·rcases List.mem_or_eq_of_mem_set (show t' ∈ s.cells.set i.toNat x from ht') with h1 | rfl
  ·exact h.cel _ h1
  ·exact hX
theorem StInv.step {c:Cfg} {s:St} {e:Ent} (hV:CfgV c) (h:StInv c s) (hr:refusedE c s e=0):StInv c (effOf s e):=by
 have ha:=acc_of hr
 have hk:=ent_kind ha.ent
 obtain⟨hti,hT,hC,hO,hE,hS,hU,hN,hne⟩:=ent_rng ha.ent
 have hkd:=ha.kind
 have hcnt:=ha.cnt
 have htk:=ha.tick
 have hlt:=h.lt
 have hlc:=h.lc
 have hnc:=hV.nc
 have hnv:=hV.nv
 have hreg:=hV.reg
 clear ha hr
 obtain⟨kind,tick,tenant,cell,other,epoch,since,till,n⟩:=e
 simp only at *
 by_cases h8:kind≤8
 ·have hten:0≤tenant∧tenant<s.tenants.length:=by
   have:fT c.tenants.length kind=(0,(c.tenants.length:Int)-1):=if_pos h8
   rw[this] at hT
   simp[inS,inR] at hT
   omega
  have hti0:=h.ten _ (tsAt_mem hten.1 hten.2).2
  have eff:effOf s ⟨kind,tick,tenant,cell,other,epoch,since,till,n⟩=setTen (stamped s ⟨kind,tick,tenant,cell,other,epoch,since,till,n⟩) tenant (tenEff (tsAt s tenant) ⟨kind,tick,tenant,cell,other,epoch,since,till,n⟩):=by
   unfold effOf
   exact if_pos h8
  rw[eff]
  refine inv_setTen h hcnt htk hti.2 ?_
  clear eff
  have hk':kind=1∨kind=2∨kind=3∨kind=4∨kind=5∨kind=6∨kind=7∨kind=8:=by omega
  obtain⟨i1,i2,i3,i4,i5,i6,i7,i8,i9,i10,i11,i12⟩:=hti0
  generalize htd:tsAt s tenant=t at *
  rcases hk' with rfl | rfl | rfl | rfl | rfl | rfl | rfl | rfl
  ·simp[inS,inR,fC,fO] at hC hO
   refine⟨?_,?_,i3,i4,i5,i6,i7,i8,i9,i10,?_,?_⟩<;>simp[tenEff]<;>omega
  ·simp[inS,inR,fC,fE,fW,fN] at hC hE hS hU hN
   simp only[tenEff,grantT]
   have hpl:t.placed=true:=by
    cases hp:t.placed with
    | true=>rfl
    | false=>simp[kindE,grantE,htd,hp] at hkd
   simp only[show ¬ ((2:Int)=1) by omega,if_false,if_true]
   split
   ·constructor<;>(try simp only)<;>first | omega | (intro hh;first | omega | exact i11 hh | exact i12 hh | exact hpl | exact hpl hn | cases hh)
   ·split
    ·constructor<;>(try simp only)<;>first | omega | (intro hh;first | omega | exact i11 hh | exact i12 hh | exact hpl | exact hpl hn | cases hh)
    ·constructor<;>(try simp only)<;>first | omega | (intro hh;first | omega | exact i11 hh | exact i12 hh | exact hpl | exact hpl hn | cases hh)
  ·refine⟨i1,i2,i3,i4,i5,i6,i7,i8,?_,?_,i11,i12⟩<;>simp[tenEff,cutW]<;>omega
  ·simp[inS,inR,fC] at hC
   refine⟨i1,i2,?_,i4,i5,i6,i7,i8,i9,i10,i11,i12⟩<;>simp[tenEff]<;>omega
  ·simp[inS,inR,fC] at hC
   refine⟨i1,?_,?_,i4,i5,i6,i7,i8,i9,i10,i11,i12⟩<;>simp[tenEff]<;>omega
  ·simp[inS,inR,fC] at hC
   refine⟨i1,i2,i3,?_,i5,i6,i7,i8,i9,i10,i11,i12⟩<;>simp[tenEff]<;>omega
  ·refine⟨i1,i2,i3,?_,i5,i6,i7,i8,i9,i10,i11,i12⟩<;>simp[tenEff]<;>omega
  ·have hpl:n=1→t.placed=true:=by
    intro hn
    cases hp:t.placed with
    | true=>rfl
    | false=>simp[kindE,shedE,htd,hp,hn] at hkd
   by_cases hn:n=1
   ·simp only[tenEff,show ¬ ((8:Int)=1) by omega,show ¬ ((8:Int)=2) by omega,show ¬ ((8:Int)=3) by omega,show ¬ ((8:Int)=4) by omega,show ¬ ((8:Int)=5) by omega,show ¬ ((8:Int)=6) by omega,show ¬ ((8:Int)=7) by omega,if_false,if_true,hn]
    constructor<;>(try simp only)<;>first | omega | (intro hh;first | omega | exact i11 hh | exact i12 hh | exact hpl | exact hpl hn | cases hh)
   ·simp only[tenEff,show ¬ ((8:Int)=1) by omega,show ¬ ((8:Int)=2) by omega,show ¬ ((8:Int)=3) by omega,show ¬ ((8:Int)=4) by omega,show ¬ ((8:Int)=5) by omega,show ¬ ((8:Int)=6) by omega,show ¬ ((8:Int)=7) by omega,if_false,if_true,hn]
    exact⟨i1,i2,i3,i4,i5,i6,i7,i8,i9,i10,i11,fun h=>by cases h⟩
 ·by_cases h11:kind≤11
  ·have eff:effOf s ⟨kind,tick,tenant,cell,other,epoch,since,till,n⟩=setCel (stamped s ⟨kind,tick,tenant,cell,other,epoch,since,till,n⟩) cell (celEff (csAt s cell) ⟨kind,tick,tenant,cell,other,epoch,since,till,n⟩):=by
    unfold effOf
    rw[if_neg h8,if_pos h11]
   have hcel:0≤cell∧cell<s.cells.length:=by
    have:fC c.cells.length kind=(0,(c.cells.length:Int)-1):=if_pos (by omega)
    rw[this] at hC
    simp[inS,inR] at hC
    omega
   rw[eff]
   refine inv_setCel h hcnt htk hti.2 ?_
   have hx:=h.cel _ (csAt_mem hcel.1 hcel.2).2
   generalize hxd:csAt s cell=x at *
   obtain⟨i1,i2,i3,i4,i5,i6⟩:=hx
   have hk':kind=9∨kind=10∨kind=11:=by omega
   rcases hk' with rfl | rfl | rfl
   ·simp[inS,inR,fN] at hN
    refine⟨?_,i2,i3,?_,i5,i6⟩<;>simp[celEff]<;>omega
   ·simp[inS,inR,fN] at hN
    have hw:(verAt c n).1≤s.low∧s.high≤(verAt c n).2:=by
     simp[kindE,wantE,hxd] at hkd
     split at hkd
     ·omega
     ·split at hkd
      ·omega
      ·omega
    refine⟨i1,i2,?_,i4,i5,?_⟩
    ·simp[celEff];omega
    ·exact hw
   ·simp[inS,inR,fN] at hN
    have hw:n=x.wanted:=by
     simp[kindE,runsE,hxd] at hkd
     by_cases hh:x.wanted=n
     ·exact hh.symm
     ·simp[hh] at hkd
    subst hw
    exact⟨i1,i3,i3,⟨by simp[celEff];omega,by simp[celEff];omega⟩,i6,i6⟩
  ·have hk':kind=12∨kind=13∨kind=14∨kind=15∨kind=16:=by omega
   have htick:0≤tick∧tick≤1073741824:=hti
   have hcn:0≤s.count+1∧s.count+1≤4096:=by have:=h.count;omega
   rcases hk' with rfl | rfl | rfl | rfl | rfl
   ·simp[inS,inR,fN] at hN
    have hp:=h.proven
    have:=orBit_lt (a:=s.proven) (i:=n) (m:=30) hp.1 (by simpa using hp.2) (by omega)
    exact⟨hlt,hlc,htick,hcn,by simpa [effOf,stamped] using this,h.evac,h.low,h.ten,h.cel⟩
   ·simp[inS,inR,fO] at hO
    have hp:=h.evac
    have:=flipBit_lt (a:=s.evac) (i:=other) (m:=4) hp.1 (by simpa using hp.2) (by omega)
    exact⟨hlt,hlc,htick,hcn,h.proven,by simpa [effOf,stamped] using this,h.low,h.ten,h.cel⟩
   ·have hlo:=h.low
    have hx:¬ s.low<s.high∧¬ 30≤s.high∧s.cells.any (blockB c s)=false:=by
     simp only[kindE,expandE] at hkd
     simp at hkd
     by_cases h1:s.low<s.high
     ·simp[h1] at hkd
     ·by_cases h2:30≤s.high
      ·simp[h1,h2] at hkd
      ·refine⟨h1,h2,?_⟩
       rw[Bool.eq_false_iff]
       intro h3
       obtain⟨x,hx,hb⟩:=List.any_eq_true.1 h3
       simp only[h1,h2,if_false] at hkd
       rw[if_pos ⟨x,hx,hb⟩] at hkd
       omega
    refine⟨hlt,hlc,htick,hcn,h.proven,h.evac,?_,h.ten,fun x hx'=>?_⟩
    ·simp[effOf,stamped];omega
    ·have hb:blockB c s x=false:=by
      rw[Bool.eq_false_iff]
      intro hb
      have:=List.any_eq_true.2 ⟨x,(show x ∈ s.cells from hx'),hb⟩
      rw[hx.2.2] at this
      cases this
     simp[blockB] at hb
     obtain⟨i1,i2,i3,i4,i5,i6⟩:=h.cel x hx'
     refine⟨i1,i2,i3,i4,⟨i5.1,?_⟩,⟨i6.1,?_⟩⟩<;>simp[effOf,stamped]<;>omega
   ·have hlo:=h.low
    refine⟨hlt,hlc,htick,hcn,h.proven,h.evac,?_,h.ten,fun x hx'=>?_⟩
    ·simp[effOf,stamped];omega
    ·obtain⟨i1,i2,i3,i4,i5,i6⟩:=h.cel x hx'
     refine⟨i1,i2,i3,i4,⟨?_,i5.2⟩,⟨?_,i6.2⟩⟩<;>simp[effOf,stamped]<;>omega
   ·exact⟨hlt,hlc,htick,hcn,h.proven,h.evac,h.low,h.ten,h.cel⟩
theorem BlkOk.fresh {C:Ctx} {ρ:Nat→Pl} {nx i:Nat} {w:World} {t:TypeId} {sz n:Nat} {el:Nat→List Value} {α:Type} {enc:α→List Value} {l:List α} (d:α) (h:BlkOk C ρ nx i w (.row t sz n el)) (ho:frT t=true) (hl:l.length=n) (he:∀ k,k<n→el k=enc (l.getD k d)) (hs:∀ x,(enc x).length=sz) (hpos:0<sz) :
  Rd w (fun b=>C.w0.heap.size≤b∧b<w.heap.size) (ρ i).A (flat enc l):=by
 subst hl
 obtain⟨h1,h2,h3⟩:=h
 have hb:BlkOk C ρ nx i w (.row t sz l.length (fun k=>enc (l.getD k d))):=by
  refine⟨h1,fun k hk=>by have:=h2 k hk;rw[he k hk] at this;exact this,h3.imp id ?_⟩
  rintro⟨b,off,hA,hat,hc⟩
  exact⟨b,off,hA,hat,fun k hk j v hv=>hc k hk j v (by rw[he k hk];exact hv)⟩
 refine rd_of_row hs hpos hb fun hne b off hA hlt=>?_
 rcases h3 with h0 | ⟨b2,off2,hA2,hat,-⟩
 ·exact absurd h0 hne
 ·rw[hA] at hA2
  cases hA2
  exact⟨hat.new ho,hlt⟩
def cpl (x:CfgA) (c:Cfg):Nat→Pl:=fun j=>match j with
 | 0=>⟨x.az,1,c.zones.length,false⟩
 | 1=>⟨x.ac,2,c.cells.length,false⟩
 | 2=>⟨x.at_,7,c.tenants.length,false⟩
 | 3=>⟨x.av,2,c.versions.length,false⟩
 | 4=>⟨x.ar,1,c.replicas.length,false⟩
 | _=>⟨x.ao,1,c.observers.length,false⟩
theorem getD_rep {α:Type} {n k:Nat} {a d:α} (h:k<n):(List.replicate n a).getD k d=a:=by
 rw[List.getD_eq_getElem?_getD,List.getElem?_replicate,if_pos h];rfl
theorem stNew_calls (x:CfgA) (c:Cfg) (w:World) (hc:CfgOk w (·<w.heap.size) x c) (hnt:c.tenants.length≤1000) (hnc:c.cells.length≤1000) :
  Calls Tryz.prog 42 #[.agg (cfgC x c)] w fun e w'=>∃ y,e=.returned (.agg (stC y (stNew c)))∧StOk w' (fun b=>w.heap.size≤b∧b<w'.heap.size) y (stNew c)∧Below w.heap.size w w':=by
 have hpc:CfgPl (cpl x c) CN1 x c:=⟨rfl,rfl,rfl,rfl,rfl,rfl⟩
 have hm:MemAt { w0:=w,bor:=[],n0:=6,ρ0:=cpl x c,nt:=(Tryz.f42).ntmps } (cpl x c) (cfgM CN1 c) 6 w:=MemAt.rows trivial (by
  have:=cfg_blks (C:={ w0:=w,bor:=[],n0:=6,ρ0:=cpl x c,nt:=(Tryz.f42).ntmps }) (nx:=6) (r:=[]) hpc hc (fun b hb=>hb) (by decide) trivial
  exact this)
 have hv0:#[Value.agg (cfgC x c)]=([cfgV CN1 ⟨x.cz,x.cc,x.ct,x.cv,x.cr,x.co⟩ c].map (den (cpl x c))).toArray:=by
  rw[List.map_cons,den_cfg]
  rfl
 rw[hv0]
 refine (calls_sx ttOk ft_nil mixed Tryz.func42 rfl (D:=newD) (by kernel_rfl) (vs:=[cfgV CN1 ⟨x.cz,x.cc,x.ct,x.cv,x.cr,x.co⟩ c]) rfl ⟨rfl,rfl⟩ rfl hm (fun v hv=>?_) (new_sx _ c hnt hnc)).mono ?_
 ·obtain rfl:v=_:=by simpa using hv
  intro u hu
  simp at hu
  rcases hu with rfl | rfl | rfl | rfl | rfl | rfl | rfl | rfl | rfl | rfl<;>first | trivial | exact⟨by decide,rfl⟩
 ·rintro e w' ⟨v,mem',nx',ρ',rfl,⟨rfl,⟨eT,hT,hT2⟩,⟨eC,hC,hC2⟩⟩,hv,hm'⟩
  refine⟨⟨(ρ' 8).A,c.tenants.length,(ρ' 9).A,c.cells.length⟩,?_,⟨?_,?_⟩,⟨hm'.rest.os,hm'.rest.tape,hm'.rest.output,hm'.rest.size,fun b hlt=>hm'.rest.block b hlt (by simp)⟩⟩
  ·simp[den,den2,den1,dA_whole,stC,stNew,newV]
  ·exact (hm'.blk 8 _ hT).fresh (enc:=tsC) (l:=(stNew c).tenants) default rfl (by simp[stNew]) (fun k hk=>by rw[hT2 k hk];simp only[stNew];rw[getD_rep hk]) (fun _=>rfl) (by omega)
  ·exact (hm'.blk 9 _ hC).fresh (enc:=csC) (l:=(stNew c).cells) default rfl (by simp[stNew]) (fun k hk=>by rw[hC2 k hk];simp only[stNew];rw[getD_rep hk]) (fun _=>rfl) (by omega)
/-! make.Config -/
theorem shl1_bd (r:Int):2≤shl1 r∧shl1 r≤16:=by unfold shl1;repeat' split<;>omega
theorem versOk_snoc {l:List (Int×Int)} {lo hi:Int} (h:versOk l=true) (h1:1≤l.length) (a:0≤lo) (b:lo≤hi) (d:hi≤30):versOk (l++[(lo,hi)])=true:=by
 unfold versOk at *
 rw[List.all_eq_true] at *
 intro i hi'
 rw[List.mem_range,List.length_append] at hi'
 simp at hi'
 by_cases hlt:i<l.length
 ·have:=h i (List.mem_range.2 hlt)
  rw[List.getElem?_append_left hlt]
  exact this
 ·obtain rfl:i=l.length:=by omega
  have hne:l≠[]:=by rintro rfl;simp at h1
  simp[verOk,hne]
  omega
structure MadeCfg (c:Cfg):Prop where
 valid:cfgErr c=0
 regions:1≤c.regions∧c.regions≤3
 zones:1≤c.zones.length∧c.zones.length≤6
 cells:1≤c.cells.length∧c.cells.length≤7
 tenants:c.tenants.length≤5
 versions:1≤c.versions.length∧c.versions.length≤3
 replicas:c.replicas.length=1∨c.replicas.length=3
 observers:1≤c.observers.length∧c.observers.length≤4
 blast:1≤c.blast∧c.blast≤3
 lease:2≤c.lease∧c.lease≤12
 bake:0≤c.bake∧c.bake≤8
 caps:c.cells.all (fun y=>inR y.1 0 (c.zones.length-1)&&inR y.2 1 40)=true
theorem madeCfg_of (r bl le ba:Int) (zl:List Int) (cl:List (Int×Int)) (tl:List Ten) (vl:List (Int×Int)) (rl ol:List Int) (h1:1≤r∧r≤3) (h2:1≤zl.length∧zl.length≤6) (h3:1≤cl.length∧cl.length≤7)
  (h4:tl.length≤5) (h5:1≤vl.length∧vl.length≤3) (a1:zl.all (fun z=>inR z 0 (r-1))=true) (a2:cl.all (fun y=>inR y.1 0 (zl.length-1)&&inR y.2 1 40)=true) (a3:tl.all (tenOk r)=true) (a4:versOk vl=true)
  (a5:rl.all (fun z=>inR z 0 (zl.length-1))=true) (a6:ol.all (fun z=>inR z 0 (zl.length-1))=true) (h6:rl.length=1∨rl.length=3) (h7:1≤ol.length∧ol.length≤4) (h8:1≤bl∧bl≤3) (h9:2≤le∧le≤12) (h10:0≤ba∧ba≤8) :
  MadeCfg ⟨r,zl,cl,tl,vl,rl,ol,bl,le,ba⟩:=by
 refine⟨?_,h1,h2,h3,h4,h5,h6,h7,h8,h9,h10,a2⟩
 have b1:cl.all (fun y=>inR y.1 0 (zl.length-1))=true:=by
  rw[List.all_eq_true] at a2 ⊢
  exact fun y hy=>(Bool.and_eq_true _ _ ▸ a2 y hy).1
 have b2:cl.all (fun y=>inR y.2 1 4194304)=true:=by
  rw[List.all_eq_true] at a2 ⊢
  intro y hy
  have:=(Bool.and_eq_true _ _ ▸ a2 y hy).2
  simp[inR] at this ⊢
  omega
 have l1:limitsB ⟨r,zl,cl,tl,vl,rl,ol,bl,le,ba⟩=true:=by simp[limitsB,inR];omega
 have l2:placesB ⟨r,zl,cl,tl,vl,rl,ol,bl,le,ba⟩=true:=by unfold placesB;rw[a1,b1,a5,a6];rfl
 have l3:valuesB ⟨r,zl,cl,tl,vl,rl,ol,bl,le,ba⟩=true:=by
  unfold valuesB
  rw[b2,a4]
  simp[inR]
  omega
 have l4:¬ rl.length % 2=0:=by omega
 have l5:topoErr ⟨r,zl,cl,tl,vl,rl,ol,bl,le,ba⟩=0:=by simp[topoErr,l1,l2,l3,l4]
 simp only[cfgErr,l5,a3]
 rfl
def CfgPost (w:World) (e:Ending) (w':World):Prop:=
 ∃ (x:CfgA) (c:Cfg),e=.returned (.agg (cfgC x c))∧CfgOk w' (fun b=>w.heap.size≤b∧b<w'.heap.size) x c∧MadeCfg c∧Below w.heap.size w w'
theorem versOk_one {h:Int} (h0:0≤h) (h1:h≤30):versOk [(0,h)]=true:=by
 simp[versOk,verOk]
 omega
abbrev allowC (r:Int):Int:=IntKind.i64.wrap (IntKind.i64.wrap (1 * 2 ^ min (IntKind.u64.wrap r).toNat IntKind.i64.bits)-1)
theorem allowC_eq {r:Int} (h:1≤r∧r≤3):allowC r=shl1 r-1:=by
 rcases (show r=1∨r=2∨r=3 by omega) with rfl | rfl | rfl<;>decide
theorem ten_okC {r a b p g al gr:Int} {no:Bool} (h1:1≤r∧r≤3) (ha:1≤a∧a≤12) (hb:0≤b∧b<a+1) (hp:0≤p∧p<4) (hg:-1≤g∧g≤3) (hal:1≤al∧al≤shl1 r-1) (hgr:0≤gr∧gr<3):tenOk r ⟨a,b,p,g,al,gr,no⟩=true:=by
 unfold tenOk inR
 simp only[Bool.and_eq_true,decide_eq_true_eq]
 omega
def ctBetw:CT:=fun vs mem nx K=>∃ v lo hi,vs=[.int .i64 v,.int .i64 lo,.int .i64 hi]∧(lo≤hi∧-1000000≤lo∧hi≤1000000)∧∀ r:Int,lo≤r→r≤hi→K (.int .i64 r) mem nx
theorem betwOk:CSound Tryz.prog 54 ctBetw:=⟨by kernel_rfl,fun {C ρ fr mem nx a w vs K} hc hs hv=>by
 obtain⟨v,lo,hi,rfl,⟨h1,h2,h3⟩,hK⟩:=hc
 refine (mkBetween_any v lo hi w h1 h2 h3).mono ?_
 rintro e w' ⟨⟨r,hr1,hr2,-,rfl⟩,rfl⟩
 exact⟨.int .i64 r,mem,nx,ρ,rfl,hK r hr1 hr2,hs,trivial,ExtS.refl _ _⟩⟩
theorem snoc_el {α:Type} {enc:α→List Value} {d:α} {l:List α} {x:α} {el el2:Nat→List Value} (h0:∀ j,j<l.length→el j=enc (l.getD j d)) (h1:∀ j,j<l.length→el2 j=el j) (h2:el2 (l.length+0)=enc x):∀ j,j<(l++[x]).length→el2 j=enc ((l++[x]).getD j d):=by
 intro j hj
 by_cases hjn:j<l.length
 ·rw[h1 j hjn,h0 j hjn,List.getD_eq_getElem?_getD,List.getD_eq_getElem?_getD,List.getElem?_append_left hjn]
 ·obtain rfl:j=l.length:=by simp at hj;omega
  rw[Nat.add_zero] at h2
  rw[h2,List.getD_eq_getElem?_getD,List.getElem?_append_right (Nat.le_refl _),Nat.sub_self]
  rfl
theorem one_el {α:Type} {enc:α→List Value} {d x:α} {el2:Nat→List Value} (h2:el2 0=enc x):∀ j,j<[x].length→el2 j=enc ([x].getD j d):=by
 intro j hj
 obtain rfl:j=0:=by simpa using hj
 exact h2
theorem cwz {n rg:Int} (hn:0≤n) (hr:1≤rg):(true&&[Int.tmod n rg].all (fun z=>inR z 0 (rg-1)))=true:=by
 have t1:=Int.tmod_nonneg rg hn
 have t2:=Int.tmod_lt_of_pos n (show 0<rg by omega)
 simp[inR]
 omega
theorem cwc {n z r:Int} (hn:0≤n) (hz:1≤z) (hr:1≤r∧r≤4):(true&&[(Int.tmod n z,IntKind.i64.wrap (r * 10))].all (fun y=>inR y.1 0 (z-1)&&inR y.2 1 40))=true:=by
 have t1:=Int.tmod_nonneg z hn
 have t2:=Int.tmod_lt_of_pos n (show 0<z by omega)
 rw[wrapi (n:=r * 10) (by omega)]
 simp[inR]
 omega
theorem cwi {z r:Int} (hr:0≤r∧r<z):(true&&[r].all (fun y=>inR y 0 (z-1)))=true:=by
 simp[inR]
 omega
end Go.Proofs.YtnnpgbleacapfaaGreat
