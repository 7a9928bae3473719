import Derived.Test.YtchhdflealgkaaaGreatPo05
import Derived.Test.YtchhdflealgkaaaGreatRows
import Derived.Test.YtchhdflealgkaaaGreatProg
/-! Plain functions on the data: what the program and the references compute. No program in sight. -/
namespace Go.Proofs.YtchhdflealgkaaaGreat
instance:Inhabited Ten:=⟨⟨0,0,0,0,0,0,false⟩⟩
instance:Inhabited Win:=⟨⟨0,0,0,0,0⟩⟩
instance:Inhabited TS:=⟨⟨false,false,0,0,0,0,0,default⟩⟩
instance:Inhabited CS:=⟨⟨0,0,0,0⟩⟩
instance:Inhabited Ent:=⟨⟨0,0,0,0,0,0,0,0,0⟩⟩
def inR (n lo hi:Int):Bool:=decide (lo≤n)&&decide (n≤hi)
def limitsB (c:Cfg):Bool:=
 inR c.regions 1 4&&inR c.zones.length 1 8&&inR c.cells.length 1 16&&inR c.versions.length 1 30&&inR c.replicas.length 1 5&&inR c.observers.length 1 9&&decide (c.tenants.length≤32)
def Lens (c:Cfg):Prop:=c.zones.length≤maxLen∧c.cells.length≤maxLen∧c.tenants.length≤maxLen∧c.versions.length≤maxLen∧c.replicas.length≤maxLen∧c.observers.length≤maxLen
def placesB (c:Cfg):Bool:=
 c.zones.all (fun z=>inR z 0 (c.regions-1))&&c.cells.all (fun y=>inR y.1 0 (c.zones.length-1))&&c.replicas.all (fun z=>inR z 0 (c.zones.length-1))&&c.observers.all (fun z=>inR z 0 (c.zones.length-1))
def verOk (i:Nat) (v:Int×Int):Bool:=decide (0≤v.1)&&decide (v.1≤v.2)&&decide (v.2≤30)&&(decide (i≠0)||decide (v.1=0))
def versOk (l:List (Int×Int)):Bool:=(List.range l.length).all fun i=>match l[i]? with | some v=>verOk i v | none=>true
def valuesB (c:Cfg):Bool:=
 c.cells.all (fun y=>inR y.2 1 4194304)&&versOk c.versions&&(inR c.blast 1 16&&inR c.lease 1 1000&&inR c.bake 0 10000)
def topoErr (c:Cfg):Int:=
 if limitsB c=false then 2 else if c.replicas.length % 2=0∨placesB c=false∨valuesB c=false then 1 else 0
def shl1 (r:Int):Int:=if r=1 then 2 else if r=2 then 4 else if r=3 then 8 else 16
def tenOk (r:Int) (t:Ten):Bool:=
 inR t.load 1 65536&&inR t.shadow 0 t.load&&inR t.prio 0 9&&inR t.lag (-1) 1000&&inR t.allowed 1 (shl1 r-1)&&inR t.group 0 32
def cfgErr (c:Cfg):Int:=if topoErr c≠0 then topoErr c else if c.tenants.all (tenOk c.regions) then 0 else 1
/-! Cells,regions,sets. -/
def zoneOf (c:Cfg) (k:Int):Int:=if 0≤k∧k<c.cells.length then (c.cells.getD k.toNat (0,0)).1 else -1
def regZone (c:Cfg) (z:Int):Int:=if 0≤z∧z<c.zones.length then c.zones.getD z.toNat 0 else -1
def regionOf (c:Cfg) (k:Int):Int:=regZone c (zoneOf c k)
def bitB (set i:Int):Bool:=set.toNat.testBit i.toNat
def hasB (set i:Int):Bool:=decide (0≤i)&&decide (i<62)&&bitB set i
def tenAt (c:Cfg) (i:Int):Ten:=c.tenants.getD i.toNat default
def mayB (c:Cfg) (t k:Int):Bool:=decide (0≤t)&&decide (t<c.tenants.length)&&hasB (tenAt c t).allowed (regionOf c k)
def apartB (c:Cfg) (a b:Int):Bool:=decide (0≤regionOf c a)&&decide (0≤regionOf c b)&&decide (regionOf c a≠regionOf c b)
/-! Entries. -/
def fT (nt k:Int):Int×Int:=if k≤8 then (0,nt-1) else (-1,-1)
def fC (nc k:Int):Int×Int:=if k=1∨k=2∨k=5∨k=6∨k=9∨k=10∨k=11 then (0,nc-1) else if k=4 then (-1,nc-1) else (-1,-1)
def fO (nc nr k:Int):Int×Int:=if k=1 then (-1,nc-1) else if k=13 then (0,nr-1) else (-1,-1)
def fE (k:Int):Int×Int:=if k=2∨k=3 then (1,1048576) else (0,0)
def fW (k:Int):Int×Int:=if k=2 then (0,1073741824) else (0,0)
def fN (nv k:Int):Int×Int:=if k=2∨k=10∨k=11∨k=12 then (0,nv-1) else if k=8∨k=13 then (0,1) else if k=9 then (1,3) else if k=16 then (0,1073741824) else (0,0)
def inS (n:Int) (s:Int×Int):Bool:=inR n s.1 s.2
def entOk (nt nc nr nv:Int) (e:Ent):Bool:=
 inR e.kind 1 16&&inR e.tick 0 1073741824&&inS e.tenant (fT nt e.kind)&&inS e.cell (fC nc e.kind)&&inS e.other (fO nc nr e.kind)&&inS e.epoch (fE e.kind)&&inS e.since (fW e.kind)&&inS e.till (fW e.kind)&&inS e.n (fN nv e.kind)&&(decide (e.kind≠1)||decide (e.other≠e.cell))
def entV (c:Cfg) (e:Ent):Bool:=entOk c.tenants.length c.cells.length c.regions c.versions.length e
/-! States. -/
def St.zero:St:=⟨0,0,[],[],0,0,0,0⟩
def tsNew:TS:=⟨false,false,-1,-1,-1,-1,0,⟨-1,0,0,0,0⟩⟩
def csNew:CS:=⟨1,0,0,0⟩
def stNew (c:Cfg):St:=⟨0,0,List.replicate c.tenants.length tsNew,List.replicate c.cells.length csNew,1,0,0,0⟩
def tsAt (s:St) (i:Int):TS:=s.tenants.getD i.toNat default
def csAt (s:St) (i:Int):CS:=s.cells.getD i.toNat default
def verAt (c:Cfg) (i:Int):Int×Int:=c.versions.getD i.toNat (0,0)
def openB (p:Int) (x:CS):Bool:=!hasB p x.running||!hasB p x.wanted
def frozenB (c:Cfg) (s:St) (k:Int):Bool:=hasB s.evac (regionOf c k)
def nearB (c:Cfg) (a b:Int):Bool:=decide (b≠-1)&&!apartB c a b
def placeE (c:Cfg) (s:St) (e:Ent):Int:=
 if (tsAt s e.tenant).placed then 4
 else if (csAt s e.cell).mode≠1∨(e.other≠-1∧(csAt s e.other).mode≠1) then 6
 else if frozenB c s e.cell∨(e.other≠-1∧frozenB c s e.other) then 12
 else if mayB c e.tenant e.cell=false∨(e.other≠-1∧mayB c e.tenant e.other=false)∨nearB c e.cell e.other then 11 else 0
def grantE (c:Cfg) (s:St) (e:Ent):Int:=
 let t:=tsAt s e.tenant
 let x:=csAt s e.cell
 if t.placed=false∨(t.shed∧e.cell≠t.standby) then 4
 else if e.cell≠t.home∧e.cell≠t.standby∧e.cell≠t.target then 5
 else if x.mode=3∨(x.mode=2∧e.cell≠t.home) then 6
 else if e.epoch≠t.epoch+1∧¬ (e.cell=t.home∧e.epoch=t.epoch) then 7
 else if e.n≠x.running∨x.running≠x.wanted then 8
 else if e.since<e.tick∨e.tick+c.lease<e.since∨e.till≤e.since∨c.lease<e.till-e.since∨e.since<t.win.till∨(e.cell≠t.home∧e.tick<t.win.till) then 9 else 0
def cutE (s:St) (e:Ent):Int:=
 let t:=tsAt s e.tenant
 if t.placed=false then 4 else if e.epoch≠t.epoch then 7 else 0
def standbyE (c:Cfg) (s:St) (e:Ent):Int:=
 let t:=tsAt s e.tenant
 if t.placed=false then 4 else if e.cell=-1 then 0
 else if e.cell=t.home∨e.cell=t.standby∨e.cell=t.target then 5
 else if (csAt s e.cell).mode≠1 then 6
 else if frozenB c s e.cell then 12
 else if mayB c e.tenant e.cell=false∨nearB c e.cell t.home∨nearB c e.cell t.target then 11 else 0
def readyE (s:St) (e:Ent):Int:=
 let t:=tsAt s e.tenant
 if t.placed=false then 4 else if e.cell≠t.next then 5 else if (csAt s e.cell).mode=3 then 6 else 0
def migrateE (c:Cfg) (s:St) (e:Ent):Int:=
 let t:=tsAt s e.tenant
 if t.placed=false∨t.shed∨t.target≠-1 then 4
 else if e.cell=t.home∨e.cell=t.standby∨e.cell=t.next then 5
 else if (csAt s e.cell).mode≠1 then 6
 else if frozenB c s e.cell then 12
 else if mayB c e.tenant e.cell=false∨nearB c e.cell t.standby∨nearB c e.cell t.next then 11 else 0
def abandonE (s:St) (e:Ent):Int:=
 let t:=tsAt s e.tenant
 if t.placed=false∨t.target=-1 then 4 else 0
def shedE (s:St) (e:Ent):Int:=
 let t:=tsAt s e.tenant
 if e.n=0 then (if t.shed=false then 4 else if (csAt s t.home).mode=3 then 6 else 0)
 else if t.placed=false∨t.shed then 4 else if e.tick<t.win.till then 9 else 0
def modeE (s:St) (e:Ent):Int:=if (csAt s e.cell).mode=e.n then 4 else 0
def others (s:St) (k:Int):Nat:=((List.range s.cells.length).filter fun (i:Nat)=>decide ((i:Int)≠k)&&openB s.proven (s.cells.getD i default)).length
def wantE (c:Cfg) (s:St) (e:Ent):Int:=
 let x:=csAt s e.cell
 if x.wanted=e.n then 4
 else if s.low<(verAt c e.n).1∨(verAt c e.n).2<s.high then 13
 else if x.running=e.n∨hasB s.proven e.n then 0
 else if s.evac≠0 then 12
 else if c.blast≤others s e.cell then 14 else 0
def runsE (s:St) (e:Ent):Int:=
 let x:=csAt s e.cell
 if x.wanted≠e.n∨x.running=x.wanted then 4
 else if hasB s.proven e.n=false∧s.evac≠0 then 12
 else if s.tenants.any (fun t=>decide (t.win.cell=e.cell)&&decide (e.tick<t.win.till)) then 9 else 0
def bakedB (c:Cfg) (e:Ent) (x:CS):Bool:=decide (x.mode≠3)&&decide (x.running=e.n)&&decide (x.wanted=e.n)&&decide (c.bake≤e.tick-x.since)
def proveE (c:Cfg) (s:St) (e:Ent):Int:=if hasB s.proven e.n then 4 else if s.cells.any (bakedB c e) then 0 else 15
def evacE (s:St) (e:Ent):Int:=if hasB s.evac e.other=decide (e.n=1) then 4 else 0
def blockB (c:Cfg) (s:St) (x:CS):Bool:=decide ((verAt c x.running).2≤s.high)||decide ((verAt c x.wanted).2≤s.high)
def expandE (c:Cfg) (s:St):Int:=if s.low<s.high then 4 else if 30≤s.high then 2 else if s.cells.any (blockB c s) then 13 else 0
def contractE (s:St):Int:=if s.high=s.low then 4 else 0
def kindE (c:Cfg) (s:St) (e:Ent):Int:=
 if e.kind=1 then placeE c s e else if e.kind=2 then grantE c s e else if e.kind=3 then cutE s e else if e.kind=4 then standbyE c s e
 else if e.kind=5 then readyE s e else if e.kind=6 then migrateE c s e else if e.kind=7 then abandonE s e else if e.kind=8 then shedE s e
 else if e.kind=9 then modeE s e else if e.kind=10 then wantE c s e else if e.kind=11 then runsE s e else if e.kind=12 then proveE c s e
 else if e.kind=13 then evacE s e else if e.kind=14 then expandE c s else if e.kind=15 then contractE s else 0
def refusedE (c:Cfg) (s:St) (e:Ent):Int:=
 if entV c e=false then 1 else if 4096≤s.count then 2 else if e.tick<s.tick then 3 else kindE c s e
def cutW (x:Win) (tick:Int):Win:={ x with till:=min x.till (tick+1),since:=min x.since (min x.till (tick+1)) }
def grantT (t:TS) (e:Ent):TS:=
 let t1:TS:={ t with win:=⟨e.cell,e.epoch,e.n,e.since,e.till⟩,epoch:=e.epoch }
 if e.cell=t.home then t1
 else if e.cell=t.standby then { t1 with home:=e.cell,standby:=-1,next:=-1,target:=-1,shed:=false }
 else { t1 with home:=e.cell,target:=-1 }
def tenEff (t:TS) (e:Ent):TS:=
 if e.kind=1 then { t with placed:=true,home:=e.cell,standby:=e.other }
 else if e.kind=2 then grantT t e
 else if e.kind=3 then { t with win:=cutW t.win e.tick }
 else if e.kind=4 then { t with next:=e.cell }
 else if e.kind=5 then { t with standby:=e.cell,next:=-1 }
 else if e.kind=6 then { t with target:=e.cell }
 else if e.kind=7 then { t with target:=-1 }
 else if e.kind=8 then (if e.n=1 then { t with shed:=true,target:=-1 } else { t with shed:=false })
 else t
def celEff (x:CS) (e:Ent):CS:=
 if e.kind=9 then { x with mode:=e.n,since:=e.tick }
 else if e.kind=10 then { x with wanted:=e.n }
 else if e.kind=11 then { x with running:=e.n,since:=e.tick }
 else x
def setTen (s:St) (i:Int) (t:TS):St:={ s with tenants:=s.tenants.set i.toNat t }
def setCel (s:St) (i:Int) (x:CS):St:={ s with cells:=s.cells.set i.toNat x }
def orBit (set i:Int):Int:=(set.toNat ||| (1 <<< i.toNat):Nat)
def flipBit (set i:Int):Int:=(set.toNat ^^^ (1 <<< i.toNat):Nat)
def stamped (s:St) (e:Ent):St:={ s with tick:=e.tick,count:=s.count+1 }
def effOf (s0:St) (e:Ent):St:=
 let s:=stamped s0 e
 if e.kind≤8 then setTen s e.tenant (tenEff (tsAt s0 e.tenant) e)
 else if e.kind≤11 then setCel s e.cell (celEff (csAt s0 e.cell) e)
 else if e.kind=12 then { s with proven:=orBit s.proven e.n }
 else if e.kind=13 then { s with evac:=flipBit s.evac e.other }
 else if e.kind=14 then { s with high:=s.high+1 }
 else if e.kind=15 then { s with low:=s.high }
 else s
/-! The load. -/
def addAt (l:List Int) (i n:Int):List Int:=if 0≤i∧i<l.length then l.set i.toNat (l.getD i.toNat 0+n) else l
def bookT (l:List Int) (t:TS) (d:Ten):List Int:=
 if t.placed=false then l
 else addAt (addAt (if t.shed then l else addAt (addAt l t.home d.load) t.target d.load) t.standby d.shadow) t.next d.shadow
def booked (c:Cfg) (s:St):List Int:=(s.tenants.zip c.tenants).foldl (fun l p=>bookT l p.1 p.2) (List.replicate c.cells.length 0)
def overB (c:Cfg) (s:St):Bool:=(List.range c.cells.length).any fun i=>decide ((c.cells.getD i (0,0)).2<(booked c s).getD i 0)
def over (c:Cfg) (s:St):List Int:=((List.range c.cells.length).filter fun i=>decide ((c.cells.getD i (0,0)).2<(booked c s).getD i 0)).map Int.ofNat
def booksB (e:Ent):Bool:=decide (e.kind=1)||decide (e.kind=2)||decide (e.kind=6)||(decide (e.kind=4)&&decide (e.cell≠-1))||(decide (e.kind=8)&&decide (e.n=0))
def applyP (c:Cfg) (s:St) (e:Ent):St×Int:=
 if refusedE c s e≠0 then (St.zero,refusedE c s e)
 else if booksB e∧overB c (effOf s e) then (St.zero,10) else (effOf s e,0)
def fitsB (e:Ent):Bool:=decide (e.kind=1)||decide (e.kind=2)||decide (e.kind=6)||decide (e.kind=4)||(decide (e.kind=8)&&decide (e.n≠1))
def applyR (c:Cfg) (s:St) (e:Ent):St×Int:=
 if refusedE c s e≠0 then (St.zero,refusedE c s e)
 else if fitsB e∧overB c (effOf s e) then (St.zero,10) else (effOf s e,0)
end Go.Proofs.YtchhdflealgkaaaGreat

namespace Go.Proofs.YtchhdflealgkaaaGreat
open Go.RowKit
set_option linter.unusedSimpArgs false
set_option linter.unusedVariables false
theorem getD_some {α:Type} {l:List α} {n:Nat} {z d:α} (h:l[n]?=some z):l.getD n d=z:=by rw[List.getD_eq_getElem?_getD,h];rfl
theorem bcell {W w1:World} {B:Nat} (hb:Below B W w1):(∀ b o,b<B→w1.cell? ⟨b,o,none⟩=W.cell? ⟨b,o,none⟩)∧(∀ b o,b<B→w1.frozen? ⟨b,o,none⟩=W.frozen? ⟨b,o,none⟩):=
 ⟨fun b o h=>hb.cell (p:=⟨b,o,none⟩) h,fun b o h=>hb.frozen (p:=⟨b,o,none⟩) h⟩
section
variable {w w':World} {x:CfgA} {c:Cfg} {y:StA} {s:St}
theorem CfgOk.allocW (h:CfgOk w (·<w.heap.size) x c) (o:Obj):CfgOk (w.alloc o) (·<(w.alloc o).heap.size) x c:=
 (h.keep fun k hk=>Below.heap_alloc _ _ _ hk).more fun b hb=>by simp;omega
theorem CfgOk.belowW (h:CfgOk w (·<w.heap.size) x c) (hb:Below w.heap.size w w'):CfgOk w' (·<w'.heap.size) x c:=
 (h.keep fun k hk=>hb.block k hk).more fun b hk=>Nat.lt_of_lt_of_le hk hb.size
theorem StOk.allocW (h:StOk w (·<w.heap.size) y s) (o:Obj):StOk (w.alloc o) (·<(w.alloc o).heap.size) y s:=
 (h.keep fun k hk=>Below.heap_alloc _ _ _ hk).more fun b hb=>by simp;omega
theorem StOk.belowW (h:StOk w (·<w.heap.size) y s) (hb:Below w.heap.size w w'):StOk w' (·<w'.heap.size) y s:=
 (h.keep fun k hk=>hb.block k hk).more fun b hk=>Nat.lt_of_lt_of_le hk hb.size
end
structure CfgV (c:Cfg):Prop where
 reg:1≤c.regions∧c.regions≤4
 nz:1≤c.zones.length∧c.zones.length≤8
 nc:1≤c.cells.length∧c.cells.length≤16
 nt:c.tenants.length≤32
 nv:1≤c.versions.length∧c.versions.length≤30
 zone:∀ y ∈ c.cells,0≤y.1∧y.1<c.zones.length
 capy:∀ y ∈ c.cells,1≤y.2∧y.2≤4194304
 region:∀ z ∈ c.zones,0≤z∧z<c.regions
 ten:∀ t ∈ c.tenants,tenOk c.regions t=true
 ver:∀ k v,c.versions[k]?=some v→verOk k v=true
 blast:1≤c.blast∧c.blast≤16
 lease:1≤c.lease∧c.lease≤1000
 bake:0≤c.bake∧c.bake≤10000
theorem cfgV_of {c:Cfg} (h:cfgErr c=0):CfgV c:=by
 have h1:topoErr c=0:=by
  unfold cfgErr at h
  split at h
  ·exact h
  ·rename_i hh;exact Classical.not_not.1 hh
 have h2:c.tenants.all (tenOk c.regions)=true:=by
  unfold cfgErr at h
  rw[if_neg (by simp[h1])] at h
  split at h
  ·assumption
  ·omega
 have h3:limitsB c=true:=by
  unfold topoErr at h1
  split at h1
  ·omega
  ·rename_i hh;simpa using hh
 have h4:placesB c=true∧valuesB c=true:=by
  unfold topoErr at h1
  rw[if_neg (by simp[h3])] at h1
  split at h1
  ·omega
  ·rename_i hh
   refine⟨?_,?_⟩
   ·cases hp:placesB c with
    | true=>rfl
    | false=>exact absurd (.inr (.inl hp)) hh
   ·cases hp:valuesB c with
    | true=>rfl
    | false=>exact absurd (.inr (.inr hp)) hh
 obtain⟨h5,h6⟩:=h4
 simp only[placesB,Bool.and_eq_true,List.all_eq_true] at h5
 simp only[valuesB,Bool.and_eq_true,List.all_eq_true,versOk] at h6
 simp[limitsB,inR] at h3
 refine⟨by omega,by omega,by omega,by omega,by omega,fun y hy=>?_,fun y hy=>?_,fun z hz=>?_,fun t ht=>List.all_eq_true.1 h2 t ht,fun k v hv=>?_,?_,?_,?_⟩
 ·have:=h5.1.1.2 y hy;simp[inR] at this;omega
 ·have:=h6.1.1 y hy;simp[inR] at this;omega
 ·have:=h5.1.1.1 z hz;simp[inR] at this;omega
 ·have:=h6.1.2 k (List.mem_range.2 (List.getElem?_eq_some_iff.1 hv).1)
  rwa[hv] at this
 ·have:=h6.2.1.1;simp[inR] at this;omega
 ·have:=h6.2.1.2;simp[inR] at this;omega
 ·have:=h6.2.2;simp[inR] at this;omega
theorem bit_div (set i:Int) (h0:0≤set) (hi:0≤i):((set / 2 ^ i.toNat).tmod 2 != 0)=bitB set i:=by
 obtain⟨n,rfl⟩:=Int.eq_ofNat_of_zero_le h0
 unfold bitB
 rw[Nat.testBit_eq_decide_div_mod_eq]
 have e:((n:Int) / 2 ^ i.toNat)=((n / 2 ^ i.toNat:Nat):Int):=by
  rw[Int.natCast_ediv]
  simp
 have e2:(((n / 2 ^ i.toNat:Nat):Int)).tmod 2=((n / 2 ^ i.toNat % 2:Nat):Int):=(Int.ofNat_tmod (n / 2 ^ i.toNat) 2).symm
 rw[e,e2,Int.toNat_natCast]
 have:(n / 2 ^ i.toNat) % 2=0∨(n / 2 ^ i.toNat) % 2=1:=by omega
 rcases this with h | h
 ·simp[h]
 ·simp[h]
theorem mod_of_tmod (v n:Int):(v.tmod n+n) % n=v % n:=by
 have h:=Int.mul_tdiv_add_tmod v n
 have h2:(v.tmod n+n) % n=(v.tmod n) % n:=by simp
 rw[h2]
 conv=>rhs;rw[← h]
 rw[Int.mul_add_emod_self_left]
set_option maxHeartbeats 400000 in
theorem mkMod_any (v n:Int) (w:World) (hn:1≤n) (hn2:n≤2147483648) :
  Calls Tryz.prog 56 #[.int .i64 v,.int .i64 n] w fun e w'=>e=.returned (.int .i64 (v % n))∧w=w':=by
 have hne:(n==0)=false:=by simp;omega
 have h1:v.tmod n<n:=Int.tmod_lt_of_pos _ (by omega)
 have h2:-n<v.tmod n:=Int.lt_tmod_of_pos _ (by omega)
 have H:=Lib.hid (mod_of_tmod v n)
 go_enter Tryz.func56,Tryz.ntmps56
 go_wp2
 go_ret
 exact⟨ret_i64 H.out,rfl⟩
set_option maxHeartbeats 400000 in
theorem mkBetween_any (v lo hi:Int) (w:World) (hn:lo≤hi) (h1:-1000000≤lo) (h2:hi≤1000000) :
  Calls Tryz.prog 38 #[.int .i64 v,.int .i64 lo,.int .i64 hi] w fun e w'=>(∃ r,lo≤r∧r≤hi∧r=lo+v % (hi-lo+1)∧e=.returned (.int .i64 r))∧w=w':=by
 have H1:=Lib.hid (Int.emod_nonneg v (b:=hi-lo+1) (by omega))
 have H2:=Lib.hid (Int.emod_lt_of_pos v (b:=hi-lo+1) (by omega))
 have h3:=H1.out
 have h4:=H2.out
 go_enter Tryz.func38,Tryz.ntmps38
 go_wp2_with (go_at_call 56;refine (mkMod_any _ _ _ (by omega) (by omega)).mono ?_;rintro e w' ⟨rfl,rfl⟩)
 go_ret
 exact⟨⟨_,by omega,by omega,rfl,rfl⟩,rfl⟩
def nextV (zs:List Int) (k:Nat) (n:Int):Int:=if zs=[] then 0 else ((zs.getD (k % zs.length) 0) % 1073741824+(k / zs.length:Nat) * 7) % n
def nextK (zs:List Int) (k:Nat):Nat:=if zs=[] then k else k+1
structure TapeAt (w:World) (g:Nat) (A:Option Addr) (cap:Nat) (zs:List Int) (k:Nat):Prop where
 short:zs.length≤400
 row:Rd w (·<g) A (zs.map (Value.int .i64))
 blk:Blk w g 138 #[.slice A zs.length cap,.int .i64 k]
section
variable {w w':World} {g:Nat} {A:Option Addr} {cap:Nat} {zs:List Int} {k:Nat}
theorem TapeAt.lt (h:TapeAt w g A cap zs k):g<w.heap.size:=h.blk.lt
theorem TapeAt.keep (h:TapeAt w g A cap zs k) (hb:∀ k,k<g+1→w'.heap[k]?=w.heap[k]?):TapeAt w' g A cap zs k:=
 ⟨h.short,h.row.keep fun k hk=>hb k (Nat.lt_succ_of_lt hk),(hb g (by omega)).trans h.blk⟩
theorem TapeAt.grown (h:TapeAt w g A cap zs k) {row:Option Nat} (hg:w.grownBy w' row) (hr:∀ k,row=some k→g<k):TapeAt w' g A cap zs k:=
 h.keep fun k hk=>hg.block k (by have:=h.lt;omega) (fun e=>by have:=hr k e.symm;omega)
theorem TapeAt.below (h:TapeAt w g A cap zs k) {B:Nat} (hb:Below B w w') (hB:g<B):TapeAt w' g A cap zs k:=h.keep fun k hk=>hb.block k (by omega)
theorem TapeAt.alloc (h:TapeAt w g A cap zs k) (o:Obj):TapeAt (w.alloc o) g A cap zs k:=h.keep fun k hk=>Below.heap_alloc _ _ _ (by have:=h.lt;omega)
end
structure NextIs (n:Int) (zs:List Int) (k:Nat) (r:Int) (k':Nat):Prop where
 lo:0≤r
 hi:r<n
 le:k≤k'
 most:k'≤k+1
 more:0<zs.length→k<k'
 val:Hid (r=nextV zs k n∧k'=nextK zs k)
set_option maxHeartbeats 400000 in
theorem mkTape_any (A:Option Addr) (cap:Nat) (zs:List Int) (w:World) (hs:zs.length≤400) (hr:Rd w (·<w.heap.size) A (zs.map (Value.int .i64))) :
  Calls Tryz.prog 37 #[.slice A zs.length cap] w fun e w'=>e=.returned (.pointer (some ⟨w.heap.size,0,none⟩))∧TapeAt w' w.heap.size A cap zs 0∧Below w.heap.size w w':=by
 have HR:=Lib.hid hr
 clear hr
 go_enter Tryz.func37,Tryz.ntmps37
 go_wp2
 go_ret
 exact⟨rfl,⟨hs,HR.out.alloc _,Blk.new _ _ _⟩,(Below.refl _ _).alloc (Nat.le_refl _) _⟩
/-! The types of the program. -/
abbrev zi:Value:=.int .i64 0
abbrev zb:Value:=.bool false
abbrev zs0:Value:=.slice none 0 0
def tiInt:TI:={ size:=1,agg:=false,zero:=[zi] }
def tiBool:TI:={ size:=1,agg:=false,zero:=[zb],isB:=true }
def tiSl (n:Nat) (elt:Nat:=0) (eb:Nat:=0):TI:={ size:=1,agg:=false,zero:=[zs0],esz:=n,sl:=true,elt:=elt,eb:=eb }
def tiRec (zero:List Value) (offs fszs fagg:List Nat) (eqk:List CK:=[]):TI:={ size:=zero.length,agg:=true,zero:=zero,offs:=offs,fszs:=fszs,fagg:=fagg,eqk:=eqk }
abbrev ki:CK:=.i .i64
def tt:TT:=[
 (3,tiInt),(4,tiBool),(34,tiInt),
 (22,tiSl 1 3 8),(26,tiSl 1 84 8),(27,tiSl 2 86 16),(28,tiSl 7 90 56),(29,tiSl 2 88 16),(50,tiSl 12 64 88),(51,tiSl 4 78 32),(124,tiSl 9 56 72),
 (31,tiRec [zi,zs0,zs0,zs0,zs0,zs0,zs0,zi,zi,zi] [0,1,2,3,4,5,6,7,8,9] [1,1,1,1,1,1,1,1,1,1] [1,1,1,1,1,1,1,1,1,1]),
 (53,tiRec [zi,zi,zs0,zs0,zi,zi,zi,zi] [0,1,2,3,4,5,6,7] [1,1,1,1,1,1,1,1] [1,1,1,1,1,1,1,1]),
 (56,tiRec [zi,zi,zi,zi,zi,zi,zi,zi,zi] [0,1,2,3,4,5,6,7,8] [1,1,1,1,1,1,1,1,1] [1,1,1,1,1,1,1,1,1] [ki,ki,ki,ki,ki,ki,ki,ki,ki]),
 (62,tiRec [zi,zi,zi,zi,zi] [0,1,2,3,4] [1,1,1,1,1] [1,1,1,1,1] [ki,ki,ki,ki,ki]),
 (64,tiRec [zb,zb,zi,zi,zi,zi,zi,zi,zi,zi,zi,zi] [0,1,2,3,4,5,6,7] [1,1,1,1,1,1,1,5] [1,1,1,1,1,1,1,2] [.b,.b,ki,ki,ki,ki,ki,ki,ki,ki,ki,ki]),
 (78,tiRec [zi,zi,zi,zi] [0,1,2,3] [1,1,1,1] [1,1,1,1] [ki,ki,ki,ki]),
 (84,tiRec [zi] [0] [1] [1]),(86,tiRec [zi,zi] [0,1] [1,1] [1,1]),(88,tiRec [zi,zi] [0,1] [1,1] [1,1]),
 (90,tiRec [zi,zi,zi,zi,zi,zi,zb] [0,1,2,3,4,5,6] [1,1,1,1,1,1,1] [1,1,1,1,1,1,1]),
 (138,tiRec [zs0,zi] [0,1] [1,1] [1,1]),(150,tiRec [zs0,zi] [0,1] [1,1] [1,1]),(73,tiRec [zi,zi] [0,1] [1,1] [1,1]),(70,tiSl 2 73 16),(60,{ size:=4,agg:=true,zero:=[zi,zi,zi,zi],arr:=4 }),(129,tiRec [zi,zi,zi,zi,zi,zb,zi] [0,1,2,3,4,5,6] [1,1,1,1,1,1,1] [1,1,1,1,1,1,1]),(131,tiRec [zi,zi,zi,zi,zi,zi,zb] [0,1,2,3,4,5,6] [1,1,1,1,1,1,1] [1,1,1,1,1,1,1])]
theorem tt_mem (P:Program) (τ:TT) (h:∀ p ∈ τ,TIok P p.1 p.2):TTok P τ:=fun t ti hl=>h (t,ti) (lk_mem hl)
theorem tt_cons {P:Program} {t:TypeId} {ti:TI} {r:TT} (h:TIok P t ti) (hr:∀ p ∈ r,TIok P p.1 p.2):∀ p ∈ (t,ti)::r,TIok P p.1 p.2:=fun p hp=>by
 rcases List.mem_cons.1 hp with rfl | hp
 ·exact h
 ·exact hr p hp
theorem tt_nil {P:Program}:∀ p ∈ ([]:TT),TIok P p.1 p.2:=fun p hp=>absurd hp (List.not_mem_nil)
theorem plains {l:List Value} (h:l.all (fun v=>match v with | .pointer (some _)=>false | .slice (some _) _ _=>false | .map (some _)=>false | _=>true)=true):∀ v ∈ l,plain1 v:=fun v hv=>by
 have:=List.all_eq_true.1 h v hv
 cases v with
 | pointer p=>cases p<;>simp_all [plain1]
 | slice p n c=>cases p<;>simp_all [plain1]
 | map p=>cases p<;>simp_all [plain1]
 | _=>trivial
theorem ttOk:TTok Tryz.prog tt:=by
 refine tt_mem _ _ ?_
 unfold tt
 repeat (refine tt_cons ⟨by kernel_rfl,by kernel_rfl,plains (by rfl),by kernel_rfl,by kernel_rfl,by kernel_rfl⟩ ?_)
 exact tt_nil
theorem mixed:(Tryz.prog).follows .mixedOrders=true:=by kernel_rfl
section
variable {P:Program} {C:Ctx} {ρ ρ':Nat→Pl} {fr:AF} {mem mem':AM} {nx nx':Nat} {a:Act} {w w':World}
def Ctx.of (w:World) (ρ:Nat→Pl) (nx:Nat) (bn:List Nat) (nt:Nat):Ctx:={ w0:=w,bor:=bn.filterMap (bno ρ),n0:=nx,ρ0:=ρ,nt:=nt }
def noXB:AM→Bool
 | []=>true
 | (_,.ext _)::_=>false
 | _::r=>noXB r
theorem noXB_lk:∀ {m:AM},noXB m=true→∀ i e,lk m i≠some (.ext e)
 | [],_,i,e,h=>by simp[lk] at h
 | (k,.ext _)::r,hx,i,e,h=>by cases hx
 | (k,.row _ _ _ _)::r,hx,i,e,h=>by
  rcases lk_cons h with⟨_,q⟩ | ⟨_,q⟩
  ·cases q
  ·exact noXB_lk (m:=r) hx i e q
 | (k,.box _ _)::r,hx,i,e,h=>by
  rcases lk_cons h with⟨_,q⟩ | ⟨_,q⟩
  ·cases q
  ·exact noXB_lk (m:=r) hx i e q
theorem Sat.after (h:Sat C ρ fr mem nx a w) {bn:List Nat} {nt:Nat} (hm:MemAt (Ctx.of w ρ nx bn nt) ρ' mem' nx' w') (hbn:∀ i ∈ bn,∃ t cs,lk mem i=some (.box t cs)) {keep:AM}
  (hk:∀ i b,lk keep i=some b→lk mem' i=some b∧(i ∈ bn∨nx≤i)) (hall:∀ i ∈ bn,∃ t cs,lk keep i=some (.box t cs))
  (hfresh:∀ i t sz n el,nx≤i→lk keep i=some (.row t sz n el)→n=0∨∃ b off,(ρ' i).A=some ⟨b,off,none⟩∧w.heap.size≤b) (hkx:∀ i e,lk keep i≠some (.ext e):=by exact noXB_lk rfl):Sat C ρ' fr (keep++mem) nx' a w':=by
 have hlow:∀ i,i<nx→ρ' i=ρ i:=fun i hi=>hm.low i hi
 have hnx:nx≤nx':=hm.n0
 have hsz:w.heap.size≤w'.heap.size:=hm.rest.size
 -- blocks that are not handed over
 have hstay:∀ b,b<w.heap.size→(∀ i ∈ bn,bno ρ i≠some b)→w'.heap[b]?=w.heap[b]?:=fun b hlt hn=>hm.rest.block b hlt (by
  intro hmem
  obtain⟨i,hi,he⟩:=List.mem_filterMap.1 hmem
  exact hn i hi he)
 have hbnlk:∀ i ∈ bn,∃ t cs,lk (mem++C.fm) i=some (.box t cs):=fun i hi=>by obtain⟨t,cs,e⟩:=hbn i hi;exact⟨t,cs,lk_app e⟩
 have hok:∀ b,(Ctx.of w ρ nx bn nt).ok b→C.ok b:=fun b hb=>hb.elim (fun q=>.inl (Nat.le_trans h.rest.size q)) fun q=>by
  obtain⟨i,hi,he⟩:=List.mem_filterMap.1 q
  obtain⟨t,cs,hl⟩:=hbnlk i hi
  obtain⟨g,f1,-,f3,-⟩:=h.blk i _ hl
  have:g=b:=by simpa [bno,f1] using he
  exact this ▸ f3
 -- an old block
 have hold:∀ i b,lk keep i=none→lk (mem++C.fm) i=some b→BlkOk C ρ' nx' i w' b:=by
  intro i b hkn hi
  have hlt:=(h.mlt i b hi).1
  have hnb:i ∉ bn:=fun hib=>by obtain⟨t,cs,e⟩:=hall i hib;rw[hkn] at e;cases e
  have hb:=((h.blk i b hi).ren (ρ':=ρ') (m:=nx') (hlow i hlt) (fun j hj _=>hlow j hj) hnx)
  refine hb.far hsz fun g hg=>?_
  rw[brd_ren (hlow i hlt)] at hg
  refine hstay g ((h.blk i b hi).brd_lt hg) fun j hj he=>?_
  obtain⟨t2,cs2,hj2⟩:=hbnlk j hj
  have hne:j≠i:=fun q=>hnb (q ▸ hj)
  exact (h.sep j i _ _ hne hj2 hi).wr (h.sep i j _ _ (Ne.symm hne) hi hj2) (show bwr ρ j (.box t2 cs2) g from he) hg
 -- a kept block
 have hkeep:∀ i b,lk keep i=some b→BlkOk C ρ' nx' i w' b:=by
  intro i b hi
  obtain⟨hi',hor⟩:=hk i b hi
  have hb:=hm.blk i b hi'
  cases b with
  | ext e=>exact absurd hi (hkx i e)
  | row t sz n el=>
   obtain⟨e1,e2,e3⟩:=hb
   refine⟨e1,e2,e3.imp id ?_⟩
   rintro⟨b,off,hA,hat,hc⟩
   exact⟨b,off,hA,⟨hat.lt,fun ho=>by obtain⟨q1,q2,q3⟩:=hat.own ho;exact⟨q1,hok _ q2,q3⟩,fun hf=>hok _ (hat.new hf)⟩,hc⟩
  | box t cs=>
   obtain⟨g,e1,e2,e3,e4⟩:=hb
   refine⟨g,e1,e2,?_,e4⟩
   by_cases hib:i ∈ bn
   ·obtain⟨t2,cs2,hi2⟩:=hbnlk i hib
    obtain⟨g2,f1,-,f3,-⟩:=h.blk i _ hi2
    rw[hlow i (h.mlt i _ hi2).1,f1] at e1
    cases e1
    exact f3
   ·rcases e3 with e3 | e3
    ·exact .inl (Nat.le_trans h.rest.size e3)
    ·obtain⟨j,hj,he⟩:=List.mem_filterMap.1 e3
     obtain⟨t3,cs3,hj3⟩:=hall j hj
     have:=hm.sep i j _ _ (fun q=>hib (q ▸ hj)) hi' (hk j _ hj3).1
     simp only[Apart] at this
     obtain⟨t2,cs2,hj2⟩:=hbnlk j hj
     exact absurd (by rw[bno,bno,e1,hlow j (h.mlt j _ hj2).1];rw[bno] at he;rw[he];rfl) this
 have hlk:∀ i b,lk (keep++mem++C.fm) i=some b→lk keep i=some b∨(lk keep i=none∧lk (mem++C.fm) i=some b):=by
  intro i b hi
  rw[List.append_assoc] at hi
  cases hki:lk keep i with
  | some c=>rw[lk_app hki] at hi;exact .inl hi
  | none=>rw[lk_none_app hki] at hi;exact .inr ⟨rfl,hi⟩
 -- a kept block and an old one
 have hmix:∀ i j b b',lk keep i=some b→lk keep j=none→lk (mem++C.fm) j=some b'→Apart ρ' i j b b'∧Apart ρ' j i b' b:=by
  intro i j b b' hi hjn hj
  obtain⟨hi',hor⟩:=hk i b hi
  have hjlt:=(h.mlt j b' hj).1
  have hjb:j ∉ bn:=fun q=>by obtain⟨t,cs,e⟩:=hall j q;rw[hjn] at e;cases e
  have hij:i≠j:=by rintro rfl;rw[hjn] at hi;cases hi
  have er:=brd_ren (ρ':=ρ') (ρ:=ρ) (hlow j hjlt) b'
  have ew:=bwr_ren (ρ':=ρ') (ρ:=ρ) (hlow j hjlt) b'
  by_cases hib:i ∈ bn
  ·obtain⟨t2,cs2,hi2⟩:=hbnlk i hib
   obtain⟨t3,cs3,hi3⟩:=hall i hib
   rw[hi] at hi3
   cases hi3
   have ei:bno ρ' i=bno ρ i:=by unfold bno;rw[hlow i (h.mlt i _ hi2).1]
   have a1:=h.sep i j _ _ hij hi2 hj
   have a2:=h.sep j i _ _ (Ne.symm hij) hj hi2
   refine⟨(hkeep i _ hi).apart fun g hg hg2=>?_,(hold j b' hjn hj).apart fun g hg hg2=>?_⟩
   ·rw[er] at hg2
    exact a1.wr a2 (show bno ρ i=some g from ei.symm.trans hg) hg2
   ·rw[ew] at hg
    exact a2.wr a1 hg (show bno ρ i=some g from ei.symm.trans hg2)
  ·have hnxi:nx≤i:=hor.resolve_left hib
   -- the block of i is new
   have hnew:∀ g,brd ρ' i b g→w.heap.size≤g:=by
    intro g hg
    cases b with
    | ext e=>exact absurd hi (hkx i e)
    | row t sz n el=>
     rcases hfresh i t sz n el hnxi hi with h0 | ⟨bb,off,hA,hle⟩
     ·exact absurd h0 hg.1
     ·have:=hg.2
      simp[bno,hA] at this;omega
    | box t cs=>
     obtain⟨g',e1,e2,e3,e4⟩:=hm.blk i _ hi'
     have hg':bno ρ' i=some g:=hg
     have hgg:g'=g:=by simp[bno,e1] at hg';exact hg'
     subst hgg
     rcases e3 with e3 | e3
     ·exact e3
     ·obtain⟨q,hq,he⟩:=List.mem_filterMap.1 e3
      obtain⟨t3,cs3,hq3⟩:=hall q hq
      have:=hm.sep i q _ _ (fun z=>hib (z ▸ hq)) hi' (hk q _ hq3).1
      simp only[Apart] at this
      obtain⟨t2,cs2,hq2⟩:=hbnlk q hq
      exact absurd (by rw[hg',← he];unfold bno;rw[hlow q (h.mlt q _ hq2).1]) this
   have holdlt:∀ g,brd ρ' j b' g→g<w.heap.size:=fun g hg=>(h.blk j b' hj).brd_lt (er ▸ hg)
   exact⟨(hkeep i _ hi).apart fun g hg hg2=>by have:=hnew g (bwr_brd hg);have:=holdlt g hg2;omega,(hold j b' hjn hj).apart fun g hg hg2=>by have:=hnew g hg2;have:=holdlt g (bwr_brd hg);omega⟩
 refine⟨⟨fun t v hv=>?_,fun t v hv=>okV_mono (fun j hj _=>hlow j hj) hnx (h.fok.frk t v hv)⟩,h.sz,h.dfr,fun i b hi=>?_,fun i b hi=>?_,fun i j b b' hne hi hj=>?_,Nat.le_trans h.n0 hnx,fun i hi=>(hlow i (Nat.lt_of_lt_of_le hi h.n0)).trans (h.low i hi),?_⟩
 ·rw[den_congr (fun j hj _=>hlow j hj) (h.fok.frk t v hv)];exact h.fok.frm t v hv
 ·rcases hlk i b hi with hi | ⟨hn,hi⟩
  ·exact hm.mlt i b (hk i b hi).1
  ·exact⟨Nat.lt_of_lt_of_le (h.mlt i b hi).1 hnx,by rw[hlow i (h.mlt i b hi).1];exact (h.mlt i b hi).2⟩
 ·rcases hlk i b hi with hi | ⟨hn,hi⟩
  ·exact hkeep i b hi
  ·exact hold i b hn hi
 ·rcases hlk i b hi with hi | ⟨hn,hi⟩
  ·rcases hlk j b' hj with hj | ⟨hm2,hj⟩
   ·exact hm.sep i j b b' hne (hk i b hi).1 (hk j b' hj).1
   ·exact (hmix i j b b' hi hm2 hj).1
  ·rcases hlk j b' hj with hj | ⟨hm2,hj⟩
   ·exact (hmix j i b' b hj hn hi).2
   ·exact (h.sep i j b b' hne hi hj).ren (hlow i (h.mlt i b hi).1) (hlow j (h.mlt j b' hj).1)
 ·refine⟨hm.rest.os.trans h.rest.os,hm.rest.tape.trans h.rest.tape,hm.rest.output.trans h.rest.output,Nat.le_trans h.rest.size hsz,fun b hlt hnb=>?_⟩
  refine (hstay b (Nat.lt_of_lt_of_le hlt h.rest.size) fun i hi he=>?_).trans (h.rest.block b hlt hnb)
  obtain⟨t,cs,e⟩:=hbnlk i hi
  obtain⟨g,e1,-,e3,-⟩:=h.blk i _ e
  simp[bno,e1] at he
  subst he
  rcases e3 with e3 | e3
  ·omega
  ·exact hnb e3
end
section
variable {P:Program} {C:Ctx} {ρ ρ':Nat→Pl} {fr:AF} {mem mem':AM} {nx nx':Nat} {a:Act} {w w':World}
theorem getD_get {α:Type} {l:List α} {k:Nat} {d:α} (h:k<l.length):l[k]?=some (l.getD k d):=by rw[List.getD_eq_getElem?_getD,List.getElem?_eq_getElem h];rfl
theorem row_of_rd {α:Type} {enc:α→List Value} {sz:Nat} (hs:∀ x,(enc x).length=sz) (hpos:0<sz) (hpl:∀ x,∀ v ∈ enc x,plain1 v) {l:List α} (d:α) {i:Nat} {t:TypeId} {A:Option Addr} {S:Nat→Prop}
  (hρ:ρ i=⟨A,sz,l.length,false,noSub⟩) (h:Rd w S A (flat enc l)) (hS:∀ b,S b→b<w.heap.size) (ht:ownT t=false:=by first | rfl | assumption) (hfr:frT t=true→∀ b,S b→C.w0.heap.size≤b:=by intro h;exact absurd h (by decide)):BlkOk C ρ nx i w (.row t sz l.length (fun k=>enc (l.getD k d))):=by
 refine⟨by rw[hρ];exact⟨rfl,rfl⟩,fun k _=>⟨hs _,fun v hv=>hpl _ v hv⟩,?_⟩
 by_cases h0:l.length=0
 ·exact .inl h0
 ·obtain⟨b,off,x,hA,hb,_,_⟩:=h.row hs hpos (k:=0) (by omega)
  refine .inr ⟨b,off,by rw[hρ];exact hA,⟨hS b hb,fun ho=>(by rw[ht] at ho;cases ho),fun hf=>.inl (hfr hf b hb)⟩,fun k hk j v hv=>?_⟩
  obtain⟨b2,off2,x2,hA2,_,hx2,hc2⟩:=h.row hs hpos hk
  rw[hA] at hA2
  cases hA2
  rw[getD_get hk (d:=d)] at hx2
  cases hx2
  exact hc2 j v hv
theorem flat_at {α:Type} {enc:α→List Value} {sz:Nat} (hs:∀ x,(enc x).length=sz) (hpos:0<sz):∀ (l:List α) (j:Nat) (v:Value),(flat enc l)[j]?=some v→∃ x,l[j / sz]?=some x∧(enc x)[j % sz]?=some v
 | [],j,v,h=>by simp[flat] at h
 | a::l,j,v,h=>by
  simp only[flat,List.flatMap_cons] at h
  by_cases hj:j<sz
  ·rw[List.getElem?_append_left (by rw[hs];exact hj)] at h
   exact⟨a,by simp[Nat.div_eq_of_lt hj],by rw[Nat.mod_eq_of_lt hj];exact h⟩
  ·rw[List.getElem?_append_right (by rw[hs];omega),hs] at h
   obtain⟨x,h1,h2⟩:=flat_at hs hpos l (j-sz) v h
   have e1:j / sz=(j-sz) / sz+1:=by
    have:j=(j-sz)+sz:=by omega
    conv=>lhs;rw[this]
    rw[Nat.add_div_right _ hpos]
   have e2:j % sz=(j-sz) % sz:=by
    have:j=(j-sz)+sz:=by omega
    conv=>lhs;rw[this]
    rw[Nat.add_mod_right]
   exact⟨x,by rw[e1];simpa using h1,by rw[e2];exact h2⟩
theorem rd_of_row {α:Type} {enc:α→List Value} {sz:Nat} (hs:∀ x,(enc x).length=sz) (hpos:0<sz) {l:List α} {d:α} {i:Nat} {t:TypeId} (h:BlkOk C ρ nx i w (.row t sz l.length (fun k=>enc (l.getD k d)))) {S:Nat→Prop} (hS:l.length≠0→∀ b off,(ρ i).A=some ⟨b,off,none⟩→b<w.heap.size→S b) :
  Rd w S (ρ i).A (flat enc l):=by
 obtain⟨-,-,h3⟩:=h
 intro hne
 have hl:l.length≠0:=by
  intro h0
  rw[List.eq_nil_of_length_eq_zero h0] at hne
  exact hne rfl
 rcases h3 with h0 | ⟨b,off,hA,hlt,hc⟩
 ·exact absurd h0 hl
 ·refine⟨b,off,hA,hS hl b off hA hlt.lt,fun j v hv=>?_⟩
  obtain⟨x,h1,h2⟩:=flat_at hs hpos l j v hv
  have hk:j / sz<l.length:=(List.getElem?_eq_some_iff.1 h1).1
  have hx:l.getD (j / sz) d=x:=by rw[List.getD_eq_getElem?_getD,h1];rfl
  have:=hc (j / sz) hk (j % sz) v (by show (enc (l.getD (j / sz) d))[j % sz]?=some v;rw[hx];exact h2)
  rw[← this]
  congr 2
  have:=Nat.div_add_mod j sz
  rw[Nat.mul_comm] at this
  omega
def allRows:AM→Prop
 | []=>True
 | (_,.row t _ _ _)::r=>(match ownT t with | false=>allRows r | true=>False)
 | (_,.box _ _)::_=>False
 | (_,.ext _)::_=>False
theorem allRows_x:∀ {mem:AM},allRows mem→∀ i e,lk mem i≠some (.ext e)
 | [],_,i,e,h=>by simp[lk] at h
 | (k,.row t2 _ _ _)::r,hr,i,e,h=>by
  rcases lk_cons h with⟨_,q⟩ | ⟨_,q⟩
  ·cases q
  ·simp only[allRows] at hr
   cases ho:ownT t2 with
   | true=>rw[ho] at hr;exact hr.elim
   | false=>rw[ho] at hr;exact allRows_x (mem:=r) hr i e q
 | (k,.box _ _)::r,hr,i,e,h=>hr.elim
 | (k,.ext _)::r,hr,i,e,h=>hr.elim
theorem allRows_lk:∀ {mem:AM},allRows mem→∀ i t cs,lk mem i≠some (.box t cs)
 | [],_,i,t,cs,h=>by simp[lk] at h
 | (k,.row t2 _ _ _)::r,hr,i,t,cs,h=>by
  rcases lk_cons h with⟨_,q⟩ | ⟨_,q⟩
  ·cases q
  ·simp only[allRows] at hr
   cases ho:ownT t2 with
   | true=>rw[ho] at hr;exact hr.elim
   | false=>rw[ho] at hr;exact allRows_lk (mem:=r) hr i t cs q
 | (k,.box _ _)::r,hr,i,t,cs,h=>hr.elim
 | (k,.ext _)::r,hr,i,t,cs,h=>hr.elim
theorem allRows_own:∀ {mem:AM},allRows mem→∀ i t sz n el,lk mem i=some (.row t sz n el)→ownT t=false
 | [],_,i,t,sz,n,el,h=>by simp[lk] at h
 | (k,.row t2 _ _ _)::r,hr,i,t,sz,n,el,h=>by
  simp only[allRows] at hr
  cases ho:ownT t2 with
  | true=>rw[ho] at hr;exact hr.elim
  | false=>
   rw[ho] at hr
   rcases lk_cons h with⟨_,q⟩ | ⟨_,q⟩
   ·cases q;exact ho
   ·exact allRows_own (mem:=r) hr i t sz n el q
 | (k,.box _ _)::r,hr,i,t,sz,n,el,h=>hr.elim
 | (k,.ext _)::r,hr,i,t,sz,n,el,h=>hr.elim
def blksOk (C:Ctx) (ρ:Nat→Pl) (nx:Nat) (w:World):AM→Prop
 | []=>True
 | (i,b)::r=>(i<nx∧(ρ i).res=false∧BlkOk C ρ nx i w b)∧blksOk C ρ nx w r
theorem blksOk_lk:∀ {mem:AM},blksOk C ρ nx w mem→∀ i b,lk mem i=some b→i<nx∧(ρ i).res=false∧BlkOk C ρ nx i w b
 | [],_,i,b,h=>by simp[lk] at h
 | (k,c)::r,hr,i,b,h=>by
  rcases lk_cons h with⟨rfl,rfl⟩ | ⟨_,q⟩
  ·exact hr.1
  ·exact blksOk_lk hr.2 i b q
theorem MemAt.rows {nt:Nat} (hr:allRows mem) (hb:blksOk { w0:=w,bor:=[],n0:=nx,ρ0:=ρ,nt:=nt } ρ nx w mem):MemAt { w0:=w,bor:=[],n0:=nx,ρ0:=ρ,nt:=nt } ρ mem nx w:=
 ⟨fun i b hi=>⟨(blksOk_lk hb i b hi).1,(blksOk_lk hb i b hi).2.1⟩,fun i b hi=>(blksOk_lk hb i b hi).2.2,fun i j b b' hne hi hj=>by
  refine (blksOk_lk hb i b hi).2.2.apart fun g hg=>?_
  cases b with
  | ext e=>exact absurd hi (allRows_x hr i e)
  | row t sz n el=>have ho:=hg.1;rw[allRows_own hr i t sz n el hi] at ho;cases ho
  | box t cs=>exact absurd hi (allRows_lk hr i t cs),Nat.le_refl _,fun _ _=>rfl,⟨rfl,rfl,rfl,Nat.le_refl _,fun _ _ _=>rfl⟩⟩
def allRo:AM→Prop
 | []=>True
 | (_,.row t _ _ _)::r=>(match ownT t with | false=>allRo r | true=>False)
 | (_,.ext (.deep t _ _ _ _ _))::r=>(match ownT t with | false=>allRo r | true=>False)
 | (_,.ext (.fam _ _))::r=>allRo r
 | (_,.ext (.map _ _ _))::_=>False
 | (_,.box _ _)::_=>False
theorem allRo_lk:∀ {mem:AM},allRo mem→∀ i b,lk mem i=some b→∀ (ρ:Nat→Pl) (j g:Nat),¬ bwr ρ j b g
 | [],_,i,b,h=>by simp[lk] at h
 | (k,.row t2 _ _ _)::r,hr,i,b,h=>by
  simp only[allRo] at hr
  cases ho:ownT t2 with
  | true=>rw[ho] at hr;exact hr.elim
  | false=>
   rw[ho] at hr
   rcases lk_cons h with⟨_,q⟩ | ⟨_,q⟩
   ·subst q;intro ρ j g hg;have:=hg.1;rw[ho] at this;cases this
   ·exact allRo_lk (mem:=r) hr i b q
 | (k,.ext (.deep t2 _ _ _ _ _))::r,hr,i,b,h=>by
  simp only[allRo] at hr
  cases ho:ownT t2 with
  | true=>rw[ho] at hr;exact hr.elim
  | false=>
   rw[ho] at hr
   rcases lk_cons h with⟨_,q⟩ | ⟨_,q⟩
   ·subst q;intro ρ j g hg;have:=hg.1;rw[ho] at this;cases this
   ·exact allRo_lk (mem:=r) hr i b q
 | (k,.ext (.fam _ _))::r,hr,i,b,h=>by
  rcases lk_cons h with⟨_,q⟩ | ⟨_,q⟩
  ·subst q;intro ρ j g hg;exact hg
  ·exact allRo_lk (mem:=r) hr i b q
 | (k,.ext (.map _ _ _))::r,hr,i,b,h=>hr.elim
 | (k,.box _ _)::r,hr,i,b,h=>hr.elim
theorem MemAt.ro {nt:Nat} (hr:allRo mem) (hb:blksOk { w0:=w,bor:=[],n0:=nx,ρ0:=ρ,nt:=nt } ρ nx w mem):MemAt { w0:=w,bor:=[],n0:=nx,ρ0:=ρ,nt:=nt } ρ mem nx w:=
 ⟨fun i b hi=>⟨(blksOk_lk hb i b hi).1,(blksOk_lk hb i b hi).2.1⟩,fun i b hi=>(blksOk_lk hb i b hi).2.2,fun i j b b' hne hi hj=>(blksOk_lk hb i b hi).2.2.apart fun g hg=>absurd hg (allRo_lk hr i b hi ρ i g),Nat.le_refl _,fun _ _=>rfl,⟨rfl,rfl,rfl,Nat.le_refl _,fun _ _ _=>rfl⟩⟩
theorem MemAt.one {nt g i:Nat} {t:TypeId} {cs:List Value} (hr:allRows mem) (hi:i<nx) (hρ:ρ i=⟨some ⟨g,0,none⟩,0,0,false,noSub⟩) (hbx:BlkOk { w0:=w,bor:=[g],n0:=nx,ρ0:=ρ,nt:=nt } ρ nx i w (.box t cs))
  (hb:blksOk { w0:=w,bor:=[g],n0:=nx,ρ0:=ρ,nt:=nt } ρ nx w mem) (hap:∀ j t sz n el,lk mem j=some (.row t sz n el)→n=0∨bno ρ j≠some g):MemAt { w0:=w,bor:=[g],n0:=nx,ρ0:=ρ,nt:=nt } ρ ((i,.box t cs)::mem) nx w:=by
 have hgi:bno ρ i=some g:=by simp[bno,hρ]
 refine⟨fun j b hj=>?_,fun j b hj=>?_,fun j k b b' hne hj hk=>?_,Nat.le_refl _,fun _ _=>rfl,⟨rfl,rfl,rfl,Nat.le_refl _,fun _ _ _=>rfl⟩⟩
 ·rcases lk_cons hj with⟨rfl,rfl⟩ | ⟨_,hj⟩
  ·exact⟨hi,by rw[hρ]⟩
  ·exact⟨(blksOk_lk hb j b hj).1,(blksOk_lk hb j b hj).2.1⟩
 ·rcases lk_cons hj with⟨rfl,rfl⟩ | ⟨_,hj⟩
  ·exact hbx
  ·exact (blksOk_lk hb j b hj).2.2
 ·rcases lk_cons hj with⟨rfl,rfl⟩ | ⟨_,hj⟩
  ·rcases lk_cons hk with⟨rfl,rfl⟩ | ⟨_,hk⟩
   ·exact absurd rfl hne
   ·cases b' with
    | box t2 cs2=>exact absurd hk (allRows_lk hr _ _ _)
    | ext e=>exact absurd hk (allRows_x hr _ _)
    | row t2 sz n el=>
     rcases hap k t2 sz n el hk with h0 | h0
     ·exact .inl h0
     ·exact .inr (by rw[hgi];exact Ne.symm h0)
  ·cases b with
   | box t2 cs2=>exact absurd hj (allRows_lk hr _ _ _)
   | ext e=>exact absurd hj (allRows_x hr _ _)
   | row t2 sz n el=>cases b' with
    | box t3 cs3=>trivial
    | ext e=>intro g hg;have ho:=hg.1;rw[allRows_own hr _ _ _ _ _ hj] at ho;cases ho
    | row t3 sz3 n3 el3=>intro ho;rw[allRows_own hr _ _ _ _ _ hj] at ho;cases ho
end
def bodyOf (f:Func):Code:=match f.body with | some c=>c | none=>.skip
abbrev ptr (i:Nat):Value:=.pointer (some ⟨i,0,none⟩)
abbrev slc (i n c:Nat):Value:=.slice (some ⟨i,0,none⟩) n c
abbrev intRow (l:List Int):ABlk:=.row 3 1 l.length (fun j=>intC (l.getD j 0))
abbrev tapeB (r n cap:Nat) (k:Int):ABlk:=.box 138 [slc r n cap,.int .i64 k]
theorem wrapi {n:Int} (h:-9223372036854775808≤n∧n≤9223372036854775807):IntKind.i64.wrap n=n:=by rw[IntKind.wrap_i64];omega
theorem CSound.val {P : Program} {f : FuncId} {ct : CT} (ent : (P.funcs[f]?).map (fun fn => (fn.name == "runtime.NumGoroutine", fn.body.isNone)) = some (false, false))
  (h:∀ (vs:List Value) (mem:AM) (nx:Nat) (K:Value→AM→Nat→Prop),ct vs mem nx K→∃ v,K v mem nx∧plain1 v∧atom v=true∧∀ (ρ:Nat→Pl) (w:World),Calls P f (vs.map (den ρ)).toArray w fun e w'=>e=.returned v∧Below w.heap.size w w'):CSound P f ct:=
 ⟨ent,fun {C ρ fr mem nx a w vs K} hc hs hv=>by
  obtain⟨v,hK,hp,ha,hcall⟩:=h vs mem nx K hc
  refine (hcall ρ w).mono fun e w' ⟨he,hb⟩=>?_
  have hd:den ρ v=v:=by rw[atom_den ha,den1_plain hp]
  exact⟨v,mem,nx,ρ,by rw[hd];exact he,hK,hs.later hb,by rw[atom_ok ha];exact ok1_plain hp,ExtS.refl _ _⟩⟩
def ctMod:CT:=fun vs mem nx K=>∃ v n,vs=[.int .i64 v,.int .i64 n]∧(1≤n∧n≤2147483648)∧K (.int .i64 (v % n)) mem nx
theorem modOk:CSound Tryz.prog 56 ctMod:=CSound.val (by kernel_rfl) (by
 rintro vs mem nx K ⟨v,n,rfl,hn,hK⟩
 refine⟨_,hK,trivial,rfl,fun ρ w=>?_⟩
 refine (mkMod_any v n w hn.1 hn.2).mono ?_
 rintro e w' ⟨rfl,rfl⟩
 exact⟨rfl,Below.refl _ _⟩)
theorem ft_cons {P:Program} {f:FuncId} {ct:CT} {r:FT} (h:CSound P f ct) (hr:FTok P r):FTok P ((f,ct)::r):=fun g c hl=>by
 rcases lk_cons hl with⟨rfl,rfl⟩ | ⟨_,hl⟩
 ·exact h
 ·exact hr g c hl
theorem ft_nil {P:Program}:FTok P []:=fun g c hl=>by simp[lk] at hl
structure TpAt (w:World) (g:Nat) (A:Option Addr) (cap:Nat) (zs:List Int) (k:Int):Prop where
 row:Rd w (fun b=>b≠g∧b<w.heap.size) A (flat intC zs)
 blk:Blk w g 138 #[.slice A zs.length cap,.int .i64 k]
abbrev Adv (zs:List Int) (k k':Int):Prop:=k≤k'∧k'≤k+1∧(zs.length≠0→k'=k+1)
def NextR (zs:List Int) (n k r k':Int):Prop:=(0≤r∧r<n)∧Adv zs k k'
def nextF:FT:=[(56,ctMod)]
theorem nextFok:FTok Tryz.prog nextF:=ft_cons modOk ft_nil
def nextD:List (Nat×DQ):=[
 (3,{ k:=16,L:=[0,1],pre:=[(0,false),(1,false),(2,false),(3,false),(4,false),(5,false),(6,false),(7,false),(8,false),(9,false),(10,false),(11,false),(12,false),(13,true),(14,true),(15,false)] }),
 (4,{ k:=10,L:=[0,1],pre:=[(0,false),(1,false),(2,false),(3,false),(4,false),(5,false),(6,false),(7,false),(8,false),(9,true)] })]
theorem next_sx (cap:Nat) (zs:List Int) (k n:Int) (hz:zs.length≤400) (hk:0≤k∧k≤1000000) (hn:1≤n∧n≤1000000) :
  sx tt nextF nextD (bodyOf Tryz.f39) (argF 0 [ptr 0,.int .i64 n]) [(0,tapeB 1 zs.length cap k),(1,intRow zs)] 2
   (endx tt [.tmp 4] fun v mem' _=>∃ k',(∃ n' r,[Value.int .i64 n]=[.int .i64 n']∧v=.int .i64 r∧NextR zs n' k r k')∧(plain1 v∧atom v=true)∧lk mem' 0=some (tapeB 1 zs.length cap k')):=by
 refine⟨fun h0=>?_,fun h0=>?_⟩
 ·have hz0:(zs.length:Int)=0:=by simpa using h0
  exact⟨k,⟨n,0,rfl,rfl,⟨by omega,by omega⟩,by omega,by omega,by omega⟩,⟨trivial,rfl⟩,rfl⟩
 ·have hpos:(zs.length:Int)≠0:=by simpa using h0
  refine⟨⟨rfl,hpos⟩,⟨rfl,rfl,trivial⟩,⟨Nat.le_refl _,?i1,?i2⟩,⟨rfl,rfl,trivial⟩,⟨rfl,hpos⟩,⟨rfl,rfl,trivial⟩,?rest⟩
  case i1=>exact Int.tmod_nonneg _ hk.1
  case i2=>exact Int.tmod_lt_of_pos _ (by omega)
  refine⟨_,_,rfl,by decide,?_⟩
  refine⟨_,_,rfl,by omega,?_⟩
  refine⟨k+1,⟨n,_,rfl,rfl,⟨Int.emod_nonneg _ (by omega),Int.emod_lt_of_pos _ (by omega)⟩,by omega,by omega,fun _=>rfl⟩,⟨trivial,rfl⟩,?_⟩
  show some (tapeB 1 zs.length cap (IntKind.i64.wrap (k+1)))=_
  rw[wrapi (by omega)]
theorem tape_calls {f:FuncId} {fn:Func} {F:FT} {D:List (Nat×DQ)} (hF:FTok Tryz.prog F) (hf:(Tryz.prog).funcs[f]?=some fn) (hb:fn.body=some (bodyOf fn)) (hcode:codeB fn.ntmps D (bodyOf fn)=true) {args:List Value} (hn:Nat.ble (args.length+1) fn.ntmps=true) (hargs:∀ v ∈ args,plain1 v∧atom v=true)
  (g:Nat) (A:Option Addr) (cap:Nat) (zs:List Int) (k:Int) (w:World) (ht:TpAt w g A cap zs k) {R:Value→Int→Prop}
  (h:sx tt F D (bodyOf fn) (argF 0 (ptr 0::args)) [(0,tapeB 1 zs.length cap k),(1,intRow zs)] 2 (endx tt fn.results.toList fun v mem' _=>∃ k',R v k'∧(plain1 v∧atom v=true)∧lk mem' 0=some (tapeB 1 zs.length cap k'))) :
  Calls Tryz.prog f (.pointer (some ⟨g,0,none⟩)::args).toArray w fun e w'=>∃ v k',R v k'∧(plain1 v∧atom v=true)∧e=.returned v∧TpAt w' g A cap zs k'∧w.grownBy w' (some g):=by
 let ρ:Nat→Pl:=fun j=>match j with | 0=>⟨some ⟨g,0,none⟩,0,0,false,noSub⟩ | _=>⟨A,1,zs.length,false,noSub⟩
 have hrow:∀ C nx,BlkOk C ρ nx 1 w (intRow zs):=fun C nx=>row_of_rd (enc:=intC) (sz:=1) (fun _=>rfl) (by omega) (fun x v hv=>by simp[intC] at hv;subst hv;trivial) 0 rfl ht.row (fun b hb=>hb.2)
 have hm:=MemAt.one (ρ:=ρ) (nx:=2) (nt:=fn.ntmps) (w:=w) (mem:=[(1,intRow zs)]) (g:=g) (i:=0) (t:=138) (cs:=[slc 1 zs.length cap,.int .i64 k]) trivial (by omega) rfl
  ⟨g,rfl,by
   have:=ht.blk
   simpa [den1,dA_whole,dS_whole,ρ] using this,.inr (by simp),fun v hv=>by
    simp at hv
    rcases hv with rfl | rfl
    ·exact⟨Nat.lt_succ_self 1,rfl⟩
    ·trivial⟩ ⟨⟨by omega,rfl,hrow _ _⟩,trivial⟩ (fun j t sz n el hj=>by
   rcases lk_cons hj with⟨rfl,q⟩ | ⟨_,q⟩
   ·cases q
    by_cases h0:zs.length=0
    ·exact .inl h0
    ·obtain⟨b,off,x,hA,hb,-,-⟩:=ht.row.row (enc:=intC) (sz:=1) (fun _=>rfl) (by omega) (k:=0) (by omega)
     refine .inr ?_
     subst hA
     simp[bno,ρ]
     exact hb.1
   ·simp[lk] at q)
 have hden:∀ v ∈ args,den ρ v=v:=fun v hv=>by rw[atom_den (hargs v hv).2,den1_plain (hargs v hv).1]
 have hargs2:(ptr 0::args).map (den ρ)=.pointer (some ⟨g,0,none⟩)::args:=by
  rw[List.map_cons]
  refine congr (congrArg List.cons rfl) ?_
  conv=>rhs;rw[← List.map_id args]
  exact List.map_congr_left fun v hv=>hden v hv
 rw[← hargs2]
 refine (calls_sx ttOk hF mixed hf hb hcode (vs:=ptr 0::args) hn ⟨rfl,rfl⟩ rfl hm (fun v hv=>?_) h).mono ?_
 ·rcases List.mem_cons.1 hv with rfl | hv
  ·exact⟨⟨Nat.zero_lt_succ 1,rfl⟩,⟨g,0,rfl⟩,fun k hk=>by cases hk⟩
  ·rw[atom_ok (hargs v hv).2];exact ok1_plain (hargs v hv).1
 ·rintro e w' ⟨v,mem',nx',ρ',rfl,⟨k',hr,hpl,hlk⟩,-,hm'⟩
  have e0:ρ' 0=ρ 0:=hm'.low 0 (Nat.zero_lt_succ 1)
  have e1:ρ' 1=ρ 1:=hm'.low 1 (Nat.lt_succ_self 1)
  obtain⟨g',hA,hb,-,-⟩:=hm'.blk 0 _ hlk
  rw[e0] at hA
  cases hA
  have hgr:w.grownBy w' (some g):=⟨hm'.rest.os,hm'.rest.tape,hm'.rest.output,hm'.rest.size,fun b hlt hne=>hm'.rest.block b hlt (by simp;intro q;exact hne (by rw[q]))⟩
  refine⟨v,k',hr,hpl,by rw[atom_den hpl.2,den1_plain hpl.1],⟨?_,?_⟩,hgr⟩
  ·exact (ht.row.keep fun b hb=>hgr.block b hb.2 (by intro q;injection q with q;exact hb.1 q)).more fun b hb=>⟨hb.1,Nat.lt_of_lt_of_le hb.2 hgr.size⟩
  ·simpa [den1,dA_whole,dS_whole,e1,ρ] using hb
theorem Sat.grownBox {C:Ctx} {ρ:Nat→Pl} {fr:AF} {mem:AM} {nx:Nat} {a:Act} {w w':World} (h:Sat C ρ fr mem nx a w) {i g:Nat} {t t':TypeId} {cs cs':List Value} (hi:lk mem i=some (.box t cs)) (hA:(ρ i).A=some ⟨g,0,none⟩) (hg:w.grownBy w' (some g))
  (hb:Blk w' g t' (cs'.map (den1 ρ)).toArray) (hcs:∀ v ∈ cs',ok1 ρ nx v):Sat C ρ fr ((i,.box t' cs')::mem) nx a w':=by
 have hm:MemAt (Ctx.of w ρ nx [i] 0) ρ [(i,.box t' cs')] nx w':=by
  refine⟨fun j b hj=>?_,fun j b hj=>?_,fun j k b b' hne hj hk=>?_,Nat.le_refl _,fun _ _=>rfl,⟨hg.os,hg.tape,hg.output,hg.size,fun b hlt hn=>hg.block b hlt (by
   intro q
   injection q with q
   subst q
   exact hn (List.mem_filterMap.2 ⟨i,by simp,by simp[bno,hA]⟩))⟩⟩
  ·rcases lk_cons hj with⟨rfl,rfl⟩ | ⟨_,q⟩
   ·exact h.mlt _ _ (lk_app hi)
   ·simp[lk] at q
  ·rcases lk_cons hj with⟨rfl,rfl⟩ | ⟨_,q⟩
   ·exact⟨g,hA,hb,.inr (List.mem_filterMap.2 ⟨i,by simp,by simp[bno,hA]⟩),hcs⟩
   ·simp[lk] at q
  ·rcases lk_cons hj with⟨rfl,rfl⟩ | ⟨_,q⟩
   ·rcases lk_cons hk with⟨rfl,rfl⟩ | ⟨_,q⟩
    ·exact absurd rfl hne
    ·simp[lk] at q
   ·simp[lk] at q
 refine h.after (keep:=[(i,.box t' cs')]) hm (fun j hj=>by simp at hj;subst hj;exact⟨t,cs,hi⟩) (fun j b hj=>⟨hj,?_⟩) (fun j hj=>by simp at hj;subst hj;exact⟨t',cs',lk_same _ _ _⟩) (fun j t sz n el _ hj=>?_)
 ·rcases lk_cons hj with⟨rfl,rfl⟩ | ⟨_,q⟩
  ·exact .inl (by simp)
  ·simp[lk] at q
 ·rcases lk_cons hj with⟨_,q⟩ | ⟨_,q⟩
  ·cases q
  ·simp[lk] at q
theorem Sat.tape {C:Ctx} {ρ:Nat→Pl} {fr:AF} {mem:AM} {nx:Nat} {a:Act} {w:World} (h:Sat C ρ fr mem nx a w) {i r cap:Nat} {zs:List Int} {k:Int} (hi:lk mem i=some (tapeB r zs.length cap k)) (hr:lk mem r=some (intRow zs)) :
  ∃ g,(ρ i).A=some ⟨g,0,none⟩∧TpAt w g (ρ r).A cap zs k∧ok1 ρ nx (slc r zs.length cap):=by
 obtain⟨g,hA,hb,-,hcs⟩:=h.blk i _ (lk_app hi)
 have hne:i≠r:=by rintro rfl;rw[hi] at hr;cases hr
 have hap:=h.sep i r _ _ hne (lk_app hi) (lk_app hr)
 refine⟨g,hA,⟨rd_of_row (enc:=intC) (sz:=1) (fun _=>rfl) (by omega) (h.blk r _ (lk_app hr)) fun hl b off hAr hlt=>⟨?_,hlt⟩,by simpa [den1,dA_whole,dS_whole] using hb⟩,hcs _ (by simp)⟩
 rintro rfl
 rcases hap with h0 | h0
 ·exact hl h0
 ·exact h0 (by simp[bno,hA,hAr])
def ctTape (R:List Int→List Value→Int→Value→Int→Prop) (pre:List Value→Int→Prop):CT:=fun vs mem nx K=>∃ i r cap zs k args,vs=ptr i::args∧(lk mem i=some (tapeB r zs.length cap k)∧lk mem r=some (intRow zs))∧(zs.length≤400∧0≤k∧k≤1000000)∧pre args k∧∀ z k',R zs args k z k'→K z ((i,tapeB r zs.length cap k')::mem) nx
theorem tapeOk {f : FuncId} {R : List Int → List Value → Int → Value → Int → Prop} {pre : List Value → Int → Prop} (ent : ((Tryz.prog).funcs[f]?).map (fun fn => (fn.name == "runtime.NumGoroutine", fn.body.isNone)) = some (false, false))
  (hpre:∀ args k,pre args k→∀ v ∈ args,plain1 v∧atom v=true)
  (h:∀ args g A cap zs k w,zs.length≤400→0≤k→k≤1000000→pre args k→TpAt w g A cap zs k→Calls Tryz.prog f (.pointer (some ⟨g,0,none⟩)::args).toArray w fun e w'=>∃ v k',R zs args k v k'∧(plain1 v∧atom v=true)∧e=.returned v∧TpAt w' g A cap zs k'∧w.grownBy w' (some g)):CSound Tryz.prog f (ctTape R pre):=
 ⟨ent,fun {C ρ fr mem nx a w vs K} hc hs hv=>by
  obtain⟨i,r,cap,zs,k,args,rfl,⟨hi,hr⟩,⟨hz,hk0,hk1⟩,hp,hK⟩:=hc
  obtain⟨g,hA,ht,hok⟩:=hs.tape hi hr
  have hargs:=hpre args k hp
  have hvs:(ptr i::args).map (den ρ)=.pointer (some ⟨g,0,none⟩)::args:=by
   rw[List.map_cons]
   refine congr (congrArg List.cons ?_) ?_
   ·simp[den,den2,den1,dA_whole,dS_whole,hA]
   ·conv=>rhs;rw[← List.map_id args]
    exact List.map_congr_left fun v hv=>by rw[atom_den (hargs v hv).2,den1_plain (hargs v hv).1];rfl
  rw[hvs]
  refine (h args g (ρ r).A cap zs k w hz hk0 hk1 hp ht).mono ?_
  rintro e w' ⟨v,k',hR,hpl,rfl,ht',hg⟩
  refine⟨v,_,nx,ρ,by rw[atom_den hpl.2,den1_plain hpl.1],hK v k' hR,hs.grownBox (cs':=[slc r zs.length cap,.int .i64 k']) hi hA hg ?_ ?_,by rw[atom_ok hpl.2];exact ok1_plain hpl.1,ExtS.refl _ _⟩
  ·simpa [den1,dA_whole,dS_whole] using ht'.blk
  ·intro u hu
   simp at hu
   rcases hu with rfl | rfl
   ·exact hok
   ·trivial⟩
def preInt (lo hi:Int) (args:List Value) (k:Int):Prop:=∃ n,args=[.int .i64 n]∧lo≤n∧n≤hi
theorem preInt_plain {lo hi:Int} (args:List Value) (k:Int) (h:preInt lo hi args k):∀ v ∈ args,plain1 v∧atom v=true:=by
 obtain⟨n,rfl,-⟩:=h
 intro v hv
 simp at hv
 subst hv
 exact⟨trivial,rfl⟩
def ctNext:CT:=ctTape (fun zs args k z k'=>∃ n r,args=[.int .i64 n]∧z=.int .i64 r∧NextR zs n k r k') (preInt 1 1000000)
theorem nextOk:CSound Tryz.prog 39 ctNext:=tapeOk (by kernel_rfl) preInt_plain (by
 rintro args g A cap zs k w hz hk0 hk1 ⟨n,rfl,hn⟩ ht
 refine tape_calls nextFok Tryz.func39 rfl (D:=nextD) (by kernel_rfl) rfl (preInt_plain _ k ⟨n,rfl,hn⟩) g A cap zs k w ht (R:=fun z k'=>∃ n' r,[Value.int .i64 n]=[.int .i64 n']∧z=.int .i64 r∧NextR zs n' k r k') ?_
 exact (next_sx cap zs k n hz ⟨hk0,hk1⟩ hn))
def tpF:FT:=[(39,ctNext)]
theorem tpFok:FTok Tryz.prog tpF:=ft_cons nextOk ft_nil
def ctYes:CT:=ctTape (fun zs args k z k'=>∃ b,z=.bool b∧Adv zs k k') (preInt 1 1000000)
theorem yesOk:CSound Tryz.prog 41 ctYes:=tapeOk (by kernel_rfl) preInt_plain (by
 rintro args g A cap zs k w hz hk0 hk1 ⟨n,rfl,hn⟩ ht
 refine tape_calls tpFok Tryz.func41 rfl (D:=[]) (by kernel_rfl) rfl (preInt_plain _ k ⟨n,rfl,hn⟩) g A cap zs k w ht (R:=fun z k'=>∃ b,z=.bool b∧Adv zs k k') ?_
 refine⟨0,1,cap,zs,k,_,rfl,⟨rfl,rfl⟩,⟨hz,hk0,hk1⟩,⟨n,rfl,hn⟩,?_⟩
 rintro z k' ⟨n',r,hnn,rfl,hr⟩
 exact⟨k',⟨_,rfl,hr.2⟩,⟨trivial,rfl⟩,rfl⟩)
def preRange (args:List Value) (k:Int):Prop:=∃ lo hi,args=[.int .i64 lo,.int .i64 hi]∧-100000≤lo∧lo≤hi∧hi≤100000
theorem preRange_plain (args:List Value) (k:Int) (h:preRange args k):∀ v ∈ args,plain1 v∧atom v=true:=by
 obtain⟨n,m,rfl,-⟩:=h
 intro v hv
 simp at hv
 rcases hv with rfl | rfl
 ·exact⟨trivial,rfl⟩
 ·exact⟨trivial,rfl⟩
def RangeR (zs:List Int) (args:List Value) (k:Int) (z:Value) (k':Int):Prop:=∃ lo hi r,args=[.int .i64 lo,.int .i64 hi]∧z=.int .i64 r∧(lo≤r∧r≤hi)∧Adv zs k k'
def ctRange:CT:=ctTape RangeR preRange
theorem rangeOk:CSound Tryz.prog 40 ctRange:=tapeOk (by kernel_rfl) preRange_plain (by
 rintro args g A cap zs k w hz hk0 hk1 ⟨lo,hi,rfl,h1,h2,h3⟩ ht
 refine tape_calls tpFok Tryz.func40 rfl (D:=[]) (by kernel_rfl) rfl (preRange_plain _ k ⟨lo,hi,rfl,h1,h2,h3⟩) g A cap zs k w ht (R:=fun z k'=>RangeR zs _ k z k') ?_
 refine⟨0,1,cap,zs,k,_,rfl,⟨rfl,rfl⟩,⟨hz,hk0,hk1⟩,⟨_,rfl,?_⟩,?_⟩
 ·rw[wrapi (n:=hi-lo) (by omega),wrapi (by omega)];omega
 ·rintro z k' ⟨n',r,hnn,rfl,hr⟩
  simp only[List.cons.injEq,Value.int.injEq,and_true,true_and] at hnn
  rw[wrapi (n:=hi-lo) (by omega),wrapi (by omega)] at hnn
  subst hnn
  have hr1:=hr.1
  refine⟨k',⟨lo,hi,IntKind.i64.wrap (lo+r),rfl,rfl,?_,hr.2⟩,⟨trivial,rfl⟩,rfl⟩
  rw[wrapi (by omega)];omega)
theorem flat_intH (l:List Int):flat intC l=l.map (Value.int .i64):=by
 induction l with
 | nil=>rfl
 | cons a l ih=>simp only[flat,List.flatMap_cons,intC] at ih ⊢;simp[ih]
def ctTapeNew:CT:=fun vs mem nx K=>∃ r cap zs,vs=[slc r (zs:List Int).length cap]∧lk mem r=some (intRow zs)∧zs.length≤400∧K (ptr nx) ((nx,tapeB r zs.length cap 0)::mem) (nx+1)
theorem tapeNewOk:CSound Tryz.prog 37 ctTapeNew:=⟨by kernel_rfl,fun {C ρ fr mem nx a w vs K} hc hs hv=>by
 obtain⟨r,cap,zs,rfl,hr,hz,hK⟩:=hc
 have hrd:=rd_of_row (enc:=intC) (sz:=1) (fun _=>rfl) (by omega) (hs.blk r _ (lk_app hr)) (S:=(·<w.heap.size)) (fun _ b off _ hlt=>hlt)
 rw[flat_intH] at hrd
 have hvs:[slc r zs.length cap].map (den ρ)=[.slice (ρ r).A zs.length cap]:=by simp[den,den2,den1,dA_whole,dS_whole]
 rw[hvs]
 refine (mkTape_any (ρ r).A cap zs w hz hrd).mono ?_
 rintro e w' ⟨rfl,ht,hb⟩
 obtain⟨e1,e2⟩:=ptr_new (ρ:=ρ) (nx:=nx) w.heap.size
 have hrn:=hs.mlt r _ (lk_app hr)
 have hok:ok1 (setPl ρ nx ⟨some ⟨w.heap.size,0,none⟩,0,0,false,noSub⟩) (nx+1) (slc r zs.length cap):=⟨by have:=hrn.1;exact Nat.lt_succ_of_lt this,by rw[setPl_lt ρ _ hrn.1];exact hrn.2⟩
 refine⟨_,_,_,setPl ρ nx ⟨some ⟨w.heap.size,0,none⟩,0,0,false,noSub⟩,by rw[e1],hK,hs.add hb ⟨w.heap.size,by rw[setPl_same],?_,.inl hs.rest.size,?_⟩ (fun g hg=>by simp at hg;omega) rfl,e2,ExtS.set _ _ _⟩
 ·have hA:(setPl ρ nx ⟨some ⟨w.heap.size,0,none⟩,0,0,false,noSub⟩ r).A=(ρ r).A:=by rw[setPl_lt ρ _ hrn.1]
  simpa [den1,dA_whole,dS_whole,hA] using ht.blk
 ·intro u hu
  simp at hu
  rcases hu with rfl | rfl
  ·exact hok
  ·trivial⟩
/-! Configurations and states in the abstract memory. -/
structure CN where
 z:Nat
 c:Nat
 t:Nat
 v:Nat
 r:Nat
 o:Nat
 g:Nat
structure SN where
 t:Nat
 c:Nat
 g:Nat
structure CfgK where
 cz:Nat
 cc:Nat
 ct:Nat
 cv:Nat
 cr:Nat
 co:Nat
structure StK where
 ct:Nat
 cc:Nat
abbrev cfgV (n:CN) (x:CfgK) (c:Cfg):Value:=.agg #[.int .i64 c.regions,slc n.z c.zones.length x.cz,slc n.c c.cells.length x.cc,slc n.t c.tenants.length x.ct,slc n.v c.versions.length x.cv,slc n.r c.replicas.length x.cr,slc n.o c.observers.length x.co,.int .i64 c.blast,.int .i64 c.lease,.int .i64 c.bake]
abbrev stV (n:SN) (y:StK) (s:St):Value:=.agg #[.int .i64 s.tick,.int .i64 s.count,slc n.t s.tenants.length y.ct,slc n.c s.cells.length y.cc,.int .i64 s.proven,.int .i64 s.evac,.int .i64 s.low,.int .i64 s.high]
abbrev entV' (e:Ent):Value:=.agg #[.int .i64 e.kind,.int .i64 e.tick,.int .i64 e.tenant,.int .i64 e.cell,.int .i64 e.other,.int .i64 e.epoch,.int .i64 e.since,.int .i64 e.till,.int .i64 e.n]
abbrev rowOfL {α:Type} (t:TypeId) (sz:Nat) (enc:α→List Value) (d:α) (l:List α):ABlk:=.row t sz l.length (fun k=>enc (l.getD k d))
abbrev cfgM (n:CN) (c:Cfg):AM:=[(n.z,rowOfL n.g 1 intC 0 c.zones),(n.c,rowOfL n.g 2 pairC (0,0) c.cells),(n.t,rowOfL n.g 7 tenC default c.tenants),(n.v,rowOfL n.g 2 pairC (0,0) c.versions),(n.r,rowOfL n.g 1 intC 0 c.replicas),(n.o,rowOfL n.g 1 intC 0 c.observers)]
abbrev stM (n:SN) (s:St):AM:=[(n.t,rowOfL n.g 12 tsC default s.tenants),(n.c,rowOfL n.g 4 csC default s.cells)]
def cfgX (ρ:Nat→Pl) (n:CN) (x:CfgK):CfgA:=⟨(ρ n.z).A,x.cz,(ρ n.c).A,x.cc,(ρ n.t).A,x.ct,(ρ n.v).A,x.cv,(ρ n.r).A,x.cr,(ρ n.o).A,x.co⟩
def stX (ρ:Nat→Pl) (n:SN) (y:StK):StA:=⟨(ρ n.t).A,y.ct,(ρ n.c).A,y.cc⟩
theorem den_cfg (ρ:Nat→Pl) (n:CN) (x:CfgK) (c:Cfg):den ρ (cfgV n x c)=.agg (cfgC (cfgX ρ n x) c):=by simp[den,den2,den1,dA_whole,dS_whole,cfgC,cfgX]
theorem den_st (ρ:Nat→Pl) (n:SN) (y:StK) (s:St):den ρ (stV n y s)=.agg (stC (stX ρ n y) s):=by simp[den,den2,den1,dA_whole,dS_whole,stC,stX]
theorem intC_plain:∀ x,∀ v ∈ intC x,plain1 v:=fun x v hv=>by simp[intC] at hv;subst hv;trivial
theorem pairC_plain:∀ x,∀ v ∈ pairC x,plain1 v:=fun x v hv=>by simp[pairC] at hv;rcases hv with rfl | rfl<;>trivial
theorem tenC_plain:∀ x,∀ v ∈ tenC x,plain1 v:=fun x v hv=>by simp[tenC] at hv;rcases hv with rfl | rfl | rfl | rfl | rfl | rfl | rfl<;>trivial
theorem tsC_plain:∀ x,∀ v ∈ tsC x,plain1 v:=fun x v hv=>by simp[tsC] at hv;rcases hv with rfl | rfl | rfl | rfl | rfl | rfl | rfl | rfl | rfl | rfl | rfl | rfl<;>trivial
theorem csC_plain:∀ x,∀ v ∈ csC x,plain1 v:=fun x v hv=>by simp[csC] at hv;rcases hv with rfl | rfl | rfl | rfl<;>trivial
theorem entC_plain:∀ x,∀ v ∈ entC x,plain1 v:=fun x v hv=>by simp[entC] at hv;rcases hv with rfl | rfl | rfl | rfl | rfl | rfl | rfl | rfl | rfl<;>trivial
section
variable {C:Ctx} {ρ:Nat→Pl} {fr:AF} {mem:AM} {nx:Nat} {a:Act} {w:World}
structure CfgPl (ρ:Nat→Pl) (n:CN) (x:CfgA) (c:Cfg):Prop where
 z:ρ n.z=⟨x.az,1,c.zones.length,false,noSub⟩
 cc:ρ n.c=⟨x.ac,2,c.cells.length,false,noSub⟩
 tt:ρ n.t=⟨x.at_,7,c.tenants.length,false,noSub⟩
 v:ρ n.v=⟨x.av,2,c.versions.length,false,noSub⟩
 r:ρ n.r=⟨x.ar,1,c.replicas.length,false,noSub⟩
 o:ρ n.o=⟨x.ao,1,c.observers.length,false,noSub⟩
structure StPl (ρ:Nat→Pl) (n:SN) (y:StA) (s:St):Prop where
 t:ρ n.t=⟨y.at_,12,s.tenants.length,false,noSub⟩
 c:ρ n.c=⟨y.ac,4,s.cells.length,false,noSub⟩
theorem own_of_fr {t:TypeId} (h:frT t=false):ownT t=false:=by
 cases ho:ownT t with
 | false=>rfl
 | true=>have:=frT_own ho;rw[h] at this;cases this
theorem cfg_blks {n:CN} {x:CfgA} {c:Cfg} {S:Nat→Prop} (hp:CfgPl ρ n x c) (hc:CfgOk w S x c) (hS:∀ b,S b→b<w.heap.size) (hn:n.z<nx∧n.c<nx∧n.t<nx∧n.v<nx∧n.r<nx∧n.o<nx) {r:AM} (hr:blksOk C ρ nx w r) (hg:frT n.g=false:=by rfl):blksOk C ρ nx w (cfgM n c++r):=
 ⟨⟨hn.1,by rw[hp.z],row_of_rd (enc:=intC) (sz:=1) (fun _=>rfl) (by omega) intC_plain 0 hp.z hc.zones hS (own_of_fr hg) (fun h=>by rw[hg] at h;cases h)⟩,⟨hn.2.1,by rw[hp.cc],row_of_rd (enc:=pairC) (sz:=2) (fun _=>rfl) (by omega) pairC_plain (0,0) hp.cc hc.cells hS (own_of_fr hg) (fun h=>by rw[hg] at h;cases h)⟩,
  ⟨hn.2.2.1,by rw[hp.tt],row_of_rd (enc:=tenC) (sz:=7) (fun _=>rfl) (by omega) tenC_plain default hp.tt hc.tenants hS (own_of_fr hg) (fun h=>by rw[hg] at h;cases h)⟩,⟨hn.2.2.2.1,by rw[hp.v],row_of_rd (enc:=pairC) (sz:=2) (fun _=>rfl) (by omega) pairC_plain (0,0) hp.v hc.versions hS (own_of_fr hg) (fun h=>by rw[hg] at h;cases h)⟩,
  ⟨hn.2.2.2.2.1,by rw[hp.r],row_of_rd (enc:=intC) (sz:=1) (fun _=>rfl) (by omega) intC_plain 0 hp.r hc.replicas hS (own_of_fr hg) (fun h=>by rw[hg] at h;cases h)⟩,⟨hn.2.2.2.2.2,by rw[hp.o],row_of_rd (enc:=intC) (sz:=1) (fun _=>rfl) (by omega) intC_plain 0 hp.o hc.observers hS (own_of_fr hg) (fun h=>by rw[hg] at h;cases h)⟩,hr⟩
theorem st_blks {n:SN} {y:StA} {s:St} {S:Nat→Prop} (hp:StPl ρ n y s) (hc:StOk w S y s) (hS:∀ b,S b→b<w.heap.size) (hn:n.t<nx∧n.c<nx) {r:AM} (hr:blksOk C ρ nx w r) (hg:frT n.g=false:=by rfl):blksOk C ρ nx w (stM n s++r):=
 ⟨⟨hn.1,by rw[hp.t],row_of_rd (enc:=tsC) (sz:=12) (fun _=>rfl) (by omega) tsC_plain default hp.t hc.tenants hS (own_of_fr hg) (fun h=>by rw[hg] at h;cases h)⟩,⟨hn.2,by rw[hp.c],row_of_rd (enc:=csC) (sz:=4) (fun _=>rfl) (by omega) csC_plain default hp.c hc.cells hS (own_of_fr hg) (fun h=>by rw[hg] at h;cases h)⟩,hr⟩
theorem Sat.rd (h:Sat C ρ fr mem nx a w) {α:Type} {enc:α→List Value} {sz:Nat} (hsz:∀ x,(enc x).length=sz) (hpos:0<sz) {l:List α} {d:α} {i:Nat} {t:TypeId} (hi:lk mem i=some (rowOfL t sz enc d l)) {S:Nat→Prop}
  (hS:∀ b,b<w.heap.size→(∀ j t cs,lk mem j=some (.box t cs)→bno ρ j≠some b)→S b):Rd w S (ρ i).A (flat enc l):=
 rd_of_row hsz hpos (h.blk i _ (lk_app hi)) fun hl b off hA hlt=>hS b hlt fun j t cs hj he=>by
  have hne:j≠i:=by rintro rfl;rw[hi] at hj;cases hj
  rcases h.sep j i _ _ hne (lk_app hj) (lk_app hi) with h0 | h0
  ·exact hl h0
  ·exact h0 (by rw[he];simp[bno,hA])
theorem Sat.cfg (h:Sat C ρ fr mem nx a w) {n:CN} {x:CfgK} {c:Cfg} (hk:keeps mem (cfgM n c)) {S:Nat→Prop} (hS:∀ b,b<w.heap.size→(∀ j t cs,lk mem j=some (.box t cs)→bno ρ j≠some b)→S b):CfgOk w S (cfgX ρ n x) c:=by
 obtain⟨k1,k2,k3,k4,k5,k6,-⟩:=hk
 exact⟨h.rd (enc:=intC) (sz:=1) (fun _=>rfl) (by omega) k1 hS,h.rd (enc:=pairC) (sz:=2) (fun _=>rfl) (by omega) k2 hS,h.rd (enc:=tenC) (sz:=7) (fun _=>rfl) (by omega) k3 hS,h.rd (enc:=pairC) (sz:=2) (fun _=>rfl) (by omega) k4 hS,h.rd (enc:=intC) (sz:=1) (fun _=>rfl) (by omega) k5 hS,h.rd (enc:=intC) (sz:=1) (fun _=>rfl) (by omega) k6 hS⟩
theorem Sat.st (h:Sat C ρ fr mem nx a w) {n:SN} {y:StK} {s:St} (hk:keeps mem (stM n s)) {S:Nat→Prop} (hS:∀ b,b<w.heap.size→(∀ j t cs,lk mem j=some (.box t cs)→bno ρ j≠some b)→S b):StOk w S (stX ρ n y) s:=by
 obtain⟨k1,k2,-⟩:=hk
 exact⟨h.rd (enc:=tsC) (sz:=12) (fun _=>rfl) (by omega) k1 hS,h.rd (enc:=csC) (sz:=4) (fun _=>rfl) (by omega) k2 hS⟩
end
def pureV:Value→Prop
 | .agg cs=>∀ v ∈ cs,plain1 v
 | .tuple _=>False
 | .func _ _ _=>False
 | v=>plain1 v
theorem pure_den {v:Value} (h:pureV v) (ρ:Nat→Pl) (n:Nat):den ρ v=v∧okV ρ n v:=by
 cases v with
 | agg cs=>
  refine⟨?_,fun u hu=>ok1_plain (h u hu)⟩
  show Value.agg (cs.map (den1 ρ))=_
  congr 1
  conv=>rhs;rw[← Array.map_id cs]
  exact Array.map_congr_left fun u hu=>den1_plain (h u hu)
 | tuple vs=>exact h.elim
 | func f a b=>exact h.elim
 | pointer p=>cases p with
  | none=>exact⟨rfl,trivial⟩
  | some a=>exact h.elim
 | slice p k c=>cases p with
  | none=>exact⟨rfl,trivial⟩
  | some a=>exact h.elim
 | map p=>cases p with
  | none=>exact⟨rfl,trivial⟩
  | some a=>exact h.elim
 | _=>exact⟨rfl,trivial⟩
theorem pure_ent (e:Ent):pureV (entV' e):=fun v hv=>by
 simp at hv
 rcases hv with rfl | rfl | rfl | rfl | rfl | rfl | rfl | rfl | rfl<;>trivial
def HasRow {α:Type} (mem:AM) (r sz:Nat) (enc:α→List Value) (d:α) (l:List α):Prop:=∃ t n el,lk mem r=some (.row t sz n el)∧l.length≤n∧∀ k,k<l.length→el k=enc (l.getD k d)
theorem BlkOk.rdOf {C:Ctx} {ρ:Nat→Pl} {nx i:Nat} {w:World} {t:TypeId} {sz n:Nat} {el:Nat→List Value} {α:Type} {enc:α→List Value} {l:List α} {d:α} (h:BlkOk C ρ nx i w (.row t sz n el)) (hl:l.length≤n) (he:∀ k,k<l.length→el k=enc (l.getD k d)) (hs:∀ x,(enc x).length=sz) (hpos:0<sz) {S:Nat→Prop} (hS:l.length≠0→∀ b off,(ρ i).A=some ⟨b,off,none⟩→RowA C.ok w t b off→S b):Rd w S (ρ i).A (flat enc l):=by
 obtain⟨-,-,h3⟩:=h
 intro hne
 have hl0:l.length≠0:=by
  intro h0
  rw[List.eq_nil_of_length_eq_zero h0] at hne
  exact hne rfl
 rcases h3 with h0 | ⟨b,off,hA,hlt,hc⟩
 ·omega
 ·refine⟨b,off,hA,hS hl0 b off hA hlt,fun j v hv=>?_⟩
  obtain⟨x,h1,h2⟩:=flat_at hs hpos l j v hv
  have hk:j / sz<l.length:=(List.getElem?_eq_some_iff.1 h1).1
  have hx:l.getD (j / sz) d=x:=by rw[List.getD_eq_getElem?_getD,h1];rfl
  have:=hc (j / sz) (by omega) (j % sz) v (by rw[he _ hk,hx];exact h2)
  rw[← this]
  congr 2
  have:=Nat.div_add_mod j sz
  rw[Nat.mul_comm] at this
  omega
theorem Sat.hasRd {C:Ctx} {ρ:Nat→Pl} {fr:AF} {mem:AM} {nx:Nat} {a:Act} {w:World} (h:Sat C ρ fr mem nx a w) {α:Type} {enc:α→List Value} {sz:Nat} (hsz:∀ x,(enc x).length=sz) (hpos:0<sz) {l:List α} {d:α} {i:Nat} (hi:HasRow mem i sz enc d l):Rd w (·<w.heap.size) (ρ i).A (flat enc l):=by
 obtain⟨t,n,el,h1,h2,h3⟩:=hi
 exact (h.blk i _ (lk_app h1)).rdOf h2 h3 hsz hpos fun _ b off _ hr=>hr.lt
def NewRow {α:Type} (mem:AM) (r sz:Nat) (enc:α→List Value) (d:α) (l:List α):Prop:=∃ t n el,lk mem r=some (.row t sz n el)∧frT t=true∧l.length≤n∧∀ k,k<l.length→el k=enc (l.getD k d)
theorem MemAt.newRd {C:Ctx} {ρ:Nat→Pl} {mem:AM} {nx:Nat} {w:World} (h:MemAt C ρ mem nx w) {α:Type} {enc:α→List Value} {sz:Nat} (hsz:∀ x,(enc x).length=sz) (hpos:0<sz) {l:List α} {d:α} {i:Nat} (hi:NewRow mem i sz enc d l) (hbor:C.bor=[]:=by exact rfl):Rd w (fun b=>C.w0.heap.size≤b∧b<w.heap.size) (ρ i).A (flat enc l):=by
 obtain⟨t,n,el,h1,h0,h2,h3⟩:=hi
 exact (h.blk i _ h1).rdOf h2 h3 hsz hpos fun _ b off _ hr=>⟨Ctx.ok_nil hbor (hr.new h0),hr.lt⟩
def SlR {α:Type} (mem:AM) (sz:Nat) (enc:α→List Value) (d:α) (l:List α) (v:Value):Prop:=
 (v=zs0∧l=[])∨∃ r cap t n el,v=slc r l.length cap∧lk mem r=some (.row t sz n el)∧frT t=true∧l.length≤n∧∀ k,k<l.length→el k=enc (l.getD k d)
theorem MemAt.slR {C:Ctx} {ρ:Nat→Pl} {mem:AM} {nx:Nat} {w:World} (h:MemAt C ρ mem nx w) {α:Type} {enc:α→List Value} {sz:Nat} (hsz:∀ x,(enc x).length=sz) (hpos:0<sz) {l:List α} {d:α} {v:Value} (hi:SlR mem sz enc d l v) (hbor:C.bor=[]:=by exact rfl) :
  ∃ A c,den1 ρ v=.slice A l.length c∧Rd w (fun b=>C.w0.heap.size≤b∧b<w.heap.size) A (flat enc l):=by
 rcases hi with⟨rfl,rfl⟩ | ⟨r,cap,t,n,el,rfl,h1,h0,h2,h3⟩
 ·exact⟨none,0,rfl,fun h=>absurd rfl h⟩
 ·exact⟨_,cap,rfl,BlkOk.rdOf (h.blk r _ h1) h2 h3 hsz hpos fun _ b off _ hr=>⟨Ctx.ok_nil hbor (hr.new h0),hr.lt⟩⟩
theorem HasRow.list {α:Type} {mem:AM} {r sz:Nat} {enc:α→List Value} {d:α} {l:List α} {t:TypeId} (h:lk mem r=some (rowOfL t sz enc d l)):HasRow mem r sz enc d l:=⟨_,_,_,h,Nat.le_refl _,fun k hk=>rfl⟩
section
variable {C:Ctx} {ρ:Nat→Pl} {fr:AF} {mem:AM} {nx:Nat} {a:Act} {w w':World}
def FrB (C:Ctx) (ρ:Nat→Pl) (mem:AM) (B:Nat):Prop:=∀ i b,lk (mem++C.fm) i=some b→∀ g,bwr ρ i b g→g<B
theorem Sat.frB (h:Sat C ρ fr mem nx a w):FrB C ρ mem w.heap.size:=fun i b hi g hg=>(h.blk i b hi).brd_lt (bwr_brd hg)
theorem Sat.addN (h:Sat C ρ fr mem nx a w) {b:ABlk} {p:Pl} (hp:p.res=false) (hok:BlkOk C (setPl ρ nx p) (nx+1) nx w b) (h1:∀ g,bwr (setPl ρ nx p) nx b g→∀ j b',lk (mem++C.fm) j=some b'→¬ brd ρ j b' g) (h2:∀ g,brd (setPl ρ nx p) nx b g→∀ j b',lk (mem++C.fm) j=some b'→¬ bwr ρ j b' g) :
  Sat C (setPl ρ nx p) fr ((nx,b)::mem) (nx+1) a w:=by
 have hr:∀ j,j<nx→setPl ρ nx p j=ρ j:=fun j hj=>setPl_lt ρ p hj
 have h0:=h.ren (ρ':=setPl ρ nx p) (m:=nx+1) (fun j hj _=>hr j hj) (Nat.le_succ _) (fun j hj=>hr j (Nat.lt_of_lt_of_le hj h.n0))
 have key:∀ j b',lk (mem++C.fm) j=some b'→Apart (setPl ρ nx p) nx j b b'∧Apart (setPl ρ nx p) j nx b' b:=by
  intro j b' hj
  have hjl:=hr j (h.mlt j b' hj).1
  exact⟨hok.apart fun g hg hg2=>h1 g hg j b' hj (by rw[← brd_ren hjl];exact hg2),(h0.blk j b' hj).apart fun g hg hg2=>h2 g hg2 j b' hj (by rw[← bwr_ren hjl];exact hg)⟩
 refine⟨h0.fok,h0.sz,h0.dfr,fun i b' hi=>?_,fun i b' hi=>?_,fun i j b1 b2 hne hi hj=>?_,h0.n0,h0.low,h0.rest⟩
 ·rcases lk_cons hi with⟨rfl,rfl⟩ | ⟨hne,hi⟩
  ·exact⟨Nat.lt_succ_self _,by rw[setPl_same];exact hp⟩
  ·exact h0.mlt i b' hi
 ·rcases lk_cons hi with⟨rfl,rfl⟩ | ⟨hne,hi⟩
  ·exact hok
  ·exact h0.blk i b' hi
 ·rcases lk_cons hi with⟨rfl,rfl⟩ | ⟨hni,hi⟩
  ·rcases lk_cons hj with⟨rfl,rfl⟩ | ⟨hnj,hj⟩
   ·exact absurd rfl hne
   ·exact (key j b2 hj).1
  ·rcases lk_cons hj with⟨rfl,rfl⟩ | ⟨hnj,hj⟩
   ·exact (key i b1 hi).2
   ·exact h0.sep i j b1 b2 hne hi hj
theorem Sat.addPlainX (h:Sat C ρ fr mem nx a w) {b:ABlk} {p:Pl} {B:Nat} (hF:FrB C ρ mem B) (ho:∀ g,¬ bwr (setPl ρ nx p) nx b g) (hp:p.res=false) (hok:BlkOk C (setPl ρ nx p) (nx+1) nx w b) (hnew:∀ g,brd (setPl ρ nx p) nx b g→B≤g) :
  Sat C (setPl ρ nx p) fr ((nx,b)::mem) (nx+1) a w∧FrB C (setPl ρ nx p) ((nx,b)::mem) B:=by
 refine⟨h.addN hp hok (fun g hg=>absurd hg (ho g)) (fun g hg j b' hj hw=>by have:=hF j b' hj g hw;have:=hnew g hg;omega),fun i b' hi g hg=>?_⟩
 rcases lk_cons (l:=mem++C.fm) hi with⟨rfl,rfl⟩ | ⟨hne,hi⟩
 ·exact absurd hg (ho g)
 ·rw[bwr_ren (setPl_lt ρ p (h.mlt i b' hi).1)] at hg
  exact hF i b' hi g hg
theorem Sat.addPlain (h:Sat C ρ fr mem nx a w) {t:TypeId} {sz n:Nat} {el:Nat→List Value} {p:Pl} {B:Nat} (hF:FrB C ρ mem B) (ho:ownT t=false) (hp:p.res=false) (hok:BlkOk C (setPl ρ nx p) (nx+1) nx w (.row t sz n el)) (hnew:n=0∨∀ g,p.A.map (·.block)=some g→B≤g) :
  Sat C (setPl ρ nx p) fr ((nx,.row t sz n el)::mem) (nx+1) a w∧FrB C (setPl ρ nx p) ((nx,.row t sz n el)::mem) B:=
 h.addPlainX hF (fun g hg=>by have q:=hg.1;rw[ho] at q;cases q) hp hok fun g hg=>(hnew.resolve_left hg.1) g (by have:=hg.2;unfold bno at this;rwa[setPl_same] at this)
theorem Sat.addList (h:Sat C ρ fr mem nx a w) {B:Nat} (hF:FrB C ρ mem B) (hB:C.w0.heap.size≤B) {α:Type} {enc:α→List Value} {sz:Nat} (hs:∀ x,(enc x).length=sz) (hpos:0<sz) (hpl:∀ x,∀ v ∈ enc x,plain1 v) {l:List α} (d:α) {t:TypeId} (ho:ownT t=false) {A:Option Addr} (hr:Rd w (fun b=>B≤b∧b<w.heap.size) A (flat enc l)) :
  Sat C (setPl ρ nx ⟨A,sz,l.length,false,noSub⟩) fr ((nx,rowOfL t sz enc d l)::mem) (nx+1) a w∧FrB C (setPl ρ nx ⟨A,sz,l.length,false,noSub⟩) ((nx,rowOfL t sz enc d l)::mem) B:=by
 refine h.addPlain hF ho rfl (row_of_rd hs hpos hpl d (setPl_same _ _ _) hr (fun b hb=>hb.2) ho (fun _ b hb=>Nat.le_trans hB hb.1)) ?_
 by_cases h0:l.length=0
 ·exact .inl h0
 ·obtain⟨b,off,x,hA,hb,-,-⟩:=hr.row hs hpos (k:=0) (by omega)
  refine .inr fun g hg=>?_
  simp[hA] at hg
  subst hg
  exact hb.1
def stPl (ρ:Nat→Pl) (nx:Nat) (y:StA) (s:St):Nat→Pl:=setPl (setPl ρ nx ⟨y.ac,4,s.cells.length,false,noSub⟩) (nx+1) ⟨y.at_,12,s.tenants.length,false,noSub⟩
theorem Sat.addSt (h0:Sat C ρ fr mem nx a w) (hb:Below w.heap.size w w') {y:StA} {s:St} (hs:StOk w' (fun b=>w.heap.size≤b∧b<w'.heap.size) y s) :
  Sat C (stPl ρ nx y s) fr (stM ⟨nx+1,nx,500000⟩ s++mem) (nx+2) a w'∧den (stPl ρ nx y s) (stV ⟨nx+1,nx,500000⟩ ⟨y.ct,y.cc⟩ s)=.agg (stC y s)∧okV (stPl ρ nx y s) (nx+2) (stV ⟨nx+1,nx,500000⟩ ⟨y.ct,y.cc⟩ s)∧ExtS ρ nx (stPl ρ nx y s) (nx+2):=by
 obtain⟨h1,f1⟩:=(h0.later hb).addList h0.frB h0.rest.size (enc:=csC) (sz:=4) (fun _=>rfl) (by omega) csC_plain default (t:=500000) rfl hs.cells
 obtain⟨h2,-⟩:=h1.addList f1 h0.rest.size (enc:=tsC) (sz:=12) (fun _=>rfl) (by omega) tsC_plain default (t:=500000) rfl hs.tenants
 have q1:stPl ρ nx y s nx=⟨y.ac,4,s.cells.length,false,noSub⟩:=by
  unfold stPl
  rw[setPl_lt _ _ (Nat.lt_succ_self _),setPl_same]
 have q2:stPl ρ nx y s (nx+1)=⟨y.at_,12,s.tenants.length,false,noSub⟩:=setPl_same _ _ _
 refine⟨h2,?_,?_,fun i hi=>?_,by omega⟩
 ·rw[den_st]
  congr 2
  simp[stX,q1,q2]
 ·intro u hu
  simp at hu
  rcases hu with rfl | rfl | rfl | rfl | rfl | rfl | rfl | rfl<;>first | trivial | exact⟨show nx+1<nx+2 by omega,by rw[q2]⟩ | exact⟨show nx<nx+2 by omega,by rw[q1]⟩
 ·unfold stPl
  rw[setPl_lt _ _ (by omega),setPl_lt _ _ hi]
end
/-! state.New -/
def CN1:CN:=⟨0,1,2,3,4,5,3⟩
abbrev tsB (n:Nat) (el:Nat→List Value):ABlk:=.row (1000000+64) 12 n el
abbrev csB (n:Nat) (el:Nat→List Value):ABlk:=.row (1000000+78) 4 n el
/-! Functions that read a configuration and states and give a value. -/
abbrev SN1:SN:=⟨6,7,3⟩
abbrev SN2:SN:=⟨8,9,3⟩
def rpl (x:CfgA) (c:Cfg) (y:StA) (s:St) (y2:StA) (s2:St):Nat→Pl:=fun j=>match j with
 | 0=>⟨x.az,1,c.zones.length,false,noSub⟩
 | 1=>⟨x.ac,2,c.cells.length,false,noSub⟩
 | 2=>⟨x.at_,7,c.tenants.length,false,noSub⟩
 | 3=>⟨x.av,2,c.versions.length,false,noSub⟩
 | 4=>⟨x.ar,1,c.replicas.length,false,noSub⟩
 | 5=>⟨x.ao,1,c.observers.length,false,noSub⟩
 | 6=>⟨y.at_,12,s.tenants.length,false,noSub⟩
 | 7=>⟨y.ac,4,s.cells.length,false,noSub⟩
 | 8=>⟨y2.at_,12,s2.tenants.length,false,noSub⟩
 | _=>⟨y2.ac,4,s2.cells.length,false,noSub⟩
abbrev rdM (c:Cfg) (s s2:St):AM:=cfgM CN1 c++(stM SN1 s++stM SN2 s2)
abbrev ck (x:CfgA):CfgK:=⟨x.cz,x.cc,x.ct,x.cv,x.cr,x.co⟩
abbrev sk (y:StA):StK:=⟨y.ct,y.cc⟩
theorem rpl_cfg (x:CfgA) (c:Cfg) (y:StA) (s:St) (y2:StA) (s2:St):den (rpl x c y s y2 s2) (cfgV CN1 (ck x) c)=.agg (cfgC x c):=by rw[den_cfg];rfl
theorem rpl_st (x:CfgA) (c:Cfg) (y:StA) (s:St) (y2:StA) (s2:St):den (rpl x c y s y2 s2) (stV SN1 (sk y) s)=.agg (stC y s):=by rw[den_st];rfl
theorem rpl_cfg_ok (x:CfgA) (c:Cfg) (y:StA) (s:St) (y2:StA) (s2:St):okV (rpl x c y s y2 s2) 10 (cfgV CN1 (ck x) c):=by
 intro u hu
 simp at hu
 rcases hu with rfl | rfl | rfl | rfl | rfl | rfl | rfl | rfl | rfl | rfl<;>first | trivial | exact⟨by decide,rfl⟩
theorem rpl_st_ok (x:CfgA) (c:Cfg) (y:StA) (s:St) (y2:StA) (s2:St):okV (rpl x c y s y2 s2) 10 (stV SN1 (sk y) s):=by
 intro u hu
 simp at hu
 rcases hu with rfl | rfl | rfl | rfl | rfl | rfl | rfl | rfl<;>first | trivial | exact⟨by decide,rfl⟩
theorem rd_calls {f:FuncId} {fn:Func} {F:FT} {D:List (Nat×DQ)} (hF:FTok Tryz.prog F) (hf:(Tryz.prog).funcs[f]?=some fn) (hb:fn.body=some (bodyOf fn)) (hcode:codeB fn.ntmps D (bodyOf fn)=true) {vs:List Value} (hn:Nat.ble vs.length fn.ntmps=true)
  (x:CfgA) (c:Cfg) (y:StA) (s:St) (y2:StA) (s2:St) (w:World) (hc:CfgOk w (·<w.heap.size) x c) (hs:StOk w (·<w.heap.size) y s) (hs2:StOk w (·<w.heap.size) y2 s2) (hv:∀ v ∈ vs,okV (rpl x c y s y2 s2) 10 v) {R:Value→Prop}
  (h:sx tt F D (bodyOf fn) (argF 0 vs) (rdM c s s2) 10 (endx tt fn.results.toList fun v _ _=>R v∧pureV v)) :
  Calls Tryz.prog f (vs.map (den (rpl x c y s y2 s2))).toArray w fun e w'=>∃ v,R v∧pureV v∧e=.returned v∧Below w.heap.size w w':=by
 have hpc:CfgPl (rpl x c y s y2 s2) CN1 x c:=⟨rfl,rfl,rfl,rfl,rfl,rfl⟩
 have hps:StPl (rpl x c y s y2 s2) SN1 y s:=⟨rfl,rfl⟩
 have hps2:StPl (rpl x c y s y2 s2) SN2 y2 s2:=⟨rfl,rfl⟩
 have hm:MemAt { w0:=w,bor:=[],n0:=10,ρ0:=rpl x c y s y2 s2,nt:=fn.ntmps } (rpl x c y s y2 s2) (rdM c s s2) 10 w:=MemAt.rows trivial (cfg_blks hpc hc (fun b hb=>hb) (by decide) (st_blks hps hs (fun b hb=>hb) (by decide) (by
  have:=st_blks (C:={ w0:=w,bor:=[],n0:=10,ρ0:=rpl x c y s y2 s2,nt:=fn.ntmps }) (nx:=10) (r:=[]) hps2 hs2 (fun b hb=>hb) (by decide) trivial
  exact this)))
 refine (calls_sx ttOk hF mixed hf hb hcode (vs:=vs) hn ⟨rfl,rfl⟩ rfl hm hv h).mono ?_
 rintro e w' ⟨v,mem',nx',ρ',rfl,⟨hR,hp⟩,-,hm'⟩
 exact⟨v,hR,hp,by rw[(pure_den hp ρ' 0).1],⟨hm'.rest.os,hm'.rest.tape,hm'.rest.output,hm'.rest.size,fun b hlt=>hm'.rest.block b hlt (by simp)⟩⟩
/-! What such a function is handed,in the abstract and in the world. -/
inductive DT where
 | li (d:List Int)
 | cf (d:Cfg)
 | st (d:St)
 | vl (u:Value)
inductive PA where
 | li (i cap:Nat) (d:List Int)
 | cf (N:CN) (x:CfgK) (d:Cfg)
 | st (M:SN) (y:StK) (d:St)
 | vl (u:Value)
inductive PW where
 | li (A:Option Addr) (cap:Nat) (d:List Int)
 | cf (x:CfgA) (d:Cfg)
 | st (y:StA) (d:St)
 | vl (u:Value)
def PA.val:PA→Value
 | .li i cap l=>slc i l.length cap
 | .cf N x c=>cfgV N x c
 | .st M y s=>stV M y s
 | .vl u=>u
def PA.dt:PA→DT
 | .li _ _ l=>.li l
 | .cf _ _ c=>.cf c
 | .st _ _ s=>.st s
 | .vl u=>.vl u
def PA.keep (mem:AM):PA→Prop
 | .li i _ l=>lk mem i=some (intRow l)
 | .cf N _ c=>keeps mem (cfgM N c)
 | .st M _ s=>keeps mem (stM M s)
 | .vl u=>pureV u
def PW.val:PW→Value
 | .li A cap l=>.slice A l.length cap
 | .cf x c=>.agg (cfgC x c)
 | .st y s=>.agg (stC y s)
 | .vl u=>u
def PW.dt:PW→DT
 | .li _ _ l=>.li l
 | .cf _ c=>.cf c
 | .st _ s=>.st s
 | .vl u=>.vl u
def PW.ok (w:World):PW→Prop
 | .li A _ l=>Rd w (·<w.heap.size) A (flat intC l)
 | .cf x c=>CfgOk w (·<w.heap.size) x c
 | .st y s=>StOk w (·<w.heap.size) y s
 | .vl u=>pureV u
def PA.to (ρ:Nat→Pl):PA→PW
 | .li i cap l=>.li (ρ i).A cap l
 | .cf N x c=>.cf (cfgX ρ N x) c
 | .st M y s=>.st (stX ρ M y) s
 | .vl u=>.vl u
def allK (mem:AM) (l:List PA):Prop:=List.rec (motive:=fun _=>Prop) True (fun a _ ih=>a.keep mem∧ih) l
theorem allK_mem {mem:AM}:∀ {l:List PA},allK mem l→∀ a ∈ l,a.keep mem
 | [],_,a,ha=>by cases ha
 | b::r,h,a,ha=>(List.mem_cons.1 ha).elim (fun e=>e ▸ h.1) (allK_mem (l:=r) h.2 a)
def ctPts (R:List DT→Value→Prop) (pre:List DT→Prop):CT:=fun vs mem nx K=>∃ l:List PA,vs=l.map PA.val∧allK mem l∧pre (l.map PA.dt)∧∀ z,R (l.map PA.dt) z→K z mem nx
theorem ptsOk {f : FuncId} {R : List DT → Value → Prop} {pre : List DT → Prop} (ent : ((Tryz.prog).funcs[f]?).map (fun fn => (fn.name == "runtime.NumGoroutine", fn.body.isNone)) = some (false, false))
  (h:∀ (ps:List PW) (w:World),pre (ps.map PW.dt)→(∀ p ∈ ps,p.ok w)→Calls Tryz.prog f (ps.map PW.val).toArray w fun e w'=>∃ v,R (ps.map PW.dt) v∧pureV v∧e=.returned v∧Below w.heap.size w w'):CSound Tryz.prog f (ctPts R pre):=
 ⟨ent,fun {C ρ fr mem nx a w vs K} hc hs hv=>by
  obtain⟨l,rfl,hk,hp,hK⟩:=hc
  have hk':=allK_mem hk
  have e1:(l.map PA.val).map (den ρ)=(l.map (PA.to ρ)).map PW.val:=by
   rw[List.map_map,List.map_map]
   refine List.map_congr_left fun p hp=>?_
   cases p with
   | li i cap l=>rfl
   | cf N x c=>exact den_cfg ρ N x c
   | st M y s=>exact den_st ρ M y s
   | vl u=>exact (pure_den (hk' _ hp) ρ 0).1
  have e2:(l.map (PA.to ρ)).map PW.dt=l.map PA.dt:=by
   rw[List.map_map]
   refine List.map_congr_left fun p hp=>?_
   cases p<;>rfl
  rw[e1]
  refine (h (l.map (PA.to ρ)) w (by rw[e2];exact hp) (fun p hp=>?_)).mono ?_
  ·obtain⟨q,hq,rfl⟩:=List.mem_map.1 hp
   cases q with
   | li i cap l=>exact hs.rd (enc:=intC) (sz:=1) (fun _=>rfl) (by omega) (show lk mem i=some (intRow l) from hk' _ hq) (fun b h _=>h)
   | cf N x c=>exact hs.cfg (hk' _ hq) (fun b h _=>h)
   | st M y s=>exact hs.st (hk' _ hq) (fun b h _=>h)
   | vl u=>exact hk' _ hq
  ·rintro e w' ⟨v,hR,hpl,rfl,hb⟩
   rw[e2] at hR
   exact⟨v,mem,nx,ρ,by rw[(pure_den hpl ρ 0).1],hK v hR,hs.later hb,(pure_den hpl ρ nx).2,ExtS.refl _ _⟩⟩
theorem dt_nil {ps:List PW} (h:ps.map PW.dt=[]):ps=[]:=List.map_eq_nil_iff.1 h
theorem dt_l {ps:List PW} {l:List Int} {r:List DT} (h:ps.map PW.dt=.li l::r):∃ A cap qs,ps=.li A cap l::qs∧qs.map PW.dt=r:=by
 cases ps with
 | nil=>cases h
 | cons p qs=>cases p<;>simp[PW.dt] at h<;>obtain⟨rfl,h⟩:=h;exact⟨_,_,qs,rfl,h⟩
theorem dt_c {ps:List PW} {c:Cfg} {r:List DT} (h:ps.map PW.dt=.cf c::r):∃ x qs,ps=.cf x c::qs∧qs.map PW.dt=r:=by
 cases ps with
 | nil=>cases h
 | cons p qs=>cases p<;>simp[PW.dt] at h<;>obtain⟨rfl,h⟩:=h;exact⟨_,qs,rfl,h⟩
theorem dt_v {ps:List PW} {u:Value} {r:List DT} (h:ps.map PW.dt=.vl u::r):∃ qs,ps=.vl u::qs∧qs.map PW.dt=r:=by
 cases ps with
 | nil=>cases h
 | cons p qs=>cases p<;>simp[PW.dt] at h<;>obtain⟨rfl,h⟩:=h;exact⟨qs,rfl,h⟩
def noA:StA:=⟨none,0,none,0⟩
def noS:St:={ tick:=0,count:=0,tenants:=[],cells:=[],proven:=0,evac:=0,low:=0,high:=0 }
theorem noS_ok (w:World) (S:Nat→Prop):StOk w S noA noS:=⟨fun h=>absurd rfl h,fun h=>absurd rfl h⟩
/-! Functions that are handed lists of numbers. -/
end Go.Proofs.YtchhdflealgkaaaGreat
