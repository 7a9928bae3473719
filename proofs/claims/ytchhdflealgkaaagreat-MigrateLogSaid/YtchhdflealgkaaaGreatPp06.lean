import Derived.Test.YtchhdflealgkaaaGreatPp05
import Derived.Test.YtchhdflealgkaaaGreatRows
import Derived.Test.YtchhdflealgkaaaGreatProg
/-! Plain functions on the data: what the program and the references compute. No program in sight. -/
namespace Go.Proofs.YtchhdflealgkaaaGreat
instance:Inhabited Ten:=⟨⟨0,0,0,0,0,0,false⟩⟩
instance:Inhabited Win:=⟨⟨0,0,0,0,0⟩⟩
instance:Inhabited TS:=⟨⟨false,false,0,0,0,0,0,default⟩⟩
instance:Inhabited CS:=⟨⟨0,0,0,0⟩⟩
instance:Inhabited Ent:=⟨⟨0,0,0,0,0,0,0,0,0⟩⟩
def inR (n lo hi:Int):Bool:=decide (lo≤n)&&decide (n≤hi)
def limitsB (c:Cfg):Bool:=
 inR c.regions 1 4&&inR c.zones.length 1 8&&inR c.cells.length 1 16&&inR c.versions.length 1 30&&inR c.replicas.length 1 5&&inR c.observers.length 1 9&&decide (c.tenants.length≤32)
def placesB (c:Cfg):Bool:=
 c.zones.all (fun z=>inR z 0 (c.regions-1))&&c.cells.all (fun y=>inR y.1 0 (c.zones.length-1))&&c.replicas.all (fun z=>inR z 0 (c.zones.length-1))&&c.observers.all (fun z=>inR z 0 (c.zones.length-1))
def verOk (i:Nat) (v:Int×Int):Bool:=decide (0≤v.1)&&decide (v.1≤v.2)&&decide (v.2≤30)&&(decide (i≠0)||decide (v.1=0))
def versOk (l:List (Int×Int)):Bool:=(List.range l.length).all fun i=>match l[i]? with | some v=>verOk i v | none=>true
def valuesB (c:Cfg):Bool:=
 c.cells.all (fun y=>inR y.2 1 4194304)&&versOk c.versions&&(inR c.blast 1 16&&inR c.lease 1 1000&&inR c.bake 0 10000)
def topoErr (c:Cfg):Int:=
 if limitsB c=false then 2 else if c.replicas.length % 2=0∨placesB c=false∨valuesB c=false then 1 else 0
def shl1 (r:Int):Int:=if r=1 then 2 else if r=2 then 4 else if r=3 then 8 else 16
def tenOk (r:Int) (t:Ten):Bool:=
 inR t.load 1 65536&&inR t.shadow 0 t.load&&inR t.prio 0 9&&inR t.lag (-1) 1000&&inR t.allowed 1 (shl1 r-1)&&inR t.group 0 32
def cfgErr (c:Cfg):Int:=if topoErr c≠0 then topoErr c else if c.tenants.all (tenOk c.regions) then 0 else 1
/-! Cells,regions,sets. -/
def zoneOf (c:Cfg) (k:Int):Int:=if 0≤k∧k<c.cells.length then (c.cells.getD k.toNat (0,0)).1 else -1
def regZone (c:Cfg) (z:Int):Int:=if 0≤z∧z<c.zones.length then c.zones.getD z.toNat 0 else -1
def regionOf (c:Cfg) (k:Int):Int:=regZone c (zoneOf c k)
def bitB (set i:Int):Bool:=set.toNat.testBit i.toNat
def hasB (set i:Int):Bool:=decide (0≤i)&&decide (i<62)&&bitB set i
def tenAt (c:Cfg) (i:Int):Ten:=c.tenants.getD i.toNat default
def mayB (c:Cfg) (t k:Int):Bool:=decide (0≤t)&&decide (t<c.tenants.length)&&hasB (tenAt c t).allowed (regionOf c k)
def apartB (c:Cfg) (a b:Int):Bool:=decide (0≤regionOf c a)&&decide (0≤regionOf c b)&&decide (regionOf c a≠regionOf c b)
/-! Entries. -/
def fT (nt k:Int):Int×Int:=if k≤8 then (0,nt-1) else (-1,-1)
def fC (nc k:Int):Int×Int:=if k=1∨k=2∨k=5∨k=6∨k=9∨k=10∨k=11 then (0,nc-1) else if k=4 then (-1,nc-1) else (-1,-1)
def fO (nc nr k:Int):Int×Int:=if k=1 then (-1,nc-1) else if k=13 then (0,nr-1) else (-1,-1)
def fE (k:Int):Int×Int:=if k=2∨k=3 then (1,1048576) else (0,0)
def fW (k:Int):Int×Int:=if k=2 then (0,1073741824) else (0,0)
def fN (nv k:Int):Int×Int:=if k=2∨k=10∨k=11∨k=12 then (0,nv-1) else if k=8∨k=13 then (0,1) else if k=9 then (1,3) else if k=16 then (0,1073741824) else (0,0)
def inS (n:Int) (s:Int×Int):Bool:=inR n s.1 s.2
def entOk (nt nc nr nv:Int) (e:Ent):Bool:=
 inR e.kind 1 16&&inR e.tick 0 1073741824&&inS e.tenant (fT nt e.kind)&&inS e.cell (fC nc e.kind)&&inS e.other (fO nc nr e.kind)&&inS e.epoch (fE e.kind)&&inS e.since (fW e.kind)&&inS e.till (fW e.kind)&&inS e.n (fN nv e.kind)&&(decide (e.kind≠1)||decide (e.other≠e.cell))
def entV (c:Cfg) (e:Ent):Bool:=entOk c.tenants.length c.cells.length c.regions c.versions.length e
/-! States. -/
def St.zero:St:=⟨0,0,[],[],0,0,0,0⟩
def tsNew:TS:=⟨false,false,-1,-1,-1,-1,0,⟨-1,0,0,0,0⟩⟩
def csNew:CS:=⟨1,0,0,0⟩
def stNew (c:Cfg):St:=⟨0,0,List.replicate c.tenants.length tsNew,List.replicate c.cells.length csNew,1,0,0,0⟩
def tsAt (s:St) (i:Int):TS:=s.tenants.getD i.toNat default
def csAt (s:St) (i:Int):CS:=s.cells.getD i.toNat default
def verAt (c:Cfg) (i:Int):Int×Int:=c.versions.getD i.toNat (0,0)
def openB (p:Int) (x:CS):Bool:=!hasB p x.running||!hasB p x.wanted
def frozenB (c:Cfg) (s:St) (k:Int):Bool:=hasB s.evac (regionOf c k)
def nearB (c:Cfg) (a b:Int):Bool:=decide (b≠-1)&&!apartB c a b
def unproven (s:St):List Int:=((List.range s.cells.length).filter fun i=>openB s.proven (s.cells.getD i default)).map Int.ofNat
def placeE (c:Cfg) (s:St) (e:Ent):Int:=
 if (tsAt s e.tenant).placed then 4
 else if (csAt s e.cell).mode≠1∨(e.other≠-1∧(csAt s e.other).mode≠1) then 6
 else if frozenB c s e.cell∨(e.other≠-1∧frozenB c s e.other) then 12
 else if mayB c e.tenant e.cell=false∨(e.other≠-1∧mayB c e.tenant e.other=false)∨nearB c e.cell e.other then 11 else 0
def grantE (c:Cfg) (s:St) (e:Ent):Int:=
 let t:=tsAt s e.tenant
 let x:=csAt s e.cell
 if t.placed=false∨(t.shed∧e.cell≠t.standby) then 4
 else if e.cell≠t.home∧e.cell≠t.standby∧e.cell≠t.target then 5
 else if x.mode=3∨(x.mode=2∧e.cell≠t.home) then 6
 else if e.epoch≠t.epoch+1∧¬ (e.cell=t.home∧e.epoch=t.epoch) then 7
 else if e.n≠x.running∨x.running≠x.wanted then 8
 else if e.since<e.tick∨e.tick+c.lease<e.since∨e.till≤e.since∨c.lease<e.till-e.since∨e.since<t.win.till∨(e.cell≠t.home∧e.tick<t.win.till) then 9 else 0
def cutE (s:St) (e:Ent):Int:=
 let t:=tsAt s e.tenant
 if t.placed=false then 4 else if e.epoch≠t.epoch then 7 else 0
def standbyE (c:Cfg) (s:St) (e:Ent):Int:=
 let t:=tsAt s e.tenant
 if t.placed=false then 4 else if e.cell=-1 then 0
 else if e.cell=t.home∨e.cell=t.standby∨e.cell=t.target then 5
 else if (csAt s e.cell).mode≠1 then 6
 else if frozenB c s e.cell then 12
 else if mayB c e.tenant e.cell=false∨nearB c e.cell t.home∨nearB c e.cell t.target then 11 else 0
def readyE (s:St) (e:Ent):Int:=
 let t:=tsAt s e.tenant
 if t.placed=false then 4 else if e.cell≠t.next then 5 else if (csAt s e.cell).mode=3 then 6 else 0
def migrateE (c:Cfg) (s:St) (e:Ent):Int:=
 let t:=tsAt s e.tenant
 if t.placed=false∨t.shed∨t.target≠-1 then 4
 else if e.cell=t.home∨e.cell=t.standby∨e.cell=t.next then 5
 else if (csAt s e.cell).mode≠1 then 6
 else if frozenB c s e.cell then 12
 else if mayB c e.tenant e.cell=false∨nearB c e.cell t.standby∨nearB c e.cell t.next then 11 else 0
def abandonE (s:St) (e:Ent):Int:=
 let t:=tsAt s e.tenant
 if t.placed=false∨t.target=-1 then 4 else 0
def shedE (s:St) (e:Ent):Int:=
 let t:=tsAt s e.tenant
 if e.n=0 then (if t.shed=false then 4 else if (csAt s t.home).mode=3 then 6 else 0)
 else if t.placed=false∨t.shed then 4 else if e.tick<t.win.till then 9 else 0
def modeE (s:St) (e:Ent):Int:=if (csAt s e.cell).mode=e.n then 4 else 0
def others (s:St) (k:Int):Nat:=((List.range s.cells.length).filter fun (i:Nat)=>decide ((i:Int)≠k)&&openB s.proven (s.cells.getD i default)).length
def wantE (c:Cfg) (s:St) (e:Ent):Int:=
 let x:=csAt s e.cell
 if x.wanted=e.n then 4
 else if s.low<(verAt c e.n).1∨(verAt c e.n).2<s.high then 13
 else if x.running=e.n∨hasB s.proven e.n then 0
 else if s.evac≠0 then 12
 else if c.blast≤others s e.cell then 14 else 0
def runsE (s:St) (e:Ent):Int:=
 let x:=csAt s e.cell
 if x.wanted≠e.n∨x.running=x.wanted then 4
 else if hasB s.proven e.n=false∧s.evac≠0 then 12
 else if s.tenants.any (fun t=>decide (t.win.cell=e.cell)&&decide (e.tick<t.win.till)) then 9 else 0
def bakedB (c:Cfg) (e:Ent) (x:CS):Bool:=decide (x.mode≠3)&&decide (x.running=e.n)&&decide (x.wanted=e.n)&&decide (c.bake≤e.tick-x.since)
def proveE (c:Cfg) (s:St) (e:Ent):Int:=if hasB s.proven e.n then 4 else if s.cells.any (bakedB c e) then 0 else 15
def evacE (s:St) (e:Ent):Int:=if hasB s.evac e.other=decide (e.n=1) then 4 else 0
def blockB (c:Cfg) (s:St) (x:CS):Bool:=decide ((verAt c x.running).2≤s.high)||decide ((verAt c x.wanted).2≤s.high)
def expandE (c:Cfg) (s:St):Int:=if s.low<s.high then 4 else if 30≤s.high then 2 else if s.cells.any (blockB c s) then 13 else 0
def contractE (s:St):Int:=if s.high=s.low then 4 else 0
def kindE (c:Cfg) (s:St) (e:Ent):Int:=
 if e.kind=1 then placeE c s e else if e.kind=2 then grantE c s e else if e.kind=3 then cutE s e else if e.kind=4 then standbyE c s e
 else if e.kind=5 then readyE s e else if e.kind=6 then migrateE c s e else if e.kind=7 then abandonE s e else if e.kind=8 then shedE s e
 else if e.kind=9 then modeE s e else if e.kind=10 then wantE c s e else if e.kind=11 then runsE s e else if e.kind=12 then proveE c s e
 else if e.kind=13 then evacE s e else if e.kind=14 then expandE c s else if e.kind=15 then contractE s else 0
def refusedE (c:Cfg) (s:St) (e:Ent):Int:=
 if entV c e=false then 1 else if 4096≤s.count then 2 else if e.tick<s.tick then 3 else kindE c s e
def cutW (x:Win) (tick:Int):Win:={ x with till:=min x.till (tick+1),since:=min x.since (min x.till (tick+1)) }
def grantT (t:TS) (e:Ent):TS:=
 let t1:TS:={ t with win:=⟨e.cell,e.epoch,e.n,e.since,e.till⟩,epoch:=e.epoch }
 if e.cell=t.home then t1
 else if e.cell=t.standby then { t1 with home:=e.cell,standby:=-1,next:=-1,target:=-1,shed:=false }
 else { t1 with home:=e.cell,target:=-1 }
def tenEff (t:TS) (e:Ent):TS:=
 if e.kind=1 then { t with placed:=true,home:=e.cell,standby:=e.other }
 else if e.kind=2 then grantT t e
 else if e.kind=3 then { t with win:=cutW t.win e.tick }
 else if e.kind=4 then { t with next:=e.cell }
 else if e.kind=5 then { t with standby:=e.cell,next:=-1 }
 else if e.kind=6 then { t with target:=e.cell }
 else if e.kind=7 then { t with target:=-1 }
 else if e.kind=8 then (if e.n=1 then { t with shed:=true,target:=-1 } else { t with shed:=false })
 else t
def celEff (x:CS) (e:Ent):CS:=
 if e.kind=9 then { x with mode:=e.n,since:=e.tick }
 else if e.kind=10 then { x with wanted:=e.n }
 else if e.kind=11 then { x with running:=e.n,since:=e.tick }
 else x
def setTen (s:St) (i:Int) (t:TS):St:={ s with tenants:=s.tenants.set i.toNat t }
def setCel (s:St) (i:Int) (x:CS):St:={ s with cells:=s.cells.set i.toNat x }
def orBit (set i:Int):Int:=(set.toNat ||| (1 <<< i.toNat):Nat)
def flipBit (set i:Int):Int:=(set.toNat ^^^ (1 <<< i.toNat):Nat)
def stamped (s:St) (e:Ent):St:={ s with tick:=e.tick,count:=s.count+1 }
def effOf (s0:St) (e:Ent):St:=
 let s:=stamped s0 e
 if e.kind≤8 then setTen s e.tenant (tenEff (tsAt s0 e.tenant) e)
 else if e.kind≤11 then setCel s e.cell (celEff (csAt s0 e.cell) e)
 else if e.kind=12 then { s with proven:=orBit s.proven e.n }
 else if e.kind=13 then { s with evac:=flipBit s.evac e.other }
 else if e.kind=14 then { s with high:=s.high+1 }
 else if e.kind=15 then { s with low:=s.high }
 else s
/-! The load. -/
def addAt (l:List Int) (i n:Int):List Int:=if 0≤i∧i<l.length then l.set i.toNat (l.getD i.toNat 0+n) else l
def bookT (l:List Int) (t:TS) (d:Ten):List Int:=
 if t.placed=false then l
 else addAt (addAt (if t.shed then l else addAt (addAt l t.home d.load) t.target d.load) t.standby d.shadow) t.next d.shadow
def booked (c:Cfg) (s:St):List Int:=(s.tenants.zip c.tenants).foldl (fun l p=>bookT l p.1 p.2) (List.replicate c.cells.length 0)
def overB (c:Cfg) (s:St):Bool:=(List.range c.cells.length).any fun i=>decide ((c.cells.getD i (0,0)).2<(booked c s).getD i 0)
def over (c:Cfg) (s:St):List Int:=((List.range c.cells.length).filter fun i=>decide ((c.cells.getD i (0,0)).2<(booked c s).getD i 0)).map Int.ofNat
def booksB (e:Ent):Bool:=decide (e.kind=1)||decide (e.kind=2)||decide (e.kind=6)||(decide (e.kind=4)&&decide (e.cell≠-1))||(decide (e.kind=8)&&decide (e.n=0))
def applyP (c:Cfg) (s:St) (e:Ent):St×Int:=
 if refusedE c s e≠0 then (St.zero,refusedE c s e)
 else if booksB e∧overB c (effOf s e) then (St.zero,10) else (effOf s e,0)
def fitsB (e:Ent):Bool:=decide (e.kind=1)||decide (e.kind=2)||decide (e.kind=6)||decide (e.kind=4)||(decide (e.kind=8)&&decide (e.n≠1))
def applyR (c:Cfg) (s:St) (e:Ent):St×Int:=
 if refusedE c s e≠0 then (St.zero,refusedE c s e)
 else if fitsB e∧overB c (effOf s e) then (St.zero,10) else (effOf s e,0)
end Go.Proofs.YtchhdflealgkaaaGreat

namespace Go.Proofs.YtchhdflealgkaaaGreat
open Go.RowKit
set_option linter.unusedSimpArgs false
set_option linter.unusedVariables false
theorem getD_some {α:Type} {l:List α} {n:Nat} {z d:α} (h:l[n]?=some z):l.getD n d=z:=by rw[List.getD_eq_getElem?_getD,h];rfl
theorem bcell {W w1:World} {B:Nat} (hb:Below B W w1):(∀ b o,b<B→w1.cell? ⟨b,o,none⟩=W.cell? ⟨b,o,none⟩)∧(∀ b o,b<B→w1.frozen? ⟨b,o,none⟩=W.frozen? ⟨b,o,none⟩):=
 ⟨fun b o h=>hb.cell (p:=⟨b,o,none⟩) h,fun b o h=>hb.frozen (p:=⟨b,o,none⟩) h⟩
section
variable {w w':World} {x:CfgA} {c:Cfg} {y:StA} {s:St}
theorem CfgOk.allocW (h:CfgOk w (·<w.heap.size) x c) (o:Obj):CfgOk (w.alloc o) (·<(w.alloc o).heap.size) x c:=
 (h.keep fun k hk=>Below.heap_alloc _ _ _ hk).more fun b hb=>by simp;omega
theorem CfgOk.belowW (h:CfgOk w (·<w.heap.size) x c) (hb:Below w.heap.size w w'):CfgOk w' (·<w'.heap.size) x c:=
 (h.keep fun k hk=>hb.block k hk).more fun b hk=>Nat.lt_of_lt_of_le hk hb.size
theorem StOk.allocW (h:StOk w (·<w.heap.size) y s) (o:Obj):StOk (w.alloc o) (·<(w.alloc o).heap.size) y s:=
 (h.keep fun k hk=>Below.heap_alloc _ _ _ hk).more fun b hb=>by simp;omega
theorem StOk.belowW (h:StOk w (·<w.heap.size) y s) (hb:Below w.heap.size w w'):StOk w' (·<w'.heap.size) y s:=
 (h.keep fun k hk=>hb.block k hk).more fun b hk=>Nat.lt_of_lt_of_le hk hb.size
end
structure CfgV (c:Cfg):Prop where
 reg:1≤c.regions∧c.regions≤4
 nz:1≤c.zones.length∧c.zones.length≤8
 nc:1≤c.cells.length∧c.cells.length≤16
 nt:c.tenants.length≤32
 nv:1≤c.versions.length∧c.versions.length≤30
 zone:∀ y ∈ c.cells,0≤y.1∧y.1<c.zones.length
 capy:∀ y ∈ c.cells,1≤y.2∧y.2≤4194304
 region:∀ z ∈ c.zones,0≤z∧z<c.regions
 ten:∀ t ∈ c.tenants,tenOk c.regions t=true
 ver:∀ k v,c.versions[k]?=some v→verOk k v=true
 blast:1≤c.blast∧c.blast≤16
 lease:1≤c.lease∧c.lease≤1000
 bake:0≤c.bake∧c.bake≤10000
theorem cfgV_of {c:Cfg} (h:cfgErr c=0):CfgV c:=by
 have h1:topoErr c=0:=by
  unfold cfgErr at h
  split at h
  ·exact h
  ·rename_i hh;exact Classical.not_not.1 hh
 have h2:c.tenants.all (tenOk c.regions)=true:=by
  unfold cfgErr at h
  rw[if_neg (by simp[h1])] at h
  split at h
  ·assumption
  ·omega
 have h3:limitsB c=true:=by
  unfold topoErr at h1
  split at h1
  ·omega
  ·rename_i hh;simpa using hh
 have h4:placesB c=true∧valuesB c=true:=by
  unfold topoErr at h1
  rw[if_neg (by simp[h3])] at h1
  split at h1
  ·omega
  ·rename_i hh
   refine⟨?_,?_⟩
   ·cases hp:placesB c with
    | true=>rfl
    | false=>exact absurd (.inr (.inl hp)) hh
   ·cases hp:valuesB c with
    | true=>rfl
    | false=>exact absurd (.inr (.inr hp)) hh
 obtain⟨h5,h6⟩:=h4
 simp only[placesB,Bool.and_eq_true,List.all_eq_true] at h5
 simp only[valuesB,Bool.and_eq_true,List.all_eq_true,versOk] at h6
 simp[limitsB,inR] at h3
 refine⟨by omega,by omega,by omega,by omega,by omega,fun y hy=>?_,fun y hy=>?_,fun z hz=>?_,fun t ht=>List.all_eq_true.1 h2 t ht,fun k v hv=>?_,?_,?_,?_⟩
 ·have:=h5.1.1.2 y hy;simp[inR] at this;omega
 ·have:=h6.1.1 y hy;simp[inR] at this;omega
 ·have:=h5.1.1.1 z hz;simp[inR] at this;omega
 ·have:=h6.1.2 k (List.mem_range.2 (List.getElem?_eq_some_iff.1 hv).1)
  rwa[hv] at this
 ·have:=h6.2.1.1;simp[inR] at this;omega
 ·have:=h6.2.1.2;simp[inR] at this;omega
 ·have:=h6.2.2;simp[inR] at this;omega
theorem bit_div (set i:Int) (h0:0≤set) (hi:0≤i):((set / 2 ^ i.toNat).tmod 2 != 0)=bitB set i:=by
 obtain⟨n,rfl⟩:=Int.eq_ofNat_of_zero_le h0
 unfold bitB
 rw[Nat.testBit_eq_decide_div_mod_eq]
 have e:((n:Int) / 2 ^ i.toNat)=((n / 2 ^ i.toNat:Nat):Int):=by
  rw[Int.natCast_ediv]
  simp
 have e2:(((n / 2 ^ i.toNat:Nat):Int)).tmod 2=((n / 2 ^ i.toNat % 2:Nat):Int):=(Int.ofNat_tmod (n / 2 ^ i.toNat) 2).symm
 rw[e,e2,Int.toNat_natCast]
 have:(n / 2 ^ i.toNat) % 2=0∨(n / 2 ^ i.toNat) % 2=1:=by omega
 rcases this with h | h
 ·simp[h]
 ·simp[h]
theorem mod_of_tmod (v n:Int):(v.tmod n+n) % n=v % n:=by
 have h:=Int.mul_tdiv_add_tmod v n
 have h2:(v.tmod n+n) % n=(v.tmod n) % n:=by simp
 rw[h2]
 conv=>rhs;rw[← h]
 rw[Int.mul_add_emod_self_left]
set_option maxHeartbeats 400000 in
theorem mkMod_any (v n:Int) (w:World) (hn:1≤n) (hn2:n≤2147483648) :
  Calls Tryz.prog 56 #[.int .i64 v,.int .i64 n] w fun e w'=>e=.returned (.int .i64 (v % n))∧w=w':=by
 have hne:(n==0)=false:=by simp;omega
 have h1:v.tmod n<n:=Int.tmod_lt_of_pos _ (by omega)
 have h2:-n<v.tmod n:=Int.lt_tmod_of_pos _ (by omega)
 have H:=Lib.hid (mod_of_tmod v n)
 go_enter Tryz.func56,Tryz.ntmps56
 go_wp2
 go_ret
 exact⟨ret_i64 H.out,rfl⟩
set_option maxHeartbeats 400000 in
theorem mkBetween_any (v lo hi:Int) (w:World) (hn:lo≤hi) (h1:-1000000≤lo) (h2:hi≤1000000) :
  Calls Tryz.prog 38 #[.int .i64 v,.int .i64 lo,.int .i64 hi] w fun e w'=>(∃ r,lo≤r∧r≤hi∧r=lo+v % (hi-lo+1)∧e=.returned (.int .i64 r))∧w=w':=by
 have H1:=Lib.hid (Int.emod_nonneg v (b:=hi-lo+1) (by omega))
 have H2:=Lib.hid (Int.emod_lt_of_pos v (b:=hi-lo+1) (by omega))
 have h3:=H1.out
 have h4:=H2.out
 go_enter Tryz.func38,Tryz.ntmps38
 go_wp2_with (go_at_call 56;refine (mkMod_any _ _ _ (by omega) (by omega)).mono ?_;rintro e w' ⟨rfl,rfl⟩)
 go_ret
 exact⟨⟨_,by omega,by omega,rfl,rfl⟩,rfl⟩
def nextV (zs:List Int) (k:Nat) (n:Int):Int:=if zs=[] then 0 else ((zs.getD (k % zs.length) 0) % 1073741824+(k / zs.length:Nat) * 7) % n
def nextK (zs:List Int) (k:Nat):Nat:=if zs=[] then k else k+1
structure TapeAt (w:World) (g:Nat) (A:Option Addr) (cap:Nat) (zs:List Int) (k:Nat):Prop where
 short:zs.length≤400
 row:Rd w (·<g) A (zs.map (Value.int .i64))
 blk:Blk w g 138 #[.slice A zs.length cap,.int .i64 k]
section
variable {w w':World} {g:Nat} {A:Option Addr} {cap:Nat} {zs:List Int} {k:Nat}
theorem TapeAt.drewN (h:TapeAt w g A cap zs k) (n:Nat):TapeAt (w.drewN n) g A cap zs k:=⟨h.short,h.row,h.blk⟩
theorem TapeAt.lt (h:TapeAt w g A cap zs k):g<w.heap.size:=h.blk.lt
theorem TapeAt.keep (h:TapeAt w g A cap zs k) (hb:∀ k,k<g+1→w'.heap[k]?=w.heap[k]?):TapeAt w' g A cap zs k:=
 ⟨h.short,h.row.keep fun k hk=>hb k (Nat.lt_succ_of_lt hk),(hb g (by omega)).trans h.blk⟩
theorem TapeAt.grown (h:TapeAt w g A cap zs k) {row:Option Nat} (hg:w.grownBy w' row) (hr:∀ k,row=some k→g<k):TapeAt w' g A cap zs k:=
 h.keep fun k hk=>hg.block k (by have:=h.lt;omega) (fun e=>by have:=hr k e.symm;omega)
theorem TapeAt.below (h:TapeAt w g A cap zs k) {B:Nat} (hb:Below B w w') (hB:g<B):TapeAt w' g A cap zs k:=h.keep fun k hk=>hb.block k (by omega)
theorem TapeAt.alloc (h:TapeAt w g A cap zs k) (o:Obj):TapeAt (w.alloc o) g A cap zs k:=h.keep fun k hk=>Below.heap_alloc _ _ _ (by have:=h.lt;omega)
end
structure NextIs (n:Int) (zs:List Int) (k:Nat) (r:Int) (k':Nat):Prop where
 lo:0≤r
 hi:r<n
 le:k≤k'
 most:k'≤k+1
 more:0<zs.length→k<k'
 val:Hid (r=nextV zs k n∧k'=nextK zs k)
set_option maxHeartbeats 400000 in
theorem mkTape_any (A:Option Addr) (cap:Nat) (zs:List Int) (w:World) (hs:zs.length≤400) (hr:Rd w (·<w.heap.size) A (zs.map (Value.int .i64))) :
  Calls Tryz.prog 37 #[.slice A zs.length cap] w fun e w'=>e=.returned (.pointer (some ⟨w.heap.size,0,none⟩))∧TapeAt w' w.heap.size A cap zs 0∧Below w.heap.size w w':=by
 have HR:=Lib.hid hr
 clear hr
 go_enter Tryz.func37,Tryz.ntmps37
 go_wp2
 go_ret
 exact⟨rfl,⟨hs,HR.out.alloc _,Blk.new _ _ _⟩,(Below.refl _ _).alloc (Nat.le_refl _) _⟩
/-! The types of the program. -/
abbrev zi:Value:=.int .i64 0
abbrev zb:Value:=.bool false
abbrev zs0:Value:=.slice none 0 0
def tiInt:TI:={ size:=1,agg:=false,zero:=[zi] }
def tiBool:TI:={ size:=1,agg:=false,zero:=[zb],isB:=true }
def tiSl (n:Nat) (elt:Nat:=0) (eb:Nat:=0):TI:={ size:=1,agg:=false,zero:=[zs0],esz:=n,sl:=true,elt:=elt,eb:=eb }
def tiRec (zero:List Value) (offs fszs fagg:List Nat) (eqk:List CK:=[]):TI:={ size:=zero.length,agg:=true,zero:=zero,offs:=offs,fszs:=fszs,fagg:=fagg,eqk:=eqk }
abbrev ki:CK:=.i .i64
def tt:TT:=[
 (3,tiInt),(4,tiBool),(34,tiInt),
 (22,tiSl 1 3 8),(26,tiSl 1 84 8),(27,tiSl 2 86 16),(28,tiSl 7 90 56),(29,tiSl 2 88 16),(50,tiSl 12 64 88),(51,tiSl 4 78 32),(124,tiSl 9 56 72),
 (31,tiRec [zi,zs0,zs0,zs0,zs0,zs0,zs0,zi,zi,zi] [0,1,2,3,4,5,6,7,8,9] [1,1,1,1,1,1,1,1,1,1] [1,1,1,1,1,1,1,1,1,1]),
 (53,tiRec [zi,zi,zs0,zs0,zi,zi,zi,zi] [0,1,2,3,4,5,6,7] [1,1,1,1,1,1,1,1] [1,1,1,1,1,1,1,1]),
 (56,tiRec [zi,zi,zi,zi,zi,zi,zi,zi,zi] [0,1,2,3,4,5,6,7,8] [1,1,1,1,1,1,1,1,1] [1,1,1,1,1,1,1,1,1] [ki,ki,ki,ki,ki,ki,ki,ki,ki]),
 (62,tiRec [zi,zi,zi,zi,zi] [0,1,2,3,4] [1,1,1,1,1] [1,1,1,1,1] [ki,ki,ki,ki,ki]),
 (64,tiRec [zb,zb,zi,zi,zi,zi,zi,zi,zi,zi,zi,zi] [0,1,2,3,4,5,6,7] [1,1,1,1,1,1,1,5] [1,1,1,1,1,1,1,2] [.b,.b,ki,ki,ki,ki,ki,ki,ki,ki,ki,ki]),
 (78,tiRec [zi,zi,zi,zi] [0,1,2,3] [1,1,1,1] [1,1,1,1] [ki,ki,ki,ki]),
 (84,tiRec [zi] [0] [1] [1]),(86,tiRec [zi,zi] [0,1] [1,1] [1,1]),(88,tiRec [zi,zi] [0,1] [1,1] [1,1]),
 (90,tiRec [zi,zi,zi,zi,zi,zi,zb] [0,1,2,3,4,5,6] [1,1,1,1,1,1,1] [1,1,1,1,1,1,1]),
 (138,tiRec [zs0,zi] [0,1] [1,1] [1,1]),(150,tiRec [zs0,zi] [0,1] [1,1] [1,1]),(73,tiRec [zi,zi] [0,1] [1,1] [1,1]),(70,tiSl 2 73 16),(60,{ size:=4,agg:=true,zero:=[zi,zi,zi,zi],arr:=4 }),(129,tiRec [zi,zi,zi,zi,zi,zb,zi] [0,1,2,3,4,5,6] [1,1,1,1,1,1,1] [1,1,1,1,1,1,1]),(131,tiRec [zi,zi,zi,zi,zi,zi,zb] [0,1,2,3,4,5,6] [1,1,1,1,1,1,1] [1,1,1,1,1,1,1])]
theorem tt_mem (P:Program) (τ:TT) (h:∀ p ∈ τ,TIok P p.1 p.2):TTok P τ:=fun t ti hl=>h (t,ti) (lk_mem hl)
theorem tt_cons {P:Program} {t:TypeId} {ti:TI} {r:TT} (h:TIok P t ti) (hr:∀ p ∈ r,TIok P p.1 p.2):∀ p ∈ (t,ti)::r,TIok P p.1 p.2:=fun p hp=>by
 rcases List.mem_cons.1 hp with rfl | hp
 ·exact h
 ·exact hr p hp
theorem tt_nil {P:Program}:∀ p ∈ ([]:TT),TIok P p.1 p.2:=fun p hp=>absurd hp (List.not_mem_nil)
theorem plains {l:List Value} (h:l.all (fun v=>match v with | .pointer (some _)=>false | .slice (some _) _ _=>false | .map (some _)=>false | _=>true)=true):∀ v ∈ l,plain1 v:=fun v hv=>by
 have:=List.all_eq_true.1 h v hv
 cases v with
 | pointer p=>cases p<;>simp_all [plain1]
 | slice p n c=>cases p<;>simp_all [plain1]
 | map p=>cases p<;>simp_all [plain1]
 | _=>trivial
theorem ttOk:TTok Tryz.prog tt:=by
 refine tt_mem _ _ ?_
 unfold tt
 repeat (refine tt_cons ⟨by kernel_rfl,by kernel_rfl,plains (by rfl),by kernel_rfl,by kernel_rfl,by kernel_rfl⟩ ?_)
 exact tt_nil
theorem mixed:(Tryz.prog).follows .mixedOrders=true:=by kernel_rfl
section
variable {P:Program} {C:Ctx} {ρ ρ':Nat→Pl} {fr:AF} {mem mem':AM} {nx nx':Nat} {a:Act} {w w':World}
def Ctx.of (w:World) (ρ:Nat→Pl) (nx:Nat) (bn:List Nat) (nt:Nat):Ctx:={ w0:=w,bor:=bn.filterMap (bno ρ),n0:=nx,ρ0:=ρ,nt:=nt }
def noXB:AM→Bool
 | []=>true
 | (_,.ext _)::_=>false
 | _::r=>noXB r
theorem noXB_lk:∀ {m:AM},noXB m=true→∀ i e,lk m i≠some (.ext e)
 | [],_,i,e,h=>by simp[lk] at h
 | (k,.ext _)::r,hx,i,e,h=>by cases hx
 | (k,.row _ _ _ _)::r,hx,i,e,h=>by
  rcases lk_cons h with⟨_,q⟩ | ⟨_,q⟩
  ·cases q
  ·exact noXB_lk (m:=r) hx i e q
 | (k,.box _ _)::r,hx,i,e,h=>by
  rcases lk_cons h with⟨_,q⟩ | ⟨_,q⟩
  ·cases q
  ·exact noXB_lk (m:=r) hx i e q
theorem Sat.after (h:Sat C ρ fr mem nx a w) {bn:List Nat} {nt:Nat} (hm:MemAt (Ctx.of w ρ nx bn nt) ρ' mem' nx' w') (hbn:∀ i ∈ bn,∃ t cs,lk mem i=some (.box t cs)) {keep:AM}
  (hk:∀ i b,lk keep i=some b→lk mem' i=some b∧(i ∈ bn∨nx≤i)) (hall:∀ i ∈ bn,∃ t cs,lk keep i=some (.box t cs))
  (hfresh:∀ i t sz n el,nx≤i→lk keep i=some (.row t sz n el)→n=0∨∃ b off,(ρ' i).A=some ⟨b,off,none⟩∧w.heap.size≤b) (hkx:∀ i e,lk keep i≠some (.ext e):=by exact noXB_lk rfl):Sat C ρ' fr (keep++mem) nx' a w':=by
 have hlow:∀ i,i<nx→ρ' i=ρ i:=fun i hi=>hm.low i hi
 have hnx:nx≤nx':=hm.n0
 have hsz:w.heap.size≤w'.heap.size:=hm.rest.size
 -- blocks that are not handed over
 have hstay:∀ b,b<w.heap.size→(∀ i ∈ bn,bno ρ i≠some b)→w'.heap[b]?=w.heap[b]?:=fun b hlt hn=>hm.rest.block b hlt (by
  intro hmem
  obtain⟨i,hi,he⟩:=List.mem_filterMap.1 hmem
  exact hn i hi he)
 have hbnlk:∀ i ∈ bn,∃ t cs,lk (mem++C.fm) i=some (.box t cs):=fun i hi=>by obtain⟨t,cs,e⟩:=hbn i hi;exact⟨t,cs,lk_app e⟩
 -- an old block
 have hold:∀ i b,lk keep i=none→lk (mem++C.fm) i=some b→BlkOk C ρ' nx' i w' b:=by
  intro i b hkn hi
  have hlt:=(h.mlt i b hi).1
  have hnb:i ∉ bn:=fun hib=>by obtain⟨t,cs,e⟩:=hall i hib;rw[hkn] at e;cases e
  have hb:=((h.blk i b hi).ren (ρ':=ρ') (m:=nx') (hlow i hlt) (fun j hj _=>hlow j hj) hnx)
  refine hb.far hsz fun g hg=>?_
  rw[brd_ren (hlow i hlt)] at hg
  refine hstay g ((h.blk i b hi).brd_lt hg) fun j hj he=>?_
  obtain⟨t2,cs2,hj2⟩:=hbnlk j hj
  have hne:j≠i:=fun q=>hnb (q ▸ hj)
  exact (h.sep j i _ _ hne hj2 hi).wr (h.sep i j _ _ (Ne.symm hne) hi hj2) (show bwr ρ j (.box t2 cs2) g from he) hg
 -- a kept block
 have hkeep:∀ i b,lk keep i=some b→BlkOk C ρ' nx' i w' b:=by
  intro i b hi
  obtain⟨hi',hor⟩:=hk i b hi
  have hb:=hm.blk i b hi'
  cases b with
  | ext e=>exact absurd hi (hkx i e)
  | row t sz n el=>
   obtain⟨e1,e2,e3⟩:=hb
   refine⟨e1,e2,e3.imp id ?_⟩
   rintro⟨b,off,hA,hat,hc⟩
   exact⟨b,off,hA,⟨hat.lt,fun ho=>by obtain⟨q1,q2,q3⟩:=hat.own ho;exact⟨q1,Nat.le_trans h.rest.size q2,q3⟩,fun hf=>Nat.le_trans h.rest.size (hat.new hf)⟩,hc⟩
  | box t cs=>
   obtain⟨g,e1,e2,e3,e4⟩:=hb
   refine⟨g,e1,e2,?_,e4⟩
   by_cases hib:i ∈ bn
   ·obtain⟨t2,cs2,hi2⟩:=hbnlk i hib
    obtain⟨g2,f1,-,f3,-⟩:=h.blk i _ hi2
    rw[hlow i (h.mlt i _ hi2).1,f1] at e1
    cases e1
    exact f3
   ·rcases e3 with e3 | e3
    ·exact .inl (Nat.le_trans h.rest.size e3)
    ·obtain⟨j,hj,he⟩:=List.mem_filterMap.1 e3
     obtain⟨t3,cs3,hj3⟩:=hall j hj
     have:=hm.sep i j _ _ (fun q=>hib (q ▸ hj)) hi' (hk j _ hj3).1
     simp only[Apart] at this
     obtain⟨t2,cs2,hj2⟩:=hbnlk j hj
     exact absurd (by rw[bno,bno,e1,hlow j (h.mlt j _ hj2).1];rw[bno] at he;rw[he];rfl) this
 have hlk:∀ i b,lk (keep++mem++C.fm) i=some b→lk keep i=some b∨(lk keep i=none∧lk (mem++C.fm) i=some b):=by
  intro i b hi
  rw[List.append_assoc] at hi
  cases hki:lk keep i with
  | some c=>rw[lk_app hki] at hi;exact .inl hi
  | none=>rw[lk_none_app hki] at hi;exact .inr ⟨rfl,hi⟩
 -- a kept block and an old one
 have hmix:∀ i j b b',lk keep i=some b→lk keep j=none→lk (mem++C.fm) j=some b'→Apart ρ' i j b b'∧Apart ρ' j i b' b:=by
  intro i j b b' hi hjn hj
  obtain⟨hi',hor⟩:=hk i b hi
  have hjlt:=(h.mlt j b' hj).1
  have hjb:j ∉ bn:=fun q=>by obtain⟨t,cs,e⟩:=hall j q;rw[hjn] at e;cases e
  have hij:i≠j:=by rintro rfl;rw[hjn] at hi;cases hi
  have er:=brd_ren (ρ':=ρ') (ρ:=ρ) (hlow j hjlt) b'
  have ew:=bwr_ren (ρ':=ρ') (ρ:=ρ) (hlow j hjlt) b'
  by_cases hib:i ∈ bn
  ·obtain⟨t2,cs2,hi2⟩:=hbnlk i hib
   obtain⟨t3,cs3,hi3⟩:=hall i hib
   rw[hi] at hi3
   cases hi3
   have ei:bno ρ' i=bno ρ i:=by unfold bno;rw[hlow i (h.mlt i _ hi2).1]
   have a1:=h.sep i j _ _ hij hi2 hj
   have a2:=h.sep j i _ _ (Ne.symm hij) hj hi2
   refine⟨(hkeep i _ hi).apart fun g hg hg2=>?_,(hold j b' hjn hj).apart fun g hg hg2=>?_⟩
   ·rw[er] at hg2
    exact a1.wr a2 (show bno ρ i=some g from ei.symm.trans hg) hg2
   ·rw[ew] at hg
    exact a2.wr a1 hg (show bno ρ i=some g from ei.symm.trans hg2)
  ·have hnxi:nx≤i:=hor.resolve_left hib
   -- the block of i is new
   have hnew:∀ g,brd ρ' i b g→w.heap.size≤g:=by
    intro g hg
    cases b with
    | ext e=>exact absurd hi (hkx i e)
    | row t sz n el=>
     rcases hfresh i t sz n el hnxi hi with h0 | ⟨bb,off,hA,hle⟩
     ·exact absurd h0 hg.1
     ·have:=hg.2
      simp[bno,hA] at this;omega
    | box t cs=>
     obtain⟨g',e1,e2,e3,e4⟩:=hm.blk i _ hi'
     have hg':bno ρ' i=some g:=hg
     have hgg:g'=g:=by simp[bno,e1] at hg';exact hg'
     subst hgg
     rcases e3 with e3 | e3
     ·exact e3
     ·obtain⟨q,hq,he⟩:=List.mem_filterMap.1 e3
      obtain⟨t3,cs3,hq3⟩:=hall q hq
      have:=hm.sep i q _ _ (fun z=>hib (z ▸ hq)) hi' (hk q _ hq3).1
      simp only[Apart] at this
      obtain⟨t2,cs2,hq2⟩:=hbnlk q hq
      exact absurd (by rw[hg',← he];unfold bno;rw[hlow q (h.mlt q _ hq2).1]) this
   have holdlt:∀ g,brd ρ' j b' g→g<w.heap.size:=fun g hg=>(h.blk j b' hj).brd_lt (er ▸ hg)
   exact⟨(hkeep i _ hi).apart fun g hg hg2=>by have:=hnew g (bwr_brd hg);have:=holdlt g hg2;omega,(hold j b' hjn hj).apart fun g hg hg2=>by have:=hnew g hg2;have:=holdlt g (bwr_brd hg);omega⟩
 refine⟨⟨fun t v hv=>?_,fun t v hv=>okV_mono (fun j hj _=>hlow j hj) hnx (h.fok.frk t v hv)⟩,h.sz,h.dfr,fun i b hi=>?_,fun i b hi=>?_,fun i j b b' hne hi hj=>?_,Nat.le_trans h.n0 hnx,fun i hi=>(hlow i (Nat.lt_of_lt_of_le hi h.n0)).trans (h.low i hi),?_⟩
 ·rw[den_congr (fun j hj _=>hlow j hj) (h.fok.frk t v hv)];exact h.fok.frm t v hv
 ·rcases hlk i b hi with hi | ⟨hn,hi⟩
  ·exact hm.mlt i b (hk i b hi).1
  ·exact⟨Nat.lt_of_lt_of_le (h.mlt i b hi).1 hnx,by rw[hlow i (h.mlt i b hi).1];exact (h.mlt i b hi).2⟩
 ·rcases hlk i b hi with hi | ⟨hn,hi⟩
  ·exact hkeep i b hi
  ·exact hold i b hn hi
 ·rcases hlk i b hi with hi | ⟨hn,hi⟩
  ·rcases hlk j b' hj with hj | ⟨hm2,hj⟩
   ·exact hm.sep i j b b' hne (hk i b hi).1 (hk j b' hj).1
   ·exact (hmix i j b b' hi hm2 hj).1
  ·rcases hlk j b' hj with hj | ⟨hm2,hj⟩
   ·exact (hmix j i b' b hj hn hi).2
   ·exact (h.sep i j b b' hne hi hj).ren (hlow i (h.mlt i b hi).1) (hlow j (h.mlt j b' hj).1)
 ·refine⟨hm.rest.os.trans h.rest.os,hm.rest.tape.trans h.rest.tape,hm.rest.output.trans h.rest.output,Nat.le_trans h.rest.size hsz,fun b hlt hnb=>?_⟩
  refine (hstay b (Nat.lt_of_lt_of_le hlt h.rest.size) fun i hi he=>?_).trans (h.rest.block b hlt hnb)
  obtain⟨t,cs,e⟩:=hbnlk i hi
  obtain⟨g,e1,-,e3,-⟩:=h.blk i _ e
  simp[bno,e1] at he
  subst he
  rcases e3 with e3 | e3
  ·omega
  ·exact hnb e3
end
section
variable {P:Program} {C:Ctx} {ρ ρ':Nat→Pl} {fr:AF} {mem mem':AM} {nx nx':Nat} {a:Act} {w w':World}
theorem getD_get {α:Type} {l:List α} {k:Nat} {d:α} (h:k<l.length):l[k]?=some (l.getD k d):=by rw[List.getD_eq_getElem?_getD,List.getElem?_eq_getElem h];rfl
theorem row_of_rd {α:Type} {enc:α→List Value} {sz:Nat} (hs:∀ x,(enc x).length=sz) (hpos:0<sz) (hpl:∀ x,∀ v ∈ enc x,plain1 v) {l:List α} (d:α) {i:Nat} {t:TypeId} {A:Option Addr} {S:Nat→Prop}
  (hρ:ρ i=⟨A,sz,l.length,false,noSub⟩) (h:Rd w S A (flat enc l)) (hS:∀ b,S b→b<w.heap.size) (ht:ownT t=false:=by first | rfl | assumption) (hfr:frT t=true→∀ b,S b→C.w0.heap.size≤b:=by intro h;exact absurd h (by decide)):BlkOk C ρ nx i w (.row t sz l.length (fun k=>enc (l.getD k d))):=by
 refine⟨by rw[hρ];exact⟨rfl,rfl⟩,fun k _=>⟨hs _,fun v hv=>hpl _ v hv⟩,?_⟩
 by_cases h0:l.length=0
 ·exact .inl h0
 ·obtain⟨b,off,x,hA,hb,_,_⟩:=h.row hs hpos (k:=0) (by omega)
  refine .inr ⟨b,off,by rw[hρ];exact hA,⟨hS b hb,fun ho=>(by rw[ht] at ho;cases ho),fun hf=>hfr hf b hb⟩,fun k hk j v hv=>?_⟩
  obtain⟨b2,off2,x2,hA2,_,hx2,hc2⟩:=h.row hs hpos hk
  rw[hA] at hA2
  cases hA2
  rw[getD_get hk (d:=d)] at hx2
  cases hx2
  exact hc2 j v hv
theorem flat_at {α:Type} {enc:α→List Value} {sz:Nat} (hs:∀ x,(enc x).length=sz) (hpos:0<sz):∀ (l:List α) (j:Nat) (v:Value),(flat enc l)[j]?=some v→∃ x,l[j / sz]?=some x∧(enc x)[j % sz]?=some v
 | [],j,v,h=>by simp[flat] at h
 | a::l,j,v,h=>by
  simp only[flat,List.flatMap_cons] at h
  by_cases hj:j<sz
  ·rw[List.getElem?_append_left (by rw[hs];exact hj)] at h
   exact⟨a,by simp[Nat.div_eq_of_lt hj],by rw[Nat.mod_eq_of_lt hj];exact h⟩
  ·rw[List.getElem?_append_right (by rw[hs];omega),hs] at h
   obtain⟨x,h1,h2⟩:=flat_at hs hpos l (j-sz) v h
   have e1:j / sz=(j-sz) / sz+1:=by
    have:j=(j-sz)+sz:=by omega
    conv=>lhs;rw[this]
    rw[Nat.add_div_right _ hpos]
   have e2:j % sz=(j-sz) % sz:=by
    have:j=(j-sz)+sz:=by omega
    conv=>lhs;rw[this]
    rw[Nat.add_mod_right]
   exact⟨x,by rw[e1];simpa using h1,by rw[e2];exact h2⟩
theorem rd_of_row {α:Type} {enc:α→List Value} {sz:Nat} (hs:∀ x,(enc x).length=sz) (hpos:0<sz) {l:List α} {d:α} {i:Nat} {t:TypeId} (h:BlkOk C ρ nx i w (.row t sz l.length (fun k=>enc (l.getD k d)))) {S:Nat→Prop} (hS:l.length≠0→∀ b off,(ρ i).A=some ⟨b,off,none⟩→b<w.heap.size→S b) :
  Rd w S (ρ i).A (flat enc l):=by
 obtain⟨-,-,h3⟩:=h
 intro hne
 have hl:l.length≠0:=by
  intro h0
  rw[List.eq_nil_of_length_eq_zero h0] at hne
  exact hne rfl
 rcases h3 with h0 | ⟨b,off,hA,hlt,hc⟩
 ·exact absurd h0 hl
 ·refine⟨b,off,hA,hS hl b off hA hlt.lt,fun j v hv=>?_⟩
  obtain⟨x,h1,h2⟩:=flat_at hs hpos l j v hv
  have hk:j / sz<l.length:=(List.getElem?_eq_some_iff.1 h1).1
  have hx:l.getD (j / sz) d=x:=by rw[List.getD_eq_getElem?_getD,h1];rfl
  have:=hc (j / sz) hk (j % sz) v (by show (enc (l.getD (j / sz) d))[j % sz]?=some v;rw[hx];exact h2)
  rw[← this]
  congr 2
  have:=Nat.div_add_mod j sz
  rw[Nat.mul_comm] at this
  omega
def allRows:AM→Prop
 | []=>True
 | (_,.row t _ _ _)::r=>(match ownT t with | false=>allRows r | true=>False)
 | (_,.box _ _)::_=>False
 | (_,.ext _)::_=>False
theorem allRows_x:∀ {mem:AM},allRows mem→∀ i e,lk mem i≠some (.ext e)
 | [],_,i,e,h=>by simp[lk] at h
 | (k,.row t2 _ _ _)::r,hr,i,e,h=>by
  rcases lk_cons h with⟨_,q⟩ | ⟨_,q⟩
  ·cases q
  ·simp only[allRows] at hr
   cases ho:ownT t2 with
   | true=>rw[ho] at hr;exact hr.elim
   | false=>rw[ho] at hr;exact allRows_x (mem:=r) hr i e q
 | (k,.box _ _)::r,hr,i,e,h=>hr.elim
 | (k,.ext _)::r,hr,i,e,h=>hr.elim
theorem allRows_lk:∀ {mem:AM},allRows mem→∀ i t cs,lk mem i≠some (.box t cs)
 | [],_,i,t,cs,h=>by simp[lk] at h
 | (k,.row t2 _ _ _)::r,hr,i,t,cs,h=>by
  rcases lk_cons h with⟨_,q⟩ | ⟨_,q⟩
  ·cases q
  ·simp only[allRows] at hr
   cases ho:ownT t2 with
   | true=>rw[ho] at hr;exact hr.elim
   | false=>rw[ho] at hr;exact allRows_lk (mem:=r) hr i t cs q
 | (k,.box _ _)::r,hr,i,t,cs,h=>hr.elim
 | (k,.ext _)::r,hr,i,t,cs,h=>hr.elim
theorem allRows_own:∀ {mem:AM},allRows mem→∀ i t sz n el,lk mem i=some (.row t sz n el)→ownT t=false
 | [],_,i,t,sz,n,el,h=>by simp[lk] at h
 | (k,.row t2 _ _ _)::r,hr,i,t,sz,n,el,h=>by
  simp only[allRows] at hr
  cases ho:ownT t2 with
  | true=>rw[ho] at hr;exact hr.elim
  | false=>
   rw[ho] at hr
   rcases lk_cons h with⟨_,q⟩ | ⟨_,q⟩
   ·cases q;exact ho
   ·exact allRows_own (mem:=r) hr i t sz n el q
 | (k,.box _ _)::r,hr,i,t,sz,n,el,h=>hr.elim
 | (k,.ext _)::r,hr,i,t,sz,n,el,h=>hr.elim
def blksOk (C:Ctx) (ρ:Nat→Pl) (nx:Nat) (w:World):AM→Prop
 | []=>True
 | (i,b)::r=>(i<nx∧(ρ i).res=false∧BlkOk C ρ nx i w b)∧blksOk C ρ nx w r
theorem blksOk_lk:∀ {mem:AM},blksOk C ρ nx w mem→∀ i b,lk mem i=some b→i<nx∧(ρ i).res=false∧BlkOk C ρ nx i w b
 | [],_,i,b,h=>by simp[lk] at h
 | (k,c)::r,hr,i,b,h=>by
  rcases lk_cons h with⟨rfl,rfl⟩ | ⟨_,q⟩
  ·exact hr.1
  ·exact blksOk_lk hr.2 i b q
theorem MemAt.rows {nt:Nat} (hr:allRows mem) (hb:blksOk { w0:=w,bor:=[],n0:=nx,ρ0:=ρ,nt:=nt } ρ nx w mem):MemAt { w0:=w,bor:=[],n0:=nx,ρ0:=ρ,nt:=nt } ρ mem nx w:=
 ⟨fun i b hi=>⟨(blksOk_lk hb i b hi).1,(blksOk_lk hb i b hi).2.1⟩,fun i b hi=>(blksOk_lk hb i b hi).2.2,fun i j b b' hne hi hj=>by
  refine (blksOk_lk hb i b hi).2.2.apart fun g hg=>?_
  cases b with
  | ext e=>exact absurd hi (allRows_x hr i e)
  | row t sz n el=>have ho:=hg.1;rw[allRows_own hr i t sz n el hi] at ho;cases ho
  | box t cs=>exact absurd hi (allRows_lk hr i t cs),Nat.le_refl _,fun _ _=>rfl,⟨rfl,rfl,rfl,Nat.le_refl _,fun _ _ _=>rfl⟩⟩
def allRo:AM→Prop
 | []=>True
 | (_,.row t _ _ _)::r=>(match ownT t with | false=>allRo r | true=>False)
 | (_,.ext (.deep t _ _ _ _ _))::r=>(match ownT t with | false=>allRo r | true=>False)
 | (_,.ext (.fam _ _))::r=>allRo r
 | (_,.ext (.map _ _ _))::_=>False
 | (_,.box _ _)::_=>False
theorem allRo_lk:∀ {mem:AM},allRo mem→∀ i b,lk mem i=some b→∀ (ρ:Nat→Pl) (j g:Nat),¬ bwr ρ j b g
 | [],_,i,b,h=>by simp[lk] at h
 | (k,.row t2 _ _ _)::r,hr,i,b,h=>by
  simp only[allRo] at hr
  cases ho:ownT t2 with
  | true=>rw[ho] at hr;exact hr.elim
  | false=>
   rw[ho] at hr
   rcases lk_cons h with⟨_,q⟩ | ⟨_,q⟩
   ·subst q;intro ρ j g hg;have:=hg.1;rw[ho] at this;cases this
   ·exact allRo_lk (mem:=r) hr i b q
 | (k,.ext (.deep t2 _ _ _ _ _))::r,hr,i,b,h=>by
  simp only[allRo] at hr
  cases ho:ownT t2 with
  | true=>rw[ho] at hr;exact hr.elim
  | false=>
   rw[ho] at hr
   rcases lk_cons h with⟨_,q⟩ | ⟨_,q⟩
   ·subst q;intro ρ j g hg;have:=hg.1;rw[ho] at this;cases this
   ·exact allRo_lk (mem:=r) hr i b q
 | (k,.ext (.fam _ _))::r,hr,i,b,h=>by
  rcases lk_cons h with⟨_,q⟩ | ⟨_,q⟩
  ·subst q;intro ρ j g hg;exact hg
  ·exact allRo_lk (mem:=r) hr i b q
 | (k,.ext (.map _ _ _))::r,hr,i,b,h=>hr.elim
 | (k,.box _ _)::r,hr,i,b,h=>hr.elim
theorem MemAt.ro {nt:Nat} (hr:allRo mem) (hb:blksOk { w0:=w,bor:=[],n0:=nx,ρ0:=ρ,nt:=nt } ρ nx w mem):MemAt { w0:=w,bor:=[],n0:=nx,ρ0:=ρ,nt:=nt } ρ mem nx w:=
 ⟨fun i b hi=>⟨(blksOk_lk hb i b hi).1,(blksOk_lk hb i b hi).2.1⟩,fun i b hi=>(blksOk_lk hb i b hi).2.2,fun i j b b' hne hi hj=>(blksOk_lk hb i b hi).2.2.apart fun g hg=>absurd hg (allRo_lk hr i b hi ρ i g),Nat.le_refl _,fun _ _=>rfl,⟨rfl,rfl,rfl,Nat.le_refl _,fun _ _ _=>rfl⟩⟩
theorem MemAt.one {nt g i:Nat} {t:TypeId} {cs:List Value} (hr:allRows mem) (hi:i<nx) (hρ:ρ i=⟨some ⟨g,0,none⟩,0,0,false,noSub⟩) (hbx:BlkOk { w0:=w,bor:=[g],n0:=nx,ρ0:=ρ,nt:=nt } ρ nx i w (.box t cs))
  (hb:blksOk { w0:=w,bor:=[g],n0:=nx,ρ0:=ρ,nt:=nt } ρ nx w mem) (hap:∀ j t sz n el,lk mem j=some (.row t sz n el)→n=0∨bno ρ j≠some g):MemAt { w0:=w,bor:=[g],n0:=nx,ρ0:=ρ,nt:=nt } ρ ((i,.box t cs)::mem) nx w:=by
 have hgi:bno ρ i=some g:=by simp[bno,hρ]
 refine⟨fun j b hj=>?_,fun j b hj=>?_,fun j k b b' hne hj hk=>?_,Nat.le_refl _,fun _ _=>rfl,⟨rfl,rfl,rfl,Nat.le_refl _,fun _ _ _=>rfl⟩⟩
 ·rcases lk_cons hj with⟨rfl,rfl⟩ | ⟨_,hj⟩
  ·exact⟨hi,by rw[hρ]⟩
  ·exact⟨(blksOk_lk hb j b hj).1,(blksOk_lk hb j b hj).2.1⟩
 ·rcases lk_cons hj with⟨rfl,rfl⟩ | ⟨_,hj⟩
  ·exact hbx
  ·exact (blksOk_lk hb j b hj).2.2
 ·rcases lk_cons hj with⟨rfl,rfl⟩ | ⟨_,hj⟩
  ·rcases lk_cons hk with⟨rfl,rfl⟩ | ⟨_,hk⟩
   ·exact absurd rfl hne
   ·cases b' with
    | box t2 cs2=>exact absurd hk (allRows_lk hr _ _ _)
    | ext e=>exact absurd hk (allRows_x hr _ _)
    | row t2 sz n el=>
     rcases hap k t2 sz n el hk with h0 | h0
     ·exact .inl h0
     ·exact .inr (by rw[hgi];exact Ne.symm h0)
  ·cases b with
   | box t2 cs2=>exact absurd hj (allRows_lk hr _ _ _)
   | ext e=>exact absurd hj (allRows_x hr _ _)
   | row t2 sz n el=>cases b' with
    | box t3 cs3=>trivial
    | ext e=>intro g hg;have ho:=hg.1;rw[allRows_own hr _ _ _ _ _ hj] at ho;cases ho
    | row t3 sz3 n3 el3=>intro ho;rw[allRows_own hr _ _ _ _ _ hj] at ho;cases ho
end
def bodyOf (f:Func):Code:=match f.body with | some c=>c | none=>.skip
abbrev ptr (i:Nat):Value:=.pointer (some ⟨i,0,none⟩)
abbrev slc (i n c:Nat):Value:=.slice (some ⟨i,0,none⟩) n c
abbrev intRow (l:List Int):ABlk:=.row 3 1 l.length (fun j=>intC (l.getD j 0))
abbrev tapeB (r n cap:Nat) (k:Int):ABlk:=.box 138 [slc r n cap,.int .i64 k]
theorem wrapi {n:Int} (h:-9223372036854775808≤n∧n≤9223372036854775807):IntKind.i64.wrap n=n:=by rw[IntKind.wrap_i64];omega
theorem CSound.val {P : Program} {f : FuncId} {ct : CT} (ent : (P.funcs[f]?).map (fun fn => (fn.name == "runtime.NumGoroutine", fn.body.isNone)) = some (false, false))
  (h:∀ (vs:List Value) (mem:AM) (nx:Nat) (K:Value→AM→Nat→Prop),ct vs mem nx K→∃ v,K v mem nx∧plain1 v∧atom v=true∧∀ (ρ:Nat→Pl) (w:World),Calls P f (vs.map (den ρ)).toArray w fun e w'=>e=.returned v∧Below w.heap.size w w'):CSound P f ct:=
 ⟨ent,fun {C ρ fr mem nx a w vs K} hc hs hv=>by
  obtain⟨v,hK,hp,ha,hcall⟩:=h vs mem nx K hc
  refine (hcall ρ w).mono fun e w' ⟨he,hb⟩=>?_
  have hd:den ρ v=v:=by rw[atom_den ha,den1_plain hp]
  exact⟨v,mem,nx,ρ,by rw[hd];exact he,hK,hs.later hb,by rw[atom_ok ha];exact ok1_plain hp,ExtS.refl _ _⟩⟩
def ctMod:CT:=fun vs mem nx K=>∃ v n,vs=[.int .i64 v,.int .i64 n]∧(1≤n∧n≤2147483648)∧K (.int .i64 (v % n)) mem nx
theorem modOk:CSound Tryz.prog 56 ctMod:=CSound.val (by kernel_rfl) (by
 rintro vs mem nx K ⟨v,n,rfl,hn,hK⟩
 refine⟨_,hK,trivial,rfl,fun ρ w=>?_⟩
 refine (mkMod_any v n w hn.1 hn.2).mono ?_
 rintro e w' ⟨rfl,rfl⟩
 exact⟨rfl,Below.refl _ _⟩)
theorem ft_cons {P:Program} {f:FuncId} {ct:CT} {r:FT} (h:CSound P f ct) (hr:FTok P r):FTok P ((f,ct)::r):=fun g c hl=>by
 rcases lk_cons hl with⟨rfl,rfl⟩ | ⟨_,hl⟩
 ·exact h
 ·exact hr g c hl
theorem ft_nil {P:Program}:FTok P []:=fun g c hl=>by simp[lk] at hl
structure TpAt (w:World) (g:Nat) (A:Option Addr) (cap:Nat) (zs:List Int) (k:Int):Prop where
 row:Rd w (fun b=>b≠g∧b<w.heap.size) A (flat intC zs)
 blk:Blk w g 138 #[.slice A zs.length cap,.int .i64 k]
abbrev Adv (zs:List Int) (k k':Int):Prop:=k≤k'∧k'≤k+1∧(zs.length≠0→k'=k+1)
def NextR (zs:List Int) (n k r k':Int):Prop:=(0≤r∧r<n)∧Adv zs k k'
def nextF:FT:=[(56,ctMod)]
theorem nextFok:FTok Tryz.prog nextF:=ft_cons modOk ft_nil
def nextD:List (Nat×DQ):=[
 (3,{ k:=16,L:=[0,1],pre:=[(0,false),(1,false),(2,false),(3,false),(4,false),(5,false),(6,false),(7,false),(8,false),(9,false),(10,false),(11,false),(12,false),(13,true),(14,true),(15,false)] }),
 (4,{ k:=10,L:=[0,1],pre:=[(0,false),(1,false),(2,false),(3,false),(4,false),(5,false),(6,false),(7,false),(8,false),(9,true)] })]
theorem next_sx (cap:Nat) (zs:List Int) (k n:Int) (hz:zs.length≤400) (hk:0≤k∧k≤1000000) (hn:1≤n∧n≤1000000) :
  sx tt nextF nextD (bodyOf Tryz.f39) (argF 0 [ptr 0,.int .i64 n]) [(0,tapeB 1 zs.length cap k),(1,intRow zs)] 2
   (endx tt [.tmp 4] fun v mem' _=>∃ k',(∃ n' r,[Value.int .i64 n]=[.int .i64 n']∧v=.int .i64 r∧NextR zs n' k r k')∧(plain1 v∧atom v=true)∧lk mem' 0=some (tapeB 1 zs.length cap k')):=by
 refine⟨fun h0=>?_,fun h0=>?_⟩
 ·have hz0:(zs.length:Int)=0:=by simpa using h0
  exact⟨k,⟨n,0,rfl,rfl,⟨by omega,by omega⟩,by omega,by omega,by omega⟩,⟨trivial,rfl⟩,rfl⟩
 ·have hpos:(zs.length:Int)≠0:=by simpa using h0
  refine⟨⟨rfl,hpos⟩,⟨rfl,rfl,trivial⟩,⟨Nat.le_refl _,?i1,?i2⟩,⟨rfl,rfl,trivial⟩,⟨rfl,hpos⟩,⟨rfl,rfl,trivial⟩,?rest⟩
  case i1=>exact Int.tmod_nonneg _ hk.1
  case i2=>exact Int.tmod_lt_of_pos _ (by omega)
  refine⟨_,_,rfl,by decide,?_⟩
  refine⟨_,_,rfl,by omega,?_⟩
  refine⟨k+1,⟨n,_,rfl,rfl,⟨Int.emod_nonneg _ (by omega),Int.emod_lt_of_pos _ (by omega)⟩,by omega,by omega,fun _=>rfl⟩,⟨trivial,rfl⟩,?_⟩
  show some (tapeB 1 zs.length cap (IntKind.i64.wrap (k+1)))=_
  rw[wrapi (by omega)]
theorem tape_calls {f:FuncId} {fn:Func} {F:FT} {D:List (Nat×DQ)} (hF:FTok Tryz.prog F) (hf:(Tryz.prog).funcs[f]?=some fn) (hb:fn.body=some (bodyOf fn)) (hcode:codeB fn.ntmps D (bodyOf fn)=true) {args:List Value} (hn:Nat.ble (args.length+1) fn.ntmps=true) (hargs:∀ v ∈ args,plain1 v∧atom v=true)
  (g:Nat) (A:Option Addr) (cap:Nat) (zs:List Int) (k:Int) (w:World) (ht:TpAt w g A cap zs k) {R:Value→Int→Prop}
  (h:sx tt F D (bodyOf fn) (argF 0 (ptr 0::args)) [(0,tapeB 1 zs.length cap k),(1,intRow zs)] 2 (endx tt fn.results.toList fun v mem' _=>∃ k',R v k'∧(plain1 v∧atom v=true)∧lk mem' 0=some (tapeB 1 zs.length cap k'))) :
  Calls Tryz.prog f (.pointer (some ⟨g,0,none⟩)::args).toArray w fun e w'=>∃ v k',R v k'∧(plain1 v∧atom v=true)∧e=.returned v∧TpAt w' g A cap zs k'∧w.grownBy w' (some g):=by
 let ρ:Nat→Pl:=fun j=>match j with | 0=>⟨some ⟨g,0,none⟩,0,0,false,noSub⟩ | _=>⟨A,1,zs.length,false,noSub⟩
 have hrow:∀ C nx,BlkOk C ρ nx 1 w (intRow zs):=fun C nx=>row_of_rd (enc:=intC) (sz:=1) (fun _=>rfl) (by omega) (fun x v hv=>by simp[intC] at hv;subst hv;trivial) 0 rfl ht.row (fun b hb=>hb.2)
 have hm:=MemAt.one (ρ:=ρ) (nx:=2) (nt:=fn.ntmps) (w:=w) (mem:=[(1,intRow zs)]) (g:=g) (i:=0) (t:=138) (cs:=[slc 1 zs.length cap,.int .i64 k]) trivial (by omega) rfl
  ⟨g,rfl,by
   have:=ht.blk
   simpa [den1,dA_whole,dS_whole,ρ] using this,.inr (by simp),fun v hv=>by
    simp at hv
    rcases hv with rfl | rfl
    ·exact⟨Nat.lt_succ_self 1,rfl⟩
    ·trivial⟩ ⟨⟨by omega,rfl,hrow _ _⟩,trivial⟩ (fun j t sz n el hj=>by
   rcases lk_cons hj with⟨rfl,q⟩ | ⟨_,q⟩
   ·cases q
    by_cases h0:zs.length=0
    ·exact .inl h0
    ·obtain⟨b,off,x,hA,hb,-,-⟩:=ht.row.row (enc:=intC) (sz:=1) (fun _=>rfl) (by omega) (k:=0) (by omega)
     refine .inr ?_
     subst hA
     simp[bno,ρ]
     exact hb.1
   ·simp[lk] at q)
 have hden:∀ v ∈ args,den ρ v=v:=fun v hv=>by rw[atom_den (hargs v hv).2,den1_plain (hargs v hv).1]
 have hargs2:(ptr 0::args).map (den ρ)=.pointer (some ⟨g,0,none⟩)::args:=by
  rw[List.map_cons]
  refine congr (congrArg List.cons rfl) ?_
  conv=>rhs;rw[← List.map_id args]
  exact List.map_congr_left fun v hv=>hden v hv
 rw[← hargs2]
 refine (calls_sx ttOk hF mixed hf hb hcode (vs:=ptr 0::args) hn ⟨rfl,rfl⟩ rfl hm (fun v hv=>?_) h).mono ?_
 ·rcases List.mem_cons.1 hv with rfl | hv
  ·exact⟨⟨Nat.zero_lt_succ 1,rfl⟩,⟨g,0,rfl⟩,fun k hk=>by cases hk⟩
  ·rw[atom_ok (hargs v hv).2];exact ok1_plain (hargs v hv).1
 ·rintro e w' ⟨v,mem',nx',ρ',rfl,⟨k',hr,hpl,hlk⟩,-,hm'⟩
  have e0:ρ' 0=ρ 0:=hm'.low 0 (Nat.zero_lt_succ 1)
  have e1:ρ' 1=ρ 1:=hm'.low 1 (Nat.lt_succ_self 1)
  obtain⟨g',hA,hb,-,-⟩:=hm'.blk 0 _ hlk
  rw[e0] at hA
  cases hA
  have hgr:w.grownBy w' (some g):=⟨hm'.rest.os,hm'.rest.tape,hm'.rest.output,hm'.rest.size,fun b hlt hne=>hm'.rest.block b hlt (by simp;intro q;exact hne (by rw[q]))⟩
  refine⟨v,k',hr,hpl,by rw[atom_den hpl.2,den1_plain hpl.1],⟨?_,?_⟩,hgr⟩
  ·exact (ht.row.keep fun b hb=>hgr.block b hb.2 (by intro q;injection q with q;exact hb.1 q)).more fun b hb=>⟨hb.1,Nat.lt_of_lt_of_le hb.2 hgr.size⟩
  ·simpa [den1,dA_whole,dS_whole,e1,ρ] using hb
theorem Sat.grownBox {C:Ctx} {ρ:Nat→Pl} {fr:AF} {mem:AM} {nx:Nat} {a:Act} {w w':World} (h:Sat C ρ fr mem nx a w) {i g:Nat} {t t':TypeId} {cs cs':List Value} (hi:lk mem i=some (.box t cs)) (hA:(ρ i).A=some ⟨g,0,none⟩) (hg:w.grownBy w' (some g))
  (hb:Blk w' g t' (cs'.map (den1 ρ)).toArray) (hcs:∀ v ∈ cs',ok1 ρ nx v):Sat C ρ fr ((i,.box t' cs')::mem) nx a w':=by
 have hm:MemAt (Ctx.of w ρ nx [i] 0) ρ [(i,.box t' cs')] nx w':=by
  refine⟨fun j b hj=>?_,fun j b hj=>?_,fun j k b b' hne hj hk=>?_,Nat.le_refl _,fun _ _=>rfl,⟨hg.os,hg.tape,hg.output,hg.size,fun b hlt hn=>hg.block b hlt (by
   intro q
   injection q with q
   subst q
   exact hn (List.mem_filterMap.2 ⟨i,by simp,by simp[bno,hA]⟩))⟩⟩
  ·rcases lk_cons hj with⟨rfl,rfl⟩ | ⟨_,q⟩
   ·exact h.mlt _ _ (lk_app hi)
   ·simp[lk] at q
  ·rcases lk_cons hj with⟨rfl,rfl⟩ | ⟨_,q⟩
   ·exact⟨g,hA,hb,.inr (List.mem_filterMap.2 ⟨i,by simp,by simp[bno,hA]⟩),hcs⟩
   ·simp[lk] at q
  ·rcases lk_cons hj with⟨rfl,rfl⟩ | ⟨_,q⟩
   ·rcases lk_cons hk with⟨rfl,rfl⟩ | ⟨_,q⟩
    ·exact absurd rfl hne
    ·simp[lk] at q
   ·simp[lk] at q
 refine h.after (keep:=[(i,.box t' cs')]) hm (fun j hj=>by simp at hj;subst hj;exact⟨t,cs,hi⟩) (fun j b hj=>⟨hj,?_⟩) (fun j hj=>by simp at hj;subst hj;exact⟨t',cs',lk_same _ _ _⟩) (fun j t sz n el _ hj=>?_)
 ·rcases lk_cons hj with⟨rfl,rfl⟩ | ⟨_,q⟩
  ·exact .inl (by simp)
  ·simp[lk] at q
 ·rcases lk_cons hj with⟨_,q⟩ | ⟨_,q⟩
  ·cases q
  ·simp[lk] at q
theorem Sat.tape {C:Ctx} {ρ:Nat→Pl} {fr:AF} {mem:AM} {nx:Nat} {a:Act} {w:World} (h:Sat C ρ fr mem nx a w) {i r cap:Nat} {zs:List Int} {k:Int} (hi:lk mem i=some (tapeB r zs.length cap k)) (hr:lk mem r=some (intRow zs)) :
  ∃ g,(ρ i).A=some ⟨g,0,none⟩∧TpAt w g (ρ r).A cap zs k∧ok1 ρ nx (slc r zs.length cap):=by
 obtain⟨g,hA,hb,-,hcs⟩:=h.blk i _ (lk_app hi)
 have hne:i≠r:=by rintro rfl;rw[hi] at hr;cases hr
 have hap:=h.sep i r _ _ hne (lk_app hi) (lk_app hr)
 refine⟨g,hA,⟨rd_of_row (enc:=intC) (sz:=1) (fun _=>rfl) (by omega) (h.blk r _ (lk_app hr)) fun hl b off hAr hlt=>⟨?_,hlt⟩,by simpa [den1,dA_whole,dS_whole] using hb⟩,hcs _ (by simp)⟩
 rintro rfl
 rcases hap with h0 | h0
 ·exact hl h0
 ·exact h0 (by simp[bno,hA,hAr])
def ctTape (R:List Int→List Value→Int→Value→Int→Prop) (pre:List Value→Int→Prop):CT:=fun vs mem nx K=>∃ i r cap zs k args,vs=ptr i::args∧(lk mem i=some (tapeB r zs.length cap k)∧lk mem r=some (intRow zs))∧(zs.length≤400∧0≤k∧k≤1000000)∧pre args k∧∀ z k',R zs args k z k'→K z ((i,tapeB r zs.length cap k')::mem) nx
theorem tapeOk {f : FuncId} {R : List Int → List Value → Int → Value → Int → Prop} {pre : List Value → Int → Prop} (ent : ((Tryz.prog).funcs[f]?).map (fun fn => (fn.name == "runtime.NumGoroutine", fn.body.isNone)) = some (false, false))
  (hpre:∀ args k,pre args k→∀ v ∈ args,plain1 v∧atom v=true)
  (h:∀ args g A cap zs k w,zs.length≤400→0≤k→k≤1000000→pre args k→TpAt w g A cap zs k→Calls Tryz.prog f (.pointer (some ⟨g,0,none⟩)::args).toArray w fun e w'=>∃ v k',R zs args k v k'∧(plain1 v∧atom v=true)∧e=.returned v∧TpAt w' g A cap zs k'∧w.grownBy w' (some g)):CSound Tryz.prog f (ctTape R pre):=
 ⟨ent,fun {C ρ fr mem nx a w vs K} hc hs hv=>by
  obtain⟨i,r,cap,zs,k,args,rfl,⟨hi,hr⟩,⟨hz,hk0,hk1⟩,hp,hK⟩:=hc
  obtain⟨g,hA,ht,hok⟩:=hs.tape hi hr
  have hargs:=hpre args k hp
  have hvs:(ptr i::args).map (den ρ)=.pointer (some ⟨g,0,none⟩)::args:=by
   rw[List.map_cons]
   refine congr (congrArg List.cons ?_) ?_
   ·simp[den,den2,den1,dA_whole,dS_whole,hA]
   ·conv=>rhs;rw[← List.map_id args]
    exact List.map_congr_left fun v hv=>by rw[atom_den (hargs v hv).2,den1_plain (hargs v hv).1];rfl
  rw[hvs]
  refine (h args g (ρ r).A cap zs k w hz hk0 hk1 hp ht).mono ?_
  rintro e w' ⟨v,k',hR,hpl,rfl,ht',hg⟩
  refine⟨v,_,nx,ρ,by rw[atom_den hpl.2,den1_plain hpl.1],hK v k' hR,hs.grownBox (cs':=[slc r zs.length cap,.int .i64 k']) hi hA hg ?_ ?_,by rw[atom_ok hpl.2];exact ok1_plain hpl.1,ExtS.refl _ _⟩
  ·simpa [den1,dA_whole,dS_whole] using ht'.blk
  ·intro u hu
   simp at hu
   rcases hu with rfl | rfl
   ·exact hok
   ·trivial⟩
def preInt (lo hi:Int) (args:List Value) (k:Int):Prop:=∃ n,args=[.int .i64 n]∧lo≤n∧n≤hi
theorem preInt_plain {lo hi:Int} (args:List Value) (k:Int) (h:preInt lo hi args k):∀ v ∈ args,plain1 v∧atom v=true:=by
 obtain⟨n,rfl,-⟩:=h
 intro v hv
 simp at hv
 subst hv
 exact⟨trivial,rfl⟩
def ctNext:CT:=ctTape (fun zs args k z k'=>∃ n r,args=[.int .i64 n]∧z=.int .i64 r∧NextR zs n k r k') (preInt 1 1000000)
theorem nextOk:CSound Tryz.prog 39 ctNext:=tapeOk (by kernel_rfl) preInt_plain (by
 rintro args g A cap zs k w hz hk0 hk1 ⟨n,rfl,hn⟩ ht
 refine tape_calls nextFok Tryz.func39 rfl (D:=nextD) (by kernel_rfl) rfl (preInt_plain _ k ⟨n,rfl,hn⟩) g A cap zs k w ht (R:=fun z k'=>∃ n' r,[Value.int .i64 n]=[.int .i64 n']∧z=.int .i64 r∧NextR zs n' k r k') ?_
 exact (next_sx cap zs k n hz ⟨hk0,hk1⟩ hn))
def tpF:FT:=[(39,ctNext)]
theorem tpFok:FTok Tryz.prog tpF:=ft_cons nextOk ft_nil
def ctYes:CT:=ctTape (fun zs args k z k'=>∃ b,z=.bool b∧Adv zs k k') (preInt 1 1000000)
theorem yesOk:CSound Tryz.prog 41 ctYes:=tapeOk (by kernel_rfl) preInt_plain (by
 rintro args g A cap zs k w hz hk0 hk1 ⟨n,rfl,hn⟩ ht
 refine tape_calls tpFok Tryz.func41 rfl (D:=[]) (by kernel_rfl) rfl (preInt_plain _ k ⟨n,rfl,hn⟩) g A cap zs k w ht (R:=fun z k'=>∃ b,z=.bool b∧Adv zs k k') ?_
 refine⟨0,1,cap,zs,k,_,rfl,⟨rfl,rfl⟩,⟨hz,hk0,hk1⟩,⟨n,rfl,hn⟩,?_⟩
 rintro z k' ⟨n',r,hnn,rfl,hr⟩
 exact⟨k',⟨_,rfl,hr.2⟩,⟨trivial,rfl⟩,rfl⟩)
def preRange (args:List Value) (k:Int):Prop:=∃ lo hi,args=[.int .i64 lo,.int .i64 hi]∧-100000≤lo∧lo≤hi∧hi≤100000
theorem preRange_plain (args:List Value) (k:Int) (h:preRange args k):∀ v ∈ args,plain1 v∧atom v=true:=by
 obtain⟨n,m,rfl,-⟩:=h
 intro v hv
 simp at hv
 rcases hv with rfl | rfl
 ·exact⟨trivial,rfl⟩
 ·exact⟨trivial,rfl⟩
def RangeR (zs:List Int) (args:List Value) (k:Int) (z:Value) (k':Int):Prop:=∃ lo hi r,args=[.int .i64 lo,.int .i64 hi]∧z=.int .i64 r∧(lo≤r∧r≤hi)∧Adv zs k k'
def ctRange:CT:=ctTape RangeR preRange
theorem rangeOk:CSound Tryz.prog 40 ctRange:=tapeOk (by kernel_rfl) preRange_plain (by
 rintro args g A cap zs k w hz hk0 hk1 ⟨lo,hi,rfl,h1,h2,h3⟩ ht
 refine tape_calls tpFok Tryz.func40 rfl (D:=[]) (by kernel_rfl) rfl (preRange_plain _ k ⟨lo,hi,rfl,h1,h2,h3⟩) g A cap zs k w ht (R:=fun z k'=>RangeR zs _ k z k') ?_
 refine⟨0,1,cap,zs,k,_,rfl,⟨rfl,rfl⟩,⟨hz,hk0,hk1⟩,⟨_,rfl,?_⟩,?_⟩
 ·rw[wrapi (n:=hi-lo) (by omega),wrapi (by omega)];omega
 ·rintro z k' ⟨n',r,hnn,rfl,hr⟩
  simp only[List.cons.injEq,Value.int.injEq,and_true,true_and] at hnn
  rw[wrapi (n:=hi-lo) (by omega),wrapi (by omega)] at hnn
  subst hnn
  have hr1:=hr.1
  refine⟨k',⟨lo,hi,IntKind.i64.wrap (lo+r),rfl,rfl,?_,hr.2⟩,⟨trivial,rfl⟩,rfl⟩
  rw[wrapi (by omega)];omega)
theorem flat_intH (l:List Int):flat intC l=l.map (Value.int .i64):=by
 induction l with
 | nil=>rfl
 | cons a l ih=>simp only[flat,List.flatMap_cons,intC] at ih ⊢;simp[ih]
def ctTapeNew:CT:=fun vs mem nx K=>∃ r cap zs,vs=[slc r (zs:List Int).length cap]∧lk mem r=some (intRow zs)∧zs.length≤400∧K (ptr nx) ((nx,tapeB r zs.length cap 0)::mem) (nx+1)
theorem tapeNewOk:CSound Tryz.prog 37 ctTapeNew:=⟨by kernel_rfl,fun {C ρ fr mem nx a w vs K} hc hs hv=>by
 obtain⟨r,cap,zs,rfl,hr,hz,hK⟩:=hc
 have hrd:=rd_of_row (enc:=intC) (sz:=1) (fun _=>rfl) (by omega) (hs.blk r _ (lk_app hr)) (S:=(·<w.heap.size)) (fun _ b off _ hlt=>hlt)
 rw[flat_intH] at hrd
 have hvs:[slc r zs.length cap].map (den ρ)=[.slice (ρ r).A zs.length cap]:=by simp[den,den2,den1,dA_whole,dS_whole]
 rw[hvs]
 refine (mkTape_any (ρ r).A cap zs w hz hrd).mono ?_
 rintro e w' ⟨rfl,ht,hb⟩
 obtain⟨e1,e2⟩:=ptr_new (ρ:=ρ) (nx:=nx) w.heap.size
 have hrn:=hs.mlt r _ (lk_app hr)
 have hok:ok1 (setPl ρ nx ⟨some ⟨w.heap.size,0,none⟩,0,0,false,noSub⟩) (nx+1) (slc r zs.length cap):=⟨by have:=hrn.1;exact Nat.lt_succ_of_lt this,by rw[setPl_lt ρ _ hrn.1];exact hrn.2⟩
 refine⟨_,_,_,setPl ρ nx ⟨some ⟨w.heap.size,0,none⟩,0,0,false,noSub⟩,by rw[e1],hK,hs.add hb ⟨w.heap.size,by rw[setPl_same],?_,.inl hs.rest.size,?_⟩ (fun g hg=>by simp at hg;omega) rfl,e2,ExtS.set _ _ _⟩
 ·have hA:(setPl ρ nx ⟨some ⟨w.heap.size,0,none⟩,0,0,false,noSub⟩ r).A=(ρ r).A:=by rw[setPl_lt ρ _ hrn.1]
  simpa [den1,dA_whole,dS_whole,hA] using ht.blk
 ·intro u hu
  simp at hu
  rcases hu with rfl | rfl
  ·exact hok
  ·trivial⟩
def preNone (args:List Value) (k:Int):Prop:=args=[]
theorem preNone_plain (args:List Value) (k:Int) (h:preNone args k):∀ v ∈ args,plain1 v∧atom v=true:=by
 cases h;intro v hv;cases hv
def moreD:List (Nat×DQ):=[(1,{ k:=10,L:=[0],pre:=[(0,false),(1,false),(2,false),(3,false),(4,false),(5,false),(6,false),(7,false),(8,false),(9,false)] })]
/-! What holds of every reached state. No program in sight. -/
structure TsInv (c:Cfg) (t:TS):Prop where
 home:-1≤t.home∧t.home<c.cells.length
 standby:-1≤t.standby∧t.standby<c.cells.length
 next:-1≤t.next∧t.next<c.cells.length
 target:-1≤t.target∧t.target<c.cells.length
 epoch:0≤t.epoch∧t.epoch≤1048576
 wcell:-1≤t.win.cell∧t.win.cell<c.cells.length
 wepoch:0≤t.win.epoch∧t.win.epoch≤1048576
 wver:0≤t.win.version∧t.win.version<c.versions.length
 wsince:0≤t.win.since∧t.win.since≤1073741824
 wtill:0≤t.win.till∧t.win.till≤1073741824
 placed:t.placed=true→0≤t.home
 shed:t.shed=true→t.placed=true
structure CsInv (c:Cfg) (lo hi:Int) (x:CS):Prop where
 mode:1≤x.mode∧x.mode≤3
 running:0≤x.running∧x.running<c.versions.length
 wanted:0≤x.wanted∧x.wanted<c.versions.length
 since:0≤x.since∧x.since≤1073741824
 runs:(verAt c x.running).1≤lo∧hi≤(verAt c x.running).2
 wants:(verAt c x.wanted).1≤lo∧hi≤(verAt c x.wanted).2
structure StInv (c:Cfg) (s:St):Prop where
 lt:s.tenants.length=c.tenants.length
 lc:s.cells.length=c.cells.length
 tick:0≤s.tick∧s.tick≤1073741824
 count:0≤s.count∧s.count≤4096
 proven:0≤s.proven∧s.proven<1073741824
 evac:0≤s.evac∧s.evac<16
 low:0≤s.low∧s.low≤s.high∧s.high≤s.low+1∧s.high≤30
 ten:∀ t ∈ s.tenants,TsInv c t
 cel:∀ x ∈ s.cells,CsInv c s.low s.high x
theorem verAt_zero {c:Cfg} (hV:CfgV c):(verAt c 0).1=0∧0≤(verAt c 0).2:=by
 have h:=hV.nv
 have h0:c.versions[0]?=some c.versions[0]:=List.getElem?_eq_getElem (by omega)
 have h1:=hV.ver 0 _ h0
 unfold verAt
 rw[show (0:Int).toNat=0 from rfl,getD_some h0]
 simp[verOk] at h1
 omega
theorem stNew_inv {c:Cfg} (hV:CfgV c):StInv c (stNew c):=by
 have h:=hV.nv
 have hz:=verAt_zero hV
 refine⟨by simp[stNew],by simp[stNew],by simp[stNew],by simp[stNew],by simp[stNew],by simp[stNew],by simp[stNew],fun t ht=>?_,fun x hx=>?_⟩
 ·obtain rfl:=List.eq_of_mem_replicate (show t ∈ List.replicate c.tenants.length tsNew from ht)
  constructor<;>simp[tsNew]<;>omega
 ·obtain rfl:=List.eq_of_mem_replicate (show x ∈ List.replicate c.cells.length csNew from hx)
  constructor<;>simp[csNew,stNew]<;>omega
theorem tsAt_mem {s:St} {i:Int} (h0:0≤i) (h1:i<s.tenants.length):s.tenants[i.toNat]?=some (tsAt s i)∧tsAt s i ∈ s.tenants:=by
 have h:i.toNat<s.tenants.length:=by omega
 have e:=List.getElem?_eq_getElem h
 have:tsAt s i=s.tenants[i.toNat]:=getD_some e
 rw[this]
 exact⟨e,List.getElem_mem h⟩
theorem csAt_mem {s:St} {i:Int} (h0:0≤i) (h1:i<s.cells.length):s.cells[i.toNat]?=some (csAt s i)∧csAt s i ∈ s.cells:=by
 have h:i.toNat<s.cells.length:=by omega
 have e:=List.getElem?_eq_getElem h
 have:csAt s i=s.cells[i.toNat]:=getD_some e
 rw[this]
 exact⟨e,List.getElem_mem h⟩
theorem orBit_lt {a i:Int} {m:Nat} (h0:0≤a) (h1:a<2 ^ m) (hi:i.toNat<m):0≤orBit a i∧orBit a i<2 ^ m:=by
 obtain⟨n,rfl⟩:=Int.eq_ofNat_of_zero_le h0
 have hn:n<2 ^ m:=by exact_mod_cast h1
 have h2:1 <<< i.toNat<2 ^ m:=by rw[Nat.one_shiftLeft];exact Nat.pow_lt_pow_right (by omega) hi
 have:=Nat.or_lt_two_pow hn h2
 unfold orBit
 rw[Int.toNat_natCast]
 refine⟨Int.natCast_nonneg _,?_⟩
 exact_mod_cast this
theorem flipBit_lt {a i:Int} {m:Nat} (h0:0≤a) (h1:a<2 ^ m) (hi:i.toNat<m):0≤flipBit a i∧flipBit a i<2 ^ m:=by
 obtain⟨n,rfl⟩:=Int.eq_ofNat_of_zero_le h0
 have hn:n<2 ^ m:=by exact_mod_cast h1
 have h2:1 <<< i.toNat<2 ^ m:=by rw[Nat.one_shiftLeft];exact Nat.pow_lt_pow_right (by omega) hi
 have:=Nat.xor_lt_two_pow hn h2
 unfold flipBit
 rw[Int.toNat_natCast]
 refine⟨Int.natCast_nonneg _,?_⟩
 exact_mod_cast this
structure Acc (c:Cfg) (s:St) (e:Ent):Prop where
 ent:entV c e=true
 cnt:s.count<4096
 tick:s.tick≤e.tick
 kind:kindE c s e=0
theorem acc_of {c:Cfg} {s:St} {e:Ent} (h:refusedE c s e=0):Acc c s e:=by
 unfold refusedE at h
 by_cases h1:entV c e=false
 ·rw[if_pos h1] at h;omega
 rw[if_neg h1] at h
 by_cases h2:4096≤s.count
 ·rw[if_pos h2] at h;omega
 rw[if_neg h2] at h
 by_cases h3:e.tick<s.tick
 ·rw[if_pos h3] at h;omega
 rw[if_neg h3] at h
 exact⟨by simpa using h1,by omega,by omega,h⟩
theorem ent_kind {c:Cfg} {e:Ent} (h:entV c e=true):e.kind=1∨e.kind=2∨e.kind=3∨e.kind=4∨e.kind=5∨e.kind=6∨e.kind=7∨e.kind=8∨e.kind=9∨e.kind=10∨e.kind=11∨e.kind=12∨e.kind=13∨e.kind=14∨e.kind=15∨e.kind=16:=by
 have:inR e.kind 1 16=true:=by
  unfold entV entOk at h
  simp only[Bool.and_eq_true] at h
  exact h.1.1.1.1.1.1.1.1.1
 simp[inR] at this
 omega
theorem ent_rng {c:Cfg} {e:Ent} (h:entV c e=true):(0≤e.tick∧e.tick≤1073741824)∧inS e.tenant (fT c.tenants.length e.kind)=true∧inS e.cell (fC c.cells.length e.kind)=true∧inS e.other (fO c.cells.length c.regions e.kind)=true∧
  inS e.epoch (fE e.kind)=true∧inS e.since (fW e.kind)=true∧inS e.till (fW e.kind)=true∧inS e.n (fN c.versions.length e.kind)=true∧(e.kind≠1∨e.other≠e.cell):=by
 unfold entV entOk at h
 simp only[Bool.and_eq_true] at h
 obtain⟨⟨⟨⟨⟨⟨⟨⟨⟨h1,h2⟩,h3⟩,h4⟩,h5⟩,h6⟩,h7⟩,h8⟩,h9⟩,h10⟩:=h
 refine⟨by simpa [inR] using h2,h3,h4,h5,h6,h7,h8,h9,by simpa using h10⟩
theorem inv_setTen {c:Cfg} {s:St} (h:StInv c s) {e:Ent} (hc:s.count<4096) (ht:s.tick≤e.tick) (ht2:e.tick≤1073741824) {i:Int} {t:TS} (hT:TsInv c t):StInv c (setTen (stamped s e) i t):=by
 refine⟨?_,h.lc,⟨by have:=h.tick;show 0≤e.tick;omega,ht2⟩,⟨by have:=h.count;show 0≤s.count+1;omega,by show s.count+1≤4096;omega⟩,h.proven,h.evac,h.low,fun t' ht'=>?_,h.cel⟩
 ·show (s.tenants.set i.toNat t).length=_
  rw[List.length_set];exact h.lt
 ·rcases List.mem_or_eq_of_mem_set (show t' ∈ s.tenants.set i.toNat t from ht') with h1 | rfl
  ·exact h.ten _ h1
  ·exact hT
theorem inv_setCel {c:Cfg} {s:St} (h:StInv c s) {e:Ent} (hc:s.count<4096) (ht:s.tick≤e.tick) (ht2:e.tick≤1073741824) {i:Int} {x:CS} (hX:CsInv c s.low s.high x):StInv c (setCel (stamped s e) i x):=by
 refine⟨h.lt,?_,⟨by have:=h.tick;show 0≤e.tick;omega,ht2⟩,⟨by have:=h.count;show 0≤s.count+1;omega,by show s.count+1≤4096;omega⟩,h.proven,h.evac,h.low,h.ten,fun t' ht'=>?_⟩
 ·show (s.cells.set i.toNat x).length=_
  rw[List.length_set];exact h.lc
 ·rcases List.mem_or_eq_of_mem_set (show t' ∈ s.cells.set i.toNat x from ht') with h1 | rfl
  ·exact h.cel _ h1
  ·exact hX
theorem StInv.step {c:Cfg} {s:St} {e:Ent} (hV:CfgV c) (h:StInv c s) (hr:refusedE c s e=0):StInv c (effOf s e):=by
 have ha:=acc_of hr
 have hk:=ent_kind ha.ent
 obtain⟨hti,hT,hC,hO,hE,hS,hU,hN,hne⟩:=ent_rng ha.ent
 have hkd:=ha.kind
 have hcnt:=ha.cnt
 have htk:=ha.tick
 have hlt:=h.lt
 have hlc:=h.lc
 have hnc:=hV.nc
 have hnv:=hV.nv
 have hreg:=hV.reg
 clear ha hr
 obtain⟨kind,tick,tenant,cell,other,epoch,since,till,n⟩:=e
 simp only at *
 by_cases h8:kind≤8
 ·have hten:0≤tenant∧tenant<s.tenants.length:=by
   have:fT c.tenants.length kind=(0,(c.tenants.length:Int)-1):=if_pos h8
   rw[this] at hT
   simp[inS,inR] at hT
   omega
  have hti0:=h.ten _ (tsAt_mem hten.1 hten.2).2
  have eff:effOf s ⟨kind,tick,tenant,cell,other,epoch,since,till,n⟩=setTen (stamped s ⟨kind,tick,tenant,cell,other,epoch,since,till,n⟩) tenant (tenEff (tsAt s tenant) ⟨kind,tick,tenant,cell,other,epoch,since,till,n⟩):=by
   unfold effOf
   exact if_pos h8
  rw[eff]
  refine inv_setTen h hcnt htk hti.2 ?_
  clear eff
  have hk':kind=1∨kind=2∨kind=3∨kind=4∨kind=5∨kind=6∨kind=7∨kind=8:=by omega
  obtain⟨i1,i2,i3,i4,i5,i6,i7,i8,i9,i10,i11,i12⟩:=hti0
  generalize htd:tsAt s tenant=t at *
  rcases hk' with rfl | rfl | rfl | rfl | rfl | rfl | rfl | rfl
  ·simp[inS,inR,fC,fO] at hC hO
   refine⟨?_,?_,i3,i4,i5,i6,i7,i8,i9,i10,?_,?_⟩<;>simp[tenEff]<;>omega
  ·simp[inS,inR,fC,fE,fW,fN] at hC hE hS hU hN
   simp only[tenEff,grantT]
   have hpl:t.placed=true:=by
    cases hp:t.placed with
    | true=>rfl
    | false=>simp[kindE,grantE,htd,hp] at hkd
   simp only[show ¬ ((2:Int)=1) by omega,if_false,if_true]
   split
   ·constructor<;>(try simp only)<;>first | omega | (intro hh;first | omega | exact i11 hh | exact i12 hh | exact hpl | exact hpl hn | cases hh)
   ·split
    ·constructor<;>(try simp only)<;>first | omega | (intro hh;first | omega | exact i11 hh | exact i12 hh | exact hpl | exact hpl hn | cases hh)
    ·constructor<;>(try simp only)<;>first | omega | (intro hh;first | omega | exact i11 hh | exact i12 hh | exact hpl | exact hpl hn | cases hh)
  ·refine⟨i1,i2,i3,i4,i5,i6,i7,i8,?_,?_,i11,i12⟩<;>simp[tenEff,cutW]<;>omega
  ·simp[inS,inR,fC] at hC
   refine⟨i1,i2,?_,i4,i5,i6,i7,i8,i9,i10,i11,i12⟩<;>simp[tenEff]<;>omega
  ·simp[inS,inR,fC] at hC
   refine⟨i1,?_,?_,i4,i5,i6,i7,i8,i9,i10,i11,i12⟩<;>simp[tenEff]<;>omega
  ·simp[inS,inR,fC] at hC
   refine⟨i1,i2,i3,?_,i5,i6,i7,i8,i9,i10,i11,i12⟩<;>simp[tenEff]<;>omega
  ·refine⟨i1,i2,i3,?_,i5,i6,i7,i8,i9,i10,i11,i12⟩<;>simp[tenEff]<;>omega
  ·have hpl:n=1→t.placed=true:=by
    intro hn
    cases hp:t.placed with
    | true=>rfl
    | false=>simp[kindE,shedE,htd,hp,hn] at hkd
   by_cases hn:n=1
   ·simp only[tenEff,show ¬ ((8:Int)=1) by omega,show ¬ ((8:Int)=2) by omega,show ¬ ((8:Int)=3) by omega,show ¬ ((8:Int)=4) by omega,show ¬ ((8:Int)=5) by omega,show ¬ ((8:Int)=6) by omega,show ¬ ((8:Int)=7) by omega,if_false,if_true,hn]
    constructor<;>(try simp only)<;>first | omega | (intro hh;first | omega | exact i11 hh | exact i12 hh | exact hpl | exact hpl hn | cases hh)
   ·simp only[tenEff,show ¬ ((8:Int)=1) by omega,show ¬ ((8:Int)=2) by omega,show ¬ ((8:Int)=3) by omega,show ¬ ((8:Int)=4) by omega,show ¬ ((8:Int)=5) by omega,show ¬ ((8:Int)=6) by omega,show ¬ ((8:Int)=7) by omega,if_false,if_true,hn]
    exact⟨i1,i2,i3,i4,i5,i6,i7,i8,i9,i10,i11,fun h=>by cases h⟩
 ·by_cases h11:kind≤11
  ·have eff:effOf s ⟨kind,tick,tenant,cell,other,epoch,since,till,n⟩=setCel (stamped s ⟨kind,tick,tenant,cell,other,epoch,since,till,n⟩) cell (celEff (csAt s cell) ⟨kind,tick,tenant,cell,other,epoch,since,till,n⟩):=by
    unfold effOf
    rw[if_neg h8,if_pos h11]
   have hcel:0≤cell∧cell<s.cells.length:=by
    have:fC c.cells.length kind=(0,(c.cells.length:Int)-1):=if_pos (by omega)
    rw[this] at hC
    simp[inS,inR] at hC
    omega
   rw[eff]
   refine inv_setCel h hcnt htk hti.2 ?_
   have hx:=h.cel _ (csAt_mem hcel.1 hcel.2).2
   generalize hxd:csAt s cell=x at *
   obtain⟨i1,i2,i3,i4,i5,i6⟩:=hx
   have hk':kind=9∨kind=10∨kind=11:=by omega
   rcases hk' with rfl | rfl | rfl
   ·simp[inS,inR,fN] at hN
    refine⟨?_,i2,i3,?_,i5,i6⟩<;>simp[celEff]<;>omega
   ·simp[inS,inR,fN] at hN
    have hw:(verAt c n).1≤s.low∧s.high≤(verAt c n).2:=by
     simp[kindE,wantE,hxd] at hkd
     split at hkd
     ·omega
     ·split at hkd
      ·omega
      ·omega
    refine⟨i1,i2,?_,i4,i5,?_⟩
    ·simp[celEff];omega
    ·exact hw
   ·simp[inS,inR,fN] at hN
    have hw:n=x.wanted:=by
     simp[kindE,runsE,hxd] at hkd
     by_cases hh:x.wanted=n
     ·exact hh.symm
     ·simp[hh] at hkd
    subst hw
    exact⟨i1,i3,i3,⟨by simp[celEff];omega,by simp[celEff];omega⟩,i6,i6⟩
  ·have hk':kind=12∨kind=13∨kind=14∨kind=15∨kind=16:=by omega
   have htick:0≤tick∧tick≤1073741824:=hti
   have hcn:0≤s.count+1∧s.count+1≤4096:=by have:=h.count;omega
   rcases hk' with rfl | rfl | rfl | rfl | rfl
   ·simp[inS,inR,fN] at hN
    have hp:=h.proven
    have:=orBit_lt (a:=s.proven) (i:=n) (m:=30) hp.1 (by simpa using hp.2) (by omega)
    exact⟨hlt,hlc,htick,hcn,by simpa [effOf,stamped] using this,h.evac,h.low,h.ten,h.cel⟩
   ·simp[inS,inR,fO] at hO
    have hp:=h.evac
    have:=flipBit_lt (a:=s.evac) (i:=other) (m:=4) hp.1 (by simpa using hp.2) (by omega)
    exact⟨hlt,hlc,htick,hcn,h.proven,by simpa [effOf,stamped] using this,h.low,h.ten,h.cel⟩
   ·have hlo:=h.low
    have hx:¬ s.low<s.high∧¬ 30≤s.high∧s.cells.any (blockB c s)=false:=by
     simp only[kindE,expandE] at hkd
     simp at hkd
     by_cases h1:s.low<s.high
     ·simp[h1] at hkd
     ·by_cases h2:30≤s.high
      ·simp[h1,h2] at hkd
      ·refine⟨h1,h2,?_⟩
       rw[Bool.eq_false_iff]
       intro h3
       obtain⟨x,hx,hb⟩:=List.any_eq_true.1 h3
       simp only[h1,h2,if_false] at hkd
       rw[if_pos ⟨x,hx,hb⟩] at hkd
       omega
    refine⟨hlt,hlc,htick,hcn,h.proven,h.evac,?_,h.ten,fun x hx'=>?_⟩
    ·simp[effOf,stamped];omega
    ·have hb:blockB c s x=false:=by
      rw[Bool.eq_false_iff]
      intro hb
      have:=List.any_eq_true.2 ⟨x,(show x ∈ s.cells from hx'),hb⟩
      rw[hx.2.2] at this
      cases this
     simp[blockB] at hb
     obtain⟨i1,i2,i3,i4,i5,i6⟩:=h.cel x hx'
     refine⟨i1,i2,i3,i4,⟨i5.1,?_⟩,⟨i6.1,?_⟩⟩<;>simp[effOf,stamped]<;>omega
   ·have hlo:=h.low
    refine⟨hlt,hlc,htick,hcn,h.proven,h.evac,?_,h.ten,fun x hx'=>?_⟩
    ·simp[effOf,stamped];omega
    ·obtain⟨i1,i2,i3,i4,i5,i6⟩:=h.cel x hx'
     refine⟨i1,i2,i3,i4,⟨?_,i5.2⟩,⟨?_,i6.2⟩⟩<;>simp[effOf,stamped]<;>omega
   ·exact⟨hlt,hlc,htick,hcn,h.proven,h.evac,h.low,h.ten,h.cel⟩
/-! The laws of one step. No program in sight. -/
theorem applyP_ok {c:Cfg} {s x:St} {e:Ent} (h:applyP c s e=(x,0)):refusedE c s e=0∧x=effOf s e∧(booksB e=true→overB c x=false):=by
 unfold applyP at h
 by_cases h1:refusedE c s e≠0
 ·rw[if_pos h1] at h
  exact absurd (congrArg Prod.snd h) h1
 ·rw[if_neg h1] at h
  by_cases h2:booksB e∧overB c (effOf s e)
  ·rw[if_pos h2] at h
   exact absurd (congrArg Prod.snd h) (by simp)
  ·rw[if_neg h2] at h
   have hx:effOf s e=x:=congrArg Prod.fst h
   refine⟨Classical.not_not.1 h1,hx.symm,fun hb=>?_⟩
   rw[← hx]
   cases ho:overB c (effOf s e) with
   | false=>rfl
   | true=>exact absurd ⟨hb,ho⟩ h2
/-! Capacity. -/
def bkAt (i:Int) (t:TS) (d:Ten):Int:=
 if t.placed=false then 0 else (if t.shed then 0 else (if t.home=i then d.load else 0)+(if t.target=i then d.load else 0))+(if t.standby=i then d.shadow else 0)+(if t.next=i then d.shadow else 0)
theorem addAt_length (l:List Int) (k n:Int):(addAt l k n).length=l.length:=by unfold addAt;split<;>simp
theorem addAt_getD (l:List Int) (k n:Int) {i:Nat} (hi:i<l.length):(addAt l k n).getD i 0=l.getD i 0+(if k=i then n else 0):=by
 unfold addAt
 by_cases hk:0≤k∧k<l.length
 ·rw[if_pos hk]
  obtain⟨m,rfl⟩:=Int.eq_ofNat_of_zero_le hk.1
  rw[Int.toNat_natCast,List.getD_eq_getElem?_getD,List.getElem?_set]
  by_cases hm:m=i
  ·subst hm
   simp[hi]
  ·have:¬ ((m:Int)=i):=by omega
   simp[hm,this]
 ·rw[if_neg hk]
  have:¬ (k=i):=by omega
  simp[this]
theorem bookT_length (l:List Int) (t:TS) (d:Ten):(bookT l t d).length=l.length:=by
 unfold bookT
 split
 ·rfl
 ·rw[addAt_length,addAt_length]
  split
  ·rfl
  ·rw[addAt_length,addAt_length]
theorem bookT_getD (l:List Int) (t:TS) (d:Ten) {i:Nat} (hi:i<l.length):(bookT l t d).getD i 0=l.getD i 0+bkAt i t d:=by
 unfold bookT bkAt
 by_cases hp:t.placed=false
 ·rw[if_pos hp,if_pos hp];omega
 ·rw[if_neg hp,if_neg hp]
  by_cases hs:t.shed=true
  ·rw[if_pos hs,if_pos hs,addAt_getD _ _ _ (by rw[addAt_length];exact hi),addAt_getD _ _ _ hi];omega
  ·rw[if_neg hs,if_neg hs,addAt_getD _ _ _ (by simp only[addAt_length];exact hi),addAt_getD _ _ _ (by simp only[addAt_length];exact hi),addAt_getD _ _ _ (by simp only[addAt_length];exact hi),addAt_getD _ _ _ hi];omega
def sumI (i:Int):List (TS×Ten)→Int
 | []=>0
 | p::q=>bkAt i p.1 p.2+sumI i q
theorem fold_getD {i:Nat}:∀ (q:List (TS×Ten)) (l:List Int),i<l.length→(q.foldl (fun l p=>bookT l p.1 p.2) l).getD i 0=l.getD i 0+sumI i q
 | [],l,_=>by simp[sumI]
 | p::q,l,h=>by
  rw[List.foldl_cons,fold_getD q _ (by rw[bookT_length];exact h),bookT_getD _ _ _ h,sumI]
  omega
theorem booked_getD (c:Cfg) (s:St) {i:Nat} (hi:i<c.cells.length):(booked c s).getD i 0=sumI i (s.tenants.zip c.tenants):=by
 unfold booked
 rw[fold_getD _ _ (by simpa using hi)]
 rw[List.getD_eq_getElem?_getD,List.getElem?_replicate]
 simp[hi]
theorem sumI_set {i:Int} {t t':TS} (ht:∀ d:Ten,0≤d.load→0≤d.shadow→bkAt i t' d≤bkAt i t d):∀ (ts:List TS) (ds:List Ten) (k:Nat),ts[k]?=some t→(∀ d ∈ ds,0≤d.load∧0≤d.shadow)→sumI i ((ts.set k t').zip ds)≤sumI i (ts.zip ds)
 | [],ds,k,h,hd=>by simp at h
 | a::ts,[],k,h,hd=>by cases k<;>simp[sumI]
 | a::ts,d::ds,0,h,hd=>by
  simp at h
  subst h
  have:=hd d (by simp)
  have:=ht d this.1 this.2
  simp only[List.set_cons_zero,List.zip_cons_cons,sumI]
  omega
 | a::ts,d::ds,k+1,h,hd=>by
  have ih:=sumI_set ht ts ds k (by simpa using h) (fun d hd'=>hd d (by simp[hd']))
  simp only[List.set_cons_succ,List.zip_cons_cons,sumI]
  omega
theorem overB_iff {c:Cfg} {s:St}:overB c s=false↔∀ i:Nat,i<c.cells.length→(booked c s).getD i 0≤(c.cells.getD i (0,0)).2:=by
 unfold overB
 rw[Bool.eq_false_iff]
 constructor
 ·intro h i hi
  refine Classical.byContradiction fun hn=>h (List.any_eq_true.2 ⟨i,List.mem_range.2 hi,?_⟩)
  simp only[decide_eq_true_eq]
  omega
 ·intro h hn
  obtain⟨i,hi,hd⟩:=List.any_eq_true.1 hn
  have:=h i (List.mem_range.1 hi)
  simp only[decide_eq_true_eq] at hd
  omega
theorem ten_pos {c:Cfg} (hV:CfgV c):∀ d ∈ c.tenants,0≤d.load∧0≤d.shadow:=by
 intro d hd
 have h1:=hV.ten d hd
 simp[tenOk,inR] at h1
 omega
theorem cap_new {c:Cfg} (hV:CfgV c):overB c (stNew c)=false:=by
 rw[overB_iff]
 intro i hi
 rw[booked_getD _ _ hi]
 have hcap:1≤(c.cells.getD i (0,0)).2:=by
  rw[getD_some (List.getElem?_eq_getElem hi)]
  exact (hV.capy _ (List.getElem_mem hi)).1
 have:∀ (n:Nat) (ds:List Ten),sumI i ((List.replicate n tsNew).zip ds)=0:=by
  intro n
  induction n with
  | zero=>intro ds;simp[sumI]
  | succ n ih=>
   intro ds
   cases ds with
   | nil=>simp[sumI]
   | cons d ds=>
    have hb:bkAt i tsNew d=0:=by simp[bkAt,tsNew]
    rw[List.replicate_succ,List.zip_cons_cons,sumI,ih,hb]
    rfl
 have:=this c.tenants.length c.tenants
 unfold stNew
 simp only
 omega
theorem over_same {c:Cfg} {s x:St} (h:x.tenants=s.tenants):overB c x=overB c s:=by
 unfold overB booked
 rw[h]
theorem cap_step {c:Cfg} {s x:St} {e:Ent} (hV:CfgV c) (hI:StInv c s) (hc:overB c s=false) (h:applyP c s e=(x,0)):overB c x=false:=by
 obtain⟨hr,hx,hb⟩:=applyP_ok h
 by_cases hbk:booksB e=true
 ·exact hb hbk
 have ha:=acc_of hr
 have hk:=ent_kind ha.ent
 obtain⟨hti,hT,hC,hO,hE,hS,hU,hN,hne⟩:=ent_rng ha.ent
 have hkd:=ha.kind
 subst hx
 have hlt:=hI.lt
 clear hb h hr ha
 obtain⟨kind,tick,tenant,cell,other,epoch,since,till,n⟩:=e
 simp only at *
 by_cases h8:kind≤8
 ·have hten:0≤tenant∧tenant<s.tenants.length:=by
   have:fT c.tenants.length kind=(0,(c.tenants.length:Int)-1):=if_pos h8
   rw[this] at hT
   simp[inS,inR] at hT
   omega
  have hte:(effOf s ⟨kind,tick,tenant,cell,other,epoch,since,till,n⟩).tenants=s.tenants.set tenant.toNat (tenEff (tsAt s tenant) ⟨kind,tick,tenant,cell,other,epoch,since,till,n⟩):=by
   unfold effOf
   simp only[h8,if_true]
   rfl
  rw[overB_iff] at hc ⊢
  intro i hi
  refine Int.le_trans ?_ (hc i hi)
  rw[booked_getD _ _ hi,booked_getD _ _ hi,hte]
  refine sumI_set ?_ _ _ _ (tsAt_mem hten.1 hten.2).1 (ten_pos hV)
  intro d hd1 hd2
  have hI':=hI.ten _ (tsAt_mem hten.1 hten.2).2
  generalize htd:tsAt s tenant=t at *
  have hk':kind=3∨(kind=4∧cell=-1)∨kind=5∨kind=7∨(kind=8∧n=1):=by
   simp[booksB] at hbk
   have:kind=8→n=0∨n=1:=by
    rintro rfl
    simp[inS,inR,fN] at hN
    omega
   omega
  have hi0:(0:Int)≤i:=Int.natCast_nonneg _
  rcases hk' with rfl | ⟨rfl,rfl⟩ | rfl | rfl | ⟨rfl,rfl⟩
  ·simp[bkAt,tenEff]
  ·simp only[bkAt,tenEff]
   simp
   repeat' split
   all_goals omega
  ·have hnx:cell=t.next∧t.placed=true:=by
    simp only[kindE,readyE,htd] at hkd
    simp at hkd
    by_cases hp:t.placed=true
    ·by_cases hcn:cell=t.next
     ·exact⟨hcn,hp⟩
     ·simp[hp,hcn] at hkd
    ·simp[hp] at hkd
   obtain⟨rfl,hp⟩:=hnx
   simp only[bkAt,tenEff]
   simp[hp]
   repeat' split
   all_goals omega
  ·simp only[bkAt,tenEff]
   simp
   repeat' split
   all_goals omega
  ·simp only[bkAt,tenEff]
   simp
   repeat' split
   all_goals omega
 ·rw[over_same (s:=s)]
  ·exact hc
  ·unfold effOf
   simp only[h8,if_false]
   repeat' split
   all_goals rfl
/-! Versions. -/
/-! What Fold answers. -/
def foldGo (c:Cfg):Int→St→List Ent→St×Int×Int
 | i,s,[]=>(s,i,0)
 | i,s,e::r=>if (applyP c s e).2≠0 then (s,i,(applyP c s e).2) else foldGo c (i+1) (applyP c s e).1 r
def foldC (c:Cfg) (es:List Ent):St×Int×Int:=foldGo c 0 (stNew c) es
/-! Configurations and states in the abstract memory. -/
structure CN where
 z:Nat
 c:Nat
 t:Nat
 v:Nat
 r:Nat
 o:Nat
 g:Nat
structure SN where
 t:Nat
 c:Nat
 g:Nat
structure CfgK where
 cz:Nat
 cc:Nat
 ct:Nat
 cv:Nat
 cr:Nat
 co:Nat
structure StK where
 ct:Nat
 cc:Nat
abbrev cfgV (n:CN) (x:CfgK) (c:Cfg):Value:=.agg #[.int .i64 c.regions,slc n.z c.zones.length x.cz,slc n.c c.cells.length x.cc,slc n.t c.tenants.length x.ct,slc n.v c.versions.length x.cv,slc n.r c.replicas.length x.cr,slc n.o c.observers.length x.co,.int .i64 c.blast,.int .i64 c.lease,.int .i64 c.bake]
abbrev stV (n:SN) (y:StK) (s:St):Value:=.agg #[.int .i64 s.tick,.int .i64 s.count,slc n.t s.tenants.length y.ct,slc n.c s.cells.length y.cc,.int .i64 s.proven,.int .i64 s.evac,.int .i64 s.low,.int .i64 s.high]
abbrev entV' (e:Ent):Value:=.agg #[.int .i64 e.kind,.int .i64 e.tick,.int .i64 e.tenant,.int .i64 e.cell,.int .i64 e.other,.int .i64 e.epoch,.int .i64 e.since,.int .i64 e.till,.int .i64 e.n]
abbrev rowOfL {α:Type} (t:TypeId) (sz:Nat) (enc:α→List Value) (d:α) (l:List α):ABlk:=.row t sz l.length (fun k=>enc (l.getD k d))
abbrev cfgM (n:CN) (c:Cfg):AM:=[(n.z,rowOfL n.g 1 intC 0 c.zones),(n.c,rowOfL n.g 2 pairC (0,0) c.cells),(n.t,rowOfL n.g 7 tenC default c.tenants),(n.v,rowOfL n.g 2 pairC (0,0) c.versions),(n.r,rowOfL n.g 1 intC 0 c.replicas),(n.o,rowOfL n.g 1 intC 0 c.observers)]
abbrev stM (n:SN) (s:St):AM:=[(n.t,rowOfL n.g 12 tsC default s.tenants),(n.c,rowOfL n.g 4 csC default s.cells)]
def cfgX (ρ:Nat→Pl) (n:CN) (x:CfgK):CfgA:=⟨(ρ n.z).A,x.cz,(ρ n.c).A,x.cc,(ρ n.t).A,x.ct,(ρ n.v).A,x.cv,(ρ n.r).A,x.cr,(ρ n.o).A,x.co⟩
def stX (ρ:Nat→Pl) (n:SN) (y:StK):StA:=⟨(ρ n.t).A,y.ct,(ρ n.c).A,y.cc⟩
theorem den_cfg (ρ:Nat→Pl) (n:CN) (x:CfgK) (c:Cfg):den ρ (cfgV n x c)=.agg (cfgC (cfgX ρ n x) c):=by simp[den,den2,den1,dA_whole,dS_whole,cfgC,cfgX]
theorem den_st (ρ:Nat→Pl) (n:SN) (y:StK) (s:St):den ρ (stV n y s)=.agg (stC (stX ρ n y) s):=by simp[den,den2,den1,dA_whole,dS_whole,stC,stX]
theorem intC_plain:∀ x,∀ v ∈ intC x,plain1 v:=fun x v hv=>by simp[intC] at hv;subst hv;trivial
theorem pairC_plain:∀ x,∀ v ∈ pairC x,plain1 v:=fun x v hv=>by simp[pairC] at hv;rcases hv with rfl | rfl<;>trivial
theorem tenC_plain:∀ x,∀ v ∈ tenC x,plain1 v:=fun x v hv=>by simp[tenC] at hv;rcases hv with rfl | rfl | rfl | rfl | rfl | rfl | rfl<;>trivial
theorem tsC_plain:∀ x,∀ v ∈ tsC x,plain1 v:=fun x v hv=>by simp[tsC] at hv;rcases hv with rfl | rfl | rfl | rfl | rfl | rfl | rfl | rfl | rfl | rfl | rfl | rfl<;>trivial
theorem csC_plain:∀ x,∀ v ∈ csC x,plain1 v:=fun x v hv=>by simp[csC] at hv;rcases hv with rfl | rfl | rfl | rfl<;>trivial
theorem entC_plain:∀ x,∀ v ∈ entC x,plain1 v:=fun x v hv=>by simp[entC] at hv;rcases hv with rfl | rfl | rfl | rfl | rfl | rfl | rfl | rfl | rfl<;>trivial
section
variable {C:Ctx} {ρ:Nat→Pl} {fr:AF} {mem:AM} {nx:Nat} {a:Act} {w:World}
structure CfgPl (ρ:Nat→Pl) (n:CN) (x:CfgA) (c:Cfg):Prop where
 z:ρ n.z=⟨x.az,1,c.zones.length,false,noSub⟩
 cc:ρ n.c=⟨x.ac,2,c.cells.length,false,noSub⟩
 tt:ρ n.t=⟨x.at_,7,c.tenants.length,false,noSub⟩
 v:ρ n.v=⟨x.av,2,c.versions.length,false,noSub⟩
 r:ρ n.r=⟨x.ar,1,c.replicas.length,false,noSub⟩
 o:ρ n.o=⟨x.ao,1,c.observers.length,false,noSub⟩
structure StPl (ρ:Nat→Pl) (n:SN) (y:StA) (s:St):Prop where
 t:ρ n.t=⟨y.at_,12,s.tenants.length,false,noSub⟩
 c:ρ n.c=⟨y.ac,4,s.cells.length,false,noSub⟩
theorem own_of_fr {t:TypeId} (h:frT t=false):ownT t=false:=by
 cases ho:ownT t with
 | false=>rfl
 | true=>have:=frT_own ho;rw[h] at this;cases this
theorem cfg_blks {n:CN} {x:CfgA} {c:Cfg} {S:Nat→Prop} (hp:CfgPl ρ n x c) (hc:CfgOk w S x c) (hS:∀ b,S b→b<w.heap.size) (hn:n.z<nx∧n.c<nx∧n.t<nx∧n.v<nx∧n.r<nx∧n.o<nx) {r:AM} (hr:blksOk C ρ nx w r) (hg:frT n.g=false:=by rfl):blksOk C ρ nx w (cfgM n c++r):=
 ⟨⟨hn.1,by rw[hp.z],row_of_rd (enc:=intC) (sz:=1) (fun _=>rfl) (by omega) intC_plain 0 hp.z hc.zones hS (own_of_fr hg) (fun h=>by rw[hg] at h;cases h)⟩,⟨hn.2.1,by rw[hp.cc],row_of_rd (enc:=pairC) (sz:=2) (fun _=>rfl) (by omega) pairC_plain (0,0) hp.cc hc.cells hS (own_of_fr hg) (fun h=>by rw[hg] at h;cases h)⟩,
  ⟨hn.2.2.1,by rw[hp.tt],row_of_rd (enc:=tenC) (sz:=7) (fun _=>rfl) (by omega) tenC_plain default hp.tt hc.tenants hS (own_of_fr hg) (fun h=>by rw[hg] at h;cases h)⟩,⟨hn.2.2.2.1,by rw[hp.v],row_of_rd (enc:=pairC) (sz:=2) (fun _=>rfl) (by omega) pairC_plain (0,0) hp.v hc.versions hS (own_of_fr hg) (fun h=>by rw[hg] at h;cases h)⟩,
  ⟨hn.2.2.2.2.1,by rw[hp.r],row_of_rd (enc:=intC) (sz:=1) (fun _=>rfl) (by omega) intC_plain 0 hp.r hc.replicas hS (own_of_fr hg) (fun h=>by rw[hg] at h;cases h)⟩,⟨hn.2.2.2.2.2,by rw[hp.o],row_of_rd (enc:=intC) (sz:=1) (fun _=>rfl) (by omega) intC_plain 0 hp.o hc.observers hS (own_of_fr hg) (fun h=>by rw[hg] at h;cases h)⟩,hr⟩
theorem st_blks {n:SN} {y:StA} {s:St} {S:Nat→Prop} (hp:StPl ρ n y s) (hc:StOk w S y s) (hS:∀ b,S b→b<w.heap.size) (hn:n.t<nx∧n.c<nx) {r:AM} (hr:blksOk C ρ nx w r) (hg:frT n.g=false:=by rfl):blksOk C ρ nx w (stM n s++r):=
 ⟨⟨hn.1,by rw[hp.t],row_of_rd (enc:=tsC) (sz:=12) (fun _=>rfl) (by omega) tsC_plain default hp.t hc.tenants hS (own_of_fr hg) (fun h=>by rw[hg] at h;cases h)⟩,⟨hn.2,by rw[hp.c],row_of_rd (enc:=csC) (sz:=4) (fun _=>rfl) (by omega) csC_plain default hp.c hc.cells hS (own_of_fr hg) (fun h=>by rw[hg] at h;cases h)⟩,hr⟩
theorem Sat.rd (h:Sat C ρ fr mem nx a w) {α:Type} {enc:α→List Value} {sz:Nat} (hsz:∀ x,(enc x).length=sz) (hpos:0<sz) {l:List α} {d:α} {i:Nat} {t:TypeId} (hi:lk mem i=some (rowOfL t sz enc d l)) {S:Nat→Prop}
  (hS:∀ b,b<w.heap.size→(∀ j t cs,lk mem j=some (.box t cs)→bno ρ j≠some b)→S b):Rd w S (ρ i).A (flat enc l):=
 rd_of_row hsz hpos (h.blk i _ (lk_app hi)) fun hl b off hA hlt=>hS b hlt fun j t cs hj he=>by
  have hne:j≠i:=by rintro rfl;rw[hi] at hj;cases hj
  rcases h.sep j i _ _ hne (lk_app hj) (lk_app hi) with h0 | h0
  ·exact hl h0
  ·exact h0 (by rw[he];simp[bno,hA])
theorem Sat.cfg (h:Sat C ρ fr mem nx a w) {n:CN} {x:CfgK} {c:Cfg} (hk:keeps mem (cfgM n c)) {S:Nat→Prop} (hS:∀ b,b<w.heap.size→(∀ j t cs,lk mem j=some (.box t cs)→bno ρ j≠some b)→S b):CfgOk w S (cfgX ρ n x) c:=by
 obtain⟨k1,k2,k3,k4,k5,k6,-⟩:=hk
 exact⟨h.rd (enc:=intC) (sz:=1) (fun _=>rfl) (by omega) k1 hS,h.rd (enc:=pairC) (sz:=2) (fun _=>rfl) (by omega) k2 hS,h.rd (enc:=tenC) (sz:=7) (fun _=>rfl) (by omega) k3 hS,h.rd (enc:=pairC) (sz:=2) (fun _=>rfl) (by omega) k4 hS,h.rd (enc:=intC) (sz:=1) (fun _=>rfl) (by omega) k5 hS,h.rd (enc:=intC) (sz:=1) (fun _=>rfl) (by omega) k6 hS⟩
theorem Sat.st (h:Sat C ρ fr mem nx a w) {n:SN} {y:StK} {s:St} (hk:keeps mem (stM n s)) {S:Nat→Prop} (hS:∀ b,b<w.heap.size→(∀ j t cs,lk mem j=some (.box t cs)→bno ρ j≠some b)→S b):StOk w S (stX ρ n y) s:=by
 obtain⟨k1,k2,-⟩:=hk
 exact⟨h.rd (enc:=tsC) (sz:=12) (fun _=>rfl) (by omega) k1 hS,h.rd (enc:=csC) (sz:=4) (fun _=>rfl) (by omega) k2 hS⟩
end
def pureV:Value→Prop
 | .agg cs=>∀ v ∈ cs,plain1 v
 | .tuple _=>False
 | .func _ _ _=>False
 | v=>plain1 v
theorem pure_den {v:Value} (h:pureV v) (ρ:Nat→Pl) (n:Nat):den ρ v=v∧okV ρ n v:=by
 cases v with
 | agg cs=>
  refine⟨?_,fun u hu=>ok1_plain (h u hu)⟩
  show Value.agg (cs.map (den1 ρ))=_
  congr 1
  conv=>rhs;rw[← Array.map_id cs]
  exact Array.map_congr_left fun u hu=>den1_plain (h u hu)
 | tuple vs=>exact h.elim
 | func f a b=>exact h.elim
 | pointer p=>cases p with
  | none=>exact⟨rfl,trivial⟩
  | some a=>exact h.elim
 | slice p k c=>cases p with
  | none=>exact⟨rfl,trivial⟩
  | some a=>exact h.elim
 | map p=>cases p with
  | none=>exact⟨rfl,trivial⟩
  | some a=>exact h.elim
 | _=>exact⟨rfl,trivial⟩
theorem pure_ent (e:Ent):pureV (entV' e):=fun v hv=>by
 simp at hv
 rcases hv with rfl | rfl | rfl | rfl | rfl | rfl | rfl | rfl | rfl<;>trivial
/-! state.New -/
def CN1:CN:=⟨0,1,2,3,4,5,3⟩
abbrev tsB (n:Nat) (el:Nat→List Value):ABlk:=.row (1000000+64) 12 n el
abbrev csB (n:Nat) (el:Nat→List Value):ABlk:=.row (1000000+78) 4 n el
end Go.Proofs.YtchhdflealgkaaaGreat
