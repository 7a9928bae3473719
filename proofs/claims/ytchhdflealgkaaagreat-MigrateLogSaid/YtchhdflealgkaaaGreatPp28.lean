import Derived.Test.YtchhdflealgkaaaGreatPp25
import Derived.Test.YtchhdflealgkaaaGreatPp27
import Derived.Test.YtchhdflealgkaaaGreatRows
namespace Go.Proofs.YtchhdflealgkaaaGreat
open Go.RowKit
set_option linter.unusedSimpArgs false
set_option linter.unusedVariables false
/-! How far ticks,windows and epochs come in a log that is made. No program in sight. -/
structure Bnd (s:St) (B n:Int):Prop where
 tick:s.tick≤B
 till:∀ t ∈ s.tenants,t.win.till≤B
 ep:∀ t ∈ s.tenants,t.epoch≤n
theorem Bnd.get {s:St} {B n:Int} (h:Bnd s B n) (h0:0≤B) (i:Nat):(s.tenants.getD i default).win.till≤B:=by
 by_cases hi:i<s.tenants.length
 ·rw[List.getD_eq_getElem?_getD,List.getElem?_eq_getElem hi]
  exact h.till _ (List.getElem_mem hi)
 ·rw[List.getD_eq_getElem?_getD,List.getElem?_eq_none (by omega)]
  exact h0
theorem plE_tick {zs:List Int} {c:Cfg} (s:St) {tick:Int} (k:Int) (hV:CfgV c) (ht:0≤tick∧tick≤2147483648):(plE zs c s tick k).1.tick≤tick+10000:=by
 have hl:=hV.lease
 have hb:=hV.bake
 have n1:=nxV_in zs (advK zs (advK zs k)) (n:=c.lease) hl.1
 have n2:=nxV_in zs (advK zs (advK zs k)) (n:=c.bake+1) (by omega)
 have w1:=wrapi (n:=tick+nxV zs (advK zs (advK zs k)) c.lease) (by omega)
 have w2:=wrapi (n:=c.bake+1) (by omega)
 have w3:=wrapi (n:=tick+nxV zs (advK zs (advK zs k)) (c.bake+1)) (by omega)
 unfold plE
 rw[w2,w1,w3]
 repeat' split
 all_goals dsimp only
 all_goals omega
theorem gG_tick (zs:List Int) (c:Cfg) (s:St) (e:Ent) (k:Int):(gG zs c s e k).1.tick≤e.tick∨(gG zs c s e k).1.tick≤(s.tenants.getD e.tenant.toNat default).win.till:=by
 have hF:∀ p,(gF zs p).1.tick=p.1.tick:=fun p=>by unfold gF gF1;split<;>rfl
 have hE:∀ p,(gE zs c s p).1.tick=p.1.tick:=fun p=>rfl
 have hD:∀ x p,(gD zs x p).1.tick=p.1.tick:=fun x p=>by unfold gD;split<;>rfl
 have hC:∀ x p,(gC zs x p).1.tick≤p.1.tick∨(gC zs x p).1.tick≤x.win.till:=fun x p=>by
  unfold gC
  split
  ·exact .inl (Int.le_refl _)
  ·split
   ·dsimp only
    split
    ·exact .inr (Int.le_refl _)
    ·exact .inl (Int.le_refl _)
   ·exact .inl (Int.le_refl _)
 have hB:∀ x p,(gB zs x p).1.tick=p.1.tick:=fun x p=>by
  unfold gB
  repeat' split
  all_goals rfl
 have hA:∀ x p,(gA zs x p).1.tick=p.1.tick:=fun x p=>by
  unfold gA
  repeat' split
  all_goals rfl
 unfold gG
 rw[hF,hE,hD]
 refine (hC _ _).imp (fun h=>?_) id
 rwa[hB,hA] at h
theorem enE_tick {zs:List Int} {c:Cfg} {s:St} {B n:Int} (k:Int) (hV:CfgV c) (hI:StInv c s) (hb:Bnd s B n):(enE zs c s k).1.tick≤B+10003:=by
 have ht:=hI.tick
 have h0:0≤B:=Int.le_trans ht.1 hb.tick
 have htk:=hb.tick
 have hT:0≤(enT zs s k).1∧(enT zs s k).1≤s.tick+3:=by
  have n1:=nxV_in zs k (n:=4) (by omega)
  have w1:=wrapi (n:=s.tick-1) (by omega)
  have w2:=wrapi (n:=s.tick+nxV zs k 4) (by omega)
  unfold enT
  rw[w1,w2]
  split
  ·dsimp only
   split<;>omega
  ·dsimp only
   omega
 generalize hq:enT zs s k=q at hT
 obtain⟨tk,k2⟩:=q
 dsimp only at hT
 unfold enE
 rw[hq]
 dsimp only
 split
 ·have:=plE_tick (zs:=zs) s k2 hV (tick:=tk) (by omega);omega
 ·split
  ·have:=plE_tick (zs:=zs) s (advK zs k2) hV (tick:=tk) (by omega);omega
  ·unfold enQ
   split
   ·unfold enS
    repeat' split
    all_goals try dsimp only
    all_goals first | omega | skip
    ·have hg:=gG_tick zs c s ⟨2,tk,nxV zs (advK zs k2) c.tenants.length,-1,-1,0,0,0,0⟩ (advK zs (advK zs (advK zs k2)))
     have:=hb.get h0 (nxV zs (advK zs k2) c.tenants.length).toNat
     dsimp only at hg
     omega
   ·show tk≤_
    omega
theorem effOf_tick (s:St) (e:Ent):(effOf s e).tick=e.tick:=by
 unfold effOf stamped setTen setCel
 repeat (split<;>try rfl)
theorem effOf_count (s:St) (e:Ent):(effOf s e).count=s.count+1:=by
 unfold effOf stamped setTen setCel
 repeat (split<;>try rfl)
theorem effOf_ten {s:St} {e:Ent} (h:e.kind≤8):(effOf s e).tenants=s.tenants.set e.tenant.toNat (tenEff (tsAt s e.tenant) e):=by
 unfold effOf
 rw[if_pos h]
 rfl
theorem effOf_ten2 {s:St} {e:Ent} (h:¬ e.kind≤8):(effOf s e).tenants=s.tenants:=by
 unfold effOf
 rw[if_neg h]
 unfold setCel stamped
 repeat (split<;>try rfl)
theorem effOf_cel {s:St} {e:Ent} (h:e.kind≤8):(effOf s e).cells=s.cells:=by
 unfold effOf
 rw[if_pos h]
 rfl
theorem tenRange {c:Cfg} {s:St} {e:Ent} (hI:StInv c s) (ha:Acc c s e) (h8:e.kind≤8):0≤e.tenant∧e.tenant<s.tenants.length:=by
 obtain⟨hti,hT,-⟩:=ent_rng ha.ent
 have hlt:=hI.lt
 have:fT c.tenants.length e.kind=(0,(c.tenants.length:Int)-1):=if_pos h8
 rw[this] at hT
 simp[inS,inR] at hT
 omega
theorem Bnd.step {c:Cfg} {s x:St} {e:Ent} {B n:Int} (hV:CfgV c) (hI:StInv c s) (h:applyP c s e=(x,0)) (hb:Bnd s B n) (het:e.tick≤B+10003) (hn:0≤n):Bnd x (B+12003) (n+1):=by
 obtain⟨hr,rfl,-⟩:=applyP_ok h
 have ha:=acc_of hr
 have hl:=hV.lease
 have h0:0≤B:=Int.le_trans hI.tick.1 hb.tick
 have key:∀ t ∈ (effOf s e).tenants,t.win.till≤B+12003∧t.epoch≤n+1:=by
  intro t ht
  by_cases h8:e.kind≤8
  ·rw[effOf_ten h8] at ht
   have hten:=tenRange hI ha h8
   have hm:=(tsAt_mem hten.1 hten.2).2
   rcases List.mem_or_eq_of_mem_set ht with h1 | rfl
   ·have q1:=hb.till t h1
    have q2:=hb.ep t h1
    omega
   have q1:=hb.till _ hm
   have q2:=hb.ep _ hm
   have hk:=ha.kind
   unfold tenEff
   by_cases k2:e.kind=2
   ·have hg:grantE c s e=0:=by
     unfold kindE at hk
     rw[if_neg (by omega),if_pos k2] at hk
     exact hk
    rw[if_neg (by omega),if_pos k2]
    unfold grantE at hg
    dsimp only at hg
    have e1:(grantT (tsAt s e.tenant) e).win.till=e.till:=by
     unfold grantT
     repeat' split
     all_goals rfl
    have e2:(grantT (tsAt s e.tenant) e).epoch=e.epoch:=by
     unfold grantT
     repeat' split
     all_goals rfl
    rw[e1,e2]
    repeat' split at hg
    all_goals omega
   ·rw[if_neg (c:=e.kind=2) k2]
    unfold cutW
    repeat' split
    all_goals (try dsimp only);omega
  ·rw[effOf_ten2 h8] at ht
   have q1:=hb.till t ht
   have q2:=hb.ep t ht
   omega
 exact⟨by rw[effOf_tick];omega,fun t ht=>(key t ht).1,fun t ht=>(key t ht).2⟩
theorem Bnd.new (c:Cfg):Bnd (stNew c) 0 0:=by
 refine⟨Int.le_refl _,fun t ht=>?_,fun t ht=>?_⟩
 ·obtain rfl:=List.eq_of_mem_replicate (show t ∈ List.replicate c.tenants.length tsNew from ht)
  exact Int.le_refl _
 ·obtain rfl:=List.eq_of_mem_replicate (show t ∈ List.replicate c.tenants.length tsNew from ht)
  exact Int.le_refl _
theorem LgT.bnd {zs:List Int} {c:Cfg} {n:Int} (hV:CfgV c) {p q:Int×St×List Ent} (h:LgT zs c n p q):∀ {B m:Int},(p.2.2.length:Int)≤n→0≤m→RInv c p.2.1→Bnd p.2.1 B m→(q.2.2.length:Int)≤n∧RInv c q.2.1∧Bnd q.2.1 (B+12003 * ((q.2.2.length:Int)-p.2.2.length)) (m+((q.2.2.length:Int)-p.2.2.length)):=by
 induction h with
 | refl q=>intro B m h1 h2 h3 h4;exact⟨h1,h3,by simpa using h4⟩
 | @step q r hc _ ih=>
  intro B m h1 h2 h3 h4
  by_cases ha:(applyP c q.2.1 (enE zs c q.2.1 q.1).1).2=0
  ·have e1:lgS zs c q=((enE zs c q.2.1 q.1).2,(applyP c q.2.1 (enE zs c q.2.1 q.1).1).1,q.2.2++[(enE zs c q.2.1 q.1).1]):=by unfold lgS;rw[if_pos ha]
   rw[e1] at ih
   have hap:applyP c q.2.1 (enE zs c q.2.1 q.1).1=((applyP c q.2.1 (enE zs c q.2.1 q.1).1).1,0):=by rw[← ha]
   have hc1:=hc.1
   have hlen:((q.2.2++[(enE zs c q.2.1 q.1).1]).length:Int)=q.2.2.length+1:=by simp
   obtain⟨g1,g2,g3⟩:=ih (B:=B+12003) (m:=m+1) (by dsimp only;rw[hlen];omega) (by omega) (h3.step hV hap) (h4.step hV h3.inv hap (enE_tick _ hV h3.inv h4) h2)
   dsimp only at g3
   rw[hlen] at g3
   refine⟨g1,g2,?_⟩
   rw[show B+12003 * ((r.2.2.length:Int)-q.2.2.length)=B+12003+12003 * ((r.2.2.length:Int)-(q.2.2.length+1)) by omega,show m+((r.2.2.length:Int)-q.2.2.length)=m+1+((r.2.2.length:Int)-(q.2.2.length+1)) by omega]
   exact g3
  ·have e1:lgS zs c q=((enE zs c q.2.1 q.1).2,q.2.1,q.2.2):=by unfold lgS;rw[if_neg ha]
   rw[e1] at ih
   exact ih h1 h2 h3 h4
theorem StX.bnd {zs:List Int} {c:Cfg} {n:Int} (hV:CfgV c) {s:St} (h:StX zs c n s) (hn:0≤n):Bnd s (12003 * n) n:=by
 obtain⟨k,es,h1,-⟩:=h
 obtain⟨g1,g2,g3⟩:=h1.bnd hV (B:=0) (m:=0) (by simpa using hn) (Int.le_refl _) (.new hV) (.new c)
 dsimp only at g1 g3
 rw[List.length_nil] at g3
 exact⟨by have:=g3.tick;omega,fun t ht=>by have:=g3.till t ht;omega,fun t ht=>by have:=g3.ep t ht;omega⟩
/-! The plan of a migration: what its entries do to a state that is far from all limits. No program in sight. -/
theorem applyP_of {c:Cfg} {s:St} {e:Ent} (h1:refusedE c s e=0) (h2:booksB e=true→overB c (effOf s e)=false):applyP c s e=(effOf s e,0):=by
 unfold applyP
 rw[if_neg (by simp[h1])]
 rw[if_neg]
 rintro⟨q1,q2⟩
 rw[h2 q1] at q2
 cases q2
theorem tsAt_eff {s:St} {e:Ent} (h:e.kind≤8) (h0:0≤e.tenant∧e.tenant<s.tenants.length):tsAt (effOf s e) e.tenant=tenEff (tsAt s e.tenant) e:=by
 show (effOf s e).tenants.getD e.tenant.toNat default=_
 rw[effOf_ten h,List.getD_eq_getElem?_getD,List.getElem?_set_self (by omega)]
 rfl
theorem csAt_eff {s:St} {e:Ent} (h:e.kind≤8) (k:Int):csAt (effOf s e) k=csAt s k:=by
 unfold csAt
 rw[effOf_cel h]
structure PlanI (c:Cfg) (s:St) (i dst:Int):Prop where
 inv:RInv c s
 ten:0≤i∧i<s.tenants.length
 cel:0≤dst∧dst<c.cells.length
 pl:(tsAt s i).placed=true
 ns:(tsAt s i).shed=false
 tg:(tsAt s i).target=dst
 nh:dst≠(tsAt s i).home
 nst:dst≠(tsAt s i).standby
 md:(csAt s dst).mode=1
 rn:(csAt s dst).running=(csAt s dst).wanted
 cnt:s.count≤1000
 ep:1≤(tsAt s i).epoch∧(tsAt s i).epoch≤1000
 tk:s.tick≤1000000
abbrev eMig (i dst tick:Int):Ent:=⟨6,tick,i,dst,-1,0,0,0,0⟩
theorem plan_begin {c:Cfg} {s x:St} {i dst B n:Int} (hV:CfgV c) (hR:RInv c s) (hb:Bnd s B n) (hB:B≤900000) (hn:n≤900) (hc:s.count≤900) (h:applyP c s (eMig i dst s.tick)=(x,0)) (h0:(tsAt s i).epoch≠0) (hrn:(csAt s dst).running=(csAt s dst).wanted) :
  PlanI c x i dst∧(tsAt x i).home=(tsAt s i).home∧(tsAt x i).epoch=(tsAt s i).epoch∧x.tick=s.tick:=by
 obtain⟨hr,rfl,-⟩:=applyP_ok h
 have ha:=acc_of hr
 have hten:0≤i∧i<s.tenants.length:=tenRange (e:=eMig i dst s.tick) hR.inv ha (show (6:Int)≤8 by decide)
 obtain⟨hti,hT,hC,-⟩:=ent_rng ha.ent
 have hC2:0≤dst∧dst<c.cells.length:=by simp[inS,inR,fC,eMig] at hC;omega
 have hk:migrateE c s (eMig i dst s.tick)=0:=by have:=ha.kind;simpa [kindE,eMig] using this
 have hm:=(tsAt_mem hten.1 hten.2).2
 have e1:tsAt (effOf s (eMig i dst s.tick)) i={ tsAt s i with target:=dst }:=by
  have:=tsAt_eff (s:=s) (e:=eMig i dst s.tick) (show (6:Int)≤8 by decide) hten
  rw[show (eMig i dst s.tick).tenant=i from rfl] at this
  rw[this]
  simp[tenEff,eMig]
 have e2:csAt (effOf s (eMig i dst s.tick)) dst=csAt s dst:=csAt_eff (show (6:Int)≤8 by decide) dst
 have hep:=hb.ep _ hm
 have hep0:=(hR.inv.ten _ hm).epoch
 have htk:=hb.tick
 unfold migrateE at hk
 dsimp only[eMig] at hk
 by_cases q1:(tsAt s i).placed=false∨(tsAt s i).shed=true∨(tsAt s i).target≠-1
 ·rw[if_pos q1] at hk;omega
 rw[if_neg q1] at hk
 by_cases q2:dst=(tsAt s i).home∨dst=(tsAt s i).standby∨dst=(tsAt s i).next
 ·rw[if_pos q2] at hk;omega
 rw[if_neg q2] at hk
 by_cases q3:(csAt s dst).mode≠1
 ·rw[if_pos q3] at hk;omega
 refine⟨⟨hR.step hV h,⟨hten.1,by rw[effOf_ten (show (6:Int)≤8 by decide),List.length_set];exact hten.2⟩,hC2,?_,?_,?_,?_,?_,?_,?_,?_,?_,?_⟩,?_,?_,?_⟩
 ·rw[e1];simp at q1;exact q1.1
 ·rw[e1];simp at q1;exact q1.2.1
 ·rw[e1]
 ·rw[e1];dsimp only;omega
 ·rw[e1];dsimp only;omega
 ·rw[e2];omega
 ·rw[e2];exact hrn
 ·rw[effOf_count];omega
 ·rw[e1];dsimp only;omega
 ·rw[effOf_tick];show s.tick≤_;omega
 ·rw[e1]
 ·rw[e1]
 ·rw[effOf_tick]
theorem refusedOf {c:Cfg} {s:St} {e:Ent} (h1:entV c e=true) (h2:s.count<4096) (h3:s.tick≤e.tick) (h4:kindE c s e=0):refusedE c s e=0:=by
 unfold refusedE
 rw[if_neg (by simp[h1]),if_neg (by omega),if_neg (by omega)]
 exact h4
abbrev eCutP (i ep tick:Int):Ent:=⟨3,tick,i,-1,-1,ep,0,0,0⟩
theorem plan_cut {c:Cfg} {s:St} {i dst tick:Int} (hV:CfgV c) (h:PlanI c s i dst) (hc:s.count≤990) (ht:s.tick≤tick∧tick≤1000000) :
  ∃ x,applyP c s (eCutP i (tsAt s i).epoch tick)=(x,0)∧PlanI c x i dst∧(tsAt x i).home=(tsAt s i).home∧(tsAt x i).epoch=(tsAt s i).epoch∧x.tick=tick∧x.count=s.count+1∧(tsAt x i).win.till≤tick+1:=by
 have h1:=h.ten
 have h2:=h.inv.inv.lt
 have h3:=h.inv.inv.tick
 have h4:=h.ep
 have e1:tsAt (effOf s (eCutP i (tsAt s i).epoch tick)) i={ tsAt s i with win:=cutW (tsAt s i).win tick }:=by
  have:=tsAt_eff (s:=s) (e:=eCutP i (tsAt s i).epoch tick) (show (3:Int)≤8 by decide) h1
  rw[show (eCutP i (tsAt s i).epoch tick).tenant=i from rfl] at this
  rw[this]
  simp[tenEff,eCutP]
 have e2:csAt (effOf s (eCutP i (tsAt s i).epoch tick)) dst=csAt s dst:=csAt_eff (show (3:Int)≤8 by decide) dst
 have hap:=applyP_of (c:=c) (s:=s) (e:=eCutP i (tsAt s i).epoch tick) (refusedOf (by
  simp[entV,entOk,eCutP,inR,inS,fT,fC,fO,fE,fW,fN]
  omega) (by omega) ht.1 (by
  simp[kindE,cutE,eCutP,h.pl])) (fun q=>absurd q (by simp[booksB,eCutP]))
 refine⟨_,hap,⟨h.inv.step hV hap,⟨h1.1,by rw[effOf_ten (show (3:Int)≤8 by decide),List.length_set];exact h1.2⟩,h.cel,?_,?_,?_,?_,?_,?_,?_,?_,?_,?_⟩,?_,?_,?_,?_,?_⟩
 ·rw[e1];exact h.pl
 ·rw[e1];exact h.ns
 ·rw[e1];exact h.tg
 ·rw[e1];exact h.nh
 ·rw[e1];exact h.nst
 ·rw[e2];exact h.md
 ·rw[e2];exact h.rn
 ·rw[effOf_count];omega
 ·rw[e1];exact h4
 ·rw[effOf_tick];exact ht.2
 ·rw[e1]
 ·rw[e1]
 ·rw[effOf_tick]
 ·rw[effOf_count]
 ·rw[e1]
  show min _ _≤_
  omega
abbrev eDropP (i tick:Int):Ent:=⟨7,tick,i,-1,-1,0,0,0,0⟩
theorem plan_drop {c:Cfg} {s:St} {i dst tick:Int} (hV:CfgV c) (h:PlanI c s i dst) (hc:s.count≤990) (ht:s.tick≤tick∧tick≤1000000) :
  ∃ x,applyP c s (eDropP i tick)=(x,0)∧RInv c x∧x.tenants.length=s.tenants.length∧(tsAt x i).home=(tsAt s i).home∧(tsAt x i).epoch=(tsAt s i).epoch∧(tsAt x i).target=-1:=by
 have h1:=h.ten
 have h2:=h.inv.inv.lt
 have h3:=h.inv.inv.tick
 have h5:=h.cel
 have e1:tsAt (effOf s (eDropP i tick)) i={ tsAt s i with target:=-1 }:=by
  have:=tsAt_eff (s:=s) (e:=eDropP i tick) (show (7:Int)≤8 by decide) h1
  rw[show (eDropP i tick).tenant=i from rfl] at this
  rw[this]
  simp[tenEff,eDropP]
 have hap:=applyP_of (c:=c) (s:=s) (e:=eDropP i tick) (refusedOf (by
  simp[entV,entOk,eDropP,inR,inS,fT,fC,fO,fE,fW,fN]
  omega) (by omega) ht.1 (by
  have:=h.tg
  simp[kindE,abandonE,eDropP,h.pl,this]
  omega)) (fun q=>absurd q (by simp[booksB,eDropP]))
 refine⟨_,hap,h.inv.step hV hap,by rw[effOf_ten (show (7:Int)≤8 by decide),List.length_set],by rw[e1],by rw[e1],by rw[e1]⟩
abbrev eGrantP (i dst ep since till n tick:Int):Ent:=⟨2,tick,i,dst,-1,ep,since,till,n⟩
theorem plan_grant {c:Cfg} {s:St} {i dst tick:Int} (hV:CfgV c) (h:PlanI c s i dst) (hc:s.count≤990) (ht:s.tick≤tick∧tick≤1000000) (hw:(tsAt s i).win.till≤tick) :
  ∃ x,applyP c s (eGrantP i dst ((tsAt s i).epoch+1) tick (tick+c.lease) (csAt s dst).running tick)=(x,0)∧RInv c x∧x.tenants.length=s.tenants.length∧(tsAt x i).home=dst∧(tsAt x i).epoch=(tsAt s i).epoch+1∧(tsAt x i).target=-1∧(tsAt x i).win.cell=dst∧(tsAt x i).win.since=tick:=by
 have h1:=h.ten
 have h2:=h.inv.inv.lt
 have h2c:=h.inv.inv.lc
 have h3:=h.inv.inv.tick
 have h4:=h.ep
 have h5:=h.cel
 have h6:=h.nh
 have h7:=h.nst
 have hl:=hV.lease
 have hcs:=h.inv.inv.cel _ (csAt_mem (s:=s) (i:=dst) h5.1 (by omega)).2
 have hrun:=hcs.running
 have hm:=tsAt_mem h1.1 h1.2
 generalize he:eGrantP i dst ((tsAt s i).epoch+1) tick (tick+c.lease) (csAt s dst).running tick=e
 have hkd:e.kind=2:=by rw[← he]
 have k8:e.kind≤8:=by omega
 have het:e.tenant=i:=by rw[← he]
 have htn:tenEff (tsAt s i) e={ tsAt s i with win:=⟨dst,(tsAt s i).epoch+1,(csAt s dst).running,tick,tick+c.lease⟩,epoch:=(tsAt s i).epoch+1,home:=dst,target:=-1 }:=by
  rw[← he]
  simp[tenEff,eGrantP,grantT,h6,h7]
 have e1:tsAt (effOf s e) i=tenEff (tsAt s i) e:=by
  have:=tsAt_eff (s:=s) (e:=e) k8 (by rw[het];exact h1)
  rwa[het] at this
 rw[htn] at e1
 have hap:=applyP_of (c:=c) (s:=s) (e:=e) (refusedOf (by
  rw[← he]
  simp[entV,entOk,eGrantP,inR,inS,fT,fC,fO,fE,fW,fN]
  omega) (by omega) (by rw[← he];exact ht.1) (by
  rw[← he]
  have q1:=h.tg
  have q2:=h.md
  have q3:=h.rn
  simp[kindE,grantE,eGrantP,h.pl,h.ns,q1,q2,q3]
  omega)) (fun _=>by
  have hcap:=h.inv.cap
  rw[overB_iff] at hcap ⊢
  intro k hk
  refine Int.le_trans ?_ (hcap k hk)
  rw[booked_getD _ _ hk,booked_getD _ _ hk,effOf_ten k8,het,htn]
  refine sumI_set ?_ _ _ _ hm.1 (ten_pos hV)
  intro d hd1 hd2
  have q1:=h.tg
  have q2:=h.ns
  have q3:=h.pl
  simp only[bkAt,q1,q2,q3]
  simp
  repeat' split
  all_goals omega)
 refine⟨_,hap,h.inv.step hV hap,by rw[effOf_ten k8,List.length_set],by rw[e1],by rw[e1],by rw[e1],by rw[e1],by rw[e1]⟩
/-! Bytes: plain facts. -/
abbrev u8C (x:Int):List Value:=[.int .u8 x]
theorem u8C_plain:∀ x,∀ v ∈ u8C x,plain1 v:=fun x v hv=>by simp at hv;subst hv;trivial
def encU (u:Nat):List Int:=if u<128 then [(u:Int)] else ((u % 128+128:Nat):Int)::encU (u / 128)
termination_by u
decreasing_by omega
def codeI (n:Int):Int:=if 0≤n then 2 * n else -2 * n-1
def intBy (n:Int):List Int:=encU (codeI n).toNat
def in64 (n:Int):Prop:=-9223372036854775808≤n∧n<9223372036854775808
/-! wire.Int,ref01.Int -/
def HasFam {α:Type} (mem:AM) (u o k sz:Nat) (enc:α→List Value) (d:α) (l:List α):Prop:=∃ t sb,lk mem u=some (.ext (.fam t sb))∧(sb k o).sz=sz∧l.length≤(sb k o).n∧∀ j,j<l.length→(sb k o).el j=enc (l.getD j d)
def SrcR {α:Type} (mem:AM) (sz:Nat) (enc:α→List Value) (d:α) (l:List α) (v:Value):Prop:=(v=zs0∧l=[])∨(∃ r cap,v=slc r l.length cap∧HasRow mem r sz enc d l)∨∃ u o k cap,v=.slice (some ⟨u,o,some k⟩) l.length cap∧HasFam mem u o k sz enc d l
theorem SrcR.slice {α:Type} {mem:AM} {sz:Nat} {enc:α→List Value} {d:α} {l:List α} {v:Value} (h:SrcR mem sz enc d l v):∃ A cap,v=.slice A l.length cap:=by
 rcases h with⟨rfl,rfl⟩ | ⟨r,cap,rfl,-⟩ | ⟨u,o,k,cap,rfl,-⟩
 ·exact⟨_,_,rfl⟩
 ·exact⟨_,_,rfl⟩
 ·exact⟨_,_,rfl⟩
theorem SrcR.row {α:Type} {mem:AM} {sz:Nat} {enc:α→List Value} {d:α} {l:List α} {r cap:Nat} (h:HasRow mem r sz enc d l):SrcR mem sz enc d l (slc r l.length cap):=.inr (.inl ⟨r,cap,rfl,h⟩)
theorem Sat.srcR {C:Ctx} {ρ:Nat→Pl} {fr:AF} {mem:AM} {nx:Nat} {a:Act} {w:World} (hs:Sat C ρ fr mem nx a w) {α:Type} {enc:α→List Value} {sz:Nat} (hsz:∀ x,(enc x).length=sz) (hpos:0<sz) {d:α} {l:List α} {v:Value} (h:SrcR mem sz enc d l v):∃ A cap,den ρ v=.slice A l.length cap∧Rd w (·<w.heap.size) A (flat enc l):=by
 rcases h with⟨rfl,rfl⟩ | ⟨r,cap,rfl,hr⟩ | ⟨u,o,k,cap,rfl,t,sb,h1,h2,h3,h4⟩
 ·exact⟨none,0,rfl,fun h=>absurd rfl h⟩
 ·exact⟨(ρ r).A,cap,by simp[den,den2,den1,dA_whole,dS_whole],hs.hasRd hsz hpos hr⟩
 ·refine⟨(ρ u).sub k o,cap,rfl,?_⟩
  have hat:=hs.famAt h1 k o
  by_cases hn:(sb k o).n=0
  ·have:l=[]:=List.eq_nil_of_length_eq_zero (by omega)
   subst this
   exact fun h=>absurd rfl h
  ·have hb:BlkOk C (fun _=>⟨(ρ u).sub k o,sz,(sb k o).n,false,noSub⟩) nx 0 w (.row 0 sz (sb k o).n (sb k o).el):=⟨⟨rfl,rfl⟩,fun j hj=>by rw[← h2];exact hat.pl j hj,by
    obtain⟨b,off,e1,e2,e3,-⟩:=hat.at_.resolve_left hn
    exact .inr ⟨b,off,e1,⟨e2.lt,(fun q=>by cases q),(fun q=>by cases q)⟩,fun j hj q v hv=>by rw[← h2];exact e3 j hj q v hv⟩⟩
   exact hb.rdOf h3 h4 hsz hpos fun _ b off _ hr=>hr.lt
theorem Sat.bytes {C:Ctx} {ρ:Nat→Pl} {fr:AF} {mem:AM} {nx:Nat} {a:Act} {w w':World} {K:Value→AM→Nat→Prop} (hs:Sat C ρ fr mem nx a w) (hb:Below w.heap.size w w') {A:Option Addr} {cp:Nat} {l:List Int} (hr:Rd w' (fun b=>w.heap.size≤b∧b<w'.heap.size) A (flat u8C l)) (hK:K (slc nx l.length cp) ((nx,rowOfL 500000 1 u8C 0 l)::mem) (nx+1)) :
  ∃ v mem' nx' ρ',Ending.returned (.slice A l.length cp)=.returned (den ρ' v)∧K v mem' nx'∧Sat C ρ' fr mem' nx' a w'∧okV ρ' nx' v∧ExtS ρ nx ρ' nx':=by
 obtain⟨q1,-⟩:=(hs.later hb).addList hs.frB hs.rest.size (enc:=u8C) (sz:=1) (fun _=>rfl) (by omega) u8C_plain 0 (t:=500000) rfl hr
 have q2:setPl ρ nx ⟨A,1,l.length,false,noSub⟩ nx=⟨A,1,l.length,false,noSub⟩:=setPl_same _ _ _
 refine⟨slc nx l.length cp,_,_,_,?_,hK,q1,?_,fun i hi=>setPl_lt _ _ hi,by omega⟩
 ·show Ending.returned (.slice A l.length cp)=.returned (.slice (setPl ρ nx ⟨A,1,l.length,false,noSub⟩ nx).A l.length cp)
  rw[q2]
 ·exact⟨show nx<nx+1 by omega,by rw[q2]⟩
/-! digest.Chain,ref02.Chain -/
def xorI (a b:Int):Int:=IntKind.u64.wrap (BitVec.ofInt IntKind.u64.bits a ^^^ BitVec.ofInt IntKind.u64.bits b).toNat
def mixI (h n:Int):Int:=xorI (IntKind.u64.wrap (xorI h (IntKind.u64.wrap n) * 1099511628211)) ((IntKind.u64.wrap (xorI h (IntKind.u64.wrap n) * 1099511628211)).fdiv (2 ^ min (29:Int).toNat IntKind.u64.bits))
def stepI (h x:Int):Int:=mixI h (IntKind.i64.wrap x)
def chainI (key parent:Int) (l:List Int):Int:=mixI (l.foldl stepI (mixI (mixI 14695981039346656037 key) (IntKind.i64.wrap parent))) l.length
/-! The bytes of an atlas. -/
structure Atl where
 number:Int
 tick:Int
 routes:List (Int×Int)
 parent:Int
 sum:Int
def routeB (r:Int×Int):List Int:=intBy r.1++intBy r.2
def bodyI (a:Atl):List Int:=intBy a.number++intBy a.tick++intBy a.routes.length++a.routes.flatMap routeB
structure AtlIn (a:Atl):Prop where
 n:in64 a.number
 t:in64 a.tick
 len:a.routes.length≤1000
 r:∀ x ∈ a.routes,in64 x.1∧in64 x.2
theorem AtlIn.at_ {a:Atl} (h:AtlIn a) {i:Int} (hi:0≤i∧i<a.routes.length):in64 (a.routes.getD i.toNat (0,0)).1∧in64 (a.routes.getD i.toNat (0,0)).2:=by
 rw[List.getD_eq_getElem?_getD,List.getElem?_eq_getElem (by omega)]
 exact h.r _ (List.getElem_mem _)
structure HasCfg (mem:AM) (N:CN) (c:Cfg):Prop where
 rz:HasRow mem N.z 1 intC 0 c.zones
 rc:HasRow mem N.c 2 pairC (0,0) c.cells
 rt:HasRow mem N.t 7 tenC default c.tenants
 rv:HasRow mem N.v 2 pairC (0,0) c.versions
 rr:HasRow mem N.r 1 intC 0 c.replicas
 ro:HasRow mem N.o 1 intC 0 c.observers
theorem HasCfg.keeps {mem:AM} {N:CN} {c:Cfg} (h:keeps mem (cfgM N c)):HasCfg mem N c:=
 ⟨⟨_,_,_,h.1,Nat.le_refl _,fun k hk=>rfl⟩,⟨_,_,_,h.2.1,Nat.le_refl _,fun k hk=>rfl⟩,⟨_,_,_,h.2.2.1,Nat.le_refl _,fun k hk=>rfl⟩,⟨_,_,_,h.2.2.2.1,Nat.le_refl _,fun k hk=>rfl⟩,⟨_,_,_,h.2.2.2.2.1,Nat.le_refl _,fun k hk=>rfl⟩,⟨_,_,_,h.2.2.2.2.2.1,Nat.le_refl _,fun k hk=>rfl⟩⟩
theorem Sat.cfgH {C:Ctx} {ρ:Nat→Pl} {fr:AF} {mem:AM} {nx:Nat} {a:Act} {w:World} (h:Sat C ρ fr mem nx a w) {N:CN} {x:CfgK} {c:Cfg} (hk:HasCfg mem N c):CfgOk w (·<w.heap.size) (cfgX ρ N x) c:=
 ⟨h.hasRd (enc:=intC) (sz:=1) (fun _=>rfl) (by omega) hk.rz,h.hasRd (enc:=pairC) (sz:=2) (fun _=>rfl) (by omega) hk.rc,h.hasRd (enc:=tenC) (sz:=7) (fun _=>rfl) (by omega) hk.rt,h.hasRd (enc:=pairC) (sz:=2) (fun _=>rfl) (by omega) hk.rv,h.hasRd (enc:=intC) (sz:=1) (fun _=>rfl) (by omega) hk.rr,h.hasRd (enc:=intC) (sz:=1) (fun _=>rfl) (by omega) hk.ro⟩
/-! atlas.Make,ref15.Make -/
structure CfgBox (w:World) (g:Nat) (x:CfgA) (c:Cfg) (wr:World):Prop where
 box:Blk wr g 31 (cfgC x c)
 ok:CfgOk wr (·<g) x c
 below:Below w.heap.size w wr
 le:w.heap.size≤g
theorem CfgBox.alloc {w:World} {g:Nat} {x:CfgA} {c:Cfg} {wr:World} (h:CfgBox w g x c wr) (o:Obj):CfgBox w g x c (wr.alloc o):=
 ⟨h.box.alloc o,h.ok.keep fun k hk=>Below.heap_alloc _ _ _ (Nat.lt_trans hk h.box.lt),h.below.alloc h.below.size o,h.le⟩
theorem CfgBox.new {w:World} {x:CfgA} {c:Cfg} (h:CfgOk w (·<w.heap.size) x c):CfgBox w w.heap.size x c (w.alloc (.cells (cfgC x c) 31)):=
 ⟨Blk.new _ _ _,h.keep fun k hk=>Below.heap_alloc _ _ _ hk,(Below.refl _ _).alloc (Nat.le_refl _) _,Nat.le_refl _⟩
theorem CfgBox.later {w:World} {g:Nat} {x:CfgA} {c:Cfg} {wr wx:World} (h:CfgBox w g x c wr) (hb:Below wr.heap.size wr wx):CfgBox w g x c wx:=
 ⟨h.box.below hb h.box.lt,h.ok.keep fun k hk=>hb.block k (Nat.lt_trans hk h.box.lt),h.below.trans (hb.mono h.below.size),h.le⟩
/-! tenant.Valid,atlas.Valid -/
/-! atlas.Valid,ref15.Valid -/
def RouteOk (c:Cfg) (r:Int×Int):Prop:=(-1≤r.1∧r.1<c.cells.length)∧0≤r.2∧r.2≤1048576
structure ValidA (c:Cfg) (a:Atl) (key:Int):Prop where
 cfg:cfgErr c=0
 len:a.routes.length=c.tenants.length
 n:0≤a.number∧a.number≤4096
 t:0≤a.tick∧a.tick≤1073741824
 r:∀ k,k<a.routes.length→RouteOk c (a.routes.getD k (0,0))
 sum:a.sum=chainI key a.parent (bodyI a)
/-! law15.awake -/
/-! ref15.Same,of equal atlases -/
/-! Lists of atlases: rows of the wider kind. -/
abbrev aZ:Atl:=⟨0,0,[],0,0⟩
abbrev rowSB (l:List (Int×Int)):SB:=⟨2,l.length,fun j=>pairC (l.getD j (0,0))⟩
def famA (xs:List Atl):Nat→Nat→SB:=fun k o=>match o with
 | 2=>rowSB (xs.getD k aZ).routes
 | _=>emptySB
abbrev famB (t:TypeId) (xs:List Atl):ABlk:=.ext (.fam t (famA xs))
abbrev rtS (u k:Nat) (a:Atl) (cp:Nat):Value:=.slice (some ⟨u,2,some k⟩) a.routes.length cp
theorem SrcR.fam {mem:AM} {u k cp:Nat} {t:TypeId} {xs:List Atl} (h:lk mem u=some (famB t xs)):SrcR mem 2 pairC (0,0) (xs.getD k aZ).routes (rtS u k (xs.getD k aZ) cp):=
 .inr (.inr ⟨u,2,k,cp,rfl,t,famA xs,h,rfl,Nat.le_refl _,fun _ _=>rfl⟩)
/-! A callee hands back a row of the wider kind. -/
/-! make.State,exactly. -/
def msXF:FT:=[(65,ctLogX),(64,ctFoldR)]
theorem msXFok:FTok Tryz.prog msXF:=ft_cons logXOk (ft_cons foldROk ft_nil)
def msXD:List (Nat×DQ):=[(1,{ k:=13,L:=[13],A:=[10],pre:=[(0,false),(1,false),(2,false),(3,false),(4,true),(5,true),(6,false),(7,false),(8,false),(9,false)],post:=[(11,true),(12,false)] })]
set_option maxRecDepth 100000 in
set_option maxHeartbeats 8000000 in
theorem mkStateX_sx (d:UD) (x:CfgK) (cap0:Nat) (n:Int) (hV:CfgV d.c) (hz:d.l0.length≤400) (hn:0≤n∧n≤1000) :
  sx tt msXF msXD (bodyOf Tryz.f19) (argF 0 [slc 0 d.l0.length cap0,cfgV CNu x d.c,.int .i64 n]) (uniM d) 13 (endx tt Tryz.f19.results.toList fun v mem' _=>∃ es s y,(Run d.c (stNew d.c) es s∧StX d.l0 d.c n s)∧(es.length:Int)≤n∧v=stV ⟨18,17,500000⟩ y s∧keeps mem' (stM ⟨18,17,500000⟩ s)):=by
 have hnt:=hV.nt
 have hnc:=hV.nc
 refine⟨CNu,x,d.c,0,cap0,d.l0,n,rfl,⟨kp_,?_⟩,⟨hV,hz,hn⟩,?_⟩
 ·exact⟨_,_,_,rfl,Nat.le_refl _,fun k hk=>rfl⟩
 rintro es s cap2 ⟨hR,kx,hL1,hL2⟩ hen hcp
 refine⟨kp_,?_⟩
 refine⟨CNu,x,d.c,16,cap2,es,rfl,⟨kp_,⟨_,_,_,rfl,Nat.le_refl _,fun k hk=>rfl⟩⟩,⟨hV,by omega⟩,?_⟩
 intro y
 rw[hR.foldC]
 refine⟨kp_,?_⟩
 refine⟨kp_,?_⟩
 exact⟨es,s,y,⟨hR,kx,es,hL1,hL2⟩,hen,rfl,kp_⟩
theorem mkStateX_calls (x:CfgA) (c:Cfg) (A0:Option Addr) (cap0:Nat) (l:List Int) (n:Int) (w:World) (hV:CfgV c) (hz:l.length≤400) (hn:0≤n∧n≤1000) (hc:CfgOk w (·<w.heap.size) x c) (hr:Rd w (·<w.heap.size) A0 (flat intC l)) :
  Calls Tryz.prog 19 #[.slice A0 l.length cap0,.agg (cfgC x c),.int .i64 n] w fun e w'=>∃ es s y,e=.returned (.agg (stC y s))∧(Run c (stNew c) es s∧StX l c n s)∧(es.length:Int)≤n∧StOk w' (fun b=>w.heap.size≤b∧b<w'.heap.size) y s∧Below w.heap.size w w':=by
 have:=uni_calls ttOk (msXFok.i _) Tryz.func19 rfl (D:=msXD) (by kernel_rfl) (vs:=[slc 0 l.length cap0,cfgV CNu (ck x) c,.int .i64 n]) rfl { a0:=A0,x:=x } { l0:=l,c:=c } w { r0:=hr,c:=hc } (fun v hv=>by
  simp only[List.mem_cons,List.not_mem_nil,or_false] at hv
  rcases hv with rfl | rfl | rfl
  ·exact⟨show (0:Nat)<13 by decide,rfl⟩
  ·exact upl_cfg_ok { a0:=A0,x:=x } { l0:=l,c:=c }
  ·trivial) (mkStateX_sx { l0:=l,c:=c } (ck x) cap0 n hV hz hn)
 rw[List.map_cons,List.map_cons] at this
 have e0:=upl_cfg { a0:=A0,x:=x } { l0:=l,c:=c }
 dsimp only at e0 this
 rw[e0] at this
 refine this.mono ?_
 rintro e w' ⟨v,mem',nx',ρ',rfl,⟨es,s,y,hR,hen,rfl,k1,k2,-⟩,hv,hm',hb⟩
 refine⟨es,s,⟨(ρ' 18).A,y.ct,(ρ' 17).A,y.cc⟩,?_,hR,hen,⟨?_,?_⟩,hb⟩
 ·rw[den_st]
  rfl
 ·exact (hm'.blk 18 _ k1).fresh (enc:=tsC) default rfl rfl (fun k hk=>rfl) (fun _=>rfl) (by omega)
 ·exact (hm'.blk 17 _ k2).fresh (enc:=csC) default rfl rfl (fun k hk=>rfl) (fun _=>rfl) (by omega)
def ctStateX:CT:=fun vs mem nx K=>∃ N x c v l n,vs=[v,cfgV N x c,.int .i64 n]∧(HasCfg mem N c∧SrcR mem 1 intC 0 (l:List Int) v)∧(CfgV c∧l.length≤400∧0≤n∧n≤1000)∧∀ es s y,(Run c (stNew c) es s∧StX l c n s)→(es.length:Int)≤n→K (stV ⟨nx+1,nx,500000⟩ y s) (stM ⟨nx+1,nx,500000⟩ s++mem) (nx+2)
theorem stateXOk:CSound Tryz.prog 19 ctStateX:=⟨by kernel_rfl,fun {C ρ fr mem nx a w vs K} hc hs hv=>by
 obtain⟨N,x,c,v,l,n,rfl,⟨hk,hr⟩,⟨hV,hl,hn⟩,hK⟩:=hc
 obtain⟨A,cap,e0,hr⟩:=hs.srcR (enc:=intC) (sz:=1) (fun _=>rfl) (by omega) hr
 have e0:([v,cfgV N x c,.int .i64 n].map (den ρ)).toArray=#[.slice A l.length cap,.agg (cfgC (cfgX ρ N x) c),.int .i64 n]:=by
  rw[List.map_cons,List.map_cons,den_cfg,e0]
  rfl
 rw[e0]
 refine (mkStateX_calls (cfgX ρ N x) c A cap l n w hV hl hn (hs.cfgH hk) hr).mono ?_
 rintro e w' ⟨es,s,y,rfl,hR,hen,hst,hb⟩
 obtain⟨q1,q2,q3,q4⟩:=hs.addSt hb hst
 exact⟨_,_,_,_,by rw[q2],hK es s ⟨y.ct,y.cc⟩ hR hen,q1,q3,q4⟩⟩
def ctApply:CT:=fun vs mem nx K=>∃ N x c M y s e,vs=[cfgV N x c,stV M y s,entV' e]∧keeps mem (cfgM N c)∧keeps mem (stM M s)∧CfgV c∧StInv c s∧∀ y2,K (.tuple #[stV ⟨nx+1,nx,500000⟩ y2 (applyP c s e).1,.int .i64 (applyP c s e).2]) (stM ⟨nx+1,nx,500000⟩ (applyP c s e).1++mem) (nx+2)
theorem applyOk:CSound Tryz.prog 31 ctApply:=⟨by kernel_rfl,fun {C ρ fr mem nx a w vs K} hc hs hv=>by
 obtain⟨N,x,c,M,y,s,e,rfl,hk1,hk2,hV,hI,hK⟩:=hc
 have e0:([cfgV N x c,stV M y s,entV' e].map (den ρ)).toArray=#[.agg (cfgC (cfgX ρ N x) c),.agg (stC (stX ρ M y) s),.agg (entC e).toArray]:=by
  rw[List.map_cons,List.map_cons,List.map_cons,den_cfg,den_st]
  simp[den,den2,den1,entC]
 rw[e0]
 refine (stApplyO_any (cfgX ρ N x) c (stX ρ M y) s e w hV (hs.cfg hk1 (fun b h _=>h)) hI (hs.st hk2 (fun b h _=>h))).mono ?_
 rintro r w' ⟨y2,rfl,ho,hb⟩
 obtain⟨q1,q2,q3,q4⟩:=hs.addSt hb (s:=(applyP c s e).1) ho.ok
 refine⟨.tuple #[stV ⟨nx+1,nx,500000⟩ ⟨y2.ct,y2.cc⟩ (applyP c s e).1,.int .i64 (applyP c s e).2],_,_,_,?_,hK ⟨y2.ct,y2.cc⟩,q1,?_,q4⟩
 ·rw[← q2]
  simp[den,den2,den1]
 ·intro u hu
  simp at hu
  rcases hu with rfl | rfl
  ·exact q3
  ·trivial⟩
end Go.Proofs.YtchhdflealgkaaaGreat
