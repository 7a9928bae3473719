import Derived.Test.YtjnndjnpcelafaaGreatPt32
namespace Go.Proofs.YtjnndjnpcelafaaGreat
set_option maxHeartbeats 16000000
set_option maxRecDepth 100000
open Go.RowKit
set_option linter.unusedSimpArgs false
set_option linter.unusedVariables false
theorem apGrant (x:CfgK) (c:Cfg) (y:StK) (s:St) (e:Ent) (hA:ArH c s e) (hk:e.kind=2):sx ttU arF arD (za1 Tryz.f37) (zb3 0 [zaX CN1 x c,stV SN1 y s,entV' e]) (rdM c s noS) 10 (zb8 ttU Tryz.f37.results.toList fun v mem' _=>ApS mem' v (zaZ c s e)):=by
 have hV:=hA.cfg;have hI:=hA.inv;have hE:=hA.ent;have hcn:=hA.cnt;have htk:=hA.tick;have hlt:=hI.lt;have hlc:=hI.lc;have hnt:=hV.nt;have hnc:=hV.nc;have hct:=hI.count;have hst:=hI.tick;have hev:=hI.evac;have hpv:=hI.proven;have htb:=hA.tB;have hP:zaD c s e=ze5 c s e:=by unfold zaD;simp[hk]
 have hf:=hE;simp[zca,zaN,inS,inR,fT,fC,fO,fE,fW,fN,hk] at hf;refine⟨CN1,x,c,e,rfl,kp_,hV,?_⟩;refine⟨fun h=>absurd h (by rw[hE];decide),fun _=>?_⟩;refine⟨fun h=>absurd (of_decide_eq_true h) o_,fun _=>?_⟩;refine⟨fun h=>absurd (of_decide_eq_true h) o_,fun _=>?_⟩;refine⟨SN1,y,s,rfl,⟨.list rfl,.list rfl⟩,⟨o_,o_⟩,?_⟩;intro y2;refine⟨fun h=>absurd h (by rw[hk];decide),fun _=>?_⟩;refine⟨fun _=>?_,fun h=>absurd h (by rw[hk];decide)⟩;rw[zaf (n:=s.count+1) o_];have hTi:=hI.ten _ (List.mem_of_getElem? (zbD (d:=default) (show e.tenant.toNat<s.tenants.length by omega)));obtain⟨hT1,hT2,hT3,hT4,hT5,hT6,hT7,hT8,hT9,hT10,hT11,hT12⟩:=hTi;have hi:e.tenant.toNat<s.tenants.length:=by omega
 refine⟨⟨nl_,o_,o_⟩,?_⟩;refine⟨Bool,fun b=>[(15,.bool b)],fun _=>[],fun b=>(b=true↔((s.tenants.getD e.tenant.toNat default).placed=false∨((s.tenants.getD e.tenant.toNat default).shed=true/\e.cell≠(s.tenants.getD e.tenant.toNat default).standby))),?_,?_⟩
 ·repeat' (first | refine⟨fun _=>?_,bt_⟩ | refine⟨bf_,fun _=>?_⟩ | refine⟨fun _=>?_,fun _=>?_⟩ | refine⟨⟨nl_,o_,o_⟩,?_⟩ | fail)
  all_goals (refine⟨_,?_,kp_,kp_⟩;dsimp only;grind)
 ·rintro b1 hb1;refine⟨⟨d_,rfl,rfl⟩,?_⟩;refine⟨fun h1=>?_,fun h1=>?_⟩
  ·refine⟨4,rfl,?_⟩;exact ApS.err (hA.err (by rw[hP,zd3];unfold zaA;grind) d_)
  ·refine⟨Bool,fun b=>[(39,.bool b)],fun _=>[],fun b=>(b=true↔(e.cell≠(s.tenants.getD e.tenant.toNat default).home/\e.cell≠(s.tenants.getD e.tenant.toNat default).standby/\e.cell≠(s.tenants.getD e.tenant.toNat default).target)),?_,?_⟩
   ·repeat' (first | refine⟨fun _=>?_,bt_⟩ | refine⟨bf_,fun _=>?_⟩ | refine⟨fun _=>?_,fun _=>?_⟩ | refine⟨⟨nl_,o_,o_⟩,?_⟩ | fail)
    all_goals (refine⟨_,?_,kp_,kp_⟩;dsimp only;grind)
   ·rintro b2 hb2;refine⟨⟨d_,rfl,rfl⟩,?_⟩;refine⟨fun h2=>?_,fun h2=>?_⟩
    ·refine⟨5,rfl,?_⟩;exact ApS.err (hA.err (by rw[hP,zd3];unfold zaA;grind) d_)
    ·refine⟨CN1,x,c,⟨15,14,0⟩,y2,_,_,⟨e.tick,s.count+1,s.tenants,s.cells,s.proven,s.evac,s.low,s.high⟩,e,rfl,⟨kp_,⟨rfl,rfl,.list rfl,.list rfl⟩⟩,⟨hV,by dsimp only;omega,by dsimp only;omega,o_,o_,o_,?_⟩,?_⟩
     ·show 0<=(s.tenants.getD e.tenant.toNat default).epoch/\(s.tenants.getD e.tenant.toNat default).epoch<=1048576;exact hT5
     ·have hgr:zbr c ⟨e.tick,s.count+1,s.tenants,s.cells,s.proven,s.evac,s.low,s.high⟩ e=zbr c s e:=rfl;rw[hgr];refine⟨fun h3=>?_,fun h3=>?_⟩
      ·have h3b:zbr c s e≠0:=by simpa using h3
       refine⟨_,rfl,?_⟩;exact ApS.err (hA.err (by rw[hP,zd3];unfold zaA;grind) h3b)
      ·have h3b:zbr c s e=0:=by simpa using h3
       refine⟨tsC { (s.tenants.getD e.tenant.toNat default) with win:=⟨e.cell,e.epoch,e.n,e.since,e.till⟩ },(by first | rfl | (show zbx _ _ (tsC (List.getD _ _ _))=_;rw[za7 hi];rfl)),?_⟩;rw[za6 (by first | exact hi | (rw[List.length_set];exact hi))];try rw[List.set_set]
       refine⟨tsC { (s.tenants.getD e.tenant.toNat default) with win:=⟨e.cell,e.epoch,e.n,e.since,e.till⟩,epoch:=e.epoch },(by first | rfl | (show zbx _ _ (tsC (List.getD _ _ _))=_;rw[za7 hi];rfl)),?_⟩;rw[za6 (by first | exact hi | (rw[List.length_set];exact hi))];try rw[List.set_set]
       have hgd:(s.tenants.set e.tenant.toNat { (s.tenants.getD e.tenant.toNat default) with win:=⟨e.cell,e.epoch,e.n,e.since,e.till⟩,epoch:=e.epoch }).getD e.tenant.toNat default={ (s.tenants.getD e.tenant.toNat default) with win:=⟨e.cell,e.epoch,e.n,e.since,e.till⟩,epoch:=e.epoch }:=za7 hi;refine⟨fun q1=>?_,fun q1=>?_⟩
       ·rw[hgd] at q1;have q2:e.cell=(s.tenants.getD e.tenant.toNat default).home:=by simpa using q1
        have hk0:zaD c s e=0:=by rw[hP,zd3];unfold zaA;grind
        have heff:zae s e=(⟨e.tick,s.count+1,s.tenants.set e.tenant.toNat { (s.tenants.getD e.tenant.toNat default) with win:=⟨e.cell,e.epoch,e.n,e.since,e.till⟩,epoch:=e.epoch },s.cells,s.proven,s.evac,s.low,s.high⟩:St):=by
         unfold zae zai zaK zav zfb zaA;simp only[hk];grind
        refine⟨CN1,x,c,⟨15,14,0⟩,y2,_,_,(⟨e.tick,s.count+1,s.tenants.set e.tenant.toNat { (s.tenants.getD e.tenant.toNat default) with win:=⟨e.cell,e.epoch,e.n,e.since,e.till⟩,epoch:=e.epoch },s.cells,s.proven,s.evac,s.low,s.high⟩:St),rfl,⟨kp_,⟨(by first | rfl | (simp)),rfl,⟨_,_,_,rfl,(by first | exact nl_ | (simp)),fun k hk=>rfl⟩,.list rfl⟩⟩,⟨hV,by simp;omega⟩,?_⟩;intro cap;refine⟨fun hov=>?_,fun hov=>?_⟩
        ·exact ApS.err (hA.over hk0 (by unfold zct;simp[hk]) (by rw[heff];exact zf8 hov))
        ·exact ApS.ok (M:=⟨15,14,0⟩) (y:=y2) (s:=(⟨e.tick,s.count+1,s.tenants.set e.tenant.toNat { (s.tenants.getD e.tenant.toNat default) with win:=⟨e.cell,e.epoch,e.n,e.since,e.till⟩,epoch:=e.epoch },s.cells,s.proven,s.evac,s.low,s.high⟩:St)) (by rw[hA.fine hk0 (fun _=>by rw[heff];exact zhE hov),heff]) (by first | rfl | (simp)) rfl ⟨_,_,_,rfl,rfl,(by first | exact nl_ | (simp)),fun k hk=>rfl⟩ ⟨_,_,_,rfl,rfl,nl_,fun k hk=>rfl⟩
       ·rw[hgd] at q1;have q2:¬ e.cell=(s.tenants.getD e.tenant.toNat default).home:=by simpa using q1
        refine⟨fun q3=>?_,fun q3=>?_⟩
        ·rw[hgd] at q3;refine⟨tsC { (s.tenants.getD e.tenant.toNat default) with win:=⟨e.cell,e.epoch,e.n,e.since,e.till⟩,epoch:=e.epoch,home:=e.cell },(by first | rfl | (show zbx _ _ (tsC (List.getD _ _ _))=_;rw[za7 hi];rfl)),?_⟩;rw[za6 (by first | exact hi | (rw[List.length_set];exact hi))];try rw[List.set_set]
         refine⟨tsC { (s.tenants.getD e.tenant.toNat default) with win:=⟨e.cell,e.epoch,e.n,e.since,e.till⟩,epoch:=e.epoch,home:=e.cell,standby:=-1 },(by first | rfl | (show zbx _ _ (tsC (List.getD _ _ _))=_;rw[za7 hi];rfl)),?_⟩;rw[za6 (by first | exact hi | (rw[List.length_set];exact hi))];try rw[List.set_set]
         refine⟨tsC { (s.tenants.getD e.tenant.toNat default) with win:=⟨e.cell,e.epoch,e.n,e.since,e.till⟩,epoch:=e.epoch,home:=e.cell,standby:=-1,next:=-1 },(by first | rfl | (show zbx _ _ (tsC (List.getD _ _ _))=_;rw[za7 hi];rfl)),?_⟩;rw[za6 (by first | exact hi | (rw[List.length_set];exact hi))];try rw[List.set_set]
         refine⟨tsC { (s.tenants.getD e.tenant.toNat default) with win:=⟨e.cell,e.epoch,e.n,e.since,e.till⟩,epoch:=e.epoch,home:=e.cell,standby:=-1,next:=-1,target:=-1 },(by first | rfl | (show zbx _ _ (tsC (List.getD _ _ _))=_;rw[za7 hi];rfl)),?_⟩;rw[za6 (by first | exact hi | (rw[List.length_set];exact hi))];try rw[List.set_set]
         refine⟨tsC { (s.tenants.getD e.tenant.toNat default) with win:=⟨e.cell,e.epoch,e.n,e.since,e.till⟩,epoch:=e.epoch,home:=e.cell,standby:=-1,next:=-1,target:=-1,shed:=false },(by first | rfl | (show zbx _ _ (tsC (List.getD _ _ _))=_;rw[za7 hi];rfl)),?_⟩;rw[za6 (by first | exact hi | (rw[List.length_set];exact hi))];try rw[List.set_set]
         have q4:e.cell=(s.tenants.getD e.tenant.toNat default).standby:=by simpa using q3
         have hk0:zaD c s e=0:=by rw[hP,zd3];unfold zaA;grind
         have heff:zae s e=(⟨e.tick,s.count+1,s.tenants.set e.tenant.toNat { (s.tenants.getD e.tenant.toNat default) with win:=⟨e.cell,e.epoch,e.n,e.since,e.till⟩,epoch:=e.epoch,home:=e.cell,standby:=-1,next:=-1,target:=-1,shed:=false },s.cells,s.proven,s.evac,s.low,s.high⟩:St):=by
          unfold zae zai zaK zav zfb zaA;simp only[hk];grind
         refine⟨CN1,x,c,⟨15,14,0⟩,y2,_,_,(⟨e.tick,s.count+1,s.tenants.set e.tenant.toNat { (s.tenants.getD e.tenant.toNat default) with win:=⟨e.cell,e.epoch,e.n,e.since,e.till⟩,epoch:=e.epoch,home:=e.cell,standby:=-1,next:=-1,target:=-1,shed:=false },s.cells,s.proven,s.evac,s.low,s.high⟩:St),rfl,⟨kp_,⟨(by first | rfl | (simp)),rfl,⟨_,_,_,rfl,(by first | exact nl_ | (simp)),fun k hk=>rfl⟩,.list rfl⟩⟩,⟨hV,by simp;omega⟩,?_⟩;intro cap;refine⟨fun hov=>?_,fun hov=>?_⟩
         ·exact ApS.err (hA.over hk0 (by unfold zct;simp[hk]) (by rw[heff];exact zf8 hov))
         ·exact ApS.ok (M:=⟨15,14,0⟩) (y:=y2) (s:=(⟨e.tick,s.count+1,s.tenants.set e.tenant.toNat { (s.tenants.getD e.tenant.toNat default) with win:=⟨e.cell,e.epoch,e.n,e.since,e.till⟩,epoch:=e.epoch,home:=e.cell,standby:=-1,next:=-1,target:=-1,shed:=false },s.cells,s.proven,s.evac,s.low,s.high⟩:St)) (by rw[hA.fine hk0 (fun _=>by rw[heff];exact zhE hov),heff]) (by first | rfl | (simp)) rfl ⟨_,_,_,rfl,rfl,(by first | exact nl_ | (simp)),fun k hk=>rfl⟩ ⟨_,_,_,rfl,rfl,nl_,fun k hk=>rfl⟩
        ·rw[hgd] at q3;refine⟨tsC { (s.tenants.getD e.tenant.toNat default) with win:=⟨e.cell,e.epoch,e.n,e.since,e.till⟩,epoch:=e.epoch,home:=e.cell },(by first | rfl | (show zbx _ _ (tsC (List.getD _ _ _))=_;rw[za7 hi];rfl)),?_⟩;rw[za6 (by first | exact hi | (rw[List.length_set];exact hi))];try rw[List.set_set]
         refine⟨tsC { (s.tenants.getD e.tenant.toNat default) with win:=⟨e.cell,e.epoch,e.n,e.since,e.till⟩,epoch:=e.epoch,home:=e.cell,target:=-1 },(by first | rfl | (show zbx _ _ (tsC (List.getD _ _ _))=_;rw[za7 hi];rfl)),?_⟩;rw[za6 (by first | exact hi | (rw[List.length_set];exact hi))];try rw[List.set_set]
         have q4:¬ e.cell=(s.tenants.getD e.tenant.toNat default).standby:=by simpa using q3
         have hk0:zaD c s e=0:=by rw[hP,zd3];unfold zaA;grind
         have heff:zae s e=(⟨e.tick,s.count+1,s.tenants.set e.tenant.toNat { (s.tenants.getD e.tenant.toNat default) with win:=⟨e.cell,e.epoch,e.n,e.since,e.till⟩,epoch:=e.epoch,home:=e.cell,target:=-1 },s.cells,s.proven,s.evac,s.low,s.high⟩:St):=by
          unfold zae zai zaK zav zfb zaA;simp only[hk];grind
         refine⟨CN1,x,c,⟨15,14,0⟩,y2,_,_,(⟨e.tick,s.count+1,s.tenants.set e.tenant.toNat { (s.tenants.getD e.tenant.toNat default) with win:=⟨e.cell,e.epoch,e.n,e.since,e.till⟩,epoch:=e.epoch,home:=e.cell,target:=-1 },s.cells,s.proven,s.evac,s.low,s.high⟩:St),rfl,⟨kp_,⟨(by first | rfl | (simp)),rfl,⟨_,_,_,rfl,(by first | exact nl_ | (simp)),fun k hk=>rfl⟩,.list rfl⟩⟩,⟨hV,by simp;omega⟩,?_⟩;intro cap;refine⟨fun hov=>?_,fun hov=>?_⟩
         ·exact ApS.err (hA.over hk0 (by unfold zct;simp[hk]) (by rw[heff];exact zf8 hov))
         ·exact ApS.ok (M:=⟨15,14,0⟩) (y:=y2) (s:=(⟨e.tick,s.count+1,s.tenants.set e.tenant.toNat { (s.tenants.getD e.tenant.toNat default) with win:=⟨e.cell,e.epoch,e.n,e.since,e.till⟩,epoch:=e.epoch,home:=e.cell,target:=-1 },s.cells,s.proven,s.evac,s.low,s.high⟩:St)) (by rw[hA.fine hk0 (fun _=>by rw[heff];exact zhE hov),heff]) (by first | rfl | (simp)) rfl ⟨_,_,_,rfl,rfl,(by first | exact nl_ | (simp)),fun k hk=>rfl⟩ ⟨_,_,_,rfl,rfl,nl_,fun k hk=>rfl⟩
theorem znL (x:CfgK) (c:Cfg) (y:StK) (s:St) (e:Ent) (hA:ArH c s e) (hk:e.kind=4):sx ttU arF arD (za1 Tryz.f37) (zb3 0 [zaX CN1 x c,stV SN1 y s,entV' e]) (rdM c s noS) 10 (zb8 ttU Tryz.f37.results.toList fun v mem' _=>ApS mem' v (zaZ c s e)):=by
 have hV:=hA.cfg;have hI:=hA.inv;have hE:=hA.ent;have hcn:=hA.cnt;have htk:=hA.tick;have hlt:=hI.lt;have hlc:=hI.lc;have hnt:=hV.nt;have hnc:=hV.nc;have hct:=hI.count;have hst:=hI.tick;have hev:=hI.evac;have hpv:=hI.proven;have htb:=hA.tB;have hP:zaD c s e=zbp c s e:=by unfold zaD;simp[hk]
 have hf:=hE;simp[zca,zaN,inS,inR,fT,fC,fO,fE,fW,fN,hk] at hf;refine⟨CN1,x,c,e,rfl,kp_,hV,?_⟩;refine⟨fun h=>absurd h (by rw[hE];decide),fun _=>?_⟩;refine⟨fun h=>absurd (of_decide_eq_true h) o_,fun _=>?_⟩;refine⟨fun h=>absurd (of_decide_eq_true h) o_,fun _=>?_⟩;refine⟨SN1,y,s,rfl,⟨.list rfl,.list rfl⟩,⟨o_,o_⟩,?_⟩;intro y2;refine⟨fun h=>absurd h (by rw[hk];decide),fun _=>?_⟩;refine⟨fun h=>absurd h (by rw[hk];decide),fun _=>?_⟩;refine⟨fun h=>absurd h (by rw[hk];decide),fun _=>?_⟩;refine⟨fun _=>?_,fun h=>absurd h (by rw[hk];decide)⟩;rw[zaf (n:=s.count+1) o_];have hTi:=hI.ten _ (List.mem_of_getElem? (zbD (d:=default) (show e.tenant.toNat<s.tenants.length by omega)));obtain⟨hT1,hT2,hT3,hT4,hT5,hT6,hT7,hT8,hT9,hT10,hT11,hT12⟩:=hTi;have hi:e.tenant.toNat<s.tenants.length:=by omega
 refine⟨⟨nl_,o_,o_⟩,?_⟩;refine⟨Unit,fun _=>[],fun _=>[],fun _=>zaD c s e=0,?_,?_⟩
 ·refine⟨fun h1=>?_,fun h1=>?_⟩
  ·repeat (first | refine⟨fun _=>?_,bt_⟩ | refine⟨bf_,fun _=>?_⟩)
   refine⟨4,rfl,?_⟩;exact ApS.err (hA.err (by rw[hP];unfold zbp zaA zaQ zbh;grind) d_)
  ·refine⟨fun h0=>?_,fun h0=>?_⟩
   ·refine⟨(),?_,kp_,kp_⟩;rw[hP];unfold zbp zaA zaQ zbh;grind
   ·have h0b:0<=e.cell:=by have:=of_decide_eq_false h0;omega
    refine⟨Bool,fun b=>[(27,.bool b)],fun _=>[],fun b=>(b=true↔(e.cell=(s.tenants.getD e.tenant.toNat default).home∨e.cell=(s.tenants.getD e.tenant.toNat default).standby∨e.cell=(s.tenants.getD e.tenant.toNat default).target)),?_,?_⟩
    ·repeat' (first | refine⟨fun _=>?_,bt_⟩ | refine⟨bf_,fun _=>?_⟩ | refine⟨fun _=>?_,fun _=>?_⟩ | refine⟨⟨nl_,o_,o_⟩,?_⟩ | fail)
     all_goals (refine⟨_,?_,kp_,kp_⟩;dsimp only;grind)
    ·rintro b1 hb1;refine⟨⟨d_,rfl,rfl⟩,?_⟩;refine⟨fun h2=>?_,fun h2=>?_⟩
     ·repeat (first | refine⟨fun _=>?_,bt_⟩ | refine⟨bf_,fun _=>?_⟩)
      refine⟨5,rfl,?_⟩;exact ApS.err (hA.err (by rw[hP];unfold zbp zaA zaQ zbh;grind) d_)
     ·refine⟨⟨nl_,o_,o_⟩,?_⟩;refine⟨fun h3=>?_,fun h3=>?_⟩
      ·repeat (first | refine⟨fun _=>?_,bt_⟩ | refine⟨bf_,fun _=>?_⟩)
       refine⟨6,rfl,?_⟩;exact ApS.err (hA.err (by rw[hP];unfold zbp zaA zaQ zbh;grind) d_)
      ·refine⟨CN1,x,c,⟨15,14,0⟩,y2,_,_,⟨e.tick,s.count+1,s.tenants,s.cells,s.proven,s.evac,s.low,s.high⟩,e.cell,rfl,⟨kp_,⟨rfl,rfl,.list rfl,.list rfl⟩⟩,⟨hV,by dsimp only;omega⟩,?_⟩;refine⟨fun h4=>?_,fun h4=>?_⟩
       ·replace h4:zb2 c s e.cell=true:=h4;repeat (first | refine⟨fun _=>?_,bt_⟩ | refine⟨bf_,fun _=>?_⟩)
        refine⟨12,rfl,?_⟩;exact ApS.err (hA.err (by rw[hP];unfold zbp zaA zaQ zbh;grind) d_)
       ·replace h4:zb2 c s e.cell=false:=h4;refine⟨Bool,fun b=>[(77,.bool b)],fun _=>[],fun b=>(b=true↔(ze4 c e.tenant e.cell=false∨zil c e.cell (s.tenants.getD e.tenant.toNat default).home=true∨zil c e.cell (s.tenants.getD e.tenant.toNat default).target=true)),?_,?_⟩
        ·repeat' (first | refine⟨fun _=>?_,bt_⟩ | refine⟨bf_,fun _=>?_⟩ | refine⟨fun _=>?_,fun _=>?_⟩ | refine⟨⟨nl_,o_,o_⟩,?_⟩ | refine⟨CN1,x,c,_,_,rfl,kp_,hV,(show keeps _ _ from kp_),?_⟩ | refine⟨CN1,x,c,_,_,rfl,kp_,hV,?_⟩ | fail)
         all_goals (refine⟨_,?_,kp_,kp_⟩;dsimp only;grind)
        ·rintro b2 hb2;refine⟨⟨d_,rfl,rfl⟩,?_⟩;refine⟨fun h5=>?_,fun h5=>?_⟩
         ·unfold zil at hb2;repeat (first | refine⟨fun _=>?_,bt_⟩ | refine⟨bf_,fun _=>?_⟩)
          refine⟨11,rfl,?_⟩;exact ApS.err (hA.err (by rw[hP];unfold zbp zaA zaQ zbh;grind) d_)
         ·refine⟨(),?_,kp_,kp_⟩;rw[hP];unfold zil at hb2;unfold zbp zaA zaQ zbh;grind
 ·rintro-hmeet;refine⟨⟨d_,rfl,rfl⟩,?_⟩;refine⟨tsC { (s.tenants.getD e.tenant.toNat default) with next:=e.cell },(by first | rfl | (show zbx _ _ (tsC (List.getD _ _ _))=_;rw[za7 hi];rfl)),?_⟩;rw[za6 (by first | exact hi | (rw[List.length_set];exact hi))];try rw[List.set_set]
  have hk0:=hmeet;have heff:zae s e=(⟨e.tick,s.count+1,s.tenants.set e.tenant.toNat { (s.tenants.getD e.tenant.toNat default) with next:=e.cell },s.cells,s.proven,s.evac,s.low,s.high⟩:St):=by simp[zae,zai,zaK,zav,zaA,hk]
  refine⟨CN1,x,c,⟨15,14,0⟩,y2,_,_,(⟨e.tick,s.count+1,s.tenants.set e.tenant.toNat { (s.tenants.getD e.tenant.toNat default) with next:=e.cell },s.cells,s.proven,s.evac,s.low,s.high⟩:St),rfl,⟨kp_,⟨(by first | rfl | (simp)),rfl,⟨_,_,_,rfl,(by first | exact nl_ | (simp)),fun k hk=>rfl⟩,.list rfl⟩⟩,⟨hV,by simp;omega⟩,?_⟩;intro cap;refine⟨fun hov=>?_,fun hov=>?_⟩
  ·exact ApS.err (hA.over hk0 (by unfold zct;simp[hk]) (by rw[heff];exact zf8 hov))
  ·exact ApS.ok (M:=⟨15,14,0⟩) (y:=y2) (s:=(⟨e.tick,s.count+1,s.tenants.set e.tenant.toNat { (s.tenants.getD e.tenant.toNat default) with next:=e.cell },s.cells,s.proven,s.evac,s.low,s.high⟩:St)) (by rw[hA.fine hk0 (fun _=>by rw[heff];exact zhE hov),heff]) (by first | rfl | (simp)) rfl ⟨_,_,_,rfl,rfl,(by first | exact nl_ | (simp)),fun k hk=>rfl⟩ ⟨_,_,_,rfl,rfl,nl_,fun k hk=>rfl⟩
theorem znM (x:CfgK) (c:Cfg) (y:StK) (s:St) (e:Ent) (hA:ArH c s e) (hk:e.kind=6):sx ttU arF arD (za1 Tryz.f37) (zb3 0 [zaX CN1 x c,stV SN1 y s,entV' e]) (rdM c s noS) 10 (zb8 ttU Tryz.f37.results.toList fun v mem' _=>ApS mem' v (zaZ c s e)):=by
 have hV:=hA.cfg;have hI:=hA.inv;have hE:=hA.ent;have hcn:=hA.cnt;have htk:=hA.tick;have hlt:=hI.lt;have hlc:=hI.lc;have hnt:=hV.nt;have hnc:=hV.nc;have hct:=hI.count;have hst:=hI.tick;have hev:=hI.evac;have hpv:=hI.proven;have htb:=hA.tB;have hP:zaD c s e=zbC c s e:=by unfold zaD;simp[hk]
 have hf:=hE;simp[zca,zaN,inS,inR,fT,fC,fO,fE,fW,fN,hk] at hf;refine⟨CN1,x,c,e,rfl,kp_,hV,?_⟩;refine⟨fun h=>absurd h (by rw[hE];decide),fun _=>?_⟩;refine⟨fun h=>absurd (of_decide_eq_true h) o_,fun _=>?_⟩;refine⟨fun h=>absurd (of_decide_eq_true h) o_,fun _=>?_⟩;refine⟨SN1,y,s,rfl,⟨.list rfl,.list rfl⟩,⟨o_,o_⟩,?_⟩;intro y2;refine⟨fun h=>absurd h (by rw[hk];decide),fun _=>?_⟩;refine⟨fun h=>absurd h (by rw[hk];decide),fun _=>?_⟩;refine⟨fun h=>absurd h (by rw[hk];decide),fun _=>?_⟩;refine⟨fun h=>absurd h (by rw[hk];decide),fun _=>?_⟩;refine⟨fun h=>absurd h (by rw[hk];decide),fun _=>?_⟩;refine⟨fun _=>?_,fun h=>absurd h (by rw[hk];decide)⟩;rw[zaf (n:=s.count+1) o_];have hTi:=hI.ten _ (List.mem_of_getElem? (zbD (d:=default) (show e.tenant.toNat<s.tenants.length by omega)));obtain⟨hT1,hT2,hT3,hT4,hT5,hT6,hT7,hT8,hT9,hT10,hT11,hT12⟩:=hTi;have hi:e.tenant.toNat<s.tenants.length:=by omega
 refine⟨⟨nl_,o_,o_⟩,?_⟩;refine⟨Bool,fun b=>[(14,.bool b)],fun _=>[],fun b=>(b=true↔((s.tenants.getD e.tenant.toNat default).placed=false∨(s.tenants.getD e.tenant.toNat default).shed=true∨0<=(s.tenants.getD e.tenant.toNat default).target)),?_,?_⟩
 ·repeat' (first | refine⟨fun _=>?_,bt_⟩ | refine⟨bf_,fun _=>?_⟩ | refine⟨fun _=>?_,fun _=>?_⟩ | refine⟨⟨nl_,o_,o_⟩,?_⟩ | fail)
  all_goals (refine⟨_,?_,kp_,kp_⟩;dsimp only;grind)
 ·rintro b1 hb1;refine⟨⟨d_,rfl,rfl⟩,?_⟩;refine⟨fun h1=>?_,fun h1=>?_⟩
  ·repeat (first | refine⟨fun _=>?_,bt_⟩ | refine⟨bf_,fun _=>?_⟩)
   refine⟨4,rfl,?_⟩;exact ApS.err (hA.err (by rw[hP];unfold zbC zaA zaQ zbh;grind) d_)
  ·refine⟨Bool,fun b=>[(36,.bool b)],fun _=>[],fun b=>(b=true↔(e.cell=(s.tenants.getD e.tenant.toNat default).home∨e.cell=(s.tenants.getD e.tenant.toNat default).standby∨e.cell=(s.tenants.getD e.tenant.toNat default).next)),?_,?_⟩
   ·repeat' (first | refine⟨fun _=>?_,bt_⟩ | refine⟨bf_,fun _=>?_⟩ | refine⟨fun _=>?_,fun _=>?_⟩ | refine⟨⟨nl_,o_,o_⟩,?_⟩ | fail)
    all_goals (refine⟨_,?_,kp_,kp_⟩;dsimp only;grind)
   ·rintro b2 hb2;refine⟨⟨d_,rfl,rfl⟩,?_⟩;refine⟨fun h2=>?_,fun h2=>?_⟩
    ·repeat (first | refine⟨fun _=>?_,bt_⟩ | refine⟨bf_,fun _=>?_⟩)
     refine⟨5,rfl,?_⟩;exact ApS.err (hA.err (by rw[hP];unfold zbC zaA zaQ zbh;grind) d_)
    ·refine⟨⟨nl_,o_,o_⟩,?_⟩;refine⟨fun h3=>?_,fun h3=>?_⟩
     ·repeat (first | refine⟨fun _=>?_,bt_⟩ | refine⟨bf_,fun _=>?_⟩)
      refine⟨6,rfl,?_⟩;exact ApS.err (hA.err (by rw[hP];unfold zbC zaA zaQ zbh;grind) d_)
     ·refine⟨CN1,x,c,⟨15,14,0⟩,y2,_,_,⟨e.tick,s.count+1,s.tenants,s.cells,s.proven,s.evac,s.low,s.high⟩,e.cell,rfl,⟨kp_,⟨rfl,rfl,.list rfl,.list rfl⟩⟩,⟨hV,by dsimp only;omega⟩,?_⟩;refine⟨fun h4=>?_,fun h4=>?_⟩
      ·replace h4:zb2 c s e.cell=true:=h4;repeat (first | refine⟨fun _=>?_,bt_⟩ | refine⟨bf_,fun _=>?_⟩)
       refine⟨12,rfl,?_⟩;exact ApS.err (hA.err (by rw[hP];unfold zbC zaA zaQ zbh;grind) d_)
      ·replace h4:zb2 c s e.cell=false:=h4;refine⟨Bool,fun b=>[(86,.bool b)],fun _=>[],fun b=>(b=true↔(ze4 c e.tenant e.cell=false∨zil c e.cell (s.tenants.getD e.tenant.toNat default).standby=true∨zil c e.cell (s.tenants.getD e.tenant.toNat default).next=true)),?_,?_⟩
       ·repeat' (first | refine⟨fun _=>?_,bt_⟩ | refine⟨bf_,fun _=>?_⟩ | refine⟨fun _=>?_,fun _=>?_⟩ | refine⟨⟨nl_,o_,o_⟩,?_⟩ | refine⟨CN1,x,c,_,_,rfl,kp_,hV,(show keeps _ _ from kp_),?_⟩ | refine⟨CN1,x,c,_,_,rfl,kp_,hV,?_⟩ | fail)
        all_goals (refine⟨_,?_,kp_,kp_⟩;dsimp only;grind)
       ·rintro b3 hb3;refine⟨⟨d_,rfl,rfl⟩,?_⟩;unfold zil at hb3;refine⟨fun h5=>?_,fun h5=>?_⟩
        ·repeat (first | refine⟨fun _=>?_,bt_⟩ | refine⟨bf_,fun _=>?_⟩)
         refine⟨11,rfl,?_⟩;exact ApS.err (hA.err (by rw[hP];unfold zbC zaA zaQ zbh;grind) d_)
        ·refine⟨tsC { (s.tenants.getD e.tenant.toNat default) with target:=e.cell },(by first | rfl | (show zbx _ _ (tsC (List.getD _ _ _))=_;rw[za7 hi];rfl)),?_⟩;rw[za6 (by first | exact hi | (rw[List.length_set];exact hi))];try rw[List.set_set]
         have hk0:zaD c s e=0:=by rw[hP];unfold zbC zaA zaQ zbh;grind
         have heff:zae s e=(⟨e.tick,s.count+1,s.tenants.set e.tenant.toNat { (s.tenants.getD e.tenant.toNat default) with target:=e.cell },s.cells,s.proven,s.evac,s.low,s.high⟩:St):=by simp[zae,zai,zaK,zav,zaA,hk]
         refine⟨CN1,x,c,⟨15,14,0⟩,y2,_,_,(⟨e.tick,s.count+1,s.tenants.set e.tenant.toNat { (s.tenants.getD e.tenant.toNat default) with target:=e.cell },s.cells,s.proven,s.evac,s.low,s.high⟩:St),rfl,⟨kp_,⟨(by first | rfl | (simp)),rfl,⟨_,_,_,rfl,(by first | exact nl_ | (simp)),fun k hk=>rfl⟩,.list rfl⟩⟩,⟨hV,by simp;omega⟩,?_⟩;intro cap;refine⟨fun hov=>?_,fun hov=>?_⟩
         ·exact ApS.err (hA.over hk0 (by unfold zct;simp[hk]) (by rw[heff];exact zf8 hov))
         ·exact ApS.ok (M:=⟨15,14,0⟩) (y:=y2) (s:=(⟨e.tick,s.count+1,s.tenants.set e.tenant.toNat { (s.tenants.getD e.tenant.toNat default) with target:=e.cell },s.cells,s.proven,s.evac,s.low,s.high⟩:St)) (by rw[hA.fine hk0 (fun _=>by rw[heff];exact zhE hov),heff]) (by first | rfl | (simp)) rfl ⟨_,_,_,rfl,rfl,(by first | exact nl_ | (simp)),fun k hk=>rfl⟩ ⟨_,_,_,rfl,rfl,nl_,fun k hk=>rfl⟩
theorem apShed (x:CfgK) (c:Cfg) (y:StK) (s:St) (e:Ent) (hA:ArH c s e) (hk:e.kind=8):sx ttU arF arD (za1 Tryz.f37) (zb3 0 [zaX CN1 x c,stV SN1 y s,entV' e]) (rdM c s noS) 10 (zb8 ttU Tryz.f37.results.toList fun v mem' _=>ApS mem' v (zaZ c s e)):=by
 have hV:=hA.cfg;have hI:=hA.inv;have hE:=hA.ent;have hcn:=hA.cnt;have htk:=hA.tick;have hlt:=hI.lt;have hlc:=hI.lc;have hnt:=hV.nt;have hnc:=hV.nc;have hct:=hI.count;have hst:=hI.tick;have hev:=hI.evac;have hpv:=hI.proven;have htb:=hA.tB;have hP:zaD c s e=zee s e:=by unfold zaD;simp[hk]
 have hf:=hE;simp[zca,zaN,inS,inR,fT,fC,fO,fE,fW,fN,hk] at hf;refine⟨CN1,x,c,e,rfl,kp_,hV,?_⟩;refine⟨fun h=>absurd h (by rw[hE];decide),fun _=>?_⟩;refine⟨fun h=>absurd (of_decide_eq_true h) o_,fun _=>?_⟩;refine⟨fun h=>absurd (of_decide_eq_true h) o_,fun _=>?_⟩;refine⟨SN1,y,s,rfl,⟨.list rfl,.list rfl⟩,⟨o_,o_⟩,?_⟩;intro y2;refine⟨fun h=>absurd h (by rw[hk];decide),fun _=>?_⟩;refine⟨fun h=>absurd h (by rw[hk];decide),fun _=>?_⟩;refine⟨fun h=>absurd h (by rw[hk];decide),fun _=>?_⟩;refine⟨fun h=>absurd h (by rw[hk];decide),fun _=>?_⟩;refine⟨fun h=>absurd h (by rw[hk];decide),fun _=>?_⟩;refine⟨fun h=>absurd h (by rw[hk];decide),fun _=>?_⟩;refine⟨fun h=>absurd h (by rw[hk];decide),fun _=>?_⟩;refine⟨fun _=>?_,fun h=>absurd h (by rw[hk];decide)⟩;rw[zaf (n:=s.count+1) o_];have hTi:=hI.ten _ (List.mem_of_getElem? (zbD (d:=default) (show e.tenant.toNat<s.tenants.length by omega)));obtain⟨hT1,hT2,hT3,hT4,hT5,hT6,hT7,hT8,hT9,hT10,hT11,hT12⟩:=hTi;have hi:e.tenant.toNat<s.tenants.length:=by omega
 refine⟨⟨nl_,o_,o_⟩,?_⟩;refine⟨fun hn=>?_,fun hn=>?_⟩
 ·have hn1:e.n=1:=by simpa using hn
  refine⟨Bool,fun b=>[(17,.bool b)],fun _=>[],fun b=>(b=true↔((s.tenants.getD e.tenant.toNat default).placed=false∨(s.tenants.getD e.tenant.toNat default).shed=true)),?_,?_⟩
  ·repeat' (first | refine⟨fun _=>?_,bt_⟩ | refine⟨bf_,fun _=>?_⟩ | refine⟨fun _=>?_,fun _=>?_⟩ | refine⟨⟨nl_,o_,o_⟩,?_⟩ | fail)
   all_goals (refine⟨_,?_,kp_,kp_⟩;dsimp only;grind)
  ·rintro b1 hb1;refine⟨⟨d_,rfl,rfl⟩,?_⟩;refine⟨fun h1=>?_,fun h1=>?_⟩
   ·repeat (first | refine⟨fun _=>?_,bt_⟩ | refine⟨bf_,fun _=>?_⟩)
    refine⟨4,rfl,?_⟩;exact ApS.err (hA.err (by rw[hP];unfold zee zaA zaQ;grind) d_)
   ·refine⟨fun h2=>?_,fun h2=>?_⟩
    ·repeat (first | refine⟨fun _=>?_,bt_⟩ | refine⟨bf_,fun _=>?_⟩)
     refine⟨9,rfl,?_⟩;exact ApS.err (hA.err (by rw[hP];unfold zee zaA zaQ;grind) d_)
    ·refine⟨tsC { (s.tenants.getD e.tenant.toNat default) with shed:=true },(by first | rfl | (show zbx _ _ (tsC (List.getD _ _ _))=_;rw[za7 hi];rfl)),?_⟩;rw[za6 (by first | exact hi | (rw[List.length_set];exact hi))];try rw[List.set_set]
     refine⟨tsC { (s.tenants.getD e.tenant.toNat default) with shed:=true,target:=-1 },(by first | rfl | (show zbx _ _ (tsC (List.getD _ _ _))=_;rw[za7 hi];rfl)),?_⟩;rw[za6 (by first | exact hi | (rw[List.length_set];exact hi))];try rw[List.set_set]
     have hk0:zaD c s e=0:=by rw[hP];unfold zee zaA zaQ;grind
     have heff:zae s e=(⟨e.tick,s.count+1,s.tenants.set e.tenant.toNat { (s.tenants.getD e.tenant.toNat default) with shed:=true,target:=-1 },s.cells,s.proven,s.evac,s.low,s.high⟩:St):=by simp[zae,zai,zaK,zbc,zav,zaR,zaA,zaQ,hk,hn1]
     exact ApS.ok (M:=⟨15,14,0⟩) (y:=y2) (s:=(⟨e.tick,s.count+1,s.tenants.set e.tenant.toNat { (s.tenants.getD e.tenant.toNat default) with shed:=true,target:=-1 },s.cells,s.proven,s.evac,s.low,s.high⟩:St)) (by rw[hA.fine hk0 (fun q=>absurd q (by unfold zct;simp[hk,hn1])),heff]) (by first | rfl | (simp)) (by first | rfl | (simp)) ⟨_,_,_,rfl,rfl,(by first | exact nl_ | (simp)),fun k hk=>rfl⟩ ⟨_,_,_,rfl,rfl,(by first | exact nl_ | (simp)),fun k hk=>rfl⟩
 ·have hn1:¬ e.n=1:=by simpa using hn
  have hn0:e.n=0:=by omega
  refine⟨fun h1=>?_,fun h1=>?_⟩
  ·repeat (first | refine⟨fun _=>?_,bt_⟩ | refine⟨bf_,fun _=>?_⟩)
   refine⟨4,rfl,?_⟩;exact ApS.err (hA.err (by rw[hP];unfold zee zaA zaQ;grind) d_)
  ·have hsh:(s.tenants.getD e.tenant.toNat default).shed=true:=by simpa using h1
   have hhm:=hT11 (hT12 hsh);refine⟨⟨nl_,o_,o_⟩,?_⟩;refine⟨fun h2=>?_,fun h2=>?_⟩
   ·repeat (first | refine⟨fun _=>?_,bt_⟩ | refine⟨bf_,fun _=>?_⟩)
    refine⟨6,rfl,?_⟩;exact ApS.err (hA.err (by rw[hP];unfold zee zaA zaQ;grind) d_)
   ·refine⟨tsC { (s.tenants.getD e.tenant.toNat default) with shed:=false },(by first | rfl | (show zbx _ _ (tsC (List.getD _ _ _))=_;rw[za7 hi];rfl)),?_⟩;rw[za6 (by first | exact hi | (rw[List.length_set];exact hi))];try rw[List.set_set]
    have hk0:zaD c s e=0:=by rw[hP];unfold zee zaA zaQ;grind
    have heff:zae s e=(⟨e.tick,s.count+1,s.tenants.set e.tenant.toNat { (s.tenants.getD e.tenant.toNat default) with shed:=false },s.cells,s.proven,s.evac,s.low,s.high⟩:St):=by simp[zae,zai,zaK,zav,zaA,hk,hn0]
    refine⟨CN1,x,c,⟨15,14,0⟩,y2,_,_,(⟨e.tick,s.count+1,s.tenants.set e.tenant.toNat { (s.tenants.getD e.tenant.toNat default) with shed:=false },s.cells,s.proven,s.evac,s.low,s.high⟩:St),rfl,⟨kp_,⟨(by first | rfl | (simp)),rfl,⟨_,_,_,rfl,(by first | exact nl_ | (simp)),fun k hk=>rfl⟩,.list rfl⟩⟩,⟨hV,by simp;omega⟩,?_⟩;intro cap;refine⟨fun hov=>?_,fun hov=>?_⟩
    ·exact ApS.err (hA.over hk0 (by unfold zct;simp[hk,hn0]) (by rw[heff];exact zf8 hov))
    ·exact ApS.ok (M:=⟨15,14,0⟩) (y:=y2) (s:=(⟨e.tick,s.count+1,s.tenants.set e.tenant.toNat { (s.tenants.getD e.tenant.toNat default) with shed:=false },s.cells,s.proven,s.evac,s.low,s.high⟩:St)) (by rw[hA.fine hk0 (fun _=>by rw[heff];exact zhE hov),heff]) (by first | rfl | (simp)) rfl ⟨_,_,_,rfl,rfl,(by first | exact nl_ | (simp)),fun k hk=>rfl⟩ ⟨_,_,_,rfl,rfl,nl_,fun k hk=>rfl⟩
theorem zjC (n:Int) (h0:0<=n) (h1:n<30):IntKind.i64.wrap (1 * 2 ^ min (IntKind.u64.wrap n).toNat IntKind.i64.bits)=2 ^ n.toNat:=by
 have e1:IntKind.u64.wrap n=n:=by rw[IntKind.wrap_u64];omega
 have e2:min n.toNat IntKind.i64.bits=n.toNat:=Nat.min_eq_left (by show n.toNat<=64;omega);have hp:(2:Int) ^ n.toNat=((2 ^ n.toNat:Nat):Int):=by simp
 have hq:2 ^ n.toNat<2 ^ 30:=Nat.pow_lt_pow_right o_ o_;rw[e1,e2,Int.one_mul,hp];generalize 2 ^ n.toNat=q at hq ⊢;exact zaf o_
theorem zgj (n:Int) (h0:0<=n) (h1:n<30):0<=IntKind.u64.wrap n:=by rw[IntKind.wrap_u64];omega
abbrev orRaw (a n:Int):Int:=IntKind.i64.wrap ((BitVec.ofInt IntKind.i64.bits a ||| BitVec.ofInt IntKind.i64.bits (IntKind.i64.wrap (1 * 2 ^ min (IntKind.u64.wrap n).toNat IntKind.i64.bits))).toNat:Nat)
abbrev zls (a n:Int):Int:=IntKind.i64.wrap ((BitVec.ofInt IntKind.i64.bits a ^^^ BitVec.ofInt IntKind.i64.bits (IntKind.i64.wrap (1 * 2 ^ min (IntKind.u64.wrap n).toNat IntKind.i64.bits))).toNat:Nat)
theorem orRaw_eq (a n:Int) (h0:0<=a) (h1:a<1073741824) (hn:0<=n) (hn2:n<30):orRaw a n=zeX a n:=by
 unfold orRaw;rw[zjC n hn hn2];exact zhT a n h0 h1 hn hn2
theorem evac_xor:∀ (a:Fin 16) (b:Fin 4),IntKind.i64.wrap ((BitVec.ofInt 64 (a.val:Int) ^^^ BitVec.ofInt 64 (2 ^ b.val)).toNat:Nat)=((a.val ^^^ (1 <<< b.val):Nat):Int):=by decide +kernel
theorem zlr (a n:Int) (h0:0<=a) (h1:a<16) (hn:0<=n) (hn2:n<4):zls a n=zdf a n:=by
 unfold zls;rw[zjC n hn o_];obtain⟨k,rfl⟩:=Int.eq_ofNat_of_zero_le h0;obtain⟨m,rfl⟩:=Int.eq_ofNat_of_zero_le hn;have:=evac_xor ⟨k,o_⟩ ⟨m,o_⟩;exact this
theorem apMode (x:CfgK) (c:Cfg) (y:StK) (s:St) (e:Ent) (hA:ArH c s e) (hk:e.kind=9):sx ttU arF arD (za1 Tryz.f37) (zb3 0 [zaX CN1 x c,stV SN1 y s,entV' e]) (rdM c s noS) 10 (zb8 ttU Tryz.f37.results.toList fun v mem' _=>ApS mem' v (zaZ c s e)):=by
 have hV:=hA.cfg;have hI:=hA.inv;have hE:=hA.ent;have hcn:=hA.cnt;have htk:=hA.tick;have hlt:=hI.lt;have hlc:=hI.lc;have hnt:=hV.nt;have hnc:=hV.nc;have hct:=hI.count;have hst:=hI.tick;have hev:=hI.evac;have hpv:=hI.proven;have htb:=hA.tB;have hP:zaD c s e=zhN s e:=by unfold zaD;simp[hk]
 have hf:=hE;simp[zca,zaN,inS,inR,fT,fC,fO,fE,fW,fN,hk] at hf;refine⟨CN1,x,c,e,rfl,kp_,hV,?_⟩;refine⟨fun h=>absurd h (by rw[hE];decide),fun _=>?_⟩;refine⟨fun h=>absurd (of_decide_eq_true h) o_,fun _=>?_⟩;refine⟨fun h=>absurd (of_decide_eq_true h) o_,fun _=>?_⟩;refine⟨SN1,y,s,rfl,⟨.list rfl,.list rfl⟩,⟨o_,o_⟩,?_⟩;intro y2;refine⟨fun h=>absurd h (by rw[hk];decide),fun _=>?_⟩;refine⟨fun h=>absurd h (by rw[hk];decide),fun _=>?_⟩;refine⟨fun h=>absurd h (by rw[hk];decide),fun _=>?_⟩;refine⟨fun h=>absurd h (by rw[hk];decide),fun _=>?_⟩;refine⟨fun h=>absurd h (by rw[hk];decide),fun _=>?_⟩;refine⟨fun h=>absurd h (by rw[hk];decide),fun _=>?_⟩;refine⟨fun h=>absurd h (by rw[hk];decide),fun _=>?_⟩;refine⟨fun h=>absurd h (by rw[hk];decide),fun _=>?_⟩;refine⟨fun _=>?_,fun h=>absurd h (by rw[hk];decide)⟩;rw[zaf (n:=s.count+1) o_];have hi:e.cell.toNat<s.cells.length:=by omega
 refine⟨⟨nl_,o_,o_⟩,?_⟩;refine⟨fun h1=>?_,fun h1=>?_⟩
 ·repeat (first | refine⟨fun _=>?_,bt_⟩ | refine⟨bf_,fun _=>?_⟩)
  refine⟨4,rfl,?_⟩;exact ApS.err (hA.err (by rw[hP];unfold zhN zaQ;grind) d_)
 ·refine⟨⟨nl_,o_,o_⟩,kp_,?_⟩;refine⟨csC { (s.cells.getD e.cell.toNat default) with mode:=e.n },(by first | rfl | (show zbx _ _ (csC (List.getD _ _ _))=_;rw[za7 hi];rfl)),?_⟩;rw[za6 (by first | exact hi | (rw[List.length_set];exact hi))];try rw[List.set_set]
  refine⟨kp_,?_⟩;refine⟨⟨nl_,o_,o_⟩,?_⟩;refine⟨csC { (s.cells.getD e.cell.toNat default) with mode:=e.n,since:=e.tick },(by first | rfl | (show zbx _ _ (csC (List.getD _ _ _))=_;rw[za7 hi];rfl)),?_⟩;rw[za6 (by first | exact hi | (rw[List.length_set];exact hi))];try rw[List.set_set]
  have hk0:zaD c s e=0:=by rw[hP];unfold zhN zaQ;grind
  have heff:zae s e=(⟨e.tick,s.count+1,s.tenants,s.cells.set e.cell.toNat { (s.cells.getD e.cell.toNat default) with mode:=e.n,since:=e.tick },s.proven,s.evac,s.low,s.high⟩:St):=by simp[zae,zai,zaK,zbc,zav,zaR,zaA,zaQ,hk]
  exact ApS.ok (M:=⟨15,14,0⟩) (y:=y2) (s:=(⟨e.tick,s.count+1,s.tenants,s.cells.set e.cell.toNat { (s.cells.getD e.cell.toNat default) with mode:=e.n,since:=e.tick },s.proven,s.evac,s.low,s.high⟩:St)) (by rw[hA.fine hk0 (fun q=>absurd q (by unfold zct;simp[hk])),heff]) (by first | rfl | (simp)) (by first | rfl | (simp)) ⟨_,_,_,rfl,rfl,(by first | exact nl_ | (simp)),fun k hk=>rfl⟩ ⟨_,_,_,rfl,rfl,(by first | exact nl_ | (simp)),fun k hk=>rfl⟩
theorem apEvac (x:CfgK) (c:Cfg) (y:StK) (s:St) (e:Ent) (hA:ArH c s e) (hk:e.kind=13):sx ttU arF arD (za1 Tryz.f37) (zb3 0 [zaX CN1 x c,stV SN1 y s,entV' e]) (rdM c s noS) 10 (zb8 ttU Tryz.f37.results.toList fun v mem' _=>ApS mem' v (zaZ c s e)):=by
 have hV:=hA.cfg;have hI:=hA.inv;have hE:=hA.ent;have hcn:=hA.cnt;have htk:=hA.tick;have hlt:=hI.lt;have hlc:=hI.lc;have hnt:=hV.nt;have hnc:=hV.nc;have hct:=hI.count;have hst:=hI.tick;have hev:=hI.evac;have hpv:=hI.proven;have htb:=hA.tB;have hP:zaD c s e=zh1 s e:=by unfold zaD;simp[hk]
 have hf:=hE;simp[zca,zaN,inS,inR,fT,fC,fO,fE,fW,fN,hk] at hf;refine⟨CN1,x,c,e,rfl,kp_,hV,?_⟩;refine⟨fun h=>absurd h (by rw[hE];decide),fun _=>?_⟩;refine⟨fun h=>absurd (of_decide_eq_true h) o_,fun _=>?_⟩;refine⟨fun h=>absurd (of_decide_eq_true h) o_,fun _=>?_⟩;refine⟨SN1,y,s,rfl,⟨.list rfl,.list rfl⟩,⟨o_,o_⟩,?_⟩;intro y2;refine⟨fun h=>absurd h (by rw[hk];decide),fun _=>?_⟩;refine⟨fun h=>absurd h (by rw[hk];decide),fun _=>?_⟩;refine⟨fun h=>absurd h (by rw[hk];decide),fun _=>?_⟩;refine⟨fun h=>absurd h (by rw[hk];decide),fun _=>?_⟩;refine⟨fun h=>absurd h (by rw[hk];decide),fun _=>?_⟩;refine⟨fun h=>absurd h (by rw[hk];decide),fun _=>?_⟩;refine⟨fun h=>absurd h (by rw[hk];decide),fun _=>?_⟩;refine⟨fun h=>absurd h (by rw[hk];decide),fun _=>?_⟩;refine⟨fun h=>absurd h (by rw[hk];decide),fun _=>?_⟩;refine⟨fun h=>absurd h (by rw[hk];decide),fun _=>?_⟩;refine⟨fun h=>absurd h (by rw[hk];decide),fun _=>?_⟩;refine⟨fun h=>absurd h (by rw[hk];decide),fun _=>?_⟩;refine⟨fun _=>?_,fun h=>absurd h (by rw[hk];decide)⟩;rw[zaf (n:=s.count+1) o_];refine⟨_,_,rfl,⟨o_,o_⟩,?_⟩;refine⟨kp_,?_⟩;refine⟨fun h1=>?_,fun h1=>?_⟩
 ·repeat (first | refine⟨fun _=>?_,bt_⟩ | refine⟨bf_,fun _=>?_⟩)
  refine⟨4,rfl,?_⟩;exact ApS.err (hA.err (by rw[hP];unfold zh1;grind) d_)
 ·refine⟨zgj _ o_ (by have:=hV.reg;omega),?_⟩;have hx:=zlr s.evac e.other o_ o_ o_ (by have:=hV.reg;omega);have hk0:zaD c s e=0:=by rw[hP];unfold zh1;grind
  have heff:zae s e=(⟨e.tick,s.count+1,s.tenants,s.cells,s.proven,zdf s.evac e.other,s.low,s.high⟩:St):=by simp[zae,zai,zaK,zbc,zav,zaR,zaA,zaQ,hk]
  exact ApS.ok (M:=⟨15,14,0⟩) (y:=y2) (s:=(⟨e.tick,s.count+1,s.tenants,s.cells,s.proven,zls s.evac e.other,s.low,s.high⟩:St)) (by rw[hA.fine hk0 (fun q=>absurd q (by unfold zct;simp[hk])),heff,← hx]) rfl rfl ⟨_,_,_,rfl,rfl,nl_,fun k hk=>rfl⟩ ⟨_,_,_,rfl,rfl,nl_,fun k hk=>rfl⟩
theorem zlg (x:CfgK) (c:Cfg) (y:StK) (s:St) (e:Ent) (hA:ArH c s e) (hk:e.kind=15):sx ttU arF arD (za1 Tryz.f37) (zb3 0 [zaX CN1 x c,stV SN1 y s,entV' e]) (rdM c s noS) 10 (zb8 ttU Tryz.f37.results.toList fun v mem' _=>ApS mem' v (zaZ c s e)):=by
 have hV:=hA.cfg;have hI:=hA.inv;have hE:=hA.ent;have hcn:=hA.cnt;have htk:=hA.tick;have hlt:=hI.lt;have hlc:=hI.lc;have hnt:=hV.nt;have hnc:=hV.nc;have hct:=hI.count;have hst:=hI.tick;have hev:=hI.evac;have hpv:=hI.proven;have htb:=hA.tB;have hP:zaD c s e=zcF s:=by unfold zaD;simp[hk]
 have hf:=hE;simp[zca,zaN,inS,inR,fT,fC,fO,fE,fW,fN,hk] at hf;refine⟨CN1,x,c,e,rfl,kp_,hV,?_⟩;refine⟨fun h=>absurd h (by rw[hE];decide),fun _=>?_⟩;refine⟨fun h=>absurd (of_decide_eq_true h) o_,fun _=>?_⟩;refine⟨fun h=>absurd (of_decide_eq_true h) o_,fun _=>?_⟩;refine⟨SN1,y,s,rfl,⟨.list rfl,.list rfl⟩,⟨o_,o_⟩,?_⟩;intro y2;refine⟨fun h=>absurd h (by rw[hk];decide),fun _=>?_⟩;refine⟨fun h=>absurd h (by rw[hk];decide),fun _=>?_⟩;refine⟨fun h=>absurd h (by rw[hk];decide),fun _=>?_⟩;refine⟨fun h=>absurd h (by rw[hk];decide),fun _=>?_⟩;refine⟨fun h=>absurd h (by rw[hk];decide),fun _=>?_⟩;refine⟨fun h=>absurd h (by rw[hk];decide),fun _=>?_⟩;refine⟨fun h=>absurd h (by rw[hk];decide),fun _=>?_⟩;refine⟨fun h=>absurd h (by rw[hk];decide),fun _=>?_⟩;refine⟨fun h=>absurd h (by rw[hk];decide),fun _=>?_⟩;refine⟨fun h=>absurd h (by rw[hk];decide),fun _=>?_⟩;refine⟨fun h=>absurd h (by rw[hk];decide),fun _=>?_⟩;refine⟨fun h=>absurd h (by rw[hk];decide),fun _=>?_⟩;refine⟨fun h=>absurd h (by rw[hk];decide),fun _=>?_⟩;refine⟨fun h=>absurd h (by rw[hk];decide),fun _=>?_⟩;refine⟨fun _=>?_,fun h=>absurd h (by rw[hk];decide)⟩;rw[zaf (n:=s.count+1) o_];refine⟨fun h1=>?_,fun h1=>?_⟩
 ·repeat (first | refine⟨fun _=>?_,bt_⟩ | refine⟨bf_,fun _=>?_⟩)
  refine⟨4,rfl,?_⟩;exact ApS.err (hA.err (by rw[hP];unfold zcF;grind) d_)
 ·have hk0:zaD c s e=0:=by rw[hP];unfold zcF;grind
  have heff:zae s e=(⟨e.tick,s.count+1,s.tenants,s.cells,s.proven,s.evac,s.high,s.high⟩:St):=by simp[zae,zai,zaK,zbc,zav,zaR,zaA,zaQ,hk]
  exact ApS.ok (M:=⟨15,14,0⟩) (y:=y2) (s:=(⟨e.tick,s.count+1,s.tenants,s.cells,s.proven,s.evac,s.high,s.high⟩:St)) (by rw[hA.fine hk0 (fun q=>absurd q (by unfold zct;simp[hk])),heff]) (by first | rfl | (simp)) (by first | rfl | (simp)) ⟨_,_,_,rfl,rfl,(by first | exact nl_ | (simp)),fun k hk=>rfl⟩ ⟨_,_,_,rfl,rfl,(by first | exact nl_ | (simp)),fun k hk=>rfl⟩
theorem apNote (x:CfgK) (c:Cfg) (y:StK) (s:St) (e:Ent) (hA:ArH c s e) (hk:e.kind=16):sx ttU arF arD (za1 Tryz.f37) (zb3 0 [zaX CN1 x c,stV SN1 y s,entV' e]) (rdM c s noS) 10 (zb8 ttU Tryz.f37.results.toList fun v mem' _=>ApS mem' v (zaZ c s e)):=by
 have hV:=hA.cfg;have hI:=hA.inv;have hE:=hA.ent;have hcn:=hA.cnt;have htk:=hA.tick;have hlt:=hI.lt;have hlc:=hI.lc;have hnt:=hV.nt;have hnc:=hV.nc;have hct:=hI.count;have hst:=hI.tick;have hev:=hI.evac;have hpv:=hI.proven;have htb:=hA.tB;have hP:zaD c s e=0:=by unfold zaD;simp[hk]
 have hf:=hE;simp[zca,zaN,inS,inR,fT,fC,fO,fE,fW,fN,hk] at hf;refine⟨CN1,x,c,e,rfl,kp_,hV,?_⟩;refine⟨fun h=>absurd h (by rw[hE];decide),fun _=>?_⟩;refine⟨fun h=>absurd (of_decide_eq_true h) o_,fun _=>?_⟩;refine⟨fun h=>absurd (of_decide_eq_true h) o_,fun _=>?_⟩;refine⟨SN1,y,s,rfl,⟨.list rfl,.list rfl⟩,⟨o_,o_⟩,?_⟩;intro y2;refine⟨fun h=>absurd h (by rw[hk];decide),fun _=>?_⟩;refine⟨fun h=>absurd h (by rw[hk];decide),fun _=>?_⟩;refine⟨fun h=>absurd h (by rw[hk];decide),fun _=>?_⟩;refine⟨fun h=>absurd h (by rw[hk];decide),fun _=>?_⟩;refine⟨fun h=>absurd h (by rw[hk];decide),fun _=>?_⟩;refine⟨fun h=>absurd h (by rw[hk];decide),fun _=>?_⟩;refine⟨fun h=>absurd h (by rw[hk];decide),fun _=>?_⟩;refine⟨fun h=>absurd h (by rw[hk];decide),fun _=>?_⟩;refine⟨fun h=>absurd h (by rw[hk];decide),fun _=>?_⟩;refine⟨fun h=>absurd h (by rw[hk];decide),fun _=>?_⟩;refine⟨fun h=>absurd h (by rw[hk];decide),fun _=>?_⟩;refine⟨fun h=>absurd h (by rw[hk];decide),fun _=>?_⟩;refine⟨fun h=>absurd h (by rw[hk];decide),fun _=>?_⟩;refine⟨fun h=>absurd h (by rw[hk];decide),fun _=>?_⟩;refine⟨fun h=>absurd h (by rw[hk];decide),fun _=>?_⟩;rw[zaf (n:=s.count+1) o_];have hk0:zaD c s e=0:=hP;have heff:zae s e=(⟨e.tick,s.count+1,s.tenants,s.cells,s.proven,s.evac,s.low,s.high⟩:St):=by simp[zae,zai,zaK,zbc,zav,zaR,zaA,zaQ,hk]
 exact ApS.ok (M:=⟨15,14,0⟩) (y:=y2) (s:=(⟨e.tick,s.count+1,s.tenants,s.cells,s.proven,s.evac,s.low,s.high⟩:St)) (by rw[hA.fine hk0 (fun q=>absurd q (by unfold zct;simp[hk])),heff]) (by first | rfl | (simp)) (by first | rfl | (simp)) ⟨_,_,_,rfl,rfl,(by first | exact nl_ | (simp)),fun k hk=>rfl⟩ ⟨_,_,_,rfl,rfl,(by first | exact nl_ | (simp)),fun k hk=>rfl⟩
def zdz (s:St) (k:Int) (n:Nat):Nat:=((List.range n).filter fun (i:Nat)=>decide ((i:Int)≠k)&&zc7 s.proven (s.cells.getD i default)).length
theorem zdy (s:St) (k:Int) (n:Nat):zdz s k (n+1)=zdz s k n+(if (decide ((n:Int)≠k)&&zc7 s.proven (s.cells.getD n default))=true then 1 else 0):=by
 unfold zdz;rw[List.range_succ,List.filter_append,List.length_append];congr 1
 by_cases h:(decide ((n:Int)≠k)&&zc7 s.proven (s.cells.getD n default))=true
 ·rw[if_pos h,List.filter_cons_of_pos (by exact h)];rfl
 ·rw[if_neg h,List.filter_cons_of_neg (by exact h)];rfl
theorem zkE (s:St) (k:Int) (n:Nat):zdz s k n<=n:=by
 unfold zdz;have:=List.length_filter_le (fun (i:Nat)=>decide ((i:Int)≠k)&&zc7 s.proven (s.cells.getD i default)) (List.range n);simpa using this
theorem ziK (s:St) (k:Int):zdz s k s.cells.length=zfN s k:=rfl
theorem apWant (x:CfgK) (c:Cfg) (y:StK) (s:St) (e:Ent) (hA:ArH c s e) (hk:e.kind=10):sx ttU arF arD (za1 Tryz.f37) (zb3 0 [zaX CN1 x c,stV SN1 y s,entV' e]) (rdM c s noS) 10 (zb8 ttU Tryz.f37.results.toList fun v mem' _=>ApS mem' v (zaZ c s e)):=by
 have hV:=hA.cfg;have hI:=hA.inv;have hE:=hA.ent;have hcn:=hA.cnt;have htk:=hA.tick;have hlt:=hI.lt;have hlc:=hI.lc;have hnt:=hV.nt;have hnc:=hV.nc;have hct:=hI.count;have hst:=hI.tick;have hev:=hI.evac;have hpv:=hI.proven;have htb:=hA.tB;have hP:zaD c s e=zen c s e:=by unfold zaD;simp[hk]
 have hf:=hE;simp[zca,zaN,inS,inR,fT,fC,fO,fE,fW,fN,hk] at hf;refine⟨CN1,x,c,e,rfl,kp_,hV,?_⟩;refine⟨fun h=>absurd h (by rw[hE];decide),fun _=>?_⟩;refine⟨fun h=>absurd (of_decide_eq_true h) o_,fun _=>?_⟩;refine⟨fun h=>absurd (of_decide_eq_true h) o_,fun _=>?_⟩;refine⟨SN1,y,s,rfl,⟨.list rfl,.list rfl⟩,⟨o_,o_⟩,?_⟩;intro y2;refine⟨fun h=>absurd h (by rw[hk];decide),fun _=>?_⟩;refine⟨fun h=>absurd h (by rw[hk];decide),fun _=>?_⟩;refine⟨fun h=>absurd h (by rw[hk];decide),fun _=>?_⟩;refine⟨fun h=>absurd h (by rw[hk];decide),fun _=>?_⟩;refine⟨fun h=>absurd h (by rw[hk];decide),fun _=>?_⟩;refine⟨fun h=>absurd h (by rw[hk];decide),fun _=>?_⟩;refine⟨fun h=>absurd h (by rw[hk];decide),fun _=>?_⟩;refine⟨fun h=>absurd h (by rw[hk];decide),fun _=>?_⟩;refine⟨fun h=>absurd h (by rw[hk];decide),fun _=>?_⟩;refine⟨fun _=>?_,fun h=>absurd h (by rw[hk];decide)⟩;rw[zaf (n:=s.count+1) o_];have hi:e.cell.toNat<s.cells.length:=by omega
 have hnv:=hV.nv;have hvl:e.n<(c.versions.length:Int):=by omega
 refine⟨⟨nl_,o_,o_⟩,?_⟩;refine⟨⟨nl_,o_,o_⟩,?_⟩;refine⟨Int×Int,fun q=>match q with | (i,m)=>[(11,.int .i64 i),(10,.int .i64 m)],fun _=>[],fun q=>match q with | (i,m)=>(0<=i/\i<=s.cells.length)/\m=zdz s e.cell i.toNat,fun q=>match q with | (i,m)=>((s.cells.length:Int)-i).toNat,⟨(0,0),⟨o_,rfl⟩,kp_,kp_⟩,?_⟩;rintro⟨i,m⟩ ⟨hi0,hm⟩;refine⟨⟨rfl,rfl⟩,?_⟩;refine⟨fun hlt1=>?_,fun hge=>?_⟩
 ·have hlt2:i<(s.cells.length:Int):=of_decide_eq_true hlt1;have hle:=zkE s e.cell i.toNat;have hii:((i.toNat:Nat):Int)=i:=by omega
  refine⟨Int,fun m=>[(10,.int .i64 m)],fun _=>[],fun m=>m=zdz s e.cell (i.toNat+1),?_,?_⟩
  ·refine⟨fun q1=>?_,fun q1=>?_⟩
   ·refine⟨⟨15,14,0⟩,y2,_,_,⟨e.tick,s.count+1,s.tenants,s.cells,s.proven,s.evac,s.low,s.high⟩,i,rfl,⟨rfl,rfl,.list rfl,.list rfl⟩,⟨by dsimp only;omega,by dsimp only;omega⟩,?_⟩;refine⟨fun q2=>?_,fun q2=>?_⟩
    ·replace q2:(zc7 s.proven (s.cells.getD i.toNat default))=true:=q2;refine⟨_,?_,kp_,kp_⟩;dsimp only;rw[zdy,hii];rw[zaf (n:=m+1) o_,if_pos (by grind)];omega
    ·replace q2:(zc7 s.proven (s.cells.getD i.toNat default))=false:=q2;refine⟨_,?_,kp_,kp_⟩;dsimp only;rw[zdy,hii];rw[if_neg (by grind)];omega
   ·refine⟨bf_,fun _=>?_⟩;refine⟨_,?_,kp_,kp_⟩;dsimp only;rw[zdy,hii];rw[if_neg (by grind)];omega
  ·rintro m2 hm2;refine⟨⟨d_,rfl,rfl⟩,?_⟩;refine⟨(_,m2),?_,kp_,kp_⟩;dsimp only;rw[zaf (n:=i+1) o_];refine⟨⟨o_,?_⟩,o_⟩;rw[show (i+1).toNat=i.toNat+1 by omega];exact hm2
 ·have hge2:¬ i<(s.cells.length:Int):=of_decide_eq_false hge;rw[show i.toNat=s.cells.length by omega,ziK] at hm;refine⟨fun h1=>?_,fun h1=>?_⟩
  ·repeat (first | refine⟨fun _=>?_,bt_⟩ | refine⟨bf_,fun _=>?_⟩)
   refine⟨4,rfl,?_⟩;exact ApS.err (hA.err (by rw[hP];unfold zen zaQ zcj;grind) d_)
  ·refine⟨Bool,fun b=>[(52,.bool b)],fun _=>[],fun b=>(b=true↔(s.low<(c.versions.getD e.n.toNat (0,0)).1∨(c.versions.getD e.n.toNat (0,0)).2<s.high)),?_,?_⟩
   ·repeat' (first | refine⟨fun _=>?_,bt_⟩ | refine⟨bf_,fun _=>?_⟩ | refine⟨fun _=>?_,fun _=>?_⟩ | refine⟨⟨nl_,o_,o_⟩,?_⟩ | fail)
    all_goals (refine⟨_,?_,kp_,kp_⟩;dsimp only;grind)
   ·rintro b1 hb1;refine⟨⟨d_,rfl,rfl⟩,?_⟩;refine⟨fun h2=>?_,fun h2=>?_⟩
    ·repeat (first | refine⟨fun _=>?_,bt_⟩ | refine⟨bf_,fun _=>?_⟩)
     refine⟨13,rfl,?_⟩;exact ApS.err (hA.err (by rw[hP];unfold zen zaQ zcj;grind) d_)
    ·refine⟨Bool,fun b=>[(68,.bool b)],fun _=>[],fun b=>(b=true↔(¬ e.n=(s.cells.getD e.cell.toNat default).running/\zc2 s.proven e.n=false/\¬ s.evac=0)),?_,?_⟩
     ·repeat' (first | refine⟨fun _=>?_,bt_⟩ | refine⟨bf_,fun _=>?_⟩ | refine⟨fun _=>?_,fun _=>?_⟩ | refine⟨⟨nl_,o_,o_⟩,?_⟩ | refine⟨⟨15,14,0⟩,y2,_,_,⟨e.tick,s.count+1,s.tenants,s.cells,s.proven,s.evac,s.low,s.high⟩,e.n,rfl,⟨rfl,rfl,.list rfl,.list rfl⟩,(by dsimp only;omega),(show keeps _ _ from kp_),?_⟩ | refine⟨⟨15,14,0⟩,y2,_,_,⟨e.tick,s.count+1,s.tenants,s.cells,s.proven,s.evac,s.low,s.high⟩,e.n,rfl,⟨rfl,rfl,.list rfl,.list rfl⟩,(by dsimp only;omega),?_⟩ | fail)
      all_goals (refine⟨_,?_,kp_,kp_⟩;dsimp only;grind)
     ·rintro b2 hb2;refine⟨⟨d_,rfl,rfl⟩,?_⟩;refine⟨fun h3=>?_,fun h3=>?_⟩
      ·repeat (first | refine⟨fun _=>?_,bt_⟩ | refine⟨bf_,fun _=>?_⟩)
       refine⟨12,rfl,?_⟩;exact ApS.err (hA.err (by rw[hP];unfold zen zaQ zcj;grind) d_)
      ·refine⟨Bool,fun b=>[(91,.bool b)],fun _=>[],fun b=>(b=true↔(¬ e.n=(s.cells.getD e.cell.toNat default).running/\zc2 s.proven e.n=false/\c.blast<=m)),?_,?_⟩
       ·repeat' (first | refine⟨fun _=>?_,bt_⟩ | refine⟨bf_,fun _=>?_⟩ | refine⟨fun _=>?_,fun _=>?_⟩ | refine⟨⟨nl_,o_,o_⟩,?_⟩ | refine⟨⟨15,14,0⟩,y2,_,_,⟨e.tick,s.count+1,s.tenants,s.cells,s.proven,s.evac,s.low,s.high⟩,e.n,rfl,⟨rfl,rfl,.list rfl,.list rfl⟩,(by dsimp only;omega),(show keeps _ _ from kp_),?_⟩ | refine⟨⟨15,14,0⟩,y2,_,_,⟨e.tick,s.count+1,s.tenants,s.cells,s.proven,s.evac,s.low,s.high⟩,e.n,rfl,⟨rfl,rfl,.list rfl,.list rfl⟩,(by dsimp only;omega),?_⟩ | fail)
        all_goals (refine⟨_,?_,kp_,kp_⟩;dsimp only;grind)
       ·rintro b3 hb3;refine⟨⟨d_,rfl,rfl⟩,?_⟩;refine⟨fun h4=>?_,fun h4=>?_⟩
        ·repeat (first | refine⟨fun _=>?_,bt_⟩ | refine⟨bf_,fun _=>?_⟩)
         refine⟨14,rfl,?_⟩;exact ApS.err (hA.err (by rw[hP];unfold zen zaQ zcj;grind) d_)
        ·refine⟨csC { (s.cells.getD e.cell.toNat default) with wanted:=e.n },(by first | rfl | (show zbx _ _ (csC (List.getD _ _ _))=_;rw[za7 hi];rfl)),?_⟩;rw[za6 (by first | exact hi | (rw[List.length_set];exact hi))];try rw[List.set_set]
         have hk0:zaD c s e=0:=by rw[hP];unfold zen zaQ zcj;grind
         have heff:zae s e=(⟨e.tick,s.count+1,s.tenants,s.cells.set e.cell.toNat { (s.cells.getD e.cell.toNat default) with wanted:=e.n },s.proven,s.evac,s.low,s.high⟩:St):=by simp[zae,zai,zaK,zbc,zav,zaR,zaA,zaQ,hk]
         exact ApS.ok (M:=⟨15,14,0⟩) (y:=y2) (s:=(⟨e.tick,s.count+1,s.tenants,s.cells.set e.cell.toNat { (s.cells.getD e.cell.toNat default) with wanted:=e.n },s.proven,s.evac,s.low,s.high⟩:St)) (by rw[hA.fine hk0 (fun q=>absurd q (by unfold zct;simp[hk])),heff]) (by first | rfl | (simp)) (by first | rfl | (simp)) ⟨_,_,_,rfl,rfl,(by first | exact nl_ | (simp)),fun k hk=>rfl⟩ ⟨_,_,_,rfl,rfl,(by first | exact nl_ | (simp)),fun k hk=>rfl⟩
theorem apRuns (x:CfgK) (c:Cfg) (y:StK) (s:St) (e:Ent) (hA:ArH c s e) (hk:e.kind=11):sx ttU arF arD (za1 Tryz.f37) (zb3 0 [zaX CN1 x c,stV SN1 y s,entV' e]) (rdM c s noS) 10 (zb8 ttU Tryz.f37.results.toList fun v mem' _=>ApS mem' v (zaZ c s e)):=by
 have hV:=hA.cfg;have hI:=hA.inv;have hE:=hA.ent;have hcn:=hA.cnt;have htk:=hA.tick;have hlt:=hI.lt;have hlc:=hI.lc;have hnt:=hV.nt;have hnc:=hV.nc;have hct:=hI.count;have hst:=hI.tick;have hev:=hI.evac;have hpv:=hI.proven;have htb:=hA.tB;have hP:zaD c s e=zfg s e:=by unfold zaD;simp[hk]
 have hf:=hE;simp[zca,zaN,inS,inR,fT,fC,fO,fE,fW,fN,hk] at hf;refine⟨CN1,x,c,e,rfl,kp_,hV,?_⟩;refine⟨fun h=>absurd h (by rw[hE];decide),fun _=>?_⟩;refine⟨fun h=>absurd (of_decide_eq_true h) o_,fun _=>?_⟩;refine⟨fun h=>absurd (of_decide_eq_true h) o_,fun _=>?_⟩;refine⟨SN1,y,s,rfl,⟨.list rfl,.list rfl⟩,⟨o_,o_⟩,?_⟩;intro y2;refine⟨fun h=>absurd h (by rw[hk];decide),fun _=>?_⟩;refine⟨fun h=>absurd h (by rw[hk];decide),fun _=>?_⟩;refine⟨fun h=>absurd h (by rw[hk];decide),fun _=>?_⟩;refine⟨fun h=>absurd h (by rw[hk];decide),fun _=>?_⟩;refine⟨fun h=>absurd h (by rw[hk];decide),fun _=>?_⟩;refine⟨fun h=>absurd h (by rw[hk];decide),fun _=>?_⟩;refine⟨fun h=>absurd h (by rw[hk];decide),fun _=>?_⟩;refine⟨fun h=>absurd h (by rw[hk];decide),fun _=>?_⟩;refine⟨fun h=>absurd h (by rw[hk];decide),fun _=>?_⟩;refine⟨fun h=>absurd h (by rw[hk];decide),fun _=>?_⟩;refine⟨fun _=>?_,fun h=>absurd h (by rw[hk];decide)⟩;rw[zaf (n:=s.count+1) o_];have hi:e.cell.toNat<s.cells.length:=by omega
 refine⟨⟨nl_,o_,o_⟩,?_⟩;refine⟨Bool,fun b=>[(14,.bool b)],fun _=>[],fun b=>(b=true↔(¬ e.n=(s.cells.getD e.cell.toNat default).wanted∨(s.cells.getD e.cell.toNat default).running=(s.cells.getD e.cell.toNat default).wanted)),?_,?_⟩
 ·repeat' (first | refine⟨fun _=>?_,bt_⟩ | refine⟨bf_,fun _=>?_⟩ | refine⟨fun _=>?_,fun _=>?_⟩ | refine⟨⟨nl_,o_,o_⟩,?_⟩ | fail)
  all_goals (refine⟨_,?_,kp_,kp_⟩;dsimp only;grind)
 ·rintro b1 hb1;refine⟨⟨d_,rfl,rfl⟩,?_⟩;refine⟨fun h1=>?_,fun h1=>?_⟩
  ·repeat (first | refine⟨fun _=>?_,bt_⟩ | refine⟨bf_,fun _=>?_⟩)
   refine⟨4,rfl,?_⟩;exact ApS.err (hA.err (by rw[hP];unfold zfg zaQ;grind) d_)
  ·refine⟨Bool,fun b=>[(36,.bool b)],fun _=>[],fun b=>(b=true↔(zc2 s.proven e.n=false/\¬ s.evac=0)),?_,?_⟩
   ·repeat' (first | refine⟨fun _=>?_,bt_⟩ | refine⟨bf_,fun _=>?_⟩ | refine⟨fun _=>?_,fun _=>?_⟩ | refine⟨⟨nl_,o_,o_⟩,?_⟩ | refine⟨⟨15,14,0⟩,y2,_,_,⟨e.tick,s.count+1,s.tenants,s.cells,s.proven,s.evac,s.low,s.high⟩,e.n,rfl,⟨rfl,rfl,.list rfl,.list rfl⟩,(by dsimp only;omega),?_⟩ | fail)
    all_goals (refine⟨_,?_,kp_,kp_⟩;dsimp only;grind)
   ·rintro b2 hb2;refine⟨⟨d_,rfl,rfl⟩,?_⟩;refine⟨fun h2=>?_,fun h2=>?_⟩
    ·repeat (first | refine⟨fun _=>?_,bt_⟩ | refine⟨bf_,fun _=>?_⟩)
     refine⟨12,rfl,?_⟩;exact ApS.err (hA.err (by rw[hP];unfold zfg zaQ;grind) d_)
    ·refine⟨Int,fun i=>[(7,.int .i64 i)],fun _=>[],fun i=>(0<=i/\i<=s.tenants.length)/\∀ j:Nat,(j:Int)<i->¬ ((s.tenants.getD j default).win.cell=e.cell/\e.tick<(s.tenants.getD j default).win.till),fun i=>((s.tenants.length:Int)-i).toNat,⟨0,⟨o_,fun j hj=>absurd hj o_⟩,kp_,kp_⟩,?_⟩;rintro i ⟨hi0,hno⟩;refine⟨⟨rfl,rfl⟩,?_⟩;refine⟨fun hlt1=>?_,fun hge=>?_⟩
     ·have hlt2:i<(s.tenants.length:Int):=of_decide_eq_true hlt1;have hii:i.toNat<s.tenants.length:=by omega
      refine⟨⟨nl_,hi0.1,hlt2⟩,?_⟩;refine⟨Bool,fun b=>[(74,.bool b)],fun _=>[],fun b=>(b=true↔((s.tenants.getD i.toNat default).win.cell=e.cell/\e.tick<(s.tenants.getD i.toNat default).win.till)),?_,?_⟩
      ·repeat' (first | refine⟨fun _=>?_,bt_⟩ | refine⟨bf_,fun _=>?_⟩ | refine⟨fun _=>?_,fun _=>?_⟩ | refine⟨⟨nl_,o_,o_⟩,?_⟩ | fail)
       all_goals (refine⟨_,?_,kp_,kp_⟩;dsimp only;grind)
      ·rintro b3 hb3;refine⟨⟨d_,rfl,rfl⟩,?_⟩;refine⟨fun h3=>?_,fun h3=>?_⟩
       ·have hpp:=hb3.1 h3;have hany:s.tenants.any (fun t=>decide (t.win.cell=e.cell)&&decide (e.tick<t.win.till))=true:=List.any_eq_true.2 ⟨_,List.mem_of_getElem? (zbD (d:=default) hii),by simp only[Bool.and_eq_true,decide_eq_true_eq];exact hpp⟩;repeat (first | refine⟨fun _=>?_,bt_⟩ | refine⟨bf_,fun _=>?_⟩)
        refine⟨9,rfl,?_⟩;exact ApS.err (hA.err (by rw[hP];unfold zfg zaQ;grind) d_)
       ·refine⟨_,?_,kp_,kp_⟩;dsimp only;rw[zaf (n:=i+1) o_];refine⟨⟨o_,fun j hj=>?_⟩,o_⟩;by_cases hji:(j:Int)<i
        ·exact hno j hji
        ·obtain rfl:j=i.toNat:=by omega
         grind
     ·have hge2:¬ i<(s.tenants.length:Int):=of_decide_eq_false hge;have hall:∀ j:Nat,j<s.tenants.length->¬ ((s.tenants.getD j default).win.cell=e.cell/\e.tick<(s.tenants.getD j default).win.till):=fun j hj=>hno j o_
      have hany:s.tenants.any (fun t=>decide (t.win.cell=e.cell)&&decide (e.tick<t.win.till))=false:=by
       rw[List.any_eq_false];intro z hz;obtain⟨j,hj,rfl⟩:=List.getElem_of_mem hz;have:=hall j hj;have hje:s.tenants.getD j default=s.tenants[j]:=getD_some (List.getElem?_eq_getElem hj);simp only[hje] at this;simpa using this
      refine⟨csC { (s.cells.getD e.cell.toNat default) with running:=e.n },(by first | rfl | (show zbx _ _ (csC (List.getD _ _ _))=_;rw[za7 hi];rfl)),?_⟩;rw[za6 (by first | exact hi | (rw[List.length_set];exact hi))];try rw[List.set_set]
      refine⟨kp_,?_⟩;refine⟨csC { (s.cells.getD e.cell.toNat default) with running:=e.n,since:=e.tick },(by first | rfl | (show zbx _ _ (csC (List.getD _ _ _))=_;rw[za7 hi];rfl)),?_⟩;rw[za6 (by first | exact hi | (rw[List.length_set];exact hi))];try rw[List.set_set]
      have hk0:zaD c s e=0:=by rw[hP];unfold zfg zaQ;grind
      have heff:zae s e=(⟨e.tick,s.count+1,s.tenants,s.cells.set e.cell.toNat { (s.cells.getD e.cell.toNat default) with running:=e.n,since:=e.tick },s.proven,s.evac,s.low,s.high⟩:St):=by simp[zae,zai,zaK,zbc,zav,zaR,zaA,zaQ,hk]
      exact ApS.ok (M:=⟨15,14,0⟩) (y:=y2) (s:=(⟨e.tick,s.count+1,s.tenants,s.cells.set e.cell.toNat { (s.cells.getD e.cell.toNat default) with running:=e.n,since:=e.tick },s.proven,s.evac,s.low,s.high⟩:St)) (by rw[hA.fine hk0 (fun q=>absurd q (by unfold zct;simp[hk])),heff]) (by first | rfl | (simp)) (by first | rfl | (simp)) ⟨_,_,_,rfl,rfl,(by first | exact nl_ | (simp)),fun k hk=>rfl⟩ ⟨_,_,_,rfl,rfl,(by first | exact nl_ | (simp)),fun k hk=>rfl⟩
theorem apProve (x:CfgK) (c:Cfg) (y:StK) (s:St) (e:Ent) (hA:ArH c s e) (hk:e.kind=12):sx ttU arF arD (za1 Tryz.f37) (zb3 0 [zaX CN1 x c,stV SN1 y s,entV' e]) (rdM c s noS) 10 (zb8 ttU Tryz.f37.results.toList fun v mem' _=>ApS mem' v (zaZ c s e)):=by
 have hV:=hA.cfg;have hI:=hA.inv;have hE:=hA.ent;have hcn:=hA.cnt;have htk:=hA.tick;have hlt:=hI.lt;have hlc:=hI.lc;have hnt:=hV.nt;have hnc:=hV.nc;have hct:=hI.count;have hst:=hI.tick;have hev:=hI.evac;have hpv:=hI.proven;have htb:=hA.tB;have hP:zaD c s e=zf7 c s e:=by unfold zaD;simp[hk]
 have hf:=hE;simp[zca,zaN,inS,inR,fT,fC,fO,fE,fW,fN,hk] at hf;refine⟨CN1,x,c,e,rfl,kp_,hV,?_⟩;refine⟨fun h=>absurd h (by rw[hE];decide),fun _=>?_⟩;refine⟨fun h=>absurd (of_decide_eq_true h) o_,fun _=>?_⟩;refine⟨fun h=>absurd (of_decide_eq_true h) o_,fun _=>?_⟩;refine⟨SN1,y,s,rfl,⟨.list rfl,.list rfl⟩,⟨o_,o_⟩,?_⟩;intro y2;refine⟨fun h=>absurd h (by rw[hk];decide),fun _=>?_⟩;refine⟨fun h=>absurd h (by rw[hk];decide),fun _=>?_⟩;refine⟨fun h=>absurd h (by rw[hk];decide),fun _=>?_⟩;refine⟨fun h=>absurd h (by rw[hk];decide),fun _=>?_⟩;refine⟨fun h=>absurd h (by rw[hk];decide),fun _=>?_⟩;refine⟨fun h=>absurd h (by rw[hk];decide),fun _=>?_⟩;refine⟨fun h=>absurd h (by rw[hk];decide),fun _=>?_⟩;refine⟨fun h=>absurd h (by rw[hk];decide),fun _=>?_⟩;refine⟨fun h=>absurd h (by rw[hk];decide),fun _=>?_⟩;refine⟨fun h=>absurd h (by rw[hk];decide),fun _=>?_⟩;refine⟨fun h=>absurd h (by rw[hk];decide),fun _=>?_⟩;refine⟨fun _=>?_,fun h=>absurd h (by rw[hk];decide)⟩;rw[zaf (n:=s.count+1) o_];have hnv:=hV.nv;refine⟨⟨15,14,0⟩,y2,_,_,⟨e.tick,s.count+1,s.tenants,s.cells,s.proven,s.evac,s.low,s.high⟩,e.n,rfl,⟨rfl,rfl,.list rfl,.list rfl⟩,(by dsimp only;omega),?_⟩;refine⟨fun h1=>?_,fun h1=>?_⟩
 ·repeat (first | refine⟨fun _=>?_,bt_⟩ | refine⟨bf_,fun _=>?_⟩)
  refine⟨4,rfl,?_⟩;exact ApS.err (hA.err (by rw[hP];unfold zf7;grind) d_)
 ·refine⟨Int,fun i=>[(8,.int .i64 i)],fun _=>[],fun i=>(0<=i/\i<=s.cells.length)/\∀ j:Nat,(j:Int)<i->¬ (¬ (s.cells.getD j default).mode=3/\(s.cells.getD j default).running=e.n/\(s.cells.getD j default).wanted=e.n/\c.bake<=e.tick-(s.cells.getD j default).since),fun i=>((s.cells.length:Int)-i).toNat,⟨0,⟨o_,fun j hj=>absurd hj o_⟩,kp_,kp_⟩,?_⟩;rintro i ⟨hi0,hno⟩;refine⟨⟨rfl,rfl⟩,?_⟩;refine⟨fun hlt1=>?_,fun hge=>?_⟩
  ·have hlt2:i<(s.cells.length:Int):=of_decide_eq_true hlt1;have hii:i.toNat<s.cells.length:=by omega
   have hcs:=(hI.cel _ (List.mem_of_getElem? (zbD (d:=default) hii))).since;have hw:IntKind.i64.wrap (e.tick-(s.cells.getD i.toNat default).since)=e.tick-(s.cells.getD i.toNat default).since:=zaf o_;refine⟨⟨nl_,hi0.1,hlt2⟩,?_⟩;refine⟨Bool,fun b=>[(55,.bool b)],fun _=>[],fun b=>(b=true↔(¬ (s.cells.getD i.toNat default).mode=3/\(s.cells.getD i.toNat default).running=e.n/\(s.cells.getD i.toNat default).wanted=e.n/\c.bake<=e.tick-(s.cells.getD i.toNat default).since)),?_,?_⟩
   ·repeat' (first | refine⟨fun _=>?_,bt_⟩ | refine⟨bf_,fun _=>?_⟩ | refine⟨fun _=>?_,fun _=>?_⟩ | refine⟨⟨nl_,o_,o_⟩,?_⟩ | fail)
    all_goals (refine⟨_,?_,kp_,kp_⟩;dsimp only;grind)
   ·rintro b3 hb3;refine⟨⟨d_,rfl,rfl⟩,?_⟩;refine⟨fun h3=>?_,fun h3=>?_⟩
    ·have hpp:=hb3.1 h3;have hany:s.cells.any (zcn c e)=true:=List.any_eq_true.2 ⟨_,List.mem_of_getElem? (zbD (d:=default) hii),by unfold zcn;simp only[Bool.and_eq_true,decide_eq_true_eq];exact⟨⟨⟨hpp.1,hpp.2.1⟩,hpp.2.2.1⟩,hpp.2.2.2⟩⟩;refine⟨zgj _ o_ o_,?_⟩;have hx:=orRaw_eq s.proven e.n o_ o_ o_ o_;have hk0:zaD c s e=0:=by rw[hP];unfold zf7;grind
     have heff:zae s e=(⟨e.tick,s.count+1,s.tenants,s.cells,zeX s.proven e.n,s.evac,s.low,s.high⟩:St):=by simp[zae,zai,zaK,zbc,zav,zaR,zaA,zaQ,hk]
     exact ApS.ok (M:=⟨15,14,0⟩) (y:=y2) (s:=(⟨e.tick,s.count+1,s.tenants,s.cells,orRaw s.proven e.n,s.evac,s.low,s.high⟩:St)) (by rw[hA.fine hk0 (fun q=>absurd q (by unfold zct;simp[hk])),heff,← hx]) rfl rfl ⟨_,_,_,rfl,rfl,nl_,fun k hk=>rfl⟩ ⟨_,_,_,rfl,rfl,nl_,fun k hk=>rfl⟩
    ·refine⟨_,?_,kp_,kp_⟩;dsimp only;rw[zaf (n:=i+1) o_];refine⟨⟨o_,fun j hj=>?_⟩,o_⟩;by_cases hji:(j:Int)<i
     ·exact hno j hji
     ·obtain rfl:j=i.toNat:=by omega
      grind
  ·have hge2:¬ i<(s.cells.length:Int):=of_decide_eq_false hge;have hall:∀ j:Nat,j<s.cells.length->¬ (¬ (s.cells.getD j default).mode=3/\(s.cells.getD j default).running=e.n/\(s.cells.getD j default).wanted=e.n/\c.bake<=e.tick-(s.cells.getD j default).since):=fun j hj=>hno j o_
   have hany:s.cells.any (zcn c e)=false:=by
    rw[List.any_eq_false];intro z hz;obtain⟨j,hj,rfl⟩:=List.getElem_of_mem hz;have:=hall j hj;have hje:s.cells.getD j default=s.cells[j]:=getD_some (List.getElem?_eq_getElem hj);simp only[hje] at this;intro q;unfold zcn at q;simp only[Bool.and_eq_true,decide_eq_true_eq] at q;exact this ⟨q.1.1.1,q.1.1.2,q.1.2,q.2⟩
   repeat (first | refine⟨fun _=>?_,bt_⟩ | refine⟨bf_,fun _=>?_⟩)
   refine⟨15,rfl,?_⟩;exact ApS.err (hA.err (by rw[hP];unfold zf7;grind) d_)
theorem apExpand (x:CfgK) (c:Cfg) (y:StK) (s:St) (e:Ent) (hA:ArH c s e) (hk:e.kind=14):sx ttU arF arD (za1 Tryz.f37) (zb3 0 [zaX CN1 x c,stV SN1 y s,entV' e]) (rdM c s noS) 10 (zb8 ttU Tryz.f37.results.toList fun v mem' _=>ApS mem' v (zaZ c s e)):=by
 have hV:=hA.cfg;have hI:=hA.inv;have hE:=hA.ent;have hcn:=hA.cnt;have htk:=hA.tick;have hlt:=hI.lt;have hlc:=hI.lc;have hnt:=hV.nt;have hnc:=hV.nc;have hct:=hI.count;have hst:=hI.tick;have hev:=hI.evac;have hpv:=hI.proven;have htb:=hA.tB;have hP:zaD c s e=zcE c s:=by unfold zaD;simp[hk]
 have hf:=hE;simp[zca,zaN,inS,inR,fT,fC,fO,fE,fW,fN,hk] at hf;refine⟨CN1,x,c,e,rfl,kp_,hV,?_⟩;refine⟨fun h=>absurd h (by rw[hE];decide),fun _=>?_⟩;refine⟨fun h=>absurd (of_decide_eq_true h) o_,fun _=>?_⟩;refine⟨fun h=>absurd (of_decide_eq_true h) o_,fun _=>?_⟩;refine⟨SN1,y,s,rfl,⟨.list rfl,.list rfl⟩,⟨o_,o_⟩,?_⟩;intro y2;refine⟨fun h=>absurd h (by rw[hk];decide),fun _=>?_⟩;refine⟨fun h=>absurd h (by rw[hk];decide),fun _=>?_⟩;refine⟨fun h=>absurd h (by rw[hk];decide),fun _=>?_⟩;refine⟨fun h=>absurd h (by rw[hk];decide),fun _=>?_⟩;refine⟨fun h=>absurd h (by rw[hk];decide),fun _=>?_⟩;refine⟨fun h=>absurd h (by rw[hk];decide),fun _=>?_⟩;refine⟨fun h=>absurd h (by rw[hk];decide),fun _=>?_⟩;refine⟨fun h=>absurd h (by rw[hk];decide),fun _=>?_⟩;refine⟨fun h=>absurd h (by rw[hk];decide),fun _=>?_⟩;refine⟨fun h=>absurd h (by rw[hk];decide),fun _=>?_⟩;refine⟨fun h=>absurd h (by rw[hk];decide),fun _=>?_⟩;refine⟨fun h=>absurd h (by rw[hk];decide),fun _=>?_⟩;refine⟨fun h=>absurd h (by rw[hk];decide),fun _=>?_⟩;refine⟨fun _=>?_,fun h=>absurd h (by rw[hk];decide)⟩;rw[zaf (n:=s.count+1) o_];refine⟨fun h1=>?_,fun h1=>?_⟩
 ·repeat (first | refine⟨fun _=>?_,bt_⟩ | refine⟨bf_,fun _=>?_⟩)
  refine⟨4,rfl,?_⟩;exact ApS.err (hA.err (by rw[hP];unfold zcE;grind) d_)
 ·refine⟨fun h2=>?_,fun h2=>?_⟩
  ·repeat (first | refine⟨fun _=>?_,bt_⟩ | refine⟨bf_,fun _=>?_⟩)
   refine⟨2,rfl,?_⟩;exact ApS.err (hA.err (by rw[hP];unfold zcE;grind) d_)
  ·refine⟨Int,fun i=>[(6,.int .i64 i)],fun _=>[],fun i=>(0<=i/\i<=s.cells.length)/\∀ j:Nat,(j:Int)<i->¬ ((c.versions.getD (s.cells.getD j default).running.toNat (0,0)).2<=s.high∨(c.versions.getD (s.cells.getD j default).wanted.toNat (0,0)).2<=s.high),fun i=>((s.cells.length:Int)-i).toNat,⟨0,⟨o_,fun j hj=>absurd hj o_⟩,kp_,kp_⟩,?_⟩;rintro i ⟨hi0,hno⟩;refine⟨⟨rfl,rfl⟩,?_⟩;refine⟨fun hlt1=>?_,fun hge=>?_⟩
   ·have hlt2:i<(s.cells.length:Int):=of_decide_eq_true hlt1;have hii:i.toNat<s.cells.length:=by omega
    have hci:=hI.cel _ (List.mem_of_getElem? (zbD (d:=default) hii));have hc1:=hci.running;have hc2:=hci.wanted;refine⟨⟨nl_,hi0.1,hlt2⟩,?_⟩;refine⟨Bool,fun b=>[(57,.bool b)],fun _=>[],fun b=>(b=true↔((c.versions.getD (s.cells.getD i.toNat default).running.toNat (0,0)).2<=s.high∨(c.versions.getD (s.cells.getD i.toNat default).wanted.toNat (0,0)).2<=s.high)),?_,?_⟩
    ·repeat' (first | refine⟨fun _=>?_,bt_⟩ | refine⟨bf_,fun _=>?_⟩ | refine⟨fun _=>?_,fun _=>?_⟩ | refine⟨⟨nl_,o_,o_⟩,?_⟩ | fail)
     all_goals (refine⟨_,?_,kp_,kp_⟩;dsimp only;grind)
    ·rintro b3 hb3;refine⟨⟨d_,rfl,rfl⟩,?_⟩;refine⟨fun h3=>?_,fun h3=>?_⟩
     ·have hpp:=hb3.1 h3;have hany:s.cells.any (zcG c s)=true:=List.any_eq_true.2 ⟨_,List.mem_of_getElem? (zbD (d:=default) hii),by unfold zcG zcj;simp only[Bool.or_eq_true,decide_eq_true_eq];exact hpp⟩;repeat (first | refine⟨fun _=>?_,bt_⟩ | refine⟨bf_,fun _=>?_⟩)
      refine⟨13,rfl,?_⟩;exact ApS.err (hA.err (by rw[hP];unfold zcE;grind) d_)
     ·refine⟨_,?_,kp_,kp_⟩;dsimp only;rw[zaf (n:=i+1) o_];refine⟨⟨o_,fun j hj=>?_⟩,o_⟩;by_cases hji:(j:Int)<i
      ·exact hno j hji
      ·obtain rfl:j=i.toNat:=by omega
       grind
   ·have hge2:¬ i<(s.cells.length:Int):=of_decide_eq_false hge;have hall:∀ j:Nat,j<s.cells.length->¬ ((c.versions.getD (s.cells.getD j default).running.toNat (0,0)).2<=s.high∨(c.versions.getD (s.cells.getD j default).wanted.toNat (0,0)).2<=s.high):=fun j hj=>hno j o_
    have hany:s.cells.any (zcG c s)=false:=by
     rw[List.any_eq_false];intro z hz;obtain⟨j,hj,rfl⟩:=List.getElem_of_mem hz;have:=hall j hj;have hje:s.cells.getD j default=s.cells[j]:=getD_some (List.getElem?_eq_getElem hj);simp only[hje] at this;intro q;unfold zcG zcj at q;simp only[Bool.or_eq_true,decide_eq_true_eq] at q;exact this q
    have hx:IntKind.i64.wrap (s.high+1)=s.high+1:=zaf (by have:=hI.low;omega);have hk0:zaD c s e=0:=by rw[hP];unfold zcE;grind
    have heff:zae s e=(⟨e.tick,s.count+1,s.tenants,s.cells,s.proven,s.evac,s.low,s.high+1⟩:St):=by simp[zae,zai,zaK,zbc,zav,zaR,zaA,zaQ,hk]
    exact ApS.ok (M:=⟨15,14,0⟩) (y:=y2) (s:=(⟨e.tick,s.count+1,s.tenants,s.cells,s.proven,s.evac,s.low,IntKind.i64.wrap (s.high+1)⟩:St)) (by rw[hA.fine hk0 (fun q=>absurd q (by unfold zct;simp[hk])),heff,hx]) rfl rfl ⟨_,_,_,rfl,rfl,nl_,fun k hk=>rfl⟩ ⟨_,_,_,rfl,rfl,nl_,fun k hk=>rfl⟩
/-! ref12.Apply,whole. -/
theorem znH (x:CfgK) (c:Cfg) (y:StK) (s:St) (e:Ent) (hV:CfgV c) (hI:StInv c s):sx ttU arF arD (za1 Tryz.f37) (zb3 0 [zaX CN1 x c,stV SN1 y s,entV' e]) (rdM c s noS) 10 (zb8 ttU Tryz.f37.results.toList fun v mem' _=>ApS mem' v (zaZ c s e)):=by
 by_cases hE:zca c e=true
 ·by_cases hc:s.count<4096
  ·by_cases ht:s.tick<=e.tick
   ·have hA:ArH c s e:=⟨hV,hI,hE,hc,ht⟩;have hk:1<=e.kind/\e.kind<=16:=by
     have h1:=hE;simp only[zca,zaN,inR,Bool.and_eq_true,decide_eq_true_eq] at h1;omega
    rcases (show e.kind=1∨e.kind=2∨e.kind=3∨e.kind=4∨e.kind=5∨e.kind=6∨e.kind=7∨e.kind=8∨e.kind=9∨e.kind=10∨e.kind=11∨e.kind=12∨e.kind=13∨e.kind=14∨e.kind=15∨e.kind=16 by omega) with h | h | h | h | h | h | h | h | h | h | h | h | h | h | h | h
    ·exact apPlace x c y s e hA h
    ·exact apGrant x c y s e hA h
    ·exact apCut x c y s e hA h
    ·exact znL x c y s e hA h
    ·exact apReady x c y s e hA h
    ·exact znM x c y s e hA h
    ·exact znN x c y s e hA h
    ·exact apShed x c y s e hA h
    ·exact apMode x c y s e hA h
    ·exact apWant x c y s e hA h
    ·exact apRuns x c y s e hA h
    ·exact apProve x c y s e hA h
    ·exact apEvac x c y s e hA h
    ·exact apExpand x c y s e hA h
    ·exact zlg x c y s e hA h
    ·exact apNote x c y s e hA h
   ·refine⟨CN1,x,c,e,rfl,by repeat (first | exact trivial | refine⟨rfl,?_⟩),hV,?_⟩;refine⟨fun h=>absurd h (by rw[hE];decide),fun _=>?_⟩;refine⟨fun h=>absurd (of_decide_eq_true h) o_,fun _=>?_⟩;refine⟨fun _=>?_,fun h=>absurd (of_decide_eq_false h) o_⟩;refine⟨3,rfl,?_⟩;refine ApS.err ?_;have hr:zas c s e=3:=by unfold zas;rw[if_neg (by rw[hE];decide),if_neg o_,if_pos o_]
    unfold zaZ;rw[hr,if_pos d_]
  ·refine⟨CN1,x,c,e,rfl,by repeat (first | exact trivial | refine⟨rfl,?_⟩),hV,?_⟩;refine⟨fun h=>absurd h (by rw[hE];decide),fun _=>?_⟩;refine⟨fun _=>?_,fun h=>absurd (of_decide_eq_false h) o_⟩;refine⟨2,rfl,?_⟩;refine ApS.err ?_;have hr:zas c s e=2:=by unfold zas;rw[if_neg (by rw[hE];decide),if_pos o_]
   unfold zaZ;rw[hr,if_pos d_]
 ·have hE2:zca c e=false:=by cases h:zca c e<;>simp_all
  refine⟨CN1,x,c,e,rfl,by repeat (first | exact trivial | refine⟨rfl,?_⟩),hV,?_⟩;refine⟨fun _=>?_,fun h=>absurd h (by rw[hE2];decide)⟩;refine⟨1,rfl,?_⟩;refine ApS.err ?_;have hr:zas c s e=1:=by unfold zas;rw[if_pos hE2]
  unfold zaZ;rw[hr,if_pos d_]
theorem zgd (x:CfgA) (c:Cfg) (y:StA) (s:St) (e:Ent) (w:World) (hV:CfgV c) (hI:StInv c s) (hc:CfgOk w (·<w.heap.size) x c) (hs:StOk w (·<w.heap.size) y s) :
  Calls Tryz.prog 37 #[.agg (zaH x c),.agg (stC y s),entV' e] w fun r w'=>∃ y2,r=.returned (.tuple #[.agg (stC y2 (zaZ c s e).1),.int .i64 (zaZ c s e).2])/\StOk w' (fun b=>w.heap.size<=b/\b<w'.heap.size) y2 (zaZ c s e).1/\Below w.heap.size w w':=by
 have:=zcA zeb arFok Tryz.func37 rfl (D:=arD) k_ (vs:=[zaX CN1 (ck x) c,stV SN1 (sk y) s,entV' e]) rfl x c y s noA noS w hc hs (zbt w _) (fun v hv=>by
  simp only[List.mem_cons,List.not_mem_nil,or_false] at hv
  rcases hv with rfl | rfl | rfl
  ·exact zbw x c y s noA noS
  ·exact zb1 x c y s noA noS
  ·exact (zag (zap e) _ _).2) (znH (ck x) c (sk y) s e hV hI)
 rw[List.map_cons,List.map_cons,zcU,zcf,List.map_cons,(zag (zap e) _ 0).1] at this;refine this.mono ?_;rintro r w' ⟨v,mem',nx',ρ',rfl,⟨T,Cc,rfl,hT,hC⟩,hv,hm',hb⟩;obtain⟨a1,c1,e1,r1⟩:=hm'.slR (enc:=tsC) (sz:=12) (fun _=>rfl) o_ hT;obtain⟨a2,c2,e2,r2⟩:=hm'.slR (enc:=csC) (sz:=4) (fun _=>rfl) o_ hC;refine⟨⟨a1,c1,a2,c2⟩,?_,⟨r1,r2⟩,hb⟩;have d:∀ v,zal ρ' (.int .i64 v)=.int .i64 v:=fun _=>rfl
 simp[den,zaW,stC,d,e1,e2]
def ctApplyR:CT:=fun vs mem nx K=>∃ N x c M y s e,vs=[zaX N x c,stV M y s,entV' e]/\(keeps mem (zcH N c)/\HasRow mem M.t 12 tsC default s.tenants/\HasRow mem M.c 4 csC default s.cells)/\(CfgV c/\StInv c s)/\∀ y2,K (.tuple #[stV ⟨nx+1,nx,500000⟩ y2 (zaZ c s e).1,.int .i64 (zaZ c s e).2]) (stM ⟨nx+1,nx,500000⟩ (zaZ c s e).1++mem) (nx+2)
theorem applyROk:CSound Tryz.prog 37 ctApplyR:=⟨k_,fun {C ρ fr mem nx a w vs K} hc hs hv=>by
 obtain⟨N,x,c,M,y,s,e,rfl,⟨hk,h1,h2⟩,⟨hV,hI⟩,hK⟩:=hc;have e0:([zaX N x c,stV M y s,entV' e].map (den ρ)).toArray=#[.agg (zaH (zdp ρ N x) c),.agg (stC (stX ρ M y) s),entV' e]:=by
  rw[List.map_cons,List.map_cons,zaP,zc3];simp[den,zaW,zal]
 rw[e0];refine (zgd (zdp ρ N x) c (stX ρ M y) s e w hV hI (hs.cfg (x:=x) hk (fun b h _=>h)) (hs.stRow (y:=y) h1 h2)).mono ?_;rintro r w' ⟨y2,rfl,ho,hb⟩;obtain⟨q1,q2,q3,q4⟩:=hs.addSt hb ho;refine⟨.tuple #[stV ⟨nx+1,nx,500000⟩ ⟨y2.ct,y2.cc⟩ (zaZ c s e).1,.int .i64 (zaZ c s e).2],_,_,_,?_,hK ⟨y2.ct,y2.cc⟩,q1,?_,q4⟩
 ·rw[← q2];simp[den,zaW,zal]
 ·intro u hu;simp at hu;rcases hu with rfl | rfl
  ·exact q3
  ·trivial⟩
theorem znI {c:Cfg} {s:St} {e:Ent} (hV:CfgV c) (hI:StInv c s) (hcap:zcr c s=false):zaZ c s e=zao c s e:=by
 unfold zaZ zao;by_cases hr:zas c s e≠0
 ·rw[if_pos hr,if_pos hr]
 ·rw[if_neg hr,if_neg hr];by_cases hb:zdH e=true/\zcr c (zae s e)=true
  ·rw[if_pos hb,if_pos];refine⟨?_,hb.2⟩;have h:=hb.1;unfold zdH at h;unfold zct;grind
  ·rw[if_neg hb];have hp:zao c s e=(zae s e,0):=by unfold zao;rw[if_neg hr,if_neg hb]
   have:=zk4 hV hI hcap hp;rw[if_neg (by rw[this];rintro⟨-,q⟩;cases q)]
end Go.Proofs.YtjnndjnpcelafaaGreat
