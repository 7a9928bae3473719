import Derived.Test.YtdjkeplekchfdaaPf19
namespace Go.Proofs.Ytdjkeplekchfdaa
open Go.RowKit
set_option linter.unusedSimpArgs false
set_option linter.unusedVariables false
set_option maxRecDepth 100000 in
set_option maxHeartbeats 4000000 in
theorem apRuns (x:CfgK) (c:Cfg) (y:StK) (s:St) (e:Ent) (hA:ArH c s e) (hk:e.kind=11):sx ttU arF arD (bodyOf Try.f78) (argF 0 [cfgV CN1 x c,stV SN1 y s,entV' e]) (rdM c s noS) 10 (endx ttU Try.f78.results.toList fun v mem' _=>ApS mem' v (applyR c s e)):=by
 have hV:=hA.cfg
 have hI:=hA.inv
 have hE:=hA.ent
 have hcn:=hA.cnt
 have htk:=hA.tick
 have hlt:=hI.lt
 have hlc:=hI.lc
 have hnt:=hV.nt
 have hnc:=hV.nc
 have hct:=hI.count
 have hst:=hI.tick
 have hev:=hI.evac
 have hpv:=hI.proven
 have htb:=hA.tB
 have hP:kindE c s e=runsE s e:=by unfold kindE;simp[hk]
 have hf:=hE
 simp[entV,entOk,inS,inR,fT,fC,fO,fE,fW,fN,hk] at hf
 refine⟨CN1,x,c,e,rfl,kp_,hV,?_⟩
 refine⟨fun h=>absurd h (by rw[hE];decide),fun _=>?_⟩
 refine⟨fun h=>absurd (of_decide_eq_true h) (by omega),fun _=>?_⟩
 refine⟨fun h=>absurd (of_decide_eq_true h) (by omega),fun _=>?_⟩
 refine⟨SN1,y,s,rfl,⟨.list rfl,.list rfl⟩,⟨by omega,by omega⟩,?_⟩
 intro y2
 refine⟨fun h=>absurd h (by rw[hk];decide),fun _=>?_⟩
 refine⟨fun h=>absurd h (by rw[hk];decide),fun _=>?_⟩
 refine⟨fun h=>absurd h (by rw[hk];decide),fun _=>?_⟩
 refine⟨fun h=>absurd h (by rw[hk];decide),fun _=>?_⟩
 refine⟨fun h=>absurd h (by rw[hk];decide),fun _=>?_⟩
 refine⟨fun h=>absurd h (by rw[hk];decide),fun _=>?_⟩
 refine⟨fun h=>absurd h (by rw[hk];decide),fun _=>?_⟩
 refine⟨fun h=>absurd h (by rw[hk];decide),fun _=>?_⟩
 refine⟨fun h=>absurd h (by rw[hk];decide),fun _=>?_⟩
 refine⟨fun h=>absurd h (by rw[hk];decide),fun _=>?_⟩
 refine⟨fun _=>?_,fun h=>absurd h (by rw[hk];decide)⟩
 rw[wrapi (n:=s.count+1) (by omega)]
 have hi:e.cell.toNat<s.cells.length:=by omega
 refine⟨⟨Nat.le_refl _,by omega,by omega⟩,?_⟩
 refine⟨Bool,fun b=>[(14,.bool b)],fun _=>[],fun b=>(b=true↔(¬ e.n=(s.cells.getD e.cell.toNat default).wanted∨(s.cells.getD e.cell.toNat default).running=(s.cells.getD e.cell.toNat default).wanted)),?_,?_⟩
 ·repeat' (first | refine⟨fun _=>?_,fun h=>Bool.noConfusion h⟩ | refine⟨fun h=>Bool.noConfusion h,fun _=>?_⟩ | refine⟨fun _=>?_,fun _=>?_⟩ | refine⟨⟨Nat.le_refl _,by omega,by omega⟩,?_⟩ | fail)
  all_goals (refine⟨_,?_,kp_,kp_⟩;dsimp only;grind)
 ·rintro b1 hb1
  refine⟨⟨by decide,rfl,rfl⟩,?_⟩
  refine⟨fun h1=>?_,fun h1=>?_⟩
  ·repeat (first | refine⟨fun _=>?_,fun h=>Bool.noConfusion h⟩ | refine⟨fun h=>Bool.noConfusion h,fun _=>?_⟩ | fail)
   refine⟨4,rfl,?_⟩
   exact ApS.err (hA.err (by rw[hP];unfold runsE csAt;grind) (by decide))
  ·refine⟨Bool,fun b=>[(36,.bool b)],fun _=>[],fun b=>(b=true↔(hasB s.proven e.n=false∧¬ s.evac=0)),?_,?_⟩
   ·repeat' (first | refine⟨fun _=>?_,fun h=>Bool.noConfusion h⟩ | refine⟨fun h=>Bool.noConfusion h,fun _=>?_⟩ | refine⟨fun _=>?_,fun _=>?_⟩ | refine⟨⟨Nat.le_refl _,by omega,by omega⟩,?_⟩ | refine⟨⟨15,14,0⟩,y2,_,_,⟨e.tick,s.count+1,s.tenants,s.cells,s.proven,s.evac,s.low,s.high⟩,e.n,rfl,⟨rfl,rfl,.list rfl,.list rfl⟩,(by dsimp only;omega),?_⟩ | fail)
    all_goals (refine⟨_,?_,kp_,kp_⟩;dsimp only;grind)
   ·rintro b2 hb2
    refine⟨⟨by decide,rfl,rfl⟩,?_⟩
    refine⟨fun h2=>?_,fun h2=>?_⟩
    ·repeat (first | refine⟨fun _=>?_,fun h=>Bool.noConfusion h⟩ | refine⟨fun h=>Bool.noConfusion h,fun _=>?_⟩ | fail)
     refine⟨12,rfl,?_⟩
     exact ApS.err (hA.err (by rw[hP];unfold runsE csAt;grind) (by decide))
    ·refine⟨Int,fun i=>[(7,.int .i64 i)],fun _=>[],fun i=>(0≤i∧i≤s.tenants.length)∧∀ j:Nat,(j:Int)<i→¬ ((s.tenants.getD j default).win.cell=e.cell∧e.tick<(s.tenants.getD j default).win.till),fun i=>((s.tenants.length:Int)-i).toNat,⟨0,⟨by omega,fun j hj=>absurd hj (by omega)⟩,kp_,kp_⟩,?_⟩
     rintro i ⟨hi0,hno⟩
     refine⟨⟨rfl,rfl⟩,?_⟩
     refine⟨fun hlt1=>?_,fun hge=>?_⟩
     ·have hlt2:i<(s.tenants.length:Int):=of_decide_eq_true hlt1
      have hii:i.toNat<s.tenants.length:=by omega
      refine⟨⟨Nat.le_refl _,hi0.1,hlt2⟩,?_⟩
      refine⟨Bool,fun b=>[(74,.bool b)],fun _=>[],fun b=>(b=true↔((s.tenants.getD i.toNat default).win.cell=e.cell∧e.tick<(s.tenants.getD i.toNat default).win.till)),?_,?_⟩
      ·repeat' (first | refine⟨fun _=>?_,fun h=>Bool.noConfusion h⟩ | refine⟨fun h=>Bool.noConfusion h,fun _=>?_⟩ | refine⟨fun _=>?_,fun _=>?_⟩ | refine⟨⟨Nat.le_refl _,by omega,by omega⟩,?_⟩ | fail)
       all_goals (refine⟨_,?_,kp_,kp_⟩;dsimp only;grind)
      ·rintro b3 hb3
       refine⟨⟨by decide,rfl,rfl⟩,?_⟩
       refine⟨fun h3=>?_,fun h3=>?_⟩
       ·have hpp:=hb3.1 h3
        have hany:s.tenants.any (fun t=>decide (t.win.cell=e.cell)&&decide (e.tick<t.win.till))=true:=List.any_eq_true.2 ⟨_,List.mem_of_getElem? (getD_get (d:=default) hii),by simp only[Bool.and_eq_true,decide_eq_true_eq];exact hpp⟩
        repeat (first | refine⟨fun _=>?_,fun h=>Bool.noConfusion h⟩ | refine⟨fun h=>Bool.noConfusion h,fun _=>?_⟩ | fail)
        refine⟨9,rfl,?_⟩
        exact ApS.err (hA.err (by rw[hP];unfold runsE csAt;grind) (by decide))
       ·refine⟨_,?_,kp_,kp_⟩
        dsimp only
        rw[wrapi (n:=i+1) (by omega)]
        refine⟨⟨by omega,fun j hj=>?_⟩,by omega⟩
        by_cases hji:(j:Int)<i
        ·exact hno j hji
        ·obtain rfl:j=i.toNat:=by omega
         grind
     ·have hge2:¬ i<(s.tenants.length:Int):=of_decide_eq_false hge
      have hall:∀ j:Nat,j<s.tenants.length→¬ ((s.tenants.getD j default).win.cell=e.cell∧e.tick<(s.tenants.getD j default).win.till):=fun j hj=>hno j (by omega)
      have hany:s.tenants.any (fun t=>decide (t.win.cell=e.cell)&&decide (e.tick<t.win.till))=false:=by
       rw[List.any_eq_false]
       intro z hz
       obtain⟨j,hj,rfl⟩:=List.getElem_of_mem hz
       have:=hall j hj
       have hje:s.tenants.getD j default=s.tenants[j]:=getD_some (List.getElem?_eq_getElem hj)
       simp only[hje] at this
       simpa using this
      refine⟨csC { (s.cells.getD e.cell.toNat default) with running:=e.n },(by first | rfl | (show putN _ _ (csC (List.getD _ _ _))=_;rw[getD_set hi];rfl)),?_⟩
      rw[setEl_set (by first | exact hi | (rw[List.length_set];exact hi))]
      try rw[List.set_set]
      refine⟨kp_,?_⟩
      refine⟨csC { (s.cells.getD e.cell.toNat default) with running:=e.n,since:=e.tick },(by first | rfl | (show putN _ _ (csC (List.getD _ _ _))=_;rw[getD_set hi];rfl)),?_⟩
      rw[setEl_set (by first | exact hi | (rw[List.length_set];exact hi))]
      try rw[List.set_set]
      have hk0:kindE c s e=0:=by rw[hP];unfold runsE csAt;grind
      have heff:effOf s e=(⟨e.tick,s.count+1,s.tenants,s.cells.set e.cell.toNat { (s.cells.getD e.cell.toNat default) with running:=e.n,since:=e.tick },s.proven,s.evac,s.low,s.high⟩:St):=by simp[effOf,stamped,setTen,setCel,tenEff,celEff,tsAt,csAt,hk]
      exact ApS.ok (M:=⟨15,14,0⟩) (y:=y2) (s:=(⟨e.tick,s.count+1,s.tenants,s.cells.set e.cell.toNat { (s.cells.getD e.cell.toNat default) with running:=e.n,since:=e.tick },s.proven,s.evac,s.low,s.high⟩:St)) (by rw[hA.fine hk0 (fun q=>absurd q (by unfold fitsB;simp[hk])),heff]) (by first | rfl | (simp)) (by first | rfl | (simp)) ⟨_,_,_,rfl,rfl,(by first | exact Nat.le_refl _ | (simp)),fun k hk=>rfl⟩ ⟨_,_,_,rfl,rfl,(by first | exact Nat.le_refl _ | (simp)),fun k hk=>rfl⟩
set_option maxRecDepth 100000 in
set_option maxHeartbeats 4000000 in
theorem apProve (x:CfgK) (c:Cfg) (y:StK) (s:St) (e:Ent) (hA:ArH c s e) (hk:e.kind=12):sx ttU arF arD (bodyOf Try.f78) (argF 0 [cfgV CN1 x c,stV SN1 y s,entV' e]) (rdM c s noS) 10 (endx ttU Try.f78.results.toList fun v mem' _=>ApS mem' v (applyR c s e)):=by
 have hV:=hA.cfg
 have hI:=hA.inv
 have hE:=hA.ent
 have hcn:=hA.cnt
 have htk:=hA.tick
 have hlt:=hI.lt
 have hlc:=hI.lc
 have hnt:=hV.nt
 have hnc:=hV.nc
 have hct:=hI.count
 have hst:=hI.tick
 have hev:=hI.evac
 have hpv:=hI.proven
 have htb:=hA.tB
 have hP:kindE c s e=proveE c s e:=by unfold kindE;simp[hk]
 have hf:=hE
 simp[entV,entOk,inS,inR,fT,fC,fO,fE,fW,fN,hk] at hf
 refine⟨CN1,x,c,e,rfl,kp_,hV,?_⟩
 refine⟨fun h=>absurd h (by rw[hE];decide),fun _=>?_⟩
 refine⟨fun h=>absurd (of_decide_eq_true h) (by omega),fun _=>?_⟩
 refine⟨fun h=>absurd (of_decide_eq_true h) (by omega),fun _=>?_⟩
 refine⟨SN1,y,s,rfl,⟨.list rfl,.list rfl⟩,⟨by omega,by omega⟩,?_⟩
 intro y2
 refine⟨fun h=>absurd h (by rw[hk];decide),fun _=>?_⟩
 refine⟨fun h=>absurd h (by rw[hk];decide),fun _=>?_⟩
 refine⟨fun h=>absurd h (by rw[hk];decide),fun _=>?_⟩
 refine⟨fun h=>absurd h (by rw[hk];decide),fun _=>?_⟩
 refine⟨fun h=>absurd h (by rw[hk];decide),fun _=>?_⟩
 refine⟨fun h=>absurd h (by rw[hk];decide),fun _=>?_⟩
 refine⟨fun h=>absurd h (by rw[hk];decide),fun _=>?_⟩
 refine⟨fun h=>absurd h (by rw[hk];decide),fun _=>?_⟩
 refine⟨fun h=>absurd h (by rw[hk];decide),fun _=>?_⟩
 refine⟨fun h=>absurd h (by rw[hk];decide),fun _=>?_⟩
 refine⟨fun h=>absurd h (by rw[hk];decide),fun _=>?_⟩
 refine⟨fun _=>?_,fun h=>absurd h (by rw[hk];decide)⟩
 rw[wrapi (n:=s.count+1) (by omega)]
 have hnv:=hV.nv
 refine⟨⟨15,14,0⟩,y2,_,_,⟨e.tick,s.count+1,s.tenants,s.cells,s.proven,s.evac,s.low,s.high⟩,e.n,rfl,⟨rfl,rfl,.list rfl,.list rfl⟩,(by dsimp only;omega),?_⟩
 refine⟨fun h1=>?_,fun h1=>?_⟩
 ·repeat (first | refine⟨fun _=>?_,fun h=>Bool.noConfusion h⟩ | refine⟨fun h=>Bool.noConfusion h,fun _=>?_⟩ | fail)
  refine⟨4,rfl,?_⟩
  exact ApS.err (hA.err (by rw[hP];unfold proveE;grind) (by decide))
 ·refine⟨Int,fun i=>[(8,.int .i64 i)],fun _=>[],fun i=>(0≤i∧i≤s.cells.length)∧∀ j:Nat,(j:Int)<i→¬ (¬ (s.cells.getD j default).mode=3∧(s.cells.getD j default).running=e.n∧(s.cells.getD j default).wanted=e.n∧c.bake≤e.tick-(s.cells.getD j default).since),fun i=>((s.cells.length:Int)-i).toNat,⟨0,⟨by omega,fun j hj=>absurd hj (by omega)⟩,kp_,kp_⟩,?_⟩
  rintro i ⟨hi0,hno⟩
  refine⟨⟨rfl,rfl⟩,?_⟩
  refine⟨fun hlt1=>?_,fun hge=>?_⟩
  ·have hlt2:i<(s.cells.length:Int):=of_decide_eq_true hlt1
   have hii:i.toNat<s.cells.length:=by omega
   have hcs:=(hI.cel _ (List.mem_of_getElem? (getD_get (d:=default) hii))).since
   have hw:IntKind.i64.wrap (e.tick-(s.cells.getD i.toNat default).since)=e.tick-(s.cells.getD i.toNat default).since:=wrapi (by omega)
   refine⟨⟨Nat.le_refl _,hi0.1,hlt2⟩,?_⟩
   refine⟨Bool,fun b=>[(55,.bool b)],fun _=>[],fun b=>(b=true↔(¬ (s.cells.getD i.toNat default).mode=3∧(s.cells.getD i.toNat default).running=e.n∧(s.cells.getD i.toNat default).wanted=e.n∧c.bake≤e.tick-(s.cells.getD i.toNat default).since)),?_,?_⟩
   ·repeat' (first | refine⟨fun _=>?_,fun h=>Bool.noConfusion h⟩ | refine⟨fun h=>Bool.noConfusion h,fun _=>?_⟩ | refine⟨fun _=>?_,fun _=>?_⟩ | refine⟨⟨Nat.le_refl _,by omega,by omega⟩,?_⟩ | fail)
    all_goals (refine⟨_,?_,kp_,kp_⟩;dsimp only;grind)
   ·rintro b3 hb3
    refine⟨⟨by decide,rfl,rfl⟩,?_⟩
    refine⟨fun h3=>?_,fun h3=>?_⟩
    ·have hpp:=hb3.1 h3
     have hany:s.cells.any (bakedB c e)=true:=List.any_eq_true.2 ⟨_,List.mem_of_getElem? (getD_get (d:=default) hii),by unfold bakedB;simp only[Bool.and_eq_true,decide_eq_true_eq];exact⟨⟨⟨hpp.1,hpp.2.1⟩,hpp.2.2.1⟩,hpp.2.2.2⟩⟩
     refine⟨u64_nonneg _ (by omega) (by omega),?_⟩
     have hx:=orRaw_eq s.proven e.n (by omega) (by omega) (by omega) (by omega)
     have hk0:kindE c s e=0:=by rw[hP];unfold proveE;grind
     have heff:effOf s e=(⟨e.tick,s.count+1,s.tenants,s.cells,orBit s.proven e.n,s.evac,s.low,s.high⟩:St):=by simp[effOf,stamped,setTen,setCel,tenEff,celEff,tsAt,csAt,hk]
     exact ApS.ok (M:=⟨15,14,0⟩) (y:=y2) (s:=(⟨e.tick,s.count+1,s.tenants,s.cells,orRaw s.proven e.n,s.evac,s.low,s.high⟩:St)) (by rw[hA.fine hk0 (fun q=>absurd q (by unfold fitsB;simp[hk])),heff,← hx]) rfl rfl ⟨_,_,_,rfl,rfl,Nat.le_refl _,fun k hk=>rfl⟩ ⟨_,_,_,rfl,rfl,Nat.le_refl _,fun k hk=>rfl⟩
    ·refine⟨_,?_,kp_,kp_⟩
     dsimp only
     rw[wrapi (n:=i+1) (by omega)]
     refine⟨⟨by omega,fun j hj=>?_⟩,by omega⟩
     by_cases hji:(j:Int)<i
     ·exact hno j hji
     ·obtain rfl:j=i.toNat:=by omega
      grind
  ·have hge2:¬ i<(s.cells.length:Int):=of_decide_eq_false hge
   have hall:∀ j:Nat,j<s.cells.length→¬ (¬ (s.cells.getD j default).mode=3∧(s.cells.getD j default).running=e.n∧(s.cells.getD j default).wanted=e.n∧c.bake≤e.tick-(s.cells.getD j default).since):=fun j hj=>hno j (by omega)
   have hany:s.cells.any (bakedB c e)=false:=by
    rw[List.any_eq_false]
    intro z hz
    obtain⟨j,hj,rfl⟩:=List.getElem_of_mem hz
    have:=hall j hj
    have hje:s.cells.getD j default=s.cells[j]:=getD_some (List.getElem?_eq_getElem hj)
    simp only[hje] at this
    intro q;unfold bakedB at q;simp only[Bool.and_eq_true,decide_eq_true_eq] at q;exact this ⟨q.1.1.1,q.1.1.2,q.1.2,q.2⟩
   repeat (first | refine⟨fun _=>?_,fun h=>Bool.noConfusion h⟩ | refine⟨fun h=>Bool.noConfusion h,fun _=>?_⟩ | fail)
   refine⟨15,rfl,?_⟩
   exact ApS.err (hA.err (by rw[hP];unfold proveE;grind) (by decide))
set_option maxRecDepth 100000 in
set_option maxHeartbeats 4000000 in
theorem apExpand (x:CfgK) (c:Cfg) (y:StK) (s:St) (e:Ent) (hA:ArH c s e) (hk:e.kind=14):sx ttU arF arD (bodyOf Try.f78) (argF 0 [cfgV CN1 x c,stV SN1 y s,entV' e]) (rdM c s noS) 10 (endx ttU Try.f78.results.toList fun v mem' _=>ApS mem' v (applyR c s e)):=by
 have hV:=hA.cfg
 have hI:=hA.inv
 have hE:=hA.ent
 have hcn:=hA.cnt
 have htk:=hA.tick
 have hlt:=hI.lt
 have hlc:=hI.lc
 have hnt:=hV.nt
 have hnc:=hV.nc
 have hct:=hI.count
 have hst:=hI.tick
 have hev:=hI.evac
 have hpv:=hI.proven
 have htb:=hA.tB
 have hP:kindE c s e=expandE c s:=by unfold kindE;simp[hk]
 have hf:=hE
 simp[entV,entOk,inS,inR,fT,fC,fO,fE,fW,fN,hk] at hf
 refine⟨CN1,x,c,e,rfl,kp_,hV,?_⟩
 refine⟨fun h=>absurd h (by rw[hE];decide),fun _=>?_⟩
 refine⟨fun h=>absurd (of_decide_eq_true h) (by omega),fun _=>?_⟩
 refine⟨fun h=>absurd (of_decide_eq_true h) (by omega),fun _=>?_⟩
 refine⟨SN1,y,s,rfl,⟨.list rfl,.list rfl⟩,⟨by omega,by omega⟩,?_⟩
 intro y2
 refine⟨fun h=>absurd h (by rw[hk];decide),fun _=>?_⟩
 refine⟨fun h=>absurd h (by rw[hk];decide),fun _=>?_⟩
 refine⟨fun h=>absurd h (by rw[hk];decide),fun _=>?_⟩
 refine⟨fun h=>absurd h (by rw[hk];decide),fun _=>?_⟩
 refine⟨fun h=>absurd h (by rw[hk];decide),fun _=>?_⟩
 refine⟨fun h=>absurd h (by rw[hk];decide),fun _=>?_⟩
 refine⟨fun h=>absurd h (by rw[hk];decide),fun _=>?_⟩
 refine⟨fun h=>absurd h (by rw[hk];decide),fun _=>?_⟩
 refine⟨fun h=>absurd h (by rw[hk];decide),fun _=>?_⟩
 refine⟨fun h=>absurd h (by rw[hk];decide),fun _=>?_⟩
 refine⟨fun h=>absurd h (by rw[hk];decide),fun _=>?_⟩
 refine⟨fun h=>absurd h (by rw[hk];decide),fun _=>?_⟩
 refine⟨fun h=>absurd h (by rw[hk];decide),fun _=>?_⟩
 refine⟨fun _=>?_,fun h=>absurd h (by rw[hk];decide)⟩
 rw[wrapi (n:=s.count+1) (by omega)]
 refine⟨fun h1=>?_,fun h1=>?_⟩
 ·repeat (first | refine⟨fun _=>?_,fun h=>Bool.noConfusion h⟩ | refine⟨fun h=>Bool.noConfusion h,fun _=>?_⟩ | fail)
  refine⟨4,rfl,?_⟩
  exact ApS.err (hA.err (by rw[hP];unfold expandE;grind) (by decide))
 ·refine⟨fun h2=>?_,fun h2=>?_⟩
  ·repeat (first | refine⟨fun _=>?_,fun h=>Bool.noConfusion h⟩ | refine⟨fun h=>Bool.noConfusion h,fun _=>?_⟩ | fail)
   refine⟨2,rfl,?_⟩
   exact ApS.err (hA.err (by rw[hP];unfold expandE;grind) (by decide))
  ·refine⟨Int,fun i=>[(6,.int .i64 i)],fun _=>[],fun i=>(0≤i∧i≤s.cells.length)∧∀ j:Nat,(j:Int)<i→¬ ((c.versions.getD (s.cells.getD j default).running.toNat (0,0)).2≤s.high∨(c.versions.getD (s.cells.getD j default).wanted.toNat (0,0)).2≤s.high),fun i=>((s.cells.length:Int)-i).toNat,⟨0,⟨by omega,fun j hj=>absurd hj (by omega)⟩,kp_,kp_⟩,?_⟩
   rintro i ⟨hi0,hno⟩
   refine⟨⟨rfl,rfl⟩,?_⟩
   refine⟨fun hlt1=>?_,fun hge=>?_⟩
   ·have hlt2:i<(s.cells.length:Int):=of_decide_eq_true hlt1
    have hii:i.toNat<s.cells.length:=by omega
    have hci:=hI.cel _ (List.mem_of_getElem? (getD_get (d:=default) hii))
    have hc1:=hci.running
    have hc2:=hci.wanted
    refine⟨⟨Nat.le_refl _,hi0.1,hlt2⟩,?_⟩
    refine⟨Bool,fun b=>[(57,.bool b)],fun _=>[],fun b=>(b=true↔((c.versions.getD (s.cells.getD i.toNat default).running.toNat (0,0)).2≤s.high∨(c.versions.getD (s.cells.getD i.toNat default).wanted.toNat (0,0)).2≤s.high)),?_,?_⟩
    ·repeat' (first | refine⟨fun _=>?_,fun h=>Bool.noConfusion h⟩ | refine⟨fun h=>Bool.noConfusion h,fun _=>?_⟩ | refine⟨fun _=>?_,fun _=>?_⟩ | refine⟨⟨Nat.le_refl _,by omega,by omega⟩,?_⟩ | fail)
     all_goals (refine⟨_,?_,kp_,kp_⟩;dsimp only;grind)
    ·rintro b3 hb3
     refine⟨⟨by decide,rfl,rfl⟩,?_⟩
     refine⟨fun h3=>?_,fun h3=>?_⟩
     ·have hpp:=hb3.1 h3
      have hany:s.cells.any (blockB c s)=true:=List.any_eq_true.2 ⟨_,List.mem_of_getElem? (getD_get (d:=default) hii),by unfold blockB verAt;simp only[Bool.or_eq_true,decide_eq_true_eq];exact hpp⟩
      repeat (first | refine⟨fun _=>?_,fun h=>Bool.noConfusion h⟩ | refine⟨fun h=>Bool.noConfusion h,fun _=>?_⟩ | fail)
      refine⟨13,rfl,?_⟩
      exact ApS.err (hA.err (by rw[hP];unfold expandE;grind) (by decide))
     ·refine⟨_,?_,kp_,kp_⟩
      dsimp only
      rw[wrapi (n:=i+1) (by omega)]
      refine⟨⟨by omega,fun j hj=>?_⟩,by omega⟩
      by_cases hji:(j:Int)<i
      ·exact hno j hji
      ·obtain rfl:j=i.toNat:=by omega
       grind
   ·have hge2:¬ i<(s.cells.length:Int):=of_decide_eq_false hge
    have hall:∀ j:Nat,j<s.cells.length→¬ ((c.versions.getD (s.cells.getD j default).running.toNat (0,0)).2≤s.high∨(c.versions.getD (s.cells.getD j default).wanted.toNat (0,0)).2≤s.high):=fun j hj=>hno j (by omega)
    have hany:s.cells.any (blockB c s)=false:=by
     rw[List.any_eq_false]
     intro z hz
     obtain⟨j,hj,rfl⟩:=List.getElem_of_mem hz
     have:=hall j hj
     have hje:s.cells.getD j default=s.cells[j]:=getD_some (List.getElem?_eq_getElem hj)
     simp only[hje] at this
     intro q;unfold blockB verAt at q;simp only[Bool.or_eq_true,decide_eq_true_eq] at q;exact this q
    have hx:IntKind.i64.wrap (s.high+1)=s.high+1:=wrapi (by have:=hI.low;omega)
    have hk0:kindE c s e=0:=by rw[hP];unfold expandE;grind
    have heff:effOf s e=(⟨e.tick,s.count+1,s.tenants,s.cells,s.proven,s.evac,s.low,s.high+1⟩:St):=by simp[effOf,stamped,setTen,setCel,tenEff,celEff,tsAt,csAt,hk]
    exact ApS.ok (M:=⟨15,14,0⟩) (y:=y2) (s:=(⟨e.tick,s.count+1,s.tenants,s.cells,s.proven,s.evac,s.low,IntKind.i64.wrap (s.high+1)⟩:St)) (by rw[hA.fine hk0 (fun q=>absurd q (by unfold fitsB;simp[hk])),heff,hx]) rfl rfl ⟨_,_,_,rfl,rfl,Nat.le_refl _,fun k hk=>rfl⟩ ⟨_,_,_,rfl,rfl,Nat.le_refl _,fun k hk=>rfl⟩
/-! ref12.Apply,whole. -/
set_option maxRecDepth 100000 in
theorem applyR_sx (x:CfgK) (c:Cfg) (y:StK) (s:St) (e:Ent) (hV:CfgV c) (hI:StInv c s):sx ttU arF arD (bodyOf Try.f78) (argF 0 [cfgV CN1 x c,stV SN1 y s,entV' e]) (rdM c s noS) 10 (endx ttU Try.f78.results.toList fun v mem' _=>ApS mem' v (applyR c s e)):=by
 by_cases hE:entV c e=true
 ·by_cases hc:s.count<4096
  ·by_cases ht:s.tick≤e.tick
   ·have hA:ArH c s e:=⟨hV,hI,hE,hc,ht⟩
    have hk:1≤e.kind∧e.kind≤16:=by
     have h1:=hE
     simp only[entV,entOk,inR,Bool.and_eq_true,decide_eq_true_eq] at h1
     omega
    rcases (show e.kind=1∨e.kind=2∨e.kind=3∨e.kind=4∨e.kind=5∨e.kind=6∨e.kind=7∨e.kind=8∨e.kind=9∨e.kind=10∨e.kind=11∨e.kind=12∨e.kind=13∨e.kind=14∨e.kind=15∨e.kind=16 by omega) with h | h | h | h | h | h | h | h | h | h | h | h | h | h | h | h
    ·exact apPlace x c y s e hA h
    ·exact apGrant x c y s e hA h
    ·exact apCut x c y s e hA h
    ·exact apStandby x c y s e hA h
    ·exact apReady x c y s e hA h
    ·exact apMigrate x c y s e hA h
    ·exact apAbandon x c y s e hA h
    ·exact apShed x c y s e hA h
    ·exact apMode x c y s e hA h
    ·exact apWant x c y s e hA h
    ·exact apRuns x c y s e hA h
    ·exact apProve x c y s e hA h
    ·exact apEvac x c y s e hA h
    ·exact apExpand x c y s e hA h
    ·exact apContract x c y s e hA h
    ·exact apNote x c y s e hA h
   ·refine⟨CN1,x,c,e,rfl,by repeat (first | exact trivial | refine⟨rfl,?_⟩),hV,?_⟩
    refine⟨fun h=>absurd h (by rw[hE];decide),fun _=>?_⟩
    refine⟨fun h=>absurd (of_decide_eq_true h) (by omega),fun _=>?_⟩
    refine⟨fun _=>?_,fun h=>absurd (of_decide_eq_false h) (by omega)⟩
    refine⟨3,rfl,?_⟩
    refine ApS.err ?_
    have hr:refusedE c s e=3:=by unfold refusedE;rw[if_neg (by rw[hE];decide),if_neg (by omega),if_pos (by omega)]
    unfold applyR
    rw[hr,if_pos (by decide)]
  ·refine⟨CN1,x,c,e,rfl,by repeat (first | exact trivial | refine⟨rfl,?_⟩),hV,?_⟩
   refine⟨fun h=>absurd h (by rw[hE];decide),fun _=>?_⟩
   refine⟨fun _=>?_,fun h=>absurd (of_decide_eq_false h) (by omega)⟩
   refine⟨2,rfl,?_⟩
   refine ApS.err ?_
   have hr:refusedE c s e=2:=by unfold refusedE;rw[if_neg (by rw[hE];decide),if_pos (by omega)]
   unfold applyR
   rw[hr,if_pos (by decide)]
 ·have hE2:entV c e=false:=by cases h:entV c e<;>simp_all
  refine⟨CN1,x,c,e,rfl,by repeat (first | exact trivial | refine⟨rfl,?_⟩),hV,?_⟩
  refine⟨fun _=>?_,fun h=>absurd h (by rw[hE2];decide)⟩
  refine⟨1,rfl,?_⟩
  refine ApS.err ?_
  have hr:refusedE c s e=1:=by unfold refusedE;rw[if_pos hE2]
  unfold applyR
  rw[hr,if_pos (by decide)]
theorem r12Apply_calls (x:CfgA) (c:Cfg) (y:StA) (s:St) (e:Ent) (w:World) (hV:CfgV c) (hI:StInv c s) (hc:CfgOk w (·<w.heap.size) x c) (hs:StOk w (·<w.heap.size) y s) :
  Calls Try.prog 78 #[.agg (cfgC x c),.agg (stC y s),entV' e] w fun r w'=>∃ y2,r=.returned (.tuple #[.agg (stC y2 (applyR c s e).1),.int .i64 (applyR c s e).2])∧StOk w' (fun b=>w.heap.size≤b∧b<w'.heap.size) y2 (applyR c s e).1∧Below w.heap.size w w':=by
 have:=rd_callsM ttUok arFok Try.func78 rfl (D:=arD) (by kernel_rfl) (vs:=[cfgV CN1 (ck x) c,stV SN1 (sk y) s,entV' e]) rfl x c y s noA noS w hc hs (noS_ok w _) (fun v hv=>by
  simp only[List.mem_cons,List.not_mem_nil,or_false] at hv
  rcases hv with rfl | rfl | rfl
  ·exact rpl_cfg_ok x c y s noA noS
  ·exact rpl_st_ok x c y s noA noS
  ·exact (pure_den (pure_ent e) _ _).2) (applyR_sx (ck x) c (sk y) s e hV hI)
 rw[List.map_cons,List.map_cons,rpl_cfg,rpl_st,List.map_cons,(pure_den (pure_ent e) _ 0).1] at this
 refine this.mono ?_
 rintro r w' ⟨v,mem',nx',ρ',rfl,⟨T,Cc,rfl,hT,hC⟩,hv,hm',hb⟩
 obtain⟨a1,c1,e1,r1⟩:=hm'.slR (enc:=tsC) (sz:=12) (fun _=>rfl) (by omega) hT
 obtain⟨a2,c2,e2,r2⟩:=hm'.slR (enc:=csC) (sz:=4) (fun _=>rfl) (by omega) hC
 refine⟨⟨a1,c1,a2,c2⟩,?_,⟨r1,r2⟩,hb⟩
 have d:∀ v,den1 ρ' (.int .i64 v)=.int .i64 v:=fun _=>rfl
 simp[den,den2,stC,d,e1,e2]
def ctApplyR:CT:=fun vs mem nx K=>∃ N x c M y s e,vs=[cfgV N x c,stV M y s,entV' e]∧(keeps mem (cfgM N c)∧HasRow mem M.t 12 tsC default s.tenants∧HasRow mem M.c 4 csC default s.cells)∧(CfgV c∧StInv c s)∧∀ y2,K (.tuple #[stV ⟨nx+1,nx,500000⟩ y2 (applyR c s e).1,.int .i64 (applyR c s e).2]) (stM ⟨nx+1,nx,500000⟩ (applyR c s e).1++mem) (nx+2)
theorem applyROk:CSound Try.prog 78 ctApplyR:=⟨by kernel_rfl,fun {C ρ fr mem nx a w vs K} hc hs hv=>by
 obtain⟨N,x,c,M,y,s,e,rfl,⟨hk,h1,h2⟩,⟨hV,hI⟩,hK⟩:=hc
 have e0:([cfgV N x c,stV M y s,entV' e].map (den ρ)).toArray=#[.agg (cfgC (cfgX ρ N x) c),.agg (stC (stX ρ M y) s),entV' e]:=by
  rw[List.map_cons,List.map_cons,den_cfg,den_st]
  simp[den,den2,den1]
 rw[e0]
 refine (r12Apply_calls (cfgX ρ N x) c (stX ρ M y) s e w hV hI (hs.cfg (x:=x) hk (fun b h _=>h)) (hs.stRow (y:=y) h1 h2)).mono ?_
 rintro r w' ⟨y2,rfl,ho,hb⟩
 obtain⟨q1,q2,q3,q4⟩:=hs.addSt hb ho
 refine⟨.tuple #[stV ⟨nx+1,nx,500000⟩ ⟨y2.ct,y2.cc⟩ (applyR c s e).1,.int .i64 (applyR c s e).2],_,_,_,?_,hK ⟨y2.ct,y2.cc⟩,q1,?_,q4⟩
 ·rw[← q2]
  simp[den,den2,den1]
 ·intro u hu
  simp at hu
  rcases hu with rfl | rfl
  ·exact q3
  ·trivial⟩
theorem applyRP {c:Cfg} {s:St} {e:Ent} (hV:CfgV c) (hI:StInv c s) (hcap:overB c s=false):applyR c s e=applyP c s e:=by
 unfold applyR applyP
 by_cases hr:refusedE c s e≠0
 ·rw[if_pos hr,if_pos hr]
 ·rw[if_neg hr,if_neg hr]
  by_cases hb:booksB e=true∧overB c (effOf s e)=true
  ·rw[if_pos hb,if_pos]
   refine⟨?_,hb.2⟩
   have h:=hb.1
   unfold booksB at h
   unfold fitsB
   grind
  ·rw[if_neg hb]
   have hp:applyP c s e=(effOf s e,0):=by unfold applyP;rw[if_neg hr,if_neg hb]
   have:=cap_step hV hI hcap hp
   rw[if_neg (by rw[this];rintro⟨-,q⟩;cases q)]
def rnD:List (Nat×DQ):=[
 (3000003,{ k:=10,L:=[0,1,2,3,4,5,6,7],sl:=[1,2,3] }),
 (3000007,{ k:=11,L:=[0,1,2,3,4,5,6,7,9],sl:=[1,2,3] })]
abbrev stB (T Cc:Value):List Value:=[zi,zi,T,Cc,.int .i64 1,zi,zi,zi]
set_option maxRecDepth 100000 in
set_option maxHeartbeats 4000000 in
theorem r12New_sx (x:CfgK) (c:Cfg) (hnt:c.tenants.length≤1000) (hnc:c.cells.length≤1000) (hc0:0<c.cells.length) :
  sx tt [] rnD (bodyOf Try.f77) (argF 0 [cfgV CN1 x c]) (cfgM CN1 c) 6
   (endx tt Try.f77.results.toList fun v mem' _=>∃ T Cc,v=.agg (stB T Cc).toArray∧SlR mem' 12 tsC default (stNew c).tenants T∧SlR mem' 4 csC default (stNew c).cells Cc):=by
 refine⟨Int×Nat×Option (Nat×(Nat→List Value)),fun q=>match q with | (i,n,o)=>[(4,.int .i64 i)],fun q=>match q with | (i,n,none)=>[(8,.box 51 (stB zs0 zs0))] | (i,n,some (cap,el))=>[(8,.box 51 (stB (slc 9 n cap) zs0)),(9,tsB cap el)],fun q=>match q with | (i,n,o)=>(i=(n:Int)∧n≤c.tenants.length)∧match o with | none=>n=0 | some (cap,el)=>n≤cap∧∀ k,k<n→el k=tsC tsNew,fun q=>match q with | (i,n,o)=>((c.tenants.length:Int)-i).toNat,⟨(0,0,none),[],⟨⟨rfl,by omega⟩,rfl⟩,⟨rfl,rfl⟩,kp_,kp_⟩,?_⟩
 rintro⟨i,n,(_ | ⟨cap,el⟩)⟩ ⟨⟨hi,hn⟩,ho⟩
 ·refine⟨⟨by decide,rfl,rfl⟩,?_⟩
  obtain rfl:n=0:=ho
  refine⟨fun hlt=>?_,fun hge=>?_⟩
  ·have hlt2:i<(c.tenants.length:Int):=of_decide_eq_true hlt
   refine⟨⟨Nat.le_refl _,fun k hk=>by match k,hk with | 0,_=>rfl⟩,?_⟩
   refine⟨fun h=>absurd h (by decide),fun _=>⟨by decide,fun cap2 el2 hc2 hel2=>?_⟩⟩
   refine⟨(_,_,some (cap2,el2)),[(9,11)],?_,⟨rfl,rfl⟩,kp_,kp_⟩
   dsimp only
   rw[wrapi (n:=i+1) (by omega)]
   refine⟨⟨⟨by omega,by omega⟩,by omega,fun k hk=>?_⟩,by omega⟩
   obtain rfl:k=0:=by omega
   exact hel2 0 (by omega)
  ·have hge2:¬ i<(c.tenants.length:Int):=of_decide_eq_false hge
   have hTz:(stNew c).tenants=[]:=by simp only[stNew];rw[show c.tenants.length=0 by omega];rfl
   clear hi hn
   refine⟨Int×Nat×Option (Nat×(Nat→List Value)),fun q=>match q with | (i,n,o)=>[(5,.int .i64 i)],fun q=>match q with | (i,n,none)=>[(8,.box 51 (stB zs0 zs0))] | (i,n,some (cap,el))=>[(8,.box 51 (stB zs0 (slc 10 n cap))),(10,csB cap el)],fun q=>match q with | (i,n,o)=>(i=(n:Int)∧n≤c.cells.length)∧match o with | none=>n=0 | some (cap,el)=>n≤cap∧∀ k,k<n→el k=csC csNew,fun q=>match q with | (i,n,o)=>((c.cells.length:Int)-i).toNat,⟨(0,0,none),[],⟨⟨rfl,by omega⟩,rfl⟩,⟨rfl,rfl⟩,kp_,kp_⟩,?_⟩
   rintro⟨i,n,(_ | ⟨cap,el⟩)⟩ ⟨⟨hi,hn⟩,ho⟩
   ·refine⟨⟨by decide,rfl,rfl⟩,?_⟩
    obtain rfl:n=0:=ho
    refine⟨fun hlt=>?_,fun hge=>?_⟩
    ·have hlt2:i<(c.cells.length:Int):=of_decide_eq_true hlt
     refine⟨⟨Nat.le_refl _,fun k hk=>by match k,hk with | 0,_=>rfl⟩,?_⟩
     refine⟨fun h=>absurd h (by decide),fun _=>⟨by decide,fun cap2 el2 hc2 hel2=>?_⟩⟩
     refine⟨(_,_,some (cap2,el2)),[(10,12)],?_,⟨rfl,rfl⟩,kp_,kp_⟩
     dsimp only
     rw[wrapi (n:=i+1) (by omega)]
     refine⟨⟨⟨by omega,by omega⟩,by omega,fun k hk=>?_⟩,by omega⟩
     obtain rfl:k=0:=by omega
     exact hel2 0 (by omega)
    ·have hge2:¬ i<(c.cells.length:Int):=of_decide_eq_false hge
     omega
   ·refine⟨⟨by decide,rfl,rfl⟩,?_⟩
    obtain⟨hcap,hel⟩:=ho
    refine⟨fun hlt=>?_,fun hge=>?_⟩
    ·have hlt2:i<(c.cells.length:Int):=of_decide_eq_true hlt
     refine⟨⟨Nat.le_refl _,fun k hk=>by match k,hk with | 0,_=>rfl⟩,?_⟩
     refine⟨⟨rfl,hcap⟩,fun hin el2 h1 h2=>?_,fun hgt=>⟨by show (n+1) * 32≤140737488355328;omega,fun cap2 el2 hc2 h1 h2=>?_⟩⟩
     ·refine⟨(_,_,some (cap,el2)),[],?_,⟨rfl,rfl⟩,kp_,kp_⟩
      dsimp only
      rw[wrapi (n:=i+1) (by omega)]
      refine⟨⟨⟨by omega,by omega⟩,by omega,fun k hk=>?_⟩,by omega⟩
      by_cases hkn:k<n
      ·exact (h1 k hkn).trans (hel k hkn)
      ·obtain rfl:k=n:=by omega
       exact h2 0 (by omega)
     ·refine⟨(_,_,some (cap2,el2)),[(10,12)],?_,⟨rfl,rfl⟩,kp_,kp_⟩
      dsimp only
      rw[wrapi (n:=i+1) (by omega)]
      refine⟨⟨⟨by omega,by omega⟩,by omega,fun k hk=>?_⟩,by omega⟩
      by_cases hkn:k<n
      ·exact (h1 k hkn).trans (hel k hkn)
      ·obtain rfl:k=n:=by omega
       exact h2 0 (by omega)
    ·have hge2:¬ i<(c.cells.length:Int):=of_decide_eq_false hge
     have hnn:n=c.cells.length:=by omega
     subst hnn
     have hlc:(stNew c).cells.length=c.cells.length:=by simp[stNew]
     have hlt:(stNew c).tenants.length=c.tenants.length:=by simp[stNew]
     exact⟨_,_,rfl,.inl ⟨rfl,hTz⟩,.inr ⟨10,cap,_,cap,el,by rw[hlc],rfl,rfl,by rw[hlc];exact hcap,fun k hk=>by rw[hlc] at hk;rw[hel k hk];simp only[stNew];rw[getD_rep hk]⟩⟩
 ·refine⟨⟨by decide,rfl,rfl⟩,?_⟩
  obtain⟨hcap,hel⟩:=ho
  refine⟨fun hlt=>?_,fun hge=>?_⟩
  ·have hlt2:i<(c.tenants.length:Int):=of_decide_eq_true hlt
   refine⟨⟨Nat.le_refl _,fun k hk=>by match k,hk with | 0,_=>rfl⟩,?_⟩
   refine⟨⟨rfl,hcap⟩,fun hin el2 h1 h2=>?_,fun hgt=>⟨by show (n+1) * 88≤140737488355328;omega,fun cap2 el2 hc2 h1 h2=>?_⟩⟩
   ·refine⟨(_,_,some (cap,el2)),[],?_,⟨rfl,rfl⟩,kp_,kp_⟩
    dsimp only
    rw[wrapi (n:=i+1) (by omega)]
    refine⟨⟨⟨by omega,by omega⟩,by omega,fun k hk=>?_⟩,by omega⟩
    by_cases hkn:k<n
    ·exact (h1 k hkn).trans (hel k hkn)
    ·obtain rfl:k=n:=by omega
     exact h2 0 (by omega)
   ·refine⟨(_,_,some (cap2,el2)),[(9,11)],?_,⟨rfl,rfl⟩,kp_,kp_⟩
    dsimp only
    rw[wrapi (n:=i+1) (by omega)]
    refine⟨⟨⟨by omega,by omega⟩,by omega,fun k hk=>?_⟩,by omega⟩
    by_cases hkn:k<n
    ·exact (h1 k hkn).trans (hel k hkn)
    ·obtain rfl:k=n:=by omega
     exact h2 0 (by omega)
  ·have hge2:¬ i<(c.tenants.length:Int):=of_decide_eq_false hge
   have hnn:n=c.tenants.length:=by omega
   subst hnn
   have hcapT:=hcap
   have helT:=hel
   clear hcap hel hi hn hge2 hge
   obtain⟨capT,hce⟩:∃ q,q=cap:=⟨_,rfl⟩
   obtain⟨elT,hee⟩:∃ q,q=el:=⟨_,rfl⟩
   subst hce hee
   refine⟨Int×Nat×Option (Nat×(Nat→List Value)),fun q=>match q with | (i,n,o)=>[(5,.int .i64 i)],fun q=>match q with | (i,n,none)=>[(8,.box 51 (stB (slc 9 c.tenants.length capT) zs0))] | (i,n,some (cap,el))=>[(8,.box 51 (stB (slc 9 c.tenants.length capT) (slc 10 n cap))),(10,csB cap el)],fun q=>match q with | (i,n,o)=>(i=(n:Int)∧n≤c.cells.length)∧match o with | none=>n=0 | some (cap,el)=>n≤cap∧∀ k,k<n→el k=csC csNew,fun q=>match q with | (i,n,o)=>((c.cells.length:Int)-i).toNat,⟨(0,0,none),[],⟨⟨rfl,by omega⟩,rfl⟩,⟨rfl,rfl⟩,kp_,kp_⟩,?_⟩
   rintro⟨i,n,(_ | ⟨cap,el⟩)⟩ ⟨⟨hi,hn⟩,ho⟩
   ·refine⟨⟨by decide,rfl,rfl⟩,?_⟩
    obtain rfl:n=0:=ho
    refine⟨fun hlt=>?_,fun hge=>?_⟩
    ·have hlt2:i<(c.cells.length:Int):=of_decide_eq_true hlt
     refine⟨⟨Nat.le_refl _,fun k hk=>by match k,hk with | 0,_=>rfl⟩,?_⟩
     refine⟨fun h=>absurd h (by decide),fun _=>⟨by decide,fun cap2 el2 hc2 hel2=>?_⟩⟩
     refine⟨(_,_,some (cap2,el2)),[(10,12)],?_,⟨rfl,rfl⟩,kp_,kp_⟩
     dsimp only
     rw[wrapi (n:=i+1) (by omega)]
     refine⟨⟨⟨by omega,by omega⟩,by omega,fun k hk=>?_⟩,by omega⟩
     obtain rfl:k=0:=by omega
     exact hel2 0 (by omega)
    ·have hge2:¬ i<(c.cells.length:Int):=of_decide_eq_false hge
     omega
   ·refine⟨⟨by decide,rfl,rfl⟩,?_⟩
    obtain⟨hcap,hel⟩:=ho
    refine⟨fun hlt=>?_,fun hge=>?_⟩
    ·have hlt2:i<(c.cells.length:Int):=of_decide_eq_true hlt
     refine⟨⟨Nat.le_refl _,fun k hk=>by match k,hk with | 0,_=>rfl⟩,?_⟩
     refine⟨⟨rfl,hcap⟩,fun hin el2 h1 h2=>?_,fun hgt=>⟨by show (n+1) * 32≤140737488355328;omega,fun cap2 el2 hc2 h1 h2=>?_⟩⟩
     ·refine⟨(_,_,some (cap,el2)),[],?_,⟨rfl,rfl⟩,kp_,kp_⟩
      dsimp only
      rw[wrapi (n:=i+1) (by omega)]
      refine⟨⟨⟨by omega,by omega⟩,by omega,fun k hk=>?_⟩,by omega⟩
      by_cases hkn:k<n
      ·exact (h1 k hkn).trans (hel k hkn)
      ·obtain rfl:k=n:=by omega
       exact h2 0 (by omega)
     ·refine⟨(_,_,some (cap2,el2)),[(10,12)],?_,⟨rfl,rfl⟩,kp_,kp_⟩
      dsimp only
      rw[wrapi (n:=i+1) (by omega)]
      refine⟨⟨⟨by omega,by omega⟩,by omega,fun k hk=>?_⟩,by omega⟩
      by_cases hkn:k<n
      ·exact (h1 k hkn).trans (hel k hkn)
      ·obtain rfl:k=n:=by omega
       exact h2 0 (by omega)
    ·have hge2:¬ i<(c.cells.length:Int):=of_decide_eq_false hge
     have hnn:n=c.cells.length:=by omega
     subst hnn
     have hlc:(stNew c).cells.length=c.cells.length:=by simp[stNew]
     have hlt:(stNew c).tenants.length=c.tenants.length:=by simp[stNew]
     exact⟨_,_,rfl,.inr ⟨9,capT,_,capT,elT,by rw[hlt],rfl,rfl,by rw[hlt];exact hcapT,fun k hk=>by rw[hlt] at hk;rw[helT k hk];simp only[stNew];rw[getD_rep hk]⟩,.inr ⟨10,cap,_,cap,el,by rw[hlc],rfl,rfl,by rw[hlc];exact hcap,fun k hk=>by rw[hlc] at hk;rw[hel k hk];simp only[stNew];rw[getD_rep hk]⟩⟩
theorem r12New_calls (x:CfgA) (c:Cfg) (w:World) (hc:CfgOk w (·<w.heap.size) x c) (hnt:c.tenants.length≤1000) (hnc:c.cells.length≤1000) (hc0:0<c.cells.length) :
  Calls Try.prog 77 #[.agg (cfgC x c)] w fun e w'=>∃ y,e=.returned (.agg (stC y (stNew c)))∧StOk w' (fun b=>w.heap.size≤b∧b<w'.heap.size) y (stNew c)∧Below w.heap.size w w':=by
 have hpc:CfgPl (cpl x c) CN1 x c:=⟨rfl,rfl,rfl,rfl,rfl,rfl⟩
 have hm:MemAt { w0:=w,bor:=[],n0:=6,ρ0:=cpl x c,nt:=(Try.f77).ntmps } (cpl x c) (cfgM CN1 c) 6 w:=MemAt.rows trivial (by
  have:=cfg_blks (C:={ w0:=w,bor:=[],n0:=6,ρ0:=cpl x c,nt:=(Try.f77).ntmps }) (nx:=6) (r:=[]) hpc hc (fun b hb=>hb) (by decide) trivial
  exact this)
 have hv0:#[Value.agg (cfgC x c)]=([cfgV CN1 ⟨x.cz,x.cc,x.ct,x.cv,x.cr,x.co⟩ c].map (den (cpl x c))).toArray:=by
  rw[List.map_cons,den_cfg]
  rfl
 rw[hv0]
 refine (calls_sx ttOk ft_nil mixed Try.func77 rfl (D:=rnD) (by kernel_rfl) (vs:=[cfgV CN1 ⟨x.cz,x.cc,x.ct,x.cv,x.cr,x.co⟩ c]) rfl ⟨rfl,rfl⟩ rfl hm (fun v hv=>?_) (r12New_sx _ c hnt hnc hc0)).mono ?_
 ·obtain rfl:v=_:=by simpa using hv
  intro u hu
  simp at hu
  rcases hu with rfl | rfl | rfl | rfl | rfl | rfl | rfl | rfl | rfl | rfl<;>first | trivial | exact⟨by decide,rfl⟩
 ·rintro e w' ⟨v,mem',nx',ρ',rfl,⟨T,Cc,rfl,hT,hC⟩,hv,hm'⟩
  obtain⟨a1,c1,e1,r1⟩:=hm'.slR (enc:=tsC) (sz:=12) (fun _=>rfl) (by omega) hT
  obtain⟨a2,c2,e2,r2⟩:=hm'.slR (enc:=csC) (sz:=4) (fun _=>rfl) (by omega) hC
  refine⟨⟨a1,c1,a2,c2⟩,?_,⟨r1,r2⟩,⟨hm'.rest.os,hm'.rest.tape,hm'.rest.output,hm'.rest.size,fun b hlt=>hm'.rest.block b hlt (by simp)⟩⟩
  have d:∀ v,den1 ρ' (.int .i64 v)=.int .i64 v:=fun _=>rfl
  simp[den,den2,stC,stNew,d] at e1 e2 ⊢
  exact⟨e1,e2⟩
def ctNewR:CT:=fun vs mem nx K=>∃ N x c,vs=[cfgV N x c]∧keeps mem (cfgM N c)∧(c.tenants.length≤1000∧c.cells.length≤1000∧0<c.cells.length)∧∀ y,K (stV ⟨nx+1,nx,500000⟩ y (stNew c)) (stM ⟨nx+1,nx,500000⟩ (stNew c)++mem) (nx+2)
theorem newROk:CSound Try.prog 77 ctNewR:=⟨by kernel_rfl,fun {C ρ fr mem nx a w vs K} hc hs hv=>by
 obtain⟨N,x,c,rfl,hk,⟨hnt,hnc,hc0⟩,hK⟩:=hc
 rw[List.map_cons,den_cfg]
 refine (r12New_calls (cfgX ρ N x) c w (hs.cfg hk (fun b h _=>h)) hnt hnc hc0).mono ?_
 rintro e w' ⟨y,rfl,hst,hb⟩
 obtain⟨q1,q2,q3,q4⟩:=hs.addSt hb hst
 exact⟨_,_,_,_,by rw[q2],hK ⟨y.ct,y.cc⟩,q1,q3,q4⟩⟩
/-! Logs that are accepted,and ref12.Fold. -/
inductive Run (c:Cfg):St→List Ent→St→Prop where
 | nil (s:St):Run c s [] s
 | cons {s x s':St} {e:Ent} {es:List Ent} (h:applyP c s e=(x,0)) (hr:Run c x es s'):Run c s (e::es) s'
structure RInv (c:Cfg) (s:St):Prop where
 inv:StInv c s
 cap:overB c s=false
theorem RInv.new {c:Cfg} (hV:CfgV c):RInv c (stNew c):=⟨stNew_inv hV,cap_new hV⟩
theorem RInv.step {c:Cfg} {s x:St} {e:Ent} (hV:CfgV c) (h:RInv c s) (he:applyP c s e=(x,0)):RInv c x:=by
 obtain⟨hr,hx,-⟩:=applyP_ok he
 exact⟨by rw[hx];exact h.inv.step hV hr,cap_step hV h.inv h.cap he⟩
theorem Run.rinv {c:Cfg} (hV:CfgV c) {s s':St} {es:List Ent} (h:Run c s es s') (hs:RInv c s):RInv c s':=by
 induction h with
 | nil s=>exact hs
 | cons he _ ih=>exact ih (hs.step hV he)
theorem Run.snoc {c:Cfg} {s s' x:St} {es:List Ent} {e:Ent} (h:Run c s es s') (he:applyP c s' e=(x,0)):Run c s (es++[e]) x:=by
 induction h with
 | nil s=>exact .cons he (.nil _)
 | cons h1 _ ih=>exact .cons h1 (ih he)
theorem Run.fold {c:Cfg} {s s':St} {es:List Ent} (h:Run c s es s'):∀ i:Int,foldGo c i s es=(s',i+es.length,0):=by
 induction h with
 | nil s=>intro i;simp[foldGo]
 | cons h1 _ ih=>
  intro i
  rw[foldGo,h1,if_neg (by simp),ih]
  simp
  omega
theorem Run.foldC {c:Cfg} {s':St} {es:List Ent} (h:Run c (stNew c) es s'):foldC c es=(s',(es.length:Int),0):=by
 unfold Go.Proofs.Ytdjkeplekchfdaa.foldC
 rw[h.fold 0,Int.zero_add]
theorem Run.count {c:Cfg} {s s':St} {es:List Ent} (h:Run c s es s'):s'.count=s.count+es.length:=by
 induction h with
 | nil s=>simp
 | cons h1 _ ih=>
  obtain⟨hr,hx,-⟩:=applyP_ok h1
  rw[ih,hx]
  have:∀ (s:St) (e:Ent),(effOf s e).count=s.count+1:=by
   intro s e
   unfold effOf stamped setTen setCel
   repeat (split<;>try rfl)
  rw[this]
  simp
  omega
theorem Run.split {c:Cfg} {s s':St} {l r:List Ent} (h:Run c s (l++r) s'):∃ m,Run c s l m∧Run c m r s':=by
 induction l generalizing s with
 | nil=>exact⟨s,.nil s,h⟩
 | cons e l ih=>
  cases h with
  | cons h1 hr=>
   obtain⟨m,q1,q2⟩:=ih hr
   exact⟨m,.cons h1 q1,q2⟩
def frF:FT:=[(77,ctNewR),(78,ctApplyR)]
theorem frFok:FTok Try.prog frF:=ft_cons newROk (ft_cons applyROk ft_nil)
def frD:List (Nat×DQ):=[(3000003,{ k:=20,L:=[0,1,2,3,4,5,6,7,8,9,10,11,12,13,14],sl:=[1,2,4,7] }),
 (5,{ k:=12,L:=[0,1,2,3,4,5,6,7,8,9,10,11,12,13,14,17,18,19],A:=[10],pre:=[(0,false),(1,false),(2,false),(3,false),(4,false),(5,false),(6,true),(7,false),(8,false),(9,false)],post:=[(11,true)] })]
set_option maxRecDepth 100000 in
set_option maxHeartbeats 4000000 in
theorem foldR_sx (d:UD) (x:CfgK) (cap:Nat) (hV:CfgV d.c) (hl:d.es.length≤1000000) :
  sx tt frF frD (bodyOf Try.f58) (argF 0 [cfgV CNu x d.c,slc 8 d.es.length cap]) (uniM d) 13 (endx tt Try.f58.results.toList fun v mem' _=>∃ y,v=.tuple #[stV ⟨18,19,500000⟩ y (foldC d.c d.es).1,.int .i64 (foldC d.c d.es).2.1,.int .i64 (foldC d.c d.es).2.2]∧keeps mem' (stM ⟨18,19,500000⟩ (foldC d.c d.es).1)):=by
 have hnt:=hV.nt
 have hnc:=hV.nc
 refine⟨CNu,x,d.c,rfl,kp_,⟨by omega,by omega,by omega⟩,?_⟩
 intro y0
 refine⟨St×StK×Int,fun q=>match q with | (s,y,i)=>[(8,.int .i64 i)],fun q=>match q with | (s,y,i)=>[(17,.box 51 [.int .i64 s.tick,.int .i64 s.count,slc 18 s.tenants.length y.ct,slc 19 s.cells.length y.cc,.int .i64 s.proven,.int .i64 s.evac,.int .i64 s.low,.int .i64 s.high]),(18,rowOfL 500000 12 tsC default s.tenants),(19,rowOfL 500000 4 csC default s.cells)],fun q=>match q with | (s,y,i)=>RInv d.c s∧(0≤i∧i≤d.es.length)∧foldGo d.c i s (d.es.drop i.toNat)=foldC d.c d.es,fun q=>match q with | (s,y,i)=>((d.es.length:Int)-i).toNat,⟨(stNew d.c,y0,0),[(18,16),(19,15)],⟨.new hV,by omega,rfl⟩,⟨rfl,rfl⟩,kp_,kp_⟩,?_⟩
 rintro⟨s,y,i⟩ ⟨hR,hi,hf⟩
 refine⟨⟨by decide,rfl,rfl⟩,?_⟩
 refine⟨fun hlt=>?_,fun hge=>?_⟩
 ·have hlt2:i<(d.es.length:Int):=of_decide_eq_true hlt
  have hd:d.es.drop i.toNat=(d.es.getD i.toNat default)::d.es.drop (i+1).toNat:=by
   rw[show (i+1).toNat=i.toNat+1 by omega,← List.getElem_cons_drop (show i.toNat<d.es.length by omega)]
   congr 1
   rw[List.getD_eq_getElem?_getD,List.getElem?_eq_getElem (show i.toNat<d.es.length by omega)]
   rfl
  rw[hd] at hf
  refine⟨⟨Nat.le_refl _,hi.1,hlt2⟩,?_⟩
  refine⟨CNu,x,d.c,⟨18,19,500000⟩,y,s,(d.es.getD i.toNat default),rfl,⟨kp_,.list rfl,.list rfl⟩,⟨hV,hR.inv⟩,?_⟩
  intro y2
  rw[applyRP hV hR.inv hR.cap]
  refine⟨kp_,?_⟩
  refine⟨kp_,?_⟩
  generalize (d.es.getD i.toNat default)=e at hf ⊢
  refine⟨fun he=>?_,fun he=>?_⟩
  ·have he2:(applyP d.c s e).2≠0:=by simpa using he
   rw[foldGo,if_pos he2] at hf
   rw[← hf]
   exact⟨y,rfl,kp_⟩
  ·have he2:(applyP d.c s e).2=0:=by simpa using he
   rw[foldGo,if_neg (fun h=>h he2)] at hf
   refine⟨((applyP d.c s e).1,y2,_),[(18,22),(19,21)],?_,⟨rfl,rfl⟩,kp_,kp_⟩
   dsimp only
   rw[wrapi (n:=i+1) (by omega)]
   exact⟨⟨hR.step hV (e:=e) (by rw[← he2]),by omega,hf⟩,by omega⟩
 ·have hge2:¬ i<(d.es.length:Int):=of_decide_eq_false hge
  obtain rfl:i=d.es.length:=by omega
  rw[Int.toNat_natCast,List.drop_length] at hf
  rw[foldGo] at hf
  rw[← hf]
  exact⟨y,rfl,kp_⟩
theorem r12Fold_calls (x:CfgA) (c:Cfg) (A:Option Addr) (cap:Nat) (es:List Ent) (w:World) (hV:CfgV c) (hl:es.length≤1000000) (hc:CfgOk w (·<w.heap.size) x c) (hr:Rd w (·<w.heap.size) A (flat entC es)) :
  Calls Try.prog 58 #[.agg (cfgC x c),.slice A es.length cap] w fun e w'=>∃ y,e=.returned (.tuple #[.agg (stC y (foldC c es).1),.int .i64 (foldC c es).2.1,.int .i64 (foldC c es).2.2])∧StOk w' (fun b=>w.heap.size≤b∧b<w'.heap.size) y (foldC c es).1∧Below w.heap.size w w':=by
 have:=uni_calls ttOk (frFok.i _) Try.func58 rfl (D:=frD) (by kernel_rfl) (vs:=[cfgV CNu (ck x) c,slc 8 es.length cap]) rfl { x:=x,ae:=A } { c:=c,es:=es } w { c:=hc,e:=hr } (fun v hv=>by
  simp only[List.mem_cons,List.not_mem_nil,or_false] at hv
  rcases hv with rfl | rfl
  ·exact upl_cfg_ok { x:=x,ae:=A } { c:=c,es:=es }
  ·exact⟨show (8:Nat)<13 by decide,rfl⟩) (foldR_sx { c:=c,es:=es } (ck x) cap hV hl)
 rw[List.map_cons] at this
 have e0:=upl_cfg { x:=x,ae:=A } { c:=c,es:=es }
 dsimp only at e0 this
 rw[e0] at this
 refine this.mono ?_
 rintro e w' ⟨v,mem',nx',ρ',rfl,⟨y,rfl,k1,k2,-⟩,hv,hm',hb⟩
 refine⟨⟨(ρ' 18).A,y.ct,(ρ' 19).A,y.cc⟩,?_,⟨?_,?_⟩,hb⟩
 ·simp[den,den2,den1,dA_whole,dS_whole,stC]
 ·exact (hm'.blk 18 _ k1).fresh (enc:=tsC) default rfl rfl (fun k hk=>rfl) (fun _=>rfl) (by omega)
 ·exact (hm'.blk 19 _ k2).fresh (enc:=csC) default rfl rfl (fun k hk=>rfl) (fun _=>rfl) (by omega)
def ctFoldR:CT:=fun vs mem nx K=>∃ N x c r cap es,vs=[cfgV N x c,slc r (es:List Ent).length cap]∧(keeps mem (cfgM N c)∧HasRow mem r 9 entC default es)∧(CfgV c∧es.length≤1000000)∧∀ y,K (.tuple #[stV ⟨nx+1,nx,500000⟩ y (foldC c es).1,.int .i64 (foldC c es).2.1,.int .i64 (foldC c es).2.2]) (stM ⟨nx+1,nx,500000⟩ (foldC c es).1++mem) (nx+2)
theorem foldROk:CSound Try.prog 58 ctFoldR:=⟨by kernel_rfl,fun {C ρ fr mem nx a w vs K} hc hs hv=>by
 obtain⟨N,x,c,r,cap,es,rfl,⟨hk,hr⟩,⟨hV,hl⟩,hK⟩:=hc
 have e0:([cfgV N x c,slc r es.length cap].map (den ρ)).toArray=#[.agg (cfgC (cfgX ρ N x) c),.slice (ρ r).A es.length cap]:=by
  rw[List.map_cons,den_cfg]
  rfl
 rw[e0]
 refine (r12Fold_calls (cfgX ρ N x) c (ρ r).A cap es w hV hl (hs.cfg hk (fun b h _=>h)) (hs.hasRd (enc:=entC) (sz:=9) (fun _=>rfl) (by omega) hr)).mono ?_
 rintro e w' ⟨y,rfl,hst,hb⟩
 obtain⟨q1,q2,q3,q4⟩:=hs.addSt hb hst
 refine⟨.tuple #[stV ⟨nx+1,nx,500000⟩ ⟨y.ct,y.cc⟩ (foldC c es).1,.int .i64 (foldC c es).2.1,.int .i64 (foldC c es).2.2],_,_,_,?_,hK ⟨y.ct,y.cc⟩,q1,?_,q4⟩
 ·rw[← q2]
  simp[den,den2,den1]
 ·intro u hu
  simp at hu
  rcases hu with rfl | rfl | rfl
  ·exact q3
  ·trivial
  ·trivial⟩
/-! Lists of atlases: rows of the wider kind. -/
abbrev aZ:Atl:=⟨0,0,[],0,0⟩
abbrev atlC (a:Atl) (cp:Nat):List Value:=[.int .i64 a.number,.int .i64 a.tick,.slice (some ⟨0,0,none⟩) a.routes.length cp,.int .u64 a.parent,.int .u64 a.sum]
abbrev rowSB (l:List (Int×Int)):SB:=⟨2,l.length,fun j=>pairC (l.getD j (0,0))⟩
def famA (xs:List Atl):Nat→Nat→SB:=fun k o=>match o with
 | 2=>rowSB (xs.getD k aZ).routes
 | _=>emptySB
abbrev atlEl (xs:List Atl) (cps:List Nat):Nat→List Value:=fun k=>atlC (xs.getD k aZ) (cps.getD k 0)
abbrev deepA (t:TypeId) (cap:Nat) (xs:List Atl) (cps:List Nat) (u:Nat):ABlk:=.ext (.deep t 5 xs.length cap (atlEl xs cps) u)
abbrev famB (t:TypeId) (xs:List Atl):ABlk:=.ext (.fam t (famA xs))
theorem famA_out {xs:List Atl} {k:Nat} (h:xs.length≤k) (o:Nat):(famA xs k o).n=0:=by
 unfold famA
 rw[show xs.getD k aZ=aZ by rw[List.getD_eq_getElem?_getD,List.getElem?_eq_none h];rfl]
 split<;>rfl
abbrev rtS (u k:Nat) (a:Atl) (cp:Nat):Value:=.slice (some ⟨u,2,some k⟩) a.routes.length cp
theorem SrcR.fam {mem:AM} {u k cp:Nat} {t:TypeId} {xs:List Atl} (h:lk mem u=some (famB t xs)):SrcR mem 2 pairC (0,0) (xs.getD k aZ).routes (rtS u k (xs.getD k aZ) cp):=
 .inr (.inr ⟨u,2,k,cp,rfl,t,famA xs,h,rfl,Nat.le_refl _,fun _ _=>rfl⟩)
theorem famA_list (l:List (Int×Int)) (o:Nat) {a:Atl} (h:a.routes=l):(match o with | 2=>rowSB a.routes | _=>emptySB)=[emptySB,emptySB,rowSB l,emptySB,emptySB].getD o emptySB:=by
 subst h
 match o with
 | 0=>rfl
 | 1=>rfl
 | 2=>rfl
 | 3=>rfl
 | 4=>rfl
 | n+5=>rfl
def gcutQ:DQ:={ k:=15,L:=[1,9,10,11,13,14],sl:=[0,5,6,7,8,9] }
def ggrD:List (Nat×DQ):=[
 (14,{ k:=5,L:=[12],pre:=[(0,false),(1,false),(2,false),(3,true),(4,false)] }),
 (15,{ k:=7,L:=[12,10],pre:=[(0,false),(1,false),(2,false),(3,false),(4,false),(5,true),(6,false)] }),
 (18,{ k:=10,g:=some (.fix 0 (.fix 3 (.fix 5 (.three
  1 (.fix 2 (.two 4 (.fix 8 (.act 6 (.fix 7 (.act 9 .fin)))) 6 (.act 4 (.fix 7 (.fix 8 (.act 9 .fin))))))
  4 (.two 1 (.fix 2 (.fix 8 (.act 6 (.fix 7 (.act 9 .fin))))) 6 (.fix 7 (.act 1 (.fix 2 (.fix 8 (.act 9 .fin))))))
  6 (.two 1 (.fix 2 (.act 4 (.fix 7 (.fix 8 (.act 9 .fin))))) 4 (.fix 7 (.act 1 (.fix 2 (.fix 8 (.act 9 .fin))))))))))}),
 (1000007,gcutQ),(1000010,gcutQ),(1000012,gcutQ),(1000015,gcutQ),(1000019,gcutQ),(1000020,gcutQ)]
def preGrant (c:Cfg) (s:St) (args:List Value) (k:Int):Prop:=(CfgV c∧StInv c s)∧∃ e,args=[entV' e]∧(0≤e.tenant∧e.tenant<s.tenants.length)∧(tsAt s e.tenant).placed=true
theorem ints_new {C:Ctx} {ρ:Nat→Pl} {fr:AF} {mem:AM} {nx:Nat} {a:Act} {w w':World} (hs:Sat C ρ fr mem nx a w) {l:List Int} {A:Option Addr} {cp:Nat} (ho:w'.ownsRow w.heap.size 3 1 (.slice A l.length cp) l.length (flat intC l)) (hb:Below w.heap.size w w') :
  Sat C (setPl ρ nx ⟨A,1,l.length,false,noSub⟩) fr ((nx,intRow l)::mem) (nx+1) a w'∧den (setPl ρ nx ⟨A,1,l.length,false,noSub⟩) (slc nx l.length cp)=.slice A l.length cp∧okV (setPl ρ nx ⟨A,1,l.length,false,noSub⟩) (nx+1) (slc nx l.length cp):=by
 have hrd:=Rd.of_own ho
 refine⟨hs.add hb (row_of_rd (enc:=intC) (sz:=1) (fun _=>rfl) (by omega) intC_plain 0 (setPl_same _ _ _) hrd (fun b hb=>hb.2)) ?_ rfl,by simp[den,den2,den1,dA_whole,dS_whole,setPl_same],⟨Nat.lt_succ_self nx,by rw[setPl_same]⟩⟩
 intro g hg
 cases A with
 | none=>simp at hg
 | some ad=>
  simp at hg
  subst hg
  exact (ho.lt _ rfl).1
/-! pick -/
def entryD:List (Nat×DQ):=[
 (1,{ k:=5,L:=[11],pre:=[(0,false),(1,false),(2,false),(3,true),(4,false)] }),
 (19,{ k:=5,L:=[13],pre:=[(0,false),(1,false),(2,false),(3,false),(4,true)] }),
 (23,{ k:=5,L:=[13],pre:=[(0,false),(1,false),(2,false),(3,false),(4,true)] }),
 (1000004,{ k:=13,L:=[1,2,3,4,5,6,7,8,9,10,11,12],sl:=[0,4,5,6] }),(1000032,{ k:=15,L:=[12],sl:=[6,11] })]
/-! make.Log: entries that are accepted one after the other. -/
def LenCap (n:Nat) (v:Value):Prop:=∃ A m cap,v=.slice A m cap∧n≤cap
/-! make.State: the state of a log. -/
/-! A callee hands back a row of the wider kind. -/
abbrev plF (ρ':Nat→Pl) (u:Nat):Pl:=⟨none,0,0,false,fun k o=>(ρ' u).sub k o⟩
abbrev plD (ρ':Nat→Pl) (r sz n:Nat):Pl:=⟨(ρ' r).A,sz,n,false,noSub⟩
theorem Sat.takeDeep {C C':Ctx} {ρ ρ':Nat→Pl} {fr:AF} {mem mem':AM} {nx nx':Nat} {a:Act} {w w':World} (hs:Sat C ρ fr mem nx a w) (hb:Below w.heap.size w w') (hm:MemAt C' ρ' mem' nx' w') (hw:C'.w0=w) {r u sz n cap:Nat} {t tf:TypeId} {el:Nat→List Value} {sb:Nat→Nat→SB}
  (h1:lk mem' r=some (.ext (.deep t sz n cap el u))) (ht:ownT t=true∨frT t=true) (h2:lk mem' u=some (.ext (.fam tf sb))) (htf:frT tf=true) :
  Sat C (setPl (setPl ρ nx (plF ρ' u)) (nx+1) (plD ρ' r sz n)) fr ((nx+1,.ext (.deep 500000 sz n 0 el nx))::(nx,.ext (.fam 500000 sb))::mem) (nx+1+1) a w':=by
 obtain⟨hfo,hfs⟩:=hm.blk u _ h2
 obtain⟨⟨hz,hn⟩,hu,hel,hd⟩:=hm.blk r _ h1
 have hbase:C.w0.heap.size≤w.heap.size:=hs.rest.size
 subst hw
 have q0:setPl ρ nx (plF ρ' u) nx=plF ρ' u:=setPl_same _ _ _
 have key:=(hs.later hb).addPlainX hs.frB (b:=.ext (.fam 500000 sb)) (p:=plF ρ' u) (fun g hg=>hg) rfl ⟨rfl,fun k o=>⟨(hfs k o).1,by
  rcases (hfs k o).2 with h0 | ⟨b,off,e1,e2,e3⟩
  ·exact .inl h0
  ·exact .inr ⟨b,off,by rw[q0];exact e1,⟨e2.lt,(fun q=>by cases q),fun _=>Nat.le_trans hbase (e2.new htf)⟩,e3⟩⟩⟩ (fun g hg=>by
  obtain⟨k,o,e1,e2⟩:=hg
  rw[q0] at e2
  rcases (hfs k o).2 with h0 | ⟨b,off,e3,e4,e5⟩
  ·exact absurd h0 e1
  ·rw[show (plF ρ' u).sub k o=(ρ' u).sub k o from rfl,e3] at e2
   obtain rfl:b=g:=by simpa using e2
   exact e4.new htf)
 obtain⟨s1,f1⟩:=key
 have q1:setPl (setPl ρ nx (plF ρ' u)) (nx+1) (plD ρ' r sz n) (nx+1)=plD ρ' r sz n:=setPl_same _ _ _
 have q2:setPl (setPl ρ nx (plF ρ' u)) (nx+1) (plD ρ' r sz n) nx=plF ρ' u:=by rw[setPl_lt _ _ (Nat.lt_succ_self _)];exact q0
 have hge:∀ {b off:Nat},RowA C'.w0.heap.size w' t b off→C'.w0.heap.size≤b:=fun {b off} e=>ht.elim (fun q=>(e.own q).2.1) e.new
 refine (s1.addPlainX f1 (b:=.ext (.deep 500000 sz n 0 el nx)) (p:=plD ρ' r sz n) (fun g hg=>by cases hg.1) rfl ⟨⟨by rw[q1],by rw[q1]⟩,⟨by omega,by rw[q2]⟩,hel,?_⟩ ?_).1
 ·rcases hd with h0 | ⟨h0,b,off,e1,e2,-,e3⟩
  ·exact .inl ⟨h0.1,fun q=>by cases q⟩
  ·refine .inr ⟨h0,b,off,by rw[q1];exact e1,⟨e2.lt,(fun q=>by cases q),fun _=>Nat.le_trans hbase (hge e2)⟩,(fun q=>by cases q),fun k hk j v hv=>?_⟩
   rw[e3 k hk j v hv,← dp_dp (ρ:=ρ') (u:=u) (k:=k) ((hel k hk).2 v (List.mem_of_getElem? hv)) (show (setPl (setPl ρ nx (plF ρ' u)) (nx+1) (plD ρ' r sz n) nx).sub k j=(ρ' u).sub k j by rw[q2])]
 ·intro g hg
  obtain⟨e0,e1⟩:=hg
  unfold bno at e1
  rw[q1] at e1
  rcases hd with h0 | ⟨h0,b,off,e2,e3,-⟩
  ·exact absurd h0.1 e0
  ·rw[show (plD ρ' r sz n).A=(ρ' r).A from rfl,e2] at e1
   obtain rfl:b=g:=by simpa using e1
   exact hge e3
/-! Make,by contract,with any parent;rows of atlases that grow. -/
def ctMakeGR:CT:=fun vs mem nx K=>∃ N x c M y s pn pt pv ps psum key,vs=[cfgV N x c,stV M y s,.agg #[.int .i64 pn,.int .i64 pt,pv,.int .u64 ps,.int .u64 psum],.int .i64 key]∧(HasCfg mem N c∧HasRow mem M.t 12 tsC default s.tenants∧HasRow mem M.c 4 csC default s.cells)∧(∃ A n cap,pv=.slice A n cap)∧AtlIn (atl0 s psum)∧∀ cp,K (atlV (makeA s psum key) (slc nx (routesOf s).length cp)) ((nx,rowOfL 500000 2 pairC (0,0) (routesOf s))::mem) (nx+1)
theorem makeGROk:CSound Try.prog 24 ctMakeGR:=⟨by kernel_rfl,fun {C ρ fr mem nx a w vs K} hc hs hv=>by
 obtain⟨N,x,c,M,y,s,pn,pt,pv,ps,psum,key,rfl,⟨hk,h1,h2⟩,hpv,hA,hK⟩:=hc
 have epv:∃ Ap pl pc,den1 ρ pv=.slice Ap pl pc:=by
  obtain⟨A,n,cap,rfl⟩:=hpv
  cases A with
  | none=>exact⟨_,_,_,rfl⟩
  | some ad=>exact⟨_,_,_,rfl⟩
 obtain⟨Ap,pl,pc,epv⟩:=epv
 have e0:([cfgV N x c,stV M y s,.agg #[.int .i64 pn,.int .i64 pt,pv,.int .u64 ps,.int .u64 psum],.int .i64 key].map (den ρ)).toArray=#[.agg (cfgC (cfgX ρ N x) c),.agg (stC (stX ρ M y) s),.agg #[.int .i64 pn,.int .i64 pt,.slice Ap pl pc,.int .u64 ps,.int .u64 psum],.int .i64 key]:=by
  have dI:∀ k n,den1 ρ (.int k n)=.int k n:=fun _ _=>rfl
  rw[List.map_cons,List.map_cons,den_cfg,den_st]
  simp[den,den2,epv,dI]
 rw[e0]
 refine (makeR_calls (cfgX ρ N x) c (stX ρ M y) s pn pt ps psum Ap pl pc key w hA (hs.cfgH (x:=x) hk) (hs.stRow (y:=y) h1 h2)).mono ?_
 rintro e w' ⟨A2,cp,rfl,hr2,hb⟩
 obtain⟨q1,-⟩:=(hs.later hb).addList hs.frB hs.rest.size (enc:=pairC) (sz:=2) (fun _=>rfl) (by omega) pairC_plain (0,0) (t:=500000) rfl hr2
 have q2:setPl ρ nx ⟨A2,2,(routesOf s).length,false,noSub⟩ nx=⟨A2,2,(routesOf s).length,false,noSub⟩:=setPl_same _ _ _
 refine⟨atlV (makeA s psum key) (slc nx (routesOf s).length cp),_,_,_,?_,hK cp,q1,?_,fun i hi=>setPl_lt _ _ hi,by omega⟩
 ·simp[den,den2,den1,dA_whole,dS_whole,q2]
 ·intro u hu
  simp at hu
  rcases hu with rfl | rfl | rfl | rfl | rfl<;>first | trivial | exact⟨Nat.lt_succ_self _,by rw[q2]⟩⟩
theorem getD_appA {α:Type} {l:List α} {x d:α} {k:Nat} (h:k<l.length):(l++[x]).getD k d=l.getD k d:=by rw[List.getD_eq_getElem?_getD,List.getD_eq_getElem?_getD,List.getElem?_append_left h]
theorem getD_endA {α:Type} {l:List α} {x d:α}:(l++[x]).getD l.length d=x:=by rw[List.getD_eq_getElem?_getD,List.getElem?_append_right (Nat.le_refl _)];simp
theorem atlEl_app {xs:List Atl} {cps:List Nat} {a:Atl} {cp k:Nat} (hc:cps.length=xs.length) (h:k<xs.length):atlEl (xs++[a]) (cps++[cp]) k=atlEl xs cps k:=by
 show atlC _ _=atlC _ _
 rw[getD_appA h,getD_appA (hc ▸ h)]
theorem atlEl_end {xs:List Atl} {cps:List Nat} {a:Atl} {cp:Nat} (hc:cps.length=xs.length):atlEl (xs++[a]) (cps++[cp]) (xs.length+0)=atlEl [a] [cp] 0:=by
 show atlC _ _=atlC _ _
 rw[Nat.add_zero,getD_endA,← hc,getD_endA]
 rfl
theorem famA_app {xs:List Atl} {a:Atl} {k:Nat} (h:k<xs.length):famA (xs++[a]) k=famA xs k:=by
 unfold famA
 rw[getD_appA h]
theorem famA_end {xs:List Atl} {a:Atl}:famA (xs++[a]) (xs.length+0)=famA [a] 0:=by
 unfold famA
 rw[Nat.add_zero,getD_endA]
 rfl
theorem app_at {xs:List Atl} {cps:List Nat} {a:Atl} {cp:Nat} (hc:cps.length=xs.length):((∀ k,k<xs.length→atlEl (xs++[a]) (cps++[cp]) k=atlEl xs cps k∧famA (xs++[a]) k=famA xs k)∧(∀ k,k<1→atlEl (xs++[a]) (cps++[cp]) (xs.length+k)=atlEl [a] [cp] k∧famA (xs++[a]) (xs.length+k)=famA [a] k)∧∀ k,xs.length+1≤k→∀ o,(famA (xs++[a]) k o).n=0):=
 ⟨fun k hk=>⟨atlEl_app hc hk,famA_app hk⟩,fun k hk=>(match k,hk with | 0,_=>⟨atlEl_end hc,famA_end⟩),fun k hk o=>famA_out (by simpa using hk) o⟩
/-! Plain facts on configurations and atlases. -/
theorem atlIn_st {c:Cfg} {s:St} (hV:CfgV c) (hI:StInv c s) (par:Int):AtlIn (atl0 s par):=by
 have h1:=hI.tick
 have h2:=hI.count
 have h3:=hI.lt
 have h4:=hV.nt
 have h5:=hV.nc
 refine⟨by unfold in64;show -9223372036854775808≤s.count∧s.count<_;omega,by unfold in64;show -9223372036854775808≤s.tick∧s.tick<_;omega,by show (routesOf s).length≤1000;rw[routes_len];omega,fun x hx=>?_⟩
 obtain⟨t,ht,rfl⟩:=List.mem_map.1 (show x ∈ s.tenants.map routeT from hx)
 have hT:=hI.ten t ht
 have h6:=hT.home
 have h7:=hT.epoch
 unfold routeT in64
 refine⟨?_,by dsimp only;omega⟩
 dsimp only
 split<;>omega
theorem make_in {c:Cfg} {s:St} (hV:CfgV c) (hI:StInv c s) (par key:Int):AtlIn (makeA s par key):=⟨(atlIn_st hV hI par).n,(atlIn_st hV hI par).t,(atlIn_st hV hI par).len,(atlIn_st hV hI par).r⟩
theorem make_valid {c:Cfg} {s:St} (hE:cfgErr c=0) (hV:CfgV c) (hI:StInv c s) (par key:Int):ValidA c (makeA s par key) key:=by
 have h1:=hI.tick
 have h2:=hI.count
 have h3:=hI.lt
 refine⟨hE,by show (routesOf s).length=_;rw[routes_len,h3],?_,?_,fun k hk=>?_,?_⟩
 ·show 0≤s.count∧s.count≤4096;omega
 ·show 0≤s.tick∧s.tick≤1073741824;omega
 ·have hk':k<s.tenants.length:=by rw[← routes_len];exact hk
  show RouteOk c ((routesOf s).getD k (0,0))
  rw[routes_get hk']
  have hT:=hI.ten (s.tenants.getD k default) (by rw[List.getD_eq_getElem?_getD,List.getElem?_eq_getElem hk'];exact List.getElem_mem _)
  have h6:=hT.home
  have h7:=hT.epoch
  unfold RouteOk routeT
  dsimp only
  split<;>omega
 ·show (makeA s par key).sum=_
  rw[sum_make,body_make,par_make]
theorem MadeCfg.lens {c:Cfg} (h:MadeCfg c):Lens c:=by
 have h1:=h.zones
 have h2:=h.cells
 have h3:=h.tenants
 have h4:=h.versions
 have h5:=h.replicas
 have h6:=h.observers
 unfold Lens maxLen
 omega
theorem in64_wf {z:Int} (h:(Lit.int .i64 z).wf=true):in64 z:=by
 unfold in64
 simp[Lit.wf,IntKind.min,IntKind.max,IntKind.bits,IntKind.signed] at h
 omega
/-! The laws of one step: places,epochs,windows. -/
structure PlOk (c:Cfg) (i:Int) (t:TS):Prop where
 home:0≤t.home∧mayB c i t.home=true
 standby:0≤t.standby→mayB c i t.standby=true∧apartB c t.standby t.home=true∧(0≤t.target→apartB c t.standby t.target=true)
 next:0≤t.next→mayB c i t.next=true∧apartB c t.next t.home=true∧(0≤t.target→apartB c t.next t.target=true)
 target:0≤t.target→mayB c i t.target=true
 ne:t.target≠t.home
structure PlInv (c:Cfg) (i:Int) (t:TS):Prop where
 on:t.placed=true→PlOk c i t
 off:t.placed=false→t.standby=-1∧t.next=-1∧t.target=-1
theorem eff_ten {s:St} {e:Ent} (h8:e.kind≤8):(effOf s e).tenants=s.tenants.set e.tenant.toNat (tenEff (tsAt s e.tenant) e):=by
 unfold effOf
 simp only[h8,if_true]
 rfl
theorem eff_ten' {s:St} {e:Ent} (h8:¬ e.kind≤8):(effOf s e).tenants=s.tenants:=by
 unfold effOf
 simp only[h8,if_false]
 repeat' split
 all_goals rfl
theorem eff_tick {s:St} {e:Ent}:(effOf s e).tick=e.tick:=by
 unfold effOf
 simp only
 repeat' split
 all_goals rfl
theorem eff_count {s:St} {e:Ent}:(effOf s e).count=s.count+1:=by
 unfold effOf
 simp only
 repeat' split
 all_goals rfl
/-! Epochs. -/
structure EpOk (tick:Int) (a b:TS):Prop where
 up:a.epoch≤b.epoch∧b.epoch≤a.epoch+1
 home:a.placed=true→a.home≠b.home→b.epoch=a.epoch+1∧a.win.till≤tick
 placed:a.placed=true→b.placed=true
theorem ep_same (tick:Int) (a:TS):EpOk tick a a:=⟨⟨by omega,by omega⟩,fun _ h=>absurd rfl h,fun h=>h⟩
theorem ep_step {c:Cfg} {s x:St} {e:Ent} (hV:CfgV c) (hI:StInv c s) (h:applyP c s e=(x,0)):s.tick≤x.tick∧x.count=s.count+1∧x.tenants.length=s.tenants.length∧∀ (i:Nat) (a b:TS),s.tenants[i]?=some a→x.tenants[i]?=some b→EpOk x.tick a b:=by
 obtain⟨hr,hx,-⟩:=applyP_ok h
 have ha:=acc_of hr
 subst hx
 rw[eff_tick,eff_count]
 refine⟨ha.tick,rfl,?_,?_⟩
 ·by_cases h8:e.kind≤8
  ·rw[eff_ten h8];simp
  ·rw[eff_ten' h8]
 intro i a b h1 h2
 by_cases h8:e.kind≤8
 ·have hten:=ent_ten hI ha.ent h8
  rw[eff_ten h8,List.getElem?_set] at h2
  by_cases hi:e.tenant.toNat=i
  ·simp[hi,show i<s.tenants.length by omega] at h2
   have hta:=(tsAt_mem hten.1 hten.2).1
   rw[hi,h1] at hta
   injection hta with hta
   subst h2
   rw[← hta]
   have hkd:=ha.kind
   have hk:=ent_kind ha.ent
   clear ha h hr h1 hi hI
   obtain⟨kind,tick,tenant,cell,other,epoch,since,till,n⟩:=e
   simp only at *
   have hk':kind=1∨kind=2∨kind=3∨kind=4∨kind=5∨kind=6∨kind=7∨kind=8:=by omega
   rcases hk' with rfl | rfl | rfl | rfl | rfl | rfl | rfl | rfl
   ·have hpl:a.placed=false:=by
     simp only[kindE,placeE,← hta] at hkd
     simp at hkd
     cases h:a.placed with
     | false=>rfl
     | true=>simp[h] at hkd
    refine⟨⟨by simp[tenEff],by simp[tenEff];omega⟩,fun h=>(by rw[hpl] at h;cases h),fun h=>(by rw[hpl] at h;cases h)⟩
   ·simp only[kindE,grantE,← hta] at hkd
    simp at hkd
    by_cases q1:a.placed=false∨a.shed=true∧¬cell=a.standby
    ·rw[if_pos q1] at hkd;omega
    rw[if_neg q1] at hkd
    by_cases q2:¬cell=a.home∧¬cell=a.standby∧¬cell=a.target
    ·rw[if_pos q2] at hkd;omega
    rw[if_neg q2] at hkd
    by_cases q3:(csAt s cell).mode=3∨(csAt s cell).mode=2∧¬cell=a.home
    ·rw[if_pos q3] at hkd;omega
    rw[if_neg q3] at hkd
    by_cases q4:¬epoch=a.epoch+1∧(cell=a.home→¬epoch=a.epoch)
    ·rw[if_pos q4] at hkd;omega
    rw[if_neg q4] at hkd
    by_cases q5:¬n=(csAt s cell).running∨¬(csAt s cell).running=(csAt s cell).wanted
    ·rw[if_pos q5] at hkd;omega
    rw[if_neg q5] at hkd
    have q6:¬ (since<tick∨tick+c.lease<since∨till≤since∨c.lease<till-since∨since<a.win.till∨¬cell=a.home∧tick<a.win.till):=by simpa using hkd
    simp only[tenEff,grantT,show ¬ ((2:Int)=1) by omega,if_false,if_true]
    split
    ·rename_i hh
     refine⟨⟨?_,?_⟩,fun _ h=>absurd rfl h,fun h=>h⟩<;>simp only<;>omega
    ·have hep:epoch=a.epoch+1:=by omega
     split
     ·refine⟨⟨?_,?_⟩,fun _ h=>⟨hep,?_⟩,fun h=>h⟩<;>(try simp only)<;>omega
     ·refine⟨⟨?_,?_⟩,fun _ h=>⟨hep,?_⟩,fun h=>h⟩<;>(try simp only)<;>omega
   ·exact⟨⟨Int.le_refl _,by simp[tenEff];omega⟩,fun _ h=>absurd rfl h,fun h=>h⟩
   ·exact⟨⟨Int.le_refl _,by simp[tenEff];omega⟩,fun _ h=>absurd rfl h,fun h=>h⟩
   ·exact⟨⟨Int.le_refl _,by simp[tenEff];omega⟩,fun _ h=>absurd rfl h,fun h=>h⟩
   ·exact⟨⟨Int.le_refl _,by simp[tenEff];omega⟩,fun _ h=>absurd rfl h,fun h=>h⟩
   ·exact⟨⟨Int.le_refl _,by simp[tenEff];omega⟩,fun _ h=>absurd rfl h,fun h=>h⟩
   ·by_cases hn:n=1
    ·subst hn
     exact⟨⟨Int.le_refl _,by simp[tenEff];omega⟩,fun _ h=>absurd rfl h,fun h=>h⟩
    ·have:tenEff a ⟨8,tick,tenant,cell,other,epoch,since,till,n⟩={ a with shed:=false }:=by simp[tenEff,hn]
     rw[this]
     exact⟨⟨Int.le_refl _,by simp only;omega⟩,fun _ h=>absurd rfl h,fun h=>h⟩
  ·simp[hi] at h2
   rw[h1] at h2
   injection h2 with h2
   rw[← h2]
   exact ep_same _ _
 ·rw[eff_ten' h8,h1] at h2
  injection h2 with h2
  rw[← h2]
  exact ep_same _ _
/-! Windows. -/
/-! Atlases of states that follow one another. -/
theorem fol_step {c:Cfg} {s x:St} {e:Ent} (hV:CfgV c) (hI:StInv c s) (h:applyP c s e=(x,0)) (p key key2:Int):FolA (makeA s p key) (makeA x (makeA s p key).sum key2):=by
 obtain⟨h1,h2,h3,h4⟩:=ep_step hV hI h
 refine⟨rfl,?_,h1,?_,fun k hk=>?_⟩
 ·show s.count<x.count
  omega
 ·show (routesOf s).length=(routesOf x).length
  rw[routes_len,routes_len,h3]
 ·have hk1:k<s.tenants.length:=by rw[← routes_len];exact hk
  have hk2:k<x.tenants.length:=by omega
  show ((routesOf s).getD k (0,0)).2≤((routesOf x).getD k (0,0)).2
  rw[routes_get hk1,routes_get hk2]
  have:=(h4 k _ _ (List.getElem?_eq_getElem hk1) (List.getElem?_eq_getElem hk2)).up.1
  rw[List.getD_eq_getElem?_getD,List.getD_eq_getElem?_getD,List.getElem?_eq_getElem hk1,List.getElem?_eq_getElem hk2]
  exact this
structure LnP (c:Cfg) (key:Int) (xs:List Atl):Prop where
 val:∀ k,k<xs.length→ValidA c (xs.getD k aZ) key
 fol:∀ k,k+1<xs.length→FolA (xs.getD k aZ) (xs.getD (k+1) aZ)
theorem LnP.one {c:Cfg} {key:Int} {a:Atl} (h:ValidA c a key):LnP c key [a]:=⟨fun k hk=>(match k,hk with | 0,_=>h),fun k hk=>absurd hk (by simp)⟩
theorem LnP.snoc {c:Cfg} {key:Int} {xs:List Atl} {a b:Atl} (hP:LnP c key xs) (hne:1≤xs.length) (hl:xs.getD (xs.length-1) aZ=a) (h:ValidA c b key) (hf:FolA a b):LnP c key (xs++[b]):=by
 refine⟨fun k hk=>?_,fun k hk=>?_⟩
 ·by_cases q:k<xs.length
  ·rw[getD_appA q];exact hP.val k q
  ·obtain rfl:k=xs.length:=by simp at hk;omega
   rw[getD_endA];exact h
 ·simp at hk
  by_cases q:k+1<xs.length
  ·rw[getD_appA q,getD_appA (by omega)];exact hP.fol k q
  ·obtain rfl:k=xs.length-1:=by omega
   rw[show xs.length-1+1=xs.length by omega,getD_endA,getD_appA (by omega),hl]
   exact hf
structure UpS (s t:St):Prop where
 tick:s.tick≤t.tick
 count:s.count≤t.count
 len:s.tenants.length=t.tenants.length
 ep:∀ k,k<s.tenants.length→((routesOf s).getD k (0,0)).2≤((routesOf t).getD k (0,0)).2
theorem UpS.refl (s:St):UpS s s:=⟨Int.le_refl _,Int.le_refl _,rfl,fun _ _=>Int.le_refl _⟩
theorem UpS.trans {s t u:St} (h:UpS s t) (h2:UpS t u):UpS s u:=⟨Int.le_trans h.tick h2.tick,Int.le_trans h.count h2.count,h.len.trans h2.len,fun k hk=>Int.le_trans (h.ep k hk) (h2.ep k (by rw[← h.len];exact hk))⟩
theorem up_step {c:Cfg} {s x:St} {e:Ent} (hV:CfgV c) (hI:StInv c s) (h:applyP c s e=(x,0)):UpS s x:=by
 have hf:=fol_step hV hI h 0 0 0
 have h1:=hf.len
 rw[show (makeA s 0 0).routes=routesOf s from rfl,show (makeA x (makeA s 0 0).sum 0).routes=routesOf x from rfl,routes_len,routes_len] at h1
 exact⟨hf.tick,Int.le_of_lt hf.num,h1,fun k hk=>hf.ep k (by rw[show (makeA s 0 0).routes=routesOf s from rfl,routes_len];exact hk)⟩
theorem Run.up {c:Cfg} (hV:CfgV c) {s s':St} {es:List Ent} (h:Run c s es s') (hs:RInv c s):UpS s s':=by
 induction h with
 | nil s=>exact .refl s
 | cons he _ ih=>exact (up_step hV hs.inv he).trans (ih (hs.step hV he))
theorem UpS.fol {s t:St} (h:UpS s t) (hn:s.count<t.count) (p key key2:Int):FolA (makeA s p key) (makeA t (makeA s p key).sum key2):=
 ⟨rfl,hn,h.tick,by rw[show (makeA s p key).routes=routesOf s from rfl,show (makeA t (makeA s p key).sum key2).routes=routesOf t from rfl,routes_len,routes_len];exact h.len,fun k hk=>h.ep k (by rw[← routes_len];exact hk)⟩
end Go.Proofs.Ytdjkeplekchfdaa
