import Derived.Test.YtchhdflealgkaaaGreatPo17
namespace Go.Proofs.YtchhdflealgkaaaGreat
open Go.RowKit
set_option linter.unusedSimpArgs false
set_option linter.unusedVariables false
def othersK (s:St) (k:Int) (n:Nat):Nat:=((List.range n).filter fun (i:Nat)=>decide ((i:Int)≠k)&&openB s.proven (s.cells.getD i default)).length
theorem othersK_succ (s:St) (k:Int) (n:Nat):othersK s k (n+1)=othersK s k n+(if (decide ((n:Int)≠k)&&openB s.proven (s.cells.getD n default))=true then 1 else 0):=by
 unfold othersK
 rw[List.range_succ,List.filter_append,List.length_append]
 congr 1
 by_cases h:(decide ((n:Int)≠k)&&openB s.proven (s.cells.getD n default))=true
 ·rw[if_pos h,List.filter_cons_of_pos (by exact h)];rfl
 ·rw[if_neg h,List.filter_cons_of_neg (by exact h)];rfl
theorem othersK_le (s:St) (k:Int) (n:Nat):othersK s k n≤n:=by
 unfold othersK
 have:=List.length_filter_le (fun (i:Nat)=>decide ((i:Int)≠k)&&openB s.proven (s.cells.getD i default)) (List.range n)
 simpa using this
theorem othersK_all (s:St) (k:Int):othersK s k s.cells.length=others s k:=rfl
set_option maxRecDepth 100000 in
set_option maxHeartbeats 4000000 in
theorem apWant (x:CfgK) (c:Cfg) (y:StK) (s:St) (e:Ent) (hA:ArH c s e) (hk:e.kind=10):sx ttU arF arD (bodyOf Tryz.f94) (argF 0 [cfgV CN1 x c,stV SN1 y s,entV' e]) (rdM c s noS) 10 (endx ttU Tryz.f94.results.toList fun v mem' _=>ApS mem' v (applyR c s e)):=by
 have hV:=hA.cfg
 have hI:=hA.inv
 have hE:=hA.ent
 have hcn:=hA.cnt
 have htk:=hA.tick
 have hlt:=hI.lt
 have hlc:=hI.lc
 have hnt:=hV.nt
 have hnc:=hV.nc
 have hct:=hI.count
 have hst:=hI.tick
 have hev:=hI.evac
 have hpv:=hI.proven
 have htb:=hA.tB
 have hP:kindE c s e=wantE c s e:=by unfold kindE;simp[hk]
 have hf:=hE
 simp[entV,entOk,inS,inR,fT,fC,fO,fE,fW,fN,hk] at hf
 refine⟨CN1,x,c,e,rfl,kp_,hV,?_⟩
 refine⟨fun h=>absurd h (by rw[hE];decide),fun _=>?_⟩
 refine⟨fun h=>absurd (of_decide_eq_true h) (by omega),fun _=>?_⟩
 refine⟨fun h=>absurd (of_decide_eq_true h) (by omega),fun _=>?_⟩
 refine⟨SN1,y,s,rfl,⟨.list rfl,.list rfl⟩,⟨by omega,by omega⟩,?_⟩
 intro y2
 refine⟨fun h=>absurd h (by rw[hk];decide),fun _=>?_⟩
 refine⟨fun h=>absurd h (by rw[hk];decide),fun _=>?_⟩
 refine⟨fun h=>absurd h (by rw[hk];decide),fun _=>?_⟩
 refine⟨fun h=>absurd h (by rw[hk];decide),fun _=>?_⟩
 refine⟨fun h=>absurd h (by rw[hk];decide),fun _=>?_⟩
 refine⟨fun h=>absurd h (by rw[hk];decide),fun _=>?_⟩
 refine⟨fun h=>absurd h (by rw[hk];decide),fun _=>?_⟩
 refine⟨fun h=>absurd h (by rw[hk];decide),fun _=>?_⟩
 refine⟨fun h=>absurd h (by rw[hk];decide),fun _=>?_⟩
 refine⟨fun _=>?_,fun h=>absurd h (by rw[hk];decide)⟩
 rw[wrapi (n:=s.count+1) (by omega)]
 have hi:e.cell.toNat<s.cells.length:=by omega
 have hnv:=hV.nv
 have hvl:e.n<(c.versions.length:Int):=by omega
 refine⟨⟨Nat.le_refl _,by omega,by omega⟩,?_⟩
 refine⟨⟨Nat.le_refl _,by omega,by omega⟩,?_⟩
 refine⟨Int×Int,fun q=>match q with | (i,m)=>[(11,.int .i64 i),(10,.int .i64 m)],fun _=>[],fun q=>match q with | (i,m)=>(0≤i∧i≤s.cells.length)∧m=othersK s e.cell i.toNat,fun q=>match q with | (i,m)=>((s.cells.length:Int)-i).toNat,⟨(0,0),⟨by omega,rfl⟩,kp_,kp_⟩,?_⟩
 rintro⟨i,m⟩ ⟨hi0,hm⟩
 refine⟨⟨rfl,rfl⟩,?_⟩
 refine⟨fun hlt1=>?_,fun hge=>?_⟩
 ·have hlt2:i<(s.cells.length:Int):=of_decide_eq_true hlt1
  have hle:=othersK_le s e.cell i.toNat
  have hii:((i.toNat:Nat):Int)=i:=by omega
  refine⟨Int,fun m=>[(10,.int .i64 m)],fun _=>[],fun m=>m=othersK s e.cell (i.toNat+1),?_,?_⟩
  ·refine⟨fun q1=>?_,fun q1=>?_⟩
   ·refine⟨⟨15,14,0⟩,y2,_,_,⟨e.tick,s.count+1,s.tenants,s.cells,s.proven,s.evac,s.low,s.high⟩,i,rfl,⟨rfl,rfl,.list rfl,.list rfl⟩,⟨by dsimp only;omega,by dsimp only;omega⟩,?_⟩
    refine⟨fun q2=>?_,fun q2=>?_⟩
    ·replace q2:(openB s.proven (s.cells.getD i.toNat default))=true:=q2
     refine⟨_,?_,kp_,kp_⟩
     dsimp only
     rw[othersK_succ,hii]
     rw[wrapi (n:=m+1) (by omega),if_pos (by grind)]
     omega
    ·replace q2:(openB s.proven (s.cells.getD i.toNat default))=false:=q2
     refine⟨_,?_,kp_,kp_⟩
     dsimp only
     rw[othersK_succ,hii]
     rw[if_neg (by grind)]
     omega
   ·refine⟨fun h=>Bool.noConfusion h,fun _=>?_⟩
    refine⟨_,?_,kp_,kp_⟩
    dsimp only
    rw[othersK_succ,hii]
    rw[if_neg (by grind)]
    omega
  ·rintro m2 hm2
   refine⟨⟨by decide,rfl,rfl⟩,?_⟩
   refine⟨(_,m2),?_,kp_,kp_⟩
   dsimp only
   rw[wrapi (n:=i+1) (by omega)]
   refine⟨⟨by omega,?_⟩,by omega⟩
   rw[show (i+1).toNat=i.toNat+1 by omega]
   exact hm2
 ·have hge2:¬ i<(s.cells.length:Int):=of_decide_eq_false hge
  rw[show i.toNat=s.cells.length by omega,othersK_all] at hm
  refine⟨fun h1=>?_,fun h1=>?_⟩
  ·repeat (first | refine⟨fun _=>?_,fun h=>Bool.noConfusion h⟩ | refine⟨fun h=>Bool.noConfusion h,fun _=>?_⟩ | fail)
   refine⟨4,rfl,?_⟩
   exact ApS.err (hA.err (by rw[hP];unfold wantE csAt verAt;grind) (by decide))
  ·refine⟨Bool,fun b=>[(52,.bool b)],fun _=>[],fun b=>(b=true↔(s.low<(c.versions.getD e.n.toNat (0,0)).1∨(c.versions.getD e.n.toNat (0,0)).2<s.high)),?_,?_⟩
   ·repeat' (first | refine⟨fun _=>?_,fun h=>Bool.noConfusion h⟩ | refine⟨fun h=>Bool.noConfusion h,fun _=>?_⟩ | refine⟨fun _=>?_,fun _=>?_⟩ | refine⟨⟨Nat.le_refl _,by omega,by omega⟩,?_⟩ | fail)
    all_goals (refine⟨_,?_,kp_,kp_⟩;dsimp only;grind)
   ·rintro b1 hb1
    refine⟨⟨by decide,rfl,rfl⟩,?_⟩
    refine⟨fun h2=>?_,fun h2=>?_⟩
    ·repeat (first | refine⟨fun _=>?_,fun h=>Bool.noConfusion h⟩ | refine⟨fun h=>Bool.noConfusion h,fun _=>?_⟩ | fail)
     refine⟨13,rfl,?_⟩
     exact ApS.err (hA.err (by rw[hP];unfold wantE csAt verAt;grind) (by decide))
    ·refine⟨Bool,fun b=>[(68,.bool b)],fun _=>[],fun b=>(b=true↔(¬ e.n=(s.cells.getD e.cell.toNat default).running∧hasB s.proven e.n=false∧¬ s.evac=0)),?_,?_⟩
     ·repeat' (first | refine⟨fun _=>?_,fun h=>Bool.noConfusion h⟩ | refine⟨fun h=>Bool.noConfusion h,fun _=>?_⟩ | refine⟨fun _=>?_,fun _=>?_⟩ | refine⟨⟨Nat.le_refl _,by omega,by omega⟩,?_⟩ | refine⟨⟨15,14,0⟩,y2,_,_,⟨e.tick,s.count+1,s.tenants,s.cells,s.proven,s.evac,s.low,s.high⟩,e.n,rfl,⟨rfl,rfl,.list rfl,.list rfl⟩,(by dsimp only;omega),(show keeps _ _ from kp_),?_⟩ | refine⟨⟨15,14,0⟩,y2,_,_,⟨e.tick,s.count+1,s.tenants,s.cells,s.proven,s.evac,s.low,s.high⟩,e.n,rfl,⟨rfl,rfl,.list rfl,.list rfl⟩,(by dsimp only;omega),?_⟩ | fail)
      all_goals (refine⟨_,?_,kp_,kp_⟩;dsimp only;grind)
     ·rintro b2 hb2
      refine⟨⟨by decide,rfl,rfl⟩,?_⟩
      refine⟨fun h3=>?_,fun h3=>?_⟩
      ·repeat (first | refine⟨fun _=>?_,fun h=>Bool.noConfusion h⟩ | refine⟨fun h=>Bool.noConfusion h,fun _=>?_⟩ | fail)
       refine⟨12,rfl,?_⟩
       exact ApS.err (hA.err (by rw[hP];unfold wantE csAt verAt;grind) (by decide))
      ·refine⟨Bool,fun b=>[(91,.bool b)],fun _=>[],fun b=>(b=true↔(¬ e.n=(s.cells.getD e.cell.toNat default).running∧hasB s.proven e.n=false∧c.blast≤m)),?_,?_⟩
       ·repeat' (first | refine⟨fun _=>?_,fun h=>Bool.noConfusion h⟩ | refine⟨fun h=>Bool.noConfusion h,fun _=>?_⟩ | refine⟨fun _=>?_,fun _=>?_⟩ | refine⟨⟨Nat.le_refl _,by omega,by omega⟩,?_⟩ | refine⟨⟨15,14,0⟩,y2,_,_,⟨e.tick,s.count+1,s.tenants,s.cells,s.proven,s.evac,s.low,s.high⟩,e.n,rfl,⟨rfl,rfl,.list rfl,.list rfl⟩,(by dsimp only;omega),(show keeps _ _ from kp_),?_⟩ | refine⟨⟨15,14,0⟩,y2,_,_,⟨e.tick,s.count+1,s.tenants,s.cells,s.proven,s.evac,s.low,s.high⟩,e.n,rfl,⟨rfl,rfl,.list rfl,.list rfl⟩,(by dsimp only;omega),?_⟩ | fail)
        all_goals (refine⟨_,?_,kp_,kp_⟩;dsimp only;grind)
       ·rintro b3 hb3
        refine⟨⟨by decide,rfl,rfl⟩,?_⟩
        refine⟨fun h4=>?_,fun h4=>?_⟩
        ·repeat (first | refine⟨fun _=>?_,fun h=>Bool.noConfusion h⟩ | refine⟨fun h=>Bool.noConfusion h,fun _=>?_⟩ | fail)
         refine⟨14,rfl,?_⟩
         exact ApS.err (hA.err (by rw[hP];unfold wantE csAt verAt;grind) (by decide))
        ·refine⟨csC { (s.cells.getD e.cell.toNat default) with wanted:=e.n },(by first | rfl | (show putN _ _ (csC (List.getD _ _ _))=_;rw[getD_set hi];rfl)),?_⟩
         rw[setEl_set (by first | exact hi | (rw[List.length_set];exact hi))]
         try rw[List.set_set]
         have hk0:kindE c s e=0:=by rw[hP];unfold wantE csAt verAt;grind
         have heff:effOf s e=(⟨e.tick,s.count+1,s.tenants,s.cells.set e.cell.toNat { (s.cells.getD e.cell.toNat default) with wanted:=e.n },s.proven,s.evac,s.low,s.high⟩:St):=by simp[effOf,stamped,setTen,setCel,tenEff,celEff,tsAt,csAt,hk]
         exact ApS.ok (M:=⟨15,14,0⟩) (y:=y2) (s:=(⟨e.tick,s.count+1,s.tenants,s.cells.set e.cell.toNat { (s.cells.getD e.cell.toNat default) with wanted:=e.n },s.proven,s.evac,s.low,s.high⟩:St)) (by rw[hA.fine hk0 (fun q=>absurd q (by unfold fitsB;simp[hk])),heff]) (by first | rfl | (simp)) (by first | rfl | (simp)) ⟨_,_,_,rfl,rfl,(by first | exact Nat.le_refl _ | (simp)),fun k hk=>rfl⟩ ⟨_,_,_,rfl,rfl,(by first | exact Nat.le_refl _ | (simp)),fun k hk=>rfl⟩
set_option maxRecDepth 100000 in
set_option maxHeartbeats 4000000 in
theorem apRuns (x:CfgK) (c:Cfg) (y:StK) (s:St) (e:Ent) (hA:ArH c s e) (hk:e.kind=11):sx ttU arF arD (bodyOf Tryz.f94) (argF 0 [cfgV CN1 x c,stV SN1 y s,entV' e]) (rdM c s noS) 10 (endx ttU Tryz.f94.results.toList fun v mem' _=>ApS mem' v (applyR c s e)):=by
 have hV:=hA.cfg
 have hI:=hA.inv
 have hE:=hA.ent
 have hcn:=hA.cnt
 have htk:=hA.tick
 have hlt:=hI.lt
 have hlc:=hI.lc
 have hnt:=hV.nt
 have hnc:=hV.nc
 have hct:=hI.count
 have hst:=hI.tick
 have hev:=hI.evac
 have hpv:=hI.proven
 have htb:=hA.tB
 have hP:kindE c s e=runsE s e:=by unfold kindE;simp[hk]
 have hf:=hE
 simp[entV,entOk,inS,inR,fT,fC,fO,fE,fW,fN,hk] at hf
 refine⟨CN1,x,c,e,rfl,kp_,hV,?_⟩
 refine⟨fun h=>absurd h (by rw[hE];decide),fun _=>?_⟩
 refine⟨fun h=>absurd (of_decide_eq_true h) (by omega),fun _=>?_⟩
 refine⟨fun h=>absurd (of_decide_eq_true h) (by omega),fun _=>?_⟩
 refine⟨SN1,y,s,rfl,⟨.list rfl,.list rfl⟩,⟨by omega,by omega⟩,?_⟩
 intro y2
 refine⟨fun h=>absurd h (by rw[hk];decide),fun _=>?_⟩
 refine⟨fun h=>absurd h (by rw[hk];decide),fun _=>?_⟩
 refine⟨fun h=>absurd h (by rw[hk];decide),fun _=>?_⟩
 refine⟨fun h=>absurd h (by rw[hk];decide),fun _=>?_⟩
 refine⟨fun h=>absurd h (by rw[hk];decide),fun _=>?_⟩
 refine⟨fun h=>absurd h (by rw[hk];decide),fun _=>?_⟩
 refine⟨fun h=>absurd h (by rw[hk];decide),fun _=>?_⟩
 refine⟨fun h=>absurd h (by rw[hk];decide),fun _=>?_⟩
 refine⟨fun h=>absurd h (by rw[hk];decide),fun _=>?_⟩
 refine⟨fun h=>absurd h (by rw[hk];decide),fun _=>?_⟩
 refine⟨fun _=>?_,fun h=>absurd h (by rw[hk];decide)⟩
 rw[wrapi (n:=s.count+1) (by omega)]
 have hi:e.cell.toNat<s.cells.length:=by omega
 refine⟨⟨Nat.le_refl _,by omega,by omega⟩,?_⟩
 refine⟨Bool,fun b=>[(14,.bool b)],fun _=>[],fun b=>(b=true↔(¬ e.n=(s.cells.getD e.cell.toNat default).wanted∨(s.cells.getD e.cell.toNat default).running=(s.cells.getD e.cell.toNat default).wanted)),?_,?_⟩
 ·repeat' (first | refine⟨fun _=>?_,fun h=>Bool.noConfusion h⟩ | refine⟨fun h=>Bool.noConfusion h,fun _=>?_⟩ | refine⟨fun _=>?_,fun _=>?_⟩ | refine⟨⟨Nat.le_refl _,by omega,by omega⟩,?_⟩ | fail)
  all_goals (refine⟨_,?_,kp_,kp_⟩;dsimp only;grind)
 ·rintro b1 hb1
  refine⟨⟨by decide,rfl,rfl⟩,?_⟩
  refine⟨fun h1=>?_,fun h1=>?_⟩
  ·repeat (first | refine⟨fun _=>?_,fun h=>Bool.noConfusion h⟩ | refine⟨fun h=>Bool.noConfusion h,fun _=>?_⟩ | fail)
   refine⟨4,rfl,?_⟩
   exact ApS.err (hA.err (by rw[hP];unfold runsE csAt;grind) (by decide))
  ·refine⟨Bool,fun b=>[(36,.bool b)],fun _=>[],fun b=>(b=true↔(hasB s.proven e.n=false∧¬ s.evac=0)),?_,?_⟩
   ·repeat' (first | refine⟨fun _=>?_,fun h=>Bool.noConfusion h⟩ | refine⟨fun h=>Bool.noConfusion h,fun _=>?_⟩ | refine⟨fun _=>?_,fun _=>?_⟩ | refine⟨⟨Nat.le_refl _,by omega,by omega⟩,?_⟩ | refine⟨⟨15,14,0⟩,y2,_,_,⟨e.tick,s.count+1,s.tenants,s.cells,s.proven,s.evac,s.low,s.high⟩,e.n,rfl,⟨rfl,rfl,.list rfl,.list rfl⟩,(by dsimp only;omega),?_⟩ | fail)
    all_goals (refine⟨_,?_,kp_,kp_⟩;dsimp only;grind)
   ·rintro b2 hb2
    refine⟨⟨by decide,rfl,rfl⟩,?_⟩
    refine⟨fun h2=>?_,fun h2=>?_⟩
    ·repeat (first | refine⟨fun _=>?_,fun h=>Bool.noConfusion h⟩ | refine⟨fun h=>Bool.noConfusion h,fun _=>?_⟩ | fail)
     refine⟨12,rfl,?_⟩
     exact ApS.err (hA.err (by rw[hP];unfold runsE csAt;grind) (by decide))
    ·refine⟨Int,fun i=>[(7,.int .i64 i)],fun _=>[],fun i=>(0≤i∧i≤s.tenants.length)∧∀ j:Nat,(j:Int)<i→¬ ((s.tenants.getD j default).win.cell=e.cell∧e.tick<(s.tenants.getD j default).win.till),fun i=>((s.tenants.length:Int)-i).toNat,⟨0,⟨by omega,fun j hj=>absurd hj (by omega)⟩,kp_,kp_⟩,?_⟩
     rintro i ⟨hi0,hno⟩
     refine⟨⟨rfl,rfl⟩,?_⟩
     refine⟨fun hlt1=>?_,fun hge=>?_⟩
     ·have hlt2:i<(s.tenants.length:Int):=of_decide_eq_true hlt1
      have hii:i.toNat<s.tenants.length:=by omega
      refine⟨⟨Nat.le_refl _,hi0.1,hlt2⟩,?_⟩
      refine⟨Bool,fun b=>[(74,.bool b)],fun _=>[],fun b=>(b=true↔((s.tenants.getD i.toNat default).win.cell=e.cell∧e.tick<(s.tenants.getD i.toNat default).win.till)),?_,?_⟩
      ·repeat' (first | refine⟨fun _=>?_,fun h=>Bool.noConfusion h⟩ | refine⟨fun h=>Bool.noConfusion h,fun _=>?_⟩ | refine⟨fun _=>?_,fun _=>?_⟩ | refine⟨⟨Nat.le_refl _,by omega,by omega⟩,?_⟩ | fail)
       all_goals (refine⟨_,?_,kp_,kp_⟩;dsimp only;grind)
      ·rintro b3 hb3
       refine⟨⟨by decide,rfl,rfl⟩,?_⟩
       refine⟨fun h3=>?_,fun h3=>?_⟩
       ·have hpp:=hb3.1 h3
        have hany:s.tenants.any (fun t=>decide (t.win.cell=e.cell)&&decide (e.tick<t.win.till))=true:=List.any_eq_true.2 ⟨_,List.mem_of_getElem? (getD_get (d:=default) hii),by simp only[Bool.and_eq_true,decide_eq_true_eq];exact hpp⟩
        repeat (first | refine⟨fun _=>?_,fun h=>Bool.noConfusion h⟩ | refine⟨fun h=>Bool.noConfusion h,fun _=>?_⟩ | fail)
        refine⟨9,rfl,?_⟩
        exact ApS.err (hA.err (by rw[hP];unfold runsE csAt;grind) (by decide))
       ·refine⟨_,?_,kp_,kp_⟩
        dsimp only
        rw[wrapi (n:=i+1) (by omega)]
        refine⟨⟨by omega,fun j hj=>?_⟩,by omega⟩
        by_cases hji:(j:Int)<i
        ·exact hno j hji
        ·obtain rfl:j=i.toNat:=by omega
         grind
     ·have hge2:¬ i<(s.tenants.length:Int):=of_decide_eq_false hge
      have hall:∀ j:Nat,j<s.tenants.length→¬ ((s.tenants.getD j default).win.cell=e.cell∧e.tick<(s.tenants.getD j default).win.till):=fun j hj=>hno j (by omega)
      have hany:s.tenants.any (fun t=>decide (t.win.cell=e.cell)&&decide (e.tick<t.win.till))=false:=by
       rw[List.any_eq_false]
       intro z hz
       obtain⟨j,hj,rfl⟩:=List.getElem_of_mem hz
       have:=hall j hj
       have hje:s.tenants.getD j default=s.tenants[j]:=getD_some (List.getElem?_eq_getElem hj)
       simp only[hje] at this
       simpa using this
      refine⟨csC { (s.cells.getD e.cell.toNat default) with running:=e.n },(by first | rfl | (show putN _ _ (csC (List.getD _ _ _))=_;rw[getD_set hi];rfl)),?_⟩
      rw[setEl_set (by first | exact hi | (rw[List.length_set];exact hi))]
      try rw[List.set_set]
      refine⟨kp_,?_⟩
      refine⟨csC { (s.cells.getD e.cell.toNat default) with running:=e.n,since:=e.tick },(by first | rfl | (show putN _ _ (csC (List.getD _ _ _))=_;rw[getD_set hi];rfl)),?_⟩
      rw[setEl_set (by first | exact hi | (rw[List.length_set];exact hi))]
      try rw[List.set_set]
      have hk0:kindE c s e=0:=by rw[hP];unfold runsE csAt;grind
      have heff:effOf s e=(⟨e.tick,s.count+1,s.tenants,s.cells.set e.cell.toNat { (s.cells.getD e.cell.toNat default) with running:=e.n,since:=e.tick },s.proven,s.evac,s.low,s.high⟩:St):=by simp[effOf,stamped,setTen,setCel,tenEff,celEff,tsAt,csAt,hk]
      exact ApS.ok (M:=⟨15,14,0⟩) (y:=y2) (s:=(⟨e.tick,s.count+1,s.tenants,s.cells.set e.cell.toNat { (s.cells.getD e.cell.toNat default) with running:=e.n,since:=e.tick },s.proven,s.evac,s.low,s.high⟩:St)) (by rw[hA.fine hk0 (fun q=>absurd q (by unfold fitsB;simp[hk])),heff]) (by first | rfl | (simp)) (by first | rfl | (simp)) ⟨_,_,_,rfl,rfl,(by first | exact Nat.le_refl _ | (simp)),fun k hk=>rfl⟩ ⟨_,_,_,rfl,rfl,(by first | exact Nat.le_refl _ | (simp)),fun k hk=>rfl⟩
set_option maxRecDepth 100000 in
set_option maxHeartbeats 4000000 in
theorem apProve (x:CfgK) (c:Cfg) (y:StK) (s:St) (e:Ent) (hA:ArH c s e) (hk:e.kind=12):sx ttU arF arD (bodyOf Tryz.f94) (argF 0 [cfgV CN1 x c,stV SN1 y s,entV' e]) (rdM c s noS) 10 (endx ttU Tryz.f94.results.toList fun v mem' _=>ApS mem' v (applyR c s e)):=by
 have hV:=hA.cfg
 have hI:=hA.inv
 have hE:=hA.ent
 have hcn:=hA.cnt
 have htk:=hA.tick
 have hlt:=hI.lt
 have hlc:=hI.lc
 have hnt:=hV.nt
 have hnc:=hV.nc
 have hct:=hI.count
 have hst:=hI.tick
 have hev:=hI.evac
 have hpv:=hI.proven
 have htb:=hA.tB
 have hP:kindE c s e=proveE c s e:=by unfold kindE;simp[hk]
 have hf:=hE
 simp[entV,entOk,inS,inR,fT,fC,fO,fE,fW,fN,hk] at hf
 refine⟨CN1,x,c,e,rfl,kp_,hV,?_⟩
 refine⟨fun h=>absurd h (by rw[hE];decide),fun _=>?_⟩
 refine⟨fun h=>absurd (of_decide_eq_true h) (by omega),fun _=>?_⟩
 refine⟨fun h=>absurd (of_decide_eq_true h) (by omega),fun _=>?_⟩
 refine⟨SN1,y,s,rfl,⟨.list rfl,.list rfl⟩,⟨by omega,by omega⟩,?_⟩
 intro y2
 refine⟨fun h=>absurd h (by rw[hk];decide),fun _=>?_⟩
 refine⟨fun h=>absurd h (by rw[hk];decide),fun _=>?_⟩
 refine⟨fun h=>absurd h (by rw[hk];decide),fun _=>?_⟩
 refine⟨fun h=>absurd h (by rw[hk];decide),fun _=>?_⟩
 refine⟨fun h=>absurd h (by rw[hk];decide),fun _=>?_⟩
 refine⟨fun h=>absurd h (by rw[hk];decide),fun _=>?_⟩
 refine⟨fun h=>absurd h (by rw[hk];decide),fun _=>?_⟩
 refine⟨fun h=>absurd h (by rw[hk];decide),fun _=>?_⟩
 refine⟨fun h=>absurd h (by rw[hk];decide),fun _=>?_⟩
 refine⟨fun h=>absurd h (by rw[hk];decide),fun _=>?_⟩
 refine⟨fun h=>absurd h (by rw[hk];decide),fun _=>?_⟩
 refine⟨fun _=>?_,fun h=>absurd h (by rw[hk];decide)⟩
 rw[wrapi (n:=s.count+1) (by omega)]
 have hnv:=hV.nv
 refine⟨⟨15,14,0⟩,y2,_,_,⟨e.tick,s.count+1,s.tenants,s.cells,s.proven,s.evac,s.low,s.high⟩,e.n,rfl,⟨rfl,rfl,.list rfl,.list rfl⟩,(by dsimp only;omega),?_⟩
 refine⟨fun h1=>?_,fun h1=>?_⟩
 ·repeat (first | refine⟨fun _=>?_,fun h=>Bool.noConfusion h⟩ | refine⟨fun h=>Bool.noConfusion h,fun _=>?_⟩ | fail)
  refine⟨4,rfl,?_⟩
  exact ApS.err (hA.err (by rw[hP];unfold proveE;grind) (by decide))
 ·refine⟨Int,fun i=>[(8,.int .i64 i)],fun _=>[],fun i=>(0≤i∧i≤s.cells.length)∧∀ j:Nat,(j:Int)<i→¬ (¬ (s.cells.getD j default).mode=3∧(s.cells.getD j default).running=e.n∧(s.cells.getD j default).wanted=e.n∧c.bake≤e.tick-(s.cells.getD j default).since),fun i=>((s.cells.length:Int)-i).toNat,⟨0,⟨by omega,fun j hj=>absurd hj (by omega)⟩,kp_,kp_⟩,?_⟩
  rintro i ⟨hi0,hno⟩
  refine⟨⟨rfl,rfl⟩,?_⟩
  refine⟨fun hlt1=>?_,fun hge=>?_⟩
  ·have hlt2:i<(s.cells.length:Int):=of_decide_eq_true hlt1
   have hii:i.toNat<s.cells.length:=by omega
   have hcs:=(hI.cel _ (List.mem_of_getElem? (getD_get (d:=default) hii))).since
   have hw:IntKind.i64.wrap (e.tick-(s.cells.getD i.toNat default).since)=e.tick-(s.cells.getD i.toNat default).since:=wrapi (by omega)
   refine⟨⟨Nat.le_refl _,hi0.1,hlt2⟩,?_⟩
   refine⟨Bool,fun b=>[(55,.bool b)],fun _=>[],fun b=>(b=true↔(¬ (s.cells.getD i.toNat default).mode=3∧(s.cells.getD i.toNat default).running=e.n∧(s.cells.getD i.toNat default).wanted=e.n∧c.bake≤e.tick-(s.cells.getD i.toNat default).since)),?_,?_⟩
   ·repeat' (first | refine⟨fun _=>?_,fun h=>Bool.noConfusion h⟩ | refine⟨fun h=>Bool.noConfusion h,fun _=>?_⟩ | refine⟨fun _=>?_,fun _=>?_⟩ | refine⟨⟨Nat.le_refl _,by omega,by omega⟩,?_⟩ | fail)
    all_goals (refine⟨_,?_,kp_,kp_⟩;dsimp only;grind)
   ·rintro b3 hb3
    refine⟨⟨by decide,rfl,rfl⟩,?_⟩
    refine⟨fun h3=>?_,fun h3=>?_⟩
    ·have hpp:=hb3.1 h3
     have hany:s.cells.any (bakedB c e)=true:=List.any_eq_true.2 ⟨_,List.mem_of_getElem? (getD_get (d:=default) hii),by unfold bakedB;simp only[Bool.and_eq_true,decide_eq_true_eq];exact⟨⟨⟨hpp.1,hpp.2.1⟩,hpp.2.2.1⟩,hpp.2.2.2⟩⟩
     refine⟨u64_nonneg _ (by omega) (by omega),?_⟩
     have hx:=orRaw_eq s.proven e.n (by omega) (by omega) (by omega) (by omega)
     have hk0:kindE c s e=0:=by rw[hP];unfold proveE;grind
     have heff:effOf s e=(⟨e.tick,s.count+1,s.tenants,s.cells,orBit s.proven e.n,s.evac,s.low,s.high⟩:St):=by simp[effOf,stamped,setTen,setCel,tenEff,celEff,tsAt,csAt,hk]
     exact ApS.ok (M:=⟨15,14,0⟩) (y:=y2) (s:=(⟨e.tick,s.count+1,s.tenants,s.cells,orRaw s.proven e.n,s.evac,s.low,s.high⟩:St)) (by rw[hA.fine hk0 (fun q=>absurd q (by unfold fitsB;simp[hk])),heff,← hx]) rfl rfl ⟨_,_,_,rfl,rfl,Nat.le_refl _,fun k hk=>rfl⟩ ⟨_,_,_,rfl,rfl,Nat.le_refl _,fun k hk=>rfl⟩
    ·refine⟨_,?_,kp_,kp_⟩
     dsimp only
     rw[wrapi (n:=i+1) (by omega)]
     refine⟨⟨by omega,fun j hj=>?_⟩,by omega⟩
     by_cases hji:(j:Int)<i
     ·exact hno j hji
     ·obtain rfl:j=i.toNat:=by omega
      grind
  ·have hge2:¬ i<(s.cells.length:Int):=of_decide_eq_false hge
   have hall:∀ j:Nat,j<s.cells.length→¬ (¬ (s.cells.getD j default).mode=3∧(s.cells.getD j default).running=e.n∧(s.cells.getD j default).wanted=e.n∧c.bake≤e.tick-(s.cells.getD j default).since):=fun j hj=>hno j (by omega)
   have hany:s.cells.any (bakedB c e)=false:=by
    rw[List.any_eq_false]
    intro z hz
    obtain⟨j,hj,rfl⟩:=List.getElem_of_mem hz
    have:=hall j hj
    have hje:s.cells.getD j default=s.cells[j]:=getD_some (List.getElem?_eq_getElem hj)
    simp only[hje] at this
    intro q;unfold bakedB at q;simp only[Bool.and_eq_true,decide_eq_true_eq] at q;exact this ⟨q.1.1.1,q.1.1.2,q.1.2,q.2⟩
   repeat (first | refine⟨fun _=>?_,fun h=>Bool.noConfusion h⟩ | refine⟨fun h=>Bool.noConfusion h,fun _=>?_⟩ | fail)
   refine⟨15,rfl,?_⟩
   exact ApS.err (hA.err (by rw[hP];unfold proveE;grind) (by decide))
set_option maxRecDepth 100000 in
set_option maxHeartbeats 4000000 in
theorem apExpand (x:CfgK) (c:Cfg) (y:StK) (s:St) (e:Ent) (hA:ArH c s e) (hk:e.kind=14):sx ttU arF arD (bodyOf Tryz.f94) (argF 0 [cfgV CN1 x c,stV SN1 y s,entV' e]) (rdM c s noS) 10 (endx ttU Tryz.f94.results.toList fun v mem' _=>ApS mem' v (applyR c s e)):=by
 have hV:=hA.cfg
 have hI:=hA.inv
 have hE:=hA.ent
 have hcn:=hA.cnt
 have htk:=hA.tick
 have hlt:=hI.lt
 have hlc:=hI.lc
 have hnt:=hV.nt
 have hnc:=hV.nc
 have hct:=hI.count
 have hst:=hI.tick
 have hev:=hI.evac
 have hpv:=hI.proven
 have htb:=hA.tB
 have hP:kindE c s e=expandE c s:=by unfold kindE;simp[hk]
 have hf:=hE
 simp[entV,entOk,inS,inR,fT,fC,fO,fE,fW,fN,hk] at hf
 refine⟨CN1,x,c,e,rfl,kp_,hV,?_⟩
 refine⟨fun h=>absurd h (by rw[hE];decide),fun _=>?_⟩
 refine⟨fun h=>absurd (of_decide_eq_true h) (by omega),fun _=>?_⟩
 refine⟨fun h=>absurd (of_decide_eq_true h) (by omega),fun _=>?_⟩
 refine⟨SN1,y,s,rfl,⟨.list rfl,.list rfl⟩,⟨by omega,by omega⟩,?_⟩
 intro y2
 refine⟨fun h=>absurd h (by rw[hk];decide),fun _=>?_⟩
 refine⟨fun h=>absurd h (by rw[hk];decide),fun _=>?_⟩
 refine⟨fun h=>absurd h (by rw[hk];decide),fun _=>?_⟩
 refine⟨fun h=>absurd h (by rw[hk];decide),fun _=>?_⟩
 refine⟨fun h=>absurd h (by rw[hk];decide),fun _=>?_⟩
 refine⟨fun h=>absurd h (by rw[hk];decide),fun _=>?_⟩
 refine⟨fun h=>absurd h (by rw[hk];decide),fun _=>?_⟩
 refine⟨fun h=>absurd h (by rw[hk];decide),fun _=>?_⟩
 refine⟨fun h=>absurd h (by rw[hk];decide),fun _=>?_⟩
 refine⟨fun h=>absurd h (by rw[hk];decide),fun _=>?_⟩
 refine⟨fun h=>absurd h (by rw[hk];decide),fun _=>?_⟩
 refine⟨fun h=>absurd h (by rw[hk];decide),fun _=>?_⟩
 refine⟨fun h=>absurd h (by rw[hk];decide),fun _=>?_⟩
 refine⟨fun _=>?_,fun h=>absurd h (by rw[hk];decide)⟩
 rw[wrapi (n:=s.count+1) (by omega)]
 refine⟨fun h1=>?_,fun h1=>?_⟩
 ·repeat (first | refine⟨fun _=>?_,fun h=>Bool.noConfusion h⟩ | refine⟨fun h=>Bool.noConfusion h,fun _=>?_⟩ | fail)
  refine⟨4,rfl,?_⟩
  exact ApS.err (hA.err (by rw[hP];unfold expandE;grind) (by decide))
 ·refine⟨fun h2=>?_,fun h2=>?_⟩
  ·repeat (first | refine⟨fun _=>?_,fun h=>Bool.noConfusion h⟩ | refine⟨fun h=>Bool.noConfusion h,fun _=>?_⟩ | fail)
   refine⟨2,rfl,?_⟩
   exact ApS.err (hA.err (by rw[hP];unfold expandE;grind) (by decide))
  ·refine⟨Int,fun i=>[(6,.int .i64 i)],fun _=>[],fun i=>(0≤i∧i≤s.cells.length)∧∀ j:Nat,(j:Int)<i→¬ ((c.versions.getD (s.cells.getD j default).running.toNat (0,0)).2≤s.high∨(c.versions.getD (s.cells.getD j default).wanted.toNat (0,0)).2≤s.high),fun i=>((s.cells.length:Int)-i).toNat,⟨0,⟨by omega,fun j hj=>absurd hj (by omega)⟩,kp_,kp_⟩,?_⟩
   rintro i ⟨hi0,hno⟩
   refine⟨⟨rfl,rfl⟩,?_⟩
   refine⟨fun hlt1=>?_,fun hge=>?_⟩
   ·have hlt2:i<(s.cells.length:Int):=of_decide_eq_true hlt1
    have hii:i.toNat<s.cells.length:=by omega
    have hci:=hI.cel _ (List.mem_of_getElem? (getD_get (d:=default) hii))
    have hc1:=hci.running
    have hc2:=hci.wanted
    refine⟨⟨Nat.le_refl _,hi0.1,hlt2⟩,?_⟩
    refine⟨Bool,fun b=>[(57,.bool b)],fun _=>[],fun b=>(b=true↔((c.versions.getD (s.cells.getD i.toNat default).running.toNat (0,0)).2≤s.high∨(c.versions.getD (s.cells.getD i.toNat default).wanted.toNat (0,0)).2≤s.high)),?_,?_⟩
    ·repeat' (first | refine⟨fun _=>?_,fun h=>Bool.noConfusion h⟩ | refine⟨fun h=>Bool.noConfusion h,fun _=>?_⟩ | refine⟨fun _=>?_,fun _=>?_⟩ | refine⟨⟨Nat.le_refl _,by omega,by omega⟩,?_⟩ | fail)
     all_goals (refine⟨_,?_,kp_,kp_⟩;dsimp only;grind)
    ·rintro b3 hb3
     refine⟨⟨by decide,rfl,rfl⟩,?_⟩
     refine⟨fun h3=>?_,fun h3=>?_⟩
     ·have hpp:=hb3.1 h3
      have hany:s.cells.any (blockB c s)=true:=List.any_eq_true.2 ⟨_,List.mem_of_getElem? (getD_get (d:=default) hii),by unfold blockB verAt;simp only[Bool.or_eq_true,decide_eq_true_eq];exact hpp⟩
      repeat (first | refine⟨fun _=>?_,fun h=>Bool.noConfusion h⟩ | refine⟨fun h=>Bool.noConfusion h,fun _=>?_⟩ | fail)
      refine⟨13,rfl,?_⟩
      exact ApS.err (hA.err (by rw[hP];unfold expandE;grind) (by decide))
     ·refine⟨_,?_,kp_,kp_⟩
      dsimp only
      rw[wrapi (n:=i+1) (by omega)]
      refine⟨⟨by omega,fun j hj=>?_⟩,by omega⟩
      by_cases hji:(j:Int)<i
      ·exact hno j hji
      ·obtain rfl:j=i.toNat:=by omega
       grind
   ·have hge2:¬ i<(s.cells.length:Int):=of_decide_eq_false hge
    have hall:∀ j:Nat,j<s.cells.length→¬ ((c.versions.getD (s.cells.getD j default).running.toNat (0,0)).2≤s.high∨(c.versions.getD (s.cells.getD j default).wanted.toNat (0,0)).2≤s.high):=fun j hj=>hno j (by omega)
    have hany:s.cells.any (blockB c s)=false:=by
     rw[List.any_eq_false]
     intro z hz
     obtain⟨j,hj,rfl⟩:=List.getElem_of_mem hz
     have:=hall j hj
     have hje:s.cells.getD j default=s.cells[j]:=getD_some (List.getElem?_eq_getElem hj)
     simp only[hje] at this
     intro q;unfold blockB verAt at q;simp only[Bool.or_eq_true,decide_eq_true_eq] at q;exact this q
    have hx:IntKind.i64.wrap (s.high+1)=s.high+1:=wrapi (by have:=hI.low;omega)
    have hk0:kindE c s e=0:=by rw[hP];unfold expandE;grind
    have heff:effOf s e=(⟨e.tick,s.count+1,s.tenants,s.cells,s.proven,s.evac,s.low,s.high+1⟩:St):=by simp[effOf,stamped,setTen,setCel,tenEff,celEff,tsAt,csAt,hk]
    exact ApS.ok (M:=⟨15,14,0⟩) (y:=y2) (s:=(⟨e.tick,s.count+1,s.tenants,s.cells,s.proven,s.evac,s.low,IntKind.i64.wrap (s.high+1)⟩:St)) (by rw[hA.fine hk0 (fun q=>absurd q (by unfold fitsB;simp[hk])),heff,hx]) rfl rfl ⟨_,_,_,rfl,rfl,Nat.le_refl _,fun k hk=>rfl⟩ ⟨_,_,_,rfl,rfl,Nat.le_refl _,fun k hk=>rfl⟩
/-! ref12.Apply,whole. -/
set_option maxRecDepth 100000 in
theorem applyR_sx (x:CfgK) (c:Cfg) (y:StK) (s:St) (e:Ent) (hV:CfgV c) (hI:StInv c s):sx ttU arF arD (bodyOf Tryz.f94) (argF 0 [cfgV CN1 x c,stV SN1 y s,entV' e]) (rdM c s noS) 10 (endx ttU Tryz.f94.results.toList fun v mem' _=>ApS mem' v (applyR c s e)):=by
 by_cases hE:entV c e=true
 ·by_cases hc:s.count<4096
  ·by_cases ht:s.tick≤e.tick
   ·have hA:ArH c s e:=⟨hV,hI,hE,hc,ht⟩
    have hk:1≤e.kind∧e.kind≤16:=by
     have h1:=hE
     simp only[entV,entOk,inR,Bool.and_eq_true,decide_eq_true_eq] at h1
     omega
    rcases (show e.kind=1∨e.kind=2∨e.kind=3∨e.kind=4∨e.kind=5∨e.kind=6∨e.kind=7∨e.kind=8∨e.kind=9∨e.kind=10∨e.kind=11∨e.kind=12∨e.kind=13∨e.kind=14∨e.kind=15∨e.kind=16 by omega) with h | h | h | h | h | h | h | h | h | h | h | h | h | h | h | h
    ·exact apPlace x c y s e hA h
    ·exact apGrant x c y s e hA h
    ·exact apCut x c y s e hA h
    ·exact apStandby x c y s e hA h
    ·exact apReady x c y s e hA h
    ·exact apMigrate x c y s e hA h
    ·exact apAbandon x c y s e hA h
    ·exact apShed x c y s e hA h
    ·exact apMode x c y s e hA h
    ·exact apWant x c y s e hA h
    ·exact apRuns x c y s e hA h
    ·exact apProve x c y s e hA h
    ·exact apEvac x c y s e hA h
    ·exact apExpand x c y s e hA h
    ·exact apContract x c y s e hA h
    ·exact apNote x c y s e hA h
   ·refine⟨CN1,x,c,e,rfl,by repeat (first | exact trivial | refine⟨rfl,?_⟩),hV,?_⟩
    refine⟨fun h=>absurd h (by rw[hE];decide),fun _=>?_⟩
    refine⟨fun h=>absurd (of_decide_eq_true h) (by omega),fun _=>?_⟩
    refine⟨fun _=>?_,fun h=>absurd (of_decide_eq_false h) (by omega)⟩
    refine⟨3,rfl,?_⟩
    refine ApS.err ?_
    have hr:refusedE c s e=3:=by unfold refusedE;rw[if_neg (by rw[hE];decide),if_neg (by omega),if_pos (by omega)]
    unfold applyR
    rw[hr,if_pos (by decide)]
  ·refine⟨CN1,x,c,e,rfl,by repeat (first | exact trivial | refine⟨rfl,?_⟩),hV,?_⟩
   refine⟨fun h=>absurd h (by rw[hE];decide),fun _=>?_⟩
   refine⟨fun _=>?_,fun h=>absurd (of_decide_eq_false h) (by omega)⟩
   refine⟨2,rfl,?_⟩
   refine ApS.err ?_
   have hr:refusedE c s e=2:=by unfold refusedE;rw[if_neg (by rw[hE];decide),if_pos (by omega)]
   unfold applyR
   rw[hr,if_pos (by decide)]
 ·have hE2:entV c e=false:=by cases h:entV c e<;>simp_all
  refine⟨CN1,x,c,e,rfl,by repeat (first | exact trivial | refine⟨rfl,?_⟩),hV,?_⟩
  refine⟨fun _=>?_,fun h=>absurd h (by rw[hE2];decide)⟩
  refine⟨1,rfl,?_⟩
  refine ApS.err ?_
  have hr:refusedE c s e=1:=by unfold refusedE;rw[if_pos hE2]
  unfold applyR
  rw[hr,if_pos (by decide)]
theorem r12Apply_calls (x:CfgA) (c:Cfg) (y:StA) (s:St) (e:Ent) (w:World) (hV:CfgV c) (hI:StInv c s) (hc:CfgOk w (·<w.heap.size) x c) (hs:StOk w (·<w.heap.size) y s) :
  Calls Tryz.prog 94 #[.agg (cfgC x c),.agg (stC y s),entV' e] w fun r w'=>∃ y2,r=.returned (.tuple #[.agg (stC y2 (applyR c s e).1),.int .i64 (applyR c s e).2])∧StOk w' (fun b=>w.heap.size≤b∧b<w'.heap.size) y2 (applyR c s e).1∧Below w.heap.size w w':=by
 have:=rd_callsM ttUok arFok Tryz.func94 rfl (D:=arD) (by kernel_rfl) (vs:=[cfgV CN1 (ck x) c,stV SN1 (sk y) s,entV' e]) rfl x c y s noA noS w hc hs (noS_ok w _) (fun v hv=>by
  simp only[List.mem_cons,List.not_mem_nil,or_false] at hv
  rcases hv with rfl | rfl | rfl
  ·exact rpl_cfg_ok x c y s noA noS
  ·exact rpl_st_ok x c y s noA noS
  ·exact (pure_den (pure_ent e) _ _).2) (applyR_sx (ck x) c (sk y) s e hV hI)
 rw[List.map_cons,List.map_cons,rpl_cfg,rpl_st,List.map_cons,(pure_den (pure_ent e) _ 0).1] at this
 refine this.mono ?_
 rintro r w' ⟨v,mem',nx',ρ',rfl,⟨T,Cc,rfl,hT,hC⟩,hv,hm',hb⟩
 obtain⟨a1,c1,e1,r1⟩:=hm'.slR (enc:=tsC) (sz:=12) (fun _=>rfl) (by omega) hT
 obtain⟨a2,c2,e2,r2⟩:=hm'.slR (enc:=csC) (sz:=4) (fun _=>rfl) (by omega) hC
 refine⟨⟨a1,c1,a2,c2⟩,?_,⟨r1,r2⟩,hb⟩
 have d:∀ v,den1 ρ' (.int .i64 v)=.int .i64 v:=fun _=>rfl
 simp[den,den2,stC,d,e1,e2]
def ctApplyR:CT:=fun vs mem nx K=>∃ N x c M y s e,vs=[cfgV N x c,stV M y s,entV' e]∧(keeps mem (cfgM N c)∧HasRow mem M.t 12 tsC default s.tenants∧HasRow mem M.c 4 csC default s.cells)∧(CfgV c∧StInv c s)∧∀ y2,K (.tuple #[stV ⟨nx+1,nx,500000⟩ y2 (applyR c s e).1,.int .i64 (applyR c s e).2]) (stM ⟨nx+1,nx,500000⟩ (applyR c s e).1++mem) (nx+2)
theorem applyROk:CSound Tryz.prog 94 ctApplyR:=⟨by kernel_rfl,fun {C ρ fr mem nx a w vs K} hc hs hv=>by
 obtain⟨N,x,c,M,y,s,e,rfl,⟨hk,h1,h2⟩,⟨hV,hI⟩,hK⟩:=hc
 have e0:([cfgV N x c,stV M y s,entV' e].map (den ρ)).toArray=#[.agg (cfgC (cfgX ρ N x) c),.agg (stC (stX ρ M y) s),entV' e]:=by
  rw[List.map_cons,List.map_cons,den_cfg,den_st]
  simp[den,den2,den1]
 rw[e0]
 refine (r12Apply_calls (cfgX ρ N x) c (stX ρ M y) s e w hV hI (hs.cfg (x:=x) hk (fun b h _=>h)) (hs.stRow (y:=y) h1 h2)).mono ?_
 rintro r w' ⟨y2,rfl,ho,hb⟩
 obtain⟨q1,q2,q3,q4⟩:=hs.addSt hb ho
 refine⟨.tuple #[stV ⟨nx+1,nx,500000⟩ ⟨y2.ct,y2.cc⟩ (applyR c s e).1,.int .i64 (applyR c s e).2],_,_,_,?_,hK ⟨y2.ct,y2.cc⟩,q1,?_,q4⟩
 ·rw[← q2]
  simp[den,den2,den1]
 ·intro u hu
  simp at hu
  rcases hu with rfl | rfl
  ·exact q3
  ·trivial⟩
theorem applyRP {c:Cfg} {s:St} {e:Ent} (hV:CfgV c) (hI:StInv c s) (hcap:overB c s=false):applyR c s e=applyP c s e:=by
 unfold applyR applyP
 by_cases hr:refusedE c s e≠0
 ·rw[if_pos hr,if_pos hr]
 ·rw[if_neg hr,if_neg hr]
  by_cases hb:booksB e=true∧overB c (effOf s e)=true
  ·rw[if_pos hb,if_pos]
   refine⟨?_,hb.2⟩
   have h:=hb.1
   unfold booksB at h
   unfold fitsB
   grind
  ·rw[if_neg hb]
   have hp:applyP c s e=(effOf s e,0):=by unfold applyP;rw[if_neg hr,if_neg hb]
   have:=cap_step hV hI hcap hp
   rw[if_neg (by rw[this];rintro⟨-,q⟩;cases q)]
def rnD:List (Nat×DQ):=[
 (3000003,{ k:=10,L:=[0,1,2,3,4,5,6,7],sl:=[1,2,3] }),
 (3000007,{ k:=11,L:=[0,1,2,3,4,5,6,7,9],sl:=[1,2,3] })]
abbrev stB (T Cc:Value):List Value:=[zi,zi,T,Cc,.int .i64 1,zi,zi,zi]
set_option maxRecDepth 100000 in
set_option maxHeartbeats 4000000 in
theorem r12New_sx (x:CfgK) (c:Cfg) (hnt:c.tenants.length≤1000) (hnc:c.cells.length≤1000) (hc0:0<c.cells.length) :
  sx tt [] rnD (bodyOf Tryz.f93) (argF 0 [cfgV CN1 x c]) (cfgM CN1 c) 6
   (endx tt Tryz.f93.results.toList fun v mem' _=>∃ T Cc,v=.agg (stB T Cc).toArray∧SlR mem' 12 tsC default (stNew c).tenants T∧SlR mem' 4 csC default (stNew c).cells Cc):=by
 refine⟨Int×Nat×Option (Nat×(Nat→List Value)),fun q=>match q with | (i,n,o)=>[(4,.int .i64 i)],fun q=>match q with | (i,n,none)=>[(8,.box 53 (stB zs0 zs0))] | (i,n,some (cap,el))=>[(8,.box 53 (stB (slc 9 n cap) zs0)),(9,tsB cap el)],fun q=>match q with | (i,n,o)=>(i=(n:Int)∧n≤c.tenants.length)∧match o with | none=>n=0 | some (cap,el)=>n≤cap∧∀ k,k<n→el k=tsC tsNew,fun q=>match q with | (i,n,o)=>((c.tenants.length:Int)-i).toNat,⟨(0,0,none),[],⟨⟨rfl,by omega⟩,rfl⟩,⟨rfl,rfl⟩,kp_,kp_⟩,?_⟩
 rintro⟨i,n,(_ | ⟨cap,el⟩)⟩ ⟨⟨hi,hn⟩,ho⟩
 ·refine⟨⟨by decide,rfl,rfl⟩,?_⟩
  obtain rfl:n=0:=ho
  refine⟨fun hlt=>?_,fun hge=>?_⟩
  ·have hlt2:i<(c.tenants.length:Int):=of_decide_eq_true hlt
   refine⟨⟨Nat.le_refl _,fun k hk=>by match k,hk with | 0,_=>rfl⟩,?_⟩
   refine⟨fun h=>absurd h (by decide),fun _=>⟨by decide,fun cap2 el2 ⟨hc2,_⟩ hel2=>?_⟩⟩
   refine⟨(_,_,some (cap2,el2)),[(9,11)],?_,⟨rfl,rfl⟩,kp_,kp_⟩
   dsimp only
   rw[wrapi (n:=i+1) (by omega)]
   refine⟨⟨⟨by omega,by omega⟩,by omega,fun k hk=>?_⟩,by omega⟩
   obtain rfl:k=0:=by omega
   exact hel2 0 (by omega)
  ·have hge2:¬ i<(c.tenants.length:Int):=of_decide_eq_false hge
   have hTz:(stNew c).tenants=[]:=by simp only[stNew];rw[show c.tenants.length=0 by omega];rfl
   clear hi hn
   refine⟨Int×Nat×Option (Nat×(Nat→List Value)),fun q=>match q with | (i,n,o)=>[(5,.int .i64 i)],fun q=>match q with | (i,n,none)=>[(8,.box 53 (stB zs0 zs0))] | (i,n,some (cap,el))=>[(8,.box 53 (stB zs0 (slc 10 n cap))),(10,csB cap el)],fun q=>match q with | (i,n,o)=>(i=(n:Int)∧n≤c.cells.length)∧match o with | none=>n=0 | some (cap,el)=>n≤cap∧∀ k,k<n→el k=csC csNew,fun q=>match q with | (i,n,o)=>((c.cells.length:Int)-i).toNat,⟨(0,0,none),[],⟨⟨rfl,by omega⟩,rfl⟩,⟨rfl,rfl⟩,kp_,kp_⟩,?_⟩
   rintro⟨i,n,(_ | ⟨cap,el⟩)⟩ ⟨⟨hi,hn⟩,ho⟩
   ·refine⟨⟨by decide,rfl,rfl⟩,?_⟩
    obtain rfl:n=0:=ho
    refine⟨fun hlt=>?_,fun hge=>?_⟩
    ·have hlt2:i<(c.cells.length:Int):=of_decide_eq_true hlt
     refine⟨⟨Nat.le_refl _,fun k hk=>by match k,hk with | 0,_=>rfl⟩,?_⟩
     refine⟨fun h=>absurd h (by decide),fun _=>⟨by decide,fun cap2 el2 ⟨hc2,_⟩ hel2=>?_⟩⟩
     refine⟨(_,_,some (cap2,el2)),[(10,12)],?_,⟨rfl,rfl⟩,kp_,kp_⟩
     dsimp only
     rw[wrapi (n:=i+1) (by omega)]
     refine⟨⟨⟨by omega,by omega⟩,by omega,fun k hk=>?_⟩,by omega⟩
     obtain rfl:k=0:=by omega
     exact hel2 0 (by omega)
    ·have hge2:¬ i<(c.cells.length:Int):=of_decide_eq_false hge
     omega
   ·refine⟨⟨by decide,rfl,rfl⟩,?_⟩
    obtain⟨hcap,hel⟩:=ho
    refine⟨fun hlt=>?_,fun hge=>?_⟩
    ·have hlt2:i<(c.cells.length:Int):=of_decide_eq_true hlt
     refine⟨⟨Nat.le_refl _,fun k hk=>by match k,hk with | 0,_=>rfl⟩,?_⟩
     refine⟨⟨rfl,hcap⟩,fun hin el2 ⟨h1,_⟩ h2=>?_,fun hgt=>⟨by show (n+1) * 32≤140737488355328;omega,fun cap2 el2 ⟨hc2,_⟩ h1 h2=>?_⟩⟩
     ·refine⟨(_,_,some (cap,el2)),[],?_,⟨rfl,rfl⟩,kp_,kp_⟩
      dsimp only
      rw[wrapi (n:=i+1) (by omega)]
      refine⟨⟨⟨by omega,by omega⟩,by omega,fun k hk=>?_⟩,by omega⟩
      by_cases hkn:k<n
      ·exact (h1 k hkn).trans (hel k hkn)
      ·obtain rfl:k=n:=by omega
       exact h2 0 (by omega)
     ·refine⟨(_,_,some (cap2,el2)),[(10,12)],?_,⟨rfl,rfl⟩,kp_,kp_⟩
      dsimp only
      rw[wrapi (n:=i+1) (by omega)]
      refine⟨⟨⟨by omega,by omega⟩,by omega,fun k hk=>?_⟩,by omega⟩
      by_cases hkn:k<n
      ·exact (h1 k hkn).trans (hel k hkn)
      ·obtain rfl:k=n:=by omega
       exact h2 0 (by omega)
    ·have hge2:¬ i<(c.cells.length:Int):=of_decide_eq_false hge
     have hnn:n=c.cells.length:=by omega
     subst hnn
     have hlc:(stNew c).cells.length=c.cells.length:=by simp[stNew]
     have hlt:(stNew c).tenants.length=c.tenants.length:=by simp[stNew]
     exact⟨_,_,rfl,.inl ⟨rfl,hTz⟩,.inr ⟨10,cap,_,cap,el,by rw[hlc],rfl,rfl,by rw[hlc];exact hcap,fun k hk=>by rw[hlc] at hk;rw[hel k hk];simp only[stNew];rw[getD_rep hk]⟩⟩
 ·refine⟨⟨by decide,rfl,rfl⟩,?_⟩
  obtain⟨hcap,hel⟩:=ho
  refine⟨fun hlt=>?_,fun hge=>?_⟩
  ·have hlt2:i<(c.tenants.length:Int):=of_decide_eq_true hlt
   refine⟨⟨Nat.le_refl _,fun k hk=>by match k,hk with | 0,_=>rfl⟩,?_⟩
   refine⟨⟨rfl,hcap⟩,fun hin el2 ⟨h1,_⟩ h2=>?_,fun hgt=>⟨by show (n+1) * 88≤140737488355328;omega,fun cap2 el2 ⟨hc2,_⟩ h1 h2=>?_⟩⟩
   ·refine⟨(_,_,some (cap,el2)),[],?_,⟨rfl,rfl⟩,kp_,kp_⟩
    dsimp only
    rw[wrapi (n:=i+1) (by omega)]
    refine⟨⟨⟨by omega,by omega⟩,by omega,fun k hk=>?_⟩,by omega⟩
    by_cases hkn:k<n
    ·exact (h1 k hkn).trans (hel k hkn)
    ·obtain rfl:k=n:=by omega
     exact h2 0 (by omega)
   ·refine⟨(_,_,some (cap2,el2)),[(9,11)],?_,⟨rfl,rfl⟩,kp_,kp_⟩
    dsimp only
    rw[wrapi (n:=i+1) (by omega)]
    refine⟨⟨⟨by omega,by omega⟩,by omega,fun k hk=>?_⟩,by omega⟩
    by_cases hkn:k<n
    ·exact (h1 k hkn).trans (hel k hkn)
    ·obtain rfl:k=n:=by omega
     exact h2 0 (by omega)
  ·have hge2:¬ i<(c.tenants.length:Int):=of_decide_eq_false hge
   have hnn:n=c.tenants.length:=by omega
   subst hnn
   have hcapT:=hcap
   have helT:=hel
   clear hcap hel hi hn hge2 hge
   obtain⟨capT,hce⟩:∃ q,q=cap:=⟨_,rfl⟩
   obtain⟨elT,hee⟩:∃ q,q=el:=⟨_,rfl⟩
   subst hce hee
   refine⟨Int×Nat×Option (Nat×(Nat→List Value)),fun q=>match q with | (i,n,o)=>[(5,.int .i64 i)],fun q=>match q with | (i,n,none)=>[(8,.box 53 (stB (slc 9 c.tenants.length capT) zs0))] | (i,n,some (cap,el))=>[(8,.box 53 (stB (slc 9 c.tenants.length capT) (slc 10 n cap))),(10,csB cap el)],fun q=>match q with | (i,n,o)=>(i=(n:Int)∧n≤c.cells.length)∧match o with | none=>n=0 | some (cap,el)=>n≤cap∧∀ k,k<n→el k=csC csNew,fun q=>match q with | (i,n,o)=>((c.cells.length:Int)-i).toNat,⟨(0,0,none),[],⟨⟨rfl,by omega⟩,rfl⟩,⟨rfl,rfl⟩,kp_,kp_⟩,?_⟩
   rintro⟨i,n,(_ | ⟨cap,el⟩)⟩ ⟨⟨hi,hn⟩,ho⟩
   ·refine⟨⟨by decide,rfl,rfl⟩,?_⟩
    obtain rfl:n=0:=ho
    refine⟨fun hlt=>?_,fun hge=>?_⟩
    ·have hlt2:i<(c.cells.length:Int):=of_decide_eq_true hlt
     refine⟨⟨Nat.le_refl _,fun k hk=>by match k,hk with | 0,_=>rfl⟩,?_⟩
     refine⟨fun h=>absurd h (by decide),fun _=>⟨by decide,fun cap2 el2 ⟨hc2,_⟩ hel2=>?_⟩⟩
     refine⟨(_,_,some (cap2,el2)),[(10,12)],?_,⟨rfl,rfl⟩,kp_,kp_⟩
     dsimp only
     rw[wrapi (n:=i+1) (by omega)]
     refine⟨⟨⟨by omega,by omega⟩,by omega,fun k hk=>?_⟩,by omega⟩
     obtain rfl:k=0:=by omega
     exact hel2 0 (by omega)
    ·have hge2:¬ i<(c.cells.length:Int):=of_decide_eq_false hge
     omega
   ·refine⟨⟨by decide,rfl,rfl⟩,?_⟩
    obtain⟨hcap,hel⟩:=ho
    refine⟨fun hlt=>?_,fun hge=>?_⟩
    ·have hlt2:i<(c.cells.length:Int):=of_decide_eq_true hlt
     refine⟨⟨Nat.le_refl _,fun k hk=>by match k,hk with | 0,_=>rfl⟩,?_⟩
     refine⟨⟨rfl,hcap⟩,fun hin el2 ⟨h1,_⟩ h2=>?_,fun hgt=>⟨by show (n+1) * 32≤140737488355328;omega,fun cap2 el2 ⟨hc2,_⟩ h1 h2=>?_⟩⟩
     ·refine⟨(_,_,some (cap,el2)),[],?_,⟨rfl,rfl⟩,kp_,kp_⟩
      dsimp only
      rw[wrapi (n:=i+1) (by omega)]
      refine⟨⟨⟨by omega,by omega⟩,by omega,fun k hk=>?_⟩,by omega⟩
      by_cases hkn:k<n
      ·exact (h1 k hkn).trans (hel k hkn)
      ·obtain rfl:k=n:=by omega
       exact h2 0 (by omega)
     ·refine⟨(_,_,some (cap2,el2)),[(10,12)],?_,⟨rfl,rfl⟩,kp_,kp_⟩
      dsimp only
      rw[wrapi (n:=i+1) (by omega)]
      refine⟨⟨⟨by omega,by omega⟩,by omega,fun k hk=>?_⟩,by omega⟩
      by_cases hkn:k<n
      ·exact (h1 k hkn).trans (hel k hkn)
      ·obtain rfl:k=n:=by omega
       exact h2 0 (by omega)
    ·have hge2:¬ i<(c.cells.length:Int):=of_decide_eq_false hge
     have hnn:n=c.cells.length:=by omega
     subst hnn
     have hlc:(stNew c).cells.length=c.cells.length:=by simp[stNew]
     have hlt:(stNew c).tenants.length=c.tenants.length:=by simp[stNew]
     exact⟨_,_,rfl,.inr ⟨9,capT,_,capT,elT,by rw[hlt],rfl,rfl,by rw[hlt];exact hcapT,fun k hk=>by rw[hlt] at hk;rw[helT k hk];simp only[stNew];rw[getD_rep hk]⟩,.inr ⟨10,cap,_,cap,el,by rw[hlc],rfl,rfl,by rw[hlc];exact hcap,fun k hk=>by rw[hlc] at hk;rw[hel k hk];simp only[stNew];rw[getD_rep hk]⟩⟩
theorem r12New_calls (x:CfgA) (c:Cfg) (w:World) (hc:CfgOk w (·<w.heap.size) x c) (hnt:c.tenants.length≤1000) (hnc:c.cells.length≤1000) (hc0:0<c.cells.length) :
  Calls Tryz.prog 93 #[.agg (cfgC x c)] w fun e w'=>∃ y,e=.returned (.agg (stC y (stNew c)))∧StOk w' (fun b=>w.heap.size≤b∧b<w'.heap.size) y (stNew c)∧Below w.heap.size w w':=by
 have hpc:CfgPl (cpl x c) CN1 x c:=⟨rfl,rfl,rfl,rfl,rfl,rfl⟩
 have hm:MemAt { w0:=w,bor:=[],n0:=6,ρ0:=cpl x c,nt:=(Tryz.f93).ntmps } (cpl x c) (cfgM CN1 c) 6 w:=MemAt.rows trivial (by
  have:=cfg_blks (C:={ w0:=w,bor:=[],n0:=6,ρ0:=cpl x c,nt:=(Tryz.f93).ntmps }) (nx:=6) (r:=[]) hpc hc (fun b hb=>hb) (by decide) trivial
  exact this)
 have hv0:#[Value.agg (cfgC x c)]=([cfgV CN1 ⟨x.cz,x.cc,x.ct,x.cv,x.cr,x.co⟩ c].map (den (cpl x c))).toArray:=by
  rw[List.map_cons,den_cfg]
  rfl
 rw[hv0]
 refine (calls_sx ttOk ft_nil mixed Tryz.func93 rfl (D:=rnD) (by kernel_rfl) (vs:=[cfgV CN1 ⟨x.cz,x.cc,x.ct,x.cv,x.cr,x.co⟩ c]) rfl ⟨rfl,rfl⟩ rfl hm (fun v hv=>?_) (r12New_sx _ c hnt hnc hc0)).mono ?_
 ·obtain rfl:v=_:=by simpa using hv
  intro u hu
  simp at hu
  rcases hu with rfl | rfl | rfl | rfl | rfl | rfl | rfl | rfl | rfl | rfl<;>first | trivial | exact⟨by decide,rfl⟩
 ·rintro e w' ⟨v,mem',nx',ρ',rfl,⟨T,Cc,rfl,hT,hC⟩,hv,hm'⟩
  obtain⟨a1,c1,e1,r1⟩:=hm'.slR (enc:=tsC) (sz:=12) (fun _=>rfl) (by omega) hT
  obtain⟨a2,c2,e2,r2⟩:=hm'.slR (enc:=csC) (sz:=4) (fun _=>rfl) (by omega) hC
  refine⟨⟨a1,c1,a2,c2⟩,?_,⟨r1,r2⟩,⟨hm'.rest.os,hm'.rest.tape,hm'.rest.output,hm'.rest.size,fun b hlt=>hm'.rest.block b hlt (by simp)⟩⟩
  have d:∀ v,den1 ρ' (.int .i64 v)=.int .i64 v:=fun _=>rfl
  simp[den,den2,stC,stNew,d] at e1 e2 ⊢
  exact⟨e1,e2⟩
def ctNewR:CT:=fun vs mem nx K=>∃ N x c,vs=[cfgV N x c]∧keeps mem (cfgM N c)∧(c.tenants.length≤1000∧c.cells.length≤1000∧0<c.cells.length)∧∀ y,K (stV ⟨nx+1,nx,500000⟩ y (stNew c)) (stM ⟨nx+1,nx,500000⟩ (stNew c)++mem) (nx+2)
theorem newROk:CSound Tryz.prog 93 ctNewR:=⟨by kernel_rfl,fun {C ρ fr mem nx a w vs K} hc hs hv=>by
 obtain⟨N,x,c,rfl,hk,⟨hnt,hnc,hc0⟩,hK⟩:=hc
 rw[List.map_cons,den_cfg]
 refine (r12New_calls (cfgX ρ N x) c w (hs.cfg hk (fun b h _=>h)) hnt hnc hc0).mono ?_
 rintro e w' ⟨y,rfl,hst,hb⟩
 obtain⟨q1,q2,q3,q4⟩:=hs.addSt hb hst
 exact⟨_,_,_,_,by rw[q2],hK ⟨y.ct,y.cc⟩,q1,q3,q4⟩⟩
/-! Logs that are accepted,and ref12.Fold. -/
inductive Run (c:Cfg):St→List Ent→St→Prop where
 | nil (s:St):Run c s [] s
 | cons {s x s':St} {e:Ent} {es:List Ent} (h:applyP c s e=(x,0)) (hr:Run c x es s'):Run c s (e::es) s'
structure RInv (c:Cfg) (s:St):Prop where
 inv:StInv c s
 cap:overB c s=false
theorem RInv.new {c:Cfg} (hV:CfgV c):RInv c (stNew c):=⟨stNew_inv hV,cap_new hV⟩
theorem RInv.step {c:Cfg} {s x:St} {e:Ent} (hV:CfgV c) (h:RInv c s) (he:applyP c s e=(x,0)):RInv c x:=by
 obtain⟨hr,hx,-⟩:=applyP_ok he
 exact⟨by rw[hx];exact h.inv.step hV hr,cap_step hV h.inv h.cap he⟩
theorem Run.rinv {c:Cfg} (hV:CfgV c) {s s':St} {es:List Ent} (h:Run c s es s') (hs:RInv c s):RInv c s':=by
 induction h with
 | nil s=>exact hs
 | cons he _ ih=>exact ih (hs.step hV he)
theorem Run.snoc {c:Cfg} {s s' x:St} {es:List Ent} {e:Ent} (h:Run c s es s') (he:applyP c s' e=(x,0)):Run c s (es++[e]) x:=by
 induction h with
 | nil s=>exact .cons he (.nil _)
 | cons h1 _ ih=>exact .cons h1 (ih he)
theorem Run.fold {c:Cfg} {s s':St} {es:List Ent} (h:Run c s es s'):∀ i:Int,foldGo c i s es=(s',i+es.length,0):=by
 induction h with
 | nil s=>intro i;simp[foldGo]
 | cons h1 _ ih=>
  intro i
  rw[foldGo,h1,if_neg (by simp),ih]
  simp
  omega
theorem Run.foldC {c:Cfg} {s':St} {es:List Ent} (h:Run c (stNew c) es s'):foldC c es=(s',(es.length:Int),0):=by
 unfold Go.Proofs.YtchhdflealgkaaaGreat.foldC
 rw[h.fold 0,Int.zero_add]
theorem Run.count {c:Cfg} {s s':St} {es:List Ent} (h:Run c s es s'):s'.count=s.count+es.length:=by
 induction h with
 | nil s=>simp
 | cons h1 _ ih=>
  obtain⟨hr,hx,-⟩:=applyP_ok h1
  rw[ih,hx]
  have:∀ (s:St) (e:Ent),(effOf s e).count=s.count+1:=by
   intro s e
   unfold effOf stamped setTen setCel
   repeat (split<;>try rfl)
  rw[this]
  simp
  omega
theorem Run.split {c:Cfg} {s s':St} {l r:List Ent} (h:Run c s (l++r) s'):∃ m,Run c s l m∧Run c m r s':=by
 induction l generalizing s with
 | nil=>exact⟨s,.nil s,h⟩
 | cons e l ih=>
  cases h with
  | cons h1 hr=>
   obtain⟨m,q1,q2⟩:=ih hr
   exact⟨m,.cons h1 q1,q2⟩
def frF:FT:=[(93,ctNewR),(94,ctApplyR)]
theorem frFok:FTok Tryz.prog frF:=ft_cons newROk (ft_cons applyROk ft_nil)
def frD:List (Nat×DQ):=[(3000003,{ k:=20,L:=[0,1,2,3,4,5,6,7,8,9,10,11,12,13,14],sl:=[1,2,4,7] }),
 (5,{ k:=12,L:=[0,1,2,3,4,5,6,7,8,9,10,11,12,13,14,17,18,19],A:=[10],pre:=[(0,false),(1,false),(2,false),(3,false),(4,false),(5,false),(6,true),(7,false),(8,false),(9,false)],post:=[(11,true)] })]
set_option maxRecDepth 100000 in
set_option maxHeartbeats 4000000 in
theorem foldR_sx (d:UD) (x:CfgK) (cap:Nat) (hV:CfgV d.c) (hl:d.es.length≤1000000) :
  sx tt frF frD (bodyOf Tryz.f64) (argF 0 [cfgV CNu x d.c,slc 8 d.es.length cap]) (uniM d) 13 (endx tt Tryz.f64.results.toList fun v mem' _=>∃ y,v=.tuple #[stV ⟨18,19,500000⟩ y (foldC d.c d.es).1,.int .i64 (foldC d.c d.es).2.1,.int .i64 (foldC d.c d.es).2.2]∧keeps mem' (stM ⟨18,19,500000⟩ (foldC d.c d.es).1)):=by
 have hnt:=hV.nt
 have hnc:=hV.nc
 refine⟨CNu,x,d.c,rfl,kp_,⟨by omega,by omega,by omega⟩,?_⟩
 intro y0
 refine⟨St×StK×Int,fun q=>match q with | (s,y,i)=>[(8,.int .i64 i)],fun q=>match q with | (s,y,i)=>[(17,.box 53 [.int .i64 s.tick,.int .i64 s.count,slc 18 s.tenants.length y.ct,slc 19 s.cells.length y.cc,.int .i64 s.proven,.int .i64 s.evac,.int .i64 s.low,.int .i64 s.high]),(18,rowOfL 500000 12 tsC default s.tenants),(19,rowOfL 500000 4 csC default s.cells)],fun q=>match q with | (s,y,i)=>RInv d.c s∧(0≤i∧i≤d.es.length)∧foldGo d.c i s (d.es.drop i.toNat)=foldC d.c d.es,fun q=>match q with | (s,y,i)=>((d.es.length:Int)-i).toNat,⟨(stNew d.c,y0,0),[(18,16),(19,15)],⟨.new hV,by omega,rfl⟩,⟨rfl,rfl⟩,kp_,kp_⟩,?_⟩
 rintro⟨s,y,i⟩ ⟨hR,hi,hf⟩
 refine⟨⟨by decide,rfl,rfl⟩,?_⟩
 refine⟨fun hlt=>?_,fun hge=>?_⟩
 ·have hlt2:i<(d.es.length:Int):=of_decide_eq_true hlt
  have hd:d.es.drop i.toNat=(d.es.getD i.toNat default)::d.es.drop (i+1).toNat:=by
   rw[show (i+1).toNat=i.toNat+1 by omega,← List.getElem_cons_drop (show i.toNat<d.es.length by omega)]
   congr 1
   rw[List.getD_eq_getElem?_getD,List.getElem?_eq_getElem (show i.toNat<d.es.length by omega)]
   rfl
  rw[hd] at hf
  refine⟨⟨Nat.le_refl _,hi.1,hlt2⟩,?_⟩
  refine⟨CNu,x,d.c,⟨18,19,500000⟩,y,s,(d.es.getD i.toNat default),rfl,⟨kp_,.list rfl,.list rfl⟩,⟨hV,hR.inv⟩,?_⟩
  intro y2
  rw[applyRP hV hR.inv hR.cap]
  refine⟨kp_,?_⟩
  refine⟨kp_,?_⟩
  generalize (d.es.getD i.toNat default)=e at hf ⊢
  refine⟨fun he=>?_,fun he=>?_⟩
  ·have he2:(applyP d.c s e).2≠0:=by simpa using he
   rw[foldGo,if_pos he2] at hf
   rw[← hf]
   exact⟨y,rfl,kp_⟩
  ·have he2:(applyP d.c s e).2=0:=by simpa using he
   rw[foldGo,if_neg (fun h=>h he2)] at hf
   refine⟨((applyP d.c s e).1,y2,_),[(18,22),(19,21)],?_,⟨rfl,rfl⟩,kp_,kp_⟩
   dsimp only
   rw[wrapi (n:=i+1) (by omega)]
   exact⟨⟨hR.step hV (e:=e) (by rw[← he2]),by omega,hf⟩,by omega⟩
 ·have hge2:¬ i<(d.es.length:Int):=of_decide_eq_false hge
  obtain rfl:i=d.es.length:=by omega
  rw[Int.toNat_natCast,List.drop_length] at hf
  rw[foldGo] at hf
  rw[← hf]
  exact⟨y,rfl,kp_⟩
theorem r12Fold_calls (x:CfgA) (c:Cfg) (A:Option Addr) (cap:Nat) (es:List Ent) (w:World) (hV:CfgV c) (hl:es.length≤1000000) (hc:CfgOk w (·<w.heap.size) x c) (hr:Rd w (·<w.heap.size) A (flat entC es)) :
  Calls Tryz.prog 64 #[.agg (cfgC x c),.slice A es.length cap] w fun e w'=>∃ y,e=.returned (.tuple #[.agg (stC y (foldC c es).1),.int .i64 (foldC c es).2.1,.int .i64 (foldC c es).2.2])∧StOk w' (fun b=>w.heap.size≤b∧b<w'.heap.size) y (foldC c es).1∧Below w.heap.size w w':=by
 have:=uni_calls ttOk (frFok.i _) Tryz.func64 rfl (D:=frD) (by kernel_rfl) (vs:=[cfgV CNu (ck x) c,slc 8 es.length cap]) rfl { x:=x,ae:=A } { c:=c,es:=es } w { c:=hc,e:=hr } (fun v hv=>by
  simp only[List.mem_cons,List.not_mem_nil,or_false] at hv
  rcases hv with rfl | rfl
  ·exact upl_cfg_ok { x:=x,ae:=A } { c:=c,es:=es }
  ·exact⟨show (8:Nat)<13 by decide,rfl⟩) (foldR_sx { c:=c,es:=es } (ck x) cap hV hl)
 rw[List.map_cons] at this
 have e0:=upl_cfg { x:=x,ae:=A } { c:=c,es:=es }
 dsimp only at e0 this
 rw[e0] at this
 refine this.mono ?_
 rintro e w' ⟨v,mem',nx',ρ',rfl,⟨y,rfl,k1,k2,-⟩,hv,hm',hb⟩
 refine⟨⟨(ρ' 18).A,y.ct,(ρ' 19).A,y.cc⟩,?_,⟨?_,?_⟩,hb⟩
 ·simp[den,den2,den1,dA_whole,dS_whole,stC]
 ·exact (hm'.blk 18 _ k1).fresh (enc:=tsC) default rfl rfl (fun k hk=>rfl) (fun _=>rfl) (by omega)
 ·exact (hm'.blk 19 _ k2).fresh (enc:=csC) default rfl rfl (fun k hk=>rfl) (fun _=>rfl) (by omega)
def ctFoldR:CT:=fun vs mem nx K=>∃ N x c r cap es,vs=[cfgV N x c,slc r (es:List Ent).length cap]∧(keeps mem (cfgM N c)∧HasRow mem r 9 entC default es)∧(CfgV c∧es.length≤1000000)∧∀ y,K (.tuple #[stV ⟨nx+1,nx,500000⟩ y (foldC c es).1,.int .i64 (foldC c es).2.1,.int .i64 (foldC c es).2.2]) (stM ⟨nx+1,nx,500000⟩ (foldC c es).1++mem) (nx+2)
theorem foldROk:CSound Tryz.prog 64 ctFoldR:=⟨by kernel_rfl,fun {C ρ fr mem nx a w vs K} hc hs hv=>by
 obtain⟨N,x,c,r,cap,es,rfl,⟨hk,hr⟩,⟨hV,hl⟩,hK⟩:=hc
 have e0:([cfgV N x c,slc r es.length cap].map (den ρ)).toArray=#[.agg (cfgC (cfgX ρ N x) c),.slice (ρ r).A es.length cap]:=by
  rw[List.map_cons,den_cfg]
  rfl
 rw[e0]
 refine (r12Fold_calls (cfgX ρ N x) c (ρ r).A cap es w hV hl (hs.cfg hk (fun b h _=>h)) (hs.hasRd (enc:=entC) (sz:=9) (fun _=>rfl) (by omega) hr)).mono ?_
 rintro e w' ⟨y,rfl,hst,hb⟩
 obtain⟨q1,q2,q3,q4⟩:=hs.addSt hb hst
 refine⟨.tuple #[stV ⟨nx+1,nx,500000⟩ ⟨y.ct,y.cc⟩ (foldC c es).1,.int .i64 (foldC c es).2.1,.int .i64 (foldC c es).2.2],_,_,_,?_,hK ⟨y.ct,y.cc⟩,q1,?_,q4⟩
 ·rw[← q2]
  simp[den,den2,den1]
 ·intro u hu
  simp at hu
  rcases hu with rfl | rfl | rfl
  ·exact q3
  ·trivial
  ·trivial⟩
def ggrF:FT:=[(39,ctNext),(40,ctRange),(41,ctYes)]
theorem ggrFok:FTok Tryz.prog ggrF:=ft_cons nextOk (ft_cons rangeOk (ft_cons yesOk ft_nil))
def gcutQ:DQ:={ k:=15,L:=[1,9,10,11,13,14],sl:=[0,5,6,7,8,9] }
def ggrD:List (Nat×DQ):=[
 (14,{ k:=5,L:=[12],pre:=[(0,false),(1,false),(2,false),(3,true),(4,false)] }),
 (15,{ k:=7,L:=[12,10],pre:=[(0,false),(1,false),(2,false),(3,false),(4,false),(5,true),(6,false)] }),
 (18,{ k:=10,g:=some (.fix 0 (.fix 3 (.fix 5 (.three
  1 (.fix 2 (.two 4 (.fix 8 (.act 6 (.fix 7 (.act 9 .fin)))) 6 (.act 4 (.fix 7 (.fix 8 (.act 9 .fin))))))
  4 (.two 1 (.fix 2 (.fix 8 (.act 6 (.fix 7 (.act 9 .fin))))) 6 (.fix 7 (.act 1 (.fix 2 (.fix 8 (.act 9 .fin))))))
  6 (.two 1 (.fix 2 (.act 4 (.fix 7 (.fix 8 (.act 9 .fin))))) 4 (.fix 7 (.act 1 (.fix 2 (.fix 8 (.act 9 .fin))))))))))}),
 (1000007,gcutQ),(1000010,gcutQ),(1000012,gcutQ),(1000015,gcutQ),(1000019,gcutQ),(1000020,gcutQ)]
set_option maxRecDepth 100000 in
set_option maxHeartbeats 4000000 in
theorem grant_sx (cap:Nat) (zs:List Int) (k:Int) (x:CfgK) (c:Cfg) (y:StK) (s:St) (e:Ent) (hz:zs.length≤400) (hk:0≤k∧k≤990000) (hV:CfgV c) (hI:StInv c s) (ht:0≤e.tenant∧e.tenant<s.tenants.length) (hp:(tsAt s e.tenant).placed=true) :
  sx tt ggrF ggrD (bodyOf Tryz.f154) (argF 0 (ptr 0::cfgV CN0 x c::stV SN0 y s::[entV' e])) ((0,tapeB 1 zs.length cap k)::(1,intRow zs)::(cfgM CN0 c++stM SN0 s)) 10
   (endx tt Tryz.f154.results.toList fun v mem' _=>∃ k',EntR k v k'∧pureV v∧lk mem' 0=some (tapeB 1 zs.length cap k')):=by
 have hnc:=hV.nc
 have hlc:=hI.lc
 have hls:=hV.lease
 have hti:=hI.ten _ (tsAt_mem ht.1 ht.2).2
 have h1:=hti.placed hp
 have h2:=hti.home
 have h3:=hti.standby
 have h4:=hti.target
 unfold tsAt at h1 h2 h3 h4
 rw[← hlc] at h2 h3 h4
 replace h2:=h2.2
 replace h3:=h3.2
 replace h4:=h4.2
 clear hti hp hI hV
 obtain⟨kind,tick,tenant,cell,other,epoch,since,till,n⟩:=e
 dsimp only[entV'] at *
 refine⟨⟨Nat.le_refl _,by omega,by omega⟩,?_⟩
 refine⟨Ent×Int,fun _=>[],fun y=>match y with | (⟨a1,a2,a3,a4,a5,a6,a7,a8,a9⟩,kk)=>[(0,tapeB 1 zs.length cap kk),(12,.box 56 [.int .i64 a1,.int .i64 a2,.int .i64 a3,.int .i64 a4,.int .i64 a5,.int .i64 a6,.int .i64 a7,.int .i64 a8,.int .i64 a9])],fun y=>(k≤y.2∧y.2≤k+2)∧0≤y.1.cell∧y.1.cell<s.cells.length,?_,?_⟩
 ·refine⟨fun htg=>?_,fun _=>?_⟩
  ·simp only[decide_eq_true_eq,ge_iff_le] at htg
   refine⟨0,1,cap,zs,_,_,rfl,⟨rfl,rfl⟩,⟨hz,by omega,by omega⟩,⟨_,rfl,by omega,by omega⟩,?_⟩
   rintro _ k1 ⟨b1,rfl,hk1⟩
   refine⟨fun _=>?_,fun _=>?_⟩
   ·(refine⟨(⟨_,_,_,_,_,_,_,_,_⟩,_),?_,⟨rfl,rfl,rfl,rfl,rfl,rfl,trivial⟩,⟨rfl,rfl,rfl,rfl,rfl,rfl,rfl,rfl,trivial⟩⟩;dsimp only;(refine⟨⟨by omega,by omega⟩,?_,?_⟩<;>first | assumption | omega))
   ·refine⟨fun hs=>?_,fun _=>?_⟩
    ·simp only[decide_eq_true_eq,ge_iff_le] at hs
     refine⟨0,1,cap,zs,_,_,rfl,⟨rfl,rfl⟩,⟨hz,by omega,by omega⟩,⟨_,rfl,by omega,by omega⟩,?_⟩
     rintro _ k2 ⟨b2,rfl,hk2⟩
     refine⟨fun _=>?_,fun _=>?_⟩
     ·refine⟨fun _=>?_,fun h=>nomatch h⟩
      (refine⟨(⟨_,_,_,_,_,_,_,_,_⟩,_),?_,⟨rfl,rfl,rfl,rfl,rfl,rfl,trivial⟩,⟨rfl,rfl,rfl,rfl,rfl,rfl,rfl,rfl,trivial⟩⟩;dsimp only;(refine⟨⟨by omega,by omega⟩,?_,?_⟩<;>first | assumption | omega))
     ·refine⟨fun _=>?_,fun _=>?_⟩
      ·(refine⟨(⟨_,_,_,_,_,_,_,_,_⟩,_),?_,⟨rfl,rfl,rfl,rfl,rfl,rfl,trivial⟩,⟨rfl,rfl,rfl,rfl,rfl,rfl,rfl,rfl,trivial⟩⟩;dsimp only;(refine⟨⟨by omega,by omega⟩,?_,?_⟩<;>first | assumption | omega))
      ·(refine⟨(⟨_,_,_,_,_,_,_,_,_⟩,_),?_,⟨rfl,rfl,rfl,rfl,rfl,rfl,trivial⟩,⟨rfl,rfl,rfl,rfl,rfl,rfl,rfl,rfl,trivial⟩⟩;dsimp only;(refine⟨⟨by omega,by omega⟩,?_,?_⟩<;>first | assumption | omega))
    ·refine⟨(fun h=>nomatch h),fun _=>?_⟩
     (refine⟨(⟨_,_,_,_,_,_,_,_,_⟩,_),?_,⟨rfl,rfl,rfl,rfl,rfl,rfl,trivial⟩,⟨rfl,rfl,rfl,rfl,rfl,rfl,rfl,rfl,trivial⟩⟩;dsimp only;(refine⟨⟨by omega,by omega⟩,?_,?_⟩<;>first | assumption | omega))
  ·refine⟨(fun h=>nomatch h),fun _=>?_⟩
   refine⟨fun hs=>?_,fun _=>?_⟩
   ·simp only[decide_eq_true_eq,ge_iff_le] at hs
    refine⟨0,1,cap,zs,_,_,rfl,⟨rfl,rfl⟩,⟨hz,by omega,by omega⟩,⟨_,rfl,by omega,by omega⟩,?_⟩
    rintro _ k2 ⟨b2,rfl,hk2⟩
    refine⟨fun _=>?_,fun _=>?_⟩
    ·refine⟨fun _=>?_,fun h=>nomatch h⟩
     (refine⟨(⟨_,_,_,_,_,_,_,_,_⟩,_),?_,⟨rfl,rfl,rfl,rfl,rfl,rfl,trivial⟩,⟨rfl,rfl,rfl,rfl,rfl,rfl,rfl,rfl,trivial⟩⟩;dsimp only;(refine⟨⟨by omega,by omega⟩,?_,?_⟩<;>first | assumption | omega))
    ·refine⟨fun _=>?_,fun _=>?_⟩
     ·(refine⟨(⟨_,_,_,_,_,_,_,_,_⟩,_),?_,⟨rfl,rfl,rfl,rfl,rfl,rfl,trivial⟩,⟨rfl,rfl,rfl,rfl,rfl,rfl,rfl,rfl,trivial⟩⟩;dsimp only;(refine⟨⟨by omega,by omega⟩,?_,?_⟩<;>first | assumption | omega))
     ·(refine⟨(⟨_,_,_,_,_,_,_,_,_⟩,_),?_,⟨rfl,rfl,rfl,rfl,rfl,rfl,trivial⟩,⟨rfl,rfl,rfl,rfl,rfl,rfl,rfl,rfl,trivial⟩⟩;dsimp only;(refine⟨⟨by omega,by omega⟩,?_,?_⟩<;>first | assumption | omega))
   ·refine⟨(fun h=>nomatch h),fun _=>?_⟩
    (refine⟨(⟨_,_,_,_,_,_,_,_,_⟩,_),?_,⟨rfl,rfl,rfl,rfl,rfl,rfl,trivial⟩,⟨rfl,rfl,rfl,rfl,rfl,rfl,rfl,rfl,trivial⟩⟩;dsimp only;(refine⟨⟨by omega,by omega⟩,?_,?_⟩<;>first | assumption | omega))
 ·rintro⟨⟨ekind,etick,etenant,ecell,eother,eepoch,esince,etill,en⟩,kk⟩ ⟨hkk,hcell⟩
  refine⟨⟨by decide,rfl,rfl⟩,?_⟩
  simp only at hkk hcell
  refine⟨Ent×Int,fun _=>[],fun y=>match y with | (⟨a1,a2,a3,a4,a5,a6,a7,a8,a9⟩,kk)=>[(0,tapeB 1 zs.length cap kk),(12,.box 56 [.int .i64 a1,.int .i64 a2,.int .i64 a3,.int .i64 a4,.int .i64 a5,.int .i64 a6,.int .i64 a7,.int .i64 a8,.int .i64 a9])],fun y=>(k≤y.2∧y.2≤k+3)∧0≤y.1.cell∧y.1.cell<s.cells.length,?_,?_⟩
  ·refine⟨fun _=>?_,fun _=>?_⟩
   ·refine⟨fun _=>?_,fun h=>nomatch h⟩
    refine⟨fun _=>?_,fun h=>nomatch h⟩
    (refine⟨(⟨_,_,_,_,_,_,_,_,_⟩,_),?_,⟨rfl,rfl,rfl,rfl,rfl,rfl,trivial⟩,⟨rfl,rfl,rfl,rfl,rfl,rfl,rfl,rfl,trivial⟩⟩;dsimp only;(refine⟨⟨by omega,by omega⟩,?_,?_⟩<;>first | assumption | omega))
   ·refine⟨fun _=>?_,fun _=>?_⟩
    ·refine⟨fun _=>?_,fun h=>nomatch h⟩
     (refine⟨(⟨_,_,_,_,_,_,_,_,_⟩,_),?_,⟨rfl,rfl,rfl,rfl,rfl,rfl,trivial⟩,⟨rfl,rfl,rfl,rfl,rfl,rfl,rfl,rfl,trivial⟩⟩;dsimp only;(refine⟨⟨by omega,by omega⟩,?_,?_⟩<;>first | assumption | omega))
    ·refine⟨0,1,cap,zs,_,_,rfl,⟨rfl,rfl⟩,⟨hz,by omega,by omega⟩,⟨_,rfl,by omega,by omega⟩,?_⟩
     rintro _ k3 ⟨b3,rfl,hk3⟩
     refine⟨fun _=>?_,fun _=>?_⟩
     ·(refine⟨(⟨_,_,_,_,_,_,_,_,_⟩,_),?_,⟨rfl,rfl,rfl,rfl,rfl,rfl,trivial⟩,⟨rfl,rfl,rfl,rfl,rfl,rfl,rfl,rfl,trivial⟩⟩;dsimp only;(refine⟨⟨by omega,by omega⟩,?_,?_⟩<;>first | assumption | omega))
     ·(refine⟨(⟨_,_,_,_,_,_,_,_,_⟩,_),?_,⟨rfl,rfl,rfl,rfl,rfl,rfl,trivial⟩,⟨rfl,rfl,rfl,rfl,rfl,rfl,rfl,rfl,trivial⟩⟩;dsimp only;(refine⟨⟨by omega,by omega⟩,?_,?_⟩<;>first | assumption | omega))
  ·rintro⟨⟨ekind,etick,etenant,ecell,eother,eepoch,esince,etill,en⟩,kk⟩ ⟨hkk,hcell⟩
   refine⟨⟨by decide,rfl,rfl⟩,?_⟩
   simp only at hkk hcell
   refine⟨Ent×Int,fun _=>[],fun y=>match y with | (⟨a1,a2,a3,a4,a5,a6,a7,a8,a9⟩,kk)=>[(0,tapeB 1 zs.length cap kk),(12,.box 56 [.int .i64 a1,.int .i64 a2,.int .i64 a3,.int .i64 a4,.int .i64 a5,.int .i64 a6,.int .i64 a7,.int .i64 a8,.int .i64 a9])],fun y=>(k≤y.2∧y.2≤k+4)∧0≤y.1.cell∧y.1.cell<s.cells.length,?_,?_⟩
   ·refine⟨fun _=>?_,fun _=>?_⟩
    ·refine⟨0,1,cap,zs,_,_,rfl,⟨rfl,rfl⟩,⟨hz,by omega,by omega⟩,⟨_,rfl,by omega,by omega⟩,?_⟩
     rintro _ k3 ⟨_,r3,hnn,rfl,⟨hr3,hk3⟩⟩
     cases hnn
     refine⟨fun _=>?_,fun _=>?_⟩
     ·(refine⟨(⟨_,_,_,_,_,_,_,_,_⟩,_),?_,⟨rfl,rfl,rfl,rfl,rfl,rfl,trivial⟩,⟨rfl,rfl,rfl,rfl,rfl,rfl,rfl,rfl,trivial⟩⟩;dsimp only;(refine⟨⟨by omega,by omega⟩,?_,?_⟩<;>first | assumption | omega))
     ·(refine⟨(⟨_,_,_,_,_,_,_,_,_⟩,_),?_,⟨rfl,rfl,rfl,rfl,rfl,rfl,trivial⟩,⟨rfl,rfl,rfl,rfl,rfl,rfl,rfl,rfl,trivial⟩⟩;dsimp only;(refine⟨⟨by omega,by omega⟩,?_,?_⟩<;>first | assumption | omega))
    ·refine⟨(fun h=>nomatch h),fun _=>?_⟩
     (refine⟨(⟨_,_,_,_,_,_,_,_,_⟩,_),?_,⟨rfl,rfl,rfl,rfl,rfl,rfl,trivial⟩,⟨rfl,rfl,rfl,rfl,rfl,rfl,rfl,rfl,trivial⟩⟩;dsimp only;(refine⟨⟨by omega,by omega⟩,?_,?_⟩<;>first | assumption | omega))
   ·rintro⟨⟨ekind,etick,etenant,ecell,eother,eepoch,esince,etill,en⟩,kk⟩ ⟨hkk,hcell⟩
    refine⟨⟨by decide,rfl,rfl⟩,?_⟩
    simp only at hkk hcell
    refine⟨Ent×Int,fun _=>[],fun y=>match y with | (⟨a1,a2,a3,a4,a5,a6,a7,a8,a9⟩,kk)=>[(0,tapeB 1 zs.length cap kk),(12,.box 56 [.int .i64 a1,.int .i64 a2,.int .i64 a3,.int .i64 a4,.int .i64 a5,.int .i64 a6,.int .i64 a7,.int .i64 a8,.int .i64 a9])],fun y=>(k≤y.2∧y.2≤k+6)∧0≤y.1.cell∧y.1.cell<s.cells.length,?_,?_⟩
    ·refine⟨0,1,cap,zs,_,_,rfl,⟨rfl,rfl⟩,⟨hz,by omega,by omega⟩,⟨_,rfl,by omega,by omega⟩,?_⟩
     rintro _ k3 ⟨b3,rfl,hk3⟩
     refine⟨fun _=>?_,fun _=>?_⟩
     ·refine⟨0,1,cap,zs,_,_,rfl,⟨rfl,rfl⟩,⟨hz,by omega,by omega⟩,⟨_,rfl,by omega,by omega⟩,?_⟩
      rintro _ k4 ⟨_,r4,hnn,rfl,⟨hr4,hk4⟩⟩
      cases hnn
      refine⟨⟨rfl,trivial⟩,?_⟩
      (refine⟨(⟨_,_,_,_,_,_,_,_,_⟩,_),?_,⟨rfl,rfl,rfl,rfl,rfl,rfl,trivial⟩,⟨rfl,rfl,rfl,rfl,rfl,rfl,rfl,rfl,trivial⟩⟩;dsimp only;(refine⟨⟨by omega,by omega⟩,?_,?_⟩<;>first | assumption | omega))
     ·(refine⟨(⟨_,_,_,_,_,_,_,_,_⟩,_),?_,⟨rfl,rfl,rfl,rfl,rfl,rfl,trivial⟩,⟨rfl,rfl,rfl,rfl,rfl,rfl,rfl,rfl,trivial⟩⟩;dsimp only;(refine⟨⟨by omega,by omega⟩,?_,?_⟩<;>first | assumption | omega))
    ·rintro⟨⟨ekind,etick,etenant,ecell,eother,eepoch,esince,etill,en⟩,kk⟩ ⟨hkk,hcell⟩
     refine⟨⟨by decide,rfl,rfl⟩,?_⟩
     simp only at hkk hcell
     refine⟨0,1,cap,zs,_,_,rfl,⟨rfl,rfl⟩,⟨hz,by omega,by omega⟩,⟨_,_,rfl,by omega,by omega,by omega⟩,?_⟩
     rintro _ k3 ⟨_,_,r3,hnn,rfl,hr3,hk3⟩
     cases hnn
     refine⟨⟨rfl,rfl,trivial⟩,?_⟩
     refine⟨⟨Nat.le_refl _,by omega,by omega⟩,?_⟩
     refine⟨Ent×Int,fun _=>[],fun y=>match y with | (⟨a1,a2,a3,a4,a5,a6,a7,a8,a9⟩,kk)=>[(0,tapeB 1 zs.length cap kk),(12,.box 56 [.int .i64 a1,.int .i64 a2,.int .i64 a3,.int .i64 a4,.int .i64 a5,.int .i64 a6,.int .i64 a7,.int .i64 a8,.int .i64 a9])],fun y=>(k≤y.2∧y.2≤k+9)∧0≤y.1.cell∧y.1.cell<s.cells.length,?_,?_⟩
     ·refine⟨0,1,cap,zs,_,_,rfl,⟨rfl,rfl⟩,⟨hz,by omega,by omega⟩,⟨_,rfl,by omega,by omega⟩,?_⟩
      rintro _ k5 ⟨b5,rfl,hk5⟩
      refine⟨fun _=>?_,fun _=>?_⟩
      ·refine⟨Ent×Int,fun _=>[],fun y=>match y with | (⟨a1,a2,a3,a4,a5,a6,a7,a8,a9⟩,kk)=>[(0,tapeB 1 zs.length cap kk),(12,.box 56 [.int .i64 a1,.int .i64 a2,.int .i64 a3,.int .i64 a4,.int .i64 a5,.int .i64 a6,.int .i64 a7,.int .i64 a8,.int .i64 a9])],fun y=>(k≤y.2∧y.2≤k+9)∧0≤y.1.cell∧y.1.cell<s.cells.length,?_,?_⟩
       ·refine⟨?_,?_,?_⟩
        ·refine⟨trivial,?_⟩
         refine⟨?_,?_⟩
         ·refine⟨trivial,?_⟩
          refine⟨0,1,cap,zs,_,_,rfl,⟨rfl,rfl⟩,⟨hz,by omega,by omega⟩,⟨_,rfl,by omega,by omega⟩,?_⟩
          rintro _ k4 ⟨_,r4,hnn,rfl,⟨hr4,hk4⟩⟩
          cases hnn
          refine⟨trivial,?_⟩
          refine⟨trivial,?_⟩
          (refine⟨(⟨_,_,_,_,_,_,_,_,_⟩,_),?_,⟨rfl,rfl,rfl,rfl,rfl,rfl,trivial⟩,⟨rfl,rfl,rfl,rfl,rfl,rfl,rfl,rfl,trivial⟩⟩;dsimp only;(refine⟨⟨by omega,by omega⟩,?_,?_⟩<;>first | assumption | omega))
         ·refine⟨0,1,cap,zs,_,_,rfl,⟨rfl,rfl⟩,⟨hz,by omega,by omega⟩,⟨_,rfl,by omega,by omega⟩,?_⟩
          rintro _ k4 ⟨_,r4,hnn,rfl,⟨hr4,hk4⟩⟩
          cases hnn
          refine⟨trivial,?_⟩
          refine⟨trivial,?_⟩
          refine⟨trivial,?_⟩
          (refine⟨(⟨_,_,_,_,_,_,_,_,_⟩,_),?_,⟨rfl,rfl,rfl,rfl,rfl,rfl,trivial⟩,⟨rfl,rfl,rfl,rfl,rfl,rfl,rfl,rfl,trivial⟩⟩;dsimp only;(refine⟨⟨by omega,by omega⟩,?_,?_⟩<;>first | assumption | omega))
        ·refine⟨trivial,?_⟩
         refine⟨?_,?_⟩
         ·refine⟨trivial,?_⟩
          refine⟨0,1,cap,zs,_,_,rfl,⟨rfl,rfl⟩,⟨hz,by omega,by omega⟩,⟨_,rfl,by omega,by omega⟩,?_⟩
          rintro _ k4 ⟨_,r4,hnn,rfl,⟨hr4,hk4⟩⟩
          cases hnn
          refine⟨trivial,?_⟩
          refine⟨trivial,?_⟩
          (refine⟨(⟨_,_,_,_,_,_,_,_,_⟩,_),?_,⟨rfl,rfl,rfl,rfl,rfl,rfl,trivial⟩,⟨rfl,rfl,rfl,rfl,rfl,rfl,rfl,rfl,trivial⟩⟩;dsimp only;(refine⟨⟨by omega,by omega⟩,?_,?_⟩<;>first | assumption | omega))
         ·refine⟨0,1,cap,zs,_,_,rfl,⟨rfl,rfl⟩,⟨hz,by omega,by omega⟩,⟨_,rfl,by omega,by omega⟩,?_⟩
          rintro _ k4 ⟨_,r4,hnn,rfl,⟨hr4,hk4⟩⟩
          cases hnn
          refine⟨trivial,?_⟩
          refine⟨trivial,?_⟩
          refine⟨trivial,?_⟩
          (refine⟨(⟨_,_,_,_,_,_,_,_,_⟩,_),?_,⟨rfl,rfl,rfl,rfl,rfl,rfl,trivial⟩,⟨rfl,rfl,rfl,rfl,rfl,rfl,rfl,rfl,trivial⟩⟩;dsimp only;(refine⟨⟨by omega,by omega⟩,?_,?_⟩<;>first | assumption | omega))
        ·refine⟨0,1,cap,zs,_,_,rfl,⟨rfl,rfl⟩,⟨hz,by omega,by omega⟩,⟨_,rfl,by omega,by omega⟩,?_⟩
         rintro _ k4 ⟨_,r4,hnn,rfl,⟨hr4,hk4⟩⟩
         cases hnn
         refine⟨trivial,?_⟩
         refine⟨?_,?_⟩
         ·refine⟨trivial,?_⟩
          refine⟨trivial,?_⟩
          refine⟨trivial,?_⟩
          (refine⟨(⟨_,_,_,_,_,_,_,_,_⟩,_),?_,⟨rfl,rfl,rfl,rfl,rfl,rfl,trivial⟩,⟨rfl,rfl,rfl,rfl,rfl,rfl,rfl,rfl,trivial⟩⟩;dsimp only;(refine⟨⟨by omega,by omega⟩,?_,?_⟩<;>first | assumption | omega))
         ·refine⟨trivial,?_⟩
          refine⟨trivial,?_⟩
          refine⟨trivial,?_⟩
          (refine⟨(⟨_,_,_,_,_,_,_,_,_⟩,_),?_,⟨rfl,rfl,rfl,rfl,rfl,rfl,trivial⟩,⟨rfl,rfl,rfl,rfl,rfl,rfl,rfl,rfl,trivial⟩⟩;dsimp only;(refine⟨⟨by omega,by omega⟩,?_,?_⟩<;>first | assumption | omega))
       ·rintro⟨⟨ekind,etick,etenant,ecell,eother,eepoch,esince,etill,en⟩,kk⟩ ⟨hkk,hcell⟩
        refine⟨⟨by decide,rfl,rfl⟩,?_⟩
        simp only at hkk hcell
        (refine⟨(⟨_,_,_,_,_,_,_,_,_⟩,_),?_,⟨rfl,rfl,rfl,rfl,rfl,rfl,trivial⟩,⟨rfl,rfl,rfl,rfl,rfl,rfl,rfl,rfl,trivial⟩⟩;dsimp only;(refine⟨⟨by omega,by omega⟩,?_,?_⟩<;>first | assumption | omega))
      ·(refine⟨(⟨_,_,_,_,_,_,_,_,_⟩,_),?_,⟨rfl,rfl,rfl,rfl,rfl,rfl,trivial⟩,⟨rfl,rfl,rfl,rfl,rfl,rfl,rfl,rfl,trivial⟩⟩;dsimp only;(refine⟨⟨by omega,by omega⟩,?_,?_⟩<;>first | assumption | omega))
     ·rintro⟨⟨ekind,etick,etenant,ecell,eother,eepoch,esince,etill,en⟩,kk⟩ ⟨hkk,hcell⟩
      refine⟨⟨by decide,rfl,rfl⟩,?_⟩
      simp only at hkk hcell
      exact⟨kk,⟨⟨⟨_,_,_,_,_,_,_,_,_⟩,rfl⟩,by omega,by omega⟩,pure_ent ⟨_,_,_,_,_,_,_,_,_⟩,rfl⟩
def preGrant (c:Cfg) (s:St) (args:List Value) (k:Int):Prop:=(CfgV c∧StInv c s)∧∃ e,args=[entV' e]∧(0≤e.tenant∧e.tenant<s.tenants.length)∧(tsAt s e.tenant).placed=true
def ctGrant:CT:=ctGen (fun _ _ _ _=>EntR) preGrant
theorem grantOk:CSound Tryz.prog 154 ctGrant:=genOk (by kernel_rfl) (by
  rintro c s args k ⟨-,e,rfl,-⟩ v hv
  simp at hv
  subst hv
  exact pure_ent e) (by
 rintro args g A cap zs k x c y s w hz hk0 hk1 ⟨⟨hV,hI⟩,e,rfl,h0,h1⟩ ht hc hs
 refine gen_calls ggrFok Tryz.func154 rfl (D:=ggrD) (by kernel_rfl) rfl (fun v hv=>by simp at hv;subst hv;exact pure_ent e) g A cap zs k x c y s w ht hc hs (R:=EntR k) ?_
 exact grant_sx cap zs k _ c _ s e hz ⟨hk0,by omega⟩ hV hI h0 h1)
theorem ints_new {C:Ctx} {ρ:Nat→Pl} {fr:AF} {mem:AM} {nx:Nat} {a:Act} {w w':World} (hs:Sat C ρ fr mem nx a w) {l:List Int} {A:Option Addr} {cp:Nat} (ho:w'.ownsRow w.heap.size 3 1 (.slice A l.length cp) l.length (flat intC l)) (hb:Below w.heap.size w w') :
  Sat C (setPl ρ nx ⟨A,1,l.length,false,noSub⟩) fr ((nx,intRow l)::mem) (nx+1) a w'∧den (setPl ρ nx ⟨A,1,l.length,false,noSub⟩) (slc nx l.length cp)=.slice A l.length cp∧okV (setPl ρ nx ⟨A,1,l.length,false,noSub⟩) (nx+1) (slc nx l.length cp):=by
 have hrd:=Rd.of_own ho
 refine⟨hs.add hb (row_of_rd (enc:=intC) (sz:=1) (fun _=>rfl) (by omega) intC_plain 0 (setPl_same _ _ _) hrd (fun b hb=>hb.2)) ?_ rfl,by simp[den,den2,den1,dA_whole,dS_whole,setPl_same],⟨Nat.lt_succ_self nx,by rw[setPl_same]⟩⟩
 intro g hg
 cases A with
 | none=>simp at hg
 | some ad=>
  simp at hg
  subst hg
  exact (ho.lt _ rfl).1
def ctHomes:CT:=fun vs mem nx K=>∃ N x c t,vs=[cfgV N x c,.int .i64 t]∧keeps mem (cfgM N c)∧CfgV c∧∀ (l:List Int) cp,l.length≤16→K (slc nx l.length cp) ((nx,intRow l)::mem) (nx+1)
theorem homesOk:CSound Tryz.prog 152 ctHomes:=⟨by kernel_rfl,fun {C ρ fr mem nx a w vs K} hc hs hv=>by
 obtain⟨N,x,c,t,rfl,hk,hV,hK⟩:=hc
 rw[show [cfgV N x c,.int .i64 t].map (den ρ)=[.agg (cfgC (cfgX ρ N x) c),.int .i64 t] by rw[List.map_cons,den_cfg];rfl]
 refine (r5Homes_any (cfgX ρ N x) c t w hV (hs.cfg hk (fun b hb _=>hb))).mono ?_
 rintro e w' ⟨A,cp,rfl,ho,hb⟩
 obtain⟨h1,h2,h3⟩:=ints_new hs ho hb
 exact⟨_,_,_,_,by rw[h2],hK _ cp (Nat.le_trans (pickK_len _ _) hV.nc.2),h1,h3,ExtS.set _ _ _⟩⟩
def ctStandbys:CT:=fun vs mem nx K=>∃ N x c t h,vs=[cfgV N x c,.int .i64 t,.int .i64 h]∧keeps mem (cfgM N c)∧CfgV c∧∀ (l:List Int) cp,l.length≤16→K (slc nx l.length cp) ((nx,intRow l)::mem) (nx+1)
theorem standbysOk:CSound Tryz.prog 153 ctStandbys:=⟨by kernel_rfl,fun {C ρ fr mem nx a w vs K} hc hs hv=>by
 obtain⟨N,x,c,t,h,rfl,hk,hV,hK⟩:=hc
 rw[show [cfgV N x c,.int .i64 t,.int .i64 h].map (den ρ)=[.agg (cfgC (cfgX ρ N x) c),.int .i64 t,.int .i64 h] by rw[List.map_cons,den_cfg];rfl]
 refine (r5Standbys_any (cfgX ρ N x) c t h w hV (hs.cfg hk (fun b hb _=>hb))).mono ?_
 rintro e w' ⟨A,cp,rfl,ho,hb⟩
 obtain⟨h1,h2,h3⟩:=ints_new hs ho hb
 exact⟨_,_,_,_,by rw[h2],hK _ cp (Nat.le_trans (pickK_len _ _) hV.nc.2),h1,h3,ExtS.set _ _ _⟩⟩
/-! pick -/
theorem pick_sx (cap cp:Nat) (zs l:List Int) (k:Int) (hz:zs.length≤400) (hk:0≤k∧k≤990000) (hl:l.length≤16) :
  sx tt tpF [] (bodyOf Tryz.f151) (argF 0 [ptr 0,slc 2 l.length cp]) [(0,tapeB 1 zs.length cap k),(1,intRow zs),(2,intRow l)] 3
   (endx tt Tryz.f151.results.toList fun v mem' _=>∃ k',(∃ r,v=.int .i64 r∧k≤k'∧k'≤k+1)∧lk mem' 0=some (tapeB 1 zs.length cap k')):=by
 refine⟨fun _=>?_,fun h0=>?_⟩
 ·exact⟨k,⟨_,rfl,by omega,by omega⟩,rfl⟩
 ·have hpos:(l.length:Int)≠0:=by simpa using h0
  refine⟨0,1,cap,zs,_,_,rfl,⟨rfl,rfl⟩,⟨hz,by omega,by omega⟩,⟨_,rfl,by omega,by omega⟩,?_⟩
  rintro _ k1 ⟨_,r1,hnn,rfl,⟨hr1,hk1⟩⟩
  cases hnn
  refine⟨⟨Nat.le_refl _,by omega,by omega⟩,?_⟩
  exact⟨k1,⟨_,rfl,by omega,by omega⟩,rfl⟩
def ctPick:CT:=fun vs mem nx K=>∃ i r cap zs k j cp l,vs=[ptr i,slc j (l:List Int).length cp]∧(lk mem i=some (tapeB r (zs:List Int).length cap k)∧lk mem r=some (intRow zs)∧lk mem j=some (intRow l))∧(zs.length≤400∧0≤k∧k≤990000)∧l.length≤16∧
 ∀ z k',k≤k'∧k'≤k+1→K (.int .i64 z) ((i,tapeB r zs.length cap k')::mem) nx
theorem pickOk:CSound Tryz.prog 151 ctPick:=⟨by kernel_rfl,fun {C ρ fr mem nx a w vs K} hc hs hv=>by
 obtain⟨i,r,cap,zs,k,j,cp,l,rfl,⟨hi,hr,hj⟩,⟨hz,hk0,hk1⟩,hl,hK⟩:=hc
 obtain⟨g,hA,ht,hok⟩:=hs.tape hi hr
 have hrl:=hs.rd (enc:=intC) (sz:=1) (fun _=>rfl) (by omega) hj (S:=fun b=>b≠g∧b<w.heap.size) (fun b hlt hb=>⟨by rintro rfl;exact hb i _ _ hi (by simp[bno,hA]),hlt⟩)
 let σ:Nat→Pl:=fun q=>match q with | 0=>⟨some ⟨g,0,none⟩,0,0,false,noSub⟩ | 1=>⟨(ρ r).A,1,zs.length,false,noSub⟩ | _=>⟨(ρ j).A,1,l.length,false,noSub⟩
 have one:∀ {l:List Int} {Ar:Option Addr},Rd w (fun b=>b≠g∧b<w.heap.size) Ar (flat intC l)→l.length=0∨Ar.map (·.block)≠some g:=by
  intro l Ar hrd
  by_cases h0:l.length=0
  ·exact .inl h0
  ·obtain⟨b,off,x,hA,hb,-,-⟩:=hrd.row (enc:=intC) (sz:=1) (fun _=>rfl) (by omega) (k:=0) (by omega)
   subst hA
   exact .inr (by simp;exact hb.1)
 have hm:=MemAt.one (ρ:=σ) (nx:=3) (nt:=Tryz.f151.ntmps) (w:=w) (mem:=[(1,intRow zs),(2,intRow l)]) (g:=g) (i:=0) (t:=138) (cs:=[slc 1 zs.length cap,.int .i64 k]) trivial (by omega) rfl
  ⟨g,rfl,by
   have:=ht.blk
   simpa [den1,dA_whole,dS_whole,σ] using this,.inr (by simp),fun v hv=>by
    simp at hv
    rcases hv with rfl | rfl
    ·exact⟨show (1:Nat)<3 by decide,rfl⟩
    ·trivial⟩
  ⟨⟨by omega,rfl,row_of_rd (enc:=intC) (sz:=1) (fun _=>rfl) (by omega) intC_plain 0 rfl ht.row (fun b hb=>hb.2)⟩,⟨by omega,rfl,row_of_rd (enc:=intC) (sz:=1) (fun _=>rfl) (by omega) intC_plain 0 rfl hrl (fun b hb=>hb.2)⟩,trivial⟩ (fun q t sz n el hq=>by
   rcases lk_cons hq with⟨rfl,e⟩ | ⟨_,hq⟩
   ·cases e;exact one ht.row
   rcases lk_cons hq with⟨rfl,e⟩ | ⟨_,hq⟩
   ·cases e;exact one hrl
   ·simp[lk] at hq)
 have hvs:[ptr i,slc j l.length cp].map (den ρ)=[ptr 0,slc 2 l.length cp].map (den σ):=by simp[den,den2,den1,dA_whole,dS_whole,hA,σ]
 rw[hvs]
 refine (calls_sx ttOk tpFok mixed Tryz.func151 rfl (D:=[]) (by kernel_rfl) (vs:=[ptr 0,slc 2 l.length cp]) rfl ⟨rfl,rfl⟩ rfl hm (fun v hv=>?_) (pick_sx cap cp zs l k hz ⟨hk0,hk1⟩ hl)).mono ?_
 ·simp at hv
  rcases hv with rfl | rfl
  ·exact⟨⟨show (0:Nat)<3 by decide,rfl⟩,⟨g,0,rfl⟩,fun k hk=>by cases hk⟩
  ·exact⟨show (2:Nat)<3 by decide,rfl⟩
 ·rintro e w' ⟨v,mem',nx',ρ',rfl,⟨k',⟨z,rfl,hkk⟩,hlk⟩,-,hm'⟩
  have e0:ρ' 0=σ 0:=hm'.low 0 (show (0:Nat)<3 by decide)
  have e1:ρ' 1=σ 1:=hm'.low 1 (show (1:Nat)<3 by decide)
  obtain⟨g',hA',hb,-,-⟩:=hm'.blk 0 _ hlk
  rw[e0] at hA'
  cases hA'
  have hgr:w.grownBy w' (some g):=⟨hm'.rest.os,hm'.rest.tape,hm'.rest.output,hm'.rest.size,fun b hlt hne=>hm'.rest.block b hlt (by simp;intro q;exact hne (by rw[q]))⟩
  refine⟨.int .i64 z,_,nx,ρ,rfl,hK z k' hkk,hs.grownBox (cs':=[slc r zs.length cap,.int .i64 k']) hi hA hgr ?_ ?_,trivial,ExtS.refl _ _⟩
  ·simpa [den1,dA_whole,dS_whole,e1,σ] using hb
  ·intro u hu
   simp at hu
   rcases hu with rfl | rfl
   ·exact hok
   ·trivial⟩
def entryF:FT:=[(39,ctNext),(41,ctYes),(149,ctPlatform),(154,ctGrant),(150,ctNone),(151,ctPick),(152,ctHomes),(153,ctStandbys)]
theorem entryFok:FTok Tryz.prog entryF:=ft_cons nextOk (ft_cons yesOk (ft_cons platformOk (ft_cons grantOk (ft_cons noneOk (ft_cons pickOk (ft_cons homesOk (ft_cons standbysOk ft_nil)))))))
def entryD:List (Nat×DQ):=[
 (1,{ k:=5,L:=[11],pre:=[(0,false),(1,false),(2,false),(3,true),(4,false)] }),
 (19,{ k:=5,L:=[13],pre:=[(0,false),(1,false),(2,false),(3,false),(4,true)] }),
 (23,{ k:=5,L:=[13],pre:=[(0,false),(1,false),(2,false),(3,false),(4,true)] }),
 (1000004,{ k:=13,L:=[1,2,3,4,5,6,7,8,9,10,11,12],sl:=[0,4,5,6] }),(1000032,{ k:=15,L:=[12],sl:=[6,11] })]
def EntR2 (zs:List Int) (k:Int) (v:Value) (k':Int):Prop:=(∃ en,v=entV' en)∧k≤k'∧k'≤k+40∧(zs.length≠0→k<k')
set_option maxRecDepth 100000 in
set_option maxHeartbeats 4000000 in
theorem entry_sx (cap:Nat) (zs:List Int) (k:Int) (x:CfgK) (c:Cfg) (y:StK) (s:St) (hz:zs.length≤400) (hk:0≤k∧k≤880000) (hV:CfgV c) (hI:StInv c s) :
  sx tt entryF entryD (bodyOf Tryz.f96) (argF 0 (ptr 0::cfgV CN0 x c::stV SN0 y s::[])) ((0,tapeB 1 zs.length cap k)::(1,intRow zs)::(cfgM CN0 c++stM SN0 s)) 10
   (endx tt Tryz.f96.results.toList fun v mem' _=>∃ k',EntR2 zs k v k'∧pureV v∧lk mem' 0=some (tapeB 1 zs.length cap k')):=by
 have hnc:=hV.nc
 have hnt:=hV.nt
 have hlt:=hI.lt
 have htk:=hI.tick
 refine⟨0,1,cap,zs,_,_,rfl,⟨rfl,rfl⟩,⟨hz,by omega,by omega⟩,⟨_,rfl,by omega,by omega⟩,?_⟩
 rintro _ k1 ⟨_,r1,hnn,rfl,⟨hr1,hk1⟩⟩
 cases hnn
 refine⟨⟨rfl,trivial⟩,?_⟩
 refine⟨Int×Int,fun y=>match y with | (tk,kk)=>[(7,.int .i64 tk)],fun y=>match y with | (tk,kk)=>[(0,tapeB 1 zs.length cap kk)],fun y=>(0≤y.1∧y.1≤2147483648)∧k≤y.2∧y.2≤k+2∧(zs.length≠0→k<y.2),?_,?_⟩
 ·refine⟨0,1,cap,zs,_,_,rfl,⟨rfl,rfl⟩,⟨hz,by omega,by omega⟩,⟨_,rfl,by omega,by omega⟩,?_⟩
  rintro _ k2 ⟨b2,rfl,hk2⟩
  refine⟨fun _=>?_,fun _=>?_⟩
  ·(refine⟨(_,_),?_,⟨rfl,rfl,rfl,rfl,rfl,trivial⟩,⟨rfl,rfl,rfl,rfl,rfl,rfl,rfl,rfl,rfl,rfl,rfl,rfl,rfl,trivial⟩⟩;dsimp only;(split<;>(try rw[wrapi (by omega)] at *)<;>omega))
  ·(refine⟨(_,_),?_,⟨rfl,rfl,rfl,rfl,rfl,trivial⟩,⟨rfl,rfl,rfl,rfl,rfl,rfl,rfl,rfl,rfl,rfl,rfl,rfl,rfl,trivial⟩⟩;dsimp only;(rw[wrapi (by omega)];omega))
 ·rintro⟨tk,kk⟩ ⟨htk,hkk⟩
  refine⟨⟨by decide,rfl,rfl⟩,?_⟩
  dsimp only at htk hkk
  refine⟨fun h0=>?_,fun h0=>?_⟩
  ·refine⟨fun _=>?_,fun h=>nomatch h⟩
   refine⟨0,1,cap,zs,_,CN0,x,c,SN0,y,s,[.int .i64 tk],rfl,⟨rfl,rfl⟩,⟨rfl,rfl,rfl,rfl,rfl,rfl,trivial⟩,⟨rfl,rfl,trivial⟩,⟨hz,by omega,by omega⟩,⟨⟨hV,hI⟩,tk,rfl,htk.1,htk.2⟩,?_⟩
   rintro _ k9 ⟨⟨en,rfl⟩,hk9⟩
   exact⟨k9,⟨⟨en,rfl⟩,by omega,by omega,by omega⟩,pure_ent en,rfl⟩
  ·have hpos:(c.tenants.length:Int)≠0:=by simpa using h0
   refine⟨0,1,cap,zs,_,_,rfl,⟨rfl,rfl⟩,⟨hz,by omega,by omega⟩,⟨_,rfl,by omega,by omega⟩,?_⟩
   rintro _ k8 ⟨b8,rfl,hk8⟩
   refine⟨fun _=>?_,fun _=>?_⟩
   ·refine⟨0,1,cap,zs,_,CN0,x,c,SN0,y,s,[.int .i64 tk],rfl,⟨rfl,rfl⟩,⟨rfl,rfl,rfl,rfl,rfl,rfl,trivial⟩,⟨rfl,rfl,trivial⟩,⟨hz,by omega,by omega⟩,⟨⟨hV,hI⟩,tk,rfl,htk.1,htk.2⟩,?_⟩
    rintro _ k9 ⟨⟨en,rfl⟩,hk9⟩
    exact⟨k9,⟨⟨en,rfl⟩,by omega,by omega,by omega⟩,pure_ent en,rfl⟩
   ·refine⟨0,1,cap,zs,_,_,rfl,⟨rfl,rfl⟩,⟨hz,by omega,by omega⟩,⟨_,rfl,by omega,by omega⟩,?_⟩
    rintro _ k3 ⟨_,r3,hnn,rfl,⟨hr3,hk3⟩⟩
    cases hnn
    refine⟨⟨Nat.le_refl _,by omega,by omega⟩,?_⟩
    obtain⟨t,htd⟩:∃ t,t=s.tenants.getD r3.toNat default:=⟨_,rfl⟩
    refine⟨fun hpl=>?_,fun hpl=>?_⟩
    ·refine⟨_,_,rfl,?_⟩
     refine⟨CN0,x,c,_,rfl,⟨rfl,rfl,rfl,rfl,rfl,rfl,trivial⟩,hV,?_⟩
     intro lH cpH hlH
     refine⟨0,1,cap,zs,_,_,_,_,rfl,⟨rfl,rfl,rfl⟩,⟨hz,by omega,by omega⟩,by assumption,?_⟩
     intro v4 k4 hk4
     refine⟨CN0,x,c,_,_,rfl,⟨rfl,rfl,rfl,rfl,rfl,rfl,trivial⟩,hV,?_⟩
     intro lS cpS hlS
     refine⟨0,1,cap,zs,_,_,_,_,rfl,⟨rfl,rfl,rfl⟩,⟨hz,by omega,by omega⟩,by assumption,?_⟩
     intro v5 k5 hk5
     exact⟨k5,⟨⟨⟨_,_,_,_,_,_,_,_,_⟩,rfl⟩,by omega,by omega,by omega⟩,pure_ent ⟨_,_,_,_,_,_,_,_,_⟩,rfl⟩
    ·replace hpl:(tsAt s r3).placed=true:=by unfold tsAt;simpa using hpl
     refine⟨_,_,rfl,?_⟩
     refine⟨Ent×Int,fun _=>[],fun y=>match y with | (⟨a1,a2,a3,a4,a5,a6,a7,a8,a9⟩,kk)=>[(0,tapeB 1 zs.length cap kk),(14,.box 56 [.int .i64 a1,.int .i64 a2,.int .i64 a3,.int .i64 a4,.int .i64 a5,.int .i64 a6,.int .i64 a7,.int .i64 a8,.int .i64 a9])],fun y=>k≤y.2∧y.2≤k+10∧(zs.length≠0→k<y.2),?_,?_⟩
     ·refine⟨0,1,cap,zs,_,_,rfl,⟨rfl,rfl⟩,⟨hz,by omega,by omega⟩,⟨_,rfl,by omega,by omega⟩,?_⟩
      rintro _ k6 ⟨_,r6,hnn,rfl,⟨hr6,hk6⟩⟩
      cases hnn
      refine⟨fun _=>?_,fun _=>?_⟩
      ·refine⟨⟨rfl,trivial⟩,?_⟩
       (refine⟨(⟨_,_,_,_,_,_,_,_,_⟩,_),?_,⟨rfl,rfl,trivial⟩,⟨rfl,rfl,rfl,trivial⟩⟩;dsimp only;omega)
      refine⟨fun _=>?_,fun _=>?_⟩
      ·refine⟨CN0,x,c,_,_,rfl,⟨rfl,rfl,rfl,rfl,rfl,rfl,trivial⟩,hV,?_⟩
       intro lS cpS hlS
       refine⟨0,1,cap,zs,_,_,_,_,rfl,⟨rfl,rfl,rfl⟩,⟨hz,by omega,by omega⟩,by assumption,?_⟩
       intro v7 k7 hk7
       (refine⟨(⟨_,_,_,_,_,_,_,_,_⟩,_),?_,⟨rfl,rfl,trivial⟩,⟨rfl,rfl,rfl,trivial⟩⟩;dsimp only;omega)
      refine⟨fun _=>?_,fun _=>?_⟩
      ·refine⟨⟨rfl,trivial⟩,?_⟩
       (refine⟨(⟨_,_,_,_,_,_,_,_,_⟩,_),?_,⟨rfl,rfl,trivial⟩,⟨rfl,rfl,rfl,trivial⟩⟩;dsimp only;omega)
      refine⟨fun _=>?_,fun _=>?_⟩
      ·refine⟨CN0,x,c,_,rfl,⟨rfl,rfl,rfl,rfl,rfl,rfl,trivial⟩,hV,?_⟩
       intro lH cpH hlH
       refine⟨0,1,cap,zs,_,_,_,_,rfl,⟨rfl,rfl,rfl⟩,⟨hz,by omega,by omega⟩,by assumption,?_⟩
       intro v7 k7 hk7
       (refine⟨(⟨_,_,_,_,_,_,_,_,_⟩,_),?_,⟨rfl,rfl,trivial⟩,⟨rfl,rfl,rfl,trivial⟩⟩;dsimp only;omega)
      refine⟨fun _=>?_,fun _=>?_⟩
      ·(refine⟨(⟨_,_,_,_,_,_,_,_,_⟩,_),?_,⟨rfl,rfl,trivial⟩,⟨rfl,rfl,rfl,trivial⟩⟩;dsimp only;omega)
      refine⟨fun _=>?_,fun _=>?_⟩
      ·refine⟨fun _=>?_,fun _=>?_⟩
       ·(refine⟨(⟨_,_,_,_,_,_,_,_,_⟩,_),?_,⟨rfl,rfl,trivial⟩,⟨rfl,rfl,rfl,trivial⟩⟩;dsimp only;omega)
       ·(refine⟨(⟨_,_,_,_,_,_,_,_,_⟩,_),?_,⟨rfl,rfl,trivial⟩,⟨rfl,rfl,rfl,trivial⟩⟩;dsimp only;omega)
      refine⟨0,1,cap,zs,_,CN0,x,c,SN0,y,s,[entV' ⟨2,tk,r3,-1,-1,0,0,0,0⟩],rfl,⟨rfl,rfl⟩,⟨rfl,rfl,rfl,rfl,rfl,rfl,trivial⟩,⟨rfl,rfl,trivial⟩,⟨hz,by omega,by omega⟩,⟨⟨hV,hI⟩,⟨2,tk,r3,-1,-1,0,0,0,0⟩,rfl,⟨hr3.1,by show r3<_;omega⟩,hpl⟩,?_⟩
      rintro _ k9 ⟨⟨en,rfl⟩,hk9⟩
      exact⟨k9,⟨⟨en,rfl⟩,by omega,by omega,by omega⟩,pure_ent en,rfl⟩
     ·rintro⟨⟨ekind,etick,etenant,ecell,eother,eepoch,esince,etill,en⟩,k8⟩ hk8
      refine⟨⟨by decide,rfl,rfl⟩,?_⟩
      dsimp only at hk8
      exact⟨k8,⟨⟨⟨_,_,_,_,_,_,_,_,_⟩,rfl⟩,by omega,by omega,by omega⟩,pure_ent ⟨_,_,_,_,_,_,_,_,_⟩,rfl⟩
def ctEntry:CT:=ctGen (fun zs _ _ _=>EntR2 zs) fun c s args k=>(CfgV c∧StInv c s∧k≤880000)∧args=[]
theorem entryOk:CSound Tryz.prog 96 ctEntry:=genOk (by kernel_rfl) (by
  rintro c s args k ⟨-,rfl⟩ v hv
  cases hv) (by
 rintro args g A cap zs k x c y s w hz hk0 hk1 ⟨⟨hV,hI,hk2⟩,rfl⟩ ht hc hs
 refine gen_calls entryFok Tryz.func96 rfl (D:=entryD) (by kernel_rfl) rfl (fun v hv=>by cases hv) g A cap zs k x c y s w ht hc hs (R:=EntR2 zs k) ?_
 exact entry_sx cap zs k _ c _ s hz ⟨hk0,hk2⟩ hV hI)
end Go.Proofs.YtchhdflealgkaaaGreat
