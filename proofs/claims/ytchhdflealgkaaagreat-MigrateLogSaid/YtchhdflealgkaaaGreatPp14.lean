import Derived.Test.YtchhdflealgkaaaGreatPp13
namespace Go.Proofs.YtchhdflealgkaaaGreat
open Go.RowKit
set_option linter.unusedSimpArgs false
set_option linter.unusedVariables false
def othersK (s:St) (k:Int) (n:Nat):Nat:=((List.range n).filter fun (i:Nat)=>decide ((i:Int)≠k)&&openB s.proven (s.cells.getD i default)).length
theorem othersK_succ (s:St) (k:Int) (n:Nat):othersK s k (n+1)=othersK s k n+(if (decide ((n:Int)≠k)&&openB s.proven (s.cells.getD n default))=true then 1 else 0):=by
 unfold othersK
 rw[List.range_succ,List.filter_append,List.length_append]
 congr 1
 by_cases h:(decide ((n:Int)≠k)&&openB s.proven (s.cells.getD n default))=true
 ·rw[if_pos h,List.filter_cons_of_pos (by exact h)];rfl
 ·rw[if_neg h,List.filter_cons_of_neg (by exact h)];rfl
theorem othersK_le (s:St) (k:Int) (n:Nat):othersK s k n≤n:=by
 unfold othersK
 have:=List.length_filter_le (fun (i:Nat)=>decide ((i:Int)≠k)&&openB s.proven (s.cells.getD i default)) (List.range n)
 simpa using this
theorem othersK_all (s:St) (k:Int):othersK s k s.cells.length=others s k:=rfl
set_option maxRecDepth 100000 in
set_option maxHeartbeats 4000000 in
theorem apWant (x:CfgK) (c:Cfg) (y:StK) (s:St) (e:Ent) (hA:ArH c s e) (hk:e.kind=10):sx ttU arF arD (bodyOf Tryz.f94) (argF 0 [cfgV CN1 x c,stV SN1 y s,entV' e]) (rdM c s noS) 10 (endx ttU Tryz.f94.results.toList fun v mem' _=>ApS mem' v (applyR c s e)):=by
 have hV:=hA.cfg
 have hI:=hA.inv
 have hE:=hA.ent
 have hcn:=hA.cnt
 have htk:=hA.tick
 have hlt:=hI.lt
 have hlc:=hI.lc
 have hnt:=hV.nt
 have hnc:=hV.nc
 have hct:=hI.count
 have hst:=hI.tick
 have hev:=hI.evac
 have hpv:=hI.proven
 have htb:=hA.tB
 have hP:kindE c s e=wantE c s e:=by unfold kindE;simp[hk]
 have hf:=hE
 simp[entV,entOk,inS,inR,fT,fC,fO,fE,fW,fN,hk] at hf
 refine⟨CN1,x,c,e,rfl,kp_,hV,?_⟩
 refine⟨fun h=>absurd h (by rw[hE];decide),fun _=>?_⟩
 refine⟨fun h=>absurd (of_decide_eq_true h) (by omega),fun _=>?_⟩
 refine⟨fun h=>absurd (of_decide_eq_true h) (by omega),fun _=>?_⟩
 refine⟨SN1,y,s,rfl,⟨.list rfl,.list rfl⟩,⟨by omega,by omega⟩,?_⟩
 intro y2
 refine⟨fun h=>absurd h (by rw[hk];decide),fun _=>?_⟩
 refine⟨fun h=>absurd h (by rw[hk];decide),fun _=>?_⟩
 refine⟨fun h=>absurd h (by rw[hk];decide),fun _=>?_⟩
 refine⟨fun h=>absurd h (by rw[hk];decide),fun _=>?_⟩
 refine⟨fun h=>absurd h (by rw[hk];decide),fun _=>?_⟩
 refine⟨fun h=>absurd h (by rw[hk];decide),fun _=>?_⟩
 refine⟨fun h=>absurd h (by rw[hk];decide),fun _=>?_⟩
 refine⟨fun h=>absurd h (by rw[hk];decide),fun _=>?_⟩
 refine⟨fun h=>absurd h (by rw[hk];decide),fun _=>?_⟩
 refine⟨fun _=>?_,fun h=>absurd h (by rw[hk];decide)⟩
 rw[wrapi (n:=s.count+1) (by omega)]
 have hi:e.cell.toNat<s.cells.length:=by omega
 have hnv:=hV.nv
 have hvl:e.n<(c.versions.length:Int):=by omega
 refine⟨⟨Nat.le_refl _,by omega,by omega⟩,?_⟩
 refine⟨⟨Nat.le_refl _,by omega,by omega⟩,?_⟩
 refine⟨Int×Int,fun q=>match q with | (i,m)=>[(11,.int .i64 i),(10,.int .i64 m)],fun _=>[],fun q=>match q with | (i,m)=>(0≤i∧i≤s.cells.length)∧m=othersK s e.cell i.toNat,fun q=>match q with | (i,m)=>((s.cells.length:Int)-i).toNat,⟨(0,0),⟨by omega,rfl⟩,kp_,kp_⟩,?_⟩
 rintro⟨i,m⟩ ⟨hi0,hm⟩
 refine⟨⟨rfl,rfl⟩,?_⟩
 refine⟨fun hlt1=>?_,fun hge=>?_⟩
 ·have hlt2:i<(s.cells.length:Int):=of_decide_eq_true hlt1
  have hle:=othersK_le s e.cell i.toNat
  have hii:((i.toNat:Nat):Int)=i:=by omega
  refine⟨Int,fun m=>[(10,.int .i64 m)],fun _=>[],fun m=>m=othersK s e.cell (i.toNat+1),?_,?_⟩
  ·refine⟨fun q1=>?_,fun q1=>?_⟩
   ·refine⟨⟨15,14,0⟩,y2,_,_,⟨e.tick,s.count+1,s.tenants,s.cells,s.proven,s.evac,s.low,s.high⟩,i,rfl,⟨rfl,rfl,.list rfl,.list rfl⟩,⟨by dsimp only;omega,by dsimp only;omega⟩,?_⟩
    refine⟨fun q2=>?_,fun q2=>?_⟩
    ·replace q2:(openB s.proven (s.cells.getD i.toNat default))=true:=q2
     refine⟨_,?_,kp_,kp_⟩
     dsimp only
     rw[othersK_succ,hii]
     rw[wrapi (n:=m+1) (by omega),if_pos (by grind)]
     omega
    ·replace q2:(openB s.proven (s.cells.getD i.toNat default))=false:=q2
     refine⟨_,?_,kp_,kp_⟩
     dsimp only
     rw[othersK_succ,hii]
     rw[if_neg (by grind)]
     omega
   ·refine⟨fun h=>Bool.noConfusion h,fun _=>?_⟩
    refine⟨_,?_,kp_,kp_⟩
    dsimp only
    rw[othersK_succ,hii]
    rw[if_neg (by grind)]
    omega
  ·rintro m2 hm2
   refine⟨⟨by decide,rfl,rfl⟩,?_⟩
   refine⟨(_,m2),?_,kp_,kp_⟩
   dsimp only
   rw[wrapi (n:=i+1) (by omega)]
   refine⟨⟨by omega,?_⟩,by omega⟩
   rw[show (i+1).toNat=i.toNat+1 by omega]
   exact hm2
 ·have hge2:¬ i<(s.cells.length:Int):=of_decide_eq_false hge
  rw[show i.toNat=s.cells.length by omega,othersK_all] at hm
  refine⟨fun h1=>?_,fun h1=>?_⟩
  ·repeat (first | refine⟨fun _=>?_,fun h=>Bool.noConfusion h⟩ | refine⟨fun h=>Bool.noConfusion h,fun _=>?_⟩ | fail)
   refine⟨4,rfl,?_⟩
   exact ApS.err (hA.err (by rw[hP];unfold wantE csAt verAt;grind) (by decide))
  ·refine⟨Bool,fun b=>[(52,.bool b)],fun _=>[],fun b=>(b=true↔(s.low<(c.versions.getD e.n.toNat (0,0)).1∨(c.versions.getD e.n.toNat (0,0)).2<s.high)),?_,?_⟩
   ·repeat' (first | refine⟨fun _=>?_,fun h=>Bool.noConfusion h⟩ | refine⟨fun h=>Bool.noConfusion h,fun _=>?_⟩ | refine⟨fun _=>?_,fun _=>?_⟩ | refine⟨⟨Nat.le_refl _,by omega,by omega⟩,?_⟩ | fail)
    all_goals (refine⟨_,?_,kp_,kp_⟩;dsimp only;grind)
   ·rintro b1 hb1
    refine⟨⟨by decide,rfl,rfl⟩,?_⟩
    refine⟨fun h2=>?_,fun h2=>?_⟩
    ·repeat (first | refine⟨fun _=>?_,fun h=>Bool.noConfusion h⟩ | refine⟨fun h=>Bool.noConfusion h,fun _=>?_⟩ | fail)
     refine⟨13,rfl,?_⟩
     exact ApS.err (hA.err (by rw[hP];unfold wantE csAt verAt;grind) (by decide))
    ·refine⟨Bool,fun b=>[(68,.bool b)],fun _=>[],fun b=>(b=true↔(¬ e.n=(s.cells.getD e.cell.toNat default).running∧hasB s.proven e.n=false∧¬ s.evac=0)),?_,?_⟩
     ·repeat' (first | refine⟨fun _=>?_,fun h=>Bool.noConfusion h⟩ | refine⟨fun h=>Bool.noConfusion h,fun _=>?_⟩ | refine⟨fun _=>?_,fun _=>?_⟩ | refine⟨⟨Nat.le_refl _,by omega,by omega⟩,?_⟩ | refine⟨⟨15,14,0⟩,y2,_,_,⟨e.tick,s.count+1,s.tenants,s.cells,s.proven,s.evac,s.low,s.high⟩,e.n,rfl,⟨rfl,rfl,.list rfl,.list rfl⟩,(by dsimp only;omega),(show keeps _ _ from kp_),?_⟩ | refine⟨⟨15,14,0⟩,y2,_,_,⟨e.tick,s.count+1,s.tenants,s.cells,s.proven,s.evac,s.low,s.high⟩,e.n,rfl,⟨rfl,rfl,.list rfl,.list rfl⟩,(by dsimp only;omega),?_⟩ | fail)
      all_goals (refine⟨_,?_,kp_,kp_⟩;dsimp only;grind)
     ·rintro b2 hb2
      refine⟨⟨by decide,rfl,rfl⟩,?_⟩
      refine⟨fun h3=>?_,fun h3=>?_⟩
      ·repeat (first | refine⟨fun _=>?_,fun h=>Bool.noConfusion h⟩ | refine⟨fun h=>Bool.noConfusion h,fun _=>?_⟩ | fail)
       refine⟨12,rfl,?_⟩
       exact ApS.err (hA.err (by rw[hP];unfold wantE csAt verAt;grind) (by decide))
      ·refine⟨Bool,fun b=>[(91,.bool b)],fun _=>[],fun b=>(b=true↔(¬ e.n=(s.cells.getD e.cell.toNat default).running∧hasB s.proven e.n=false∧c.blast≤m)),?_,?_⟩
       ·repeat' (first | refine⟨fun _=>?_,fun h=>Bool.noConfusion h⟩ | refine⟨fun h=>Bool.noConfusion h,fun _=>?_⟩ | refine⟨fun _=>?_,fun _=>?_⟩ | refine⟨⟨Nat.le_refl _,by omega,by omega⟩,?_⟩ | refine⟨⟨15,14,0⟩,y2,_,_,⟨e.tick,s.count+1,s.tenants,s.cells,s.proven,s.evac,s.low,s.high⟩,e.n,rfl,⟨rfl,rfl,.list rfl,.list rfl⟩,(by dsimp only;omega),(show keeps _ _ from kp_),?_⟩ | refine⟨⟨15,14,0⟩,y2,_,_,⟨e.tick,s.count+1,s.tenants,s.cells,s.proven,s.evac,s.low,s.high⟩,e.n,rfl,⟨rfl,rfl,.list rfl,.list rfl⟩,(by dsimp only;omega),?_⟩ | fail)
        all_goals (refine⟨_,?_,kp_,kp_⟩;dsimp only;grind)
       ·rintro b3 hb3
        refine⟨⟨by decide,rfl,rfl⟩,?_⟩
        refine⟨fun h4=>?_,fun h4=>?_⟩
        ·repeat (first | refine⟨fun _=>?_,fun h=>Bool.noConfusion h⟩ | refine⟨fun h=>Bool.noConfusion h,fun _=>?_⟩ | fail)
         refine⟨14,rfl,?_⟩
         exact ApS.err (hA.err (by rw[hP];unfold wantE csAt verAt;grind) (by decide))
        ·refine⟨csC { (s.cells.getD e.cell.toNat default) with wanted:=e.n },(by first | rfl | (show putN _ _ (csC (List.getD _ _ _))=_;rw[getD_set hi];rfl)),?_⟩
         rw[setEl_set (by first | exact hi | (rw[List.length_set];exact hi))]
         try rw[List.set_set]
         have hk0:kindE c s e=0:=by rw[hP];unfold wantE csAt verAt;grind
         have heff:effOf s e=(⟨e.tick,s.count+1,s.tenants,s.cells.set e.cell.toNat { (s.cells.getD e.cell.toNat default) with wanted:=e.n },s.proven,s.evac,s.low,s.high⟩:St):=by simp[effOf,stamped,setTen,setCel,tenEff,celEff,tsAt,csAt,hk]
         exact ApS.ok (M:=⟨15,14,0⟩) (y:=y2) (s:=(⟨e.tick,s.count+1,s.tenants,s.cells.set e.cell.toNat { (s.cells.getD e.cell.toNat default) with wanted:=e.n },s.proven,s.evac,s.low,s.high⟩:St)) (by rw[hA.fine hk0 (fun q=>absurd q (by unfold fitsB;simp[hk])),heff]) (by first | rfl | (simp)) (by first | rfl | (simp)) ⟨_,_,_,rfl,rfl,(by first | exact Nat.le_refl _ | (simp)),fun k hk=>rfl⟩ ⟨_,_,_,rfl,rfl,(by first | exact Nat.le_refl _ | (simp)),fun k hk=>rfl⟩
set_option maxRecDepth 100000 in
set_option maxHeartbeats 4000000 in
theorem apRuns (x:CfgK) (c:Cfg) (y:StK) (s:St) (e:Ent) (hA:ArH c s e) (hk:e.kind=11):sx ttU arF arD (bodyOf Tryz.f94) (argF 0 [cfgV CN1 x c,stV SN1 y s,entV' e]) (rdM c s noS) 10 (endx ttU Tryz.f94.results.toList fun v mem' _=>ApS mem' v (applyR c s e)):=by
 have hV:=hA.cfg
 have hI:=hA.inv
 have hE:=hA.ent
 have hcn:=hA.cnt
 have htk:=hA.tick
 have hlt:=hI.lt
 have hlc:=hI.lc
 have hnt:=hV.nt
 have hnc:=hV.nc
 have hct:=hI.count
 have hst:=hI.tick
 have hev:=hI.evac
 have hpv:=hI.proven
 have htb:=hA.tB
 have hP:kindE c s e=runsE s e:=by unfold kindE;simp[hk]
 have hf:=hE
 simp[entV,entOk,inS,inR,fT,fC,fO,fE,fW,fN,hk] at hf
 refine⟨CN1,x,c,e,rfl,kp_,hV,?_⟩
 refine⟨fun h=>absurd h (by rw[hE];decide),fun _=>?_⟩
 refine⟨fun h=>absurd (of_decide_eq_true h) (by omega),fun _=>?_⟩
 refine⟨fun h=>absurd (of_decide_eq_true h) (by omega),fun _=>?_⟩
 refine⟨SN1,y,s,rfl,⟨.list rfl,.list rfl⟩,⟨by omega,by omega⟩,?_⟩
 intro y2
 refine⟨fun h=>absurd h (by rw[hk];decide),fun _=>?_⟩
 refine⟨fun h=>absurd h (by rw[hk];decide),fun _=>?_⟩
 refine⟨fun h=>absurd h (by rw[hk];decide),fun _=>?_⟩
 refine⟨fun h=>absurd h (by rw[hk];decide),fun _=>?_⟩
 refine⟨fun h=>absurd h (by rw[hk];decide),fun _=>?_⟩
 refine⟨fun h=>absurd h (by rw[hk];decide),fun _=>?_⟩
 refine⟨fun h=>absurd h (by rw[hk];decide),fun _=>?_⟩
 refine⟨fun h=>absurd h (by rw[hk];decide),fun _=>?_⟩
 refine⟨fun h=>absurd h (by rw[hk];decide),fun _=>?_⟩
 refine⟨fun h=>absurd h (by rw[hk];decide),fun _=>?_⟩
 refine⟨fun _=>?_,fun h=>absurd h (by rw[hk];decide)⟩
 rw[wrapi (n:=s.count+1) (by omega)]
 have hi:e.cell.toNat<s.cells.length:=by omega
 refine⟨⟨Nat.le_refl _,by omega,by omega⟩,?_⟩
 refine⟨Bool,fun b=>[(14,.bool b)],fun _=>[],fun b=>(b=true↔(¬ e.n=(s.cells.getD e.cell.toNat default).wanted∨(s.cells.getD e.cell.toNat default).running=(s.cells.getD e.cell.toNat default).wanted)),?_,?_⟩
 ·repeat' (first | refine⟨fun _=>?_,fun h=>Bool.noConfusion h⟩ | refine⟨fun h=>Bool.noConfusion h,fun _=>?_⟩ | refine⟨fun _=>?_,fun _=>?_⟩ | refine⟨⟨Nat.le_refl _,by omega,by omega⟩,?_⟩ | fail)
  all_goals (refine⟨_,?_,kp_,kp_⟩;dsimp only;grind)
 ·rintro b1 hb1
  refine⟨⟨by decide,rfl,rfl⟩,?_⟩
  refine⟨fun h1=>?_,fun h1=>?_⟩
  ·repeat (first | refine⟨fun _=>?_,fun h=>Bool.noConfusion h⟩ | refine⟨fun h=>Bool.noConfusion h,fun _=>?_⟩ | fail)
   refine⟨4,rfl,?_⟩
   exact ApS.err (hA.err (by rw[hP];unfold runsE csAt;grind) (by decide))
  ·refine⟨Bool,fun b=>[(36,.bool b)],fun _=>[],fun b=>(b=true↔(hasB s.proven e.n=false∧¬ s.evac=0)),?_,?_⟩
   ·repeat' (first | refine⟨fun _=>?_,fun h=>Bool.noConfusion h⟩ | refine⟨fun h=>Bool.noConfusion h,fun _=>?_⟩ | refine⟨fun _=>?_,fun _=>?_⟩ | refine⟨⟨Nat.le_refl _,by omega,by omega⟩,?_⟩ | refine⟨⟨15,14,0⟩,y2,_,_,⟨e.tick,s.count+1,s.tenants,s.cells,s.proven,s.evac,s.low,s.high⟩,e.n,rfl,⟨rfl,rfl,.list rfl,.list rfl⟩,(by dsimp only;omega),?_⟩ | fail)
    all_goals (refine⟨_,?_,kp_,kp_⟩;dsimp only;grind)
   ·rintro b2 hb2
    refine⟨⟨by decide,rfl,rfl⟩,?_⟩
    refine⟨fun h2=>?_,fun h2=>?_⟩
    ·repeat (first | refine⟨fun _=>?_,fun h=>Bool.noConfusion h⟩ | refine⟨fun h=>Bool.noConfusion h,fun _=>?_⟩ | fail)
     refine⟨12,rfl,?_⟩
     exact ApS.err (hA.err (by rw[hP];unfold runsE csAt;grind) (by decide))
    ·refine⟨Int,fun i=>[(7,.int .i64 i)],fun _=>[],fun i=>(0≤i∧i≤s.tenants.length)∧∀ j:Nat,(j:Int)<i→¬ ((s.tenants.getD j default).win.cell=e.cell∧e.tick<(s.tenants.getD j default).win.till),fun i=>((s.tenants.length:Int)-i).toNat,⟨0,⟨by omega,fun j hj=>absurd hj (by omega)⟩,kp_,kp_⟩,?_⟩
     rintro i ⟨hi0,hno⟩
     refine⟨⟨rfl,rfl⟩,?_⟩
     refine⟨fun hlt1=>?_,fun hge=>?_⟩
     ·have hlt2:i<(s.tenants.length:Int):=of_decide_eq_true hlt1
      have hii:i.toNat<s.tenants.length:=by omega
      refine⟨⟨Nat.le_refl _,hi0.1,hlt2⟩,?_⟩
      refine⟨Bool,fun b=>[(74,.bool b)],fun _=>[],fun b=>(b=true↔((s.tenants.getD i.toNat default).win.cell=e.cell∧e.tick<(s.tenants.getD i.toNat default).win.till)),?_,?_⟩
      ·repeat' (first | refine⟨fun _=>?_,fun h=>Bool.noConfusion h⟩ | refine⟨fun h=>Bool.noConfusion h,fun _=>?_⟩ | refine⟨fun _=>?_,fun _=>?_⟩ | refine⟨⟨Nat.le_refl _,by omega,by omega⟩,?_⟩ | fail)
       all_goals (refine⟨_,?_,kp_,kp_⟩;dsimp only;grind)
      ·rintro b3 hb3
       refine⟨⟨by decide,rfl,rfl⟩,?_⟩
       refine⟨fun h3=>?_,fun h3=>?_⟩
       ·have hpp:=hb3.1 h3
        have hany:s.tenants.any (fun t=>decide (t.win.cell=e.cell)&&decide (e.tick<t.win.till))=true:=List.any_eq_true.2 ⟨_,List.mem_of_getElem? (getD_get (d:=default) hii),by simp only[Bool.and_eq_true,decide_eq_true_eq];exact hpp⟩
        repeat (first | refine⟨fun _=>?_,fun h=>Bool.noConfusion h⟩ | refine⟨fun h=>Bool.noConfusion h,fun _=>?_⟩ | fail)
        refine⟨9,rfl,?_⟩
        exact ApS.err (hA.err (by rw[hP];unfold runsE csAt;grind) (by decide))
       ·refine⟨_,?_,kp_,kp_⟩
        dsimp only
        rw[wrapi (n:=i+1) (by omega)]
        refine⟨⟨by omega,fun j hj=>?_⟩,by omega⟩
        by_cases hji:(j:Int)<i
        ·exact hno j hji
        ·obtain rfl:j=i.toNat:=by omega
         grind
     ·have hge2:¬ i<(s.tenants.length:Int):=of_decide_eq_false hge
      have hall:∀ j:Nat,j<s.tenants.length→¬ ((s.tenants.getD j default).win.cell=e.cell∧e.tick<(s.tenants.getD j default).win.till):=fun j hj=>hno j (by omega)
      have hany:s.tenants.any (fun t=>decide (t.win.cell=e.cell)&&decide (e.tick<t.win.till))=false:=by
       rw[List.any_eq_false]
       intro z hz
       obtain⟨j,hj,rfl⟩:=List.getElem_of_mem hz
       have:=hall j hj
       have hje:s.tenants.getD j default=s.tenants[j]:=getD_some (List.getElem?_eq_getElem hj)
       simp only[hje] at this
       simpa using this
      refine⟨csC { (s.cells.getD e.cell.toNat default) with running:=e.n },(by first | rfl | (show putN _ _ (csC (List.getD _ _ _))=_;rw[getD_set hi];rfl)),?_⟩
      rw[setEl_set (by first | exact hi | (rw[List.length_set];exact hi))]
      try rw[List.set_set]
      refine⟨kp_,?_⟩
      refine⟨csC { (s.cells.getD e.cell.toNat default) with running:=e.n,since:=e.tick },(by first | rfl | (show putN _ _ (csC (List.getD _ _ _))=_;rw[getD_set hi];rfl)),?_⟩
      rw[setEl_set (by first | exact hi | (rw[List.length_set];exact hi))]
      try rw[List.set_set]
      have hk0:kindE c s e=0:=by rw[hP];unfold runsE csAt;grind
      have heff:effOf s e=(⟨e.tick,s.count+1,s.tenants,s.cells.set e.cell.toNat { (s.cells.getD e.cell.toNat default) with running:=e.n,since:=e.tick },s.proven,s.evac,s.low,s.high⟩:St):=by simp[effOf,stamped,setTen,setCel,tenEff,celEff,tsAt,csAt,hk]
      exact ApS.ok (M:=⟨15,14,0⟩) (y:=y2) (s:=(⟨e.tick,s.count+1,s.tenants,s.cells.set e.cell.toNat { (s.cells.getD e.cell.toNat default) with running:=e.n,since:=e.tick },s.proven,s.evac,s.low,s.high⟩:St)) (by rw[hA.fine hk0 (fun q=>absurd q (by unfold fitsB;simp[hk])),heff]) (by first | rfl | (simp)) (by first | rfl | (simp)) ⟨_,_,_,rfl,rfl,(by first | exact Nat.le_refl _ | (simp)),fun k hk=>rfl⟩ ⟨_,_,_,rfl,rfl,(by first | exact Nat.le_refl _ | (simp)),fun k hk=>rfl⟩
set_option maxRecDepth 100000 in
set_option maxHeartbeats 4000000 in
theorem apProve (x:CfgK) (c:Cfg) (y:StK) (s:St) (e:Ent) (hA:ArH c s e) (hk:e.kind=12):sx ttU arF arD (bodyOf Tryz.f94) (argF 0 [cfgV CN1 x c,stV SN1 y s,entV' e]) (rdM c s noS) 10 (endx ttU Tryz.f94.results.toList fun v mem' _=>ApS mem' v (applyR c s e)):=by
 have hV:=hA.cfg
 have hI:=hA.inv
 have hE:=hA.ent
 have hcn:=hA.cnt
 have htk:=hA.tick
 have hlt:=hI.lt
 have hlc:=hI.lc
 have hnt:=hV.nt
 have hnc:=hV.nc
 have hct:=hI.count
 have hst:=hI.tick
 have hev:=hI.evac
 have hpv:=hI.proven
 have htb:=hA.tB
 have hP:kindE c s e=proveE c s e:=by unfold kindE;simp[hk]
 have hf:=hE
 simp[entV,entOk,inS,inR,fT,fC,fO,fE,fW,fN,hk] at hf
 refine⟨CN1,x,c,e,rfl,kp_,hV,?_⟩
 refine⟨fun h=>absurd h (by rw[hE];decide),fun _=>?_⟩
 refine⟨fun h=>absurd (of_decide_eq_true h) (by omega),fun _=>?_⟩
 refine⟨fun h=>absurd (of_decide_eq_true h) (by omega),fun _=>?_⟩
 refine⟨SN1,y,s,rfl,⟨.list rfl,.list rfl⟩,⟨by omega,by omega⟩,?_⟩
 intro y2
 refine⟨fun h=>absurd h (by rw[hk];decide),fun _=>?_⟩
 refine⟨fun h=>absurd h (by rw[hk];decide),fun _=>?_⟩
 refine⟨fun h=>absurd h (by rw[hk];decide),fun _=>?_⟩
 refine⟨fun h=>absurd h (by rw[hk];decide),fun _=>?_⟩
 refine⟨fun h=>absurd h (by rw[hk];decide),fun _=>?_⟩
 refine⟨fun h=>absurd h (by rw[hk];decide),fun _=>?_⟩
 refine⟨fun h=>absurd h (by rw[hk];decide),fun _=>?_⟩
 refine⟨fun h=>absurd h (by rw[hk];decide),fun _=>?_⟩
 refine⟨fun h=>absurd h (by rw[hk];decide),fun _=>?_⟩
 refine⟨fun h=>absurd h (by rw[hk];decide),fun _=>?_⟩
 refine⟨fun h=>absurd h (by rw[hk];decide),fun _=>?_⟩
 refine⟨fun _=>?_,fun h=>absurd h (by rw[hk];decide)⟩
 rw[wrapi (n:=s.count+1) (by omega)]
 have hnv:=hV.nv
 refine⟨⟨15,14,0⟩,y2,_,_,⟨e.tick,s.count+1,s.tenants,s.cells,s.proven,s.evac,s.low,s.high⟩,e.n,rfl,⟨rfl,rfl,.list rfl,.list rfl⟩,(by dsimp only;omega),?_⟩
 refine⟨fun h1=>?_,fun h1=>?_⟩
 ·repeat (first | refine⟨fun _=>?_,fun h=>Bool.noConfusion h⟩ | refine⟨fun h=>Bool.noConfusion h,fun _=>?_⟩ | fail)
  refine⟨4,rfl,?_⟩
  exact ApS.err (hA.err (by rw[hP];unfold proveE;grind) (by decide))
 ·refine⟨Int,fun i=>[(8,.int .i64 i)],fun _=>[],fun i=>(0≤i∧i≤s.cells.length)∧∀ j:Nat,(j:Int)<i→¬ (¬ (s.cells.getD j default).mode=3∧(s.cells.getD j default).running=e.n∧(s.cells.getD j default).wanted=e.n∧c.bake≤e.tick-(s.cells.getD j default).since),fun i=>((s.cells.length:Int)-i).toNat,⟨0,⟨by omega,fun j hj=>absurd hj (by omega)⟩,kp_,kp_⟩,?_⟩
  rintro i ⟨hi0,hno⟩
  refine⟨⟨rfl,rfl⟩,?_⟩
  refine⟨fun hlt1=>?_,fun hge=>?_⟩
  ·have hlt2:i<(s.cells.length:Int):=of_decide_eq_true hlt1
   have hii:i.toNat<s.cells.length:=by omega
   have hcs:=(hI.cel _ (List.mem_of_getElem? (getD_get (d:=default) hii))).since
   have hw:IntKind.i64.wrap (e.tick-(s.cells.getD i.toNat default).since)=e.tick-(s.cells.getD i.toNat default).since:=wrapi (by omega)
   refine⟨⟨Nat.le_refl _,hi0.1,hlt2⟩,?_⟩
   refine⟨Bool,fun b=>[(55,.bool b)],fun _=>[],fun b=>(b=true↔(¬ (s.cells.getD i.toNat default).mode=3∧(s.cells.getD i.toNat default).running=e.n∧(s.cells.getD i.toNat default).wanted=e.n∧c.bake≤e.tick-(s.cells.getD i.toNat default).since)),?_,?_⟩
   ·repeat' (first | refine⟨fun _=>?_,fun h=>Bool.noConfusion h⟩ | refine⟨fun h=>Bool.noConfusion h,fun _=>?_⟩ | refine⟨fun _=>?_,fun _=>?_⟩ | refine⟨⟨Nat.le_refl _,by omega,by omega⟩,?_⟩ | fail)
    all_goals (refine⟨_,?_,kp_,kp_⟩;dsimp only;grind)
   ·rintro b3 hb3
    refine⟨⟨by decide,rfl,rfl⟩,?_⟩
    refine⟨fun h3=>?_,fun h3=>?_⟩
    ·have hpp:=hb3.1 h3
     have hany:s.cells.any (bakedB c e)=true:=List.any_eq_true.2 ⟨_,List.mem_of_getElem? (getD_get (d:=default) hii),by unfold bakedB;simp only[Bool.and_eq_true,decide_eq_true_eq];exact⟨⟨⟨hpp.1,hpp.2.1⟩,hpp.2.2.1⟩,hpp.2.2.2⟩⟩
     refine⟨u64_nonneg _ (by omega) (by omega),?_⟩
     have hx:=orRaw_eq s.proven e.n (by omega) (by omega) (by omega) (by omega)
     have hk0:kindE c s e=0:=by rw[hP];unfold proveE;grind
     have heff:effOf s e=(⟨e.tick,s.count+1,s.tenants,s.cells,orBit s.proven e.n,s.evac,s.low,s.high⟩:St):=by simp[effOf,stamped,setTen,setCel,tenEff,celEff,tsAt,csAt,hk]
     exact ApS.ok (M:=⟨15,14,0⟩) (y:=y2) (s:=(⟨e.tick,s.count+1,s.tenants,s.cells,orRaw s.proven e.n,s.evac,s.low,s.high⟩:St)) (by rw[hA.fine hk0 (fun q=>absurd q (by unfold fitsB;simp[hk])),heff,← hx]) rfl rfl ⟨_,_,_,rfl,rfl,Nat.le_refl _,fun k hk=>rfl⟩ ⟨_,_,_,rfl,rfl,Nat.le_refl _,fun k hk=>rfl⟩
    ·refine⟨_,?_,kp_,kp_⟩
     dsimp only
     rw[wrapi (n:=i+1) (by omega)]
     refine⟨⟨by omega,fun j hj=>?_⟩,by omega⟩
     by_cases hji:(j:Int)<i
     ·exact hno j hji
     ·obtain rfl:j=i.toNat:=by omega
      grind
  ·have hge2:¬ i<(s.cells.length:Int):=of_decide_eq_false hge
   have hall:∀ j:Nat,j<s.cells.length→¬ (¬ (s.cells.getD j default).mode=3∧(s.cells.getD j default).running=e.n∧(s.cells.getD j default).wanted=e.n∧c.bake≤e.tick-(s.cells.getD j default).since):=fun j hj=>hno j (by omega)
   have hany:s.cells.any (bakedB c e)=false:=by
    rw[List.any_eq_false]
    intro z hz
    obtain⟨j,hj,rfl⟩:=List.getElem_of_mem hz
    have:=hall j hj
    have hje:s.cells.getD j default=s.cells[j]:=getD_some (List.getElem?_eq_getElem hj)
    simp only[hje] at this
    intro q;unfold bakedB at q;simp only[Bool.and_eq_true,decide_eq_true_eq] at q;exact this ⟨q.1.1.1,q.1.1.2,q.1.2,q.2⟩
   repeat (first | refine⟨fun _=>?_,fun h=>Bool.noConfusion h⟩ | refine⟨fun h=>Bool.noConfusion h,fun _=>?_⟩ | fail)
   refine⟨15,rfl,?_⟩
   exact ApS.err (hA.err (by rw[hP];unfold proveE;grind) (by decide))
set_option maxRecDepth 100000 in
set_option maxHeartbeats 4000000 in
theorem apExpand (x:CfgK) (c:Cfg) (y:StK) (s:St) (e:Ent) (hA:ArH c s e) (hk:e.kind=14):sx ttU arF arD (bodyOf Tryz.f94) (argF 0 [cfgV CN1 x c,stV SN1 y s,entV' e]) (rdM c s noS) 10 (endx ttU Tryz.f94.results.toList fun v mem' _=>ApS mem' v (applyR c s e)):=by
 have hV:=hA.cfg
 have hI:=hA.inv
 have hE:=hA.ent
 have hcn:=hA.cnt
 have htk:=hA.tick
 have hlt:=hI.lt
 have hlc:=hI.lc
 have hnt:=hV.nt
 have hnc:=hV.nc
 have hct:=hI.count
 have hst:=hI.tick
 have hev:=hI.evac
 have hpv:=hI.proven
 have htb:=hA.tB
 have hP:kindE c s e=expandE c s:=by unfold kindE;simp[hk]
 have hf:=hE
 simp[entV,entOk,inS,inR,fT,fC,fO,fE,fW,fN,hk] at hf
 refine⟨CN1,x,c,e,rfl,kp_,hV,?_⟩
 refine⟨fun h=>absurd h (by rw[hE];decide),fun _=>?_⟩
 refine⟨fun h=>absurd (of_decide_eq_true h) (by omega),fun _=>?_⟩
 refine⟨fun h=>absurd (of_decide_eq_true h) (by omega),fun _=>?_⟩
 refine⟨SN1,y,s,rfl,⟨.list rfl,.list rfl⟩,⟨by omega,by omega⟩,?_⟩
 intro y2
 refine⟨fun h=>absurd h (by rw[hk];decide),fun _=>?_⟩
 refine⟨fun h=>absurd h (by rw[hk];decide),fun _=>?_⟩
 refine⟨fun h=>absurd h (by rw[hk];decide),fun _=>?_⟩
 refine⟨fun h=>absurd h (by rw[hk];decide),fun _=>?_⟩
 refine⟨fun h=>absurd h (by rw[hk];decide),fun _=>?_⟩
 refine⟨fun h=>absurd h (by rw[hk];decide),fun _=>?_⟩
 refine⟨fun h=>absurd h (by rw[hk];decide),fun _=>?_⟩
 refine⟨fun h=>absurd h (by rw[hk];decide),fun _=>?_⟩
 refine⟨fun h=>absurd h (by rw[hk];decide),fun _=>?_⟩
 refine⟨fun h=>absurd h (by rw[hk];decide),fun _=>?_⟩
 refine⟨fun h=>absurd h (by rw[hk];decide),fun _=>?_⟩
 refine⟨fun h=>absurd h (by rw[hk];decide),fun _=>?_⟩
 refine⟨fun h=>absurd h (by rw[hk];decide),fun _=>?_⟩
 refine⟨fun _=>?_,fun h=>absurd h (by rw[hk];decide)⟩
 rw[wrapi (n:=s.count+1) (by omega)]
 refine⟨fun h1=>?_,fun h1=>?_⟩
 ·repeat (first | refine⟨fun _=>?_,fun h=>Bool.noConfusion h⟩ | refine⟨fun h=>Bool.noConfusion h,fun _=>?_⟩ | fail)
  refine⟨4,rfl,?_⟩
  exact ApS.err (hA.err (by rw[hP];unfold expandE;grind) (by decide))
 ·refine⟨fun h2=>?_,fun h2=>?_⟩
  ·repeat (first | refine⟨fun _=>?_,fun h=>Bool.noConfusion h⟩ | refine⟨fun h=>Bool.noConfusion h,fun _=>?_⟩ | fail)
   refine⟨2,rfl,?_⟩
   exact ApS.err (hA.err (by rw[hP];unfold expandE;grind) (by decide))
  ·refine⟨Int,fun i=>[(6,.int .i64 i)],fun _=>[],fun i=>(0≤i∧i≤s.cells.length)∧∀ j:Nat,(j:Int)<i→¬ ((c.versions.getD (s.cells.getD j default).running.toNat (0,0)).2≤s.high∨(c.versions.getD (s.cells.getD j default).wanted.toNat (0,0)).2≤s.high),fun i=>((s.cells.length:Int)-i).toNat,⟨0,⟨by omega,fun j hj=>absurd hj (by omega)⟩,kp_,kp_⟩,?_⟩
   rintro i ⟨hi0,hno⟩
   refine⟨⟨rfl,rfl⟩,?_⟩
   refine⟨fun hlt1=>?_,fun hge=>?_⟩
   ·have hlt2:i<(s.cells.length:Int):=of_decide_eq_true hlt1
    have hii:i.toNat<s.cells.length:=by omega
    have hci:=hI.cel _ (List.mem_of_getElem? (getD_get (d:=default) hii))
    have hc1:=hci.running
    have hc2:=hci.wanted
    refine⟨⟨Nat.le_refl _,hi0.1,hlt2⟩,?_⟩
    refine⟨Bool,fun b=>[(57,.bool b)],fun _=>[],fun b=>(b=true↔((c.versions.getD (s.cells.getD i.toNat default).running.toNat (0,0)).2≤s.high∨(c.versions.getD (s.cells.getD i.toNat default).wanted.toNat (0,0)).2≤s.high)),?_,?_⟩
    ·repeat' (first | refine⟨fun _=>?_,fun h=>Bool.noConfusion h⟩ | refine⟨fun h=>Bool.noConfusion h,fun _=>?_⟩ | refine⟨fun _=>?_,fun _=>?_⟩ | refine⟨⟨Nat.le_refl _,by omega,by omega⟩,?_⟩ | fail)
     all_goals (refine⟨_,?_,kp_,kp_⟩;dsimp only;grind)
    ·rintro b3 hb3
     refine⟨⟨by decide,rfl,rfl⟩,?_⟩
     refine⟨fun h3=>?_,fun h3=>?_⟩
     ·have hpp:=hb3.1 h3
      have hany:s.cells.any (blockB c s)=true:=List.any_eq_true.2 ⟨_,List.mem_of_getElem? (getD_get (d:=default) hii),by unfold blockB verAt;simp only[Bool.or_eq_true,decide_eq_true_eq];exact hpp⟩
      repeat (first | refine⟨fun _=>?_,fun h=>Bool.noConfusion h⟩ | refine⟨fun h=>Bool.noConfusion h,fun _=>?_⟩ | fail)
      refine⟨13,rfl,?_⟩
      exact ApS.err (hA.err (by rw[hP];unfold expandE;grind) (by decide))
     ·refine⟨_,?_,kp_,kp_⟩
      dsimp only
      rw[wrapi (n:=i+1) (by omega)]
      refine⟨⟨by omega,fun j hj=>?_⟩,by omega⟩
      by_cases hji:(j:Int)<i
      ·exact hno j hji
      ·obtain rfl:j=i.toNat:=by omega
       grind
   ·have hge2:¬ i<(s.cells.length:Int):=of_decide_eq_false hge
    have hall:∀ j:Nat,j<s.cells.length→¬ ((c.versions.getD (s.cells.getD j default).running.toNat (0,0)).2≤s.high∨(c.versions.getD (s.cells.getD j default).wanted.toNat (0,0)).2≤s.high):=fun j hj=>hno j (by omega)
    have hany:s.cells.any (blockB c s)=false:=by
     rw[List.any_eq_false]
     intro z hz
     obtain⟨j,hj,rfl⟩:=List.getElem_of_mem hz
     have:=hall j hj
     have hje:s.cells.getD j default=s.cells[j]:=getD_some (List.getElem?_eq_getElem hj)
     simp only[hje] at this
     intro q;unfold blockB verAt at q;simp only[Bool.or_eq_true,decide_eq_true_eq] at q;exact this q
    have hx:IntKind.i64.wrap (s.high+1)=s.high+1:=wrapi (by have:=hI.low;omega)
    have hk0:kindE c s e=0:=by rw[hP];unfold expandE;grind
    have heff:effOf s e=(⟨e.tick,s.count+1,s.tenants,s.cells,s.proven,s.evac,s.low,s.high+1⟩:St):=by simp[effOf,stamped,setTen,setCel,tenEff,celEff,tsAt,csAt,hk]
    exact ApS.ok (M:=⟨15,14,0⟩) (y:=y2) (s:=(⟨e.tick,s.count+1,s.tenants,s.cells,s.proven,s.evac,s.low,IntKind.i64.wrap (s.high+1)⟩:St)) (by rw[hA.fine hk0 (fun q=>absurd q (by unfold fitsB;simp[hk])),heff,hx]) rfl rfl ⟨_,_,_,rfl,rfl,Nat.le_refl _,fun k hk=>rfl⟩ ⟨_,_,_,rfl,rfl,Nat.le_refl _,fun k hk=>rfl⟩
/-! ref12.Apply,whole. -/
set_option maxRecDepth 100000 in
theorem applyR_sx (x:CfgK) (c:Cfg) (y:StK) (s:St) (e:Ent) (hV:CfgV c) (hI:StInv c s):sx ttU arF arD (bodyOf Tryz.f94) (argF 0 [cfgV CN1 x c,stV SN1 y s,entV' e]) (rdM c s noS) 10 (endx ttU Tryz.f94.results.toList fun v mem' _=>ApS mem' v (applyR c s e)):=by
 by_cases hE:entV c e=true
 ·by_cases hc:s.count<4096
  ·by_cases ht:s.tick≤e.tick
   ·have hA:ArH c s e:=⟨hV,hI,hE,hc,ht⟩
    have hk:1≤e.kind∧e.kind≤16:=by
     have h1:=hE
     simp only[entV,entOk,inR,Bool.and_eq_true,decide_eq_true_eq] at h1
     omega
    rcases (show e.kind=1∨e.kind=2∨e.kind=3∨e.kind=4∨e.kind=5∨e.kind=6∨e.kind=7∨e.kind=8∨e.kind=9∨e.kind=10∨e.kind=11∨e.kind=12∨e.kind=13∨e.kind=14∨e.kind=15∨e.kind=16 by omega) with h | h | h | h | h | h | h | h | h | h | h | h | h | h | h | h
    ·exact apPlace x c y s e hA h
    ·exact apGrant x c y s e hA h
    ·exact apCut x c y s e hA h
    ·exact apStandby x c y s e hA h
    ·exact apReady x c y s e hA h
    ·exact apMigrate x c y s e hA h
    ·exact apAbandon x c y s e hA h
    ·exact apShed x c y s e hA h
    ·exact apMode x c y s e hA h
    ·exact apWant x c y s e hA h
    ·exact apRuns x c y s e hA h
    ·exact apProve x c y s e hA h
    ·exact apEvac x c y s e hA h
    ·exact apExpand x c y s e hA h
    ·exact apContract x c y s e hA h
    ·exact apNote x c y s e hA h
   ·refine⟨CN1,x,c,e,rfl,by repeat (first | exact trivial | refine⟨rfl,?_⟩),hV,?_⟩
    refine⟨fun h=>absurd h (by rw[hE];decide),fun _=>?_⟩
    refine⟨fun h=>absurd (of_decide_eq_true h) (by omega),fun _=>?_⟩
    refine⟨fun _=>?_,fun h=>absurd (of_decide_eq_false h) (by omega)⟩
    refine⟨3,rfl,?_⟩
    refine ApS.err ?_
    have hr:refusedE c s e=3:=by unfold refusedE;rw[if_neg (by rw[hE];decide),if_neg (by omega),if_pos (by omega)]
    unfold applyR
    rw[hr,if_pos (by decide)]
  ·refine⟨CN1,x,c,e,rfl,by repeat (first | exact trivial | refine⟨rfl,?_⟩),hV,?_⟩
   refine⟨fun h=>absurd h (by rw[hE];decide),fun _=>?_⟩
   refine⟨fun _=>?_,fun h=>absurd (of_decide_eq_false h) (by omega)⟩
   refine⟨2,rfl,?_⟩
   refine ApS.err ?_
   have hr:refusedE c s e=2:=by unfold refusedE;rw[if_neg (by rw[hE];decide),if_pos (by omega)]
   unfold applyR
   rw[hr,if_pos (by decide)]
 ·have hE2:entV c e=false:=by cases h:entV c e<;>simp_all
  refine⟨CN1,x,c,e,rfl,by repeat (first | exact trivial | refine⟨rfl,?_⟩),hV,?_⟩
  refine⟨fun _=>?_,fun h=>absurd h (by rw[hE2];decide)⟩
  refine⟨1,rfl,?_⟩
  refine ApS.err ?_
  have hr:refusedE c s e=1:=by unfold refusedE;rw[if_pos hE2]
  unfold applyR
  rw[hr,if_pos (by decide)]
theorem r12Apply_calls (x:CfgA) (c:Cfg) (y:StA) (s:St) (e:Ent) (w:World) (hV:CfgV c) (hI:StInv c s) (hc:CfgOk w (·<w.heap.size) x c) (hs:StOk w (·<w.heap.size) y s) :
  Calls Tryz.prog 94 #[.agg (cfgC x c),.agg (stC y s),entV' e] w fun r w'=>∃ y2,r=.returned (.tuple #[.agg (stC y2 (applyR c s e).1),.int .i64 (applyR c s e).2])∧StOk w' (fun b=>w.heap.size≤b∧b<w'.heap.size) y2 (applyR c s e).1∧Below w.heap.size w w':=by
 have:=rd_callsM ttUok arFok Tryz.func94 rfl (D:=arD) (by kernel_rfl) (vs:=[cfgV CN1 (ck x) c,stV SN1 (sk y) s,entV' e]) rfl x c y s noA noS w hc hs (noS_ok w _) (fun v hv=>by
  simp only[List.mem_cons,List.not_mem_nil,or_false] at hv
  rcases hv with rfl | rfl | rfl
  ·exact rpl_cfg_ok x c y s noA noS
  ·exact rpl_st_ok x c y s noA noS
  ·exact (pure_den (pure_ent e) _ _).2) (applyR_sx (ck x) c (sk y) s e hV hI)
 rw[List.map_cons,List.map_cons,rpl_cfg,rpl_st,List.map_cons,(pure_den (pure_ent e) _ 0).1] at this
 refine this.mono ?_
 rintro r w' ⟨v,mem',nx',ρ',rfl,⟨T,Cc,rfl,hT,hC⟩,hv,hm',hb⟩
 obtain⟨a1,c1,e1,r1⟩:=hm'.slR (enc:=tsC) (sz:=12) (fun _=>rfl) (by omega) hT
 obtain⟨a2,c2,e2,r2⟩:=hm'.slR (enc:=csC) (sz:=4) (fun _=>rfl) (by omega) hC
 refine⟨⟨a1,c1,a2,c2⟩,?_,⟨r1,r2⟩,hb⟩
 have d:∀ v,den1 ρ' (.int .i64 v)=.int .i64 v:=fun _=>rfl
 simp[den,den2,stC,d,e1,e2]
def ctApplyR:CT:=fun vs mem nx K=>∃ N x c M y s e,vs=[cfgV N x c,stV M y s,entV' e]∧(keeps mem (cfgM N c)∧HasRow mem M.t 12 tsC default s.tenants∧HasRow mem M.c 4 csC default s.cells)∧(CfgV c∧StInv c s)∧∀ y2,K (.tuple #[stV ⟨nx+1,nx,500000⟩ y2 (applyR c s e).1,.int .i64 (applyR c s e).2]) (stM ⟨nx+1,nx,500000⟩ (applyR c s e).1++mem) (nx+2)
theorem applyROk:CSound Tryz.prog 94 ctApplyR:=⟨by kernel_rfl,fun {C ρ fr mem nx a w vs K} hc hs hv=>by
 obtain⟨N,x,c,M,y,s,e,rfl,⟨hk,h1,h2⟩,⟨hV,hI⟩,hK⟩:=hc
 have e0:([cfgV N x c,stV M y s,entV' e].map (den ρ)).toArray=#[.agg (cfgC (cfgX ρ N x) c),.agg (stC (stX ρ M y) s),entV' e]:=by
  rw[List.map_cons,List.map_cons,den_cfg,den_st]
  simp[den,den2,den1]
 rw[e0]
 refine (r12Apply_calls (cfgX ρ N x) c (stX ρ M y) s e w hV hI (hs.cfg (x:=x) hk (fun b h _=>h)) (hs.stRow (y:=y) h1 h2)).mono ?_
 rintro r w' ⟨y2,rfl,ho,hb⟩
 obtain⟨q1,q2,q3,q4⟩:=hs.addSt hb ho
 refine⟨.tuple #[stV ⟨nx+1,nx,500000⟩ ⟨y2.ct,y2.cc⟩ (applyR c s e).1,.int .i64 (applyR c s e).2],_,_,_,?_,hK ⟨y2.ct,y2.cc⟩,q1,?_,q4⟩
 ·rw[← q2]
  simp[den,den2,den1]
 ·intro u hu
  simp at hu
  rcases hu with rfl | rfl
  ·exact q3
  ·trivial⟩
theorem applyRP {c:Cfg} {s:St} {e:Ent} (hV:CfgV c) (hI:StInv c s) (hcap:overB c s=false):applyR c s e=applyP c s e:=by
 unfold applyR applyP
 by_cases hr:refusedE c s e≠0
 ·rw[if_pos hr,if_pos hr]
 ·rw[if_neg hr,if_neg hr]
  by_cases hb:booksB e=true∧overB c (effOf s e)=true
  ·rw[if_pos hb,if_pos]
   refine⟨?_,hb.2⟩
   have h:=hb.1
   unfold booksB at h
   unfold fitsB
   grind
  ·rw[if_neg hb]
   have hp:applyP c s e=(effOf s e,0):=by unfold applyP;rw[if_neg hr,if_neg hb]
   have:=cap_step hV hI hcap hp
   rw[if_neg (by rw[this];rintro⟨-,q⟩;cases q)]
/-! One start for all: two lists of numbers,a configuration,a list of entries,two states. -/
abbrev CNu:CN:=⟨2,3,4,5,6,7,3⟩
abbrev SNu:SN:=⟨9,10,3⟩
abbrev SNv:SN:=⟨11,12,3⟩
structure UA where
 a0:Option Addr:=none
 a1:Option Addr:=none
 x:CfgA:=noX
 ae:Option Addr:=none
 y:StA:=noA
 y2:StA:=noA
structure UD where
 l0:List Int:=[]
 l1:List Int:=[]
 c:Cfg:=noC
 es:List Ent:=[]
 s:St:=noS
 s2:St:=noS
abbrev entRow (es:List Ent):ABlk:=rowOfL 3 9 entC default es
abbrev uniM (d:UD):AM:=(0,intRow d.l0)::(1,intRow d.l1)::(cfgM CNu d.c++((8,entRow d.es)::(stM SNu d.s++stM SNv d.s2)))
def upl (a:UA) (d:UD):Nat→Pl:=fun j=>match j with
 | 0=>⟨a.a0,1,d.l0.length,false,noSub⟩
 | 1=>⟨a.a1,1,d.l1.length,false,noSub⟩
 | 2=>⟨a.x.az,1,d.c.zones.length,false,noSub⟩
 | 3=>⟨a.x.ac,2,d.c.cells.length,false,noSub⟩
 | 4=>⟨a.x.at_,7,d.c.tenants.length,false,noSub⟩
 | 5=>⟨a.x.av,2,d.c.versions.length,false,noSub⟩
 | 6=>⟨a.x.ar,1,d.c.replicas.length,false,noSub⟩
 | 7=>⟨a.x.ao,1,d.c.observers.length,false,noSub⟩
 | 8=>⟨a.ae,9,d.es.length,false,noSub⟩
 | 9=>⟨a.y.at_,12,d.s.tenants.length,false,noSub⟩
 | 10=>⟨a.y.ac,4,d.s.cells.length,false,noSub⟩
 | 11=>⟨a.y2.at_,12,d.s2.tenants.length,false,noSub⟩
 | _=>⟨a.y2.ac,4,d.s2.cells.length,false,noSub⟩
structure UOk (w:World) (a:UA) (d:UD):Prop where
 r0:Rd w (·<w.heap.size) a.a0 (flat intC d.l0):=by exact fun h=>absurd rfl h
 r1:Rd w (·<w.heap.size) a.a1 (flat intC d.l1):=by exact fun h=>absurd rfl h
 c:CfgOk w (·<w.heap.size) a.x d.c:=by exact noC_ok _ _
 e:Rd w (·<w.heap.size) a.ae (flat entC d.es):=by exact fun h=>absurd rfl h
 s:StOk w (·<w.heap.size) a.y d.s:=by exact noS_ok _ _
 s2:StOk w (·<w.heap.size) a.y2 d.s2:=by exact noS_ok _ _
theorem upl_cfg (a:UA) (d:UD):den (upl a d) (cfgV CNu (ck a.x) d.c)=.agg (cfgC a.x d.c):=by rw[den_cfg];rfl
theorem upl_cfg_ok (a:UA) (d:UD):okV (upl a d) 13 (cfgV CNu (ck a.x) d.c):=by
 intro u hu
 simp at hu
 rcases hu with rfl | rfl | rfl | rfl | rfl | rfl | rfl | rfl | rfl | rfl<;>first | trivial | exact⟨by decide,rfl⟩
theorem uni_calls {τ:TT} (hτ:TTok Tryz.prog τ) {f:FuncId} {fn:Func} {F:FT} {D:List (Nat×DQ)} (hF:FTokI Tryz.prog F (inlOf D)) (hf:(Tryz.prog).funcs[f]?=some fn) (hb:fn.body=some (bodyOf fn)) (hcode:codeB fn.ntmps D (bodyOf fn)=true) {vs:List Value} (hn:Nat.ble vs.length fn.ntmps=true)
  (a:UA) (d:UD) (w:World) (hu:UOk w a d) (hv:∀ v ∈ vs,okV (upl a d) 13 v) {R:Value→AM→Nat→Prop}
  (h:sx τ F D (bodyOf fn) (argF 0 vs) (uniM d) 13 (endx τ fn.results.toList R)) :
  Calls Tryz.prog f (vs.map (den (upl a d))).toArray w fun e w'=>∃ v mem' nx' ρ',e=.returned (den ρ' v)∧R v mem' nx'∧okV ρ' nx' v∧MemAt { w0:=w,bor:=[],n0:=13,ρ0:=upl a d,nt:=fn.ntmps } ρ' mem' nx' w'∧Below w.heap.size w w':=by
 have hpc:CfgPl (upl a d) CNu a.x d.c:=⟨rfl,rfl,rfl,rfl,rfl,rfl⟩
 have hps:StPl (upl a d) SNu a.y d.s:=⟨rfl,rfl⟩
 have hps2:StPl (upl a d) SNv a.y2 d.s2:=⟨rfl,rfl⟩
 have q2:=st_blks (C:={ w0:=w,bor:=[],n0:=13,ρ0:=upl a d,nt:=fn.ntmps }) (nx:=13) (r:=[]) hps2 hu.s2 (fun b hb=>hb) (by decide) trivial
 have q1:=st_blks (C:={ w0:=w,bor:=[],n0:=13,ρ0:=upl a d,nt:=fn.ntmps }) (nx:=13) hps hu.s (fun b hb=>hb) (by decide) q2
 have q0:blksOk { w0:=w,bor:=[],n0:=13,ρ0:=upl a d,nt:=fn.ntmps } (upl a d) 13 w ((8,entRow d.es)::(stM SNu d.s++(stM SNv d.s2++[]))):=⟨⟨by decide,rfl,row_of_rd (enc:=entC) (sz:=9) (fun _=>rfl) (by omega) entC_plain default rfl hu.e (fun b hb=>hb)⟩,q1⟩
 have qc:=cfg_blks (C:={ w0:=w,bor:=[],n0:=13,ρ0:=upl a d,nt:=fn.ntmps }) (nx:=13) hpc hu.c (fun b hb=>hb) (by decide) q0
 have hm:MemAt { w0:=w,bor:=[],n0:=13,ρ0:=upl a d,nt:=fn.ntmps } (upl a d) (uniM d) 13 w:=MemAt.rows trivial
  ⟨⟨by decide,rfl,row_of_rd (enc:=intC) (sz:=1) (fun _=>rfl) (by omega) intC_plain 0 rfl hu.r0 (fun b hb=>hb)⟩,⟨by decide,rfl,row_of_rd (enc:=intC) (sz:=1) (fun _=>rfl) (by omega) intC_plain 0 rfl hu.r1 (fun b hb=>hb)⟩,qc⟩
 refine (calls_sxI hτ hF mixed hf hb hcode (vs:=vs) hn ⟨rfl,rfl⟩ rfl hm hv h).mono ?_
 rintro e w' ⟨v,mem',nx',ρ',rfl,hR,hv',hm'⟩
 exact⟨v,mem',nx',ρ',rfl,hR,hv',hm',⟨hm'.rest.os,hm'.rest.tape,hm'.rest.output,hm'.rest.size,fun b hlt=>hm'.rest.block b hlt (by simp)⟩⟩
def rnD:List (Nat×DQ):=[
 (3000003,{ k:=10,L:=[0,1,2,3,4,5,6,7],sl:=[1,2,3] }),
 (3000007,{ k:=11,L:=[0,1,2,3,4,5,6,7,9],sl:=[1,2,3] })]
abbrev stB (T Cc:Value):List Value:=[zi,zi,T,Cc,.int .i64 1,zi,zi,zi]
set_option maxRecDepth 100000 in
set_option maxHeartbeats 4000000 in
theorem r12New_sx (x:CfgK) (c:Cfg) (hnt:c.tenants.length≤1000) (hnc:c.cells.length≤1000) (hc0:0<c.cells.length) :
  sx tt [] rnD (bodyOf Tryz.f93) (argF 0 [cfgV CN1 x c]) (cfgM CN1 c) 6
   (endx tt Tryz.f93.results.toList fun v mem' _=>∃ T Cc,v=.agg (stB T Cc).toArray∧SlR mem' 12 tsC default (stNew c).tenants T∧SlR mem' 4 csC default (stNew c).cells Cc):=by
 refine⟨Int×Nat×Option (Nat×(Nat→List Value)),fun q=>match q with | (i,n,o)=>[(4,.int .i64 i)],fun q=>match q with | (i,n,none)=>[(8,.box 53 (stB zs0 zs0))] | (i,n,some (cap,el))=>[(8,.box 53 (stB (slc 9 n cap) zs0)),(9,tsB cap el)],fun q=>match q with | (i,n,o)=>(i=(n:Int)∧n≤c.tenants.length)∧match o with | none=>n=0 | some (cap,el)=>n≤cap∧∀ k,k<n→el k=tsC tsNew,fun q=>match q with | (i,n,o)=>((c.tenants.length:Int)-i).toNat,⟨(0,0,none),[],⟨⟨rfl,by omega⟩,rfl⟩,⟨rfl,rfl⟩,kp_,kp_⟩,?_⟩
 rintro⟨i,n,(_ | ⟨cap,el⟩)⟩ ⟨⟨hi,hn⟩,ho⟩
 ·refine⟨⟨by decide,rfl,rfl⟩,?_⟩
  obtain rfl:n=0:=ho
  refine⟨fun hlt=>?_,fun hge=>?_⟩
  ·have hlt2:i<(c.tenants.length:Int):=of_decide_eq_true hlt
   refine⟨⟨Nat.le_refl _,fun k hk=>by match k,hk with | 0,_=>rfl⟩,?_⟩
   refine⟨fun h=>absurd h (by decide),fun _=>⟨by decide,fun cap2 el2 hc2 hel2=>?_⟩⟩
   refine⟨(_,_,some (cap2,el2)),[(9,11)],?_,⟨rfl,rfl⟩,kp_,kp_⟩
   dsimp only
   rw[wrapi (n:=i+1) (by omega)]
   refine⟨⟨⟨by omega,by omega⟩,by omega,fun k hk=>?_⟩,by omega⟩
   obtain rfl:k=0:=by omega
   exact hel2 0 (by omega)
  ·have hge2:¬ i<(c.tenants.length:Int):=of_decide_eq_false hge
   have hTz:(stNew c).tenants=[]:=by simp only[stNew];rw[show c.tenants.length=0 by omega];rfl
   clear hi hn
   refine⟨Int×Nat×Option (Nat×(Nat→List Value)),fun q=>match q with | (i,n,o)=>[(5,.int .i64 i)],fun q=>match q with | (i,n,none)=>[(8,.box 53 (stB zs0 zs0))] | (i,n,some (cap,el))=>[(8,.box 53 (stB zs0 (slc 10 n cap))),(10,csB cap el)],fun q=>match q with | (i,n,o)=>(i=(n:Int)∧n≤c.cells.length)∧match o with | none=>n=0 | some (cap,el)=>n≤cap∧∀ k,k<n→el k=csC csNew,fun q=>match q with | (i,n,o)=>((c.cells.length:Int)-i).toNat,⟨(0,0,none),[],⟨⟨rfl,by omega⟩,rfl⟩,⟨rfl,rfl⟩,kp_,kp_⟩,?_⟩
   rintro⟨i,n,(_ | ⟨cap,el⟩)⟩ ⟨⟨hi,hn⟩,ho⟩
   ·refine⟨⟨by decide,rfl,rfl⟩,?_⟩
    obtain rfl:n=0:=ho
    refine⟨fun hlt=>?_,fun hge=>?_⟩
    ·have hlt2:i<(c.cells.length:Int):=of_decide_eq_true hlt
     refine⟨⟨Nat.le_refl _,fun k hk=>by match k,hk with | 0,_=>rfl⟩,?_⟩
     refine⟨fun h=>absurd h (by decide),fun _=>⟨by decide,fun cap2 el2 hc2 hel2=>?_⟩⟩
     refine⟨(_,_,some (cap2,el2)),[(10,12)],?_,⟨rfl,rfl⟩,kp_,kp_⟩
     dsimp only
     rw[wrapi (n:=i+1) (by omega)]
     refine⟨⟨⟨by omega,by omega⟩,by omega,fun k hk=>?_⟩,by omega⟩
     obtain rfl:k=0:=by omega
     exact hel2 0 (by omega)
    ·have hge2:¬ i<(c.cells.length:Int):=of_decide_eq_false hge
     omega
   ·refine⟨⟨by decide,rfl,rfl⟩,?_⟩
    obtain⟨hcap,hel⟩:=ho
    refine⟨fun hlt=>?_,fun hge=>?_⟩
    ·have hlt2:i<(c.cells.length:Int):=of_decide_eq_true hlt
     refine⟨⟨Nat.le_refl _,fun k hk=>by match k,hk with | 0,_=>rfl⟩,?_⟩
     refine⟨⟨rfl,hcap⟩,fun hin el2 h1 h2=>?_,fun hgt=>⟨by show (n+1) * 32≤140737488355328;omega,fun cap2 el2 hc2 h1 h2=>?_⟩⟩
     ·refine⟨(_,_,some (cap,el2)),[],?_,⟨rfl,rfl⟩,kp_,kp_⟩
      dsimp only
      rw[wrapi (n:=i+1) (by omega)]
      refine⟨⟨⟨by omega,by omega⟩,by omega,fun k hk=>?_⟩,by omega⟩
      by_cases hkn:k<n
      ·exact (h1 k hkn).trans (hel k hkn)
      ·obtain rfl:k=n:=by omega
       exact h2 0 (by omega)
     ·refine⟨(_,_,some (cap2,el2)),[(10,12)],?_,⟨rfl,rfl⟩,kp_,kp_⟩
      dsimp only
      rw[wrapi (n:=i+1) (by omega)]
      refine⟨⟨⟨by omega,by omega⟩,by omega,fun k hk=>?_⟩,by omega⟩
      by_cases hkn:k<n
      ·exact (h1 k hkn).trans (hel k hkn)
      ·obtain rfl:k=n:=by omega
       exact h2 0 (by omega)
    ·have hge2:¬ i<(c.cells.length:Int):=of_decide_eq_false hge
     have hnn:n=c.cells.length:=by omega
     subst hnn
     have hlc:(stNew c).cells.length=c.cells.length:=by simp[stNew]
     have hlt:(stNew c).tenants.length=c.tenants.length:=by simp[stNew]
     exact⟨_,_,rfl,.inl ⟨rfl,hTz⟩,.inr ⟨10,cap,_,cap,el,by rw[hlc],rfl,rfl,by rw[hlc];exact hcap,fun k hk=>by rw[hlc] at hk;rw[hel k hk];simp only[stNew];rw[getD_rep hk]⟩⟩
 ·refine⟨⟨by decide,rfl,rfl⟩,?_⟩
  obtain⟨hcap,hel⟩:=ho
  refine⟨fun hlt=>?_,fun hge=>?_⟩
  ·have hlt2:i<(c.tenants.length:Int):=of_decide_eq_true hlt
   refine⟨⟨Nat.le_refl _,fun k hk=>by match k,hk with | 0,_=>rfl⟩,?_⟩
   refine⟨⟨rfl,hcap⟩,fun hin el2 h1 h2=>?_,fun hgt=>⟨by show (n+1) * 88≤140737488355328;omega,fun cap2 el2 hc2 h1 h2=>?_⟩⟩
   ·refine⟨(_,_,some (cap,el2)),[],?_,⟨rfl,rfl⟩,kp_,kp_⟩
    dsimp only
    rw[wrapi (n:=i+1) (by omega)]
    refine⟨⟨⟨by omega,by omega⟩,by omega,fun k hk=>?_⟩,by omega⟩
    by_cases hkn:k<n
    ·exact (h1 k hkn).trans (hel k hkn)
    ·obtain rfl:k=n:=by omega
     exact h2 0 (by omega)
   ·refine⟨(_,_,some (cap2,el2)),[(9,11)],?_,⟨rfl,rfl⟩,kp_,kp_⟩
    dsimp only
    rw[wrapi (n:=i+1) (by omega)]
    refine⟨⟨⟨by omega,by omega⟩,by omega,fun k hk=>?_⟩,by omega⟩
    by_cases hkn:k<n
    ·exact (h1 k hkn).trans (hel k hkn)
    ·obtain rfl:k=n:=by omega
     exact h2 0 (by omega)
  ·have hge2:¬ i<(c.tenants.length:Int):=of_decide_eq_false hge
   have hnn:n=c.tenants.length:=by omega
   subst hnn
   have hcapT:=hcap
   have helT:=hel
   clear hcap hel hi hn hge2 hge
   obtain⟨capT,hce⟩:∃ q,q=cap:=⟨_,rfl⟩
   obtain⟨elT,hee⟩:∃ q,q=el:=⟨_,rfl⟩
   subst hce hee
   refine⟨Int×Nat×Option (Nat×(Nat→List Value)),fun q=>match q with | (i,n,o)=>[(5,.int .i64 i)],fun q=>match q with | (i,n,none)=>[(8,.box 53 (stB (slc 9 c.tenants.length capT) zs0))] | (i,n,some (cap,el))=>[(8,.box 53 (stB (slc 9 c.tenants.length capT) (slc 10 n cap))),(10,csB cap el)],fun q=>match q with | (i,n,o)=>(i=(n:Int)∧n≤c.cells.length)∧match o with | none=>n=0 | some (cap,el)=>n≤cap∧∀ k,k<n→el k=csC csNew,fun q=>match q with | (i,n,o)=>((c.cells.length:Int)-i).toNat,⟨(0,0,none),[],⟨⟨rfl,by omega⟩,rfl⟩,⟨rfl,rfl⟩,kp_,kp_⟩,?_⟩
   rintro⟨i,n,(_ | ⟨cap,el⟩)⟩ ⟨⟨hi,hn⟩,ho⟩
   ·refine⟨⟨by decide,rfl,rfl⟩,?_⟩
    obtain rfl:n=0:=ho
    refine⟨fun hlt=>?_,fun hge=>?_⟩
    ·have hlt2:i<(c.cells.length:Int):=of_decide_eq_true hlt
     refine⟨⟨Nat.le_refl _,fun k hk=>by match k,hk with | 0,_=>rfl⟩,?_⟩
     refine⟨fun h=>absurd h (by decide),fun _=>⟨by decide,fun cap2 el2 hc2 hel2=>?_⟩⟩
     refine⟨(_,_,some (cap2,el2)),[(10,12)],?_,⟨rfl,rfl⟩,kp_,kp_⟩
     dsimp only
     rw[wrapi (n:=i+1) (by omega)]
     refine⟨⟨⟨by omega,by omega⟩,by omega,fun k hk=>?_⟩,by omega⟩
     obtain rfl:k=0:=by omega
     exact hel2 0 (by omega)
    ·have hge2:¬ i<(c.cells.length:Int):=of_decide_eq_false hge
     omega
   ·refine⟨⟨by decide,rfl,rfl⟩,?_⟩
    obtain⟨hcap,hel⟩:=ho
    refine⟨fun hlt=>?_,fun hge=>?_⟩
    ·have hlt2:i<(c.cells.length:Int):=of_decide_eq_true hlt
     refine⟨⟨Nat.le_refl _,fun k hk=>by match k,hk with | 0,_=>rfl⟩,?_⟩
     refine⟨⟨rfl,hcap⟩,fun hin el2 h1 h2=>?_,fun hgt=>⟨by show (n+1) * 32≤140737488355328;omega,fun cap2 el2 hc2 h1 h2=>?_⟩⟩
     ·refine⟨(_,_,some (cap,el2)),[],?_,⟨rfl,rfl⟩,kp_,kp_⟩
      dsimp only
      rw[wrapi (n:=i+1) (by omega)]
      refine⟨⟨⟨by omega,by omega⟩,by omega,fun k hk=>?_⟩,by omega⟩
      by_cases hkn:k<n
      ·exact (h1 k hkn).trans (hel k hkn)
      ·obtain rfl:k=n:=by omega
       exact h2 0 (by omega)
     ·refine⟨(_,_,some (cap2,el2)),[(10,12)],?_,⟨rfl,rfl⟩,kp_,kp_⟩
      dsimp only
      rw[wrapi (n:=i+1) (by omega)]
      refine⟨⟨⟨by omega,by omega⟩,by omega,fun k hk=>?_⟩,by omega⟩
      by_cases hkn:k<n
      ·exact (h1 k hkn).trans (hel k hkn)
      ·obtain rfl:k=n:=by omega
       exact h2 0 (by omega)
    ·have hge2:¬ i<(c.cells.length:Int):=of_decide_eq_false hge
     have hnn:n=c.cells.length:=by omega
     subst hnn
     have hlc:(stNew c).cells.length=c.cells.length:=by simp[stNew]
     have hlt:(stNew c).tenants.length=c.tenants.length:=by simp[stNew]
     exact⟨_,_,rfl,.inr ⟨9,capT,_,capT,elT,by rw[hlt],rfl,rfl,by rw[hlt];exact hcapT,fun k hk=>by rw[hlt] at hk;rw[helT k hk];simp only[stNew];rw[getD_rep hk]⟩,.inr ⟨10,cap,_,cap,el,by rw[hlc],rfl,rfl,by rw[hlc];exact hcap,fun k hk=>by rw[hlc] at hk;rw[hel k hk];simp only[stNew];rw[getD_rep hk]⟩⟩
theorem r12New_calls (x:CfgA) (c:Cfg) (w:World) (hc:CfgOk w (·<w.heap.size) x c) (hnt:c.tenants.length≤1000) (hnc:c.cells.length≤1000) (hc0:0<c.cells.length) :
  Calls Tryz.prog 93 #[.agg (cfgC x c)] w fun e w'=>∃ y,e=.returned (.agg (stC y (stNew c)))∧StOk w' (fun b=>w.heap.size≤b∧b<w'.heap.size) y (stNew c)∧Below w.heap.size w w':=by
 have hpc:CfgPl (cpl x c) CN1 x c:=⟨rfl,rfl,rfl,rfl,rfl,rfl⟩
 have hm:MemAt { w0:=w,bor:=[],n0:=6,ρ0:=cpl x c,nt:=(Tryz.f93).ntmps } (cpl x c) (cfgM CN1 c) 6 w:=MemAt.rows trivial (by
  have:=cfg_blks (C:={ w0:=w,bor:=[],n0:=6,ρ0:=cpl x c,nt:=(Tryz.f93).ntmps }) (nx:=6) (r:=[]) hpc hc (fun b hb=>hb) (by decide) trivial
  exact this)
 have hv0:#[Value.agg (cfgC x c)]=([cfgV CN1 ⟨x.cz,x.cc,x.ct,x.cv,x.cr,x.co⟩ c].map (den (cpl x c))).toArray:=by
  rw[List.map_cons,den_cfg]
  rfl
 rw[hv0]
 refine (calls_sx ttOk ft_nil mixed Tryz.func93 rfl (D:=rnD) (by kernel_rfl) (vs:=[cfgV CN1 ⟨x.cz,x.cc,x.ct,x.cv,x.cr,x.co⟩ c]) rfl ⟨rfl,rfl⟩ rfl hm (fun v hv=>?_) (r12New_sx _ c hnt hnc hc0)).mono ?_
 ·obtain rfl:v=_:=by simpa using hv
  intro u hu
  simp at hu
  rcases hu with rfl | rfl | rfl | rfl | rfl | rfl | rfl | rfl | rfl | rfl<;>first | trivial | exact⟨by decide,rfl⟩
 ·rintro e w' ⟨v,mem',nx',ρ',rfl,⟨T,Cc,rfl,hT,hC⟩,hv,hm'⟩
  obtain⟨a1,c1,e1,r1⟩:=hm'.slR (enc:=tsC) (sz:=12) (fun _=>rfl) (by omega) hT
  obtain⟨a2,c2,e2,r2⟩:=hm'.slR (enc:=csC) (sz:=4) (fun _=>rfl) (by omega) hC
  refine⟨⟨a1,c1,a2,c2⟩,?_,⟨r1,r2⟩,⟨hm'.rest.os,hm'.rest.tape,hm'.rest.output,hm'.rest.size,fun b hlt=>hm'.rest.block b hlt (by simp)⟩⟩
  have d:∀ v,den1 ρ' (.int .i64 v)=.int .i64 v:=fun _=>rfl
  simp[den,den2,stC,stNew,d] at e1 e2 ⊢
  exact⟨e1,e2⟩
def ctNewR:CT:=fun vs mem nx K=>∃ N x c,vs=[cfgV N x c]∧keeps mem (cfgM N c)∧(c.tenants.length≤1000∧c.cells.length≤1000∧0<c.cells.length)∧∀ y,K (stV ⟨nx+1,nx,500000⟩ y (stNew c)) (stM ⟨nx+1,nx,500000⟩ (stNew c)++mem) (nx+2)
theorem newROk:CSound Tryz.prog 93 ctNewR:=⟨by kernel_rfl,fun {C ρ fr mem nx a w vs K} hc hs hv=>by
 obtain⟨N,x,c,rfl,hk,⟨hnt,hnc,hc0⟩,hK⟩:=hc
 rw[List.map_cons,den_cfg]
 refine (r12New_calls (cfgX ρ N x) c w (hs.cfg hk (fun b h _=>h)) hnt hnc hc0).mono ?_
 rintro e w' ⟨y,rfl,hst,hb⟩
 obtain⟨q1,q2,q3,q4⟩:=hs.addSt hb hst
 exact⟨_,_,_,_,by rw[q2],hK ⟨y.ct,y.cc⟩,q1,q3,q4⟩⟩
/-! Logs that are accepted,and ref12.Fold. -/
inductive Run (c:Cfg):St→List Ent→St→Prop where
 | nil (s:St):Run c s [] s
 | cons {s x s':St} {e:Ent} {es:List Ent} (h:applyP c s e=(x,0)) (hr:Run c x es s'):Run c s (e::es) s'
structure RInv (c:Cfg) (s:St):Prop where
 inv:StInv c s
 cap:overB c s=false
theorem RInv.new {c:Cfg} (hV:CfgV c):RInv c (stNew c):=⟨stNew_inv hV,cap_new hV⟩
theorem RInv.step {c:Cfg} {s x:St} {e:Ent} (hV:CfgV c) (h:RInv c s) (he:applyP c s e=(x,0)):RInv c x:=by
 obtain⟨hr,hx,-⟩:=applyP_ok he
 exact⟨by rw[hx];exact h.inv.step hV hr,cap_step hV h.inv h.cap he⟩
theorem Run.rinv {c:Cfg} (hV:CfgV c) {s s':St} {es:List Ent} (h:Run c s es s') (hs:RInv c s):RInv c s':=by
 induction h with
 | nil s=>exact hs
 | cons he _ ih=>exact ih (hs.step hV he)
theorem Run.snoc {c:Cfg} {s s' x:St} {es:List Ent} {e:Ent} (h:Run c s es s') (he:applyP c s' e=(x,0)):Run c s (es++[e]) x:=by
 induction h with
 | nil s=>exact .cons he (.nil _)
 | cons h1 _ ih=>exact .cons h1 (ih he)
theorem Run.fold {c:Cfg} {s s':St} {es:List Ent} (h:Run c s es s'):∀ i:Int,foldGo c i s es=(s',i+es.length,0):=by
 induction h with
 | nil s=>intro i;simp[foldGo]
 | cons h1 _ ih=>
  intro i
  rw[foldGo,h1,if_neg (by simp),ih]
  simp
  omega
theorem Run.foldC {c:Cfg} {s':St} {es:List Ent} (h:Run c (stNew c) es s'):foldC c es=(s',(es.length:Int),0):=by
 unfold Go.Proofs.YtchhdflealgkaaaGreat.foldC
 rw[h.fold 0,Int.zero_add]
theorem Run.count {c:Cfg} {s s':St} {es:List Ent} (h:Run c s es s'):s'.count=s.count+es.length:=by
 induction h with
 | nil s=>simp
 | cons h1 _ ih=>
  obtain⟨hr,hx,-⟩:=applyP_ok h1
  rw[ih,hx]
  have:∀ (s:St) (e:Ent),(effOf s e).count=s.count+1:=by
   intro s e
   unfold effOf stamped setTen setCel
   repeat (split<;>try rfl)
  rw[this]
  simp
  omega
theorem Run.split {c:Cfg} {s s':St} {l r:List Ent} (h:Run c s (l++r) s'):∃ m,Run c s l m∧Run c m r s':=by
 induction l generalizing s with
 | nil=>exact⟨s,.nil s,h⟩
 | cons e l ih=>
  cases h with
  | cons h1 hr=>
   obtain⟨m,q1,q2⟩:=ih hr
   exact⟨m,.cons h1 q1,q2⟩
def frF:FT:=[(93,ctNewR),(94,ctApplyR)]
theorem frFok:FTok Tryz.prog frF:=ft_cons newROk (ft_cons applyROk ft_nil)
def frD:List (Nat×DQ):=[(3000003,{ k:=20,L:=[0,1,2,3,4,5,6,7,8,9,10,11,12,13,14],sl:=[1,2,4,7] }),
 (5,{ k:=12,L:=[0,1,2,3,4,5,6,7,8,9,10,11,12,13,14,17,18,19],A:=[10],pre:=[(0,false),(1,false),(2,false),(3,false),(4,false),(5,false),(6,true),(7,false),(8,false),(9,false)],post:=[(11,true)] })]
set_option maxRecDepth 100000 in
set_option maxHeartbeats 4000000 in
theorem foldR_sx (d:UD) (x:CfgK) (cap:Nat) (hV:CfgV d.c) (hl:d.es.length≤1000000) :
  sx tt frF frD (bodyOf Tryz.f64) (argF 0 [cfgV CNu x d.c,slc 8 d.es.length cap]) (uniM d) 13 (endx tt Tryz.f64.results.toList fun v mem' _=>∃ y,v=.tuple #[stV ⟨18,19,500000⟩ y (foldC d.c d.es).1,.int .i64 (foldC d.c d.es).2.1,.int .i64 (foldC d.c d.es).2.2]∧keeps mem' (stM ⟨18,19,500000⟩ (foldC d.c d.es).1)):=by
 have hnt:=hV.nt
 have hnc:=hV.nc
 refine⟨CNu,x,d.c,rfl,kp_,⟨by omega,by omega,by omega⟩,?_⟩
 intro y0
 refine⟨St×StK×Int,fun q=>match q with | (s,y,i)=>[(8,.int .i64 i)],fun q=>match q with | (s,y,i)=>[(17,.box 53 [.int .i64 s.tick,.int .i64 s.count,slc 18 s.tenants.length y.ct,slc 19 s.cells.length y.cc,.int .i64 s.proven,.int .i64 s.evac,.int .i64 s.low,.int .i64 s.high]),(18,rowOfL 500000 12 tsC default s.tenants),(19,rowOfL 500000 4 csC default s.cells)],fun q=>match q with | (s,y,i)=>RInv d.c s∧(0≤i∧i≤d.es.length)∧foldGo d.c i s (d.es.drop i.toNat)=foldC d.c d.es,fun q=>match q with | (s,y,i)=>((d.es.length:Int)-i).toNat,⟨(stNew d.c,y0,0),[(18,16),(19,15)],⟨.new hV,by omega,rfl⟩,⟨rfl,rfl⟩,kp_,kp_⟩,?_⟩
 rintro⟨s,y,i⟩ ⟨hR,hi,hf⟩
 refine⟨⟨by decide,rfl,rfl⟩,?_⟩
 refine⟨fun hlt=>?_,fun hge=>?_⟩
 ·have hlt2:i<(d.es.length:Int):=of_decide_eq_true hlt
  have hd:d.es.drop i.toNat=(d.es.getD i.toNat default)::d.es.drop (i+1).toNat:=by
   rw[show (i+1).toNat=i.toNat+1 by omega,← List.getElem_cons_drop (show i.toNat<d.es.length by omega)]
   congr 1
   rw[List.getD_eq_getElem?_getD,List.getElem?_eq_getElem (show i.toNat<d.es.length by omega)]
   rfl
  rw[hd] at hf
  refine⟨⟨Nat.le_refl _,hi.1,hlt2⟩,?_⟩
  refine⟨CNu,x,d.c,⟨18,19,500000⟩,y,s,(d.es.getD i.toNat default),rfl,⟨kp_,.list rfl,.list rfl⟩,⟨hV,hR.inv⟩,?_⟩
  intro y2
  rw[applyRP hV hR.inv hR.cap]
  refine⟨kp_,?_⟩
  refine⟨kp_,?_⟩
  generalize (d.es.getD i.toNat default)=e at hf ⊢
  refine⟨fun he=>?_,fun he=>?_⟩
  ·have he2:(applyP d.c s e).2≠0:=by simpa using he
   rw[foldGo,if_pos he2] at hf
   rw[← hf]
   exact⟨y,rfl,kp_⟩
  ·have he2:(applyP d.c s e).2=0:=by simpa using he
   rw[foldGo,if_neg (fun h=>h he2)] at hf
   refine⟨((applyP d.c s e).1,y2,_),[(18,22),(19,21)],?_,⟨rfl,rfl⟩,kp_,kp_⟩
   dsimp only
   rw[wrapi (n:=i+1) (by omega)]
   exact⟨⟨hR.step hV (e:=e) (by rw[← he2]),by omega,hf⟩,by omega⟩
 ·have hge2:¬ i<(d.es.length:Int):=of_decide_eq_false hge
  obtain rfl:i=d.es.length:=by omega
  rw[Int.toNat_natCast,List.drop_length] at hf
  rw[foldGo] at hf
  rw[← hf]
  exact⟨y,rfl,kp_⟩
theorem r12Fold_calls (x:CfgA) (c:Cfg) (A:Option Addr) (cap:Nat) (es:List Ent) (w:World) (hV:CfgV c) (hl:es.length≤1000000) (hc:CfgOk w (·<w.heap.size) x c) (hr:Rd w (·<w.heap.size) A (flat entC es)) :
  Calls Tryz.prog 64 #[.agg (cfgC x c),.slice A es.length cap] w fun e w'=>∃ y,e=.returned (.tuple #[.agg (stC y (foldC c es).1),.int .i64 (foldC c es).2.1,.int .i64 (foldC c es).2.2])∧StOk w' (fun b=>w.heap.size≤b∧b<w'.heap.size) y (foldC c es).1∧Below w.heap.size w w':=by
 have:=uni_calls ttOk (frFok.i _) Tryz.func64 rfl (D:=frD) (by kernel_rfl) (vs:=[cfgV CNu (ck x) c,slc 8 es.length cap]) rfl { x:=x,ae:=A } { c:=c,es:=es } w { c:=hc,e:=hr } (fun v hv=>by
  simp only[List.mem_cons,List.not_mem_nil,or_false] at hv
  rcases hv with rfl | rfl
  ·exact upl_cfg_ok { x:=x,ae:=A } { c:=c,es:=es }
  ·exact⟨show (8:Nat)<13 by decide,rfl⟩) (foldR_sx { c:=c,es:=es } (ck x) cap hV hl)
 rw[List.map_cons] at this
 have e0:=upl_cfg { x:=x,ae:=A } { c:=c,es:=es }
 dsimp only at e0 this
 rw[e0] at this
 refine this.mono ?_
 rintro e w' ⟨v,mem',nx',ρ',rfl,⟨y,rfl,k1,k2,-⟩,hv,hm',hb⟩
 refine⟨⟨(ρ' 18).A,y.ct,(ρ' 19).A,y.cc⟩,?_,⟨?_,?_⟩,hb⟩
 ·simp[den,den2,den1,dA_whole,dS_whole,stC]
 ·exact (hm'.blk 18 _ k1).fresh (enc:=tsC) default rfl rfl (fun k hk=>rfl) (fun _=>rfl) (by omega)
 ·exact (hm'.blk 19 _ k2).fresh (enc:=csC) default rfl rfl (fun k hk=>rfl) (fun _=>rfl) (by omega)
def ctFoldR:CT:=fun vs mem nx K=>∃ N x c r cap es,vs=[cfgV N x c,slc r (es:List Ent).length cap]∧(keeps mem (cfgM N c)∧HasRow mem r 9 entC default es)∧(CfgV c∧es.length≤1000000)∧∀ y,K (.tuple #[stV ⟨nx+1,nx,500000⟩ y (foldC c es).1,.int .i64 (foldC c es).2.1,.int .i64 (foldC c es).2.2]) (stM ⟨nx+1,nx,500000⟩ (foldC c es).1++mem) (nx+2)
theorem foldROk:CSound Tryz.prog 64 ctFoldR:=⟨by kernel_rfl,fun {C ρ fr mem nx a w vs K} hc hs hv=>by
 obtain⟨N,x,c,r,cap,es,rfl,⟨hk,hr⟩,⟨hV,hl⟩,hK⟩:=hc
 have e0:([cfgV N x c,slc r es.length cap].map (den ρ)).toArray=#[.agg (cfgC (cfgX ρ N x) c),.slice (ρ r).A es.length cap]:=by
  rw[List.map_cons,den_cfg]
  rfl
 rw[e0]
 refine (r12Fold_calls (cfgX ρ N x) c (ρ r).A cap es w hV hl (hs.cfg hk (fun b h _=>h)) (hs.hasRd (enc:=entC) (sz:=9) (fun _=>rfl) (by omega) hr)).mono ?_
 rintro e w' ⟨y,rfl,hst,hb⟩
 obtain⟨q1,q2,q3,q4⟩:=hs.addSt hb hst
 refine⟨.tuple #[stV ⟨nx+1,nx,500000⟩ ⟨y.ct,y.cc⟩ (foldC c es).1,.int .i64 (foldC c es).2.1,.int .i64 (foldC c es).2.2],_,_,_,?_,hK ⟨y.ct,y.cc⟩,q1,?_,q4⟩
 ·rw[← q2]
  simp[den,den2,den1]
 ·intro u hu
  simp at hu
  rcases hu with rfl | rfl | rfl
  ·exact q3
  ·trivial
  ·trivial⟩
def gcutQ:DQ:={ k:=15,L:=[1,9,10,11,13,14],sl:=[0,5,6,7,8,9] }
def ggrD:List (Nat×DQ):=[
 (14,{ k:=5,L:=[12],pre:=[(0,false),(1,false),(2,false),(3,true),(4,false)] }),
 (15,{ k:=7,L:=[12,10],pre:=[(0,false),(1,false),(2,false),(3,false),(4,false),(5,true),(6,false)] }),
 (18,{ k:=10,g:=some (.fix 0 (.fix 3 (.fix 5 (.three
  1 (.fix 2 (.two 4 (.fix 8 (.act 6 (.fix 7 (.act 9 .fin)))) 6 (.act 4 (.fix 7 (.fix 8 (.act 9 .fin))))))
  4 (.two 1 (.fix 2 (.fix 8 (.act 6 (.fix 7 (.act 9 .fin))))) 6 (.fix 7 (.act 1 (.fix 2 (.fix 8 (.act 9 .fin))))))
  6 (.two 1 (.fix 2 (.act 4 (.fix 7 (.fix 8 (.act 9 .fin))))) 4 (.fix 7 (.act 1 (.fix 2 (.fix 8 (.act 9 .fin))))))))))}),
 (1000007,gcutQ),(1000010,gcutQ),(1000012,gcutQ),(1000015,gcutQ),(1000019,gcutQ),(1000020,gcutQ)]
def preGrant (c:Cfg) (s:St) (args:List Value) (k:Int):Prop:=(CfgV c∧StInv c s)∧∃ e,args=[entV' e]∧(0≤e.tenant∧e.tenant<s.tenants.length)∧(tsAt s e.tenant).placed=true
theorem ints_new {C:Ctx} {ρ:Nat→Pl} {fr:AF} {mem:AM} {nx:Nat} {a:Act} {w w':World} (hs:Sat C ρ fr mem nx a w) {l:List Int} {A:Option Addr} {cp:Nat} (ho:w'.ownsRow w.heap.size 3 1 (.slice A l.length cp) l.length (flat intC l)) (hb:Below w.heap.size w w') :
  Sat C (setPl ρ nx ⟨A,1,l.length,false,noSub⟩) fr ((nx,intRow l)::mem) (nx+1) a w'∧den (setPl ρ nx ⟨A,1,l.length,false,noSub⟩) (slc nx l.length cp)=.slice A l.length cp∧okV (setPl ρ nx ⟨A,1,l.length,false,noSub⟩) (nx+1) (slc nx l.length cp):=by
 have hrd:=Rd.of_own ho
 refine⟨hs.add hb (row_of_rd (enc:=intC) (sz:=1) (fun _=>rfl) (by omega) intC_plain 0 (setPl_same _ _ _) hrd (fun b hb=>hb.2)) ?_ rfl,by simp[den,den2,den1,dA_whole,dS_whole,setPl_same],⟨Nat.lt_succ_self nx,by rw[setPl_same]⟩⟩
 intro g hg
 cases A with
 | none=>simp at hg
 | some ad=>
  simp at hg
  subst hg
  exact (ho.lt _ rfl).1
/-! pick -/
def entryD:List (Nat×DQ):=[
 (1,{ k:=5,L:=[11],pre:=[(0,false),(1,false),(2,false),(3,true),(4,false)] }),
 (19,{ k:=5,L:=[13],pre:=[(0,false),(1,false),(2,false),(3,false),(4,true)] }),
 (23,{ k:=5,L:=[13],pre:=[(0,false),(1,false),(2,false),(3,false),(4,true)] }),
 (1000004,{ k:=13,L:=[1,2,3,4,5,6,7,8,9,10,11,12],sl:=[0,4,5,6] }),(1000032,{ k:=15,L:=[12],sl:=[6,11] })]
/-! make.Log: entries that are accepted one after the other. -/
def LenCap (n:Nat) (v:Value):Prop:=∃ A m cap,v=.slice A m cap∧n≤cap
/-! make.State: the state of a log. -/
set_option maxHeartbeats 400000 in
theorem topoWithin_any (n lo hi:Int) (w:World) :
  Calls Tryz.prog 169 #[.int .i64 n,.int .i64 lo,.int .i64 hi] w fun e w'=>e=.returned (.bool (inR n lo hi))∧w=w':=by
 go_enter Tryz.func169,Tryz.ntmps169
 go_wp2
 all_goals
  go_ret
  refine⟨ret_bool ?_,rfl⟩
  go_light
  simp[inR, *]<;>omega
set_option maxHeartbeats 400000 in
theorem tenantWithin_any (n lo hi:Int) (w:World) :
  Calls Tryz.prog 125 #[.int .i64 n,.int .i64 lo,.int .i64 hi] w fun e w'=>e=.returned (.bool (inR n lo hi))∧w=w':=by
 go_enter Tryz.func125,Tryz.ntmps125
 go_wp2
 all_goals
  go_ret
  refine⟨ret_bool ?_,rfl⟩
  go_light
  simp[inR, *]<;>omega
theorem inR_no {k:Int} {n:Nat} (h:¬ (0≤k∧k<(n:Int))):inR k 0 ((n:Int)-1)=false:=by
 rw[Bool.eq_false_iff];simp[inR];omega
theorem inR_yes {k:Int} {n:Nat} (h:0≤k∧k<(n:Int)):inR k 0 ((n:Int)-1)=true:=by
 simp[inR];omega
set_option maxHeartbeats 400000 in
theorem topoZoneOf_any (x:CfgA) (c:Cfg) (k:Int) (w:World) (hV:CfgV c) (hok:CfgOk w (·<w.heap.size) x c) :
  Calls Tryz.prog 196 #[.agg (cfgC x c),.int .i64 k] w fun e w'=>e=.returned (.int .i64 (zoneOf c k))∧Below w.heap.size w w':=by
 obtain⟨az,cz,ac,cc,at_,ct,av,cv,ar,cr,ao,co⟩:=x
 have hnc:=hV.nc
 have HK:=Lib.hid hok
 clear hok hV
 unfold cfgC
 simp only
 by_cases hk:0≤k∧k<c.cells.length
 ·have HI:=inR_yes hk
  obtain⟨hk0,hk1⟩:=hk
  obtain⟨n,rfl⟩:=Int.eq_ofNat_of_zero_le hk0
  have hn:n<c.cells.length:=by omega
  obtain⟨b,off,z,rfl,hb,hz,hcell⟩:=HK.out.cells.row (enc:=pairC) (sz:=2) (fun _=>rfl) (by omega) hn
  have e0:=hcell 0 (.int .i64 z.1) rfl
  simp only[Nat.add_zero] at e0
  have hzo:zoneOf c n=z.1:=by unfold zoneOf;rw[if_pos ⟨hk0,hk1⟩,Int.toNat_natCast,getD_some hz]
  have HZ:=Lib.hid hzo
  have hb1:b<w.heap.size:=hb
  clear hcell hz hzo
  go_enter Tryz.func196,Tryz.ntmps196
  go_wp2_with (go_at_call 169;(with_reducible refine (topoWithin_any _ _ _ _).mono ?_);rintro x wq ⟨rfl,rfl⟩;rw[HI])
  go_ret
  exact⟨ret_i64 HZ.out.symm,(Below.refl _ _).alloc (Nat.le_refl _) _⟩
 ·have HI:=inR_no hk
  have hzo:zoneOf c k=-1:=by unfold zoneOf;rw[if_neg hk]
  have HZ:=Lib.hid hzo
  clear hk hzo
  go_enter Tryz.func196,Tryz.ntmps196
  go_wp2_with (go_at_call 169;(with_reducible refine (topoWithin_any _ _ _ _).mono ?_);rintro x wq ⟨rfl,rfl⟩;rw[HI])
  go_ret
  exact⟨ret_i64 HZ.out.symm,(Below.refl _ _).alloc (Nat.le_refl _) _⟩
set_option maxHeartbeats 400000 in
theorem topoRegZone_any (x:CfgA) (c:Cfg) (k:Int) (w:World) (hV:CfgV c) (hok:CfgOk w (·<w.heap.size) x c) :
  Calls Tryz.prog 195 #[.agg (cfgC x c),.int .i64 k] w fun e w'=>e=.returned (.int .i64 (regZone c k))∧Below w.heap.size w w':=by
 obtain⟨az,cz,ac,cc,at_,ct,av,cv,ar,cr,ao,co⟩:=x
 have hnc:=hV.nz
 have HK:=Lib.hid hok
 clear hok hV
 unfold cfgC
 simp only
 by_cases hk:0≤k∧k<c.zones.length
 ·have HI:=inR_yes hk
  obtain⟨hk0,hk1⟩:=hk
  obtain⟨n,rfl⟩:=Int.eq_ofNat_of_zero_le hk0
  have hn:n<c.zones.length:=by omega
  obtain⟨b,off,z,rfl,hb,hz,hcell⟩:=HK.out.zones.row (enc:=intC) (sz:=1) (fun _=>rfl) (by omega) hn
  have e0:=hcell 0 (.int .i64 z) rfl
  simp only[Nat.add_zero,Nat.mul_one] at e0
  have hzo:regZone c n=z:=by unfold regZone;rw[if_pos ⟨hk0,hk1⟩,Int.toNat_natCast,getD_some hz]
  have HZ:=Lib.hid hzo
  have hb1:b<w.heap.size:=hb
  clear hcell hz hzo
  go_enter Tryz.func195,Tryz.ntmps195
  go_wp2_with (go_at_call 169;(with_reducible refine (topoWithin_any _ _ _ _).mono ?_);rintro x wq ⟨rfl,rfl⟩;rw[HI])
  go_ret
  exact⟨ret_i64 HZ.out.symm,(Below.refl _ _).alloc (Nat.le_refl _) _⟩
 ·have HI:=inR_no hk
  have hzo:regZone c k=-1:=by unfold regZone;rw[if_neg hk]
  have HZ:=Lib.hid hzo
  clear hk hzo
  go_enter Tryz.func195,Tryz.ntmps195
  go_wp2_with (go_at_call 169;(with_reducible refine (topoWithin_any _ _ _ _).mono ?_);rintro x wq ⟨rfl,rfl⟩;rw[HI])
  go_ret
  exact⟨ret_i64 HZ.out.symm,(Below.refl _ _).alloc (Nat.le_refl _) _⟩
set_option maxHeartbeats 1000000 in
theorem topoRegionOf_any (x:CfgA) (c:Cfg) (k:Int) (w:World) (hV:CfgV c) (hok:CfgOk w (·<w.heap.size) x c) :
  Calls Tryz.prog 185 #[.agg (cfgC x c),.int .i64 k] w fun e w'=>e=.returned (.int .i64 (regionOf c k))∧Below w.heap.size w w':=by
 obtain⟨az,cz,ac,cc,at_,ct,av,cv,ar,cr,ao,co⟩:=x
 have HV:=Lib.hid hV
 have HK:=Lib.hid hok
 have HL:=Lib.hid ((Below.refl w.heap.size w).alloc (Nat.le_refl _) (.cells (cfgC ⟨az,cz,ac,cc,at_,ct,av,cv,ar,cr,ao,co⟩ c) 31))
 have HW:=Lib.hid (HK.out.allocW (.cells (cfgC ⟨az,cz,ac,cc,at_,ct,av,cv,ar,cr,ao,co⟩ c) 31))
 have hBx:=Blk.new w 31 (cfgC ⟨az,cz,ac,cc,at_,ct,av,cv,ar,cr,ao,co⟩ c)
 have hg:=hBx.lt
 have d0:=hBx.cell' (i:=0) (v:=.int .i64 c.regions) rfl
 have d1:=hBx.cell' (i:=1) (v:=.slice az c.zones.length cz) rfl
 have d2:=hBx.cell' (i:=2) (v:=.slice ac c.cells.length cc) rfl
 have d3:=hBx.cell' (i:=3) (v:=.slice at_ c.tenants.length ct) rfl
 have d4:=hBx.cell' (i:=4) (v:=.slice av c.versions.length cv) rfl
 have d5:=hBx.cell' (i:=5) (v:=.slice ar c.replicas.length cr) rfl
 have d6:=hBx.cell' (i:=6) (v:=.slice ao c.observers.length co) rfl
 have d7:=hBx.cell' (i:=7) (v:=.int .i64 c.blast) rfl
 have d8:=hBx.cell' (i:=8) (v:=.int .i64 c.lease) rfl
 have d9:=hBx.cell' (i:=9) (v:=.int .i64 c.bake) rfl
 clear hBx
 unfold cfgC at HL HW d0 d1 d2 d3 d4 d5 d6 d7 d8 d9 hg
 simp only at HL HW d0 d1 d2 d3 d4 d5 d6 d7 d8 d9 hg
 clear hok hV HK
 unfold cfgC
 simp only
 go_enter Tryz.func185,Tryz.ntmps185
 go_wp2_with fail
 generalize w.alloc _=W at *
 have hx:∀ (y:Later W.heap.size W) b o,b<W.heap.size→y.world.cell? ⟨b,o,none⟩=W.cell? ⟨b,o,none⟩:=fun y b o h=>y.cell h
 refine wp_region_below W.heap.size (by kernel_rfl) (by kernel_rfl) ?_
 repeat (quiet_step ((first | (go_at_call 196;exact quiet_belowW _ (topoZoneOf_any ⟨az,cz,ac,cc,at_,ct,av,cv,ar,cr,ao,co⟩ c _ _ HV.out (HW.out.laterW _))) | (go_at_call 195;exact quiet_belowW _ (topoRegZone_any ⟨az,cz,ac,cc,at_,ct,av,cv,ar,cr,ao,co⟩ c _ _ HV.out (HW.out.laterW _))))))
 refine wpQuiet_nil ?_
 rintro w' ⟨y,rfl⟩
 have HY:=Lib.hid (HL.out.trans (y.below.mono (Nat.le_of_lt hg)))
 clear hx d0 d1 d2 d3 d4 d5 d6 d7 d8 d9 hg
 go_wp2
 go_ret
 exact⟨ret_i64 rfl,HY.out⟩
set_option maxHeartbeats 1000000 in
theorem tenantApart_any (x:CfgA) (c:Cfg) (a b:Int) (w:World) (hV:CfgV c) (hok:CfgOk w (·<w.heap.size) x c) :
  Calls Tryz.prog 161 #[.agg (cfgC x c),.int .i64 a,.int .i64 b] w fun e w'=>e=.returned (.bool (apartB c a b))∧Below w.heap.size w w':=by
 obtain⟨az,cz,ac,cc,at_,ct,av,cv,ar,cr,ao,co⟩:=x
 have HV:=Lib.hid hV
 have HK:=Lib.hid hok
 have HL:=Lib.hid ((Below.refl w.heap.size w).alloc (Nat.le_refl _) (.cells (cfgC ⟨az,cz,ac,cc,at_,ct,av,cv,ar,cr,ao,co⟩ c) 31))
 have HW:=Lib.hid (HK.out.allocW (.cells (cfgC ⟨az,cz,ac,cc,at_,ct,av,cv,ar,cr,ao,co⟩ c) 31))
 have hBx:=Blk.new w 31 (cfgC ⟨az,cz,ac,cc,at_,ct,av,cv,ar,cr,ao,co⟩ c)
 have hg:=hBx.lt
 have d0:=hBx.cell' (i:=0) (v:=.int .i64 c.regions) rfl
 have d1:=hBx.cell' (i:=1) (v:=.slice az c.zones.length cz) rfl
 have d2:=hBx.cell' (i:=2) (v:=.slice ac c.cells.length cc) rfl
 have d3:=hBx.cell' (i:=3) (v:=.slice at_ c.tenants.length ct) rfl
 have d4:=hBx.cell' (i:=4) (v:=.slice av c.versions.length cv) rfl
 have d5:=hBx.cell' (i:=5) (v:=.slice ar c.replicas.length cr) rfl
 have d6:=hBx.cell' (i:=6) (v:=.slice ao c.observers.length co) rfl
 have d7:=hBx.cell' (i:=7) (v:=.int .i64 c.blast) rfl
 have d8:=hBx.cell' (i:=8) (v:=.int .i64 c.lease) rfl
 have d9:=hBx.cell' (i:=9) (v:=.int .i64 c.bake) rfl
 clear hBx
 unfold cfgC at HL HW d0 d1 d2 d3 d4 d5 d6 d7 d8 d9 hg
 simp only at HL HW d0 d1 d2 d3 d4 d5 d6 d7 d8 d9 hg
 clear hok hV HK
 unfold cfgC
 simp only
 go_enter Tryz.func161,Tryz.ntmps161
 go_wp2_with fail
 generalize w.alloc _=W at *
 have hx:∀ (y:Later W.heap.size W) b o,b<W.heap.size→y.world.cell? ⟨b,o,none⟩=W.cell? ⟨b,o,none⟩:=fun y b o h=>y.cell h
 refine wp_region_below W.heap.size (by kernel_rfl) (by kernel_rfl) ?_
 repeat (quiet_step ((go_at_call 185;exact quiet_belowW _ (topoRegionOf_any ⟨az,cz,ac,cc,at_,ct,av,cv,ar,cr,ao,co⟩ c _ _ HV.out (HW.out.laterW _)))))
 refine wpQuiet_nil ?_
 rintro w' ⟨y,rfl⟩
 have HY:=Lib.hid (HL.out.trans (y.below.mono (Nat.le_of_lt hg)))
 have HA:Hid (apartB c a b=(decide (0≤regionOf c a)&&decide (0≤regionOf c b)&&decide (regionOf c a≠regionOf c b))):=Lib.hid rfl
 generalize regionOf c a=ra at *
 generalize regionOf c b=rb at *
 clear hx d0 d1 d2 d3 d4 d5 d6 d7 d8 d9 hg
 go_wp2
 all_goals
  go_ret
  refine⟨ret_bool ?_,HY.out⟩
  rw[HA.out,Bool.eq_iff_iff]
  go_light
  simp
  try omega
set_option maxHeartbeats 1000000 in
theorem tenantMay_any (x:CfgA) (c:Cfg) (t k:Int) (w:World) (hV:CfgV c) (hok:CfgOk w (·<w.heap.size) x c) :
  Calls Tryz.prog 159 #[.agg (cfgC x c),.int .i64 t,.int .i64 k] w fun e w'=>e=.returned (.bool (mayB c t k))∧Below w.heap.size w w':=by
 obtain⟨az,cz,ac,cc,at_,ct,av,cv,ar,cr,ao,co⟩:=x
 have HV:=Lib.hid hV
 have HK:=Lib.hid hok
 have hnt:=hV.nt
 have hrb:=regionOf_bd hV k
 have hreg:=hV.reg
 clear hok hV
 by_cases ht:0≤t∧t<c.tenants.length
 ·have HI:=inR_yes ht
  obtain⟨ht0,ht1⟩:=ht
  obtain⟨n,rfl⟩:=Int.eq_ofNat_of_zero_le ht0
  have hn:n<c.tenants.length:=by omega
  obtain⟨b,off,z,rfl,hb,hz,hcell⟩:=HK.out.tenants.row (enc:=tenC) (sz:=7) (fun _=>rfl) (by omega) hn
  have e4:=hcell 4 (.int .i64 z.allowed) rfl
  have hzb:=tenAt_bd HV.out hz
  have hm:mayB c n k=hasB z.allowed (regionOf c k):=by
   unfold mayB tenAt
   rw[Int.toNat_natCast,getD_some hz]
   simp[hn]
  have HM:=Lib.hid hm
  have HBT:=Lib.hid (bit_div2 z.allowed (regionOf c k) (by omega))
  have hb1:b<w.heap.size:=hb
  clear hcell hz hm
  unfold cfgC
  simp only
  go_enter Tryz.func159,Tryz.ntmps159
  go_wp2_with fail
  refine (topoRegionOf_any ⟨az,cz,ac,cc,some ⟨b,off,none⟩,ct,av,cv,ar,cr,ao,co⟩ c k _ HV.out (HK.out.allocW _)).mono ?_
  rintro e w1 ⟨rfl,hb1'⟩
  have HB:Hid (Below w.heap.size w w1):=((Below.refl _ _).alloc (Nat.le_refl _) _).trans (hb1'.mono (by simp))
  obtain⟨hc1,hf1⟩:=bcell hb1'
  have e1:w1.cell? ⟨b,off+n * 7+4,none⟩=some (.int .i64 z.allowed):=by rw[hc1 b _ (by simp;omega),World.cell?_alloc_lt w _ _ (show b<w.heap.size from hb)];exact e4
  have d1:w1.cell? ⟨w.heap.size,3,none⟩=some (.slice (some ⟨b,off,none⟩) c.tenants.length ct):=by rw[hc1 _ _ (by simp)];go_simp
  clear hc1 hf1 hb1' e4
  generalize regionOf c k=r at *
  have hr:r=-1∨r=0∨r=1∨r=2∨r=3:=by omega
  clear hrb hreg
  rcases hr with rfl | rfl | rfl | rfl | rfl
  all_goals
   go_wp2_with (go_at_call 125;(with_reducible refine (tenantWithin_any _ _ _ _).mono ?_);rintro x wq ⟨rfl,rfl⟩;rw[HI])
   go_ret
   refine⟨ret_bool ?_,HB.out⟩
   rw[HM.out]
   have:=HBT.out
   try rw[i64_and1 _ (by omega) (by omega)]
   simp[hasB] at this ⊢
   try exact this
 ·have hm:mayB c t k=false:=by unfold mayB;simp;intro h1 h2;omega
  have HM:=Lib.hid hm
  have HI:=inR_no ht
  clear hm ht
  unfold cfgC
  simp only
  go_enter Tryz.func159,Tryz.ntmps159
  go_wp2_with fail
  refine (topoRegionOf_any ⟨az,cz,ac,cc,at_,ct,av,cv,ar,cr,ao,co⟩ c k _ HV.out (HK.out.allocW _)).mono ?_
  rintro e w1 ⟨rfl,hb1'⟩
  have HB:Hid (Below w.heap.size w w1):=((Below.refl _ _).alloc (Nat.le_refl _) _).trans (hb1'.mono (by simp))
  obtain⟨hc1,hf1⟩:=bcell hb1'
  have d1:w1.cell? ⟨w.heap.size,3,none⟩=some (.slice at_ c.tenants.length ct):=by rw[hc1 _ _ (by simp)];go_simp
  clear hc1 hf1 hb1'
  go_wp2_with (go_at_call 125;(with_reducible refine (tenantWithin_any _ _ _ _).mono ?_);rintro x wq ⟨rfl,rfl⟩;rw[HI])
  go_ret
  exact⟨ret_bool HM.out.symm,HB.out⟩
section
variable {P:Program} {Q:Exit→Act→World→Prop}
def anyB (ops:Array Oper) (acts:List Nat) (pre:Nat→List Nat):Nat→Array Bool→Bool
 | 0,ls=>(Region.ready .any ops ls).isEmpty&&acts.all fun i=>ls.getD i false
 | n+1,ls=>((Region.ready .any ops ls).all fun i=>acts.contains i&&!(ls.getD i true)&&(pre i).all (fun j=>ls.getD j false)&&anyB ops acts pre n (ls.setIfInBounds i true))&&(!(Region.ready .any ops ls).isEmpty||acts.all fun i=>ls.getD i false)
def upd (d:Nat→Bool) (i:Nat):Nat→Bool:=fun j=>if j=i then true else d j
def ActStep (P:Program) (ops:Array Oper) (Q:Exit→Act→World→Prop) (S:World→Prop) (J:(Nat→Bool)→Act→World→Prop) (pre:Nat→List Nat) (i:Nat):Prop:=
 ∀ d a w,d i=false→(∀ j ∈ pre i,d j=true)→S w→J d a w→wpOp P ops Q i (fun a' w'=>S w'∧J (upd d i) a' w') a w
theorem wpAnyH_acts {ops:Array Oper} {S:World→Prop} {acts:List Nat} {pre:Nat→List Nat} {J:(Nat→Bool)→Act→World→Prop} (hstep:∀ i ∈ acts,ActStep P ops Q S J pre i)
  (hend:∀ d a w,(∀ i ∈ acts,d i=true)→S w→J d a w→Q .normal a w):∀ (n:Nat) (ls:Array Bool) (a:Act) (w:World),anyB ops acts pre n ls=true→S w→J (fun j=>ls.getD j false) a w→wpAnyH P .any ops Q S n ls a w
 | 0,ls,a,w,hB,hS,hJ=>by
  simp only[anyB,Bool.and_eq_true,List.isEmpty_iff,List.all_eq_true] at hB
  exact wpAnyH_done hB.1 (hend _ a w hB.2 hS hJ) _
 | n+1,ls,a,w,hB,hS,hJ=>by
  simp only[anyB,Bool.and_eq_true,List.all_eq_true,Bool.or_eq_true] at hB
  obtain⟨h1,h2⟩:=hB
  by_cases he:Region.ready .any ops ls=[]
  ·refine wpAnyH_done he (hend _ a w ?_ hS hJ) _
   rcases h2 with h2 | h2
   ·simp[he] at h2
   ·exact fun i hi=>h2 i hi
  ·refine wpAnyH_all rfl he fun i hi=>?_
   have h3:=h1 i hi
   simp only[List.contains_iff_mem,Bool.not_eq_true',List.all_eq_true] at h3
   obtain⟨⟨⟨h4,h5⟩,h8⟩,h6⟩:=h3
   have hlt:i<ls.size:=by
    refine Classical.byContradiction fun hn=>?_
    rw[Array.getD_eq_getD_getElem?,Array.getElem?_eq_none (by omega)] at h5
    cases h5
   have h7:ls.getD i false=false:=by
    rw[Array.getD_eq_getD_getElem?,Array.getElem?_eq_getElem hlt] at h5 ⊢
    exact h5
   have hd:(fun j=>(ls.setIfInBounds i true).getD j false)=upd (fun j=>ls.getD j false) i:=by
    funext j
    unfold upd
    rw[Array.getD_eq_getD_getElem?,Array.getElem?_setIfInBounds]
    by_cases hj:i=j
    ·subst hj;simp[hlt]
    ·have:¬ j=i:=fun h=>hj h.symm
     simp[hj,this,Array.getD_eq_getD_getElem?]
   exact wpOp_mono (fun a' w' ⟨hS',h'⟩=>⟨hS',wpAnyH_acts hstep hend n _ a' w' h6 hS' (by rw[hd];exact h')⟩) (hstep i h4 _ a w h7 h8 hS hJ)
def wpSeqI (P:Program) (ops:Array Oper) (Q:Exit→Act→World→Prop) (S:World→Prop) (acts:List Nat) (pre:Nat→List Nat):List Nat→Act→World→Prop
 | [],a,w=>∃ J:(Nat→Bool)→Act→World→Prop,(∀ d,(∀ i ∈ acts,d i=false)→J d a w)∧(∀ i ∈ acts,ActStep P ops Q S J pre i)∧(∀ d a w,(∀ i ∈ acts,d i=true)→S w→J d a w→Q .normal a w)
 | i::r,a,w=>∃ (o:Oper) (v:Value),ops[i]?=some o∧(∀ c a w,Q (.panic c) (a.put o.dst v) w→Q (.panic c) a w)∧YieldsIf P ops S o v a∧wpSeqI P ops Q S acts pre r (a.put o.dst v) w
def seqIB (ops:Array Oper) (acts:List Nat) (pre:Nat→List Nat) (n:Nat):List Nat→Array Bool→Bool
 | [],listed=>anyB ops acts pre n listed&&acts.all fun i=>!(listed.getD i false)
 | i::r,listed=>Region.free .any ops listed i&&(Region.ready .any ops listed).contains i&&seqIB ops acts pre n r (listed.setIfInBounds i true)
theorem wpAnyH_of_seqI {ops:Array Oper} {S:World→Prop} {acts:List Nat} {pre:Nat→List Nat} {n:Nat} (hs:Region.noSelect ops=true):∀ (σ:List Nat) (listed:Array Bool) (a:Act) (w:World),seqIB ops acts pre n σ listed=true→S w→
  wpSeqI P ops Q S acts pre σ a w→wpAnyH P .any ops Q S (n+σ.length) listed a w
 | [],listed,a,w,hB,hS,⟨J,h1,h2,h3⟩=>by
  simp only[seqIB,Bool.and_eq_true,List.all_eq_true,Bool.not_eq_true'] at hB
  exact wpAnyH_acts h2 h3 n _ a w hB.1 hS (h1 _ hB.2)
 | i::r,listed,a,w,hB,hS,h=>by
  simp only[seqIB,Bool.and_eq_true] at hB
  obtain⟨⟨h1,h2⟩,h3⟩:=hB
  obtain⟨o,v,ho,hQ,hy,hr⟩:=h
  exact wpAnyH_take ho hs h1 h2 hQ hy hS (wpAnyH_of_seqI hs r _ _ _ h3 hS hr)
def regSeqIB (l:List Oper) (k:Nat) (σ acts:List Nat) (pre:Nat→List Nat):Bool:=
 lastB l k&&Region.noSelect (l.take k).toArray&&decide (acts.length+σ.length=k)&&seqIB (l.take k).toArray acts pre acts.length σ (Array.replicate k false)
theorem wp_region_seqI {l:List Oper} {id:Nat} {a:Act} {w:World} (S:World→Prop) (k:Nat) (σ acts:List Nat) (pre:Nat→List Nat) (hm:P.follows .mixedOrders=true) (hB:regSeqIB l k σ acts pre=true) (hS:S w.drew)
  (h:wpSeqI P (l.take k).toArray (thenK (fun a w=>wpList P l.toArray Q (l.drop k) a w) Q) S acts pre σ a w.drew):(Code.region id l.toArray true).wp P Q a w:=by
 simp only[regSeqIB,Bool.and_eq_true,decide_eq_true_eq] at hB
 obtain⟨⟨⟨h1,h2⟩,h3⟩,h4⟩:=hB
 refine wp_region_last k hm h1 (wpAny_of_held (S:=S) _ _ _ _ ?_)
 have:=wpAnyH_of_seqI h2 σ _ a w.drew h4 hS h
 rw[h3] at this
 exact this
theorem wpSeqI_fix {ops:Array Oper} {S:World→Prop} {acts:List Nat} {pre:Nat→List Nat} {i:Nat} {r:List Nat} {a:Act} {w:World} (o:Oper) (v:Value) (ho:ops[i]?=some o) (hQ:∀ c a w,Q (.panic c) (a.put o.dst v) w→Q (.panic c) a w)
  (hy:YieldsIf P ops S o v a) (h:wpSeqI P ops Q S acts pre r (a.put o.dst v) w):wpSeqI P ops Q S acts pre (i::r) a w:=⟨o,v,ho,hQ,hy,h⟩
theorem wpSeqI_acts {ops:Array Oper} {S:World→Prop} {acts:List Nat} {pre:Nat→List Nat} {a:Act} {w:World} (J:Act→(Nat→Bool)→Act→World→Prop) (h1:∀ d,(∀ i ∈ acts,d i=false)→J a d a w)
  (h2:∀ i ∈ acts,ActStep P ops Q S (J a) pre i) (h3:∀ d b w,(∀ i ∈ acts,d i=true)→S w→J a d b w→Q .normal b w):wpSeqI P ops Q S acts pre [] a w:=⟨J a,h1,h2,h3⟩
theorem actStep_op {ops:Array Oper} {S:World→Prop} {J:(Nat→Bool)→Act→World→Prop} {pre:Nat→List Nat} {i:Nat} {o:Oper} (ho:ops[i]?=some o) (hg:o.guard=none)
  (h:∀ d a w,d i=false→(∀ j ∈ pre i,d j=true)→S w→J d a w→o.wp P a w (fun a' w'=>S w'∧J (upd d i) a' w') Q):ActStep P ops Q S J pre i:=fun d a w h0 h1 h2 h3=>wpOp_act ho hg (h d a w h0 h1 h2 h3)
theorem acts_nil {p:Nat→Prop}:∀ i ∈ ([]:List Nat),p i:=fun i h=>by cases h
theorem acts_cons {p:Nat→Prop} {i:Nat} {r:List Nat} (h1:p i) (h2:∀ j ∈ r,p j):∀ j ∈ i::r,p j:=fun j h=>by
 rcases List.mem_cons.1 h with rfl | h
 ·exact h1
 ·exact h2 j h
end
end Go.Proofs.YtchhdflealgkaaaGreat
