import Derived.Test.YtdjkeplekchfdaaGreatPy31
namespace Go.Proofs.YtdjkeplekchfdaaGreat
open Go.RowKit
set_option linter.unusedSimpArgs false
set_option linter.unusedVariables false
/-! law15.AtlasLineage -/
theorem Run.uncons {c:Cfg} {s s':St} {e:Ent} {es:List Ent} (h:Run c s (e::es) s'):∃ x,applyP c s e=(x,0)∧Run c x es s':=by
 cases h with
 | cons h hr=>exact⟨_,h,hr⟩
theorem drop_at {es:List Ent} {i:Int} (hi:0≤i∧i<es.length):es.drop i.toNat=es.getD i.toNat default::es.drop (i+1).toNat:=by
 rw[show (i+1).toNat=i.toNat+1 by omega,List.drop_eq_getElem_cons (by omega),List.getD_eq_getElem?_getD,List.getElem?_eq_getElem (by omega)]
 rfl
abbrev lnF2:FT:=[(28,ctValidGP),(54,ctFollows)]
abbrev lnD2:List (Nat×DQ):=[(2000002,{ k:=0,L:=[0,1,2,3,4,5,6,7,8,9,10,11,12,13,14,15,16,17,18,19,20,21,22,23,24,25,26,27,28,29,30,31,32,33,34,35,36,37,38,39,40,41,42,43,44,45,46,47,48,49,50,51,52,53,54,55,56,57,58,59,60],sl:=[1,2,3,9,10] }),(4,{ k:=15,L:=[0,1,2,3,4,5,6,7,8,9,10,11,12,13,14,15,16,17,18,19,20,21,22,23,24,25,26,27,28,29,30,31,32,33,34,35,36,37,38,39,40,41,42,43,44,45,46,47,48,49,50,51,52,53,54,55,56,57,58,59,60],pre:=[(0,false),(1,false),(2,false),(3,true),(4,false),(5,false),(6,false),(7,false),(8,false),(9,false),(10,false),(11,false),(12,false),(13,false),(14,false)] })]
abbrev ctLin:CT:=ctInl ttL lnF2 lnD2 Tryz.f22 (bodyOf Tryz.f22)
theorem linOk {I:List Nat} (hI:I.contains 22=true):CSoundI Tryz.prog I 22 ctLin:=inl_ok ttLok (fti_cons (validGPOk.i _) (fti_cons (followsOk.i _) fti_nil)) mixed (by kernel_rfl) Tryz.func22 rfl (by kernel_rfl) hI
def lgF15:FT:=[(6,ctLight),(8,ctAwake15),(17,ctConfig),(18,ctNewS),(19,ctMakeGP),(20,ctLog),(21,ctApply),(22,ctLin)]
def lgD15:List (Nat×DQ):=[(9000000,{ k:=0,L:=[22] }),(3000009,{ k:=33,L:=[0,1,2,3,4,5,6,7,8,9,10,11,12,13,14,15,16,17,18,19,27],sl:=[2,7,8,9,11] }),(11,{ k:=12,L:=[0,1,2,3,4,5,6,7,8,9,10,11,12,13,14,15,16,17,18,19,20,21,22,23,24,25,26,27,28,29,30,31,32,33,34,35,36,37,38,39,40,41,42,43,44,45,46,47,48,49,50,51,52,53,54,55,56,57,58,59,60],A:=[10],pre:=[(0,false),(1,false),(2,false),(3,false),(4,false),(5,false),(6,true),(7,false),(8,false),(9,false)],post:=[(11,true)] })]
theorem lgFok15:FTokI Tryz.prog lgF15 (inlOf lgD15):=fti_cons (lightOk.i _) (fti_cons (awake15Ok.i _) (fti_cons (configOk.i _) (fti_cons (newSOk.i _) (fti_cons (makeGPOk.i _) (fti_cons (logOk.i _) (fti_cons (applyOk.i _) (fti_cons (linOk (by decide)) fti_nil)))))))
set_option maxRecDepth 100000 in
set_option maxHeartbeats 8000000 in
theorem lineage_sx (cap0 cap1:Nat) (l more:List Int) (key:Int) (hm0:l.length≤maxLen) (hm1:more.length≤maxLen) :
  sx ttL lgF15 lgD15 (bodyOf Tryz.f4) (argF 0 [slc 0 l.length cap0,slc 1 more.length cap1,.int .i64 key]) (uniM { l0:=l,l1:=more }) 13 (endx ttL Tryz.f4.results.toList fun v _ _=>v=.bool true):=by
 refine⟨0,cap0,l,rfl,rfl,hm0,?_⟩
 refine⟨fun h=>?_,fun h0=>?_⟩
 ·repeat (first | refine⟨fun _=>?_,fun h=>Bool.noConfusion h⟩ | refine⟨fun h=>Bool.noConfusion h,fun _=>?_⟩ | fail)
  exact⟨rfl,rfl⟩
 ·refine⟨1,cap1,more,rfl,rfl,hm1,?_⟩
  refine⟨fun h=>?_,fun h1=>?_⟩
  ·repeat (first | refine⟨fun _=>?_,fun h=>Bool.noConfusion h⟩ | refine⟨fun h=>Bool.noConfusion h,fun _=>?_⟩ | fail)
   exact⟨rfl,rfl⟩
  ·have hl0:l.length≤200:=by simpa using h0
   have hl1:more.length≤200:=by simpa using h1
   clear h0 h1 hm0 hm1
   refine⟨0,cap0,l,rfl,rfl,by omega,?_⟩
   intro xk c hM
   have hV:=cfgV_of hM.valid
   have hnt:=hV.nt
   have hnc:=hV.nc
   have hm1:=hM.zones
   have hm2:=hM.cells
   have hm3:=hM.tenants
   have hm4:=hM.versions
   have hm5:=hM.replicas
   have hm6:=hM.observers
   refine⟨⟨18,17,16,15,14,13,500000⟩,xk,c,rfl,kp_,⟨by omega,by omega⟩,fun y0=>?_⟩
   have hJ0:=RInv.new hV
   have hNl:(routesOf (stNew c)).length=(stNew c).tenants.length:=routes_len _
   refine⟨⟨18,17,16,15,14,13,500000⟩,xk,c,⟨21,20,500000⟩,y0,stNew c,0,0,zs0,0,0,key,rfl,⟨HasCfg.keeps kp_,.list rfl,.list rfl⟩,⟨_,_,_,rfl⟩,atlIn_st hV hJ0.inv _,fun cp1=>?_⟩
   refine⟨atlEl [makeA (stNew c) 0 key] [cp1],famA [makeA (stNew c) 0 key],⟨fun k hk=>?_,fun k hk o=>famA_out hk o⟩,?_⟩
   ·match k,hk with
    | 0,_=>exact⟨rfl,fun o=>famA_list _ o rfl⟩
   refine⟨⟨18,17,16,15,14,13,500000⟩,xk,c,1,cap1,more,20,rfl,⟨kp_,⟨_,_,_,rfl,Nat.le_refl _,fun k hk=>rfl⟩⟩,⟨hV,by omega,by decide⟩,?_⟩
   intro es sF cap2 hR hen hcp
   refine⟨Int×St×StK×Int×Nat×List Atl×List Nat×Nat×Nat,fun q=>match q with | (i,s,y,par,cpa,xs,cps,cap,cp)=>[(10,.slice (some ⟨32,0,none⟩) xs.length cap),(12,.int .i64 i)],fun q=>match q with | (i,s,y,par,cpa,xs,cps,cap,cp)=>[(22,.box 52 [.int .i64 s.tick,.int .i64 s.count,slc 29 s.tenants.length y.ct,slc 28 s.cells.length y.cc,.int .i64 s.proven,.int .i64 s.evac,.int .i64 s.low,.int .i64 s.high]),(24,.box 26 [.int .i64 (makeA s par key).number,.int .i64 (makeA s par key).tick,slc 30 (routesOf s).length cpa,.int .u64 (makeA s par key).parent,.int .u64 (makeA s par key).sum]),(28,rowOfL 500000 4 csC default s.cells),(29,rowOfL 500000 12 tsC default s.tenants),(30,rowOfL 500000 2 pairC (0,0) (routesOf s)),(31,famB 500000 xs),(32,deepA (1000000+26) cp xs cps 31)],fun q=>match q with | (i,s,y,par,cpa,xs,cps,cap,cp)=>(RInv c s∧Run c s (es.drop i.toNat) sF)∧LnP c key xs∧(cps.length=xs.length∧cap=cp)∧(0≤i∧i≤es.length)∧(xs.length:Int)=i+1∧xs.getD (xs.length-1) aZ=makeA s par key,fun q=>match q with | (i,s,y,par,cpa,xs,cps,cap,cp)=>((es.length:Int)-i).toNat,⟨(0,stNew c,y0,0,cp1,[makeA (stNew c) 0 key],[cp1],1,1),[(28,20),(29,21),(30,23),(31,25),(32,26)],⟨⟨hJ0,hR⟩,.one (make_valid hM.valid hV hJ0.inv 0 key),⟨rfl,rfl⟩,by omega,rfl,rfl⟩,⟨rfl,rfl⟩,kp_,kp_⟩,?_⟩
   clear hJ0 hNl cp1 y0 hR
   rintro⟨i,s,y,par,cpa,xs,cps,cap,cp⟩ ⟨⟨hJ,hR⟩,hL,⟨hcl,rfl⟩,hi,hxl,hlast⟩
   refine⟨⟨by decide,rfl,rfl⟩,?_⟩
   refine⟨fun hlt=>?_,fun hge=>?_⟩
   ·have hlt2:i<(es.length:Int):=of_decide_eq_true hlt
    rw[drop_at ⟨hi.1,hlt2⟩] at hR
    obtain⟨x,he,hR2⟩:=hR.uncons
    have hJ2:=hJ.step hV he
    have hf:=fol_step hV hJ.inv he par key key
    refine⟨⟨Nat.le_refl _,hi.1,hlt2⟩,?_⟩
    refine⟨⟨18,17,16,15,14,13,500000⟩,xk,c,⟨29,28,500000⟩,y,s,es.getD i.toNat default,rfl,kp_,kp_,hV,hJ.inv,fun y2=>?_⟩
    rw[he]
    refine⟨kp_,?_⟩
    refine⟨kp_,?_⟩
    repeat (first | refine⟨fun _=>?_,fun h=>Bool.noConfusion h⟩ | refine⟨fun h=>Bool.noConfusion h,fun _=>?_⟩ | fail)
    refine⟨⟨18,17,16,15,14,13,500000⟩,xk,c,⟨35,34,500000⟩,y2,x,_,_,_,_,_,key,rfl,⟨HasCfg.keeps kp_,.list rfl,.list rfl⟩,⟨_,_,_,rfl⟩,atlIn_st hV hJ2.inv _,fun cp2=>?_⟩
    refine⟨atlEl [(makeA x (makeA s par key).sum key)] [cp2],famA [(makeA x (makeA s par key).sum key)],⟨fun k hk=>?_,fun k hk o=>famA_out hk o⟩,?_⟩
    ·match k,hk with
     | 0,_=>exact⟨rfl,fun o=>famA_list _ o rfl⟩
    refine⟨⟨Nat.le_refl _,fun k hk=>(match k,hk with | 0,_=>rfl)⟩,?_⟩
    refine⟨⟨⟨rfl,rfl⟩,by decide,by show (xs.length+1) * 56≤140737488355328;omega⟩,fun cap3 hcp3=>⟨atlEl (xs++[(makeA x (makeA s par key).sum key)]) (cps++[cp2]),famA (xs++[(makeA x (makeA s par key).sum key)]),app_at hcl,?_⟩⟩
    have hlx:xs.length+1=(xs++[(makeA x (makeA s par key).sum key)]).length:=by simp
    rw[hlx]
    refine⟨(IntKind.i64.wrap (i+1),x,y2,(makeA s par key).sum,cp2,xs++[(makeA x (makeA s par key).sum key)],cps++[cp2],cap3,cap3),[(28,34),(29,35),(30,36),(31,39),(32,40)],?_,⟨rfl,rfl⟩,kp_,kp_⟩
    dsimp only
    rw[wrapi (n:=i+1) (by omega)]
    refine⟨⟨⟨hJ2,hR2⟩,hL.snoc (by omega) hlast (make_valid hM.valid hV hJ2.inv _ key) hf,⟨by simp[hcl],rfl⟩,by omega,by simp;omega,?_⟩,by omega⟩
    rw[show (xs++[(makeA x (makeA s par key).sum key)]).length-1=xs.length by simp,getD_endA]
   ·refine⟨rfl,?_⟩
    repeat (first | refine⟨fun _=>?_,fun h=>Bool.noConfusion h⟩ | refine⟨fun h=>Bool.noConfusion h,fun _=>?_⟩ | fail)
    clear hge hR hJ
    refine⟨Int,fun j=>[(11,.int .i64 j)],fun _=>[],fun j=>0≤j∧j≤xs.length,fun j=>((xs.length:Int)-j).toNat,⟨0,by omega,kp_,kp_⟩,?_⟩
    rintro j hj
    refine⟨⟨rfl,rfl⟩,?_⟩
    refine⟨fun hlt=>?_,fun hge=>?_⟩
    ·have hlt2:j<(xs.length:Int):=of_decide_eq_true hlt
     refine⟨⟨Nat.le_refl _,hj.1,hlt2⟩,?_⟩
     refine⟨_,c,xs.getD j.toNat aZ,_,key,rfl,⟨.has (N:=⟨18,17,16,15,14,13,500000⟩) (x:=xk) (HasCfg.keeps kp_),.fam rfl⟩,hM.lens,fun b1 hb1=>?_⟩
     obtain rfl:b1=true:=hb1.2 (hL.val _ (by omega))
     refine⟨kp_,?_⟩
     repeat (first | refine⟨fun _=>?_,fun h=>Bool.noConfusion h⟩ | refine⟨fun h=>Bool.noConfusion h,fun _=>?_⟩ | fail)
     refine⟨fun hp=>?_,fun hp=>?_⟩
     ·have hp2:j>0:=of_decide_eq_true hp
      have w1:=wrapi (n:=j-1) (by omega)
      refine⟨⟨Nat.le_refl _,by rw[w1];omega,by rw[w1];omega⟩,?_⟩
      rw[w1]
      have hfl:=hL.fol (j-1).toNat (by omega)
      rw[show (j-1).toNat+1=j.toNat by omega] at hfl
      refine⟨xs.getD (j-1).toNat aZ,xs.getD j.toNat aZ,_,_,rfl,⟨.fam rfl,.fam rfl⟩,by rw[(hL.val _ (by omega)).len];omega,fun r hr=>?_⟩
      obtain rfl:r=true:=hr.2 hfl
      repeat (first | refine⟨fun _=>?_,fun h=>Bool.noConfusion h⟩ | refine⟨fun h=>Bool.noConfusion h,fun _=>?_⟩ | fail)
      refine⟨_,?_,kp_,kp_⟩
      rw[wrapi (n:=j+1) (by omega)]
      dsimp only
      exact⟨by omega,by omega⟩
     ·repeat (first | refine⟨fun _=>?_,fun h=>Bool.noConfusion h⟩ | refine⟨fun h=>Bool.noConfusion h,fun _=>?_⟩ | fail)
      refine⟨_,?_,kp_,kp_⟩
      rw[wrapi (n:=j+1) (by omega)]
      dsimp only
      exact⟨by omega,by omega⟩
    ·rfl
theorem atlasLineage_law (a0:Option Addr) (cap0:Nat) (z0:List Int) (a1:Option Addr) (cap1:Nat) (z1:List Int) (key:Int) (W:World) (hr0:Rd W (·<W.heap.size) a0 (z0.map (Value.int .i64))) (hm0:z0.length≤maxLen) (hr1:Rd W (·<W.heap.size) a1 (z1.map (Value.int .i64))) (hm1:z1.length≤maxLen) (hw_key:(Lit.int .i64 key).wf=true) :
  Calls Tryz.prog 4 #[.slice a0 z0.length cap0,.slice a1 z1.length cap1,.int .i64 key] W fun e w'=>e=.returned (.bool true)∧Below W.heap.size W w':=by
 rw[← flat_ints] at hr0 hr1
 have h:=uni_calls ttLok lgFok15 Tryz.func4 rfl (D:=lgD15) (by kernel_rfl) (vs:=[slc 0 z0.length cap0,slc 1 z1.length cap1,.int .i64 key]) rfl { a0:=a0,a1:=a1 } { l0:=z0,l1:=z1 } W { r0:=hr0,r1:=hr1 } (fun v hv=>by
  simp only[List.mem_cons,List.not_mem_nil,or_false] at hv
  rcases hv with rfl | rfl | rfl
  ·exact⟨show (0:Nat)<13 by decide,rfl⟩
  ·exact⟨show (1:Nat)<13 by decide,rfl⟩
  ·trivial
  ) (lineage_sx cap0 cap1 z0 z1 key hm0 hm1)
 refine h.mono ?_
 rintro e w' ⟨v,mem',nx',ρ',rfl,rfl,hv,hm',hb⟩
 exact⟨rfl,hb⟩
end Go.Proofs.YtdjkeplekchfdaaGreat
