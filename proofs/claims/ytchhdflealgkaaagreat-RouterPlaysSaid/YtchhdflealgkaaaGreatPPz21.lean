import Derived.Test.YtchhdflealgkaaaGreatPq20
namespace Go.Proofs.YtchhdflealgkaaaGreat
open Go.RowKit
set_option linter.unusedSimpArgs false
set_option linter.unusedVariables false
/-! law16.RouterPlays -/
abbrev tkF1:FT:=[(85,ctValidGP),(61,ctCkRoute),(86,ctDelG)]
abbrev tkD1:List (Nat×DQ):=[(1,{ k:=9,L:=[28,60],pre:=[(0,false),(1,false),(2,false),(3,false),(4,false),(5,false),(6,false),(7,false),(8,false)] }),(3,{ k:=12,L:=[28,60],pre:=[(0,false),(1,false),(2,false),(3,false),(4,false),(5,false),(6,false),(7,false),(8,false),(9,false),(10,false),(11,false)] }),(6,{ k:=6,L:=[60],pre:=[(0,false),(1,false),(2,false),(3,false),(4,false),(5,true)] })]
theorem tkFok1:FTokI Tryz.prog tkF1 (inlOf tkD1):=fti_cons (validGPOk.i _) (fti_cons (ckRouteOk.i _) (fti_cons (delGOk.i _) fti_nil))
abbrev ctTk1:CT:=ctInl ttR tkF1 tkD1 Tryz.f57 (bodyOf Tryz.f57)
theorem tk1Ok {I:List Nat} (hI:I.contains 57=true):CSoundI Tryz.prog I 57 ctTk1:=inl_ok ttRok (tkFok1) mixed (by kernel_rfl) Tryz.func57 rfl (by kernel_rfl) hI
abbrev tqF1:FT:=[(88,ctValidGR)]
abbrev tqD1:List (Nat×DQ):=[(1,{ k:=9,L:=[31,61,62],pre:=[(0,false),(1,false),(2,false),(3,false),(4,false),(5,false),(6,false),(7,false),(8,false)] }),(3,{ k:=12,L:=[31,61,62],pre:=[(0,false),(1,false),(2,false),(3,false),(4,false),(5,false),(6,false),(7,false),(8,false),(9,false),(10,false),(11,false)] }),(5,{ k:=6,L:=[62],pre:=[(0,false),(1,false),(2,false),(3,false),(4,false),(5,true)] }),(10,{ k:=14,L:=[31,30,62],pre:=[(0,false),(1,false),(2,false),(3,false),(4,false),(5,false),(6,false),(7,false),(8,false),(9,false),(10,false),(11,true),(12,true),(13,true)] }),(2000008,{ k:=0,L:=[0,1,2,3,4,5,6,7,8,9,10,11,12,13,14,15,16,17,18,19,20,21,22,23,24,25,26,27,28,29,31,32,33,34,35,36,37,38,39,40,41,42,43,44,45,46,47,48,49,50,51,52,53,54,55,56,57,58,59,60,61,62,63,64,65],sl:=[0,3,4] })]
abbrev ctTq1:CT:=ctInl ttP tqF1 tqD1 Tryz.f58 (bodyOf Tryz.f58)
theorem tq1Ok {I:List Nat} (hI:I.contains 58=true):CSoundI Tryz.prog I 58 ctTq1:=inl_ok ttPok (fti_cons (validGROk.i _) fti_nil) mixed (by kernel_rfl) Tryz.func58 rfl (by kernel_rfl) hI
abbrev boF1:FT:=[(56,ctMod),(38,ctBwG),(57,ctTk1),(58,ctTq1),(35,ctLn),(60,ctLnQ),(59,ctSigned),(13,ctSmP)]
abbrev boD1:List (Nat×DQ):=[(9000000,{ k:=0,L:=[57,58,35,60,13] }),(9,{ k:=5,L:=[55],pre:=[(0,false),(1,false),(3,false),(4,false),(2,true)] }),(14,{ k:=5,L:=[0,1,2,3,4,5,6,7,8,9,10,11,12,13,14,15,16,17,18,19,20,21,22,23,24,25,26,27,28,29,30,31,32,33,34,35,36,37,38,39,40,41,42,43,44,45,46,47,48,49,50,51,52,53,54,55,56,57,58,59,60,61,62,63,64,65,66,67,68,69,70,71,72,73,74,75,76,77,78,79,80,81,82,83,84,85,86,87,88,89,90,91,92,93,94,95,96,97,98,99],pre:=[(0,false),(1,false),(2,false),(3,false),(4,false)] }),(15,{ k:=5,L:=[55],pre:=[(0,false),(1,false),(3,false),(4,false),(2,true)] }),(18,{ k:=15,L:=[54],pre:=[(0,false),(1,false),(2,false),(3,false),(4,false),(5,false),(6,false),(8,false),(9,false),(10,false),(11,false),(12,false),(13,false),(14,false),(7,true)] }),(3,{ k:=8,L:=[54],pre:=[(0,false),(1,false),(3,false),(4,false),(6,false),(7,false),(2,true),(5,true)] }),(5000009,{ k:=60,L:=[0,1,2,3,4,5,6,7,8,9,10,11,12,13,14,15,16,17,18,19,20,21,22,23,24,25,26,27,28,29,30,31,32,33,34,35,36,37,38,39,40,41,42,43,44,45,46,47,48,49,50,51,52,53,54,55,56,57,58,59],sl:=[0,1,2,7,9,23] }),(4000020,{ k:=100,L:=[0,1,2,3,4,5,6,7,8,9,10,11,12,13,14,15,16,17,18,19,20,21,22,23,24,25,26,29,32,33,34,35,36,37,38,39,40,41,42,43,44,45,46,47,48,49,50,51],sl:=[0,1] })]
theorem boFok1:FTokI Tryz.prog boF1 (inlOf boD1):=fti_cons (modOk.i _) (fti_cons (bwGOk.i _) (fti_cons (tk1Ok (by decide)) (fti_cons (tq1Ok (by decide)) (fti_cons (lnOk (by decide)) (fti_cons (lnQOk (by decide)) (fti_cons (signedOk.i _) (fti_cons (smPOk (by decide)) fti_nil)))))))
abbrev ctBo1:CT:=ctInl ttP boF1 boD1 Tryz.f15 (bodyOf Tryz.f15)
theorem bo1Ok {I:List Nat} (hI:I.contains 15=true):CSoundI Tryz.prog I 15 ctBo1:=inl_ok ttPok (boFok1) mixed (by kernel_rfl) Tryz.func15 rfl (by kernel_rfl) hI
def pzF:FT:=[(8,ctLight),(9,ctAwake16),(10,ctConfig),(11,ctRN),(12,ctNwQ),(13,ctSmP),(14,ctCopies),(15,ctBo1)]
def pzD:List (Nat×DQ):=[(9000000,{ k:=0,L:=[11,12,13,15] }),(1000006,{ k:=34,L:=[0,1,2,3,4,5,6,7,8,9,10,11,12,13,14,15,16,17,18],sl:=[] }),(4000009,{ k:=52,L:=[0,1,2,3,4,5,6,7,8,9,10,11,12,13,14,15,16,17,18,19,20,21,22,23,24,25,26,27,28,29,30,31,32,33,34,35,36,37,38,39,40,41,42,43,44,45,46,47,48,49],sl:=[2,3,10,12] }),(3000010,{ k:=54,L:=[0,1,2,3,4,5,6,7,8,9,10,11,12,13,14,15,16,17,18,19,20,21,22,23,24,25,26,29,32,33,34,35,36,37,38,39,40,41,42,43,44,45,46,47,48,49,50,51],sl:=[2,3,10,12,14] })]
theorem pzFok:FTokI Tryz.prog pzF (inlOf pzD):=fti_cons (lightOk.i _) (fti_cons (awake16Ok.i _) (fti_cons (configOk.i _) (fti_cons (rnOk (by decide)) (fti_cons (nwQOk (by decide)) (fti_cons (smPOk (by decide)) (fti_cons (copiesOk.i _) (fti_cons (bo1Ok (by decide)) fti_nil)))))))
set_option maxRecDepth 100000 in
set_option maxHeartbeats 400000000 in
theorem plays_sx (cap0 cap1 cap2:Nat) (l more:List Int) (st:List CS) (key:Int) (hm0:l.length≤maxLen) (hm1:more.length≤maxLen) (hm2:st.length≤maxLen) :
  sx ttP pzF pzD (bodyOf Tryz.f3) (argF 0 [slc 0 l.length cap0,slc 1 more.length cap1,.int .i64 key,slc 10 st.length cap2]) (uniM { l0:=l,l1:=more,s:={ noS with cells:=st } }) 13 (endx ttP Tryz.f3.results.toList fun v _ _=>v=.bool true):=by
 refine⟨0,cap0,l,rfl,rfl,hm0,?_⟩
 refine⟨fun h=>?_,fun h0=>?_⟩
 ·repeat (first | refine⟨fun _=>?_,fun h=>Bool.noConfusion h⟩ | refine⟨fun h=>Bool.noConfusion h,fun _=>?_⟩ | fail)
  exact⟨rfl,rfl⟩
 ·refine⟨1,cap1,more,rfl,rfl,hm1,?_⟩
  refine⟨fun h=>?_,fun h1=>?_⟩
  ·repeat (first | refine⟨fun _=>?_,fun h=>Bool.noConfusion h⟩ | refine⟨fun h=>Bool.noConfusion h,fun _=>?_⟩ | fail)
   exact⟨rfl,rfl⟩
  ·refine⟨fun h=>?_,fun h2=>?_⟩
   ·exact⟨rfl,rfl⟩
   ·have hl0:l.length≤200:=by simpa using h0
    have hl1:more.length≤200:=by simpa using h1
    have hl2:st.length≤40:=by have:=of_decide_eq_false h2;omega
    clear h0 h1 h2 hm0 hm1 hm2
    refine⟨0,cap0,l,rfl,rfl,by omega,?_⟩
    intro xk c hM
    have hV:=cfgV_of hM.valid
    have hnt:=hV.nt
    have hnc:=hV.nc
    have hm1:=hM.zones
    have hm2:=hM.cells
    have hm3:=hM.tenants
    have hm4:=hM.versions
    have hm5:=hM.replicas
    have hm6:=hM.observers
    refine⟨_,c,rfl,.has (N:=⟨18,17,16,15,14,13,500000⟩) (x:=xk) (HasCfg.keeps kp_),hM.lens,?_⟩
    refine⟨fun q=>absurd q (by rw[hM.valid];decide),fun _=>?_⟩
    refine⟨_,c.zones,rfl,.inr (.inl ⟨18,_,rfl,.list rfl⟩),by omega,fun k_zones=>?_⟩
    refine⟨_,c.cells,rfl,.inr (.inl ⟨17,_,rfl,.list rfl⟩),by omega,fun k_cells=>?_⟩
    refine⟨_,c.tenants,rfl,.inr (.inl ⟨16,_,rfl,.list rfl⟩),by omega,fun k_tenants=>?_⟩
    refine⟨_,c.versions,rfl,.inr (.inl ⟨15,_,rfl,.list rfl⟩),by omega,fun k_versions=>?_⟩
    refine⟨_,c.replicas,rfl,.inr (.inl ⟨14,_,rfl,.list rfl⟩),by omega,fun k_replicas=>?_⟩
    refine⟨_,c.observers,rfl,.inr (.inl ⟨13,_,rfl,.list rfl⟩),by omega,fun k_observers=>?_⟩
    repeat (first | refine⟨fun _=>?_,fun h=>Bool.noConfusion h⟩ | refine⟨fun h=>Bool.noConfusion h,fun _=>?_⟩ | fail)
    refine⟨(Int→Option (Int×Int))×HF,fun _=>[(0,slc 0 l.length cap0),(1,slc 1 more.length cap1),(2,.int .i64 key),(3,slc 10 st.length cap2),(9,ptr 19),(10,ptr 28),(11,.int .i64 0),(12,ptr 31)],fun q=>match q with | (hm,hf)=>[(28,.box 114 [.int .i64 c.regions,slc 21 c.zones.length k_zones,slc 22 c.cells.length k_cells,slc 23 c.tenants.length k_tenants,slc 24 c.versions.length k_versions,slc 25 c.replicas.length k_replicas,slc 26 c.observers.length k_observers,.int .i64 c.blast,.int .i64 c.lease,.int .i64 c.bake,.int .i64 key,.bool false,.int .i64 0,.int .i64 0,zs0,.int .u64 0,.int .u64 0,.map (some 27)]),(27,.ext (.map .i64 true (hintF hm))),(30,.row (1000000+92) 2 c.tenants.length (fun k=>pairC (hf k))),(31,.box 116 [.int .i64 c.regions,slc 18 c.zones.length xk.cz,slc 17 c.cells.length xk.cc,slc 16 c.tenants.length xk.ct,slc 15 c.versions.length xk.cv,slc 14 c.replicas.length xk.cr,slc 13 c.observers.length xk.co,.int .i64 c.blast,.int .i64 c.lease,.int .i64 c.bake,.int .i64 key,.bool false,.int .i64 0,.int .i64 0,zs0,.int .u64 0,.int .u64 0,slc 30 c.tenants.length c.tenants.length]),(21,rowOfL 500000 1 intC 0 c.zones),(22,rowOfL 500000 2 pairC (0,0) c.cells),(23,rowOfL 500000 7 tenC default c.tenants),(24,rowOfL 500000 2 pairC (0,0) c.versions),(25,rowOfL 500000 1 intC 0 c.replicas),(26,rowOfL 500000 1 intC 0 c.observers),(18,rowOfL 500000 1 intC 0 c.zones),(17,rowOfL 500000 2 pairC (0,0) c.cells),(16,rowOfL 500000 7 tenC default c.tenants),(15,rowOfL 500000 2 pairC (0,0) c.versions),(14,rowOfL 500000 1 intC 0 c.replicas),(13,rowOfL 500000 1 intC 0 c.observers),(19,.box 31 [.int .i64 c.regions,slc 18 c.zones.length xk.cz,slc 17 c.cells.length xk.cc,slc 16 c.tenants.length xk.ct,slc 15 c.versions.length xk.cv,slc 14 c.replicas.length xk.cr,slc 13 c.observers.length xk.co,.int .i64 c.blast,.int .i64 c.lease,.int .i64 c.bake])],fun q=>match q with | (hm,hf)=>hm=hmOf c.tenants.length hf∧HfOk c.tenants.length hf,?_,?_⟩
    ·refine⟨_,c,rfl,.has (N:=⟨18,17,16,15,14,13,500000⟩) (x:=xk) (HasCfg.keeps kp_),hM.lens,?_⟩
     refine⟨fun q=>absurd q (by rw[hM.valid];decide),fun _=>?_⟩
     refine⟨⟨Int.le_refl _,by omega,by show (c.tenants.length:Int) * 16≤281474976710656;omega⟩,?_⟩
     refine⟨kp_,?_⟩
     exact⟨(fun _=>none,fun _=>(0,0)),⟨(hmOf_new _).symm,fun k hk=>Int.le_refl _⟩,kp_,kp_⟩
    rintro⟨hm,hf⟩ ⟨rfl,hH⟩
    refine⟨⟨by decide,rfl,rfl⟩,?_⟩
    repeat (first | refine⟨fun _=>?_,fun h=>Bool.noConfusion h⟩ | refine⟨fun h=>Bool.noConfusion h,fun _=>?_⟩ | fail)
    refine⟨Int,fun z=>[(5,.int .i64 z)],fun _=>[],fun z=>-1≤z∧z≤(c.tenants.length:Int)+1,fun z=>((c.tenants.length:Int)+1-z).toNat,⟨-1,by omega,kp_,kp_⟩,?_⟩
    rintro z hz
    refine⟨⟨rfl,rfl⟩,?_⟩
    refine⟨fun hzl=>?_,fun hzg=>?_⟩
    ·have hzl2:z≤(c.tenants.length:Int):=of_decide_eq_true hzl
     clear hzl
     by_cases hr:0≤z∧z<(c.tenants.length:Int)
     ·by_cases he:(hf z.toNat).2=0
      ·refine⟨fun l hl=>?_,fun _=>?_⟩
       ·obtain⟨p,hp,-⟩:=hintF_some hl
        rw[hmOf_no hr he] at hp
        cases hp
       ·repeat (first | refine⟨fun _=>?_,fun h=>Bool.noConfusion h⟩ | refine⟨fun h=>Bool.noConfusion h,fun _=>?_⟩ | refine⟨⟨by first | exact Nat.le_refl _ | omega | fail,by first | omega | (dsimp only;omega) | fail,by first | omega | (dsimp only;omega) | fail⟩,?_⟩ | refine⟨fun q=>absurd q (by first | (simp[eqCs,eqC1];done) | fail),fun _=>?_⟩ | refine⟨fun _=>?_,fun q=>absurd q (by first | omega | (simp[-List.getD_eq_getElem?_getD];done) | (simp[-List.getD_eq_getElem?_getD];omega) | fail)⟩ | refine⟨fun q=>absurd q (by first | omega | (simp[-List.getD_eq_getElem?_getD];done) | (simp[-List.getD_eq_getElem?_getD];omega) | fail),fun _=>?_⟩ | fail)
        refine⟨fun l hl=>?_,fun _=>?_⟩
        ·obtain⟨p,hp,-⟩:=hintF_some hl
         rw[hmOf_no hr he] at hp
         cases hp
        ·repeat (first | refine⟨fun _=>?_,fun h=>Bool.noConfusion h⟩ | refine⟨fun h=>Bool.noConfusion h,fun _=>?_⟩ | refine⟨⟨by first | exact Nat.le_refl _ | omega | fail,by first | omega | (dsimp only;omega) | fail,by first | omega | (dsimp only;omega) | fail⟩,?_⟩ | refine⟨fun q=>absurd q (by first | (simp[eqCs,eqC1];done) | fail),fun _=>?_⟩ | refine⟨fun _=>?_,fun q=>absurd q (by first | omega | (simp[-List.getD_eq_getElem?_getD];done) | (simp[-List.getD_eq_getElem?_getD];omega) | fail)⟩ | refine⟨fun q=>absurd q (by first | omega | (simp[-List.getD_eq_getElem?_getD];done) | (simp[-List.getD_eq_getElem?_getD];omega) | fail),fun _=>?_⟩ | fail)
         refine⟨_,?_,kp_,kp_⟩
         rw[wrapi (n:=z+1) (by omega)]
         dsimp only
         exact⟨by omega,by omega⟩
      ·refine⟨fun l hl=>?_,fun hl=>?_⟩
       ·obtain⟨p,hp,rfl⟩:=hintF_some hl
        rw[hmOf_in hr he] at hp
        obtain rfl:=Option.some.inj hp
        repeat (first | refine⟨fun _=>?_,fun h=>Bool.noConfusion h⟩ | refine⟨fun h=>Bool.noConfusion h,fun _=>?_⟩ | refine⟨⟨by first | exact Nat.le_refl _ | omega | fail,by first | omega | (dsimp only;omega) | fail,by first | omega | (dsimp only;omega) | fail⟩,?_⟩ | refine⟨fun q=>absurd q (by first | (simp[eqCs,eqC1];done) | fail),fun _=>?_⟩ | refine⟨fun _=>?_,fun q=>absurd q (by first | omega | (simp[-List.getD_eq_getElem?_getD];done) | (simp[-List.getD_eq_getElem?_getD];omega) | fail)⟩ | refine⟨fun q=>absurd q (by first | omega | (simp[-List.getD_eq_getElem?_getD];done) | (simp[-List.getD_eq_getElem?_getD];omega) | fail),fun _=>?_⟩ | fail)
        refine⟨fun l hl=>?_,fun hl=>?_⟩
        ·obtain⟨p,hp,rfl⟩:=hintF_some hl
         rw[hmOf_in hr he] at hp
         obtain rfl:=Option.some.inj hp
         repeat (first | refine⟨fun _=>?_,fun h=>Bool.noConfusion h⟩ | refine⟨fun h=>Bool.noConfusion h,fun _=>?_⟩ | refine⟨⟨by first | exact Nat.le_refl _ | omega | fail,by first | omega | (dsimp only;omega) | fail,by first | omega | (dsimp only;omega) | fail⟩,?_⟩ | refine⟨fun q=>absurd q (by first | (simp[eqCs,eqC1];done) | fail),fun _=>?_⟩ | refine⟨fun _=>?_,fun q=>absurd q (by first | omega | (simp[-List.getD_eq_getElem?_getD];done) | (simp[-List.getD_eq_getElem?_getD];omega) | fail)⟩ | refine⟨fun q=>absurd q (by first | omega | (simp[-List.getD_eq_getElem?_getD];done) | (simp[-List.getD_eq_getElem?_getD];omega) | fail),fun _=>?_⟩ | fail)
         refine⟨_,?_,kp_,kp_⟩
         rw[wrapi (n:=z+1) (by omega)]
         dsimp only
         exact⟨by omega,by omega⟩
        ·have hp:=hintF_none hl
         rw[hmOf_in hr he] at hp
         cases hp
       ·have hp:=hintF_none hl
        rw[hmOf_in hr he] at hp
        cases hp
     ·by_cases h0:z<0
      ·refine⟨fun l hl=>?_,fun _=>?_⟩
       ·obtain⟨p,hp,-⟩:=hintF_some hl
        rw[hmOf_out hr] at hp
        cases hp
       ·repeat (first | refine⟨fun _=>?_,fun h=>Bool.noConfusion h⟩ | refine⟨fun h=>Bool.noConfusion h,fun _=>?_⟩ | refine⟨⟨by first | exact Nat.le_refl _ | omega | fail,by first | omega | (dsimp only;omega) | fail,by first | omega | (dsimp only;omega) | fail⟩,?_⟩ | refine⟨fun q=>absurd q (by first | (simp[eqCs,eqC1];done) | fail),fun _=>?_⟩ | refine⟨fun _=>?_,fun q=>absurd q (by first | omega | (simp[-List.getD_eq_getElem?_getD];done) | (simp[-List.getD_eq_getElem?_getD];omega) | fail)⟩ | refine⟨fun q=>absurd q (by first | omega | (simp[-List.getD_eq_getElem?_getD];done) | (simp[-List.getD_eq_getElem?_getD];omega) | fail),fun _=>?_⟩ | fail)
        refine⟨fun l hl=>?_,fun _=>?_⟩
        ·obtain⟨p,hp,-⟩:=hintF_some hl
         rw[hmOf_out hr] at hp
         cases hp
        ·repeat (first | refine⟨fun _=>?_,fun h=>Bool.noConfusion h⟩ | refine⟨fun h=>Bool.noConfusion h,fun _=>?_⟩ | refine⟨⟨by first | exact Nat.le_refl _ | omega | fail,by first | omega | (dsimp only;omega) | fail,by first | omega | (dsimp only;omega) | fail⟩,?_⟩ | refine⟨fun q=>absurd q (by first | (simp[eqCs,eqC1];done) | fail),fun _=>?_⟩ | refine⟨fun _=>?_,fun q=>absurd q (by first | omega | (simp[-List.getD_eq_getElem?_getD];done) | (simp[-List.getD_eq_getElem?_getD];omega) | fail)⟩ | refine⟨fun q=>absurd q (by first | omega | (simp[-List.getD_eq_getElem?_getD];done) | (simp[-List.getD_eq_getElem?_getD];omega) | fail),fun _=>?_⟩ | fail)
         refine⟨_,?_,kp_,kp_⟩
         rw[wrapi (n:=z+1) (by omega)]
         dsimp only
         exact⟨by omega,by omega⟩
      ·refine⟨fun l hl=>?_,fun _=>?_⟩
       ·obtain⟨p,hp,-⟩:=hintF_some hl
        rw[hmOf_out hr] at hp
        cases hp
       ·repeat (first | refine⟨fun _=>?_,fun h=>Bool.noConfusion h⟩ | refine⟨fun h=>Bool.noConfusion h,fun _=>?_⟩ | refine⟨⟨by first | exact Nat.le_refl _ | omega | fail,by first | omega | (dsimp only;omega) | fail,by first | omega | (dsimp only;omega) | fail⟩,?_⟩ | refine⟨fun q=>absurd q (by first | (simp[eqCs,eqC1];done) | fail),fun _=>?_⟩ | refine⟨fun _=>?_,fun q=>absurd q (by first | omega | (simp[-List.getD_eq_getElem?_getD];done) | (simp[-List.getD_eq_getElem?_getD];omega) | fail)⟩ | refine⟨fun q=>absurd q (by first | omega | (simp[-List.getD_eq_getElem?_getD];done) | (simp[-List.getD_eq_getElem?_getD];omega) | fail),fun _=>?_⟩ | fail)
        refine⟨fun l hl=>?_,fun _=>?_⟩
        ·obtain⟨p,hp,-⟩:=hintF_some hl
         rw[hmOf_out hr] at hp
         cases hp
        ·repeat (first | refine⟨fun _=>?_,fun h=>Bool.noConfusion h⟩ | refine⟨fun h=>Bool.noConfusion h,fun _=>?_⟩ | refine⟨⟨by first | exact Nat.le_refl _ | omega | fail,by first | omega | (dsimp only;omega) | fail,by first | omega | (dsimp only;omega) | fail⟩,?_⟩ | refine⟨fun q=>absurd q (by first | (simp[eqCs,eqC1];done) | fail),fun _=>?_⟩ | refine⟨fun _=>?_,fun q=>absurd q (by first | omega | (simp[-List.getD_eq_getElem?_getD];done) | (simp[-List.getD_eq_getElem?_getD];omega) | fail)⟩ | refine⟨fun q=>absurd q (by first | omega | (simp[-List.getD_eq_getElem?_getD];done) | (simp[-List.getD_eq_getElem?_getD];omega) | fail),fun _=>?_⟩ | fail)
         refine⟨_,?_,kp_,kp_⟩
         rw[wrapi (n:=z+1) (by omega)]
         dsimp only
         exact⟨by omega,by omega⟩
    ·repeat (first | refine⟨fun _=>?_,fun h=>Bool.noConfusion h⟩ | refine⟨fun h=>Bool.noConfusion h,fun _=>?_⟩ | refine⟨⟨by first | exact Nat.le_refl _ | omega | fail,by first | omega | (dsimp only;omega) | fail,by first | omega | (dsimp only;omega) | fail⟩,?_⟩ | refine⟨fun q=>absurd q (by first | (simp[eqCs,eqC1];done) | fail),fun _=>?_⟩ | refine⟨fun _=>?_,fun q=>absurd q (by first | omega | (simp[-List.getD_eq_getElem?_getD];done) | (simp[-List.getD_eq_getElem?_getD];omega) | fail)⟩ | refine⟨fun q=>absurd q (by first | omega | (simp[-List.getD_eq_getElem?_getD];done) | (simp[-List.getD_eq_getElem?_getD];omega) | fail),fun _=>?_⟩ | fail)
     refine⟨List Atl×List Nat×Nat,fun q=>match q with | (xs,cps_xs,cap_xs)=>[(14,.slice (some ⟨51,0,none⟩) xs.length cap_xs)],fun q=>match q with | (xs,cps_xs,cap_xs)=>[(50,famB 500000 xs),(51,deepA 500000 0 xs cps_xs 50)],fun q=>match q with | (xs,cps_xs,cap_xs)=>CopyP c key xs,?_,?_⟩
     ·refine⟨⟨18,17,16,15,14,13,500000⟩,xk,c,_,more,key,rfl,⟨HasCfg.keeps kp_,.inr (.inl ⟨1,_,rfl,⟨_,_,_,rfl,Nat.le_refl _,fun k hk=>rfl⟩⟩)⟩,⟨hV,by omega⟩,fun xs cps_xs cap_xs hP=>?_⟩
      exact⟨(xs,cps_xs,cap_xs),[(50,34),(51,35)],hP,⟨rfl,rfl⟩,kp_,kp_⟩
     rintro⟨xs,cps_xs,cap_xs⟩ hP
     refine⟨⟨by decide,rfl,rfl⟩,?_⟩
     have hx1:=hP.ne
     have hx2:=hP.le
     refine⟨Int×(Int→Option (Int×Int))×HF×Option (Atl×Nat×Nat×(Nat→List Value)),fun q=>match q with | (i,_)=>[(15,.int .i64 i)],fun q=>match q with | (i,hm,hf,none)=>[(28,.box 114 [.int .i64 c.regions,slc 21 c.zones.length k_zones,slc 22 c.cells.length k_cells,slc 23 c.tenants.length k_tenants,slc 24 c.versions.length k_versions,slc 25 c.replicas.length k_replicas,slc 26 c.observers.length k_observers,.int .i64 c.blast,.int .i64 c.lease,.int .i64 c.bake,.int .i64 key,.bool false,.int .i64 0,.int .i64 0,zs0,.int .u64 0,.int .u64 0,.map (some 27)]),(27,.ext (.map .i64 true (hintF hm))),(30,.row (1000000+92) 2 c.tenants.length (fun k=>pairC (hf k))),(31,.box 116 [.int .i64 c.regions,slc 18 c.zones.length xk.cz,slc 17 c.cells.length xk.cc,slc 16 c.tenants.length xk.ct,slc 15 c.versions.length xk.cv,slc 14 c.replicas.length xk.cr,slc 13 c.observers.length xk.co,.int .i64 c.blast,.int .i64 c.lease,.int .i64 c.bake,.int .i64 key,.bool false,.int .i64 0,.int .i64 0,zs0,.int .u64 0,.int .u64 0,slc 30 c.tenants.length c.tenants.length])] | (i,hm,hf,some (A,kp,kq,elq))=>[(28,.box 114 [.int .i64 c.regions,slc 21 c.zones.length k_zones,slc 22 c.cells.length k_cells,slc 23 c.tenants.length k_tenants,slc 24 c.versions.length k_versions,slc 25 c.replicas.length k_replicas,slc 26 c.observers.length k_observers,.int .i64 c.blast,.int .i64 c.lease,.int .i64 c.bake,.int .i64 key,.bool true,.int .i64 A.number,.int .i64 A.tick,slc 52 A.routes.length kp,.int .u64 A.parent,.int .u64 A.sum,.map (some 27)]),(27,.ext (.map .i64 true (hintF hm))),(30,.row (1000000+92) 2 c.tenants.length (fun k=>pairC (hf k))),(31,.box 116 [.int .i64 c.regions,slc 18 c.zones.length xk.cz,slc 17 c.cells.length xk.cc,slc 16 c.tenants.length xk.ct,slc 15 c.versions.length xk.cv,slc 14 c.replicas.length xk.cr,slc 13 c.observers.length xk.co,.int .i64 c.blast,.int .i64 c.lease,.int .i64 c.bake,.int .i64 key,.bool true,.int .i64 A.number,.int .i64 A.tick,slc 53 A.routes.length kq,.int .u64 A.parent,.int .u64 A.sum,slc 30 c.tenants.length c.tenants.length]),(52,rowOfL 500000 2 pairC (0,0) A.routes),(53,.row (1000000+92) 2 kq elq)],fun q=>match q with | (i,hm,hf,o)=>(0≤i∧i≤st.length)∧(hm=hmOf c.tenants.length hf∧HfOk c.tenants.length hf)∧match o with | none=>True | some (A,kp,kq,elq)=>ValidA c A key∧A.routes.length≤kq∧∀ k,k<A.routes.length→elq k=pairC (A.routes.getD k (0,0)),fun q=>match q with | (i,_)=>((st.length:Int)-i).toNat,⟨(0,hmOf c.tenants.length hf,hf,none),[],⟨by omega,⟨rfl,hH⟩,trivial⟩,⟨rfl,rfl⟩,kp_,kp_⟩,?_⟩
     clear hH hf
     rintro⟨i,hm,hf,(_ | ⟨A,kp,kq,elq⟩)⟩ ⟨hi,⟨rfl,hH⟩,ho⟩
     ·refine⟨⟨by decide,rfl,rfl⟩,?_⟩
      refine⟨fun hlt=>?_,fun hge=>?_⟩
      ·have hlt2:i<(st.length:Int):=of_decide_eq_true hlt
       refine⟨⟨Nat.le_refl _,hi.1,hlt2⟩,?_⟩
       refine⟨_,_,rfl,⟨by omega,by omega⟩,?_⟩
       have hj:0≤(st.getD i.toNat default).running % (xs.length:Int)∧(st.getD i.toNat default).running % (xs.length:Int)<xs.length:=⟨Int.emod_nonneg _ (by omega),Int.emod_lt_of_pos _ (by omega)⟩
       have hjn:((st.getD i.toNat default).running % (xs.length:Int)).toNat<xs.length:=by omega
       refine⟨⟨Nat.le_refl _,hj.1,hj.2⟩,?_⟩
       refine⟨(Int→Option (Int×Int))×HF×Option (Atl×Nat×Nat×(Nat→List Value)),fun _=>[],fun q=>match q with | (hm,hf,none)=>[(28,.box 114 [.int .i64 c.regions,slc 21 c.zones.length k_zones,slc 22 c.cells.length k_cells,slc 23 c.tenants.length k_tenants,slc 24 c.versions.length k_versions,slc 25 c.replicas.length k_replicas,slc 26 c.observers.length k_observers,.int .i64 c.blast,.int .i64 c.lease,.int .i64 c.bake,.int .i64 key,.bool false,.int .i64 0,.int .i64 0,zs0,.int .u64 0,.int .u64 0,.map (some 27)]),(27,.ext (.map .i64 true (hintF hm))),(30,.row (1000000+92) 2 c.tenants.length (fun k=>pairC (hf k))),(31,.box 116 [.int .i64 c.regions,slc 18 c.zones.length xk.cz,slc 17 c.cells.length xk.cc,slc 16 c.tenants.length xk.ct,slc 15 c.versions.length xk.cv,slc 14 c.replicas.length xk.cr,slc 13 c.observers.length xk.co,.int .i64 c.blast,.int .i64 c.lease,.int .i64 c.bake,.int .i64 key,.bool false,.int .i64 0,.int .i64 0,zs0,.int .u64 0,.int .u64 0,slc 30 c.tenants.length c.tenants.length])] | (hm,hf,some (A,kp,kq,elq))=>[(28,.box 114 [.int .i64 c.regions,slc 21 c.zones.length k_zones,slc 22 c.cells.length k_cells,slc 23 c.tenants.length k_tenants,slc 24 c.versions.length k_versions,slc 25 c.replicas.length k_replicas,slc 26 c.observers.length k_observers,.int .i64 c.blast,.int .i64 c.lease,.int .i64 c.bake,.int .i64 key,.bool true,.int .i64 A.number,.int .i64 A.tick,slc 98 A.routes.length kp,.int .u64 A.parent,.int .u64 A.sum,.map (some 27)]),(27,.ext (.map .i64 true (hintF hm))),(30,.row (1000000+92) 2 c.tenants.length (fun k=>pairC (hf k))),(31,.box 116 [.int .i64 c.regions,slc 18 c.zones.length xk.cz,slc 17 c.cells.length xk.cc,slc 16 c.tenants.length xk.ct,slc 15 c.versions.length xk.cv,slc 14 c.replicas.length xk.cr,slc 13 c.observers.length xk.co,.int .i64 c.blast,.int .i64 c.lease,.int .i64 c.bake,.int .i64 key,.bool true,.int .i64 A.number,.int .i64 A.tick,slc 99 A.routes.length kq,.int .u64 A.parent,.int .u64 A.sum,slc 30 c.tenants.length c.tenants.length]),(98,rowOfL 500000 2 pairC (0,0) A.routes),(99,.row (1000000+92) 2 kq elq)],fun q=>match q with | (hm,hf,o)=>(hm=hmOf c.tenants.length hf∧HfOk c.tenants.length hf)∧match o with | none=>True | some (A,kp,kq,elq)=>ValidA c A key∧A.routes.length≤kq∧∀ k,k<A.routes.length→elq k=pairC (A.routes.getD k (0,0)),?_,?_⟩
       ·refine⟨_,_,rfl,⟨by decide,by decide⟩,?_⟩
        refine⟨Bool,fun b=>[(44,.bool b)],fun _=>[],fun _=>True,?_,?_⟩
        ·repeat' (first | refine⟨fun _=>?_,fun h=>Bool.noConfusion h⟩ | refine⟨fun h=>Bool.noConfusion h,fun _=>?_⟩ | refine⟨fun _=>?_,fun _=>?_⟩ | fail)
         all_goals exact⟨_,trivial,kp_,kp_⟩
        rintro b -
        refine⟨⟨by decide,rfl,rfl⟩,?_⟩
        refine⟨fun _=>?_,fun _=>?_⟩
        ·refine⟨_,c,(xs.getD ((st.getD i.toNat default).running % (xs.length:Int)).toNat aZ),_,key,rfl,⟨⟨_,_,_,_,_,_,rfl,⟨.inr (.inl ⟨21,_,rfl,.list rfl⟩),.inr (.inl ⟨22,_,rfl,.list rfl⟩),.inr (.inl ⟨23,_,rfl,.list rfl⟩)⟩,.inr (.inl ⟨24,_,rfl,.list rfl⟩),.inr (.inl ⟨25,_,rfl,.list rfl⟩),.inr (.inl ⟨26,_,rfl,.list rfl⟩)⟩,.fam rfl⟩,hM.lens,fun b1 hb1=>?_⟩
         cases b1
         ·repeat (first | refine⟨fun _=>?_,fun h=>Bool.noConfusion h⟩ | refine⟨fun h=>Bool.noConfusion h,fun _=>?_⟩ | fail)
          refine⟨kp_,?_⟩
          refine⟨_,c,(xs.getD ((st.getD i.toNat default).running % (xs.length:Int)).toNat aZ),_,key,rfl,⟨.has (N:=⟨18,17,16,15,14,13,500000⟩) (x:=xk) (HasCfg.keeps kp_),.fam rfl⟩,hM.lens,fun b2 hb2=>?_⟩
          obtain rfl:b2=false:=Bool.eq_false_iff.2 fun q=>absurd (hb1.2 (hb2.1 q)) (by decide)
          repeat (first | refine⟨fun _=>?_,fun h=>Bool.noConfusion h⟩ | refine⟨fun h=>Bool.noConfusion h,fun _=>?_⟩ | fail)
          exact⟨(hmOf c.tenants.length hf,hf,none),[],⟨⟨rfl,hH⟩,trivial⟩,⟨rfl,rfl⟩,kp_,kp_⟩
         ·have hvb:=hb1.1 rfl
          repeat (first | refine⟨fun _=>?_,fun h=>Bool.noConfusion h⟩ | refine⟨fun h=>Bool.noConfusion h,fun _=>?_⟩ | fail)
          have hlen:=hvb.len
          refine⟨_,(xs.getD ((st.getD i.toNat default).running % (xs.length:Int)).toNat aZ).routes,rfl,.fam rfl,by rw[hlen];omega,fun kp2=>?_⟩
          refine⟨kp_,?_⟩
          refine⟨27,hmOf c.tenants.length hf,60,_,_,_,_,_,61,(xs.getD ((st.getD i.toNat default).running % (xs.length:Int)).toNat aZ).routes,rfl,rfl,rfl,.list rfl,by rw[hlen];exact fun z p h=>hmOf_key h,?_⟩
          repeat (first | refine⟨fun _=>?_,fun h=>Bool.noConfusion h⟩ | refine⟨fun h=>Bool.noConfusion h,fun _=>?_⟩ | fail)
          refine⟨kp_,?_⟩
          refine⟨_,c,(xs.getD ((st.getD i.toNat default).running % (xs.length:Int)).toNat aZ),_,key,rfl,⟨.has (N:=⟨18,17,16,15,14,13,500000⟩) (x:=xk) (HasCfg.keeps kp_),.fam rfl⟩,hM.lens,fun b2 hb2=>?_⟩
          obtain rfl:b2=true:=hb2.2 hvb
          repeat (first | refine⟨fun _=>?_,fun h=>Bool.noConfusion h⟩ | refine⟨fun h=>Bool.noConfusion h,fun _=>?_⟩ | fail)
          refine⟨kp_,?_⟩
          refine⟨⟨Nat.le_refl _,fun k hk=>rfl⟩,?_⟩
          refine⟨⟨rfl,Nat.le_refl _⟩,fun hin el2 g1 g2=>?_,fun hgt=>⟨by show (0+(xs.getD ((st.getD i.toNat default).running % (xs.length:Int)).toNat aZ).routes.length) * 16≤140737488355328;rw[hlen];omega,fun cap2 el2 hcq g1 g2=>?_⟩⟩
          ·rw[Nat.zero_add]
           refine⟨Int×HF,fun q=>match q with | (z,h2)=>[(5,.int .i64 z)],fun q=>match q with | (z,h2)=>[(30,.row (1000000+92) 2 c.tenants.length (fun k=>pairC (h2 k)))],fun q=>match q with | (z,h2)=>(0≤z∧z≤c.tenants.length)∧h2=dlF (xs.getD ((st.getD i.toNat default).running % (xs.length:Int)).toNat aZ).routes hf z.toNat,fun q=>match q with | (z,h2)=>((c.tenants.length:Int)-z).toNat,⟨(0,hf),⟨by omega,(dlF_zero _ _).symm⟩,kp_,kp_⟩,?_⟩
           rintro⟨z,h2⟩ ⟨hz,rfl⟩
           refine⟨⟨rfl,rfl⟩,?_⟩
           refine⟨fun hzl=>?_,fun hzg=>?_⟩
           ·have hzl2:z<(c.tenants.length:Int):=of_decide_eq_true hzl
            refine⟨⟨Nat.le_refl _,hz.1,hzl2⟩,?_⟩
            refine⟨⟨Nat.le_refl _,hz.1,by rw[hlen];exact hzl2⟩,?_⟩
            refine⟨kp_,?_⟩
            refine⟨kp_,?_⟩
            refine⟨kp_,?_⟩
            refine⟨fun hg=>?_,fun hg=>?_⟩
            ·have hg2:(dlF (xs.getD ((st.getD i.toNat default).running % (xs.length:Int)).toNat aZ).routes hf z.toNat z.toNat).2≤((xs.getD ((st.getD i.toNat default).running % (xs.length:Int)).toNat aZ).routes.getD z.toNat (0,0)).2:=of_decide_eq_true hg
             rw[dlF_at] at hg2
             refine⟨⟨Nat.le_refl _,hz.1,hzl2⟩,?_⟩
             refine⟨pairC (0,0),rfl,?_⟩
             rw[setEl_hf]
             refine⟨(IntKind.i64.wrap (z+1),stF (dlF (xs.getD ((st.getD i.toNat default).running % (xs.length:Int)).toNat aZ).routes hf z.toNat) z.toNat (0,0)),?_,kp_,kp_⟩
             rw[wrapi (n:=z+1) (by omega)]
             dsimp only
             exact⟨⟨⟨by omega,by omega⟩,by rw[show (z+1).toNat=z.toNat+1 by omega];exact dlF_yes hg2⟩,by omega⟩
            ·have hg2:¬ (dlF (xs.getD ((st.getD i.toNat default).running % (xs.length:Int)).toNat aZ).routes hf z.toNat z.toNat).2≤((xs.getD ((st.getD i.toNat default).running % (xs.length:Int)).toNat aZ).routes.getD z.toNat (0,0)).2:=of_decide_eq_false hg
             rw[dlF_at] at hg2
             refine⟨(IntKind.i64.wrap (z+1),dlF (xs.getD ((st.getD i.toNat default).running % (xs.length:Int)).toNat aZ).routes hf z.toNat),?_,kp_,kp_⟩
             rw[wrapi (n:=z+1) (by omega)]
             dsimp only
             exact⟨⟨⟨by omega,by omega⟩,by rw[show (z+1).toNat=z.toNat+1 by omega];exact dlF_no hg2⟩,by omega⟩
           ·have hge2:¬ z<(c.tenants.length:Int):=of_decide_eq_false hzg
            obtain rfl:z=(c.tenants.length:Int):=by omega
            repeat (first | refine⟨fun _=>?_,fun h=>Bool.noConfusion h⟩ | refine⟨fun h=>Bool.noConfusion h,fun _=>?_⟩ | fail)
            exact⟨(delH (hmOf c.tenants.length hf) (xs.getD ((st.getD i.toNat default).running % (xs.length:Int)).toNat aZ).routes,dlF (xs.getD ((st.getD i.toNat default).running % (xs.length:Int)).toNat aZ).routes hf c.tenants.length,some ((xs.getD ((st.getD i.toNat default).running % (xs.length:Int)).toNat aZ),kp2,0,el2)),[(98,61),(99,63)],⟨⟨hmOf_del fun k hk=>(hvb.rt hk).2,hH.del _ _⟩,hvb,Nat.le_trans (Nat.le_of_eq (Nat.zero_add _).symm) hin,fun k hk=>by have q:=g2 k hk;rwa[Nat.zero_add] at q⟩,⟨rfl,rfl⟩,(by (try rw[Nat.zero_add]);repeat (first | exact trivial | refine⟨rfl,?_⟩)),(by (try rw[Nat.zero_add]);repeat (first | exact trivial | refine⟨rfl,?_⟩))⟩
          ·rw[Nat.zero_add]
           refine⟨Int×HF,fun q=>match q with | (z,h2)=>[(5,.int .i64 z)],fun q=>match q with | (z,h2)=>[(30,.row (1000000+92) 2 c.tenants.length (fun k=>pairC (h2 k)))],fun q=>match q with | (z,h2)=>(0≤z∧z≤c.tenants.length)∧h2=dlF (xs.getD ((st.getD i.toNat default).running % (xs.length:Int)).toNat aZ).routes hf z.toNat,fun q=>match q with | (z,h2)=>((c.tenants.length:Int)-z).toNat,⟨(0,hf),⟨by omega,(dlF_zero _ _).symm⟩,kp_,kp_⟩,?_⟩
           rintro⟨z,h2⟩ ⟨hz,rfl⟩
           refine⟨⟨rfl,rfl⟩,?_⟩
           refine⟨fun hzl=>?_,fun hzg=>?_⟩
           ·have hzl2:z<(c.tenants.length:Int):=of_decide_eq_true hzl
            refine⟨⟨Nat.le_refl _,hz.1,hzl2⟩,?_⟩
            refine⟨⟨Nat.le_refl _,hz.1,by rw[hlen];exact hzl2⟩,?_⟩
            refine⟨kp_,?_⟩
            refine⟨kp_,?_⟩
            refine⟨kp_,?_⟩
            refine⟨fun hg=>?_,fun hg=>?_⟩
            ·have hg2:(dlF (xs.getD ((st.getD i.toNat default).running % (xs.length:Int)).toNat aZ).routes hf z.toNat z.toNat).2≤((xs.getD ((st.getD i.toNat default).running % (xs.length:Int)).toNat aZ).routes.getD z.toNat (0,0)).2:=of_decide_eq_true hg
             rw[dlF_at] at hg2
             refine⟨⟨Nat.le_refl _,hz.1,hzl2⟩,?_⟩
             refine⟨pairC (0,0),rfl,?_⟩
             rw[setEl_hf]
             refine⟨(IntKind.i64.wrap (z+1),stF (dlF (xs.getD ((st.getD i.toNat default).running % (xs.length:Int)).toNat aZ).routes hf z.toNat) z.toNat (0,0)),?_,kp_,kp_⟩
             rw[wrapi (n:=z+1) (by omega)]
             dsimp only
             exact⟨⟨⟨by omega,by omega⟩,by rw[show (z+1).toNat=z.toNat+1 by omega];exact dlF_yes hg2⟩,by omega⟩
            ·have hg2:¬ (dlF (xs.getD ((st.getD i.toNat default).running % (xs.length:Int)).toNat aZ).routes hf z.toNat z.toNat).2≤((xs.getD ((st.getD i.toNat default).running % (xs.length:Int)).toNat aZ).routes.getD z.toNat (0,0)).2:=of_decide_eq_false hg
             rw[dlF_at] at hg2
             refine⟨(IntKind.i64.wrap (z+1),dlF (xs.getD ((st.getD i.toNat default).running % (xs.length:Int)).toNat aZ).routes hf z.toNat),?_,kp_,kp_⟩
             rw[wrapi (n:=z+1) (by omega)]
             dsimp only
             exact⟨⟨⟨by omega,by omega⟩,by rw[show (z+1).toNat=z.toNat+1 by omega];exact dlF_no hg2⟩,by omega⟩
           ·have hge2:¬ z<(c.tenants.length:Int):=of_decide_eq_false hzg
            obtain rfl:z=(c.tenants.length:Int):=by omega
            repeat (first | refine⟨fun _=>?_,fun h=>Bool.noConfusion h⟩ | refine⟨fun h=>Bool.noConfusion h,fun _=>?_⟩ | fail)
            exact⟨(delH (hmOf c.tenants.length hf) (xs.getD ((st.getD i.toNat default).running % (xs.length:Int)).toNat aZ).routes,dlF (xs.getD ((st.getD i.toNat default).running % (xs.length:Int)).toNat aZ).routes hf c.tenants.length,some ((xs.getD ((st.getD i.toNat default).running % (xs.length:Int)).toNat aZ),kp2,cap2,el2)),[(98,61),(99,64)],⟨⟨hmOf_del fun k hk=>(hvb.rt hk).2,hH.del _ _⟩,hvb,Nat.le_trans (Nat.le_of_eq (Nat.zero_add _).symm) hcq,fun k hk=>by have q:=g2 k hk;rwa[Nat.zero_add] at q⟩,⟨rfl,rfl⟩,(by (try rw[Nat.zero_add]);repeat (first | exact trivial | refine⟨rfl,?_⟩)),(by (try rw[Nat.zero_add]);repeat (first | exact trivial | refine⟨rfl,?_⟩))⟩
        ·refine⟨fun _=>?_,fun _=>?_⟩
         ·refine⟨_,_,_,rfl,⟨by decide,by decide⟩,fun nb hnb=>?_⟩
          refine⟨fun _=>?_,fun _=>?_⟩
          ·refine⟨{ (xs.getD ((st.getD i.toNat default).running % (xs.length:Int)).toNat aZ) with number:=nb },_,key,rfl,.fam rfl,hP.numIn hV hM.valid hjn hnb,?_⟩
           refine⟨_,c,(signA { (xs.getD ((st.getD i.toNat default).running % (xs.length:Int)).toNat aZ) with number:=nb } key),_,key,rfl,⟨⟨_,_,_,_,_,_,rfl,⟨.inr (.inl ⟨21,_,rfl,.list rfl⟩),.inr (.inl ⟨22,_,rfl,.list rfl⟩),.inr (.inl ⟨23,_,rfl,.list rfl⟩)⟩,.inr (.inl ⟨24,_,rfl,.list rfl⟩),.inr (.inl ⟨25,_,rfl,.list rfl⟩),.inr (.inl ⟨26,_,rfl,.list rfl⟩)⟩,.fam rfl⟩,hM.lens,fun b1 hb1=>?_⟩
           cases b1
           ·repeat (first | refine⟨fun _=>?_,fun h=>Bool.noConfusion h⟩ | refine⟨fun h=>Bool.noConfusion h,fun _=>?_⟩ | fail)
            refine⟨kp_,?_⟩
            refine⟨_,c,(signA { (xs.getD ((st.getD i.toNat default).running % (xs.length:Int)).toNat aZ) with number:=nb } key),_,key,rfl,⟨.has (N:=⟨18,17,16,15,14,13,500000⟩) (x:=xk) (HasCfg.keeps kp_),.fam rfl⟩,hM.lens,fun b2 hb2=>?_⟩
            obtain rfl:b2=false:=Bool.eq_false_iff.2 fun q=>absurd (hb1.2 (hb2.1 q)) (by decide)
            repeat (first | refine⟨fun _=>?_,fun h=>Bool.noConfusion h⟩ | refine⟨fun h=>Bool.noConfusion h,fun _=>?_⟩ | fail)
            exact⟨(hmOf c.tenants.length hf,hf,none),[],⟨⟨rfl,hH⟩,trivial⟩,⟨rfl,rfl⟩,kp_,kp_⟩
           ·have hvb:=hb1.1 rfl
            repeat (first | refine⟨fun _=>?_,fun h=>Bool.noConfusion h⟩ | refine⟨fun h=>Bool.noConfusion h,fun _=>?_⟩ | fail)
            have hlen:=hvb.len
            refine⟨_,(signA { (xs.getD ((st.getD i.toNat default).running % (xs.length:Int)).toNat aZ) with number:=nb } key).routes,rfl,.fam rfl,by rw[hlen];omega,fun kp2=>?_⟩
            refine⟨kp_,?_⟩
            refine⟨27,hmOf c.tenants.length hf,60,_,_,_,_,_,61,(signA { (xs.getD ((st.getD i.toNat default).running % (xs.length:Int)).toNat aZ) with number:=nb } key).routes,rfl,rfl,rfl,.list rfl,by rw[hlen];exact fun z p h=>hmOf_key h,?_⟩
            repeat (first | refine⟨fun _=>?_,fun h=>Bool.noConfusion h⟩ | refine⟨fun h=>Bool.noConfusion h,fun _=>?_⟩ | fail)
            refine⟨kp_,?_⟩
            refine⟨_,c,(signA { (xs.getD ((st.getD i.toNat default).running % (xs.length:Int)).toNat aZ) with number:=nb } key),_,key,rfl,⟨.has (N:=⟨18,17,16,15,14,13,500000⟩) (x:=xk) (HasCfg.keeps kp_),.fam rfl⟩,hM.lens,fun b2 hb2=>?_⟩
            obtain rfl:b2=true:=hb2.2 hvb
            repeat (first | refine⟨fun _=>?_,fun h=>Bool.noConfusion h⟩ | refine⟨fun h=>Bool.noConfusion h,fun _=>?_⟩ | fail)
            refine⟨kp_,?_⟩
            refine⟨⟨Nat.le_refl _,fun k hk=>rfl⟩,?_⟩
            refine⟨⟨rfl,Nat.le_refl _⟩,fun hin el2 g1 g2=>?_,fun hgt=>⟨by show (0+(signA { (xs.getD ((st.getD i.toNat default).running % (xs.length:Int)).toNat aZ) with number:=nb } key).routes.length) * 16≤140737488355328;rw[hlen];omega,fun cap2 el2 hcq g1 g2=>?_⟩⟩
            ·rw[Nat.zero_add]
             refine⟨Int×HF,fun q=>match q with | (z,h2)=>[(5,.int .i64 z)],fun q=>match q with | (z,h2)=>[(30,.row (1000000+92) 2 c.tenants.length (fun k=>pairC (h2 k)))],fun q=>match q with | (z,h2)=>(0≤z∧z≤c.tenants.length)∧h2=dlF (signA { (xs.getD ((st.getD i.toNat default).running % (xs.length:Int)).toNat aZ) with number:=nb } key).routes hf z.toNat,fun q=>match q with | (z,h2)=>((c.tenants.length:Int)-z).toNat,⟨(0,hf),⟨by omega,(dlF_zero _ _).symm⟩,kp_,kp_⟩,?_⟩
             rintro⟨z,h2⟩ ⟨hz,rfl⟩
             refine⟨⟨rfl,rfl⟩,?_⟩
             refine⟨fun hzl=>?_,fun hzg=>?_⟩
             ·have hzl2:z<(c.tenants.length:Int):=of_decide_eq_true hzl
              refine⟨⟨Nat.le_refl _,hz.1,hzl2⟩,?_⟩
              refine⟨⟨Nat.le_refl _,hz.1,by rw[hlen];exact hzl2⟩,?_⟩
              refine⟨kp_,?_⟩
              refine⟨kp_,?_⟩
              refine⟨kp_,?_⟩
              refine⟨fun hg=>?_,fun hg=>?_⟩
              ·have hg2:(dlF (signA { (xs.getD ((st.getD i.toNat default).running % (xs.length:Int)).toNat aZ) with number:=nb } key).routes hf z.toNat z.toNat).2≤((signA { (xs.getD ((st.getD i.toNat default).running % (xs.length:Int)).toNat aZ) with number:=nb } key).routes.getD z.toNat (0,0)).2:=of_decide_eq_true hg
               rw[dlF_at] at hg2
               refine⟨⟨Nat.le_refl _,hz.1,hzl2⟩,?_⟩
               refine⟨pairC (0,0),rfl,?_⟩
               rw[setEl_hf]
               refine⟨(IntKind.i64.wrap (z+1),stF (dlF (signA { (xs.getD ((st.getD i.toNat default).running % (xs.length:Int)).toNat aZ) with number:=nb } key).routes hf z.toNat) z.toNat (0,0)),?_,kp_,kp_⟩
               rw[wrapi (n:=z+1) (by omega)]
               dsimp only
               exact⟨⟨⟨by omega,by omega⟩,by rw[show (z+1).toNat=z.toNat+1 by omega];exact dlF_yes hg2⟩,by omega⟩
              ·have hg2:¬ (dlF (signA { (xs.getD ((st.getD i.toNat default).running % (xs.length:Int)).toNat aZ) with number:=nb } key).routes hf z.toNat z.toNat).2≤((signA { (xs.getD ((st.getD i.toNat default).running % (xs.length:Int)).toNat aZ) with number:=nb } key).routes.getD z.toNat (0,0)).2:=of_decide_eq_false hg
               rw[dlF_at] at hg2
               refine⟨(IntKind.i64.wrap (z+1),dlF (signA { (xs.getD ((st.getD i.toNat default).running % (xs.length:Int)).toNat aZ) with number:=nb } key).routes hf z.toNat),?_,kp_,kp_⟩
               rw[wrapi (n:=z+1) (by omega)]
               dsimp only
               exact⟨⟨⟨by omega,by omega⟩,by rw[show (z+1).toNat=z.toNat+1 by omega];exact dlF_no hg2⟩,by omega⟩
             ·have hge2:¬ z<(c.tenants.length:Int):=of_decide_eq_false hzg
              obtain rfl:z=(c.tenants.length:Int):=by omega
              repeat (first | refine⟨fun _=>?_,fun h=>Bool.noConfusion h⟩ | refine⟨fun h=>Bool.noConfusion h,fun _=>?_⟩ | fail)
              exact⟨(delH (hmOf c.tenants.length hf) (signA { (xs.getD ((st.getD i.toNat default).running % (xs.length:Int)).toNat aZ) with number:=nb } key).routes,dlF (signA { (xs.getD ((st.getD i.toNat default).running % (xs.length:Int)).toNat aZ) with number:=nb } key).routes hf c.tenants.length,some ((signA { (xs.getD ((st.getD i.toNat default).running % (xs.length:Int)).toNat aZ) with number:=nb } key),kp2,0,el2)),[(98,61),(99,63)],⟨⟨hmOf_del fun k hk=>(hvb.rt hk).2,hH.del _ _⟩,hvb,Nat.le_trans (Nat.le_of_eq (Nat.zero_add _).symm) hin,fun k hk=>by have q:=g2 k hk;rwa[Nat.zero_add] at q⟩,⟨rfl,rfl⟩,(by (try rw[Nat.zero_add]);repeat (first | exact trivial | refine⟨rfl,?_⟩)),(by (try rw[Nat.zero_add]);repeat (first | exact trivial | refine⟨rfl,?_⟩))⟩
            ·rw[Nat.zero_add]
             refine⟨Int×HF,fun q=>match q with | (z,h2)=>[(5,.int .i64 z)],fun q=>match q with | (z,h2)=>[(30,.row (1000000+92) 2 c.tenants.length (fun k=>pairC (h2 k)))],fun q=>match q with | (z,h2)=>(0≤z∧z≤c.tenants.length)∧h2=dlF (signA { (xs.getD ((st.getD i.toNat default).running % (xs.length:Int)).toNat aZ) with number:=nb } key).routes hf z.toNat,fun q=>match q with | (z,h2)=>((c.tenants.length:Int)-z).toNat,⟨(0,hf),⟨by omega,(dlF_zero _ _).symm⟩,kp_,kp_⟩,?_⟩
             rintro⟨z,h2⟩ ⟨hz,rfl⟩
             refine⟨⟨rfl,rfl⟩,?_⟩
             refine⟨fun hzl=>?_,fun hzg=>?_⟩
             ·have hzl2:z<(c.tenants.length:Int):=of_decide_eq_true hzl
              refine⟨⟨Nat.le_refl _,hz.1,hzl2⟩,?_⟩
              refine⟨⟨Nat.le_refl _,hz.1,by rw[hlen];exact hzl2⟩,?_⟩
              refine⟨kp_,?_⟩
              refine⟨kp_,?_⟩
              refine⟨kp_,?_⟩
              refine⟨fun hg=>?_,fun hg=>?_⟩
              ·have hg2:(dlF (signA { (xs.getD ((st.getD i.toNat default).running % (xs.length:Int)).toNat aZ) with number:=nb } key).routes hf z.toNat z.toNat).2≤((signA { (xs.getD ((st.getD i.toNat default).running % (xs.length:Int)).toNat aZ) with number:=nb } key).routes.getD z.toNat (0,0)).2:=of_decide_eq_true hg
               rw[dlF_at] at hg2
               refine⟨⟨Nat.le_refl _,hz.1,hzl2⟩,?_⟩
               refine⟨pairC (0,0),rfl,?_⟩
               rw[setEl_hf]
               refine⟨(IntKind.i64.wrap (z+1),stF (dlF (signA { (xs.getD ((st.getD i.toNat default).running % (xs.length:Int)).toNat aZ) with number:=nb } key).routes hf z.toNat) z.toNat (0,0)),?_,kp_,kp_⟩
               rw[wrapi (n:=z+1) (by omega)]
               dsimp only
               exact⟨⟨⟨by omega,by omega⟩,by rw[show (z+1).toNat=z.toNat+1 by omega];exact dlF_yes hg2⟩,by omega⟩
              ·have hg2:¬ (dlF (signA { (xs.getD ((st.getD i.toNat default).running % (xs.length:Int)).toNat aZ) with number:=nb } key).routes hf z.toNat z.toNat).2≤((signA { (xs.getD ((st.getD i.toNat default).running % (xs.length:Int)).toNat aZ) with number:=nb } key).routes.getD z.toNat (0,0)).2:=of_decide_eq_false hg
               rw[dlF_at] at hg2
               refine⟨(IntKind.i64.wrap (z+1),dlF (signA { (xs.getD ((st.getD i.toNat default).running % (xs.length:Int)).toNat aZ) with number:=nb } key).routes hf z.toNat),?_,kp_,kp_⟩
               rw[wrapi (n:=z+1) (by omega)]
               dsimp only
               exact⟨⟨⟨by omega,by omega⟩,by rw[show (z+1).toNat=z.toNat+1 by omega];exact dlF_no hg2⟩,by omega⟩
             ·have hge2:¬ z<(c.tenants.length:Int):=of_decide_eq_false hzg
              obtain rfl:z=(c.tenants.length:Int):=by omega
              repeat (first | refine⟨fun _=>?_,fun h=>Bool.noConfusion h⟩ | refine⟨fun h=>Bool.noConfusion h,fun _=>?_⟩ | fail)
              exact⟨(delH (hmOf c.tenants.length hf) (signA { (xs.getD ((st.getD i.toNat default).running % (xs.length:Int)).toNat aZ) with number:=nb } key).routes,dlF (signA { (xs.getD ((st.getD i.toNat default).running % (xs.length:Int)).toNat aZ) with number:=nb } key).routes hf c.tenants.length,some ((signA { (xs.getD ((st.getD i.toNat default).running % (xs.length:Int)).toNat aZ) with number:=nb } key),kp2,cap2,el2)),[(98,61),(99,64)],⟨⟨hmOf_del fun k hk=>(hvb.rt hk).2,hH.del _ _⟩,hvb,Nat.le_trans (Nat.le_of_eq (Nat.zero_add _).symm) hcq,fun k hk=>by have q:=g2 k hk;rwa[Nat.zero_add] at q⟩,⟨rfl,rfl⟩,(by (try rw[Nat.zero_add]);repeat (first | exact trivial | refine⟨rfl,?_⟩)),(by (try rw[Nat.zero_add]);repeat (first | exact trivial | refine⟨rfl,?_⟩))⟩
          ·refine⟨_,c,{ (xs.getD ((st.getD i.toNat default).running % (xs.length:Int)).toNat aZ) with number:=nb },_,key,rfl,⟨⟨_,_,_,_,_,_,rfl,⟨.inr (.inl ⟨21,_,rfl,.list rfl⟩),.inr (.inl ⟨22,_,rfl,.list rfl⟩),.inr (.inl ⟨23,_,rfl,.list rfl⟩)⟩,.inr (.inl ⟨24,_,rfl,.list rfl⟩),.inr (.inl ⟨25,_,rfl,.list rfl⟩),.inr (.inl ⟨26,_,rfl,.list rfl⟩)⟩,.fam rfl⟩,hM.lens,fun b1 hb1=>?_⟩
           cases b1
           ·repeat (first | refine⟨fun _=>?_,fun h=>Bool.noConfusion h⟩ | refine⟨fun h=>Bool.noConfusion h,fun _=>?_⟩ | fail)
            refine⟨kp_,?_⟩
            refine⟨_,c,{ (xs.getD ((st.getD i.toNat default).running % (xs.length:Int)).toNat aZ) with number:=nb },_,key,rfl,⟨.has (N:=⟨18,17,16,15,14,13,500000⟩) (x:=xk) (HasCfg.keeps kp_),.fam rfl⟩,hM.lens,fun b2 hb2=>?_⟩
            obtain rfl:b2=false:=Bool.eq_false_iff.2 fun q=>absurd (hb1.2 (hb2.1 q)) (by decide)
            repeat (first | refine⟨fun _=>?_,fun h=>Bool.noConfusion h⟩ | refine⟨fun h=>Bool.noConfusion h,fun _=>?_⟩ | fail)
            exact⟨(hmOf c.tenants.length hf,hf,none),[],⟨⟨rfl,hH⟩,trivial⟩,⟨rfl,rfl⟩,kp_,kp_⟩
           ·have hvb:=hb1.1 rfl
            repeat (first | refine⟨fun _=>?_,fun h=>Bool.noConfusion h⟩ | refine⟨fun h=>Bool.noConfusion h,fun _=>?_⟩ | fail)
            have hlen:=hvb.len
            refine⟨_,{ (xs.getD ((st.getD i.toNat default).running % (xs.length:Int)).toNat aZ) with number:=nb }.routes,rfl,.fam rfl,by rw[hlen];omega,fun kp2=>?_⟩
            refine⟨kp_,?_⟩
            refine⟨27,hmOf c.tenants.length hf,60,_,_,_,_,_,61,{ (xs.getD ((st.getD i.toNat default).running % (xs.length:Int)).toNat aZ) with number:=nb }.routes,rfl,rfl,rfl,.list rfl,by rw[hlen];exact fun z p h=>hmOf_key h,?_⟩
            repeat (first | refine⟨fun _=>?_,fun h=>Bool.noConfusion h⟩ | refine⟨fun h=>Bool.noConfusion h,fun _=>?_⟩ | fail)
            refine⟨kp_,?_⟩
            refine⟨_,c,{ (xs.getD ((st.getD i.toNat default).running % (xs.length:Int)).toNat aZ) with number:=nb },_,key,rfl,⟨.has (N:=⟨18,17,16,15,14,13,500000⟩) (x:=xk) (HasCfg.keeps kp_),.fam rfl⟩,hM.lens,fun b2 hb2=>?_⟩
            obtain rfl:b2=true:=hb2.2 hvb
            repeat (first | refine⟨fun _=>?_,fun h=>Bool.noConfusion h⟩ | refine⟨fun h=>Bool.noConfusion h,fun _=>?_⟩ | fail)
            refine⟨kp_,?_⟩
            refine⟨⟨Nat.le_refl _,fun k hk=>rfl⟩,?_⟩
            refine⟨⟨rfl,Nat.le_refl _⟩,fun hin el2 g1 g2=>?_,fun hgt=>⟨by show (0+{ (xs.getD ((st.getD i.toNat default).running % (xs.length:Int)).toNat aZ) with number:=nb }.routes.length) * 16≤140737488355328;rw[hlen];omega,fun cap2 el2 hcq g1 g2=>?_⟩⟩
            ·rw[Nat.zero_add]
             refine⟨Int×HF,fun q=>match q with | (z,h2)=>[(5,.int .i64 z)],fun q=>match q with | (z,h2)=>[(30,.row (1000000+92) 2 c.tenants.length (fun k=>pairC (h2 k)))],fun q=>match q with | (z,h2)=>(0≤z∧z≤c.tenants.length)∧h2=dlF { (xs.getD ((st.getD i.toNat default).running % (xs.length:Int)).toNat aZ) with number:=nb }.routes hf z.toNat,fun q=>match q with | (z,h2)=>((c.tenants.length:Int)-z).toNat,⟨(0,hf),⟨by omega,(dlF_zero _ _).symm⟩,kp_,kp_⟩,?_⟩
             rintro⟨z,h2⟩ ⟨hz,rfl⟩
             refine⟨⟨rfl,rfl⟩,?_⟩
             refine⟨fun hzl=>?_,fun hzg=>?_⟩
             ·have hzl2:z<(c.tenants.length:Int):=of_decide_eq_true hzl
              refine⟨⟨Nat.le_refl _,hz.1,hzl2⟩,?_⟩
              refine⟨⟨Nat.le_refl _,hz.1,by rw[hlen];exact hzl2⟩,?_⟩
              refine⟨kp_,?_⟩
              refine⟨kp_,?_⟩
              refine⟨kp_,?_⟩
              refine⟨fun hg=>?_,fun hg=>?_⟩
              ·have hg2:(dlF { (xs.getD ((st.getD i.toNat default).running % (xs.length:Int)).toNat aZ) with number:=nb }.routes hf z.toNat z.toNat).2≤({ (xs.getD ((st.getD i.toNat default).running % (xs.length:Int)).toNat aZ) with number:=nb }.routes.getD z.toNat (0,0)).2:=of_decide_eq_true hg
               rw[dlF_at] at hg2
               refine⟨⟨Nat.le_refl _,hz.1,hzl2⟩,?_⟩
               refine⟨pairC (0,0),rfl,?_⟩
               rw[setEl_hf]
               refine⟨(IntKind.i64.wrap (z+1),stF (dlF { (xs.getD ((st.getD i.toNat default).running % (xs.length:Int)).toNat aZ) with number:=nb }.routes hf z.toNat) z.toNat (0,0)),?_,kp_,kp_⟩
               rw[wrapi (n:=z+1) (by omega)]
               dsimp only
               exact⟨⟨⟨by omega,by omega⟩,by rw[show (z+1).toNat=z.toNat+1 by omega];exact dlF_yes hg2⟩,by omega⟩
              ·have hg2:¬ (dlF { (xs.getD ((st.getD i.toNat default).running % (xs.length:Int)).toNat aZ) with number:=nb }.routes hf z.toNat z.toNat).2≤({ (xs.getD ((st.getD i.toNat default).running % (xs.length:Int)).toNat aZ) with number:=nb }.routes.getD z.toNat (0,0)).2:=of_decide_eq_false hg
               rw[dlF_at] at hg2
               refine⟨(IntKind.i64.wrap (z+1),dlF { (xs.getD ((st.getD i.toNat default).running % (xs.length:Int)).toNat aZ) with number:=nb }.routes hf z.toNat),?_,kp_,kp_⟩
               rw[wrapi (n:=z+1) (by omega)]
               dsimp only
               exact⟨⟨⟨by omega,by omega⟩,by rw[show (z+1).toNat=z.toNat+1 by omega];exact dlF_no hg2⟩,by omega⟩
             ·have hge2:¬ z<(c.tenants.length:Int):=of_decide_eq_false hzg
              obtain rfl:z=(c.tenants.length:Int):=by omega
              repeat (first | refine⟨fun _=>?_,fun h=>Bool.noConfusion h⟩ | refine⟨fun h=>Bool.noConfusion h,fun _=>?_⟩ | fail)
              exact⟨(delH (hmOf c.tenants.length hf) { (xs.getD ((st.getD i.toNat default).running % (xs.length:Int)).toNat aZ) with number:=nb }.routes,dlF { (xs.getD ((st.getD i.toNat default).running % (xs.length:Int)).toNat aZ) with number:=nb }.routes hf c.tenants.length,some ({ (xs.getD ((st.getD i.toNat default).running % (xs.length:Int)).toNat aZ) with number:=nb },kp2,0,el2)),[(98,61),(99,63)],⟨⟨hmOf_del fun k hk=>(hvb.rt hk).2,hH.del _ _⟩,hvb,Nat.le_trans (Nat.le_of_eq (Nat.zero_add _).symm) hin,fun k hk=>by have q:=g2 k hk;rwa[Nat.zero_add] at q⟩,⟨rfl,rfl⟩,(by (try rw[Nat.zero_add]);repeat (first | exact trivial | refine⟨rfl,?_⟩)),(by (try rw[Nat.zero_add]);repeat (first | exact trivial | refine⟨rfl,?_⟩))⟩
            ·rw[Nat.zero_add]
             refine⟨Int×HF,fun q=>match q with | (z,h2)=>[(5,.int .i64 z)],fun q=>match q with | (z,h2)=>[(30,.row (1000000+92) 2 c.tenants.length (fun k=>pairC (h2 k)))],fun q=>match q with | (z,h2)=>(0≤z∧z≤c.tenants.length)∧h2=dlF { (xs.getD ((st.getD i.toNat default).running % (xs.length:Int)).toNat aZ) with number:=nb }.routes hf z.toNat,fun q=>match q with | (z,h2)=>((c.tenants.length:Int)-z).toNat,⟨(0,hf),⟨by omega,(dlF_zero _ _).symm⟩,kp_,kp_⟩,?_⟩
             rintro⟨z,h2⟩ ⟨hz,rfl⟩
             refine⟨⟨rfl,rfl⟩,?_⟩
             refine⟨fun hzl=>?_,fun hzg=>?_⟩
             ·have hzl2:z<(c.tenants.length:Int):=of_decide_eq_true hzl
              refine⟨⟨Nat.le_refl _,hz.1,hzl2⟩,?_⟩
              refine⟨⟨Nat.le_refl _,hz.1,by rw[hlen];exact hzl2⟩,?_⟩
              refine⟨kp_,?_⟩
              refine⟨kp_,?_⟩
              refine⟨kp_,?_⟩
              refine⟨fun hg=>?_,fun hg=>?_⟩
              ·have hg2:(dlF { (xs.getD ((st.getD i.toNat default).running % (xs.length:Int)).toNat aZ) with number:=nb }.routes hf z.toNat z.toNat).2≤({ (xs.getD ((st.getD i.toNat default).running % (xs.length:Int)).toNat aZ) with number:=nb }.routes.getD z.toNat (0,0)).2:=of_decide_eq_true hg
               rw[dlF_at] at hg2
               refine⟨⟨Nat.le_refl _,hz.1,hzl2⟩,?_⟩
               refine⟨pairC (0,0),rfl,?_⟩
               rw[setEl_hf]
               refine⟨(IntKind.i64.wrap (z+1),stF (dlF { (xs.getD ((st.getD i.toNat default).running % (xs.length:Int)).toNat aZ) with number:=nb }.routes hf z.toNat) z.toNat (0,0)),?_,kp_,kp_⟩
               rw[wrapi (n:=z+1) (by omega)]
               dsimp only
               exact⟨⟨⟨by omega,by omega⟩,by rw[show (z+1).toNat=z.toNat+1 by omega];exact dlF_yes hg2⟩,by omega⟩
              ·have hg2:¬ (dlF { (xs.getD ((st.getD i.toNat default).running % (xs.length:Int)).toNat aZ) with number:=nb }.routes hf z.toNat z.toNat).2≤({ (xs.getD ((st.getD i.toNat default).running % (xs.length:Int)).toNat aZ) with number:=nb }.routes.getD z.toNat (0,0)).2:=of_decide_eq_false hg
               rw[dlF_at] at hg2
               refine⟨(IntKind.i64.wrap (z+1),dlF { (xs.getD ((st.getD i.toNat default).running % (xs.length:Int)).toNat aZ) with number:=nb }.routes hf z.toNat),?_,kp_,kp_⟩
               rw[wrapi (n:=z+1) (by omega)]
               dsimp only
               exact⟨⟨⟨by omega,by omega⟩,by rw[show (z+1).toNat=z.toNat+1 by omega];exact dlF_no hg2⟩,by omega⟩
             ·have hge2:¬ z<(c.tenants.length:Int):=of_decide_eq_false hzg
              obtain rfl:z=(c.tenants.length:Int):=by omega
              repeat (first | refine⟨fun _=>?_,fun h=>Bool.noConfusion h⟩ | refine⟨fun h=>Bool.noConfusion h,fun _=>?_⟩ | fail)
              exact⟨(delH (hmOf c.tenants.length hf) { (xs.getD ((st.getD i.toNat default).running % (xs.length:Int)).toNat aZ) with number:=nb }.routes,dlF { (xs.getD ((st.getD i.toNat default).running % (xs.length:Int)).toNat aZ) with number:=nb }.routes hf c.tenants.length,some ({ (xs.getD ((st.getD i.toNat default).running % (xs.length:Int)).toNat aZ) with number:=nb },kp2,cap2,el2)),[(98,61),(99,64)],⟨⟨hmOf_del fun k hk=>(hvb.rt hk).2,hH.del _ _⟩,hvb,Nat.le_trans (Nat.le_of_eq (Nat.zero_add _).symm) hcq,fun k hk=>by have q:=g2 k hk;rwa[Nat.zero_add] at q⟩,⟨rfl,rfl⟩,(by (try rw[Nat.zero_add]);repeat (first | exact trivial | refine⟨rfl,?_⟩)),(by (try rw[Nat.zero_add]);repeat (first | exact trivial | refine⟨rfl,?_⟩))⟩
         ·refine⟨fun _=>?_,fun _=>?_⟩
          ·by_cases h1:(st.getD i.toNat default).running<0
           ·repeat (first | refine⟨fun _=>?_,fun h=>Bool.noConfusion h⟩ | refine⟨fun h=>Bool.noConfusion h,fun _=>?_⟩ | refine⟨⟨by first | exact Nat.le_refl _ | omega | fail,by first | omega | (dsimp only;omega) | fail,by first | omega | (dsimp only;omega) | fail⟩,?_⟩ | refine⟨fun q=>absurd q (by first | (simp[eqCs,eqC1];done) | fail),fun _=>?_⟩ | refine⟨fun _=>?_,fun q=>absurd q (by first | omega | (simp[-List.getD_eq_getElem?_getD];done) | (simp[-List.getD_eq_getElem?_getD];omega) | fail)⟩ | refine⟨fun q=>absurd q (by first | omega | (simp[-List.getD_eq_getElem?_getD];done) | (simp[-List.getD_eq_getElem?_getD];omega) | fail),fun _=>?_⟩ | fail)
            refine⟨kp_,?_⟩
            repeat (first | refine⟨fun _=>?_,fun h=>Bool.noConfusion h⟩ | refine⟨fun h=>Bool.noConfusion h,fun _=>?_⟩ | refine⟨⟨by first | exact Nat.le_refl _ | omega | fail,by first | omega | (dsimp only;omega) | fail,by first | omega | (dsimp only;omega) | fail⟩,?_⟩ | refine⟨fun q=>absurd q (by first | (simp[eqCs,eqC1];done) | fail),fun _=>?_⟩ | refine⟨fun _=>?_,fun q=>absurd q (by first | omega | (simp[-List.getD_eq_getElem?_getD];done) | (simp[-List.getD_eq_getElem?_getD];omega) | fail)⟩ | refine⟨fun q=>absurd q (by first | omega | (simp[-List.getD_eq_getElem?_getD];done) | (simp[-List.getD_eq_getElem?_getD];omega) | fail),fun _=>?_⟩ | fail)
            exact⟨(hmOf c.tenants.length hf,hf,none),[],⟨⟨rfl,hH⟩,trivial⟩,⟨rfl,rfl⟩,kp_,kp_⟩
           ·by_cases h2:(st.getD i.toNat default).running≥(c.tenants.length:Int)
            ·repeat (first | refine⟨fun _=>?_,fun h=>Bool.noConfusion h⟩ | refine⟨fun h=>Bool.noConfusion h,fun _=>?_⟩ | refine⟨⟨by first | exact Nat.le_refl _ | omega | fail,by first | omega | (dsimp only;omega) | fail,by first | omega | (dsimp only;omega) | fail⟩,?_⟩ | refine⟨fun q=>absurd q (by first | (simp[eqCs,eqC1];done) | fail),fun _=>?_⟩ | refine⟨fun _=>?_,fun q=>absurd q (by first | omega | (simp[-List.getD_eq_getElem?_getD];done) | (simp[-List.getD_eq_getElem?_getD];omega) | fail)⟩ | refine⟨fun q=>absurd q (by first | omega | (simp[-List.getD_eq_getElem?_getD];done) | (simp[-List.getD_eq_getElem?_getD];omega) | fail),fun _=>?_⟩ | fail)
             refine⟨kp_,?_⟩
             repeat (first | refine⟨fun _=>?_,fun h=>Bool.noConfusion h⟩ | refine⟨fun h=>Bool.noConfusion h,fun _=>?_⟩ | refine⟨⟨by first | exact Nat.le_refl _ | omega | fail,by first | omega | (dsimp only;omega) | fail,by first | omega | (dsimp only;omega) | fail⟩,?_⟩ | refine⟨fun q=>absurd q (by first | (simp[eqCs,eqC1];done) | fail),fun _=>?_⟩ | refine⟨fun _=>?_,fun q=>absurd q (by first | omega | (simp[-List.getD_eq_getElem?_getD];done) | (simp[-List.getD_eq_getElem?_getD];omega) | fail)⟩ | refine⟨fun q=>absurd q (by first | omega | (simp[-List.getD_eq_getElem?_getD];done) | (simp[-List.getD_eq_getElem?_getD];omega) | fail),fun _=>?_⟩ | fail)
             exact⟨(hmOf c.tenants.length hf,hf,none),[],⟨⟨rfl,hH⟩,trivial⟩,⟨rfl,rfl⟩,kp_,kp_⟩
            ·by_cases h3:(st.getD i.toNat default).wanted<0
             ·repeat (first | refine⟨fun _=>?_,fun h=>Bool.noConfusion h⟩ | refine⟨fun h=>Bool.noConfusion h,fun _=>?_⟩ | refine⟨⟨by first | exact Nat.le_refl _ | omega | fail,by first | omega | (dsimp only;omega) | fail,by first | omega | (dsimp only;omega) | fail⟩,?_⟩ | refine⟨fun q=>absurd q (by first | (simp[eqCs,eqC1];done) | fail),fun _=>?_⟩ | refine⟨fun _=>?_,fun q=>absurd q (by first | omega | (simp[-List.getD_eq_getElem?_getD];done) | (simp[-List.getD_eq_getElem?_getD];omega) | fail)⟩ | refine⟨fun q=>absurd q (by first | omega | (simp[-List.getD_eq_getElem?_getD];done) | (simp[-List.getD_eq_getElem?_getD];omega) | fail),fun _=>?_⟩ | fail)
              refine⟨kp_,?_⟩
              repeat (first | refine⟨fun _=>?_,fun h=>Bool.noConfusion h⟩ | refine⟨fun h=>Bool.noConfusion h,fun _=>?_⟩ | refine⟨⟨by first | exact Nat.le_refl _ | omega | fail,by first | omega | (dsimp only;omega) | fail,by first | omega | (dsimp only;omega) | fail⟩,?_⟩ | refine⟨fun q=>absurd q (by first | (simp[eqCs,eqC1];done) | fail),fun _=>?_⟩ | refine⟨fun _=>?_,fun q=>absurd q (by first | omega | (simp[-List.getD_eq_getElem?_getD];done) | (simp[-List.getD_eq_getElem?_getD];omega) | fail)⟩ | refine⟨fun q=>absurd q (by first | omega | (simp[-List.getD_eq_getElem?_getD];done) | (simp[-List.getD_eq_getElem?_getD];omega) | fail),fun _=>?_⟩ | fail)
              exact⟨(hmOf c.tenants.length hf,hf,none),[],⟨⟨rfl,hH⟩,trivial⟩,⟨rfl,rfl⟩,kp_,kp_⟩
             ·by_cases h4:(st.getD i.toNat default).wanted≥(c.cells.length:Int)
              ·repeat (first | refine⟨fun _=>?_,fun h=>Bool.noConfusion h⟩ | refine⟨fun h=>Bool.noConfusion h,fun _=>?_⟩ | refine⟨⟨by first | exact Nat.le_refl _ | omega | fail,by first | omega | (dsimp only;omega) | fail,by first | omega | (dsimp only;omega) | fail⟩,?_⟩ | refine⟨fun q=>absurd q (by first | (simp[eqCs,eqC1];done) | fail),fun _=>?_⟩ | refine⟨fun _=>?_,fun q=>absurd q (by first | omega | (simp[-List.getD_eq_getElem?_getD];done) | (simp[-List.getD_eq_getElem?_getD];omega) | fail)⟩ | refine⟨fun q=>absurd q (by first | omega | (simp[-List.getD_eq_getElem?_getD];done) | (simp[-List.getD_eq_getElem?_getD];omega) | fail),fun _=>?_⟩ | fail)
               refine⟨kp_,?_⟩
               repeat (first | refine⟨fun _=>?_,fun h=>Bool.noConfusion h⟩ | refine⟨fun h=>Bool.noConfusion h,fun _=>?_⟩ | refine⟨⟨by first | exact Nat.le_refl _ | omega | fail,by first | omega | (dsimp only;omega) | fail,by first | omega | (dsimp only;omega) | fail⟩,?_⟩ | refine⟨fun q=>absurd q (by first | (simp[eqCs,eqC1];done) | fail),fun _=>?_⟩ | refine⟨fun _=>?_,fun q=>absurd q (by first | omega | (simp[-List.getD_eq_getElem?_getD];done) | (simp[-List.getD_eq_getElem?_getD];omega) | fail)⟩ | refine⟨fun q=>absurd q (by first | omega | (simp[-List.getD_eq_getElem?_getD];done) | (simp[-List.getD_eq_getElem?_getD];omega) | fail),fun _=>?_⟩ | fail)
               exact⟨(hmOf c.tenants.length hf,hf,none),[],⟨⟨rfl,hH⟩,trivial⟩,⟨rfl,rfl⟩,kp_,kp_⟩
              ·by_cases h5:(st.getD i.toNat default).since>1048576
               ·repeat (first | refine⟨fun _=>?_,fun h=>Bool.noConfusion h⟩ | refine⟨fun h=>Bool.noConfusion h,fun _=>?_⟩ | refine⟨⟨by first | exact Nat.le_refl _ | omega | fail,by first | omega | (dsimp only;omega) | fail,by first | omega | (dsimp only;omega) | fail⟩,?_⟩ | refine⟨fun q=>absurd q (by first | (simp[eqCs,eqC1];done) | fail),fun _=>?_⟩ | refine⟨fun _=>?_,fun q=>absurd q (by first | omega | (simp[-List.getD_eq_getElem?_getD];done) | (simp[-List.getD_eq_getElem?_getD];omega) | fail)⟩ | refine⟨fun q=>absurd q (by first | omega | (simp[-List.getD_eq_getElem?_getD];done) | (simp[-List.getD_eq_getElem?_getD];omega) | fail),fun _=>?_⟩ | fail)
                refine⟨kp_,?_⟩
                repeat (first | refine⟨fun _=>?_,fun h=>Bool.noConfusion h⟩ | refine⟨fun h=>Bool.noConfusion h,fun _=>?_⟩ | refine⟨⟨by first | exact Nat.le_refl _ | omega | fail,by first | omega | (dsimp only;omega) | fail,by first | omega | (dsimp only;omega) | fail⟩,?_⟩ | refine⟨fun q=>absurd q (by first | (simp[eqCs,eqC1];done) | fail),fun _=>?_⟩ | refine⟨fun _=>?_,fun q=>absurd q (by first | omega | (simp[-List.getD_eq_getElem?_getD];done) | (simp[-List.getD_eq_getElem?_getD];omega) | fail)⟩ | refine⟨fun q=>absurd q (by first | omega | (simp[-List.getD_eq_getElem?_getD];done) | (simp[-List.getD_eq_getElem?_getD];omega) | fail),fun _=>?_⟩ | fail)
                exact⟨(hmOf c.tenants.length hf,hf,none),[],⟨⟨rfl,hH⟩,trivial⟩,⟨rfl,rfl⟩,kp_,kp_⟩
               ·have hht:=hH ((st.getD i.toNat default).running).toNat (by omega)
                by_cases h6:(hf ((st.getD i.toNat default).running).toNat).2=0
                ·repeat (first | refine⟨fun _=>?_,fun h=>Bool.noConfusion h⟩ | refine⟨fun h=>Bool.noConfusion h,fun _=>?_⟩ | refine⟨⟨by first | exact Nat.le_refl _ | omega | fail,by first | omega | (dsimp only;omega) | fail,by first | omega | (dsimp only;omega) | fail⟩,?_⟩ | refine⟨fun q=>absurd q (by first | (simp[eqCs,eqC1];done) | fail),fun _=>?_⟩ | refine⟨fun _=>?_,fun q=>absurd q (by first | omega | (simp[-List.getD_eq_getElem?_getD];done) | (simp[-List.getD_eq_getElem?_getD];omega) | fail)⟩ | refine⟨fun q=>absurd q (by first | omega | (simp[-List.getD_eq_getElem?_getD];done) | (simp[-List.getD_eq_getElem?_getD];omega) | fail),fun _=>?_⟩ | fail)
                 refine⟨fun l hl=>?_,fun _=>?_⟩
                 ·obtain⟨p,hp,-⟩:=hintF_some hl
                  rw[hmOf_no ⟨by omega,by omega⟩ h6] at hp
                  cases hp
                 ·by_cases h7:(st.getD i.toNat default).since≤0
                  ·repeat (first | refine⟨fun _=>?_,fun h=>Bool.noConfusion h⟩ | refine⟨fun h=>Bool.noConfusion h,fun _=>?_⟩ | refine⟨⟨by first | exact Nat.le_refl _ | omega | fail,by first | omega | (dsimp only;omega) | fail,by first | omega | (dsimp only;omega) | fail⟩,?_⟩ | refine⟨fun q=>absurd q (by first | (simp[eqCs,eqC1];done) | fail),fun _=>?_⟩ | refine⟨fun _=>?_,fun q=>absurd q (by first | omega | (simp[-List.getD_eq_getElem?_getD];done) | (simp[-List.getD_eq_getElem?_getD];omega) | fail)⟩ | refine⟨fun q=>absurd q (by first | omega | (simp[-List.getD_eq_getElem?_getD];done) | (simp[-List.getD_eq_getElem?_getD];omega) | fail),fun _=>?_⟩ | fail)
                   refine⟨kp_,?_⟩
                   repeat (first | refine⟨fun _=>?_,fun h=>Bool.noConfusion h⟩ | refine⟨fun h=>Bool.noConfusion h,fun _=>?_⟩ | refine⟨⟨by first | exact Nat.le_refl _ | omega | fail,by first | omega | (dsimp only;omega) | fail,by first | omega | (dsimp only;omega) | fail⟩,?_⟩ | refine⟨fun q=>absurd q (by first | (simp[eqCs,eqC1];done) | fail),fun _=>?_⟩ | refine⟨fun _=>?_,fun q=>absurd q (by first | omega | (simp[-List.getD_eq_getElem?_getD];done) | (simp[-List.getD_eq_getElem?_getD];omega) | fail)⟩ | refine⟨fun q=>absurd q (by first | omega | (simp[-List.getD_eq_getElem?_getD];done) | (simp[-List.getD_eq_getElem?_getD];omega) | fail),fun _=>?_⟩ | fail)
                   exact⟨(hmOf c.tenants.length hf,hf,none),[],⟨⟨rfl,hH⟩,trivial⟩,⟨rfl,rfl⟩,kp_,kp_⟩
                  ·repeat (first | refine⟨fun _=>?_,fun h=>Bool.noConfusion h⟩ | refine⟨fun h=>Bool.noConfusion h,fun _=>?_⟩ | refine⟨⟨by first | exact Nat.le_refl _ | omega | fail,by first | omega | (dsimp only;omega) | fail,by first | omega | (dsimp only;omega) | fail⟩,?_⟩ | refine⟨fun q=>absurd q (by first | (simp[eqCs,eqC1];done) | fail),fun _=>?_⟩ | refine⟨fun _=>?_,fun q=>absurd q (by first | omega | (simp[-List.getD_eq_getElem?_getD];done) | (simp[-List.getD_eq_getElem?_getD];omega) | fail)⟩ | refine⟨fun q=>absurd q (by first | omega | (simp[-List.getD_eq_getElem?_getD];done) | (simp[-List.getD_eq_getElem?_getD];omega) | fail),fun _=>?_⟩ | fail)
                   refine⟨hintF (putH (hmOf c.tenants.length hf) ((st.getD i.toNat default).running) ((st.getD i.toNat default).wanted,(st.getD i.toNat default).since)),putH_put _ _ ((st.getD i.toNat default).wanted,(st.getD i.toNat default).since),?_⟩
                   repeat (first | refine⟨fun _=>?_,fun h=>Bool.noConfusion h⟩ | refine⟨fun h=>Bool.noConfusion h,fun _=>?_⟩ | refine⟨⟨by first | exact Nat.le_refl _ | omega | fail,by first | omega | (dsimp only;omega) | fail,by first | omega | (dsimp only;omega) | fail⟩,?_⟩ | refine⟨fun q=>absurd q (by first | (simp[eqCs,eqC1];done) | fail),fun _=>?_⟩ | refine⟨fun _=>?_,fun q=>absurd q (by first | omega | (simp[-List.getD_eq_getElem?_getD];done) | (simp[-List.getD_eq_getElem?_getD];omega) | fail)⟩ | refine⟨fun q=>absurd q (by first | omega | (simp[-List.getD_eq_getElem?_getD];done) | (simp[-List.getD_eq_getElem?_getD];omega) | fail),fun _=>?_⟩ | fail)
                   refine⟨kp_,?_⟩
                   repeat (first | refine⟨fun _=>?_,fun h=>Bool.noConfusion h⟩ | refine⟨fun h=>Bool.noConfusion h,fun _=>?_⟩ | refine⟨⟨by first | exact Nat.le_refl _ | omega | fail,by first | omega | (dsimp only;omega) | fail,by first | omega | (dsimp only;omega) | fail⟩,?_⟩ | refine⟨fun q=>absurd q (by first | (simp[eqCs,eqC1];done) | fail),fun _=>?_⟩ | refine⟨fun _=>?_,fun q=>absurd q (by first | omega | (simp[-List.getD_eq_getElem?_getD];done) | (simp[-List.getD_eq_getElem?_getD];omega) | fail)⟩ | refine⟨fun q=>absurd q (by first | omega | (simp[-List.getD_eq_getElem?_getD];done) | (simp[-List.getD_eq_getElem?_getD];omega) | fail),fun _=>?_⟩ | fail)
                   refine⟨pairC ((st.getD i.toNat default).wanted,(st.getD i.toNat default).since),rfl,?_⟩
                   rw[setEl_hf]
                   repeat (first | refine⟨fun _=>?_,fun h=>Bool.noConfusion h⟩ | refine⟨fun h=>Bool.noConfusion h,fun _=>?_⟩ | refine⟨⟨by first | exact Nat.le_refl _ | omega | fail,by first | omega | (dsimp only;omega) | fail,by first | omega | (dsimp only;omega) | fail⟩,?_⟩ | refine⟨fun q=>absurd q (by first | (simp[eqCs,eqC1];done) | fail),fun _=>?_⟩ | refine⟨fun _=>?_,fun q=>absurd q (by first | omega | (simp[-List.getD_eq_getElem?_getD];done) | (simp[-List.getD_eq_getElem?_getD];omega) | fail)⟩ | refine⟨fun q=>absurd q (by first | omega | (simp[-List.getD_eq_getElem?_getD];done) | (simp[-List.getD_eq_getElem?_getD];omega) | fail),fun _=>?_⟩ | fail)
                   exact⟨(putH (hmOf c.tenants.length hf) ((st.getD i.toNat default).running) ((st.getD i.toNat default).wanted,(st.getD i.toNat default).since),stF hf ((st.getD i.toNat default).running).toNat ((st.getD i.toNat default).wanted,(st.getD i.toNat default).since),none),[],⟨⟨hmOf_set ⟨by omega,by omega⟩ (by show (st.getD i.toNat default).since≠0;omega),hH.set (by show 0≤(st.getD i.toNat default).since;omega)⟩,trivial⟩,⟨rfl,rfl⟩,kp_,kp_⟩
                ·repeat (first | refine⟨fun _=>?_,fun h=>Bool.noConfusion h⟩ | refine⟨fun h=>Bool.noConfusion h,fun _=>?_⟩ | refine⟨⟨by first | exact Nat.le_refl _ | omega | fail,by first | omega | (dsimp only;omega) | fail,by first | omega | (dsimp only;omega) | fail⟩,?_⟩ | refine⟨fun q=>absurd q (by first | (simp[eqCs,eqC1];done) | fail),fun _=>?_⟩ | refine⟨fun _=>?_,fun q=>absurd q (by first | omega | (simp[-List.getD_eq_getElem?_getD];done) | (simp[-List.getD_eq_getElem?_getD];omega) | fail)⟩ | refine⟨fun q=>absurd q (by first | omega | (simp[-List.getD_eq_getElem?_getD];done) | (simp[-List.getD_eq_getElem?_getD];omega) | fail),fun _=>?_⟩ | fail)
                 refine⟨fun l hl=>?_,fun hl=>?_⟩
                 ·obtain⟨p,hp,rfl⟩:=hintF_some hl
                  rw[hmOf_in ⟨by omega,by omega⟩ h6] at hp
                  obtain rfl:=Option.some.inj hp
                  by_cases h7:(st.getD i.toNat default).since≤(hf ((st.getD i.toNat default).running).toNat).2
                  ·repeat (first | refine⟨fun _=>?_,fun h=>Bool.noConfusion h⟩ | refine⟨fun h=>Bool.noConfusion h,fun _=>?_⟩ | refine⟨⟨by first | exact Nat.le_refl _ | omega | fail,by first | omega | (dsimp only;omega) | fail,by first | omega | (dsimp only;omega) | fail⟩,?_⟩ | refine⟨fun q=>absurd q (by first | (simp[eqCs,eqC1];done) | fail),fun _=>?_⟩ | refine⟨fun _=>?_,fun q=>absurd q (by first | omega | (simp[-List.getD_eq_getElem?_getD];done) | (simp[-List.getD_eq_getElem?_getD];omega) | fail)⟩ | refine⟨fun q=>absurd q (by first | omega | (simp[-List.getD_eq_getElem?_getD];done) | (simp[-List.getD_eq_getElem?_getD];omega) | fail),fun _=>?_⟩ | fail)
                   refine⟨kp_,?_⟩
                   repeat (first | refine⟨fun _=>?_,fun h=>Bool.noConfusion h⟩ | refine⟨fun h=>Bool.noConfusion h,fun _=>?_⟩ | refine⟨⟨by first | exact Nat.le_refl _ | omega | fail,by first | omega | (dsimp only;omega) | fail,by first | omega | (dsimp only;omega) | fail⟩,?_⟩ | refine⟨fun q=>absurd q (by first | (simp[eqCs,eqC1];done) | fail),fun _=>?_⟩ | refine⟨fun _=>?_,fun q=>absurd q (by first | omega | (simp[-List.getD_eq_getElem?_getD];done) | (simp[-List.getD_eq_getElem?_getD];omega) | fail)⟩ | refine⟨fun q=>absurd q (by first | omega | (simp[-List.getD_eq_getElem?_getD];done) | (simp[-List.getD_eq_getElem?_getD];omega) | fail),fun _=>?_⟩ | fail)
                   exact⟨(hmOf c.tenants.length hf,hf,none),[],⟨⟨rfl,hH⟩,trivial⟩,⟨rfl,rfl⟩,kp_,kp_⟩
                  ·repeat (first | refine⟨fun _=>?_,fun h=>Bool.noConfusion h⟩ | refine⟨fun h=>Bool.noConfusion h,fun _=>?_⟩ | refine⟨⟨by first | exact Nat.le_refl _ | omega | fail,by first | omega | (dsimp only;omega) | fail,by first | omega | (dsimp only;omega) | fail⟩,?_⟩ | refine⟨fun q=>absurd q (by first | (simp[eqCs,eqC1];done) | fail),fun _=>?_⟩ | refine⟨fun _=>?_,fun q=>absurd q (by first | omega | (simp[-List.getD_eq_getElem?_getD];done) | (simp[-List.getD_eq_getElem?_getD];omega) | fail)⟩ | refine⟨fun q=>absurd q (by first | omega | (simp[-List.getD_eq_getElem?_getD];done) | (simp[-List.getD_eq_getElem?_getD];omega) | fail),fun _=>?_⟩ | fail)
                   refine⟨hintF (putH (hmOf c.tenants.length hf) ((st.getD i.toNat default).running) ((st.getD i.toNat default).wanted,(st.getD i.toNat default).since)),putH_put _ _ ((st.getD i.toNat default).wanted,(st.getD i.toNat default).since),?_⟩
                   repeat (first | refine⟨fun _=>?_,fun h=>Bool.noConfusion h⟩ | refine⟨fun h=>Bool.noConfusion h,fun _=>?_⟩ | refine⟨⟨by first | exact Nat.le_refl _ | omega | fail,by first | omega | (dsimp only;omega) | fail,by first | omega | (dsimp only;omega) | fail⟩,?_⟩ | refine⟨fun q=>absurd q (by first | (simp[eqCs,eqC1];done) | fail),fun _=>?_⟩ | refine⟨fun _=>?_,fun q=>absurd q (by first | omega | (simp[-List.getD_eq_getElem?_getD];done) | (simp[-List.getD_eq_getElem?_getD];omega) | fail)⟩ | refine⟨fun q=>absurd q (by first | omega | (simp[-List.getD_eq_getElem?_getD];done) | (simp[-List.getD_eq_getElem?_getD];omega) | fail),fun _=>?_⟩ | fail)
                   refine⟨kp_,?_⟩
                   repeat (first | refine⟨fun _=>?_,fun h=>Bool.noConfusion h⟩ | refine⟨fun h=>Bool.noConfusion h,fun _=>?_⟩ | refine⟨⟨by first | exact Nat.le_refl _ | omega | fail,by first | omega | (dsimp only;omega) | fail,by first | omega | (dsimp only;omega) | fail⟩,?_⟩ | refine⟨fun q=>absurd q (by first | (simp[eqCs,eqC1];done) | fail),fun _=>?_⟩ | refine⟨fun _=>?_,fun q=>absurd q (by first | omega | (simp[-List.getD_eq_getElem?_getD];done) | (simp[-List.getD_eq_getElem?_getD];omega) | fail)⟩ | refine⟨fun q=>absurd q (by first | omega | (simp[-List.getD_eq_getElem?_getD];done) | (simp[-List.getD_eq_getElem?_getD];omega) | fail),fun _=>?_⟩ | fail)
                   refine⟨pairC ((st.getD i.toNat default).wanted,(st.getD i.toNat default).since),rfl,?_⟩
                   rw[setEl_hf]
                   repeat (first | refine⟨fun _=>?_,fun h=>Bool.noConfusion h⟩ | refine⟨fun h=>Bool.noConfusion h,fun _=>?_⟩ | refine⟨⟨by first | exact Nat.le_refl _ | omega | fail,by first | omega | (dsimp only;omega) | fail,by first | omega | (dsimp only;omega) | fail⟩,?_⟩ | refine⟨fun q=>absurd q (by first | (simp[eqCs,eqC1];done) | fail),fun _=>?_⟩ | refine⟨fun _=>?_,fun q=>absurd q (by first | omega | (simp[-List.getD_eq_getElem?_getD];done) | (simp[-List.getD_eq_getElem?_getD];omega) | fail)⟩ | refine⟨fun q=>absurd q (by first | omega | (simp[-List.getD_eq_getElem?_getD];done) | (simp[-List.getD_eq_getElem?_getD];omega) | fail),fun _=>?_⟩ | fail)
                   exact⟨(putH (hmOf c.tenants.length hf) ((st.getD i.toNat default).running) ((st.getD i.toNat default).wanted,(st.getD i.toNat default).since),stF hf ((st.getD i.toNat default).running).toNat ((st.getD i.toNat default).wanted,(st.getD i.toNat default).since),none),[],⟨⟨hmOf_set ⟨by omega,by omega⟩ (by show (st.getD i.toNat default).since≠0;omega),hH.set (by show 0≤(st.getD i.toNat default).since;omega)⟩,trivial⟩,⟨rfl,rfl⟩,kp_,kp_⟩
                 ·have hp:=hintF_none hl
                  rw[hmOf_in ⟨by omega,by omega⟩ h6] at hp
                  cases hp
          ·refine⟨_,_,_,rfl,⟨by decide,by decide⟩,fun t5 ht5=>?_⟩
           refine⟨kp_,?_⟩
           refine⟨_,_,_,rfl,⟨by decide,by decide⟩,fun x5 hx5=>?_⟩
           refine⟨kp_,?_⟩
           refine⟨_,_,_,rfl,⟨by decide,by decide⟩,fun e5 he5=>?_⟩
           by_cases h1:t5<0
           ·repeat (first | refine⟨fun _=>?_,fun h=>Bool.noConfusion h⟩ | refine⟨fun h=>Bool.noConfusion h,fun _=>?_⟩ | refine⟨⟨by first | exact Nat.le_refl _ | omega | fail,by first | omega | (dsimp only;omega) | fail,by first | omega | (dsimp only;omega) | fail⟩,?_⟩ | refine⟨fun q=>absurd q (by first | (simp[eqCs,eqC1];done) | fail),fun _=>?_⟩ | refine⟨fun _=>?_,fun q=>absurd q (by first | omega | (simp[-List.getD_eq_getElem?_getD];done) | (simp[-List.getD_eq_getElem?_getD];omega) | fail)⟩ | refine⟨fun q=>absurd q (by first | omega | (simp[-List.getD_eq_getElem?_getD];done) | (simp[-List.getD_eq_getElem?_getD];omega) | fail),fun _=>?_⟩ | fail)
            exact⟨(hmOf c.tenants.length hf,hf,none),[],⟨⟨rfl,hH⟩,trivial⟩,⟨rfl,rfl⟩,kp_,kp_⟩
           ·by_cases h2:t5≥(c.tenants.length:Int)
            ·repeat (first | refine⟨fun _=>?_,fun h=>Bool.noConfusion h⟩ | refine⟨fun h=>Bool.noConfusion h,fun _=>?_⟩ | refine⟨⟨by first | exact Nat.le_refl _ | omega | fail,by first | omega | (dsimp only;omega) | fail,by first | omega | (dsimp only;omega) | fail⟩,?_⟩ | refine⟨fun q=>absurd q (by first | (simp[eqCs,eqC1];done) | fail),fun _=>?_⟩ | refine⟨fun _=>?_,fun q=>absurd q (by first | omega | (simp[-List.getD_eq_getElem?_getD];done) | (simp[-List.getD_eq_getElem?_getD];omega) | fail)⟩ | refine⟨fun q=>absurd q (by first | omega | (simp[-List.getD_eq_getElem?_getD];done) | (simp[-List.getD_eq_getElem?_getD];omega) | fail),fun _=>?_⟩ | fail)
             exact⟨(hmOf c.tenants.length hf,hf,none),[],⟨⟨rfl,hH⟩,trivial⟩,⟨rfl,rfl⟩,kp_,kp_⟩
            ·by_cases h3:x5<0
             ·repeat (first | refine⟨fun _=>?_,fun h=>Bool.noConfusion h⟩ | refine⟨fun h=>Bool.noConfusion h,fun _=>?_⟩ | refine⟨⟨by first | exact Nat.le_refl _ | omega | fail,by first | omega | (dsimp only;omega) | fail,by first | omega | (dsimp only;omega) | fail⟩,?_⟩ | refine⟨fun q=>absurd q (by first | (simp[eqCs,eqC1];done) | fail),fun _=>?_⟩ | refine⟨fun _=>?_,fun q=>absurd q (by first | omega | (simp[-List.getD_eq_getElem?_getD];done) | (simp[-List.getD_eq_getElem?_getD];omega) | fail)⟩ | refine⟨fun q=>absurd q (by first | omega | (simp[-List.getD_eq_getElem?_getD];done) | (simp[-List.getD_eq_getElem?_getD];omega) | fail),fun _=>?_⟩ | fail)
              exact⟨(hmOf c.tenants.length hf,hf,none),[],⟨⟨rfl,hH⟩,trivial⟩,⟨rfl,rfl⟩,kp_,kp_⟩
             ·by_cases h4:x5≥(c.cells.length:Int)
              ·repeat (first | refine⟨fun _=>?_,fun h=>Bool.noConfusion h⟩ | refine⟨fun h=>Bool.noConfusion h,fun _=>?_⟩ | refine⟨⟨by first | exact Nat.le_refl _ | omega | fail,by first | omega | (dsimp only;omega) | fail,by first | omega | (dsimp only;omega) | fail⟩,?_⟩ | refine⟨fun q=>absurd q (by first | (simp[eqCs,eqC1];done) | fail),fun _=>?_⟩ | refine⟨fun _=>?_,fun q=>absurd q (by first | omega | (simp[-List.getD_eq_getElem?_getD];done) | (simp[-List.getD_eq_getElem?_getD];omega) | fail)⟩ | refine⟨fun q=>absurd q (by first | omega | (simp[-List.getD_eq_getElem?_getD];done) | (simp[-List.getD_eq_getElem?_getD];omega) | fail),fun _=>?_⟩ | fail)
               exact⟨(hmOf c.tenants.length hf,hf,none),[],⟨⟨rfl,hH⟩,trivial⟩,⟨rfl,rfl⟩,kp_,kp_⟩
              ·by_cases h5:e5>1048576
               ·repeat (first | refine⟨fun _=>?_,fun h=>Bool.noConfusion h⟩ | refine⟨fun h=>Bool.noConfusion h,fun _=>?_⟩ | refine⟨⟨by first | exact Nat.le_refl _ | omega | fail,by first | omega | (dsimp only;omega) | fail,by first | omega | (dsimp only;omega) | fail⟩,?_⟩ | refine⟨fun q=>absurd q (by first | (simp[eqCs,eqC1];done) | fail),fun _=>?_⟩ | refine⟨fun _=>?_,fun q=>absurd q (by first | omega | (simp[-List.getD_eq_getElem?_getD];done) | (simp[-List.getD_eq_getElem?_getD];omega) | fail)⟩ | refine⟨fun q=>absurd q (by first | omega | (simp[-List.getD_eq_getElem?_getD];done) | (simp[-List.getD_eq_getElem?_getD];omega) | fail),fun _=>?_⟩ | fail)
                exact⟨(hmOf c.tenants.length hf,hf,none),[],⟨⟨rfl,hH⟩,trivial⟩,⟨rfl,rfl⟩,kp_,kp_⟩
               ·have hht:=hH (t5).toNat (by omega)
                by_cases h6:(hf (t5).toNat).2=0
                ·repeat (first | refine⟨fun _=>?_,fun h=>Bool.noConfusion h⟩ | refine⟨fun h=>Bool.noConfusion h,fun _=>?_⟩ | refine⟨⟨by first | exact Nat.le_refl _ | omega | fail,by first | omega | (dsimp only;omega) | fail,by first | omega | (dsimp only;omega) | fail⟩,?_⟩ | refine⟨fun q=>absurd q (by first | (simp[eqCs,eqC1];done) | fail),fun _=>?_⟩ | refine⟨fun _=>?_,fun q=>absurd q (by first | omega | (simp[-List.getD_eq_getElem?_getD];done) | (simp[-List.getD_eq_getElem?_getD];omega) | fail)⟩ | refine⟨fun q=>absurd q (by first | omega | (simp[-List.getD_eq_getElem?_getD];done) | (simp[-List.getD_eq_getElem?_getD];omega) | fail),fun _=>?_⟩ | fail)
                 refine⟨fun l hl=>?_,fun _=>?_⟩
                 ·obtain⟨p,hp,-⟩:=hintF_some hl
                  rw[hmOf_no ⟨by omega,by omega⟩ h6] at hp
                  cases hp
                 ·by_cases h7:e5≤0
                  ·repeat (first | refine⟨fun _=>?_,fun h=>Bool.noConfusion h⟩ | refine⟨fun h=>Bool.noConfusion h,fun _=>?_⟩ | refine⟨⟨by first | exact Nat.le_refl _ | omega | fail,by first | omega | (dsimp only;omega) | fail,by first | omega | (dsimp only;omega) | fail⟩,?_⟩ | refine⟨fun q=>absurd q (by first | (simp[eqCs,eqC1];done) | fail),fun _=>?_⟩ | refine⟨fun _=>?_,fun q=>absurd q (by first | omega | (simp[-List.getD_eq_getElem?_getD];done) | (simp[-List.getD_eq_getElem?_getD];omega) | fail)⟩ | refine⟨fun q=>absurd q (by first | omega | (simp[-List.getD_eq_getElem?_getD];done) | (simp[-List.getD_eq_getElem?_getD];omega) | fail),fun _=>?_⟩ | fail)
                   exact⟨(hmOf c.tenants.length hf,hf,none),[],⟨⟨rfl,hH⟩,trivial⟩,⟨rfl,rfl⟩,kp_,kp_⟩
                  ·repeat (first | refine⟨fun _=>?_,fun h=>Bool.noConfusion h⟩ | refine⟨fun h=>Bool.noConfusion h,fun _=>?_⟩ | refine⟨⟨by first | exact Nat.le_refl _ | omega | fail,by first | omega | (dsimp only;omega) | fail,by first | omega | (dsimp only;omega) | fail⟩,?_⟩ | refine⟨fun q=>absurd q (by first | (simp[eqCs,eqC1];done) | fail),fun _=>?_⟩ | refine⟨fun _=>?_,fun q=>absurd q (by first | omega | (simp[-List.getD_eq_getElem?_getD];done) | (simp[-List.getD_eq_getElem?_getD];omega) | fail)⟩ | refine⟨fun q=>absurd q (by first | omega | (simp[-List.getD_eq_getElem?_getD];done) | (simp[-List.getD_eq_getElem?_getD];omega) | fail),fun _=>?_⟩ | fail)
                   refine⟨hintF (putH (hmOf c.tenants.length hf) (t5) (x5,e5)),putH_put _ _ (x5,e5),?_⟩
                   repeat (first | refine⟨fun _=>?_,fun h=>Bool.noConfusion h⟩ | refine⟨fun h=>Bool.noConfusion h,fun _=>?_⟩ | refine⟨⟨by first | exact Nat.le_refl _ | omega | fail,by first | omega | (dsimp only;omega) | fail,by first | omega | (dsimp only;omega) | fail⟩,?_⟩ | refine⟨fun q=>absurd q (by first | (simp[eqCs,eqC1];done) | fail),fun _=>?_⟩ | refine⟨fun _=>?_,fun q=>absurd q (by first | omega | (simp[-List.getD_eq_getElem?_getD];done) | (simp[-List.getD_eq_getElem?_getD];omega) | fail)⟩ | refine⟨fun q=>absurd q (by first | omega | (simp[-List.getD_eq_getElem?_getD];done) | (simp[-List.getD_eq_getElem?_getD];omega) | fail),fun _=>?_⟩ | fail)
                   refine⟨pairC (x5,e5),rfl,?_⟩
                   rw[setEl_hf]
                   repeat (first | refine⟨fun _=>?_,fun h=>Bool.noConfusion h⟩ | refine⟨fun h=>Bool.noConfusion h,fun _=>?_⟩ | refine⟨⟨by first | exact Nat.le_refl _ | omega | fail,by first | omega | (dsimp only;omega) | fail,by first | omega | (dsimp only;omega) | fail⟩,?_⟩ | refine⟨fun q=>absurd q (by first | (simp[eqCs,eqC1];done) | fail),fun _=>?_⟩ | refine⟨fun _=>?_,fun q=>absurd q (by first | omega | (simp[-List.getD_eq_getElem?_getD];done) | (simp[-List.getD_eq_getElem?_getD];omega) | fail)⟩ | refine⟨fun q=>absurd q (by first | omega | (simp[-List.getD_eq_getElem?_getD];done) | (simp[-List.getD_eq_getElem?_getD];omega) | fail),fun _=>?_⟩ | fail)
                   exact⟨(putH (hmOf c.tenants.length hf) (t5) (x5,e5),stF hf (t5).toNat (x5,e5),none),[],⟨⟨hmOf_set ⟨by omega,by omega⟩ (by show e5≠0;omega),hH.set (by show 0≤e5;omega)⟩,trivial⟩,⟨rfl,rfl⟩,kp_,kp_⟩
                ·repeat (first | refine⟨fun _=>?_,fun h=>Bool.noConfusion h⟩ | refine⟨fun h=>Bool.noConfusion h,fun _=>?_⟩ | refine⟨⟨by first | exact Nat.le_refl _ | omega | fail,by first | omega | (dsimp only;omega) | fail,by first | omega | (dsimp only;omega) | fail⟩,?_⟩ | refine⟨fun q=>absurd q (by first | (simp[eqCs,eqC1];done) | fail),fun _=>?_⟩ | refine⟨fun _=>?_,fun q=>absurd q (by first | omega | (simp[-List.getD_eq_getElem?_getD];done) | (simp[-List.getD_eq_getElem?_getD];omega) | fail)⟩ | refine⟨fun q=>absurd q (by first | omega | (simp[-List.getD_eq_getElem?_getD];done) | (simp[-List.getD_eq_getElem?_getD];omega) | fail),fun _=>?_⟩ | fail)
                 refine⟨fun l hl=>?_,fun hl=>?_⟩
                 ·obtain⟨p,hp,rfl⟩:=hintF_some hl
                  rw[hmOf_in ⟨by omega,by omega⟩ h6] at hp
                  obtain rfl:=Option.some.inj hp
                  by_cases h7:e5≤(hf (t5).toNat).2
                  ·repeat (first | refine⟨fun _=>?_,fun h=>Bool.noConfusion h⟩ | refine⟨fun h=>Bool.noConfusion h,fun _=>?_⟩ | refine⟨⟨by first | exact Nat.le_refl _ | omega | fail,by first | omega | (dsimp only;omega) | fail,by first | omega | (dsimp only;omega) | fail⟩,?_⟩ | refine⟨fun q=>absurd q (by first | (simp[eqCs,eqC1];done) | fail),fun _=>?_⟩ | refine⟨fun _=>?_,fun q=>absurd q (by first | omega | (simp[-List.getD_eq_getElem?_getD];done) | (simp[-List.getD_eq_getElem?_getD];omega) | fail)⟩ | refine⟨fun q=>absurd q (by first | omega | (simp[-List.getD_eq_getElem?_getD];done) | (simp[-List.getD_eq_getElem?_getD];omega) | fail),fun _=>?_⟩ | fail)
                   exact⟨(hmOf c.tenants.length hf,hf,none),[],⟨⟨rfl,hH⟩,trivial⟩,⟨rfl,rfl⟩,kp_,kp_⟩
                  ·repeat (first | refine⟨fun _=>?_,fun h=>Bool.noConfusion h⟩ | refine⟨fun h=>Bool.noConfusion h,fun _=>?_⟩ | refine⟨⟨by first | exact Nat.le_refl _ | omega | fail,by first | omega | (dsimp only;omega) | fail,by first | omega | (dsimp only;omega) | fail⟩,?_⟩ | refine⟨fun q=>absurd q (by first | (simp[eqCs,eqC1];done) | fail),fun _=>?_⟩ | refine⟨fun _=>?_,fun q=>absurd q (by first | omega | (simp[-List.getD_eq_getElem?_getD];done) | (simp[-List.getD_eq_getElem?_getD];omega) | fail)⟩ | refine⟨fun q=>absurd q (by first | omega | (simp[-List.getD_eq_getElem?_getD];done) | (simp[-List.getD_eq_getElem?_getD];omega) | fail),fun _=>?_⟩ | fail)
                   refine⟨hintF (putH (hmOf c.tenants.length hf) (t5) (x5,e5)),putH_put _ _ (x5,e5),?_⟩
                   repeat (first | refine⟨fun _=>?_,fun h=>Bool.noConfusion h⟩ | refine⟨fun h=>Bool.noConfusion h,fun _=>?_⟩ | refine⟨⟨by first | exact Nat.le_refl _ | omega | fail,by first | omega | (dsimp only;omega) | fail,by first | omega | (dsimp only;omega) | fail⟩,?_⟩ | refine⟨fun q=>absurd q (by first | (simp[eqCs,eqC1];done) | fail),fun _=>?_⟩ | refine⟨fun _=>?_,fun q=>absurd q (by first | omega | (simp[-List.getD_eq_getElem?_getD];done) | (simp[-List.getD_eq_getElem?_getD];omega) | fail)⟩ | refine⟨fun q=>absurd q (by first | omega | (simp[-List.getD_eq_getElem?_getD];done) | (simp[-List.getD_eq_getElem?_getD];omega) | fail),fun _=>?_⟩ | fail)
                   refine⟨pairC (x5,e5),rfl,?_⟩
                   rw[setEl_hf]
                   repeat (first | refine⟨fun _=>?_,fun h=>Bool.noConfusion h⟩ | refine⟨fun h=>Bool.noConfusion h,fun _=>?_⟩ | refine⟨⟨by first | exact Nat.le_refl _ | omega | fail,by first | omega | (dsimp only;omega) | fail,by first | omega | (dsimp only;omega) | fail⟩,?_⟩ | refine⟨fun q=>absurd q (by first | (simp[eqCs,eqC1];done) | fail),fun _=>?_⟩ | refine⟨fun _=>?_,fun q=>absurd q (by first | omega | (simp[-List.getD_eq_getElem?_getD];done) | (simp[-List.getD_eq_getElem?_getD];omega) | fail)⟩ | refine⟨fun q=>absurd q (by first | omega | (simp[-List.getD_eq_getElem?_getD];done) | (simp[-List.getD_eq_getElem?_getD];omega) | fail),fun _=>?_⟩ | fail)
                   exact⟨(putH (hmOf c.tenants.length hf) (t5) (x5,e5),stF hf (t5).toNat (x5,e5),none),[],⟨⟨hmOf_set ⟨by omega,by omega⟩ (by show e5≠0;omega),hH.set (by show 0≤e5;omega)⟩,trivial⟩,⟨rfl,rfl⟩,kp_,kp_⟩
                 ·have hp:=hintF_none hl
                  rw[hmOf_in ⟨by omega,by omega⟩ h6] at hp
                  cases hp
       rintro⟨hm,hf,(_ | ⟨A,kp,kq,elq⟩)⟩ ⟨⟨rfl,hH⟩,ho⟩
       ·refine⟨⟨by decide,rfl,rfl⟩,?_⟩
        refine⟨Int,fun z=>[(5,.int .i64 z)],fun _=>[],fun z=>-1≤z∧z≤(c.tenants.length:Int)+1,fun z=>((c.tenants.length:Int)+1-z).toNat,⟨-1,by omega,kp_,kp_⟩,?_⟩
        rintro z hz
        refine⟨⟨rfl,rfl⟩,?_⟩
        refine⟨fun hzl=>?_,fun hzg=>?_⟩
        ·have hzl2:z≤(c.tenants.length:Int):=of_decide_eq_true hzl
         clear hzl
         by_cases hr:0≤z∧z<(c.tenants.length:Int)
         ·by_cases he:(hf z.toNat).2=0
          ·refine⟨fun l hl=>?_,fun _=>?_⟩
           ·obtain⟨p,hp,-⟩:=hintF_some hl
            rw[hmOf_no hr he] at hp
            cases hp
           ·repeat (first | refine⟨fun _=>?_,fun h=>Bool.noConfusion h⟩ | refine⟨fun h=>Bool.noConfusion h,fun _=>?_⟩ | refine⟨⟨by first | exact Nat.le_refl _ | omega | fail,by first | omega | (dsimp only;omega) | fail,by first | omega | (dsimp only;omega) | fail⟩,?_⟩ | refine⟨fun q=>absurd q (by first | (simp[eqCs,eqC1];done) | fail),fun _=>?_⟩ | refine⟨fun _=>?_,fun q=>absurd q (by first | omega | (simp[-List.getD_eq_getElem?_getD];done) | (simp[-List.getD_eq_getElem?_getD];omega) | fail)⟩ | refine⟨fun q=>absurd q (by first | omega | (simp[-List.getD_eq_getElem?_getD];done) | (simp[-List.getD_eq_getElem?_getD];omega) | fail),fun _=>?_⟩ | fail)
            refine⟨fun l hl=>?_,fun _=>?_⟩
            ·obtain⟨p,hp,-⟩:=hintF_some hl
             rw[hmOf_no hr he] at hp
             cases hp
            ·repeat (first | refine⟨fun _=>?_,fun h=>Bool.noConfusion h⟩ | refine⟨fun h=>Bool.noConfusion h,fun _=>?_⟩ | refine⟨⟨by first | exact Nat.le_refl _ | omega | fail,by first | omega | (dsimp only;omega) | fail,by first | omega | (dsimp only;omega) | fail⟩,?_⟩ | refine⟨fun q=>absurd q (by first | (simp[eqCs,eqC1];done) | fail),fun _=>?_⟩ | refine⟨fun _=>?_,fun q=>absurd q (by first | omega | (simp[-List.getD_eq_getElem?_getD];done) | (simp[-List.getD_eq_getElem?_getD];omega) | fail)⟩ | refine⟨fun q=>absurd q (by first | omega | (simp[-List.getD_eq_getElem?_getD];done) | (simp[-List.getD_eq_getElem?_getD];omega) | fail),fun _=>?_⟩ | fail)
             refine⟨_,?_,kp_,kp_⟩
             rw[wrapi (n:=z+1) (by omega)]
             dsimp only
             exact⟨by omega,by omega⟩
          ·refine⟨fun l hl=>?_,fun hl=>?_⟩
           ·obtain⟨p,hp,rfl⟩:=hintF_some hl
            rw[hmOf_in hr he] at hp
            obtain rfl:=Option.some.inj hp
            repeat (first | refine⟨fun _=>?_,fun h=>Bool.noConfusion h⟩ | refine⟨fun h=>Bool.noConfusion h,fun _=>?_⟩ | refine⟨⟨by first | exact Nat.le_refl _ | omega | fail,by first | omega | (dsimp only;omega) | fail,by first | omega | (dsimp only;omega) | fail⟩,?_⟩ | refine⟨fun q=>absurd q (by first | (simp[eqCs,eqC1];done) | fail),fun _=>?_⟩ | refine⟨fun _=>?_,fun q=>absurd q (by first | omega | (simp[-List.getD_eq_getElem?_getD];done) | (simp[-List.getD_eq_getElem?_getD];omega) | fail)⟩ | refine⟨fun q=>absurd q (by first | omega | (simp[-List.getD_eq_getElem?_getD];done) | (simp[-List.getD_eq_getElem?_getD];omega) | fail),fun _=>?_⟩ | fail)
            refine⟨fun l hl=>?_,fun hl=>?_⟩
            ·obtain⟨p,hp,rfl⟩:=hintF_some hl
             rw[hmOf_in hr he] at hp
             obtain rfl:=Option.some.inj hp
             repeat (first | refine⟨fun _=>?_,fun h=>Bool.noConfusion h⟩ | refine⟨fun h=>Bool.noConfusion h,fun _=>?_⟩ | refine⟨⟨by first | exact Nat.le_refl _ | omega | fail,by first | omega | (dsimp only;omega) | fail,by first | omega | (dsimp only;omega) | fail⟩,?_⟩ | refine⟨fun q=>absurd q (by first | (simp[eqCs,eqC1];done) | fail),fun _=>?_⟩ | refine⟨fun _=>?_,fun q=>absurd q (by first | omega | (simp[-List.getD_eq_getElem?_getD];done) | (simp[-List.getD_eq_getElem?_getD];omega) | fail)⟩ | refine⟨fun q=>absurd q (by first | omega | (simp[-List.getD_eq_getElem?_getD];done) | (simp[-List.getD_eq_getElem?_getD];omega) | fail),fun _=>?_⟩ | fail)
             refine⟨_,?_,kp_,kp_⟩
             rw[wrapi (n:=z+1) (by omega)]
             dsimp only
             exact⟨by omega,by omega⟩
            ·have hp:=hintF_none hl
             rw[hmOf_in hr he] at hp
             cases hp
           ·have hp:=hintF_none hl
            rw[hmOf_in hr he] at hp
            cases hp
         ·by_cases h0:z<0
          ·refine⟨fun l hl=>?_,fun _=>?_⟩
           ·obtain⟨p,hp,-⟩:=hintF_some hl
            rw[hmOf_out hr] at hp
            cases hp
           ·repeat (first | refine⟨fun _=>?_,fun h=>Bool.noConfusion h⟩ | refine⟨fun h=>Bool.noConfusion h,fun _=>?_⟩ | refine⟨⟨by first | exact Nat.le_refl _ | omega | fail,by first | omega | (dsimp only;omega) | fail,by first | omega | (dsimp only;omega) | fail⟩,?_⟩ | refine⟨fun q=>absurd q (by first | (simp[eqCs,eqC1];done) | fail),fun _=>?_⟩ | refine⟨fun _=>?_,fun q=>absurd q (by first | omega | (simp[-List.getD_eq_getElem?_getD];done) | (simp[-List.getD_eq_getElem?_getD];omega) | fail)⟩ | refine⟨fun q=>absurd q (by first | omega | (simp[-List.getD_eq_getElem?_getD];done) | (simp[-List.getD_eq_getElem?_getD];omega) | fail),fun _=>?_⟩ | fail)
            refine⟨fun l hl=>?_,fun _=>?_⟩
            ·obtain⟨p,hp,-⟩:=hintF_some hl
             rw[hmOf_out hr] at hp
             cases hp
            ·repeat (first | refine⟨fun _=>?_,fun h=>Bool.noConfusion h⟩ | refine⟨fun h=>Bool.noConfusion h,fun _=>?_⟩ | refine⟨⟨by first | exact Nat.le_refl _ | omega | fail,by first | omega | (dsimp only;omega) | fail,by first | omega | (dsimp only;omega) | fail⟩,?_⟩ | refine⟨fun q=>absurd q (by first | (simp[eqCs,eqC1];done) | fail),fun _=>?_⟩ | refine⟨fun _=>?_,fun q=>absurd q (by first | omega | (simp[-List.getD_eq_getElem?_getD];done) | (simp[-List.getD_eq_getElem?_getD];omega) | fail)⟩ | refine⟨fun q=>absurd q (by first | omega | (simp[-List.getD_eq_getElem?_getD];done) | (simp[-List.getD_eq_getElem?_getD];omega) | fail),fun _=>?_⟩ | fail)
             refine⟨_,?_,kp_,kp_⟩
             rw[wrapi (n:=z+1) (by omega)]
             dsimp only
             exact⟨by omega,by omega⟩
          ·refine⟨fun l hl=>?_,fun _=>?_⟩
           ·obtain⟨p,hp,-⟩:=hintF_some hl
            rw[hmOf_out hr] at hp
            cases hp
           ·repeat (first | refine⟨fun _=>?_,fun h=>Bool.noConfusion h⟩ | refine⟨fun h=>Bool.noConfusion h,fun _=>?_⟩ | refine⟨⟨by first | exact Nat.le_refl _ | omega | fail,by first | omega | (dsimp only;omega) | fail,by first | omega | (dsimp only;omega) | fail⟩,?_⟩ | refine⟨fun q=>absurd q (by first | (simp[eqCs,eqC1];done) | fail),fun _=>?_⟩ | refine⟨fun _=>?_,fun q=>absurd q (by first | omega | (simp[-List.getD_eq_getElem?_getD];done) | (simp[-List.getD_eq_getElem?_getD];omega) | fail)⟩ | refine⟨fun q=>absurd q (by first | omega | (simp[-List.getD_eq_getElem?_getD];done) | (simp[-List.getD_eq_getElem?_getD];omega) | fail),fun _=>?_⟩ | fail)
            refine⟨fun l hl=>?_,fun _=>?_⟩
            ·obtain⟨p,hp,-⟩:=hintF_some hl
             rw[hmOf_out hr] at hp
             cases hp
            ·repeat (first | refine⟨fun _=>?_,fun h=>Bool.noConfusion h⟩ | refine⟨fun h=>Bool.noConfusion h,fun _=>?_⟩ | refine⟨⟨by first | exact Nat.le_refl _ | omega | fail,by first | omega | (dsimp only;omega) | fail,by first | omega | (dsimp only;omega) | fail⟩,?_⟩ | refine⟨fun q=>absurd q (by first | (simp[eqCs,eqC1];done) | fail),fun _=>?_⟩ | refine⟨fun _=>?_,fun q=>absurd q (by first | omega | (simp[-List.getD_eq_getElem?_getD];done) | (simp[-List.getD_eq_getElem?_getD];omega) | fail)⟩ | refine⟨fun q=>absurd q (by first | omega | (simp[-List.getD_eq_getElem?_getD];done) | (simp[-List.getD_eq_getElem?_getD];omega) | fail),fun _=>?_⟩ | fail)
             refine⟨_,?_,kp_,kp_⟩
             rw[wrapi (n:=z+1) (by omega)]
             dsimp only
             exact⟨by omega,by omega⟩
        ·repeat (first | refine⟨fun _=>?_,fun h=>Bool.noConfusion h⟩ | refine⟨fun h=>Bool.noConfusion h,fun _=>?_⟩ | refine⟨⟨by first | exact Nat.le_refl _ | omega | fail,by first | omega | (dsimp only;omega) | fail,by first | omega | (dsimp only;omega) | fail⟩,?_⟩ | refine⟨fun q=>absurd q (by first | (simp[eqCs,eqC1];done) | fail),fun _=>?_⟩ | refine⟨fun _=>?_,fun q=>absurd q (by first | omega | (simp[-List.getD_eq_getElem?_getD];done) | (simp[-List.getD_eq_getElem?_getD];omega) | fail)⟩ | refine⟨fun q=>absurd q (by first | omega | (simp[-List.getD_eq_getElem?_getD];done) | (simp[-List.getD_eq_getElem?_getD];omega) | fail),fun _=>?_⟩ | fail)
         refine⟨(IntKind.i64.wrap (i+1),hmOf c.tenants.length hf,hf,none),[],?_,⟨rfl,rfl⟩,kp_,kp_⟩
         dsimp only
         rw[wrapi (n:=i+1) (by omega)]
         exact⟨⟨⟨by omega,by omega⟩,⟨rfl,hH⟩,trivial⟩,by omega⟩
       ·obtain⟨hva,hkq,hel⟩:=ho
        have hal:=hva.len
        refine⟨⟨by decide,rfl,rfl⟩,?_⟩
        refine⟨Int,fun z=>[(5,.int .i64 z)],fun _=>[],fun z=>-1≤z∧z≤(c.tenants.length:Int)+1,fun z=>((c.tenants.length:Int)+1-z).toNat,⟨-1,by omega,kp_,kp_⟩,?_⟩
        rintro z hz
        refine⟨⟨rfl,rfl⟩,?_⟩
        refine⟨fun hzl=>?_,fun hzg=>?_⟩
        ·have hzl2:z≤(c.tenants.length:Int):=of_decide_eq_true hzl
         clear hzl
         by_cases hr:0≤z∧z<(c.tenants.length:Int)
         ·by_cases he:(hf z.toNat).2=0
          ·have hcv:=(hva.rt (k:=z.toNat) (by omega)).1
           by_cases hc:(A.routes.getD z.toNat (0,0)).1=-1
           ·refine⟨fun l hl=>?_,fun _=>?_⟩
            ·obtain⟨p,hp,-⟩:=hintF_some hl
             rw[hmOf_no hr he] at hp
             cases hp
            ·repeat (first | refine⟨fun _=>?_,fun h=>Bool.noConfusion h⟩ | refine⟨fun h=>Bool.noConfusion h,fun _=>?_⟩ | refine⟨⟨by first | exact Nat.le_refl _ | omega | fail,by first | omega | (dsimp only;omega) | fail,by first | omega | (dsimp only;omega) | fail⟩,?_⟩ | refine⟨fun q=>absurd q (by first | (simp[eqCs,eqC1];done) | fail),fun _=>?_⟩ | refine⟨fun _=>?_,fun q=>absurd q (by first | omega | (simp[-List.getD_eq_getElem?_getD];done) | (simp[-List.getD_eq_getElem?_getD];omega) | fail)⟩ | refine⟨fun q=>absurd q (by first | omega | (simp[-List.getD_eq_getElem?_getD];done) | (simp[-List.getD_eq_getElem?_getD];omega) | fail),fun _=>?_⟩ | fail)
             conv=>whnf
             rw[vx_row_at (v:=.int .i64 (A.routes.getD z.toNat (0,0)).1) (hel z.toNat (by omega)) ?hx ?ht ?hm ?hv]
             case hx=>rfl
             case ht=>rfl
             case hm=>rfl
             case hv=>rfl
             repeat (first | refine⟨fun _=>?_,fun h=>Bool.noConfusion h⟩ | refine⟨fun h=>Bool.noConfusion h,fun _=>?_⟩ | refine⟨⟨by first | exact Nat.le_refl _ | omega | fail,by first | omega | (dsimp only;omega) | fail,by first | omega | (dsimp only;omega) | fail⟩,?_⟩ | refine⟨fun q=>absurd q (by first | (simp[eqCs,eqC1];done) | fail),fun _=>?_⟩ | refine⟨fun _=>?_,fun q=>absurd q (by first | omega | (simp[-List.getD_eq_getElem?_getD];done) | (simp[-List.getD_eq_getElem?_getD];omega) | fail)⟩ | refine⟨fun q=>absurd q (by first | omega | (simp[-List.getD_eq_getElem?_getD];done) | (simp[-List.getD_eq_getElem?_getD];omega) | fail),fun _=>?_⟩ | fail)
             refine⟨fun l hl=>?_,fun _=>?_⟩
             ·obtain⟨p,hp,-⟩:=hintF_some hl
              rw[hmOf_no hr he] at hp
              cases hp
             ·repeat (first | refine⟨fun _=>?_,fun h=>Bool.noConfusion h⟩ | refine⟨fun h=>Bool.noConfusion h,fun _=>?_⟩ | refine⟨⟨by first | exact Nat.le_refl _ | omega | fail,by first | omega | (dsimp only;omega) | fail,by first | omega | (dsimp only;omega) | fail⟩,?_⟩ | refine⟨fun q=>absurd q (by first | (simp[eqCs,eqC1];done) | fail),fun _=>?_⟩ | refine⟨fun _=>?_,fun q=>absurd q (by first | omega | (simp[-List.getD_eq_getElem?_getD];done) | (simp[-List.getD_eq_getElem?_getD];omega) | fail)⟩ | refine⟨fun q=>absurd q (by first | omega | (simp[-List.getD_eq_getElem?_getD];done) | (simp[-List.getD_eq_getElem?_getD];omega) | fail),fun _=>?_⟩ | fail)
              refine⟨_,?_,kp_,kp_⟩
              rw[wrapi (n:=z+1) (by omega)]
              dsimp only
              exact⟨by omega,by omega⟩
           ·refine⟨fun l hl=>?_,fun _=>?_⟩
            ·obtain⟨p,hp,-⟩:=hintF_some hl
             rw[hmOf_no hr he] at hp
             cases hp
            ·repeat (first | refine⟨fun _=>?_,fun h=>Bool.noConfusion h⟩ | refine⟨fun h=>Bool.noConfusion h,fun _=>?_⟩ | refine⟨⟨by first | exact Nat.le_refl _ | omega | fail,by first | omega | (dsimp only;omega) | fail,by first | omega | (dsimp only;omega) | fail⟩,?_⟩ | refine⟨fun q=>absurd q (by first | (simp[eqCs,eqC1];done) | fail),fun _=>?_⟩ | refine⟨fun _=>?_,fun q=>absurd q (by first | omega | (simp[-List.getD_eq_getElem?_getD];done) | (simp[-List.getD_eq_getElem?_getD];omega) | fail)⟩ | refine⟨fun q=>absurd q (by first | omega | (simp[-List.getD_eq_getElem?_getD];done) | (simp[-List.getD_eq_getElem?_getD];omega) | fail),fun _=>?_⟩ | fail)
             conv=>whnf
             rw[vx_row_at (v:=.int .i64 (A.routes.getD z.toNat (0,0)).1) (hel z.toNat (by omega)) ?hx ?ht ?hm ?hv]
             case hx=>rfl
             case ht=>rfl
             case hm=>rfl
             case hv=>rfl
             repeat (first | refine⟨fun _=>?_,fun h=>Bool.noConfusion h⟩ | refine⟨fun h=>Bool.noConfusion h,fun _=>?_⟩ | refine⟨⟨by first | exact Nat.le_refl _ | omega | fail,by first | omega | (dsimp only;omega) | fail,by first | omega | (dsimp only;omega) | fail⟩,?_⟩ | refine⟨fun q=>absurd q (by first | (simp[eqCs,eqC1];done) | fail),fun _=>?_⟩ | refine⟨fun _=>?_,fun q=>absurd q (by first | omega | (simp[-List.getD_eq_getElem?_getD];done) | (simp[-List.getD_eq_getElem?_getD];omega) | fail)⟩ | refine⟨fun q=>absurd q (by first | omega | (simp[-List.getD_eq_getElem?_getD];done) | (simp[-List.getD_eq_getElem?_getD];omega) | fail),fun _=>?_⟩ | fail)
             conv=>whnf
             rw[vx_row_at (v:=.agg #[.int .i64 (A.routes.getD z.toNat (0,0)).1,.int .i64 (A.routes.getD z.toNat (0,0)).2]) (hel z.toNat (by omega)) ?hx ?ht ?hm ?hv]
             case hx=>rfl
             case ht=>rfl
             case hm=>rfl
             case hv=>rfl
             repeat (first | refine⟨fun _=>?_,fun h=>Bool.noConfusion h⟩ | refine⟨fun h=>Bool.noConfusion h,fun _=>?_⟩ | refine⟨⟨by first | exact Nat.le_refl _ | omega | fail,by first | omega | (dsimp only;omega) | fail,by first | omega | (dsimp only;omega) | fail⟩,?_⟩ | refine⟨fun q=>absurd q (by first | (simp[eqCs,eqC1];done) | fail),fun _=>?_⟩ | refine⟨fun _=>?_,fun q=>absurd q (by first | omega | (simp[-List.getD_eq_getElem?_getD];done) | (simp[-List.getD_eq_getElem?_getD];omega) | fail)⟩ | refine⟨fun q=>absurd q (by first | omega | (simp[-List.getD_eq_getElem?_getD];done) | (simp[-List.getD_eq_getElem?_getD];omega) | fail),fun _=>?_⟩ | fail)
             refine⟨fun l hl=>?_,fun _=>?_⟩
             ·obtain⟨p,hp,-⟩:=hintF_some hl
              rw[hmOf_no hr he] at hp
              cases hp
             ·repeat (first | refine⟨fun _=>?_,fun h=>Bool.noConfusion h⟩ | refine⟨fun h=>Bool.noConfusion h,fun _=>?_⟩ | refine⟨⟨by first | exact Nat.le_refl _ | omega | fail,by first | omega | (dsimp only;omega) | fail,by first | omega | (dsimp only;omega) | fail⟩,?_⟩ | refine⟨fun q=>absurd q (by first | (simp[eqCs,eqC1];done) | fail),fun _=>?_⟩ | refine⟨fun _=>?_,fun q=>absurd q (by first | omega | (simp[-List.getD_eq_getElem?_getD];done) | (simp[-List.getD_eq_getElem?_getD];omega) | fail)⟩ | refine⟨fun q=>absurd q (by first | omega | (simp[-List.getD_eq_getElem?_getD];done) | (simp[-List.getD_eq_getElem?_getD];omega) | fail),fun _=>?_⟩ | fail)
              refine⟨_,?_,kp_,kp_⟩
              rw[wrapi (n:=z+1) (by omega)]
              dsimp only
              exact⟨by omega,by omega⟩
          ·refine⟨fun l hl=>?_,fun hl=>?_⟩
           ·obtain⟨p,hp,rfl⟩:=hintF_some hl
            rw[hmOf_in hr he] at hp
            obtain rfl:=Option.some.inj hp
            repeat (first | refine⟨fun _=>?_,fun h=>Bool.noConfusion h⟩ | refine⟨fun h=>Bool.noConfusion h,fun _=>?_⟩ | refine⟨⟨by first | exact Nat.le_refl _ | omega | fail,by first | omega | (dsimp only;omega) | fail,by first | omega | (dsimp only;omega) | fail⟩,?_⟩ | refine⟨fun q=>absurd q (by first | (simp[eqCs,eqC1];done) | fail),fun _=>?_⟩ | refine⟨fun _=>?_,fun q=>absurd q (by first | omega | (simp[-List.getD_eq_getElem?_getD];done) | (simp[-List.getD_eq_getElem?_getD];omega) | fail)⟩ | refine⟨fun q=>absurd q (by first | omega | (simp[-List.getD_eq_getElem?_getD];done) | (simp[-List.getD_eq_getElem?_getD];omega) | fail),fun _=>?_⟩ | fail)
            refine⟨fun l hl=>?_,fun hl=>?_⟩
            ·obtain⟨p,hp,rfl⟩:=hintF_some hl
             rw[hmOf_in hr he] at hp
             obtain rfl:=Option.some.inj hp
             repeat (first | refine⟨fun _=>?_,fun h=>Bool.noConfusion h⟩ | refine⟨fun h=>Bool.noConfusion h,fun _=>?_⟩ | refine⟨⟨by first | exact Nat.le_refl _ | omega | fail,by first | omega | (dsimp only;omega) | fail,by first | omega | (dsimp only;omega) | fail⟩,?_⟩ | refine⟨fun q=>absurd q (by first | (simp[eqCs,eqC1];done) | fail),fun _=>?_⟩ | refine⟨fun _=>?_,fun q=>absurd q (by first | omega | (simp[-List.getD_eq_getElem?_getD];done) | (simp[-List.getD_eq_getElem?_getD];omega) | fail)⟩ | refine⟨fun q=>absurd q (by first | omega | (simp[-List.getD_eq_getElem?_getD];done) | (simp[-List.getD_eq_getElem?_getD];omega) | fail),fun _=>?_⟩ | fail)
             refine⟨_,?_,kp_,kp_⟩
             rw[wrapi (n:=z+1) (by omega)]
             dsimp only
             exact⟨by omega,by omega⟩
            ·have hp:=hintF_none hl
             rw[hmOf_in hr he] at hp
             cases hp
           ·have hp:=hintF_none hl
            rw[hmOf_in hr he] at hp
            cases hp
         ·by_cases h0:z<0
          ·refine⟨fun l hl=>?_,fun _=>?_⟩
           ·obtain⟨p,hp,-⟩:=hintF_some hl
            rw[hmOf_out hr] at hp
            cases hp
           ·repeat (first | refine⟨fun _=>?_,fun h=>Bool.noConfusion h⟩ | refine⟨fun h=>Bool.noConfusion h,fun _=>?_⟩ | refine⟨⟨by first | exact Nat.le_refl _ | omega | fail,by first | omega | (dsimp only;omega) | fail,by first | omega | (dsimp only;omega) | fail⟩,?_⟩ | refine⟨fun q=>absurd q (by first | (simp[eqCs,eqC1];done) | fail),fun _=>?_⟩ | refine⟨fun _=>?_,fun q=>absurd q (by first | omega | (simp[-List.getD_eq_getElem?_getD];done) | (simp[-List.getD_eq_getElem?_getD];omega) | fail)⟩ | refine⟨fun q=>absurd q (by first | omega | (simp[-List.getD_eq_getElem?_getD];done) | (simp[-List.getD_eq_getElem?_getD];omega) | fail),fun _=>?_⟩ | fail)
            refine⟨fun l hl=>?_,fun _=>?_⟩
            ·obtain⟨p,hp,-⟩:=hintF_some hl
             rw[hmOf_out hr] at hp
             cases hp
            ·repeat (first | refine⟨fun _=>?_,fun h=>Bool.noConfusion h⟩ | refine⟨fun h=>Bool.noConfusion h,fun _=>?_⟩ | refine⟨⟨by first | exact Nat.le_refl _ | omega | fail,by first | omega | (dsimp only;omega) | fail,by first | omega | (dsimp only;omega) | fail⟩,?_⟩ | refine⟨fun q=>absurd q (by first | (simp[eqCs,eqC1];done) | fail),fun _=>?_⟩ | refine⟨fun _=>?_,fun q=>absurd q (by first | omega | (simp[-List.getD_eq_getElem?_getD];done) | (simp[-List.getD_eq_getElem?_getD];omega) | fail)⟩ | refine⟨fun q=>absurd q (by first | omega | (simp[-List.getD_eq_getElem?_getD];done) | (simp[-List.getD_eq_getElem?_getD];omega) | fail),fun _=>?_⟩ | fail)
             refine⟨_,?_,kp_,kp_⟩
             rw[wrapi (n:=z+1) (by omega)]
             dsimp only
             exact⟨by omega,by omega⟩
          ·refine⟨fun l hl=>?_,fun _=>?_⟩
           ·obtain⟨p,hp,-⟩:=hintF_some hl
            rw[hmOf_out hr] at hp
            cases hp
           ·repeat (first | refine⟨fun _=>?_,fun h=>Bool.noConfusion h⟩ | refine⟨fun h=>Bool.noConfusion h,fun _=>?_⟩ | refine⟨⟨by first | exact Nat.le_refl _ | omega | fail,by first | omega | (dsimp only;omega) | fail,by first | omega | (dsimp only;omega) | fail⟩,?_⟩ | refine⟨fun q=>absurd q (by first | (simp[eqCs,eqC1];done) | fail),fun _=>?_⟩ | refine⟨fun _=>?_,fun q=>absurd q (by first | omega | (simp[-List.getD_eq_getElem?_getD];done) | (simp[-List.getD_eq_getElem?_getD];omega) | fail)⟩ | refine⟨fun q=>absurd q (by first | omega | (simp[-List.getD_eq_getElem?_getD];done) | (simp[-List.getD_eq_getElem?_getD];omega) | fail),fun _=>?_⟩ | fail)
            refine⟨fun l hl=>?_,fun _=>?_⟩
            ·obtain⟨p,hp,-⟩:=hintF_some hl
             rw[hmOf_out hr] at hp
             cases hp
            ·repeat (first | refine⟨fun _=>?_,fun h=>Bool.noConfusion h⟩ | refine⟨fun h=>Bool.noConfusion h,fun _=>?_⟩ | refine⟨⟨by first | exact Nat.le_refl _ | omega | fail,by first | omega | (dsimp only;omega) | fail,by first | omega | (dsimp only;omega) | fail⟩,?_⟩ | refine⟨fun q=>absurd q (by first | (simp[eqCs,eqC1];done) | fail),fun _=>?_⟩ | refine⟨fun _=>?_,fun q=>absurd q (by first | omega | (simp[-List.getD_eq_getElem?_getD];done) | (simp[-List.getD_eq_getElem?_getD];omega) | fail)⟩ | refine⟨fun q=>absurd q (by first | omega | (simp[-List.getD_eq_getElem?_getD];done) | (simp[-List.getD_eq_getElem?_getD];omega) | fail),fun _=>?_⟩ | fail)
             refine⟨_,?_,kp_,kp_⟩
             rw[wrapi (n:=z+1) (by omega)]
             dsimp only
             exact⟨by omega,by omega⟩
        ·repeat (first | refine⟨fun _=>?_,fun h=>Bool.noConfusion h⟩ | refine⟨fun h=>Bool.noConfusion h,fun _=>?_⟩ | refine⟨⟨by first | exact Nat.le_refl _ | omega | fail,by first | omega | (dsimp only;omega) | fail,by first | omega | (dsimp only;omega) | fail⟩,?_⟩ | refine⟨fun q=>absurd q (by first | (simp[eqCs,eqC1];done) | fail),fun _=>?_⟩ | refine⟨fun _=>?_,fun q=>absurd q (by first | omega | (simp[-List.getD_eq_getElem?_getD];done) | (simp[-List.getD_eq_getElem?_getD];omega) | fail)⟩ | refine⟨fun q=>absurd q (by first | omega | (simp[-List.getD_eq_getElem?_getD];done) | (simp[-List.getD_eq_getElem?_getD];omega) | fail),fun _=>?_⟩ | fail)
         refine⟨(IntKind.i64.wrap (i+1),hmOf c.tenants.length hf,hf,some (A,kp,kq,elq)),[(52,98),(53,99)],?_,⟨rfl,rfl⟩,kp_,kp_⟩
         dsimp only
         rw[wrapi (n:=i+1) (by omega)]
         exact⟨⟨⟨by omega,by omega⟩,⟨rfl,hH⟩,⟨hva,hkq,hel⟩⟩,by omega⟩
      ·exact⟨rfl,rfl⟩
     ·obtain⟨hva,hkq,hel⟩:=ho
      refine⟨⟨by decide,rfl,rfl⟩,?_⟩
      refine⟨fun hlt=>?_,fun hge=>?_⟩
      ·have hlt2:i<(st.length:Int):=of_decide_eq_true hlt
       refine⟨⟨Nat.le_refl _,hi.1,hlt2⟩,?_⟩
       refine⟨_,_,rfl,⟨by omega,by omega⟩,?_⟩
       have hj:0≤(st.getD i.toNat default).running % (xs.length:Int)∧(st.getD i.toNat default).running % (xs.length:Int)<xs.length:=⟨Int.emod_nonneg _ (by omega),Int.emod_lt_of_pos _ (by omega)⟩
       have hjn:((st.getD i.toNat default).running % (xs.length:Int)).toNat<xs.length:=by omega
       refine⟨⟨Nat.le_refl _,hj.1,hj.2⟩,?_⟩
       refine⟨(Int→Option (Int×Int))×HF×Option (Atl×Nat×Nat×(Nat→List Value)),fun _=>[],fun q=>match q with | (hm,hf,none)=>[(28,.box 114 [.int .i64 c.regions,slc 21 c.zones.length k_zones,slc 22 c.cells.length k_cells,slc 23 c.tenants.length k_tenants,slc 24 c.versions.length k_versions,slc 25 c.replicas.length k_replicas,slc 26 c.observers.length k_observers,.int .i64 c.blast,.int .i64 c.lease,.int .i64 c.bake,.int .i64 key,.bool false,.int .i64 0,.int .i64 0,zs0,.int .u64 0,.int .u64 0,.map (some 27)]),(27,.ext (.map .i64 true (hintF hm))),(30,.row (1000000+92) 2 c.tenants.length (fun k=>pairC (hf k))),(31,.box 116 [.int .i64 c.regions,slc 18 c.zones.length xk.cz,slc 17 c.cells.length xk.cc,slc 16 c.tenants.length xk.ct,slc 15 c.versions.length xk.cv,slc 14 c.replicas.length xk.cr,slc 13 c.observers.length xk.co,.int .i64 c.blast,.int .i64 c.lease,.int .i64 c.bake,.int .i64 key,.bool false,.int .i64 0,.int .i64 0,zs0,.int .u64 0,.int .u64 0,slc 30 c.tenants.length c.tenants.length])] | (hm,hf,some (A,kp,kq,elq))=>[(28,.box 114 [.int .i64 c.regions,slc 21 c.zones.length k_zones,slc 22 c.cells.length k_cells,slc 23 c.tenants.length k_tenants,slc 24 c.versions.length k_versions,slc 25 c.replicas.length k_replicas,slc 26 c.observers.length k_observers,.int .i64 c.blast,.int .i64 c.lease,.int .i64 c.bake,.int .i64 key,.bool true,.int .i64 A.number,.int .i64 A.tick,slc 98 A.routes.length kp,.int .u64 A.parent,.int .u64 A.sum,.map (some 27)]),(27,.ext (.map .i64 true (hintF hm))),(30,.row (1000000+92) 2 c.tenants.length (fun k=>pairC (hf k))),(31,.box 116 [.int .i64 c.regions,slc 18 c.zones.length xk.cz,slc 17 c.cells.length xk.cc,slc 16 c.tenants.length xk.ct,slc 15 c.versions.length xk.cv,slc 14 c.replicas.length xk.cr,slc 13 c.observers.length xk.co,.int .i64 c.blast,.int .i64 c.lease,.int .i64 c.bake,.int .i64 key,.bool true,.int .i64 A.number,.int .i64 A.tick,slc 99 A.routes.length kq,.int .u64 A.parent,.int .u64 A.sum,slc 30 c.tenants.length c.tenants.length]),(98,rowOfL 500000 2 pairC (0,0) A.routes),(99,.row (1000000+92) 2 kq elq)],fun q=>match q with | (hm,hf,o)=>(hm=hmOf c.tenants.length hf∧HfOk c.tenants.length hf)∧match o with | none=>True | some (A,kp,kq,elq)=>ValidA c A key∧A.routes.length≤kq∧∀ k,k<A.routes.length→elq k=pairC (A.routes.getD k (0,0)),?_,?_⟩
       ·refine⟨_,_,rfl,⟨by decide,by decide⟩,?_⟩
        refine⟨Bool,fun b=>[(44,.bool b)],fun _=>[],fun _=>True,?_,?_⟩
        ·repeat' (first | refine⟨fun _=>?_,fun h=>Bool.noConfusion h⟩ | refine⟨fun h=>Bool.noConfusion h,fun _=>?_⟩ | refine⟨fun _=>?_,fun _=>?_⟩ | fail)
         all_goals exact⟨_,trivial,kp_,kp_⟩
        rintro b -
        refine⟨⟨by decide,rfl,rfl⟩,?_⟩
        refine⟨fun _=>?_,fun _=>?_⟩
        ·refine⟨_,c,(xs.getD ((st.getD i.toNat default).running % (xs.length:Int)).toNat aZ),_,key,rfl,⟨⟨_,_,_,_,_,_,rfl,⟨.inr (.inl ⟨21,_,rfl,.list rfl⟩),.inr (.inl ⟨22,_,rfl,.list rfl⟩),.inr (.inl ⟨23,_,rfl,.list rfl⟩)⟩,.inr (.inl ⟨24,_,rfl,.list rfl⟩),.inr (.inl ⟨25,_,rfl,.list rfl⟩),.inr (.inl ⟨26,_,rfl,.list rfl⟩)⟩,.fam rfl⟩,hM.lens,fun b1 hb1=>?_⟩
         cases b1
         ·repeat (first | refine⟨fun _=>?_,fun h=>Bool.noConfusion h⟩ | refine⟨fun h=>Bool.noConfusion h,fun _=>?_⟩ | fail)
          refine⟨kp_,?_⟩
          refine⟨_,c,(xs.getD ((st.getD i.toNat default).running % (xs.length:Int)).toNat aZ),_,key,rfl,⟨.has (N:=⟨18,17,16,15,14,13,500000⟩) (x:=xk) (HasCfg.keeps kp_),.fam rfl⟩,hM.lens,fun b2 hb2=>?_⟩
          obtain rfl:b2=false:=Bool.eq_false_iff.2 fun q=>absurd (hb1.2 (hb2.1 q)) (by decide)
          repeat (first | refine⟨fun _=>?_,fun h=>Bool.noConfusion h⟩ | refine⟨fun h=>Bool.noConfusion h,fun _=>?_⟩ | fail)
          exact⟨(hmOf c.tenants.length hf,hf,(some (A,kp,kq,elq))),[(98,52),(99,53)],⟨⟨rfl,hH⟩,hva,hkq,hel⟩,⟨rfl,rfl⟩,kp_,kp_⟩
         ·have hvb:=hb1.1 rfl
          repeat (first | refine⟨fun _=>?_,fun h=>Bool.noConfusion h⟩ | refine⟨fun h=>Bool.noConfusion h,fun _=>?_⟩ | fail)
          by_cases hnew:A.number≥(xs.getD ((st.getD i.toNat default).running % (xs.length:Int)).toNat aZ).number
          ·refine⟨fun _=>?_,fun q=>absurd hnew (of_decide_eq_false q)⟩
           repeat (first | refine⟨fun _=>?_,fun h=>Bool.noConfusion h⟩ | refine⟨fun h=>Bool.noConfusion h,fun _=>?_⟩ | fail)
           refine⟨kp_,?_⟩
           refine⟨_,c,(xs.getD ((st.getD i.toNat default).running % (xs.length:Int)).toNat aZ),_,key,rfl,⟨.has (N:=⟨18,17,16,15,14,13,500000⟩) (x:=xk) (HasCfg.keeps kp_),.fam rfl⟩,hM.lens,fun b2 hb2=>?_⟩
           obtain rfl:b2=true:=hb2.2 hvb
           repeat (first | refine⟨fun _=>?_,fun h=>Bool.noConfusion h⟩ | refine⟨fun h=>Bool.noConfusion h,fun _=>?_⟩ | fail)
           refine⟨fun _=>?_,fun q=>absurd hnew (of_decide_eq_false q)⟩
           repeat (first | refine⟨fun _=>?_,fun h=>Bool.noConfusion h⟩ | refine⟨fun h=>Bool.noConfusion h,fun _=>?_⟩ | fail)
           exact⟨(hmOf c.tenants.length hf,hf,(some (A,kp,kq,elq))),[(98,52),(99,53)],⟨⟨rfl,hH⟩,hva,hkq,hel⟩,⟨rfl,rfl⟩,kp_,kp_⟩
          ·refine⟨fun q=>absurd (of_decide_eq_true q) hnew,fun _=>?_⟩
           have hlen:=hvb.len
           refine⟨_,(xs.getD ((st.getD i.toNat default).running % (xs.length:Int)).toNat aZ).routes,rfl,.fam rfl,by rw[hlen];omega,fun kp2=>?_⟩
           refine⟨kp_,?_⟩
           refine⟨27,hmOf c.tenants.length hf,60,_,_,_,_,_,61,(xs.getD ((st.getD i.toNat default).running % (xs.length:Int)).toNat aZ).routes,rfl,rfl,rfl,.list rfl,by rw[hlen];exact fun z p h=>hmOf_key h,?_⟩
           repeat (first | refine⟨fun _=>?_,fun h=>Bool.noConfusion h⟩ | refine⟨fun h=>Bool.noConfusion h,fun _=>?_⟩ | fail)
           refine⟨kp_,?_⟩
           refine⟨_,c,(xs.getD ((st.getD i.toNat default).running % (xs.length:Int)).toNat aZ),_,key,rfl,⟨.has (N:=⟨18,17,16,15,14,13,500000⟩) (x:=xk) (HasCfg.keeps kp_),.fam rfl⟩,hM.lens,fun b2 hb2=>?_⟩
           obtain rfl:b2=true:=hb2.2 hvb
           repeat (first | refine⟨fun _=>?_,fun h=>Bool.noConfusion h⟩ | refine⟨fun h=>Bool.noConfusion h,fun _=>?_⟩ | fail)
           refine⟨fun q=>absurd (of_decide_eq_true q) hnew,fun _=>?_⟩
           refine⟨kp_,?_⟩
           refine⟨⟨Nat.le_refl _,fun k hk=>rfl⟩,?_⟩
           refine⟨⟨rfl,Nat.le_refl _⟩,fun hin el2 g1 g2=>?_,fun hgt=>⟨by show (0+(xs.getD ((st.getD i.toNat default).running % (xs.length:Int)).toNat aZ).routes.length) * 16≤140737488355328;rw[hlen];omega,fun cap2 el2 hcq g1 g2=>?_⟩⟩
           ·rw[Nat.zero_add]
            refine⟨Int×HF,fun q=>match q with | (z,h2)=>[(5,.int .i64 z)],fun q=>match q with | (z,h2)=>[(30,.row (1000000+92) 2 c.tenants.length (fun k=>pairC (h2 k)))],fun q=>match q with | (z,h2)=>(0≤z∧z≤c.tenants.length)∧h2=dlF (xs.getD ((st.getD i.toNat default).running % (xs.length:Int)).toNat aZ).routes hf z.toNat,fun q=>match q with | (z,h2)=>((c.tenants.length:Int)-z).toNat,⟨(0,hf),⟨by omega,(dlF_zero _ _).symm⟩,kp_,kp_⟩,?_⟩
            rintro⟨z,h2⟩ ⟨hz,rfl⟩
            refine⟨⟨rfl,rfl⟩,?_⟩
            refine⟨fun hzl=>?_,fun hzg=>?_⟩
            ·have hzl2:z<(c.tenants.length:Int):=of_decide_eq_true hzl
             refine⟨⟨Nat.le_refl _,hz.1,hzl2⟩,?_⟩
             refine⟨⟨Nat.le_refl _,hz.1,by rw[hlen];exact hzl2⟩,?_⟩
             refine⟨kp_,?_⟩
             refine⟨kp_,?_⟩
             refine⟨kp_,?_⟩
             refine⟨fun hg=>?_,fun hg=>?_⟩
             ·have hg2:(dlF (xs.getD ((st.getD i.toNat default).running % (xs.length:Int)).toNat aZ).routes hf z.toNat z.toNat).2≤((xs.getD ((st.getD i.toNat default).running % (xs.length:Int)).toNat aZ).routes.getD z.toNat (0,0)).2:=of_decide_eq_true hg
              rw[dlF_at] at hg2
              refine⟨⟨Nat.le_refl _,hz.1,hzl2⟩,?_⟩
              refine⟨pairC (0,0),rfl,?_⟩
              rw[setEl_hf]
              refine⟨(IntKind.i64.wrap (z+1),stF (dlF (xs.getD ((st.getD i.toNat default).running % (xs.length:Int)).toNat aZ).routes hf z.toNat) z.toNat (0,0)),?_,kp_,kp_⟩
              rw[wrapi (n:=z+1) (by omega)]
              dsimp only
              exact⟨⟨⟨by omega,by omega⟩,by rw[show (z+1).toNat=z.toNat+1 by omega];exact dlF_yes hg2⟩,by omega⟩
             ·have hg2:¬ (dlF (xs.getD ((st.getD i.toNat default).running % (xs.length:Int)).toNat aZ).routes hf z.toNat z.toNat).2≤((xs.getD ((st.getD i.toNat default).running % (xs.length:Int)).toNat aZ).routes.getD z.toNat (0,0)).2:=of_decide_eq_false hg
              rw[dlF_at] at hg2
              refine⟨(IntKind.i64.wrap (z+1),dlF (xs.getD ((st.getD i.toNat default).running % (xs.length:Int)).toNat aZ).routes hf z.toNat),?_,kp_,kp_⟩
              rw[wrapi (n:=z+1) (by omega)]
              dsimp only
              exact⟨⟨⟨by omega,by omega⟩,by rw[show (z+1).toNat=z.toNat+1 by omega];exact dlF_no hg2⟩,by omega⟩
            ·have hge2:¬ z<(c.tenants.length:Int):=of_decide_eq_false hzg
             obtain rfl:z=(c.tenants.length:Int):=by omega
             repeat (first | refine⟨fun _=>?_,fun h=>Bool.noConfusion h⟩ | refine⟨fun h=>Bool.noConfusion h,fun _=>?_⟩ | fail)
             exact⟨(delH (hmOf c.tenants.length hf) (xs.getD ((st.getD i.toNat default).running % (xs.length:Int)).toNat aZ).routes,dlF (xs.getD ((st.getD i.toNat default).running % (xs.length:Int)).toNat aZ).routes hf c.tenants.length,some ((xs.getD ((st.getD i.toNat default).running % (xs.length:Int)).toNat aZ),kp2,0,el2)),[(98,61),(99,63)],⟨⟨hmOf_del fun k hk=>(hvb.rt hk).2,hH.del _ _⟩,hvb,Nat.le_trans (Nat.le_of_eq (Nat.zero_add _).symm) hin,fun k hk=>by have q:=g2 k hk;rwa[Nat.zero_add] at q⟩,⟨rfl,rfl⟩,(by (try rw[Nat.zero_add]);repeat (first | exact trivial | refine⟨rfl,?_⟩)),(by (try rw[Nat.zero_add]);repeat (first | exact trivial | refine⟨rfl,?_⟩))⟩
           ·rw[Nat.zero_add]
            refine⟨Int×HF,fun q=>match q with | (z,h2)=>[(5,.int .i64 z)],fun q=>match q with | (z,h2)=>[(30,.row (1000000+92) 2 c.tenants.length (fun k=>pairC (h2 k)))],fun q=>match q with | (z,h2)=>(0≤z∧z≤c.tenants.length)∧h2=dlF (xs.getD ((st.getD i.toNat default).running % (xs.length:Int)).toNat aZ).routes hf z.toNat,fun q=>match q with | (z,h2)=>((c.tenants.length:Int)-z).toNat,⟨(0,hf),⟨by omega,(dlF_zero _ _).symm⟩,kp_,kp_⟩,?_⟩
            rintro⟨z,h2⟩ ⟨hz,rfl⟩
            refine⟨⟨rfl,rfl⟩,?_⟩
            refine⟨fun hzl=>?_,fun hzg=>?_⟩
            ·have hzl2:z<(c.tenants.length:Int):=of_decide_eq_true hzl
             refine⟨⟨Nat.le_refl _,hz.1,hzl2⟩,?_⟩
             refine⟨⟨Nat.le_refl _,hz.1,by rw[hlen];exact hzl2⟩,?_⟩
             refine⟨kp_,?_⟩
             refine⟨kp_,?_⟩
             refine⟨kp_,?_⟩
             refine⟨fun hg=>?_,fun hg=>?_⟩
             ·have hg2:(dlF (xs.getD ((st.getD i.toNat default).running % (xs.length:Int)).toNat aZ).routes hf z.toNat z.toNat).2≤((xs.getD ((st.getD i.toNat default).running % (xs.length:Int)).toNat aZ).routes.getD z.toNat (0,0)).2:=of_decide_eq_true hg
              rw[dlF_at] at hg2
              refine⟨⟨Nat.le_refl _,hz.1,hzl2⟩,?_⟩
              refine⟨pairC (0,0),rfl,?_⟩
              rw[setEl_hf]
              refine⟨(IntKind.i64.wrap (z+1),stF (dlF (xs.getD ((st.getD i.toNat default).running % (xs.length:Int)).toNat aZ).routes hf z.toNat) z.toNat (0,0)),?_,kp_,kp_⟩
              rw[wrapi (n:=z+1) (by omega)]
              dsimp only
              exact⟨⟨⟨by omega,by omega⟩,by rw[show (z+1).toNat=z.toNat+1 by omega];exact dlF_yes hg2⟩,by omega⟩
             ·have hg2:¬ (dlF (xs.getD ((st.getD i.toNat default).running % (xs.length:Int)).toNat aZ).routes hf z.toNat z.toNat).2≤((xs.getD ((st.getD i.toNat default).running % (xs.length:Int)).toNat aZ).routes.getD z.toNat (0,0)).2:=of_decide_eq_false hg
              rw[dlF_at] at hg2
              refine⟨(IntKind.i64.wrap (z+1),dlF (xs.getD ((st.getD i.toNat default).running % (xs.length:Int)).toNat aZ).routes hf z.toNat),?_,kp_,kp_⟩
              rw[wrapi (n:=z+1) (by omega)]
              dsimp only
              exact⟨⟨⟨by omega,by omega⟩,by rw[show (z+1).toNat=z.toNat+1 by omega];exact dlF_no hg2⟩,by omega⟩
            ·have hge2:¬ z<(c.tenants.length:Int):=of_decide_eq_false hzg
             obtain rfl:z=(c.tenants.length:Int):=by omega
             repeat (first | refine⟨fun _=>?_,fun h=>Bool.noConfusion h⟩ | refine⟨fun h=>Bool.noConfusion h,fun _=>?_⟩ | fail)
             exact⟨(delH (hmOf c.tenants.length hf) (xs.getD ((st.getD i.toNat default).running % (xs.length:Int)).toNat aZ).routes,dlF (xs.getD ((st.getD i.toNat default).running % (xs.length:Int)).toNat aZ).routes hf c.tenants.length,some ((xs.getD ((st.getD i.toNat default).running % (xs.length:Int)).toNat aZ),kp2,cap2,el2)),[(98,61),(99,64)],⟨⟨hmOf_del fun k hk=>(hvb.rt hk).2,hH.del _ _⟩,hvb,Nat.le_trans (Nat.le_of_eq (Nat.zero_add _).symm) hcq,fun k hk=>by have q:=g2 k hk;rwa[Nat.zero_add] at q⟩,⟨rfl,rfl⟩,(by (try rw[Nat.zero_add]);repeat (first | exact trivial | refine⟨rfl,?_⟩)),(by (try rw[Nat.zero_add]);repeat (first | exact trivial | refine⟨rfl,?_⟩))⟩
        ·refine⟨fun _=>?_,fun _=>?_⟩
         ·refine⟨_,_,_,rfl,⟨by decide,by decide⟩,fun nb hnb=>?_⟩
          refine⟨fun _=>?_,fun _=>?_⟩
          ·refine⟨{ (xs.getD ((st.getD i.toNat default).running % (xs.length:Int)).toNat aZ) with number:=nb },_,key,rfl,.fam rfl,hP.numIn hV hM.valid hjn hnb,?_⟩
           refine⟨_,c,(signA { (xs.getD ((st.getD i.toNat default).running % (xs.length:Int)).toNat aZ) with number:=nb } key),_,key,rfl,⟨⟨_,_,_,_,_,_,rfl,⟨.inr (.inl ⟨21,_,rfl,.list rfl⟩),.inr (.inl ⟨22,_,rfl,.list rfl⟩),.inr (.inl ⟨23,_,rfl,.list rfl⟩)⟩,.inr (.inl ⟨24,_,rfl,.list rfl⟩),.inr (.inl ⟨25,_,rfl,.list rfl⟩),.inr (.inl ⟨26,_,rfl,.list rfl⟩)⟩,.fam rfl⟩,hM.lens,fun b1 hb1=>?_⟩
           cases b1
           ·repeat (first | refine⟨fun _=>?_,fun h=>Bool.noConfusion h⟩ | refine⟨fun h=>Bool.noConfusion h,fun _=>?_⟩ | fail)
            refine⟨kp_,?_⟩
            refine⟨_,c,(signA { (xs.getD ((st.getD i.toNat default).running % (xs.length:Int)).toNat aZ) with number:=nb } key),_,key,rfl,⟨.has (N:=⟨18,17,16,15,14,13,500000⟩) (x:=xk) (HasCfg.keeps kp_),.fam rfl⟩,hM.lens,fun b2 hb2=>?_⟩
            obtain rfl:b2=false:=Bool.eq_false_iff.2 fun q=>absurd (hb1.2 (hb2.1 q)) (by decide)
            repeat (first | refine⟨fun _=>?_,fun h=>Bool.noConfusion h⟩ | refine⟨fun h=>Bool.noConfusion h,fun _=>?_⟩ | fail)
            exact⟨(hmOf c.tenants.length hf,hf,(some (A,kp,kq,elq))),[(98,52),(99,53)],⟨⟨rfl,hH⟩,hva,hkq,hel⟩,⟨rfl,rfl⟩,kp_,kp_⟩
           ·have hvb:=hb1.1 rfl
            repeat (first | refine⟨fun _=>?_,fun h=>Bool.noConfusion h⟩ | refine⟨fun h=>Bool.noConfusion h,fun _=>?_⟩ | fail)
            by_cases hnew:A.number≥(signA { (xs.getD ((st.getD i.toNat default).running % (xs.length:Int)).toNat aZ) with number:=nb } key).number
            ·refine⟨fun _=>?_,fun q=>absurd hnew (of_decide_eq_false q)⟩
             repeat (first | refine⟨fun _=>?_,fun h=>Bool.noConfusion h⟩ | refine⟨fun h=>Bool.noConfusion h,fun _=>?_⟩ | fail)
             refine⟨kp_,?_⟩
             refine⟨_,c,(signA { (xs.getD ((st.getD i.toNat default).running % (xs.length:Int)).toNat aZ) with number:=nb } key),_,key,rfl,⟨.has (N:=⟨18,17,16,15,14,13,500000⟩) (x:=xk) (HasCfg.keeps kp_),.fam rfl⟩,hM.lens,fun b2 hb2=>?_⟩
             obtain rfl:b2=true:=hb2.2 hvb
             repeat (first | refine⟨fun _=>?_,fun h=>Bool.noConfusion h⟩ | refine⟨fun h=>Bool.noConfusion h,fun _=>?_⟩ | fail)
             refine⟨fun _=>?_,fun q=>absurd hnew (of_decide_eq_false q)⟩
             repeat (first | refine⟨fun _=>?_,fun h=>Bool.noConfusion h⟩ | refine⟨fun h=>Bool.noConfusion h,fun _=>?_⟩ | fail)
             exact⟨(hmOf c.tenants.length hf,hf,(some (A,kp,kq,elq))),[(98,52),(99,53)],⟨⟨rfl,hH⟩,hva,hkq,hel⟩,⟨rfl,rfl⟩,kp_,kp_⟩
            ·refine⟨fun q=>absurd (of_decide_eq_true q) hnew,fun _=>?_⟩
             have hlen:=hvb.len
             refine⟨_,(signA { (xs.getD ((st.getD i.toNat default).running % (xs.length:Int)).toNat aZ) with number:=nb } key).routes,rfl,.fam rfl,by rw[hlen];omega,fun kp2=>?_⟩
             refine⟨kp_,?_⟩
             refine⟨27,hmOf c.tenants.length hf,60,_,_,_,_,_,61,(signA { (xs.getD ((st.getD i.toNat default).running % (xs.length:Int)).toNat aZ) with number:=nb } key).routes,rfl,rfl,rfl,.list rfl,by rw[hlen];exact fun z p h=>hmOf_key h,?_⟩
             repeat (first | refine⟨fun _=>?_,fun h=>Bool.noConfusion h⟩ | refine⟨fun h=>Bool.noConfusion h,fun _=>?_⟩ | fail)
             refine⟨kp_,?_⟩
             refine⟨_,c,(signA { (xs.getD ((st.getD i.toNat default).running % (xs.length:Int)).toNat aZ) with number:=nb } key),_,key,rfl,⟨.has (N:=⟨18,17,16,15,14,13,500000⟩) (x:=xk) (HasCfg.keeps kp_),.fam rfl⟩,hM.lens,fun b2 hb2=>?_⟩
             obtain rfl:b2=true:=hb2.2 hvb
             repeat (first | refine⟨fun _=>?_,fun h=>Bool.noConfusion h⟩ | refine⟨fun h=>Bool.noConfusion h,fun _=>?_⟩ | fail)
             refine⟨fun q=>absurd (of_decide_eq_true q) hnew,fun _=>?_⟩
             refine⟨kp_,?_⟩
             refine⟨⟨Nat.le_refl _,fun k hk=>rfl⟩,?_⟩
             refine⟨⟨rfl,Nat.le_refl _⟩,fun hin el2 g1 g2=>?_,fun hgt=>⟨by show (0+(signA { (xs.getD ((st.getD i.toNat default).running % (xs.length:Int)).toNat aZ) with number:=nb } key).routes.length) * 16≤140737488355328;rw[hlen];omega,fun cap2 el2 hcq g1 g2=>?_⟩⟩
             ·rw[Nat.zero_add]
              refine⟨Int×HF,fun q=>match q with | (z,h2)=>[(5,.int .i64 z)],fun q=>match q with | (z,h2)=>[(30,.row (1000000+92) 2 c.tenants.length (fun k=>pairC (h2 k)))],fun q=>match q with | (z,h2)=>(0≤z∧z≤c.tenants.length)∧h2=dlF (signA { (xs.getD ((st.getD i.toNat default).running % (xs.length:Int)).toNat aZ) with number:=nb } key).routes hf z.toNat,fun q=>match q with | (z,h2)=>((c.tenants.length:Int)-z).toNat,⟨(0,hf),⟨by omega,(dlF_zero _ _).symm⟩,kp_,kp_⟩,?_⟩
              rintro⟨z,h2⟩ ⟨hz,rfl⟩
              refine⟨⟨rfl,rfl⟩,?_⟩
              refine⟨fun hzl=>?_,fun hzg=>?_⟩
              ·have hzl2:z<(c.tenants.length:Int):=of_decide_eq_true hzl
               refine⟨⟨Nat.le_refl _,hz.1,hzl2⟩,?_⟩
               refine⟨⟨Nat.le_refl _,hz.1,by rw[hlen];exact hzl2⟩,?_⟩
               refine⟨kp_,?_⟩
               refine⟨kp_,?_⟩
               refine⟨kp_,?_⟩
               refine⟨fun hg=>?_,fun hg=>?_⟩
               ·have hg2:(dlF (signA { (xs.getD ((st.getD i.toNat default).running % (xs.length:Int)).toNat aZ) with number:=nb } key).routes hf z.toNat z.toNat).2≤((signA { (xs.getD ((st.getD i.toNat default).running % (xs.length:Int)).toNat aZ) with number:=nb } key).routes.getD z.toNat (0,0)).2:=of_decide_eq_true hg
                rw[dlF_at] at hg2
                refine⟨⟨Nat.le_refl _,hz.1,hzl2⟩,?_⟩
                refine⟨pairC (0,0),rfl,?_⟩
                rw[setEl_hf]
                refine⟨(IntKind.i64.wrap (z+1),stF (dlF (signA { (xs.getD ((st.getD i.toNat default).running % (xs.length:Int)).toNat aZ) with number:=nb } key).routes hf z.toNat) z.toNat (0,0)),?_,kp_,kp_⟩
                rw[wrapi (n:=z+1) (by omega)]
                dsimp only
                exact⟨⟨⟨by omega,by omega⟩,by rw[show (z+1).toNat=z.toNat+1 by omega];exact dlF_yes hg2⟩,by omega⟩
               ·have hg2:¬ (dlF (signA { (xs.getD ((st.getD i.toNat default).running % (xs.length:Int)).toNat aZ) with number:=nb } key).routes hf z.toNat z.toNat).2≤((signA { (xs.getD ((st.getD i.toNat default).running % (xs.length:Int)).toNat aZ) with number:=nb } key).routes.getD z.toNat (0,0)).2:=of_decide_eq_false hg
                rw[dlF_at] at hg2
                refine⟨(IntKind.i64.wrap (z+1),dlF (signA { (xs.getD ((st.getD i.toNat default).running % (xs.length:Int)).toNat aZ) with number:=nb } key).routes hf z.toNat),?_,kp_,kp_⟩
                rw[wrapi (n:=z+1) (by omega)]
                dsimp only
                exact⟨⟨⟨by omega,by omega⟩,by rw[show (z+1).toNat=z.toNat+1 by omega];exact dlF_no hg2⟩,by omega⟩
              ·have hge2:¬ z<(c.tenants.length:Int):=of_decide_eq_false hzg
               obtain rfl:z=(c.tenants.length:Int):=by omega
               repeat (first | refine⟨fun _=>?_,fun h=>Bool.noConfusion h⟩ | refine⟨fun h=>Bool.noConfusion h,fun _=>?_⟩ | fail)
               exact⟨(delH (hmOf c.tenants.length hf) (signA { (xs.getD ((st.getD i.toNat default).running % (xs.length:Int)).toNat aZ) with number:=nb } key).routes,dlF (signA { (xs.getD ((st.getD i.toNat default).running % (xs.length:Int)).toNat aZ) with number:=nb } key).routes hf c.tenants.length,some ((signA { (xs.getD ((st.getD i.toNat default).running % (xs.length:Int)).toNat aZ) with number:=nb } key),kp2,0,el2)),[(98,61),(99,63)],⟨⟨hmOf_del fun k hk=>(hvb.rt hk).2,hH.del _ _⟩,hvb,Nat.le_trans (Nat.le_of_eq (Nat.zero_add _).symm) hin,fun k hk=>by have q:=g2 k hk;rwa[Nat.zero_add] at q⟩,⟨rfl,rfl⟩,(by (try rw[Nat.zero_add]);repeat (first | exact trivial | refine⟨rfl,?_⟩)),(by (try rw[Nat.zero_add]);repeat (first | exact trivial | refine⟨rfl,?_⟩))⟩
             ·rw[Nat.zero_add]
              refine⟨Int×HF,fun q=>match q with | (z,h2)=>[(5,.int .i64 z)],fun q=>match q with | (z,h2)=>[(30,.row (1000000+92) 2 c.tenants.length (fun k=>pairC (h2 k)))],fun q=>match q with | (z,h2)=>(0≤z∧z≤c.tenants.length)∧h2=dlF (signA { (xs.getD ((st.getD i.toNat default).running % (xs.length:Int)).toNat aZ) with number:=nb } key).routes hf z.toNat,fun q=>match q with | (z,h2)=>((c.tenants.length:Int)-z).toNat,⟨(0,hf),⟨by omega,(dlF_zero _ _).symm⟩,kp_,kp_⟩,?_⟩
              rintro⟨z,h2⟩ ⟨hz,rfl⟩
              refine⟨⟨rfl,rfl⟩,?_⟩
              refine⟨fun hzl=>?_,fun hzg=>?_⟩
              ·have hzl2:z<(c.tenants.length:Int):=of_decide_eq_true hzl
               refine⟨⟨Nat.le_refl _,hz.1,hzl2⟩,?_⟩
               refine⟨⟨Nat.le_refl _,hz.1,by rw[hlen];exact hzl2⟩,?_⟩
               refine⟨kp_,?_⟩
               refine⟨kp_,?_⟩
               refine⟨kp_,?_⟩
               refine⟨fun hg=>?_,fun hg=>?_⟩
               ·have hg2:(dlF (signA { (xs.getD ((st.getD i.toNat default).running % (xs.length:Int)).toNat aZ) with number:=nb } key).routes hf z.toNat z.toNat).2≤((signA { (xs.getD ((st.getD i.toNat default).running % (xs.length:Int)).toNat aZ) with number:=nb } key).routes.getD z.toNat (0,0)).2:=of_decide_eq_true hg
                rw[dlF_at] at hg2
                refine⟨⟨Nat.le_refl _,hz.1,hzl2⟩,?_⟩
                refine⟨pairC (0,0),rfl,?_⟩
                rw[setEl_hf]
                refine⟨(IntKind.i64.wrap (z+1),stF (dlF (signA { (xs.getD ((st.getD i.toNat default).running % (xs.length:Int)).toNat aZ) with number:=nb } key).routes hf z.toNat) z.toNat (0,0)),?_,kp_,kp_⟩
                rw[wrapi (n:=z+1) (by omega)]
                dsimp only
                exact⟨⟨⟨by omega,by omega⟩,by rw[show (z+1).toNat=z.toNat+1 by omega];exact dlF_yes hg2⟩,by omega⟩
               ·have hg2:¬ (dlF (signA { (xs.getD ((st.getD i.toNat default).running % (xs.length:Int)).toNat aZ) with number:=nb } key).routes hf z.toNat z.toNat).2≤((signA { (xs.getD ((st.getD i.toNat default).running % (xs.length:Int)).toNat aZ) with number:=nb } key).routes.getD z.toNat (0,0)).2:=of_decide_eq_false hg
                rw[dlF_at] at hg2
                refine⟨(IntKind.i64.wrap (z+1),dlF (signA { (xs.getD ((st.getD i.toNat default).running % (xs.length:Int)).toNat aZ) with number:=nb } key).routes hf z.toNat),?_,kp_,kp_⟩
                rw[wrapi (n:=z+1) (by omega)]
                dsimp only
                exact⟨⟨⟨by omega,by omega⟩,by rw[show (z+1).toNat=z.toNat+1 by omega];exact dlF_no hg2⟩,by omega⟩
              ·have hge2:¬ z<(c.tenants.length:Int):=of_decide_eq_false hzg
               obtain rfl:z=(c.tenants.length:Int):=by omega
               repeat (first | refine⟨fun _=>?_,fun h=>Bool.noConfusion h⟩ | refine⟨fun h=>Bool.noConfusion h,fun _=>?_⟩ | fail)
               exact⟨(delH (hmOf c.tenants.length hf) (signA { (xs.getD ((st.getD i.toNat default).running % (xs.length:Int)).toNat aZ) with number:=nb } key).routes,dlF (signA { (xs.getD ((st.getD i.toNat default).running % (xs.length:Int)).toNat aZ) with number:=nb } key).routes hf c.tenants.length,some ((signA { (xs.getD ((st.getD i.toNat default).running % (xs.length:Int)).toNat aZ) with number:=nb } key),kp2,cap2,el2)),[(98,61),(99,64)],⟨⟨hmOf_del fun k hk=>(hvb.rt hk).2,hH.del _ _⟩,hvb,Nat.le_trans (Nat.le_of_eq (Nat.zero_add _).symm) hcq,fun k hk=>by have q:=g2 k hk;rwa[Nat.zero_add] at q⟩,⟨rfl,rfl⟩,(by (try rw[Nat.zero_add]);repeat (first | exact trivial | refine⟨rfl,?_⟩)),(by (try rw[Nat.zero_add]);repeat (first | exact trivial | refine⟨rfl,?_⟩))⟩
          ·refine⟨_,c,{ (xs.getD ((st.getD i.toNat default).running % (xs.length:Int)).toNat aZ) with number:=nb },_,key,rfl,⟨⟨_,_,_,_,_,_,rfl,⟨.inr (.inl ⟨21,_,rfl,.list rfl⟩),.inr (.inl ⟨22,_,rfl,.list rfl⟩),.inr (.inl ⟨23,_,rfl,.list rfl⟩)⟩,.inr (.inl ⟨24,_,rfl,.list rfl⟩),.inr (.inl ⟨25,_,rfl,.list rfl⟩),.inr (.inl ⟨26,_,rfl,.list rfl⟩)⟩,.fam rfl⟩,hM.lens,fun b1 hb1=>?_⟩
           cases b1
           ·repeat (first | refine⟨fun _=>?_,fun h=>Bool.noConfusion h⟩ | refine⟨fun h=>Bool.noConfusion h,fun _=>?_⟩ | fail)
            refine⟨kp_,?_⟩
            refine⟨_,c,{ (xs.getD ((st.getD i.toNat default).running % (xs.length:Int)).toNat aZ) with number:=nb },_,key,rfl,⟨.has (N:=⟨18,17,16,15,14,13,500000⟩) (x:=xk) (HasCfg.keeps kp_),.fam rfl⟩,hM.lens,fun b2 hb2=>?_⟩
            obtain rfl:b2=false:=Bool.eq_false_iff.2 fun q=>absurd (hb1.2 (hb2.1 q)) (by decide)
            repeat (first | refine⟨fun _=>?_,fun h=>Bool.noConfusion h⟩ | refine⟨fun h=>Bool.noConfusion h,fun _=>?_⟩ | fail)
            exact⟨(hmOf c.tenants.length hf,hf,(some (A,kp,kq,elq))),[(98,52),(99,53)],⟨⟨rfl,hH⟩,hva,hkq,hel⟩,⟨rfl,rfl⟩,kp_,kp_⟩
           ·have hvb:=hb1.1 rfl
            repeat (first | refine⟨fun _=>?_,fun h=>Bool.noConfusion h⟩ | refine⟨fun h=>Bool.noConfusion h,fun _=>?_⟩ | fail)
            by_cases hnew:A.number≥{ (xs.getD ((st.getD i.toNat default).running % (xs.length:Int)).toNat aZ) with number:=nb }.number
            ·refine⟨fun _=>?_,fun q=>absurd hnew (of_decide_eq_false q)⟩
             repeat (first | refine⟨fun _=>?_,fun h=>Bool.noConfusion h⟩ | refine⟨fun h=>Bool.noConfusion h,fun _=>?_⟩ | fail)
             refine⟨kp_,?_⟩
             refine⟨_,c,{ (xs.getD ((st.getD i.toNat default).running % (xs.length:Int)).toNat aZ) with number:=nb },_,key,rfl,⟨.has (N:=⟨18,17,16,15,14,13,500000⟩) (x:=xk) (HasCfg.keeps kp_),.fam rfl⟩,hM.lens,fun b2 hb2=>?_⟩
             obtain rfl:b2=true:=hb2.2 hvb
             repeat (first | refine⟨fun _=>?_,fun h=>Bool.noConfusion h⟩ | refine⟨fun h=>Bool.noConfusion h,fun _=>?_⟩ | fail)
             refine⟨fun _=>?_,fun q=>absurd hnew (of_decide_eq_false q)⟩
             repeat (first | refine⟨fun _=>?_,fun h=>Bool.noConfusion h⟩ | refine⟨fun h=>Bool.noConfusion h,fun _=>?_⟩ | fail)
             exact⟨(hmOf c.tenants.length hf,hf,(some (A,kp,kq,elq))),[(98,52),(99,53)],⟨⟨rfl,hH⟩,hva,hkq,hel⟩,⟨rfl,rfl⟩,kp_,kp_⟩
            ·refine⟨fun q=>absurd (of_decide_eq_true q) hnew,fun _=>?_⟩
             have hlen:=hvb.len
             refine⟨_,{ (xs.getD ((st.getD i.toNat default).running % (xs.length:Int)).toNat aZ) with number:=nb }.routes,rfl,.fam rfl,by rw[hlen];omega,fun kp2=>?_⟩
             refine⟨kp_,?_⟩
             refine⟨27,hmOf c.tenants.length hf,60,_,_,_,_,_,61,{ (xs.getD ((st.getD i.toNat default).running % (xs.length:Int)).toNat aZ) with number:=nb }.routes,rfl,rfl,rfl,.list rfl,by rw[hlen];exact fun z p h=>hmOf_key h,?_⟩
             repeat (first | refine⟨fun _=>?_,fun h=>Bool.noConfusion h⟩ | refine⟨fun h=>Bool.noConfusion h,fun _=>?_⟩ | fail)
             refine⟨kp_,?_⟩
             refine⟨_,c,{ (xs.getD ((st.getD i.toNat default).running % (xs.length:Int)).toNat aZ) with number:=nb },_,key,rfl,⟨.has (N:=⟨18,17,16,15,14,13,500000⟩) (x:=xk) (HasCfg.keeps kp_),.fam rfl⟩,hM.lens,fun b2 hb2=>?_⟩
             obtain rfl:b2=true:=hb2.2 hvb
             repeat (first | refine⟨fun _=>?_,fun h=>Bool.noConfusion h⟩ | refine⟨fun h=>Bool.noConfusion h,fun _=>?_⟩ | fail)
             refine⟨fun q=>absurd (of_decide_eq_true q) hnew,fun _=>?_⟩
             refine⟨kp_,?_⟩
             refine⟨⟨Nat.le_refl _,fun k hk=>rfl⟩,?_⟩
             refine⟨⟨rfl,Nat.le_refl _⟩,fun hin el2 g1 g2=>?_,fun hgt=>⟨by show (0+{ (xs.getD ((st.getD i.toNat default).running % (xs.length:Int)).toNat aZ) with number:=nb }.routes.length) * 16≤140737488355328;rw[hlen];omega,fun cap2 el2 hcq g1 g2=>?_⟩⟩
             ·rw[Nat.zero_add]
              refine⟨Int×HF,fun q=>match q with | (z,h2)=>[(5,.int .i64 z)],fun q=>match q with | (z,h2)=>[(30,.row (1000000+92) 2 c.tenants.length (fun k=>pairC (h2 k)))],fun q=>match q with | (z,h2)=>(0≤z∧z≤c.tenants.length)∧h2=dlF { (xs.getD ((st.getD i.toNat default).running % (xs.length:Int)).toNat aZ) with number:=nb }.routes hf z.toNat,fun q=>match q with | (z,h2)=>((c.tenants.length:Int)-z).toNat,⟨(0,hf),⟨by omega,(dlF_zero _ _).symm⟩,kp_,kp_⟩,?_⟩
              rintro⟨z,h2⟩ ⟨hz,rfl⟩
              refine⟨⟨rfl,rfl⟩,?_⟩
              refine⟨fun hzl=>?_,fun hzg=>?_⟩
              ·have hzl2:z<(c.tenants.length:Int):=of_decide_eq_true hzl
               refine⟨⟨Nat.le_refl _,hz.1,hzl2⟩,?_⟩
               refine⟨⟨Nat.le_refl _,hz.1,by rw[hlen];exact hzl2⟩,?_⟩
               refine⟨kp_,?_⟩
               refine⟨kp_,?_⟩
               refine⟨kp_,?_⟩
               refine⟨fun hg=>?_,fun hg=>?_⟩
               ·have hg2:(dlF { (xs.getD ((st.getD i.toNat default).running % (xs.length:Int)).toNat aZ) with number:=nb }.routes hf z.toNat z.toNat).2≤({ (xs.getD ((st.getD i.toNat default).running % (xs.length:Int)).toNat aZ) with number:=nb }.routes.getD z.toNat (0,0)).2:=of_decide_eq_true hg
                rw[dlF_at] at hg2
                refine⟨⟨Nat.le_refl _,hz.1,hzl2⟩,?_⟩
                refine⟨pairC (0,0),rfl,?_⟩
                rw[setEl_hf]
                refine⟨(IntKind.i64.wrap (z+1),stF (dlF { (xs.getD ((st.getD i.toNat default).running % (xs.length:Int)).toNat aZ) with number:=nb }.routes hf z.toNat) z.toNat (0,0)),?_,kp_,kp_⟩
                rw[wrapi (n:=z+1) (by omega)]
                dsimp only
                exact⟨⟨⟨by omega,by omega⟩,by rw[show (z+1).toNat=z.toNat+1 by omega];exact dlF_yes hg2⟩,by omega⟩
               ·have hg2:¬ (dlF { (xs.getD ((st.getD i.toNat default).running % (xs.length:Int)).toNat aZ) with number:=nb }.routes hf z.toNat z.toNat).2≤({ (xs.getD ((st.getD i.toNat default).running % (xs.length:Int)).toNat aZ) with number:=nb }.routes.getD z.toNat (0,0)).2:=of_decide_eq_false hg
                rw[dlF_at] at hg2
                refine⟨(IntKind.i64.wrap (z+1),dlF { (xs.getD ((st.getD i.toNat default).running % (xs.length:Int)).toNat aZ) with number:=nb }.routes hf z.toNat),?_,kp_,kp_⟩
                rw[wrapi (n:=z+1) (by omega)]
                dsimp only
                exact⟨⟨⟨by omega,by omega⟩,by rw[show (z+1).toNat=z.toNat+1 by omega];exact dlF_no hg2⟩,by omega⟩
              ·have hge2:¬ z<(c.tenants.length:Int):=of_decide_eq_false hzg
               obtain rfl:z=(c.tenants.length:Int):=by omega
               repeat (first | refine⟨fun _=>?_,fun h=>Bool.noConfusion h⟩ | refine⟨fun h=>Bool.noConfusion h,fun _=>?_⟩ | fail)
               exact⟨(delH (hmOf c.tenants.length hf) { (xs.getD ((st.getD i.toNat default).running % (xs.length:Int)).toNat aZ) with number:=nb }.routes,dlF { (xs.getD ((st.getD i.toNat default).running % (xs.length:Int)).toNat aZ) with number:=nb }.routes hf c.tenants.length,some ({ (xs.getD ((st.getD i.toNat default).running % (xs.length:Int)).toNat aZ) with number:=nb },kp2,0,el2)),[(98,61),(99,63)],⟨⟨hmOf_del fun k hk=>(hvb.rt hk).2,hH.del _ _⟩,hvb,Nat.le_trans (Nat.le_of_eq (Nat.zero_add _).symm) hin,fun k hk=>by have q:=g2 k hk;rwa[Nat.zero_add] at q⟩,⟨rfl,rfl⟩,(by (try rw[Nat.zero_add]);repeat (first | exact trivial | refine⟨rfl,?_⟩)),(by (try rw[Nat.zero_add]);repeat (first | exact trivial | refine⟨rfl,?_⟩))⟩
             ·rw[Nat.zero_add]
              refine⟨Int×HF,fun q=>match q with | (z,h2)=>[(5,.int .i64 z)],fun q=>match q with | (z,h2)=>[(30,.row (1000000+92) 2 c.tenants.length (fun k=>pairC (h2 k)))],fun q=>match q with | (z,h2)=>(0≤z∧z≤c.tenants.length)∧h2=dlF { (xs.getD ((st.getD i.toNat default).running % (xs.length:Int)).toNat aZ) with number:=nb }.routes hf z.toNat,fun q=>match q with | (z,h2)=>((c.tenants.length:Int)-z).toNat,⟨(0,hf),⟨by omega,(dlF_zero _ _).symm⟩,kp_,kp_⟩,?_⟩
              rintro⟨z,h2⟩ ⟨hz,rfl⟩
              refine⟨⟨rfl,rfl⟩,?_⟩
              refine⟨fun hzl=>?_,fun hzg=>?_⟩
              ·have hzl2:z<(c.tenants.length:Int):=of_decide_eq_true hzl
               refine⟨⟨Nat.le_refl _,hz.1,hzl2⟩,?_⟩
               refine⟨⟨Nat.le_refl _,hz.1,by rw[hlen];exact hzl2⟩,?_⟩
               refine⟨kp_,?_⟩
               refine⟨kp_,?_⟩
               refine⟨kp_,?_⟩
               refine⟨fun hg=>?_,fun hg=>?_⟩
               ·have hg2:(dlF { (xs.getD ((st.getD i.toNat default).running % (xs.length:Int)).toNat aZ) with number:=nb }.routes hf z.toNat z.toNat).2≤({ (xs.getD ((st.getD i.toNat default).running % (xs.length:Int)).toNat aZ) with number:=nb }.routes.getD z.toNat (0,0)).2:=of_decide_eq_true hg
                rw[dlF_at] at hg2
                refine⟨⟨Nat.le_refl _,hz.1,hzl2⟩,?_⟩
                refine⟨pairC (0,0),rfl,?_⟩
                rw[setEl_hf]
                refine⟨(IntKind.i64.wrap (z+1),stF (dlF { (xs.getD ((st.getD i.toNat default).running % (xs.length:Int)).toNat aZ) with number:=nb }.routes hf z.toNat) z.toNat (0,0)),?_,kp_,kp_⟩
                rw[wrapi (n:=z+1) (by omega)]
                dsimp only
                exact⟨⟨⟨by omega,by omega⟩,by rw[show (z+1).toNat=z.toNat+1 by omega];exact dlF_yes hg2⟩,by omega⟩
               ·have hg2:¬ (dlF { (xs.getD ((st.getD i.toNat default).running % (xs.length:Int)).toNat aZ) with number:=nb }.routes hf z.toNat z.toNat).2≤({ (xs.getD ((st.getD i.toNat default).running % (xs.length:Int)).toNat aZ) with number:=nb }.routes.getD z.toNat (0,0)).2:=of_decide_eq_false hg
                rw[dlF_at] at hg2
                refine⟨(IntKind.i64.wrap (z+1),dlF { (xs.getD ((st.getD i.toNat default).running % (xs.length:Int)).toNat aZ) with number:=nb }.routes hf z.toNat),?_,kp_,kp_⟩
                rw[wrapi (n:=z+1) (by omega)]
                dsimp only
                exact⟨⟨⟨by omega,by omega⟩,by rw[show (z+1).toNat=z.toNat+1 by omega];exact dlF_no hg2⟩,by omega⟩
              ·have hge2:¬ z<(c.tenants.length:Int):=of_decide_eq_false hzg
               obtain rfl:z=(c.tenants.length:Int):=by omega
               repeat (first | refine⟨fun _=>?_,fun h=>Bool.noConfusion h⟩ | refine⟨fun h=>Bool.noConfusion h,fun _=>?_⟩ | fail)
               exact⟨(delH (hmOf c.tenants.length hf) { (xs.getD ((st.getD i.toNat default).running % (xs.length:Int)).toNat aZ) with number:=nb }.routes,dlF { (xs.getD ((st.getD i.toNat default).running % (xs.length:Int)).toNat aZ) with number:=nb }.routes hf c.tenants.length,some ({ (xs.getD ((st.getD i.toNat default).running % (xs.length:Int)).toNat aZ) with number:=nb },kp2,cap2,el2)),[(98,61),(99,64)],⟨⟨hmOf_del fun k hk=>(hvb.rt hk).2,hH.del _ _⟩,hvb,Nat.le_trans (Nat.le_of_eq (Nat.zero_add _).symm) hcq,fun k hk=>by have q:=g2 k hk;rwa[Nat.zero_add] at q⟩,⟨rfl,rfl⟩,(by (try rw[Nat.zero_add]);repeat (first | exact trivial | refine⟨rfl,?_⟩)),(by (try rw[Nat.zero_add]);repeat (first | exact trivial | refine⟨rfl,?_⟩))⟩
         ·refine⟨fun _=>?_,fun _=>?_⟩
          ·by_cases h1:(st.getD i.toNat default).running<0
           ·repeat (first | refine⟨fun _=>?_,fun h=>Bool.noConfusion h⟩ | refine⟨fun h=>Bool.noConfusion h,fun _=>?_⟩ | refine⟨⟨by first | exact Nat.le_refl _ | omega | fail,by first | omega | (dsimp only;omega) | fail,by first | omega | (dsimp only;omega) | fail⟩,?_⟩ | refine⟨fun q=>absurd q (by first | (simp[eqCs,eqC1];done) | fail),fun _=>?_⟩ | refine⟨fun _=>?_,fun q=>absurd q (by first | omega | (simp[-List.getD_eq_getElem?_getD];done) | (simp[-List.getD_eq_getElem?_getD];omega) | fail)⟩ | refine⟨fun q=>absurd q (by first | omega | (simp[-List.getD_eq_getElem?_getD];done) | (simp[-List.getD_eq_getElem?_getD];omega) | fail),fun _=>?_⟩ | fail)
            refine⟨kp_,?_⟩
            repeat (first | refine⟨fun _=>?_,fun h=>Bool.noConfusion h⟩ | refine⟨fun h=>Bool.noConfusion h,fun _=>?_⟩ | refine⟨⟨by first | exact Nat.le_refl _ | omega | fail,by first | omega | (dsimp only;omega) | fail,by first | omega | (dsimp only;omega) | fail⟩,?_⟩ | refine⟨fun q=>absurd q (by first | (simp[eqCs,eqC1];done) | fail),fun _=>?_⟩ | refine⟨fun _=>?_,fun q=>absurd q (by first | omega | (simp[-List.getD_eq_getElem?_getD];done) | (simp[-List.getD_eq_getElem?_getD];omega) | fail)⟩ | refine⟨fun q=>absurd q (by first | omega | (simp[-List.getD_eq_getElem?_getD];done) | (simp[-List.getD_eq_getElem?_getD];omega) | fail),fun _=>?_⟩ | fail)
            exact⟨(hmOf c.tenants.length hf,hf,(some (A,kp,kq,elq))),[(98,52),(99,53)],⟨⟨rfl,hH⟩,hva,hkq,hel⟩,⟨rfl,rfl⟩,kp_,kp_⟩
           ·by_cases h2:(st.getD i.toNat default).running≥(c.tenants.length:Int)
            ·repeat (first | refine⟨fun _=>?_,fun h=>Bool.noConfusion h⟩ | refine⟨fun h=>Bool.noConfusion h,fun _=>?_⟩ | refine⟨⟨by first | exact Nat.le_refl _ | omega | fail,by first | omega | (dsimp only;omega) | fail,by first | omega | (dsimp only;omega) | fail⟩,?_⟩ | refine⟨fun q=>absurd q (by first | (simp[eqCs,eqC1];done) | fail),fun _=>?_⟩ | refine⟨fun _=>?_,fun q=>absurd q (by first | omega | (simp[-List.getD_eq_getElem?_getD];done) | (simp[-List.getD_eq_getElem?_getD];omega) | fail)⟩ | refine⟨fun q=>absurd q (by first | omega | (simp[-List.getD_eq_getElem?_getD];done) | (simp[-List.getD_eq_getElem?_getD];omega) | fail),fun _=>?_⟩ | fail)
             refine⟨kp_,?_⟩
             repeat (first | refine⟨fun _=>?_,fun h=>Bool.noConfusion h⟩ | refine⟨fun h=>Bool.noConfusion h,fun _=>?_⟩ | refine⟨⟨by first | exact Nat.le_refl _ | omega | fail,by first | omega | (dsimp only;omega) | fail,by first | omega | (dsimp only;omega) | fail⟩,?_⟩ | refine⟨fun q=>absurd q (by first | (simp[eqCs,eqC1];done) | fail),fun _=>?_⟩ | refine⟨fun _=>?_,fun q=>absurd q (by first | omega | (simp[-List.getD_eq_getElem?_getD];done) | (simp[-List.getD_eq_getElem?_getD];omega) | fail)⟩ | refine⟨fun q=>absurd q (by first | omega | (simp[-List.getD_eq_getElem?_getD];done) | (simp[-List.getD_eq_getElem?_getD];omega) | fail),fun _=>?_⟩ | fail)
             exact⟨(hmOf c.tenants.length hf,hf,(some (A,kp,kq,elq))),[(98,52),(99,53)],⟨⟨rfl,hH⟩,hva,hkq,hel⟩,⟨rfl,rfl⟩,kp_,kp_⟩
            ·by_cases h3:(st.getD i.toNat default).wanted<0
             ·repeat (first | refine⟨fun _=>?_,fun h=>Bool.noConfusion h⟩ | refine⟨fun h=>Bool.noConfusion h,fun _=>?_⟩ | refine⟨⟨by first | exact Nat.le_refl _ | omega | fail,by first | omega | (dsimp only;omega) | fail,by first | omega | (dsimp only;omega) | fail⟩,?_⟩ | refine⟨fun q=>absurd q (by first | (simp[eqCs,eqC1];done) | fail),fun _=>?_⟩ | refine⟨fun _=>?_,fun q=>absurd q (by first | omega | (simp[-List.getD_eq_getElem?_getD];done) | (simp[-List.getD_eq_getElem?_getD];omega) | fail)⟩ | refine⟨fun q=>absurd q (by first | omega | (simp[-List.getD_eq_getElem?_getD];done) | (simp[-List.getD_eq_getElem?_getD];omega) | fail),fun _=>?_⟩ | fail)
              refine⟨kp_,?_⟩
              repeat (first | refine⟨fun _=>?_,fun h=>Bool.noConfusion h⟩ | refine⟨fun h=>Bool.noConfusion h,fun _=>?_⟩ | refine⟨⟨by first | exact Nat.le_refl _ | omega | fail,by first | omega | (dsimp only;omega) | fail,by first | omega | (dsimp only;omega) | fail⟩,?_⟩ | refine⟨fun q=>absurd q (by first | (simp[eqCs,eqC1];done) | fail),fun _=>?_⟩ | refine⟨fun _=>?_,fun q=>absurd q (by first | omega | (simp[-List.getD_eq_getElem?_getD];done) | (simp[-List.getD_eq_getElem?_getD];omega) | fail)⟩ | refine⟨fun q=>absurd q (by first | omega | (simp[-List.getD_eq_getElem?_getD];done) | (simp[-List.getD_eq_getElem?_getD];omega) | fail),fun _=>?_⟩ | fail)
              exact⟨(hmOf c.tenants.length hf,hf,(some (A,kp,kq,elq))),[(98,52),(99,53)],⟨⟨rfl,hH⟩,hva,hkq,hel⟩,⟨rfl,rfl⟩,kp_,kp_⟩
             ·by_cases h4:(st.getD i.toNat default).wanted≥(c.cells.length:Int)
              ·repeat (first | refine⟨fun _=>?_,fun h=>Bool.noConfusion h⟩ | refine⟨fun h=>Bool.noConfusion h,fun _=>?_⟩ | refine⟨⟨by first | exact Nat.le_refl _ | omega | fail,by first | omega | (dsimp only;omega) | fail,by first | omega | (dsimp only;omega) | fail⟩,?_⟩ | refine⟨fun q=>absurd q (by first | (simp[eqCs,eqC1];done) | fail),fun _=>?_⟩ | refine⟨fun _=>?_,fun q=>absurd q (by first | omega | (simp[-List.getD_eq_getElem?_getD];done) | (simp[-List.getD_eq_getElem?_getD];omega) | fail)⟩ | refine⟨fun q=>absurd q (by first | omega | (simp[-List.getD_eq_getElem?_getD];done) | (simp[-List.getD_eq_getElem?_getD];omega) | fail),fun _=>?_⟩ | fail)
               refine⟨kp_,?_⟩
               repeat (first | refine⟨fun _=>?_,fun h=>Bool.noConfusion h⟩ | refine⟨fun h=>Bool.noConfusion h,fun _=>?_⟩ | refine⟨⟨by first | exact Nat.le_refl _ | omega | fail,by first | omega | (dsimp only;omega) | fail,by first | omega | (dsimp only;omega) | fail⟩,?_⟩ | refine⟨fun q=>absurd q (by first | (simp[eqCs,eqC1];done) | fail),fun _=>?_⟩ | refine⟨fun _=>?_,fun q=>absurd q (by first | omega | (simp[-List.getD_eq_getElem?_getD];done) | (simp[-List.getD_eq_getElem?_getD];omega) | fail)⟩ | refine⟨fun q=>absurd q (by first | omega | (simp[-List.getD_eq_getElem?_getD];done) | (simp[-List.getD_eq_getElem?_getD];omega) | fail),fun _=>?_⟩ | fail)
               exact⟨(hmOf c.tenants.length hf,hf,(some (A,kp,kq,elq))),[(98,52),(99,53)],⟨⟨rfl,hH⟩,hva,hkq,hel⟩,⟨rfl,rfl⟩,kp_,kp_⟩
              ·by_cases h5:(st.getD i.toNat default).since>1048576
               ·repeat (first | refine⟨fun _=>?_,fun h=>Bool.noConfusion h⟩ | refine⟨fun h=>Bool.noConfusion h,fun _=>?_⟩ | refine⟨⟨by first | exact Nat.le_refl _ | omega | fail,by first | omega | (dsimp only;omega) | fail,by first | omega | (dsimp only;omega) | fail⟩,?_⟩ | refine⟨fun q=>absurd q (by first | (simp[eqCs,eqC1];done) | fail),fun _=>?_⟩ | refine⟨fun _=>?_,fun q=>absurd q (by first | omega | (simp[-List.getD_eq_getElem?_getD];done) | (simp[-List.getD_eq_getElem?_getD];omega) | fail)⟩ | refine⟨fun q=>absurd q (by first | omega | (simp[-List.getD_eq_getElem?_getD];done) | (simp[-List.getD_eq_getElem?_getD];omega) | fail),fun _=>?_⟩ | fail)
                refine⟨kp_,?_⟩
                repeat (first | refine⟨fun _=>?_,fun h=>Bool.noConfusion h⟩ | refine⟨fun h=>Bool.noConfusion h,fun _=>?_⟩ | refine⟨⟨by first | exact Nat.le_refl _ | omega | fail,by first | omega | (dsimp only;omega) | fail,by first | omega | (dsimp only;omega) | fail⟩,?_⟩ | refine⟨fun q=>absurd q (by first | (simp[eqCs,eqC1];done) | fail),fun _=>?_⟩ | refine⟨fun _=>?_,fun q=>absurd q (by first | omega | (simp[-List.getD_eq_getElem?_getD];done) | (simp[-List.getD_eq_getElem?_getD];omega) | fail)⟩ | refine⟨fun q=>absurd q (by first | omega | (simp[-List.getD_eq_getElem?_getD];done) | (simp[-List.getD_eq_getElem?_getD];omega) | fail),fun _=>?_⟩ | fail)
                exact⟨(hmOf c.tenants.length hf,hf,(some (A,kp,kq,elq))),[(98,52),(99,53)],⟨⟨rfl,hH⟩,hva,hkq,hel⟩,⟨rfl,rfl⟩,kp_,kp_⟩
               ·have hht:=hH ((st.getD i.toNat default).running).toNat (by omega)
                by_cases h6:(hf ((st.getD i.toNat default).running).toNat).2=0
                ·repeat (first | refine⟨fun _=>?_,fun h=>Bool.noConfusion h⟩ | refine⟨fun h=>Bool.noConfusion h,fun _=>?_⟩ | refine⟨⟨by first | exact Nat.le_refl _ | omega | fail,by first | omega | (dsimp only;omega) | fail,by first | omega | (dsimp only;omega) | fail⟩,?_⟩ | refine⟨fun q=>absurd q (by first | (simp[eqCs,eqC1];done) | fail),fun _=>?_⟩ | refine⟨fun _=>?_,fun q=>absurd q (by first | omega | (simp[-List.getD_eq_getElem?_getD];done) | (simp[-List.getD_eq_getElem?_getD];omega) | fail)⟩ | refine⟨fun q=>absurd q (by first | omega | (simp[-List.getD_eq_getElem?_getD];done) | (simp[-List.getD_eq_getElem?_getD];omega) | fail),fun _=>?_⟩ | fail)
                 refine⟨fun l hl=>?_,fun _=>?_⟩
                 ·obtain⟨p,hp,-⟩:=hintF_some hl
                  rw[hmOf_no ⟨by omega,by omega⟩ h6] at hp
                  cases hp
                 ·have hrt:=(hva.rt (k:=((st.getD i.toNat default).running).toNat) (by omega)).2
                  have hal:=hva.len
                  by_cases h7:(st.getD i.toNat default).since≤(A.routes.getD ((st.getD i.toNat default).running).toNat (0,0)).2
                  ·repeat (first | refine⟨fun _=>?_,fun h=>Bool.noConfusion h⟩ | refine⟨fun h=>Bool.noConfusion h,fun _=>?_⟩ | refine⟨⟨by first | exact Nat.le_refl _ | omega | fail,by first | omega | (dsimp only;omega) | fail,by first | omega | (dsimp only;omega) | fail⟩,?_⟩ | refine⟨fun q=>absurd q (by first | (simp[eqCs,eqC1];done) | fail),fun _=>?_⟩ | refine⟨fun _=>?_,fun q=>absurd q (by first | omega | (simp[-List.getD_eq_getElem?_getD];done) | (simp[-List.getD_eq_getElem?_getD];omega) | fail)⟩ | refine⟨fun q=>absurd q (by first | omega | (simp[-List.getD_eq_getElem?_getD];done) | (simp[-List.getD_eq_getElem?_getD];omega) | fail),fun _=>?_⟩ | fail)
                   refine⟨kp_,?_⟩
                   repeat (first | refine⟨fun _=>?_,fun h=>Bool.noConfusion h⟩ | refine⟨fun h=>Bool.noConfusion h,fun _=>?_⟩ | refine⟨⟨by first | exact Nat.le_refl _ | omega | fail,by first | omega | (dsimp only;omega) | fail,by first | omega | (dsimp only;omega) | fail⟩,?_⟩ | refine⟨fun q=>absurd q (by first | (simp[eqCs,eqC1];done) | fail),fun _=>?_⟩ | refine⟨fun _=>?_,fun q=>absurd q (by first | omega | (simp[-List.getD_eq_getElem?_getD];done) | (simp[-List.getD_eq_getElem?_getD];omega) | fail)⟩ | refine⟨fun q=>absurd q (by first | omega | (simp[-List.getD_eq_getElem?_getD];done) | (simp[-List.getD_eq_getElem?_getD];omega) | fail),fun _=>?_⟩ | fail)
                   conv=>whnf
                   rw[vx_row_at (v:=.int .i64 (A.routes.getD ((st.getD i.toNat default).running).toNat (0,0)).2) (hel ((st.getD i.toNat default).running).toNat (by omega)) ?hx ?ht ?hm ?hv]
                   case hx=>rfl
                   case ht=>rfl
                   case hm=>rfl
                   case hv=>rfl
                   repeat (first | refine⟨fun _=>?_,fun h=>Bool.noConfusion h⟩ | refine⟨fun h=>Bool.noConfusion h,fun _=>?_⟩ | refine⟨⟨by first | exact Nat.le_refl _ | omega | fail,by first | omega | (dsimp only;omega) | fail,by first | omega | (dsimp only;omega) | fail⟩,?_⟩ | refine⟨fun q=>absurd q (by first | (simp[eqCs,eqC1];done) | fail),fun _=>?_⟩ | refine⟨fun _=>?_,fun q=>absurd q (by first | omega | (simp[-List.getD_eq_getElem?_getD];done) | (simp[-List.getD_eq_getElem?_getD];omega) | fail)⟩ | refine⟨fun q=>absurd q (by first | omega | (simp[-List.getD_eq_getElem?_getD];done) | (simp[-List.getD_eq_getElem?_getD];omega) | fail),fun _=>?_⟩ | fail)
                   exact⟨(hmOf c.tenants.length hf,hf,(some (A,kp,kq,elq))),[(98,52),(99,53)],⟨⟨rfl,hH⟩,hva,hkq,hel⟩,⟨rfl,rfl⟩,kp_,kp_⟩
                  ·repeat (first | refine⟨fun _=>?_,fun h=>Bool.noConfusion h⟩ | refine⟨fun h=>Bool.noConfusion h,fun _=>?_⟩ | refine⟨⟨by first | exact Nat.le_refl _ | omega | fail,by first | omega | (dsimp only;omega) | fail,by first | omega | (dsimp only;omega) | fail⟩,?_⟩ | refine⟨fun q=>absurd q (by first | (simp[eqCs,eqC1];done) | fail),fun _=>?_⟩ | refine⟨fun _=>?_,fun q=>absurd q (by first | omega | (simp[-List.getD_eq_getElem?_getD];done) | (simp[-List.getD_eq_getElem?_getD];omega) | fail)⟩ | refine⟨fun q=>absurd q (by first | omega | (simp[-List.getD_eq_getElem?_getD];done) | (simp[-List.getD_eq_getElem?_getD];omega) | fail),fun _=>?_⟩ | fail)
                   refine⟨hintF (putH (hmOf c.tenants.length hf) ((st.getD i.toNat default).running) ((st.getD i.toNat default).wanted,(st.getD i.toNat default).since)),putH_put _ _ ((st.getD i.toNat default).wanted,(st.getD i.toNat default).since),?_⟩
                   repeat (first | refine⟨fun _=>?_,fun h=>Bool.noConfusion h⟩ | refine⟨fun h=>Bool.noConfusion h,fun _=>?_⟩ | refine⟨⟨by first | exact Nat.le_refl _ | omega | fail,by first | omega | (dsimp only;omega) | fail,by first | omega | (dsimp only;omega) | fail⟩,?_⟩ | refine⟨fun q=>absurd q (by first | (simp[eqCs,eqC1];done) | fail),fun _=>?_⟩ | refine⟨fun _=>?_,fun q=>absurd q (by first | omega | (simp[-List.getD_eq_getElem?_getD];done) | (simp[-List.getD_eq_getElem?_getD];omega) | fail)⟩ | refine⟨fun q=>absurd q (by first | omega | (simp[-List.getD_eq_getElem?_getD];done) | (simp[-List.getD_eq_getElem?_getD];omega) | fail),fun _=>?_⟩ | fail)
                   refine⟨kp_,?_⟩
                   repeat (first | refine⟨fun _=>?_,fun h=>Bool.noConfusion h⟩ | refine⟨fun h=>Bool.noConfusion h,fun _=>?_⟩ | refine⟨⟨by first | exact Nat.le_refl _ | omega | fail,by first | omega | (dsimp only;omega) | fail,by first | omega | (dsimp only;omega) | fail⟩,?_⟩ | refine⟨fun q=>absurd q (by first | (simp[eqCs,eqC1];done) | fail),fun _=>?_⟩ | refine⟨fun _=>?_,fun q=>absurd q (by first | omega | (simp[-List.getD_eq_getElem?_getD];done) | (simp[-List.getD_eq_getElem?_getD];omega) | fail)⟩ | refine⟨fun q=>absurd q (by first | omega | (simp[-List.getD_eq_getElem?_getD];done) | (simp[-List.getD_eq_getElem?_getD];omega) | fail),fun _=>?_⟩ | fail)
                   conv=>whnf
                   rw[vx_row_at (v:=.int .i64 (A.routes.getD ((st.getD i.toNat default).running).toNat (0,0)).2) (hel ((st.getD i.toNat default).running).toNat (by omega)) ?hx ?ht ?hm ?hv]
                   case hx=>rfl
                   case ht=>rfl
                   case hm=>rfl
                   case hv=>rfl
                   repeat (first | refine⟨fun _=>?_,fun h=>Bool.noConfusion h⟩ | refine⟨fun h=>Bool.noConfusion h,fun _=>?_⟩ | refine⟨⟨by first | exact Nat.le_refl _ | omega | fail,by first | omega | (dsimp only;omega) | fail,by first | omega | (dsimp only;omega) | fail⟩,?_⟩ | refine⟨fun q=>absurd q (by first | (simp[eqCs,eqC1];done) | fail),fun _=>?_⟩ | refine⟨fun _=>?_,fun q=>absurd q (by first | omega | (simp[-List.getD_eq_getElem?_getD];done) | (simp[-List.getD_eq_getElem?_getD];omega) | fail)⟩ | refine⟨fun q=>absurd q (by first | omega | (simp[-List.getD_eq_getElem?_getD];done) | (simp[-List.getD_eq_getElem?_getD];omega) | fail),fun _=>?_⟩ | fail)
                   refine⟨pairC ((st.getD i.toNat default).wanted,(st.getD i.toNat default).since),rfl,?_⟩
                   rw[setEl_hf]
                   repeat (first | refine⟨fun _=>?_,fun h=>Bool.noConfusion h⟩ | refine⟨fun h=>Bool.noConfusion h,fun _=>?_⟩ | refine⟨⟨by first | exact Nat.le_refl _ | omega | fail,by first | omega | (dsimp only;omega) | fail,by first | omega | (dsimp only;omega) | fail⟩,?_⟩ | refine⟨fun q=>absurd q (by first | (simp[eqCs,eqC1];done) | fail),fun _=>?_⟩ | refine⟨fun _=>?_,fun q=>absurd q (by first | omega | (simp[-List.getD_eq_getElem?_getD];done) | (simp[-List.getD_eq_getElem?_getD];omega) | fail)⟩ | refine⟨fun q=>absurd q (by first | omega | (simp[-List.getD_eq_getElem?_getD];done) | (simp[-List.getD_eq_getElem?_getD];omega) | fail),fun _=>?_⟩ | fail)
                   exact⟨(putH (hmOf c.tenants.length hf) ((st.getD i.toNat default).running) ((st.getD i.toNat default).wanted,(st.getD i.toNat default).since),stF hf ((st.getD i.toNat default).running).toNat ((st.getD i.toNat default).wanted,(st.getD i.toNat default).since),(some (A,kp,kq,elq))),[(98,52),(99,53)],⟨⟨hmOf_set ⟨by omega,by omega⟩ (by show (st.getD i.toNat default).since≠0;omega),hH.set (by show 0≤(st.getD i.toNat default).since;omega)⟩,hva,hkq,hel⟩,⟨rfl,rfl⟩,kp_,kp_⟩
                ·repeat (first | refine⟨fun _=>?_,fun h=>Bool.noConfusion h⟩ | refine⟨fun h=>Bool.noConfusion h,fun _=>?_⟩ | refine⟨⟨by first | exact Nat.le_refl _ | omega | fail,by first | omega | (dsimp only;omega) | fail,by first | omega | (dsimp only;omega) | fail⟩,?_⟩ | refine⟨fun q=>absurd q (by first | (simp[eqCs,eqC1];done) | fail),fun _=>?_⟩ | refine⟨fun _=>?_,fun q=>absurd q (by first | omega | (simp[-List.getD_eq_getElem?_getD];done) | (simp[-List.getD_eq_getElem?_getD];omega) | fail)⟩ | refine⟨fun q=>absurd q (by first | omega | (simp[-List.getD_eq_getElem?_getD];done) | (simp[-List.getD_eq_getElem?_getD];omega) | fail),fun _=>?_⟩ | fail)
                 refine⟨fun l hl=>?_,fun hl=>?_⟩
                 ·obtain⟨p,hp,rfl⟩:=hintF_some hl
                  rw[hmOf_in ⟨by omega,by omega⟩ h6] at hp
                  obtain rfl:=Option.some.inj hp
                  by_cases h7:(st.getD i.toNat default).since≤(hf ((st.getD i.toNat default).running).toNat).2
                  ·repeat (first | refine⟨fun _=>?_,fun h=>Bool.noConfusion h⟩ | refine⟨fun h=>Bool.noConfusion h,fun _=>?_⟩ | refine⟨⟨by first | exact Nat.le_refl _ | omega | fail,by first | omega | (dsimp only;omega) | fail,by first | omega | (dsimp only;omega) | fail⟩,?_⟩ | refine⟨fun q=>absurd q (by first | (simp[eqCs,eqC1];done) | fail),fun _=>?_⟩ | refine⟨fun _=>?_,fun q=>absurd q (by first | omega | (simp[-List.getD_eq_getElem?_getD];done) | (simp[-List.getD_eq_getElem?_getD];omega) | fail)⟩ | refine⟨fun q=>absurd q (by first | omega | (simp[-List.getD_eq_getElem?_getD];done) | (simp[-List.getD_eq_getElem?_getD];omega) | fail),fun _=>?_⟩ | fail)
                   refine⟨kp_,?_⟩
                   repeat (first | refine⟨fun _=>?_,fun h=>Bool.noConfusion h⟩ | refine⟨fun h=>Bool.noConfusion h,fun _=>?_⟩ | refine⟨⟨by first | exact Nat.le_refl _ | omega | fail,by first | omega | (dsimp only;omega) | fail,by first | omega | (dsimp only;omega) | fail⟩,?_⟩ | refine⟨fun q=>absurd q (by first | (simp[eqCs,eqC1];done) | fail),fun _=>?_⟩ | refine⟨fun _=>?_,fun q=>absurd q (by first | omega | (simp[-List.getD_eq_getElem?_getD];done) | (simp[-List.getD_eq_getElem?_getD];omega) | fail)⟩ | refine⟨fun q=>absurd q (by first | omega | (simp[-List.getD_eq_getElem?_getD];done) | (simp[-List.getD_eq_getElem?_getD];omega) | fail),fun _=>?_⟩ | fail)
                   exact⟨(hmOf c.tenants.length hf,hf,(some (A,kp,kq,elq))),[(98,52),(99,53)],⟨⟨rfl,hH⟩,hva,hkq,hel⟩,⟨rfl,rfl⟩,kp_,kp_⟩
                  ·repeat (first | refine⟨fun _=>?_,fun h=>Bool.noConfusion h⟩ | refine⟨fun h=>Bool.noConfusion h,fun _=>?_⟩ | refine⟨⟨by first | exact Nat.le_refl _ | omega | fail,by first | omega | (dsimp only;omega) | fail,by first | omega | (dsimp only;omega) | fail⟩,?_⟩ | refine⟨fun q=>absurd q (by first | (simp[eqCs,eqC1];done) | fail),fun _=>?_⟩ | refine⟨fun _=>?_,fun q=>absurd q (by first | omega | (simp[-List.getD_eq_getElem?_getD];done) | (simp[-List.getD_eq_getElem?_getD];omega) | fail)⟩ | refine⟨fun q=>absurd q (by first | omega | (simp[-List.getD_eq_getElem?_getD];done) | (simp[-List.getD_eq_getElem?_getD];omega) | fail),fun _=>?_⟩ | fail)
                   refine⟨hintF (putH (hmOf c.tenants.length hf) ((st.getD i.toNat default).running) ((st.getD i.toNat default).wanted,(st.getD i.toNat default).since)),putH_put _ _ ((st.getD i.toNat default).wanted,(st.getD i.toNat default).since),?_⟩
                   repeat (first | refine⟨fun _=>?_,fun h=>Bool.noConfusion h⟩ | refine⟨fun h=>Bool.noConfusion h,fun _=>?_⟩ | refine⟨⟨by first | exact Nat.le_refl _ | omega | fail,by first | omega | (dsimp only;omega) | fail,by first | omega | (dsimp only;omega) | fail⟩,?_⟩ | refine⟨fun q=>absurd q (by first | (simp[eqCs,eqC1];done) | fail),fun _=>?_⟩ | refine⟨fun _=>?_,fun q=>absurd q (by first | omega | (simp[-List.getD_eq_getElem?_getD];done) | (simp[-List.getD_eq_getElem?_getD];omega) | fail)⟩ | refine⟨fun q=>absurd q (by first | omega | (simp[-List.getD_eq_getElem?_getD];done) | (simp[-List.getD_eq_getElem?_getD];omega) | fail),fun _=>?_⟩ | fail)
                   refine⟨kp_,?_⟩
                   repeat (first | refine⟨fun _=>?_,fun h=>Bool.noConfusion h⟩ | refine⟨fun h=>Bool.noConfusion h,fun _=>?_⟩ | refine⟨⟨by first | exact Nat.le_refl _ | omega | fail,by first | omega | (dsimp only;omega) | fail,by first | omega | (dsimp only;omega) | fail⟩,?_⟩ | refine⟨fun q=>absurd q (by first | (simp[eqCs,eqC1];done) | fail),fun _=>?_⟩ | refine⟨fun _=>?_,fun q=>absurd q (by first | omega | (simp[-List.getD_eq_getElem?_getD];done) | (simp[-List.getD_eq_getElem?_getD];omega) | fail)⟩ | refine⟨fun q=>absurd q (by first | omega | (simp[-List.getD_eq_getElem?_getD];done) | (simp[-List.getD_eq_getElem?_getD];omega) | fail),fun _=>?_⟩ | fail)
                   refine⟨pairC ((st.getD i.toNat default).wanted,(st.getD i.toNat default).since),rfl,?_⟩
                   rw[setEl_hf]
                   repeat (first | refine⟨fun _=>?_,fun h=>Bool.noConfusion h⟩ | refine⟨fun h=>Bool.noConfusion h,fun _=>?_⟩ | refine⟨⟨by first | exact Nat.le_refl _ | omega | fail,by first | omega | (dsimp only;omega) | fail,by first | omega | (dsimp only;omega) | fail⟩,?_⟩ | refine⟨fun q=>absurd q (by first | (simp[eqCs,eqC1];done) | fail),fun _=>?_⟩ | refine⟨fun _=>?_,fun q=>absurd q (by first | omega | (simp[-List.getD_eq_getElem?_getD];done) | (simp[-List.getD_eq_getElem?_getD];omega) | fail)⟩ | refine⟨fun q=>absurd q (by first | omega | (simp[-List.getD_eq_getElem?_getD];done) | (simp[-List.getD_eq_getElem?_getD];omega) | fail),fun _=>?_⟩ | fail)
                   exact⟨(putH (hmOf c.tenants.length hf) ((st.getD i.toNat default).running) ((st.getD i.toNat default).wanted,(st.getD i.toNat default).since),stF hf ((st.getD i.toNat default).running).toNat ((st.getD i.toNat default).wanted,(st.getD i.toNat default).since),(some (A,kp,kq,elq))),[(98,52),(99,53)],⟨⟨hmOf_set ⟨by omega,by omega⟩ (by show (st.getD i.toNat default).since≠0;omega),hH.set (by show 0≤(st.getD i.toNat default).since;omega)⟩,hva,hkq,hel⟩,⟨rfl,rfl⟩,kp_,kp_⟩
                 ·have hp:=hintF_none hl
                  rw[hmOf_in ⟨by omega,by omega⟩ h6] at hp
                  cases hp
          ·refine⟨_,_,_,rfl,⟨by decide,by decide⟩,fun t5 ht5=>?_⟩
           refine⟨kp_,?_⟩
           refine⟨_,_,_,rfl,⟨by decide,by decide⟩,fun x5 hx5=>?_⟩
           refine⟨kp_,?_⟩
           refine⟨_,_,_,rfl,⟨by decide,by decide⟩,fun e5 he5=>?_⟩
           by_cases h1:t5<0
           ·repeat (first | refine⟨fun _=>?_,fun h=>Bool.noConfusion h⟩ | refine⟨fun h=>Bool.noConfusion h,fun _=>?_⟩ | refine⟨⟨by first | exact Nat.le_refl _ | omega | fail,by first | omega | (dsimp only;omega) | fail,by first | omega | (dsimp only;omega) | fail⟩,?_⟩ | refine⟨fun q=>absurd q (by first | (simp[eqCs,eqC1];done) | fail),fun _=>?_⟩ | refine⟨fun _=>?_,fun q=>absurd q (by first | omega | (simp[-List.getD_eq_getElem?_getD];done) | (simp[-List.getD_eq_getElem?_getD];omega) | fail)⟩ | refine⟨fun q=>absurd q (by first | omega | (simp[-List.getD_eq_getElem?_getD];done) | (simp[-List.getD_eq_getElem?_getD];omega) | fail),fun _=>?_⟩ | fail)
            exact⟨(hmOf c.tenants.length hf,hf,(some (A,kp,kq,elq))),[(98,52),(99,53)],⟨⟨rfl,hH⟩,hva,hkq,hel⟩,⟨rfl,rfl⟩,kp_,kp_⟩
           ·by_cases h2:t5≥(c.tenants.length:Int)
            ·repeat (first | refine⟨fun _=>?_,fun h=>Bool.noConfusion h⟩ | refine⟨fun h=>Bool.noConfusion h,fun _=>?_⟩ | refine⟨⟨by first | exact Nat.le_refl _ | omega | fail,by first | omega | (dsimp only;omega) | fail,by first | omega | (dsimp only;omega) | fail⟩,?_⟩ | refine⟨fun q=>absurd q (by first | (simp[eqCs,eqC1];done) | fail),fun _=>?_⟩ | refine⟨fun _=>?_,fun q=>absurd q (by first | omega | (simp[-List.getD_eq_getElem?_getD];done) | (simp[-List.getD_eq_getElem?_getD];omega) | fail)⟩ | refine⟨fun q=>absurd q (by first | omega | (simp[-List.getD_eq_getElem?_getD];done) | (simp[-List.getD_eq_getElem?_getD];omega) | fail),fun _=>?_⟩ | fail)
             exact⟨(hmOf c.tenants.length hf,hf,(some (A,kp,kq,elq))),[(98,52),(99,53)],⟨⟨rfl,hH⟩,hva,hkq,hel⟩,⟨rfl,rfl⟩,kp_,kp_⟩
            ·by_cases h3:x5<0
             ·repeat (first | refine⟨fun _=>?_,fun h=>Bool.noConfusion h⟩ | refine⟨fun h=>Bool.noConfusion h,fun _=>?_⟩ | refine⟨⟨by first | exact Nat.le_refl _ | omega | fail,by first | omega | (dsimp only;omega) | fail,by first | omega | (dsimp only;omega) | fail⟩,?_⟩ | refine⟨fun q=>absurd q (by first | (simp[eqCs,eqC1];done) | fail),fun _=>?_⟩ | refine⟨fun _=>?_,fun q=>absurd q (by first | omega | (simp[-List.getD_eq_getElem?_getD];done) | (simp[-List.getD_eq_getElem?_getD];omega) | fail)⟩ | refine⟨fun q=>absurd q (by first | omega | (simp[-List.getD_eq_getElem?_getD];done) | (simp[-List.getD_eq_getElem?_getD];omega) | fail),fun _=>?_⟩ | fail)
              exact⟨(hmOf c.tenants.length hf,hf,(some (A,kp,kq,elq))),[(98,52),(99,53)],⟨⟨rfl,hH⟩,hva,hkq,hel⟩,⟨rfl,rfl⟩,kp_,kp_⟩
             ·by_cases h4:x5≥(c.cells.length:Int)
              ·repeat (first | refine⟨fun _=>?_,fun h=>Bool.noConfusion h⟩ | refine⟨fun h=>Bool.noConfusion h,fun _=>?_⟩ | refine⟨⟨by first | exact Nat.le_refl _ | omega | fail,by first | omega | (dsimp only;omega) | fail,by first | omega | (dsimp only;omega) | fail⟩,?_⟩ | refine⟨fun q=>absurd q (by first | (simp[eqCs,eqC1];done) | fail),fun _=>?_⟩ | refine⟨fun _=>?_,fun q=>absurd q (by first | omega | (simp[-List.getD_eq_getElem?_getD];done) | (simp[-List.getD_eq_getElem?_getD];omega) | fail)⟩ | refine⟨fun q=>absurd q (by first | omega | (simp[-List.getD_eq_getElem?_getD];done) | (simp[-List.getD_eq_getElem?_getD];omega) | fail),fun _=>?_⟩ | fail)
               exact⟨(hmOf c.tenants.length hf,hf,(some (A,kp,kq,elq))),[(98,52),(99,53)],⟨⟨rfl,hH⟩,hva,hkq,hel⟩,⟨rfl,rfl⟩,kp_,kp_⟩
              ·by_cases h5:e5>1048576
               ·repeat (first | refine⟨fun _=>?_,fun h=>Bool.noConfusion h⟩ | refine⟨fun h=>Bool.noConfusion h,fun _=>?_⟩ | refine⟨⟨by first | exact Nat.le_refl _ | omega | fail,by first | omega | (dsimp only;omega) | fail,by first | omega | (dsimp only;omega) | fail⟩,?_⟩ | refine⟨fun q=>absurd q (by first | (simp[eqCs,eqC1];done) | fail),fun _=>?_⟩ | refine⟨fun _=>?_,fun q=>absurd q (by first | omega | (simp[-List.getD_eq_getElem?_getD];done) | (simp[-List.getD_eq_getElem?_getD];omega) | fail)⟩ | refine⟨fun q=>absurd q (by first | omega | (simp[-List.getD_eq_getElem?_getD];done) | (simp[-List.getD_eq_getElem?_getD];omega) | fail),fun _=>?_⟩ | fail)
                exact⟨(hmOf c.tenants.length hf,hf,(some (A,kp,kq,elq))),[(98,52),(99,53)],⟨⟨rfl,hH⟩,hva,hkq,hel⟩,⟨rfl,rfl⟩,kp_,kp_⟩
               ·have hht:=hH (t5).toNat (by omega)
                by_cases h6:(hf (t5).toNat).2=0
                ·repeat (first | refine⟨fun _=>?_,fun h=>Bool.noConfusion h⟩ | refine⟨fun h=>Bool.noConfusion h,fun _=>?_⟩ | refine⟨⟨by first | exact Nat.le_refl _ | omega | fail,by first | omega | (dsimp only;omega) | fail,by first | omega | (dsimp only;omega) | fail⟩,?_⟩ | refine⟨fun q=>absurd q (by first | (simp[eqCs,eqC1];done) | fail),fun _=>?_⟩ | refine⟨fun _=>?_,fun q=>absurd q (by first | omega | (simp[-List.getD_eq_getElem?_getD];done) | (simp[-List.getD_eq_getElem?_getD];omega) | fail)⟩ | refine⟨fun q=>absurd q (by first | omega | (simp[-List.getD_eq_getElem?_getD];done) | (simp[-List.getD_eq_getElem?_getD];omega) | fail),fun _=>?_⟩ | fail)
                 refine⟨fun l hl=>?_,fun _=>?_⟩
                 ·obtain⟨p,hp,-⟩:=hintF_some hl
                  rw[hmOf_no ⟨by omega,by omega⟩ h6] at hp
                  cases hp
                 ·have hrt:=(hva.rt (k:=(t5).toNat) (by omega)).2
                  have hal:=hva.len
                  by_cases h7:e5≤(A.routes.getD (t5).toNat (0,0)).2
                  ·repeat (first | refine⟨fun _=>?_,fun h=>Bool.noConfusion h⟩ | refine⟨fun h=>Bool.noConfusion h,fun _=>?_⟩ | refine⟨⟨by first | exact Nat.le_refl _ | omega | fail,by first | omega | (dsimp only;omega) | fail,by first | omega | (dsimp only;omega) | fail⟩,?_⟩ | refine⟨fun q=>absurd q (by first | (simp[eqCs,eqC1];done) | fail),fun _=>?_⟩ | refine⟨fun _=>?_,fun q=>absurd q (by first | omega | (simp[-List.getD_eq_getElem?_getD];done) | (simp[-List.getD_eq_getElem?_getD];omega) | fail)⟩ | refine⟨fun q=>absurd q (by first | omega | (simp[-List.getD_eq_getElem?_getD];done) | (simp[-List.getD_eq_getElem?_getD];omega) | fail),fun _=>?_⟩ | fail)
                   conv=>whnf
                   rw[vx_row_at (v:=.int .i64 (A.routes.getD (t5).toNat (0,0)).2) (hel (t5).toNat (by omega)) ?hx ?ht ?hm ?hv]
                   case hx=>rfl
                   case ht=>rfl
                   case hm=>rfl
                   case hv=>rfl
                   repeat (first | refine⟨fun _=>?_,fun h=>Bool.noConfusion h⟩ | refine⟨fun h=>Bool.noConfusion h,fun _=>?_⟩ | refine⟨⟨by first | exact Nat.le_refl _ | omega | fail,by first | omega | (dsimp only;omega) | fail,by first | omega | (dsimp only;omega) | fail⟩,?_⟩ | refine⟨fun q=>absurd q (by first | (simp[eqCs,eqC1];done) | fail),fun _=>?_⟩ | refine⟨fun _=>?_,fun q=>absurd q (by first | omega | (simp[-List.getD_eq_getElem?_getD];done) | (simp[-List.getD_eq_getElem?_getD];omega) | fail)⟩ | refine⟨fun q=>absurd q (by first | omega | (simp[-List.getD_eq_getElem?_getD];done) | (simp[-List.getD_eq_getElem?_getD];omega) | fail),fun _=>?_⟩ | fail)
                   exact⟨(hmOf c.tenants.length hf,hf,(some (A,kp,kq,elq))),[(98,52),(99,53)],⟨⟨rfl,hH⟩,hva,hkq,hel⟩,⟨rfl,rfl⟩,kp_,kp_⟩
                  ·repeat (first | refine⟨fun _=>?_,fun h=>Bool.noConfusion h⟩ | refine⟨fun h=>Bool.noConfusion h,fun _=>?_⟩ | refine⟨⟨by first | exact Nat.le_refl _ | omega | fail,by first | omega | (dsimp only;omega) | fail,by first | omega | (dsimp only;omega) | fail⟩,?_⟩ | refine⟨fun q=>absurd q (by first | (simp[eqCs,eqC1];done) | fail),fun _=>?_⟩ | refine⟨fun _=>?_,fun q=>absurd q (by first | omega | (simp[-List.getD_eq_getElem?_getD];done) | (simp[-List.getD_eq_getElem?_getD];omega) | fail)⟩ | refine⟨fun q=>absurd q (by first | omega | (simp[-List.getD_eq_getElem?_getD];done) | (simp[-List.getD_eq_getElem?_getD];omega) | fail),fun _=>?_⟩ | fail)
                   refine⟨hintF (putH (hmOf c.tenants.length hf) (t5) (x5,e5)),putH_put _ _ (x5,e5),?_⟩
                   repeat (first | refine⟨fun _=>?_,fun h=>Bool.noConfusion h⟩ | refine⟨fun h=>Bool.noConfusion h,fun _=>?_⟩ | refine⟨⟨by first | exact Nat.le_refl _ | omega | fail,by first | omega | (dsimp only;omega) | fail,by first | omega | (dsimp only;omega) | fail⟩,?_⟩ | refine⟨fun q=>absurd q (by first | (simp[eqCs,eqC1];done) | fail),fun _=>?_⟩ | refine⟨fun _=>?_,fun q=>absurd q (by first | omega | (simp[-List.getD_eq_getElem?_getD];done) | (simp[-List.getD_eq_getElem?_getD];omega) | fail)⟩ | refine⟨fun q=>absurd q (by first | omega | (simp[-List.getD_eq_getElem?_getD];done) | (simp[-List.getD_eq_getElem?_getD];omega) | fail),fun _=>?_⟩ | fail)
                   conv=>whnf
                   rw[vx_row_at (v:=.int .i64 (A.routes.getD (t5).toNat (0,0)).2) (hel (t5).toNat (by omega)) ?hx ?ht ?hm ?hv]
                   case hx=>rfl
                   case ht=>rfl
                   case hm=>rfl
                   case hv=>rfl
                   repeat (first | refine⟨fun _=>?_,fun h=>Bool.noConfusion h⟩ | refine⟨fun h=>Bool.noConfusion h,fun _=>?_⟩ | refine⟨⟨by first | exact Nat.le_refl _ | omega | fail,by first | omega | (dsimp only;omega) | fail,by first | omega | (dsimp only;omega) | fail⟩,?_⟩ | refine⟨fun q=>absurd q (by first | (simp[eqCs,eqC1];done) | fail),fun _=>?_⟩ | refine⟨fun _=>?_,fun q=>absurd q (by first | omega | (simp[-List.getD_eq_getElem?_getD];done) | (simp[-List.getD_eq_getElem?_getD];omega) | fail)⟩ | refine⟨fun q=>absurd q (by first | omega | (simp[-List.getD_eq_getElem?_getD];done) | (simp[-List.getD_eq_getElem?_getD];omega) | fail),fun _=>?_⟩ | fail)
                   refine⟨pairC (x5,e5),rfl,?_⟩
                   rw[setEl_hf]
                   repeat (first | refine⟨fun _=>?_,fun h=>Bool.noConfusion h⟩ | refine⟨fun h=>Bool.noConfusion h,fun _=>?_⟩ | refine⟨⟨by first | exact Nat.le_refl _ | omega | fail,by first | omega | (dsimp only;omega) | fail,by first | omega | (dsimp only;omega) | fail⟩,?_⟩ | refine⟨fun q=>absurd q (by first | (simp[eqCs,eqC1];done) | fail),fun _=>?_⟩ | refine⟨fun _=>?_,fun q=>absurd q (by first | omega | (simp[-List.getD_eq_getElem?_getD];done) | (simp[-List.getD_eq_getElem?_getD];omega) | fail)⟩ | refine⟨fun q=>absurd q (by first | omega | (simp[-List.getD_eq_getElem?_getD];done) | (simp[-List.getD_eq_getElem?_getD];omega) | fail),fun _=>?_⟩ | fail)
                   exact⟨(putH (hmOf c.tenants.length hf) (t5) (x5,e5),stF hf (t5).toNat (x5,e5),(some (A,kp,kq,elq))),[(98,52),(99,53)],⟨⟨hmOf_set ⟨by omega,by omega⟩ (by show e5≠0;omega),hH.set (by show 0≤e5;omega)⟩,hva,hkq,hel⟩,⟨rfl,rfl⟩,kp_,kp_⟩
                ·repeat (first | refine⟨fun _=>?_,fun h=>Bool.noConfusion h⟩ | refine⟨fun h=>Bool.noConfusion h,fun _=>?_⟩ | refine⟨⟨by first | exact Nat.le_refl _ | omega | fail,by first | omega | (dsimp only;omega) | fail,by first | omega | (dsimp only;omega) | fail⟩,?_⟩ | refine⟨fun q=>absurd q (by first | (simp[eqCs,eqC1];done) | fail),fun _=>?_⟩ | refine⟨fun _=>?_,fun q=>absurd q (by first | omega | (simp[-List.getD_eq_getElem?_getD];done) | (simp[-List.getD_eq_getElem?_getD];omega) | fail)⟩ | refine⟨fun q=>absurd q (by first | omega | (simp[-List.getD_eq_getElem?_getD];done) | (simp[-List.getD_eq_getElem?_getD];omega) | fail),fun _=>?_⟩ | fail)
                 refine⟨fun l hl=>?_,fun hl=>?_⟩
                 ·obtain⟨p,hp,rfl⟩:=hintF_some hl
                  rw[hmOf_in ⟨by omega,by omega⟩ h6] at hp
                  obtain rfl:=Option.some.inj hp
                  by_cases h7:e5≤(hf (t5).toNat).2
                  ·repeat (first | refine⟨fun _=>?_,fun h=>Bool.noConfusion h⟩ | refine⟨fun h=>Bool.noConfusion h,fun _=>?_⟩ | refine⟨⟨by first | exact Nat.le_refl _ | omega | fail,by first | omega | (dsimp only;omega) | fail,by first | omega | (dsimp only;omega) | fail⟩,?_⟩ | refine⟨fun q=>absurd q (by first | (simp[eqCs,eqC1];done) | fail),fun _=>?_⟩ | refine⟨fun _=>?_,fun q=>absurd q (by first | omega | (simp[-List.getD_eq_getElem?_getD];done) | (simp[-List.getD_eq_getElem?_getD];omega) | fail)⟩ | refine⟨fun q=>absurd q (by first | omega | (simp[-List.getD_eq_getElem?_getD];done) | (simp[-List.getD_eq_getElem?_getD];omega) | fail),fun _=>?_⟩ | fail)
                   exact⟨(hmOf c.tenants.length hf,hf,(some (A,kp,kq,elq))),[(98,52),(99,53)],⟨⟨rfl,hH⟩,hva,hkq,hel⟩,⟨rfl,rfl⟩,kp_,kp_⟩
                  ·repeat (first | refine⟨fun _=>?_,fun h=>Bool.noConfusion h⟩ | refine⟨fun h=>Bool.noConfusion h,fun _=>?_⟩ | refine⟨⟨by first | exact Nat.le_refl _ | omega | fail,by first | omega | (dsimp only;omega) | fail,by first | omega | (dsimp only;omega) | fail⟩,?_⟩ | refine⟨fun q=>absurd q (by first | (simp[eqCs,eqC1];done) | fail),fun _=>?_⟩ | refine⟨fun _=>?_,fun q=>absurd q (by first | omega | (simp[-List.getD_eq_getElem?_getD];done) | (simp[-List.getD_eq_getElem?_getD];omega) | fail)⟩ | refine⟨fun q=>absurd q (by first | omega | (simp[-List.getD_eq_getElem?_getD];done) | (simp[-List.getD_eq_getElem?_getD];omega) | fail),fun _=>?_⟩ | fail)
                   refine⟨hintF (putH (hmOf c.tenants.length hf) (t5) (x5,e5)),putH_put _ _ (x5,e5),?_⟩
                   repeat (first | refine⟨fun _=>?_,fun h=>Bool.noConfusion h⟩ | refine⟨fun h=>Bool.noConfusion h,fun _=>?_⟩ | refine⟨⟨by first | exact Nat.le_refl _ | omega | fail,by first | omega | (dsimp only;omega) | fail,by first | omega | (dsimp only;omega) | fail⟩,?_⟩ | refine⟨fun q=>absurd q (by first | (simp[eqCs,eqC1];done) | fail),fun _=>?_⟩ | refine⟨fun _=>?_,fun q=>absurd q (by first | omega | (simp[-List.getD_eq_getElem?_getD];done) | (simp[-List.getD_eq_getElem?_getD];omega) | fail)⟩ | refine⟨fun q=>absurd q (by first | omega | (simp[-List.getD_eq_getElem?_getD];done) | (simp[-List.getD_eq_getElem?_getD];omega) | fail),fun _=>?_⟩ | fail)
                   refine⟨pairC (x5,e5),rfl,?_⟩
                   rw[setEl_hf]
                   repeat (first | refine⟨fun _=>?_,fun h=>Bool.noConfusion h⟩ | refine⟨fun h=>Bool.noConfusion h,fun _=>?_⟩ | refine⟨⟨by first | exact Nat.le_refl _ | omega | fail,by first | omega | (dsimp only;omega) | fail,by first | omega | (dsimp only;omega) | fail⟩,?_⟩ | refine⟨fun q=>absurd q (by first | (simp[eqCs,eqC1];done) | fail),fun _=>?_⟩ | refine⟨fun _=>?_,fun q=>absurd q (by first | omega | (simp[-List.getD_eq_getElem?_getD];done) | (simp[-List.getD_eq_getElem?_getD];omega) | fail)⟩ | refine⟨fun q=>absurd q (by first | omega | (simp[-List.getD_eq_getElem?_getD];done) | (simp[-List.getD_eq_getElem?_getD];omega) | fail),fun _=>?_⟩ | fail)
                   exact⟨(putH (hmOf c.tenants.length hf) (t5) (x5,e5),stF hf (t5).toNat (x5,e5),(some (A,kp,kq,elq))),[(98,52),(99,53)],⟨⟨hmOf_set ⟨by omega,by omega⟩ (by show e5≠0;omega),hH.set (by show 0≤e5;omega)⟩,hva,hkq,hel⟩,⟨rfl,rfl⟩,kp_,kp_⟩
                 ·have hp:=hintF_none hl
                  rw[hmOf_in ⟨by omega,by omega⟩ h6] at hp
                  cases hp
       rintro⟨hm,hf,(_ | ⟨A,kp,kq,elq⟩)⟩ ⟨⟨rfl,hH⟩,ho⟩
       ·refine⟨⟨by decide,rfl,rfl⟩,?_⟩
        refine⟨Int,fun z=>[(5,.int .i64 z)],fun _=>[],fun z=>-1≤z∧z≤(c.tenants.length:Int)+1,fun z=>((c.tenants.length:Int)+1-z).toNat,⟨-1,by omega,kp_,kp_⟩,?_⟩
        rintro z hz
        refine⟨⟨rfl,rfl⟩,?_⟩
        refine⟨fun hzl=>?_,fun hzg=>?_⟩
        ·have hzl2:z≤(c.tenants.length:Int):=of_decide_eq_true hzl
         clear hzl
         by_cases hr:0≤z∧z<(c.tenants.length:Int)
         ·by_cases he:(hf z.toNat).2=0
          ·refine⟨fun l hl=>?_,fun _=>?_⟩
           ·obtain⟨p,hp,-⟩:=hintF_some hl
            rw[hmOf_no hr he] at hp
            cases hp
           ·repeat (first | refine⟨fun _=>?_,fun h=>Bool.noConfusion h⟩ | refine⟨fun h=>Bool.noConfusion h,fun _=>?_⟩ | refine⟨⟨by first | exact Nat.le_refl _ | omega | fail,by first | omega | (dsimp only;omega) | fail,by first | omega | (dsimp only;omega) | fail⟩,?_⟩ | refine⟨fun q=>absurd q (by first | (simp[eqCs,eqC1];done) | fail),fun _=>?_⟩ | refine⟨fun _=>?_,fun q=>absurd q (by first | omega | (simp[-List.getD_eq_getElem?_getD];done) | (simp[-List.getD_eq_getElem?_getD];omega) | fail)⟩ | refine⟨fun q=>absurd q (by first | omega | (simp[-List.getD_eq_getElem?_getD];done) | (simp[-List.getD_eq_getElem?_getD];omega) | fail),fun _=>?_⟩ | fail)
            refine⟨fun l hl=>?_,fun _=>?_⟩
            ·obtain⟨p,hp,-⟩:=hintF_some hl
             rw[hmOf_no hr he] at hp
             cases hp
            ·repeat (first | refine⟨fun _=>?_,fun h=>Bool.noConfusion h⟩ | refine⟨fun h=>Bool.noConfusion h,fun _=>?_⟩ | refine⟨⟨by first | exact Nat.le_refl _ | omega | fail,by first | omega | (dsimp only;omega) | fail,by first | omega | (dsimp only;omega) | fail⟩,?_⟩ | refine⟨fun q=>absurd q (by first | (simp[eqCs,eqC1];done) | fail),fun _=>?_⟩ | refine⟨fun _=>?_,fun q=>absurd q (by first | omega | (simp[-List.getD_eq_getElem?_getD];done) | (simp[-List.getD_eq_getElem?_getD];omega) | fail)⟩ | refine⟨fun q=>absurd q (by first | omega | (simp[-List.getD_eq_getElem?_getD];done) | (simp[-List.getD_eq_getElem?_getD];omega) | fail),fun _=>?_⟩ | fail)
             refine⟨_,?_,kp_,kp_⟩
             rw[wrapi (n:=z+1) (by omega)]
             dsimp only
             exact⟨by omega,by omega⟩
          ·refine⟨fun l hl=>?_,fun hl=>?_⟩
           ·obtain⟨p,hp,rfl⟩:=hintF_some hl
            rw[hmOf_in hr he] at hp
            obtain rfl:=Option.some.inj hp
            repeat (first | refine⟨fun _=>?_,fun h=>Bool.noConfusion h⟩ | refine⟨fun h=>Bool.noConfusion h,fun _=>?_⟩ | refine⟨⟨by first | exact Nat.le_refl _ | omega | fail,by first | omega | (dsimp only;omega) | fail,by first | omega | (dsimp only;omega) | fail⟩,?_⟩ | refine⟨fun q=>absurd q (by first | (simp[eqCs,eqC1];done) | fail),fun _=>?_⟩ | refine⟨fun _=>?_,fun q=>absurd q (by first | omega | (simp[-List.getD_eq_getElem?_getD];done) | (simp[-List.getD_eq_getElem?_getD];omega) | fail)⟩ | refine⟨fun q=>absurd q (by first | omega | (simp[-List.getD_eq_getElem?_getD];done) | (simp[-List.getD_eq_getElem?_getD];omega) | fail),fun _=>?_⟩ | fail)
            refine⟨fun l hl=>?_,fun hl=>?_⟩
            ·obtain⟨p,hp,rfl⟩:=hintF_some hl
             rw[hmOf_in hr he] at hp
             obtain rfl:=Option.some.inj hp
             repeat (first | refine⟨fun _=>?_,fun h=>Bool.noConfusion h⟩ | refine⟨fun h=>Bool.noConfusion h,fun _=>?_⟩ | refine⟨⟨by first | exact Nat.le_refl _ | omega | fail,by first | omega | (dsimp only;omega) | fail,by first | omega | (dsimp only;omega) | fail⟩,?_⟩ | refine⟨fun q=>absurd q (by first | (simp[eqCs,eqC1];done) | fail),fun _=>?_⟩ | refine⟨fun _=>?_,fun q=>absurd q (by first | omega | (simp[-List.getD_eq_getElem?_getD];done) | (simp[-List.getD_eq_getElem?_getD];omega) | fail)⟩ | refine⟨fun q=>absurd q (by first | omega | (simp[-List.getD_eq_getElem?_getD];done) | (simp[-List.getD_eq_getElem?_getD];omega) | fail),fun _=>?_⟩ | fail)
             refine⟨_,?_,kp_,kp_⟩
             rw[wrapi (n:=z+1) (by omega)]
             dsimp only
             exact⟨by omega,by omega⟩
            ·have hp:=hintF_none hl
             rw[hmOf_in hr he] at hp
             cases hp
           ·have hp:=hintF_none hl
            rw[hmOf_in hr he] at hp
            cases hp
         ·by_cases h0:z<0
          ·refine⟨fun l hl=>?_,fun _=>?_⟩
           ·obtain⟨p,hp,-⟩:=hintF_some hl
            rw[hmOf_out hr] at hp
            cases hp
           ·repeat (first | refine⟨fun _=>?_,fun h=>Bool.noConfusion h⟩ | refine⟨fun h=>Bool.noConfusion h,fun _=>?_⟩ | refine⟨⟨by first | exact Nat.le_refl _ | omega | fail,by first | omega | (dsimp only;omega) | fail,by first | omega | (dsimp only;omega) | fail⟩,?_⟩ | refine⟨fun q=>absurd q (by first | (simp[eqCs,eqC1];done) | fail),fun _=>?_⟩ | refine⟨fun _=>?_,fun q=>absurd q (by first | omega | (simp[-List.getD_eq_getElem?_getD];done) | (simp[-List.getD_eq_getElem?_getD];omega) | fail)⟩ | refine⟨fun q=>absurd q (by first | omega | (simp[-List.getD_eq_getElem?_getD];done) | (simp[-List.getD_eq_getElem?_getD];omega) | fail),fun _=>?_⟩ | fail)
            refine⟨fun l hl=>?_,fun _=>?_⟩
            ·obtain⟨p,hp,-⟩:=hintF_some hl
             rw[hmOf_out hr] at hp
             cases hp
            ·repeat (first | refine⟨fun _=>?_,fun h=>Bool.noConfusion h⟩ | refine⟨fun h=>Bool.noConfusion h,fun _=>?_⟩ | refine⟨⟨by first | exact Nat.le_refl _ | omega | fail,by first | omega | (dsimp only;omega) | fail,by first | omega | (dsimp only;omega) | fail⟩,?_⟩ | refine⟨fun q=>absurd q (by first | (simp[eqCs,eqC1];done) | fail),fun _=>?_⟩ | refine⟨fun _=>?_,fun q=>absurd q (by first | omega | (simp[-List.getD_eq_getElem?_getD];done) | (simp[-List.getD_eq_getElem?_getD];omega) | fail)⟩ | refine⟨fun q=>absurd q (by first | omega | (simp[-List.getD_eq_getElem?_getD];done) | (simp[-List.getD_eq_getElem?_getD];omega) | fail),fun _=>?_⟩ | fail)
             refine⟨_,?_,kp_,kp_⟩
             rw[wrapi (n:=z+1) (by omega)]
             dsimp only
             exact⟨by omega,by omega⟩
          ·refine⟨fun l hl=>?_,fun _=>?_⟩
           ·obtain⟨p,hp,-⟩:=hintF_some hl
            rw[hmOf_out hr] at hp
            cases hp
           ·repeat (first | refine⟨fun _=>?_,fun h=>Bool.noConfusion h⟩ | refine⟨fun h=>Bool.noConfusion h,fun _=>?_⟩ | refine⟨⟨by first | exact Nat.le_refl _ | omega | fail,by first | omega | (dsimp only;omega) | fail,by first | omega | (dsimp only;omega) | fail⟩,?_⟩ | refine⟨fun q=>absurd q (by first | (simp[eqCs,eqC1];done) | fail),fun _=>?_⟩ | refine⟨fun _=>?_,fun q=>absurd q (by first | omega | (simp[-List.getD_eq_getElem?_getD];done) | (simp[-List.getD_eq_getElem?_getD];omega) | fail)⟩ | refine⟨fun q=>absurd q (by first | omega | (simp[-List.getD_eq_getElem?_getD];done) | (simp[-List.getD_eq_getElem?_getD];omega) | fail),fun _=>?_⟩ | fail)
            refine⟨fun l hl=>?_,fun _=>?_⟩
            ·obtain⟨p,hp,-⟩:=hintF_some hl
             rw[hmOf_out hr] at hp
             cases hp
            ·repeat (first | refine⟨fun _=>?_,fun h=>Bool.noConfusion h⟩ | refine⟨fun h=>Bool.noConfusion h,fun _=>?_⟩ | refine⟨⟨by first | exact Nat.le_refl _ | omega | fail,by first | omega | (dsimp only;omega) | fail,by first | omega | (dsimp only;omega) | fail⟩,?_⟩ | refine⟨fun q=>absurd q (by first | (simp[eqCs,eqC1];done) | fail),fun _=>?_⟩ | refine⟨fun _=>?_,fun q=>absurd q (by first | omega | (simp[-List.getD_eq_getElem?_getD];done) | (simp[-List.getD_eq_getElem?_getD];omega) | fail)⟩ | refine⟨fun q=>absurd q (by first | omega | (simp[-List.getD_eq_getElem?_getD];done) | (simp[-List.getD_eq_getElem?_getD];omega) | fail),fun _=>?_⟩ | fail)
             refine⟨_,?_,kp_,kp_⟩
             rw[wrapi (n:=z+1) (by omega)]
             dsimp only
             exact⟨by omega,by omega⟩
        ·repeat (first | refine⟨fun _=>?_,fun h=>Bool.noConfusion h⟩ | refine⟨fun h=>Bool.noConfusion h,fun _=>?_⟩ | refine⟨⟨by first | exact Nat.le_refl _ | omega | fail,by first | omega | (dsimp only;omega) | fail,by first | omega | (dsimp only;omega) | fail⟩,?_⟩ | refine⟨fun q=>absurd q (by first | (simp[eqCs,eqC1];done) | fail),fun _=>?_⟩ | refine⟨fun _=>?_,fun q=>absurd q (by first | omega | (simp[-List.getD_eq_getElem?_getD];done) | (simp[-List.getD_eq_getElem?_getD];omega) | fail)⟩ | refine⟨fun q=>absurd q (by first | omega | (simp[-List.getD_eq_getElem?_getD];done) | (simp[-List.getD_eq_getElem?_getD];omega) | fail),fun _=>?_⟩ | fail)
         refine⟨(IntKind.i64.wrap (i+1),hmOf c.tenants.length hf,hf,none),[],?_,⟨rfl,rfl⟩,kp_,kp_⟩
         dsimp only
         rw[wrapi (n:=i+1) (by omega)]
         exact⟨⟨⟨by omega,by omega⟩,⟨rfl,hH⟩,trivial⟩,by omega⟩
       ·obtain⟨hva,hkq,hel⟩:=ho
        have hal:=hva.len
        refine⟨⟨by decide,rfl,rfl⟩,?_⟩
        refine⟨Int,fun z=>[(5,.int .i64 z)],fun _=>[],fun z=>-1≤z∧z≤(c.tenants.length:Int)+1,fun z=>((c.tenants.length:Int)+1-z).toNat,⟨-1,by omega,kp_,kp_⟩,?_⟩
        rintro z hz
        refine⟨⟨rfl,rfl⟩,?_⟩
        refine⟨fun hzl=>?_,fun hzg=>?_⟩
        ·have hzl2:z≤(c.tenants.length:Int):=of_decide_eq_true hzl
         clear hzl
         by_cases hr:0≤z∧z<(c.tenants.length:Int)
         ·by_cases he:(hf z.toNat).2=0
          ·have hcv:=(hva.rt (k:=z.toNat) (by omega)).1
           by_cases hc:(A.routes.getD z.toNat (0,0)).1=-1
           ·refine⟨fun l hl=>?_,fun _=>?_⟩
            ·obtain⟨p,hp,-⟩:=hintF_some hl
             rw[hmOf_no hr he] at hp
             cases hp
            ·repeat (first | refine⟨fun _=>?_,fun h=>Bool.noConfusion h⟩ | refine⟨fun h=>Bool.noConfusion h,fun _=>?_⟩ | refine⟨⟨by first | exact Nat.le_refl _ | omega | fail,by first | omega | (dsimp only;omega) | fail,by first | omega | (dsimp only;omega) | fail⟩,?_⟩ | refine⟨fun q=>absurd q (by first | (simp[eqCs,eqC1];done) | fail),fun _=>?_⟩ | refine⟨fun _=>?_,fun q=>absurd q (by first | omega | (simp[-List.getD_eq_getElem?_getD];done) | (simp[-List.getD_eq_getElem?_getD];omega) | fail)⟩ | refine⟨fun q=>absurd q (by first | omega | (simp[-List.getD_eq_getElem?_getD];done) | (simp[-List.getD_eq_getElem?_getD];omega) | fail),fun _=>?_⟩ | fail)
             conv=>whnf
             rw[vx_row_at (v:=.int .i64 (A.routes.getD z.toNat (0,0)).1) (hel z.toNat (by omega)) ?hx ?ht ?hm ?hv]
             case hx=>rfl
             case ht=>rfl
             case hm=>rfl
             case hv=>rfl
             repeat (first | refine⟨fun _=>?_,fun h=>Bool.noConfusion h⟩ | refine⟨fun h=>Bool.noConfusion h,fun _=>?_⟩ | refine⟨⟨by first | exact Nat.le_refl _ | omega | fail,by first | omega | (dsimp only;omega) | fail,by first | omega | (dsimp only;omega) | fail⟩,?_⟩ | refine⟨fun q=>absurd q (by first | (simp[eqCs,eqC1];done) | fail),fun _=>?_⟩ | refine⟨fun _=>?_,fun q=>absurd q (by first | omega | (simp[-List.getD_eq_getElem?_getD];done) | (simp[-List.getD_eq_getElem?_getD];omega) | fail)⟩ | refine⟨fun q=>absurd q (by first | omega | (simp[-List.getD_eq_getElem?_getD];done) | (simp[-List.getD_eq_getElem?_getD];omega) | fail),fun _=>?_⟩ | fail)
             refine⟨fun l hl=>?_,fun _=>?_⟩
             ·obtain⟨p,hp,-⟩:=hintF_some hl
              rw[hmOf_no hr he] at hp
              cases hp
             ·repeat (first | refine⟨fun _=>?_,fun h=>Bool.noConfusion h⟩ | refine⟨fun h=>Bool.noConfusion h,fun _=>?_⟩ | refine⟨⟨by first | exact Nat.le_refl _ | omega | fail,by first | omega | (dsimp only;omega) | fail,by first | omega | (dsimp only;omega) | fail⟩,?_⟩ | refine⟨fun q=>absurd q (by first | (simp[eqCs,eqC1];done) | fail),fun _=>?_⟩ | refine⟨fun _=>?_,fun q=>absurd q (by first | omega | (simp[-List.getD_eq_getElem?_getD];done) | (simp[-List.getD_eq_getElem?_getD];omega) | fail)⟩ | refine⟨fun q=>absurd q (by first | omega | (simp[-List.getD_eq_getElem?_getD];done) | (simp[-List.getD_eq_getElem?_getD];omega) | fail),fun _=>?_⟩ | fail)
              refine⟨_,?_,kp_,kp_⟩
              rw[wrapi (n:=z+1) (by omega)]
              dsimp only
              exact⟨by omega,by omega⟩
           ·refine⟨fun l hl=>?_,fun _=>?_⟩
            ·obtain⟨p,hp,-⟩:=hintF_some hl
             rw[hmOf_no hr he] at hp
             cases hp
            ·repeat (first | refine⟨fun _=>?_,fun h=>Bool.noConfusion h⟩ | refine⟨fun h=>Bool.noConfusion h,fun _=>?_⟩ | refine⟨⟨by first | exact Nat.le_refl _ | omega | fail,by first | omega | (dsimp only;omega) | fail,by first | omega | (dsimp only;omega) | fail⟩,?_⟩ | refine⟨fun q=>absurd q (by first | (simp[eqCs,eqC1];done) | fail),fun _=>?_⟩ | refine⟨fun _=>?_,fun q=>absurd q (by first | omega | (simp[-List.getD_eq_getElem?_getD];done) | (simp[-List.getD_eq_getElem?_getD];omega) | fail)⟩ | refine⟨fun q=>absurd q (by first | omega | (simp[-List.getD_eq_getElem?_getD];done) | (simp[-List.getD_eq_getElem?_getD];omega) | fail),fun _=>?_⟩ | fail)
             conv=>whnf
             rw[vx_row_at (v:=.int .i64 (A.routes.getD z.toNat (0,0)).1) (hel z.toNat (by omega)) ?hx ?ht ?hm ?hv]
             case hx=>rfl
             case ht=>rfl
             case hm=>rfl
             case hv=>rfl
             repeat (first | refine⟨fun _=>?_,fun h=>Bool.noConfusion h⟩ | refine⟨fun h=>Bool.noConfusion h,fun _=>?_⟩ | refine⟨⟨by first | exact Nat.le_refl _ | omega | fail,by first | omega | (dsimp only;omega) | fail,by first | omega | (dsimp only;omega) | fail⟩,?_⟩ | refine⟨fun q=>absurd q (by first | (simp[eqCs,eqC1];done) | fail),fun _=>?_⟩ | refine⟨fun _=>?_,fun q=>absurd q (by first | omega | (simp[-List.getD_eq_getElem?_getD];done) | (simp[-List.getD_eq_getElem?_getD];omega) | fail)⟩ | refine⟨fun q=>absurd q (by first | omega | (simp[-List.getD_eq_getElem?_getD];done) | (simp[-List.getD_eq_getElem?_getD];omega) | fail),fun _=>?_⟩ | fail)
             conv=>whnf
             rw[vx_row_at (v:=.agg #[.int .i64 (A.routes.getD z.toNat (0,0)).1,.int .i64 (A.routes.getD z.toNat (0,0)).2]) (hel z.toNat (by omega)) ?hx ?ht ?hm ?hv]
             case hx=>rfl
             case ht=>rfl
             case hm=>rfl
             case hv=>rfl
             repeat (first | refine⟨fun _=>?_,fun h=>Bool.noConfusion h⟩ | refine⟨fun h=>Bool.noConfusion h,fun _=>?_⟩ | refine⟨⟨by first | exact Nat.le_refl _ | omega | fail,by first | omega | (dsimp only;omega) | fail,by first | omega | (dsimp only;omega) | fail⟩,?_⟩ | refine⟨fun q=>absurd q (by first | (simp[eqCs,eqC1];done) | fail),fun _=>?_⟩ | refine⟨fun _=>?_,fun q=>absurd q (by first | omega | (simp[-List.getD_eq_getElem?_getD];done) | (simp[-List.getD_eq_getElem?_getD];omega) | fail)⟩ | refine⟨fun q=>absurd q (by first | omega | (simp[-List.getD_eq_getElem?_getD];done) | (simp[-List.getD_eq_getElem?_getD];omega) | fail),fun _=>?_⟩ | fail)
             refine⟨fun l hl=>?_,fun _=>?_⟩
             ·obtain⟨p,hp,-⟩:=hintF_some hl
              rw[hmOf_no hr he] at hp
              cases hp
             ·repeat (first | refine⟨fun _=>?_,fun h=>Bool.noConfusion h⟩ | refine⟨fun h=>Bool.noConfusion h,fun _=>?_⟩ | refine⟨⟨by first | exact Nat.le_refl _ | omega | fail,by first | omega | (dsimp only;omega) | fail,by first | omega | (dsimp only;omega) | fail⟩,?_⟩ | refine⟨fun q=>absurd q (by first | (simp[eqCs,eqC1];done) | fail),fun _=>?_⟩ | refine⟨fun _=>?_,fun q=>absurd q (by first | omega | (simp[-List.getD_eq_getElem?_getD];done) | (simp[-List.getD_eq_getElem?_getD];omega) | fail)⟩ | refine⟨fun q=>absurd q (by first | omega | (simp[-List.getD_eq_getElem?_getD];done) | (simp[-List.getD_eq_getElem?_getD];omega) | fail),fun _=>?_⟩ | fail)
              refine⟨_,?_,kp_,kp_⟩
              rw[wrapi (n:=z+1) (by omega)]
              dsimp only
              exact⟨by omega,by omega⟩
          ·refine⟨fun l hl=>?_,fun hl=>?_⟩
           ·obtain⟨p,hp,rfl⟩:=hintF_some hl
            rw[hmOf_in hr he] at hp
            obtain rfl:=Option.some.inj hp
            repeat (first | refine⟨fun _=>?_,fun h=>Bool.noConfusion h⟩ | refine⟨fun h=>Bool.noConfusion h,fun _=>?_⟩ | refine⟨⟨by first | exact Nat.le_refl _ | omega | fail,by first | omega | (dsimp only;omega) | fail,by first | omega | (dsimp only;omega) | fail⟩,?_⟩ | refine⟨fun q=>absurd q (by first | (simp[eqCs,eqC1];done) | fail),fun _=>?_⟩ | refine⟨fun _=>?_,fun q=>absurd q (by first | omega | (simp[-List.getD_eq_getElem?_getD];done) | (simp[-List.getD_eq_getElem?_getD];omega) | fail)⟩ | refine⟨fun q=>absurd q (by first | omega | (simp[-List.getD_eq_getElem?_getD];done) | (simp[-List.getD_eq_getElem?_getD];omega) | fail),fun _=>?_⟩ | fail)
            refine⟨fun l hl=>?_,fun hl=>?_⟩
            ·obtain⟨p,hp,rfl⟩:=hintF_some hl
             rw[hmOf_in hr he] at hp
             obtain rfl:=Option.some.inj hp
             repeat (first | refine⟨fun _=>?_,fun h=>Bool.noConfusion h⟩ | refine⟨fun h=>Bool.noConfusion h,fun _=>?_⟩ | refine⟨⟨by first | exact Nat.le_refl _ | omega | fail,by first | omega | (dsimp only;omega) | fail,by first | omega | (dsimp only;omega) | fail⟩,?_⟩ | refine⟨fun q=>absurd q (by first | (simp[eqCs,eqC1];done) | fail),fun _=>?_⟩ | refine⟨fun _=>?_,fun q=>absurd q (by first | omega | (simp[-List.getD_eq_getElem?_getD];done) | (simp[-List.getD_eq_getElem?_getD];omega) | fail)⟩ | refine⟨fun q=>absurd q (by first | omega | (simp[-List.getD_eq_getElem?_getD];done) | (simp[-List.getD_eq_getElem?_getD];omega) | fail),fun _=>?_⟩ | fail)
             refine⟨_,?_,kp_,kp_⟩
             rw[wrapi (n:=z+1) (by omega)]
             dsimp only
             exact⟨by omega,by omega⟩
            ·have hp:=hintF_none hl
             rw[hmOf_in hr he] at hp
             cases hp
           ·have hp:=hintF_none hl
            rw[hmOf_in hr he] at hp
            cases hp
         ·by_cases h0:z<0
          ·refine⟨fun l hl=>?_,fun _=>?_⟩
           ·obtain⟨p,hp,-⟩:=hintF_some hl
            rw[hmOf_out hr] at hp
            cases hp
           ·repeat (first | refine⟨fun _=>?_,fun h=>Bool.noConfusion h⟩ | refine⟨fun h=>Bool.noConfusion h,fun _=>?_⟩ | refine⟨⟨by first | exact Nat.le_refl _ | omega | fail,by first | omega | (dsimp only;omega) | fail,by first | omega | (dsimp only;omega) | fail⟩,?_⟩ | refine⟨fun q=>absurd q (by first | (simp[eqCs,eqC1];done) | fail),fun _=>?_⟩ | refine⟨fun _=>?_,fun q=>absurd q (by first | omega | (simp[-List.getD_eq_getElem?_getD];done) | (simp[-List.getD_eq_getElem?_getD];omega) | fail)⟩ | refine⟨fun q=>absurd q (by first | omega | (simp[-List.getD_eq_getElem?_getD];done) | (simp[-List.getD_eq_getElem?_getD];omega) | fail),fun _=>?_⟩ | fail)
            refine⟨fun l hl=>?_,fun _=>?_⟩
            ·obtain⟨p,hp,-⟩:=hintF_some hl
             rw[hmOf_out hr] at hp
             cases hp
            ·repeat (first | refine⟨fun _=>?_,fun h=>Bool.noConfusion h⟩ | refine⟨fun h=>Bool.noConfusion h,fun _=>?_⟩ | refine⟨⟨by first | exact Nat.le_refl _ | omega | fail,by first | omega | (dsimp only;omega) | fail,by first | omega | (dsimp only;omega) | fail⟩,?_⟩ | refine⟨fun q=>absurd q (by first | (simp[eqCs,eqC1];done) | fail),fun _=>?_⟩ | refine⟨fun _=>?_,fun q=>absurd q (by first | omega | (simp[-List.getD_eq_getElem?_getD];done) | (simp[-List.getD_eq_getElem?_getD];omega) | fail)⟩ | refine⟨fun q=>absurd q (by first | omega | (simp[-List.getD_eq_getElem?_getD];done) | (simp[-List.getD_eq_getElem?_getD];omega) | fail),fun _=>?_⟩ | fail)
             refine⟨_,?_,kp_,kp_⟩
             rw[wrapi (n:=z+1) (by omega)]
             dsimp only
             exact⟨by omega,by omega⟩
          ·refine⟨fun l hl=>?_,fun _=>?_⟩
           ·obtain⟨p,hp,-⟩:=hintF_some hl
            rw[hmOf_out hr] at hp
            cases hp
           ·repeat (first | refine⟨fun _=>?_,fun h=>Bool.noConfusion h⟩ | refine⟨fun h=>Bool.noConfusion h,fun _=>?_⟩ | refine⟨⟨by first | exact Nat.le_refl _ | omega | fail,by first | omega | (dsimp only;omega) | fail,by first | omega | (dsimp only;omega) | fail⟩,?_⟩ | refine⟨fun q=>absurd q (by first | (simp[eqCs,eqC1];done) | fail),fun _=>?_⟩ | refine⟨fun _=>?_,fun q=>absurd q (by first | omega | (simp[-List.getD_eq_getElem?_getD];done) | (simp[-List.getD_eq_getElem?_getD];omega) | fail)⟩ | refine⟨fun q=>absurd q (by first | omega | (simp[-List.getD_eq_getElem?_getD];done) | (simp[-List.getD_eq_getElem?_getD];omega) | fail),fun _=>?_⟩ | fail)
            refine⟨fun l hl=>?_,fun _=>?_⟩
            ·obtain⟨p,hp,-⟩:=hintF_some hl
             rw[hmOf_out hr] at hp
             cases hp
            ·repeat (first | refine⟨fun _=>?_,fun h=>Bool.noConfusion h⟩ | refine⟨fun h=>Bool.noConfusion h,fun _=>?_⟩ | refine⟨⟨by first | exact Nat.le_refl _ | omega | fail,by first | omega | (dsimp only;omega) | fail,by first | omega | (dsimp only;omega) | fail⟩,?_⟩ | refine⟨fun q=>absurd q (by first | (simp[eqCs,eqC1];done) | fail),fun _=>?_⟩ | refine⟨fun _=>?_,fun q=>absurd q (by first | omega | (simp[-List.getD_eq_getElem?_getD];done) | (simp[-List.getD_eq_getElem?_getD];omega) | fail)⟩ | refine⟨fun q=>absurd q (by first | omega | (simp[-List.getD_eq_getElem?_getD];done) | (simp[-List.getD_eq_getElem?_getD];omega) | fail),fun _=>?_⟩ | fail)
             refine⟨_,?_,kp_,kp_⟩
             rw[wrapi (n:=z+1) (by omega)]
             dsimp only
             exact⟨by omega,by omega⟩
        ·repeat (first | refine⟨fun _=>?_,fun h=>Bool.noConfusion h⟩ | refine⟨fun h=>Bool.noConfusion h,fun _=>?_⟩ | refine⟨⟨by first | exact Nat.le_refl _ | omega | fail,by first | omega | (dsimp only;omega) | fail,by first | omega | (dsimp only;omega) | fail⟩,?_⟩ | refine⟨fun q=>absurd q (by first | (simp[eqCs,eqC1];done) | fail),fun _=>?_⟩ | refine⟨fun _=>?_,fun q=>absurd q (by first | omega | (simp[-List.getD_eq_getElem?_getD];done) | (simp[-List.getD_eq_getElem?_getD];omega) | fail)⟩ | refine⟨fun q=>absurd q (by first | omega | (simp[-List.getD_eq_getElem?_getD];done) | (simp[-List.getD_eq_getElem?_getD];omega) | fail),fun _=>?_⟩ | fail)
         refine⟨(IntKind.i64.wrap (i+1),hmOf c.tenants.length hf,hf,some (A,kp,kq,elq)),[(52,98),(53,99)],?_,⟨rfl,rfl⟩,kp_,kp_⟩
         dsimp only
         rw[wrapi (n:=i+1) (by omega)]
         exact⟨⟨⟨by omega,by omega⟩,⟨rfl,hH⟩,⟨hva,hkq,hel⟩⟩,by omega⟩
      ·exact⟨rfl,rfl⟩
theorem routerPlays_law (a0:Option Addr) (cap0:Nat) (z0:List Int) (a1:Option Addr) (cap1:Nat) (z1:List Int) (key:Int) (a3:Option Addr) (cap3:Nat) (z3:List CS) (W:World) (hr0:Rd W (·<W.heap.size) a0 (z0.map (Value.int .i64))) (hm0:z0.length≤maxLen) (hr1:Rd W (·<W.heap.size) a1 (z1.map (Value.int .i64))) (hm1:z1.length≤maxLen) {Q:Prop} (_hq:Q) (hr3:Rd W (·<W.heap.size) a3 (flat csC z3)) (hm3:z3.length≤maxLen) :
  Calls Tryz.prog 3 #[.slice a0 z0.length cap0,.slice a1 z1.length cap1,.int .i64 key,.slice a3 z3.length cap3] W fun e w'=>e=.returned (.bool true)∧Below W.heap.size W w':=by
 rw[← flat_ints] at hr0 hr1
 have h:=uni_calls ttPok pzFok Tryz.func3 rfl (D:=pzD) (by kernel_rfl) (vs:=[slc 0 z0.length cap0,slc 1 z1.length cap1,.int .i64 key,slc 10 z3.length cap3]) rfl { a0:=a0,a1:=a1,y:={ noA with ac:=a3 } } { l0:=z0,l1:=z1,s:={ noS with cells:=z3 } } W { r0:=hr0,r1:=hr1,s:={ noS_ok W (·<W.heap.size) with cells:=hr3 } } (fun v hv=>by
  simp only[List.mem_cons,List.not_mem_nil,or_false] at hv
  rcases hv with rfl | rfl | rfl | rfl
  ·exact⟨show (0:Nat)<13 by decide,rfl⟩
  ·exact⟨show (1:Nat)<13 by decide,rfl⟩
  ·trivial
  ·exact⟨show (10:Nat)<13 by decide,rfl⟩) (plays_sx cap0 cap1 cap3 z0 z1 z3 key hm0 hm1 hm3)
 refine h.mono ?_
 rintro e w' ⟨v,mem',nx',ρ',rfl,rfl,hv,hm',hb⟩
 exact⟨rfl,hb⟩
end Go.Proofs.YtchhdflealgkaaaGreat
