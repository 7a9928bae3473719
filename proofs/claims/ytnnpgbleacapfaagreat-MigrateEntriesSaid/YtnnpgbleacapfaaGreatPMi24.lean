import Derived.Test.YtnnpgbleacapfaaGreatPe23
namespace Go.Proofs.YtnnpgbleacapfaaGreat
open Go.RowKit
set_option linter.unusedSimpArgs false
set_option linter.unusedVariables false
/-! law31.MigrateEntries -/
theorem vx_load_row {τ:TT} {fr:AF} {mem:AM} {t:TypeId} {x:Operand} {r k ty sz n:Nat} {el:Nat→List Value} {ti:TI} {l:List Value} {v:Value} (he:el k=l) (hx:ev fr x=some (.pointer (some ⟨r,0,some k⟩))) (ht:lk τ t=some ti) (hm:lk mem r=some (.row ty sz n el)) (hv:(match takeN 0 ti.size l with | some l=>ofC ti.agg l | none=>none)=some v):vx τ fr mem (.load t x)=some v:=by
 show (match ev fr x with | some p=>ldx τ mem t p | none=>none)=some v
 rw[hx]
 show ldx τ mem t (.pointer (some ⟨r,0,some k⟩))=some v
 unfold ldx
 simp only[ht,hm,he]
 exact hv
def made31F:FT:=[(61,ctTapeNewM),(62,ctMoreM),(63,ctRangeM),(64,ctNextM)]
def made31D:List (Nat×DQ):=[(3000003,{ k:=28,L:=[0,1,2,3,4,5,6,7,8,9,10,11,12,13,14,15,16,17,18,19,20,21,22,23,24,25],sl:=[3] }),(1000007,{ k:=29,L:=[0,1,2,3,4,5,6,7,8,9,10,11,12,13,14,15,16,17,18,19,20,21,22,23,24,25,27],sl:=[3,4,5] }),(1000009,{ k:=29,L:=[0,1,2,3,4,5,6,7,8,9,10,11,12,13,14,15,16,17,18,19,20,21,22,23,24,25,27],sl:=[3,4,5] })]
theorem made31Fok:FTokI Tryz.prog made31F (inlOf made31D):=fti_cons (tapeNewMOk.i _) (fti_cons (moreMOk.i _) (fti_cons (rangeMOk.i _) (fti_cons (nextMOk.i _) fti_nil)))
abbrev ctMade31:CT:=ctInl tt made31F made31D Tryz.f35 (bodyOf Tryz.f35)
def meF:FT:=[(27,ctAwake31),(28,ctLight),(12,ctInl tt [] [] Tryz.f12 (bodyOf Tryz.f12)),(29,ctConfig),(30,ctState),(14,ctModM),(33,ctInl tt [] [] Tryz.f33 (bodyOf Tryz.f33)),(34,ctInl tt [] [] Tryz.f34 (bodyOf Tryz.f34)),(35,ctMade31),(36,ctEnt migC),(37,ctEnt rmigC),(38,ctStepP),(39,ctStepR)]
def meD:List (Nat×DQ):=[(9000000,{ k:=0,L:=[12,33,34,35,38,39] }),
 (2000008,{ k:=0,L:=[0,1,2,3,4,5,6,7,8,9,10,11,12,13,14,15,16,17,18,19,20,21,22,23],sl:=[3,4,7,11,12] }),(10,{ k:=8,L:=[13,14,15,16,17,18,19,20,21,22,23],pre:=[(0,false),(1,false),(2,false),(3,false),(4,false),(5,false),(6,false),(7,false)] }),(1000016,{ k:=24,L:=[0,1,2,3,4,5,6,7,8,9,10,11,12,13,14,15,16,17,18,19,20,21,22,23],sl:=[3,4,7,11,12,13] }),(13,{ k:=8,L:=[13,14,15,16,17,18,19,20,21,22,23,24],pre:=[(0,false),(1,false),(2,false),(3,false),(4,false),(5,false),(6,false),(7,false)] }),
 (4000018,{ k:=28,L:=[0,1,2,3,4,5,6,7,8,9,10,11,12,13,14,15,16,17,18,19,20,21,22,23,24,25],sl:=[3,4,7,11,12,13,18,19] }),(2000018,{ k:=0,L:=[0,1,2,3,4,5,6,7,8,9,10,11,12,13,14,15,16,17,18,19,20,21,22,23,27],sl:=[3,4,7,11,12,13,18,19,102,103] }),(20,{ k:=11,L:=[13,14,15,16,17,18,19,20,21,22,23,24,25,26,27,28],pre:=[(0,false),(1,false),(2,false),(3,false),(4,false),(5,false),(10,false),(6,true),(7,false),(8,true),(9,false)] }),(2000021,{ k:=0,L:=[0,1,2,3,4,5,6,7,8,9,10,11,12,13,14,15,16,17,18,19,20,21,22,23,24,25,26,27,28,29],sl:=[3,4,7,11,12,13,18,19,21,102,103,104,116,117] })]
theorem made31Ok {I:List Nat} (hI:I.contains 35=true):CSoundI Tryz.prog I 35 ctMade31:=inl_ok ttOk made31Fok mixed (by kernel_rfl) Tryz.func35 rfl (by kernel_rfl) hI
theorem meFok:FTokI Tryz.prog meF (inlOf meD):=fti_cons (awake31Ok.i _) (fti_cons (lightOk.i _) (fti_cons (inl_ok ttOk fti_nil mixed (by kernel_rfl) Tryz.func12 rfl (by kernel_rfl) (by decide)) (fti_cons (configOk.i _) (fti_cons (stateOk.i _) (fti_cons (modMOk.i _) (fti_cons (inl_ok ttOk fti_nil mixed (by kernel_rfl) Tryz.func33 rfl (by kernel_rfl) (by decide)) (fti_cons (inl_ok ttOk fti_nil mixed (by kernel_rfl) Tryz.func34 rfl (by kernel_rfl) (by decide)) (fti_cons (made31Ok (by decide)) (fti_cons (entPOk.i _) (fti_cons (entROk.i _) (fti_cons (stepPOk (by decide)) (fti_cons (stepROk (by decide)) fti_nil))))))))))))
set_option maxRecDepth 100000 in
set_option maxHeartbeats 16000000 in
theorem entries_sx (cap0 cap1 cap2:Nat) (l more l2:List Int) (w0 w1 w2 w3 tick:Int) (hm0:l.length≤maxLen) (hm1:more.length≤maxLen) (hm2:l2.length≤maxLen) :
  sx tt meF meD (bodyOf Tryz.f9) (argF 0 [slc 0 l.length cap0,slc 1 more.length cap1,.agg #[.int .i64 w0,.int .i64 w1,.int .i64 w2,.int .i64 w3],slc 2 l2.length cap2,.int .i64 tick]) (uniM { l0:=l,l1:=more,c:={ noC with zones:=l2 } }) 13 (endx tt Tryz.f9.results.toList fun v _ _=>v=.bool true):=by
 refine⟨rfl,?_⟩
 refine⟨fun q=>absurd q (by simp),fun _=>?_⟩
 refine⟨0,cap0,l,rfl,rfl,hm0,?_⟩
 refine⟨fun h=>?_,fun h0=>?_⟩
 ·repeat (first | refine⟨fun _=>?_,fun h=>Bool.noConfusion h⟩ | refine⟨fun h=>Bool.noConfusion h,fun _=>?_⟩ | fail)
  rfl
 ·refine⟨1,cap1,more,rfl,rfl,hm1,?_⟩
  refine⟨fun h=>?_,fun h1=>?_⟩
  ·repeat (first | refine⟨fun _=>?_,fun h=>Bool.noConfusion h⟩ | refine⟨fun h=>Bool.noConfusion h,fun _=>?_⟩ | fail)
   rfl
  ·refine⟨fun h=>?_,fun h2=>?_⟩
   ·rfl
   ·have hl0:l.length≤200:=by simpa using h0
    have hl1:more.length≤200:=by simpa using h1
    have hl2:l2.length≤150:=by have q:(l2.length:Int)≤150:=(by simpa using h2);omega
    clear h0 h1 h2 hm0 hm1 hm2
    refine⟨0,cap0,l,rfl,rfl,by omega,?_⟩
    intro xk c hM
    have hV:=cfgV_of hM.valid
    have hnt:=hV.nt
    have hnc:=hV.nc
    refine⟨⟨19,18,17,16,15,14,500000⟩,xk,c,1,cap1,more,40,rfl,⟨kp_,⟨_,_,_,rfl,Nat.le_refl _,fun k hk=>rfl⟩⟩,⟨hV,by omega,by decide⟩,?_⟩
    intro es s y hR hen
    have hJ:=hR.rinv hV (.new hV)
    have hI:=hJ.inv
    have htn:=hI.lt
    have hcn:=hI.lc
    clear hR hen es
    refine⟨Int,fun i=>[(13,.int .i64 i)],fun _=>[],fun i=>-1≤i∧i≤c.tenants.length,fun i=>((c.tenants.length:Int)-i).toNat,⟨-1,by omega,kp_,kp_⟩,?_⟩
    rintro i hi
    refine⟨⟨rfl,rfl⟩,?_⟩
    refine⟨fun hlt=>?_,fun hge=>?_⟩
    ·have hlt2:i<(c.tenants.length:Int):=of_decide_eq_true hlt
     refine⟨Int×Int×Int,fun q=>match q with | (fm,dst,ep)=>[(14,.int .i64 fm),(15,.int .i64 dst),(16,.int .i64 ep)],fun _=>[],fun _=>True,?_,?_⟩
     ·refine⟨fun hi0=>?_,fun hi0=>?_⟩
      ·have hi0b:i≥0:=of_decide_eq_true hi0
       refine⟨⟨rfl,by decide⟩,?_⟩
       refine⟨fun _=>?_,fun _=>?_⟩
       ·refine⟨⟨Nat.le_refl _,by omega,by omega⟩,?_⟩
        refine⟨fun _=>?_,fun _=>?_⟩
        ·refine⟨_,(c.cells.length:Int),rfl,⟨by omega,by omega⟩,fun d0 _ _=>?_⟩
         exact⟨(_,_,_),trivial,kp_,kp_⟩
        ·exact⟨(_,_,_),trivial,kp_,kp_⟩
       ·exact⟨(_,_,_),trivial,kp_,kp_⟩
      ·refine⟨fun h=>Bool.noConfusion h,fun _=>?_⟩
       exact⟨(_,_,_),trivial,kp_,kp_⟩
     ·rintro⟨fm,dst,ep⟩ -
      refine⟨⟨by decide,rfl,rfl⟩,?_⟩
      refine⟨Nat×Nat×(Nat→List Value),fun q=>match q with | (n,cap,el)=>[(102,slc 27 n cap),(103,.int .i64 n),(104,.int .i64 0)],fun q=>match q with | (n,cap,el)=>[(27,.row (1000000+71) 2 cap el)],fun q=>match q with | (n,cap,el)=>n≤cap∧(1≤n∧n≤61)∧∀ j,j<n→∃ a b:Int,el j=[.int .i64 a,.int .i64 b],?_,?_⟩
      ·refine⟨2,cap2,l2,rfl,rfl,by omega,?_⟩
       refine⟨Int×Nat×Option (Nat×(Nat→List Value)),fun q=>match q with | (k,n,none)=>[(4,zs0)] | (k,n,some (cap,el))=>[(4,slc 27 n cap)],fun q=>match q with | (k,n,none)=>[(26,tapeM 2 l2.length cap2 k)] | (k,n,some (cap,el))=>[(26,tapeM 2 l2.length cap2 k),(27,.row (1000000+71) 2 cap el)],fun q=>match q with | (k,n,o)=>(0≤k∧k≤10 * (n:Int))∧n≤60∧match o with | none=>n=0 | some (cap,el)=>n≤cap∧∀ j,j<n→∃ a b:Int,el j=[.int .i64 a,.int .i64 b],fun q=>match q with | (k,n,o)=>60-n,⟨(0,0,none),[],⟨by omega,by omega,rfl⟩,⟨rfl,rfl⟩,kp_,kp_⟩,?_⟩
       rintro⟨k,n,(_ | ⟨cap,el⟩)⟩ ⟨hk,hn,ho⟩
       ·refine⟨⟨by decide,rfl,rfl⟩,?_⟩
        obtain rfl:n=0:=ho
        refine⟨26,2,cap2,l2,_,[],rfl,⟨rfl,rfl⟩,⟨by omega,by omega,by omega⟩,rfl,?_⟩
        rintro _ k1 ⟨b1,rfl,rfl,hb1⟩
        refine⟨fun hb=>?_,fun hb=>?_⟩
        ·refine⟨fun h60=>?_,fun h60=>?_⟩
         ·have h60b:((0:Nat):Int)<60:=of_decide_eq_true h60
          refine⟨26,2,cap2,l2,_,_,rfl,⟨rfl,rfl⟩,⟨by omega,by omega,by omega⟩,⟨_,_,rfl,by omega,by omega,by omega⟩,?_⟩
          rintro _ k2 ⟨_,_,r2,hnn,rfl,hr2,hk2⟩
          cases hnn
          refine⟨26,2,cap2,l2,_,_,rfl,⟨rfl,rfl⟩,⟨by omega,by omega,by omega⟩,⟨_,rfl,by omega,by omega⟩,?_⟩
          rintro _ k3 ⟨_,r3,hnn,rfl,⟨hr3,hk3⟩⟩
          cases hnn
          refine⟨Int×Int×Int,fun _=>[],fun q=>match q with | (a,b,k)=>[(26,tapeM 2 l2.length cap2 k),(28,.box 71 [.int .i64 a,.int .i64 b])],fun q=>match q with | (a,b,k)=>0≤k∧k≤10 * ((0:Nat):Int)+6,?_,?_⟩
          ·refine⟨26,2,cap2,l2,_,_,rfl,⟨rfl,rfl⟩,⟨by omega,by omega,by omega⟩,⟨_,rfl,by omega,by omega⟩,?_⟩
           rintro _ k4 ⟨_,r4,hnn,rfl,⟨hr4,hk4⟩⟩
           cases hnn
           refine⟨fun _=>?_,fun _=>?_⟩
           ·refine⟨fun _=>?_,fun _=>?_⟩
            ·refine⟨26,2,cap2,l2,_,_,rfl,⟨rfl,rfl⟩,⟨by omega,by omega,by omega⟩,⟨_,_,rfl,by omega,by omega,by omega⟩,?_⟩
             rintro _ k5 ⟨_,_,r5,hnn,rfl,hr5,hk5⟩
             cases hnn
             refine⟨(_,_,_),?_,kp_,kp_⟩
             dsimp only
             omega
            ·refine⟨(_,_,_),?_,kp_,kp_⟩
             dsimp only
             omega
           ·refine⟨fun _=>?_,fun _=>?_⟩
            ·refine⟨26,2,cap2,l2,_,_,rfl,⟨rfl,rfl⟩,⟨by omega,by omega,by omega⟩,⟨_,_,rfl,by omega,by omega,by omega⟩,?_⟩
             rintro _ k5 ⟨_,_,r5,hnn,rfl,hr5,hk5⟩
             cases hnn
             refine⟨(_,_,_),?_,kp_,kp_⟩
             dsimp only
             omega
            ·refine⟨(_,_,_),?_,kp_,kp_⟩
             dsimp only
             omega
          ·rintro⟨a,b,k⟩ hkc
           dsimp only at hkc
           refine⟨⟨by decide,rfl,rfl⟩,?_⟩
           refine⟨Int×Int×Int,fun _=>[],fun q=>match q with | (a,b,k)=>[(26,tapeM 2 l2.length cap2 k),(28,.box 71 [.int .i64 a,.int .i64 b])],fun q=>match q with | (a,b,k)=>0≤k∧k≤10 * ((0:Nat):Int)+8,?_,?_⟩
           ·refine⟨26,2,cap2,l2,_,_,rfl,⟨rfl,rfl⟩,⟨by omega,by omega,by omega⟩,⟨_,rfl,by omega,by omega⟩,?_⟩
            rintro _ k6 ⟨_,r6,hnn,rfl,⟨hr6,hk6⟩⟩
            cases hnn
            refine⟨fun _=>?_,fun _=>?_⟩
            ·refine⟨(_,_,_),?_,kp_,kp_⟩
             dsimp only
             omega
            ·refine⟨(_,_,_),?_,kp_,kp_⟩
             dsimp only
             omega
           ·rintro⟨a,b,k⟩ hkc
            dsimp only at hkc
            refine⟨⟨by decide,rfl,rfl⟩,?_⟩
            refine⟨⟨Nat.le_refl _,fun j hj=>by match j,hj with | 0,_=>rfl⟩,?_⟩
            refine⟨fun h=>absurd h (by decide),fun _=>⟨by decide,fun capq elq hcq g2q=>?_⟩⟩
            refine⟨(_,0+1,some (capq,elq)),[(27,30)],?_,⟨rfl,rfl⟩,kp_,kp_⟩
            dsimp only
            refine⟨⟨⟨by omega,by omega⟩,by omega,hcq,fun j hj=>?_⟩,by omega⟩
            obtain rfl:j=0:=by omega
            exact⟨_,_,g2q 0 (by omega)⟩
         ·refine⟨⟨Nat.le_refl _,fun j hj=>by match j,hj with | 0,_=>rfl⟩,?_⟩
          refine⟨fun h=>absurd h (by decide),fun _=>⟨by decide,fun capz elz hcz g2z=>?_⟩⟩
          refine⟨(0+1,capz,elz),[(27,29)],⟨hcz,by omega,fun j hj=>?_⟩,⟨rfl,rfl⟩,kp_,kp_⟩
          obtain rfl:j=0:=by omega
          exact⟨_,_,g2z 0 (by omega)⟩
        ·refine⟨fun h=>Bool.noConfusion h,fun _=>?_⟩
         refine⟨⟨Nat.le_refl _,fun j hj=>by match j,hj with | 0,_=>rfl⟩,?_⟩
         refine⟨fun h=>absurd h (by decide),fun _=>⟨by decide,fun capz elz hcz g2z=>?_⟩⟩
         refine⟨(0+1,capz,elz),[(27,29)],⟨hcz,by omega,fun j hj=>?_⟩,⟨rfl,rfl⟩,kp_,kp_⟩
         obtain rfl:j=0:=by omega
         exact⟨_,_,g2z 0 (by omega)⟩
       ·refine⟨⟨by decide,rfl,rfl⟩,?_⟩
        refine⟨26,2,cap2,l2,_,[],rfl,⟨rfl,rfl⟩,⟨by omega,by omega,by omega⟩,rfl,?_⟩
        rintro _ k1 ⟨b1,rfl,rfl,hb1⟩
        refine⟨fun hb=>?_,fun hb=>?_⟩
        ·refine⟨fun h60=>?_,fun h60=>?_⟩
         ·have h60b:(n:Int)<60:=of_decide_eq_true h60
          refine⟨26,2,cap2,l2,_,_,rfl,⟨rfl,rfl⟩,⟨by omega,by omega,by omega⟩,⟨_,_,rfl,by omega,by omega,by omega⟩,?_⟩
          rintro _ k2 ⟨_,_,r2,hnn,rfl,hr2,hk2⟩
          cases hnn
          refine⟨26,2,cap2,l2,_,_,rfl,⟨rfl,rfl⟩,⟨by omega,by omega,by omega⟩,⟨_,rfl,by omega,by omega⟩,?_⟩
          rintro _ k3 ⟨_,r3,hnn,rfl,⟨hr3,hk3⟩⟩
          cases hnn
          refine⟨Int×Int×Int,fun _=>[],fun q=>match q with | (a,b,k)=>[(26,tapeM 2 l2.length cap2 k),(28,.box 71 [.int .i64 a,.int .i64 b])],fun q=>match q with | (a,b,k)=>0≤k∧k≤10 * (n:Int)+6,?_,?_⟩
          ·refine⟨26,2,cap2,l2,_,_,rfl,⟨rfl,rfl⟩,⟨by omega,by omega,by omega⟩,⟨_,rfl,by omega,by omega⟩,?_⟩
           rintro _ k4 ⟨_,r4,hnn,rfl,⟨hr4,hk4⟩⟩
           cases hnn
           refine⟨fun _=>?_,fun _=>?_⟩
           ·refine⟨fun _=>?_,fun _=>?_⟩
            ·refine⟨26,2,cap2,l2,_,_,rfl,⟨rfl,rfl⟩,⟨by omega,by omega,by omega⟩,⟨_,_,rfl,by omega,by omega,by omega⟩,?_⟩
             rintro _ k5 ⟨_,_,r5,hnn,rfl,hr5,hk5⟩
             cases hnn
             refine⟨(_,_,_),?_,kp_,kp_⟩
             dsimp only
             omega
            ·refine⟨(_,_,_),?_,kp_,kp_⟩
             dsimp only
             omega
           ·refine⟨fun _=>?_,fun _=>?_⟩
            ·refine⟨26,2,cap2,l2,_,_,rfl,⟨rfl,rfl⟩,⟨by omega,by omega,by omega⟩,⟨_,_,rfl,by omega,by omega,by omega⟩,?_⟩
             rintro _ k5 ⟨_,_,r5,hnn,rfl,hr5,hk5⟩
             cases hnn
             refine⟨(_,_,_),?_,kp_,kp_⟩
             dsimp only
             omega
            ·refine⟨(_,_,_),?_,kp_,kp_⟩
             dsimp only
             omega
          ·rintro⟨a,b,k⟩ hkc
           dsimp only at hkc
           refine⟨⟨by decide,rfl,rfl⟩,?_⟩
           refine⟨Int×Int×Int,fun _=>[],fun q=>match q with | (a,b,k)=>[(26,tapeM 2 l2.length cap2 k),(28,.box 71 [.int .i64 a,.int .i64 b])],fun q=>match q with | (a,b,k)=>0≤k∧k≤10 * (n:Int)+8,?_,?_⟩
           ·refine⟨26,2,cap2,l2,_,_,rfl,⟨rfl,rfl⟩,⟨by omega,by omega,by omega⟩,⟨_,rfl,by omega,by omega⟩,?_⟩
            rintro _ k6 ⟨_,r6,hnn,rfl,⟨hr6,hk6⟩⟩
            cases hnn
            refine⟨fun _=>?_,fun _=>?_⟩
            ·refine⟨(_,_,_),?_,kp_,kp_⟩
             dsimp only
             omega
            ·refine⟨(_,_,_),?_,kp_,kp_⟩
             dsimp only
             omega
           ·rintro⟨a,b,k⟩ hkc
            dsimp only at hkc
            refine⟨⟨by decide,rfl,rfl⟩,?_⟩
            refine⟨⟨Nat.le_refl _,fun j hj=>by match j,hj with | 0,_=>rfl⟩,?_⟩
            refine⟨⟨rfl,ho.1⟩,fun hinq elq g1q g2q=>?_,fun hgtq=>⟨by show (n+1) * 16≤140737488355328;omega,fun capq elq hcq g1q g2q=>?_⟩⟩
            ·refine⟨(_,n+1,some (cap,elq)),[],?_,⟨rfl,rfl⟩,kp_,kp_⟩
             dsimp only
             refine⟨⟨⟨by omega,by omega⟩,by omega,by omega,fun j hj=>?_⟩,by omega⟩
             by_cases hjn:j<n
             ·rw[g1q j hjn]
              exact ho.2 j hjn
             ·obtain rfl:j=n:=by omega
              exact⟨_,_,g2q 0 (by omega)⟩
            ·refine⟨(_,n+1,some (capq,elq)),[(27,30)],?_,⟨rfl,rfl⟩,kp_,kp_⟩
             dsimp only
             refine⟨⟨⟨by omega,by omega⟩,by omega,hcq,fun j hj=>?_⟩,by omega⟩
             by_cases hjn:j<n
             ·rw[g1q j hjn]
              exact ho.2 j hjn
             ·obtain rfl:j=n:=by omega
              exact⟨_,_,g2q 0 (by omega)⟩
         ·refine⟨⟨Nat.le_refl _,fun j hj=>by match j,hj with | 0,_=>rfl⟩,?_⟩
          refine⟨⟨rfl,ho.1⟩,fun hinz elz g1z g2z=>?_,fun hgtz=>⟨by show (n+1) * 16≤140737488355328;omega,fun capz elz hcz g1z g2z=>?_⟩⟩
          ·refine⟨(n+1,cap,elz),[],⟨by omega,by omega,fun j hj=>?_⟩,⟨rfl,rfl⟩,kp_,kp_⟩
           by_cases hjn:j<n
           ·rw[g1z j hjn]
            exact ho.2 j hjn
           ·obtain rfl:j=n:=by omega
            exact⟨_,_,g2z 0 (by omega)⟩
          ·refine⟨(n+1,capz,elz),[(27,29)],⟨hcz,by omega,fun j hj=>?_⟩,⟨rfl,rfl⟩,kp_,kp_⟩
           by_cases hjn:j<n
           ·rw[g1z j hjn]
            exact ho.2 j hjn
           ·obtain rfl:j=n:=by omega
            exact⟨_,_,g2z 0 (by omega)⟩
        ·refine⟨fun h=>Bool.noConfusion h,fun _=>?_⟩
         refine⟨⟨Nat.le_refl _,fun j hj=>by match j,hj with | 0,_=>rfl⟩,?_⟩
         refine⟨⟨rfl,ho.1⟩,fun hinz elz g1z g2z=>?_,fun hgtz=>⟨by show (n+1) * 16≤140737488355328;omega,fun capz elz hcz g1z g2z=>?_⟩⟩
         ·refine⟨(n+1,cap,elz),[],⟨by omega,by omega,fun j hj=>?_⟩,⟨rfl,rfl⟩,kp_,kp_⟩
          by_cases hjn:j<n
          ·rw[g1z j hjn]
           exact ho.2 j hjn
          ·obtain rfl:j=n:=by omega
           exact⟨_,_,g2z 0 (by omega)⟩
         ·refine⟨(n+1,capz,elz),[(27,29)],⟨hcz,by omega,fun j hj=>?_⟩,⟨rfl,rfl⟩,kp_,kp_⟩
          by_cases hjn:j<n
          ·rw[g1z j hjn]
           exact ho.2 j hjn
          ·obtain rfl:j=n:=by omega
           exact⟨_,_,g2z 0 (by omega)⟩
      ·rintro⟨n,cap,el⟩ ⟨hnc2,hn,hel⟩
       refine⟨⟨by decide,rfl,rfl⟩,?_⟩
       refine⟨Int×Int×Bool×Int,fun q=>match q with | (j,p,cl,ea)=>[(104,.int .i64 j)],fun q=>match q with | (j,p,cl,ea)=>[(24,migB i fm dst ep p cl ea),(25,rmigB i fm dst ep p cl ea)],fun q=>match q with | (j,p,cl,ea)=>0≤j∧j≤n,fun q=>match q with | (j,p,cl,ea)=>((n:Int)-j).toNat,⟨(0,1,false,0),⟨by omega,by omega⟩,kp_,kp_⟩,?_⟩
       rintro⟨j,p,cl,ea⟩ hj
       dsimp only at hj
       refine⟨⟨rfl,rfl⟩,?_⟩
       refine⟨fun hlj=>?_,fun hgj=>?_⟩
       ·have hlj2:j<(n:Int):=of_decide_eq_true hlj
        refine⟨⟨by omega,hj.1,hlj2⟩,?_⟩
        obtain⟨e1,e2,he⟩:=hel j.toNat (by omega)
        conv=>whnf
        rw[vx_load_row (v:=.agg #[.int .i64 e1,.int .i64 e2]) he ?hx ?ht ?hm ?hv]
        case hx=>rfl
        case ht=>rfl
        case hm=>rfl
        case hv=>rfl
        refine⟨_,30,rfl,by decide,fun t30 t300 t301=>?_⟩
        refine⟨kp_,?_⟩
        refine⟨kp_,?_⟩
        refine⟨Int,fun k=>[(118,.int .i64 k)],fun _=>[],fun k=>0≤k∧k≤3,fun k=>(3-k).toNat,⟨0,by omega,kp_,kp_⟩,?_⟩
        rintro k hk
        refine⟨⟨rfl,rfl⟩,?_⟩
        refine⟨fun hlk=>?_,fun hgk=>?_⟩
        ·have hlk2:k<3:=of_decide_eq_true hlk
         refine⟨⟨Nat.le_refl _,hk.1,hlk2⟩,?_⟩
         obtain rfl | rfl | rfl:k=0∨k=1∨k=2:=by omega
         all_goals (
          refine⟨24,_,⟨i,fm,dst,ep,p,cl,ea⟩,⟨19,18,17,16,15,14,500000⟩,xk,c,⟨22,21,500000⟩,y,s,_,rfl,⟨rfl,kp_,.list rfl,.list rfl⟩,⟨hV,hI,hJ.cap⟩,?_⟩
          refine⟨25,_,⟨i,fm,dst,ep,p,cl,ea⟩,⟨19,18,17,16,15,14,500000⟩,xk,c,⟨22,21,500000⟩,y,s,_,rfl,⟨rfl,kp_,.list rfl,.list rfl⟩,⟨hV,hI,hJ.cap⟩,?_⟩
          refine⟨fun q=>absurd q (by simp[eqCs,eqC1]),fun _=>?_⟩
          refine⟨fun q=>absurd q (by simp),fun _=>?_⟩
          refine⟨_,?_,kp_,kp_⟩
          dsimp only
          refine⟨by decide,by decide⟩
          )
        ·refine⟨24,e1,e2,p,_,_,rfl,rfl,rfl,?_⟩
         by_cases h0:afterM p e1 e2=0
         ·rw[h0]
          repeat (first | refine⟨fun _=>?_,fun h=>Bool.noConfusion h⟩ | refine⟨fun h=>Bool.noConfusion h,fun _=>?_⟩ | fail)
          refine⟨p,_,e2,rfl,?_⟩
          rw[h0]
          repeat (first | refine⟨fun _=>?_,fun h=>Bool.noConfusion h⟩ | refine⟨fun h=>Bool.noConfusion h,fun _=>?_⟩ | fail)
          refine⟨(_,p,cl,ea),?_,kp_,kp_⟩
          dsimp only
          rw[wrapi (n:=j+1) (by omega)]
          exact⟨⟨by omega,by omega⟩,by omega⟩
         ·refine⟨fun q=>absurd q (by simpa using h0),fun _=>?_⟩
          rcases (show e1=2∨e1=3∨(e1≠2∧e1≠3) by omega) with rfl | rfl | h23
          ·repeat (first | refine⟨fun _=>?_,fun h=>Bool.noConfusion h⟩ | refine⟨fun h=>Bool.noConfusion h,fun _=>?_⟩ | fail)
           refine⟨p,_,e2,rfl,?_⟩
           refine⟨fun q=>absurd q (by simpa using h0),fun _=>?_⟩
           repeat (first | refine⟨fun _=>?_,fun h=>Bool.noConfusion h⟩ | refine⟨fun h=>Bool.noConfusion h,fun _=>?_⟩ | fail)
           refine⟨(_,(afterM p 2 e2),true,ea),?_,kp_,kp_⟩
           dsimp only
           rw[wrapi (n:=j+1) (by omega)]
           exact⟨⟨by omega,by omega⟩,by omega⟩
          ·repeat (first | refine⟨fun _=>?_,fun h=>Bool.noConfusion h⟩ | refine⟨fun h=>Bool.noConfusion h,fun _=>?_⟩ | fail)
           refine⟨p,_,e2,rfl,?_⟩
           refine⟨fun q=>absurd q (by simpa using h0),fun _=>?_⟩
           repeat (first | refine⟨fun _=>?_,fun h=>Bool.noConfusion h⟩ | refine⟨fun h=>Bool.noConfusion h,fun _=>?_⟩ | fail)
           refine⟨(_,(afterM p 3 e2),cl,(IntKind.i64.wrap (e2+1))),?_,kp_,kp_⟩
           dsimp only
           rw[wrapi (n:=j+1) (by omega)]
           exact⟨⟨by omega,by omega⟩,by omega⟩
          ·refine⟨fun q=>absurd q (by simp;omega),fun _=>?_⟩
           refine⟨fun q=>absurd q (by simp;omega),fun _=>?_⟩
           refine⟨p,_,e2,rfl,?_⟩
           refine⟨fun q=>absurd q (by simpa using h0),fun _=>?_⟩
           refine⟨fun q=>absurd q (by simp;omega),fun _=>?_⟩
           refine⟨fun q=>absurd q (by simp;omega),fun _=>?_⟩
           refine⟨(_,(afterM p e1 e2),cl,ea),?_,kp_,kp_⟩
           dsimp only
           rw[wrapi (n:=j+1) (by omega)]
           exact⟨⟨by omega,by omega⟩,by omega⟩
       ·refine⟨_,?_,kp_,kp_⟩
        rw[wrapi (n:=i+1) (by omega)]
        dsimp only
        exact⟨by omega,by omega⟩
    ·rfl
theorem migrateEntries_law (a0:Option Addr) (cap0:Nat) (z0:List Int) (a1:Option Addr) (cap1:Nat) (z1:List Int) (who:Int×Int×Int×Int) (a3:Option Addr) (cap3:Nat) (z3:List Int) (tick:Int) (W:World) (hr0:Rd W (·<W.heap.size) a0 (z0.map (Value.int .i64))) (hm0:z0.length≤maxLen) (hr1:Rd W (·<W.heap.size) a1 (z1.map (Value.int .i64))) (hm1:z1.length≤maxLen) {Q:Prop} (_hq:Q) (hr3:Rd W (·<W.heap.size) a3 (z3.map (Value.int .i64))) (hm3:z3.length≤maxLen) {Q2:Prop} (_hq2:Q2) :
  Calls Tryz.prog 9 #[.slice a0 z0.length cap0,.slice a1 z1.length cap1,.agg #[.int .i64 who.1,.int .i64 who.2.1,.int .i64 who.2.2.1,.int .i64 who.2.2.2],.slice a3 z3.length cap3,.int .i64 tick] W fun e w'=>e=.returned (.bool true)∧Below W.heap.size W w':=by
 rw[← flat_ints] at hr0 hr1 hr3
 have h:=uni_calls ttOk meFok Tryz.func9 rfl (D:=meD) (codeF_ok _ (by kernel_rfl)) (vs:=[slc 0 z0.length cap0,slc 1 z1.length cap1,.agg #[.int .i64 who.1,.int .i64 who.2.1,.int .i64 who.2.2.1,.int .i64 who.2.2.2],slc 2 z3.length cap3,.int .i64 tick]) rfl { a0:=a0,a1:=a1,x:={ noX with az:=a3 } } { l0:=z0,l1:=z1,c:={ noC with zones:=z3 } } W { r0:=hr0,r1:=hr1,c:={ noC_ok W (·<W.heap.size) with zones:=hr3 } } (fun v hv=>by
  simp only[List.mem_cons,List.not_mem_nil,or_false] at hv
  rcases hv with rfl | rfl | rfl | rfl | rfl
  ·exact⟨show (0:Nat)<13 by decide,rfl⟩
  ·exact⟨show (1:Nat)<13 by decide,rfl⟩
  ·intro u hu
   simp at hu
   rcases hu with rfl | rfl | rfl | rfl<;>trivial
  ·exact⟨show (2:Nat)<13 by decide,rfl⟩
  ·trivial) (entries_sx cap0 cap1 cap3 z0 z1 z3 who.1 who.2.1 who.2.2.1 who.2.2.2 tick hm0 hm1 hm3)
 have e0:∀ ρ:Nat→Pl,den ρ (.agg #[.int .i64 who.1,.int .i64 who.2.1,.int .i64 who.2.2.1,.int .i64 who.2.2.2])=.agg #[.int .i64 who.1,.int .i64 who.2.1,.int .i64 who.2.2.1,.int .i64 who.2.2.2]:=fun ρ=>by simp[den,den2,den1]
 rw[List.map_cons,List.map_cons,List.map_cons,e0] at h
 refine h.mono ?_
 rintro e w' ⟨v,mem',nx',ρ',rfl,rfl,hv,hm',hb⟩
 exact⟨rfl,hb⟩
end Go.Proofs.YtnnpgbleacapfaaGreat
