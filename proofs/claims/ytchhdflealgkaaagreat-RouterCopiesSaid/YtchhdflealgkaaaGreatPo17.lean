import Derived.Test.YtchhdflealgkaaaGreatPo16
import Derived.Laws.Bits64
namespace Go.Proofs.YtchhdflealgkaaaGreat
open Go.RowKit
set_option linter.unusedSimpArgs false
set_option linter.unusedVariables false
/-! ref12.Apply: the functions that are walked inside. -/
theorem ov_yes {c:Cfg} {s:St} (h:decide (((overN c s c.cells.length:Nat):Int)>0)=true):overB c s=true:=by
 rw[← overN_pos]
 have:=of_decide_eq_true h
 exact decide_eq_true (by omega)
theorem ov_no {c:Cfg} {s:St} (h:decide (((overN c s c.cells.length:Nat):Int)>0)=false):overB c s=false:=by
 rw[← overN_pos]
 have:=of_decide_eq_false h
 exact decide_eq_false (by omega)
def placeF:FT:=[(134,ctNo),(174,ctFrozenR),(175,ctMay),(176,ctTogether),(177,ctFit)]
def placeD:List (Nat×DQ):=[(9000000,{ k:=0,L:=[177] }),(11,{ k:=13,L:=[18],pre:=[(0,false),(1,false),(2,false),(3,false),(4,false),(5,false),(6,false),(7,false),(8,false),(9,true),(10,false),(11,false),(12,true)] })]
theorem placeFok:FTokI Tryz.prog placeF (inlOf placeD):=fti_cons (noOk.i _) (fti_cons (frozenROk.i _) (fti_cons (mayOk.i _) (fti_cons (togetherOk.i _) (fti_cons (fitOk (by decide)) fti_nil))))
abbrev ctPlaceI:CT:=ctInl ttU placeF placeD Tryz.f136 (bodyOf Tryz.f136)
theorem placeIOk {I:List Nat} (hI:I.contains 136=true):CSoundI Tryz.prog I 136 ctPlaceI:=inl_ok ttUok placeFok mixed (by kernel_rfl) Tryz.func136 rfl (by kernel_rfl) hI
def grantF:FT:=[(134,ctNo),(178,ctGrantedR),(177,ctFit)]
def grantD:List (Nat×DQ):=[(9000000,{ k:=0,L:=[177] }),(2,{ k:=17,L:=LA,pre:=[(0,false),(1,false),(2,false),(3,false),(4,false),(5,false),(6,false),(7,false),(8,false),(9,false),(10,false),(11,false),(12,false),(13,false),(14,false),(15,false),(16,false)] }),(4,{ k:=23,L:=LA,pre:=[(0,false),(1,false),(2,false),(3,false),(4,false),(5,false),(6,false),(7,false),(8,false),(9,false),(10,false),(11,false),(12,false),(13,false),(14,false),(15,false),(16,false),(17,false),(18,false),(19,false),(20,false),(21,false),(22,false)] }),(5000003,{ k:=40,L:=LA,sl:=[3,4,5,6,7,8] }),(5000005,{ k:=40,L:=LA,sl:=[3,4,5,6,7,8] })]
theorem grantFok:FTokI Tryz.prog grantF (inlOf grantD):=fti_cons (noOk.i _) (fti_cons (grantedROk.i _) (fti_cons (fitOk (by decide)) fti_nil))
abbrev ctGrantI:CT:=ctInl ttU grantF grantD Tryz.f137 (bodyOf Tryz.f137)
theorem grantIOk {I:List Nat} (hI:I.contains 137=true):CSoundI Tryz.prog I 137 ctGrantI:=inl_ok ttUok grantFok mixed (by kernel_rfl) Tryz.func137 rfl (by kernel_rfl) hI
def cutF:FT:=[(134,ctNo),(179,ctCutW)]
def cutD:List (Nat×DQ):=[(9000000,{ k:=0,L:=[] }),(4,{ k:=6,L:=LA,pre:=[(0,false),(1,false),(2,false),(3,false),(4,false),(5,false)] }),(6,{ k:=8,L:=LA,pre:=[(0,false),(1,false),(2,false),(3,false),(4,false),(5,false),(6,false),(7,true)] })]
theorem cutFok:FTokI Tryz.prog cutF (inlOf cutD):=fti_cons (noOk.i _) (fti_cons (cutWOk.i _) fti_nil)
abbrev ctCutI:CT:=ctInl ttU cutF cutD Tryz.f138 (bodyOf Tryz.f138)
theorem cutIOk {I:List Nat} (hI:I.contains 138=true):CSoundI Tryz.prog I 138 ctCutI:=inl_ok ttUok cutFok mixed (by kernel_rfl) Tryz.func138 rfl (by kernel_rfl) hI
def standbyF:FT:=[(134,ctNo),(174,ctFrozenR),(175,ctMay),(176,ctTogether),(177,ctFit)]
def standbyD:List (Nat×DQ):=[(9000000,{ k:=0,L:=[177] }),(5,{ k:=23,L:=LA,pre:=[(0,false),(1,false),(2,false),(3,false),(4,false),(5,false),(6,false),(7,false),(8,false),(9,false),(10,false),(11,false),(12,false),(13,false),(14,false),(15,false),(16,false),(17,false),(18,false),(19,false),(20,false),(21,false),(22,false)] }),(11,{ k:=25,L:=LA,pre:=[(0,false),(1,false),(2,false),(3,false),(4,false),(5,true),(6,false),(7,false),(8,false),(9,false),(10,false),(11,false),(12,false),(13,false),(14,false),(15,true),(16,false),(17,false),(18,false),(19,false),(20,false),(21,false),(22,false),(23,false),(24,false)] }),(5000006,{ k:=40,L:=LA,sl:=[3,4,5,6,7,8] }),(5000012,{ k:=40,L:=LA,sl:=[3,4,5,6,7,8] }),(1000013,{ k:=40,L:=LA,sl:=[3,4,5,6,7,8] })]
theorem standbyFok:FTokI Tryz.prog standbyF (inlOf standbyD):=fti_cons (noOk.i _) (fti_cons (frozenROk.i _) (fti_cons (mayOk.i _) (fti_cons (togetherOk.i _) (fti_cons (fitOk (by decide)) fti_nil))))
abbrev ctStandbyI:CT:=ctInl ttU standbyF standbyD Tryz.f139 (bodyOf Tryz.f139)
theorem standbyIOk {I:List Nat} (hI:I.contains 139=true):CSoundI Tryz.prog I 139 ctStandbyI:=inl_ok ttUok standbyFok mixed (by kernel_rfl) Tryz.func139 rfl (by kernel_rfl) hI
def readyF:FT:=[(134,ctNo)]
def readyD:List (Nat×DQ):=[(9000000,{ k:=0,L:=[] }),(4,{ k:=6,L:=LA,pre:=[(0,false),(1,false),(2,false),(3,false),(4,false),(5,false)] })]
theorem readyFok:FTokI Tryz.prog readyF (inlOf readyD):=fti_cons (noOk.i _) fti_nil
abbrev ctReadyI:CT:=ctInl ttU readyF readyD Tryz.f140 (bodyOf Tryz.f140)
theorem readyIOk {I:List Nat} (hI:I.contains 140=true):CSoundI Tryz.prog I 140 ctReadyI:=inl_ok ttUok readyFok mixed (by kernel_rfl) Tryz.func140 rfl (by kernel_rfl) hI
def migrateF:FT:=[(134,ctNo),(174,ctFrozenR),(175,ctMay),(176,ctTogether),(177,ctFit)]
def migrateD:List (Nat×DQ):=[(9000000,{ k:=0,L:=[177] }),(4,{ k:=23,L:=LA,pre:=[(0,false),(1,false),(2,false),(3,false),(4,false),(5,false),(6,false),(7,false),(8,false),(9,false),(10,false),(11,false),(12,false),(13,false),(14,false),(15,false),(16,false),(17,false),(18,false),(19,false),(20,false),(21,false),(22,false)] }),(10,{ k:=25,L:=LA,pre:=[(0,false),(1,false),(2,false),(3,false),(4,false),(5,true),(6,false),(7,false),(8,false),(9,false),(10,false),(11,false),(12,false),(13,false),(14,false),(15,true),(16,false),(17,false),(18,false),(19,false),(20,false),(21,false),(22,false),(23,false),(24,false)] }),(5000003,{ k:=40,L:=LA,sl:=[3,4,5,6,7,8] }),(5000005,{ k:=40,L:=LA,sl:=[3,4,5,6,7,8] }),(5000011,{ k:=40,L:=LA,sl:=[3,4,5,6,7,8] })]
theorem migrateFok:FTokI Tryz.prog migrateF (inlOf migrateD):=fti_cons (noOk.i _) (fti_cons (frozenROk.i _) (fti_cons (mayOk.i _) (fti_cons (togetherOk.i _) (fti_cons (fitOk (by decide)) fti_nil))))
abbrev ctMigrateI:CT:=ctInl ttU migrateF migrateD Tryz.f141 (bodyOf Tryz.f141)
theorem migrateIOk {I:List Nat} (hI:I.contains 141=true):CSoundI Tryz.prog I 141 ctMigrateI:=inl_ok ttUok migrateFok mixed (by kernel_rfl) Tryz.func141 rfl (by kernel_rfl) hI
def abandonF:FT:=[(134,ctNo)]
def abandonD:List (Nat×DQ):=[(9000000,{ k:=0,L:=[] }),(5000003,{ k:=40,L:=LA,sl:=[2,3,4,5,6] })]
theorem abandonFok:FTokI Tryz.prog abandonF (inlOf abandonD):=fti_cons (noOk.i _) fti_nil
abbrev ctAbandonI:CT:=ctInl ttU abandonF abandonD Tryz.f142 (bodyOf Tryz.f142)
theorem abandonIOk {I:List Nat} (hI:I.contains 142=true):CSoundI Tryz.prog I 142 ctAbandonI:=inl_ok ttUok abandonFok mixed (by kernel_rfl) Tryz.func142 rfl (by kernel_rfl) hI
def shedF:FT:=[(134,ctNo),(177,ctFit)]
def shedD:List (Nat×DQ):=[(9000000,{ k:=0,L:=[177] }),(5,{ k:=7,L:=LA,pre:=[(0,false),(1,false),(2,false),(3,false),(4,false),(5,false),(6,false)] }),(11,{ k:=6,L:=LA,pre:=[(0,false),(1,false),(2,false),(3,false),(4,false),(5,false)] }),(5000004,{ k:=40,L:=LA,sl:=[3,4,5,6,7,8] })]
theorem shedFok:FTokI Tryz.prog shedF (inlOf shedD):=fti_cons (noOk.i _) (fti_cons (fitOk (by decide)) fti_nil)
abbrev ctShedI:CT:=ctInl ttU shedF shedD Tryz.f143 (bodyOf Tryz.f143)
theorem shedIOk {I:List Nat} (hI:I.contains 143=true):CSoundI Tryz.prog I 143 ctShedI:=inl_ok ttUok shedFok mixed (by kernel_rfl) Tryz.func143 rfl (by kernel_rfl) hI
def wantF:FT:=[(134,ctNo),(181,ctProvenR),(180,ctOpenR)]
def wantD:List (Nat×DQ):=[(9000000,{ k:=0,L:=[] }),(9,{ k:=6,L:=LA,pre:=[(0,false),(1,false),(2,false),(3,false),(4,false),(5,false)] }),(13,{ k:=11,L:=LA,pre:=[(0,false),(1,false),(2,false),(3,false),(4,false),(5,false),(6,false),(7,false),(8,false),(9,false),(10,false)] }),(15,{ k:=18,L:=LA,pre:=[(0,false),(1,false),(2,false),(3,false),(4,false),(5,false),(6,false),(7,false),(8,false),(9,false),(10,false),(11,true),(12,false),(13,false),(14,false),(15,false),(16,false),(17,false)] }),(2000005,{ k:=0,L:=LA,sl:=[3,4,5,6,7,8,9] }),(1000006,{ k:=40,L:=LA,sl:=[3,4,5,6,7,8,9,11] }),(5000012,{ k:=40,L:=LA,sl:=[3,4,5,6,7,8,9,10] }),(5000014,{ k:=40,L:=LA,sl:=[3,4,5,6,7,8,9,10] }),(5000016,{ k:=40,L:=LA,sl:=[3,4,5,6,7,8,9,10] })]
theorem wantFok:FTokI Tryz.prog wantF (inlOf wantD):=fti_cons (noOk.i _) (fti_cons (provenROk.i _) (fti_cons (openROk.i _) fti_nil))
abbrev ctWantI:CT:=ctInl ttU wantF wantD Tryz.f144 (bodyOf Tryz.f144)
theorem wantIOk {I:List Nat} (hI:I.contains 144=true):CSoundI Tryz.prog I 144 ctWantI:=inl_ok ttUok wantFok mixed (by kernel_rfl) Tryz.func144 rfl (by kernel_rfl) hI
def runsF:FT:=[(134,ctNo),(181,ctProvenR)]
def runsD:List (Nat×DQ):=[(9000000,{ k:=0,L:=[] }),(2,{ k:=16,L:=LA,pre:=[(0,false),(1,false),(2,false),(3,false),(4,false),(5,false),(6,false),(7,false),(8,false),(9,false),(10,false),(11,false),(12,false),(13,false),(14,false),(15,false)] }),(12,{ k:=9,L:=[17],pre:=[(0,false),(1,false),(2,false),(3,false),(4,false),(5,false),(6,false),(7,false),(8,true)] }),(5000003,{ k:=40,L:=LA,sl:=[2,3,4,5,6] }),(5000005,{ k:=40,L:=LA,sl:=[2,3,4,5,6] }),(2000007,{ k:=0,L:=LA,sl:=[2,3,4,5,6] }),(5000011,{ k:=50,L:=LA,sl:=[2,3,4,5,6,7] })]
theorem runsFok:FTokI Tryz.prog runsF (inlOf runsD):=fti_cons (noOk.i _) (fti_cons (provenROk.i _) fti_nil)
abbrev ctRunsI:CT:=ctInl ttU runsF runsD Tryz.f145 (bodyOf Tryz.f145)
theorem runsIOk {I:List Nat} (hI:I.contains 145=true):CSoundI Tryz.prog I 145 ctRunsI:=inl_ok ttUok runsFok mixed (by kernel_rfl) Tryz.func145 rfl (by kernel_rfl) hI
def proveF:FT:=[(134,ctNo),(181,ctProvenR)]
def proveD:List (Nat×DQ):=[(9000000,{ k:=0,L:=[] }),(2000004,{ k:=0,L:=LA,sl:=[3,4,5,6,7] }),(5000008,{ k:=40,L:=LA,sl:=[3,4,5,6,7,8] })]
theorem proveFok:FTokI Tryz.prog proveF (inlOf proveD):=fti_cons (noOk.i _) (fti_cons (provenROk.i _) fti_nil)
abbrev ctProveI:CT:=ctInl ttU proveF proveD Tryz.f146 (bodyOf Tryz.f146)
theorem proveIOk {I:List Nat} (hI:I.contains 146=true):CSoundI Tryz.prog I 146 ctProveI:=inl_ok ttUok proveFok mixed (by kernel_rfl) Tryz.func146 rfl (by kernel_rfl) hI
def expandF:FT:=[(134,ctNo)]
def expandD:List (Nat×DQ):=[(9000000,{ k:=0,L:=[] }),(9,{ k:=20,L:=LA,pre:=[(0,false),(1,false),(2,false),(3,false),(4,false),(5,false),(6,false),(7,false),(8,false),(9,false),(10,false),(11,false),(12,false),(13,false),(14,false),(15,false),(16,false),(17,false),(18,false),(19,false)] }),(2000006,{ k:=0,L:=LA,sl:=[2,3,4,5] }),(5000010,{ k:=40,L:=LA,sl:=[2,3,4,5,6] })]
theorem expandFok:FTokI Tryz.prog expandF (inlOf expandD):=fti_cons (noOk.i _) fti_nil
abbrev ctExpandI:CT:=ctInl ttU expandF expandD Tryz.f148 (bodyOf Tryz.f148)
theorem expandIOk {I:List Nat} (hI:I.contains 148=true):CSoundI Tryz.prog I 148 ctExpandI:=inl_ok ttUok expandFok mixed (by kernel_rfl) Tryz.func148 rfl (by kernel_rfl) hI
def arF:FT:=[(133,ctValid6),(134,ctNo),(135,ctCopied),(147,ctHas),(136,ctPlaceI),(137,ctGrantI),(138,ctCutI),(139,ctStandbyI),(140,ctReadyI),(141,ctMigrateI),(142,ctAbandonI),(143,ctShedI),(144,ctWantI),(145,ctRunsI),(146,ctProveI),(148,ctExpandI)]
def arD:List (Nat×DQ):=[(9000000,{ k:=0,L:=[136,137,138,139,140,141,142,143,144,145,146,148] }),(27,{ k:=9,L:=[11,12,14],pre:=[(0,false),(1,false),(2,false),(3,false),(4,false),(5,false),(6,false),(7,false),(8,false)] }),(29,{ k:=15,L:=[11,12],pre:=[(0,false),(1,false),(2,false),(3,false),(4,false),(5,false),(6,false),(7,false),(8,false),(9,false),(10,false),(11,false),(12,true),(13,false),(14,true)] }),(37,{ k:=8,L:=[11,12],pre:=[(0,false),(1,false),(2,false),(3,false),(5,false),(6,false),(7,false),(4,true)] })]
theorem arFok:FTokI Tryz.prog arF (inlOf arD):=fti_cons (valid6Ok.i _) (fti_cons (noOk.i _) (fti_cons (copiedOk.i _) (fti_cons (hasOk.i _) (fti_cons (placeIOk (by decide)) (fti_cons (grantIOk (by decide)) (fti_cons (cutIOk (by decide)) (fti_cons (standbyIOk (by decide)) (fti_cons (readyIOk (by decide)) (fti_cons (migrateIOk (by decide)) (fti_cons (abandonIOk (by decide)) (fti_cons (shedIOk (by decide)) (fti_cons (wantIOk (by decide)) (fti_cons (runsIOk (by decide)) (fti_cons (proveIOk (by decide)) (fti_cons (expandIOk (by decide)) (fti_nil))))))))))))))))
set_option maxRecDepth 100000 in
set_option maxHeartbeats 4000000 in
theorem apPlace (x:CfgK) (c:Cfg) (y:StK) (s:St) (e:Ent) (hA:ArH c s e) (hk:e.kind=1):sx ttU arF arD (bodyOf Tryz.f94) (argF 0 [cfgV CN1 x c,stV SN1 y s,entV' e]) (rdM c s noS) 10 (endx ttU Tryz.f94.results.toList fun v mem' _=>ApS mem' v (applyR c s e)):=by
 have hV:=hA.cfg
 have hI:=hA.inv
 have hE:=hA.ent
 have hcn:=hA.cnt
 have htk:=hA.tick
 have hlt:=hI.lt
 have hlc:=hI.lc
 have hnt:=hV.nt
 have hnc:=hV.nc
 have hct:=hI.count
 have hst:=hI.tick
 have hev:=hI.evac
 have hpv:=hI.proven
 have htb:=hA.tB
 have hP:kindE c s e=placeE c s e:=by unfold kindE;simp[hk]
 have hf:=hE
 simp[entV,entOk,inS,inR,fT,fC,fO,fE,fW,fN,hk] at hf
 refine⟨CN1,x,c,e,rfl,kp_,hV,?_⟩
 refine⟨fun h=>absurd h (by rw[hE];decide),fun _=>?_⟩
 refine⟨fun h=>absurd (of_decide_eq_true h) (by omega),fun _=>?_⟩
 refine⟨fun h=>absurd (of_decide_eq_true h) (by omega),fun _=>?_⟩
 refine⟨SN1,y,s,rfl,⟨.list rfl,.list rfl⟩,⟨by omega,by omega⟩,?_⟩
 intro y2
 refine⟨fun _=>?_,fun h=>absurd h (by rw[hk];decide)⟩
 rw[wrapi (n:=s.count+1) (by omega)]
 by_cases ho:0≤e.other
 ·refine⟨⟨Nat.le_refl _,by omega,by omega⟩,?_⟩
  refine⟨fun h1=>?_,fun h1=>?_⟩
  ·repeat (first | refine⟨fun _=>?_,fun h=>Bool.noConfusion h⟩ | refine⟨fun h=>Bool.noConfusion h,fun _=>?_⟩ | fail)
   refine⟨4,rfl,?_⟩
   exact ApS.err (hA.err (by rw[hP];unfold placeE tsAt csAt nearB;grind) (by decide))
  ·refine⟨⟨Nat.le_refl _,by omega,by omega⟩,?_⟩
   refine⟨fun h2=>?_,fun h2=>?_⟩
   ·repeat (first | refine⟨fun _=>?_,fun h=>Bool.noConfusion h⟩ | refine⟨fun h=>Bool.noConfusion h,fun _=>?_⟩ | fail)
    refine⟨6,rfl,?_⟩
    exact ApS.err (hA.err (by rw[hP];unfold placeE tsAt csAt nearB;grind) (by decide))
   ·refine⟨fun _=>?_,fun h=>absurd h (by simp;omega)⟩
    refine⟨⟨Nat.le_refl _,by omega,by omega⟩,?_⟩
    refine⟨fun h3=>?_,fun h3=>?_⟩
    ·repeat (first | refine⟨fun _=>?_,fun h=>Bool.noConfusion h⟩ | refine⟨fun h=>Bool.noConfusion h,fun _=>?_⟩ | fail)
     refine⟨6,rfl,?_⟩
     exact ApS.err (hA.err (by rw[hP];unfold placeE tsAt csAt nearB;grind) (by decide))
    ·refine⟨CN1,x,c,⟨15,14,0⟩,y2,_,_,⟨e.tick,s.count+1,s.tenants,s.cells,s.proven,s.evac,s.low,s.high⟩,e.cell,rfl,⟨kp_,⟨rfl,rfl,.list rfl,.list rfl⟩⟩,⟨hV,by dsimp only;omega⟩,?_⟩
     refine⟨fun h4=>?_,fun h4=>?_⟩
     ·replace h4:frozenB c s e.cell=true:=h4
      repeat (first | refine⟨fun _=>?_,fun h=>Bool.noConfusion h⟩ | refine⟨fun h=>Bool.noConfusion h,fun _=>?_⟩ | fail)
      refine⟨12,rfl,?_⟩
      exact ApS.err (hA.err (by rw[hP];unfold placeE tsAt csAt nearB;grind) (by decide))
     ·replace h4:frozenB c s e.cell=false:=h4
      refine⟨fun _=>?_,fun h=>absurd h (by simp;omega)⟩
      refine⟨CN1,x,c,⟨15,14,0⟩,y2,_,_,⟨e.tick,s.count+1,s.tenants,s.cells,s.proven,s.evac,s.low,s.high⟩,e.other,rfl,⟨kp_,⟨rfl,rfl,.list rfl,.list rfl⟩⟩,⟨hV,by dsimp only;omega⟩,?_⟩
      refine⟨fun h5=>?_,fun h5=>?_⟩
      ·replace h5:frozenB c s e.other=true:=h5
       repeat (first | refine⟨fun _=>?_,fun h=>Bool.noConfusion h⟩ | refine⟨fun h=>Bool.noConfusion h,fun _=>?_⟩ | fail)
       refine⟨12,rfl,?_⟩
       exact ApS.err (hA.err (by rw[hP];unfold placeE tsAt csAt nearB;grind) (by decide))
      ·replace h5:frozenB c s e.other=false:=h5
       refine⟨CN1,x,c,_,_,rfl,kp_,hV,?_⟩
       refine⟨fun h6=>?_,fun h6=>?_⟩
       ·repeat (first | refine⟨fun _=>?_,fun h=>Bool.noConfusion h⟩ | refine⟨fun h=>Bool.noConfusion h,fun _=>?_⟩ | fail)
        refine⟨11,rfl,?_⟩
        exact ApS.err (hA.err (by rw[hP];unfold placeE tsAt csAt nearB;grind) (by decide))
       ·refine⟨fun _=>?_,fun h=>absurd h (by simp;omega)⟩
        refine⟨CN1,x,c,_,_,rfl,kp_,hV,?_⟩
        refine⟨fun h7=>?_,fun h7=>?_⟩
        ·repeat (first | refine⟨fun _=>?_,fun h=>Bool.noConfusion h⟩ | refine⟨fun h=>Bool.noConfusion h,fun _=>?_⟩ | fail)
         refine⟨11,rfl,?_⟩
         exact ApS.err (hA.err (by rw[hP];unfold placeE tsAt csAt nearB;grind) (by decide))
        ·refine⟨CN1,x,c,_,_,rfl,kp_,hV,?_⟩
         refine⟨fun h8=>?_,fun h8=>?_⟩
         ·unfold togB at h8
          repeat (first | refine⟨fun _=>?_,fun h=>Bool.noConfusion h⟩ | refine⟨fun h=>Bool.noConfusion h,fun _=>?_⟩ | fail)
          refine⟨11,rfl,?_⟩
          exact ApS.err (hA.err (by rw[hP];unfold placeE tsAt csAt nearB;grind) (by decide))
         ·have hi:e.tenant.toNat<s.tenants.length:=by omega
          refine⟨tsC { (s.tenants.getD e.tenant.toNat default) with placed:=true },(by first | rfl | (show putN _ _ (tsC (List.getD _ _ _))=_;rw[getD_set hi];rfl)),?_⟩
          rw[setEl_set (by first | exact hi | (rw[List.length_set];exact hi))]
          try rw[List.set_set]
          refine⟨kp_,?_⟩
          refine⟨tsC { (s.tenants.getD e.tenant.toNat default) with placed:=true,home:=e.cell },(by first | rfl | (show putN _ _ (tsC (List.getD _ _ _))=_;rw[getD_set hi];rfl)),?_⟩
          rw[setEl_set (by first | exact hi | (rw[List.length_set];exact hi))]
          try rw[List.set_set]
          refine⟨kp_,?_⟩
          refine⟨tsC { (s.tenants.getD e.tenant.toNat default) with placed:=true,home:=e.cell,standby:=e.other },(by first | rfl | (show putN _ _ (tsC (List.getD _ _ _))=_;rw[getD_set hi];rfl)),?_⟩
          rw[setEl_set (by first | exact hi | (rw[List.length_set];exact hi))]
          try rw[List.set_set]
          unfold togB at h8
          have hk0:kindE c s e=0:=by rw[hP];unfold placeE tsAt csAt nearB;grind
          have heff:effOf s e=(⟨e.tick,s.count+1,s.tenants.set e.tenant.toNat { (s.tenants.getD e.tenant.toNat default) with placed:=true,home:=e.cell,standby:=e.other },s.cells,s.proven,s.evac,s.low,s.high⟩:St):=by simp[effOf,stamped,setTen,tenEff,tsAt,hk]
          refine⟨CN1,x,c,⟨15,14,0⟩,y2,_,_,(⟨e.tick,s.count+1,s.tenants.set e.tenant.toNat { (s.tenants.getD e.tenant.toNat default) with placed:=true,home:=e.cell,standby:=e.other },s.cells,s.proven,s.evac,s.low,s.high⟩:St),rfl,⟨kp_,⟨(by first | rfl | (simp)),rfl,⟨_,_,_,rfl,(by first | exact Nat.le_refl _ | (simp)),fun k hk=>rfl⟩,.list rfl⟩⟩,⟨hV,by simp;omega⟩,?_⟩
          intro cap
          refine⟨fun hov=>?_,fun hov=>?_⟩
          ·exact ApS.err (hA.over hk0 (by unfold fitsB;simp[hk]) (by rw[heff];exact ov_yes hov))
          ·exact ApS.ok (M:=⟨15,14,0⟩) (y:=y2) (s:=(⟨e.tick,s.count+1,s.tenants.set e.tenant.toNat { (s.tenants.getD e.tenant.toNat default) with placed:=true,home:=e.cell,standby:=e.other },s.cells,s.proven,s.evac,s.low,s.high⟩:St)) (by rw[hA.fine hk0 (fun _=>by rw[heff];exact ov_no hov),heff]) (by first | rfl | (simp)) rfl ⟨_,_,_,rfl,rfl,(by first | exact Nat.le_refl _ | (simp)),fun k hk=>rfl⟩ ⟨_,_,_,rfl,rfl,Nat.le_refl _,fun k hk=>rfl⟩
 ·refine⟨⟨Nat.le_refl _,by omega,by omega⟩,?_⟩
  refine⟨fun h1=>?_,fun h1=>?_⟩
  ·repeat (first | refine⟨fun _=>?_,fun h=>Bool.noConfusion h⟩ | refine⟨fun h=>Bool.noConfusion h,fun _=>?_⟩ | fail)
   refine⟨4,rfl,?_⟩
   exact ApS.err (hA.err (by rw[hP];unfold placeE tsAt csAt nearB;grind) (by decide))
  ·refine⟨⟨Nat.le_refl _,by omega,by omega⟩,?_⟩
   refine⟨fun h2=>?_,fun h2=>?_⟩
   ·repeat (first | refine⟨fun _=>?_,fun h=>Bool.noConfusion h⟩ | refine⟨fun h=>Bool.noConfusion h,fun _=>?_⟩ | fail)
    refine⟨6,rfl,?_⟩
    exact ApS.err (hA.err (by rw[hP];unfold placeE tsAt csAt nearB;grind) (by decide))
   ·refine⟨fun h=>absurd h (by simp;omega),fun _=>?_⟩
    repeat (first | refine⟨fun _=>?_,fun h=>Bool.noConfusion h⟩ | refine⟨fun h=>Bool.noConfusion h,fun _=>?_⟩ | fail)
    refine⟨CN1,x,c,⟨15,14,0⟩,y2,_,_,⟨e.tick,s.count+1,s.tenants,s.cells,s.proven,s.evac,s.low,s.high⟩,e.cell,rfl,⟨kp_,⟨rfl,rfl,.list rfl,.list rfl⟩⟩,⟨hV,by dsimp only;omega⟩,?_⟩
    refine⟨fun h4=>?_,fun h4=>?_⟩
    ·replace h4:frozenB c s e.cell=true:=h4
     repeat (first | refine⟨fun _=>?_,fun h=>Bool.noConfusion h⟩ | refine⟨fun h=>Bool.noConfusion h,fun _=>?_⟩ | fail)
     refine⟨12,rfl,?_⟩
     exact ApS.err (hA.err (by rw[hP];unfold placeE tsAt csAt nearB;grind) (by decide))
    ·replace h4:frozenB c s e.cell=false:=h4
     refine⟨fun h=>absurd h (by simp;omega),fun _=>?_⟩
     repeat (first | refine⟨fun _=>?_,fun h=>Bool.noConfusion h⟩ | refine⟨fun h=>Bool.noConfusion h,fun _=>?_⟩ | fail)
     refine⟨CN1,x,c,_,_,rfl,kp_,hV,?_⟩
     refine⟨fun h6=>?_,fun h6=>?_⟩
     ·repeat (first | refine⟨fun _=>?_,fun h=>Bool.noConfusion h⟩ | refine⟨fun h=>Bool.noConfusion h,fun _=>?_⟩ | fail)
      refine⟨11,rfl,?_⟩
      exact ApS.err (hA.err (by rw[hP];unfold placeE tsAt csAt nearB;grind) (by decide))
     ·refine⟨fun h=>absurd h (by simp;omega),fun _=>?_⟩
      repeat (first | refine⟨fun _=>?_,fun h=>Bool.noConfusion h⟩ | refine⟨fun h=>Bool.noConfusion h,fun _=>?_⟩ | fail)
      have hi:e.tenant.toNat<s.tenants.length:=by omega
      refine⟨tsC { (s.tenants.getD e.tenant.toNat default) with placed:=true },(by first | rfl | (show putN _ _ (tsC (List.getD _ _ _))=_;rw[getD_set hi];rfl)),?_⟩
      rw[setEl_set (by first | exact hi | (rw[List.length_set];exact hi))]
      try rw[List.set_set]
      refine⟨kp_,?_⟩
      refine⟨tsC { (s.tenants.getD e.tenant.toNat default) with placed:=true,home:=e.cell },(by first | rfl | (show putN _ _ (tsC (List.getD _ _ _))=_;rw[getD_set hi];rfl)),?_⟩
      rw[setEl_set (by first | exact hi | (rw[List.length_set];exact hi))]
      try rw[List.set_set]
      refine⟨kp_,?_⟩
      refine⟨tsC { (s.tenants.getD e.tenant.toNat default) with placed:=true,home:=e.cell,standby:=e.other },(by first | rfl | (show putN _ _ (tsC (List.getD _ _ _))=_;rw[getD_set hi];rfl)),?_⟩
      rw[setEl_set (by first | exact hi | (rw[List.length_set];exact hi))]
      try rw[List.set_set]
      have hk0:kindE c s e=0:=by rw[hP];unfold placeE tsAt csAt nearB;grind
      have heff:effOf s e=(⟨e.tick,s.count+1,s.tenants.set e.tenant.toNat { (s.tenants.getD e.tenant.toNat default) with placed:=true,home:=e.cell,standby:=e.other },s.cells,s.proven,s.evac,s.low,s.high⟩:St):=by simp[effOf,stamped,setTen,tenEff,tsAt,hk]
      refine⟨CN1,x,c,⟨15,14,0⟩,y2,_,_,(⟨e.tick,s.count+1,s.tenants.set e.tenant.toNat { (s.tenants.getD e.tenant.toNat default) with placed:=true,home:=e.cell,standby:=e.other },s.cells,s.proven,s.evac,s.low,s.high⟩:St),rfl,⟨kp_,⟨(by first | rfl | (simp)),rfl,⟨_,_,_,rfl,(by first | exact Nat.le_refl _ | (simp)),fun k hk=>rfl⟩,.list rfl⟩⟩,⟨hV,by simp;omega⟩,?_⟩
      intro cap
      refine⟨fun hov=>?_,fun hov=>?_⟩
      ·exact ApS.err (hA.over hk0 (by unfold fitsB;simp[hk]) (by rw[heff];exact ov_yes hov))
      ·exact ApS.ok (M:=⟨15,14,0⟩) (y:=y2) (s:=(⟨e.tick,s.count+1,s.tenants.set e.tenant.toNat { (s.tenants.getD e.tenant.toNat default) with placed:=true,home:=e.cell,standby:=e.other },s.cells,s.proven,s.evac,s.low,s.high⟩:St)) (by rw[hA.fine hk0 (fun _=>by rw[heff];exact ov_no hov),heff]) (by first | rfl | (simp)) rfl ⟨_,_,_,rfl,rfl,(by first | exact Nat.le_refl _ | (simp)),fun k hk=>rfl⟩ ⟨_,_,_,rfl,rfl,Nat.le_refl _,fun k hk=>rfl⟩
set_option maxRecDepth 100000 in
set_option maxHeartbeats 4000000 in
theorem apCut (x:CfgK) (c:Cfg) (y:StK) (s:St) (e:Ent) (hA:ArH c s e) (hk:e.kind=3):sx ttU arF arD (bodyOf Tryz.f94) (argF 0 [cfgV CN1 x c,stV SN1 y s,entV' e]) (rdM c s noS) 10 (endx ttU Tryz.f94.results.toList fun v mem' _=>ApS mem' v (applyR c s e)):=by
 have hV:=hA.cfg
 have hI:=hA.inv
 have hE:=hA.ent
 have hcn:=hA.cnt
 have htk:=hA.tick
 have hlt:=hI.lt
 have hlc:=hI.lc
 have hnt:=hV.nt
 have hnc:=hV.nc
 have hct:=hI.count
 have hst:=hI.tick
 have hev:=hI.evac
 have hpv:=hI.proven
 have htb:=hA.tB
 have hP:kindE c s e=cutE s e:=by unfold kindE;simp[hk]
 have hf:=hE
 simp[entV,entOk,inS,inR,fT,fC,fO,fE,fW,fN,hk] at hf
 refine⟨CN1,x,c,e,rfl,kp_,hV,?_⟩
 refine⟨fun h=>absurd h (by rw[hE];decide),fun _=>?_⟩
 refine⟨fun h=>absurd (of_decide_eq_true h) (by omega),fun _=>?_⟩
 refine⟨fun h=>absurd (of_decide_eq_true h) (by omega),fun _=>?_⟩
 refine⟨SN1,y,s,rfl,⟨.list rfl,.list rfl⟩,⟨by omega,by omega⟩,?_⟩
 intro y2
 refine⟨fun h=>absurd h (by rw[hk];decide),fun _=>?_⟩
 refine⟨fun h=>absurd h (by rw[hk];decide),fun _=>?_⟩
 refine⟨fun _=>?_,fun h=>absurd h (by rw[hk];decide)⟩
 rw[wrapi (n:=s.count+1) (by omega)]
 have hi:e.tenant.toNat<s.tenants.length:=by omega
 refine⟨⟨Nat.le_refl _,by omega,by omega⟩,?_⟩
 refine⟨fun h1=>?_,fun h1=>?_⟩
 ·repeat (first | refine⟨fun _=>?_,fun h=>Bool.noConfusion h⟩ | refine⟨fun h=>Bool.noConfusion h,fun _=>?_⟩ | fail)
  refine⟨4,rfl,?_⟩
  exact ApS.err (hA.err (by rw[hP];unfold cutE tsAt;grind) (by decide))
 ·refine⟨fun h2=>?_,fun h2=>?_⟩
  ·repeat (first | refine⟨fun _=>?_,fun h=>Bool.noConfusion h⟩ | refine⟨fun h=>Bool.noConfusion h,fun _=>?_⟩ | fail)
   refine⟨7,rfl,?_⟩
   exact ApS.err (hA.err (by rw[hP];unfold cutE tsAt;grind) (by decide))
  ·refine⟨(s.tenants.getD e.tenant.toNat default).win,e.tick,rfl,by omega,?_⟩
   refine⟨kp_,?_⟩
   refine⟨tsC { (s.tenants.getD e.tenant.toNat default) with win:=cutW (s.tenants.getD e.tenant.toNat default).win e.tick },(by first | rfl | (show putN _ _ (tsC (List.getD _ _ _))=_;rw[getD_set hi];rfl)),?_⟩
   rw[setEl_set (by first | exact hi | (rw[List.length_set];exact hi))]
   try rw[List.set_set]
   have hk0:kindE c s e=0:=by rw[hP];unfold cutE tsAt;grind
   have heff:effOf s e=(⟨e.tick,s.count+1,s.tenants.set e.tenant.toNat { (s.tenants.getD e.tenant.toNat default) with win:=cutW (s.tenants.getD e.tenant.toNat default).win e.tick },s.cells,s.proven,s.evac,s.low,s.high⟩:St):=by simp[effOf,stamped,setTen,setCel,tenEff,celEff,tsAt,csAt,hk]
   exact ApS.ok (M:=⟨15,14,0⟩) (y:=y2) (s:=(⟨e.tick,s.count+1,s.tenants.set e.tenant.toNat { (s.tenants.getD e.tenant.toNat default) with win:=cutW (s.tenants.getD e.tenant.toNat default).win e.tick },s.cells,s.proven,s.evac,s.low,s.high⟩:St)) (by rw[hA.fine hk0 (fun q=>absurd q (by unfold fitsB;simp[hk])),heff]) (by first | rfl | (simp)) (by first | rfl | (simp)) ⟨_,_,_,rfl,rfl,(by first | exact Nat.le_refl _ | (simp)),fun k hk=>rfl⟩ ⟨_,_,_,rfl,rfl,(by first | exact Nat.le_refl _ | (simp)),fun k hk=>rfl⟩
set_option maxRecDepth 100000 in
set_option maxHeartbeats 4000000 in
theorem apReady (x:CfgK) (c:Cfg) (y:StK) (s:St) (e:Ent) (hA:ArH c s e) (hk:e.kind=5):sx ttU arF arD (bodyOf Tryz.f94) (argF 0 [cfgV CN1 x c,stV SN1 y s,entV' e]) (rdM c s noS) 10 (endx ttU Tryz.f94.results.toList fun v mem' _=>ApS mem' v (applyR c s e)):=by
 have hV:=hA.cfg
 have hI:=hA.inv
 have hE:=hA.ent
 have hcn:=hA.cnt
 have htk:=hA.tick
 have hlt:=hI.lt
 have hlc:=hI.lc
 have hnt:=hV.nt
 have hnc:=hV.nc
 have hct:=hI.count
 have hst:=hI.tick
 have hev:=hI.evac
 have hpv:=hI.proven
 have htb:=hA.tB
 have hP:kindE c s e=readyE s e:=by unfold kindE;simp[hk]
 have hf:=hE
 simp[entV,entOk,inS,inR,fT,fC,fO,fE,fW,fN,hk] at hf
 refine⟨CN1,x,c,e,rfl,kp_,hV,?_⟩
 refine⟨fun h=>absurd h (by rw[hE];decide),fun _=>?_⟩
 refine⟨fun h=>absurd (of_decide_eq_true h) (by omega),fun _=>?_⟩
 refine⟨fun h=>absurd (of_decide_eq_true h) (by omega),fun _=>?_⟩
 refine⟨SN1,y,s,rfl,⟨.list rfl,.list rfl⟩,⟨by omega,by omega⟩,?_⟩
 intro y2
 refine⟨fun h=>absurd h (by rw[hk];decide),fun _=>?_⟩
 refine⟨fun h=>absurd h (by rw[hk];decide),fun _=>?_⟩
 refine⟨fun h=>absurd h (by rw[hk];decide),fun _=>?_⟩
 refine⟨fun h=>absurd h (by rw[hk];decide),fun _=>?_⟩
 refine⟨fun _=>?_,fun h=>absurd h (by rw[hk];decide)⟩
 rw[wrapi (n:=s.count+1) (by omega)]
 have hi:e.tenant.toNat<s.tenants.length:=by omega
 refine⟨⟨Nat.le_refl _,by omega,by omega⟩,?_⟩
 refine⟨fun h1=>?_,fun h1=>?_⟩
 ·repeat (first | refine⟨fun _=>?_,fun h=>Bool.noConfusion h⟩ | refine⟨fun h=>Bool.noConfusion h,fun _=>?_⟩ | fail)
  refine⟨4,rfl,?_⟩
  exact ApS.err (hA.err (by rw[hP];unfold readyE tsAt csAt;grind) (by decide))
 ·refine⟨fun h2=>?_,fun h2=>?_⟩
  ·repeat (first | refine⟨fun _=>?_,fun h=>Bool.noConfusion h⟩ | refine⟨fun h=>Bool.noConfusion h,fun _=>?_⟩ | fail)
   refine⟨5,rfl,?_⟩
   exact ApS.err (hA.err (by rw[hP];unfold readyE tsAt csAt;grind) (by decide))
  ·refine⟨⟨Nat.le_refl _,by omega,by omega⟩,?_⟩
   refine⟨fun h3=>?_,fun h3=>?_⟩
   ·repeat (first | refine⟨fun _=>?_,fun h=>Bool.noConfusion h⟩ | refine⟨fun h=>Bool.noConfusion h,fun _=>?_⟩ | fail)
    refine⟨6,rfl,?_⟩
    exact ApS.err (hA.err (by rw[hP];unfold readyE tsAt csAt;grind) (by decide))
   ·refine⟨tsC { (s.tenants.getD e.tenant.toNat default) with standby:=e.cell },(by first | rfl | (show putN _ _ (tsC (List.getD _ _ _))=_;rw[getD_set hi];rfl)),?_⟩
    rw[setEl_set (by first | exact hi | (rw[List.length_set];exact hi))]
    try rw[List.set_set]
    refine⟨tsC { (s.tenants.getD e.tenant.toNat default) with standby:=e.cell,next:=-1 },(by first | rfl | (show putN _ _ (tsC (List.getD _ _ _))=_;rw[getD_set hi];rfl)),?_⟩
    rw[setEl_set (by first | exact hi | (rw[List.length_set];exact hi))]
    try rw[List.set_set]
    have hk0:kindE c s e=0:=by rw[hP];unfold readyE tsAt csAt;grind
    have heff:effOf s e=(⟨e.tick,s.count+1,s.tenants.set e.tenant.toNat { (s.tenants.getD e.tenant.toNat default) with standby:=e.cell,next:=-1 },s.cells,s.proven,s.evac,s.low,s.high⟩:St):=by simp[effOf,stamped,setTen,setCel,tenEff,celEff,tsAt,csAt,hk]
    exact ApS.ok (M:=⟨15,14,0⟩) (y:=y2) (s:=(⟨e.tick,s.count+1,s.tenants.set e.tenant.toNat { (s.tenants.getD e.tenant.toNat default) with standby:=e.cell,next:=-1 },s.cells,s.proven,s.evac,s.low,s.high⟩:St)) (by rw[hA.fine hk0 (fun q=>absurd q (by unfold fitsB;simp[hk])),heff]) (by first | rfl | (simp)) (by first | rfl | (simp)) ⟨_,_,_,rfl,rfl,(by first | exact Nat.le_refl _ | (simp)),fun k hk=>rfl⟩ ⟨_,_,_,rfl,rfl,(by first | exact Nat.le_refl _ | (simp)),fun k hk=>rfl⟩
set_option maxRecDepth 100000 in
set_option maxHeartbeats 4000000 in
theorem apAbandon (x:CfgK) (c:Cfg) (y:StK) (s:St) (e:Ent) (hA:ArH c s e) (hk:e.kind=7):sx ttU arF arD (bodyOf Tryz.f94) (argF 0 [cfgV CN1 x c,stV SN1 y s,entV' e]) (rdM c s noS) 10 (endx ttU Tryz.f94.results.toList fun v mem' _=>ApS mem' v (applyR c s e)):=by
 have hV:=hA.cfg
 have hI:=hA.inv
 have hE:=hA.ent
 have hcn:=hA.cnt
 have htk:=hA.tick
 have hlt:=hI.lt
 have hlc:=hI.lc
 have hnt:=hV.nt
 have hnc:=hV.nc
 have hct:=hI.count
 have hst:=hI.tick
 have hev:=hI.evac
 have hpv:=hI.proven
 have htb:=hA.tB
 have hP:kindE c s e=abandonE s e:=by unfold kindE;simp[hk]
 have hf:=hE
 simp[entV,entOk,inS,inR,fT,fC,fO,fE,fW,fN,hk] at hf
 refine⟨CN1,x,c,e,rfl,kp_,hV,?_⟩
 refine⟨fun h=>absurd h (by rw[hE];decide),fun _=>?_⟩
 refine⟨fun h=>absurd (of_decide_eq_true h) (by omega),fun _=>?_⟩
 refine⟨fun h=>absurd (of_decide_eq_true h) (by omega),fun _=>?_⟩
 refine⟨SN1,y,s,rfl,⟨.list rfl,.list rfl⟩,⟨by omega,by omega⟩,?_⟩
 intro y2
 refine⟨fun h=>absurd h (by rw[hk];decide),fun _=>?_⟩
 refine⟨fun h=>absurd h (by rw[hk];decide),fun _=>?_⟩
 refine⟨fun h=>absurd h (by rw[hk];decide),fun _=>?_⟩
 refine⟨fun h=>absurd h (by rw[hk];decide),fun _=>?_⟩
 refine⟨fun h=>absurd h (by rw[hk];decide),fun _=>?_⟩
 refine⟨fun h=>absurd h (by rw[hk];decide),fun _=>?_⟩
 refine⟨fun _=>?_,fun h=>absurd h (by rw[hk];decide)⟩
 rw[wrapi (n:=s.count+1) (by omega)]
 have hTi:=hI.ten _ (List.mem_of_getElem? (getD_get (d:=default) (show e.tenant.toNat<s.tenants.length by omega)))
 obtain⟨hT1,hT2,hT3,hT4,hT5,hT6,hT7,hT8,hT9,hT10,hT11,hT12⟩:=hTi
 have hi:e.tenant.toNat<s.tenants.length:=by omega
 refine⟨⟨Nat.le_refl _,by omega,by omega⟩,?_⟩
 refine⟨Bool,fun b=>[(23,.bool b)],fun _=>[],fun b=>(b=true↔((s.tenants.getD e.tenant.toNat default).placed=false∨(s.tenants.getD e.tenant.toNat default).target<0)),?_,?_⟩
 ·repeat' (first | refine⟨fun _=>?_,fun h=>Bool.noConfusion h⟩ | refine⟨fun h=>Bool.noConfusion h,fun _=>?_⟩ | refine⟨fun _=>?_,fun _=>?_⟩ | refine⟨⟨Nat.le_refl _,by omega,by omega⟩,?_⟩ | fail)
  all_goals (refine⟨_,?_,kp_,kp_⟩;dsimp only;grind)
 ·rintro b1 hb1
  refine⟨⟨by decide,rfl,rfl⟩,?_⟩
  refine⟨fun h1=>?_,fun h1=>?_⟩
  ·repeat (first | refine⟨fun _=>?_,fun h=>Bool.noConfusion h⟩ | refine⟨fun h=>Bool.noConfusion h,fun _=>?_⟩ | fail)
   refine⟨4,rfl,?_⟩
   exact ApS.err (hA.err (by rw[hP];unfold abandonE tsAt;grind) (by decide))
  ·refine⟨tsC { (s.tenants.getD e.tenant.toNat default) with target:=-1 },(by first | rfl | (show putN _ _ (tsC (List.getD _ _ _))=_;rw[getD_set hi];rfl)),?_⟩
   rw[setEl_set (by first | exact hi | (rw[List.length_set];exact hi))]
   try rw[List.set_set]
   have hk0:kindE c s e=0:=by rw[hP];unfold abandonE tsAt;grind
   have heff:effOf s e=(⟨e.tick,s.count+1,s.tenants.set e.tenant.toNat { (s.tenants.getD e.tenant.toNat default) with target:=-1 },s.cells,s.proven,s.evac,s.low,s.high⟩:St):=by simp[effOf,stamped,setTen,setCel,tenEff,celEff,tsAt,csAt,hk]
   exact ApS.ok (M:=⟨15,14,0⟩) (y:=y2) (s:=(⟨e.tick,s.count+1,s.tenants.set e.tenant.toNat { (s.tenants.getD e.tenant.toNat default) with target:=-1 },s.cells,s.proven,s.evac,s.low,s.high⟩:St)) (by rw[hA.fine hk0 (fun q=>absurd q (by unfold fitsB;simp[hk])),heff]) (by first | rfl | (simp)) (by first | rfl | (simp)) ⟨_,_,_,rfl,rfl,(by first | exact Nat.le_refl _ | (simp)),fun k hk=>rfl⟩ ⟨_,_,_,rfl,rfl,(by first | exact Nat.le_refl _ | (simp)),fun k hk=>rfl⟩
set_option maxRecDepth 100000 in
set_option maxHeartbeats 4000000 in
theorem apGrant (x:CfgK) (c:Cfg) (y:StK) (s:St) (e:Ent) (hA:ArH c s e) (hk:e.kind=2):sx ttU arF arD (bodyOf Tryz.f94) (argF 0 [cfgV CN1 x c,stV SN1 y s,entV' e]) (rdM c s noS) 10 (endx ttU Tryz.f94.results.toList fun v mem' _=>ApS mem' v (applyR c s e)):=by
 have hV:=hA.cfg
 have hI:=hA.inv
 have hE:=hA.ent
 have hcn:=hA.cnt
 have htk:=hA.tick
 have hlt:=hI.lt
 have hlc:=hI.lc
 have hnt:=hV.nt
 have hnc:=hV.nc
 have hct:=hI.count
 have hst:=hI.tick
 have hev:=hI.evac
 have hpv:=hI.proven
 have htb:=hA.tB
 have hP:kindE c s e=grantE c s e:=by unfold kindE;simp[hk]
 have hf:=hE
 simp[entV,entOk,inS,inR,fT,fC,fO,fE,fW,fN,hk] at hf
 refine⟨CN1,x,c,e,rfl,kp_,hV,?_⟩
 refine⟨fun h=>absurd h (by rw[hE];decide),fun _=>?_⟩
 refine⟨fun h=>absurd (of_decide_eq_true h) (by omega),fun _=>?_⟩
 refine⟨fun h=>absurd (of_decide_eq_true h) (by omega),fun _=>?_⟩
 refine⟨SN1,y,s,rfl,⟨.list rfl,.list rfl⟩,⟨by omega,by omega⟩,?_⟩
 intro y2
 refine⟨fun h=>absurd h (by rw[hk];decide),fun _=>?_⟩
 refine⟨fun _=>?_,fun h=>absurd h (by rw[hk];decide)⟩
 rw[wrapi (n:=s.count+1) (by omega)]
 have hTi:=hI.ten _ (List.mem_of_getElem? (getD_get (d:=default) (show e.tenant.toNat<s.tenants.length by omega)))
 obtain⟨hT1,hT2,hT3,hT4,hT5,hT6,hT7,hT8,hT9,hT10,hT11,hT12⟩:=hTi
 have hi:e.tenant.toNat<s.tenants.length:=by omega
 refine⟨⟨Nat.le_refl _,by omega,by omega⟩,?_⟩
 refine⟨Bool,fun b=>[(15,.bool b)],fun _=>[],fun b=>(b=true↔((s.tenants.getD e.tenant.toNat default).placed=false∨((s.tenants.getD e.tenant.toNat default).shed=true∧e.cell≠(s.tenants.getD e.tenant.toNat default).standby))),?_,?_⟩
 ·repeat' (first | refine⟨fun _=>?_,fun h=>Bool.noConfusion h⟩ | refine⟨fun h=>Bool.noConfusion h,fun _=>?_⟩ | refine⟨fun _=>?_,fun _=>?_⟩ | refine⟨⟨Nat.le_refl _,by omega,by omega⟩,?_⟩ | fail)
  all_goals (refine⟨_,?_,kp_,kp_⟩;dsimp only;grind)
 ·rintro b1 hb1
  refine⟨⟨by decide,rfl,rfl⟩,?_⟩
  refine⟨fun h1=>?_,fun h1=>?_⟩
  ·refine⟨4,rfl,?_⟩
   exact ApS.err (hA.err (by rw[hP,grantE_eq];unfold tsAt;grind) (by decide))
  ·refine⟨Bool,fun b=>[(39,.bool b)],fun _=>[],fun b=>(b=true↔(e.cell≠(s.tenants.getD e.tenant.toNat default).home∧e.cell≠(s.tenants.getD e.tenant.toNat default).standby∧e.cell≠(s.tenants.getD e.tenant.toNat default).target)),?_,?_⟩
   ·repeat' (first | refine⟨fun _=>?_,fun h=>Bool.noConfusion h⟩ | refine⟨fun h=>Bool.noConfusion h,fun _=>?_⟩ | refine⟨fun _=>?_,fun _=>?_⟩ | refine⟨⟨Nat.le_refl _,by omega,by omega⟩,?_⟩ | fail)
    all_goals (refine⟨_,?_,kp_,kp_⟩;dsimp only;grind)
   ·rintro b2 hb2
    refine⟨⟨by decide,rfl,rfl⟩,?_⟩
    refine⟨fun h2=>?_,fun h2=>?_⟩
    ·refine⟨5,rfl,?_⟩
     exact ApS.err (hA.err (by rw[hP,grantE_eq];unfold tsAt;grind) (by decide))
    ·refine⟨CN1,x,c,⟨15,14,0⟩,y2,_,_,⟨e.tick,s.count+1,s.tenants,s.cells,s.proven,s.evac,s.low,s.high⟩,e,rfl,⟨kp_,⟨rfl,rfl,.list rfl,.list rfl⟩⟩,⟨hV,by dsimp only;omega,by dsimp only;omega,by omega,by omega,by omega,?_⟩,?_⟩
     ·show 0≤(s.tenants.getD e.tenant.toNat default).epoch∧(s.tenants.getD e.tenant.toNat default).epoch≤1048576
      exact hT5
     ·have hgr:grantedE c ⟨e.tick,s.count+1,s.tenants,s.cells,s.proven,s.evac,s.low,s.high⟩ e=grantedE c s e:=rfl
      rw[hgr]
      refine⟨fun h3=>?_,fun h3=>?_⟩
      ·have h3b:grantedE c s e≠0:=by simpa using h3
       refine⟨_,rfl,?_⟩
       exact ApS.err (hA.err (by rw[hP,grantE_eq];unfold tsAt;grind) h3b)
      ·have h3b:grantedE c s e=0:=by simpa using h3
       refine⟨tsC { (s.tenants.getD e.tenant.toNat default) with win:=⟨e.cell,e.epoch,e.n,e.since,e.till⟩ },(by first | rfl | (show putN _ _ (tsC (List.getD _ _ _))=_;rw[getD_set hi];rfl)),?_⟩
       rw[setEl_set (by first | exact hi | (rw[List.length_set];exact hi))]
       try rw[List.set_set]
       refine⟨tsC { (s.tenants.getD e.tenant.toNat default) with win:=⟨e.cell,e.epoch,e.n,e.since,e.till⟩,epoch:=e.epoch },(by first | rfl | (show putN _ _ (tsC (List.getD _ _ _))=_;rw[getD_set hi];rfl)),?_⟩
       rw[setEl_set (by first | exact hi | (rw[List.length_set];exact hi))]
       try rw[List.set_set]
       have hgd:(s.tenants.set e.tenant.toNat { (s.tenants.getD e.tenant.toNat default) with win:=⟨e.cell,e.epoch,e.n,e.since,e.till⟩,epoch:=e.epoch }).getD e.tenant.toNat default={ (s.tenants.getD e.tenant.toNat default) with win:=⟨e.cell,e.epoch,e.n,e.since,e.till⟩,epoch:=e.epoch }:=getD_set hi
       refine⟨fun q1=>?_,fun q1=>?_⟩
       ·rw[hgd] at q1
        have q2:e.cell=(s.tenants.getD e.tenant.toNat default).home:=by simpa using q1
        have hk0:kindE c s e=0:=by rw[hP,grantE_eq];unfold tsAt;grind
        have heff:effOf s e=(⟨e.tick,s.count+1,s.tenants.set e.tenant.toNat { (s.tenants.getD e.tenant.toNat default) with win:=⟨e.cell,e.epoch,e.n,e.since,e.till⟩,epoch:=e.epoch },s.cells,s.proven,s.evac,s.low,s.high⟩:St):=by
         unfold effOf stamped setTen tenEff grantT tsAt
         simp only[hk]
         grind
        refine⟨CN1,x,c,⟨15,14,0⟩,y2,_,_,(⟨e.tick,s.count+1,s.tenants.set e.tenant.toNat { (s.tenants.getD e.tenant.toNat default) with win:=⟨e.cell,e.epoch,e.n,e.since,e.till⟩,epoch:=e.epoch },s.cells,s.proven,s.evac,s.low,s.high⟩:St),rfl,⟨kp_,⟨(by first | rfl | (simp)),rfl,⟨_,_,_,rfl,(by first | exact Nat.le_refl _ | (simp)),fun k hk=>rfl⟩,.list rfl⟩⟩,⟨hV,by simp;omega⟩,?_⟩
        intro cap
        refine⟨fun hov=>?_,fun hov=>?_⟩
        ·exact ApS.err (hA.over hk0 (by unfold fitsB;simp[hk]) (by rw[heff];exact ov_yes hov))
        ·exact ApS.ok (M:=⟨15,14,0⟩) (y:=y2) (s:=(⟨e.tick,s.count+1,s.tenants.set e.tenant.toNat { (s.tenants.getD e.tenant.toNat default) with win:=⟨e.cell,e.epoch,e.n,e.since,e.till⟩,epoch:=e.epoch },s.cells,s.proven,s.evac,s.low,s.high⟩:St)) (by rw[hA.fine hk0 (fun _=>by rw[heff];exact ov_no hov),heff]) (by first | rfl | (simp)) rfl ⟨_,_,_,rfl,rfl,(by first | exact Nat.le_refl _ | (simp)),fun k hk=>rfl⟩ ⟨_,_,_,rfl,rfl,Nat.le_refl _,fun k hk=>rfl⟩
       ·rw[hgd] at q1
        have q2:¬ e.cell=(s.tenants.getD e.tenant.toNat default).home:=by simpa using q1
        refine⟨fun q3=>?_,fun q3=>?_⟩
        ·rw[hgd] at q3
         refine⟨tsC { (s.tenants.getD e.tenant.toNat default) with win:=⟨e.cell,e.epoch,e.n,e.since,e.till⟩,epoch:=e.epoch,home:=e.cell },(by first | rfl | (show putN _ _ (tsC (List.getD _ _ _))=_;rw[getD_set hi];rfl)),?_⟩
         rw[setEl_set (by first | exact hi | (rw[List.length_set];exact hi))]
         try rw[List.set_set]
         refine⟨tsC { (s.tenants.getD e.tenant.toNat default) with win:=⟨e.cell,e.epoch,e.n,e.since,e.till⟩,epoch:=e.epoch,home:=e.cell,standby:=-1 },(by first | rfl | (show putN _ _ (tsC (List.getD _ _ _))=_;rw[getD_set hi];rfl)),?_⟩
         rw[setEl_set (by first | exact hi | (rw[List.length_set];exact hi))]
         try rw[List.set_set]
         refine⟨tsC { (s.tenants.getD e.tenant.toNat default) with win:=⟨e.cell,e.epoch,e.n,e.since,e.till⟩,epoch:=e.epoch,home:=e.cell,standby:=-1,next:=-1 },(by first | rfl | (show putN _ _ (tsC (List.getD _ _ _))=_;rw[getD_set hi];rfl)),?_⟩
         rw[setEl_set (by first | exact hi | (rw[List.length_set];exact hi))]
         try rw[List.set_set]
         refine⟨tsC { (s.tenants.getD e.tenant.toNat default) with win:=⟨e.cell,e.epoch,e.n,e.since,e.till⟩,epoch:=e.epoch,home:=e.cell,standby:=-1,next:=-1,target:=-1 },(by first | rfl | (show putN _ _ (tsC (List.getD _ _ _))=_;rw[getD_set hi];rfl)),?_⟩
         rw[setEl_set (by first | exact hi | (rw[List.length_set];exact hi))]
         try rw[List.set_set]
         refine⟨tsC { (s.tenants.getD e.tenant.toNat default) with win:=⟨e.cell,e.epoch,e.n,e.since,e.till⟩,epoch:=e.epoch,home:=e.cell,standby:=-1,next:=-1,target:=-1,shed:=false },(by first | rfl | (show putN _ _ (tsC (List.getD _ _ _))=_;rw[getD_set hi];rfl)),?_⟩
         rw[setEl_set (by first | exact hi | (rw[List.length_set];exact hi))]
         try rw[List.set_set]
         have q4:e.cell=(s.tenants.getD e.tenant.toNat default).standby:=by simpa using q3
         have hk0:kindE c s e=0:=by rw[hP,grantE_eq];unfold tsAt;grind
         have heff:effOf s e=(⟨e.tick,s.count+1,s.tenants.set e.tenant.toNat { (s.tenants.getD e.tenant.toNat default) with win:=⟨e.cell,e.epoch,e.n,e.since,e.till⟩,epoch:=e.epoch,home:=e.cell,standby:=-1,next:=-1,target:=-1,shed:=false },s.cells,s.proven,s.evac,s.low,s.high⟩:St):=by
          unfold effOf stamped setTen tenEff grantT tsAt
          simp only[hk]
          grind
         refine⟨CN1,x,c,⟨15,14,0⟩,y2,_,_,(⟨e.tick,s.count+1,s.tenants.set e.tenant.toNat { (s.tenants.getD e.tenant.toNat default) with win:=⟨e.cell,e.epoch,e.n,e.since,e.till⟩,epoch:=e.epoch,home:=e.cell,standby:=-1,next:=-1,target:=-1,shed:=false },s.cells,s.proven,s.evac,s.low,s.high⟩:St),rfl,⟨kp_,⟨(by first | rfl | (simp)),rfl,⟨_,_,_,rfl,(by first | exact Nat.le_refl _ | (simp)),fun k hk=>rfl⟩,.list rfl⟩⟩,⟨hV,by simp;omega⟩,?_⟩
         intro cap
         refine⟨fun hov=>?_,fun hov=>?_⟩
         ·exact ApS.err (hA.over hk0 (by unfold fitsB;simp[hk]) (by rw[heff];exact ov_yes hov))
         ·exact ApS.ok (M:=⟨15,14,0⟩) (y:=y2) (s:=(⟨e.tick,s.count+1,s.tenants.set e.tenant.toNat { (s.tenants.getD e.tenant.toNat default) with win:=⟨e.cell,e.epoch,e.n,e.since,e.till⟩,epoch:=e.epoch,home:=e.cell,standby:=-1,next:=-1,target:=-1,shed:=false },s.cells,s.proven,s.evac,s.low,s.high⟩:St)) (by rw[hA.fine hk0 (fun _=>by rw[heff];exact ov_no hov),heff]) (by first | rfl | (simp)) rfl ⟨_,_,_,rfl,rfl,(by first | exact Nat.le_refl _ | (simp)),fun k hk=>rfl⟩ ⟨_,_,_,rfl,rfl,Nat.le_refl _,fun k hk=>rfl⟩
        ·rw[hgd] at q3
         refine⟨tsC { (s.tenants.getD e.tenant.toNat default) with win:=⟨e.cell,e.epoch,e.n,e.since,e.till⟩,epoch:=e.epoch,home:=e.cell },(by first | rfl | (show putN _ _ (tsC (List.getD _ _ _))=_;rw[getD_set hi];rfl)),?_⟩
         rw[setEl_set (by first | exact hi | (rw[List.length_set];exact hi))]
         try rw[List.set_set]
         refine⟨tsC { (s.tenants.getD e.tenant.toNat default) with win:=⟨e.cell,e.epoch,e.n,e.since,e.till⟩,epoch:=e.epoch,home:=e.cell,target:=-1 },(by first | rfl | (show putN _ _ (tsC (List.getD _ _ _))=_;rw[getD_set hi];rfl)),?_⟩
         rw[setEl_set (by first | exact hi | (rw[List.length_set];exact hi))]
         try rw[List.set_set]
         have q4:¬ e.cell=(s.tenants.getD e.tenant.toNat default).standby:=by simpa using q3
         have hk0:kindE c s e=0:=by rw[hP,grantE_eq];unfold tsAt;grind
         have heff:effOf s e=(⟨e.tick,s.count+1,s.tenants.set e.tenant.toNat { (s.tenants.getD e.tenant.toNat default) with win:=⟨e.cell,e.epoch,e.n,e.since,e.till⟩,epoch:=e.epoch,home:=e.cell,target:=-1 },s.cells,s.proven,s.evac,s.low,s.high⟩:St):=by
          unfold effOf stamped setTen tenEff grantT tsAt
          simp only[hk]
          grind
         refine⟨CN1,x,c,⟨15,14,0⟩,y2,_,_,(⟨e.tick,s.count+1,s.tenants.set e.tenant.toNat { (s.tenants.getD e.tenant.toNat default) with win:=⟨e.cell,e.epoch,e.n,e.since,e.till⟩,epoch:=e.epoch,home:=e.cell,target:=-1 },s.cells,s.proven,s.evac,s.low,s.high⟩:St),rfl,⟨kp_,⟨(by first | rfl | (simp)),rfl,⟨_,_,_,rfl,(by first | exact Nat.le_refl _ | (simp)),fun k hk=>rfl⟩,.list rfl⟩⟩,⟨hV,by simp;omega⟩,?_⟩
         intro cap
         refine⟨fun hov=>?_,fun hov=>?_⟩
         ·exact ApS.err (hA.over hk0 (by unfold fitsB;simp[hk]) (by rw[heff];exact ov_yes hov))
         ·exact ApS.ok (M:=⟨15,14,0⟩) (y:=y2) (s:=(⟨e.tick,s.count+1,s.tenants.set e.tenant.toNat { (s.tenants.getD e.tenant.toNat default) with win:=⟨e.cell,e.epoch,e.n,e.since,e.till⟩,epoch:=e.epoch,home:=e.cell,target:=-1 },s.cells,s.proven,s.evac,s.low,s.high⟩:St)) (by rw[hA.fine hk0 (fun _=>by rw[heff];exact ov_no hov),heff]) (by first | rfl | (simp)) rfl ⟨_,_,_,rfl,rfl,(by first | exact Nat.le_refl _ | (simp)),fun k hk=>rfl⟩ ⟨_,_,_,rfl,rfl,Nat.le_refl _,fun k hk=>rfl⟩
set_option maxRecDepth 100000 in
set_option maxHeartbeats 4000000 in
theorem apStandby (x:CfgK) (c:Cfg) (y:StK) (s:St) (e:Ent) (hA:ArH c s e) (hk:e.kind=4):sx ttU arF arD (bodyOf Tryz.f94) (argF 0 [cfgV CN1 x c,stV SN1 y s,entV' e]) (rdM c s noS) 10 (endx ttU Tryz.f94.results.toList fun v mem' _=>ApS mem' v (applyR c s e)):=by
 have hV:=hA.cfg
 have hI:=hA.inv
 have hE:=hA.ent
 have hcn:=hA.cnt
 have htk:=hA.tick
 have hlt:=hI.lt
 have hlc:=hI.lc
 have hnt:=hV.nt
 have hnc:=hV.nc
 have hct:=hI.count
 have hst:=hI.tick
 have hev:=hI.evac
 have hpv:=hI.proven
 have htb:=hA.tB
 have hP:kindE c s e=standbyE c s e:=by unfold kindE;simp[hk]
 have hf:=hE
 simp[entV,entOk,inS,inR,fT,fC,fO,fE,fW,fN,hk] at hf
 refine⟨CN1,x,c,e,rfl,kp_,hV,?_⟩
 refine⟨fun h=>absurd h (by rw[hE];decide),fun _=>?_⟩
 refine⟨fun h=>absurd (of_decide_eq_true h) (by omega),fun _=>?_⟩
 refine⟨fun h=>absurd (of_decide_eq_true h) (by omega),fun _=>?_⟩
 refine⟨SN1,y,s,rfl,⟨.list rfl,.list rfl⟩,⟨by omega,by omega⟩,?_⟩
 intro y2
 refine⟨fun h=>absurd h (by rw[hk];decide),fun _=>?_⟩
 refine⟨fun h=>absurd h (by rw[hk];decide),fun _=>?_⟩
 refine⟨fun h=>absurd h (by rw[hk];decide),fun _=>?_⟩
 refine⟨fun _=>?_,fun h=>absurd h (by rw[hk];decide)⟩
 rw[wrapi (n:=s.count+1) (by omega)]
 have hTi:=hI.ten _ (List.mem_of_getElem? (getD_get (d:=default) (show e.tenant.toNat<s.tenants.length by omega)))
 obtain⟨hT1,hT2,hT3,hT4,hT5,hT6,hT7,hT8,hT9,hT10,hT11,hT12⟩:=hTi
 have hi:e.tenant.toNat<s.tenants.length:=by omega
 refine⟨⟨Nat.le_refl _,by omega,by omega⟩,?_⟩
 refine⟨Unit,fun _=>[],fun _=>[],fun _=>kindE c s e=0,?_,?_⟩
 ·refine⟨fun h1=>?_,fun h1=>?_⟩
  ·repeat (first | refine⟨fun _=>?_,fun h=>Bool.noConfusion h⟩ | refine⟨fun h=>Bool.noConfusion h,fun _=>?_⟩ | fail)
   refine⟨4,rfl,?_⟩
   exact ApS.err (hA.err (by rw[hP];unfold standbyE tsAt csAt nearB;grind) (by decide))
  ·refine⟨fun h0=>?_,fun h0=>?_⟩
   ·refine⟨(),?_,kp_,kp_⟩
    rw[hP];unfold standbyE tsAt csAt nearB;grind
   ·have h0b:0≤e.cell:=by have:=of_decide_eq_false h0;omega
    refine⟨Bool,fun b=>[(27,.bool b)],fun _=>[],fun b=>(b=true↔(e.cell=(s.tenants.getD e.tenant.toNat default).home∨e.cell=(s.tenants.getD e.tenant.toNat default).standby∨e.cell=(s.tenants.getD e.tenant.toNat default).target)),?_,?_⟩
    ·repeat' (first | refine⟨fun _=>?_,fun h=>Bool.noConfusion h⟩ | refine⟨fun h=>Bool.noConfusion h,fun _=>?_⟩ | refine⟨fun _=>?_,fun _=>?_⟩ | refine⟨⟨Nat.le_refl _,by omega,by omega⟩,?_⟩ | fail)
     all_goals (refine⟨_,?_,kp_,kp_⟩;dsimp only;grind)
    ·rintro b1 hb1
     refine⟨⟨by decide,rfl,rfl⟩,?_⟩
     refine⟨fun h2=>?_,fun h2=>?_⟩
     ·repeat (first | refine⟨fun _=>?_,fun h=>Bool.noConfusion h⟩ | refine⟨fun h=>Bool.noConfusion h,fun _=>?_⟩ | fail)
      refine⟨5,rfl,?_⟩
      exact ApS.err (hA.err (by rw[hP];unfold standbyE tsAt csAt nearB;grind) (by decide))
     ·refine⟨⟨Nat.le_refl _,by omega,by omega⟩,?_⟩
      refine⟨fun h3=>?_,fun h3=>?_⟩
      ·repeat (first | refine⟨fun _=>?_,fun h=>Bool.noConfusion h⟩ | refine⟨fun h=>Bool.noConfusion h,fun _=>?_⟩ | fail)
       refine⟨6,rfl,?_⟩
       exact ApS.err (hA.err (by rw[hP];unfold standbyE tsAt csAt nearB;grind) (by decide))
      ·refine⟨CN1,x,c,⟨15,14,0⟩,y2,_,_,⟨e.tick,s.count+1,s.tenants,s.cells,s.proven,s.evac,s.low,s.high⟩,e.cell,rfl,⟨kp_,⟨rfl,rfl,.list rfl,.list rfl⟩⟩,⟨hV,by dsimp only;omega⟩,?_⟩
       refine⟨fun h4=>?_,fun h4=>?_⟩
       ·replace h4:frozenB c s e.cell=true:=h4
        repeat (first | refine⟨fun _=>?_,fun h=>Bool.noConfusion h⟩ | refine⟨fun h=>Bool.noConfusion h,fun _=>?_⟩ | fail)
        refine⟨12,rfl,?_⟩
        exact ApS.err (hA.err (by rw[hP];unfold standbyE tsAt csAt nearB;grind) (by decide))
       ·replace h4:frozenB c s e.cell=false:=h4
        refine⟨Bool,fun b=>[(77,.bool b)],fun _=>[],fun b=>(b=true↔(mayB c e.tenant e.cell=false∨togB c e.cell (s.tenants.getD e.tenant.toNat default).home=true∨togB c e.cell (s.tenants.getD e.tenant.toNat default).target=true)),?_,?_⟩
        ·repeat' (first | refine⟨fun _=>?_,fun h=>Bool.noConfusion h⟩ | refine⟨fun h=>Bool.noConfusion h,fun _=>?_⟩ | refine⟨fun _=>?_,fun _=>?_⟩ | refine⟨⟨Nat.le_refl _,by omega,by omega⟩,?_⟩ | refine⟨CN1,x,c,_,_,rfl,kp_,hV,(show keeps _ _ from kp_),?_⟩ | refine⟨CN1,x,c,_,_,rfl,kp_,hV,?_⟩ | fail)
         all_goals (refine⟨_,?_,kp_,kp_⟩;dsimp only;grind)
        ·rintro b2 hb2
         refine⟨⟨by decide,rfl,rfl⟩,?_⟩
         refine⟨fun h5=>?_,fun h5=>?_⟩
         ·unfold togB at hb2
          repeat (first | refine⟨fun _=>?_,fun h=>Bool.noConfusion h⟩ | refine⟨fun h=>Bool.noConfusion h,fun _=>?_⟩ | fail)
          refine⟨11,rfl,?_⟩
          exact ApS.err (hA.err (by rw[hP];unfold standbyE tsAt csAt nearB;grind) (by decide))
         ·refine⟨(),?_,kp_,kp_⟩
          rw[hP];unfold togB at hb2;unfold standbyE tsAt csAt nearB;grind
 ·rintro-hmeet
  refine⟨⟨by decide,rfl,rfl⟩,?_⟩
  refine⟨tsC { (s.tenants.getD e.tenant.toNat default) with next:=e.cell },(by first | rfl | (show putN _ _ (tsC (List.getD _ _ _))=_;rw[getD_set hi];rfl)),?_⟩
  rw[setEl_set (by first | exact hi | (rw[List.length_set];exact hi))]
  try rw[List.set_set]
  have hk0:=hmeet
  have heff:effOf s e=(⟨e.tick,s.count+1,s.tenants.set e.tenant.toNat { (s.tenants.getD e.tenant.toNat default) with next:=e.cell },s.cells,s.proven,s.evac,s.low,s.high⟩:St):=by simp[effOf,stamped,setTen,tenEff,tsAt,hk]
  refine⟨CN1,x,c,⟨15,14,0⟩,y2,_,_,(⟨e.tick,s.count+1,s.tenants.set e.tenant.toNat { (s.tenants.getD e.tenant.toNat default) with next:=e.cell },s.cells,s.proven,s.evac,s.low,s.high⟩:St),rfl,⟨kp_,⟨(by first | rfl | (simp)),rfl,⟨_,_,_,rfl,(by first | exact Nat.le_refl _ | (simp)),fun k hk=>rfl⟩,.list rfl⟩⟩,⟨hV,by simp;omega⟩,?_⟩
  intro cap
  refine⟨fun hov=>?_,fun hov=>?_⟩
  ·exact ApS.err (hA.over hk0 (by unfold fitsB;simp[hk]) (by rw[heff];exact ov_yes hov))
  ·exact ApS.ok (M:=⟨15,14,0⟩) (y:=y2) (s:=(⟨e.tick,s.count+1,s.tenants.set e.tenant.toNat { (s.tenants.getD e.tenant.toNat default) with next:=e.cell },s.cells,s.proven,s.evac,s.low,s.high⟩:St)) (by rw[hA.fine hk0 (fun _=>by rw[heff];exact ov_no hov),heff]) (by first | rfl | (simp)) rfl ⟨_,_,_,rfl,rfl,(by first | exact Nat.le_refl _ | (simp)),fun k hk=>rfl⟩ ⟨_,_,_,rfl,rfl,Nat.le_refl _,fun k hk=>rfl⟩
set_option maxRecDepth 100000 in
set_option maxHeartbeats 4000000 in
theorem apMigrate (x:CfgK) (c:Cfg) (y:StK) (s:St) (e:Ent) (hA:ArH c s e) (hk:e.kind=6):sx ttU arF arD (bodyOf Tryz.f94) (argF 0 [cfgV CN1 x c,stV SN1 y s,entV' e]) (rdM c s noS) 10 (endx ttU Tryz.f94.results.toList fun v mem' _=>ApS mem' v (applyR c s e)):=by
 have hV:=hA.cfg
 have hI:=hA.inv
 have hE:=hA.ent
 have hcn:=hA.cnt
 have htk:=hA.tick
 have hlt:=hI.lt
 have hlc:=hI.lc
 have hnt:=hV.nt
 have hnc:=hV.nc
 have hct:=hI.count
 have hst:=hI.tick
 have hev:=hI.evac
 have hpv:=hI.proven
 have htb:=hA.tB
 have hP:kindE c s e=migrateE c s e:=by unfold kindE;simp[hk]
 have hf:=hE
 simp[entV,entOk,inS,inR,fT,fC,fO,fE,fW,fN,hk] at hf
 refine⟨CN1,x,c,e,rfl,kp_,hV,?_⟩
 refine⟨fun h=>absurd h (by rw[hE];decide),fun _=>?_⟩
 refine⟨fun h=>absurd (of_decide_eq_true h) (by omega),fun _=>?_⟩
 refine⟨fun h=>absurd (of_decide_eq_true h) (by omega),fun _=>?_⟩
 refine⟨SN1,y,s,rfl,⟨.list rfl,.list rfl⟩,⟨by omega,by omega⟩,?_⟩
 intro y2
 refine⟨fun h=>absurd h (by rw[hk];decide),fun _=>?_⟩
 refine⟨fun h=>absurd h (by rw[hk];decide),fun _=>?_⟩
 refine⟨fun h=>absurd h (by rw[hk];decide),fun _=>?_⟩
 refine⟨fun h=>absurd h (by rw[hk];decide),fun _=>?_⟩
 refine⟨fun h=>absurd h (by rw[hk];decide),fun _=>?_⟩
 refine⟨fun _=>?_,fun h=>absurd h (by rw[hk];decide)⟩
 rw[wrapi (n:=s.count+1) (by omega)]
 have hTi:=hI.ten _ (List.mem_of_getElem? (getD_get (d:=default) (show e.tenant.toNat<s.tenants.length by omega)))
 obtain⟨hT1,hT2,hT3,hT4,hT5,hT6,hT7,hT8,hT9,hT10,hT11,hT12⟩:=hTi
 have hi:e.tenant.toNat<s.tenants.length:=by omega
 refine⟨⟨Nat.le_refl _,by omega,by omega⟩,?_⟩
 refine⟨Bool,fun b=>[(14,.bool b)],fun _=>[],fun b=>(b=true↔((s.tenants.getD e.tenant.toNat default).placed=false∨(s.tenants.getD e.tenant.toNat default).shed=true∨0≤(s.tenants.getD e.tenant.toNat default).target)),?_,?_⟩
 ·repeat' (first | refine⟨fun _=>?_,fun h=>Bool.noConfusion h⟩ | refine⟨fun h=>Bool.noConfusion h,fun _=>?_⟩ | refine⟨fun _=>?_,fun _=>?_⟩ | refine⟨⟨Nat.le_refl _,by omega,by omega⟩,?_⟩ | fail)
  all_goals (refine⟨_,?_,kp_,kp_⟩;dsimp only;grind)
 ·rintro b1 hb1
  refine⟨⟨by decide,rfl,rfl⟩,?_⟩
  refine⟨fun h1=>?_,fun h1=>?_⟩
  ·repeat (first | refine⟨fun _=>?_,fun h=>Bool.noConfusion h⟩ | refine⟨fun h=>Bool.noConfusion h,fun _=>?_⟩ | fail)
   refine⟨4,rfl,?_⟩
   exact ApS.err (hA.err (by rw[hP];unfold migrateE tsAt csAt nearB;grind) (by decide))
  ·refine⟨Bool,fun b=>[(36,.bool b)],fun _=>[],fun b=>(b=true↔(e.cell=(s.tenants.getD e.tenant.toNat default).home∨e.cell=(s.tenants.getD e.tenant.toNat default).standby∨e.cell=(s.tenants.getD e.tenant.toNat default).next)),?_,?_⟩
   ·repeat' (first | refine⟨fun _=>?_,fun h=>Bool.noConfusion h⟩ | refine⟨fun h=>Bool.noConfusion h,fun _=>?_⟩ | refine⟨fun _=>?_,fun _=>?_⟩ | refine⟨⟨Nat.le_refl _,by omega,by omega⟩,?_⟩ | fail)
    all_goals (refine⟨_,?_,kp_,kp_⟩;dsimp only;grind)
   ·rintro b2 hb2
    refine⟨⟨by decide,rfl,rfl⟩,?_⟩
    refine⟨fun h2=>?_,fun h2=>?_⟩
    ·repeat (first | refine⟨fun _=>?_,fun h=>Bool.noConfusion h⟩ | refine⟨fun h=>Bool.noConfusion h,fun _=>?_⟩ | fail)
     refine⟨5,rfl,?_⟩
     exact ApS.err (hA.err (by rw[hP];unfold migrateE tsAt csAt nearB;grind) (by decide))
    ·refine⟨⟨Nat.le_refl _,by omega,by omega⟩,?_⟩
     refine⟨fun h3=>?_,fun h3=>?_⟩
     ·repeat (first | refine⟨fun _=>?_,fun h=>Bool.noConfusion h⟩ | refine⟨fun h=>Bool.noConfusion h,fun _=>?_⟩ | fail)
      refine⟨6,rfl,?_⟩
      exact ApS.err (hA.err (by rw[hP];unfold migrateE tsAt csAt nearB;grind) (by decide))
     ·refine⟨CN1,x,c,⟨15,14,0⟩,y2,_,_,⟨e.tick,s.count+1,s.tenants,s.cells,s.proven,s.evac,s.low,s.high⟩,e.cell,rfl,⟨kp_,⟨rfl,rfl,.list rfl,.list rfl⟩⟩,⟨hV,by dsimp only;omega⟩,?_⟩
      refine⟨fun h4=>?_,fun h4=>?_⟩
      ·replace h4:frozenB c s e.cell=true:=h4
       repeat (first | refine⟨fun _=>?_,fun h=>Bool.noConfusion h⟩ | refine⟨fun h=>Bool.noConfusion h,fun _=>?_⟩ | fail)
       refine⟨12,rfl,?_⟩
       exact ApS.err (hA.err (by rw[hP];unfold migrateE tsAt csAt nearB;grind) (by decide))
      ·replace h4:frozenB c s e.cell=false:=h4
       refine⟨Bool,fun b=>[(86,.bool b)],fun _=>[],fun b=>(b=true↔(mayB c e.tenant e.cell=false∨togB c e.cell (s.tenants.getD e.tenant.toNat default).standby=true∨togB c e.cell (s.tenants.getD e.tenant.toNat default).next=true)),?_,?_⟩
       ·repeat' (first | refine⟨fun _=>?_,fun h=>Bool.noConfusion h⟩ | refine⟨fun h=>Bool.noConfusion h,fun _=>?_⟩ | refine⟨fun _=>?_,fun _=>?_⟩ | refine⟨⟨Nat.le_refl _,by omega,by omega⟩,?_⟩ | refine⟨CN1,x,c,_,_,rfl,kp_,hV,(show keeps _ _ from kp_),?_⟩ | refine⟨CN1,x,c,_,_,rfl,kp_,hV,?_⟩ | fail)
        all_goals (refine⟨_,?_,kp_,kp_⟩;dsimp only;grind)
       ·rintro b3 hb3
        refine⟨⟨by decide,rfl,rfl⟩,?_⟩
        unfold togB at hb3
        refine⟨fun h5=>?_,fun h5=>?_⟩
        ·repeat (first | refine⟨fun _=>?_,fun h=>Bool.noConfusion h⟩ | refine⟨fun h=>Bool.noConfusion h,fun _=>?_⟩ | fail)
         refine⟨11,rfl,?_⟩
         exact ApS.err (hA.err (by rw[hP];unfold migrateE tsAt csAt nearB;grind) (by decide))
        ·refine⟨tsC { (s.tenants.getD e.tenant.toNat default) with target:=e.cell },(by first | rfl | (show putN _ _ (tsC (List.getD _ _ _))=_;rw[getD_set hi];rfl)),?_⟩
         rw[setEl_set (by first | exact hi | (rw[List.length_set];exact hi))]
         try rw[List.set_set]
         have hk0:kindE c s e=0:=by rw[hP];unfold migrateE tsAt csAt nearB;grind
         have heff:effOf s e=(⟨e.tick,s.count+1,s.tenants.set e.tenant.toNat { (s.tenants.getD e.tenant.toNat default) with target:=e.cell },s.cells,s.proven,s.evac,s.low,s.high⟩:St):=by simp[effOf,stamped,setTen,tenEff,tsAt,hk]
         refine⟨CN1,x,c,⟨15,14,0⟩,y2,_,_,(⟨e.tick,s.count+1,s.tenants.set e.tenant.toNat { (s.tenants.getD e.tenant.toNat default) with target:=e.cell },s.cells,s.proven,s.evac,s.low,s.high⟩:St),rfl,⟨kp_,⟨(by first | rfl | (simp)),rfl,⟨_,_,_,rfl,(by first | exact Nat.le_refl _ | (simp)),fun k hk=>rfl⟩,.list rfl⟩⟩,⟨hV,by simp;omega⟩,?_⟩
         intro cap
         refine⟨fun hov=>?_,fun hov=>?_⟩
         ·exact ApS.err (hA.over hk0 (by unfold fitsB;simp[hk]) (by rw[heff];exact ov_yes hov))
         ·exact ApS.ok (M:=⟨15,14,0⟩) (y:=y2) (s:=(⟨e.tick,s.count+1,s.tenants.set e.tenant.toNat { (s.tenants.getD e.tenant.toNat default) with target:=e.cell },s.cells,s.proven,s.evac,s.low,s.high⟩:St)) (by rw[hA.fine hk0 (fun _=>by rw[heff];exact ov_no hov),heff]) (by first | rfl | (simp)) rfl ⟨_,_,_,rfl,rfl,(by first | exact Nat.le_refl _ | (simp)),fun k hk=>rfl⟩ ⟨_,_,_,rfl,rfl,Nat.le_refl _,fun k hk=>rfl⟩
set_option maxRecDepth 100000 in
set_option maxHeartbeats 4000000 in
theorem apShed (x:CfgK) (c:Cfg) (y:StK) (s:St) (e:Ent) (hA:ArH c s e) (hk:e.kind=8):sx ttU arF arD (bodyOf Tryz.f94) (argF 0 [cfgV CN1 x c,stV SN1 y s,entV' e]) (rdM c s noS) 10 (endx ttU Tryz.f94.results.toList fun v mem' _=>ApS mem' v (applyR c s e)):=by
 have hV:=hA.cfg
 have hI:=hA.inv
 have hE:=hA.ent
 have hcn:=hA.cnt
 have htk:=hA.tick
 have hlt:=hI.lt
 have hlc:=hI.lc
 have hnt:=hV.nt
 have hnc:=hV.nc
 have hct:=hI.count
 have hst:=hI.tick
 have hev:=hI.evac
 have hpv:=hI.proven
 have htb:=hA.tB
 have hP:kindE c s e=shedE s e:=by unfold kindE;simp[hk]
 have hf:=hE
 simp[entV,entOk,inS,inR,fT,fC,fO,fE,fW,fN,hk] at hf
 refine⟨CN1,x,c,e,rfl,kp_,hV,?_⟩
 refine⟨fun h=>absurd h (by rw[hE];decide),fun _=>?_⟩
 refine⟨fun h=>absurd (of_decide_eq_true h) (by omega),fun _=>?_⟩
 refine⟨fun h=>absurd (of_decide_eq_true h) (by omega),fun _=>?_⟩
 refine⟨SN1,y,s,rfl,⟨.list rfl,.list rfl⟩,⟨by omega,by omega⟩,?_⟩
 intro y2
 refine⟨fun h=>absurd h (by rw[hk];decide),fun _=>?_⟩
 refine⟨fun h=>absurd h (by rw[hk];decide),fun _=>?_⟩
 refine⟨fun h=>absurd h (by rw[hk];decide),fun _=>?_⟩
 refine⟨fun h=>absurd h (by rw[hk];decide),fun _=>?_⟩
 refine⟨fun h=>absurd h (by rw[hk];decide),fun _=>?_⟩
 refine⟨fun h=>absurd h (by rw[hk];decide),fun _=>?_⟩
 refine⟨fun h=>absurd h (by rw[hk];decide),fun _=>?_⟩
 refine⟨fun _=>?_,fun h=>absurd h (by rw[hk];decide)⟩
 rw[wrapi (n:=s.count+1) (by omega)]
 have hTi:=hI.ten _ (List.mem_of_getElem? (getD_get (d:=default) (show e.tenant.toNat<s.tenants.length by omega)))
 obtain⟨hT1,hT2,hT3,hT4,hT5,hT6,hT7,hT8,hT9,hT10,hT11,hT12⟩:=hTi
 have hi:e.tenant.toNat<s.tenants.length:=by omega
 refine⟨⟨Nat.le_refl _,by omega,by omega⟩,?_⟩
 refine⟨fun hn=>?_,fun hn=>?_⟩
 ·have hn1:e.n=1:=by simpa using hn
  refine⟨Bool,fun b=>[(17,.bool b)],fun _=>[],fun b=>(b=true↔((s.tenants.getD e.tenant.toNat default).placed=false∨(s.tenants.getD e.tenant.toNat default).shed=true)),?_,?_⟩
  ·repeat' (first | refine⟨fun _=>?_,fun h=>Bool.noConfusion h⟩ | refine⟨fun h=>Bool.noConfusion h,fun _=>?_⟩ | refine⟨fun _=>?_,fun _=>?_⟩ | refine⟨⟨Nat.le_refl _,by omega,by omega⟩,?_⟩ | fail)
   all_goals (refine⟨_,?_,kp_,kp_⟩;dsimp only;grind)
  ·rintro b1 hb1
   refine⟨⟨by decide,rfl,rfl⟩,?_⟩
   refine⟨fun h1=>?_,fun h1=>?_⟩
   ·repeat (first | refine⟨fun _=>?_,fun h=>Bool.noConfusion h⟩ | refine⟨fun h=>Bool.noConfusion h,fun _=>?_⟩ | fail)
    refine⟨4,rfl,?_⟩
    exact ApS.err (hA.err (by rw[hP];unfold shedE tsAt csAt;grind) (by decide))
   ·refine⟨fun h2=>?_,fun h2=>?_⟩
    ·repeat (first | refine⟨fun _=>?_,fun h=>Bool.noConfusion h⟩ | refine⟨fun h=>Bool.noConfusion h,fun _=>?_⟩ | fail)
     refine⟨9,rfl,?_⟩
     exact ApS.err (hA.err (by rw[hP];unfold shedE tsAt csAt;grind) (by decide))
    ·refine⟨tsC { (s.tenants.getD e.tenant.toNat default) with shed:=true },(by first | rfl | (show putN _ _ (tsC (List.getD _ _ _))=_;rw[getD_set hi];rfl)),?_⟩
     rw[setEl_set (by first | exact hi | (rw[List.length_set];exact hi))]
     try rw[List.set_set]
     refine⟨tsC { (s.tenants.getD e.tenant.toNat default) with shed:=true,target:=-1 },(by first | rfl | (show putN _ _ (tsC (List.getD _ _ _))=_;rw[getD_set hi];rfl)),?_⟩
     rw[setEl_set (by first | exact hi | (rw[List.length_set];exact hi))]
     try rw[List.set_set]
     have hk0:kindE c s e=0:=by rw[hP];unfold shedE tsAt csAt;grind
     have heff:effOf s e=(⟨e.tick,s.count+1,s.tenants.set e.tenant.toNat { (s.tenants.getD e.tenant.toNat default) with shed:=true,target:=-1 },s.cells,s.proven,s.evac,s.low,s.high⟩:St):=by simp[effOf,stamped,setTen,setCel,tenEff,celEff,tsAt,csAt,hk,hn1]
     exact ApS.ok (M:=⟨15,14,0⟩) (y:=y2) (s:=(⟨e.tick,s.count+1,s.tenants.set e.tenant.toNat { (s.tenants.getD e.tenant.toNat default) with shed:=true,target:=-1 },s.cells,s.proven,s.evac,s.low,s.high⟩:St)) (by rw[hA.fine hk0 (fun q=>absurd q (by unfold fitsB;simp[hk,hn1])),heff]) (by first | rfl | (simp)) (by first | rfl | (simp)) ⟨_,_,_,rfl,rfl,(by first | exact Nat.le_refl _ | (simp)),fun k hk=>rfl⟩ ⟨_,_,_,rfl,rfl,(by first | exact Nat.le_refl _ | (simp)),fun k hk=>rfl⟩
 ·have hn1:¬ e.n=1:=by simpa using hn
  have hn0:e.n=0:=by omega
  refine⟨fun h1=>?_,fun h1=>?_⟩
  ·repeat (first | refine⟨fun _=>?_,fun h=>Bool.noConfusion h⟩ | refine⟨fun h=>Bool.noConfusion h,fun _=>?_⟩ | fail)
   refine⟨4,rfl,?_⟩
   exact ApS.err (hA.err (by rw[hP];unfold shedE tsAt csAt;grind) (by decide))
  ·have hsh:(s.tenants.getD e.tenant.toNat default).shed=true:=by simpa using h1
   have hhm:=hT11 (hT12 hsh)
   refine⟨⟨Nat.le_refl _,by omega,by omega⟩,?_⟩
   refine⟨fun h2=>?_,fun h2=>?_⟩
   ·repeat (first | refine⟨fun _=>?_,fun h=>Bool.noConfusion h⟩ | refine⟨fun h=>Bool.noConfusion h,fun _=>?_⟩ | fail)
    refine⟨6,rfl,?_⟩
    exact ApS.err (hA.err (by rw[hP];unfold shedE tsAt csAt;grind) (by decide))
   ·refine⟨tsC { (s.tenants.getD e.tenant.toNat default) with shed:=false },(by first | rfl | (show putN _ _ (tsC (List.getD _ _ _))=_;rw[getD_set hi];rfl)),?_⟩
    rw[setEl_set (by first | exact hi | (rw[List.length_set];exact hi))]
    try rw[List.set_set]
    have hk0:kindE c s e=0:=by rw[hP];unfold shedE tsAt csAt;grind
    have heff:effOf s e=(⟨e.tick,s.count+1,s.tenants.set e.tenant.toNat { (s.tenants.getD e.tenant.toNat default) with shed:=false },s.cells,s.proven,s.evac,s.low,s.high⟩:St):=by simp[effOf,stamped,setTen,tenEff,tsAt,hk,hn0]
    refine⟨CN1,x,c,⟨15,14,0⟩,y2,_,_,(⟨e.tick,s.count+1,s.tenants.set e.tenant.toNat { (s.tenants.getD e.tenant.toNat default) with shed:=false },s.cells,s.proven,s.evac,s.low,s.high⟩:St),rfl,⟨kp_,⟨(by first | rfl | (simp)),rfl,⟨_,_,_,rfl,(by first | exact Nat.le_refl _ | (simp)),fun k hk=>rfl⟩,.list rfl⟩⟩,⟨hV,by simp;omega⟩,?_⟩
    intro cap
    refine⟨fun hov=>?_,fun hov=>?_⟩
    ·exact ApS.err (hA.over hk0 (by unfold fitsB;simp[hk,hn0]) (by rw[heff];exact ov_yes hov))
    ·exact ApS.ok (M:=⟨15,14,0⟩) (y:=y2) (s:=(⟨e.tick,s.count+1,s.tenants.set e.tenant.toNat { (s.tenants.getD e.tenant.toNat default) with shed:=false },s.cells,s.proven,s.evac,s.low,s.high⟩:St)) (by rw[hA.fine hk0 (fun _=>by rw[heff];exact ov_no hov),heff]) (by first | rfl | (simp)) rfl ⟨_,_,_,rfl,rfl,(by first | exact Nat.le_refl _ | (simp)),fun k hk=>rfl⟩ ⟨_,_,_,rfl,rfl,Nat.le_refl _,fun k hk=>rfl⟩
theorem i64_or_nat (a b:Nat) (ha:a<4611686018427387904) (hb:b<4611686018427387904):bits .or .i64 (a:Int) (b:Int)=((a ||| b:Nat):Int):=by
 have hx:a ||| b<2 ^ 62:=Nat.or_lt_two_pow (by omega) (by omega)
 have h1:(BitVec.ofInt 64 (a:Int)).toNat=a:=by
  rw[BitVec.ofInt_natCast,BitVec.toNat_ofNat];exact Nat.mod_eq_of_lt (by omega)
 have h2:(BitVec.ofInt 64 (b:Int)).toNat=b:=by
  rw[BitVec.ofInt_natCast,BitVec.toNat_ofNat];exact Nat.mod_eq_of_lt (by omega)
 show IntKind.i64.wrap ((BitVec.ofInt 64 (a:Int) ||| BitVec.ofInt 64 (b:Int)).toNat:Int)=_
 rw[BitVec.toNat_or,h1,h2,IntKind.wrap_i64]
 omega
theorem i64_orBit (a n:Int) (h0:0≤a) (h1:a<1073741824) (hn:0≤n) (hn2:n<30):bits .or .i64 a (2 ^ n.toNat)=orBit a n:=by
 obtain⟨k,rfl⟩:=Int.eq_ofNat_of_zero_le h0
 have hp:2 ^ n.toNat<2 ^ 30:=Nat.pow_lt_pow_right (by omega) (by omega)
 have:=i64_or_nat k (2 ^ n.toNat) (by omega) (by omega)
 unfold orBit
 rw[Nat.one_shiftLeft,Int.toNat_natCast]
 rw[← this]
 simp
theorem shl_bits (n:Int) (h0:0≤n) (h1:n<30):IntKind.i64.wrap (1 * 2 ^ min (IntKind.u64.wrap n).toNat IntKind.i64.bits)=2 ^ n.toNat:=by
 have e1:IntKind.u64.wrap n=n:=by rw[IntKind.wrap_u64];omega
 have e2:min n.toNat IntKind.i64.bits=n.toNat:=Nat.min_eq_left (by show n.toNat≤64;omega)
 have hp:(2:Int) ^ n.toNat=((2 ^ n.toNat:Nat):Int):=by simp
 have hq:2 ^ n.toNat<2 ^ 30:=Nat.pow_lt_pow_right (by omega) (by omega)
 rw[e1,e2,Int.one_mul,hp]
 generalize 2 ^ n.toNat=q at hq ⊢
 exact wrapi (by omega)
theorem u64_nonneg (n:Int) (h0:0≤n) (h1:n<30):0≤IntKind.u64.wrap n:=by rw[IntKind.wrap_u64];omega
abbrev orRaw (a n:Int):Int:=IntKind.i64.wrap ((BitVec.ofInt IntKind.i64.bits a ||| BitVec.ofInt IntKind.i64.bits (IntKind.i64.wrap (1 * 2 ^ min (IntKind.u64.wrap n).toNat IntKind.i64.bits))).toNat:Nat)
abbrev xorRaw (a n:Int):Int:=IntKind.i64.wrap ((BitVec.ofInt IntKind.i64.bits a ^^^ BitVec.ofInt IntKind.i64.bits (IntKind.i64.wrap (1 * 2 ^ min (IntKind.u64.wrap n).toNat IntKind.i64.bits))).toNat:Nat)
theorem orRaw_eq (a n:Int) (h0:0≤a) (h1:a<1073741824) (hn:0≤n) (hn2:n<30):orRaw a n=orBit a n:=by
 unfold orRaw
 rw[shl_bits n hn hn2]
 exact i64_orBit a n h0 h1 hn hn2
theorem evac_xor:∀ (a:Fin 16) (b:Fin 4),IntKind.i64.wrap ((BitVec.ofInt 64 (a.val:Int) ^^^ BitVec.ofInt 64 (2 ^ b.val)).toNat:Nat)=((a.val ^^^ (1 <<< b.val):Nat):Int):=by decide +kernel
theorem xorRaw_eq (a n:Int) (h0:0≤a) (h1:a<16) (hn:0≤n) (hn2:n<4):xorRaw a n=flipBit a n:=by
 unfold xorRaw
 rw[shl_bits n hn (by omega)]
 obtain⟨k,rfl⟩:=Int.eq_ofNat_of_zero_le h0
 obtain⟨m,rfl⟩:=Int.eq_ofNat_of_zero_le hn
 have:=evac_xor ⟨k,by omega⟩ ⟨m,by omega⟩
 exact this
set_option maxRecDepth 100000 in
set_option maxHeartbeats 4000000 in
theorem apMode (x:CfgK) (c:Cfg) (y:StK) (s:St) (e:Ent) (hA:ArH c s e) (hk:e.kind=9):sx ttU arF arD (bodyOf Tryz.f94) (argF 0 [cfgV CN1 x c,stV SN1 y s,entV' e]) (rdM c s noS) 10 (endx ttU Tryz.f94.results.toList fun v mem' _=>ApS mem' v (applyR c s e)):=by
 have hV:=hA.cfg
 have hI:=hA.inv
 have hE:=hA.ent
 have hcn:=hA.cnt
 have htk:=hA.tick
 have hlt:=hI.lt
 have hlc:=hI.lc
 have hnt:=hV.nt
 have hnc:=hV.nc
 have hct:=hI.count
 have hst:=hI.tick
 have hev:=hI.evac
 have hpv:=hI.proven
 have htb:=hA.tB
 have hP:kindE c s e=modeE s e:=by unfold kindE;simp[hk]
 have hf:=hE
 simp[entV,entOk,inS,inR,fT,fC,fO,fE,fW,fN,hk] at hf
 refine⟨CN1,x,c,e,rfl,kp_,hV,?_⟩
 refine⟨fun h=>absurd h (by rw[hE];decide),fun _=>?_⟩
 refine⟨fun h=>absurd (of_decide_eq_true h) (by omega),fun _=>?_⟩
 refine⟨fun h=>absurd (of_decide_eq_true h) (by omega),fun _=>?_⟩
 refine⟨SN1,y,s,rfl,⟨.list rfl,.list rfl⟩,⟨by omega,by omega⟩,?_⟩
 intro y2
 refine⟨fun h=>absurd h (by rw[hk];decide),fun _=>?_⟩
 refine⟨fun h=>absurd h (by rw[hk];decide),fun _=>?_⟩
 refine⟨fun h=>absurd h (by rw[hk];decide),fun _=>?_⟩
 refine⟨fun h=>absurd h (by rw[hk];decide),fun _=>?_⟩
 refine⟨fun h=>absurd h (by rw[hk];decide),fun _=>?_⟩
 refine⟨fun h=>absurd h (by rw[hk];decide),fun _=>?_⟩
 refine⟨fun h=>absurd h (by rw[hk];decide),fun _=>?_⟩
 refine⟨fun h=>absurd h (by rw[hk];decide),fun _=>?_⟩
 refine⟨fun _=>?_,fun h=>absurd h (by rw[hk];decide)⟩
 rw[wrapi (n:=s.count+1) (by omega)]
 have hi:e.cell.toNat<s.cells.length:=by omega
 refine⟨⟨Nat.le_refl _,by omega,by omega⟩,?_⟩
 refine⟨fun h1=>?_,fun h1=>?_⟩
 ·repeat (first | refine⟨fun _=>?_,fun h=>Bool.noConfusion h⟩ | refine⟨fun h=>Bool.noConfusion h,fun _=>?_⟩ | fail)
  refine⟨4,rfl,?_⟩
  exact ApS.err (hA.err (by rw[hP];unfold modeE csAt;grind) (by decide))
 ·refine⟨⟨Nat.le_refl _,by omega,by omega⟩,kp_,?_⟩
  refine⟨csC { (s.cells.getD e.cell.toNat default) with mode:=e.n },(by first | rfl | (show putN _ _ (csC (List.getD _ _ _))=_;rw[getD_set hi];rfl)),?_⟩
  rw[setEl_set (by first | exact hi | (rw[List.length_set];exact hi))]
  try rw[List.set_set]
  refine⟨kp_,?_⟩
  refine⟨⟨Nat.le_refl _,by omega,by omega⟩,?_⟩
  refine⟨csC { (s.cells.getD e.cell.toNat default) with mode:=e.n,since:=e.tick },(by first | rfl | (show putN _ _ (csC (List.getD _ _ _))=_;rw[getD_set hi];rfl)),?_⟩
  rw[setEl_set (by first | exact hi | (rw[List.length_set];exact hi))]
  try rw[List.set_set]
  have hk0:kindE c s e=0:=by rw[hP];unfold modeE csAt;grind
  have heff:effOf s e=(⟨e.tick,s.count+1,s.tenants,s.cells.set e.cell.toNat { (s.cells.getD e.cell.toNat default) with mode:=e.n,since:=e.tick },s.proven,s.evac,s.low,s.high⟩:St):=by simp[effOf,stamped,setTen,setCel,tenEff,celEff,tsAt,csAt,hk]
  exact ApS.ok (M:=⟨15,14,0⟩) (y:=y2) (s:=(⟨e.tick,s.count+1,s.tenants,s.cells.set e.cell.toNat { (s.cells.getD e.cell.toNat default) with mode:=e.n,since:=e.tick },s.proven,s.evac,s.low,s.high⟩:St)) (by rw[hA.fine hk0 (fun q=>absurd q (by unfold fitsB;simp[hk])),heff]) (by first | rfl | (simp)) (by first | rfl | (simp)) ⟨_,_,_,rfl,rfl,(by first | exact Nat.le_refl _ | (simp)),fun k hk=>rfl⟩ ⟨_,_,_,rfl,rfl,(by first | exact Nat.le_refl _ | (simp)),fun k hk=>rfl⟩
set_option maxRecDepth 100000 in
set_option maxHeartbeats 4000000 in
theorem apEvac (x:CfgK) (c:Cfg) (y:StK) (s:St) (e:Ent) (hA:ArH c s e) (hk:e.kind=13):sx ttU arF arD (bodyOf Tryz.f94) (argF 0 [cfgV CN1 x c,stV SN1 y s,entV' e]) (rdM c s noS) 10 (endx ttU Tryz.f94.results.toList fun v mem' _=>ApS mem' v (applyR c s e)):=by
 have hV:=hA.cfg
 have hI:=hA.inv
 have hE:=hA.ent
 have hcn:=hA.cnt
 have htk:=hA.tick
 have hlt:=hI.lt
 have hlc:=hI.lc
 have hnt:=hV.nt
 have hnc:=hV.nc
 have hct:=hI.count
 have hst:=hI.tick
 have hev:=hI.evac
 have hpv:=hI.proven
 have htb:=hA.tB
 have hP:kindE c s e=evacE s e:=by unfold kindE;simp[hk]
 have hf:=hE
 simp[entV,entOk,inS,inR,fT,fC,fO,fE,fW,fN,hk] at hf
 refine⟨CN1,x,c,e,rfl,kp_,hV,?_⟩
 refine⟨fun h=>absurd h (by rw[hE];decide),fun _=>?_⟩
 refine⟨fun h=>absurd (of_decide_eq_true h) (by omega),fun _=>?_⟩
 refine⟨fun h=>absurd (of_decide_eq_true h) (by omega),fun _=>?_⟩
 refine⟨SN1,y,s,rfl,⟨.list rfl,.list rfl⟩,⟨by omega,by omega⟩,?_⟩
 intro y2
 refine⟨fun h=>absurd h (by rw[hk];decide),fun _=>?_⟩
 refine⟨fun h=>absurd h (by rw[hk];decide),fun _=>?_⟩
 refine⟨fun h=>absurd h (by rw[hk];decide),fun _=>?_⟩
 refine⟨fun h=>absurd h (by rw[hk];decide),fun _=>?_⟩
 refine⟨fun h=>absurd h (by rw[hk];decide),fun _=>?_⟩
 refine⟨fun h=>absurd h (by rw[hk];decide),fun _=>?_⟩
 refine⟨fun h=>absurd h (by rw[hk];decide),fun _=>?_⟩
 refine⟨fun h=>absurd h (by rw[hk];decide),fun _=>?_⟩
 refine⟨fun h=>absurd h (by rw[hk];decide),fun _=>?_⟩
 refine⟨fun h=>absurd h (by rw[hk];decide),fun _=>?_⟩
 refine⟨fun h=>absurd h (by rw[hk];decide),fun _=>?_⟩
 refine⟨fun h=>absurd h (by rw[hk];decide),fun _=>?_⟩
 refine⟨fun _=>?_,fun h=>absurd h (by rw[hk];decide)⟩
 rw[wrapi (n:=s.count+1) (by omega)]
 refine⟨_,_,rfl,⟨by omega,by omega⟩,?_⟩
 refine⟨kp_,?_⟩
 refine⟨fun h1=>?_,fun h1=>?_⟩
 ·repeat (first | refine⟨fun _=>?_,fun h=>Bool.noConfusion h⟩ | refine⟨fun h=>Bool.noConfusion h,fun _=>?_⟩ | fail)
  refine⟨4,rfl,?_⟩
  exact ApS.err (hA.err (by rw[hP];unfold evacE;grind) (by decide))
 ·refine⟨u64_nonneg _ (by omega) (by have:=hV.reg;omega),?_⟩
  have hx:=xorRaw_eq s.evac e.other (by omega) (by omega) (by omega) (by have:=hV.reg;omega)
  have hk0:kindE c s e=0:=by rw[hP];unfold evacE;grind
  have heff:effOf s e=(⟨e.tick,s.count+1,s.tenants,s.cells,s.proven,flipBit s.evac e.other,s.low,s.high⟩:St):=by simp[effOf,stamped,setTen,setCel,tenEff,celEff,tsAt,csAt,hk]
  exact ApS.ok (M:=⟨15,14,0⟩) (y:=y2) (s:=(⟨e.tick,s.count+1,s.tenants,s.cells,s.proven,xorRaw s.evac e.other,s.low,s.high⟩:St)) (by rw[hA.fine hk0 (fun q=>absurd q (by unfold fitsB;simp[hk])),heff,← hx]) rfl rfl ⟨_,_,_,rfl,rfl,Nat.le_refl _,fun k hk=>rfl⟩ ⟨_,_,_,rfl,rfl,Nat.le_refl _,fun k hk=>rfl⟩
set_option maxRecDepth 100000 in
set_option maxHeartbeats 4000000 in
theorem apContract (x:CfgK) (c:Cfg) (y:StK) (s:St) (e:Ent) (hA:ArH c s e) (hk:e.kind=15):sx ttU arF arD (bodyOf Tryz.f94) (argF 0 [cfgV CN1 x c,stV SN1 y s,entV' e]) (rdM c s noS) 10 (endx ttU Tryz.f94.results.toList fun v mem' _=>ApS mem' v (applyR c s e)):=by
 have hV:=hA.cfg
 have hI:=hA.inv
 have hE:=hA.ent
 have hcn:=hA.cnt
 have htk:=hA.tick
 have hlt:=hI.lt
 have hlc:=hI.lc
 have hnt:=hV.nt
 have hnc:=hV.nc
 have hct:=hI.count
 have hst:=hI.tick
 have hev:=hI.evac
 have hpv:=hI.proven
 have htb:=hA.tB
 have hP:kindE c s e=contractE s:=by unfold kindE;simp[hk]
 have hf:=hE
 simp[entV,entOk,inS,inR,fT,fC,fO,fE,fW,fN,hk] at hf
 refine⟨CN1,x,c,e,rfl,kp_,hV,?_⟩
 refine⟨fun h=>absurd h (by rw[hE];decide),fun _=>?_⟩
 refine⟨fun h=>absurd (of_decide_eq_true h) (by omega),fun _=>?_⟩
 refine⟨fun h=>absurd (of_decide_eq_true h) (by omega),fun _=>?_⟩
 refine⟨SN1,y,s,rfl,⟨.list rfl,.list rfl⟩,⟨by omega,by omega⟩,?_⟩
 intro y2
 refine⟨fun h=>absurd h (by rw[hk];decide),fun _=>?_⟩
 refine⟨fun h=>absurd h (by rw[hk];decide),fun _=>?_⟩
 refine⟨fun h=>absurd h (by rw[hk];decide),fun _=>?_⟩
 refine⟨fun h=>absurd h (by rw[hk];decide),fun _=>?_⟩
 refine⟨fun h=>absurd h (by rw[hk];decide),fun _=>?_⟩
 refine⟨fun h=>absurd h (by rw[hk];decide),fun _=>?_⟩
 refine⟨fun h=>absurd h (by rw[hk];decide),fun _=>?_⟩
 refine⟨fun h=>absurd h (by rw[hk];decide),fun _=>?_⟩
 refine⟨fun h=>absurd h (by rw[hk];decide),fun _=>?_⟩
 refine⟨fun h=>absurd h (by rw[hk];decide),fun _=>?_⟩
 refine⟨fun h=>absurd h (by rw[hk];decide),fun _=>?_⟩
 refine⟨fun h=>absurd h (by rw[hk];decide),fun _=>?_⟩
 refine⟨fun h=>absurd h (by rw[hk];decide),fun _=>?_⟩
 refine⟨fun h=>absurd h (by rw[hk];decide),fun _=>?_⟩
 refine⟨fun _=>?_,fun h=>absurd h (by rw[hk];decide)⟩
 rw[wrapi (n:=s.count+1) (by omega)]
 refine⟨fun h1=>?_,fun h1=>?_⟩
 ·repeat (first | refine⟨fun _=>?_,fun h=>Bool.noConfusion h⟩ | refine⟨fun h=>Bool.noConfusion h,fun _=>?_⟩ | fail)
  refine⟨4,rfl,?_⟩
  exact ApS.err (hA.err (by rw[hP];unfold contractE;grind) (by decide))
 ·have hk0:kindE c s e=0:=by rw[hP];unfold contractE;grind
  have heff:effOf s e=(⟨e.tick,s.count+1,s.tenants,s.cells,s.proven,s.evac,s.high,s.high⟩:St):=by simp[effOf,stamped,setTen,setCel,tenEff,celEff,tsAt,csAt,hk]
  exact ApS.ok (M:=⟨15,14,0⟩) (y:=y2) (s:=(⟨e.tick,s.count+1,s.tenants,s.cells,s.proven,s.evac,s.high,s.high⟩:St)) (by rw[hA.fine hk0 (fun q=>absurd q (by unfold fitsB;simp[hk])),heff]) (by first | rfl | (simp)) (by first | rfl | (simp)) ⟨_,_,_,rfl,rfl,(by first | exact Nat.le_refl _ | (simp)),fun k hk=>rfl⟩ ⟨_,_,_,rfl,rfl,(by first | exact Nat.le_refl _ | (simp)),fun k hk=>rfl⟩
set_option maxRecDepth 100000 in
set_option maxHeartbeats 4000000 in
theorem apNote (x:CfgK) (c:Cfg) (y:StK) (s:St) (e:Ent) (hA:ArH c s e) (hk:e.kind=16):sx ttU arF arD (bodyOf Tryz.f94) (argF 0 [cfgV CN1 x c,stV SN1 y s,entV' e]) (rdM c s noS) 10 (endx ttU Tryz.f94.results.toList fun v mem' _=>ApS mem' v (applyR c s e)):=by
 have hV:=hA.cfg
 have hI:=hA.inv
 have hE:=hA.ent
 have hcn:=hA.cnt
 have htk:=hA.tick
 have hlt:=hI.lt
 have hlc:=hI.lc
 have hnt:=hV.nt
 have hnc:=hV.nc
 have hct:=hI.count
 have hst:=hI.tick
 have hev:=hI.evac
 have hpv:=hI.proven
 have htb:=hA.tB
 have hP:kindE c s e=0:=by unfold kindE;simp[hk]
 have hf:=hE
 simp[entV,entOk,inS,inR,fT,fC,fO,fE,fW,fN,hk] at hf
 refine⟨CN1,x,c,e,rfl,kp_,hV,?_⟩
 refine⟨fun h=>absurd h (by rw[hE];decide),fun _=>?_⟩
 refine⟨fun h=>absurd (of_decide_eq_true h) (by omega),fun _=>?_⟩
 refine⟨fun h=>absurd (of_decide_eq_true h) (by omega),fun _=>?_⟩
 refine⟨SN1,y,s,rfl,⟨.list rfl,.list rfl⟩,⟨by omega,by omega⟩,?_⟩
 intro y2
 refine⟨fun h=>absurd h (by rw[hk];decide),fun _=>?_⟩
 refine⟨fun h=>absurd h (by rw[hk];decide),fun _=>?_⟩
 refine⟨fun h=>absurd h (by rw[hk];decide),fun _=>?_⟩
 refine⟨fun h=>absurd h (by rw[hk];decide),fun _=>?_⟩
 refine⟨fun h=>absurd h (by rw[hk];decide),fun _=>?_⟩
 refine⟨fun h=>absurd h (by rw[hk];decide),fun _=>?_⟩
 refine⟨fun h=>absurd h (by rw[hk];decide),fun _=>?_⟩
 refine⟨fun h=>absurd h (by rw[hk];decide),fun _=>?_⟩
 refine⟨fun h=>absurd h (by rw[hk];decide),fun _=>?_⟩
 refine⟨fun h=>absurd h (by rw[hk];decide),fun _=>?_⟩
 refine⟨fun h=>absurd h (by rw[hk];decide),fun _=>?_⟩
 refine⟨fun h=>absurd h (by rw[hk];decide),fun _=>?_⟩
 refine⟨fun h=>absurd h (by rw[hk];decide),fun _=>?_⟩
 refine⟨fun h=>absurd h (by rw[hk];decide),fun _=>?_⟩
 refine⟨fun h=>absurd h (by rw[hk];decide),fun _=>?_⟩
 rw[wrapi (n:=s.count+1) (by omega)]
 have hk0:kindE c s e=0:=hP
 have heff:effOf s e=(⟨e.tick,s.count+1,s.tenants,s.cells,s.proven,s.evac,s.low,s.high⟩:St):=by simp[effOf,stamped,setTen,setCel,tenEff,celEff,tsAt,csAt,hk]
 exact ApS.ok (M:=⟨15,14,0⟩) (y:=y2) (s:=(⟨e.tick,s.count+1,s.tenants,s.cells,s.proven,s.evac,s.low,s.high⟩:St)) (by rw[hA.fine hk0 (fun q=>absurd q (by unfold fitsB;simp[hk])),heff]) (by first | rfl | (simp)) (by first | rfl | (simp)) ⟨_,_,_,rfl,rfl,(by first | exact Nat.le_refl _ | (simp)),fun k hk=>rfl⟩ ⟨_,_,_,rfl,rfl,(by first | exact Nat.le_refl _ | (simp)),fun k hk=>rfl⟩
end Go.Proofs.YtchhdflealgkaaaGreat
