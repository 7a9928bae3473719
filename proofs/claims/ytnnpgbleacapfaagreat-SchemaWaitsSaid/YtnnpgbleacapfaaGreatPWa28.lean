import Derived.Test.YtnnpgbleacapfaaGreatPc27
namespace Go.Proofs.YtnnpgbleacapfaaGreat
open Go.RowKit
set_option linter.unusedSimpArgs false
set_option linter.unusedVariables false
/-! The way of the schemas: plain facts of SchemaGoes and SchemaWaits. -/
theorem blkV_blockB {c:Cfg} {s:St} {x:CS} (h:CsInv c s.low s.high x):(blkV c s x.running||blkV c s x.wanted)=blockB c s x:=by
 have h1:=h.running
 have h2:=h.wanted
 unfold blkV blockB verAt
 rw[decide_eq_true h1.1,decide_eq_true h1.2,decide_eq_true h2.1,decide_eq_true h2.2]
 simp
theorem blockL_nil {c:Cfg} {s:St} (hI:StInv c s):blockL c s s.cells.length=[]↔s.cells.any (blockB c s)=false:=by
 unfold blockL
 rw[List.map_eq_nil_iff,List.filter_eq_nil_iff,List.any_eq_false]
 constructor
 ·intro h x hx
  obtain⟨i,hi,rfl⟩:=List.getElem_of_mem hx
  have:=h i (List.mem_range.2 hi)
  rw[List.getD_eq_getElem?_getD,List.getElem?_eq_getElem hi,Option.getD_some,blkV_blockB (hI.cel _ hx)] at this
  exact this
 ·intro h i hi
  have hi:=List.mem_range.1 hi
  rw[List.getD_eq_getElem?_getD,List.getElem?_eq_getElem hi,Option.getD_some,blkV_blockB (hI.cel _ (List.getElem_mem hi))]
  exact h _ (List.getElem_mem hi)
theorem stepsP_le {s:St} {g:Int} (h:0≤s.low∧s.low≤s.high) (hg:0≤g∧g<5):0≤stepsP s g∧stepsP s g≤9:=by
 unfold stepsP
 split<;>omega
theorem stepsP_15 {s:St} (g t:Int) (h:s.low<s.high):stepsP (effOf s (entK 15 t)) g=stepsP s g-1:=by
 rw[eff_15]
 unfold stepsP
 rw[if_neg (show ¬ s.high<s.high by omega),if_pos h]
 show 0+2 * max 0 (g-s.high)=_
 omega
theorem stepsP_14 {s:St} {g t:Int} (h:s.low=s.high) (hg:s.high<g):stepsP (effOf s (entK 14 t)) g=stepsP s g-1:=by
 rw[eff_14]
 unfold stepsP
 rw[if_pos (show s.low<s.high+1 by omega),if_neg (show ¬ s.low<s.high by omega)]
 show 1+2 * max 0 (g-(s.high+1))=_
 omega
theorem stepsP_zero {s:St} {g:Int} (h:s.low=s.high) (hg:g≤s.high):stepsP s g=0:=by
 unfold stepsP
 rw[if_neg (by omega)]
 omega
theorem stepsP_pos {s:St} {g:Int} (h:s.low=s.high) (hg:s.high<g):0<stepsP s g:=by
 unfold stepsP
 rw[if_neg (by omega)]
 omega
inductive Step (c:Cfg) (s:St) (g:Int):Prop where
 | done (h:nextP c s g true s.tick=(entZ,1)) (h1:s.high=s.low) (h2:g≤s.high) (h3:stepsP s g=0)
 | wait (h:nextP c s g true s.tick=(entZ,2)) (h1:s.high=s.low) (h2:s.high<g) (h3:0<stepsP s g) (h4:0<(blockL c s s.cells.length).length)
 | go (k p:Int) (x:St) (hk:k=15∧p=5∧s.low<s.high∨k=14∧p=3∧s.high=s.low∧s.high<g∧blockL c s s.cells.length=[]) (h:nextP c s g true s.tick=(entK k s.tick,p)) (h1:applyP c s (entK k s.tick)=(x,0)) (h2:stepsP x g=stepsP s g-1) (h3:x=effOf s (entK k s.tick))
theorem step_of {c:Cfg} {s:St} {g:Int} (hI:StInv c s) (hct:s.count≤4000) (hg:g<30):Step c s g:=by
 have hl:=hI.low
 by_cases h:s.low<s.high
 ·exact .go 15 5 _ (.inl ⟨rfl,rfl,h⟩) (next_contract hI hct h) (contract_ok hI hct h) (stepsP_15 g _ h) rfl
 ·have he:s.high=s.low:=by omega
  by_cases hgh:g≤s.high
  ·exact .done (next_done h hgh true) he hgh (stepsP_zero he.symm hgh)
  ·have hiff:=expand_iff hI hct h (by omega)
   by_cases hz:(applyP c s (entK 14 s.tick)).2=0
   ·have hp:applyP c s (entK 14 s.tick)=((applyP c s (entK 14 s.tick)).1,0):=by rw[← hz]
    have hx:=apply_eff hp
    exact .go 14 3 _ (.inr ⟨rfl,rfl,he,by omega,(blockL_nil hI).2 (hiff.1 hz)⟩) (next_expand h hgh true hz) hp (by rw[hx];exact stepsP_14 he.symm (by omega)) hx
   ·refine .wait (next_wait h hgh true hz) he (by omega) (stepsP_pos he.symm (by omega)) ?_
    refine Nat.pos_of_ne_zero fun q=>hz (hiff.2 ((blockL_nil hI).1 (List.length_eq_zero_iff.1 q)))
/-! Which versions work: plain facts of SchemaWaits. -/
theorem contB_iff {c:Cfg} {s:St} {v:Int}:contB c s v=true↔(0≤v∧v<c.versions.length)∧(verAt c v).1≤s.low∧s.high≤(verAt c v).2:=by
 unfold contB verAt
 simp[and_assoc]
theorem cont_cell {c:Cfg} {s:St} (hI:StInv c s) {i:Nat} (h:i<s.cells.length):contB c s (s.cells.getD i default).running=true∧contB c s (s.cells.getD i default).wanted=true:=by
 have hm:s.cells.getD i default ∈ s.cells:=by
  rw[List.getD_eq_getElem?_getD,List.getElem?_eq_getElem h]
  exact List.getElem_mem h
 have hx:=hI.cel _ hm
 exact⟨contB_iff.2 ⟨hx.running,hx.runs⟩,contB_iff.2 ⟨hx.wanted,hx.wants⟩⟩
theorem cont_grow {c:Cfg} {s:St} {v t:Int} (h:contB c (effOf s (entK 14 t)) v=true):contB c s v=true:=by
 have h:=contB_iff.1 h
 rw[eff_14] at h
 exact contB_iff.2 ⟨h.1,h.2.1,by have:=h.2.2;dsimp only at this;omega⟩
/-! law39.SchemaWaits -/
def waF:FT:=[(11,ctAwake39),(12,ctInl tt [] [] Tryz.f12 (bodyOf Tryz.f12)),(13,ctWorlds),(14,ctModM),(21,ctCont),(15,ctNextP),(19,ctBlock),(20,ctApply)]
def waD:List (Nat×DQ):=[(9000000,{ k:=0,L:=[12] }),(2000008,{ k:=0,L:=[0,1,2,3,4,5,6,7,8,9,10,11,12,13,14,15,16,17,18,19,20,22,23],sl:=[3,9,10,40,41] }),(2000022,{ k:=0,L:=[13,14,15,16,17,18,19,20,22,23,24,25,26,27,28],sl:=[3,9,10,14,15,132,133] }),(2000028,{ k:=0,L:=[13,14,15,16,17,18,19,20,22,23,24,25,26,27,28],sl:=[9,10,14,15,154,155] })]
theorem waFok:FTokI Tryz.prog waF (inlOf waD):=fti_cons (awake39Ok.i _) (fti_cons (inl_ok ttOk fti_nil mixed (by kernel_rfl) Tryz.func12 rfl (by kernel_rfl) (by decide)) (fti_cons (worldsOk.i _) (fti_cons (modMOk.i _) (fti_cons (contOk.i _) (fti_cons (nextPOk.i _) (fti_cons (blockOk.i _) (fti_cons (applyOk.i _) fti_nil)))))))
set_option maxRecDepth 100000 in
set_option maxHeartbeats 8000000 in
theorem waits_sx (cap0 cap1:Nat) (l more:List Int) (packed:Bool) (goal:Int) (hm0:l.length≤maxLen) (hm1:more.length≤maxLen) :
  sx tt waF waD (bodyOf Tryz.f6) (argF 0 [slc 0 l.length cap0,slc 1 more.length cap1,.bool packed,.int .i64 goal]) (uniM { l0:=l,l1:=more }) 13 (endx tt Tryz.f6.results.toList fun v _ _=>v=.bool true):=by
 refine⟨rfl,?_⟩
 refine⟨fun q=>absurd q (by simp),fun _=>?_⟩
 refine⟨fun h=>?_,fun h0=>?_⟩
 ·refine⟨fun _=>rfl,fun h=>nomatch h⟩
 ·refine⟨fun _=>rfl,fun h1=>?_⟩
  have hl0:l.length≤150:=by have q:(l.length:Int)≤150:=(by simpa using h0);omega
  have hl1:more.length≤150:=by have q:(more.length:Int)≤150:=(by simpa using h1);omega
  refine⟨0,1,cap0,cap1,l,more,packed,rfl,⟨⟨_,_,_,rfl,Nat.le_refl _,fun k hk=>rfl⟩,⟨_,_,_,rfl,Nat.le_refl _,fun k hk=>rfl⟩⟩,⟨by omega,by omega⟩,?_⟩
  intro x c y s hV hR hct
  have hI:=hR.inv
  have hnv:=hV.nv
  have hlc:=hI.lc
  have hnc:=hV.nc
  have hlow:=hI.low
  refine⟨_,5,rfl,by decide,fun g g0 g1=>?_⟩
  refine⟨Int,fun i=>[(42,.int .i64 i)],fun _=>[],fun i=>0≤i∧i≤s.cells.length,fun i=>((s.cells.length:Int)-i).toNat,⟨0,by omega,kp_,kp_⟩,?_⟩
  rintro i hi
  refine⟨⟨rfl,rfl⟩,?_⟩
  refine⟨fun hlt=>?_,fun hge=>?_⟩
  ·have hlt2:i<(s.cells.length:Int):=of_decide_eq_true hlt
   refine⟨⟨Nat.le_refl _,hi.1,hlt2⟩,?_⟩
   have hcc:=cont_cell hI (i:=i.toNat) (by omega)
   refine⟨⟨18,17,16,15,14,13,500000⟩,x,c,⟨20,19,500000⟩,y,s,_,rfl,HasCfg.keeps kp_,⟨.list rfl,.list rfl⟩,(by omega),?_⟩
   rw[hcc.1]
   refine⟨fun q=>absurd q (by simp),fun _=>?_⟩
   refine⟨⟨18,17,16,15,14,13,500000⟩,x,c,⟨20,19,500000⟩,y,s,_,rfl,HasCfg.keeps kp_,⟨.list rfl,.list rfl⟩,(by omega),?_⟩
   rw[hcc.2]
   refine⟨fun q=>absurd q (by simp),fun _=>?_⟩
   refine⟨_,?_,kp_,kp_⟩
   rw[wrapi (n:=i+1) (by omega)]
   dsimp only
   exact⟨by omega,by omega⟩
  ·rcases step_of hI (by omega) (show g<30 by omega) with⟨h,h1,h2,h3⟩ | ⟨h,h1,h2,h3,h4⟩ | ⟨kk,p,x2,⟨rfl,rfl,h4⟩ | ⟨rfl,rfl,h4⟩,h,h1,h2,rfl⟩
   ·refine⟨⟨18,17,16,15,14,13,500000⟩,x,c,⟨20,19,500000⟩,y,s,g,true,_,rfl,HasCfg.keeps kp_,⟨.list rfl,.list rfl⟩,⟨hV,hI⟩,?_⟩
    rw[h]
    refine⟨fun _=>?_,fun q=>absurd q (by simp;omega)⟩
    refine⟨fun q=>absurd q (by simp;omega),fun _=>?_⟩
    refine⟨fun q=>absurd q (by simp),fun _=>?_⟩
    refine⟨fun _=>?_,fun q=>absurd q (by simp[entZ])⟩
    refine⟨fun _=>?_,fun q=>absurd q (by simp)⟩
    rfl
   ·refine⟨⟨18,17,16,15,14,13,500000⟩,x,c,⟨20,19,500000⟩,y,s,g,true,_,rfl,HasCfg.keeps kp_,⟨.list rfl,.list rfl⟩,⟨hV,hI⟩,?_⟩
    rw[h]
    refine⟨fun _=>?_,fun q=>absurd q (by simp;omega)⟩
    refine⟨fun _=>?_,fun q=>absurd q (by simp;omega)⟩
    refine⟨⟨18,17,16,15,14,13,500000⟩,x,c,⟨20,19,500000⟩,y,s,rfl,HasCfg.keeps kp_,⟨.list rfl,.list rfl⟩,⟨by omega,by omega⟩,fun cp=>?_⟩
    have h5:blockL c s s.cells.length≠[]:=fun q=>by rw[q] at h4;cases h4
    refine⟨fun q=>absurd q (by simp[h5]),fun _=>?_⟩
    refine⟨fun _=>?_,fun q=>absurd q (by simp[entZ])⟩
    refine⟨fun q=>absurd q (by simp),fun _=>?_⟩
    rfl
   ·refine⟨⟨18,17,16,15,14,13,500000⟩,x,c,⟨20,19,500000⟩,y,s,g,true,_,rfl,HasCfg.keeps kp_,⟨.list rfl,.list rfl⟩,⟨hV,hI⟩,?_⟩
    rw[h]
    refine⟨fun q=>absurd q (by simp;omega),fun _=>?_⟩
    refine⟨fun q=>absurd q (by simp),fun _=>?_⟩
    refine⟨fun q=>absurd q (by simp),fun _=>?_⟩
    refine⟨fun q=>absurd q (by simp[entK]),fun _=>?_⟩
    have hI2:=hI.step hV (applyP_ok h1).1
    have hlc2:=hI2.lc
    refine⟨⟨18,17,16,15,14,13,500000⟩,x,c,⟨20,19,500000⟩,y,s,_,rfl,kp_,kp_,hV,hI,?_⟩
    intro y2
    rw[h1]
    refine⟨fun q=>absurd q (by simp),fun _=>?_⟩
    refine⟨fun q=>absurd (of_decide_eq_true q) (show ¬ (IntKind.i64.wrap (s.high-s.high)>1) by rw[wrapi (by omega)];omega),fun _=>?_⟩
    refine⟨fun q=>absurd (of_decide_eq_true q) (show ¬ (s.high<s.high) by omega),fun _=>?_⟩
    refine⟨fun q=>absurd (of_decide_eq_true q) (show ¬ (s.high<s.low) by omega),fun _=>?_⟩
    refine⟨Int,fun i=>[(134,.int .i64 i)],fun _=>[],fun i=>0≤i∧i≤(effOf s (entK 15 s.tick)).cells.length,fun i=>(((effOf s (entK 15 s.tick)).cells.length:Int)-i).toNat,⟨0,by omega,kp_,kp_⟩,?_⟩
    rintro i hi
    refine⟨⟨rfl,rfl⟩,?_⟩
    refine⟨fun hlt=>?_,fun hge=>?_⟩
    ·have hlt2:i<((effOf s (entK 15 s.tick)).cells.length:Int):=of_decide_eq_true hlt
     refine⟨⟨Nat.le_refl _,hi.1,hlt2⟩,?_⟩
     have hcc:=cont_cell hI2 (i:=i.toNat) (by omega)
     refine⟨⟨18,17,16,15,14,13,500000⟩,x,c,⟨26,25,500000⟩,y2,(effOf s (entK 15 s.tick)),_,rfl,HasCfg.keeps kp_,⟨.list rfl,.list rfl⟩,(by omega),?_⟩
     rw[hcc.1]
     refine⟨fun q=>absurd q (by simp),fun _=>?_⟩
     refine⟨⟨18,17,16,15,14,13,500000⟩,x,c,⟨26,25,500000⟩,y2,(effOf s (entK 15 s.tick)),_,rfl,HasCfg.keeps kp_,⟨.list rfl,.list rfl⟩,(by omega),?_⟩
     rw[hcc.2]
     refine⟨fun q=>absurd q (by simp),fun _=>?_⟩
     refine⟨_,?_,kp_,kp_⟩
     rw[wrapi (n:=i+1) (by omega)]
     dsimp only
     exact⟨by omega,by omega⟩
    ·refine⟨Int,fun i=>[(156,.int .i64 i)],fun _=>[],fun i=>0≤i∧i≤c.versions.length,fun i=>((c.versions.length:Int)-i).toNat,⟨0,by omega,kp_,kp_⟩,?_⟩
     rintro i hi
     refine⟨⟨rfl,rfl⟩,?_⟩
     refine⟨fun hlt=>?_,fun hge=>?_⟩
     ·have hlt2:i<(c.versions.length:Int):=of_decide_eq_true hlt
      refine⟨fun q=>absurd q (by simp),fun _=>?_⟩
      refine⟨fun q=>absurd q (by decide),fun _=>?_⟩
      refine⟨fun q=>absurd q (by decide),fun _=>?_⟩
      refine⟨_,?_,kp_,kp_⟩
      rw[wrapi (n:=i+1) (by omega)]
      dsimp only
      exact⟨by omega,by omega⟩
     ·rfl
   ·refine⟨⟨18,17,16,15,14,13,500000⟩,x,c,⟨20,19,500000⟩,y,s,g,true,_,rfl,HasCfg.keeps kp_,⟨.list rfl,.list rfl⟩,⟨hV,hI⟩,?_⟩
    rw[h]
    refine⟨fun _=>?_,fun q=>absurd q (by simp;omega)⟩
    refine⟨fun _=>?_,fun q=>absurd q (by simp;omega)⟩
    refine⟨⟨18,17,16,15,14,13,500000⟩,x,c,⟨20,19,500000⟩,y,s,rfl,HasCfg.keeps kp_,⟨.list rfl,.list rfl⟩,⟨by omega,by omega⟩,fun cp=>?_⟩
    rw[h4.2.2]
    refine⟨fun q=>absurd q (by simp),fun _=>?_⟩
    refine⟨fun q=>absurd q (by simp[entK]),fun _=>?_⟩
    have hI2:=hI.step hV (applyP_ok h1).1
    have hlc2:=hI2.lc
    refine⟨⟨18,17,16,15,14,13,500000⟩,x,c,⟨20,19,500000⟩,y,s,_,rfl,kp_,kp_,hV,hI,?_⟩
    intro y2
    rw[h1]
    refine⟨fun q=>absurd q (by simp),fun _=>?_⟩
    refine⟨fun q=>absurd (of_decide_eq_true q) (show ¬ (IntKind.i64.wrap (s.high+1-s.low)>1) by rw[wrapi (by omega)];omega),fun _=>?_⟩
    refine⟨fun q=>absurd (of_decide_eq_true q) (show ¬ (s.high+1<s.high) by omega),fun _=>?_⟩
    refine⟨fun q=>absurd (of_decide_eq_true q) (show ¬ (s.low<s.low) by omega),fun _=>?_⟩
    refine⟨Int,fun i=>[(134,.int .i64 i)],fun _=>[],fun i=>0≤i∧i≤(effOf s (entK 14 s.tick)).cells.length,fun i=>(((effOf s (entK 14 s.tick)).cells.length:Int)-i).toNat,⟨0,by omega,kp_,kp_⟩,?_⟩
    rintro i hi
    refine⟨⟨rfl,rfl⟩,?_⟩
    refine⟨fun hlt=>?_,fun hge=>?_⟩
    ·have hlt2:i<((effOf s (entK 14 s.tick)).cells.length:Int):=of_decide_eq_true hlt
     refine⟨⟨Nat.le_refl _,hi.1,hlt2⟩,?_⟩
     have hcc:=cont_cell hI2 (i:=i.toNat) (by omega)
     refine⟨⟨18,17,16,15,14,13,500000⟩,x,c,⟨27,26,500000⟩,y2,(effOf s (entK 14 s.tick)),_,rfl,HasCfg.keeps kp_,⟨.list rfl,.list rfl⟩,(by omega),?_⟩
     rw[hcc.1]
     refine⟨fun q=>absurd q (by simp),fun _=>?_⟩
     refine⟨⟨18,17,16,15,14,13,500000⟩,x,c,⟨27,26,500000⟩,y2,(effOf s (entK 14 s.tick)),_,rfl,HasCfg.keeps kp_,⟨.list rfl,.list rfl⟩,(by omega),?_⟩
     rw[hcc.2]
     refine⟨fun q=>absurd q (by simp),fun _=>?_⟩
     refine⟨_,?_,kp_,kp_⟩
     rw[wrapi (n:=i+1) (by omega)]
     dsimp only
     exact⟨by omega,by omega⟩
    ·refine⟨Int,fun i=>[(156,.int .i64 i)],fun _=>[],fun i=>0≤i∧i≤c.versions.length,fun i=>((c.versions.length:Int)-i).toNat,⟨0,by omega,kp_,kp_⟩,?_⟩
     rintro i hi
     refine⟨⟨rfl,rfl⟩,?_⟩
     refine⟨fun hlt=>?_,fun hge=>?_⟩
     ·have hlt2:i<(c.versions.length:Int):=of_decide_eq_true hlt
      refine⟨fun _=>?_,fun q=>absurd q (by simp)⟩
      refine⟨⟨18,17,16,15,14,13,500000⟩,x,c,⟨27,26,500000⟩,y2,(effOf s (entK 14 s.tick)),i,rfl,HasCfg.keeps kp_,⟨.list rfl,.list rfl⟩,(by omega),?_⟩
      refine⟨fun hb=>?_,fun hb=>?_⟩
      ·refine⟨⟨18,17,16,15,14,13,500000⟩,x,c,⟨20,19,500000⟩,y,s,i,rfl,HasCfg.keeps kp_,⟨.list rfl,.list rfl⟩,(by omega),?_⟩
       rw[cont_grow hb]
       refine⟨fun q=>absurd q (by decide),fun _=>?_⟩
       refine⟨_,?_,kp_,kp_⟩
       rw[wrapi (n:=i+1) (by omega)]
       dsimp only
       exact⟨by omega,by omega⟩
      ·refine⟨fun q=>absurd q (by decide),fun _=>?_⟩
       refine⟨_,?_,kp_,kp_⟩
       rw[wrapi (n:=i+1) (by omega)]
       dsimp only
       exact⟨by omega,by omega⟩
     ·rfl
theorem schemaWaits_law (a0:Option Addr) (cap0:Nat) (z0:List Int) (a1:Option Addr) (cap1:Nat) (z1:List Int) (packed:Bool) (goal:Int) (W:World) (hr0:Rd W (·<W.heap.size) a0 (z0.map (Value.int .i64))) (hm0:z0.length≤maxLen) (hr1:Rd W (·<W.heap.size) a1 (z1.map (Value.int .i64))) (hm1:z1.length≤maxLen) {Q0:Prop} (_hq0:Q0) :
  Calls Tryz.prog 6 #[.slice a0 z0.length cap0,.slice a1 z1.length cap1,.bool packed,.int .i64 goal] W fun e w'=>e=.returned (.bool true)∧Below W.heap.size W w':=by
 rw[← flat_ints] at hr0 hr1
 refine (uni_calls ttOk waFok Tryz.func6 rfl (D:=waD) (codeF_ok _ (by kernel_rfl)) (vs:=[slc 0 z0.length cap0,slc 1 z1.length cap1,.bool packed,.int .i64 goal]) rfl { a0:=a0,a1:=a1 } { l0:=z0,l1:=z1 } W { r0:=hr0,r1:=hr1 } (fun v hv=>by
  simp only[List.mem_cons,List.not_mem_nil,or_false] at hv
  rcases hv with rfl | rfl | rfl | rfl
  ·exact⟨show (0:Nat)<13 by decide,rfl⟩
  ·exact⟨show (1:Nat)<13 by decide,rfl⟩
  ·trivial
  ·trivial) (waits_sx cap0 cap1 z0 z1 packed goal hm0 hm1)).mono ?_
 rintro e w' ⟨v,mem',nx',ρ',rfl,rfl,hv,hm',hb⟩
 exact⟨rfl,hb⟩
end Go.Proofs.YtnnpgbleacapfaaGreat
