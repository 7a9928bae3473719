import Derived.Test.YtnnpgbleacapfaaGreatPc27
namespace Go.Proofs.YtnnpgbleacapfaaGreat
open Go.RowKit
set_option linter.unusedSimpArgs false
set_option linter.unusedVariables false
/-! The way of the schemas: plain facts of SchemaGoes and SchemaWaits. -/
theorem blkV_blockB {c:Cfg} {s:St} {x:CS} (h:CsInv c s.low s.high x):(blkV c s x.running||blkV c s x.wanted)=blockB c s x:=by
 have h1:=h.running
 have h2:=h.wanted
 unfold blkV blockB verAt
 rw[decide_eq_true h1.1,decide_eq_true h1.2,decide_eq_true h2.1,decide_eq_true h2.2]
 simp
theorem blockL_nil {c:Cfg} {s:St} (hI:StInv c s):blockL c s s.cells.length=[]↔s.cells.any (blockB c s)=false:=by
 unfold blockL
 rw[List.map_eq_nil_iff,List.filter_eq_nil_iff,List.any_eq_false]
 constructor
 ·intro h x hx
  obtain⟨i,hi,rfl⟩:=List.getElem_of_mem hx
  have:=h i (List.mem_range.2 hi)
  rw[List.getD_eq_getElem?_getD,List.getElem?_eq_getElem hi,Option.getD_some,blkV_blockB (hI.cel _ hx)] at this
  exact this
 ·intro h i hi
  have hi:=List.mem_range.1 hi
  rw[List.getD_eq_getElem?_getD,List.getElem?_eq_getElem hi,Option.getD_some,blkV_blockB (hI.cel _ (List.getElem_mem hi))]
  exact h _ (List.getElem_mem hi)
theorem stepsP_le {s:St} {g:Int} (h:0≤s.low∧s.low≤s.high) (hg:0≤g∧g<5):0≤stepsP s g∧stepsP s g≤9:=by
 unfold stepsP
 split<;>omega
theorem stepsP_15 {s:St} (g t:Int) (h:s.low<s.high):stepsP (effOf s (entK 15 t)) g=stepsP s g-1:=by
 rw[eff_15]
 unfold stepsP
 rw[if_neg (show ¬ s.high<s.high by omega),if_pos h]
 show 0+2 * max 0 (g-s.high)=_
 omega
theorem stepsP_14 {s:St} {g t:Int} (h:s.low=s.high) (hg:s.high<g):stepsP (effOf s (entK 14 t)) g=stepsP s g-1:=by
 rw[eff_14]
 unfold stepsP
 rw[if_pos (show s.low<s.high+1 by omega),if_neg (show ¬ s.low<s.high by omega)]
 show 1+2 * max 0 (g-(s.high+1))=_
 omega
theorem stepsP_zero {s:St} {g:Int} (h:s.low=s.high) (hg:g≤s.high):stepsP s g=0:=by
 unfold stepsP
 rw[if_neg (by omega)]
 omega
theorem stepsP_pos {s:St} {g:Int} (h:s.low=s.high) (hg:s.high<g):0<stepsP s g:=by
 unfold stepsP
 rw[if_neg (by omega)]
 omega
inductive Step (c:Cfg) (s:St) (g:Int):Prop where
 | done (h:nextP c s g true s.tick=(entZ,1)) (h1:s.high=s.low) (h2:g≤s.high) (h3:stepsP s g=0)
 | wait (h:nextP c s g true s.tick=(entZ,2)) (h1:s.high=s.low) (h2:s.high<g) (h3:0<stepsP s g) (h4:0<(blockL c s s.cells.length).length)
 | go (k p:Int) (x:St) (hk:k=15∧p=5∧s.low<s.high∨k=14∧p=3∧s.high=s.low∧s.high<g∧blockL c s s.cells.length=[]) (h:nextP c s g true s.tick=(entK k s.tick,p)) (h1:applyP c s (entK k s.tick)=(x,0)) (h2:stepsP x g=stepsP s g-1) (h3:x=effOf s (entK k s.tick))
theorem step_of {c:Cfg} {s:St} {g:Int} (hI:StInv c s) (hct:s.count≤4000) (hg:g<30):Step c s g:=by
 have hl:=hI.low
 by_cases h:s.low<s.high
 ·exact .go 15 5 _ (.inl ⟨rfl,rfl,h⟩) (next_contract hI hct h) (contract_ok hI hct h) (stepsP_15 g _ h) rfl
 ·have he:s.high=s.low:=by omega
  by_cases hgh:g≤s.high
  ·exact .done (next_done h hgh true) he hgh (stepsP_zero he.symm hgh)
  ·have hiff:=expand_iff hI hct h (by omega)
   by_cases hz:(applyP c s (entK 14 s.tick)).2=0
   ·have hp:applyP c s (entK 14 s.tick)=((applyP c s (entK 14 s.tick)).1,0):=by rw[← hz]
    have hx:=apply_eff hp
    exact .go 14 3 _ (.inr ⟨rfl,rfl,he,by omega,(blockL_nil hI).2 (hiff.1 hz)⟩) (next_expand h hgh true hz) hp (by rw[hx];exact stepsP_14 he.symm (by omega)) hx
   ·refine .wait (next_wait h hgh true hz) he (by omega) (stepsP_pos he.symm (by omega)) ?_
    refine Nat.pos_of_ne_zero fun q=>hz (hiff.2 ((blockL_nil hI).1 (List.length_eq_zero_iff.1 q)))
/-! law39.SchemaGoes -/
def goF:FT:=[(11,ctAwake39),(12,ctInl tt [] [] Tryz.f12 (bodyOf Tryz.f12)),(13,ctWorlds),(14,ctModM),(17,ctSteps),(15,ctNextP),(19,ctBlock),(20,ctApply)]
def goD:List (Nat×DQ):=[(9000000,{ k:=0,L:=[12] }),(3000009,{ k:=26,L:=[0,1,2,3,4,5,6,7,8,9,10,11,12,13,14,15,16,17,18,22],sl:=[3,9,10,11] })]
theorem goFok:FTokI Tryz.prog goF (inlOf goD):=fti_cons (awake39Ok.i _) (fti_cons (inl_ok ttOk fti_nil mixed (by kernel_rfl) Tryz.func12 rfl (by kernel_rfl) (by decide)) (fti_cons (worldsOk.i _) (fti_cons (modMOk.i _) (fti_cons (stepsOk.i _) (fti_cons (nextPOk.i _) (fti_cons (blockOk.i _) (fti_cons (applyOk.i _) fti_nil)))))))
set_option maxRecDepth 100000 in
set_option maxHeartbeats 8000000 in
theorem goes_sx (cap0 cap1:Nat) (l more:List Int) (packed:Bool) (goal:Int) (hm0:l.length≤maxLen) (hm1:more.length≤maxLen) :
  sx tt goF goD (bodyOf Tryz.f4) (argF 0 [slc 0 l.length cap0,slc 1 more.length cap1,.bool packed,.int .i64 goal]) (uniM { l0:=l,l1:=more }) 13 (endx tt Tryz.f4.results.toList fun v _ _=>v=.bool true):=by
 refine⟨rfl,?_⟩
 refine⟨fun q=>absurd q (by simp),fun _=>?_⟩
 refine⟨fun h=>?_,fun h0=>?_⟩
 ·refine⟨fun _=>rfl,fun h=>nomatch h⟩
 ·refine⟨fun _=>rfl,fun h1=>?_⟩
  have hl0:l.length≤150:=by have q:(l.length:Int)≤150:=(by simpa using h0);omega
  have hl1:more.length≤150:=by have q:(more.length:Int)≤150:=(by simpa using h1);omega
  refine⟨0,1,cap0,cap1,l,more,packed,rfl,⟨⟨_,_,_,rfl,Nat.le_refl _,fun k hk=>rfl⟩,⟨_,_,_,rfl,Nat.le_refl _,fun k hk=>rfl⟩⟩,⟨by omega,by omega⟩,?_⟩
  intro x c y s hV hR hct
  have hI:=hR.inv
  refine⟨_,5,rfl,by decide,fun g g0 g1=>?_⟩
  have hlow:=hI.low
  refine⟨⟨20,19,500000⟩,y,s,g,rfl,⟨.list rfl,.list rfl⟩,⟨⟨hlow.1,hlow.2.1,hlow.2.2.2⟩,g0,by omega⟩,?_⟩
  have hst:=stepsP_le (s:=s) (g:=g) ⟨hlow.1,hlow.2.1⟩ ⟨g0,g1⟩
  generalize hn:stepsP s g=n at hst ⊢
  skip
  refine⟨Int×St×StK,fun q=>match q with | (k,s,y)=>[(38,.int .i64 k),(12,.int .i64 k)],fun q=>match q with | (k,s,y)=>[(23,.box 34 [.int .i64 s.tick,.int .i64 s.count,slc 24 s.tenants.length y.ct,slc 25 s.cells.length y.cc,.int .i64 s.proven,.int .i64 s.evac,.int .i64 s.low,.int .i64 s.high]),(24,rowOfL 500000 12 tsC default s.tenants),(25,rowOfL 500000 4 csC default s.cells)],fun q=>match q with | (k,s,y)=>StInv c s∧s.count≤150+k∧k+stepsP s g=n∧0≤k,fun q=>match q with | (k,s,y)=>(12-k).toNat,⟨(0,s,y),[(24,20),(25,19)],⟨hI,by omega,by omega,Int.le_refl _⟩,⟨rfl,rfl⟩,kp_,kp_⟩,?_⟩
  clear hR hct hI hlow hn s y
  rintro⟨k,s,y⟩ ⟨hI,hct,hn,hk0⟩
  have hlow:=hI.low
  have hlc:=hI.lc
  have hle:=stepsP_le (s:=s) (g:=g) ⟨hlow.1,hlow.2.1⟩ ⟨g0,g1⟩
  refine⟨⟨by decide,rfl,rfl⟩,?_⟩
  refine⟨fun hlt=>?_,fun hge=>?_⟩
  ·have hlt2:k<12:=of_decide_eq_true hlt
   rcases step_of hI (by omega) (show g<30 by omega) with⟨h,h1,h2,h3⟩ | ⟨h,h1,h2,h3,h4⟩ | ⟨kk,p,x2,⟨rfl,rfl,h4⟩ | ⟨rfl,rfl,h4⟩,h,h1,h2,rfl⟩
   ·refine⟨⟨18,17,16,15,14,13,500000⟩,x,c,⟨24,25,500000⟩,y,s,g,true,_,rfl,HasCfg.keeps kp_,⟨.list rfl,.list rfl⟩,⟨hV,hI⟩,?_⟩
    rw[h]
    refine⟨fun _=>?_,fun q=>absurd q (by decide)⟩
    refine⟨fun _=>?_,fun q=>absurd q (by simp;omega)⟩
    refine⟨fun _=>?_,fun q=>absurd q (by simp;omega)⟩
    exact congrArg Value.bool (by simp;omega)
   ·refine⟨⟨18,17,16,15,14,13,500000⟩,x,c,⟨24,25,500000⟩,y,s,g,true,_,rfl,HasCfg.keeps kp_,⟨.list rfl,.list rfl⟩,⟨hV,hI⟩,?_⟩
    rw[h]
    refine⟨fun q=>absurd q (by decide),fun _=>?_⟩
    refine⟨fun _=>?_,fun q=>absurd q (by decide)⟩
    refine⟨fun _=>?_,fun q=>absurd q (by simp;omega)⟩
    refine⟨⟨18,17,16,15,14,13,500000⟩,x,c,⟨24,25,500000⟩,y,s,rfl,HasCfg.keeps kp_,⟨.list rfl,.list rfl⟩,⟨by have:=hV.nv;omega,by have:=hV.nc;omega⟩,fun cp=>?_⟩
    exact congrArg Value.bool (by simp;omega)
   ·refine⟨⟨18,17,16,15,14,13,500000⟩,x,c,⟨24,25,500000⟩,y,s,g,true,_,rfl,HasCfg.keeps kp_,⟨.list rfl,.list rfl⟩,⟨hV,hI⟩,?_⟩
    rw[h]
    refine⟨fun q=>absurd q (by simp),fun _=>?_⟩
    refine⟨fun q=>absurd q (by simp),fun _=>?_⟩
    refine⟨⟨18,17,16,15,14,13,500000⟩,x,c,⟨24,25,500000⟩,y,s,_,rfl,kp_,kp_,hV,hI,?_⟩
    intro y2
    rw[h1]
    refine⟨fun q=>absurd q (by simp),fun _=>?_⟩
    have hI2:=hI.step hV (applyP_ok h1).1
    have hc2:=applyP_count h1
    refine⟨(_,_,y2),[(24,28),(25,27)],?_,⟨rfl,rfl⟩,kp_,kp_⟩
    dsimp only
    rw[wrapi (n:=k+1) (by omega)]
    exact⟨⟨hI2,by omega,by omega,by omega⟩,by omega⟩
   ·refine⟨⟨18,17,16,15,14,13,500000⟩,x,c,⟨24,25,500000⟩,y,s,g,true,_,rfl,HasCfg.keeps kp_,⟨.list rfl,.list rfl⟩,⟨hV,hI⟩,?_⟩
    rw[h]
    refine⟨fun q=>absurd q (by simp),fun _=>?_⟩
    refine⟨fun q=>absurd q (by simp),fun _=>?_⟩
    refine⟨⟨18,17,16,15,14,13,500000⟩,x,c,⟨24,25,500000⟩,y,s,_,rfl,kp_,kp_,hV,hI,?_⟩
    intro y2
    rw[h1]
    refine⟨fun q=>absurd q (by simp),fun _=>?_⟩
    have hI2:=hI.step hV (applyP_ok h1).1
    have hc2:=applyP_count h1
    refine⟨(_,_,y2),[(24,28),(25,27)],?_,⟨rfl,rfl⟩,kp_,kp_⟩
    dsimp only
    rw[wrapi (n:=k+1) (by omega)]
    exact⟨⟨hI2,by omega,by omega,by omega⟩,by omega⟩
  ·have hge2:¬ k<12:=of_decide_eq_false hge
   omega
theorem schemaGoes_law (a0:Option Addr) (cap0:Nat) (z0:List Int) (a1:Option Addr) (cap1:Nat) (z1:List Int) (packed:Bool) (goal:Int) (W:World) (hr0:Rd W (·<W.heap.size) a0 (z0.map (Value.int .i64))) (hm0:z0.length≤maxLen) (hr1:Rd W (·<W.heap.size) a1 (z1.map (Value.int .i64))) (hm1:z1.length≤maxLen) {Q0:Prop} (_hq0:Q0) :
  Calls Tryz.prog 4 #[.slice a0 z0.length cap0,.slice a1 z1.length cap1,.bool packed,.int .i64 goal] W fun e w'=>e=.returned (.bool true)∧Below W.heap.size W w':=by
 rw[← flat_ints] at hr0 hr1
 refine (uni_calls ttOk goFok Tryz.func4 rfl (D:=goD) (codeF_ok _ (by kernel_rfl)) (vs:=[slc 0 z0.length cap0,slc 1 z1.length cap1,.bool packed,.int .i64 goal]) rfl { a0:=a0,a1:=a1 } { l0:=z0,l1:=z1 } W { r0:=hr0,r1:=hr1 } (fun v hv=>by
  simp only[List.mem_cons,List.not_mem_nil,or_false] at hv
  rcases hv with rfl | rfl | rfl | rfl
  ·exact⟨show (0:Nat)<13 by decide,rfl⟩
  ·exact⟨show (1:Nat)<13 by decide,rfl⟩
  ·trivial
  ·trivial) (goes_sx cap0 cap1 z0 z1 packed goal hm0 hm1)).mono ?_
 rintro e w' ⟨v,mem',nx',ρ',rfl,rfl,hv,hm',hb⟩
 exact⟨rfl,hb⟩
end Go.Proofs.YtnnpgbleacapfaaGreat
