import Derived.Test.YtnnpgbleacapfaaGreatPc27
namespace Go.Proofs.YtnnpgbleacapfaaGreat
open Go.RowKit
set_option linter.unusedSimpArgs false
set_option linter.unusedVariables false
/-! law39.SchemaMoves -/
def ctLightM:CT:=ctInl tt [] [] Tryz.f12 (bodyOf Tryz.f12)
def mvF:FT:=[(11,ctAwake39),(12,ctLightM),(13,ctWorlds),(14,ctModM),(20,ctApply),(15,ctNextP)]
def mvD:List (Nat×DQ):=[(9000000,{ k:=0,L:=[12] }),(10,{ k:=14,L:=[22,23],A:=[12],pre:=[(0,false),(1,false),(2,false),(3,false),(4,false),(5,false),(6,true),(7,false),(8,true),(9,false),(10,false),(11,false)],post:=[(13,true)] })]
theorem mvFok:FTokI Tryz.prog mvF (inlOf mvD):=fti_cons (awake39Ok.i _) (fti_cons (inl_ok ttOk fti_nil mixed (by kernel_rfl) Tryz.func12 rfl (by kernel_rfl) (by decide)) (fti_cons (worldsOk.i _) (fti_cons (modMOk.i _) (fti_cons (applyOk.i _) (fti_cons (nextPOk.i _) fti_nil)))))
set_option maxRecDepth 100000 in
set_option maxHeartbeats 8000000 in
theorem moves_sx (cap0 cap1:Nat) (l more:List Int) (packed:Bool) (goal tick:Int) (hm0:l.length≤maxLen) (hm1:more.length≤maxLen) :
  sx tt mvF mvD (bodyOf Tryz.f5) (argF 0 [slc 0 l.length cap0,slc 1 more.length cap1,.bool packed,.int .i64 goal,.int .i64 tick]) (uniM { l0:=l,l1:=more }) 13 (endx tt Tryz.f5.results.toList fun v _ _=>v=.bool true):=by
 refine⟨rfl,?_⟩
 refine⟨fun q=>absurd q (by simp),fun _=>?_⟩
 refine⟨fun h=>?_,fun h0=>?_⟩
 ·refine⟨fun _=>rfl,fun h=>nomatch h⟩
 ·refine⟨fun _=>rfl,fun h1=>?_⟩
  have hl0:l.length≤150:=by have q:(l.length:Int)≤150:=(by simpa using h0);omega
  have hl1:more.length≤150:=by have q:(more.length:Int)≤150:=(by simpa using h1);omega
  refine⟨0,1,cap0,cap1,l,more,packed,rfl,⟨⟨_,_,_,rfl,Nat.le_refl _,fun k hk=>rfl⟩,⟨_,_,_,rfl,Nat.le_refl _,fun k hk=>rfl⟩⟩,⟨by omega,by omega⟩,?_⟩
  intro x c y s hV hR hct
  have hI:=hR.inv
  refine⟨_,31,rfl,by decide,fun g g0 g1=>?_⟩
  refine⟨⟨18,17,16,15,14,13,500000⟩,x,c,⟨20,19,500000⟩,y,s,(entK 14 s.tick),rfl,kp_,kp_,hV,hI,?_⟩
  intro y2
  generalize hp:applyP c s (entK 14 s.tick)=p
  obtain⟨p1,p2⟩:=p
  refine⟨fun hz=>?_,fun hz=>?_⟩
  ·obtain rfl:p2=0:=by simpa using hz
   have hI2:=(hR.step hV hp).inv
   have hc2:=applyP_count hp
   by_cases hlh:p1.low<p1.high
   ·have hn2:=next_contract (g:=g) hI2 (by omega) hlh
    refine⟨_,9,rfl,by decide,fun t t0 t1=>?_⟩
    refine⟨kp_,?_⟩
    refine⟨⟨18,17,16,15,14,13,500000⟩,x,c,⟨25,24,500000⟩,y2,p1,g,false,_,rfl,HasCfg.keeps kp_,⟨.list rfl,.list rfl⟩,⟨hV,hI2⟩,?_⟩
    rw[next_move hlh]
    refine⟨kp_,?_⟩
    refine⟨kp_,?_⟩
    refine⟨fun q=>absurd q (by decide),fun _=>?_⟩
    refine⟨fun q=>absurd q (by decide),fun _=>?_⟩
    refine⟨⟨18,17,16,15,14,13,500000⟩,x,c,⟨25,24,500000⟩,y2,p1,g,true,_,rfl,HasCfg.keeps kp_,⟨.list rfl,.list rfl⟩,⟨hV,hI2⟩,?_⟩
    rw[hn2]
    refine⟨fun _=>rfl,fun _=>?_⟩
    repeat' (first | rfl | refine⟨fun _=>?_,fun q=>absurd q (by first | decide | simp[entK,entZ])⟩ | fail)
    skip
   ·refine⟨_,9,rfl,by decide,fun t t0 t1=>?_⟩
    refine⟨kp_,?_⟩
    refine⟨⟨18,17,16,15,14,13,500000⟩,x,c,⟨25,24,500000⟩,y2,p1,g,false,_,rfl,HasCfg.keeps kp_,⟨.list rfl,.list rfl⟩,⟨hV,hI2⟩,?_⟩
    have hst:=next_stays (c:=c) (s:=p1) (g:=g) (t:=IntKind.i64.wrap (p1.tick+t))
    generalize nextP c p1 g false (IntKind.i64.wrap (p1.tick+t))=q at hst ⊢
    obtain⟨a,pa⟩:=q
    refine⟨kp_,?_⟩
    refine⟨kp_,?_⟩
    refine⟨fun q=>absurd q (by simpa using hst.1),fun _=>?_⟩
    refine⟨fun q=>absurd q (by simpa using hst.2),fun _=>?_⟩
    refine⟨⟨18,17,16,15,14,13,500000⟩,x,c,⟨25,24,500000⟩,y2,p1,g,true,_,rfl,HasCfg.keeps kp_,⟨.list rfl,.list rfl⟩,⟨hV,hI2⟩,?_⟩
    have hlow:=hI2.low
    have heq:p1.high=p1.low:=by omega
    refine⟨fun _=>rfl,fun q=>absurd q (by simp[heq])⟩
  ·have hI2:=hI
   by_cases hlh:s.low<s.high
   ·have hn2:=next_contract (g:=g) hI2 (by omega) hlh
    refine⟨_,9,rfl,by decide,fun t t0 t1=>?_⟩
    refine⟨kp_,?_⟩
    refine⟨⟨18,17,16,15,14,13,500000⟩,x,c,⟨20,19,500000⟩,y,s,g,false,_,rfl,HasCfg.keeps kp_,⟨.list rfl,.list rfl⟩,⟨hV,hI2⟩,?_⟩
    rw[next_move hlh]
    refine⟨kp_,?_⟩
    refine⟨kp_,?_⟩
    refine⟨fun q=>absurd q (by decide),fun _=>?_⟩
    refine⟨fun q=>absurd q (by decide),fun _=>?_⟩
    refine⟨⟨18,17,16,15,14,13,500000⟩,x,c,⟨20,19,500000⟩,y,s,g,true,_,rfl,HasCfg.keeps kp_,⟨.list rfl,.list rfl⟩,⟨hV,hI2⟩,?_⟩
    rw[hn2]
    refine⟨fun _=>rfl,fun _=>?_⟩
    repeat' (first | rfl | refine⟨fun _=>?_,fun q=>absurd q (by first | decide | simp[entK,entZ])⟩ | fail)
    skip
   ·refine⟨_,9,rfl,by decide,fun t t0 t1=>?_⟩
    refine⟨kp_,?_⟩
    refine⟨⟨18,17,16,15,14,13,500000⟩,x,c,⟨20,19,500000⟩,y,s,g,false,_,rfl,HasCfg.keeps kp_,⟨.list rfl,.list rfl⟩,⟨hV,hI2⟩,?_⟩
    have hst:=next_stays (c:=c) (s:=s) (g:=g) (t:=IntKind.i64.wrap (s.tick+t))
    generalize nextP c s g false (IntKind.i64.wrap (s.tick+t))=q at hst ⊢
    obtain⟨a,pa⟩:=q
    refine⟨kp_,?_⟩
    refine⟨kp_,?_⟩
    refine⟨fun q=>absurd q (by simpa using hst.1),fun _=>?_⟩
    refine⟨fun q=>absurd q (by simpa using hst.2),fun _=>?_⟩
    refine⟨⟨18,17,16,15,14,13,500000⟩,x,c,⟨20,19,500000⟩,y,s,g,true,_,rfl,HasCfg.keeps kp_,⟨.list rfl,.list rfl⟩,⟨hV,hI2⟩,?_⟩
    have hlow:=hI2.low
    have heq:s.high=s.low:=by omega
    refine⟨fun _=>rfl,fun q=>absurd q (by simp[heq])⟩
theorem schemaMoves_law (a0:Option Addr) (cap0:Nat) (z0:List Int) (a1:Option Addr) (cap1:Nat) (z1:List Int) (packed:Bool) (goal tick:Int) (W:World) (hr0:Rd W (·<W.heap.size) a0 (z0.map (Value.int .i64))) (hm0:z0.length≤maxLen) (hr1:Rd W (·<W.heap.size) a1 (z1.map (Value.int .i64))) (hm1:z1.length≤maxLen) {Q Q2:Prop} (_hq:Q) (_hq2:Q2) :
  Calls Tryz.prog 5 #[.slice a0 z0.length cap0,.slice a1 z1.length cap1,.bool packed,.int .i64 goal,.int .i64 tick] W fun e w'=>e=.returned (.bool true)∧Below W.heap.size W w':=by
 rw[← flat_ints] at hr0 hr1
 refine (uni_calls ttOk mvFok Tryz.func5 rfl (D:=mvD) (codeF_ok _ (by kernel_rfl)) (vs:=[slc 0 z0.length cap0,slc 1 z1.length cap1,.bool packed,.int .i64 goal,.int .i64 tick]) rfl { a0:=a0,a1:=a1 } { l0:=z0,l1:=z1 } W { r0:=hr0,r1:=hr1 } (fun v hv=>by
  simp only[List.mem_cons,List.not_mem_nil,or_false] at hv
  rcases hv with rfl | rfl | rfl | rfl | rfl
  ·exact⟨show (0:Nat)<13 by decide,rfl⟩
  ·exact⟨show (1:Nat)<13 by decide,rfl⟩
  ·trivial
  ·trivial
  ·trivial) (moves_sx cap0 cap1 z0 z1 packed goal tick hm0 hm1)).mono ?_
 rintro e w' ⟨v,mem',nx',ρ',rfl,rfl,hv,hm',hb⟩
 exact⟨rfl,hb⟩
end Go.Proofs.YtnnpgbleacapfaaGreat
