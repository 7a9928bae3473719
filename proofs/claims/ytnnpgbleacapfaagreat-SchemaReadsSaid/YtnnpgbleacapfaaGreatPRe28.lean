import Derived.Test.YtnnpgbleacapfaaGreatPc27
namespace Go.Proofs.YtnnpgbleacapfaaGreat
open Go.RowKit
set_option linter.unusedSimpArgs false
set_option linter.unusedVariables false
/-! The way of the schemas: plain facts of SchemaGoes and SchemaWaits. -/
theorem blkV_blockB {c:Cfg} {s:St} {x:CS} (h:CsInv c s.low s.high x):(blkV c s x.running||blkV c s x.wanted)=blockB c s x:=by
 have h1:=h.running
 have h2:=h.wanted
 unfold blkV blockB verAt
 rw[decide_eq_true h1.1,decide_eq_true h1.2,decide_eq_true h2.1,decide_eq_true h2.2]
 simp
theorem blockL_nil {c:Cfg} {s:St} (hI:StInv c s):blockL c s s.cells.length=[]↔s.cells.any (blockB c s)=false:=by
 unfold blockL
 rw[List.map_eq_nil_iff,List.filter_eq_nil_iff,List.any_eq_false]
 constructor
 ·intro h x hx
  obtain⟨i,hi,rfl⟩:=List.getElem_of_mem hx
  have:=h i (List.mem_range.2 hi)
  rw[List.getD_eq_getElem?_getD,List.getElem?_eq_getElem hi,Option.getD_some,blkV_blockB (hI.cel _ hx)] at this
  exact this
 ·intro h i hi
  have hi:=List.mem_range.1 hi
  rw[List.getD_eq_getElem?_getD,List.getElem?_eq_getElem hi,Option.getD_some,blkV_blockB (hI.cel _ (List.getElem_mem hi))]
  exact h _ (List.getElem_mem hi)
theorem stepsP_le {s:St} {g:Int} (h:0≤s.low∧s.low≤s.high) (hg:0≤g∧g<5):0≤stepsP s g∧stepsP s g≤9:=by
 unfold stepsP
 split<;>omega
theorem stepsP_15 {s:St} (g t:Int) (h:s.low<s.high):stepsP (effOf s (entK 15 t)) g=stepsP s g-1:=by
 rw[eff_15]
 unfold stepsP
 rw[if_neg (show ¬ s.high<s.high by omega),if_pos h]
 show 0+2 * max 0 (g-s.high)=_
 omega
theorem stepsP_14 {s:St} {g t:Int} (h:s.low=s.high) (hg:s.high<g):stepsP (effOf s (entK 14 t)) g=stepsP s g-1:=by
 rw[eff_14]
 unfold stepsP
 rw[if_pos (show s.low<s.high+1 by omega),if_neg (show ¬ s.low<s.high by omega)]
 show 1+2 * max 0 (g-(s.high+1))=_
 omega
theorem stepsP_zero {s:St} {g:Int} (h:s.low=s.high) (hg:g≤s.high):stepsP s g=0:=by
 unfold stepsP
 rw[if_neg (by omega)]
 omega
theorem stepsP_pos {s:St} {g:Int} (h:s.low=s.high) (hg:s.high<g):0<stepsP s g:=by
 unfold stepsP
 rw[if_neg (by omega)]
 omega
inductive Step (c:Cfg) (s:St) (g:Int):Prop where
 | done (h:nextP c s g true s.tick=(entZ,1)) (h1:s.high=s.low) (h2:g≤s.high) (h3:stepsP s g=0)
 | wait (h:nextP c s g true s.tick=(entZ,2)) (h1:s.high=s.low) (h2:s.high<g) (h3:0<stepsP s g) (h4:0<(blockL c s s.cells.length).length)
 | go (k p:Int) (x:St) (hk:k=15∧p=5∧s.low<s.high∨k=14∧p=3∧s.high=s.low∧s.high<g∧blockL c s s.cells.length=[]) (h:nextP c s g true s.tick=(entK k s.tick,p)) (h1:applyP c s (entK k s.tick)=(x,0)) (h2:stepsP x g=stepsP s g-1) (h3:x=effOf s (entK k s.tick))
theorem step_of {c:Cfg} {s:St} {g:Int} (hI:StInv c s) (hct:s.count≤4000) (hg:g<30):Step c s g:=by
 have hl:=hI.low
 by_cases h:s.low<s.high
 ·exact .go 15 5 _ (.inl ⟨rfl,rfl,h⟩) (next_contract hI hct h) (contract_ok hI hct h) (stepsP_15 g _ h) rfl
 ·have he:s.high=s.low:=by omega
  by_cases hgh:g≤s.high
  ·exact .done (next_done h hgh true) he hgh (stepsP_zero he.symm hgh)
  ·have hiff:=expand_iff hI hct h (by omega)
   by_cases hz:(applyP c s (entK 14 s.tick)).2=0
   ·have hp:applyP c s (entK 14 s.tick)=((applyP c s (entK 14 s.tick)).1,0):=by rw[← hz]
    have hx:=apply_eff hp
    exact .go 14 3 _ (.inr ⟨rfl,rfl,he,by omega,(blockL_nil hI).2 (hiff.1 hz)⟩) (next_expand h hgh true hz) hp (by rw[hx];exact stepsP_14 he.symm (by omega)) hx
   ·refine .wait (next_wait h hgh true hz) he (by omega) (stepsP_pos he.symm (by omega)) ?_
    refine Nat.pos_of_ne_zero fun q=>hz (hiff.2 ((blockL_nil hI).1 (List.length_eq_zero_iff.1 q)))
/-! ref39.Blocking,schema.Outdated,ref39.Outdated -/
theorem getD_memB {α:Type} [Inhabited α] {l:List α} {i:Nat} (h:i<l.length):l.getD i default ∈ l:=by
 rw[List.getD_eq_getElem?_getD,List.getElem?_eq_getElem h]
 exact List.getElem_mem h
def outL (c:Cfg) (s:St) (k:Nat):List Int:=((List.range k).filter fun i=>!contB c s ((i:Nat):Int)).map Int.ofNat
theorem outL_succ (c:Cfg) (s:St) (k:Nat):outL c s (k+1)=outL c s k++(if (!contB c s ((k:Nat):Int))=true then [(k:Int)] else []):=by
 unfold outL
 rw[List.range_succ,List.filter_append,List.map_append]
 congr 1
 by_cases h:(!contB c s ((k:Nat):Int))=true
 ·rw[if_pos h];simp only[List.filter,h];rfl
 ·rw[if_neg h];rw[Bool.not_eq_true] at h;simp only[List.filter,h];rfl
theorem outL_le (c:Cfg) (s:St) (k:Nat):(outL c s k).length≤k:=by
 unfold outL
 rw[List.length_map]
 have:=List.length_filter_le (fun i=>!contB c s ((i:Nat):Int)) (List.range k)
 simpa using this
def ouF:FT:=[(21,ctCont)]
def ouRF:FT:=[(22,ctContR)]
theorem ouFok:FTokI Tryz.prog ouF (inlOf [(3000003,{ k:=13,L:=[0,1,2,3,4,5,6,7,8,9,10,11],sl:=[2,3,8,9] })]):=fti_cons (contOk.i _) fti_nil
theorem ouRFok:FTokI Tryz.prog ouRF (inlOf [(3000003,{ k:=13,L:=[0,1,2,3,4,5,6,7,8,9,10,11],sl:=[2,3,8,9] })]):=fti_cons (contROk.i _) fti_nil
set_option maxRecDepth 100000 in
set_option maxHeartbeats 8000000 in
theorem outP_sx (x:CfgK) (c:Cfg) (y:StK) (s:St) (hp:c.versions.length≤1000) :
  sx tt ouF [(3000003,{ k:=13,L:=[0,1,2,3,4,5,6,7,8,9,10,11],sl:=[2,3,8,9] })] (bodyOf Tryz.f25) (argF 0 [cfgV CN1 x c,stV SN1 y s]) (rdM c s noS) 10 (endx tt Tryz.f25.results.toList fun v mem' _=>SlR mem' 1 intC 0 (outL c s c.versions.length) v):=by
 have hUle:=outL_le c s
 have app_el:=@app_elB
 refine⟨Int×Nat×Option (Nat×(Nat→List Value)),fun q=>match q with | (i,n,none)=>[(10,.int .i64 i),(5,zs0)] | (i,n,some (cap,el))=>[(10,.int .i64 i),(5,slc 12 n cap)],fun q=>match q with | (i,n,none)=>[] | (i,n,some (cap,el))=>[(12,.row (1000000+3) 1 cap el)],fun q=>match q with | (i,n,o)=>((0≤i∧i≤c.versions.length)∧n=(outL c s i.toNat).length)∧match o with | none=>n=0 | some (cap,el)=>n≤cap∧∀ k,k<n→el k=intC ((outL c s i.toNat).getD k 0),fun q=>match q with | (i,n,o)=>((c.versions.length:Int)-i).toNat,⟨(0,0,none),[],⟨⟨by omega,rfl⟩,rfl⟩,⟨rfl,rfl⟩,kp_,kp_⟩,?_⟩
 rintro⟨i,n,(_ | ⟨cap,el⟩)⟩ ⟨⟨hi,hn⟩,ho⟩
 ·refine⟨⟨by decide,rfl,rfl⟩,?_⟩
  refine⟨fun hlt1=>?_,fun hge=>?_⟩
  ·have hlt2:i<(c.versions.length:Int):=of_decide_eq_true hlt1
   have hub:n≤i.toNat:=by rw[hn];exact hUle i.toNat
   refine⟨CN1,x,c,SN1,y,s,i,rfl,HasCfg.keeps kp_,⟨.list rfl,.list rfl⟩,hp,?_⟩
   have hii:((i.toNat:Nat):Int)=i:=by omega
   have hq2:contB c s ((i.toNat:Nat):Int)=contB c s i:=by rw[hii]
   generalize contB c s i=q at hq2 ⊢
   refine⟨fun hb=>?_,fun hb=>?_⟩
   ·have hov:(!contB c s ((i.toNat:Nat):Int))=true:=by rw[hq2];exact hb
    refine⟨⟨Nat.le_refl _,fun k hk=>by match k,hk with | 0,_=>rfl⟩,?_⟩
    refine⟨fun h=>absurd h (by decide),fun _=>⟨by decide,fun cap2 el2 hc2 hel2=>?_⟩⟩
    refine⟨(_,_,some (cap2,el2)),[(12,14)],?_,⟨rfl,rfl⟩,kp_,kp_⟩
    dsimp only
    rw[wrapi (n:=i+1) (by omega),show (i+1).toNat=i.toNat+1 by omega,outL_succ]
    rw[if_pos hov]
    refine⟨⟨⟨by omega,by rw[List.length_append,← hn,ho];rfl⟩,by omega,?_⟩,by omega⟩
    exact app_el (n:=0) (el:=fun _=>[]) (enc:=intC) (by rw[← hn,ho]) (fun k hk=>absurd hk (by omega)) (fun k hk=>absurd hk (by omega)) (by rw[hel2 0 (by omega)];exact congrArg (fun z=>[Value.int .i64 z]) (by omega))
   ·have hov:¬ ((!contB c s ((i.toNat:Nat):Int))=true):=by rw[hq2];exact fun h=>absurd (h.symm.trans hb) (by decide)
    refine⟨(_,n,none),[],?_,⟨rfl,rfl⟩,kp_,kp_⟩
    dsimp only
    rw[wrapi (n:=i+1) (by omega),show (i+1).toNat=i.toNat+1 by omega,outL_succ]
    rw[if_neg hov,List.append_nil]
    exact⟨⟨⟨by omega,hn⟩,ho⟩,by omega⟩
  ·have hge2:¬ i<(c.versions.length:Int):=of_decide_eq_false hge
   have hie:i.toNat=c.versions.length:=by omega
   rw[hie] at hn
   exact .inl ⟨rfl,List.eq_nil_of_length_eq_zero (by rw[← hn];exact ho)⟩
 ·refine⟨⟨by decide,rfl,rfl⟩,?_⟩
  refine⟨fun hlt1=>?_,fun hge=>?_⟩
  ·have hlt2:i<(c.versions.length:Int):=of_decide_eq_true hlt1
   have hub:n≤i.toNat:=by rw[hn];exact hUle i.toNat
   refine⟨CN1,x,c,SN1,y,s,i,rfl,HasCfg.keeps kp_,⟨.list rfl,.list rfl⟩,hp,?_⟩
   have hii:((i.toNat:Nat):Int)=i:=by omega
   have hq2:contB c s ((i.toNat:Nat):Int)=contB c s i:=by rw[hii]
   generalize contB c s i=q at hq2 ⊢
   refine⟨fun hb=>?_,fun hb=>?_⟩
   ·have hov:(!contB c s ((i.toNat:Nat):Int))=true:=by rw[hq2];exact hb
    refine⟨⟨Nat.le_refl _,fun k hk=>by match k,hk with | 0,_=>rfl⟩,?_⟩
    refine⟨⟨rfl,ho.1⟩,fun hin el2 h1 h2=>?_,fun hgt=>⟨by show (n+1) * 8≤140737488355328;omega,fun cap2 el2 hc2 h1 h2=>?_⟩⟩
    ·refine⟨(_,_,some (cap,el2)),[],?_,⟨rfl,rfl⟩,kp_,kp_⟩
     dsimp only
     rw[wrapi (n:=i+1) (by omega),show (i+1).toNat=i.toNat+1 by omega,outL_succ]
     rw[if_pos hov]
     refine⟨⟨⟨by omega,by rw[List.length_append,← hn];rfl⟩,by omega,?_⟩,by omega⟩
     exact app_el (enc:=intC) (el:=el) hn ho.2 h1 (by rw[h2 0 (by omega)];exact congrArg (fun z=>[Value.int .i64 z]) (by omega))
    ·refine⟨(_,_,some (cap2,el2)),[(12,14)],?_,⟨rfl,rfl⟩,kp_,kp_⟩
     dsimp only
     rw[wrapi (n:=i+1) (by omega),show (i+1).toNat=i.toNat+1 by omega,outL_succ]
     rw[if_pos hov]
     refine⟨⟨⟨by omega,by rw[List.length_append,← hn];rfl⟩,by omega,?_⟩,by omega⟩
     exact app_el (enc:=intC) (el:=el) hn ho.2 h1 (by rw[h2 0 (by omega)];exact congrArg (fun z=>[Value.int .i64 z]) (by omega))
   ·have hov:¬ ((!contB c s ((i.toNat:Nat):Int))=true):=by rw[hq2];exact fun h=>absurd (h.symm.trans hb) (by decide)
    refine⟨(_,n,some (cap,el)),[],?_,⟨rfl,rfl⟩,kp_,kp_⟩
    dsimp only
    rw[wrapi (n:=i+1) (by omega),show (i+1).toNat=i.toNat+1 by omega,outL_succ]
    rw[if_neg hov,List.append_nil]
    exact⟨⟨⟨by omega,hn⟩,ho⟩,by omega⟩
  ·have hge2:¬ i<(c.versions.length:Int):=of_decide_eq_false hge
   have hie:i.toNat=c.versions.length:=by omega
   rw[hie] at hn ho
   subst hn
   exact .inr ⟨12,cap,_,cap,el,rfl,rfl,rfl,ho.1,ho.2⟩
theorem outP_calls (x:CfgA) (c:Cfg) (y:StA) (s:St) (w:World) (hc:CfgOk w (·<w.heap.size) x c) (hs:StOk w (·<w.heap.size) y s) (hp:c.versions.length≤1000) :
  Calls Tryz.prog 25 #[.agg (cfgC x c),.agg (stC y s)] w fun e w'=>∃ A cp,e=.returned (.slice A (outL c s c.versions.length).length cp)∧Rd w' (fun b=>w.heap.size≤b∧b<w'.heap.size) A (flat intC (outL c s c.versions.length))∧Below w.heap.size w w':=by
 have:=rd_callsL ttOk ouFok Tryz.func25 rfl (D:=[(3000003,{ k:=13,L:=[0,1,2,3,4,5,6,7,8,9,10,11],sl:=[2,3,8,9] })]) (by kernel_rfl) (vs:=[cfgV CN1 (ck x) c,stV SN1 (sk y) s]) rfl x c y s w hc hs (fun v hv=>by
  simp only[List.mem_cons,List.not_mem_nil,or_false] at hv
  rcases hv with rfl | rfl
  ·exact rpl_cfg_ok x c y s noA noS
  ·exact rpl_st_ok x c y s noA noS) (outP_sx (ck x) c (sk y) s hp)
 rw[List.map_cons,rpl_cfg,List.map_cons,rpl_st] at this
 refine this.mono ?_
 rintro e w' ⟨v,mem',nx',ρ',rfl,hR,hv,hm',hb⟩
 obtain⟨A,cp,e1,hr⟩:=hm'.slR (enc:=intC) (sz:=1) (fun _=>rfl) (by omega) hR
 refine⟨A,cp,?_,hr,hb⟩
 congr 1
 rcases hR with⟨rfl,-⟩ | ⟨r,cap,t,n,el,rfl,-⟩
 ·exact e1
 ·exact e1
def ctOutP:CT:=fun vs mem nx K=>∃ N x c M y s,vs=[cfgV N x c,stV M y s]∧HasCfg mem N c∧(HasRow mem M.t 12 tsC default s.tenants∧HasRow mem M.c 4 csC default s.cells)∧(c.versions.length≤1000)∧∀ cp,K (slc nx (outL c s c.versions.length).length cp) ((nx,rowOfL 500000 1 intC 0 (outL c s c.versions.length))::mem) (nx+1)
theorem outPOk:CSound Tryz.prog 25 ctOutP:=⟨by kernel_rfl,fun {C ρ fr mem nx a w vs K} hc hs hv=>by
 obtain⟨N,x,c,M,y,s,rfl,hk,⟨h1,h2⟩,hp,hK⟩:=hc
 rw[List.map_cons,den_cfg,List.map_cons,den_st]
 refine (outP_calls (cfgX ρ N x) c (stX ρ M y) s w (hs.cfgH hk) (hs.stRow h1 h2) hp).mono ?_
 rintro e w' ⟨A,cp,rfl,hr,hb⟩
 exact hs.intsL hb hr (hK cp)⟩
set_option maxRecDepth 100000 in
set_option maxHeartbeats 8000000 in
theorem outR_sx (x:CfgK) (c:Cfg) (y:StK) (s:St) (hp:c.versions.length≤1000) :
  sx tt ouRF [(3000003,{ k:=13,L:=[0,1,2,3,4,5,6,7,8,9,10,11],sl:=[2,3,8,9] })] (bodyOf Tryz.f26) (argF 0 [cfgV CN1 x c,stV SN1 y s]) (rdM c s noS) 10 (endx tt Tryz.f26.results.toList fun v mem' _=>SlR mem' 1 intC 0 (outL c s c.versions.length) v):=by
 have hUle:=outL_le c s
 have app_el:=@app_elB
 refine⟨Int×Nat×Option (Nat×(Nat→List Value)),fun q=>match q with | (i,n,none)=>[(10,.int .i64 i),(5,zs0)] | (i,n,some (cap,el))=>[(10,.int .i64 i),(5,slc 12 n cap)],fun q=>match q with | (i,n,none)=>[] | (i,n,some (cap,el))=>[(12,.row (1000000+3) 1 cap el)],fun q=>match q with | (i,n,o)=>((0≤i∧i≤c.versions.length)∧n=(outL c s i.toNat).length)∧match o with | none=>n=0 | some (cap,el)=>n≤cap∧∀ k,k<n→el k=intC ((outL c s i.toNat).getD k 0),fun q=>match q with | (i,n,o)=>((c.versions.length:Int)-i).toNat,⟨(0,0,none),[],⟨⟨by omega,rfl⟩,rfl⟩,⟨rfl,rfl⟩,kp_,kp_⟩,?_⟩
 rintro⟨i,n,(_ | ⟨cap,el⟩)⟩ ⟨⟨hi,hn⟩,ho⟩
 ·refine⟨⟨by decide,rfl,rfl⟩,?_⟩
  refine⟨fun hlt1=>?_,fun hge=>?_⟩
  ·have hlt2:i<(c.versions.length:Int):=of_decide_eq_true hlt1
   have hub:n≤i.toNat:=by rw[hn];exact hUle i.toNat
   refine⟨CN1,x,c,SN1,y,s,i,rfl,HasCfg.keeps kp_,⟨.list rfl,.list rfl⟩,hp,?_⟩
   have hii:((i.toNat:Nat):Int)=i:=by omega
   have hq2:contB c s ((i.toNat:Nat):Int)=contB c s i:=by rw[hii]
   generalize contB c s i=q at hq2 ⊢
   refine⟨fun hb=>?_,fun hb=>?_⟩
   ·have hov:(!contB c s ((i.toNat:Nat):Int))=true:=by rw[hq2];exact hb
    refine⟨⟨Nat.le_refl _,fun k hk=>by match k,hk with | 0,_=>rfl⟩,?_⟩
    refine⟨fun h=>absurd h (by decide),fun _=>⟨by decide,fun cap2 el2 hc2 hel2=>?_⟩⟩
    refine⟨(_,_,some (cap2,el2)),[(12,14)],?_,⟨rfl,rfl⟩,kp_,kp_⟩
    dsimp only
    rw[wrapi (n:=i+1) (by omega),show (i+1).toNat=i.toNat+1 by omega,outL_succ]
    rw[if_pos hov]
    refine⟨⟨⟨by omega,by rw[List.length_append,← hn,ho];rfl⟩,by omega,?_⟩,by omega⟩
    exact app_el (n:=0) (el:=fun _=>[]) (enc:=intC) (by rw[← hn,ho]) (fun k hk=>absurd hk (by omega)) (fun k hk=>absurd hk (by omega)) (by rw[hel2 0 (by omega)];exact congrArg (fun z=>[Value.int .i64 z]) (by omega))
   ·have hov:¬ ((!contB c s ((i.toNat:Nat):Int))=true):=by rw[hq2];exact fun h=>absurd (h.symm.trans hb) (by decide)
    refine⟨(_,n,none),[],?_,⟨rfl,rfl⟩,kp_,kp_⟩
    dsimp only
    rw[wrapi (n:=i+1) (by omega),show (i+1).toNat=i.toNat+1 by omega,outL_succ]
    rw[if_neg hov,List.append_nil]
    exact⟨⟨⟨by omega,hn⟩,ho⟩,by omega⟩
  ·have hge2:¬ i<(c.versions.length:Int):=of_decide_eq_false hge
   have hie:i.toNat=c.versions.length:=by omega
   rw[hie] at hn
   exact .inl ⟨rfl,List.eq_nil_of_length_eq_zero (by rw[← hn];exact ho)⟩
 ·refine⟨⟨by decide,rfl,rfl⟩,?_⟩
  refine⟨fun hlt1=>?_,fun hge=>?_⟩
  ·have hlt2:i<(c.versions.length:Int):=of_decide_eq_true hlt1
   have hub:n≤i.toNat:=by rw[hn];exact hUle i.toNat
   refine⟨CN1,x,c,SN1,y,s,i,rfl,HasCfg.keeps kp_,⟨.list rfl,.list rfl⟩,hp,?_⟩
   have hii:((i.toNat:Nat):Int)=i:=by omega
   have hq2:contB c s ((i.toNat:Nat):Int)=contB c s i:=by rw[hii]
   generalize contB c s i=q at hq2 ⊢
   refine⟨fun hb=>?_,fun hb=>?_⟩
   ·have hov:(!contB c s ((i.toNat:Nat):Int))=true:=by rw[hq2];exact hb
    refine⟨⟨Nat.le_refl _,fun k hk=>by match k,hk with | 0,_=>rfl⟩,?_⟩
    refine⟨⟨rfl,ho.1⟩,fun hin el2 h1 h2=>?_,fun hgt=>⟨by show (n+1) * 8≤140737488355328;omega,fun cap2 el2 hc2 h1 h2=>?_⟩⟩
    ·refine⟨(_,_,some (cap,el2)),[],?_,⟨rfl,rfl⟩,kp_,kp_⟩
     dsimp only
     rw[wrapi (n:=i+1) (by omega),show (i+1).toNat=i.toNat+1 by omega,outL_succ]
     rw[if_pos hov]
     refine⟨⟨⟨by omega,by rw[List.length_append,← hn];rfl⟩,by omega,?_⟩,by omega⟩
     exact app_el (enc:=intC) (el:=el) hn ho.2 h1 (by rw[h2 0 (by omega)];exact congrArg (fun z=>[Value.int .i64 z]) (by omega))
    ·refine⟨(_,_,some (cap2,el2)),[(12,14)],?_,⟨rfl,rfl⟩,kp_,kp_⟩
     dsimp only
     rw[wrapi (n:=i+1) (by omega),show (i+1).toNat=i.toNat+1 by omega,outL_succ]
     rw[if_pos hov]
     refine⟨⟨⟨by omega,by rw[List.length_append,← hn];rfl⟩,by omega,?_⟩,by omega⟩
     exact app_el (enc:=intC) (el:=el) hn ho.2 h1 (by rw[h2 0 (by omega)];exact congrArg (fun z=>[Value.int .i64 z]) (by omega))
   ·have hov:¬ ((!contB c s ((i.toNat:Nat):Int))=true):=by rw[hq2];exact fun h=>absurd (h.symm.trans hb) (by decide)
    refine⟨(_,n,some (cap,el)),[],?_,⟨rfl,rfl⟩,kp_,kp_⟩
    dsimp only
    rw[wrapi (n:=i+1) (by omega),show (i+1).toNat=i.toNat+1 by omega,outL_succ]
    rw[if_neg hov,List.append_nil]
    exact⟨⟨⟨by omega,hn⟩,ho⟩,by omega⟩
  ·have hge2:¬ i<(c.versions.length:Int):=of_decide_eq_false hge
   have hie:i.toNat=c.versions.length:=by omega
   rw[hie] at hn ho
   subst hn
   exact .inr ⟨12,cap,_,cap,el,rfl,rfl,rfl,ho.1,ho.2⟩
theorem outR_calls (x:CfgA) (c:Cfg) (y:StA) (s:St) (w:World) (hc:CfgOk w (·<w.heap.size) x c) (hs:StOk w (·<w.heap.size) y s) (hp:c.versions.length≤1000) :
  Calls Tryz.prog 26 #[.agg (cfgC x c),.agg (stC y s)] w fun e w'=>∃ A cp,e=.returned (.slice A (outL c s c.versions.length).length cp)∧Rd w' (fun b=>w.heap.size≤b∧b<w'.heap.size) A (flat intC (outL c s c.versions.length))∧Below w.heap.size w w':=by
 have:=rd_callsL ttOk ouRFok Tryz.func26 rfl (D:=[(3000003,{ k:=13,L:=[0,1,2,3,4,5,6,7,8,9,10,11],sl:=[2,3,8,9] })]) (by kernel_rfl) (vs:=[cfgV CN1 (ck x) c,stV SN1 (sk y) s]) rfl x c y s w hc hs (fun v hv=>by
  simp only[List.mem_cons,List.not_mem_nil,or_false] at hv
  rcases hv with rfl | rfl
  ·exact rpl_cfg_ok x c y s noA noS
  ·exact rpl_st_ok x c y s noA noS) (outR_sx (ck x) c (sk y) s hp)
 rw[List.map_cons,rpl_cfg,List.map_cons,rpl_st] at this
 refine this.mono ?_
 rintro e w' ⟨v,mem',nx',ρ',rfl,hR,hv,hm',hb⟩
 obtain⟨A,cp,e1,hr⟩:=hm'.slR (enc:=intC) (sz:=1) (fun _=>rfl) (by omega) hR
 refine⟨A,cp,?_,hr,hb⟩
 congr 1
 rcases hR with⟨rfl,-⟩ | ⟨r,cap,t,n,el,rfl,-⟩
 ·exact e1
 ·exact e1
def ctOutR:CT:=fun vs mem nx K=>∃ N x c M y s,vs=[cfgV N x c,stV M y s]∧HasCfg mem N c∧(HasRow mem M.t 12 tsC default s.tenants∧HasRow mem M.c 4 csC default s.cells)∧(c.versions.length≤1000)∧∀ cp,K (slc nx (outL c s c.versions.length).length cp) ((nx,rowOfL 500000 1 intC 0 (outL c s c.versions.length))::mem) (nx+1)
theorem outROk:CSound Tryz.prog 26 ctOutR:=⟨by kernel_rfl,fun {C ρ fr mem nx a w vs K} hc hs hv=>by
 obtain⟨N,x,c,M,y,s,rfl,hk,⟨h1,h2⟩,hp,hK⟩:=hc
 rw[List.map_cons,den_cfg,List.map_cons,den_st]
 refine (outR_calls (cfgX ρ N x) c (stX ρ M y) s w (hs.cfgH hk) (hs.stRow h1 h2) hp).mono ?_
 rintro e w' ⟨A,cp,rfl,hr,hb⟩
 exact hs.intsL hb hr (hK cp)⟩
set_option maxRecDepth 100000 in
set_option maxHeartbeats 8000000 in
theorem blockR_sx (x : CfgK) (c : Cfg) (y : StK) (s : St) (hp : c.versions.length ≤ 1000 ∧ StInv c s ∧ s.cells.length ≤ 1000) :
    sx tt [] [(3000003, { k := 13, L := [0, 1, 2, 3, 4, 5, 6, 7, 8, 9, 10, 11], sl := [2, 3, 9, 10] }), (5, { k := 20, L := [0, 1, 2, 3, 4, 5, 6, 7, 8, 9, 10, 11, 13], pre := [(0, false), (1, false), (2, false), (3, false), (4, false), (5, false), (6, false), (7, false), (8, false), (9, false), (10, false), (11, false), (12, false), (13, false), (14, false), (15, false), (16, false), (17, false), (18, false), (19, false)] })] (bodyOf Tryz.f24) (argF 0 [cfgV CN1 x c, stV SN1 y s]) (rdM c s noS) 10 (endx tt Tryz.f24.results.toList fun v mem' _ => SlR mem' 1 intC 0 (blockL c s s.cells.length) v) := by
  have hUle := blockL_le c s
  have app_el := @app_elB
  refine ⟨Int × Nat × Option (Nat × (Nat → List Value)), fun q => match q with | (i, n, none) => [(11, .int .i64 i), (5, zs0)] | (i, n, some (cap, el)) => [(11, .int .i64 i), (5, slc 12 n cap)], fun q => match q with | (i, n, none) => [] | (i, n, some (cap, el)) => [(12, .row (1000000 + 3) 1 cap el)], fun q => match q with | (i, n, o) => ((0 ≤ i ∧ i ≤ s.cells.length) ∧ n = (blockL c s i.toNat).length) ∧ match o with | none => n = 0 | some (cap, el) => n ≤ cap ∧ ∀ k, k < n → el k = intC ((blockL c s i.toNat).getD k 0), fun q => match q with | (i, n, o) => ((s.cells.length : Int) - i).toNat, ⟨(0, 0, none), [], ⟨⟨by omega, rfl⟩, rfl⟩, ⟨rfl, rfl⟩, kp_, kp_⟩, ?_⟩
  rintro ⟨i, n, (_ | ⟨cap, el⟩)⟩ ⟨⟨hi, hn⟩, ho⟩
  · refine ⟨⟨by decide, rfl, rfl⟩, ?_⟩
    refine ⟨fun hlt1 => ?_, fun hge => ?_⟩
    · have hlt2 : i < (s.cells.length : Int) := of_decide_eq_true hlt1
      have hub : n ≤ i.toNat := by rw [hn]; exact hUle i.toNat
      refine ⟨⟨Nat.le_refl _, hi.1, hlt2⟩, ?_⟩
      have hx : CsInv c s.low s.high (s.cells.getD i.toNat default) := hp.2.1.cel _ (getD_memB (by omega))
      have hr := hx.running
      have hw := hx.wanted
      have hP := blkV_blockB hx
      repeat' (first | refine ⟨fun _ => ?_, fun h => Bool.noConfusion h⟩ | refine ⟨fun h => Bool.noConfusion h, fun _ => ?_⟩ | refine ⟨fun _ => ?_, fun _ => ?_⟩ | refine ⟨⟨Nat.le_refl _, by omega, by omega⟩, ?_⟩ | fail)
      all_goals first
        | (have hov : (blkV c s (s.cells.getD i.toNat default).running || blkV c s (s.cells.getD i.toNat default).wanted) = true := by rw [hP]; unfold blockB verAt; grind
           refine ⟨⟨Nat.le_refl _, fun k hk => by match k, hk with | 0, _ => rfl⟩, ?_⟩
           refine ⟨fun h => absurd h (by decide), fun _ => ⟨by decide, fun cap2 el2 hc2 hel2 => ?_⟩⟩
           refine ⟨(_, _, some (cap2, el2)), [(12, 15)], ?_, ⟨rfl, rfl⟩, kp_, kp_⟩
           dsimp only
           rw [wrapi (n := i + 1) (by omega), show (i + 1).toNat = i.toNat + 1 by omega, blockL_succ]
           rw [if_pos hov]
           refine ⟨⟨⟨by omega, by rw [List.length_append, ← hn, ho]; rfl⟩, by omega, ?_⟩, by omega⟩
           exact app_el (n := 0) (el := fun _ => []) (enc := intC) (by rw [← hn, ho]) (fun k hk => absurd hk (by omega)) (fun k hk => absurd hk (by omega)) (by rw [hel2 0 (by omega)]; exact congrArg (fun z => [Value.int .i64 z]) (by omega))
          )
        | (have hov : ¬ ((blkV c s (s.cells.getD i.toNat default).running || blkV c s (s.cells.getD i.toNat default).wanted) = true) := by rw [hP]; unfold blockB verAt; grind
           refine ⟨(_, n, none), [], ?_, ⟨rfl, rfl⟩, kp_, kp_⟩
           dsimp only
           rw [wrapi (n := i + 1) (by omega), show (i + 1).toNat = i.toNat + 1 by omega, blockL_succ]
           rw [if_neg hov, List.append_nil]
           exact ⟨⟨⟨by omega, hn⟩, ho⟩, by omega⟩
          )
        | fail
    · have hge2 : ¬ i < (s.cells.length : Int) := of_decide_eq_false hge
      have hie : i.toNat = s.cells.length := by omega
      rw [hie] at hn
      exact .inl ⟨rfl, List.eq_nil_of_length_eq_zero (by rw [← hn]; exact ho)⟩
  · refine ⟨⟨by decide, rfl, rfl⟩, ?_⟩
    refine ⟨fun hlt1 => ?_, fun hge => ?_⟩
    · have hlt2 : i < (s.cells.length : Int) := of_decide_eq_true hlt1
      have hub : n ≤ i.toNat := by rw [hn]; exact hUle i.toNat
      refine ⟨⟨Nat.le_refl _, hi.1, hlt2⟩, ?_⟩
      have hx : CsInv c s.low s.high (s.cells.getD i.toNat default) := hp.2.1.cel _ (getD_memB (by omega))
      have hr := hx.running
      have hw := hx.wanted
      have hP := blkV_blockB hx
      repeat' (first | refine ⟨fun _ => ?_, fun h => Bool.noConfusion h⟩ | refine ⟨fun h => Bool.noConfusion h, fun _ => ?_⟩ | refine ⟨fun _ => ?_, fun _ => ?_⟩ | refine ⟨⟨Nat.le_refl _, by omega, by omega⟩, ?_⟩ | fail)
      all_goals first
        | (have hov : (blkV c s (s.cells.getD i.toNat default).running || blkV c s (s.cells.getD i.toNat default).wanted) = true := by rw [hP]; unfold blockB verAt; grind
           refine ⟨⟨Nat.le_refl _, fun k hk => by match k, hk with | 0, _ => rfl⟩, ?_⟩
           refine ⟨⟨rfl, ho.1⟩, fun hin el2 h1 h2 => ?_, fun hgt => ⟨by show (n + 1) * 8 ≤ 140737488355328; omega, fun cap2 el2 hc2 h1 h2 => ?_⟩⟩
           · refine ⟨(_, _, some (cap, el2)), [], ?_, ⟨rfl, rfl⟩, kp_, kp_⟩
             dsimp only
             rw [wrapi (n := i + 1) (by omega), show (i + 1).toNat = i.toNat + 1 by omega, blockL_succ]
             rw [if_pos hov]
             refine ⟨⟨⟨by omega, by rw [List.length_append, ← hn]; rfl⟩, by omega, ?_⟩, by omega⟩
             exact app_el (enc := intC) (el := el) hn ho.2 h1 (by rw [h2 0 (by omega)]; exact congrArg (fun z => [Value.int .i64 z]) (by omega))
           · refine ⟨(_, _, some (cap2, el2)), [(12, 15)], ?_, ⟨rfl, rfl⟩, kp_, kp_⟩
             dsimp only
             rw [wrapi (n := i + 1) (by omega), show (i + 1).toNat = i.toNat + 1 by omega, blockL_succ]
             rw [if_pos hov]
             refine ⟨⟨⟨by omega, by rw [List.length_append, ← hn]; rfl⟩, by omega, ?_⟩, by omega⟩
             exact app_el (enc := intC) (el := el) hn ho.2 h1 (by rw [h2 0 (by omega)]; exact congrArg (fun z => [Value.int .i64 z]) (by omega))
          )
        | (have hov : ¬ ((blkV c s (s.cells.getD i.toNat default).running || blkV c s (s.cells.getD i.toNat default).wanted) = true) := by rw [hP]; unfold blockB verAt; grind
           refine ⟨(_, n, some (cap, el)), [], ?_, ⟨rfl, rfl⟩, kp_, kp_⟩
           dsimp only
           rw [wrapi (n := i + 1) (by omega), show (i + 1).toNat = i.toNat + 1 by omega, blockL_succ]
           rw [if_neg hov, List.append_nil]
           exact ⟨⟨⟨by omega, hn⟩, ho⟩, by omega⟩
          )
        | fail
    · have hge2 : ¬ i < (s.cells.length : Int) := of_decide_eq_false hge
      have hie : i.toNat = s.cells.length := by omega
      rw [hie] at hn ho
      subst hn
      exact .inr ⟨12, cap, _, cap, el, rfl, rfl, rfl, ho.1, ho.2⟩
theorem blockR_calls (x:CfgA) (c:Cfg) (y:StA) (s:St) (w:World) (hc:CfgOk w (·<w.heap.size) x c) (hs:StOk w (·<w.heap.size) y s) (hp:c.versions.length≤1000∧StInv c s∧s.cells.length≤1000) :
  Calls Tryz.prog 24 #[.agg (cfgC x c),.agg (stC y s)] w fun e w'=>∃ A cp,e=.returned (.slice A (blockL c s s.cells.length).length cp)∧Rd w' (fun b=>w.heap.size≤b∧b<w'.heap.size) A (flat intC (blockL c s s.cells.length))∧Below w.heap.size w w':=by
 have:=rd_callsL ttOk fti_nil Tryz.func24 rfl (D:=[(3000003,{ k:=13,L:=[0,1,2,3,4,5,6,7,8,9,10,11],sl:=[2,3,9,10] }),(5,{ k:=20,L:=[0,1,2,3,4,5,6,7,8,9,10,11,13],pre:=[(0,false),(1,false),(2,false),(3,false),(4,false),(5,false),(6,false),(7,false),(8,false),(9,false),(10,false),(11,false),(12,false),(13,false),(14,false),(15,false),(16,false),(17,false),(18,false),(19,false)] })]) (by kernel_rfl) (vs:=[cfgV CN1 (ck x) c,stV SN1 (sk y) s]) rfl x c y s w hc hs (fun v hv=>by
  simp only[List.mem_cons,List.not_mem_nil,or_false] at hv
  rcases hv with rfl | rfl
  ·exact rpl_cfg_ok x c y s noA noS
  ·exact rpl_st_ok x c y s noA noS) (blockR_sx (ck x) c (sk y) s hp)
 rw[List.map_cons,rpl_cfg,List.map_cons,rpl_st] at this
 refine this.mono ?_
 rintro e w' ⟨v,mem',nx',ρ',rfl,hR,hv,hm',hb⟩
 obtain⟨A,cp,e1,hr⟩:=hm'.slR (enc:=intC) (sz:=1) (fun _=>rfl) (by omega) hR
 refine⟨A,cp,?_,hr,hb⟩
 congr 1
 rcases hR with⟨rfl,-⟩ | ⟨r,cap,t,n,el,rfl,-⟩
 ·exact e1
 ·exact e1
def ctBlockR:CT:=fun vs mem nx K=>∃ N x c M y s,vs=[cfgV N x c,stV M y s]∧HasCfg mem N c∧(HasRow mem M.t 12 tsC default s.tenants∧HasRow mem M.c 4 csC default s.cells)∧(c.versions.length≤1000∧StInv c s∧s.cells.length≤1000)∧∀ cp,K (slc nx (blockL c s s.cells.length).length cp) ((nx,rowOfL 500000 1 intC 0 (blockL c s s.cells.length))::mem) (nx+1)
theorem blockROk:CSound Tryz.prog 24 ctBlockR:=⟨by kernel_rfl,fun {C ρ fr mem nx a w vs K} hc hs hv=>by
 obtain⟨N,x,c,M,y,s,rfl,hk,⟨h1,h2⟩,hp,hK⟩:=hc
 rw[List.map_cons,den_cfg,List.map_cons,den_st]
 refine (blockR_calls (cfgX ρ N x) c (stX ρ M y) s w (hs.cfgH hk) (hs.stRow h1 h2) hp).mono ?_
 rintro e w' ⟨A,cp,rfl,hr,hb⟩
 exact hs.intsL hb hr (hK cp)⟩
/-! law39.SchemaReads -/
def reF:FT:=[(11,ctAwake39),(12,ctInl tt [] [] Tryz.f12 (bodyOf Tryz.f12)),(13,ctWorlds),(21,ctCont),(22,ctContR),(19,ctBlock),(24,ctBlockR),(25,ctOutP),(26,ctOutR),(23,ctSame24)]
def reD:List (Nat×DQ):=[(9000000,{ k:=0,L:=[12] }),(2000007,{ k:=0,L:=[0,1,2,3,4,5,6,7,8,9,10,11,12,13,14,15,16,17,18,19,20,22,23],sl:=[3,9,10] }),(9,{ k:=7,L:=[22,23],pre:=[(0,false),(1,false),(2,false),(4,false),(5,false),(6,false),(3,true)] }),(11,{ k:=24,L:=[22,23],pre:=[(0,false),(1,false),(2,false),(4,false),(5,false),(6,false),(3,true),(7,true),(8,false),(9,false),(10,false),(11,false),(13,false),(14,false),(12,true),(15,true),(16,true),(17,false),(18,false),(19,false),(20,false),(22,false),(23,false),(21,true)] })]
theorem reFok:FTokI Tryz.prog reF (inlOf reD):=fti_cons (awake39Ok.i _) (fti_cons (inl_ok ttOk fti_nil mixed (by kernel_rfl) Tryz.func12 rfl (by kernel_rfl) (by decide)) (fti_cons (worldsOk.i _) (fti_cons (contOk.i _) (fti_cons (contROk.i _) (fti_cons (blockOk.i _) (fti_cons (blockROk.i _) (fti_cons (outPOk.i _) (fti_cons (outROk.i _) (fti_cons (same24Ok.i _) fti_nil)))))))))
set_option maxRecDepth 100000 in
set_option maxHeartbeats 8000000 in
theorem reads_sx (cap0 cap1:Nat) (l more:List Int) (packed:Bool) (version:Int) (hm0:l.length≤maxLen) (hm1:more.length≤maxLen) :
  sx tt reF reD (bodyOf Tryz.f7) (argF 0 [slc 0 l.length cap0,slc 1 more.length cap1,.bool packed,.int .i64 version]) (uniM { l0:=l,l1:=more }) 13 (endx tt Tryz.f7.results.toList fun v _ _=>v=.bool true):=by
 refine⟨rfl,?_⟩
 refine⟨fun q=>absurd q (by simp),fun _=>?_⟩
 refine⟨fun h=>?_,fun h0=>?_⟩
 ·refine⟨fun _=>rfl,fun h=>nomatch h⟩
 ·refine⟨fun _=>rfl,fun h1=>?_⟩
  have hl0:l.length≤150:=by have q:(l.length:Int)≤150:=(by simpa using h0);omega
  have hl1:more.length≤150:=by have q:(more.length:Int)≤150:=(by simpa using h1);omega
  refine⟨0,1,cap0,cap1,l,more,packed,rfl,⟨⟨_,_,_,rfl,Nat.le_refl _,fun k hk=>rfl⟩,⟨_,_,_,rfl,Nat.le_refl _,fun k hk=>rfl⟩⟩,⟨by omega,by omega⟩,?_⟩
  intro x c y s hV hR hct
  have hI:=hR.inv
  have hnv:=hV.nv
  have hlc:=hI.lc
  have hnc:=hV.nc
  have hul:=outL_le c s c.versions.length
  have hbl:=blockL_le c s s.cells.length
  refine⟨Int,fun i=>[(11,.int .i64 i)],fun _=>[],fun i=>-1≤i∧i≤(c.versions.length:Int)+1,fun i=>((c.versions.length:Int)+1-i).toNat,⟨-1,by omega,kp_,kp_⟩,?_⟩
  rintro i hi
  refine⟨⟨rfl,rfl⟩,?_⟩
  refine⟨fun hlt=>?_,fun hge=>?_⟩
  ·have hlt2:i≤(c.versions.length:Int):=of_decide_eq_true hlt
   refine⟨⟨18,17,16,15,14,13,500000⟩,x,c,⟨20,19,500000⟩,y,s,i,rfl,HasCfg.keeps kp_,⟨.list rfl,.list rfl⟩,(by omega),?_⟩
   refine⟨kp_,?_⟩
   refine⟨⟨18,17,16,15,14,13,500000⟩,x,c,⟨20,19,500000⟩,y,s,i,rfl,HasCfg.keeps kp_,⟨.list rfl,.list rfl⟩,(by omega),?_⟩
   refine⟨fun q=>absurd q (by simp),fun _=>?_⟩
   refine⟨_,?_,kp_,kp_⟩
   rw[wrapi (n:=i+1) (by omega)]
   dsimp only
   exact⟨by omega,by omega⟩
  ·refine⟨⟨18,17,16,15,14,13,500000⟩,x,c,⟨20,19,500000⟩,y,s,version,rfl,HasCfg.keeps kp_,⟨.list rfl,.list rfl⟩,(by omega),?_⟩
   refine⟨kp_,?_⟩
   refine⟨⟨18,17,16,15,14,13,500000⟩,x,c,⟨20,19,500000⟩,y,s,version,rfl,HasCfg.keeps kp_,⟨.list rfl,.list rfl⟩,(by omega),?_⟩
   refine⟨kp_,?_⟩
   refine⟨fun _=>?_,fun q=>absurd q (by simp)⟩
   refine⟨⟨18,17,16,15,14,13,500000⟩,x,c,⟨20,19,500000⟩,y,s,rfl,HasCfg.keeps kp_,⟨.list rfl,.list rfl⟩,⟨by omega,by omega⟩,fun cp1=>?_⟩
   refine⟨kp_,?_⟩
   refine⟨⟨18,17,16,15,14,13,500000⟩,x,c,⟨20,19,500000⟩,y,s,rfl,HasCfg.keeps kp_,⟨.list rfl,.list rfl⟩,⟨by omega,hI,by omega⟩,fun cp2=>?_⟩
   refine⟨kp_,?_⟩
   refine⟨24,25,_,_,_,_,rfl,⟨⟨_,_,_,rfl,Nat.le_refl _,fun k hk=>rfl⟩,⟨_,_,_,rfl,Nat.le_refl _,fun k hk=>rfl⟩⟩,by omega,?_⟩
   intro b1 hb1
   obtain rfl:b1=true:=hb1.2 rfl
   refine⟨kp_,?_⟩
   refine⟨fun _=>?_,fun q=>absurd q (by simp)⟩
   refine⟨⟨18,17,16,15,14,13,500000⟩,x,c,⟨20,19,500000⟩,y,s,rfl,HasCfg.keeps kp_,⟨.list rfl,.list rfl⟩,(by omega),fun cp3=>?_⟩
   refine⟨kp_,?_⟩
   refine⟨⟨18,17,16,15,14,13,500000⟩,x,c,⟨20,19,500000⟩,y,s,rfl,HasCfg.keeps kp_,⟨.list rfl,.list rfl⟩,(by omega),fun cp4=>?_⟩
   refine⟨26,27,_,_,_,_,rfl,⟨⟨_,_,_,rfl,Nat.le_refl _,fun k hk=>rfl⟩,⟨_,_,_,rfl,Nat.le_refl _,fun k hk=>rfl⟩⟩,by omega,?_⟩
   intro b1 hb1
   obtain rfl:b1=true:=hb1.2 rfl
   rfl
theorem schemaReads_law (a0:Option Addr) (cap0:Nat) (z0:List Int) (a1:Option Addr) (cap1:Nat) (z1:List Int) (packed:Bool) (version:Int) (W:World) (hr0:Rd W (·<W.heap.size) a0 (z0.map (Value.int .i64))) (hm0:z0.length≤maxLen) (hr1:Rd W (·<W.heap.size) a1 (z1.map (Value.int .i64))) (hm1:z1.length≤maxLen) {Q0:Prop} (_hq0:Q0) :
  Calls Tryz.prog 7 #[.slice a0 z0.length cap0,.slice a1 z1.length cap1,.bool packed,.int .i64 version] W fun e w'=>e=.returned (.bool true)∧Below W.heap.size W w':=by
 rw[← flat_ints] at hr0 hr1
 refine (uni_calls ttOk reFok Tryz.func7 rfl (D:=reD) (codeF_ok _ (by kernel_rfl)) (vs:=[slc 0 z0.length cap0,slc 1 z1.length cap1,.bool packed,.int .i64 version]) rfl { a0:=a0,a1:=a1 } { l0:=z0,l1:=z1 } W { r0:=hr0,r1:=hr1 } (fun v hv=>by
  simp only[List.mem_cons,List.not_mem_nil,or_false] at hv
  rcases hv with rfl | rfl | rfl | rfl
  ·exact⟨show (0:Nat)<13 by decide,rfl⟩
  ·exact⟨show (1:Nat)<13 by decide,rfl⟩
  ·trivial
  ·trivial) (reads_sx cap0 cap1 z0 z1 packed version hm0 hm1)).mono ?_
 rintro e w' ⟨v,mem',nx',ρ',rfl,rfl,hv,hm',hb⟩
 exact⟨rfl,hb⟩
end Go.Proofs.YtnnpgbleacapfaaGreat
