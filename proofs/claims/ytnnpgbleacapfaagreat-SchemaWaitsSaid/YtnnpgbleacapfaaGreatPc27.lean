import Derived.Test.YtnnpgbleacapfaaGreatPc26
namespace Go.Proofs.YtnnpgbleacapfaaGreat
open Go.RowKit
set_option linter.unusedSimpArgs false
set_option linter.unusedVariables false
/-! schema.Blocking -/
theorem app_elB {α:Type} {enc:α→List Value} {d:α} {l:List α} {x:α} {n:Nat} {el el2:Nat→List Value} (hn:n=l.length) (h0:∀ k,k<n→el k=enc (l.getD k d)) (h1:∀ k,k<n→el2 k=el k) (h2:el2 (n+0)=enc x):∀ k,k<n+1→el2 k=enc ((l++[x]).getD k d):=by
 intro k hk
 by_cases hkn:k<n
 ·rw[h1 k hkn,h0 k hkn,List.getD_eq_getElem?_getD,List.getD_eq_getElem?_getD,List.getElem?_append_left (by omega)]
 ·obtain rfl:k=n:=by omega
  rw[Nat.add_zero] at h2
  rw[h2,List.getD_eq_getElem?_getD,List.getElem?_append_right (by omega),hn,Nat.sub_self]
  rfl
def blkV (c:Cfg) (s:St) (v:Int):Bool:=decide (0≤v)&&decide (v<c.versions.length)&&decide ((c.versions.getD v.toNat (0,0)).2≤s.high)
def blockL (c:Cfg) (s:St) (k:Nat):List Int:=((List.range k).filter fun i=>blkV c s (s.cells.getD i default).running||blkV c s (s.cells.getD i default).wanted).map Int.ofNat
theorem blockL_succ (c:Cfg) (s:St) (k:Nat):blockL c s (k+1)=blockL c s k++(if (blkV c s (s.cells.getD k default).running||blkV c s (s.cells.getD k default).wanted)=true then [(k:Int)] else []):=by
 unfold blockL
 rw[List.range_succ,List.filter_append,List.map_append]
 congr 1
 by_cases h:(blkV c s (s.cells.getD k default).running||blkV c s (s.cells.getD k default).wanted)=true
 ·rw[if_pos h];simp only[List.filter,h];rfl
 ·rw[if_neg h];rw[Bool.not_eq_true] at h;simp only[List.filter,h];rfl
theorem blockL_le (c:Cfg) (s:St) (k:Nat):(blockL c s k).length≤k:=by
 unfold blockL
 rw[List.length_map]
 have:=List.length_filter_le (fun i=>blkV c s (s.cells.getD i default).running||blkV c s (s.cells.getD i default).wanted) (List.range k)
 simpa using this
def bl1D:List (Nat×DQ):=[(1,{ k:=18,L:=[0,1,2,3,4,5,6,7,8,9,10,11],pre:=[(0,false),(1,false),(2,false),(3,false),(4,false),(5,false),(6,false),(7,false),(8,false),(9,false),(10,false),(11,false),(12,false),(13,false),(14,false),(15,false),(16,false),(17,false)] })]
def blF:FT:=[(47,ctInl tt [] bl1D Tryz.f47 (bodyOf Tryz.f47))]
def blD:List (Nat×DQ):=[(9000000,{ k:=0,L:=[47] }),(3000004,{ k:=13,L:=[0,1,2,3,4,5,6,7,8,9,10,11],sl:=[2,3,5,11,12] })]
theorem blFok:FTokI Tryz.prog blF (inlOf blD):=fti_cons (inl_ok ttOk fti_nil mixed (by kernel_rfl) Tryz.func47 rfl (by kernel_rfl) (by decide)) fti_nil
set_option maxRecDepth 100000 in
set_option maxHeartbeats 8000000 in
theorem block_sx (x : CfgK) (c : Cfg) (y : StK) (s : St) (hl : c.versions.length ≤ 1000) (hm : s.cells.length ≤ 1000) :
    sx tt blF blD (bodyOf Tryz.f19) (argF 0 [cfgV CN1 x c, stV SN1 y s]) (rdM c s noS) 10 (endx tt Tryz.f19.results.toList fun v mem' _ => SlR mem' 1 intC 0 (blockL c s s.cells.length) v) := by
  have hUle := blockL_le c s
  have app_el := @app_elB
  refine ⟨Int × Nat × Option (Nat × (Nat → List Value)), fun q => match q with | (i, n, none) => [(13, .int .i64 i), (6, zs0)] | (i, n, some (cap, el)) => [(13, .int .i64 i), (6, slc 12 n cap)], fun q => match q with | (i, n, none) => [] | (i, n, some (cap, el)) => [(12, .row (1000000 + 3) 1 cap el)], fun q => match q with | (i, n, o) => ((0 ≤ i ∧ i ≤ s.cells.length) ∧ n = (blockL c s i.toNat).length) ∧ match o with | none => n = 0 | some (cap, el) => n ≤ cap ∧ ∀ k, k < n → el k = intC ((blockL c s i.toNat).getD k 0), fun q => match q with | (i, n, o) => ((s.cells.length : Int) - i).toNat, ⟨(0, 0, none), [], ⟨⟨by omega, rfl⟩, rfl⟩, ⟨rfl, rfl⟩, kp_, kp_⟩, ?_⟩
  rintro ⟨i, n, (_ | ⟨cap, el⟩)⟩ ⟨⟨hi, hn⟩, ho⟩
  · refine ⟨⟨by decide, rfl, rfl⟩, ?_⟩
    refine ⟨fun hlt1 => ?_, fun hge => ?_⟩
    · have hlt2 : i < (s.cells.length : Int) := of_decide_eq_true hlt1
      have hub : n ≤ i.toNat := by rw [hn]; exact hUle i.toNat
      refine ⟨⟨Nat.le_refl _, hi.1, hlt2⟩, ?_⟩
      repeat' (first | refine ⟨fun _ => ?_, fun h => Bool.noConfusion h⟩ | refine ⟨fun h => Bool.noConfusion h, fun _ => ?_⟩ | refine ⟨fun _ => ?_, fun _ => ?_⟩ | refine ⟨⟨Nat.le_refl _, by grind, by grind⟩, ?_⟩ | fail)
      all_goals first
        | (have hov : (blkV c s (s.cells.getD i.toNat default).running || blkV c s (s.cells.getD i.toNat default).wanted) = true := by unfold blkV; grind
           refine ⟨⟨Nat.le_refl _, fun k hk => by match k, hk with | 0, _ => rfl⟩, ?_⟩
           refine ⟨fun h => absurd h (by decide), fun _ => ⟨by decide, fun cap2 el2 hc2 hel2 => ?_⟩⟩
           refine ⟨(_, _, some (cap2, el2)), [(12, 15)], ?_, ⟨rfl, rfl⟩, kp_, kp_⟩
           dsimp only
           rw [wrapi (n := i + 1) (by omega), show (i + 1).toNat = i.toNat + 1 by omega, blockL_succ]
           rw [if_pos hov]
           refine ⟨⟨⟨by omega, by rw [List.length_append, ← hn, ho]; rfl⟩, by omega, ?_⟩, by omega⟩
           exact app_el (n := 0) (el := fun _ => []) (enc := intC) (by rw [← hn, ho]) (fun k hk => absurd hk (by omega)) (fun k hk => absurd hk (by omega)) (by rw [hel2 0 (by omega)]; exact congrArg (fun z => [Value.int .i64 z]) (by omega))
          )
        | (have hov : ¬ ((blkV c s (s.cells.getD i.toNat default).running || blkV c s (s.cells.getD i.toNat default).wanted) = true) := by unfold blkV; grind
           refine ⟨(_, n, none), [], ?_, ⟨rfl, rfl⟩, kp_, kp_⟩
           dsimp only
           rw [wrapi (n := i + 1) (by omega), show (i + 1).toNat = i.toNat + 1 by omega, blockL_succ]
           rw [if_neg hov, List.append_nil]
           exact ⟨⟨⟨by omega, hn⟩, ho⟩, by omega⟩
          )
        | fail
    · have hge2 : ¬ i < (s.cells.length : Int) := of_decide_eq_false hge
      have hie : i.toNat = s.cells.length := by omega
      rw [hie] at hn
      exact .inl ⟨rfl, List.eq_nil_of_length_eq_zero (by rw [← hn]; exact ho)⟩
  · refine ⟨⟨by decide, rfl, rfl⟩, ?_⟩
    refine ⟨fun hlt1 => ?_, fun hge => ?_⟩
    · have hlt2 : i < (s.cells.length : Int) := of_decide_eq_true hlt1
      have hub : n ≤ i.toNat := by rw [hn]; exact hUle i.toNat
      refine ⟨⟨Nat.le_refl _, hi.1, hlt2⟩, ?_⟩
      repeat' (first | refine ⟨fun _ => ?_, fun h => Bool.noConfusion h⟩ | refine ⟨fun h => Bool.noConfusion h, fun _ => ?_⟩ | refine ⟨fun _ => ?_, fun _ => ?_⟩ | refine ⟨⟨Nat.le_refl _, by grind, by grind⟩, ?_⟩ | fail)
      all_goals first
        | (have hov : (blkV c s (s.cells.getD i.toNat default).running || blkV c s (s.cells.getD i.toNat default).wanted) = true := by unfold blkV; grind
           refine ⟨⟨Nat.le_refl _, fun k hk => by match k, hk with | 0, _ => rfl⟩, ?_⟩
           refine ⟨⟨rfl, ho.1⟩, fun hin el2 h1 h2 => ?_, fun hgt => ⟨by show (n + 1) * 8 ≤ 140737488355328; omega, fun cap2 el2 hc2 h1 h2 => ?_⟩⟩
           · refine ⟨(_, _, some (cap, el2)), [], ?_, ⟨rfl, rfl⟩, kp_, kp_⟩
             dsimp only
             rw [wrapi (n := i + 1) (by omega), show (i + 1).toNat = i.toNat + 1 by omega, blockL_succ]
             rw [if_pos hov]
             refine ⟨⟨⟨by omega, by rw [List.length_append, ← hn]; rfl⟩, by omega, ?_⟩, by omega⟩
             exact app_el (enc := intC) (el := el) hn ho.2 h1 (by rw [h2 0 (by omega)]; exact congrArg (fun z => [Value.int .i64 z]) (by omega))
           · refine ⟨(_, _, some (cap2, el2)), [(12, 15)], ?_, ⟨rfl, rfl⟩, kp_, kp_⟩
             dsimp only
             rw [wrapi (n := i + 1) (by omega), show (i + 1).toNat = i.toNat + 1 by omega, blockL_succ]
             rw [if_pos hov]
             refine ⟨⟨⟨by omega, by rw [List.length_append, ← hn]; rfl⟩, by omega, ?_⟩, by omega⟩
             exact app_el (enc := intC) (el := el) hn ho.2 h1 (by rw [h2 0 (by omega)]; exact congrArg (fun z => [Value.int .i64 z]) (by omega))
          )
        | (have hov : ¬ ((blkV c s (s.cells.getD i.toNat default).running || blkV c s (s.cells.getD i.toNat default).wanted) = true) := by unfold blkV; grind
           refine ⟨(_, n, some (cap, el)), [], ?_, ⟨rfl, rfl⟩, kp_, kp_⟩
           dsimp only
           rw [wrapi (n := i + 1) (by omega), show (i + 1).toNat = i.toNat + 1 by omega, blockL_succ]
           rw [if_neg hov, List.append_nil]
           exact ⟨⟨⟨by omega, hn⟩, ho⟩, by omega⟩
          )
        | fail
    · have hge2 : ¬ i < (s.cells.length : Int) := of_decide_eq_false hge
      have hie : i.toNat = s.cells.length := by omega
      rw [hie] at hn ho
      subst hn
      exact .inr ⟨12, cap, _, cap, el, rfl, rfl, rfl, ho.1, ho.2⟩
/-! law39.awake -/
theorem block_calls (x:CfgA) (c:Cfg) (y:StA) (s:St) (w:World) (hc:CfgOk w (·<w.heap.size) x c) (hs:StOk w (·<w.heap.size) y s) (hl:c.versions.length≤1000) (hm:s.cells.length≤1000) :
  Calls Tryz.prog 19 #[.agg (cfgC x c),.agg (stC y s)] w fun e w'=>∃ A cp,e=.returned (.slice A (blockL c s s.cells.length).length cp)∧Rd w' (fun b=>w.heap.size≤b∧b<w'.heap.size) A (flat intC (blockL c s s.cells.length))∧Below w.heap.size w w':=by
 have:=rd_callsL ttOk blFok Tryz.func19 rfl (D:=blD) (by kernel_rfl) (vs:=[cfgV CN1 (ck x) c,stV SN1 (sk y) s]) rfl x c y s w hc hs (fun v hv=>by
  simp only[List.mem_cons,List.not_mem_nil,or_false] at hv
  rcases hv with rfl | rfl
  ·exact rpl_cfg_ok x c y s noA noS
  ·exact rpl_st_ok x c y s noA noS) (block_sx (ck x) c (sk y) s hl hm)
 rw[List.map_cons,rpl_cfg,List.map_cons,rpl_st] at this
 refine this.mono ?_
 rintro e w' ⟨v,mem',nx',ρ',rfl,hR,hv,hm',hb⟩
 obtain⟨A,cp,e1,hr⟩:=hm'.slR (enc:=intC) (sz:=1) (fun _=>rfl) (by omega) hR
 refine⟨A,cp,?_,hr,hb⟩
 congr 1
 rcases hR with⟨rfl,-⟩ | ⟨r,cap,t,n,el,rfl,-⟩
 ·exact e1
 ·exact e1
def ctBlock:CT:=fun vs mem nx K=>∃ N x c M y s,vs=[cfgV N x c,stV M y s]∧HasCfg mem N c∧(HasRow mem M.t 12 tsC default s.tenants∧HasRow mem M.c 4 csC default s.cells)∧(c.versions.length≤1000∧s.cells.length≤1000)∧∀ cp,K (slc nx (blockL c s s.cells.length).length cp) ((nx,rowOfL 500000 1 intC 0 (blockL c s s.cells.length))::mem) (nx+1)
theorem blockOk:CSound Tryz.prog 19 ctBlock:=⟨by kernel_rfl,fun {C ρ fr mem nx a w vs K} hc hs hv=>by
 obtain⟨N,x,c,M,y,s,rfl,hk,⟨h1,h2⟩,⟨hl,hm⟩,hK⟩:=hc
 rw[List.map_cons,den_cfg,List.map_cons,den_st]
 refine (block_calls (cfgX ρ N x) c (stX ρ M y) s w (hs.cfgH hk) ⟨hs.hasRd (enc:=tsC) (sz:=12) (fun _=>rfl) (by omega) h1,hs.hasRd (enc:=csC) (sz:=4) (fun _=>rfl) (by omega) h2⟩ hl hm).mono ?_
 rintro e w' ⟨A,cp,rfl,hr,hb⟩
 exact hs.intsL hb hr (hK cp)⟩
def ctConfigH:CT:=fun vs mem nx K=>∃ i cap zs,vs=[slc i (zs:List Int).length cap]∧HasRow mem i 1 intC 0 zs∧zs.length≤400∧∀ x c,MadeCfg c→K (cfgV ⟨nx+5,nx+4,nx+3,nx+2,nx+1,nx,500000⟩ x c) (cfgM ⟨nx+5,nx+4,nx+3,nx+2,nx+1,nx,500000⟩ c++mem) (nx+6)
theorem configHOk:CSound Tryz.prog 29 ctConfigH:=⟨by kernel_rfl,fun {C ρ fr mem nx a w vs K} hc hs hv=>by
 obtain⟨i,cap,zs,rfl,hi,hz,hK⟩:=hc
 have hr:Rd w (·<w.heap.size) (ρ i).A (zs.map (Value.int .i64)):=by
  rw[← flat_ints]
  exact hs.hasRd (enc:=intC) (sz:=1) (fun _=>rfl) (by omega) hi
 have e:([slc i zs.length cap].map (den ρ)).toArray=#[.slice (ρ i).A zs.length cap]:=by simp[den,den2,den1,dA_whole]
 rw[e]
 refine (mkConfig_any (ρ i).A cap zs w hz hr).mono ?_
 rintro e w' ⟨x,c,rfl,hok,hM,hb⟩
 obtain⟨q1,q2,q3,q4⟩:=hs.addCfg hb hok
 exact⟨_,_,_,_,by rw[q2],hK _ c hM,q1,q3,q4⟩⟩
def ctNewH:CT:=fun vs mem nx K=>∃ N x c,vs=[cfgV N x c]∧HasCfg mem N c∧(c.tenants.length≤1000∧c.cells.length≤1000)∧∀ y,K (stV ⟨nx+1,nx,500000⟩ y (stNew c)) (stM ⟨nx+1,nx,500000⟩ (stNew c)++mem) (nx+2)
theorem newHOk:CSound Tryz.prog 42 ctNewH:=⟨by kernel_rfl,fun {C ρ fr mem nx a w vs K} hc hs hv=>by
 obtain⟨N,x,c,rfl,hk,⟨hnt,hnc⟩,hK⟩:=hc
 rw[List.map_cons,den_cfg]
 refine (stNew_calls (cfgX ρ N x) c w (hs.cfgH hk) hnt hnc).mono ?_
 rintro e w' ⟨y,rfl,hst,hb⟩
 obtain⟨q1,q2,q3,q4⟩:=hs.addSt hb hst
 exact⟨_,_,_,_,by rw[q2],hK ⟨y.ct,y.cc⟩,q1,q3,q4⟩⟩
abbrev vers3 (c:Cfg):Cfg:={ c with versions:=[(0,0),(0,1),(1,2)] }
theorem blockL_new (c:Cfg):(blockL (vers3 c) (stNew (vers3 c)) (stNew (vers3 c)).cells.length).length=(stNew (vers3 c)).cells.length:=by
 unfold blockL
 rw[List.length_map,List.filter_eq_self.2,List.length_range]
 intro i hi
 have hi:i<(stNew (vers3 c)).cells.length:=List.mem_range.1 hi
 have h:(stNew (vers3 c)).cells.getD i default=csNew:=by
  unfold stNew at hi ⊢
  rw[List.length_replicate] at hi
  rw[List.getD_eq_getElem?_getD,List.getElem?_replicate,if_pos hi]
  rfl
 rw[h]
 rfl
def axF:FT:=[(29,ctConfigH),(42,ctNewH),(15,ctInl tt [] [] Tryz.f15 (bodyOf Tryz.f15)),(43,ctPathP),(23,ctSame24),(19,ctBlock),(17,ctInl tt [] [] Tryz.f17 (bodyOf Tryz.f17))]
def axD:List (Nat×DQ):=[(9000000,{ k:=0,L:=[15,17] }),(5,{ k:=21,L:=[17,21,26],g:=some (.fix 0 (.fix 1 (.fix 2 (.fix 3 (.fix 4 (.fix 5 (.fix 6 (.fix 7 (.fix 8 (.two 9 (.act 10 (.act 11 (.fix 12 (.fix 13 (.fix 14 (.fix 15 (.fix 18 (.fix 19 (.fix 20 (.act 16 (.fix 17 .fin))))))))))) 10 (.act 9 (.act 11 (.fix 12 (.fix 13 (.fix 14 (.fix 15 (.fix 18 (.fix 19 (.fix 20 (.act 16 (.fix 17 .fin))))))))))))))))))))) })]
theorem axFok:FTokI Tryz.prog axF (inlOf axD):=fti_cons (configHOk.i _) (fti_cons (newHOk.i _) (fti_cons (inl_ok ttOk fti_nil mixed (by kernel_rfl) Tryz.func15 rfl (by kernel_rfl) (by decide)) (fti_cons (pathPOk.i _) (fti_cons (same24Ok.i _) (fti_cons (blockOk.i _) (fti_cons (inl_ok ttOk fti_nil mixed (by kernel_rfl) Tryz.func17 rfl (by kernel_rfl) (by decide)) fti_nil))))))
set_option maxRecDepth 100000 in
set_option maxHeartbeats 8000000 in
theorem awake39_sx:sx tt axF axD (bodyOf Tryz.f11) (argF 0 []) (rdM noC noS noS) 10 (endx tt Tryz.f11.results.toList fun v _ _=>v=.bool true):=by
 refine⟨10,1,[1],rfl,⟨_,1,_,rfl,Nat.le_refl _,fun k hk=>by match k,hk with | 0,_=>rfl⟩,by decide,?_⟩
 intro x c hM
 have hV:=cfgV_of hM.valid
 have hnt:=hV.nt
 have hnc:=hV.nc
 refine⟨⟨16,15,14,18,12,11,500000⟩,{ x with cv:=3 },(vers3 c),rfl,⟨⟨_,_,_,rfl,Nat.le_refl _,fun k hk=>rfl⟩,⟨_,_,_,rfl,Nat.le_refl _,fun k hk=>rfl⟩,⟨_,_,_,rfl,Nat.le_refl _,fun k hk=>rfl⟩,⟨_,3,_,rfl,Nat.le_refl _,fun k hk=>by match k,hk with | 0,_=>rfl | 1,_=>rfl | 2,_=>rfl⟩,⟨_,_,_,rfl,Nat.le_refl _,fun k hk=>rfl⟩,⟨_,_,_,rfl,Nat.le_refl _,fun k hk=>rfl⟩⟩,⟨by show c.tenants.length≤1000;omega,by show c.cells.length≤1000;omega⟩,?_⟩
 intro y
 have hsl:(stNew (vers3 c)).cells.length=c.cells.length:=by simp[stNew,vers3]
 have hbl:=blockL_new c
 refine⟨fun h=>absurd h (by simp[stNew]),fun _=>?_⟩
 refine⟨fun _=>?_,fun h=>absurd h (by simp[stNew])⟩
 refine⟨fun _=>?_,fun q=>absurd q (by decide)⟩
 refine⟨fun _=>?_,fun q=>absurd q (by decide)⟩
 refine⟨?_,?_⟩
 ·refine⟨⟨16,15,14,18,12,11,500000⟩,{ x with cv:=3 },(vers3 c),0,2,rfl,⟨⟨_,_,_,rfl,Nat.le_refl _,fun k hk=>rfl⟩,⟨_,_,_,rfl,Nat.le_refl _,fun k hk=>rfl⟩,⟨_,_,_,rfl,Nat.le_refl _,fun k hk=>rfl⟩,⟨_,3,_,rfl,Nat.le_refl _,fun k hk=>by match k,hk with | 0,_=>rfl | 1,_=>rfl | 2,_=>rfl⟩,⟨_,_,_,rfl,Nat.le_refl _,fun k hk=>rfl⟩,⟨_,_,_,rfl,Nat.le_refl _,fun k hk=>rfl⟩⟩,(by show 3≤1000;decide),?_⟩
  intro cp1
  refine⟨kp_,?_⟩
  refine⟨kp_,?_⟩
  refine⟨27,28,_,_,pathL (vers3 c) 0 2,[1,2],rfl,⟨⟨_,_,_,rfl,Nat.le_refl _,fun k hk=>rfl⟩,⟨_,2,_,rfl,Nat.le_refl _,fun k hk=>by match k,hk with | 0,_=>rfl | 1,_=>rfl⟩⟩,(by show 2≤1000000;decide),?_⟩
  intro b1 hb1
  obtain rfl:b1=true:=hb1.2 (by rfl)
  refine⟨kp_,?_⟩
  refine⟨fun _=>?_,fun q=>absurd q (by simp)⟩
  refine⟨⟨16,15,14,18,12,11,500000⟩,{ x with cv:=3 },(vers3 c),⟨20,19,500000⟩,y,stNew (vers3 c),rfl,⟨⟨_,_,_,rfl,Nat.le_refl _,fun k hk=>rfl⟩,⟨_,_,_,rfl,Nat.le_refl _,fun k hk=>rfl⟩,⟨_,_,_,rfl,Nat.le_refl _,fun k hk=>rfl⟩,⟨_,3,_,rfl,Nat.le_refl _,fun k hk=>by match k,hk with | 0,_=>rfl | 1,_=>rfl | 2,_=>rfl⟩,⟨_,_,_,rfl,Nat.le_refl _,fun k hk=>rfl⟩,⟨_,_,_,rfl,Nat.le_refl _,fun k hk=>rfl⟩⟩,⟨.list rfl,.list rfl⟩,⟨by show 3≤1000;decide,by omega⟩,?_⟩
  intro cp2
  refine⟨kp_,?_⟩
  refine⟨fun _=>?_,fun q=>absurd q ?_⟩
  ·refine⟨fun h=>absurd h (by simp[stNew]),fun _=>?_⟩
   refine⟨fun _=>?_,fun h=>absurd h (by simp[stNew])⟩
   rfl
  ·rw[hbl,hsl]
   simp[vers3]
 ·refine⟨kp_,?_⟩
  refine⟨⟨16,15,14,18,12,11,500000⟩,{ x with cv:=3 },(vers3 c),0,2,rfl,⟨⟨_,_,_,rfl,Nat.le_refl _,fun k hk=>rfl⟩,⟨_,_,_,rfl,Nat.le_refl _,fun k hk=>rfl⟩,⟨_,_,_,rfl,Nat.le_refl _,fun k hk=>rfl⟩,⟨_,3,_,rfl,Nat.le_refl _,fun k hk=>by match k,hk with | 0,_=>rfl | 1,_=>rfl | 2,_=>rfl⟩,⟨_,_,_,rfl,Nat.le_refl _,fun k hk=>rfl⟩,⟨_,_,_,rfl,Nat.le_refl _,fun k hk=>rfl⟩⟩,(by show 3≤1000;decide),?_⟩
  intro cp1
  refine⟨kp_,?_⟩
  refine⟨28,27,_,_,pathL (vers3 c) 0 2,[1,2],rfl,⟨⟨_,_,_,rfl,Nat.le_refl _,fun k hk=>rfl⟩,⟨_,2,_,rfl,Nat.le_refl _,fun k hk=>by match k,hk with | 0,_=>rfl | 1,_=>rfl⟩⟩,(by show 2≤1000000;decide),?_⟩
  intro b1 hb1
  obtain rfl:b1=true:=hb1.2 (by rfl)
  refine⟨kp_,?_⟩
  refine⟨fun _=>?_,fun q=>absurd q (by simp)⟩
  refine⟨⟨16,15,14,18,12,11,500000⟩,{ x with cv:=3 },(vers3 c),⟨20,19,500000⟩,y,stNew (vers3 c),rfl,⟨⟨_,_,_,rfl,Nat.le_refl _,fun k hk=>rfl⟩,⟨_,_,_,rfl,Nat.le_refl _,fun k hk=>rfl⟩,⟨_,_,_,rfl,Nat.le_refl _,fun k hk=>rfl⟩,⟨_,3,_,rfl,Nat.le_refl _,fun k hk=>by match k,hk with | 0,_=>rfl | 1,_=>rfl | 2,_=>rfl⟩,⟨_,_,_,rfl,Nat.le_refl _,fun k hk=>rfl⟩,⟨_,_,_,rfl,Nat.le_refl _,fun k hk=>rfl⟩⟩,⟨.list rfl,.list rfl⟩,⟨by show 3≤1000;decide,by omega⟩,?_⟩
  intro cp2
  refine⟨kp_,?_⟩
  refine⟨fun _=>?_,fun q=>absurd q ?_⟩
  ·refine⟨fun h=>absurd h (by simp[stNew]),fun _=>?_⟩
   refine⟨fun _=>?_,fun h=>absurd h (by simp[stNew])⟩
   rfl
  ·rw[hbl,hsl]
   simp[vers3]
/-! law39.awake: its contract. -/
theorem awake39_any (w:World):Calls Tryz.prog 11 #[] w fun e w'=>e=.returned (.bool true)∧Below w.heap.size w w':=by
 have:=rd_callsL ttOk axFok Tryz.func11 rfl (D:=axD) (by kernel_rfl) (vs:=[]) rfl noX noC noA noS w (noC_ok _ _) (noS_ok w _) (fun v hv=>by cases hv) awake39_sx
 refine this.mono ?_
 rintro e w' ⟨v,mem',nx',ρ',rfl,rfl,hv,hm',hb⟩
 exact⟨rfl,hb⟩
def ctAwake39:CT:=fun vs mem nx K=>vs=[]∧K (.bool true) mem nx
theorem awake39Ok:CSound Tryz.prog 11 ctAwake39:=⟨by kernel_rfl,fun {C ρ fr mem nx a w vs K} hc hs hv=>by
 obtain⟨rfl,hK⟩:=hc
 refine (awake39_any w).mono ?_
 rintro e w' ⟨rfl,hb⟩
 exact⟨.bool true,mem,nx,ρ,rfl,hK,hs.later hb,trivial,ExtS.refl _ _⟩⟩
/-! A quicker check of a region's order: who has come up is kept as one number. -/
def lsm (n L:Nat):Array Bool:=((List.range n).map fun i=>L.testBit i).toArray
theorem lsm_size (n L:Nat):(lsm n L).size=n:=by simp[lsm]
theorem lsm_zero (n:Nat):Array.replicate n false=lsm n 0:=by
 apply Array.ext
 ·simp[lsm]
 ·intro i h1 h2;simp[lsm]
theorem lsm_set (n L i:Nat):(lsm n L).setIfInBounds i true=lsm n (L ||| 2 ^ i):=by
 apply Array.ext
 ·simp[lsm]
 ·intro j h1 h2
  have hj:j<n:=by simpa [lsm] using h2
  rw[Array.getElem_setIfInBounds (by rw[lsm_size];exact hj)]
  by_cases h:i=j
  ·subst h;simp[lsm,Nat.testBit_or,Nat.testBit_two_pow]
  ·simp[lsm,Nat.testBit_or,Nat.testBit_two_pow,h]
noncomputable def fastB (ops:Array Oper) (n:Nat) (σ:List (Nat×Bool)):Nat→Bool:=
 List.rec (motive:=fun _=>Nat→Bool) (fun L=>seqHB ops [] (lsm n L))
  (fun p _ ih L=>match p.2 with
   | false=>Region.free .any ops (lsm n L) p.1&&(Region.ready .any ops (lsm n L)).contains p.1&&ih (L ||| 2 ^ p.1)
   | true=>(match Region.ready .any ops (lsm n L) with
    | [j]=>Nat.beq j p.1&&ih (L ||| 2 ^ p.1)
    | _=>false)) σ
theorem fastB_float (ops:Array Oper) (n:Nat):∀ (σ:List (Nat×Bool)) (L m:Nat),σ.length<m→fastB ops n σ L=true→floatB ops [] m σ (lsm n L) []=true
 | [],L,0,hm,h=>by simp at hm
 | [],L,m+1,hm,h=>h
 | p::r,L,0,hm,h=>by simp at hm
 | (i,b)::r,L,m+1,hm,h=>by
  cases b with
  | false=>
   have h:(Region.free .any ops (lsm n L) i&&(Region.ready .any ops (lsm n L)).contains i&&fastB ops n r (L ||| 2 ^ i))=true:=h
   simp only[Bool.and_eq_true] at h
   rw[floatB]
   simp only[Bool.and_eq_true]
   exact⟨h.1,by rw[lsm_set];exact fastB_float ops n r _ m (by simpa using hm) h.2⟩
  | true=>
   have h:(match Region.ready .any ops (lsm n L) with
    | [j]=>Nat.beq j i&&fastB ops n r (L ||| 2 ^ i)
    | _=>false)=true:=h
   rw[floatB]
   split at h
   ·rename_i j hj
    simp only[Bool.and_eq_true] at h
    have hji:=Nat.eq_of_beq_eq_true h.1
    subst hji
    rw[hj]
    have:=fastB_float ops n r _ m (by simpa using hm) h.2
    rw[lsm_set]
    simp[this]
   ·cases h
def lastF (l:List Oper) (k:Nat):Bool:=Nat.beq k l.length &&
 ((List.range k).all fun i=>match l[i]? with
  | none=>true
  | some o=>(o.after.all fun e=>!Region.binds .any e||decide (e.on<i))&&(match o.guard with | none=>true | some (g,_)=>decide (g<k))) &&
 Region.seqB .any l.toArray (l.drop k).length k (Array.replicate k true++Array.replicate (l.length-k) false)
theorem lastF_ok {l:List Oper} {k:Nat} (h:lastF l k=true):lastB l k=true:=by
 unfold lastF at h
 simp only[Bool.and_eq_true] at h
 obtain⟨⟨h1,h2⟩,h3⟩:=h
 have hk:=Nat.eq_of_beq_eq_true h1
 unfold lastB
 simp only[Bool.and_eq_true]
 refine⟨⟨⟨decide_eq_true (by omega),h2⟩,?_⟩,h3⟩
 rw[List.all_eq_true]
 intro j hj
 rw[show decide (j<k)=true from decide_eq_true (by rw[hk];exact List.mem_range.1 hj)]
 rfl
noncomputable def dregF (l:List Oper) (d:DP):Bool:=
 lastF l d.k&&Region.noSelect (l.take d.k).toArray&&decide (d.pre.length+d.A.length+d.post.length=d.k)&&(match d.A,d.post with | [],[]=>fastB (l.take d.k).toArray d.k d.pre 0 | _,_=>false)
theorem dregF_ok {l:List Oper} {d:DP} (h:dregF l d=true):dregB l d=true:=by
 unfold dregF at h
 simp only[Bool.and_eq_true] at h
 obtain⟨⟨⟨h1,h2⟩,h3⟩,h4⟩:=h
 unfold dregB
 cases hA:d.A with
 | cons a r=>rw[hA] at h4;simp at h4
 | nil=>
  cases hp:d.post with
  | cons a r=>rw[hA,hp] at h4;simp at h4
  | nil=>
   rw[hA,hp] at h4
   rw[hA,hp] at h3
   simp only[Bool.and_eq_true]
   have hl:d.pre.length=d.k:=by simpa using h3
   refine⟨⟨⟨⟨⟨⟨lastF_ok h1,h2⟩,h3⟩,?_⟩,?_⟩,rfl⟩,rfl⟩
   ·rw[lsm_zero]
    exact fastB_float _ _ _ _ _ (by omega) h4
   ·unfold preDst
    rw[List.all_eq_true]
    intro p hp
    split<;>simp
noncomputable def codeF (nt:Nat) (D:List (Nat×DQ)):Code→Bool
 | .region id ops draw=>(ops.toList.all fun o=>match o.dst with | some d=>decide (d<nt) | none=>true)&&(match draw with
  | false=>true
  | true=>(match lk D id with | some d=>(match d.g with | none=>(match d.sl with | []=>dregB ops.toList d.toDP | _::_=>dregF ops.toList d.toDP)&&(match d.A with | []=>true | _::_=>ops.toList.all fun o=>inlOk (inlOf D) o.op) | some σ=>gregB ops.toList d.k σ) | none=>false))
 | .seq a b=>codeF nt D a&&codeF nt D b
 | .cond _ a b=>codeF nt D a&&codeF nt D b
 | .block _ a=>codeF nt D a
 | .loop a=>codeF nt D a
 | .scope a=>codeF nt D a
 | _=>true
theorem codeF_ok {nt:Nat} {D:List (Nat×DQ)} (c:Code) (h:codeF nt D c=true):codeB nt D c=true:=by
 induction c with
 | region id ops draw=>
  unfold codeF at h
  unfold codeB
  simp only[Bool.and_eq_true] at h ⊢
  refine⟨h.1,?_⟩
  have h2:=h.2
  cases draw with
  | false=>rfl
  | true=>
   revert h2
   cases hd:lk D id with
   | none=>intro h2;exact h2
   | some d=>
    dsimp only
    cases hg:d.g with
    | some σ=>intro h2;exact h2
    | none=>
     intro h2
     simp only[Bool.and_eq_true] at h2 ⊢
     refine⟨?_,h2.2⟩
     have h3:=h2.1
     cases hs:d.sl with
     | nil=>rw[hs] at h3;exact h3
     | cons a r=>rw[hs] at h3;exact dregF_ok h3
 | seq a b iha ihb=>
  have h:(codeF nt D a&&codeF nt D b)=true:=h
  show (codeB nt D a&&codeB nt D b)=true
  simp only[Bool.and_eq_true] at h ⊢
  exact⟨iha h.1,ihb h.2⟩
 | cond _ a b iha ihb=>
  have h:(codeF nt D a&&codeF nt D b)=true:=h
  show (codeB nt D a&&codeB nt D b)=true
  simp only[Bool.and_eq_true] at h ⊢
  exact⟨iha h.1,ihb h.2⟩
 | block _ a ih=>exact ih h
 | loop a ih=>exact ih h
 | scope a ih=>exact ih h
 | _=>rfl
/-! schema.Contains,schema.Steps and their references -/
def contB (c:Cfg) (s:St) (v:Int):Bool:=decide (0≤v)&&decide (v<c.versions.length)&&decide ((c.versions.getD v.toNat (0,0)).1≤s.low)&&decide (s.high≤(c.versions.getD v.toNat (0,0)).2)
set_option maxRecDepth 100000 in
set_option maxHeartbeats 4000000 in
theorem cont_sx (x:CfgK) (c:Cfg) (y:StK) (s:St) (v:Int) (hp:c.versions.length≤1000) :
  sx tt [] [] (bodyOf Tryz.f21) (argF 0 [cfgV CN1 x c,stV SN1 y s,.int .i64 v]) (rdM c s noS) 10 (endx tt Tryz.f21.results.toList fun z _ _=>z=.bool (contB c s v)):=by
 repeat' (first | refine⟨fun _=>?_,fun h=>Bool.noConfusion h⟩ | refine⟨fun h=>Bool.noConfusion h,fun _=>?_⟩ | refine⟨fun _=>?_,fun _=>?_⟩ | refine⟨⟨Nat.le_refl _,by grind,by grind⟩,?_⟩ | fail)
 all_goals (refine congrArg Value.bool ?_;unfold contB;grind)
theorem cont_calls (x:CfgA) (c:Cfg) (y:StA) (s:St) (v:Int) (w:World) (hp:c.versions.length≤1000) (hc:CfgOk w (·<w.heap.size) x c) (hs:StOk w (·<w.heap.size) y s):Calls Tryz.prog 21 #[.agg (cfgC x c),.agg (stC y s),.int .i64 v] w fun e w'=>e=.returned (.bool (contB c s v))∧Below w.heap.size w w':=by
 have:=rd_callsL ttOk (ft_nil.i _) Tryz.func21 rfl (D:=[]) (by kernel_rfl) (vs:=[cfgV CN1 (ck x) c,stV SN1 (sk y) s,.int .i64 v]) rfl x c y s w hc hs (fun v hv=>by
  simp only[List.mem_cons,List.not_mem_nil,or_false] at hv
  rcases hv with rfl | rfl | rfl
  ·exact rpl_cfg_ok x c y s noA noS
  ·exact rpl_st_ok x c y s noA noS
  ·trivial) (cont_sx (ck x) c (sk y) s v hp)
 rw[List.map_cons,rpl_cfg,List.map_cons,rpl_st] at this
 refine this.mono ?_
 rintro e w' ⟨v,mem',nx',ρ',rfl,rfl,hv,hm',hb⟩
 exact⟨rfl,hb⟩
def ctCont:CT:=fun vs mem nx K=>∃ N x c M y s v,vs=[cfgV N x c,stV M y s,.int .i64 v]∧HasCfg mem N c∧(HasRow mem M.t 12 tsC default s.tenants∧HasRow mem M.c 4 csC default s.cells)∧(c.versions.length≤1000)∧K (.bool (contB c s v)) mem nx
theorem contOk:CSound Tryz.prog 21 ctCont:=⟨by kernel_rfl,fun {C ρ fr mem nx a w vs K} hc hs hv=>by
 obtain⟨N,x,c,M,y,s,v,rfl,hk,⟨h1,h2⟩,hp,hK⟩:=hc
 rw[List.map_cons,den_cfg,List.map_cons,den_st]
 refine (cont_calls (cfgX ρ N x) c (stX ρ M y) s v w hp (hs.cfgH hk) (hs.stRow h1 h2)).mono ?_
 rintro e w' ⟨rfl,hb⟩
 exact⟨_,mem,nx,ρ,rfl,hK,hs.later hb,trivial,ExtS.refl _ _⟩⟩
set_option maxRecDepth 100000 in
set_option maxHeartbeats 4000000 in
theorem contR_sx (x:CfgK) (c:Cfg) (y:StK) (s:St) (v:Int) (hp:c.versions.length≤1000) :
  sx tt [] [(1,{ k:=29,L:=[10,11,3],pre:=[(0,false),(1,false),(2,false),(3,false),(4,false),(5,false),(6,false),(7,false),(8,false),(9,false),(10,false),(11,false),(12,false),(13,false),(14,false),(15,false),(16,false),(17,false),(18,false),(19,false),(20,false),(21,false),(22,false),(23,false),(24,false),(25,false),(26,false),(27,false),(28,false)] })] (bodyOf Tryz.f22) (argF 0 [cfgV CN1 x c,stV SN1 y s,.int .i64 v]) (rdM c s noS) 10 (endx tt Tryz.f22.results.toList fun z _ _=>z=.bool (contB c s v)):=by
 repeat' (first | refine⟨fun _=>?_,fun h=>Bool.noConfusion h⟩ | refine⟨fun h=>Bool.noConfusion h,fun _=>?_⟩ | refine⟨fun _=>?_,fun _=>?_⟩ | refine⟨⟨Nat.le_refl _,by grind,by grind⟩,?_⟩ | fail)
 all_goals (refine congrArg Value.bool ?_;unfold contB;grind)
theorem contR_calls (x:CfgA) (c:Cfg) (y:StA) (s:St) (v:Int) (w:World) (hp:c.versions.length≤1000) (hc:CfgOk w (·<w.heap.size) x c) (hs:StOk w (·<w.heap.size) y s):Calls Tryz.prog 22 #[.agg (cfgC x c),.agg (stC y s),.int .i64 v] w fun e w'=>e=.returned (.bool (contB c s v))∧Below w.heap.size w w':=by
 have:=rd_callsL ttOk (ft_nil.i _) Tryz.func22 rfl (D:=[(1,{ k:=29,L:=[10,11,3],pre:=[(0,false),(1,false),(2,false),(3,false),(4,false),(5,false),(6,false),(7,false),(8,false),(9,false),(10,false),(11,false),(12,false),(13,false),(14,false),(15,false),(16,false),(17,false),(18,false),(19,false),(20,false),(21,false),(22,false),(23,false),(24,false),(25,false),(26,false),(27,false),(28,false)] })]) (by kernel_rfl) (vs:=[cfgV CN1 (ck x) c,stV SN1 (sk y) s,.int .i64 v]) rfl x c y s w hc hs (fun v hv=>by
  simp only[List.mem_cons,List.not_mem_nil,or_false] at hv
  rcases hv with rfl | rfl | rfl
  ·exact rpl_cfg_ok x c y s noA noS
  ·exact rpl_st_ok x c y s noA noS
  ·trivial) (contR_sx (ck x) c (sk y) s v hp)
 rw[List.map_cons,rpl_cfg,List.map_cons,rpl_st] at this
 refine this.mono ?_
 rintro e w' ⟨v,mem',nx',ρ',rfl,rfl,hv,hm',hb⟩
 exact⟨rfl,hb⟩
def ctContR:CT:=fun vs mem nx K=>∃ N x c M y s v,vs=[cfgV N x c,stV M y s,.int .i64 v]∧HasCfg mem N c∧(HasRow mem M.t 12 tsC default s.tenants∧HasRow mem M.c 4 csC default s.cells)∧(c.versions.length≤1000)∧K (.bool (contB c s v)) mem nx
theorem contROk:CSound Tryz.prog 22 ctContR:=⟨by kernel_rfl,fun {C ρ fr mem nx a w vs K} hc hs hv=>by
 obtain⟨N,x,c,M,y,s,v,rfl,hk,⟨h1,h2⟩,hp,hK⟩:=hc
 rw[List.map_cons,den_cfg,List.map_cons,den_st]
 refine (contR_calls (cfgX ρ N x) c (stX ρ M y) s v w hp (hs.cfgH hk) (hs.stRow h1 h2)).mono ?_
 rintro e w' ⟨rfl,hb⟩
 exact⟨_,mem,nx,ρ,rfl,hK,hs.later hb,trivial,ExtS.refl _ _⟩⟩
set_option maxRecDepth 100000 in
set_option maxHeartbeats 4000000 in
theorem steps_sx (x:CfgK) (c:Cfg) (y:StK) (s:St) (g:Int) (hp:(0≤s.low∧s.low≤s.high∧s.high≤30)∧0≤g∧g≤1000) :
  sx tt [] [] (bodyOf Tryz.f17) (argF 0 [stV SN1 y s,.int .i64 g]) (rdM noC s noS) 10 (endx tt Tryz.f17.results.toList fun z _ _=>z=.int .i64 (stepsP s g)):=by
 refine⟨fun h1=>?_,fun h1=>?_⟩
 ·have h1b:s.low<s.high:=of_decide_eq_true h1
  refine⟨fun h2=>?_,fun h2=>?_⟩
  ·have h2b:g>s.high:=of_decide_eq_true h2
   refine congrArg (Value.int .i64) ?_
   unfold stepsP
   rw[if_pos h1b]
   show IntKind.i64.wrap (1+IntKind.i64.wrap (2 * IntKind.i64.wrap (g-s.high)))=_
   rw[wrapi (n:=g-s.high) (by omega),wrapi (n:=2 * (g-s.high)) (by omega),wrapi (by omega)]
   omega
  ·have h2b:¬ g>s.high:=of_decide_eq_false h2
   refine congrArg (Value.int .i64) ?_
   unfold stepsP
   rw[if_pos h1b]
   show (1:Int)=_
   omega
 ·have h1b:¬ s.low<s.high:=of_decide_eq_false h1
  refine⟨fun h2=>?_,fun h2=>?_⟩
  ·have h2b:g>s.high:=of_decide_eq_true h2
   refine congrArg (Value.int .i64) ?_
   unfold stepsP
   rw[if_neg h1b]
   show IntKind.i64.wrap (0+IntKind.i64.wrap (2 * IntKind.i64.wrap (g-s.high)))=_
   rw[wrapi (n:=g-s.high) (by omega),wrapi (n:=2 * (g-s.high)) (by omega),wrapi (by omega)]
   omega
  ·have h2b:¬ g>s.high:=of_decide_eq_false h2
   refine congrArg (Value.int .i64) ?_
   unfold stepsP
   rw[if_neg h1b]
   show (0:Int)=_
   omega
theorem steps_calls (y:StA) (s:St) (g:Int) (w:World) (hp:(0≤s.low∧s.low≤s.high∧s.high≤30)∧0≤g∧g≤1000) (hs:StOk w (·<w.heap.size) y s):Calls Tryz.prog 17 #[.agg (stC y s),.int .i64 g] w fun e w'=>e=.returned (.int .i64 (stepsP s g))∧Below w.heap.size w w':=by
 have:=rd_callsL ttOk (ft_nil.i _) Tryz.func17 rfl (D:=[]) (by kernel_rfl) (vs:=[stV SN1 (sk y) s,.int .i64 g]) rfl noX noC y s w (noC_ok _ _) hs (fun v hv=>by
  simp only[List.mem_cons,List.not_mem_nil,or_false] at hv
  rcases hv with rfl | rfl
  ·exact rpl_st_ok noX noC y s noA noS
  ·trivial) (steps_sx (ck noX) noC (sk y) s g hp)
 rw[List.map_cons,rpl_st] at this
 refine this.mono ?_
 rintro e w' ⟨v,mem',nx',ρ',rfl,rfl,hv,hm',hb⟩
 exact⟨rfl,hb⟩
def ctSteps:CT:=fun vs mem nx K=>∃ M y s g,vs=[stV M y s,.int .i64 g]∧(HasRow mem M.t 12 tsC default s.tenants∧HasRow mem M.c 4 csC default s.cells)∧((0≤s.low∧s.low≤s.high∧s.high≤30)∧0≤g∧g≤1000)∧K (.int .i64 (stepsP s g)) mem nx
theorem stepsOk:CSound Tryz.prog 17 ctSteps:=⟨by kernel_rfl,fun {C ρ fr mem nx a w vs K} hc hs hv=>by
 obtain⟨M,y,s,g,rfl,⟨h1,h2⟩,hp,hK⟩:=hc
 rw[List.map_cons,den_st]
 refine (steps_calls (stX ρ M y) s g w hp (hs.stRow h1 h2)).mono ?_
 rintro e w' ⟨rfl,hb⟩
 exact⟨_,mem,nx,ρ,rfl,hK,hs.later hb,trivial,ExtS.refl _ _⟩⟩
set_option maxRecDepth 100000 in
set_option maxHeartbeats 4000000 in
theorem stepsR_sx (x:CfgK) (c:Cfg) (y:StK) (s:St) (g:Int) (hp:(0≤s.low∧s.low≤s.high∧s.high≤30)∧0≤g∧g≤1000) :
  sx tt [] [] (bodyOf Tryz.f18) (argF 0 [stV SN1 y s,.int .i64 g]) (rdM noC s noS) 10 (endx tt Tryz.f18.results.toList fun z _ _=>z=.int .i64 (stepsP s g)):=by
 refine⟨fun h1=>?_,fun h1=>?_⟩
 ·have h1b:s.low<s.high:=of_decide_eq_true h1
  refine congrArg (Value.int .i64) ?_
  unfold stepsP
  rw[if_pos h1b]
  have em:(if g-s.high>0 then g-s.high else 0)=max 0 (g-s.high):=by split<;>omega
  show IntKind.i64.wrap (1+IntKind.i64.wrap (2 * if IntKind.i64.wrap (g-s.high)>0 then IntKind.i64.wrap (g-s.high) else 0))=_
  rw[wrapi (n:=g-s.high) (by omega),em,wrapi (n:=2 * max 0 (g-s.high)) (by omega),wrapi (by omega)]
 ·have h1b:¬ s.low<s.high:=of_decide_eq_false h1
  refine congrArg (Value.int .i64) ?_
  unfold stepsP
  rw[if_neg h1b]
  have em:(if g-s.high>0 then g-s.high else 0)=max 0 (g-s.high):=by split<;>omega
  show IntKind.i64.wrap (0+IntKind.i64.wrap (2 * if IntKind.i64.wrap (g-s.high)>0 then IntKind.i64.wrap (g-s.high) else 0))=_
  rw[wrapi (n:=g-s.high) (by omega),em,wrapi (n:=2 * max 0 (g-s.high)) (by omega),wrapi (by omega)]
theorem stepsR_calls (y:StA) (s:St) (g:Int) (w:World) (hp:(0≤s.low∧s.low≤s.high∧s.high≤30)∧0≤g∧g≤1000) (hs:StOk w (·<w.heap.size) y s):Calls Tryz.prog 18 #[.agg (stC y s),.int .i64 g] w fun e w'=>e=.returned (.int .i64 (stepsP s g))∧Below w.heap.size w w':=by
 have:=rd_callsL ttOk (ft_nil.i _) Tryz.func18 rfl (D:=[]) (by kernel_rfl) (vs:=[stV SN1 (sk y) s,.int .i64 g]) rfl noX noC y s w (noC_ok _ _) hs (fun v hv=>by
  simp only[List.mem_cons,List.not_mem_nil,or_false] at hv
  rcases hv with rfl | rfl
  ·exact rpl_st_ok noX noC y s noA noS
  ·trivial) (stepsR_sx (ck noX) noC (sk y) s g hp)
 rw[List.map_cons,rpl_st] at this
 refine this.mono ?_
 rintro e w' ⟨v,mem',nx',ρ',rfl,rfl,hv,hm',hb⟩
 exact⟨rfl,hb⟩
def ctStepsR:CT:=fun vs mem nx K=>∃ M y s g,vs=[stV M y s,.int .i64 g]∧(HasRow mem M.t 12 tsC default s.tenants∧HasRow mem M.c 4 csC default s.cells)∧((0≤s.low∧s.low≤s.high∧s.high≤30)∧0≤g∧g≤1000)∧K (.int .i64 (stepsP s g)) mem nx
theorem stepsROk:CSound Tryz.prog 18 ctStepsR:=⟨by kernel_rfl,fun {C ρ fr mem nx a w vs K} hc hs hv=>by
 obtain⟨M,y,s,g,rfl,⟨h1,h2⟩,hp,hK⟩:=hc
 rw[List.map_cons,den_st]
 refine (stepsR_calls (stX ρ M y) s g w hp (hs.stRow h1 h2)).mono ?_
 rintro e w' ⟨rfl,hb⟩
 exact⟨_,mem,nx,ρ,rfl,hK,hs.later hb,trivial,ExtS.refl _ _⟩⟩
end Go.Proofs.YtnnpgbleacapfaaGreat
