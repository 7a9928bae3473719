import Derived.Test.YtbmlgcjoeeejbaaPb22
namespace Go.Proofs.Ytbmlgcjoeeejbaa
open Go.RowKit
set_option linter.unusedSimpArgs false
set_option linter.unusedVariables false
/-! A start with bytes;made;plain facts for the laws of Bytes and Read. -/
structure BA where
 a0:Option Addr
 a1:Option Addr
 a2:Option Addr
 a3:Option Addr
abbrev bM (l0 l1 lb:List Int) (lr:List (Int×Int)):AM:=[(0,intRow l0),(1,intRow l1),(2,rowOfL 3 1 u8C 0 lb),(3,rowOfL 3 2 pairC (0,0) lr)]
def bpl (a:BA) (l0 l1 lb:List Int) (lr:List (Int×Int)):Nat→Pl:=fun j=>match j with
 | 0=>⟨a.a0,1,l0.length,false,noSub⟩
 | 1=>⟨a.a1,1,l1.length,false,noSub⟩
 | 2=>⟨a.a2,1,lb.length,false,noSub⟩
 | _=>⟨a.a3,2,lr.length,false,noSub⟩
theorem by_calls {τ:TT} (hτ:TTok Try.prog τ) {f:FuncId} {fn:Func} {F:FT} {D:List (Nat×DQ)} (hF:FTokI Try.prog F (inlOf D)) (hf:(Try.prog).funcs[f]?=some fn) (hb:fn.body=some (bodyOf fn)) (hcode:codeB fn.ntmps D (bodyOf fn)=true) {vs:List Value} (hn:Nat.ble vs.length fn.ntmps=true)
  (a:BA) (l0 l1 lb:List Int) (lr:List (Int×Int)) (w:World) (r0:Rd w (·<w.heap.size) a.a0 (flat intC l0)) (r1:Rd w (·<w.heap.size) a.a1 (flat intC l1)) (r2:Rd w (·<w.heap.size) a.a2 (flat u8C lb)) (r3:Rd w (·<w.heap.size) a.a3 (flat pairC lr)) (hv:∀ v ∈ vs,okV (bpl a l0 l1 lb lr) 4 v) {R:Value→AM→Nat→Prop}
  (h:sx τ F D (bodyOf fn) (argF 0 vs) (bM l0 l1 lb lr) 4 (endx τ fn.results.toList R)) :
  Calls Try.prog f (vs.map (den (bpl a l0 l1 lb lr))).toArray w fun e w'=>∃ v mem' nx' ρ',e=.returned (den ρ' v)∧R v mem' nx'∧okV ρ' nx' v∧MemAt { w0:=w,bor:=[],n0:=4,ρ0:=bpl a l0 l1 lb lr,nt:=fn.ntmps } ρ' mem' nx' w'∧Below w.heap.size w w':=by
 have hm:MemAt { w0:=w,bor:=[],n0:=4,ρ0:=bpl a l0 l1 lb lr,nt:=fn.ntmps } (bpl a l0 l1 lb lr) (bM l0 l1 lb lr) 4 w:=MemAt.rows trivial
  ⟨⟨by decide,rfl,row_of_rd (enc:=intC) (sz:=1) (fun _=>rfl) (by omega) intC_plain 0 rfl r0 (fun b hb=>hb)⟩,⟨by decide,rfl,row_of_rd (enc:=intC) (sz:=1) (fun _=>rfl) (by omega) intC_plain 0 rfl r1 (fun b hb=>hb)⟩,⟨by decide,rfl,row_of_rd (enc:=u8C) (sz:=1) (fun _=>rfl) (by omega) u8C_plain 0 rfl r2 (fun b hb=>hb)⟩,⟨by decide,rfl,row_of_rd (enc:=pairC) (sz:=2) (fun _=>rfl) (by omega) pairC_plain (0,0) rfl r3 (fun b hb=>hb)⟩,trivial⟩
 refine (calls_sxI hτ hF mixed hf hb hcode (vs:=vs) hn ⟨rfl,rfl⟩ rfl hm hv h).mono ?_
 rintro e w' ⟨v,mem',nx',ρ',rfl,hR,hv',hm'⟩
 exact⟨v,mem',nx',ρ',rfl,hR,hv',hm',⟨hm'.rest.os,hm'.rest.tape,hm'.rest.output,hm'.rest.size,fun b hlt=>hm'.rest.block b hlt (by simp)⟩⟩
abbrev mdF2:FT:=[(17,ctConfig),(9,ctMod),(19,ctState),(18,ctMakeR)]
abbrev mdD2:List (Nat×DQ):=[(2,{ k:=11,L:=[0,1,2,3,4,5,6,7,8,9,10,11,12,13,14,15,16,17,18,19,20,21,22,23,24,25,26,27,28,29,30],pre:=[(0,false),(1,false),(2,false),(3,false),(4,false),(7,false),(8,false),(9,false),(5,true),(6,true),(10,true)] })]
abbrev ctMade2:CT:=ctInl ttA mdF2 mdD2 Try.f7 (bodyOf Try.f7)
theorem made2Ok {I:List Nat} (hI:I.contains 7=true):CSoundI Try.prog I 7 ctMade2:=inl_ok ttAok (fti_cons (configOk.i _) (fti_cons (modOk.i _) (fti_cons (stateOk.i _) (fti_cons (makeROk.i _) fti_nil)))) mixed (by kernel_rfl) Try.func7 rfl (by kernel_rfl) hI
theorem chain_bd (key parent:Int) (l:List Int):0≤chainI key parent l∧chainI key parent l<18446744073709551616:=by
 unfold chainI mixI
 show 0≤xorI _ _∧xorI _ _<_
 unfold xorI
 rw[wrapu64]
 omega
theorem el_app {l r:List Int} {el el4:Nat→List Value} (h:∀ k,k<l.length→el k=u8C (l.getD k 0)) (g1:∀ k,k<l.length→el4 k=el k) (g2:∀ k,k<r.length→el4 (l.length+k)=u8C (r.getD k 0)):∀ k,k<(l++r).length→el4 k=u8C ((l++r).getD k 0):=by
 intro k hk
 rw[List.length_append] at hk
 by_cases hkl:k<l.length
 ·rw[g1 k hkl,h k hkl,getD_left hkl]
 ·have:=g2 (k-l.length) (by omega)
  rw[show l.length+(k-l.length)=k by omega] at this
  rw[this,List.getD_eq_getElem?_getD (l:=l++r),List.getElem?_append_right (by omega),List.getD_eq_getElem?_getD]
theorem take_at {l:List Int} {m k:Nat} (h:k<m):(l.take m).getD k 0=l.getD k 0:=by
 rw[List.getD_eq_getElem?_getD,List.getD_eq_getElem?_getD,List.getElem?_take_of_lt h]
/-! law15.AtlasBack -/
def abF:FT:=[(5,ctLight),(6,ctAwake15),(7,ctMade2),(13,ctBytesP),(10,ctReadP),(11,ctSameB),(14,ctSameA)]
def abD:List (Nat×DQ):=[(9000000,{ k:=0,L:=[7] }),(7,{ k:=17,L:=[15,16,17,18,19,20,21,22,23,24,25,26,27,28,29,30,31,32,33,34,35,36,37,38,39,40],g:=some (.fix 0 (.fix 1 (.fix 2 (.fix 3 (.fix 4 (.fix 5 (.fix 6 (.fix 7 (.fix 8 (.fix 9 (.fix 10 (.fix 11 (.fix 12 (.fix 14 (.fix 15 (.two 13 (.act 16 .fin) 16 (.act 13 .fin))))))))))))))))) })]
theorem abFok:FTokI Try.prog abF (inlOf abD):=fti_cons (lightOk.i _) (fti_cons (awake15Ok.i _) (fti_cons (made2Ok (by decide)) (fti_cons (bytesPOk.i _) (fti_cons (readPOk.i _) (fti_cons (sameBOk.i _) (fti_cons (sameAOk.i _) fti_nil))))))
set_option maxRecDepth 100000 in
set_option maxHeartbeats 4000000 in
theorem back_sx (cap0 cap1 cap2:Nat) (l more rest:List Int) (key:Int) (hm0:l.length≤maxLen) (hm1:more.length≤maxLen) (hrest:byteL rest) (hcap:rest.length≤cap2) :
  sx ttB abF abD (bodyOf Try.f4) (argF 0 [slc 0 l.length cap0,slc 1 more.length cap1,.int .i64 key,slc 2 rest.length cap2]) (bM l more rest []) 4 (endx ttB Try.f4.results.toList fun v _ _=>v=.bool true):=by
 refine⟨0,cap0,l,rfl,rfl,hm0,?_⟩
 refine⟨fun h=>?_,fun h0=>?_⟩
 ·repeat (first | refine⟨fun _=>?_,fun h=>Bool.noConfusion h⟩ | refine⟨fun h=>Bool.noConfusion h,fun _=>?_⟩ | fail)
  exact⟨rfl,rfl⟩
 ·refine⟨1,cap1,more,rfl,rfl,hm1,?_⟩
  refine⟨fun h=>?_,fun h1=>?_⟩
  ·repeat (first | refine⟨fun _=>?_,fun h=>Bool.noConfusion h⟩ | refine⟨fun h=>Bool.noConfusion h,fun _=>?_⟩ | fail)
   exact⟨rfl,rfl⟩
  ·refine⟨fun h=>?_,fun h2=>?_⟩
   ·exact⟨rfl,rfl⟩
   ·have hl2:rest.length≤300:=by have:=of_decide_eq_false h2;omega
    clear h2
    have hl0:l.length≤200:=by simpa using h0
    have hl1:more.length≤200:=by simpa using h1
    clear h0 h1 hm0 hm1
    refine⟨0,cap0,l,rfl,rfl,by omega,?_⟩
    intro xk c hM
    have hV:=cfgV_of hM.valid
    have hnt:=hV.nt
    have hnc:=hV.nc
    refine⟨_,40,rfl,by decide,?_⟩
    refine⟨kp_,?_⟩
    refine⟨⟨11,10,9,8,7,6,500000⟩,xk,c,1,cap1,more,40 % 40,rfl,⟨kp_,⟨_,_,_,rfl,Nat.le_refl _,fun k hk=>rfl⟩⟩,⟨hV,by omega,by decide⟩,?_⟩
    intro es s y hR hen
    have hJ:=hR.rinv hV (.new hV)
    have hI:=hJ.inv
    have htn:=hI.lt
    have hrl:=routes_len s
    refine⟨kp_,?_⟩
    refine⟨⟨11,10,9,8,7,6,500000⟩,xk,c,⟨14,13,500000⟩,y,s,0,0,zs0,0,9,key,rfl,⟨HasCfg.keeps kp_,.list rfl,.list rfl⟩,.inl rfl,atlIn_st hV hI 9,fun cp1=>?_⟩
    refine⟨kp_,?_⟩
    have hA:AtlBy (makeA s 9 key):=⟨make_in hV hI 9 key,by show (0:Int)≤9∧(9:Int)<_;omega,chain_bd _ _ _,by show (routesOf s).length≤32;omega⟩
    have hBB:=byteL_bytes hA.toAtlIn
    have hbl:=body_len hA.toAtlIn
    have hrl2:(makeA s 9 key).routes.length≤32:=hA.few
    have hbal:=bytesA_len (makeA s 9 key)
    have hpos:=body_pos (makeA s 9 key)
    refine⟨(makeA s 9 key),_,rfl,.inr (.inl ⟨15,_,rfl,.list rfl⟩),⟨hA.toAtlIn,hA.p.1,hA.s.1⟩,fun cp2 el2 hc2 he2=>?_⟩
    refine⟨⟨hc2,fun k hk=>by rw[he2 k hk];rfl⟩,?_⟩
    refine⟨⟨rfl,Nat.le_refl _⟩,fun hin=>absurd hin (by show ¬ 0+(bytesA (makeA s 9 key)).length≤0;omega),fun hgt=>⟨by show (0+(bytesA (makeA s 9 key)).length) * 1≤140737488355328;omega,fun cp3 el3 ⟨hc3,_⟩ g1 g2=>?_⟩⟩
    rw[Nat.zero_add (bytesA (makeA s 9 key)).length]
    have h3:(bytesA (makeA s 9 key)).length≤cp3:=by omega
    have e3:∀ k,k<(bytesA (makeA s 9 key)).length→el3 k=u8C ((bytesA (makeA s 9 key)).getD k 0):=fun k hk=>by have:=g2 k hk;rw[Nat.zero_add] at this;rw[this];exact he2 k hk
    clear hc3 g1 g2 hgt
    refine⟨⟨Nat.le_refl _,fun k hk=>rfl⟩,?_⟩
    refine⟨⟨rfl,h3⟩,fun hin el4 ⟨g1,_⟩ g2=>?_,fun hgt=>⟨by show ((bytesA (makeA s 9 key)).length+rest.length) * 1≤140737488355328;omega,fun cp4 el4 ⟨hc4,_⟩ g1 g2=>?_⟩⟩
    ·have hrd:=read_bytes hA rest
     have e4:∀ k,k<(bytesA (makeA s 9 key)++rest).length→el4 k=u8C ((bytesA (makeA s 9 key)++rest).getD k 0):=el_app e3 g1 g2
     refine⟨_,bytesA (makeA s 9 key)++rest,((makeA s 9 key),((bytesA (makeA s 9 key)).length:Int),0),rfl,.inr (.inl ⟨20,_,by rw[List.length_append];rfl,⟨_,_,_,rfl,by rw[List.length_append];exact hin,e4⟩⟩),hin,⟨hBB.app hrest,by rw[List.length_append];omega⟩,hrd,fun cp5=>?_⟩
     generalize hrr:readA rest=rr
     obtain⟨ya,m,fe⟩:=rr
     refine⟨_,rest,(ya,m,fe),rfl,.inr (.inl ⟨2,_,rfl,.list rfl⟩),hcap,⟨hrest,by omega⟩,hrr,fun cp6=>?_⟩
     by_cases hfe:fe=0
     ·subst hfe
      obtain⟨hy,mm,rfl,hm19,hml,hby⟩:=read_ok hrest hrr
      refine⟨fun _=>?_,fun q=>absurd q (by simp)⟩
      refine⟨fun q=>absurd (show (mm:Int)>(rest.length:Int) from of_decide_eq_true q) (by omega),fun _=>?_⟩
      refine⟨fun q=>absurd (show (mm:Int)<19 from of_decide_eq_true q) (by omega),fun _=>?_⟩
      repeat (first | refine⟨fun _=>?_,fun h=>Bool.noConfusion h⟩ | refine⟨fun h=>Bool.noConfusion h,fun _=>?_⟩ | fail)
      have hylen:=bytesA_len ya
      have hyr:=hy.few
      refine⟨?_,?_⟩
      ·refine⟨ya,_,rfl,.inr (.inl ⟨23,_,rfl,.list rfl⟩),⟨hy.toAtlIn,hy.p.1,hy.s.1⟩,fun cp7 el7 hc7 he7=>?_⟩
       refine⟨kp_,?_⟩
       refine⟨⟨by show (0:Int)≤(mm:Int);omega,by show (mm:Int)≤(cap2:Int);omega⟩,?_⟩
       refine⟨kp_,?_⟩
       refine⟨_,_,bytesA ya,rest.take mm,rfl,⟨.inr (.inl ⟨25,_,rfl,⟨_,_,_,rfl,hc7,he7⟩⟩),.inr (.inl ⟨2,_,by rw[List.length_take,Nat.min_eq_left hml];rfl,⟨_,_,_,rfl,by rw[List.length_take];exact Nat.min_le_right _ _,fun k hk=>by rw[take_at (by rw[List.length_take] at hk;omega)]⟩⟩)⟩,⟨byteL_bytes hy.toAtlIn,fun x hx=>hrest x (List.mem_of_mem_take hx)⟩,fun b hb=>?_⟩
       obtain rfl:b=true:=hb.2 hby
       repeat (first | refine⟨fun _=>?_,fun h=>Bool.noConfusion h⟩ | refine⟨fun h=>Bool.noConfusion h,fun _=>?_⟩ | fail)
       refine⟨rfl,?_⟩
       repeat (first | refine⟨fun _=>?_,fun q=>absurd q (by simp)⟩ | fail)
       refine⟨(makeA s 9 key),_,_,rfl,⟨.inr (.inl ⟨21,_,rfl,.list rfl⟩),.inr (.inl ⟨15,_,rfl,.list rfl⟩)⟩,by omega,?_⟩
       rfl
      ·refine⟨⟨by show (0:Int)≤(mm:Int);omega,by show (mm:Int)≤(cap2:Int);omega⟩,?_⟩
       refine⟨kp_,?_⟩
       refine⟨ya,_,rfl,.inr (.inl ⟨23,_,rfl,.list rfl⟩),⟨hy.toAtlIn,hy.p.1,hy.s.1⟩,fun cp7 el7 hc7 he7=>?_⟩
       refine⟨kp_,?_⟩
       refine⟨_,_,bytesA ya,rest.take mm,rfl,⟨.inr (.inl ⟨25,_,rfl,⟨_,_,_,rfl,hc7,he7⟩⟩),.inr (.inl ⟨2,_,by rw[List.length_take,Nat.min_eq_left hml];rfl,⟨_,_,_,rfl,by rw[List.length_take];exact Nat.min_le_right _ _,fun k hk=>by rw[take_at (by rw[List.length_take] at hk;omega)]⟩⟩)⟩,⟨byteL_bytes hy.toAtlIn,fun x hx=>hrest x (List.mem_of_mem_take hx)⟩,fun b hb=>?_⟩
       obtain rfl:b=true:=hb.2 hby
       repeat (first | refine⟨fun _=>?_,fun h=>Bool.noConfusion h⟩ | refine⟨fun h=>Bool.noConfusion h,fun _=>?_⟩ | fail)
       refine⟨rfl,?_⟩
       repeat (first | refine⟨fun _=>?_,fun q=>absurd q (by simp)⟩ | fail)
       refine⟨(makeA s 9 key),_,_,rfl,⟨.inr (.inl ⟨21,_,rfl,.list rfl⟩),.inr (.inl ⟨15,_,rfl,.list rfl⟩)⟩,by omega,?_⟩
       rfl
     ·have hfe2:¬ fe=0:=hfe
      refine⟨fun q=>absurd (by simpa using q) hfe2,fun _=>?_⟩
      refine⟨?_,?_⟩
      ·repeat (first | refine⟨fun _=>?_,fun h=>Bool.noConfusion h⟩ | refine⟨fun h=>Bool.noConfusion h,fun _=>?_⟩ | fail)
       refine⟨rfl,?_⟩
       repeat (first | refine⟨fun _=>?_,fun q=>absurd q (by simp)⟩ | fail)
       refine⟨(makeA s 9 key),_,_,rfl,⟨.inr (.inl ⟨21,_,rfl,.list rfl⟩),.inr (.inl ⟨15,_,rfl,.list rfl⟩)⟩,by omega,?_⟩
       rfl
      ·repeat (first | refine⟨fun _=>?_,fun h=>Bool.noConfusion h⟩ | refine⟨fun h=>Bool.noConfusion h,fun _=>?_⟩ | fail)
       refine⟨rfl,?_⟩
       repeat (first | refine⟨fun _=>?_,fun q=>absurd q (by simp)⟩ | fail)
       refine⟨(makeA s 9 key),_,_,rfl,⟨.inr (.inl ⟨21,_,rfl,.list rfl⟩),.inr (.inl ⟨15,_,rfl,.list rfl⟩)⟩,by omega,?_⟩
       rfl
    ·have hrd:=read_bytes hA rest
     have e4:∀ k,k<(bytesA (makeA s 9 key)++rest).length→el4 k=u8C ((bytesA (makeA s 9 key)++rest).getD k 0):=el_app e3 g1 g2
     refine⟨_,bytesA (makeA s 9 key)++rest,((makeA s 9 key),((bytesA (makeA s 9 key)).length:Int),0),rfl,.inr (.inl ⟨21,_,by rw[List.length_append];rfl,⟨_,_,_,rfl,by rw[List.length_append];exact hc4,e4⟩⟩),hc4,⟨hBB.app hrest,by rw[List.length_append];omega⟩,hrd,fun cp5=>?_⟩
     generalize hrr:readA rest=rr
     obtain⟨ya,m,fe⟩:=rr
     refine⟨_,rest,(ya,m,fe),rfl,.inr (.inl ⟨2,_,rfl,.list rfl⟩),hcap,⟨hrest,by omega⟩,hrr,fun cp6=>?_⟩
     by_cases hfe:fe=0
     ·subst hfe
      obtain⟨hy,mm,rfl,hm19,hml,hby⟩:=read_ok hrest hrr
      refine⟨fun _=>?_,fun q=>absurd q (by simp)⟩
      refine⟨fun q=>absurd (show (mm:Int)>(rest.length:Int) from of_decide_eq_true q) (by omega),fun _=>?_⟩
      refine⟨fun q=>absurd (show (mm:Int)<19 from of_decide_eq_true q) (by omega),fun _=>?_⟩
      repeat (first | refine⟨fun _=>?_,fun h=>Bool.noConfusion h⟩ | refine⟨fun h=>Bool.noConfusion h,fun _=>?_⟩ | fail)
      have hylen:=bytesA_len ya
      have hyr:=hy.few
      refine⟨?_,?_⟩
      ·refine⟨ya,_,rfl,.inr (.inl ⟨24,_,rfl,.list rfl⟩),⟨hy.toAtlIn,hy.p.1,hy.s.1⟩,fun cp7 el7 hc7 he7=>?_⟩
       refine⟨kp_,?_⟩
       refine⟨⟨by show (0:Int)≤(mm:Int);omega,by show (mm:Int)≤(cap2:Int);omega⟩,?_⟩
       refine⟨kp_,?_⟩
       refine⟨_,_,bytesA ya,rest.take mm,rfl,⟨.inr (.inl ⟨26,_,rfl,⟨_,_,_,rfl,hc7,he7⟩⟩),.inr (.inl ⟨2,_,by rw[List.length_take,Nat.min_eq_left hml];rfl,⟨_,_,_,rfl,by rw[List.length_take];exact Nat.min_le_right _ _,fun k hk=>by rw[take_at (by rw[List.length_take] at hk;omega)]⟩⟩)⟩,⟨byteL_bytes hy.toAtlIn,fun x hx=>hrest x (List.mem_of_mem_take hx)⟩,fun b hb=>?_⟩
       obtain rfl:b=true:=hb.2 hby
       repeat (first | refine⟨fun _=>?_,fun h=>Bool.noConfusion h⟩ | refine⟨fun h=>Bool.noConfusion h,fun _=>?_⟩ | fail)
       refine⟨rfl,?_⟩
       repeat (first | refine⟨fun _=>?_,fun q=>absurd q (by simp)⟩ | fail)
       refine⟨(makeA s 9 key),_,_,rfl,⟨.inr (.inl ⟨22,_,rfl,.list rfl⟩),.inr (.inl ⟨15,_,rfl,.list rfl⟩)⟩,by omega,?_⟩
       rfl
      ·refine⟨⟨by show (0:Int)≤(mm:Int);omega,by show (mm:Int)≤(cap2:Int);omega⟩,?_⟩
       refine⟨kp_,?_⟩
       refine⟨ya,_,rfl,.inr (.inl ⟨24,_,rfl,.list rfl⟩),⟨hy.toAtlIn,hy.p.1,hy.s.1⟩,fun cp7 el7 hc7 he7=>?_⟩
       refine⟨kp_,?_⟩
       refine⟨_,_,bytesA ya,rest.take mm,rfl,⟨.inr (.inl ⟨26,_,rfl,⟨_,_,_,rfl,hc7,he7⟩⟩),.inr (.inl ⟨2,_,by rw[List.length_take,Nat.min_eq_left hml];rfl,⟨_,_,_,rfl,by rw[List.length_take];exact Nat.min_le_right _ _,fun k hk=>by rw[take_at (by rw[List.length_take] at hk;omega)]⟩⟩)⟩,⟨byteL_bytes hy.toAtlIn,fun x hx=>hrest x (List.mem_of_mem_take hx)⟩,fun b hb=>?_⟩
       obtain rfl:b=true:=hb.2 hby
       repeat (first | refine⟨fun _=>?_,fun h=>Bool.noConfusion h⟩ | refine⟨fun h=>Bool.noConfusion h,fun _=>?_⟩ | fail)
       refine⟨rfl,?_⟩
       repeat (first | refine⟨fun _=>?_,fun q=>absurd q (by simp)⟩ | fail)
       refine⟨(makeA s 9 key),_,_,rfl,⟨.inr (.inl ⟨22,_,rfl,.list rfl⟩),.inr (.inl ⟨15,_,rfl,.list rfl⟩)⟩,by omega,?_⟩
       rfl
     ·have hfe2:¬ fe=0:=hfe
      refine⟨fun q=>absurd (by simpa using q) hfe2,fun _=>?_⟩
      refine⟨?_,?_⟩
      ·repeat (first | refine⟨fun _=>?_,fun h=>Bool.noConfusion h⟩ | refine⟨fun h=>Bool.noConfusion h,fun _=>?_⟩ | fail)
       refine⟨rfl,?_⟩
       repeat (first | refine⟨fun _=>?_,fun q=>absurd q (by simp)⟩ | fail)
       refine⟨(makeA s 9 key),_,_,rfl,⟨.inr (.inl ⟨22,_,rfl,.list rfl⟩),.inr (.inl ⟨15,_,rfl,.list rfl⟩)⟩,by omega,?_⟩
       rfl
      ·repeat (first | refine⟨fun _=>?_,fun h=>Bool.noConfusion h⟩ | refine⟨fun h=>Bool.noConfusion h,fun _=>?_⟩ | fail)
       refine⟨rfl,?_⟩
       repeat (first | refine⟨fun _=>?_,fun q=>absurd q (by simp)⟩ | fail)
       refine⟨(makeA s 9 key),_,_,rfl,⟨.inr (.inl ⟨22,_,rfl,.list rfl⟩),.inr (.inl ⟨15,_,rfl,.list rfl⟩)⟩,by omega,?_⟩
       rfl
theorem atlasBack_law (a0:Option Addr) (cap0:Nat) (z0:List Int) (a1:Option Addr) (cap1:Nat) (z1:List Int) (key:Int) (a3:Option Addr) (cap3:Nat) (z3:List Int) (W:World) (hr0:Rd W (·<W.heap.size) a0 (z0.map (Value.int .i64))) (hm0:z0.length≤maxLen) (hr1:Rd W (·<W.heap.size) a1 (z1.map (Value.int .i64))) (hm1:z1.length≤maxLen) {Q Q2:Prop} (_hq:Q) (hr3:(∀ x ∈ z3,0≤x∧x<256)∧z3.length≤cap3∧Rd W (·<W.heap.size) a3 (flat u8C z3)) (_hq2:Q2) :
  Calls Try.prog 4 #[.slice a0 z0.length cap0,.slice a1 z1.length cap1,.int .i64 key,.slice a3 z3.length cap3] W fun e w'=>e=.returned (.bool true)∧Below W.heap.size W w':=by
 rw[← flat_ints] at hr0 hr1
 have h:=by_calls ttBok abFok Try.func4 rfl (D:=abD) (by kernel_rfl) (vs:=[slc 0 z0.length cap0,slc 1 z1.length cap1,.int .i64 key,slc 2 z3.length cap3]) rfl ⟨a0,a1,a3,none⟩ z0 z1 z3 [] W hr0 hr1 hr3.2.2 (fun h=>absurd rfl h) (fun v hv=>by
  simp only[List.mem_cons,List.not_mem_nil,or_false] at hv
  rcases hv with rfl | rfl | rfl | rfl
  ·exact⟨show (0:Nat)<4 by decide,rfl⟩
  ·exact⟨show (1:Nat)<4 by decide,rfl⟩
  ·trivial
  ·exact⟨show (2:Nat)<4 by decide,rfl⟩) (back_sx cap0 cap1 cap3 z0 z1 z3 key hm0 hm1 hr3.1 hr3.2.1)
 refine h.mono ?_
 rintro e w' ⟨v,mem',nx',ρ',rfl,rfl,hv,hm',hb⟩
 exact⟨rfl,hb⟩
end Go.Proofs.Ytbmlgcjoeeejbaa
