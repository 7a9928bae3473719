import Derived.Test.YtbmlgcjoeeejbaaGreatPx22
namespace Go.Proofs.YtbmlgcjoeeejbaaGreat
open Go.RowKit
set_option linter.unusedSimpArgs false
set_option linter.unusedVariables false
/-! law15.AtlasBytes -/
def ttC:TT:=[(41,tiSl 1 27 24)]++ttB
theorem ttCok:TTok Tryz.prog ttC:=by
 refine tt_mem _ _ ?_
 unfold ttC ttB ttA tt
 repeat (refine tt_cons ⟨by kernel_rfl,by kernel_rfl,plains (by rfl),by kernel_rfl,by kernel_rfl,by kernel_rfl⟩ ?_)
 exact tt_nil
def elB (ls:List (List Int)) (cs:List Nat):Nat→List Value:=fun k=>[.slice (some ⟨0,0,none⟩) (ls.getD k []).length (cs.getD k 0)]
def famB (sb:List SB):Nat→Nat→SB:=fun k o=>match o with | 0=>sb.getD k emptySB | _=>emptySB
theorem famB_out {sb:List SB} {k o:Nat} (h:sb.length≤k):(famB sb k o).n=0:=by
 unfold famB
 cases o with
 | zero=>show (sb.getD k emptySB).n=0;rw[List.getD_eq_getElem?_getD,List.getElem?_eq_none h];rfl
 | succ o=>rfl
def SbB (s:SB) (l:List Int):Prop:=s.sz=1∧l.length≤s.n∧∀ j,j<l.length→s.el j=u8C (l.getD j 0)
theorem read_few (b:List Int):(readA b).1.routes.length≤32:=by
 unfold readA
 split
 ·split
  ·exact Nat.zero_le _
  ·rename_i h
   split
   split
   ·split
    ·exact Nat.zero_le _
    ·show (rtO _ _).length≤32
     rw[rtO_len]
     omega
   ·exact Nat.zero_le _
 ·exact Nat.zero_le _
def byLF:FT:=[(4,ctLight),(5,ctInl ttA [] [] Tryz.f5 (bodyOf Tryz.f5)),(6,ctAwake15),(7,ctMade2),(9,ctMod),(14,ctBytesP),(8,ctBytesR),(10,ctReadP),(11,ctReadR),(13,ctSameB),(12,ctSameA)]
def byLD:List (Nat×DQ):=[(9000000,{ k:=0,L:=[5,7] }),(2000007,{ k:=0,L:=[0,1,2,3,4,5,6,7,8,9,10,11,12,13,14,15,16,17,18,19,20,21,22,23,24,25,26,27,28,29,30],sl:=[9,12,13,14,15,16] }),(13,{ k:=12,L:=[0,1,2,3,4,5,6,7,8,9,10,11,12,13,14,15,16,17,18,19,20,21,22,23,24,25,26,27,28,29,30],pre:=[(0,true),(1,false),(2,false),(4,false),(3,true),(5,true),(6,true),(7,false),(8,false),(9,false),(11,false),(10,true)] })]
theorem byLFok:FTokI Tryz.prog byLF (inlOf byLD):=fti_cons (lightOk.i _) (fti_cons (inl_ok ttAok fti_nil mixed (by kernel_rfl) Tryz.func5 rfl (by kernel_rfl) (by decide)) (fti_cons (awake15Ok.i _) (fti_cons (made2Ok (by decide)) (fti_cons (modOk.i _) (fti_cons (bytesPOk.i _) (fti_cons (bytesROk.i _) (fti_cons (readPOk.i _) (fti_cons (readROk.i _) (fti_cons (sameBOk.i _) (fti_cons (sameAOk.i _) fti_nil))))))))))
set_option maxRecDepth 100000 in
set_option maxHeartbeats 4000000 in
theorem bytLaw_sx (cap0 cap1 capr capb:Nat) (l more b:List Int) (ra:Atl) (key cut:Int) (hm0:l.length≤maxLen) (hm1:more.length≤maxLen) (hin:in64 ra.number∧in64 ra.tick) (hps:0≤ra.parent∧0≤ra.sum) (hrt:∀ e ∈ ra.routes,in64 e.1∧in64 e.2) (hb:byteL b) (hcapb:b.length≤capb) :
  sx ttC byLF byLD (bodyOf Tryz.f3) (argF 0 [slc 0 l.length cap0,slc 1 more.length cap1,.int .i64 key,atlV ra (slc 3 ra.routes.length capr),slc 2 b.length capb,.int .i64 cut]) (bM l more b ra.routes) 4 (endx ttC Tryz.f3.results.toList fun v _ _=>v=.bool true):=by
 refine⟨0,cap0,l,rfl,rfl,hm0,?_⟩
 refine⟨fun h=>?_,fun h0=>?_⟩
 ·repeat (first | refine⟨fun _=>?_,fun h=>Bool.noConfusion h⟩ | refine⟨fun h=>Bool.noConfusion h,fun _=>?_⟩ | fail)
  exact⟨rfl,rfl⟩
 ·refine⟨1,cap1,more,rfl,rfl,hm1,?_⟩
  refine⟨fun h=>?_,fun h1=>?_⟩
  ·repeat (first | refine⟨fun _=>?_,fun h=>Bool.noConfusion h⟩ | refine⟨fun h=>Bool.noConfusion h,fun _=>?_⟩ | fail)
   exact⟨rfl,rfl⟩
  ·refine⟨fun h=>?_,fun h2=>?_⟩
   ·repeat (first | refine⟨fun _=>?_,fun h=>Bool.noConfusion h⟩ | refine⟨fun h=>Bool.noConfusion h,fun _=>?_⟩ | fail)
    exact⟨rfl,rfl⟩
   ·refine⟨fun h=>?_,fun h4=>?_⟩
    ·exact⟨rfl,rfl⟩
    ·have hfew:ra.routes.length≤40:=by have:=of_decide_eq_true (by simpa using h2:decide ((ra.routes.length:Int)≤40)=true);omega
     have hl2:b.length≤300:=by have:=of_decide_eq_false h4;omega
     clear h2 h4
     have hl0:l.length≤200:=by simpa using h0
     have hl1:more.length≤200:=by simpa using h1
     clear h0 h1 hm0 hm1
     refine⟨0,cap0,l,rfl,rfl,by omega,?_⟩
     intro xk c hM
     have hV:=cfgV_of hM.valid
     have hnt:=hV.nt
     have hnc:=hV.nc
     refine⟨_,40,rfl,by decide,?_⟩
     refine⟨kp_,?_⟩
     refine⟨⟨13,12,11,10,9,8,500000⟩,xk,c,1,cap1,more,40 % 40,rfl,⟨kp_,⟨_,_,_,rfl,Nat.le_refl _,fun k hk=>rfl⟩⟩,⟨hV,by omega,by decide⟩,?_⟩
     intro es s y hR hen
     have hJ:=hR.rinv hV (.new hV)
     have hI:=hJ.inv
     have htn:=hI.lt
     have hrl:=routes_len s
     refine⟨kp_,?_⟩
     refine⟨⟨13,12,11,10,9,8,500000⟩,xk,c,⟨16,15,500000⟩,y,s,0,0,zs0,0,3,key,rfl,⟨HasCfg.keeps kp_,.list rfl,.list rfl⟩,.inl rfl,atlIn_st hV hI 3,fun cp1=>?_⟩
     refine⟨kp_,?_⟩
     have hA:AtlBy (makeA s 3 key):=⟨make_in hV hI 3 key,by show (0:Int)≤3∧(3:Int)<_;omega,chain_bd _ _ _,by show (routesOf s).length≤32;omega⟩
     have hBB:=byteL_bytes hA.toAtlIn
     have hbl:=body_len hA.toAtlIn
     have hrl2:(makeA s 3 key).routes.length≤32:=hA.few
     have hbal:=bytesA_len (makeA s 3 key)
     have hpos:=body_pos (makeA s 3 key)
     have hR0:AtlIn ra:=⟨hin.1,hin.2,by omega,hrt⟩
     have hrbl:=body_len hR0
     have hral:=bytesA_len ra
     have hRB:=byteL_bytes hR0
     refine⟨(makeA s 3 key),_,rfl,.inr (.inl ⟨17,_,rfl,.list rfl⟩),⟨hA.toAtlIn,hA.p.1,hA.s.1⟩,fun c2 x2 hc2 he2=>?_⟩
     refine⟨ra,_,rfl,.inr (.inl ⟨3,_,rfl,.list rfl⟩),⟨hR0,hps.1,hps.2⟩,fun c3 x3 hc3 he3=>?_⟩
     refine⟨⟨hc2,fun k hk=>by rw[he2 k hk];rfl⟩,?_⟩
     refine⟨⟨rfl,Nat.le_refl _⟩,fun hin=>absurd hin (by show ¬ 0+(bytesA (makeA s 3 key)).length≤0;omega),fun hgt=>⟨by show (0+(bytesA (makeA s 3 key)).length) * 1≤140737488355328;omega,fun cp3 el3 ⟨hc4,_⟩ g1 g2=>?_⟩⟩
     rw[Nat.zero_add (bytesA (makeA s 3 key)).length]
     have h3:(bytesA (makeA s 3 key)).length≤cp3:=by omega
     have e3:∀ k,k<(bytesA (makeA s 3 key)).length→el3 k=u8C ((bytesA (makeA s 3 key)).getD k 0):=fun k hk=>by have:=g2 k hk;rw[Nat.zero_add] at this;rw[this];exact he2 k hk
     clear hc4 g1 g2 hgt
     refine⟨⟨Nat.le_refl _,fun k hk=>rfl⟩,?_⟩
     refine⟨⟨rfl,h3⟩,fun hin el4 ⟨g1,_⟩ g2=>?_,fun hgt=>⟨by show ((bytesA (makeA s 3 key)).length+b.length) * 1≤140737488355328;omega,fun cp4 el4 ⟨hc4,_⟩ g1 g2=>?_⟩⟩
     ·have e4:∀ k,k<(bytesA (makeA s 3 key)++b).length→el4 k=u8C ((bytesA (makeA s 3 key)++b).getD k 0):=el_app e3 g1 g2
      refine⟨_,_,rfl,by omega,?_⟩
      have hm1:0≤(cut % ((bytesA (makeA s 3 key)).length:Int)):=Int.emod_nonneg _ (by omega)
      have hm2:(cut % ((bytesA (makeA s 3 key)).length:Int))<(bytesA (makeA s 3 key)).length:=Int.emod_lt_of_pos _ (by omega)
      refine⟨⟨hm1,by omega⟩,?_⟩
      refine⟨elB [b,bytesA ra,bytesA (makeA s 3 key)++b,(bytesA (makeA s 3 key)).take (cut % ((bytesA (makeA s 3 key)).length:Int)).toNat] [capb,c3,cp3,c2],famB [⟨1,b.length,fun k=>u8C (b.getD k 0)⟩,⟨1,c3,x3⟩,⟨1,cp3,el4⟩,⟨1,c2,x2⟩],⟨fun k hk=>?_,fun k hk o=>famB_out (by simpa using hk)⟩,?_⟩
      ·match k,hk with
       | 0,_=>exact⟨rfl,fun o=>by cases o<;>rfl⟩
       | 1,_=>exact⟨rfl,fun o=>by cases o<;>rfl⟩
       | 2,_=>exact⟨by show [Value.slice _ (bytesA (makeA s 3 key)++b).length _]=[Value.slice _ ((bytesA (makeA s 3 key)).length+b.length) _];rw[List.length_append];rfl,fun o=>by cases o<;>rfl⟩
       | 3,_=>exact⟨by show [Value.slice _ ((bytesA (makeA s 3 key)).take (cut % ((bytesA (makeA s 3 key)).length:Int)).toNat).length _]=[Value.slice _ (cut % ((bytesA (makeA s 3 key)).length:Int)).toNat _];rw[List.length_take,Nat.min_eq_left (by omega)];rfl,fun o=>by cases o<;>rfl⟩
      have hall:∀ k,k<4→byteL ([b,bytesA ra,bytesA (makeA s 3 key)++b,(bytesA (makeA s 3 key)).take (cut % ((bytesA (makeA s 3 key)).length:Int)).toNat].getD k [])∧([b,bytesA ra,bytesA (makeA s 3 key)++b,(bytesA (makeA s 3 key)).take (cut % ((bytesA (makeA s 3 key)).length:Int)).toNat].getD k []).length≤[capb,c3,cp3,c2].getD k 0∧([b,bytesA ra,bytesA (makeA s 3 key)++b,(bytesA (makeA s 3 key)).take (cut % ((bytesA (makeA s 3 key)).length:Int)).toNat].getD k []).length≤1000000∧SbB (famB [⟨1,b.length,fun k=>u8C (b.getD k 0)⟩,⟨1,c3,x3⟩,⟨1,cp3,el4⟩,⟨1,c2,x2⟩] k 0) ([b,bytesA ra,bytesA (makeA s 3 key)++b,(bytesA (makeA s 3 key)).take (cut % ((bytesA (makeA s 3 key)).length:Int)).toNat].getD k []):=fun k hk=>by
       match k,hk with
       | 0,_=>exact⟨hb,hcapb,by show b.length≤_;omega,rfl,Nat.le_refl _,fun j hj=>rfl⟩
       | 1,_=>exact⟨hRB,hc3,by show (bytesA ra).length≤_;omega,rfl,hc3,he3⟩
       | 2,_=>exact⟨hBB.app hb,by show (bytesA (makeA s 3 key)++b).length≤cp3;rw[List.length_append];exact hin,by show (bytesA (makeA s 3 key)++b).length≤_;rw[List.length_append];omega,rfl,by show (bytesA (makeA s 3 key)++b).length≤cp3;rw[List.length_append];exact hin,e4⟩
       | 3,_=>exact⟨fun x hx=>hBB x (List.mem_of_mem_take hx),by show ((bytesA (makeA s 3 key)).take (cut % ((bytesA (makeA s 3 key)).length:Int)).toNat).length≤c2;rw[List.length_take];omega,by show ((bytesA (makeA s 3 key)).take (cut % ((bytesA (makeA s 3 key)).length:Int)).toNat).length≤_;rw[List.length_take];omega,rfl,by show ((bytesA (makeA s 3 key)).take (cut % ((bytesA (makeA s 3 key)).length:Int)).toNat).length≤c2;rw[List.length_take];omega,fun j hj=>by have hj2:j<((bytesA (makeA s 3 key)).take (cut % ((bytesA (makeA s 3 key)).length:Int)).toNat).length:=hj;rw[List.length_take] at hj2;show x2 j=u8C (((bytesA (makeA s 3 key)).take (cut % ((bytesA (makeA s 3 key)).length:Int)).toNat).getD j 0);rw[take_at (by omega)];exact he2 j (by omega)⟩
      refine⟨Int,fun i=>[(17,.int .i64 i)],fun _=>[],fun i=>0≤i∧i≤4,fun i=>(4-i).toNat,⟨0,by omega,kp_,kp_⟩,?_⟩
      rintro i hi
      refine⟨⟨rfl,rfl⟩,?_⟩
      refine⟨fun hlt=>?_,fun hge=>?_⟩
      ·have hlt2:i<4:=of_decide_eq_true hlt
       obtain⟨q1,q2,q3,q4⟩:=hall i.toNat (by omega)
       generalize hrr:readA ([b,bytesA ra,bytesA (makeA s 3 key)++b,(bytesA (makeA s 3 key)).take (cut % ((bytesA (makeA s 3 key)).length:Int)).toNat].getD i.toNat [])=rr
       have hfew:rr.1.routes.length≤32:=by rw[← hrr];exact read_few _
       refine⟨⟨by show (4:Nat)≤_;omega,hi.1,hlt2⟩,?_⟩
       refine⟨_,[b,bytesA ra,bytesA (makeA s 3 key)++b,(bytesA (makeA s 3 key)).take (cut % ((bytesA (makeA s 3 key)).length:Int)).toNat].getD i.toNat [],rr,rfl,.inr (.inr ⟨24,0,i.toNat,_,rfl,_,_,rfl,q4.1,q4.2.1,q4.2.2⟩),q2,⟨q1,q3⟩,hrr,fun cp5=>?_⟩
       refine⟨⟨by show (4:Nat)≤_;omega,hi.1,hlt2⟩,?_⟩
       refine⟨_,[b,bytesA ra,bytesA (makeA s 3 key)++b,(bytesA (makeA s 3 key)).take (cut % ((bytesA (makeA s 3 key)).length:Int)).toNat].getD i.toNat [],rr,rfl,.inr (.inr ⟨24,0,i.toNat,_,rfl,_,_,rfl,q4.1,q4.2.1,q4.2.2⟩),q2,⟨q1,q3⟩,hrr,fun cp6=>?_⟩
       refine⟨rr.1,_,_,rfl,⟨.inr (.inl ⟨26,_,rfl,.list rfl⟩),.inr (.inl ⟨28,_,rfl,.list rfl⟩)⟩,by omega,?_⟩
       repeat (first | refine⟨fun _=>?_,fun h=>Bool.noConfusion h⟩ | refine⟨fun h=>Bool.noConfusion h,fun _=>?_⟩ | fail)
       refine⟨fun q=>absurd q (by simp),fun _=>?_⟩
       refine⟨fun q=>absurd q (by simp),fun _=>?_⟩
       refine⟨IntKind.i64.wrap (i+1),?_,kp_,kp_⟩
       rw[wrapi (n:=i+1) (by omega)]
       dsimp only
       exact⟨by omega,by omega⟩
      ·refine⟨rfl,?_⟩
       refine⟨kp_,?_⟩
       repeat (first | refine⟨fun _=>?_,fun h=>Bool.noConfusion h⟩ | refine⟨fun h=>Bool.noConfusion h,fun _=>?_⟩ | fail)
       refine⟨ra,_,rfl,.inr (.inl ⟨3,_,rfl,.list rfl⟩),⟨hR0,hps.1,hps.2⟩,fun c7 x7 hc7 he7=>?_⟩
       refine⟨kp_,?_⟩
       refine⟨ra,_,rfl,.inr (.inl ⟨3,_,rfl,.list rfl⟩),⟨hR0,hps.1,hps.2⟩,fun c8 x8 hc8 he8=>?_⟩
       refine⟨kp_,?_⟩
       refine⟨_,_,bytesA ra,bytesA ra,rfl,⟨.inr (.inl ⟨26,_,rfl,⟨_,_,_,rfl,hc7,he7⟩⟩),.inr (.inl ⟨27,_,rfl,⟨_,_,_,rfl,hc8,he8⟩⟩)⟩,⟨hRB,hRB⟩,fun bb hbb=>?_⟩
       obtain rfl:bb=true:=hbb.2 rfl
       refine⟨kp_,?_⟩
       repeat (first | refine⟨fun _=>?_,fun h=>Bool.noConfusion h⟩ | refine⟨fun h=>Bool.noConfusion h,fun _=>?_⟩ | fail)
       refine⟨(makeA s 3 key),_,rfl,.inr (.inl ⟨17,_,rfl,.list rfl⟩),⟨hA.toAtlIn,hA.p.1,hA.s.1⟩,fun c9 x9 hc9 he9=>?_⟩
       refine⟨kp_,?_⟩
       refine⟨_,_,bytesA (makeA s 3 key),bytesA (makeA s 3 key),rfl,⟨.inr (.inl ⟨28,_,rfl,⟨_,_,_,rfl,hc9,he9⟩⟩),.inr (.inl ⟨20,_,rfl,⟨_,_,_,rfl,hc2,he2⟩⟩)⟩,⟨hBB,hBB⟩,fun bb hbb=>?_⟩
       obtain rfl:bb=true:=hbb.2 rfl
       rfl
     ·have e4:∀ k,k<(bytesA (makeA s 3 key)++b).length→el4 k=u8C ((bytesA (makeA s 3 key)++b).getD k 0):=el_app e3 g1 g2
      refine⟨_,_,rfl,by omega,?_⟩
      have hm1:0≤(cut % ((bytesA (makeA s 3 key)).length:Int)):=Int.emod_nonneg _ (by omega)
      have hm2:(cut % ((bytesA (makeA s 3 key)).length:Int))<(bytesA (makeA s 3 key)).length:=Int.emod_lt_of_pos _ (by omega)
      refine⟨⟨hm1,by omega⟩,?_⟩
      refine⟨elB [b,bytesA ra,bytesA (makeA s 3 key)++b,(bytesA (makeA s 3 key)).take (cut % ((bytesA (makeA s 3 key)).length:Int)).toNat] [capb,c3,cp4,c2],famB [⟨1,b.length,fun k=>u8C (b.getD k 0)⟩,⟨1,c3,x3⟩,⟨1,cp4,el4⟩,⟨1,c2,x2⟩],⟨fun k hk=>?_,fun k hk o=>famB_out (by simpa using hk)⟩,?_⟩
      ·match k,hk with
       | 0,_=>exact⟨rfl,fun o=>by cases o<;>rfl⟩
       | 1,_=>exact⟨rfl,fun o=>by cases o<;>rfl⟩
       | 2,_=>exact⟨by show [Value.slice _ (bytesA (makeA s 3 key)++b).length _]=[Value.slice _ ((bytesA (makeA s 3 key)).length+b.length) _];rw[List.length_append];rfl,fun o=>by cases o<;>rfl⟩
       | 3,_=>exact⟨by show [Value.slice _ ((bytesA (makeA s 3 key)).take (cut % ((bytesA (makeA s 3 key)).length:Int)).toNat).length _]=[Value.slice _ (cut % ((bytesA (makeA s 3 key)).length:Int)).toNat _];rw[List.length_take,Nat.min_eq_left (by omega)];rfl,fun o=>by cases o<;>rfl⟩
      have hall:∀ k,k<4→byteL ([b,bytesA ra,bytesA (makeA s 3 key)++b,(bytesA (makeA s 3 key)).take (cut % ((bytesA (makeA s 3 key)).length:Int)).toNat].getD k [])∧([b,bytesA ra,bytesA (makeA s 3 key)++b,(bytesA (makeA s 3 key)).take (cut % ((bytesA (makeA s 3 key)).length:Int)).toNat].getD k []).length≤[capb,c3,cp4,c2].getD k 0∧([b,bytesA ra,bytesA (makeA s 3 key)++b,(bytesA (makeA s 3 key)).take (cut % ((bytesA (makeA s 3 key)).length:Int)).toNat].getD k []).length≤1000000∧SbB (famB [⟨1,b.length,fun k=>u8C (b.getD k 0)⟩,⟨1,c3,x3⟩,⟨1,cp4,el4⟩,⟨1,c2,x2⟩] k 0) ([b,bytesA ra,bytesA (makeA s 3 key)++b,(bytesA (makeA s 3 key)).take (cut % ((bytesA (makeA s 3 key)).length:Int)).toNat].getD k []):=fun k hk=>by
       match k,hk with
       | 0,_=>exact⟨hb,hcapb,by show b.length≤_;omega,rfl,Nat.le_refl _,fun j hj=>rfl⟩
       | 1,_=>exact⟨hRB,hc3,by show (bytesA ra).length≤_;omega,rfl,hc3,he3⟩
       | 2,_=>exact⟨hBB.app hb,by show (bytesA (makeA s 3 key)++b).length≤cp4;rw[List.length_append];exact hc4,by show (bytesA (makeA s 3 key)++b).length≤_;rw[List.length_append];omega,rfl,by show (bytesA (makeA s 3 key)++b).length≤cp4;rw[List.length_append];exact hc4,e4⟩
       | 3,_=>exact⟨fun x hx=>hBB x (List.mem_of_mem_take hx),by show ((bytesA (makeA s 3 key)).take (cut % ((bytesA (makeA s 3 key)).length:Int)).toNat).length≤c2;rw[List.length_take];omega,by show ((bytesA (makeA s 3 key)).take (cut % ((bytesA (makeA s 3 key)).length:Int)).toNat).length≤_;rw[List.length_take];omega,rfl,by show ((bytesA (makeA s 3 key)).take (cut % ((bytesA (makeA s 3 key)).length:Int)).toNat).length≤c2;rw[List.length_take];omega,fun j hj=>by have hj2:j<((bytesA (makeA s 3 key)).take (cut % ((bytesA (makeA s 3 key)).length:Int)).toNat).length:=hj;rw[List.length_take] at hj2;show x2 j=u8C (((bytesA (makeA s 3 key)).take (cut % ((bytesA (makeA s 3 key)).length:Int)).toNat).getD j 0);rw[take_at (by omega)];exact he2 j (by omega)⟩
      refine⟨Int,fun i=>[(17,.int .i64 i)],fun _=>[],fun i=>0≤i∧i≤4,fun i=>(4-i).toNat,⟨0,by omega,kp_,kp_⟩,?_⟩
      rintro i hi
      refine⟨⟨rfl,rfl⟩,?_⟩
      refine⟨fun hlt=>?_,fun hge=>?_⟩
      ·have hlt2:i<4:=of_decide_eq_true hlt
       obtain⟨q1,q2,q3,q4⟩:=hall i.toNat (by omega)
       generalize hrr:readA ([b,bytesA ra,bytesA (makeA s 3 key)++b,(bytesA (makeA s 3 key)).take (cut % ((bytesA (makeA s 3 key)).length:Int)).toNat].getD i.toNat [])=rr
       have hfew:rr.1.routes.length≤32:=by rw[← hrr];exact read_few _
       refine⟨⟨by show (4:Nat)≤_;omega,hi.1,hlt2⟩,?_⟩
       refine⟨_,[b,bytesA ra,bytesA (makeA s 3 key)++b,(bytesA (makeA s 3 key)).take (cut % ((bytesA (makeA s 3 key)).length:Int)).toNat].getD i.toNat [],rr,rfl,.inr (.inr ⟨25,0,i.toNat,_,rfl,_,_,rfl,q4.1,q4.2.1,q4.2.2⟩),q2,⟨q1,q3⟩,hrr,fun cp5=>?_⟩
       refine⟨⟨by show (4:Nat)≤_;omega,hi.1,hlt2⟩,?_⟩
       refine⟨_,[b,bytesA ra,bytesA (makeA s 3 key)++b,(bytesA (makeA s 3 key)).take (cut % ((bytesA (makeA s 3 key)).length:Int)).toNat].getD i.toNat [],rr,rfl,.inr (.inr ⟨25,0,i.toNat,_,rfl,_,_,rfl,q4.1,q4.2.1,q4.2.2⟩),q2,⟨q1,q3⟩,hrr,fun cp6=>?_⟩
       refine⟨rr.1,_,_,rfl,⟨.inr (.inl ⟨27,_,rfl,.list rfl⟩),.inr (.inl ⟨29,_,rfl,.list rfl⟩)⟩,by omega,?_⟩
       repeat (first | refine⟨fun _=>?_,fun h=>Bool.noConfusion h⟩ | refine⟨fun h=>Bool.noConfusion h,fun _=>?_⟩ | fail)
       refine⟨fun q=>absurd q (by simp),fun _=>?_⟩
       refine⟨fun q=>absurd q (by simp),fun _=>?_⟩
       refine⟨IntKind.i64.wrap (i+1),?_,kp_,kp_⟩
       rw[wrapi (n:=i+1) (by omega)]
       dsimp only
       exact⟨by omega,by omega⟩
      ·refine⟨rfl,?_⟩
       refine⟨kp_,?_⟩
       repeat (first | refine⟨fun _=>?_,fun h=>Bool.noConfusion h⟩ | refine⟨fun h=>Bool.noConfusion h,fun _=>?_⟩ | fail)
       refine⟨ra,_,rfl,.inr (.inl ⟨3,_,rfl,.list rfl⟩),⟨hR0,hps.1,hps.2⟩,fun c7 x7 hc7 he7=>?_⟩
       refine⟨kp_,?_⟩
       refine⟨ra,_,rfl,.inr (.inl ⟨3,_,rfl,.list rfl⟩),⟨hR0,hps.1,hps.2⟩,fun c8 x8 hc8 he8=>?_⟩
       refine⟨kp_,?_⟩
       refine⟨_,_,bytesA ra,bytesA ra,rfl,⟨.inr (.inl ⟨27,_,rfl,⟨_,_,_,rfl,hc7,he7⟩⟩),.inr (.inl ⟨28,_,rfl,⟨_,_,_,rfl,hc8,he8⟩⟩)⟩,⟨hRB,hRB⟩,fun bb hbb=>?_⟩
       obtain rfl:bb=true:=hbb.2 rfl
       refine⟨kp_,?_⟩
       repeat (first | refine⟨fun _=>?_,fun h=>Bool.noConfusion h⟩ | refine⟨fun h=>Bool.noConfusion h,fun _=>?_⟩ | fail)
       refine⟨(makeA s 3 key),_,rfl,.inr (.inl ⟨17,_,rfl,.list rfl⟩),⟨hA.toAtlIn,hA.p.1,hA.s.1⟩,fun c9 x9 hc9 he9=>?_⟩
       refine⟨kp_,?_⟩
       refine⟨_,_,bytesA (makeA s 3 key),bytesA (makeA s 3 key),rfl,⟨.inr (.inl ⟨29,_,rfl,⟨_,_,_,rfl,hc9,he9⟩⟩),.inr (.inl ⟨20,_,rfl,⟨_,_,_,rfl,hc2,he2⟩⟩)⟩,⟨hBB,hBB⟩,fun bb hbb=>?_⟩
       obtain rfl:bb=true:=hbb.2 rfl
       rfl
theorem atlasBytes_law (a0:Option Addr) (cap0:Nat) (z0:List Int) (a1:Option Addr) (cap1:Nat) (z1:List Int) (key:Int) (z:(Int×Int×Int×Int)×Option Addr×List (Int×Int)×Nat) (a4:Option Addr) (cap4:Nat) (z4:List Int) (cut:Int) (W:World) (hr0:Rd W (·<W.heap.size) a0 (z0.map (Value.int .i64))) (hm0:z0.length≤maxLen) (hr1:Rd W (·<W.heap.size) a1 (z1.map (Value.int .i64))) (hm1:z1.length≤maxLen) {Q Q2 Q3:Prop} (_hq:Q) (hz:(in64 z.1.1∧in64 z.1.2.1)∧(0≤z.1.2.2.1∧0≤z.1.2.2.2)∧z.2.2.1.length≤maxLen∧(∀ e ∈ z.2.2.1,in64 e.1∧in64 e.2)∧Rd W (·<W.heap.size) z.2.1 (flat pairC z.2.2.1)) (hr4:(∀ x ∈ z4,0≤x∧x<256)∧z4.length≤cap4∧Rd W (·<W.heap.size) a4 (flat u8C z4)) (_hq2:Q2) (_hq3:Q3) :
  Calls Tryz.prog 3 #[.slice a0 z0.length cap0,.slice a1 z1.length cap1,.int .i64 key,.agg #[.int .i64 z.1.1,.int .i64 z.1.2.1,.slice z.2.1 z.2.2.1.length z.2.2.2,.int .u64 z.1.2.2.1,.int .u64 z.1.2.2.2],.slice a4 z4.length cap4,.int .i64 cut] W fun e w'=>e=.returned (.bool true)∧Below W.heap.size W w':=by
 obtain⟨⟨pn,pt,ps,psum⟩,A,raw,cap⟩:=z
 rw[← flat_ints] at hr0 hr1
 obtain⟨hin,hps,-,hrt,hr⟩:=hz
 dsimp only at hin hps hrt hr ⊢
 have h:=by_calls ttCok byLFok Tryz.func3 rfl (D:=byLD) (by kernel_rfl) (vs:=[slc 0 z0.length cap0,slc 1 z1.length cap1,.int .i64 key,atlV ⟨pn,pt,raw,ps,psum⟩ (slc 3 raw.length cap),slc 2 z4.length cap4,.int .i64 cut]) rfl ⟨a0,a1,a4,A⟩ z0 z1 z4 raw W hr0 hr1 hr4.2.2 hr (fun v hv=>by
  simp only[List.mem_cons,List.not_mem_nil,or_false] at hv
  rcases hv with rfl | rfl | rfl | rfl | rfl | rfl
  ·exact⟨show (0:Nat)<4 by decide,rfl⟩
  ·exact⟨show (1:Nat)<4 by decide,rfl⟩
  ·trivial
  ·intro u hu
   simp at hu
   rcases hu with rfl | rfl | rfl | rfl | rfl<;>first | trivial | exact⟨by decide,rfl⟩
  ·exact⟨show (2:Nat)<4 by decide,rfl⟩
  ·trivial) (bytLaw_sx cap0 cap1 cap cap4 z0 z1 z4 ⟨pn,pt,raw,ps,psum⟩ key cut hm0 hm1 hin hps hrt hr4.1 hr4.2.1)
 have e0:den (bpl ⟨a0,a1,a4,A⟩ z0 z1 z4 raw) (atlV ⟨pn,pt,raw,ps,psum⟩ (slc 3 raw.length cap))=.agg #[.int .i64 pn,.int .i64 pt,.slice A raw.length cap,.int .u64 ps,.int .u64 psum]:=by simp[den,den2,den1,dA_whole,dS_whole,bpl]
 rw[List.map_cons,List.map_cons,List.map_cons,List.map_cons,e0] at h
 refine h.mono ?_
 rintro e w' ⟨v,mem',nx',ρ',rfl,rfl,hv,hm',hb⟩
 exact⟨rfl,hb⟩
end Go.Proofs.YtbmlgcjoeeejbaaGreat
