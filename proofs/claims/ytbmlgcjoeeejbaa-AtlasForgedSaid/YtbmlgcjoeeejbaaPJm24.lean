import Derived.Test.YtbmlgcjoeeejbaaPb23
namespace Go.Proofs.Ytbmlgcjoeeejbaa
open Go.RowKit
set_option linter.unusedSimpArgs false
set_option linter.unusedVariables false
/-! A changed byte changes the sum. -/
abbrev bv (h:Int):BitVec 64:=BitVec.ofInt 64 h
theorem bv_wrap (h:Int):bv (IntKind.u64.wrap h)=bv h:=by
 apply BitVec.eq_of_toNat_eq
 rw[wrapu64,BitVec.toNat_ofInt,BitVec.toNat_ofInt]
 congr 1
 omega
theorem bv_xor (a b:Int):bv (xorI a b)=bv a ^^^ bv b:=by
 unfold xorI
 rw[bv_wrap]
 exact (BitVec.ofInt_natCast 64 _).trans (BitVec.ofNat_toNat 64 _|>.trans (BitVec.setWidth_eq _))
theorem bv_shr {z:Int} (h:0≤z∧z<18446744073709551616):bv (z.fdiv (2 ^ min (29:Int).toNat IntKind.u64.bits))=bv z >>> 29:=by
 have e:(2:Int) ^ min (29:Int).toNat IntKind.u64.bits=536870912:=by decide
 rw[e,Int.fdiv_eq_ediv_of_nonneg _ (by omega)]
 apply BitVec.eq_of_toNat_eq
 rw[BitVec.toNat_ushiftRight,BitVec.toNat_ofInt,BitVec.toNat_ofInt,Nat.shiftRight_eq_div_pow]
 have e2:(2:Nat) ^ 29=536870912:=by decide
 have e3:((2 ^ 64:Nat):Int)=18446744073709551616:=by decide
 rw[e2,e3]
 omega
def mixB (x:BitVec 64):BitVec 64:=(x * 1099511628211#64) ^^^ ((x * 1099511628211#64) >>> 29)
theorem bv_mix (h n:Int):bv (mixI h n)=mixB (bv h ^^^ bv n):=by
 unfold mixI mixB
 rw[bv_xor]
 have hb:∀ x:Int,0≤IntKind.u64.wrap x∧IntKind.u64.wrap x<18446744073709551616:=fun x=>by rw[wrapu64];omega
 rw[bv_shr (hb _),bv_wrap]
 have e:bv (xorI h (IntKind.u64.wrap n) * 1099511628211)=(bv h ^^^ bv n) * 1099511628211#64:=by
  show BitVec.ofInt 64 (_ * _)=_
  rw[BitVec.ofInt_mul]
  have:=bv_xor h (IntKind.u64.wrap n)
  rw[bv_wrap] at this
  show bv _ * _=_
  rw[this]
  rfl
 rw[e]
theorem shr_zero {d:BitVec 64} (h:d ^^^ (d >>> 29)=0#64):d=0#64:=by
 have h1:d=d >>> 29:=BitVec.xor_eq_zero_iff.1 h
 have h2:=congrArg BitVec.toNat h1
 rw[BitVec.toNat_ushiftRight,Nat.shiftRight_eq_div_pow] at h2
 apply BitVec.eq_of_toNat_eq
 have e2:(2:Nat) ^ 29=536870912:=by decide
 rw[e2] at h2
 show d.toNat=0
 omega
theorem shr_inj {x y:BitVec 64} (h:x ^^^ (x >>> 29)=y ^^^ (y >>> 29)):x=y:=by
 have h1:(x ^^^ y) ^^^ ((x ^^^ y) >>> 29)=0#64:=by
  rw[BitVec.ushiftRight_xor_distrib]
  have:x ^^^ y ^^^ (x >>> 29 ^^^ y >>> 29)=(x ^^^ x >>> 29) ^^^ (y ^^^ y >>> 29):=by ac_rfl
  rw[this,h,BitVec.xor_self]
 exact BitVec.xor_eq_zero_iff.1 (shr_zero h1)
theorem mixB_inj {x y:BitVec 64} (h:mixB x=mixB y):x=y:=by
 have h1:=shr_inj h
 have h2:x * 1099511628211#64 * 14886173955864302971#64=y * 1099511628211#64 * 14886173955864302971#64:=by rw[h1]
 have h3:1099511628211#64 * 14886173955864302971#64=1#64:=by decide +kernel
 rwa[BitVec.mul_assoc,BitVec.mul_assoc,h3,BitVec.mul_one,BitVec.mul_one] at h2
theorem xor_inj {x y z:BitVec 64} (h:x ^^^ z=y ^^^ z):x=y:=by
 have:x ^^^ z ^^^ z=y ^^^ z ^^^ z:=by rw[h]
 rwa[BitVec.xor_assoc,BitVec.xor_assoc,BitVec.xor_self,BitVec.xor_zero,BitVec.xor_zero] at this
theorem xor_inj2 {x y z:BitVec 64} (h:z ^^^ x=z ^^^ y):x=y:=by
 rw[BitVec.xor_comm z x,BitVec.xor_comm z y] at h
 exact xor_inj h
theorem fold_ne (l:List Int):∀ {h1 h2:Int},bv h1≠bv h2→bv (l.foldl stepI h1)≠bv (l.foldl stepI h2):=by
 induction l with
 | nil=>exact fun h=>h
 | cons x l ih=>
  intro h1 h2 h
  refine ih fun q=>h ?_
  unfold stepI at q
  rw[bv_mix,bv_mix] at q
  exact xor_inj (mixB_inj q)
theorem step_ne {h x y:Int} (hx:0≤x∧x<256) (hy:0≤y∧y<256) (hne:x≠y):bv (stepI h x)≠bv (stepI h y):=fun q=>by
 unfold stepI at q
 rw[bv_mix,bv_mix,wrapi (n:=x) (by omega),wrapi (n:=y) (by omega)] at q
 have h1:=congrArg BitVec.toNat (xor_inj2 (mixB_inj q))
 rw[BitVec.toNat_ofInt,BitVec.toNat_ofInt] at h1
 have e3:((2 ^ 64:Nat):Int)=18446744073709551616:=by decide
 rw[e3] at h1
 omega
theorem chain_ne {key parent:Int} {p r:List Int} {x y:Int} (hx:0≤x∧x<256) (hy:0≤y∧y<256) (hne:x≠y):chainI key parent (p++x::r)≠chainI key parent (p++y::r):=fun q=>by
 have h1:=congrArg bv q
 unfold chainI at h1
 rw[bv_mix,bv_mix] at h1
 have e:(p++x::r).length=(p++y::r).length:=by simp
 rw[e] at h1
 have h2:=xor_inj (mixB_inj h1)
 rw[List.foldl_append,List.foldl_append,List.foldl_cons,List.foldl_cons] at h2
 exact fold_ne r (step_ne hx hy hne) h2
theorem forged_ne {a x:Atl} {k:Nat} {b:Int} {key:Int} (ha:AtlBy a) (hx:AtlBy x) (hs:a.sum=chainI key a.parent (bodyI a)) (hk:k<(bodyI a).length) (hb:0≤b∧b<256) (hne:(bodyI a).getD k 0≠b) (e:bytesA x=(bytesA a).set k b):x.sum≠chainI key x.parent (bodyI x):=fun q=>by
 have hl:(bodyI x).length=(bodyI a).length:=by
  have:=congrArg List.length e
  rw[List.length_set,bytesA_len,bytesA_len] at this
  omega
 have e8:∀ h,(eightI h).length=8:=fun h=>eightGo_len h 8
 unfold bytesA at e
 rw[List.append_assoc,List.append_assoc,List.set_append_left _ _ hk] at e
 obtain⟨e1,e2⟩:=List.append_inj e (by rw[List.length_set,hl])
 obtain⟨e3,e4⟩:=List.append_inj e2 (by rw[e8,e8])
 have hp:x.parent=a.parent:=by
  have h1:=bk_eight hx.p []
  have h2:=bk_eight ha.p []
  rw[List.append_nil] at h1 h2
  rw[← h1,← h2,e3]
 have hsum:x.sum=a.sum:=by
  have h1:=bk_eight hx.s []
  have h2:=bk_eight ha.s []
  rw[List.append_nil] at h1 h2
  rw[← h1,← h2,e4]
 have hB:byteL (bodyI a):=by rw[body_ns];exact byteL_flat (nsA_in ha.toAtlIn)
 have d1:bodyI a=(bodyI a).take k++(bodyI a).getD k 0::(bodyI a).drop (k+1):=by
  rw[List.getD_eq_getElem?_getD,List.getElem?_eq_getElem hk,Option.getD_some,← List.drop_eq_getElem_cons hk,List.take_append_drop]
 have d2:bodyI x=(bodyI a).take k++b::(bodyI a).drop (k+1):=by
  rw[e1,List.set_eq_take_append_cons_drop,if_pos hk]
 rw[hsum,hp,hs,d2] at q
 conv at q=>lhs;rw[d1]
 exact chain_ne (hB.at_ k) hb hne q
theorem vx_load_row {τ:TT} {fr:AF} {mem:AM} {t:TypeId} {x:Operand} {r k ty sz n:Nat} {el:Nat→List Value} {ti:TI} {l:List Value} {v:Value} (he:el k=l) (hx:ev fr x=some (.pointer (some ⟨r,0,some k⟩))) (ht:lk τ t=some ti) (hm:lk mem r=some (.row ty sz n el)) (hv:(match takeN 0 ti.size l with | some l=>ofC ti.agg l | none=>none)=some v):vx τ fr mem (.load t x)=some v:=by
 show (match ev fr x with | some p=>ldx τ mem t p | none=>none)=some v
 rw[hx]
 show ldx τ mem t (.pointer (some ⟨r,0,some k⟩))=some v
 unfold ldx
 simp only[ht,hm,he]
 exact hv
/-! law15.AtlasForged -/
theorem set_u8 {l:List Int} {el:Nat→List Value} {k:Nat} {b:Int} (h:∀ j,j<l.length→el j=u8C (l.getD j 0)) (hk:k<l.length):∀ j,j<(l.set k b).length→setEl el k [.int .u8 b] j=u8C ((l.set k b).getD j 0):=by
 intro j hj
 rw[List.length_set] at hj
 by_cases hjk:j=k
 ·subst hjk
  rw[setEl_same,List.getD_eq_getElem?_getD,List.getElem?_set_self hk]
  rfl
 ·rw[setEl_ne hjk,h j hj,List.getD_eq_getElem?_getD,List.getD_eq_getElem?_getD,List.getElem?_set_ne (Ne.symm hjk)]
theorem forged_eq {a x:Atl} {c:Cfg} {key k b:Int} {b1:Bool} (ha:AtlBy a) (hv:ValidA c a key) (hk:0≤k) (hk2:k<((bytesA a).length:Int)-16) (hb:0≤b∧b<256) (e:bytesA x=(bytesA a).set k.toNat b) (hx:AtlBy x) (h1:b1=true↔ValidA c x key):(b1==((bytesA a).getD k.toNat 0==b))=true:=by
 have hl:=bytesA_len a
 have hkb:k.toNat<(bodyI a).length:=by omega
 have hg:(bytesA a).getD k.toNat 0=(bodyI a).getD k.toNat 0:=by
  unfold bytesA
  rw[List.append_assoc,getD_left hkb]
 by_cases q:(bytesA a).getD k.toNat 0=b
 ·have e2:bytesA x=bytesA a:=by
   rw[e]
   apply List.ext_getElem
   ·simp
   ·intro i h2 h3
    by_cases hi:k.toNat=i
    ·subst hi
     rw[List.getElem_set_self,← q,List.getD_eq_getElem?_getD,List.getElem?_eq_getElem h3]
     rfl
    ·rw[List.getElem_set_ne hi]
  have e3:x=a:=by
   have r1:=read_bytes hx []
   have r2:=read_bytes ha []
   rw[e2,r2] at r1
   exact (congrArg Prod.fst r1).symm
  subst e3
  rw[h1.2 hv,beq_iff_eq.2 q]
  rfl
 ·have hne:=forged_ne ha hx hv.sum hkb hb (by rw[← hg];exact q) e (key:=key)
  have hf:b1=false:=Bool.eq_false_iff.2 fun hb1=>hne (h1.1 hb1).sum
  rw[hf,beq_eq_false_iff_ne.2 q]
  rfl
def fgF:FT:=[(5,ctLight),(6,ctAwake15),(7,ctMade2),(8,ctBytesR),(9,ctMod),(10,ctReadP),(11,ctSameB),(12,ctValidP)]
def fgD:List (Nat×DQ):=[(9000000,{ k:=0,L:=[7] })]
theorem fgFok:FTokI Try.prog fgF (inlOf fgD):=fti_cons (lightOk.i _) (fti_cons (awake15Ok.i _) (fti_cons (made2Ok (by decide)) (fti_cons (bytesROk.i _) (fti_cons (modOk.i _) (fti_cons (readPOk.i _) (fti_cons (sameBOk.i _) (fti_cons (validPOk.i _) fti_nil)))))))
set_option maxRecDepth 100000 in
set_option maxHeartbeats 4000000 in
theorem forged_sx (cap0 cap1:Nat) (l more:List Int) (key at_ by_:Int) (hm0:l.length≤maxLen) (hm1:more.length≤maxLen) (hby:0≤by_∧by_<256) :
  sx ttB fgF fgD (bodyOf Try.f3) (argF 0 [slc 0 l.length cap0,slc 1 more.length cap1,.int .i64 key,.int .i64 at_,.int .u8 by_]) (bM l more [] []) 4 (endx ttB Try.f3.results.toList fun v _ _=>v=.bool true):=by
 refine⟨0,cap0,l,rfl,rfl,hm0,?_⟩
 refine⟨fun h=>?_,fun h0=>?_⟩
 ·repeat (first | refine⟨fun _=>?_,fun h=>Bool.noConfusion h⟩ | refine⟨fun h=>Bool.noConfusion h,fun _=>?_⟩ | fail)
  exact⟨rfl,rfl⟩
 ·refine⟨1,cap1,more,rfl,rfl,hm1,?_⟩
  refine⟨fun h=>?_,fun h1=>?_⟩
  ·exact⟨rfl,rfl⟩
  ·have hl0:l.length≤200:=by simpa using h0
   have hl1:more.length≤200:=by simpa using h1
   clear h0 h1 hm0 hm1
   refine⟨0,cap0,l,rfl,rfl,by omega,?_⟩
   intro xk c hM
   have hV:=cfgV_of hM.valid
   have hnt:=hV.nt
   have hnc:=hV.nc
   refine⟨_,40,rfl,by decide,?_⟩
   refine⟨kp_,?_⟩
   refine⟨⟨11,10,9,8,7,6,500000⟩,xk,c,1,cap1,more,40 % 40,rfl,⟨kp_,⟨_,_,_,rfl,Nat.le_refl _,fun k hk=>rfl⟩⟩,⟨hV,by omega,by decide⟩,?_⟩
   intro es s y hR hen
   have hJ:=hR.rinv hV (.new hV)
   have hI:=hJ.inv
   have htn:=hI.lt
   have hrl:=routes_len s
   refine⟨kp_,?_⟩
   refine⟨⟨11,10,9,8,7,6,500000⟩,xk,c,⟨14,13,500000⟩,y,s,0,0,zs0,0,3,key,rfl,⟨HasCfg.keeps kp_,.list rfl,.list rfl⟩,.inl rfl,atlIn_st hV hI 3,fun cp1=>?_⟩
   refine⟨kp_,?_⟩
   have hA:AtlBy (makeA s 3 key):=⟨make_in hV hI 3 key,by show (0:Int)≤3∧(3:Int)<_;omega,chain_bd _ _ _,by show (routesOf s).length≤32;omega⟩
   have hBB:=byteL_bytes hA.toAtlIn
   have hbl:=body_len hA.toAtlIn
   have hrl2:(makeA s 3 key).routes.length≤32:=hA.few
   have hbal:=bytesA_len (makeA s 3 key)
   have hpos:=body_pos (makeA s 3 key)
   refine⟨(makeA s 3 key),_,rfl,.inr (.inl ⟨15,_,rfl,.list rfl⟩),⟨hA.toAtlIn,hA.p.1,hA.s.1⟩,fun cp2 el2 hc2 he2=>?_⟩
   have hw:IntKind.i64.wrap (((bytesA (makeA s 3 key)).length:Int)-16)=(bytesA (makeA s 3 key)).length-16:=wrapi (by omega)
   refine⟨_,_,rfl,by rw[hw];omega,?_⟩
   rw[hw]
   have hk1:0≤(at_ % ((bytesA (makeA s 3 key)).length-16)):=Int.emod_nonneg _ (by omega)
   have hk2:(at_ % ((bytesA (makeA s 3 key)).length-16))<(bytesA (makeA s 3 key)).length-16:=Int.emod_lt_of_pos _ (by omega)
   generalize hkk:(at_ % ((bytesA (makeA s 3 key)).length-16))=k at hk1 hk2 ⊢
   clear hkk
   refine⟨⟨hc2,hk1,by omega⟩,?_⟩
   conv=>whnf
   rw[vx_load_row (v:=.int .u8 ((bytesA (makeA s 3 key)).getD k.toNat 0)) (he2 k.toNat (by omega)) ?hx ?ht ?hm ?hv]
   case hx=>rfl
   case ht=>rfl
   case hm=>rfl
   case hv=>rfl
   refine⟨⟨hc2,hk1,by omega⟩,?_⟩
   refine⟨[.int .u8 by_],by rw[he2 _ (by omega)];rfl,?_⟩
   have hset:∀ j,j<((bytesA (makeA s 3 key)).set k.toNat by_).length→setEl el2 k.toNat [.int .u8 by_] j=u8C (((bytesA (makeA s 3 key)).set k.toNat by_).getD j 0):=set_u8 he2 (by omega)
   have hlb:((bytesA (makeA s 3 key)).set k.toNat by_).length=(bytesA (makeA s 3 key)).length:=List.length_set
   have hBs:byteL ((bytesA (makeA s 3 key)).set k.toNat by_):=fun x hx=>by rcases List.mem_or_eq_of_mem_set hx with h | rfl;exact hBB x h;exact hby
   generalize hrr:readA ((bytesA (makeA s 3 key)).set k.toNat by_)=rr
   obtain⟨x,n,fe⟩:=rr
   refine⟨_,((bytesA (makeA s 3 key)).set k.toNat by_),(x,n,fe),rfl,.inr (.inl ⟨18,_,congrArg (fun n=>slc 18 n _) hlb.symm,⟨_,_,_,rfl,by rw[hlb];exact hc2,hset⟩⟩),hc2,⟨hBs,by rw[hlb];omega⟩,hrr,fun cp3=>?_⟩
   by_cases hfe:fe=0
   ·subst hfe
    obtain⟨hx,mm,rfl,hm19,hml,hbx⟩:=read_ok hBs hrr
    refine⟨fun q=>absurd q (by simp),fun _=>?_⟩
    rw[hlb] at hml
    by_cases hmn:mm=(bytesA (makeA s 3 key)).length
    ·have hbx2:bytesA x=((bytesA (makeA s 3 key)).set k.toNat by_):=by rw[hbx,List.take_of_length_le (by rw[hlb];omega)]
     refine⟨fun q=>absurd q (by simp[hmn]),fun _=>?_⟩
     repeat (first | refine⟨fun _=>?_,fun h=>Bool.noConfusion h⟩ | refine⟨fun h=>Bool.noConfusion h,fun _=>?_⟩ | fail)
     have hxl:=bytesA_len x
     have hxr:=hx.few
     refine⟨x,_,rfl,.inr (.inl ⟨19,_,rfl,.list rfl⟩),⟨hx.toAtlIn,hx.p.1,hx.s.1⟩,fun cp4 el4 hc4 he4=>?_⟩
     refine⟨_,_,bytesA x,((bytesA (makeA s 3 key)).set k.toNat by_),rfl,⟨.inr (.inl ⟨21,_,rfl,⟨_,_,_,rfl,hc4,he4⟩⟩),.inr (.inl ⟨18,_,congrArg (fun n=>slc 18 n _) hlb.symm,⟨_,_,_,rfl,by rw[hlb];exact hc2,hset⟩⟩)⟩,⟨byteL_bytes hx.toAtlIn,hBs⟩,fun b hb=>?_⟩
     obtain rfl:b=true:=hb.2 hbx2
     repeat (first | refine⟨fun _=>?_,fun h=>Bool.noConfusion h⟩ | refine⟨fun h=>Bool.noConfusion h,fun _=>?_⟩ | fail)
     refine⟨rfl,?_⟩
     repeat (first | refine⟨fun _=>?_,fun h=>Bool.noConfusion h⟩ | refine⟨fun h=>Bool.noConfusion h,fun _=>?_⟩ | fail)
     refine⟨_,_,c,x,_,key,rfl,⟨HasCfg.keeps kp_,.inr (.inl ⟨19,_,rfl,.list rfl⟩)⟩,hM.lens,fun b1 hb1=>?_⟩
     show Value.bool (b1==((bytesA (makeA s 3 key)).getD k.toNat 0==by_))=.bool true
     exact congrArg Value.bool (forged_eq hA (make_valid hM.valid hV hI 3 key) hk1 (by omega) hby hbx2 hx hb1)
    ·refine⟨fun _=>?_,fun q=>absurd q (by simp;omega)⟩
     repeat (first | refine⟨fun _=>?_,fun h=>Bool.noConfusion h⟩ | refine⟨fun h=>Bool.noConfusion h,fun _=>?_⟩ | fail)
     exact⟨rfl,rfl⟩
   ·have hfe2:¬ fe=0:=hfe
    refine⟨fun _=>?_,fun q=>absurd (by simpa using q) hfe2⟩
    repeat (first | refine⟨fun _=>?_,fun h=>Bool.noConfusion h⟩ | refine⟨fun h=>Bool.noConfusion h,fun _=>?_⟩ | fail)
    exact⟨rfl,rfl⟩
theorem atlasForged_law (a0:Option Addr) (cap0:Nat) (z0:List Int) (a1:Option Addr) (cap1:Nat) (z1:List Int) (key at_ by_:Int) (W:World) (hr0:Rd W (·<W.heap.size) a0 (z0.map (Value.int .i64))) (hm0:z0.length≤maxLen) (hr1:Rd W (·<W.heap.size) a1 (z1.map (Value.int .i64))) (hm1:z1.length≤maxLen) {Q Q2:Prop} (_hq:Q) (_hq2:Q2) (hby:(Lit.int .u8 by_).wf=true) :
  Calls Try.prog 3 #[.slice a0 z0.length cap0,.slice a1 z1.length cap1,.int .i64 key,.int .i64 at_,.int .u8 by_] W fun e w'=>e=.returned (.bool true)∧Below W.heap.size W w':=by
 rw[← flat_ints] at hr0 hr1
 have hb:0≤by_∧by_<256:=by
  simp[Lit.wf,IntKind.min,IntKind.max,IntKind.bits,IntKind.signed] at hby
  omega
 have h:=by_calls ttBok fgFok Try.func3 rfl (D:=fgD) (by kernel_rfl) (vs:=[slc 0 z0.length cap0,slc 1 z1.length cap1,.int .i64 key,.int .i64 at_,.int .u8 by_]) rfl ⟨a0,a1,none,none⟩ z0 z1 [] [] W hr0 hr1 (fun h=>absurd rfl h) (fun h=>absurd rfl h) (fun v hv=>by
  simp only[List.mem_cons,List.not_mem_nil,or_false] at hv
  rcases hv with rfl | rfl | rfl | rfl | rfl
  ·exact⟨show (0:Nat)<4 by decide,rfl⟩
  ·exact⟨show (1:Nat)<4 by decide,rfl⟩
  ·trivial
  ·trivial
  ·trivial) (forged_sx cap0 cap1 z0 z1 key at_ by_ hm0 hm1 hb)
 refine h.mono ?_
 rintro e w' ⟨v,mem',nx',ρ',rfl,rfl,hv,hm',hb⟩
 exact⟨rfl,hb⟩
end Go.Proofs.Ytbmlgcjoeeejbaa
