import Derived.Test.YtbmlgcjoeeejbaaGreatPx19
import Derived.Laws.BytesArg
import Derived.Laws.IdiomStrings
namespace Go.Proofs.YtbmlgcjoeeejbaaGreat
open Go.RowKit
set_option linter.unusedSimpArgs false
set_option linter.unusedVariables false
/-! wire.TakeInt,ref01.TakeInt -/
def ttB:TT:=[(88,{ size:=1,agg:=false,zero:=[.int .u64 0],ik:=some .u64 }),(74,{ size:=1,agg:=false,zero:=[.pointer none],isP:=true }),(78,tiSl 1 74 8)]++ttA
theorem ttBok:TTok Tryz.prog ttB:=by
 refine tt_mem _ _ ?_
 unfold ttB ttA tt
 repeat (refine tt_cons ⟨by kernel_rfl,by kernel_rfl,plains (by rfl),by kernel_rfl,by kernel_rfl,by kernel_rfl⟩ ?_)
 exact tt_nil
abbrev tkV (r:Int×Int×Int):Value:=.tuple #[.int .i64 r.1,.int .i64 r.2.1,.int .i64 r.2.2]
theorem tkV_ok {ρ:Nat→Pl} {n:Nat} (r:Int×Int×Int):okV ρ n (tkV r):=fun v hv=>by
 simp at hv
 rcases hv with rfl | rfl | rfl<;>trivial
theorem den_tk {ρ:Nat→Pl} (r:Int×Int×Int):den ρ (tkV r)=tkV r:=by simp[den,den2,den1]
theorem tkU_64 {l:List Int} (hl:byteL l) {k:Nat} (h:k≤8∨k=9∧l.getD k 0 % 128≤1):0≤tkU l (k+1)∧tkU l (k+1)<18446744073709551616:=by
 have h1:=tkU_bd hl (k+1)
 rcases h with h | ⟨rfl,h⟩
 ·have e2:(128:Int) ^ (k+1)≤128 ^ 9:=by
   have:(128:Nat) ^ (k+1)≤128 ^ 9:=Nat.pow_le_pow_right (by decide) (by omega)
   exact_mod_cast this
  have e3:(128:Int) ^ 9=9223372036854775808:=by decide
  omega
 ·have h2:=tkU_bd hl 9
  have e3:(128:Int) ^ 9=9223372036854775808:=by decide
  rw[tkU] at h1 ⊢
  rw[e3] at h2 ⊢
  omega
theorem takeC {k:Int} (h0:0≤k) (h1:k<10):0≤IntKind.u64.wrap (IntKind.i64.wrap (7 * k)):=by rw[wrapi (by omega),wu64 (by omega)];omega
theorem takeP_step {l:List Int} (hl:byteL l) {k u:Int} (hk:0≤k) (hk9:k≤9) (hu:u=tkU l k.toNat) (h:k≤8∨l.getD k.toNat 0 % 128≤1) :
  IntKind.u64.wrap ((BitVec.ofInt IntKind.u64.bits u ||| BitVec.ofInt IntKind.u64.bits (IntKind.u64.wrap (IntKind.u64.wrap (IntKind.u8.wrap ((BitVec.ofInt IntKind.u8.bits (l.getD k.toNat 0) &&& BitVec.ofInt IntKind.u8.bits 127).toNat:Int)) * 2 ^ min (IntKind.u64.wrap (IntKind.i64.wrap (7 * k))).toNat IntKind.u64.bits))).toNat:Int)=tkU l (k.toNat+1):=by
 subst hu
 have hx:=hl.at_ k.toNat
 have e1:IntKind.u8.wrap ((BitVec.ofInt IntKind.u8.bits (l.getD k.toNat 0) &&& BitVec.ofInt IntKind.u8.bits 127).toNat:Int)=l.getD k.toNat 0 % 128:=and127 hx
 have e2:(IntKind.u64.wrap (IntKind.i64.wrap (7 * k))).toNat=7 * k.toNat:=by rw[wrapi (by omega),wu64 (by omega)];omega
 rw[e1,e2,wu64 (n:=l.getD k.toNat 0 % 128) (by omega)]
 exact grp_step hl rfl (by rcases h with h | h;exact .inl (by omega);by_cases h8:k≤8;exact .inl (by omega);exact .inr ⟨by omega,h⟩)
theorem and1 {v:Int} (h:0≤v∧v<18446744073709551616):IntKind.u64.wrap ((BitVec.ofInt IntKind.u64.bits v &&& BitVec.ofInt IntKind.u64.bits 1).toNat:Int)=v % 2:=by
 show IntKind.u64.wrap ((BitVec.ofInt 64 v &&& BitVec.ofInt 64 1).toNat:Int)=v % 2
 have hb:v=((v.toNat:Nat):Int):=by omega
 have h3:(BitVec.ofInt 64 1)=BitVec.ofNat 64 1:=by decide
 rw[hb,BitVec.ofInt_natCast,h3,BitVec.toNat_and,BitVec.toNat_ofNat,BitVec.toNat_ofNat,Nat.mod_eq_of_lt (a:=v.toNat) (by omega),Nat.mod_eq_of_lt (a:=1) (by omega),Nat.and_one_is_mod,wu64 (by omega)]
 omega
theorem half {v:Int} (h:0≤v):v.fdiv (2 ^ min (1:Int).toNat IntKind.u64.bits)=v / 2:=by
 have:(2:Int) ^ min (1:Int).toNat IntKind.u64.bits=2:=by decide
 rw[this,Int.fdiv_eq_ediv_of_nonneg _ (by omega)]
theorem numP_odd {v:Int} (h:0≤v∧v<18446744073709551616) (ho:v % 2=1):IntKind.i64.wrap (IntKind.u64.wrap ((BitVec.ofInt IntKind.u64.bits (if IntKind.u64.signed then -1 else IntKind.u64.max) ^^^ BitVec.ofInt IntKind.u64.bits (v.fdiv (2 ^ min (1:Int).toNat IntKind.u64.bits))).toNat:Int))=numI v:=by
 rw[half h.1]
 have e:IntKind.u64.wrap ((BitVec.ofInt IntKind.u64.bits (if IntKind.u64.signed then -1 else IntKind.u64.max) ^^^ BitVec.ofInt IntKind.u64.bits (v / 2)).toNat:Int)=18446744073709551615-v / 2:=not64 (by omega)
 rw[e,numI,if_neg (by omega)]
 simp[IntKind.wrap,IntKind.bits,IntKind.signed]
 omega
theorem numP_even {v:Int} (h:0≤v∧v<18446744073709551616) (he:v % 2=0):IntKind.i64.wrap (v.fdiv (2 ^ min (1:Int).toNat IntKind.u64.bits))=numI v:=by
 rw[half h.1,num_even h he]
def tkPF:FT:=[(42,ctInl ttB [] [] Tryz.f42 (bodyOf Tryz.f42))]
def tkPD:List (Nat×DQ):=[(9000000,{ k:=0,L:=[42] }),(2000003,{ k:=0,L:=[0],sl:=[0] }),(1000009,{ k:=1,L:=[0],sl:=[0,6,7,8] })]
theorem tkPFok:FTokI Tryz.prog tkPF (inlOf tkPD):=fti_cons (inl_ok ttBok fti_nil mixed (by kernel_rfl) Tryz.func42 rfl (by kernel_rfl) (by decide)) fti_nil
set_option maxRecDepth 100000 in
set_option maxHeartbeats 4000000 in
theorem takeP_sx (cap:Nat) (l:List Int) (hl:byteL l) :
  sx ttB tkPF tkPD (bodyOf Tryz.f24) (argF 0 [slc 0 l.length cap]) [(0,rowOfL 3 1 u8C 0 l)] 1 (endx ttB Tryz.f24.results.toList fun v _ _=>v=tkV (takeI l)):=by
 refine⟨Int×Int,fun q=>match q with | (k,u)=>[(8,.int .i64 k),(5,.int .u64 u)],fun _=>[],fun q=>match q with | (k,u)=>(0≤k∧k≤10∧k≤l.length)∧(k≤9→u=tkU l k.toNat)∧tkGo l (10-k.toNat) k.toNat=takeI l,fun q=>match q with | (k,u)=>(10-k).toNat,⟨(0,0),⟨⟨by omega,by omega,by omega⟩,fun _=>rfl,rfl⟩,kp_,kp_⟩,?_⟩
 rintro⟨k,u⟩ ⟨hk,hu,hg⟩
 refine⟨⟨rfl,rfl⟩,?_⟩
 refine⟨fun hlt=>?_,fun hge=>?_⟩
 ·have hlt2:k<10:=of_decide_eq_true hlt
  have hf:10-k.toNat=(9-k.toNat)+1:=by omega
  rw[hf,tkGo] at hg
  have hx:=hl.at_ k.toNat
  refine⟨fun he=>?_,fun hne=>?_⟩
  ·have he2:k=(l.length:Int):=by simpa using he
   rw[if_pos (by omega)] at hg
   repeat (first | refine⟨fun _=>?_,fun h=>Bool.noConfusion h⟩ | refine⟨fun h=>Bool.noConfusion h,fun _=>?_⟩ | fail)
   exact congrArg tkV hg
  ·have hne2:¬ k=(l.length:Int):=by simpa using hne
   rw[if_neg (by omega)] at hg
   refine⟨⟨Nat.le_refl _,hk.1,by omega⟩,?_⟩
   refine⟨Int,fun v=>[(5,.int .u64 v)],fun _=>[],fun v=>(k≤8∨(l.getD k.toNat 0) % 128≤1)→v=tkU l (k.toNat+1),?_,?_⟩
   ·refine⟨takeC hk.1 hlt2,?_⟩
    refine⟨_,fun h=>takeP_step hl hk.1 (by omega) (hu (by omega)) h,kp_,kp_⟩
   ·rintro v hv
    refine⟨⟨by decide,rfl,rfl⟩,?_⟩
    refine⟨fun hb=>?_,fun hb=>?_⟩
    ·have hb2:(l.getD k.toNat 0)≥128:=of_decide_eq_true hb
     rw[if_neg (by omega)] at hg
     refine⟨(IntKind.i64.wrap (k+1),v),?_,kp_,kp_⟩
     rw[wrapi (n:=k+1) (by omega)]
     dsimp only
     rw[show (k+1).toNat=k.toNat+1 by omega]
     refine⟨⟨⟨by omega,by omega,by omega⟩,fun h9=>hv (.inl (by omega)),?_⟩,by omega⟩
     rw[show 10-(k.toNat+1)=9-k.toNat by omega]
     exact hg
    ·have hb2:¬ (l.getD k.toNat 0)≥128:=of_decide_eq_false hb
     refine⟨fun q1=>?_,fun q1=>?_⟩
     ·have q1b:k>0:=of_decide_eq_true q1
      refine⟨fun q2=>?_,fun q2=>?_⟩
      ·have q2b:(l.getD k.toNat 0)=0:=by simpa using q2
       rw[if_pos (by omega)] at hg
       rw[if_pos (by omega)] at hg
       repeat (first | refine⟨fun _=>?_,fun h=>Bool.noConfusion h⟩ | refine⟨fun h=>Bool.noConfusion h,fun _=>?_⟩ | fail)
       exact congrArg tkV hg
      ·have q2b:¬ (l.getD k.toNat 0)=0:=by simpa using q2
       repeat (first | refine⟨fun _=>?_,fun h=>Bool.noConfusion h⟩ | refine⟨fun h=>Bool.noConfusion h,fun _=>?_⟩ | fail)
       refine⟨fun q3=>?_,fun q3=>?_⟩
       ·have q3b:k=9:=by simpa using q3
        refine⟨fun q4=>?_,fun q4=>?_⟩
        ·have q4b:(l.getD k.toNat 0)>1:=of_decide_eq_true q4
         rw[if_pos (by omega)] at hg
         rw[if_pos (by omega)] at hg
         repeat (first | refine⟨fun _=>?_,fun h=>Bool.noConfusion h⟩ | refine⟨fun h=>Bool.noConfusion h,fun _=>?_⟩ | fail)
         exact congrArg tkV hg
        ·have q4b:¬ (l.getD k.toNat 0)>1:=of_decide_eq_false q4
         rw[if_pos (by omega),if_neg (by omega)] at hg
         repeat (first | refine⟨fun _=>?_,fun h=>Bool.noConfusion h⟩ | refine⟨fun h=>Bool.noConfusion h,fun _=>?_⟩ | fail)
         have hv2:=hv (by omega)
         have hvb:0≤v∧v<18446744073709551616:=by rw[hv2];exact tkU_64 hl (by omega)
         refine⟨fun q=>?_,fun q=>?_⟩
         ·have q2:v % 2=1:=by have h3:(v % 2==1)=true:=(by rw[← and1 hvb];exact q);simpa using h3
          refine⟨by decide,?_⟩
          show tkV (_,_,_)=tkV (takeI l)
          rw[← hg]
          refine congrArg tkV (Prod.ext ?_ (Prod.ext ?_ rfl))
          ·exact (numP_odd hvb q2).trans (congrArg numI hv2)
          ·show IntKind.i64.wrap (k+1)=((k.toNat:Nat):Int)+1
           rw[wrapi (by omega)]
           omega
         ·have q2:¬ v % 2=1:=by have h3:(v % 2==1)=false:=(by rw[← and1 hvb];exact q);simpa using h3
          refine⟨by decide,?_⟩
          show tkV (_,_,_)=tkV (takeI l)
          rw[← hg]
          refine congrArg tkV (Prod.ext ?_ (Prod.ext ?_ rfl))
          ·exact (numP_even hvb (by omega)).trans (congrArg numI hv2)
          ·show IntKind.i64.wrap (k+1)=((k.toNat:Nat):Int)+1
           rw[wrapi (by omega)]
           omega
       ·have q3b:¬ k=9:=by simpa using q3
        rw[if_pos (by omega),if_neg (by omega)] at hg
        repeat (first | refine⟨fun _=>?_,fun h=>Bool.noConfusion h⟩ | refine⟨fun h=>Bool.noConfusion h,fun _=>?_⟩ | fail)
        have hv2:=hv (by omega)
        have hvb:0≤v∧v<18446744073709551616:=by rw[hv2];exact tkU_64 hl (by omega)
        refine⟨fun q=>?_,fun q=>?_⟩
        ·have q2:v % 2=1:=by have h3:(v % 2==1)=true:=(by rw[← and1 hvb];exact q);simpa using h3
         refine⟨by decide,?_⟩
         show tkV (_,_,_)=tkV (takeI l)
         rw[← hg]
         refine congrArg tkV (Prod.ext ?_ (Prod.ext ?_ rfl))
         ·exact (numP_odd hvb q2).trans (congrArg numI hv2)
         ·show IntKind.i64.wrap (k+1)=((k.toNat:Nat):Int)+1
          rw[wrapi (by omega)]
          omega
        ·have q2:¬ v % 2=1:=by have h3:(v % 2==1)=false:=(by rw[← and1 hvb];exact q);simpa using h3
         refine⟨by decide,?_⟩
         show tkV (_,_,_)=tkV (takeI l)
         rw[← hg]
         refine congrArg tkV (Prod.ext ?_ (Prod.ext ?_ rfl))
         ·exact (numP_even hvb (by omega)).trans (congrArg numI hv2)
         ·show IntKind.i64.wrap (k+1)=((k.toNat:Nat):Int)+1
          rw[wrapi (by omega)]
          omega
     ·have q1b:¬ k>0:=of_decide_eq_false q1
      repeat (first | refine⟨fun _=>?_,fun h=>Bool.noConfusion h⟩ | refine⟨fun h=>Bool.noConfusion h,fun _=>?_⟩ | fail)
      refine⟨fun q3=>?_,fun q3=>?_⟩
      ·have q3b:k=9:=by simpa using q3
       refine⟨fun q4=>?_,fun q4=>?_⟩
       ·have q4b:(l.getD k.toNat 0)>1:=of_decide_eq_true q4
        rw[if_pos (by omega)] at hg
        rw[if_pos (by omega)] at hg
        repeat (first | refine⟨fun _=>?_,fun h=>Bool.noConfusion h⟩ | refine⟨fun h=>Bool.noConfusion h,fun _=>?_⟩ | fail)
        exact congrArg tkV hg
       ·have q4b:¬ (l.getD k.toNat 0)>1:=of_decide_eq_false q4
        rw[if_pos (by omega),if_neg (by omega)] at hg
        repeat (first | refine⟨fun _=>?_,fun h=>Bool.noConfusion h⟩ | refine⟨fun h=>Bool.noConfusion h,fun _=>?_⟩ | fail)
        have hv2:=hv (by omega)
        have hvb:0≤v∧v<18446744073709551616:=by rw[hv2];exact tkU_64 hl (by omega)
        refine⟨fun q=>?_,fun q=>?_⟩
        ·have q2:v % 2=1:=by have h3:(v % 2==1)=true:=(by rw[← and1 hvb];exact q);simpa using h3
         refine⟨by decide,?_⟩
         show tkV (_,_,_)=tkV (takeI l)
         rw[← hg]
         refine congrArg tkV (Prod.ext ?_ (Prod.ext ?_ rfl))
         ·exact (numP_odd hvb q2).trans (congrArg numI hv2)
         ·show IntKind.i64.wrap (k+1)=((k.toNat:Nat):Int)+1
          rw[wrapi (by omega)]
          omega
        ·have q2:¬ v % 2=1:=by have h3:(v % 2==1)=false:=(by rw[← and1 hvb];exact q);simpa using h3
         refine⟨by decide,?_⟩
         show tkV (_,_,_)=tkV (takeI l)
         rw[← hg]
         refine congrArg tkV (Prod.ext ?_ (Prod.ext ?_ rfl))
         ·exact (numP_even hvb (by omega)).trans (congrArg numI hv2)
         ·show IntKind.i64.wrap (k+1)=((k.toNat:Nat):Int)+1
          rw[wrapi (by omega)]
          omega
      ·have q3b:¬ k=9:=by simpa using q3
       rw[if_pos (by omega),if_neg (by omega)] at hg
       repeat (first | refine⟨fun _=>?_,fun h=>Bool.noConfusion h⟩ | refine⟨fun h=>Bool.noConfusion h,fun _=>?_⟩ | fail)
       have hv2:=hv (by omega)
       have hvb:0≤v∧v<18446744073709551616:=by rw[hv2];exact tkU_64 hl (by omega)
       refine⟨fun q=>?_,fun q=>?_⟩
       ·have q2:v % 2=1:=by have h3:(v % 2==1)=true:=(by rw[← and1 hvb];exact q);simpa using h3
        refine⟨by decide,?_⟩
        show tkV (_,_,_)=tkV (takeI l)
        rw[← hg]
        refine congrArg tkV (Prod.ext ?_ (Prod.ext ?_ rfl))
        ·exact (numP_odd hvb q2).trans (congrArg numI hv2)
        ·show IntKind.i64.wrap (k+1)=((k.toNat:Nat):Int)+1
         rw[wrapi (by omega)]
         omega
       ·have q2:¬ v % 2=1:=by have h3:(v % 2==1)=false:=(by rw[← and1 hvb];exact q);simpa using h3
        refine⟨by decide,?_⟩
        show tkV (_,_,_)=tkV (takeI l)
        rw[← hg]
        refine congrArg tkV (Prod.ext ?_ (Prod.ext ?_ rfl))
        ·exact (numP_even hvb (by omega)).trans (congrArg numI hv2)
        ·show IntKind.i64.wrap (k+1)=((k.toNat:Nat):Int)+1
         rw[wrapi (by omega)]
         omega
 ·have hge2:¬ k<10:=of_decide_eq_false hge
  obtain rfl:k=10:=by omega
  exact congrArg tkV hg
theorem takeP_calls (A:Option Addr) (cap:Nat) (l:List Int) (w:World) (hl:byteL l) (hr:Rd w (·<w.heap.size) A (flat u8C l)):Calls Tryz.prog 24 #[.slice A l.length cap] w fun e w'=>e=.returned (tkV (takeI l))∧Below w.heap.size w w':=by
 have:=row1_calls (enc:=u8C) (sz:=1) (fun _=>rfl) (by omega) u8C_plain 0 ttBok tkPFok Tryz.func24 rfl (D:=tkPD) (by kernel_rfl) (vs:=[slc 0 l.length cap]) rfl A l w hr (fun v hv=>by
  simp only[List.mem_cons,List.not_mem_nil,or_false] at hv
  subst hv
  exact⟨Nat.zero_lt_one,rfl⟩) (takeP_sx cap l hl)
 have e0:([slc 0 l.length cap].map (den fun _=>⟨A,1,l.length,false,noSub⟩)).toArray=#[.slice A l.length cap]:=by simp[den,den2,den1,dA_whole,dS_whole]
 rw[e0] at this
 refine this.mono ?_
 rintro e w' ⟨v,mem',nx',ρ',rfl,rfl,hv,hm',hb⟩
 exact⟨by rw[den_tk],hb⟩
def ctTakeP:CT:=fun vs mem nx K=>∃ v l,vs=[v]∧SrcR mem 1 u8C 0 (l:List Int) v∧byteL l∧K (tkV (takeI l)) mem nx
theorem takePOk:CSound Tryz.prog 24 ctTakeP:=⟨by kernel_rfl,fun {C ρ fr mem nx a w vs K} hc hs hv=>by
 obtain⟨v,l,rfl,hsrc,hl,hK⟩:=hc
 obtain⟨A,cap,e0,hr⟩:=hs.srcR (enc:=u8C) (sz:=1) (fun _=>rfl) (by omega) hsrc
 have e1:([v].map (den ρ)).toArray=#[.slice A l.length cap]:=by rw[List.map_cons,e0];rfl
 rw[e1]
 refine (takeP_calls A cap l w hl hr).mono ?_
 rintro e w' ⟨rfl,hb⟩
 exact⟨tkV (takeI l),mem,nx,ρ,by rw[den_tk],hK,hs.later hb,tkV_ok _,ExtS.refl _ _⟩⟩
/-! Bytes in rows of the caller's own. -/
def SlB (mem:AM) (l:List Int) (v:Value):Prop:=∃ r cp el,v=slc r l.length cp∧lk mem r=some (.row (1000000+5) 1 cp el)∧l.length≤cp∧∀ k,k<l.length→el k=u8C (l.getD k 0)
theorem Sat.ownBytes {C C':Ctx} {ρ ρ':Nat→Pl} {fr:AF} {mem mem':AM} {nx nx':Nat} {a:Act} {w w':World} {K:Value→AM→Nat→Prop} (hs:Sat C ρ fr mem nx a w) (hb:Below w.heap.size w w') (hm:MemAt C' ρ' mem' nx' w') (h0:C'.w0=w) {l:List Int} {v:Value} (h:SlB mem' l v) (hK:∀ cp el,l.length≤cp→(∀ k,k<l.length→el k=u8C (l.getD k 0))→K (slc nx l.length cp) ((nx,.row (1000000+5) 1 cp el)::mem) (nx+1)) :
  ∃ v2 mem2 nx2 ρ2,Ending.returned (den ρ' v)=.returned (den ρ2 v2)∧K v2 mem2 nx2∧Sat C ρ2 fr mem2 nx2 a w'∧okV ρ2 nx2 v2∧ExtS ρ nx ρ2 nx2:=by
 obtain⟨r,cp,el,rfl,hr,hl,he⟩:=h
 obtain⟨⟨q0,q1⟩,q2,q3⟩:=hm.blk r _ hr
 have hown:ownT (1000000+5)=true:=rfl
 have key:=(hs.later hb).addOwn (p:=⟨(ρ' r).A,1,cp,false,noSub⟩) (t:=1000000+5) (sz:=1) (n:=cp) (el:=el) rfl ⟨⟨by rw[setPl_same],by rw[setPl_same]⟩,q2,q3.imp id (by
  rintro⟨b,off,hA,hat,hc⟩
  refine⟨b,off,by rw[setPl_same];exact hA,⟨hat.lt,fun ho=>?_,fun hf=>?_⟩,hc⟩
  ·obtain⟨e1,e2,e3⟩:=hat.own ho
   rw[h0] at e2
   exact⟨e1,Nat.le_trans hs.rest.size e2,e3⟩
  ·have e2:=hat.new hf
   rw[h0] at e2
   exact Nat.le_trans hs.rest.size e2)⟩ (q3.imp id (by
  rintro⟨b,off,hA,hat,hc⟩ i b' hi g hg
  have e2:=hat.new rfl
  rw[h0] at e2
  have:=(hs.blk i b' hi).brd_lt hg
  rw[hA]
  simp
  omega))
 have q:setPl ρ nx ⟨(ρ' r).A,1,cp,false,noSub⟩ nx=⟨(ρ' r).A,1,cp,false,noSub⟩:=setPl_same _ _ _
 refine⟨slc nx l.length cp,_,_,setPl ρ nx ⟨(ρ' r).A,1,cp,false,noSub⟩,?_,hK cp el hl he,key,?_,fun i hi=>setPl_lt _ _ hi,by omega⟩
 ·show Ending.returned (.slice (ρ' r).A l.length cp)=.returned (.slice (setPl ρ nx ⟨(ρ' r).A,1,cp,false,noSub⟩ nx).A l.length cp)
  rw[q]
 ·exact⟨show nx<nx+1 by omega,by rw[q]⟩
set_option maxRecDepth 100000 in
set_option maxHeartbeats 4000000 in
theorem wintO_sx (cap:Nat) (l:List Int) (n:Int) (hl:l.length≤1000000) (hn:in64 n) :
  sx ttA wiF wiD (bodyOf Tryz.f43) (argF 0 [slc 0 l.length cap,.int .i64 n]) [(0,rowOfL 3 1 u8C 0 l)] 1 (endx ttA Tryz.f43.results.toList fun v mem' _=>SlB mem' (l++intBy n) v):=by
 have hw:IntKind.i64.wrap ((l.length:Int)+10)=(l.length:Int)+10:=wrapi (by omega)
 refine⟨⟨by rw[hw];omega,by omega,by rw[hw];show ((l.length:Int)+10) * (1:Int)≤_;omega⟩,?_⟩
 refine⟨⟨Nat.le_refl _,fun k hk=>rfl⟩,?_⟩
 have hw2:(IntKind.i64.wrap ((l.length:Int)+10)).toNat=l.length+10:=by rw[hw];omega
 refine⟨⟨rfl,Nat.zero_le _⟩,fun hin el2 ⟨g1,_⟩ g2=>?_,fun hgt=>absurd hgt (by rw[hw2];omega)⟩
 rw[show Int.toNat 0+l.length=l.length from Nat.zero_add _,hw2]
 clear hin hw hw2 g1
 have g3:∀ k,k<l.length→el2 k=u8C (l.getD k 0):=fun k hk=>by have:=g2 k hk;rwa[show Int.toNat 0+k=k from Nat.zero_add _] at this
 refine⟨Unit,fun _=>[(5,.int .u64 (codeI n))],fun _=>[],fun _=>True,?_,?_⟩
 ·refine⟨fun hneg=>?_,fun hneg=>?_⟩
  ·have hneg2:n<0:=of_decide_eq_true hneg
   refine⟨by decide,?_⟩
   refine⟨(),trivial,(by refine⟨?_,?_⟩;(show some (Value.int .u64 _)=some (Value.int .u64 (codeI n));rw[codeP_neg hn hneg2]);repeat (first | exact trivial | refine⟨rfl,?_⟩)),kp_⟩
  ·have hneg2:¬ n<0:=of_decide_eq_false hneg
   refine⟨by decide,?_⟩
   refine⟨(),trivial,(by refine⟨?_,?_⟩;(show some (Value.int .u64 _)=some (Value.int .u64 (codeI n));rw[codeP_pos hn hneg2]);repeat (first | exact trivial | refine⟨rfl,?_⟩)),kp_⟩
 ·rintro - -
  refine⟨⟨by decide,rfl,rfl⟩,?_⟩
  have hcb:=codeI_bd hn
  have hil:=intBy_len hn
  refine⟨Int×List Int×Nat×(Nat→List Value),fun q=>match q with | (u,s,cp,el)=>[(5,.int .u64 u),(0,slc 2 s.length cp)],fun q=>match q with | (u,s,cp,el)=>[(2,.row (1000000+5) 1 cp el)],fun q=>match q with | (u,s,cp,el)=>(0≤u∧u<18446744073709551616)∧s.length≤cp∧(∀ k,k<s.length→el k=u8C (s.getD k 0))∧s++encU u.toNat=l++intBy n,fun q=>match q with | (u,s,cp,el)=>u.toNat,⟨(codeI n,l,_,_),[(2,1)],?_,⟨rfl,rfl⟩,kp_,kp_⟩,?_⟩
  ·exact⟨hcb,by omega,g3,rfl⟩
  rintro⟨u,s,cp,el⟩ ⟨hu,hcp,hel,heq⟩
  have hsl:s.length≤l.length+10:=by have:=congrArg List.length heq;simp at this;omega
  refine⟨⟨by decide,rfl,rfl⟩,?_⟩
  refine⟨fun hge=>?_,fun hlt=>?_⟩
  ·have hge2:u≥128:=of_decide_eq_true hge
   refine⟨⟨Nat.le_refl _,fun j hj=>by match j,hj with | 0,_=>rfl⟩,?_⟩
   refine⟨⟨rfl,hcp⟩,fun hinq elq ⟨g1q,_⟩ g2q=>?_,fun hgtq=>⟨by show (s.length+1) * 1≤140737488355328;omega,fun capq elq ⟨hcq,_⟩ g1q g2q=>?_⟩⟩
   ·rw[show s.length+1=(s++[u % 128+128]).length by simp]
    refine⟨by decide,?_⟩
    refine⟨(_,s++[u % 128+128],cp,elq),[],?_,⟨rfl,rfl⟩,kp_,kp_⟩
    dsimp only
    rw[shr7 hu.1]
    refine⟨⟨⟨by omega,by omega⟩,by simp;omega,el_snoc hel g1q ?_,?_⟩,by omega⟩
    ·rw[g2q 0 (by omega)]
     exact congrArg (fun z=>[Value.int .u8 z]) (or128 hu.1)
    ·rw[List.append_assoc]
     rw[encU_step hu.1 (by omega)] at heq
     exact heq
   ·rw[show s.length+1=(s++[u % 128+128]).length by simp] at hcq ⊢
    refine⟨by decide,?_⟩
    refine⟨(_,s++[u % 128+128],capq,elq),[(2,4)],?_,⟨rfl,rfl⟩,kp_,kp_⟩
    dsimp only
    rw[shr7 hu.1]
    refine⟨⟨⟨by omega,by omega⟩,hcq,el_snoc hel g1q ?_,?_⟩,by omega⟩
    ·rw[g2q 0 (by omega)]
     exact congrArg (fun z=>[Value.int .u8 z]) (or128 hu.1)
    ·rw[List.append_assoc]
     rw[encU_step hu.1 (by omega)] at heq
     exact heq
  ·have hlt2:¬ u≥128:=of_decide_eq_false hlt
   refine⟨⟨Nat.le_refl _,fun j hj=>by match j,hj with | 0,_=>rfl⟩,?_⟩
   refine⟨⟨rfl,hcp⟩,fun hinz elz ⟨g1z,_⟩ g2z=>?_,fun hgtz=>⟨by show (s.length+1) * 1≤140737488355328;omega,fun capz elz ⟨hcz,_⟩ g1z g2z=>?_⟩⟩
   ·rw[encU_last hu.1 (by omega)] at heq
    rw[← heq]
    refine⟨2,cp,elz,?_,rfl,by simp;omega,el_snoc hel g1z ?_⟩
    ·rw[show (s++[u]).length=s.length+1 by simp]
    ·rw[g2z 0 (by omega)]
     exact congrArg (fun z=>[Value.int .u8 z]) (wu8 (by omega))
   ·rw[encU_last hu.1 (by omega)] at heq
    rw[← heq]
    refine⟨4,capz,elz,?_,rfl,by simp;exact hcz,el_snoc hel g1z ?_⟩
    ·rw[show (s++[u]).length=s.length+1 by simp]
    ·rw[g2z 0 (by omega)]
     exact congrArg (fun z=>[Value.int .u8 z]) (wu8 (by omega))
def ctWIntO:CT:=fun vs mem nx K=>∃ v l n,vs=[v,.int .i64 n]∧SrcR mem 1 u8C 0 (l:List Int) v∧(l.length≤1000000∧in64 n)∧∀ cp el,(l++intBy n).length≤cp→(∀ k,k<(l++intBy n).length→el k=u8C ((l++intBy n).getD k 0))→K (slc nx (l++intBy n).length cp) ((nx,.row (1000000+5) 1 cp el)::mem) (nx+1)
theorem wIntOOk:CSound Tryz.prog 43 ctWIntO:=⟨by kernel_rfl,fun {C ρ fr mem nx a w vs K} hc hs hv=>by
 obtain⟨v,l,n,rfl,hsrc,⟨hl,hn⟩,hK⟩:=hc
 obtain⟨A,cap,e0,hr⟩:=hs.srcR (enc:=u8C) (sz:=1) (fun _=>rfl) (by omega) hsrc
 have e1:([v,.int .i64 n].map (den ρ)).toArray=([slc 0 l.length cap,.int .i64 n].map (den fun _=>⟨A,1,l.length,false,noSub⟩)).toArray:=by rw[List.map_cons,e0];rfl
 rw[e1]
 refine (row1_calls (enc:=u8C) (sz:=1) (fun _=>rfl) (by omega) u8C_plain 0 ttAok wiFok Tryz.func43 rfl (D:=wiD) (by kernel_rfl) (vs:=[slc 0 l.length cap,.int .i64 n]) rfl A l w hr (fun v hv=>by
  simp only[List.mem_cons,List.not_mem_nil,or_false] at hv
  rcases hv with rfl | rfl
  ·exact⟨Nat.zero_lt_one,rfl⟩
  ·trivial) (wintO_sx cap l n hl hn)).mono ?_
 rintro e w' ⟨v,mem',nx',ρ',rfl,hR,hv,hm',hb⟩
 exact hs.ownBytes hb hm' rfl hR hK⟩
theorem bdPOFok:FTokI Tryz.prog [(43,ctWIntO)] (inlOf bdPD):=fti_cons (wIntOOk.i _) fti_nil
set_option maxRecDepth 100000 in
set_option maxHeartbeats 4000000 in
theorem bodyPO_sx (cap:Nat) (a:Atl) (ha:AtlIn a) :
  sx ttA [(43,ctWIntO)] bdPD (bodyOf Tryz.f29) (argF 0 [atlV a (slc 0 a.routes.length cap)]) [(0,rowOfL 3 2 pairC (0,0) a.routes)] 1 (endx ttA Tryz.f29.results.toList fun v mem' _=>SlB mem' (bodyI a) v):=by
 have hl1:=intBy_len ha.n
 have hl2:=intBy_len ha.t
 have hlen:=ha.len
 have hn3:in64 (a.routes.length:Int):=by unfold in64;omega
 have hl3:=intBy_len hn3
 refine⟨_,[],_,rfl,.inl ⟨rfl,rfl⟩,⟨Nat.zero_le _,ha.n⟩,fun c1 x1 h1 g1=>?_⟩
 refine⟨_,_,_,rfl,.inr (.inl ⟨2,_,rfl,⟨_,_,_,rfl,h1,g1⟩⟩),⟨(by simp only[List.length_append,List.nil_append];omega),ha.t⟩,fun c2 x2 h2 g2=>?_⟩
 refine⟨_,_,_,rfl,.inr (.inl ⟨3,_,rfl,⟨_,_,_,rfl,h2,g2⟩⟩),⟨(by simp only[List.length_append,List.nil_append];omega),hn3⟩,fun c3 x3 h3 g3=>?_⟩
 refine⟨Int×List Int×Nat×(Nat→List Value),fun q=>match q with | (i,s,cp,el)=>[(21,.int .i64 i),(3,slc 5 s.length cp)],fun q=>match q with | (i,s,cp,el)=>[(5,.row (1000000+5) 1 cp el)],fun q=>match q with | (i,s,cp,el)=>((0≤i∧i≤a.routes.length)∧s=(intBy a.number++intBy a.tick++intBy (a.routes.length:Int))++(a.routes.take i.toNat).flatMap routeB∧(s.length:Int)≤30+20 * i)∧s.length≤cp∧∀ k,k<s.length→el k=u8C (s.getD k 0),fun q=>match q with | (i,s,cp,el)=>((a.routes.length:Int)-i).toNat,⟨(0,_,c3,x3),[(5,4)],⟨⟨by omega,(List.append_nil _).symm,by simp;omega⟩,h3,g3⟩,⟨rfl,rfl⟩,kp_,kp_⟩,?_⟩
 rintro⟨i,s,cp,el⟩ ⟨⟨hi,hs,hsl⟩,h0,g0⟩
 refine⟨⟨by decide,rfl,rfl⟩,?_⟩
 refine⟨fun hlt=>?_,fun hge=>?_⟩
 ·have hlt2:i<(a.routes.length:Int):=of_decide_eq_true hlt
  have hin:=ha.at_ ⟨hi.1,hlt2⟩
  have hl4:=intBy_len hin.1
  have hl5:=intBy_len hin.2
  refine⟨⟨Nat.le_refl _,hi.1,hlt2⟩,?_⟩
  refine⟨_,s,_,rfl,.inr (.inl ⟨5,_,rfl,⟨_,_,_,rfl,h0,g0⟩⟩),⟨(by omega),hin.1⟩,fun c4 x4 h4 g4=>?_⟩
  refine⟨_,_,_,rfl,.inr (.inl ⟨7,_,rfl,⟨_,_,_,rfl,h4,g4⟩⟩),⟨(by simp only[List.length_append,List.nil_append];omega),hin.2⟩,fun c5 x5 h5 g5=>?_⟩
  refine⟨(_,_,c5,x5),[(5,8)],?_,⟨rfl,rfl⟩,kp_,kp_⟩
  dsimp only
  rw[wrapi (n:=i+1) (by omega),body_take ⟨hi.1,hlt2⟩]
  refine⟨⟨⟨by omega,?_,?_⟩,h5,g5⟩,by omega⟩
  ·rw[hs]
   simp only[List.append_assoc]
  ·simp only[List.length_append]
   omega
 ·have hge2:¬ i<(a.routes.length:Int):=of_decide_eq_false hge
  obtain rfl:i=a.routes.length:=by omega
  rw[Int.toNat_natCast,List.take_length] at hs
  subst hs
  exact⟨5,cp,el,rfl,rfl,h0,g0⟩
def ctBodyPO:CT:=fun vs mem nx K=>∃ a v,vs=[atlV a v]∧SrcR mem 2 pairC (0,0) a.routes v∧AtlIn a∧∀ cp el,(bodyI a).length≤cp→(∀ k,k<(bodyI a).length→el k=u8C ((bodyI a).getD k 0))→K (slc nx (bodyI a).length cp) ((nx,.row (1000000+5) 1 cp el)::mem) (nx+1)
theorem bodyPOOk:CSound Tryz.prog 29 ctBodyPO:=⟨by kernel_rfl,fun {C ρ fr mem nx a w vs K} hc hs hv=>by
 obtain⟨a,v,rfl,hsrc,ha,hK⟩:=hc
 obtain⟨A,cap,e0,hr⟩:=hs.srcR (enc:=pairC) (sz:=2) (fun _=>rfl) (by omega) hsrc
 have e1:([atlV a v].map (den ρ)).toArray=([atlV a (slc 0 a.routes.length cap)].map (den fun _=>⟨A,2,a.routes.length,false,noSub⟩)).toArray:=by
  obtain⟨A',cp,rfl⟩:=hsrc.slice
  have dI:∀ k n,den1 ρ (.int k n)=.int k n:=fun _ _=>rfl
  simp only[List.map_cons,List.map_nil,atlV,den,den2]
  simp[dI,den1_slice e0]
  simp[den1,dS_whole]
 rw[e1]
 refine (row1_calls (enc:=pairC) (sz:=2) (fun _=>rfl) (by omega) pairC_plain (0,0) ttAok bdPOFok Tryz.func29 rfl (D:=bdPD) (by kernel_rfl) (vs:=[atlV a (slc 0 a.routes.length cap)]) rfl A a.routes w hr (fun v hv=>by
  simp only[List.mem_cons,List.not_mem_nil,or_false] at hv
  subst hv
  intro u hu
  simp at hu
  rcases hu with rfl | rfl | rfl | rfl | rfl<;>first | trivial | exact⟨Nat.zero_lt_one,rfl⟩) (bodyPO_sx cap a ha)).mono ?_
 rintro e w' ⟨v,mem',nx',ρ',rfl,hR,hv,hm',hb⟩
 exact hs.ownBytes hb hm' rfl hR hK⟩
set_option maxRecDepth 100000 in
set_option maxHeartbeats 4000000 in
theorem rintO_sx (cap:Nat) (l:List Int) (n:Int) (hl:l.length≤1000000) (hn:in64 n) :
  sx ttA riF riD (bodyOf Tryz.f41) (argF 0 [slc 0 l.length cap,.int .i64 n]) [(0,rowOfL 3 1 u8C 0 l)] 1 (endx ttA Tryz.f41.results.toList fun v mem' _=>SlB mem' (l++intBy n) v):=by
 refine⟨Nat×(Nat→List Value),fun q=>match q with | (cp,el)=>[(5,slc 2 l.length cp)],fun q=>match q with | (cp,el)=>[(2,.row (1000000+5) 1 cp el)],fun q=>match q with | (cp,el)=>l.length≤cp∧∀ k,k<l.length→el k=u8C (l.getD k 0),?_,?_⟩
 ·refine⟨⟨Nat.le_refl _,fun k hk=>rfl⟩,?_⟩
  refine⟨⟨rfl,Nat.le_refl _⟩,fun hin el2 ⟨g1,_⟩ g2=>?_,fun hgt=>⟨by show (0+l.length) * 1≤140737488355328;omega,fun cap2 el2 ⟨hc,_⟩ g1 g2=>?_⟩⟩
  ·rw[Nat.zero_add]
   refine⟨(0,el2),[(2,1)],⟨by omega,fun k hk=>?_⟩,⟨rfl,rfl⟩,kp_,kp_⟩
   have:=g2 k hk
   rwa[Nat.zero_add] at this
  ·rw[Nat.zero_add]
   refine⟨(cap2,el2),[(2,2)],⟨by omega,fun k hk=>?_⟩,⟨rfl,rfl⟩,kp_,kp_⟩
   have:=g2 k hk
   rwa[Nat.zero_add] at this
 ·rintro⟨cp0,el0⟩ ⟨hc0,g3⟩
  refine⟨⟨by decide,rfl,rfl⟩,?_⟩
  refine⟨Unit,fun _=>[(6,.int .u64 (codeI n))],fun _=>[],fun _=>True,?_,?_⟩
  ·refine⟨fun hpos=>?_,fun hpos=>?_⟩
   ·have hpos2:n≥0:=of_decide_eq_true hpos
    refine⟨(),trivial,(by refine⟨?_,?_⟩;(show some (Value.int .u64 _)=some (Value.int .u64 (codeI n));rw[codeR_pos hn hpos2]);repeat (first | exact trivial | refine⟨rfl,?_⟩)),kp_⟩
   ·have hpos2:¬ n≥0:=of_decide_eq_false hpos
    refine⟨(),trivial,(by refine⟨?_,?_⟩;(show some (Value.int .u64 _)=some (Value.int .u64 (codeI n));rw[codeR_neg hn hpos2]);repeat (first | exact trivial | refine⟨rfl,?_⟩)),kp_⟩
  ·rintro - -
   refine⟨⟨by decide,rfl,rfl⟩,?_⟩
   have hcb:=codeI_bd hn
   have hil:=intBy_len hn
   refine⟨Int×List Int×Nat×(Nat→List Value),fun q=>match q with | (u,s,cp,el)=>[(6,.int .u64 u),(5,slc 3 s.length cp)],fun q=>match q with | (u,s,cp,el)=>[(3,.row (1000000+5) 1 cp el)],fun q=>match q with | (u,s,cp,el)=>(0≤u∧u<18446744073709551616)∧s.length≤cp∧(∀ k,k<s.length→el k=u8C (s.getD k 0))∧s++encU u.toNat=l++intBy n,fun q=>match q with | (u,s,cp,el)=>u.toNat,⟨(codeI n,l,_,_),[(3,2)],?_,⟨rfl,rfl⟩,kp_,kp_⟩,?_⟩
   ·exact⟨hcb,hc0,g3,rfl⟩
   rintro⟨u,s,cp,el⟩ ⟨hu,hcp,hel,heq⟩
   have hsl:s.length≤l.length+10:=by have:=congrArg List.length heq;simp at this;omega
   refine⟨⟨by decide,rfl,rfl⟩,?_⟩
   refine⟨fun hge=>?_,fun hlt=>?_⟩
   ·have hge2:u≥128:=of_decide_eq_true hge
    refine⟨⟨rfl,by decide⟩,?_⟩
    refine⟨⟨Nat.le_refl _,fun j hj=>by match j,hj with | 0,_=>rfl⟩,?_⟩
    refine⟨⟨rfl,hcp⟩,fun hinq elq ⟨g1q,_⟩ g2q=>?_,fun hgtq=>⟨by show (s.length+1) * 1≤140737488355328;omega,fun capq elq ⟨hcq,_⟩ g1q g2q=>?_⟩⟩
    ·rw[show s.length+1=(s++[u % 128+128]).length by simp]
     refine⟨⟨rfl,by decide⟩,?_⟩
     refine⟨(_,s++[u % 128+128],cp,elq),[],?_,⟨rfl,rfl⟩,kp_,kp_⟩
     dsimp only
     rw[quo128 hu]
     refine⟨⟨⟨by omega,by omega⟩,by simp;omega,el_snoc hel g1q ?_,?_⟩,by omega⟩
     ·rw[g2q 0 (by omega)]
      exact congrArg (fun z=>[Value.int .u8 z]) (byteR hu.1)
     ·rw[List.append_assoc]
      rw[encU_step hu.1 (by omega)] at heq
      exact heq
    ·rw[show s.length+1=(s++[u % 128+128]).length by simp] at hcq ⊢
     refine⟨⟨rfl,by decide⟩,?_⟩
     refine⟨(_,s++[u % 128+128],capq,elq),[(3,5)],?_,⟨rfl,rfl⟩,kp_,kp_⟩
     dsimp only
     rw[quo128 hu]
     refine⟨⟨⟨by omega,by omega⟩,hcq,el_snoc hel g1q ?_,?_⟩,by omega⟩
     ·rw[g2q 0 (by omega)]
      exact congrArg (fun z=>[Value.int .u8 z]) (byteR hu.1)
     ·rw[List.append_assoc]
      rw[encU_step hu.1 (by omega)] at heq
      exact heq
   ·have hlt2:¬ u≥128:=of_decide_eq_false hlt
    refine⟨⟨Nat.le_refl _,fun j hj=>by match j,hj with | 0,_=>rfl⟩,?_⟩
    refine⟨⟨rfl,hcp⟩,fun hinz elz ⟨g1z,_⟩ g2z=>?_,fun hgtz=>⟨by show (s.length+1) * 1≤140737488355328;omega,fun capz elz ⟨hcz,_⟩ g1z g2z=>?_⟩⟩
    ·rw[encU_last hu.1 (by omega)] at heq
     rw[← heq]
     refine⟨3,cp,elz,?_,rfl,by simp;omega,el_snoc hel g1z ?_⟩
     ·rw[show (s++[u]).length=s.length+1 by simp]
     ·rw[g2z 0 (by omega)]
      exact congrArg (fun z=>[Value.int .u8 z]) (wu8 (by omega))
    ·rw[encU_last hu.1 (by omega)] at heq
     rw[← heq]
     refine⟨5,capz,elz,?_,rfl,by simp;exact hcz,el_snoc hel g1z ?_⟩
     ·rw[show (s++[u]).length=s.length+1 by simp]
     ·rw[g2z 0 (by omega)]
      exact congrArg (fun z=>[Value.int .u8 z]) (wu8 (by omega))
def ctRIntO:CT:=fun vs mem nx K=>∃ v l n,vs=[v,.int .i64 n]∧SrcR mem 1 u8C 0 (l:List Int) v∧(l.length≤1000000∧in64 n)∧∀ cp el,(l++intBy n).length≤cp→(∀ k,k<(l++intBy n).length→el k=u8C ((l++intBy n).getD k 0))→K (slc nx (l++intBy n).length cp) ((nx,.row (1000000+5) 1 cp el)::mem) (nx+1)
theorem rIntOOk:CSound Tryz.prog 41 ctRIntO:=⟨by kernel_rfl,fun {C ρ fr mem nx a w vs K} hc hs hv=>by
 obtain⟨v,l,n,rfl,hsrc,⟨hl,hn⟩,hK⟩:=hc
 obtain⟨A,cap,e0,hr⟩:=hs.srcR (enc:=u8C) (sz:=1) (fun _=>rfl) (by omega) hsrc
 have e1:([v,.int .i64 n].map (den ρ)).toArray=([slc 0 l.length cap,.int .i64 n].map (den fun _=>⟨A,1,l.length,false,noSub⟩)).toArray:=by rw[List.map_cons,e0];rfl
 rw[e1]
 refine (row1_calls (enc:=u8C) (sz:=1) (fun _=>rfl) (by omega) u8C_plain 0 ttAok riFok Tryz.func41 rfl (D:=riD) (by kernel_rfl) (vs:=[slc 0 l.length cap,.int .i64 n]) rfl A l w hr (fun v hv=>by
  simp only[List.mem_cons,List.not_mem_nil,or_false] at hv
  rcases hv with rfl | rfl
  ·exact⟨Nat.zero_lt_one,rfl⟩
  ·trivial) (rintO_sx cap l n hl hn)).mono ?_
 rintro e w' ⟨v,mem',nx',ρ',rfl,hR,hv,hm',hb⟩
 exact hs.ownBytes hb hm' rfl hR hK⟩
theorem bdROFok:FTokI Tryz.prog [(41,ctRIntO)] (inlOf bdRD):=fti_cons (rIntOOk.i _) fti_nil
set_option maxRecDepth 100000 in
set_option maxHeartbeats 4000000 in
theorem bodyRO_sx (cap:Nat) (a:Atl) (ha:AtlIn a) :
  sx ttA [(41,ctRIntO)] bdRD (bodyOf Tryz.f22) (argF 0 [atlV a (slc 0 a.routes.length cap)]) [(0,rowOfL 3 2 pairC (0,0) a.routes)] 1 (endx ttA Tryz.f22.results.toList fun v mem' _=>SlB mem' (bodyI a) v):=by
 have hl1:=intBy_len ha.n
 have hl2:=intBy_len ha.t
 have hlen:=ha.len
 have hn3:in64 (a.routes.length:Int):=by unfold in64;omega
 have hl3:=intBy_len hn3
 refine⟨_,[],_,rfl,.inl ⟨rfl,rfl⟩,⟨Nat.zero_le _,ha.n⟩,fun c1 x1 h1 g1=>?_⟩
 refine⟨kp_,?_⟩
 refine⟨_,_,_,rfl,.inr (.inl ⟨2,_,rfl,⟨_,_,_,rfl,h1,g1⟩⟩),⟨(by simp only[List.length_append,List.nil_append];omega),ha.t⟩,fun c2 x2 h2 g2=>?_⟩
 refine⟨kp_,?_⟩
 refine⟨_,_,_,rfl,.inr (.inl ⟨3,_,rfl,⟨_,_,_,rfl,h2,g2⟩⟩),⟨(by simp only[List.length_append,List.nil_append];omega),hn3⟩,fun c3 x3 h3 g3=>?_⟩
 refine⟨Int×List Int×Nat×(Nat→List Value),fun q=>match q with | (i,s,cp,el)=>[(4,.int .i64 i),(3,slc 5 s.length cp)],fun q=>match q with | (i,s,cp,el)=>[(5,.row (1000000+5) 1 cp el)],fun q=>match q with | (i,s,cp,el)=>((0≤i∧i≤a.routes.length)∧s=(intBy a.number++intBy a.tick++intBy (a.routes.length:Int))++(a.routes.take i.toNat).flatMap routeB∧(s.length:Int)≤30+20 * i)∧s.length≤cp∧∀ k,k<s.length→el k=u8C (s.getD k 0),fun q=>match q with | (i,s,cp,el)=>((a.routes.length:Int)-i).toNat,⟨(0,_,c3,x3),[(5,4)],⟨⟨by omega,(List.append_nil _).symm,by simp;omega⟩,h3,g3⟩,⟨rfl,rfl⟩,kp_,kp_⟩,?_⟩
 rintro⟨i,s,cp,el⟩ ⟨⟨hi,hs,hsl⟩,h0,g0⟩
 refine⟨⟨by decide,rfl,rfl⟩,?_⟩
 refine⟨fun hlt=>?_,fun hge=>?_⟩
 ·have hlt2:i<(a.routes.length:Int):=of_decide_eq_true hlt
  have hin:=ha.at_ ⟨hi.1,hlt2⟩
  have hl4:=intBy_len hin.1
  have hl5:=intBy_len hin.2
  refine⟨⟨Nat.le_refl _,hi.1,hlt2⟩,?_⟩
  refine⟨⟨Nat.le_refl _,hi.1,hlt2⟩,?_⟩
  refine⟨_,s,_,rfl,.inr (.inl ⟨5,_,rfl,⟨_,_,_,rfl,h0,g0⟩⟩),⟨(by omega),hin.1⟩,fun c4 x4 h4 g4=>?_⟩
  refine⟨kp_,?_⟩
  refine⟨_,_,_,rfl,.inr (.inl ⟨6,_,rfl,⟨_,_,_,rfl,h4,g4⟩⟩),⟨(by simp only[List.length_append,List.nil_append];omega),hin.2⟩,fun c5 x5 h5 g5=>?_⟩
  refine⟨(_,_,c5,x5),[(5,7)],?_,⟨rfl,rfl⟩,kp_,kp_⟩
  dsimp only
  rw[wrapi (n:=i+1) (by omega),body_take ⟨hi.1,hlt2⟩]
  refine⟨⟨⟨by omega,?_,?_⟩,h5,g5⟩,by omega⟩
  ·rw[hs]
   simp only[List.append_assoc]
  ·simp only[List.length_append]
   omega
 ·have hge2:¬ i<(a.routes.length:Int):=of_decide_eq_false hge
  obtain rfl:i=a.routes.length:=by omega
  rw[Int.toNat_natCast,List.take_length] at hs
  subst hs
  exact⟨5,cp,el,rfl,rfl,h0,g0⟩
def ctBodyRO:CT:=fun vs mem nx K=>∃ a v,vs=[atlV a v]∧SrcR mem 2 pairC (0,0) a.routes v∧AtlIn a∧∀ cp el,(bodyI a).length≤cp→(∀ k,k<(bodyI a).length→el k=u8C ((bodyI a).getD k 0))→K (slc nx (bodyI a).length cp) ((nx,.row (1000000+5) 1 cp el)::mem) (nx+1)
theorem bodyROOk:CSound Tryz.prog 22 ctBodyRO:=⟨by kernel_rfl,fun {C ρ fr mem nx a w vs K} hc hs hv=>by
 obtain⟨a,v,rfl,hsrc,ha,hK⟩:=hc
 obtain⟨A,cap,e0,hr⟩:=hs.srcR (enc:=pairC) (sz:=2) (fun _=>rfl) (by omega) hsrc
 have e1:([atlV a v].map (den ρ)).toArray=([atlV a (slc 0 a.routes.length cap)].map (den fun _=>⟨A,2,a.routes.length,false,noSub⟩)).toArray:=by
  obtain⟨A',cp,rfl⟩:=hsrc.slice
  have dI:∀ k n,den1 ρ (.int k n)=.int k n:=fun _ _=>rfl
  simp only[List.map_cons,List.map_nil,atlV,den,den2]
  simp[dI,den1_slice e0]
  simp[den1,dS_whole]
 rw[e1]
 refine (row1_calls (enc:=pairC) (sz:=2) (fun _=>rfl) (by omega) pairC_plain (0,0) ttAok bdROFok Tryz.func22 rfl (D:=bdRD) (by kernel_rfl) (vs:=[atlV a (slc 0 a.routes.length cap)]) rfl A a.routes w hr (fun v hv=>by
  simp only[List.mem_cons,List.not_mem_nil,or_false] at hv
  subst hv
  intro u hu
  simp at hu
  rcases hu with rfl | rfl | rfl | rfl | rfl<;>first | trivial | exact⟨Nat.zero_lt_one,rfl⟩) (bodyRO_sx cap a ha)).mono ?_
 rintro e w' ⟨v,mem',nx',ρ',rfl,hR,hv,hm',hb⟩
 exact hs.ownBytes hb hm' rfl hR hK⟩
/-! atlas.Bytes,ref15.Bytes -/
theorem pow8 {i:Int} (h0:0≤i) (h1:i<8):(2:Int) ^ min (8 * i).toNat IntKind.u64.bits=256 ^ i.toNat:=by
 have e:min (8 * i).toNat IntKind.u64.bits=8 * i.toNat:=by show min (8 * i).toNat 64=_;omega
 rw[e,Int.pow_mul];rfl
theorem byteFP {h i:Int} (hh:0≤h) (h0:0≤i) (h1:i<8):IntKind.u8.wrap (h.fdiv (2 ^ min (IntKind.i64.wrap (8 * i)).toNat IntKind.u64.bits))=h / 256 ^ i.toNat % 256:=by
 have h3:(0:Int)<256 ^ i.toNat:=Int.pow_pos (by decide)
 rw[wrapi (n:=8 * i) (by omega),pow8 h0 h1,Int.fdiv_eq_ediv_of_nonneg _ (by omega),wrapu8]
theorem byteFR {h i:Int} (hh:0≤h) (h0:0≤i) (h1:i<8):IntKind.u8.wrap (h.fdiv (2 ^ min (IntKind.u64.wrap (IntKind.i64.wrap (8 * i))).toNat IntKind.u64.bits))=h / 256 ^ i.toNat % 256:=by
 have e:IntKind.u64.wrap (IntKind.i64.wrap (8 * i))=IntKind.i64.wrap (8 * i):=by rw[wrapi (n:=8 * i) (by omega),wu64 (by omega)]
 rw[e]
 exact byteFP hh h0 h1
abbrev ctFixedP:CT:=ctInl ttB [] [(3000002,{ k:=1000001,L:=[0,1],sl:=[1] })] Tryz.f28 (bodyOf Tryz.f28)
def byPF:FT:=[(29,ctBodyPO),(28,ctFixedP)]
def byPD:List (Nat×DQ):=[(9000000,{ k:=0,L:=[28] }),(1,{ k:=7,L:=[1],pre:=[(0,false),(2,false),(3,false),(5,false),(6,false),(1,true),(4,true)] })]
theorem byPFok:FTokI Tryz.prog byPF (inlOf byPD):=fti_cons (bodyPOOk.i _) (fti_cons (inl_ok ttBok fti_nil mixed (by kernel_rfl) Tryz.func28 rfl (by kernel_rfl) (by decide)) fti_nil)
set_option maxRecDepth 100000 in
set_option maxHeartbeats 4000000 in
theorem bytesP_sx (cap:Nat) (a:Atl) (ha:AtlIn a) (hh1:0≤a.parent) (hh2:0≤a.sum) :
  sx ttB byPF byPD (bodyOf Tryz.f14) (argF 0 [atlV a (slc 0 a.routes.length cap)]) [(0,rowOfL 3 2 pairC (0,0) a.routes)] 1 (endx ttB Tryz.f14.results.toList fun v mem' _=>SlB mem' (bytesA a) v):=by
 have hlen:=ha.len
 have hbl:=body_len ha
 refine⟨a,_,rfl,.inr (.inl ⟨0,_,rfl,.list rfl⟩),ha,fun c1 x1 h0 g0=>?_⟩
 refine⟨kp_,?_⟩
 refine⟨Int×List Int×Nat×(Nat→List Value),fun q=>match q with | (i,s,cp,el)=>[(6,.int .i64 i),(0,slc 3 s.length cp)],fun q=>match q with | (i,s,cp,el)=>[(3,.row (1000000+5) 1 cp el)],fun q=>match q with | (i,s,cp,el)=>((0≤i∧i≤8)∧s=bodyI a++eightGo a.parent i.toNat)∧s.length≤cp∧∀ k,k<s.length→el k=u8C (s.getD k 0),fun q=>match q with | (i,s,cp,el)=>(8-i).toNat,⟨(0,bodyI a,_,_),[(3,2)],⟨⟨by omega,(List.append_nil _).symm⟩,h0,g0⟩,⟨rfl,rfl⟩,kp_,kp_⟩,?_⟩
 clear h0 g0
 rintro⟨i,s,cp,el⟩ ⟨⟨hi,hs⟩,h0,g0⟩
 refine⟨⟨by decide,rfl,rfl⟩,?_⟩
 refine⟨fun hlt=>?_,fun hge=>?_⟩
 ·have hlt2:i<8:=of_decide_eq_true hlt
  have hsl:s.length≤(bodyI a).length+8:=by rw[hs,List.length_append,eightGo_len];omega
  refine⟨by rw[wrapi (n:=8 * i) (by omega)];omega,?_⟩
  refine⟨⟨Nat.le_refl _,fun j hj=>by match j,hj with | 0,_=>rfl⟩,?_⟩
  refine⟨⟨rfl,h0⟩,fun hinq elq ⟨g1q,_⟩ g2q=>?_,fun hgtq=>⟨by show (s.length+1) * 1≤140737488355328;omega,fun capq elq ⟨hcq,_⟩ g1q g2q=>?_⟩⟩
  ·rw[show s.length+1=(s++[(a.parent / 256 ^ i.toNat % 256)]).length by simp]
   refine⟨(_,s++[(a.parent / 256 ^ i.toNat % 256)],cp,elq),[],?_,⟨rfl,rfl⟩,kp_,kp_⟩
   dsimp only
   rw[wrapi (n:=i+1) (by omega)]
   refine⟨⟨⟨⟨by omega,by omega⟩,?_⟩,by simp;omega,el_snoc g0 g1q ?_⟩,by omega⟩
   ·rw[show (i+1).toNat=i.toNat+1 by omega,hs,List.append_assoc]
    rfl
   ·rw[g2q 0 (by omega)]
    exact congrArg (fun z=>[Value.int .u8 z]) (byteFP hh1 hi.1 hlt2)
  ·rw[show s.length+1=(s++[(a.parent / 256 ^ i.toNat % 256)]).length by simp] at hcq ⊢
   refine⟨(_,s++[(a.parent / 256 ^ i.toNat % 256)],capq,elq),[(3,5)],?_,⟨rfl,rfl⟩,kp_,kp_⟩
   dsimp only
   rw[wrapi (n:=i+1) (by omega)]
   refine⟨⟨⟨⟨by omega,by omega⟩,?_⟩,hcq,el_snoc g0 g1q ?_⟩,by omega⟩
   ·rw[show (i+1).toNat=i.toNat+1 by omega,hs,List.append_assoc]
    rfl
   ·rw[g2q 0 (by omega)]
    exact congrArg (fun z=>[Value.int .u8 z]) (byteFP hh1 hi.1 hlt2)
 ·have hge2:¬ i<8:=of_decide_eq_false hge
  obtain rfl:i=8:=by omega
  rw[show Int.toNat 8=8 from rfl] at hs
  subst hs
  refine⟨kp_,?_⟩
  have hbl2:(bodyI a++eightGo a.parent 8).length≤30+20 * a.routes.length+8:=by rw[List.length_append,eightGo_len];omega
  refine⟨Int×List Int×Nat×(Nat→List Value),fun q=>match q with | (i,s,cp,el)=>[(6,.int .i64 i),(0,slc 4 s.length cp)],fun q=>match q with | (i,s,cp,el)=>[(4,.row (1000000+5) 1 cp el)],fun q=>match q with | (i,s,cp,el)=>((0≤i∧i≤8)∧s=(bodyI a++eightGo a.parent 8)++eightGo a.sum i.toNat)∧s.length≤cp∧∀ k,k<s.length→el k=u8C (s.getD k 0),fun q=>match q with | (i,s,cp,el)=>(8-i).toNat,⟨(0,(bodyI a++eightGo a.parent 8),_,_),[(4,3)],⟨⟨by omega,(List.append_nil _).symm⟩,h0,g0⟩,⟨rfl,rfl⟩,kp_,kp_⟩,?_⟩
  clear h0 g0
  rintro⟨i,s,cp,el⟩ ⟨⟨hi,hs⟩,h0,g0⟩
  refine⟨⟨by decide,rfl,rfl⟩,?_⟩
  refine⟨fun hlt=>?_,fun hge=>?_⟩
  ·have hlt2:i<8:=of_decide_eq_true hlt
   have hsl:s.length≤((bodyI a++eightGo a.parent 8)).length+8:=by rw[hs,List.length_append,eightGo_len];omega
   refine⟨by rw[wrapi (n:=8 * i) (by omega)];omega,?_⟩
   refine⟨⟨Nat.le_refl _,fun j hj=>by match j,hj with | 0,_=>rfl⟩,?_⟩
   refine⟨⟨rfl,h0⟩,fun hinq elq ⟨g1q,_⟩ g2q=>?_,fun hgtq=>⟨by show (s.length+1) * 1≤140737488355328;omega,fun capq elq ⟨hcq,_⟩ g1q g2q=>?_⟩⟩
   ·rw[show s.length+1=(s++[(a.sum / 256 ^ i.toNat % 256)]).length by simp]
    refine⟨(_,s++[(a.sum / 256 ^ i.toNat % 256)],cp,elq),[],?_,⟨rfl,rfl⟩,kp_,kp_⟩
    dsimp only
    rw[wrapi (n:=i+1) (by omega)]
    refine⟨⟨⟨⟨by omega,by omega⟩,?_⟩,by simp;omega,el_snoc g0 g1q ?_⟩,by omega⟩
    ·rw[show (i+1).toNat=i.toNat+1 by omega,hs,List.append_assoc]
     rfl
    ·rw[g2q 0 (by omega)]
     exact congrArg (fun z=>[Value.int .u8 z]) (byteFP hh2 hi.1 hlt2)
   ·rw[show s.length+1=(s++[(a.sum / 256 ^ i.toNat % 256)]).length by simp] at hcq ⊢
    refine⟨(_,s++[(a.sum / 256 ^ i.toNat % 256)],capq,elq),[(4,6)],?_,⟨rfl,rfl⟩,kp_,kp_⟩
    dsimp only
    rw[wrapi (n:=i+1) (by omega)]
    refine⟨⟨⟨⟨by omega,by omega⟩,?_⟩,hcq,el_snoc g0 g1q ?_⟩,by omega⟩
    ·rw[show (i+1).toNat=i.toNat+1 by omega,hs,List.append_assoc]
     rfl
    ·rw[g2q 0 (by omega)]
     exact congrArg (fun z=>[Value.int .u8 z]) (byteFP hh2 hi.1 hlt2)
  ·have hge2:¬ i<8:=of_decide_eq_false hge
   obtain rfl:i=8:=by omega
   rw[show Int.toNat 8=8 from rfl] at hs
   subst hs
   exact⟨4,cp,el,rfl,rfl,h0,g0⟩
def ctBytesP:CT:=fun vs mem nx K=>∃ a v,vs=[atlV a v]∧SrcR mem 2 pairC (0,0) a.routes v∧(AtlIn a∧0≤a.parent∧0≤a.sum)∧∀ cp el,(bytesA a).length≤cp→(∀ k,k<(bytesA a).length→el k=u8C ((bytesA a).getD k 0))→K (slc nx (bytesA a).length cp) ((nx,.row (1000000+5) 1 cp el)::mem) (nx+1)
theorem bytesPOk:CSound Tryz.prog 14 ctBytesP:=⟨by kernel_rfl,fun {C ρ fr mem nx a w vs K} hc hs hv=>by
 obtain⟨a,v,rfl,hsrc,⟨ha,hh1,hh2⟩,hK⟩:=hc
 obtain⟨A,cap,e0,hr⟩:=hs.srcR (enc:=pairC) (sz:=2) (fun _=>rfl) (by omega) hsrc
 have e1:([atlV a v].map (den ρ)).toArray=([atlV a (slc 0 a.routes.length cap)].map (den fun _=>⟨A,2,a.routes.length,false,noSub⟩)).toArray:=by
  obtain⟨A',cp,rfl⟩:=hsrc.slice
  have dI:∀ k n,den1 ρ (.int k n)=.int k n:=fun _ _=>rfl
  simp only[List.map_cons,List.map_nil,atlV,den,den2]
  simp[dI,den1_slice e0]
  simp[den1,dS_whole]
 rw[e1]
 refine (row1_calls (enc:=pairC) (sz:=2) (fun _=>rfl) (by omega) pairC_plain (0,0) ttBok byPFok Tryz.func14 rfl (D:=byPD) (by kernel_rfl) (vs:=[atlV a (slc 0 a.routes.length cap)]) rfl A a.routes w hr (fun v hv=>by
  simp only[List.mem_cons,List.not_mem_nil,or_false] at hv
  subst hv
  intro u hu
  simp at hu
  rcases hu with rfl | rfl | rfl | rfl | rfl<;>first | trivial | exact⟨Nat.zero_lt_one,rfl⟩) (bytesP_sx cap a ha hh1 hh2)).mono ?_
 rintro e w' ⟨v,mem',nx',ρ',rfl,hR,hv,hm',hb⟩
 exact hs.ownBytes hb hm' rfl hR hK⟩
/-! Read: plain facts for the walks;atlas.takeFixed,atlas.Read -/
theorem drop_at {l:List Int} {a j:Nat}:(l.drop a).getD j 0=l.getD (a+j) 0:=by
 rw[List.getD_eq_getElem?_getD,List.getD_eq_getElem?_getD,List.getElem?_drop]
theorem take_n {l:List Int} (hl:byteL l) (h:(takeI l).2.2=0):∃ n:Nat,(takeI l).2.1=(n:Int)∧1≤n∧n≤l.length:=by
 obtain⟨m,h1,h2,h3,-,-⟩:=take_ok hl (v:=(takeI l).1) (n:=(takeI l).2.1) (by rw[← h])
 exact⟨m,h1,h2,h3⟩
theorem rdN_next {b:List Int} {m p:Nat} {xs:List Int} (h:rdN b m=(0,xs,p)) (h2:(takeI (b.drop p)).2.2=0):rdN b (m+1)=(0,xs++[(takeI (b.drop p)).1],p+(takeI (b.drop p)).2.1.toNat):=by
 have:=rdN_step (b:=b) (m:=m) (by rw[h]) (by rw[h];exact h2)
 rwa[h] at this
theorem rdN_fail {b:List Int} {m p:Nat} {xs:List Int} (h:rdN b m=(0,xs,p)) (h2:¬ (takeI (b.drop p)).2.2=0):rdN b (m+1)=((takeI (b.drop p)).2.2,[],0):=by
 have:=rdN_bad (b:=b) (m:=m) (by rw[h]) (by rw[h];exact h2)
 rwa[h] at this
theorem read_fail {l:List Int} {m:Nat} {e:Int} (h:rdN l (m+1)=(e,[],0)) (he:¬ e=0) (hm:m<3):readA l=(aZ0,0,e):=by
 have:=rdN_bads he h (3-(m+1))
 rw[show m+1+(3-(m+1))=3 by omega] at this
 unfold readA
 rw[this]
 exact if_neg he
theorem read_corrupt {l:List Int} {x0 x1 x2:Int} {p:Nat} (h:rdN l 3=(0,[x0,x1,x2],p)) (hx:x2<0∨x2>32):readA l=(aZ0,0,18):=by
 unfold readA
 rw[h]
 exact if_pos hx
theorem readA_mid {l:List Int} {x0 x1 x2:Int} {p:Nat} (h3:rdN l 3=(0,[x0,x1,x2],p)) (h0:¬ x2<0) (h1:¬ x2>32):readA l=(match rdN l (3+2 * x2.toNat) with
   | (e,xs,p)=>if e=0 then (if l.length<p+16 then (aZ0,0,17) else (⟨xs.getD 0 0,xs.getD 1 0,rtO xs x2.toNat,bk (l.drop p) 8,bk (l.drop (p+8)) 8⟩,(p:Int)+16,0)) else (aZ0,0,e)):=by
 unfold readA
 rw[h3]
 exact (if_pos rfl).trans (if_neg (show ¬ (x2<0∨32<x2) by omega))
theorem read_fail2 {l:List Int} {x0 x1 x2:Int} {p:Nat} (h3:rdN l 3=(0,[x0,x1,x2],p)) (h0:0≤x2) (h1:x2≤32) {m:Nat} {e:Int} (h:rdN l (m+1)=(e,[],0)) (he:¬ e=0) (hm:m<3+2 * x2.toNat):readA l=(aZ0,0,e):=by
 have:=rdN_bads he h (3+2 * x2.toNat-(m+1))
 rw[show m+1+(3+2 * x2.toNat-(m+1))=3+2 * x2.toNat by omega] at this
 rw[readA_mid h3 (by omega) (by omega),this]
 exact if_neg he
theorem read_short {l:List Int} {x0 x1 x2:Int} {p p2:Nat} {xs:List Int} (h3:rdN l 3=(0,[x0,x1,x2],p)) (h0:¬ x2<0) (h1:¬ x2>32) (h:rdN l (3+2 * x2.toNat)=(0,xs,p2)) (hs:l.length<p2+16):readA l=(aZ0,0,17):=by
 rw[readA_mid h3 h0 h1,h]
 exact (if_pos rfl).trans (if_pos hs)
theorem read_done {l:List Int} {x0 x1 x2:Int} {p p2:Nat} {xs:List Int} (h3:rdN l 3=(0,[x0,x1,x2],p)) (h0:¬ x2<0) (h1:¬ x2>32) (h:rdN l (3+2 * x2.toNat)=(0,xs,p2)) (hs:¬ l.length<p2+16):readA l=(⟨x0,x1,rtO xs x2.toNat,bk (l.drop p2) 8,bk (l.drop (p2+8)) 8⟩,(p2:Int)+16,0):=by
 obtain⟨-,t,ht⟩:=rdN_take (b:=l) (2 * x2.toNat) (m:=3) (by rw[h])
 rw[h3,h] at ht
 dsimp only at ht
 rw[readA_mid h3 h0 h1,h]
 refine (if_pos rfl).trans ((if_neg hs).trans ?_)
 rw[← ht]
 rfl
theorem rtO_len (xs:List Int) (c:Nat):(rtO xs c).length=c:=by simp[rtO]
theorem rtO_get {xs:List Int} {c k:Nat} (h:k<c):(rtO xs c).getD k (0,0)=(xs.getD (3+2 * k) 0,xs.getD (4+2 * k) 0):=by
 unfold rtO
 rw[List.getD_eq_getElem?_getD,List.getElem?_map,List.getElem?_range h]
 rfl
theorem getD_left {xs ys:List Int} {j:Nat} (h:j<xs.length):(xs++ys).getD j 0=xs.getD j 0:=by
 rw[List.getD_eq_getElem?_getD,List.getD_eq_getElem?_getD,List.getElem?_append_left h]
theorem getD_two0 {xs:List Int} {v0 v1:Int} {k:Nat} (h:3+2 * k=xs.length):(xs++[v0,v1]).getD (3+2 * k) 0=v0:=by
 rw[h,List.getD_eq_getElem?_getD,List.getElem?_append_right (Nat.le_refl _),Nat.sub_self]
 rfl
theorem getD_two1 {xs:List Int} {v0 v1:Int} {k:Nat} (h:3+2 * k=xs.length):(xs++[v0,v1]).getD (4+2 * k) 0=v1:=by
 rw[show 4+2 * k=xs.length+1 by omega,List.getD_eq_getElem?_getD,List.getElem?_append_right (by omega),Nat.add_sub_cancel_left]
 rfl
def capOk (v:Value):Prop:=match v with | .slice _ n c=>n≤c | _=>False
def RdPost (l:List Int) (v:Value) (mem:AM):Prop:=∃ v2,v=.tuple #[atlV (readA l).1 v2,.int .i64 (readA l).2.1,.int .i64 (readA l).2.2]∧SlR mem 2 pairC (0,0) (readA l).1.routes v2
theorem RdPost.bad {l:List Int} {e:Int} {mem:AM} (h:readA l=(aZ0,0,e)):RdPost l (.tuple #[.agg #[zi,zi,zs0,.int .u64 0,.int .u64 0],.int .i64 0,.int .i64 e]) mem:=⟨zs0,by rw[h];rfl,.inl ⟨rfl,by rw[h];rfl⟩⟩
theorem RdPost.ok {l:List Int} {v v2:Value} {a:Atl} {n n':Int} {mem:AM} (h:readA l=(a,n,0)) (hv:v=.tuple #[atlV a v2,.int .i64 n',.int .i64 0]) (hn:n'=n) (hs:SlR mem 2 pairC (0,0) a.routes v2):RdPost l v mem:=⟨v2,by rw[h,hv,hn],by rw[h];exact hs⟩
theorem fixP_step {l:List Int} (hl:byteL l) {i n:Int} (h0:0≤i) (h1:i<8) (hn:n=bk l i.toNat):IntKind.u64.wrap ((BitVec.ofInt IntKind.u64.bits n ||| BitVec.ofInt IntKind.u64.bits (IntKind.u64.wrap (IntKind.u64.wrap (l.getD i.toNat 0) * 2 ^ min (IntKind.i64.wrap (8 * i)).toNat IntKind.u64.bits))).toNat:Int)=bk l (i.toNat+1):=by
 subst hn
 have hx:=hl.at_ i.toNat
 have hb:=bk_bd hl i.toNat
 have e:(IntKind.i64.wrap (8 * i)).toNat=8 * i.toNat:=by rw[wrapi (by omega)];omega
 have e2:min (8 * i.toNat) IntKind.u64.bits=8 * i.toNat:=by show min (8 * i.toNat) 64=_;omega
 have p8:(256:Int) ^ i.toNat=2 ^ (8 * i.toNat):=by rw[Int.pow_mul];rfl
 rw[e,e2,wu64 (n:=l.getD i.toNat 0) (by omega)]
 rw[p8] at hb
 have h3:l.getD i.toNat 0 * 2 ^ (8 * i.toNat)<18446744073709551616:=by
  have e1:(2:Int) ^ (8 * i.toNat)≤2 ^ 56:=by
   have:(2:Nat) ^ (8 * i.toNat)≤2 ^ 56:=Nat.pow_le_pow_right (by decide) (by omega)
   exact_mod_cast this
  have e2:(2:Int) ^ 56=72057594037927936:=by decide
  have e3:l.getD i.toNat 0 * 2 ^ (8 * i.toNat)≤255 * 2 ^ (8 * i.toNat):=Int.mul_le_mul_of_nonneg_right (by omega) (by omega)
  omega
 have h0:0≤l.getD i.toNat 0 * 2 ^ (8 * i.toNat):=Int.mul_nonneg (by omega) (by omega)
 rw[wu64 (n:=l.getD i.toNat 0 * 2 ^ (8 * i.toNat)) ⟨h0,h3⟩,bk,p8]
 exact or_add hb (by omega) h3 (by omega)
abbrev fxPD:List (Nat×DQ):=[(2000003,{ k:=0,L:=[0],sl:=[0] })]
set_option maxRecDepth 100000 in
set_option maxHeartbeats 4000000 in
theorem fixP_sx (cap:Nat) (l:List Int) (hl:byteL l) (h8:8≤l.length) :
  sx ttB [] fxPD (bodyOf Tryz.f25) (argF 0 [slc 0 l.length cap]) [(0,rowOfL 3 1 u8C 0 l)] 1 (endx ttB Tryz.f25.results.toList fun v _ _=>v=.int .u64 (bk l 8)):=by
 refine⟨Int×Int,fun q=>match q with | (i,n)=>[(5,.int .i64 i),(3,.int .u64 n)],fun _=>[],fun q=>match q with | (i,n)=>(0≤i∧i≤8)∧n=bk l i.toNat,fun q=>match q with | (i,n)=>(8-i).toNat,⟨(0,0),⟨by omega,rfl⟩,kp_,kp_⟩,?_⟩
 rintro⟨i,n⟩ ⟨hi,hn⟩
 refine⟨⟨rfl,rfl⟩,?_⟩
 refine⟨fun hlt=>?_,fun hge=>?_⟩
 ·have hlt2:i<8:=of_decide_eq_true hlt
  refine⟨⟨Nat.le_refl _,hi.1,by omega⟩,?_⟩
  refine⟨by rw[wrapi (n:=8 * i) (by omega)];omega,?_⟩
  refine⟨(IntKind.i64.wrap (i+1),_),?_,kp_,kp_⟩
  dsimp only
  rw[wrapi (n:=i+1) (by omega)]
  refine⟨⟨by omega,?_⟩,by omega⟩
  rw[show (i+1).toNat=i.toNat+1 by omega]
  exact fixP_step hl hi.1 hlt2 hn
 ·have hge2:¬ i<8:=of_decide_eq_false hge
  obtain rfl:i=8:=by omega
  rw[hn]
  rfl
theorem fixP_calls (A:Option Addr) (cap:Nat) (l:List Int) (w:World) (hl:byteL l) (h8:8≤l.length) (hr:Rd w (·<w.heap.size) A (flat u8C l)):Calls Tryz.prog 25 #[.slice A l.length cap] w fun e w'=>e=.returned (.int .u64 (bk l 8))∧Below w.heap.size w w':=by
 have:=row1_calls (enc:=u8C) (sz:=1) (fun _=>rfl) (by omega) u8C_plain 0 ttBok fti_nil Tryz.func25 rfl (D:=fxPD) (by kernel_rfl) (vs:=[slc 0 l.length cap]) rfl A l w hr (fun v hv=>by
  simp only[List.mem_cons,List.not_mem_nil,or_false] at hv
  subst hv
  exact⟨Nat.zero_lt_one,rfl⟩) (fixP_sx cap l hl h8)
 have e0:([slc 0 l.length cap].map (den fun _=>⟨A,1,l.length,false,noSub⟩)).toArray=#[.slice A l.length cap]:=by simp[den,den2,den1,dA_whole,dS_whole]
 rw[e0] at this
 refine this.mono ?_
 rintro e w' ⟨v,mem',nx',ρ',rfl,rfl,hv,hm',hb⟩
 exact⟨rfl,hb⟩
def ctFixP:CT:=fun vs mem nx K=>∃ v l,vs=[v]∧SrcR mem 1 u8C 0 (l:List Int) v∧(byteL l∧8≤l.length)∧K (.int .u64 (bk l 8)) mem nx
theorem fixPOk:CSound Tryz.prog 25 ctFixP:=⟨by kernel_rfl,fun {C ρ fr mem nx a w vs K} hc hs hv=>by
 obtain⟨v,l,rfl,hsrc,⟨hl,h8⟩,hK⟩:=hc
 obtain⟨A,cap,e0,hr⟩:=hs.srcR (enc:=u8C) (sz:=1) (fun _=>rfl) (by omega) hsrc
 have e1:([v].map (den ρ)).toArray=#[.slice A l.length cap]:=by rw[List.map_cons,e0];rfl
 rw[e1]
 refine (fixP_calls A cap l w hl h8 hr).mono ?_
 rintro e w' ⟨rfl,hb⟩
 exact⟨_,mem,nx,ρ,rfl,hK,hs.later hb,trivial,ExtS.refl _ _⟩⟩
def rdPF:FT:=[(24,ctTakeP),(25,ctFixP),(23,ctInl ttB [(24,ctTakeP)] [] Tryz.f23 (bodyOf Tryz.f23))]
def rdPD:List (Nat×DQ):=[(9000000,{ k:=0,L:=[23] }),(2000005,{ k:=0,L:=[0,1,2,6],sl:=[1,2,5,6,7,8,19,20] }),(2000015,{ k:=0,L:=[0,1,2,3,4],sl:=[1,2,5,6,7,8,45] }),(2000018,{ k:=0,L:=[0,1,2,3,4,8],sl:=[1,2,5,6,7,8,45,46,59,60] }),
 (17,{ k:=13,L:=[3,7],pre:=[(0,false),(1,false),(2,false),(3,false),(4,false),(5,false),(6,false),(7,false),(8,false),(9,false),(12,false),(10,true),(11,false)] }),
 (27,{ k:=8,L:=[1,3,5],g:=some (.fix 0 (.fix 1 (.fix 4 (.fix 5 (.fix 6 (.two 2 (.two 3 (.act 7 .fin) 7 (.act 3 .fin)) 7 (.act 2 (.act 3 .fin)))))))) }),(28,{ k:=4,L:=[3,5],pre:=[(0,false),(1,false),(2,false),(3,true)] })]
theorem rdPFok:FTokI Tryz.prog rdPF (inlOf rdPD):=fti_cons (takePOk.i _) (fti_cons (fixPOk.i _) (fti_cons (inl_ok ttBok (fti_cons (takePOk.i _) fti_nil) mixed (by kernel_rfl) Tryz.func23 rfl (by kernel_rfl) (by decide)) fti_nil))
set_option maxRecDepth 100000 in
set_option maxHeartbeats 4000000 in
theorem readP_sx (cap:Nat) (l:List Int) (hl:byteL l) (hc:l.length≤cap) (hm:l.length≤1000000) :
  sx ttB rdPF rdPD (bodyOf Tryz.f10) (argF 0 [slc 0 l.length cap]) [(0,rowOfL 3 1 u8C 0 l)] 1 (endx ttB Tryz.f10.results.toList fun v mem' _=>RdPost l v mem'):=by
 refine⟨Int×Int×Int×Int×Int,fun q=>match q with | (i,x0,x1,x2,p)=>[(21,.int .i64 i)],fun q=>match q with | (i,x0,x1,x2,p)=>[(3,.box 26 [.int .i64 x0,.int .i64 x1,zs0,.int .u64 0,.int .u64 0]),(4,.box 3 [.int .i64 x2]),(5,.box 3 [.int .i64 p])],fun q=>match q with | (i,x0,x1,x2,p)=>(0≤i∧i≤3)∧(0≤p∧p≤l.length)∧rdN l i.toNat=(0,[x0,x1,x2].take i.toNat,p.toNat),fun q=>match q with | (i,x0,x1,x2,p)=>(3-i).toNat,⟨(0,0,0,0,0),⟨by omega,by omega,rfl⟩,kp_,kp_⟩,?_⟩
 rintro⟨i,x0,x1,x2,p⟩ ⟨hi,hp,hr⟩
 refine⟨⟨rfl,rfl⟩,?_⟩
 refine⟨fun hlt=>?_,fun hge=>?_⟩
 ·have hlt2:i<3:=of_decide_eq_true hlt
  rcases (show i=0∨i=1∨i=2 by omega) with q | q | q
  ·subst q
   refine⟨⟨hp.1,hp.2,by omega⟩,l.length-p.toNat,fun j=>u8C ((l.drop p.toNat).getD j 0),⟨by omega,by omega,fun j hj=>congrArg u8C drop_at⟩,?_⟩
   refine⟨_,l.drop p.toNat,rfl,.inr (.inl ⟨7,_,by rw[List.length_drop];rfl,⟨_,_,_,rfl,by rw[List.length_drop];exact Nat.le_refl _,fun k hk=>rfl⟩⟩),hl.drop _,?_⟩
   refine⟨fun hne=>?_,fun heq=>?_⟩
   ·have hne2:¬ (takeI (l.drop p.toNat)).2.2=0:=by simpa using hne
    exact RdPost.bad (read_fail (m:=0) (rdN_fail hr hne2) hne2 (by omega))
   ·have heq2:(takeI (l.drop p.toNat)).2.2=0:=by simpa using heq
    obtain⟨n,hn,hn1,hn2⟩:=take_n (hl.drop p.toNat) heq2
    rw[List.length_drop] at hn2
    rw[hn]
    have hw:IntKind.i64.wrap (p+(n:Int))=p+n:=wrapi (by omega)
    refine⟨(1,(takeI (l.drop p.toNat)).1,x1,x2,p+n),?_,kp_,(by refine⟨?_,?_,?_,?_⟩;exact rfl;exact rfl;(show some (ABlk.box _ [Value.int .i64 (IntKind.i64.wrap (p+(n:Int)))])=some (ABlk.box _ [Value.int .i64 (p+n)]);rw[hw]);repeat (first | exact trivial | refine⟨rfl,?_⟩))⟩
    dsimp only
    have hs:=rdN_next hr heq2
    rw[hn] at hs
    exact⟨⟨by omega,by omega,hs.trans (Prod.ext rfl (Prod.ext rfl (by show p.toNat+((n:Nat):Int).toNat=(p+n).toNat;omega)))⟩,by omega⟩
  ·subst q
   refine⟨⟨hp.1,hp.2,by omega⟩,l.length-p.toNat,fun j=>u8C ((l.drop p.toNat).getD j 0),⟨by omega,by omega,fun j hj=>congrArg u8C drop_at⟩,?_⟩
   refine⟨_,l.drop p.toNat,rfl,.inr (.inl ⟨7,_,by rw[List.length_drop];rfl,⟨_,_,_,rfl,by rw[List.length_drop];exact Nat.le_refl _,fun k hk=>rfl⟩⟩),hl.drop _,?_⟩
   refine⟨fun hne=>?_,fun heq=>?_⟩
   ·have hne2:¬ (takeI (l.drop p.toNat)).2.2=0:=by simpa using hne
    exact RdPost.bad (read_fail (m:=1) (rdN_fail hr hne2) hne2 (by omega))
   ·have heq2:(takeI (l.drop p.toNat)).2.2=0:=by simpa using heq
    obtain⟨n,hn,hn1,hn2⟩:=take_n (hl.drop p.toNat) heq2
    rw[List.length_drop] at hn2
    rw[hn]
    have hw:IntKind.i64.wrap (p+(n:Int))=p+n:=wrapi (by omega)
    refine⟨(2,x0,(takeI (l.drop p.toNat)).1,x2,p+n),?_,kp_,(by refine⟨?_,?_,?_,?_⟩;exact rfl;exact rfl;(show some (ABlk.box _ [Value.int .i64 (IntKind.i64.wrap (p+(n:Int)))])=some (ABlk.box _ [Value.int .i64 (p+n)]);rw[hw]);repeat (first | exact trivial | refine⟨rfl,?_⟩))⟩
    dsimp only
    have hs:=rdN_next hr heq2
    rw[hn] at hs
    exact⟨⟨by omega,by omega,hs.trans (Prod.ext rfl (Prod.ext rfl (by show p.toNat+((n:Nat):Int).toNat=(p+n).toNat;omega)))⟩,by omega⟩
  ·subst q
   refine⟨⟨hp.1,hp.2,by omega⟩,l.length-p.toNat,fun j=>u8C ((l.drop p.toNat).getD j 0),⟨by omega,by omega,fun j hj=>congrArg u8C drop_at⟩,?_⟩
   refine⟨_,l.drop p.toNat,rfl,.inr (.inl ⟨7,_,by rw[List.length_drop];rfl,⟨_,_,_,rfl,by rw[List.length_drop];exact Nat.le_refl _,fun k hk=>rfl⟩⟩),hl.drop _,?_⟩
   refine⟨fun hne=>?_,fun heq=>?_⟩
   ·have hne2:¬ (takeI (l.drop p.toNat)).2.2=0:=by simpa using hne
    exact RdPost.bad (read_fail (m:=2) (rdN_fail hr hne2) hne2 (by omega))
   ·have heq2:(takeI (l.drop p.toNat)).2.2=0:=by simpa using heq
    obtain⟨n,hn,hn1,hn2⟩:=take_n (hl.drop p.toNat) heq2
    rw[List.length_drop] at hn2
    rw[hn]
    have hw:IntKind.i64.wrap (p+(n:Int))=p+n:=wrapi (by omega)
    refine⟨(3,x0,x1,(takeI (l.drop p.toNat)).1,p+n),?_,kp_,(by refine⟨?_,?_,?_,?_⟩;exact rfl;exact rfl;(show some (ABlk.box _ [Value.int .i64 (IntKind.i64.wrap (p+(n:Int)))])=some (ABlk.box _ [Value.int .i64 (p+n)]);rw[hw]);repeat (first | exact trivial | refine⟨rfl,?_⟩))⟩
    dsimp only
    have hs:=rdN_next hr heq2
    rw[hn] at hs
    exact⟨⟨by omega,by omega,hs.trans (Prod.ext rfl (Prod.ext rfl (by show p.toNat+((n:Nat):Int).toNat=(p+n).toNat;omega)))⟩,by omega⟩
 ·have hge2:¬ i<3:=of_decide_eq_false hge
  obtain rfl:i=3:=by omega
  replace hr:rdN l 3=(0,[x0,x1,x2],p.toNat):=hr
  have hr3:=hr
  refine⟨fun q1=>?_,fun q1=>?_⟩
  ·have q1b:x2<0:=of_decide_eq_true q1
   repeat (first | refine⟨fun _=>?_,fun h=>Bool.noConfusion h⟩ | refine⟨fun h=>Bool.noConfusion h,fun _=>?_⟩ | fail)
   exact RdPost.bad (read_corrupt hr (.inl q1b))
  ·have q1b:¬ x2<0:=of_decide_eq_false q1
   refine⟨fun q2=>?_,fun q2=>?_⟩
   ·have q2b:x2>32:=of_decide_eq_true q2
    repeat (first | refine⟨fun _=>?_,fun h=>Bool.noConfusion h⟩ | refine⟨fun h=>Bool.noConfusion h,fun _=>?_⟩ | fail)
    exact RdPost.bad (read_corrupt hr (.inr q2b))
   ·have q2b:¬ x2>32:=of_decide_eq_false q2
    repeat (first | refine⟨fun _=>?_,fun h=>Bool.noConfusion h⟩ | refine⟨fun h=>Bool.noConfusion h,fun _=>?_⟩ | fail)
    refine⟨⟨Int.le_refl _,by omega,by show _ * (16:Int)≤_;omega⟩,?_⟩
    refine⟨Int×List Int×Int×(Nat→List Value),fun q=>match q with | (i,xs,p,el)=>[(46,.int .i64 i)],fun q=>match q with | (i,xs,p,el)=>[(5,.box 3 [.int .i64 p]),(7,.row (1000000+68) 2 x2.toNat el)],fun q=>match q with | (i,xs,p,el)=>(0≤i∧i≤x2)∧(0≤p∧p≤l.length)∧rdN l (3+2 * i.toNat)=(0,xs,p.toNat)∧((∀ k,k<i.toNat→el k=pairC (xs.getD (3+2 * k) 0,xs.getD (4+2 * k) 0))∧∀ k,i.toNat≤k→el k=[zi,zi]),fun q=>match q with | (i,xs,p,el)=>(x2-i).toNat,⟨(0,[x0,x1,x2],p,fun _=>[zi,zi]),⟨by omega,hp,hr,fun k hk=>absurd hk (by omega),fun k hk=>rfl⟩,kp_,kp_⟩,?_⟩
    clear hp hr
    rintro⟨i,xs,p,el⟩ ⟨hi,hp,hr,hel,hez⟩
    refine⟨⟨rfl,rfl⟩,?_⟩
    refine⟨fun hlt=>?_,fun hge=>?_⟩
    ·have hlt2:i<(x2.toNat:Int):=of_decide_eq_true hlt
     have hxl:=(rdN_ok hl (m:=3+2 * i.toNat) (by rw[hr])).1
     rw[hr] at hxl
     dsimp only at hxl
     refine⟨⟨Nat.le_refl _,hi.1,by omega⟩,?_⟩
     refine⟨⟨Nat.le_refl _,hi.1,by omega⟩,?_⟩
     refine⟨kp_,?_⟩
     refine⟨Int×Int×Int×Int×(Nat→List Value),fun q=>match q with | (j,v0,v1,p,el2)=>[(61,.int .i64 j)],fun q=>match q with | (j,v0,v1,p,el2)=>[(5,.box 3 [.int .i64 p]),(7,.row (1000000+68) 2 x2.toNat el2)],fun q=>match q with | (j,v0,v1,p,el2)=>(0≤j∧j≤2)∧(0≤p∧p≤l.length)∧rdN l (3+2 * i.toNat+j.toNat)=(0,xs++[v0,v1].take j.toNat,p.toNat)∧(∀ k,k≠i.toNat→el2 k=el k)∧el2 i.toNat=[.int .i64 v0,.int .i64 v1],fun q=>match q with | (j,v0,v1,p,el2)=>(2-j).toNat,⟨(0,0,0,p,el),⟨by omega,hp,hr.trans (by simp),fun k hk=>rfl,hez _ (Nat.le_refl _)⟩,kp_,kp_⟩,?_⟩
     clear hp hr
     rintro⟨j,v0,v1,p,el2⟩ ⟨hj,hp,hr,he2,hei⟩
     refine⟨⟨rfl,rfl⟩,?_⟩
     refine⟨fun hlt3=>?_,fun hge3=>?_⟩
     ·have hlt4:j<2:=of_decide_eq_true hlt3
      rcases (show j=0∨j=1 by omega) with q | q
      ·subst q
       refine⟨⟨hp.1,hp.2,by omega⟩,l.length-p.toNat,fun j=>u8C ((l.drop p.toNat).getD j 0),⟨by omega,by omega,fun j hj=>congrArg u8C drop_at⟩,?_⟩
       refine⟨_,l.drop p.toNat,rfl,.inr (.inl ⟨9,_,by rw[List.length_drop];rfl,⟨_,_,_,rfl,by rw[List.length_drop];exact Nat.le_refl _,fun k hk=>rfl⟩⟩),hl.drop _,?_⟩
       refine⟨[.int .i64 (takeI (l.drop p.toNat)).1,.int .i64 v1],by rw[hei];rfl,?_⟩
       refine⟨fun hne=>?_,fun heq=>?_⟩
       ·have hne2:¬ (takeI (l.drop p.toNat)).2.2=0:=by simpa using hne
        exact RdPost.bad (read_fail2 hr3 (by omega) (by omega) (m:=3+2 * i.toNat+0) (rdN_fail hr hne2) hne2 (by omega))
       ·have heq2:(takeI (l.drop p.toNat)).2.2=0:=by simpa using heq
        obtain⟨n,hn,hn1,hn2⟩:=take_n (hl.drop p.toNat) heq2
        rw[List.length_drop] at hn2
        rw[hn]
        have hw:IntKind.i64.wrap (p+(n:Int))=p+n:=wrapi (by omega)
        refine⟨(1,(takeI (l.drop p.toNat)).1,v1,p+n,_),?_,kp_,(by refine⟨?_,?_,?_⟩;(show some (ABlk.box _ [Value.int .i64 (IntKind.i64.wrap (p+(n:Int)))])=some (ABlk.box _ [Value.int .i64 (p+n)]);rw[hw]);exact rfl;repeat (first | exact trivial | refine⟨rfl,?_⟩))⟩
        dsimp only
        have hs:=rdN_next hr heq2
        rw[hn] at hs
        refine⟨⟨by omega,by omega,hs.trans (Prod.ext rfl (Prod.ext (by simp) (by show p.toNat+((n:Nat):Int).toNat=(p+n).toNat;omega))),fun k hk=>?_,setEl_same _ _ _⟩,by omega⟩
        rw[setEl_ne hk]
        exact he2 k hk
      ·subst q
       refine⟨⟨hp.1,hp.2,by omega⟩,l.length-p.toNat,fun j=>u8C ((l.drop p.toNat).getD j 0),⟨by omega,by omega,fun j hj=>congrArg u8C drop_at⟩,?_⟩
       refine⟨_,l.drop p.toNat,rfl,.inr (.inl ⟨9,_,by rw[List.length_drop];rfl,⟨_,_,_,rfl,by rw[List.length_drop];exact Nat.le_refl _,fun k hk=>rfl⟩⟩),hl.drop _,?_⟩
       refine⟨[.int .i64 v0,.int .i64 (takeI (l.drop p.toNat)).1],by rw[hei];rfl,?_⟩
       refine⟨fun hne=>?_,fun heq=>?_⟩
       ·have hne2:¬ (takeI (l.drop p.toNat)).2.2=0:=by simpa using hne
        exact RdPost.bad (read_fail2 hr3 (by omega) (by omega) (m:=3+2 * i.toNat+1) (rdN_fail hr hne2) hne2 (by omega))
       ·have heq2:(takeI (l.drop p.toNat)).2.2=0:=by simpa using heq
        obtain⟨n,hn,hn1,hn2⟩:=take_n (hl.drop p.toNat) heq2
        rw[List.length_drop] at hn2
        rw[hn]
        have hw:IntKind.i64.wrap (p+(n:Int))=p+n:=wrapi (by omega)
        refine⟨(2,v0,(takeI (l.drop p.toNat)).1,p+n,_),?_,kp_,(by refine⟨?_,?_,?_⟩;(show some (ABlk.box _ [Value.int .i64 (IntKind.i64.wrap (p+(n:Int)))])=some (ABlk.box _ [Value.int .i64 (p+n)]);rw[hw]);exact rfl;repeat (first | exact trivial | refine⟨rfl,?_⟩))⟩
        dsimp only
        have hs:=rdN_next hr heq2
        rw[hn] at hs
        refine⟨⟨by omega,by omega,hs.trans (Prod.ext rfl (Prod.ext (by simp) (by show p.toNat+((n:Nat):Int).toNat=(p+n).toNat;omega))),fun k hk=>?_,setEl_same _ _ _⟩,by omega⟩
        rw[setEl_ne hk]
        exact he2 k hk
     ·have hge4:¬ j<2:=of_decide_eq_false hge3
      obtain rfl:j=2:=by omega
      refine⟨(IntKind.i64.wrap (i+1),xs++[v0,v1],p,el2),?_,kp_,kp_⟩
      dsimp only
      rw[wrapi (n:=i+1) (by omega)]
      have e1:(i+1).toNat=i.toNat+1:=by omega
      refine⟨⟨by omega,hp,?_,fun k hk=>?_,fun k hk=>?_⟩,by omega⟩
      ·rw[e1,show 3+2 * (i.toNat+1)=3+2 * i.toNat+2 by omega]
       exact hr
      ·by_cases hki:k=i.toNat
       ·subst hki
        rw[hei,getD_two0 hxl.symm,getD_two1 hxl.symm]
        rfl
       ·rw[he2 k hki,hel k (by omega),getD_left (by omega),getD_left (by omega)]
      ·rw[he2 k (by omega)]
       exact hez k (by omega)
    ·have hge2:¬ i<(x2.toNat:Int):=of_decide_eq_false hge
     obtain rfl:i=x2:=by omega
     refine⟨fun hs=>?_,fun hs=>?_⟩
     ·have hs2:IntKind.i64.wrap ((l.length:Int)-p)<16:=of_decide_eq_true hs
      have hwl:IntKind.i64.wrap ((l.length:Int)-p)=l.length-p:=wrapi (by omega)
      exact RdPost.bad (read_short hr3 q1b q2b hr (by omega))
     ·have hs2:¬ IntKind.i64.wrap ((l.length:Int)-p)<16:=of_decide_eq_false hs
      have hwl:IntKind.i64.wrap ((l.length:Int)-p)=l.length-p:=wrapi (by omega)
      have hw8:IntKind.i64.wrap (p+8)=p+8:=wrapi (by omega)
      have hw9:(IntKind.i64.wrap (p+8)).toNat=p.toNat+8:=by rw[hw8];omega
      refine⟨?_,?_⟩
      ·refine⟨⟨hp.1,hp.2,by omega⟩,l.length-p.toNat,fun j=>u8C ((l.drop p.toNat).getD j 0),⟨by omega,by omega,fun j hj=>congrArg u8C drop_at⟩,?_⟩
       refine⟨kp_,?_⟩
       refine⟨?_,?_⟩
       ·refine⟨_,l.drop p.toNat,rfl,.inr (.inl ⟨8,_,by rw[List.length_drop];rfl,⟨_,_,_,rfl,by rw[List.length_drop];exact Nat.le_refl _,fun k hk=>rfl⟩⟩),⟨hl.drop _,by rw[List.length_drop];omega⟩,?_⟩
        refine⟨kp_,?_⟩
        refine⟨⟨by rw[hw8];omega,by rw[hw8];omega,by omega⟩,l.length-(p.toNat+8),fun j=>u8C ((l.drop (p.toNat+8)).getD j 0),⟨by rw[hw9];omega,by rw[hw9];omega,fun j hj=>by rw[hw9];exact congrArg u8C drop_at⟩,?_⟩
        refine⟨kp_,?_⟩
        refine⟨_,l.drop (p.toNat+8),rfl,.inr (.inl ⟨9,_,by rw[hw9,List.length_drop];rfl,⟨_,_,_,rfl,by rw[List.length_drop];exact Nat.le_refl _,fun k hk=>rfl⟩⟩),⟨hl.drop _,by rw[List.length_drop];omega⟩,?_⟩
        refine⟨kp_,?_⟩
        refine RdPost.ok (read_done hr3 q1b q2b hr (by omega)) rfl (by show IntKind.i64.wrap (p+16)=_;rw[wrapi (by omega)];omega) (.inr ⟨7,_,_,_,el,congrArg (fun n=>slc 7 n _) (rtO_len _ _).symm,rfl,rfl,by rw[rtO_len];exact Nat.le_refl _,fun k hk=>?_⟩)
        rw[rtO_len] at hk
        rw[rtO_get hk]
        exact hel k hk
       ·refine⟨⟨by rw[hw8];omega,by rw[hw8];omega,by omega⟩,l.length-(p.toNat+8),fun j=>u8C ((l.drop (p.toNat+8)).getD j 0),⟨by rw[hw9];omega,by rw[hw9];omega,fun j hj=>by rw[hw9];exact congrArg u8C drop_at⟩,?_⟩
        refine⟨kp_,?_⟩
        refine⟨_,l.drop p.toNat,rfl,.inr (.inl ⟨8,_,by rw[List.length_drop];rfl,⟨_,_,_,rfl,by rw[List.length_drop];exact Nat.le_refl _,fun k hk=>rfl⟩⟩),⟨hl.drop _,by rw[List.length_drop];omega⟩,?_⟩
        refine⟨kp_,?_⟩
        refine⟨_,l.drop (p.toNat+8),rfl,.inr (.inl ⟨9,_,by rw[hw9,List.length_drop];rfl,⟨_,_,_,rfl,by rw[List.length_drop];exact Nat.le_refl _,fun k hk=>rfl⟩⟩),⟨hl.drop _,by rw[List.length_drop];omega⟩,?_⟩
        refine⟨kp_,?_⟩
        refine RdPost.ok (read_done hr3 q1b q2b hr (by omega)) rfl (by show IntKind.i64.wrap (p+16)=_;rw[wrapi (by omega)];omega) (.inr ⟨7,_,_,_,el,congrArg (fun n=>slc 7 n _) (rtO_len _ _).symm,rfl,rfl,by rw[rtO_len];exact Nat.le_refl _,fun k hk=>?_⟩)
        rw[rtO_len] at hk
        rw[rtO_get hk]
        exact hel k hk
      ·refine⟨⟨by rw[hw8];omega,by rw[hw8];omega,by omega⟩,l.length-(p.toNat+8),fun j=>u8C ((l.drop (p.toNat+8)).getD j 0),⟨by rw[hw9];omega,by rw[hw9];omega,fun j hj=>by rw[hw9];exact congrArg u8C drop_at⟩,?_⟩
       refine⟨kp_,?_⟩
       refine⟨⟨hp.1,hp.2,by omega⟩,l.length-p.toNat,fun j=>u8C ((l.drop p.toNat).getD j 0),⟨by omega,by omega,fun j hj=>congrArg u8C drop_at⟩,?_⟩
       refine⟨kp_,?_⟩
       refine⟨_,l.drop p.toNat,rfl,.inr (.inl ⟨9,_,by rw[List.length_drop];rfl,⟨_,_,_,rfl,by rw[List.length_drop];exact Nat.le_refl _,fun k hk=>rfl⟩⟩),⟨hl.drop _,by rw[List.length_drop];omega⟩,?_⟩
       refine⟨kp_,?_⟩
       refine⟨_,l.drop (p.toNat+8),rfl,.inr (.inl ⟨8,_,by rw[hw9,List.length_drop];rfl,⟨_,_,_,rfl,by rw[List.length_drop];exact Nat.le_refl _,fun k hk=>rfl⟩⟩),⟨hl.drop _,by rw[List.length_drop];omega⟩,?_⟩
       refine⟨kp_,?_⟩
       refine RdPost.ok (read_done hr3 q1b q2b hr (by omega)) rfl (by show IntKind.i64.wrap (p+16)=_;rw[wrapi (by omega)];omega) (.inr ⟨7,_,_,_,el,congrArg (fun n=>slc 7 n _) (rtO_len _ _).symm,rfl,rfl,by rw[rtO_len];exact Nat.le_refl _,fun k hk=>?_⟩)
       rw[rtO_len] at hk
       rw[rtO_get hk]
       exact hel k hk
theorem readP_calls (A:Option Addr) (cap:Nat) (l:List Int) (w:World) (hl:byteL l) (hc:l.length≤cap) (hm:l.length≤1000000) (hr:Rd w (·<w.heap.size) A (flat u8C l)):Calls Tryz.prog 10 #[.slice A l.length cap] w fun e w'=>∃ A2 cp,e=.returned (.tuple #[.agg #[.int .i64 (readA l).1.number,.int .i64 (readA l).1.tick,.slice A2 (readA l).1.routes.length cp,.int .u64 (readA l).1.parent,.int .u64 (readA l).1.sum],.int .i64 (readA l).2.1,.int .i64 (readA l).2.2])∧Rd w' (fun b=>w.heap.size≤b∧b<w'.heap.size) A2 (flat pairC (readA l).1.routes)∧Below w.heap.size w w':=by
 have:=row1_calls (enc:=u8C) (sz:=1) (fun _=>rfl) (by omega) u8C_plain 0 ttBok rdPFok Tryz.func10 rfl (D:=rdPD) (by kernel_rfl) (vs:=[slc 0 l.length cap]) rfl A l w hr (fun v hv=>by
  simp only[List.mem_cons,List.not_mem_nil,or_false] at hv
  subst hv
  exact⟨Nat.zero_lt_one,rfl⟩) (readP_sx cap l hl hc hm)
 have e0:([slc 0 l.length cap].map (den fun _=>⟨A,1,l.length,false,noSub⟩)).toArray=#[.slice A l.length cap]:=by simp[den,den2,den1,dA_whole,dS_whole]
 rw[e0] at this
 refine this.mono ?_
 rintro e w' ⟨v,mem',nx',ρ',rfl,⟨v2,rfl,hR⟩,hv,hm',hb⟩
 obtain⟨A2,cp,e1,hr2⟩:=hm'.slR (enc:=pairC) (sz:=2) (fun _=>rfl) (by omega) hR
 refine⟨A2,cp,?_,hr2,hb⟩
 congr 1
 have dI:∀ k n,den1 ρ' (.int k n)=.int k n:=fun _ _=>rfl
 simp only[den,den2]
 simp[e1,dI,den2]
def ctReadP:CT:=fun vs mem nx K=>∃ v l r,vs=[v]∧SrcR mem 1 u8C 0 (l:List Int) v∧capOk v∧(byteL l∧l.length≤1000000)∧readA l=r∧∀ cp,K (.tuple #[atlV r.1 (slc nx r.1.routes.length cp),.int .i64 r.2.1,.int .i64 r.2.2]) ((nx,rowOfL 500000 2 pairC (0,0) r.1.routes)::mem) (nx+1)
theorem readPOk:CSound Tryz.prog 10 ctReadP:=⟨by kernel_rfl,fun {C ρ fr mem nx a w vs K} hc hs hv=>by
 obtain⟨v,l,r,rfl,hsrc,hcap,⟨hl,hm⟩,rfl,hK⟩:=hc
 obtain⟨A,cap,e0,hr⟩:=hs.srcR (enc:=u8C) (sz:=1) (fun _=>rfl) (by omega) hsrc
 have hc2:l.length≤cap:=by
  obtain⟨A',cp,rfl⟩:=hsrc.slice
  have:=den1_slice e0
  simp only[capOk] at hcap
  have e2:cp=cap:=by cases A'<;>simp_all [den1]
  omega
 have e1:([v].map (den ρ)).toArray=#[.slice A l.length cap]:=by rw[List.map_cons,e0];rfl
 rw[e1]
 refine (readP_calls A cap l w hl hc2 hm hr).mono ?_
 rintro e w' ⟨A2,cp,rfl,hr2,hb⟩
 obtain⟨q1,-⟩:=(hs.later hb).addList hs.frB hs.rest.size (enc:=pairC) (sz:=2) (fun _=>rfl) (by omega) pairC_plain (0,0) (t:=500000) rfl hr2
 have q2:setPl ρ nx ⟨A2,2,(readA l).1.routes.length,false,noSub⟩ nx=⟨A2,2,(readA l).1.routes.length,false,noSub⟩:=setPl_same _ _ _
 refine⟨.tuple #[atlV (readA l).1 (slc nx (readA l).1.routes.length cp),.int .i64 (readA l).2.1,.int .i64 (readA l).2.2],_,_,_,?_,hK cp,q1,?_,fun i hi=>setPl_lt _ _ hi,by omega⟩
 ·simp[den,den2,den1,dA_whole,dS_whole,q2]
 ·intro u hu
  simp at hu
  rcases hu with rfl | rfl | rfl
  ·intro u hu
   simp at hu
   rcases hu with rfl | rfl | rfl | rfl | rfl<;>first | trivial | exact⟨Nat.lt_succ_self _,by rw[q2]⟩
  ·trivial
  ·trivial⟩
/-! ref01.SameBytes -/
theorem flat_u8 (l:List Int):flat u8C l=l.map (Value.int .u8):=by
 induction l with
 | nil=>rfl
 | cons a l ih=>simp only[flat,List.flatMap_cons] at ih ⊢;rw[ih];rfl
theorem conv_any {A:Option Addr} {c:Nat} {l:List Int} {w:World} (hr:Rd w (·<w.heap.size) A (flat u8C l)):(convert 27 9 (.slice A l.length c)).run Tryz.prog w=.ok (.string (strOfNums l)) w:=by
 by_cases h0:l=[]
 ·subst h0
  cases A with
  | none=>exact run_convert_bytes_nil w _ _ Tryz.underlying27 Tryz.underlying5 0 c _ Tryz.underlying9
  | some ad=>exact run_convert_bytes_back w _ _ _ ad c [] Tryz.underlying27 Tryz.underlying5 Tryz.underlying9 (fun j hj=>absurd hj (Nat.not_lt_zero _))
 ·obtain⟨b,o,hA,hlt,hc⟩:=hr (by cases l<;>simp_all [flat])
  subst hA
  refine run_convert_bytes_arg w _ _ Tryz.underlying27 Tryz.underlying5 b o l.length c l rfl (fun i hi=>?_) _ Tryz.underlying9
  refine hc i _ ?_
  rw[flat_u8,List.getElem?_map,List.getElem?_eq_getElem hi,List.getD_eq_getElem?_getD,List.getElem?_eq_getElem hi]
  rfl
theorem strs_eq {l r:List Int} (hl:byteL l) (hr:byteL r):((strOfNums l).toList==(strOfNums r).toList)=decide (l=r):=by
 have key:∀ l r:List Int,byteL l→byteL r→l.map (fun n=>UInt8.ofNat n.toNat)=r.map (fun n=>UInt8.ofNat n.toNat)→l=r:=by
  intro l
  induction l with
  | nil=>intro r _ _ h;cases r with | nil=>rfl | cons _ _=>simp at h
  | cons a l ih=>
   intro r hl hr h
   cases r with
   | nil=>simp at h
   | cons b r=>
    simp only[List.map_cons,List.cons.injEq] at h
    have ha:=hl a (by simp)
    have hb:=hr b (by simp)
    have h1:=congrArg UInt8.toNat h.1
    simp at h1
    have:=ih r (fun x hx=>hl x (by simp[hx])) (fun x hx=>hr x (by simp[hx])) h.2
    rw[this,show a=b by omega]
 rw[ByteArray.toList_eq,ByteArray.toList_eq,strOfNums_data,strOfNums_data]
 by_cases h:l=r
 ·subst h;simp
 ·rw[decide_eq_false h]
  exact beq_eq_false_iff_ne.2 fun q=>h (key l r hl hr q)
theorem sameB_any (A1 A2:Option Addr) (c1 c2:Nat) (l1 l2:List Int) (w:World) (hb1:byteL l1) (hb2:byteL l2) (hr1:Rd w (·<w.heap.size) A1 (flat u8C l1)) (hr2:Rd w (·<w.heap.size) A2 (flat u8C l2)) :
  Calls Tryz.prog 13 #[.slice A1 l1.length c1,.slice A2 l2.length c2] w fun e w'=>e=.returned (.bool (decide (l1=l2)))∧w'=w:=by
 have h1:=conv_any (c:=c1) hr1
 have h2:=conv_any (c:=c2) hr2
 have h3:=strs_eq hb1 hb2
 go_enter Tryz.func13,Tryz.ntmps13
 go_wp2
 go_ret
 exact⟨by rw[← h3];rfl,rfl⟩
def ctSameB:CT:=fun vs mem nx K=>∃ v1 v2 l1 l2,vs=[v1,v2]∧(SrcR mem 1 u8C 0 (l1:List Int) v1∧SrcR mem 1 u8C 0 (l2:List Int) v2)∧(byteL l1∧byteL l2)∧∀ b,(b=true↔l1=l2)→K (.bool b) mem nx
theorem sameBOk:CSound Tryz.prog 13 ctSameB:=⟨by kernel_rfl,fun {C ρ fr mem nx a w vs K} hc hs hv=>by
 obtain⟨v1,v2,l1,l2,rfl,⟨s1,s2⟩,⟨hb1,hb2⟩,hK⟩:=hc
 obtain⟨A1,c1,e1,hr1⟩:=hs.srcR (enc:=u8C) (sz:=1) (fun _=>rfl) (by omega) s1
 obtain⟨A2,c2,e2,hr2⟩:=hs.srcR (enc:=u8C) (sz:=1) (fun _=>rfl) (by omega) s2
 have e0:([v1,v2].map (den ρ)).toArray=#[.slice A1 l1.length c1,.slice A2 l2.length c2]:=by rw[List.map_cons,List.map_cons,e1,e2];rfl
 rw[e0]
 refine (sameB_any A1 A2 c1 c2 l1 l2 w hb1 hb2 hr1 hr2).mono ?_
 rintro e w' ⟨rfl,rfl⟩
 exact⟨_,mem,nx,ρ,rfl,hK _ decide_eq_true_iff,hs,trivial,ExtS.refl _ _⟩⟩
/-! ref15.Bytes -/
theorem body_pos (a:Atl):1≤(bodyI a).length:=by
 unfold bodyI intBy
 rw[encU]
 split<;>simp<;>omega
abbrev ctEightR:CT:=ctInl ttB [] [(3000003,{ k:=1000001,L:=[0,1],sl:=[1] })] Tryz.f21 (bodyOf Tryz.f21)
def byRF:FT:=[(22,ctBodyRO),(21,ctEightR)]
def byRD:List (Nat×DQ):=[(9000000,{ k:=0,L:=[21] }),(1,{ k:=7,L:=[1],pre:=[(0,false),(2,false),(3,false),(5,false),(6,false),(1,true),(4,true)] })]
theorem byRFok:FTokI Tryz.prog byRF (inlOf byRD):=fti_cons (bodyROOk.i _) (fti_cons (inl_ok ttBok fti_nil mixed (by kernel_rfl) Tryz.func21 rfl (by kernel_rfl) (by decide)) fti_nil)
set_option maxRecDepth 100000 in
set_option maxHeartbeats 4000000 in
theorem bytesR_sx (cap:Nat) (a:Atl) (ha:AtlIn a) (hh1:0≤a.parent) (hh2:0≤a.sum) :
  sx ttB byRF byRD (bodyOf Tryz.f8) (argF 0 [atlV a (slc 0 a.routes.length cap)]) [(0,rowOfL 3 2 pairC (0,0) a.routes)] 1 (endx ttB Tryz.f8.results.toList fun v mem' _=>SlB mem' (bytesA a) v):=by
 have hpos:=body_pos a
 have hlen:=ha.len
 have hbl:=body_len ha
 refine⟨a,_,rfl,.inr (.inl ⟨0,_,rfl,.list rfl⟩),ha,fun c1 x1 h0 g0=>?_⟩
 refine⟨kp_,?_⟩
 refine⟨⟨h0,fun k hk=>by rw[g0 k hk];rfl⟩,?_⟩
 refine⟨⟨rfl,Nat.le_refl _⟩,fun hin=>absurd hin (by show ¬ 0+(bodyI a).length≤0;omega),fun hgt=>⟨by show (0+(bodyI a).length) * 1≤140737488355328;omega,fun cap2 el2 ⟨hc2,_⟩ g1 g2=>?_⟩⟩
 rw[Nat.zero_add (bodyI a).length]
 have h5:(bodyI a).length≤cap2:=by omega
 have g5:∀ k,k<(bodyI a).length→el2 k=u8C ((bodyI a).getD k 0):=fun k hk=>by have:=g2 k hk;rw[Nat.zero_add] at this;rw[this];exact g0 k hk
 clear hc2 g1 g2 hgt h0 g0
 have h0:=h5
 have g0:=g5
 clear h5 g5
 refine⟨Int×List Int×Nat×(Nat→List Value),fun q=>match q with | (i,s,cp,el)=>[(6,.int .i64 i),(5,slc 5 s.length cp)],fun q=>match q with | (i,s,cp,el)=>[(5,.row (1000000+5) 1 cp el)],fun q=>match q with | (i,s,cp,el)=>((0≤i∧i≤8)∧s=bodyI a++eightGo a.parent i.toNat)∧s.length≤cp∧∀ k,k<s.length→el k=u8C (s.getD k 0),fun q=>match q with | (i,s,cp,el)=>(8-i).toNat,⟨(0,bodyI a,_,_),[(5,4)],⟨⟨by omega,(List.append_nil _).symm⟩,h0,g0⟩,⟨rfl,rfl⟩,kp_,kp_⟩,?_⟩
 clear h0 g0
 rintro⟨i,s,cp,el⟩ ⟨⟨hi,hs⟩,h0,g0⟩
 refine⟨⟨by decide,rfl,rfl⟩,?_⟩
 refine⟨fun hlt=>?_,fun hge=>?_⟩
 ·have hlt2:i<8:=of_decide_eq_true hlt
  have hsl:s.length≤(bodyI a).length+8:=by rw[hs,List.length_append,eightGo_len];omega
  refine⟨by rw[wrapi (n:=8 * i) (by omega),wu64 (by omega)];omega,?_⟩
  refine⟨⟨Nat.le_refl _,fun j hj=>by match j,hj with | 0,_=>rfl⟩,?_⟩
  refine⟨⟨rfl,h0⟩,fun hinq elq ⟨g1q,_⟩ g2q=>?_,fun hgtq=>⟨by show (s.length+1) * 1≤140737488355328;omega,fun capq elq ⟨hcq,_⟩ g1q g2q=>?_⟩⟩
  ·rw[show s.length+1=(s++[(a.parent / 256 ^ i.toNat % 256)]).length by simp]
   refine⟨(_,s++[(a.parent / 256 ^ i.toNat % 256)],cp,elq),[],?_,⟨rfl,rfl⟩,kp_,kp_⟩
   dsimp only
   rw[wrapi (n:=i+1) (by omega)]
   refine⟨⟨⟨⟨by omega,by omega⟩,?_⟩,by simp;omega,el_snoc g0 g1q ?_⟩,by omega⟩
   ·rw[show (i+1).toNat=i.toNat+1 by omega,hs,List.append_assoc]
    rfl
   ·rw[g2q 0 (by omega)]
    exact congrArg (fun z=>[Value.int .u8 z]) (byteFR hh1 hi.1 hlt2)
  ·rw[show s.length+1=(s++[(a.parent / 256 ^ i.toNat % 256)]).length by simp] at hcq ⊢
   refine⟨(_,s++[(a.parent / 256 ^ i.toNat % 256)],capq,elq),[(5,7)],?_,⟨rfl,rfl⟩,kp_,kp_⟩
   dsimp only
   rw[wrapi (n:=i+1) (by omega)]
   refine⟨⟨⟨⟨by omega,by omega⟩,?_⟩,hcq,el_snoc g0 g1q ?_⟩,by omega⟩
   ·rw[show (i+1).toNat=i.toNat+1 by omega,hs,List.append_assoc]
    rfl
   ·rw[g2q 0 (by omega)]
    exact congrArg (fun z=>[Value.int .u8 z]) (byteFR hh1 hi.1 hlt2)
 ·have hge2:¬ i<8:=of_decide_eq_false hge
  obtain rfl:i=8:=by omega
  rw[show Int.toNat 8=8 from rfl] at hs
  subst hs
  refine⟨kp_,?_⟩
  have hbl2:(bodyI a++eightGo a.parent 8).length=(bodyI a).length+8:=by rw[List.length_append,eightGo_len]
  refine⟨⟨h0,fun k hk=>by rw[g0 k hk];rfl⟩,?_⟩
  refine⟨⟨rfl,Nat.le_refl _⟩,fun hin=>absurd hin (by show ¬ 0+(bodyI a++eightGo a.parent 8).length≤0;omega),fun hgt=>⟨by show (0+(bodyI a++eightGo a.parent 8).length) * 1≤140737488355328;omega,fun cap2 el2 ⟨hc2,_⟩ g1 g2=>?_⟩⟩
  rw[Nat.zero_add (bodyI a++eightGo a.parent 8).length]
  have h5:(bodyI a++eightGo a.parent 8).length≤cap2:=by omega
  have g5:∀ k,k<(bodyI a++eightGo a.parent 8).length→el2 k=u8C ((bodyI a++eightGo a.parent 8).getD k 0):=fun k hk=>by have:=g2 k hk;rw[Nat.zero_add] at this;rw[this];exact g0 k hk
  clear hc2 g1 g2 hgt h0 g0
  have h0:=h5
  have g0:=g5
  clear h5 g5
  refine⟨Int×List Int×Nat×(Nat→List Value),fun q=>match q with | (i,s,cp,el)=>[(6,.int .i64 i),(5,slc 8 s.length cp)],fun q=>match q with | (i,s,cp,el)=>[(8,.row (1000000+5) 1 cp el)],fun q=>match q with | (i,s,cp,el)=>((0≤i∧i≤8)∧s=(bodyI a++eightGo a.parent 8)++eightGo a.sum i.toNat)∧s.length≤cp∧∀ k,k<s.length→el k=u8C (s.getD k 0),fun q=>match q with | (i,s,cp,el)=>(8-i).toNat,⟨(0,(bodyI a++eightGo a.parent 8),_,_),[(8,7)],⟨⟨by omega,(List.append_nil _).symm⟩,h0,g0⟩,⟨rfl,rfl⟩,kp_,kp_⟩,?_⟩
  clear h0 g0
  rintro⟨i,s,cp,el⟩ ⟨⟨hi,hs⟩,h0,g0⟩
  refine⟨⟨by decide,rfl,rfl⟩,?_⟩
  refine⟨fun hlt=>?_,fun hge=>?_⟩
  ·have hlt2:i<8:=of_decide_eq_true hlt
   have hsl:s.length≤((bodyI a++eightGo a.parent 8)).length+8:=by rw[hs,List.length_append,eightGo_len];omega
   refine⟨by rw[wrapi (n:=8 * i) (by omega),wu64 (by omega)];omega,?_⟩
   refine⟨⟨Nat.le_refl _,fun j hj=>by match j,hj with | 0,_=>rfl⟩,?_⟩
   refine⟨⟨rfl,h0⟩,fun hinq elq ⟨g1q,_⟩ g2q=>?_,fun hgtq=>⟨by show (s.length+1) * 1≤140737488355328;omega,fun capq elq ⟨hcq,_⟩ g1q g2q=>?_⟩⟩
   ·rw[show s.length+1=(s++[(a.sum / 256 ^ i.toNat % 256)]).length by simp]
    refine⟨(_,s++[(a.sum / 256 ^ i.toNat % 256)],cp,elq),[],?_,⟨rfl,rfl⟩,kp_,kp_⟩
    dsimp only
    rw[wrapi (n:=i+1) (by omega)]
    refine⟨⟨⟨⟨by omega,by omega⟩,?_⟩,by simp;omega,el_snoc g0 g1q ?_⟩,by omega⟩
    ·rw[show (i+1).toNat=i.toNat+1 by omega,hs,List.append_assoc]
     rfl
    ·rw[g2q 0 (by omega)]
     exact congrArg (fun z=>[Value.int .u8 z]) (byteFR hh2 hi.1 hlt2)
   ·rw[show s.length+1=(s++[(a.sum / 256 ^ i.toNat % 256)]).length by simp] at hcq ⊢
    refine⟨(_,s++[(a.sum / 256 ^ i.toNat % 256)],capq,elq),[(8,10)],?_,⟨rfl,rfl⟩,kp_,kp_⟩
    dsimp only
    rw[wrapi (n:=i+1) (by omega)]
    refine⟨⟨⟨⟨by omega,by omega⟩,?_⟩,hcq,el_snoc g0 g1q ?_⟩,by omega⟩
    ·rw[show (i+1).toNat=i.toNat+1 by omega,hs,List.append_assoc]
     rfl
    ·rw[g2q 0 (by omega)]
     exact congrArg (fun z=>[Value.int .u8 z]) (byteFR hh2 hi.1 hlt2)
  ·have hge2:¬ i<8:=of_decide_eq_false hge
   obtain rfl:i=8:=by omega
   rw[show Int.toNat 8=8 from rfl] at hs
   subst hs
   exact⟨8,cp,el,rfl,rfl,h0,g0⟩
def ctBytesR:CT:=fun vs mem nx K=>∃ a v,vs=[atlV a v]∧SrcR mem 2 pairC (0,0) a.routes v∧(AtlIn a∧0≤a.parent∧0≤a.sum)∧∀ cp el,(bytesA a).length≤cp→(∀ k,k<(bytesA a).length→el k=u8C ((bytesA a).getD k 0))→K (slc nx (bytesA a).length cp) ((nx,.row (1000000+5) 1 cp el)::mem) (nx+1)
theorem bytesROk:CSound Tryz.prog 8 ctBytesR:=⟨by kernel_rfl,fun {C ρ fr mem nx a w vs K} hc hs hv=>by
 obtain⟨a,v,rfl,hsrc,⟨ha,hh1,hh2⟩,hK⟩:=hc
 obtain⟨A,cap,e0,hr⟩:=hs.srcR (enc:=pairC) (sz:=2) (fun _=>rfl) (by omega) hsrc
 have e1:([atlV a v].map (den ρ)).toArray=([atlV a (slc 0 a.routes.length cap)].map (den fun _=>⟨A,2,a.routes.length,false,noSub⟩)).toArray:=by
  obtain⟨A',cp,rfl⟩:=hsrc.slice
  have dI:∀ k n,den1 ρ (.int k n)=.int k n:=fun _ _=>rfl
  simp only[List.map_cons,List.map_nil,atlV,den,den2]
  simp[dI,den1_slice e0]
  simp[den1,dS_whole]
 rw[e1]
 refine (row1_calls (enc:=pairC) (sz:=2) (fun _=>rfl) (by omega) pairC_plain (0,0) ttBok byRFok Tryz.func8 rfl (D:=byRD) (by kernel_rfl) (vs:=[atlV a (slc 0 a.routes.length cap)]) rfl A a.routes w hr (fun v hv=>by
  simp only[List.mem_cons,List.not_mem_nil,or_false] at hv
  subst hv
  intro u hu
  simp at hu
  rcases hu with rfl | rfl | rfl | rfl | rfl<;>first | trivial | exact⟨Nat.zero_lt_one,rfl⟩) (bytesR_sx cap a ha hh1 hh2)).mono ?_
 rintro e w' ⟨v,mem',nx',ρ',rfl,hR,hv,hm',hb⟩
 exact hs.ownBytes hb hm' rfl hR hK⟩
/-! A start with bytes;made;plain facts for the laws of Bytes and Read. -/
structure BA where
 a0:Option Addr
 a1:Option Addr
 a2:Option Addr
 a3:Option Addr
abbrev bM (l0 l1 lb:List Int) (lr:List (Int×Int)):AM:=[(0,intRow l0),(1,intRow l1),(2,rowOfL 3 1 u8C 0 lb),(3,rowOfL 3 2 pairC (0,0) lr)]
def bpl (a:BA) (l0 l1 lb:List Int) (lr:List (Int×Int)):Nat→Pl:=fun j=>match j with
 | 0=>⟨a.a0,1,l0.length,false,noSub⟩
 | 1=>⟨a.a1,1,l1.length,false,noSub⟩
 | 2=>⟨a.a2,1,lb.length,false,noSub⟩
 | _=>⟨a.a3,2,lr.length,false,noSub⟩
theorem by_calls {τ:TT} (hτ:TTok Tryz.prog τ) {f:FuncId} {fn:Func} {F:FT} {D:List (Nat×DQ)} (hF:FTokI Tryz.prog F (inlOf D)) (hf:(Tryz.prog).funcs[f]?=some fn) (hb:fn.body=some (bodyOf fn)) (hcode:codeB fn.ntmps D (bodyOf fn)=true) {vs:List Value} (hn:Nat.ble vs.length fn.ntmps=true)
  (a:BA) (l0 l1 lb:List Int) (lr:List (Int×Int)) (w:World) (r0:Rd w (·<w.heap.size) a.a0 (flat intC l0)) (r1:Rd w (·<w.heap.size) a.a1 (flat intC l1)) (r2:Rd w (·<w.heap.size) a.a2 (flat u8C lb)) (r3:Rd w (·<w.heap.size) a.a3 (flat pairC lr)) (hv:∀ v ∈ vs,okV (bpl a l0 l1 lb lr) 4 v) {R:Value→AM→Nat→Prop}
  (h:sx τ F D (bodyOf fn) (argF 0 vs) (bM l0 l1 lb lr) 4 (endx τ fn.results.toList R)) :
  Calls Tryz.prog f (vs.map (den (bpl a l0 l1 lb lr))).toArray w fun e w'=>∃ v mem' nx' ρ',e=.returned (den ρ' v)∧R v mem' nx'∧okV ρ' nx' v∧MemAt { w0:=w,bor:=[],n0:=4,ρ0:=bpl a l0 l1 lb lr,nt:=fn.ntmps } ρ' mem' nx' w'∧Below w.heap.size w w':=by
 have hm:MemAt { w0:=w,bor:=[],n0:=4,ρ0:=bpl a l0 l1 lb lr,nt:=fn.ntmps } (bpl a l0 l1 lb lr) (bM l0 l1 lb lr) 4 w:=MemAt.rows trivial
  ⟨⟨by decide,rfl,row_of_rd (enc:=intC) (sz:=1) (fun _=>rfl) (by omega) intC_plain 0 rfl r0 (fun b hb=>hb)⟩,⟨by decide,rfl,row_of_rd (enc:=intC) (sz:=1) (fun _=>rfl) (by omega) intC_plain 0 rfl r1 (fun b hb=>hb)⟩,⟨by decide,rfl,row_of_rd (enc:=u8C) (sz:=1) (fun _=>rfl) (by omega) u8C_plain 0 rfl r2 (fun b hb=>hb)⟩,⟨by decide,rfl,row_of_rd (enc:=pairC) (sz:=2) (fun _=>rfl) (by omega) pairC_plain (0,0) rfl r3 (fun b hb=>hb)⟩,trivial⟩
 refine (calls_sxI hτ hF mixed hf hb hcode (vs:=vs) hn ⟨rfl,rfl⟩ rfl hm hv h).mono ?_
 rintro e w' ⟨v,mem',nx',ρ',rfl,hR,hv',hm'⟩
 exact⟨v,mem',nx',ρ',rfl,hR,hv',hm',⟨hm'.rest.os,hm'.rest.tape,hm'.rest.output,hm'.rest.size,fun b hlt=>hm'.rest.block b hlt (by simp)⟩⟩
abbrev mdF2:FT:=[(18,ctConfig),(9,ctMod),(20,ctState),(19,ctMakeR)]
abbrev mdD2:List (Nat×DQ):=[(2,{ k:=11,L:=[0,1,2,3,4,5,6,7,8,9,10,11,12,13,14,15,16,17,18,19,20,21,22,23,24,25,26,27,28,29,30],pre:=[(0,false),(1,false),(2,false),(3,false),(4,false),(7,false),(8,false),(9,false),(5,true),(6,true),(10,true)] })]
abbrev ctMade2:CT:=ctInl ttA mdF2 mdD2 Tryz.f7 (bodyOf Tryz.f7)
theorem made2Ok {I:List Nat} (hI:I.contains 7=true):CSoundI Tryz.prog I 7 ctMade2:=inl_ok ttAok (fti_cons (configOk.i _) (fti_cons (modOk.i _) (fti_cons (stateOk.i _) (fti_cons (makeROk.i _) fti_nil)))) mixed (by kernel_rfl) Tryz.func7 rfl (by kernel_rfl) hI
theorem chain_bd (key parent:Int) (l:List Int):0≤chainI key parent l∧chainI key parent l<18446744073709551616:=by
 unfold chainI mixI
 show 0≤xorI _ _∧xorI _ _<_
 unfold xorI
 rw[wrapu64]
 omega
theorem el_app {l r:List Int} {el el4:Nat→List Value} (h:∀ k,k<l.length→el k=u8C (l.getD k 0)) (g1:∀ k,k<l.length→el4 k=el k) (g2:∀ k,k<r.length→el4 (l.length+k)=u8C (r.getD k 0)):∀ k,k<(l++r).length→el4 k=u8C ((l++r).getD k 0):=by
 intro k hk
 rw[List.length_append] at hk
 by_cases hkl:k<l.length
 ·rw[g1 k hkl,h k hkl,getD_left hkl]
 ·have:=g2 (k-l.length) (by omega)
  rw[show l.length+(k-l.length)=k by omega] at this
  rw[this,List.getD_eq_getElem?_getD (l:=l++r),List.getElem?_append_right (by omega),List.getD_eq_getElem?_getD]
theorem take_at {l:List Int} {m k:Nat} (h:k<m):(l.take m).getD k 0=l.getD k 0:=by
 rw[List.getD_eq_getElem?_getD,List.getD_eq_getElem?_getD,List.getElem?_take_of_lt h]
end Go.Proofs.YtbmlgcjoeeejbaaGreat
