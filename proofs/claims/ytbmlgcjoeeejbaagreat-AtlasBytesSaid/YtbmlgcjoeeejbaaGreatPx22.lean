import Derived.Test.YtbmlgcjoeeejbaaGreatPx21
namespace Go.Proofs.YtbmlgcjoeeejbaaGreat
open Go.RowKit
set_option linter.unusedSimpArgs false
set_option linter.unusedVariables false
/-! ref01.TakeInt,ref02.Back,ref15.Read -/
theorem tmod2 {v:Int} (h:0≤v):v.tmod 2=v % 2:=Int.tmod_eq_emod_of_nonneg h
theorem quo2 {v:Int} (h:0≤v∧v<18446744073709551616):IntKind.u64.wrap (v.tdiv 2)=v / 2:=by rw[Int.tdiv_eq_ediv_of_nonneg h.1,wu64 (by omega)]
theorem numR_even {v:Int} (h:0≤v∧v<18446744073709551616) (he:v % 2=0):IntKind.i64.wrap (IntKind.u64.wrap (v.tdiv 2))=numI v:=by rw[quo2 h,num_even h he]
theorem numR_odd {v:Int} (h:0≤v∧v<18446744073709551616) (he:¬ v % 2=0):IntKind.i64.wrap (IntKind.i64.wrap (0-IntKind.i64.wrap (IntKind.u64.wrap (v.tdiv 2)))-1)=numI v:=by
 rw[quo2 h,wrapi (n:=v / 2) (by omega),wrapi (n:=0-v / 2) (by omega),wrapi (by omega),numI,if_neg he]
 omega
theorem takeR_step {l:List Int} (hl:byteL l) {k u:Int} (hk:0≤k) (hk9:k≤9) (hu:u=tkU l k.toNat) (hx:l.getD k.toNat 0<128) (h:k≤8∨l.getD k.toNat 0≤1) :
  IntKind.u64.wrap ((BitVec.ofInt IntKind.u64.bits u ||| BitVec.ofInt IntKind.u64.bits (IntKind.u64.wrap (IntKind.u64.wrap (l.getD k.toNat 0) * 2 ^ min (IntKind.u64.wrap (IntKind.i64.wrap (7 * k))).toNat IntKind.u64.bits))).toNat:Int)=tkU l (k.toNat+1):=by
 subst hu
 have hx2:=hl.at_ k.toNat
 have e1:l.getD k.toNat 0=l.getD k.toNat 0 % 128:=by omega
 have e2:(IntKind.u64.wrap (IntKind.i64.wrap (7 * k))).toNat=7 * k.toNat:=by rw[wrapi (by omega),wu64 (by omega)];omega
 rw[e2,wu64 (n:=l.getD k.toNat 0) (by omega)]
 exact grp_step hl e1 (by omega)
theorem takeR2_step {l:List Int} (hl:byteL l) {k u:Int} (hk:0≤k) (hk9:k≤8) (hu:u=tkU l k.toNat) (hx:¬ l.getD k.toNat 0<128) :
  IntKind.u64.wrap ((BitVec.ofInt IntKind.u64.bits u ||| BitVec.ofInt IntKind.u64.bits (IntKind.u64.wrap (IntKind.u64.wrap (IntKind.u8.wrap (l.getD k.toNat 0-128)) * 2 ^ min (IntKind.u64.wrap (IntKind.i64.wrap (7 * k))).toNat IntKind.u64.bits))).toNat:Int)=tkU l (k.toNat+1):=by
 subst hu
 have hx2:=hl.at_ k.toNat
 have e1:l.getD k.toNat 0-128=l.getD k.toNat 0 % 128:=by omega
 have e2:(IntKind.u64.wrap (IntKind.i64.wrap (7 * k))).toNat=7 * k.toNat:=by rw[wrapi (by omega),wu64 (by omega)];omega
 rw[e2,wu8 (n:=l.getD k.toNat 0-128) (by omega),wu64 (n:=l.getD k.toNat 0-128) (by omega)]
 exact grp_step hl e1 (by omega)
def tkRD:List (Nat×DQ):=[(2000003,{ k:=0,L:=[0],sl:=[0] }),(1000011,{ k:=1,L:=[0],sl:=[0,6] })]
theorem tkRFok:FTokI Tryz.prog [] (inlOf tkRD):=fti_nil
abbrev tkRF:FT:=[]
set_option maxRecDepth 100000 in
set_option maxHeartbeats 4000000 in
theorem takeR_sx (cap:Nat) (l:List Int) (hl:byteL l) :
  sx ttB tkRF tkRD (bodyOf Tryz.f26) (argF 0 [slc 0 l.length cap]) [(0,rowOfL 3 1 u8C 0 l)] 1 (endx ttB Tryz.f26.results.toList fun v _ _=>v=tkV (takeI l)):=by
 refine⟨Int×Int,fun q=>match q with | (k,u)=>[(6,.int .i64 k),(5,.int .u64 u)],fun _=>[],fun q=>match q with | (k,u)=>(0≤k∧k≤10∧k≤l.length)∧(k≤9→u=tkU l k.toNat)∧tkGo l (10-k.toNat) k.toNat=takeI l,fun q=>match q with | (k,u)=>(10-k).toNat,⟨(0,0),⟨⟨by omega,by omega,by omega⟩,fun _=>rfl,rfl⟩,kp_,kp_⟩,?_⟩
 rintro⟨k,u⟩ ⟨hk,hu,hg⟩
 refine⟨⟨rfl,rfl⟩,?_⟩
 refine⟨fun hlt=>?_,fun hge=>?_⟩
 ·have hlt2:k<10:=of_decide_eq_true hlt
  have hf:10-k.toNat=(9-k.toNat)+1:=by omega
  rw[hf,tkGo] at hg
  have hx:=hl.at_ k.toNat
  refine⟨fun he=>?_,fun hne=>?_⟩
  ·have he2:k=(l.length:Int):=by simpa using he
   rw[if_pos (by omega)] at hg
   repeat (first | refine⟨fun _=>?_,fun h=>Bool.noConfusion h⟩ | refine⟨fun h=>Bool.noConfusion h,fun _=>?_⟩ | fail)
   exact congrArg tkV hg
  ·have hne2:¬ k=(l.length:Int):=by simpa using hne
   rw[if_neg (by omega)] at hg
   refine⟨⟨Nat.le_refl _,hk.1,by omega⟩,?_⟩
   refine⟨fun q0=>?_,fun q0=>?_⟩
   ·have q0b:(l.getD k.toNat 0)<128:=of_decide_eq_true q0
    refine⟨fun q1=>?_,fun q1=>?_⟩
    ·have q1b:k>0:=of_decide_eq_true q1
     refine⟨⟨Nat.le_refl _,hk.1,by omega⟩,?_⟩
     refine⟨fun q2=>?_,fun q2=>?_⟩
     ·have q2b:(l.getD k.toNat 0)=0:=by simpa using q2
      rw[if_pos (by omega)] at hg
      rw[if_pos (by omega)] at hg
      repeat (first | refine⟨fun _=>?_,fun h=>Bool.noConfusion h⟩ | refine⟨fun h=>Bool.noConfusion h,fun _=>?_⟩ | fail)
      exact congrArg tkV hg
     ·have q2b:¬ (l.getD k.toNat 0)=0:=by simpa using q2
      repeat (first | refine⟨fun _=>?_,fun h=>Bool.noConfusion h⟩ | refine⟨fun h=>Bool.noConfusion h,fun _=>?_⟩ | fail)
      refine⟨fun q3=>?_,fun q3=>?_⟩
      ·have q3b:k=9:=by simpa using q3
       refine⟨⟨Nat.le_refl _,hk.1,by omega⟩,?_⟩
       refine⟨fun q4=>?_,fun q4=>?_⟩
       ·have q4b:(l.getD k.toNat 0)>1:=of_decide_eq_true q4
        rw[if_pos (by omega)] at hg
        rw[if_pos (by omega)] at hg
        repeat (first | refine⟨fun _=>?_,fun h=>Bool.noConfusion h⟩ | refine⟨fun h=>Bool.noConfusion h,fun _=>?_⟩ | fail)
        exact congrArg tkV hg
       ·have q4b:¬ (l.getD k.toNat 0)>1:=of_decide_eq_false q4
        have h9:k≤8∨(l.getD k.toNat 0)≤1:=by omega
        rw[if_pos (by omega),if_neg (by omega)] at hg
        repeat (first | refine⟨fun _=>?_,fun h=>Bool.noConfusion h⟩ | refine⟨fun h=>Bool.noConfusion h,fun _=>?_⟩ | fail)
        refine⟨Int,fun v=>[(5,.int .u64 v)],fun _=>[],fun v=>v=tkU l (k.toNat+1),?_,?_⟩
        ·refine⟨⟨Nat.le_refl _,hk.1,by omega⟩,?_⟩
         refine⟨takeC hk.1 hlt2,?_⟩
         refine⟨_,takeR_step hl hk.1 (by omega) (hu (by omega)) q0b h9,kp_,kp_⟩
        ·rintro v hv
         refine⟨⟨by decide,rfl,rfl⟩,?_⟩
         have hvb:0≤v∧v<18446744073709551616:=by rw[hv];exact tkU_64 hl (by omega)
         refine⟨⟨rfl,by decide⟩,?_⟩
         refine⟨fun q=>?_,fun q=>?_⟩
         ·have q2:v % 2=0:=by have h3:(v % 2==0)=true:=(by rw[← tmod2 hvb.1];exact q);simpa using h3
          refine⟨⟨rfl,by decide⟩,?_⟩
          show tkV (_,_,_)=tkV (takeI l)
          rw[← hg]
          refine congrArg tkV (Prod.ext ?_ (Prod.ext ?_ rfl))
          ·exact (numR_even hvb q2).trans (congrArg numI hv)
          ·show IntKind.i64.wrap (k+1)=((k.toNat:Nat):Int)+1
           rw[wrapi (by omega)]
           omega
         ·have q2:¬ v % 2=0:=by have h3:(v % 2==0)=false:=(by rw[← tmod2 hvb.1];exact q);simpa using h3
          refine⟨⟨rfl,by decide⟩,?_⟩
          show tkV (_,_,_)=tkV (takeI l)
          rw[← hg]
          refine congrArg tkV (Prod.ext ?_ (Prod.ext ?_ rfl))
          ·exact (numR_odd hvb q2).trans (congrArg numI hv)
          ·show IntKind.i64.wrap (k+1)=((k.toNat:Nat):Int)+1
           rw[wrapi (by omega)]
           omega
      ·have q3b:¬ k=9:=by simpa using q3
       have h9:k≤8∨(l.getD k.toNat 0)≤1:=by omega
       rw[if_pos (by omega),if_neg (by omega)] at hg
       repeat (first | refine⟨fun _=>?_,fun h=>Bool.noConfusion h⟩ | refine⟨fun h=>Bool.noConfusion h,fun _=>?_⟩ | fail)
       refine⟨Int,fun v=>[(5,.int .u64 v)],fun _=>[],fun v=>v=tkU l (k.toNat+1),?_,?_⟩
       ·refine⟨⟨Nat.le_refl _,hk.1,by omega⟩,?_⟩
        refine⟨takeC hk.1 hlt2,?_⟩
        refine⟨_,takeR_step hl hk.1 (by omega) (hu (by omega)) q0b h9,kp_,kp_⟩
       ·rintro v hv
        refine⟨⟨by decide,rfl,rfl⟩,?_⟩
        have hvb:0≤v∧v<18446744073709551616:=by rw[hv];exact tkU_64 hl (by omega)
        refine⟨⟨rfl,by decide⟩,?_⟩
        refine⟨fun q=>?_,fun q=>?_⟩
        ·have q2:v % 2=0:=by have h3:(v % 2==0)=true:=(by rw[← tmod2 hvb.1];exact q);simpa using h3
         refine⟨⟨rfl,by decide⟩,?_⟩
         show tkV (_,_,_)=tkV (takeI l)
         rw[← hg]
         refine congrArg tkV (Prod.ext ?_ (Prod.ext ?_ rfl))
         ·exact (numR_even hvb q2).trans (congrArg numI hv)
         ·show IntKind.i64.wrap (k+1)=((k.toNat:Nat):Int)+1
          rw[wrapi (by omega)]
          omega
        ·have q2:¬ v % 2=0:=by have h3:(v % 2==0)=false:=(by rw[← tmod2 hvb.1];exact q);simpa using h3
         refine⟨⟨rfl,by decide⟩,?_⟩
         show tkV (_,_,_)=tkV (takeI l)
         rw[← hg]
         refine congrArg tkV (Prod.ext ?_ (Prod.ext ?_ rfl))
         ·exact (numR_odd hvb q2).trans (congrArg numI hv)
         ·show IntKind.i64.wrap (k+1)=((k.toNat:Nat):Int)+1
          rw[wrapi (by omega)]
          omega
    ·have q1b:¬ k>0:=of_decide_eq_false q1
     repeat (first | refine⟨fun _=>?_,fun h=>Bool.noConfusion h⟩ | refine⟨fun h=>Bool.noConfusion h,fun _=>?_⟩ | fail)
     refine⟨fun q3=>?_,fun q3=>?_⟩
     ·have q3b:k=9:=by simpa using q3
      refine⟨⟨Nat.le_refl _,hk.1,by omega⟩,?_⟩
      refine⟨fun q4=>?_,fun q4=>?_⟩
      ·have q4b:(l.getD k.toNat 0)>1:=of_decide_eq_true q4
       rw[if_pos (by omega)] at hg
       rw[if_pos (by omega)] at hg
       repeat (first | refine⟨fun _=>?_,fun h=>Bool.noConfusion h⟩ | refine⟨fun h=>Bool.noConfusion h,fun _=>?_⟩ | fail)
       exact congrArg tkV hg
      ·have q4b:¬ (l.getD k.toNat 0)>1:=of_decide_eq_false q4
       have h9:k≤8∨(l.getD k.toNat 0)≤1:=by omega
       rw[if_pos (by omega),if_neg (by omega)] at hg
       repeat (first | refine⟨fun _=>?_,fun h=>Bool.noConfusion h⟩ | refine⟨fun h=>Bool.noConfusion h,fun _=>?_⟩ | fail)
       refine⟨Int,fun v=>[(5,.int .u64 v)],fun _=>[],fun v=>v=tkU l (k.toNat+1),?_,?_⟩
       ·refine⟨⟨Nat.le_refl _,hk.1,by omega⟩,?_⟩
        refine⟨takeC hk.1 hlt2,?_⟩
        refine⟨_,takeR_step hl hk.1 (by omega) (hu (by omega)) q0b h9,kp_,kp_⟩
       ·rintro v hv
        refine⟨⟨by decide,rfl,rfl⟩,?_⟩
        have hvb:0≤v∧v<18446744073709551616:=by rw[hv];exact tkU_64 hl (by omega)
        refine⟨⟨rfl,by decide⟩,?_⟩
        refine⟨fun q=>?_,fun q=>?_⟩
        ·have q2:v % 2=0:=by have h3:(v % 2==0)=true:=(by rw[← tmod2 hvb.1];exact q);simpa using h3
         refine⟨⟨rfl,by decide⟩,?_⟩
         show tkV (_,_,_)=tkV (takeI l)
         rw[← hg]
         refine congrArg tkV (Prod.ext ?_ (Prod.ext ?_ rfl))
         ·exact (numR_even hvb q2).trans (congrArg numI hv)
         ·show IntKind.i64.wrap (k+1)=((k.toNat:Nat):Int)+1
          rw[wrapi (by omega)]
          omega
        ·have q2:¬ v % 2=0:=by have h3:(v % 2==0)=false:=(by rw[← tmod2 hvb.1];exact q);simpa using h3
         refine⟨⟨rfl,by decide⟩,?_⟩
         show tkV (_,_,_)=tkV (takeI l)
         rw[← hg]
         refine congrArg tkV (Prod.ext ?_ (Prod.ext ?_ rfl))
         ·exact (numR_odd hvb q2).trans (congrArg numI hv)
         ·show IntKind.i64.wrap (k+1)=((k.toNat:Nat):Int)+1
          rw[wrapi (by omega)]
          omega
     ·have q3b:¬ k=9:=by simpa using q3
      have h9:k≤8∨(l.getD k.toNat 0)≤1:=by omega
      rw[if_pos (by omega),if_neg (by omega)] at hg
      repeat (first | refine⟨fun _=>?_,fun h=>Bool.noConfusion h⟩ | refine⟨fun h=>Bool.noConfusion h,fun _=>?_⟩ | fail)
      refine⟨Int,fun v=>[(5,.int .u64 v)],fun _=>[],fun v=>v=tkU l (k.toNat+1),?_,?_⟩
      ·refine⟨⟨Nat.le_refl _,hk.1,by omega⟩,?_⟩
       refine⟨takeC hk.1 hlt2,?_⟩
       refine⟨_,takeR_step hl hk.1 (by omega) (hu (by omega)) q0b h9,kp_,kp_⟩
      ·rintro v hv
       refine⟨⟨by decide,rfl,rfl⟩,?_⟩
       have hvb:0≤v∧v<18446744073709551616:=by rw[hv];exact tkU_64 hl (by omega)
       refine⟨⟨rfl,by decide⟩,?_⟩
       refine⟨fun q=>?_,fun q=>?_⟩
       ·have q2:v % 2=0:=by have h3:(v % 2==0)=true:=(by rw[← tmod2 hvb.1];exact q);simpa using h3
        refine⟨⟨rfl,by decide⟩,?_⟩
        show tkV (_,_,_)=tkV (takeI l)
        rw[← hg]
        refine congrArg tkV (Prod.ext ?_ (Prod.ext ?_ rfl))
        ·exact (numR_even hvb q2).trans (congrArg numI hv)
        ·show IntKind.i64.wrap (k+1)=((k.toNat:Nat):Int)+1
         rw[wrapi (by omega)]
         omega
       ·have q2:¬ v % 2=0:=by have h3:(v % 2==0)=false:=(by rw[← tmod2 hvb.1];exact q);simpa using h3
        refine⟨⟨rfl,by decide⟩,?_⟩
        show tkV (_,_,_)=tkV (takeI l)
        rw[← hg]
        refine congrArg tkV (Prod.ext ?_ (Prod.ext ?_ rfl))
        ·exact (numR_odd hvb q2).trans (congrArg numI hv)
        ·show IntKind.i64.wrap (k+1)=((k.toNat:Nat):Int)+1
         rw[wrapi (by omega)]
         omega
   ·have q0b:¬ (l.getD k.toNat 0)<128:=of_decide_eq_false q0
    rw[if_neg (by omega)] at hg
    refine⟨⟨Nat.le_refl _,hk.1,by omega⟩,?_⟩
    refine⟨takeC hk.1 hlt2,?_⟩
    refine⟨(IntKind.i64.wrap (k+1),_),?_,kp_,kp_⟩
    rw[wrapi (n:=k+1) (by omega)]
    dsimp only
    rw[show (k+1).toNat=k.toNat+1 by omega]
    refine⟨⟨⟨by omega,by omega,by omega⟩,fun h9=>takeR2_step hl hk.1 (by omega) (hu (by omega)) q0b,?_⟩,by omega⟩
    rw[show 10-(k.toNat+1)=9-k.toNat by omega]
    exact hg
 ·have hge2:¬ k<10:=of_decide_eq_false hge
  obtain rfl:k=10:=by omega
  exact congrArg tkV hg
theorem takeR_calls (A:Option Addr) (cap:Nat) (l:List Int) (w:World) (hl:byteL l) (hr:Rd w (·<w.heap.size) A (flat u8C l)):Calls Tryz.prog 26 #[.slice A l.length cap] w fun e w'=>e=.returned (tkV (takeI l))∧Below w.heap.size w w':=by
 have:=row1_calls (enc:=u8C) (sz:=1) (fun _=>rfl) (by omega) u8C_plain 0 ttBok tkRFok Tryz.func26 rfl (D:=tkRD) (by kernel_rfl) (vs:=[slc 0 l.length cap]) rfl A l w hr (fun v hv=>by
  simp only[List.mem_cons,List.not_mem_nil,or_false] at hv
  subst hv
  exact⟨Nat.zero_lt_one,rfl⟩) (takeR_sx cap l hl)
 have e0:([slc 0 l.length cap].map (den fun _=>⟨A,1,l.length,false,noSub⟩)).toArray=#[.slice A l.length cap]:=by simp[den,den2,den1,dA_whole,dS_whole]
 rw[e0] at this
 refine this.mono ?_
 rintro e w' ⟨v,mem',nx',ρ',rfl,rfl,hv,hm',hb⟩
 exact⟨by rw[den_tk],hb⟩
def ctTakeR:CT:=fun vs mem nx K=>∃ v l,vs=[v]∧SrcR mem 1 u8C 0 (l:List Int) v∧byteL l∧K (tkV (takeI l)) mem nx
theorem takeROk:CSound Tryz.prog 26 ctTakeR:=⟨by kernel_rfl,fun {C ρ fr mem nx a w vs K} hc hs hv=>by
 obtain⟨v,l,rfl,hsrc,hl,hK⟩:=hc
 obtain⟨A,cap,e0,hr⟩:=hs.srcR (enc:=u8C) (sz:=1) (fun _=>rfl) (by omega) hsrc
 have e1:([v].map (den ρ)).toArray=#[.slice A l.length cap]:=by rw[List.map_cons,e0];rfl
 rw[e1]
 refine (takeR_calls A cap l w hl hr).mono ?_
 rintro e w' ⟨rfl,hb⟩
 exact⟨tkV (takeI l),mem,nx,ρ,by rw[den_tk],hK,hs.later hb,tkV_ok _,ExtS.refl _ _⟩⟩
theorem fixR_step {l:List Int} (hl:byteL l) {i n:Int} (h0:0≤i) (h1:i<8) (hn:n=bk l i.toNat):IntKind.u64.wrap ((BitVec.ofInt IntKind.u64.bits n ||| BitVec.ofInt IntKind.u64.bits (IntKind.u64.wrap (IntKind.u64.wrap (l.getD i.toNat 0) * 2 ^ min (IntKind.u64.wrap (IntKind.i64.wrap (8 * i))).toNat IntKind.u64.bits))).toNat:Int)=bk l (i.toNat+1):=by
 have e:IntKind.u64.wrap (IntKind.i64.wrap (8 * i))=IntKind.i64.wrap (8 * i):=by rw[wrapi (n:=8 * i) (by omega),wu64 (by omega)]
 rw[e]
 exact fixP_step hl h0 h1 hn
abbrev fxRD:List (Nat×DQ):=[(2000003,{ k:=0,L:=[0],sl:=[0] })]
set_option maxRecDepth 100000 in
set_option maxHeartbeats 4000000 in
theorem fixR_sx (cap:Nat) (l:List Int) (hl:byteL l) (h8:8≤l.length) :
  sx ttB [] fxRD (bodyOf Tryz.f27) (argF 0 [slc 0 l.length cap]) [(0,rowOfL 3 1 u8C 0 l)] 1 (endx ttB Tryz.f27.results.toList fun v _ _=>v=.int .u64 (bk l 8)):=by
 refine⟨Int×Int,fun q=>match q with | (i,n)=>[(4,.int .i64 i),(3,.int .u64 n)],fun _=>[],fun q=>match q with | (i,n)=>(0≤i∧i≤8)∧n=bk l i.toNat,fun q=>match q with | (i,n)=>(8-i).toNat,⟨(0,0),⟨by omega,rfl⟩,kp_,kp_⟩,?_⟩
 rintro⟨i,n⟩ ⟨hi,hn⟩
 refine⟨⟨rfl,rfl⟩,?_⟩
 refine⟨fun hlt=>?_,fun hge=>?_⟩
 ·have hlt2:i<8:=of_decide_eq_true hlt
  refine⟨fun _=>?_,fun q=>absurd (of_decide_eq_false q) (by omega)⟩
  refine⟨⟨Nat.le_refl _,hi.1,by omega⟩,?_⟩
  refine⟨by rw[wrapi (n:=8 * i) (by omega),wu64 (by omega)];omega,?_⟩
  refine⟨(IntKind.i64.wrap (i+1),_),?_,kp_,kp_⟩
  dsimp only
  rw[wrapi (n:=i+1) (by omega)]
  refine⟨⟨by omega,?_⟩,by omega⟩
  rw[show (i+1).toNat=i.toNat+1 by omega]
  exact fixR_step hl hi.1 hlt2 hn
 ·repeat (first | refine⟨fun _=>?_,fun h=>Bool.noConfusion h⟩ | refine⟨fun h=>Bool.noConfusion h,fun _=>?_⟩ | fail)
  have hge2:¬ i<8:=of_decide_eq_false hge
  obtain rfl:i=8:=by omega
  rw[hn]
  rfl
theorem fixR_calls (A:Option Addr) (cap:Nat) (l:List Int) (w:World) (hl:byteL l) (h8:8≤l.length) (hr:Rd w (·<w.heap.size) A (flat u8C l)):Calls Tryz.prog 27 #[.slice A l.length cap] w fun e w'=>e=.returned (.int .u64 (bk l 8))∧Below w.heap.size w w':=by
 have:=row1_calls (enc:=u8C) (sz:=1) (fun _=>rfl) (by omega) u8C_plain 0 ttBok fti_nil Tryz.func27 rfl (D:=fxRD) (by kernel_rfl) (vs:=[slc 0 l.length cap]) rfl A l w hr (fun v hv=>by
  simp only[List.mem_cons,List.not_mem_nil,or_false] at hv
  subst hv
  exact⟨Nat.zero_lt_one,rfl⟩) (fixR_sx cap l hl h8)
 have e0:([slc 0 l.length cap].map (den fun _=>⟨A,1,l.length,false,noSub⟩)).toArray=#[.slice A l.length cap]:=by simp[den,den2,den1,dA_whole,dS_whole]
 rw[e0] at this
 refine this.mono ?_
 rintro e w' ⟨v,mem',nx',ρ',rfl,rfl,hv,hm',hb⟩
 exact⟨rfl,hb⟩
def ctFixR:CT:=fun vs mem nx K=>∃ v l r,vs=[v]∧SrcR mem 1 u8C 0 (l:List Int) v∧(byteL l∧8≤l.length)∧bk l 8=r∧K (.int .u64 r) mem nx
theorem fixROk:CSound Tryz.prog 27 ctFixR:=⟨by kernel_rfl,fun {C ρ fr mem nx a w vs K} hc hs hv=>by
 obtain⟨v,l,r,rfl,hsrc,⟨hl,h8⟩,rfl,hK⟩:=hc
 obtain⟨A,cap,e0,hr⟩:=hs.srcR (enc:=u8C) (sz:=1) (fun _=>rfl) (by omega) hsrc
 have e1:([v].map (den ρ)).toArray=#[.slice A l.length cap]:=by rw[List.map_cons,e0];rfl
 rw[e1]
 refine (fixR_calls A cap l w hl h8 hr).mono ?_
 rintro e w' ⟨rfl,hb⟩
 exact⟨_,mem,nx,ρ,rfl,hK,hs.later hb,trivial,ExtS.refl _ _⟩⟩
theorem read_preG {l xs:List Int} {p:Nat} (h:rdN l xs.length=(0,xs,p)) (h3:3≤xs.length):∃ p3,rdN l 3=(0,[xs.getD 0 0,xs.getD 1 0,xs.getD 2 0],p3):=by
 obtain⟨q1,t,ht⟩:=rdN_take (b:=l) (xs.length-3) (m:=3) (by rw[show 3+(xs.length-3)=xs.length by omega,h])
 rw[show 3+(xs.length-3)=xs.length by omega,h] at ht
 dsimp only at ht
 refine⟨(rdN l 3).2.2,Prod.ext q1 (Prod.ext ?_ rfl)⟩
 have hl3:(rdN l 3).2.1.length=3:=by
  have key:∀ m,(rdN l m).1=0→(rdN l m).2.1.length=m:=by
   intro m
   induction m with
   | zero=>intro _;rfl
   | succ m ih=>
    intro hm
    obtain⟨h1,-,h2,-⟩:=rdN_pre hm
    rw[h2,List.length_append,ih h1];rfl
  exact key 3 q1
 show (rdN l 3).2.1=_
 rw[← ht]
 match hh:(rdN l 3).2.1,hl3 with
 | [a,b,c],_=>rfl
theorem read_failG {l xs:List Int} {p:Nat} {e:Int} (h:rdN l xs.length=(0,xs,p)) (hc:xs.length<3∨(3≤xs.length∧0≤xs.getD 2 0∧xs.getD 2 0≤32∧xs.length<3+2 * (xs.getD 2 0).toNat)) (hf:rdN l (xs.length+1)=(e,[],0)) (he:¬ e=0):readA l=(aZ0,0,e):=by
 rcases hc with hc | ⟨h3,h0,h1,h2⟩
 ·exact read_fail hf he hc
 ·obtain⟨p3,hp⟩:=read_preG h h3
  exact read_fail2 hp h0 h1 hf he h2
theorem read_corruptG {l xs:List Int} {p:Nat} {n:Int} (h:rdN l (xs.length+1)=(0,xs++[n],p)) (hl:xs.length+1=3) (hn:n<0∨n>32):readA l=(aZ0,0,18):=by
 rw[hl] at h
 match xs,hl with
 | [a,b],_=>exact read_corrupt h hn
theorem read_shortG {l xs:List Int} {p:Nat} (h:rdN l xs.length=(0,xs,p)) (h3:0≤xs.getD 2 0∧xs.getD 2 0≤32∧xs.length≤3+2 * (xs.getD 2 0).toNat) (hx:xs.length=3+2 * (xs.getD 2 0).toNat) (hs:l.length<p+16):readA l=(aZ0,0,17):=by
 obtain⟨p3,hp⟩:=read_preG h (by omega)
 rw[hx] at h
 exact read_short hp (by omega) (by omega) h hs
theorem read_doneG {l xs:List Int} {p:Nat} (h:rdN l xs.length=(0,xs,p)) (h3:0≤xs.getD 2 0∧xs.getD 2 0≤32∧xs.length≤3+2 * (xs.getD 2 0).toNat) (hx:xs.length=3+2 * (xs.getD 2 0).toNat) (hs:¬ l.length<p+16):readA l=(⟨xs.getD 0 0,xs.getD 1 0,rtO xs (xs.getD 2 0).toNat,bk (l.drop p) 8,bk (l.drop (p+8)) 8⟩,(p:Int)+16,0):=by
 obtain⟨p3,hp⟩:=read_preG h (by omega)
 rw[hx] at h
 exact read_done hp (by omega) (by omega) h hs
theorem getD_last {xs:List Int} {n:Int} {k:Nat} (h:k=xs.length):(xs++[n]).getD k 0=n:=by
 rw[h,List.getD_eq_getElem?_getD,List.getElem?_append_right (Nat.le_refl _),Nat.sub_self]
 rfl
theorem snoc_elJ {enc:Int→List Value} {s:List Int} {x:Int} {el el2:Nat→List Value} (h0:∀ k,k<s.length→el k=enc (s.getD k 0)) (h1:∀ k,k<s.length→el2 k=el k) (h2:el2 (s.length+0)=enc x):∀ k,k<(s++[x]).length→el2 k=enc ((s++[x]).getD k 0):=by
 intro k hk
 rw[List.length_append] at hk
 by_cases hkn:k<s.length
 ·rw[h1 k hkn,h0 k hkn,getD_left hkn]
 ·obtain rfl:k=s.length:=by simp at hk;omega
  rw[Nat.add_zero] at h2
  rw[h2,getD_last rfl]
theorem nil_el {x:Int} {el:Nat→List Value} (h:el 0=intC x):∀ k,k<(([]:List Int)++[x]).length→el k=intC ((([]:List Int)++[x]).getD k 0):=by
 intro k hk
 obtain rfl:k=0:=by simp only[List.nil_append,List.length_cons,List.length_nil] at hk;omega
 exact h
theorem len8 {l:List Int} {p:Nat} (h:p+8≤l.length):((l.drop p).take 8).length=8:=by rw[List.length_take,List.length_drop];omega
theorem take_at8 {l:List Int} {m k:Nat} (h:k<m):(l.take m).getD k 0=l.getD k 0:=by
 rw[List.getD_eq_getElem?_getD,List.getD_eq_getElem?_getD,List.getElem?_take_of_lt h]
theorem bk_take (l:List Int):bk (l.take 8) 8=bk l 8:=by
 rw[bk_eq,bk_eq,take_at8 (by omega),take_at8 (by omega),take_at8 (by omega),take_at8 (by omega),take_at8 (by omega),take_at8 (by omega),take_at8 (by omega),take_at8 (by omega)]
def rdRF:FT:=[(26,ctTakeR),(27,ctFixR)]
def rdRD:List (Nat×DQ):=[(3000003,{ k:=1000001,L:=[0,1],sl:=[0,2] }),(4000014,{ k:=1000001,L:=[0,1,2],sl:=[0,2,5,6] }),(3000015,{ k:=1000001,L:=[0,1,2],sl:=[0,2,5,6,10] }),
 (13,{ k:=21,L:=[0,2],g:=some (.fix 0 (.fix 1 (.fix 2 (.fix 3 (.fix 4 (.fix 5 (.fix 6 (.fix 7 (.fix 8 (.fix 9 (.fix 12 (.fix 13 (.fix 14 (.fix 15 (.fix 16 (.three 10 (.three 11 (.two 17 (.two 18 (.fix 19 (.act 20 .fin)) 20 (.act 18 (.fix 19 .fin))) 20 (.act 17 (.act 18 (.fix 19 .fin)))) 17 (.two 11 (.two 18 (.fix 19 (.act 20 .fin)) 20 (.act 18 (.fix 19 .fin))) 20 (.act 11 (.act 18 (.fix 19 .fin)))) 20 (.two 11 (.act 17 (.act 18 (.fix 19 .fin))) 17 (.act 11 (.act 18 (.fix 19 .fin))))) 17 (.two 10 (.two 11 (.two 18 (.fix 19 (.act 20 .fin)) 20 (.act 18 (.fix 19 .fin))) 20 (.act 11 (.act 18 (.fix 19 .fin)))) 20 (.act 10 (.act 11 (.act 18 (.fix 19 .fin))))) 20 (.two 10 (.two 11 (.act 17 (.act 18 (.fix 19 .fin))) 17 (.act 11 (.act 18 (.fix 19 .fin)))) 17 (.act 10 (.act 11 (.act 18 (.fix 19 .fin))))))))))))))))))))) }),
 (17,{ k:=13,L:=[2,3],pre:=[(0,false),(1,false),(2,false),(3,false),(4,false),(5,false),(6,false),(7,false),(8,false),(9,false),(10,false),(11,false),(12,true)] })]
theorem rdRFok:FTokI Tryz.prog rdRF (inlOf rdRD):=fti_cons (takeROk.i _) (fti_cons (fixROk.i _) fti_nil)
set_option maxRecDepth 100000 in
set_option maxHeartbeats 4000000 in
theorem readR_sx (cap:Nat) (l:List Int) (hl:byteL l) (hc:l.length≤cap) (hm:l.length≤1000000) :
  sx ttB rdRF rdRD (bodyOf Tryz.f11) (argF 0 [slc 0 l.length cap]) [(0,rowOfL 3 1 u8C 0 l)] 1 (endx ttB Tryz.f11.results.toList fun v mem' _=>RdPost l v mem'):=by
 refine⟨List Int×Int×Option (Nat×(Nat→List Value)),fun q=>match q with | (xs,p,none)=>[(5,zs0),(6,.int .i64 p)] | (xs,p,some (cp,el))=>[(5,slc 2 xs.length cp),(6,.int .i64 p)],fun q=>match q with | (xs,p,none)=>[] | (xs,p,some (cp,el))=>[(2,.row (1000000+3) 1 cp el)],fun q=>match q with | (xs,p,o)=>(0≤p∧p≤l.length)∧rdN l xs.length=(0,xs,p.toNat)∧(3≤xs.length→0≤xs.getD 2 0∧xs.getD 2 0≤32∧xs.length≤3+2 * (xs.getD 2 0).toNat)∧match o with | none=>xs=[] | some (cp,el)=>xs.length≤cp∧∀ k,k<xs.length→el k=intC (xs.getD k 0),fun q=>match q with | (xs,p,o)=>100-xs.length,⟨([],0,none),[],⟨by omega,rfl,fun h=>absurd h (by simp),rfl⟩,⟨rfl,rfl⟩,kp_,kp_⟩,?_⟩
 rintro⟨xs,p,(_ | ⟨cp,el⟩)⟩ ⟨hp,hr,hc2,ho⟩
 ·subst ho
  refine⟨⟨by decide,rfl,rfl⟩,?_⟩
  refine⟨fun _=>?_,fun q=>absurd q (by simp)⟩
  refine⟨fun _=>?_,fun q=>absurd q (by simp)⟩
  refine⟨⟨hp.1,hp.2,by omega⟩,l.length-p.toNat,fun j=>u8C ((l.drop p.toNat).getD j 0),⟨by omega,by omega,fun j hj=>congrArg u8C drop_at⟩,?_⟩
  refine⟨_,l.drop p.toNat,rfl,.inr (.inl ⟨3,_,by rw[List.length_drop];rfl,⟨_,_,_,rfl,by rw[List.length_drop];exact Nat.le_refl _,fun k hk=>rfl⟩⟩),hl.drop _,?_⟩
  refine⟨fun hne=>?_,fun heq=>?_⟩
  ·have hne2:¬ (takeI (l.drop p.toNat)).2.2=0:=by simpa using hne
   exact RdPost.bad (read_failG hr (.inl (by simp)) (rdN_fail hr hne2) hne2)
  ·have hlen:(([]:List Int)++[(takeI (l.drop p.toNat)).1]).length=([]:List Int).length+1:=by simp
   have heq2:(takeI (l.drop p.toNat)).2.2=0:=by simpa using heq
   obtain⟨n,hn,hn1,hn2⟩:=take_n (hl.drop p.toNat) heq2
   rw[List.length_drop] at hn2
   have hw:IntKind.i64.wrap (p+(n:Int))=p+n:=wrapi (by omega)
   have hs0:=rdN_next hr heq2
   rw[hn] at hs0
   have hs:rdN l (([]:List Int).length+1)=(0,([]:List Int)++[(takeI (l.drop p.toNat)).1],(p+(n:Int)).toNat):=hs0.trans (Prod.ext rfl (Prod.ext rfl (by show p.toNat+((n:Nat):Int).toNat=(p+n).toNat;omega)))
   refine⟨⟨Nat.le_refl _,fun j hj=>by match j,hj with | 0,_=>rfl⟩,?_⟩
   refine⟨fun h=>absurd h (by decide),fun _=>⟨by decide,fun capq elq ⟨hcq,_⟩ g2q=>?_⟩⟩
   refine⟨fun q=>absurd q (by decide),fun _=>?_⟩
   repeat (first | refine⟨fun _=>?_,fun h=>Bool.noConfusion h⟩ | refine⟨fun h=>Bool.noConfusion h,fun _=>?_⟩ | fail)
   refine⟨(([]:List Int)++[(takeI (l.drop p.toNat)).1],p+n,some (capq,elq)),[(2,5)],?_,⟨rfl,rfl⟩,(by refine⟨?_,?_,?_⟩;(show some (slc _ (([]:List Int).length+1) _)=some (slc _ (([]:List Int)++[(takeI (l.drop p.toNat)).1]).length _);rw[List.length_append];rfl);(show some (Value.int .i64 (IntKind.i64.wrap (p+(takeI (l.drop p.toNat)).2.1)))=some (Value.int .i64 (p+n));rw[hn,hw]);repeat (first | exact trivial | refine⟨rfl,?_⟩)),kp_⟩
   dsimp only
   refine⟨⟨by omega,by rw[hlen];exact hs,(fun h3=>absurd h3 (by rw[hlen];decide)),⟨by rw[hlen];exact hcq,nil_el (g2q 0 (by omega))⟩⟩,by rw[hlen];first | omega | (simp;done)⟩
 ·refine⟨⟨by decide,rfl,rfl⟩,?_⟩
  have hxl:xs.length≤67:=by by_cases h3:3≤xs.length;(have:=hc2 h3;omega);omega
  refine⟨fun q1=>?_,fun q1=>?_⟩
  ·have q1b:(xs.length:Int)<3:=of_decide_eq_true q1
   repeat (first | refine⟨fun _=>?_,fun h=>Bool.noConfusion h⟩ | refine⟨fun h=>Bool.noConfusion h,fun _=>?_⟩ | fail)
   refine⟨⟨hp.1,hp.2,by omega⟩,l.length-p.toNat,fun j=>u8C ((l.drop p.toNat).getD j 0),⟨by omega,by omega,fun j hj=>congrArg u8C drop_at⟩,?_⟩
   refine⟨_,l.drop p.toNat,rfl,.inr (.inl ⟨3,_,by rw[List.length_drop];rfl,⟨_,_,_,rfl,by rw[List.length_drop];exact Nat.le_refl _,fun k hk=>rfl⟩⟩),hl.drop _,?_⟩
   refine⟨fun hne=>?_,fun heq=>?_⟩
   ·have hne2:¬ (takeI (l.drop p.toNat)).2.2=0:=by simpa using hne
    exact RdPost.bad (read_failG hr (.inl (by omega)) (rdN_fail hr hne2) hne2)
   ·have hlen:(xs++[(takeI (l.drop p.toNat)).1]).length=xs.length+1:=by simp
    have heq2:(takeI (l.drop p.toNat)).2.2=0:=by simpa using heq
    obtain⟨n,hn,hn1,hn2⟩:=take_n (hl.drop p.toNat) heq2
    rw[List.length_drop] at hn2
    have hw:IntKind.i64.wrap (p+(n:Int))=p+n:=wrapi (by omega)
    have hs0:=rdN_next hr heq2
    rw[hn] at hs0
    have hs:rdN l (xs.length+1)=(0,xs++[(takeI (l.drop p.toNat)).1],(p+(n:Int)).toNat):=hs0.trans (Prod.ext rfl (Prod.ext rfl (by show p.toNat+((n:Nat):Int).toNat=(p+n).toNat;omega)))
    refine⟨⟨Nat.le_refl _,fun j hj=>by match j,hj with | 0,_=>rfl⟩,?_⟩
    refine⟨⟨rfl,ho.1⟩,fun hinq elq ⟨g1q,_⟩ g2q=>?_,fun hgtq=>⟨by show (xs.length+1) * 8≤140737488355328;omega,fun capq elq ⟨hcq,_⟩ g1q g2q=>?_⟩⟩
    ·refine⟨fun q3=>?_,fun q3=>?_⟩
     ·have hx3:xs.length+1=3:=by have:=of_decide_eq_true (p:=((xs.length+1:Nat):Int)=3) (by simpa using q3);omega
      refine⟨fun q4=>?_,fun q4=>?_⟩
      ·have q4b:(takeI (l.drop p.toNat)).1<0:=of_decide_eq_true q4
       repeat (first | refine⟨fun _=>?_,fun h=>Bool.noConfusion h⟩ | refine⟨fun h=>Bool.noConfusion h,fun _=>?_⟩ | fail)
       exact RdPost.bad (read_corruptG hs hx3 (.inl q4b))
      ·have q4b:¬ (takeI (l.drop p.toNat)).1<0:=of_decide_eq_false q4
       refine⟨fun q5=>?_,fun q5=>?_⟩
       ·have q5b:(takeI (l.drop p.toNat)).1>32:=of_decide_eq_true q5
        repeat (first | refine⟨fun _=>?_,fun h=>Bool.noConfusion h⟩ | refine⟨fun h=>Bool.noConfusion h,fun _=>?_⟩ | fail)
        exact RdPost.bad (read_corruptG hs hx3 (.inr q5b))
       ·have q5b:¬ (takeI (l.drop p.toNat)).1>32:=of_decide_eq_false q5
        repeat (first | refine⟨fun _=>?_,fun h=>Bool.noConfusion h⟩ | refine⟨fun h=>Bool.noConfusion h,fun _=>?_⟩ | fail)
        refine⟨(xs++[(takeI (l.drop p.toNat)).1],p+n,some (cp,elq)),[],?_,⟨rfl,rfl⟩,(by refine⟨?_,?_,?_⟩;(show some (slc _ (xs.length+1) _)=some (slc _ (xs++[(takeI (l.drop p.toNat)).1]).length _);rw[List.length_append];rfl);(show some (Value.int .i64 (IntKind.i64.wrap (p+(takeI (l.drop p.toNat)).2.1)))=some (Value.int .i64 (p+n));rw[hn,hw]);repeat (first | exact trivial | refine⟨rfl,?_⟩)),kp_⟩
        dsimp only
        refine⟨⟨by omega,by rw[hlen];exact hs,(fun _=>by rw[hlen,getD_last (by omega)];omega),⟨by rw[hlen];omega,snoc_elJ (enc:=intC) ho.2 g1q (g2q 0 (by omega))⟩⟩,by rw[hlen];first | omega | (simp;done)⟩
     ·have hx3:¬ xs.length+1=3:=by intro h;simp at q3;omega
      repeat (first | refine⟨fun _=>?_,fun h=>Bool.noConfusion h⟩ | refine⟨fun h=>Bool.noConfusion h,fun _=>?_⟩ | fail)
      refine⟨(xs++[(takeI (l.drop p.toNat)).1],p+n,some (cp,elq)),[],?_,⟨rfl,rfl⟩,(by refine⟨?_,?_,?_⟩;(show some (slc _ (xs.length+1) _)=some (slc _ (xs++[(takeI (l.drop p.toNat)).1]).length _);rw[List.length_append];rfl);(show some (Value.int .i64 (IntKind.i64.wrap (p+(takeI (l.drop p.toNat)).2.1)))=some (Value.int .i64 (p+n));rw[hn,hw]);repeat (first | exact trivial | refine⟨rfl,?_⟩)),kp_⟩
      dsimp only
      refine⟨⟨by omega,by rw[hlen];exact hs,(fun h3=>by rw[hlen] at h3 ⊢;have h4:=hc2 (by omega);rw[getD_left (by omega)];omega),⟨by rw[hlen];omega,snoc_elJ (enc:=intC) ho.2 g1q (g2q 0 (by omega))⟩⟩,by rw[hlen];first | omega | (simp;done)⟩
    ·refine⟨fun q3=>?_,fun q3=>?_⟩
     ·have hx3:xs.length+1=3:=by have:=of_decide_eq_true (p:=((xs.length+1:Nat):Int)=3) (by simpa using q3);omega
      refine⟨fun q4=>?_,fun q4=>?_⟩
      ·have q4b:(takeI (l.drop p.toNat)).1<0:=of_decide_eq_true q4
       repeat (first | refine⟨fun _=>?_,fun h=>Bool.noConfusion h⟩ | refine⟨fun h=>Bool.noConfusion h,fun _=>?_⟩ | fail)
       exact RdPost.bad (read_corruptG hs hx3 (.inl q4b))
      ·have q4b:¬ (takeI (l.drop p.toNat)).1<0:=of_decide_eq_false q4
       refine⟨fun q5=>?_,fun q5=>?_⟩
       ·have q5b:(takeI (l.drop p.toNat)).1>32:=of_decide_eq_true q5
        repeat (first | refine⟨fun _=>?_,fun h=>Bool.noConfusion h⟩ | refine⟨fun h=>Bool.noConfusion h,fun _=>?_⟩ | fail)
        exact RdPost.bad (read_corruptG hs hx3 (.inr q5b))
       ·have q5b:¬ (takeI (l.drop p.toNat)).1>32:=of_decide_eq_false q5
        repeat (first | refine⟨fun _=>?_,fun h=>Bool.noConfusion h⟩ | refine⟨fun h=>Bool.noConfusion h,fun _=>?_⟩ | fail)
        refine⟨(xs++[(takeI (l.drop p.toNat)).1],p+n,some (capq,elq)),[(2,5)],?_,⟨rfl,rfl⟩,(by refine⟨?_,?_,?_⟩;(show some (slc _ (xs.length+1) _)=some (slc _ (xs++[(takeI (l.drop p.toNat)).1]).length _);rw[List.length_append];rfl);(show some (Value.int .i64 (IntKind.i64.wrap (p+(takeI (l.drop p.toNat)).2.1)))=some (Value.int .i64 (p+n));rw[hn,hw]);repeat (first | exact trivial | refine⟨rfl,?_⟩)),kp_⟩
        dsimp only
        refine⟨⟨by omega,by rw[hlen];exact hs,(fun _=>by rw[hlen,getD_last (by omega)];omega),⟨by rw[hlen];omega,snoc_elJ (enc:=intC) ho.2 g1q (g2q 0 (by omega))⟩⟩,by rw[hlen];first | omega | (simp;done)⟩
     ·have hx3:¬ xs.length+1=3:=by intro h;simp at q3;omega
      repeat (first | refine⟨fun _=>?_,fun h=>Bool.noConfusion h⟩ | refine⟨fun h=>Bool.noConfusion h,fun _=>?_⟩ | fail)
      refine⟨(xs++[(takeI (l.drop p.toNat)).1],p+n,some (capq,elq)),[(2,5)],?_,⟨rfl,rfl⟩,(by refine⟨?_,?_,?_⟩;(show some (slc _ (xs.length+1) _)=some (slc _ (xs++[(takeI (l.drop p.toNat)).1]).length _);rw[List.length_append];rfl);(show some (Value.int .i64 (IntKind.i64.wrap (p+(takeI (l.drop p.toNat)).2.1)))=some (Value.int .i64 (p+n));rw[hn,hw]);repeat (first | exact trivial | refine⟨rfl,?_⟩)),kp_⟩
      dsimp only
      refine⟨⟨by omega,by rw[hlen];exact hs,(fun h3=>by rw[hlen] at h3 ⊢;have h4:=hc2 (by omega);rw[getD_left (by omega)];omega),⟨by rw[hlen];omega,snoc_elJ (enc:=intC) ho.2 g1q (g2q 0 (by omega))⟩⟩,by rw[hlen];first | omega | (simp;done)⟩
  ·have q1b:¬ (xs.length:Int)<3:=of_decide_eq_false q1
   have h3:=hc2 (by omega)
   refine⟨⟨by omega,by decide,by omega⟩,?_⟩
   conv=>whnf
   rw[vx_load_row (v:=.int .i64 (xs.getD 2 0)) (ho.2 2 (by omega)) ?hx ?ht ?hm ?hv]
   case hx=>rfl
   case ht=>rfl
   case hm=>rfl
   case hv=>rfl
   have hw2:IntKind.i64.wrap (3+IntKind.i64.wrap (2 * (xs.getD 2 0)))=3+2 * (xs.getD 2 0):=by rw[wrapi (n:=2 * (xs.getD 2 0)) (by omega),wrapi (by omega)]
   refine⟨fun q2=>?_,fun q2=>?_⟩
   ·have q2b:(xs.length:Int)<IntKind.i64.wrap (3+IntKind.i64.wrap (2 * (xs.getD 2 0))):=of_decide_eq_true q2
    rw[hw2] at q2b
    refine⟨⟨hp.1,hp.2,by omega⟩,l.length-p.toNat,fun j=>u8C ((l.drop p.toNat).getD j 0),⟨by omega,by omega,fun j hj=>congrArg u8C drop_at⟩,?_⟩
    refine⟨_,l.drop p.toNat,rfl,.inr (.inl ⟨3,_,by rw[List.length_drop];rfl,⟨_,_,_,rfl,by rw[List.length_drop];exact Nat.le_refl _,fun k hk=>rfl⟩⟩),hl.drop _,?_⟩
    refine⟨fun hne=>?_,fun heq=>?_⟩
    ·have hne2:¬ (takeI (l.drop p.toNat)).2.2=0:=by simpa using hne
     exact RdPost.bad (read_failG hr (.inr ⟨by omega,h3.1,h3.2.1,by omega⟩) (rdN_fail hr hne2) hne2)
    ·have hlen:(xs++[(takeI (l.drop p.toNat)).1]).length=xs.length+1:=by simp
     have heq2:(takeI (l.drop p.toNat)).2.2=0:=by simpa using heq
     obtain⟨n,hn,hn1,hn2⟩:=take_n (hl.drop p.toNat) heq2
     rw[List.length_drop] at hn2
     have hw:IntKind.i64.wrap (p+(n:Int))=p+n:=wrapi (by omega)
     have hs0:=rdN_next hr heq2
     rw[hn] at hs0
     have hs:rdN l (xs.length+1)=(0,xs++[(takeI (l.drop p.toNat)).1],(p+(n:Int)).toNat):=hs0.trans (Prod.ext rfl (Prod.ext rfl (by show p.toNat+((n:Nat):Int).toNat=(p+n).toNat;omega)))
     refine⟨⟨Nat.le_refl _,fun j hj=>by match j,hj with | 0,_=>rfl⟩,?_⟩
     refine⟨⟨rfl,ho.1⟩,fun hinq elq ⟨g1q,_⟩ g2q=>?_,fun hgtq=>⟨by show (xs.length+1) * 8≤140737488355328;omega,fun capq elq ⟨hcq,_⟩ g1q g2q=>?_⟩⟩
     ·refine⟨fun q3=>?_,fun q3=>?_⟩
      ·have hx3:xs.length+1=3:=by have:=of_decide_eq_true (p:=((xs.length+1:Nat):Int)=3) (by simpa using q3);omega
       refine⟨fun q4=>?_,fun q4=>?_⟩
       ·have q4b:(takeI (l.drop p.toNat)).1<0:=of_decide_eq_true q4
        repeat (first | refine⟨fun _=>?_,fun h=>Bool.noConfusion h⟩ | refine⟨fun h=>Bool.noConfusion h,fun _=>?_⟩ | fail)
        exact RdPost.bad (read_corruptG hs hx3 (.inl q4b))
       ·have q4b:¬ (takeI (l.drop p.toNat)).1<0:=of_decide_eq_false q4
        refine⟨fun q5=>?_,fun q5=>?_⟩
        ·have q5b:(takeI (l.drop p.toNat)).1>32:=of_decide_eq_true q5
         repeat (first | refine⟨fun _=>?_,fun h=>Bool.noConfusion h⟩ | refine⟨fun h=>Bool.noConfusion h,fun _=>?_⟩ | fail)
         exact RdPost.bad (read_corruptG hs hx3 (.inr q5b))
        ·have q5b:¬ (takeI (l.drop p.toNat)).1>32:=of_decide_eq_false q5
         repeat (first | refine⟨fun _=>?_,fun h=>Bool.noConfusion h⟩ | refine⟨fun h=>Bool.noConfusion h,fun _=>?_⟩ | fail)
         refine⟨(xs++[(takeI (l.drop p.toNat)).1],p+n,some (cp,elq)),[],?_,⟨rfl,rfl⟩,(by refine⟨?_,?_,?_⟩;(show some (slc _ (xs.length+1) _)=some (slc _ (xs++[(takeI (l.drop p.toNat)).1]).length _);rw[List.length_append];rfl);(show some (Value.int .i64 (IntKind.i64.wrap (p+(takeI (l.drop p.toNat)).2.1)))=some (Value.int .i64 (p+n));rw[hn,hw]);repeat (first | exact trivial | refine⟨rfl,?_⟩)),kp_⟩
         dsimp only
         refine⟨⟨by omega,by rw[hlen];exact hs,(fun _=>by rw[hlen,getD_last (by omega)];omega),⟨by rw[hlen];omega,snoc_elJ (enc:=intC) ho.2 g1q (g2q 0 (by omega))⟩⟩,by rw[hlen];first | omega | (simp;done)⟩
      ·have hx3:¬ xs.length+1=3:=by intro h;simp at q3;omega
       repeat (first | refine⟨fun _=>?_,fun h=>Bool.noConfusion h⟩ | refine⟨fun h=>Bool.noConfusion h,fun _=>?_⟩ | fail)
       refine⟨(xs++[(takeI (l.drop p.toNat)).1],p+n,some (cp,elq)),[],?_,⟨rfl,rfl⟩,(by refine⟨?_,?_,?_⟩;(show some (slc _ (xs.length+1) _)=some (slc _ (xs++[(takeI (l.drop p.toNat)).1]).length _);rw[List.length_append];rfl);(show some (Value.int .i64 (IntKind.i64.wrap (p+(takeI (l.drop p.toNat)).2.1)))=some (Value.int .i64 (p+n));rw[hn,hw]);repeat (first | exact trivial | refine⟨rfl,?_⟩)),kp_⟩
       dsimp only
       refine⟨⟨by omega,by rw[hlen];exact hs,(fun h3=>by rw[hlen] at h3 ⊢;have h4:=hc2 (by omega);rw[getD_left (by omega)];omega),⟨by rw[hlen];omega,snoc_elJ (enc:=intC) ho.2 g1q (g2q 0 (by omega))⟩⟩,by rw[hlen];first | omega | (simp;done)⟩
     ·refine⟨fun q3=>?_,fun q3=>?_⟩
      ·have hx3:xs.length+1=3:=by have:=of_decide_eq_true (p:=((xs.length+1:Nat):Int)=3) (by simpa using q3);omega
       refine⟨fun q4=>?_,fun q4=>?_⟩
       ·have q4b:(takeI (l.drop p.toNat)).1<0:=of_decide_eq_true q4
        repeat (first | refine⟨fun _=>?_,fun h=>Bool.noConfusion h⟩ | refine⟨fun h=>Bool.noConfusion h,fun _=>?_⟩ | fail)
        exact RdPost.bad (read_corruptG hs hx3 (.inl q4b))
       ·have q4b:¬ (takeI (l.drop p.toNat)).1<0:=of_decide_eq_false q4
        refine⟨fun q5=>?_,fun q5=>?_⟩
        ·have q5b:(takeI (l.drop p.toNat)).1>32:=of_decide_eq_true q5
         repeat (first | refine⟨fun _=>?_,fun h=>Bool.noConfusion h⟩ | refine⟨fun h=>Bool.noConfusion h,fun _=>?_⟩ | fail)
         exact RdPost.bad (read_corruptG hs hx3 (.inr q5b))
        ·have q5b:¬ (takeI (l.drop p.toNat)).1>32:=of_decide_eq_false q5
         repeat (first | refine⟨fun _=>?_,fun h=>Bool.noConfusion h⟩ | refine⟨fun h=>Bool.noConfusion h,fun _=>?_⟩ | fail)
         refine⟨(xs++[(takeI (l.drop p.toNat)).1],p+n,some (capq,elq)),[(2,5)],?_,⟨rfl,rfl⟩,(by refine⟨?_,?_,?_⟩;(show some (slc _ (xs.length+1) _)=some (slc _ (xs++[(takeI (l.drop p.toNat)).1]).length _);rw[List.length_append];rfl);(show some (Value.int .i64 (IntKind.i64.wrap (p+(takeI (l.drop p.toNat)).2.1)))=some (Value.int .i64 (p+n));rw[hn,hw]);repeat (first | exact trivial | refine⟨rfl,?_⟩)),kp_⟩
         dsimp only
         refine⟨⟨by omega,by rw[hlen];exact hs,(fun _=>by rw[hlen,getD_last (by omega)];omega),⟨by rw[hlen];omega,snoc_elJ (enc:=intC) ho.2 g1q (g2q 0 (by omega))⟩⟩,by rw[hlen];first | omega | (simp;done)⟩
      ·have hx3:¬ xs.length+1=3:=by intro h;simp at q3;omega
       repeat (first | refine⟨fun _=>?_,fun h=>Bool.noConfusion h⟩ | refine⟨fun h=>Bool.noConfusion h,fun _=>?_⟩ | fail)
       refine⟨(xs++[(takeI (l.drop p.toNat)).1],p+n,some (capq,elq)),[(2,5)],?_,⟨rfl,rfl⟩,(by refine⟨?_,?_,?_⟩;(show some (slc _ (xs.length+1) _)=some (slc _ (xs++[(takeI (l.drop p.toNat)).1]).length _);rw[List.length_append];rfl);(show some (Value.int .i64 (IntKind.i64.wrap (p+(takeI (l.drop p.toNat)).2.1)))=some (Value.int .i64 (p+n));rw[hn,hw]);repeat (first | exact trivial | refine⟨rfl,?_⟩)),kp_⟩
       dsimp only
       refine⟨⟨by omega,by rw[hlen];exact hs,(fun h3=>by rw[hlen] at h3 ⊢;have h4:=hc2 (by omega);rw[getD_left (by omega)];omega),⟨by rw[hlen];omega,snoc_elJ (enc:=intC) ho.2 g1q (g2q 0 (by omega))⟩⟩,by rw[hlen];first | omega | (simp;done)⟩
   ·have q2b:¬ (xs.length:Int)<IntKind.i64.wrap (3+IntKind.i64.wrap (2 * (xs.getD 2 0))):=of_decide_eq_false q2
    rw[hw2] at q2b
    have hxc:xs.length=3+2 * (xs.getD 2 0).toNat:=by omega
    have hwl:IntKind.i64.wrap ((l.length:Int)-p)=l.length-p:=wrapi (by omega)
    refine⟨fun hs=>?_,fun hs=>?_⟩
    ·have hs2:IntKind.i64.wrap ((l.length:Int)-p)<16:=of_decide_eq_true hs
     exact RdPost.bad (read_shortG hr h3 hxc (by omega))
    ·have hs2:¬ IntKind.i64.wrap ((l.length:Int)-p)<16:=of_decide_eq_false hs
     have hdone:=read_doneG hr h3 hxc (by omega)
     have hw8:IntKind.i64.wrap (p+8)=p+8:=wrapi (by omega)
     have hw16:IntKind.i64.wrap (p+16)=p+16:=wrapi (by omega)
     have hw9:(IntKind.i64.wrap (p+8)).toNat=p.toNat+8:=by rw[hw8];omega
     have hw17:(IntKind.i64.wrap (p+16)).toNat=p.toNat+16:=by rw[hw16];omega
     refine⟨Unit,fun _=>[(10,ptr 3)],fun _=>[(3,.box 26 [.int .i64 (xs.getD 0 0),.int .i64 (xs.getD 1 0),zs0,.int .u64 (bk (l.drop p.toNat) 8),.int .u64 (bk (l.drop (p.toNat+8)) 8)])],fun _=>True,?_,?_⟩
     ·refine⟨⟨by omega,by decide,by omega⟩,?_⟩
      conv=>whnf
      erw [vx_load_row (v:=.int .i64 (xs.getD 0 0)) (ho.2 0 (by omega)) ?hx ?ht ?hm ?hv]
      case hx=>rfl
      case ht=>rfl
      case hm=>rfl
      case hv=>rfl
      refine⟨⟨by omega,by decide,by omega⟩,?_⟩
      conv=>whnf
      erw [vx_load_row (v:=.int .i64 (xs.getD 1 0)) (ho.2 1 (by omega)) ?hx ?ht ?hm ?hv]
      case hx=>rfl
      case ht=>rfl
      case hm=>rfl
      case hv=>rfl
      refine⟨?_,?_,?_⟩
      ·refine⟨⟨hp.1,by rw[hw8];omega,by rw[hw8];omega⟩,8,fun j=>u8C (((l.drop p.toNat).take 8).getD j 0),⟨by omega,by omega,fun j hj=>congrArg u8C ((take_at8 hj).trans drop_at)⟩,?_⟩
       refine⟨kp_,?_⟩
       refine⟨?_,?_,?_⟩
       ·refine⟨_,(l.drop p.toNat).take 8,_,rfl,.inr (.inl ⟨3,_,by rw[hw8,len8 (by omega)];exact congrArg (fun n=>slc 3 n _) (by omega),⟨_,_,_,rfl,by rw[len8 (by omega)];exact Nat.le_refl _,fun k hk=>rfl⟩⟩),⟨fun x hx=>hl.drop _ x (List.mem_of_mem_take hx),by rw[len8 (by omega)];exact Nat.le_refl _⟩,bk_take _,?_⟩
        refine⟨kp_,?_⟩
        refine⟨?_,?_⟩
        ·refine⟨⟨by rw[hw8];omega,by rw[hw8,hw16];omega,by rw[hw16];omega⟩,8,fun j=>u8C (((l.drop (p.toNat+8)).take 8).getD j 0),⟨by rw[hw9];omega,by rw[hw9];omega,fun j hj=>by rw[hw9];exact congrArg u8C ((take_at8 hj).trans drop_at)⟩,?_⟩
         refine⟨kp_,?_⟩
         refine⟨?_,?_⟩
         ·refine⟨_,(l.drop (p.toNat+8)).take 8,_,rfl,.inr (.inl ⟨4,_,by rw[hw9,hw17,len8 (by omega)];exact congrArg (fun n=>slc 4 n _) (by omega),⟨_,_,_,rfl,by rw[len8 (by omega)];exact Nat.le_refl _,fun k hk=>rfl⟩⟩),⟨fun x hx=>hl.drop _ x (List.mem_of_mem_take hx),by rw[len8 (by omega)];exact Nat.le_refl _⟩,bk_take _,?_⟩
          refine⟨kp_,?_⟩
          refine⟨kp_,?_⟩
          exact⟨(),[(3,5)],trivial,⟨rfl,rfl⟩,kp_,kp_⟩
         ·refine⟨kp_,?_⟩
          refine⟨_,(l.drop (p.toNat+8)).take 8,_,rfl,.inr (.inl ⟨4,_,by rw[hw9,hw17,len8 (by omega)];exact congrArg (fun n=>slc 4 n _) (by omega),⟨_,_,_,rfl,by rw[len8 (by omega)];exact Nat.le_refl _,fun k hk=>rfl⟩⟩),⟨fun x hx=>hl.drop _ x (List.mem_of_mem_take hx),by rw[len8 (by omega)];exact Nat.le_refl _⟩,bk_take _,?_⟩
          refine⟨kp_,?_⟩
          exact⟨(),[(3,5)],trivial,⟨rfl,rfl⟩,kp_,kp_⟩
        ·refine⟨kp_,?_⟩
         refine⟨⟨by rw[hw8];omega,by rw[hw8,hw16];omega,by rw[hw16];omega⟩,8,fun j=>u8C (((l.drop (p.toNat+8)).take 8).getD j 0),⟨by rw[hw9];omega,by rw[hw9];omega,fun j hj=>by rw[hw9];exact congrArg u8C ((take_at8 hj).trans drop_at)⟩,?_⟩
         refine⟨kp_,?_⟩
         refine⟨_,(l.drop (p.toNat+8)).take 8,_,rfl,.inr (.inl ⟨5,_,by rw[hw9,hw17,len8 (by omega)];exact congrArg (fun n=>slc 5 n _) (by omega),⟨_,_,_,rfl,by rw[len8 (by omega)];exact Nat.le_refl _,fun k hk=>rfl⟩⟩),⟨fun x hx=>hl.drop _ x (List.mem_of_mem_take hx),by rw[len8 (by omega)];exact Nat.le_refl _⟩,bk_take _,?_⟩
         refine⟨kp_,?_⟩
         exact⟨(),[(3,4)],trivial,⟨rfl,rfl⟩,kp_,kp_⟩
       ·refine⟨⟨by rw[hw8];omega,by rw[hw8,hw16];omega,by rw[hw16];omega⟩,8,fun j=>u8C (((l.drop (p.toNat+8)).take 8).getD j 0),⟨by rw[hw9];omega,by rw[hw9];omega,fun j hj=>by rw[hw9];exact congrArg u8C ((take_at8 hj).trans drop_at)⟩,?_⟩
        refine⟨kp_,?_⟩
        refine⟨?_,?_⟩
        ·refine⟨_,(l.drop p.toNat).take 8,_,rfl,.inr (.inl ⟨3,_,by rw[hw8,len8 (by omega)];exact congrArg (fun n=>slc 3 n _) (by omega),⟨_,_,_,rfl,by rw[len8 (by omega)];exact Nat.le_refl _,fun k hk=>rfl⟩⟩),⟨fun x hx=>hl.drop _ x (List.mem_of_mem_take hx),by rw[len8 (by omega)];exact Nat.le_refl _⟩,bk_take _,?_⟩
         refine⟨kp_,?_⟩
         refine⟨?_,?_⟩
         ·refine⟨_,(l.drop (p.toNat+8)).take 8,_,rfl,.inr (.inl ⟨4,_,by rw[hw9,hw17,len8 (by omega)];exact congrArg (fun n=>slc 4 n _) (by omega),⟨_,_,_,rfl,by rw[len8 (by omega)];exact Nat.le_refl _,fun k hk=>rfl⟩⟩),⟨fun x hx=>hl.drop _ x (List.mem_of_mem_take hx),by rw[len8 (by omega)];exact Nat.le_refl _⟩,bk_take _,?_⟩
          refine⟨kp_,?_⟩
          refine⟨kp_,?_⟩
          exact⟨(),[(3,5)],trivial,⟨rfl,rfl⟩,kp_,kp_⟩
         ·refine⟨kp_,?_⟩
          refine⟨_,(l.drop (p.toNat+8)).take 8,_,rfl,.inr (.inl ⟨4,_,by rw[hw9,hw17,len8 (by omega)];exact congrArg (fun n=>slc 4 n _) (by omega),⟨_,_,_,rfl,by rw[len8 (by omega)];exact Nat.le_refl _,fun k hk=>rfl⟩⟩),⟨fun x hx=>hl.drop _ x (List.mem_of_mem_take hx),by rw[len8 (by omega)];exact Nat.le_refl _⟩,bk_take _,?_⟩
          refine⟨kp_,?_⟩
          exact⟨(),[(3,5)],trivial,⟨rfl,rfl⟩,kp_,kp_⟩
        ·refine⟨kp_,?_⟩
         refine⟨_,(l.drop p.toNat).take 8,_,rfl,.inr (.inl ⟨3,_,by rw[hw8,len8 (by omega)];exact congrArg (fun n=>slc 3 n _) (by omega),⟨_,_,_,rfl,by rw[len8 (by omega)];exact Nat.le_refl _,fun k hk=>rfl⟩⟩),⟨fun x hx=>hl.drop _ x (List.mem_of_mem_take hx),by rw[len8 (by omega)];exact Nat.le_refl _⟩,bk_take _,?_⟩
         refine⟨kp_,?_⟩
         refine⟨_,(l.drop (p.toNat+8)).take 8,_,rfl,.inr (.inl ⟨4,_,by rw[hw9,hw17,len8 (by omega)];exact congrArg (fun n=>slc 4 n _) (by omega),⟨_,_,_,rfl,by rw[len8 (by omega)];exact Nat.le_refl _,fun k hk=>rfl⟩⟩),⟨fun x hx=>hl.drop _ x (List.mem_of_mem_take hx),by rw[len8 (by omega)];exact Nat.le_refl _⟩,bk_take _,?_⟩
         refine⟨kp_,?_⟩
         exact⟨(),[(3,5)],trivial,⟨rfl,rfl⟩,kp_,kp_⟩
       ·refine⟨kp_,?_⟩
        refine⟨?_,?_⟩
        ·refine⟨_,(l.drop p.toNat).take 8,_,rfl,.inr (.inl ⟨3,_,by rw[hw8,len8 (by omega)];exact congrArg (fun n=>slc 3 n _) (by omega),⟨_,_,_,rfl,by rw[len8 (by omega)];exact Nat.le_refl _,fun k hk=>rfl⟩⟩),⟨fun x hx=>hl.drop _ x (List.mem_of_mem_take hx),by rw[len8 (by omega)];exact Nat.le_refl _⟩,bk_take _,?_⟩
         refine⟨kp_,?_⟩
         refine⟨⟨by rw[hw8];omega,by rw[hw8,hw16];omega,by rw[hw16];omega⟩,8,fun j=>u8C (((l.drop (p.toNat+8)).take 8).getD j 0),⟨by rw[hw9];omega,by rw[hw9];omega,fun j hj=>by rw[hw9];exact congrArg u8C ((take_at8 hj).trans drop_at)⟩,?_⟩
         refine⟨kp_,?_⟩
         refine⟨_,(l.drop (p.toNat+8)).take 8,_,rfl,.inr (.inl ⟨5,_,by rw[hw9,hw17,len8 (by omega)];exact congrArg (fun n=>slc 5 n _) (by omega),⟨_,_,_,rfl,by rw[len8 (by omega)];exact Nat.le_refl _,fun k hk=>rfl⟩⟩),⟨fun x hx=>hl.drop _ x (List.mem_of_mem_take hx),by rw[len8 (by omega)];exact Nat.le_refl _⟩,bk_take _,?_⟩
         refine⟨kp_,?_⟩
         exact⟨(),[(3,4)],trivial,⟨rfl,rfl⟩,kp_,kp_⟩
        ·refine⟨⟨by rw[hw8];omega,by rw[hw8,hw16];omega,by rw[hw16];omega⟩,8,fun j=>u8C (((l.drop (p.toNat+8)).take 8).getD j 0),⟨by rw[hw9];omega,by rw[hw9];omega,fun j hj=>by rw[hw9];exact congrArg u8C ((take_at8 hj).trans drop_at)⟩,?_⟩
         refine⟨kp_,?_⟩
         refine⟨_,(l.drop p.toNat).take 8,_,rfl,.inr (.inl ⟨3,_,by rw[hw8,len8 (by omega)];exact congrArg (fun n=>slc 3 n _) (by omega),⟨_,_,_,rfl,by rw[len8 (by omega)];exact Nat.le_refl _,fun k hk=>rfl⟩⟩),⟨fun x hx=>hl.drop _ x (List.mem_of_mem_take hx),by rw[len8 (by omega)];exact Nat.le_refl _⟩,bk_take _,?_⟩
         refine⟨kp_,?_⟩
         refine⟨_,(l.drop (p.toNat+8)).take 8,_,rfl,.inr (.inl ⟨5,_,by rw[hw9,hw17,len8 (by omega)];exact congrArg (fun n=>slc 5 n _) (by omega),⟨_,_,_,rfl,by rw[len8 (by omega)];exact Nat.le_refl _,fun k hk=>rfl⟩⟩),⟨fun x hx=>hl.drop _ x (List.mem_of_mem_take hx),by rw[len8 (by omega)];exact Nat.le_refl _⟩,bk_take _,?_⟩
         refine⟨kp_,?_⟩
         exact⟨(),[(3,4)],trivial,⟨rfl,rfl⟩,kp_,kp_⟩
      ·refine⟨⟨by rw[hw8];omega,by rw[hw8,hw16];omega,by rw[hw16];omega⟩,8,fun j=>u8C (((l.drop (p.toNat+8)).take 8).getD j 0),⟨by rw[hw9];omega,by rw[hw9];omega,fun j hj=>by rw[hw9];exact congrArg u8C ((take_at8 hj).trans drop_at)⟩,?_⟩
       refine⟨kp_,?_⟩
       refine⟨?_,?_⟩
       ·refine⟨⟨hp.1,by rw[hw8];omega,by rw[hw8];omega⟩,8,fun j=>u8C (((l.drop p.toNat).take 8).getD j 0),⟨by omega,by omega,fun j hj=>congrArg u8C ((take_at8 hj).trans drop_at)⟩,?_⟩
        refine⟨kp_,?_⟩
        refine⟨?_,?_⟩
        ·refine⟨_,(l.drop p.toNat).take 8,_,rfl,.inr (.inl ⟨4,_,by rw[hw8,len8 (by omega)];exact congrArg (fun n=>slc 4 n _) (by omega),⟨_,_,_,rfl,by rw[len8 (by omega)];exact Nat.le_refl _,fun k hk=>rfl⟩⟩),⟨fun x hx=>hl.drop _ x (List.mem_of_mem_take hx),by rw[len8 (by omega)];exact Nat.le_refl _⟩,bk_take _,?_⟩
         refine⟨kp_,?_⟩
         refine⟨?_,?_⟩
         ·refine⟨_,(l.drop (p.toNat+8)).take 8,_,rfl,.inr (.inl ⟨3,_,by rw[hw9,hw17,len8 (by omega)];exact congrArg (fun n=>slc 3 n _) (by omega),⟨_,_,_,rfl,by rw[len8 (by omega)];exact Nat.le_refl _,fun k hk=>rfl⟩⟩),⟨fun x hx=>hl.drop _ x (List.mem_of_mem_take hx),by rw[len8 (by omega)];exact Nat.le_refl _⟩,bk_take _,?_⟩
          refine⟨kp_,?_⟩
          refine⟨kp_,?_⟩
          exact⟨(),[(3,5)],trivial,⟨rfl,rfl⟩,kp_,kp_⟩
         ·refine⟨kp_,?_⟩
          refine⟨_,(l.drop (p.toNat+8)).take 8,_,rfl,.inr (.inl ⟨3,_,by rw[hw9,hw17,len8 (by omega)];exact congrArg (fun n=>slc 3 n _) (by omega),⟨_,_,_,rfl,by rw[len8 (by omega)];exact Nat.le_refl _,fun k hk=>rfl⟩⟩),⟨fun x hx=>hl.drop _ x (List.mem_of_mem_take hx),by rw[len8 (by omega)];exact Nat.le_refl _⟩,bk_take _,?_⟩
          refine⟨kp_,?_⟩
          exact⟨(),[(3,5)],trivial,⟨rfl,rfl⟩,kp_,kp_⟩
        ·refine⟨kp_,?_⟩
         refine⟨_,(l.drop p.toNat).take 8,_,rfl,.inr (.inl ⟨4,_,by rw[hw8,len8 (by omega)];exact congrArg (fun n=>slc 4 n _) (by omega),⟨_,_,_,rfl,by rw[len8 (by omega)];exact Nat.le_refl _,fun k hk=>rfl⟩⟩),⟨fun x hx=>hl.drop _ x (List.mem_of_mem_take hx),by rw[len8 (by omega)];exact Nat.le_refl _⟩,bk_take _,?_⟩
         refine⟨kp_,?_⟩
         refine⟨_,(l.drop (p.toNat+8)).take 8,_,rfl,.inr (.inl ⟨3,_,by rw[hw9,hw17,len8 (by omega)];exact congrArg (fun n=>slc 3 n _) (by omega),⟨_,_,_,rfl,by rw[len8 (by omega)];exact Nat.le_refl _,fun k hk=>rfl⟩⟩),⟨fun x hx=>hl.drop _ x (List.mem_of_mem_take hx),by rw[len8 (by omega)];exact Nat.le_refl _⟩,bk_take _,?_⟩
         refine⟨kp_,?_⟩
         exact⟨(),[(3,5)],trivial,⟨rfl,rfl⟩,kp_,kp_⟩
       ·refine⟨kp_,?_⟩
        refine⟨⟨hp.1,by rw[hw8];omega,by rw[hw8];omega⟩,8,fun j=>u8C (((l.drop p.toNat).take 8).getD j 0),⟨by omega,by omega,fun j hj=>congrArg u8C ((take_at8 hj).trans drop_at)⟩,?_⟩
        refine⟨kp_,?_⟩
        refine⟨_,(l.drop p.toNat).take 8,_,rfl,.inr (.inl ⟨5,_,by rw[hw8,len8 (by omega)];exact congrArg (fun n=>slc 5 n _) (by omega),⟨_,_,_,rfl,by rw[len8 (by omega)];exact Nat.le_refl _,fun k hk=>rfl⟩⟩),⟨fun x hx=>hl.drop _ x (List.mem_of_mem_take hx),by rw[len8 (by omega)];exact Nat.le_refl _⟩,bk_take _,?_⟩
        refine⟨kp_,?_⟩
        refine⟨_,(l.drop (p.toNat+8)).take 8,_,rfl,.inr (.inl ⟨3,_,by rw[hw9,hw17,len8 (by omega)];exact congrArg (fun n=>slc 3 n _) (by omega),⟨_,_,_,rfl,by rw[len8 (by omega)];exact Nat.le_refl _,fun k hk=>rfl⟩⟩),⟨fun x hx=>hl.drop _ x (List.mem_of_mem_take hx),by rw[len8 (by omega)];exact Nat.le_refl _⟩,bk_take _,?_⟩
        refine⟨kp_,?_⟩
        exact⟨(),[(3,4)],trivial,⟨rfl,rfl⟩,kp_,kp_⟩
      ·refine⟨kp_,?_⟩
       refine⟨?_,?_⟩
       ·refine⟨⟨hp.1,by rw[hw8];omega,by rw[hw8];omega⟩,8,fun j=>u8C (((l.drop p.toNat).take 8).getD j 0),⟨by omega,by omega,fun j hj=>congrArg u8C ((take_at8 hj).trans drop_at)⟩,?_⟩
        refine⟨kp_,?_⟩
        refine⟨?_,?_⟩
        ·refine⟨_,(l.drop p.toNat).take 8,_,rfl,.inr (.inl ⟨4,_,by rw[hw8,len8 (by omega)];exact congrArg (fun n=>slc 4 n _) (by omega),⟨_,_,_,rfl,by rw[len8 (by omega)];exact Nat.le_refl _,fun k hk=>rfl⟩⟩),⟨fun x hx=>hl.drop _ x (List.mem_of_mem_take hx),by rw[len8 (by omega)];exact Nat.le_refl _⟩,bk_take _,?_⟩
         refine⟨kp_,?_⟩
         refine⟨⟨by rw[hw8];omega,by rw[hw8,hw16];omega,by rw[hw16];omega⟩,8,fun j=>u8C (((l.drop (p.toNat+8)).take 8).getD j 0),⟨by rw[hw9];omega,by rw[hw9];omega,fun j hj=>by rw[hw9];exact congrArg u8C ((take_at8 hj).trans drop_at)⟩,?_⟩
         refine⟨kp_,?_⟩
         refine⟨_,(l.drop (p.toNat+8)).take 8,_,rfl,.inr (.inl ⟨5,_,by rw[hw9,hw17,len8 (by omega)];exact congrArg (fun n=>slc 5 n _) (by omega),⟨_,_,_,rfl,by rw[len8 (by omega)];exact Nat.le_refl _,fun k hk=>rfl⟩⟩),⟨fun x hx=>hl.drop _ x (List.mem_of_mem_take hx),by rw[len8 (by omega)];exact Nat.le_refl _⟩,bk_take _,?_⟩
         refine⟨kp_,?_⟩
         exact⟨(),[(3,3)],trivial,⟨rfl,rfl⟩,kp_,kp_⟩
        ·refine⟨⟨by rw[hw8];omega,by rw[hw8,hw16];omega,by rw[hw16];omega⟩,8,fun j=>u8C (((l.drop (p.toNat+8)).take 8).getD j 0),⟨by rw[hw9];omega,by rw[hw9];omega,fun j hj=>by rw[hw9];exact congrArg u8C ((take_at8 hj).trans drop_at)⟩,?_⟩
         refine⟨kp_,?_⟩
         refine⟨_,(l.drop p.toNat).take 8,_,rfl,.inr (.inl ⟨4,_,by rw[hw8,len8 (by omega)];exact congrArg (fun n=>slc 4 n _) (by omega),⟨_,_,_,rfl,by rw[len8 (by omega)];exact Nat.le_refl _,fun k hk=>rfl⟩⟩),⟨fun x hx=>hl.drop _ x (List.mem_of_mem_take hx),by rw[len8 (by omega)];exact Nat.le_refl _⟩,bk_take _,?_⟩
         refine⟨kp_,?_⟩
         refine⟨_,(l.drop (p.toNat+8)).take 8,_,rfl,.inr (.inl ⟨5,_,by rw[hw9,hw17,len8 (by omega)];exact congrArg (fun n=>slc 5 n _) (by omega),⟨_,_,_,rfl,by rw[len8 (by omega)];exact Nat.le_refl _,fun k hk=>rfl⟩⟩),⟨fun x hx=>hl.drop _ x (List.mem_of_mem_take hx),by rw[len8 (by omega)];exact Nat.le_refl _⟩,bk_take _,?_⟩
         refine⟨kp_,?_⟩
         exact⟨(),[(3,3)],trivial,⟨rfl,rfl⟩,kp_,kp_⟩
       ·refine⟨⟨by rw[hw8];omega,by rw[hw8,hw16];omega,by rw[hw16];omega⟩,8,fun j=>u8C (((l.drop (p.toNat+8)).take 8).getD j 0),⟨by rw[hw9];omega,by rw[hw9];omega,fun j hj=>by rw[hw9];exact congrArg u8C ((take_at8 hj).trans drop_at)⟩,?_⟩
        refine⟨kp_,?_⟩
        refine⟨⟨hp.1,by rw[hw8];omega,by rw[hw8];omega⟩,8,fun j=>u8C (((l.drop p.toNat).take 8).getD j 0),⟨by omega,by omega,fun j hj=>congrArg u8C ((take_at8 hj).trans drop_at)⟩,?_⟩
        refine⟨kp_,?_⟩
        refine⟨_,(l.drop p.toNat).take 8,_,rfl,.inr (.inl ⟨5,_,by rw[hw8,len8 (by omega)];exact congrArg (fun n=>slc 5 n _) (by omega),⟨_,_,_,rfl,by rw[len8 (by omega)];exact Nat.le_refl _,fun k hk=>rfl⟩⟩),⟨fun x hx=>hl.drop _ x (List.mem_of_mem_take hx),by rw[len8 (by omega)];exact Nat.le_refl _⟩,bk_take _,?_⟩
        refine⟨kp_,?_⟩
        refine⟨_,(l.drop (p.toNat+8)).take 8,_,rfl,.inr (.inl ⟨4,_,by rw[hw9,hw17,len8 (by omega)];exact congrArg (fun n=>slc 4 n _) (by omega),⟨_,_,_,rfl,by rw[len8 (by omega)];exact Nat.le_refl _,fun k hk=>rfl⟩⟩),⟨fun x hx=>hl.drop _ x (List.mem_of_mem_take hx),by rw[len8 (by omega)];exact Nat.le_refl _⟩,bk_take _,?_⟩
        refine⟨kp_,?_⟩
        exact⟨(),[(3,3)],trivial,⟨rfl,rfl⟩,kp_,kp_⟩
     ·rintro - -
      refine⟨⟨by decide,rfl,rfl⟩,?_⟩
      refine⟨Nat×Option (Nat×(Nat→List Value)),fun q=>match q with | (k,o)=>[(11,.int .i64 (3+2 * (k:Int)))],fun q=>match q with | (k,none)=>[(3,.box 26 [.int .i64 (xs.getD 0 0),.int .i64 (xs.getD 1 0),zs0,.int .u64 (bk (l.drop p.toNat) 8),.int .u64 (bk (l.drop (p.toNat+8)) 8)])] | (k,some (cap,e3))=>[(3,.box 26 [.int .i64 (xs.getD 0 0),.int .i64 (xs.getD 1 0),slc 4 k cap,.int .u64 (bk (l.drop p.toNat) 8),.int .u64 (bk (l.drop (p.toNat+8)) 8)]),(4,.row (1000000+68) 2 cap e3)],fun q=>match q with | (k,o)=>k≤(xs.getD 2 0).toNat∧match o with | none=>k=0 | some (cap,e3)=>k≤cap∧∀ j,j<k→e3 j=pairC (xs.getD (3+2 * j) 0,xs.getD (4+2 * j) 0),fun q=>match q with | (k,o)=>(xs.getD 2 0).toNat-k,⟨(0,none),[],⟨Nat.zero_le _,rfl⟩,⟨rfl,rfl⟩,kp_,kp_⟩,?_⟩
      rintro⟨k,(_ | ⟨cap,e3⟩)⟩ ⟨hk,ho2⟩
      ·obtain rfl:k=0:=ho2
       refine⟨⟨by decide,rfl,rfl⟩,?_⟩
       refine⟨fun hlt=>?_,fun hge=>?_⟩
       ·have hlt2:3+2 * ((0:Nat):Int)<(xs.length:Int):=of_decide_eq_true hlt
        refine⟨⟨by omega,by omega,by omega⟩,?_⟩
        conv=>whnf
        erw [vx_load_row (v:=.int .i64 (xs.getD (3+2 * 0) 0)) (show el (3+2 * ((0:Nat):Int)).toNat=intC (xs.getD (3+2 * 0) 0) by rw[show (3+2 * ((0:Nat):Int)).toNat=3+2 * 0 by omega];exact ho.2 _ (by omega)) ?hx ?ht ?hm ?hv]
        case hx=>rfl
        case ht=>rfl
        case hm=>rfl
        case hv=>rfl
        refine⟨⟨by omega,by rw[wrapi (by omega)];omega,by rw[wrapi (by omega)];omega⟩,?_⟩
        conv=>whnf
        erw [vx_load_row (v:=.int .i64 (xs.getD (4+2 * 0) 0)) (show el (IntKind.i64.wrap (3+2 * ((0:Nat):Int)+1)).toNat=intC (xs.getD (4+2 * 0) 0) by rw[wrapi (by omega),show (3+2 * ((0:Nat):Int)+1).toNat=4+2 * 0 by omega];exact ho.2 _ (by omega)) ?hx ?ht ?hm ?hv]
        case hx=>rfl
        case ht=>rfl
        case hm=>rfl
        case hv=>rfl
        refine⟨kp_,?_⟩
        refine⟨⟨Nat.le_refl _,fun j hj=>by match j,hj with | 0,_=>rfl⟩,?_⟩
        refine⟨fun h=>absurd h (by decide),fun _=>⟨by decide,fun capq elq ⟨hcq,_⟩ g2q=>?_⟩⟩
        refine⟨(0+1,some (capq,elq)),[(4,6)],?_,⟨rfl,rfl⟩,(by refine⟨?_,?_⟩;(show some (Value.int .i64 (IntKind.i64.wrap (3+2 * ((0:Nat):Int)+2)))=some (Value.int .i64 (3+2 * ((0+1:Nat):Int)));rw[wrapi (by omega)];exact congrArg (fun z=>some (Value.int .i64 z)) (by omega));repeat (first | exact trivial | refine⟨rfl,?_⟩)),kp_⟩
        dsimp only
        refine⟨⟨by omega,hcq,fun j hj=>?_⟩,by omega⟩
        obtain rfl:j=0:=by omega
        exact g2q 0 (by omega)
       ·have hge2:¬ 3+2 * ((0:Nat):Int)<(xs.length:Int):=of_decide_eq_false hge
        have hz:(xs.getD 2 0).toNat=0:=by omega
        rw[hz] at hdone
        exact RdPost.ok hdone rfl (by show IntKind.i64.wrap (p+16)=_;rw[hw16];omega) (.inl ⟨rfl,rfl⟩)
      ·refine⟨⟨by decide,rfl,rfl⟩,?_⟩
       refine⟨fun hlt=>?_,fun hge=>?_⟩
       ·have hlt2:3+2 * ((k:Nat):Int)<(xs.length:Int):=of_decide_eq_true hlt
        refine⟨⟨by omega,by omega,by omega⟩,?_⟩
        conv=>whnf
        erw [vx_load_row (v:=.int .i64 (xs.getD (3+2 * k) 0)) (show el (3+2 * ((k:Nat):Int)).toNat=intC (xs.getD (3+2 * k) 0) by rw[show (3+2 * ((k:Nat):Int)).toNat=3+2 * k by omega];exact ho.2 _ (by omega)) ?hx ?ht ?hm ?hv]
        case hx=>rfl
        case ht=>rfl
        case hm=>rfl
        case hv=>rfl
        refine⟨⟨by omega,by rw[wrapi (by omega)];omega,by rw[wrapi (by omega)];omega⟩,?_⟩
        conv=>whnf
        erw [vx_load_row (v:=.int .i64 (xs.getD (4+2 * k) 0)) (show el (IntKind.i64.wrap (3+2 * ((k:Nat):Int)+1)).toNat=intC (xs.getD (4+2 * k) 0) by rw[wrapi (by omega),show (3+2 * ((k:Nat):Int)+1).toNat=4+2 * k by omega];exact ho.2 _ (by omega)) ?hx ?ht ?hm ?hv]
        case hx=>rfl
        case ht=>rfl
        case hm=>rfl
        case hv=>rfl
        refine⟨kp_,?_⟩
        refine⟨⟨Nat.le_refl _,fun j hj=>by match j,hj with | 0,_=>rfl⟩,?_⟩
        refine⟨⟨rfl,ho2.1⟩,fun hinq elq ⟨g1q,_⟩ g2q=>?_,fun hgtq=>⟨by show (k+1) * 16≤140737488355328;omega,fun capq elq ⟨hcq,_⟩ g1q g2q=>?_⟩⟩
        ·refine⟨(k+1,some (cap,elq)),[],?_,⟨rfl,rfl⟩,(by refine⟨?_,?_⟩;(show some (Value.int .i64 (IntKind.i64.wrap (3+2 * ((k:Nat):Int)+2)))=some (Value.int .i64 (3+2 * ((k+1:Nat):Int)));rw[wrapi (by omega)];exact congrArg (fun z=>some (Value.int .i64 z)) (by omega));repeat (first | exact trivial | refine⟨rfl,?_⟩)),kp_⟩
         dsimp only
         refine⟨⟨by omega,by omega,fun j hj=>?_⟩,by omega⟩
         by_cases hjk:j<k
         ·rw[g1q j hjk]
          exact ho2.2 j hjk
         ·obtain rfl:j=k:=by omega
          exact g2q 0 (by omega)
        ·refine⟨(k+1,some (capq,elq)),[(4,6)],?_,⟨rfl,rfl⟩,(by refine⟨?_,?_⟩;(show some (Value.int .i64 (IntKind.i64.wrap (3+2 * ((k:Nat):Int)+2)))=some (Value.int .i64 (3+2 * ((k+1:Nat):Int)));rw[wrapi (by omega)];exact congrArg (fun z=>some (Value.int .i64 z)) (by omega));repeat (first | exact trivial | refine⟨rfl,?_⟩)),kp_⟩
         dsimp only
         refine⟨⟨by omega,hcq,fun j hj=>?_⟩,by omega⟩
         by_cases hjk:j<k
         ·rw[g1q j hjk]
          exact ho2.2 j hjk
         ·obtain rfl:j=k:=by omega
          exact g2q 0 (by omega)
       ·have hge2:¬ 3+2 * ((k:Nat):Int)<(xs.length:Int):=of_decide_eq_false hge
        obtain rfl:k=(xs.getD 2 0).toNat:=by omega
        refine RdPost.ok hdone rfl (by show IntKind.i64.wrap (p+16)=_;rw[hw16];omega) (.inr ⟨4,_,_,_,e3,congrArg (fun n=>slc 4 n _) (rtO_len _ _).symm,rfl,rfl,by rw[rtO_len];exact ho2.1,fun k hk=>?_⟩)
        rw[rtO_len] at hk
        rw[rtO_get hk]
        exact ho2.2 k hk
theorem readR_calls (A:Option Addr) (cap:Nat) (l:List Int) (w:World) (hl:byteL l) (hc:l.length≤cap) (hm:l.length≤1000000) (hr:Rd w (·<w.heap.size) A (flat u8C l)):Calls Tryz.prog 11 #[.slice A l.length cap] w fun e w'=>∃ A2 cp,e=.returned (.tuple #[.agg #[.int .i64 (readA l).1.number,.int .i64 (readA l).1.tick,.slice A2 (readA l).1.routes.length cp,.int .u64 (readA l).1.parent,.int .u64 (readA l).1.sum],.int .i64 (readA l).2.1,.int .i64 (readA l).2.2])∧Rd w' (fun b=>w.heap.size≤b∧b<w'.heap.size) A2 (flat pairC (readA l).1.routes)∧Below w.heap.size w w':=by
 have:=row1_calls (enc:=u8C) (sz:=1) (fun _=>rfl) (by omega) u8C_plain 0 ttBok rdRFok Tryz.func11 rfl (D:=rdRD) (by kernel_rfl) (vs:=[slc 0 l.length cap]) rfl A l w hr (fun v hv=>by
  simp only[List.mem_cons,List.not_mem_nil,or_false] at hv
  subst hv
  exact⟨Nat.zero_lt_one,rfl⟩) (readR_sx cap l hl hc hm)
 have e0:([slc 0 l.length cap].map (den fun _=>⟨A,1,l.length,false,noSub⟩)).toArray=#[.slice A l.length cap]:=by simp[den,den2,den1,dA_whole,dS_whole]
 rw[e0] at this
 refine this.mono ?_
 rintro e w' ⟨v,mem',nx',ρ',rfl,⟨v2,rfl,hR⟩,hv,hm',hb⟩
 obtain⟨A2,cp,e1,hr2⟩:=hm'.slR (enc:=pairC) (sz:=2) (fun _=>rfl) (by omega) hR
 refine⟨A2,cp,?_,hr2,hb⟩
 congr 1
 have dI:∀ k n,den1 ρ' (.int k n)=.int k n:=fun _ _=>rfl
 simp only[den,den2]
 simp[e1,dI,den2]
def ctReadR:CT:=fun vs mem nx K=>∃ v l r,vs=[v]∧SrcR mem 1 u8C 0 (l:List Int) v∧capOk v∧(byteL l∧l.length≤1000000)∧readA l=r∧∀ cp,K (.tuple #[atlV r.1 (slc nx r.1.routes.length cp),.int .i64 r.2.1,.int .i64 r.2.2]) ((nx,rowOfL 500000 2 pairC (0,0) r.1.routes)::mem) (nx+1)
theorem readROk:CSound Tryz.prog 11 ctReadR:=⟨by kernel_rfl,fun {C ρ fr mem nx a w vs K} hc hs hv=>by
 obtain⟨v,l,r,rfl,hsrc,hcap,⟨hl,hm⟩,rfl,hK⟩:=hc
 obtain⟨A,cap,e0,hr⟩:=hs.srcR (enc:=u8C) (sz:=1) (fun _=>rfl) (by omega) hsrc
 have hc2:l.length≤cap:=by
  obtain⟨A',cp,rfl⟩:=hsrc.slice
  have:=den1_slice e0
  simp only[capOk] at hcap
  have e2:cp=cap:=by cases A'<;>simp_all [den1]
  omega
 have e1:([v].map (den ρ)).toArray=#[.slice A l.length cap]:=by rw[List.map_cons,e0];rfl
 rw[e1]
 refine (readR_calls A cap l w hl hc2 hm hr).mono ?_
 rintro e w' ⟨A2,cp,rfl,hr2,hb⟩
 obtain⟨q1,-⟩:=(hs.later hb).addList hs.frB hs.rest.size (enc:=pairC) (sz:=2) (fun _=>rfl) (by omega) pairC_plain (0,0) (t:=500000) rfl hr2
 have q2:setPl ρ nx ⟨A2,2,(readA l).1.routes.length,false,noSub⟩ nx=⟨A2,2,(readA l).1.routes.length,false,noSub⟩:=setPl_same _ _ _
 refine⟨.tuple #[atlV (readA l).1 (slc nx (readA l).1.routes.length cp),.int .i64 (readA l).2.1,.int .i64 (readA l).2.2],_,_,_,?_,hK cp,q1,?_,fun i hi=>setPl_lt _ _ hi,by omega⟩
 ·simp[den,den2,den1,dA_whole,dS_whole,q2]
 ·intro u hu
  simp at hu
  rcases hu with rfl | rfl | rfl
  ·intro u hu
   simp at hu
   rcases hu with rfl | rfl | rfl | rfl | rfl<;>first | trivial | exact⟨Nat.lt_succ_self _,by rw[q2]⟩
  ·trivial
  ·trivial⟩
end Go.Proofs.YtbmlgcjoeeejbaaGreat
