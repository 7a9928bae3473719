import Derived.Test.YtchhdflealgkaaaGreatPo10
namespace Go.Proofs.YtchhdflealgkaaaGreat
open Go.RowKit
set_option linter.unusedSimpArgs false
set_option linter.unusedVariables false
/-! wire.Int,ref01.Int -/
def tiU:TI:={ size:=1,agg:=false,zero:=[.int .u64 0],ik:=some .u64 }
def tiB:TI:={ size:=1,agg:=false,zero:=[.int .u8 0],ik:=some .u8 }
def ttA:TT:=[(3,{ size:=1,agg:=false,zero:=[zi],ik:=some .i64 }),(110,tiU),(5,tiB),(145,tiSl 1 5 1),(109,tiSl 2 92 16),(92,tiRec [zi,zi] [0,1] [1,1] [1,1] [ki,ki]),(112,tiRec [zi,zi,zs0,.int .u64 0,.int .u64 0] [0,1,2,3,4] [1,1,1,1,1] [1,1,1,1,1])]++tt
theorem ttAok:TTok Tryz.prog ttA:=by
 refine tt_mem _ _ ?_
 unfold ttA tt
 repeat (refine tt_cons ⟨by kernel_rfl,by kernel_rfl,plains (by rfl),by kernel_rfl,by kernel_rfl,by kernel_rfl⟩ ?_)
 exact tt_nil
theorem row1_calls {α:Type} {enc:α→List Value} {sz:Nat} (hsz:∀ x,(enc x).length=sz) (hpos:0<sz) (hpl:∀ x,∀ v ∈ enc x,plain1 v) (d:α) {τ:TT} (hτ:TTok Tryz.prog τ) {f:FuncId} {fn:Func} {F:FT} {D:List (Nat×DQ)} (hF:FTokI Tryz.prog F (inlOf D)) (hf:(Tryz.prog).funcs[f]?=some fn) (hb:fn.body=some (bodyOf fn)) (hcode:codeB fn.ntmps D (bodyOf fn)=true) {vs:List Value} (hn:Nat.ble vs.length fn.ntmps=true)
  (A:Option Addr) (l:List α) (w:World) (hr:Rd w (·<w.heap.size) A (flat enc l)) (hv:∀ v ∈ vs,okV (fun _=>⟨A,sz,l.length,false,noSub⟩) 1 v) {R:Value→AM→Nat→Prop}
  (h:sx τ F D (bodyOf fn) (argF 0 vs) [(0,rowOfL 3 sz enc d l)] 1 (endx τ fn.results.toList R)) :
  Calls Tryz.prog f (vs.map (den fun _=>⟨A,sz,l.length,false,noSub⟩)).toArray w fun e w'=>∃ v mem' nx' ρ',e=.returned (den ρ' v)∧R v mem' nx'∧okV ρ' nx' v∧MemAt { w0:=w,bor:=[],n0:=1,ρ0:=fun _=>⟨A,sz,l.length,false,noSub⟩,nt:=fn.ntmps } ρ' mem' nx' w'∧Below w.heap.size w w':=by
 have hm:MemAt { w0:=w,bor:=[],n0:=1,ρ0:=fun _=>⟨A,sz,l.length,false,noSub⟩,nt:=fn.ntmps } (fun _=>⟨A,sz,l.length,false,noSub⟩) [(0,rowOfL 3 sz enc d l)] 1 w:=MemAt.rows trivial ⟨⟨Nat.zero_lt_one,rfl,row_of_rd (enc:=enc) (sz:=sz) hsz hpos hpl d rfl hr (fun b hb=>hb)⟩,trivial⟩
 refine (calls_sxI hτ hF mixed hf hb hcode (vs:=vs) hn ⟨rfl,rfl⟩ rfl hm hv h).mono ?_
 rintro e w' ⟨v,mem',nx',ρ',rfl,hR,hv',hm'⟩
 exact⟨v,mem',nx',ρ',rfl,hR,hv',hm',⟨hm'.rest.os,hm'.rest.tape,hm'.rest.output,hm'.rest.size,fun b hlt=>hm'.rest.block b hlt (by simp)⟩⟩
def HasFam {α:Type} (mem:AM) (u o k sz:Nat) (enc:α→List Value) (d:α) (l:List α):Prop:=∃ t sb,lk mem u=some (.ext (.fam t sb))∧(sb k o).sz=sz∧l.length≤(sb k o).n∧∀ j,j<l.length→(sb k o).el j=enc (l.getD j d)
def SrcR {α:Type} (mem:AM) (sz:Nat) (enc:α→List Value) (d:α) (l:List α) (v:Value):Prop:=(v=zs0∧l=[])∨(∃ r cap,v=slc r l.length cap∧HasRow mem r sz enc d l)∨∃ u o k cap,v=.slice (some ⟨u,o,some k⟩) l.length cap∧HasFam mem u o k sz enc d l
theorem SrcR.slice {α:Type} {mem:AM} {sz:Nat} {enc:α→List Value} {d:α} {l:List α} {v:Value} (h:SrcR mem sz enc d l v):∃ A cap,v=.slice A l.length cap:=by
 rcases h with⟨rfl,rfl⟩ | ⟨r,cap,rfl,-⟩ | ⟨u,o,k,cap,rfl,-⟩
 ·exact⟨_,_,rfl⟩
 ·exact⟨_,_,rfl⟩
 ·exact⟨_,_,rfl⟩
theorem SrcR.row {α:Type} {mem:AM} {sz:Nat} {enc:α→List Value} {d:α} {l:List α} {r cap:Nat} (h:HasRow mem r sz enc d l):SrcR mem sz enc d l (slc r l.length cap):=.inr (.inl ⟨r,cap,rfl,h⟩)
theorem den1_slice {ρ:Nat→Pl} {A A':Option Addr} {n c n' c':Nat} (e:den ρ (.slice A n c)=.slice A' n' c'):den1 ρ (.slice A n c)=.slice A' n' c':=e
abbrev ctPut:CT:=ctInl ttA [(202,ctInl ttA [] [] Tryz.f202 (bodyOf Tryz.f202))] [(9000000,{ k:=0,L:=[202] }),(1000002,{ k:=2,L:=[0,1],sl:=[0] }),(3000002,{ k:=3,L:=[0],sl:=[] })] Tryz.f197 (bodyOf Tryz.f197)
def wiF:FT:=[(198,ctInl ttA [] [] Tryz.f198 (bodyOf Tryz.f198)),(197,ctPut)]
def wiD:List (Nat×DQ):=[(9000000,{ k:=0,L:=[198,197] })]
theorem wiFok:FTokI Tryz.prog wiF (inlOf wiD):=fti_cons (inl_ok ttAok fti_nil mixed (by kernel_rfl) Tryz.func198 rfl (by kernel_rfl) (by decide)) (fti_cons (inl_ok ttAok (fti_cons (inl_ok ttAok fti_nil mixed (by kernel_rfl) Tryz.func202 rfl (by kernel_rfl) (by decide)) fti_nil) mixed (by kernel_rfl) Tryz.func197 rfl (by kernel_rfl) (by decide)) fti_nil)
set_option maxRecDepth 100000 in
set_option maxHeartbeats 4000000 in
theorem wint_sx (cap:Nat) (l:List Int) (n:Int) (hl:l.length≤1000000) (hn:in64 n) :
  sx ttA wiF wiD (bodyOf Tryz.f188) (argF 0 [slc 0 l.length cap,.int .i64 n]) [(0,rowOfL 3 1 u8C 0 l)] 1 (endx ttA Tryz.f188.results.toList fun v mem' _=>SlR mem' 1 u8C 0 (l++intBy n) v):=by
 have hw:IntKind.i64.wrap ((l.length:Int)+10)=(l.length:Int)+10:=wrapi (by omega)
 refine⟨⟨by rw[hw];omega,by omega,by rw[hw];show ((l.length:Int)+10) * (1:Int)≤_;omega⟩,?_⟩
 refine⟨⟨Nat.le_refl _,fun k hk=>rfl⟩,?_⟩
 have hw2:(IntKind.i64.wrap ((l.length:Int)+10)).toNat=l.length+10:=by rw[hw];omega
 refine⟨⟨rfl,Nat.zero_le _⟩,fun hin el2 ⟨g1,_⟩ g2=>?_,fun hgt=>absurd hgt (by rw[hw2];omega)⟩
 rw[show Int.toNat 0+l.length=l.length from Nat.zero_add _,hw2]
 clear hin hw hw2 g1
 have g3:∀ k,k<l.length→el2 k=u8C (l.getD k 0):=fun k hk=>by have:=g2 k hk;rwa[show Int.toNat 0+k=k from Nat.zero_add _] at this
 refine⟨Unit,fun _=>[(5,.int .u64 (codeI n))],fun _=>[],fun _=>True,?_,?_⟩
 ·refine⟨fun hneg=>?_,fun hneg=>?_⟩
  ·have hneg2:n<0:=of_decide_eq_true hneg
   refine⟨by decide,?_⟩
   refine⟨(),trivial,(by refine⟨?_,?_⟩;(show some (Value.int .u64 _)=some (Value.int .u64 (codeI n));rw[codeP_neg hn hneg2]);repeat (first | exact trivial | refine⟨rfl,?_⟩)),kp_⟩
  ·have hneg2:¬ n<0:=of_decide_eq_false hneg
   refine⟨by decide,?_⟩
   refine⟨(),trivial,(by refine⟨?_,?_⟩;(show some (Value.int .u64 _)=some (Value.int .u64 (codeI n));rw[codeP_pos hn hneg2]);repeat (first | exact trivial | refine⟨rfl,?_⟩)),kp_⟩
 ·rintro - -
  refine⟨⟨by decide,rfl,rfl⟩,?_⟩
  have hcb:=codeI_bd hn
  have hil:=intBy_len hn
  refine⟨Int×List Int×Nat×(Nat→List Value),fun q=>match q with | (u,s,cp,el)=>[(5,.int .u64 u),(0,slc 2 s.length cp)],fun q=>match q with | (u,s,cp,el)=>[(2,.row (1000000+5) 1 cp el)],fun q=>match q with | (u,s,cp,el)=>(0≤u∧u<18446744073709551616)∧s.length≤cp∧(∀ k,k<s.length→el k=u8C (s.getD k 0))∧s++encU u.toNat=l++intBy n,fun q=>match q with | (u,s,cp,el)=>u.toNat,⟨(codeI n,l,_,_),[(2,1)],?_,⟨rfl,rfl⟩,kp_,kp_⟩,?_⟩
  ·exact⟨hcb,by omega,g3,rfl⟩
  rintro⟨u,s,cp,el⟩ ⟨hu,hcp,hel,heq⟩
  have hsl:s.length≤l.length+10:=by have:=congrArg List.length heq;simp at this;omega
  refine⟨⟨by decide,rfl,rfl⟩,?_⟩
  refine⟨fun hge=>?_,fun hlt=>?_⟩
  ·have hge2:u≥128:=of_decide_eq_true hge
   refine⟨⟨Nat.le_refl _,fun j hj=>by match j,hj with | 0,_=>rfl⟩,?_⟩
   refine⟨⟨rfl,hcp⟩,fun hinq elq ⟨g1q,_⟩ g2q=>?_,fun hgtq=>⟨by show (s.length+1) * 1≤140737488355328;omega,fun capq elq ⟨hcq,_⟩ g1q g2q=>?_⟩⟩
   ·rw[show s.length+1=(s++[u % 128+128]).length by simp]
    refine⟨by decide,?_⟩
    refine⟨(_,s++[u % 128+128],cp,elq),[],?_,⟨rfl,rfl⟩,kp_,kp_⟩
    dsimp only
    rw[shr7 hu.1]
    refine⟨⟨⟨by omega,by omega⟩,by simp;omega,el_snoc hel g1q ?_,?_⟩,by omega⟩
    ·rw[g2q 0 (by omega)]
     exact congrArg (fun z=>[Value.int .u8 z]) (or128 hu.1)
    ·rw[List.append_assoc]
     rw[encU_step hu.1 (by omega)] at heq
     exact heq
   ·rw[show s.length+1=(s++[u % 128+128]).length by simp] at hcq ⊢
    refine⟨by decide,?_⟩
    refine⟨(_,s++[u % 128+128],capq,elq),[(2,4)],?_,⟨rfl,rfl⟩,kp_,kp_⟩
    dsimp only
    rw[shr7 hu.1]
    refine⟨⟨⟨by omega,by omega⟩,hcq,el_snoc hel g1q ?_,?_⟩,by omega⟩
    ·rw[g2q 0 (by omega)]
     exact congrArg (fun z=>[Value.int .u8 z]) (or128 hu.1)
    ·rw[List.append_assoc]
     rw[encU_step hu.1 (by omega)] at heq
     exact heq
  ·have hlt2:¬ u≥128:=of_decide_eq_false hlt
   refine⟨⟨Nat.le_refl _,fun j hj=>by match j,hj with | 0,_=>rfl⟩,?_⟩
   refine⟨⟨rfl,hcp⟩,fun hinz elz ⟨g1z,_⟩ g2z=>?_,fun hgtz=>⟨by show (s.length+1) * 1≤140737488355328;omega,fun capz elz ⟨hcz,_⟩ g1z g2z=>?_⟩⟩
   ·rw[encU_last hu.1 (by omega)] at heq
    rw[← heq]
    refine .inr ⟨2,cp,_,cp,elz,?_,rfl,rfl,by simp;omega,el_snoc hel g1z ?_⟩
    ·rw[show (s++[u]).length=s.length+1 by simp]
    ·rw[g2z 0 (by omega)]
     exact congrArg (fun z=>[Value.int .u8 z]) (wu8 (by omega))
   ·rw[encU_last hu.1 (by omega)] at heq
    rw[← heq]
    refine .inr ⟨4,capz,_,capz,elz,?_,rfl,rfl,by simp;exact hcz,el_snoc hel g1z ?_⟩
    ·rw[show (s++[u]).length=s.length+1 by simp]
    ·rw[g2z 0 (by omega)]
     exact congrArg (fun z=>[Value.int .u8 z]) (wu8 (by omega))
abbrev riF:FT:=[(172,ctInl ttA [] [] Tryz.f172 (bodyOf Tryz.f172))]
abbrev riD:List (Nat×DQ):=[(9000000,{ k:=0,L:=[172] }),(4000002,{ k:=3,L:=[0],sl:=[1] }),(1000003,{ k:=3,L:=[0,2],sl:=[5] }),(3000003,{ k:=4,L:=[0],sl:=[] })]
theorem riFok:FTokI Tryz.prog riF (inlOf riD):=fti_cons (inl_ok ttAok fti_nil mixed (by kernel_rfl) Tryz.func172 rfl (by kernel_rfl) (by decide)) fti_nil
set_option maxRecDepth 100000 in
set_option maxHeartbeats 4000000 in
theorem rint_sx (cap:Nat) (l:List Int) (n:Int) (hl:l.length≤1000000) (hn:in64 n) :
  sx ttA riF riD (bodyOf Tryz.f132) (argF 0 [slc 0 l.length cap,.int .i64 n]) [(0,rowOfL 3 1 u8C 0 l)] 1 (endx ttA Tryz.f132.results.toList fun v mem' _=>SlR mem' 1 u8C 0 (l++intBy n) v):=by
 refine⟨Nat×(Nat→List Value),fun q=>match q with | (cp,el)=>[(5,slc 2 l.length cp)],fun q=>match q with | (cp,el)=>[(2,.row (1000000+5) 1 cp el)],fun q=>match q with | (cp,el)=>l.length≤cp∧∀ k,k<l.length→el k=u8C (l.getD k 0),?_,?_⟩
 ·refine⟨⟨Nat.le_refl _,fun k hk=>rfl⟩,?_⟩
  refine⟨⟨rfl,Nat.le_refl _⟩,fun hin el2 ⟨g1,_⟩ g2=>?_,fun hgt=>⟨by show (0+l.length) * 1≤140737488355328;omega,fun cap2 el2 ⟨hc,_⟩ g1 g2=>?_⟩⟩
  ·rw[Nat.zero_add]
   refine⟨(0,el2),[(2,1)],⟨by omega,fun k hk=>?_⟩,⟨rfl,rfl⟩,kp_,kp_⟩
   have:=g2 k hk
   rwa[Nat.zero_add] at this
  ·rw[Nat.zero_add]
   refine⟨(cap2,el2),[(2,2)],⟨by omega,fun k hk=>?_⟩,⟨rfl,rfl⟩,kp_,kp_⟩
   have:=g2 k hk
   rwa[Nat.zero_add] at this
 ·rintro⟨cp0,el0⟩ ⟨hc0,g3⟩
  refine⟨⟨by decide,rfl,rfl⟩,?_⟩
  refine⟨Unit,fun _=>[(6,.int .u64 (codeI n))],fun _=>[],fun _=>True,?_,?_⟩
  ·refine⟨fun hpos=>?_,fun hpos=>?_⟩
   ·have hpos2:n≥0:=of_decide_eq_true hpos
    refine⟨(),trivial,(by refine⟨?_,?_⟩;(show some (Value.int .u64 _)=some (Value.int .u64 (codeI n));rw[codeR_pos hn hpos2]);repeat (first | exact trivial | refine⟨rfl,?_⟩)),kp_⟩
   ·have hpos2:¬ n≥0:=of_decide_eq_false hpos
    refine⟨(),trivial,(by refine⟨?_,?_⟩;(show some (Value.int .u64 _)=some (Value.int .u64 (codeI n));rw[codeR_neg hn hpos2]);repeat (first | exact trivial | refine⟨rfl,?_⟩)),kp_⟩
  ·rintro - -
   refine⟨⟨by decide,rfl,rfl⟩,?_⟩
   have hcb:=codeI_bd hn
   have hil:=intBy_len hn
   refine⟨Int×List Int×Nat×(Nat→List Value),fun q=>match q with | (u,s,cp,el)=>[(6,.int .u64 u),(5,slc 3 s.length cp)],fun q=>match q with | (u,s,cp,el)=>[(3,.row (1000000+5) 1 cp el)],fun q=>match q with | (u,s,cp,el)=>(0≤u∧u<18446744073709551616)∧s.length≤cp∧(∀ k,k<s.length→el k=u8C (s.getD k 0))∧s++encU u.toNat=l++intBy n,fun q=>match q with | (u,s,cp,el)=>u.toNat,⟨(codeI n,l,_,_),[(3,2)],?_,⟨rfl,rfl⟩,kp_,kp_⟩,?_⟩
   ·exact⟨hcb,hc0,g3,rfl⟩
   rintro⟨u,s,cp,el⟩ ⟨hu,hcp,hel,heq⟩
   have hsl:s.length≤l.length+10:=by have:=congrArg List.length heq;simp at this;omega
   refine⟨⟨by decide,rfl,rfl⟩,?_⟩
   refine⟨fun hge=>?_,fun hlt=>?_⟩
   ·have hge2:u≥128:=of_decide_eq_true hge
    refine⟨⟨rfl,by decide⟩,?_⟩
    refine⟨⟨Nat.le_refl _,fun j hj=>by match j,hj with | 0,_=>rfl⟩,?_⟩
    refine⟨⟨rfl,hcp⟩,fun hinq elq ⟨g1q,_⟩ g2q=>?_,fun hgtq=>⟨by show (s.length+1) * 1≤140737488355328;omega,fun capq elq ⟨hcq,_⟩ g1q g2q=>?_⟩⟩
    ·rw[show s.length+1=(s++[u % 128+128]).length by simp]
     refine⟨⟨rfl,by decide⟩,?_⟩
     refine⟨(_,s++[u % 128+128],cp,elq),[],?_,⟨rfl,rfl⟩,kp_,kp_⟩
     dsimp only
     rw[quo128 hu]
     refine⟨⟨⟨by omega,by omega⟩,by simp;omega,el_snoc hel g1q ?_,?_⟩,by omega⟩
     ·rw[g2q 0 (by omega)]
      exact congrArg (fun z=>[Value.int .u8 z]) (byteR hu.1)
     ·rw[List.append_assoc]
      rw[encU_step hu.1 (by omega)] at heq
      exact heq
    ·rw[show s.length+1=(s++[u % 128+128]).length by simp] at hcq ⊢
     refine⟨⟨rfl,by decide⟩,?_⟩
     refine⟨(_,s++[u % 128+128],capq,elq),[(3,5)],?_,⟨rfl,rfl⟩,kp_,kp_⟩
     dsimp only
     rw[quo128 hu]
     refine⟨⟨⟨by omega,by omega⟩,hcq,el_snoc hel g1q ?_,?_⟩,by omega⟩
     ·rw[g2q 0 (by omega)]
      exact congrArg (fun z=>[Value.int .u8 z]) (byteR hu.1)
     ·rw[List.append_assoc]
      rw[encU_step hu.1 (by omega)] at heq
      exact heq
   ·have hlt2:¬ u≥128:=of_decide_eq_false hlt
    refine⟨⟨Nat.le_refl _,fun j hj=>by match j,hj with | 0,_=>rfl⟩,?_⟩
    refine⟨⟨rfl,hcp⟩,fun hinz elz ⟨g1z,_⟩ g2z=>?_,fun hgtz=>⟨by show (s.length+1) * 1≤140737488355328;omega,fun capz elz ⟨hcz,_⟩ g1z g2z=>?_⟩⟩
    ·rw[encU_last hu.1 (by omega)] at heq
     rw[← heq]
     refine .inr ⟨3,cp,_,cp,elz,?_,rfl,rfl,by simp;omega,el_snoc hel g1z ?_⟩
     ·rw[show (s++[u]).length=s.length+1 by simp]
     ·rw[g2z 0 (by omega)]
      exact congrArg (fun z=>[Value.int .u8 z]) (wu8 (by omega))
    ·rw[encU_last hu.1 (by omega)] at heq
     rw[← heq]
     refine .inr ⟨5,capz,_,capz,elz,?_,rfl,rfl,by simp;exact hcz,el_snoc hel g1z ?_⟩
     ·rw[show (s++[u]).length=s.length+1 by simp]
     ·rw[g2z 0 (by omega)]
      exact congrArg (fun z=>[Value.int .u8 z]) (wu8 (by omega))
theorem Sat.srcR {C:Ctx} {ρ:Nat→Pl} {fr:AF} {mem:AM} {nx:Nat} {a:Act} {w:World} (hs:Sat C ρ fr mem nx a w) {α:Type} {enc:α→List Value} {sz:Nat} (hsz:∀ x,(enc x).length=sz) (hpos:0<sz) {d:α} {l:List α} {v:Value} (h:SrcR mem sz enc d l v):∃ A cap,den ρ v=.slice A l.length cap∧Rd w (·<w.heap.size) A (flat enc l):=by
 rcases h with⟨rfl,rfl⟩ | ⟨r,cap,rfl,hr⟩ | ⟨u,o,k,cap,rfl,t,sb,h1,h2,h3,h4⟩
 ·exact⟨none,0,rfl,fun h=>absurd rfl h⟩
 ·exact⟨(ρ r).A,cap,by simp[den,den2,den1,dA_whole,dS_whole],hs.hasRd hsz hpos hr⟩
 ·refine⟨(ρ u).sub k o,cap,rfl,?_⟩
  have hat:=hs.famAt h1 k o
  by_cases hn:(sb k o).n=0
  ·have:l=[]:=List.eq_nil_of_length_eq_zero (by omega)
   subst this
   exact fun h=>absurd rfl h
  ·have hb:BlkOk C (fun _=>⟨(ρ u).sub k o,sz,(sb k o).n,false,noSub⟩) nx 0 w (.row 0 sz (sb k o).n (sb k o).el):=⟨⟨rfl,rfl⟩,fun j hj=>by rw[← h2];exact hat.pl j hj,by
    obtain⟨b,off,e1,e2,e3,-⟩:=hat.at_.resolve_left hn
    exact .inr ⟨b,off,e1,⟨e2.lt,(fun q=>by cases q),(fun q=>by cases q)⟩,fun j hj q v hv=>by rw[← h2];exact e3 j hj q v hv⟩⟩
   exact hb.rdOf h3 h4 hsz hpos fun _ b off _ hr=>hr.lt
theorem Sat.bytes {C:Ctx} {ρ:Nat→Pl} {fr:AF} {mem:AM} {nx:Nat} {a:Act} {w w':World} {K:Value→AM→Nat→Prop} (hs:Sat C ρ fr mem nx a w) (hb:Below w.heap.size w w') {A:Option Addr} {cp:Nat} {l:List Int} (hr:Rd w' (fun b=>w.heap.size≤b∧b<w'.heap.size) A (flat u8C l)) (hK:K (slc nx l.length cp) ((nx,rowOfL 500000 1 u8C 0 l)::mem) (nx+1)) :
  ∃ v mem' nx' ρ',Ending.returned (.slice A l.length cp)=.returned (den ρ' v)∧K v mem' nx'∧Sat C ρ' fr mem' nx' a w'∧okV ρ' nx' v∧ExtS ρ nx ρ' nx':=by
 obtain⟨q1,-⟩:=(hs.later hb).addList hs.frB hs.rest.size (enc:=u8C) (sz:=1) (fun _=>rfl) (by omega) u8C_plain 0 (t:=500000) rfl hr
 have q2:setPl ρ nx ⟨A,1,l.length,false,noSub⟩ nx=⟨A,1,l.length,false,noSub⟩:=setPl_same _ _ _
 refine⟨slc nx l.length cp,_,_,_,?_,hK,q1,?_,fun i hi=>setPl_lt _ _ hi,by omega⟩
 ·show Ending.returned (.slice A l.length cp)=.returned (.slice (setPl ρ nx ⟨A,1,l.length,false,noSub⟩ nx).A l.length cp)
  rw[q2]
 ·exact⟨show nx<nx+1 by omega,by rw[q2]⟩
theorem wInt_calls (A:Option Addr) (cap:Nat) (l:List Int) (n:Int) (w:World) (hl:l.length≤1000000) (hn:in64 n) (hr:Rd w (·<w.heap.size) A (flat u8C l)):Calls Tryz.prog 188 #[.slice A l.length cap,.int .i64 n] w fun e w'=>∃ A2 cp,e=.returned (.slice A2 (l++intBy n).length cp)∧Rd w' (fun b=>w.heap.size≤b∧b<w'.heap.size) A2 (flat u8C (l++intBy n))∧Below w.heap.size w w':=by
 have:=row1_calls (enc:=u8C) (sz:=1) (fun _=>rfl) (by omega) u8C_plain 0 ttAok wiFok Tryz.func188 rfl (D:=wiD) (by kernel_rfl) (vs:=[slc 0 l.length cap,.int .i64 n]) rfl A l w hr (fun v hv=>by
  simp only[List.mem_cons,List.not_mem_nil,or_false] at hv
  rcases hv with rfl | rfl
  ·exact⟨Nat.zero_lt_one,rfl⟩
  ·trivial) (wint_sx cap l n hl hn)
 have e0:([slc 0 l.length cap,.int .i64 n].map (den fun _=>⟨A,1,l.length,false,noSub⟩)).toArray=#[.slice A l.length cap,.int .i64 n]:=by simp[den,den2,den1,dA_whole,dS_whole]
 rw[e0] at this
 refine this.mono ?_
 rintro e w' ⟨v,mem',nx',ρ',rfl,hR,hv,hm',hb⟩
 obtain⟨A2,cp,e1,hr2⟩:=hm'.slR (enc:=u8C) (sz:=1) (fun _=>rfl) (by omega) hR
 refine⟨A2,cp,?_,hr2,hb⟩
 congr 1
 rcases hR with⟨rfl,-⟩ | ⟨r,cap,t,n,el,rfl,-⟩
 ·exact e1
 ·exact e1
def ctWInt:CT:=fun vs mem nx K=>∃ v l n,vs=[v,.int .i64 n]∧SrcR mem 1 u8C 0 (l:List Int) v∧(l.length≤1000000∧in64 n)∧∀ cp,K (slc nx (l++intBy n).length cp) ((nx,rowOfL 500000 1 u8C 0 (l++intBy n))::mem) (nx+1)
theorem wIntOk:CSound Tryz.prog 188 ctWInt:=⟨by kernel_rfl,fun {C ρ fr mem nx a w vs K} hc hs hv=>by
 obtain⟨v,l,n,rfl,hsrc,⟨hl,hn⟩,hK⟩:=hc
 obtain⟨A,cap,e0,hr⟩:=hs.srcR (enc:=u8C) (sz:=1) (fun _=>rfl) (by omega) hsrc
 have e1:([v,.int .i64 n].map (den ρ)).toArray=#[.slice A l.length cap,.int .i64 n]:=by rw[List.map_cons,e0];rfl
 rw[e1]
 refine (wInt_calls A cap l n w hl hn hr).mono ?_
 rintro e w' ⟨A2,cp,rfl,hr2,hb⟩
 exact hs.bytes hb hr2 (hK cp)⟩
theorem rInt_calls (A:Option Addr) (cap:Nat) (l:List Int) (n:Int) (w:World) (hl:l.length≤1000000) (hn:in64 n) (hr:Rd w (·<w.heap.size) A (flat u8C l)):Calls Tryz.prog 132 #[.slice A l.length cap,.int .i64 n] w fun e w'=>∃ A2 cp,e=.returned (.slice A2 (l++intBy n).length cp)∧Rd w' (fun b=>w.heap.size≤b∧b<w'.heap.size) A2 (flat u8C (l++intBy n))∧Below w.heap.size w w':=by
 have:=row1_calls (enc:=u8C) (sz:=1) (fun _=>rfl) (by omega) u8C_plain 0 ttAok riFok Tryz.func132 rfl (D:=riD) (by kernel_rfl) (vs:=[slc 0 l.length cap,.int .i64 n]) rfl A l w hr (fun v hv=>by
  simp only[List.mem_cons,List.not_mem_nil,or_false] at hv
  rcases hv with rfl | rfl
  ·exact⟨Nat.zero_lt_one,rfl⟩
  ·trivial) (rint_sx cap l n hl hn)
 have e0:([slc 0 l.length cap,.int .i64 n].map (den fun _=>⟨A,1,l.length,false,noSub⟩)).toArray=#[.slice A l.length cap,.int .i64 n]:=by simp[den,den2,den1,dA_whole,dS_whole]
 rw[e0] at this
 refine this.mono ?_
 rintro e w' ⟨v,mem',nx',ρ',rfl,hR,hv,hm',hb⟩
 obtain⟨A2,cp,e1,hr2⟩:=hm'.slR (enc:=u8C) (sz:=1) (fun _=>rfl) (by omega) hR
 refine⟨A2,cp,?_,hr2,hb⟩
 congr 1
 rcases hR with⟨rfl,-⟩ | ⟨r,cap,t,n,el,rfl,-⟩
 ·exact e1
 ·exact e1
def ctRInt:CT:=fun vs mem nx K=>∃ v l n,vs=[v,.int .i64 n]∧SrcR mem 1 u8C 0 (l:List Int) v∧(l.length≤1000000∧in64 n)∧∀ cp,K (slc nx (l++intBy n).length cp) ((nx,rowOfL 500000 1 u8C 0 (l++intBy n))::mem) (nx+1)
theorem rIntOk:CSound Tryz.prog 132 ctRInt:=⟨by kernel_rfl,fun {C ρ fr mem nx a w vs K} hc hs hv=>by
 obtain⟨v,l,n,rfl,hsrc,⟨hl,hn⟩,hK⟩:=hc
 obtain⟨A,cap,e0,hr⟩:=hs.srcR (enc:=u8C) (sz:=1) (fun _=>rfl) (by omega) hsrc
 have e1:([v,.int .i64 n].map (den ρ)).toArray=#[.slice A l.length cap,.int .i64 n]:=by rw[List.map_cons,e0];rfl
 rw[e1]
 refine (rInt_calls A cap l n w hl hn hr).mono ?_
 rintro e w' ⟨A2,cp,rfl,hr2,hb⟩
 exact hs.bytes hb hr2 (hK cp)⟩
end Go.Proofs.YtchhdflealgkaaaGreat
