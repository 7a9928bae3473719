import Derived.Test.YtbmlgcjoeeejbaaGreatPx16
namespace Go.Proofs.YtbmlgcjoeeejbaaGreat
open Go.RowKit
set_option linter.unusedSimpArgs false
set_option linter.unusedVariables false
/-! make.Config: what it answers -/
theorem flat_intsC:∀ zs:List Int,flat intC zs=zs.map (Value.int .i64)
 | []=>rfl
 | z::r=>by simp only[flat,List.flatMap_cons,List.map_cons];rw[show r.flatMap intC=flat intC r from rfl,flat_intsC r];rfl
theorem mkConfig_any (A:Option Addr) (cap:Nat) (zs:List Int) (w:World) (hz:zs.length≤400) (hr:Rd w (·<w.heap.size) A (zs.map (Value.int .i64))):Calls Tryz.prog 18 #[.slice A zs.length cap] w (CfgPost w):=by
 rw[← flat_intsC] at hr
 let ρ:Nat→Pl:=fun _=>⟨A,1,zs.length,false,noSub⟩
 have hm:MemAt { w0:=w,bor:=[],n0:=1,ρ0:=ρ,nt:=Tryz.f18.ntmps } ρ [(0,intRow zs)] 1 w:=MemAt.rows trivial ⟨⟨Nat.zero_lt_one,rfl,row_of_rd (enc:=intC) (sz:=1) (fun _=>rfl) (by omega) intC_plain 0 rfl hr (fun b hb=>hb)⟩,trivial⟩
 have:=calls_sxI ttUok (cwFok.i _) mixed Tryz.func18 rfl (D:=cwD) (by kernel_rfl) (vs:=[slc 0 zs.length cap]) rfl ⟨rfl,rfl⟩ rfl hm (fun v hv=>by
  simp only[List.mem_cons,List.not_mem_nil,or_false] at hv
  subst hv
  exact⟨Nat.zero_lt_one,rfl⟩) (config_sx cap zs hz)
 have e0:([slc 0 zs.length cap].map (den ρ)).toArray=#[.slice A zs.length cap]:=by simp[den,den2,den1,dA_whole,dS_whole,ρ]
 rw[e0] at this
 refine this.mono ?_
 rintro e w' ⟨v,mem',nx',ρ',rfl,⟨N,x,c,T,hM,rfl,⟨n1,n2,n4,n5,n6⟩,hT⟩,-,hm'⟩
 have hb:Below w.heap.size w w':=⟨hm'.rest.os,hm'.rest.tape,hm'.rest.output,hm'.rest.size,fun b hlt=>hm'.rest.block b hlt (by simp)⟩
 have eT:∃ A3 ct,den1 ρ' T=.slice A3 c.tenants.length ct∧Rd w' (fun b=>w.heap.size≤b∧b<w'.heap.size) A3 (flat tenC c.tenants):=by
  rcases hT with⟨rfl,h0⟩ | ⟨r,cp,rfl,n3⟩
  ·refine⟨none,0,by rw[h0];rfl,?_⟩
   rw[h0]
   exact fun q=>absurd rfl q
  ·exact⟨(ρ' r).A,cp,by simp[den1,dA_whole,dS_whole],hm'.newRd (enc:=tenC) (sz:=7) (fun _=>rfl) (by omega) n3⟩
 obtain⟨A3,ct,e3,n3⟩:=eT
 refine⟨⟨(ρ' N.z).A,x.cz,(ρ' N.c).A,x.cc,A3,ct,(ρ' N.v).A,x.cv,(ρ' N.r).A,x.cr,(ρ' N.o).A,x.co⟩,c,?_,⟨hm'.newRd (enc:=intC) (sz:=1) (fun _=>rfl) (by omega) n1,hm'.newRd (enc:=pairC) (sz:=2) (fun _=>rfl) (by omega) n2,n3,hm'.newRd (enc:=pairC) (sz:=2) (fun _=>rfl) (by omega) n4,hm'.newRd (enc:=intC) (sz:=1) (fun _=>rfl) (by omega) n5,hm'.newRd (enc:=intC) (sz:=1) (fun _=>rfl) (by omega) n6⟩,hM,hb⟩
 have d:∀ v,den1 ρ' (.int .i64 v)=.int .i64 v:=fun _=>rfl
 have d2:∀ r n c,den1 ρ' (slc r n c)=.slice (ρ' r).A n c:=fun r n c=>by simp[den1,dA_whole,dS_whole]
 congr 1
 simp only[den,den2,cfgC]
 simp[d,d2,e3]
section
variable {C:Ctx} {ρ:Nat→Pl} {fr:AF} {mem:AM} {nx:Nat} {a:Act} {w w':World}
def cfgPl (ρ:Nat→Pl) (nx:Nat) (x:CfgA) (c:Cfg):Nat→Pl:=
 setPl (setPl (setPl (setPl (setPl (setPl ρ nx ⟨x.ao,1,c.observers.length,false,noSub⟩) (nx+1) ⟨x.ar,1,c.replicas.length,false,noSub⟩) (nx+2) ⟨x.av,2,c.versions.length,false,noSub⟩) (nx+3) ⟨x.at_,7,c.tenants.length,false,noSub⟩) (nx+4) ⟨x.ac,2,c.cells.length,false,noSub⟩) (nx+5) ⟨x.az,1,c.zones.length,false,noSub⟩
theorem Sat.addCfg (h0:Sat C ρ fr mem nx a w) (hb:Below w.heap.size w w') {x:CfgA} {c:Cfg} (hc:CfgOk w' (fun b=>w.heap.size≤b∧b<w'.heap.size) x c) :
  Sat C (cfgPl ρ nx x c) fr (cfgM ⟨nx+5,nx+4,nx+3,nx+2,nx+1,nx,500000⟩ c++mem) (nx+6) a w'∧den (cfgPl ρ nx x c) (cfgV ⟨nx+5,nx+4,nx+3,nx+2,nx+1,nx,500000⟩ ⟨x.cz,x.cc,x.ct,x.cv,x.cr,x.co⟩ c)=.agg (cfgC x c)∧okV (cfgPl ρ nx x c) (nx+6) (cfgV ⟨nx+5,nx+4,nx+3,nx+2,nx+1,nx,500000⟩ ⟨x.cz,x.cc,x.ct,x.cv,x.cr,x.co⟩ c)∧ExtS ρ nx (cfgPl ρ nx x c) (nx+6):=by
 obtain⟨h1,f1⟩:=(h0.later hb).addList h0.frB h0.rest.size (enc:=intC) (sz:=1) (fun _=>rfl) (by omega) intC_plain 0 (t:=500000) rfl hc.observers
 obtain⟨h2,f2⟩:=h1.addList f1 h0.rest.size (enc:=intC) (sz:=1) (fun _=>rfl) (by omega) intC_plain 0 (t:=500000) rfl hc.replicas
 obtain⟨h3,f3⟩:=h2.addList f2 h0.rest.size (enc:=pairC) (sz:=2) (fun _=>rfl) (by omega) pairC_plain (0,0) (t:=500000) rfl hc.versions
 obtain⟨h4,f4⟩:=h3.addList f3 h0.rest.size (enc:=tenC) (sz:=7) (fun _=>rfl) (by omega) tenC_plain default (t:=500000) rfl hc.tenants
 obtain⟨h5,f5⟩:=h4.addList f4 h0.rest.size (enc:=pairC) (sz:=2) (fun _=>rfl) (by omega) pairC_plain (0,0) (t:=500000) rfl hc.cells
 obtain⟨h6,-⟩:=h5.addList f5 h0.rest.size (enc:=intC) (sz:=1) (fun _=>rfl) (by omega) intC_plain 0 (t:=500000) rfl hc.zones
 have q5:cfgPl ρ nx x c (nx+5)=⟨x.az,1,c.zones.length,false,noSub⟩:=setPl_same _ _ _
 have q4:cfgPl ρ nx x c (nx+4)=⟨x.ac,2,c.cells.length,false,noSub⟩:=by unfold cfgPl;rw[setPl_lt _ _ (by omega),setPl_same]
 have q3:cfgPl ρ nx x c (nx+3)=⟨x.at_,7,c.tenants.length,false,noSub⟩:=by unfold cfgPl;rw[setPl_lt _ _ (by omega),setPl_lt _ _ (by omega),setPl_same]
 have q2:cfgPl ρ nx x c (nx+2)=⟨x.av,2,c.versions.length,false,noSub⟩:=by unfold cfgPl;rw[setPl_lt _ _ (by omega),setPl_lt _ _ (by omega),setPl_lt _ _ (by omega),setPl_same]
 have q1:cfgPl ρ nx x c (nx+1)=⟨x.ar,1,c.replicas.length,false,noSub⟩:=by unfold cfgPl;rw[setPl_lt _ _ (by omega),setPl_lt _ _ (by omega),setPl_lt _ _ (by omega),setPl_lt _ _ (by omega),setPl_same]
 have q0:cfgPl ρ nx x c nx=⟨x.ao,1,c.observers.length,false,noSub⟩:=by unfold cfgPl;rw[setPl_lt _ _ (by omega),setPl_lt _ _ (by omega),setPl_lt _ _ (by omega),setPl_lt _ _ (by omega),setPl_lt _ _ (by omega),setPl_same]
 refine⟨h6,?_,?_,fun i hi=>?_,by omega⟩
 ·rw[den_cfg]
  congr 2
  simp[cfgX,q0,q1,q2,q3,q4,q5]
 ·intro u hu
  simp at hu
  rcases hu with rfl | rfl | rfl | rfl | rfl | rfl | rfl | rfl | rfl | rfl<;>first | trivial | exact⟨show nx+5<nx+6 by omega,by rw[q5]⟩ | exact⟨show nx+4<nx+6 by omega,by rw[q4]⟩ | exact⟨show nx+3<nx+6 by omega,by rw[q3]⟩ | exact⟨show nx+2<nx+6 by omega,by rw[q2]⟩ | exact⟨show nx+1<nx+6 by omega,by rw[q1]⟩ | exact⟨show nx<nx+6 by omega,by rw[q0]⟩
 ·unfold cfgPl
  rw[setPl_lt _ _ (by omega),setPl_lt _ _ (by omega),setPl_lt _ _ (by omega),setPl_lt _ _ (by omega),setPl_lt _ _ (by omega),setPl_lt _ _ hi]
end
theorem flat_ints:∀ zs:List Int,flat intC zs=zs.map (Value.int .i64)
 | []=>rfl
 | z::r=>by simp only[flat,List.flatMap_cons,List.map_cons];rw[show r.flatMap intC=flat intC r from rfl,flat_ints r];rfl
def ctConfig:CT:=fun vs mem nx K=>∃ i cap zs,vs=[slc i (zs:List Int).length cap]∧lk mem i=some (intRow zs)∧zs.length≤400∧∀ x c,MadeCfg c→K (cfgV ⟨nx+5,nx+4,nx+3,nx+2,nx+1,nx,500000⟩ x c) (cfgM ⟨nx+5,nx+4,nx+3,nx+2,nx+1,nx,500000⟩ c++mem) (nx+6)
theorem configOk:CSound Tryz.prog 18 ctConfig:=⟨by kernel_rfl,fun {C ρ fr mem nx a w vs K} hc hs hv=>by
 obtain⟨i,cap,zs,rfl,hi,hz,hK⟩:=hc
 have hr:Rd w (·<w.heap.size) (ρ i).A (zs.map (Value.int .i64)):=by
  rw[← flat_ints]
  exact hs.rd (enc:=intC) (sz:=1) (fun _=>rfl) (by omega) hi (fun b h _=>h)
 have e:([slc i zs.length cap].map (den ρ)).toArray=#[.slice (ρ i).A zs.length cap]:=by simp[den,den2,den1,dA_whole,dS_whole]
 rw[e]
 refine (mkConfig_any (ρ i).A cap zs w hz hr).mono ?_
 rintro e w' ⟨x,c,rfl,hok,hM,hb⟩
 obtain⟨q1,q2,q3,q4⟩:=hs.addCfg hb hok
 exact⟨_,_,_,_,by rw[q2],hK _ c hM,q1,q3,q4⟩⟩
theorem addAt_len (l:List Int) (i n:Int):(addAt l i n).length=l.length:=by unfold addAt;split<;>simp
def bookK (c:Cfg) (s:St) (k:Nat):List Int:=((s.tenants.zip c.tenants).take k).foldl (fun l p=>bookT l p.1 p.2) (List.replicate c.cells.length 0)
theorem bookK_succ {c:Cfg} {s:St} {k:Nat} {t:TS} {d:Ten} (h1:s.tenants[k]?=some t) (h2:c.tenants[k]?=some d):bookK c s (k+1)=bookT (bookK c s k) t d:=by
 have hz:(s.tenants.zip c.tenants)[k]?=some (t,d):=by
  rw[List.getElem?_zip_eq_some]
  exact⟨h1,h2⟩
 obtain⟨hk,he⟩:=List.getElem?_eq_some_iff.1 hz
 unfold bookK
 rw[List.take_succ_eq_append_getElem hk,List.foldl_append,he]
 rfl
theorem bookK_all (c:Cfg) (s:St) {k:Nat} (hk:s.tenants.length≤k):bookK c s k=booked c s:=by
 unfold bookK booked
 rw[List.take_of_length_le]
 rw[List.length_zip]
 omega
def Within (l:List Int) (m:Int):Prop:=∀ z ∈ l,0≤z∧z≤m
theorem Within.add {l:List Int} {m n:Int} (h:Within l m) (hn:0≤n) (i:Int):Within (addAt l i n) (m+n):=by
 unfold addAt
 split
 ·rename_i hi
  intro z hz
  obtain⟨k,rfl⟩:=Int.eq_ofNat_of_zero_le hi.1
  have hk:k<l.length:=by omega
  rcases List.mem_or_eq_of_mem_set hz with hz | rfl
  ·have:=h z hz;omega
  ·rw[Int.toNat_natCast,getD_some (List.getElem?_eq_getElem hk)]
   have:=h _ (List.getElem_mem hk)
   omega
 ·intro z hz
  have:=h z hz
  omega
theorem bookT_len (l:List Int) (t:TS) (d:Ten):(bookT l t d).length=l.length:=by
 unfold bookT
 split
 ·rfl
 ·rw[addAt_len,addAt_len]
  split
  ·rfl
  ·rw[addAt_len,addAt_len]
theorem Within.mono {l:List Int} {m m':Int} (h:Within l m) (hm:m≤m'):Within l m':=fun z hz=>by have:=h z hz;omega
theorem Within.book {l:List Int} {m:Int} (h:Within l m) (t:TS) {d:Ten} (h1:0≤d.load) (h2:0≤d.shadow):Within (bookT l t d) (m+2 * d.load+2 * d.shadow):=by
 unfold bookT
 split
 ·exact h.mono (by omega)
 ·split
  ·exact ((h.add h2 _).add h2 _).mono (by omega)
  ·exact ((((h.add h1 _).add h1 _).add h2 _).add h2 _).mono (by omega)
theorem bookK_len (c:Cfg) (s:St) (k:Nat):(bookK c s k).length=c.cells.length:=by
 unfold bookK
 generalize (s.tenants.zip c.tenants).take k=q
 have:∀ (q:List (TS×Ten)) (l:List Int),(q.foldl (fun l p=>bookT l p.1 p.2) l).length=l.length:=by
  intro q
  induction q with
  | nil=>intro l;rfl
  | cons a q ih=>intro l;rw[List.foldl_cons,ih,bookT_len]
 rw[this]
 simp
theorem bookK_within {c:Cfg} (hV:CfgV c) (s:St):∀ k,Within (bookK c s k) (k * 262144):=by
 intro k
 induction k with
 | zero=>
  intro z hz
  have:z=0:=by
   have hz':z ∈ List.replicate c.cells.length (0:Int):=hz
   exact List.eq_of_mem_replicate hz'
  subst this
  simp
 | succ k ih=>
  cases h1:s.tenants[k]? with
  | none=>
   have hk:s.tenants.length≤k:=by simpa using h1
   rw[bookK_all c s (by omega),← bookK_all c s hk]
   exact ih.mono (by omega)
  | some t=>
   cases h2:c.tenants[k]? with
   | none=>
    have hk:c.tenants.length≤k:=by simpa using h2
    have e:bookK c s (k+1)=bookK c s k:=by
     unfold bookK
     rw[List.take_of_length_le (by rw[List.length_zip];omega),List.take_of_length_le (by rw[List.length_zip];omega)]
    rw[e]
    exact ih.mono (by omega)
   | some d=>
    rw[bookK_succ h1 h2]
    have hd:=tenAt_bd hV h2
    exact (ih.book t (by omega) (by omega)).mono (by omega)
/-! ref11.Booked,ref11.Over -/
theorem addAt_in {l:List Int} {i n:Int} (h0:0≤i) (h1:i<l.length):addAt l i n=l.set i.toNat (l.getD i.toNat 0+n):=by unfold addAt;rw[if_pos ⟨h0,h1⟩]
theorem addAt_out {l:List Int} {i n:Int} (h:¬ (0≤i∧i<l.length)):addAt l i n=l:=by unfold addAt;rw[if_neg h]
theorem Within.getD {l:List Int} {m:Int} (h:Within l m) {k:Nat} (hk:k<l.length):0≤l.getD k 0∧l.getD k 0≤m:=by
 rw[getD_some (List.getElem?_eq_getElem hk)]
 exact h _ (List.getElem_mem hk)
abbrev rowI (n:Nat) (l:List Int):ABlk:=.row (1000000+3) 1 n (fun k=>intC (l.getD k 0))
def bkF:FT:=[(106,ctInl tt [] [] Tryz.f106 (bodyOf Tryz.f106))]
def bkD:List (Nat×DQ):=[(9000000,{ k:=0,L:=[106] }),
 (2000003,{ k:=0,L:=[0,1,2,3,4,5,6,7,8,9,10,11],sl:=[2,3,5] }),
 (5,{ k:=13,L:=[0,1,2,3,4,5,6,7,8,9,10,11],A:=[10,11],pre:=[(0,false),(1,false),(2,false),(3,false),(4,false),(5,false),(6,false),(7,false),(8,false),(9,false)],post:=[(12,true)] }),
 (1000009,{ k:=15,L:=[0,1,2,3,4,5,6,7,8,9,10,11,13,14],sl:=[2,3,5,6,7,8] }),
 (1000010,{ k:=15,L:=[0,1,2,3,4,5,6,7,8,9,10,11,13,14],sl:=[2,3,5,6,7,8] }),
 (1000011,{ k:=15,L:=[0,1,2,3,4,5,6,7,8,9,10,11,13,14],sl:=[2,3,5,6,7,8] }),
 (1000004,{ k:=15,L:=[0,1,2,3,4,5,6,7,8,9,10,11],sl:=[2,3,5,6] })]
theorem bkFok:FTokI Tryz.prog bkF (inlOf bkD):=fti_cons (inl_ok ttOk (ft_nil.i _) mixed (by kernel_rfl) Tryz.func106 rfl (by kernel_rfl) (by decide)) fti_nil
set_option maxRecDepth 100000 in
set_option maxHeartbeats 4000000 in
theorem booked_sx (x:CfgK) (c:Cfg) (y:StK) (s:St) (hV:CfgV c) (hlt:s.tenants.length=c.tenants.length) :
  sx tt bkF bkD (bodyOf Tryz.f104) (argF 0 [cfgV CN1 x c,stV SN1 y s]) (rdM c s noS) 10 (endx tt Tryz.f104.results.toList fun v mem' _=>SlR mem' 1 intC 0 (booked c s) v):=by
 have hnt:=hV.nt
 have hnc:=hV.nc
 have e0:(fun _:Nat=>[zi])=fun k=>intC ((bookK c s 0).getD k 0):=by
  funext k
  show [zi]=intC ((List.replicate c.cells.length (0:Int)).getD k 0)
  rw[List.getD_eq_getElem?_getD,List.getElem?_replicate]
  split<;>rfl
 refine⟨⟨Int.le_refl _,by omega,by show _ * (8:Int)≤_;omega⟩,?_⟩
 refine⟨Int×List Int,fun q=>match q with | (i,l)=>[(6,.int .i64 i)],fun q=>match q with | (i,l)=>[(12,rowI c.cells.length l)],fun q=>match q with | (i,l)=>(0≤i∧i≤s.tenants.length)∧l=bookK c s i.toNat,fun q=>match q with | (i,l)=>((s.tenants.length:Int)-i).toNat,⟨(0,bookK c s 0),⟨by omega,rfl⟩,kp_,⟨?_,kp_⟩⟩,?_⟩
 ·show some (ABlk.row _ 1 _ (fun _=>[zi]))=_
  rw[e0]
  rfl
 ·rintro⟨i,l⟩ ⟨hi,hl⟩
  refine⟨⟨rfl,rfl⟩,?_⟩
  refine⟨fun hlt1=>?_,fun hge=>?_⟩
  ·have hlt2:i<(s.tenants.length:Int):=of_decide_eq_true hlt1
   have hk0:i.toNat<s.tenants.length:=by omega
   have hk1:i.toNat<c.tenants.length:=by omega
   have hd:=tenAt_bd hV (getD_get (d:=default) hk1)
   have hw0:=bookK_within hV s i.toNat
   have hl0:=bookK_len c s i.toNat
   have hsucc:=bookK_succ (getD_get (d:=default) hk0) (getD_get (d:=default) hk1)
   refine⟨List Int,fun _=>[],fun l=>[(12,rowI c.cells.length l)],fun l=>l=(bookT (bookK c s i.toNat) (s.tenants.getD i.toNat default) (c.tenants.getD i.toNat default)),?_,?_⟩
   ·refine⟨⟨Nat.le_refl _,hi.1,hlt2⟩,?_⟩
    refine⟨⟨Nat.le_refl _,hi.1,by omega⟩,?_⟩
    refine⟨kp_,?_⟩
    refine⟨fun hp=>?_,fun hp=>?_⟩
    ·refine⟨_,?_,kp_,kp_⟩
     rw[hl];unfold bookT;rw[if_pos (by simpa using hp)]
    ·have hpl:(s.tenants.getD i.toNat default).placed=true:=by simpa using hp
     refine⟨List Int,fun _=>[],fun l=>[(12,rowI c.cells.length l)],fun l=>l=(if (s.tenants.getD i.toNat default).shed then (bookK c s i.toNat) else (addAt (addAt (bookK c s i.toNat) (s.tenants.getD i.toNat default).home (c.tenants.getD i.toNat default).load) (s.tenants.getD i.toNat default).target (c.tenants.getD i.toNat default).load)),?_,?_⟩
     ·refine⟨fun hs=>?_,fun hs=>?_⟩
      ·have hs2:(s.tenants.getD i.toNat default).shed=false:=by simpa using hs
       refine⟨List Int,fun _=>[],fun l=>[(12,rowI c.cells.length l)],fun l=>l=(addAt (bookK c s i.toNat) (s.tenants.getD i.toNat default).home (c.tenants.getD i.toNat default).load),?_,?_⟩
       ·have hle:=hl
        have hw:=hw0
        rw[← hle] at hw
        have hlen:l.length=c.cells.length:=by rw[hle];exact hl0
        refine⟨fun a0=>?_,fun a0=>?_⟩
        ·refine⟨fun a1=>?_,fun a1=>?_⟩
         ·have a1b:(s.tenants.getD i.toNat default).home<(l.length:Int):=by have q:(s.tenants.getD i.toNat default).home<((c.cells.length:Int).toNat:Int):=of_decide_eq_true a1;omega
          have a0b:0≤(s.tenants.getD i.toNat default).home:=of_decide_eq_true a0
          have hk:((s.tenants.getD i.toNat default).home).toNat<l.length:=by omega
          have hg:=hw.getD hk
          refine⟨⟨by omega,a0b,by omega⟩,?_⟩
          refine⟨⟨by omega,a0b,by omega⟩,?_⟩
          refine⟨intC (l.getD ((s.tenants.getD i.toNat default).home).toNat 0+(c.tenants.getD i.toNat default).load),by rw[wrapi (n:=l.getD ((s.tenants.getD i.toNat default).home).toNat 0+(c.tenants.getD i.toNat default).load) (by omega)];rfl,?_⟩
          rw[setEl_set hk]
          refine⟨_,?_,kp_,kp_⟩
          rw[← hle];exact (addAt_in a0b a1b).symm
         ·refine⟨_,?_,kp_,kp_⟩
          rw[← hle];exact (addAt_out (by rintro⟨-,q⟩;have q2:¬ (s.tenants.getD i.toNat default).home<((c.cells.length:Int).toNat:Int):=of_decide_eq_false a1;omega)).symm
        ·refine⟨(fun h=>nomatch h),fun _=>?_⟩
         refine⟨_,?_,kp_,kp_⟩
         rw[← hle];exact (addAt_out (by rintro⟨q,-⟩;exact absurd q (of_decide_eq_false a0))).symm
       ·rintro l hle
        refine⟨⟨by decide,rfl,rfl⟩,?_⟩
        have hw1:=hw0.add (n:=(c.tenants.getD i.toNat default).load) (by omega) (s.tenants.getD i.toNat default).home
        have hw:=hw1
        rw[← hle] at hw
        have hlen:l.length=c.cells.length:=by rw[hle,addAt_len];exact hl0
        refine⟨fun a0=>?_,fun a0=>?_⟩
        ·refine⟨fun a1=>?_,fun a1=>?_⟩
         ·have a1b:(s.tenants.getD i.toNat default).target<(l.length:Int):=by have q:(s.tenants.getD i.toNat default).target<((c.cells.length:Int).toNat:Int):=of_decide_eq_true a1;omega
          have a0b:0≤(s.tenants.getD i.toNat default).target:=of_decide_eq_true a0
          have hk:((s.tenants.getD i.toNat default).target).toNat<l.length:=by omega
          have hg:=hw.getD hk
          refine⟨⟨by omega,a0b,by omega⟩,?_⟩
          refine⟨⟨by omega,a0b,by omega⟩,?_⟩
          refine⟨intC (l.getD ((s.tenants.getD i.toNat default).target).toNat 0+(c.tenants.getD i.toNat default).load),by rw[wrapi (n:=l.getD ((s.tenants.getD i.toNat default).target).toNat 0+(c.tenants.getD i.toNat default).load) (by omega)];rfl,?_⟩
          rw[setEl_set hk]
          refine⟨_,?_,kp_,kp_⟩
          rw[hs2,if_neg (by decide),← hle];exact (addAt_in a0b a1b).symm
         ·refine⟨_,?_,kp_,kp_⟩
          rw[hs2,if_neg (by decide),← hle];exact (addAt_out (by rintro⟨-,q⟩;have q2:¬ (s.tenants.getD i.toNat default).target<((c.cells.length:Int).toNat:Int):=of_decide_eq_false a1;omega)).symm
        ·refine⟨(fun h=>nomatch h),fun _=>?_⟩
         refine⟨_,?_,kp_,kp_⟩
         rw[hs2,if_neg (by decide),← hle];exact (addAt_out (by rintro⟨q,-⟩;exact absurd q (of_decide_eq_false a0))).symm
      ·have hs2:(s.tenants.getD i.toNat default).shed=true:=by simpa using hs
       refine⟨_,?_,kp_,kp_⟩
       rw[hs2,if_pos rfl];exact hl
     ·rintro l hle
      refine⟨⟨by decide,rfl,rfl⟩,?_⟩
      refine⟨List Int,fun _=>[],fun l=>[(12,rowI c.cells.length l)],fun l=>l=(addAt (if (s.tenants.getD i.toNat default).shed then (bookK c s i.toNat) else (addAt (addAt (bookK c s i.toNat) (s.tenants.getD i.toNat default).home (c.tenants.getD i.toNat default).load) (s.tenants.getD i.toNat default).target (c.tenants.getD i.toNat default).load)) (s.tenants.getD i.toNat default).standby (c.tenants.getD i.toNat default).shadow),?_,?_⟩
      ·have hw2:Within (if (s.tenants.getD i.toNat default).shed then (bookK c s i.toNat) else (addAt (addAt (bookK c s i.toNat) (s.tenants.getD i.toNat default).home (c.tenants.getD i.toNat default).load) (s.tenants.getD i.toNat default).target (c.tenants.getD i.toNat default).load)) ((i.toNat:Int) * 262144+(c.tenants.getD i.toNat default).load+(c.tenants.getD i.toNat default).load):=by
        split
        ·exact hw0.mono (by omega)
        ·exact (hw0.add (n:=(c.tenants.getD i.toNat default).load) (by omega) (s.tenants.getD i.toNat default).home).add (n:=(c.tenants.getD i.toNat default).load) (by omega) (s.tenants.getD i.toNat default).target
       have hw:=hw2
       rw[← hle] at hw
       have hlen:l.length=c.cells.length:=by
        rw[hle];split<;>simp only[addAt_len,hl0]
       refine⟨fun a0=>?_,fun a0=>?_⟩
       ·refine⟨fun a1=>?_,fun a1=>?_⟩
        ·have a1b:(s.tenants.getD i.toNat default).standby<(l.length:Int):=by have q:(s.tenants.getD i.toNat default).standby<((c.cells.length:Int).toNat:Int):=of_decide_eq_true a1;omega
         have a0b:0≤(s.tenants.getD i.toNat default).standby:=of_decide_eq_true a0
         have hk:((s.tenants.getD i.toNat default).standby).toNat<l.length:=by omega
         have hg:=hw.getD hk
         refine⟨⟨by omega,a0b,by omega⟩,?_⟩
         refine⟨⟨by omega,a0b,by omega⟩,?_⟩
         refine⟨intC (l.getD ((s.tenants.getD i.toNat default).standby).toNat 0+(c.tenants.getD i.toNat default).shadow),by rw[wrapi (n:=l.getD ((s.tenants.getD i.toNat default).standby).toNat 0+(c.tenants.getD i.toNat default).shadow) (by omega)];rfl,?_⟩
         rw[setEl_set hk]
         refine⟨_,?_,kp_,kp_⟩
         rw[← hle];exact (addAt_in a0b a1b).symm
        ·refine⟨_,?_,kp_,kp_⟩
         rw[← hle];exact (addAt_out (by rintro⟨-,q⟩;have q2:¬ (s.tenants.getD i.toNat default).standby<((c.cells.length:Int).toNat:Int):=of_decide_eq_false a1;omega)).symm
       ·refine⟨(fun h=>nomatch h),fun _=>?_⟩
        refine⟨_,?_,kp_,kp_⟩
        rw[← hle];exact (addAt_out (by rintro⟨q,-⟩;exact absurd q (of_decide_eq_false a0))).symm
      ·rintro l hle
       refine⟨⟨by decide,rfl,rfl⟩,?_⟩
       have hw2:Within (if (s.tenants.getD i.toNat default).shed then (bookK c s i.toNat) else (addAt (addAt (bookK c s i.toNat) (s.tenants.getD i.toNat default).home (c.tenants.getD i.toNat default).load) (s.tenants.getD i.toNat default).target (c.tenants.getD i.toNat default).load)) ((i.toNat:Int) * 262144+(c.tenants.getD i.toNat default).load+(c.tenants.getD i.toNat default).load):=by
        split
        ·exact hw0.mono (by omega)
        ·exact (hw0.add (n:=(c.tenants.getD i.toNat default).load) (by omega) (s.tenants.getD i.toNat default).home).add (n:=(c.tenants.getD i.toNat default).load) (by omega) (s.tenants.getD i.toNat default).target
       have hw3:=hw2.add (n:=(c.tenants.getD i.toNat default).shadow) (by omega) (s.tenants.getD i.toNat default).standby
       have hw:=hw3
       rw[← hle] at hw
       have hlen:l.length=c.cells.length:=by
        rw[hle,addAt_len]
        split<;>simp only[addAt_len,hl0]
       have hbt:(bookT (bookK c s i.toNat) (s.tenants.getD i.toNat default) (c.tenants.getD i.toNat default))=addAt (addAt (if (s.tenants.getD i.toNat default).shed then (bookK c s i.toNat) else (addAt (addAt (bookK c s i.toNat) (s.tenants.getD i.toNat default).home (c.tenants.getD i.toNat default).load) (s.tenants.getD i.toNat default).target (c.tenants.getD i.toNat default).load)) (s.tenants.getD i.toNat default).standby (c.tenants.getD i.toNat default).shadow) (s.tenants.getD i.toNat default).next (c.tenants.getD i.toNat default).shadow:=by unfold bookT;rw[if_neg (by rw[hpl];decide)]
       rw[← hle] at hbt
       refine⟨fun a0=>?_,fun a0=>?_⟩
       ·refine⟨fun a1=>?_,fun a1=>?_⟩
        ·have a1b:(s.tenants.getD i.toNat default).next<(l.length:Int):=by have q:(s.tenants.getD i.toNat default).next<((c.cells.length:Int).toNat:Int):=of_decide_eq_true a1;omega
         have a0b:0≤(s.tenants.getD i.toNat default).next:=of_decide_eq_true a0
         have hk:((s.tenants.getD i.toNat default).next).toNat<l.length:=by omega
         have hg:=hw.getD hk
         refine⟨⟨by omega,a0b,by omega⟩,?_⟩
         refine⟨⟨by omega,a0b,by omega⟩,?_⟩
         refine⟨intC (l.getD ((s.tenants.getD i.toNat default).next).toNat 0+(c.tenants.getD i.toNat default).shadow),by rw[wrapi (n:=l.getD ((s.tenants.getD i.toNat default).next).toNat 0+(c.tenants.getD i.toNat default).shadow) (by omega)];rfl,?_⟩
         rw[setEl_set hk]
         refine⟨_,?_,kp_,kp_⟩
         rw[hbt];exact (addAt_in a0b a1b).symm
        ·refine⟨_,?_,kp_,kp_⟩
         rw[hbt];exact (addAt_out (by rintro⟨-,q⟩;have q2:¬ (s.tenants.getD i.toNat default).next<((c.cells.length:Int).toNat:Int):=of_decide_eq_false a1;omega)).symm
       ·refine⟨(fun h=>nomatch h),fun _=>?_⟩
        refine⟨_,?_,kp_,kp_⟩
        rw[hbt];exact (addAt_out (by rintro⟨q,-⟩;exact absurd q (of_decide_eq_false a0))).symm
   ·rintro l hle
    refine⟨⟨by decide,rfl,rfl⟩,?_⟩
    refine⟨(_,_),?_,kp_,kp_⟩
    dsimp only
    rw[wrapi (n:=i+1) (by omega)]
    refine⟨⟨by omega,?_⟩,by omega⟩
    rw[show (i+1).toNat=i.toNat+1 by omega,hsucc]
    exact hle
  ·have hge2:¬ i<(s.tenants.length:Int):=of_decide_eq_false hge
   have hb:bookK c s i.toNat=booked c s:=bookK_all c s (by omega)
   rw[hb] at hl
   have hlen:(booked c s).length=c.cells.length:=by rw[← hb];exact bookK_len c s _
   subst hl
   exact .inr ⟨12,_,_,c.cells.length,_,by rw[hlen];rfl,rfl,rfl,by omega,fun k hk=>rfl⟩
theorem r11Booked_calls (x:CfgA) (c:Cfg) (y:StA) (s:St) (w:World) (hV:CfgV c) (hlt:s.tenants.length=c.tenants.length) (hc:CfgOk w (·<w.heap.size) x c) (hs:StOk w (·<w.heap.size) y s) :
  Calls Tryz.prog 104 #[.agg (cfgC x c),.agg (stC y s)] w fun e w'=>∃ A cp,e=.returned (.slice A (booked c s).length cp)∧Rd w' (fun b=>w.heap.size≤b∧b<w'.heap.size) A (flat intC (booked c s))∧Below w.heap.size w w':=by
 have:=rd_callsM ttOk bkFok Tryz.func104 rfl (D:=bkD) (by kernel_rfl) (vs:=[cfgV CN1 (ck x) c,stV SN1 (sk y) s]) rfl x c y s noA noS w hc hs (noS_ok w _) (fun v hv=>by
  simp only[List.mem_cons,List.not_mem_nil,or_false] at hv
  rcases hv with rfl | rfl
  ·exact rpl_cfg_ok x c y s noA noS
  ·exact rpl_st_ok x c y s noA noS) (booked_sx (ck x) c (sk y) s hV hlt)
 rw[List.map_cons,List.map_cons,rpl_cfg,rpl_st] at this
 refine this.mono ?_
 rintro e w' ⟨v,mem',nx',ρ',rfl,hR,hv,hm',hb⟩
 obtain⟨A,cp,e1,hr⟩:=hm'.slR (enc:=intC) (sz:=1) (fun _=>rfl) (by omega) hR
 refine⟨A,cp,?_,hr,hb⟩
 congr 1
 rcases hR with⟨rfl,-⟩ | ⟨r,cap,t,n,el,rfl,-⟩
 ·exact e1
 ·exact e1
def ctBookedR:CT:=fun vs mem nx K=>∃ N x c M y s,vs=[cfgV N x c,stV M y s]∧(keeps mem (cfgM N c)∧HasRow mem M.t 12 tsC default s.tenants∧HasRow mem M.c 4 csC default s.cells)∧(CfgV c∧s.tenants.length=c.tenants.length)∧∀ cap,K (slc nx (booked c s).length cap) ((nx,rowOfL 500000 1 intC 0 (booked c s))::mem) (nx+1)
theorem bookedROk:CSound Tryz.prog 104 ctBookedR:=⟨by kernel_rfl,fun {C ρ fr mem nx a w vs K} hc hs hv=>by
 obtain⟨N,x,c,M,y,s,rfl,⟨hk,h1,h2⟩,⟨hV,hlt⟩,hK⟩:=hc
 rw[List.map_cons,List.map_cons,den_cfg,den_st]
 refine (r11Booked_calls (cfgX ρ N x) c (stX ρ M y) s w hV hlt (hs.cfg hk (fun b h _=>h)) (hs.stRow h1 h2)).mono ?_
 rintro e w' ⟨A,cp,rfl,hr,hb⟩
 obtain⟨q1,-⟩:=(hs.later hb).addList hs.frB hs.rest.size (enc:=intC) (sz:=1) (fun _=>rfl) (by omega) intC_plain 0 (t:=500000) rfl hr
 refine⟨slc nx (booked c s).length cp,_,_,_,?_,hK cp,q1,⟨Nat.lt_succ_self nx,by rw[setPl_same]⟩,⟨fun i hi=>setPl_lt ρ _ hi,Nat.le_succ _⟩⟩
 show Ending.returned _=Ending.returned _
 simp[den,den2,den1,dA_whole,dS_whole,setPl_same]⟩
def ovB (c:Cfg) (s:St) (i:Nat):Bool:=decide ((c.cells.getD i (0,0)).2<(booked c s).getD i 0)
def overN (c:Cfg) (s:St) (k:Nat):Nat:=((List.range k).filter (ovB c s)).length
theorem overN_succ (c:Cfg) (s:St) (k:Nat):overN c s (k+1)=overN c s k+(if ovB c s k=true then 1 else 0):=by
 unfold overN
 rw[List.range_succ,List.filter_append,List.length_append]
 congr 1
 by_cases h:ovB c s k=true
 ·rw[if_pos h];simp[List.filter,h]
 ·rw[if_neg h];simp[List.filter,h]
theorem overN_le (c:Cfg) (s:St) (k:Nat):overN c s k≤k:=by
 unfold overN
 have:=List.length_filter_le (ovB c s) (List.range k)
 simpa using this
theorem overN_pos (c:Cfg) (s:St):decide (0<overN c s c.cells.length)=overB c s:=by
 unfold overN overB
 cases h:(List.range c.cells.length).any fun i=>decide ((c.cells.getD i (0,0)).2<(booked c s).getD i 0) with
 | true=>
  obtain⟨i,hi,hp⟩:=List.any_eq_true.1 h
  have:i ∈ (List.range c.cells.length).filter (ovB c s):=List.mem_filter.2 ⟨hi,hp⟩
  exact decide_eq_true (List.length_pos_of_mem this)
 | false=>
  refine decide_eq_false fun hp=>?_
  obtain⟨i,hi⟩:=List.exists_mem_of_length_pos hp
  obtain⟨h1,h2⟩:=List.mem_filter.1 hi
  have:(List.range c.cells.length).any (fun i=>decide ((c.cells.getD i (0,0)).2<(booked c s).getD i 0))=true:=List.any_eq_true.2 ⟨i,h1,h2⟩
  rw[h] at this
  cases this
theorem bookedR_len (c:Cfg) (s:St):(booked c s).length=c.cells.length:=by rw[← bookK_all c s (Nat.le_refl _)];exact bookK_len c s _
def ovF:FT:=[(104,ctBookedR)]
theorem ovFok:FTok Tryz.prog ovF:=ft_cons bookedROk ft_nil
def ovD:List (Nat×DQ):=[(3000004,{ k:=14,L:=[0,1,2,3,4,5,6,7,8,9,10,11,12],sl:=[2,3,6] }),
 (6,{ k:=10,L:=[0,1,2,3,4,5,6,7,8,9,10,11,12],pre:=[(0,false),(1,false),(2,false),(3,false),(4,false),(5,false),(6,false),(7,false),(8,false),(9,false)] })]
set_option maxRecDepth 100000 in
set_option maxHeartbeats 4000000 in
theorem over_sx (x:CfgK) (c:Cfg) (y:StK) (s:St) (hV:CfgV c) (hlt:s.tenants.length=c.tenants.length) :
  sx tt ovF ovD (bodyOf Tryz.f101) (argF 0 [cfgV CN1 x c,stV SN1 y s]) (rdM c s noS) 10 (endx tt Tryz.f101.results.toList fun v _ _=>∃ A n cap,v=.slice A n cap∧n=overN c s c.cells.length):=by
 have hnc:=hV.nc
 have hbl:=bookedR_len c s
 refine⟨CN1,x,c,SN1,y,s,rfl,⟨kp_,⟨_,_,_,rfl,Nat.le_refl _,fun k hk=>rfl⟩,⟨_,_,_,rfl,Nat.le_refl _,fun k hk=>rfl⟩⟩,⟨hV,hlt⟩,?_⟩
 intro cap0
 refine⟨Int×Nat×Option (Nat×(Nat→List Value)),fun q=>match q with | (i,n,none)=>[(7,.int .i64 i),(5,zs0)] | (i,n,some (cap,el))=>[(7,.int .i64 i),(5,slc 13 n cap)],fun q=>match q with | (i,n,none)=>[] | (i,n,some (cap,el))=>[(13,.row (1000000+3) 1 cap el)],fun q=>match q with | (i,n,o)=>((0≤i∧i≤c.cells.length)∧n=overN c s i.toNat)∧match o with | none=>n=0 | some (cap,el)=>n≤cap,fun q=>match q with | (i,n,o)=>((c.cells.length:Int)-i).toNat,⟨(0,0,none),[],⟨⟨by omega,rfl⟩,rfl⟩,⟨rfl,rfl⟩,kp_,kp_⟩,?_⟩
 rintro⟨i,n,(_ | ⟨cap,el⟩)⟩ ⟨⟨hi,hn⟩,ho⟩
 ·refine⟨⟨by decide,rfl,rfl⟩,?_⟩
  refine⟨fun hlt1=>?_,fun hge=>?_⟩
  ·have hlt2:i<(c.cells.length:Int):=by have q:i<((booked c s).length:Int):=of_decide_eq_true hlt1;omega
   have hle:=overN_le c s i.toNat
   refine⟨⟨Nat.le_refl _,hi.1,by omega⟩,?_⟩
   refine⟨⟨Nat.le_refl _,hi.1,hlt2⟩,?_⟩
   refine⟨fun hb=>?_,fun hb=>?_⟩
   ·have hov:ovB c s i.toNat=true:=hb
    refine⟨⟨Nat.le_refl _,fun k hk=>by match k,hk with | 0,_=>rfl⟩,?_⟩
    refine⟨fun h=>absurd h (by decide),fun _=>⟨by decide,fun cap2 el2 ⟨hc2,_⟩ hel2=>?_⟩⟩
    refine⟨(_,_,some (cap2,el2)),[(13,15)],?_,⟨rfl,rfl⟩,kp_,kp_⟩
    dsimp only
    rw[wrapi (n:=i+1) (by omega)]
    refine⟨⟨⟨by omega,?_⟩,by omega⟩,by omega⟩
    rw[show (i+1).toNat=i.toNat+1 by omega,overN_succ,if_pos hov]
    omega
   ·have hov:¬ (ovB c s i.toNat=true):=fun q=>absurd (q.symm.trans hb) (by decide)
    refine⟨(_,n,none),[],?_,⟨rfl,rfl⟩,kp_,kp_⟩
    dsimp only
    rw[wrapi (n:=i+1) (by omega)]
    refine⟨⟨⟨by omega,?_⟩,by omega⟩,by omega⟩
    rw[show (i+1).toNat=i.toNat+1 by omega,overN_succ,if_neg hov]
    omega
  ·have hge2:¬ i<(c.cells.length:Int):=by have q:¬ i<((booked c s).length:Int):=of_decide_eq_false hge;omega
   have hie:i.toNat=c.cells.length:=by omega
   rw[hie] at hn
   exact⟨_,_,_,rfl,by rw[← hn];exact ho.symm⟩
 ·refine⟨⟨by decide,rfl,rfl⟩,?_⟩
  refine⟨fun hlt1=>?_,fun hge=>?_⟩
  ·have hlt2:i<(c.cells.length:Int):=by have q:i<((booked c s).length:Int):=of_decide_eq_true hlt1;omega
   have hle:=overN_le c s i.toNat
   refine⟨⟨Nat.le_refl _,hi.1,by omega⟩,?_⟩
   refine⟨⟨Nat.le_refl _,hi.1,hlt2⟩,?_⟩
   refine⟨fun hb=>?_,fun hb=>?_⟩
   ·have hov:ovB c s i.toNat=true:=hb
    refine⟨⟨Nat.le_refl _,fun k hk=>by match k,hk with | 0,_=>rfl⟩,?_⟩
    refine⟨⟨rfl,ho⟩,fun hin el2 ⟨h1,_⟩ h2=>?_,fun hgt=>⟨by show (n+1) * 8≤140737488355328;omega,fun cap2 el2 ⟨hc2,_⟩ h1 h2=>?_⟩⟩
    ·refine⟨(_,_,some (cap,el2)),[],?_,⟨rfl,rfl⟩,kp_,kp_⟩
     dsimp only
     rw[wrapi (n:=i+1) (by omega)]
     refine⟨⟨⟨by omega,?_⟩,by omega⟩,by omega⟩
     rw[show (i+1).toNat=i.toNat+1 by omega,overN_succ,if_pos hov]
     omega
    ·refine⟨(_,_,some (cap2,el2)),[(13,15)],?_,⟨rfl,rfl⟩,kp_,kp_⟩
     dsimp only
     rw[wrapi (n:=i+1) (by omega)]
     refine⟨⟨⟨by omega,?_⟩,by omega⟩,by omega⟩
     rw[show (i+1).toNat=i.toNat+1 by omega,overN_succ,if_pos hov]
     omega
   ·have hov:¬ (ovB c s i.toNat=true):=fun q=>absurd (q.symm.trans hb) (by decide)
    refine⟨(_,n,some (cap,el)),[],?_,⟨rfl,rfl⟩,kp_,kp_⟩
    dsimp only
    rw[wrapi (n:=i+1) (by omega)]
    refine⟨⟨⟨by omega,?_⟩,by omega⟩,by omega⟩
    rw[show (i+1).toNat=i.toNat+1 by omega,overN_succ,if_neg hov]
    omega
  ·have hge2:¬ i<(c.cells.length:Int):=by have q:¬ i<((booked c s).length:Int):=of_decide_eq_false hge;omega
   have hie:i.toNat=c.cells.length:=by omega
   rw[hie] at hn
   exact⟨_,_,_,rfl,hn⟩
theorem r11Over_calls (x:CfgA) (c:Cfg) (y:StA) (s:St) (w:World) (hV:CfgV c) (hlt:s.tenants.length=c.tenants.length) (hc:CfgOk w (·<w.heap.size) x c) (hs:StOk w (·<w.heap.size) y s) :
  Calls Tryz.prog 101 #[.agg (cfgC x c),.agg (stC y s)] w fun e w'=>∃ A cp,e=.returned (.slice A (overN c s c.cells.length) cp)∧Below w.heap.size w w':=by
 have:=rd_callsM ttOk (ovFok.i _) Tryz.func101 rfl (D:=ovD) (by kernel_rfl) (vs:=[cfgV CN1 (ck x) c,stV SN1 (sk y) s]) rfl x c y s noA noS w hc hs (noS_ok w _) (fun v hv=>by
  simp only[List.mem_cons,List.not_mem_nil,or_false] at hv
  rcases hv with rfl | rfl
  ·exact rpl_cfg_ok x c y s noA noS
  ·exact rpl_st_ok x c y s noA noS) (over_sx (ck x) c (sk y) s hV hlt)
 rw[List.map_cons,List.map_cons,rpl_cfg,rpl_st] at this
 refine this.mono ?_
 rintro e w' ⟨v,mem',nx',ρ',rfl,⟨A,n,cap,rfl,rfl⟩,hv,hm',hb⟩
 cases A with
 | none=>exact⟨none,cap,rfl,hb⟩
 | some a=>exact⟨_,cap,rfl,hb⟩
def ctOverR:CT:=fun vs mem nx K=>∃ N x c M y s,vs=[cfgV N x c,stV M y s]∧(keeps mem (cfgM N c)∧HasRow mem M.t 12 tsC default s.tenants∧HasRow mem M.c 4 csC default s.cells)∧(CfgV c∧s.tenants.length=c.tenants.length)∧∀ cap,K (slc nx (overN c s c.cells.length) cap) mem (nx+1)
theorem overROk:CSound Tryz.prog 101 ctOverR:=⟨by kernel_rfl,fun {C ρ fr mem nx a w vs K} hc hs hv=>by
 obtain⟨N,x,c,M,y,s,rfl,⟨hk,h1,h2⟩,⟨hV,hlt⟩,hK⟩:=hc
 rw[List.map_cons,List.map_cons,den_cfg,den_st]
 refine (r11Over_calls (cfgX ρ N x) c (stX ρ M y) s w hV hlt (hs.cfg hk (fun b h _=>h)) (hs.stRow h1 h2)).mono ?_
 rintro e w' ⟨A,cp,rfl,hb⟩
 refine⟨slc nx (overN c s c.cells.length) cp,_,_,setPl ρ nx ⟨A,0,0,false,noSub⟩,?_,hK cp,(hs.later hb).ren (fun j hj _=>setPl_lt ρ _ hj) (Nat.le_succ _) (fun j hj=>setPl_lt ρ _ (Nat.lt_of_lt_of_le hj hs.n0)),⟨Nat.lt_succ_self nx,by rw[setPl_same]⟩,⟨fun i hi=>setPl_lt ρ _ hi,Nat.le_succ _⟩⟩
 show Ending.returned _=Ending.returned _
 simp[den,den2,den1,dA_whole,dS_whole,setPl_same]⟩
/-! ref12.Apply: what its parts ask,and what it hands back. -/
abbrev stVg (M:SN) (y:StK) (nT nC:Nat) (s:St):Value:=.agg #[.int .i64 s.tick,.int .i64 s.count,slc M.t nT y.ct,slc M.c nC y.cc,.int .i64 s.proven,.int .i64 s.evac,.int .i64 s.low,.int .i64 s.high]
structure HasSt (mem:AM) (M:SN) (nT nC:Nat) (s:St):Prop where
 nT:nT=s.tenants.length
 nC:nC=s.cells.length
 t:HasRow mem M.t 12 tsC default s.tenants
 c:HasRow mem M.c 4 csC default s.cells
def ctOverG:CT:=fun vs mem nx K=>∃ N x c M y nT nC s,vs=[cfgV N x c,stVg M y nT nC s]∧(keeps mem (cfgM N c)∧HasSt mem M nT nC s)∧(CfgV c∧s.tenants.length=c.tenants.length)∧∀ cap,K (slc nx (overN c s c.cells.length) cap) mem (nx+1)
theorem overGOk:CSound Tryz.prog 101 ctOverG:=overROk.mono (by
 rintro vs mem nx K ⟨N,x,c,M,y,nT,nC,s,rfl,⟨h1,h2⟩,hV,hK⟩
 obtain⟨rfl,rfl,h3,h4⟩:=h2
 exact⟨N,x,c,M,y,s,rfl,⟨h1,h3,h4⟩,hV,hK⟩)
theorem CSound.reads {f : FuncId} (ent : ((Tryz.prog).funcs[f]?).map (fun fn => (fn.name == "runtime.NumGoroutine", fn.body.isNone)) = some (false, false)) {pre : Cfg → St → Int → Prop} {res : Cfg → St → Int → Value} (hp : ∀ c s k, pureV (res c s k))
  (h:∀ x c y s k w,pre c s k→CfgOk w (·<w.heap.size) x c→StOk w (·<w.heap.size) y s→Calls Tryz.prog f #[.agg (cfgC x c),.agg (stC y s),.int .i64 k] w fun r w'=>r=.returned (res c s k)∧Below w.heap.size w w') :
  CSound Tryz.prog f (fun vs mem nx K=>∃ N x c M y nT nC s k,vs=[cfgV N x c,stVg M y nT nC s,.int .i64 k]∧(keeps mem (cfgM N c)∧HasSt mem M nT nC s)∧pre c s k∧K (res c s k) mem nx):=⟨ent,fun {C ρ fr mem nx a w vs K} hc hs hv=>by
 obtain⟨N,x,c,M,y,nT,nC,s,k,rfl,⟨h1,h2⟩,hpre,hK⟩:=hc
 obtain⟨rfl,rfl,h3,h4⟩:=h2
 rw[List.map_cons,List.map_cons,den_cfg,den_st]
 refine (h (cfgX ρ N x) c (stX ρ M y) s k w hpre (hs.cfg h1 (fun b h _=>h)) (hs.stRow h3 h4)).mono ?_
 rintro e w' ⟨rfl,hb⟩
 have hpp:=pure_den (hp c s k) ρ nx
 exact⟨_,mem,nx,ρ,by rw[hpp.1],hK,hs.later hb,hpp.2,ExtS.refl _ _⟩⟩
theorem CSound.readsS {f : FuncId} (ent : ((Tryz.prog).funcs[f]?).map (fun fn => (fn.name == "runtime.NumGoroutine", fn.body.isNone)) = some (false, false)) {pre : St → Int → Prop} {res : St → Int → Value} (hp : ∀ s k, pureV (res s k))
  (h:∀ y s k w,pre s k→StOk w (·<w.heap.size) y s→Calls Tryz.prog f #[.agg (stC y s),.int .i64 k] w fun r w'=>r=.returned (res s k)∧Below w.heap.size w w') :
  CSound Tryz.prog f (fun vs mem nx K=>∃ M y nT nC s k,vs=[stVg M y nT nC s,.int .i64 k]∧HasSt mem M nT nC s∧pre s k∧K (res s k) mem nx):=⟨ent,fun {C ρ fr mem nx a w vs K} hc hs hv=>by
 obtain⟨M,y,nT,nC,s,k,rfl,h2,hpre,hK⟩:=hc
 obtain⟨rfl,rfl,h3,h4⟩:=h2
 rw[List.map_cons,den_st]
 refine (h (stX ρ M y) s k w hpre (hs.stRow h3 h4)).mono ?_
 rintro e w' ⟨rfl,hb⟩
 have hpp:=pure_den (hp s k) ρ nx
 exact⟨_,mem,nx,ρ,by rw[hpp.1],hK,hs.later hb,hpp.2,ExtS.refl _ _⟩⟩
/-! frozen,proven,open -/
def fzF:FT:=[(100,ctRegOf),(77,ctHas)]
theorem fzFok:FTok Tryz.prog fzF:=ft_cons regOfOk (ft_cons hasOk ft_nil)
def fzD:List (Nat×DQ):=[(1,{ k:=5,L:=[0,1,2,3,4,5,6,7,10,11],pre:=[(0,false),(1,false),(2,false),(3,false),(4,true)] })]
set_option maxRecDepth 100000 in
theorem frozen_sx (x:CfgK) (c:Cfg) (y:StK) (s:St) (k:Int) (hV:CfgV c) (he:0≤s.evac∧s.evac<4294967296) :
  sx tt fzF fzD (bodyOf Tryz.f88) (argF 0 [cfgV CN1 x c,stV SN1 y s,.int .i64 k]) (rdM c s noS) 10 (endx tt Tryz.f88.results.toList fun v _ _=>v=.bool (frozenB c s k)∧pureV v):=by
 refine⟨CN1,x,c,k,rfl,by repeat (first | exact trivial | refine⟨rfl,?_⟩),hV,?_⟩
 refine⟨by repeat (first | exact trivial | refine⟨rfl,?_⟩),?_⟩
 exact⟨_,_,rfl,he,rfl,trivial⟩
def ctFrozenR:CT:=fun vs mem nx K=>∃ N x c M y nT nC s k,vs=[cfgV N x c,stVg M y nT nC s,.int .i64 k]∧(keeps mem (cfgM N c)∧HasSt mem M nT nC s)∧(CfgV c∧0≤s.evac∧s.evac<4294967296)∧K (.bool (frozenB c s k)) mem nx
theorem frozenROk:CSound Tryz.prog 88 ctFrozenR:=CSound.reads (by kernel_rfl) (pre:=fun c s k=>CfgV c∧0≤s.evac∧s.evac<4294967296) (res:=fun c s k=>.bool (frozenB c s k)) (fun _ _ _=>trivial) (by
 rintro x c y s k w ⟨hV,he⟩ hc hs
 have:=rd_calls fzFok Tryz.func88 rfl (D:=fzD) (by kernel_rfl) (vs:=[cfgV CN1 (ck x) c,stV SN1 (sk y) s,.int .i64 k]) rfl x c y s noA noS w hc hs (noS_ok w _) (fun v hv=>by
  simp only[List.mem_cons,List.not_mem_nil,or_false] at hv
  rcases hv with rfl | rfl | rfl
  ·exact rpl_cfg_ok x c y s noA noS
  ·exact rpl_st_ok x c y s noA noS
  ·trivial) (R:=fun v=>v=.bool (frozenB c s k)) (frozen_sx (ck x) c (sk y) s k hV he)
 rw[List.map_cons,List.map_cons,rpl_cfg,rpl_st] at this
 refine this.mono ?_
 rintro e w' ⟨v,rfl,-,rfl,hb⟩
 exact⟨rfl,hb⟩)
def pvF:FT:=[(77,ctHas)]
theorem pvFok:FTok Tryz.prog pvF:=ft_cons hasOk ft_nil
set_option maxRecDepth 100000 in
theorem proven_sx (y:StK) (s:St) (k:Int) (he:0≤s.proven∧s.proven<4294967296) :
  sx tt pvF [] (bodyOf Tryz.f95) (argF 0 [stV SN1 y s,.int .i64 k]) (rdM noC s noS) 10 (endx tt Tryz.f95.results.toList fun v _ _=>v=.bool (hasB s.proven k)∧pureV v):=by
 exact⟨_,_,rfl,he,rfl,trivial⟩
def ctProvenR:CT:=fun vs mem nx K=>∃ M y nT nC s k,vs=[stVg M y nT nC s,.int .i64 k]∧HasSt mem M nT nC s∧(0≤s.proven∧s.proven<4294967296)∧K (.bool (hasB s.proven k)) mem nx
theorem provenROk:CSound Tryz.prog 95 ctProvenR:=CSound.readsS (by kernel_rfl) (pre:=fun s k=>0≤s.proven∧s.proven<4294967296) (res:=fun s k=>.bool (hasB s.proven k)) (fun _ _=>trivial) (by
 rintro y s k w he hs
 have:=rd_calls pvFok Tryz.func95 rfl (D:=[]) (by kernel_rfl) (vs:=[stV SN1 (sk y) s,.int .i64 k]) rfl noX noC y s noA noS w (noC_ok _ _) hs (noS_ok w _) (fun v hv=>by
  simp only[List.mem_cons,List.not_mem_nil,or_false] at hv
  rcases hv with rfl | rfl
  ·exact rpl_st_ok noX noC y s noA noS
  ·trivial) (R:=fun v=>v=.bool (hasB s.proven k)) (proven_sx (sk y) s k he)
 rw[List.map_cons,rpl_st] at this
 refine this.mono ?_
 rintro e w' ⟨v,rfl,-,rfl,hb⟩
 exact⟨rfl,hb⟩)
def opF:FT:=[(95,ctProvenR)]
theorem opFok:FTok Tryz.prog opF:=ft_cons provenROk ft_nil
def opD:List (Nat×DQ):=[(1,{ k:=17,L:=[6,7,10],pre:=[(0,false),(1,false),(2,false),(3,false),(4,false),(5,false),(6,false),(7,true),(8,false),(9,false),(10,false),(11,false),(12,false),(13,false),(14,false),(15,false),(16,false)] })]
set_option maxRecDepth 100000 in
theorem open_sx (y:StK) (s:St) (k:Int) (he:0≤s.proven∧s.proven<4294967296) (hk:0≤k∧k<s.cells.length) :
  sx tt opF opD (bodyOf Tryz.f94) (argF 0 [stV SN1 y s,.int .i64 k]) (rdM noC s noS) 10 (endx tt Tryz.f94.results.toList fun v _ _=>v=.bool (openB s.proven (csAt s k))∧pureV v):=by
 refine⟨⟨Nat.le_refl _,hk.1,hk.2⟩,?_⟩
 refine⟨SN1,y,_,_,s,_,rfl,⟨rfl,rfl,.list rfl,.list rfl⟩,he,?_⟩
 refine⟨by repeat (first | exact trivial | refine⟨rfl,?_⟩),?_⟩
 unfold openB csAt
 refine⟨fun h=>?_,fun h=>?_⟩
 ·refine⟨?_,trivial⟩
  have h2:(!hasB s.proven (s.cells.getD k.toNat default).running)=true:=h
  rw[h2]
  rfl
 ·refine⟨⟨Nat.le_refl _,hk.1,hk.2⟩,?_⟩
  refine⟨SN1,y,_,_,s,_,rfl,⟨rfl,rfl,.list rfl,.list rfl⟩,he,?_⟩
  refine⟨?_,trivial⟩
  have h2:(!hasB s.proven (s.cells.getD k.toNat default).running)=false:=h
  rw[h2]
  rfl
def ctOpenR:CT:=fun vs mem nx K=>∃ M y nT nC s k,vs=[stVg M y nT nC s,.int .i64 k]∧HasSt mem M nT nC s∧((0≤s.proven∧s.proven<4294967296)∧0≤k∧k<s.cells.length)∧K (.bool (openB s.proven (csAt s k))) mem nx
theorem openROk:CSound Tryz.prog 94 ctOpenR:=CSound.readsS (by kernel_rfl) (pre:=fun s k=>(0≤s.proven∧s.proven<4294967296)∧0≤k∧k<s.cells.length) (res:=fun s k=>.bool (openB s.proven (csAt s k))) (fun _ _=>trivial) (by
 rintro y s k w ⟨he,hk⟩ hs
 have:=rd_calls opFok Tryz.func94 rfl (D:=opD) (by kernel_rfl) (vs:=[stV SN1 (sk y) s,.int .i64 k]) rfl noX noC y s noA noS w (noC_ok _ _) hs (noS_ok w _) (fun v hv=>by
  simp only[List.mem_cons,List.not_mem_nil,or_false] at hv
  rcases hv with rfl | rfl
  ·exact rpl_st_ok noX noC y s noA noS
  ·trivial) (R:=fun v=>v=.bool (openB s.proven (csAt s k))) (open_sx (sk y) s k he hk)
 rw[List.map_cons,rpl_st] at this
 refine this.mono ?_
 rintro e w' ⟨v,rfl,-,rfl,hb⟩
 exact⟨rfl,hb⟩)
/-! The result. -/
def ApS (mem:AM) (v:Value) (p:St×Int):Prop:=∃ T Cc,v=.tuple #[.agg #[.int .i64 p.1.tick,.int .i64 p.1.count,T,Cc,.int .i64 p.1.proven,.int .i64 p.1.evac,.int .i64 p.1.low,.int .i64 p.1.high],.int .i64 p.2]∧SlR mem 12 tsC default p.1.tenants T∧SlR mem 4 csC default p.1.cells Cc
theorem ApS.err {mem:AM} {p:St×Int} {n:Int} (h:p=(St.zero,n)):ApS mem (.tuple #[stZ,.int .i64 n]) p:=by
 subst h
 exact⟨zs0,zs0,rfl,.inl ⟨rfl,rfl⟩,.inl ⟨rfl,rfl⟩⟩
theorem ApS.ok {mem:AM} {p:St×Int} {s:St} {y:StK} {M:SN} {nT nC:Nat} {n:Int} (h:p=(s,n)) (hT:nT=s.tenants.length) (hC:nC=s.cells.length) (h1:NewRow mem M.t 12 tsC default s.tenants) (h2:NewRow mem M.c 4 csC default s.cells):ApS mem (.tuple #[stVg M y nT nC s,.int .i64 n]) p:=by
 subst h hT hC
 obtain⟨t1,n1,e1,q1,q2,q3,q4⟩:=h1
 obtain⟨t2,n2,e2,r1,r2,r3,r4⟩:=h2
 exact⟨_,_,rfl,.inr ⟨M.t,_,_,_,_,rfl,q1,q2,q3,q4⟩,.inr ⟨M.c,_,_,_,_,rfl,r1,r2,r3,r4⟩⟩
structure ArH (c:Cfg) (s:St) (e:Ent):Prop where
 cfg:CfgV c
 inv:StInv c s
 ent:entV c e=true
 cnt:s.count<4096
 tick:s.tick≤e.tick
theorem ArH.ref {c:Cfg} {s:St} {e:Ent} (h:ArH c s e):refusedE c s e=kindE c s e:=by
 have h1:=h.ent
 have h2:=h.cnt
 have h3:=h.tick
 unfold refusedE
 rw[if_neg (by rw[h1];decide),if_neg (by omega),if_neg (by omega)]
theorem ArH.err {c:Cfg} {s:St} {e:Ent} (h:ArH c s e) {n:Int} (hk:kindE c s e=n) (hn:n≠0):applyR c s e=(St.zero,n):=by
 unfold applyR
 rw[h.ref,hk,if_pos hn]
theorem ArH.over {c:Cfg} {s:St} {e:Ent} (h:ArH c s e) (hk:kindE c s e=0) (hf:fitsB e=true) (ho:overB c (effOf s e)=true):applyR c s e=(St.zero,10):=by
 unfold applyR
 rw[h.ref,hk,if_neg (fun q=>q rfl),if_pos ⟨hf,ho⟩]
theorem ArH.fine {c:Cfg} {s:St} {e:Ent} (h:ArH c s e) (hk:kindE c s e=0) (hf:fitsB e=true→overB c (effOf s e)=false):applyR c s e=(effOf s e,0):=by
 unfold applyR
 rw[h.ref,hk,if_neg (fun q=>q rfl),if_neg (fun⟨q1,q2⟩=>by rw[hf q1] at q2;cases q2)]
theorem ArH.tB {c:Cfg} {s:St} {e:Ent} (h:ArH c s e):0≤e.tick∧e.tick≤1073741824:=by
 have h1:=h.ent
 simp only[entV,entOk,inR,Bool.and_eq_true,decide_eq_true_eq] at h1
 omega
def LA:List Nat:=[0,1,2,3,4,5,6,7,8,9,10,11,12,13,14,15,16,17,18,19,20,21,22,23,24,25,26,27,28,29,30,31,32]
def fitF:FT:=[(101,ctOverG)]
theorem fitFok:FTok Tryz.prog fitF:=ft_cons overGOk ft_nil
abbrev ctFit:CT:=ctInl ttU fitF [] Tryz.f91 (bodyOf Tryz.f91)
theorem fitOk {I:List Nat} (hI:I.contains 91=true):CSoundI Tryz.prog I 91 ctFit:=inl_ok ttUok (fitFok.i _) mixed (by kernel_rfl) Tryz.func91 rfl (by kernel_rfl) hI
/-! ref12.granted,ref12.Cut -/
def grantedE (c:Cfg) (s:St) (e:Ent):Int:=
 let t:=tsAt s e.tenant
 let x:=csAt s e.cell
 if x.mode=3∨(x.mode=2∧e.cell≠t.home) then 6
 else if e.epoch≠t.epoch+1∧¬ (e.cell=t.home∧e.epoch=t.epoch) then 7
 else if e.n≠x.running∨x.running≠x.wanted then 8
 else if e.since<e.tick∨e.tick+c.lease<e.since∨e.till≤e.since∨c.lease<e.till-e.since∨e.since<t.win.till∨(e.cell≠t.home∧e.tick<t.win.till) then 9 else 0
theorem grantE_eq (c:Cfg) (s:St) (e:Ent):grantE c s e=if (tsAt s e.tenant).placed=false∨((tsAt s e.tenant).shed=true∧e.cell≠(tsAt s e.tenant).standby) then 4 else if e.cell≠(tsAt s e.tenant).home∧e.cell≠(tsAt s e.tenant).standby∧e.cell≠(tsAt s e.tenant).target then 5 else grantedE c s e:=rfl
def gdD:List (Nat×DQ):=[
 (5000005,{ k:=40,L:=LA,sl:=[3,4,5,6,7,8,9] }),(5000007,{ k:=40,L:=LA,sl:=[3,4,5,6,7,8,9] }),(5000009,{ k:=40,L:=LA,sl:=[3,4,5,6,7,8,9] }),(5000011,{ k:=40,L:=LA,sl:=[3,4,5,6,7,8,9] }),(5000013,{ k:=40,L:=LA,sl:=[3,4,5,6,7,8,9] })
]
abbrev gdPre (c:Cfg) (s:St) (e:Ent):Prop:=(0≤e.tenant∧e.tenant<s.tenants.length)∧(0≤e.cell∧e.cell<s.cells.length)∧(0≤e.tick∧e.tick≤1073741824)∧(0≤e.since∧e.since≤1073741824)∧(0≤e.till∧e.till≤1073741824)∧(0≤(tsAt s e.tenant).epoch∧(tsAt s e.tenant).epoch≤1048576)
set_option maxRecDepth 100000 in
set_option maxHeartbeats 4000000 in
theorem granted_sx (x:CfgK) (c:Cfg) (y:StK) (s:St) (e:Ent) (hV:CfgV c) (hp:gdPre c s e):sx tt [] gdD (bodyOf Tryz.f92) (argF 0 [cfgV CN1 x c,stV SN1 y s,entV' e]) (rdM c s noS) 10 (endx tt Tryz.f92.results.toList fun v _ _=>v=.int .i64 (grantedE c s e)∧pureV v):=by
 have hls:=hV.lease
 obtain⟨p1,p2,p3,p4,p5,p6⟩:=hp
 have p6b:0≤(s.tenants.getD e.tenant.toNat default).epoch∧(s.tenants.getD e.tenant.toNat default).epoch≤1048576:=p6
 have w1:IntKind.i64.wrap ((s.tenants.getD e.tenant.toNat default).epoch+1)=(s.tenants.getD e.tenant.toNat default).epoch+1:=wrapi (by omega)
 have w2:IntKind.i64.wrap (e.tick+c.lease)=e.tick+c.lease:=wrapi (by omega)
 have w3:IntKind.i64.wrap (e.till-e.since)=e.till-e.since:=wrapi (by omega)
 refine⟨⟨Nat.le_refl _,p1.1,p1.2⟩,?_⟩
 refine⟨⟨Nat.le_refl _,p2.1,p2.2⟩,?_⟩
 refine⟨Bool,fun b=>[(27,.bool b)],fun _=>[],fun b=>(b=true↔((s.cells.getD e.cell.toNat default).mode=3∨((s.cells.getD e.cell.toNat default).mode=2∧¬ e.cell=(s.tenants.getD e.tenant.toNat default).home))),?_,?_⟩
 ·repeat' (first | refine⟨fun _=>?_,fun h=>Bool.noConfusion h⟩ | refine⟨fun h=>Bool.noConfusion h,fun _=>?_⟩ | refine⟨fun _=>?_,fun _=>?_⟩ | refine⟨⟨Nat.le_refl _,by omega,by omega⟩,?_⟩ | fail)
  all_goals (refine⟨_,?_,kp_,kp_⟩;dsimp only;grind)
 ·rintro b1 hb1
  refine⟨⟨by decide,rfl,rfl⟩,?_⟩
  refine⟨fun qb1=>?_,fun qb1=>?_⟩
  ·unfold grantedE tsAt csAt
   refine⟨?_,trivial⟩
   congr 1
   grind
  ·refine⟨Bool,fun b=>[(40,.bool b)],fun _=>[],fun b=>(b=true↔(e.epoch≠(s.tenants.getD e.tenant.toNat default).epoch+1∧¬ (e.cell=(s.tenants.getD e.tenant.toNat default).home∧e.epoch=(s.tenants.getD e.tenant.toNat default).epoch))),?_,?_⟩
   ·repeat' (first | refine⟨fun _=>?_,fun h=>Bool.noConfusion h⟩ | refine⟨fun h=>Bool.noConfusion h,fun _=>?_⟩ | refine⟨fun _=>?_,fun _=>?_⟩ | refine⟨⟨Nat.le_refl _,by omega,by omega⟩,?_⟩ | fail)
    all_goals (refine⟨_,?_,kp_,kp_⟩;dsimp only;grind)
   ·rintro b2 hb2
    refine⟨⟨by decide,rfl,rfl⟩,?_⟩
    refine⟨fun qb2=>?_,fun qb2=>?_⟩
    ·unfold grantedE tsAt csAt
     refine⟨?_,trivial⟩
     congr 1
     grind
    ·refine⟨Bool,fun b=>[(69,.bool b)],fun _=>[],fun b=>(b=true↔(e.n≠(s.cells.getD e.cell.toNat default).running∨(s.cells.getD e.cell.toNat default).running≠(s.cells.getD e.cell.toNat default).wanted)),?_,?_⟩
     ·repeat' (first | refine⟨fun _=>?_,fun h=>Bool.noConfusion h⟩ | refine⟨fun h=>Bool.noConfusion h,fun _=>?_⟩ | refine⟨fun _=>?_,fun _=>?_⟩ | refine⟨⟨Nat.le_refl _,by omega,by omega⟩,?_⟩ | fail)
      all_goals (refine⟨_,?_,kp_,kp_⟩;dsimp only;grind)
     ·rintro b3 hb3
      refine⟨⟨by decide,rfl,rfl⟩,?_⟩
      refine⟨fun qb3=>?_,fun qb3=>?_⟩
      ·unfold grantedE tsAt csAt
       refine⟨?_,trivial⟩
       congr 1
       grind
      ·refine⟨Bool,fun b=>[(82,.bool b)],fun _=>[],fun b=>(b=true↔(e.since<e.tick∨e.tick+c.lease<e.since∨e.till≤e.since∨c.lease<e.till-e.since∨e.since<(s.tenants.getD e.tenant.toNat default).win.till)),?_,?_⟩
       ·repeat' (first | refine⟨fun _=>?_,fun h=>Bool.noConfusion h⟩ | refine⟨fun h=>Bool.noConfusion h,fun _=>?_⟩ | refine⟨fun _=>?_,fun _=>?_⟩ | refine⟨⟨Nat.le_refl _,by omega,by omega⟩,?_⟩ | fail)
        all_goals (refine⟨_,?_,kp_,kp_⟩;dsimp only;grind)
       ·rintro b4 hb4
        refine⟨⟨by decide,rfl,rfl⟩,?_⟩
        refine⟨fun qb4=>?_,fun qb4=>?_⟩
        ·unfold grantedE tsAt csAt
         refine⟨?_,trivial⟩
         congr 1
         grind
        ·refine⟨Bool,fun b=>[(123,.bool b)],fun _=>[],fun b=>(b=true↔(¬ e.cell=(s.tenants.getD e.tenant.toNat default).home∧e.tick<(s.tenants.getD e.tenant.toNat default).win.till)),?_,?_⟩
         ·repeat' (first | refine⟨fun _=>?_,fun h=>Bool.noConfusion h⟩ | refine⟨fun h=>Bool.noConfusion h,fun _=>?_⟩ | refine⟨fun _=>?_,fun _=>?_⟩ | refine⟨⟨Nat.le_refl _,by omega,by omega⟩,?_⟩ | fail)
          all_goals (refine⟨_,?_,kp_,kp_⟩;dsimp only;grind)
         ·rintro b5 hb5
          refine⟨⟨by decide,rfl,rfl⟩,?_⟩
          refine⟨fun qb5=>?_,fun qb5=>?_⟩
          ·unfold grantedE tsAt csAt
           refine⟨?_,trivial⟩
           congr 1
           grind
          ·unfold grantedE tsAt csAt
           refine⟨?_,trivial⟩
           congr 1
           grind
def ctGrantedR:CT:=fun vs mem nx K=>∃ N x c M y nT nC s e,vs=[cfgV N x c,stVg M y nT nC s,entV' e]∧(keeps mem (cfgM N c)∧HasSt mem M nT nC s)∧(CfgV c∧gdPre c s e)∧K (.int .i64 (grantedE c s e)) mem nx
theorem grantedROk:CSound Tryz.prog 92 ctGrantedR:=⟨by kernel_rfl,fun {C ρ fr mem nx a w vs K} hc hs hv=>by
 obtain⟨N,x,c,M,y,nT,nC,s,e,rfl,⟨h1,h2⟩,⟨hV,hp⟩,hK⟩:=hc
 obtain⟨rfl,rfl,h3,h4⟩:=h2
 have e0:([cfgV N x c,stV M y s,entV' e].map (den ρ)).toArray=#[.agg (cfgC (cfgX ρ N x) c),.agg (stC (stX ρ M y) s),entV' e]:=by
  rw[List.map_cons,List.map_cons,den_cfg,den_st]
  simp[den,den2,den1]
 rw[e0]
 have hcc:=hs.cfg (x:=x) h1 (S:=(·<w.heap.size)) (fun b h _=>h)
 have hss:=hs.stRow (y:=y) h3 h4
 have:=rd_calls ft_nil Tryz.func92 rfl (D:=gdD) (by kernel_rfl) (vs:=[cfgV CN1 (ck (cfgX ρ N x)) c,stV SN1 (sk (stX ρ M y)) s,entV' e]) rfl (cfgX ρ N x) c (stX ρ M y) s noA noS w hcc hss (noS_ok w _) (fun v hv=>by
  simp only[List.mem_cons,List.not_mem_nil,or_false] at hv
  rcases hv with rfl | rfl | rfl
  ·exact rpl_cfg_ok _ c _ s noA noS
  ·exact rpl_st_ok _ c _ s noA noS
  ·exact (pure_den (pure_ent e) _ _).2) (R:=fun v=>v=.int .i64 (grantedE c s e)) (granted_sx _ c _ s e hV hp)
 rw[List.map_cons,List.map_cons,rpl_cfg,rpl_st,List.map_cons,(pure_den (pure_ent e) _ 0).1] at this
 refine this.mono ?_
 rintro r w' ⟨v,rfl,-,rfl,hb⟩
 exact⟨.int .i64 (grantedE c s e),mem,nx,ρ,rfl,hK,hs.later hb,trivial,ExtS.refl _ _⟩⟩
abbrev winV (x:Win):Value:=.agg #[.int .i64 x.cell,.int .i64 x.epoch,.int .i64 x.version,.int .i64 x.since,.int .i64 x.till]
theorem pure_win (x:Win):pureV (winV x):=fun v hv=>by
 simp at hv
 rcases hv with rfl | rfl | rfl | rfl | rfl<;>trivial
def ctCutW:CT:=fun vs mem nx K=>∃ (x:Win) (t:Int),vs=[winV x,.int .i64 t]∧(-1000000000000≤t∧t≤1000000000000)∧K (winV (cutW x t)) mem nx
set_option maxRecDepth 100000 in
theorem cut_sx (x:Win) (t:Int) (ht:-1000000000000≤t∧t≤1000000000000):sx tt [] [] (bodyOf Tryz.f93) (argF 0 [winV x,.int .i64 t]) (rdM noC noS noS) 10 (endx tt Tryz.f93.results.toList fun v _ _=>v=winV (cutW x t)∧pureV v):=by
 have w1:IntKind.i64.wrap (t+1)=t+1:=wrapi (by omega)
 have hm:∀ a b:Int,(if b<a then b else a)=min a b:=fun a b=>by rw[Int.min_def];split<;>split<;>omega
 refine⟨?_,?_⟩
 ·show Value.agg #[_,_,_,.int .i64 (if (if IntKind.i64.wrap (t+1)<x.till then IntKind.i64.wrap (t+1) else x.till)<x.since then (if IntKind.i64.wrap (t+1)<x.till then IntKind.i64.wrap (t+1) else x.till) else x.since),.int .i64 (if IntKind.i64.wrap (t+1)<x.till then IntKind.i64.wrap (t+1) else x.till)]=_
  rw[w1,hm,hm]
  rfl
 ·intro u hu
  simp at hu
  rcases hu with rfl | rfl | rfl | rfl | rfl<;>trivial
theorem cutWOk:CSound Tryz.prog 93 ctCutW:=CSound.pure (by kernel_rfl) (by
 rintro vs mem nx K ⟨x,t,rfl,ht,hK⟩
 refine⟨_,hK,fun ρ n=>pure_den (pure_win _) ρ n,fun ρ w=>?_⟩
 have:=rd_calls ft_nil Tryz.func93 rfl (D:=[]) (by kernel_rfl) (vs:=[winV x,.int .i64 t]) rfl noX noC noA noS noA noS w (noC_ok _ _) (noS_ok w _) (noS_ok w _) (fun v hv=>by
  simp only[List.mem_cons,List.not_mem_nil,or_false] at hv
  rcases hv with rfl | rfl
  ·exact (pure_den (pure_win x) _ _).2
  ·trivial) (R:=fun v=>v=winV (cutW x t)) (cut_sx x t ht)
 rw[List.map_cons,(pure_den (pure_win x) _ 0).1] at this
 rw[List.map_cons,(pure_den (pure_win x) _ 0).1]
 refine this.mono ?_
 rintro e w' ⟨v,rfl,-,rfl,hb⟩
 exact⟨rfl,hb⟩)
/-! ref12.Apply: the functions that are walked inside. -/
theorem ov_yes {c:Cfg} {s:St} (h:decide (((overN c s c.cells.length:Nat):Int)>0)=true):overB c s=true:=by
 rw[← overN_pos]
 have:=of_decide_eq_true h
 exact decide_eq_true (by omega)
theorem ov_no {c:Cfg} {s:St} (h:decide (((overN c s c.cells.length:Nat):Int)>0)=false):overB c s=false:=by
 rw[← overN_pos]
 have:=of_decide_eq_false h
 exact decide_eq_false (by omega)
def placeF:FT:=[(64,ctNo),(88,ctFrozenR),(89,ctMay),(90,ctTogether),(91,ctFit)]
def placeD:List (Nat×DQ):=[(9000000,{ k:=0,L:=[91] }),(11,{ k:=13,L:=[18],pre:=[(0,false),(1,false),(2,false),(3,false),(4,false),(5,false),(6,false),(7,false),(8,false),(9,true),(10,false),(11,false),(12,true)] })]
theorem placeFok:FTokI Tryz.prog placeF (inlOf placeD):=fti_cons (noOk.i _) (fti_cons (frozenROk.i _) (fti_cons (mayOk.i _) (fti_cons (togetherOk.i _) (fti_cons (fitOk (by decide)) fti_nil))))
abbrev ctPlaceI:CT:=ctInl ttU placeF placeD Tryz.f66 (bodyOf Tryz.f66)
theorem placeIOk {I:List Nat} (hI:I.contains 66=true):CSoundI Tryz.prog I 66 ctPlaceI:=inl_ok ttUok placeFok mixed (by kernel_rfl) Tryz.func66 rfl (by kernel_rfl) hI
def grantF:FT:=[(64,ctNo),(92,ctGrantedR),(91,ctFit)]
def grantD:List (Nat×DQ):=[(9000000,{ k:=0,L:=[91] }),(2,{ k:=17,L:=LA,pre:=[(0,false),(1,false),(2,false),(3,false),(4,false),(5,false),(6,false),(7,false),(8,false),(9,false),(10,false),(11,false),(12,false),(13,false),(14,false),(15,false),(16,false)] }),(4,{ k:=23,L:=LA,pre:=[(0,false),(1,false),(2,false),(3,false),(4,false),(5,false),(6,false),(7,false),(8,false),(9,false),(10,false),(11,false),(12,false),(13,false),(14,false),(15,false),(16,false),(17,false),(18,false),(19,false),(20,false),(21,false),(22,false)] }),(5000003,{ k:=40,L:=LA,sl:=[3,4,5,6,7,8] }),(5000005,{ k:=40,L:=LA,sl:=[3,4,5,6,7,8] })]
theorem grantFok:FTokI Tryz.prog grantF (inlOf grantD):=fti_cons (noOk.i _) (fti_cons (grantedROk.i _) (fti_cons (fitOk (by decide)) fti_nil))
abbrev ctGrantI:CT:=ctInl ttU grantF grantD Tryz.f67 (bodyOf Tryz.f67)
theorem grantIOk {I:List Nat} (hI:I.contains 67=true):CSoundI Tryz.prog I 67 ctGrantI:=inl_ok ttUok grantFok mixed (by kernel_rfl) Tryz.func67 rfl (by kernel_rfl) hI
def cutF:FT:=[(64,ctNo),(93,ctCutW)]
def cutD:List (Nat×DQ):=[(9000000,{ k:=0,L:=[] }),(4,{ k:=6,L:=LA,pre:=[(0,false),(1,false),(2,false),(3,false),(4,false),(5,false)] }),(6,{ k:=8,L:=LA,pre:=[(0,false),(1,false),(2,false),(3,false),(4,false),(5,false),(6,false),(7,true)] })]
theorem cutFok:FTokI Tryz.prog cutF (inlOf cutD):=fti_cons (noOk.i _) (fti_cons (cutWOk.i _) fti_nil)
abbrev ctCutI:CT:=ctInl ttU cutF cutD Tryz.f68 (bodyOf Tryz.f68)
theorem cutIOk {I:List Nat} (hI:I.contains 68=true):CSoundI Tryz.prog I 68 ctCutI:=inl_ok ttUok cutFok mixed (by kernel_rfl) Tryz.func68 rfl (by kernel_rfl) hI
def standbyF:FT:=[(64,ctNo),(88,ctFrozenR),(89,ctMay),(90,ctTogether),(91,ctFit)]
def standbyD:List (Nat×DQ):=[(9000000,{ k:=0,L:=[91] }),(5,{ k:=23,L:=LA,pre:=[(0,false),(1,false),(2,false),(3,false),(4,false),(5,false),(6,false),(7,false),(8,false),(9,false),(10,false),(11,false),(12,false),(13,false),(14,false),(15,false),(16,false),(17,false),(18,false),(19,false),(20,false),(21,false),(22,false)] }),(11,{ k:=25,L:=LA,pre:=[(0,false),(1,false),(2,false),(3,false),(4,false),(5,true),(6,false),(7,false),(8,false),(9,false),(10,false),(11,false),(12,false),(13,false),(14,false),(15,true),(16,false),(17,false),(18,false),(19,false),(20,false),(21,false),(22,false),(23,false),(24,false)] }),(5000006,{ k:=40,L:=LA,sl:=[3,4,5,6,7,8] }),(5000012,{ k:=40,L:=LA,sl:=[3,4,5,6,7,8] }),(1000013,{ k:=40,L:=LA,sl:=[3,4,5,6,7,8] })]
theorem standbyFok:FTokI Tryz.prog standbyF (inlOf standbyD):=fti_cons (noOk.i _) (fti_cons (frozenROk.i _) (fti_cons (mayOk.i _) (fti_cons (togetherOk.i _) (fti_cons (fitOk (by decide)) fti_nil))))
abbrev ctStandbyI:CT:=ctInl ttU standbyF standbyD Tryz.f69 (bodyOf Tryz.f69)
theorem standbyIOk {I:List Nat} (hI:I.contains 69=true):CSoundI Tryz.prog I 69 ctStandbyI:=inl_ok ttUok standbyFok mixed (by kernel_rfl) Tryz.func69 rfl (by kernel_rfl) hI
def readyF:FT:=[(64,ctNo)]
def readyD:List (Nat×DQ):=[(9000000,{ k:=0,L:=[] }),(4,{ k:=6,L:=LA,pre:=[(0,false),(1,false),(2,false),(3,false),(4,false),(5,false)] })]
theorem readyFok:FTokI Tryz.prog readyF (inlOf readyD):=fti_cons (noOk.i _) fti_nil
abbrev ctReadyI:CT:=ctInl ttU readyF readyD Tryz.f70 (bodyOf Tryz.f70)
theorem readyIOk {I:List Nat} (hI:I.contains 70=true):CSoundI Tryz.prog I 70 ctReadyI:=inl_ok ttUok readyFok mixed (by kernel_rfl) Tryz.func70 rfl (by kernel_rfl) hI
def migrateF:FT:=[(64,ctNo),(88,ctFrozenR),(89,ctMay),(90,ctTogether),(91,ctFit)]
def migrateD:List (Nat×DQ):=[(9000000,{ k:=0,L:=[91] }),(4,{ k:=23,L:=LA,pre:=[(0,false),(1,false),(2,false),(3,false),(4,false),(5,false),(6,false),(7,false),(8,false),(9,false),(10,false),(11,false),(12,false),(13,false),(14,false),(15,false),(16,false),(17,false),(18,false),(19,false),(20,false),(21,false),(22,false)] }),(10,{ k:=25,L:=LA,pre:=[(0,false),(1,false),(2,false),(3,false),(4,false),(5,true),(6,false),(7,false),(8,false),(9,false),(10,false),(11,false),(12,false),(13,false),(14,false),(15,true),(16,false),(17,false),(18,false),(19,false),(20,false),(21,false),(22,false),(23,false),(24,false)] }),(5000003,{ k:=40,L:=LA,sl:=[3,4,5,6,7,8] }),(5000005,{ k:=40,L:=LA,sl:=[3,4,5,6,7,8] }),(5000011,{ k:=40,L:=LA,sl:=[3,4,5,6,7,8] })]
theorem migrateFok:FTokI Tryz.prog migrateF (inlOf migrateD):=fti_cons (noOk.i _) (fti_cons (frozenROk.i _) (fti_cons (mayOk.i _) (fti_cons (togetherOk.i _) (fti_cons (fitOk (by decide)) fti_nil))))
abbrev ctMigrateI:CT:=ctInl ttU migrateF migrateD Tryz.f71 (bodyOf Tryz.f71)
theorem migrateIOk {I:List Nat} (hI:I.contains 71=true):CSoundI Tryz.prog I 71 ctMigrateI:=inl_ok ttUok migrateFok mixed (by kernel_rfl) Tryz.func71 rfl (by kernel_rfl) hI
def abandonF:FT:=[(64,ctNo)]
def abandonD:List (Nat×DQ):=[(9000000,{ k:=0,L:=[] }),(5000003,{ k:=40,L:=LA,sl:=[2,3,4,5,6] })]
theorem abandonFok:FTokI Tryz.prog abandonF (inlOf abandonD):=fti_cons (noOk.i _) fti_nil
abbrev ctAbandonI:CT:=ctInl ttU abandonF abandonD Tryz.f72 (bodyOf Tryz.f72)
theorem abandonIOk {I:List Nat} (hI:I.contains 72=true):CSoundI Tryz.prog I 72 ctAbandonI:=inl_ok ttUok abandonFok mixed (by kernel_rfl) Tryz.func72 rfl (by kernel_rfl) hI
def shedF:FT:=[(64,ctNo),(91,ctFit)]
def shedD:List (Nat×DQ):=[(9000000,{ k:=0,L:=[91] }),(5,{ k:=7,L:=LA,pre:=[(0,false),(1,false),(2,false),(3,false),(4,false),(5,false),(6,false)] }),(11,{ k:=6,L:=LA,pre:=[(0,false),(1,false),(2,false),(3,false),(4,false),(5,false)] }),(5000004,{ k:=40,L:=LA,sl:=[3,4,5,6,7,8] })]
theorem shedFok:FTokI Tryz.prog shedF (inlOf shedD):=fti_cons (noOk.i _) (fti_cons (fitOk (by decide)) fti_nil)
abbrev ctShedI:CT:=ctInl ttU shedF shedD Tryz.f73 (bodyOf Tryz.f73)
theorem shedIOk {I:List Nat} (hI:I.contains 73=true):CSoundI Tryz.prog I 73 ctShedI:=inl_ok ttUok shedFok mixed (by kernel_rfl) Tryz.func73 rfl (by kernel_rfl) hI
def wantF:FT:=[(64,ctNo),(95,ctProvenR),(94,ctOpenR)]
def wantD:List (Nat×DQ):=[(9000000,{ k:=0,L:=[] }),(9,{ k:=6,L:=LA,pre:=[(0,false),(1,false),(2,false),(3,false),(4,false),(5,false)] }),(13,{ k:=11,L:=LA,pre:=[(0,false),(1,false),(2,false),(3,false),(4,false),(5,false),(6,false),(7,false),(8,false),(9,false),(10,false)] }),(15,{ k:=18,L:=LA,pre:=[(0,false),(1,false),(2,false),(3,false),(4,false),(5,false),(6,false),(7,false),(8,false),(9,false),(10,false),(11,true),(12,false),(13,false),(14,false),(15,false),(16,false),(17,false)] }),(2000005,{ k:=0,L:=LA,sl:=[3,4,5,6,7,8,9] }),(1000006,{ k:=40,L:=LA,sl:=[3,4,5,6,7,8,9,11] }),(5000012,{ k:=40,L:=LA,sl:=[3,4,5,6,7,8,9,10] }),(5000014,{ k:=40,L:=LA,sl:=[3,4,5,6,7,8,9,10] }),(5000016,{ k:=40,L:=LA,sl:=[3,4,5,6,7,8,9,10] })]
theorem wantFok:FTokI Tryz.prog wantF (inlOf wantD):=fti_cons (noOk.i _) (fti_cons (provenROk.i _) (fti_cons (openROk.i _) fti_nil))
abbrev ctWantI:CT:=ctInl ttU wantF wantD Tryz.f74 (bodyOf Tryz.f74)
theorem wantIOk {I:List Nat} (hI:I.contains 74=true):CSoundI Tryz.prog I 74 ctWantI:=inl_ok ttUok wantFok mixed (by kernel_rfl) Tryz.func74 rfl (by kernel_rfl) hI
def runsF:FT:=[(64,ctNo),(95,ctProvenR)]
def runsD:List (Nat×DQ):=[(9000000,{ k:=0,L:=[] }),(2,{ k:=16,L:=LA,pre:=[(0,false),(1,false),(2,false),(3,false),(4,false),(5,false),(6,false),(7,false),(8,false),(9,false),(10,false),(11,false),(12,false),(13,false),(14,false),(15,false)] }),(12,{ k:=9,L:=[17],pre:=[(0,false),(1,false),(2,false),(3,false),(4,false),(5,false),(6,false),(7,false),(8,true)] }),(5000003,{ k:=40,L:=LA,sl:=[2,3,4,5,6] }),(5000005,{ k:=40,L:=LA,sl:=[2,3,4,5,6] }),(2000007,{ k:=0,L:=LA,sl:=[2,3,4,5,6] }),(5000011,{ k:=50,L:=LA,sl:=[2,3,4,5,6,7] })]
theorem runsFok:FTokI Tryz.prog runsF (inlOf runsD):=fti_cons (noOk.i _) (fti_cons (provenROk.i _) fti_nil)
abbrev ctRunsI:CT:=ctInl ttU runsF runsD Tryz.f75 (bodyOf Tryz.f75)
theorem runsIOk {I:List Nat} (hI:I.contains 75=true):CSoundI Tryz.prog I 75 ctRunsI:=inl_ok ttUok runsFok mixed (by kernel_rfl) Tryz.func75 rfl (by kernel_rfl) hI
def proveF:FT:=[(64,ctNo),(95,ctProvenR)]
def proveD:List (Nat×DQ):=[(9000000,{ k:=0,L:=[] }),(2000004,{ k:=0,L:=LA,sl:=[3,4,5,6,7] }),(5000008,{ k:=40,L:=LA,sl:=[3,4,5,6,7,8] })]
theorem proveFok:FTokI Tryz.prog proveF (inlOf proveD):=fti_cons (noOk.i _) (fti_cons (provenROk.i _) fti_nil)
abbrev ctProveI:CT:=ctInl ttU proveF proveD Tryz.f76 (bodyOf Tryz.f76)
theorem proveIOk {I:List Nat} (hI:I.contains 76=true):CSoundI Tryz.prog I 76 ctProveI:=inl_ok ttUok proveFok mixed (by kernel_rfl) Tryz.func76 rfl (by kernel_rfl) hI
def expandF:FT:=[(64,ctNo)]
def expandD:List (Nat×DQ):=[(9000000,{ k:=0,L:=[] }),(9,{ k:=20,L:=LA,pre:=[(0,false),(1,false),(2,false),(3,false),(4,false),(5,false),(6,false),(7,false),(8,false),(9,false),(10,false),(11,false),(12,false),(13,false),(14,false),(15,false),(16,false),(17,false),(18,false),(19,false)] }),(2000006,{ k:=0,L:=LA,sl:=[2,3,4,5] }),(5000010,{ k:=40,L:=LA,sl:=[2,3,4,5,6] })]
theorem expandFok:FTokI Tryz.prog expandF (inlOf expandD):=fti_cons (noOk.i _) fti_nil
abbrev ctExpandI:CT:=ctInl ttU expandF expandD Tryz.f78 (bodyOf Tryz.f78)
theorem expandIOk {I:List Nat} (hI:I.contains 78=true):CSoundI Tryz.prog I 78 ctExpandI:=inl_ok ttUok expandFok mixed (by kernel_rfl) Tryz.func78 rfl (by kernel_rfl) hI
def arF:FT:=[(63,ctValid6),(64,ctNo),(65,ctCopied),(77,ctHas),(66,ctPlaceI),(67,ctGrantI),(68,ctCutI),(69,ctStandbyI),(70,ctReadyI),(71,ctMigrateI),(72,ctAbandonI),(73,ctShedI),(74,ctWantI),(75,ctRunsI),(76,ctProveI),(78,ctExpandI)]
def arD:List (Nat×DQ):=[(9000000,{ k:=0,L:=[66,67,68,69,70,71,72,73,74,75,76,78] }),(27,{ k:=9,L:=[11,12,14],pre:=[(0,false),(1,false),(2,false),(3,false),(4,false),(5,false),(6,false),(7,false),(8,false)] }),(29,{ k:=15,L:=[11,12],pre:=[(0,false),(1,false),(2,false),(3,false),(4,false),(5,false),(6,false),(7,false),(8,false),(9,false),(10,false),(11,false),(12,true),(13,false),(14,true)] }),(37,{ k:=8,L:=[11,12],pre:=[(0,false),(1,false),(2,false),(3,false),(5,false),(6,false),(7,false),(4,true)] })]
theorem arFok:FTokI Tryz.prog arF (inlOf arD):=fti_cons (valid6Ok.i _) (fti_cons (noOk.i _) (fti_cons (copiedOk.i _) (fti_cons (hasOk.i _) (fti_cons (placeIOk (by decide)) (fti_cons (grantIOk (by decide)) (fti_cons (cutIOk (by decide)) (fti_cons (standbyIOk (by decide)) (fti_cons (readyIOk (by decide)) (fti_cons (migrateIOk (by decide)) (fti_cons (abandonIOk (by decide)) (fti_cons (shedIOk (by decide)) (fti_cons (wantIOk (by decide)) (fti_cons (runsIOk (by decide)) (fti_cons (proveIOk (by decide)) (fti_cons (expandIOk (by decide)) (fti_nil))))))))))))))))
set_option maxRecDepth 100000 in
set_option maxHeartbeats 4000000 in
theorem apPlace (x:CfgK) (c:Cfg) (y:StK) (s:St) (e:Ent) (hA:ArH c s e) (hk:e.kind=1):sx ttU arF arD (bodyOf Tryz.f49) (argF 0 [cfgV CN1 x c,stV SN1 y s,entV' e]) (rdM c s noS) 10 (endx ttU Tryz.f49.results.toList fun v mem' _=>ApS mem' v (applyR c s e)):=by
 have hV:=hA.cfg
 have hI:=hA.inv
 have hE:=hA.ent
 have hcn:=hA.cnt
 have htk:=hA.tick
 have hlt:=hI.lt
 have hlc:=hI.lc
 have hnt:=hV.nt
 have hnc:=hV.nc
 have hct:=hI.count
 have hst:=hI.tick
 have hev:=hI.evac
 have hpv:=hI.proven
 have htb:=hA.tB
 have hP:kindE c s e=placeE c s e:=by unfold kindE;simp[hk]
 have hf:=hE
 simp[entV,entOk,inS,inR,fT,fC,fO,fE,fW,fN,hk] at hf
 refine⟨CN1,x,c,e,rfl,kp_,hV,?_⟩
 refine⟨fun h=>absurd h (by rw[hE];decide),fun _=>?_⟩
 refine⟨fun h=>absurd (of_decide_eq_true h) (by omega),fun _=>?_⟩
 refine⟨fun h=>absurd (of_decide_eq_true h) (by omega),fun _=>?_⟩
 refine⟨SN1,y,s,rfl,⟨.list rfl,.list rfl⟩,⟨by omega,by omega⟩,?_⟩
 intro y2
 refine⟨fun _=>?_,fun h=>absurd h (by rw[hk];decide)⟩
 rw[wrapi (n:=s.count+1) (by omega)]
 by_cases ho:0≤e.other
 ·refine⟨⟨Nat.le_refl _,by omega,by omega⟩,?_⟩
  refine⟨fun h1=>?_,fun h1=>?_⟩
  ·repeat (first | refine⟨fun _=>?_,fun h=>Bool.noConfusion h⟩ | refine⟨fun h=>Bool.noConfusion h,fun _=>?_⟩ | fail)
   refine⟨4,rfl,?_⟩
   exact ApS.err (hA.err (by rw[hP];unfold placeE tsAt csAt nearB;grind) (by decide))
  ·refine⟨⟨Nat.le_refl _,by omega,by omega⟩,?_⟩
   refine⟨fun h2=>?_,fun h2=>?_⟩
   ·repeat (first | refine⟨fun _=>?_,fun h=>Bool.noConfusion h⟩ | refine⟨fun h=>Bool.noConfusion h,fun _=>?_⟩ | fail)
    refine⟨6,rfl,?_⟩
    exact ApS.err (hA.err (by rw[hP];unfold placeE tsAt csAt nearB;grind) (by decide))
   ·refine⟨fun _=>?_,fun h=>absurd h (by simp;omega)⟩
    refine⟨⟨Nat.le_refl _,by omega,by omega⟩,?_⟩
    refine⟨fun h3=>?_,fun h3=>?_⟩
    ·repeat (first | refine⟨fun _=>?_,fun h=>Bool.noConfusion h⟩ | refine⟨fun h=>Bool.noConfusion h,fun _=>?_⟩ | fail)
     refine⟨6,rfl,?_⟩
     exact ApS.err (hA.err (by rw[hP];unfold placeE tsAt csAt nearB;grind) (by decide))
    ·refine⟨CN1,x,c,⟨15,14,0⟩,y2,_,_,⟨e.tick,s.count+1,s.tenants,s.cells,s.proven,s.evac,s.low,s.high⟩,e.cell,rfl,⟨kp_,⟨rfl,rfl,.list rfl,.list rfl⟩⟩,⟨hV,by dsimp only;omega⟩,?_⟩
     refine⟨fun h4=>?_,fun h4=>?_⟩
     ·replace h4:frozenB c s e.cell=true:=h4
      repeat (first | refine⟨fun _=>?_,fun h=>Bool.noConfusion h⟩ | refine⟨fun h=>Bool.noConfusion h,fun _=>?_⟩ | fail)
      refine⟨12,rfl,?_⟩
      exact ApS.err (hA.err (by rw[hP];unfold placeE tsAt csAt nearB;grind) (by decide))
     ·replace h4:frozenB c s e.cell=false:=h4
      refine⟨fun _=>?_,fun h=>absurd h (by simp;omega)⟩
      refine⟨CN1,x,c,⟨15,14,0⟩,y2,_,_,⟨e.tick,s.count+1,s.tenants,s.cells,s.proven,s.evac,s.low,s.high⟩,e.other,rfl,⟨kp_,⟨rfl,rfl,.list rfl,.list rfl⟩⟩,⟨hV,by dsimp only;omega⟩,?_⟩
      refine⟨fun h5=>?_,fun h5=>?_⟩
      ·replace h5:frozenB c s e.other=true:=h5
       repeat (first | refine⟨fun _=>?_,fun h=>Bool.noConfusion h⟩ | refine⟨fun h=>Bool.noConfusion h,fun _=>?_⟩ | fail)
       refine⟨12,rfl,?_⟩
       exact ApS.err (hA.err (by rw[hP];unfold placeE tsAt csAt nearB;grind) (by decide))
      ·replace h5:frozenB c s e.other=false:=h5
       refine⟨CN1,x,c,_,_,rfl,kp_,hV,?_⟩
       refine⟨fun h6=>?_,fun h6=>?_⟩
       ·repeat (first | refine⟨fun _=>?_,fun h=>Bool.noConfusion h⟩ | refine⟨fun h=>Bool.noConfusion h,fun _=>?_⟩ | fail)
        refine⟨11,rfl,?_⟩
        exact ApS.err (hA.err (by rw[hP];unfold placeE tsAt csAt nearB;grind) (by decide))
       ·refine⟨fun _=>?_,fun h=>absurd h (by simp;omega)⟩
        refine⟨CN1,x,c,_,_,rfl,kp_,hV,?_⟩
        refine⟨fun h7=>?_,fun h7=>?_⟩
        ·repeat (first | refine⟨fun _=>?_,fun h=>Bool.noConfusion h⟩ | refine⟨fun h=>Bool.noConfusion h,fun _=>?_⟩ | fail)
         refine⟨11,rfl,?_⟩
         exact ApS.err (hA.err (by rw[hP];unfold placeE tsAt csAt nearB;grind) (by decide))
        ·refine⟨CN1,x,c,_,_,rfl,kp_,hV,?_⟩
         refine⟨fun h8=>?_,fun h8=>?_⟩
         ·unfold togB at h8
          repeat (first | refine⟨fun _=>?_,fun h=>Bool.noConfusion h⟩ | refine⟨fun h=>Bool.noConfusion h,fun _=>?_⟩ | fail)
          refine⟨11,rfl,?_⟩
          exact ApS.err (hA.err (by rw[hP];unfold placeE tsAt csAt nearB;grind) (by decide))
         ·have hi:e.tenant.toNat<s.tenants.length:=by omega
          refine⟨tsC { (s.tenants.getD e.tenant.toNat default) with placed:=true },(by first | rfl | (show putN _ _ (tsC (List.getD _ _ _))=_;rw[getD_set hi];rfl)),?_⟩
          rw[setEl_set (by first | exact hi | (rw[List.length_set];exact hi))]
          try rw[List.set_set]
          refine⟨kp_,?_⟩
          refine⟨tsC { (s.tenants.getD e.tenant.toNat default) with placed:=true,home:=e.cell },(by first | rfl | (show putN _ _ (tsC (List.getD _ _ _))=_;rw[getD_set hi];rfl)),?_⟩
          rw[setEl_set (by first | exact hi | (rw[List.length_set];exact hi))]
          try rw[List.set_set]
          refine⟨kp_,?_⟩
          refine⟨tsC { (s.tenants.getD e.tenant.toNat default) with placed:=true,home:=e.cell,standby:=e.other },(by first | rfl | (show putN _ _ (tsC (List.getD _ _ _))=_;rw[getD_set hi];rfl)),?_⟩
          rw[setEl_set (by first | exact hi | (rw[List.length_set];exact hi))]
          try rw[List.set_set]
          unfold togB at h8
          have hk0:kindE c s e=0:=by rw[hP];unfold placeE tsAt csAt nearB;grind
          have heff:effOf s e=(⟨e.tick,s.count+1,s.tenants.set e.tenant.toNat { (s.tenants.getD e.tenant.toNat default) with placed:=true,home:=e.cell,standby:=e.other },s.cells,s.proven,s.evac,s.low,s.high⟩:St):=by simp[effOf,stamped,setTen,tenEff,tsAt,hk]
          refine⟨CN1,x,c,⟨15,14,0⟩,y2,_,_,(⟨e.tick,s.count+1,s.tenants.set e.tenant.toNat { (s.tenants.getD e.tenant.toNat default) with placed:=true,home:=e.cell,standby:=e.other },s.cells,s.proven,s.evac,s.low,s.high⟩:St),rfl,⟨kp_,⟨(by first | rfl | (simp)),rfl,⟨_,_,_,rfl,(by first | exact Nat.le_refl _ | (simp)),fun k hk=>rfl⟩,.list rfl⟩⟩,⟨hV,by simp;omega⟩,?_⟩
          intro cap
          refine⟨fun hov=>?_,fun hov=>?_⟩
          ·exact ApS.err (hA.over hk0 (by unfold fitsB;simp[hk]) (by rw[heff];exact ov_yes hov))
          ·exact ApS.ok (M:=⟨15,14,0⟩) (y:=y2) (s:=(⟨e.tick,s.count+1,s.tenants.set e.tenant.toNat { (s.tenants.getD e.tenant.toNat default) with placed:=true,home:=e.cell,standby:=e.other },s.cells,s.proven,s.evac,s.low,s.high⟩:St)) (by rw[hA.fine hk0 (fun _=>by rw[heff];exact ov_no hov),heff]) (by first | rfl | (simp)) rfl ⟨_,_,_,rfl,rfl,(by first | exact Nat.le_refl _ | (simp)),fun k hk=>rfl⟩ ⟨_,_,_,rfl,rfl,Nat.le_refl _,fun k hk=>rfl⟩
 ·refine⟨⟨Nat.le_refl _,by omega,by omega⟩,?_⟩
  refine⟨fun h1=>?_,fun h1=>?_⟩
  ·repeat (first | refine⟨fun _=>?_,fun h=>Bool.noConfusion h⟩ | refine⟨fun h=>Bool.noConfusion h,fun _=>?_⟩ | fail)
   refine⟨4,rfl,?_⟩
   exact ApS.err (hA.err (by rw[hP];unfold placeE tsAt csAt nearB;grind) (by decide))
  ·refine⟨⟨Nat.le_refl _,by omega,by omega⟩,?_⟩
   refine⟨fun h2=>?_,fun h2=>?_⟩
   ·repeat (first | refine⟨fun _=>?_,fun h=>Bool.noConfusion h⟩ | refine⟨fun h=>Bool.noConfusion h,fun _=>?_⟩ | fail)
    refine⟨6,rfl,?_⟩
    exact ApS.err (hA.err (by rw[hP];unfold placeE tsAt csAt nearB;grind) (by decide))
   ·refine⟨fun h=>absurd h (by simp;omega),fun _=>?_⟩
    repeat (first | refine⟨fun _=>?_,fun h=>Bool.noConfusion h⟩ | refine⟨fun h=>Bool.noConfusion h,fun _=>?_⟩ | fail)
    refine⟨CN1,x,c,⟨15,14,0⟩,y2,_,_,⟨e.tick,s.count+1,s.tenants,s.cells,s.proven,s.evac,s.low,s.high⟩,e.cell,rfl,⟨kp_,⟨rfl,rfl,.list rfl,.list rfl⟩⟩,⟨hV,by dsimp only;omega⟩,?_⟩
    refine⟨fun h4=>?_,fun h4=>?_⟩
    ·replace h4:frozenB c s e.cell=true:=h4
     repeat (first | refine⟨fun _=>?_,fun h=>Bool.noConfusion h⟩ | refine⟨fun h=>Bool.noConfusion h,fun _=>?_⟩ | fail)
     refine⟨12,rfl,?_⟩
     exact ApS.err (hA.err (by rw[hP];unfold placeE tsAt csAt nearB;grind) (by decide))
    ·replace h4:frozenB c s e.cell=false:=h4
     refine⟨fun h=>absurd h (by simp;omega),fun _=>?_⟩
     repeat (first | refine⟨fun _=>?_,fun h=>Bool.noConfusion h⟩ | refine⟨fun h=>Bool.noConfusion h,fun _=>?_⟩ | fail)
     refine⟨CN1,x,c,_,_,rfl,kp_,hV,?_⟩
     refine⟨fun h6=>?_,fun h6=>?_⟩
     ·repeat (first | refine⟨fun _=>?_,fun h=>Bool.noConfusion h⟩ | refine⟨fun h=>Bool.noConfusion h,fun _=>?_⟩ | fail)
      refine⟨11,rfl,?_⟩
      exact ApS.err (hA.err (by rw[hP];unfold placeE tsAt csAt nearB;grind) (by decide))
     ·refine⟨fun h=>absurd h (by simp;omega),fun _=>?_⟩
      repeat (first | refine⟨fun _=>?_,fun h=>Bool.noConfusion h⟩ | refine⟨fun h=>Bool.noConfusion h,fun _=>?_⟩ | fail)
      have hi:e.tenant.toNat<s.tenants.length:=by omega
      refine⟨tsC { (s.tenants.getD e.tenant.toNat default) with placed:=true },(by first | rfl | (show putN _ _ (tsC (List.getD _ _ _))=_;rw[getD_set hi];rfl)),?_⟩
      rw[setEl_set (by first | exact hi | (rw[List.length_set];exact hi))]
      try rw[List.set_set]
      refine⟨kp_,?_⟩
      refine⟨tsC { (s.tenants.getD e.tenant.toNat default) with placed:=true,home:=e.cell },(by first | rfl | (show putN _ _ (tsC (List.getD _ _ _))=_;rw[getD_set hi];rfl)),?_⟩
      rw[setEl_set (by first | exact hi | (rw[List.length_set];exact hi))]
      try rw[List.set_set]
      refine⟨kp_,?_⟩
      refine⟨tsC { (s.tenants.getD e.tenant.toNat default) with placed:=true,home:=e.cell,standby:=e.other },(by first | rfl | (show putN _ _ (tsC (List.getD _ _ _))=_;rw[getD_set hi];rfl)),?_⟩
      rw[setEl_set (by first | exact hi | (rw[List.length_set];exact hi))]
      try rw[List.set_set]
      have hk0:kindE c s e=0:=by rw[hP];unfold placeE tsAt csAt nearB;grind
      have heff:effOf s e=(⟨e.tick,s.count+1,s.tenants.set e.tenant.toNat { (s.tenants.getD e.tenant.toNat default) with placed:=true,home:=e.cell,standby:=e.other },s.cells,s.proven,s.evac,s.low,s.high⟩:St):=by simp[effOf,stamped,setTen,tenEff,tsAt,hk]
      refine⟨CN1,x,c,⟨15,14,0⟩,y2,_,_,(⟨e.tick,s.count+1,s.tenants.set e.tenant.toNat { (s.tenants.getD e.tenant.toNat default) with placed:=true,home:=e.cell,standby:=e.other },s.cells,s.proven,s.evac,s.low,s.high⟩:St),rfl,⟨kp_,⟨(by first | rfl | (simp)),rfl,⟨_,_,_,rfl,(by first | exact Nat.le_refl _ | (simp)),fun k hk=>rfl⟩,.list rfl⟩⟩,⟨hV,by simp;omega⟩,?_⟩
      intro cap
      refine⟨fun hov=>?_,fun hov=>?_⟩
      ·exact ApS.err (hA.over hk0 (by unfold fitsB;simp[hk]) (by rw[heff];exact ov_yes hov))
      ·exact ApS.ok (M:=⟨15,14,0⟩) (y:=y2) (s:=(⟨e.tick,s.count+1,s.tenants.set e.tenant.toNat { (s.tenants.getD e.tenant.toNat default) with placed:=true,home:=e.cell,standby:=e.other },s.cells,s.proven,s.evac,s.low,s.high⟩:St)) (by rw[hA.fine hk0 (fun _=>by rw[heff];exact ov_no hov),heff]) (by first | rfl | (simp)) rfl ⟨_,_,_,rfl,rfl,(by first | exact Nat.le_refl _ | (simp)),fun k hk=>rfl⟩ ⟨_,_,_,rfl,rfl,Nat.le_refl _,fun k hk=>rfl⟩
set_option maxRecDepth 100000 in
set_option maxHeartbeats 4000000 in
theorem apCut (x:CfgK) (c:Cfg) (y:StK) (s:St) (e:Ent) (hA:ArH c s e) (hk:e.kind=3):sx ttU arF arD (bodyOf Tryz.f49) (argF 0 [cfgV CN1 x c,stV SN1 y s,entV' e]) (rdM c s noS) 10 (endx ttU Tryz.f49.results.toList fun v mem' _=>ApS mem' v (applyR c s e)):=by
 have hV:=hA.cfg
 have hI:=hA.inv
 have hE:=hA.ent
 have hcn:=hA.cnt
 have htk:=hA.tick
 have hlt:=hI.lt
 have hlc:=hI.lc
 have hnt:=hV.nt
 have hnc:=hV.nc
 have hct:=hI.count
 have hst:=hI.tick
 have hev:=hI.evac
 have hpv:=hI.proven
 have htb:=hA.tB
 have hP:kindE c s e=cutE s e:=by unfold kindE;simp[hk]
 have hf:=hE
 simp[entV,entOk,inS,inR,fT,fC,fO,fE,fW,fN,hk] at hf
 refine⟨CN1,x,c,e,rfl,kp_,hV,?_⟩
 refine⟨fun h=>absurd h (by rw[hE];decide),fun _=>?_⟩
 refine⟨fun h=>absurd (of_decide_eq_true h) (by omega),fun _=>?_⟩
 refine⟨fun h=>absurd (of_decide_eq_true h) (by omega),fun _=>?_⟩
 refine⟨SN1,y,s,rfl,⟨.list rfl,.list rfl⟩,⟨by omega,by omega⟩,?_⟩
 intro y2
 refine⟨fun h=>absurd h (by rw[hk];decide),fun _=>?_⟩
 refine⟨fun h=>absurd h (by rw[hk];decide),fun _=>?_⟩
 refine⟨fun _=>?_,fun h=>absurd h (by rw[hk];decide)⟩
 rw[wrapi (n:=s.count+1) (by omega)]
 have hi:e.tenant.toNat<s.tenants.length:=by omega
 refine⟨⟨Nat.le_refl _,by omega,by omega⟩,?_⟩
 refine⟨fun h1=>?_,fun h1=>?_⟩
 ·repeat (first | refine⟨fun _=>?_,fun h=>Bool.noConfusion h⟩ | refine⟨fun h=>Bool.noConfusion h,fun _=>?_⟩ | fail)
  refine⟨4,rfl,?_⟩
  exact ApS.err (hA.err (by rw[hP];unfold cutE tsAt;grind) (by decide))
 ·refine⟨fun h2=>?_,fun h2=>?_⟩
  ·repeat (first | refine⟨fun _=>?_,fun h=>Bool.noConfusion h⟩ | refine⟨fun h=>Bool.noConfusion h,fun _=>?_⟩ | fail)
   refine⟨7,rfl,?_⟩
   exact ApS.err (hA.err (by rw[hP];unfold cutE tsAt;grind) (by decide))
  ·refine⟨(s.tenants.getD e.tenant.toNat default).win,e.tick,rfl,by omega,?_⟩
   refine⟨kp_,?_⟩
   refine⟨tsC { (s.tenants.getD e.tenant.toNat default) with win:=cutW (s.tenants.getD e.tenant.toNat default).win e.tick },(by first | rfl | (show putN _ _ (tsC (List.getD _ _ _))=_;rw[getD_set hi];rfl)),?_⟩
   rw[setEl_set (by first | exact hi | (rw[List.length_set];exact hi))]
   try rw[List.set_set]
   have hk0:kindE c s e=0:=by rw[hP];unfold cutE tsAt;grind
   have heff:effOf s e=(⟨e.tick,s.count+1,s.tenants.set e.tenant.toNat { (s.tenants.getD e.tenant.toNat default) with win:=cutW (s.tenants.getD e.tenant.toNat default).win e.tick },s.cells,s.proven,s.evac,s.low,s.high⟩:St):=by simp[effOf,stamped,setTen,setCel,tenEff,celEff,tsAt,csAt,hk]
   exact ApS.ok (M:=⟨15,14,0⟩) (y:=y2) (s:=(⟨e.tick,s.count+1,s.tenants.set e.tenant.toNat { (s.tenants.getD e.tenant.toNat default) with win:=cutW (s.tenants.getD e.tenant.toNat default).win e.tick },s.cells,s.proven,s.evac,s.low,s.high⟩:St)) (by rw[hA.fine hk0 (fun q=>absurd q (by unfold fitsB;simp[hk])),heff]) (by first | rfl | (simp)) (by first | rfl | (simp)) ⟨_,_,_,rfl,rfl,(by first | exact Nat.le_refl _ | (simp)),fun k hk=>rfl⟩ ⟨_,_,_,rfl,rfl,(by first | exact Nat.le_refl _ | (simp)),fun k hk=>rfl⟩
set_option maxRecDepth 100000 in
set_option maxHeartbeats 4000000 in
theorem apReady (x:CfgK) (c:Cfg) (y:StK) (s:St) (e:Ent) (hA:ArH c s e) (hk:e.kind=5):sx ttU arF arD (bodyOf Tryz.f49) (argF 0 [cfgV CN1 x c,stV SN1 y s,entV' e]) (rdM c s noS) 10 (endx ttU Tryz.f49.results.toList fun v mem' _=>ApS mem' v (applyR c s e)):=by
 have hV:=hA.cfg
 have hI:=hA.inv
 have hE:=hA.ent
 have hcn:=hA.cnt
 have htk:=hA.tick
 have hlt:=hI.lt
 have hlc:=hI.lc
 have hnt:=hV.nt
 have hnc:=hV.nc
 have hct:=hI.count
 have hst:=hI.tick
 have hev:=hI.evac
 have hpv:=hI.proven
 have htb:=hA.tB
 have hP:kindE c s e=readyE s e:=by unfold kindE;simp[hk]
 have hf:=hE
 simp[entV,entOk,inS,inR,fT,fC,fO,fE,fW,fN,hk] at hf
 refine⟨CN1,x,c,e,rfl,kp_,hV,?_⟩
 refine⟨fun h=>absurd h (by rw[hE];decide),fun _=>?_⟩
 refine⟨fun h=>absurd (of_decide_eq_true h) (by omega),fun _=>?_⟩
 refine⟨fun h=>absurd (of_decide_eq_true h) (by omega),fun _=>?_⟩
 refine⟨SN1,y,s,rfl,⟨.list rfl,.list rfl⟩,⟨by omega,by omega⟩,?_⟩
 intro y2
 refine⟨fun h=>absurd h (by rw[hk];decide),fun _=>?_⟩
 refine⟨fun h=>absurd h (by rw[hk];decide),fun _=>?_⟩
 refine⟨fun h=>absurd h (by rw[hk];decide),fun _=>?_⟩
 refine⟨fun h=>absurd h (by rw[hk];decide),fun _=>?_⟩
 refine⟨fun _=>?_,fun h=>absurd h (by rw[hk];decide)⟩
 rw[wrapi (n:=s.count+1) (by omega)]
 have hi:e.tenant.toNat<s.tenants.length:=by omega
 refine⟨⟨Nat.le_refl _,by omega,by omega⟩,?_⟩
 refine⟨fun h1=>?_,fun h1=>?_⟩
 ·repeat (first | refine⟨fun _=>?_,fun h=>Bool.noConfusion h⟩ | refine⟨fun h=>Bool.noConfusion h,fun _=>?_⟩ | fail)
  refine⟨4,rfl,?_⟩
  exact ApS.err (hA.err (by rw[hP];unfold readyE tsAt csAt;grind) (by decide))
 ·refine⟨fun h2=>?_,fun h2=>?_⟩
  ·repeat (first | refine⟨fun _=>?_,fun h=>Bool.noConfusion h⟩ | refine⟨fun h=>Bool.noConfusion h,fun _=>?_⟩ | fail)
   refine⟨5,rfl,?_⟩
   exact ApS.err (hA.err (by rw[hP];unfold readyE tsAt csAt;grind) (by decide))
  ·refine⟨⟨Nat.le_refl _,by omega,by omega⟩,?_⟩
   refine⟨fun h3=>?_,fun h3=>?_⟩
   ·repeat (first | refine⟨fun _=>?_,fun h=>Bool.noConfusion h⟩ | refine⟨fun h=>Bool.noConfusion h,fun _=>?_⟩ | fail)
    refine⟨6,rfl,?_⟩
    exact ApS.err (hA.err (by rw[hP];unfold readyE tsAt csAt;grind) (by decide))
   ·refine⟨tsC { (s.tenants.getD e.tenant.toNat default) with standby:=e.cell },(by first | rfl | (show putN _ _ (tsC (List.getD _ _ _))=_;rw[getD_set hi];rfl)),?_⟩
    rw[setEl_set (by first | exact hi | (rw[List.length_set];exact hi))]
    try rw[List.set_set]
    refine⟨tsC { (s.tenants.getD e.tenant.toNat default) with standby:=e.cell,next:=-1 },(by first | rfl | (show putN _ _ (tsC (List.getD _ _ _))=_;rw[getD_set hi];rfl)),?_⟩
    rw[setEl_set (by first | exact hi | (rw[List.length_set];exact hi))]
    try rw[List.set_set]
    have hk0:kindE c s e=0:=by rw[hP];unfold readyE tsAt csAt;grind
    have heff:effOf s e=(⟨e.tick,s.count+1,s.tenants.set e.tenant.toNat { (s.tenants.getD e.tenant.toNat default) with standby:=e.cell,next:=-1 },s.cells,s.proven,s.evac,s.low,s.high⟩:St):=by simp[effOf,stamped,setTen,setCel,tenEff,celEff,tsAt,csAt,hk]
    exact ApS.ok (M:=⟨15,14,0⟩) (y:=y2) (s:=(⟨e.tick,s.count+1,s.tenants.set e.tenant.toNat { (s.tenants.getD e.tenant.toNat default) with standby:=e.cell,next:=-1 },s.cells,s.proven,s.evac,s.low,s.high⟩:St)) (by rw[hA.fine hk0 (fun q=>absurd q (by unfold fitsB;simp[hk])),heff]) (by first | rfl | (simp)) (by first | rfl | (simp)) ⟨_,_,_,rfl,rfl,(by first | exact Nat.le_refl _ | (simp)),fun k hk=>rfl⟩ ⟨_,_,_,rfl,rfl,(by first | exact Nat.le_refl _ | (simp)),fun k hk=>rfl⟩
set_option maxRecDepth 100000 in
set_option maxHeartbeats 4000000 in
theorem apAbandon (x:CfgK) (c:Cfg) (y:StK) (s:St) (e:Ent) (hA:ArH c s e) (hk:e.kind=7):sx ttU arF arD (bodyOf Tryz.f49) (argF 0 [cfgV CN1 x c,stV SN1 y s,entV' e]) (rdM c s noS) 10 (endx ttU Tryz.f49.results.toList fun v mem' _=>ApS mem' v (applyR c s e)):=by
 have hV:=hA.cfg
 have hI:=hA.inv
 have hE:=hA.ent
 have hcn:=hA.cnt
 have htk:=hA.tick
 have hlt:=hI.lt
 have hlc:=hI.lc
 have hnt:=hV.nt
 have hnc:=hV.nc
 have hct:=hI.count
 have hst:=hI.tick
 have hev:=hI.evac
 have hpv:=hI.proven
 have htb:=hA.tB
 have hP:kindE c s e=abandonE s e:=by unfold kindE;simp[hk]
 have hf:=hE
 simp[entV,entOk,inS,inR,fT,fC,fO,fE,fW,fN,hk] at hf
 refine⟨CN1,x,c,e,rfl,kp_,hV,?_⟩
 refine⟨fun h=>absurd h (by rw[hE];decide),fun _=>?_⟩
 refine⟨fun h=>absurd (of_decide_eq_true h) (by omega),fun _=>?_⟩
 refine⟨fun h=>absurd (of_decide_eq_true h) (by omega),fun _=>?_⟩
 refine⟨SN1,y,s,rfl,⟨.list rfl,.list rfl⟩,⟨by omega,by omega⟩,?_⟩
 intro y2
 refine⟨fun h=>absurd h (by rw[hk];decide),fun _=>?_⟩
 refine⟨fun h=>absurd h (by rw[hk];decide),fun _=>?_⟩
 refine⟨fun h=>absurd h (by rw[hk];decide),fun _=>?_⟩
 refine⟨fun h=>absurd h (by rw[hk];decide),fun _=>?_⟩
 refine⟨fun h=>absurd h (by rw[hk];decide),fun _=>?_⟩
 refine⟨fun h=>absurd h (by rw[hk];decide),fun _=>?_⟩
 refine⟨fun _=>?_,fun h=>absurd h (by rw[hk];decide)⟩
 rw[wrapi (n:=s.count+1) (by omega)]
 have hTi:=hI.ten _ (List.mem_of_getElem? (getD_get (d:=default) (show e.tenant.toNat<s.tenants.length by omega)))
 obtain⟨hT1,hT2,hT3,hT4,hT5,hT6,hT7,hT8,hT9,hT10,hT11,hT12⟩:=hTi
 have hi:e.tenant.toNat<s.tenants.length:=by omega
 refine⟨⟨Nat.le_refl _,by omega,by omega⟩,?_⟩
 refine⟨Bool,fun b=>[(23,.bool b)],fun _=>[],fun b=>(b=true↔((s.tenants.getD e.tenant.toNat default).placed=false∨(s.tenants.getD e.tenant.toNat default).target<0)),?_,?_⟩
 ·repeat' (first | refine⟨fun _=>?_,fun h=>Bool.noConfusion h⟩ | refine⟨fun h=>Bool.noConfusion h,fun _=>?_⟩ | refine⟨fun _=>?_,fun _=>?_⟩ | refine⟨⟨Nat.le_refl _,by omega,by omega⟩,?_⟩ | fail)
  all_goals (refine⟨_,?_,kp_,kp_⟩;dsimp only;grind)
 ·rintro b1 hb1
  refine⟨⟨by decide,rfl,rfl⟩,?_⟩
  refine⟨fun h1=>?_,fun h1=>?_⟩
  ·repeat (first | refine⟨fun _=>?_,fun h=>Bool.noConfusion h⟩ | refine⟨fun h=>Bool.noConfusion h,fun _=>?_⟩ | fail)
   refine⟨4,rfl,?_⟩
   exact ApS.err (hA.err (by rw[hP];unfold abandonE tsAt;grind) (by decide))
  ·refine⟨tsC { (s.tenants.getD e.tenant.toNat default) with target:=-1 },(by first | rfl | (show putN _ _ (tsC (List.getD _ _ _))=_;rw[getD_set hi];rfl)),?_⟩
   rw[setEl_set (by first | exact hi | (rw[List.length_set];exact hi))]
   try rw[List.set_set]
   have hk0:kindE c s e=0:=by rw[hP];unfold abandonE tsAt;grind
   have heff:effOf s e=(⟨e.tick,s.count+1,s.tenants.set e.tenant.toNat { (s.tenants.getD e.tenant.toNat default) with target:=-1 },s.cells,s.proven,s.evac,s.low,s.high⟩:St):=by simp[effOf,stamped,setTen,setCel,tenEff,celEff,tsAt,csAt,hk]
   exact ApS.ok (M:=⟨15,14,0⟩) (y:=y2) (s:=(⟨e.tick,s.count+1,s.tenants.set e.tenant.toNat { (s.tenants.getD e.tenant.toNat default) with target:=-1 },s.cells,s.proven,s.evac,s.low,s.high⟩:St)) (by rw[hA.fine hk0 (fun q=>absurd q (by unfold fitsB;simp[hk])),heff]) (by first | rfl | (simp)) (by first | rfl | (simp)) ⟨_,_,_,rfl,rfl,(by first | exact Nat.le_refl _ | (simp)),fun k hk=>rfl⟩ ⟨_,_,_,rfl,rfl,(by first | exact Nat.le_refl _ | (simp)),fun k hk=>rfl⟩
end Go.Proofs.YtbmlgcjoeeejbaaGreat
