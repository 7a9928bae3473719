import Derived.Test.YtdjkeplekchfdaaPn15
namespace Go.Proofs.Ytdjkeplekchfdaa
open Go.RowKit
set_option linter.unusedSimpArgs false
set_option linter.unusedVariables false
/-! make.Config: what it answers -/
theorem flat_intsC:∀ zs:List Int,flat intC zs=zs.map (Value.int .i64)
 | []=>rfl
 | z::r=>by simp only[flat,List.flatMap_cons,List.map_cons];rw[show r.flatMap intC=flat intC r from rfl,flat_intsC r];rfl
theorem mkConfig_any (A:Option Addr) (cap:Nat) (zs:List Int) (w:World) (hz:zs.length≤400) (hr:Rd w (·<w.heap.size) A (zs.map (Value.int .i64))):Calls Try.prog 16 #[.slice A zs.length cap] w (CfgPost w):=by
 rw[← flat_intsC] at hr
 let ρ:Nat→Pl:=fun _=>⟨A,1,zs.length,false,noSub⟩
 have hm:MemAt { w0:=w,bor:=[],n0:=1,ρ0:=ρ,nt:=Try.f16.ntmps } ρ [(0,intRow zs)] 1 w:=MemAt.rows trivial ⟨⟨Nat.zero_lt_one,rfl,row_of_rd (enc:=intC) (sz:=1) (fun _=>rfl) (by omega) intC_plain 0 rfl hr (fun b hb=>hb)⟩,trivial⟩
 have:=calls_sxI ttUok (cwFok.i _) mixed Try.func16 rfl (D:=cwD) (by kernel_rfl) (vs:=[slc 0 zs.length cap]) rfl ⟨rfl,rfl⟩ rfl hm (fun v hv=>by
  simp only[List.mem_cons,List.not_mem_nil,or_false] at hv
  subst hv
  exact⟨Nat.zero_lt_one,rfl⟩) (config_sx cap zs hz)
 have e0:([slc 0 zs.length cap].map (den ρ)).toArray=#[.slice A zs.length cap]:=by simp[den,den2,den1,dA_whole,dS_whole,ρ]
 rw[e0] at this
 refine this.mono ?_
 rintro e w' ⟨v,mem',nx',ρ',rfl,⟨N,x,c,T,hM,rfl,⟨n1,n2,n4,n5,n6⟩,hT⟩,-,hm'⟩
 have hb:Below w.heap.size w w':=⟨hm'.rest.os,hm'.rest.tape,hm'.rest.output,hm'.rest.size,fun b hlt=>hm'.rest.block b hlt (by simp)⟩
 have eT:∃ A3 ct,den1 ρ' T=.slice A3 c.tenants.length ct∧Rd w' (fun b=>w.heap.size≤b∧b<w'.heap.size) A3 (flat tenC c.tenants):=by
  rcases hT with⟨rfl,h0⟩ | ⟨r,cp,rfl,n3⟩
  ·refine⟨none,0,by rw[h0];rfl,?_⟩
   rw[h0]
   exact fun q=>absurd rfl q
  ·exact⟨(ρ' r).A,cp,by simp[den1,dA_whole,dS_whole],hm'.newRd (enc:=tenC) (sz:=7) (fun _=>rfl) (by omega) n3⟩
 obtain⟨A3,ct,e3,n3⟩:=eT
 refine⟨⟨(ρ' N.z).A,x.cz,(ρ' N.c).A,x.cc,A3,ct,(ρ' N.v).A,x.cv,(ρ' N.r).A,x.cr,(ρ' N.o).A,x.co⟩,c,?_,⟨hm'.newRd (enc:=intC) (sz:=1) (fun _=>rfl) (by omega) n1,hm'.newRd (enc:=pairC) (sz:=2) (fun _=>rfl) (by omega) n2,n3,hm'.newRd (enc:=pairC) (sz:=2) (fun _=>rfl) (by omega) n4,hm'.newRd (enc:=intC) (sz:=1) (fun _=>rfl) (by omega) n5,hm'.newRd (enc:=intC) (sz:=1) (fun _=>rfl) (by omega) n6⟩,hM,hb⟩
 have d:∀ v,den1 ρ' (.int .i64 v)=.int .i64 v:=fun _=>rfl
 have d2:∀ r n c,den1 ρ' (slc r n c)=.slice (ρ' r).A n c:=fun r n c=>by simp[den1,dA_whole,dS_whole]
 congr 1
 simp only[den,den2,cfgC]
 simp[d,d2,e3]
section
variable {C:Ctx} {ρ:Nat→Pl} {fr:AF} {mem:AM} {nx:Nat} {a:Act} {w w':World}
def cfgPl (ρ:Nat→Pl) (nx:Nat) (x:CfgA) (c:Cfg):Nat→Pl:=
 setPl (setPl (setPl (setPl (setPl (setPl ρ nx ⟨x.ao,1,c.observers.length,false,noSub⟩) (nx+1) ⟨x.ar,1,c.replicas.length,false,noSub⟩) (nx+2) ⟨x.av,2,c.versions.length,false,noSub⟩) (nx+3) ⟨x.at_,7,c.tenants.length,false,noSub⟩) (nx+4) ⟨x.ac,2,c.cells.length,false,noSub⟩) (nx+5) ⟨x.az,1,c.zones.length,false,noSub⟩
theorem Sat.addCfg (h0:Sat C ρ fr mem nx a w) (hb:Below w.heap.size w w') {x:CfgA} {c:Cfg} (hc:CfgOk w' (fun b=>w.heap.size≤b∧b<w'.heap.size) x c) :
  Sat C (cfgPl ρ nx x c) fr (cfgM ⟨nx+5,nx+4,nx+3,nx+2,nx+1,nx,500000⟩ c++mem) (nx+6) a w'∧den (cfgPl ρ nx x c) (cfgV ⟨nx+5,nx+4,nx+3,nx+2,nx+1,nx,500000⟩ ⟨x.cz,x.cc,x.ct,x.cv,x.cr,x.co⟩ c)=.agg (cfgC x c)∧okV (cfgPl ρ nx x c) (nx+6) (cfgV ⟨nx+5,nx+4,nx+3,nx+2,nx+1,nx,500000⟩ ⟨x.cz,x.cc,x.ct,x.cv,x.cr,x.co⟩ c)∧ExtS ρ nx (cfgPl ρ nx x c) (nx+6):=by
 obtain⟨h1,f1⟩:=(h0.later hb).addList h0.frB h0.rest.size (enc:=intC) (sz:=1) (fun _=>rfl) (by omega) intC_plain 0 (t:=500000) rfl hc.observers
 obtain⟨h2,f2⟩:=h1.addList f1 h0.rest.size (enc:=intC) (sz:=1) (fun _=>rfl) (by omega) intC_plain 0 (t:=500000) rfl hc.replicas
 obtain⟨h3,f3⟩:=h2.addList f2 h0.rest.size (enc:=pairC) (sz:=2) (fun _=>rfl) (by omega) pairC_plain (0,0) (t:=500000) rfl hc.versions
 obtain⟨h4,f4⟩:=h3.addList f3 h0.rest.size (enc:=tenC) (sz:=7) (fun _=>rfl) (by omega) tenC_plain default (t:=500000) rfl hc.tenants
 obtain⟨h5,f5⟩:=h4.addList f4 h0.rest.size (enc:=pairC) (sz:=2) (fun _=>rfl) (by omega) pairC_plain (0,0) (t:=500000) rfl hc.cells
 obtain⟨h6,-⟩:=h5.addList f5 h0.rest.size (enc:=intC) (sz:=1) (fun _=>rfl) (by omega) intC_plain 0 (t:=500000) rfl hc.zones
 have q5:cfgPl ρ nx x c (nx+5)=⟨x.az,1,c.zones.length,false,noSub⟩:=setPl_same _ _ _
 have q4:cfgPl ρ nx x c (nx+4)=⟨x.ac,2,c.cells.length,false,noSub⟩:=by unfold cfgPl;rw[setPl_lt _ _ (by omega),setPl_same]
 have q3:cfgPl ρ nx x c (nx+3)=⟨x.at_,7,c.tenants.length,false,noSub⟩:=by unfold cfgPl;rw[setPl_lt _ _ (by omega),setPl_lt _ _ (by omega),setPl_same]
 have q2:cfgPl ρ nx x c (nx+2)=⟨x.av,2,c.versions.length,false,noSub⟩:=by unfold cfgPl;rw[setPl_lt _ _ (by omega),setPl_lt _ _ (by omega),setPl_lt _ _ (by omega),setPl_same]
 have q1:cfgPl ρ nx x c (nx+1)=⟨x.ar,1,c.replicas.length,false,noSub⟩:=by unfold cfgPl;rw[setPl_lt _ _ (by omega),setPl_lt _ _ (by omega),setPl_lt _ _ (by omega),setPl_lt _ _ (by omega),setPl_same]
 have q0:cfgPl ρ nx x c nx=⟨x.ao,1,c.observers.length,false,noSub⟩:=by unfold cfgPl;rw[setPl_lt _ _ (by omega),setPl_lt _ _ (by omega),setPl_lt _ _ (by omega),setPl_lt _ _ (by omega),setPl_lt _ _ (by omega),setPl_same]
 refine⟨h6,?_,?_,fun i hi=>?_,by omega⟩
 ·rw[den_cfg]
  congr 2
  simp[cfgX,q0,q1,q2,q3,q4,q5]
 ·intro u hu
  simp at hu
  rcases hu with rfl | rfl | rfl | rfl | rfl | rfl | rfl | rfl | rfl | rfl<;>first | trivial | exact⟨show nx+5<nx+6 by omega,by rw[q5]⟩ | exact⟨show nx+4<nx+6 by omega,by rw[q4]⟩ | exact⟨show nx+3<nx+6 by omega,by rw[q3]⟩ | exact⟨show nx+2<nx+6 by omega,by rw[q2]⟩ | exact⟨show nx+1<nx+6 by omega,by rw[q1]⟩ | exact⟨show nx<nx+6 by omega,by rw[q0]⟩
 ·unfold cfgPl
  rw[setPl_lt _ _ (by omega),setPl_lt _ _ (by omega),setPl_lt _ _ (by omega),setPl_lt _ _ (by omega),setPl_lt _ _ (by omega),setPl_lt _ _ hi]
end
theorem flat_ints:∀ zs:List Int,flat intC zs=zs.map (Value.int .i64)
 | []=>rfl
 | z::r=>by simp only[flat,List.flatMap_cons,List.map_cons];rw[show r.flatMap intC=flat intC r from rfl,flat_ints r];rfl
def ctConfig:CT:=fun vs mem nx K=>∃ i cap zs,vs=[slc i (zs:List Int).length cap]∧lk mem i=some (intRow zs)∧zs.length≤400∧∀ x c,MadeCfg c→K (cfgV ⟨nx+5,nx+4,nx+3,nx+2,nx+1,nx,500000⟩ x c) (cfgM ⟨nx+5,nx+4,nx+3,nx+2,nx+1,nx,500000⟩ c++mem) (nx+6)
theorem configOk:CSound Try.prog 16 ctConfig:=⟨by kernel_rfl,fun {C ρ fr mem nx a w vs K} hc hs hv=>by
 obtain⟨i,cap,zs,rfl,hi,hz,hK⟩:=hc
 have hr:Rd w (·<w.heap.size) (ρ i).A (zs.map (Value.int .i64)):=by
  rw[← flat_ints]
  exact hs.rd (enc:=intC) (sz:=1) (fun _=>rfl) (by omega) hi (fun b h _=>h)
 have e:([slc i zs.length cap].map (den ρ)).toArray=#[.slice (ρ i).A zs.length cap]:=by simp[den,den2,den1,dA_whole,dS_whole]
 rw[e]
 refine (mkConfig_any (ρ i).A cap zs w hz hr).mono ?_
 rintro e w' ⟨x,c,rfl,hok,hM,hb⟩
 obtain⟨q1,q2,q3,q4⟩:=hs.addCfg hb hok
 exact⟨_,_,_,_,by rw[q2],hK _ c hM,q1,q3,q4⟩⟩
/-! make.Bent: some configuration. -/
def OldOr {α:Type} (mem:AM) (sz:Nat) (enc:α→List Value) (d:α) (l l2:List α) (v0 v:Value):Prop:=(v=v0∧l2=l)∨(SlR mem sz enc d l2 v∧l2.length≤l.length+2)
def BentR (mem:AM) (x:CfgK) (c c2:Cfg) (v:Value):Prop:=∃ vz vc vt vv vr vo,v=.agg #[.int .i64 c2.regions,vz,vc,vt,vv,vr,vo,.int .i64 c2.blast,.int .i64 c2.lease,.int .i64 c2.bake]∧
 (OldOr mem 1 intC 0 c.zones c2.zones (slc CNu.z c.zones.length x.cz) vz∧OldOr mem 2 pairC (0,0) c.cells c2.cells (slc CNu.c c.cells.length x.cc) vc∧OldOr mem 7 tenC default c.tenants c2.tenants (slc CNu.t c.tenants.length x.ct) vt)∧
 OldOr mem 2 pairC (0,0) c.versions c2.versions (slc CNu.v c.versions.length x.cv) vv∧OldOr mem 1 intC 0 c.replicas c2.replicas (slc CNu.r c.replicas.length x.cr) vr∧OldOr mem 1 intC 0 c.observers c2.observers (slc CNu.o c.observers.length x.co) vo
theorem cp_elB {α:Type} {enc:α→List Value} {d:α} {l:List α} {el2:Nat→List Value} {el0:Nat→List Value} (h0:∀ k,k<l.length→el0 k=enc (l.getD k d)) (g2:∀ k,k<l.length→el2 (0+k)=el0 k):∀ k,k<l.length→el2 k=enc (l.getD k d):=fun k hk=>by
 have:=g2 k hk
 rw[Nat.zero_add] at this
 rw[this,h0 k hk]
theorem app_elB {α:Type} {enc:α→List Value} {d:α} {l m:List α} {el2 el3:Nat→List Value} (h1:∀ k,k<l.length→el2 k=enc (l.getD k d)) (g3:∀ k,k<l.length→el3 k=el2 k) (g4:∀ k,k<m.length→el3 (l.length+k)=enc (m.getD k d)):∀ k,k<(l++m).length→el3 k=enc ((l++m).getD k d):=by
 intro k hk
 by_cases q:k<l.length
 ·rw[g3 k q,h1 k q,List.getD_eq_getElem?_getD,List.getD_eq_getElem?_getD,List.getElem?_append_left q]
 ·simp at hk
  have:=g4 (k-l.length) (by omega)
  rw[show l.length+(k-l.length)=k by omega] at this
  rw[this,List.getD_eq_getElem?_getD,List.getD_eq_getElem?_getD,List.getElem?_append_right (by omega)]
def beF:FT:=[(31,ctMod)]
set_option maxRecDepth 100000 in
set_option maxHeartbeats 8000000 in
theorem bentC_sx (d:UD) (x:CfgK) (which by_:Int) (hM:MadeCfg d.c) :
  sx tt beF [] (bodyOf Try.f15) (argF 0 [cfgV CNu x d.c,.int .i64 which,.int .i64 by_]) (uniM d) 13 (endx tt Try.f15.results.toList fun v mem' _=>∃ c2,BentR mem' x d.c c2 v):=by
 have hm1:=hM.zones
 have hm2:=hM.cells
 have hm3:=hM.tenants
 have hm4:=hM.versions
 have hm5:=hM.replicas
 have hm6:=hM.observers
 refine⟨_,_,rfl,⟨by omega,by omega⟩,?_⟩
 have hk1:0≤(by_ % (d.c.cells.length:Int))∧(by_ % (d.c.cells.length:Int))<d.c.cells.length:=⟨Int.emod_nonneg _ (by omega),Int.emod_lt_of_pos _ (by omega)⟩
 refine⟨_,14,rfl,by decide,?_⟩
 refine⟨fun h0=>?_,fun h0=>?_⟩
 ·exact⟨{ d.c with regions:=by_ },_,_,_,_,_,_,rfl,⟨.inl ⟨rfl,rfl⟩,.inl ⟨rfl,rfl⟩,.inl ⟨rfl,rfl⟩⟩,.inl ⟨rfl,rfl⟩,.inl ⟨rfl,rfl⟩,.inl ⟨rfl,rfl⟩⟩
 ·refine⟨fun h1=>?_,fun h1=>?_⟩
  ·refine⟨⟨Nat.le_refl _,fun k hk=>rfl⟩,?_⟩
   refine⟨⟨rfl,Nat.le_refl _⟩,fun hin el2 g1 g2=>?_,fun hgt=>⟨by show (0+d.c.zones.length) * 8≤140737488355328;omega,fun cap2 el2 hc2 g1 g2=>?_⟩⟩
   ·exact absurd hin (by omega)
   ·rw[Nat.zero_add d.c.zones.length]
    have hel:=cp_elB (fun k hk=>rfl) g2
    refine⟨⟨Nat.le_refl _,fun k hk=>by match k,hk with | 0,_=>rfl⟩,?_⟩
    have hlen:(d.c.zones++[by_]).length=d.c.zones.length+1:=by simp
    refine⟨⟨rfl,by omega⟩,fun hin3 el3 g3 g4=>?_,fun hgt3=>⟨by show (d.c.zones.length+1) * 8≤140737488355328;omega,fun cap3 el3 hc3 g3 g4=>?_⟩⟩
    ·exact⟨{ d.c with zones:=d.c.zones++[by_] },_,_,_,_,_,_,rfl,⟨.inr ⟨.inr ⟨16,cap2,_,_,_,by rw[hlen],rfl,rfl,by rw[hlen];exact hin3,app_elB hel g3 (fun k hk=>(match k,hk with | 0,hk=>g4 0 hk))⟩,by simp⟩,.inl ⟨rfl,rfl⟩,.inl ⟨rfl,rfl⟩⟩,.inl ⟨rfl,rfl⟩,.inl ⟨rfl,rfl⟩,.inl ⟨rfl,rfl⟩⟩
    ·exact⟨{ d.c with zones:=d.c.zones++[by_] },_,_,_,_,_,_,rfl,⟨.inr ⟨.inr ⟨18,cap3,_,_,_,by rw[hlen],rfl,rfl,by rw[hlen];exact hc3,app_elB hel g3 (fun k hk=>(match k,hk with | 0,hk=>g4 0 hk))⟩,by simp⟩,.inl ⟨rfl,rfl⟩,.inl ⟨rfl,rfl⟩⟩,.inl ⟨rfl,rfl⟩,.inl ⟨rfl,rfl⟩,.inl ⟨rfl,rfl⟩⟩
  ·refine⟨fun h2=>?_,fun h2=>?_⟩
   ·refine⟨⟨Nat.le_refl _,fun k hk=>rfl⟩,?_⟩
    refine⟨⟨rfl,Nat.le_refl _⟩,fun hin el2 g1 g2=>?_,fun hgt=>⟨by show (0+d.c.cells.length) * 16≤140737488355328;omega,fun cap2 el2 hc2 g1 g2=>?_⟩⟩
    ·exact absurd hin (by omega)
    ·rw[Nat.zero_add d.c.cells.length]
     have hel:=cp_elB (fun k hk=>rfl) g2
     refine⟨⟨Nat.le_refl _,fun k hk=>by match k,hk with | 0,_=>rfl⟩,?_⟩
     have hlen:(d.c.cells++[(by_,5)]).length=d.c.cells.length+1:=by simp
     refine⟨⟨rfl,by omega⟩,fun hin3 el3 g3 g4=>?_,fun hgt3=>⟨by show (d.c.cells.length+1) * 16≤140737488355328;omega,fun cap3 el3 hc3 g3 g4=>?_⟩⟩
     ·exact⟨{ d.c with cells:=d.c.cells++[(by_,5)] },_,_,_,_,_,_,rfl,⟨.inl ⟨rfl,rfl⟩,.inr ⟨.inr ⟨16,cap2,_,_,_,by rw[hlen],rfl,rfl,by rw[hlen];exact hin3,app_elB hel g3 (fun k hk=>(match k,hk with | 0,hk=>g4 0 hk))⟩,by simp⟩,.inl ⟨rfl,rfl⟩⟩,.inl ⟨rfl,rfl⟩,.inl ⟨rfl,rfl⟩,.inl ⟨rfl,rfl⟩⟩
     ·exact⟨{ d.c with cells:=d.c.cells++[(by_,5)] },_,_,_,_,_,_,rfl,⟨.inl ⟨rfl,rfl⟩,.inr ⟨.inr ⟨18,cap3,_,_,_,by rw[hlen],rfl,rfl,by rw[hlen];exact hc3,app_elB hel g3 (fun k hk=>(match k,hk with | 0,hk=>g4 0 hk))⟩,by simp⟩,.inl ⟨rfl,rfl⟩⟩,.inl ⟨rfl,rfl⟩,.inl ⟨rfl,rfl⟩,.inl ⟨rfl,rfl⟩⟩
   ·refine⟨fun h3=>?_,fun h3=>?_⟩
    ·refine⟨⟨Nat.le_refl _,fun k hk=>rfl⟩,?_⟩
     refine⟨⟨rfl,Nat.le_refl _⟩,fun hin el2 g1 g2=>?_,fun hgt=>⟨by show (0+d.c.cells.length) * 16≤140737488355328;omega,fun cap2 el2 hc2 g1 g2=>?_⟩⟩
     ·exact absurd hin (by omega)
     ·rw[Nat.zero_add d.c.cells.length]
      have hel:=cp_elB (fun k hk=>rfl) g2
      refine⟨⟨by omega,hk1.1,hk1.2⟩,?_⟩
      refine⟨pairC ((d.c.cells.getD (by_ % (d.c.cells.length:Int)).toNat (0,0)).1,by_),by show putN 1 _ (el2 _)=_;rw[hel _ (by omega)];rfl,?_⟩
      exact⟨{ d.c with cells:=d.c.cells.set (by_ % (d.c.cells.length:Int)).toNat ((d.c.cells.getD (by_ % (d.c.cells.length:Int)).toNat (0,0)).1,by_) },_,_,_,_,_,_,rfl,⟨.inl ⟨rfl,rfl⟩,.inr ⟨.inr ⟨16,cap2,_,_,_,by rw[List.length_set],rfl,rfl,by rw[List.length_set];omega,fun k hk=>set_rt hel rfl k (by simpa using hk)⟩,by simp⟩,.inl ⟨rfl,rfl⟩⟩,.inl ⟨rfl,rfl⟩,.inl ⟨rfl,rfl⟩,.inl ⟨rfl,rfl⟩⟩
    ·refine⟨fun h4=>?_,fun h4=>?_⟩
     ·refine⟨⟨Nat.le_refl _,fun k hk=>rfl⟩,?_⟩
      refine⟨⟨rfl,Nat.le_refl _⟩,fun hin el2 g1 g2=>?_,fun hgt=>⟨by show (0+d.c.replicas.length) * 8≤140737488355328;omega,fun cap2 el2 hc2 g1 g2=>?_⟩⟩
      ·exact absurd hin (by omega)
      ·rw[Nat.zero_add d.c.replicas.length]
       have hel:=cp_elB (fun k hk=>rfl) g2
       refine⟨⟨Nat.le_refl _,fun k hk=>by match k,hk with | 0,_=>rfl⟩,?_⟩
       have hlen:(d.c.replicas++[by_]).length=d.c.replicas.length+1:=by simp
       refine⟨⟨rfl,by omega⟩,fun hin3 el3 g3 g4=>?_,fun hgt3=>⟨by show (d.c.replicas.length+1) * 8≤140737488355328;omega,fun cap3 el3 hc3 g3 g4=>?_⟩⟩
       ·exact⟨{ d.c with replicas:=d.c.replicas++[by_] },_,_,_,_,_,_,rfl,⟨.inl ⟨rfl,rfl⟩,.inl ⟨rfl,rfl⟩,.inl ⟨rfl,rfl⟩⟩,.inl ⟨rfl,rfl⟩,.inr ⟨.inr ⟨16,cap2,_,_,_,by rw[hlen],rfl,rfl,by rw[hlen];exact hin3,app_elB hel g3 (fun k hk=>(match k,hk with | 0,hk=>g4 0 hk))⟩,by simp⟩,.inl ⟨rfl,rfl⟩⟩
       ·exact⟨{ d.c with replicas:=d.c.replicas++[by_] },_,_,_,_,_,_,rfl,⟨.inl ⟨rfl,rfl⟩,.inl ⟨rfl,rfl⟩,.inl ⟨rfl,rfl⟩⟩,.inl ⟨rfl,rfl⟩,.inr ⟨.inr ⟨18,cap3,_,_,_,by rw[hlen],rfl,rfl,by rw[hlen];exact hc3,app_elB hel g3 (fun k hk=>(match k,hk with | 0,hk=>g4 0 hk))⟩,by simp⟩,.inl ⟨rfl,rfl⟩⟩
     ·refine⟨fun h5=>?_,fun h5=>?_⟩
      ·refine⟨⟨Nat.le_refl _,fun k hk=>rfl⟩,?_⟩
       refine⟨⟨rfl,Nat.le_refl _⟩,fun hin el2 g1 g2=>?_,fun hgt=>⟨by show (0+d.c.replicas.length) * 8≤140737488355328;omega,fun cap2 el2 hc2 g1 g2=>?_⟩⟩
       ·exact absurd hin (by omega)
       ·rw[Nat.zero_add d.c.replicas.length]
        have hel:=cp_elB (fun k hk=>rfl) g2
        refine⟨⟨Nat.le_refl _,fun k hk=>by match k,hk with | 0,_=>rfl | 1,_=>rfl⟩,?_⟩
        have hlen:(d.c.replicas++[0,by_]).length=d.c.replicas.length+2:=by simp
        refine⟨⟨rfl,by omega⟩,fun hin3 el3 g3 g4=>?_,fun hgt3=>⟨by show (d.c.replicas.length+2) * 8≤140737488355328;omega,fun cap3 el3 hc3 g3 g4=>?_⟩⟩
        ·exact⟨{ d.c with replicas:=d.c.replicas++[0,by_] },_,_,_,_,_,_,rfl,⟨.inl ⟨rfl,rfl⟩,.inl ⟨rfl,rfl⟩,.inl ⟨rfl,rfl⟩⟩,.inl ⟨rfl,rfl⟩,.inr ⟨.inr ⟨16,cap2,_,_,_,by rw[hlen],rfl,rfl,by rw[hlen];exact hin3,app_elB hel g3 (fun k hk=>(match k,hk with | 0,hk=>g4 0 hk | 1,hk=>g4 1 hk))⟩,by simp⟩,.inl ⟨rfl,rfl⟩⟩
        ·exact⟨{ d.c with replicas:=d.c.replicas++[0,by_] },_,_,_,_,_,_,rfl,⟨.inl ⟨rfl,rfl⟩,.inl ⟨rfl,rfl⟩,.inl ⟨rfl,rfl⟩⟩,.inl ⟨rfl,rfl⟩,.inr ⟨.inr ⟨18,cap3,_,_,_,by rw[hlen],rfl,rfl,by rw[hlen];exact hc3,app_elB hel g3 (fun k hk=>(match k,hk with | 0,hk=>g4 0 hk | 1,hk=>g4 1 hk))⟩,by simp⟩,.inl ⟨rfl,rfl⟩⟩
      ·refine⟨fun h6=>?_,fun h6=>?_⟩
       ·refine⟨⟨Nat.le_refl _,fun k hk=>rfl⟩,?_⟩
        refine⟨⟨rfl,Nat.le_refl _⟩,fun hin el2 g1 g2=>?_,fun hgt=>⟨by show (0+d.c.observers.length) * 8≤140737488355328;omega,fun cap2 el2 hc2 g1 g2=>?_⟩⟩
        ·exact absurd hin (by omega)
        ·rw[Nat.zero_add d.c.observers.length]
         have hel:=cp_elB (fun k hk=>rfl) g2
         refine⟨⟨Nat.le_refl _,fun k hk=>by match k,hk with | 0,_=>rfl⟩,?_⟩
         have hlen:(d.c.observers++[by_]).length=d.c.observers.length+1:=by simp
         refine⟨⟨rfl,by omega⟩,fun hin3 el3 g3 g4=>?_,fun hgt3=>⟨by show (d.c.observers.length+1) * 8≤140737488355328;omega,fun cap3 el3 hc3 g3 g4=>?_⟩⟩
         ·exact⟨{ d.c with observers:=d.c.observers++[by_] },_,_,_,_,_,_,rfl,⟨.inl ⟨rfl,rfl⟩,.inl ⟨rfl,rfl⟩,.inl ⟨rfl,rfl⟩⟩,.inl ⟨rfl,rfl⟩,.inl ⟨rfl,rfl⟩,.inr ⟨.inr ⟨16,cap2,_,_,_,by rw[hlen],rfl,rfl,by rw[hlen];exact hin3,app_elB hel g3 (fun k hk=>(match k,hk with | 0,hk=>g4 0 hk))⟩,by simp⟩⟩
         ·exact⟨{ d.c with observers:=d.c.observers++[by_] },_,_,_,_,_,_,rfl,⟨.inl ⟨rfl,rfl⟩,.inl ⟨rfl,rfl⟩,.inl ⟨rfl,rfl⟩⟩,.inl ⟨rfl,rfl⟩,.inl ⟨rfl,rfl⟩,.inr ⟨.inr ⟨18,cap3,_,_,_,by rw[hlen],rfl,rfl,by rw[hlen];exact hc3,app_elB hel g3 (fun k hk=>(match k,hk with | 0,hk=>g4 0 hk))⟩,by simp⟩⟩
       ·refine⟨fun h7=>?_,fun h7=>?_⟩
        ·refine⟨⟨Nat.le_refl _,fun k hk=>rfl⟩,?_⟩
         refine⟨⟨rfl,Nat.le_refl _⟩,fun hin el2 g1 g2=>?_,fun hgt=>⟨by show (0+d.c.versions.length) * 16≤140737488355328;omega,fun cap2 el2 hc2 g1 g2=>?_⟩⟩
         ·exact absurd hin (by omega)
         ·rw[Nat.zero_add d.c.versions.length]
          refine⟨_,3,rfl,by decide,?_⟩
          have hel:=cp_elB (fun k hk=>rfl) g2
          refine⟨⟨Nat.le_refl _,fun k hk=>by match k,hk with | 0,_=>rfl⟩,?_⟩
          have hlen:(d.c.versions++[(by_ % 3,by_)]).length=d.c.versions.length+1:=by simp
          refine⟨⟨rfl,by omega⟩,fun hin3 el3 g3 g4=>?_,fun hgt3=>⟨by show (d.c.versions.length+1) * 16≤140737488355328;omega,fun cap3 el3 hc3 g3 g4=>?_⟩⟩
          ·exact⟨{ d.c with versions:=d.c.versions++[(by_ % 3,by_)] },_,_,_,_,_,_,rfl,⟨.inl ⟨rfl,rfl⟩,.inl ⟨rfl,rfl⟩,.inl ⟨rfl,rfl⟩⟩,.inr ⟨.inr ⟨16,cap2,_,_,_,by rw[hlen],rfl,rfl,by rw[hlen];exact hin3,app_elB hel g3 (fun k hk=>(match k,hk with | 0,hk=>g4 0 hk))⟩,by simp⟩,.inl ⟨rfl,rfl⟩,.inl ⟨rfl,rfl⟩⟩
          ·exact⟨{ d.c with versions:=d.c.versions++[(by_ % 3,by_)] },_,_,_,_,_,_,rfl,⟨.inl ⟨rfl,rfl⟩,.inl ⟨rfl,rfl⟩,.inl ⟨rfl,rfl⟩⟩,.inr ⟨.inr ⟨18,cap3,_,_,_,by rw[hlen],rfl,rfl,by rw[hlen];exact hc3,app_elB hel g3 (fun k hk=>(match k,hk with | 0,hk=>g4 0 hk))⟩,by simp⟩,.inl ⟨rfl,rfl⟩,.inl ⟨rfl,rfl⟩⟩
        ·refine⟨fun h8=>?_,fun h8=>?_⟩
         ·exact⟨{ d.c with blast:=by_ },_,_,_,_,_,_,rfl,⟨.inl ⟨rfl,rfl⟩,.inl ⟨rfl,rfl⟩,.inl ⟨rfl,rfl⟩⟩,.inl ⟨rfl,rfl⟩,.inl ⟨rfl,rfl⟩,.inl ⟨rfl,rfl⟩⟩
         ·refine⟨fun h9=>?_,fun h9=>?_⟩
          ·exact⟨{ d.c with lease:=by_ },_,_,_,_,_,_,rfl,⟨.inl ⟨rfl,rfl⟩,.inl ⟨rfl,rfl⟩,.inl ⟨rfl,rfl⟩⟩,.inl ⟨rfl,rfl⟩,.inl ⟨rfl,rfl⟩,.inl ⟨rfl,rfl⟩⟩
          ·refine⟨fun h10=>?_,fun h10=>?_⟩
           ·exact⟨{ d.c with bake:=by_ },_,_,_,_,_,_,rfl,⟨.inl ⟨rfl,rfl⟩,.inl ⟨rfl,rfl⟩,.inl ⟨rfl,rfl⟩⟩,.inl ⟨rfl,rfl⟩,.inl ⟨rfl,rfl⟩,.inl ⟨rfl,rfl⟩⟩
           ·refine⟨fun h11=>?_,fun h11=>?_⟩
            ·refine⟨⟨Nat.le_refl _,fun k hk=>rfl⟩,?_⟩
             refine⟨⟨rfl,Nat.le_refl _⟩,fun hin el2 g1 g2=>?_,fun hgt=>⟨by show (0+d.c.tenants.length) * 56≤140737488355328;omega,fun cap2 el2 hc2 g1 g2=>?_⟩⟩
             ·rw[Nat.zero_add d.c.tenants.length]
              have hel:=cp_elB (fun k hk=>rfl) g2
              refine⟨⟨Nat.le_refl _,fun k hk=>by match k,hk with | 0,_=>rfl⟩,?_⟩
              have hlen:(d.c.tenants++[(⟨by_,0,0,0,1,0,false⟩:Ten)]).length=d.c.tenants.length+1:=by simp
              refine⟨⟨rfl,by omega⟩,fun hin3 el3 g3 g4=>?_,fun hgt3=>⟨by show (d.c.tenants.length+1) * 56≤140737488355328;omega,fun cap3 el3 hc3 g3 g4=>?_⟩⟩
              ·exact⟨{ d.c with tenants:=d.c.tenants++[(⟨by_,0,0,0,1,0,false⟩:Ten)] },_,_,_,_,_,_,rfl,⟨.inl ⟨rfl,rfl⟩,.inl ⟨rfl,rfl⟩,.inr ⟨.inr ⟨15,_,_,_,_,by rw[hlen],rfl,rfl,by rw[hlen];exact hin3,app_elB hel g3 (fun k hk=>(match k,hk with | 0,hk=>g4 0 hk))⟩,by simp⟩⟩,.inl ⟨rfl,rfl⟩,.inl ⟨rfl,rfl⟩,.inl ⟨rfl,rfl⟩⟩
              ·exact⟨{ d.c with tenants:=d.c.tenants++[(⟨by_,0,0,0,1,0,false⟩:Ten)] },_,_,_,_,_,_,rfl,⟨.inl ⟨rfl,rfl⟩,.inl ⟨rfl,rfl⟩,.inr ⟨.inr ⟨17,cap3,_,_,_,by rw[hlen],rfl,rfl,by rw[hlen];exact hc3,app_elB hel g3 (fun k hk=>(match k,hk with | 0,hk=>g4 0 hk))⟩,by simp⟩⟩,.inl ⟨rfl,rfl⟩,.inl ⟨rfl,rfl⟩,.inl ⟨rfl,rfl⟩⟩
             ·rw[Nat.zero_add d.c.tenants.length]
              have hel:=cp_elB (fun k hk=>rfl) g2
              refine⟨⟨Nat.le_refl _,fun k hk=>by match k,hk with | 0,_=>rfl⟩,?_⟩
              have hlen:(d.c.tenants++[(⟨by_,0,0,0,1,0,false⟩:Ten)]).length=d.c.tenants.length+1:=by simp
              refine⟨⟨rfl,by omega⟩,fun hin3 el3 g3 g4=>?_,fun hgt3=>⟨by show (d.c.tenants.length+1) * 56≤140737488355328;omega,fun cap3 el3 hc3 g3 g4=>?_⟩⟩
              ·exact⟨{ d.c with tenants:=d.c.tenants++[(⟨by_,0,0,0,1,0,false⟩:Ten)] },_,_,_,_,_,_,rfl,⟨.inl ⟨rfl,rfl⟩,.inl ⟨rfl,rfl⟩,.inr ⟨.inr ⟨16,cap2,_,_,_,by rw[hlen],rfl,rfl,by rw[hlen];exact hin3,app_elB hel g3 (fun k hk=>(match k,hk with | 0,hk=>g4 0 hk))⟩,by simp⟩⟩,.inl ⟨rfl,rfl⟩,.inl ⟨rfl,rfl⟩,.inl ⟨rfl,rfl⟩⟩
              ·exact⟨{ d.c with tenants:=d.c.tenants++[(⟨by_,0,0,0,1,0,false⟩:Ten)] },_,_,_,_,_,_,rfl,⟨.inl ⟨rfl,rfl⟩,.inl ⟨rfl,rfl⟩,.inr ⟨.inr ⟨18,cap3,_,_,_,by rw[hlen],rfl,rfl,by rw[hlen];exact hc3,app_elB hel g3 (fun k hk=>(match k,hk with | 0,hk=>g4 0 hk))⟩,by simp⟩⟩,.inl ⟨rfl,rfl⟩,.inl ⟨rfl,rfl⟩,.inl ⟨rfl,rfl⟩⟩
            ·refine⟨fun h12=>?_,fun h12=>?_⟩
             ·refine⟨⟨Nat.le_refl _,fun k hk=>rfl⟩,?_⟩
              refine⟨⟨rfl,Nat.le_refl _⟩,fun hin el2 g1 g2=>?_,fun hgt=>⟨by show (0+d.c.tenants.length) * 56≤140737488355328;omega,fun cap2 el2 hc2 g1 g2=>?_⟩⟩
              ·rw[Nat.zero_add d.c.tenants.length]
               have hel:=cp_elB (fun k hk=>rfl) g2
               refine⟨⟨Nat.le_refl _,fun k hk=>by match k,hk with | 0,_=>rfl⟩,?_⟩
               have hlen:(d.c.tenants++[(⟨5,3,0,0,by_,0,false⟩:Ten)]).length=d.c.tenants.length+1:=by simp
               refine⟨⟨rfl,by omega⟩,fun hin3 el3 g3 g4=>?_,fun hgt3=>⟨by show (d.c.tenants.length+1) * 56≤140737488355328;omega,fun cap3 el3 hc3 g3 g4=>?_⟩⟩
               ·exact⟨{ d.c with tenants:=d.c.tenants++[(⟨5,3,0,0,by_,0,false⟩:Ten)] },_,_,_,_,_,_,rfl,⟨.inl ⟨rfl,rfl⟩,.inl ⟨rfl,rfl⟩,.inr ⟨.inr ⟨15,_,_,_,_,by rw[hlen],rfl,rfl,by rw[hlen];exact hin3,app_elB hel g3 (fun k hk=>(match k,hk with | 0,hk=>g4 0 hk))⟩,by simp⟩⟩,.inl ⟨rfl,rfl⟩,.inl ⟨rfl,rfl⟩,.inl ⟨rfl,rfl⟩⟩
               ·exact⟨{ d.c with tenants:=d.c.tenants++[(⟨5,3,0,0,by_,0,false⟩:Ten)] },_,_,_,_,_,_,rfl,⟨.inl ⟨rfl,rfl⟩,.inl ⟨rfl,rfl⟩,.inr ⟨.inr ⟨17,cap3,_,_,_,by rw[hlen],rfl,rfl,by rw[hlen];exact hc3,app_elB hel g3 (fun k hk=>(match k,hk with | 0,hk=>g4 0 hk))⟩,by simp⟩⟩,.inl ⟨rfl,rfl⟩,.inl ⟨rfl,rfl⟩,.inl ⟨rfl,rfl⟩⟩
              ·rw[Nat.zero_add d.c.tenants.length]
               have hel:=cp_elB (fun k hk=>rfl) g2
               refine⟨⟨Nat.le_refl _,fun k hk=>by match k,hk with | 0,_=>rfl⟩,?_⟩
               have hlen:(d.c.tenants++[(⟨5,3,0,0,by_,0,false⟩:Ten)]).length=d.c.tenants.length+1:=by simp
               refine⟨⟨rfl,by omega⟩,fun hin3 el3 g3 g4=>?_,fun hgt3=>⟨by show (d.c.tenants.length+1) * 56≤140737488355328;omega,fun cap3 el3 hc3 g3 g4=>?_⟩⟩
               ·exact⟨{ d.c with tenants:=d.c.tenants++[(⟨5,3,0,0,by_,0,false⟩:Ten)] },_,_,_,_,_,_,rfl,⟨.inl ⟨rfl,rfl⟩,.inl ⟨rfl,rfl⟩,.inr ⟨.inr ⟨16,cap2,_,_,_,by rw[hlen],rfl,rfl,by rw[hlen];exact hin3,app_elB hel g3 (fun k hk=>(match k,hk with | 0,hk=>g4 0 hk))⟩,by simp⟩⟩,.inl ⟨rfl,rfl⟩,.inl ⟨rfl,rfl⟩,.inl ⟨rfl,rfl⟩⟩
               ·exact⟨{ d.c with tenants:=d.c.tenants++[(⟨5,3,0,0,by_,0,false⟩:Ten)] },_,_,_,_,_,_,rfl,⟨.inl ⟨rfl,rfl⟩,.inl ⟨rfl,rfl⟩,.inr ⟨.inr ⟨18,cap3,_,_,_,by rw[hlen],rfl,rfl,by rw[hlen];exact hc3,app_elB hel g3 (fun k hk=>(match k,hk with | 0,hk=>g4 0 hk))⟩,by simp⟩⟩,.inl ⟨rfl,rfl⟩,.inl ⟨rfl,rfl⟩,.inl ⟨rfl,rfl⟩⟩
             ·refine⟨⟨Nat.le_refl _,fun k hk=>rfl⟩,?_⟩
              refine⟨⟨rfl,Nat.le_refl _⟩,fun hin el2 g1 g2=>?_,fun hgt=>⟨by show (0+d.c.tenants.length) * 56≤140737488355328;omega,fun cap2 el2 hc2 g1 g2=>?_⟩⟩
              ·rw[Nat.zero_add d.c.tenants.length]
               refine⟨_,4,rfl,by decide,?_⟩
               have hel:=cp_elB (fun k hk=>rfl) g2
               refine⟨⟨Nat.le_refl _,fun k hk=>by match k,hk with | 0,_=>rfl⟩,?_⟩
               have hlen:(d.c.tenants++[(⟨5,by_,0,IntKind.i64.wrap (by_ % 4-2),1,0,false⟩:Ten)]).length=d.c.tenants.length+1:=by simp
               refine⟨⟨rfl,by omega⟩,fun hin3 el3 g3 g4=>?_,fun hgt3=>⟨by show (d.c.tenants.length+1) * 56≤140737488355328;omega,fun cap3 el3 hc3 g3 g4=>?_⟩⟩
               ·exact⟨{ d.c with tenants:=d.c.tenants++[(⟨5,by_,0,IntKind.i64.wrap (by_ % 4-2),1,0,false⟩:Ten)] },_,_,_,_,_,_,rfl,⟨.inl ⟨rfl,rfl⟩,.inl ⟨rfl,rfl⟩,.inr ⟨.inr ⟨15,_,_,_,_,by rw[hlen],rfl,rfl,by rw[hlen];exact hin3,app_elB hel g3 (fun k hk=>(match k,hk with | 0,hk=>g4 0 hk))⟩,by simp⟩⟩,.inl ⟨rfl,rfl⟩,.inl ⟨rfl,rfl⟩,.inl ⟨rfl,rfl⟩⟩
               ·exact⟨{ d.c with tenants:=d.c.tenants++[(⟨5,by_,0,IntKind.i64.wrap (by_ % 4-2),1,0,false⟩:Ten)] },_,_,_,_,_,_,rfl,⟨.inl ⟨rfl,rfl⟩,.inl ⟨rfl,rfl⟩,.inr ⟨.inr ⟨17,cap3,_,_,_,by rw[hlen],rfl,rfl,by rw[hlen];exact hc3,app_elB hel g3 (fun k hk=>(match k,hk with | 0,hk=>g4 0 hk))⟩,by simp⟩⟩,.inl ⟨rfl,rfl⟩,.inl ⟨rfl,rfl⟩,.inl ⟨rfl,rfl⟩⟩
              ·rw[Nat.zero_add d.c.tenants.length]
               refine⟨_,4,rfl,by decide,?_⟩
               have hel:=cp_elB (fun k hk=>rfl) g2
               refine⟨⟨Nat.le_refl _,fun k hk=>by match k,hk with | 0,_=>rfl⟩,?_⟩
               have hlen:(d.c.tenants++[(⟨5,by_,0,IntKind.i64.wrap (by_ % 4-2),1,0,false⟩:Ten)]).length=d.c.tenants.length+1:=by simp
               refine⟨⟨rfl,by omega⟩,fun hin3 el3 g3 g4=>?_,fun hgt3=>⟨by show (d.c.tenants.length+1) * 56≤140737488355328;omega,fun cap3 el3 hc3 g3 g4=>?_⟩⟩
               ·exact⟨{ d.c with tenants:=d.c.tenants++[(⟨5,by_,0,IntKind.i64.wrap (by_ % 4-2),1,0,false⟩:Ten)] },_,_,_,_,_,_,rfl,⟨.inl ⟨rfl,rfl⟩,.inl ⟨rfl,rfl⟩,.inr ⟨.inr ⟨16,cap2,_,_,_,by rw[hlen],rfl,rfl,by rw[hlen];exact hin3,app_elB hel g3 (fun k hk=>(match k,hk with | 0,hk=>g4 0 hk))⟩,by simp⟩⟩,.inl ⟨rfl,rfl⟩,.inl ⟨rfl,rfl⟩,.inl ⟨rfl,rfl⟩⟩
               ·exact⟨{ d.c with tenants:=d.c.tenants++[(⟨5,by_,0,IntKind.i64.wrap (by_ % 4-2),1,0,false⟩:Ten)] },_,_,_,_,_,_,rfl,⟨.inl ⟨rfl,rfl⟩,.inl ⟨rfl,rfl⟩,.inr ⟨.inr ⟨18,cap3,_,_,_,by rw[hlen],rfl,rfl,by rw[hlen];exact hc3,app_elB hel g3 (fun k hk=>(match k,hk with | 0,hk=>g4 0 hk))⟩,by simp⟩⟩,.inl ⟨rfl,rfl⟩,.inl ⟨rfl,rfl⟩,.inl ⟨rfl,rfl⟩⟩
/-! Lists of atlases: rows of the wider kind. -/
abbrev aZ:Atl:=⟨0,0,[],0,0⟩
abbrev rowSB (l:List (Int×Int)):SB:=⟨2,l.length,fun j=>pairC (l.getD j (0,0))⟩
def famA (xs:List Atl):Nat→Nat→SB:=fun k o=>match o with
 | 2=>rowSB (xs.getD k aZ).routes
 | _=>emptySB
abbrev famB (t:TypeId) (xs:List Atl):ABlk:=.ext (.fam t (famA xs))
abbrev rtS (u k:Nat) (a:Atl) (cp:Nat):Value:=.slice (some ⟨u,2,some k⟩) a.routes.length cp
theorem SrcR.fam {mem:AM} {u k cp:Nat} {t:TypeId} {xs:List Atl} (h:lk mem u=some (famB t xs)):SrcR mem 2 pairC (0,0) (xs.getD k aZ).routes (rtS u k (xs.getD k aZ) cp):=
 .inr (.inr ⟨u,2,k,cp,rfl,t,famA xs,h,rfl,Nat.le_refl _,fun _ _=>rfl⟩)
/-! Configurations in slices of whatever kind. -/
def CfgSrc (mem:AM) (cv:Value) (c:Cfg):Prop:=∃ vz vc vt vv vr vo,cv=.agg #[.int .i64 c.regions,vz,vc,vt,vv,vr,vo,.int .i64 c.blast,.int .i64 c.lease,.int .i64 c.bake]∧
 (SrcR mem 1 intC 0 c.zones vz∧SrcR mem 2 pairC (0,0) c.cells vc∧SrcR mem 7 tenC default c.tenants vt)∧SrcR mem 2 pairC (0,0) c.versions vv∧SrcR mem 1 intC 0 c.replicas vr∧SrcR mem 1 intC 0 c.observers vo
theorem Sat.srcD {C:Ctx} {ρ:Nat→Pl} {fr:AF} {mem:AM} {nx:Nat} {a:Act} {w:World} (hs:Sat C ρ fr mem nx a w) {α:Type} {enc:α→List Value} {sz:Nat} (hsz:∀ x,(enc x).length=sz) (hpos:0<sz) {d:α} {l:List α} {v:Value} (h:SrcR mem sz enc d l v):∃ A cap,den1 ρ v=.slice A l.length cap∧Rd w (·<w.heap.size) A (flat enc l):=by
 obtain⟨A,cap,e,hr⟩:=hs.srcR hsz hpos h
 obtain⟨A',c',rfl⟩:=h.slice
 exact⟨A,cap,e,hr⟩
theorem Sat.cfgSrc {C:Ctx} {ρ:Nat→Pl} {fr:AF} {mem:AM} {nx:Nat} {a:Act} {w:World} (hs:Sat C ρ fr mem nx a w) {cv:Value} {c:Cfg} (h:CfgSrc mem cv c):∃ x:CfgA,den ρ cv=.agg (cfgC x c)∧CfgOk w (·<w.heap.size) x c:=by
 obtain⟨vz,vc,vt,vv,vr,vo,rfl,⟨h1,h2,h3⟩,h4,h5,h6⟩:=h
 obtain⟨A1,c1,e1,r1⟩:=hs.srcD (enc:=intC) (sz:=1) (fun _=>rfl) (by omega) h1
 obtain⟨A2,c2,e2,r2⟩:=hs.srcD (enc:=pairC) (sz:=2) (fun _=>rfl) (by omega) h2
 obtain⟨A3,c3,e3,r3⟩:=hs.srcD (enc:=tenC) (sz:=7) (fun _=>rfl) (by omega) h3
 obtain⟨A4,c4,e4,r4⟩:=hs.srcD (enc:=pairC) (sz:=2) (fun _=>rfl) (by omega) h4
 obtain⟨A5,c5,e5,r5⟩:=hs.srcD (enc:=intC) (sz:=1) (fun _=>rfl) (by omega) h5
 obtain⟨A6,c6,e6,r6⟩:=hs.srcD (enc:=intC) (sz:=1) (fun _=>rfl) (by omega) h6
 have dI:∀ k n,den1 ρ (.int k n)=.int k n:=fun _ _=>rfl
 exact⟨⟨A1,c1,A2,c2,A3,c3,A4,c4,A5,c5,A6,c6⟩,by simp only[den,den2];simp[dI,e1,e2,e3,e4,e5,e6,cfgC],r1,r2,r3,r4,r5,r6⟩
def ctTenG:CT:=fun vs mem nx K=>∃ cv c,vs=[cv]∧CfgSrc mem cv c∧Lens c∧K (.int .i64 (cfgErr c)) mem nx
theorem tenGOk:CSound Try.prog 51 ctTenG:=⟨by kernel_rfl,fun {C ρ fr mem nx q w vs K} hc hs hv=>by
 obtain⟨cv,c,rfl,hk,hL,hK⟩:=hc
 obtain⟨x,ex,hx⟩:=hs.cfgSrc hk
 have e1:([cv].map (den ρ)).toArray=#[.agg (cfgC x c)]:=by rw[List.map_cons,ex];rfl
 rw[e1]
 refine (tenV_calls x c w hL hx).mono ?_
 rintro e w' ⟨rfl,hb⟩
 exact⟨_,mem,nx,ρ,rfl,hK,hs.later hb,trivial,ExtS.refl _ _⟩⟩
/-! make.Bent,by contract: a configuration of old and new rows,under new names. -/
def OOR {α:Type} (w w':World) (enc:α→List Value) (l l2:List α) (A A2:Option Addr):Prop:=(A2=A∧l2=l)∨(Rd w' (fun b=>w.heap.size≤b∧b<w'.heap.size) A2 (flat enc l2)∧l2.length≤l.length+2)
theorem oo_den {C:Ctx} {ρ:Nat→Pl} {mem:AM} {nx:Nat} {w w':World} (hm:MemAt C ρ mem nx w') (hw:C.w0=w) {α:Type} {enc:α→List Value} {sz:Nat} (hsz:∀ x,(enc x).length=sz) (hpos:0<sz) {d:α} {l l2:List α} {i cap:Nat} {A:Option Addr} {v:Value} (hA:(ρ i).A=A) (h:OldOr mem sz enc d l l2 (slc i l.length cap) v):∃ A2 c2,den1 ρ v=.slice A2 l2.length c2∧OOR w w' enc l l2 A A2:=by
 rcases h with⟨rfl,rfl⟩ | ⟨h,hl⟩
 ·exact⟨A,cap,by show Value.slice (ρ i).A _ _=_;rw[hA],.inl ⟨rfl,rfl⟩⟩
 ·obtain⟨A2,c2,e,hr⟩:=hm.slR hsz hpos h
  rw[hw] at hr
  exact⟨A2,c2,e,.inr ⟨hr,hl⟩⟩
theorem beFok:FTokI Try.prog beF (inlOf []):=(ft_cons modOk ft_nil).i _
theorem bentC_calls (x:CfgA) (c:Cfg) (which by_:Int) (w:World) (hM:MadeCfg c) (hc:CfgOk w (·<w.heap.size) x c) :
  Calls Try.prog 15 #[.agg (cfgC x c),.int .i64 which,.int .i64 by_] w fun e w'=>∃ c2 x2,e=.returned (.agg (cfgC x2 c2))∧(OOR w w' intC c.zones c2.zones x.az x2.az∧OOR w w' pairC c.cells c2.cells x.ac x2.ac∧OOR w w' tenC c.tenants c2.tenants x.at_ x2.at_)∧(OOR w w' pairC c.versions c2.versions x.av x2.av∧OOR w w' intC c.replicas c2.replicas x.ar x2.ar∧OOR w w' intC c.observers c2.observers x.ao x2.ao)∧Below w.heap.size w w':=by
 have:=uni_calls ttOk beFok Try.func15 rfl (D:=[]) (by kernel_rfl) (vs:=[cfgV CNu (ck x) c,.int .i64 which,.int .i64 by_]) rfl { x:=x } { c:=c } w { c:=hc } (fun v hv=>by
  simp only[List.mem_cons,List.not_mem_nil,or_false] at hv
  rcases hv with rfl | rfl | rfl
  ·exact upl_cfg_ok { x:=x } { c:=c }
  ·trivial
  ·trivial) (bentC_sx { c:=c } (ck x) which by_ hM)
 rw[List.map_cons] at this
 have e0:=upl_cfg { x:=x } { c:=c }
 dsimp only at e0 this
 rw[e0] at this
 refine this.mono ?_
 rintro e w' ⟨v,mem',nx',ρ',rfl,⟨c2,vz,vc,vt,vv,vr,vo,rfl,⟨h1,h2,h3⟩,h4,h5,h6⟩,hv,hm',hb⟩
 have lw:∀ j,j<13→ρ' j=upl { x:=x } { c:=c } j:=fun j hj=>hm'.low j hj
 obtain⟨A1,k1,e1,r1⟩:=oo_den hm' rfl (enc:=intC) (sz:=1) (fun _=>rfl) (by omega) (A:=x.az) (by rw[lw _ (by decide)];rfl) h1
 obtain⟨A2,k2,e2,r2⟩:=oo_den hm' rfl (enc:=pairC) (sz:=2) (fun _=>rfl) (by omega) (A:=x.ac) (by rw[lw _ (by decide)];rfl) h2
 obtain⟨A3,k3,e3,r3⟩:=oo_den hm' rfl (enc:=tenC) (sz:=7) (fun _=>rfl) (by omega) (A:=x.at_) (by rw[lw _ (by decide)];rfl) h3
 obtain⟨A4,k4,e4,r4⟩:=oo_den hm' rfl (enc:=pairC) (sz:=2) (fun _=>rfl) (by omega) (A:=x.av) (by rw[lw _ (by decide)];rfl) h4
 obtain⟨A5,k5,e5,r5⟩:=oo_den hm' rfl (enc:=intC) (sz:=1) (fun _=>rfl) (by omega) (A:=x.ar) (by rw[lw _ (by decide)];rfl) h5
 obtain⟨A6,k6,e6,r6⟩:=oo_den hm' rfl (enc:=intC) (sz:=1) (fun _=>rfl) (by omega) (A:=x.ao) (by rw[lw _ (by decide)];rfl) h6
 have dI:∀ k n,den1 ρ' (.int k n)=.int k n:=fun _ _=>rfl
 exact⟨c2,⟨A1,k1,A2,k2,A3,k3,A4,k4,A5,k5,A6,k6⟩,by simp only[den,den2];simp[dI,e1,e2,e3,e4,e5,e6,cfgC],⟨r1,r2,r3⟩,⟨r4,r5,r6⟩,hb⟩
section
variable {C:Ctx} {ρ:Nat→Pl} {fr:AF} {mem:AM} {nx:Nat} {a:Act} {w:World}
theorem noW (ρ:Nat→Pl) (j g:Nat) {sz n:Nat} {el:Nat→List Value}:¬ bwr ρ j (.row 500000 sz n el) g:=fun hg=>by
 have:=hg.1
 cases this
theorem Sat.addOO {B:Nat} (h:Sat C ρ fr mem nx a w) (hF:FrB C ρ mem B) (hB:C.w0.heap.size≤B) {α:Type} {enc:α→List Value} {sz:Nat} (hs:∀ x,(enc x).length=sz) (hpos:0<sz) (hpl:∀ x,∀ v ∈ enc x,plain1 v) (d:α) {l2:List α} {A2:Option Addr}
  (H:(∃ i,lk mem i=some (rowOfL 500000 sz enc d l2)∧(ρ i).A=A2)∨Rd w (fun b=>B≤b∧b<w.heap.size) A2 (flat enc l2)) :
  Sat C (setPl ρ nx ⟨A2,sz,l2.length,false,noSub⟩) fr ((nx,rowOfL 500000 sz enc d l2)::mem) (nx+1) a w∧FrB C (setPl ρ nx ⟨A2,sz,l2.length,false,noSub⟩) ((nx,rowOfL 500000 sz enc d l2)::mem) B:=by
 rcases H with⟨i,hi,hA⟩ | H
 ·obtain⟨⟨q1,q2⟩,q3,q4⟩:=h.blk i _ (lk_app hi)
  refine⟨h.view (b:=rowOfL 500000 sz enc d l2) ⟨⟨by rw[setPl_same],by rw[setPl_same]⟩,q3,?_⟩ (fun g=>noW _ _ _) rfl (fun g hg=>⟨i,_,lk_app hi,?_,fun g=>noW _ _ _⟩),fun j b' hj g hg=>?_⟩
  ·rcases q4 with h0 | ⟨b,off,e1,e2,e3⟩
   ·exact .inl h0
   ·exact .inr ⟨b,off,by rw[setPl_same];rw[hA] at e1;exact e1,e2,e3⟩
  ·obtain⟨g1,g2⟩:=hg
   refine⟨g1,?_⟩
   unfold bno at g2 ⊢
   rw[setPl_same] at g2
   rw[hA]
   exact g2
  ·rcases lk_cons (l:=mem++C.fm) hj with⟨rfl,rfl⟩ | ⟨hne,hj⟩
   ·exact absurd hg (noW _ _ _)
   ·rw[bwr_ren (setPl_lt ρ _ (h.mlt j b' hj).1)] at hg
    exact hF j b' hj g hg
 ·exact h.addList hF hB hs hpos hpl d rfl H
theorem old_push {p:Pl} {b b0:ABlk} {A2:Option Addr} (h:Sat C ρ fr mem nx a w) (h2:Sat C (setPl ρ nx p) fr ((nx,b)::mem) (nx+1) a w) (H:∃ i,lk mem i=some b0∧(ρ i).A=A2):∃ i,lk ((nx,b)::mem) i=some b0∧(setPl ρ nx p i).A=A2:=by
 obtain⟨i,hi,hA⟩:=H
 have h0:=(h.mlt i _ (lk_app hi)).1
 exact⟨i,by rw[lk_ne _ _ (by omega)];exact hi,by rw[setPl_lt _ _ h0];exact hA⟩
end
theorem OOR.src {α:Type} {w w':World} {enc:α→List Value} {l l2:List α} {A A2:Option Addr} (h:OOR w w' enc l l2 A A2) {mem:AM} {ρ:Nat→Pl} {i sz:Nat} {d:α} (hi:lk mem i=some (rowOfL 500000 sz enc d l)) (hA:(ρ i).A=A):(∃ i,lk mem i=some (rowOfL 500000 sz enc d l2)∧(ρ i).A=A2)∨Rd w' (fun b=>w.heap.size≤b∧b<w'.heap.size) A2 (flat enc l2):=by
 rcases h with⟨rfl,rfl⟩ | ⟨h,-⟩
 ·exact .inl ⟨i,hi,hA⟩
 ·exact .inr h
theorem OOR.len {α:Type} {w w':World} {enc:α→List Value} {l l2:List α} {A A2:Option Addr} (h:OOR w w' enc l l2 A A2):l2.length≤l.length+2:=by
 rcases h with⟨rfl,rfl⟩ | ⟨-,h⟩
 ·omega
 ·exact h
structure Len2 (c c2:Cfg):Prop where
 zones:c2.zones.length≤c.zones.length+2
 cells:c2.cells.length≤c.cells.length+2
 tenants:c2.tenants.length≤c.tenants.length+2
 versions:c2.versions.length≤c.versions.length+2
 replicas:c2.replicas.length≤c.replicas.length+2
 observers:c2.observers.length≤c.observers.length+2
abbrev cfgUp (nx:Nat) (c:Cfg):AM:=[(nx+5,rowOfL 500000 1 intC 0 c.observers),(nx+4,rowOfL 500000 1 intC 0 c.replicas),(nx+3,rowOfL 500000 2 pairC (0,0) c.versions),(nx+2,rowOfL 500000 7 tenC default c.tenants),(nx+1,rowOfL 500000 2 pairC (0,0) c.cells),(nx,rowOfL 500000 1 intC 0 c.zones)]
def ctBentC:CT:=fun vs mem nx K=>∃ z c' t v r o x c which by_,vs=[cfgV ⟨z,c',t,v,r,o,500000⟩ x c,.int .i64 which,.int .i64 by_]∧keeps mem (cfgM ⟨z,c',t,v,r,o,500000⟩ c)∧MadeCfg c∧∀ c2 x2,Len2 c c2→K (cfgV ⟨nx,nx+1,nx+2,nx+3,nx+4,nx+5,500000⟩ x2 c2) (cfgUp nx c2++mem) (nx+5+1)
set_option maxRecDepth 20000 in
theorem bentCOk:CSound Try.prog 15 ctBentC:=⟨by kernel_rfl,fun {C ρ fr mem nx a w vs K} hc hs hv=>by
 obtain⟨z,c',t,v,r,o,x,c,which,by_,rfl,hk,hM,hK⟩:=hc
 have e0:([cfgV ⟨z,c',t,v,r,o,500000⟩ x c,.int .i64 which,.int .i64 by_].map (den ρ)).toArray=#[.agg (cfgC (cfgX ρ ⟨z,c',t,v,r,o,500000⟩ x) c),.int .i64 which,.int .i64 by_]:=by
  rw[List.map_cons,den_cfg]
  rfl
 rw[e0]
 refine (bentC_calls (cfgX ρ ⟨z,c',t,v,r,o,500000⟩ x) c which by_ w hM (hs.cfg hk (fun b h _=>h))).mono ?_
 rintro e w' ⟨c2,x2,rfl,⟨r1,r2,r3⟩,⟨r4,r5,r6⟩,hb⟩
 obtain⟨g1,g2,g3,g4,g5,g6,-⟩:=hk
 have hs0:=hs.later hb
 have hB:=hs.rest.size
 have H1:=r1.src (ρ:=ρ) g1 rfl
 have H2:=r2.src (ρ:=ρ) g2 rfl
 have H3:=r3.src (ρ:=ρ) g3 rfl
 have H4:=r4.src (ρ:=ρ) g4 rfl
 have H5:=r5.src (ρ:=ρ) g5 rfl
 have H6:=r6.src (ρ:=ρ) g6 rfl
 obtain⟨s1,f1⟩:=hs0.addOO hs.frB hB (enc:=intC) (sz:=1) (fun _=>rfl) (by omega) intC_plain 0 H1
 have H2:=H2.imp_left (old_push hs0 s1)
 have H3:=H3.imp_left (old_push hs0 s1)
 have H4:=H4.imp_left (old_push hs0 s1)
 have H5:=H5.imp_left (old_push hs0 s1)
 have H6:=H6.imp_left (old_push hs0 s1)
 obtain⟨s2,f2⟩:=s1.addOO f1 hB (enc:=pairC) (sz:=2) (fun _=>rfl) (by omega) pairC_plain (0,0) H2
 have H3:=H3.imp_left (old_push s1 s2)
 have H4:=H4.imp_left (old_push s1 s2)
 have H5:=H5.imp_left (old_push s1 s2)
 have H6:=H6.imp_left (old_push s1 s2)
 obtain⟨s3,f3⟩:=s2.addOO f2 hB (enc:=tenC) (sz:=7) (fun _=>rfl) (by omega) tenC_plain default H3
 have H4:=H4.imp_left (old_push s2 s3)
 have H5:=H5.imp_left (old_push s2 s3)
 have H6:=H6.imp_left (old_push s2 s3)
 obtain⟨s4,f4⟩:=s3.addOO f3 hB (enc:=pairC) (sz:=2) (fun _=>rfl) (by omega) pairC_plain (0,0) H4
 have H5:=H5.imp_left (old_push s3 s4)
 have H6:=H6.imp_left (old_push s3 s4)
 obtain⟨s5,f5⟩:=s4.addOO f4 hB (enc:=intC) (sz:=1) (fun _=>rfl) (by omega) intC_plain 0 H5
 have H6:=H6.imp_left (old_push s4 s5)
 obtain⟨s6,f6⟩:=s5.addOO f5 hB (enc:=intC) (sz:=1) (fun _=>rfl) (by omega) intC_plain 0 H6
 refine⟨cfgV ⟨nx,nx+1,nx+2,nx+3,nx+4,nx+5,500000⟩ ⟨x2.cz,x2.cc,x2.ct,x2.cv,x2.cr,x2.co⟩ c2,_,_,_,?_,hK c2 ⟨x2.cz,x2.cc,x2.ct,x2.cv,x2.cr,x2.co⟩ ⟨r1.len,r2.len,r3.len,r4.len,r5.len,r6.len⟩,s6,?_,fun i hi=>?_,by omega⟩
 ·rw[den_cfg]
  simp[cfgX,cfgC,setPl]
  repeat rw[if_neg (by omega)]
 ·intro u hu
  simp at hu
  rcases hu with rfl | rfl | rfl | rfl | rfl | rfl | rfl | rfl | rfl | rfl<;>first | trivial | exact⟨by dsimp only;omega,by first | (simp[setPl];done) | (simp[setPl];repeat rw[if_neg (by omega)])⟩
 ·simp only[setPl_lt _ _ (show i<nx+5 by omega),setPl_lt _ _ (show i<nx+4 by omega),setPl_lt _ _ (show i<nx+3 by omega),setPl_lt _ _ (show i<nx+2 by omega),setPl_lt _ _ (show i<nx+1 by omega),setPl_lt _ _ hi]⟩
/-! ref04.Valid,ref05.Valid: first parts -/
set_option maxRecDepth 100000 in
theorem in_sx (n lo hi:Int):sx ttA [] [] (bodyOf Try.f93) (argF 0 [.int .i64 n,.int .i64 lo,.int .i64 hi]) (uniM {}) 13 (endx ttA Try.f93.results.toList fun v _ _=>v=.bool (inR n lo hi)):=by
 refine⟨fun h=>?_,fun h=>?_⟩
 ·exact congrArg Value.bool (by unfold inR;grind)
 ·exact congrArg Value.bool (by unfold inR;grind)
theorem in_calls (n lo hi:Int) (w:World):Calls Try.prog 93 #[.int .i64 n,.int .i64 lo,.int .i64 hi] w fun e w'=>e=.returned (.bool (inR n lo hi))∧Below w.heap.size w w':=by
 have:=uni_calls ttAok fti_nil Try.func93 rfl (D:=[]) (by kernel_rfl) (vs:=[.int .i64 n,.int .i64 lo,.int .i64 hi]) rfl {} {} w {} (fun v hv=>by
  simp only[List.mem_cons,List.not_mem_nil,or_false] at hv
  rcases hv with rfl | rfl | rfl<;>trivial) (in_sx n lo hi)
 refine this.mono ?_
 rintro e w' ⟨v,mem',nx',ρ',rfl,rfl,hv,hm',hb⟩
 exact⟨rfl,hb⟩
def ctIn:CT:=fun vs mem nx K=>∃ n lo hi,vs=[.int .i64 n,.int .i64 lo,.int .i64 hi]∧K (.bool (inR n lo hi)) mem nx
theorem inOk:CSound Try.prog 93 ctIn:=CSound.pure (by kernel_rfl) (by
 rintro vs mem nx K ⟨n,lo,hi,rfl,hK⟩
 exact⟨_,hK,fun ρ m=>⟨rfl,trivial⟩,fun ρ w=>in_calls n lo hi w⟩)
def liF:FT:=[(93,ctIn)]
theorem liFok:FTokI Try.prog liF (inlOf []):=fti_cons (inOk.i _) fti_nil
set_option maxRecDepth 100000 in
set_option maxHeartbeats 4000000 in
theorem limits_sx (x:CfgK) (c:Cfg) :
  sx ttA liF [] (bodyOf Try.f91) (argF 0 [cfgV CNu x c]) (uniM { c:=c }) 13 (endx ttA Try.f91.results.toList fun v _ _=>v=.bool (limitsB c)):=by
 refine⟨_,_,_,rfl,?_⟩
 refine⟨fun h1=>?_,fun h1=>?_⟩
 ·refine⟨_,_,_,rfl,?_⟩
  refine⟨fun h2=>?_,fun h2=>?_⟩
  ·refine⟨_,_,_,rfl,?_⟩
   refine⟨fun h3=>?_,fun h3=>?_⟩
   ·refine⟨_,_,_,rfl,?_⟩
    refine⟨fun h4=>?_,fun h4=>?_⟩
    ·refine⟨_,_,_,rfl,?_⟩
     refine⟨fun h5=>?_,fun h5=>?_⟩
     ·refine⟨_,_,_,rfl,?_⟩
      refine⟨fun h6=>?_,fun h6=>?_⟩
      ·exact congrArg Value.bool (by unfold limitsB;simp[h1,h2,h3,h4,h5,h6];omega)
      ·repeat (first | refine⟨fun _=>?_,fun h=>Bool.noConfusion h⟩ | refine⟨fun h=>Bool.noConfusion h,fun _=>?_⟩ | fail)
       exact congrArg Value.bool (by unfold limitsB;simp[h1,h2,h3,h4,h5,h6])
     ·repeat (first | refine⟨fun _=>?_,fun h=>Bool.noConfusion h⟩ | refine⟨fun h=>Bool.noConfusion h,fun _=>?_⟩ | fail)
      exact congrArg Value.bool (by unfold limitsB;simp[h1,h2,h3,h4,h5])
    ·repeat (first | refine⟨fun _=>?_,fun h=>Bool.noConfusion h⟩ | refine⟨fun h=>Bool.noConfusion h,fun _=>?_⟩ | fail)
     exact congrArg Value.bool (by unfold limitsB;simp[h1,h2,h3,h4])
   ·repeat (first | refine⟨fun _=>?_,fun h=>Bool.noConfusion h⟩ | refine⟨fun h=>Bool.noConfusion h,fun _=>?_⟩ | fail)
    exact congrArg Value.bool (by unfold limitsB;simp[h1,h2,h3])
  ·repeat (first | refine⟨fun _=>?_,fun h=>Bool.noConfusion h⟩ | refine⟨fun h=>Bool.noConfusion h,fun _=>?_⟩ | fail)
   exact congrArg Value.bool (by unfold limitsB;simp[h1,h2])
 ·repeat (first | refine⟨fun _=>?_,fun h=>Bool.noConfusion h⟩ | refine⟨fun h=>Bool.noConfusion h,fun _=>?_⟩ | fail)
  exact congrArg Value.bool (by unfold limitsB;simp[h1])
set_option maxRecDepth 100000 in
set_option maxHeartbeats 4000000 in
theorem zones_sx (x:CfgK) (c:Cfg) (l:List Int) (cap:Nat) (hl:l.length≤1000000) (hz:c.zones.length≤1000000) :
  sx ttA liF [(2000002,{ k:=0,L:=[0,1,2,3,4,5,6,7,8,9,10,11,12,13],sl:=[1,2] }),(4,{ k:=8,L:=[0,1,2,3,4,5,6,7,8,9,10,11,12,13],pre:=[(0,false),(1,false),(2,false),(3,false),(4,false),(5,false),(6,false),(7,false)] })] (bodyOf Try.f92) (argF 0 [cfgV CNu x c,slc 0 l.length cap]) (uniM { l0:=l,c:=c }) 13 (endx ttA Try.f92.results.toList fun v _ _=>v=.bool (l.all fun z=>inR z 0 (c.zones.length-1))):=by
 refine⟨Int,fun i=>[(5,.int .i64 i)],fun _=>[],fun i=>(0≤i∧i≤l.length)∧∀ k,k<i.toNat→inR (l.getD k 0) 0 (c.zones.length-1)=true,fun i=>((l.length:Int)-i).toNat,⟨0,⟨by omega,fun k hk=>absurd hk (by omega)⟩,kp_,kp_⟩,?_⟩
 rintro i ⟨hi,hall⟩
 refine⟨⟨rfl,rfl⟩,?_⟩
 refine⟨fun hlt=>?_,fun hge=>?_⟩
 ·have hlt2:i<(l.length:Int):=of_decide_eq_true hlt
  refine⟨⟨Nat.le_refl _,hi.1,hlt2⟩,?_⟩
  refine⟨_,_,_,rfl,?_⟩
  rw[wrapi (n:=(c.zones.length:Int)-1) (by omega)]
  refine⟨fun hb=>?_,fun hb=>?_⟩
  ·have hb2:inR (l.getD i.toNat 0) 0 (c.zones.length-1)=false:=by simpa using hb
   refine congrArg Value.bool (Eq.symm ?_)
   rw[List.all_eq_false]
   refine⟨l.getD i.toNat 0,?_,by rw[hb2];decide⟩
   rw[List.getD_eq_getElem?_getD,List.getElem?_eq_getElem (by omega)]
   exact List.getElem_mem _
  ·have hb2:inR (l.getD i.toNat 0) 0 (c.zones.length-1)=true:=by simpa using hb
   refine⟨_,?_,kp_,kp_⟩
   rw[wrapi (n:=i+1) (by omega)]
   dsimp only
   refine⟨⟨by omega,fun k hk=>?_⟩,by omega⟩
   by_cases hki:k<i.toNat
   ·exact hall k hki
   ·obtain rfl:k=i.toNat:=by omega
    exact hb2
 ·have hge2:¬ i<(l.length:Int):=of_decide_eq_false hge
  refine congrArg Value.bool (Eq.symm ?_)
  rw[List.all_eq_true]
  intro z hz2
  obtain⟨k,hk,rfl⟩:=List.getElem_of_mem hz2
  have:=hall k (by omega)
  rwa[List.getD_eq_getElem?_getD,List.getElem?_eq_getElem hk] at this
/-! ref04.Valid: plain facts -/
theorem all_getD {α:Type} {l:List α} {p:α→Bool} (d:α):l.all p=true↔∀ k,k<l.length→p (l.getD k d)=true:=by
 rw[List.all_eq_true]
 constructor
 ·intro h k hk
  rw[List.getD_eq_getElem?_getD,List.getElem?_eq_getElem hk]
  exact h _ (List.getElem_mem _)
 ·intro h x hx
  obtain⟨k,hk,rfl⟩:=List.getElem_of_mem hx
  have:=h k hk
  rwa[List.getD_eq_getElem?_getD,List.getElem?_eq_getElem hk] at this
theorem versOk_iff (l:List (Int×Int)):versOk l=true↔∀ k,k<l.length→verOk k (l.getD k (0,0))=true:=by
 constructor
 ·intro h k hk
  rw[List.getD_eq_getElem?_getD,List.getElem?_eq_getElem hk]
  cases hv:verOk k l[k] with
  | true=>exact hv
  | false=>rw[versOk_no (List.getElem?_eq_getElem hk) hv] at h;cases h
 ·intro h
  refine versOk_yes fun k v hv=>?_
  have hk:=(List.getElem?_eq_some_iff.1 hv).1
  have:=h k hk
  rwa[List.getD_eq_getElem?_getD,hv] at this
def G04 (c:Cfg):Prop:=c.replicas.length % 2=1∧(c.replicas.all fun z=>inR z 0 (c.zones.length-1))=true∧(c.observers.all fun z=>inR z 0 (c.zones.length-1))=true∧inR c.blast 1 16=true∧inR c.lease 1 1000=true∧inR c.bake 0 10000=true∧(c.versions.getD 0 (0,0)).1=0
def ZK4 (c:Cfg) (i:Nat):Prop:=∀ k,k<i→inR (c.zones.getD k 0) 0 (c.regions-1)=true
def CK4 (c:Cfg) (i:Nat):Prop:=∀ k,k<i→inR (c.cells.getD k (0,0)).1 0 (c.zones.length-1)=true∧inR (c.cells.getD k (0,0)).2 1 4194304=true
def VK4 (c:Cfg) (i:Nat):Prop:=∀ k,k<i→inR (c.versions.getD k (0,0)).1 0 (c.versions.getD k (0,0)).2=true∧(c.versions.getD k (0,0)).2≤30
theorem valid4_yes {c:Cfg} (hl:limitsB c=true) (h0:G04 c) (hz:ZK4 c c.zones.length) (hc:CK4 c c.cells.length) (hv:VK4 c c.versions.length):topoErr c=0:=by
 obtain⟨g1,g2,g3,g4,g5,g6,g7⟩:=h0
 have hp:placesB c=true:=by
  unfold placesB
  rw[g2,g3,(all_getD (p:=fun z=>inR z 0 (c.regions-1)) 0).2 hz,(all_getD (0,0)).2 fun k hk=>(hc k hk).1]
  rfl
 have hver:versOk c.versions=true:=(versOk_iff _).2 fun k hk=>by
  have:=hv k hk
  unfold verOk
  unfold inR at this
  cases k with
  | zero=>grind
  | succ k=>grind
 have hq:valuesB c=true:=by
  unfold valuesB
  rw[g4,g5,g6,hver,(all_getD (0,0)).2 fun k hk=>(hc k hk).2]
  rfl
 unfold topoErr
 rw[if_neg (by rw[hl];decide),if_neg]
 rw[hp,hq]
 rintro (q | q | q)
 ·omega
 ·cases q
 ·cases q
theorem valid4_no {c:Cfg} (hl:limitsB c=true) (h:¬ (((G04 c∧ZK4 c c.zones.length)∧CK4 c c.cells.length)∧VK4 c c.versions.length)):topoErr c=1:=by
 unfold topoErr
 rw[if_neg (by rw[hl];decide)]
 by_cases hr:c.replicas.length % 2=0
 ·rw[if_pos (.inl hr)]
 by_cases hp:placesB c=false
 ·rw[if_pos (.inr (.inl hp))]
 by_cases hq:valuesB c=false
 ·rw[if_pos (.inr (.inr hq))]
 exfalso
 rw[Bool.not_eq_false] at hp hq
 unfold placesB at hp
 unfold valuesB at hq
 simp only[Bool.and_eq_true] at hp hq
 obtain⟨⟨⟨p1,p2⟩,p3⟩,p4⟩:=hp
 obtain⟨⟨q1,q2⟩,⟨q3,q4⟩,q5⟩:=hq
 have hnv:0<c.versions.length:=by
  simp[limitsB,inR] at hl
  omega
 have hv:=(versOk_iff _).1 q2
 refine h ⟨⟨⟨⟨by omega,p3,p4,q3,q4,q5,?_⟩,(all_getD 0).1 p1⟩,fun k hk=>⟨(all_getD (0,0)).1 p2 k hk,(all_getD (0,0)).1 q1 k hk⟩⟩,fun k hk=>?_⟩
 ·have:=hv 0 hnv
  unfold verOk at this
  grind
 ·have:=hv k hk
  unfold verOk at this
  unfold inR
  grind
theorem limits_calls (x:CfgA) (c:Cfg) (w:World) (hc:CfgOk w (·<w.heap.size) x c):Calls Try.prog 91 #[.agg (cfgC x c)] w fun e w'=>e=.returned (.bool (limitsB c))∧Below w.heap.size w w':=by
 have:=uni_calls ttAok liFok Try.func91 rfl (D:=[]) (by kernel_rfl) (vs:=[cfgV CNu (ck x) c]) rfl { x:=x } { c:=c } w { c:=hc } (fun v hv=>by
  simp only[List.mem_cons,List.not_mem_nil,or_false] at hv
  subst hv
  exact upl_cfg_ok { x:=x } { c:=c }) (limits_sx (ck x) c)
 rw[List.map_cons,upl_cfg { x:=x } { c:=c }] at this
 refine this.mono ?_
 rintro e w' ⟨v,mem',nx',ρ',rfl,rfl,hv,hm',hb⟩
 exact⟨rfl,hb⟩
def ctLimits:CT:=fun vs mem nx K=>∃ N x c,vs=[cfgV N x c]∧HasCfg mem N c∧K (.bool (limitsB c)) mem nx
theorem limitsOk:CSound Try.prog 91 ctLimits:=⟨by kernel_rfl,fun {C ρ fr mem nx a w vs K} hc hs hv=>by
 obtain⟨N,x,c,rfl,hk,hK⟩:=hc
 rw[List.map_cons,den_cfg]
 refine (limits_calls (cfgX ρ N x) c w (hs.cfgH hk)).mono ?_
 rintro e w' ⟨rfl,hb⟩
 exact⟨_,mem,nx,ρ,rfl,hK,hs.later hb,trivial,ExtS.refl _ _⟩⟩
theorem zones_calls (x:CfgA) (c:Cfg) (A:Option Addr) (l:List Int) (cap:Nat) (w:World) (hl:l.length≤1000000) (hz:c.zones.length≤1000000) (hr:Rd w (·<w.heap.size) A (flat intC l)) (hc:CfgOk w (·<w.heap.size) x c):Calls Try.prog 92 #[.agg (cfgC x c),.slice A l.length cap] w fun e w'=>e=.returned (.bool (l.all fun z=>inR z 0 (c.zones.length-1)))∧Below w.heap.size w w':=by
 have:=uni_calls ttAok liFok Try.func92 rfl (D:=[(2000002,{ k:=0,L:=[0,1,2,3,4,5,6,7,8,9,10,11,12,13],sl:=[1,2] }),(4,{ k:=8,L:=[0,1,2,3,4,5,6,7,8,9,10,11,12,13],pre:=[(0,false),(1,false),(2,false),(3,false),(4,false),(5,false),(6,false),(7,false)] })]) (by kernel_rfl) (vs:=[cfgV CNu (ck x) c,slc 0 l.length cap]) rfl { a0:=A,x:=x } { l0:=l,c:=c } w { r0:=hr,c:=hc } (fun v hv=>by
  simp only[List.mem_cons,List.not_mem_nil,or_false] at hv
  rcases hv with rfl | rfl
  ·exact upl_cfg_ok { a0:=A,x:=x } { l0:=l,c:=c }
  ·exact⟨show (0:Nat)<13 by decide,rfl⟩) (zones_sx (ck x) c l cap hl hz)
 rw[List.map_cons,upl_cfg { a0:=A,x:=x } { l0:=l,c:=c }] at this
 refine this.mono ?_
 rintro e w' ⟨v,mem',nx',ρ',rfl,rfl,hv,hm',hb⟩
 exact⟨rfl,hb⟩
def ctZones:CT:=fun vs mem nx K=>∃ N x c r l cap,vs=[cfgV N x c,slc r (l:List Int).length cap]∧(HasCfg mem N c∧HasRow mem r 1 intC 0 l)∧(l.length≤1000000∧c.zones.length≤1000000)∧K (.bool (l.all fun z=>inR z 0 (c.zones.length-1))) mem nx
theorem zonesOk:CSound Try.prog 92 ctZones:=⟨by kernel_rfl,fun {C ρ fr mem nx a w vs K} hc hs hv=>by
 obtain⟨N,x,c,r,l,cap,rfl,⟨hk,hr⟩,⟨hl,hz⟩,hK⟩:=hc
 have e0:([cfgV N x c,slc r l.length cap].map (den ρ)).toArray=#[.agg (cfgC (cfgX ρ N x) c),.slice (ρ r).A l.length cap]:=by
  rw[List.map_cons,den_cfg]
  simp[den,den2,den1,dA_whole,dS_whole]
 rw[e0]
 refine (zones_calls (cfgX ρ N x) c (ρ r).A l cap w hl hz (hs.hasRd (enc:=intC) (sz:=1) (fun _=>rfl) (by omega) hr) (hs.cfgH hk)).mono ?_
 rintro e w' ⟨rfl,hb⟩
 exact⟨_,mem,nx,ρ,rfl,hK,hs.later hb,trivial,ExtS.refl _ _⟩⟩
/-! ref04.Valid -/
theorem all_succ {P:Nat→Prop} {i:Int} (h:0≤i):(∀ k,k<(i+1).toNat→P k)↔(∀ k,k<i.toNat→P k)∧P i.toNat:=by
 constructor
 ·exact fun q=>⟨fun k hk=>q k (by omega),q _ (by omega)⟩
 ·rintro⟨q1,q2⟩ k hk
  by_cases hki:k<i.toNat
  ·exact q1 k hki
  ·obtain rfl:k=i.toNat:=by omega
   exact q2
def v4F:FT:=[(91,ctLimits),(92,ctZones),(93,ctIn)]
theorem v4Fok:FTokI Try.prog v4F (inlOf []):=fti_cons (limitsOk.i _) (fti_cons (zonesOk.i _) (fti_cons (inOk.i _) fti_nil))
def v4D:List (Nat×DQ):=[(1000004,{ k:=14,L:=[0,1,2,3,4,5,6,7,8,9,10,11,12,13],sl:=[1] }),(2000005,{ k:=0,L:=[0,1,2,3,4,5,6,7,8,9,10,11,12,13],sl:=[1] }),(2000009,{ k:=0,L:=[0,1,2,3,4,5,6,7,8,9,10,11,12,13],sl:=[1] }),(2000013,{ k:=0,L:=[0,1,2,3,4,5,6,7,8,9,10,11,12,13],sl:=[1] }),(7,{ k:=11,L:=[0,1,2,3,4,5,6,7,8,9,10,11,12,13],pre:=[(0,false),(1,false),(2,false),(3,false),(4,false),(5,false),(6,false),(7,false),(8,false),(9,false),(10,false)] }),
 (11,{ k:=18,L:=[0,1,2,3,4,5,6,7,8,9,10,11,12,13],pre:=[(0,false),(1,false),(2,false),(3,false),(4,false),(5,false),(6,false),(7,false),(8,false),(9,false),(10,false),(11,false),(12,true),(13,false),(14,false),(15,false),(16,false),(17,false)] }),(15,{ k:=20,L:=[0,1,2,3,4,5,6,7,8,9,10,11,12,13],pre:=[(0,false),(1,false),(2,false),(3,false),(4,false),(5,false),(6,false),(7,false),(8,false),(9,false),(10,false),(11,false),(12,false),(13,false),(14,true),(15,false),(16,false),(17,false),(18,false),(19,false)] })]
set_option maxRecDepth 100000 in
set_option maxHeartbeats 8000000 in
theorem valid4_sx (x:CfgK) (c:Cfg) :
  sx ttA v4F v4D (bodyOf Try.f75) (argF 0 [cfgV CNu x c]) (uniM { c:=c }) 13 (endx ttA Try.f75.results.toList fun v _ _=>v=.int .i64 (topoErr c)):=by
 refine⟨CNu,x,c,rfl,HasCfg.keeps kp_,?_⟩
 refine⟨fun hl=>?_,fun hl=>?_⟩
 ·replace hl:limitsB c=false:=by simpa using hl
  exact congrArg (Value.int .i64) (show topoErr c=2 from if_pos hl).symm
 ·replace hl:limitsB c=true:=by simpa using hl
  have hlm:=hl
  simp[limitsB,inR] at hlm
  refine⟨Bool,fun b=>[(3,.bool b)],fun _=>[],fun b=>(b=true↔G04 c),?_,?_⟩
  ·refine⟨⟨rfl,by decide⟩,?_⟩
   refine⟨fun h1=>?_,fun h1=>?_⟩
   ·refine⟨CNu,x,c,6,c.replicas,_,rfl,⟨HasCfg.keeps kp_,.list rfl⟩,⟨by omega,by omega⟩,?_⟩
    refine⟨fun h2=>?_,fun h2=>?_⟩
    ·refine⟨CNu,x,c,7,c.observers,_,rfl,⟨HasCfg.keeps kp_,.list rfl⟩,⟨by omega,by omega⟩,?_⟩
     refine⟨fun h3=>?_,fun h3=>?_⟩
     ·refine⟨_,_,_,rfl,?_⟩
      refine⟨fun h4=>?_,fun h4=>?_⟩
      ·refine⟨_,_,_,rfl,?_⟩
       refine⟨fun h5=>?_,fun h5=>?_⟩
       ·refine⟨_,_,_,rfl,?_⟩
        refine⟨fun h6=>?_,fun h6=>?_⟩
        ·refine⟨⟨Nat.le_refl _,by omega,by omega⟩,?_⟩
         refine⟨_,?_,kp_,kp_⟩
         have h1b:=(by simpa using h1:(c.replicas.length:Int).tmod 2=1)
         rw[Int.tmod_eq_emod_of_nonneg (by omega)] at h1b
         exact⟨fun q=>⟨by omega,h2,h3,h4,h5,h6,by simpa using q⟩,fun q=>by simpa using q.2.2.2.2.2.2⟩
        ·repeat (first | refine⟨fun _=>?_,fun h=>Bool.noConfusion h⟩ | refine⟨fun h=>Bool.noConfusion h,fun _=>?_⟩ | fail)
         exact⟨false,⟨fun q=>Bool.noConfusion q,fun q=>absurd q.2.2.2.2.2.1 (by rw[h6];decide)⟩,kp_,kp_⟩
       ·repeat (first | refine⟨fun _=>?_,fun h=>Bool.noConfusion h⟩ | refine⟨fun h=>Bool.noConfusion h,fun _=>?_⟩ | fail)
        exact⟨false,⟨fun q=>Bool.noConfusion q,fun q=>absurd q.2.2.2.2.1 (by rw[h5];decide)⟩,kp_,kp_⟩
      ·repeat (first | refine⟨fun _=>?_,fun h=>Bool.noConfusion h⟩ | refine⟨fun h=>Bool.noConfusion h,fun _=>?_⟩ | fail)
       exact⟨false,⟨fun q=>Bool.noConfusion q,fun q=>absurd q.2.2.2.1 (by rw[h4];decide)⟩,kp_,kp_⟩
     ·repeat (first | refine⟨fun _=>?_,fun h=>Bool.noConfusion h⟩ | refine⟨fun h=>Bool.noConfusion h,fun _=>?_⟩ | fail)
      exact⟨false,⟨fun q=>Bool.noConfusion q,fun q=>absurd q.2.2.1 (by rw[h3];decide)⟩,kp_,kp_⟩
    ·repeat (first | refine⟨fun _=>?_,fun h=>Bool.noConfusion h⟩ | refine⟨fun h=>Bool.noConfusion h,fun _=>?_⟩ | fail)
     exact⟨false,⟨fun q=>Bool.noConfusion q,fun q=>absurd q.2.1 (by rw[h2];decide)⟩,kp_,kp_⟩
   ·repeat (first | refine⟨fun _=>?_,fun h=>Bool.noConfusion h⟩ | refine⟨fun h=>Bool.noConfusion h,fun _=>?_⟩ | fail)
    exact⟨false,⟨fun q=>Bool.noConfusion q,fun q=>absurd q.1 (by have h1b:=(by simpa using h1:¬ ((c.replicas.length:Int).tmod 2=1));rw[Int.tmod_eq_emod_of_nonneg (by omega)] at h1b;omega)⟩,kp_,kp_⟩
  ·rintro b hb
   refine⟨⟨by decide,rfl,rfl⟩,?_⟩
   refine⟨Int×Bool,fun q=>match q with | (i,b)=>[(4,.int .i64 i),(3,.bool b)],fun _=>[],fun q=>match q with | (i,b)=>(0≤i∧i≤c.zones.length)∧(b=true↔(G04 c∧ZK4 c i.toNat)),fun q=>match q with | (i,b)=>((c.zones.length:Int)-i).toNat,⟨(0,b),⟨by omega,⟨fun q=>⟨hb.1 q,fun k hk=>absurd hk (by omega)⟩,fun q=>hb.2 q.1⟩⟩,kp_,kp_⟩,?_⟩
   clear hb b
   rintro⟨i,b⟩ ⟨hi,hb⟩
   refine⟨⟨rfl,rfl⟩,?_⟩
   refine⟨fun hlt=>?_,fun hge=>?_⟩
   ·have hlt2:i<(c.zones.length:Int):=of_decide_eq_true hlt
    refine⟨fun hbt=>?_,fun hbt=>?_⟩
    ·refine⟨⟨Nat.le_refl _,by omega,by omega⟩,?_⟩
     refine⟨_,_,_,rfl,?_⟩
     rw[wrapi (n:=c.regions-1) (by omega)]
     refine⟨(_,_),?_,kp_,kp_⟩
     dsimp only
     rw[wrapi (n:=i+1) (by omega)]
     have hs:=all_succ (P:=fun k=>inR (c.zones.getD k 0) 0 (c.regions-1)=true) hi.1
     refine⟨⟨by omega,?_⟩,by omega⟩
     exact⟨fun q=>⟨(hb.1 hbt).1,hs.2 ⟨(hb.1 hbt).2,q⟩⟩,fun q=>(hs.1 q.2).2⟩
    ·refine⟨(_,false),?_,kp_,kp_⟩
     dsimp only
     rw[wrapi (n:=i+1) (by omega)]
     have hs:=all_succ (P:=fun k=>inR (c.zones.getD k 0) 0 (c.regions-1)=true) hi.1
     refine⟨⟨by omega,?_⟩,by omega⟩
     exact⟨fun q=>Bool.noConfusion q,fun q=>absurd (hb.2 ⟨q.1,(hs.1 q.2).1⟩) (by rw[hbt];decide)⟩
   ·have hge2:¬ i<(c.zones.length:Int):=of_decide_eq_false hge
    obtain rfl:i=c.zones.length:=by omega
    rw[Int.toNat_natCast] at hb
    refine⟨Int×Bool,fun q=>match q with | (i,b)=>[(5,.int .i64 i),(3,.bool b)],fun _=>[],fun q=>match q with | (i,b)=>(0≤i∧i≤c.cells.length)∧(b=true↔((G04 c∧ZK4 c c.zones.length)∧CK4 c i.toNat)),fun q=>match q with | (i,b)=>((c.cells.length:Int)-i).toNat,⟨(0,b),⟨by omega,⟨fun q=>⟨hb.1 q,fun k hk=>absurd hk (by omega)⟩,fun q=>hb.2 q.1⟩⟩,kp_,kp_⟩,?_⟩
    clear hb b
    rintro⟨i,b⟩ ⟨hi,hb⟩
    refine⟨⟨rfl,rfl⟩,?_⟩
    refine⟨fun hlt=>?_,fun hge=>?_⟩
    ·have hlt2:i<(c.cells.length:Int):=of_decide_eq_true hlt
     refine⟨fun hbt=>?_,fun hbt=>?_⟩
     ·refine⟨⟨Nat.le_refl _,by omega,by omega⟩,?_⟩
      refine⟨_,_,_,rfl,?_⟩
      rw[wrapi (n:=(c.zones.length:Int)-1) (by omega)]
      refine⟨kp_,?_⟩
      refine⟨fun hc1=>?_,fun hc1=>?_⟩
      ·refine⟨⟨Nat.le_refl _,by omega,by omega⟩,?_⟩
       refine⟨_,_,_,rfl,?_⟩
       refine⟨(_,_),?_,kp_,kp_⟩
       dsimp only
       rw[wrapi (n:=i+1) (by omega)]
       have hs:=all_succ (P:=fun k=>inR (c.cells.getD k (0,0)).1 0 (c.zones.length-1)=true∧inR (c.cells.getD k (0,0)).2 1 4194304=true) hi.1
       refine⟨⟨by omega,?_⟩,by omega⟩
       exact⟨fun q=>⟨(hb.1 hbt).1,hs.2 ⟨(hb.1 hbt).2,hc1,q⟩⟩,fun q=>(hs.1 q.2).2.2⟩
      ·refine⟨(_,false),?_,kp_,kp_⟩
       dsimp only
       rw[wrapi (n:=i+1) (by omega)]
       have hs:=all_succ (P:=fun k=>inR (c.cells.getD k (0,0)).1 0 (c.zones.length-1)=true∧inR (c.cells.getD k (0,0)).2 1 4194304=true) hi.1
       refine⟨⟨by omega,?_⟩,by omega⟩
       exact⟨fun q=>Bool.noConfusion q,fun q=>absurd (hs.1 q.2).2.1 (by rw[hc1];decide)⟩
     ·repeat (first | refine⟨fun _=>?_,fun h=>Bool.noConfusion h⟩ | refine⟨fun h=>Bool.noConfusion h,fun _=>?_⟩ | fail)
      refine⟨(_,false),?_,kp_,kp_⟩
      dsimp only
      rw[wrapi (n:=i+1) (by omega)]
      have hs:=all_succ (P:=fun k=>inR (c.cells.getD k (0,0)).1 0 (c.zones.length-1)=true∧inR (c.cells.getD k (0,0)).2 1 4194304=true) hi.1
      refine⟨⟨by omega,?_⟩,by omega⟩
      exact⟨fun q=>Bool.noConfusion q,fun q=>absurd (hb.2 ⟨q.1,(hs.1 q.2).1⟩) (by rw[hbt];decide)⟩
    ·have hge2:¬ i<(c.cells.length:Int):=of_decide_eq_false hge
     obtain rfl:i=c.cells.length:=by omega
     rw[Int.toNat_natCast] at hb
     refine⟨Int×Bool,fun q=>match q with | (i,b)=>[(6,.int .i64 i),(3,.bool b)],fun _=>[],fun q=>match q with | (i,b)=>(0≤i∧i≤c.versions.length)∧(b=true↔(((G04 c∧ZK4 c c.zones.length)∧CK4 c c.cells.length)∧VK4 c i.toNat)),fun q=>match q with | (i,b)=>((c.versions.length:Int)-i).toNat,⟨(0,b),⟨by omega,⟨fun q=>⟨hb.1 q,fun k hk=>absurd hk (by omega)⟩,fun q=>hb.2 q.1⟩⟩,kp_,kp_⟩,?_⟩
     clear hb b
     rintro⟨i,b⟩ ⟨hi,hb⟩
     refine⟨⟨rfl,rfl⟩,?_⟩
     refine⟨fun hlt=>?_,fun hge=>?_⟩
     ·have hlt2:i<(c.versions.length:Int):=of_decide_eq_true hlt
      refine⟨fun hbt=>?_,fun hbt=>?_⟩
      ·refine⟨⟨Nat.le_refl _,by omega,by omega⟩,?_⟩
       refine⟨⟨Nat.le_refl _,by omega,by omega⟩,?_⟩
       refine⟨_,_,_,rfl,?_⟩
       refine⟨kp_,?_⟩
       refine⟨fun hc1=>?_,fun hc1=>?_⟩
       ·refine⟨⟨Nat.le_refl _,by omega,by omega⟩,?_⟩
        refine⟨(_,_),?_,kp_,kp_⟩
        dsimp only
        rw[wrapi (n:=i+1) (by omega)]
        have hs:=all_succ (P:=fun k=>inR (c.versions.getD k (0,0)).1 0 (c.versions.getD k (0,0)).2=true∧(c.versions.getD k (0,0)).2≤30) hi.1
        refine⟨⟨by omega,?_⟩,by omega⟩
        exact⟨fun q=>⟨(hb.1 hbt).1,hs.2 ⟨(hb.1 hbt).2,hc1,of_decide_eq_true q⟩⟩,fun q=>decide_eq_true (hs.1 q.2).2.2⟩
       ·refine⟨(_,false),?_,kp_,kp_⟩
        dsimp only
        rw[wrapi (n:=i+1) (by omega)]
        have hs:=all_succ (P:=fun k=>inR (c.versions.getD k (0,0)).1 0 (c.versions.getD k (0,0)).2=true∧(c.versions.getD k (0,0)).2≤30) hi.1
        refine⟨⟨by omega,?_⟩,by omega⟩
        exact⟨fun q=>Bool.noConfusion q,fun q=>absurd (hs.1 q.2).2.1 (by rw[hc1];decide)⟩
      ·repeat (first | refine⟨fun _=>?_,fun h=>Bool.noConfusion h⟩ | refine⟨fun h=>Bool.noConfusion h,fun _=>?_⟩ | fail)
       refine⟨(_,false),?_,kp_,kp_⟩
       dsimp only
       rw[wrapi (n:=i+1) (by omega)]
       have hs:=all_succ (P:=fun k=>inR (c.versions.getD k (0,0)).1 0 (c.versions.getD k (0,0)).2=true∧(c.versions.getD k (0,0)).2≤30) hi.1
       refine⟨⟨by omega,?_⟩,by omega⟩
       exact⟨fun q=>Bool.noConfusion q,fun q=>absurd (hb.2 ⟨q.1,(hs.1 q.2).1⟩) (by rw[hbt];decide)⟩
     ·have hge2:¬ i<(c.versions.length:Int):=of_decide_eq_false hge
      obtain rfl:i=c.versions.length:=by omega
      rw[Int.toNat_natCast] at hb
      refine⟨fun hn=>?_,fun hn=>?_⟩
      ·have hbf:¬ (b=true):=by simpa using hn
       exact congrArg (Value.int .i64) (valid4_no hl fun q=>hbf (hb.2 q)).symm
      ·have hbt:b=true:=by simpa using hn
       have q:=hb.1 hbt
       exact congrArg (Value.int .i64) (valid4_yes hl q.1.1.1 q.1.1.2 q.1.2 q.2).symm
theorem valid4_calls (x:CfgA) (c:Cfg) (w:World) (hc:CfgOk w (·<w.heap.size) x c):Calls Try.prog 75 #[.agg (cfgC x c)] w fun e w'=>e=.returned (.int .i64 (topoErr c))∧Below w.heap.size w w':=by
 have:=uni_calls ttAok v4Fok Try.func75 rfl (D:=v4D) (by kernel_rfl) (vs:=[cfgV CNu (ck x) c]) rfl { x:=x } { c:=c } w { c:=hc } (fun v hv=>by
  simp only[List.mem_cons,List.not_mem_nil,or_false] at hv
  subst hv
  exact upl_cfg_ok { x:=x } { c:=c }) (valid4_sx (ck x) c)
 rw[List.map_cons,upl_cfg { x:=x } { c:=c }] at this
 refine this.mono ?_
 rintro e w' ⟨v,mem',nx',ρ',rfl,rfl,hv,hm',hb⟩
 exact⟨rfl,hb⟩
def ctV4:CT:=fun vs mem nx K=>∃ N x c,vs=[cfgV N x c]∧HasCfg mem N c∧K (.int .i64 (topoErr c)) mem nx
theorem v4Ok:CSound Try.prog 75 ctV4:=⟨by kernel_rfl,fun {C ρ fr mem nx a w vs K} hc hs hv=>by
 obtain⟨N,x,c,rfl,hk,hK⟩:=hc
 rw[List.map_cons,den_cfg]
 refine (valid4_calls (cfgX ρ N x) c w (hs.cfgH hk)).mono ?_
 rintro e w' ⟨rfl,hb⟩
 exact⟨_,mem,nx,ρ,rfl,hK,hs.later hb,trivial,ExtS.refl _ _⟩⟩
/-! ref05.declared,ref05.Valid -/
def ttV:TT:=[(101,tiU)]++ttA
theorem ttVok:TTok Try.prog ttV:=by
 refine tt_mem _ _ ?_
 unfold ttV ttA tt
 repeat (refine tt_cons ⟨by kernel_rfl,by kernel_rfl,plains (by rfl),by kernel_rfl,by kernel_rfl,by kernel_rfl⟩ ?_)
 exact tt_nil
set_option maxRecDepth 100000 in
set_option maxHeartbeats 8000000 in
theorem declared_sx (x:CfgK) (c:Cfg) (t:Ten) (hr:1≤c.regions∧c.regions≤4) :
  sx ttV [] [] (bodyOf Try.f76) (argF 0 [cfgV CNu x c,.agg (tenC t).toArray]) (uniM { c:=c }) 13 (endx ttV Try.f76.results.toList fun v _ _=>v=.bool (tenOk c.regions t)):=by
 obtain⟨rg,zs,cs,ts,vs,rs,os,bl,le,ba⟩:=c
 dsimp only at hr ⊢
 obtain rfl | rfl | rfl | rfl:rg=1∨rg=2∨rg=3∨rg=4:=by omega
 ·have e1:IntKind.i64.wrap (1 * 2 ^ min (IntKind.u64.wrap 1).toNat IntKind.i64.bits)=2:=by decide
  repeat' (first | refine⟨fun _=>?_,fun h=>Bool.noConfusion h⟩ | refine⟨fun h=>Bool.noConfusion h,fun _=>?_⟩ | refine⟨fun _=>?_,fun _=>?_⟩ | refine⟨by rw[wrapu64];exact Int.emod_nonneg _ (by decide),?_⟩ | fail)
  all_goals (refine congrArg Value.bool ?_;unfold tenOk inR shl1;simp_all;try omega)
 ·have e1:IntKind.i64.wrap (1 * 2 ^ min (IntKind.u64.wrap 2).toNat IntKind.i64.bits)=4:=by decide
  repeat' (first | refine⟨fun _=>?_,fun h=>Bool.noConfusion h⟩ | refine⟨fun h=>Bool.noConfusion h,fun _=>?_⟩ | refine⟨fun _=>?_,fun _=>?_⟩ | refine⟨by rw[wrapu64];exact Int.emod_nonneg _ (by decide),?_⟩ | fail)
  all_goals (refine congrArg Value.bool ?_;unfold tenOk inR shl1;simp_all;try omega)
 ·have e1:IntKind.i64.wrap (1 * 2 ^ min (IntKind.u64.wrap 3).toNat IntKind.i64.bits)=8:=by decide
  repeat' (first | refine⟨fun _=>?_,fun h=>Bool.noConfusion h⟩ | refine⟨fun h=>Bool.noConfusion h,fun _=>?_⟩ | refine⟨fun _=>?_,fun _=>?_⟩ | refine⟨by rw[wrapu64];exact Int.emod_nonneg _ (by decide),?_⟩ | fail)
  all_goals (refine congrArg Value.bool ?_;unfold tenOk inR shl1;simp_all;try omega)
 ·have e1:IntKind.i64.wrap (1 * 2 ^ min (IntKind.u64.wrap 4).toNat IntKind.i64.bits)=16:=by decide
  repeat' (first | refine⟨fun _=>?_,fun h=>Bool.noConfusion h⟩ | refine⟨fun h=>Bool.noConfusion h,fun _=>?_⟩ | refine⟨fun _=>?_,fun _=>?_⟩ | refine⟨by rw[wrapu64];exact Int.emod_nonneg _ (by decide),?_⟩ | fail)
  all_goals (refine congrArg Value.bool ?_;unfold tenOk inR shl1;simp_all;try omega)
theorem declared_calls (x:CfgA) (c:Cfg) (t:Ten) (w:World) (hr:1≤c.regions∧c.regions≤4) (hc:CfgOk w (·<w.heap.size) x c):Calls Try.prog 76 #[.agg (cfgC x c),.agg (tenC t).toArray] w fun e w'=>e=.returned (.bool (tenOk c.regions t))∧Below w.heap.size w w':=by
 have:=uni_calls ttVok fti_nil Try.func76 rfl (D:=[]) (by kernel_rfl) (vs:=[cfgV CNu (ck x) c,.agg (tenC t).toArray]) rfl { x:=x } { c:=c } w { c:=hc } (fun v hv=>by
  simp only[List.mem_cons,List.not_mem_nil,or_false] at hv
  rcases hv with rfl | rfl
  ·exact upl_cfg_ok { x:=x } { c:=c }
  ·intro u hu
   simp[tenC] at hu
   rcases hu with rfl | rfl | rfl | rfl | rfl | rfl | rfl<;>trivial) (declared_sx (ck x) c t hr)
 have e0:den (upl { x:=x } { c:=c }) (.agg (tenC t).toArray)=.agg (tenC t).toArray:=by simp[den,den2,den1,tenC]
 rw[List.map_cons,upl_cfg { x:=x } { c:=c },List.map_cons,e0] at this
 refine this.mono ?_
 rintro e w' ⟨v,mem',nx',ρ',rfl,rfl,hv,hm',hb⟩
 exact⟨rfl,hb⟩
def ctDecl:CT:=fun vs mem nx K=>∃ N x c t,vs=[cfgV N x c,.agg (tenC t).toArray]∧HasCfg mem N c∧(1≤c.regions∧c.regions≤4)∧K (.bool (tenOk c.regions t)) mem nx
theorem declOk:CSound Try.prog 76 ctDecl:=⟨by kernel_rfl,fun {C ρ fr mem nx a w vs K} hc hs hv=>by
 obtain⟨N,x,c,t,rfl,hk,hr,hK⟩:=hc
 have e0:den ρ (.agg (tenC t).toArray)=.agg (tenC t).toArray:=by simp[den,den2,den1,tenC]
 rw[List.map_cons,den_cfg,List.map_cons,e0]
 refine (declared_calls (cfgX ρ N x) c t w hr (hs.cfgH hk)).mono ?_
 rintro e w' ⟨rfl,hb⟩
 exact⟨_,mem,nx,ρ,rfl,hK,hs.later hb,trivial,ExtS.refl _ _⟩⟩
def v5F:FT:=[(75,ctV4),(76,ctDecl)]
def v5D:List (Nat×DQ):=[(2000005,{ k:=0,L:=[0,1,2,3,4,5,6,7,8,9,10,11,12,13],sl:=[1] }),(7,{ k:=6,L:=[0,1,2,3,4,5,6,7,8,9,10,11,12,13],pre:=[(0,false),(1,false),(2,false),(3,false),(4,false),(5,false)] })]
theorem v5Fok:FTokI Try.prog v5F (inlOf v5D):=fti_cons (v4Ok.i _) (fti_cons (declOk.i _) fti_nil)
set_option maxRecDepth 100000 in
set_option maxHeartbeats 4000000 in
theorem valid5_sx (x:CfgK) (c:Cfg) (hL:Lens c) :
  sx ttA v5F v5D (bodyOf Try.f57) (argF 0 [cfgV CNu x c]) (uniM { c:=c }) 13 (endx ttA Try.f57.results.toList fun v _ _=>v=.int .i64 (cfgErr c)):=by
 have hmax:=hL.2.2.1
 unfold maxLen at hmax
 refine⟨CNu,x,c,rfl,HasCfg.keeps kp_,?_⟩
 refine⟨fun hne=>?_,fun heq=>?_⟩
 ·have hne2:topoErr c≠0:=by simpa using hne
  rw[show cfgErr c=topoErr c from if_pos hne2]
  rfl
 ·have heq2:topoErr c=0:=by simpa using heq
  have hreg:=reg_of heq2
  have hce:cfgErr c=if c.tenants.all (tenOk c.regions) then 0 else 1:=if_neg (by simpa using heq2)
  refine⟨Int,fun i=>[(4,.int .i64 i)],fun _=>[],fun i=>(0≤i∧i≤c.tenants.length)∧∀ k,k<i.toNat→tenOk c.regions (c.tenants.getD k default)=true,fun i=>((c.tenants.length:Int)-i).toNat,⟨0,⟨by omega,fun k hk=>absurd hk (by omega)⟩,kp_,kp_⟩,?_⟩
  rintro i ⟨hi,hall⟩
  refine⟨⟨rfl,rfl⟩,?_⟩
  refine⟨fun hlt=>?_,fun hge=>?_⟩
  ·have hlt2:i<(c.tenants.length:Int):=of_decide_eq_true hlt
   refine⟨⟨Nat.le_refl _,hi.1,hlt2⟩,?_⟩
   refine⟨CNu,x,c,(c.tenants.getD i.toNat default),rfl,HasCfg.keeps kp_,hreg,?_⟩
   refine⟨fun hb=>?_,fun hb=>?_⟩
   ·have hb2:tenOk c.regions (c.tenants.getD i.toNat default)=false:=by simpa using hb
    have hf:c.tenants.all (tenOk c.regions)=false:=by
     rw[List.all_eq_false]
     refine⟨(c.tenants.getD i.toNat default),?_,by rw[hb2];decide⟩
     rw[List.getD_eq_getElem?_getD,List.getElem?_eq_getElem (by omega)]
     exact List.getElem_mem _
    rw[hce,hf]
    rfl
   ·have hb2:tenOk c.regions (c.tenants.getD i.toNat default)=true:=by simpa using hb
    refine⟨_,?_,kp_,kp_⟩
    rw[wrapi (n:=i+1) (by omega)]
    dsimp only
    refine⟨⟨by omega,fun k hk=>?_⟩,by omega⟩
    by_cases hki:k<i.toNat
    ·exact hall k hki
    ·obtain rfl:k=i.toNat:=by omega
     exact hb2
  ·have hge2:¬ i<(c.tenants.length:Int):=of_decide_eq_false hge
   have ht:c.tenants.all (tenOk c.regions)=true:=by
    rw[List.all_eq_true]
    intro t ht
    obtain⟨k,hk,rfl⟩:=List.getElem_of_mem ht
    have:=hall k (by omega)
    rwa[List.getD_eq_getElem?_getD,List.getElem?_eq_getElem hk] at this
   rw[hce,ht]
   rfl
theorem valid5_calls (x:CfgA) (c:Cfg) (w:World) (hL:Lens c) (hc:CfgOk w (·<w.heap.size) x c):Calls Try.prog 57 #[.agg (cfgC x c)] w fun e w'=>e=.returned (.int .i64 (cfgErr c))∧Below w.heap.size w w':=by
 have:=uni_calls ttAok v5Fok Try.func57 rfl (D:=v5D) (by kernel_rfl) (vs:=[cfgV CNu (ck x) c]) rfl { x:=x } { c:=c } w { c:=hc } (fun v hv=>by
  simp only[List.mem_cons,List.not_mem_nil,or_false] at hv
  subst hv
  exact upl_cfg_ok { x:=x } { c:=c }) (valid5_sx (ck x) c hL)
 rw[List.map_cons,upl_cfg { x:=x } { c:=c }] at this
 refine this.mono ?_
 rintro e w' ⟨v,mem',nx',ρ',rfl,rfl,hv,hm',hb⟩
 exact⟨rfl,hb⟩
/-! ref15.Valid -/
def ctV5G:CT:=fun vs mem nx K=>∃ cv c,vs=[cv]∧CfgSrc mem cv c∧Lens c∧K (.int .i64 (cfgErr c)) mem nx
theorem v5GOk:CSound Try.prog 57 ctV5G:=⟨by kernel_rfl,fun {C ρ fr mem nx q w vs K} hc hs hv=>by
 obtain⟨cv,c,rfl,hk,hL,hK⟩:=hc
 obtain⟨x,ex,hx⟩:=hs.cfgSrc hk
 have e1:([cv].map (den ρ)).toArray=#[.agg (cfgC x c)]:=by rw[List.map_cons,ex];rfl
 rw[e1]
 refine (valid5_calls x c w hL hx).mono ?_
 rintro e w' ⟨rfl,hb⟩
 exact⟨_,mem,nx,ρ,rfl,hK,hs.later hb,trivial,ExtS.refl _ _⟩⟩
end Go.Proofs.Ytdjkeplekchfdaa
