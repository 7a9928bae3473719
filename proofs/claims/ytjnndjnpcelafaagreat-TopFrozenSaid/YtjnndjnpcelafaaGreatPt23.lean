import Derived.Test.YtjnndjnpcelafaaGreatPt22
namespace Go.Proofs.YtjnndjnpcelafaaGreat
set_option maxHeartbeats 16000000
set_option maxRecDepth 100000
open Go.RowKit
set_option linter.unusedSimpArgs false
set_option linter.unusedVariables false
/-! make.Config: what it answers -/
theorem zgx:∀ zs:List Int,zaJ zaw zs=zs.map (Value.int .i64)
 | []=>rfl
 | z::r=>by simp only[zaJ,List.flatMap_cons,List.map_cons];rw[show r.flatMap zaw=zaJ zaw r from rfl,zgx r];rfl
theorem zhP (A:Option Addr) (cap:Nat) (zs:List Int) (w:World) (hz:zs.length<=400) (hr:Rd w (·<w.heap.size) A (zs.map (Value.int .i64))):Calls Tryz.prog 7 #[.slice A zs.length cap] w (CfgPost w):=by
 rw[← zgx] at hr;let ρ:Nat->Pl:=fun _=>⟨A,1,zs.length,false,za4⟩
 have hm:MemAt { w0:=w,bor:=[],n0:=1,ρ0:=ρ,nt:=Tryz.f7.ntmps } ρ [(0,zb6 zs)] 1 w:=MemAt.rows trivial ⟨⟨Nat.zero_lt_one,rfl,zaL (enc:=zaw) (sz:=1) (fun _=>rfl) o_ zaS 0 rfl hr (fun b hb=>hb)⟩,trivial⟩
 have:=zbR zeb (cwFok.i _) mixed Tryz.func7 rfl (D:=cwD) k_ (vs:=[slc 0 zs.length cap]) rfl ⟨rfl,rfl⟩ rfl hm (fun v hv=>by
  simp only[List.mem_cons,List.not_mem_nil,or_false] at hv
  subst hv
  exact⟨Nat.zero_lt_one,rfl⟩) (zne cap zs hz)
 have e0:([slc 0 zs.length cap].map (den ρ)).toArray=#[.slice A zs.length cap]:=by simp[den,zaW,zal,zau,zaq,ρ]
 rw[e0] at this;refine this.mono ?_;rintro e w' ⟨v,mem',nx',ρ',rfl,⟨N,x,c,T,hM,rfl,⟨n1,n2,n4,n5,n6⟩,hT⟩,-,hm'⟩;have hb:Below w.heap.size w w':=⟨hm'.rest.os,hm'.rest.tape,hm'.rest.output,hm'.rest.size,fun b hlt=>hm'.rest.block b hlt (by simp)⟩;have eT:∃ A3 ct,zal ρ' T=.slice A3 c.tenants.length ct/\Rd w' (fun b=>w.heap.size<=b/\b<w'.heap.size) A3 (zaJ zd8 c.tenants):=by
  rcases hT with⟨rfl,h0⟩ | ⟨r,cp,rfl,n3⟩
  ·refine⟨none,0,by rw[h0];rfl,?_⟩;rw[h0];exact fun q=>absurd rfl q
  ·exact⟨(ρ' r).A,cp,by simp[zal,zau,zaq],hm'.newRd (enc:=zd8) (sz:=7) (fun _=>rfl) o_ n3⟩
 obtain⟨A3,ct,e3,n3⟩:=eT;refine⟨⟨(ρ' N.z).A,x.cz,(ρ' N.c).A,x.cc,A3,ct,(ρ' N.v).A,x.cv,(ρ' N.r).A,x.cr,(ρ' N.o).A,x.co⟩,c,?_,⟨hm'.newRd (enc:=zaw) (sz:=1) (fun _=>rfl) o_ n1,hm'.newRd (enc:=zaI) (sz:=2) (fun _=>rfl) o_ n2,n3,hm'.newRd (enc:=zaI) (sz:=2) (fun _=>rfl) o_ n4,hm'.newRd (enc:=zaw) (sz:=1) (fun _=>rfl) o_ n5,hm'.newRd (enc:=zaw) (sz:=1) (fun _=>rfl) o_ n6⟩,hM,hb⟩;have d:∀ v,zal ρ' (.int .i64 v)=.int .i64 v:=fun _=>rfl
 have d2:∀ r n c,zal ρ' (slc r n c)=.slice (ρ' r).A n c:=fun r n c=>by simp[zal,zau,zaq]
 congr 1
 simp only[den,zaW,zaH];simp[d,d2,e3]
section
variable {C:Ctx} {ρ:Nat->Pl} {fr:AF} {mem:AM} {nx:Nat} {a:Act} {w w':World}
def ze0 (ρ:Nat->Pl) (nx:Nat) (x:CfgA) (c:Cfg):Nat->Pl:=
 zac (zac (zac (zac (zac (zac ρ nx ⟨x.ao,1,c.observers.length,false,za4⟩) (nx+1) ⟨x.ar,1,c.replicas.length,false,za4⟩) (nx+2) ⟨x.av,2,c.versions.length,false,za4⟩) (nx+3) ⟨x.at_,7,c.tenants.length,false,za4⟩) (nx+4) ⟨x.ac,2,c.cells.length,false,za4⟩) (nx+5) ⟨x.az,1,c.zones.length,false,za4⟩
theorem Sat.addCfg (h0:Sat C ρ fr mem nx a w) (hb:Below w.heap.size w w') {x:CfgA} {c:Cfg} (hc:CfgOk w' (fun b=>w.heap.size<=b/\b<w'.heap.size) x c) :
  Sat C (ze0 ρ nx x c) fr (zcH ⟨nx+5,nx+4,nx+3,nx+2,nx+1,nx,500000⟩ c++mem) (nx+6) a w'/\den (ze0 ρ nx x c) (zaX ⟨nx+5,nx+4,nx+3,nx+2,nx+1,nx,500000⟩ ⟨x.cz,x.cc,x.ct,x.cv,x.cr,x.co⟩ c)=.agg (zaH x c)/\okV (ze0 ρ nx x c) (nx+6) (zaX ⟨nx+5,nx+4,nx+3,nx+2,nx+1,nx,500000⟩ ⟨x.cz,x.cc,x.ct,x.cv,x.cr,x.co⟩ c)/\ExtS ρ nx (ze0 ρ nx x c) (nx+6):=by
 obtain⟨h1,f1⟩:=(h0.later hb).addList h0.frB h0.rest.size (enc:=zaw) (sz:=1) (fun _=>rfl) o_ zaS 0 (t:=500000) rfl hc.observers;obtain⟨h2,f2⟩:=h1.addList f1 h0.rest.size (enc:=zaw) (sz:=1) (fun _=>rfl) o_ zaS 0 (t:=500000) rfl hc.replicas;obtain⟨h3,f3⟩:=h2.addList f2 h0.rest.size (enc:=zaI) (sz:=2) (fun _=>rfl) o_ zdb (0,0) (t:=500000) rfl hc.versions;obtain⟨h4,f4⟩:=h3.addList f3 h0.rest.size (enc:=zd8) (sz:=7) (fun _=>rfl) o_ zgn default (t:=500000) rfl hc.tenants;obtain⟨h5,f5⟩:=h4.addList f4 h0.rest.size (enc:=zaI) (sz:=2) (fun _=>rfl) o_ zdb (0,0) (t:=500000) rfl hc.cells;obtain⟨h6,-⟩:=h5.addList f5 h0.rest.size (enc:=zaw) (sz:=1) (fun _=>rfl) o_ zaS 0 (t:=500000) rfl hc.zones;have q5:ze0 ρ nx x c (nx+5)=⟨x.az,1,c.zones.length,false,za4⟩:=za2 _ _ _;have q4:ze0 ρ nx x c (nx+4)=⟨x.ac,2,c.cells.length,false,za4⟩:=by unfold ze0;rw[za8 _ _ o_,za2]
 have q3:ze0 ρ nx x c (nx+3)=⟨x.at_,7,c.tenants.length,false,za4⟩:=by unfold ze0;rw[za8 _ _ o_,za8 _ _ o_,za2]
 have q2:ze0 ρ nx x c (nx+2)=⟨x.av,2,c.versions.length,false,za4⟩:=by unfold ze0;rw[za8 _ _ o_,za8 _ _ o_,za8 _ _ o_,za2]
 have q1:ze0 ρ nx x c (nx+1)=⟨x.ar,1,c.replicas.length,false,za4⟩:=by unfold ze0;rw[za8 _ _ o_,za8 _ _ o_,za8 _ _ o_,za8 _ _ o_,za2]
 have q0:ze0 ρ nx x c nx=⟨x.ao,1,c.observers.length,false,za4⟩:=by unfold ze0;rw[za8 _ _ o_,za8 _ _ o_,za8 _ _ o_,za8 _ _ o_,za8 _ _ o_,za2]
 refine⟨h6,?_,?_,fun i hi=>?_,o_⟩
 ·rw[zaP];congr 2
  simp[zdp,q0,q1,q2,q3,q4,q5]
 ·intro u hu;simp at hu;rcases hu with rfl | rfl | rfl | rfl | rfl | rfl | rfl | rfl | rfl | rfl<;>first | trivial | exact⟨show nx+5<nx+6 by omega,by rw[q5]⟩ | exact⟨show nx+4<nx+6 by omega,by rw[q4]⟩ | exact⟨show nx+3<nx+6 by omega,by rw[q3]⟩ | exact⟨show nx+2<nx+6 by omega,by rw[q2]⟩ | exact⟨show nx+1<nx+6 by omega,by rw[q1]⟩ | exact⟨show nx<nx+6 by omega,by rw[q0]⟩
 ·unfold ze0;rw[za8 _ _ o_,za8 _ _ o_,za8 _ _ o_,za8 _ _ o_,za8 _ _ o_,za8 _ _ hi]
end
theorem zfY:∀ zs:List Int,zaJ zaw zs=zs.map (Value.int .i64)
 | []=>rfl
 | z::r=>by simp only[zaJ,List.flatMap_cons,List.map_cons];rw[show r.flatMap zaw=zaJ zaw r from rfl,zfY r];rfl
def ctConfig:CT:=fun vs mem nx K=>∃ i cap zs,vs=[slc i (zs:List Int).length cap]/\lk mem i=some (zb6 zs)/\zs.length<=400/\∀ x c,MadeCfg c->K (zaX ⟨nx+5,nx+4,nx+3,nx+2,nx+1,nx,500000⟩ x c) (zcH ⟨nx+5,nx+4,nx+3,nx+2,nx+1,nx,500000⟩ c++mem) (nx+6)
theorem configOk:CSound Tryz.prog 7 ctConfig:=⟨k_,fun {C ρ fr mem nx a w vs K} hc hs hv=>by
 obtain⟨i,cap,zs,rfl,hi,hz,hK⟩:=hc;have hr:Rd w (·<w.heap.size) (ρ i).A (zs.map (Value.int .i64)):=by
  rw[← zfY];exact hs.rd (enc:=zaw) (sz:=1) (fun _=>rfl) o_ hi (fun b h _=>h)
 have e:([slc i zs.length cap].map (den ρ)).toArray=#[.slice (ρ i).A zs.length cap]:=by simp[den,zaW,zal,zau,zaq]
 rw[e];refine (zhP (ρ i).A cap zs w hz hr).mono ?_;rintro e w' ⟨x,c,rfl,hok,hM,hb⟩;obtain⟨q1,q2,q3,q4⟩:=hs.addCfg hb hok
 exact⟨_,_,_,_,by rw[q2],hK _ c hM,q1,q3,q4⟩⟩
/-! state.Fold,by contract. -/
def fpl (x:CfgA) (c:Cfg) (A:Option Addr) (n:Nat):Nat->Pl:=fun j=>match j with
 | 0=>⟨x.az,1,c.zones.length,false,za4⟩
 | 1=>⟨x.ac,2,c.cells.length,false,za4⟩
 | 2=>⟨x.at_,7,c.tenants.length,false,za4⟩
 | 3=>⟨x.av,2,c.versions.length,false,za4⟩
 | 4=>⟨x.ar,1,c.replicas.length,false,za4⟩
 | 5=>⟨x.ao,1,c.observers.length,false,za4⟩
 | _=>⟨A,9,n,false,za4⟩
theorem zho (x:CfgA) (c:Cfg) (A:Option Addr) (cap:Nat) (es:List Ent) (w:World) (hV:CfgV c) (hl:es.length<=1000000) (hc:CfgOk w (·<w.heap.size) x c) (hr:Rd w (·<w.heap.size) A (zaJ zbe es)) :
  Calls Tryz.prog 133 #[.agg (zaH x c),.slice A es.length cap] w fun e w'=>∃ y,e=.returned (.tuple #[.agg (stC y (foldC c es).1),.int .i64 (foldC c es).2.1,.int .i64 (foldC c es).2.2])/\StOk w' (fun b=>w.heap.size<=b/\b<w'.heap.size) y (foldC c es).1/\Below w.heap.size w w':=by
 have hpc:CfgPl (fpl x c A es.length) CN1 x c:=⟨rfl,rfl,rfl,rfl,rfl,rfl⟩;have hm:MemAt { w0:=w,bor:=[],n0:=7,ρ0:=fpl x c A es.length,nt:=(Tryz.f133).ntmps } (fpl x c A es.length) (foM c es) 7 w:=MemAt.rows trivial (zcR hpc hc (fun b hb=>hb) d_ ⟨⟨d_,rfl,zaL (enc:=zbe) (sz:=9) (fun _=>rfl) o_ zf0 default rfl hr (fun b hb=>hb)⟩,trivial⟩);have hv0:#[Value.agg (zaH x c),.slice A es.length cap]=([zaX CN1 (ck x) c,slc 6 es.length cap].map (den (fpl x c A es.length))).toArray:=by
  rw[List.map_cons,zaP];rfl
 rw[hv0];refine (zcu zg6 foFok mixed Tryz.func133 rfl (D:=foD) k_ (vs:=[zaX CN1 (ck x) c,slc 6 es.length cap]) rfl ⟨rfl,rfl⟩ rfl hm (fun v hv=>?_) (fold_sx (ck x) c cap es hV hl)).mono ?_
 ·simp only[List.mem_cons,List.not_mem_nil,or_false] at hv;rcases hv with rfl | rfl
  ·intro u hu;simp at hu;rcases hu with rfl | rfl | rfl | rfl | rfl | rfl | rfl | rfl | rfl | rfl<;>first | trivial | exact⟨d_,rfl⟩
  ·exact⟨d_,rfl⟩
 ·rintro e w' ⟨v,mem',nx',ρ',rfl,⟨y,rfl,k1,k2,-⟩,hv,hm'⟩;refine⟨⟨(ρ' 12).A,y.ct,(ρ' 13).A,y.cc⟩,?_,⟨?_,?_⟩,⟨hm'.rest.os,hm'.rest.tape,hm'.rest.output,hm'.rest.size,fun b hlt=>hm'.rest.block b hlt (by simp)⟩⟩
  ·simp[den,zaW,zal,zau,zaq,stC]
  ·exact (hm'.blk 12 _ k1).fresh (enc:=tsC) default rfl rfl (fun k hk=>rfl) (fun _=>rfl) o_
  ·exact (hm'.blk 13 _ k2).fresh (enc:=csC) default rfl rfl (fun k hk=>rfl) (fun _=>rfl) o_
end Go.Proofs.YtjnndjnpcelafaaGreat
