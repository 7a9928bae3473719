import Derived.Test.YtchhdflealgkaaaGreatPp06
namespace Go.Proofs.YtchhdflealgkaaaGreat
open Go.RowKit
set_option linter.unusedSimpArgs false
set_option linter.unusedVariables false
section
variable {C:Ctx} {ρ:Nat→Pl} {fr:AF} {mem:AM} {nx:Nat} {a:Act} {w w':World}
def FrB (C:Ctx) (ρ:Nat→Pl) (mem:AM) (B:Nat):Prop:=∀ i b,lk (mem++C.fm) i=some b→∀ g,bwr ρ i b g→g<B
theorem Sat.frB (h:Sat C ρ fr mem nx a w):FrB C ρ mem w.heap.size:=fun i b hi g hg=>(h.blk i b hi).brd_lt (bwr_brd hg)
theorem Sat.addN (h:Sat C ρ fr mem nx a w) {b:ABlk} {p:Pl} (hp:p.res=false) (hok:BlkOk C (setPl ρ nx p) (nx+1) nx w b) (h1:∀ g,bwr (setPl ρ nx p) nx b g→∀ j b',lk (mem++C.fm) j=some b'→¬ brd ρ j b' g) (h2:∀ g,brd (setPl ρ nx p) nx b g→∀ j b',lk (mem++C.fm) j=some b'→¬ bwr ρ j b' g) :
  Sat C (setPl ρ nx p) fr ((nx,b)::mem) (nx+1) a w:=by
 have hr:∀ j,j<nx→setPl ρ nx p j=ρ j:=fun j hj=>setPl_lt ρ p hj
 have h0:=h.ren (ρ':=setPl ρ nx p) (m:=nx+1) (fun j hj _=>hr j hj) (Nat.le_succ _) (fun j hj=>hr j (Nat.lt_of_lt_of_le hj h.n0))
 have key:∀ j b',lk (mem++C.fm) j=some b'→Apart (setPl ρ nx p) nx j b b'∧Apart (setPl ρ nx p) j nx b' b:=by
  intro j b' hj
  have hjl:=hr j (h.mlt j b' hj).1
  exact⟨hok.apart fun g hg hg2=>h1 g hg j b' hj (by rw[← brd_ren hjl];exact hg2),(h0.blk j b' hj).apart fun g hg hg2=>h2 g hg2 j b' hj (by rw[← bwr_ren hjl];exact hg)⟩
 refine⟨h0.fok,h0.sz,h0.dfr,fun i b' hi=>?_,fun i b' hi=>?_,fun i j b1 b2 hne hi hj=>?_,h0.n0,h0.low,h0.rest⟩
 ·rcases lk_cons hi with⟨rfl,rfl⟩ | ⟨hne,hi⟩
  ·exact⟨Nat.lt_succ_self _,by rw[setPl_same];exact hp⟩
  ·exact h0.mlt i b' hi
 ·rcases lk_cons hi with⟨rfl,rfl⟩ | ⟨hne,hi⟩
  ·exact hok
  ·exact h0.blk i b' hi
 ·rcases lk_cons hi with⟨rfl,rfl⟩ | ⟨hni,hi⟩
  ·rcases lk_cons hj with⟨rfl,rfl⟩ | ⟨hnj,hj⟩
   ·exact absurd rfl hne
   ·exact (key j b2 hj).1
  ·rcases lk_cons hj with⟨rfl,rfl⟩ | ⟨hnj,hj⟩
   ·exact (key i b1 hi).2
   ·exact h0.sep i j b1 b2 hne hi hj
theorem Sat.addPlainX (h:Sat C ρ fr mem nx a w) {b:ABlk} {p:Pl} {B:Nat} (hF:FrB C ρ mem B) (ho:∀ g,¬ bwr (setPl ρ nx p) nx b g) (hp:p.res=false) (hok:BlkOk C (setPl ρ nx p) (nx+1) nx w b) (hnew:∀ g,brd (setPl ρ nx p) nx b g→B≤g) :
  Sat C (setPl ρ nx p) fr ((nx,b)::mem) (nx+1) a w∧FrB C (setPl ρ nx p) ((nx,b)::mem) B:=by
 refine⟨h.addN hp hok (fun g hg=>absurd hg (ho g)) (fun g hg j b' hj hw=>by have:=hF j b' hj g hw;have:=hnew g hg;omega),fun i b' hi g hg=>?_⟩
 rcases lk_cons (l:=mem++C.fm) hi with⟨rfl,rfl⟩ | ⟨hne,hi⟩
 ·exact absurd hg (ho g)
 ·rw[bwr_ren (setPl_lt ρ p (h.mlt i b' hi).1)] at hg
  exact hF i b' hi g hg
theorem Sat.addPlain (h:Sat C ρ fr mem nx a w) {t:TypeId} {sz n:Nat} {el:Nat→List Value} {p:Pl} {B:Nat} (hF:FrB C ρ mem B) (ho:ownT t=false) (hp:p.res=false) (hok:BlkOk C (setPl ρ nx p) (nx+1) nx w (.row t sz n el)) (hnew:n=0∨∀ g,p.A.map (·.block)=some g→B≤g) :
  Sat C (setPl ρ nx p) fr ((nx,.row t sz n el)::mem) (nx+1) a w∧FrB C (setPl ρ nx p) ((nx,.row t sz n el)::mem) B:=
 h.addPlainX hF (fun g hg=>by have q:=hg.1;rw[ho] at q;cases q) hp hok fun g hg=>(hnew.resolve_left hg.1) g (by have:=hg.2;unfold bno at this;rwa[setPl_same] at this)
theorem Sat.addList (h:Sat C ρ fr mem nx a w) {B:Nat} (hF:FrB C ρ mem B) (hB:C.w0.heap.size≤B) {α:Type} {enc:α→List Value} {sz:Nat} (hs:∀ x,(enc x).length=sz) (hpos:0<sz) (hpl:∀ x,∀ v ∈ enc x,plain1 v) {l:List α} (d:α) {t:TypeId} (ho:ownT t=false) {A:Option Addr} (hr:Rd w (fun b=>B≤b∧b<w.heap.size) A (flat enc l)) :
  Sat C (setPl ρ nx ⟨A,sz,l.length,false,noSub⟩) fr ((nx,rowOfL t sz enc d l)::mem) (nx+1) a w∧FrB C (setPl ρ nx ⟨A,sz,l.length,false,noSub⟩) ((nx,rowOfL t sz enc d l)::mem) B:=by
 refine h.addPlain hF ho rfl (row_of_rd hs hpos hpl d (setPl_same _ _ _) hr (fun b hb=>hb.2) ho (fun _ b hb=>Nat.le_trans hB hb.1)) ?_
 by_cases h0:l.length=0
 ·exact .inl h0
 ·obtain⟨b,off,x,hA,hb,-,-⟩:=hr.row hs hpos (k:=0) (by omega)
  refine .inr fun g hg=>?_
  simp[hA] at hg
  subst hg
  exact hb.1
def stPl (ρ:Nat→Pl) (nx:Nat) (y:StA) (s:St):Nat→Pl:=setPl (setPl ρ nx ⟨y.ac,4,s.cells.length,false,noSub⟩) (nx+1) ⟨y.at_,12,s.tenants.length,false,noSub⟩
theorem Sat.addSt (h0:Sat C ρ fr mem nx a w) (hb:Below w.heap.size w w') {y:StA} {s:St} (hs:StOk w' (fun b=>w.heap.size≤b∧b<w'.heap.size) y s) :
  Sat C (stPl ρ nx y s) fr (stM ⟨nx+1,nx,500000⟩ s++mem) (nx+2) a w'∧den (stPl ρ nx y s) (stV ⟨nx+1,nx,500000⟩ ⟨y.ct,y.cc⟩ s)=.agg (stC y s)∧okV (stPl ρ nx y s) (nx+2) (stV ⟨nx+1,nx,500000⟩ ⟨y.ct,y.cc⟩ s)∧ExtS ρ nx (stPl ρ nx y s) (nx+2):=by
 obtain⟨h1,f1⟩:=(h0.later hb).addList h0.frB h0.rest.size (enc:=csC) (sz:=4) (fun _=>rfl) (by omega) csC_plain default (t:=500000) rfl hs.cells
 obtain⟨h2,-⟩:=h1.addList f1 h0.rest.size (enc:=tsC) (sz:=12) (fun _=>rfl) (by omega) tsC_plain default (t:=500000) rfl hs.tenants
 have q1:stPl ρ nx y s nx=⟨y.ac,4,s.cells.length,false,noSub⟩:=by
  unfold stPl
  rw[setPl_lt _ _ (Nat.lt_succ_self _),setPl_same]
 have q2:stPl ρ nx y s (nx+1)=⟨y.at_,12,s.tenants.length,false,noSub⟩:=setPl_same _ _ _
 refine⟨h2,?_,?_,fun i hi=>?_,by omega⟩
 ·rw[den_st]
  congr 2
  simp[stX,q1,q2]
 ·intro u hu
  simp at hu
  rcases hu with rfl | rfl | rfl | rfl | rfl | rfl | rfl | rfl<;>first | trivial | exact⟨show nx+1<nx+2 by omega,by rw[q2]⟩ | exact⟨show nx<nx+2 by omega,by rw[q1]⟩
 ·unfold stPl
  rw[setPl_lt _ _ (by omega),setPl_lt _ _ hi]
end
theorem BlkOk.fresh {C:Ctx} {ρ:Nat→Pl} {nx i:Nat} {w:World} {t:TypeId} {sz n:Nat} {el:Nat→List Value} {α:Type} {enc:α→List Value} {l:List α} (d:α) (h:BlkOk C ρ nx i w (.row t sz n el)) (ho:frT t=true) (hl:l.length=n) (he:∀ k,k<n→el k=enc (l.getD k d)) (hs:∀ x,(enc x).length=sz) (hpos:0<sz) :
  Rd w (fun b=>C.w0.heap.size≤b∧b<w.heap.size) (ρ i).A (flat enc l):=by
 subst hl
 obtain⟨h1,h2,h3⟩:=h
 have hb:BlkOk C ρ nx i w (.row t sz l.length (fun k=>enc (l.getD k d))):=by
  refine⟨h1,fun k hk=>by have:=h2 k hk;rw[he k hk] at this;exact this,h3.imp id ?_⟩
  rintro⟨b,off,hA,hat,hc⟩
  exact⟨b,off,hA,hat,fun k hk j v hv=>hc k hk j v (by rw[he k hk];exact hv)⟩
 refine rd_of_row hs hpos hb fun hne b off hA hlt=>?_
 rcases h3 with h0 | ⟨b2,off2,hA2,hat,-⟩
 ·exact absurd h0 hne
 ·rw[hA] at hA2
  cases hA2
  exact⟨hat.new ho,hlt⟩
def cpl (x:CfgA) (c:Cfg):Nat→Pl:=fun j=>match j with
 | 0=>⟨x.az,1,c.zones.length,false,noSub⟩
 | 1=>⟨x.ac,2,c.cells.length,false,noSub⟩
 | 2=>⟨x.at_,7,c.tenants.length,false,noSub⟩
 | 3=>⟨x.av,2,c.versions.length,false,noSub⟩
 | 4=>⟨x.ar,1,c.replicas.length,false,noSub⟩
 | _=>⟨x.ao,1,c.observers.length,false,noSub⟩
theorem getD_rep {α:Type} {n k:Nat} {a d:α} (h:k<n):(List.replicate n a).getD k d=a:=by
 rw[List.getD_eq_getElem?_getD,List.getElem?_replicate,if_pos h];rfl
def tiUint:TI:={ size:=1,agg:=false,zero:=[.int .u64 0],ik:=some .u64 }
def ttU:TT:=(101,tiUint)::tt
theorem ttUok:TTok Tryz.prog ttU:=by
 refine tt_mem _ _ ?_
 unfold ttU tt
 repeat (refine tt_cons ⟨by kernel_rfl,by kernel_rfl,plains (by rfl),by kernel_rfl,by kernel_rfl,by kernel_rfl⟩ ?_)
 exact tt_nil
/-! The functions that are walked where they are called. -/
def HasRow {α:Type} (mem:AM) (r sz:Nat) (enc:α→List Value) (d:α) (l:List α):Prop:=∃ t n el,lk mem r=some (.row t sz n el)∧l.length≤n∧∀ k,k<l.length→el k=enc (l.getD k d)
theorem BlkOk.rdOf {C:Ctx} {ρ:Nat→Pl} {nx i:Nat} {w:World} {t:TypeId} {sz n:Nat} {el:Nat→List Value} {α:Type} {enc:α→List Value} {l:List α} {d:α} (h:BlkOk C ρ nx i w (.row t sz n el)) (hl:l.length≤n) (he:∀ k,k<l.length→el k=enc (l.getD k d)) (hs:∀ x,(enc x).length=sz) (hpos:0<sz) {S:Nat→Prop} (hS:l.length≠0→∀ b off,(ρ i).A=some ⟨b,off,none⟩→RowA C.w0.heap.size w t b off→S b):Rd w S (ρ i).A (flat enc l):=by
 obtain⟨-,-,h3⟩:=h
 intro hne
 have hl0:l.length≠0:=by
  intro h0
  rw[List.eq_nil_of_length_eq_zero h0] at hne
  exact hne rfl
 rcases h3 with h0 | ⟨b,off,hA,hlt,hc⟩
 ·omega
 ·refine⟨b,off,hA,hS hl0 b off hA hlt,fun j v hv=>?_⟩
  obtain⟨x,h1,h2⟩:=flat_at hs hpos l j v hv
  have hk:j / sz<l.length:=(List.getElem?_eq_some_iff.1 h1).1
  have hx:l.getD (j / sz) d=x:=by rw[List.getD_eq_getElem?_getD,h1];rfl
  have:=hc (j / sz) (by omega) (j % sz) v (by rw[he _ hk,hx];exact h2)
  rw[← this]
  congr 2
  have:=Nat.div_add_mod j sz
  rw[Nat.mul_comm] at this
  omega
theorem Sat.hasRd {C:Ctx} {ρ:Nat→Pl} {fr:AF} {mem:AM} {nx:Nat} {a:Act} {w:World} (h:Sat C ρ fr mem nx a w) {α:Type} {enc:α→List Value} {sz:Nat} (hsz:∀ x,(enc x).length=sz) (hpos:0<sz) {l:List α} {d:α} {i:Nat} (hi:HasRow mem i sz enc d l):Rd w (·<w.heap.size) (ρ i).A (flat enc l):=by
 obtain⟨t,n,el,h1,h2,h3⟩:=hi
 exact (h.blk i _ (lk_app h1)).rdOf h2 h3 hsz hpos fun _ b off _ hr=>hr.lt
def NewRow {α:Type} (mem:AM) (r sz:Nat) (enc:α→List Value) (d:α) (l:List α):Prop:=∃ t n el,lk mem r=some (.row t sz n el)∧frT t=true∧l.length≤n∧∀ k,k<l.length→el k=enc (l.getD k d)
theorem MemAt.newRd {C:Ctx} {ρ:Nat→Pl} {mem:AM} {nx:Nat} {w:World} (h:MemAt C ρ mem nx w) {α:Type} {enc:α→List Value} {sz:Nat} (hsz:∀ x,(enc x).length=sz) (hpos:0<sz) {l:List α} {d:α} {i:Nat} (hi:NewRow mem i sz enc d l):Rd w (fun b=>C.w0.heap.size≤b∧b<w.heap.size) (ρ i).A (flat enc l):=by
 obtain⟨t,n,el,h1,h0,h2,h3⟩:=hi
 exact (h.blk i _ h1).rdOf h2 h3 hsz hpos fun _ b off _ hr=>⟨hr.new h0,hr.lt⟩
def SlR {α:Type} (mem:AM) (sz:Nat) (enc:α→List Value) (d:α) (l:List α) (v:Value):Prop:=
 (v=zs0∧l=[])∨∃ r cap t n el,v=slc r l.length cap∧lk mem r=some (.row t sz n el)∧frT t=true∧l.length≤n∧∀ k,k<l.length→el k=enc (l.getD k d)
theorem MemAt.slR {C:Ctx} {ρ:Nat→Pl} {mem:AM} {nx:Nat} {w:World} (h:MemAt C ρ mem nx w) {α:Type} {enc:α→List Value} {sz:Nat} (hsz:∀ x,(enc x).length=sz) (hpos:0<sz) {l:List α} {d:α} {v:Value} (hi:SlR mem sz enc d l v) :
  ∃ A c,den1 ρ v=.slice A l.length c∧Rd w (fun b=>C.w0.heap.size≤b∧b<w.heap.size) A (flat enc l):=by
 rcases hi with⟨rfl,rfl⟩ | ⟨r,cap,t,n,el,rfl,h1,h0,h2,h3⟩
 ·exact⟨none,0,rfl,fun h=>absurd rfl h⟩
 ·exact⟨_,cap,rfl,BlkOk.rdOf (h.blk r _ h1) h2 h3 hsz hpos fun _ b off _ hr=>⟨hr.new h0,hr.lt⟩⟩
theorem HasRow.list {α:Type} {mem:AM} {r sz:Nat} {enc:α→List Value} {d:α} {l:List α} {t:TypeId} (h:lk mem r=some (rowOfL t sz enc d l)):HasRow mem r sz enc d l:=⟨_,_,_,h,Nat.le_refl _,fun k hk=>rfl⟩
/-! Functions that read a configuration and states and give a value. -/
abbrev SN1:SN:=⟨6,7,3⟩
abbrev SN2:SN:=⟨8,9,3⟩
def rpl (x:CfgA) (c:Cfg) (y:StA) (s:St) (y2:StA) (s2:St):Nat→Pl:=fun j=>match j with
 | 0=>⟨x.az,1,c.zones.length,false,noSub⟩
 | 1=>⟨x.ac,2,c.cells.length,false,noSub⟩
 | 2=>⟨x.at_,7,c.tenants.length,false,noSub⟩
 | 3=>⟨x.av,2,c.versions.length,false,noSub⟩
 | 4=>⟨x.ar,1,c.replicas.length,false,noSub⟩
 | 5=>⟨x.ao,1,c.observers.length,false,noSub⟩
 | 6=>⟨y.at_,12,s.tenants.length,false,noSub⟩
 | 7=>⟨y.ac,4,s.cells.length,false,noSub⟩
 | 8=>⟨y2.at_,12,s2.tenants.length,false,noSub⟩
 | _=>⟨y2.ac,4,s2.cells.length,false,noSub⟩
abbrev rdM (c:Cfg) (s s2:St):AM:=cfgM CN1 c++(stM SN1 s++stM SN2 s2)
abbrev ck (x:CfgA):CfgK:=⟨x.cz,x.cc,x.ct,x.cv,x.cr,x.co⟩
abbrev sk (y:StA):StK:=⟨y.ct,y.cc⟩
theorem rpl_cfg (x:CfgA) (c:Cfg) (y:StA) (s:St) (y2:StA) (s2:St):den (rpl x c y s y2 s2) (cfgV CN1 (ck x) c)=.agg (cfgC x c):=by rw[den_cfg];rfl
theorem rpl_st (x:CfgA) (c:Cfg) (y:StA) (s:St) (y2:StA) (s2:St):den (rpl x c y s y2 s2) (stV SN1 (sk y) s)=.agg (stC y s):=by rw[den_st];rfl
theorem rpl_cfg_ok (x:CfgA) (c:Cfg) (y:StA) (s:St) (y2:StA) (s2:St):okV (rpl x c y s y2 s2) 10 (cfgV CN1 (ck x) c):=by
 intro u hu
 simp at hu
 rcases hu with rfl | rfl | rfl | rfl | rfl | rfl | rfl | rfl | rfl | rfl<;>first | trivial | exact⟨by decide,rfl⟩
theorem rpl_st_ok (x:CfgA) (c:Cfg) (y:StA) (s:St) (y2:StA) (s2:St):okV (rpl x c y s y2 s2) 10 (stV SN1 (sk y) s):=by
 intro u hu
 simp at hu
 rcases hu with rfl | rfl | rfl | rfl | rfl | rfl | rfl | rfl<;>first | trivial | exact⟨by decide,rfl⟩
theorem rd_calls {f:FuncId} {fn:Func} {F:FT} {D:List (Nat×DQ)} (hF:FTok Tryz.prog F) (hf:(Tryz.prog).funcs[f]?=some fn) (hb:fn.body=some (bodyOf fn)) (hcode:codeB fn.ntmps D (bodyOf fn)=true) {vs:List Value} (hn:Nat.ble vs.length fn.ntmps=true)
  (x:CfgA) (c:Cfg) (y:StA) (s:St) (y2:StA) (s2:St) (w:World) (hc:CfgOk w (·<w.heap.size) x c) (hs:StOk w (·<w.heap.size) y s) (hs2:StOk w (·<w.heap.size) y2 s2) (hv:∀ v ∈ vs,okV (rpl x c y s y2 s2) 10 v) {R:Value→Prop}
  (h:sx tt F D (bodyOf fn) (argF 0 vs) (rdM c s s2) 10 (endx tt fn.results.toList fun v _ _=>R v∧pureV v)) :
  Calls Tryz.prog f (vs.map (den (rpl x c y s y2 s2))).toArray w fun e w'=>∃ v,R v∧pureV v∧e=.returned v∧Below w.heap.size w w':=by
 have hpc:CfgPl (rpl x c y s y2 s2) CN1 x c:=⟨rfl,rfl,rfl,rfl,rfl,rfl⟩
 have hps:StPl (rpl x c y s y2 s2) SN1 y s:=⟨rfl,rfl⟩
 have hps2:StPl (rpl x c y s y2 s2) SN2 y2 s2:=⟨rfl,rfl⟩
 have hm:MemAt { w0:=w,bor:=[],n0:=10,ρ0:=rpl x c y s y2 s2,nt:=fn.ntmps } (rpl x c y s y2 s2) (rdM c s s2) 10 w:=MemAt.rows trivial (cfg_blks hpc hc (fun b hb=>hb) (by decide) (st_blks hps hs (fun b hb=>hb) (by decide) (by
  have:=st_blks (C:={ w0:=w,bor:=[],n0:=10,ρ0:=rpl x c y s y2 s2,nt:=fn.ntmps }) (nx:=10) (r:=[]) hps2 hs2 (fun b hb=>hb) (by decide) trivial
  exact this)))
 refine (calls_sx ttOk hF mixed hf hb hcode (vs:=vs) hn ⟨rfl,rfl⟩ rfl hm hv h).mono ?_
 rintro e w' ⟨v,mem',nx',ρ',rfl,⟨hR,hp⟩,-,hm'⟩
 exact⟨v,hR,hp,by rw[(pure_den hp ρ' 0).1],⟨hm'.rest.os,hm'.rest.tape,hm'.rest.output,hm'.rest.size,fun b hlt=>hm'.rest.block b hlt (by simp)⟩⟩
/-! What such a function is handed,in the abstract and in the world. -/
inductive DT where
 | li (d:List Int)
 | cf (d:Cfg)
 | st (d:St)
 | vl (u:Value)
inductive PA where
 | li (i cap:Nat) (d:List Int)
 | cf (N:CN) (x:CfgK) (d:Cfg)
 | st (M:SN) (y:StK) (d:St)
 | vl (u:Value)
inductive PW where
 | li (A:Option Addr) (cap:Nat) (d:List Int)
 | cf (x:CfgA) (d:Cfg)
 | st (y:StA) (d:St)
 | vl (u:Value)
def PA.val:PA→Value
 | .li i cap l=>slc i l.length cap
 | .cf N x c=>cfgV N x c
 | .st M y s=>stV M y s
 | .vl u=>u
def PA.dt:PA→DT
 | .li _ _ l=>.li l
 | .cf _ _ c=>.cf c
 | .st _ _ s=>.st s
 | .vl u=>.vl u
def PA.keep (mem:AM):PA→Prop
 | .li i _ l=>lk mem i=some (intRow l)
 | .cf N _ c=>keeps mem (cfgM N c)
 | .st M _ s=>keeps mem (stM M s)
 | .vl u=>pureV u
def PW.val:PW→Value
 | .li A cap l=>.slice A l.length cap
 | .cf x c=>.agg (cfgC x c)
 | .st y s=>.agg (stC y s)
 | .vl u=>u
def PW.dt:PW→DT
 | .li _ _ l=>.li l
 | .cf _ c=>.cf c
 | .st _ s=>.st s
 | .vl u=>.vl u
def PW.ok (w:World):PW→Prop
 | .li A _ l=>Rd w (·<w.heap.size) A (flat intC l)
 | .cf x c=>CfgOk w (·<w.heap.size) x c
 | .st y s=>StOk w (·<w.heap.size) y s
 | .vl u=>pureV u
def PA.to (ρ:Nat→Pl):PA→PW
 | .li i cap l=>.li (ρ i).A cap l
 | .cf N x c=>.cf (cfgX ρ N x) c
 | .st M y s=>.st (stX ρ M y) s
 | .vl u=>.vl u
def allK (mem:AM) (l:List PA):Prop:=List.rec (motive:=fun _=>Prop) True (fun a _ ih=>a.keep mem∧ih) l
theorem allK_mem {mem:AM}:∀ {l:List PA},allK mem l→∀ a ∈ l,a.keep mem
 | [],_,a,ha=>by cases ha
 | b::r,h,a,ha=>(List.mem_cons.1 ha).elim (fun e=>e ▸ h.1) (allK_mem (l:=r) h.2 a)
def ctPts (R:List DT→Value→Prop) (pre:List DT→Prop):CT:=fun vs mem nx K=>∃ l:List PA,vs=l.map PA.val∧allK mem l∧pre (l.map PA.dt)∧∀ z,R (l.map PA.dt) z→K z mem nx
theorem ptsOk {f : FuncId} {R : List DT → Value → Prop} {pre : List DT → Prop} (ent : ((Tryz.prog).funcs[f]?).map (fun fn => (fn.name == "runtime.NumGoroutine", fn.body.isNone)) = some (false, false))
  (h:∀ (ps:List PW) (w:World),pre (ps.map PW.dt)→(∀ p ∈ ps,p.ok w)→Calls Tryz.prog f (ps.map PW.val).toArray w fun e w'=>∃ v,R (ps.map PW.dt) v∧pureV v∧e=.returned v∧Below w.heap.size w w'):CSound Tryz.prog f (ctPts R pre):=
 ⟨ent,fun {C ρ fr mem nx a w vs K} hc hs hv=>by
  obtain⟨l,rfl,hk,hp,hK⟩:=hc
  have hk':=allK_mem hk
  have e1:(l.map PA.val).map (den ρ)=(l.map (PA.to ρ)).map PW.val:=by
   rw[List.map_map,List.map_map]
   refine List.map_congr_left fun p hp=>?_
   cases p with
   | li i cap l=>rfl
   | cf N x c=>exact den_cfg ρ N x c
   | st M y s=>exact den_st ρ M y s
   | vl u=>exact (pure_den (hk' _ hp) ρ 0).1
  have e2:(l.map (PA.to ρ)).map PW.dt=l.map PA.dt:=by
   rw[List.map_map]
   refine List.map_congr_left fun p hp=>?_
   cases p<;>rfl
  rw[e1]
  refine (h (l.map (PA.to ρ)) w (by rw[e2];exact hp) (fun p hp=>?_)).mono ?_
  ·obtain⟨q,hq,rfl⟩:=List.mem_map.1 hp
   cases q with
   | li i cap l=>exact hs.rd (enc:=intC) (sz:=1) (fun _=>rfl) (by omega) (show lk mem i=some (intRow l) from hk' _ hq) (fun b h _=>h)
   | cf N x c=>exact hs.cfg (hk' _ hq) (fun b h _=>h)
   | st M y s=>exact hs.st (hk' _ hq) (fun b h _=>h)
   | vl u=>exact hk' _ hq
  ·rintro e w' ⟨v,hR,hpl,rfl,hb⟩
   rw[e2] at hR
   exact⟨v,mem,nx,ρ,by rw[(pure_den hpl ρ 0).1],hK v hR,hs.later hb,(pure_den hpl ρ nx).2,ExtS.refl _ _⟩⟩
theorem dt_nil {ps:List PW} (h:ps.map PW.dt=[]):ps=[]:=List.map_eq_nil_iff.1 h
theorem dt_l {ps:List PW} {l:List Int} {r:List DT} (h:ps.map PW.dt=.li l::r):∃ A cap qs,ps=.li A cap l::qs∧qs.map PW.dt=r:=by
 cases ps with
 | nil=>cases h
 | cons p qs=>cases p<;>simp[PW.dt] at h<;>obtain⟨rfl,h⟩:=h;exact⟨_,_,qs,rfl,h⟩
theorem dt_c {ps:List PW} {c:Cfg} {r:List DT} (h:ps.map PW.dt=.cf c::r):∃ x qs,ps=.cf x c::qs∧qs.map PW.dt=r:=by
 cases ps with
 | nil=>cases h
 | cons p qs=>cases p<;>simp[PW.dt] at h<;>obtain⟨rfl,h⟩:=h;exact⟨_,qs,rfl,h⟩
theorem dt_s {ps:List PW} {s:St} {r:List DT} (h:ps.map PW.dt=.st s::r):∃ y qs,ps=.st y s::qs∧qs.map PW.dt=r:=by
 cases ps with
 | nil=>cases h
 | cons p qs=>cases p<;>simp[PW.dt] at h<;>obtain⟨rfl,h⟩:=h;exact⟨_,qs,rfl,h⟩
theorem dt_v {ps:List PW} {u:Value} {r:List DT} (h:ps.map PW.dt=.vl u::r):∃ qs,ps=.vl u::qs∧qs.map PW.dt=r:=by
 cases ps with
 | nil=>cases h
 | cons p qs=>cases p<;>simp[PW.dt] at h<;>obtain⟨rfl,h⟩:=h;exact⟨qs,rfl,h⟩
def noA:StA:=⟨none,0,none,0⟩
def noS:St:={ tick:=0,count:=0,tenants:=[],cells:=[],proven:=0,evac:=0,low:=0,high:=0 }
theorem noS_ok (w:World) (S:Nat→Prop):StOk w S noA noS:=⟨fun h=>absurd rfl h,fun h=>absurd rfl h⟩
/-! Functions that are handed lists of numbers. -/
/-! make.Config -/
theorem shl1_bd (r:Int):2≤shl1 r∧shl1 r≤16:=by unfold shl1;repeat' split<;>omega
theorem versOk_snoc {l:List (Int×Int)} {lo hi:Int} (h:versOk l=true) (h1:1≤l.length) (a:0≤lo) (b:lo≤hi) (d:hi≤30):versOk (l++[(lo,hi)])=true:=by
 unfold versOk at *
 rw[List.all_eq_true] at *
 intro i hi'
 rw[List.mem_range,List.length_append] at hi'
 simp at hi'
 by_cases hlt:i<l.length
 ·have:=h i (List.mem_range.2 hlt)
  rw[List.getElem?_append_left hlt]
  exact this
 ·obtain rfl:i=l.length:=by omega
  have hne:l≠[]:=by rintro rfl;simp at h1
  simp[verOk,hne]
  omega
structure MadeCfg (c:Cfg):Prop where
 valid:cfgErr c=0
 regions:1≤c.regions∧c.regions≤3
 zones:1≤c.zones.length∧c.zones.length≤6
 cells:1≤c.cells.length∧c.cells.length≤7
 tenants:c.tenants.length≤5
 versions:1≤c.versions.length∧c.versions.length≤3
 replicas:c.replicas.length=1∨c.replicas.length=3
 observers:1≤c.observers.length∧c.observers.length≤4
 blast:1≤c.blast∧c.blast≤3
 lease:2≤c.lease∧c.lease≤12
 bake:0≤c.bake∧c.bake≤8
 caps:c.cells.all (fun y=>inR y.1 0 (c.zones.length-1)&&inR y.2 1 40)=true
theorem madeCfg_of (r bl le ba:Int) (zl:List Int) (cl:List (Int×Int)) (tl:List Ten) (vl:List (Int×Int)) (rl ol:List Int) (h1:1≤r∧r≤3) (h2:1≤zl.length∧zl.length≤6) (h3:1≤cl.length∧cl.length≤7)
  (h4:tl.length≤5) (h5:1≤vl.length∧vl.length≤3) (a1:zl.all (fun z=>inR z 0 (r-1))=true) (a2:cl.all (fun y=>inR y.1 0 (zl.length-1)&&inR y.2 1 40)=true) (a3:tl.all (tenOk r)=true) (a4:versOk vl=true)
  (a5:rl.all (fun z=>inR z 0 (zl.length-1))=true) (a6:ol.all (fun z=>inR z 0 (zl.length-1))=true) (h6:rl.length=1∨rl.length=3) (h7:1≤ol.length∧ol.length≤4) (h8:1≤bl∧bl≤3) (h9:2≤le∧le≤12) (h10:0≤ba∧ba≤8) :
  MadeCfg ⟨r,zl,cl,tl,vl,rl,ol,bl,le,ba⟩:=by
 refine⟨?_,h1,h2,h3,h4,h5,h6,h7,h8,h9,h10,a2⟩
 have b1:cl.all (fun y=>inR y.1 0 (zl.length-1))=true:=by
  rw[List.all_eq_true] at a2 ⊢
  exact fun y hy=>(Bool.and_eq_true _ _ ▸ a2 y hy).1
 have b2:cl.all (fun y=>inR y.2 1 4194304)=true:=by
  rw[List.all_eq_true] at a2 ⊢
  intro y hy
  have:=(Bool.and_eq_true _ _ ▸ a2 y hy).2
  simp[inR] at this ⊢
  omega
 have l1:limitsB ⟨r,zl,cl,tl,vl,rl,ol,bl,le,ba⟩=true:=by simp[limitsB,inR];omega
 have l2:placesB ⟨r,zl,cl,tl,vl,rl,ol,bl,le,ba⟩=true:=by unfold placesB;rw[a1,b1,a5,a6];rfl
 have l3:valuesB ⟨r,zl,cl,tl,vl,rl,ol,bl,le,ba⟩=true:=by
  unfold valuesB
  rw[b2,a4]
  simp[inR]
  omega
 have l4:¬ rl.length % 2=0:=by omega
 have l5:topoErr ⟨r,zl,cl,tl,vl,rl,ol,bl,le,ba⟩=0:=by simp[topoErr,l1,l2,l3,l4]
 simp only[cfgErr,l5,a3]
 rfl
def CfgPost (w:World) (e:Ending) (w':World):Prop:=
 ∃ (x:CfgA) (c:Cfg),e=.returned (.agg (cfgC x c))∧CfgOk w' (fun b=>w.heap.size≤b∧b<w'.heap.size) x c∧MadeCfg c∧Below w.heap.size w w'
theorem versOk_one {h:Int} (h0:0≤h) (h1:h≤30):versOk [(0,h)]=true:=by
 simp[versOk,verOk]
 omega
abbrev allowC (r:Int):Int:=IntKind.i64.wrap (IntKind.i64.wrap (1 * 2 ^ min (IntKind.u64.wrap r).toNat IntKind.i64.bits)-1)
theorem allowC_eq {r:Int} (h:1≤r∧r≤3):allowC r=shl1 r-1:=by
 rcases (show r=1∨r=2∨r=3 by omega) with rfl | rfl | rfl<;>decide
theorem ten_okC {r a b p g al gr:Int} {no:Bool} (h1:1≤r∧r≤3) (ha:1≤a∧a≤12) (hb:0≤b∧b<a+1) (hp:0≤p∧p<4) (hg:-1≤g∧g≤3) (hal:1≤al∧al≤shl1 r-1) (hgr:0≤gr∧gr<3):tenOk r ⟨a,b,p,g,al,gr,no⟩=true:=by
 unfold tenOk inR
 simp only[Bool.and_eq_true,decide_eq_true_eq]
 omega
def ctBetw:CT:=fun vs mem nx K=>∃ v lo hi,vs=[.int .i64 v,.int .i64 lo,.int .i64 hi]∧(lo≤hi∧-1000000≤lo∧hi≤1000000)∧∀ r:Int,lo≤r→r≤hi→K (.int .i64 r) mem nx
theorem betwOk:CSound Tryz.prog 38 ctBetw:=⟨by kernel_rfl,fun {C ρ fr mem nx a w vs K} hc hs hv=>by
 obtain⟨v,lo,hi,rfl,⟨h1,h2,h3⟩,hK⟩:=hc
 refine (mkBetween_any v lo hi w h1 h2 h3).mono ?_
 rintro e w' ⟨⟨r,hr1,hr2,-,rfl⟩,rfl⟩
 exact⟨.int .i64 r,mem,nx,ρ,rfl,hK r hr1 hr2,hs,trivial,ExtS.refl _ _⟩⟩
theorem snoc_el {α:Type} {enc:α→List Value} {d:α} {l:List α} {x:α} {el el2:Nat→List Value} (h0:∀ j,j<l.length→el j=enc (l.getD j d)) (h1:∀ j,j<l.length→el2 j=el j) (h2:el2 (l.length+0)=enc x):∀ j,j<(l++[x]).length→el2 j=enc ((l++[x]).getD j d):=by
 intro j hj
 by_cases hjn:j<l.length
 ·rw[h1 j hjn,h0 j hjn,List.getD_eq_getElem?_getD,List.getD_eq_getElem?_getD,List.getElem?_append_left hjn]
 ·obtain rfl:j=l.length:=by simp at hj;omega
  rw[Nat.add_zero] at h2
  rw[h2,List.getD_eq_getElem?_getD,List.getElem?_append_right (Nat.le_refl _),Nat.sub_self]
  rfl
theorem one_el {α:Type} {enc:α→List Value} {d x:α} {el2:Nat→List Value} (h2:el2 0=enc x):∀ j,j<[x].length→el2 j=enc ([x].getD j d):=by
 intro j hj
 obtain rfl:j=0:=by simpa using hj
 exact h2
theorem cwz {n rg:Int} (hn:0≤n) (hr:1≤rg):(true&&[Int.tmod n rg].all (fun z=>inR z 0 (rg-1)))=true:=by
 have t1:=Int.tmod_nonneg rg hn
 have t2:=Int.tmod_lt_of_pos n (show 0<rg by omega)
 simp[inR]
 omega
theorem cwc {n z r:Int} (hn:0≤n) (hz:1≤z) (hr:1≤r∧r≤4):(true&&[(Int.tmod n z,IntKind.i64.wrap (r * 10))].all (fun y=>inR y.1 0 (z-1)&&inR y.2 1 40))=true:=by
 have t1:=Int.tmod_nonneg z hn
 have t2:=Int.tmod_lt_of_pos n (show 0<z by omega)
 rw[wrapi (n:=r * 10) (by omega)]
 simp[inR]
 omega
theorem cwi {z r:Int} (hr:0≤r∧r<z):(true&&[r].all (fun y=>inR y 0 (z-1)))=true:=by
 simp[inR]
 omega
end Go.Proofs.YtchhdflealgkaaaGreat
