import Derived.Test.YtjnndjnpcelafaaGreatPt14
import Derived.Laws.OwnMore
namespace Go.Proofs.YtjnndjnpcelafaaGreat
set_option maxHeartbeats 16000000
set_option maxRecDepth 100000
open Go.RowKit
set_option linter.unusedSimpArgs false
set_option linter.unusedVariables false
def RowAt (cs:Array Value) (off:Nat) (l:List Value):Prop:=∀ (j:Nat) (v:Value),l[j]?=some v->cs[off+j]?=some v
theorem RowAt.fits {cs:Array Value} {off:Nat} {l:List Value} (h:RowAt cs off l) (hl:0<l.length):off+l.length<=cs.size:=by
 have h1:l[l.length-1]?=some l[l.length-1]:=List.getElem?_eq_getElem o_;have h2:=h _ _ h1;have:=(Array.getElem?_eq_some_iff.1 h2).1;omega
theorem zmm {cs:Array Value} {off:Nat} {l:List Value} (h:RowAt cs off l):zdZ cs off l=cs:=by
 apply Array.ext_getElem?
 intro j;rw[zdO];by_cases hj:off<=j/\j<off+l.length/\j<cs.size
 ·rw[if_pos hj];have h1:l[j-off]?=some l[j-off]:=List.getElem?_eq_getElem o_;have h2:=h _ _ h1;rw[h1,← h2];congr 1
  omega
 ·rw[if_neg hj]
theorem putL_set {cs:Array Value} {off:Nat} {l:List Value} (hf:off+l.length<=cs.size) {j:Nat} (hj:j<l.length) (v:Value):(zdZ cs off l).setIfInBounds (off+j) v=zdZ cs off (l.set j v):=by
 apply Array.ext_getElem?
 intro i;rw[Array.getElem?_setIfInBounds,zdO,zdO,zey,List.length_set];by_cases hi:off+j=i
 ·subst hi;rw[if_pos rfl,if_pos (show off+j<cs.size by omega),if_pos o_];have:off+j-off=j:=by omega
  rw[this];simp[hj]
 ·rw[if_neg hi];by_cases hc:off<=i/\i<off+l.length/\i<cs.size
  ·rw[if_pos hc,if_pos hc,List.getElem?_set_ne o_]
  ·rw[if_neg hc,if_neg hc]
theorem putL_row {cs:Array Value} {off:Nat} {l:List Value} (hf:off+l.length<=cs.size):RowAt (zdZ cs off l) off l:=by
 intro j v hv;have hj:=(List.getElem?_eq_some_iff.1 hv).1;rw[zdO,if_pos o_,show off+j-off=j by omega];exact hv
structure InRow (w:World) (g:Nat) (T:TypeId) (cs:Array Value) (off:Nat) (l:List Value) (wx:World):Prop where
 blk:Blk wx g T (zdZ cs off l)
 fits:off+l.length<=cs.size
 grown:w.grownBy wx (some g)
theorem InRow.start {w:World} {g:Nat} {T:TypeId} {cs:Array Value} {off:Nat} {l:List Value} (hb:Blk w g T cs) (hr:RowAt cs off l) (hl:0<l.length):InRow w g T cs off l w:=
 ⟨by rw[zmm hr];exact hb,hr.fits hl,zgw _ _⟩
section
variable {w wx:World} {g:Nat} {T:TypeId} {cs:Array Value} {off:Nat} {l:List Value}
theorem InRow.set (h:InRow w g T cs off l wx) {j:Nat} (hj:j<l.length) (v:Value):InRow w g T cs off (l.set j v) (wx.setCell ⟨g,off+j,none⟩ v):=
 ⟨by rw[← putL_set h.fits hj];exact h.blk.set_ _ _,by rw[List.length_set];exact h.fits,zmS h.grown _ _⟩
theorem InRow.alloc (h:InRow w g T cs off l wx) (o:Obj):InRow w g T cs off l (wx.alloc o):=⟨h.blk.alloc o,h.fits,zj1 h.grown o⟩
theorem InRow.drew (h:InRow w g T cs off l wx):InRow w g T cs off l wx.drew:=⟨h.blk,h.fits,zj0 h.grown 1⟩
theorem InRow.cell (h:InRow w g T cs off l wx) {j:Nat} {v:Value} (hv:l[j]?=some v):wx.cell? ⟨g,off+j,none⟩=some v:=h.blk.cell' (putL_row h.fits j v hv)
theorem InRow.frozen (h:InRow w g T cs off l wx) (i:Nat):wx.frozen? ⟨g,i,none⟩=false:=h.blk.frozen i
end
theorem own_blk {w:World} {base:Nat} {T:TypeId} {size:Nat} {A:Option Addr} {cp n:Nat} {xs:List Value} (h:w.ownsRow base T size (.slice A n cp) n xs) (hn:0<n) :
  ∃ g cur,A=some ⟨g,0,none⟩/\base<=g/\Blk w g T cur/\cur.toList.take (n * size)=xs/\cur.size=cp * size/\n<=cp/\cp<=maxLen:=by
 rcases h.2 with⟨h1,h2⟩ | ⟨g,cap,cur,hv,hb,hh,h1,h2,h3,h4⟩
 ·omega
 ·injection hv with hv1 hv2 hv3
  subst hv3;exact⟨g,cur,hv1,hb,hh,h4,h3,h1,h2⟩
theorem own_row {α:Type} {enc:α->List Value} {size:Nat} (hs:∀ x,(enc x).length=size) {l:List α} {cur:Array Value} {k:Nat} {t:α} (hk:l[k]?=some t) (ht:cur.toList.take (l.length * size)=zaJ enc l):RowAt cur (k * size) (enc t):=by
 intro j v hv;have h1:=zgY hs l k t hk j v hv;rw[← ht] at h1;have hlt:k * size+j<(cur.toList.take (l.length * size)).length:=(List.getElem?_eq_some_iff.1 h1).1;rw[List.length_take] at hlt;rw[List.getElem?_take_of_lt o_] at h1;simpa using h1
/-! slices.Clone: rows of the callee's own. -/
theorem zcL {α:Type} {enc:α->List Value} {sz:Nat} (hs:∀ x,(enc x).length=sz) (hpos:0<sz) (d:α) {w:World} {base:Nat} {T:TypeId} {A:Option Addr} {cp:Nat} {l:List α} (h:w.ownsRow base T sz (.slice A l.length cp) l.length (zaJ enc l)):∃ b,OwnL base w A sz enc d l b:=by
 by_cases h0:l=[]
 ·subst h0;exact⟨0,fun h=>absurd rfl h,fun k hk=>absurd hk (by simp)⟩
 ·obtain⟨g,cur,hA,hb,hblk,htk,hsz,hn,hm⟩:=own_blk h (List.length_pos_iff.2 h0);refine⟨g,fun _=>⟨hA,hb,_,_,hblk⟩,fun k hk j v hv=>?_⟩;have hk2:l[k]?=some (l.getD k d):=by rw[gd_,List.getElem?_eq_getElem hk];rfl
  exact hblk.cell' (own_row hs hk2 htk j v hv)
theorem Sat.addOwnRow {C:Ctx} {ρ:Nat->Pl} {fr:AF} {mem:AM} {nx:Nat} {a:Act} {w w':World} (h0:Sat C ρ fr mem nx a w) (hb:Below w.heap.size w w') {α:Type} {enc:α->List Value} {sz:Nat} (hs:∀ x,(enc x).length=sz) (hpl:∀ x,∀ v ∈ enc x,zam v) {d:α} {A:Option Addr} {l:List α} {b:Nat} (t:TypeId) (hc:OwnL w.heap.size w' A sz enc d l b) :
  Sat C (zac ρ nx ⟨A,sz,l.length,false,za4⟩) fr ((nx,.row (1000000+t) sz l.length (fun k=>enc (l.getD k d)))::mem) (nx+1) a w':=by
 refine (h0.later hb).addOwn (p:=⟨A,sz,l.length,false,za4⟩) rfl (hc.blk (t:=1000000+t) h0.rest.size hs hpl (za2 _ _ _)) ?_;by_cases hz:l=[]
 ·exact .inl (by rw[hz];rfl)
 ·obtain⟨hA,hle,-⟩:=hc.at_ hz;refine .inr fun i b hi g hg=>?_
  have:=(h0.blk i b hi).brd_lt hg;rw[hA];simp;omega
def ctCloneT:CT:=fun vs mem nx K=>∃ r cap l,vs=[slc r (l:List TS).length cap]/\HasRow mem r 12 tsC default l/\l.length<=100/\∀ cap2,K (slc nx l.length cap2) ((nx,tsO l)::mem) (nx+1)
theorem zk1:CSound Tryz.prog 44 ctCloneT:=⟨k_,fun {C ρ fr mem nx a w vs K} hc hs hv=>by
 obtain⟨r,cap,l,rfl,hr,hl,hK⟩:=hc;refine (zje (ρ r).A cap l w hl (hs.hasRd (enc:=tsC) (sz:=12) (fun _=>rfl) o_ hr)).mono ?_;rintro e w' ⟨A,cp,rfl,ho,hb⟩;obtain⟨b,hL⟩:=zcL (enc:=tsC) (fun _=>rfl) o_ default ho;have q2:zac ρ nx ⟨A,12,l.length,false,za4⟩ nx=⟨A,12,l.length,false,za4⟩:=za2 _ _ _;have q3:=hs.addOwnRow (enc:=tsC) (sz:=12) (d:=default) hb (fun _=>rfl) zer 55 hL;refine⟨slc nx l.length cp,_,_,zac ρ nx ⟨A,12,l.length,false,za4⟩,?_,hK cp,q3,?_,fun i hi=>za8 _ _ hi,o_⟩
 ·show Ending.returned (.slice A l.length cp)=.returned (.slice (zac ρ nx ⟨A,12,l.length,false,za4⟩ nx).A l.length cp);rw[q2]
 ·exact⟨show nx<nx+1 by omega,by rw[q2]⟩⟩
def ctCloneC:CT:=fun vs mem nx K=>∃ r cap l,vs=[slc r (l:List CS).length cap]/\HasRow mem r 4 csC default l/\l.length<=100/\∀ cap2,K (slc nx l.length cap2) ((nx,csO l)::mem) (nx+1)
theorem zk2:CSound Tryz.prog 45 ctCloneC:=⟨k_,fun {C ρ fr mem nx a w vs K} hc hs hv=>by
 obtain⟨r,cap,l,rfl,hr,hl,hK⟩:=hc;refine (zjf (ρ r).A cap l w hl (hs.hasRd (enc:=csC) (sz:=4) (fun _=>rfl) o_ hr)).mono ?_;rintro e w' ⟨A,cp,rfl,ho,hb⟩;obtain⟨b,hL⟩:=zcL (enc:=csC) (fun _=>rfl) o_ default ho;have q2:zac ρ nx ⟨A,4,l.length,false,za4⟩ nx=⟨A,4,l.length,false,za4⟩:=za2 _ _ _;have q3:=hs.addOwnRow (enc:=csC) (sz:=4) (d:=default) hb (fun _=>rfl) zeL 103 hL;refine⟨slc nx l.length cp,_,_,zac ρ nx ⟨A,4,l.length,false,za4⟩,?_,hK cp,q3,?_,fun i hi=>za8 _ _ hi,o_⟩
 ·show Ending.returned (.slice A l.length cp)=.returned (.slice (zac ρ nx ⟨A,4,l.length,false,za4⟩ nx).A l.length cp);rw[q2]
 ·exact⟨show nx<nx+1 by omega,by rw[q2]⟩⟩
theorem BlkOk.fresh {C:Ctx} {ρ:Nat->Pl} {nx i:Nat} {w:World} {t:TypeId} {sz n:Nat} {el:Nat->List Value} {α:Type} {enc:α->List Value} {l:List α} (d:α) (h:BlkOk C ρ nx i w (.row t sz n el)) (ho:frT t=true) (hl:l.length=n) (he:∀ k,k<n->el k=enc (l.getD k d)) (hs:∀ x,(enc x).length=sz) (hpos:0<sz) (hbor:C.bor=[]:=by exact rfl) :
  Rd w (fun b=>C.w0.heap.size<=b/\b<w.heap.size) (ρ i).A (zaJ enc l):=by
 subst hl;obtain⟨h1,h2,h3⟩:=h;have hb:BlkOk C ρ nx i w (.row t sz l.length (fun k=>enc (l.getD k d))):=by
  refine⟨h1,fun k hk=>by have:=h2 k hk;rw[he k hk] at this;exact this,h3.imp id ?_⟩;rintro⟨b,off,hA,hat,hc⟩;exact⟨b,off,hA,hat,fun k hk j v hv=>hc k hk j v (by rw[he k hk];exact hv)⟩
 refine zex hs hpos hb fun hne b off hA hlt=>?_
 rcases h3 with h0 | ⟨b2,off2,hA2,hat,-⟩
 ·exact absurd h0 hne
 ·rw[hA] at hA2;cases hA2
  exact⟨Ctx.ok_nil hbor (hat.new ho),hlt⟩
def cpl (x:CfgA) (c:Cfg):Nat->Pl:=fun j=>match j with
 | 0=>⟨x.az,1,c.zones.length,false,za4⟩
 | 1=>⟨x.ac,2,c.cells.length,false,za4⟩
 | 2=>⟨x.at_,7,c.tenants.length,false,za4⟩
 | 3=>⟨x.av,2,c.versions.length,false,za4⟩
 | 4=>⟨x.ar,1,c.replicas.length,false,za4⟩
 | _=>⟨x.ao,1,c.observers.length,false,za4⟩
theorem zde {α:Type} {n k:Nat} {a d:α} (h:k<n):(List.replicate n a).getD k d=a:=by
 rw[gd_,List.getElem?_replicate,if_pos h];rfl
theorem ziv (x:CfgA) (c:Cfg) (w:World) (hc:CfgOk w (·<w.heap.size) x c) (hnt:c.tenants.length<=1000) (hnc:c.cells.length<=1000) :
  Calls Tryz.prog 9 #[.agg (zaH x c)] w fun e w'=>∃ y,e=.returned (.agg (stC y (zaB c)))/\StOk w' (fun b=>w.heap.size<=b/\b<w'.heap.size) y (zaB c)/\Below w.heap.size w w':=by
 have hpc:CfgPl (cpl x c) CN1 x c:=⟨rfl,rfl,rfl,rfl,rfl,rfl⟩
 have hm:MemAt { w0:=w,bor:=[],n0:=6,ρ0:=cpl x c,nt:=(Tryz.f9).ntmps } (cpl x c) (zcH CN1 c) 6 w:=MemAt.rows trivial (by
  have:=zcR (C:={ w0:=w,bor:=[],n0:=6,ρ0:=cpl x c,nt:=(Tryz.f9).ntmps }) (nx:=6) (r:=[]) hpc hc (fun b hb=>hb) d_ trivial
  exact this)
 have hv0:#[Value.agg (zaH x c)]=([zaX CN1 ⟨x.cz,x.cc,x.ct,x.cv,x.cr,x.co⟩ c].map (den (cpl x c))).toArray:=by
  rw[List.map_cons,zaP];rfl
 rw[hv0];refine (zcu zg6 zb7 mixed Tryz.func9 rfl (D:=newD) k_ (vs:=[zaX CN1 ⟨x.cz,x.cc,x.ct,x.cv,x.cr,x.co⟩ c]) rfl ⟨rfl,rfl⟩ rfl hm (fun v hv=>?_) (new_sx _ c hnt hnc)).mono ?_
 ·obtain rfl:v=_:=by simpa using hv
  intro u hu;simp at hu;rcases hu with rfl | rfl | rfl | rfl | rfl | rfl | rfl | rfl | rfl | rfl<;>first | trivial | exact⟨d_,rfl⟩
 ·rintro e w' ⟨v,mem',nx',ρ',rfl,⟨rfl,⟨eT,hT,hT2⟩,⟨eC,hC,hC2⟩⟩,hv,hm'⟩;refine⟨⟨(ρ' 8).A,c.tenants.length,(ρ' 9).A,c.cells.length⟩,?_,⟨?_,?_⟩,⟨hm'.rest.os,hm'.rest.tape,hm'.rest.output,hm'.rest.size,fun b hlt=>hm'.rest.block b hlt (by simp)⟩⟩
  ·simp[den,zaW,zal,zau,zaq,stC,zaB,newV]
  ·exact (hm'.blk 8 _ hT).fresh (enc:=tsC) (l:=(zaB c).tenants) default rfl (by simp[zaB]) (fun k hk=>by rw[hT2 k hk];simp only[zaB];rw[zde hk]) (fun _=>rfl) o_
  ·exact (hm'.blk 9 _ hC).fresh (enc:=csC) (l:=(zaB c).cells) default rfl (by simp[zaB]) (fun k hk=>by rw[hC2 k hk];simp only[zaB];rw[zde hk]) (fun _=>rfl) o_
def ctNewS:CT:=fun vs mem nx K=>∃ N x c,vs=[zaX N x c]/\keeps mem (zcH N c)/\(c.tenants.length<=1000/\c.cells.length<=1000)/\∀ y,K (stV ⟨nx+1,nx,500000⟩ y (zaB c)) (stM ⟨nx+1,nx,500000⟩ (zaB c)++mem) (nx+2)
theorem newSOk:CSound Tryz.prog 9 ctNewS:=⟨k_,fun {C ρ fr mem nx a w vs K} hc hs hv=>by
 obtain⟨N,x,c,rfl,hk,⟨hnt,hnc⟩,hK⟩:=hc;rw[List.map_cons,zaP];refine (ziv (zdp ρ N x) c w (hs.cfg hk (fun b h _=>h)) hnt hnc).mono ?_;rintro e w' ⟨y,rfl,hst,hb⟩;obtain⟨q1,q2,q3,q4⟩:=hs.addSt hb hst
 exact⟨_,_,_,_,by rw[q2],hK ⟨y.ct,y.cc⟩,q1,q3,q4⟩⟩
/-! state.effect: a state of its own. -/
def ocD:List (Nat×DQ):=[(3,{ k:=9,L:=[15],pre:=[(0,false),(1,false),(2,false),(3,false),(4,false),(5,false),(6,false),(7,false),(8,true)] }),(7,{ k:=9,L:=[15],pre:=[(0,false),(1,false),(2,false),(3,false),(4,false),(5,false),(6,false),(7,false),(8,true)] })]
def otD:List (Nat×DQ):=[(9000000,{ k:=0,L:=[160] }),
 (3,{ k:=13,L:=[15],pre:=[(0,false),(1,false),(2,false),(3,false),(4,false),(5,false),(6,false),(7,false),(8,false),(9,true),(10,false),(11,false),(12,true)] }),
 (17,{ k:=10,L:=[13,14,15],pre:=[(0,false),(1,false),(2,false),(3,false),(4,false),(5,false),(6,false),(7,false),(8,false),(9,false)] }),
 (18,{ k:=12,L:=[13,14,15],pre:=[(0,false),(1,false),(2,false),(3,false),(4,false),(5,false),(6,false),(7,false),(8,false),(9,false),(10,false),(11,false)] })]
def otF:FT:=[(160,zat tt [] [] Tryz.f160 (za1 Tryz.f160))]
def efF:FT:=[(44,ctCloneT),(45,ctCloneC),(104,zat tt [] ocD Tryz.f104 (za1 Tryz.f104)),(105,zat tt otF otD Tryz.f105 (za1 Tryz.f105))]
def efD:List (Nat×DQ):=[(9000000,{ k:=0,L:=[104,105] }),
 (1,{ k:=7,L:=[10],pre:=[(0,false),(1,false),(3,false),(4,false),(2,true),(6,false),(5,true)] }),
 (9,{ k:=6,L:=[10,11,13,14],pre:=[(0,false),(1,false),(2,false),(3,false),(4,false),(5,false)] }),
 (11,{ k:=6,L:=[10,11],pre:=[(0,false),(1,false),(2,false),(3,false),(4,false),(5,false)] }),
 (14,{ k:=6,L:=[10,11],pre:=[(0,false),(1,false),(2,false),(3,false),(4,false),(5,false)] }),
 (15,{ k:=6,L:=[10,11],pre:=[(0,false),(1,false),(2,false),(3,false),(4,false),(5,false)] }),
 (5,{ k:=6,L:=[10,11,13,14],pre:=[(0,false),(1,false),(2,false),(3,false),(4,false),(5,false)] })]
abbrev zhH (a n:Int):Int:=IntKind.i64.wrap ((BitVec.ofInt IntKind.i64.bits a ||| BitVec.ofInt IntKind.i64.bits (IntKind.i64.wrap (1 * 2 ^ min n.toNat IntKind.i64.bits))).toNat:Nat)
abbrev zmB (a n:Int):Int:=IntKind.i64.wrap ((BitVec.ofInt IntKind.i64.bits a &&& ~~~BitVec.ofInt IntKind.i64.bits (IntKind.i64.wrap (1 * 2 ^ min n.toNat IntKind.i64.bits))).toNat:Nat)
theorem zht (n:Int) (h0:0<=n) (h1:n<30):IntKind.i64.wrap (1 * 2 ^ min n.toNat IntKind.i64.bits)=2 ^ n.toNat:=by
 have e2:min n.toNat IntKind.i64.bits=n.toNat:=Nat.min_eq_left (by show n.toNat<=64;omega);have hp:(2:Int) ^ n.toNat=((2 ^ n.toNat:Nat):Int):=by simp
 have hq:2 ^ n.toNat<2 ^ 30:=Nat.pow_lt_pow_right o_ o_;rw[e2,Int.one_mul,hp];generalize 2 ^ n.toNat=q at hq ⊢;exact zaf o_
theorem zhG (a n:Int) (h0:0<=a) (h1:a<1073741824) (hn:0<=n) (hn2:n<30):zhH a n=zeX a n:=by
 unfold zhH;rw[zht n hn hn2];exact zhT a n h0 h1 hn hn2
theorem zjV {a i:Int} (h2:0<=i) (h3:i<4):zc2 a i=Nat.testBit a.toNat i.toNat:=by
 unfold zc2 bitB;rw[show decide (0<=i)=true by simpa using h2,show decide (i<62)=true by simp;omega];simp
theorem zn5 (a n:Int) (h0:0<=a) (h1:a<16) (hn:0<=n) (hn2:n<4) (hb:zc2 a n=false):zhH a n=zdf a n:=by
 rw[zhG a n h0 o_ hn o_];unfold zeX zdf;rw[zjV hn hn2] at hb;exact congrArg Int.ofNat (evac_or ⟨a.toNat,o_⟩ ⟨n.toNat,o_⟩ hb)
theorem zl0 (a n:Int) (h0:0<=a) (h1:a<16) (hn:0<=n) (hn2:n<4) (hb:zc2 a n=true):zmB a n=zdf a n:=by
 unfold zmB;rw[zht n hn o_];rw[zjV hn hn2] at hb;obtain⟨k,rfl⟩:=Int.eq_ofNat_of_zero_le h0;obtain⟨m,rfl⟩:=Int.eq_ofNat_of_zero_le hn;exact zj7 ⟨k,o_⟩ ⟨m,o_⟩ hb
theorem zn7 (c:Cfg) (y:StK) (s:St) (e:Ent) (hV:CfgV c) (hI:StInv c s) (ha:Acc c s e) :
  sx tt efF efD (za1 Tryz.f39) (zb3 0 [stV SN1 y s,entV' e]) (rdM noC s noS) 10 (zb8 tt Tryz.f39.results.toList fun v mem' _=>∃ y2,v=stV ⟨13,14,0⟩ y2 (zae s e)/\keeps mem' (stMO ⟨13,14,0⟩ (zae s e))):=by
 have hlt:=hI.lt;have hlc:=hI.lc;have hnt:=hV.nt;have hnc:=hV.nc;have hnr:=hV.reg;have hnv:=hV.nv;have hev:=hI.evac;have hpv:=hI.proven;have hct:=hI.count;have hlh:=hI.low;refine⟨_,_,s.tenants,rfl,⟨_,_,_,rfl,nl_,fun k hk=>rfl⟩,o_,?_⟩;intro cap2;refine⟨kp_,?_⟩;refine⟨_,_,s.cells,rfl,⟨_,_,_,rfl,nl_,fun k hk=>rfl⟩,o_,?_⟩;intro cap3;refine⟨kp_,?_⟩;have hw:IntKind.i64.wrap (s.count+1)=s.count+1:=zaf o_;rcases zeK ha.ent with hk | hk | hk | hk | hk | hk | hk | hk | hk | hk | hk | hk | hk | hk | hk | hk
 ·have hf:=ha.ent;simp[zca,zaN,inS,inR,fT,fC,fO,fE,fW,fN,hk] at hf;repeat (first | refine⟨fun h=>absurd h (by rw[hk];decide),fun _=>?_⟩ | refine⟨fun _=>?_,fun h=>absurd h (by rw[hk];decide)⟩ | refine⟨fun _=>?_,bt_⟩ | refine⟨bf_,fun _=>?_⟩)
  have hi:e.tenant.toNat<s.tenants.length:=by omega
  refine⟨⟨nl_,o_,o_⟩,?_⟩;repeat (first | refine⟨fun h=>absurd h (by rw[hk];decide),fun _=>?_⟩ | refine⟨fun _=>?_,fun h=>absurd h (by rw[hk];decide)⟩ | refine⟨fun _=>?_,bt_⟩ | refine⟨bf_,fun _=>?_⟩)
  refine⟨tsC { (s.tenants.getD e.tenant.toNat default) with placed:=true },(by first | rfl | (show zbx _ _ (tsC (List.getD _ _ _))=_;rw[za7 hi];rfl)),?_⟩;rw[za6 (by first | exact hi | (rw[List.length_set];exact hi))];try rw[List.set_set]
  refine⟨kp_,?_⟩;refine⟨tsC { (s.tenants.getD e.tenant.toNat default) with placed:=true,home:=e.cell },(by first | rfl | (show zbx _ _ (tsC (List.getD _ _ _))=_;rw[za7 hi];rfl)),?_⟩;rw[za6 (by first | exact hi | (rw[List.length_set];exact hi))];try rw[List.set_set]
  refine⟨kp_,?_⟩;refine⟨tsC { (s.tenants.getD e.tenant.toNat default) with placed:=true,home:=e.cell,standby:=e.other },(by first | rfl | (show zbx _ _ (tsC (List.getD _ _ _))=_;rw[za7 hi];rfl)),?_⟩;rw[za6 (by first | exact hi | (rw[List.length_set];exact hi))];try rw[List.set_set]
  have hef:zae s e=(⟨e.tick,s.count+1,s.tenants.set e.tenant.toNat { (s.tenants.getD e.tenant.toNat default) with placed:=true,home:=e.cell,standby:=e.other },s.cells,s.proven,s.evac,s.low,s.high⟩:St):=by simp[zae,zai,zbc,zaK,zaR,zav,zaA,zaQ,hk]
  rw[hef];refine⟨⟨cap2,cap3⟩,(by (first | rw[hw,hwh] | rw[hw]);first | rfl | simp),(by first | exact rfl | (show some (ABlk.row _ _ s.tenants.length _)=some (ABlk.row _ _ (List.set _ _ _).length _);rw[List.length_set];try rfl)),(by first | exact rfl | (show some (ABlk.row _ _ s.cells.length _)=some (ABlk.row _ _ (List.set _ _ _).length _);rw[List.length_set])),trivial⟩
 ·have hf:=ha.ent;simp[zca,zaN,inS,inR,fT,fC,fO,fE,fW,fN,hk] at hf;repeat (first | refine⟨fun h=>absurd h (by rw[hk];decide),fun _=>?_⟩ | refine⟨fun _=>?_,fun h=>absurd h (by rw[hk];decide)⟩ | refine⟨fun _=>?_,bt_⟩ | refine⟨bf_,fun _=>?_⟩)
  have hi:e.tenant.toNat<s.tenants.length:=by omega
  refine⟨⟨nl_,o_,o_⟩,?_⟩;repeat (first | refine⟨fun h=>absurd h (by rw[hk];decide),fun _=>?_⟩ | refine⟨fun _=>?_,fun h=>absurd h (by rw[hk];decide)⟩ | refine⟨fun _=>?_,bt_⟩ | refine⟨bf_,fun _=>?_⟩)
  refine⟨tsC { (s.tenants.getD e.tenant.toNat default) with win:=⟨e.cell,e.epoch,e.n,e.since,e.till⟩ },(by first | rfl | (show zbx _ _ (tsC (List.getD _ _ _))=_;rw[za7 hi];rfl)),?_⟩;rw[za6 (by first | exact hi | (rw[List.length_set];exact hi))];try rw[List.set_set]
  refine⟨tsC { (s.tenants.getD e.tenant.toNat default) with win:=⟨e.cell,e.epoch,e.n,e.since,e.till⟩,epoch:=e.epoch },(by first | rfl | (show zbx _ _ (tsC (List.getD _ _ _))=_;rw[za7 hi];rfl)),?_⟩;rw[za6 (by first | exact hi | (rw[List.length_set];exact hi))];try rw[List.set_set]
  refine⟨fun q1=>?_,fun q1=>?_⟩
  ·change (e.cell==((s.tenants.set e.tenant.toNat { (s.tenants.getD e.tenant.toNat default) with win:=⟨e.cell,e.epoch,e.n,e.since,e.till⟩,epoch:=e.epoch }).getD e.tenant.toNat default).home)=true at q1;rw[za7 hi] at q1;repeat (first | refine⟨fun h=>absurd h (by rw[hk];decide),fun _=>?_⟩ | refine⟨fun _=>?_,fun h=>absurd h (by rw[hk];decide)⟩ | refine⟨fun _=>?_,bt_⟩ | refine⟨bf_,fun _=>?_⟩)
   have e1:e.cell=(s.tenants.getD e.tenant.toNat default).home:=by simpa using q1
   have hef:zae s e=(⟨e.tick,s.count+1,s.tenants.set e.tenant.toNat { (s.tenants.getD e.tenant.toNat default) with win:=⟨e.cell,e.epoch,e.n,e.since,e.till⟩,epoch:=e.epoch },s.cells,s.proven,s.evac,s.low,s.high⟩:St):=by
    unfold zae zai zaK zav zfb zaA;simp only[hk];grind
   rw[hef];refine⟨⟨cap2,cap3⟩,(by (first | rw[hw,hwh] | rw[hw]);first | rfl | simp),(by first | exact rfl | (show some (ABlk.row _ _ s.tenants.length _)=some (ABlk.row _ _ (List.set _ _ _).length _);rw[List.length_set];try rfl)),(by first | exact rfl | (show some (ABlk.row _ _ s.cells.length _)=some (ABlk.row _ _ (List.set _ _ _).length _);rw[List.length_set])),trivial⟩
  ·change (e.cell==((s.tenants.set e.tenant.toNat { (s.tenants.getD e.tenant.toNat default) with win:=⟨e.cell,e.epoch,e.n,e.since,e.till⟩,epoch:=e.epoch }).getD e.tenant.toNat default).home)=false at q1;rw[za7 hi] at q1;have e1:¬ e.cell=(s.tenants.getD e.tenant.toNat default).home:=by simpa using q1
   repeat (first | refine⟨fun h=>absurd h (by rw[hk];decide),fun _=>?_⟩ | refine⟨fun _=>?_,fun h=>absurd h (by rw[hk];decide)⟩ | refine⟨fun _=>?_,bt_⟩ | refine⟨bf_,fun _=>?_⟩)
   refine⟨fun q2=>?_,fun q2=>?_⟩
   ·change (e.cell==((s.tenants.set e.tenant.toNat { (s.tenants.getD e.tenant.toNat default) with win:=⟨e.cell,e.epoch,e.n,e.since,e.till⟩,epoch:=e.epoch }).getD e.tenant.toNat default).standby)=true at q2;rw[za7 hi] at q2;repeat (first | refine⟨fun h=>absurd h (by rw[hk];decide),fun _=>?_⟩ | refine⟨fun _=>?_,fun h=>absurd h (by rw[hk];decide)⟩ | refine⟨fun _=>?_,bt_⟩ | refine⟨bf_,fun _=>?_⟩)
    refine⟨tsC { (s.tenants.getD e.tenant.toNat default) with win:=⟨e.cell,e.epoch,e.n,e.since,e.till⟩,epoch:=e.epoch,home:=e.cell },(by first | rfl | (show zbx _ _ (tsC (List.getD _ _ _))=_;rw[za7 hi];rfl)),?_⟩;rw[za6 (by first | exact hi | (rw[List.length_set];exact hi))];try rw[List.set_set]
    refine⟨tsC { (s.tenants.getD e.tenant.toNat default) with win:=⟨e.cell,e.epoch,e.n,e.since,e.till⟩,epoch:=e.epoch,home:=e.cell,standby:=-1 },(by first | rfl | (show zbx _ _ (tsC (List.getD _ _ _))=_;rw[za7 hi];rfl)),?_⟩;rw[za6 (by first | exact hi | (rw[List.length_set];exact hi))];try rw[List.set_set]
    refine⟨tsC { (s.tenants.getD e.tenant.toNat default) with win:=⟨e.cell,e.epoch,e.n,e.since,e.till⟩,epoch:=e.epoch,home:=e.cell,standby:=-1,next:=-1 },(by first | rfl | (show zbx _ _ (tsC (List.getD _ _ _))=_;rw[za7 hi];rfl)),?_⟩;rw[za6 (by first | exact hi | (rw[List.length_set];exact hi))];try rw[List.set_set]
    refine⟨tsC { (s.tenants.getD e.tenant.toNat default) with win:=⟨e.cell,e.epoch,e.n,e.since,e.till⟩,epoch:=e.epoch,home:=e.cell,standby:=-1,next:=-1,target:=-1 },(by first | rfl | (show zbx _ _ (tsC (List.getD _ _ _))=_;rw[za7 hi];rfl)),?_⟩;rw[za6 (by first | exact hi | (rw[List.length_set];exact hi))];try rw[List.set_set]
    refine⟨tsC { (s.tenants.getD e.tenant.toNat default) with win:=⟨e.cell,e.epoch,e.n,e.since,e.till⟩,epoch:=e.epoch,home:=e.cell,standby:=-1,next:=-1,target:=-1,shed:=false },(by first | rfl | (show zbx _ _ (tsC (List.getD _ _ _))=_;rw[za7 hi];rfl)),?_⟩;rw[za6 (by first | exact hi | (rw[List.length_set];exact hi))];try rw[List.set_set]
    have e2:e.cell=(s.tenants.getD e.tenant.toNat default).standby:=by simpa using q2
    have hef:zae s e=(⟨e.tick,s.count+1,s.tenants.set e.tenant.toNat { (s.tenants.getD e.tenant.toNat default) with win:=⟨e.cell,e.epoch,e.n,e.since,e.till⟩,epoch:=e.epoch,home:=e.cell,standby:=-1,next:=-1,target:=-1,shed:=false },s.cells,s.proven,s.evac,s.low,s.high⟩:St):=by
     unfold zae zai zaK zav zfb zaA;simp only[hk];grind
    rw[hef];refine⟨⟨cap2,cap3⟩,(by (first | rw[hw,hwh] | rw[hw]);first | rfl | simp),(by first | exact rfl | (show some (ABlk.row _ _ s.tenants.length _)=some (ABlk.row _ _ (List.set _ _ _).length _);rw[List.length_set];try rfl)),(by first | exact rfl | (show some (ABlk.row _ _ s.cells.length _)=some (ABlk.row _ _ (List.set _ _ _).length _);rw[List.length_set])),trivial⟩
   ·change (e.cell==((s.tenants.set e.tenant.toNat { (s.tenants.getD e.tenant.toNat default) with win:=⟨e.cell,e.epoch,e.n,e.since,e.till⟩,epoch:=e.epoch }).getD e.tenant.toNat default).standby)=false at q2;rw[za7 hi] at q2;have e2:¬ e.cell=(s.tenants.getD e.tenant.toNat default).standby:=by simpa using q2
    repeat (first | refine⟨fun h=>absurd h (by rw[hk];decide),fun _=>?_⟩ | refine⟨fun _=>?_,fun h=>absurd h (by rw[hk];decide)⟩ | refine⟨fun _=>?_,bt_⟩ | refine⟨bf_,fun _=>?_⟩)
    refine⟨fun q3=>?_,fun q3=>?_⟩
    ·change (e.cell==((s.tenants.set e.tenant.toNat { (s.tenants.getD e.tenant.toNat default) with win:=⟨e.cell,e.epoch,e.n,e.since,e.till⟩,epoch:=e.epoch }).getD e.tenant.toNat default).target)=true at q3;rw[za7 hi] at q3;repeat (first | refine⟨fun h=>absurd h (by rw[hk];decide),fun _=>?_⟩ | refine⟨fun _=>?_,fun h=>absurd h (by rw[hk];decide)⟩ | refine⟨fun _=>?_,bt_⟩ | refine⟨bf_,fun _=>?_⟩)
     refine⟨tsC { (s.tenants.getD e.tenant.toNat default) with win:=⟨e.cell,e.epoch,e.n,e.since,e.till⟩,epoch:=e.epoch,home:=e.cell },(by first | rfl | (show zbx _ _ (tsC (List.getD _ _ _))=_;rw[za7 hi];rfl)),?_⟩;rw[za6 (by first | exact hi | (rw[List.length_set];exact hi))];try rw[List.set_set]
     refine⟨tsC { (s.tenants.getD e.tenant.toNat default) with win:=⟨e.cell,e.epoch,e.n,e.since,e.till⟩,epoch:=e.epoch,home:=e.cell,target:=-1 },(by first | rfl | (show zbx _ _ (tsC (List.getD _ _ _))=_;rw[za7 hi];rfl)),?_⟩;rw[za6 (by first | exact hi | (rw[List.length_set];exact hi))];try rw[List.set_set]
     have e3:e.cell=(s.tenants.getD e.tenant.toNat default).target:=by simpa using q3
     have hef:zae s e=(⟨e.tick,s.count+1,s.tenants.set e.tenant.toNat { (s.tenants.getD e.tenant.toNat default) with win:=⟨e.cell,e.epoch,e.n,e.since,e.till⟩,epoch:=e.epoch,home:=e.cell,target:=-1 },s.cells,s.proven,s.evac,s.low,s.high⟩:St):=by
      unfold zae zai zaK zav zfb zaA;simp only[hk];grind
     rw[hef];refine⟨⟨cap2,cap3⟩,(by (first | rw[hw,hwh] | rw[hw]);first | rfl | simp),(by first | exact rfl | (show some (ABlk.row _ _ s.tenants.length _)=some (ABlk.row _ _ (List.set _ _ _).length _);rw[List.length_set];try rfl)),(by first | exact rfl | (show some (ABlk.row _ _ s.cells.length _)=some (ABlk.row _ _ (List.set _ _ _).length _);rw[List.length_set])),trivial⟩
    ·change (e.cell==((s.tenants.set e.tenant.toNat { (s.tenants.getD e.tenant.toNat default) with win:=⟨e.cell,e.epoch,e.n,e.since,e.till⟩,epoch:=e.epoch }).getD e.tenant.toNat default).target)=false at q3;rw[za7 hi] at q3;exfalso;have e3:¬ e.cell=(s.tenants.getD e.tenant.toNat default).target:=by simpa using q3
     have hke:=ha.kind;rw[show zaD c s e=ze5 c s e by unfold zaD;simp[hk]] at hke;unfold ze5 zaA at hke;grind
 ·have hf:=ha.ent;simp[zca,zaN,inS,inR,fT,fC,fO,fE,fW,fN,hk] at hf;repeat (first | refine⟨fun h=>absurd h (by rw[hk];decide),fun _=>?_⟩ | refine⟨fun _=>?_,fun h=>absurd h (by rw[hk];decide)⟩ | refine⟨fun _=>?_,bt_⟩ | refine⟨bf_,fun _=>?_⟩)
  have hi:e.tenant.toNat<s.tenants.length:=by omega
  refine⟨⟨nl_,o_,o_⟩,?_⟩;repeat (first | refine⟨fun h=>absurd h (by rw[hk];decide),fun _=>?_⟩ | refine⟨fun _=>?_,fun h=>absurd h (by rw[hk];decide)⟩ | refine⟨fun _=>?_,bt_⟩ | refine⟨bf_,fun _=>?_⟩)
  refine⟨tsC { (s.tenants.getD e.tenant.toNat default) with win:={ (s.tenants.getD e.tenant.toNat default).win with till:=(if IntKind.i64.wrap (e.tick+1)<(s.tenants.getD e.tenant.toNat default).win.till then IntKind.i64.wrap (e.tick+1) else (s.tenants.getD e.tenant.toNat default).win.till) } },(by first | rfl | (show zbx _ _ (tsC (List.getD _ _ _))=_;rw[za7 hi];rfl)),?_⟩;rw[za6 (by first | exact hi | (rw[List.length_set];exact hi))];try rw[List.set_set]
  refine⟨tsC { (s.tenants.getD e.tenant.toNat default) with win:={ (s.tenants.getD e.tenant.toNat default).win with till:=(if IntKind.i64.wrap (e.tick+1)<(s.tenants.getD e.tenant.toNat default).win.till then IntKind.i64.wrap (e.tick+1) else (s.tenants.getD e.tenant.toNat default).win.till),since:=(if (if IntKind.i64.wrap (e.tick+1)<(s.tenants.getD e.tenant.toNat default).win.till then IntKind.i64.wrap (e.tick+1) else (s.tenants.getD e.tenant.toNat default).win.till)<(s.tenants.getD e.tenant.toNat default).win.since then (if IntKind.i64.wrap (e.tick+1)<(s.tenants.getD e.tenant.toNat default).win.till then IntKind.i64.wrap (e.tick+1) else (s.tenants.getD e.tenant.toNat default).win.till) else (s.tenants.getD e.tenant.toNat default).win.since) } },(by first | rfl | (show zbx _ _ (tsC (List.getD _ _ _))=_;rw[za7 hi];rfl)),?_⟩;rw[za6 (by first | exact hi | (rw[List.length_set];exact hi))];try rw[List.set_set]
  have hwr:IntKind.i64.wrap (e.tick+1)=e.tick+1:=zaf o_;have hR:(if IntKind.i64.wrap (e.tick+1)<(s.tenants.getD e.tenant.toNat default).win.till then IntKind.i64.wrap (e.tick+1) else (s.tenants.getD e.tenant.toNat default).win.till)=min (s.tenants.getD e.tenant.toNat default).win.till (e.tick+1):=by rw[hwr];grind
  have hS:(if min (s.tenants.getD e.tenant.toNat default).win.till (e.tick+1)<(s.tenants.getD e.tenant.toNat default).win.since then min (s.tenants.getD e.tenant.toNat default).win.till (e.tick+1) else (s.tenants.getD e.tenant.toNat default).win.since)=min (s.tenants.getD e.tenant.toNat default).win.since (min (s.tenants.getD e.tenant.toNat default).win.till (e.tick+1)):=by grind
  rw[hR,hS];have hef:zae s e=(⟨e.tick,s.count+1,s.tenants.set e.tenant.toNat { (s.tenants.getD e.tenant.toNat default) with win:=cutW (s.tenants.getD e.tenant.toNat default).win e.tick },s.cells,s.proven,s.evac,s.low,s.high⟩:St):=by simp[zae,zai,zbc,zaK,zaR,zav,zaA,zaQ,hk]
  rw[hef];refine⟨⟨cap2,cap3⟩,(by (first | rw[hw,hwh] | rw[hw]);first | rfl | simp),(by first | exact rfl | (show some (ABlk.row _ _ s.tenants.length _)=some (ABlk.row _ _ (List.set _ _ _).length _);rw[List.length_set];try rfl)),(by first | exact rfl | (show some (ABlk.row _ _ s.cells.length _)=some (ABlk.row _ _ (List.set _ _ _).length _);rw[List.length_set])),trivial⟩
 ·have hf:=ha.ent;simp[zca,zaN,inS,inR,fT,fC,fO,fE,fW,fN,hk] at hf;repeat (first | refine⟨fun h=>absurd h (by rw[hk];decide),fun _=>?_⟩ | refine⟨fun _=>?_,fun h=>absurd h (by rw[hk];decide)⟩ | refine⟨fun _=>?_,bt_⟩ | refine⟨bf_,fun _=>?_⟩)
  have hi:e.tenant.toNat<s.tenants.length:=by omega
  refine⟨⟨nl_,o_,o_⟩,?_⟩;repeat (first | refine⟨fun h=>absurd h (by rw[hk];decide),fun _=>?_⟩ | refine⟨fun _=>?_,fun h=>absurd h (by rw[hk];decide)⟩ | refine⟨fun _=>?_,bt_⟩ | refine⟨bf_,fun _=>?_⟩)
  refine⟨tsC { (s.tenants.getD e.tenant.toNat default) with next:=e.cell },(by first | rfl | (show zbx _ _ (tsC (List.getD _ _ _))=_;rw[za7 hi];rfl)),?_⟩;rw[za6 (by first | exact hi | (rw[List.length_set];exact hi))];try rw[List.set_set]
  have hef:zae s e=(⟨e.tick,s.count+1,s.tenants.set e.tenant.toNat { (s.tenants.getD e.tenant.toNat default) with next:=e.cell },s.cells,s.proven,s.evac,s.low,s.high⟩:St):=by simp[zae,zai,zbc,zaK,zaR,zav,zaA,zaQ,hk]
  rw[hef];refine⟨⟨cap2,cap3⟩,(by (first | rw[hw,hwh] | rw[hw]);first | rfl | simp),(by first | exact rfl | (show some (ABlk.row _ _ s.tenants.length _)=some (ABlk.row _ _ (List.set _ _ _).length _);rw[List.length_set];try rfl)),(by first | exact rfl | (show some (ABlk.row _ _ s.cells.length _)=some (ABlk.row _ _ (List.set _ _ _).length _);rw[List.length_set])),trivial⟩
 ·have hf:=ha.ent;simp[zca,zaN,inS,inR,fT,fC,fO,fE,fW,fN,hk] at hf;repeat (first | refine⟨fun h=>absurd h (by rw[hk];decide),fun _=>?_⟩ | refine⟨fun _=>?_,fun h=>absurd h (by rw[hk];decide)⟩ | refine⟨fun _=>?_,bt_⟩ | refine⟨bf_,fun _=>?_⟩)
  have hi:e.tenant.toNat<s.tenants.length:=by omega
  refine⟨⟨nl_,o_,o_⟩,?_⟩;repeat (first | refine⟨fun h=>absurd h (by rw[hk];decide),fun _=>?_⟩ | refine⟨fun _=>?_,fun h=>absurd h (by rw[hk];decide)⟩ | refine⟨fun _=>?_,bt_⟩ | refine⟨bf_,fun _=>?_⟩)
  refine⟨tsC { (s.tenants.getD e.tenant.toNat default) with standby:=e.cell },(by first | rfl | (show zbx _ _ (tsC (List.getD _ _ _))=_;rw[za7 hi];rfl)),?_⟩;rw[za6 (by first | exact hi | (rw[List.length_set];exact hi))];try rw[List.set_set]
  refine⟨tsC { (s.tenants.getD e.tenant.toNat default) with standby:=e.cell,next:=-1 },(by first | rfl | (show zbx _ _ (tsC (List.getD _ _ _))=_;rw[za7 hi];rfl)),?_⟩;rw[za6 (by first | exact hi | (rw[List.length_set];exact hi))];try rw[List.set_set]
  have hef:zae s e=(⟨e.tick,s.count+1,s.tenants.set e.tenant.toNat { (s.tenants.getD e.tenant.toNat default) with standby:=e.cell,next:=-1 },s.cells,s.proven,s.evac,s.low,s.high⟩:St):=by simp[zae,zai,zbc,zaK,zaR,zav,zaA,zaQ,hk]
  rw[hef];refine⟨⟨cap2,cap3⟩,(by (first | rw[hw,hwh] | rw[hw]);first | rfl | simp),(by first | exact rfl | (show some (ABlk.row _ _ s.tenants.length _)=some (ABlk.row _ _ (List.set _ _ _).length _);rw[List.length_set];try rfl)),(by first | exact rfl | (show some (ABlk.row _ _ s.cells.length _)=some (ABlk.row _ _ (List.set _ _ _).length _);rw[List.length_set])),trivial⟩
 ·have hf:=ha.ent;simp[zca,zaN,inS,inR,fT,fC,fO,fE,fW,fN,hk] at hf;repeat (first | refine⟨fun h=>absurd h (by rw[hk];decide),fun _=>?_⟩ | refine⟨fun _=>?_,fun h=>absurd h (by rw[hk];decide)⟩ | refine⟨fun _=>?_,bt_⟩ | refine⟨bf_,fun _=>?_⟩)
  have hi:e.tenant.toNat<s.tenants.length:=by omega
  refine⟨⟨nl_,o_,o_⟩,?_⟩;repeat (first | refine⟨fun h=>absurd h (by rw[hk];decide),fun _=>?_⟩ | refine⟨fun _=>?_,fun h=>absurd h (by rw[hk];decide)⟩ | refine⟨fun _=>?_,bt_⟩ | refine⟨bf_,fun _=>?_⟩)
  refine⟨tsC { (s.tenants.getD e.tenant.toNat default) with target:=e.cell },(by first | rfl | (show zbx _ _ (tsC (List.getD _ _ _))=_;rw[za7 hi];rfl)),?_⟩;rw[za6 (by first | exact hi | (rw[List.length_set];exact hi))];try rw[List.set_set]
  have hef:zae s e=(⟨e.tick,s.count+1,s.tenants.set e.tenant.toNat { (s.tenants.getD e.tenant.toNat default) with target:=e.cell },s.cells,s.proven,s.evac,s.low,s.high⟩:St):=by simp[zae,zai,zbc,zaK,zaR,zav,zaA,zaQ,hk]
  rw[hef];refine⟨⟨cap2,cap3⟩,(by (first | rw[hw,hwh] | rw[hw]);first | rfl | simp),(by first | exact rfl | (show some (ABlk.row _ _ s.tenants.length _)=some (ABlk.row _ _ (List.set _ _ _).length _);rw[List.length_set];try rfl)),(by first | exact rfl | (show some (ABlk.row _ _ s.cells.length _)=some (ABlk.row _ _ (List.set _ _ _).length _);rw[List.length_set])),trivial⟩
 ·have hf:=ha.ent;simp[zca,zaN,inS,inR,fT,fC,fO,fE,fW,fN,hk] at hf;repeat (first | refine⟨fun h=>absurd h (by rw[hk];decide),fun _=>?_⟩ | refine⟨fun _=>?_,fun h=>absurd h (by rw[hk];decide)⟩ | refine⟨fun _=>?_,bt_⟩ | refine⟨bf_,fun _=>?_⟩)
  have hi:e.tenant.toNat<s.tenants.length:=by omega
  refine⟨⟨nl_,o_,o_⟩,?_⟩;repeat (first | refine⟨fun h=>absurd h (by rw[hk];decide),fun _=>?_⟩ | refine⟨fun _=>?_,fun h=>absurd h (by rw[hk];decide)⟩ | refine⟨fun _=>?_,bt_⟩ | refine⟨bf_,fun _=>?_⟩)
  refine⟨tsC { (s.tenants.getD e.tenant.toNat default) with target:=-1 },(by first | rfl | (show zbx _ _ (tsC (List.getD _ _ _))=_;rw[za7 hi];rfl)),?_⟩;rw[za6 (by first | exact hi | (rw[List.length_set];exact hi))];try rw[List.set_set]
  have hef:zae s e=(⟨e.tick,s.count+1,s.tenants.set e.tenant.toNat { (s.tenants.getD e.tenant.toNat default) with target:=-1 },s.cells,s.proven,s.evac,s.low,s.high⟩:St):=by simp[zae,zai,zbc,zaK,zaR,zav,zaA,zaQ,hk]
  rw[hef];refine⟨⟨cap2,cap3⟩,(by (first | rw[hw,hwh] | rw[hw]);first | rfl | simp),(by first | exact rfl | (show some (ABlk.row _ _ s.tenants.length _)=some (ABlk.row _ _ (List.set _ _ _).length _);rw[List.length_set];try rfl)),(by first | exact rfl | (show some (ABlk.row _ _ s.cells.length _)=some (ABlk.row _ _ (List.set _ _ _).length _);rw[List.length_set])),trivial⟩
 ·have hf:=ha.ent;simp[zca,zaN,inS,inR,fT,fC,fO,fE,fW,fN,hk] at hf;repeat (first | refine⟨fun h=>absurd h (by rw[hk];decide),fun _=>?_⟩ | refine⟨fun _=>?_,fun h=>absurd h (by rw[hk];decide)⟩ | refine⟨fun _=>?_,bt_⟩ | refine⟨bf_,fun _=>?_⟩)
  have hi:e.tenant.toNat<s.tenants.length:=by omega
  refine⟨⟨nl_,o_,o_⟩,?_⟩;repeat (first | refine⟨fun h=>absurd h (by rw[hk];decide),fun _=>?_⟩ | refine⟨fun _=>?_,fun h=>absurd h (by rw[hk];decide)⟩ | refine⟨fun _=>?_,bt_⟩ | refine⟨bf_,fun _=>?_⟩)
  refine⟨tsC { (s.tenants.getD e.tenant.toNat default) with shed:=(e.n==1) },(by first | rfl | (show zbx _ _ (tsC (List.getD _ _ _))=_;rw[za7 hi];rfl)),?_⟩;rw[za6 (by first | exact hi | (rw[List.length_set];exact hi))];try rw[List.set_set]
  refine⟨fun h8=>?_,fun h8=>?_⟩
  ·change ((s.tenants.set e.tenant.toNat { (s.tenants.getD e.tenant.toNat default) with shed:=(e.n==1) }).getD e.tenant.toNat default).shed=true at h8;rw[za7 hi] at h8;have hn:e.n=1:=by simpa using h8
   refine⟨tsC { (s.tenants.getD e.tenant.toNat default) with shed:=(e.n==1),target:=-1 },(by first | rfl | (show zbx _ _ (tsC (List.getD _ _ _))=_;rw[za7 hi];rfl)),?_⟩;rw[za6 (by first | exact hi | (rw[List.length_set];exact hi))];try rw[List.set_set]
   rw[show (e.n==1)=true by rw[hn];rfl];have hef:zae s e=(⟨e.tick,s.count+1,s.tenants.set e.tenant.toNat { (s.tenants.getD e.tenant.toNat default) with shed:=true,target:=-1 },s.cells,s.proven,s.evac,s.low,s.high⟩:St):=by simp[zae,zai,zbc,zaK,zaR,zav,zaA,zaQ,hk,hn]
   rw[hef];refine⟨⟨cap2,cap3⟩,(by (first | rw[hw,hwh] | rw[hw]);first | rfl | simp),(by first | exact rfl | (show some (ABlk.row _ _ s.tenants.length _)=some (ABlk.row _ _ (List.set _ _ _).length _);rw[List.length_set];try rfl)),(by first | exact rfl | (show some (ABlk.row _ _ s.cells.length _)=some (ABlk.row _ _ (List.set _ _ _).length _);rw[List.length_set])),trivial⟩
  ·change ((s.tenants.set e.tenant.toNat { (s.tenants.getD e.tenant.toNat default) with shed:=(e.n==1) }).getD e.tenant.toNat default).shed=false at h8;rw[za7 hi] at h8;have hn:¬ e.n=1:=by simpa using h8
   rw[show (e.n==1)=false by simp[hn]];have hef:zae s e=(⟨e.tick,s.count+1,s.tenants.set e.tenant.toNat { (s.tenants.getD e.tenant.toNat default) with shed:=false },s.cells,s.proven,s.evac,s.low,s.high⟩:St):=by simp[zae,zai,zbc,zaK,zaR,zav,zaA,zaQ,hk,hn]
   rw[hef];refine⟨⟨cap2,cap3⟩,(by (first | rw[hw,hwh] | rw[hw]);first | rfl | simp),(by first | exact rfl | (show some (ABlk.row _ _ s.tenants.length _)=some (ABlk.row _ _ (List.set _ _ _).length _);rw[List.length_set];try rfl)),(by first | exact rfl | (show some (ABlk.row _ _ s.cells.length _)=some (ABlk.row _ _ (List.set _ _ _).length _);rw[List.length_set])),trivial⟩
 ·have hf:=ha.ent;simp[zca,zaN,inS,inR,fT,fC,fO,fE,fW,fN,hk] at hf;repeat (first | refine⟨fun h=>absurd h (by rw[hk];decide),fun _=>?_⟩ | refine⟨fun _=>?_,fun h=>absurd h (by rw[hk];decide)⟩ | refine⟨fun _=>?_,bt_⟩ | refine⟨bf_,fun _=>?_⟩)
  have hi:e.cell.toNat<s.cells.length:=by omega
  refine⟨⟨nl_,o_,o_⟩,?_⟩;repeat (first | refine⟨fun h=>absurd h (by rw[hk];decide),fun _=>?_⟩ | refine⟨fun _=>?_,fun h=>absurd h (by rw[hk];decide)⟩ | refine⟨fun _=>?_,bt_⟩ | refine⟨bf_,fun _=>?_⟩)
  refine⟨csC { (s.cells.getD e.cell.toNat default) with mode:=e.n },(by first | rfl | (show zbx _ _ (csC (List.getD _ _ _))=_;rw[za7 hi];rfl)),?_⟩;rw[za6 (by first | exact hi | (rw[List.length_set];exact hi))];try rw[List.set_set]
  refine⟨kp_,?_⟩;refine⟨csC { (s.cells.getD e.cell.toNat default) with mode:=e.n,since:=e.tick },(by first | rfl | (show zbx _ _ (csC (List.getD _ _ _))=_;rw[za7 hi];rfl)),?_⟩;rw[za6 (by first | exact hi | (rw[List.length_set];exact hi))];try rw[List.set_set]
  have hef:zae s e=(⟨e.tick,s.count+1,s.tenants,s.cells.set e.cell.toNat { (s.cells.getD e.cell.toNat default) with mode:=e.n,since:=e.tick },s.proven,s.evac,s.low,s.high⟩:St):=by simp[zae,zai,zbc,zaK,zaR,zav,zaA,zaQ,hk]
  rw[hef];refine⟨⟨cap2,cap3⟩,(by (first | rw[hw,hwh] | rw[hw]);first | rfl | simp),(by first | exact rfl | (show some (ABlk.row _ _ s.tenants.length _)=some (ABlk.row _ _ (List.set _ _ _).length _);rw[List.length_set];try rfl)),(by first | exact rfl | (show some (ABlk.row _ _ s.cells.length _)=some (ABlk.row _ _ (List.set _ _ _).length _);rw[List.length_set])),trivial⟩
 ·have hf:=ha.ent;simp[zca,zaN,inS,inR,fT,fC,fO,fE,fW,fN,hk] at hf;repeat (first | refine⟨fun h=>absurd h (by rw[hk];decide),fun _=>?_⟩ | refine⟨fun _=>?_,fun h=>absurd h (by rw[hk];decide)⟩ | refine⟨fun _=>?_,bt_⟩ | refine⟨bf_,fun _=>?_⟩)
  have hi:e.cell.toNat<s.cells.length:=by omega
  refine⟨⟨nl_,o_,o_⟩,?_⟩;repeat (first | refine⟨fun h=>absurd h (by rw[hk];decide),fun _=>?_⟩ | refine⟨fun _=>?_,fun h=>absurd h (by rw[hk];decide)⟩ | refine⟨fun _=>?_,bt_⟩ | refine⟨bf_,fun _=>?_⟩)
  refine⟨csC { (s.cells.getD e.cell.toNat default) with wanted:=e.n },(by first | rfl | (show zbx _ _ (csC (List.getD _ _ _))=_;rw[za7 hi];rfl)),?_⟩;rw[za6 (by first | exact hi | (rw[List.length_set];exact hi))];try rw[List.set_set]
  have hef:zae s e=(⟨e.tick,s.count+1,s.tenants,s.cells.set e.cell.toNat { (s.cells.getD e.cell.toNat default) with wanted:=e.n },s.proven,s.evac,s.low,s.high⟩:St):=by simp[zae,zai,zbc,zaK,zaR,zav,zaA,zaQ,hk]
  rw[hef];refine⟨⟨cap2,cap3⟩,(by (first | rw[hw,hwh] | rw[hw]);first | rfl | simp),(by first | exact rfl | (show some (ABlk.row _ _ s.tenants.length _)=some (ABlk.row _ _ (List.set _ _ _).length _);rw[List.length_set];try rfl)),(by first | exact rfl | (show some (ABlk.row _ _ s.cells.length _)=some (ABlk.row _ _ (List.set _ _ _).length _);rw[List.length_set])),trivial⟩
 ·have hf:=ha.ent;simp[zca,zaN,inS,inR,fT,fC,fO,fE,fW,fN,hk] at hf;repeat (first | refine⟨fun h=>absurd h (by rw[hk];decide),fun _=>?_⟩ | refine⟨fun _=>?_,fun h=>absurd h (by rw[hk];decide)⟩ | refine⟨fun _=>?_,bt_⟩ | refine⟨bf_,fun _=>?_⟩)
  have hi:e.cell.toNat<s.cells.length:=by omega
  refine⟨⟨nl_,o_,o_⟩,?_⟩;repeat (first | refine⟨fun h=>absurd h (by rw[hk];decide),fun _=>?_⟩ | refine⟨fun _=>?_,fun h=>absurd h (by rw[hk];decide)⟩ | refine⟨fun _=>?_,bt_⟩ | refine⟨bf_,fun _=>?_⟩)
  refine⟨csC { (s.cells.getD e.cell.toNat default) with running:=e.n },(by first | rfl | (show zbx _ _ (csC (List.getD _ _ _))=_;rw[za7 hi];rfl)),?_⟩;rw[za6 (by first | exact hi | (rw[List.length_set];exact hi))];try rw[List.set_set]
  refine⟨kp_,?_⟩;refine⟨csC { (s.cells.getD e.cell.toNat default) with running:=e.n,since:=e.tick },(by first | rfl | (show zbx _ _ (csC (List.getD _ _ _))=_;rw[za7 hi];rfl)),?_⟩;rw[za6 (by first | exact hi | (rw[List.length_set];exact hi))];try rw[List.set_set]
  have hef:zae s e=(⟨e.tick,s.count+1,s.tenants,s.cells.set e.cell.toNat { (s.cells.getD e.cell.toNat default) with running:=e.n,since:=e.tick },s.proven,s.evac,s.low,s.high⟩:St):=by simp[zae,zai,zbc,zaK,zaR,zav,zaA,zaQ,hk]
  rw[hef];refine⟨⟨cap2,cap3⟩,(by (first | rw[hw,hwh] | rw[hw]);first | rfl | simp),(by first | exact rfl | (show some (ABlk.row _ _ s.tenants.length _)=some (ABlk.row _ _ (List.set _ _ _).length _);rw[List.length_set];try rfl)),(by first | exact rfl | (show some (ABlk.row _ _ s.cells.length _)=some (ABlk.row _ _ (List.set _ _ _).length _);rw[List.length_set])),trivial⟩
 ·have hf:=ha.ent;simp[zca,zaN,inS,inR,fT,fC,fO,fE,fW,fN,hk] at hf;repeat (first | refine⟨fun h=>absurd h (by rw[hk];decide),fun _=>?_⟩ | refine⟨fun _=>?_,fun h=>absurd h (by rw[hk];decide)⟩ | refine⟨fun _=>?_,bt_⟩ | refine⟨bf_,fun _=>?_⟩)
  refine⟨o_,?_⟩;have hx:=zhG s.proven e.n o_ o_ o_ o_;have hef:zae s e=(⟨e.tick,s.count+1,s.tenants,s.cells,zhH s.proven e.n,s.evac,s.low,s.high⟩:St):=by rw[hx];simp[zae,zai,hk]
  rw[hef];refine⟨⟨cap2,cap3⟩,(by (first | rw[hw,hwh] | rw[hw]);first | rfl | simp),(by first | exact rfl | (show some (ABlk.row _ _ s.tenants.length _)=some (ABlk.row _ _ (List.set _ _ _).length _);rw[List.length_set];try rfl)),(by first | exact rfl | (show some (ABlk.row _ _ s.cells.length _)=some (ABlk.row _ _ (List.set _ _ _).length _);rw[List.length_set])),trivial⟩
 ·have hf:=ha.ent;simp[zca,zaN,inS,inR,fT,fC,fO,fE,fW,fN,hk] at hf;repeat (first | refine⟨fun h=>absurd h (by rw[hk];decide),fun _=>?_⟩ | refine⟨fun _=>?_,fun h=>absurd h (by rw[hk];decide)⟩ | refine⟨fun _=>?_,bt_⟩ | refine⟨bf_,fun _=>?_⟩)
  have hke:zh1 s e=0:=by have:=ha.kind;unfold zaD at this;simpa [hk] using this
  have hke:zc2 s.evac e.other=!decide (e.n=1):=by unfold zh1 at hke;grind
  refine⟨fun h8=>?_,fun h8=>?_⟩
  ·refine⟨o_,?_⟩;have hn:e.n=1:=by simpa using h8
   have hx:=zn5 s.evac e.other o_ o_ o_ o_ (by simpa [hn] using hke);have hef:zae s e=(⟨e.tick,s.count+1,s.tenants,s.cells,s.proven,zhH s.evac e.other,s.low,s.high⟩:St):=by rw[hx];simp[zae,zai,hk]
   rw[hef];refine⟨⟨cap2,cap3⟩,(by (first | rw[hw,hwh] | rw[hw]);first | rfl | simp),(by first | exact rfl | (show some (ABlk.row _ _ s.tenants.length _)=some (ABlk.row _ _ (List.set _ _ _).length _);rw[List.length_set];try rfl)),(by first | exact rfl | (show some (ABlk.row _ _ s.cells.length _)=some (ABlk.row _ _ (List.set _ _ _).length _);rw[List.length_set])),trivial⟩
  ·refine⟨o_,?_⟩;have hn:¬ e.n=1:=by simpa using h8
   have hx:=zl0 s.evac e.other o_ o_ o_ o_ (by simpa [hn] using hke);have hef:zae s e=(⟨e.tick,s.count+1,s.tenants,s.cells,s.proven,zmB s.evac e.other,s.low,s.high⟩:St):=by rw[hx];simp[zae,zai,hk]
   rw[hef];refine⟨⟨cap2,cap3⟩,(by (first | rw[hw,hwh] | rw[hw]);first | rfl | simp),(by first | exact rfl | (show some (ABlk.row _ _ s.tenants.length _)=some (ABlk.row _ _ (List.set _ _ _).length _);rw[List.length_set];try rfl)),(by first | exact rfl | (show some (ABlk.row _ _ s.cells.length _)=some (ABlk.row _ _ (List.set _ _ _).length _);rw[List.length_set])),trivial⟩
 ·have hf:=ha.ent;simp[zca,zaN,inS,inR,fT,fC,fO,fE,fW,fN,hk] at hf;repeat (first | refine⟨fun h=>absurd h (by rw[hk];decide),fun _=>?_⟩ | refine⟨fun _=>?_,fun h=>absurd h (by rw[hk];decide)⟩ | refine⟨fun _=>?_,bt_⟩ | refine⟨bf_,fun _=>?_⟩)
  have hwh:IntKind.i64.wrap (s.high+1)=s.high+1:=zaf o_;have hef:zae s e=(⟨e.tick,s.count+1,s.tenants,s.cells,s.proven,s.evac,s.low,s.high+1⟩:St):=by simp[zae,zai,zbc,zaK,zaR,zav,zaA,zaQ,hk]
  rw[hef];refine⟨⟨cap2,cap3⟩,(by (first | rw[hw,hwh] | rw[hw]);first | rfl | simp),(by first | exact rfl | (show some (ABlk.row _ _ s.tenants.length _)=some (ABlk.row _ _ (List.set _ _ _).length _);rw[List.length_set];try rfl)),(by first | exact rfl | (show some (ABlk.row _ _ s.cells.length _)=some (ABlk.row _ _ (List.set _ _ _).length _);rw[List.length_set])),trivial⟩
 ·have hf:=ha.ent;simp[zca,zaN,inS,inR,fT,fC,fO,fE,fW,fN,hk] at hf;repeat (first | refine⟨fun h=>absurd h (by rw[hk];decide),fun _=>?_⟩ | refine⟨fun _=>?_,fun h=>absurd h (by rw[hk];decide)⟩ | refine⟨fun _=>?_,bt_⟩ | refine⟨bf_,fun _=>?_⟩)
  have hef:zae s e=(⟨e.tick,s.count+1,s.tenants,s.cells,s.proven,s.evac,s.high,s.high⟩:St):=by simp[zae,zai,zbc,zaK,zaR,zav,zaA,zaQ,hk]
  rw[hef];refine⟨⟨cap2,cap3⟩,(by (first | rw[hw,hwh] | rw[hw]);first | rfl | simp),(by first | exact rfl | (show some (ABlk.row _ _ s.tenants.length _)=some (ABlk.row _ _ (List.set _ _ _).length _);rw[List.length_set];try rfl)),(by first | exact rfl | (show some (ABlk.row _ _ s.cells.length _)=some (ABlk.row _ _ (List.set _ _ _).length _);rw[List.length_set])),trivial⟩
 ·have hf:=ha.ent;simp[zca,zaN,inS,inR,fT,fC,fO,fE,fW,fN,hk] at hf;repeat (first | refine⟨fun h=>absurd h (by rw[hk];decide),fun _=>?_⟩ | refine⟨fun _=>?_,fun h=>absurd h (by rw[hk];decide)⟩ | refine⟨fun _=>?_,bt_⟩ | refine⟨bf_,fun _=>?_⟩)
  have hef:zae s e=(⟨e.tick,s.count+1,s.tenants,s.cells,s.proven,s.evac,s.low,s.high⟩:St):=by simp[zae,zai,zbc,zaK,zaR,zav,zaA,zaQ,hk]
  rw[hef];refine⟨⟨cap2,cap3⟩,(by (first | rw[hw,hwh] | rw[hw]);first | rfl | simp),(by first | exact rfl | (show some (ABlk.row _ _ s.tenants.length _)=some (ABlk.row _ _ (List.set _ _ _).length _);rw[List.length_set];try rfl)),(by first | exact rfl | (show some (ABlk.row _ _ s.cells.length _)=some (ABlk.row _ _ (List.set _ _ _).length _);rw[List.length_set])),trivial⟩
theorem efFok:zaY Tryz.prog efF (zbj efD):=za0 (zk1.i _) (za0 (zk2.i _) (za0 (zad zg6 za3 mixed k_ Tryz.func104 rfl k_ d_) (za0 (zad zg6 (za0 (zad zg6 za3 mixed k_ Tryz.func160 rfl k_ d_) za3) mixed k_ Tryz.func105 rfl k_ d_) za3)))
theorem keepsO {mem:AM} {a b:Nat} {y:StK} {s:St} (h:keeps mem (stMO ⟨a,b,0⟩ s)):SlO mem 12 tsC default s.tenants (slc a s.tenants.length y.ct) a/\SlO mem 4 csC default s.cells (slc b s.cells.length y.cc) b:=
 ⟨⟨_,_,_,_,_,rfl,rfl,h.1,rfl,nl_,fun k hk=>rfl⟩,⟨_,_,_,_,_,rfl,rfl,h.2.1,rfl,nl_,fun k hk=>rfl⟩⟩
theorem zlS (c:Cfg) (y:StA) (s:St) (e:Ent) (w:World) (hV:CfgV c) (hI:StInv c s) (ha:Acc c s e) (hs:StOk w (·<w.heap.size) y s) :
  Calls Tryz.prog 39 #[.agg (stC y s),.agg (zbe e).toArray] w fun r w'=>∃ y2,r=.returned (.agg (stC y2 (zae s e)))/\StOwn2 w.heap.size w' y2 (zae s e)/\Below w.heap.size w w':=by
 have:=zcA zg6 efFok Tryz.func39 rfl (D:=efD) k_ (vs:=[stV SN1 (sk y) s,entV' e]) rfl noX noC y s noA noS w (zdB _ _) hs (zbt w _) (fun v hv=>by
  simp only[List.mem_cons,List.not_mem_nil,or_false] at hv
  rcases hv with rfl | rfl
  ·exact zb1 noX noC y s noA noS
  ·exact (zag (zap e) _ _).2) (zn7 c (sk y) s e hV hI ha)
 rw[List.map_cons,zcf,List.map_cons,(zag (zap e) _ 0).1] at this;refine this.mono ?_;rintro r w' ⟨v,mem',nx',ρ',rfl,⟨y3,rfl,hk⟩,hv,hm',hb⟩;obtain⟨y2,e1,e2⟩:=hm'.own2 rfl d_ (keepsO (y:=y3) hk).1 (keepsO (y:=y3) hk).2;exact⟨y2,congrArg Ending.returned e1,e2,hb⟩
def ctEff:CT:=fun vs mem nx K=>∃ M y s e,vs=[stV M y s,entV' e]/\(HasRow mem M.t 12 tsC default s.tenants/\HasRow mem M.c 4 csC default s.cells)/\(∃ c,CfgV c/\StInv c s/\Acc c s e)/\∀ y2,K (stV ⟨nx+1,nx,0⟩ y2 (zae s e)) (stMO ⟨nx+1,nx,0⟩ (zae s e)++mem) (nx+2)
theorem effOk:CSound Tryz.prog 39 ctEff:=⟨k_,fun {C ρ fr mem nx a w vs K} hc hs hv=>by
 obtain⟨M,y,s,e,rfl,⟨h1,h2⟩,⟨c,hV,hI,ha⟩,hK⟩:=hc;rw[List.map_cons,zc3,List.map_cons,(zag (zap e) _ 0).1];refine (zlS c (stX ρ M y) s e w hV hI ha (hs.stRow h1 h2)).mono ?_;rintro e w' ⟨y2,rfl,ho,hb⟩;obtain⟨q1,q2,q3,q4⟩:=hs.addOwnSt hb ho
 exact⟨_,_,_,_,by rw[q2],hK ⟨y2.ct,y2.cc⟩,q1,q3,q4⟩⟩
theorem zd1 {s:St} {k:Int} (h:0<=k/\k<s.cells.length):zcO s k=(zaQ s k).mode:=if_pos h
theorem shedE_m {c:Cfg} {s:St} {e:Ent} {t:TS} (hI:StInv c s) (h:zaA s e.tenant=t) (hT:TsInv c t):zee s e=if e.n=0 then (if t.shed=false then 4 else if zcO s t.home=3 then 6 else 0) else if t.placed=false∨t.shed=true then 4 else if e.tick<t.win.till then 9 else 0:=by
 unfold zee;rw[h];by_cases hsh:t.shed=true
 ·rw[zd1 ⟨hT.placed (hT.shed hsh),by have:=hT.home;have:=hI.lc;omega⟩]
 ·simp[hsh]
theorem placeE_m {c:Cfg} {s:St} {e:Ent} {t:TS} (h:zaA s e.tenant=t) (hcl:0<=e.cell/\e.cell<s.cells.length) (hot:e.other=-1∨(0<=e.other/\e.other<s.cells.length)) :
  zbL c s e=if t.placed=true then 4 else if zcO s e.cell≠1∨(e.other≠-1/\zcO s e.other≠1) then 6 else if zb2 c s e.cell=true∨(e.other≠-1/\zb2 c s e.other=true) then 12 else if ze4 c e.tenant e.cell=false∨(e.other≠-1/\ze4 c e.tenant e.other=false)∨zbh c e.cell e.other=true then 11 else 0:=by
 unfold zbL;rw[h,zd1 hcl];rcases hot with ho | ho
 ·simp[ho]
 ·rw[zd1 ho]
theorem zki {c:Cfg} {s:St} {e:Ent} {t:TS} (h:zaA s e.tenant=t) (hT:TsInv c t) (hcl:e.cell=-1∨(0<=e.cell/\e.cell<s.cells.length)) :
  zbp c s e=if t.placed=false then 4 else if e.cell=-1 then 0 else if e.cell=t.home∨e.cell=t.standby∨e.cell=t.target then 5 else if zcO s e.cell≠1 then 6 else if zb2 c s e.cell=true then 12 else if ze4 c e.tenant e.cell=false∨zco c e.cell t.home=false∨zbh c e.cell t.target=true then 11 else 0:=by
 unfold zbp;rw[h];by_cases hpl:t.placed=true
 ·rcases hcl with ho | ho
  ·simp[ho]
  ·have hh:=hT.placed hpl;rw[zd1 ho];have hne:t.home≠-1:=by omega
   simp[zbh,hne]
 ·simp[hpl]
def ctPMode:CT:=fun vs mem nx K=>∃ M y s k,vs=[stV M y s,.int .i64 k]/\(keeps mem (stM M s))/\(s.cells.length<=100)/\K (.int .i64 (zcO s k)) mem nx
theorem pModeOk:CSound Tryz.prog 154 ctPMode:=(zfM (R:=fun l z=>∃ s k,l=[.st s,.vl (.int .i64 k)]/\z=.int .i64 (zcO s k)) (pre:=fun l=>∃ s k,l=[.st s,.vl (.int .i64 k)]/\(s.cells.length<=100)) k_ (by
 rintro ps w ⟨s,k,hps,hpre⟩ hok;obtain⟨y,ps0,rfl,hps0⟩:=dt_s hps;obtain⟨ps1,rfl,hps1⟩:=zif hps0;obtain rfl:=zdE hps1;have hps:=hok (.st y s) (by simp);refine (zhl y s k w hpre hps).mono ?_;rintro e w' ⟨rfl,hb⟩
 exact⟨_,⟨s,k,rfl,rfl⟩,trivial,rfl,hb⟩)).mono (by
 rintro vs mem nx K ⟨M,y,s,k,rfl,hk,hpre,hK⟩
 exact⟨[.st M y s,.vl _],rfl,⟨hk,trivial,trivial⟩,⟨_,_,rfl,hpre⟩,by rintro z ⟨s',k',hl,hz⟩;cases hl;subst hz;exact hK⟩)
def ctPFrozen:CT:=fun vs mem nx K=>∃ N x c M y s k,vs=[zaX N x c,stV M y s,.int .i64 k]/\(keeps mem (zcH N c)/\keeps mem (stM M s))/\(CfgV c/\StInv c s)/\K (.bool (zb2 c s k)) mem nx
theorem zms:CSound Tryz.prog 155 ctPFrozen:=(zfM (R:=fun l z=>∃ c s k,l=[.cf c,.st s,.vl (.int .i64 k)]/\z=.bool (zb2 c s k)) (pre:=fun l=>∃ c s k,l=[.cf c,.st s,.vl (.int .i64 k)]/\(CfgV c/\StInv c s)) k_ (by
 rintro ps w ⟨c,s,k,hps,hpre⟩ hok;obtain⟨x,ps0,rfl,hps0⟩:=dt_c hps;obtain⟨y,ps1,rfl,hps1⟩:=dt_s hps0;obtain⟨ps2,rfl,hps2⟩:=zif hps1;obtain rfl:=zdE hps2;have hpc:=hok (.cf x c) (by simp);have hps:=hok (.st y s) (by simp);refine (zhn x c y s k w hpre.1 hpc hpre.2).mono ?_;rintro e w' ⟨rfl,hb⟩
 exact⟨_,⟨c,s,k,rfl,rfl⟩,trivial,rfl,hb⟩)).mono (by
 rintro vs mem nx K ⟨N,x,c,M,y,s,k,rfl,hk,hpre,hK⟩
 exact⟨[.cf N x c,.st M y s,.vl _],rfl,⟨hk.1,hk.2,trivial,trivial⟩,⟨_,_,_,rfl,hpre⟩,by rintro z ⟨c',s',k',hl,hz⟩;cases hl;subst hz;exact hK⟩)
def ctPMay:CT:=fun vs mem nx K=>∃ N x c t k,vs=[zaX N x c,.int .i64 t,.int .i64 k]/\(keeps mem (zcH N c))/\(CfgV c)/\K (.bool (ze4 c t k)) mem nx
theorem pMayOk:CSound Tryz.prog 156 ctPMay:=(zfM (R:=fun l z=>∃ c t k,l=[.cf c,.vl (.int .i64 t),.vl (.int .i64 k)]/\z=.bool (ze4 c t k)) (pre:=fun l=>∃ c t k,l=[.cf c,.vl (.int .i64 t),.vl (.int .i64 k)]/\(CfgV c)) k_ (by
 rintro ps w ⟨c,t,k,hps,hpre⟩ hok;obtain⟨x,ps0,rfl,hps0⟩:=dt_c hps;obtain⟨ps1,rfl,hps1⟩:=zif hps0;obtain⟨ps2,rfl,hps2⟩:=zif hps1;obtain rfl:=zdE hps2;have hpc:=hok (.cf x c) (by simp);refine (zgH x c t k w hpre hpc).mono ?_;rintro e w' ⟨rfl,hb⟩
 exact⟨_,⟨c,t,k,rfl,rfl⟩,trivial,rfl,hb⟩)).mono (by
 rintro vs mem nx K ⟨N,x,c,t,k,rfl,hk,hpre,hK⟩
 exact⟨[.cf N x c,.vl _,.vl _],rfl,⟨hk,trivial,trivial,trivial⟩,⟨_,_,_,rfl,hpre⟩,by rintro z ⟨c',t',k',hl,hz⟩;cases hl;subst hz;exact hK⟩)
def ctPApart:CT:=fun vs mem nx K=>∃ N x c t k,vs=[zaX N x c,.int .i64 t,.int .i64 k]/\(keeps mem (zcH N c))/\(CfgV c)/\K (.bool (zco c t k)) mem nx
theorem pApartOk:CSound Tryz.prog 158 ctPApart:=(zfM (R:=fun l z=>∃ c t k,l=[.cf c,.vl (.int .i64 t),.vl (.int .i64 k)]/\z=.bool (zco c t k)) (pre:=fun l=>∃ c t k,l=[.cf c,.vl (.int .i64 t),.vl (.int .i64 k)]/\(CfgV c)) k_ (by
 rintro ps w ⟨c,t,k,hps,hpre⟩ hok;obtain⟨x,ps0,rfl,hps0⟩:=dt_c hps;obtain⟨ps1,rfl,hps1⟩:=zif hps0;obtain⟨ps2,rfl,hps2⟩:=zif hps1;obtain rfl:=zdE hps2;have hpc:=hok (.cf x c) (by simp);refine (zdr x c t k w hpre hpc).mono ?_;rintro e w' ⟨rfl,hb⟩
 exact⟨_,⟨c,t,k,rfl,rfl⟩,trivial,rfl,hb⟩)).mono (by
 rintro vs mem nx K ⟨N,x,c,t,k,rfl,hk,hpre,hK⟩
 exact⟨[.cf N x c,.vl _,.vl _],rfl,⟨hk,trivial,trivial,trivial⟩,⟨_,_,_,rfl,hpre⟩,by rintro z ⟨c',t',k',hl,hz⟩;cases hl;subst hz;exact hK⟩)
def ctPNear:CT:=fun vs mem nx K=>∃ N x c t k,vs=[zaX N x c,.int .i64 t,.int .i64 k]/\(keeps mem (zcH N c))/\(CfgV c)/\K (.bool (zbh c t k)) mem nx
theorem pNearOk:CSound Tryz.prog 157 ctPNear:=(zfM (R:=fun l z=>∃ c t k,l=[.cf c,.vl (.int .i64 t),.vl (.int .i64 k)]/\z=.bool (zbh c t k)) (pre:=fun l=>∃ c t k,l=[.cf c,.vl (.int .i64 t),.vl (.int .i64 k)]/\(CfgV c)) k_ (by
 rintro ps w ⟨c,t,k,hps,hpre⟩ hok;obtain⟨x,ps0,rfl,hps0⟩:=dt_c hps;obtain⟨ps1,rfl,hps1⟩:=zif hps0;obtain⟨ps2,rfl,hps2⟩:=zif hps1;obtain rfl:=zdE hps2;have hpc:=hok (.cf x c) (by simp);refine (zko x c t k w hpre hpc).mono ?_;rintro e w' ⟨rfl,hb⟩
 exact⟨_,⟨c,t,k,rfl,rfl⟩,trivial,rfl,hb⟩)).mono (by
 rintro vs mem nx K ⟨N,x,c,t,k,rfl,hk,hpre,hK⟩
 exact⟨[.cf N x c,.vl _,.vl _],rfl,⟨hk,trivial,trivial,trivial⟩,⟨_,_,_,rfl,hpre⟩,by rintro z ⟨c',t',k',hl,hz⟩;cases hl;subst hz;exact hK⟩)
def rfF:FT:=[(154,ctPMode),(155,ctPFrozen),(156,ctPMay),(158,ctPApart),(157,ctPNear)]
theorem ziB:FTok Tryz.prog rfF:=zan pModeOk (zan zms (zan pMayOk (zan pApartOk (zan pNearOk zb7))))
theorem tsMem {s:St} {k:Int} (h0:0<=k) (h1:k<s.tenants.length):zaA s k ∈ s.tenants:=by
 unfold zaA;rw[gd_,List.getElem?_eq_getElem (show k.toNat<s.tenants.length by omega)];exact List.getElem_mem _
theorem zhq (x:CfgK) (c:Cfg) (y:StK) (s:St) (e:Ent) (hV:CfgV c) (hI:StInv c s) (ht0:0<=e.tenant) (ht1:e.tenant<s.tenants.length) :
  sx tt rfF [] (za1 Tryz.f93) (zb3 0 [stV SN1 y s,entV' e]) (rdM noC s noS) 10 (zb8 tt Tryz.f93.results.toList fun v _ _=>v=.int .i64 (zcv s e)/\zbJ v):=by
 have hnc:=hV.nc;have hlc:=hI.lc;have hP:=(show zcv s e=if (zaA s e.tenant).placed=false∨(zaA s e.tenant).target=-1 then 4 else 0 from rfl);unfold zaA at hP;repeat' (first | refine⟨fun _=>?_,bt_⟩ | refine⟨bf_,fun _=>?_⟩ | refine⟨fun _=>?_,fun _=>?_⟩ | refine⟨⟨nl_,ht0,ht1⟩,?_⟩ | (refine⟨congrArg (Value.int .i64) ?_,trivial⟩;rw[hP];grind))
theorem zgM (c:Cfg) (y:StA) (s:St) (e:Ent) (w:World) (hV:CfgV c) (hI:StInv c s) (hs:StOk w (·<w.heap.size) y s) (ht0:0<=e.tenant) (ht1:e.tenant<s.tenants.length) :
  Calls Tryz.prog 93 #[.agg (stC y s),.agg (zbe e).toArray] w fun r w'=>r=.returned (.int .i64 (zcv s e))/\Below w.heap.size w w':=by
 have:=zbI ziB Tryz.func93 rfl (D:=[]) k_ (vs:=[stV SN1 (sk y) s,entV' e]) rfl noX noC y s noA noS w (zdB _ _) hs (zbt w _) (fun v hv=>by
  simp only[List.mem_cons,List.not_mem_nil,or_false] at hv
  rcases hv with rfl | rfl
  ·exact zb1 noX noC y s noA noS
  ·exact (zag (zap e) _ 10).2) (R:=fun v=>v=.int .i64 (zcv s e)) (zhq (ck noX) c (sk y) s e hV hI ht0 ht1)
 have e0:[stV SN1 (sk y) s,entV' e].map (den (rpl noX noC y s noA noS))=[.agg (stC y s),.agg (zbe e).toArray]:=by show [den _ _,den _ _]=_;exact congr (congrArg List.cons (zcf noX noC y s noA noS)) (congr (congrArg List.cons (zag (zap e) _ 10).1) rfl)
 rw[e0] at this;refine this.mono ?_;rintro r w' ⟨v,rfl,-,rfl,hb⟩;exact⟨rfl,hb⟩
theorem stCut_sx (x:CfgK) (c:Cfg) (y:StK) (s:St) (e:Ent) (hV:CfgV c) (hI:StInv c s) (ht0:0<=e.tenant) (ht1:e.tenant<s.tenants.length) :
  sx tt rfF [] (za1 Tryz.f96) (zb3 0 [stV SN1 y s,entV' e]) (rdM noC s noS) 10 (zb8 tt Tryz.f96.results.toList fun v _ _=>v=.int .i64 (cutE s e)/\zbJ v):=by
 have hnc:=hV.nc;have hlc:=hI.lc;have hP:=(show cutE s e=if (zaA s e.tenant).placed=false then 4 else if e.epoch≠(zaA s e.tenant).epoch then 7 else 0 from rfl);unfold zaA at hP;repeat' (first | refine⟨fun _=>?_,bt_⟩ | refine⟨bf_,fun _=>?_⟩ | refine⟨fun _=>?_,fun _=>?_⟩ | refine⟨⟨nl_,ht0,ht1⟩,?_⟩ | (refine⟨congrArg (Value.int .i64) ?_,trivial⟩;rw[hP];grind))
theorem zlV (c:Cfg) (y:StA) (s:St) (e:Ent) (w:World) (hV:CfgV c) (hI:StInv c s) (hs:StOk w (·<w.heap.size) y s) (ht0:0<=e.tenant) (ht1:e.tenant<s.tenants.length) :
  Calls Tryz.prog 96 #[.agg (stC y s),.agg (zbe e).toArray] w fun r w'=>r=.returned (.int .i64 (cutE s e))/\Below w.heap.size w w':=by
 have:=zbI ziB Tryz.func96 rfl (D:=[]) k_ (vs:=[stV SN1 (sk y) s,entV' e]) rfl noX noC y s noA noS w (zdB _ _) hs (zbt w _) (fun v hv=>by
  simp only[List.mem_cons,List.not_mem_nil,or_false] at hv
  rcases hv with rfl | rfl
  ·exact zb1 noX noC y s noA noS
  ·exact (zag (zap e) _ 10).2) (R:=fun v=>v=.int .i64 (cutE s e)) (stCut_sx (ck noX) c (sk y) s e hV hI ht0 ht1)
 have e0:[stV SN1 (sk y) s,entV' e].map (den (rpl noX noC y s noA noS))=[.agg (stC y s),.agg (zbe e).toArray]:=by show [den _ _,den _ _]=_;exact congr (congrArg List.cons (zcf noX noC y s noA noS)) (congr (congrArg List.cons (zag (zap e) _ 10).1) rfl)
 rw[e0] at this;refine this.mono ?_;rintro r w' ⟨v,rfl,-,rfl,hb⟩;exact⟨rfl,hb⟩
theorem zkm (x:CfgK) (c:Cfg) (y:StK) (s:St) (e:Ent) (hV:CfgV c) (hI:StInv c s) (ht0:0<=e.tenant) (ht1:e.tenant<s.tenants.length) (hcl:0<=e.cell/\e.cell<s.cells.length) :
  sx tt rfF [] (za1 Tryz.f91) (zb3 0 [stV SN1 y s,entV' e]) (rdM noC s noS) 10 (zb8 tt Tryz.f91.results.toList fun v _ _=>v=.int .i64 (zcX s e)/\zbJ v):=by
 have hnc:=hV.nc;have hlc:=hI.lc;have hP:=(show zcX s e=if (zaA s e.tenant).placed=false then 4 else if e.cell≠(zaA s e.tenant).next then 5 else if zcO s e.cell=3 then 6 else 0 by unfold zcX;rw[zd1 hcl]);unfold zaA at hP;repeat' (first | refine⟨fun _=>?_,bt_⟩ | refine⟨bf_,fun _=>?_⟩ | refine⟨fun _=>?_,fun _=>?_⟩ | refine⟨⟨nl_,ht0,ht1⟩,?_⟩ | refine⟨SN1,y,s,_,rfl,kp_,(by omega:s.cells.length<=100),?_⟩ | (refine⟨congrArg (Value.int .i64) ?_,trivial⟩;rw[hP];grind))
theorem zis (c:Cfg) (y:StA) (s:St) (e:Ent) (w:World) (hV:CfgV c) (hI:StInv c s) (hs:StOk w (·<w.heap.size) y s) (ht0:0<=e.tenant) (ht1:e.tenant<s.tenants.length) (hcl:0<=e.cell/\e.cell<s.cells.length) :
  Calls Tryz.prog 91 #[.agg (stC y s),.agg (zbe e).toArray] w fun r w'=>r=.returned (.int .i64 (zcX s e))/\Below w.heap.size w w':=by
 have:=zbI ziB Tryz.func91 rfl (D:=[]) k_ (vs:=[stV SN1 (sk y) s,entV' e]) rfl noX noC y s noA noS w (zdB _ _) hs (zbt w _) (fun v hv=>by
  simp only[List.mem_cons,List.not_mem_nil,or_false] at hv
  rcases hv with rfl | rfl
  ·exact zb1 noX noC y s noA noS
  ·exact (zag (zap e) _ 10).2) (R:=fun v=>v=.int .i64 (zcX s e)) (zkm (ck noX) c (sk y) s e hV hI ht0 ht1 hcl)
 have e0:[stV SN1 (sk y) s,entV' e].map (den (rpl noX noC y s noA noS))=[.agg (stC y s),.agg (zbe e).toArray]:=by show [den _ _,den _ _]=_;exact congr (congrArg List.cons (zcf noX noC y s noA noS)) (congr (congrArg List.cons (zag (zap e) _ 10).1) rfl)
 rw[e0] at this;refine this.mono ?_;rintro r w' ⟨v,rfl,-,rfl,hb⟩;exact⟨rfl,hb⟩
theorem zlP (x:CfgK) (c:Cfg) (y:StK) (s:St) (e:Ent) (hV:CfgV c) (hI:StInv c s) (ht0:0<=e.tenant) (ht1:e.tenant<s.tenants.length) :
  sx tt rfF [] (za1 Tryz.f94) (zb3 0 [stV SN1 y s,entV' e]) (rdM noC s noS) 10 (zb8 tt Tryz.f94.results.toList fun v _ _=>v=.int .i64 (zee s e)/\zbJ v):=by
 have hnc:=hV.nc;have hlc:=hI.lc;have hP:=(shedE_m (e:=e) hI rfl (hI.ten _ (tsMem ht0 ht1)));unfold zaA at hP;repeat' (first | refine⟨fun _=>?_,bt_⟩ | refine⟨bf_,fun _=>?_⟩ | refine⟨fun _=>?_,fun _=>?_⟩ | refine⟨⟨nl_,ht0,ht1⟩,?_⟩ | refine⟨SN1,y,s,_,rfl,kp_,(by omega:s.cells.length<=100),?_⟩ | (refine⟨congrArg (Value.int .i64) ?_,trivial⟩;rw[hP];grind))
theorem zkk (c:Cfg) (y:StA) (s:St) (e:Ent) (w:World) (hV:CfgV c) (hI:StInv c s) (hs:StOk w (·<w.heap.size) y s) (ht0:0<=e.tenant) (ht1:e.tenant<s.tenants.length) :
  Calls Tryz.prog 94 #[.agg (stC y s),.agg (zbe e).toArray] w fun r w'=>r=.returned (.int .i64 (zee s e))/\Below w.heap.size w w':=by
 have:=zbI ziB Tryz.func94 rfl (D:=[]) k_ (vs:=[stV SN1 (sk y) s,entV' e]) rfl noX noC y s noA noS w (zdB _ _) hs (zbt w _) (fun v hv=>by
  simp only[List.mem_cons,List.not_mem_nil,or_false] at hv
  rcases hv with rfl | rfl
  ·exact zb1 noX noC y s noA noS
  ·exact (zag (zap e) _ 10).2) (R:=fun v=>v=.int .i64 (zee s e)) (zlP (ck noX) c (sk y) s e hV hI ht0 ht1)
 have e0:[stV SN1 (sk y) s,entV' e].map (den (rpl noX noC y s noA noS))=[.agg (stC y s),.agg (zbe e).toArray]:=by show [den _ _,den _ _]=_;exact congr (congrArg List.cons (zcf noX noC y s noA noS)) (congr (congrArg List.cons (zag (zap e) _ 10).1) rfl)
 rw[e0] at this;refine this.mono ?_;rintro r w' ⟨v,rfl,-,rfl,hb⟩;exact⟨rfl,hb⟩
theorem zkn (x:CfgK) (c:Cfg) (y:StK) (s:St) (e:Ent) (hV:CfgV c) (hI:StInv c s) (ht0:0<=e.tenant) (ht1:e.tenant<s.tenants.length) (hcl:0<=e.cell/\e.cell<s.cells.length) (hot:e.other=-1∨(0<=e.other/\e.other<s.cells.length)) :
  sx tt rfF [] (za1 Tryz.f89) (zb3 0 [zaX CN1 x c,stV SN1 y s,entV' e]) (rdM c s noS) 10 (zb8 tt Tryz.f89.results.toList fun v _ _=>v=.int .i64 (zbL c s e)/\zbJ v):=by
 have hnc:=hV.nc;have hlc:=hI.lc;have hP:=(placeE_m (c:=c) (e:=e) rfl hcl hot);unfold zaA at hP;repeat' (first | refine⟨fun _=>?_,bt_⟩ | refine⟨bf_,fun _=>?_⟩ | refine⟨fun _=>?_,fun _=>?_⟩ | refine⟨⟨nl_,ht0,ht1⟩,?_⟩ | refine⟨SN1,y,s,_,rfl,kp_,(by omega:s.cells.length<=100),?_⟩ | refine⟨CN1,x,c,SN1,y,s,_,rfl,⟨kp_,kp_⟩,⟨hV,hI⟩,?_⟩ | refine⟨CN1,x,c,_,_,rfl,kp_,hV,?_⟩ | (refine⟨congrArg (Value.int .i64) ?_,trivial⟩;rw[hP];grind))
theorem ziu (x:CfgA) (c:Cfg) (y:StA) (s:St) (e:Ent) (w:World) (hV:CfgV c) (hc:CfgOk w (·<w.heap.size) x c) (hI:StInv c s) (hs:StOk w (·<w.heap.size) y s) (ht0:0<=e.tenant) (ht1:e.tenant<s.tenants.length) (hcl:0<=e.cell/\e.cell<s.cells.length) (hot:e.other=-1∨(0<=e.other/\e.other<s.cells.length)) :
  Calls Tryz.prog 89 #[.agg (zaH x c),.agg (stC y s),.agg (zbe e).toArray] w fun r w'=>r=.returned (.int .i64 (zbL c s e))/\Below w.heap.size w w':=by
 have:=zbI ziB Tryz.func89 rfl (D:=[]) k_ (vs:=[zaX CN1 (ck x) c,stV SN1 (sk y) s,entV' e]) rfl x c y s noA noS w hc hs (zbt w _) (fun v hv=>by
  simp only[List.mem_cons,List.not_mem_nil,or_false] at hv
  rcases hv with rfl | rfl | rfl
  ·exact zbw x c y s noA noS
  ·exact zb1 x c y s noA noS
  ·exact (zag (zap e) _ 10).2) (R:=fun v=>v=.int .i64 (zbL c s e)) (zkn (ck x) c (sk y) s e hV hI ht0 ht1 hcl hot)
 have e0:[zaX CN1 (ck x) c,stV SN1 (sk y) s,entV' e].map (den (rpl x c y s noA noS))=[.agg (zaH x c),.agg (stC y s),.agg (zbe e).toArray]:=by show [den _ _,den _ _,den _ _]=_;exact congr (congrArg List.cons (zcU x c y s noA noS)) (congr (congrArg List.cons (zcf x c y s noA noS)) (congr (congrArg List.cons (zag (zap e) _ 10).1) rfl))
 rw[e0] at this;refine this.mono ?_;rintro r w' ⟨v,rfl,-,rfl,hb⟩;exact⟨rfl,hb⟩
theorem zhm (x:CfgK) (c:Cfg) (y:StK) (s:St) (e:Ent) (hV:CfgV c) (hI:StInv c s) (ht0:0<=e.tenant) (ht1:e.tenant<s.tenants.length) (hcl:0<=e.cell/\e.cell<s.cells.length) :
  sx tt rfF [] (za1 Tryz.f92) (zb3 0 [zaX CN1 x c,stV SN1 y s,entV' e]) (rdM c s noS) 10 (zb8 tt Tryz.f92.results.toList fun v _ _=>v=.int .i64 (zbC c s e)/\zbJ v):=by
 have hnc:=hV.nc;have hlc:=hI.lc;have hP:=(show zbC c s e=if (zaA s e.tenant).placed=false∨(zaA s e.tenant).shed=true∨(zaA s e.tenant).target≠-1 then 4 else if e.cell=(zaA s e.tenant).home∨e.cell=(zaA s e.tenant).standby∨e.cell=(zaA s e.tenant).next then 5 else if zcO s e.cell≠1 then 6 else if zb2 c s e.cell=true then 12 else if ze4 c e.tenant e.cell=false∨zbh c e.cell (zaA s e.tenant).standby=true∨zbh c e.cell (zaA s e.tenant).next=true then 11 else 0 by unfold zbC;rw[zd1 hcl]);unfold zaA at hP;repeat' (first | refine⟨fun _=>?_,bt_⟩ | refine⟨bf_,fun _=>?_⟩ | refine⟨fun _=>?_,fun _=>?_⟩ | refine⟨⟨nl_,ht0,ht1⟩,?_⟩ | refine⟨SN1,y,s,_,rfl,kp_,(by omega:s.cells.length<=100),?_⟩ | refine⟨CN1,x,c,SN1,y,s,_,rfl,⟨kp_,kp_⟩,⟨hV,hI⟩,?_⟩ | refine⟨CN1,x,c,_,_,rfl,kp_,hV,?_⟩ | (refine⟨congrArg (Value.int .i64) ?_,trivial⟩;rw[hP];grind))
theorem zgL (x:CfgA) (c:Cfg) (y:StA) (s:St) (e:Ent) (w:World) (hV:CfgV c) (hc:CfgOk w (·<w.heap.size) x c) (hI:StInv c s) (hs:StOk w (·<w.heap.size) y s) (ht0:0<=e.tenant) (ht1:e.tenant<s.tenants.length) (hcl:0<=e.cell/\e.cell<s.cells.length) :
  Calls Tryz.prog 92 #[.agg (zaH x c),.agg (stC y s),.agg (zbe e).toArray] w fun r w'=>r=.returned (.int .i64 (zbC c s e))/\Below w.heap.size w w':=by
 have:=zbI ziB Tryz.func92 rfl (D:=[]) k_ (vs:=[zaX CN1 (ck x) c,stV SN1 (sk y) s,entV' e]) rfl x c y s noA noS w hc hs (zbt w _) (fun v hv=>by
  simp only[List.mem_cons,List.not_mem_nil,or_false] at hv
  rcases hv with rfl | rfl | rfl
  ·exact zbw x c y s noA noS
  ·exact zb1 x c y s noA noS
  ·exact (zag (zap e) _ 10).2) (R:=fun v=>v=.int .i64 (zbC c s e)) (zhm (ck x) c (sk y) s e hV hI ht0 ht1 hcl)
 have e0:[zaX CN1 (ck x) c,stV SN1 (sk y) s,entV' e].map (den (rpl x c y s noA noS))=[.agg (zaH x c),.agg (stC y s),.agg (zbe e).toArray]:=by show [den _ _,den _ _,den _ _]=_;exact congr (congrArg List.cons (zcU x c y s noA noS)) (congr (congrArg List.cons (zcf x c y s noA noS)) (congr (congrArg List.cons (zag (zap e) _ 10).1) rfl))
 rw[e0] at this;refine this.mono ?_;rintro r w' ⟨v,rfl,-,rfl,hb⟩;exact⟨rfl,hb⟩
theorem zhj (x:CfgK) (c:Cfg) (y:StK) (s:St) (e:Ent) (hV:CfgV c) (hI:StInv c s) (ht0:0<=e.tenant) (ht1:e.tenant<s.tenants.length) (hcl:e.cell=-1∨(0<=e.cell/\e.cell<s.cells.length)) :
  sx tt rfF [] (za1 Tryz.f90) (zb3 0 [zaX CN1 x c,stV SN1 y s,entV' e]) (rdM c s noS) 10 (zb8 tt Tryz.f90.results.toList fun v _ _=>v=.int .i64 (zbp c s e)/\zbJ v):=by
 have hnc:=hV.nc;have hlc:=hI.lc;have hP:=(zki (c:=c) (e:=e) rfl (hI.ten _ (tsMem ht0 ht1)) hcl);unfold zaA at hP;repeat' (first | refine⟨fun _=>?_,bt_⟩ | refine⟨bf_,fun _=>?_⟩ | refine⟨fun _=>?_,fun _=>?_⟩ | refine⟨⟨nl_,ht0,ht1⟩,?_⟩ | refine⟨SN1,y,s,_,rfl,kp_,(by omega:s.cells.length<=100),?_⟩ | refine⟨CN1,x,c,SN1,y,s,_,rfl,⟨kp_,kp_⟩,⟨hV,hI⟩,?_⟩ | refine⟨CN1,x,c,_,_,rfl,kp_,hV,?_⟩ | (refine⟨congrArg (Value.int .i64) ?_,trivial⟩;rw[hP];grind))
theorem zgJ (x:CfgA) (c:Cfg) (y:StA) (s:St) (e:Ent) (w:World) (hV:CfgV c) (hc:CfgOk w (·<w.heap.size) x c) (hI:StInv c s) (hs:StOk w (·<w.heap.size) y s) (ht0:0<=e.tenant) (ht1:e.tenant<s.tenants.length) (hcl:e.cell=-1∨(0<=e.cell/\e.cell<s.cells.length)) :
  Calls Tryz.prog 90 #[.agg (zaH x c),.agg (stC y s),.agg (zbe e).toArray] w fun r w'=>r=.returned (.int .i64 (zbp c s e))/\Below w.heap.size w w':=by
 have:=zbI ziB Tryz.func90 rfl (D:=[]) k_ (vs:=[zaX CN1 (ck x) c,stV SN1 (sk y) s,entV' e]) rfl x c y s noA noS w hc hs (zbt w _) (fun v hv=>by
  simp only[List.mem_cons,List.not_mem_nil,or_false] at hv
  rcases hv with rfl | rfl | rfl
  ·exact zbw x c y s noA noS
  ·exact zb1 x c y s noA noS
  ·exact (zag (zap e) _ 10).2) (R:=fun v=>v=.int .i64 (zbp c s e)) (zhj (ck x) c (sk y) s e hV hI ht0 ht1 hcl)
 have e0:[zaX CN1 (ck x) c,stV SN1 (sk y) s,entV' e].map (den (rpl x c y s noA noS))=[.agg (zaH x c),.agg (stC y s),.agg (zbe e).toArray]:=by show [den _ _,den _ _,den _ _]=_;exact congr (congrArg List.cons (zcU x c y s noA noS)) (congr (congrArg List.cons (zcf x c y s noA noS)) (congr (congrArg List.cons (zag (zap e) _ 10).1) rfl))
 rw[e0] at this;refine this.mono ?_;rintro r w' ⟨v,rfl,-,rfl,hb⟩;exact⟨rfl,hb⟩
end Go.Proofs.YtjnndjnpcelafaaGreat
