import Derived.WalkKit
import Derived.WalkSpells
import Derived.WalkLawsBesides
import Derived.Deep.QuietTactic
import Derived.BigQuiet
import Derived.Deep.Draws
import Derived.Lib.Hide
import Derived.Deep.AppendLies
import Derived.Maps.AppendAt
import Derived.Deep.Light
import Derived.Deep.LoopGhost
import Derived.Deep.DeepCutAuto
import Derived.Deep.CutBlock
import Derived.Handy
import Derived.Deep.RegionWith
import Derived.Deep.RegionHeld3
import Derived.ProofKit
import Derived.OpenShut
import Derived.Deep.Slices
import Derived.Deep.Fields
import Derived.ChangeSame
import Derived.ChangeOld
import Derived.Test.YtjnndjnpcelafaaGreatChecked
import Derived.Deep.MidRow
import Derived.Laws.StructEq
namespace Go.Proofs.YtjnndjnpcelafaaGreat
set_option maxHeartbeats 16000000
set_option maxRecDepth 100000
theorem bt_ {p:Prop}:true=false->p:=fun h=>Bool.noConfusion h
theorem bf_ {p:Prop}:false=true->p:=fun h=>Bool.noConfusion h
theorem o_ {p:Prop} (h:p:=by omega):p:=h
theorem d_ {p:Prop} (h:p:=by decide):p:=h
theorem k_ {p:Prop} (h:p:=by kernel_rfl):p:=h
theorem s_ {p:Prop} (h:p:=by first | omega | (simp[-List.getD_eq_getElem?_getD];done) | (simp[-List.getD_eq_getElem?_getD];omega)):p:=h
theorem na_ {p:Prop} (h:p:=by first | exact Nat.le_refl _ | omega):p:=h
theorem nb_ {p:Prop} (h:p:=by first | omega | (dsimp only;omega)):p:=h
theorem nl_ {n:Nat}:n<=n:=Nat.le_refl n
theorem il_ {n:Int}:n<=n:=Int.le_refl n
theorem gd_ {α:Type _} (l:List α) (i:Nat) (a:α):l.getD i a=l[i]?.getD a:=List.getD_eq_getElem?_getD
theorem nc_ {p:Prop} (h:p:=by first | (simp[zie,eqC1];done) | fail):p:=h
theorem kp_ {p : Prop} (h : p := by repeat (first | exact trivial | refine ⟨rfl, ?_⟩)) : p := h
open Go.RowKit
theorem zah {a b:Int} (h:a=b):Ending.returned (Value.int IntKind.i64 a)=Ending.returned (Value.int IntKind.i64 b):=by rw[h]
theorem zak {a b:Bool} (h:a=b):Ending.returned (Value.bool a)=Ending.returned (Value.bool b):=by rw[h]
def Blk (w:World) (g:Nat) (t:TypeId) (cs:Array Value):Prop:=w.heap[g]?=some (.cells cs t (0,0))
section
variable {w w':World} {g:Nat} {t:TypeId} {cs:Array Value}
theorem Blk.lt (h:Blk w g t cs):g<w.heap.size:=by
 rcases Nat.lt_or_ge g w.heap.size with hlt | hge
 ·exact hlt
 ·unfold Blk at h;rw[Array.getElem?_eq_none hge] at h;cases h
theorem Blk.cell (h:Blk w g t cs) (i:Nat):w.cell? ⟨g,i,none⟩=cs[i]?:=cell_of_row w g i cs t (0,0) h
theorem Blk.cell' (h:Blk w g t cs) {i:Nat} {v:Value} (hv:cs[i]?=some v):w.cell? ⟨g,i,none⟩=some v:=(h.cell i).trans hv
theorem Blk.frozen (h:Blk w g t cs) (i:Nat):w.frozen? ⟨g,i,none⟩=false:=by
 unfold Blk at h;simp[World.frozen?,h]
theorem Blk.new (w:World) (t:TypeId) (cs:Array Value):Blk (w.alloc (.cells cs t)) w.heap.size t cs:=heap_alloc_new w _
theorem Blk.drewN (h:Blk w g t cs) (n:Nat):Blk (w.drewN n) g t cs:=h
theorem Blk.alloc (h:Blk w g t cs) (o:Obj):Blk (w.alloc o) g t cs:=(Below.heap_alloc w o g h.lt).trans h
theorem Blk.set_ (h:Blk w g t cs) (i:Nat) (u:Value):Blk (w.setCell ⟨g,i,none⟩ u) g t (cs.setIfInBounds i u):=by
 unfold Blk at h ⊢;simp[World.setCell,Array.getElem?_modify,h]
theorem Blk.far (h:Blk w g t cs) {p:Addr} (hp:g≠p.block) (u:Value):Blk (w.setCell p u) g t cs:=(Below.heap_setCell w p u g hp).trans h
theorem Blk.below {B:Nat} (h:Blk w g t cs) (hb:Below B w w') (hg:g<B):Blk w' g t cs:=(hb.block g hg).trans h
theorem Blk.grown {row:Option Nat} (h:Blk w g t cs) (hb:w.grownBy w' row) (hg:some g≠row):Blk w' g t cs:=(hb.block g h.lt hg).trans h
end
def Rd (w:World) (S:Nat->Prop) (A:Option Addr) (xs:List Value):Prop:=
 xs≠[]->∃ b off,A=some ⟨b,off,none⟩/\S b/\∀ j v,xs[j]?=some v->w.cell? ⟨b,off+j,none⟩=some v
section
variable {w w':World} {S S':Nat->Prop} {A:Option Addr} {xs:List Value}
theorem Rd.at_ (h:Rd w S A xs) {k:Nat} (hk:k<xs.length):∃ b off,A=some ⟨b,off,none⟩/\S b/\∀ j v,xs[j]?=some v->w.cell? ⟨b,off+j,none⟩=some v:=
 h (by rintro rfl;simp at hk)
theorem Rd.keep (h:Rd w S A xs) (hk:∀ k,S k->w'.heap[k]?=w.heap[k]?):Rd w' S A xs:=fun hx=>by
 obtain⟨b,off,e,hb,hc⟩:=h hx;exact⟨b,off,e,hb,fun j v hv=>(World.cell?_of_block (hk b hb)).trans (hc j v hv)⟩
theorem Rd.more (h:Rd w S A xs) (hB:∀ b,S b->S' b):Rd w S' A xs:=fun hx=>by
 obtain⟨b,off,e,hb,hc⟩:=h hx;exact⟨b,off,e,hB b hb,hc⟩
theorem Rd.below {B:Nat} (h:Rd w S A xs) (hb:Below B w w') (hS:∀ b,S b->b<B):Rd w' S A xs:=h.keep fun k hk=>hb.block k (hS k hk)
theorem Rd.grown (h:Rd w S A xs) {row:Option Nat} (hg:w.grownBy w' row) (hr:∀ k,S k->some k≠row):Rd w' S A xs:=by
 intro hx;have hx':=hx;obtain⟨b,off,e,hb,hc⟩:=h hx;refine⟨b,off,e,hb,fun j v hv=>?_⟩;have hcell:=hc j v hv;exact hg.cell hcell (hr b hb)
theorem Rd.alloc (h:Rd w S A xs) (o:Obj):Rd (w.alloc o) S A xs:=fun hx=>by
 obtain⟨b,off,e,hb,hc⟩:=h hx;refine⟨b,off,e,hb,fun j v hv=>?_⟩;have hcell:=hc j v hv;rw[World.cell?_alloc_lt w o _ (World.block_lt_of_cell? w _ hcell)];exact hcell
theorem Rd.of_own {base:Nat} {e:TypeId} {size n c:Nat} (h:w.ownsRow base e size (.slice A n c) n xs):Rd w (fun b=>base<=b/\b<w.heap.size) A xs:=by
 intro hx;rcases h.2 with⟨h0,rfl⟩ | ⟨g,cap,cur,hv,hb,hh,_,_,_,hxs⟩
 ·exact absurd (List.eq_nil_of_length_eq_zero (by simpa using h.1)) hx
 ·injection hv with hA _ _
  refine⟨g,0,hA,⟨hb,Blk.lt hh⟩,fun j v hv=>?_⟩;rw[Blk.cell hh];have:cur.toList[j]?=some v:=by
   rw[← hxs,List.getElem?_take] at hv;split at hv
   ·exact hv
   ·cases hv
  simpa using this
end
section
variable {a w w':World} {row:Option Nat}
theorem zgw (w:World) (row:Option Nat):w.grownBy w row:=World.grownBy.refl w row
theorem zj0 (h:a.grownBy w row) (n:Nat):a.grownBy (w.drewN n) row:=⟨h.os,h.tape,h.output,h.size,h.block⟩
theorem zj1 (h:a.grownBy w row) (o:Obj):a.grownBy (w.alloc o) row:=
 ⟨h.os,h.tape,h.output,Nat.le_trans h.size (by simp),fun i hi hne=>(Below.heap_alloc w o i (Nat.lt_of_lt_of_le hi h.size)).trans (h.block i hi hne)⟩
theorem zgV {g:Nat} (h:a.grownBy w (some g)) {p:Addr} (hp:p.block=g∨a.heap.size<=p.block) (u:Value):a.grownBy (w.setCell p u) (some g):=
 ⟨h.os,h.tape,h.output,by simpa [World.setCell] using h.size,fun i hi hne=>(Below.heap_setCell w p u i (by
  rintro rfl
  rcases hp with hp | hp
  ·exact hne (by rw[hp])
  ·omega)).trans (h.block i hi hne)⟩
theorem zmS {g:Nat} (h:a.grownBy w (some g)) (i:Nat) (u:Value):a.grownBy (w.setCell ⟨g,i,none⟩ u) (some g):=zgV h (p:=⟨g,i,none⟩) (.inl rfl) u
end
theorem zcM {w:World} {base:Nat} {e:TypeId} {size:Nat} {v:Value} {n:Nat} {xs:List Value} (h:w.ownsRow base e size v n xs):∃ A c,v=.slice A n c:=by
 rcases h.2 with⟨rfl,rfl⟩ | ⟨g,cap,cur,rfl,_⟩
 ·exact⟨none,0,rfl⟩
 ·exact⟨_,_,rfl⟩
theorem zcY {w w':World} {base B:Nat} {e:TypeId} {size:Nat} {v:Value} {n:Nat} {xs:List Value} (h:w.ownsRow base e size v n xs) (hb:Below B w w') (hv:∀ k,v.ownBlock=some k->k<B):w'.ownsRow base e size v n xs:=by
 refine⟨h.1,h.2.imp id ?_⟩;rintro⟨g,cap,cur,rfl,hbs,hh,rest⟩;refine⟨g,cap,cur,rfl,hbs,?_,rest⟩;rw[hb.block g (hv g rfl)];exact hh
section
variable {P:Program} (w:World)
theorem zfF (base:Nat) (t ty e:TypeId) (i:TypeInfo) (size:Nat) (ht:P.underlying t=some (.slice e)) (hi:P.info? e=some i)
  (v:Value) (n:Nat) (xs:List Value) (hown:w.ownsRow base e size v n xs) (c:Nat):(Builtin.append_ #[t,t] ty #[v,.slice none 0 c]).run P w=.ok v w:=by
 rcases hown.2 with⟨rfl,rfl⟩ | ⟨g,cap,cur,rfl,_,_,hnc,_⟩
 ·simp[Builtin.append_,run_underlying ht,sizeOf,typeInfo,hi,Builtin.lenOf,Builtin.firstCells]
 ·simp[Builtin.append_,run_underlying ht,sizeOf,typeInfo,hi,Builtin.lenOf,Builtin.firstCells,hnc,storeCells]
theorem zaV {ops:Array Oper} {rest:List Oper} {o:Oper} {a:Act} {Q:Exit->Act->World->Prop} (hgd:o.guard=none) (s x:Operand) (t:TypeId)
  (ho:o.op=.call { callee:=.builtin .append,args:=#[s,x],argTypes:=#[t,t] })
  (base:Nat) (e:TypeId) (i:TypeInfo) (z:Value) (size bytes:Nat) (ht:P.underlying t=some (.slice e)) (hi:P.info? e=some i) (hz:i.zero=some z)
  (hsize:i.size=size) (hby:i.bytes=bytes) (hzs:z.cells.size=size) (hsz:0<size)
  (v:Value) (n:Nat) (xs:List Value) (hs:a.eval s=v) (hown:w.ownsRow base e size v n xs)
  (S:Nat->Prop) (A:Option Addr) (m c:Nat) (news:List Value) (hx:a.eval x=.slice A m c) (hl:news.length=m * size) (hr:Rd w S A news) (h1:∀ u ∈ news,u.oneCell'=true)
  (h63:n+m<=maxLen) (hbytes:(n+m) * bytes<=140737488355328) (hbase:base<=w.heap.size)
  (h:∀ v' w',w'.ownsRow base e size v' (n+m) (xs++news)->w.grownBy w' v.ownBlock->(v'.ownBlock=v.ownBlock∨v'.ownBlock=some w.heap.size)->wpList P ops Q rest (a.put o.dst v') w'):wpList P ops Q (o::rest) a w:=by
 refine wpList_plain hgd fun K hK=>?_
 have hrun:∃ v' w',(Builtin.append_ #[t,t] o.type #[v,.slice A m c]).run P w=.ok v' w'/\w'.ownsRow base e size v' (n+m) (xs++news)/\w.grownBy w' v.ownBlock/\(v'.ownBlock=v.ownBlock∨v'.ownBlock=some w.heap.size):=by
  rcases A with _ | ad
  ·have hn:news=[]:=by
    rcases Classical.em (news=[]) with h0 | h0
    ·exact h0
    ·obtain⟨b,off,hA,_⟩:=hr h0;cases hA
   subst hn;have hm:m=0:=by
    rcases Nat.eq_zero_or_pos m with h0 | h0
    ·exact h0
    ·have:0<m * size:=Nat.mul_pos h0 hsz;simp at hl;omega
   subst hm;exact⟨v,w,zfF w base t o.type e i size ht hi v n xs hown c,by simpa using hown,World.grownBy.refl w _,.inl rfl⟩
  ·obtain⟨v',w',hrun,h2,h3,_,h5⟩:=run_append_own_at (P:=P) w base t o.type e i z size bytes ht hi hz hsize hby hzs hsz v n xs hown ad m c news hl (by
    intro j u hu
    obtain⟨b,off,hA,_,hc⟩:=hr (by rintro rfl;simp at hu)
    injection hA with hA
    subst hA
    have:=hc j u hu
    unfold Addr.add
    split
    ·rename_i h0;subst h0;simpa using this
    ·exact this) h1 h63 hbytes hbase
   exact⟨v',w',hrun,h2,h3,h5⟩
 obtain⟨v',w',hrun,h2,h3,h4⟩:=hrun;unfold Oper.wp execOp;simp only[ho,resolve,invoke,builtin,Sem.run_bind,Sem.run_pure,Result.andThen_ok,List.map_toArray,List.map_cons,List.map_nil,hs,hx,hrun];exact hK _ _ (h v' w' h2 h3 h4)
end
end Go.Proofs.YtjnndjnpcelafaaGreat
namespace Go.Proofs.YtjnndjnpcelafaaGreat
open Go.ChangeShapes Go.WideShapes Go.Deep Go.RowKit
set_option linter.unusedSimpArgs false
set_option linter.unusedVariables false
theorem zgt {α β:Type} {f:α->β}:∀ {l:List β},(∀ c ∈ l,∃ e,c=f e)->∃ r:List α,l=r.map f
 | [],_=>⟨[],rfl⟩
 | c::l,h=>by
  obtain⟨e,he⟩:=h c (List.mem_cons_self ..)
  obtain⟨r,hr⟩:=zgt (l:=l) fun c hc=>h c (List.mem_cons_of_mem _ hc)
  exact⟨e::r,by rw[he,hr];rfl⟩
theorem zfX (sz:Nat):∀ (l:List (List Value)),(∀ c ∈ l,c.length=sz)->∀ (j:Nat) (v:Value),l.flatten[j]?=some v->∃ i k c,j=i * sz+k/\k<sz/\l[i]?=some c/\c[k]?=some v
 | [],_,j,v,h=>by simp at h
 | c::l,hl,j,v,h=>by
  have hc:=hl c (List.mem_cons_self ..)
  rw[List.flatten_cons,List.getElem?_append] at h
  split at h
  ·rename_i hlt
   exact⟨0,j,c,o_,o_,rfl,h⟩
  ·rename_i hge
   obtain⟨i,k,c',hj,hk,h1,h2⟩:=zfX sz l (fun c hc=>hl c (List.mem_cons_of_mem _ hc)) _ v h
   refine⟨i+1,k,c',?_,hk,by simpa using h1,h2⟩
   rw[Nat.add_mul]
   omega
section
variable {H:Type} {enc:TypeId×Value->H} {P:Program} {w:World} {base:Nat} {spare:Nat->Bool} {held:Bool}
theorem zmz {t e:TypeId} {fuel sz:Nat} {A:Option Addr} {len cap:Nat} {x:DataW H×List MemPlace} (ht:P.underlying t=some (.slice e)) (hsz:P.cellsOf e=sz) (hpos:0<sz)
  (h:DataW.trod enc P w base spare held fuel t [.slice A len cap]=some x) :
  len<=maxLen/\∃ css:List (List Value),css.length=len/\(∀ c ∈ css,c.length=sz/\∃ n y,DataW.trod enc P w base spare held n e c=some y)/\Rd w (·<w.heap.size) A css.flatten:=by
 rcases open_slice ht h with⟨h0,_⟩ | ⟨a,len',cap',m,n,D,Pl,hcs,hb,hl,hm,hmm,hx,hi⟩
 ·simp at h0;obtain⟨rfl,rfl,rfl⟩:=h0;exact⟨Nat.zero_le _,[],rfl,by simp,fun h=>absurd rfl h⟩
 ·simp at hcs;obtain⟨rfl,rfl,rfl⟩:=hcs;rw[hsz] at hi;have hlm:len<=m:=by rw[hmm];split<;>omega
  refine⟨o_,?_⟩;have hex:∀ k,k<=len->∃ css:List (List Value),css.length=k/\(∀ c ∈ css,c.length=sz/\∃ n y,DataW.trod enc P w base spare held n e c=some y)/\∀ i c,css[i]?=some c->w.cells? base (a.add (i * sz)) sz=some c:=by
   intro k;induction k with
   | zero=>exact fun _=>⟨[],rfl,by simp,by simp⟩
   | succ k ih=>
    intro hk;obtain⟨css,h1,h2,h3⟩:=ih o_;obtain⟨c,hc,hy⟩:=hi k o_;refine⟨css++[c],by simp[h1],?_,?_⟩
    ·intro c' hc';rcases List.mem_append.1 hc' with hc' | hc'
     ·exact h2 c' hc'
     ·rw[List.mem_singleton.1 hc'];exact⟨(World.cells?_some hc).2.1,_,_,hy⟩
    ·intro i c' hi';rw[List.getElem?_append] at hi';split at hi'
     ·exact h3 i c' hi'
     ·rename_i hge
      have:i-css.length=0:=by
       rcases Nat.eq_zero_or_pos (i-css.length) with h0 | h0
       ·exact h0
       ·rw[List.getElem?_eq_none (by simp;omega)] at hi';cases hi'
      rw[this] at hi';simp at hi';subst hi';have:i=k:=by omega
      subst this;exact hc
  obtain⟨css,h1,h2,h3⟩:=hex len nl_;refine⟨css,h1,h2,fun hne=>?_⟩;have hcell:∀ j v,css.flatten[j]?=some v->w.cell? (a.add j)=some v:=by
   intro j v hv;obtain⟨i,k,c,rfl,hk,hc,hck⟩:=zfX sz css (fun c hc=>(h2 c hc).1) j v hv;have:=(World.cells?_some (h3 i c hc)).2.2 k hk;rw[hck] at this;rwa[Go.Deep.add_add] at this
  obtain⟨v0,hv0⟩:∃ v,css.flatten[0]?=some v:=by
   cases hf:css.flatten with
   | nil=>exact absurd hf hne
   | cons v l=>exact⟨v,rfl⟩
  obtain⟨b,off,spot⟩:=a;have h0:=hcell 0 v0 hv0;have hspot:spot=none:=by simpa [Addr.add] using World.cell?_spot h0
  subst hspot;refine⟨b,off,rfl,?_,fun j v hv=>?_⟩
  ·have:=World.block_lt_of_cell? w _ h0;simpa [Addr.add] using this
  ·have:=hcell j v hv;unfold Addr.add at this;split at this
   ·rename_i hj;subst hj;simpa using this
   ·exact this
theorem zf9 {t e:TypeId} {fuel:Nat} {A:Option Addr} {len cap:Nat} {x:DataW H×List MemPlace} (ht:P.underlying t=some (.slice e)) (he:P.underlying e=some (.int .i64)) (hsz:P.cellsOf e=1)
  (h:DataW.trod enc P w base spare held fuel t [.slice A len cap]=some x) :
  len<=maxLen/\∃ zs:List Int,zs.length=len/\(∀ z ∈ zs,(Lit.int .i64 z).wf=true)/\Rd w (·<w.heap.size) A (zs.map (Value.int .i64)):=by
 obtain⟨hm,css,h1,h2,h3⟩:=zmz ht hsz o_ h;refine⟨hm,?_⟩;have hx:∀ c ∈ css,∃ e:{ z:Int // (Lit.int .i64 z).wf=true },c=[Value.int .i64 e.1]:=by
  intro c hc;obtain⟨_,n,y,hy⟩:=h2 c hc;obtain⟨z,rfl,_,hw⟩:=DataW.trod_int he hy;exact⟨⟨z,hw⟩,rfl⟩
 obtain⟨r,hr⟩:=zgt hx;refine⟨r.map (·.1),by rw[← h1,hr];simp,?_,?_⟩
 ·intro z hz;obtain⟨e,_,rfl⟩:=List.mem_map.1 hz;exact e.2
 ·have:css.flatten=(r.map (·.1)).map (Value.int .i64):=by
   rw[hr];clear hr;induction r with
   | nil=>rfl
   | cons a l ih=>simp at ih ⊢;exact ih
  rwa[this] at h3
end
end Go.Proofs.YtjnndjnpcelafaaGreat
namespace Go.Proofs.YtjnndjnpcelafaaGreat
open Go.ChangeShapes Go.WideShapes Go.ChangeAt Go.RowKit Go.Deep
theorem seatOwn:ownKnob Tryz.prog.godebug=none:=by kernel_rfl
theorem zjD:laidOutB Tryz.prog=true:=by kernel_rfl
end Go.Proofs.YtjnndjnpcelafaaGreat
/-! An abstract machine: frames and memory as lists,blocks by names. What it computes the program computes (XSxB,XSxC). -/
namespace Go.Proofs.YtjnndjnpcelafaaGreat
open Go.RowKit
set_option linter.unusedSimpArgs false
set_option linter.unusedVariables false
def lk {α:Type}:List (Nat×α)->Nat->Option α
 | [],_=>none
 | (k,v)::l,n=>match Nat.beq k n with | true=>some v | false=>lk l n
theorem zbM {α:Type} (k:Nat) (v:α) (l:List (Nat×α)):lk ((k,v)::l) k=some v:=by
 unfold lk;rw[show Nat.beq k k=true from Nat.beq_refl k]
theorem zcI {α:Type} {k n:Nat} (v:α) (l:List (Nat×α)) (h:k≠n):lk ((k,v)::l) n=lk l n:=by
 rw[lk];have:Nat.beq k n=false:=by
  cases hb:Nat.beq k n
  ·rfl
  ·exact absurd (Nat.eq_of_beq_eq_true hb) h
 rw[this]
theorem za9 {α:Type} {l r:List (Nat×α)} {n:Nat} {v:α} (h:lk l n=some v):lk (l++r) n=some v:=by
 induction l with
 | nil=>simp[lk] at h
 | cons p l ih=>
  obtain⟨k,u⟩:=p;rw[List.cons_append];by_cases hk:k=n
  ·subst hk;rw[zbM] at h ⊢;exact h
  ·rw[zcI _ _ hk] at h ⊢;exact ih h
theorem za5 {α:Type} {k n:Nat} {v u:α} {l:List (Nat×α)} (h:lk ((k,v)::l) n=some u):(k=n/\v=u)∨(k≠n/\lk l n=some u):=by
 by_cases hk:k=n
 ·subst hk;rw[zbM] at h;exact .inl ⟨rfl,Option.some.inj h⟩
 ·rw[zcI _ _ hk] at h;exact .inr ⟨hk,h⟩
structure SB where
 sz:Nat
 n:Nat
 el:Nat->List Value
inductive XB where
 | deep (t:TypeId) (sz n cap:Nat) (el:Nat->List Value) (u:Nat)
 | fam (t:TypeId) (sb:Nat->Nat->SB)
 | map (kk:IntKind) (agg:Bool) (f:Int->Option (List Value))
 | obj (S:List Nat) (Φ:List Nat->Nat->World->Prop)
inductive ABlk where
 | box (t:TypeId) (cs:List Value)
 | row (t:TypeId) (sz n:Nat) (el:Nat->List Value)
 | ext (e:XB)
abbrev AF:=List (Nat×Value)
abbrev AM:=List (Nat×ABlk)
structure Pl where
 A:Option Addr
 sz:Nat
 n:Nat
 res:Bool:=false
 sub:Nat->Nat->Option Addr:=fun _ _=>none
def za4:Nat->Nat->Option Addr:=fun _ _=>none
def dA (ρ:Nat->Pl) (a:Addr):Option Addr:=match a.spot,a.off with
 | none,0=>(ρ a.block).A
 | s,o=>(ρ a.block).A.map fun b=>⟨b.block,b.off+s.getD 0 * (ρ a.block).sz+o,none⟩
theorem zbG {ρ:Nat->Pl} {a:Addr} {b o:Nat} (h:(ρ a.block).A=some ⟨b,o,none⟩):dA ρ a=some ⟨b,o+a.spot.getD 0 * (ρ a.block).sz+a.off,none⟩:=by
 obtain⟨ab,ao,as_⟩:=a;simp only at h;unfold dA;cases as_ with
 | some k=>simp[h]
 | none=>cases ao with
  | zero=>simp[h]
  | succ n=>simp[h]
theorem zau {ρ:Nat->Pl} (i:Nat):dA ρ ⟨i,0,none⟩=(ρ i).A:=rfl
def dS (ρ:Nat->Pl) (a:Addr):Option Addr:=match a.spot with
 | none=>dA ρ a
 | some k=>(ρ a.block).sub k a.off
theorem zaq {ρ:Nat->Pl} (i:Nat):dS ρ ⟨i,0,none⟩=(ρ i).A:=rfl
def zal (ρ:Nat->Pl):Value->Value
 | .pointer (some a)=>.pointer (dA ρ a)
 | .slice (some a) n c=>.slice (dS ρ a) n c
 | .map (some i)=>.map ((ρ i).A.map (·.block))
 | v=>v
def zaW (ρ:Nat->Pl):Value->Value
 | .agg cs=>.agg (cs.map (zal ρ))
 | v=>zal ρ v
def den (ρ:Nat->Pl):Value->Value
 | .tuple vs=>.tuple (vs.map (zaW ρ))
 | .func f a b=>.func f (a.map (zal ρ)) (b.map (zal ρ))
 | v=>zaW ρ v
def ok1 (ρ:Nat->Pl) (n:Nat):Value->Prop
 | .pointer (some a)=>(a.block<n/\(ρ a.block).res=false)/\(∃ b o,(ρ a.block).A=some ⟨b,o,none⟩)/\∀ k,a.spot=some k->k<(ρ a.block).n
 | .slice (some a) _ _=>a.block<n/\(ρ a.block).res=false
 | .map (some i)=>(i<n/\(ρ i).res=false)/\∃ b o,(ρ i).A=some ⟨b,o,none⟩
 | _=>True
def ok2 (ρ:Nat->Pl) (n:Nat):Value->Prop
 | .agg cs=>∀ v ∈ cs,ok1 ρ n v
 | v=>ok1 ρ n v
def okV (ρ:Nat->Pl) (n:Nat):Value->Prop
 | .tuple vs=>∀ v ∈ vs,ok2 ρ n v
 | .func _ a b=>(∀ v ∈ a,ok1 ρ n v)/\∀ v ∈ b,ok1 ρ n v
 | v=>ok2 ρ n v
def zam:Value->Prop
 | .pointer (some _)=>False
 | .slice (some _) _ _=>False
 | .map (some _)=>False
 | _=>True
def dpl:Value->Prop
 | .pointer (some _)=>False
 | .map (some _)=>False
 | _=>True
def dpV (u k j:Nat):Value->Value
 | .slice (some _) n c=>.slice (some ⟨u,j,some k⟩) n c
 | v=>v
section
variable {ρ ρ':Nat->Pl} {n m:Nat}
theorem dA_congr (h:∀ i,i<n->(ρ i).res=false->ρ' i=ρ i) {a:Addr} (ha:a.block<n/\(ρ a.block).res=false):dA ρ' a=dA ρ a:=by unfold dA;rw[h _ ha.1 ha.2]
theorem dS_congr (h:∀ i,i<n->(ρ i).res=false->ρ' i=ρ i) {a:Addr} (ha:a.block<n/\(ρ a.block).res=false):dS ρ' a=dS ρ a:=by unfold dS dA;rw[h _ ha.1 ha.2]
theorem zbK (h:∀ i,i<n->(ρ i).res=false->ρ' i=ρ i):∀ {v:Value},ok1 ρ n v->zal ρ' v=zal ρ v:=by
 intro v hv;cases v with
 | pointer a=>cases a with
  | none=>rfl
  | some a=>simp only[zal];rw[dA_congr h hv.1]
 | slice a k c=>cases a with
  | none=>rfl
  | some a=>simp only[zal];rw[dS_congr h hv]
 | map a=>cases a with
  | none=>rfl
  | some i=>simp only[zal];rw[h i hv.1.1 hv.1.2]
 | _=>rfl
theorem ziN (v:Value):(∃ cs,v=.agg cs)∨((∀ ρ,zaW ρ v=zal ρ v)/\∀ ρ n,ok2 ρ n v=ok1 ρ n v):=by
 cases v with
 | agg cs=>exact .inl ⟨cs,rfl⟩
 | _=>exact .inr ⟨fun _=>rfl,fun _ _=>rfl⟩
theorem zeE (v:Value):(∃ cs,v=.tuple cs)∨(∃ f a b,v=.func f a b)∨((∀ ρ,den ρ v=zaW ρ v)/\∀ ρ n,okV ρ n v=ok2 ρ n v):=by
 cases v with
 | tuple cs=>exact .inl ⟨cs,rfl⟩
 | func f a b=>exact .inr (.inl ⟨f,a,b,rfl⟩)
 | _=>exact .inr (.inr ⟨fun _=>rfl,fun _ _=>rfl⟩)
theorem zgB (h:∀ i,i<n->(ρ i).res=false->ρ' i=ρ i):∀ {v:Value},ok2 ρ n v->zaW ρ' v=zaW ρ v:=by
 intro v hv;rcases ziN v with⟨cs,rfl⟩ | ⟨h1,h2⟩
 ·simp only[zaW];congr 1;exact Array.map_congr_left fun x hx=>zbK h (hv x hx)
 ·rw[h1,h1];exact zbK h (by rw[← h2];exact hv)
theorem zbQ (h:∀ i,i<n->(ρ i).res=false->ρ' i=ρ i):∀ {v:Value},okV ρ n v->den ρ' v=den ρ v:=by
 intro v hv;rcases zeE v with⟨cs,rfl⟩ | ⟨f,a,b,rfl⟩ | ⟨h1,h2⟩
 ·simp only[den];congr 1;exact Array.map_congr_left fun x hx=>zgB h (hv x hx)
 ·simp only[den];rw[Array.map_congr_left fun x hx=>zbK h (hv.1 x hx),Array.map_congr_left fun x hx=>zbK h (hv.2 x hx)]
 ·rw[h1,h1];exact zgB h (by rw[← h2];exact hv)
theorem zcs (hr:∀ i,i<n->(ρ i).res=false->ρ' i=ρ i) (h:n<=m):∀ {v:Value},ok1 ρ n v->ok1 ρ' m v:=by
 intro v hv;cases v with
 | pointer a=>cases a with
  | none=>trivial
  | some a=>exact⟨⟨Nat.lt_of_lt_of_le hv.1.1 h,by rw[hr _ hv.1.1 hv.1.2];exact hv.1.2⟩,by rw[hr _ hv.1.1 hv.1.2];exact hv.2⟩
 | slice a k c=>cases a with
  | none=>trivial
  | some a=>exact⟨Nat.lt_of_lt_of_le hv.1 h,by rw[hr _ hv.1 hv.2];exact hv.2⟩
 | map a=>cases a with
  | none=>trivial
  | some i=>exact⟨⟨Nat.lt_of_lt_of_le hv.1.1 h,by rw[hr _ hv.1.1 hv.1.2];exact hv.1.2⟩,by rw[hr _ hv.1.1 hv.1.2];exact hv.2⟩
 | _=>trivial
theorem zjL (hr:∀ i,i<n->(ρ i).res=false->ρ' i=ρ i) (h:n<=m):∀ {v:Value},ok2 ρ n v->ok2 ρ' m v:=by
 intro v hv;rcases ziN v with⟨cs,rfl⟩ | ⟨h1,h2⟩
 ·exact fun x hx=>zcs hr h (hv x hx)
 ·rw[h2] at hv ⊢;exact zcs hr h hv
theorem zc9 (hr:∀ i,i<n->(ρ i).res=false->ρ' i=ρ i) (h:n<=m):∀ {v:Value},okV ρ n v->okV ρ' m v:=by
 intro v hv;rcases zeE v with⟨cs,rfl⟩ | ⟨f,a,b,rfl⟩ | ⟨h1,h2⟩
 ·exact fun x hx=>zjL hr h (hv x hx)
 ·exact⟨fun x hx=>zcs hr h (hv.1 x hx),fun x hx=>zcs hr h (hv.2 x hx)⟩
 ·rw[h2] at hv ⊢;exact zjL hr h hv
theorem zaM:∀ {v:Value},zam v->zal ρ v=v:=by
 intro v hv;cases v with
 | pointer a=>cases a with
  | none=>rfl
  | some a=>exact hv.elim
 | slice a k c=>cases a with
  | none=>rfl
  | some a=>exact hv.elim
 | map a=>cases a with
  | none=>rfl
  | some a=>exact hv.elim
 | _=>rfl
theorem zbO:∀ {v:Value},zam v->ok1 ρ n v:=by
 intro v hv;cases v with
 | pointer a=>cases a with
  | none=>trivial
  | some a=>exact hv.elim
 | slice a k c=>cases a with
  | none=>trivial
  | some a=>exact hv.elim
 | map a=>cases a with
  | none=>trivial
  | some a=>exact hv.elim
 | _=>trivial
theorem zg1 (hu:ρ' m=ρ m) (k j:Nat) {v:Value} (hv:dpl v):zal ρ' (dpV m k j v)=zal ρ (dpV m k j v):=by
 cases v with
 | pointer a=>cases a with
  | none=>rfl
  | some a=>exact hv.elim
 | slice a n c=>cases a with
  | none=>rfl
  | some a=>simp only[dpV,zal,dS];rw[hu]
 | map a=>cases a with
  | none=>rfl
  | some a=>exact hv.elim
 | _=>rfl
theorem dpV_ok (hu:m<n/\(ρ m).res=false) (k j:Nat) {v:Value} (hv:dpl v):ok1 ρ n (dpV m k j v):=by
 cases v with
 | pointer a=>cases a with
  | none=>trivial
  | some a=>exact hv.elim
 | slice a n c=>cases a with
  | none=>trivial
  | some a=>exact hu
 | map a=>cases a with
  | none=>trivial
  | some a=>exact hv.elim
 | _=>trivial
end
structure Ctx where
 w0:World
 bor:List Nat
 n0:Nat
 ρ0:Nat->Pl
 nt:Nat
 ff:AF:=[]
 fm:AM:=[]
structure Rest (C:Ctx) (w:World):Prop where
 os:w.os=C.w0.os
 tape:w.tape=C.w0.tape
 output:w.output=C.w0.output
 size:C.w0.heap.size<=w.heap.size
 block:∀ b,b<C.w0.heap.size->b ∉ C.bor->w.heap[b]?=C.w0.heap[b]?
def zc1 (t:TypeId):Bool:=Nat.ble 1000000 t
def frT (t:TypeId):Bool:=Nat.ble 500000 t
theorem frT_own {t:TypeId} (h:zc1 t=true):frT t=true:=Nat.ble_eq_true_of_le (Nat.le_trans d_ (Nat.le_of_ble_eq_true h))
def Ctx.ok (C:Ctx) (b:Nat):Prop:=C.w0.heap.size<=b∨b ∈ C.bor
theorem Ctx.ok_nil {C:Ctx} (h:C.bor=[]) {b:Nat} (hb:C.ok b):C.w0.heap.size<=b:=hb.resolve_right (by rw[h];exact List.not_mem_nil)
structure RowA (S:Nat->Prop) (w:World) (t:TypeId) (b off:Nat):Prop where
 lt:b<w.heap.size
 own:zc1 t=true->off=0/\S b/\∃ ty cs,Blk w b ty cs
 new:frT t=true->S b
def zcW:Value->Bool
 | .agg _=>false
 | .tuple _=>false
 | .func _ _ _=>false
 | _=>true
def wrapC (agg:Bool) (l:List Value):Value:=match agg with | true=>.agg l.toArray | false=>l.headD .nilFunc
structure MapOk (kk:IntKind) (agg:Bool) (es:Array MapEntry) (clock:Nat) (f:Int->Option (List Value)):Prop where
 key:∀ e ∈ es.toList,∃ z l,e.key=.int kk z/\f z=some l/\e.val=wrapC agg l
 nod:(es.toList.map (·.key)).Nodup
 born:∀ e ∈ es.toList,e.born<clock
 bnd:(es.toList.map (·.born)).Nodup
 all:∀ z l,f z=some l->∃ e ∈ es.toList,e.key=.int kk z
 pl:∀ z l,f z=some l->(∀ u ∈ l,zam u)/\l.all zcW=true/\(agg=false->l.length=1)
def LocO (Φ:List Nat->Nat->World->Prop):Prop:=∀ S g (w w':World),(∀ b ∈ S,w'.heap[b]?=w.heap[b]?)->w.heap.size<=w'.heap.size->Φ S g w->Φ S g w'
def XOk (C:Ctx) (ρ:Nat->Pl) (nx i:Nat) (w:World):XB->Prop
 | .deep t sz n cap el u=>((ρ i).sz=sz/\(ρ i).n=n)/\(u<nx/\(ρ u).res=false)/\(∀ k,k<n->(el k).length=sz/\∀ v ∈ el k,dpl v)/\(n=0/\(zc1 t=true->cap=0)∨n≠0/\∃ b off,(ρ i).A=some ⟨b,off,none⟩/\RowA C.ok w t b off/\(zc1 t=true->∃ ty cs,Blk w b ty cs/\cap * sz<=cs.size)/\∀ k,k<n->∀ j v,(el k)[j]?=some v->w.cell? ⟨b,off+k * sz+j,none⟩=some (zal ρ (dpV u k j v)))
 | .fam t sb=>zc1 t=false/\∀ k o,(∀ j,j<(sb k o).n->(sb k o|>.el j).length=(sb k o).sz/\∀ v ∈ (sb k o).el j,zam v)/\((sb k o).n=0∨∃ b off,(ρ i).sub k o=some ⟨b,off,none⟩/\RowA C.ok w t b off/\∀ j,j<(sb k o).n->∀ q v,((sb k o).el j)[q]?=some v->w.cell? ⟨b,off+j * (sb k o).sz+q,none⟩=some v)
 | .map kk agg f=>∃ g es clock,(ρ i).A=some ⟨g,0,none⟩/\w.heap[g]?=some (.map es clock)/\(C.w0.heap.size<=g∨g ∈ C.bor)/\MapOk kk agg es clock f
 | .obj S Φ=>∃ g,(ρ i).A=some ⟨g,0,none⟩/\g ∈ S/\(∀ b ∈ S,b<w.heap.size/\C.ok b)/\LocO Φ/\Φ S g w
def BlkOk (C:Ctx) (ρ:Nat->Pl) (nx i:Nat) (w:World):ABlk->Prop
 | .ext e=>XOk C ρ nx i w e
 | .box t cs=>∃ g,(ρ i).A=some ⟨g,0,none⟩/\Blk w g t (cs.map (zal ρ)).toArray/\(C.w0.heap.size<=g∨g ∈ C.bor)/\∀ v ∈ cs,ok1 ρ nx v
 | .row t sz n el=>((ρ i).sz=sz/\(ρ i).n=n)/\(∀ k,k<n->(el k).length=sz/\∀ v ∈ el k,zam v)/\(n=0∨∃ b off,(ρ i).A=some ⟨b,off,none⟩/\RowA C.ok w t b off/\∀ k,k<n->∀ j v,(el k)[j]?=some v->w.cell? ⟨b,off+k * sz+j,none⟩=some v)
def bno (ρ:Nat->Pl) (i:Nat):Option Nat:=(ρ i).A.map (·.block)
def xrd (ρ:Nat->Pl) (i:Nat):XB->Nat->Prop
 | .deep _ _ n _ _ _,g=>n≠0/\bno ρ i=some g
 | .fam _ sb,g=>∃ k o,(sb k o).n≠0/\((ρ i).sub k o).map (·.block)=some g
 | .map _ _ _,g=>bno ρ i=some g
 | .obj S _,g=>g ∈ S
def xwr (ρ:Nat->Pl) (i:Nat):XB->Nat->Prop
 | .deep t _ n _ _ _,g=>zc1 t=true/\n≠0/\bno ρ i=some g
 | .fam _ _,_=>False
 | .map _ _ _,g=>bno ρ i=some g
 | .obj S _,g=>g ∈ S
def brd (ρ:Nat->Pl) (i:Nat):ABlk->Nat->Prop
 | .box _ _,g=>bno ρ i=some g
 | .row _ _ n _,g=>n≠0/\bno ρ i=some g
 | .ext e,g=>xrd ρ i e g
def bwr (ρ:Nat->Pl) (i:Nat):ABlk->Nat->Prop
 | .box _ _,g=>bno ρ i=some g
 | .row t _ n _,g=>zc1 t=true/\n≠0/\bno ρ i=some g
 | .ext e,g=>xwr ρ i e g
def Apart (ρ:Nat->Pl) (i j:Nat):ABlk->ABlk->Prop
 | .ext e,b'=>∀ g,xwr ρ i e g->¬ brd ρ j b' g
 | b,.ext e=>∀ g,bwr ρ i b g->¬ xrd ρ j e g
 | .box _ _,.box _ _=>bno ρ i≠bno ρ j
 | .box _ _,.row _ _ n _=>n=0∨bno ρ i≠bno ρ j
 | .row t _ n _,.row _ _ n' _=>zc1 t=true->n=0∨n'=0∨bno ρ i≠bno ρ j
 | _,_=>True
structure FrOk (ρ:Nat->Pl) (fr:AF) (nx:Nat) (a:Act):Prop where
 frm:∀ t v,lk fr t=some v->a.tmps[t]?=some (den ρ v)
 frk:∀ t v,lk fr t=some v->okV ρ nx v
structure Sat (C:Ctx) (ρ:Nat->Pl) (fr:AF) (mem:AM) (nx:Nat) (a:Act) (w:World):Prop where
 fok:FrOk ρ (fr++C.ff) nx a
 sz:a.tmps.size=C.nt
 dfr:a.defers=[]
 mlt:∀ i b,lk (mem++C.fm) i=some b->i<nx/\(ρ i).res=false
 blk:∀ i b,lk (mem++C.fm) i=some b->BlkOk C ρ nx i w b
 sep:∀ i j b b',i≠j->lk (mem++C.fm) i=some b->lk (mem++C.fm) j=some b'->Apart ρ i j b b'
 n0:C.n0<=nx
 low:∀ i,i<C.n0->ρ i=C.ρ0 i
 rest:Rest C w
section
variable {C:Ctx} {ρ:Nat->Pl} {fr:AF} {mem:AM} {nx:Nat} {a:Act} {w w':World}
theorem RowA.later {S:Nat->Prop} {t:TypeId} {b off:Nat} (h:RowA S w t b off) (hb:Below w.heap.size w w'):RowA S w' t b off:=
 ⟨Nat.lt_of_lt_of_le h.lt hb.size,fun ho=>by obtain⟨h1,h2,ty,cs,h3⟩:=h.own ho;exact⟨h1,h2,ty,cs,h3.below hb h3.lt⟩,h.new⟩
theorem ziZ {g:Nat} {o:Obj} (h:w.heap[g]?=some o):g<w.heap.size:=by
 rcases Nat.lt_or_ge g w.heap.size with q | q
 ·exact q
 ·rw[Array.getElem?_eq_none q] at h;cases h
theorem BlkOk.brd_lt {i:Nat} {b:ABlk} (h:BlkOk C ρ nx i w b) {g:Nat} (hg:brd ρ i b g):g<w.heap.size:=by
 cases b with
 | box t cs=>
  obtain⟨g',h1,h2,-⟩:=h;simp only[brd,bno,h1,Option.map_some,Option.some.injEq] at hg;subst hg;exact h2.lt
 | row t sz n el=>
  obtain⟨-,-,h3⟩:=h;obtain⟨hn,hg⟩:=hg;rcases h3 with h3 | ⟨b,off,hA,hlt,-⟩
  ·exact absurd h3 hn
  ·simp only[bno,hA,Option.map_some,Option.some.injEq] at hg;subst hg;exact hlt.lt
 | ext e=>cases e with
  | deep t sz n cap el u=>
   obtain⟨-,-,-,h3⟩:=h;obtain⟨hn,hg⟩:=hg;rcases h3 with h3 | ⟨-,b,off,hA,hlt,-⟩
   ·exact absurd h3.1 hn
   ·simp only[bno,hA,Option.map_some,Option.some.injEq] at hg;subst hg;exact hlt.lt
  | fam t sb=>
   obtain⟨k,o,hn,hg⟩:=hg;obtain⟨-,h⟩:=h;rcases (h k o).2 with h3 | ⟨b,off,hA,hlt,-⟩
   ·exact absurd h3 hn
   ·simp only[hA,Option.map_some,Option.some.injEq] at hg;subst hg;exact hlt.lt
  | map kk ag f=>
   obtain⟨g',es,cl,h1,h2,-⟩:=h;simp only[brd,xrd,bno,h1,Option.map_some,Option.some.injEq] at hg;subst hg;exact ziZ h2
  | obj S Φ=>
   obtain⟨g',h1,h2,h3,-⟩:=h;exact (h3 g hg).1
theorem BlkOk.far {i:Nat} {b:ABlk} (h:BlkOk C ρ nx i w b) (hs:w.heap.size<=w'.heap.size) (hf:∀ g,brd ρ i b g->w'.heap[g]?=w.heap[g]?):BlkOk C ρ nx i w' b:=by
 cases b with
 | box t cs=>
  obtain⟨g,h1,h2,h3,h4⟩:=h;exact⟨g,h1,(hf g (by simp[brd,bno,h1])).trans h2,h3,h4⟩
 | row t sz n el=>
  obtain⟨h1,h2,h3⟩:=h;refine⟨h1,h2,?_⟩;by_cases hn:n=0
  ·exact .inl hn
  ·obtain⟨b,off,hA,hlt,hc⟩:=h3.resolve_left hn;have hg:=hf b ⟨hn,by simp[bno,hA]⟩;refine .inr ⟨b,off,hA,⟨Nat.lt_of_lt_of_le hlt.lt hs,fun ho=>by obtain⟨h1,h2,ty,cs,h3⟩:=hlt.own ho;exact⟨h1,h2,ty,cs,hg.trans h3⟩,hlt.new⟩,fun k hk j v hv=>?_⟩;rw[World.cell?_of_block hg];exact hc k hk j v hv
 | ext e=>cases e with
  | deep t sz n cap el u=>
   obtain⟨h1,h2,h0,h3⟩:=h;refine⟨h1,h2,h0,?_⟩;rcases h3 with h3 | ⟨hn,b,off,hA,hlt,hcap,hc⟩
   ·exact .inl h3
   ·have hg:=hf b ⟨hn,by simp[bno,hA]⟩;refine .inr ⟨hn,b,off,hA,⟨Nat.lt_of_lt_of_le hlt.lt hs,fun ho=>by obtain⟨h1,h2,ty,cs,h3⟩:=hlt.own ho;exact⟨h1,h2,ty,cs,hg.trans h3⟩,hlt.new⟩,fun ho=>by obtain⟨ty,cs,h3,h4⟩:=hcap ho;exact⟨ty,cs,hg.trans h3,h4⟩,fun k hk j v hv=>?_⟩;rw[World.cell?_of_block hg];exact hc k hk j v hv
  | fam t sb=>
   refine⟨h.1,fun k o=>⟨(h.2 k o).1,?_⟩⟩;by_cases hn:(sb k o).n=0
   ·exact .inl hn
   ·obtain⟨b,off,hA,hlt,hc⟩:=(h.2 k o).2.resolve_left hn;have hg:=hf b ⟨k,o,hn,by simp[hA]⟩;refine .inr ⟨b,off,hA,⟨Nat.lt_of_lt_of_le hlt.lt hs,fun ho=>by obtain⟨h1,h2,ty,cs,h3⟩:=hlt.own ho;exact⟨h1,h2,ty,cs,hg.trans h3⟩,hlt.new⟩,fun k hk j v hv=>?_⟩;rw[World.cell?_of_block hg];exact hc k hk j v hv
  | map kk ag f=>
   obtain⟨g,es,cl,h1,h2,h3⟩:=h;exact⟨g,es,cl,h1,(hf g (by simp[brd,xrd,bno,h1])).trans h2,h3⟩
  | obj S Φ=>
   obtain⟨g,h1,h2,h3,h4,h5⟩:=h;exact⟨g,h1,h2,fun b hb=>⟨Nat.lt_of_lt_of_le (h3 b hb).1 hs,(h3 b hb).2⟩,h4,h4 S g w w' (fun b hb=>hf b hb) hs h5⟩
theorem BlkOk.later {i:Nat} {b:ABlk} (h:BlkOk C ρ nx i w b) (hb:Below w.heap.size w w'):BlkOk C ρ nx i w' b:=h.far hb.size fun g hg=>hb.block g (h.brd_lt hg)
theorem Rest.later (h:Rest C w) (hb:Below w.heap.size w w'):Rest C w':=
 ⟨hb.os.trans h.os,hb.tape.trans h.tape,hb.output.trans h.output,Nat.le_trans h.size hb.size,fun b hlt hn=>(hb.block b (Nat.lt_of_lt_of_le hlt h.size)).trans (h.block b hlt hn)⟩
theorem Sat.later (h:Sat C ρ fr mem nx a w) (hb:Below w.heap.size w w'):Sat C ρ fr mem nx a w':=
 ⟨h.fok,h.sz,h.dfr,h.mlt,fun i b hi=>(h.blk i b hi).later hb,h.sep,h.n0,h.low,h.rest.later hb⟩
theorem Sat.drew (h:Sat C ρ fr mem nx a w):Sat C ρ fr mem nx a w.drew:=h.later (Below.refl _ _).drew
def putF (d:Option Nat) (v:Value) (fr:AF):AF:=match d with | some d=>(d,v)::fr | none=>fr
theorem FrOk.put (h:FrOk ρ fr nx a) {d:Nat} {v:Value} (hd:d<a.tmps.size) (hv:okV ρ nx v):FrOk ρ ((d,v)::fr) nx (a.put (some d) (den ρ v)):=by
 refine⟨fun t u hu=>?_,fun t u hu=>?_⟩
 ·rcases za5 hu with⟨rfl,rfl⟩ | ⟨hne,hu⟩
  ·simp[Act.put,hd]
  ·have:=h.frm t u hu;simp only[Act.put];rw[Array.getElem?_setIfInBounds_ne hne];exact this
 ·rcases za5 hu with⟨rfl,rfl⟩ | ⟨hne,hu⟩
  ·exact hv
  ·exact h.frk t u hu
theorem Sat.put (h:Sat C ρ fr mem nx a w) {d:Option Nat} {v:Value} (hd:∀ i,d=some i->i<C.nt) (hv:okV ρ nx v):Sat C ρ (putF d v fr) mem nx (a.put d (den ρ v)) w:=by
 cases d with
 | none=>exact h
 | some d=>exact⟨h.fok.put (by rw[h.sz];exact hd d rfl) hv,by simp[Act.put,h.sz],h.dfr,h.mlt,h.blk,h.sep,h.n0,h.low,h.rest⟩
theorem FrOk.hold (h:FrOk ρ fr nx a) {d:Nat} {v:Value} (hf:lk fr d=none):FrOk ρ fr nx (a.put (some d) v):=by
 refine⟨fun t u hu=>?_,h.frk⟩;have hne:d≠t:=by rintro rfl;rw[hf] at hu;cases hu
 simp only[Act.put];rw[Array.getElem?_setIfInBounds_ne hne];exact h.frm t u hu
theorem Sat.hold (h:Sat C ρ fr mem nx a w) {d:Option Nat} {v:Value} (hf:∀ i,d=some i->lk (fr++C.ff) i=none):Sat C ρ fr mem nx (a.put d v) w:=by
 cases d with
 | none=>exact h
 | some d=>exact⟨h.fok.hold (hf d rfl),by simp[Act.put,h.sz],h.dfr,h.mlt,h.blk,h.sep,h.n0,h.low,h.rest⟩
theorem FrOk.left {ff:AF} (h:FrOk ρ (fr++ff) nx a):FrOk ρ fr nx a:=⟨fun t v hv=>h.frm t v (za9 hv),fun t v hv=>h.frk t v (za9 hv)⟩
theorem Sat.less (h:Sat C ρ fr mem nx a w) {fr':AF} {mem':AM} (hf:∀ t v,lk (fr'++C.ff) t=some v->lk (fr++C.ff) t=some v) (hm:∀ i b,lk (mem'++C.fm) i=some b->lk (mem++C.fm) i=some b):Sat C ρ fr' mem' nx a w:=
 ⟨⟨fun t v hv=>h.fok.frm t v (hf t v hv),fun t v hv=>h.fok.frk t v (hf t v hv)⟩,h.sz,h.dfr,fun i b hi=>h.mlt i b (hm i b hi),fun i b hi=>h.blk i b (hm i b hi),fun i j b b' hne hi hj=>h.sep i j b b' hne (hm i b hi) (hm j b' hj),h.n0,h.low,h.rest⟩
theorem BlkOk.ren {i:Nat} {b:ABlk} {ρ':Nat->Pl} {m:Nat} (h:BlkOk C ρ nx i w b) (hi:ρ' i=ρ i) (hr:∀ j,j<nx->(ρ j).res=false->ρ' j=ρ j) (hm:nx<=m):BlkOk C ρ' m i w b:=by
 cases b with
 | box t cs=>
  obtain⟨g,h1,h2,h3,h4⟩:=h;refine⟨g,by rw[hi];exact h1,?_,h3,fun v hv=>zcs hr hm (h4 v hv)⟩;have:cs.map (zal ρ')=cs.map (zal ρ):=List.map_congr_left fun v hv=>zbK hr (h4 v hv)
  rw[this];exact h2
 | row t sz n el=>
  obtain⟨h1,h2,h3⟩:=h;refine⟨by rw[hi];exact h1,h2,?_⟩;rw[hi];exact h3
 | ext e=>cases e with
  | deep t sz n cap el u=>
   obtain⟨h1,h2,h0,h3⟩:=h;have hu:=hr u h2.1 h2.2;refine⟨by rw[hi];exact h1,⟨Nat.lt_of_lt_of_le h2.1 hm,by rw[hu];exact h2.2⟩,h0,?_⟩;rw[hi];refine h3.imp id ?_;rintro⟨hn,b,off,hA,hlt,hcap,hc⟩;exact⟨hn,b,off,hA,hlt,hcap,fun k hk j v hv=>by rw[zg1 hu k j ((h0 k hk).2 v (List.mem_of_getElem? hv))];exact hc k hk j v hv⟩
  | fam t sb=>
   refine⟨h.1,fun k o=>?_⟩;rw[hi];exact h.2 k o
  | map kk ag f=>
   obtain⟨g,es,cl,h1,h2⟩:=h;exact⟨g,es,cl,by rw[hi];exact h1,h2⟩
  | obj S Φ=>
   obtain⟨g,h1,h2⟩:=h;exact⟨g,by rw[hi];exact h1,h2⟩
theorem zbX {i:Nat} {ρ':Nat->Pl} (hi:ρ' i=ρ i) (b:ABlk):brd ρ' i b=brd ρ i b:=by
 cases b with
 | ext e=>cases e<;>funext g<;>simp only[brd,xrd,bno,hi]
 | _=>funext g;simp only[brd,bno,hi]
theorem zdG {i:Nat} {ρ':Nat->Pl} (hi:ρ' i=ρ i) (b:ABlk):bwr ρ' i b=bwr ρ i b:=by
 cases b with
 | ext e=>cases e<;>funext g<;>simp only[bwr,xwr,bno,hi]
 | _=>funext g;simp only[bwr,bno,hi]
theorem zbm {i:Nat} {b:ABlk} {g:Nat} (h:bwr ρ i b g):brd ρ i b g:=by
 cases b with
 | box t cs=>exact h
 | row t sz n el=>exact h.2
 | ext e=>cases e with
  | deep t sz n cap el u=>exact h.2
  | fam t sb=>exact h.elim
  | map kk ag f=>exact h
  | obj S Φ=>exact h
theorem Apart.wr {i j:Nat} {b b':ABlk} (h:Apart ρ i j b b') (h':Apart ρ j i b' b) {g:Nat} (hg:bwr ρ i b g):¬ brd ρ j b' g:=by
 intro hr;cases b with
 | ext e=>exact h g hg hr
 | box t cs=>cases b' with
  | ext e=>exact h g hg hr
  | box t2 cs2=>
   simp only[bwr,brd,Apart] at *;exact h (hg.trans hr.symm)
  | row t2 sz n el=>
   simp only[bwr,brd,Apart] at *;rcases h with h | h
   ·exact hr.1 h
   ·exact h (hg.trans hr.2.symm)
 | row t sz n el=>cases b' with
  | ext e=>exact h g hg hr
  | box t2 cs2=>
   simp only[bwr,brd,Apart] at *;rcases h' with h' | h'
   ·exact hg.2.1 h'
   ·exact h' (hr.trans hg.2.2.symm)
  | row t2 sz2 n2 el2=>
   simp only[bwr,brd,Apart] at *;rcases h hg.1 with h | h | h
   ·exact hg.2.1 h
   ·exact hr.1 h
   ·exact h (hg.2.2.trans hr.2.symm)
theorem BlkOk.box_at {i:Nat} {t:TypeId} {cs:List Value} {w:World} (h:BlkOk C ρ nx i w (.box t cs)):∃ g,bno ρ i=some g:=by
 obtain⟨g,h1,-⟩:=h;exact⟨g,by simp[bno,h1]⟩
theorem Apart.mk {i j:Nat} {b b':ABlk} (hb:∀ t cs,b=.box t cs->∃ g,bno ρ i=some g) (hr:∀ t sz n el,b=.row t sz n el->n=0∨∃ g,bno ρ i=some g) (h:∀ g,bwr ρ i b g->¬ brd ρ j b' g):Apart ρ i j b b':=by
 cases b with
 | ext e=>exact h
 | box t cs=>cases b' with
  | ext e=>exact h
  | box t2 cs2=>
   obtain⟨g,hg⟩:=hb _ _ rfl;intro he;exact h g hg (he ▸ hg:bno ρ j=some g)
  | row t2 sz n el=>
   obtain⟨g,hg⟩:=hb _ _ rfl;by_cases h0:n=0
   ·exact .inl h0
   ·exact .inr fun he=>h g hg ⟨h0,(he ▸ hg:bno ρ j=some g)⟩
 | row t sz n el=>cases b' with
  | ext e=>exact h
  | box t2 cs2=>trivial
  | row t2 sz2 n2 el2=>
   intro ho;rcases hr _ _ _ _ rfl with h0 | ⟨g,hg⟩
   ·exact .inl h0
   ·by_cases h1:n=0
    ·exact .inl h1
    ·by_cases h2:n2=0
     ·exact .inr (.inl h2)
     ·exact .inr (.inr fun he=>h g ⟨ho,h1,hg⟩ ⟨h2,(he ▸ hg:bno ρ j=some g)⟩)
theorem BlkOk.apart {i j:Nat} {b b':ABlk} {w:World} (hb:BlkOk C ρ nx i w b) (h:∀ g,bwr ρ i b g->¬ brd ρ j b' g):Apart ρ i j b b':=
 Apart.mk (fun t cs e=>by subst e;exact hb.box_at) (fun t sz n el e=>by
  subst e
  rcases hb.2.2 with h0 | ⟨bb,off,hA,-⟩
  ·exact .inl h0
  ·exact .inr ⟨bb,by simp[bno,hA]⟩) h
theorem Apart.ren {i j:Nat} {b b':ABlk} {ρ':Nat->Pl} (h:Apart ρ i j b b') (hi:ρ' i=ρ i) (hj:ρ' j=ρ j):Apart ρ' i j b b':=by
 have e1:=zbX (ρ:=ρ) hj b';have e2:=zdG (ρ:=ρ) hi b;have key:(∀ g,bwr ρ i b g->¬ brd ρ j b' g)->∀ g,bwr ρ' i b g->¬ brd ρ' j b' g:=by rw[e1,e2];exact id
 cases b with
 | ext e=>exact key h
 | box t cs=>cases b' with
  | ext e=>exact key h
  | box t2 cs2=>simp only[Apart,bno] at h ⊢;rw[hi,hj];exact h
  | row t2 sz n el=>simp only[Apart,bno] at h ⊢;rw[hi,hj];exact h
 | row t sz n el=>cases b' with
  | ext e=>exact key h
  | box t2 cs2=>trivial
  | row t2 sz2 n2 el2=>simp only[Apart,bno] at h ⊢;rw[hi,hj];exact h
theorem Sat.ren (h:Sat C ρ fr mem nx a w) {ρ':Nat->Pl} {m:Nat} (hr:∀ j,j<nx->(ρ j).res=false->ρ' j=ρ j) (hm:nx<=m) (hl:∀ j,j<C.n0->ρ' j=ρ j):Sat C ρ' fr mem m a w:=
 ⟨⟨fun t v hv=>by rw[zbQ hr (h.fok.frk t v hv)];exact h.fok.frm t v hv,fun t v hv=>zc9 hr hm (h.fok.frk t v hv)⟩,h.sz,h.dfr,
  fun i b hi=>⟨Nat.lt_of_lt_of_le (h.mlt i b hi).1 hm,by rw[hr i (h.mlt i b hi).1 (h.mlt i b hi).2];exact (h.mlt i b hi).2⟩,
  fun i b hi=>(h.blk i b hi).ren (hr i (h.mlt i b hi).1 (h.mlt i b hi).2) hr hm,fun i j b b' hne hi hj=>(h.sep i j b b' hne hi hj).ren (hr i (h.mlt i b hi).1 (h.mlt i b hi).2) (hr j (h.mlt j b' hj).1 (h.mlt j b' hj).2),
  Nat.le_trans h.n0 hm,fun i hi=>(hl i hi).trans (h.low i hi),h.rest⟩
def zac (ρ:Nat->Pl) (n:Nat) (p:Pl):Nat->Pl:=fun i=>if i=n then p else ρ i
theorem za2 (ρ:Nat->Pl) (n:Nat) (p:Pl):zac ρ n p n=p:=if_pos rfl
theorem za8 (ρ:Nat->Pl) {n:Nat} (p:Pl) {i:Nat} (h:i<n):zac ρ n p i=ρ i:=if_neg o_
theorem BlkOk.lt {i:Nat} {t:TypeId} {cs:List Value} (h:BlkOk C ρ nx i w (.box t cs)):∃ g,bno ρ i=some g/\g<w.heap.size:=by
 obtain⟨g,h1,h2,_⟩:=h;exact⟨g,by simp[bno,h1],h2.lt⟩
theorem Sat.fillX (h:Sat C ρ fr mem nx a w) {b:ABlk} {p:Pl} {ν:Nat} (hν:ν<nx) (hν0:C.n0<=ν) (hfree:(ρ ν).res=true) (hw:Below w.heap.size w w') (hok:BlkOk C (zac ρ ν p) nx ν w' b) (hnew:∀ g,brd (zac ρ ν p) ν b g->w.heap.size<=g) (hp:p.res=false) :
  Sat C (zac ρ ν p) fr ((ν,b)::mem) nx a w':=by
 have hr:∀ j,j<nx->(ρ j).res=false->zac ρ ν p j=ρ j:=fun j _ hj=>if_neg (by rintro rfl;rw[hj] at hfree;cases hfree)
 have h1:=(h.later hw).ren (ρ':=zac ρ ν p) (m:=nx) hr nl_ (fun j hj=>za8 ρ p (Nat.lt_of_lt_of_le hj hν0));have key:∀ j b',lk (mem++C.fm) j=some b'->Apart (zac ρ ν p) ν j b b'/\Apart (zac ρ ν p) j ν b' b:=by
  intro j b' hj;have hjl:=h.mlt j b' hj;have hold:∀ g,brd (zac ρ ν p) j b' g->g<w.heap.size:=fun g hg=>(h.blk j b' hj).brd_lt (by rw[← zbX (hr j hjl.1 hjl.2) b'];exact hg)
  exact⟨hok.apart fun g hg hg2=>absurd (hold g hg2) (by have:=hnew g (zbm hg);omega),(h1.blk j b' hj).apart fun g hg hg2=>absurd (hold g (zbm hg)) (by have:=hnew g hg2;omega)⟩
 refine⟨h1.fok,h1.sz,h1.dfr,fun i b' hi=>?_,fun i b' hi=>?_,fun i j b1 b2 hne hi hj=>?_,h1.n0,h1.low,h1.rest⟩
 ·rcases za5 hi with⟨rfl,rfl⟩ | ⟨hne,hi⟩
  ·exact⟨hν,by rw[za2];exact hp⟩
  ·exact h1.mlt i b' hi
 ·rcases za5 hi with⟨rfl,rfl⟩ | ⟨hne,hi⟩
  ·exact hok
  ·exact h1.blk i b' hi
 ·rcases za5 hi with⟨rfl,rfl⟩ | ⟨hni,hi⟩
  ·rcases za5 hj with⟨rfl,rfl⟩ | ⟨hnj,hj⟩
   ·exact absurd rfl hne
   ·exact (key j b2 hj).1
  ·rcases za5 hj with⟨rfl,rfl⟩ | ⟨hnj,hj⟩
   ·exact (key i b1 hi).2
   ·exact h1.sep i j b1 b2 hne hi hj
def isExt:ABlk->Bool
 | .ext _=>true
 | _=>false
theorem brd_bno {i:Nat} {b:ABlk} (hx:isExt b=false) {g:Nat} (h:brd ρ i b g):bno ρ i=some g:=by
 cases b with
 | ext e=>cases hx
 | box t cs=>exact h
 | row t sz n el=>exact h.2
theorem Sat.fill (h:Sat C ρ fr mem nx a w) {b:ABlk} {p:Pl} {ν:Nat} (hν:ν<nx) (hν0:C.n0<=ν) (hfree:(ρ ν).res=true) (hw:Below w.heap.size w w') (hok:BlkOk C (zac ρ ν p) nx ν w' b) (hnew:∀ g,p.A.map (·.block)=some g->w.heap.size<=g) (hp:p.res=false) (hx:isExt b=false:=by rfl) :
  Sat C (zac ρ ν p) fr ((ν,b)::mem) nx a w':=h.fillX hν hν0 hfree hw hok (fun g hg=>hnew g (by have:=brd_bno hx hg;unfold bno at this;rwa[za2] at this)) hp
theorem Sat.reserve (h:Sat C ρ fr mem nx a w):Sat C (zac ρ nx ⟨none,0,0,true,za4⟩) fr mem (nx+1) a w:=h.ren (fun j hj _=>za8 ρ _ hj) (Nat.le_succ _) (fun j hj=>za8 ρ _ (Nat.lt_of_lt_of_le hj h.n0))
theorem zcy (ρ:Nat->Pl) (n:Nat) (p q:Pl):zac (zac ρ n p) n q=zac ρ n q:=by
 funext i;unfold zac;split<;>rfl
theorem Sat.add (h:Sat C ρ fr mem nx a w) {b:ABlk} {p:Pl} (hw:Below w.heap.size w w') (hok:BlkOk C (zac ρ nx p) (nx+1) nx w' b) (hnew:∀ g,p.A.map (·.block)=some g->w.heap.size<=g) (hp:p.res=false) (hx:isExt b=false:=by rfl) :
  Sat C (zac ρ nx p) fr ((nx,b)::mem) (nx+1) a w':=by
 have:=h.reserve.fill (b:=b) (p:=p) (ν:=nx) (Nat.lt_succ_self _) h.n0 (by rw[za2]) hw (by rw[zcy];exact hok) hnew hp hx;rw[zcy] at this;exact this
theorem Sat.addX (h:Sat C ρ fr mem nx a w) {b:ABlk} {p:Pl} (hw:Below w.heap.size w w') (hok:BlkOk C (zac ρ nx p) (nx+1) nx w' b) (hnew:∀ g,brd (zac ρ nx p) nx b g->w.heap.size<=g) (hp:p.res=false) :
  Sat C (zac ρ nx p) fr ((nx,b)::mem) (nx+1) a w':=by
 have:=h.reserve.fillX (b:=b) (p:=p) (ν:=nx) (Nat.lt_succ_self _) h.n0 (by rw[za2]) hw (by rw[zcy];exact hok) (by rw[zcy];exact hnew) hp;rw[zcy] at this;exact this
theorem Sat.view (h:Sat C ρ fr mem nx a w) {b:ABlk} {p:Pl} (hok:BlkOk C (zac ρ nx p) (nx+1) nx w b) (hro:∀ g,¬ bwr (zac ρ nx p) nx b g) (hp:p.res=false)
  (hold:∀ g,brd (zac ρ nx p) nx b g->∃ i b0,lk (mem++C.fm) i=some b0/\brd ρ i b0 g/\∀ g,¬ bwr ρ i b0 g) :
  Sat C (zac ρ nx p) fr ((nx,b)::mem) (nx+1) a w:=by
 have hr:∀ j,j<nx->zac ρ nx p j=ρ j:=fun j hj=>za8 ρ p hj
 have h1:=h.ren (ρ':=zac ρ nx p) (m:=nx+1) (fun j hj _=>hr j hj) (Nat.le_succ _) (fun j hj=>hr j (Nat.lt_of_lt_of_le hj h.n0));have key:∀ j b',lk (mem++C.fm) j=some b'->Apart (zac ρ nx p) nx j b b'/\Apart (zac ρ nx p) j nx b' b:=by
  intro j b' hj;have hjl:=hr j (h.mlt j b' hj).1;refine⟨hok.apart fun g hg=>absurd hg (hro g),(h1.blk j b' hj).apart fun g hg hg2=>?_⟩;obtain⟨i,b0,hi,h0,hn⟩:=hold g hg2;rw[zdG hjl] at hg;by_cases hij:i=j
  ·subst hij;rw[hi] at hj;cases hj
   exact hn g hg
  ·exact (h.sep j i b' b0 (Ne.symm hij) hj hi).wr (h.sep i j b0 b' hij hi hj) hg h0
 refine⟨h1.fok,h1.sz,h1.dfr,fun i b' hi=>?_,fun i b' hi=>?_,fun i j b1 b2 hne hi hj=>?_,h1.n0,h1.low,h1.rest⟩
 ·rcases za5 hi with⟨rfl,rfl⟩ | ⟨hne,hi⟩
  ·exact⟨Nat.lt_succ_self _,by rw[za2];exact hp⟩
  ·exact h1.mlt i b' hi
 ·rcases za5 hi with⟨rfl,rfl⟩ | ⟨hne,hi⟩
  ·exact hok
  ·exact h1.blk i b' hi
 ·rcases za5 hi with⟨rfl,rfl⟩ | ⟨hni,hi⟩
  ·rcases za5 hj with⟨rfl,rfl⟩ | ⟨hnj,hj⟩
   ·exact absurd rfl hne
   ·exact (key j b2 hj).1
  ·rcases za5 hj with⟨rfl,rfl⟩ | ⟨hnj,hj⟩
   ·exact (key i b1 hi).2
   ·exact h1.sep i j b1 b2 hne hi hj
end
end Go.Proofs.YtjnndjnpcelafaaGreat

namespace Go.Proofs.YtjnndjnpcelafaaGreat
open Go.RowKit
set_option linter.unusedSimpArgs false
set_option linter.unusedVariables false
/-! Structs of numbers and truth values: when are two of them equal? -/
inductive CK where
 | i (k:IntKind)
 | b
 deriving DecidableEq
def ck1:CK->Value->Bool
 | .i k,.int k' _=>decide (k=k')
 | .b,.bool _=>true
 | _,_=>false
def zdV:List CK->List Value->Bool
 | [],[]=>true
 | k::r,v::l=>ck1 k v&&zdV r l
 | _,_=>false
def eqC1:Value->Value->Bool
 | .int _ a,.int _ b=>a==b
 | .bool a,.bool b=>a==b
 | _,_=>false
def zie:List Value->List Value->Bool
 | [],[]=>true
 | x::xs,y::ys=>eqC1 x y&&zie xs ys
 | _,_=>false
def zgy (g:TypeId->Option (List CK)) (sz:TypeId->Nat):Nat->List Field->Option (List CK)
 | _,[]=>some []
 | off, f :: r => if f.name = "_" then none else if f.offset = off then (match g f.type with
  | some ks=>if sz f.type=ks.length then (match zgy g sz (off+ks.length) r with | some l=>some (ks++l) | none=>none) else none
  | none=>none) else none
def szK (P:Program) (t:TypeId):Nat:=match P.info? t with | some i=>i.size | none=>0
def zkZ (P:Program):Nat->TypeId->Option (List CK)
 | 0,_=>none
 | d+1,t=>match P.underlying t with
  | some (.int k)=>some [.i k]
  | some .bool=>some [.b]
  | some (.struct fs)=>if P.stoodInHeld t then none else zgy (zkZ P d) (szK P) 0 fs.toList
  | _=>none
def wrK (P:Program) (t:TypeId) (l:List Value):Value:=match P.underlying t with
 | some (.struct _)=>.agg l.toArray
 | _=>l.headD default
theorem zh7:∀ {ks:List CK} {l:List Value},zdV ks l=true->l.length=ks.length
 | [],[],_=>rfl
 | [],_::_,h=>by simp[zdV] at h
 | _::_,[],h=>by simp[zdV] at h
 | k::r,v::l,h=>by simp only[zdV,Bool.and_eq_true] at h;simp[zh7 h.2]
theorem zh8:∀ {ks ls:List CK} {l:List Value},zdV (ks++ls) l=true->∃ a b,l=a++b/\zdV ks a=true/\zdV ls b=true
 | [],ls,l,h=>⟨[],l,rfl,rfl,h⟩
 | k::r,ls,[],h=>by simp[zdV] at h
 | k::r,ls,v::l,h=>by
  simp only[List.cons_append,zdV,Bool.and_eq_true] at h
  obtain⟨a,b,rfl,h1,h2⟩:=zh8 h.2
  exact⟨v::a,b,rfl,by simp[zdV,h.1,h1],h2⟩
theorem zjX:∀ {a a' b b':List Value},a.length=a'.length->zie (a++b) (a'++b')=(zie a a'&&zie b b')
 | [],[],b,b',_=>by simp[zie]
 | [],_::_,_,_,h=>by simp at h
 | _::_,[],_,_,h=>by simp at h
 | x::a,y::a',b,b',h=>by simp only[List.cons_append,zie];rw[zjX (by simpa using h),Bool.and_assoc]
section
variable {P:Program} {w:World}
theorem zfZ (d:Nat) {g:TypeId->Option (List CK)} (hg:∀ t ks,g t=some ks->(∃ dd,P.underlying t=some dd/\(dd.isRow=true↔∃ fs,dd=.struct fs)/\(dd.isRow=false->ks.length=1))/\∀ xs ys,zdV ks xs=true->zdV ks ys=true->(Op.equalIn d t (wrK P t xs) (wrK P t ys)).run P w=.ok (zie xs ys) w) :
  ∀ (fs:List Field) (off:Nat) (l:List CK),zgy g (szK P) off fs=some l->∀ (X Y:Array Value) (xs ys:List Value),X.toList.drop off=xs->Y.toList.drop off=ys->zdV l xs=true->zdV l ys=true->
  (Op.eqFields d X Y fs).run P w=.ok (zie xs ys) w
 | [],off,l,h,X,Y,xs,ys,hx,hy,h1,h2=>by
  simp[zgy] at h
  subst h
  cases xs<;>cases ys<;>simp[zdV] at h1 h2
  simp[Op.eqFields,zie]
 | f::r,off,l,h,X,Y,xs,ys,hx,hy,h1,h2=>by
  simp only[zgy] at h
  by_cases hn : f.name = "_"
  ·simp[hn] at h
  ·rw[if_neg hn] at h
   by_cases ho:f.offset=off
   ·rw[if_pos ho] at h
    cases hk:g f.type with
    | none=>rw[hk] at h;simp at h
    | some ks=>
     rw[hk] at h
     simp only at h
     by_cases hs:szK P f.type=ks.length
     ·rw[if_pos hs] at h
      cases hr:zgy g (szK P) (off+ks.length) r with
      | none=>rw[hr] at h;simp at h
      | some l'=>
       rw[hr] at h
       simp at h
       subst h
       obtain⟨a,b,rfl,ha,hb⟩:=zh8 h1
       obtain⟨a',b',rfl,ha',hb'⟩:=zh8 h2
       have la:=zh7 ha
       have la':=zh7 ha'
       obtain⟨⟨dd,hu,hrow,hone⟩,heq⟩:=hg _ _ hk
       have hdrop:∀ {Z:Array Value} {u v:List Value},Z.toList.drop off=u++v->u.length=ks.length->Z.toList.drop (off+ks.length)=v:=by
        intro Z u v hz hl;rw[← List.drop_drop,hz,← hl];simp
       have hpart:∀ {Z:Array Value} {u v:List Value},Z.toList.drop off=u++v->u.length=ks.length->(part f.type Z off).run P w=.ok (wrK P f.type u) w:=by
        intro Z u v hz hl;have hag:(isAgg f.type).run P w=.ok dd.isRow w:=by
         unfold isAgg;rw[Sem.run_bind,run_underlying hu w];cases dd<;>simp_all
        cases hi:P.info? f.type with
        | none=>
         have:ks.length=0:=by rw[← hs];simp[szK,hi]
         cases hdr:dd.isRow with
         | false=>have:=hone hdr;omega
         | true=>
          exfalso;obtain⟨fs',rfl⟩:=hrow.1 hdr;have:=hu;simp[Program.underlying,hi] at this
        | some ii=>
         have hsz:ii.size=ks.length:=by rw[← hs];simp[szK,hi]
         cases hdr:dd.isRow with
         | false=>
          have h1:=hone hdr;have hw:wrK P f.type u=u.headD default:=by
           unfold wrK;rw[hu];cases dd<;>first | rfl | simp at hdr
          rw[hw];have hz0:Z[off]?=some (u.headD default):=by
           have:=congrArg (·[0]?) hz;simp only[List.getElem?_drop,Nat.add_zero] at this;rw[← Array.getElem?_toList,this];cases u with
           | nil=>simp at hl;omega
           | cons q u=>simp
          simp[part,hag,hdr,hz0]
         | true=>
          obtain⟨fs',rfl⟩:=hrow.1 hdr;have hw:wrK P f.type u=.agg u.toArray:=by unfold wrK;rw[hu]
          rw[hw];have:Z.extract off (off+ks.length)=u.toArray:=by
           apply Array.toList_inj.1
           rw[Array.toList_extract,List.extract_eq_take_drop,hz,← hl];simp
          simp[part,hag,hdr,sizeOf,typeInfo,hi,hsz,this]
       have ih:=zfZ d hg r (off+ks.length) l' hr X Y b b' (hdrop hx la) (hdrop hy la') hb hb';have he:=heq a a' ha ha';rw[zjX o_];rw[Op.eqFields,if_pos hn,ho];simp only[Sem.run_bind,hpart hx la,hpart hy la',Result.andThen_ok,he];cases zie a a'<;>simp[ih]
     ·rw[if_neg hs] at h;simp at h
   ·rw[if_neg ho] at h;simp at h
theorem zfc:∀ (d n:Nat) (t:TypeId) (ks:List CK),d<=n->zkZ P d t=some ks->(∃ dd,P.underlying t=some dd/\(dd.isRow=true↔∃ fs,dd=.struct fs)/\(dd.isRow=false->ks.length=1))/\∀ xs ys,zdV ks xs=true->zdV ks ys=true->(Op.equalIn n t (wrK P t xs) (wrK P t ys)).run P w=.ok (zie xs ys) w
 | 0,n,t,ks,hd,h=>by simp[zkZ] at h
 | d+1,0,t,ks,hd,h=>by omega
 | d+1,n+1,t,ks,hd,h=>by
  simp only[zkZ] at h
  cases hu:P.underlying t with
  | none=>rw[hu] at h;simp at h
  | some dd=>
   rw[hu] at h
   cases dd<;>simp only at h<;>first | (simp at h;done) | skip
   case bool=>
    simp at h;subst h
    refine⟨⟨_,rfl,by simp,fun _=>rfl⟩,fun xs ys h1 h2=>?_⟩
    match xs,ys,h1,h2 with
    | [x],[y],h1,h2=>
     simp only[zdV,Bool.and_true] at h1 h2
     cases x<;>simp[ck1] at h1
     cases y<;>simp[ck1] at h2
     simp[wrK,hu,run_equalIn_bool' w n t _ _ hu,zie,eqC1]
    | [],_,h1,_=>simp[zdV] at h1
    | _::_::_,_,h1,_=>simp[zdV] at h1
    | [_],[],_,h2=>simp[zdV] at h2
    | [_],_::_::_,_,h2=>simp[zdV] at h2
   case int k=>
    simp at h;subst h
    refine⟨⟨_,rfl,by simp,fun _=>rfl⟩,fun xs ys h1 h2=>?_⟩
    match xs,ys,h1,h2 with
    | [x],[y],h1,h2=>
     simp only[zdV,Bool.and_true] at h1 h2
     cases x<;>simp[ck1] at h1
     cases y<;>simp[ck1] at h2
     subst h1;subst h2
     simp[wrK,hu,run_equalIn_int w n t _ _ _ _ hu,zie,eqC1]
    | [],_,h1,_=>simp[zdV] at h1
    | _::_::_,_,h1,_=>simp[zdV] at h1
    | [_],[],_,h2=>simp[zdV] at h2
    | [_],_::_::_,_,h2=>simp[zdV] at h2
   case struct fs=>
    cases hst:P.stoodInHeld t with
    | true=>rw[hst] at h;simp at h
    | false=>
     rw[hst] at h
     simp only[Bool.false_eq_true,if_false] at h
     refine⟨⟨_,rfl,by simp,fun q=>by simp at q⟩,fun xs ys h1 h2=>?_⟩
     have hf:P.fieldsOf t=fs:=by unfold Program.fieldsOf;rw[hu]
     have:=zfZ (P:=P) (w:=w) n (g:=zkZ P d) (fun t' ks' hk=>zfc d n t' ks' o_ hk) fs.toList 0 ks h xs.toArray ys.toArray xs ys (by simp) (by simp) h1 h2
     simp only[wrK,hu]
     rw[run_equalIn_struct w n t _ _ (by rw[hf];exact hu) hst,hf]
     exact this
end
def zdZ (cs:Array Value):Nat->List Value->Array Value
 | _,[]=>cs
 | o,v::r=>zdZ (cs.setIfInBounds o v) (o+1) r
theorem zey:∀ (vs:List Value) (cs:Array Value) (o:Nat),(zdZ cs o vs).size=cs.size
 | [],_,_=>rfl
 | v::r,cs,o=>by rw[zdZ,zey r];simp
section
variable {w w' a:World} {g:Nat} {t:TypeId} {cs:Array Value}
theorem Blk.there (h:Blk w g t cs) (o n:Nat) (hn:o+n<=cs.size):w.there g o n:=fun j hj=>by
 refine⟨?_,h.frozen _⟩;rw[h.cell];simp;omega
theorem Blk.setCells:∀ (vs:List Value) {w:World} {cs:Array Value} (o:Nat),Blk w g t cs->Blk (w.setCells g o vs) g t (zdZ cs o vs)
 | [],_,_,_,h=>h
 | v::r,w,cs,o,h=>by
  rw[World.setCells,zdZ]
  exact Blk.setCells r (o+1) (h.set_ o v)
theorem zce:∀ (vs:List Value) {w:World} (o b:Nat),b≠g->(w.setCells g o vs).heap[b]?=w.heap[b]?
 | [],_,_,_,_=>rfl
 | v::r,w,o,b,h=>by
  rw[World.setCells,zce r (o+1) b h]
  exact Below.heap_setCell w ⟨g,o,none⟩ v b h
theorem zbZ:∀ (vs:List Value) {w:World} (o:Nat),(w.setCells g o vs).heap.size=w.heap.size
 | [],_,_=>rfl
 | v::r,w,o=>by rw[World.setCells,zbZ r];simp[World.setCell]
theorem Blk.range (h:Blk w g t cs):w.rangeAt g 0 cs.toList:=fun j v hv=>by
 rw[Nat.zero_add,h.cell];simpa using hv
end
/-! What is known of a type. -/
structure TI where
 size:Nat
 agg:Bool
 zero:List Value
 offs:List Nat:=[]
 fszs:List Nat:=[]
 fagg:List Nat:=[]
 esz:Nat:=0
 sl:Bool:=false
 isB:Bool:=false
 elt:Nat:=0
 eb:Nat:=0
 eqk:List CK:=[]
 ik:Option IntKind:=none
 arr:Nat:=0
 ars:Nat:=1
 arag:Bool:=false
 isS:Bool:=false
 isP:Bool:=false
 bx:Bool:=false
 mpk:Option IntKind:=none
 mpe:Nat:=0
abbrev TT:=List (Nat×TI)
def zeu (P:Program) (t:TypeId):Nat:=match P.info? t with | some i=>i.size | none=>0
def zfh (P:Program) (t:TypeId):Nat:=match P.underlying t with | some d=>(match d.isRow with | true=>2 | false=>1) | none=>0
def zjc (P:Program):TypeDesc->List Nat×List Nat×List Nat×Nat×Bool×Bool
 | .struct fs=>(fs.toList.map (·.offset),fs.toList.map (fun f=>zeu P f.type),fs.toList.map (fun f=>zfh P f.type),0,false,false)
 | .slice e=>([],[],[],zeu P e,true,false)
 | .bool=>([],[],[],0,false,true)
 | _=>([],[],[],0,false,false)
def elemB (P:Program) (t:TypeId) (ti:TI):Bool:=match ti.eb with
 | 0=>true
 | _+1=>(match P.underlying t with | some (.slice e)=>Nat.beq e ti.elt | _=>false)&&(match P.info? ti.elt with | some i=>Nat.beq i.bytes ti.eb | none=>false)
def eqB (P:Program) (t:TypeId) (ti:TI):Bool:=match ti.eqk with
 | []=>true
 | _::_=>ti.agg&&decide (zkZ P 8 t=some ti.eqk)&&!(P.eqGuardType P.depth t)
def intB (P:Program) (t:TypeId) (ti:TI):Bool:=match ti.ik with
 | none=>(match ti.isS with
  | false=>true
  | true=>(match P.underlying t with | some .string=>true | _=>false))
 | some k=>(match P.underlying t with | some (.int k')=>decide (k'=k) | _=>false)
def arrB (P:Program) (t:TypeId) (ti:TI):Bool:=match ti.arr with
 | 0=>true
 | n+1=>(match P.underlying t with | some (.array m e)=>Nat.beq m (n+1)&&(Nat.beq (zeu P e) ti.ars&&(Nat.beq (zfh P e) (match ti.arag with | true=>2 | false=>1)&&Nat.blt 0 ti.ars)) | _=>false)
def ptrB (P:Program) (t:TypeId) (ti:TI):Bool:=match ti.isP with
 | false=>true
 | true=>(match P.underlying t with | some (.pointer e)=>Nat.beq (P.pointee t) e | _=>false)
def mapB (P:Program) (t:TypeId) (ti:TI):Bool:=match ti.mpk with
 | none=>true
 | some k=>(match P.underlying t with | some (.map q e)=>(Nat.beq e ti.mpe&&(match P.info? ti.mpe with | some i=>(match i.zero with | some (.agg _)=>Nat.beq (zfh P ti.mpe) 2 | some z=>zcW z&&Nat.beq (zfh P ti.mpe) 1 | none=>false) | none=>false))&&(match P.underlying q with | some (.int k')=>decide (k'=k) | _=>false) | _=>false)
structure TIok (P:Program) (t:TypeId) (ti:TI):Prop where
 info:(P.info? t).map (fun i=>(i.size,i.zero.map fun z=>z.cells.toList))=some (ti.size,some ti.zero)
 und:(P.underlying t).map (fun d=>(d.isRow,zjc P d))=some (ti.agg,ti.offs,ti.fszs,ti.fagg,ti.esz,ti.sl,ti.isB)
 zero:∀ v ∈ ti.zero,zam v
 elem:elemB P t ti=true
 eqs:(eqB P t ti&&intB P t ti)=true
 arr:(arrB P t ti&&(ptrB P t ti&&mapB P t ti))=true
def zcl (P:Program) (τ:TT):Prop:=∀ t ti,lk τ t=some ti->TIok P t ti
section
variable {P:Program} {t:TypeId} {ti:TI}
theorem TIok.size (h:TIok P t ti):∃ i,P.info? t=some i/\i.size=ti.size/\∃ z,i.zero=some z/\z.cells.toList=ti.zero:=by
 have:=h.info;cases hi:P.info? t with
 | none=>rw[hi] at this;simp at this
 | some i=>
  rw[hi] at this;simp only[Option.map_some,Option.some.injEq,Prod.mk.injEq] at this;refine⟨i,rfl,this.1,?_⟩;cases hz:i.zero with
  | none=>rw[hz] at this;simp at this
  | some z=>rw[hz] at this;simp at this;exact⟨z,rfl,this.2⟩
theorem TIok.desc (h:TIok P t ti):∃ d,P.underlying t=some d/\d.isRow=ti.agg/\zjc P d=(ti.offs,ti.fszs,ti.fagg,ti.esz,ti.sl,ti.isB):=by
 have:=h.und;cases hi:P.underlying t with
 | none=>rw[hi] at this;simp at this
 | some d=>
  rw[hi] at this;simp only[Option.map_some,Option.some.injEq,Prod.mk.injEq] at this;exact⟨d,rfl,this.1,by rw[← this.2]⟩
theorem TIok.slice (h:TIok P t ti) (hs:ti.sl=true):∃ e,P.underlying t=some (.slice e)/\zeu P e=ti.esz:=by
 obtain⟨d,h1,h2,h3⟩:=h.desc;cases d<;>simp[zjc,hs] at h3
 rename_i e
 exact⟨e,h1,h3.2.2.2.1⟩
theorem TIok.array (h:TIok P t ti) {k:Nat} (hk:Nat.blt k ti.arr=true):∃ m e,P.underlying t=some (.array m e)/\k<m/\zeu P e=ti.ars/\zfh P e=(match ti.arag with | true=>2 | false=>1)/\0<ti.ars:=by
 have ha:=h.arr;simp only[Bool.and_eq_true] at ha;replace ha:=ha.1;unfold arrB at ha;cases hn:ti.arr with
 | zero=>rw[hn] at hk;cases k<;>cases hk
 | succ n=>
  rw[hn] at ha hk;simp only at ha;split at ha
  ·rename_i m e hu
   simp only[Bool.and_eq_true] at ha;have h1:=Nat.eq_of_beq_eq_true ha.1;have h2:=Nat.blt_eq.mp hk;exact⟨m,e,hu,o_,Nat.eq_of_beq_eq_true ha.2.1,Nat.eq_of_beq_eq_true ha.2.2.1,Nat.blt_eq.mp ha.2.2.2⟩
  ·cases ha
theorem TIok.ikind (h:TIok P t ti) {k:IntKind} (hk:ti.ik=some k):P.underlying t=some (.int k):=by
 have:=h.eqs;simp only[Bool.and_eq_true] at this;have h2:=this.2;unfold intB at h2;rw[hk] at h2;simp only at h2;cases hu:P.underlying t with
 | none=>rw[hu] at h2;cases h2
 | some d=>
  rw[hu] at h2;cases d<;>simp only at h2<;>first | cases h2 | skip
  have:=of_decide_eq_true h2;subst this;rfl
theorem TIok.str (h:TIok P t ti) (hi:ti.ik=none) (hs:ti.isS=true):P.underlying t=some .string:=by
 have:=h.eqs;simp only[Bool.and_eq_true] at this;have h2:=this.2;unfold intB at h2;rw[hi,hs] at h2;simp only at h2;split at h2
 ·assumption
 ·cases h2
theorem TIok.ptr (h:TIok P t ti) (hp:ti.isP=true):P.underlying t=some (.pointer (P.pointee t)):=by
 have ha:=h.arr;simp only[Bool.and_eq_true] at ha;replace ha:=ha.2.1;unfold ptrB at ha;rw[hp] at ha;simp only at ha;split at ha
 ·rename_i e hu
  rw[hu,Nat.eq_of_beq_eq_true ha]
 ·cases ha
theorem TIok.map (h:TIok P t ti) {k:IntKind} (hk:ti.mpk=some k):∃ q,P.underlying t=some (.map q ti.mpe)/\P.underlying q=some (.int k):=by
 have ha:=h.arr;simp only[Bool.and_eq_true] at ha;replace ha:=ha.2.2;unfold mapB at ha;rw[hk] at ha;simp only at ha;split at ha
 ·rename_i q e hu
  simp only[Bool.and_eq_true] at ha;refine⟨q,by rw[hu,Nat.eq_of_beq_eq_true ha.1.1],?_⟩;have h2:=ha.2;split at h2
  ·rename_i k' hq
   rw[hq,of_decide_eq_true h2]
  ·cases h2
 ·cases ha
theorem TIok.bool (h:TIok P t ti) (hs:ti.isB=true):P.underlying t=some .bool:=by
 obtain⟨d,h1,h2,h3⟩:=h.desc;cases d<;>simp[zjc,hs] at h3
 exact h1
theorem TIok.field (h:TIok P t ti) {f d s:Nat} (ho:ti.offs[f]?=some d) (hz:ti.fszs[f]?=some s):∃ (fs:Array Field) (x:Field),P.underlying t=some (.struct fs)/\fs[f]?=some x/\x.offset=d/\zeu P x.type=s/\∀ b,ti.fagg[f]?=some b->zfh P x.type=b:=by
 obtain⟨dd,h1,h2,h3⟩:=h.desc;cases dd<;>simp only[zjc,Prod.mk.injEq] at h3
 case struct fs=>
  obtain⟨e1,e2,e3,-⟩:=h3;rw[← e1] at ho;rw[← e2] at hz;rw[List.getElem?_map] at ho hz;cases hx:fs.toList[f]? with
  | none=>rw[hx] at ho;simp at ho
  | some x=>
   rw[hx] at ho hz;simp at ho hz;refine⟨fs,x,h1,by simpa using hx,ho,hz,fun b hb=>?_⟩;rw[← e3,List.getElem?_map,hx] at hb;simpa using hb
 all_goals (obtain⟨e1,-⟩:=h3;rw[← e1] at ho;simp at ho)
end
def ziq:Nat->List Value->Option (List Value)
 | 0,_=>some []
 | n+1,l=>match l with | []=>none | v::r=>(match ziq n r with | some q=>some (v::q) | none=>none)
def zj9:Nat->List Value->Option (List Value)
 | 0,l=>some l
 | o+1,l=>match l with | []=>none | _::r=>zj9 o r
def zdY (o n:Nat) (l:List Value):Option (List Value):=match zj9 o l with | some r=>ziq n r | none=>none
def zbx:Nat->List Value->List Value->Option (List Value)
 | 0,[],l=>some l
 | 0,v::vs,_::l=>match zbx 0 vs l with | some r=>some (v::r) | none=>none
 | 0,_::_,[]=>none
 | o+1,vs,x::l=>match zbx o vs l with | some r=>some (x::r) | none=>none
 | _+1,_,[]=>none
theorem zhh:∀ (n:Nat) (cs l:List Value),ziq n cs=some l->l.length=n/\∀ (j:Nat) v,l[j]?=some v->cs[j]?=some v
 | 0,cs,l,h=>by simp[ziq] at h;subst h;simp
 | n+1,[],l,h=>by simp[ziq] at h
 | n+1,v::cs,l,h=>by
  simp only[ziq] at h
  cases hr:ziq n cs with
  | none=>rw[hr] at h;simp at h
  | some r=>
   rw[hr] at h
   simp at h
   subst h
   obtain⟨h1,h2⟩:=zhh n cs r hr
   refine⟨by simp[h1],fun j u hu=>?_⟩
   cases j with
   | zero=>simpa using hu
   | succ j=>simp at hu;have:=h2 j u hu;simpa using this
theorem zi5:∀ (o:Nat) (cs r:List Value),zj9 o cs=some r->∀ (j:Nat),r[j]?=cs[o+j]?
 | 0,cs,r,h,j=>by simp[zj9] at h;subst h;simp
 | o+1,[],r,h,j=>by simp[zj9] at h
 | o+1,v::cs,r,h,j=>by
  simp only[zj9] at h
  rw[zi5 o cs r h j,show o+1+j=(o+j)+1 by omega]
  simp
theorem zcd (o n:Nat) (cs l:List Value) (h:zdY o n cs=some l):l.length=n/\∀ j v,l[j]?=some v->cs[o+j]?=some v:=by
 unfold zdY at h;cases hd:zj9 o cs with
 | none=>rw[hd] at h;simp at h
 | some r=>
  rw[hd] at h;obtain⟨h1,h2⟩:=zhh n r l h;exact⟨h1,fun j v hj=>by rw[← zi5 o cs r hd j];exact h2 j v hj⟩
theorem zcJ:∀ (o:Nat) (vs cs l:List Value),zbx o vs cs=some l->l.length=cs.length/\o+vs.length<=cs.length/\∀ j,l[j]?=if o<=j/\j<o+vs.length then vs[j-o]? else cs[j]?
 | 0,[],cs,l,h=>by simp[zbx] at h;subst h;simp
 | 0,v::vs,[],l,h=>by simp[zbx] at h
 | 0,v::vs,c::cs,l,h=>by
  simp only[zbx] at h
  cases hr:zbx 0 vs cs with
  | none=>rw[hr] at h;simp at h
  | some r=>
   rw[hr] at h
   simp at h
   subst h
   obtain⟨h1,h2,h3⟩:=zcJ 0 vs cs r hr
   refine⟨by simp[h1],by simp;omega,fun j=>?_⟩
   cases j with
   | zero=>simp
   | succ j=>have:=h3 j;simp at this ⊢;exact this
 | o+1,vs,[],l,h=>by simp[zbx] at h
 | o+1,vs,c::cs,l,h=>by
  simp only[zbx] at h
  cases hr:zbx o vs cs with
  | none=>rw[hr] at h;simp at h
  | some r=>
   rw[hr] at h
   simp at h
   subst h
   obtain⟨h1,h2,h3⟩:=zcJ o vs cs r hr
   refine⟨by simp[h1],by simp;omega,fun j=>?_⟩
   cases j with
   | zero=>simp
   | succ j=>
    have:=h3 j
    simp only[List.getElem?_cons_succ]
    rw[this]
    by_cases hc:o<=j/\j<o+vs.length
    ·rw[if_pos hc,if_pos o_]
     congr 1
     omega
    ·rw[if_neg hc,if_neg o_]
theorem zdx:∀ (vs:List Value) (cs:Array Value) (o j:Nat),(zdZ cs o vs)[j]?=if o<=j/\j<o+vs.length/\j<cs.size then vs[j-o]? else cs[j]?
 | [],cs,o,j=>by simp only[zdZ,List.length_nil];rw[if_neg o_]
 | v::r,cs,o,j=>by
  rw[zdZ,zdx r,Array.size_setIfInBounds]
  by_cases h1:j=o
  ·subst h1
   rw[if_neg o_,Array.getElem?_setIfInBounds]
   by_cases h2:j<cs.size
   ·simp[h2]
   ·simp[h2,Array.getElem?_eq_none (Nat.le_of_not_lt h2)]
  ·by_cases h2:o+1<=j/\j<o+1+r.length/\j<cs.size
   ·rw[if_pos h2,if_pos (by simp only[List.length_cons];omega)]
    have:j-o=(j-(o+1))+1:=by omega
    rw[this,List.getElem?_cons_succ]
   ·rw[if_neg h2,if_neg (by simp only[List.length_cons];omega),Array.getElem?_setIfInBounds,if_neg o_]
theorem zjH {f:Value->Value} {o:Nat} {vs cs l:List Value} (h:zbx o vs cs=some l):zdZ (cs.map f).toArray o (vs.map f)=(l.map f).toArray:=by
 obtain⟨h1,h2,h3⟩:=zcJ o vs cs l h;apply Array.ext_getElem?
 intro j;rw[zdx];simp only[List.length_map,List.size_toArray,List.getElem?_toArray,List.getElem?_map];rw[h3 j];by_cases hc:o<=j/\j<o+vs.length
 ·rw[if_pos hc,if_pos o_]
 ·rw[if_neg hc,if_neg o_]
def cellsOf:Value->List Value
 | .agg cs=>cs.toList
 | v=>[v]
def evc:Value->Option Value
 | .int k z=>some (.int k z)
 | .bool b=>some (.bool b)
 | .pointer none=>some (.pointer none)
 | .slice none n c=>some (.slice none n c)
 | .string s=>some (.string s)
 | _=>none
def ev (fr:AF):Operand->Option Value
 | .tmp t=>lk fr t
 | .const v=>evc v
 | .func f=>some (.func (.func f) #[] #[])
 | _=>none
def evs (fr:AF):List Operand->Option (List Value)
 | []=>some []
 | x::l=>match ev fr x with | some v=>(match evs fr l with | some r=>some (v::r) | none=>none) | none=>none
section
variable {ρ:Nat->Pl} {fr:AF} {nx:Nat} {a:Act}
theorem evc_ok {v u:Value} (h:evc v=some u):v=den ρ u/\okV ρ nx u:=by
 cases v<;>simp[evc] at h
 case int=>subst h;exact⟨rfl,trivial⟩
 case bool=>subst h;exact⟨rfl,trivial⟩
 case string=>subst h;exact⟨rfl,trivial⟩
 case pointer p=>cases p<;>simp[evc] at h;subst h;exact⟨rfl,trivial⟩
 case slice p n c=>cases p<;>simp[evc] at h;subst h;exact⟨rfl,trivial⟩
theorem zb4 (h:FrOk ρ fr nx a) {x:Operand} {v:Value} (hx:ev fr x=some v):a.eval x=den ρ v/\okV ρ nx v:=by
 cases x<;>simp[ev] at hx
 case tmp t=>
  have:=h.frm t v hx;exact⟨by unfold Act.eval;simp[Array.getD_eq_getD_getElem?,this],h.frk t v hx⟩
 case const u=>exact evc_ok hx
 case func f=>
  subst hx;exact⟨by simp[Act.eval,den],fun v hv=>by simp at hv,fun v hv=>by simp at hv⟩
theorem ze7 (h:FrOk ρ fr nx a):∀ {xs:List Operand} {vs:List Value},evs fr xs=some vs->xs.map a.eval=vs.map (den ρ)/\∀ v ∈ vs,okV ρ nx v
 | [],vs,hx=>by simp[evs] at hx;subst hx;simp
 | x::xs,vs,hx=>by
  simp only[evs] at hx
  cases h1:ev fr x with
  | none=>rw[h1] at hx;simp at hx
  | some v=>
   cases h2:evs fr xs with
   | none=>rw[h1,h2] at hx;simp at hx
   | some r=>
    rw[h1,h2] at hx
    simp at hx
    subst hx
    obtain⟨e1,e2⟩:=zb4 h h1
    obtain⟨e3,e4⟩:=ze7 h h2
    exact⟨by simp[e1,e3],fun u hu=>(List.mem_cons.1 hu).elim (fun q=>q ▸ e2) (e4 u)⟩
end
/-! Operations that give a value and leave the world alone. -/
def ofC (agg:Bool) (l:List Value):Option Value:=match agg with
 | true=>some (.agg l.toArray)
 | false=>match l with
  | [v]=>(match zcW v with | true=>some v | false=>none)
  | _=>none
def dpL (u k:Nat):Nat->List Value->List Value
 | _,[]=>[]
 | j,v::l=>dpV u k j v::dpL u k (j+1) l
def ldx (τ:TT) (mem:AM) (t:TypeId) (p:Value):Option Value:=
 match p with
 | .pointer (some ⟨ab,ao,as_⟩)=>match lk τ t with
  | some ti=>match lk mem ab with
   | some (.box _ cs)=>(match as_ with
    | none=>(match zdY ao ti.size cs with | some l=>ofC ti.agg l | none=>none)
    | some _=>none)
   | some (.row _ _ _ el)=>(match as_ with
    | some k=>(match zdY ao ti.size (el k) with | some l=>ofC ti.agg l | none=>none)
    | none=>none)
   | some (.ext (.deep _ _ _ _ el u))=>(match as_ with
    | some k=>(match zdY ao ti.size (dpL u k 0 (el k)) with | some l=>ofC ti.agg l | none=>none)
    | none=>none)
   | some (.ext _)=>none
   | none=>none
  | none=>none
 | _=>none
def fax (τ:TT) (t:TypeId) (p:Value) (f:Nat):Option Value:=
 match p with
 | .pointer (some ⟨ab,ao,as_⟩)=>match lk τ t with
  | some ti=>(match ti.offs[f]?,ti.fszs[f]? with
   | some d,some (_+1)=>some (.pointer (some ⟨ab,ao+d,as_⟩))
   | _,_=>none)
  | none=>none
 | _=>none
def fdx (τ:TT) (t:TypeId) (p:Value) (f:Nat):Option Value:=
 match p with
 | .agg cs=>match lk τ t with
  | some ti=>(match ti.offs[f]?,ti.fszs[f]?,ti.fagg[f]? with
   | some d,some (s+1),some b=>
    (match zdY d (s+1) cs.toList with
    | some l=>
     (match b with
     | 2=>some (.agg l.toArray)
     | 1=>(match l with
      | v::_=>(match zcW v with | true=>some v | false=>none)
      | _=>none)
     | _=>none)
    | none=>none)
   | _,_,_=>none)
  | none=>none
 | _=>none
def binx (o:BinOp) (isB:Bool) (x y:Value):Option Value:=
 match x,y with
 | .int k a,.int k' b=>(match decide (k=k') with
  | true=>(match o with
   | .add=>some (.int k (k.wrap (a+b)))
   | .sub=>some (.int k (k.wrap (a-b)))
   | .mul=>some (.int k (k.wrap (a * b)))
   | .and=>some (.int k (k.wrap (BitVec.ofInt k.bits a &&& BitVec.ofInt k.bits b).toNat))
   | .or=>some (.int k (k.wrap (BitVec.ofInt k.bits a ||| BitVec.ofInt k.bits b).toNat))
   | .xor=>some (.int k (k.wrap (BitVec.ofInt k.bits a ^^^ BitVec.ofInt k.bits b).toNat))
   | .andNot=>some (.int k (k.wrap (BitVec.ofInt k.bits a &&& ~~~BitVec.ofInt k.bits b).toNat))
   | .eql=>some (.bool (a==b))
   | .neq=>some (.bool (a != b))
   | .lss=>some (.bool (decide (a<b)))
   | .leq=>some (.bool (decide (a<=b)))
   | .gtr=>some (.bool (decide (a>b)))
   | .geq=>some (.bool (decide (a≥b)))
   | _=>none)
  | false=>none)
 | .bool a,.bool b=>(match isB with
  | true=>(match o with
   | .eql=>some (.bool (a==b))
   | .neq=>some (.bool (!(a==b)))
   | _=>none)
  | false=>none)
 | _,_=>none
def maxx:List Value->Option Value
 | [.int k a,.int _ b]=>some (.int k (if b>a then b else a))
 | _=>none
def minx:List Value->Option Value
 | [.int k a,.int _ b]=>some (.int k (if b<a then b else a))
 | _=>none
def lenx (ti:TI):List Value->Option Value
 | [.slice _ n _]=>(match ti.sl with | true=>some (.int .i64 n) | false=>none)
 | [.string s]=>(match ti.ik,ti.isS with | none,true=>some (.int .i64 s.size) | _,_=>none)
 | _=>none
def isBx (τ:TT) (t:TypeId):Bool:=match lk τ t with | some ti=>ti.isB | none=>false
def bldx (ti:TI) (fr:AF):List (Nat×Operand)->List Value->Option (List Value)
 | [],cs=>some cs
 | (i,x)::r,cs=>(match ev fr x with
  | some v=>(match ti.offs[i]?,ti.fszs[i]? with
   | some d,some s=>(match decide ((cellsOf v).length=s),(cellsOf v).all zcW with
    | true,true=>(match zbx d (cellsOf v) cs with | some l=>bldx ti fr r l | none=>none)
    | _,_=>none)
   | _,_=>none)
  | none=>none)
def arTI (ti:TI):TI:={ ti with offs:=(List.range ti.arr).map (fun k=>k * ti.ars),fszs:=List.replicate ti.arr ti.ars }
def eqx (τ:TT) (o:BinOp) (t:TypeId) (p q:Value):Option Value:=
 match p,q with
 | .agg xs,.agg ys=>(match lk τ t with
  | some ti=>(match ti.eqk,zdV ti.eqk xs.toList,zdV ti.eqk ys.toList with
   | _::_,true,true=>(match o with
    | .eql=>some (.bool (zie xs.toList ys.toList))
    | .neq=>some (.bool (!zie xs.toList ys.toList))
    | _=>none)
   | _,_,_=>none)
  | none=>none)
 | _,_=>none
def ptx (τ:TT) (o:BinOp) (t:TypeId) (p q:Value):Option Value:=match p,q with
 | .pointer a,.pointer none=>(match lk τ t with
  | some ti=>(match ti.isP,o with
   | true,.eql=>some (.bool (match a with | none=>true | some _=>false))
   | true,.neq=>some (.bool (match a with | none=>false | some _=>true))
   | _,_=>none)
  | none=>none)
 | _,_=>none
def stx (τ:TT) (o:BinOp) (t:TypeId) (p q:Value):Option Value:=match p,q with
 | .string a,.string b=>(match lk τ t with
  | some ti=>(match ti.ik,ti.isS,o with
   | none,true,.eql=>some (.bool (a.toList==b.toList))
   | none,true,.neq=>some (.bool (!(a.toList==b.toList)))
   | _,_,_=>none)
  | none=>none)
 | _,_=>none
def ixx (τ:TT) (t:TypeId) (p q:Value):Option Value:=match p,q with
 | .agg cs,.int _ (.ofNat k)=>(match lk τ t with
  | some ti=>(match Nat.blt k ti.arr with
   | true=>(match zdY (k * ti.ars) ti.ars cs.toList with | some l=>ofC ti.arag l | none=>none)
   | false=>none)
  | none=>none)
 | _,_=>none
def binyx (τ:TT) (o:BinOp) (t:TypeId) (p q:Value):Option Value:=match binx o (isBx τ t) p q with | some v=>some v | none=>(match ptx τ o t p q with | some v=>some v | none=>(match stx τ o t p q with | some v=>some v | none=>eqx τ o t p q))
def arx (τ:TT) (t:TypeId) (p q:Value):Option Value:=
 match p with
 | .pointer (some ⟨ab,ao,none⟩)=>(match q with
  | .int _ (.ofNat k)=>(match lk τ t with
   | some ti=>(match Nat.blt k ti.arr with | true=>some (.pointer (some ⟨ab,ao+k * ti.ars,none⟩)) | false=>none)
   | none=>none)
  | _=>none)
 | _=>none
def vx (τ:TT) (fr:AF) (mem:AM) (o:Op):Option Value:=
 match o with
 | .move x=>ev fr x
 | .assign x=>ev fr x
 | .pick c x y=>(match ev fr c with
  | some (.bool b)=>(match b with | true=>ev fr x | false=>ev fr y)
  | _=>none)
 | .load t x=>(match ev fr x with | some p=>ldx τ mem t p | none=>none)
 | .fieldAddr t x f=>(match ev fr x with | some p=>fax τ t p f | none=>none)
 | .field t x f=>(match ev fr x with | some p=>fdx τ t p f | none=>none)
 | .indexAddr t x i=>(match ev fr x with | some p=>(match ev fr i with | some q=>arx τ t p q | none=>none) | none=>none)
 | .index t x i=>(match ev fr x with | some p=>(match ev fr i with | some q=>ixx τ t p q | none=>none) | none=>none)
 | .convert s d x=>(match ev fr x with
  | some (.int _ n)=>(match lk τ s,lk τ d with
   | some _,some td=>(match td.ik with | some k=>some (.int k (k.wrap n)) | none=>none)
   | _,_=>none)
  | _=>none)
 | .unOp .neg _ x=>(match ev fr x with | some (.int k n)=>some (.int k (k.wrap (0-n))) | _=>none)
 | .unOp .xor _ x=>(match ev fr x with | some (.int k n)=>some (.int k (k.wrap (BitVec.ofInt k.bits (if k.signed then -1 else k.max) ^^^ BitVec.ofInt k.bits n).toNat)) | _=>none)
 | .unOp .not _ x=>(match ev fr x with | some (.bool b)=>some (.bool (!b)) | _=>none)
 | .binOp o t x y _=>(match ev fr x with | some p=>(match ev fr y with | some q=>binyx τ o t p q | none=>none) | none=>none)
 | .build t parts=>(match lk τ t with
  | some ti=>(match ti.offs,ti.fszs.all (fun n=>Nat.blt 0 n) with
   | _::_,true=>(match bldx ti fr parts.toList ti.zero with | some l=>some (.agg l.toArray) | none=>none)
   | [],_=>(match Nat.blt 0 ti.arr with
    | true=>(match bldx (arTI ti) fr parts.toList ti.zero with | some l=>some (.agg l.toArray) | none=>none)
    | false=>none)
   | _,_=>none)
  | none=>none)
 | .makeFunc (.func f) first cap=>(match evs fr first.toList,evs fr cap.toList with
  | some fs,some cs=>(match fs.all zcW,cs.all zcW with | true,true=>some (.func (.func f) fs.toArray cs.toArray) | _,_=>none)
  | _,_=>none)
 | .nilCheck x=>(match ev fr x with | some (.pointer (some ad))=>some (.pointer (some ad)) | _=>none)
 | .extract x i=>(match ev fr x with | some (.tuple vs)=>(match vs[i]? with | some v=>(match v with | .tuple _=>none | .func _ _ _=>none | v=>some v) | none=>none) | _=>none)
 | .call { callee:=.builtin .len,args,argTypes }=>(match evs fr args.toList with | some vs=>(match argTypes.toList with | [t]=>(match lk τ t with | some ti=>lenx ti vs | none=>none) | _=>none) | none=>none)
 | .call { callee:=.builtin .max,args,.. }=>(match evs fr args.toList with | some vs=>maxx vs | none=>none)
 | .call { callee:=.builtin .min,args,.. }=>(match evs fr args.toList with | some vs=>minx vs | none=>none)
 | _=>none
theorem zn9 (u k:Nat):∀ (l:List Value) (j i:Nat),(dpL u k j l)[i]?=(l[i]?).map (dpV u k (j+i))
 | [],j,i=>by simp[dpL]
 | v::l,j,0=>by simp[dpL]
 | v::l,j,i+1=>by
  rw[dpL,List.getElem?_cons_succ,List.getElem?_cons_succ,zn9 u k l (j+1) i]
  congr 2
  omega
section
variable {P:Program} {τ:TT} {C:Ctx} {ρ:Nat->Pl} {fr:AF} {mem:AM} {nx:Nat} {a:Act} {w:World}
theorem zbU {v:Value} (h:zcW v=true):den ρ v=zal ρ v:=by cases v<;>first | rfl | simp[zcW] at h
theorem zcV {v:Value} (h:zcW v=true):okV ρ nx v=ok1 ρ nx v:=by cases v<;>first | rfl | simp[zcW] at h
theorem zeZ {t:TypeId} {ti:TI} (ht:TIok P t ti) {b o:Nat} {l:List Value} (hr:w.rangeAt b o (l.map (zal ρ))) (hl:l.length=ti.size) {v:Value} (hv:ofC ti.agg l=some v) :
  (Instr.loadAt t (.pointer (some ⟨b,o,none⟩))).run P w=.ok (den ρ v) w/\((∀ u ∈ l,ok1 ρ nx u)->okV ρ nx v):=by
 obtain⟨i,hi,hs,-⟩:=ht.size;obtain⟨d,hd,hrow,-⟩:=ht.desc;cases hagg:ti.agg with
 | true=>
  rw[hagg] at hv hrow;simp only[ofC,Option.some.injEq] at hv;subst hv;refine⟨?_,fun h=>?_⟩
  ·rw[run_loadAt_mid w b o t (l.map (zal ρ)) d hr hd hrow (by rw[hi];simp[hs,hl])];simp[den,zaW]
  ·intro u hu;exact h u (by simpa using hu)
 | false=>
  rw[hagg] at hv hrow;match l,hv with
  | [u],hv=>
   simp only[ofC] at hv;cases hat:zcW u with
   | false=>rw[hat] at hv;simp at hv
   | true=>
    rw[hat] at hv;simp at hv;subst hv;have hc:w.cell? ⟨b,o,none⟩=some (zal ρ u):=by have:=hr 0 (zal ρ u) (by simp);simpa using this
    refine⟨?_,fun h=>by rw[zcV hat];exact h u (by simp)⟩;rw[zbU hat];have hag:(isAgg t).run P w=.ok false w:=by
     unfold isAgg;rw[Sem.run_bind,run_underlying hd w];cases d<;>simp_all
    simp[Instr.loadAt,Instr.sureAddr,loadVar,Sem.run_bind,hag,load,Sem.run,hc]
  | [],hv=>simp[ofC] at hv
  | _::_::_,hv=>simp[ofC] at hv
theorem zmD (hτ:zcl P τ) (hm:∀ i b,lk mem i=some b->BlkOk C ρ nx i w b) {t:TypeId} {p v:Value} (hp:okV ρ nx p) (h:ldx τ mem t p=some v) :
  (Instr.loadAt t (den ρ p)).run P w=.ok (den ρ v) w/\okV ρ nx v:=by
 cases p with
 | pointer q=>
  cases q with
  | none=>simp[ldx] at h
  | some ad=>
   simp only[ldx] at h;cases hti:lk τ t with
   | none=>rw[hti] at h;simp at h
   | some ti=>
    rw[hti] at h;simp only at h;have ht:=hτ t ti hti;cases hb:lk mem ad.block with
    | none=>rw[hb] at h;simp at h
    | some bl=>
     rw[hb] at h;have hok:=hm _ _ hb;cases bl with
     | ext e=>cases e with
      | fam ft sb=>simp at h
      | map kk g f=>simp at h
      | obj S Φ=>simp at h
      | deep bt sz n cap el u=>
       simp only at h;cases hsp:ad.spot with
       | none=>rw[hsp] at h;simp at h
       | some k=>
        rw[hsp] at h;simp only at h;cases htk:zdY ad.off ti.size (dpL u k 0 (el k)) with
        | none=>rw[htk] at h;simp at h
        | some l=>
         rw[htk] at h;simp only at h;obtain⟨⟨hsz,hn⟩,hu,hpl,hok⟩:=hok;have hkn:k<n:=by have:=hp.2.2 k hsp;omega
         obtain⟨hl,hget⟩:=zcd _ _ _ _ htk;have hat:∀ (j:Nat) (x:Value),l[j]?=some x->∃ y,(el k)[ad.off+j]?=some y/\x=dpV u k (ad.off+j) y:=fun j x hx=>by
          have:=hget j x hx;rw[zn9,Option.map_eq_some_iff] at this;obtain⟨y,h1,h2⟩:=this;exact⟨y,h1,by rw[← h2,Nat.zero_add]⟩
         rcases hok with h0 | ⟨-,b,off,hA,-,-,hc⟩
         ·omega
         ·have hr:w.rangeAt b (off+k * sz+ad.off) (l.map (zal ρ)):=by
           intro j v' hv';rw[List.getElem?_map] at hv';cases hlj:l[j]? with
           | none=>rw[hlj] at hv';simp at hv'
           | some x=>
            rw[hlj] at hv';simp at hv';obtain⟨y,h1,rfl⟩:=hat j x hlj;rw[← hv',← hc k hkn (ad.off+j) y h1,Nat.add_assoc]
          have e:den ρ (.pointer (some ad))=.pointer (some ⟨b,off+k * sz+ad.off,none⟩):=by simp[den,zaW,zal,zbG hA,hsp,hsz]
          rw[e];obtain⟨h1,h2⟩:=zeZ (nx:=nx) ht hr hl h;refine⟨h1,h2 fun x hx=>?_⟩;obtain⟨j,hj⟩:=List.getElem?_of_mem hx;obtain⟨y,h1,rfl⟩:=hat j x hj;exact dpV_ok hu k _ ((hpl k hkn).2 y (List.mem_of_getElem? h1))
     | box bt cs=>
      simp only at h;cases hsp:ad.spot with
      | some k=>rw[hsp] at h;simp at h
      | none=>
       rw[hsp] at h;simp only at h;cases htk:zdY ad.off ti.size cs with
       | none=>rw[htk] at h;simp at h
       | some l=>
        rw[htk] at h;simp only at h;obtain⟨g,hA,hblk,-,hcs⟩:=hok;obtain⟨hl,hget⟩:=zcd _ _ _ _ htk;have hr:w.rangeAt g ad.off (l.map (zal ρ)):=by
         intro j u hu;rw[List.getElem?_map] at hu;cases hlj:l[j]? with
         | none=>rw[hlj] at hu;simp at hu
         | some x=>
          rw[hlj] at hu;simp at hu;rw[hblk.cell];simp[hget j x hlj,hu]
        have e:den ρ (.pointer (some ad))=.pointer (some ⟨g,ad.off,none⟩):=by simp[den,zaW,zal,zbG hA,hsp]
        rw[e];obtain⟨h1,h2⟩:=zeZ (nx:=nx) ht hr hl h;refine⟨h1,h2 fun u hu=>?_⟩;obtain⟨j,hj⟩:=List.getElem?_of_mem hu;exact hcs u (List.mem_of_getElem? (hget j u hj))
     | row bt sz n el=>
      simp only at h;cases hsp:ad.spot with
      | none=>rw[hsp] at h;simp at h
      | some k=>
       rw[hsp] at h;simp only at h;cases htk:zdY ad.off ti.size (el k) with
       | none=>rw[htk] at h;simp at h
       | some l=>
        rw[htk] at h;simp only at h;obtain⟨⟨hsz,hn⟩,hpl,hok⟩:=hok;have hkn:k<n:=by have:=hp.2.2 k hsp;omega
        obtain⟨hl,hget⟩:=zcd _ _ _ _ htk;rcases hok with h0 | ⟨b,off,hA,-,hc⟩
        ·omega
        ·have hpu:∀ u ∈ l,zam u:=fun u hu=>by
          obtain⟨j,hj⟩:=List.getElem?_of_mem hu;exact (hpl k hkn).2 u (List.mem_of_getElem? (hget j u hj))
         have hr:w.rangeAt b (off+k * sz+ad.off) (l.map (zal ρ)):=by
          intro j u hu;rw[List.getElem?_map] at hu;cases hlj:l[j]? with
          | none=>rw[hlj] at hu;simp at hu
          | some x=>
           rw[hlj] at hu;simp at hu;rw[zaM (hpu x (List.mem_of_getElem? hlj))] at hu;subst hu;have:=hc k hkn (ad.off+j) x (hget j x hlj);rw[← this,Nat.add_assoc]
         have e:den ρ (.pointer (some ad))=.pointer (some ⟨b,off+k * sz+ad.off,none⟩):=by simp[den,zaW,zal,zbG hA,hsp,hsz]
         rw[e];obtain⟨h1,h2⟩:=zeZ (nx:=nx) ht hr hl h;exact⟨h1,h2 fun u hu=>zbO (hpu u hu)⟩
 | _=>simp[ldx] at h
end
end Go.Proofs.YtjnndjnpcelafaaGreat
