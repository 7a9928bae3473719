import Derived.Test.YtjnndjnpcelafaaGreatPt02
import Derived.Deep.AppendSrc
import Derived.Laws.MakeOwn
namespace Go.Proofs.YtjnndjnpcelafaaGreat
set_option maxHeartbeats 16000000
set_option maxRecDepth 100000
open Go.RowKit
set_option linter.unusedSimpArgs false
set_option linter.unusedVariables false
section
variable {P:Program} {τ:TT} {F:FT} {C:Ctx} {ρ:Nat->Pl} {fr:AF} {mem:AM} {nx:Nat} {a:Act} {w:World} {Q:Exit->Act->World->Prop}
theorem Sat.newBox (h:Sat C ρ fr mem nx a w) (t:TypeId) {cs:List Value} (hcs:∀ v ∈ cs,ok1 ρ nx v) :
  Sat C (zac ρ nx ⟨some ⟨w.heap.size,0,none⟩,0,0,false,za4⟩) fr ((nx,.box t cs)::mem) (nx+1) a (w.alloc (.cells (cs.map (zal ρ)).toArray t)):=by
 have hr:∀ i,i<nx->(ρ i).res=false->zac ρ nx ⟨some ⟨w.heap.size,0,none⟩,0,0,false,za4⟩ i=ρ i:=fun i hi _=>za8 ρ _ hi
 refine h.add ((Below.refl _ _).alloc nl_ _) ⟨w.heap.size,by rw[za2],?_,.inl h.rest.size,fun v hv=>zcs hr (Nat.le_succ _) (hcs v hv)⟩ (fun g hg=>by simp at hg;omega) rfl;have:cs.map (zal (zac ρ nx ⟨some ⟨w.heap.size,0,none⟩,0,0,false,za4⟩))=cs.map (zal ρ):=List.map_congr_left fun v hv=>zbK hr (hcs v hv)
 rw[this];exact Blk.new _ _ _
theorem ziI (g:Nat):den (zac ρ nx ⟨some ⟨g,0,none⟩,0,0,false,za4⟩) (.pointer (some ⟨nx,0,none⟩))=.pointer (some ⟨g,0,none⟩)/\okV (zac ρ nx ⟨some ⟨g,0,none⟩,0,0,false,za4⟩) (nx+1) (.pointer (some ⟨nx,0,none⟩)):=by
 refine⟨?_,?_⟩
 ·simp[den,zaW,zal,zau,zaq,za2]
 ·exact⟨⟨Nat.lt_succ_self _,by simp[za2]⟩,⟨g,0,by simp[za2]⟩,fun k hk=>by cases hk⟩
theorem Sat.newRow (h:Sat C ρ fr mem nx a w) (t ty:TypeId) {sz n:Nat} {el:Nat->List Value} {cells:Array Value} (hel:∀ k,k<n->(el k).length=sz/\∀ v ∈ el k,zam v) (hc:∀ k,k<n->∀ j v,(el k)[j]?=some v->cells[k * sz+j]?=some v) :
  Sat C (zac ρ nx ⟨some ⟨w.heap.size,0,none⟩,sz,n,false,za4⟩) fr ((nx,.row t sz n el)::mem) (nx+1) a (w.alloc (.cells cells ty)):=by
 have hB:=Blk.new w ty cells;refine h.add ((Below.refl _ _).alloc nl_ _) ⟨by rw[za2];exact⟨rfl,rfl⟩,hel,.inr ⟨w.heap.size,0,by rw[za2],⟨hB.lt,fun _=>⟨rfl,.inl h.rest.size,ty,cells,hB⟩,fun _=>.inl h.rest.size⟩,fun k hk j v hv=>?_⟩⟩ (fun g hg=>by simp at hg;omega) rfl;rw[Nat.zero_add,hB.cell];exact hc k hk j v hv
theorem ziy (g sz n m c:Nat):den (zac ρ nx ⟨some ⟨g,0,none⟩,sz,n,false,za4⟩) (.slice (some ⟨nx,0,none⟩) m c)=.slice (some ⟨g,0,none⟩) m c/\okV (zac ρ nx ⟨some ⟨g,0,none⟩,sz,n,false,za4⟩) (nx+1) (.slice (some ⟨nx,0,none⟩) m c):=by
 refine⟨?_,?_⟩
 ·simp[den,zaW,zal,zau,zaq,za2]
 ·exact⟨Nat.lt_succ_self _,by simp[za2]⟩
theorem TIok.elt {t:TypeId} {ti:TI} (h:TIok P t ti) {n:Nat} (he:ti.eb=n+1):P.underlying t=some (.slice ti.elt)/\∀ i,P.info? ti.elt=some i->i.bytes=n+1:=by
 have:=h.elem;unfold elemB at this;rw[he] at this;simp only[Bool.and_eq_true] at this;obtain⟨h1,h2⟩:=this;refine⟨?_,fun i hi=>?_⟩
 ·split at h1
  ·rename_i e hu
   rw[hu,Nat.eq_of_beq_eq_true h1]
  ·cases h1
 ·rw[hi] at h2;exact Nat.eq_of_beq_eq_true h2
theorem made_at {z:Array Value} {n sz k j:Nat} (hz:z.size=sz) (hk:k<n) (hj:j<sz):(madeCells z (n * sz))[k * sz+j]?=z[j]?:=by
 have hlt:k * sz+j<n * sz:=by
  have:=Nat.mul_le_mul_right sz (show k+1<=n by omega);rw[Nat.add_mul] at this;omega
 have hm:(k * sz+j) % sz=j:=by rw[Nat.add_comm,Nat.add_mul_mod_self_right,Nat.mod_eq_of_lt hj]
 simp only[madeCells,Array.getElem?_map,Array.getElem?_range,hlt,if_true,Option.map_some,hz,hm];rw[Array.getElem?_eq_getElem o_,getElem!_pos z j o_]
theorem zhZ (hf:FrOk ρ fr nx a) {sz:Nat}:∀ (parts:List (Nat×Operand)) (p:Nat) (rs:List (List Value)) (base:Array Value),zku fr sz p parts=some rs->(p+rs.length) * sz<=base.size->
  ∃ out,Instr.fill (fun i=>some (i * sz,sz)) base (parts.map fun q=>(q.1,a.eval q.2))=some out/\(∀ q,q<p * sz->out[q]?=base[q]?)/\(∀ r ∈ rs,r.length=sz/\∀ v ∈ r,zam v)/\∀ k j v,k<rs.length->(rs.getD k [])[j]?=some v->out[(p+k) * sz+j]?=some v
 | [],p,rs,base,h,hsz=>by
  simp[zku] at h
  subst h
  exact⟨base,rfl,fun _ _=>rfl,(fun r hr=>absurd hr (List.not_mem_nil)),fun k j v hk=>absurd hk (Nat.not_lt_zero _)⟩
 | (i,x)::r,p,rs,base,h,hsz=>by
  simp only[zku] at h
  split at h
  ·rename_i v hi hx
   split at h
   ·rename_i hl hat hpl
    have hl':(cellsOf v).length=sz:=by simpa using hl
    cases hr:zku fr sz (p+1) r with
    | none=>rw[hr] at h;simp at h
    | some rs'=>
     rw[hr] at h
     simp at h
     subst h
     obtain rfl:i=p:=Nat.eq_of_beq_eq_true hi
     obtain⟨h1,h2⟩:=zb4 hf hx
     have hplain:∀ u ∈ cellsOf v,zam u:=fun u hu=>plB_ok (List.all_eq_true.1 hpl u hu)
     have hcs:(den ρ v).cells=(cellsOf v).toArray:=by
      rw[cells_den' (zdd hat)];congr 1
      conv=>rhs;rw[← List.map_id (cellsOf v)]
      exact List.map_congr_left fun u hu=>zaM (hplain u hu)
     simp only[List.length_cons] at hsz;have hb:i * sz+sz<=base.size:=by
      have:=Nat.mul_le_mul_right sz (show i+1<=i+(rs'.length+1) by omega);rw[Nat.add_mul] at this;omega
     have hb2:zdZ base (i * sz) (cellsOf v)=(den ρ v).cells.zipIdx.foldl (fun cs (c:Value×Nat)=>cs.setIfInBounds (i * sz+c.2) c.1) base:=by
      rw[hcs];have:=zfl (i * sz) (cellsOf v) 0 base;rw[Nat.add_zero] at this;rw[← this,← Array.foldl_toList,Array.toList_zipIdx]
     have hsize:(zdZ base (i * sz) (cellsOf v)).size=base.size:=zey _ _ _;have hsz2:(i+1+rs'.length) * sz<=(zdZ base (i * sz) (cellsOf v)).size:=by
      rw[hsize,show i+1+rs'.length=i+(rs'.length+1) by omega];exact hsz
     obtain⟨out,g1,g2,g3,g4⟩:=zhZ hf r (i+1) rs' (zdZ base (i * sz) (cellsOf v)) hr hsz2;refine⟨out,?_,fun q hq=>?_,fun r' hr'=>?_,fun k j u hk hu=>?_⟩
     ·rw[List.map_cons];simp only;rw[Instr.fill];simp only[h1];rw[if_neg (by rw[hcs];simp[hl'];omega),← hb2];exact g1
     ·rw[g2 q (by rw[Nat.add_mul];omega),zdx,if_neg o_]
     ·rcases List.mem_cons.1 hr' with rfl | hr'
      ·exact⟨hl',hplain⟩
      ·exact g3 r' hr'
     ·cases k with
      | zero=>
       simp only[List.getD_cons_zero] at hu;have hj:j<sz:=by rw[← hl'];exact (List.getElem?_eq_some_iff.1 hu).1
       rw[Nat.add_zero,g2 _ (by rw[Nat.add_mul];omega),zdx,if_pos o_,Nat.add_sub_cancel_left];exact hu
      | succ k=>
       simp only[List.getD_cons_succ,List.length_cons] at hu hk;have:=g4 k j u o_ hu;rw[show i+(k+1)=i+1+k by omega];exact this
   ·simp at h
  ·simp at h
/-! append -/
def zbW (el:Nat->List Value) (n:Nat):List Value:=(List.range n).flatMap el
theorem zdU (el:Nat->List Value) (n:Nat):zbW el (n+1)=zbW el n++el n:=by simp[zbW,List.range_succ]
theorem zbP {el:Nat->List Value} {sz:Nat}:∀ {n:Nat},(∀ k,k<n->(el k).length=sz)->(zbW el n).length=n * sz
 | 0,_=>by simp[zbW]
 | n+1,h=>by rw[zdU,List.length_append,zbP fun k hk=>h k o_,h n o_,Nat.add_mul,Nat.one_mul]
theorem zeJ {el:Nat->List Value} {sz:Nat}:∀ {n:Nat},(∀ k,k<n->(el k).length=sz)->∀ j v,(zbW el n)[j]?=some v->∃ k i,k<n/\i<sz/\j=k * sz+i/\(el k)[i]?=some v
 | 0,_,j,v,h=>by simp[zbW] at h
 | n+1,hs,j,v,h=>by
  rw[zdU] at h
  have hl:=zbP (n:=n) fun k hk=>hs k o_
  by_cases hj:j<n * sz
  ·rw[List.getElem?_append_left o_] at h
   obtain⟨k,i,h1,h2,h3,h4⟩:=zeJ (fun k hk=>hs k o_) j v h
   exact⟨k,i,o_,h2,h3,h4⟩
  ·rw[List.getElem?_append_right o_,hl] at h
   have hi:=(List.getElem?_eq_some_iff.1 h).1
   rw[hs n o_] at hi
   exact⟨n,j-n * sz,o_,hi,o_,h⟩
theorem zh0 {el:Nat->List Value} {sz:Nat}:∀ {n:Nat},(∀ k,k<n->(el k).length=sz)->∀ k i v,k<n->(el k)[i]?=some v->(zbW el n)[k * sz+i]?=some v
 | 0,_,k,i,v,hk,_=>by omega
 | n+1,hs,k,i,v,hk,h=>by
  rw[zdU]
  have hl:=zbP (n:=n) fun k hk=>hs k o_
  have hi:i<sz:=by rw[← hs k hk];exact (List.getElem?_eq_some_iff.1 h).1
  by_cases hkn:k<n
  ·rw[List.getElem?_append_left]
   ·exact zh0 (fun k hk=>hs k o_) k i v hkn h
   ·rw[hl]
    have:=Nat.mul_le_mul_right sz (show k+1<=n by omega)
    rw[Nat.add_mul] at this
    omega
  ·obtain rfl:k=n:=by omega
   rw[List.getElem?_append_right o_,hl,Nat.add_sub_cancel_left]
   exact h
theorem zhX {el:Nat->List Value} {n:Nat} {v:Value} (h:v ∈ zbW el n):∃ k,k<n/\v ∈ el k:=by
 obtain⟨k,hk,hv⟩:=List.mem_flatMap.1 h;exact⟨k,List.mem_range.1 hk,hv⟩
theorem zf5 (g:Nat):∀ (a b:List Value) (w:World) (o:Nat),w.setCells g o (a++b)=(w.setCells g o a).setCells g (o+a.length) b
 | [],b,w,o=>by simp[World.setCells]
 | v::a,b,w,o=>by
  rw[List.cons_append,World.setCells,zf5 g a b,World.setCells,List.length_cons]
  congr 1
  omega
theorem Sat.storeRows {r:Nat} {t:TypeId} {sz n len:Nat} {el2:Nat->List Value} {g:Nat} (ho:zc1 t=true) (hA:(ρ r).A=some ⟨g,0,none⟩):∀ (m:Nat) {el:Nat->List Value} {mem:AM} {w:World},Sat C ρ fr mem nx a w->lk mem r=some (.row t sz n el)->len+m<=n->(∀ k,k<m->(el2 k).length=sz/\∀ v ∈ el2 k,zam v)->
  ∃ el',Sat C ρ fr ((r,.row t sz n el')::mem) nx a (w.setCells g (len * sz) (zbW el2 m))/\(∀ k,k<m->el' (len+k)=el2 k)/\∀ k,¬ (len<=k/\k<len+m)->el' k=el k
 | 0,el,mem,w,hs,hl,hn,h2=>⟨el,by
   have:zbW el2 0=[]:=rfl
   rw[this]
   exact hs.less (fun _ _ h=>h) (fun i b h=>by
    rw[List.cons_append] at h
    rcases za5 h with⟨rfl,rfl⟩ | ⟨_,h⟩
    ·exact za9 hl
    ·exact h),fun k hk=>by omega,fun k _=>rfl⟩
 | m+1,el,mem,w,hs,hl,hn,h2=>by
  obtain⟨el1,hs1,e1,e2⟩:=Sat.storeRows (len:=len) (el2:=el2) ho hA m hs hl o_ (fun k hk=>h2 k o_)
  have hlen:=zbP (el:=el2) (n:=m) fun k hk=>(h2 k o_).1
  have hl1:lk ((r,ABlk.row t sz n el1)::mem) r=some (.row t sz n el1):=zbM _ _ _
  have hk1:(el1 (len+m)).length=sz:=by
   obtain⟨-,hpl,-⟩:=hs1.blk r _ (za9 hl1);exact (hpl (len+m) o_).1
  have hput:zbx 0 (el2 m) (el1 (len+m))=some (el2 m):=by
   have:∀ (u v:List Value),u.length=v.length->zbx 0 u v=some u:=by
    intro u;induction u with
    | nil=>intro v hv;cases v<;>simp at hv;rfl
    | cons x u ih=>intro v hv;cases v with
     | nil=>simp at hv
     | cons y v=>simp only[zbx];rw[ih v (by simpa using hv)]
   exact this _ _ (by rw[hk1,(h2 m o_).1])
  obtain⟨g',hA',-,hth,hs2⟩:=hs1.storeRow hl1 ho (show len+m<n by omega) hput (h2 m o_).2;rw[hA] at hA';cases hA'
  have hdv:(el2 m).map (zal ρ)=el2 m:=by
   conv=>rhs;rw[← List.map_id (el2 m)]
   exact List.map_congr_left fun v hv=>zaM ((h2 m o_).2 v hv)
  rw[hdv] at hs2;have hel:∀ k',zfE el1 (len+m) (el2 m) k'=if k'=len+m then el2 m else el1 k':=fun k'=>by
   unfold zfE;by_cases hkk:k'=len+m
   ·subst hkk;rw[Nat.beq_refl,if_pos rfl]
   ·have:Nat.beq k' (len+m)=false:=by
     cases hbb:Nat.beq k' (len+m)
     ·rfl
     ·exact absurd (Nat.eq_of_beq_eq_true hbb) hkk
    rw[this,if_neg hkk]
  refine⟨zfE el1 (len+m) (el2 m),?_,fun k hk=>?_,fun k hk=>?_⟩
  ·have:w.setCells g (len * sz) (zbW el2 (m+1))=(w.setCells g (len * sz) (zbW el2 m)).setCells g ((len+m) * sz+0) (el2 m):=by
    rw[zdU,zf5,hlen,Nat.add_zero,Nat.add_mul]
   rw[this];refine hs2.less (fun _ _ h=>h) (fun i b h=>?_);rw[List.cons_append] at h;rw[List.cons_append,List.cons_append];rcases za5 h with⟨rfl,rfl⟩ | ⟨hne,h⟩
   ·exact zbM _ _ _
   ·rw[zcI _ _ hne,zcI _ _ hne];exact h
  ·rw[hel];by_cases hkm:k=m
   ·subst hkm;rw[if_pos rfl]
   ·rw[if_neg o_];exact e1 k o_
  ·rw[hel,if_neg o_];exact e2 k o_
theorem zkt {sz:Nat} {x:Value} {k:Nat->(Nat->List Value)->Prop} (h:srcx mem sz x k) (hs:Sat C ρ fr mem nx a w) {tx e':TypeId} (hk:P.underlying tx=some (.slice e')) :
  ∃ m el2,k m el2/\Src P sz tx (den ρ x) m (zbW el2 m) w/\∀ k,k<m->(el2 k).length=sz/\∀ v ∈ el2 k,zam v/\v.oneCell'=true:=by
 cases x<;>first | exact h.elim | skip
 rename_i A m c
 cases A with
 | none=>
  simp only[srcx] at h;cases m with
  | zero=>exact⟨0,_,h,Src.ofNil w hk c,fun k hk=>by omega⟩
  | succ m=>exact h.elim
 | some ad=>
  obtain⟨q,qo,qs⟩:=ad;cases qs with
  | none=>
   simp only[srcx] at h;split at h
   ·rename_i bt sz' n2 el2 hl
    split at h
    ·rename_i hb
     obtain⟨⟨hm,hat⟩,hK⟩:=h;obtain rfl:sz'=sz:=Nat.eq_of_beq_eq_true hb;obtain⟨⟨h1,h2⟩,hpl,hrow⟩:=hs.blk q _ (za9 hl);by_cases h0:m=0
     ·subst h0;cases hA:(ρ q).A with
      | none=>
       refine⟨0,el2,hK,?_,fun k hk=>by omega⟩;have:den ρ (.slice (some ⟨q,0,none⟩) 0 c)=.slice none 0 c:=by simp[den,zaW,zal,zau,zaq,hA]
       rw[this];exact Src.ofNil w hk c
      | some ad=>
       refine⟨0,el2,hK,?_,fun k hk=>by omega⟩;have:den ρ (.slice (some ⟨q,0,none⟩) 0 c)=.slice (some ad) 0 c:=by simp[den,zaW,zal,zau,zaq,hA]
       rw[this];exact Src.ofSlice w hk ad 0 c _ (by simp[zbW]) (by simp[zbW]) (by simp[zbW])
     ·rcases hrow with h3 | ⟨b,off,hA,-,hc⟩
      ·omega
      ·have hcell:∀ k,k<m->∀ v ∈ el2 k,v.oneCell'=true:=by
        intro k hk v hv;have h1:=zfq (ρ:=ρ) (List.all_eq_true.1 (hat k hk) v hv);rw[zaM ((hpl k o_).2 v hv)] at h1;exact h1
       refine⟨m,el2,hK,?_,fun k hk=>⟨(hpl k o_).1,fun v hv=>⟨(hpl k o_).2 v hv,hcell k hk v hv⟩⟩⟩;have:den ρ (.slice (some ⟨q,0,none⟩) m c)=.slice (some ⟨b,off,none⟩) m c:=by simp[den,zaW,zal,zau,zaq,hA]
       rw[this];refine Src.ofSlice w hk _ m c _ (zbP fun k hk=>(hpl k o_).1) (fun j u hu=>?_) (fun u hu=>?_)
       ·obtain⟨k,i,r1,r2,rfl,r4⟩:=zeJ (fun k hk=>(hpl k o_).1) j u hu;rw[Addr.add_mid,← Nat.add_assoc];exact hc k o_ i u r4
       ·obtain⟨k,hk,hv⟩:=zhX hu;exact hcell k hk u hv
    ·exact h.elim
   ·exact h.elim
  | some k0=>
   simp only[srcx] at h;split at h
   ·rename_i bt sb hl
    split at h
    ·rename_i hb
     obtain⟨⟨hm,hat⟩,hK⟩:=h;have hz:(sb k0 qo).sz=sz:=Nat.eq_of_beq_eq_true hb;obtain⟨-,hf⟩:=hs.blk q _ (za9 hl);obtain⟨hpl,hrow⟩:=hf k0 qo;have dn:∀ n,den ρ (.slice (some ⟨q,qo,some k0⟩) n c)=.slice ((ρ q).sub k0 qo) n c:=fun n=>by simp[den,zaW,zal,dS]
     rw[dn];by_cases h0:m=0
     ·subst h0;refine⟨0,_,hK,?_,fun k hk=>by omega⟩;cases hA:(ρ q).sub k0 qo with
      | none=>exact Src.ofNil w hk c
      | some ad=>exact Src.ofSlice w hk ad 0 c _ (by simp[zbW]) (by simp[zbW]) (by simp[zbW])
     ·rcases hrow with h3 | ⟨b,off,hA,-,hc⟩
      ·omega
      ·have hcell:∀ k,k<m->∀ v ∈ (sb k0 qo).el k,v.oneCell'=true:=by
        intro k hk v hv;have h1:=zfq (ρ:=ρ) (List.all_eq_true.1 (hat k hk) v hv);rw[zaM ((hpl k o_).2 v hv)] at h1;exact h1
       refine⟨m,_,hK,?_,fun k hk=>⟨by rw[← hz];exact (hpl k o_).1,fun v hv=>⟨(hpl k o_).2 v hv,hcell k hk v hv⟩⟩⟩;rw[hA];have hl3:∀ k,k<m->((sb k0 qo).el k).length=sz:=fun k hk=>by rw[← hz];exact (hpl k o_).1
       refine Src.ofSlice w hk _ m c _ (zbP hl3) (fun j u hu=>?_) (fun u hu=>?_)
       ·obtain⟨k,i,r1,r2,rfl,r4⟩:=zeJ hl3 j u hu;rw[Addr.add_mid,← Nat.add_assoc,← hz];exact hc k o_ i u r4
       ·obtain⟨k,hk,hv⟩:=zhX hu;exact hcell k hk u hv
    ·exact h.elim
   ·exact h.elim
theorem zg5 (w:World) (t tx ty e:TypeId) (i:TypeInfo) (ht:P.underlying t=some (.slice e)) (hi:P.info? e=some i) (base:Option Addr) (n c:Nat) (hle:n<=c) (x:Value) (hs:Src P i.size tx x 0 [] w) :
  (Builtin.append_ #[t,tx] ty #[.slice base n c,x]).run P w=.ok (.slice base n c) w:=by
 rcases hs.kind with⟨e',hk⟩ | hk<;>cases base<;>simp[Builtin.append_,run_underlying ht,run_underlying hk,sizeOf,typeInfo,hi,hs.len,hle,hs.cells,storeCells]
theorem Sat.rowEl {r:Nat} {t:TypeId} {sz n:Nat} {el el':Nat->List Value} (h:Sat C ρ fr ((r,.row t sz n el)::mem) nx a w) (he:∀ k,k<n->el' k=el k):Sat C ρ fr ((r,.row t sz n el')::mem) nx a w:=by
 have old:∀ i b,lk (((r,ABlk.row t sz n el')::mem)++C.fm) i=some b->∃ b0,lk (((r,ABlk.row t sz n el)::mem)++C.fm) i=some b0/\(b0=b∨(b0=.row t sz n el/\b=.row t sz n el')):=fun i b hb=>by
  rw[List.cons_append] at hb;rcases za5 hb with⟨rfl,rfl⟩ | ⟨hne,hb⟩
  ·exact⟨_,zbM _ _ _,.inr ⟨rfl,rfl⟩⟩
  ·exact⟨b,(zcI _ _ hne).trans hb,.inl rfl⟩
 refine⟨h.fok,h.sz,h.dfr,fun i b hi=>?_,fun i b hi=>?_,fun i j b b' hne hi hj=>?_,h.n0,h.low,h.rest⟩
 ·obtain⟨b0,h0,-⟩:=old i b hi;exact h.mlt i b0 h0
 ·obtain⟨b0,h0,rfl | ⟨rfl,rfl⟩⟩:=old i b hi
  ·exact h.blk i _ h0
  ·obtain⟨q1,q2,q3⟩:=h.blk i _ h0;exact⟨q1,fun k hk=>by rw[he k hk];exact q2 k hk,q3.imp_right fun⟨b,off,hA,hr,hc⟩=>⟨b,off,hA,hr,fun k hk=>by rw[he k hk];exact hc k hk⟩⟩
 ·obtain⟨b0,h0,e0⟩:=old i b hi;obtain⟨b1,h1,e1⟩:=old j b' hj;have:=h.sep i j b0 b1 hne h0 h1;clear h0 h1 hi hj;rcases e0 with e0 | ⟨e0,e2⟩<;>rcases e1 with e1 | ⟨e1,e3⟩
  ·subst e0 e1;exact this
  ·subst e0 e1 e3;cases b0<;>exact this
  ·subst e0 e1 e2;cases b1<;>exact this
  ·subst e0 e1 e2 e3;exact this
theorem zld (hτ:zcl P τ) {t tx ty e:TypeId} {te:TI} {b1:Nat} {s x:Value} {K:Value->AM->Nat->Prop} (ht:P.underlying t=some (.slice e)) (hte:TIok P e te) (hby:∀ i,P.info? e=some i->i.bytes=b1+1) {e':TypeId} (htx:P.underlying tx=some (.slice e')) (hz0:te.zero.length=te.size) (hpos:0<te.size)
  (h:appx e te (b1+1) s x mem nx K) (hs:Sat C ρ fr mem nx a w) (hok:okV ρ nx s):∃ v w' mem' nx' ρ',(Builtin.append_ #[t,tx] ty #[den ρ s,den ρ x]).run P w=.ok (den ρ' v) w'/\K v mem' nx'/\Sat C ρ' fr mem' nx' a w'/\okV ρ' nx' v/\ExtS ρ nx ρ' nx':=by
 obtain⟨m,el2,hk,hsrc,hel2⟩:=zkt h hs htx;obtain⟨ie,hie,hsz,z,hz,hzc⟩:=hte.size;have hb:=hby ie hie;rw[← hsz] at hsrc;have hzs:z.cells.size=ie.size:=by rw[← Array.length_toList,hzc,hz0,hsz]
 -- the new row
 have grow:∀ (len cap:Nat) (base:Option Addr) (el:Nat->List Value),(∀ k,k<len->(el k).length=te.size/\∀ v ∈ el k,zam v)->(Builtin.firstCells ie.size len (.slice base len cap)).run P w.drew=.ok (zbW el len).toArray w.drew->cap<len+m->(len+m) * (b1+1)<=140737488355328->
   (∀ cap' el',(len+m<=cap'/\∀ k,len+m<=k->el' k=te.zero)->(∀ k,k<len->el' k=el k)->(∀ k,k<m->el' (len+k)=el2 k)->K (.slice (some ⟨nx,0,none⟩) (len+m) cap') ((nx,.row (1000000+e) te.size cap' el')::mem) (nx+1))->
   ∃ v w' mem' nx' ρ',(Builtin.append_ #[t,tx] ty #[.slice base len cap,den ρ x]).run P w=.ok (den ρ' v) w'/\K v mem' nx'/\Sat C ρ' fr mem' nx' a w'/\okV ρ' nx' v/\ExtS ρ nx ρ' nx':=by
  intro len cap base el hel hold hlt hbound hK
  have hrun:=run_append_grow_src (P:=P) w t tx ty e ie z ht hie hz base len cap (zbW el len) hold (den ρ x) m (zbW el2 m) hsrc hlt (by
   have:len+m<=(len+m) * (b1+1):=Nat.le_mul_of_pos_right _ o_
   omega) (growslice_fits hlt (by rw[hb];exact hbound))
  generalize hc':grownCap w (len+m) cap e=c' at hrun;have hcl:len+m<=c':=by rw[← hc'];exact grownCap_ge w _ _ _
  have l1:=zbP (el:=el) (n:=len) fun k hk=>(hel k hk).1
  have l2:=zbP (el:=el2) (n:=m) fun k hk=>(hel2 k hk).1
  let el':Nat->List Value:=fun k=>if k<len then el k else if k<len+m then el2 (k-len) else te.zero
  have q1:∀ k,k<len->el' k=el k:=fun k hk=>if_pos hk
  have q2:∀ k,k<m->el' (len+k)=el2 k:=fun k hk=>by
   show (if len+k<len then _ else if len+k<len+m then el2 (len+k-len) else te.zero)=_;rw[if_neg o_,if_pos o_,Nat.add_sub_cancel_left]
  have q3:∀ k,len+m<=k->el' k=te.zero:=fun k hk=>by
   show (if k<len then _ else if k<len+m then el2 (k-len) else te.zero)=_;rw[if_neg o_,if_neg o_]
  have hs2:=hs.drew.newRow (1000000+e) e (sz:=te.size) (n:=c') (el:=el') (cells:=(zbW el len++zbW el2 m).toArray++Builtin.zeroCells z.cells (c' - (len+m))) (fun k hk=>by
   by_cases h1:k<len
   ·rw[q1 k h1];exact hel k h1
   ·by_cases h2:k<len+m
    ·have:=q2 (k-len) o_
     rw[show len+(k-len)=k by omega] at this
     rw[this]
     exact⟨(hel2 _ o_).1,fun v hv=>((hel2 _ o_).2 v hv).1⟩
    ·rw[q3 k o_];exact⟨hz0,hte.zero⟩) (fun k hk j v hv=>by
   have hmul:∀ {a b:Nat},a<b->a * te.size+te.size<=b * te.size:=fun {a b} hab=>by
    have:=Nat.mul_le_mul_right te.size (show a+1<=b by omega)
    rw[Nat.add_mul] at this
    omega
   by_cases h1:k<len
   ·rw[q1 k h1] at hv
    have hj:j<te.size:=by rw[← (hel k h1).1];exact (List.getElem?_eq_some_iff.1 hv).1
    have:=hmul h1
    rw[Array.getElem?_append_left (by simp only[List.size_toArray,List.length_append,l1];omega),List.getElem?_toArray,List.getElem?_append_left o_]
    exact zh0 (fun k hk=>(hel k hk).1) k j v h1 hv
   ·by_cases h2:k<len+m
    ·have e3:=q2 (k-len) o_
     rw[show len+(k-len)=k by omega] at e3
     rw[e3] at hv
     have hj:j<te.size:=by rw[← (hel2 (k-len) o_).1];exact (List.getElem?_eq_some_iff.1 hv).1
     have e4:=hmul (show k-len<m by omega)
     have e5:k * te.size=len * te.size+(k-len) * te.size:=by rw[← Nat.add_mul];congr 1;omega
     rw[Array.getElem?_append_left (by simp only[List.size_toArray,List.length_append,l1,l2];omega),List.getElem?_toArray,List.getElem?_append_right o_,l1,show k * te.size+j-len * te.size=(k-len) * te.size+j by omega]
     exact zh0 (fun k hk=>(hel2 k hk).1) (k-len) j v o_ hv
    ·rw[q3 k o_] at hv
     have hj:j<te.size:=by rw[← hz0];exact (List.getElem?_eq_some_iff.1 hv).1
     have e5:k * te.size=len * te.size+m * te.size+(k-(len+m)) * te.size:=by rw[← Nat.add_mul,← Nat.add_mul];congr 1;omega
     have e4:=hmul (show k-(len+m)<c' - (len+m) by omega)
     rw[Array.getElem?_append_right (by simp only[List.size_toArray,List.length_append,l1,l2];omega)]
     simp only[List.size_toArray,List.length_append,l1,l2]
     rw[show k * te.size+j-(len * te.size+m * te.size)=(k-(len+m)) * te.size+j by omega]
     rw[← hzc] at hv
     unfold Builtin.zeroCells
     have hm:((k-(len+m)) * te.size+j) % te.size=j:=by rw[Nat.add_comm,Nat.add_mul_mod_self_right,Nat.mod_eq_of_lt hj]
     have hlt2:(k-(len+m)) * te.size+j<(c' - (len+m)) * te.size:=by omega
     rw[hzs,hsz]
     simp only[Array.getElem?_map,Array.getElem?_range,hlt2,if_true,Option.map_some,hm]
     rw[Array.getElem?_toList] at hv
     obtain⟨r1,r2⟩:=Array.getElem?_eq_some_iff.1 hv
     rw[getElem!_pos z.cells j r1,r2])
  obtain⟨e1,e2⟩:=ziy (ρ:=ρ) (nx:=nx) w.heap.size te.size c' (len+m) c';refine⟨_,_,_,_,_,?_,hK c' el' ⟨hcl,q3⟩ q1 q2,hs2,e2,ExtS.set _ _ _⟩;rw[hrun];have:w.drew.heap.size=w.heap.size:=by simp
  rw[this,e1]
 cases s<;>first | exact hk.elim | skip
 rename_i A len cap
 cases A with
 | none=>
  simp only at hk;split at hk
  ·obtain⟨h1,h2⟩:=hk;by_cases hm:m=0
   ·refine⟨_,w,mem,nx,ρ,?_,h1 hm,hs,trivial,ExtS.refl _ _⟩;subst hm;have:(zbW el2 0)=[]:=rfl;rw[this] at hsrc;exact zg5 w t tx ty e ie ht hie none 0 0 o_ (den ρ x) hsrc
   ·obtain⟨h3,h4⟩:=h2 hm
    have:=grow 0 0 none (fun _=>[]) (fun k hk=>by omega) (by have:zbW (fun _=>([]:List Value)) 0=[]:=rfl;rw[this];exact run_firstCells_none w.drew ie.size 0 0 0) o_ (by rw[Nat.zero_add];exact h3) (fun cap' el' g1 g2 g3=>by
     rw[Nat.zero_add] at g1 ⊢
     exact h4 cap' el' g1 (fun k hk=>by have:=g3 k hk;rwa[Nat.zero_add] at this))
    exact this
  ·exact hk.elim
 | some ad=>
  obtain⟨r,ro,rs⟩:=ad;simp only at hk;split at hk
  ·rename_i bt sz' n el hl
   split at hk
   ·rename_i hown hb2
    obtain rfl:sz'=te.size:=Nat.eq_of_beq_eq_true hb2;obtain⟨⟨rfl,hle⟩,hroom,hgrow⟩:=hk;obtain⟨⟨h1,h2⟩,hpl,hrow⟩:=hs.blk r _ (za9 hl);have hfr:(Builtin.firstCells ie.size len (den ρ (.slice (some ⟨r,0,none⟩) len cap))).run P w.drew=.ok (zbW el len).toArray w.drew:=by
     have e0:den ρ (.slice (some ⟨r,0,none⟩) len cap)=.slice (ρ r).A len cap:=rfl;rw[e0];rcases hrow with h0 | ⟨b,off,hA,-,hc⟩
     ·obtain rfl:len=0:=by omega
      have:zbW el 0=[]:=rfl;rw[this];cases (ρ r).A with
      | none=>exact run_firstCells_none w.drew _ _ _ _
      | some ad=>exact run_firstCells_some w.drew _ 0 ad 0 cap [] (by simp) (by simp)
     ·rw[hA];refine run_firstCells_some w.drew _ len _ len cap _ (by rw[hsz];exact zbP fun k hk=>(hpl k o_).1) (fun j u hu=>?_);obtain⟨k,i,r1,r2,rfl,r4⟩:=zeJ (fun k hk=>(hpl k o_).1) j u hu;have:=hc k o_ i u r4;rw[Addr.add_mid,← Nat.add_assoc];simpa using this
    by_cases hfit:len+m<=cap
    ·by_cases hm:m=0
     ·subst hm;refine⟨_,w,_,nx,ρ,?_,hroom hfit (fun k=>if k<cap then el k else te.zero) ⟨fun k hk=>if_pos o_,fun k hk=>if_neg o_⟩ (fun k hk=>by omega),Sat.rowEl (el:=el) ?_ (fun k hk=>if_pos hk),hok,ExtS.refl _ _⟩
      ·have:(zbW el2 0)=[]:=rfl;rw[this] at hsrc;exact zg5 w t tx ty e ie ht hie (ρ r).A len cap hle (den ρ x) hsrc
      ·exact hs.less (fun _ _ h=>h) (fun i b h=>by
        rw[List.cons_append] at h
        rcases za5 h with⟨rfl,rfl⟩ | ⟨_,h⟩
        ·exact za9 hl
        ·exact h)
     ·rcases hrow with h0 | ⟨b,off,hA,hat,hc⟩
      ·omega
      ·obtain⟨rfl,hbase,ty2,cs,hblk⟩:=hat.own hown;obtain⟨el',hs2,e1,e2⟩:=Sat.storeRows (el2:=el2) (len:=len) hown hA m hs hl hfit (fun k hk=>⟨(hel2 k hk).1,fun v hv=>((hel2 k hk).2 v hv).1⟩);have l2:=zbP (el:=el2) (n:=m) fun k hk=>(hel2 k hk).1
       have hin:(len+m) * te.size<=cs.size:=by
        have hj:te.size-1<(el (len+m-1)).length:=by rw[(hpl (len+m-1) o_).1];omega
        have:=hc (len+m-1) o_ (te.size-1) _ (List.getElem?_eq_getElem hj);rw[Nat.zero_add,hblk.cell] at this;have hlt:=(Array.getElem?_eq_some_iff.1 this).1;have e5:(len+m) * te.size=(len+m-1) * te.size+te.size:=by
         conv=>lhs;rw[show len+m=(len+m-1)+1 by omega,Nat.add_mul,Nat.one_mul]
        omega
       have hth:=hblk.there (len * te.size) (m * te.size) (by rw[Nat.add_mul] at hin;exact hin);refine⟨_,_,_,nx,ρ,?_,hroom hfit (fun k=>if k<cap then el' k else te.zero) ⟨fun k hk=>by rw[if_pos o_];exact e2 k o_,fun k hk=>if_neg o_⟩ (fun k hk=>by rw[if_pos o_];exact e1 k hk),Sat.rowEl (el:=el') hs2 (fun k hk=>if_pos hk),hok,ExtS.refl _ _⟩;have e0:den ρ (.slice (some ⟨r,0,none⟩) len cap)=.slice (some ⟨b,0,none⟩) len cap:=by simp[den,zaW,zal,zau,zaq,hA]
       have e3:den ρ (.slice (some ⟨r,0,none⟩) (len+m) cap)=.slice (some ⟨b,0,none⟩) (len+m) cap:=by simp[den,zaW,zal,zau,zaq,hA]
       rw[e0,e3,run_append_room_src w t tx ty e ie ht hie b 0 len cap (den ρ x) m (zbW el2 m) hsrc hfit (fun j hj=>by rw[hsz,Nat.zero_add];exact (hth j o_).1) (fun j hj=>by rw[hsz,Nat.zero_add];exact (hth j o_).2),Nat.zero_add,hsz]
    ·obtain⟨h3,h4⟩:=hgrow o_;have e0:den ρ (.slice (some ⟨r,0,none⟩) len cap)=.slice (ρ r).A len cap:=rfl;rw[e0] at hfr ⊢;exact grow len cap (ρ r).A el (fun k hk=>hpl k o_) hfr o_ h3 h4
   ·exact hk.elim
  ·exact hk.elim
theorem zbl {d:Option Nat} {v:Value} {e:Nat} (h:d≠some e):lk (putF d v fr) e=lk fr e:=by
 cases d with
 | none=>rfl
 | some d=>exact zcI _ _ (fun q=>h (by rw[q]))
theorem zbf {o:Oper} {v:Value} {w':World} {K:Act->World->Prop} (h:(execOp a.eval o).run P w=.ok (.value v) w') (hk:K (a.put o.dst v) w'):o.wp P a w K Q:=by
 unfold Oper.wp;rw[h];exact hk
theorem zhs (hτ:zcl P τ) (hf:FrOk ρ fr nx a) {t:TypeId} {x y:Operand} {A:Option Addr} {n cap:Nat} {k:IntKind} {h:Int} {ti:TI} {e1:Nat} (hx:ev fr x=some (.slice A n cap)) (hy:ev fr y=some (.int k h)) (hti:lk τ t=some ti) (hsl:ti.sl=true) (hes:ti.esz=e1+1) (h0:0<=h) (h1:h<=cap) :
  (Instr.sliceAt t (a.eval x) none (some (a.eval y)) none).run P w=.ok (den ρ (.slice A h.toNat cap)) w/\okV ρ nx (.slice A h.toNat cap):=by
 obtain⟨e,hu,he⟩:=(hτ t ti hti).slice hsl;obtain⟨q1,q2⟩:=zb4 hf hx;obtain⟨q3,-⟩:=zb4 hf hy;have q3':a.eval y=.int k h:=q3;refine⟨?_,?_⟩
 ·cases hi:P.info? e with
  | none=>simp[zeu,hi] at he;omega
  | some ii=>
   have hb:(Instr.sliceBounds true n cap none (some (.int k h)) none).run P w=.ok (0,h.toNat,cap) w:=by
    simp[Instr.sliceBounds,Instr.sliceBound,asIntOf,h0,h1]
   rw[q1,q3'];cases A with
   | none=>
    simp[Instr.sliceAt,run_underlying hu,Instr.slice,hb,sizeOf,typeInfo,hi,den,zaW,zal]
   | some ad=>
    simp[Instr.sliceAt,run_underlying hu,Instr.slice,hb,sizeOf,typeInfo,hi,den,zaW,zal];intro _;cases dA ρ ad<;>simp[Addr.add]
 ·cases A with
  | none=>trivial
  | some ad=>exact q2
theorem zli {I:List Nat} (hτ:zcl P τ) (hF:zaY P F I) {o:Oper} (hI:C.fm=[]∨zgT I o.op=true) (hd:∀ i,o.dst=some i->i<C.nt) {K:AF->AM->Nat->Prop} (h:actx τ F o.dst o.op fr mem nx K) (hs:Sat C ρ fr mem nx a w) :
  o.wp P a w (fun a' w'=>∃ fr' mem' nx' ρ',K fr' mem' nx'/\Sat C ρ' fr' mem' nx' a' w'/\ExtS ρ nx ρ' nx'/\∀ d,o.dst≠some d->lk fr' d=lk fr d) Q:=by
 obtain⟨dst,op,type,pos,after,guard⟩:=o;simp only at hd h;cases op<;>simp only[actx,zcB] at h<;>try (exact h.elim)
 case alloc t=>
  cases hti:lk τ t with
  | none=>rw[hti] at h;exact h.elim
  | some ti=>
   rw[hti] at h;have ht:=hτ t ti hti;obtain⟨i,hi,hsz,z,hz,hzc⟩:=ht.size;have hmap:ti.zero.map (zal ρ)=ti.zero:=by
    conv=>rhs;rw[← List.map_id ti.zero]
    exact List.map_congr_left fun v hv=>zaM (ht.zero v hv)
   have hs2:=hs.newBox t (cs:=ti.zero) (fun v hv=>zbO (ht.zero v hv));rw[hmap] at hs2;obtain⟨e1,e2⟩:=ziI (ρ:=ρ) (nx:=nx) w.heap.size;have hs3:=hs2.put (d:=dst) hd e2;rw[e1] at hs3;refine zbf (w':=w.alloc (.cells ti.zero.toArray t)) ?_ ⟨_,_,_,_,h,hs3,ExtS.set _ _ _,fun _ q=>zbl q⟩;have hza:z.cells=ti.zero.toArray:=by apply Array.toList_inj.1;simp[hzc]
   simp[execOp,Instr.alloc,zeroValue,typeInfo,hi,hz,newVar,newRow,newObj,hza,Sem.run]
 case box t x=>
  cases hx:ev fr x with
  | none=>rw[hx] at h;exact h.elim
  | some v=>
   rw[hx] at h;obtain⟨h1,h2⟩:=zb4 hs.fok.left hx;rcases zeE v with⟨cs,rfl⟩ | ⟨f,a',b,rfl⟩ | ⟨-,-⟩
   ·exact h.elim
   ·exact h.elim
   ·by_cases hnt:nt v=false
    ·cases v<;>first | exact h.elim | cases hnt
    ·have hnt':nt v=true:=by simpa using hnt
     have h':K (putF dst (.pointer (some ⟨nx,0,none⟩)) fr) ((nx,.box t (cellsOf v))::mem) (nx+1):=by
      cases v<;>first | exact h | cases hnt'
     have hs2:=hs.newBox t (cs:=cellsOf v) (zk3 hnt' h2);obtain⟨e1,e2⟩:=ziI (ρ:=ρ) (nx:=nx) w.heap.size;have hs3:=hs2.put (d:=dst) hd e2;rw[e1] at hs3;refine zbf (w':=w.alloc (.cells ((cellsOf v).map (zal ρ)).toArray t)) ?_ ⟨_,_,_,_,h',hs3,ExtS.set _ _ _,fun _ q=>zbl q⟩;simp[execOp,Instr.box,newVar,newRow,newObj,h1,zi9 (ρ:=ρ) hnt',Sem.run]
 case store t x y=>
  cases hx:ev fr x with
  | none=>rw[hx] at h;exact h.elim
  | some p=>
   cases hy:ev fr y with
   | none=>rw[hx,hy] at h;cases p<;>first | exact h.elim | (rename_i q;cases q<;>exact h.elim)
   | some v=>
    cases hti:lk τ t with
    | none=>rw[hx,hy,hti] at h;cases p<;>first | exact h.elim | (rename_i q;cases q<;>exact h.elim)
    | some ti=>
     rw[hx,hy,hti] at h;cases p<;>first | exact h.elim | skip
     rename_i q
     cases q with
     | none=>exact h.elim
     | some ad=>
      simp only at h;cases hb:lk mem ad.block with
      | none=>rw[hb] at h;exact h.elim
      | some bl=>
       rw[hb] at h;cases bl with
       | ext e=>cases hsp:ad.spot<;>(rw[hsp] at h;exact h.elim)
       | row bt sz n el=>
        cases hsp:ad.spot with
        | none=>rw[hsp] at h;exact h.elim
        | some k=>
         rw[hsp] at h;simp only at h;split at h
         ·rename_i hl hat hpl hown
          obtain⟨l,hp,hK⟩:=h;obtain⟨h1,h2⟩:=zb4 hs.fok.left hx;obtain⟨h3,h4⟩:=zb4 hs.fok.left hy;have hl':(cellsOf v).length=ti.size:=by simpa using hl
          have hplain:∀ u ∈ cellsOf v,zam u:=fun u hu=>plB_ok (List.all_eq_true.1 hpl u hu)
          have hkn:k<n:=by
           have:=h2.2.2 k hsp;obtain⟨⟨-,e⟩,-⟩:=hs.blk _ _ (za9 hb);omega
          obtain⟨g,hA,hsz,hth,hs2⟩:=hs.storeRow hb hown hkn hp hplain;have hrun:=zhu (P:=P) (w:=w) (ρ:=ρ) (hτ t ti hti) (g:=g) (o:=k * sz+ad.off) (zdd hat) hl' hat hth;have e:den ρ (.pointer (some ad))=.pointer (some ⟨g,k * sz+ad.off,none⟩):=by simp[den,zaW,zal,zbG hA,hsp,hsz]
          rw[e] at h1;unfold Oper.wp execOp;simp only[h1,h3];rw[Sem.run_bind,hrun];exact⟨_,_,_,_,hK,hs2,ExtS.refl _ _,fun _ _=>rfl⟩
         ·exact h.elim
       | box bt cs=>
        cases hsp:ad.spot with
        | some k=>rw[hsp] at h;exact h.elim
        | none=>
         rw[hsp] at h;simp only at h;split at h
         ·rename_i l hl hat hp
          obtain⟨h1,h2⟩:=zb4 hs.fok.left hx;obtain⟨h3,h4⟩:=zb4 hs.fok.left hy;obtain⟨g,hA,hblk,-,-⟩:=hs.blk _ _ (za9 hb);have hl':(cellsOf v).length=ti.size:=by simpa using hl
          have hnt:nt v=true:=zdd hat;have hsz:=(zcJ _ _ _ _ hp).2.1;have hrun:=zhu (P:=P) (w:=w) (ρ:=ρ) (hτ t ti hti) (g:=g) (o:=ad.off) hnt hl' hat (hblk.there _ _ (by simpa using hsz));have hs2:=hs.store hb hA hp (zk3 hnt h4);have e:den ρ (.pointer (some ad))=.pointer (some ⟨g,ad.off,none⟩):=by simp[den,zaW,zal,zbG hA,hsp]
          rw[e] at h1;unfold Oper.wp execOp;simp only[h1,h3];rw[Sem.run_bind,hrun];exact⟨_,_,_,_,h,hs2,ExtS.refl _ _,fun _ _=>rfl⟩
         ·exact h.elim
 case buildSlice t len parts=>
  cases hti:lk τ t with
  | none=>rw[hti] at h;exact h.elim
  | some ti=>
   rw[hti] at h;simp only at h;split at h
   ·rename_i eb te hsl heb hte
    split at h
    ·rename_i s rs hs1 hrs
     split at h
     ·rename_i hlen hle
      have ht:=hτ t ti hti;obtain⟨hu,hby⟩:=ht.elt heb;obtain⟨ie,hie,hsz,z,hz,hzc⟩:=(hτ _ te hte).size;have hlen':rs.length=len:=Nat.eq_of_beq_eq_true hlen;have hle':len * te.size<=16777216:=Nat.le_of_ble_eq_true hle;obtain⟨out,g1,-,g3,g4⟩:=zhZ (a:=a) hs.fok.left parts.toList 0 rs ((Array.range (len * te.size)).map fun i=>(if len * te.size=0 then #[] else z.cells)[i % (if len * te.size=0 then #[] else z.cells).size]!) hrs (by simp[hlen'])
      have hs2:=hs.newRow (1000000+ti.elt) ti.elt (sz:=te.size) (n:=len) (el:=fun k=>rs.getD k []) (cells:=out) (fun k hk=>by
       have:rs[k]?=some (rs.getD k []):=by rw[gd_,List.getElem?_eq_getElem o_];rfl
       exact g3 _ (List.mem_of_getElem? this)) (fun k hk j v hv=>by
       have:=g4 k j v o_ hv
       rw[Nat.zero_add] at this
       exact this)
      obtain⟨e1,e2⟩:=ziy (ρ:=ρ) (nx:=nx) w.heap.size te.size len len len;have hs3:=hs2.put (d:=dst) hd e2;rw[e1] at hs3;refine zbf (w':=w.alloc (.cells out ti.elt)) ?_ ⟨_,_,_,_,h,hs3,ExtS.set _ _ _,fun _ q=>zbl q⟩;have hpm:(parts.map fun (q:Nat×Operand)=>(q.1,a.eval q.2)).toList=parts.toList.map fun q=>(q.1,a.eval q.2):=by simp
      have hz0:¬ (16777216<len * te.size):=by omega
      by_cases h0:len * te.size=0
      ·simp only[h0,if_true] at g1;rw[show (Array.range 0).map (fun i=>(#[]:Array Value)[i % (#[]:Array Value).size]!)=#[] by simp[Array.range_zero']] at g1;simp[execOp,Instr.buildSlice,run_underlying hu,sizeOf,typeInfo,hie,hsz,h0,g1,newRow,newObj,Sem.run,Array.range_zero']
      ·simp only[h0,if_false] at g1;simp[execOp,Instr.buildSlice,run_underlying hu,sizeOf,typeInfo,zeroValue,hie,hsz,hz,hz0,h0,g1,newRow,newObj,Sem.run]
     ·exact h.elim
    ·exact h.elim
   ·exact h.elim
 case makeSlice t x y=>
  cases hx:ev fr x with
  | none=>rw[hx] at h;exact h.elim
  | some p=>
   rw[hx] at h;cases p<;>first | exact h.elim | skip
   rename_i kl n
   cases hy:ev fr y with
   | none=>rw[hy] at h;exact h.elim
   | some q=>
    rw[hy] at h;cases q<;>first | exact h.elim | skip
    rename_i kc n'
    cases hti:lk τ t with
    | none=>rw[hti] at h;exact h.elim
    | some ti=>
     rw[hti] at h;simp only at h;split at h
     ·rename_i eb te hsl heb hte
      split at h
      ·rename_i s hs1 hzl
       obtain⟨⟨hnn',hn0,hnb⟩,hK⟩:=h;have ht:=hτ t ti hti;obtain⟨hu,hby⟩:=ht.elt heb;obtain⟨ie,hie,hsz,z,hz,hzc⟩:=(hτ _ te hte).size;have hzl':te.zero.length=te.size:=Nat.eq_of_beq_eq_true hzl;have hzs:z.cells.size=te.size:=by rw[← Array.length_toList,hzc,hzl']
       have hb:=hby ie hie;have h1:a.eval x=.int kl n:=(zb4 hs.fok.left hx).1;have h2:a.eval y=.int kc n':=(zb4 hs.fok.left hy).1;have hnn:n'<=281474976710656:=by
        have:n' * 1<=n' * ((eb+1:Nat):Int):=Int.mul_le_mul_of_nonneg_left o_ o_;omega
       have hrun:=run_make (P:=P) w t ti.elt ie z hu hie hz kl kc n n' hn0 hnn' (by rw[hb,Int.mul_comm];exact hnb) o_
       have hs2:=hs.newRow (1000000+ti.elt) ti.elt (sz:=te.size) (n:=n'.toNat) (el:=fun _=>te.zero) (cells:=madeCells z.cells (n'.toNat * te.size)) (fun k hk=>⟨hzl',(hτ _ te hte).zero⟩) (fun k hk j v hv=>by
        have hj:j<te.size:=by rw[← hzl'];exact (List.getElem?_eq_some_iff.1 hv).1
        rw[made_at hzs hk hj]
        rw[← hzc] at hv
        simpa using hv)
       obtain⟨e1,e2⟩:=ziy (ρ:=ρ) (nx:=nx) w.heap.size te.size n'.toNat n.toNat n'.toNat;have hs3:=hs2.put (d:=dst) hd e2;rw[e1] at hs3;refine zbf (w':=w.alloc (.cells (madeCells z.cells (n'.toNat * te.size)) ti.elt)) ?_ ⟨_,_,_,_,hK,hs3,ExtS.set _ _ _,fun _ q=>zbl q⟩;rw[hsz] at hrun;simp[execOp,h1,h2,hrun]
      ·exact h.elim
     ·exact h.elim
 case slice t x lo hi mx=>
  cases lo with
  | some _=>exact h.elim
  | none=>
   cases mx with
   | some _=>cases hi<;>exact h.elim
   | none=>
    cases hi with
    | none=>exact h.elim
    | some y=>
     try simp only at h
     cases hx:ev fr x with
     | none=>rw[hx] at h;exact h.elim
     | some p=>
      rw[hx] at h;cases p<;>(try simp only at h)<;>first | exact h.elim | skip
      rename_i A n cap
      cases hy:ev fr y with
      | none=>rw[hy] at h;exact h.elim
      | some q=>
       rw[hy] at h;cases q<;>(try simp only at h)<;>first | exact h.elim | skip
       rename_i k hh
       cases hti:lk τ t with
       | none=>rw[hti] at h;exact h.elim
       | some ti=>
        rw[hti] at h;try simp only at h
        split at h
        ·rename_i s hsl hesz
         obtain⟨⟨h0,h1⟩,hK⟩:=h;obtain⟨r1,r2⟩:=zhs (w:=w) hτ hs.fok.left hx hy hti hsl hesz h0 h1;refine zbf (w':=w) (v:=den ρ (.slice A hh.toNat cap)) ?_ ⟨_,_,_,_,hK,hs.put (d:=dst) hd r2,ExtS.refl _ _,fun _ q=>zbl q⟩;simp[execOp,r1]
        ·exact h.elim
 case indexAddr t x i=>
  cases hx:ev fr x with
  | none=>rw[hx] at h;exact h.elim
  | some p=>
   rw[hx] at h;cases p<;>first | exact h.elim | skip
   rename_i A n cp
   cases A with
   | none=>exact h.elim
   | some ad=>
    cases hy:ev fr i with
    | none=>rw[hy] at h;exact h.elim
    | some q=>
     rw[hy] at h;cases q<;>first | exact h.elim | skip
     rename_i kk k
     cases hti:lk τ t with
     | none=>rw[hti] at h;exact h.elim
     | some ti=>
      rw[hti] at h;simp only at h;cases hb:lk mem ad.block with
      | none=>rw[hb] at h;exact h.elim
      | some bl=>
       rw[hb] at h;cases bl with
       | box bt cs=>exact h.elim
       | ext e=>exact h.elim
       | row bt sz n' el=>
        simp only at h;split at h
        ·rename_i s hoff hsp hsl hesz hbe
         obtain⟨⟨hn,hk0,hkn⟩,hK⟩:=h;have hsz:ti.esz=sz:=Nat.eq_of_beq_eq_true hbe;obtain⟨h1,h2⟩:=zb4 hs.fok.left hx;obtain⟨h3,-⟩:=zb4 hs.fok.left hy;obtain⟨⟨hs1,hs2⟩,-,hrow⟩:=hs.blk _ _ (za9 hb);rcases hrow with h0 | ⟨b,off,hA,hlt,hc⟩
         ·omega
         ·obtain⟨e,hu,he⟩:=(hτ t ti hti).slice hsl;have hok:okV ρ nx (.pointer (some ⟨ad.block,0,some k.toNat⟩)):=⟨hs.mlt _ _ (za9 hb),⟨b,off,hA⟩,fun j hj=>by cases hj;show k.toNat<(ρ ad.block).n;rw[hs2];omega⟩;have hs3:=hs.put (d:=dst) hd hok;have e1:den ρ (.slice (some ad) n cp)=.slice (some ⟨b,off,none⟩) n cp:=by simp[den,zaW,zal,dS,zbG hA,hsp,hoff]
          have e2:den ρ (.pointer (some ⟨ad.block,0,some k.toNat⟩))=.pointer (some ⟨b,off+k.toNat * sz,none⟩):=by simp[den,zaW,zal,zbG (a:=⟨ad.block,0,some k.toNat⟩) hA,hs1]
          rw[e2] at hs3;rw[e1] at h1;have h3':a.eval i=.int kk k:=h3;refine zbf (w':=w) ?_ ⟨_,_,_,_,hK,hs3,ExtS.refl _ _,fun _ q=>zbl q⟩;cases hi:P.info? e with
          | none=>simp[zeu,hi] at he;omega
          | some ii=>
           have hes:ii.size=sz:=by rw[← hsz,← he];simp[zeu,hi]
           simp[execOp,h1,h3',Instr.indexAt,asIntOf,run_underlying hu,hk0,hkn,sizeOf,typeInfo,hi,hes,Addr.add_mid]
        ·exact h.elim
 case binOp bo t x y yt=>
  cases hx:ev fr x with
  | none=>rw[hx] at h;exact h.elim
  | some p=>
   rw[hx] at h;cases p<;>first | exact h.elim | skip
   rename_i k b
   cases hy:ev fr y with
   | none=>rw[hy] at h;exact h.elim
   | some q=>
    rw[hy] at h;cases q<;>first | exact h.elim | skip
    rename_i k' c
    have h1:a.eval x=.int k b:=(zb4 hs.fok.left hx).1;have h2:a.eval y=.int k' c:=(zb4 hs.fok.left hy).1;cases bo<;>simp only at h<;>first | exact h.elim | skip
    case quo=>
     obtain⟨⟨rfl,hc⟩,hK⟩:=h;refine zbf (w':=w) (v:=.int k (k.wrap (b.tdiv c))) ?_ ⟨_,_,_,_,hK,hs.put (d:=dst) (v:=.int k (k.wrap (b.tdiv c))) hd trivial,ExtS.refl _ _,fun _ q=>zbl q⟩;simp[execOp,h1,h2,eqGuard,binOp,Op.intDiv,hc]
    case rem=>
     obtain⟨⟨rfl,hc⟩,hK⟩:=h;refine zbf (w':=w) (v:=.int k (b.tmod c)) ?_ ⟨_,_,_,_,hK,hs.put (d:=dst) (v:=.int k (b.tmod c)) hd trivial,ExtS.refl _ _,fun _ q=>zbl q⟩;simp[execOp,h1,h2,eqGuard,binOp,Op.intDiv,hc]
    case shl=>
     obtain⟨hc,hK⟩:=h;refine zbf (w':=w) (v:=.int k (k.wrap (b * 2 ^ min c.toNat k.bits))) ?_ ⟨_,_,_,_,hK,hs.put (d:=dst) (v:=.int k (k.wrap (b * 2 ^ min c.toNat k.bits))) hd trivial,ExtS.refl _ _,fun _ q=>zbl q⟩;simp[execOp,h1,h2,eqGuard,binOp,Op.shift,show ¬ c<0 by omega]
    case shr=>
     obtain⟨hc,hK⟩:=h;refine zbf (w':=w) (v:=.int k (b.fdiv (2 ^ min c.toNat k.bits))) ?_ ⟨_,_,_,_,hK,hs.put (d:=dst) (v:=.int k (b.fdiv (2 ^ min c.toNat k.bits))) hd trivial,ExtS.refl _ _,fun _ q=>zbl q⟩;simp[execOp,h1,h2,eqGuard,binOp,Op.shift,show ¬ c<0 by omega]
 case call c=>
  obtain⟨callee,args,argTypes⟩:=c;cases callee with
  | builtin b=>
   cases b<;>simp only at h<;>first | exact h.elim | skip
   split at h
   ·rename_i s x t tx hev hty
    have hvs:evs fr args.toList=some [s,x]:=hev;obtain⟨h1,h2⟩:=ze7 hs.fok.left hvs;have h1':args.map a.eval=#[den ρ s,den ρ x]:=by apply Array.toList_inj.1;simp[h1]
    have hat:argTypes=#[t,tx]:=by apply Array.toList_inj.1;simp[hty]
    split at h
    ·rename_i ti tj hti htj
     split at h
     ·rename_i eb te hsl hsl2 heb hte
      split at h
      ·rename_i sz hsz hzl
       obtain⟨hu,hby⟩:=(hτ t ti hti).elt heb;obtain⟨e',hu2,-⟩:=(hτ tx tj htj).slice hsl2;obtain⟨v,w',mem',nx',ρ',hrun,hK,hs',hok',hx'⟩:=zld (ty:=type) hτ hu (hτ _ te hte) hby hu2 (Nat.eq_of_beq_eq_true hzl) o_ h hs (h2 s (by simp));refine zbf (v:=den ρ' v) (w':=w') ?_ ⟨_,_,_,_,hK,hs'.put (d:=dst) hd hok',hx',fun _ q=>zbl q⟩;simp[execOp,resolve,invoke,builtin,h1',hat,hrun]
      ·exact h.elim
     ·exact h.elim
    ·exact h.elim
   ·exact h.elim
  | invoke r m=>exact h.elim
  | value x=>
   cases x<;>first | exact h.elim | skip
   case func f=>
    simp only at h;cases hvs:evs fr args.toList with
    | none=>rw[hvs] at h;exact h.elim
    | some vs=>
     cases hct:lk F f with
     | none=>rw[hvs,hct] at h;exact h.elim
     | some ct=>
      rw[hvs,hct] at h;simp only at h;obtain⟨h1,h2⟩:=ze7 hs.fok.left hvs;have h1':args.map a.eval=(vs.map (den ρ)).toArray:=by apply Array.toList_inj.1;simp[h1]
      obtain⟨hent,hrun⟩:=hF f ct hct C (hI.imp id (fun q=>by simpa [zgT] using q));cases hfn:P.funcs[f]? with
      | none=>rw[hfn] at hent;simp at hent
      | some fn=>
       rw[hfn] at hent;simp at hent;have hc:=hrun h hs h2;unfold Oper.wp;have hx:(execOp a.eval { dst:=dst,op:=.call { callee:=.value (.func f),args:=args,argTypes:=argTypes },type:=type,pos:=pos,after:=after,guard:=guard }).run P w=.ok (.enter f (vs.map (den ρ)).toArray) w:=by
        have hbs:fn.body≠none:=by intro hb;rw[hb] at hent;simp at hent
        simp[execOp,resolve,Act.eval,Deferred.ofValue,invoke,callFunc,hfn,hent.1,hbs,h1',program,Sem.run]
       rw[hx];refine hc.mono fun e w' he=>?_
       obtain⟨v,mem',nx',ρ',rfl,hK,hs',hv,hx'⟩:=he;exact⟨_,_,_,_,hK,hs'.put (d:=dst) hd hv,hx',fun _ q=>zbl q⟩
   case tmp t=>
    simp only at h;cases hft:lk fr t with
    | none=>rw[hft] at h;exact h.elim
    | some fv=>
     rw[hft] at h;split at h
     ·rename_i f fs cs heq
      cases heq
      cases hvs:evs fr args.toList with
      | none=>rw[hvs] at h;exact h.elim
      | some vs=>
       cases hct:lk F f with
       | none=>rw[hvs,hct] at h;exact h.elim
       | some ct=>
        rw[hvs,hct] at h;split at h
        ·rename_i vs' ct' q1 q2 ha hb
         cases q1
         cases q2
         rw[List.all_eq_true] at ha hb;obtain⟨h1,h2⟩:=ze7 hs.fok.left hvs;have h1':args.map a.eval=(vs.map (den ρ)).toArray:=by apply Array.toList_inj.1;simp[h1]
         obtain⟨hent,hrun⟩:=hF f ct hct C (hI.imp id (fun q=>by simp[zgT] at q));have hfv:=hs.fok.left.frm t _ hft;have hfk:=hs.fok.left.frk t _ hft;have d1:fs.map (zal ρ)=(fs.toList.map (den ρ)).toArray:=by
          apply Array.toList_inj.1
          simp only[Array.toList_map];exact List.map_congr_left fun v hv=>(zbU (ha v hv)).symm
         have d2:cs.map (zal ρ)=(cs.toList.map (den ρ)).toArray:=by
          apply Array.toList_inj.1
          simp only[Array.toList_map];exact List.map_congr_left fun v hv=>(zbU (hb v hv)).symm
         cases hfn:P.funcs[f]? with
         | none=>rw[hfn] at hent;simp at hent
         | some fn=>
          rw[hfn] at hent;simp at hent
          have hc:=hrun h hs (fun v hv=>by
           rw[List.mem_append,List.mem_append] at hv
           rcases hv with hv | hv | hv
           ·rw[zcV (ha v hv)];exact hfk.1 v (by simpa using hv)
           ·exact h2 v hv
           ·rw[zcV (hb v hv)];exact hfk.2 v (by simpa using hv))
          unfold Oper.wp;have he:a.eval (.tmp t)=.func (.func f) (fs.map (zal ρ)) (cs.map (zal ρ)):=by
           simp only[Act.eval,Array.getD_eq_getD_getElem?,hfv];rfl
          have hx:(execOp a.eval { dst:=dst,op:=.call { callee:=.value (.tmp t),args:=args,argTypes:=argTypes },type:=type,pos:=pos,after:=after,guard:=guard }).run P w=.ok (.enter f ((fs.toList++(vs++cs.toList)).map (den ρ)).toArray) w:=by
           have hbs:fn.body≠none:=by intro hb;rw[hb] at hent;simp at hent
           simp[execOp,resolve,he,Deferred.ofValue,invoke,callFunc,hfn,hent.1,hbs,h1',d1,d2,program,Sem.run]
          rw[hx];refine hc.mono fun e w' he=>?_
          obtain⟨v,mem',nx',ρ',rfl,hK,hs',hv,hx'⟩:=he;exact⟨_,_,_,_,hK,hs'.put (d:=dst) hd hv,hx',fun _ q=>zbl q⟩
        ·exact h.elim
     ·exact h.elim
end
/-! Operations on wider blocks are carried out as told. -/
section
variable {P:Program} {τ:TT} {F:FT} {C:Ctx} {ρ ρ':Nat->Pl} {fr:AF} {mem:AM} {nx:Nat} {a:Act} {w:World} {Q:Exit->Act->World->Prop}
theorem Sat.addF (h:Sat C ρ fr mem nx a w) {b:ABlk} {p:Pl} (hok:BlkOk C (zac ρ nx p) (nx+1) nx w b) (hfree:∀ g,brd (zac ρ nx p) nx b g->∀ j b',lk (mem++C.fm) j=some b'->¬ brd ρ j b' g) (hp:p.res=false) :
  Sat C (zac ρ nx p) fr ((nx,b)::mem) (nx+1) a w:=by
 have hr:∀ j,j<nx->zac ρ nx p j=ρ j:=fun j hj=>za8 ρ p hj
 have h1:=h.ren (ρ':=zac ρ nx p) (m:=nx+1) (fun j hj _=>hr j hj) (Nat.le_succ _) (fun j hj=>hr j (Nat.lt_of_lt_of_le hj h.n0));have key:∀ j b',lk (mem++C.fm) j=some b'->Apart (zac ρ nx p) nx j b b'/\Apart (zac ρ nx p) j nx b' b:=by
  intro j b' hj;have hjl:=hr j (h.mlt j b' hj).1;refine⟨hok.apart fun g hg hg2=>?_,(h1.blk j b' hj).apart fun g hg hg2=>?_⟩
  ·rw[zbX hjl] at hg2;exact hfree g (zbm hg) j b' hj hg2
  ·rw[zdG hjl] at hg;exact hfree g hg2 j b' hj (zbm hg)
 refine⟨h1.fok,h1.sz,h1.dfr,fun i b' hi=>?_,fun i b' hi=>?_,fun i j b1 b2 hne hi hj=>?_,h1.n0,h1.low,h1.rest⟩
 ·rcases za5 hi with⟨rfl,rfl⟩ | ⟨hne,hi⟩
  ·exact⟨Nat.lt_succ_self _,by rw[za2];exact hp⟩
  ·exact h1.mlt i b' hi
 ·rcases za5 hi with⟨rfl,rfl⟩ | ⟨hne,hi⟩
  ·exact hok
  ·exact h1.blk i b' hi
 ·rcases za5 hi with⟨rfl,rfl⟩ | ⟨hni,hi⟩
  ·rcases za5 hj with⟨rfl,rfl⟩ | ⟨hnj,hj⟩
   ·exact absurd rfl hne
   ·exact (key j b2 hj).1
  ·rcases za5 hj with⟨rfl,rfl⟩ | ⟨hnj,hj⟩
   ·exact (key i b1 hi).2
   ·exact h1.sep i j b1 b2 hne hi hj
theorem zjN {i:Nat}:BlkOk C ρ nx i w noFam:=⟨rfl,fun k o=>⟨fun j hj=>absurd hj (Nat.not_lt_zero _),.inl rfl⟩⟩
theorem zeF {i g:Nat}:¬ brd ρ i noFam g:=fun⟨_,_,h,_⟩=>h rfl
theorem Sat.forget (h:Sat C ρ fr mem nx a w) {i:Nat} {b:ABlk} (hb:lk mem i=some b):Sat C ρ fr ((i,noFam)::mem) nx a w:=
 h.write hb rfl (fun _ _=>rfl) zjN (fun g hg=>absurd hg zeF) (fun g hg=>absurd (zbm hg) zeF) h.rest
theorem row_ro {t:TypeId} (ho:zc1 t=false) {i sz n:Nat} {el:Nat->List Value} (g:Nat):¬ bwr ρ i (.row t sz n el) g:=fun h=>by have q:=h.1;rw[ho] at q;cases q
theorem fam_ro {i:Nat} {t:TypeId} {sb:Nat->Nat->SB} (g:Nat):¬ bwr ρ i (.ext (.fam t sb)) g:=fun h=>h
structure SbAt (C:Ctx) (ρ:Nat->Pl) (mem:AM) (w:World) (t:TypeId) (s:SB) (A:Option Addr):Prop where
 pl:∀ j,j<s.n->(s.el j).length=s.sz/\∀ u ∈ s.el j,zam u
 at_:s.n=0∨∃ b off,A=some ⟨b,off,none⟩/\RowA C.ok w t b off/\(∀ j,j<s.n->∀ q v,(s.el j)[q]?=some v->w.cell? ⟨b,off+j * s.sz+q,none⟩=some v)/\∃ i b0,lk (mem++C.fm) i=some b0/\brd ρ i b0 b/\∀ g,¬ bwr ρ i b0 g
theorem SbAt.ty {t t':TypeId} {s:SB} {A:Option Addr} (h:SbAt C ρ mem w t s A) (ho:zc1 t'=false) (hf:frT t'=true->frT t=true):SbAt C ρ mem w t' s A:=
 ⟨h.pl,h.at_.imp id fun⟨b,off,h1,h2,h3⟩=>⟨b,off,h1,⟨h2.lt,(fun q=>by rw[ho] at q;cases q),fun q=>h2.new (hf q)⟩,h3⟩⟩
theorem Sat.famAt (hs:Sat C ρ fr mem nx a w) {u:Nat} {t:TypeId} {sb:Nat->Nat->SB} (h:lk mem u=some (.ext (.fam t sb))) (k o:Nat):SbAt C ρ mem w t (sb k o) ((ρ u).sub k o):=by
 have hb:=hs.blk u _ (za9 h);refine⟨(hb.2 k o).1,?_⟩;by_cases hn:(sb k o).n=0
 ·exact .inl hn
 ·obtain⟨b,off,hA,hat,hc⟩:=(hb.2 k o).2.resolve_left hn;exact .inr ⟨b,off,hA,hat,hc,u,_,za9 h,⟨k,o,hn,by simp[hA]⟩,fam_ro⟩
end
section
variable {P:Program} {τ:TT} {F:FT} {C:Ctx} {ρ ρ':Nat->Pl} {fr:AF} {mem:AM} {nx:Nat} {a:Act} {w:World} {Q:Exit->Act->World->Prop}
theorem zhY (hf:FrOk ρ fr nx a) {sz:Nat}:∀ (parts:List (Nat×Operand)) (p:Nat) (rs:List (List Value)) (base:Array Value),zgs fr sz p parts=some rs->(p+rs.length) * sz<=base.size->
  ∃ out,Instr.fill (fun i=>some (i * sz,sz)) base (parts.map fun q=>(q.1,a.eval q.2))=some out/\(∀ q,q<p * sz->out[q]?=base[q]?)/\(∀ r ∈ rs,r.length=sz/\∀ v ∈ r,ok1 ρ nx v)/\(out.size=base.size)/\∀ k j v,k<rs.length->(rs.getD k [])[j]?=some v->out[(p+k) * sz+j]?=some (zal ρ v)
 | [],p,rs,base,h,hsz=>by
  simp[zgs] at h
  subst h
  exact⟨base,rfl,fun _ _=>rfl,(fun r hr=>absurd hr (List.not_mem_nil)),rfl,fun k j v hk=>absurd hk (Nat.not_lt_zero _)⟩
 | (i,x)::r,p,rs,base,h,hsz=>by
  simp only[zgs] at h
  split at h
  ·rename_i v hi hx
   split at h
   ·rename_i hl hat
    have hl':(cellsOf v).length=sz:=by simpa using hl
    cases hr:zgs fr sz (p+1) r with
    | none=>rw[hr] at h;simp at h
    | some rs'=>
     rw[hr] at h
     simp at h
     subst h
     obtain rfl:i=p:=Nat.eq_of_beq_eq_true hi
     obtain⟨h1,h2⟩:=zb4 hf hx
     have hcs:(den ρ v).cells=((cellsOf v).map (zal ρ)).toArray:=cells_den' (zdd hat)
     simp only[List.length_cons] at hsz
     have hb:i * sz+sz<=base.size:=by
      have:=Nat.mul_le_mul_right sz (show i+1<=i+(rs'.length+1) by omega);rw[Nat.add_mul] at this;omega
     have hb2:zdZ base (i * sz) ((cellsOf v).map (zal ρ))=(den ρ v).cells.zipIdx.foldl (fun cs (c:Value×Nat)=>cs.setIfInBounds (i * sz+c.2) c.1) base:=by
      rw[hcs];have:=zfl (i * sz) ((cellsOf v).map (zal ρ)) 0 base;rw[Nat.add_zero] at this;rw[← this,← Array.foldl_toList,Array.toList_zipIdx]
     have hsize:(zdZ base (i * sz) ((cellsOf v).map (zal ρ))).size=base.size:=zey _ _ _;have hsz2:(i+1+rs'.length) * sz<=(zdZ base (i * sz) ((cellsOf v).map (zal ρ))).size:=by
      rw[hsize,show i+1+rs'.length=i+(rs'.length+1) by omega];exact hsz
     obtain⟨out,g1,g2,g3,g5,g4⟩:=zhY hf r (i+1) rs' (zdZ base (i * sz) ((cellsOf v).map (zal ρ))) hr hsz2;refine⟨out,?_,fun q hq=>?_,fun r' hr'=>?_,g5.trans hsize,fun k j u hk hu=>?_⟩
     ·rw[List.map_cons];simp only;rw[Instr.fill];simp only[h1];rw[if_neg (by rw[hcs];simp[hl'];omega),← hb2];exact g1
     ·rw[g2 q (by rw[Nat.add_mul];omega),zdx,if_neg o_]
     ·rcases List.mem_cons.1 hr' with rfl | hr'
      ·exact⟨hl',cells_ok' (zdd hat) h2⟩
      ·exact g3 r' hr'
     ·cases k with
      | zero=>
       simp only[List.getD_cons_zero] at hu;have hj:j<sz:=by rw[← hl'];exact (List.getElem?_eq_some_iff.1 hu).1
       rw[Nat.add_zero,g2 _ (by rw[Nat.add_mul];omega),zdx,if_pos (by rw[List.length_map];omega),Nat.add_sub_cancel_left,List.getElem?_map,hu];rfl
      | succ k=>
       simp only[List.getD_cons_succ,List.length_cons] at hu hk;have:=g4 k j u o_ hu;rw[show i+(k+1)=i+1+k by omega];exact this
   ·simp at h
  ·simp at h
theorem mem_at {l:List Value} {v:Value} (h:v ∈ l):∃ j:Nat,l[j]?=some v:=List.getElem?_of_mem h
theorem zfW {α:Type} {sz:Nat}:∀ {rs:List (List α)},(∀ r ∈ rs,r.length=sz)->rs.flatten.length=rs.length * sz
 | [],_=>by simp
 | r::rs,h=>by
  rw[List.flatten_cons,List.length_append,zfW (fun q hq=>h q (List.mem_cons_of_mem _ hq)),h r (List.mem_cons_self ..),List.length_cons,Nat.add_mul,Nat.one_mul,Nat.add_comm]
theorem zgz {α:Type} {sz:Nat}:∀ {rs:List (List α)},(∀ r ∈ rs,r.length=sz)->∀ {k j:Nat},k<rs.length->j<sz->rs.flatten[k * sz+j]?=(rs.getD k [])[j]?
 | [],_,k,j,hk,_=>absurd hk (Nat.not_lt_zero _)
 | r::rs,h,0,j,hk,hj=>by
  rw[List.flatten_cons,Nat.zero_mul,Nat.zero_add,List.getElem?_append_left (by rw[h r (List.mem_cons_self ..)];exact hj),List.getD_cons_zero]
 | r::rs,h,k+1,j,hk,hj=>by
  rw[List.flatten_cons,List.getElem?_append_right (by rw[h r (List.mem_cons_self ..),Nat.add_mul];omega),h r (List.mem_cons_self ..),List.getD_cons_succ]
  rw[show (k+1) * sz+j-sz=k * sz+j by rw[Nat.add_mul];omega]
  exact zgz (fun q hq=>h q (List.mem_cons_of_mem _ hq)) (by simpa using hk) hj
theorem znz (hτ:zcl P τ) {o:Oper} {t:TypeId} {len:Nat} {parts:Array (Nat×Operand)} (ho:o.op=.buildSlice t len parts) (hd:∀ i,o.dst=some i->i<C.nt) {K:AF->AM->Nat->Prop} (h:acty τ o.dst o.op fr mem nx K) (hs:Sat C ρ fr mem nx a w) :
  o.wp P a w (fun a' w'=>∃ fr' mem' nx' ρ',K fr' mem' nx'/\Sat C ρ' fr' mem' nx' a' w'/\ExtS ρ nx ρ' nx'/\∀ d,o.dst≠some d->lk fr' d=lk fr d) Q:=by
 obtain⟨dst,op,type,pos,after,guard⟩:=o;simp only at hd h ho;subst ho;simp only[acty,zcB] at h;cases hti:lk τ t with
 | none=>rw[hti] at h;exact h.elim
 | some ti=>
  rw[hti] at h;simp only at h;split at h
  ·rename_i eb te hsl heb hte
   split at h
   ·rename_i sz0 rs hs1 hrs hip
    split at h
    ·rename_i hlen hle
     have ht:=hτ t ti hti;obtain⟨hu,hby⟩:=ht.elt heb;obtain⟨ie,hie,hsz,z,hz,hzc⟩:=(hτ _ te hte).size;have hlen':rs.length=len:=Nat.eq_of_beq_eq_true hlen;have hle':len * te.size<=16777216:=Nat.le_of_ble_eq_true hle;have hpos:0<te.size:=by omega
     obtain⟨out,g1,-,g3,g5,g4⟩:=zhY (a:=a) (sz:=te.size) hs.fok.left parts.toList 0 rs ((Array.range (len * te.size)).map fun i=>(if len * te.size=0 then #[] else z.cells)[i % (if len * te.size=0 then #[] else z.cells).size]!) hrs (by simp[hlen']);have hcs:∀ v ∈ rs.flatten,ok1 ρ nx v:=fun v hv=>by
      obtain⟨r,hr,hvr⟩:=List.mem_flatten.1 hv;exact (g3 r hr).2 v hvr
     have hfl:rs.flatten.length=len * te.size:=by rw[zfW (fun r hr=>(g3 r hr).1),hlen']
     have hout:out=(rs.flatten.map (zal ρ)).toArray:=by
      apply Array.ext
      ·rw[g5];simp only[Array.size_map,Array.size_range,List.size_toArray,List.length_map,hfl]
      ·intro q hk1 hk2;have hq:q<len * te.size:=by rw[← hfl,← List.length_map (f:=zal ρ)];exact hk2
       have hk:q / te.size<rs.length:=by rw[hlen'];exact Nat.div_lt_of_lt_mul (by rw[Nat.mul_comm];exact hq)
       have hj:q % te.size<te.size:=Nat.mod_lt _ hpos;have hqe:q / te.size * te.size+q % te.size=q:=Nat.div_add_mod' q te.size;have e1:=zgz (fun r hr=>(g3 r hr).1) hk hj;rw[hqe] at e1;have hr:rs[q / te.size]?=some (rs.getD (q / te.size) []):=by rw[gd_,List.getElem?_eq_getElem hk];rfl
       have hrl:=(g3 _ (List.mem_of_getElem? hr)).1;obtain⟨v,hv⟩:∃ v,(rs.getD (q / te.size) [])[q % te.size]?=some v:=⟨_,List.getElem?_eq_getElem (by rw[hrl];exact hj)⟩;have h4:=g4 (q / te.size) (q % te.size) v hk hv;rw[Nat.zero_add,hqe,Array.getElem?_eq_getElem hk1] at h4;rw[hv] at e1;have h5:rs.flatten[q]'(by rw[hfl];exact hq)=v:=by
        rw[List.getElem?_eq_getElem (by rw[hfl];exact hq)] at e1;exact Option.some.inj e1
       simp only[List.getElem_toArray,List.getElem_map,h5];exact Option.some.inj h4
     have hs2:=hs.newBox ti.elt hcs;have e0:den (zac ρ nx ⟨some ⟨w.heap.size,0,none⟩,0,0,false,za4⟩) (.slice (some ⟨nx,0,none⟩) len len)=.slice (some ⟨w.heap.size,0,none⟩) len len:=by simp[den,zaW,zal,zaq,za2]
     have hs3:=hs2.put (d:=dst) (v:=.slice (some ⟨nx,0,none⟩) len len) hd ⟨Nat.lt_succ_self _,by show (zac ρ nx _ nx).res=false;rw[za2]⟩;rw[e0,← hout] at hs3;refine zbf (w':=w.alloc (.cells out ti.elt)) ?_ ⟨_,_,_,_,h,hs3,ExtS.set _ _ _,fun _ q=>zbl q⟩;have hz0:¬ (16777216<len * te.size):=by omega
     by_cases h0:len * te.size=0
     ·simp only[h0,if_true] at g1;rw[show (Array.range 0).map (fun i=>(#[]:Array Value)[i % (#[]:Array Value).size]!)=#[] by simp[Array.range_zero']] at g1;simp[execOp,Instr.buildSlice,run_underlying hu,sizeOf,typeInfo,hie,hsz,h0,g1,newRow,newObj,Sem.run,Array.range_zero']
     ·simp only[h0,if_false] at g1;simp[execOp,Instr.buildSlice,run_underlying hu,sizeOf,typeInfo,zeroValue,hie,hsz,hz,hz0,h0,g1,newRow,newObj,Sem.run]
    ·exact h.elim
   ·exact h.elim
  ·exact h.elim
end
section
variable {P:Program} {τ:TT} {F:FT} {C:Ctx} {ρ ρ':Nat->Pl} {fr:AF} {mem:AM} {nx:Nat} {a:Act} {w:World} {Q:Exit->Act->World->Prop}
theorem zhS (hτ:zcl P τ) {t:TypeId} {ti:TI} (hti:lk τ t=some ti) (hsl:ti.sl=true) {s:Nat} (hes:ti.esz=s+1) {b off n cp:Nat} {kk:IntKind} {k:Int} (h0:0<=k) (h1:k<n) :
  (Instr.indexAt t (.slice (some ⟨b,off,none⟩) n cp) (.int kk k)).run P w=.ok (.pointer (some ⟨b,off+k.toNat * ti.esz,none⟩)) w:=by
 obtain⟨e,hu,he⟩:=(hτ t ti hti).slice hsl;cases hi:P.info? e with
 | none=>simp[zeu,hi] at he;omega
 | some ii=>
  have hes:ii.size=ti.esz:=by rw[← he];simp[zeu,hi]
  simp[Instr.indexAt,asIntOf,run_underlying hu,h0,h1,sizeOf,typeInfo,hi,hes,Addr.add_mid]
theorem zmL (hτ:zcl P τ) {o:Oper} {t:TypeId} {x i:Operand} (ho:o.op=.indexAddr t x i) (hd:∀ i,o.dst=some i->i<C.nt) {K:AF->AM->Nat->Prop} (h:acty τ o.dst o.op fr mem nx K) (hs:Sat C ρ fr mem nx a w) :
  o.wp P a w (fun a' w'=>∃ fr' mem' nx' ρ',K fr' mem' nx'/\Sat C ρ' fr' mem' nx' a' w'/\ExtS ρ nx ρ' nx'/\∀ d,o.dst≠some d->lk fr' d=lk fr d) Q:=by
 obtain⟨dst,op,type,pos,after,guard⟩:=o;simp only at hd h ho;subst ho;simp only[acty,zcB] at h;split at h
 ·rename_i q oo sp n cap kk k ti hx hi hti
  obtain⟨h1,h2⟩:=zb4 hs.fok.left hx;have h3:a.eval i=.int kk k:=(zb4 hs.fok.left hi).1;split at h
  ·rename_i bt cs hl
   split at h
   ·rename_i kk2 ez hsl hesz
    split at h
    ·rename_i hlt
     have hlt':kk2<n:=by simpa using hlt
     obtain⟨g,hA,-,-,-⟩:=hs.blk _ _ (za9 hl);have hok:okV ρ nx (.pointer (some ⟨q,kk2 * (ez+1),none⟩)):=⟨hs.mlt _ _ (za9 hl),⟨g,0,hA⟩,fun j hj=>by cases hj⟩;have hs3:=hs.put (d:=dst) hd hok;have e1:den ρ (.slice (some ⟨q,0,none⟩) n cap)=.slice (some ⟨g,0,none⟩) n cap:=by simp[den,zaW,zal,zaq,hA]
     have e2:den ρ (.pointer (some ⟨q,kk2 * (ez+1),none⟩))=.pointer (some ⟨g,kk2 * (ez+1),none⟩):=by simp[den,zaW,zal,zbG (a:=⟨q,kk2 * (ez+1),none⟩) hA]
     rw[e2] at hs3;rw[e1] at h1;refine zbf (w':=w) ?_ ⟨_,_,_,_,h,hs3,ExtS.refl _ _,fun _ q=>zbl q⟩;simp only[execOp,h1,h3];rw[Sem.run_bind,zhS (k:=Int.ofNat kk2) hτ hti hsl hesz (Int.natCast_nonneg _) (Int.ofNat_lt.2 hlt'),hesz];simp
    ·exact h.elim
   ·exact h.elim
  ·exact h.elim
 ·exact h.elim
theorem zgo (hτ:zcl P τ) {t:TypeId} {ti:TI} (hti:lk τ t=some ti) (hsl:ti.sl=true) {s:Nat} (hes:ti.esz=s+1) {A:Option Addr} {len cap:Nat} {kl kh:IntKind} {l h:Int} (h0:0<=l) (h1:l<=h) (h2:h<=cap) {hi:Option Value} (hhi:hi=some (.int kh h)∨hi=none/\h=len) :
  (Instr.sliceAt t (.slice A len cap) (some (.int kl l)) hi none).run P w=.ok (.slice (if cap=l.toNat then A else A.map (·.add (l.toNat * ti.esz))) (h.toNat-l.toNat) (cap-l.toNat)) w:=by
 obtain⟨e,hu,he⟩:=(hτ t ti hti).slice hsl;cases hi':P.info? e with
 | none=>simp[zeu,hi'] at he;omega
 | some ii=>
  have hes:ii.size=ti.esz:=by rw[← he];simp[zeu,hi']
  have hb:(Instr.sliceBounds true len cap (some (.int kl l)) hi none).run P w=.ok (l.toNat,h.toNat,cap) w:=by
   rcases hhi with rfl | ⟨rfl,rfl⟩
   ·have:l<=max h 0:=by omega
    simp[Instr.sliceBounds,Instr.sliceBound,asIntOf,h0,show 0<=h by omega,h2,this]
   ·simp[Instr.sliceBounds,Instr.sliceBound,asIntOf,h0,h1]
  cases A with
  | none=>simp[Instr.sliceAt,run_underlying hu,Instr.slice,hb,sizeOf,typeInfo,hi']
  | some ad=>simp[Instr.sliceAt,run_underlying hu,Instr.slice,hb,sizeOf,typeInfo,hi',hes]
theorem zmC (sz l j q:Nat):l * sz+(j * sz+q)=(l+j) * sz+q:=by rw[Nat.add_mul];omega
theorem zlX (hτ:zcl P τ) {o:Oper} {t:TypeId} {x lo:Operand} {hi:Option Operand} (ho:o.op=.slice t x (some lo) hi none) (hd:∀ i,o.dst=some i->i<C.nt) {K:AF->AM->Nat->Prop} (h:acty τ o.dst o.op fr mem nx K) (hs:Sat C ρ fr mem nx a w) :
  o.wp P a w (fun a' w'=>∃ fr' mem' nx' ρ',K fr' mem' nx'/\Sat C ρ' fr' mem' nx' a' w'/\ExtS ρ nx ρ' nx'/\∀ d,o.dst≠some d->lk fr' d=lk fr d) Q:=by
 obtain⟨dst,op,type,pos,after,guard⟩:=o;simp only at hd h ho;subst ho;simp only[acty,zcB] at h;split at h
 ·rename_i r len cap kl l ti hx hlo hti
  split at h
  ·rename_i s kh hh hsl hesz hhi
   obtain⟨h1,h2⟩:=zb4 hs.fok.left hx;have h3:a.eval lo=.int kl l:=(zb4 hs.fok.left hlo).1;have h4:hi.map a.eval=some (.int kh hh)∨hi.map a.eval=none/\hh=len:=by
    cases hi with
    | none=>simp at hhi;exact .inr ⟨rfl,hhi.2.symm⟩
    | some y=>exact .inl (congrArg some (zb4 hs.fok.left (show ev fr y=some (.int kh hh) from hhi)).1)
   have e0:den ρ (.slice (some ⟨r,0,none⟩) len cap)=.slice (ρ r).A len cap:=rfl;split at h
   ·rename_i tr sz n el hl
    split at h
    ·rename_i hown hbe
     obtain⟨⟨q1,q2,q3⟩,n2,el2,⟨g1,g2,g3⟩,hK⟩:=h;have hsz:ti.esz=sz:=Nat.eq_of_beq_eq_true hbe;obtain⟨⟨p1,p2⟩,hpl,hrow⟩:=hs.blk _ _ (za9 hl);let p:Pl:=⟨if cap=l.toNat then (ρ r).A else (ρ r).A.map (·.add (l.toNat * ti.esz)),sz,n2,false,za4⟩
     have hs2:=hs.view (b:=.row tr sz n2 el2) (p:=p) ⟨by rw[za2];exact⟨rfl,rfl⟩,fun k hk=>by rw[g3 k hk];exact hpl _ o_,by
      by_cases h0:n2=0
      ·exact .inl h0
      ·rcases hrow with h0 | ⟨b,off,hA,hlt,hc⟩
       ·omega
       ·refine .inr ⟨b,off+l.toNat * sz,?_,⟨hlt.lt,(fun ho=>by rw[hown] at ho;cases ho),hlt.new⟩,fun k hk j v hv=>?_⟩
        ·rw[za2]
         show (if cap=l.toNat then _ else _)=_
         rw[if_neg o_,hA,hsz,Option.map_some,Addr.add_mid]
        ·rw[g3 k hk] at hv
         have:=hc (l.toNat+k) o_ j v hv
         rw[Nat.add_assoc,Nat.add_assoc,zmC,← Nat.add_assoc]
         exact this⟩ (row_ro hown) rfl (fun g hg=>by
      obtain⟨hn,hg⟩:=hg
      unfold bno at hg
      rw[za2] at hg
      rcases hrow with h0 | ⟨b,off,hA,hlt,hc⟩
      ·omega
      ·have hg':((if cap=l.toNat then (ρ r).A else (ρ r).A.map (·.add (l.toNat * ti.esz))).map (·.block))=some g:=hg
       rw[if_neg o_,hA,Option.map_some,Addr.add_mid] at hg'
       exact⟨r,_,za9 hl,⟨o_,by simpa [bno,hA] using hg'⟩,row_ro hown⟩)
     have hok:okV (zac ρ nx p) (nx+1) (.slice (some ⟨nx,0,none⟩) (hh.toNat-l.toNat) (cap-l.toNat)):=⟨Nat.lt_succ_self _,by rw[za2]⟩;have hs3:=hs2.put (d:=dst) hd hok;have e1:den (zac ρ nx p) (.slice (some ⟨nx,0,none⟩) (hh.toNat-l.toNat) (cap-l.toNat))=.slice p.A (hh.toNat-l.toNat) (cap-l.toNat):=by
      show Value.slice (zac ρ nx p nx).A _ _=_;rw[za2]
     rw[e1] at hs3;rw[e0] at h1;refine zbf (w':=w) ?_ ⟨_,_,_,_,hK,hs3,ExtS.set _ _ _,fun _ q=>zbl q⟩;simp only[execOp,h1,Option.map_some,h3,Option.map_none];rw[Sem.run_bind,zgo hτ hti hsl hesz q1 q2 q3 h4];rfl
    ·exact h.elim
   ·exact h.elim
  ·exact h.elim
 ·rename_i kl ti hx hlo hti
  split at h
  ·rename_i s hsl hesz
   obtain⟨h1,-⟩:=zb4 hs.fok.left hx;have h3:a.eval lo=.int kl 0:=(zb4 hs.fok.left hlo).1;have h1':a.eval x=.slice none 0 0:=h1;have hok:okV ρ nx (.slice none 0 0):=trivial;have hs3:=hs.put (d:=dst) hd hok;refine zbf (w':=w) ?_ ⟨_,_,_,_,h,hs3,ExtS.refl _ _,fun _ q=>zbl q⟩;simp only[execOp,h1',Option.map_none,Option.map_some,h3];rw[Sem.run_bind,zgo (kh:=.i64) hτ hti hsl hesz il_ il_ il_ (.inr ⟨rfl,rfl⟩)];rfl
  ·exact h.elim
 ·exact h.elim
end
section
variable {P:Program} {τ:TT} {F:FT} {C:Ctx} {ρ ρ':Nat->Pl} {fr:AF} {mem:AM} {nx:Nat} {a:Act} {w:World} {Q:Exit->Act->World->Prop}
end
section
variable {P:Program} {τ:TT} {F:FT} {C:Ctx} {ρ ρ':Nat->Pl} {fr:AF} {mem:AM} {nx:Nat} {a:Act} {w:World} {Q:Exit->Act->World->Prop}
end
section
variable {P:Program} {τ:TT} {F:FT} {C:Ctx} {ρ ρ':Nat->Pl} {fr:AF} {mem:AM} {nx:Nat} {a:Act} {w:World} {Q:Exit->Act->World->Prop}
end
/-! append where the slices are kept as boxes: their elements may hold whatever. -/
section
variable {P:Program} {τ:TT} {F:FT} {C:Ctx} {ρ ρ':Nat->Pl} {fr:AF} {mem:AM} {nx:Nat} {a:Act} {w:World} {Q:Exit->Act->World->Prop}
theorem Sat.boxSrc (hs:Sat C ρ fr mem nx a w) {q sz m c:Nat} {t:TypeId} {cs l2:List Value} (hl:lk mem q=some (.box t cs)) (htk:zdY 0 (m * sz) cs=some l2) (hat:l2.all zcW=true) {tx e':TypeId} (hk:P.underlying tx=some (.slice e')) :
  Src P sz tx (den ρ (.slice (some ⟨q,0,none⟩) m c)) m (l2.map (zal ρ)) w:=by
 obtain⟨g,hA,hblk,-,-⟩:=hs.blk q _ (za9 hl);have e0:den ρ (.slice (some ⟨q,0,none⟩) m c)=.slice (ρ q).A m c:=rfl;obtain⟨h1,h2⟩:=zcd _ _ _ _ htk;rw[e0,hA];refine Src.ofSlice w hk _ m c _ (by rw[List.length_map,h1]) (fun j u hu=>?_) (fun u hu=>?_)
 ·rw[List.getElem?_map,Option.map_eq_some_iff] at hu;obtain⟨v,h3,rfl⟩:=hu;have h4:=h2 j v h3;rw[Nat.zero_add] at h4;rw[Addr.add_mid,Nat.zero_add,hblk.cell];simp[h4]
 ·obtain⟨v,hv,rfl⟩:=List.mem_map.1 hu;have:=List.all_eq_true.1 hat v hv;refine zfq ?_;cases v with
  | slice A _ _=>cases A<;>rfl
  | pointer A=>cases A<;>rfl
  | map A=>cases A<;>rfl
  | _=>exact this
theorem zlf {t tx ty e:TypeId} {te:TI} {b1:Nat} {s x:Value} {K:Value->AM->Nat->Prop} (ht:P.underlying t=some (.slice e)) (hte:TIok P e te) (hby:∀ i,P.info? e=some i->i.bytes=b1+1) {e':TypeId} (htx:P.underlying tx=some (.slice e')) (hz0:te.zero.length=te.size) (hpos:0<te.size)
  (h:appb e te (b1+1) s x mem nx K) (hs:Sat C ρ fr mem nx a w):∃ v w' mem' nx' ρ',(Builtin.append_ #[t,tx] ty #[den ρ s,den ρ x]).run P w=.ok (den ρ' v) w'/\K v mem' nx'/\Sat C ρ' fr mem' nx' a w'/\okV ρ' nx' v/\ExtS ρ nx ρ' nx':=by
 obtain⟨ie,hie,hsz,z,hz,hzc⟩:=hte.size;have hb:=hby ie hie;have hzs:z.cells.size=ie.size:=by rw[← Array.length_toList,hzc,hz0,hsz]
 unfold appb at h;split at h
 ·rename_i q qo qs m c
  split at h
  ·rename_i tq cs2 hlq
   split at h
   ·rename_i l2 htk2
    obtain⟨hat2,h⟩:=h;have hsrc:=hs.boxSrc (c:=c) hlq htk2 hat2 htx;rw[← hsz] at hsrc;obtain⟨hl2,hg2⟩:=zcd _ _ _ _ htk2;obtain⟨gq,hAq,hblkq,-,hokq⟩:=hs.blk q _ (za9 hlq);have hok2:∀ v ∈ l2,ok1 ρ nx v:=fun v hv=>by
     obtain⟨j,hj⟩:=mem_at hv;exact hokq v (List.mem_of_getElem? (hg2 j v hj))
    -- a new block
    have grow:∀ (len cap:Nat) (base:Option Addr) (l1:List Value) (mem2:AM),l1.length=len * te.size->(∀ v ∈ l1,ok1 ρ nx v)->(Builtin.firstCells ie.size len (.slice base len cap)).run P w.drew=.ok (l1.map (zal ρ)).toArray w.drew->cap<len+m->(len+m) * (b1+1)<=140737488355328->
      (mem2=mem∨∃ r' bl,mem2=(r',noFam)::mem/\lk mem r'=some bl)->
      (∀ cap' tl,(len+m<=cap'/\tl.length=(cap' - (len+m)) * te.size/\∀ v ∈ tl,zam v)->K (.slice (some ⟨nx,0,none⟩) (len+m) cap') ((nx,.box e (l1++l2++tl))::mem2) (nx+1))->
      ∃ v w' mem' nx' ρ',(Builtin.append_ #[t,tx] ty #[.slice base len cap,den ρ (.slice (some ⟨q,0,none⟩) m c)]).run P w=.ok (den ρ' v) w'/\K v mem' nx'/\Sat C ρ' fr mem' nx' a w'/\okV ρ' nx' v/\ExtS ρ nx ρ' nx':=by
     intro len cap base l1 mem2 hl1 hok1 hold hlt hbound hr hK
     have hrun:=run_append_grow_src (P:=P) w t tx ty e ie z ht hie hz base len cap _ hold (den ρ (.slice (some ⟨q,0,none⟩) m c)) m _ hsrc hlt (by
      have:len+m<=(len+m) * (b1+1):=Nat.le_mul_of_pos_right _ o_
      omega) (growslice_fits hlt (by rw[hb];exact hbound))
     generalize hc':grownCap w (len+m) cap e=c' at hrun;have hcl:len+m<=c':=by rw[← hc'];exact grownCap_ge w _ _ _
     have hzp:∀ v ∈ (Builtin.zeroCells z.cells (c' - (len+m))).toList,zam v:=by
      intro v hv;have:v ∈ z.cells.toList:=by
       simp only[Builtin.zeroCells,Array.toList_map,Array.toList_range,List.mem_map,List.mem_range] at hv;obtain⟨j,hj,rfl⟩:=hv;have hlt:j % z.cells.size<z.cells.size:=Nat.mod_lt _ o_;rw[getElem!_pos z.cells _ hlt];exact Array.getElem_mem_toList hlt
      rw[hzc] at this;exact hte.zero v this
     have hKK:=hK c' (Builtin.zeroCells z.cells (c' - (len+m))).toList ⟨hcl,by simp[Builtin.zeroCells,hzs,hsz],hzp⟩;have hs2:Sat C ρ fr mem2 nx a w:=by
      rcases hr with rfl | ⟨r',bl,rfl,hbl⟩
      ·exact hs
      ·exact hs.forget hbl
     have hB:=Blk.new w.drew e ((l1.map (zal ρ)++l2.map (zal ρ)).toArray++Builtin.zeroCells z.cells (c' - (len+m)));have hρ:∀ v,ok1 ρ nx v->zal (zac ρ nx ⟨some ⟨w.heap.size,0,none⟩,0,0,false,za4⟩) v=zal ρ v:=fun v hv=>zbK (fun i hi _=>za8 ρ _ hi) hv
     have hs3:=hs2.drew.add (b:=.box e (l1++l2++(Builtin.zeroCells z.cells (c' - (len+m))).toList)) (p:=⟨some ⟨w.heap.size,0,none⟩,0,0,false,za4⟩) ((Below.refl _ _).alloc nl_ _) ⟨w.heap.size,by rw[za2],by
       have:((l1++l2++(Builtin.zeroCells z.cells (c' - (len+m))).toList).map (zal (zac ρ nx ⟨some ⟨w.heap.size,0,none⟩,0,0,false,za4⟩))).toArray=(l1.map (zal ρ)++l2.map (zal ρ)).toArray++Builtin.zeroCells z.cells (c' - (len+m)):=by
        apply Array.toList_inj.1
        simp only[List.map_append,Array.toList_append,List.toList_toArray]
        rw[List.map_congr_left fun v hv=>hρ v (hok1 v hv),List.map_congr_left fun v hv=>hρ v (hok2 v hv),List.map_congr_left fun v hv=>zaM (hzp v hv)]
        simp
       rw[this]
       simpa using hB,.inl (by simpa using hs.rest.size),fun v hv=>?_⟩ (fun g hg=>by simp at hg;simp[← hg]) rfl
     ·refine⟨_,_,_,_,_,?_,hKK,hs3,⟨Nat.lt_succ_self _,by rw[za2]⟩,ExtS.set ρ nx _⟩;rw[hrun];have e1:den (zac ρ nx ⟨some ⟨w.heap.size,0,none⟩,0,0,false,za4⟩) (.slice (some ⟨nx,0,none⟩) (len+m) c')=.slice (some ⟨w.heap.size,0,none⟩) (len+m) c':=by
       show Value.slice (zac ρ nx _ nx).A _ _=_;rw[za2]
      rw[e1]
     ·simp only[List.mem_append] at hv;rcases hv with (hv | hv) | hv
      ·exact zcs (fun i hi _=>za8 ρ _ hi) (Nat.le_succ _) (hok1 v hv)
      ·exact zcs (fun i hi _=>za8 ρ _ hi) (Nat.le_succ _) (hok2 v hv)
      ·exact zbO (hzp v hv)
    split at h
    ·split at h
     ·obtain⟨⟨h1,h2⟩,h3⟩:=h;refine grow 0 0 none [] mem (by simp) (fun v hv=>by cases hv) (run_firstCells_none w.drew ie.size 0 0 0) o_ (by rw[Nat.zero_add];exact h2) (.inl rfl) (fun cap' tl hc=>?_);rw[Nat.zero_add] at hc ⊢;exact h3 cap' tl hc
     ·exact h.elim
    ·rename_i r ro rs len cap
     split at h
     ·rename_i bt cs hlr
      split at h
      ·rename_i l1 hbt hrq htk1
       obtain rfl:bt=e:=Nat.eq_of_beq_eq_true hbt;obtain⟨⟨hm0,hcap,hbound,hdp⟩,hK⟩:=h;obtain⟨hl1,hg1⟩:=zcd _ _ _ _ htk1;obtain⟨g,hA,hblk,hbase,hok⟩:=hs.blk r _ (za9 hlr);have hok1:∀ v ∈ l1,ok1 ρ nx v:=fun v hv=>by
        obtain⟨j,hj⟩:=mem_at hv;exact hok v (List.mem_of_getElem? (hg1 j v hj))
       have e0:den ρ (.slice (some ⟨r,0,none⟩) len cap)=.slice (some ⟨g,0,none⟩) len cap:=by
        show Value.slice (ρ r).A len cap=_;rw[hA]
       rw[e0];by_cases hfit:len+m<=cap
       ·have hin:len * te.size+m * te.size<=cs.length:=by rw[← hcap,← Nat.add_mul];exact Nat.mul_le_mul_right _ hfit
        have hcsz:((cs.map (zal ρ)).toArray).size=cs.length:=by simp
        have hth:=hblk.there (len * te.size) (m * te.size) (by rw[hcsz];exact hin);have hblk2:=hblk.setCells (l2.map (zal ρ)) (len * te.size);have hrlt:=(hs.mlt r _ (za9 hlr)).1;have hwr:∀ b,b≠g->(w.setCells g (len * te.size) (l2.map (zal ρ))).heap[b]?=w.heap[b]?:=fun b hb=>zce _ _ b hb
        have hs2:=hs.write (b':=noFam) (w':=w.setCells g (len * te.size) (l2.map (zal ρ))) hlr (zbZ _ _) (fun b hb=>hwr b fun q=>hb (by simp[bwr,bno,hA,q])) zjN (fun g hg=>absurd hg zeF) (fun g hg=>absurd (zbm hg) zeF) (zcp C hbase _ _ hs.rest);have hKK:=hK cap (cs.drop ((len+m) * te.size)) ⟨hfit,by rw[List.length_drop,← hcap,← Nat.sub_mul],fun v hv=>hdp v (by rw[Nat.add_mul,← List.drop_drop] at hv;exact List.mem_of_mem_drop hv)⟩;have hρ:∀ v,ok1 ρ nx v->zal (zac ρ nx ⟨some ⟨g,0,none⟩,0,0,false,za4⟩) v=zal ρ v:=fun v hv=>zbK (fun i hi _=>za8 ρ _ hi) hv
        have hokn:∀ v ∈ l1++l2++cs.drop ((len+m) * te.size),ok1 ρ nx v:=fun v hv=>by
         simp only[List.mem_append] at hv;rcases hv with (hv | hv) | hv
         ·exact hok1 v hv
         ·exact hok2 v hv
         ·exact hok v (List.mem_of_mem_drop hv)
        have hs3:=hs2.addF (b:=.box bt (l1++l2++cs.drop ((len+m) * te.size))) (p:=⟨some ⟨g,0,none⟩,0,0,false,za4⟩) ⟨g,by rw[za2],by
          have:((l1++l2++cs.drop ((len+m) * te.size)).map (zal (zac ρ nx ⟨some ⟨g,0,none⟩,0,0,false,za4⟩))).toArray=zdZ (cs.map (zal ρ)).toArray (len * te.size) (l2.map (zal ρ)):=by
           rw[List.map_congr_left fun v hv=>hρ v (hokn v hv)]
           apply Array.ext_getElem?
           intro j
           rw[zdx]
           simp only[List.getElem?_toArray,List.map_append,List.length_map,List.size_toArray,hl2,List.getElem?_map]
           by_cases h1:j<len * te.size
           ·rw[List.getElem?_append_left (by simp[hl1,hl2];omega),List.getElem?_append_left (by simpa [hl1] using h1),if_neg o_]
            have h3:j<l1.length:=by omega
            rw[List.getElem?_map,List.getElem?_eq_getElem h3]
            have:=hg1 j _ (List.getElem?_eq_getElem h3)
            rw[Nat.zero_add] at this
            rw[this]
           ·by_cases h2:j<len * te.size+m * te.size
            ·rw[List.getElem?_append_left (by simp[hl1,hl2];omega),List.getElem?_append_right (by simp[hl1];omega),if_pos o_,List.length_map,hl1,List.getElem?_map]
            ·rw[List.getElem?_append_right (by simp[hl1,hl2];omega),if_neg o_,List.length_append,List.length_map,List.length_map,hl1,hl2,List.getElem?_map,List.getElem?_drop,Nat.add_mul]
             congr 2
             omega
          rw[this]
          exact hblk2,hbase,fun v hv=>zcs (fun i hi _=>za8 ρ _ hi) (Nat.le_succ _) (hokn v hv)⟩ (fun g' hg' j b' hj hb'=>by
         have hg2:g=g':=by
          simp only[brd,bno,za2,Option.map_some,Option.some.injEq] at hg'
          exact hg'
         subst hg2
         rw[List.cons_append] at hj
         rcases za5 hj with⟨rfl,rfl⟩ | ⟨hne,hj⟩
         ·exact zeF hb'
         ·exact (hs.sep r j _ _ hne (za9 hlr) hj).wr (hs.sep j r _ _ (Ne.symm hne) hj (za9 hlr)) (by simp[bwr,bno,hA]) hb') rfl
        refine⟨_,_,_,_,_,?_,hKK,hs3,⟨Nat.lt_succ_self _,by rw[za2]⟩,ExtS.set ρ nx _⟩;have e4:den (zac ρ nx ⟨some ⟨g,0,none⟩,0,0,false,za4⟩) (.slice (some ⟨nx,0,none⟩) (len+m) cap)=.slice (some ⟨g,0,none⟩) (len+m) cap:=by
         show Value.slice (zac ρ nx _ nx).A _ _=_;rw[za2]
        rw[e4,run_append_room_src w t tx ty bt ie ht hie g 0 len cap (den ρ (.slice (some ⟨q,0,none⟩) m c)) m _ hsrc hfit (fun j hj=>by rw[hsz,Nat.zero_add];exact (hth j (by rw[List.length_map,hl2] at hj;omega)).1) (fun j hj=>by rw[hsz,Nat.zero_add];exact (hth j (by rw[List.length_map,hl2] at hj;omega)).2),Nat.zero_add,hsz]
       ·have hold:(Builtin.firstCells ie.size len (.slice (some ⟨g,0,none⟩) len cap)).run P w.drew=.ok (l1.map (zal ρ)).toArray w.drew:=by
         refine run_firstCells_some w.drew _ len _ len cap _ (by rw[hsz,List.length_map,hl1]) (fun j x hx=>?_);rw[List.getElem?_map,Option.map_eq_some_iff] at hx;obtain⟨v,h3,rfl⟩:=hx;have h4:=hg1 j v h3;rw[Nat.zero_add] at h4;have h5:w.cell? ⟨g,j,none⟩=some (zal ρ v):=by rw[hblk.cell];simp[h4]
         rw[Addr.add_mid,Nat.zero_add];simpa using h5
        exact grow len cap _ l1 ((r,noFam)::mem) hl1 hok1 hold o_ hbound (.inr ⟨r,_,rfl,hlr⟩) hK
      ·exact h.elim
     ·exact h.elim
    ·exact h.elim
   ·exact h.elim
  ·exact h.elim
 ·exact h.elim
end
/-! maps -/
section
variable {P:Program} {τ:TT} {F:FT} {C:Ctx} {ρ ρ':Nat->Pl} {fr:AF} {mem:AM} {nx:Nat} {a:Act} {w:World} {Q:Exit->Act->World->Prop}
def zef (w:World) (g:Nat) (o:Obj):World:={ w with heap:=w.heap.setIfInBounds g o }
theorem zmT {g:Nat} {es:Array MapEntry} {cl:Nat} (h:w.heap[g]?=some (.map es cl)):(getObj g).run P w=.ok (.map es cl) w:=by simp[getObj,Sem.run,h]
theorem setMap {g:Nat} {es:Array MapEntry} {cl:Nat} (o:Obj) (h:w.heap[g]?=some (.map es cl)):(setObj g o).run P w=.ok () (zef w g o):=by simp[setObj,Sem.run,h,zef]
theorem ziz {g b:Nat} {o:Obj} (h:b≠g):(zef w g o).heap[b]?=w.heap[b]?:=by simp only[zef];rw[Array.getElem?_setIfInBounds_ne (Ne.symm h)]
theorem zf4 {g:Nat} {o:Obj}:(zef w g o).heap.size=w.heap.size:=by simp[zef]
theorem zlh (hτ:zcl P τ) {o:Oper} (hd:∀ i,o.dst=some i->i<C.nt) {K:AF->AM->Nat->Prop} (h:acty τ o.dst o.op fr mem nx K) (hs:Sat C ρ fr mem nx a w) :
  o.wp P a w (fun a' w'=>∃ fr' mem' nx' ρ',K fr' mem' nx'/\Sat C ρ' fr' mem' nx' a' w'/\ExtS ρ nx ρ' nx'/\∀ d,o.dst≠some d->lk fr' d=lk fr d) Q:=by
 cases hop:o.op with
 | buildSlice t len parts=>exact znz hτ hop hd h hs
 | indexAddr t x i=>exact zmL hτ hop hd h hs
 | slice t x lo hi mx=>
  cases lo with
  | none=>rw[hop] at h;exact h.elim
  | some l=>cases mx with
   | some m=>rw[hop] at h;exact h.elim
   | none=>exact zlX hτ hop hd h hs
 | call c=>
  obtain⟨dst,op,type,pos,after,guard⟩:=o;simp only at hd h hop;subst hop;obtain⟨callee,args,argTypes⟩:=c;cases callee with
  | value f=>exact h.elim
  | invoke r m=>exact h.elim
  | builtin b=>
   cases b<;>first | exact h.elim | skip
   simp only[acty,zcB] at h;split at h
   ·rename_i s x t tx hev hty
    have hvs:evs fr args.toList=some [s,x]:=hev;obtain⟨h1,h2⟩:=ze7 hs.fok.left hvs;have h1':args.map a.eval=#[den ρ s,den ρ x]:=by apply Array.toList_inj.1;simp[h1]
    have hat:argTypes=#[t,tx]:=by apply Array.toList_inj.1;simp[hty]
    split at h
    ·rename_i ti tj hti htj
     split at h
     ·rename_i eb te hsl hsl2 heb hte
      split at h
      ·rename_i sz hsz hzl
       obtain⟨hu,hby⟩:=(hτ t ti hti).elt heb;obtain⟨e',hu2,-⟩:=(hτ tx tj htj).slice hsl2;split at h
       ·exact h.elim
       ·obtain⟨v,w',mem',nx',ρ',hrun,hK,hs',hok',hx'⟩:=zlf (ty:=type) hu (hτ _ te hte) hby hu2 (Nat.eq_of_beq_eq_true hzl) o_ h hs;refine zbf (v:=den ρ' v) (w':=w') ?_ ⟨_,_,_,_,hK,hs'.put (d:=dst) hd hok',hx',fun _ q=>zbl q⟩;simp[execOp,resolve,invoke,builtin,h1',hat,hrun]
      ·exact h.elim
     ·exact h.elim
    ·exact h.elim
   ·exact h.elim
 | _=>rw[hop] at h;exact h.elim
theorem zeC {I:List Nat} (hτ:zcl P τ) (hF:zaY P F I) {o:Oper} (hI:C.fm=[]∨zgT I o.op=true) (hd:∀ i,o.dst=some i->i<C.nt) {K:AF->AM->Nat->Prop} (h:opx τ F o fr mem nx K) (hs:Sat C ρ fr mem nx a w) :
  o.wp P a w (fun a' w'=>∃ fr' mem' nx' ρ',K fr' mem' nx'/\Sat C ρ' fr' mem' nx' a' w'/\ExtS ρ nx ρ' nx'/\∀ d,o.dst≠some d->lk fr' d=lk fr d) Q:=by
 have h':(match vx τ fr mem o.op with | some v=>zel o.dst v fr fun fr'=>K fr' mem nx | none=>(match isY τ fr mem o.op with | true=>acty τ o.dst o.op fr mem nx K | false=>actx τ F o.dst o.op fr mem nx K)):=by cases o;exact h
 cases hv:vx τ fr mem o.op with
 | none=>
  rw[hv] at h';simp only at h';cases hy:isY τ fr mem o.op with
  | true=>rw[hy] at h';exact zlh hτ hd h' hs
  | false=>rw[hy] at h';exact zli hτ hF hI hd h' hs
 | some v=>
  rw[hv] at h';simp only[zcB] at h';obtain⟨h1,h2⟩:=zlH (P:=P) hτ hs.fok.left (fun i b hi=>hs.blk i b (za9 hi)) hv;exact zbf h1 ⟨_,_,_,_,h',hs.put hd h2,ExtS.refl _ _,fun _ q=>zbl q⟩
end
end Go.Proofs.YtjnndjnpcelafaaGreat
