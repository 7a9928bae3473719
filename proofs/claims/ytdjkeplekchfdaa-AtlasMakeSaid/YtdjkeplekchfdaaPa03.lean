import Derived.Test.YtdjkeplekchfdaaPa02
import Derived.Deep.AppendSrc
import Derived.Laws.MakeOwn
import Derived.StillTail
namespace Go.Proofs.Ytdjkeplekchfdaa
open Go.RowKit
set_option linter.unusedSimpArgs false
set_option linter.unusedVariables false
section
variable {P:Program} {τ:TT} {F:FT} {C:Ctx} {ρ:Nat→Pl} {fr:AF} {mem:AM} {nx:Nat} {a:Act} {w:World} {Q:Exit→Act→World→Prop}
theorem Sat.newBox (h:Sat C ρ fr mem nx a w) (t:TypeId) {cs:List Value} (hcs:∀ v ∈ cs,ok1 ρ nx v) :
  Sat C (setPl ρ nx ⟨some ⟨w.heap.size,0,none⟩,0,0,false⟩) fr ((nx,.box t cs)::mem) (nx+1) a (w.alloc (.cells (cs.map (den1 ρ)).toArray t)):=by
 have hr:∀ i,i<nx→(ρ i).res=false→setPl ρ nx ⟨some ⟨w.heap.size,0,none⟩,0,0,false⟩ i=ρ i:=fun i hi _=>setPl_lt ρ _ hi
 refine h.add ((Below.refl _ _).alloc (Nat.le_refl _) _) ⟨w.heap.size,by rw[setPl_same],?_,.inl h.rest.size,fun v hv=>ok1_mono hr (Nat.le_succ _) (hcs v hv)⟩ (fun g hg=>by simp at hg;omega) rfl
 have:cs.map (den1 (setPl ρ nx ⟨some ⟨w.heap.size,0,none⟩,0,0,false⟩))=cs.map (den1 ρ):=List.map_congr_left fun v hv=>den1_congr hr (hcs v hv)
 rw[this]
 exact Blk.new _ _ _
theorem ptr_new (g:Nat):den (setPl ρ nx ⟨some ⟨g,0,none⟩,0,0,false⟩) (.pointer (some ⟨nx,0,none⟩))=.pointer (some ⟨g,0,none⟩)∧okV (setPl ρ nx ⟨some ⟨g,0,none⟩,0,0,false⟩) (nx+1) (.pointer (some ⟨nx,0,none⟩)):=by
 refine⟨?_,?_⟩
 ·simp[den,den2,den1,dA_whole,setPl_same]
 ·exact⟨⟨Nat.lt_succ_self _,by simp[setPl_same]⟩,⟨g,0,by simp[setPl_same]⟩,fun k hk=>by cases hk⟩
theorem Sat.newRow (h:Sat C ρ fr mem nx a w) (t ty:TypeId) {sz n:Nat} {el:Nat→List Value} {cells:Array Value} (hel:∀ k,k<n→(el k).length=sz∧∀ v ∈ el k,plain1 v) (hc:∀ k,k<n→∀ j v,(el k)[j]?=some v→cells[k * sz+j]?=some v) :
  Sat C (setPl ρ nx ⟨some ⟨w.heap.size,0,none⟩,sz,n,false⟩) fr ((nx,.row t sz n el)::mem) (nx+1) a (w.alloc (.cells cells ty)):=by
 have hB:=Blk.new w ty cells
 refine h.add ((Below.refl _ _).alloc (Nat.le_refl _) _) ⟨by rw[setPl_same];exact⟨rfl,rfl⟩,hel,.inr ⟨w.heap.size,0,by rw[setPl_same],⟨hB.lt,fun _=>⟨rfl,h.rest.size,ty,cells,hB⟩,fun _=>h.rest.size⟩,fun k hk j v hv=>?_⟩⟩ (fun g hg=>by simp at hg;omega) rfl
 rw[Nat.zero_add,hB.cell]
 exact hc k hk j v hv
theorem slc_new (g sz n m c:Nat):den (setPl ρ nx ⟨some ⟨g,0,none⟩,sz,n,false⟩) (.slice (some ⟨nx,0,none⟩) m c)=.slice (some ⟨g,0,none⟩) m c∧okV (setPl ρ nx ⟨some ⟨g,0,none⟩,sz,n,false⟩) (nx+1) (.slice (some ⟨nx,0,none⟩) m c):=by
 refine⟨?_,?_⟩
 ·simp[den,den2,den1,dA_whole,setPl_same]
 ·exact⟨Nat.lt_succ_self _,by simp[setPl_same]⟩
theorem TIok.elt {t:TypeId} {ti:TI} (h:TIok P t ti) {n:Nat} (he:ti.eb=n+1):P.underlying t=some (.slice ti.elt)∧∀ i,P.info? ti.elt=some i→i.bytes=n+1:=by
 have:=h.elem
 unfold elemB at this
 rw[he] at this
 simp only[Bool.and_eq_true] at this
 obtain⟨h1,h2⟩:=this
 refine⟨?_,fun i hi=>?_⟩
 ·split at h1
  ·rename_i e hu
   rw[hu,Nat.eq_of_beq_eq_true h1]
  ·cases h1
 ·rw[hi] at h2
  exact Nat.eq_of_beq_eq_true h2
theorem made_at {z:Array Value} {n sz k j:Nat} (hz:z.size=sz) (hk:k<n) (hj:j<sz):(madeCells z (n * sz))[k * sz+j]?=z[j]?:=by
 have hlt:k * sz+j<n * sz:=by
  have:=Nat.mul_le_mul_right sz (show k+1≤n by omega)
  rw[Nat.add_mul] at this
  omega
 have hm:(k * sz+j) % sz=j:=by rw[Nat.add_comm,Nat.add_mul_mod_self_right,Nat.mod_eq_of_lt hj]
 simp only[madeCells,Array.getElem?_map,Array.getElem?_range,hlt,if_true,Option.map_some,hz,hm]
 rw[Array.getElem?_eq_getElem (by omega),getElem!_pos z j (by omega)]
theorem fill_rows (hf:FrOk ρ fr nx a) {sz:Nat}:∀ (parts:List (Nat×Operand)) (p:Nat) (rs:List (List Value)) (base:Array Value),rowsx fr sz p parts=some rs→(p+rs.length) * sz≤base.size→
  ∃ out,Instr.fill (fun i=>some (i * sz,sz)) base (parts.map fun q=>(q.1,a.eval q.2))=some out∧(∀ q,q<p * sz→out[q]?=base[q]?)∧(∀ r ∈ rs,r.length=sz∧∀ v ∈ r,plain1 v)∧∀ k j v,k<rs.length→(rs.getD k [])[j]?=some v→out[(p+k) * sz+j]?=some v
 | [],p,rs,base,h,hsz=>by
  simp[rowsx] at h
  subst h
  exact⟨base,rfl,fun _ _=>rfl,(fun r hr=>absurd hr (List.not_mem_nil)),fun k j v hk=>absurd hk (Nat.not_lt_zero _)⟩
 | (i,x)::r,p,rs,base,h,hsz=>by
  simp only[rowsx] at h
  split at h
  ·rename_i v hi hx
   split at h
   ·rename_i hl hat hpl
    have hl':(cellsOf v).length=sz:=by simpa using hl
    cases hr:rowsx fr sz (p+1) r with
    | none=>rw[hr] at h;simp at h
    | some rs'=>
     rw[hr] at h
     simp at h
     subst h
     obtain rfl:i=p:=Nat.eq_of_beq_eq_true hi
     obtain⟨h1,h2⟩:=ev_ok hf hx
     have hplain:∀ u ∈ cellsOf v,plain1 u:=fun u hu=>plB_ok (List.all_eq_true.1 hpl u hu)
     have hcs:(den ρ v).cells=(cellsOf v).toArray:=by
      rw[cells_den' (notTuple hat)]
      congr 1
      conv=>rhs;rw[← List.map_id (cellsOf v)]
      exact List.map_congr_left fun u hu=>den1_plain (hplain u hu)
     simp only[List.length_cons] at hsz
     have hb:i * sz+sz≤base.size:=by
      have:=Nat.mul_le_mul_right sz (show i+1≤i+(rs'.length+1) by omega)
      rw[Nat.add_mul] at this
      omega
     have hb2:putL base (i * sz) (cellsOf v)=(den ρ v).cells.zipIdx.foldl (fun cs (c:Value×Nat)=>cs.setIfInBounds (i * sz+c.2) c.1) base:=by
      rw[hcs]
      have:=zip_putL (i * sz) (cellsOf v) 0 base
      rw[Nat.add_zero] at this
      rw[← this,← Array.foldl_toList,Array.toList_zipIdx]
     have hsize:(putL base (i * sz) (cellsOf v)).size=base.size:=putL_size _ _ _
     have hsz2:(i+1+rs'.length) * sz≤(putL base (i * sz) (cellsOf v)).size:=by
      rw[hsize,show i+1+rs'.length=i+(rs'.length+1) by omega]
      exact hsz
     obtain⟨out,g1,g2,g3,g4⟩:=fill_rows hf r (i+1) rs' (putL base (i * sz) (cellsOf v)) hr hsz2
     refine⟨out,?_,fun q hq=>?_,fun r' hr'=>?_,fun k j u hk hu=>?_⟩
     ·rw[List.map_cons]
      simp only
      rw[Instr.fill]
      simp only[h1]
      rw[if_neg (by rw[hcs];simp[hl'];omega),← hb2]
      exact g1
     ·rw[g2 q (by rw[Nat.add_mul];omega),putL_at,if_neg (by omega)]
     ·rcases List.mem_cons.1 hr' with rfl | hr'
      ·exact⟨hl',hplain⟩
      ·exact g3 r' hr'
     ·cases k with
      | zero=>
       simp only[List.getD_cons_zero] at hu
       have hj:j<sz:=by rw[← hl'];exact (List.getElem?_eq_some_iff.1 hu).1
       rw[Nat.add_zero,g2 _ (by rw[Nat.add_mul];omega),putL_at,if_pos (by omega),Nat.add_sub_cancel_left]
       exact hu
      | succ k=>
       simp only[List.getD_cons_succ,List.length_cons] at hu hk
       have:=g4 k j u (by omega) hu
       rw[show i+(k+1)=i+1+k by omega]
       exact this
   ·simp at h
  ·simp at h
/-! append -/
def flatE (el:Nat→List Value) (n:Nat):List Value:=(List.range n).flatMap el
theorem flatE_succ (el:Nat→List Value) (n:Nat):flatE el (n+1)=flatE el n++el n:=by simp[flatE,List.range_succ]
theorem flatE_len {el:Nat→List Value} {sz:Nat}:∀ {n:Nat},(∀ k,k<n→(el k).length=sz)→(flatE el n).length=n * sz
 | 0,_=>by simp[flatE]
 | n+1,h=>by rw[flatE_succ,List.length_append,flatE_len fun k hk=>h k (by omega),h n (by omega),Nat.add_mul,Nat.one_mul]
theorem flatE_get {el:Nat→List Value} {sz:Nat}:∀ {n:Nat},(∀ k,k<n→(el k).length=sz)→∀ j v,(flatE el n)[j]?=some v→∃ k i,k<n∧i<sz∧j=k * sz+i∧(el k)[i]?=some v
 | 0,_,j,v,h=>by simp[flatE] at h
 | n+1,hs,j,v,h=>by
  rw[flatE_succ] at h
  have hl:=flatE_len (n:=n) fun k hk=>hs k (by omega)
  by_cases hj:j<n * sz
  ·rw[List.getElem?_append_left (by omega)] at h
   obtain⟨k,i,h1,h2,h3,h4⟩:=flatE_get (fun k hk=>hs k (by omega)) j v h
   exact⟨k,i,by omega,h2,h3,h4⟩
  ·rw[List.getElem?_append_right (by omega),hl] at h
   have hi:=(List.getElem?_eq_some_iff.1 h).1
   rw[hs n (by omega)] at hi
   exact⟨n,j-n * sz,by omega,hi,by omega,h⟩
theorem flatE_at {el:Nat→List Value} {sz:Nat}:∀ {n:Nat},(∀ k,k<n→(el k).length=sz)→∀ k i v,k<n→(el k)[i]?=some v→(flatE el n)[k * sz+i]?=some v
 | 0,_,k,i,v,hk,_=>by omega
 | n+1,hs,k,i,v,hk,h=>by
  rw[flatE_succ]
  have hl:=flatE_len (n:=n) fun k hk=>hs k (by omega)
  have hi:i<sz:=by rw[← hs k hk];exact (List.getElem?_eq_some_iff.1 h).1
  by_cases hkn:k<n
  ·rw[List.getElem?_append_left]
   ·exact flatE_at (fun k hk=>hs k (by omega)) k i v hkn h
   ·rw[hl]
    have:=Nat.mul_le_mul_right sz (show k+1≤n by omega)
    rw[Nat.add_mul] at this
    omega
  ·obtain rfl:k=n:=by omega
   rw[List.getElem?_append_right (by omega),hl,Nat.add_sub_cancel_left]
   exact h
theorem flatE_mem {el:Nat→List Value} {n:Nat} {v:Value} (h:v ∈ flatE el n):∃ k,k<n∧v ∈ el k:=by
 obtain⟨k,hk,hv⟩:=List.mem_flatMap.1 h
 exact⟨k,List.mem_range.1 hk,hv⟩
theorem setCells_app (g:Nat):∀ (a b:List Value) (w:World) (o:Nat),w.setCells g o (a++b)=(w.setCells g o a).setCells g (o+a.length) b
 | [],b,w,o=>by simp[World.setCells]
 | v::a,b,w,o=>by
  rw[List.cons_append,World.setCells,setCells_app g a b,World.setCells,List.length_cons]
  congr 1
  omega
theorem Sat.storeRows {r:Nat} {t:TypeId} {sz n len:Nat} {el2:Nat→List Value} {g:Nat} (ho:ownT t=true) (hA:(ρ r).A=some ⟨g,0,none⟩):∀ (m:Nat) {el:Nat→List Value} {mem:AM} {w:World},Sat C ρ fr mem nx a w→lk mem r=some (.row t sz n el)→len+m≤n→(∀ k,k<m→(el2 k).length=sz∧∀ v ∈ el2 k,plain1 v)→
  ∃ el',Sat C ρ fr ((r,.row t sz n el')::mem) nx a (w.setCells g (len * sz) (flatE el2 m))∧(∀ k,k<m→el' (len+k)=el2 k)∧∀ k,¬ (len≤k∧k<len+m)→el' k=el k
 | 0,el,mem,w,hs,hl,hn,h2=>⟨el,by
   have:flatE el2 0=[]:=rfl
   rw[this]
   exact hs.less (fun _ _ h=>h) (fun i b h=>by
    rw[List.cons_append] at h
    rcases lk_cons h with⟨rfl,rfl⟩ | ⟨_,h⟩
    ·exact lk_app hl
    ·exact h),fun k hk=>by omega,fun k _=>rfl⟩
 | m+1,el,mem,w,hs,hl,hn,h2=>by
  obtain⟨el1,hs1,e1,e2⟩:=Sat.storeRows (len:=len) (el2:=el2) ho hA m hs hl (by omega) (fun k hk=>h2 k (by omega))
  have hlen:=flatE_len (el:=el2) (n:=m) fun k hk=>(h2 k (by omega)).1
  have hl1:lk ((r,ABlk.row t sz n el1)::mem) r=some (.row t sz n el1):=lk_same _ _ _
  have hk1:(el1 (len+m)).length=sz:=by
   obtain⟨-,hpl,-⟩:=hs1.blk r _ (lk_app hl1)
   exact (hpl (len+m) (by omega)).1
  have hput:putN 0 (el2 m) (el1 (len+m))=some (el2 m):=by
   have:∀ (u v:List Value),u.length=v.length→putN 0 u v=some u:=by
    intro u
    induction u with
    | nil=>intro v hv;cases v<;>simp at hv;rfl
    | cons x u ih=>intro v hv;cases v with
     | nil=>simp at hv
     | cons y v=>simp only[putN];rw[ih v (by simpa using hv)]
   exact this _ _ (by rw[hk1,(h2 m (by omega)).1])
  obtain⟨g',hA',-,hth,hs2⟩:=hs1.storeRow hl1 ho (show len+m<n by omega) hput (h2 m (by omega)).2
  rw[hA] at hA'
  cases hA'
  have hdv:(el2 m).map (den1 ρ)=el2 m:=by
   conv=>rhs;rw[← List.map_id (el2 m)]
   exact List.map_congr_left fun v hv=>den1_plain ((h2 m (by omega)).2 v hv)
  rw[hdv] at hs2
  have hel:∀ k',setEl el1 (len+m) (el2 m) k'=if k'=len+m then el2 m else el1 k':=fun k'=>by
   unfold setEl
   by_cases hkk:k'=len+m
   ·subst hkk;rw[Nat.beq_refl,if_pos rfl]
   ·have:Nat.beq k' (len+m)=false:=by
     cases hbb:Nat.beq k' (len+m)
     ·rfl
     ·exact absurd (Nat.eq_of_beq_eq_true hbb) hkk
    rw[this,if_neg hkk]
  refine⟨setEl el1 (len+m) (el2 m),?_,fun k hk=>?_,fun k hk=>?_⟩
  ·have:w.setCells g (len * sz) (flatE el2 (m+1))=(w.setCells g (len * sz) (flatE el2 m)).setCells g ((len+m) * sz+0) (el2 m):=by
    rw[flatE_succ,setCells_app,hlen,Nat.add_zero,Nat.add_mul]
   rw[this]
   refine hs2.less (fun _ _ h=>h) (fun i b h=>?_)
   rw[List.cons_append] at h
   rw[List.cons_append,List.cons_append]
   rcases lk_cons h with⟨rfl,rfl⟩ | ⟨hne,h⟩
   ·exact lk_same _ _ _
   ·rw[lk_ne _ _ hne,lk_ne _ _ hne];exact h
  ·rw[hel]
   by_cases hkm:k=m
   ·subst hkm;rw[if_pos rfl]
   ·rw[if_neg (by omega)];exact e1 k (by omega)
  ·rw[hel,if_neg (by omega)]
   exact e2 k (by omega)
theorem srcx_sound {sz:Nat} {x:Value} {k:Nat→(Nat→List Value)→Prop} (h:srcx mem sz x k) (hs:Sat C ρ fr mem nx a w) {tx e':TypeId} (hk:P.underlying tx=some (.slice e')) :
  ∃ m el2,k m el2∧Src P sz tx (den ρ x) m (flatE el2 m) w∧∀ k,k<m→(el2 k).length=sz∧∀ v ∈ el2 k,plain1 v∧v.oneCell'=true:=by
 cases x<;>first | exact h.elim | skip
 rename_i A m c
 cases A with
 | none=>
  simp only[srcx] at h
  cases m with
  | zero=>exact⟨0,_,h,Src.ofNil w hk c,fun k hk=>by omega⟩
  | succ m=>exact h.elim
 | some ad=>
  obtain⟨q,qo,qs⟩:=ad
  simp only[srcx] at h
  split at h
  ·rename_i bt sz' n2 el2 hl
   split at h
   ·rename_i hb
    obtain⟨⟨hm,hat⟩,hK⟩:=h
    obtain rfl:sz'=sz:=Nat.eq_of_beq_eq_true hb
    obtain⟨⟨h1,h2⟩,hpl,hrow⟩:=hs.blk q _ (lk_app hl)
    by_cases h0:m=0
    ·subst h0
     cases hA:(ρ q).A with
     | none=>
      refine⟨0,el2,hK,?_,fun k hk=>by omega⟩
      have:den ρ (.slice (some ⟨q,0,none⟩) 0 c)=.slice none 0 c:=by simp[den,den2,den1,dA_whole,hA]
      rw[this]
      exact Src.ofNil w hk c
     | some ad=>
      refine⟨0,el2,hK,?_,fun k hk=>by omega⟩
      have:den ρ (.slice (some ⟨q,0,none⟩) 0 c)=.slice (some ad) 0 c:=by simp[den,den2,den1,dA_whole,hA]
      rw[this]
      exact Src.ofSlice w hk ad 0 c _ (by simp[flatE]) (by simp[flatE]) (by simp[flatE])
    ·rcases hrow with h3 | ⟨b,off,hA,-,hc⟩
     ·omega
     ·have hcell:∀ k,k<m→∀ v ∈ el2 k,v.oneCell'=true:=by
       intro k hk v hv
       have h1:=atom_one (ρ:=ρ) (List.all_eq_true.1 (hat k hk) v hv)
       rw[den1_plain ((hpl k (by omega)).2 v hv)] at h1
       exact h1
      refine⟨m,el2,hK,?_,fun k hk=>⟨(hpl k (by omega)).1,fun v hv=>⟨(hpl k (by omega)).2 v hv,hcell k hk v hv⟩⟩⟩
      have:den ρ (.slice (some ⟨q,0,none⟩) m c)=.slice (some ⟨b,off,none⟩) m c:=by simp[den,den2,den1,dA_whole,hA]
      rw[this]
      refine Src.ofSlice w hk _ m c _ (flatE_len fun k hk=>(hpl k (by omega)).1) (fun j u hu=>?_) (fun u hu=>?_)
      ·obtain⟨k,i,r1,r2,rfl,r4⟩:=flatE_get (fun k hk=>(hpl k (by omega)).1) j u hu
       rw[Addr.add_mid,← Nat.add_assoc]
       exact hc k (by omega) i u r4
      ·obtain⟨k,hk,hv⟩:=flatE_mem hu
       exact hcell k hk u hv
   ·exact h.elim
  ·exact h.elim
theorem app_nothing (w:World) (t tx ty e:TypeId) (i:TypeInfo) (ht:P.underlying t=some (.slice e)) (hi:P.info? e=some i) (base:Option Addr) (n c:Nat) (hle:n≤c) (x:Value) (hs:Src P i.size tx x 0 [] w) :
  (Builtin.append_ #[t,tx] ty #[.slice base n c,x]).run P w=.ok (.slice base n c) w:=by
 rcases hs.kind with⟨e',hk⟩ | hk<;>cases base<;>simp[Builtin.append_,run_underlying ht,run_underlying hk,sizeOf,typeInfo,hi,hs.len,hle,hs.cells,storeCells]
theorem appx_sound (hτ:TTok P τ) {t tx ty e:TypeId} {te:TI} {b1:Nat} {s x:Value} {K:Value→AM→Nat→Prop} (ht:P.underlying t=some (.slice e)) (hte:TIok P e te) (hby:∀ i,P.info? e=some i→i.bytes=b1+1) {e':TypeId} (htx:P.underlying tx=some (.slice e')) (hz0:te.zero.length=te.size) (hpos:0<te.size)
  (h:appx e te (b1+1) s x mem nx K) (hs:Sat C ρ fr mem nx a w) (hok:okV ρ nx s):∃ v w' mem' nx' ρ',(Builtin.append_ #[t,tx] ty #[den ρ s,den ρ x]).run P w=.ok (den ρ' v) w'∧K v mem' nx'∧Sat C ρ' fr mem' nx' a w'∧okV ρ' nx' v∧ExtS ρ nx ρ' nx':=by
 obtain⟨m,el2,hk,hsrc,hel2⟩:=srcx_sound h hs htx
 obtain⟨ie,hie,hsz,z,hz,hzc⟩:=hte.size
 have hb:=hby ie hie
 rw[← hsz] at hsrc
 have hzs:z.cells.size=ie.size:=by rw[← Array.length_toList,hzc,hz0,hsz]
 -- the new row
 have grow:∀ (len cap:Nat) (base:Option Addr) (el:Nat→List Value),(∀ k,k<len→(el k).length=te.size∧∀ v ∈ el k,plain1 v)→(Builtin.firstCells ie.size len (.slice base len cap)).run P w.drew=.ok (flatE el len).toArray w.drew→cap<len+m→(len+m) * (b1+1)≤140737488355328→
   (∀ cap' el',len+m≤cap'→(∀ k,k<len→el' k=el k)→(∀ k,k<m→el' (len+k)=el2 k)→K (.slice (some ⟨nx,0,none⟩) (len+m) cap') ((nx,.row (1000000+e) te.size cap' el')::mem) (nx+1))→
   ∃ v w' mem' nx' ρ',(Builtin.append_ #[t,tx] ty #[.slice base len cap,den ρ x]).run P w=.ok (den ρ' v) w'∧K v mem' nx'∧Sat C ρ' fr mem' nx' a w'∧okV ρ' nx' v∧ExtS ρ nx ρ' nx':=by
  intro len cap base el hel hold hlt hbound hK
  have hrun:=run_append_grow_src (P:=P) w t tx ty e ie z ht hie hz base len cap (flatE el len) hold (den ρ x) m (flatE el2 m) hsrc hlt (by
   have:len+m≤(len+m) * (b1+1):=Nat.le_mul_of_pos_right _ (by omega)
   omega) (growslice_fits hlt (by rw[hb];exact hbound))
  generalize hc':grownCap w (len+m) cap e=c' at hrun
  have hcl:len+m≤c':=by rw[← hc'];exact grownCap_ge w _ _ _
  have l1:=flatE_len (el:=el) (n:=len) fun k hk=>(hel k hk).1
  have l2:=flatE_len (el:=el2) (n:=m) fun k hk=>(hel2 k hk).1
  let el':Nat→List Value:=fun k=>if k<len then el k else if k<len+m then el2 (k-len) else te.zero
  have q1:∀ k,k<len→el' k=el k:=fun k hk=>if_pos hk
  have q2:∀ k,k<m→el' (len+k)=el2 k:=fun k hk=>by
   show (if len+k<len then _ else if len+k<len+m then el2 (len+k-len) else te.zero)=_
   rw[if_neg (by omega),if_pos (by omega),Nat.add_sub_cancel_left]
  have q3:∀ k,len+m≤k→el' k=te.zero:=fun k hk=>by
   show (if k<len then _ else if k<len+m then el2 (k-len) else te.zero)=_
   rw[if_neg (by omega),if_neg (by omega)]
  have hs2:=hs.drew.newRow (1000000+e) e (sz:=te.size) (n:=c') (el:=el') (cells:=(flatE el len++flatE el2 m).toArray++Builtin.zeroCells z.cells (c' - (len+m))) (fun k hk=>by
   by_cases h1:k<len
   ·rw[q1 k h1];exact hel k h1
   ·by_cases h2:k<len+m
    ·have:=q2 (k-len) (by omega)
     rw[show len+(k-len)=k by omega] at this
     rw[this]
     exact⟨(hel2 _ (by omega)).1,fun v hv=>((hel2 _ (by omega)).2 v hv).1⟩
    ·rw[q3 k (by omega)];exact⟨hz0,hte.zero⟩) (fun k hk j v hv=>by
   have hmul:∀ {a b:Nat},a<b→a * te.size+te.size≤b * te.size:=fun {a b} hab=>by
    have:=Nat.mul_le_mul_right te.size (show a+1≤b by omega)
    rw[Nat.add_mul] at this
    omega
   by_cases h1:k<len
   ·rw[q1 k h1] at hv
    have hj:j<te.size:=by rw[← (hel k h1).1];exact (List.getElem?_eq_some_iff.1 hv).1
    have:=hmul h1
    rw[Array.getElem?_append_left (by simp only[List.size_toArray,List.length_append,l1];omega),List.getElem?_toArray,List.getElem?_append_left (by omega)]
    exact flatE_at (fun k hk=>(hel k hk).1) k j v h1 hv
   ·by_cases h2:k<len+m
    ·have e3:=q2 (k-len) (by omega)
     rw[show len+(k-len)=k by omega] at e3
     rw[e3] at hv
     have hj:j<te.size:=by rw[← (hel2 (k-len) (by omega)).1];exact (List.getElem?_eq_some_iff.1 hv).1
     have e4:=hmul (show k-len<m by omega)
     have e5:k * te.size=len * te.size+(k-len) * te.size:=by rw[← Nat.add_mul];congr 1;omega
     rw[Array.getElem?_append_left (by simp only[List.size_toArray,List.length_append,l1,l2];omega),List.getElem?_toArray,List.getElem?_append_right (by omega),l1,show k * te.size+j-len * te.size=(k-len) * te.size+j by omega]
     exact flatE_at (fun k hk=>(hel2 k hk).1) (k-len) j v (by omega) hv
    ·rw[q3 k (by omega)] at hv
     have hj:j<te.size:=by rw[← hz0];exact (List.getElem?_eq_some_iff.1 hv).1
     have e5:k * te.size=len * te.size+m * te.size+(k-(len+m)) * te.size:=by rw[← Nat.add_mul,← Nat.add_mul];congr 1;omega
     have e4:=hmul (show k-(len+m)<c' - (len+m) by omega)
     rw[Array.getElem?_append_right (by simp only[List.size_toArray,List.length_append,l1,l2];omega)]
     simp only[List.size_toArray,List.length_append,l1,l2]
     rw[show k * te.size+j-(len * te.size+m * te.size)=(k-(len+m)) * te.size+j by omega]
     rw[← hzc] at hv
     unfold Builtin.zeroCells
     have hm:((k-(len+m)) * te.size+j) % te.size=j:=by rw[Nat.add_comm,Nat.add_mul_mod_self_right,Nat.mod_eq_of_lt hj]
     have hlt2:(k-(len+m)) * te.size+j<(c' - (len+m)) * te.size:=by omega
     rw[hzs,hsz]
     simp only[Array.getElem?_map,Array.getElem?_range,hlt2,if_true,Option.map_some,hm]
     rw[Array.getElem?_toList] at hv
     obtain⟨r1,r2⟩:=Array.getElem?_eq_some_iff.1 hv
     rw[getElem!_pos z.cells j r1,r2])
  obtain⟨e1,e2⟩:=slc_new (ρ:=ρ) (nx:=nx) w.heap.size te.size c' (len+m) c'
  refine⟨_,_,_,_,_,?_,hK c' el' hcl q1 q2,hs2,e2,ExtS.set _ _ _⟩
  rw[hrun]
  have:w.drew.heap.size=w.heap.size:=by simp
  rw[this,e1]
 cases s<;>first | exact hk.elim | skip
 rename_i A len cap
 cases A with
 | none=>
  simp only at hk
  split at hk
  ·obtain⟨h1,h2⟩:=hk
   by_cases hm:m=0
   ·refine⟨_,w,mem,nx,ρ,?_,h1 hm,hs,trivial,ExtS.refl _ _⟩
    subst hm
    have:(flatE el2 0)=[]:=rfl
    rw[this] at hsrc
    exact app_nothing w t tx ty e ie ht hie none 0 0 (by omega) (den ρ x) hsrc
   ·obtain⟨h3,h4⟩:=h2 hm
    have:=grow 0 0 none (fun _=>[]) (fun k hk=>by omega) (by have:flatE (fun _=>([]:List Value)) 0=[]:=rfl;rw[this];exact run_firstCells_none w.drew ie.size 0 0 0) (by omega) (by rw[Nat.zero_add];exact h3) (fun cap' el' g1 g2 g3=>by
     rw[Nat.zero_add] at g1 ⊢
     exact h4 cap' el' g1 (fun k hk=>by have:=g3 k hk;rwa[Nat.zero_add] at this))
    exact this
  ·exact hk.elim
 | some ad=>
  obtain⟨r,ro,rs⟩:=ad
  simp only at hk
  split at hk
  ·rename_i bt sz' n el hl
   split at hk
   ·rename_i hown hb2
    obtain rfl:sz'=te.size:=Nat.eq_of_beq_eq_true hb2
    obtain⟨⟨rfl,hle⟩,hroom,hgrow⟩:=hk
    obtain⟨⟨h1,h2⟩,hpl,hrow⟩:=hs.blk r _ (lk_app hl)
    have hfr:(Builtin.firstCells ie.size len (den ρ (.slice (some ⟨r,0,none⟩) len cap))).run P w.drew=.ok (flatE el len).toArray w.drew:=by
     have e0:den ρ (.slice (some ⟨r,0,none⟩) len cap)=.slice (ρ r).A len cap:=rfl
     rw[e0]
     rcases hrow with h0 | ⟨b,off,hA,-,hc⟩
     ·obtain rfl:len=0:=by omega
      have:flatE el 0=[]:=rfl
      rw[this]
      cases (ρ r).A with
      | none=>exact run_firstCells_none w.drew _ _ _ _
      | some ad=>exact run_firstCells_some w.drew _ 0 ad 0 cap [] (by simp) (by simp)
     ·rw[hA]
      refine run_firstCells_some w.drew _ len _ len cap _ (by rw[hsz];exact flatE_len fun k hk=>(hpl k (by omega)).1) (fun j u hu=>?_)
      obtain⟨k,i,r1,r2,rfl,r4⟩:=flatE_get (fun k hk=>(hpl k (by omega)).1) j u hu
      have:=hc k (by omega) i u r4
      rw[Addr.add_mid,← Nat.add_assoc]
      simpa using this
    by_cases hfit:len+m≤cap
    ·by_cases hm:m=0
     ·subst hm
      refine⟨_,w,_,nx,ρ,?_,hroom hfit el (fun _ _=>rfl) (fun k hk=>by omega),?_,hok,ExtS.refl _ _⟩
      ·have:(flatE el2 0)=[]:=rfl
       rw[this] at hsrc
       exact app_nothing w t tx ty e ie ht hie (ρ r).A len cap hle (den ρ x) hsrc
      ·exact hs.less (fun _ _ h=>h) (fun i b h=>by
        rw[List.cons_append] at h
        rcases lk_cons h with⟨rfl,rfl⟩ | ⟨_,h⟩
        ·exact lk_app hl
        ·exact h)
     ·rcases hrow with h0 | ⟨b,off,hA,hat,hc⟩
      ·omega
      ·obtain⟨rfl,hbase,ty2,cs,hblk⟩:=hat.own hown
       obtain⟨el',hs2,e1,e2⟩:=Sat.storeRows (el2:=el2) (len:=len) hown hA m hs hl hfit (fun k hk=>⟨(hel2 k hk).1,fun v hv=>((hel2 k hk).2 v hv).1⟩)
       have l2:=flatE_len (el:=el2) (n:=m) fun k hk=>(hel2 k hk).1
       have hin:(len+m) * te.size≤cs.size:=by
        have hj:te.size-1<(el (len+m-1)).length:=by rw[(hpl (len+m-1) (by omega)).1];omega
        have:=hc (len+m-1) (by omega) (te.size-1) _ (List.getElem?_eq_getElem hj)
        rw[Nat.zero_add,hblk.cell] at this
        have hlt:=(Array.getElem?_eq_some_iff.1 this).1
        have e5:(len+m) * te.size=(len+m-1) * te.size+te.size:=by
         conv=>lhs;rw[show len+m=(len+m-1)+1 by omega,Nat.add_mul,Nat.one_mul]
        omega
       have hth:=hblk.there (len * te.size) (m * te.size) (by rw[Nat.add_mul] at hin;exact hin)
       refine⟨_,_,_,nx,ρ,?_,hroom hfit el' (fun k hk=>e2 k (by omega)) e1,hs2,hok,ExtS.refl _ _⟩
       have e0:den ρ (.slice (some ⟨r,0,none⟩) len cap)=.slice (some ⟨b,0,none⟩) len cap:=by simp[den,den2,den1,dA_whole,hA]
       have e3:den ρ (.slice (some ⟨r,0,none⟩) (len+m) cap)=.slice (some ⟨b,0,none⟩) (len+m) cap:=by simp[den,den2,den1,dA_whole,hA]
       rw[e0,e3,run_append_room_src w t tx ty e ie ht hie b 0 len cap (den ρ x) m (flatE el2 m) hsrc hfit (fun j hj=>by rw[hsz,Nat.zero_add];exact (hth j (by omega)).1) (fun j hj=>by rw[hsz,Nat.zero_add];exact (hth j (by omega)).2),Nat.zero_add,hsz]
    ·obtain⟨h3,h4⟩:=hgrow (by omega)
     have e0:den ρ (.slice (some ⟨r,0,none⟩) len cap)=.slice (ρ r).A len cap:=rfl
     rw[e0] at hfr ⊢
     exact grow len cap (ρ r).A el (fun k hk=>hpl k (by omega)) hfr (by omega) h3 h4
   ·exact hk.elim
  ·exact hk.elim
theorem lk_putF {d:Option Nat} {v:Value} {e:Nat} (h:d≠some e):lk (putF d v fr) e=lk fr e:=by
 cases d with
 | none=>rfl
 | some d=>exact lk_ne _ _ (fun q=>h (by rw[q]))
theorem wp_value {o:Oper} {v:Value} {w':World} {K:Act→World→Prop} (h:(execOp a.eval o).run P w=.ok (.value v) w') (hk:K (a.put o.dst v) w'):o.wp P a w K Q:=by
 unfold Oper.wp;rw[h];exact hk
theorem slice_run (hτ:TTok P τ) (hf:FrOk ρ fr nx a) {t:TypeId} {x y:Operand} {A:Option Addr} {n cap:Nat} {k:IntKind} {h:Int} {ti:TI} {e1:Nat} (hx:ev fr x=some (.slice A n cap)) (hy:ev fr y=some (.int k h)) (hti:lk τ t=some ti) (hsl:ti.sl=true) (hes:ti.esz=e1+1) (h0:0≤h) (h1:h≤cap) :
  (Instr.sliceAt t (a.eval x) none (some (a.eval y)) none).run P w=.ok (den ρ (.slice A h.toNat cap)) w∧okV ρ nx (.slice A h.toNat cap):=by
 obtain⟨e,hu,he⟩:=(hτ t ti hti).slice hsl
 obtain⟨q1,q2⟩:=ev_ok hf hx
 obtain⟨q3,-⟩:=ev_ok hf hy
 have q3':a.eval y=.int k h:=q3
 refine⟨?_,?_⟩
 ·cases hi:P.info? e with
  | none=>simp[szOf,hi] at he;omega
  | some ii=>
   have hb:(Instr.sliceBounds true n cap none (some (.int k h)) none).run P w=.ok (0,h.toNat,cap) w:=by
    simp[Instr.sliceBounds,Instr.sliceBound,asIntOf,h0,h1]
   rw[q1,q3']
   cases A with
   | none=>
    simp[Instr.sliceAt,run_underlying hu,Instr.slice,hb,sizeOf,typeInfo,hi,den,den2,den1]
   | some ad=>
    simp[Instr.sliceAt,run_underlying hu,Instr.slice,hb,sizeOf,typeInfo,hi,den,den2,den1]
    intro _
    cases dA ρ ad<;>simp[Addr.add]
 ·cases A with
  | none=>trivial
  | some ad=>exact q2
theorem actx_sound {I:List Nat} (hτ:TTok P τ) (hF:FTokI P F I) {o:Oper} (hI:C.fm=[]∨inlOk I o.op=true) (hd:∀ i,o.dst=some i→i<C.nt) {K:AF→AM→Nat→Prop} (h:actx τ F o.dst o.op fr mem nx K) (hs:Sat C ρ fr mem nx a w) :
  o.wp P a w (fun a' w'=>∃ fr' mem' nx' ρ',K fr' mem' nx'∧Sat C ρ' fr' mem' nx' a' w'∧ExtS ρ nx ρ' nx'∧∀ d,o.dst≠some d→lk fr' d=lk fr d) Q:=by
 obtain⟨dst,op,type,pos,after,guard⟩:=o
 simp only at hd h
 cases op<;>simp only[actx,putK_eq] at h<;>try (exact h.elim)
 case alloc t=>
  cases hti:lk τ t with
  | none=>rw[hti] at h;exact h.elim
  | some ti=>
   rw[hti] at h
   have ht:=hτ t ti hti
   obtain⟨i,hi,hsz,z,hz,hzc⟩:=ht.size
   have hmap:ti.zero.map (den1 ρ)=ti.zero:=by
    conv=>rhs;rw[← List.map_id ti.zero]
    exact List.map_congr_left fun v hv=>den1_plain (ht.zero v hv)
   have hs2:=hs.newBox t (cs:=ti.zero) (fun v hv=>ok1_plain (ht.zero v hv))
   rw[hmap] at hs2
   obtain⟨e1,e2⟩:=ptr_new (ρ:=ρ) (nx:=nx) w.heap.size
   have hs3:=hs2.put (d:=dst) hd e2
   rw[e1] at hs3
   refine wp_value (w':=w.alloc (.cells ti.zero.toArray t)) ?_ ⟨_,_,_,_,h,hs3,ExtS.set _ _ _,fun _ q=>lk_putF q⟩
   have hza:z.cells=ti.zero.toArray:=by apply Array.toList_inj.1;simp[hzc]
   simp[execOp,Instr.alloc,zeroValue,typeInfo,hi,hz,newVar,newRow,newObj,hza,Sem.run]
 case box t x=>
  cases hx:ev fr x with
  | none=>rw[hx] at h;exact h.elim
  | some v=>
   rw[hx] at h
   obtain⟨h1,h2⟩:=ev_ok hs.fok.left hx
   rcases not_tuple v with⟨cs,rfl⟩ | ⟨f,a',b,rfl⟩ | ⟨-,-⟩
   ·exact h.elim
   ·exact h.elim
   ·by_cases hnt:nt v=false
    ·cases v<;>first | exact h.elim | cases hnt
    ·have hnt':nt v=true:=by simpa using hnt
     have h':K (putF dst (.pointer (some ⟨nx,0,none⟩)) fr) ((nx,.box t (cellsOf v))::mem) (nx+1):=by
      cases v<;>first | exact h | cases hnt'
     have hs2:=hs.newBox t (cs:=cellsOf v) (cells_ok hnt' h2)
     obtain⟨e1,e2⟩:=ptr_new (ρ:=ρ) (nx:=nx) w.heap.size
     have hs3:=hs2.put (d:=dst) hd e2
     rw[e1] at hs3
     refine wp_value (w':=w.alloc (.cells ((cellsOf v).map (den1 ρ)).toArray t)) ?_ ⟨_,_,_,_,h',hs3,ExtS.set _ _ _,fun _ q=>lk_putF q⟩
     simp[execOp,Instr.box,newVar,newRow,newObj,h1,cells_den (ρ:=ρ) hnt',Sem.run]
 case store t x y=>
  cases hx:ev fr x with
  | none=>rw[hx] at h;exact h.elim
  | some p=>
   cases hy:ev fr y with
   | none=>rw[hx,hy] at h;cases p<;>first | exact h.elim | (rename_i q;cases q<;>exact h.elim)
   | some v=>
    cases hti:lk τ t with
    | none=>rw[hx,hy,hti] at h;cases p<;>first | exact h.elim | (rename_i q;cases q<;>exact h.elim)
    | some ti=>
     rw[hx,hy,hti] at h
     cases p<;>first | exact h.elim | skip
     rename_i q
     cases q with
     | none=>exact h.elim
     | some ad=>
      simp only at h
      cases hb:lk mem ad.block with
      | none=>rw[hb] at h;exact h.elim
      | some bl=>
       rw[hb] at h
       cases bl with
       | row bt sz n el=>
        cases hsp:ad.spot with
        | none=>rw[hsp] at h;exact h.elim
        | some k=>
         rw[hsp] at h
         simp only at h
         split at h
         ·rename_i hl hat hpl hown
          obtain⟨l,hp,hK⟩:=h
          obtain⟨h1,h2⟩:=ev_ok hs.fok.left hx
          obtain⟨h3,h4⟩:=ev_ok hs.fok.left hy
          have hl':(cellsOf v).length=ti.size:=by simpa using hl
          have hplain:∀ u ∈ cellsOf v,plain1 u:=fun u hu=>plB_ok (List.all_eq_true.1 hpl u hu)
          have hkn:k<n:=by
           have:=h2.2.2 k hsp
           obtain⟨⟨-,e⟩,-⟩:=hs.blk _ _ (lk_app hb)
           omega
          obtain⟨g,hA,hsz,hth,hs2⟩:=hs.storeRow hb hown hkn hp hplain
          have hrun:=run_store (P:=P) (w:=w) (ρ:=ρ) (hτ t ti hti) (g:=g) (o:=k * sz+ad.off) (notTuple hat) hl' hat hth
          have e:den ρ (.pointer (some ad))=.pointer (some ⟨g,k * sz+ad.off,none⟩):=by simp[den,den2,den1,dA_some hA,hsp,hsz]
          rw[e] at h1
          unfold Oper.wp execOp
          simp only[h1,h3]
          rw[Sem.run_bind,hrun]
          exact⟨_,_,_,_,hK,hs2,ExtS.refl _ _,fun _ _=>rfl⟩
         ·exact h.elim
       | box bt cs=>
        cases hsp:ad.spot with
        | some k=>rw[hsp] at h;exact h.elim
        | none=>
         rw[hsp] at h
         simp only at h
         split at h
         ·rename_i l hl hat hp
          obtain⟨h1,h2⟩:=ev_ok hs.fok.left hx
          obtain⟨h3,h4⟩:=ev_ok hs.fok.left hy
          obtain⟨g,hA,hblk,-,-⟩:=hs.blk _ _ (lk_app hb)
          have hl':(cellsOf v).length=ti.size:=by simpa using hl
          have hnt:nt v=true:=notTuple hat
          have hsz:=(putN_get _ _ _ _ hp).2.1
          have hrun:=run_store (P:=P) (w:=w) (ρ:=ρ) (hτ t ti hti) (g:=g) (o:=ad.off) hnt hl' hat (hblk.there _ _ (by simpa using hsz))
          have hs2:=hs.store hb hA hp (cells_ok hnt h4)
          have e:den ρ (.pointer (some ad))=.pointer (some ⟨g,ad.off,none⟩):=by simp[den,den2,den1,dA_some hA,hsp]
          rw[e] at h1
          unfold Oper.wp execOp
          simp only[h1,h3]
          rw[Sem.run_bind,hrun]
          exact⟨_,_,_,_,h,hs2,ExtS.refl _ _,fun _ _=>rfl⟩
         ·exact h.elim
 case buildSlice t len parts=>
  cases hti:lk τ t with
  | none=>rw[hti] at h;exact h.elim
  | some ti=>
   rw[hti] at h
   simp only at h
   split at h
   ·rename_i eb te hsl heb hte
    split at h
    ·rename_i s rs hs1 hrs
     split at h
     ·rename_i hlen hle
      have ht:=hτ t ti hti
      obtain⟨hu,hby⟩:=ht.elt heb
      obtain⟨ie,hie,hsz,z,hz,hzc⟩:=(hτ _ te hte).size
      have hlen':rs.length=len:=Nat.eq_of_beq_eq_true hlen
      have hle':len * te.size≤16777216:=Nat.le_of_ble_eq_true hle
      obtain⟨out,g1,-,g3,g4⟩:=fill_rows (a:=a) hs.fok.left parts.toList 0 rs ((Array.range (len * te.size)).map fun i=>(if len * te.size=0 then #[] else z.cells)[i % (if len * te.size=0 then #[] else z.cells).size]!) hrs (by simp[hlen'])
      have hs2:=hs.newRow (1000000+ti.elt) ti.elt (sz:=te.size) (n:=len) (el:=fun k=>rs.getD k []) (cells:=out) (fun k hk=>by
       have:rs[k]?=some (rs.getD k []):=by rw[List.getD_eq_getElem?_getD,List.getElem?_eq_getElem (by omega)];rfl
       exact g3 _ (List.mem_of_getElem? this)) (fun k hk j v hv=>by
       have:=g4 k j v (by omega) hv
       rw[Nat.zero_add] at this
       exact this)
      obtain⟨e1,e2⟩:=slc_new (ρ:=ρ) (nx:=nx) w.heap.size te.size len len len
      have hs3:=hs2.put (d:=dst) hd e2
      rw[e1] at hs3
      refine wp_value (w':=w.alloc (.cells out ti.elt)) ?_ ⟨_,_,_,_,h,hs3,ExtS.set _ _ _,fun _ q=>lk_putF q⟩
      have hpm:(parts.map fun (q:Nat×Operand)=>(q.1,a.eval q.2)).toList=parts.toList.map fun q=>(q.1,a.eval q.2):=by simp
      have hz0:¬ (16777216<len * te.size):=by omega
      by_cases h0:len * te.size=0
      ·simp only[h0,if_true] at g1
       rw[show (Array.range 0).map (fun i=>(#[]:Array Value)[i % (#[]:Array Value).size]!)=#[] by simp[Array.range_zero']] at g1
       simp[execOp,Instr.buildSlice,run_underlying hu,sizeOf,typeInfo,hie,hsz,h0,g1,newRow,newObj,Sem.run,Array.range_zero']
      ·simp only[h0,if_false] at g1
       simp[execOp,Instr.buildSlice,run_underlying hu,sizeOf,typeInfo,zeroValue,hie,hsz,hz,hz0,h0,g1,newRow,newObj,Sem.run]
     ·exact h.elim
    ·exact h.elim
   ·exact h.elim
 case makeSlice t x y=>
  cases hx:ev fr x with
  | none=>rw[hx] at h;exact h.elim
  | some p=>
   rw[hx] at h
   cases p<;>first | exact h.elim | skip
   rename_i kl n
   cases hy:ev fr y with
   | none=>rw[hy] at h;exact h.elim
   | some q=>
    rw[hy] at h
    cases q<;>first | exact h.elim | skip
    rename_i kc n'
    cases hti:lk τ t with
    | none=>rw[hti] at h;exact h.elim
    | some ti=>
     rw[hti] at h
     simp only at h
     split at h
     ·rename_i eb te hsl heb hte
      split at h
      ·rename_i s hs1 hzl
       obtain⟨⟨hnn',hn0,hnb⟩,hK⟩:=h
       have ht:=hτ t ti hti
       obtain⟨hu,hby⟩:=ht.elt heb
       obtain⟨ie,hie,hsz,z,hz,hzc⟩:=(hτ _ te hte).size
       have hzl':te.zero.length=te.size:=Nat.eq_of_beq_eq_true hzl
       have hzs:z.cells.size=te.size:=by rw[← Array.length_toList,hzc,hzl']
       have hb:=hby ie hie
       have h1:a.eval x=.int kl n:=(ev_ok hs.fok.left hx).1
       have h2:a.eval y=.int kc n':=(ev_ok hs.fok.left hy).1
       have hnn:n'≤281474976710656:=by
        have:n' * 1≤n' * ((eb+1:Nat):Int):=Int.mul_le_mul_of_nonneg_left (by omega) (by omega)
        omega
       have hrun:=run_make (P:=P) w t ti.elt ie z hu hie hz kl kc n n' hn0 hnn' (by rw[hb,Int.mul_comm];exact hnb) (by omega)
       have hs2:=hs.newRow (1000000+ti.elt) ti.elt (sz:=te.size) (n:=n'.toNat) (el:=fun _=>te.zero) (cells:=madeCells z.cells (n'.toNat * te.size)) (fun k hk=>⟨hzl',(hτ _ te hte).zero⟩) (fun k hk j v hv=>by
        have hj:j<te.size:=by rw[← hzl'];exact (List.getElem?_eq_some_iff.1 hv).1
        rw[made_at hzs hk hj]
        rw[← hzc] at hv
        simpa using hv)
       obtain⟨e1,e2⟩:=slc_new (ρ:=ρ) (nx:=nx) w.heap.size te.size n'.toNat n.toNat n'.toNat
       have hs3:=hs2.put (d:=dst) hd e2
       rw[e1] at hs3
       refine wp_value (w':=w.alloc (.cells (madeCells z.cells (n'.toNat * te.size)) ti.elt)) ?_ ⟨_,_,_,_,hK,hs3,ExtS.set _ _ _,fun _ q=>lk_putF q⟩
       rw[hsz] at hrun
       simp[execOp,h1,h2,hrun]
      ·exact h.elim
     ·exact h.elim
 case slice t x lo hi mx=>
  cases lo with
  | some _=>exact h.elim
  | none=>
   cases mx with
   | some _=>cases hi<;>exact h.elim
   | none=>
    cases hi with
    | none=>exact h.elim
    | some y=>
     try simp only at h
     cases hx:ev fr x with
     | none=>rw[hx] at h;exact h.elim
     | some p=>
      rw[hx] at h
      cases p<;>(try simp only at h)<;>first | exact h.elim | skip
      rename_i A n cap
      cases hy:ev fr y with
      | none=>rw[hy] at h;exact h.elim
      | some q=>
       rw[hy] at h
       cases q<;>(try simp only at h)<;>first | exact h.elim | skip
       rename_i k hh
       cases hti:lk τ t with
       | none=>rw[hti] at h;exact h.elim
       | some ti=>
        rw[hti] at h
        try simp only at h
        split at h
        ·rename_i s hsl hesz
         obtain⟨⟨h0,h1⟩,hK⟩:=h
         obtain⟨r1,r2⟩:=slice_run (w:=w) hτ hs.fok.left hx hy hti hsl hesz h0 h1
         refine wp_value (w':=w) (v:=den ρ (.slice A hh.toNat cap)) ?_ ⟨_,_,_,_,hK,hs.put (d:=dst) hd r2,ExtS.refl _ _,fun _ q=>lk_putF q⟩
         simp[execOp,r1]
        ·exact h.elim
 case indexAddr t x i=>
  cases hx:ev fr x with
  | none=>rw[hx] at h;exact h.elim
  | some p=>
   rw[hx] at h
   cases p<;>first | exact h.elim | skip
   rename_i A n cp
   cases A with
   | none=>exact h.elim
   | some ad=>
    cases hy:ev fr i with
    | none=>rw[hy] at h;exact h.elim
    | some q=>
     rw[hy] at h
     cases q<;>first | exact h.elim | skip
     rename_i kk k
     cases hti:lk τ t with
     | none=>rw[hti] at h;exact h.elim
     | some ti=>
      rw[hti] at h
      simp only at h
      cases hb:lk mem ad.block with
      | none=>rw[hb] at h;exact h.elim
      | some bl=>
       rw[hb] at h
       cases bl with
       | box bt cs=>exact h.elim
       | row bt sz n' el=>
        simp only at h
        split at h
        ·rename_i s hoff hsp hsl hesz hbe
         obtain⟨⟨hn,hk0,hkn⟩,hK⟩:=h
         have hsz:ti.esz=sz:=Nat.eq_of_beq_eq_true hbe
         obtain⟨h1,h2⟩:=ev_ok hs.fok.left hx
         obtain⟨h3,-⟩:=ev_ok hs.fok.left hy
         obtain⟨⟨hs1,hs2⟩,-,hrow⟩:=hs.blk _ _ (lk_app hb)
         rcases hrow with h0 | ⟨b,off,hA,hlt,hc⟩
         ·omega
         ·obtain⟨e,hu,he⟩:=(hτ t ti hti).slice hsl
          have hok:okV ρ nx (.pointer (some ⟨ad.block,0,some k.toNat⟩)):=⟨hs.mlt _ _ (lk_app hb),⟨b,off,hA⟩,fun j hj=>by cases hj;show k.toNat<(ρ ad.block).n;rw[hs2];omega⟩
          have hs3:=hs.put (d:=dst) hd hok
          have e1:den ρ (.slice (some ad) n cp)=.slice (some ⟨b,off,none⟩) n cp:=by simp[den,den2,den1,dA_some hA,hsp,hoff]
          have e2:den ρ (.pointer (some ⟨ad.block,0,some k.toNat⟩))=.pointer (some ⟨b,off+k.toNat * sz,none⟩):=by simp[den,den2,den1,dA_some (a:=⟨ad.block,0,some k.toNat⟩) hA,hs1]
          rw[e2] at hs3
          rw[e1] at h1
          have h3':a.eval i=.int kk k:=h3
          refine wp_value (w':=w) ?_ ⟨_,_,_,_,hK,hs3,ExtS.refl _ _,fun _ q=>lk_putF q⟩
          cases hi:P.info? e with
          | none=>simp[szOf,hi] at he;omega
          | some ii=>
           have hes:ii.size=sz:=by rw[← hsz,← he];simp[szOf,hi]
           simp[execOp,h1,h3',Instr.indexAt,asIntOf,run_underlying hu,hk0,hkn,sizeOf,typeInfo,hi,hes,Addr.add_mid]
        ·exact h.elim
 case binOp bo t x y yt=>
  cases hx:ev fr x with
  | none=>rw[hx] at h;exact h.elim
  | some p=>
   rw[hx] at h
   cases p<;>first | exact h.elim | skip
   rename_i k b
   cases hy:ev fr y with
   | none=>rw[hy] at h;exact h.elim
   | some q=>
    rw[hy] at h
    cases q<;>first | exact h.elim | skip
    rename_i k' c
    have h1:a.eval x=.int k b:=(ev_ok hs.fok.left hx).1
    have h2:a.eval y=.int k' c:=(ev_ok hs.fok.left hy).1
    cases bo<;>simp only at h<;>first | exact h.elim | skip
    case quo=>
     obtain⟨⟨rfl,hc⟩,hK⟩:=h
     refine wp_value (w':=w) (v:=.int k (k.wrap (b.tdiv c))) ?_ ⟨_,_,_,_,hK,hs.put (d:=dst) (v:=.int k (k.wrap (b.tdiv c))) hd trivial,ExtS.refl _ _,fun _ q=>lk_putF q⟩
     simp[execOp,h1,h2,eqGuard,binOp,Op.intDiv,hc]
    case rem=>
     obtain⟨⟨rfl,hc⟩,hK⟩:=h
     refine wp_value (w':=w) (v:=.int k (b.tmod c)) ?_ ⟨_,_,_,_,hK,hs.put (d:=dst) (v:=.int k (b.tmod c)) hd trivial,ExtS.refl _ _,fun _ q=>lk_putF q⟩
     simp[execOp,h1,h2,eqGuard,binOp,Op.intDiv,hc]
    case shl=>
     obtain⟨hc,hK⟩:=h
     refine wp_value (w':=w) (v:=.int k (k.wrap (b * 2 ^ min c.toNat k.bits))) ?_ ⟨_,_,_,_,hK,hs.put (d:=dst) (v:=.int k (k.wrap (b * 2 ^ min c.toNat k.bits))) hd trivial,ExtS.refl _ _,fun _ q=>lk_putF q⟩
     simp[execOp,h1,h2,eqGuard,binOp,Op.shift,show ¬ c<0 by omega]
    case shr=>
     obtain⟨hc,hK⟩:=h
     refine wp_value (w':=w) (v:=.int k (b.fdiv (2 ^ min c.toNat k.bits))) ?_ ⟨_,_,_,_,hK,hs.put (d:=dst) (v:=.int k (b.fdiv (2 ^ min c.toNat k.bits))) hd trivial,ExtS.refl _ _,fun _ q=>lk_putF q⟩
     simp[execOp,h1,h2,eqGuard,binOp,Op.shift,show ¬ c<0 by omega]
 case call c=>
  obtain⟨callee,args,argTypes⟩:=c
  cases callee with
  | builtin b=>
   cases b<;>simp only at h<;>first | exact h.elim | skip
   split at h
   ·rename_i s x t tx hev hty
    have hvs:evs fr args.toList=some [s,x]:=hev
    obtain⟨h1,h2⟩:=evs_ok hs.fok.left hvs
    have h1':args.map a.eval=#[den ρ s,den ρ x]:=by apply Array.toList_inj.1;simp[h1]
    have hat:argTypes=#[t,tx]:=by apply Array.toList_inj.1;simp[hty]
    split at h
    ·rename_i ti tj hti htj
     split at h
     ·rename_i eb te hsl hsl2 heb hte
      split at h
      ·rename_i sz hsz hzl
       obtain⟨hu,hby⟩:=(hτ t ti hti).elt heb
       obtain⟨e',hu2,-⟩:=(hτ tx tj htj).slice hsl2
       obtain⟨v,w',mem',nx',ρ',hrun,hK,hs',hok',hx'⟩:=appx_sound (ty:=type) hτ hu (hτ _ te hte) hby hu2 (Nat.eq_of_beq_eq_true hzl) (by omega) h hs (h2 s (by simp))
       refine wp_value (v:=den ρ' v) (w':=w') ?_ ⟨_,_,_,_,hK,hs'.put (d:=dst) hd hok',hx',fun _ q=>lk_putF q⟩
       simp[execOp,resolve,invoke,builtin,h1',hat,hrun]
      ·exact h.elim
     ·exact h.elim
    ·exact h.elim
   ·exact h.elim
  | invoke r m=>exact h.elim
  | value x=>
   cases x<;>first | exact h.elim | skip
   case func f=>
    simp only at h
    cases hvs:evs fr args.toList with
    | none=>rw[hvs] at h;exact h.elim
    | some vs=>
     cases hct:lk F f with
     | none=>rw[hvs,hct] at h;exact h.elim
     | some ct=>
      rw[hvs,hct] at h
      simp only at h
      obtain⟨h1,h2⟩:=evs_ok hs.fok.left hvs
      have h1':args.map a.eval=(vs.map (den ρ)).toArray:=by apply Array.toList_inj.1;simp[h1]
      obtain⟨hent,hrun⟩:=hF f ct hct C (hI.imp id (fun q=>by simpa [inlOk] using q))
      cases hfn:P.funcs[f]? with
      | none=>rw[hfn] at hent;simp at hent
      | some fn=>
       rw[hfn] at hent
       simp at hent
       have hc:=hrun h hs h2
       unfold Oper.wp
       have hx:(execOp a.eval { dst:=dst,op:=.call { callee:=.value (.func f),args:=args,argTypes:=argTypes },type:=type,pos:=pos,after:=after,guard:=guard }).run P w=.ok (.enter f (vs.map (den ρ)).toArray) w:=by
        have hbs:fn.body≠none:=by intro hb;rw[hb] at hent;simp at hent
        simp[execOp,resolve,Act.eval,Deferred.ofValue,invoke,callFunc,hfn,hent.1,hbs,h1',program,Sem.run]
       rw[hx]
       refine hc.mono fun e w' he=>?_
       obtain⟨v,mem',nx',ρ',rfl,hK,hs',hv,hx'⟩:=he
       exact⟨_,_,_,_,hK,hs'.put (d:=dst) hd hv,hx',fun _ q=>lk_putF q⟩
   case tmp t=>
    simp only at h
    cases hft:lk fr t with
    | none=>rw[hft] at h;exact h.elim
    | some fv=>
     rw[hft] at h
     split at h
     ·rename_i f fs cs heq
      cases heq
      cases hvs:evs fr args.toList with
      | none=>rw[hvs] at h;exact h.elim
      | some vs=>
       cases hct:lk F f with
       | none=>rw[hvs,hct] at h;exact h.elim
       | some ct=>
        rw[hvs,hct] at h
        split at h
        ·rename_i vs' ct' q1 q2 ha hb
         cases q1
         cases q2
         rw[List.all_eq_true] at ha hb
         obtain⟨h1,h2⟩:=evs_ok hs.fok.left hvs
         have h1':args.map a.eval=(vs.map (den ρ)).toArray:=by apply Array.toList_inj.1;simp[h1]
         obtain⟨hent,hrun⟩:=hF f ct hct C (hI.imp id (fun q=>by simp[inlOk] at q))
         have hfv:=hs.fok.left.frm t _ hft
         have hfk:=hs.fok.left.frk t _ hft
         have d1:fs.map (den1 ρ)=(fs.toList.map (den ρ)).toArray:=by
          apply Array.toList_inj.1
          simp only[Array.toList_map]
          exact List.map_congr_left fun v hv=>(atom_den (ha v hv)).symm
         have d2:cs.map (den1 ρ)=(cs.toList.map (den ρ)).toArray:=by
          apply Array.toList_inj.1
          simp only[Array.toList_map]
          exact List.map_congr_left fun v hv=>(atom_den (hb v hv)).symm
         cases hfn:P.funcs[f]? with
         | none=>rw[hfn] at hent;simp at hent
         | some fn=>
          rw[hfn] at hent
          simp at hent
          have hc:=hrun h hs (fun v hv=>by
           rw[List.mem_append,List.mem_append] at hv
           rcases hv with hv | hv | hv
           ·rw[atom_ok (ha v hv)];exact hfk.1 v (by simpa using hv)
           ·exact h2 v hv
           ·rw[atom_ok (hb v hv)];exact hfk.2 v (by simpa using hv))
          unfold Oper.wp
          have he:a.eval (.tmp t)=.func (.func f) (fs.map (den1 ρ)) (cs.map (den1 ρ)):=by
           simp only[Act.eval,Array.getD_eq_getD_getElem?,hfv]
           rfl
          have hx:(execOp a.eval { dst:=dst,op:=.call { callee:=.value (.tmp t),args:=args,argTypes:=argTypes },type:=type,pos:=pos,after:=after,guard:=guard }).run P w=.ok (.enter f ((fs.toList++(vs++cs.toList)).map (den ρ)).toArray) w:=by
           have hbs:fn.body≠none:=by intro hb;rw[hb] at hent;simp at hent
           simp[execOp,resolve,he,Deferred.ofValue,invoke,callFunc,hfn,hent.1,hbs,h1',d1,d2,program,Sem.run]
          rw[hx]
          refine hc.mono fun e w' he=>?_
          obtain⟨v,mem',nx',ρ',rfl,hK,hs',hv,hx'⟩:=he
          exact⟨_,_,_,_,hK,hs'.put (d:=dst) hd hv,hx',fun _ q=>lk_putF q⟩
        ·exact h.elim
     ·exact h.elim
theorem opx_sound {I:List Nat} (hτ:TTok P τ) (hF:FTokI P F I) {o:Oper} (hI:C.fm=[]∨inlOk I o.op=true) (hd:∀ i,o.dst=some i→i<C.nt) {K:AF→AM→Nat→Prop} (h:opx τ F o fr mem nx K) (hs:Sat C ρ fr mem nx a w) :
  o.wp P a w (fun a' w'=>∃ fr' mem' nx' ρ',K fr' mem' nx'∧Sat C ρ' fr' mem' nx' a' w'∧ExtS ρ nx ρ' nx'∧∀ d,o.dst≠some d→lk fr' d=lk fr d) Q:=by
 have h':(match vx τ fr mem o.op with | some v=>putK o.dst v fr fun fr'=>K fr' mem nx | none=>actx τ F o.dst o.op fr mem nx K):=by cases o;exact h
 cases hv:vx τ fr mem o.op with
 | none=>rw[hv] at h';exact actx_sound hτ hF hI hd h' hs
 | some v=>
  rw[hv] at h'
  simp only[putK_eq] at h'
  obtain⟨h1,h2⟩:=vx_run (P:=P) hτ hs.fok.left (fun i b hi=>hs.blk i b (lk_app hi)) hv
  exact wp_value h1 ⟨_,_,_,_,h',hs.put hd h2,ExtS.refl _ _,fun _ q=>lk_putF q⟩
end
def fvx (τ:TT) (fr:AF) (memS:AM) (o:Op) (K:Value→Prop):Prop:=match vx τ fr memS o with
 | some v=>K v
 | none=>(match o with
  | .indexAddr t x i=>(match ev fr x,ev fr i,lk τ t with
   | some (.slice (some ⟨ab,ao,as_⟩) n _),some (.int _ k),some ti=>(match lk memS ab with
    | some (.row _ sz n' _)=>(match ao,as_,ti.sl,ti.esz,Nat.beq ti.esz sz with
     | 0,none,true,_+1,true=>(n≤n'∧0≤k∧k<n)∧K (.pointer (some ⟨ab,0,some k.toNat⟩))
     | _,_,_,_,_=>False)
    | _=>False)
   | _,_,_=>False)
  | .slice t x none (some y) none=>(match ev fr x,ev fr y,lk τ t with
   | some (.slice A _ cap),some (.int _ h),some ti=>(match ti.sl,ti.esz with
    | true,_+1=>(0≤h∧h≤cap)∧K (.slice A h.toNat cap)
    | _,_=>False)
   | _,_,_=>False)
  | .binOp bo _ x y _=>(match ev fr x,ev fr y with
   | some (.int k b),some (.int k' c)=>(match bo with
    | .shl=>0≤c∧K (.int k (k.wrap (b * 2 ^ min c.toNat k.bits)))
    | .shr=>0≤c∧K (.int k (b.fdiv (2 ^ min c.toNat k.bits)))
    | .quo=>(k=k'∧c≠0)∧K (.int k (k.wrap (b.tdiv c)))
    | .rem=>(k=k'∧c≠0)∧K (.int k (b.tmod c))
    | _=>False)
   | _,_=>False)
  | _=>False)
section
variable {P:Program} {τ:TT} {C:Ctx} {ρ:Nat→Pl} {fr:AF} {memS:AM} {nx:Nat} {a:Act}
theorem fvx_yields (hτ:TTok P τ) {o:Oper} {K:Value→Prop} (hf:FrOk ρ fr nx a) (hlt:∀ i b,lk memS i=some b→i<nx∧(ρ i).res=false) {H:World→Prop} (hH:∀ w,H w→∀ i b,lk memS i=some b→BlkOk C ρ nx i w b) {w0:World} (h0:H w0) (h:fvx τ fr memS o.op K) :
  ∃ v,K v∧okV ρ nx v∧∀ w,H w→(execOp a.eval o).run P w=.ok (.value (den ρ v)) w:=by
 unfold fvx at h
 cases hv:vx τ fr memS o.op with
 | some v=>rw[hv] at h;exact⟨v,h,(vx_run (P:=P) hτ hf (hH w0 h0) hv).2,fun w hw=>(vx_run (P:=P) hτ hf (hH w hw) hv).1⟩
 | none=>
  rw[hv] at h
  obtain⟨dst,op,type,pos,after,guard⟩:=o
  cases op<;>simp only at h<;>first | exact h.elim | skip
  case slice t x lo hi mx=>
   cases lo with
   | some _=>exact h.elim
   | none=>
    cases mx with
    | some _=>cases hi<;>exact h.elim
    | none=>
     cases hi with
     | none=>exact h.elim
     | some y=>
      try simp only at h
      cases hx:ev fr x with
      | none=>rw[hx] at h;exact h.elim
      | some p=>
       rw[hx] at h
       cases p<;>(try simp only at h)<;>first | exact h.elim | skip
       rename_i A n cap
       cases hy:ev fr y with
       | none=>rw[hy] at h;exact h.elim
       | some q=>
        rw[hy] at h
        cases q<;>(try simp only at h)<;>first | exact h.elim | skip
        rename_i k hh
        cases hti:lk τ t with
        | none=>rw[hti] at h;exact h.elim
        | some ti=>
         rw[hti] at h
         try simp only at h
         split at h
         ·rename_i s hsl hesz
          obtain⟨⟨h0,h1⟩,hK⟩:=h
          have r:=fun w=>slice_run (P:=P) (w:=w) hτ hf hx hy hti hsl hesz h0 h1
          refine⟨_,hK,(r w0).2,fun w hw=>?_⟩
          simp[execOp,(r w).1]
         ·exact h.elim
  case indexAddr t x i=>
   cases hx:ev fr x with
   | none=>rw[hx] at h;exact h.elim
   | some p=>
    rw[hx] at h
    cases p<;>first | exact h.elim | skip
    rename_i A n cp
    cases A with
    | none=>exact h.elim
    | some ad=>
     cases hy:ev fr i with
     | none=>rw[hy] at h;exact h.elim
     | some q=>
      rw[hy] at h
      cases q<;>first | exact h.elim | skip
      rename_i kk k
      cases hti:lk τ t with
      | none=>rw[hti] at h;exact h.elim
      | some ti=>
       rw[hti] at h
       simp only at h
       cases hb:lk memS ad.block with
       | none=>rw[hb] at h;exact h.elim
       | some bl=>
        rw[hb] at h
        cases bl with
        | box bt cs=>exact h.elim
        | row bt sz n' el=>
         simp only at h
         split at h
         ·rename_i s hoff hsp hsl hesz hbe
          obtain⟨⟨hn,hk0,hkn⟩,hK⟩:=h
          have hsz:ti.esz=sz:=Nat.eq_of_beq_eq_true hbe
          obtain⟨h1,h2⟩:=ev_ok hf hx
          obtain⟨h3,-⟩:=ev_ok hf hy
          obtain⟨⟨hs1,hs2⟩,-,hrow⟩:=hH w0 h0 _ _ hb
          rcases hrow with h0 | ⟨b,off,hA,hlt2,hc⟩
          ·omega
          ·obtain⟨e,hu,he⟩:=(hτ t ti hti).slice hsl
           have hok:okV ρ nx (.pointer (some ⟨ad.block,0,some k.toNat⟩)):=⟨hlt _ _ hb,⟨b,off,hA⟩,fun j hj=>by cases hj;show k.toNat<(ρ ad.block).n;rw[hs2];omega⟩
           have e1:den ρ (.slice (some ad) n cp)=.slice (some ⟨b,off,none⟩) n cp:=by simp[den,den2,den1,dA_some hA,hsp,hoff]
           have e2:den ρ (.pointer (some ⟨ad.block,0,some k.toNat⟩))=.pointer (some ⟨b,off+k.toNat * sz,none⟩):=by simp[den,den2,den1,dA_some (a:=⟨ad.block,0,some k.toNat⟩) hA,hs1]
           rw[e1] at h1
           have h3':a.eval i=.int kk k:=h3
           refine⟨_,hK,hok,fun w hw=>?_⟩
           rw[e2]
           cases hi:P.info? e with
           | none=>simp[szOf,hi] at he;omega
           | some ii=>
            have hes:ii.size=sz:=by rw[← hsz,← he];simp[szOf,hi]
            simp[execOp,h1,h3',Instr.indexAt,asIntOf,run_underlying hu,hk0,hkn,sizeOf,typeInfo,hi,hes,Addr.add_mid]
         ·exact h.elim
  case binOp bo t x y yt=>
   cases hx:ev fr x with
   | none=>rw[hx] at h;exact h.elim
   | some p=>
    rw[hx] at h
    cases p<;>first | exact h.elim | skip
    rename_i k b
    cases hy:ev fr y with
    | none=>rw[hy] at h;exact h.elim
    | some q=>
     rw[hy] at h
     cases q<;>first | exact h.elim | skip
     rename_i k' c
     have h1:a.eval x=.int k b:=(ev_ok hf hx).1
     have h2:a.eval y=.int k' c:=(ev_ok hf hy).1
     cases bo<;>simp only at h<;>first | exact h.elim | skip
     case quo=>
      obtain⟨⟨rfl,hc⟩,hK⟩:=h
      refine⟨_,hK,trivial,fun w hw=>?_⟩
      show _=Result.ok (Next.value (.int k (k.wrap (b.tdiv c)))) w
      simp[execOp,h1,h2,eqGuard,binOp,Op.intDiv,hc]
     case rem=>
      obtain⟨⟨rfl,hc⟩,hK⟩:=h
      refine⟨_,hK,trivial,fun w hw=>?_⟩
      show _=Result.ok (Next.value (.int k (b.tmod c))) w
      simp[execOp,h1,h2,eqGuard,binOp,Op.intDiv,hc]
     case shl=>
      obtain⟨hc,hK⟩:=h
      refine⟨_,hK,trivial,fun w hw=>?_⟩
      show _=Result.ok (Next.value (.int k (k.wrap (b * 2 ^ min c.toNat k.bits)))) w
      simp[execOp,h1,h2,eqGuard,binOp,Op.shift,show ¬ c<0 by omega]
     case shr=>
      obtain⟨hc,hK⟩:=h
      refine⟨_,hK,trivial,fun w hw=>?_⟩
      show _=Result.ok (Next.value (.int k (b.fdiv (2 ^ min c.toNat k.bits)))) w
      simp[execOp,h1,h2,eqGuard,binOp,Op.shift,show ¬ c<0 by omega]
end
end Go.Proofs.Ytdjkeplekchfdaa
namespace Go.Proofs.Ytdjkeplekchfdaa
open Go.RowKit
def Later (B:Nat) (w:World):Type:={ w':World // Below B w w' }
def Later.world {B:Nat} {w:World} (x:Later B w):World:=x.1
theorem Later.below {B:Nat} {w:World} (x:Later B w):Below B w x.world:=x.2
theorem Later.cell {B:Nat} {w:World} (x:Later B w) {b o:Nat} (hb:b<B):x.world.cell? ⟨b,o,none⟩=w.cell? ⟨b,o,none⟩:=x.below.cell (p:=⟨b,o,none⟩) hb
section
variable {P:Program}
theorem wp_region_below (B:Nat) {id:Nat} {Q:Exit→Act→World→Prop} {a:Act} {w:World} {l:List Oper} (hm:P.follows .mixedOrders=true) (hB:Region.lexB .any l.toArray=true)
  (h:wpQuiet P l.toArray (fun w'=>∃ x:Later B w,w'=x.world) (fun a'=>∀ w',(∃ x:Later B w,w'=x.world)→Q .normal a' w') l a):(Code.region id l.toArray true).wp P Q a w:=
 wp_region_quiet (C:=fun w'=>∃ x:Later B w,w'=x.world) hm hB ⟨⟨w.drew,(Below.refl B w).drew⟩,rfl⟩ (by simpa using h)
end
end Go.Proofs.Ytdjkeplekchfdaa
namespace Go.Proofs.Ytdjkeplekchfdaa
open Go.RowKit
set_option linter.unusedSimpArgs false
set_option linter.unusedVariables false
section
variable {P:Program} {md:Region.Mode} {ops:Array Oper} {Q:Exit→Act→World→Prop}
theorem wpAny_more:∀ (fuel:Nat) (listed:Array Bool) (a:Act) (w:World),wpAny P md ops Q fuel listed a w→wpAny P md ops Q (fuel+1) listed a w
 | 0,listed,a,w,h=>⟨fun _=>h.2,fun i hi=>by rw[h.1] at hi;cases hi⟩
 | fuel+1,listed,a,w,h=>⟨h.1,fun i hi=>wpOp_mono (fun a' w' h'=>wpAny_more fuel _ a' w' h') (h.2 i hi)⟩
theorem wpAny_much (listed:Array Bool) (a:Act) (w:World) (m:Nat) (h:wpAny P md ops Q m listed a w):∀ fuel,wpAny P md ops Q (fuel+m) listed a w
 | 0=>by simpa using h
 | fuel+1=>by
  have:=wpAny_more _ _ _ _ (wpAny_much listed a w m h fuel)
  rwa[show fuel+m+1=fuel+1+m by omega] at this
def reachB (md:Region.Mode) (ops:Array Oper):Nat→Nat→Nat→Bool
 | 0,_,_=>false
 | n+1,j,i=>match ops[j]? with
  | none=>false
  | some o=>o.after.any fun e=>Region.binds md e&&(e.on==i||reachB md ops n e.on i)
def Dn (md:Region.Mode) (ops:Array Oper) (listed:Array Bool):Prop:=
 ∀ (j:Nat) (o:Oper),ops[j]?=some o→listed.getD j false=true→∀ e ∈ o.after,Region.binds md e=true→listed.getD e.on false=true
theorem reach_listed {listed:Array Bool} (hd:Dn md ops listed):∀ (n j i:Nat),(∀ o,ops[j]?=some o→∀ e ∈ o.after,Region.binds md e=true→listed.getD e.on false=true)→reachB md ops n j i=true→listed.getD i false=true
 | 0,j,i,hp,h=>by simp[reachB] at h
 | n+1,j,i,hp,h=>by
  unfold reachB at h
  cases ho:ops[j]? with
  | none=>simp[ho] at h
  | some o=>
   simp only[ho,Array.any_eq_true] at h
   obtain⟨x,hx,he⟩:=h
   have hm:o.after[x] ∈ o.after:=Array.getElem_mem hx
   simp only[Bool.and_eq_true,Bool.or_eq_true,beq_iff_eq] at he
   have hl:=hp o ho _ hm he.1
   rcases he.2 with h1 | h1
   ·rwa[h1] at hl
   ·exact reach_listed hd n _ i (fun o' ho' e' he' hb'=>hd _ o' ho' hl e' he' hb') h1
theorem getD_set_mono {listed:Array Bool} {i x:Nat} (h:listed.getD x false=true):(listed.setIfInBounds i true).getD x false=true:=by
 by_cases hx:i=x
 ·subst hx
  have hlt:i<listed.size:=by
   rcases Nat.lt_or_ge i listed.size with h' | h'
   ·exact h'
   ·simp[Array.getD,Nat.not_lt.2 h'] at h
  simp[Array.getD,hlt]
 ·rwa[getD_set_ne false hx]
theorem Dn.set_ {listed:Array Bool} (hd:Dn md ops listed) {i:Nat} (hi:i ∈ Region.ready md ops listed):Dn md ops (listed.setIfInBounds i true):=by
 obtain⟨hun,oi,hoi,hall⟩:=mem_ready.1 hi
 intro j o ho hl e he hb
 refine getD_set_mono ?_
 by_cases hji:i=j
 ·subst hji
  rw[hoi] at ho
  cases ho
  exact hall e he hb
 ·rw[getD_set_ne false hji] at hl
  exact hd j o ho hl e he hb
def thenK (K:Act→World→Prop) (Q:Exit→Act→World→Prop):Exit→Act→World→Prop
 | .normal,a,w=>K a w
 | e,a,w=>Q e a w
theorem upon_thenK {o:Oper} {a:Act} {K1:Act→World→Prop} {K:Act→World→Prop} {r:Result Next} (h:o.upon P a K1 (thenK K Q) r):o.upon P a K1 Q r:=by
 cases r with
 | ok n w'=>
  cases n<;>simp only[Oper.upon] at h ⊢<;>exact h
 | halt x w'=>cases x<;>simp only[Oper.upon] at h ⊢<;>exact h
theorem wpOp_head {head:Array Oper} {k i:Nat} {K K1 K2:Act→World→Prop} {a:Act} {w:World} (hh:∀ i,i<k→head[i]?=ops[i]?) (hg:∀ i o g b,i<k→ops[i]?=some o→o.guard=some (g,b)→g<k) (hi:i<k)
  (h:wpOp P head (thenK K Q) i K1 a w) (hK:∀ a w,K1 a w→K2 a w):wpOp P ops Q i K2 a w:=by
 refine wpOp_mono hK ?_
 unfold wpOp at *
 rw[hh i hi] at h
 cases ho:ops[i]? with
 | none=>simp only[ho] at h ⊢;exact h
 | some o=>
  simp only[ho] at h ⊢
  have hw:Region.wanted o (yielded head a.tmps)=Region.wanted o (yielded ops a.tmps):=by
   unfold Region.wanted
   cases hgu:o.guard with
   | none=>rfl
   | some gb=>
    obtain⟨g,b⟩:=gb
    have:yielded head a.tmps g=yielded ops a.tmps g:=by
     unfold yielded
     rw[hh g (hg i o g b hi ho hgu)]
    simp only[this]
  rw[hw] at h
  split
  ·rename_i hwt
   simp only[hwt,if_true] at h
   exact h.imp upon_thenK id
  ·rename_i hwt
   simp only[hwt] at h
   exact h
theorem extract_getD {listed:Array Bool} {k i:Nat} (d:Bool) (hi:i<k) (hk:k≤listed.size):(listed.extract 0 k).getD i d=listed.getD i d:=by
 have h1:i<listed.size:=by omega
 have h2:i<(listed.extract 0 k).size:=by simp;omega
 have h3:i<min k listed.size:=by omega
 simp[Array.getD,h1,h3]
theorem extract_set {listed:Array Bool} {k i:Nat} (hi:i<k) (hk:k≤listed.size):(listed.setIfInBounds i true).extract 0 k=(listed.extract 0 k).setIfInBounds i true:=by
 apply Array.ext
 ·simp
 ·intro j h1 h2
  have h3:j<listed.size:=by simp at h1;omega
  have h4:j<(listed.extract 0 k).size:=by simpa using h2
  rw[Array.getElem_extract,Array.getElem_setIfInBounds,Array.getElem_setIfInBounds]
  ·have e:(listed.extract 0 k)[j]'h4=listed[j]:=by
    rw[Array.getElem_extract]
    congr 1
    omega
   rw[e]
   simp
  ·exact h4
  ·simpa using h3
theorem wpAny_split {head:Array Oper} {k m n:Nat} {K:Act→World→Prop} (hh:∀ i,i<k→head[i]?=ops[i]?) (hhs:head.size=k) (hkn:k≤n) (hn:ops.size=n)
  (hg:∀ i o g b,i<k→ops[i]?=some o→o.guard=some (g,b)→g<k)
  (hord:∀ i o,i<k→ops[i]?=some o→∀ e ∈ o.after,Region.binds md e=true→e.on<i)
  (hreach:∀ j,k≤j→j<n→∀ i,i<k→reachB md ops n j i=true)
  (hK:∀ a w,K a w→wpAny P md ops Q m (Array.replicate k true++Array.replicate (n-k) false) a w) :
  ∀ (fuel:Nat) (listed:Array Bool) (a:Act) (w:World),listed.size=n→Dn md ops listed→(∀ j,k≤j→listed.getD j false=false)→
   wpAny P md head (thenK K Q) fuel (listed.extract 0 k) a w→wpAny P md ops Q (fuel+m) listed a w:=by
 have hready:∀ (listed:Array Bool),listed.size=n→∀ i,i<k→(i ∈ Region.ready md head (listed.extract 0 k)↔i ∈ Region.ready md ops listed):=by
  intro listed hs i hi
  rw[mem_ready,mem_ready,hh i hi,extract_getD true hi (by omega)]
  constructor
  ·rintro⟨h1,o,ho,h2⟩
   refine⟨h1,o,ho,fun e he hb=>?_⟩
   have:=h2 e he hb
   rwa[extract_getD false (by have:=hord i o hi ho e he hb;omega) (by omega)] at this
  ·rintro⟨h1,o,ho,h2⟩
   refine⟨h1,o,ho,fun e he hb=>?_⟩
   rw[extract_getD false (by have:=hord i o hi ho e he hb;omega) (by omega)]
   exact h2 e he hb
 have hleast:∀ (listed:Array Bool),listed.size=n→∀ i,i<k→listed.getD i false=false→∃ i',i'<k∧i' ∈ Region.ready md ops listed:=by
  intro listed hs i
  induction i using Nat.strongRecOn with
  | _ i ih=>
   intro hi hu
   have hio:∃ o,ops[i]?=some o:=⟨_,Array.getElem?_eq_getElem (by omega)⟩
   obtain⟨o,ho⟩:=hio
   by_cases hall:∀ e ∈ o.after,Region.binds md e=true→listed.getD e.on false=true
   ·refine⟨i,hi,mem_ready.2 ⟨?_,o,ho,hall⟩⟩
    have:i<listed.size:=by omega
    simpa [Array.getD,this] using hu
   ·have hex:∃ e,e ∈ o.after∧Region.binds md e=true∧listed.getD e.on false=false:=by
     refine Classical.byContradiction fun hno=>hall fun e he hb=>?_
     refine Classical.byContradiction fun hl=>hno ⟨e,he,hb,by simpa using hl⟩
    obtain⟨e,he,hb,hl⟩:=hex
    have hlt:=hord i o hi ho e he hb
    exact ih e.on hlt (by omega) hl
 intro fuel
 induction fuel with
 | zero=>
  intro listed a w hs hd ht h
  have hall:∀ i,i<k→listed.getD i false=true:=by
   intro i hi
   refine Classical.byContradiction fun hu=>?_
   obtain⟨i',hi',hr⟩:=hleast listed hs i hi (by simpa using hu)
   have:=(hready listed hs i' hi').2 hr
   rw[h.1] at this
   cases this
  have hL:listed=Array.replicate k true++Array.replicate (n-k) false:=by
   apply Array.ext
   ·simp;omega
   ·intro j h1 h2
    by_cases hj:j<k
    ·have:=hall j hj
     rw[Array.getElem_append_left (by simpa using hj)]
     simpa [Array.getD,h1] using this
    ·have:=ht j (by omega)
     rw[Array.getElem_append_right (by simp;omega)]
     simpa [Array.getD,h1] using this
  rw[hL,Nat.zero_add]
  exact hK _ _ h.2
 | succ f ih=>
  intro listed a w hs hd ht h
  by_cases hall:∀ i,i<k→listed.getD i false=true
  ·have hL:listed=Array.replicate k true++Array.replicate (n-k) false:=by
    apply Array.ext
    ·simp;omega
    ·intro j h1 h2
     by_cases hj:j<k
     ·have:=hall j hj
      rw[Array.getElem_append_left (by simpa using hj)]
      simpa [Array.getD,h1] using this
     ·have:=ht j (by omega)
      rw[Array.getElem_append_right (by simp;omega)]
      simpa [Array.getD,h1] using this
   have hr:Region.ready md head (listed.extract 0 k)=[]:=by
    refine List.eq_nil_iff_forall_not_mem.2 fun i hi=>?_
    obtain⟨hu,o,ho,_⟩:=mem_ready.1 hi
    have hik:i<k:=by
     rw[← hhs]
     exact (Array.getElem?_eq_some_iff.1 ho).1
    rw[extract_getD true hik (by omega)] at hu
    have:=hall i hik
    have hlt:i<listed.size:=by omega
    simp[Array.getD,hlt] at this hu
    rw[this] at hu
    cases hu
   have hk:=h.1 hr
   rw[hL]
   exact wpAny_much _ _ _ m (hK _ _ hk) (f+1)
  ·have hex:∃ i,i<k∧listed.getD i false=false:=by
    refine Classical.byContradiction fun hno=>hall fun i hi=>?_
    refine Classical.byContradiction fun hl=>hno ⟨i,hi,by simpa using hl⟩
   obtain⟨i0,hi0,hu0⟩:=hex
   obtain⟨i1,hi1,hr1⟩:=hleast listed hs i0 hi0 hu0
   rw[show f+1+m=f+m+1 by omega]
   refine⟨fun h0=>(by rw[h0] at hr1;cases hr1),fun i hi=>?_⟩
   obtain⟨hu,o,ho,hp⟩:=mem_ready.1 hi
   have hin:i<n:=by rw[← hn];exact (Array.getElem?_eq_some_iff.1 ho).1
   have hik:i<k:=by
    rcases Nat.lt_or_ge i k with h' | h'
    ·exact h'
    ·have:=reach_listed hd n i i0 (fun o' ho' e he hb=>by rw[ho] at ho';cases ho';exact hp e he hb) (hreach i h' hin i0 hi0)
     rw[hu0] at this
     cases this
   have h1:=h.2 i ((hready listed hs i hik).2 hi)
   refine wpOp_head hh hg hik h1 fun a' w' h'=>?_
   refine ih (listed.setIfInBounds i true) a' w' (by simpa using hs) (hd.set_ hi) ?_ ?_
   ·intro j hj
    rw[getD_set_ne false (by omega)]
    exact ht j hj
   ·rw[extract_set hik (by omega)]
    exact h'
end
section
variable {P:Program} {Q:Exit→Act→World→Prop}
def lastB (l:List Oper) (k:Nat):Bool:=
 decide (k≤l.length) &&
 ((List.range k).all fun i=>match l[i]? with
  | none=>true
  | some o=>(o.after.all fun e=>!Region.binds .any e||decide (e.on<i))&&(match o.guard with | none=>true | some (g,_)=>decide (g<k))) &&
 ((List.range l.length).all fun j=>decide (j<k)||(List.range k).all fun i=>reachB .any l.toArray l.length j i) &&
 Region.seqB .any l.toArray (l.drop k).length k (Array.replicate k true++Array.replicate (l.length-k) false)
theorem wp_region_last {l:List Oper} {id:Nat} {a:Act} {w:World} (k:Nat) (hm:P.follows .mixedOrders=true) (hB:lastB l k=true)
  (h:wpAny P .any (l.take k).toArray (thenK (fun a w=>wpList P l.toArray Q (l.drop k) a w) Q) k (Array.replicate k false) a { w with drawn:=w.drawn+1 }) :
  (Code.region id l.toArray true).wp P Q a w:=by
 simp only[lastB,Bool.and_eq_true,List.all_eq_true,decide_eq_true_eq,List.mem_range,Bool.or_eq_true] at hB
 obtain⟨⟨⟨hk,h1⟩,h2⟩,h4⟩:=hB
 have hops:∀ i:Nat,l.toArray[i]?=l[i]?:=fun i=>List.getElem?_toArray
 refine wp_region_any hm ?_
 have key:=wpAny_split (P:=P) (md:=.any) (ops:=l.toArray) (Q:=Q) (head:=(l.take k).toArray) (k:=k) (m:=l.length-k) (n:=l.length)
  (K:=fun a w=>wpList P l.toArray Q (l.drop k) a w)
  (fun i hi=>by simp[List.getElem?_take,hi]) (by simp;omega) hk (by simp)
  (fun i o g b hi ho hgu=>by
   have:=h1 i hi
   rw[← hops,ho] at this
   simp only[hgu,Bool.and_eq_true,decide_eq_true_eq] at this
   exact this.2)
  (fun i o hi ho e he hb=>by
   have:=h1 i hi
   rw[← hops,ho] at this
   simp only[Bool.and_eq_true,Array.all_eq_true_iff_forall_mem] at this
   have h5:=this.1 e he
   simpa [hb] using h5)
  (fun j hj hjn i hi=>(h2 j hjn).resolve_left (by omega) i hi)
  (fun a w hq=>by
   have:=wpAny_of_seq (md:=.any) (ops:=l.toArray) (Q':=Q) (l.drop k) k (Array.replicate k true++Array.replicate (l.length-k) false) a w (fun j=>by simp[List.getElem?_drop]) h4 hq
   simpa using this)
  k (Array.replicate l.length false) a { w with drawn:=w.drawn+1 } (by simp) (fun j o ho hl=>by simp[Array.getD] at hl) (fun j hj=>by simp[Array.getD]) (by
   have e:(Array.replicate l.length false).extract 0 k=Array.replicate k false:=by
    apply Array.ext
    ·simp;omega
    ·intro j h1 h2;simp
   rw[e]
   exact h)
 have e2:k+(l.length-k)=l.toArray.size:=by simp;omega
 rw[e2] at key
 simpa using key
theorem wpOp_act {ops:Array Oper} {i:Nat} {o:Oper} {K:Act→World→Prop} {a:Act} {w:World} (ho:ops[i]?=some o) (hg:o.guard=none) (h:o.wp P a w K Q):wpOp P ops Q i K a w:=by
 unfold wpOp
 simp only[ho]
 rw[if_pos (by simp[Region.wanted,hg])]
 exact .inl h
theorem wpOp_actG {ops:Array Oper} {i:Nat} {o:Oper} {K:Act→World→Prop} {a:Act} {w:World} (ho:ops[i]?=some o) (hg:Region.wanted o (yielded ops a.tmps)=true) (h:o.wp P a w K Q):wpOp P ops Q i K a w:=by
 unfold wpOp
 simp only[ho]
 rw[if_pos hg]
 exact .inl h
def wpSeqH (P:Program) (ops:Array Oper) (Q:Exit→Act→World→Prop) (S:World→Prop):List (Nat×Bool)→Act→World→Prop
 | [],a,w=>Q .normal a w
 | (i,false)::r,a,w=>∃ (o:Oper) (v:Value),ops[i]?=some o∧(∀ c a w,Q (.panic c) (a.put o.dst v) w→Q (.panic c) a w)∧YieldsIf P ops S o v a∧wpSeqH P ops Q S r (a.put o.dst v) w
 | (i,true)::r,a,w=>wpOp P ops Q i (fun a' w'=>S w'∧wpSeqH P ops Q S r a' w') a w
def seqHB (ops:Array Oper):List (Nat×Bool)→Array Bool→Bool
 | [],listed=>(Region.ready .any ops listed).isEmpty
 | (i,false)::r,listed=>Region.free .any ops listed i&&(Region.ready .any ops listed).contains i&&seqHB ops r (listed.setIfInBounds i true)
 | (i,true)::r,listed=>decide (Region.ready .any ops listed=[i])&&seqHB ops r (listed.setIfInBounds i true)
theorem wpAnyH_of_seq {ops:Array Oper} {S:World→Prop} (hs:Region.noSelect ops=true):∀ (σ:List (Nat×Bool)) (listed:Array Bool) (a:Act) (w:World),seqHB ops σ listed=true→S w→
  wpSeqH P ops Q S σ a w→wpAnyH P .any ops Q S σ.length listed a w
 | [],listed,a,w,hB,hS,h=>wpAnyH_done (by simpa [seqHB] using hB) h _
 | (i,false)::r,listed,a,w,hB,hS,h=>by
  simp only[seqHB,Bool.and_eq_true] at hB
  obtain⟨⟨h1,h2⟩,h3⟩:=hB
  obtain⟨o,v,ho,hQ,hy,hr⟩:=h
  exact wpAnyH_take ho hs h1 h2 hQ hy hS (wpAnyH_of_seq hs r _ _ _ h3 hS hr)
 | (i,true)::r,listed,a,w,hB,hS,h=>by
  simp only[seqHB,Bool.and_eq_true,decide_eq_true_eq] at hB
  refine wpAnyH_all hB.1 (by simp) fun j hj=>?_
  obtain rfl:j=i:=by simpa using hj
  exact wpOp_mono (fun a' w' ⟨hS',h'⟩=>⟨hS',wpAnyH_of_seq hs r _ _ _ hB.2 hS' h'⟩) h
end
end Go.Proofs.Ytdjkeplekchfdaa
