import Derived.Test.YtchhdflealgkaaaGreatPo02
import Derived.Deep.AppendSrc
import Derived.Laws.MakeOwn
namespace Go.Proofs.YtchhdflealgkaaaGreat
open Go.RowKit
set_option linter.unusedSimpArgs false
set_option linter.unusedVariables false
section
variable {P:Program} {τ:TT} {F:FT} {C:Ctx} {ρ:Nat→Pl} {fr:AF} {mem:AM} {nx:Nat} {a:Act} {w:World} {Q:Exit→Act→World→Prop}
theorem Sat.newBox (h:Sat C ρ fr mem nx a w) (t:TypeId) {cs:List Value} (hcs:∀ v ∈ cs,ok1 ρ nx v) :
  Sat C (setPl ρ nx ⟨some ⟨w.heap.size,0,none⟩,0,0,false,noSub⟩) fr ((nx,.box t cs)::mem) (nx+1) a (w.alloc (.cells (cs.map (den1 ρ)).toArray t)):=by
 have hr:∀ i,i<nx→(ρ i).res=false→setPl ρ nx ⟨some ⟨w.heap.size,0,none⟩,0,0,false,noSub⟩ i=ρ i:=fun i hi _=>setPl_lt ρ _ hi
 refine h.add ((Below.refl _ _).alloc (Nat.le_refl _) _) ⟨w.heap.size,by rw[setPl_same],?_,.inl h.rest.size,fun v hv=>ok1_mono hr (Nat.le_succ _) (hcs v hv)⟩ (fun g hg=>by simp at hg;omega) rfl
 have:cs.map (den1 (setPl ρ nx ⟨some ⟨w.heap.size,0,none⟩,0,0,false,noSub⟩))=cs.map (den1 ρ):=List.map_congr_left fun v hv=>den1_congr hr (hcs v hv)
 rw[this]
 exact Blk.new _ _ _
theorem ptr_new (g:Nat):den (setPl ρ nx ⟨some ⟨g,0,none⟩,0,0,false,noSub⟩) (.pointer (some ⟨nx,0,none⟩))=.pointer (some ⟨g,0,none⟩)∧okV (setPl ρ nx ⟨some ⟨g,0,none⟩,0,0,false,noSub⟩) (nx+1) (.pointer (some ⟨nx,0,none⟩)):=by
 refine⟨?_,?_⟩
 ·simp[den,den2,den1,dA_whole,dS_whole,setPl_same]
 ·exact⟨⟨Nat.lt_succ_self _,by simp[setPl_same]⟩,⟨g,0,by simp[setPl_same]⟩,fun k hk=>by cases hk⟩
theorem Sat.newRow (h:Sat C ρ fr mem nx a w) (t ty:TypeId) {sz n:Nat} {el:Nat→List Value} {cells:Array Value} (hel:∀ k,k<n→(el k).length=sz∧∀ v ∈ el k,plain1 v) (hc:∀ k,k<n→∀ j v,(el k)[j]?=some v→cells[k * sz+j]?=some v) :
  Sat C (setPl ρ nx ⟨some ⟨w.heap.size,0,none⟩,sz,n,false,noSub⟩) fr ((nx,.row t sz n el)::mem) (nx+1) a (w.alloc (.cells cells ty)):=by
 have hB:=Blk.new w ty cells
 refine h.add ((Below.refl _ _).alloc (Nat.le_refl _) _) ⟨by rw[setPl_same];exact⟨rfl,rfl⟩,hel,.inr ⟨w.heap.size,0,by rw[setPl_same],⟨hB.lt,fun _=>⟨rfl,.inl h.rest.size,ty,cells,hB⟩,fun _=>.inl h.rest.size⟩,fun k hk j v hv=>?_⟩⟩ (fun g hg=>by simp at hg;omega) rfl
 rw[Nat.zero_add,hB.cell]
 exact hc k hk j v hv
theorem slc_new (g sz n m c:Nat):den (setPl ρ nx ⟨some ⟨g,0,none⟩,sz,n,false,noSub⟩) (.slice (some ⟨nx,0,none⟩) m c)=.slice (some ⟨g,0,none⟩) m c∧okV (setPl ρ nx ⟨some ⟨g,0,none⟩,sz,n,false,noSub⟩) (nx+1) (.slice (some ⟨nx,0,none⟩) m c):=by
 refine⟨?_,?_⟩
 ·simp[den,den2,den1,dA_whole,dS_whole,setPl_same]
 ·exact⟨Nat.lt_succ_self _,by simp[setPl_same]⟩
theorem TIok.elt {t:TypeId} {ti:TI} (h:TIok P t ti) {n:Nat} (he:ti.eb=n+1):P.underlying t=some (.slice ti.elt)∧∀ i,P.info? ti.elt=some i→i.bytes=n+1:=by
 have:=h.elem
 unfold elemB at this
 rw[he] at this
 simp only[Bool.and_eq_true] at this
 obtain⟨h1,h2⟩:=this
 refine⟨?_,fun i hi=>?_⟩
 ·split at h1
  ·rename_i e hu
   rw[hu,Nat.eq_of_beq_eq_true h1]
  ·cases h1
 ·rw[hi] at h2
  exact Nat.eq_of_beq_eq_true h2
theorem made_at {z:Array Value} {n sz k j:Nat} (hz:z.size=sz) (hk:k<n) (hj:j<sz):(madeCells z (n * sz))[k * sz+j]?=z[j]?:=by
 have hlt:k * sz+j<n * sz:=by
  have:=Nat.mul_le_mul_right sz (show k+1≤n by omega)
  rw[Nat.add_mul] at this
  omega
 have hm:(k * sz+j) % sz=j:=by rw[Nat.add_comm,Nat.add_mul_mod_self_right,Nat.mod_eq_of_lt hj]
 simp only[madeCells,Array.getElem?_map,Array.getElem?_range,hlt,if_true,Option.map_some,hz,hm]
 rw[Array.getElem?_eq_getElem (by omega),getElem!_pos z j (by omega)]
theorem fill_rows (hf:FrOk ρ fr nx a) {sz:Nat}:∀ (parts:List (Nat×Operand)) (p:Nat) (rs:List (List Value)) (base:Array Value),rowsx fr sz p parts=some rs→(p+rs.length) * sz≤base.size→
  ∃ out,Instr.fill (fun i=>some (i * sz,sz)) base (parts.map fun q=>(q.1,a.eval q.2))=some out∧(∀ q,q<p * sz→out[q]?=base[q]?)∧(∀ r ∈ rs,r.length=sz∧∀ v ∈ r,plain1 v)∧∀ k j v,k<rs.length→(rs.getD k [])[j]?=some v→out[(p+k) * sz+j]?=some v
 | [],p,rs,base,h,hsz=>by
  simp[rowsx] at h
  subst h
  exact⟨base,rfl,fun _ _=>rfl,(fun r hr=>absurd hr (List.not_mem_nil)),fun k j v hk=>absurd hk (Nat.not_lt_zero _)⟩
 | (i,x)::r,p,rs,base,h,hsz=>by
  simp only[rowsx] at h
  split at h
  ·rename_i v hi hx
   split at h
   ·rename_i hl hat hpl
    have hl':(cellsOf v).length=sz:=by simpa using hl
    cases hr:rowsx fr sz (p+1) r with
    | none=>rw[hr] at h;simp at h
    | some rs'=>
     rw[hr] at h
     simp at h
     subst h
     obtain rfl:i=p:=Nat.eq_of_beq_eq_true hi
     obtain⟨h1,h2⟩:=ev_ok hf hx
     have hplain:∀ u ∈ cellsOf v,plain1 u:=fun u hu=>plB_ok (List.all_eq_true.1 hpl u hu)
     have hcs:(den ρ v).cells=(cellsOf v).toArray:=by
      rw[cells_den' (notTuple hat)]
      congr 1
      conv=>rhs;rw[← List.map_id (cellsOf v)]
      exact List.map_congr_left fun u hu=>den1_plain (hplain u hu)
     simp only[List.length_cons] at hsz
     have hb:i * sz+sz≤base.size:=by
      have:=Nat.mul_le_mul_right sz (show i+1≤i+(rs'.length+1) by omega)
      rw[Nat.add_mul] at this
      omega
     have hb2:putL base (i * sz) (cellsOf v)=(den ρ v).cells.zipIdx.foldl (fun cs (c:Value×Nat)=>cs.setIfInBounds (i * sz+c.2) c.1) base:=by
      rw[hcs]
      have:=zip_putL (i * sz) (cellsOf v) 0 base
      rw[Nat.add_zero] at this
      rw[← this,← Array.foldl_toList,Array.toList_zipIdx]
     have hsize:(putL base (i * sz) (cellsOf v)).size=base.size:=putL_size _ _ _
     have hsz2:(i+1+rs'.length) * sz≤(putL base (i * sz) (cellsOf v)).size:=by
      rw[hsize,show i+1+rs'.length=i+(rs'.length+1) by omega]
      exact hsz
     obtain⟨out,g1,g2,g3,g4⟩:=fill_rows hf r (i+1) rs' (putL base (i * sz) (cellsOf v)) hr hsz2
     refine⟨out,?_,fun q hq=>?_,fun r' hr'=>?_,fun k j u hk hu=>?_⟩
     ·rw[List.map_cons]
      simp only
      rw[Instr.fill]
      simp only[h1]
      rw[if_neg (by rw[hcs];simp[hl'];omega),← hb2]
      exact g1
     ·rw[g2 q (by rw[Nat.add_mul];omega),putL_at,if_neg (by omega)]
     ·rcases List.mem_cons.1 hr' with rfl | hr'
      ·exact⟨hl',hplain⟩
      ·exact g3 r' hr'
     ·cases k with
      | zero=>
       simp only[List.getD_cons_zero] at hu
       have hj:j<sz:=by rw[← hl'];exact (List.getElem?_eq_some_iff.1 hu).1
       rw[Nat.add_zero,g2 _ (by rw[Nat.add_mul];omega),putL_at,if_pos (by omega),Nat.add_sub_cancel_left]
       exact hu
      | succ k=>
       simp only[List.getD_cons_succ,List.length_cons] at hu hk
       have:=g4 k j u (by omega) hu
       rw[show i+(k+1)=i+1+k by omega]
       exact this
   ·simp at h
  ·simp at h
/-! append -/
def flatE (el:Nat→List Value) (n:Nat):List Value:=(List.range n).flatMap el
theorem flatE_succ (el:Nat→List Value) (n:Nat):flatE el (n+1)=flatE el n++el n:=by simp[flatE,List.range_succ]
theorem flatE_len {el:Nat→List Value} {sz:Nat}:∀ {n:Nat},(∀ k,k<n→(el k).length=sz)→(flatE el n).length=n * sz
 | 0,_=>by simp[flatE]
 | n+1,h=>by rw[flatE_succ,List.length_append,flatE_len fun k hk=>h k (by omega),h n (by omega),Nat.add_mul,Nat.one_mul]
theorem flatE_get {el:Nat→List Value} {sz:Nat}:∀ {n:Nat},(∀ k,k<n→(el k).length=sz)→∀ j v,(flatE el n)[j]?=some v→∃ k i,k<n∧i<sz∧j=k * sz+i∧(el k)[i]?=some v
 | 0,_,j,v,h=>by simp[flatE] at h
 | n+1,hs,j,v,h=>by
  rw[flatE_succ] at h
  have hl:=flatE_len (n:=n) fun k hk=>hs k (by omega)
  by_cases hj:j<n * sz
  ·rw[List.getElem?_append_left (by omega)] at h
   obtain⟨k,i,h1,h2,h3,h4⟩:=flatE_get (fun k hk=>hs k (by omega)) j v h
   exact⟨k,i,by omega,h2,h3,h4⟩
  ·rw[List.getElem?_append_right (by omega),hl] at h
   have hi:=(List.getElem?_eq_some_iff.1 h).1
   rw[hs n (by omega)] at hi
   exact⟨n,j-n * sz,by omega,hi,by omega,h⟩
theorem flatE_at {el:Nat→List Value} {sz:Nat}:∀ {n:Nat},(∀ k,k<n→(el k).length=sz)→∀ k i v,k<n→(el k)[i]?=some v→(flatE el n)[k * sz+i]?=some v
 | 0,_,k,i,v,hk,_=>by omega
 | n+1,hs,k,i,v,hk,h=>by
  rw[flatE_succ]
  have hl:=flatE_len (n:=n) fun k hk=>hs k (by omega)
  have hi:i<sz:=by rw[← hs k hk];exact (List.getElem?_eq_some_iff.1 h).1
  by_cases hkn:k<n
  ·rw[List.getElem?_append_left]
   ·exact flatE_at (fun k hk=>hs k (by omega)) k i v hkn h
   ·rw[hl]
    have:=Nat.mul_le_mul_right sz (show k+1≤n by omega)
    rw[Nat.add_mul] at this
    omega
  ·obtain rfl:k=n:=by omega
   rw[List.getElem?_append_right (by omega),hl,Nat.add_sub_cancel_left]
   exact h
theorem flatE_mem {el:Nat→List Value} {n:Nat} {v:Value} (h:v ∈ flatE el n):∃ k,k<n∧v ∈ el k:=by
 obtain⟨k,hk,hv⟩:=List.mem_flatMap.1 h
 exact⟨k,List.mem_range.1 hk,hv⟩
theorem setCells_app (g:Nat):∀ (a b:List Value) (w:World) (o:Nat),w.setCells g o (a++b)=(w.setCells g o a).setCells g (o+a.length) b
 | [],b,w,o=>by simp[World.setCells]
 | v::a,b,w,o=>by
  rw[List.cons_append,World.setCells,setCells_app g a b,World.setCells,List.length_cons]
  congr 1
  omega
theorem Sat.storeRows {r:Nat} {t:TypeId} {sz n len:Nat} {el2:Nat→List Value} {g:Nat} (ho:ownT t=true) (hA:(ρ r).A=some ⟨g,0,none⟩):∀ (m:Nat) {el:Nat→List Value} {mem:AM} {w:World},Sat C ρ fr mem nx a w→lk mem r=some (.row t sz n el)→len+m≤n→(∀ k,k<m→(el2 k).length=sz∧∀ v ∈ el2 k,plain1 v)→
  ∃ el',Sat C ρ fr ((r,.row t sz n el')::mem) nx a (w.setCells g (len * sz) (flatE el2 m))∧(∀ k,k<m→el' (len+k)=el2 k)∧∀ k,¬ (len≤k∧k<len+m)→el' k=el k
 | 0,el,mem,w,hs,hl,hn,h2=>⟨el,by
   have:flatE el2 0=[]:=rfl
   rw[this]
   exact hs.less (fun _ _ h=>h) (fun i b h=>by
    rw[List.cons_append] at h
    rcases lk_cons h with⟨rfl,rfl⟩ | ⟨_,h⟩
    ·exact lk_app hl
    ·exact h),fun k hk=>by omega,fun k _=>rfl⟩
 | m+1,el,mem,w,hs,hl,hn,h2=>by
  obtain⟨el1,hs1,e1,e2⟩:=Sat.storeRows (len:=len) (el2:=el2) ho hA m hs hl (by omega) (fun k hk=>h2 k (by omega))
  have hlen:=flatE_len (el:=el2) (n:=m) fun k hk=>(h2 k (by omega)).1
  have hl1:lk ((r,ABlk.row t sz n el1)::mem) r=some (.row t sz n el1):=lk_same _ _ _
  have hk1:(el1 (len+m)).length=sz:=by
   obtain⟨-,hpl,-⟩:=hs1.blk r _ (lk_app hl1)
   exact (hpl (len+m) (by omega)).1
  have hput:putN 0 (el2 m) (el1 (len+m))=some (el2 m):=by
   have:∀ (u v:List Value),u.length=v.length→putN 0 u v=some u:=by
    intro u
    induction u with
    | nil=>intro v hv;cases v<;>simp at hv;rfl
    | cons x u ih=>intro v hv;cases v with
     | nil=>simp at hv
     | cons y v=>simp only[putN];rw[ih v (by simpa using hv)]
   exact this _ _ (by rw[hk1,(h2 m (by omega)).1])
  obtain⟨g',hA',-,hth,hs2⟩:=hs1.storeRow hl1 ho (show len+m<n by omega) hput (h2 m (by omega)).2
  rw[hA] at hA'
  cases hA'
  have hdv:(el2 m).map (den1 ρ)=el2 m:=by
   conv=>rhs;rw[← List.map_id (el2 m)]
   exact List.map_congr_left fun v hv=>den1_plain ((h2 m (by omega)).2 v hv)
  rw[hdv] at hs2
  have hel:∀ k',setEl el1 (len+m) (el2 m) k'=if k'=len+m then el2 m else el1 k':=fun k'=>by
   unfold setEl
   by_cases hkk:k'=len+m
   ·subst hkk;rw[Nat.beq_refl,if_pos rfl]
   ·have:Nat.beq k' (len+m)=false:=by
     cases hbb:Nat.beq k' (len+m)
     ·rfl
     ·exact absurd (Nat.eq_of_beq_eq_true hbb) hkk
    rw[this,if_neg hkk]
  refine⟨setEl el1 (len+m) (el2 m),?_,fun k hk=>?_,fun k hk=>?_⟩
  ·have:w.setCells g (len * sz) (flatE el2 (m+1))=(w.setCells g (len * sz) (flatE el2 m)).setCells g ((len+m) * sz+0) (el2 m):=by
    rw[flatE_succ,setCells_app,hlen,Nat.add_zero,Nat.add_mul]
   rw[this]
   refine hs2.less (fun _ _ h=>h) (fun i b h=>?_)
   rw[List.cons_append] at h
   rw[List.cons_append,List.cons_append]
   rcases lk_cons h with⟨rfl,rfl⟩ | ⟨hne,h⟩
   ·exact lk_same _ _ _
   ·rw[lk_ne _ _ hne,lk_ne _ _ hne];exact h
  ·rw[hel]
   by_cases hkm:k=m
   ·subst hkm;rw[if_pos rfl]
   ·rw[if_neg (by omega)];exact e1 k (by omega)
  ·rw[hel,if_neg (by omega)]
   exact e2 k (by omega)
theorem srcx_sound {sz:Nat} {x:Value} {k:Nat→(Nat→List Value)→Prop} (h:srcx mem sz x k) (hs:Sat C ρ fr mem nx a w) {tx e':TypeId} (hk:P.underlying tx=some (.slice e')) :
  ∃ m el2,k m el2∧Src P sz tx (den ρ x) m (flatE el2 m) w∧∀ k,k<m→(el2 k).length=sz∧∀ v ∈ el2 k,plain1 v∧v.oneCell'=true:=by
 cases x<;>first | exact h.elim | skip
 rename_i A m c
 cases A with
 | none=>
  simp only[srcx] at h
  cases m with
  | zero=>exact⟨0,_,h,Src.ofNil w hk c,fun k hk=>by omega⟩
  | succ m=>exact h.elim
 | some ad=>
  obtain⟨q,qo,qs⟩:=ad
  cases qs with
  | none=>
   simp only[srcx] at h
   split at h
   ·rename_i bt sz' n2 el2 hl
    split at h
    ·rename_i hb
     obtain⟨⟨hm,hat⟩,hK⟩:=h
     obtain rfl:sz'=sz:=Nat.eq_of_beq_eq_true hb
     obtain⟨⟨h1,h2⟩,hpl,hrow⟩:=hs.blk q _ (lk_app hl)
     by_cases h0:m=0
     ·subst h0
      cases hA:(ρ q).A with
      | none=>
       refine⟨0,el2,hK,?_,fun k hk=>by omega⟩
       have:den ρ (.slice (some ⟨q,0,none⟩) 0 c)=.slice none 0 c:=by simp[den,den2,den1,dA_whole,dS_whole,hA]
       rw[this]
       exact Src.ofNil w hk c
      | some ad=>
       refine⟨0,el2,hK,?_,fun k hk=>by omega⟩
       have:den ρ (.slice (some ⟨q,0,none⟩) 0 c)=.slice (some ad) 0 c:=by simp[den,den2,den1,dA_whole,dS_whole,hA]
       rw[this]
       exact Src.ofSlice w hk ad 0 c _ (by simp[flatE]) (by simp[flatE]) (by simp[flatE])
     ·rcases hrow with h3 | ⟨b,off,hA,-,hc⟩
      ·omega
      ·have hcell:∀ k,k<m→∀ v ∈ el2 k,v.oneCell'=true:=by
        intro k hk v hv
        have h1:=atom_one (ρ:=ρ) (List.all_eq_true.1 (hat k hk) v hv)
        rw[den1_plain ((hpl k (by omega)).2 v hv)] at h1
        exact h1
       refine⟨m,el2,hK,?_,fun k hk=>⟨(hpl k (by omega)).1,fun v hv=>⟨(hpl k (by omega)).2 v hv,hcell k hk v hv⟩⟩⟩
       have:den ρ (.slice (some ⟨q,0,none⟩) m c)=.slice (some ⟨b,off,none⟩) m c:=by simp[den,den2,den1,dA_whole,dS_whole,hA]
       rw[this]
       refine Src.ofSlice w hk _ m c _ (flatE_len fun k hk=>(hpl k (by omega)).1) (fun j u hu=>?_) (fun u hu=>?_)
       ·obtain⟨k,i,r1,r2,rfl,r4⟩:=flatE_get (fun k hk=>(hpl k (by omega)).1) j u hu
        rw[Addr.add_mid,← Nat.add_assoc]
        exact hc k (by omega) i u r4
       ·obtain⟨k,hk,hv⟩:=flatE_mem hu
        exact hcell k hk u hv
    ·exact h.elim
   ·exact h.elim
  | some k0=>
   simp only[srcx] at h
   split at h
   ·rename_i bt sb hl
    split at h
    ·rename_i hb
     obtain⟨⟨hm,hat⟩,hK⟩:=h
     have hz:(sb k0 qo).sz=sz:=Nat.eq_of_beq_eq_true hb
     obtain⟨-,hf⟩:=hs.blk q _ (lk_app hl)
     obtain⟨hpl,hrow⟩:=hf k0 qo
     have dn:∀ n,den ρ (.slice (some ⟨q,qo,some k0⟩) n c)=.slice ((ρ q).sub k0 qo) n c:=fun n=>by simp[den,den2,den1,dS]
     rw[dn]
     by_cases h0:m=0
     ·subst h0
      refine⟨0,_,hK,?_,fun k hk=>by omega⟩
      cases hA:(ρ q).sub k0 qo with
      | none=>exact Src.ofNil w hk c
      | some ad=>exact Src.ofSlice w hk ad 0 c _ (by simp[flatE]) (by simp[flatE]) (by simp[flatE])
     ·rcases hrow with h3 | ⟨b,off,hA,-,hc⟩
      ·omega
      ·have hcell:∀ k,k<m→∀ v ∈ (sb k0 qo).el k,v.oneCell'=true:=by
        intro k hk v hv
        have h1:=atom_one (ρ:=ρ) (List.all_eq_true.1 (hat k hk) v hv)
        rw[den1_plain ((hpl k (by omega)).2 v hv)] at h1
        exact h1
       refine⟨m,_,hK,?_,fun k hk=>⟨by rw[← hz];exact (hpl k (by omega)).1,fun v hv=>⟨(hpl k (by omega)).2 v hv,hcell k hk v hv⟩⟩⟩
       rw[hA]
       have hl3:∀ k,k<m→((sb k0 qo).el k).length=sz:=fun k hk=>by rw[← hz];exact (hpl k (by omega)).1
       refine Src.ofSlice w hk _ m c _ (flatE_len hl3) (fun j u hu=>?_) (fun u hu=>?_)
       ·obtain⟨k,i,r1,r2,rfl,r4⟩:=flatE_get hl3 j u hu
        rw[Addr.add_mid,← Nat.add_assoc,← hz]
        exact hc k (by omega) i u r4
       ·obtain⟨k,hk,hv⟩:=flatE_mem hu
        exact hcell k hk u hv
    ·exact h.elim
   ·exact h.elim
theorem app_nothing (w:World) (t tx ty e:TypeId) (i:TypeInfo) (ht:P.underlying t=some (.slice e)) (hi:P.info? e=some i) (base:Option Addr) (n c:Nat) (hle:n≤c) (x:Value) (hs:Src P i.size tx x 0 [] w) :
  (Builtin.append_ #[t,tx] ty #[.slice base n c,x]).run P w=.ok (.slice base n c) w:=by
 rcases hs.kind with⟨e',hk⟩ | hk<;>cases base<;>simp[Builtin.append_,run_underlying ht,run_underlying hk,sizeOf,typeInfo,hi,hs.len,hle,hs.cells,storeCells]
theorem Sat.rowEl {r:Nat} {t:TypeId} {sz n:Nat} {el el':Nat→List Value} (h:Sat C ρ fr ((r,.row t sz n el)::mem) nx a w) (he:∀ k,k<n→el' k=el k):Sat C ρ fr ((r,.row t sz n el')::mem) nx a w:=by
 have old:∀ i b,lk (((r,ABlk.row t sz n el')::mem)++C.fm) i=some b→∃ b0,lk (((r,ABlk.row t sz n el)::mem)++C.fm) i=some b0∧(b0=b∨(b0=.row t sz n el∧b=.row t sz n el')):=fun i b hb=>by
  rw[List.cons_append] at hb
  rcases lk_cons hb with⟨rfl,rfl⟩ | ⟨hne,hb⟩
  ·exact⟨_,lk_same _ _ _,.inr ⟨rfl,rfl⟩⟩
  ·exact⟨b,(lk_ne _ _ hne).trans hb,.inl rfl⟩
 refine⟨h.fok,h.sz,h.dfr,fun i b hi=>?_,fun i b hi=>?_,fun i j b b' hne hi hj=>?_,h.n0,h.low,h.rest⟩
 ·obtain⟨b0,h0,-⟩:=old i b hi
  exact h.mlt i b0 h0
 ·obtain⟨b0,h0,rfl | ⟨rfl,rfl⟩⟩:=old i b hi
  ·exact h.blk i _ h0
  ·obtain⟨q1,q2,q3⟩:=h.blk i _ h0
   exact⟨q1,fun k hk=>by rw[he k hk];exact q2 k hk,q3.imp_right fun⟨b,off,hA,hr,hc⟩=>⟨b,off,hA,hr,fun k hk=>by rw[he k hk];exact hc k hk⟩⟩
 ·obtain⟨b0,h0,e0⟩:=old i b hi
  obtain⟨b1,h1,e1⟩:=old j b' hj
  have:=h.sep i j b0 b1 hne h0 h1
  clear h0 h1 hi hj
  rcases e0 with e0 | ⟨e0,e2⟩<;>rcases e1 with e1 | ⟨e1,e3⟩
  ·subst e0 e1;exact this
  ·subst e0 e1 e3;cases b0<;>exact this
  ·subst e0 e1 e2;cases b1<;>exact this
  ·subst e0 e1 e2 e3;exact this
theorem appx_sound (hτ:TTok P τ) {t tx ty e:TypeId} {te:TI} {b1:Nat} {s x:Value} {K:Value→AM→Nat→Prop} (ht:P.underlying t=some (.slice e)) (hte:TIok P e te) (hby:∀ i,P.info? e=some i→i.bytes=b1+1) {e':TypeId} (htx:P.underlying tx=some (.slice e')) (hz0:te.zero.length=te.size) (hpos:0<te.size)
  (h:appx e te (b1+1) s x mem nx K) (hs:Sat C ρ fr mem nx a w) (hok:okV ρ nx s):∃ v w' mem' nx' ρ',(Builtin.append_ #[t,tx] ty #[den ρ s,den ρ x]).run P w=.ok (den ρ' v) w'∧K v mem' nx'∧Sat C ρ' fr mem' nx' a w'∧okV ρ' nx' v∧ExtS ρ nx ρ' nx':=by
 obtain⟨m,el2,hk,hsrc,hel2⟩:=srcx_sound h hs htx
 obtain⟨ie,hie,hsz,z,hz,hzc⟩:=hte.size
 have hb:=hby ie hie
 rw[← hsz] at hsrc
 have hzs:z.cells.size=ie.size:=by rw[← Array.length_toList,hzc,hz0,hsz]
 -- the new row
 have grow:∀ (len cap:Nat) (base:Option Addr) (el:Nat→List Value),(∀ k,k<len→(el k).length=te.size∧∀ v ∈ el k,plain1 v)→(Builtin.firstCells ie.size len (.slice base len cap)).run P w.drew=.ok (flatE el len).toArray w.drew→cap<len+m→(len+m) * (b1+1)≤140737488355328→
   (∀ cap' el',(len+m≤cap'∧∀ k,len+m≤k→el' k=te.zero)→(∀ k,k<len→el' k=el k)→(∀ k,k<m→el' (len+k)=el2 k)→K (.slice (some ⟨nx,0,none⟩) (len+m) cap') ((nx,.row (1000000+e) te.size cap' el')::mem) (nx+1))→
   ∃ v w' mem' nx' ρ',(Builtin.append_ #[t,tx] ty #[.slice base len cap,den ρ x]).run P w=.ok (den ρ' v) w'∧K v mem' nx'∧Sat C ρ' fr mem' nx' a w'∧okV ρ' nx' v∧ExtS ρ nx ρ' nx':=by
  intro len cap base el hel hold hlt hbound hK
  have hrun:=run_append_grow_src (P:=P) w t tx ty e ie z ht hie hz base len cap (flatE el len) hold (den ρ x) m (flatE el2 m) hsrc hlt (by
   have:len+m≤(len+m) * (b1+1):=Nat.le_mul_of_pos_right _ (by omega)
   omega) (growslice_fits hlt (by rw[hb];exact hbound))
  generalize hc':grownCap w (len+m) cap e=c' at hrun
  have hcl:len+m≤c':=by rw[← hc'];exact grownCap_ge w _ _ _
  have l1:=flatE_len (el:=el) (n:=len) fun k hk=>(hel k hk).1
  have l2:=flatE_len (el:=el2) (n:=m) fun k hk=>(hel2 k hk).1
  let el':Nat→List Value:=fun k=>if k<len then el k else if k<len+m then el2 (k-len) else te.zero
  have q1:∀ k,k<len→el' k=el k:=fun k hk=>if_pos hk
  have q2:∀ k,k<m→el' (len+k)=el2 k:=fun k hk=>by
   show (if len+k<len then _ else if len+k<len+m then el2 (len+k-len) else te.zero)=_
   rw[if_neg (by omega),if_pos (by omega),Nat.add_sub_cancel_left]
  have q3:∀ k,len+m≤k→el' k=te.zero:=fun k hk=>by
   show (if k<len then _ else if k<len+m then el2 (k-len) else te.zero)=_
   rw[if_neg (by omega),if_neg (by omega)]
  have hs2:=hs.drew.newRow (1000000+e) e (sz:=te.size) (n:=c') (el:=el') (cells:=(flatE el len++flatE el2 m).toArray++Builtin.zeroCells z.cells (c' - (len+m))) (fun k hk=>by
   by_cases h1:k<len
   ·rw[q1 k h1];exact hel k h1
   ·by_cases h2:k<len+m
    ·have:=q2 (k-len) (by omega)
     rw[show len+(k-len)=k by omega] at this
     rw[this]
     exact⟨(hel2 _ (by omega)).1,fun v hv=>((hel2 _ (by omega)).2 v hv).1⟩
    ·rw[q3 k (by omega)];exact⟨hz0,hte.zero⟩) (fun k hk j v hv=>by
   have hmul:∀ {a b:Nat},a<b→a * te.size+te.size≤b * te.size:=fun {a b} hab=>by
    have:=Nat.mul_le_mul_right te.size (show a+1≤b by omega)
    rw[Nat.add_mul] at this
    omega
   by_cases h1:k<len
   ·rw[q1 k h1] at hv
    have hj:j<te.size:=by rw[← (hel k h1).1];exact (List.getElem?_eq_some_iff.1 hv).1
    have:=hmul h1
    rw[Array.getElem?_append_left (by simp only[List.size_toArray,List.length_append,l1];omega),List.getElem?_toArray,List.getElem?_append_left (by omega)]
    exact flatE_at (fun k hk=>(hel k hk).1) k j v h1 hv
   ·by_cases h2:k<len+m
    ·have e3:=q2 (k-len) (by omega)
     rw[show len+(k-len)=k by omega] at e3
     rw[e3] at hv
     have hj:j<te.size:=by rw[← (hel2 (k-len) (by omega)).1];exact (List.getElem?_eq_some_iff.1 hv).1
     have e4:=hmul (show k-len<m by omega)
     have e5:k * te.size=len * te.size+(k-len) * te.size:=by rw[← Nat.add_mul];congr 1;omega
     rw[Array.getElem?_append_left (by simp only[List.size_toArray,List.length_append,l1,l2];omega),List.getElem?_toArray,List.getElem?_append_right (by omega),l1,show k * te.size+j-len * te.size=(k-len) * te.size+j by omega]
     exact flatE_at (fun k hk=>(hel2 k hk).1) (k-len) j v (by omega) hv
    ·rw[q3 k (by omega)] at hv
     have hj:j<te.size:=by rw[← hz0];exact (List.getElem?_eq_some_iff.1 hv).1
     have e5:k * te.size=len * te.size+m * te.size+(k-(len+m)) * te.size:=by rw[← Nat.add_mul,← Nat.add_mul];congr 1;omega
     have e4:=hmul (show k-(len+m)<c' - (len+m) by omega)
     rw[Array.getElem?_append_right (by simp only[List.size_toArray,List.length_append,l1,l2];omega)]
     simp only[List.size_toArray,List.length_append,l1,l2]
     rw[show k * te.size+j-(len * te.size+m * te.size)=(k-(len+m)) * te.size+j by omega]
     rw[← hzc] at hv
     unfold Builtin.zeroCells
     have hm:((k-(len+m)) * te.size+j) % te.size=j:=by rw[Nat.add_comm,Nat.add_mul_mod_self_right,Nat.mod_eq_of_lt hj]
     have hlt2:(k-(len+m)) * te.size+j<(c' - (len+m)) * te.size:=by omega
     rw[hzs,hsz]
     simp only[Array.getElem?_map,Array.getElem?_range,hlt2,if_true,Option.map_some,hm]
     rw[Array.getElem?_toList] at hv
     obtain⟨r1,r2⟩:=Array.getElem?_eq_some_iff.1 hv
     rw[getElem!_pos z.cells j r1,r2])
  obtain⟨e1,e2⟩:=slc_new (ρ:=ρ) (nx:=nx) w.heap.size te.size c' (len+m) c'
  refine⟨_,_,_,_,_,?_,hK c' el' ⟨hcl,q3⟩ q1 q2,hs2,e2,ExtS.set _ _ _⟩
  rw[hrun]
  have:w.drew.heap.size=w.heap.size:=by simp
  rw[this,e1]
 cases s<;>first | exact hk.elim | skip
 rename_i A len cap
 cases A with
 | none=>
  simp only at hk
  split at hk
  ·obtain⟨h1,h2⟩:=hk
   by_cases hm:m=0
   ·refine⟨_,w,mem,nx,ρ,?_,h1 hm,hs,trivial,ExtS.refl _ _⟩
    subst hm
    have:(flatE el2 0)=[]:=rfl
    rw[this] at hsrc
    exact app_nothing w t tx ty e ie ht hie none 0 0 (by omega) (den ρ x) hsrc
   ·obtain⟨h3,h4⟩:=h2 hm
    have:=grow 0 0 none (fun _=>[]) (fun k hk=>by omega) (by have:flatE (fun _=>([]:List Value)) 0=[]:=rfl;rw[this];exact run_firstCells_none w.drew ie.size 0 0 0) (by omega) (by rw[Nat.zero_add];exact h3) (fun cap' el' g1 g2 g3=>by
     rw[Nat.zero_add] at g1 ⊢
     exact h4 cap' el' g1 (fun k hk=>by have:=g3 k hk;rwa[Nat.zero_add] at this))
    exact this
  ·exact hk.elim
 | some ad=>
  obtain⟨r,ro,rs⟩:=ad
  simp only at hk
  split at hk
  ·rename_i bt sz' n el hl
   split at hk
   ·rename_i hown hb2
    obtain rfl:sz'=te.size:=Nat.eq_of_beq_eq_true hb2
    obtain⟨⟨rfl,hle⟩,hroom,hgrow⟩:=hk
    obtain⟨⟨h1,h2⟩,hpl,hrow⟩:=hs.blk r _ (lk_app hl)
    have hfr:(Builtin.firstCells ie.size len (den ρ (.slice (some ⟨r,0,none⟩) len cap))).run P w.drew=.ok (flatE el len).toArray w.drew:=by
     have e0:den ρ (.slice (some ⟨r,0,none⟩) len cap)=.slice (ρ r).A len cap:=rfl
     rw[e0]
     rcases hrow with h0 | ⟨b,off,hA,-,hc⟩
     ·obtain rfl:len=0:=by omega
      have:flatE el 0=[]:=rfl
      rw[this]
      cases (ρ r).A with
      | none=>exact run_firstCells_none w.drew _ _ _ _
      | some ad=>exact run_firstCells_some w.drew _ 0 ad 0 cap [] (by simp) (by simp)
     ·rw[hA]
      refine run_firstCells_some w.drew _ len _ len cap _ (by rw[hsz];exact flatE_len fun k hk=>(hpl k (by omega)).1) (fun j u hu=>?_)
      obtain⟨k,i,r1,r2,rfl,r4⟩:=flatE_get (fun k hk=>(hpl k (by omega)).1) j u hu
      have:=hc k (by omega) i u r4
      rw[Addr.add_mid,← Nat.add_assoc]
      simpa using this
    by_cases hfit:len+m≤cap
    ·by_cases hm:m=0
     ·subst hm
      refine⟨_,w,_,nx,ρ,?_,hroom hfit (fun k=>if k<cap then el k else te.zero) ⟨fun k hk=>if_pos (by omega),fun k hk=>if_neg (by omega)⟩ (fun k hk=>by omega),Sat.rowEl (el:=el) ?_ (fun k hk=>if_pos hk),hok,ExtS.refl _ _⟩
      ·have:(flatE el2 0)=[]:=rfl
       rw[this] at hsrc
       exact app_nothing w t tx ty e ie ht hie (ρ r).A len cap hle (den ρ x) hsrc
      ·exact hs.less (fun _ _ h=>h) (fun i b h=>by
        rw[List.cons_append] at h
        rcases lk_cons h with⟨rfl,rfl⟩ | ⟨_,h⟩
        ·exact lk_app hl
        ·exact h)
     ·rcases hrow with h0 | ⟨b,off,hA,hat,hc⟩
      ·omega
      ·obtain⟨rfl,hbase,ty2,cs,hblk⟩:=hat.own hown
       obtain⟨el',hs2,e1,e2⟩:=Sat.storeRows (el2:=el2) (len:=len) hown hA m hs hl hfit (fun k hk=>⟨(hel2 k hk).1,fun v hv=>((hel2 k hk).2 v hv).1⟩)
       have l2:=flatE_len (el:=el2) (n:=m) fun k hk=>(hel2 k hk).1
       have hin:(len+m) * te.size≤cs.size:=by
        have hj:te.size-1<(el (len+m-1)).length:=by rw[(hpl (len+m-1) (by omega)).1];omega
        have:=hc (len+m-1) (by omega) (te.size-1) _ (List.getElem?_eq_getElem hj)
        rw[Nat.zero_add,hblk.cell] at this
        have hlt:=(Array.getElem?_eq_some_iff.1 this).1
        have e5:(len+m) * te.size=(len+m-1) * te.size+te.size:=by
         conv=>lhs;rw[show len+m=(len+m-1)+1 by omega,Nat.add_mul,Nat.one_mul]
        omega
       have hth:=hblk.there (len * te.size) (m * te.size) (by rw[Nat.add_mul] at hin;exact hin)
       refine⟨_,_,_,nx,ρ,?_,hroom hfit (fun k=>if k<cap then el' k else te.zero) ⟨fun k hk=>by rw[if_pos (by omega)];exact e2 k (by omega),fun k hk=>if_neg (by omega)⟩ (fun k hk=>by rw[if_pos (by omega)];exact e1 k hk),Sat.rowEl (el:=el') hs2 (fun k hk=>if_pos hk),hok,ExtS.refl _ _⟩
       have e0:den ρ (.slice (some ⟨r,0,none⟩) len cap)=.slice (some ⟨b,0,none⟩) len cap:=by simp[den,den2,den1,dA_whole,dS_whole,hA]
       have e3:den ρ (.slice (some ⟨r,0,none⟩) (len+m) cap)=.slice (some ⟨b,0,none⟩) (len+m) cap:=by simp[den,den2,den1,dA_whole,dS_whole,hA]
       rw[e0,e3,run_append_room_src w t tx ty e ie ht hie b 0 len cap (den ρ x) m (flatE el2 m) hsrc hfit (fun j hj=>by rw[hsz,Nat.zero_add];exact (hth j (by omega)).1) (fun j hj=>by rw[hsz,Nat.zero_add];exact (hth j (by omega)).2),Nat.zero_add,hsz]
    ·obtain⟨h3,h4⟩:=hgrow (by omega)
     have e0:den ρ (.slice (some ⟨r,0,none⟩) len cap)=.slice (ρ r).A len cap:=rfl
     rw[e0] at hfr ⊢
     exact grow len cap (ρ r).A el (fun k hk=>hpl k (by omega)) hfr (by omega) h3 h4
   ·exact hk.elim
  ·exact hk.elim
theorem lk_putF {d:Option Nat} {v:Value} {e:Nat} (h:d≠some e):lk (putF d v fr) e=lk fr e:=by
 cases d with
 | none=>rfl
 | some d=>exact lk_ne _ _ (fun q=>h (by rw[q]))
theorem wp_value {o:Oper} {v:Value} {w':World} {K:Act→World→Prop} (h:(execOp a.eval o).run P w=.ok (.value v) w') (hk:K (a.put o.dst v) w'):o.wp P a w K Q:=by
 unfold Oper.wp;rw[h];exact hk
theorem slice_run (hτ:TTok P τ) (hf:FrOk ρ fr nx a) {t:TypeId} {x y:Operand} {A:Option Addr} {n cap:Nat} {k:IntKind} {h:Int} {ti:TI} {e1:Nat} (hx:ev fr x=some (.slice A n cap)) (hy:ev fr y=some (.int k h)) (hti:lk τ t=some ti) (hsl:ti.sl=true) (hes:ti.esz=e1+1) (h0:0≤h) (h1:h≤cap) :
  (Instr.sliceAt t (a.eval x) none (some (a.eval y)) none).run P w=.ok (den ρ (.slice A h.toNat cap)) w∧okV ρ nx (.slice A h.toNat cap):=by
 obtain⟨e,hu,he⟩:=(hτ t ti hti).slice hsl
 obtain⟨q1,q2⟩:=ev_ok hf hx
 obtain⟨q3,-⟩:=ev_ok hf hy
 have q3':a.eval y=.int k h:=q3
 refine⟨?_,?_⟩
 ·cases hi:P.info? e with
  | none=>simp[szOf,hi] at he;omega
  | some ii=>
   have hb:(Instr.sliceBounds true n cap none (some (.int k h)) none).run P w=.ok (0,h.toNat,cap) w:=by
    simp[Instr.sliceBounds,Instr.sliceBound,asIntOf,h0,h1]
   rw[q1,q3']
   cases A with
   | none=>
    simp[Instr.sliceAt,run_underlying hu,Instr.slice,hb,sizeOf,typeInfo,hi,den,den2,den1]
   | some ad=>
    simp[Instr.sliceAt,run_underlying hu,Instr.slice,hb,sizeOf,typeInfo,hi,den,den2,den1]
    intro _
    cases dA ρ ad<;>simp[Addr.add]
 ·cases A with
  | none=>trivial
  | some ad=>exact q2
theorem actx_sound {I:List Nat} (hτ:TTok P τ) (hF:FTokI P F I) {o:Oper} (hI:C.fm=[]∨inlOk I o.op=true) (hd:∀ i,o.dst=some i→i<C.nt) {K:AF→AM→Nat→Prop} (h:actx τ F o.dst o.op fr mem nx K) (hs:Sat C ρ fr mem nx a w) :
  o.wp P a w (fun a' w'=>∃ fr' mem' nx' ρ',K fr' mem' nx'∧Sat C ρ' fr' mem' nx' a' w'∧ExtS ρ nx ρ' nx'∧∀ d,o.dst≠some d→lk fr' d=lk fr d) Q:=by
 obtain⟨dst,op,type,pos,after,guard⟩:=o
 simp only at hd h
 cases op<;>simp only[actx,putK_eq] at h<;>try (exact h.elim)
 case alloc t=>
  cases hti:lk τ t with
  | none=>rw[hti] at h;exact h.elim
  | some ti=>
   rw[hti] at h
   have ht:=hτ t ti hti
   obtain⟨i,hi,hsz,z,hz,hzc⟩:=ht.size
   have hmap:ti.zero.map (den1 ρ)=ti.zero:=by
    conv=>rhs;rw[← List.map_id ti.zero]
    exact List.map_congr_left fun v hv=>den1_plain (ht.zero v hv)
   have hs2:=hs.newBox t (cs:=ti.zero) (fun v hv=>ok1_plain (ht.zero v hv))
   rw[hmap] at hs2
   obtain⟨e1,e2⟩:=ptr_new (ρ:=ρ) (nx:=nx) w.heap.size
   have hs3:=hs2.put (d:=dst) hd e2
   rw[e1] at hs3
   refine wp_value (w':=w.alloc (.cells ti.zero.toArray t)) ?_ ⟨_,_,_,_,h,hs3,ExtS.set _ _ _,fun _ q=>lk_putF q⟩
   have hza:z.cells=ti.zero.toArray:=by apply Array.toList_inj.1;simp[hzc]
   simp[execOp,Instr.alloc,zeroValue,typeInfo,hi,hz,newVar,newRow,newObj,hza,Sem.run]
 case box t x=>
  cases hx:ev fr x with
  | none=>rw[hx] at h;exact h.elim
  | some v=>
   rw[hx] at h
   obtain⟨h1,h2⟩:=ev_ok hs.fok.left hx
   rcases not_tuple v with⟨cs,rfl⟩ | ⟨f,a',b,rfl⟩ | ⟨-,-⟩
   ·exact h.elim
   ·exact h.elim
   ·by_cases hnt:nt v=false
    ·cases v<;>first | exact h.elim | cases hnt
    ·have hnt':nt v=true:=by simpa using hnt
     have h':K (putF dst (.pointer (some ⟨nx,0,none⟩)) fr) ((nx,.box t (cellsOf v))::mem) (nx+1):=by
      cases v<;>first | exact h | cases hnt'
     have hs2:=hs.newBox t (cs:=cellsOf v) (cells_ok hnt' h2)
     obtain⟨e1,e2⟩:=ptr_new (ρ:=ρ) (nx:=nx) w.heap.size
     have hs3:=hs2.put (d:=dst) hd e2
     rw[e1] at hs3
     refine wp_value (w':=w.alloc (.cells ((cellsOf v).map (den1 ρ)).toArray t)) ?_ ⟨_,_,_,_,h',hs3,ExtS.set _ _ _,fun _ q=>lk_putF q⟩
     simp[execOp,Instr.box,newVar,newRow,newObj,h1,cells_den (ρ:=ρ) hnt',Sem.run]
 case store t x y=>
  cases hx:ev fr x with
  | none=>rw[hx] at h;exact h.elim
  | some p=>
   cases hy:ev fr y with
   | none=>rw[hx,hy] at h;cases p<;>first | exact h.elim | (rename_i q;cases q<;>exact h.elim)
   | some v=>
    cases hti:lk τ t with
    | none=>rw[hx,hy,hti] at h;cases p<;>first | exact h.elim | (rename_i q;cases q<;>exact h.elim)
    | some ti=>
     rw[hx,hy,hti] at h
     cases p<;>first | exact h.elim | skip
     rename_i q
     cases q with
     | none=>exact h.elim
     | some ad=>
      simp only at h
      cases hb:lk mem ad.block with
      | none=>rw[hb] at h;exact h.elim
      | some bl=>
       rw[hb] at h
       cases bl with
       | ext e=>cases hsp:ad.spot<;>(rw[hsp] at h;exact h.elim)
       | row bt sz n el=>
        cases hsp:ad.spot with
        | none=>rw[hsp] at h;exact h.elim
        | some k=>
         rw[hsp] at h
         simp only at h
         split at h
         ·rename_i hl hat hpl hown
          obtain⟨l,hp,hK⟩:=h
          obtain⟨h1,h2⟩:=ev_ok hs.fok.left hx
          obtain⟨h3,h4⟩:=ev_ok hs.fok.left hy
          have hl':(cellsOf v).length=ti.size:=by simpa using hl
          have hplain:∀ u ∈ cellsOf v,plain1 u:=fun u hu=>plB_ok (List.all_eq_true.1 hpl u hu)
          have hkn:k<n:=by
           have:=h2.2.2 k hsp
           obtain⟨⟨-,e⟩,-⟩:=hs.blk _ _ (lk_app hb)
           omega
          obtain⟨g,hA,hsz,hth,hs2⟩:=hs.storeRow hb hown hkn hp hplain
          have hrun:=run_store (P:=P) (w:=w) (ρ:=ρ) (hτ t ti hti) (g:=g) (o:=k * sz+ad.off) (notTuple hat) hl' hat hth
          have e:den ρ (.pointer (some ad))=.pointer (some ⟨g,k * sz+ad.off,none⟩):=by simp[den,den2,den1,dA_some hA,hsp,hsz]
          rw[e] at h1
          unfold Oper.wp execOp
          simp only[h1,h3]
          rw[Sem.run_bind,hrun]
          exact⟨_,_,_,_,hK,hs2,ExtS.refl _ _,fun _ _=>rfl⟩
         ·exact h.elim
       | box bt cs=>
        cases hsp:ad.spot with
        | some k=>rw[hsp] at h;exact h.elim
        | none=>
         rw[hsp] at h
         simp only at h
         split at h
         ·rename_i l hl hat hp
          obtain⟨h1,h2⟩:=ev_ok hs.fok.left hx
          obtain⟨h3,h4⟩:=ev_ok hs.fok.left hy
          obtain⟨g,hA,hblk,-,-⟩:=hs.blk _ _ (lk_app hb)
          have hl':(cellsOf v).length=ti.size:=by simpa using hl
          have hnt:nt v=true:=notTuple hat
          have hsz:=(putN_get _ _ _ _ hp).2.1
          have hrun:=run_store (P:=P) (w:=w) (ρ:=ρ) (hτ t ti hti) (g:=g) (o:=ad.off) hnt hl' hat (hblk.there _ _ (by simpa using hsz))
          have hs2:=hs.store hb hA hp (cells_ok hnt h4)
          have e:den ρ (.pointer (some ad))=.pointer (some ⟨g,ad.off,none⟩):=by simp[den,den2,den1,dA_some hA,hsp]
          rw[e] at h1
          unfold Oper.wp execOp
          simp only[h1,h3]
          rw[Sem.run_bind,hrun]
          exact⟨_,_,_,_,h,hs2,ExtS.refl _ _,fun _ _=>rfl⟩
         ·exact h.elim
 case buildSlice t len parts=>
  cases hti:lk τ t with
  | none=>rw[hti] at h;exact h.elim
  | some ti=>
   rw[hti] at h
   simp only at h
   split at h
   ·rename_i eb te hsl heb hte
    split at h
    ·rename_i s rs hs1 hrs
     split at h
     ·rename_i hlen hle
      have ht:=hτ t ti hti
      obtain⟨hu,hby⟩:=ht.elt heb
      obtain⟨ie,hie,hsz,z,hz,hzc⟩:=(hτ _ te hte).size
      have hlen':rs.length=len:=Nat.eq_of_beq_eq_true hlen
      have hle':len * te.size≤16777216:=Nat.le_of_ble_eq_true hle
      obtain⟨out,g1,-,g3,g4⟩:=fill_rows (a:=a) hs.fok.left parts.toList 0 rs ((Array.range (len * te.size)).map fun i=>(if len * te.size=0 then #[] else z.cells)[i % (if len * te.size=0 then #[] else z.cells).size]!) hrs (by simp[hlen'])
      have hs2:=hs.newRow (1000000+ti.elt) ti.elt (sz:=te.size) (n:=len) (el:=fun k=>rs.getD k []) (cells:=out) (fun k hk=>by
       have:rs[k]?=some (rs.getD k []):=by rw[List.getD_eq_getElem?_getD,List.getElem?_eq_getElem (by omega)];rfl
       exact g3 _ (List.mem_of_getElem? this)) (fun k hk j v hv=>by
       have:=g4 k j v (by omega) hv
       rw[Nat.zero_add] at this
       exact this)
      obtain⟨e1,e2⟩:=slc_new (ρ:=ρ) (nx:=nx) w.heap.size te.size len len len
      have hs3:=hs2.put (d:=dst) hd e2
      rw[e1] at hs3
      refine wp_value (w':=w.alloc (.cells out ti.elt)) ?_ ⟨_,_,_,_,h,hs3,ExtS.set _ _ _,fun _ q=>lk_putF q⟩
      have hpm:(parts.map fun (q:Nat×Operand)=>(q.1,a.eval q.2)).toList=parts.toList.map fun q=>(q.1,a.eval q.2):=by simp
      have hz0:¬ (16777216<len * te.size):=by omega
      by_cases h0:len * te.size=0
      ·simp only[h0,if_true] at g1
       rw[show (Array.range 0).map (fun i=>(#[]:Array Value)[i % (#[]:Array Value).size]!)=#[] by simp[Array.range_zero']] at g1
       simp[execOp,Instr.buildSlice,run_underlying hu,sizeOf,typeInfo,hie,hsz,h0,g1,newRow,newObj,Sem.run,Array.range_zero']
      ·simp only[h0,if_false] at g1
       simp[execOp,Instr.buildSlice,run_underlying hu,sizeOf,typeInfo,zeroValue,hie,hsz,hz,hz0,h0,g1,newRow,newObj,Sem.run]
     ·exact h.elim
    ·exact h.elim
   ·exact h.elim
 case makeSlice t x y=>
  cases hx:ev fr x with
  | none=>rw[hx] at h;exact h.elim
  | some p=>
   rw[hx] at h
   cases p<;>first | exact h.elim | skip
   rename_i kl n
   cases hy:ev fr y with
   | none=>rw[hy] at h;exact h.elim
   | some q=>
    rw[hy] at h
    cases q<;>first | exact h.elim | skip
    rename_i kc n'
    cases hti:lk τ t with
    | none=>rw[hti] at h;exact h.elim
    | some ti=>
     rw[hti] at h
     simp only at h
     split at h
     ·rename_i eb te hsl heb hte
      split at h
      ·rename_i s hs1 hzl
       obtain⟨⟨hnn',hn0,hnb⟩,hK⟩:=h
       have ht:=hτ t ti hti
       obtain⟨hu,hby⟩:=ht.elt heb
       obtain⟨ie,hie,hsz,z,hz,hzc⟩:=(hτ _ te hte).size
       have hzl':te.zero.length=te.size:=Nat.eq_of_beq_eq_true hzl
       have hzs:z.cells.size=te.size:=by rw[← Array.length_toList,hzc,hzl']
       have hb:=hby ie hie
       have h1:a.eval x=.int kl n:=(ev_ok hs.fok.left hx).1
       have h2:a.eval y=.int kc n':=(ev_ok hs.fok.left hy).1
       have hnn:n'≤281474976710656:=by
        have:n' * 1≤n' * ((eb+1:Nat):Int):=Int.mul_le_mul_of_nonneg_left (by omega) (by omega)
        omega
       have hrun:=run_make (P:=P) w t ti.elt ie z hu hie hz kl kc n n' hn0 hnn' (by rw[hb,Int.mul_comm];exact hnb) (by omega)
       have hs2:=hs.newRow (1000000+ti.elt) ti.elt (sz:=te.size) (n:=n'.toNat) (el:=fun _=>te.zero) (cells:=madeCells z.cells (n'.toNat * te.size)) (fun k hk=>⟨hzl',(hτ _ te hte).zero⟩) (fun k hk j v hv=>by
        have hj:j<te.size:=by rw[← hzl'];exact (List.getElem?_eq_some_iff.1 hv).1
        rw[made_at hzs hk hj]
        rw[← hzc] at hv
        simpa using hv)
       obtain⟨e1,e2⟩:=slc_new (ρ:=ρ) (nx:=nx) w.heap.size te.size n'.toNat n.toNat n'.toNat
       have hs3:=hs2.put (d:=dst) hd e2
       rw[e1] at hs3
       refine wp_value (w':=w.alloc (.cells (madeCells z.cells (n'.toNat * te.size)) ti.elt)) ?_ ⟨_,_,_,_,hK,hs3,ExtS.set _ _ _,fun _ q=>lk_putF q⟩
       rw[hsz] at hrun
       simp[execOp,h1,h2,hrun]
      ·exact h.elim
     ·exact h.elim
 case slice t x lo hi mx=>
  cases lo with
  | some _=>exact h.elim
  | none=>
   cases mx with
   | some _=>cases hi<;>exact h.elim
   | none=>
    cases hi with
    | none=>exact h.elim
    | some y=>
     try simp only at h
     cases hx:ev fr x with
     | none=>rw[hx] at h;exact h.elim
     | some p=>
      rw[hx] at h
      cases p<;>(try simp only at h)<;>first | exact h.elim | skip
      rename_i A n cap
      cases hy:ev fr y with
      | none=>rw[hy] at h;exact h.elim
      | some q=>
       rw[hy] at h
       cases q<;>(try simp only at h)<;>first | exact h.elim | skip
       rename_i k hh
       cases hti:lk τ t with
       | none=>rw[hti] at h;exact h.elim
       | some ti=>
        rw[hti] at h
        try simp only at h
        split at h
        ·rename_i s hsl hesz
         obtain⟨⟨h0,h1⟩,hK⟩:=h
         obtain⟨r1,r2⟩:=slice_run (w:=w) hτ hs.fok.left hx hy hti hsl hesz h0 h1
         refine wp_value (w':=w) (v:=den ρ (.slice A hh.toNat cap)) ?_ ⟨_,_,_,_,hK,hs.put (d:=dst) hd r2,ExtS.refl _ _,fun _ q=>lk_putF q⟩
         simp[execOp,r1]
        ·exact h.elim
 case indexAddr t x i=>
  cases hx:ev fr x with
  | none=>rw[hx] at h;exact h.elim
  | some p=>
   rw[hx] at h
   cases p<;>first | exact h.elim | skip
   rename_i A n cp
   cases A with
   | none=>exact h.elim
   | some ad=>
    cases hy:ev fr i with
    | none=>rw[hy] at h;exact h.elim
    | some q=>
     rw[hy] at h
     cases q<;>first | exact h.elim | skip
     rename_i kk k
     cases hti:lk τ t with
     | none=>rw[hti] at h;exact h.elim
     | some ti=>
      rw[hti] at h
      simp only at h
      cases hb:lk mem ad.block with
      | none=>rw[hb] at h;exact h.elim
      | some bl=>
       rw[hb] at h
       cases bl with
       | box bt cs=>exact h.elim
       | ext e=>exact h.elim
       | row bt sz n' el=>
        simp only at h
        split at h
        ·rename_i s hoff hsp hsl hesz hbe
         obtain⟨⟨hn,hk0,hkn⟩,hK⟩:=h
         have hsz:ti.esz=sz:=Nat.eq_of_beq_eq_true hbe
         obtain⟨h1,h2⟩:=ev_ok hs.fok.left hx
         obtain⟨h3,-⟩:=ev_ok hs.fok.left hy
         obtain⟨⟨hs1,hs2⟩,-,hrow⟩:=hs.blk _ _ (lk_app hb)
         rcases hrow with h0 | ⟨b,off,hA,hlt,hc⟩
         ·omega
         ·obtain⟨e,hu,he⟩:=(hτ t ti hti).slice hsl
          have hok:okV ρ nx (.pointer (some ⟨ad.block,0,some k.toNat⟩)):=⟨hs.mlt _ _ (lk_app hb),⟨b,off,hA⟩,fun j hj=>by cases hj;show k.toNat<(ρ ad.block).n;rw[hs2];omega⟩
          have hs3:=hs.put (d:=dst) hd hok
          have e1:den ρ (.slice (some ad) n cp)=.slice (some ⟨b,off,none⟩) n cp:=by simp[den,den2,den1,dS,dA_some hA,hsp,hoff]
          have e2:den ρ (.pointer (some ⟨ad.block,0,some k.toNat⟩))=.pointer (some ⟨b,off+k.toNat * sz,none⟩):=by simp[den,den2,den1,dA_some (a:=⟨ad.block,0,some k.toNat⟩) hA,hs1]
          rw[e2] at hs3
          rw[e1] at h1
          have h3':a.eval i=.int kk k:=h3
          refine wp_value (w':=w) ?_ ⟨_,_,_,_,hK,hs3,ExtS.refl _ _,fun _ q=>lk_putF q⟩
          cases hi:P.info? e with
          | none=>simp[szOf,hi] at he;omega
          | some ii=>
           have hes:ii.size=sz:=by rw[← hsz,← he];simp[szOf,hi]
           simp[execOp,h1,h3',Instr.indexAt,asIntOf,run_underlying hu,hk0,hkn,sizeOf,typeInfo,hi,hes,Addr.add_mid]
        ·exact h.elim
 case binOp bo t x y yt=>
  cases hx:ev fr x with
  | none=>rw[hx] at h;exact h.elim
  | some p=>
   rw[hx] at h
   cases p<;>first | exact h.elim | skip
   rename_i k b
   cases hy:ev fr y with
   | none=>rw[hy] at h;exact h.elim
   | some q=>
    rw[hy] at h
    cases q<;>first | exact h.elim | skip
    rename_i k' c
    have h1:a.eval x=.int k b:=(ev_ok hs.fok.left hx).1
    have h2:a.eval y=.int k' c:=(ev_ok hs.fok.left hy).1
    cases bo<;>simp only at h<;>first | exact h.elim | skip
    case quo=>
     obtain⟨⟨rfl,hc⟩,hK⟩:=h
     refine wp_value (w':=w) (v:=.int k (k.wrap (b.tdiv c))) ?_ ⟨_,_,_,_,hK,hs.put (d:=dst) (v:=.int k (k.wrap (b.tdiv c))) hd trivial,ExtS.refl _ _,fun _ q=>lk_putF q⟩
     simp[execOp,h1,h2,eqGuard,binOp,Op.intDiv,hc]
    case rem=>
     obtain⟨⟨rfl,hc⟩,hK⟩:=h
     refine wp_value (w':=w) (v:=.int k (b.tmod c)) ?_ ⟨_,_,_,_,hK,hs.put (d:=dst) (v:=.int k (b.tmod c)) hd trivial,ExtS.refl _ _,fun _ q=>lk_putF q⟩
     simp[execOp,h1,h2,eqGuard,binOp,Op.intDiv,hc]
    case shl=>
     obtain⟨hc,hK⟩:=h
     refine wp_value (w':=w) (v:=.int k (k.wrap (b * 2 ^ min c.toNat k.bits))) ?_ ⟨_,_,_,_,hK,hs.put (d:=dst) (v:=.int k (k.wrap (b * 2 ^ min c.toNat k.bits))) hd trivial,ExtS.refl _ _,fun _ q=>lk_putF q⟩
     simp[execOp,h1,h2,eqGuard,binOp,Op.shift,show ¬ c<0 by omega]
    case shr=>
     obtain⟨hc,hK⟩:=h
     refine wp_value (w':=w) (v:=.int k (b.fdiv (2 ^ min c.toNat k.bits))) ?_ ⟨_,_,_,_,hK,hs.put (d:=dst) (v:=.int k (b.fdiv (2 ^ min c.toNat k.bits))) hd trivial,ExtS.refl _ _,fun _ q=>lk_putF q⟩
     simp[execOp,h1,h2,eqGuard,binOp,Op.shift,show ¬ c<0 by omega]
 case call c=>
  obtain⟨callee,args,argTypes⟩:=c
  cases callee with
  | builtin b=>
   cases b<;>simp only at h<;>first | exact h.elim | skip
   split at h
   ·rename_i s x t tx hev hty
    have hvs:evs fr args.toList=some [s,x]:=hev
    obtain⟨h1,h2⟩:=evs_ok hs.fok.left hvs
    have h1':args.map a.eval=#[den ρ s,den ρ x]:=by apply Array.toList_inj.1;simp[h1]
    have hat:argTypes=#[t,tx]:=by apply Array.toList_inj.1;simp[hty]
    split at h
    ·rename_i ti tj hti htj
     split at h
     ·rename_i eb te hsl hsl2 heb hte
      split at h
      ·rename_i sz hsz hzl
       obtain⟨hu,hby⟩:=(hτ t ti hti).elt heb
       obtain⟨e',hu2,-⟩:=(hτ tx tj htj).slice hsl2
       obtain⟨v,w',mem',nx',ρ',hrun,hK,hs',hok',hx'⟩:=appx_sound (ty:=type) hτ hu (hτ _ te hte) hby hu2 (Nat.eq_of_beq_eq_true hzl) (by omega) h hs (h2 s (by simp))
       refine wp_value (v:=den ρ' v) (w':=w') ?_ ⟨_,_,_,_,hK,hs'.put (d:=dst) hd hok',hx',fun _ q=>lk_putF q⟩
       simp[execOp,resolve,invoke,builtin,h1',hat,hrun]
      ·exact h.elim
     ·exact h.elim
    ·exact h.elim
   ·exact h.elim
  | invoke r m=>exact h.elim
  | value x=>
   cases x<;>first | exact h.elim | skip
   case func f=>
    simp only at h
    cases hvs:evs fr args.toList with
    | none=>rw[hvs] at h;exact h.elim
    | some vs=>
     cases hct:lk F f with
     | none=>rw[hvs,hct] at h;exact h.elim
     | some ct=>
      rw[hvs,hct] at h
      simp only at h
      obtain⟨h1,h2⟩:=evs_ok hs.fok.left hvs
      have h1':args.map a.eval=(vs.map (den ρ)).toArray:=by apply Array.toList_inj.1;simp[h1]
      obtain⟨hent,hrun⟩:=hF f ct hct C (hI.imp id (fun q=>by simpa [inlOk] using q))
      cases hfn:P.funcs[f]? with
      | none=>rw[hfn] at hent;simp at hent
      | some fn=>
       rw[hfn] at hent
       simp at hent
       have hc:=hrun h hs h2
       unfold Oper.wp
       have hx:(execOp a.eval { dst:=dst,op:=.call { callee:=.value (.func f),args:=args,argTypes:=argTypes },type:=type,pos:=pos,after:=after,guard:=guard }).run P w=.ok (.enter f (vs.map (den ρ)).toArray) w:=by
        have hbs:fn.body≠none:=by intro hb;rw[hb] at hent;simp at hent
        simp[execOp,resolve,Act.eval,Deferred.ofValue,invoke,callFunc,hfn,hent.1,hbs,h1',program,Sem.run]
       rw[hx]
       refine hc.mono fun e w' he=>?_
       obtain⟨v,mem',nx',ρ',rfl,hK,hs',hv,hx'⟩:=he
       exact⟨_,_,_,_,hK,hs'.put (d:=dst) hd hv,hx',fun _ q=>lk_putF q⟩
   case tmp t=>
    simp only at h
    cases hft:lk fr t with
    | none=>rw[hft] at h;exact h.elim
    | some fv=>
     rw[hft] at h
     split at h
     ·rename_i f fs cs heq
      cases heq
      cases hvs:evs fr args.toList with
      | none=>rw[hvs] at h;exact h.elim
      | some vs=>
       cases hct:lk F f with
       | none=>rw[hvs,hct] at h;exact h.elim
       | some ct=>
        rw[hvs,hct] at h
        split at h
        ·rename_i vs' ct' q1 q2 ha hb
         cases q1
         cases q2
         rw[List.all_eq_true] at ha hb
         obtain⟨h1,h2⟩:=evs_ok hs.fok.left hvs
         have h1':args.map a.eval=(vs.map (den ρ)).toArray:=by apply Array.toList_inj.1;simp[h1]
         obtain⟨hent,hrun⟩:=hF f ct hct C (hI.imp id (fun q=>by simp[inlOk] at q))
         have hfv:=hs.fok.left.frm t _ hft
         have hfk:=hs.fok.left.frk t _ hft
         have d1:fs.map (den1 ρ)=(fs.toList.map (den ρ)).toArray:=by
          apply Array.toList_inj.1
          simp only[Array.toList_map]
          exact List.map_congr_left fun v hv=>(atom_den (ha v hv)).symm
         have d2:cs.map (den1 ρ)=(cs.toList.map (den ρ)).toArray:=by
          apply Array.toList_inj.1
          simp only[Array.toList_map]
          exact List.map_congr_left fun v hv=>(atom_den (hb v hv)).symm
         cases hfn:P.funcs[f]? with
         | none=>rw[hfn] at hent;simp at hent
         | some fn=>
          rw[hfn] at hent
          simp at hent
          have hc:=hrun h hs (fun v hv=>by
           rw[List.mem_append,List.mem_append] at hv
           rcases hv with hv | hv | hv
           ·rw[atom_ok (ha v hv)];exact hfk.1 v (by simpa using hv)
           ·exact h2 v hv
           ·rw[atom_ok (hb v hv)];exact hfk.2 v (by simpa using hv))
          unfold Oper.wp
          have he:a.eval (.tmp t)=.func (.func f) (fs.map (den1 ρ)) (cs.map (den1 ρ)):=by
           simp only[Act.eval,Array.getD_eq_getD_getElem?,hfv]
           rfl
          have hx:(execOp a.eval { dst:=dst,op:=.call { callee:=.value (.tmp t),args:=args,argTypes:=argTypes },type:=type,pos:=pos,after:=after,guard:=guard }).run P w=.ok (.enter f ((fs.toList++(vs++cs.toList)).map (den ρ)).toArray) w:=by
           have hbs:fn.body≠none:=by intro hb;rw[hb] at hent;simp at hent
           simp[execOp,resolve,he,Deferred.ofValue,invoke,callFunc,hfn,hent.1,hbs,h1',d1,d2,program,Sem.run]
          rw[hx]
          refine hc.mono fun e w' he=>?_
          obtain⟨v,mem',nx',ρ',rfl,hK,hs',hv,hx'⟩:=he
          exact⟨_,_,_,_,hK,hs'.put (d:=dst) hd hv,hx',fun _ q=>lk_putF q⟩
        ·exact h.elim
     ·exact h.elim
end
/-! Operations on wider blocks are carried out as told. -/
section
variable {P:Program} {τ:TT} {F:FT} {C:Ctx} {ρ ρ':Nat→Pl} {fr:AF} {mem:AM} {nx:Nat} {a:Act} {w:World} {Q:Exit→Act→World→Prop}
theorem Sat.addF (h:Sat C ρ fr mem nx a w) {b:ABlk} {p:Pl} (hok:BlkOk C (setPl ρ nx p) (nx+1) nx w b) (hfree:∀ g,brd (setPl ρ nx p) nx b g→∀ j b',lk (mem++C.fm) j=some b'→¬ brd ρ j b' g) (hp:p.res=false) :
  Sat C (setPl ρ nx p) fr ((nx,b)::mem) (nx+1) a w:=by
 have hr:∀ j,j<nx→setPl ρ nx p j=ρ j:=fun j hj=>setPl_lt ρ p hj
 have h1:=h.ren (ρ':=setPl ρ nx p) (m:=nx+1) (fun j hj _=>hr j hj) (Nat.le_succ _) (fun j hj=>hr j (Nat.lt_of_lt_of_le hj h.n0))
 have key:∀ j b',lk (mem++C.fm) j=some b'→Apart (setPl ρ nx p) nx j b b'∧Apart (setPl ρ nx p) j nx b' b:=by
  intro j b' hj
  have hjl:=hr j (h.mlt j b' hj).1
  refine⟨hok.apart fun g hg hg2=>?_,(h1.blk j b' hj).apart fun g hg hg2=>?_⟩
  ·rw[brd_ren hjl] at hg2;exact hfree g (bwr_brd hg) j b' hj hg2
  ·rw[bwr_ren hjl] at hg;exact hfree g hg2 j b' hj (bwr_brd hg)
 refine⟨h1.fok,h1.sz,h1.dfr,fun i b' hi=>?_,fun i b' hi=>?_,fun i j b1 b2 hne hi hj=>?_,h1.n0,h1.low,h1.rest⟩
 ·rcases lk_cons hi with⟨rfl,rfl⟩ | ⟨hne,hi⟩
  ·exact⟨Nat.lt_succ_self _,by rw[setPl_same];exact hp⟩
  ·exact h1.mlt i b' hi
 ·rcases lk_cons hi with⟨rfl,rfl⟩ | ⟨hne,hi⟩
  ·exact hok
  ·exact h1.blk i b' hi
 ·rcases lk_cons hi with⟨rfl,rfl⟩ | ⟨hni,hi⟩
  ·rcases lk_cons hj with⟨rfl,rfl⟩ | ⟨hnj,hj⟩
   ·exact absurd rfl hne
   ·exact (key j b2 hj).1
  ·rcases lk_cons hj with⟨rfl,rfl⟩ | ⟨hnj,hj⟩
   ·exact (key i b1 hi).2
   ·exact h1.sep i j b1 b2 hne hi hj
theorem noFam_ok {i:Nat}:BlkOk C ρ nx i w noFam:=⟨rfl,fun k o=>⟨fun j hj=>absurd hj (Nat.not_lt_zero _),.inl rfl⟩⟩
theorem noFam_rd {i g:Nat}:¬ brd ρ i noFam g:=fun⟨_,_,h,_⟩=>h rfl
theorem Sat.forget (h:Sat C ρ fr mem nx a w) {i:Nat} {b:ABlk} (hb:lk mem i=some b):Sat C ρ fr ((i,noFam)::mem) nx a w:=
 h.write hb rfl (fun _ _=>rfl) noFam_ok (fun g hg=>absurd hg noFam_rd) (fun g hg=>absurd (bwr_brd hg) noFam_rd) h.rest
theorem famT_own (b:Bool):ownT (famT b)=false:=by cases b<;>rfl
theorem famT_fr {b:Bool} (h:frT (famT b)=true):b=true:=by cases b<;>first | rfl | cases h
theorem row_ro {t:TypeId} (ho:ownT t=false) {i sz n:Nat} {el:Nat→List Value} (g:Nat):¬ bwr ρ i (.row t sz n el) g:=fun h=>by have q:=h.1;rw[ho] at q;cases q
theorem fam_ro {i:Nat} {t:TypeId} {sb:Nat→Nat→SB} (g:Nat):¬ bwr ρ i (.ext (.fam t sb)) g:=fun h=>h
structure SbAt (C:Ctx) (ρ:Nat→Pl) (mem:AM) (w:World) (t:TypeId) (s:SB) (A:Option Addr):Prop where
 pl:∀ j,j<s.n→(s.el j).length=s.sz∧∀ u ∈ s.el j,plain1 u
 at_:s.n=0∨∃ b off,A=some ⟨b,off,none⟩∧RowA C.ok w t b off∧(∀ j,j<s.n→∀ q v,(s.el j)[q]?=some v→w.cell? ⟨b,off+j * s.sz+q,none⟩=some v)∧∃ i b0,lk (mem++C.fm) i=some b0∧brd ρ i b0 b∧∀ g,¬ bwr ρ i b0 g
theorem SbAt.empty {t:TypeId} {A:Option Addr}:SbAt C ρ mem w t emptySB A:=⟨fun j hj=>absurd hj (Nat.not_lt_zero _),.inl rfl⟩
theorem SbAt.ty {t t':TypeId} {s:SB} {A:Option Addr} (h:SbAt C ρ mem w t s A) (ho:ownT t'=false) (hf:frT t'=true→frT t=true):SbAt C ρ mem w t' s A:=
 ⟨h.pl,h.at_.imp id fun⟨b,off,h1,h2,h3⟩=>⟨b,off,h1,⟨h2.lt,(fun q=>by rw[ho] at q;cases q),fun q=>h2.new (hf q)⟩,h3⟩⟩
theorem Sat.famAt (hs:Sat C ρ fr mem nx a w) {u:Nat} {t:TypeId} {sb:Nat→Nat→SB} (h:lk mem u=some (.ext (.fam t sb))) (k o:Nat):SbAt C ρ mem w t (sb k o) ((ρ u).sub k o):=by
 have hb:=hs.blk u _ (lk_app h)
 refine⟨(hb.2 k o).1,?_⟩
 by_cases hn:(sb k o).n=0
 ·exact .inl hn
 ·obtain⟨b,off,hA,hat,hc⟩:=(hb.2 k o).2.resolve_left hn
  exact .inr ⟨b,off,hA,hat,hc,u,_,lk_app h,⟨k,o,hn,by simp[hA]⟩,fam_ro⟩
theorem Sat.rowAt (hs:Sat C ρ fr mem nx a w) {r:Nat} {t:TypeId} {sz n:Nat} {el:Nat→List Value} (h:lk mem r=some (.row t sz n el)) (ho:ownT t=false):SbAt C ρ mem w t ⟨sz,n,el⟩ (ρ r).A:=by
 have hb:=hs.blk r _ (lk_app h)
 refine⟨hb.2.1,?_⟩
 by_cases hn:n=0
 ·exact .inl hn
 ·obtain⟨b,off,hA,hat,hc⟩:=hb.2.2.resolve_left hn
  exact .inr ⟨b,off,hA,hat,hc,r,_,lk_app h,⟨hn,by simp[bno,hA]⟩,row_ro ho⟩
def slA (ρ:Nat→Pl):Value→Option Addr
 | .slice (some a) _ _=>dS ρ a
 | _=>none
theorem plB_dpl {v:Value} (h:plB v=true):dpl v:=by
 cases v with
 | pointer p=>cases p<;>simp_all [plB,dpl]
 | map p=>cases p<;>simp_all [plB,dpl]
 | _=>trivial
theorem Sat.sbV (hs:Sat C ρ fr mem nx a w) {v:Value} {b:Bool} {s:SB} (h:sbV mem v=some (b,s)):dpl v∧SbAt C ρ mem w (famT b) s (slA ρ v):=by
 have other:∀ {v:Value},(match atom v,plB v with | true,true=>some (true,emptySB) | _,_=>none)=some (b,s)→dpl v∧SbAt C ρ mem w (famT b) s (slA ρ v):=by
  intro v h
  split at h
  ·rename_i h1 h2
   cases h
   exact⟨plB_dpl h2,.empty⟩
  ·cases h
 cases v with
 | slice A n c=>
  cases A with
  | none=>exact other h
  | some ad=>
   obtain⟨q,o,sp⟩:=ad
   simp only[Proofs.YtchhdflealgkaaaGreat.sbV] at h
   cases sp with
   | none=>
    simp only at h
    split at h
    ·rename_i t sz n2 el hl
     split at h
     ·rename_i ho
      cases h
      refine⟨trivial,(hs.rowAt hl ho).ty (famT_own _) fun q=>famT_fr q⟩
     ·cases h
    ·cases h
   | some k=>
    simp only at h
    split at h
    ·rename_i t sb hl
     cases h
     exact⟨trivial,(hs.famAt hl k o).ty (famT_own _) fun q=>famT_fr q⟩
    ·cases h
 | _=>exact other h
theorem famT_and {b c:Bool} (h:frT (famT (b&&c))=true):frT (famT b)=true∧frT (famT c)=true:=by cases b<;>cases c<;>first | exact⟨rfl,rfl⟩ | cases h
theorem Sat.sbL (hs:Sat C ρ fr mem nx a w):∀ {l:List Value} {b:Bool} {ss:List SB},sbL mem l=some (b,ss)→ss.length=l.length∧∀ (j:Nat) (v:Value),l[j]?=some v→dpl v∧SbAt C ρ mem w (famT b) (ss.getD j emptySB) (slA ρ v)
 | [],b,ss,h=>by simp[Proofs.YtchhdflealgkaaaGreat.sbL] at h;obtain⟨rfl,rfl⟩:=h;exact⟨rfl,fun j v hj=>by simp at hj⟩
 | v::l,b,ss,h=>by
  simp only[Proofs.YtchhdflealgkaaaGreat.sbL] at h
  split at h
  ·rename_i b1 s c r h1 h2
   cases h
   obtain⟨g1,g2⟩:=hs.sbV h1
   obtain⟨g3,g4⟩:=hs.sbL h2
   refine⟨by simp[g3],fun j u hj=>?_⟩
   cases j with
   | zero=>simp at hj;subst hj;exact⟨g1,g2.ty (famT_own _) fun q=>(famT_and q).1⟩
   | succ j=>simp only[List.getElem?_cons_succ] at hj;obtain⟨e1,e2⟩:=g4 j u hj;exact⟨e1,e2.ty (famT_own _) fun q=>(famT_and q).2⟩
  ·cases h
theorem Sat.sbLL (hs:Sat C ρ fr mem nx a w):∀ {l:List (List Value)} {b:Bool} {ss:List (List SB)},sbLL mem l=some (b,ss)→ss.length=l.length∧∀ k,k<l.length→(ss.getD k []).length=(l.getD k []).length∧∀ (j:Nat) (v:Value),(l.getD k [])[j]?=some v→dpl v∧SbAt C ρ mem w (famT b) ((ss.getD k []).getD j emptySB) (slA ρ v)
 | [],b,ss,h=>by simp[Proofs.YtchhdflealgkaaaGreat.sbLL] at h;obtain⟨rfl,rfl⟩:=h;exact⟨rfl,fun j hj=>by simp at hj⟩
 | v::l,b,ss,h=>by
  simp only[Proofs.YtchhdflealgkaaaGreat.sbLL] at h
  split at h
  ·rename_i b1 s c r h1 h2
   cases h
   obtain⟨g1,g2⟩:=hs.sbL h1
   obtain⟨g3,g4⟩:=hs.sbLL h2
   refine⟨by simp[g3],fun k hk=>?_⟩
   cases k with
   | zero=>exact⟨g1,fun j u hj=>by obtain⟨e1,e2⟩:=g2 j u hj;exact⟨e1,e2.ty (famT_own _) fun q=>(famT_and q).1⟩⟩
   | succ k=>
    simp only[List.length_cons] at hk
    obtain⟨e0,e⟩:=g4 k (by omega)
    exact⟨e0,fun j u hj=>by obtain⟨e1,e2⟩:=e j u hj;exact⟨e1,e2.ty (famT_own _) fun q=>(famT_and q).2⟩⟩
  ·cases h
theorem Sat.addFam (h:Sat C ρ fr mem nx a w) {t:TypeId} (ho:ownT t=false) {sb:Nat→Nat→SB} {sub:Nat→Nat→Option Addr} (hsb:∀ k o,SbAt C ρ mem w t (sb k o) (sub k o)) :
  Sat C (setPl ρ nx ⟨none,0,0,false,sub⟩) fr ((nx,.ext (.fam t sb))::mem) (nx+1) a w:=by
 refine h.view ⟨ho,fun k o=>⟨(hsb k o).pl,?_⟩⟩ fam_ro rfl ?_
 ·rw[setPl_same]
  exact (hsb k o).at_.imp id fun⟨b,off,h1,h2,h3,_⟩=>⟨b,off,h1,h2,h3⟩
 ·rintro g ⟨k,o,hn,hg⟩
  rw[setPl_same] at hg
  obtain⟨b,off,h1,h2,h3,i,b0,h4,h5,h6⟩:=(hsb k o).at_.resolve_left hn
  simp only[h1,Option.map_some,Option.some.injEq] at hg
  subst hg
  exact⟨i,b0,h4,h5,h6⟩
theorem dumV_dp {u k j:Nat} {ρ':Nat→Pl} {v:Value} (hd:dpl v) (hs:(ρ' u).sub k j=slA ρ v):den1 ρ' (dpV u k j (dumV v))=den1 ρ v:=by
 cases v with
 | slice A n c=>cases A with
  | none=>rfl
  | some ad=>simp only[dumV,dpV,den1,dS,hs];rfl
 | pointer p=>cases p with
  | none=>rfl
  | some ad=>exact hd.elim
 | map p=>cases p with
  | none=>rfl
  | some i=>exact hd.elim
 | _=>rfl
theorem dumV_dpl {v:Value} (hd:dpl v):dpl (dumV v):=by
 cases v with
 | slice A n c=>cases A<;>trivial
 | _=>exact hd
theorem dp_dp {u k j u' k':Nat} {ρ':Nat→Pl} {v:Value} (hd:dpl v) (hs:(ρ' u').sub k' j=(ρ u).sub k j):den1 ρ' (dpV u' k' j v)=den1 ρ (dpV u k j v):=by
 cases v with
 | slice A n c=>cases A with
  | none=>rfl
  | some ad=>simp only[dpV,den1,dS,hs]
 | pointer p=>cases p with
  | none=>rfl
  | some ad=>exact hd.elim
 | map p=>cases p with
  | none=>rfl
  | some i=>exact hd.elim
 | _=>rfl
end
section
variable {P:Program} {τ:TT} {F:FT} {C:Ctx} {ρ ρ':Nat→Pl} {fr:AF} {mem:AM} {nx:Nat} {a:Act} {w:World} {Q:Exit→Act→World→Prop}
theorem fill_vals (hf:FrOk ρ fr nx a) {sz:Nat}:∀ (parts:List (Nat×Operand)) (p:Nat) (rs:List (List Value)) (base:Array Value),partsx fr sz p parts=some rs→(p+rs.length) * sz≤base.size→
  ∃ out,Instr.fill (fun i=>some (i * sz,sz)) base (parts.map fun q=>(q.1,a.eval q.2))=some out∧(∀ q,q<p * sz→out[q]?=base[q]?)∧(∀ r ∈ rs,r.length=sz∧∀ v ∈ r,ok1 ρ nx v)∧(out.size=base.size)∧∀ k j v,k<rs.length→(rs.getD k [])[j]?=some v→out[(p+k) * sz+j]?=some (den1 ρ v)
 | [],p,rs,base,h,hsz=>by
  simp[partsx] at h
  subst h
  exact⟨base,rfl,fun _ _=>rfl,(fun r hr=>absurd hr (List.not_mem_nil)),rfl,fun k j v hk=>absurd hk (Nat.not_lt_zero _)⟩
 | (i,x)::r,p,rs,base,h,hsz=>by
  simp only[partsx] at h
  split at h
  ·rename_i v hi hx
   split at h
   ·rename_i hl hat
    have hl':(cellsOf v).length=sz:=by simpa using hl
    cases hr:partsx fr sz (p+1) r with
    | none=>rw[hr] at h;simp at h
    | some rs'=>
     rw[hr] at h
     simp at h
     subst h
     obtain rfl:i=p:=Nat.eq_of_beq_eq_true hi
     obtain⟨h1,h2⟩:=ev_ok hf hx
     have hcs:(den ρ v).cells=((cellsOf v).map (den1 ρ)).toArray:=cells_den' (notTuple hat)
     simp only[List.length_cons] at hsz
     have hb:i * sz+sz≤base.size:=by
      have:=Nat.mul_le_mul_right sz (show i+1≤i+(rs'.length+1) by omega)
      rw[Nat.add_mul] at this
      omega
     have hb2:putL base (i * sz) ((cellsOf v).map (den1 ρ))=(den ρ v).cells.zipIdx.foldl (fun cs (c:Value×Nat)=>cs.setIfInBounds (i * sz+c.2) c.1) base:=by
      rw[hcs]
      have:=zip_putL (i * sz) ((cellsOf v).map (den1 ρ)) 0 base
      rw[Nat.add_zero] at this
      rw[← this,← Array.foldl_toList,Array.toList_zipIdx]
     have hsize:(putL base (i * sz) ((cellsOf v).map (den1 ρ))).size=base.size:=putL_size _ _ _
     have hsz2:(i+1+rs'.length) * sz≤(putL base (i * sz) ((cellsOf v).map (den1 ρ))).size:=by
      rw[hsize,show i+1+rs'.length=i+(rs'.length+1) by omega]
      exact hsz
     obtain⟨out,g1,g2,g3,g5,g4⟩:=fill_vals hf r (i+1) rs' (putL base (i * sz) ((cellsOf v).map (den1 ρ))) hr hsz2
     refine⟨out,?_,fun q hq=>?_,fun r' hr'=>?_,g5.trans hsize,fun k j u hk hu=>?_⟩
     ·rw[List.map_cons]
      simp only
      rw[Instr.fill]
      simp only[h1]
      rw[if_neg (by rw[hcs];simp[hl'];omega),← hb2]
      exact g1
     ·rw[g2 q (by rw[Nat.add_mul];omega),putL_at,if_neg (by omega)]
     ·rcases List.mem_cons.1 hr' with rfl | hr'
      ·exact⟨hl',cells_ok' (notTuple hat) h2⟩
      ·exact g3 r' hr'
     ·cases k with
      | zero=>
       simp only[List.getD_cons_zero] at hu
       have hj:j<sz:=by rw[← hl'];exact (List.getElem?_eq_some_iff.1 hu).1
       rw[Nat.add_zero,g2 _ (by rw[Nat.add_mul];omega),putL_at,if_pos (by rw[List.length_map];omega),Nat.add_sub_cancel_left,List.getElem?_map,hu]
       rfl
      | succ k=>
       simp only[List.getD_cons_succ,List.length_cons] at hu hk
       have:=g4 k j u (by omega) hu
       rw[show i+(k+1)=i+1+k by omega]
       exact this
   ·simp at h
  ·simp at h
theorem Sat.newDeep (h:Sat C ρ fr mem nx a w) (t ty:TypeId) {sz n cap:Nat} {el:Nat→List Value} {u:Nat} {cells:Array Value} (hu:u<nx∧(ρ u).res=false) (hel:∀ k,k<n→(el k).length=sz∧∀ v ∈ el k,dpl v) (hc:∀ k,k<n→∀ j v,(el k)[j]?=some v→cells[k * sz+j]?=some (den1 ρ (dpV u k j v)))
  (hcap:cap * sz≤cells.size) (h0:n=0→cap=0) :
  Sat C (setPl ρ nx ⟨some ⟨w.heap.size,0,none⟩,sz,n,false,noSub⟩) fr ((nx,.ext (.deep t sz n cap el u))::mem) (nx+1) a (w.alloc (.cells cells ty)):=by
 have hB:=Blk.new w ty cells
 have hu':setPl ρ nx ⟨some ⟨w.heap.size,0,none⟩,sz,n,false,noSub⟩ u=ρ u:=setPl_lt ρ _ hu.1
 refine h.addX ((Below.refl _ _).alloc (Nat.le_refl _) _) ⟨by rw[setPl_same];exact⟨rfl,rfl⟩,⟨by omega,by rw[hu'];exact hu.2⟩,hel,?_⟩ (fun g hg=>?_) rfl
 ·by_cases hn:n=0
  ·exact .inl ⟨hn,fun _=>h0 hn⟩
  ·refine .inr ⟨hn,w.heap.size,0,by rw[setPl_same],⟨hB.lt,fun _=>⟨rfl,.inl h.rest.size,ty,cells,hB⟩,fun _=>.inl h.rest.size⟩,fun _=>⟨ty,cells,hB,hcap⟩,fun k hk j v hv=>?_⟩
   rw[Nat.zero_add,hB.cell,hc k hk j v hv,dpV_congr hu' k j ((hel k hk).2 v (List.mem_of_getElem? hv))]
 ·have:=hg.2
  unfold bno at this
  rw[setPl_same] at this
  simp at this
  omega
theorem mem_at {l:List Value} {v:Value} (h:v ∈ l):∃ j:Nat,l[j]?=some v:=List.getElem?_of_mem h
theorem Sat.unownRow (h:Sat C ρ fr mem nx a w) {r:Nat} {t:TypeId} {sz n:Nat} {el:Nat→List Value} (hr:lk mem r=some (.row t sz n el)) (ho:ownT t=true):Sat C ρ fr ((r,.row 500000 sz n el)::mem) nx a w:=by
 obtain⟨q1,q2,q3⟩:=h.blk _ _ (lk_app (r:=C.fm) hr)
 refine h.write hr rfl (fun _ _=>rfl) ⟨q1,q2,q3.imp id ?_⟩ (fun g hg=>hg) (fun g hg=>by cases hg.1) h.rest
 rintro⟨b,off,hA,hat,hc⟩
 exact⟨b,off,hA,⟨hat.lt,(fun q=>by cases q),(fun _=>hat.new (frT_own ho))⟩,hc⟩
theorem unown_sat {K:AM→Prop}:∀ (l:List Value) {mem:AM},unownK l mem K→Sat C ρ fr mem nx a w→∃ mem',K mem'∧Sat C ρ fr mem' nx a w
 | [],mem,h,hs=>⟨mem,h,hs⟩
 | v::l,mem,h,hs=>by
  unfold unownK at h
  dsimp only at h
  split at h
  ·split at h
   ·rename_i hlk
    split at h
    ·rename_i ho
     exact unown_sat l h (hs.unownRow hlk ho)
    ·exact unown_sat l h hs
   ·exact unown_sat l h hs
  ·exact unown_sat l h hs
theorem bsy_sound (hτ:TTok P τ) {o:Oper} {t:TypeId} {len:Nat} {parts:Array (Nat×Operand)} (ho:o.op=.buildSlice t len parts) (hd:∀ i,o.dst=some i→i<C.nt) {K:AF→AM→Nat→Prop} (h:acty τ o.dst o.op fr mem nx K) (hs:Sat C ρ fr mem nx a w) :
  o.wp P a w (fun a' w'=>∃ fr' mem' nx' ρ',K fr' mem' nx'∧Sat C ρ' fr' mem' nx' a' w'∧ExtS ρ nx ρ' nx'∧∀ d,o.dst≠some d→lk fr' d=lk fr d) Q:=by
 obtain⟨dst,op,type,pos,after,guard⟩:=o
 simp only at hd h ho
 subst ho
 simp only[acty,putK_eq] at h
 cases hti:lk τ t with
 | none=>rw[hti] at h;exact h.elim
 | some ti=>
  rw[hti] at h
  simp only at h
  split at h
  ·rename_i eb te hsl heb hte
   split at h
   ·rename_i rs hs1 hrs hip
    split at h
    ·rename_i hlen hle
     have ht:=hτ t ti hti
     obtain⟨hu,hby⟩:=ht.elt heb
     obtain⟨ie,hie,hsz,z,hz,hzc⟩:=(hτ _ te hte).size
     have hlen':rs.length=len:=Nat.eq_of_beq_eq_true hlen
     have hle':len≤1000:=Nat.le_of_ble_eq_true hle
     obtain⟨out,g1,-,g3,g5,g4⟩:=fill_vals (a:=a) (sz:=te.size) hs.fok.left parts.toList 0 rs ((Array.range (len * te.size)).map fun i=>(if len * te.size=0 then #[] else z.cells)[i % (if len * te.size=0 then #[] else z.cells).size]!) hrs (by simp[hlen'])
     have hcs:∀ v ∈ rs.map (fun l=>l.headD .nilFunc),ok1 ρ nx v:=fun v hv=>by
      obtain⟨r,hr,rfl⟩:=List.mem_map.1 hv
      obtain⟨q1,q2⟩:=g3 r hr
      rw[hs1] at q1
      cases r with
      | nil=>cases q1
      | cons x r=>exact q2 x (by simp)
     have hout:out=((rs.map fun l=>l.headD .nilFunc).map (den1 ρ)).toArray:=by
      apply Array.ext
      ·rw[g5];simp[hs1,hlen']
      ·intro k hk1 hk2
       have hk:k<rs.length:=by simpa using hk2
       have hr:rs[k]?=some (rs.getD k []):=by rw[List.getD_eq_getElem?_getD,List.getElem?_eq_getElem hk];rfl
       obtain⟨q1,q2⟩:=g3 _ (List.mem_of_getElem? hr)
       rw[hs1] at q1
       have h4:=fun v=>g4 k 0 v hk
       have hr2:rs.getD k []=rs[k]:=by rw[List.getD_eq_getElem?_getD,List.getElem?_eq_getElem hk];rfl
       cases hx:rs.getD k [] with
       | nil=>rw[hx] at q1;cases q1
       | cons x r=>
        have:=h4 x (by rw[hx];rfl)
        rw[hs1,Nat.zero_add,Nat.mul_one,Nat.add_zero,Array.getElem?_eq_getElem hk1] at this
        rw[hr2] at hx
        simpa [hx] using this
     have hs2:=hs.newBox ti.elt hcs
     have e0:den (setPl ρ nx ⟨some ⟨w.heap.size,0,none⟩,0,0,false,noSub⟩) (.slice (some ⟨nx,0,none⟩) len len)=.slice (some ⟨w.heap.size,0,none⟩) len len:=by simp[den,den2,den1,dS_whole,setPl_same]
     have hs3:=hs2.put (d:=dst) (v:=.slice (some ⟨nx,0,none⟩) len len) hd ⟨Nat.lt_succ_self _,by show (setPl ρ nx _ nx).res=false;rw[setPl_same]⟩
     rw[e0,← hout] at hs3
     refine wp_value (w':=w.alloc (.cells out ti.elt)) ?_ ⟨_,_,_,_,h,hs3,ExtS.set _ _ _,fun _ q=>lk_putF q⟩
     have hz0:¬ (16777216<len * te.size):=by rw[hs1];omega
     by_cases h0:len * te.size=0
     ·simp only[h0,if_true] at g1
      rw[show (Array.range 0).map (fun i=>(#[]:Array Value)[i % (#[]:Array Value).size]!)=#[] by simp[Array.range_zero']] at g1
      simp[execOp,Instr.buildSlice,run_underlying hu,sizeOf,typeInfo,hie,hsz,h0,g1,newRow,newObj,Sem.run,Array.range_zero']
     ·simp only[h0,if_false] at g1
      simp[execOp,Instr.buildSlice,run_underlying hu,sizeOf,typeInfo,zeroValue,hie,hsz,hz,hz0,h0,g1,newRow,newObj,Sem.run]
    ·exact h.elim
   ·rename_i s rs hs1 hrs hip
    obtain⟨memU,h,hs⟩:=unown_sat _ h hs
    split at h
    ·rename_i b ss hlen hle hss
     obtain⟨el,sb,⟨hel,hout⟩,hK⟩:=h
     have ht:=hτ t ti hti
     obtain⟨hu,hby⟩:=ht.elt heb
     obtain⟨ie,hie,hsz,z,hz,hzc⟩:=(hτ _ te hte).size
     have hlen':rs.length=len:=Nat.eq_of_beq_eq_true hlen
     have hle':len * te.size≤16777216:=Nat.le_of_ble_eq_true hle
     obtain⟨out,g1,-,g3,g5,g4⟩:=fill_vals (a:=a) hs.fok.left parts.toList 0 rs ((Array.range (len * te.size)).map fun i=>(if len * te.size=0 then #[] else z.cells)[i % (if len * te.size=0 then #[] else z.cells).size]!) hrs (by simp[hlen'])
     obtain⟨q1,q2⟩:=hs.sbLL hss
     have hrow:∀ k,k<len→(rs.getD k []).length=te.size:=fun k hk=>by
      have:rs[k]?=some (rs.getD k []):=by rw[List.getD_eq_getElem?_getD,List.getElem?_eq_getElem (by omega)];rfl
      exact (g3 _ (List.mem_of_getElem? this)).1
     let sub:Nat→Nat→Option Addr:=fun k j=>match (rs.getD k [])[j]? with | some v=>slA ρ v | none=>none
     have hsub:∀ k j v,(rs.getD k [])[j]?=some v→sub k j=slA ρ v:=fun k j v hv=>by show (match (rs.getD k [])[j]? with | some v=>slA ρ v | none=>none)=_;rw[hv]
     have hsb:∀ k o,SbAt C ρ memU w (famT b) (sb k o) (sub k o):=fun k o=>by
      by_cases hk:k<len
      ·rw[(hel k hk).2 o]
       cases ho:(rs.getD k [])[o]? with
       | some v=>rw[hsub k o v ho];exact ((q2 k (by omega)).2 o v ho).2
       | none=>
        have:(ss.getD k []).getD o emptySB=emptySB:=by
         rw[List.getD_eq_getElem?_getD,List.getElem?_eq_none (by rw[(q2 k (by omega)).1];exact List.getElem?_eq_none_iff.1 ho)];rfl
        rw[this];exact .empty
      ·exact⟨fun j hj=>by rw[hout k (by omega) o] at hj;omega,.inl (hout k (by omega) o)⟩
     have hs1:=hs.addFam (famT_own b) hsb
     have hlow:∀ i,i<nx→setPl ρ nx ⟨none,0,0,false,sub⟩ i=ρ i:=fun i hi=>setPl_lt ρ _ hi
     have hs2:=hs1.newDeep (1000000+ti.elt) ti.elt (sz:=te.size) (n:=len) (cap:=len) (el:=el) (u:=nx) (cells:=out) ⟨Nat.lt_succ_self _,by rw[setPl_same]⟩ (fun k hk=>by
      rw[(hel k hk).1]
      refine⟨by rw[List.length_map];exact hrow k hk,fun v hv=>?_⟩
      obtain⟨u,hu,rfl⟩:=List.mem_map.1 hv
      obtain⟨j,hj⟩:=mem_at hu
      exact dumV_dpl ((q2 k (by omega)).2 j u hj).1) (fun k hk j v hv=>by
      rw[(hel k hk).1,List.getElem?_map] at hv
      cases hj:(rs.getD k [])[j]? with
      | none=>rw[hj] at hv;simp at hv
      | some u=>
       rw[hj] at hv
       simp at hv
       subst hv
       have:=g4 k j u (by omega) hj
       rw[Nat.zero_add] at this
       rw[this,dumV_dp (ρ:=ρ) ((q2 k (by omega)).2 j u hj).1 (by rw[setPl_same];exact hsub k j u hj)]) (by rw[g5];simp) (fun h=>h)
     obtain⟨e1,e2⟩:=slc_new (ρ:=setPl ρ nx ⟨none,0,0,false,sub⟩) (nx:=nx+1) w.heap.size te.size len len len
     have hs3:=hs2.put (d:=dst) hd e2
     rw[e1] at hs3
     refine wp_value (w':=w.alloc (.cells out ti.elt)) ?_ ⟨_,_,_,_,hK,hs3,(ExtS.set _ _ _).trans (ExtS.set _ _ _),fun _ q=>lk_putF q⟩
     have hz0:¬ (16777216<len * te.size):=by omega
     by_cases h0:len * te.size=0
     ·simp only[h0,if_true] at g1
      rw[show (Array.range 0).map (fun i=>(#[]:Array Value)[i % (#[]:Array Value).size]!)=#[] by simp[Array.range_zero']] at g1
      simp[execOp,Instr.buildSlice,run_underlying hu,sizeOf,typeInfo,hie,hsz,h0,g1,newRow,newObj,Sem.run,Array.range_zero']
     ·simp only[h0,if_false] at g1
      simp[execOp,Instr.buildSlice,run_underlying hu,sizeOf,typeInfo,zeroValue,hie,hsz,hz,hz0,h0,g1,newRow,newObj,Sem.run]
    ·exact h.elim
   ·exact h.elim
  ·exact h.elim
end
section
variable {P:Program} {τ:TT} {F:FT} {C:Ctx} {ρ ρ':Nat→Pl} {fr:AF} {mem:AM} {nx:Nat} {a:Act} {w:World} {Q:Exit→Act→World→Prop}
theorem index_run (hτ:TTok P τ) {t:TypeId} {ti:TI} (hti:lk τ t=some ti) (hsl:ti.sl=true) {s:Nat} (hes:ti.esz=s+1) {b off n cp:Nat} {kk:IntKind} {k:Int} (h0:0≤k) (h1:k<n) :
  (Instr.indexAt t (.slice (some ⟨b,off,none⟩) n cp) (.int kk k)).run P w=.ok (.pointer (some ⟨b,off+k.toNat * ti.esz,none⟩)) w:=by
 obtain⟨e,hu,he⟩:=(hτ t ti hti).slice hsl
 cases hi:P.info? e with
 | none=>simp[szOf,hi] at he;omega
 | some ii=>
  have hes:ii.size=ti.esz:=by rw[← he];simp[szOf,hi]
  simp[Instr.indexAt,asIntOf,run_underlying hu,h0,h1,sizeOf,typeInfo,hi,hes,Addr.add_mid]
theorem ixy_sound (hτ:TTok P τ) {o:Oper} {t:TypeId} {x i:Operand} (ho:o.op=.indexAddr t x i) (hd:∀ i,o.dst=some i→i<C.nt) {K:AF→AM→Nat→Prop} (h:acty τ o.dst o.op fr mem nx K) (hs:Sat C ρ fr mem nx a w) :
  o.wp P a w (fun a' w'=>∃ fr' mem' nx' ρ',K fr' mem' nx'∧Sat C ρ' fr' mem' nx' a' w'∧ExtS ρ nx ρ' nx'∧∀ d,o.dst≠some d→lk fr' d=lk fr d) Q:=by
 obtain⟨dst,op,type,pos,after,guard⟩:=o
 simp only at hd h ho
 subst ho
 simp only[acty,putK_eq] at h
 split at h
 ·rename_i q oo sp n cap kk k ti hx hi hti
  obtain⟨h1,h2⟩:=ev_ok hs.fok.left hx
  have h3:a.eval i=.int kk k:=(ev_ok hs.fok.left hi).1
  split at h
  ·rename_i bt cs hl
   split at h
   ·rename_i kk2 hsl hesz
    split at h
    ·rename_i hlt
     have hlt':kk2<n:=by simpa using hlt
     obtain⟨g,hA,-,-,-⟩:=hs.blk _ _ (lk_app hl)
     have hok:okV ρ nx (.pointer (some ⟨q,kk2,none⟩)):=⟨hs.mlt _ _ (lk_app hl),⟨g,0,hA⟩,fun j hj=>by cases hj⟩
     have hs3:=hs.put (d:=dst) hd hok
     have e1:den ρ (.slice (some ⟨q,0,none⟩) n cap)=.slice (some ⟨g,0,none⟩) n cap:=by simp[den,den2,den1,dS_whole,hA]
     have e2:den ρ (.pointer (some ⟨q,kk2,none⟩))=.pointer (some ⟨g,kk2,none⟩):=by simp[den,den2,den1,dA_some (a:=⟨q,kk2,none⟩) hA]
     rw[e2] at hs3
     rw[e1] at h1
     refine wp_value (w':=w) ?_ ⟨_,_,_,_,h,hs3,ExtS.refl _ _,fun _ q=>lk_putF q⟩
     simp only[execOp,h1,h3]
     rw[Sem.run_bind,index_run (k:=Int.ofNat kk2) hτ hti hsl hesz (Int.natCast_nonneg _) (Int.ofNat_lt.2 hlt'),hesz]
     simp
    ·exact h.elim
   ·exact h.elim
  ·rename_i t1 sz n' c1 el u hl
   split at h
   ·rename_i s hsl hesz hbe
    obtain⟨⟨hn,hk0,hkn⟩,hK⟩:=h
    have hsz:ti.esz=sz:=Nat.eq_of_beq_eq_true hbe
    obtain⟨⟨hs1,hs2⟩,-,-,hrow⟩:=hs.blk _ _ (lk_app hl)
    rcases hrow with h0 | ⟨-,b,off,hA,hlt,-⟩
    ·omega
    ·have hok:okV ρ nx (.pointer (some ⟨q,0,some k.toNat⟩)):=⟨hs.mlt _ _ (lk_app hl),⟨b,off,hA⟩,fun j hj=>by cases hj;show k.toNat<(ρ q).n;rw[hs2];omega⟩
     have hs3:=hs.put (d:=dst) hd hok
     have e1:den ρ (.slice (some ⟨q,0,none⟩) n cap)=.slice (some ⟨b,off,none⟩) n cap:=by simp[den,den2,den1,dS_whole,hA]
     have e2:den ρ (.pointer (some ⟨q,0,some k.toNat⟩))=.pointer (some ⟨b,off+k.toNat * sz,none⟩):=by simp[den,den2,den1,dA_some (a:=⟨q,0,some k.toNat⟩) hA,hs1]
     rw[e2] at hs3
     rw[e1] at h1
     refine wp_value (w':=w) ?_ ⟨_,_,_,_,hK,hs3,ExtS.refl _ _,fun _ q=>lk_putF q⟩
     simp only[execOp,h1,h3]
     rw[Sem.run_bind,index_run hτ hti hsl hesz hk0 hkn,hsz]
     rfl
   ·exact h.elim
  ·rename_i j tf sb hl
   split at h
   ·rename_i s hsl hesz hbe
    obtain⟨⟨hn,hk0,hkn⟩,hK⟩:=h
    have hsz:ti.esz=(sb j oo).sz:=Nat.eq_of_beq_eq_true hbe
    have hfo:=hs.blk _ _ (lk_app hl)
    have hat:=hs.famAt hl j oo
    have hn0:(sb j oo).n≠0:=by omega
    obtain⟨b,off,hA,hRow,hc,i0,b0,e1,e2,e3⟩:=hat.at_.resolve_left hn0
    have hs2:=hs.view (b:=.row tf (sb j oo).sz (sb j oo).n (sb j oo).el) (p:=⟨some ⟨b,off,none⟩,(sb j oo).sz,(sb j oo).n,false,noSub⟩) ⟨by rw[setPl_same];exact⟨rfl,rfl⟩,hat.pl,.inr ⟨b,off,by rw[setPl_same],hRow,hc⟩⟩ (row_ro hfo.1) rfl (fun g hg=>by
     have:=hg.2
     unfold bno at this
     rw[setPl_same] at this
     simp at this
     subst this
     exact⟨i0,b0,e1,e2,e3⟩)
    have hok:okV (setPl ρ nx ⟨some ⟨b,off,none⟩,(sb j oo).sz,(sb j oo).n,false,noSub⟩) (nx+1) (.pointer (some ⟨nx,0,some k.toNat⟩)):=⟨⟨Nat.lt_succ_self _,by rw[setPl_same]⟩,⟨b,off,by rw[setPl_same]⟩,fun j hj=>by cases hj;rw[setPl_same];show k.toNat<(sb j oo).n;omega⟩
    have hs3:=hs2.put (d:=dst) hd hok
    have f1:den ρ (.slice (some ⟨q,oo,some j⟩) n cap)=.slice (some ⟨b,off,none⟩) n cap:=by simp[den,den2,den1,dS,hA]
    have f2:den (setPl ρ nx ⟨some ⟨b,off,none⟩,(sb j oo).sz,(sb j oo).n,false,noSub⟩) (.pointer (some ⟨nx,0,some k.toNat⟩))=.pointer (some ⟨b,off+k.toNat * (sb j oo).sz,none⟩):=by
     have hA':(setPl ρ nx ⟨some ⟨b,off,none⟩,(sb j oo).sz,(sb j oo).n,false,noSub⟩ nx).A=some ⟨b,off,none⟩:=by rw[setPl_same]
     simp[den,den2,den1,dA_some (a:=⟨nx,0,some k.toNat⟩) hA',setPl_same]
    rw[f2] at hs3
    rw[f1] at h1
    refine wp_value (w':=w) ?_ ⟨_,_,_,_,hK,hs3,ExtS.set _ _ _,fun _ q=>lk_putF q⟩
    simp only[execOp,h1,h3]
    rw[Sem.run_bind,index_run hτ hti hsl hesz hk0 hkn,hsz]
    rfl
   ·exact h.elim
  ·exact h.elim
 ·exact h.elim
theorem slicey_run (hτ:TTok P τ) {t:TypeId} {ti:TI} (hti:lk τ t=some ti) (hsl:ti.sl=true) {s:Nat} (hes:ti.esz=s+1) {A:Option Addr} {len cap:Nat} {kl kh:IntKind} {l h:Int} (h0:0≤l) (h1:l≤h) (h2:h≤cap) {hi:Option Value} (hhi:hi=some (.int kh h)∨hi=none∧h=len) :
  (Instr.sliceAt t (.slice A len cap) (some (.int kl l)) hi none).run P w=.ok (.slice (if cap=l.toNat then A else A.map (·.add (l.toNat * ti.esz))) (h.toNat-l.toNat) (cap-l.toNat)) w:=by
 obtain⟨e,hu,he⟩:=(hτ t ti hti).slice hsl
 cases hi':P.info? e with
 | none=>simp[szOf,hi'] at he;omega
 | some ii=>
  have hes:ii.size=ti.esz:=by rw[← he];simp[szOf,hi']
  have hb:(Instr.sliceBounds true len cap (some (.int kl l)) hi none).run P w=.ok (l.toNat,h.toNat,cap) w:=by
   rcases hhi with rfl | ⟨rfl,rfl⟩
   ·have:l≤max h 0:=by omega
    simp[Instr.sliceBounds,Instr.sliceBound,asIntOf,h0,show 0≤h by omega,h2,this]
   ·simp[Instr.sliceBounds,Instr.sliceBound,asIntOf,h0,h1]
  cases A with
  | none=>simp[Instr.sliceAt,run_underlying hu,Instr.slice,hb,sizeOf,typeInfo,hi']
  | some ad=>simp[Instr.sliceAt,run_underlying hu,Instr.slice,hb,sizeOf,typeInfo,hi',hes]
theorem mul_shift (sz l j q:Nat):l * sz+(j * sz+q)=(l+j) * sz+q:=by rw[Nat.add_mul];omega
theorem sly_sound (hτ:TTok P τ) {o:Oper} {t:TypeId} {x lo:Operand} {hi:Option Operand} (ho:o.op=.slice t x (some lo) hi none) (hd:∀ i,o.dst=some i→i<C.nt) {K:AF→AM→Nat→Prop} (h:acty τ o.dst o.op fr mem nx K) (hs:Sat C ρ fr mem nx a w) :
  o.wp P a w (fun a' w'=>∃ fr' mem' nx' ρ',K fr' mem' nx'∧Sat C ρ' fr' mem' nx' a' w'∧ExtS ρ nx ρ' nx'∧∀ d,o.dst≠some d→lk fr' d=lk fr d) Q:=by
 obtain⟨dst,op,type,pos,after,guard⟩:=o
 simp only at hd h ho
 subst ho
 simp only[acty,putK_eq] at h
 split at h
 ·rename_i r len cap kl l ti hx hlo hti
  split at h
  ·rename_i s kh hh hsl hesz hhi
   obtain⟨h1,h2⟩:=ev_ok hs.fok.left hx
   have h3:a.eval lo=.int kl l:=(ev_ok hs.fok.left hlo).1
   have h4:hi.map a.eval=some (.int kh hh)∨hi.map a.eval=none∧hh=len:=by
    cases hi with
    | none=>simp at hhi;exact .inr ⟨rfl,hhi.2.symm⟩
    | some y=>exact .inl (congrArg some (ev_ok hs.fok.left (show ev fr y=some (.int kh hh) from hhi)).1)
   have e0:den ρ (.slice (some ⟨r,0,none⟩) len cap)=.slice (ρ r).A len cap:=rfl
   split at h
   ·rename_i tr sz n el hl
    split at h
    ·rename_i hown hbe
     obtain⟨⟨q1,q2,q3⟩,n2,el2,⟨g1,g2,g3⟩,hK⟩:=h
     have hsz:ti.esz=sz:=Nat.eq_of_beq_eq_true hbe
     obtain⟨⟨p1,p2⟩,hpl,hrow⟩:=hs.blk _ _ (lk_app hl)
     let p:Pl:=⟨if cap=l.toNat then (ρ r).A else (ρ r).A.map (·.add (l.toNat * ti.esz)),sz,n2,false,noSub⟩
     have hs2:=hs.view (b:=.row tr sz n2 el2) (p:=p) ⟨by rw[setPl_same];exact⟨rfl,rfl⟩,fun k hk=>by rw[g3 k hk];exact hpl _ (by omega),by
      by_cases h0:n2=0
      ·exact .inl h0
      ·rcases hrow with h0 | ⟨b,off,hA,hlt,hc⟩
       ·omega
       ·refine .inr ⟨b,off+l.toNat * sz,?_,⟨hlt.lt,(fun ho=>by rw[hown] at ho;cases ho),hlt.new⟩,fun k hk j v hv=>?_⟩
        ·rw[setPl_same]
         show (if cap=l.toNat then _ else _)=_
         rw[if_neg (by omega),hA,hsz,Option.map_some,Addr.add_mid]
        ·rw[g3 k hk] at hv
         have:=hc (l.toNat+k) (by omega) j v hv
         rw[Nat.add_assoc,Nat.add_assoc,mul_shift,← Nat.add_assoc]
         exact this⟩ (row_ro hown) rfl (fun g hg=>by
      obtain⟨hn,hg⟩:=hg
      unfold bno at hg
      rw[setPl_same] at hg
      rcases hrow with h0 | ⟨b,off,hA,hlt,hc⟩
      ·omega
      ·have hg':((if cap=l.toNat then (ρ r).A else (ρ r).A.map (·.add (l.toNat * ti.esz))).map (·.block))=some g:=hg
       rw[if_neg (by omega),hA,Option.map_some,Addr.add_mid] at hg'
       exact⟨r,_,lk_app hl,⟨by omega,by simpa [bno,hA] using hg'⟩,row_ro hown⟩)
     have hok:okV (setPl ρ nx p) (nx+1) (.slice (some ⟨nx,0,none⟩) (hh.toNat-l.toNat) (cap-l.toNat)):=⟨Nat.lt_succ_self _,by rw[setPl_same]⟩
     have hs3:=hs2.put (d:=dst) hd hok
     have e1:den (setPl ρ nx p) (.slice (some ⟨nx,0,none⟩) (hh.toNat-l.toNat) (cap-l.toNat))=.slice p.A (hh.toNat-l.toNat) (cap-l.toNat):=by
      show Value.slice (setPl ρ nx p nx).A _ _=_
      rw[setPl_same]
     rw[e1] at hs3
     rw[e0] at h1
     refine wp_value (w':=w) ?_ ⟨_,_,_,_,hK,hs3,ExtS.set _ _ _,fun _ q=>lk_putF q⟩
     simp only[execOp,h1,Option.map_some,h3,Option.map_none]
     rw[Sem.run_bind,slicey_run hτ hti hsl hesz q1 q2 q3 h4]
     rfl
    ·exact h.elim
   ·rename_i tr sz n c1 el u hl
    split at h
    ·rename_i tf sb hown hbe hlu
     obtain⟨⟨q1,q2,q3⟩,n2,el2,sb2,⟨g1,g2,g3,g4⟩,hK⟩:=h
     have hsz:ti.esz=sz:=Nat.eq_of_beq_eq_true hbe
     obtain⟨⟨p1,p2⟩,hu,hpl,hrow⟩:=hs.blk _ _ (lk_app hl)
     have hro:∀ g,¬ bwr ρ r (.ext (.deep tr sz n c1 el u)) g:=fun g h=>by have q:=h.1;rw[hown] at q;cases q
     have hs1:=hs.addFam (t:=tf) (sb:=sb2) (sub:=fun k o=>if k<n2 then (ρ u).sub (l.toNat+k) o else none) (hs.blk _ _ (lk_app hlu)).1 (fun k o=>by
      by_cases hk:k<n2
      ·rw[if_pos hk,(g3 k hk).2];exact hs.famAt hlu (l.toNat+k) o
      ·exact⟨fun j hj=>by rw[g4 k (by omega) o] at hj;omega,.inl (g4 k (by omega) o)⟩)
     generalize hρ1:setPl ρ nx ⟨none,0,0,false,fun k o=>if k<n2 then (ρ u).sub (l.toNat+k) o else none⟩=ρ1 at hs1
     have hlow:∀ i,i<nx→ρ1 i=ρ i:=fun i hi=>by rw[← hρ1];exact setPl_lt ρ _ hi
     have hnx:ρ1 nx=⟨none,0,0,false,fun k o=>if k<n2 then (ρ u).sub (l.toNat+k) o else none⟩:=by rw[← hρ1];exact setPl_same _ _ _
     have hrlt:=(hs.mlt r _ (lk_app hl)).1
     let p:Pl:=⟨if cap=l.toNat then (ρ r).A else (ρ r).A.map (·.add (l.toNat * ti.esz)),sz,n2,false,noSub⟩
     have hup:∀ p,setPl ρ1 (nx+1) p nx=ρ1 nx:=fun p=>setPl_lt ρ1 p (Nat.lt_succ_self _)
     have hs2:=hs1.view (b:=.ext (.deep tr sz n2 0 el2 nx)) (p:=p) ⟨by rw[setPl_same];exact⟨rfl,rfl⟩,⟨by omega,by rw[hup,hnx]⟩,fun k hk=>by rw[(g3 k hk).1];exact hpl _ (by omega),by
      by_cases h0:n2=0
      ·exact .inl ⟨h0,fun _=>rfl⟩
      ·rcases hrow with h0 | ⟨-,b,off,hA,hlt,-,hc⟩
       ·omega
       ·refine .inr ⟨h0,b,off+l.toNat * sz,?_,⟨hlt.lt,(fun ho=>by rw[hown] at ho;cases ho),hlt.new⟩,(fun ho=>by rw[hown] at ho;cases ho),fun k hk j v hv=>?_⟩
        ·rw[setPl_same]
         show (if cap=l.toNat then _ else _)=_
         rw[if_neg (by omega),hA,hsz,Option.map_some,Addr.add_mid]
        ·rw[(g3 k hk).1] at hv
         have:=hc (l.toNat+k) (by omega) j v hv
         rw[Nat.add_assoc,Nat.add_assoc,mul_shift,← Nat.add_assoc,this]
         exact congrArg some (dp_dp ((hpl _ (by omega)).2 v (List.mem_of_getElem? hv)) (by rw[hup,hnx];exact if_pos hk)).symm⟩ (fun g h=>by have q:=h.1;rw[hown] at q;cases q) rfl (fun g hg=>by
      obtain⟨hn,hg⟩:=hg
      unfold bno at hg
      rw[setPl_same] at hg
      rcases hrow with h0 | ⟨-,b,off,hA,hlt,-,hc⟩
      ·omega
      ·have hg':((if cap=l.toNat then (ρ r).A else (ρ r).A.map (·.add (l.toNat * ti.esz))).map (·.block))=some g:=hg
       rw[if_neg (by omega),hA,Option.map_some,Addr.add_mid] at hg'
       refine⟨r,.ext (.deep tr sz n c1 el u),?_,⟨by omega,by unfold bno;rw[hlow r hrlt];simpa [hA] using hg'⟩,fun g h=>by have q:=h.1;rw[hown] at q;cases q⟩
       rw[List.cons_append,lk_ne _ _ (by omega)]
       exact lk_app hl)
     have hok:okV (setPl ρ1 (nx+1) p) (nx+1+1) (.slice (some ⟨nx+1,0,none⟩) (hh.toNat-l.toNat) (cap-l.toNat)):=⟨Nat.lt_succ_self _,by rw[setPl_same]⟩
     have hs3:=hs2.put (d:=dst) hd hok
     have e1:den (setPl ρ1 (nx+1) p) (.slice (some ⟨nx+1,0,none⟩) (hh.toNat-l.toNat) (cap-l.toNat))=.slice p.A (hh.toNat-l.toNat) (cap-l.toNat):=by
      show Value.slice (setPl ρ1 (nx+1) p (nx+1)).A _ _=_
      rw[setPl_same]
     rw[e1] at hs3
     rw[e0] at h1
     refine wp_value (w':=w) ?_ ⟨_,_,_,_,hK,hs3,⟨fun i hi=>(setPl_lt ρ1 p (by omega)).trans (hlow i hi),by omega⟩,fun _ q=>lk_putF q⟩
     simp only[execOp,h1,Option.map_some,h3,Option.map_none]
     rw[Sem.run_bind,slicey_run hτ hti hsl hesz q1 q2 q3 h4]
     rfl
    ·exact h.elim
   ·exact h.elim
  ·exact h.elim
 ·exact h.elim
end
end Go.Proofs.YtchhdflealgkaaaGreat
