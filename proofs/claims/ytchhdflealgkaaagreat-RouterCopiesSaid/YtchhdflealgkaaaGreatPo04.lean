import Derived.Test.YtchhdflealgkaaaGreatPo03
import Derived.StillTail
namespace Go.Proofs.YtchhdflealgkaaaGreat
open Go.RowKit
set_option linter.unusedSimpArgs false
set_option linter.unusedVariables false
section
variable {P:Program} {τ:TT} {F:FT} {C:Ctx} {ρ ρ':Nat→Pl} {fr:AF} {mem:AM} {nx:Nat} {a:Act} {w:World} {Q:Exit→Act→World→Prop}
theorem dp_cell {sz k k' j j':Nat} (hj:j<sz) (hj':j'<sz) (hk:k'≠k):¬ (k * sz≤k' * sz+j'∧k' * sz+j'<k * sz+sz):=by
 rintro⟨r1,r2⟩
 rcases Nat.lt_or_gt_of_ne hk with hlt | hgt
 ·have:=Nat.mul_le_mul_right sz (show k'+1≤k by omega)
  rw[Nat.add_mul] at this
  omega
 ·have:=Nat.mul_le_mul_right sz (show k+1≤k' by omega)
  rw[Nat.add_mul] at this
  omega
theorem sty_sound (hτ:TTok P τ) {o:Oper} {t:TypeId} {x y:Operand} (ho:o.op=.store t x y) (hd:∀ i,o.dst=some i→i<C.nt) {K:AF→AM→Nat→Prop} (h:acty τ o.dst o.op fr mem nx K) (hs:Sat C ρ fr mem nx a w) :
  o.wp P a w (fun a' w'=>∃ fr' mem' nx' ρ',K fr' mem' nx'∧Sat C ρ' fr' mem' nx' a' w'∧ExtS ρ nx ρ' nx'∧∀ d,o.dst≠some d→lk fr' d=lk fr d) Q:=by
 obtain⟨dst,op,type,pos,after,guard⟩:=o
 simp only at hd h ho
 subst ho
 simp only[acty,putK_eq] at h
 split at h
 ·rename_i r k v ti hx hy hti
  split at h
  ·rename_i bt sz n cap el u hl
   split at h
   ·rename_i t1 sb b ss hlu hlen hat hss hown hbe
    obtain⟨hkn,el',sb',⟨g1,g2,g3,g4⟩,hK⟩:=h
    have hsz:sz=ti.size:=Nat.eq_of_beq_eq_true hbe
    have hlen':(cellsOf v).length=ti.size:=by simpa using hlen
    obtain⟨h1,h2⟩:=ev_ok hs.fok.left hx
    obtain⟨h3,h4⟩:=ev_ok hs.fok.left hy
    obtain⟨⟨p1,p2⟩,hu,hpl,hrow⟩:=hs.blk _ _ (lk_app hl)
    obtain⟨q1,q2⟩:=hs.sbL hss
    rcases hrow with h0 | ⟨-,g,off,hA,hrat,hcap,hc⟩
    ·omega
    obtain⟨rfl,hbase,-⟩:=hrat.own hown
    obtain⟨ty,cs,hblk,hcs⟩:=hcap hown
    -- the new family
    let sub:Nat→Nat→Option Addr:=fun j o=>if j=k then (match (cellsOf v)[o]? with | some x=>slA ρ x | none=>none) else (ρ u).sub j o
    have hs1:=hs.addFam (famT_own (b&&frT t1)) (sb:=sb') (sub:=sub) (fun j o=>by
     show SbAt C ρ mem w _ _ (if j=k then (match (cellsOf v)[o]? with | some x=>slA ρ x | none=>none) else (ρ u).sub j o)
     by_cases hj:j=k
     ·subst hj
      rw[if_pos rfl,g4 o]
      cases ho:(cellsOf v)[o]? with
      | some x=>exact (q2 o x ho).2.ty (famT_own _) fun q=>(famT_and q).1
      | none=>
       have:ss.getD o emptySB=emptySB:=by rw[List.getD_eq_getElem?_getD,List.getElem?_eq_none (by rw[q1];exact List.getElem?_eq_none_iff.1 ho)];rfl
       rw[this];exact .empty
     ·rw[if_neg hj,g2 j hj]
      exact (hs.famAt hlu j o).ty (famT_own _) fun q=>famT_fr (famT_and q).2)
    generalize hρ1:setPl ρ nx ⟨none,0,0,false,sub⟩=ρ1 at hs1
    have hlow:∀ i,i<nx→ρ1 i=ρ i:=fun i hi=>by rw[← hρ1];exact setPl_lt ρ _ hi
    have hnx:ρ1 nx=⟨none,0,0,false,sub⟩:=by rw[← hρ1];exact setPl_same _ _ _
    have hrlt:=(hs.mlt r _ (lk_app hl)).1
    have hl1:lk ((nx,.ext (.fam (famT (b&&frT t1)) sb'))::mem) r=some (.ext (.deep bt sz n cap el u)):=by rw[lk_ne _ _ (by omega)];exact hl
    -- where the cells lie
    have hkb:k * sz+sz≤cs.size:=by
     have hj:sz-1<(el k).length∨sz=0:=by rw[(hpl k hkn).1];omega
     rcases hj with hj | hj
     ·have:=hc k hkn (sz-1) _ (List.getElem?_eq_getElem hj)
      rw[Nat.zero_add,hblk.cell] at this
      have:=(Array.getElem?_eq_some_iff.1 this).1
      have:=(hpl k hkn).1
      omega
     ·have:=Nat.mul_le_mul_right sz (show k≤n by omega)
      by_cases hks:k=0
      ·subst hks;omega
      ·subst hj;omega
    have hblk2:=hblk.setCells ((cellsOf v).map (den1 ρ)) (k * sz)
    have hth:=hblk.there (k * sz) (cellsOf v).length (by omega)
    have hs2:=hs1.write (b':=.ext (.deep bt sz n cap el' nx)) (w':=w.setCells g (k * sz) ((cellsOf v).map (den1 ρ))) hl1 (setCells_size _ _) (fun b hb=>setCells_far _ _ b fun q=>hb ⟨hown,by omega,by unfold bno;rw[hlow r hrlt,hA,q];rfl⟩) ⟨by rw[hlow r hrlt];exact⟨p1,p2⟩,⟨Nat.lt_succ_self _,by rw[hnx]⟩,fun j hj=>by
      by_cases hjk:j=k
      ·subst hjk
       rw[g3]
       refine⟨by rw[List.length_map];omega,fun x hx=>?_⟩
       obtain⟨z,hz,rfl⟩:=List.mem_map.1 hx
       obtain⟨i,hi⟩:=mem_at hz
       exact dumV_dpl (q2 i z hi).1
      ·rw[g1 j hj hjk];exact hpl j hj,.inr ⟨by omega,g,0,by rw[hlow r hrlt];exact hA,⟨by rw[setCells_size];exact hrat.lt,fun _=>⟨rfl,hbase,ty,_,hblk2⟩,fun _=>hbase⟩,fun _=>⟨ty,_,hblk2,by rw[putL_size];exact hcs⟩,fun j hj q x hxq=>by
      have hqs:q<sz:=by
       have hlj:(el' j).length=sz:=by
        by_cases hjk:j=k
        ·subst hjk;rw[g3,List.length_map];omega
        ·rw[g1 j hj hjk];exact (hpl j hj).1
       have:=(List.getElem?_eq_some_iff.1 hxq).1
       omega
      rw[Nat.zero_add,hblk2.cell,putL_at,List.length_map]
      by_cases hjk:j=k
      ·subst hjk
       rw[g3,List.getElem?_map] at hxq
       have hin:j * sz≤j * sz+q∧j * sz+q<j * sz+(cellsOf v).length∧j * sz+q<cs.size:=by omega
       rw[if_pos hin,show j * sz+q-j * sz=q by omega,List.getElem?_map]
       cases hz:(cellsOf v)[q]? with
       | none=>rw[hz] at hxq;simp at hxq
       | some z=>
        rw[hz] at hxq
        simp at hxq
        subst hxq
        rw[Option.map_some,dumV_dp (ρ:=ρ) (q2 q z hz).1 (by rw[hnx];show (if j=j then _ else _)=_;rw[if_pos rfl,hz])]
      ·rw[if_neg (by have:=dp_cell (j:=0) (by omega) hqs hjk;omega)]
       rw[g1 j hj hjk] at hxq
       have:=hc j hj q x hxq
       rw[Nat.zero_add,hblk.cell] at this
       rw[this]
       exact congrArg some (dp_dp ((hpl j hj).2 x (List.mem_of_getElem? hxq)) (by rw[hnx];exact if_neg hjk)).symm⟩⟩ (fun g hg=>hg) (fun g hg=>hg) (setCells_rest C hbase _ _ hs1.rest)
    have hrun:=run_store (P:=P) (w:=w) (ρ:=ρ) (hτ t ti hti) (g:=g) (o:=k * sz) (notTuple hat) hlen' hat hth
    have e:den ρ (.pointer (some ⟨r,0,some k⟩))=.pointer (some ⟨g,k * sz,none⟩):=by simp[den,den2,den1,dA_some (a:=⟨r,0,some k⟩) hA,p1]
    rw[e] at h1
    unfold Oper.wp execOp
    simp only[h1,h3]
    rw[Sem.run_bind,hrun]
    refine⟨_,_,_,_,hK,hs2.less (fun _ _ h=>h) (fun i b h=>?_),⟨fun i hi=>hlow i hi,by omega⟩,fun _ _=>rfl⟩
    rw[List.cons_append,List.cons_append] at h ⊢
    exact h
   ·exact h.elim
  ·exact h.elim
 ·exact h.elim
end
section
variable {P:Program} {τ:TT} {F:FT} {C:Ctx} {ρ ρ':Nat→Pl} {fr:AF} {mem:AM} {nx:Nat} {a:Act} {w:World} {Q:Exit→Act→World→Prop}
theorem Sat.deepSrc (hs:Sat C ρ fr mem nx a w) {q:Nat} {t2:TypeId} {sz n2 c2 u2 m c:Nat} {el2:Nat→List Value} (hl:lk mem q=some (.ext (.deep t2 sz n2 c2 el2 u2))) (hm:m≤n2) {tx e':TypeId} (hk:P.underlying tx=some (.slice e')) (hat:∀ k,k<m→(el2 k).all atom=true) :
  Src P sz tx (den ρ (.slice (some ⟨q,0,none⟩) m c)) m (flatE (fun k=>(dpL u2 k 0 (el2 k)).map (den1 ρ)) m) w:=by
 obtain⟨-,-,hpl,hrow⟩:=hs.blk q _ (lk_app hl)
 have e0:den ρ (.slice (some ⟨q,0,none⟩) m c)=.slice (ρ q).A m c:=rfl
 have hlen:∀ k,k<n2→((dpL u2 k 0 (el2 k)).map (den1 ρ)).length=sz:=fun k hk=>by
  rw[List.length_map,← (hpl k hk).1]
  have:∀ (l:List Value) (j:Nat),(dpL u2 k j l).length=l.length:=by
   intro l
   induction l with
   | nil=>intro j;rfl
   | cons v l ih=>intro j;simp[dpL,ih]
  exact this _ _
 rw[e0]
 rcases hrow with⟨h0,-⟩ | ⟨-,b,off,hA,-,-,hc⟩
 ·obtain rfl:m=0:=by omega
  cases (ρ q).A with
  | none=>exact Src.ofNil w hk c
  | some ad=>exact Src.ofSlice w hk ad 0 c _ (by simp[flatE]) (by simp[flatE]) (by simp[flatE])
 ·rw[hA]
  refine Src.ofSlice w hk _ m c _ (flatE_len fun k hk=>hlen k (by omega)) (fun j u hu=>?_) (fun u hu=>?_)
  ·obtain⟨k,i,r1,r2,rfl,r4⟩:=flatE_get (fun k hk=>hlen k (by omega)) j u hu
   rw[List.getElem?_map,dpL_get,Nat.zero_add,Option.map_map,Option.map_eq_some_iff] at r4
   obtain⟨v,r5,rfl⟩:=r4
   rw[Addr.add_mid,← Nat.add_assoc]
   exact hc k (by omega) i v r5
  ·obtain⟨k,hk,hv⟩:=flatE_mem hu
   obtain⟨x,hx,rfl⟩:=List.mem_map.1 hv
   obtain⟨j,hj⟩:=mem_at hx
   rw[dpL_get,Option.map_eq_some_iff] at hj
   obtain⟨y,hy,rfl⟩:=hj
   have ha:=List.all_eq_true.1 (hat k hk) y (List.mem_of_getElem? hy)
   refine atom_one ?_
   cases y with
   | slice A _ _=>cases A<;>rfl
   | _=>exact ha
theorem dpL_len (u k:Nat):∀ (l:List Value) (j:Nat),(dpL u k j l).length=l.length
 | [],_=>rfl
 | v::l,j=>by simp[dpL,dpL_len u k l]
theorem dpL_at {u k i:Nat} {l:List Value} {x:Value} (h:((dpL u k 0 l).map (den1 ρ))[i]?=some x):∃ v,l[i]?=some v∧x=den1 ρ (dpV u k i v):=by
 rw[List.getElem?_map,dpL_get,Nat.zero_add,Option.map_map,Option.map_eq_some_iff] at h
 obtain⟨v,h1,rfl⟩:=h
 exact⟨v,h1,rfl⟩
theorem dpL_at' {u k i:Nat} {l:List Value} {v:Value} (h:l[i]?=some v):((dpL u k 0 l).map (den1 ρ))[i]?=some (den1 ρ (dpV u k i v)):=by
 rw[List.getElem?_map,dpL_get,Nat.zero_add,h];rfl
theorem srcy_sound {sz:Nat} {x:Value} {k:Nat→Nat→Bool→(Nat→List Value)→(Nat→Nat→SB)→Prop} (h:srcy mem sz x k):∃ q m c t2 n2 c2 el2 u2 tf sb2,x=.slice (some ⟨q,0,none⟩) m c∧lk mem q=some (.ext (.deep t2 sz n2 c2 el2 u2))∧lk mem u2=some (.ext (.fam tf sb2))∧m≤n2∧(∀ k,k<m→(el2 k).all atom=true)∧k q m (frT tf) el2 sb2:=by
 cases x<;>first | exact h.elim | skip
 rename_i A m c
 cases A with
 | none=>exact h.elim
 | some ad=>
  obtain⟨q,qo,qs⟩:=ad
  simp only[srcy] at h
  split at h
  ·rename_i t2 sz' n2 c2 el2 u2 hl
   split at h
   ·rename_i tf sb2 hb hlu
    obtain rfl:sz'=sz:=Nat.eq_of_beq_eq_true hb
    exact⟨q,m,c,t2,n2,c2,el2,u2,tf,sb2,rfl,hl,hlu,h.1.1,h.1.2,h.2⟩
   ·exact h.elim
  ·exact h.elim
end
section
variable {P:Program} {τ:TT} {F:FT} {C:Ctx} {ρ ρ':Nat→Pl} {fr:AF} {mem:AM} {nx:Nat} {a:Act} {w:World} {Q:Exit→Act→World→Prop}
theorem lk_swap {α:Type} {i j:Nat} (h:i≠j) (x y:α) (l:List (Nat×α)) (k:Nat):lk ((i,x)::(j,y)::l) k=lk ((j,y)::(i,x)::l) k:=by
 by_cases h1:i=k
 ·subst h1;rw[lk_same,lk_ne _ _ (Ne.symm h),lk_same]
 ·rw[lk_ne _ _ h1]
  by_cases h2:j=k
  ·subst h2;rw[lk_same,lk_same]
  ·rw[lk_ne _ _ h2,lk_ne _ _ h2,lk_ne _ _ h1]
theorem appy_sound (hτ:TTok P τ) {t tx ty e:TypeId} {te:TI} {b1:Nat} {s x:Value} {K:Value→AM→Nat→Prop} (ht:P.underlying t=some (.slice e)) (hte:TIok P e te) (hby:∀ i,P.info? e=some i→i.bytes=b1+1) {e':TypeId} (htx:P.underlying tx=some (.slice e')) (hz0:te.zero.length=te.size) (hpos:0<te.size)
  (h:appy e te (b1+1) s x mem nx K) (hs:Sat C ρ fr mem nx a w) (hok:okV ρ nx s):∃ v w' mem' nx' ρ',(Builtin.append_ #[t,tx] ty #[den ρ s,den ρ x]).run P w=.ok (den ρ' v) w'∧K v mem' nx'∧Sat C ρ' fr mem' nx' a w'∧okV ρ' nx' v∧ExtS ρ nx ρ' nx':=by
 unfold appy at h
 obtain⟨q,m,c,t2,n2,c2,el2,u2,tf,sb2,rfl,hlq,hlu2,hm,hat,hk⟩:=srcy_sound h
 clear h
 obtain⟨ie,hie,hsz,z,hz,hzc⟩:=hte.size
 have hb:=hby ie hie
 have hsrc:=hs.deepSrc (c:=c) hlq hm htx hat
 rw[← hsz] at hsrc
 have hzs:z.cells.size=ie.size:=by rw[← Array.length_toList,hzc,hz0,hsz]
 obtain⟨-,hu2,hpl2,-⟩:=hs.blk q _ (lk_app hlq)
 have hlen2:∀ k,k<m→((dpL u2 k 0 (el2 k)).map (den1 ρ)).length=te.size:=fun k hk=>by rw[List.length_map,dpL_len];exact (hpl2 k (by omega)).1
 -- the new family
 have fam:∀ (len u:Nat) (b:Bool) (sb sb':Nat→Nat→SB),(∀ k,k<len→(∀ o,SbAt C ρ mem w (famT b) (sb k o) ((ρ u).sub k o))∧sb' k=sb k)→(frT (famT b)=true→frT tf=true)→(∀ k,k<m→sb' (len+k)=sb2 k)→(∀ k,len+m≤k→∀ o,(sb' k o).n=0)→
   Sat C (setPl ρ nx ⟨none,0,0,false,fun k o=>if k<len then (ρ u).sub k o else (ρ u2).sub (k-len) o⟩) fr ((nx,.ext (.fam (famT b) sb'))::mem) (nx+1) a w:=by
  intro len u b sb sb' h1 h2 h3 h4
  refine hs.addFam (famT_own b) fun k o=>?_
  by_cases hk:k<len
  ·rw[if_pos hk,(h1 k hk).2];exact (h1 k hk).1 o
  ·rw[if_neg hk]
   by_cases hk2:k<len+m
   ·have:=h3 (k-len) (by omega)
    rw[show len+(k-len)=k by omega] at this
    rw[this]
    exact (hs.famAt hlu2 (k-len) o).ty (famT_own _) h2
   ·exact⟨fun j hj=>by rw[h4 k (by omega) o] at hj;omega,.inl (h4 k (by omega) o)⟩
 -- a new row
 have grow:∀ (len cap u:Nat) (base:Option Addr) (el:Nat→List Value) (mem2:AM),(∀ k,k<len→(el k).length=te.size∧∀ v ∈ el k,dpl v)→(Builtin.firstCells ie.size len (.slice base len cap)).run P w.drew=.ok (flatE (fun k=>(dpL u k 0 (el k)).map (den1 ρ)) len).toArray w.drew→cap<len+m→(len+m) * (b1+1)≤140737488355328→len+m≠0→(len≠0→u<nx)→
   (mem2=mem∨∃ r' bl,mem2=(r',noFam)::mem∧lk mem r'=some bl)→
   ∀ (b:Bool) (sb:Nat→Nat→SB),(∀ k,k<len→∀ o,SbAt C ρ mem w (famT b) (sb k o) ((ρ u).sub k o))→(frT (famT b)=true→frT tf=true)→
   (∀ cap',len+m≤cap'→∃ el' sb',((∀ k,k<len→el' k=el k∧sb' k=sb k)∧(∀ k,k<m→el' (len+k)=el2 k∧sb' (len+k)=sb2 k)∧∀ k,len+m≤k→∀ o,(sb' k o).n=0)∧
    K (.slice (some ⟨nx+1,0,none⟩) (len+m) cap') ((nx+1,.ext (.deep (1000000+e) te.size (len+m) cap' el' nx))::(nx,.ext (.fam (famT b) sb'))::mem2) (nx+2))→
   ∃ v w' mem' nx' ρ',(Builtin.append_ #[t,tx] ty #[.slice base len cap,den ρ (.slice (some ⟨q,0,none⟩) m c)]).run P w=.ok (den ρ' v) w'∧K v mem' nx'∧Sat C ρ' fr mem' nx' a w'∧okV ρ' nx' v∧ExtS ρ nx ρ' nx':=by
  intro len cap u base el mem2 hel hold hlt hbound hne hunx hr b sb hsb hfr hK
  have hrun:=run_append_grow_src (P:=P) w t tx ty e ie z ht hie hz base len cap _ hold (den ρ (.slice (some ⟨q,0,none⟩) m c)) m _ hsrc hlt (by
   have:len+m≤(len+m) * (b1+1):=Nat.le_mul_of_pos_right _ (by omega)
   omega) (growslice_fits hlt (by rw[hb];exact hbound))
  generalize hc':grownCap w (len+m) cap e=c' at hrun
  have hcl:len+m≤c':=by rw[← hc'];exact grownCap_ge w _ _ _
  obtain⟨el',sb',⟨g1,g2,g3⟩,hKK⟩:=hK c' hcl
  have hlen1:∀ k,k<len→((dpL u k 0 (el k)).map (den1 ρ)).length=te.size:=fun k hk=>by rw[List.length_map,dpL_len];exact (hel k hk).1
  have l1:=flatE_len (el:=fun k=>(dpL u k 0 (el k)).map (den1 ρ)) (n:=len) hlen1
  have l2:=flatE_len (el:=fun k=>(dpL u2 k 0 (el2 k)).map (den1 ρ)) (n:=m) hlen2
  have hs1:=(fam len u b sb sb' (fun k hk=>⟨hsb k hk,(g1 k hk).2⟩) hfr (fun k hk=>(g2 k hk).2) g3).drew
  generalize hρ1:setPl ρ nx ⟨none,0,0,false,fun k o=>if k<len then (ρ u).sub k o else (ρ u2).sub (k-len) o⟩=ρ1 at hs1
  have hlow:∀ i,i<nx→ρ1 i=ρ i:=fun i hi=>by rw[← hρ1];exact setPl_lt ρ _ hi
  have hnx:ρ1 nx=⟨none,0,0,false,fun k o=>if k<len then (ρ u).sub k o else (ρ u2).sub (k-len) o⟩:=by rw[← hρ1];exact setPl_same _ _ _
  have hs2:Sat C ρ1 fr ((nx,.ext (.fam (famT b) sb'))::mem2) (nx+1) a w.drew:=by
   rcases hr with rfl | ⟨r',bl,rfl,hbl⟩
   ·exact hs1
   ·have hlt:=(hs.mlt r' _ (lk_app hbl)).1
    have:=hs1.forget (i:=r') (b:=bl) (by rw[lk_ne _ _ (by omega)];exact hbl)
    refine this.less (fun _ _ h=>h) (fun i bb h=>?_)
    rw[List.cons_append,List.cons_append] at h ⊢
    rw[lk_swap (by omega)]
    exact h
  have hs3:=hs2.newDeep (1000000+e) e (sz:=te.size) (n:=len+m) (cap:=c') (el:=el') (u:=nx) (cells:=(flatE (fun k=>(dpL u k 0 (el k)).map (den1 ρ)) len++flatE (fun k=>(dpL u2 k 0 (el2 k)).map (den1 ρ)) m).toArray++Builtin.zeroCells z.cells (c' - (len+m))) ⟨Nat.lt_succ_self _,by rw[hnx]⟩ (fun k hk=>by
    by_cases h1:k<len
    ·rw[(g1 k h1).1];exact hel k h1
    ·have:=(g2 (k-len) (by omega)).1
     rw[show len+(k-len)=k by omega] at this
     rw[this]
     exact hpl2 _ (by omega)) (fun k hk j v hv=>by
   have hmul:∀ {a b:Nat},a<b→a * te.size+te.size≤b * te.size:=fun {a b} hab=>by
    have:=Nat.mul_le_mul_right te.size (show a+1≤b by omega)
    rw[Nat.add_mul] at this
    omega
   by_cases h1:k<len
   ·rw[(g1 k h1).1] at hv
    have hj:j<te.size:=by rw[← (hel k h1).1];exact (List.getElem?_eq_some_iff.1 hv).1
    have:=hmul h1
    rw[Array.getElem?_append_left (by simp only[List.size_toArray,List.length_append,l1];omega),List.getElem?_toArray,List.getElem?_append_left (by omega)]
    rw[flatE_at hlen1 k j _ h1 (dpL_at' hv)]
    exact congrArg some (dp_dp ((hel k h1).2 v (List.mem_of_getElem? hv)) (by rw[hnx];exact if_pos h1)).symm
   ·have e3:=(g2 (k-len) (by omega)).1
    rw[show len+(k-len)=k by omega] at e3
    rw[e3] at hv
    have hj:j<te.size:=by rw[← (hpl2 (k-len) (by omega)).1];exact (List.getElem?_eq_some_iff.1 hv).1
    have e4:=hmul (show k-len<m by omega)
    have e5:k * te.size=len * te.size+(k-len) * te.size:=by rw[← Nat.add_mul];congr 1;omega
    rw[Array.getElem?_append_left (by simp only[List.size_toArray,List.length_append,l1,l2];omega),List.getElem?_toArray,List.getElem?_append_right (by omega),l1,show k * te.size+j-len * te.size=(k-len) * te.size+j by omega]
    rw[flatE_at hlen2 (k-len) j _ (by omega) (dpL_at' hv)]
    exact congrArg some (dp_dp ((hpl2 _ (by omega)).2 v (List.mem_of_getElem? hv)) (by rw[hnx];exact if_neg h1)).symm) (by
   simp only[Array.size_append,List.size_toArray,List.length_append,l1,l2,Builtin.zeroCells,Array.size_map,Array.size_range,hzs,hsz]
   rw[← Nat.add_mul,← Nat.add_mul]
   exact Nat.mul_le_mul_right _ (by omega)) (fun h=>absurd h hne)
  obtain⟨e1,e2⟩:=slc_new (ρ:=ρ1) (nx:=nx+1) w.heap.size te.size (len+m) (len+m) c'
  refine⟨_,_,_,_,_,?_,hKK,hs3,?_,⟨fun i hi=>(setPl_lt ρ1 _ (by omega)).trans (hlow i hi),by omega⟩⟩
  ·rw[hrun]
   have:w.drew.heap.size=w.heap.size:=by simp
   rw[this,e1]
  ·have:w.drew.heap.size=w.heap.size:=by simp
   rw[this];exact e2
 cases s<;>first | exact hk.elim | skip
 rename_i A len cap
 cases A with
 | none=>
  simp only at hk
  split at hk
  ·obtain⟨⟨h1,h2⟩,h3⟩:=hk
   refine grow 0 0 0 none (fun _=>[]) mem (fun k hk=>by omega) (by rw[show flatE (fun k=>(dpL 0 k 0 []).map (den1 ρ)) 0=[] from rfl];exact run_firstCells_none w.drew ie.size 0 0 0) (by omega) (by rw[Nat.zero_add];exact h2) (by omega) (fun h=>absurd rfl h) (.inl rfl) (frT tf) (fun _ _=>emptySB) (fun k hk=>by omega) (fun q=>famT_fr q) (fun cap' hc=>?_)
   rw[Nat.zero_add] at hc ⊢
   obtain⟨el',sb',⟨g1,g2⟩,g3⟩:=h3 cap' hc
   exact⟨el',sb',⟨fun k hk=>by omega,fun k hk=>by rw[Nat.zero_add];exact g1 k hk,g2⟩,g3⟩
  ·exact hk.elim
 | some ad=>
  obtain⟨r,ro,rs⟩:=ad
  simp only at hk
  split at hk
  ·rename_i bt sz' n cap1 el u hl
   split at hk
   ·rename_i t1 sb hbt hb2 hrq hlu
    obtain rfl:sz'=te.size:=Nat.eq_of_beq_eq_true hb2
    obtain rfl:bt=1000000+e:=Nat.eq_of_beq_eq_true hbt
    obtain⟨⟨⟨rfl,rfl⟩,hm0,hbound⟩,hK⟩:=hk
    have hown:ownT (1000000+e)=true:=Nat.ble_eq_true_of_le (by omega)
    obtain⟨⟨p1,p2⟩,hu,hpl,hrow⟩:=hs.blk r _ (lk_app hl)
    have hsbA:∀ k o,SbAt C ρ mem w (famT (frT tf&&frT t1)) (sb k o) ((ρ u).sub k o):=fun k o=>(hs.famAt hlu k o).ty (famT_own _) fun q=>famT_fr (famT_and q).2
    have hff:frT (famT (frT tf&&frT t1))=true→frT tf=true:=fun q=>famT_fr (famT_and q).1
    have e0:den ρ (.slice (some ⟨r,0,none⟩) len cap)=.slice (ρ r).A len cap:=rfl
    have hlen1:∀ k,k<len→((dpL u k 0 (el k)).map (den1 ρ)).length=te.size:=fun k hk=>by rw[List.length_map,dpL_len];exact (hpl k hk).1
    by_cases hfit:len+m≤cap
    ·rcases hrow with⟨h0,h1⟩ | ⟨hn0,g,off,hA,hrat,hcap,hc⟩
     ·have:=h1 hown;omega
     ·obtain⟨rfl,hbase,-⟩:=hrat.own hown
      obtain⟨ty2,cs,hblk,hcs⟩:=hcap hown
      obtain⟨el',sb',⟨g1,g2,g3⟩,hKK⟩:=hK cap hfit
      have hs1:=fam len u (frT tf&&frT t1) sb sb' (fun k hk=>⟨fun o=>hsbA k o,(g1 k hk).2⟩) hff (fun k hk=>(g2 k hk).2) g3
      generalize hρ1:setPl ρ nx ⟨none,0,0,false,fun k o=>if k<len then (ρ u).sub k o else (ρ u2).sub (k-len) o⟩=ρ1 at hs1
      have hlow:∀ i,i<nx→ρ1 i=ρ i:=fun i hi=>by rw[← hρ1];exact setPl_lt ρ _ hi
      have hnx:ρ1 nx=⟨none,0,0,false,fun k o=>if k<len then (ρ u).sub k o else (ρ u2).sub (k-len) o⟩:=by rw[← hρ1];exact setPl_same _ _ _
      have hrlt:=(hs.mlt r _ (lk_app hl)).1
      have hl1:lk ((nx,.ext (.fam (famT (frT tf&&frT t1)) sb'))::mem) r=some (.ext (.deep (1000000+e) te.size len cap el u)):=by rw[lk_ne _ _ (by omega)];exact hl
      have l2:=flatE_len (el:=fun k=>(dpL u2 k 0 (el2 k)).map (den1 ρ)) (n:=m) hlen2
      have hAr:bno ρ1 r=some g:=by unfold bno;rw[hlow r hrlt,hA];rfl
      have hin:(len+m) * te.size≤cs.size:=Nat.le_trans (Nat.mul_le_mul_right _ hfit) hcs
      rw[Nat.add_mul] at hin
      have hth:=hblk.there (len * te.size) (m * te.size) hin
      have hblk2:=hblk.setCells (flatE (fun k=>(dpL u2 k 0 (el2 k)).map (den1 ρ)) m) (len * te.size)
      have hs2:=hs1.write (b':=noFam) (w':=w.setCells g (len * te.size) (flatE (fun k=>(dpL u2 k 0 (el2 k)).map (den1 ρ)) m)) hl1 (setCells_size _ _) (fun b hb=>setCells_far _ _ b fun q=>hb ⟨hown,hn0,by rw[hAr,q]⟩) noFam_ok (fun g hg=>absurd hg noFam_rd) (fun g hg=>absurd (bwr_brd hg) noFam_rd) (setCells_rest C hbase _ _ hs1.rest)
      have hup:∀ p,setPl ρ1 (nx+1) p nx=ρ1 nx:=fun p=>setPl_lt ρ1 p (Nat.lt_succ_self _)
      have hs3:=hs2.addF (b:=.ext (.deep (1000000+e) te.size (len+m) cap el' nx)) (p:=⟨some ⟨g,0,none⟩,te.size,len+m,false,noSub⟩) ⟨by rw[setPl_same];exact⟨rfl,rfl⟩,⟨by omega,by rw[hup,hnx]⟩,fun k hk=>by
        by_cases h1:k<len
        ·rw[(g1 k h1).1];exact hpl k h1
        ·have:=(g2 (k-len) (by omega)).1
         rw[show len+(k-len)=k by omega] at this
         rw[this]
         exact hpl2 _ (by omega),.inr ⟨by omega,g,0,by rw[setPl_same],⟨by rw[setCells_size];exact hrat.lt,fun _=>⟨rfl,hbase,ty2,_,hblk2⟩,fun _=>hbase⟩,fun _=>⟨ty2,_,hblk2,by rw[putL_size];exact hcs⟩,fun k hk j v hv=>by
        have hmul:∀ {a b:Nat},a<b→a * te.size+te.size≤b * te.size:=fun {a b} hab=>by
         have:=Nat.mul_le_mul_right te.size (show a+1≤b by omega)
         rw[Nat.add_mul] at this
         omega
        rw[Nat.zero_add,hblk2.cell,putL_at,l2]
        by_cases h1:k<len
        ·rw[(g1 k h1).1] at hv
         have hj:j<te.size:=by rw[← (hpl k h1).1];exact (List.getElem?_eq_some_iff.1 hv).1
         have:=hmul h1
         rw[if_neg (by omega)]
         have:=hc k h1 j v hv
         rw[Nat.zero_add,hblk.cell] at this
         rw[this]
         exact congrArg some (dp_dp ((hpl k h1).2 v (List.mem_of_getElem? hv)) (by rw[hup,hnx];exact if_pos h1)).symm
        ·have e3:=(g2 (k-len) (by omega)).1
         rw[show len+(k-len)=k by omega] at e3
         rw[e3] at hv
         have hj:j<te.size:=by rw[← (hpl2 (k-len) (by omega)).1];exact (List.getElem?_eq_some_iff.1 hv).1
         have e4:=hmul (show k-len<m by omega)
         have e5:k * te.size=len * te.size+(k-len) * te.size:=by rw[← Nat.add_mul];congr 1;omega
         have hcond:len * te.size≤k * te.size+j∧k * te.size+j<len * te.size+m * te.size∧k * te.size+j<cs.size:=by omega
         rw[if_pos hcond,show k * te.size+j-len * te.size=(k-len) * te.size+j by omega,flatE_at hlen2 (k-len) j _ (by omega) (dpL_at' hv)]
         exact congrArg some (dp_dp ((hpl2 _ (by omega)).2 v (List.mem_of_getElem? hv)) (by rw[hup,hnx];exact if_neg h1)).symm⟩⟩ (fun g' hg' j b' hj hb'=>by
       have hg2:=hg'.2
       unfold bno at hg2
       rw[setPl_same] at hg2
       simp at hg2
       subst hg2
       rw[List.cons_append] at hj
       rcases lk_cons hj with⟨rfl,rfl⟩ | ⟨hne,hj⟩
       ·exact noFam_rd hb'
       ·exact (hs1.sep r j _ _ hne (lk_app hl1) hj).wr (hs1.sep j r _ _ (Ne.symm hne) hj (lk_app hl1)) ⟨hown,hn0,hAr⟩ hb') rfl
      refine⟨_,_,_,_,_,?_,hKK,hs3.less (fun _ _ h=>h) (fun i bb h=>?_),?_,⟨fun i hi=>(setPl_lt ρ1 _ (by omega)).trans (hlow i hi),by omega⟩⟩
      ·have e4:den (setPl ρ1 (nx+1) ⟨some ⟨g,0,none⟩,te.size,len+m,false,noSub⟩) (.slice (some ⟨nx+1,0,none⟩) (len+m) cap)=.slice (some ⟨g,0,none⟩) (len+m) cap:=by
        show Value.slice (setPl ρ1 (nx+1) _ (nx+1)).A _ _=_
        rw[setPl_same]
       rw[e0,e4,hA,run_append_room_src w t tx ty e ie ht hie g 0 len cap (den ρ (.slice (some ⟨q,0,none⟩) m c)) m _ hsrc hfit (fun j hj=>by rw[hsz,Nat.zero_add];exact (hth j (by omega)).1) (fun j hj=>by rw[hsz,Nat.zero_add];exact (hth j (by omega)).2),Nat.zero_add,hsz]
      ·rw[List.cons_append,List.cons_append,List.cons_append] at h ⊢
       rcases lk_cons h with⟨h1,h2⟩ | ⟨h1,h2⟩
       ·subst h1;subst h2;exact lk_same _ _ _
       ·rw[lk_ne _ _ h1,lk_swap (by omega)];exact h2
      ·exact⟨Nat.lt_succ_self _,by rw[setPl_same]⟩
    ·have hold:(Builtin.firstCells ie.size len (.slice (ρ r).A len cap)).run P w.drew=.ok (flatE (fun k=>(dpL u k 0 (el k)).map (den1 ρ)) len).toArray w.drew:=by
      rcases hrow with⟨h0,-⟩ | ⟨-,b,off,hA,-,-,hc⟩
      ·subst h0
       have:flatE (fun k=>(dpL u k 0 (el k)).map (den1 ρ)) 0=[]:=rfl
       rw[this]
       cases (ρ r).A with
       | none=>exact run_firstCells_none w.drew _ _ _ _
       | some ad=>exact run_firstCells_some w.drew _ 0 ad 0 cap [] (by simp) (by simp)
      ·rw[hA]
       refine run_firstCells_some w.drew _ len _ len cap _ (by rw[hsz];exact flatE_len hlen1) (fun j x hx=>?_)
       obtain⟨k,i,r1,r2,rfl,r4⟩:=flatE_get hlen1 j x hx
       obtain⟨v,r5,rfl⟩:=dpL_at r4
       have:=hc k (by omega) i v r5
       rw[Addr.add_mid,← Nat.add_assoc]
       simpa using this
     rw[e0]
     exact grow len cap u (ρ r).A el ((r,noFam)::mem) (fun k hk=>hpl k hk) hold (by omega) hbound (by omega) (fun _=>hu.1) (.inr ⟨r,_,rfl,hl⟩) _ sb (fun k _ o=>hsbA k o) hff hK
   ·exact hk.elim
  ·exact hk.elim
end
/-! maps -/
section
variable {P:Program} {τ:TT} {F:FT} {C:Ctx} {ρ ρ':Nat→Pl} {fr:AF} {mem:AM} {nx:Nat} {a:Act} {w:World} {Q:Exit→Act→World→Prop}
def setObjW (w:World) (g:Nat) (o:Obj):World:={ w with heap:=w.heap.setIfInBounds g o }
theorem getMap {g:Nat} {es:Array MapEntry} {cl:Nat} (h:w.heap[g]?=some (.map es cl)):(getObj g).run P w=.ok (.map es cl) w:=by simp[getObj,Sem.run,h]
theorem setMap {g:Nat} {es:Array MapEntry} {cl:Nat} (o:Obj) (h:w.heap[g]?=some (.map es cl)):(setObj g o).run P w=.ok () (setObjW w g o):=by simp[setObj,Sem.run,h,setObjW]
theorem setObjW_at {g:Nat} {o:Obj} (h:g<w.heap.size):(setObjW w g o).heap[g]?=some o:=by simp[setObjW,h]
theorem setObjW_far {g b:Nat} {o:Obj} (h:b≠g):(setObjW w g o).heap[b]?=w.heap[b]?:=by simp only[setObjW];rw[Array.getElem?_setIfInBounds_ne (Ne.symm h)]
theorem setObjW_size {g:Nat} {o:Obj}:(setObjW w g o).heap.size=w.heap.size:=by simp[setObjW]
theorem setObjW_rest (C:Ctx) {g:Nat} {o:Obj} (hg:C.w0.heap.size≤g∨g ∈ C.bor) (h:Rest C w):Rest C (setObjW w g o):=
 ⟨h.os,h.tape,h.output,by rw[setObjW_size];exact h.size,fun b hb hn=>by
  rw[setObjW_far (by rintro rfl;rcases hg with hg | hg;omega;exact hn hg)]
  exact h.block b hb hn⟩
theorem findNow_int {kk:IntKind} {z:Int}:∀ (l:List MapEntry) (i:Nat),(∀ e ∈ l,∃ y,e.key=.int kk y)→∃ r,Instr.findNow (.int kk) (.int kk z) l i=some r∧(∀ j v,r=some (j,v)→∃ e,l[j-i]?=some e∧i≤j∧e.key=.int kk z∧e.val=v)∧(r=none→∀ e ∈ l,e.key≠.int kk z)
 | [],i,h=>⟨none,rfl,(fun j v q=>by cases q),(fun _ e he=>absurd he List.not_mem_nil)⟩
 | e::l,i,h=>by
  obtain⟨y,hy⟩:=h e (List.mem_cons_self ..)
  by_cases hz:z=y
  ·subst hz
   refine⟨some (i,e.val),by unfold Instr.findNow;rw[hy];simp[Instr.sameNow],fun j v q=>?_,fun q=>by cases q⟩
   cases q
   exact⟨e,by simp,Nat.le_refl _,hy,rfl⟩
  ·obtain⟨r,h1,h2,h3⟩:=findNow_int l (i+1) (fun e he=>h e (List.mem_cons_of_mem _ he))
   refine⟨r,by unfold Instr.findNow;rw[hy,show Instr.sameNow (.int kk) (.int kk z) (.int kk y)=some (z==y) by simp[Instr.sameNow],beq_eq_false_iff_ne.2 hz];exact h1,fun j v q=>?_,fun q e' he'=>?_⟩
   ·obtain⟨e',q1,q2,q3,q4⟩:=h2 j v q
    refine⟨e',?_,by omega,q3,q4⟩
    rw[show j-i=(j-(i+1))+1 by omega,List.getElem?_cons_succ]
    exact q1
   ·rcases List.mem_cons.1 he' with rfl | he'
    ·rw[hy];simp;exact fun q=>hz q.symm
    ·exact h3 q e' he'
theorem MapOk.keys {kk:IntKind} {ag:Bool} {es:Array MapEntry} {cl:Nat} {f:Int→Option (List Value)} (h:MapOk kk ag es cl f):∀ e ∈ es.toList,∃ y,e.key=.int kk y:=fun e he=>by obtain⟨z,l,h1,-⟩:=h.key e he;exact⟨z,h1⟩
theorem keyInt {q:TypeId} {kk:IntKind} {z:Int} {b:Bool} (h:P.underlying q=some (.int kk)):(Instr.checkKey b 10000 q (.int kk z)).run P w=.ok () w:=by
 show (Instr.checkKey b (9999+1) q (.int kk z)).run P w=_
 unfold Instr.checkKey
 simp[run_underlying h]
theorem findInt {q:TypeId} {kk:IntKind} {z:Int} {l:List MapEntry} {r:Option (Nat×Value)} (h:P.underlying q=some (.int kk)) (hr:Instr.findNow (.int kk) (.int kk z) l 0=some r):(Instr.findKey q (.int kk z) l).run P w=.ok r w:=by simp[Instr.findKey,run_underlying h,hr]
theorem keyStays {kk:IntKind} {z:Int}:(Instr.keyThatStays (.int kk z) (.int kk z)).run P w=.ok (.int kk z) w:=by
 have:Instr.sameBits 10000 (.int kk z) (.int kk z)=true:=by simp[Instr.sameBits]
 simp[Instr.keyThatStays,this]
theorem MapOk.look {kk:IntKind} {ag:Bool} {es:Array MapEntry} {cl:Nat} {f:Int→Option (List Value)} (h:MapOk kk ag es cl f) {q e:TypeId} {t:TypeId} {z:Int} {g:Nat} {ok:Bool} (ht:P.underlying t=some (.map q e)) (hq:P.underlying q=some (.int kk)) (hg:w.heap[g]?=some (.map es cl)) {zv:Value} (hz:(zeroValue e).run P w=.ok zv w) :
  (Instr.lookup t (.map (some g)) (.int kk z) ok).run P w=.ok (match f z with | some l=>mkLk ok (wrapC ag l) true | none=>mkLk ok zv false) w:=by
 obtain⟨r,h1,h2,h3⟩:=findNow_int (z:=z) es.toList 0 h.keys
 have hr:=findInt (P:=P) (w:=w) hq h1
 cases r with
 | none=>
  have:f z=none:=by
   cases hf:f z with
   | none=>rfl
   | some l=>obtain⟨e,he,hk⟩:=h.all z l hf;exact absurd hk (h3 rfl e he)
  rw[this]
  cases ok<;>simp[Instr.lookup,run_underlying ht,getMap hg,keyInt hq,hr,hz,mkLk]
 | some p=>
  obtain⟨j,v⟩:=p
  obtain⟨e,q1,-,q3,q4⟩:=h2 j v rfl
  obtain⟨z',l,g1,g2,g3⟩:=h.key e (List.mem_of_getElem? q1)
  rw[q3] at g1
  cases g1
  rw[g2]
  cases ok<;>simp[Instr.lookup,run_underlying ht,getMap hg,keyInt hq,hr,← q4,g3,mkLk]
theorem lky_sound (hτ:TTok P τ) {o:Oper} {t:TypeId} {x i:Operand} {ok:Bool} (ho:o.op=.lookup t x i ok) (hd:∀ i,o.dst=some i→i<C.nt) {K:AF→AM→Nat→Prop} (h:acty τ o.dst o.op fr mem nx K) (hs:Sat C ρ fr mem nx a w) :
  o.wp P a w (fun a' w'=>∃ fr' mem' nx' ρ',K fr' mem' nx'∧Sat C ρ' fr' mem' nx' a' w'∧ExtS ρ nx ρ' nx'∧∀ d,o.dst≠some d→lk fr' d=lk fr d) Q:=by
 obtain⟨dst,op,type,pos,after,guard⟩:=o
 simp only at hd h ho
 subst ho
 simp only[acty,putK_eq] at h
 split at h
 ·rename_i r k z ti hx hi hti
  split at h
  ·rename_i kk kk' ag f te hk hl hte
   split at h
   ·rename_i e1 e2 e3
    have:=of_decide_eq_true e1
    subst this
    have:=of_decide_eq_true e2
    subst this
    have hag:=of_decide_eq_true e3
    obtain⟨hsome,hnone⟩:=h
    obtain⟨q,hu,hq⟩:=(hτ t ti hti).map hk
    obtain⟨g,es,cl,hA,hg,hbor,hmo⟩:=hs.blk r _ (lk_app hl)
    obtain⟨ie,hie,hsz,zz,hz,hzc⟩:=(hτ _ te hte).size
    obtain⟨de,hde,hrow,-⟩:=(hτ _ te hte).desc
    have h1:a.eval x=.map (some g):=by rw[(ev_ok hs.fok.left hx).1];simp[den,den2,den1,hA]
    have h2:a.eval i=.int _ z:=(ev_ok hs.fok.left hi).1
    have hzv:(zeroValue ti.mpe).run P w=.ok zz w:=by simp[zeroValue,typeInfo,hie,hz]
    have hrun:=hmo.look (z:=z) (ok:=ok) hu hq hg hzv
    have fin:∀ (l:List Value) (b:Bool),(∀ u ∈ l,plain1 u)→(ag=true∨∃ u,l=[u]∧atom u=true)→den ρ (mkLk ok (wrapC ag l) b)=mkLk ok (wrapC ag l) b∧okV ρ nx (mkLk ok (wrapC ag l) b):=by
     intro l b hp hc
     have hm:l.map (den1 ρ)=l:=by
      conv=>rhs;rw[← List.map_id l]
      exact List.map_congr_left fun v hv=>den1_plain (hp v hv)
     have h2:den2 ρ (wrapC ag l)=wrapC ag l∧ok2 ρ nx (wrapC ag l)∧den ρ (wrapC ag l)=wrapC ag l∧okV ρ nx (wrapC ag l):=by
      rcases hc with rfl | ⟨u,rfl,hu⟩
      ·refine⟨by simp[wrapC,den2,hm],fun v hv=>ok1_plain (hp v (by simpa using hv)),by simp[wrapC,den,den2,hm],fun v hv=>ok1_plain (hp v (by simpa using hv))⟩
      ·cases ag with
       | true=>exact⟨by simp only[wrapC,den2];congr 1;simp[den1_plain (hp u (by simp))],fun v hv=>ok1_plain (hp v (by simpa [wrapC] using hv)),by simp only[wrapC,den,den2];congr 1;simp[den1_plain (hp u (by simp))],fun v hv=>ok1_plain (hp v (by simpa [wrapC] using hv))⟩
       | false=>
        have q1:=den1_plain (ρ:=ρ) (hp u (by simp))
        have q2:=ok1_plain (ρ:=ρ) (n:=nx) (hp u (by simp))
        have q3:den2 ρ u=den1 ρ u∧ok2 ρ nx u=ok1 ρ nx u:=by cases u<;>first | exact⟨rfl,rfl⟩ | cases hu
        exact⟨q3.1.trans q1,by show ok2 ρ nx u;rw[q3.2];exact q2,(atom_den hu).trans q1,by show okV ρ nx u;rw[atom_ok hu];exact q2⟩
     cases ok with
     | true=>exact⟨by
       show Value.tuple (#[wrapC ag l,.bool b].map (den2 ρ))=_
       simp only[List.map_toArray,List.map_cons,List.map_nil,h2.1]
       rfl,fun v hv=>by simp[mkLk] at hv;rcases hv with rfl | rfl;exact h2.2.1;trivial⟩
     | false=>exact⟨h2.2.2.1,h2.2.2.2⟩
    cases hf:f z with
    | some l=>
     rw[hf] at hrun
     obtain⟨p1,p2,p3⟩:=hmo.pl z l hf
     obtain⟨e0,e1⟩:=fin l true p1 (by
      cases ag with
      | true=>exact .inl rfl
      | false=>
       obtain⟨u,rfl⟩:=List.length_eq_one_iff.1 (p3 rfl)
       exact .inr ⟨u,rfl,by simpa using p2⟩)
     refine wp_value (w':=w) (v:=den ρ (mkLk ok (wrapC ag l) true)) ?_ ⟨_,_,_,_,hsome l hf,hs.put (d:=dst) hd e1,ExtS.refl _ _,fun _ q=>lk_putF q⟩
     simp only[execOp,h1,h2]
     rw[Sem.run_bind,hrun,e0]
     rfl
    | none=>
     rw[hf] at hrun
     have hzz:=(hτ t ti hti).mapZero (hτ _ te hte) hk hie hz
     obtain⟨e0,e1⟩:=fin te.zero false (hτ _ te hte).zero (by
      rw[← hag]
      cases hta:te.agg with
      | true=>exact .inl rfl
      | false=>exact .inr ((hτ t ti hti).mapZero1 (hτ _ te hte) hk hta))
     rw[← hag] at e0 e1 hnone
     refine wp_value (w':=w) (v:=den ρ (mkLk ok (wrapC te.agg te.zero) false)) ?_ ⟨_,_,_,_,hnone hf,hs.put (d:=dst) hd e1,ExtS.refl _ _,fun _ q=>lk_putF q⟩
     simp only[execOp,h1,h2]
     rw[Sem.run_bind,hrun,e0,hzz]
     rfl
   ·exact h.elim
  ·exact h.elim
 ·exact h.elim
theorem mky_sound (hτ:TTok P τ) {o:Oper} {t:TypeId} {x:Option Operand} (ho:o.op=.makeMap t x) (hd:∀ i,o.dst=some i→i<C.nt) {K:AF→AM→Nat→Prop} (h:acty τ o.dst o.op fr mem nx K) (hs:Sat C ρ fr mem nx a w) :
  o.wp P a w (fun a' w'=>∃ fr' mem' nx' ρ',K fr' mem' nx'∧Sat C ρ' fr' mem' nx' a' w'∧ExtS ρ nx ρ' nx'∧∀ d,o.dst≠some d→lk fr' d=lk fr d) Q:=by
 obtain⟨dst,op,type,pos,after,guard⟩:=o
 simp only at hd h ho
 subst ho
 cases x with
 | some y=>exact h.elim
 | none=>
  simp only[acty,putK_eq] at h
  cases hti:lk τ t with
  | none=>rw[hti] at h;exact h.elim
  | some ti=>
   rw[hti] at h
   simp only at h
   split at h
   ·rename_i kk te hk hte
    have hs2:=hs.addX (w':=w.alloc (.map #[] 0)) (b:=.ext (.map kk te.agg (fun _=>none))) (p:=⟨some ⟨w.heap.size,0,none⟩,0,0,false,noSub⟩) ((Below.refl _ _).alloc (Nat.le_refl _) _)
     ⟨w.heap.size,#[],0,by rw[setPl_same],(by show (w.heap.push _)[w.heap.size]?=_;rw[Array.getElem?_push_size]),.inl hs.rest.size,⟨(fun e he=>by simp at he),(by simp),(fun e he=>by simp at he),(by simp),(fun z l hl=>by cases hl),(fun z l hl=>by cases hl)⟩⟩
     (fun g hg=>by
      have hg':bno _ nx=some g:=hg
      unfold bno at hg'
      rw[setPl_same] at hg'
      simp at hg'
      omega) rfl
    have hok:okV (setPl ρ nx ⟨some ⟨w.heap.size,0,none⟩,0,0,false,noSub⟩) (nx+1) (.map (some nx)):=⟨⟨Nat.lt_succ_self _,by rw[setPl_same]⟩,w.heap.size,0,by rw[setPl_same]⟩
    have hs3:=hs2.put (d:=dst) hd hok
    have e1:den (setPl ρ nx ⟨some ⟨w.heap.size,0,none⟩,0,0,false,noSub⟩) (.map (some nx))=.map (some w.heap.size):=by
     show Value.map ((setPl ρ nx _ nx).A.map (·.block))=_
     rw[setPl_same];rfl
    rw[e1] at hs3
    refine wp_value (w':=w.alloc (.map #[] 0)) ?_ ⟨_,_,_,_,h,hs3,ExtS.set _ _ _,fun _ q=>lk_putF q⟩
    simp[execOp,Instr.makeMap,newObj,Sem.run]
   ·exact h.elim
theorem modify_list {es:Array MapEntry} {i:Nat} {e:MapEntry} (h:es.toList[i]?=some e) (g:MapEntry→MapEntry):(es.modify i g).toList=es.toList.set i (g e):=by
 rw[Array.toList_modify]
 exact List.ext_getElem? fun j=>by
  rw[List.getElem?_modify,List.getElem?_set]
  have hlt:=(List.getElem?_eq_some_iff.1 h).1
  by_cases hj:i=j
  ·subst hj;rw[if_pos rfl,if_pos hlt,h];simp
  ·rw[if_neg hj];simp[hj]
theorem MapOk.update {kk:IntKind} {ag:Bool} {es:Array MapEntry} {cl:Nat} {f f':Int→Option (List Value)} (h:MapOk kk ag es cl f) {z:Int} {l:List Value} (hl:(∀ u ∈ l,plain1 u)∧l.all atom=true∧(ag=false→l.length=1)) (hf:mapPut f z l f') {q e t:TypeId} {g:Nat} (ht:P.underlying t=some (.map q e)) (hq:P.underlying q=some (.int kk)) (hg:w.heap[g]?=some (.map es cl)) :
  ∃ es' cl',(Instr.mapUpdate t (.map (some g)) (.int kk z) (wrapC ag l)).run P w=.ok () (setObjW w g (.map es' cl'))∧MapOk kk ag es' cl' f':=by
 obtain⟨r,h1,h2,h3⟩:=findNow_int (z:=z) es.toList 0 h.keys
 have hr:=findInt (P:=P) (w:=w) hq h1
 cases r with
 | none=>
  refine⟨es.push ⟨.int kk z,wrapC ag l,cl⟩,cl+1,?_,?_⟩
  ·simp[Instr.mapUpdate,run_underlying ht,getMap hg,keyInt hq,hr,setMap _ hg]
  ·have hno:=h3 rfl
   refine⟨fun x hx=>?_,?_,fun x hx=>?_,?_,fun y m hm=>?_,fun y m hm=>?_⟩
   ·simp only[Array.toList_push,List.mem_append,List.mem_singleton] at hx
    rcases hx with hx | rfl
    ·obtain⟨y,m,g1,g2,g3⟩:=h.key x hx
     refine⟨y,m,g1,?_,g3⟩
     rw[hf y,if_neg (by rintro rfl;exact hno x hx g1)]
     exact g2
    ·exact⟨z,l,rfl,by rw[hf z,if_pos rfl],rfl⟩
   ·rw[Array.toList_push,List.map_append,List.nodup_append]
    refine⟨h.nod,by simp,fun a ha b hb hab=>?_⟩
    simp only[List.map_cons,List.map_nil,List.mem_singleton] at hb
    subst hb
    obtain⟨x,hx,rfl⟩:=List.mem_map.1 ha
    exact hno x hx hab
   ·simp only[Array.toList_push,List.mem_append,List.mem_singleton] at hx
    rcases hx with hx | rfl
    ·exact Nat.lt_succ_of_lt (h.born x hx)
    ·exact Nat.lt_succ_self _
   ·rw[Array.toList_push,List.map_append,List.nodup_append]
    refine⟨h.bnd,by simp,fun a ha b hb hab=>?_⟩
    simp only[List.map_cons,List.map_nil,List.mem_singleton] at hb
    subst hb
    obtain⟨x,hx,rfl⟩:=List.mem_map.1 ha
    have:=h.born x hx
    omega
   ·rw[hf y] at hm
    rw[Array.toList_push]
    by_cases hy:y=z
    ·subst hy;exact⟨_,List.mem_append_right _ (List.mem_singleton.2 rfl),rfl⟩
    ·rw[if_neg hy] at hm
     obtain⟨x,hx,hk⟩:=h.all y m hm
     exact⟨x,List.mem_append_left _ hx,hk⟩
   ·rw[hf y] at hm
    by_cases hy:y=z
    ·rw[if_pos hy] at hm;cases hm;exact hl
    ·rw[if_neg hy] at hm;exact h.pl y m hm
 | some p=>
  obtain⟨j,v⟩:=p
  obtain⟨x0,q1,-,q3,q4⟩:=h2 j v rfl
  rw[Nat.sub_zero] at q1
  have hx0:=List.mem_of_getElem? q1
  have hjlt:=(List.getElem?_eq_some_iff.1 q1).1
  have hmod:=modify_list q1 (fun e=>{ e with key:=.int kk z,val:=wrapC ag l })
  have huni:∀ (i:Nat) (x:MapEntry),es.toList[i]?=some x→x.key=.int kk z→i=j:=fun i x hi hk=>by
   have hn:=h.nod
   have hil:=(List.getElem?_eq_some_iff.1 hi).1
   have e1:(es.toList.map (·.key))[i]'(by simpa using hil)=(es.toList.map (·.key))[j]'(by simpa using hjlt):=by
    rw[List.getElem_map,List.getElem_map,(List.getElem?_eq_some_iff.1 hi).2,(List.getElem?_eq_some_iff.1 q1).2,hk,q3]
   exact (List.getElem_inj hn).1 e1
  refine⟨es.modify j fun e=>{ e with key:=.int kk z,val:=wrapC ag l },cl,?_,?_⟩
  ·have hkey:((es[j]?).map (·.key)).getD (.int kk z)=.int kk z:=by
    rw[← Array.getElem?_toList,q1];exact q3
   simp[Instr.mapUpdate,run_underlying ht,getMap hg,keyInt hq,hr,hkey,keyStays,setMap _ hg]
  ·have hmem:∀ x,x ∈ (es.toList.set j { x0 with key:=.int kk z,val:=wrapC ag l })→x={ x0 with key:=.int kk z,val:=wrapC ag l }∨(x ∈ es.toList∧x.key≠.int kk z):=fun x hx=>by
    obtain⟨i,hi⟩:=List.getElem?_of_mem hx
    rw[List.getElem?_set] at hi
    by_cases hij:j=i
    ·subst hij;rw[if_pos rfl,if_pos hjlt] at hi;exact .inl (Option.some.inj hi).symm
    ·rw[if_neg hij] at hi
     exact .inr ⟨List.mem_of_getElem? hi,fun hk=>hij (huni i x hi hk).symm⟩
   have hmk:∀ (φ:MapEntry→Value),φ x0=φ { x0 with key:=.int kk z,val:=wrapC ag l }→(es.toList.set j { x0 with key:=.int kk z,val:=wrapC ag l }).map φ=es.toList.map φ:=fun φ hφ=>by
    apply List.ext_getElem?
    intro i
    rw[List.getElem?_map,List.getElem?_map,List.getElem?_set]
    by_cases hij:j=i
    ·subst hij;rw[if_pos rfl,if_pos hjlt,q1,Option.map_some,Option.map_some,hφ]
    ·rw[if_neg hij]
   refine⟨fun x hx=>?_,?_,fun x hx=>?_,?_,fun y m hm=>?_,fun y m hm=>?_⟩
   ·rw[hmod] at hx
    rcases hmem x hx with rfl | ⟨hx,hne⟩
    ·exact⟨z,l,rfl,by rw[hf z,if_pos rfl],rfl⟩
    ·obtain⟨y,m,g1,g2,g3⟩:=h.key x hx
     refine⟨y,m,g1,?_,g3⟩
     rw[hf y,if_neg (by rintro rfl;exact hne g1)]
     exact g2
   ·rw[hmod,hmk (·.key) q3];exact h.nod
   ·rw[hmod] at hx
    rcases hmem x hx with rfl | ⟨hx,hne⟩
    ·exact h.born x0 hx0
    ·exact h.born x hx
   ·rw[hmod]
    have:(es.toList.set j { x0 with key:=.int kk z,val:=wrapC ag l }).map (·.born)=es.toList.map (·.born):=by
     apply List.ext_getElem?
     intro i
     rw[List.getElem?_map,List.getElem?_map,List.getElem?_set]
     by_cases hij:j=i
     ·subst hij;rw[if_pos rfl,if_pos hjlt,q1];rfl
     ·rw[if_neg hij]
    rw[this];exact h.bnd
   ·rw[hf y] at hm
    rw[hmod]
    by_cases hy:y=z
    ·subst hy;exact⟨_,List.mem_of_getElem? (i:=j) (by rw[List.getElem?_set,if_pos rfl,if_pos hjlt]),rfl⟩
    ·rw[if_neg hy] at hm
     obtain⟨x,hx,hk⟩:=h.all y m hm
     obtain⟨i,hi⟩:=List.getElem?_of_mem hx
     have hij:j≠i:=by
      rintro rfl
      rw[q1] at hi;cases hi
      rw[q3] at hk;cases hk;exact hy rfl
     exact⟨x,List.mem_of_getElem? (i:=i) (by rw[List.getElem?_set,if_neg hij];exact hi),hk⟩
   ·rw[hf y] at hm
    by_cases hy:y=z
    ·rw[if_pos hy] at hm;cases hm;exact hl
    ·rw[if_neg hy] at hm;exact h.pl y m hm
theorem upy_core (hτ:TTok P τ) {t:TypeId} {x i y:Operand} {K:AF→AM→Nat→Prop} (h:acty τ none (.mapUpdate t x i y) fr mem nx K) (hs:Sat C ρ fr mem nx a w) :
  ∃ w' mem',(Instr.mapUpdate t (a.eval x) (a.eval i) (a.eval y)).run P w=.ok () w'∧K fr mem' nx∧Sat C ρ fr mem' nx a w':=by
 simp only[acty,putK_eq] at h
 split at h
 ·rename_i r k z v ti hx hi hy hti hdn
  split at h
  ·rename_i kk kk' ag f hk hl
   split at h
   ·rename_i e1 e2 hat hpl hag
    have:=of_decide_eq_true e1
    subst this
    have:=of_decide_eq_true e2
    subst this
    obtain⟨f',hf,hK⟩:=h
    obtain⟨q,hu,hq⟩:=(hτ t ti hti).map hk
    obtain⟨g,es,cl,hA,hg,hbor,hmo⟩:=hs.blk r _ (lk_app hl)
    have h1:a.eval x=.map (some g):=by rw[(ev_ok hs.fok.left hx).1];simp[den,den2,den1,hA]
    have h2:a.eval i=.int _ z:=(ev_ok hs.fok.left hi).1
    have hplain:∀ u ∈ cellsOf v,plain1 u:=fun u hu=>plB_ok (List.all_eq_true.1 hpl u hu)
    have h3:a.eval y=wrapC ag (cellsOf v):=by
     rw[(ev_ok hs.fok.left hy).1]
     cases v with
     | agg cs=>
      simp at hag
      subst hag
      simp only[den,den2,wrapC,cellsOf]
      congr 1
      apply Array.toList_inj.1
      rw[Array.toList_map,List.toList_toArray]
      conv=>rhs;rw[← List.map_id cs.toList]
      exact List.map_congr_left fun u hu=>den1_plain (hplain u hu)
     | _=>
      simp at hag
      subst hag
      rw[atom_den (by simpa [cellsOf] using hat),den1_plain (hplain _ (by simp[cellsOf]))]
      rfl
    obtain⟨es',cl',hrun,hmo'⟩:=hmo.update (P:=P) (w:=w) (l:=cellsOf v) ⟨hplain,hat,fun q=>by
     cases v with
     | agg cs=>simp at hag;rw[hag] at q;cases q
     | _=>rfl⟩ hf hu hq hg
    refine⟨_,_,by rw[h1,h2,h3];exact hrun,hK,hs.write hl setObjW_size (fun b hb=>setObjW_far fun e=>hb (by
     show bno ρ r=some b
     rw[e];simp[bno,hA])) ⟨g,es',cl',hA,setObjW_at (heap_lt hg),hbor,hmo'⟩ (fun g hg=>hg) (fun g hg=>hg) (setObjW_rest C hbor hs.rest)⟩
   ·exact h.elim
  ·exact h.elim
 ·exact h.elim
theorem upy_sound (hτ:TTok P τ) {o:Oper} {t:TypeId} {x i y:Operand} (ho:o.op=.mapUpdate t x i y∨o.op=.insert t x i y) (hd:∀ i,o.dst=some i→i<C.nt) {K:AF→AM→Nat→Prop} (h:acty τ o.dst o.op fr mem nx K) (hs:Sat C ρ fr mem nx a w) :
  o.wp P a w (fun a' w'=>∃ fr' mem' nx' ρ',K fr' mem' nx'∧Sat C ρ' fr' mem' nx' a' w'∧ExtS ρ nx ρ' nx'∧∀ d,o.dst≠some d→lk fr' d=lk fr d) Q:=by
 obtain⟨dst,op,type,pos,after,guard⟩:=o
 simp only at hd h ho
 have hdn:dst=none:=by
  rcases ho with rfl | rfl<;>(simp only[acty] at h;split at h<;>first | rfl | exact h.elim)
 subst hdn
 have h':acty τ none (.mapUpdate t x i y) fr mem nx K:=by rcases ho with rfl | rfl<;>exact h
 obtain⟨w',mem',hrun,hK,hs'⟩:=upy_core (P:=P) hτ h' hs
 rcases ho with rfl | rfl
 ·unfold Oper.wp execOp
  simp only
  rw[Sem.run_bind,hrun]
  exact⟨_,_,_,_,hK,hs',ExtS.refl _ _,fun _ _=>rfl⟩
 ·unfold Oper.wp execOp
  simp only
  rw[Sem.run_bind,hrun]
  exact⟨_,_,_,_,hK,hs',ExtS.refl _ _,fun _ _=>rfl⟩
theorem acty_sound (hτ:TTok P τ) {o:Oper} (hd:∀ i,o.dst=some i→i<C.nt) {K:AF→AM→Nat→Prop} (h:acty τ o.dst o.op fr mem nx K) (hs:Sat C ρ fr mem nx a w) :
  o.wp P a w (fun a' w'=>∃ fr' mem' nx' ρ',K fr' mem' nx'∧Sat C ρ' fr' mem' nx' a' w'∧ExtS ρ nx ρ' nx'∧∀ d,o.dst≠some d→lk fr' d=lk fr d) Q:=by
 cases hop:o.op with
 | buildSlice t len parts=>exact bsy_sound hτ hop hd h hs
 | store t x y=>exact sty_sound hτ hop hd h hs
 | indexAddr t x i=>exact ixy_sound hτ hop hd h hs
 | slice t x lo hi mx=>
  cases lo with
  | none=>rw[hop] at h;exact h.elim
  | some l=>cases mx with
   | some m=>rw[hop] at h;exact h.elim
   | none=>exact sly_sound hτ hop hd h hs
 | makeMap t x=>exact mky_sound hτ hop hd h hs
 | mapUpdate t x i y=>exact upy_sound hτ (.inl hop) hd h hs
 | insert t x i y=>exact upy_sound hτ (.inr hop) hd h hs
 | lookup t x i ok=>exact lky_sound hτ hop hd h hs
 | call c=>
  obtain⟨dst,op,type,pos,after,guard⟩:=o
  simp only at hd h hop
  subst hop
  obtain⟨callee,args,argTypes⟩:=c
  cases callee with
  | value f=>exact h.elim
  | invoke r m=>exact h.elim
  | builtin b=>
   cases b<;>first | exact h.elim | skip
   simp only[acty,putK_eq] at h
   split at h
   ·rename_i s x t tx hev hty
    have hvs:evs fr args.toList=some [s,x]:=hev
    obtain⟨h1,h2⟩:=evs_ok hs.fok.left hvs
    have h1':args.map a.eval=#[den ρ s,den ρ x]:=by apply Array.toList_inj.1;simp[h1]
    have hat:argTypes=#[t,tx]:=by apply Array.toList_inj.1;simp[hty]
    split at h
    ·rename_i ti tj hti htj
     split at h
     ·rename_i eb te hsl hsl2 heb hte
      split at h
      ·rename_i sz hsz hzl
       obtain⟨hu,hby⟩:=(hτ t ti hti).elt heb
       obtain⟨e',hu2,-⟩:=(hτ tx tj htj).slice hsl2
       obtain⟨v,w',mem',nx',ρ',hrun,hK,hs',hok',hx'⟩:=appy_sound (ty:=type) hτ hu (hτ _ te hte) hby hu2 (Nat.eq_of_beq_eq_true hzl) (by omega) h hs (h2 s (by simp))
       refine wp_value (v:=den ρ' v) (w':=w') ?_ ⟨_,_,_,_,hK,hs'.put (d:=dst) hd hok',hx',fun _ q=>lk_putF q⟩
       simp[execOp,resolve,invoke,builtin,h1',hat,hrun]
      ·exact h.elim
     ·exact h.elim
    ·exact h.elim
   ·exact h.elim
 | _=>rw[hop] at h;exact h.elim
theorem opx_sound {I:List Nat} (hτ:TTok P τ) (hF:FTokI P F I) {o:Oper} (hI:C.fm=[]∨inlOk I o.op=true) (hd:∀ i,o.dst=some i→i<C.nt) {K:AF→AM→Nat→Prop} (h:opx τ F o fr mem nx K) (hs:Sat C ρ fr mem nx a w) :
  o.wp P a w (fun a' w'=>∃ fr' mem' nx' ρ',K fr' mem' nx'∧Sat C ρ' fr' mem' nx' a' w'∧ExtS ρ nx ρ' nx'∧∀ d,o.dst≠some d→lk fr' d=lk fr d) Q:=by
 have h':(match vx τ fr mem o.op with | some v=>putK o.dst v fr fun fr'=>K fr' mem nx | none=>(match isY τ fr mem o.op with | true=>acty τ o.dst o.op fr mem nx K | false=>actx τ F o.dst o.op fr mem nx K)):=by cases o;exact h
 cases hv:vx τ fr mem o.op with
 | none=>
  rw[hv] at h'
  simp only at h'
  cases hy:isY τ fr mem o.op with
  | true=>rw[hy] at h';exact acty_sound hτ hd h' hs
  | false=>rw[hy] at h';exact actx_sound hτ hF hI hd h' hs
 | some v=>
  rw[hv] at h'
  simp only[putK_eq] at h'
  obtain⟨h1,h2⟩:=vx_run (P:=P) hτ hs.fok.left (fun i b hi=>hs.blk i b (lk_app hi)) hv
  exact wp_value h1 ⟨_,_,_,_,h',hs.put hd h2,ExtS.refl _ _,fun _ q=>lk_putF q⟩
end
def fvx (τ:TT) (fr:AF) (memS:AM) (o:Op) (K:Value→Prop):Prop:=match vx τ fr memS o with
 | some v=>K v
 | none=>(match o with
  | .indexAddr t x i=>(match ev fr x,ev fr i,lk τ t with
   | some (.slice (some ⟨ab,ao,as_⟩) n _),some (.int _ k),some ti=>(match lk memS ab with
    | some (.row _ sz n' _)=>(match ao,as_,ti.sl,ti.esz,Nat.beq ti.esz sz with
     | 0,none,true,_+1,true=>(n≤n'∧0≤k∧k<n)∧K (.pointer (some ⟨ab,0,some k.toNat⟩))
     | _,_,_,_,_=>False)
    | some (.ext (.deep _ sz n' _ _ _))=>(match ao,as_,ti.sl,ti.esz,Nat.beq ti.esz sz with
     | 0,none,true,_+1,true=>(n≤n'∧0≤k∧k<n)∧K (.pointer (some ⟨ab,0,some k.toNat⟩))
     | _,_,_,_,_=>False)
    | _=>False)
   | _,_,_=>False)
  | .slice t x none (some y) none=>(match ev fr x,ev fr y,lk τ t with
   | some (.slice A _ cap),some (.int _ h),some ti=>(match ti.sl,ti.esz with
    | true,_+1=>(0≤h∧h≤cap)∧K (.slice A h.toNat cap)
    | _,_=>False)
   | _,_,_=>False)
  | .binOp bo _ x y _=>(match ev fr x,ev fr y with
   | some (.int k b),some (.int k' c)=>(match bo with
    | .shl=>0≤c∧K (.int k (k.wrap (b * 2 ^ min c.toNat k.bits)))
    | .shr=>0≤c∧K (.int k (b.fdiv (2 ^ min c.toNat k.bits)))
    | .quo=>(k=k'∧c≠0)∧K (.int k (k.wrap (b.tdiv c)))
    | .rem=>(k=k'∧c≠0)∧K (.int k (b.tmod c))
    | _=>False)
   | _,_=>False)
  | _=>False)
section
variable {P:Program} {τ:TT} {C:Ctx} {ρ:Nat→Pl} {fr:AF} {memS:AM} {nx:Nat} {a:Act}
theorem fvx_yields (hτ:TTok P τ) {o:Oper} {K:Value→Prop} (hf:FrOk ρ fr nx a) (hlt:∀ i b,lk memS i=some b→i<nx∧(ρ i).res=false) {H:World→Prop} (hH:∀ w,H w→∀ i b,lk memS i=some b→BlkOk C ρ nx i w b) {w0:World} (h0:H w0) (h:fvx τ fr memS o.op K) :
  ∃ v,K v∧okV ρ nx v∧∀ w,H w→(execOp a.eval o).run P w=.ok (.value (den ρ v)) w:=by
 unfold fvx at h
 cases hv:vx τ fr memS o.op with
 | some v=>rw[hv] at h;exact⟨v,h,(vx_run (P:=P) hτ hf (hH w0 h0) hv).2,fun w hw=>(vx_run (P:=P) hτ hf (hH w hw) hv).1⟩
 | none=>
  rw[hv] at h
  obtain⟨dst,op,type,pos,after,guard⟩:=o
  cases op<;>simp only at h<;>first | exact h.elim | skip
  case slice t x lo hi mx=>
   cases lo with
   | some _=>exact h.elim
   | none=>
    cases mx with
    | some _=>cases hi<;>exact h.elim
    | none=>
     cases hi with
     | none=>exact h.elim
     | some y=>
      try simp only at h
      cases hx:ev fr x with
      | none=>rw[hx] at h;exact h.elim
      | some p=>
       rw[hx] at h
       cases p<;>(try simp only at h)<;>first | exact h.elim | skip
       rename_i A n cap
       cases hy:ev fr y with
       | none=>rw[hy] at h;exact h.elim
       | some q=>
        rw[hy] at h
        cases q<;>(try simp only at h)<;>first | exact h.elim | skip
        rename_i k hh
        cases hti:lk τ t with
        | none=>rw[hti] at h;exact h.elim
        | some ti=>
         rw[hti] at h
         try simp only at h
         split at h
         ·rename_i s hsl hesz
          obtain⟨⟨h0,h1⟩,hK⟩:=h
          have r:=fun w=>slice_run (P:=P) (w:=w) hτ hf hx hy hti hsl hesz h0 h1
          refine⟨_,hK,(r w0).2,fun w hw=>?_⟩
          simp[execOp,(r w).1]
         ·exact h.elim
  case indexAddr t x i=>
   cases hx:ev fr x with
   | none=>rw[hx] at h;exact h.elim
   | some p=>
    rw[hx] at h
    cases p<;>first | exact h.elim | skip
    rename_i A n cp
    cases A with
    | none=>exact h.elim
    | some ad=>
     cases hy:ev fr i with
     | none=>rw[hy] at h;exact h.elim
     | some q=>
      rw[hy] at h
      cases q<;>first | exact h.elim | skip
      rename_i kk k
      cases hti:lk τ t with
      | none=>rw[hti] at h;exact h.elim
      | some ti=>
       rw[hti] at h
       simp only at h
       cases hb:lk memS ad.block with
       | none=>rw[hb] at h;exact h.elim
       | some bl=>
        rw[hb] at h
        cases bl with
        | box bt cs=>exact h.elim
        | ext eb=>cases eb with
         | fam tf sb=>exact h.elim
         | map kk ag f=>exact h.elim
         | deep bt sz n' c1 el u=>
          obtain⟨ab,ao,as_⟩:=ad
          simp only at h
          split at h
          ·rename_i s hsl hesz hbe
           obtain⟨⟨hn,hk0,hkn⟩,hK⟩:=h
           have hsz:ti.esz=sz:=Nat.eq_of_beq_eq_true hbe
           obtain⟨h1,h2⟩:=ev_ok hf hx
           have h3:a.eval i=.int kk k:=(ev_ok hf hy).1
           obtain⟨⟨hs1,hs2⟩,-,-,hrow⟩:=hH w0 h0 _ _ hb
           rcases hrow with h0 | ⟨-,b,off,hA,-⟩
           ·omega
           ·have hok:okV ρ nx (.pointer (some ⟨ab,0,some k.toNat⟩)):=⟨hlt _ _ hb,⟨b,off,hA⟩,fun j hj=>by cases hj;show k.toNat<(ρ ab).n;rw[hs2];omega⟩
            have e1:den ρ (.slice (some ⟨ab,0,none⟩) n cp)=.slice (some ⟨b,off,none⟩) n cp:=by simp[den,den2,den1,dS_whole,hA]
            have e2:den ρ (.pointer (some ⟨ab,0,some k.toNat⟩))=.pointer (some ⟨b,off+k.toNat * sz,none⟩):=by simp[den,den2,den1,dA_some (a:=⟨ab,0,some k.toNat⟩) hA,hs1]
            rw[e1] at h1
            refine⟨_,hK,hok,fun w hw=>?_⟩
            simp only[execOp,h1,h3]
            rw[Sem.run_bind,index_run hτ hti hsl hesz hk0 hkn,e2,hsz]
            rfl
          ·exact h.elim
        | row bt sz n' el=>
         simp only at h
         split at h
         ·rename_i s hoff hsp hsl hesz hbe
          obtain⟨⟨hn,hk0,hkn⟩,hK⟩:=h
          have hsz:ti.esz=sz:=Nat.eq_of_beq_eq_true hbe
          obtain⟨h1,h2⟩:=ev_ok hf hx
          obtain⟨h3,-⟩:=ev_ok hf hy
          obtain⟨⟨hs1,hs2⟩,-,hrow⟩:=hH w0 h0 _ _ hb
          rcases hrow with h0 | ⟨b,off,hA,hlt2,hc⟩
          ·omega
          ·obtain⟨e,hu,he⟩:=(hτ t ti hti).slice hsl
           have hok:okV ρ nx (.pointer (some ⟨ad.block,0,some k.toNat⟩)):=⟨hlt _ _ hb,⟨b,off,hA⟩,fun j hj=>by cases hj;show k.toNat<(ρ ad.block).n;rw[hs2];omega⟩
           have e1:den ρ (.slice (some ad) n cp)=.slice (some ⟨b,off,none⟩) n cp:=by simp[den,den2,den1,dS,dA_some hA,hsp,hoff]
           have e2:den ρ (.pointer (some ⟨ad.block,0,some k.toNat⟩))=.pointer (some ⟨b,off+k.toNat * sz,none⟩):=by simp[den,den2,den1,dA_some (a:=⟨ad.block,0,some k.toNat⟩) hA,hs1]
           rw[e1] at h1
           have h3':a.eval i=.int kk k:=h3
           refine⟨_,hK,hok,fun w hw=>?_⟩
           rw[e2]
           cases hi:P.info? e with
           | none=>simp[szOf,hi] at he;omega
           | some ii=>
            have hes:ii.size=sz:=by rw[← hsz,← he];simp[szOf,hi]
            simp[execOp,h1,h3',Instr.indexAt,asIntOf,run_underlying hu,hk0,hkn,sizeOf,typeInfo,hi,hes,Addr.add_mid]
         ·exact h.elim
  case binOp bo t x y yt=>
   cases hx:ev fr x with
   | none=>rw[hx] at h;exact h.elim
   | some p=>
    rw[hx] at h
    cases p<;>first | exact h.elim | skip
    rename_i k b
    cases hy:ev fr y with
    | none=>rw[hy] at h;exact h.elim
    | some q=>
     rw[hy] at h
     cases q<;>first | exact h.elim | skip
     rename_i k' c
     have h1:a.eval x=.int k b:=(ev_ok hf hx).1
     have h2:a.eval y=.int k' c:=(ev_ok hf hy).1
     cases bo<;>simp only at h<;>first | exact h.elim | skip
     case quo=>
      obtain⟨⟨rfl,hc⟩,hK⟩:=h
      refine⟨_,hK,trivial,fun w hw=>?_⟩
      show _=Result.ok (Next.value (.int k (k.wrap (b.tdiv c)))) w
      simp[execOp,h1,h2,eqGuard,binOp,Op.intDiv,hc]
     case rem=>
      obtain⟨⟨rfl,hc⟩,hK⟩:=h
      refine⟨_,hK,trivial,fun w hw=>?_⟩
      show _=Result.ok (Next.value (.int k (b.tmod c))) w
      simp[execOp,h1,h2,eqGuard,binOp,Op.intDiv,hc]
     case shl=>
      obtain⟨hc,hK⟩:=h
      refine⟨_,hK,trivial,fun w hw=>?_⟩
      show _=Result.ok (Next.value (.int k (k.wrap (b * 2 ^ min c.toNat k.bits)))) w
      simp[execOp,h1,h2,eqGuard,binOp,Op.shift,show ¬ c<0 by omega]
     case shr=>
      obtain⟨hc,hK⟩:=h
      refine⟨_,hK,trivial,fun w hw=>?_⟩
      show _=Result.ok (Next.value (.int k (b.fdiv (2 ^ min c.toNat k.bits)))) w
      simp[execOp,h1,h2,eqGuard,binOp,Op.shift,show ¬ c<0 by omega]
end
end Go.Proofs.YtchhdflealgkaaaGreat
namespace Go.Proofs.YtchhdflealgkaaaGreat
open Go.RowKit
def Later (B:Nat) (w:World):Type:={ w':World // Below B w w' }
def Later.world {B:Nat} {w:World} (x:Later B w):World:=x.1
theorem Later.below {B:Nat} {w:World} (x:Later B w):Below B w x.world:=x.2
theorem Later.cell {B:Nat} {w:World} (x:Later B w) {b o:Nat} (hb:b<B):x.world.cell? ⟨b,o,none⟩=w.cell? ⟨b,o,none⟩:=x.below.cell (p:=⟨b,o,none⟩) hb
section
variable {P:Program}
theorem wp_region_below (B:Nat) {id:Nat} {Q:Exit→Act→World→Prop} {a:Act} {w:World} {l:List Oper} (hm:P.follows .mixedOrders=true) (hB:Region.lexB .any l.toArray=true)
  (h:wpQuiet P l.toArray (fun w'=>∃ x:Later B w,w'=x.world) (fun a'=>∀ w',(∃ x:Later B w,w'=x.world)→Q .normal a' w') l a):(Code.region id l.toArray true).wp P Q a w:=
 wp_region_quiet (C:=fun w'=>∃ x:Later B w,w'=x.world) hm hB ⟨⟨w.drew,(Below.refl B w).drew⟩,rfl⟩ (by simpa using h)
end
end Go.Proofs.YtchhdflealgkaaaGreat
namespace Go.Proofs.YtchhdflealgkaaaGreat
open Go.RowKit
set_option linter.unusedSimpArgs false
set_option linter.unusedVariables false
section
variable {P:Program} {md:Region.Mode} {ops:Array Oper} {Q:Exit→Act→World→Prop}
theorem wpAny_more:∀ (fuel:Nat) (listed:Array Bool) (a:Act) (w:World),wpAny P md ops Q fuel listed a w→wpAny P md ops Q (fuel+1) listed a w
 | 0,listed,a,w,h=>⟨fun _=>h.2,fun i hi=>by rw[h.1] at hi;cases hi⟩
 | fuel+1,listed,a,w,h=>⟨h.1,fun i hi=>wpOp_mono (fun a' w' h'=>wpAny_more fuel _ a' w' h') (h.2 i hi)⟩
theorem wpAny_much (listed:Array Bool) (a:Act) (w:World) (m:Nat) (h:wpAny P md ops Q m listed a w):∀ fuel,wpAny P md ops Q (fuel+m) listed a w
 | 0=>by simpa using h
 | fuel+1=>by
  have:=wpAny_more _ _ _ _ (wpAny_much listed a w m h fuel)
  rwa[show fuel+m+1=fuel+1+m by omega] at this
def reachB (md:Region.Mode) (ops:Array Oper):Nat→Nat→Nat→Bool
 | 0,_,_=>false
 | n+1,j,i=>match ops[j]? with
  | none=>false
  | some o=>o.after.any fun e=>Region.binds md e&&(e.on==i||reachB md ops n e.on i)
def Dn (md:Region.Mode) (ops:Array Oper) (listed:Array Bool):Prop:=
 ∀ (j:Nat) (o:Oper),ops[j]?=some o→listed.getD j false=true→∀ e ∈ o.after,Region.binds md e=true→listed.getD e.on false=true
theorem reach_listed {listed:Array Bool} (hd:Dn md ops listed):∀ (n j i:Nat),(∀ o,ops[j]?=some o→∀ e ∈ o.after,Region.binds md e=true→listed.getD e.on false=true)→reachB md ops n j i=true→listed.getD i false=true
 | 0,j,i,hp,h=>by simp[reachB] at h
 | n+1,j,i,hp,h=>by
  unfold reachB at h
  cases ho:ops[j]? with
  | none=>simp[ho] at h
  | some o=>
   simp only[ho,Array.any_eq_true] at h
   obtain⟨x,hx,he⟩:=h
   have hm:o.after[x] ∈ o.after:=Array.getElem_mem hx
   simp only[Bool.and_eq_true,Bool.or_eq_true,beq_iff_eq] at he
   have hl:=hp o ho _ hm he.1
   rcases he.2 with h1 | h1
   ·rwa[h1] at hl
   ·exact reach_listed hd n _ i (fun o' ho' e' he' hb'=>hd _ o' ho' hl e' he' hb') h1
theorem getD_set_mono {listed:Array Bool} {i x:Nat} (h:listed.getD x false=true):(listed.setIfInBounds i true).getD x false=true:=by
 by_cases hx:i=x
 ·subst hx
  have hlt:i<listed.size:=by
   rcases Nat.lt_or_ge i listed.size with h' | h'
   ·exact h'
   ·simp[Array.getD,Nat.not_lt.2 h'] at h
  simp[Array.getD,hlt]
 ·rwa[getD_set_ne false hx]
theorem Dn.set_ {listed:Array Bool} (hd:Dn md ops listed) {i:Nat} (hi:i ∈ Region.ready md ops listed):Dn md ops (listed.setIfInBounds i true):=by
 obtain⟨hun,oi,hoi,hall⟩:=mem_ready.1 hi
 intro j o ho hl e he hb
 refine getD_set_mono ?_
 by_cases hji:i=j
 ·subst hji
  rw[hoi] at ho
  cases ho
  exact hall e he hb
 ·rw[getD_set_ne false hji] at hl
  exact hd j o ho hl e he hb
def thenK (K:Act→World→Prop) (Q:Exit→Act→World→Prop):Exit→Act→World→Prop
 | .normal,a,w=>K a w
 | e,a,w=>Q e a w
theorem upon_thenK {o:Oper} {a:Act} {K1:Act→World→Prop} {K:Act→World→Prop} {r:Result Next} (h:o.upon P a K1 (thenK K Q) r):o.upon P a K1 Q r:=by
 cases r with
 | ok n w'=>
  cases n<;>simp only[Oper.upon] at h ⊢<;>exact h
 | halt x w'=>cases x<;>simp only[Oper.upon] at h ⊢<;>exact h
theorem wpOp_head {head:Array Oper} {k i:Nat} {K K1 K2:Act→World→Prop} {a:Act} {w:World} (hh:∀ i,i<k→head[i]?=ops[i]?) (hg:∀ i o g b,i<k→ops[i]?=some o→o.guard=some (g,b)→g<k) (hi:i<k)
  (h:wpOp P head (thenK K Q) i K1 a w) (hK:∀ a w,K1 a w→K2 a w):wpOp P ops Q i K2 a w:=by
 refine wpOp_mono hK ?_
 unfold wpOp at *
 rw[hh i hi] at h
 cases ho:ops[i]? with
 | none=>simp only[ho] at h ⊢;exact h
 | some o=>
  simp only[ho] at h ⊢
  have hw:Region.wanted o (yielded head a.tmps)=Region.wanted o (yielded ops a.tmps):=by
   unfold Region.wanted
   cases hgu:o.guard with
   | none=>rfl
   | some gb=>
    obtain⟨g,b⟩:=gb
    have:yielded head a.tmps g=yielded ops a.tmps g:=by
     unfold yielded
     rw[hh g (hg i o g b hi ho hgu)]
    simp only[this]
  rw[hw] at h
  split
  ·rename_i hwt
   simp only[hwt,if_true] at h
   exact h.imp upon_thenK id
  ·rename_i hwt
   simp only[hwt] at h
   exact h
theorem extract_getD {listed:Array Bool} {k i:Nat} (d:Bool) (hi:i<k) (hk:k≤listed.size):(listed.extract 0 k).getD i d=listed.getD i d:=by
 have h1:i<listed.size:=by omega
 have h2:i<(listed.extract 0 k).size:=by simp;omega
 have h3:i<min k listed.size:=by omega
 simp[Array.getD,h1,h3]
theorem extract_set {listed:Array Bool} {k i:Nat} (hi:i<k) (hk:k≤listed.size):(listed.setIfInBounds i true).extract 0 k=(listed.extract 0 k).setIfInBounds i true:=by
 apply Array.ext
 ·simp
 ·intro j h1 h2
  have h3:j<listed.size:=by simp at h1;omega
  have h4:j<(listed.extract 0 k).size:=by simpa using h2
  rw[Array.getElem_extract,Array.getElem_setIfInBounds,Array.getElem_setIfInBounds]
  ·have e:(listed.extract 0 k)[j]'h4=listed[j]:=by
    rw[Array.getElem_extract]
    congr 1
    omega
   rw[e]
   simp
  ·exact h4
  ·simpa using h3
theorem wpAny_split {head:Array Oper} {k m n:Nat} {K:Act→World→Prop} (hh:∀ i,i<k→head[i]?=ops[i]?) (hhs:head.size=k) (hkn:k≤n) (hn:ops.size=n)
  (hg:∀ i o g b,i<k→ops[i]?=some o→o.guard=some (g,b)→g<k)
  (hord:∀ i o,i<k→ops[i]?=some o→∀ e ∈ o.after,Region.binds md e=true→e.on<i)
  (hreach:∀ j,k≤j→j<n→∀ i,i<k→reachB md ops n j i=true)
  (hK:∀ a w,K a w→wpAny P md ops Q m (Array.replicate k true++Array.replicate (n-k) false) a w) :
  ∀ (fuel:Nat) (listed:Array Bool) (a:Act) (w:World),listed.size=n→Dn md ops listed→(∀ j,k≤j→listed.getD j false=false)→
   wpAny P md head (thenK K Q) fuel (listed.extract 0 k) a w→wpAny P md ops Q (fuel+m) listed a w:=by
 have hready:∀ (listed:Array Bool),listed.size=n→∀ i,i<k→(i ∈ Region.ready md head (listed.extract 0 k)↔i ∈ Region.ready md ops listed):=by
  intro listed hs i hi
  rw[mem_ready,mem_ready,hh i hi,extract_getD true hi (by omega)]
  constructor
  ·rintro⟨h1,o,ho,h2⟩
   refine⟨h1,o,ho,fun e he hb=>?_⟩
   have:=h2 e he hb
   rwa[extract_getD false (by have:=hord i o hi ho e he hb;omega) (by omega)] at this
  ·rintro⟨h1,o,ho,h2⟩
   refine⟨h1,o,ho,fun e he hb=>?_⟩
   rw[extract_getD false (by have:=hord i o hi ho e he hb;omega) (by omega)]
   exact h2 e he hb
 have hleast:∀ (listed:Array Bool),listed.size=n→∀ i,i<k→listed.getD i false=false→∃ i',i'<k∧i' ∈ Region.ready md ops listed:=by
  intro listed hs i
  induction i using Nat.strongRecOn with
  | _ i ih=>
   intro hi hu
   have hio:∃ o,ops[i]?=some o:=⟨_,Array.getElem?_eq_getElem (by omega)⟩
   obtain⟨o,ho⟩:=hio
   by_cases hall:∀ e ∈ o.after,Region.binds md e=true→listed.getD e.on false=true
   ·refine⟨i,hi,mem_ready.2 ⟨?_,o,ho,hall⟩⟩
    have:i<listed.size:=by omega
    simpa [Array.getD,this] using hu
   ·have hex:∃ e,e ∈ o.after∧Region.binds md e=true∧listed.getD e.on false=false:=by
     refine Classical.byContradiction fun hno=>hall fun e he hb=>?_
     refine Classical.byContradiction fun hl=>hno ⟨e,he,hb,by simpa using hl⟩
    obtain⟨e,he,hb,hl⟩:=hex
    have hlt:=hord i o hi ho e he hb
    exact ih e.on hlt (by omega) hl
 intro fuel
 induction fuel with
 | zero=>
  intro listed a w hs hd ht h
  have hall:∀ i,i<k→listed.getD i false=true:=by
   intro i hi
   refine Classical.byContradiction fun hu=>?_
   obtain⟨i',hi',hr⟩:=hleast listed hs i hi (by simpa using hu)
   have:=(hready listed hs i' hi').2 hr
   rw[h.1] at this
   cases this
  have hL:listed=Array.replicate k true++Array.replicate (n-k) false:=by
   apply Array.ext
   ·simp;omega
   ·intro j h1 h2
    by_cases hj:j<k
    ·have:=hall j hj
     rw[Array.getElem_append_left (by simpa using hj)]
     simpa [Array.getD,h1] using this
    ·have:=ht j (by omega)
     rw[Array.getElem_append_right (by simp;omega)]
     simpa [Array.getD,h1] using this
  rw[hL,Nat.zero_add]
  exact hK _ _ h.2
 | succ f ih=>
  intro listed a w hs hd ht h
  by_cases hall:∀ i,i<k→listed.getD i false=true
  ·have hL:listed=Array.replicate k true++Array.replicate (n-k) false:=by
    apply Array.ext
    ·simp;omega
    ·intro j h1 h2
     by_cases hj:j<k
     ·have:=hall j hj
      rw[Array.getElem_append_left (by simpa using hj)]
      simpa [Array.getD,h1] using this
     ·have:=ht j (by omega)
      rw[Array.getElem_append_right (by simp;omega)]
      simpa [Array.getD,h1] using this
   have hr:Region.ready md head (listed.extract 0 k)=[]:=by
    refine List.eq_nil_iff_forall_not_mem.2 fun i hi=>?_
    obtain⟨hu,o,ho,_⟩:=mem_ready.1 hi
    have hik:i<k:=by
     rw[← hhs]
     exact (Array.getElem?_eq_some_iff.1 ho).1
    rw[extract_getD true hik (by omega)] at hu
    have:=hall i hik
    have hlt:i<listed.size:=by omega
    simp[Array.getD,hlt] at this hu
    rw[this] at hu
    cases hu
   have hk:=h.1 hr
   rw[hL]
   exact wpAny_much _ _ _ m (hK _ _ hk) (f+1)
  ·have hex:∃ i,i<k∧listed.getD i false=false:=by
    refine Classical.byContradiction fun hno=>hall fun i hi=>?_
    refine Classical.byContradiction fun hl=>hno ⟨i,hi,by simpa using hl⟩
   obtain⟨i0,hi0,hu0⟩:=hex
   obtain⟨i1,hi1,hr1⟩:=hleast listed hs i0 hi0 hu0
   rw[show f+1+m=f+m+1 by omega]
   refine⟨fun h0=>(by rw[h0] at hr1;cases hr1),fun i hi=>?_⟩
   obtain⟨hu,o,ho,hp⟩:=mem_ready.1 hi
   have hin:i<n:=by rw[← hn];exact (Array.getElem?_eq_some_iff.1 ho).1
   have hik:i<k:=by
    rcases Nat.lt_or_ge i k with h' | h'
    ·exact h'
    ·have:=reach_listed hd n i i0 (fun o' ho' e he hb=>by rw[ho] at ho';cases ho';exact hp e he hb) (hreach i h' hin i0 hi0)
     rw[hu0] at this
     cases this
   have h1:=h.2 i ((hready listed hs i hik).2 hi)
   refine wpOp_head hh hg hik h1 fun a' w' h'=>?_
   refine ih (listed.setIfInBounds i true) a' w' (by simpa using hs) (hd.set_ hi) ?_ ?_
   ·intro j hj
    rw[getD_set_ne false (by omega)]
    exact ht j hj
   ·rw[extract_set hik (by omega)]
    exact h'
end
section
variable {P:Program} {Q:Exit→Act→World→Prop}
def lastB (l:List Oper) (k:Nat):Bool:=
 decide (k≤l.length) &&
 ((List.range k).all fun i=>match l[i]? with
  | none=>true
  | some o=>(o.after.all fun e=>!Region.binds .any e||decide (e.on<i))&&(match o.guard with | none=>true | some (g,_)=>decide (g<k))) &&
 ((List.range l.length).all fun j=>decide (j<k)||(List.range k).all fun i=>reachB .any l.toArray l.length j i) &&
 Region.seqB .any l.toArray (l.drop k).length k (Array.replicate k true++Array.replicate (l.length-k) false)
theorem wp_region_last {l:List Oper} {id:Nat} {a:Act} {w:World} (k:Nat) (hm:P.follows .mixedOrders=true) (hB:lastB l k=true)
  (h:wpAny P .any (l.take k).toArray (thenK (fun a w=>wpList P l.toArray Q (l.drop k) a w) Q) k (Array.replicate k false) a { w with drawn:=w.drawn+1 }) :
  (Code.region id l.toArray true).wp P Q a w:=by
 simp only[lastB,Bool.and_eq_true,List.all_eq_true,decide_eq_true_eq,List.mem_range,Bool.or_eq_true] at hB
 obtain⟨⟨⟨hk,h1⟩,h2⟩,h4⟩:=hB
 have hops:∀ i:Nat,l.toArray[i]?=l[i]?:=fun i=>List.getElem?_toArray
 refine wp_region_any hm ?_
 have key:=wpAny_split (P:=P) (md:=.any) (ops:=l.toArray) (Q:=Q) (head:=(l.take k).toArray) (k:=k) (m:=l.length-k) (n:=l.length)
  (K:=fun a w=>wpList P l.toArray Q (l.drop k) a w)
  (fun i hi=>by simp[List.getElem?_take,hi]) (by simp;omega) hk (by simp)
  (fun i o g b hi ho hgu=>by
   have:=h1 i hi
   rw[← hops,ho] at this
   simp only[hgu,Bool.and_eq_true,decide_eq_true_eq] at this
   exact this.2)
  (fun i o hi ho e he hb=>by
   have:=h1 i hi
   rw[← hops,ho] at this
   simp only[Bool.and_eq_true,Array.all_eq_true_iff_forall_mem] at this
   have h5:=this.1 e he
   simpa [hb] using h5)
  (fun j hj hjn i hi=>(h2 j hjn).resolve_left (by omega) i hi)
  (fun a w hq=>by
   have:=wpAny_of_seq (md:=.any) (ops:=l.toArray) (Q':=Q) (l.drop k) k (Array.replicate k true++Array.replicate (l.length-k) false) a w (fun j=>by simp[List.getElem?_drop]) h4 hq
   simpa using this)
  k (Array.replicate l.length false) a { w with drawn:=w.drawn+1 } (by simp) (fun j o ho hl=>by simp[Array.getD] at hl) (fun j hj=>by simp[Array.getD]) (by
   have e:(Array.replicate l.length false).extract 0 k=Array.replicate k false:=by
    apply Array.ext
    ·simp;omega
    ·intro j h1 h2;simp
   rw[e]
   exact h)
 have e2:k+(l.length-k)=l.toArray.size:=by simp;omega
 rw[e2] at key
 simpa using key
theorem wpOp_act {ops:Array Oper} {i:Nat} {o:Oper} {K:Act→World→Prop} {a:Act} {w:World} (ho:ops[i]?=some o) (hg:o.guard=none) (h:o.wp P a w K Q):wpOp P ops Q i K a w:=by
 unfold wpOp
 simp only[ho]
 rw[if_pos (by simp[Region.wanted,hg])]
 exact .inl h
theorem wpOp_actG {ops:Array Oper} {i:Nat} {o:Oper} {K:Act→World→Prop} {a:Act} {w:World} (ho:ops[i]?=some o) (hg:Region.wanted o (yielded ops a.tmps)=true) (h:o.wp P a w K Q):wpOp P ops Q i K a w:=by
 unfold wpOp
 simp only[ho]
 rw[if_pos hg]
 exact .inl h
def wpSeqH (P:Program) (ops:Array Oper) (Q:Exit→Act→World→Prop) (S:World→Prop):List (Nat×Bool)→Act→World→Prop
 | [],a,w=>Q .normal a w
 | (i,false)::r,a,w=>∃ (o:Oper) (v:Value),ops[i]?=some o∧(∀ c a w,Q (.panic c) (a.put o.dst v) w→Q (.panic c) a w)∧YieldsIf P ops S o v a∧wpSeqH P ops Q S r (a.put o.dst v) w
 | (i,true)::r,a,w=>wpOp P ops Q i (fun a' w'=>S w'∧wpSeqH P ops Q S r a' w') a w
def seqHB (ops:Array Oper):List (Nat×Bool)→Array Bool→Bool
 | [],listed=>(Region.ready .any ops listed).isEmpty
 | (i,false)::r,listed=>Region.free .any ops listed i&&(Region.ready .any ops listed).contains i&&seqHB ops r (listed.setIfInBounds i true)
 | (i,true)::r,listed=>decide (Region.ready .any ops listed=[i])&&seqHB ops r (listed.setIfInBounds i true)
theorem wpAnyH_of_seq {ops:Array Oper} {S:World→Prop} (hs:Region.noSelect ops=true):∀ (σ:List (Nat×Bool)) (listed:Array Bool) (a:Act) (w:World),seqHB ops σ listed=true→S w→
  wpSeqH P ops Q S σ a w→wpAnyH P .any ops Q S σ.length listed a w
 | [],listed,a,w,hB,hS,h=>wpAnyH_done (by simpa [seqHB] using hB) h _
 | (i,false)::r,listed,a,w,hB,hS,h=>by
  simp only[seqHB,Bool.and_eq_true] at hB
  obtain⟨⟨h1,h2⟩,h3⟩:=hB
  obtain⟨o,v,ho,hQ,hy,hr⟩:=h
  exact wpAnyH_take ho hs h1 h2 hQ hy hS (wpAnyH_of_seq hs r _ _ _ h3 hS hr)
 | (i,true)::r,listed,a,w,hB,hS,h=>by
  simp only[seqHB,Bool.and_eq_true,decide_eq_true_eq] at hB
  refine wpAnyH_all hB.1 (by simp) fun j hj=>?_
  obtain rfl:j=i:=by simpa using hj
  exact wpOp_mono (fun a' w' ⟨hS',h'⟩=>⟨hS',wpAnyH_of_seq hs r _ _ _ hB.2 hS' h'⟩) h
end
/-! Lists of operations. -/
def dstOf (ops:Array Oper) (j:Nat):Option Nat:=match ops[j]? with | some o=>o.dst | none=>none
def gdx (ops:Array Oper) (G:List Nat) (guard:Option (Nat×Bool)) (fr:AF) (go:Bool→List Nat→AF→Prop):Prop:=
 match guard with
 | none=>go true G fr
 | some (j,want)=>(match dstOf ops j with
  | none=>False
  | some d=>(match lk fr d with
   | some (.bool t)=>(match G.contains j with
    | true=>(match t with | true=>go want G fr | false=>go (!want) G fr)
    | false=>(t=true→go want (j::G) ((d,.bool true)::fr))∧(t=false→go (!want) (j::G) ((d,.bool false)::fr)))
   | some (.tuple _)=>go false G fr
   | _=>False))
def opsx (τ:TT) (F:FT) (ops:Array Oper) (l:List Oper):List Nat→AF→AM→Nat→(AF→AM→Nat→Prop)→Prop:=
 List.rec (motive:=fun _=>List Nat→AF→AM→Nat→(AF→AM→Nat→Prop)→Prop) (fun _ fr mem nx K=>K fr mem nx)
  (fun o _ ih G fr mem nx K=>gdx ops G o.guard fr (fun b G' fr'=>match b with
   | true=>opx τ F o fr' mem nx (fun fr2 mem2 nx2=>ih G' fr2 mem2 nx2 K)
   | false=>putK o.dst (.tuple #[]) fr' fun fr2=>ih G' fr2 mem nx K)) l
theorem opsx_cons (τ:TT) (F:FT) (ops:Array Oper) (o:Oper) (l:List Oper) (G:List Nat) (fr:AF) (mem:AM) (nx:Nat) (K:AF→AM→Nat→Prop):opsx τ F ops (o::l) G fr mem nx K=gdx ops G o.guard fr (fun b G' fr'=>match b with
  | true=>opx τ F o fr' mem nx (fun fr2 mem2 nx2=>opsx τ F ops l G' fr2 mem2 nx2 K)
  | false=>putK o.dst (.tuple #[]) fr' fun fr2=>opsx τ F ops l G' fr2 mem nx K):=rfl
section
variable {P:Program} {τ:TT} {F:FT} {C:Ctx} {ρ:Nat→Pl} {fr:AF} {mem:AM} {nx:Nat} {a:Act} {w:World} {Q:Exit→Act→World→Prop}
theorem yielded_of {ops:Array Oper} {j d:Nat} {t:Bool} (hd:dstOf ops j=some d) (ht:a.tmps[d]?=some (.bool t)):yielded ops a.tmps j=some t:=by
 unfold dstOf at hd
 unfold yielded
 cases ho:ops[j]? with
 | none=>rw[ho] at hd;cases hd
 | some o=>rw[ho] at hd;simp only at hd;simp[hd,ht]
theorem gdx_sound {ops:Array Oper} {G:List Nat} {o:Oper} {go:Bool→List Nat→AF→Prop} (h:gdx ops G o.guard fr go) (hf:FrOk ρ (fr++C.ff) nx a) :
  ∃ b G' fr',go b G' fr'∧Region.wanted o (yielded ops a.tmps)=b∧FrOk ρ (fr'++C.ff) nx a∧∀ d,lk fr d=none→lk fr' d=none:=by
 unfold gdx at h
 cases hg:o.guard with
 | none=>rw[hg] at h;exact⟨true,G,fr,h,by simp[Region.wanted,hg],hf,fun _ h=>h⟩
 | some jw=>
  obtain⟨j,want⟩:=jw
  rw[hg] at h
  simp only at h
  cases hd:dstOf ops j with
  | none=>rw[hd] at h;exact h.elim
  | some d=>
   rw[hd] at h
   simp only at h
   cases hv:lk fr d with
   | none=>rw[hv] at h;exact h.elim
   | some v=>
    rw[hv] at h
    cases v<;>simp only at h<;>first | exact h.elim | skip
    case tuple vs=>
     refine⟨false,G,fr,h,?_,hf,fun _ h=>h⟩
     have ht:a.tmps[d]?=some (.tuple (vs.map (den2 ρ))):=hf.frm d _ (lk_app hv)
     have hy:yielded ops a.tmps j=none:=by
      unfold dstOf at hd
      unfold yielded
      cases ho:ops[j]? with
      | none=>rw[ho] at hd;cases hd
      | some o'=>rw[ho] at hd;simp only at hd;simp[hd,ht]
     simp[Region.wanted,hg,hy]
    rename_i t
    have ht:a.tmps[d]?=some (.bool t):=hf.frm d _ (lk_app hv)
    have hy:=yielded_of hd ht
    have hw:∀ b:Bool,t=b→Region.wanted o (yielded ops a.tmps)=(b==want):=by
     rintro b rfl
     simp[Region.wanted,hg,hy]
    have hput:∀ b:Bool,t=b→FrOk ρ (((d,.bool b)::fr)++C.ff) nx a∧∀ e,lk fr e=none→lk ((d,Value.bool b)::fr) e=none:=by
     rintro b rfl
     refine⟨⟨fun u x hx=>?_,fun u x hx=>?_⟩,fun e he=>?_⟩
     ·rcases lk_cons (l:=fr++C.ff) hx with⟨rfl,rfl⟩ | ⟨_,hx⟩
      ·exact ht
      ·exact hf.frm u x hx
     ·rcases lk_cons (l:=fr++C.ff) hx with⟨rfl,rfl⟩ | ⟨_,hx⟩
      ·trivial
      ·exact hf.frk u x hx
     ·rw[lk_ne _ _ (by rintro rfl;rw[hv] at he;cases he)]
      exact he
    cases hG:G.contains j with
    | true=>
     rw[hG] at h
     cases t with
     | true=>exact⟨want,G,fr,h,by rw[hw true rfl];cases want<;>rfl,hf,fun _ h=>h⟩
     | false=>exact⟨!want,G,fr,h,by rw[hw false rfl];cases want<;>rfl,hf,fun _ h=>h⟩
    | false=>
     rw[hG] at h
     cases t with
     | true=>exact⟨want,_,_,h.1 rfl,by rw[hw true rfl];cases want<;>rfl,(hput true rfl).1,(hput true rfl).2⟩
     | false=>exact⟨!want,_,_,h.2 rfl,by rw[hw false rfl];cases want<;>rfl,(hput false rfl).1,(hput false rfl).2⟩
theorem Sat.frm (h:Sat C ρ fr mem nx a w) {fr':AF} (hf:FrOk ρ (fr'++C.ff) nx a):Sat C ρ fr' mem nx a w:=⟨hf,h.sz,h.dfr,h.mlt,h.blk,h.sep,h.n0,h.low,h.rest⟩
theorem okV_undef:okV ρ nx (.tuple #[]):=fun v hv=>by simp at hv
theorem den_undef:den ρ (.tuple #[])=undef:=by simp[den,undef]
theorem opsx_sound {I:List Nat} (hτ:TTok P τ) (hF:FTokI P F I) (hfm:C.fm=[]) {ops:Array Oper} {K:AF→AM→Nat→Prop}:∀ (l:List Oper),(∀ o ∈ l,∀ i,o.dst=some i→i<C.nt)→∀ (G:List Nat) (fr:AF) (mem:AM) (nx:Nat) (ρ:Nat→Pl) (a:Act) (w:World),opsx τ F ops l G fr mem nx K→Sat C ρ fr mem nx a w→
  (∀ fr' mem' nx' ρ' a' w',K fr' mem' nx'→Sat C ρ' fr' mem' nx' a' w'→Ext ρ nx ρ' nx'→Q .normal a' w')→wpList P ops Q l a w
 | [],_,G,fr,mem,nx,ρ,a,w,h,hs,hK=>hK _ _ _ _ _ _ h hs (Ext.refl _ _)
 | o::l,hd,G,fr,mem,nx,ρ,a,w,h,hs,hK=>by
  simp only[opsx_cons,putK_eq] at h
  obtain⟨b,G',fr',hgo,hw,hf,-⟩:=gdx_sound h hs.fok
  have hs':=hs.frm hf
  rw[wpList]
  cases b with
  | false=>
   rw[if_neg (by rw[hw];simp)]
   exact opsx_sound hτ hF hfm l (fun o' ho'=>hd o' (List.mem_cons_of_mem _ ho')) G' _ mem nx ρ _ w hgo (den_undef (ρ:=ρ) ▸ hs'.put (d:=o.dst) (hd o (List.mem_cons_self ..)) okV_undef) hK
  | true=>
   rw[if_pos hw]
   refine .inl (Oper.wp_mono ?_ (opx_sound (Q:=Q) hτ hF (.inl hfm) (hd o (List.mem_cons_self ..)) hgo hs'))
   rintro a2 w2 ⟨fr2,mem2,nx2,ρ2,hk2,hs2,hx2,-⟩
   exact opsx_sound hτ hF hfm l (fun o' ho'=>hd o' (List.mem_cons_of_mem _ ho')) G' fr2 mem2 nx2 ρ2 a2 w2 hk2 hs2 (fun fr' mem' nx' ρ' a' w' hk hsat hx=>hK fr' mem' nx' ρ' a' w' hk hsat (hx2.ext.trans hx))
end
/-! A region that draws its order. -/
structure DP where
 k:Nat
 L:List Nat:=[]
 pre:List (Nat×Bool):=[]
 A:List Nat:=[]
 post:List (Nat×Bool):=[]
def keeps (mem:AM) (m:AM):Prop:=List.rec (motive:=fun _=>Prop) True (fun p _ ih=>lk mem p.1=some p.2∧ih) m
def sel (mem:AM):List Nat→AM
 | []=>[]
 | i::r=>(match lk mem i with | some b=>(i,b)::sel mem r | none=>sel mem r)
def strx (τ:TT) (F:FT) (ops:Array Oper) (memS:AM) (σ:List (Nat×Bool)):List Nat→AF→AM→Nat→(List Nat→AF→AM→Nat→Prop)→Prop:=
 List.rec (motive:=fun _=>List Nat→AF→AM→Nat→(List Nat→AF→AM→Nat→Prop)→Prop) (fun G fr mem nx K=>K G fr mem nx)
  (fun p _ ih G fr mem nx K=>match ops[p.1]? with
   | none=>False
   | some o=>gdx ops G o.guard fr (fun b G' fr'=>match b with
    | true=>(match p.2 with
     | false=>fvx τ fr' memS o.op fun v=>putK o.dst v fr' (fun fr2=>ih G' fr2 mem nx K)
     | true=>opx τ F o fr' mem nx (fun fr2 mem2 nx2=>keeps mem2 memS∧ih G' fr2 mem2 nx2 K))
    | false=>putK o.dst (.tuple #[]) fr' fun fr2=>ih G' fr2 mem nx K)) σ
theorem strx_cons (τ:TT) (F:FT) (ops:Array Oper) (memS:AM) (i:Nat) (act:Bool) (r:List (Nat×Bool)) (G:List Nat) (fr:AF) (mem:AM) (nx:Nat) (K:List Nat→AF→AM→Nat→Prop):strx τ F ops memS ((i,act)::r) G fr mem nx K=(match ops[i]? with
  | none=>False
  | some o=>gdx ops G o.guard fr (fun b G' fr'=>match b with
   | true=>(match act with
    | false=>fvx τ fr' memS o.op fun v=>putK o.dst v fr' (fun fr2=>strx τ F ops memS r G' fr2 mem nx K)
    | true=>opx τ F o fr' mem nx (fun fr2 mem2 nx2=>keeps mem2 memS∧strx τ F ops memS r G' fr2 mem2 nx2 K))
   | false=>putK o.dst (.tuple #[]) fr' fun fr2=>strx τ F ops memS r G' fr2 mem nx K)):=rfl
theorem keeps_lk {mem:AM}:∀ {memS:AM},keeps mem memS→∀ i b,lk memS i=some b→lk mem i=some b
 | [],_,i,b,h=>by simp[lk] at h
 | (j,c)::r,hk,i,b,h=>by
  rcases lk_cons h with⟨rfl,rfl⟩ | ⟨_,h⟩
  ·exact hk.1
  ·exact keeps_lk hk.2 i b h
theorem sel_lk {mem:AM}:∀ {L:List Nat} (i:Nat) (b:ABlk),lk (sel mem L) i=some b→lk mem i=some b
 | [],i,b,h=>by simp[sel,lk] at h
 | j::r,i,b,h=>by
  simp only[sel] at h
  cases hj:lk mem j with
  | none=>rw[hj] at h;exact sel_lk i b h
  | some c=>
   rw[hj] at h
   rcases lk_cons h with⟨rfl,rfl⟩ | ⟨_,h⟩
   ·exact hj
   ·exact sel_lk i b h
section
variable {P:Program} {τ:TT} {F:FT} {C:Ctx} {ρ:Nat→Pl} {fr:AF} {mem:AM} {nx:Nat} {a:Act} {w:World} {Q:Exit→Act→World→Prop}
theorem BlkOk.back {ρS:Nat→Pl} {nS i:Nat} {w1 w:World} {b:ABlk} (h1:BlkOk C ρS nS i w1 b) (hx:Ext ρS nS ρ nx) (hi:ρ i=ρS i) (h:BlkOk C ρ nx i w b):BlkOk C ρS nS i w b:=by
 cases b with
 | box t cs=>
  obtain⟨g1,e1,-,-,hcs⟩:=h1
  obtain⟨g,e,hb,hbs,-⟩:=h
  rw[hi] at e
  refine⟨g,e,?_,hbs,hcs⟩
  have:cs.map (den1 ρ)=cs.map (den1 ρS):=List.map_congr_left fun v hv=>den1_congr hx.1 (hcs v hv)
  rw[← this]
  exact hb
 | row t sz n el=>
  obtain⟨e,h2,h3⟩:=h
  rw[hi] at e h3
  exact⟨e,h2,h3⟩
 | ext eb=>cases eb with
  | fam t sb=>exact⟨h.1,fun k o=>by have:=h.2 k o;rw[hi] at this;exact this⟩
  | map kk ag f=>
   obtain⟨g,es,cl,e1,e2⟩:=h
   exact⟨g,es,cl,by rw[← hi];exact e1,e2⟩
  | deep t sz n cap el u=>
   obtain⟨-,hu,-,-⟩:=h1
   obtain⟨e,-,h2,h3⟩:=h
   rw[hi] at e h3
   have hur:=hx.1 u hu.1 hu.2
   refine⟨e,hu,h2,h3.imp id ?_⟩
   rintro⟨hn,b,off,hA,hlt,hcap,hc⟩
   exact⟨hn,b,off,hA,hlt,hcap,fun k hk j v hv=>by rw[← dpV_congr hur k j ((h2 k hk).2 v (List.mem_of_getElem? hv))];exact hc k hk j v hv⟩
structure Held (C:Ctx) (ρS:Nat→Pl) (nS:Nat) (memS:AM) (w1:World):Prop where
 blk:∀ i b,lk memS i=some b→BlkOk C ρS nS i w1 b
 lt:∀ i b,lk memS i=some b→i<nS∧(ρS i).res=false
def HeldS (C:Ctx) (ρS:Nat→Pl) (nS:Nat) (memS:AM) (w:World):Prop:=∀ i b,lk memS i=some b→BlkOk C ρS nS i w b
theorem Held.now {ρS:Nat→Pl} {nS:Nat} {memS:AM} {w1:World} (h:Held C ρS nS memS w1) (hx:Ext ρS nS ρ nx) (hs:Sat C ρ fr mem nx a w) (hk:∀ i b,lk memS i=some b→lk (mem++C.fm) i=some b):HeldS C ρS nS memS w:=
 fun i b hi=>(h.blk i b hi).back hx (hx.1 i (h.lt i b hi).1 (h.lt i b hi).2) (hs.blk i b (hk i b hi))
theorem HeldS.cur {ρS:Nat→Pl} {nS:Nat} {memS:AM} {w1:World} (h:Held C ρS nS memS w1) (hS:HeldS C ρS nS memS w) (hx:Ext ρS nS ρ nx):∀ i b,lk memS i=some b→BlkOk C ρ nx i w b:=
 fun i b hi=>(hS i b hi).ren (hx.1 i (h.lt i b hi).1 (h.lt i b hi).2) hx.1 hx.2
theorem fvx_held (hτ:TTok P τ) {ops:Array Oper} {ρS:Nat→Pl} {nS:Nat} {memS:AM} {w1:World} (hH:Held C ρS nS memS w1) (hx:Ext ρS nS ρ nx) (hf:FrOk ρ fr nx a) (hS:HeldS C ρS nS memS w) {o:Oper} {K:Value→Prop} (hw:Region.wanted o (yielded ops a.tmps)=true) (h:fvx τ fr memS o.op K) :
  ∃ v,K v∧okV ρ nx v∧YieldsIf P ops (HeldS C ρS nS memS) o (den ρ v) a:=by
 obtain⟨v,h1,h2,h3⟩:=fvx_yields (P:=P) (C:=C) hτ hf (fun i b hi=>⟨Nat.lt_of_lt_of_le (hH.lt i b hi).1 hx.2,by rw[hx.1 i (hH.lt i b hi).1 (hH.lt i b hi).2];exact (hH.lt i b hi).2⟩) (H:=HeldS C ρS nS memS) (fun w hS=>HeldS.cur hH hS hx) hS h
 exact⟨v,h1,h2,.inl ⟨hw,h3⟩⟩
theorem strx_sound {I:List Nat} (hτ:TTok P τ) (hF:FTokI P F I) (hfm:C.fm=[]) {ops:Array Oper} (hd:∀ (i:Nat) (o:Oper),ops[i]?=some o→∀ j,o.dst=some j→j<C.nt) (hQ:∀ c a a' w,Q (.panic c) a w→Q (.panic c) a' w)
  {ρS:Nat→Pl} {nS:Nat} {memS:AM} {w1:World} (hH:Held C ρS nS memS w1) {K:List Nat→AF→AM→Nat→Prop}:∀ (σ:List (Nat×Bool)) (G:List Nat) (fr:AF) (mem:AM) (nx:Nat) (ρ:Nat→Pl) (a:Act) (w:World),
  strx τ F ops memS σ G fr mem nx K→Sat C ρ fr mem nx a w→Ext ρS nS ρ nx→HeldS C ρS nS memS w→
  (∀ G' fr' mem' nx' ρ' a' w',K G' fr' mem' nx'→Sat C ρ' fr' mem' nx' a' w'→Ext ρS nS ρ' nx'→Q .normal a' w')→wpSeqH P ops Q (HeldS C ρS nS memS) σ a w
 | [],G,fr,mem,nx,ρ,a,w,h,hs,hx,hS,hK=>hK _ _ _ _ _ _ _ h hs hx
 | (i,act)::r,G,fr,mem,nx,ρ,a,w,h,hs,hx,hS,hK=>by
  simp only[strx_cons,putK_eq] at h
  cases ho:ops[i]? with
  | none=>rw[ho] at h;exact h.elim
  | some o=>
   rw[ho] at h
   simp only at h
   obtain⟨b,G',fr',hgo,hw,hf,-⟩:=gdx_sound h hs.fok
   have hs':=hs.frm hf
   cases b with
   | false=>
    have hrest:=strx_sound hτ hF hfm hd hQ hH r G' _ mem nx ρ _ w hgo (hs'.put (d:=o.dst) (hd i o ho) okV_undef) hx hS hK
    rw[den_undef] at hrest
    cases act with
    | false=>exact⟨o,undef,ho,fun c a w h=>hQ _ _ _ _ h,.inr ⟨hw,rfl⟩,hrest⟩
    | true=>
     simp only[wpSeqH]
     unfold wpOp
     simp only[ho]
     rw[if_neg (by rw[hw];simp)]
     exact⟨hS,hrest⟩
   | true=>
    cases act with
    | false=>
     simp only at hgo
     obtain⟨v,hgo,hok,hy⟩:=fvx_held (P:=P) (ops:=ops) hτ hH hx hf.left hS hw hgo
     have hrest:=strx_sound hτ hF hfm hd hQ hH r G' _ mem nx ρ _ w hgo (hs'.put (d:=o.dst) (hd i o ho) hok) hx hS hK
     exact⟨o,_,ho,fun c a w h=>hQ _ _ _ _ h,hy,hrest⟩
    | true=>
     simp only at hgo
     simp only[wpSeqH]
     refine wpOp_actG ho hw (Oper.wp_mono ?_ (opx_sound (Q:=Q) hτ hF (.inl hfm) (hd i o ho) hgo hs'))
     rintro a2 w2 ⟨fr2,mem2,nx2,ρ2,⟨hk2,hk3⟩,hs2,hx2,-⟩
     have hS2:=hH.now (hx.trans hx2.ext) hs2 (fun i b hi=>lk_app (keeps_lk hk2 i b hi))
     exact⟨hS2,strx_sound hτ hF hfm hd hQ hH r G' fr2 mem2 nx2 ρ2 a2 w2 hk3 hs2 (hx.trans hx2.ext) hS2 hK⟩
end
end Go.Proofs.YtchhdflealgkaaaGreat
