import Derived.Test.YtchhdflealgkaaaGreatPo04
import Derived.Scope
namespace Go.Proofs.YtchhdflealgkaaaGreat
open Go.RowKit
set_option linter.unusedSimpArgs false
set_option linter.unusedVariables false
structure AI where
 j:Nat
 ν:Nat
 d:Nat
 t:TypeId
 zero:List Value
def mkA (τ:TT) (ops:Array Oper):Nat→List Nat→Option (List AI)
 | _,[]=>some []
 | nx,j::r=>(match ops[j]? with
  | some { dst:=some d,op:=.alloc t,guard:=none,.. }=>(match lk τ t with
   | some ti=>(match mkA τ ops (nx+1) r with | some l=>some (⟨j,nx,d,t,ti.zero⟩::l) | none=>none)
   | none=>none)
  | _=>none)
def slots:List AI→AF
 | []=>[]
 | x::r=>(x.d,.pointer (some ⟨x.ν,0,none⟩))::slots r
def blks:List AI→AM
 | []=>[]
 | x::r=>(x.ν,.box x.t x.zero)::blks r
def delF (d:Nat):AF→AF
 | []=>[]
 | (k,v)::l=>(match Nat.beq k d with | true=>delF d l | false=>(k,v)::delF d l)
def delFs:List AI→AF→AF
 | [],fr=>fr
 | x::r,fr=>delFs r (delF x.d fr)
def floatB (ops:Array Oper) (post:List (Nat×Bool)):Nat→List (Nat×Bool)→Array Bool→List Nat→Bool
 | 0,_,_,_=>false
 | n+1,σ,listed,pend=>(match σ with
  | (i,false)::r=>Region.free .any ops listed i&&(Region.ready .any ops listed).contains i&&floatB ops post n r (listed.setIfInBounds i true) pend
  | (i,true)::r=>!(Region.ready .any ops listed).isEmpty&&(Region.ready .any ops listed).all fun j=>
    (decide (j=i)&&floatB ops post n r (listed.setIfInBounds i true) pend)||(pend.contains j&&floatB ops post n σ (listed.setIfInBounds j true) (pend.filter fun k=>!(k==j)))
  | []=>(match pend with
   | []=>seqHB ops post listed
   | _::_=>!(Region.ready .any ops listed).isEmpty&&(Region.ready .any ops listed).all fun j=>pend.contains j&&floatB ops post n [] (listed.setIfInBounds j true) (pend.filter fun k=>!(k==j))))
def dregx (τ:TT) (F:FT) (l:List Oper) (d:DP) (fr:AF) (mem:AM) (nx:Nat) (K:AF→AM→Nat→Prop):Prop:=
 match mkA τ (l.take d.k).toArray nx d.A with
 | none=>False
 | some xs=>strx τ F (l.take d.k).toArray (sel mem d.L) d.pre [] (delFs xs fr) mem (nx+d.A.length) (fun G fr1 mem1 nx1=>
   strx τ F (l.take d.k).toArray (sel mem d.L) d.post G (fr1++slots xs) (mem1++blks xs) nx1 (fun G fr2 mem2 nx2=>opsx τ F l.toArray (l.drop d.k) G fr2 mem2 nx2 K))
def preDst (ops:Array Oper) (A:List Nat) (σ:List (Nat×Bool)):Bool:=
 σ.all fun p=>match dstOf ops p.1 with | some d=>A.all fun j=>!(dstOf ops j==some d) | none=>true
def nodupB:List Nat→Bool
 | []=>true
 | x::r=>!r.contains x&&nodupB r
def dregB (l:List Oper) (d:DP):Bool:=
 lastB l d.k&&Region.noSelect (l.take d.k).toArray&&decide (d.pre.length+d.A.length+d.post.length=d.k)&&floatB (l.take d.k).toArray d.post (d.k+1) d.pre (Array.replicate d.k false) d.A &&
  preDst (l.take d.k).toArray d.A d.pre&&nodupB d.A&&nodupB (d.A.map fun j=>(dstOf (l.take d.k).toArray j).getD 0)
def Ctx.wf (C:Ctx) (D:List AI):Ctx:={ C with ff:=slots D,fm:=blks D }
section
variable {P:Program} {τ:TT} {F:FT} {C:Ctx} {ρ:Nat→Pl} {fr:AF} {mem:AM} {nx:Nat} {a:Act} {w:World} {Q:Exit→Act→World→Prop}
theorem lk_none_app {α:Type} {l r:List (Nat×α)} {n:Nat} (h:lk l n=none):lk (l++r) n=lk r n:=by
 induction l with
 | nil=>rfl
 | cons p l ih=>
  obtain⟨k,u⟩:=p
  rw[List.cons_append]
  by_cases hk:k=n
  ·subst hk;rw[lk_same] at h;cases h
  ·rw[lk_ne _ _ hk] at h ⊢;exact ih h
theorem delF_lk {d:Nat}:∀ {fr:AF},lk (delF d fr) d=none∧∀ t v,lk (delF d fr) t=some v→lk fr t=some v
 | []=>⟨rfl,fun t v h=>by simp[delF,lk] at h⟩
 | (k,u)::l=>by
  obtain⟨h1,h2⟩:=delF_lk (d:=d) (fr:=l)
  simp only[delF]
  cases hb:Nat.beq k d with
  | true=>
   have hk:=Nat.eq_of_beq_eq_true hb
   subst hk
   refine⟨h1,fun t v h=>?_⟩
   rw[lk_ne _ _ (by rintro rfl;rw[h1] at h;cases h)]
   exact h2 t v h
  | false=>
   have hk:k≠d:=by rintro rfl;rw[Nat.beq_refl] at hb;cases hb
   refine⟨by simp only;rw[lk_ne _ _ hk];exact h1,fun t v h=>?_⟩
   simp only at h
   by_cases ht:k=t
   ·subst ht;rw[lk_same] at h ⊢;exact h
   ·rw[lk_ne _ _ ht] at h ⊢;exact h2 t v h
theorem delFs_lk:∀ {xs:List AI} {fr:AF},(∀ x ∈ xs,lk (delFs xs fr) x.d=none)∧∀ t v,lk (delFs xs fr) t=some v→lk fr t=some v
 | [],fr=>⟨fun x hx=>absurd hx (List.not_mem_nil),fun t v h=>h⟩
 | x::r,fr=>by
  obtain⟨h1,h2⟩:=delFs_lk (xs:=r) (fr:=delF x.d fr)
  refine⟨fun y hy=>?_,fun t v h=>delF_lk.2 t v (h2 t v h)⟩
  rcases List.mem_cons.1 hy with rfl | hy
  ·cases hv:lk (delFs (y::r) fr) y.d with
   | none=>rfl
   | some v=>have:=h2 _ _ hv;rw[delF_lk.1] at this;cases this
  ·exact h1 y hy
theorem slots_lk:∀ {D:List AI} {t:Nat} {v:Value},lk (slots D) t=some v→∃ x ∈ D,x.d=t∧v=.pointer (some ⟨x.ν,0,none⟩)
 | [],t,v,h=>by simp[slots,lk] at h
 | x::r,t,v,h=>by
  rcases lk_cons h with⟨h1,h2⟩ | ⟨_,h⟩
  ·exact⟨x,List.mem_cons_self ..,h1,h2.symm⟩
  ·obtain⟨y,hy,h3⟩:=slots_lk h
   exact⟨y,List.mem_cons_of_mem _ hy,h3⟩
theorem blks_lk:∀ {D:List AI} {i:Nat} {b:ABlk},lk (blks D) i=some b→∃ x ∈ D,x.ν=i∧b=.box x.t x.zero
 | [],t,v,h=>by simp[blks,lk] at h
 | x::r,t,v,h=>by
  rcases lk_cons h with⟨h1,h2⟩ | ⟨_,h⟩
  ·exact⟨x,List.mem_cons_self ..,h1,h2.symm⟩
  ·obtain⟨y,hy,h3⟩:=blks_lk h
   exact⟨y,List.mem_cons_of_mem _ hy,h3⟩
def Sole (D:List AI):Prop:=∀ x ∈ D,∀ y ∈ D,(x.d=y.d∨x.ν=y.ν∨x.j=y.j)→x=y
theorem slots_get:∀ {D:List AI},Sole D→∀ x ∈ D,lk (slots D) x.d=some (.pointer (some ⟨x.ν,0,none⟩))
 | [],_,x,hx=>by cases hx
 | y::r,hs,x,hx=>by
  by_cases he:y.d=x.d
  ·have:y=x:=hs y (List.mem_cons_self ..) x hx (.inl he)
   subst this
   exact lk_same _ _ _
  ·simp only[slots]
   rw[lk_ne _ _ he]
   rcases List.mem_cons.1 hx with rfl | hx
   ·exact absurd rfl he
   ·exact slots_get (fun a ha b hb=>hs a (List.mem_cons_of_mem _ ha) b (List.mem_cons_of_mem _ hb)) x hx
theorem blks_get:∀ {D:List AI},Sole D→∀ x ∈ D,lk (blks D) x.ν=some (.box x.t x.zero)
 | [],_,x,hx=>by cases hx
 | y::r,hs,x,hx=>by
  by_cases he:y.ν=x.ν
  ·have:y=x:=hs y (List.mem_cons_self ..) x hx (.inr (.inl he))
   subst this
   exact lk_same _ _ _
  ·simp only[blks]
   rw[lk_ne _ _ he]
   rcases List.mem_cons.1 hx with rfl | hx
   ·exact absurd rfl he
   ·exact blks_get (fun a ha b hb=>hs a (List.mem_cons_of_mem _ ha) b (List.mem_cons_of_mem _ hb)) x hx
theorem Sat.ctx {C C':Ctx} {fr fr':AF} {mem mem':AM} (h:Sat C ρ fr mem nx a w) (hw:C'.w0=C.w0) (hb:C'.bor=C.bor) (hn:C'.n0=C.n0) (hr:C'.ρ0=C.ρ0) (ht:C'.nt=C.nt)
  (hf:∀ t v,lk (fr'++C'.ff) t=some v→lk (fr++C.ff) t=some v) (hm:∀ i b,lk (mem'++C'.fm) i=some b→lk (mem++C.fm) i=some b):Sat C' ρ fr' mem' nx a w:=by
 obtain⟨w0,bor,n0,ρ0,nt,ff,fm⟩:=C
 obtain⟨w0',bor',n0',ρ0',nt',ff',fm'⟩:=C'
 simp only at hw hb hn hr ht
 subst hw hb hn hr ht
 exact⟨⟨fun t v hv=>h.fok.frm t v (hf t v hv),fun t v hv=>h.fok.frk t v (hf t v hv)⟩,h.sz,h.dfr,fun i b hi=>h.mlt i b (hm i b hi),fun i b hi=>by
  have:=h.blk i b (hm i b hi)
  cases b<;>exact this,fun i j b b' hne hi hj=>h.sep i j b b' hne (hm i b hi) (hm j b' hj),h.n0,h.low,⟨h.rest.os,h.rest.tape,h.rest.output,h.rest.size,h.rest.block⟩⟩
theorem Sat.comeup (hτ:TTok P τ) {D:List AI} {x:AI} {ti:TI} (hti:lk τ x.t=some ti) (hz:x.zero=ti.zero) (hsole:Sole (x::D)) (hxD:x ∉ D) (h:Sat (C.wf D) ρ fr mem nx a w) (hν:x.ν<nx) (hν0:C.n0≤x.ν) (hres:(ρ x.ν).res=true) (hfr:lk fr x.d=none) (hd:x.d<C.nt) :
  Sat (C.wf (x::D)) (setPl ρ x.ν ⟨some ⟨w.heap.size,0,none⟩,0,0,false,noSub⟩) fr mem nx (a.put (some x.d) (.pointer (some ⟨w.heap.size,0,none⟩))) (w.alloc (.cells x.zero.toArray x.t)):=by
 have ht:=hτ _ _ hti
 have hmap:∀ ρ:Nat→Pl,x.zero.map (den1 ρ)=x.zero:=fun ρ=>by
  conv=>rhs;rw[← List.map_id x.zero]
  exact List.map_congr_left fun v hv=>den1_plain (ht.zero v (hz ▸ hv))
 have h1:=h.fill (b:=.box x.t x.zero) (p:=⟨some ⟨w.heap.size,0,none⟩,0,0,false,noSub⟩) hν hν0 hres ((Below.refl _ _).alloc (Nat.le_refl _) (.cells x.zero.toArray x.t))
  ⟨w.heap.size,by rw[setPl_same],by rw[hmap];exact Blk.new _ _ _,.inl h.rest.size,fun v hv=>ok1_plain (ht.zero v (hz ▸ hv))⟩ (fun g hg=>by simp at hg;omega) rfl
 have hok:okV (setPl ρ x.ν ⟨some ⟨w.heap.size,0,none⟩,0,0,false,noSub⟩) nx (.pointer (some ⟨x.ν,0,none⟩)):=⟨⟨hν,by simp[setPl_same]⟩,⟨w.heap.size,0,by simp[setPl_same]⟩,fun k hk=>by cases hk⟩
 have h2:=h1.put (d:=some x.d) (fun i hi=>by cases hi;exact hd) hok
 have e:den (setPl ρ x.ν ⟨some ⟨w.heap.size,0,none⟩,0,0,false,noSub⟩) (.pointer (some ⟨x.ν,0,none⟩))=.pointer (some ⟨w.heap.size,0,none⟩):=by simp[den,den2,den1,dA_whole,dS_whole,setPl_same]
 rw[e] at h2
 have hmem:lk mem x.ν=none:=by
  cases hm:lk mem x.ν with
  | none=>rfl
  | some b=>have:=(h.mlt _ _ (lk_app hm)).2;rw[hres] at this;cases this
 refine h2.ctx rfl rfl rfl rfl rfl (fun t v hv=>?_) (fun i b hb=>?_)
 ·show lk ((x.d,_)::(fr++slots D)) t=some v
  have hv':lk (fr++((x.d,.pointer (some ⟨x.ν,0,none⟩))::slots D)) t=some v:=hv
  cases hft:lk fr t with
  | some u=>
   rw[lk_app hft] at hv'
   rw[lk_ne _ _ (by rintro rfl;rw[hfr] at hft;cases hft),lk_app hft]
   exact hv'
  | none=>
   rw[lk_none_app hft] at hv'
   by_cases ht:x.d=t
   ·subst ht;rw[lk_same] at hv' ⊢;exact hv'
   ·rw[lk_ne _ _ ht] at hv' ⊢;rw[lk_none_app hft];exact hv'
 ·show lk ((x.ν,_)::(mem++blks D)) i=some b
  have hb':lk (mem++((x.ν,.box x.t x.zero)::blks D)) i=some b:=hb
  cases hft:lk mem i with
  | some u=>
   rw[lk_app hft] at hb'
   rw[lk_ne _ _ (by rintro rfl;rw[hmem] at hft;cases hft),lk_app hft]
   exact hb'
  | none=>
   rw[lk_none_app hft] at hb'
   by_cases ht:x.ν=i
   ·subst ht;rw[lk_same] at hb' ⊢;exact hb'
   ·rw[lk_ne _ _ ht] at hb' ⊢;rw[lk_none_app hft];exact hb'
end
section
variable {P:Program} {τ:TT} {F:FT} {C:Ctx} {ρ:Nat→Pl} {fr:AF} {mem:AM} {nx:Nat} {a:Act} {w:World} {Q:Exit→Act→World→Prop}
theorem heldS_wf {D:List AI} {ρS:Nat→Pl} {nS:Nat} {memS:AM}:HeldS (C.wf D) ρS nS memS w↔HeldS C ρS nS memS w:=
 ⟨fun h i b hi=>by have:=h i b hi;cases b<;>exact this,fun h i b hi=>by have:=h i b hi;cases b<;>exact this⟩
theorem held_wf {D:List AI} {ρS:Nat→Pl} {nS:Nat} {memS:AM} (h:Held C ρS nS memS w):Held (C.wf D) ρS nS memS w:=⟨heldS_wf.2 h.blk,h.lt⟩
structure Pend (τ:TT) (ops:Array Oper) (n0 nt:Nat) (ρ:Nat→Pl) (nx:Nat) (fr:AF) (x:AI):Prop where
 lt:x.ν<nx
 ge:n0≤x.ν
 res:(ρ x.ν).res=true
 free:lk fr x.d=none
 nt:x.d<nt
 op:∃ o,ops[x.j]?=some o∧o.op=.alloc x.t∧o.dst=some x.d∧o.guard=none
 ti:∃ ti,lk τ x.t=some ti∧x.zero=ti.zero
theorem alloc_run {t:TypeId} {ti:TI} (ht:TIok P t ti) {o:Oper} (ho:o.op=.alloc t):(execOp a.eval o).run P w=.ok (.value (.pointer (some ⟨w.heap.size,0,none⟩))) (w.alloc (.cells ti.zero.toArray t)):=by
 obtain⟨i,hi,hsz,z,hz,hzc⟩:=ht.size
 have hza:z.cells=ti.zero.toArray:=by apply Array.toList_inj.1;simp[hzc]
 simp[execOp,ho,Instr.alloc,zeroValue,typeInfo,hi,hz,newVar,newRow,newObj,hza,Sem.run]
theorem float_sound {I:List Nat} (hτ:TTok P τ) (hF:FTokI P F I) {ops:Array Oper} (hsel:Region.noSelect ops=true) (hd:∀ (i:Nat) (o:Oper),ops[i]?=some o→∀ j,o.dst=some j→j<C.nt) (hQ:∀ c a a' w,Q (.panic c) a w→Q (.panic c) a' w)
  {ρS:Nat→Pl} {nS:Nat} {memS:AM} {w1:World} (hH:Held C ρS nS memS w1) {K:List Nat→AF→AM→Nat→Prop} {post:List (Nat×Bool)} {A:List AI} (hAI:A=[]∨∀ (i:Nat) (o:Oper),ops[i]?=some o→inlOk I o.op=true)
  (hK:∀ G' fr' mem' nx' ρ' a' w' D',K G' fr' mem' nx'→Sat (C.wf D') ρ' fr' mem' nx' a' w'→Ext ρS nS ρ' nx'→HeldS C ρS nS memS w'→(∀ x ∈ A,x ∈ D')→Sole D'→(∀ x ∈ A,lk fr' x.d=none)→wpSeqH P ops Q (HeldS C ρS nS memS) post a' w') :
  ∀ (n:Nat) (σ:List (Nat×Bool)) (listed:Array Bool) (pend D:List AI) (G:List Nat) (fr:AF) (mem:AM) (nx:Nat) (ρ:Nat→Pl) (a:Act) (w:World),floatB ops post n σ listed (pend.map (·.j))=true→
  strx τ F ops memS σ G fr mem nx K→Sat (C.wf D) ρ fr mem nx a w→Ext ρS nS ρ nx→HeldS C ρS nS memS w→(∀ x ∈ pend,Pend τ ops C.n0 C.nt ρ nx fr x)→(∀ x ∈ A,x ∈ pend∨x ∈ D)→Sole (pend++D)→(∀ x ∈ pend,x ∉ D)→(∀ x ∈ A,lk fr x.d=none)→
  (∀ p ∈ σ,∀ d,dstOf ops p.1=some d→∀ x ∈ A,x.d≠d)→(∀ x ∈ pend,x ∈ A)→(pend.map (·.j)).Nodup→(D=[]∨∀ (i:Nat) (o:Oper),ops[i]?=some o→inlOk I o.op=true)→
  wpAnyH P .any ops Q (HeldS C ρS nS memS) (σ.length+pend.length+post.length) listed a w:=by
 intro n
 induction n with
 | zero=>intro σ listed pend D G fr mem nx ρ a w hB;simp[floatB] at hB
 | succ n ih=>
  intro σ listed pend D G fr mem nx ρ a w hB h hs hx hS hp hA hsole hdis hnone hdst hpA hnd hDI
  -- a pending variable comes up
  have key:∀ (j:Nat),(pend.map (·.j)).contains j=true→floatB ops post n σ (listed.setIfInBounds j true) ((pend.map (·.j)).filter fun k=>!(k==j))=true→
    ∃ m,σ.length+pend.length+post.length=m+1∧wpOp P ops Q j (fun a' w'=>HeldS C ρS nS memS w'∧wpAnyH P .any ops Q (HeldS C ρS nS memS) m (listed.setIfInBounds j true) a' w') a w:=by
   intro j hj hfl
   obtain⟨x,hxp,rfl⟩:∃ x ∈ pend,x.j=j:=by simpa using hj
   obtain⟨hlt,hge,hres,hnn,hnt,⟨o,ho,hop,hod,hog⟩,ti,hti,hz⟩:=hp x hxp
   have hsx:Sole (x::D):=fun y hy z hz=>hsole y (by rcases List.mem_cons.1 hy with rfl | hy;exact List.mem_append_left _ hxp;exact List.mem_append_right _ hy) z (by rcases List.mem_cons.1 hz with rfl | hz;exact List.mem_append_left _ hxp;exact List.mem_append_right _ hz)
   have hs2:=hs.comeup hτ hti hz hsx (hdis x hxp) hlt hge hres hnn hnt
   have hxx:Ext ρ nx (setPl ρ x.ν ⟨some ⟨w.heap.size,0,none⟩,0,0,false,noSub⟩) nx:=⟨fun i _ hr=>if_neg (by rintro rfl;rw[hr] at hres;cases hres),Nat.le_refl _⟩
   have hbel:Below w.heap.size w (w.alloc (.cells x.zero.toArray x.t)):=(Below.refl _ _).alloc (Nat.le_refl _) _
   have hS2:HeldS C ρS nS memS (w.alloc (.cells x.zero.toArray x.t)):=fun i b hi=>(hS i b hi).later hbel
   have hflen:(pend.filter fun y=>!(y.j==x.j)).length+1=pend.length:=by
    have h1:(pend.map (·.j)).filter (fun k=>!(k==x.j))=(pend.map (·.j)).erase x.j:=by
     rw[List.Nodup.erase_eq_filter hnd]
     congr 1
    have h2:=congrArg List.length h1
    rw[List.filter_map,List.length_map,List.length_erase_of_mem (List.mem_map_of_mem hxp),List.length_map] at h2
    have:0<pend.length:=List.length_pos_of_mem hxp
    have e:(pend.filter ((fun k=>!(k==x.j)) ∘ fun y:AI=>y.j))=pend.filter fun y=>!(y.j==x.j):=rfl
    rw[e] at h2
    omega
   refine⟨σ.length+(pend.filter fun y=>!(y.j==x.j)).length+post.length,by omega,?_⟩
   refine wpOp_act ho hog ?_
   have hrun:=alloc_run (P:=P) (a:=a) (w:=w) (hτ _ _ hti) hop
   rw[← hz] at hrun
   refine wp_value hrun ⟨hS2,?_⟩
   rw[hod]
   refine ih σ _ (pend.filter fun y=>!(y.j==x.j)) (x::D) G fr mem nx _ _ _ ?_ h hs2 (hx.trans hxx) hS2 ?_ ?_ ?_ ?_ hnone hdst ?_ ?_ (.inr (hAI.resolve_left fun q=>by have:=hpA x hxp;rw[q] at this;cases this))
   ·rw[List.filter_map] at hfl;exact hfl
   ·intro y hy
    obtain⟨hyp,hyj⟩:=List.mem_filter.1 hy
    obtain⟨q1,q0,q2,q3,q4,q5,q6⟩:=hp y hyp
    refine⟨q1,q0,?_,q3,q4,q5,q6⟩
    rw[show setPl ρ x.ν _ y.ν=ρ y.ν from if_neg (by
     intro he
     have:=hsole y (List.mem_append_left _ hyp) x (List.mem_append_left _ hxp) (.inr (.inl he))
     subst this
     simp at hyj)]
    exact q2
   ·intro y hy
    rcases hA y hy with h1 | h1
    ·by_cases he:y.j=x.j
     ·have:=hsole y (List.mem_append_left _ h1) x (List.mem_append_left _ hxp) (.inr (.inr he))
      subst this
      exact .inr (List.mem_cons_self ..)
     ·exact .inl (List.mem_filter.2 ⟨h1,by simp[he]⟩)
    ·exact .inr (List.mem_cons_of_mem _ h1)
   ·intro y hy z hz
    have f:∀ u,u ∈ (pend.filter fun y=>!(y.j==x.j))++x::D→u ∈ pend++D:=by
     intro u hu
     rcases List.mem_append.1 hu with hu | hu
     ·exact List.mem_append_left _ (List.mem_filter.1 hu).1
     ·rcases List.mem_cons.1 hu with rfl | hu
      ·exact List.mem_append_left _ hxp
      ·exact List.mem_append_right _ hu
    exact hsole y (f y hy) z (f z hz)
   ·intro y hy hyD
    obtain⟨hyp,hyj⟩:=List.mem_filter.1 hy
    rcases List.mem_cons.1 hyD with rfl | hyD
    ·simp at hyj
    ·exact hdis y hyp hyD
   ·intro y hy;exact hpA y (List.mem_filter.1 hy).1
   ·have:((pend.filter fun y=>!(y.j==x.j)).map (·.j))=(pend.map (·.j)).filter (fun k=>!(k==x.j)):=by rw[List.filter_map];rfl
    rw[this]
    exact hnd.filter _
  cases σ with
  | nil=>
   cases hpd:pend with
   | nil=>
    subst hpd
    simp only[floatB,List.map_nil] at hB
    have hall:∀ x ∈ A,x ∈ D:=fun x hx=>(hA x hx).resolve_left (by simp)
    have:=hK G fr mem nx ρ a w D h hs hx hS hall (by simpa using hsole) hnone
    have h2:=wpAnyH_of_seq hsel post listed a w hB hS this
    simpa using h2
   | cons y ys=>
    have hB2:=hB
    rw[hpd] at hB2
    simp only[floatB,List.map_cons,Bool.and_eq_true,List.all_eq_true,Bool.not_eq_true',List.isEmpty_eq_false_iff] at hB2
    obtain⟨hne,hall⟩:=hB2
    rw[← hpd]
    have hpos:0<pend.length:=by rw[hpd];simp
    obtain⟨m,hm⟩:∃ m,([]:List (Nat×Bool)).length+pend.length+post.length=m+1:=⟨pend.length+post.length-1,by simp;omega⟩
    rw[hm]
    refine wpAnyH_all rfl hne fun j hj=>?_
    obtain⟨h1,h2⟩:=hall j hj
    obtain⟨m',hm',hwp⟩:=key j (by rw[hpd];exact h1) (by rw[hpd];exact h2)
    obtain rfl:m'=m:=by omega
    exact hwp
  | cons p r=>
   obtain⟨i,act⟩:=p
   simp only[strx_cons,putK_eq] at h
   cases ho:ops[i]? with
   | none=>rw[ho] at h;exact h.elim
   | some o=>
    rw[ho] at h
    simp only at h
    have hod:∀ x ∈ A,o.dst≠some x.d:=by
     intro x hx he
     exact hdst (i,act) (List.mem_cons_self ..) x.d (by simp[dstOf,ho,he]) x hx rfl
    have hlen:(((i,act)::r).length+pend.length+post.length)=(r.length+pend.length+post.length)+1:=by simp;omega
    obtain⟨b,G',fr',hgo,hw,hf,hnn⟩:=gdx_sound (C:=C.wf D) h hs.fok
    have hs':=hs.frm hf
    have hputn:∀ (v:Value) (x:AI),x ∈ A→lk (putF o.dst v fr') x.d=none:=fun v x hx=>by rw[lk_putF (hod x hx)];exact hnn _ (hnone x hx)
    have hdst':∀ p ∈ r,∀ d,dstOf ops p.1=some d→∀ x ∈ A,x.d≠d:=fun p hp=>hdst p (List.mem_cons_of_mem _ hp)
    cases act with
    | false=>
     simp only[floatB,Bool.and_eq_true] at hB
     obtain⟨⟨h1,h2⟩,h3⟩:=hB
     rw[hlen]
     cases b with
     | false=>
      have hrest:=ih r _ pend D G' _ mem nx ρ _ w h3 hgo (den_undef (ρ:=ρ) ▸ hs'.put (d:=o.dst) (hd i o ho) okV_undef) hx hS (fun x hx=>by
       obtain⟨q1,q0,q2,q3,q4,q5,q6⟩:=hp x hx
       exact⟨q1,q0,q2,hputn _ x (hpA x hx),q4,q5,q6⟩) hA hsole hdis (fun x hx=>hputn _ x hx) hdst' hpA hnd hDI
      exact wpAnyH_take ho hsel h1 h2 (fun c a w h=>hQ _ _ _ _ h) (.inr ⟨hw,rfl⟩) hS hrest
     | true=>
      simp only at hgo
      obtain⟨v,hgo,hok,hy⟩:=fvx_held (P:=P) (C:=C) (ops:=ops) hτ hH hx hf.left hS hw hgo
      have hrest:=ih r _ pend D G' _ mem nx ρ _ w h3 hgo (hs'.put (d:=o.dst) (hd i o ho) hok) hx hS (fun x hx=>by
       obtain⟨q1,q0,q2,q3,q4,q5,q6⟩:=hp x hx
       exact⟨q1,q0,q2,hputn _ x (hpA x hx),q4,q5,q6⟩) hA hsole hdis (fun x hx=>hputn _ x hx) hdst' hpA hnd hDI
      exact wpAnyH_take ho hsel h1 h2 (fun c a w h=>hQ _ _ _ _ h) hy hS hrest
    | true=>
     simp only[floatB,Bool.and_eq_true,List.all_eq_true,Bool.not_eq_true',List.isEmpty_eq_false_iff,Bool.or_eq_true,decide_eq_true_eq] at hB
     obtain⟨hne,hall⟩:=hB
     rw[hlen]
     refine wpAnyH_all rfl hne fun j hj=>?_
     rcases hall j hj with⟨rfl,h3⟩ | ⟨h1,h2⟩
     ·cases b with
      | false=>
       have hrest:=ih r _ pend D G' _ mem nx ρ _ w h3 hgo (den_undef (ρ:=ρ) ▸ hs'.put (d:=o.dst) (hd j o ho) okV_undef) hx hS (fun x hx=>by
        obtain⟨q1,q0,q2,q3,q4,q5,q6⟩:=hp x hx
        exact⟨q1,q0,q2,hputn _ x (hpA x hx),q4,q5,q6⟩) hA hsole hdis (fun x hx=>hputn _ x hx) hdst' hpA hnd hDI
       unfold wpOp
       simp only[ho]
       rw[if_neg (by rw[hw];simp)]
       exact⟨hS,hrest⟩
      | true=>
       simp only at hgo
       refine wpOp_actG ho hw (Oper.wp_mono ?_ (opx_sound (Q:=Q) (C:=C.wf D) hτ hF (hDI.imp (fun q=>by rw[q];rfl) (fun q=>q j o ho)) (hd j o ho) hgo hs'))
       rintro a2 w2 ⟨fr2,mem2,nx2,ρ2,⟨hk2,hk3⟩,hs2,hx2,hfr2⟩
       have hS2:HeldS C ρS nS memS w2:=heldS_wf.1 ((held_wf (D:=D) hH).now (hx.trans hx2.ext) hs2 (fun i b hi=>lk_app (keeps_lk hk2 i b hi)))
       refine⟨hS2,ih r _ pend D G' fr2 mem2 nx2 ρ2 a2 w2 h3 hk3 hs2 (hx.trans hx2.ext) hS2 (fun x hx=>?_) hA hsole hdis (fun x hx=>?_) hdst' hpA hnd hDI⟩
       ·obtain⟨q1,q0,q2,q3,q4,q5,q6⟩:=hp x hx
        exact⟨Nat.lt_of_lt_of_le q1 hx2.2,q0,by rw[hx2.1 _ q1];exact q2,by rw[hfr2 _ (hod x (hpA x hx))];exact hnn _ (hnone x (hpA x hx)),q4,q5,q6⟩
       ·rw[hfr2 _ (hod x hx)];exact hnn _ (hnone x hx)
     ·obtain⟨m',hm',hwp⟩:=key j h1 h2
      obtain rfl:m'=r.length+pend.length+post.length:=by simp at hm';omega
      exact hwp
end
section
variable {P:Program} {τ:TT} {F:FT} {C:Ctx} {ρ:Nat→Pl} {fr:AF} {mem:AM} {nx:Nat} {a:Act} {w:World} {Q:Exit→Act→World→Prop}
theorem Sat.reserveN (h:Sat C ρ fr mem nx a w):∀ n,∃ ρ',Sat C ρ' fr mem (nx+n) a w∧ExtS ρ nx ρ' (nx+n)∧∀ i,nx≤i→i<nx+n→(ρ' i).res=true
 | 0=>⟨ρ,h,ExtS.refl _ _,fun i h1 h2=>by omega⟩
 | n+1=>by
  obtain⟨ρ',h1,h2,h3⟩:=Sat.reserveN h n
  refine⟨setPl ρ' (nx+n) ⟨none,0,0,true,noSub⟩,h1.reserve,h2.trans (ExtS.set _ _ _),fun i h4 h5=>?_⟩
  by_cases hi:i=nx+n
  ·subst hi;rw[setPl_same]
  ·rw[setPl_lt ρ' _ (by omega)];exact h3 i h4 (by omega)
theorem mkA_get {ops:Array Oper}:∀ {A:List Nat} {nx:Nat} {xs:List AI},mkA τ ops nx A=some xs→xs.length=A.length∧∀ i x,xs[i]?=some x→A[i]?=some x.j∧x.ν=nx+i∧
  (∃ o,ops[x.j]?=some o∧o.op=.alloc x.t∧o.dst=some x.d∧o.guard=none)∧∃ ti,lk τ x.t=some ti∧x.zero=ti.zero
 | [],nx,xs,h=>by simp[mkA] at h;subst h;simp
 | j::r,nx,xs,h=>by
  simp only[mkA] at h
  cases ho:ops[j]? with
  | none=>rw[ho] at h;simp at h
  | some o=>
   rw[ho] at h
   split at h
   ·rename_i d t ty ps af heq
    cases heq
    cases hti:lk τ t with
    | none=>rw[hti] at h;simp at h
    | some ti=>
     rw[hti] at h
     simp only at h
     cases hr:mkA τ ops (nx+1) r with
     | none=>rw[hr] at h;simp at h
     | some l=>
      rw[hr] at h
      simp at h
      subst h
      obtain⟨h1,h2⟩:=mkA_get hr
      refine⟨by simp[h1],fun i x hx=>?_⟩
      cases i with
      | zero=>
       simp at hx
       subst hx
       exact⟨by simp,rfl,⟨_,ho,rfl,rfl,rfl⟩,ti,hti,rfl⟩
      | succ i=>
       simp at hx
       obtain⟨q1,q2,q3⟩:=h2 i x hx
       exact⟨by simpa using q1,by omega,q3⟩
   ·simp at h
theorem nodupB_sound:∀ {l:List Nat},nodupB l=true→l.Nodup
 | [],_=>List.nodup_nil
 | x::r,h=>by
  simp only[nodupB,Bool.and_eq_true,Bool.not_eq_true'] at h
  exact List.nodup_cons.2 ⟨by simpa using h.1,nodupB_sound h.2⟩
theorem nodup_idx {l:List Nat} (h:l.Nodup) {i j:Nat} {v:Nat} (hi:l[i]?=some v) (hj:l[j]?=some v):i=j:=by
 obtain⟨h1,h2⟩:=List.getElem?_eq_some_iff.1 hi
 obtain⟨h3,h4⟩:=List.getElem?_eq_some_iff.1 hj
 exact (List.getElem_inj h).1 (h2.trans h4.symm)
theorem mkA_sole {ops:Array Oper} {A:List Nat} {xs:List AI} (h:mkA τ ops nx A=some xs) (h1:A.Nodup) (h2:(A.map fun j=>(dstOf ops j).getD 0).Nodup):Sole xs:=by
 obtain⟨hl,hg⟩:=mkA_get h
 intro x hx y hy he
 obtain⟨i,hi⟩:=List.getElem?_of_mem hx
 obtain⟨j,hj⟩:=List.getElem?_of_mem hy
 obtain⟨a1,a2,⟨o,a3,a4,a5,a6⟩,-⟩:=hg i x hi
 obtain⟨b1,b2,⟨p,b3,b4,b5,b6⟩,-⟩:=hg j y hj
 have:i=j:=by
  rcases he with he | he | he
  ·refine nodup_idx h2 (v:=x.d) ?_ ?_
   ·simp[List.getElem?_map,a1,dstOf,a3,a5]
   ·simp[List.getElem?_map,b1,dstOf,b3,b5,he]
  ·omega
  ·exact nodup_idx h1 a1 (he ▸ b1)
 subst this
 rw[hi] at hj
 exact Option.some.inj hj
def NoPanic (Q:Exit→Act→World→Prop):Prop:=∀ c a w,¬ Q (.panic c) a w
theorem dregx_sound {I:List Nat} (hτ:TTok P τ) (hF:FTokI P F I) (hm:P.follows .mixedOrders=true) (hQ:NoPanic Q) (hC:C.ff=[]∧C.fm=[]) {l:List Oper} {d:DP} (hAI:d.A=[]∨∀ o ∈ l,inlOk I o.op=true) (hB:dregB l d=true) (hd:∀ o ∈ l,∀ i,o.dst=some i→i<C.nt) {id:Nat} {K:AF→AM→Nat→Prop}
  (h:dregx τ F l d fr mem nx K) (hs:Sat C ρ fr mem nx a w) (hK:∀ fr' mem' nx' ρ' a' w',K fr' mem' nx'→Sat C ρ' fr' mem' nx' a' w'→Q .normal a' w'):(Code.region id l.toArray true).wp P Q a w:=by
 unfold dregx at h
 simp only[dregB,Bool.and_eq_true,decide_eq_true_eq] at hB
 obtain⟨⟨⟨⟨⟨⟨hlast,hsel⟩,hlen⟩,hfl⟩,hpd⟩,hn1⟩,hn2⟩:=hB
 cases hA:mkA τ (l.take d.k).toArray nx d.A with
 | none=>rw[hA] at h;exact h.elim
 | some xs=>
  rw[hA] at h
  simp only at h
  obtain⟨hxl,hxg⟩:=mkA_get hA
  have hsole:=mkA_sole hA (nodupB_sound hn1) (nodupB_sound hn2)
  have hxj:xs.map (·.j)=d.A:=by
   apply List.ext_getElem?
   intro i
   rw[List.getElem?_map]
   cases hx:xs[i]? with
   | none=>
    have:xs.length≤i:=List.getElem?_eq_none_iff.1 hx
    rw[List.getElem?_eq_none (show d.A.length≤i by omega)]
    rfl
   | some x=>rw[(hxg i x hx).1];rfl
  obtain⟨ρS,hsS,hxS,hresS⟩:=hs.drew.reserveN d.A.length
  have hdk:∀ (i:Nat) (o:Oper),(l.take d.k).toArray[i]?=some o→∀ j,o.dst=some j→j<C.nt:=fun i o ho=>hd o (by
   have:(l.take d.k)[i]?=some o:=by simpa using ho
   exact List.mem_of_mem_take (List.mem_of_getElem? this))
  have hH:Held C ρS (nx+d.A.length) (sel mem d.L) w.drew:=⟨fun i b hi=>hsS.blk i b (lk_app (sel_lk i b hi)),fun i b hi=>hsS.mlt i b (lk_app (sel_lk i b hi))⟩
  have hS0:HeldS C ρS (nx+d.A.length) (sel mem d.L) w.drew:=hH.blk
  refine wp_region_last d.k hm hlast (wpAny_of_held (S:=HeldS C ρS (nx+d.A.length) (sel mem d.L)) _ _ _ _ ?_)
  obtain⟨hdl1,hdl2⟩:=delFs_lk (xs:=xs) (fr:=fr)
  have hs1:Sat (C.wf []) ρS (delFs xs fr) mem (nx+d.A.length) a w.drew:=hsS.ctx rfl rfl rfl rfl rfl (fun t v hv=>by
   have hv':lk (delFs xs fr++[]) t=some v:=hv
   rw[List.append_nil] at hv'
   exact lk_app (hdl2 t v hv')) (fun i b hb=>by
   have hb':lk (mem++[]) i=some b:=hb
   rw[List.append_nil] at hb'
   exact lk_app hb')
  have hQ2:∀ c a a' w,thenK (fun a w=>wpList P l.toArray Q (l.drop d.k) a w) Q (.panic c) a w→thenK (fun a w=>wpList P l.toArray Q (l.drop d.k) a w) Q (.panic c) a' w:=fun c a a' w hq=>(hQ c a w hq).elim
  have hkey:=float_sound (Q:=thenK (fun a w=>wpList P l.toArray Q (l.drop d.k) a w) Q) hτ hF hsel hdk hQ2 hH (A:=xs) (post:=d.post) (hAI.imp (fun q=>by rw[q] at hxl;exact List.eq_nil_of_length_eq_zero hxl) (fun q i o ho=>q o (by
    have:(l.take d.k)[i]?=some o:=by simpa using ho
    exact List.mem_of_mem_take (List.mem_of_getElem? this))))
   (K:=fun G fr1 mem1 nx1=>strx τ F (l.take d.k).toArray (sel mem d.L) d.post G (fr1++slots xs) (mem1++blks xs) nx1 (fun G fr2 mem2 nx2=>opsx τ F l.toArray (l.drop d.k) G fr2 mem2 nx2 K)) ?_
   (d.k+1) d.pre (Array.replicate d.k false) xs [] [] (delFs xs fr) mem (nx+d.A.length) ρS a w.drew (by rw[hxj];exact hfl) h hs1 (Ext.refl _ _) hS0 ?_ (fun x hx=>.inl hx) (by simpa using hsole) (fun x _ hx=>by cases hx) hdl1 ?_ (fun x hx=>hx) (by rw[hxj];exact nodupB_sound hn1) (.inl rfl)
  ·rw[show d.pre.length+xs.length+d.post.length=d.k by rw[hxl];exact hlen] at hkey
   exact hkey
  ·intro G' fr' mem' nx' ρ' a' w' D' hk hs' hx' hS' hall hsole' hnone'
   have hs2:Sat C ρ' (fr'++slots xs) (mem'++blks xs) nx' a' w':=hs'.ctx rfl rfl rfl rfl rfl (fun t v hv=>by
    rw[hC.1,List.append_nil] at hv
    show lk (fr'++slots D') t=some v
    cases hf:lk fr' t with
    | some u=>rw[lk_app hf] at hv ⊢;exact hv
    | none=>
     rw[lk_none_app hf] at hv ⊢
     obtain⟨x,hx,rfl,rfl⟩:=slots_lk hv
     exact slots_get hsole' x (hall x hx)) (fun i b hb=>by
    rw[hC.2,List.append_nil] at hb
    show lk (mem'++blks D') i=some b
    cases hf:lk mem' i with
    | some u=>rw[lk_app hf] at hb ⊢;exact hb
    | none=>
     rw[lk_none_app hf] at hb ⊢
     obtain⟨x,hx,rfl,rfl⟩:=blks_lk hb
     exact blks_get hsole' x (hall x hx))
   refine strx_sound hτ hF hC.2 hdk hQ2 hH d.post G' _ _ nx' ρ' a' w' hk hs2 hx' hS' ?_
   intro G2 fr2 mem2 nx2 ρ2 a2 w2 hk2 hs3 hx3
   show wpList P l.toArray Q (l.drop d.k) a2 w2
   exact opsx_sound hτ hF hC.2 (l.drop d.k) (fun o ho=>hd o (List.mem_of_mem_drop ho)) G2 fr2 mem2 nx2 ρ2 a2 w2 hk2 hs3 (fun fr' mem' nx' ρ' a' w' hk hs _=>hK fr' mem' nx' ρ' a' w' hk hs)
  ·intro x hx
   obtain⟨i,hi⟩:=List.getElem?_of_mem hx
   obtain⟨q1,q2,q3,q4⟩:=hxg i x hi
   have hil:i<xs.length:=(List.getElem?_eq_some_iff.1 hi).1
   obtain⟨o,q5,q6,q7,q8⟩:=q3
   exact⟨by omega,by have:=hs.n0;omega,hresS _ (by omega) (by omega),hdl1 x hx,hdk _ o q5 _ q7,⟨o,q5,q6,q7,q8⟩,q4⟩
  ·intro p hp dd hdd x hx he
   subst he
   simp only[preDst,List.all_eq_true] at hpd
   have:=hpd p hp
   rw[hdd] at this
   simp only[List.all_eq_true] at this
   obtain⟨i,hi⟩:=List.getElem?_of_mem hx
   obtain⟨q1,q2,⟨o,q5,q6,q7,q8⟩,q4⟩:=hxg i x hi
   have h5:=this x.j (by rw[← hxj];exact List.mem_map_of_mem hx)
   simp[dstOf] at h5
   simp at q5
   rw[q5] at h5
   simp[q7] at h5
end
inductive GS where
 | fin
 | fix (i:Nat) (r:GS)
 | act (i:Nat) (r:GS)
 | two (i:Nat) (r:GS) (j:Nat) (s:GS)
 | three (i:Nat) (r:GS) (j:Nat) (s:GS) (k:Nat) (t:GS)
def gsB (ops:Array Oper):GS→Nat→Array Bool→Bool
 | .fin,n,listed=>decide (n=0)&&(Region.ready .any ops listed).isEmpty
 | .fix i r,n,listed=>decide (0<n)&&Region.free .any ops listed i&&(Region.ready .any ops listed).contains i&&gsB ops r (n-1) (listed.setIfInBounds i true)
 | .act i r,n,listed=>decide (0<n)&&decide (Region.ready .any ops listed=[i])&&gsB ops r (n-1) (listed.setIfInBounds i true)
 | .two i r j s,n,listed=>decide (0<n)&&decide (Region.ready .any ops listed=[i,j])&&gsB ops r (n-1) (listed.setIfInBounds i true)&&gsB ops s (n-1) (listed.setIfInBounds j true)
 | .three i r j s k t,n,listed=>decide (0<n)&&decide (Region.ready .any ops listed=[i,j,k])&&gsB ops r (n-1) (listed.setIfInBounds i true)&&gsB ops s (n-1) (listed.setIfInBounds j true)&&gsB ops t (n-1) (listed.setIfInBounds k true)
abbrev GK':=List Nat→AF→AM→Nat→(List Nat→AF→AM→Nat→Prop)→Prop
def gactx (τ:TT) (F:FT) (ops:Array Oper) (memS:AM) (i:Nat) (ih:GK') (G:List Nat) (fr:AF) (mem:AM) (nx:Nat) (K:List Nat→AF→AM→Nat→Prop):Prop:=
 match ops[i]? with
 | none=>False
 | some o=>gdx ops G o.guard fr (fun b G' fr'=>match b with
  | true=>opx τ F o fr' mem nx (fun fr2 mem2 nx2=>keeps mem2 memS∧ih G' fr2 mem2 nx2 K)
  | false=>putK o.dst (.tuple #[]) fr' fun fr2=>ih G' fr2 mem nx K)
def gfixx (τ:TT) (ops:Array Oper) (memS:AM) (i:Nat) (ih:GK') (G:List Nat) (fr:AF) (mem:AM) (nx:Nat) (K:List Nat→AF→AM→Nat→Prop):Prop:=
 match ops[i]? with
 | none=>False
 | some o=>gdx ops G o.guard fr (fun b G' fr'=>match b with
  | true=>fvx τ fr' memS o.op fun v=>putK o.dst v fr' (fun fr2=>ih G' fr2 mem nx K)
  | false=>putK o.dst (.tuple #[]) fr' fun fr2=>ih G' fr2 mem nx K)
def gsx (τ:TT) (F:FT) (ops:Array Oper) (memS:AM) (σ:GS):GK':=
 GS.rec (motive:=fun _=>GK') (fun G fr mem nx K=>K G fr mem nx)
  (fun i _ ih=>gfixx τ ops memS i ih)
  (fun i _ ih=>gactx τ F ops memS i ih)
  (fun i _ j _ ih ij G fr mem nx K=>gactx τ F ops memS i ih G fr mem nx K∧gactx τ F ops memS j ij G fr mem nx K)
  (fun i _ j _ k _ ih ij ik G fr mem nx K=>gactx τ F ops memS i ih G fr mem nx K∧gactx τ F ops memS j ij G fr mem nx K∧gactx τ F ops memS k ik G fr mem nx K) σ
def gregx (τ:TT) (F:FT) (l:List Oper) (k:Nat) (L:List Nat) (σ:GS) (fr:AF) (mem:AM) (nx:Nat) (K:AF→AM→Nat→Prop):Prop:=
 gsx τ F (l.take k).toArray (sel mem L) σ [] fr mem nx (fun G fr2 mem2 nx2=>opsx τ F l.toArray (l.drop k) G fr2 mem2 nx2 K)
def gregB (l:List Oper) (k:Nat) (σ:GS):Bool:=lastB l k&&Region.noSelect (l.take k).toArray&&gsB (l.take k).toArray σ k (Array.replicate k false)
section
variable {P:Program} {τ:TT} {F:FT} {C:Ctx} {Q:Exit→Act→World→Prop}
theorem gsx_sound {I:List Nat} (hτ:TTok P τ) (hF:FTokI P F I) (hfm:C.fm=[]) {ops:Array Oper} (hsel:Region.noSelect ops=true) (hd:∀ (i:Nat) (o:Oper),ops[i]?=some o→∀ j,o.dst=some j→j<C.nt) (hQ:∀ c a a' w,Q (.panic c) a w→Q (.panic c) a' w)
  {ρS:Nat→Pl} {nS:Nat} {memS:AM} {w1:World} (hH:Held C ρS nS memS w1) {K:List Nat→AF→AM→Nat→Prop}
  (hK:∀ G' fr' mem' nx' ρ' a' w',K G' fr' mem' nx'→Sat C ρ' fr' mem' nx' a' w'→Q .normal a' w'):∀ (σ:GS) (n:Nat) (listed:Array Bool) (G:List Nat) (fr:AF) (mem:AM) (nx:Nat) (ρ:Nat→Pl) (a:Act) (w:World),gsB ops σ n listed=true→
  gsx τ F ops memS σ G fr mem nx K→Sat C ρ fr mem nx a w→Ext ρS nS ρ nx→HeldS C ρS nS memS w→wpAnyH P .any ops Q (HeldS C ρS nS memS) n listed a w:=by
 intro σ
 -- an operation that acts
 have act:∀ (i:Nat) (r:GS),(∀ (n:Nat) (listed:Array Bool) (G:List Nat) (fr:AF) (mem:AM) (nx:Nat) (ρ:Nat→Pl) (a:Act) (w:World),gsB ops r n listed=true→gsx τ F ops memS r G fr mem nx K→Sat C ρ fr mem nx a w→Ext ρS nS ρ nx→HeldS C ρS nS memS w→wpAnyH P .any ops Q (HeldS C ρS nS memS) n listed a w)→
   ∀ (m:Nat) (listed:Array Bool) (G:List Nat) (fr:AF) (mem:AM) (nx:Nat) (ρ:Nat→Pl) (a:Act) (w:World),gsB ops r m listed=true→gactx τ F ops memS i (gsx τ F ops memS r) G fr mem nx K→Sat C ρ fr mem nx a w→Ext ρS nS ρ nx→HeldS C ρS nS memS w→
   wpOp P ops Q i (fun a' w'=>HeldS C ρS nS memS w'∧wpAnyH P .any ops Q (HeldS C ρS nS memS) m listed a' w') a w:=by
  intro i r ih m listed G fr mem nx ρ a w hB h hs hx hS
  simp only[gactx,putK_eq] at h
  cases ho:ops[i]? with
  | none=>rw[ho] at h;exact h.elim
  | some o=>
   rw[ho] at h
   simp only at h
   obtain⟨b,G',fr',hgo,hw,hf,-⟩:=gdx_sound h hs.fok
   have hs':=hs.frm hf
   cases b with
   | false=>
    have hrest:=ih m listed G' _ mem nx ρ _ w hB hgo (hs'.put (d:=o.dst) (hd i o ho) okV_undef) hx hS
    rw[den_undef] at hrest
    unfold wpOp
    simp only[ho]
    rw[if_neg (by rw[hw];simp)]
    exact⟨hS,hrest⟩
   | true=>
    refine wpOp_actG ho hw (Oper.wp_mono ?_ (opx_sound (Q:=Q) hτ hF (.inl hfm) (hd i o ho) hgo hs'))
    rintro a2 w2 ⟨fr2,mem2,nx2,ρ2,⟨hk2,hk3⟩,hs2,hx2,-⟩
    have hS2:=hH.now (hx.trans hx2.ext) hs2 (fun i b hi=>lk_app (keeps_lk hk2 i b hi))
    exact⟨hS2,ih m listed G' fr2 mem2 nx2 ρ2 a2 w2 hB hk3 hs2 (hx.trans hx2.ext) hS2⟩
 induction σ with
 | fin=>
  intro n listed G fr mem nx ρ a w hB h hs hx hS
  simp only[gsB,Bool.and_eq_true,decide_eq_true_eq,List.isEmpty_iff] at hB
  exact wpAnyH_done hB.2 (hK _ _ _ _ _ _ _ h hs) _
 | fix i r ih=>
  intro n listed G fr mem nx ρ a w hB h hs hx hS
  simp only[gsB,Bool.and_eq_true,decide_eq_true_eq] at hB
  obtain⟨⟨⟨hn,h1⟩,h2⟩,h3⟩:=hB
  obtain⟨m,rfl⟩:∃ m,n=m+1:=⟨n-1,by omega⟩
  replace h:gfixx τ ops memS i (gsx τ F ops memS r) G fr mem nx K:=h
  simp only[gfixx,putK_eq] at h
  cases ho:ops[i]? with
  | none=>rw[ho] at h;exact h.elim
  | some o=>
   rw[ho] at h
   simp only at h
   obtain⟨b,G',fr',hgo,hw,hf,-⟩:=gdx_sound h hs.fok
   have hs':=hs.frm hf
   cases b with
   | false=>
    have hrest:=ih m _ G' _ mem nx ρ _ w h3 hgo (hs'.put (d:=o.dst) (hd i o ho) okV_undef) hx hS
    rw[den_undef] at hrest
    exact wpAnyH_take ho hsel h1 h2 (fun c a w h=>hQ _ _ _ _ h) (.inr ⟨hw,rfl⟩) hS hrest
   | true=>
    simp only at hgo
    obtain⟨v,hgo,hok,hy⟩:=fvx_held (P:=P) (ops:=ops) hτ hH hx hf.left hS hw hgo
    have hrest:=ih m _ G' _ mem nx ρ _ w h3 hgo (hs'.put (d:=o.dst) (hd i o ho) hok) hx hS
    exact wpAnyH_take ho hsel h1 h2 (fun c a w h=>hQ _ _ _ _ h) hy hS hrest
 | act i r ih=>
  intro n listed G fr mem nx ρ a w hB h hs hx hS
  simp only[gsB,Bool.and_eq_true,decide_eq_true_eq] at hB
  obtain⟨⟨hn,h1⟩,h3⟩:=hB
  obtain⟨m,rfl⟩:∃ m,n=m+1:=⟨n-1,by omega⟩
  refine wpAnyH_all h1 (by simp) fun j hj=>?_
  obtain rfl:j=i:=by simpa using hj
  exact act j r ih m _ G fr mem nx ρ a w h3 h hs hx hS
 | two i r j s ihi ihj=>
  intro n listed G fr mem nx ρ a w hB h hs hx hS
  simp only[gsB,Bool.and_eq_true,decide_eq_true_eq] at hB
  obtain⟨⟨⟨hn,h1⟩,h3⟩,h4⟩:=hB
  obtain⟨m,rfl⟩:∃ m,n=m+1:=⟨n-1,by omega⟩
  refine wpAnyH_all h1 (by simp) fun q hq=>?_
  rcases List.mem_cons.1 hq with rfl | hq
  ·exact act q r ihi m _ G fr mem nx ρ a w h3 h.1 hs hx hS
  ·obtain rfl:q=j:=by simpa using hq
   exact act q s ihj m _ G fr mem nx ρ a w h4 h.2 hs hx hS
 | three i r j s k t ihi ihj ihk=>
  intro n listed G fr mem nx ρ a w hB h hs hx hS
  simp only[gsB,Bool.and_eq_true,decide_eq_true_eq] at hB
  obtain⟨⟨⟨⟨hn,h1⟩,h3⟩,h4⟩,h5⟩:=hB
  obtain⟨m,rfl⟩:∃ m,n=m+1:=⟨n-1,by omega⟩
  refine wpAnyH_all h1 (by simp) fun q hq=>?_
  rcases List.mem_cons.1 hq with rfl | hq
  ·exact act q r ihi m _ G fr mem nx ρ a w h3 h.1 hs hx hS
  ·rcases List.mem_cons.1 hq with rfl | hq
   ·exact act q s ihj m _ G fr mem nx ρ a w h4 h.2.1 hs hx hS
   ·obtain rfl:q=k:=by simpa using hq
    exact act q t ihk m _ G fr mem nx ρ a w h5 h.2.2 hs hx hS
theorem gregx_sound {I:List Nat} {ρ:Nat→Pl} {fr:AF} {mem:AM} {nx:Nat} {a:Act} {w:World} (hτ:TTok P τ) (hF:FTokI P F I) (hfm:C.fm=[]) (hm:P.follows .mixedOrders=true) (hQ:NoPanic Q) {l:List Oper} {k:Nat} {L:List Nat} {σ:GS} (hB:gregB l k σ=true) (hd:∀ o ∈ l,∀ i,o.dst=some i→i<C.nt) {id:Nat} {K:AF→AM→Nat→Prop}
  (h:gregx τ F l k L σ fr mem nx K) (hs:Sat C ρ fr mem nx a w) (hK:∀ fr' mem' nx' ρ' a' w',K fr' mem' nx'→Sat C ρ' fr' mem' nx' a' w'→Q .normal a' w'):(Code.region id l.toArray true).wp P Q a w:=by
 simp only[gregB,Bool.and_eq_true] at hB
 obtain⟨⟨hlast,hsel⟩,hg⟩:=hB
 have hsd:=hs.drew
 have hdk:∀ (i:Nat) (o:Oper),(l.take k).toArray[i]?=some o→∀ j,o.dst=some j→j<C.nt:=fun i o ho=>hd o (by
  have:(l.take k)[i]?=some o:=by simpa using ho
  exact List.mem_of_mem_take (List.mem_of_getElem? this))
 have hH:Held C ρ nx (sel mem L) w.drew:=⟨fun i b hi=>hsd.blk i b (lk_app (sel_lk i b hi)),fun i b hi=>hsd.mlt i b (lk_app (sel_lk i b hi))⟩
 have hQ2:∀ c a a' w,thenK (fun a w=>wpList P l.toArray Q (l.drop k) a w) Q (.panic c) a w→thenK (fun a w=>wpList P l.toArray Q (l.drop k) a w) Q (.panic c) a' w:=fun c a a' w hq=>(hQ c a w hq).elim
 refine wp_region_last k hm hlast (wpAny_of_held (S:=HeldS C ρ nx (sel mem L)) _ _ _ _ ?_)
 refine gsx_sound (Q:=thenK (fun a w=>wpList P l.toArray Q (l.drop k) a w) Q) hτ hF hfm hsel hdk hQ2 hH ?_ σ k _ [] fr mem nx ρ a w.drew hg h hsd (Ext.refl _ _) hH.blk
 intro G2 fr2 mem2 nx2 ρ2 a2 w2 hk2 hs3
 show wpList P l.toArray Q (l.drop k) a2 w2
 exact opsx_sound hτ hF hfm (l.drop k) (fun o ho=>hd o (List.mem_of_mem_drop ho)) G2 fr2 mem2 nx2 ρ2 a2 w2 hk2 hs3 (fun fr' mem' nx' ρ' a' w' hk hs _=>hK fr' mem' nx' ρ' a' w' hk hs)
end
def nm1 (n:Nat):Value→Bool
 | .pointer (some a)=>decide (a.block<n)
 | .slice (some a) _ _=>decide (a.block<n)
 | .map (some i)=>decide (i<n)
 | _=>true
def nm2 (n:Nat):Value→Bool
 | .agg cs=>cs.toList.all (nm1 n)
 | v=>nm1 n v
def nmV (n:Nat):Value→Bool
 | .tuple vs=>vs.toList.all (nm2 n)
 | .func _ a b=>a.toList.all (nm1 n)&&b.toList.all (nm1 n)
 | v=>nm2 n v
def nmB (n:Nat):ABlk→Bool
 | .box _ cs=>cs.all (nm1 n)
 | .row _ _ _ _=>true
 | .ext (.deep _ _ _ _ _ u)=>decide (u<n)
 | .ext _=>true
def nmF (n:Nat) (fr:AF):Bool:=fr.all fun p=>nmV n p.2
def nmM (n:Nat) (mem:AM):Bool:=mem.all fun p=>decide (p.1<n)&&nmB n p.2
/-! Names of rows may change where ways meet. -/
def rnm (σ:List (Nat×Nat)) (i:Nat):Nat:=match lk σ i with | some j=>j | none=>i
def rn1 (σ:List (Nat×Nat)):Value→Value
 | .pointer (some ⟨b,o,s⟩)=>.pointer (some ⟨rnm σ b,o,s⟩)
 | .slice (some ⟨b,o,s⟩) n c=>.slice (some ⟨rnm σ b,o,s⟩) n c
 | .map (some i)=>.map (some (rnm σ i))
 | v=>v
def rn2 (σ:List (Nat×Nat)):Value→Value
 | .agg cs=>.agg (cs.toList.map (rn1 σ)).toArray
 | v=>rn1 σ v
def rnV (σ:List (Nat×Nat)):Value→Value
 | .tuple vs=>.tuple (vs.toList.map (rn2 σ)).toArray
 | .func f a b=>.func f (a.toList.map (rn1 σ)).toArray (b.toList.map (rn1 σ)).toArray
 | v=>rn2 σ v
def rnB (σ:List (Nat×Nat)):ABlk→ABlk
 | .box t cs=>.box t (cs.map (rn1 σ))
 | .row t sz n el=>.row t sz n el
 | .ext (.deep t sz n cap el u)=>.ext (.deep t sz n cap el (rnm σ u))
 | .ext e=>.ext e
def subFR (fr:AF) (σ:List (Nat×Nat)) (f:AF):Prop:=List.rec (motive:=fun _=>Prop) True (fun p _ ih=>lk fr p.1=some (rnV σ p.2)∧ih) f
def keepsR (mem:AM) (σ:List (Nat×Nat)) (m:AM):Prop:=List.rec (motive:=fun _=>Prop) True (fun p _ ih=>lk mem (rnm σ p.1)=some (rnB σ p.2)∧ih) m
def exB:ABlk→Bool
 | .box _ _=>true
 | .row t _ _ _=>ownT t
 | .ext (.deep t _ _ _ _ _)=>ownT t
 | .ext (.fam _ _)=>false
 | .ext (.map _ _ _)=>true
def exN:AM→List Nat
 | []=>[]
 | (i,b)::r=>(match exB b with | true=>i::exN r | false=>exN r)
def noBox (σ:List (Nat×Nat)) (m:AM):Bool:=(exN m).all fun i=>(exN m).all fun j=>Nat.beq i j||!(Nat.beq (rnm σ i) (rnm σ j))
def rnLow (n:Nat) (σ:List (Nat×Nat)):Bool:=σ.all fun p=>decide (n≤p.1)
section
variable {C:Ctx} {ρ:Nat→Pl} {fr:AF} {mem:AM} {nx:Nat} {a:Act} {w:World} {σ:List (Nat×Nat)}
theorem lk_mem {α:Type}:∀ {l:List (Nat×α)} {n:Nat} {v:α},lk l n=some v→(n,v) ∈ l
 | [],n,v,h=>by simp[lk] at h
 | (k,u)::l,n,v,h=>by
  rcases lk_cons h with⟨rfl,rfl⟩ | ⟨_,h⟩
  ·exact List.mem_cons_self ..
  ·exact List.mem_cons_of_mem _ (lk_mem h)
theorem nm1_ok {n:Nat} {v:Value} (h:ok1 ρ nx v) (hn:nm1 n v=true):ok1 ρ n v:=by
 cases v with
 | pointer p=>cases p with
  | none=>trivial
  | some ad=>exact⟨⟨by simpa [nm1] using hn,h.1.2⟩,h.2⟩
 | slice p k c=>cases p with
  | none=>trivial
  | some ad=>exact⟨by simpa [nm1] using hn,h.2⟩
 | map p=>cases p with
  | none=>trivial
  | some i=>exact⟨⟨by simpa [nm1] using hn,h.1.2⟩,h.2⟩
 | _=>trivial
theorem nm2_ok {n:Nat} {v:Value} (h:ok2 ρ nx v) (hn:nm2 n v=true):ok2 ρ n v:=by
 cases v with
 | agg cs=>intro u hu;exact nm1_ok (h u hu) (by simp only[nm2,List.all_eq_true] at hn;exact hn u (by simpa using hu))
 | pointer p=>exact nm1_ok (v:=.pointer p) h hn
 | slice p k c=>exact nm1_ok (v:=.slice p k c) h hn
 | map p=>exact nm1_ok (v:=.map p) h hn
 | _=>trivial
theorem nmV_ok {n:Nat} {v:Value} (h:okV ρ nx v) (hn:nmV n v=true):okV ρ n v:=by
 cases v with
 | tuple vs=>intro u hu;exact nm2_ok (h u hu) (by simp only[nmV,List.all_eq_true] at hn;exact hn u (by simpa using hu))
 | agg cs=>exact nm2_ok (v:=.agg cs) h hn
 | pointer p=>exact nm2_ok (v:=.pointer p) h hn
 | slice p k c=>exact nm2_ok (v:=.slice p k c) h hn
 | map p=>exact nm2_ok (v:=.map p) h hn
 | func f a b=>
  simp only[nmV,Bool.and_eq_true,List.all_eq_true] at hn
  exact⟨fun u hu=>nm1_ok (h.1 u hu) (hn.1 u (by simpa using hu)),fun u hu=>nm1_ok (h.2 u hu) (hn.2 u (by simpa using hu))⟩
 | _=>trivial
theorem den1_rn (v:Value):den1 (fun i=>ρ (rnm σ i)) v=den1 ρ (rn1 σ v):=by
 cases v with
 | pointer p=>cases p<;>rfl
 | slice p k c=>cases p<;>rfl
 | map p=>cases p<;>rfl
 | _=>rfl
theorem den2_rn (v:Value):den2 (fun i=>ρ (rnm σ i)) v=den2 ρ (rn2 σ v):=by
 cases v with
 | agg cs=>
  simp only[den2,rn2]
  congr 1
  apply Array.toList_inj.1
  simp[Function.comp_def,den1_rn]
 | pointer p=>cases p<;>rfl
 | slice p k c=>cases p<;>rfl
 | map p=>cases p<;>rfl
 | _=>rfl
theorem den_rn (v:Value):den (fun i=>ρ (rnm σ i)) v=den ρ (rnV σ v):=by
 cases v with
 | tuple cs=>
  simp only[den,rnV]
  congr 1
  apply Array.toList_inj.1
  simp[Function.comp_def,den2_rn]
 | func f a b=>
  have e:∀ c:Array Value,c.map (den1 fun i=>ρ (rnm σ i))=(c.toList.map (rn1 σ)).toArray.map (den1 ρ):=by
   intro c
   apply Array.toList_inj.1
   simp[Function.comp_def,den1_rn]
  simp only[den,rnV]
  rw[e a,e b]
 | agg cs=>exact den2_rn (.agg cs)
 | pointer p=>cases p<;>rfl
 | slice p k c=>cases p<;>rfl
 | map p=>cases p<;>rfl
 | _=>rfl
theorem ok1_rn {n:Nat} {v:Value} (h:ok1 ρ nx (rn1 σ v)) (hn:nm1 n v=true):ok1 (fun i=>ρ (rnm σ i)) n v:=by
 cases v with
 | pointer p=>cases p with
  | none=>trivial
  | some ad=>exact⟨⟨by simpa [nm1] using hn,h.1.2⟩,h.2⟩
 | slice p k c=>cases p with
  | none=>trivial
  | some ad=>exact⟨by simpa [nm1] using hn,h.2⟩
 | map p=>cases p with
  | none=>trivial
  | some i=>exact⟨⟨by simpa [nm1] using hn,h.1.2⟩,h.2⟩
 | _=>trivial
theorem ok2_rn {n:Nat} {v:Value} (h:ok2 ρ nx (rn2 σ v)) (hn:nm2 n v=true):ok2 (fun i=>ρ (rnm σ i)) n v:=by
 cases v with
 | agg cs=>intro u hu;exact ok1_rn (h _ (by simp;exact⟨u,hu,rfl⟩)) (by simp only[nm2,List.all_eq_true] at hn;exact hn u (by simpa using hu))
 | pointer p=>cases p with
  | none=>trivial
  | some ad=>exact ok1_rn (v:=.pointer (some ad)) h hn
 | slice p k c=>cases p with
  | none=>trivial
  | some ad=>exact ok1_rn (v:=.slice (some ad) k c) h hn
 | map p=>cases p with
  | none=>trivial
  | some i=>exact ok1_rn (v:=.map (some i)) h hn
 | _=>trivial
theorem okV_rn {n:Nat} {v:Value} (h:okV ρ nx (rnV σ v)) (hn:nmV n v=true):okV (fun i=>ρ (rnm σ i)) n v:=by
 cases v with
 | tuple vs=>intro u hu;exact ok2_rn (h _ (by simp;exact⟨u,hu,rfl⟩)) (by simp only[nmV,List.all_eq_true] at hn;exact hn u (by simpa using hu))
 | agg cs=>exact ok2_rn (v:=.agg cs) h hn
 | pointer p=>cases p with
  | none=>trivial
  | some ad=>exact ok1_rn (v:=.pointer (some ad)) h hn
 | slice p k c=>cases p with
  | none=>trivial
  | some ad=>exact ok1_rn (v:=.slice (some ad) k c) h hn
 | map p=>cases p with
  | none=>trivial
  | some i=>exact ok1_rn (v:=.map (some i)) h hn
 | func f a b=>
  simp only[nmV,Bool.and_eq_true,List.all_eq_true] at hn
  exact⟨fun u hu=>ok1_rn (h.1 _ (by simp;exact⟨u,hu,rfl⟩)) (hn.1 u (by simpa using hu)),fun u hu=>ok1_rn (h.2 _ (by simp;exact⟨u,hu,rfl⟩)) (hn.2 u (by simpa using hu))⟩
 | _=>trivial
theorem subFR_lk:∀ {f:AF},subFR fr σ f→∀ t v,lk f t=some v→lk fr t=some (rnV σ v)
 | [],_,t,v,h=>by simp[lk] at h
 | (k,u)::l,hs,t,v,h=>by
  rcases lk_cons h with⟨rfl,rfl⟩ | ⟨_,h⟩
  ·exact hs.1
  ·exact subFR_lk hs.2 t v h
theorem keepsR_lk:∀ {m:AM},keepsR mem σ m→∀ i b,lk m i=some b→lk mem (rnm σ i)=some (rnB σ b)
 | [],_,t,v,h=>by simp[lk] at h
 | (k,u)::l,hs,t,v,h=>by
  rcases lk_cons h with⟨rfl,rfl⟩ | ⟨_,h⟩
  ·exact hs.1
  ·exact keepsR_lk hs.2 t v h
theorem exN_lk:∀ {m:AM} {i:Nat} {b:ABlk},lk m i=some b→exB b=true→i ∈ exN m
 | [],i,b,h,_=>by simp[lk] at h
 | (k,c)::l,i,b,h,hb=>by
  simp only[exN]
  rcases lk_cons h with⟨rfl,rfl⟩ | ⟨_,h⟩
  ·rw[hb];exact List.mem_cons_self ..
  ·cases exB c
   ·exact exN_lk h hb
   ·exact List.mem_cons_of_mem _ (exN_lk h hb)
theorem noBox_ne {m:AM} (h:noBox σ m=true) {i j:Nat} {b b':ABlk} (hi:lk m i=some b) (hj:lk m j=some b') (hb:exB b=true) (hb':exB b'=true) (he:rnm σ i=rnm σ j):i=j:=by
 simp only[noBox,List.all_eq_true] at h
 have:=h i (exN_lk hi hb) j (exN_lk hj hb')
 rw[he,Nat.beq_refl] at this
 simp at this
 exact this
theorem rnm_low {n:Nat} (h:rnLow n σ=true) {i:Nat} (hi:i<n):rnm σ i=i:=by
 unfold rnm
 cases hl:lk σ i with
 | none=>rfl
 | some j=>
  simp only[rnLow,List.all_eq_true,decide_eq_true_eq] at h
  have:=h _ (lk_mem hl)
  simp only at this
  omega
theorem exB_rn (b:ABlk):exB (rnB σ b)=exB b:=by
 cases b with
 | ext e=>cases e<;>rfl
 | _=>rfl
theorem bwr_ex {i g:Nat} {b:ABlk} (h:bwr ρ i b g):exB b=true:=by
 cases b with
 | box t cs=>rfl
 | row t sz n el=>exact h.1
 | ext e=>cases e with
  | deep t sz n cap el u=>exact h.1
  | fam t sb=>exact h.elim
  | map kk ag f=>rfl
theorem bwr_rn {i g:Nat} {b:ABlk}:bwr (fun i=>ρ (rnm σ i)) i b g=bwr ρ (rnm σ i) (rnB σ b) g:=by
 cases b with
 | ext e=>cases e<;>rfl
 | _=>rfl
theorem brd_rn {i g:Nat} {b:ABlk}:brd (fun i=>ρ (rnm σ i)) i b g=brd ρ (rnm σ i) (rnB σ b) g:=by
 cases b with
 | ext e=>cases e<;>rfl
 | _=>rfl
theorem Sat.rename (hC:C.ff=[]∧C.fm=[]) (h:Sat C ρ fr mem nx a w) {fr':AF} {mem':AM} {m n:Nat} (hm0:C.n0≤m) (hlow:rnLow m σ=true) (hn:C.n0≤n) (hf:subFR fr σ fr') (hm:keepsR mem σ mem') (hnb:noBox σ mem'=true) (hnf:nmF n fr'=true) (hnm:nmM n mem'=true) :
  Sat C (fun i=>ρ (rnm σ i)) fr' mem' n a w:=by
 simp only[nmF,List.all_eq_true] at hnf
 simp only[nmM,List.all_eq_true,Bool.and_eq_true,decide_eq_true_eq] at hnm
 have efr:∀ {t v},lk (fr'++C.ff) t=some v→lk fr' t=some v:=fun hv=>by rw[hC.1,List.append_nil] at hv;exact hv
 have emm:∀ {i b},lk (mem'++C.fm) i=some b→lk mem' i=some b:=fun hv=>by rw[hC.2,List.append_nil] at hv;exact hv
 have old:∀ {i b},lk (mem'++C.fm) i=some b→lk (mem++C.fm) (rnm σ i)=some (rnB σ b):=fun hv=>lk_app (keepsR_lk hm _ _ (emm hv))
 have hblk:∀ i b,lk (mem'++C.fm) i=some b→BlkOk C (fun i=>ρ (rnm σ i)) n i w b:=by
  intro i b hi
  have hb:=h.blk _ _ (old hi)
  have h2:=(hnm _ (lk_mem (emm hi))).2
  cases b with
  | box t cs=>
   obtain⟨g,e1,e2,e3,e4⟩:=hb
   simp only[nmB,List.all_eq_true] at h2
   refine⟨g,e1,?_,e3,fun v hv=>ok1_rn (e4 _ (List.mem_map_of_mem hv)) (h2 v hv)⟩
   have:cs.map (den1 fun i=>ρ (rnm σ i))=(cs.map (rn1 σ)).map (den1 ρ):=by simp[Function.comp_def,den1_rn]
   rw[this]
   exact e2
  | row t sz k el=>exact hb
  | ext eb=>cases eb with
   | fam t sb=>exact hb
   | map kk ag f=>exact hb
   | deep t sz k cap el u=>
    simp only[nmB,decide_eq_true_eq] at h2
    obtain⟨e1,e2,e3,e4⟩:=hb
    exact⟨e1,⟨h2,e2.2⟩,e3,e4.imp id fun⟨hn,b,off,hA,hlt,hcap,hc⟩=>⟨hn,b,off,hA,hlt,hcap,fun k hk j v hv=>by
     rw[hc k hk j v hv]
     cases v with
     | slice A _ _=>cases A<;>rfl
     | pointer p=>cases p with
      | none=>rfl
      | some ad=>exact ((e3 k hk).2 _ (List.mem_of_getElem? hv)).elim
     | map p=>cases p with
      | none=>rfl
      | some ad=>exact ((e3 k hk).2 _ (List.mem_of_getElem? hv)).elim
     | _=>rfl⟩⟩
 refine⟨⟨fun t v hv=>?_,fun t v hv=>?_⟩,h.sz,h.dfr,fun i b hi=>?_,hblk,fun i j b b' hne hi hj=>?_,hn,fun i hi=>?_,h.rest⟩
 ·rw[den_rn]
  exact h.fok.frm t _ (lk_app (subFR_lk hf t v (efr hv)))
 ·exact okV_rn (h.fok.frk t _ (lk_app (subFR_lk hf t v (efr hv)))) (hnf _ (lk_mem (efr hv)))
 ·exact⟨(hnm _ (lk_mem (emm hi))).1,(h.mlt _ _ (old hi)).2⟩
 ·refine (hblk i b hi).apart fun g hg hg2=>?_
  rw[bwr_rn] at hg
  rw[brd_rn] at hg2
  have h1:=old hi
  have h2:=old hj
  by_cases he:rnm σ i=rnm σ j
  ·rw[he,h2] at h1
   have hx:=bwr_ex hg
   have hx2:exB b'=true:=by rw[← exB_rn (σ:=σ),Option.some.inj h1];exact hx
   rw[exB_rn] at hx
   exact hne (noBox_ne hnb (emm hi) (emm hj) hx hx2 he)
  ·exact (h.sep _ _ _ _ he h1 h2).wr (h.sep _ _ _ _ (Ne.symm he) h2 h1) hg hg2
 ·show ρ (rnm σ i)=_
  rw[rnm_low hlow (Nat.lt_of_lt_of_le hi hm0)]
  exact h.low i hi
end
structure DQ extends DP where
 g:Option GS:=none
 sl:List Nat:=[]
inductive Ex where
 | normal
 | exit (n:Nat)
 | ret
def Ex.to:Ex→Exit
 | .normal=>.normal
 | .exit n=>.exit n
 | .ret=>.ret
def subF (fr:AF) (f:AF):Prop:=List.rec (motive:=fun _=>Prop) True (fun p _ ih=>lk fr p.1=some p.2∧ih) f
def regx (τ:TT) (F:FT) (D:List (Nat×DQ)) (id:Nat) (ops:Array Oper) (draw:Bool) (fr:AF) (mem:AM) (nx:Nat) (K:Ex→AF→AM→Nat→Prop):Prop:=
 match draw with
 | false=>opsx τ F ops ops.toList [] fr mem nx (K .normal)
 | true=>(match lk D id with
  | some d=>(match d.g with
   | none=>dregx τ F ops.toList d.toDP fr mem nx (K .normal)
   | some σ=>gregx τ F ops.toList d.k d.L σ fr mem nx (K .normal))
  | none=>False)
def seqK (K:Ex→AF→AM→Nat→Prop) (next:AF→AM→Nat→Prop) (e:Ex) (fr:AF) (mem:AM) (nx:Nat):Prop:=match e with | .normal=>next fr mem nx | .exit i=>K (.exit i) fr mem nx | .ret=>K .ret fr mem nx
def blockK (id:Nat) (K:Ex→AF→AM→Nat→Prop) (e:Ex) (fr:AF) (mem:AM) (nx:Nat):Prop:=match e with | .exit i=>(match Nat.beq i id with | true=>K .normal fr mem nx | false=>K (.exit i) fr mem nx) | .normal=>K .normal fr mem nx | .ret=>K .ret fr mem nx
def setC (c:Operand) (b:Bool) (fr:AF):AF:=match c with | .tmp d=>(d,.bool b)::fr | _=>fr
def condx (c:Operand) (fr:AF) (A B:AF→Prop):Prop:=match ev fr c with | some (.bool t)=>(t=true→A (setC c true fr))∧(t=false→B (setC c false fr)) | _=>False
abbrev SX:=AF→AM→Nat→(Ex→AF→AM→Nat→Prop)→Prop
def selK (fr:AF) (slots:List Nat) (k:AF→Prop):Prop:=List.rec (motive:=fun _=>AF→Prop) (fun acc=>k acc) (fun t _ ih acc=>match lk fr t with | some v=>ih ((t,v)::acc) | none=>ih acc) slots []
def selMK (mem:AM) (names:List Nat) (k:AM→Prop):Prop:=List.rec (motive:=fun _=>AM→Prop) (fun acc=>k acc) (fun t _ ih acc=>match lk mem t with | some v=>ih ((t,v)::acc) | none=>ih acc) names []
theorem selK_some {fr:AF} {slots:List Nat} {k:AF→Prop} (h:selK fr slots k):∃ f,k f:=by
 have:∀ (l:List Nat) (acc:AF),(List.rec (motive:=fun _=>AF→Prop) (fun acc=>k acc) (fun t _ ih acc=>match lk fr t with | some v=>ih ((t,v)::acc) | none=>ih acc) l acc:Prop)→∃ f,k f:=by
  intro l
  induction l with
  | nil=>intro acc h;exact⟨acc,h⟩
  | cons t l ih=>
   intro acc h
   simp only at h
   cases hl:lk fr t with
   | none=>rw[hl] at h;exact ih _ h
   | some v=>rw[hl] at h;exact ih _ h
 exact this slots [] h
theorem selMK_some {mem:AM} {names:List Nat} {k:AM→Prop} (h:selMK mem names k):∃ f,k f:=by
 have:∀ (l:List Nat) (acc:AM),(List.rec (motive:=fun _=>AM→Prop) (fun acc=>k acc) (fun t _ ih acc=>match lk mem t with | some v=>ih ((t,v)::acc) | none=>ih acc) l acc:Prop)→∃ f,k f:=by
  intro l
  induction l with
  | nil=>intro acc h;exact⟨acc,h⟩
  | cons t l ih=>
   intro acc h
   simp only at h
   cases hl:lk mem t with
   | none=>rw[hl] at h;exact ih _ h
   | some v=>rw[hl] at h;exact ih _ h
 exact this names [] h
def loopx (d:DQ) (body:SX) (fr:AF) (mem:AM) (nx:Nat) (K:Ex→AF→AM→Nat→Prop):Prop:=
 selK fr d.sl fun fr0=>selMK mem d.L fun mem0=>∃ (α:Type) (newF:α→AF) (newM:α→AM) (inv:α→Prop) (μ:α→Nat),(∃ x,inv x∧subF fr (newF x++fr0)∧keeps mem (newM x++mem0))∧
   ∀ x,inv x→(nmF nx (newF x++fr0)=true∧nmM nx (newM x++mem0)=true)∧body (newF x++fr0) (newM x++mem0) nx (seqK K fun fr' mem' _=>∃ y,(inv y∧μ y<μ x)∧subF fr' (newF y++fr0)∧keeps mem' (newM y++mem0))
abbrev relK (k nx:Nat):Nat:=match Nat.ble 1000000 k with | true=>nx+(k-1000000) | false=>k
def cutx (d:DQ) (ia ib:SX) (fr:AF) (mem:AM) (nx:Nat) (K:Ex→AF→AM→Nat→Prop):Prop:=
 selK fr d.sl fun fr0=>selMK mem d.L fun mem0=>∃ (α:Type) (newF:α→AF) (newM:α→AM) (inv:α→Prop),ia fr mem nx (seqK K fun fr' mem' _=>∃ y,inv y∧subF fr' (newF y++fr0)∧keeps mem' (newM y++mem0))∧
   ∀ y,inv y→(nx≤relK d.k nx∧nmF (relK d.k nx) (newF y++fr0)=true∧nmM (relK d.k nx) (newM y++mem0)=true)∧ib (newF y++fr0) (newM y++mem0) (relK d.k nx) K
def looprx (d:DQ) (body:SX) (fr:AF) (mem:AM) (nx:Nat) (K:Ex→AF→AM→Nat→Prop):Prop:=
 selK fr d.sl fun fr0=>selMK mem d.L fun mem0=>∃ (α:Type) (newF:α→AF) (newM:α→AM) (inv:α→Prop) (μ:α→Nat),(∃ x σ,inv x∧(rnLow nx σ=true∧noBox σ (newM x++mem0)=true)∧subFR fr σ (newF x++fr0)∧keepsR mem σ (newM x++mem0))∧
   ∀ x,inv x→(nx≤relK d.k nx∧nmF (relK d.k nx) (newF x++fr0)=true∧nmM (relK d.k nx) (newM x++mem0)=true)∧body (newF x++fr0) (newM x++mem0) (relK d.k nx) (seqK K fun fr' mem' _=>∃ y σ,(inv y∧μ y<μ x)∧(rnLow nx σ=true∧noBox σ (newM y++mem0)=true)∧subFR fr' σ (newF y++fr0)∧keepsR mem' σ (newM y++mem0))
def cutrx (d:DQ) (ia ib:SX) (fr:AF) (mem:AM) (nx:Nat) (K:Ex→AF→AM→Nat→Prop):Prop:=
 selK fr d.sl fun fr0=>selMK mem d.L fun mem0=>∃ (α:Type) (newF:α→AF) (newM:α→AM) (inv:α→Prop),ia fr mem nx (seqK K fun fr' mem' _=>∃ y σ,inv y∧(rnLow nx σ=true∧noBox σ (newM y++mem0)=true)∧subFR fr' σ (newF y++fr0)∧keepsR mem' σ (newM y++mem0))∧
   ∀ y,inv y→(nx≤relK d.k nx∧nmF (relK d.k nx) (newF y++fr0)=true∧nmM (relK d.k nx) (newM y++mem0)=true)∧ib (newF y++fr0) (newM y++mem0) (relK d.k nx) K
def firstR:Code→Option Nat
 | .region id _ _=>some id
 | .seq a b=>(match firstR a with | some r=>some r | none=>firstR b)
 | .block _ a=>firstR a
 | .loop a=>firstR a
 | .scope a=>firstR a
 | _=>none
def condR:Code→Option Nat
 | .cond _ a b=>(match firstR a with | some r=>some r | none=>firstR b)
 | .seq a _=>condR a
 | _=>none
def isCut (D:List (Nat×DQ)) (c:Code):Option DQ:=match (match firstR c with | some r=>lk D (1000000+r) | none=>none) with
 | some d=>some d
 | none=>(match condR c with | some r=>lk D (5000000+r) | none=>none)
def isLoop (D:List (Nat×DQ)) (c:Code):Option DQ:=match firstR c with | some r=>lk D (2000000+r) | none=>none
def isLoopR (D:List (Nat×DQ)) (c:Code):Option DQ:=match firstR c with | some r=>lk D (3000000+r) | none=>none
def isCutR (D:List (Nat×DQ)) (c:Code):Option DQ:=match firstR c with | some r=>lk D (4000000+r) | none=>none
def sx (τ:TT) (F:FT) (D:List (Nat×DQ)) (c:Code):SX:=
 Code.rec (motive:=fun _=>SX)
  (fun fr mem nx K=>K .normal fr mem nx)
  (fun id ops draw fr mem nx K=>regx τ F D id ops draw fr mem nx K)
  (fun _ b ia ib fr mem nx K=>match isCut D b with
   | none=>(match isCutR D b with
    | none=>ia fr mem nx (seqK K fun fr' mem' nx'=>ib fr' mem' nx' K)
    | some d=>cutrx d ia ib fr mem nx K)
   | some d=>cutx d ia ib fr mem nx K)
  (fun c _ _ ia ib fr mem nx K=>condx c fr (fun fr'=>ia fr' mem nx K) (fun fr'=>ib fr' mem nx K))
  (fun id _ ia fr mem nx K=>ia fr mem nx (blockK id K))
  (fun c ia fr mem nx K=>match isLoop D c with | some d=>loopx d ia fr mem nx K | none=>(match isLoopR D c with | some d=>looprx d ia fr mem nx K | none=>False))
  (fun _ _ _ _ _ _ _ _ _ _=>False)
  (fun id fr mem nx K=>K (.exit id) fr mem nx)
  (fun _ ia fr mem nx K=>ia fr mem nx K)
  (fun _ fr mem nx K=>K .normal fr mem nx)
  (fun _ _ _ _ _=>False)
  (fun fr mem nx K=>K .ret fr mem nx)
  (fun _ _ _ _ _=>False) c
def inlOf (D:List (Nat×DQ)):List Nat:=match lk D 9000000 with | some d=>d.L | none=>[]
def codeB (nt:Nat) (D:List (Nat×DQ)):Code→Bool
 | .region id ops draw=>(ops.toList.all fun o=>match o.dst with | some d=>decide (d<nt) | none=>true)&&(match draw with
  | false=>true
  | true=>(match lk D id with | some d=>(match d.g with | none=>dregB ops.toList d.toDP&&(match d.A with | []=>true | _::_=>ops.toList.all fun o=>inlOk (inlOf D) o.op) | some σ=>gregB ops.toList d.k σ) | none=>false))
 | .seq a b=>codeB nt D a&&codeB nt D b
 | .cond _ a b=>codeB nt D a&&codeB nt D b
 | .block _ a=>codeB nt D a
 | .loop a=>codeB nt D a
 | .scope a=>codeB nt D a
 | _=>true
section
variable {P:Program} {τ:TT} {F:FT} {D:List (Nat×DQ)} {C:Ctx} {ρ:Nat→Pl} {fr:AF} {mem:AM} {nx:Nat} {a:Act} {w:World}
theorem subF_lk:∀ {f:AF},subF fr f→∀ t v,lk f t=some v→lk fr t=some v
 | [],_,t,v,h=>by simp[lk] at h
 | (k,u)::l,hs,t,v,h=>by
  rcases lk_cons h with⟨rfl,rfl⟩ | ⟨_,h⟩
  ·exact hs.1
  ·exact subF_lk hs.2 t v h
theorem Sat.lower (hC:C.ff=[]∧C.fm=[]) (h:Sat C ρ fr mem nx a w) {n:Nat} (hf:nmF n fr=true) (hm:nmM n mem=true) (hn:C.n0≤n):Sat C ρ fr mem n a w:=by
 simp only[nmF,List.all_eq_true] at hf
 simp only[nmM,List.all_eq_true,Bool.and_eq_true,decide_eq_true_eq] at hm
 refine⟨⟨h.fok.frm,fun t v hv=>?_⟩,h.sz,h.dfr,fun i b hi=>?_,fun i b hi=>?_,h.sep,hn,h.low,h.rest⟩
 ·have hv':=hv
  rw[hC.1,List.append_nil] at hv'
  exact nmV_ok (h.fok.frk t v hv) (hf _ (lk_mem hv'))
 ·have hi':=hi
  rw[hC.2,List.append_nil] at hi'
  exact⟨(hm _ (lk_mem hi')).1,(h.mlt i b hi).2⟩
 ·have hi':=hi
  rw[hC.2,List.append_nil] at hi'
  have h1:=h.blk i b hi
  have h2:=(hm _ (lk_mem hi')).2
  cases b with
  | box t cs=>
   obtain⟨g,e1,e2,e3,e4⟩:=h1
   simp only[nmB,List.all_eq_true] at h2
   exact⟨g,e1,e2,e3,fun v hv=>nm1_ok (e4 v hv) (h2 v hv)⟩
  | row t sz k el=>exact h1
  | ext eb=>cases eb with
   | fam t sb=>exact h1
   | map kk ag f=>exact h1
   | deep t sz k cap el u=>
    simp only[nmB,decide_eq_true_eq] at h2
    exact⟨h1.1,⟨h2,h1.2.1.2⟩,h1.2.2⟩
theorem loop_wp {x:Code} {Q:Exit→Act→World→Prop} {α:Type} {I:α→Act→World→Prop} (μ:α→Nat) (hround:∀ y a w,I y a w→x.wp P (Exit.then (fun a' w'=>∃ z,μ z<μ y∧I z a' w') Q) a w) {y:α} {a:Act} {w:World} (h:I y a w):(Code.loop x).wp P Q a w:=by
 have main:∀ n y,μ y=n→∀ a w,I y a w→∀ (b:Frame) (k:List Item) (cs:List Frame),
   ∃ e a' w',Q e a' w'∧Arrives P (lone (b.at a (.code x::.inLoop x::k)) cs w) b k cs e a' w':=by
  intro n
  induction n using Nat.strongRecOn with
  | _ n ih=>
   intro y hn a w hI b k cs
   obtain⟨e,a1,w1,hq,harr⟩:=hround y a w hI b (.inLoop x::k) cs
   cases e with
   | normal=>
    obtain⟨z,hlt,hiz⟩:=hq
    obtain⟨e2,a2,w2,hq2,harr2⟩:=ih (μ z) (by omega) z rfl a1 w1 hiz b k cs
    exact⟨e2,a2,w2,hq2,.of_steps (Steps.trans harr (.one step_inLoop)) harr2⟩
   | exit i=>exact⟨_,a1,w1,hq,.pass (x:=.inLoop x) rfl (fun _ _=>.inl (by simp)) harr⟩
   | goto l=>exact⟨_,a1,w1,hq,.pass (x:=.inLoop x) rfl (fun _ _=>.inl (by simp)) harr⟩
   | ret=>exact⟨_,a1,w1,hq,.pass (x:=.inLoop x) rfl (fun _ _=>.inl (by simp)) harr⟩
   | panic ch=>exact⟨_,a1,w1,hq,.pass (x:=.inLoop x) rfl (fun _ _=>.inl (by simp)) harr⟩
   | outgrown=>exact⟨_,a1,w1,hq,.pass (x:=.inLoop x) rfl (fun _ _=>.inl (by simp)) harr⟩
 intro b k cs
 obtain⟨e,a',w',hq,harr⟩:=main (μ y) y rfl a w h b k cs
 exact⟨e,a',w',hq,.of_steps (.one step_loop) harr⟩
theorem sx_sound (hτ:TTok P τ) (hF:FTokI P F (inlOf D)) (hmix:P.follows .mixedOrders=true) (hC:C.ff=[]∧C.fm=[]):∀ (c:Code),codeB C.nt D c=true→∀ (fr:AF) (mem:AM) (nx:Nat) (K:Ex→AF→AM→Nat→Prop) (ρ:Nat→Pl) (a:Act) (w:World) (Q:Exit→Act→World→Prop),
  sx τ F D c fr mem nx K→Sat C ρ fr mem nx a w→NoPanic Q→(∀ e fr' mem' nx' ρ' a' w',K e fr' mem' nx'→Sat C ρ' fr' mem' nx' a' w'→Q e.to a' w')→c.wp P Q a w:=by
 intro c
 induction c with
 | skip=>intro _ fr mem nx K ρ a w Q h hs hQ hK;exact wp_skip (hK .normal _ _ _ _ _ _ h hs)
 | label l=>intro _ fr mem nx K ρ a w Q h hs hQ hK;exact wp_label (hK .normal _ _ _ _ _ _ h hs)
 | region id ops draw=>
  intro hB fr mem nx K ρ a w Q h hs hQ hK
  simp only[codeB,Bool.and_eq_true,List.all_eq_true] at hB
  obtain⟨hd,hdr⟩:=hB
  have hd':∀ o ∈ ops.toList,∀ i,o.dst=some i→i<C.nt:=fun o ho i hi=>by
   have:=hd o ho
   rw[hi] at this
   simpa using this
  have e:ops=ops.toList.toArray:=by simp
  cases draw with
  | false=>
   replace h:opsx τ F ops ops.toList [] fr mem nx (K .normal):=h
   rw[e]
   refine wp_region_lit ?_
   rw[← e]
   exact opsx_sound hτ hF hC.2 ops.toList hd' [] fr mem nx ρ a w h hs (fun fr' mem' nx' ρ' a' w' hk hs' _=>hK .normal _ _ _ _ _ _ hk hs')
  | true=>
   replace h:(match lk D id with
    | some d=>(match d.g with
     | none=>dregx τ F ops.toList d.toDP fr mem nx (K .normal)
     | some σ=>gregx τ F ops.toList d.k d.L σ fr mem nx (K .normal))
    | none=>False):=h
   simp only at hdr
   cases hD:lk D id with
   | none=>rw[hD] at h;exact h.elim
   | some d=>
    rw[hD] at h hdr
    simp only at h hdr
    rw[e]
    cases hg:d.g with
    | none=>
     rw[hg] at h hdr
     simp only[Bool.and_eq_true] at hdr
     refine dregx_sound hτ hF hmix hQ hC (?_:d.A=[]∨∀ o ∈ ops.toList,inlOk (inlOf D) o.op=true) hdr.1 hd' h hs (fun fr' mem' nx' ρ' a' w' hk hs'=>hK .normal _ _ _ _ _ _ hk hs')
     cases hdA:d.A with
     | nil=>exact .inl rfl
     | cons x y=>
      have q:=hdr.2
      rw[hdA] at q
      exact .inr (List.all_eq_true.1 q)
    | some σ=>
     rw[hg] at h hdr
     exact gregx_sound hτ hF hC.2 hmix hQ hdr hd' h hs (fun fr' mem' nx' ρ' a' w' hk hs'=>hK .normal _ _ _ _ _ _ hk hs')
 | seq x y ihx ihy=>
  intro hB fr mem nx K ρ a w Q h hs hQ hK
  simp only[codeB,Bool.and_eq_true] at hB
  replace h:(match isCut D y with | none=>(match isCutR D y with | none=>sx τ F D x fr mem nx (seqK K fun fr' mem' nx'=>sx τ F D y fr' mem' nx' K) | some d=>cutrx d (sx τ F D x) (sx τ F D y) fr mem nx K) | some d=>cutx d (sx τ F D x) (sx τ F D y) fr mem nx K):=h
  cases hcut:isCut D y with
  | none=>
   rw[hcut] at h
   simp only at h
   cases hcr:isCutR D y with
   | none=>
    rw[hcr] at h
    refine wp_seq (ihx hB.1 fr mem nx _ ρ a w _ h hs (fun c a w hq=>hQ c a w hq) ?_)
    intro e fr' mem' nx' ρ' a' w' hk hs'
    cases e with
    | normal=>exact ihy hB.2 fr' mem' nx' K ρ' a' w' Q hk hs' hQ hK
    | exit i=>exact hK (.exit i) _ _ _ _ _ _ hk hs'
    | ret=>exact hK .ret _ _ _ _ _ _ hk hs'
   | some d=>
    rw[hcr] at h
    obtain⟨fr0,h⟩:=selK_some h
    obtain⟨mem0,α,newF,newM,inv,hfst,hsnd⟩:=selMK_some h
    refine wp_seq (ihx hB.1 fr mem nx _ ρ a w _ hfst hs (fun c a w hq=>hQ c a w hq) ?_)
    intro e fr' mem' nx' ρ' a' w' hk hs'
    cases e with
    | normal=>
     obtain⟨z,σ,hiz,⟨hlw,hnb⟩,hfz,hmz⟩:=hk
     obtain⟨⟨hnx,hnf,hnm⟩,hb⟩:=hsnd z hiz
     exact ihy hB.2 _ _ (relK d.k nx) K _ a' w' Q hb (hs'.rename hC hs.n0 hlw (Nat.le_trans hs.n0 hnx) hfz hmz hnb hnf hnm) hQ hK
    | exit i=>exact hK (.exit i) _ _ _ _ _ _ hk hs'
    | ret=>exact hK .ret _ _ _ _ _ _ hk hs'
  | some d=>
   rw[hcut] at h
   obtain⟨fr0,h⟩:=selK_some h
   obtain⟨mem0,α,newF,newM,inv,hfst,hsnd⟩:=selMK_some h
   refine wp_seq (ihx hB.1 fr mem nx _ ρ a w _ hfst hs (fun c a w hq=>hQ c a w hq) ?_)
   intro e fr' mem' nx' ρ' a' w' hk hs'
   cases e with
   | normal=>
    obtain⟨z,hiz,hfz,hmz⟩:=hk
    obtain⟨⟨hnx,hnf,hnm⟩,hb⟩:=hsnd z hiz
    have hless:Sat C ρ' (newF z++fr0) (newM z++mem0) nx' a' w':=hs'.less (fun t v hv=>by rw[hC.1,List.append_nil] at hv ⊢;exact subF_lk hfz t v hv) (fun i b hb=>by rw[hC.2,List.append_nil] at hb ⊢;exact keeps_lk hmz i b hb)
    exact ihy hB.2 _ _ (relK d.k nx) K ρ' a' w' Q hb (hless.lower hC hnf hnm (Nat.le_trans hs.n0 hnx)) hQ hK
   | exit i=>exact hK (.exit i) _ _ _ _ _ _ hk hs'
   | ret=>exact hK .ret _ _ _ _ _ _ hk hs'
 | cond c x y ihx ihy=>
  intro hB fr mem nx K ρ a w Q h hs hQ hK
  simp only[codeB,Bool.and_eq_true] at hB
  replace h:condx c fr (fun fr'=>sx τ F D x fr' mem nx K) (fun fr'=>sx τ F D y fr' mem nx K):=h
  unfold condx at h
  cases hc:ev fr c with
  | none=>rw[hc] at h;exact h.elim
  | some v=>
   rw[hc] at h
   cases v<;>simp only at h<;>first | exact h.elim | skip
   rename_i t
   have he:a.eval c=.bool t:=(ev_ok hs.fok.left hc).1
   have hset:∀ b:Bool,t=b→Sat C ρ (setC c b fr) mem nx a w:=by
    rintro b rfl
    cases c with
    | tmp d=>
     have hv:lk fr d=some (.bool t):=hc
     refine hs.frm ⟨fun u v hu=>?_,fun u v hu=>?_⟩
     ·rcases lk_cons (l:=fr++C.ff) hu with⟨rfl,rfl⟩ | ⟨_,hu⟩
      ·exact hs.fok.frm _ _ (lk_app hv)
      ·exact hs.fok.frm u v hu
     ·rcases lk_cons (l:=fr++C.ff) hu with⟨rfl,rfl⟩ | ⟨_,hu⟩
      ·trivial
      ·exact hs.fok.frk u v hu
    | _=>exact hs
   exact wp_cond_split he (fun ht=>ihx hB.1 _ mem nx K ρ a w Q (h.1 ht) (hset true ht) hQ hK) (fun ht=>ihy hB.2 _ mem nx K ρ a w Q (h.2 ht) (hset false ht) hQ hK)
 | block id x ihx=>
  intro hB fr mem nx K ρ a w Q h hs hQ hK
  simp only[codeB] at hB
  replace h:sx τ F D x fr mem nx (blockK id K):=h
  refine wp_block (ihx hB fr mem nx _ ρ a w _ h hs (fun c a w hq=>hQ c a w hq) ?_)
  intro e fr' mem' nx' ρ' a' w' hk hs'
  cases e with
  | normal=>exact hK .normal _ _ _ _ _ _ hk hs'
  | ret=>exact hK .ret _ _ _ _ _ _ hk hs'
  | exit i=>
   simp only[blockK] at hk
   show Exit.inBlock id Q (.exit i) a' w'
   simp only[Exit.inBlock]
   cases hb:Nat.beq i id with
   | true=>
    rw[hb] at hk
    rw[if_pos (Nat.eq_of_beq_eq_true hb)]
    exact hK .normal _ _ _ _ _ _ hk hs'
   | false=>
    rw[hb] at hk
    rw[if_neg (by rintro rfl;rw[Nat.beq_refl] at hb;cases hb)]
    exact hK (.exit i) _ _ _ _ _ _ hk hs'
 | loop x ihx=>
  intro hB fr mem nx K ρ a w Q h hs hQ hK
  simp only[codeB] at hB
  replace h:(match isLoop D x with | some d=>loopx d (sx τ F D x) fr mem nx K | none=>(match isLoopR D x with | some d=>looprx d (sx τ F D x) fr mem nx K | none=>False)):=h
  cases hlp:isLoop D x with
  | none=>
   rw[hlp] at h
   simp only at h
   cases hlr:isLoopR D x with
   | none=>rw[hlr] at h;exact h.elim
   | some d=>
    rw[hlr] at h
    obtain⟨fr0,h⟩:=selK_some h
    obtain⟨mem0,α,newF,newM,inv,μ,⟨x0,σ0,hi0,⟨hlw0,hnb0⟩,hf0,hm0⟩,hround⟩:=selMK_some h
    refine loop_wp (I:=fun y a w=>inv y∧∃ ρ,Sat C ρ (newF y++fr0) (newM y++mem0) (relK d.k nx) a w) μ ?_ (y:=x0) ?_
    ·rintro y a w ⟨hi,ρ,hsy⟩
     obtain⟨⟨hnx,hnf,hnm⟩,hbody⟩:=hround y hi
     refine ihx hB (newF y++fr0) (newM y++mem0) (relK d.k nx) _ ρ a w _ hbody hsy (fun c a w hq=>hQ c a w hq) ?_
     intro e fr' mem' nx' ρ' a' w' hk hs'
     cases e with
     | normal=>
      obtain⟨z,σ,⟨hiz,hμ⟩,⟨hlw,hnb⟩,hfz,hmz⟩:=hk
      obtain⟨⟨-,hnfz,hnmz⟩,-⟩:=hround z hiz
      exact⟨z,hμ,hiz,_,hs'.rename hC hs.n0 hlw (Nat.le_trans hs.n0 hnx) hfz hmz hnb hnfz hnmz⟩
     | exit i=>exact hK (.exit i) _ _ _ _ _ _ hk hs'
     | ret=>exact hK .ret _ _ _ _ _ _ hk hs'
    ·obtain⟨⟨hnx,hnf,hnm⟩,-⟩:=hround x0 hi0
     exact⟨hi0,_,hs.rename hC hs.n0 hlw0 (Nat.le_trans hs.n0 hnx) hf0 hm0 hnb0 hnf hnm⟩
  | some d=>
   rw[hlp] at h
   obtain⟨fr0,h⟩:=selK_some h
   obtain⟨mem0,α,newF,newM,inv,μ,⟨x0,hi0,hf0,hm0⟩,hround⟩:=selMK_some h
   have less:∀ {fr mem:_} {f:AF} {m:AM} {nx':Nat} {ρ a w},Sat C ρ fr mem nx' a w→subF fr f→keeps mem m→Sat C ρ f m nx' a w:=fun h hf hm=>
    h.less (fun t v hv=>by rw[hC.1,List.append_nil] at hv ⊢;exact subF_lk hf t v hv) (fun i b hb=>by rw[hC.2,List.append_nil] at hb ⊢;exact keeps_lk hm i b hb)
   refine loop_wp (I:=fun y a w=>inv y∧∃ ρ,Sat C ρ (newF y++fr0) (newM y++mem0) nx a w) μ ?_ (y:=x0) ⟨hi0,ρ,less hs hf0 hm0⟩
   rintro y a w ⟨hi,ρ,hsy⟩
   obtain⟨⟨hnf,hnm⟩,hbody⟩:=hround y hi
   refine ihx hB (newF y++fr0) (newM y++mem0) nx _ ρ a w _ hbody hsy (fun c a w hq=>hQ c a w hq) ?_
   intro e fr' mem' nx' ρ' a' w' hk hs'
   cases e with
   | normal=>
    obtain⟨z,⟨hiz,hμ⟩,hfz,hmz⟩:=hk
    obtain⟨⟨hnfz,hnmz⟩,-⟩:=hround z hiz
    exact⟨z,hμ,hiz,ρ',(less hs' hfz hmz).lower hC hnfz hnmz hs.n0⟩
   | exit i=>exact hK (.exit i) _ _ _ _ _ _ hk hs'
   | ret=>exact hK .ret _ _ _ _ _ _ hk hs'
 | scope x ihx=>
  intro hB fr mem nx K ρ a w Q h hs hQ hK
  simp only[codeB] at hB
  replace h:sx τ F D x fr mem nx K:=h
  refine wp_scope_straight (ihx hB fr mem nx K ρ a w _ h hs (fun c a w hq=>hQ c a w hq) ?_)
  intro e fr' mem' nx' ρ' a' w' hk hs'
  cases e<;>exact hK _ _ _ _ _ _ _ hk hs'
 | exit id=>intro _ fr mem nx K ρ a w Q h hs hQ hK;exact wp_exit (hK (.exit id) _ _ _ _ _ _ h hs)
 | ret=>intro _ fr mem nx K ρ a w Q h hs hQ hK;exact wp_ret (hK .ret _ _ _ _ _ _ h hs)
 | _=>intro _ fr mem nx K ρ a w Q h hs hQ hK;exact (show False from h).elim
end
def notTup:Value→Bool
 | .tuple _=>false
 | .func _ _ _=>false
 | _=>true
def res1 (τ:TT) (fr:AF) (mem:AM):ResultVar→Option Value
 | .tmp t=>(match lk fr t with | some v=>(match notTup v with | true=>some v | false=>none) | none=>none)
 | .cell t ty=>(match lk fr t with | some p=>(match ldx τ mem ty p with | some v=>(match notTup v with | true=>some v | false=>none) | none=>none) | none=>none)
def resx (τ:TT) (fr:AF) (mem:AM):List ResultVar→Option Value
 | []=>some (.tuple #[])
 | [r]=>res1 τ fr mem r
 | [r,s]=>(match res1 τ fr mem r with | some v=>(match res1 τ fr mem s with | some u=>some (.tuple #[v,u]) | none=>none) | none=>none)
 | [r,s,t]=>(match res1 τ fr mem r with | some v=>(match res1 τ fr mem s with | some u=>(match res1 τ fr mem t with | some x=>some (.tuple #[v,u,x]) | none=>none) | none=>none) | none=>none)
 | _=>none
def argF:Nat→List Value→AF
 | _,[]=>[]
 | i,v::r=>(i,v)::argF (i+1) r
section
variable {P:Program} {τ:TT} {F:FT} {D:List (Nat×DQ)} {C:Ctx} {ρ:Nat→Pl} {fr:AF} {mem:AM} {nx:Nat} {a:Act} {w:World}
def rv (tmps:Array Value):ResultVar→Sem Value
 | .tmp t=>pure (tmps.getD t undef)
 | .cell a t=>do loadVar t (← asAddr (tmps.getD a undef))
theorem notTup_den {v:Value} (h:notTup v=true):den ρ v=den2 ρ v∧okV ρ nx v=ok2 ρ nx v:=by
 cases v<;>first | exact⟨rfl,rfl⟩ | simp[notTup] at h
theorem res1_run (hτ:TTok P τ) (hf:FrOk ρ fr nx a) (hm:∀ i b,lk mem i=some b→BlkOk C ρ nx i w b) {r:ResultVar} {v:Value} (h:res1 τ fr mem r=some v):(rv a.tmps r).run P w=.ok (den ρ v) w∧okV ρ nx v∧notTup v=true:=by
 cases r with
 | tmp t=>
  simp only[res1] at h
  cases hv:lk fr t with
  | none=>rw[hv] at h;simp at h
  | some u=>
   rw[hv] at h
   simp only at h
   cases hn:notTup u with
   | false=>rw[hn] at h;simp at h
   | true=>
    rw[hn] at h
    simp at h
    subst h
    have:=hf.frm t u hv
    exact⟨by simp[rv,Array.getD_eq_getD_getElem?,this],hf.frk t u hv,hn⟩
 | cell t ty=>
  simp only[res1] at h
  cases hv:lk fr t with
  | none=>rw[hv] at h;simp at h
  | some p=>
   rw[hv] at h
   simp only at h
   cases hl:ldx τ mem ty p with
   | none=>rw[hl] at h;simp at h
   | some u=>
    rw[hl] at h
    simp only at h
    cases hn:notTup u with
    | false=>rw[hn] at h;simp at h
    | true=>
     rw[hn] at h
     simp at h
     subst h
     obtain⟨h1,h2⟩:=ldx_run (P:=P) hτ hm (hf.frk t p hv) hl
     refine⟨?_,h2,hn⟩
     have h3:=hf.frm t p hv
     have hpt:∃ ad,p=.pointer (some ad):=by
      cases p<;>first | (simp[ldx] at hl;done) | skip
      rename_i q
      cases q with
      | none=>simp[ldx] at hl
      | some ad=>exact⟨ad,rfl⟩
     obtain⟨ad,rfl⟩:=hpt
     have hd:den ρ (.pointer (some ad))=.pointer (dA ρ ad):=rfl
     rw[hd] at h1 h3
     cases hA:dA ρ ad with
     | none=>rw[hA] at h1;simp[Instr.loadAt,Instr.sureAddr] at h1
     | some c=>
      rw[hA] at h1 h3
      simp only[Instr.loadAt,Instr.sureAddr,Sem.run_bind,Sem.run_pure,Result.andThen_ok] at h1
      simp[rv,Array.getD_eq_getD_getElem?,h3,asAddr,h1]
theorem results_rv (fn:Func) (tmps:Array Value):results fn tmps=(do
  let vs ← fn.results.mapM (rv tmps)
  pure (if h:vs.size=1 then vs[0] else .tuple vs)):=by
 unfold results
 congr 1
theorem results1 {fn:Func} {r:ResultVar} (h:fn.results=#[r]) {tmps:Array Value} {v:Value} (h1:(rv tmps r).run P w=.ok v w):(results fn tmps).run P w=.ok v w:=by
 simp[results_rv,h,h1]
theorem results2 {fn:Func} {r s:ResultVar} (h:fn.results=#[r,s]) {tmps:Array Value} {v u:Value} (h1:(rv tmps r).run P w=.ok v w) (h2:(rv tmps s).run P w=.ok u w):(results fn tmps).run P w=.ok (.tuple #[v,u]) w:=by
 simp[results_rv,h,h1,h2]
theorem results3 {fn:Func} {r s t:ResultVar} (h:fn.results=#[r,s,t]) {tmps:Array Value} {v u x:Value} (h1:(rv tmps r).run P w=.ok v w) (h2:(rv tmps s).run P w=.ok u w) (h3:(rv tmps t).run P w=.ok x w):(results fn tmps).run P w=.ok (.tuple #[v,u,x]) w:=by
 simp[results_rv,h,h1,h2,h3]
theorem resx_run (hτ:TTok P τ) (hf:FrOk ρ fr nx a) (hm:∀ i b,lk mem i=some b→BlkOk C ρ nx i w b) {fn:Func} {v:Value} (h:resx τ fr mem fn.results.toList=some v):(results fn a.tmps).run P w=.ok (den ρ v) w∧okV ρ nx v:=by
 have e:∀ l,fn.results.toList=l→fn.results=l.toArray:=fun l hl=>by rw[← hl]
 match hl:fn.results.toList,h with
 | [],h=>
  simp only[resx,Option.some.injEq] at h
  subst h
  exact⟨by simp[results,e _ hl,den],okV_undef⟩
 | [r],h=>
  obtain⟨h1,h2,-⟩:=res1_run (P:=P) hτ hf hm h
  exact⟨results1 (e _ hl) h1,h2⟩
 | [r,s],h=>
  simp only[resx] at h
  cases hr:res1 τ fr mem r with
  | none=>rw[hr] at h;simp at h
  | some x=>
   cases hs:res1 τ fr mem s with
   | none=>rw[hr,hs] at h;simp at h
   | some y=>
    rw[hr,hs] at h
    simp at h
    subst h
    obtain⟨h1,h2,h3⟩:=res1_run (P:=P) hτ hf hm hr
    obtain⟨k1,k2,k3⟩:=res1_run (P:=P) hτ hf hm hs
    refine⟨?_,?_⟩
    ·have:=results2 (P:=P) (e _ hl) h1 k1
     rw[this]
     rw[show den ρ (.tuple #[x,y])=.tuple #[den2 ρ x,den2 ρ y] by simp[den],(notTup_den (ρ:=ρ) (nx:=nx) h3).1,(notTup_den (ρ:=ρ) (nx:=nx) k3).1]
    ·rw[(notTup_den h3).2] at h2
     rw[(notTup_den k3).2] at k2
     intro z hz
     simp at hz
     rcases hz with rfl | rfl
     ·exact h2
     ·exact k2
 | [r,s,t],h=>
  simp only[resx] at h
  cases hr:res1 τ fr mem r with
  | none=>rw[hr] at h;simp at h
  | some x=>
   cases hs:res1 τ fr mem s with
   | none=>rw[hr,hs] at h;simp at h
   | some y=>
    cases ht:res1 τ fr mem t with
    | none=>rw[hr,hs,ht] at h;simp at h
    | some z0=>
     rw[hr,hs,ht] at h
     simp at h
     subst h
     obtain⟨h1,h2,h3⟩:=res1_run (P:=P) hτ hf hm hr
     obtain⟨k1,k2,k3⟩:=res1_run (P:=P) hτ hf hm hs
     obtain⟨m1,m2,m3⟩:=res1_run (P:=P) hτ hf hm ht
     refine⟨?_,?_⟩
     ·have:=results3 (P:=P) (e _ hl) h1 k1 m1
      rw[this]
      rw[show den ρ (.tuple #[x,y,z0])=.tuple #[den2 ρ x,den2 ρ y,den2 ρ z0] by simp[den],(notTup_den (ρ:=ρ) (nx:=nx) h3).1,(notTup_den (ρ:=ρ) (nx:=nx) k3).1,(notTup_den (ρ:=ρ) (nx:=nx) m3).1]
     ·rw[(notTup_den h3).2] at h2
      rw[(notTup_den k3).2] at k2
      rw[(notTup_den m3).2] at m2
      intro z hz
      simp at hz
      rcases hz with rfl | rfl | rfl
      ·exact h2
      ·exact k2
      ·exact m2
 | _::_::_::_::_,h=>simp[resx] at h
theorem argF_lk:∀ {vs:List Value} {i t:Nat} {v:Value},lk (argF i vs) t=some v→∃ j,t=i+j∧vs[j]?=some v
 | [],i,t,v,h=>by simp[argF,lk] at h
 | u::r,i,t,v,h=>by
  rcases lk_cons h with⟨rfl,rfl⟩ | ⟨_,h⟩
  ·exact⟨0,by omega,rfl⟩
  ·obtain⟨j,rfl,hj⟩:=argF_lk h
   exact⟨j+1,by omega,by simpa using hj⟩
structure MemAt (C:Ctx) (ρ:Nat→Pl) (mem:AM) (nx:Nat) (w:World):Prop where
 mlt:∀ i b,lk mem i=some b→i<nx∧(ρ i).res=false
 blk:∀ i b,lk mem i=some b→BlkOk C ρ nx i w b
 sep:∀ i j b b',i≠j→lk mem i=some b→lk mem j=some b'→Apart ρ i j b b'
 n0:C.n0≤nx
 low:∀ i,i<C.n0→ρ i=C.ρ0 i
 rest:Rest C w
def endx (τ:TT) (rs:List ResultVar) (R:Value→AM→Nat→Prop) (e:Ex) (fr:AF) (mem:AM) (nx:Nat):Prop:=
 match e with
 | .exit _=>False
 | _=>(match resx τ fr mem rs with | some v=>R v mem nx | none=>False)
theorem calls_sxI (hτ:TTok P τ) (hF:FTokI P F (inlOf D)) (hmix:P.follows .mixedOrders=true) {f:FuncId} {fn:Func} {c:Code} (hf:P.funcs[f]?=some fn) (hb:fn.body=some c) (hcode:codeB fn.ntmps D c=true) {vs:List Value} (hn0:Nat.ble vs.length fn.ntmps=true)
  (hC:C.ff=[]∧C.fm=[]) (hnt:C.nt=fn.ntmps) (hm:MemAt C ρ mem nx w) (hv:∀ v ∈ vs,okV ρ nx v) {R:Value→AM→Nat→Prop} (h:sx τ F D c (argF 0 vs) mem nx (endx τ fn.results.toList R)) :
  Calls P f (vs.map (den ρ)).toArray w fun e w'=>∃ v mem' nx' ρ',e=.returned (den ρ' v)∧R v mem' nx'∧okV ρ' nx' v∧MemAt C ρ' mem' nx' w':=by
 have hn:vs.length≤fn.ntmps:=Nat.le_of_ble_eq_true hn0
 refine calls_of_wp hf hb ?_
 have hs:Sat C ρ (argF 0 vs) mem nx { tmps:=(vs.map (den ρ)).toArray++Array.replicate (fn.ntmps-(vs.map (den ρ)).toArray.size) undef,defers:=[] } w:=by
  refine⟨⟨fun t v hv'=>?_,fun t v hv'=>?_⟩,?_,rfl,fun i b hi=>?_,fun i b hi=>?_,fun i j b b' hne hi hj=>?_,hm.n0,hm.low,hm.rest⟩
  ·rw[hC.1,List.append_nil] at hv'
   obtain⟨j,rfl,hj⟩:=argF_lk hv'
   have hjl:j<vs.length:=(List.getElem?_eq_some_iff.1 hj).1
   simp only[Nat.zero_add]
   rw[Array.getElem?_append_left (by simpa using hjl)]
   simp[hj]
  ·rw[hC.1,List.append_nil] at hv'
   obtain⟨j,rfl,hj⟩:=argF_lk hv'
   exact hv v (List.mem_of_getElem? hj)
  ·simp[hnt];omega
  ·rw[hC.2,List.append_nil] at hi;exact hm.mlt i b hi
  ·rw[hC.2,List.append_nil] at hi;exact hm.blk i b hi
  ·rw[hC.2,List.append_nil] at hi hj;exact hm.sep i j b b' hne hi hj
 have hend:∀ e fr' mem' nx' ρ' a' w',endx τ fn.results.toList R e fr' mem' nx'→Sat C ρ' fr' mem' nx' a' w'→bodyPost P fn (fun e w'=>∃ v mem' nx' ρ',e=.returned (den ρ' v)∧R v mem' nx'∧okV ρ' nx' v∧MemAt C ρ' mem' nx' w') e.to a' w':=by
  intro e fr' mem' nx' ρ' a' w' he hs'
  have hok:∀ (he:(match resx τ fr' mem' fn.results.toList with | some v=>R v mem' nx' | none=>False)),a'.defers=[]∧∃ v,(results fn a'.tmps).run P w'=.ok v w'∧∃ v2 mem' nx' ρ',Ending.returned v=.returned (den ρ' v2)∧R v2 mem' nx'∧okV ρ' nx' v2∧MemAt C ρ' mem' nx' w':=by
   intro he
   cases hr:resx τ fr' mem' fn.results.toList with
   | none=>rw[hr] at he;exact he.elim
   | some v=>
    rw[hr] at he
    obtain⟨h1,h2⟩:=resx_run (P:=P) hτ hs'.fok.left (fun i b hi=>hs'.blk i b (lk_app hi)) hr
    exact⟨hs'.dfr,_,h1,v,mem',nx',ρ',rfl,he,h2,⟨fun i b hi=>hs'.mlt i b (lk_app hi),fun i b hi=>hs'.blk i b (lk_app hi),fun i j b b' hne hi hj=>hs'.sep i j b b' hne (lk_app hi) (lk_app hj),hs'.n0,hs'.low,hs'.rest⟩⟩
  cases e with
  | exit i=>exact he.elim
  | normal=>exact hok he
  | ret=>exact hok he
 exact sx_sound hτ hF hmix hC c (by rw[hnt];exact hcode) _ _ _ _ ρ _ w _ h hs (fun c a w hq=>by obtain⟨-,v,_,_,_,hq,-⟩:=hq;cases hq) hend
theorem calls_sx (hτ:TTok P τ) (hF:FTok P F) (hmix:P.follows .mixedOrders=true) {f:FuncId} {fn:Func} {c:Code} (hf:P.funcs[f]?=some fn) (hb:fn.body=some c) (hcode:codeB fn.ntmps D c=true) {vs:List Value} (hn0:Nat.ble vs.length fn.ntmps=true)
  (hC:C.ff=[]∧C.fm=[]) (hnt:C.nt=fn.ntmps) (hm:MemAt C ρ mem nx w) (hv:∀ v ∈ vs,okV ρ nx v) {R:Value→AM→Nat→Prop} (h:sx τ F D c (argF 0 vs) mem nx (endx τ fn.results.toList R)) :
  Calls P f (vs.map (den ρ)).toArray w fun e w'=>∃ v mem' nx' ρ',e=.returned (den ρ' v)∧R v mem' nx'∧okV ρ' nx' v∧MemAt C ρ' mem' nx' w':=calls_sxI hτ (hF.i _) hmix hf hb hcode hn0 hC hnt hm hv h
def ctInl (τ:TT) (F:FT) (D:List (Nat×DQ)) (fn:Func) (c:Code):CT:=fun vs mem nx K=>match Nat.ble vs.length fn.ntmps with
 | true=>sx τ F D c (argF 0 vs) mem nx (endx τ fn.results.toList K)
 | false=>False
theorem inl_ok (hτ : TTok P τ) (hF : FTokI P F (inlOf D)) (hmix : P.follows .mixedOrders = true) {f : FuncId} {fn : Func} {c : Code} (hent : (P.funcs[f]?).map (fun fn => (fn.name == "runtime.NumGoroutine", fn.body.isNone)) = some (false, false)) (hf : P.funcs[f]? = some fn) (hb : fn.body = some c) (hcode : codeB fn.ntmps D c = true) {I : List Nat} (hI : I.contains f = true) : CSoundI P I f (ctInl τ F D fn c) := by
 intro C hor
 have hfm:C.fm=[]:=hor.resolve_right (by rw[hI];decide)
 refine⟨hent,?_⟩
 intro ρ fr mem nx a w vs K hc hs hv
 unfold ctInl at hc
 cases hn:Nat.ble vs.length fn.ntmps with
 | false=>rw[hn] at hc;exact hc.elim
 | true=>
  rw[hn] at hc
  have hl:∀ i b,lk mem i=some b→lk (mem++C.fm) i=some b:=fun i b hi=>lk_app hi
  have hm:MemAt { C with n0:=nx,ρ0:=ρ,nt:=fn.ntmps,ff:=[],fm:=[] } ρ mem nx w:=
   ⟨fun i b hi=>hs.mlt i b (hl i b hi),fun i b hi=>by have:=hs.blk i b (hl i b hi);cases b<;>exact this,fun i j b b' hne hi hj=>hs.sep i j b b' hne (hl i b hi) (hl j b' hj),Nat.le_refl _,fun _ _=>rfl,⟨hs.rest.os,hs.rest.tape,hs.rest.output,hs.rest.size,hs.rest.block⟩⟩
  refine (calls_sxI hτ hF hmix hf hb hcode hn ⟨rfl,rfl⟩ rfl hm hv hc).mono ?_
  rintro e w' ⟨v,mem',nx',ρ',rfl,hK,hv',hm'⟩
  have hlow:∀ i,i<nx→ρ' i=ρ i:=fun i hi=>hm'.low i hi
  have hnx:nx≤nx':=hm'.n0
  have hf':∀ i b,lk (mem'++C.fm) i=some b→lk mem' i=some b:=fun i b hi=>by rw[hfm,List.append_nil] at hi;exact hi
  refine⟨v,mem',nx',ρ',rfl,hK,⟨⟨fun t u hu=>?_,fun t u hu=>okV_mono (fun j hj _=>hlow j hj) hnx (hs.fok.frk t u hu)⟩,hs.sz,hs.dfr,fun i b hi=>hm'.mlt i b (hf' i b hi),fun i b hi=>by have:=hm'.blk i b (hf' i b hi);cases b<;>exact this,fun i j b b' hne hi hj=>hm'.sep i j b b' hne (hf' i b hi) (hf' j b' hj),Nat.le_trans hs.n0 hnx,fun i hi=>(hlow i (Nat.lt_of_lt_of_le hi hs.n0)).trans (hs.low i hi),⟨hm'.rest.os,hm'.rest.tape,hm'.rest.output,hm'.rest.size,hm'.rest.block⟩⟩,hv',⟨hlow,hnx⟩⟩
  rw[den_congr (fun j hj _=>hlow j hj) (hs.fok.frk t u hu)]
  exact hs.fok.frm t u hu
end
end Go.Proofs.YtchhdflealgkaaaGreat
