import Derived.Test.YtchhdflealgkaaaGreatPo19
namespace Go.Proofs.YtchhdflealgkaaaGreat
open Go.RowKit
set_option linter.unusedSimpArgs false
set_option linter.unusedVariables false
/-! A router and its reference in one shape,whether they hold a copy or none. -/
theorem ckRouteNil_calls (w:World):Calls Tryz.prog 61 #[.slice none 0 0] w fun e w'=>e=.returned (.slice none 0 0)∧w'=w:=by
 go_enter Tryz.func61,Tryz.ntmps61
 have hq:=ckRouteNil 0 0 w
 go_wp2
 go_ret
 exact⟨rfl,rfl⟩
def ctCkNil0:CT:=fun vs mem nx K=>vs=[.slice none 0 0]∧K (.slice none 0 0) mem nx
theorem ckNil0Ok:CSound Tryz.prog 61 ctCkNil0:=CSound.val (by kernel_rfl) (by
 rintro vs mem nx K ⟨rfl,hK⟩
 refine⟨_,hK,trivial,rfl,fun ρ w=>?_⟩
 refine (ckRouteNil_calls w).mono ?_
 rintro e w' ⟨rfl,rfl⟩
 exact⟨rfl,Below.refl _ _⟩)
def ctCkNil:CT:=fun vs mem nx K=>ctCkNil0 vs mem nx K∨ctCkRoute vs mem nx K
theorem ckNilOk:CSound Tryz.prog 61 ctCkNil:=⟨ckNil0Ok.1,fun {C ρ fr mem nx a w vs K} hc hs hv=>by
 rcases hc with h | h
 ·exact ckNil0Ok.2 h hs hv
 ·exact ckRouteOk.2 h hs hv⟩
def ctF (nt:Nat) (hf:HF):HF:=fun k=>if k<nt then hf k else (0,0)
theorem ctF_at {nt:Nat} {hf:HF} {k:Nat} (h:k<nt):ctF nt hf k=hf k:=if_pos h
theorem hmOf_ctF (nt:Nat) (hf:HF):hmOf nt hf=hmOf nt (ctF nt hf):=by
 funext z
 by_cases q:0≤z∧z<nt
 ·unfold hmOf
  rw[if_pos q,if_pos q,ctF_at (by omega)]
 ·rw[hmOf_out q,hmOf_out q]
theorem HfOk.cut {nt:Nat} {hf:HF} (h:HfOk nt hf):HfOk nt (ctF nt hf):=fun k hk=>by
 rw[ctF_at hk];exact h k hk
theorem ctF_row {nt m:Nat} {hf:HF} {el:Nat→List Value} (hm:m=nt) (h1:∀ k,k<m→el k=pairC (hf k)) (h2:∀ k,m≤k→el k=[.int .i64 0,.int .i64 0]):el=fun k=>pairC (ctF nt hf k):=by
 subst hm
 funext k
 by_cases q:k<m
 ·rw[h1 k q,ctF_at q]
 ·rw[h2 k (by omega)]
  unfold ctF
  rw[if_neg q]
  rfl
/-! A callee walked once,in a small memory of its own;its contract holds in any memory that this one is renamed into. -/
def unB:ABlk→ABlk
 | .row t sz n el=>(match ownT t with | true=>.row t sz n el | false=>.row 0 sz n el)
 | .ext (.deep t sz n cap el u)=>(match ownT t with | true=>.ext (.deep t sz n cap el u) | false=>.ext (.deep 0 sz n cap el u))
 | .ext (.fam t sb)=>.ext (.fam 0 sb)
 | b=>b
def keepsU (mem:AM) (σ:List (Nat×Nat)) (m:AM):Prop:=List.rec (motive:=fun _=>Prop) True (fun p _ ih=>(lk mem (rnm σ p.1)).map unB=some (rnB σ p.2)∧ih) m
def sgn (σ:List (Nat×Nat)) (k0 nx:Nat):Nat→List (Nat×Nat)
 | 0=>σ
 | d+1=>(k0+d,nx+d)::sgn σ k0 nx d
def rnM (σ:List (Nat×Nat)) (m:AM):AM:=m.map fun p=>(rnm σ p.1,rnB σ p.2)
def frBk:ABlk→Bool
 | .box _ _=>true
 | .row t _ _ _=>frT t
 | .ext (.deep t _ _ _ _ _)=>frT t
 | .ext (.fam _ _)=>false
 | .ext (.map _ _ _)=>true
def allLt (σ:List (Nat×Nat)) (nx:Nat):Nat→Bool
 | 0=>true
 | k+1=>Nat.blt (rnm σ k) nx&&allLt σ nx k
def objB0 (k0:Nat) (vs0:List Value) (m0:AM):Bool:=nmM k0 m0&&vs0.all (nmV k0)
def objB1 (k0 d:Nat) (m0:AM) (V:Value) (M1:AM):Bool:=nmM (k0+d) M1&&nmV (k0+d) V&&M1.all (fun p=>frBk p.2)&&(exN m0).all (fun i=>(lk M1 i).isSome)
def ctObj {X Y:Type} (vs0:X→List Value) (m0:X→AM) (k0:Nat) (pre:X→Prop) (post:X→Y→Prop) (V:X→Y→Value) (M1:X→Y→AM) (d:Nat):CT:=fun vs mem nx K=>
 ∃ x σ,pre x∧vs=(vs0 x).map (rnV σ)∧keepsU mem σ (m0 x)∧noBox σ (m0 x)=true∧allLt σ nx k0=true∧∀ y,post x y→K (rnV (sgn σ k0 nx d) (V x y)) (rnM (sgn σ k0 nx d) (M1 x y)++mem) (nx+d)
def objR {Y:Type} (k0:Nat) (post:Y→Prop) (V:Y→Value) (M1:Y→AM) (v:Value) (mem':AM) (nx':Nat):Prop:=∃ y σ,post y∧rnLow k0 σ=true∧noBox σ (M1 y)=true∧v=rnV σ (V y)∧keepsR mem' σ (M1 y)
section
variable {P:Program} {C:Ctx} {ρ ρ':Nat→Pl} {fr:AF} {mem mem':AM} {nx nx':Nat} {a:Act} {w w':World} {σ:List (Nat×Nat)}
theorem sgn_low {σ:List (Nat×Nat)} {k0 nx i:Nat} (hi:i<k0):∀ d,rnm (sgn σ k0 nx d) i=rnm σ i
 | 0=>rfl
 | d+1=>by
  have:=sgn_low (σ:=σ) (nx:=nx) hi d
  unfold rnm at this ⊢
  simp only[sgn]
  rw[lk_ne _ _ (by omega)]
  exact this
theorem sgn_new {σ:List (Nat×Nat)} {k0 nx i:Nat} (hi:k0≤i):∀ d,i<k0+d→rnm (sgn σ k0 nx d) i=nx+(i-k0)
 | 0,h=>by omega
 | d+1,h=>by
  by_cases he:k0+d=i
  ·subst he
   unfold rnm
   simp only[sgn]
   rw[lk_same]
   simp
  ·have:=sgn_new (σ:=σ) (nx:=nx) hi d (by omega)
   unfold rnm at this ⊢
   simp only[sgn]
   rw[lk_ne _ _ he]
   exact this
theorem allLt_at {nx:Nat}:∀ {k:Nat},allLt σ nx k=true→∀ i,i<k→rnm σ i<nx
 | 0,_,i,hi=>by omega
 | k+1,h,i,hi=>by
  simp only[allLt,Bool.and_eq_true,Nat.blt_eq] at h
  by_cases he:i=k
  ·subst he;exact h.1
  ·exact allLt_at h.2 i (by omega)
theorem keepsU_lk:∀ {m:AM},keepsU mem σ m→∀ i b,lk m i=some b→∃ b',lk mem (rnm σ i)=some b'∧unB b'=rnB σ b
 | [],_,t,v,h=>by simp[lk] at h
 | (k,u)::l,hs,t,v,h=>by
  rcases lk_cons h with⟨rfl,rfl⟩ | ⟨_,h⟩
  ·have:=hs.1
   simp only[Option.map_eq_some_iff] at this
   exact this
  ·exact keepsU_lk hs.2 t v h
theorem bwr_un {i g:Nat} (b:ABlk):bwr ρ i (unB b) g↔bwr ρ i b g:=by
 cases b with
 | box t cs=>exact Iff.rfl
 | row t sz n el=>
  cases ho:ownT t with
  | true=>simp only[unB,ho]
  | false=>
   simp only[unB,ho,bwr]
   exact⟨fun h=>by have:=h.1;simp[ownT] at this,fun h=>by simp at h⟩
 | ext e=>cases e with
  | deep t sz n cap el u=>
   cases ho:ownT t with
   | true=>simp only[unB,ho]
   | false=>
    simp only[unB,ho,bwr,xwr]
    exact⟨fun h=>by have:=h.1;simp[ownT] at this,fun h=>by simp at h⟩
  | fam t sb=>exact Iff.rfl
  | map kk ag f=>exact Iff.rfl
theorem brd_un {i g:Nat} (b:ABlk):brd ρ i (unB b) g↔brd ρ i b g:=by
 cases b with
 | box t cs=>exact Iff.rfl
 | row t sz n el=>cases ho:ownT t<;>simp only[unB,ho,brd]
 | ext e=>cases e with
  | deep t sz n cap el u=>cases ho:ownT t<;>simp only[unB,ho,brd,xrd]
  | fam t sb=>exact Iff.rfl
  | map kk ag f=>exact Iff.rfl
theorem exB_un (b:ABlk):exB (unB b)=exB b:=by
 cases b with
 | box t cs=>rfl
 | row t sz n el=>cases ho:ownT t<;>simp[unB,ho,exB]<;>rfl
 | ext e=>cases e with
  | deep t sz n cap el u=>cases ho:ownT t<;>simp[unB,ho,exB]<;>rfl
  | fam t sb=>rfl
  | map kk ag f=>rfl
theorem BlkOk.perm {i:Nat} {b:ABlk} (h:BlkOk C ρ nx i w b) {g:Nat} (hg:bwr ρ i b g):C.ok g:=by
 cases b with
 | box t cs=>
  obtain⟨g',h1,h2,h3,-⟩:=h
  have:g'=g:=by simpa [bwr,bno,h1] using hg
  exact this ▸ h3
 | row t sz n el=>
  obtain⟨ho,hn,hg⟩:=hg
  obtain⟨-,-,h3⟩:=h
  obtain⟨b,off,hA,hr,-⟩:=h3.resolve_left hn
  have:b=g:=by simpa [bno,hA] using hg
  exact this ▸ (hr.own ho).2.1
 | ext e=>cases e with
  | deep t sz n cap el u=>
   obtain⟨ho,hn,hg⟩:=hg
   obtain⟨-,-,-,h3⟩:=h
   rcases h3 with h3 | ⟨-,b,off,hA,hr,-⟩
   ·exact absurd h3.1 hn
   ·have:b=g:=by simpa [bno,hA] using hg
    exact this ▸ (hr.own ho).2.1
  | fam t sb=>exact hg.elim
  | map kk ag f=>
   obtain⟨g',es,cl,h1,-,h3,-⟩:=h
   have:g'=g:=by simpa [bwr,xwr,bno,h1] using hg
   exact this ▸ h3
theorem BlkOk.made {i:Nat} {b:ABlk} (h:BlkOk C ρ nx i w b) (hf:frBk b=true) {g:Nat} (hg:brd ρ i b g):C.ok g:=by
 cases b with
 | box t cs=>
  obtain⟨g',h1,h2,h3,-⟩:=h
  have:g'=g:=by simpa [brd,bno,h1] using hg
  exact this ▸ h3
 | row t sz n el=>
  obtain⟨hn,hg⟩:=hg
  obtain⟨-,-,h3⟩:=h
  obtain⟨b,off,hA,hr,-⟩:=h3.resolve_left hn
  have:b=g:=by simpa [bno,hA] using hg
  exact this ▸ hr.new hf
 | ext e=>cases e with
  | deep t sz n cap el u=>
   obtain⟨hn,hg⟩:=hg
   obtain⟨-,-,-,h3⟩:=h
   rcases h3 with h3 | ⟨-,b,off,hA,hr,-⟩
   ·exact absurd h3.1 hn
   ·have:b=g:=by simpa [bno,hA] using hg
    exact this ▸ hr.new hf
  | fam t sb=>cases hf
  | map kk ag f=>
   obtain⟨g',es,cl,h1,-,h3,-⟩:=h
   have:g'=g:=by simpa [brd,xrd,bno,h1] using hg
   exact this ▸ h3
theorem BlkOk.ctxU {C':Ctx} {i:Nat} {b:ABlk} (h:BlkOk C ρ nx i w b) (hw:∀ g,bwr ρ i b g→C'.ok g):BlkOk C' ρ nx i w (unB b):=by
 cases b with
 | box t cs=>
  obtain⟨g,h1,h2,h3,h4⟩:=h
  exact⟨g,h1,h2,hw g (by simp[bwr,bno,h1]),h4⟩
 | row t sz n el=>
  obtain⟨h1,h2,h3⟩:=h
  cases ho:ownT t with
  | true=>
   simp only[unB,ho]
   refine⟨h1,h2,?_⟩
   by_cases hn:n=0
   ·exact .inl hn
   ·obtain⟨b,off,hA,hr,hc⟩:=h3.resolve_left hn
    have hx:C'.ok b:=hw b ⟨ho,hn,by simp[bno,hA]⟩
    exact .inr ⟨b,off,hA,⟨hr.lt,fun ho=>⟨(hr.own ho).1,hx,(hr.own ho).2.2⟩,fun _=>hx⟩,hc⟩
  | false=>
   simp only[unB,ho]
   refine⟨h1,h2,h3.imp id ?_⟩
   rintro⟨b,off,hA,hr,hc⟩
   exact⟨b,off,hA,⟨hr.lt,fun q=>by simp[ownT] at q,fun q=>by simp[frT] at q⟩,hc⟩
 | ext e=>cases e with
  | deep t sz n cap el u=>
   obtain⟨h1,h2,h0,h3⟩:=h
   cases ho:ownT t with
   | true=>
    simp only[unB,ho]
    refine⟨h1,h2,h0,h3.imp id ?_⟩
    rintro⟨hn,b,off,hA,hr,hcap,hc⟩
    have hx:C'.ok b:=hw b ⟨ho,hn,by simp[bno,hA]⟩
    exact⟨hn,b,off,hA,⟨hr.lt,fun ho=>⟨(hr.own ho).1,hx,(hr.own ho).2.2⟩,fun _=>hx⟩,hcap,hc⟩
   | false=>
    simp only[unB,ho]
    refine⟨h1,h2,h0,h3.imp (fun q=>⟨q.1,fun q=>by simp[ownT] at q⟩) ?_⟩
    rintro⟨hn,b,off,hA,hr,hcap,hc⟩
    exact⟨hn,b,off,hA,⟨hr.lt,fun q=>by simp[ownT] at q,fun q=>by simp[frT] at q⟩,fun q=>by simp[ownT] at q,hc⟩
  | fam t sb=>
   refine⟨rfl,fun k o=>⟨(h.2 k o).1,(h.2 k o).2.imp id ?_⟩⟩
   rintro⟨b,off,hA,hr,hc⟩
   exact⟨b,off,hA,⟨hr.lt,fun q=>by simp[ownT] at q,fun q=>by simp[frT] at q⟩,hc⟩
  | map kk ag f=>
   obtain⟨g,es,cl,h1,h2,h3,h4⟩:=h
   exact⟨g,es,cl,h1,h2,hw g (by simp[bwr,xwr,bno,h1]),h4⟩
theorem BlkOk.ctxF {C':Ctx} {i:Nat} {b:ABlk} (h:BlkOk C ρ nx i w b) (hw:∀ g,C.ok g→C'.ok g):BlkOk C' ρ nx i w b:=by
 cases b with
 | box t cs=>
  obtain⟨g,h1,h2,h3,h4⟩:=h
  exact⟨g,h1,h2,hw g h3,h4⟩
 | row t sz n el=>
  obtain⟨h1,h2,h3⟩:=h
  refine⟨h1,h2,h3.imp id ?_⟩
  rintro⟨b,off,hA,hr,hc⟩
  exact⟨b,off,hA,⟨hr.lt,fun ho=>⟨(hr.own ho).1,hw _ (hr.own ho).2.1,(hr.own ho).2.2⟩,fun ho=>hw _ (hr.new ho)⟩,hc⟩
 | ext e=>cases e with
  | deep t sz n cap el u=>
   obtain⟨h1,h2,h0,h3⟩:=h
   refine⟨h1,h2,h0,h3.imp id ?_⟩
   rintro⟨hn,b,off,hA,hr,hcap,hc⟩
   exact⟨hn,b,off,hA,⟨hr.lt,fun ho=>⟨(hr.own ho).1,hw _ (hr.own ho).2.1,(hr.own ho).2.2⟩,fun ho=>hw _ (hr.new ho)⟩,hcap,hc⟩
  | fam t sb=>
   refine⟨h.1,fun k o=>⟨(h.2 k o).1,(h.2 k o).2.imp id ?_⟩⟩
   rintro⟨b,off,hA,hr,hc⟩
   exact⟨b,off,hA,⟨hr.lt,fun ho=>⟨(hr.own ho).1,hw _ (hr.own ho).2.1,(hr.own ho).2.2⟩,fun ho=>hw _ (hr.new ho)⟩,hc⟩
  | map kk ag f=>
   obtain⟨g,es,cl,h1,h2,h3,h4⟩:=h
   exact⟨g,es,cl,h1,h2,hw g h3,h4⟩
theorem BlkOk.rnI {n i:Nat} {b:ABlk} (h:BlkOk C ρ nx (rnm σ i) w (rnB σ b)) (hb:nmB n b=true):BlkOk C (fun i=>ρ (rnm σ i)) n i w b:=by
 cases b with
 | box t cs=>
  obtain⟨g,e1,e2,e3,e4⟩:=h
  simp only[nmB,List.all_eq_true] at hb
  refine⟨g,e1,?_,e3,fun v hv=>ok1_rn (e4 _ (List.mem_map_of_mem hv)) (hb v hv)⟩
  have:cs.map (den1 fun i=>ρ (rnm σ i))=(cs.map (rn1 σ)).map (den1 ρ):=by simp[Function.comp_def,den1_rn]
  rw[this]
  exact e2
 | row t sz k el=>exact h
 | ext eb=>cases eb with
  | fam t sb=>exact h
  | map kk ag f=>exact h
  | deep t sz k cap el u=>
   simp only[nmB,decide_eq_true_eq] at hb
   obtain⟨e1,e2,e3,e4⟩:=h
   exact⟨e1,⟨hb,e2.2⟩,e3,e4.imp id fun⟨hn,b,off,hA,hlt,hcap,hc⟩=>⟨hn,b,off,hA,hlt,hcap,fun k hk j v hv=>by
    rw[hc k hk j v hv]
    cases v with
    | slice A _ _=>cases A<;>rfl
    | pointer p=>cases p with
     | none=>rfl
     | some ad=>exact ((e3 k hk).2 _ (List.mem_of_getElem? hv)).elim
    | map p=>cases p with
     | none=>rfl
     | some ad=>exact ((e3 k hk).2 _ (List.mem_of_getElem? hv)).elim
    | _=>rfl⟩⟩
theorem ok1_rnO {n m:Nat} (hlt:∀ i,i<n→rnm σ i<m) {v:Value} (h:ok1 (fun i=>ρ (rnm σ i)) n v):ok1 ρ m (rn1 σ v):=by
 cases v with
 | pointer p=>cases p with
  | none=>trivial
  | some ad=>exact⟨⟨hlt _ h.1.1,h.1.2⟩,h.2⟩
 | slice p k c=>cases p with
  | none=>trivial
  | some ad=>exact⟨hlt _ h.1,h.2⟩
 | map p=>cases p with
  | none=>trivial
  | some i=>exact⟨⟨hlt _ h.1.1,h.1.2⟩,h.2⟩
 | _=>trivial
theorem ok2_rnO {n m:Nat} (hlt:∀ i,i<n→rnm σ i<m) {v:Value} (h:ok2 (fun i=>ρ (rnm σ i)) n v):ok2 ρ m (rn2 σ v):=by
 cases v with
 | agg cs=>
  intro u hu
  simp at hu
  obtain⟨x,hx,rfl⟩:=hu
  exact ok1_rnO hlt (h x hx)
 | pointer p=>cases p with
  | none=>trivial
  | some q=>exact ok1_rnO (v:=.pointer (some q)) hlt h
 | slice p k c=>cases p with
  | none=>trivial
  | some q=>exact ok1_rnO (v:=.slice (some q) k c) hlt h
 | map p=>cases p with
  | none=>trivial
  | some q=>exact ok1_rnO (v:=.map (some q)) hlt h
 | _=>trivial
theorem okV_rnO {n m:Nat} (hlt:∀ i,i<n→rnm σ i<m) {v:Value} (h:okV (fun i=>ρ (rnm σ i)) n v):okV ρ m (rnV σ v):=by
 cases v with
 | tuple vs=>
  intro u hu
  simp at hu
  obtain⟨x,hx,rfl⟩:=hu
  exact ok2_rnO hlt (h x hx)
 | func f a b=>
  constructor
  ·intro u hu
   simp at hu
   obtain⟨x,hx,rfl⟩:=hu
   exact ok1_rnO hlt (h.1 x hx)
  ·intro u hu
   simp at hu
   obtain⟨x,hx,rfl⟩:=hu
   exact ok1_rnO hlt (h.2 x hx)
 | agg cs=>exact ok2_rnO (v:=.agg cs) hlt h
 | pointer p=>cases p with
  | none=>trivial
  | some q=>exact ok2_rnO (v:=.pointer (some q)) hlt h
 | slice p k c=>cases p with
  | none=>trivial
  | some q=>exact ok2_rnO (v:=.slice (some q) k c) hlt h
 | map p=>cases p with
  | none=>trivial
  | some q=>exact ok2_rnO (v:=.map (some q)) hlt h
 | _=>trivial
theorem BlkOk.rnO {n m i:Nat} (hlt:∀ i,i<n→rnm σ i<m) {b:ABlk} (h:BlkOk C (fun i=>ρ (rnm σ i)) n i w b):BlkOk C ρ m (rnm σ i) w (rnB σ b):=by
 cases b with
 | box t cs=>
  obtain⟨g,e1,e2,e3,e4⟩:=h
  refine⟨g,e1,?_,e3,fun v hv=>?_⟩
  ·have:cs.map (den1 fun i=>ρ (rnm σ i))=(cs.map (rn1 σ)).map (den1 ρ):=by simp[Function.comp_def,den1_rn]
   rw[← this]
   exact e2
  ·obtain⟨x,hx,rfl⟩:=List.mem_map.1 hv
   exact ok1_rnO hlt (e4 x hx)
 | row t sz k el=>exact h
 | ext eb=>cases eb with
  | fam t sb=>exact h
  | map kk ag f=>exact h
  | deep t sz k cap el u=>
   obtain⟨e1,e2,e3,e4⟩:=h
   exact⟨e1,⟨hlt _ e2.1,e2.2⟩,e3,e4.imp id fun⟨hn,b,off,hA,hlt,hcap,hc⟩=>⟨hn,b,off,hA,hlt,hcap,fun k hk j v hv=>by
    rw[hc k hk j v hv]
    cases v with
    | slice A _ _=>cases A<;>rfl
    | pointer p=>cases p with
     | none=>rfl
     | some ad=>exact ((e3 k hk).2 _ (List.mem_of_getElem? hv)).elim
    | map p=>cases p with
     | none=>rfl
     | some ad=>exact ((e3 k hk).2 _ (List.mem_of_getElem? hv)).elim
    | _=>rfl⟩⟩
theorem rnM_lk:∀ {m:AM} {j:Nat} {b:ABlk},lk (rnM σ m) j=some b→∃ i b0,lk m i=some b0∧rnm σ i=j∧b=rnB σ b0
 | [],j,b,h=>by simp[rnM,lk] at h
 | (k,c)::r,j,b,h=>by
  rcases lk_cons h with⟨h1,h2⟩ | ⟨hne,h⟩
  ·exact⟨k,c,lk_same _ _ _,h1,h2.symm⟩
  ·obtain⟨i,b0,h1,h2,h3⟩:=rnM_lk (m:=r) h
   exact⟨i,b0,by rw[lk_ne _ _ (by rintro rfl;exact hne h2)];exact h1,h2,h3⟩
theorem rnM_some:∀ {m:AM} {i:Nat} {b:ABlk},lk m i=some b→lk (rnM σ m) (rnm σ i)≠none
 | [],i,b,h=>by simp[lk] at h
 | (k,c)::r,i,b,h=>by
  show lk ((rnm σ k,rnB σ c)::rnM σ r) (rnm σ i)≠none
  by_cases he:rnm σ k=rnm σ i
  ·rw[he,lk_same];simp
  ·rw[lk_ne _ _ he]
   rcases lk_cons h with⟨rfl,_⟩ | ⟨_,h⟩
   ·exact absurd rfl he
   ·exact rnM_some h
def wrB (ρ:Nat→Pl) (i:Nat):ABlk→Option Nat
 | .box _ _=>bno ρ i
 | .row t _ n _=>if ownT t=true∧n≠0 then bno ρ i else none
 | .ext (.deep t _ n _ _ _)=>if ownT t=true∧n≠0 then bno ρ i else none
 | .ext (.fam _ _)=>none
 | .ext (.map _ _ _)=>bno ρ i
theorem wrB_iff {i g:Nat} (b:ABlk):wrB ρ i b=some g↔bwr ρ i b g:=by
 cases b with
 | box t cs=>exact Iff.rfl
 | row t sz n el=>
  simp only[wrB,bwr]
  by_cases h:ownT t=true∧n≠0
  ·rw[if_pos h];exact⟨fun q=>⟨h.1,h.2,q⟩,fun q=>q.2.2⟩
  ·rw[if_neg h];exact⟨fun q=>(by cases q),fun q=>absurd ⟨q.1,q.2.1⟩ h⟩
 | ext e=>cases e with
  | deep t sz n cap el u=>
   simp only[wrB,bwr,xwr]
   by_cases h:ownT t=true∧n≠0
   ·rw[if_pos h];exact⟨fun q=>⟨h.1,h.2,q⟩,fun q=>q.2.2⟩
   ·rw[if_neg h];exact⟨fun q=>(by cases q),fun q=>absurd ⟨q.1,q.2.1⟩ h⟩
  | fam t sb=>exact⟨fun q=>(by cases q),fun q=>q.elim⟩
  | map kk ag f=>exact Iff.rfl
def borM (ρ:Nat→Pl) (m:AM):List Nat:=(m.map (·.1)).filterMap fun i=>match lk m i with | some b=>wrB ρ i b | none=>none
theorem borM_iff {m:AM} {g:Nat}:g ∈ borM ρ m↔∃ i b,lk m i=some b∧bwr ρ i b g:=by
 constructor
 ·intro h
  obtain⟨i,-,h⟩:=List.mem_filterMap.1 h
  cases hl:lk m i with
  | none=>rw[hl] at h;cases h
  | some b=>rw[hl] at h;exact⟨i,b,hl,(wrB_iff b).1 h⟩
 ·rintro⟨i,b,hl,h⟩
  exact List.mem_filterMap.2 ⟨i,List.mem_map.2 ⟨_,lk_mem hl,rfl⟩,by rw[hl];exact (wrB_iff b).2 h⟩
theorem Sat.lend (h:Sat C ρ fr mem nx a w) {m0:AM} {k0:Nat} (hk:keepsU mem σ m0) (hnb:noBox σ m0=true) (hnm:nmM k0 m0=true) (nt:Nat) :
  MemAt { w0:=w,bor:=borM (fun i=>ρ (rnm σ i)) m0,n0:=k0,ρ0:=fun i=>ρ (rnm σ i),nt:=nt } (fun i=>ρ (rnm σ i)) m0 k0 w:=by
 simp only[nmM,List.all_eq_true,Bool.and_eq_true,decide_eq_true_eq] at hnm
 have hblk:∀ i b,lk m0 i=some b→BlkOk { w0:=w,bor:=borM (fun i=>ρ (rnm σ i)) m0,n0:=k0,ρ0:=fun i=>ρ (rnm σ i),nt:=nt } (fun i=>ρ (rnm σ i)) k0 i w b:=by
  intro i b hi
  obtain⟨b',h1,h2⟩:=keepsU_lk hk i b hi
  have hb:=h.blk _ _ (lk_app h1)
  have:=hb.ctxU (C':={ w0:=w,bor:=borM (fun i=>ρ (rnm σ i)) m0,n0:=k0,ρ0:=fun i=>ρ (rnm σ i),nt:=nt }) fun g hg=>.inr (borM_iff.2 ⟨i,b,hi,by rw[bwr_rn,← h2,bwr_un];exact hg⟩)
  rw[h2] at this
  exact this.rnI (hnm _ (lk_mem hi)).2
 refine⟨fun i b hi=>?_,hblk,fun i j b b' hne hi hj=>?_,Nat.le_refl _,fun _ _=>rfl,⟨rfl,rfl,rfl,Nat.le_refl _,fun _ _ _=>rfl⟩⟩
 ·obtain⟨b',h1,-⟩:=keepsU_lk hk i b hi
  exact⟨(hnm _ (lk_mem hi)).1,(h.mlt _ _ (lk_app h1)).2⟩
 ·refine (hblk i b hi).apart fun g hg hg2=>?_
  obtain⟨c,h1,h2⟩:=keepsU_lk hk i b hi
  obtain⟨c',h1',h2'⟩:=keepsU_lk hk j b' hj
  rw[bwr_rn,← h2,bwr_un] at hg
  rw[brd_rn,← h2',brd_un] at hg2
  by_cases he:rnm σ i=rnm σ j
  ·rw[he,h1'] at h1
   have hx:exB b=true:=by rw[← exB_rn (σ:=σ),← h2,exB_un];exact bwr_ex hg
   have hx2:exB b'=true:=by rw[← exB_rn (σ:=σ),← h2',exB_un,Option.some.inj h1];exact bwr_ex hg
   exact hne (noBox_ne hnb hi hj hx hx2 he)
  ·exact (h.sep _ _ _ _ he (lk_app h1) (lk_app h1')).wr (h.sep _ _ _ _ (Ne.symm he) (lk_app h1') (lk_app h1)) hg hg2
theorem Sat.back (h:Sat C ρ fr mem nx a w) {m0:AM} {k0 d nt:Nat} (hk:keepsU mem σ m0) (hnm00:nmM k0 m0=true) (hlt:allLt σ nx k0=true) {ρ2:Nat→Pl} {mem2:AM} {nx2:Nat}
  (hm:MemAt { w0:=w,bor:=borM (fun i=>ρ (rnm σ i)) m0,n0:=k0,ρ0:=fun i=>ρ (rnm σ i),nt:=nt } ρ2 mem2 nx2 w') {σ1:List (Nat×Nat)} {M1:AM} (hlow1:rnLow k0 σ1=true) (hnb:noBox σ1 M1=true) (hk1:keepsR mem2 σ1 M1) (hnm:nmM (k0+d) M1=true)
  (hfr:M1.all (fun p=>frBk p.2)=true) (hall:(exN m0).all (fun i=>(lk M1 i).isSome)=true) {V:Value} (hV:okV ρ2 nx2 (rnV σ1 V)) (hVn:nmV (k0+d) V=true) :
  ∃ ρ',den ρ2 (rnV σ1 V)=den ρ' (rnV (sgn σ k0 nx d) V)∧okV ρ' (nx+d) (rnV (sgn σ k0 nx d) V)∧Sat C ρ' fr (rnM (sgn σ k0 nx d) M1++mem) (nx+d) a w'∧ExtS ρ nx ρ' (nx+d):=by
 simp only[nmM,List.all_eq_true,Bool.and_eq_true,decide_eq_true_eq] at hnm hnm00 hfr hall
 have hnm0:∀ i b,lk m0 i=some b→i<k0:=fun i b hi=>(hnm00 _ (lk_mem hi)).1
 let σ':=sgn σ k0 nx d
 let ρF:Nat→Pl:=fun i=>if i<nx then ρ i else ρ2 (rnm σ1 (k0+(i-nx)))
 have hFlow:∀ i,i<nx→ρF i=ρ i:=fun i hi=>if_pos hi
 have hlt':∀ i,i<k0+d→rnm σ' i<nx+d:=fun i hi=>by
  rcases Nat.lt_or_ge i k0 with q | q
  ·rw[show rnm σ' i=rnm σ i from sgn_low q d];exact Nat.lt_of_lt_of_le (allLt_at hlt i q) (Nat.le_add_right _ _)
  ·rw[show rnm σ' i=_ from sgn_new q d hi];omega
 have hσ:∀ i,i<k0+d→ρF (rnm σ' i)=ρ2 (rnm σ1 i):=fun i hi=>by
  rcases Nat.lt_or_ge i k0 with q | q
  ·rw[show rnm σ' i=rnm σ i from sgn_low q d,hFlow _ (allLt_at hlt i q),rnm_low hlow1 q]
   exact (hm.low i q).symm
  ·rw[show rnm σ' i=_ from sgn_new q d hi]
   show (if nx+(i-k0)<nx then _ else _)=_
   rw[if_neg (by omega)]
   congr 2
   omega
 -- the permissions
 have hlent:∀ {i b g},lk m0 i=some b→bwr (fun i=>ρ (rnm σ i)) i b g→∃ c,lk mem (rnm σ i)=some c∧bwr ρ (rnm σ i) c g∧exB b=true:=by
  intro i b g hi hg
  obtain⟨c,h1,h2⟩:=keepsU_lk hk i b hi
  refine⟨c,h1,?_,bwr_ex hg⟩
  rw[bwr_rn,← h2,bwr_un] at hg
  exact hg
 have hok:∀ g,({ w0:=w,bor:=borM (fun i=>ρ (rnm σ i)) m0,n0:=k0,ρ0:=fun i=>ρ (rnm σ i),nt:=nt }:Ctx).ok g→C.ok g:=by
  rintro g (hg | hg)
  ·exact .inl (Nat.le_trans h.rest.size hg)
  ·obtain⟨i,b,hi,hg⟩:=borM_iff.1 hg
   obtain⟨c,h1,h2,-⟩:=hlent hi hg
   exact (h.blk _ _ (lk_app h1)).perm h2
 have hlow:∀ i,i<nx→ρF i=ρ i:=hFlow
 have hsz:w.heap.size≤w'.heap.size:=hm.rest.size
 have hstay:∀ b,b<w.heap.size→b ∉ borM (fun i=>ρ (rnm σ i)) m0→w'.heap[b]?=w.heap[b]?:=fun b hlt hn=>hm.rest.block b hlt hn
 -- blocks behind the call
 have hblk1:∀ i b,lk M1 i=some b→BlkOk { w0:=w,bor:=borM (fun i=>ρ (rnm σ i)) m0,n0:=k0,ρ0:=fun i=>ρ (rnm σ i),nt:=nt } (fun i=>ρF (rnm σ' i)) (k0+d) i w' b:=by
  intro i b hi
  have h1:=hm.blk _ _ (keepsR_lk hk1 i b hi)
  have h2:=h1.rnI (hnm _ (lk_mem hi)).2
  exact h2.ren (hσ i (hnm _ (lk_mem hi)).1) (fun j hj _=>hσ j hj) (Nat.le_refl _)
 have hblk2:∀ i b,lk M1 i=some b→BlkOk C ρF (nx+d) (rnm σ' i) w' (rnB σ' b):=fun i b hi=>((hblk1 i b hi).ctxF hok).rnO hlt'
 have hsep1:∀ i j b b' g,i≠j→lk M1 i=some b→lk M1 j=some b'→bwr ρF (rnm σ' i) (rnB σ' b) g→¬ brd ρF (rnm σ' j) (rnB σ' b') g:=by
  intro i j b b' g hne hi hj hg hg2
  rw[← bwr_rn,bwr_ren (ρ:=fun i=>ρ2 (rnm σ1 i)) (ρ':=fun i=>ρF (rnm σ' i)) (hσ i (hnm _ (lk_mem hi)).1) b,bwr_rn (σ:=σ1)] at hg
  rw[← brd_rn,brd_ren (ρ:=fun i=>ρ2 (rnm σ1 i)) (ρ':=fun i=>ρF (rnm σ' i)) (hσ j (hnm _ (lk_mem hj)).1) b',brd_rn (σ:=σ1)] at hg2
  have h1:=keepsR_lk hk1 i b hi
  have h2:=keepsR_lk hk1 j b' hj
  by_cases he:rnm σ1 i=rnm σ1 j
  ·rw[he,h2] at h1
   have hx:=bwr_ex hg
   have hx2:exB b'=true:=by rw[← exB_rn (σ:=σ1),Option.some.inj h1];exact hx
   rw[exB_rn] at hx
   exact hne (noBox_ne hnb hi hj hx hx2 he)
  ·exact (hm.sep _ _ _ _ he h1 h2).wr (hm.sep _ _ _ _ (Ne.symm he) h2 h1) hg hg2
 have hlk:∀ j b,lk (rnM σ' M1++mem++C.fm) j=some b→(∃ i b0,lk M1 i=some b0∧rnm σ' i=j∧b=rnB σ' b0)∨(lk (rnM σ' M1) j=none∧lk (mem++C.fm) j=some b):=by
  intro j b hj
  rw[List.append_assoc] at hj
  cases hki:lk (rnM σ' M1) j with
  | some c=>rw[lk_app hki] at hj;cases hj;exact .inl (rnM_lk hki)
  | none=>rw[lk_none_app hki] at hj;exact .inr ⟨rfl,hj⟩
 -- an old block rests on nothing that was lent
 have hfar:∀ j b g,lk (rnM σ' M1) j=none→lk (mem++C.fm) j=some b→brd ρ j b g→g<w.heap.size∧g ∉ borM (fun i=>ρ (rnm σ i)) m0:=by
  intro j b g hn hj hg
  refine⟨(h.blk j b hj).brd_lt hg,fun hb=>?_⟩
  obtain⟨i,b0,hi,hg0⟩:=borM_iff.1 hb
  obtain⟨c,h1,h2,hx⟩:=hlent hi hg0
  have hne:rnm σ i≠j:=by
   rintro rfl
   have:=hall i (exN_lk hi hx)
   cases hl:lk M1 i with
   | none=>rw[hl] at this;cases this
   | some b1=>
    have hi0:i<k0:=hnm0 i b0 hi
    have:=rnM_some (σ:=σ') hl
    rw[show rnm σ' i=rnm σ i from sgn_low hi0 d] at this
    exact this hn
  exact (h.sep _ _ _ _ hne (lk_app h1) hj).wr (h.sep _ _ _ _ (Ne.symm hne) hj (lk_app h1)) h2 hg
 have hnew:∀ i b g,lk M1 i=some b→brd ρF (rnm σ' i) (rnB σ' b) g→w.heap.size≤g∨g ∈ borM (fun i=>ρ (rnm σ i)) m0:=by
  intro i b g hi hg
  rw[← brd_rn] at hg
  exact (hblk1 i b hi).made (hfr _ (lk_mem hi)) hg
 have hold:∀ j b,lk (rnM σ' M1) j=none→lk (mem++C.fm) j=some b→BlkOk C ρF (nx+d) j w' b:=by
  intro j b hn hj
  have hltj:=(h.mlt j b hj).1
  refine (((h.blk j b hj).far hsz fun g hg=>?_)).ren (hlow j hltj) (fun q hq _=>hlow q hq) (Nat.le_add_right _ _)
  obtain⟨q1,q2⟩:=hfar j b g hn hj hg
  exact hstay g q1 q2
 have hcross:∀ i b j b',lk M1 i=some b→lk (rnM σ' M1) j=none→lk (mem++C.fm) j=some b'→∀ g,brd ρF (rnm σ' i) (rnB σ' b) g→¬ brd ρF j b' g:=by
  intro i b j b' hi hn hj g hg hg2
  rw[brd_ren (hlow j (h.mlt j b' hj).1)] at hg2
  obtain⟨q1,q2⟩:=hfar j b' g hn hj hg2
  rcases hnew i b g hi hg with q | q
  ·omega
  ·exact q2 q
 refine⟨ρF,?_,?_,⟨⟨fun t v hv=>?_,fun t v hv=>okV_mono (fun j hj _=>hlow j hj) (Nat.le_add_right _ _) (h.fok.frk t v hv)⟩,h.sz,h.dfr,fun j b hj=>?_,fun j b hj=>?_,fun i j b b' hne hi hj=>?_,Nat.le_trans h.n0 (Nat.le_add_right _ _),fun i hi=>(hlow i (Nat.lt_of_lt_of_le hi h.n0)).trans (h.low i hi),?_⟩,⟨hlow,Nat.le_add_right _ _⟩⟩
 ·rw[← den_rn,← den_rn]
  exact (den_congr (ρ:=fun i=>ρ2 (rnm σ1 i)) (ρ':=fun i=>ρF (rnm σ' i)) (fun j hj _=>hσ j hj) (okV_rn hV hVn)).symm
 ·exact okV_rnO hlt' (okV_mono (ρ':=fun i=>ρF (rnm σ' i)) (fun j hj _=>hσ j hj) (Nat.le_refl _) (okV_rn hV hVn))
 ·rw[den_congr (fun j hj _=>hlow j hj) (h.fok.frk t v hv)];exact h.fok.frm t v hv
 ·rcases hlk j b hj with⟨i,b0,hi,rfl,rfl⟩ | ⟨hn,hj⟩
  ·have hi2:=(hnm _ (lk_mem hi)).1
   exact⟨hlt' i hi2,by rw[hσ i hi2];exact (hm.mlt _ _ (keepsR_lk hk1 i b0 hi)).2⟩
  ·exact⟨Nat.lt_of_lt_of_le (h.mlt j b hj).1 (Nat.le_add_right _ _),by rw[hlow j (h.mlt j b hj).1];exact (h.mlt j b hj).2⟩
 ·rcases hlk j b hj with⟨i,b0,hi,rfl,rfl⟩ | ⟨hn,hj⟩
  ·exact hblk2 i b0 hi
  ·exact hold j b hn hj
 ·rcases hlk i b hi with⟨i0,b0,hi1,rfl,rfl⟩ | ⟨hn,hi1⟩
  ·rcases hlk j b' hj with⟨j0,b0',hj1,rfl,rfl⟩ | ⟨hn2,hj1⟩
   ·exact (hblk2 i0 b0 hi1).apart fun g hg=>hsep1 i0 j0 b0 b0' g (fun q=>hne (by rw[q])) hi1 hj1 hg
   ·exact (hblk2 i0 b0 hi1).apart fun g hg=>hcross i0 b0 j b' hi1 hn2 hj1 g (bwr_brd hg)
  ·rcases hlk j b' hj with⟨j0,b0',hj1,rfl,rfl⟩ | ⟨hn2,hj1⟩
   ·exact (hold i b hn hi1).apart fun g hg hg2=>hcross j0 b0' i b hj1 hn hi1 g hg2 (bwr_brd hg)
   ·exact (h.sep i j b b' hne hi1 hj1).ren (hlow i (h.mlt i b hi1).1) (hlow j (h.mlt j b' hj1).1)
 ·refine⟨hm.rest.os.trans h.rest.os,hm.rest.tape.trans h.rest.tape,hm.rest.output.trans h.rest.output,Nat.le_trans h.rest.size hsz,fun b hltb hnb=>?_⟩
  refine (hstay b (Nat.lt_of_lt_of_le hltb h.rest.size) fun hb=>?_).trans (h.rest.block b hltb hnb)
  rcases hok b (.inr hb) with q | q
  ·omega
  ·exact hnb q
theorem ctObj_ok {τ : TT} {F : FT} {D : List (Nat × DQ)} (hτ : TTok P τ) (hF : FTokI P F (inlOf D)) (hmix : P.follows .mixedOrders = true) {f : FuncId} {fn : Func} {c : Code} (hent : (P.funcs[f]?).map (fun fn => (fn.name == "runtime.NumGoroutine", fn.body.isNone)) = some (false, false)) (hf : P.funcs[f]? = some fn) (hb : fn.body = some c) (hcode : codeB fn.ntmps D c = true)
  {X Y:Type} {vs0:X→List Value} {m0:X→AM} {k0:Nat} {pre:X→Prop} {post:X→Y→Prop} {V:X→Y→Value} {M1:X→Y→AM} {d:Nat}
  (hn0:∀ x,Nat.ble (vs0 x).length fn.ntmps=true) (h0:∀ x,objB0 k0 (vs0 x) (m0 x)=true) (h1:∀ x y,objB1 k0 d (m0 x) (V x y) (M1 x y)=true)
  (hw:∀ x,pre x→sx τ F D c (argF 0 (vs0 x)) (m0 x) k0 (endx τ fn.results.toList (objR k0 (post x) (V x) (M1 x)))):CSound P f (ctObj vs0 m0 k0 pre post V M1 d):=by
 refine⟨hent,?_⟩
 rintro C ρ fr mem nx a w vs K ⟨x,σ,hpre,rfl,hk,hnb,hlt,hK⟩ hs hv
 have h0x:=h0 x
 simp only[objB0,Bool.and_eq_true] at h0x
 have hm:=hs.lend hk hnb h0x.1 fn.ntmps
 have hvs:((vs0 x).map (rnV σ)).map (den ρ)=(vs0 x).map (den fun i=>ρ (rnm σ i)):=by simp[Function.comp_def,den_rn]
 rw[hvs]
 have hva:∀ v ∈ vs0 x,okV (fun i=>ρ (rnm σ i)) k0 v:=fun v hv'=>okV_rn (hv _ (List.mem_map_of_mem hv')) (List.all_eq_true.1 h0x.2 v hv')
 refine (calls_sxI hτ hF hmix hf hb hcode (hn0 x) ⟨rfl,rfl⟩ rfl hm hva (hw x hpre)).mono ?_
 rintro e w' ⟨v,mem2,nx2,ρ2,rfl,⟨y,σ1,hpost,hlow1,hnb1,rfl,hk1⟩,hv2,hm2⟩
 have h1x:=h1 x y
 simp only[objB1,Bool.and_eq_true] at h1x
 obtain⟨ρ',e1,e2,e3,e4⟩:=hs.back (d:=d) hk h0x.1 hlt hm2 hlow1 hnb1 hk1 h1x.1.1.1 h1x.1.2 h1x.2 hv2 h1x.1.1.2
 exact⟨_,_,_,ρ',by rw[e1],hK y hpost,e3,e2,e4⟩
end
/-! The router and its reference as objects: Take of the router. -/
structure TX where
 c:Cfg
 xk:CfgK
 yk:CfgK
 key:Int
 hf:HF
 kh:Nat
 xs:List Atl
 j:Nat
 cp:Nat
 n:Int
 t:Int
 p:Int
 s:Int
 A:Atl
 kp:Nat
 kq:Nat
 elq:Nat→List Value
inductive TY where
 | bad
 | old
 | new (k:Nat) (el:Nat→List Value)
structure LX where
 c:Cfg
 xk:CfgK
 yk:CfgK
 key:Int
 hf:HF
 kh:Nat
 t:Int
 x:Int
 e:Int
 A:Atl
 kp:Nat
 kq:Nat
 elq:Nat→List Value
structure BX where
 c:Cfg
 xk:CfgK
 yk:CfgK
 key:Int
 hf:HF
 kh:Nat
 xs:List Atl
 cps:List Nat
 cx:Nat
 st:CS
 A:Atl
 kp:Nat
 kq:Nat
 elq:Nat→List Value
inductive BY where
 | keep (hf:HF)
 | new (hf:HF) (A:Atl) (kp kq:Nat) (el:Nat→List Value)
def knownE (hf:HF) (r:Nat→Int) (t:Int):Int:=if (hf t.toNat).2=0 then r t.toNat else (hf t.toNat).2
theorem knownE_no {hf:HF} {r:Nat→Int} {t:Int} (h:(hf t.toNat).2=0):knownE hf r t=r t.toNat:=if_pos h
theorem knownE_yes {hf:HF} {r:Nat→Int} {t:Int} (h:¬ (hf t.toNat).2=0):knownE hf r t=(hf t.toNat).2:=if_neg h
theorem cs_or {P:Program} {f:FuncId} {c1 c2:CT} (h1:CSound P f c1) (h2:CSound P f c2):CSound P f (fun vs mem nx K=>c1 vs mem nx K∨c2 vs mem nx K):=⟨h1.1,fun {C ρ fr mem nx a w vs K} hc hs hv=>by
 rcases hc with h | h
 ·exact h1.2 h hs hv
 ·exact h2.2 h hs hv⟩
abbrev tkFTkPN:FT:=[(85,ctValidGP),(61,ctCkRoute),(86,ctDelG)]
abbrev tkDTkPN:List (Nat×DQ):=[(1,{ k:=9,L:=[28,54],pre:=[(0,false),(1,false),(2,false),(3,false),(4,false),(5,false),(6,false),(7,false),(8,false)] }),(3,{ k:=12,L:=[28,54],pre:=[(0,false),(1,false),(2,false),(3,false),(4,false),(5,false),(6,false),(7,false),(8,false),(9,false),(10,false),(11,false)] }),(6,{ k:=6,L:=[54],pre:=[(0,false),(1,false),(2,false),(3,false),(4,false),(5,true)] })]
theorem tkFokTkPN:FTokI Tryz.prog tkFTkPN (inlOf tkDTkPN):=fti_cons (validGPOk.i _) (fti_cons (ckRouteOk.i _) (fti_cons (delGOk.i _) fti_nil))
def vsTkPN:TX→List Value:=fun x=>match x with | ⟨c,xk,yk,key,hf,kh,xs,j,cp,n,t,p,s,A,kp,kq,elq⟩=>[ptr 28,.agg #[.int .i64 n,.int .i64 t,.slice (some ⟨50,2,some j⟩) (xs.getD j aZ).routes.length cp,.int .u64 p,.int .u64 s]]
def mTkPN:TX→AM:=fun x=>match x with | ⟨c,xk,yk,key,hf,kh,xs,j,cp,n,t,p,s,A,kp,kq,elq⟩=>[(28,.box 114 [.int .i64 c.regions,slc 21 c.zones.length yk.cz,slc 22 c.cells.length yk.cc,slc 23 c.tenants.length yk.ct,slc 24 c.versions.length yk.cv,slc 25 c.replicas.length yk.cr,slc 26 c.observers.length yk.co,.int .i64 c.blast,.int .i64 c.lease,.int .i64 c.bake,.int .i64 key,.bool false,.int .i64 0,.int .i64 0,zs0,.int .u64 0,.int .u64 0,.map (some 27)]),(27,.ext (.map .i64 true (hintF (hmOf c.tenants.length hf)))),(21,rowOfL 0 1 intC 0 c.zones),(22,rowOfL 0 2 pairC (0,0) c.cells),(23,rowOfL 0 7 tenC default c.tenants),(24,rowOfL 0 2 pairC (0,0) c.versions),(25,rowOfL 0 1 intC 0 c.replicas),(26,rowOfL 0 1 intC 0 c.observers),(50,famB 0 xs)]
def preTkPN:TX→Prop:=fun x=>match x with | ⟨c,xk,yk,key,hf,kh,xs,j,cp,n,t,p,s,A,kp,kq,elq⟩=>(CfgV c∧Lens c)∧HfOk c.tenants.length hf
def postTkPN:TX→TY→Prop:=fun x y=>match x with | ⟨c,xk,yk,key,hf,kh,xs,j,cp,n,t,p,s,A,kp,kq,elq⟩=>match y with | .bad=>¬ ValidA c (⟨n,t,(xs.getD j aZ).routes,p,s⟩:Atl) key | .old=>ValidA c (⟨n,t,(xs.getD j aZ).routes,p,s⟩:Atl) key∧False | .new _ _=>ValidA c (⟨n,t,(xs.getD j aZ).routes,p,s⟩:Atl) key
def VTkPN:TX→TY→Value:=fun x y=>match x with | ⟨c,xk,yk,key,hf,kh,xs,j,cp,n,t,p,s,A,kp,kq,elq⟩=>match y with | .bad=>.int .i64 19 | .old=>.int .i64 20 | .new _ _=>.int .i64 0
def MTkPN:TX→TY→AM:=fun x y=>match x with | ⟨c,xk,yk,key,hf,kh,xs,j,cp,n,t,p,s,A,kp,kq,elq⟩=>match y with | .bad=>[(28,.box 114 [.int .i64 c.regions,slc 21 c.zones.length yk.cz,slc 22 c.cells.length yk.cc,slc 23 c.tenants.length yk.ct,slc 24 c.versions.length yk.cv,slc 25 c.replicas.length yk.cr,slc 26 c.observers.length yk.co,.int .i64 c.blast,.int .i64 c.lease,.int .i64 c.bake,.int .i64 key,.bool false,.int .i64 0,.int .i64 0,zs0,.int .u64 0,.int .u64 0,.map (some 27)]),(27,.ext (.map .i64 true (hintF (hmOf c.tenants.length hf))))] | .old=>[(28,.box 114 [.int .i64 c.regions,slc 21 c.zones.length yk.cz,slc 22 c.cells.length yk.cc,slc 23 c.tenants.length yk.ct,slc 24 c.versions.length yk.cv,slc 25 c.replicas.length yk.cr,slc 26 c.observers.length yk.co,.int .i64 c.blast,.int .i64 c.lease,.int .i64 c.bake,.int .i64 key,.bool false,.int .i64 0,.int .i64 0,zs0,.int .u64 0,.int .u64 0,.map (some 27)]),(27,.ext (.map .i64 true (hintF (hmOf c.tenants.length hf))))] | .new kp2 _=>[(28,.box 114 [.int .i64 c.regions,slc 21 c.zones.length yk.cz,slc 22 c.cells.length yk.cc,slc 23 c.tenants.length yk.ct,slc 24 c.versions.length yk.cv,slc 25 c.replicas.length yk.cr,slc 26 c.observers.length yk.co,.int .i64 c.blast,.int .i64 c.lease,.int .i64 c.bake,.int .i64 key,.bool true,.int .i64 (⟨n,t,(xs.getD j aZ).routes,p,s⟩:Atl).number,.int .i64 (⟨n,t,(xs.getD j aZ).routes,p,s⟩:Atl).tick,slc 54 (⟨n,t,(xs.getD j aZ).routes,p,s⟩:Atl).routes.length kp2,.int .u64 (⟨n,t,(xs.getD j aZ).routes,p,s⟩:Atl).parent,.int .u64 (⟨n,t,(xs.getD j aZ).routes,p,s⟩:Atl).sum,.map (some 27)]),(27,.ext (.map .i64 true (hintF (hmOf c.tenants.length (dlF (⟨n,t,(xs.getD j aZ).routes,p,s⟩:Atl).routes hf c.tenants.length))))),(54,rowOfL 500000 2 pairC (0,0) (⟨n,t,(xs.getD j aZ).routes,p,s⟩:Atl).routes)]
def ctTkPN:CT:=ctObj vsTkPN mTkPN 54 preTkPN postTkPN VTkPN MTkPN 1
set_option maxRecDepth 100000 in
set_option maxHeartbeats 400000000 in
theorem tkPN_sx (c:Cfg) (xk yk:CfgK) (key:Int) (hf:HF) (kh:Nat) (xs:List Atl) (j cp:Nat) (n t p s:Int) (A:Atl) (kp kq:Nat) (elq:Nat→List Value) (hp:(CfgV c∧Lens c)∧HfOk c.tenants.length hf) :
  sx ttR tkFTkPN tkDTkPN (bodyOf Tryz.f57) (argF 0 [ptr 28,.agg #[.int .i64 n,.int .i64 t,.slice (some ⟨50,2,some j⟩) (xs.getD j aZ).routes.length cp,.int .u64 p,.int .u64 s]]) [(28,.box 114 [.int .i64 c.regions,slc 21 c.zones.length yk.cz,slc 22 c.cells.length yk.cc,slc 23 c.tenants.length yk.ct,slc 24 c.versions.length yk.cv,slc 25 c.replicas.length yk.cr,slc 26 c.observers.length yk.co,.int .i64 c.blast,.int .i64 c.lease,.int .i64 c.bake,.int .i64 key,.bool false,.int .i64 0,.int .i64 0,zs0,.int .u64 0,.int .u64 0,.map (some 27)]),(27,.ext (.map .i64 true (hintF (hmOf c.tenants.length hf)))),(21,rowOfL 0 1 intC 0 c.zones),(22,rowOfL 0 2 pairC (0,0) c.cells),(23,rowOfL 0 7 tenC default c.tenants),(24,rowOfL 0 2 pairC (0,0) c.versions),(25,rowOfL 0 1 intC 0 c.replicas),(26,rowOfL 0 1 intC 0 c.observers),(50,famB 0 xs)] 54 (endx ttR Tryz.f57.results.toList (objR 54 (postTkPN ⟨c,xk,yk,key,hf,kh,xs,j,cp,n,t,p,s,A,kp,kq,elq⟩) (VTkPN ⟨c,xk,yk,key,hf,kh,xs,j,cp,n,t,p,s,A,kp,kq,elq⟩) (MTkPN ⟨c,xk,yk,key,hf,kh,xs,j,cp,n,t,p,s,A,kp,kq,elq⟩))):=by
 obtain⟨⟨hV,hL⟩,hH⟩:=hp
 have hnt:=hV.nt
 have hnc:=hV.nc
 refine⟨_,c,(⟨n,t,(xs.getD j aZ).routes,p,s⟩:Atl),_,key,rfl,⟨⟨_,_,_,_,_,_,rfl,⟨.inr (.inl ⟨21,_,rfl,.list rfl⟩),.inr (.inl ⟨22,_,rfl,.list rfl⟩),.inr (.inl ⟨23,_,rfl,.list rfl⟩)⟩,.inr (.inl ⟨24,_,rfl,.list rfl⟩),.inr (.inl ⟨25,_,rfl,.list rfl⟩),.inr (.inl ⟨26,_,rfl,.list rfl⟩)⟩,.fam rfl⟩,hL,fun b1 hb1=>?_⟩
 cases b1
 ·repeat (first | refine⟨fun _=>?_,fun h=>Bool.noConfusion h⟩ | refine⟨fun h=>Bool.noConfusion h,fun _=>?_⟩ | fail)
  exact⟨.bad,[],fun q=>absurd (hb1.2 q) (by decide),rfl,rfl,rfl,kp_⟩
 ·have hvb:=hb1.1 rfl
  repeat (first | refine⟨fun _=>?_,fun h=>Bool.noConfusion h⟩ | refine⟨fun h=>Bool.noConfusion h,fun _=>?_⟩ | fail)
  have hlen:=hvb.len
  refine⟨_,(⟨n,t,(xs.getD j aZ).routes,p,s⟩:Atl).routes,rfl,.fam rfl,by rw[hlen];omega,fun kp2=>?_⟩
  refine⟨kp_,?_⟩
  refine⟨27,hmOf c.tenants.length hf,54,_,_,_,_,_,55,(⟨n,t,(xs.getD j aZ).routes,p,s⟩:Atl).routes,rfl,rfl,rfl,.list rfl,by rw[hlen];exact fun z p h=>hmOf_key h,?_⟩
  repeat (first | refine⟨fun _=>?_,fun h=>Bool.noConfusion h⟩ | refine⟨fun h=>Bool.noConfusion h,fun _=>?_⟩ | fail)
  rw[hmOf_del fun k hk=>(hvb.rt hk).2]
  exact⟨(.new kp2 fun _=>[]),[(54,55)],hvb,rfl,rfl,rfl,kp_⟩
theorem tkPNOk:CSound Tryz.prog 57 ctTkPN:=ctObj_ok (F:=tkFTkPN) (D:=tkDTkPN) ttRok (tkFokTkPN) mixed (by kernel_rfl) Tryz.func57 rfl (by kernel_rfl) (fun x=>by cases x;rfl) (fun x=>by cases x;rfl) (fun x y=>by cases x;cases y<;>rfl) (fun x hx=>by cases x;exact tkPN_sx _ _ _ _ _ _ _ _ _ _ _ _ _ _ _ _ _ hx)
abbrev tkFTkPS:FT:=[(85,ctValidGP),(61,ctCkRoute),(86,ctDelG)]
abbrev tkDTkPS:List (Nat×DQ):=[(1,{ k:=9,L:=[28,54],pre:=[(0,false),(1,false),(2,false),(3,false),(4,false),(5,false),(6,false),(7,false),(8,false)] }),(3,{ k:=12,L:=[28,54],pre:=[(0,false),(1,false),(2,false),(3,false),(4,false),(5,false),(6,false),(7,false),(8,false),(9,false),(10,false),(11,false)] }),(6,{ k:=6,L:=[54],pre:=[(0,false),(1,false),(2,false),(3,false),(4,false),(5,true)] })]
theorem tkFokTkPS:FTokI Tryz.prog tkFTkPS (inlOf tkDTkPS):=fti_cons (validGPOk.i _) (fti_cons (ckRouteOk.i _) (fti_cons (delGOk.i _) fti_nil))
def vsTkPS:TX→List Value:=fun x=>match x with | ⟨c,xk,yk,key,hf,kh,xs,j,cp,n,t,p,s,A,kp,kq,elq⟩=>[ptr 28,.agg #[.int .i64 n,.int .i64 t,.slice (some ⟨50,2,some j⟩) (xs.getD j aZ).routes.length cp,.int .u64 p,.int .u64 s]]
def mTkPS:TX→AM:=fun x=>match x with | ⟨c,xk,yk,key,hf,kh,xs,j,cp,n,t,p,s,A,kp,kq,elq⟩=>[(28,.box 114 [.int .i64 c.regions,slc 21 c.zones.length yk.cz,slc 22 c.cells.length yk.cc,slc 23 c.tenants.length yk.ct,slc 24 c.versions.length yk.cv,slc 25 c.replicas.length yk.cr,slc 26 c.observers.length yk.co,.int .i64 c.blast,.int .i64 c.lease,.int .i64 c.bake,.int .i64 key,.bool true,.int .i64 A.number,.int .i64 A.tick,slc 52 A.routes.length kp,.int .u64 A.parent,.int .u64 A.sum,.map (some 27)]),(27,.ext (.map .i64 true (hintF (hmOf c.tenants.length hf)))),(21,rowOfL 0 1 intC 0 c.zones),(22,rowOfL 0 2 pairC (0,0) c.cells),(23,rowOfL 0 7 tenC default c.tenants),(24,rowOfL 0 2 pairC (0,0) c.versions),(25,rowOfL 0 1 intC 0 c.replicas),(26,rowOfL 0 1 intC 0 c.observers),(52,rowOfL 0 2 pairC (0,0) A.routes),(50,famB 0 xs)]
def preTkPS:TX→Prop:=fun x=>match x with | ⟨c,xk,yk,key,hf,kh,xs,j,cp,n,t,p,s,A,kp,kq,elq⟩=>(CfgV c∧Lens c)∧HfOk c.tenants.length hf
def postTkPS:TX→TY→Prop:=fun x y=>match x with | ⟨c,xk,yk,key,hf,kh,xs,j,cp,n,t,p,s,A,kp,kq,elq⟩=>match y with | .bad=>¬ ValidA c (⟨n,t,(xs.getD j aZ).routes,p,s⟩:Atl) key | .old=>ValidA c (⟨n,t,(xs.getD j aZ).routes,p,s⟩:Atl) key∧A.number≥n | .new _ _=>ValidA c (⟨n,t,(xs.getD j aZ).routes,p,s⟩:Atl) key∧¬ A.number≥n
def VTkPS:TX→TY→Value:=fun x y=>match x with | ⟨c,xk,yk,key,hf,kh,xs,j,cp,n,t,p,s,A,kp,kq,elq⟩=>match y with | .bad=>.int .i64 19 | .old=>.int .i64 20 | .new _ _=>.int .i64 0
def MTkPS:TX→TY→AM:=fun x y=>match x with | ⟨c,xk,yk,key,hf,kh,xs,j,cp,n,t,p,s,A,kp,kq,elq⟩=>match y with | .bad=>[(28,.box 114 [.int .i64 c.regions,slc 21 c.zones.length yk.cz,slc 22 c.cells.length yk.cc,slc 23 c.tenants.length yk.ct,slc 24 c.versions.length yk.cv,slc 25 c.replicas.length yk.cr,slc 26 c.observers.length yk.co,.int .i64 c.blast,.int .i64 c.lease,.int .i64 c.bake,.int .i64 key,.bool true,.int .i64 A.number,.int .i64 A.tick,slc 52 A.routes.length kp,.int .u64 A.parent,.int .u64 A.sum,.map (some 27)]),(27,.ext (.map .i64 true (hintF (hmOf c.tenants.length hf))))] | .old=>[(28,.box 114 [.int .i64 c.regions,slc 21 c.zones.length yk.cz,slc 22 c.cells.length yk.cc,slc 23 c.tenants.length yk.ct,slc 24 c.versions.length yk.cv,slc 25 c.replicas.length yk.cr,slc 26 c.observers.length yk.co,.int .i64 c.blast,.int .i64 c.lease,.int .i64 c.bake,.int .i64 key,.bool true,.int .i64 A.number,.int .i64 A.tick,slc 52 A.routes.length kp,.int .u64 A.parent,.int .u64 A.sum,.map (some 27)]),(27,.ext (.map .i64 true (hintF (hmOf c.tenants.length hf))))] | .new kp2 _=>[(28,.box 114 [.int .i64 c.regions,slc 21 c.zones.length yk.cz,slc 22 c.cells.length yk.cc,slc 23 c.tenants.length yk.ct,slc 24 c.versions.length yk.cv,slc 25 c.replicas.length yk.cr,slc 26 c.observers.length yk.co,.int .i64 c.blast,.int .i64 c.lease,.int .i64 c.bake,.int .i64 key,.bool true,.int .i64 (⟨n,t,(xs.getD j aZ).routes,p,s⟩:Atl).number,.int .i64 (⟨n,t,(xs.getD j aZ).routes,p,s⟩:Atl).tick,slc 54 (⟨n,t,(xs.getD j aZ).routes,p,s⟩:Atl).routes.length kp2,.int .u64 (⟨n,t,(xs.getD j aZ).routes,p,s⟩:Atl).parent,.int .u64 (⟨n,t,(xs.getD j aZ).routes,p,s⟩:Atl).sum,.map (some 27)]),(27,.ext (.map .i64 true (hintF (hmOf c.tenants.length (dlF (⟨n,t,(xs.getD j aZ).routes,p,s⟩:Atl).routes hf c.tenants.length))))),(54,rowOfL 500000 2 pairC (0,0) (⟨n,t,(xs.getD j aZ).routes,p,s⟩:Atl).routes)]
def ctTkPS:CT:=ctObj vsTkPS mTkPS 54 preTkPS postTkPS VTkPS MTkPS 1
set_option maxRecDepth 100000 in
set_option maxHeartbeats 400000000 in
theorem tkPS_sx (c:Cfg) (xk yk:CfgK) (key:Int) (hf:HF) (kh:Nat) (xs:List Atl) (j cp:Nat) (n t p s:Int) (A:Atl) (kp kq:Nat) (elq:Nat→List Value) (hp:(CfgV c∧Lens c)∧HfOk c.tenants.length hf) :
  sx ttR tkFTkPS tkDTkPS (bodyOf Tryz.f57) (argF 0 [ptr 28,.agg #[.int .i64 n,.int .i64 t,.slice (some ⟨50,2,some j⟩) (xs.getD j aZ).routes.length cp,.int .u64 p,.int .u64 s]]) [(28,.box 114 [.int .i64 c.regions,slc 21 c.zones.length yk.cz,slc 22 c.cells.length yk.cc,slc 23 c.tenants.length yk.ct,slc 24 c.versions.length yk.cv,slc 25 c.replicas.length yk.cr,slc 26 c.observers.length yk.co,.int .i64 c.blast,.int .i64 c.lease,.int .i64 c.bake,.int .i64 key,.bool true,.int .i64 A.number,.int .i64 A.tick,slc 52 A.routes.length kp,.int .u64 A.parent,.int .u64 A.sum,.map (some 27)]),(27,.ext (.map .i64 true (hintF (hmOf c.tenants.length hf)))),(21,rowOfL 0 1 intC 0 c.zones),(22,rowOfL 0 2 pairC (0,0) c.cells),(23,rowOfL 0 7 tenC default c.tenants),(24,rowOfL 0 2 pairC (0,0) c.versions),(25,rowOfL 0 1 intC 0 c.replicas),(26,rowOfL 0 1 intC 0 c.observers),(52,rowOfL 0 2 pairC (0,0) A.routes),(50,famB 0 xs)] 54 (endx ttR Tryz.f57.results.toList (objR 54 (postTkPS ⟨c,xk,yk,key,hf,kh,xs,j,cp,n,t,p,s,A,kp,kq,elq⟩) (VTkPS ⟨c,xk,yk,key,hf,kh,xs,j,cp,n,t,p,s,A,kp,kq,elq⟩) (MTkPS ⟨c,xk,yk,key,hf,kh,xs,j,cp,n,t,p,s,A,kp,kq,elq⟩))):=by
 obtain⟨⟨hV,hL⟩,hH⟩:=hp
 have hnt:=hV.nt
 have hnc:=hV.nc
 refine⟨_,c,(⟨n,t,(xs.getD j aZ).routes,p,s⟩:Atl),_,key,rfl,⟨⟨_,_,_,_,_,_,rfl,⟨.inr (.inl ⟨21,_,rfl,.list rfl⟩),.inr (.inl ⟨22,_,rfl,.list rfl⟩),.inr (.inl ⟨23,_,rfl,.list rfl⟩)⟩,.inr (.inl ⟨24,_,rfl,.list rfl⟩),.inr (.inl ⟨25,_,rfl,.list rfl⟩),.inr (.inl ⟨26,_,rfl,.list rfl⟩)⟩,.fam rfl⟩,hL,fun b1 hb1=>?_⟩
 cases b1
 ·repeat (first | refine⟨fun _=>?_,fun h=>Bool.noConfusion h⟩ | refine⟨fun h=>Bool.noConfusion h,fun _=>?_⟩ | fail)
  exact⟨.bad,[],fun q=>absurd (hb1.2 q) (by decide),rfl,rfl,rfl,kp_⟩
 ·have hvb:=hb1.1 rfl
  repeat (first | refine⟨fun _=>?_,fun h=>Bool.noConfusion h⟩ | refine⟨fun h=>Bool.noConfusion h,fun _=>?_⟩ | fail)
  by_cases hnew:A.number≥n
  ·refine⟨fun _=>?_,fun q=>absurd hnew (of_decide_eq_false q)⟩
   repeat (first | refine⟨fun _=>?_,fun h=>Bool.noConfusion h⟩ | refine⟨fun h=>Bool.noConfusion h,fun _=>?_⟩ | fail)
   exact⟨.old,[],⟨hvb,hnew⟩,rfl,rfl,rfl,kp_⟩
  ·refine⟨fun q=>absurd (of_decide_eq_true q) hnew,fun _=>?_⟩
   repeat (first | refine⟨fun _=>?_,fun h=>Bool.noConfusion h⟩ | refine⟨fun h=>Bool.noConfusion h,fun _=>?_⟩ | fail)
   have hlen:=hvb.len
   refine⟨_,(⟨n,t,(xs.getD j aZ).routes,p,s⟩:Atl).routes,rfl,.fam rfl,by rw[hlen];omega,fun kp2=>?_⟩
   refine⟨kp_,?_⟩
   refine⟨27,hmOf c.tenants.length hf,54,_,_,_,_,_,55,(⟨n,t,(xs.getD j aZ).routes,p,s⟩:Atl).routes,rfl,rfl,rfl,.list rfl,by rw[hlen];exact fun z p h=>hmOf_key h,?_⟩
   repeat (first | refine⟨fun _=>?_,fun h=>Bool.noConfusion h⟩ | refine⟨fun h=>Bool.noConfusion h,fun _=>?_⟩ | fail)
   rw[hmOf_del fun k hk=>(hvb.rt hk).2]
   exact⟨(.new kp2 fun _=>[]),[(54,55)],⟨hvb,hnew⟩,rfl,rfl,rfl,kp_⟩
theorem tkPSOk:CSound Tryz.prog 57 ctTkPS:=ctObj_ok (F:=tkFTkPS) (D:=tkDTkPS) ttRok (tkFokTkPS) mixed (by kernel_rfl) Tryz.func57 rfl (by kernel_rfl) (fun x=>by cases x;rfl) (fun x=>by cases x;rfl) (fun x y=>by cases x;cases y<;>rfl) (fun x hx=>by cases x;exact tkPS_sx _ _ _ _ _ _ _ _ _ _ _ _ _ _ _ _ _ hx)
def ctTkP:CT:=fun vs mem nx K=>ctTkPN vs mem nx K∨ctTkPS vs mem nx K
theorem tkPOk:CSound Tryz.prog 57 ctTkP:=cs_or tkPNOk tkPSOk
/-! Take of the reference. -/
abbrev tqFTkQN:FT:=[(88,ctValidGR)]
abbrev tqDTkQN:List (Nat×DQ):=[(1,{ k:=9,L:=[31,54],pre:=[(0,false),(1,false),(2,false),(3,false),(4,false),(5,false),(6,false),(7,false),(8,false)] }),(3,{ k:=12,L:=[31,54],pre:=[(0,false),(1,false),(2,false),(3,false),(4,false),(5,false),(6,false),(7,false),(8,false),(9,false),(10,false),(11,false)] }),(5,{ k:=6,L:=[54],pre:=[(0,false),(1,false),(2,false),(3,false),(4,false),(5,true)] }),(10,{ k:=14,L:=[31,30,54],pre:=[(0,false),(1,false),(2,false),(3,false),(4,false),(5,false),(6,false),(7,false),(8,false),(9,false),(10,false),(11,true),(12,true),(13,true)] }),(2000008,{ k:=0,L:=[0,1,2,3,4,5,6,7,8,9,10,11,12,13,14,15,16,17,18,19,20,21,22,23,24,25,26,27,28,29,31,32,33,34,35,36,37,38,39,40,41,42,43,44,45,46,47,48,49,50,51,52,53,54,55,56,57],sl:=[0,3,4] })]
def vsTkQN:TX→List Value:=fun x=>match x with | ⟨c,xk,yk,key,hf,kh,xs,j,cp,n,t,p,s,A,kp,kq,elq⟩=>[ptr 31,.agg #[.int .i64 n,.int .i64 t,.slice (some ⟨50,2,some j⟩) (xs.getD j aZ).routes.length cp,.int .u64 p,.int .u64 s]]
def mTkQN:TX→AM:=fun x=>match x with | ⟨c,xk,yk,key,hf,kh,xs,j,cp,n,t,p,s,A,kp,kq,elq⟩=>[(31,.box 116 [.int .i64 c.regions,slc 18 c.zones.length xk.cz,slc 17 c.cells.length xk.cc,slc 16 c.tenants.length xk.ct,slc 15 c.versions.length xk.cv,slc 14 c.replicas.length xk.cr,slc 13 c.observers.length xk.co,.int .i64 c.blast,.int .i64 c.lease,.int .i64 c.bake,.int .i64 key,.bool false,.int .i64 0,.int .i64 0,zs0,.int .u64 0,.int .u64 0,slc 30 c.tenants.length kh]),(30,.row (1000000+92) 2 kh (fun k=>pairC (hf k))),(18,rowOfL 0 1 intC 0 c.zones),(17,rowOfL 0 2 pairC (0,0) c.cells),(16,rowOfL 0 7 tenC default c.tenants),(15,rowOfL 0 2 pairC (0,0) c.versions),(14,rowOfL 0 1 intC 0 c.replicas),(13,rowOfL 0 1 intC 0 c.observers),(50,famB 0 xs)]
def preTkQN:TX→Prop:=fun x=>match x with | ⟨c,xk,yk,key,hf,kh,xs,j,cp,n,t,p,s,A,kp,kq,elq⟩=>(CfgV c∧Lens c)∧HfOk c.tenants.length hf∧c.tenants.length≤kh
def postTkQN:TX→TY→Prop:=fun x y=>match x with | ⟨c,xk,yk,key,hf,kh,xs,j,cp,n,t,p,s,A,kp,kq,elq⟩=>match y with | .bad=>¬ ValidA c (⟨n,t,(xs.getD j aZ).routes,p,s⟩:Atl) key | .old=>ValidA c (⟨n,t,(xs.getD j aZ).routes,p,s⟩:Atl) key∧False | .new kq2 el2=>(ValidA c (⟨n,t,(xs.getD j aZ).routes,p,s⟩:Atl) key)∧(⟨n,t,(xs.getD j aZ).routes,p,s⟩:Atl).routes.length≤kq2∧∀ k,k<(⟨n,t,(xs.getD j aZ).routes,p,s⟩:Atl).routes.length→el2 k=pairC ((⟨n,t,(xs.getD j aZ).routes,p,s⟩:Atl).routes.getD k (0,0))
def VTkQN:TX→TY→Value:=fun x y=>match x with | ⟨c,xk,yk,key,hf,kh,xs,j,cp,n,t,p,s,A,kp,kq,elq⟩=>match y with | .bad=>.int .i64 19 | .old=>.int .i64 20 | .new _ _=>.int .i64 0
def MTkQN:TX→TY→AM:=fun x y=>match x with | ⟨c,xk,yk,key,hf,kh,xs,j,cp,n,t,p,s,A,kp,kq,elq⟩=>match y with | .bad=>[(31,.box 116 [.int .i64 c.regions,slc 18 c.zones.length xk.cz,slc 17 c.cells.length xk.cc,slc 16 c.tenants.length xk.ct,slc 15 c.versions.length xk.cv,slc 14 c.replicas.length xk.cr,slc 13 c.observers.length xk.co,.int .i64 c.blast,.int .i64 c.lease,.int .i64 c.bake,.int .i64 key,.bool false,.int .i64 0,.int .i64 0,zs0,.int .u64 0,.int .u64 0,slc 30 c.tenants.length kh]),(30,.row (1000000+92) 2 kh (fun k=>pairC (hf k)))] | .old=>[(31,.box 116 [.int .i64 c.regions,slc 18 c.zones.length xk.cz,slc 17 c.cells.length xk.cc,slc 16 c.tenants.length xk.ct,slc 15 c.versions.length xk.cv,slc 14 c.replicas.length xk.cr,slc 13 c.observers.length xk.co,.int .i64 c.blast,.int .i64 c.lease,.int .i64 c.bake,.int .i64 key,.bool false,.int .i64 0,.int .i64 0,zs0,.int .u64 0,.int .u64 0,slc 30 c.tenants.length kh]),(30,.row (1000000+92) 2 kh (fun k=>pairC (hf k)))] | .new kq2 el2=>[(31,.box 116 [.int .i64 c.regions,slc 18 c.zones.length xk.cz,slc 17 c.cells.length xk.cc,slc 16 c.tenants.length xk.ct,slc 15 c.versions.length xk.cv,slc 14 c.replicas.length xk.cr,slc 13 c.observers.length xk.co,.int .i64 c.blast,.int .i64 c.lease,.int .i64 c.bake,.int .i64 key,.bool true,.int .i64 (⟨n,t,(xs.getD j aZ).routes,p,s⟩:Atl).number,.int .i64 (⟨n,t,(xs.getD j aZ).routes,p,s⟩:Atl).tick,slc 54 (⟨n,t,(xs.getD j aZ).routes,p,s⟩:Atl).routes.length kq2,.int .u64 (⟨n,t,(xs.getD j aZ).routes,p,s⟩:Atl).parent,.int .u64 (⟨n,t,(xs.getD j aZ).routes,p,s⟩:Atl).sum,slc 30 c.tenants.length kh]),(30,.row (1000000+92) 2 kh (fun k=>pairC ((dlF (⟨n,t,(xs.getD j aZ).routes,p,s⟩:Atl).routes hf c.tenants.length) k))),(54,.row (1000000+92) 2 kq2 el2)]
def ctTkQN:CT:=ctObj vsTkQN mTkQN 54 preTkQN postTkQN VTkQN MTkQN 1
set_option maxRecDepth 100000 in
set_option maxHeartbeats 400000000 in
theorem tkQN_sx (c:Cfg) (xk yk:CfgK) (key:Int) (hf:HF) (kh:Nat) (xs:List Atl) (j cp:Nat) (n t p s:Int) (A:Atl) (kp kq:Nat) (elq:Nat→List Value) (hp:(CfgV c∧Lens c)∧HfOk c.tenants.length hf∧c.tenants.length≤kh) :
  sx ttP tqFTkQN tqDTkQN (bodyOf Tryz.f58) (argF 0 [ptr 31,.agg #[.int .i64 n,.int .i64 t,.slice (some ⟨50,2,some j⟩) (xs.getD j aZ).routes.length cp,.int .u64 p,.int .u64 s]]) [(31,.box 116 [.int .i64 c.regions,slc 18 c.zones.length xk.cz,slc 17 c.cells.length xk.cc,slc 16 c.tenants.length xk.ct,slc 15 c.versions.length xk.cv,slc 14 c.replicas.length xk.cr,slc 13 c.observers.length xk.co,.int .i64 c.blast,.int .i64 c.lease,.int .i64 c.bake,.int .i64 key,.bool false,.int .i64 0,.int .i64 0,zs0,.int .u64 0,.int .u64 0,slc 30 c.tenants.length kh]),(30,.row (1000000+92) 2 kh (fun k=>pairC (hf k))),(18,rowOfL 0 1 intC 0 c.zones),(17,rowOfL 0 2 pairC (0,0) c.cells),(16,rowOfL 0 7 tenC default c.tenants),(15,rowOfL 0 2 pairC (0,0) c.versions),(14,rowOfL 0 1 intC 0 c.replicas),(13,rowOfL 0 1 intC 0 c.observers),(50,famB 0 xs)] 54 (endx ttP Tryz.f58.results.toList (objR 54 (postTkQN ⟨c,xk,yk,key,hf,kh,xs,j,cp,n,t,p,s,A,kp,kq,elq⟩) (VTkQN ⟨c,xk,yk,key,hf,kh,xs,j,cp,n,t,p,s,A,kp,kq,elq⟩) (MTkQN ⟨c,xk,yk,key,hf,kh,xs,j,cp,n,t,p,s,A,kp,kq,elq⟩))):=by
 obtain⟨⟨hV,hL⟩,hH⟩:=hp
 have hnt:=hV.nt
 have hnc:=hV.nc
 obtain⟨hH,hkh⟩:=hH
 refine⟨_,c,(⟨n,t,(xs.getD j aZ).routes,p,s⟩:Atl),_,key,rfl,⟨.has (N:=⟨18,17,16,15,14,13,0⟩) (x:=xk) (HasCfg.keeps kp_),.fam rfl⟩,hL,fun b1 hb1=>?_⟩
 cases b1
 ·repeat (first | refine⟨fun _=>?_,fun h=>Bool.noConfusion h⟩ | refine⟨fun h=>Bool.noConfusion h,fun _=>?_⟩ | fail)
  exact⟨.bad,[],fun q=>absurd (hb1.2 q) (by decide),rfl,rfl,rfl,kp_⟩
 ·have hvb:=hb1.1 rfl
  repeat (first | refine⟨fun _=>?_,fun h=>Bool.noConfusion h⟩ | refine⟨fun h=>Bool.noConfusion h,fun _=>?_⟩ | fail)
  have hlen:=hvb.len
  refine⟨kp_,?_⟩
  refine⟨⟨Nat.le_refl _,fun k hk=>rfl⟩,?_⟩
  refine⟨⟨rfl,Nat.le_refl _⟩,fun hin el2 ⟨g1,_⟩ g2=>?_,fun hgt=>⟨by show (0+(⟨n,t,(xs.getD j aZ).routes,p,s⟩:Atl).routes.length) * 16≤140737488355328;rw[hlen];omega,fun cap2 el2 ⟨hcq,_⟩ g1 g2=>?_⟩⟩
  ·rw[Nat.zero_add]
   refine⟨Int×HF,fun q=>match q with | (z,h2)=>[(5,.int .i64 z)],fun q=>match q with | (z,h2)=>[(30,.row (1000000+92) 2 kh (fun k=>pairC (h2 k)))],fun q=>match q with | (z,h2)=>(0≤z∧z≤c.tenants.length)∧h2=dlF (⟨n,t,(xs.getD j aZ).routes,p,s⟩:Atl).routes hf z.toNat,fun q=>match q with | (z,h2)=>((c.tenants.length:Int)-z).toNat,⟨(0,hf),⟨by omega,(dlF_zero _ _).symm⟩,kp_,kp_⟩,?_⟩
   rintro⟨z,h2⟩ ⟨hz,rfl⟩
   refine⟨⟨rfl,rfl⟩,?_⟩
   refine⟨fun hzl=>?_,fun hzg=>?_⟩
   ·have hzl2:z<(c.tenants.length:Int):=of_decide_eq_true hzl
    refine⟨⟨by first | exact Nat.le_refl _ | omega,hz.1,hzl2⟩,?_⟩
    refine⟨⟨Nat.le_refl _,hz.1,by have h9:z<(((⟨n,t,(xs.getD j aZ).routes,p,s⟩:Atl).routes.length:Nat):Int):=(by rw[hlen];exact hzl2);exact h9⟩,?_⟩
    refine⟨kp_,?_⟩
    refine⟨kp_,?_⟩
    refine⟨kp_,?_⟩
    refine⟨fun hg=>?_,fun hg=>?_⟩
    ·have hg2:(dlF (⟨n,t,(xs.getD j aZ).routes,p,s⟩:Atl).routes hf z.toNat z.toNat).2≤((⟨n,t,(xs.getD j aZ).routes,p,s⟩:Atl).routes.getD z.toNat (0,0)).2:=of_decide_eq_true hg
     rw[dlF_at] at hg2
     refine⟨⟨by first | exact Nat.le_refl _ | omega,hz.1,hzl2⟩,?_⟩
     refine⟨pairC (0,0),rfl,?_⟩
     rw[setEl_hf]
     refine⟨(IntKind.i64.wrap (z+1),stF (dlF (⟨n,t,(xs.getD j aZ).routes,p,s⟩:Atl).routes hf z.toNat) z.toNat (0,0)),?_,kp_,kp_⟩
     rw[wrapi (n:=z+1) (by omega)]
     dsimp only
     exact⟨⟨⟨by omega,by omega⟩,by rw[show (z+1).toNat=z.toNat+1 by omega];exact dlF_yes hg2⟩,by omega⟩
    ·have hg2:¬ (dlF (⟨n,t,(xs.getD j aZ).routes,p,s⟩:Atl).routes hf z.toNat z.toNat).2≤((⟨n,t,(xs.getD j aZ).routes,p,s⟩:Atl).routes.getD z.toNat (0,0)).2:=of_decide_eq_false hg
     rw[dlF_at] at hg2
     refine⟨(IntKind.i64.wrap (z+1),dlF (⟨n,t,(xs.getD j aZ).routes,p,s⟩:Atl).routes hf z.toNat),?_,kp_,kp_⟩
     rw[wrapi (n:=z+1) (by omega)]
     dsimp only
     exact⟨⟨⟨by omega,by omega⟩,by rw[show (z+1).toNat=z.toNat+1 by omega];exact dlF_no hg2⟩,by omega⟩
   ·have hge2:¬ z<(c.tenants.length:Int):=of_decide_eq_false hzg
    obtain rfl:z=(c.tenants.length:Int):=by omega
    repeat (first | refine⟨fun _=>?_,fun h=>Bool.noConfusion h⟩ | refine⟨fun h=>Bool.noConfusion h,fun _=>?_⟩ | fail)
    exact⟨.new 0 el2,[(54,55)],⟨hvb,Nat.le_trans (Nat.le_of_eq (Nat.zero_add _).symm) hin,fun k hk=>by have q:=g2 k hk;rwa[Nat.zero_add] at q⟩,rfl,rfl,rfl,(by (try rw[Nat.zero_add]);repeat (first | exact trivial | refine⟨rfl,?_⟩))⟩
  ·rw[Nat.zero_add]
   refine⟨Int×HF,fun q=>match q with | (z,h2)=>[(5,.int .i64 z)],fun q=>match q with | (z,h2)=>[(30,.row (1000000+92) 2 kh (fun k=>pairC (h2 k)))],fun q=>match q with | (z,h2)=>(0≤z∧z≤c.tenants.length)∧h2=dlF (⟨n,t,(xs.getD j aZ).routes,p,s⟩:Atl).routes hf z.toNat,fun q=>match q with | (z,h2)=>((c.tenants.length:Int)-z).toNat,⟨(0,hf),⟨by omega,(dlF_zero _ _).symm⟩,kp_,kp_⟩,?_⟩
   rintro⟨z,h2⟩ ⟨hz,rfl⟩
   refine⟨⟨rfl,rfl⟩,?_⟩
   refine⟨fun hzl=>?_,fun hzg=>?_⟩
   ·have hzl2:z<(c.tenants.length:Int):=of_decide_eq_true hzl
    refine⟨⟨by first | exact Nat.le_refl _ | omega,hz.1,hzl2⟩,?_⟩
    refine⟨⟨Nat.le_refl _,hz.1,by have h9:z<(((⟨n,t,(xs.getD j aZ).routes,p,s⟩:Atl).routes.length:Nat):Int):=(by rw[hlen];exact hzl2);exact h9⟩,?_⟩
    refine⟨kp_,?_⟩
    refine⟨kp_,?_⟩
    refine⟨kp_,?_⟩
    refine⟨fun hg=>?_,fun hg=>?_⟩
    ·have hg2:(dlF (⟨n,t,(xs.getD j aZ).routes,p,s⟩:Atl).routes hf z.toNat z.toNat).2≤((⟨n,t,(xs.getD j aZ).routes,p,s⟩:Atl).routes.getD z.toNat (0,0)).2:=of_decide_eq_true hg
     rw[dlF_at] at hg2
     refine⟨⟨by first | exact Nat.le_refl _ | omega,hz.1,hzl2⟩,?_⟩
     refine⟨pairC (0,0),rfl,?_⟩
     rw[setEl_hf]
     refine⟨(IntKind.i64.wrap (z+1),stF (dlF (⟨n,t,(xs.getD j aZ).routes,p,s⟩:Atl).routes hf z.toNat) z.toNat (0,0)),?_,kp_,kp_⟩
     rw[wrapi (n:=z+1) (by omega)]
     dsimp only
     exact⟨⟨⟨by omega,by omega⟩,by rw[show (z+1).toNat=z.toNat+1 by omega];exact dlF_yes hg2⟩,by omega⟩
    ·have hg2:¬ (dlF (⟨n,t,(xs.getD j aZ).routes,p,s⟩:Atl).routes hf z.toNat z.toNat).2≤((⟨n,t,(xs.getD j aZ).routes,p,s⟩:Atl).routes.getD z.toNat (0,0)).2:=of_decide_eq_false hg
     rw[dlF_at] at hg2
     refine⟨(IntKind.i64.wrap (z+1),dlF (⟨n,t,(xs.getD j aZ).routes,p,s⟩:Atl).routes hf z.toNat),?_,kp_,kp_⟩
     rw[wrapi (n:=z+1) (by omega)]
     dsimp only
     exact⟨⟨⟨by omega,by omega⟩,by rw[show (z+1).toNat=z.toNat+1 by omega];exact dlF_no hg2⟩,by omega⟩
   ·have hge2:¬ z<(c.tenants.length:Int):=of_decide_eq_false hzg
    obtain rfl:z=(c.tenants.length:Int):=by omega
    repeat (first | refine⟨fun _=>?_,fun h=>Bool.noConfusion h⟩ | refine⟨fun h=>Bool.noConfusion h,fun _=>?_⟩ | fail)
    exact⟨.new cap2 el2,[(54,56)],⟨hvb,Nat.le_trans (Nat.le_of_eq (Nat.zero_add _).symm) hcq,fun k hk=>by have q:=g2 k hk;rwa[Nat.zero_add] at q⟩,rfl,rfl,rfl,(by (try rw[Nat.zero_add]);repeat (first | exact trivial | refine⟨rfl,?_⟩))⟩
theorem tkQNOk:CSound Tryz.prog 58 ctTkQN:=ctObj_ok (F:=tqFTkQN) (D:=tqDTkQN) ttPok (fti_cons (validGROk.i _) fti_nil) mixed (by kernel_rfl) Tryz.func58 rfl (by kernel_rfl) (fun x=>by cases x;rfl) (fun x=>by cases x;rfl) (fun x y=>by cases x;cases y<;>rfl) (fun x hx=>by cases x;exact tkQN_sx _ _ _ _ _ _ _ _ _ _ _ _ _ _ _ _ _ hx)
abbrev tqFTkQS:FT:=[(88,ctValidGR)]
abbrev tqDTkQS:List (Nat×DQ):=[(1,{ k:=9,L:=[31,54],pre:=[(0,false),(1,false),(2,false),(3,false),(4,false),(5,false),(6,false),(7,false),(8,false)] }),(3,{ k:=12,L:=[31,54],pre:=[(0,false),(1,false),(2,false),(3,false),(4,false),(5,false),(6,false),(7,false),(8,false),(9,false),(10,false),(11,false)] }),(5,{ k:=6,L:=[54],pre:=[(0,false),(1,false),(2,false),(3,false),(4,false),(5,true)] }),(10,{ k:=14,L:=[31,30,54],pre:=[(0,false),(1,false),(2,false),(3,false),(4,false),(5,false),(6,false),(7,false),(8,false),(9,false),(10,false),(11,true),(12,true),(13,true)] }),(2000008,{ k:=0,L:=[0,1,2,3,4,5,6,7,8,9,10,11,12,13,14,15,16,17,18,19,20,21,22,23,24,25,26,27,28,29,31,32,33,34,35,36,37,38,39,40,41,42,43,44,45,46,47,48,49,50,51,52,53,54,55,56,57],sl:=[0,3,4] })]
def vsTkQS:TX→List Value:=fun x=>match x with | ⟨c,xk,yk,key,hf,kh,xs,j,cp,n,t,p,s,A,kp,kq,elq⟩=>[ptr 31,.agg #[.int .i64 n,.int .i64 t,.slice (some ⟨50,2,some j⟩) (xs.getD j aZ).routes.length cp,.int .u64 p,.int .u64 s]]
def mTkQS:TX→AM:=fun x=>match x with | ⟨c,xk,yk,key,hf,kh,xs,j,cp,n,t,p,s,A,kp,kq,elq⟩=>[(31,.box 116 [.int .i64 c.regions,slc 18 c.zones.length xk.cz,slc 17 c.cells.length xk.cc,slc 16 c.tenants.length xk.ct,slc 15 c.versions.length xk.cv,slc 14 c.replicas.length xk.cr,slc 13 c.observers.length xk.co,.int .i64 c.blast,.int .i64 c.lease,.int .i64 c.bake,.int .i64 key,.bool true,.int .i64 A.number,.int .i64 A.tick,slc 53 A.routes.length kq,.int .u64 A.parent,.int .u64 A.sum,slc 30 c.tenants.length kh]),(30,.row (1000000+92) 2 kh (fun k=>pairC (hf k))),(18,rowOfL 0 1 intC 0 c.zones),(17,rowOfL 0 2 pairC (0,0) c.cells),(16,rowOfL 0 7 tenC default c.tenants),(15,rowOfL 0 2 pairC (0,0) c.versions),(14,rowOfL 0 1 intC 0 c.replicas),(13,rowOfL 0 1 intC 0 c.observers),(53,.row (1000000+92) 2 kq elq),(50,famB 0 xs)]
def preTkQS:TX→Prop:=fun x=>match x with | ⟨c,xk,yk,key,hf,kh,xs,j,cp,n,t,p,s,A,kp,kq,elq⟩=>(CfgV c∧Lens c)∧HfOk c.tenants.length hf∧c.tenants.length≤kh
def postTkQS:TX→TY→Prop:=fun x y=>match x with | ⟨c,xk,yk,key,hf,kh,xs,j,cp,n,t,p,s,A,kp,kq,elq⟩=>match y with | .bad=>¬ ValidA c (⟨n,t,(xs.getD j aZ).routes,p,s⟩:Atl) key | .old=>ValidA c (⟨n,t,(xs.getD j aZ).routes,p,s⟩:Atl) key∧A.number≥n | .new kq2 el2=>(ValidA c (⟨n,t,(xs.getD j aZ).routes,p,s⟩:Atl) key∧¬ A.number≥n)∧(⟨n,t,(xs.getD j aZ).routes,p,s⟩:Atl).routes.length≤kq2∧∀ k,k<(⟨n,t,(xs.getD j aZ).routes,p,s⟩:Atl).routes.length→el2 k=pairC ((⟨n,t,(xs.getD j aZ).routes,p,s⟩:Atl).routes.getD k (0,0))
def VTkQS:TX→TY→Value:=fun x y=>match x with | ⟨c,xk,yk,key,hf,kh,xs,j,cp,n,t,p,s,A,kp,kq,elq⟩=>match y with | .bad=>.int .i64 19 | .old=>.int .i64 20 | .new _ _=>.int .i64 0
def MTkQS:TX→TY→AM:=fun x y=>match x with | ⟨c,xk,yk,key,hf,kh,xs,j,cp,n,t,p,s,A,kp,kq,elq⟩=>match y with | .bad=>[(31,.box 116 [.int .i64 c.regions,slc 18 c.zones.length xk.cz,slc 17 c.cells.length xk.cc,slc 16 c.tenants.length xk.ct,slc 15 c.versions.length xk.cv,slc 14 c.replicas.length xk.cr,slc 13 c.observers.length xk.co,.int .i64 c.blast,.int .i64 c.lease,.int .i64 c.bake,.int .i64 key,.bool true,.int .i64 A.number,.int .i64 A.tick,slc 53 A.routes.length kq,.int .u64 A.parent,.int .u64 A.sum,slc 30 c.tenants.length kh]),(30,.row (1000000+92) 2 kh (fun k=>pairC (hf k))),(53,.row (1000000+92) 2 kq elq)] | .old=>[(31,.box 116 [.int .i64 c.regions,slc 18 c.zones.length xk.cz,slc 17 c.cells.length xk.cc,slc 16 c.tenants.length xk.ct,slc 15 c.versions.length xk.cv,slc 14 c.replicas.length xk.cr,slc 13 c.observers.length xk.co,.int .i64 c.blast,.int .i64 c.lease,.int .i64 c.bake,.int .i64 key,.bool true,.int .i64 A.number,.int .i64 A.tick,slc 53 A.routes.length kq,.int .u64 A.parent,.int .u64 A.sum,slc 30 c.tenants.length kh]),(30,.row (1000000+92) 2 kh (fun k=>pairC (hf k))),(53,.row (1000000+92) 2 kq elq)] | .new kq2 el2=>[(31,.box 116 [.int .i64 c.regions,slc 18 c.zones.length xk.cz,slc 17 c.cells.length xk.cc,slc 16 c.tenants.length xk.ct,slc 15 c.versions.length xk.cv,slc 14 c.replicas.length xk.cr,slc 13 c.observers.length xk.co,.int .i64 c.blast,.int .i64 c.lease,.int .i64 c.bake,.int .i64 key,.bool true,.int .i64 (⟨n,t,(xs.getD j aZ).routes,p,s⟩:Atl).number,.int .i64 (⟨n,t,(xs.getD j aZ).routes,p,s⟩:Atl).tick,slc 54 (⟨n,t,(xs.getD j aZ).routes,p,s⟩:Atl).routes.length kq2,.int .u64 (⟨n,t,(xs.getD j aZ).routes,p,s⟩:Atl).parent,.int .u64 (⟨n,t,(xs.getD j aZ).routes,p,s⟩:Atl).sum,slc 30 c.tenants.length kh]),(30,.row (1000000+92) 2 kh (fun k=>pairC ((dlF (⟨n,t,(xs.getD j aZ).routes,p,s⟩:Atl).routes hf c.tenants.length) k))),(54,.row (1000000+92) 2 kq2 el2),(53,.row (1000000+92) 2 kq elq)]
def ctTkQS:CT:=ctObj vsTkQS mTkQS 54 preTkQS postTkQS VTkQS MTkQS 1
set_option maxRecDepth 100000 in
set_option maxHeartbeats 400000000 in
theorem tkQS_sx (c:Cfg) (xk yk:CfgK) (key:Int) (hf:HF) (kh:Nat) (xs:List Atl) (j cp:Nat) (n t p s:Int) (A:Atl) (kp kq:Nat) (elq:Nat→List Value) (hp:(CfgV c∧Lens c)∧HfOk c.tenants.length hf∧c.tenants.length≤kh) :
  sx ttP tqFTkQS tqDTkQS (bodyOf Tryz.f58) (argF 0 [ptr 31,.agg #[.int .i64 n,.int .i64 t,.slice (some ⟨50,2,some j⟩) (xs.getD j aZ).routes.length cp,.int .u64 p,.int .u64 s]]) [(31,.box 116 [.int .i64 c.regions,slc 18 c.zones.length xk.cz,slc 17 c.cells.length xk.cc,slc 16 c.tenants.length xk.ct,slc 15 c.versions.length xk.cv,slc 14 c.replicas.length xk.cr,slc 13 c.observers.length xk.co,.int .i64 c.blast,.int .i64 c.lease,.int .i64 c.bake,.int .i64 key,.bool true,.int .i64 A.number,.int .i64 A.tick,slc 53 A.routes.length kq,.int .u64 A.parent,.int .u64 A.sum,slc 30 c.tenants.length kh]),(30,.row (1000000+92) 2 kh (fun k=>pairC (hf k))),(18,rowOfL 0 1 intC 0 c.zones),(17,rowOfL 0 2 pairC (0,0) c.cells),(16,rowOfL 0 7 tenC default c.tenants),(15,rowOfL 0 2 pairC (0,0) c.versions),(14,rowOfL 0 1 intC 0 c.replicas),(13,rowOfL 0 1 intC 0 c.observers),(53,.row (1000000+92) 2 kq elq),(50,famB 0 xs)] 54 (endx ttP Tryz.f58.results.toList (objR 54 (postTkQS ⟨c,xk,yk,key,hf,kh,xs,j,cp,n,t,p,s,A,kp,kq,elq⟩) (VTkQS ⟨c,xk,yk,key,hf,kh,xs,j,cp,n,t,p,s,A,kp,kq,elq⟩) (MTkQS ⟨c,xk,yk,key,hf,kh,xs,j,cp,n,t,p,s,A,kp,kq,elq⟩))):=by
 obtain⟨⟨hV,hL⟩,hH⟩:=hp
 have hnt:=hV.nt
 have hnc:=hV.nc
 obtain⟨hH,hkh⟩:=hH
 refine⟨_,c,(⟨n,t,(xs.getD j aZ).routes,p,s⟩:Atl),_,key,rfl,⟨.has (N:=⟨18,17,16,15,14,13,0⟩) (x:=xk) (HasCfg.keeps kp_),.fam rfl⟩,hL,fun b1 hb1=>?_⟩
 cases b1
 ·repeat (first | refine⟨fun _=>?_,fun h=>Bool.noConfusion h⟩ | refine⟨fun h=>Bool.noConfusion h,fun _=>?_⟩ | fail)
  exact⟨.bad,[],fun q=>absurd (hb1.2 q) (by decide),rfl,rfl,rfl,kp_⟩
 ·have hvb:=hb1.1 rfl
  repeat (first | refine⟨fun _=>?_,fun h=>Bool.noConfusion h⟩ | refine⟨fun h=>Bool.noConfusion h,fun _=>?_⟩ | fail)
  by_cases hnew:A.number≥n
  ·refine⟨fun _=>?_,fun q=>absurd hnew (of_decide_eq_false q)⟩
   repeat (first | refine⟨fun _=>?_,fun h=>Bool.noConfusion h⟩ | refine⟨fun h=>Bool.noConfusion h,fun _=>?_⟩ | fail)
   exact⟨.old,[],⟨hvb,hnew⟩,rfl,rfl,rfl,kp_⟩
  ·refine⟨fun q=>absurd (of_decide_eq_true q) hnew,fun _=>?_⟩
   repeat (first | refine⟨fun _=>?_,fun h=>Bool.noConfusion h⟩ | refine⟨fun h=>Bool.noConfusion h,fun _=>?_⟩ | fail)
   have hlen:=hvb.len
   refine⟨kp_,?_⟩
   refine⟨⟨Nat.le_refl _,fun k hk=>rfl⟩,?_⟩
   refine⟨⟨rfl,Nat.le_refl _⟩,fun hin el2 ⟨g1,_⟩ g2=>?_,fun hgt=>⟨by show (0+(⟨n,t,(xs.getD j aZ).routes,p,s⟩:Atl).routes.length) * 16≤140737488355328;rw[hlen];omega,fun cap2 el2 ⟨hcq,_⟩ g1 g2=>?_⟩⟩
   ·rw[Nat.zero_add]
    refine⟨Int×HF,fun q=>match q with | (z,h2)=>[(5,.int .i64 z)],fun q=>match q with | (z,h2)=>[(30,.row (1000000+92) 2 kh (fun k=>pairC (h2 k)))],fun q=>match q with | (z,h2)=>(0≤z∧z≤c.tenants.length)∧h2=dlF (⟨n,t,(xs.getD j aZ).routes,p,s⟩:Atl).routes hf z.toNat,fun q=>match q with | (z,h2)=>((c.tenants.length:Int)-z).toNat,⟨(0,hf),⟨by omega,(dlF_zero _ _).symm⟩,kp_,kp_⟩,?_⟩
    rintro⟨z,h2⟩ ⟨hz,rfl⟩
    refine⟨⟨rfl,rfl⟩,?_⟩
    refine⟨fun hzl=>?_,fun hzg=>?_⟩
    ·have hzl2:z<(c.tenants.length:Int):=of_decide_eq_true hzl
     refine⟨⟨by first | exact Nat.le_refl _ | omega,hz.1,hzl2⟩,?_⟩
     refine⟨⟨Nat.le_refl _,hz.1,by have h9:z<(((⟨n,t,(xs.getD j aZ).routes,p,s⟩:Atl).routes.length:Nat):Int):=(by rw[hlen];exact hzl2);exact h9⟩,?_⟩
     refine⟨kp_,?_⟩
     refine⟨kp_,?_⟩
     refine⟨kp_,?_⟩
     refine⟨fun hg=>?_,fun hg=>?_⟩
     ·have hg2:(dlF (⟨n,t,(xs.getD j aZ).routes,p,s⟩:Atl).routes hf z.toNat z.toNat).2≤((⟨n,t,(xs.getD j aZ).routes,p,s⟩:Atl).routes.getD z.toNat (0,0)).2:=of_decide_eq_true hg
      rw[dlF_at] at hg2
      refine⟨⟨by first | exact Nat.le_refl _ | omega,hz.1,hzl2⟩,?_⟩
      refine⟨pairC (0,0),rfl,?_⟩
      rw[setEl_hf]
      refine⟨(IntKind.i64.wrap (z+1),stF (dlF (⟨n,t,(xs.getD j aZ).routes,p,s⟩:Atl).routes hf z.toNat) z.toNat (0,0)),?_,kp_,kp_⟩
      rw[wrapi (n:=z+1) (by omega)]
      dsimp only
      exact⟨⟨⟨by omega,by omega⟩,by rw[show (z+1).toNat=z.toNat+1 by omega];exact dlF_yes hg2⟩,by omega⟩
     ·have hg2:¬ (dlF (⟨n,t,(xs.getD j aZ).routes,p,s⟩:Atl).routes hf z.toNat z.toNat).2≤((⟨n,t,(xs.getD j aZ).routes,p,s⟩:Atl).routes.getD z.toNat (0,0)).2:=of_decide_eq_false hg
      rw[dlF_at] at hg2
      refine⟨(IntKind.i64.wrap (z+1),dlF (⟨n,t,(xs.getD j aZ).routes,p,s⟩:Atl).routes hf z.toNat),?_,kp_,kp_⟩
      rw[wrapi (n:=z+1) (by omega)]
      dsimp only
      exact⟨⟨⟨by omega,by omega⟩,by rw[show (z+1).toNat=z.toNat+1 by omega];exact dlF_no hg2⟩,by omega⟩
    ·have hge2:¬ z<(c.tenants.length:Int):=of_decide_eq_false hzg
     obtain rfl:z=(c.tenants.length:Int):=by omega
     repeat (first | refine⟨fun _=>?_,fun h=>Bool.noConfusion h⟩ | refine⟨fun h=>Bool.noConfusion h,fun _=>?_⟩ | fail)
     exact⟨.new 0 el2,[(54,55)],⟨⟨hvb,hnew⟩,Nat.le_trans (Nat.le_of_eq (Nat.zero_add _).symm) hin,fun k hk=>by have q:=g2 k hk;rwa[Nat.zero_add] at q⟩,rfl,rfl,rfl,(by (try rw[Nat.zero_add]);repeat (first | exact trivial | refine⟨rfl,?_⟩))⟩
   ·rw[Nat.zero_add]
    refine⟨Int×HF,fun q=>match q with | (z,h2)=>[(5,.int .i64 z)],fun q=>match q with | (z,h2)=>[(30,.row (1000000+92) 2 kh (fun k=>pairC (h2 k)))],fun q=>match q with | (z,h2)=>(0≤z∧z≤c.tenants.length)∧h2=dlF (⟨n,t,(xs.getD j aZ).routes,p,s⟩:Atl).routes hf z.toNat,fun q=>match q with | (z,h2)=>((c.tenants.length:Int)-z).toNat,⟨(0,hf),⟨by omega,(dlF_zero _ _).symm⟩,kp_,kp_⟩,?_⟩
    rintro⟨z,h2⟩ ⟨hz,rfl⟩
    refine⟨⟨rfl,rfl⟩,?_⟩
    refine⟨fun hzl=>?_,fun hzg=>?_⟩
    ·have hzl2:z<(c.tenants.length:Int):=of_decide_eq_true hzl
     refine⟨⟨by first | exact Nat.le_refl _ | omega,hz.1,hzl2⟩,?_⟩
     refine⟨⟨Nat.le_refl _,hz.1,by have h9:z<(((⟨n,t,(xs.getD j aZ).routes,p,s⟩:Atl).routes.length:Nat):Int):=(by rw[hlen];exact hzl2);exact h9⟩,?_⟩
     refine⟨kp_,?_⟩
     refine⟨kp_,?_⟩
     refine⟨kp_,?_⟩
     refine⟨fun hg=>?_,fun hg=>?_⟩
     ·have hg2:(dlF (⟨n,t,(xs.getD j aZ).routes,p,s⟩:Atl).routes hf z.toNat z.toNat).2≤((⟨n,t,(xs.getD j aZ).routes,p,s⟩:Atl).routes.getD z.toNat (0,0)).2:=of_decide_eq_true hg
      rw[dlF_at] at hg2
      refine⟨⟨by first | exact Nat.le_refl _ | omega,hz.1,hzl2⟩,?_⟩
      refine⟨pairC (0,0),rfl,?_⟩
      rw[setEl_hf]
      refine⟨(IntKind.i64.wrap (z+1),stF (dlF (⟨n,t,(xs.getD j aZ).routes,p,s⟩:Atl).routes hf z.toNat) z.toNat (0,0)),?_,kp_,kp_⟩
      rw[wrapi (n:=z+1) (by omega)]
      dsimp only
      exact⟨⟨⟨by omega,by omega⟩,by rw[show (z+1).toNat=z.toNat+1 by omega];exact dlF_yes hg2⟩,by omega⟩
     ·have hg2:¬ (dlF (⟨n,t,(xs.getD j aZ).routes,p,s⟩:Atl).routes hf z.toNat z.toNat).2≤((⟨n,t,(xs.getD j aZ).routes,p,s⟩:Atl).routes.getD z.toNat (0,0)).2:=of_decide_eq_false hg
      rw[dlF_at] at hg2
      refine⟨(IntKind.i64.wrap (z+1),dlF (⟨n,t,(xs.getD j aZ).routes,p,s⟩:Atl).routes hf z.toNat),?_,kp_,kp_⟩
      rw[wrapi (n:=z+1) (by omega)]
      dsimp only
      exact⟨⟨⟨by omega,by omega⟩,by rw[show (z+1).toNat=z.toNat+1 by omega];exact dlF_no hg2⟩,by omega⟩
    ·have hge2:¬ z<(c.tenants.length:Int):=of_decide_eq_false hzg
     obtain rfl:z=(c.tenants.length:Int):=by omega
     repeat (first | refine⟨fun _=>?_,fun h=>Bool.noConfusion h⟩ | refine⟨fun h=>Bool.noConfusion h,fun _=>?_⟩ | fail)
     exact⟨.new cap2 el2,[(54,56)],⟨⟨hvb,hnew⟩,Nat.le_trans (Nat.le_of_eq (Nat.zero_add _).symm) hcq,fun k hk=>by have q:=g2 k hk;rwa[Nat.zero_add] at q⟩,rfl,rfl,rfl,(by (try rw[Nat.zero_add]);repeat (first | exact trivial | refine⟨rfl,?_⟩))⟩
theorem tkQSOk:CSound Tryz.prog 58 ctTkQS:=ctObj_ok (F:=tqFTkQS) (D:=tqDTkQS) ttPok (fti_cons (validGROk.i _) fti_nil) mixed (by kernel_rfl) Tryz.func58 rfl (by kernel_rfl) (fun x=>by cases x;rfl) (fun x=>by cases x;rfl) (fun x y=>by cases x;cases y<;>rfl) (fun x hx=>by cases x;exact tkQS_sx _ _ _ _ _ _ _ _ _ _ _ _ _ _ _ _ _ hx)
abbrev tqFTkQE:FT:=[(88,ctValidGR)]
abbrev tqDTkQE:List (Nat×DQ):=[(1,{ k:=9,L:=[31,54],pre:=[(0,false),(1,false),(2,false),(3,false),(4,false),(5,false),(6,false),(7,false),(8,false)] }),(3,{ k:=12,L:=[31,54],pre:=[(0,false),(1,false),(2,false),(3,false),(4,false),(5,false),(6,false),(7,false),(8,false),(9,false),(10,false),(11,false)] }),(5,{ k:=6,L:=[54],pre:=[(0,false),(1,false),(2,false),(3,false),(4,false),(5,true)] }),(10,{ k:=14,L:=[31,30,54],pre:=[(0,false),(1,false),(2,false),(3,false),(4,false),(5,false),(6,false),(7,false),(8,false),(9,false),(10,false),(11,true),(12,true),(13,true)] }),(2000008,{ k:=0,L:=[0,1,2,3,4,5,6,7,8,9,10,11,12,13,14,15,16,17,18,19,20,21,22,23,24,25,26,27,28,29,31,32,33,34,35,36,37,38,39,40,41,42,43,44,45,46,47,48,49,50,51,52,53,54,55,56,57],sl:=[0,3,4] })]
def vsTkQE:TX→List Value:=fun x=>match x with | ⟨c,xk,yk,key,hf,kh,xs,j,cp,n,t,p,s,A,kp,kq,elq⟩=>[ptr 31,.agg #[.int .i64 n,.int .i64 t,.slice (some ⟨50,2,some j⟩) (xs.getD j aZ).routes.length cp,.int .u64 p,.int .u64 s]]
def mTkQE:TX→AM:=fun x=>match x with | ⟨c,xk,yk,key,hf,kh,xs,j,cp,n,t,p,s,A,kp,kq,elq⟩=>[(31,.box 116 [.int .i64 c.regions,slc 18 c.zones.length xk.cz,slc 17 c.cells.length xk.cc,slc 16 c.tenants.length xk.ct,slc 15 c.versions.length xk.cv,slc 14 c.replicas.length xk.cr,slc 13 c.observers.length xk.co,.int .i64 c.blast,.int .i64 c.lease,.int .i64 c.bake,.int .i64 key,.bool false,.int .i64 0,.int .i64 0,slc 53 0 0,.int .u64 0,.int .u64 0,slc 30 c.tenants.length kh]),(30,.row (1000000+92) 2 kh (fun k=>pairC (hf k))),(18,rowOfL 0 1 intC 0 c.zones),(17,rowOfL 0 2 pairC (0,0) c.cells),(16,rowOfL 0 7 tenC default c.tenants),(15,rowOfL 0 2 pairC (0,0) c.versions),(14,rowOfL 0 1 intC 0 c.replicas),(13,rowOfL 0 1 intC 0 c.observers),(53,.row (1000000+92) 2 0 elq),(50,famB 0 xs)]
def preTkQE:TX→Prop:=fun x=>match x with | ⟨c,xk,yk,key,hf,kh,xs,j,cp,n,t,p,s,A,kp,kq,elq⟩=>(CfgV c∧Lens c)∧HfOk c.tenants.length hf∧c.tenants.length≤kh
def postTkQE:TX→TY→Prop:=fun x y=>match x with | ⟨c,xk,yk,key,hf,kh,xs,j,cp,n,t,p,s,A,kp,kq,elq⟩=>match y with | .bad=>¬ ValidA c (⟨n,t,(xs.getD j aZ).routes,p,s⟩:Atl) key | .old=>ValidA c (⟨n,t,(xs.getD j aZ).routes,p,s⟩:Atl) key∧False | .new kq2 el2=>(ValidA c (⟨n,t,(xs.getD j aZ).routes,p,s⟩:Atl) key)∧(⟨n,t,(xs.getD j aZ).routes,p,s⟩:Atl).routes.length≤kq2∧∀ k,k<(⟨n,t,(xs.getD j aZ).routes,p,s⟩:Atl).routes.length→el2 k=pairC ((⟨n,t,(xs.getD j aZ).routes,p,s⟩:Atl).routes.getD k (0,0))
def VTkQE:TX→TY→Value:=fun x y=>match x with | ⟨c,xk,yk,key,hf,kh,xs,j,cp,n,t,p,s,A,kp,kq,elq⟩=>match y with | .bad=>.int .i64 19 | .old=>.int .i64 20 | .new _ _=>.int .i64 0
def MTkQE:TX→TY→AM:=fun x y=>match x with | ⟨c,xk,yk,key,hf,kh,xs,j,cp,n,t,p,s,A,kp,kq,elq⟩=>match y with | .bad=>[(31,.box 116 [.int .i64 c.regions,slc 18 c.zones.length xk.cz,slc 17 c.cells.length xk.cc,slc 16 c.tenants.length xk.ct,slc 15 c.versions.length xk.cv,slc 14 c.replicas.length xk.cr,slc 13 c.observers.length xk.co,.int .i64 c.blast,.int .i64 c.lease,.int .i64 c.bake,.int .i64 key,.bool false,.int .i64 0,.int .i64 0,slc 53 0 0,.int .u64 0,.int .u64 0,slc 30 c.tenants.length kh]),(30,.row (1000000+92) 2 kh (fun k=>pairC (hf k))),(53,.row (1000000+92) 2 0 elq)] | .old=>[(31,.box 116 [.int .i64 c.regions,slc 18 c.zones.length xk.cz,slc 17 c.cells.length xk.cc,slc 16 c.tenants.length xk.ct,slc 15 c.versions.length xk.cv,slc 14 c.replicas.length xk.cr,slc 13 c.observers.length xk.co,.int .i64 c.blast,.int .i64 c.lease,.int .i64 c.bake,.int .i64 key,.bool false,.int .i64 0,.int .i64 0,slc 53 0 0,.int .u64 0,.int .u64 0,slc 30 c.tenants.length kh]),(30,.row (1000000+92) 2 kh (fun k=>pairC (hf k))),(53,.row (1000000+92) 2 0 elq)] | .new kq2 el2=>[(31,.box 116 [.int .i64 c.regions,slc 18 c.zones.length xk.cz,slc 17 c.cells.length xk.cc,slc 16 c.tenants.length xk.ct,slc 15 c.versions.length xk.cv,slc 14 c.replicas.length xk.cr,slc 13 c.observers.length xk.co,.int .i64 c.blast,.int .i64 c.lease,.int .i64 c.bake,.int .i64 key,.bool true,.int .i64 (⟨n,t,(xs.getD j aZ).routes,p,s⟩:Atl).number,.int .i64 (⟨n,t,(xs.getD j aZ).routes,p,s⟩:Atl).tick,slc 54 (⟨n,t,(xs.getD j aZ).routes,p,s⟩:Atl).routes.length kq2,.int .u64 (⟨n,t,(xs.getD j aZ).routes,p,s⟩:Atl).parent,.int .u64 (⟨n,t,(xs.getD j aZ).routes,p,s⟩:Atl).sum,slc 30 c.tenants.length kh]),(30,.row (1000000+92) 2 kh (fun k=>pairC ((dlF (⟨n,t,(xs.getD j aZ).routes,p,s⟩:Atl).routes hf c.tenants.length) k))),(54,.row (1000000+92) 2 kq2 el2),(53,.row (1000000+92) 2 0 elq)]
def ctTkQE:CT:=ctObj vsTkQE mTkQE 54 preTkQE postTkQE VTkQE MTkQE 1
set_option maxRecDepth 100000 in
set_option maxHeartbeats 400000000 in
theorem tkQE_sx (c:Cfg) (xk yk:CfgK) (key:Int) (hf:HF) (kh:Nat) (xs:List Atl) (j cp:Nat) (n t p s:Int) (A:Atl) (kp kq:Nat) (elq:Nat→List Value) (hp:(CfgV c∧Lens c)∧HfOk c.tenants.length hf∧c.tenants.length≤kh) :
  sx ttP tqFTkQE tqDTkQE (bodyOf Tryz.f58) (argF 0 [ptr 31,.agg #[.int .i64 n,.int .i64 t,.slice (some ⟨50,2,some j⟩) (xs.getD j aZ).routes.length cp,.int .u64 p,.int .u64 s]]) [(31,.box 116 [.int .i64 c.regions,slc 18 c.zones.length xk.cz,slc 17 c.cells.length xk.cc,slc 16 c.tenants.length xk.ct,slc 15 c.versions.length xk.cv,slc 14 c.replicas.length xk.cr,slc 13 c.observers.length xk.co,.int .i64 c.blast,.int .i64 c.lease,.int .i64 c.bake,.int .i64 key,.bool false,.int .i64 0,.int .i64 0,slc 53 0 0,.int .u64 0,.int .u64 0,slc 30 c.tenants.length kh]),(30,.row (1000000+92) 2 kh (fun k=>pairC (hf k))),(18,rowOfL 0 1 intC 0 c.zones),(17,rowOfL 0 2 pairC (0,0) c.cells),(16,rowOfL 0 7 tenC default c.tenants),(15,rowOfL 0 2 pairC (0,0) c.versions),(14,rowOfL 0 1 intC 0 c.replicas),(13,rowOfL 0 1 intC 0 c.observers),(53,.row (1000000+92) 2 0 elq),(50,famB 0 xs)] 54 (endx ttP Tryz.f58.results.toList (objR 54 (postTkQE ⟨c,xk,yk,key,hf,kh,xs,j,cp,n,t,p,s,A,kp,kq,elq⟩) (VTkQE ⟨c,xk,yk,key,hf,kh,xs,j,cp,n,t,p,s,A,kp,kq,elq⟩) (MTkQE ⟨c,xk,yk,key,hf,kh,xs,j,cp,n,t,p,s,A,kp,kq,elq⟩))):=by
 obtain⟨⟨hV,hL⟩,hH⟩:=hp
 have hnt:=hV.nt
 have hnc:=hV.nc
 obtain⟨hH,hkh⟩:=hH
 refine⟨_,c,(⟨n,t,(xs.getD j aZ).routes,p,s⟩:Atl),_,key,rfl,⟨.has (N:=⟨18,17,16,15,14,13,0⟩) (x:=xk) (HasCfg.keeps kp_),.fam rfl⟩,hL,fun b1 hb1=>?_⟩
 cases b1
 ·repeat (first | refine⟨fun _=>?_,fun h=>Bool.noConfusion h⟩ | refine⟨fun h=>Bool.noConfusion h,fun _=>?_⟩ | fail)
  exact⟨.bad,[],fun q=>absurd (hb1.2 q) (by decide),rfl,rfl,rfl,kp_⟩
 ·have hvb:=hb1.1 rfl
  repeat (first | refine⟨fun _=>?_,fun h=>Bool.noConfusion h⟩ | refine⟨fun h=>Bool.noConfusion h,fun _=>?_⟩ | fail)
  have hlen:=hvb.len
  refine⟨kp_,?_⟩
  refine⟨⟨Nat.le_refl _,fun k hk=>rfl⟩,?_⟩
  refine⟨⟨rfl,Nat.le_refl _⟩,fun hin el2 ⟨g1,_⟩ g2=>?_,fun hgt=>⟨by show (0+(⟨n,t,(xs.getD j aZ).routes,p,s⟩:Atl).routes.length) * 16≤140737488355328;rw[hlen];omega,fun cap2 el2 ⟨hcq,_⟩ g1 g2=>?_⟩⟩
  ·rw[Nat.zero_add]
   refine⟨Int×HF,fun q=>match q with | (z,h2)=>[(5,.int .i64 z)],fun q=>match q with | (z,h2)=>[(30,.row (1000000+92) 2 kh (fun k=>pairC (h2 k)))],fun q=>match q with | (z,h2)=>(0≤z∧z≤c.tenants.length)∧h2=dlF (⟨n,t,(xs.getD j aZ).routes,p,s⟩:Atl).routes hf z.toNat,fun q=>match q with | (z,h2)=>((c.tenants.length:Int)-z).toNat,⟨(0,hf),⟨by omega,(dlF_zero _ _).symm⟩,kp_,kp_⟩,?_⟩
   rintro⟨z,h2⟩ ⟨hz,rfl⟩
   refine⟨⟨rfl,rfl⟩,?_⟩
   refine⟨fun hzl=>?_,fun hzg=>?_⟩
   ·have hzl2:z<(c.tenants.length:Int):=of_decide_eq_true hzl
    refine⟨⟨by first | exact Nat.le_refl _ | omega,hz.1,hzl2⟩,?_⟩
    refine⟨⟨Nat.le_refl _,hz.1,by have h9:z<(((⟨n,t,(xs.getD j aZ).routes,p,s⟩:Atl).routes.length:Nat):Int):=(by rw[hlen];exact hzl2);exact h9⟩,?_⟩
    refine⟨kp_,?_⟩
    refine⟨kp_,?_⟩
    refine⟨kp_,?_⟩
    refine⟨fun hg=>?_,fun hg=>?_⟩
    ·have hg2:(dlF (⟨n,t,(xs.getD j aZ).routes,p,s⟩:Atl).routes hf z.toNat z.toNat).2≤((⟨n,t,(xs.getD j aZ).routes,p,s⟩:Atl).routes.getD z.toNat (0,0)).2:=of_decide_eq_true hg
     rw[dlF_at] at hg2
     refine⟨⟨by first | exact Nat.le_refl _ | omega,hz.1,hzl2⟩,?_⟩
     refine⟨pairC (0,0),rfl,?_⟩
     rw[setEl_hf]
     refine⟨(IntKind.i64.wrap (z+1),stF (dlF (⟨n,t,(xs.getD j aZ).routes,p,s⟩:Atl).routes hf z.toNat) z.toNat (0,0)),?_,kp_,kp_⟩
     rw[wrapi (n:=z+1) (by omega)]
     dsimp only
     exact⟨⟨⟨by omega,by omega⟩,by rw[show (z+1).toNat=z.toNat+1 by omega];exact dlF_yes hg2⟩,by omega⟩
    ·have hg2:¬ (dlF (⟨n,t,(xs.getD j aZ).routes,p,s⟩:Atl).routes hf z.toNat z.toNat).2≤((⟨n,t,(xs.getD j aZ).routes,p,s⟩:Atl).routes.getD z.toNat (0,0)).2:=of_decide_eq_false hg
     rw[dlF_at] at hg2
     refine⟨(IntKind.i64.wrap (z+1),dlF (⟨n,t,(xs.getD j aZ).routes,p,s⟩:Atl).routes hf z.toNat),?_,kp_,kp_⟩
     rw[wrapi (n:=z+1) (by omega)]
     dsimp only
     exact⟨⟨⟨by omega,by omega⟩,by rw[show (z+1).toNat=z.toNat+1 by omega];exact dlF_no hg2⟩,by omega⟩
   ·have hge2:¬ z<(c.tenants.length:Int):=of_decide_eq_false hzg
    obtain rfl:z=(c.tenants.length:Int):=by omega
    repeat (first | refine⟨fun _=>?_,fun h=>Bool.noConfusion h⟩ | refine⟨fun h=>Bool.noConfusion h,fun _=>?_⟩ | fail)
    exact⟨.new 0 el2,[(54,55)],⟨hvb,Nat.le_trans (Nat.le_of_eq (Nat.zero_add _).symm) hin,fun k hk=>by have q:=g2 k hk;rwa[Nat.zero_add] at q⟩,rfl,rfl,rfl,(by (try rw[Nat.zero_add]);repeat (first | exact trivial | refine⟨rfl,?_⟩))⟩
  ·rw[Nat.zero_add]
   refine⟨Int×HF,fun q=>match q with | (z,h2)=>[(5,.int .i64 z)],fun q=>match q with | (z,h2)=>[(30,.row (1000000+92) 2 kh (fun k=>pairC (h2 k)))],fun q=>match q with | (z,h2)=>(0≤z∧z≤c.tenants.length)∧h2=dlF (⟨n,t,(xs.getD j aZ).routes,p,s⟩:Atl).routes hf z.toNat,fun q=>match q with | (z,h2)=>((c.tenants.length:Int)-z).toNat,⟨(0,hf),⟨by omega,(dlF_zero _ _).symm⟩,kp_,kp_⟩,?_⟩
   rintro⟨z,h2⟩ ⟨hz,rfl⟩
   refine⟨⟨rfl,rfl⟩,?_⟩
   refine⟨fun hzl=>?_,fun hzg=>?_⟩
   ·have hzl2:z<(c.tenants.length:Int):=of_decide_eq_true hzl
    refine⟨⟨by first | exact Nat.le_refl _ | omega,hz.1,hzl2⟩,?_⟩
    refine⟨⟨Nat.le_refl _,hz.1,by have h9:z<(((⟨n,t,(xs.getD j aZ).routes,p,s⟩:Atl).routes.length:Nat):Int):=(by rw[hlen];exact hzl2);exact h9⟩,?_⟩
    refine⟨kp_,?_⟩
    refine⟨kp_,?_⟩
    refine⟨kp_,?_⟩
    refine⟨fun hg=>?_,fun hg=>?_⟩
    ·have hg2:(dlF (⟨n,t,(xs.getD j aZ).routes,p,s⟩:Atl).routes hf z.toNat z.toNat).2≤((⟨n,t,(xs.getD j aZ).routes,p,s⟩:Atl).routes.getD z.toNat (0,0)).2:=of_decide_eq_true hg
     rw[dlF_at] at hg2
     refine⟨⟨by first | exact Nat.le_refl _ | omega,hz.1,hzl2⟩,?_⟩
     refine⟨pairC (0,0),rfl,?_⟩
     rw[setEl_hf]
     refine⟨(IntKind.i64.wrap (z+1),stF (dlF (⟨n,t,(xs.getD j aZ).routes,p,s⟩:Atl).routes hf z.toNat) z.toNat (0,0)),?_,kp_,kp_⟩
     rw[wrapi (n:=z+1) (by omega)]
     dsimp only
     exact⟨⟨⟨by omega,by omega⟩,by rw[show (z+1).toNat=z.toNat+1 by omega];exact dlF_yes hg2⟩,by omega⟩
    ·have hg2:¬ (dlF (⟨n,t,(xs.getD j aZ).routes,p,s⟩:Atl).routes hf z.toNat z.toNat).2≤((⟨n,t,(xs.getD j aZ).routes,p,s⟩:Atl).routes.getD z.toNat (0,0)).2:=of_decide_eq_false hg
     rw[dlF_at] at hg2
     refine⟨(IntKind.i64.wrap (z+1),dlF (⟨n,t,(xs.getD j aZ).routes,p,s⟩:Atl).routes hf z.toNat),?_,kp_,kp_⟩
     rw[wrapi (n:=z+1) (by omega)]
     dsimp only
     exact⟨⟨⟨by omega,by omega⟩,by rw[show (z+1).toNat=z.toNat+1 by omega];exact dlF_no hg2⟩,by omega⟩
   ·have hge2:¬ z<(c.tenants.length:Int):=of_decide_eq_false hzg
    obtain rfl:z=(c.tenants.length:Int):=by omega
    repeat (first | refine⟨fun _=>?_,fun h=>Bool.noConfusion h⟩ | refine⟨fun h=>Bool.noConfusion h,fun _=>?_⟩ | fail)
    exact⟨.new cap2 el2,[(54,56)],⟨hvb,Nat.le_trans (Nat.le_of_eq (Nat.zero_add _).symm) hcq,fun k hk=>by have q:=g2 k hk;rwa[Nat.zero_add] at q⟩,rfl,rfl,rfl,(by (try rw[Nat.zero_add]);repeat (first | exact trivial | refine⟨rfl,?_⟩))⟩
theorem tkQEOk:CSound Tryz.prog 58 ctTkQE:=ctObj_ok (F:=tqFTkQE) (D:=tqDTkQE) ttPok (fti_cons (validGROk.i _) fti_nil) mixed (by kernel_rfl) Tryz.func58 rfl (by kernel_rfl) (fun x=>by cases x;rfl) (fun x=>by cases x;rfl) (fun x y=>by cases x;cases y<;>rfl) (fun x hx=>by cases x;exact tkQE_sx _ _ _ _ _ _ _ _ _ _ _ _ _ _ _ _ _ hx)
def ctTkQ:CT:=fun vs mem nx K=>ctTkQN vs mem nx K∨(ctTkQS vs mem nx K∨ctTkQE vs mem nx K)
theorem tkQOk:CSound Tryz.prog 58 ctTkQ:=cs_or tkQNOk (cs_or tkQSOk tkQEOk)
theorem knownE_pos {nt:Nat} {hf:HF} {r:Nat→Int} {t e:Int} (hH:HfOk nt hf) (ht:0≤t∧t<nt) (hr:∀ {k:Nat},k<nt→0≤r k) (h:knownE hf r t<e):0≤e:=by
 have h1:=hH t.toNat (by omega)
 have h2:=hr (k:=t.toNat) (by omega)
 unfold knownE at h
 split at h<;>omega
end Go.Proofs.YtchhdflealgkaaaGreat
