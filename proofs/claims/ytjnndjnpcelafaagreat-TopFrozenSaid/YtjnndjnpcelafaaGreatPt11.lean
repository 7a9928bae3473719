import Derived.Test.YtjnndjnpcelafaaGreatPt10
namespace Go.Proofs.YtjnndjnpcelafaaGreat
set_option maxHeartbeats 16000000
set_option maxRecDepth 100000
open Go.RowKit
set_option linter.unusedSimpArgs false
set_option linter.unusedVariables false
/-! Objects: blocks of the heap of which the caller knows nothing but what is told of them. A method is walked once,in the memory that the object consists of. -/
def gm1 (k:Nat):Value->Bool
 | .pointer (some a)=>decide (k<=a.block)
 | .slice (some a) _ _=>decide (k<=a.block)
 | .map (some i)=>decide (k<=i)
 | _=>true
def gm2 (k:Nat):Value->Bool
 | .agg cs=>cs.toList.all (gm1 k)
 | v=>gm1 k v
def gmV (k:Nat):Value->Bool
 | .tuple vs=>vs.toList.all (gm2 k)
 | .func _ a b=>a.toList.all (gm1 k)&&b.toList.all (gm1 k)
 | v=>gm2 k v
def gmB (k:Nat):ABlk->Bool
 | .box _ cs=>cs.all (gm1 k)
 | .ext (.deep _ _ _ _ _ u)=>decide (k<=u)
 | _=>true
def zjd (k:Nat) (ρ:Nat->Pl):Nat->Pl:=fun i=>if i<k then ⟨none,0,0,true,za4⟩ else ρ i
theorem zdg {k:Nat} (ρ:Nat->Pl) {i:Nat} (h:k<=i):zjd k ρ i=ρ i:=if_neg o_
section
variable {C:Ctx} {ρ:Nat->Pl} {n k:Nat} {w w':World}
theorem zdc {v:Value} (h:ok1 ρ n v) (hg:gm1 k v=true):ok1 (zjd k ρ) n v/\zal (zjd k ρ) v=zal ρ v:=by
 cases v with
 | pointer a=>cases a with
  | none=>exact⟨trivial,rfl⟩
  | some a=>
   have e:=zdg ρ (show k<=a.block by simpa [gm1] using hg);simp only[ok1,zal,dA,e];exact⟨h,trivial⟩
 | slice a m c=>cases a with
  | none=>exact⟨trivial,rfl⟩
  | some a=>
   have e:=zdg ρ (show k<=a.block by simpa [gm1] using hg);simp only[ok1,zal,dS,dA,e];exact⟨h,trivial⟩
 | map a=>cases a with
  | none=>exact⟨trivial,rfl⟩
  | some a=>
   have e:=zdg ρ (show k<=a by simpa [gm1] using hg);simp only[ok1,zal,e];exact⟨h,trivial⟩
 | _=>exact⟨trivial,rfl⟩
theorem zeY {v:Value} (h:ok2 ρ n v) (hg:gm2 k v=true):ok2 (zjd k ρ) n v/\zaW (zjd k ρ) v=zaW ρ v:=by
 rcases ziN v with⟨cs,rfl⟩ | ⟨h1,h2⟩
 ·simp only[gm2,List.all_eq_true] at hg;refine⟨fun x hx=>(zdc (h x hx) (hg x (by simpa using hx))).1,?_⟩;simp only[zaW];rw[Array.map_congr_left fun x hx=>(zdc (h x hx) (hg x (by simpa using hx))).2]
 ·have hg':gm1 k v=true:=by cases v<;>first | exact hg | rfl
  rw[h2,h1,h1];rw[h2] at h;exact zdc h hg'
theorem zmA {v:Value} (h:okV ρ n v) (hg:gmV k v=true):okV (zjd k ρ) n v/\den (zjd k ρ) v=den ρ v:=by
 cases v with
 | tuple cs=>
  simp only[gmV,List.all_eq_true] at hg;refine⟨fun x hx=>(zeY (h x hx) (hg x (by simpa using hx))).1,?_⟩;simp only[den];rw[Array.map_congr_left fun x hx=>(zeY (h x hx) (hg x (by simpa using hx))).2]
 | func f a b=>
  simp only[gmV,Bool.and_eq_true,List.all_eq_true] at hg;refine⟨⟨fun x hx=>(zdc (h.1 x hx) (hg.1 x (by simpa using hx))).1,fun x hx=>(zdc (h.2 x hx) (hg.2 x (by simpa using hx))).1⟩,?_⟩;simp only[den];rw[Array.map_congr_left fun x hx=>(zdc (h.1 x hx) (hg.1 x (by simpa using hx))).2,Array.map_congr_left fun x hx=>(zdc (h.2 x hx) (hg.2 x (by simpa using hx))).2]
 | agg cs=>exact zeY (v:=.agg cs) h hg
 | pointer p=>exact zeY (v:=.pointer p) h hg
 | slice p q r=>exact zeY (v:=.slice p q r) h hg
 | map p=>exact zeY (v:=.map p) h hg
 | _=>exact⟨trivial,rfl⟩
theorem BlkOk.cut {i:Nat} {b:ABlk} (h:BlkOk C ρ n i w b) (hi:k<=i) (hg:gmB k b=true):BlkOk C (zjd k ρ) n i w b:=by
 have e:=zdg ρ hi;cases b with
 | box t cs=>
  obtain⟨g,h1,h2,h3,h4⟩:=h;simp only[gmB,List.all_eq_true] at hg;refine⟨g,by rw[e];exact h1,?_,h3,fun v hv=>(zdc (h4 v hv) (hg v hv)).1⟩;rw[List.map_congr_left fun v hv=>(zdc (h4 v hv) (hg v hv)).2];exact h2
 | row t sz m el=>
  obtain⟨h1,h2,h3⟩:=h;refine⟨by rw[e];exact h1,h2,?_⟩;rw[e];exact h3
 | ext eb=>cases eb with
  | deep t sz m cap el u=>
   obtain⟨h1,h2,h0,h3⟩:=h;have hu:zjd k ρ u=ρ u:=zdg ρ (by simpa [gmB] using hg);refine⟨by rw[e];exact h1,by rw[hu];exact h2,h0,?_⟩;rw[e];refine h3.imp id ?_;rintro⟨hn,b,off,hA,hlt,hcap,hc⟩;exact⟨hn,b,off,hA,hlt,hcap,fun q hq j v hv=>by rw[zg1 hu q j ((h0 q hq).2 v (List.mem_of_getElem? hv))];exact hc q hq j v hv⟩
  | fam t sb=>exact⟨h.1,fun q o=>by rw[e];exact h.2 q o⟩
  | map kk ag f=>
   obtain⟨g,es,cl,h1,h2⟩:=h;exact⟨g,es,cl,by rw[e];exact h1,h2⟩
  | obj S Φ=>
   obtain⟨g,h1,h2⟩:=h;exact⟨g,by rw[e];exact h1,h2⟩
theorem BlkOk.ctxA {C':Ctx} {i:Nat} {b:ABlk} (h:BlkOk C ρ n i w b) (hw:∀ g,brd ρ i b g->C'.ok g):BlkOk C' ρ n i w b:=by
 cases b with
 | box t cs=>
  obtain⟨g,h1,h2,h3,h4⟩:=h;exact⟨g,h1,h2,hw g (by simp[brd,bno,h1]),h4⟩
 | row t sz m el=>
  obtain⟨h1,h2,h3⟩:=h;refine⟨h1,h2,?_⟩;by_cases hn:m=0
  ·exact .inl hn
  ·obtain⟨b,off,hA,hr,hc⟩:=h3.resolve_left hn;have hx:C'.ok b:=hw b ⟨hn,by simp[bno,hA]⟩;exact .inr ⟨b,off,hA,⟨hr.lt,fun ho=>⟨(hr.own ho).1,hx,(hr.own ho).2.2⟩,fun _=>hx⟩,hc⟩
 | ext e=>cases e with
  | deep t sz m cap el u=>
   obtain⟨h1,h2,h0,h3⟩:=h;refine⟨h1,h2,h0,h3.imp id ?_⟩;rintro⟨hn,b,off,hA,hr,hcap,hc⟩;have hx:C'.ok b:=hw b ⟨hn,by simp[bno,hA]⟩;exact⟨hn,b,off,hA,⟨hr.lt,fun ho=>⟨(hr.own ho).1,hx,(hr.own ho).2.2⟩,fun _=>hx⟩,hcap,hc⟩
  | fam t sb=>
   refine⟨h.1,fun q o=>⟨(h.2 q o).1,?_⟩⟩;by_cases hn:(sb q o).n=0
   ·exact .inl hn
   ·obtain⟨b,off,hA,hr,hc⟩:=(h.2 q o).2.resolve_left hn;have hx:C'.ok b:=hw b ⟨q,o,hn,by simp[hA]⟩;exact .inr ⟨b,off,hA,⟨hr.lt,fun ho=>⟨(hr.own ho).1,hx,(hr.own ho).2.2⟩,fun _=>hx⟩,hc⟩
  | map kk ag f=>
   obtain⟨g,es,cl,h1,h2,h3,h4⟩:=h;exact⟨g,es,cl,h1,h2,hw g (by simp[brd,xrd,bno,h1]),h4⟩
  | obj S Φ=>
   obtain⟨g,h1,h2,h3,h4⟩:=h;exact⟨g,h1,h2,fun b hb=>⟨(h3 b hb).1,hw b hb⟩,h4⟩
theorem zn4 {i g:Nat} {b:ABlk} (hx:exB b=true) (h:brd ρ i b g):bwr ρ i b g:=by
 cases b with
 | box t cs=>exact h
 | row t sz m el=>exact⟨hx,h.1,h.2⟩
 | ext e=>cases e with
  | deep t sz m cap el u=>exact⟨hx,h.1,h.2⟩
  | fam t sb=>cases hx
  | map kk ag f=>exact h
  | obj S Φ=>exact h
end
def roB:ABlk->ABlk
 | .row _ sz n el=>.row 0 sz n el
 | .ext (.deep _ sz n cap el u)=>.ext (.deep 0 sz n cap el u)
 | .ext (.fam _ sb)=>.ext (.fam 0 sb)
 | b=>b
def zmG (mem:AM) (σ:List (Nat×Nat)) (m:AM):Prop:=List.rec (motive:=fun _=>Prop) True (fun p _ ih=>(lk mem (rnm σ p.1)).map roB=some (rnB σ p.2)/\ih) m
theorem zfT {mem:AM} {σ:List (Nat×Nat)}:∀ {m:AM},zmG mem σ m->∀ i b,lk m i=some b->∃ b',lk mem (rnm σ i)=some b'/\roB b'=rnB σ b
 | [],_,t,v,h=>by simp[lk] at h
 | (k,u)::l,hs,t,v,h=>by
  rcases za5 h with⟨rfl,rfl⟩ | ⟨_,h⟩
  ·have:=hs.1
   simp only[Option.map_eq_some_iff] at this
   exact this
  ·exact zfT hs.2 t v h
theorem brd_ro {ρ:Nat->Pl} {i g:Nat} (b:ABlk):brd ρ i (roB b) g↔brd ρ i b g:=by
 cases b with
 | ext e=>cases e<;>exact Iff.rfl
 | _=>exact Iff.rfl
theorem BlkOk.ro {C C':Ctx} {ρ:Nat->Pl} {nx i:Nat} {w:World} {b:ABlk} (h:BlkOk C ρ nx i w b) (hx:exB (roB b)=false):BlkOk C' ρ nx i w (roB b):=by
 cases b with
 | box t cs=>cases hx
 | row t sz n el=>
  obtain⟨h1,h2,h3⟩:=h;refine⟨h1,h2,h3.imp id ?_⟩;rintro⟨b,off,hA,hr,hc⟩;exact⟨b,off,hA,⟨hr.lt,fun q=>by simp[zc1] at q,fun q=>by simp[frT] at q⟩,hc⟩
 | ext e=>cases e with
  | deep t sz n cap el u=>
   obtain⟨h1,h2,h0,h3⟩:=h;refine⟨h1,h2,h0,h3.imp (fun q=>⟨q.1,fun q=>by simp[zc1] at q⟩) ?_⟩;rintro⟨hn,b,off,hA,hr,hcap,hc⟩;exact⟨hn,b,off,hA,⟨hr.lt,fun q=>by simp[zc1] at q,fun q=>by simp[frT] at q⟩,fun q=>by simp[zc1] at q,hc⟩
  | fam t sb=>
   refine⟨rfl,fun k o=>⟨(h.2 k o).1,(h.2 k o).2.imp id ?_⟩⟩;rintro⟨b,off,hA,hr,hc⟩;exact⟨b,off,hA,⟨hr.lt,fun q=>by simp[zc1] at q,fun q=>by simp[frT] at q⟩,hc⟩
  | map kk ag f=>cases hx
  | obj S Φ=>cases hx
def zkF {Y:Type} (inv:Y->Prop) (M:Y->AM) (k:Nat):List Nat->Nat->World->Prop:=fun S g w=>
 ∃ (y:Y) (C:Ctx) (ρ:Nat->Pl),inv y/\(ρ 0).A=some ⟨g,0,none⟩/\(∀ i b,lk (M y) i=some b->(i<k/\(ρ i).res=false)/\BlkOk C ρ k i w b/\∀ g',brd ρ i b g'->g' ∈ S)/\∀ i j b b',i≠j->lk (M y) i=some b->lk (M y) j=some b'->Apart ρ i j b b'
theorem zjM {Y:Type} (inv:Y->Prop) (M:Y->AM) (k:Nat):LocO (zkF inv M k):=by
 rintro S g w w' hb hs ⟨y,C,ρ,h1,h2,h3,h4⟩;refine⟨y,C,ρ,h1,h2,fun i b hi=>?_,h4⟩;obtain⟨q1,q2,q3⟩:=h3 i b hi;exact⟨q1,q2.far hs fun g' hg=>hb g' (q3 g' hg),q3⟩
def zln (k:Nat) (m:AM):Bool:=nmM k m&&m.all (fun p=>exB p.2)&&(match lk m 0 with | some (.box _ _)=>true | _=>false)
def extB (k n:Nat) (m:AM):Bool:=nmM n m&&m.all (fun p=>Nat.ble k p.1&&!exB p.2&&gmB k p.2)
def resB (k n d:Nat) (V:Value) (m:AM):Bool:=nmM (n+d) m&&m.all (fun p=>Nat.ble n p.1&&gmB k p.2&&frBk p.2)&&nmV (n+d) V&&gmV k V
def argB (k n:Nat) (vs:List Value):Bool:=vs.all fun v=>nmV n v&&gmV k v
def fixE (σ:List (Nat×Nat)) (k:Nat):Nat->Bool
 | 0=>true
 | n+1=>(Nat.blt n k||Nat.beq (rnm σ n) n)&&fixE σ k n
theorem zmY {σ:List (Nat×Nat)} {k:Nat}:∀ {n:Nat},fixE σ k n=true->∀ i,k<=i->i<n->rnm σ i=i
 | 0,_,i,h1,h2=>by omega
 | n+1,h,i,h1,h2=>by
  simp only[fixE,Bool.and_eq_true,Bool.or_eq_true,Nat.blt_eq] at h
  by_cases he:n=i
  ·subst he;rcases h.1 with q | q
   ·omega
   ·exact Nat.eq_of_beq_eq_true q
  ·exact zmY h.2 i h1 o_
def zbu {X Q Y R:Type} (inv:Q->Y->Prop) (M:Q->Y->AM) (k n d:Nat) (args:X->List Value) (E:X->AM) (pre:X->Q->Prop) (post:X->Q->R->Q->Prop) (V:X->R->Value) (B:X->R->AM):CT:=fun vs mem nx K=>
 ∃ x q j S σ,pre x q/\vs=.pointer (some ⟨j,0,none⟩)::(args x).map (rnV σ)/\lk mem j=some (.ext (.obj S (zkF (inv q) (M q) k)))/\zmG mem σ (E x)/\zjm σ nx n=true/\
  ∀ r q' S',post x q r q'->K (rnV (sgn σ n nx d) (V x r)) (rnM (sgn σ n nx d) (B x r)++(j,.ext (.obj S' (zkF (inv q') (M q') k)))::mem) (nx+d)
def zch {X Q Y R:Type} (inv:Q->Y->Prop) (M:Q->Y->AM) (k n:Nat) (post:X->Q->R->Q->Prop) (V:X->R->Value) (B:X->R->AM) (x:X) (q:Q) (v:Value) (mem':AM) (_:Nat):Prop:=
 ∃ r q' y' σ,post x q r q'/\inv q' y'/\(rnm σ 0=0/\fixE σ k n=true/\zfj σ (M q' y'++B x r)=true)/\v=rnV σ (V x r)/\zeG mem' σ (M q' y'++B x r)
section
variable {P:Program} {C:Ctx} {ρ ρ':Nat->Pl} {fr:AF} {mem mem':AM} {nx nx':Nat} {a:Act} {w w':World} {σ:List (Nat×Nat)}
theorem zdC {α:Type}:∀ {l r:List (Nat×α)} {i:Nat} {b:α},lk (l++r) i=some b->lk l i=some b∨lk l i=none/\lk r i=some b
 | l,r,i,b,h=>by
  cases hl:lk l i with
  | some c=>rw[za9 hl] at h;exact .inl h
  | none=>rw[zbd hl] at h;exact .inr ⟨rfl,h⟩
theorem zbb {τ : TT} {F : FT} {D : List (Nat × DQ)} (hτ : zcl P τ) (hF : zaY P F (zbj D)) (hmix : P.follows .mixedOrders = true) {f : FuncId} {fn : Func} {c : Code} (hent : (P.funcs[f]?).map (fun fn => (fn.name == "runtime.NumGoroutine", fn.body.isNone)) = some (false, false)) (hf : P.funcs[f]? = some fn) (hb : fn.body = some c) (hcode : zc6 fn.ntmps D c = true)
  {X Q Y R:Type} {inv:Q->Y->Prop} {M:Q->Y->AM} {k n d:Nat} {args:X->List Value} {E:X->AM} {pre:X->Q->Prop} {post:X->Q->R->Q->Prop} {V:X->R->Value} {B:X->R->AM}
  (hk0:0<k/\k<=n) (hn0:∀ x,Nat.ble ((args x).length+1) fn.ntmps=true) (hM:∀ q y,inv q y->zln k (M q y)=true) (hE:∀ x,(extB k n (E x)&&argB k n (args x))=true) (hR:∀ x r,resB k n d (V x r) (B x r)=true)
  (hw:∀ x q y,pre x q->inv q y->sx τ F D c (zb3 0 (.pointer (some ⟨0,0,none⟩)::args x)) (M q y++E x) n (zb8 τ fn.results.toList (zch inv M k n post V B x q))):CSound P f (zbu inv M k n d args E pre post V B):=by
 refine⟨hent,?_⟩;rintro C ρ fr mem nx a w vs K ⟨x,q,j,S,σ,hpre,rfl,hj,hkE,hlt,hK⟩ hs hv;obtain⟨g,hA,hgS,hSok,hloc,y,C0,ρi,hinv,hA0,hbl,hap⟩:=hs.blk j _ (za9 hj);have hcls:=hM q y hinv;simp only[zln,nmM,Bool.and_eq_true,List.all_eq_true,decide_eq_true_eq] at hcls;have hEx:=hE x;simp only[extB,argB,nmM,Bool.and_eq_true,List.all_eq_true,decide_eq_true_eq,Bool.not_eq_true'] at hEx;obtain⟨⟨hEn,hEg⟩,hEa⟩:=hEx;let ρ0:Nat->Pl:=fun i=>if i<k then ρi i else ρ (rnm σ i)
 have h0lo:∀ i,i<k->ρ0 i=ρi i:=fun i hi=>if_pos hi
 have h0hi:∀ i,k<=i->ρ0 i=ρ (rnm σ i):=fun i hi=>if_neg o_
 let C1:Ctx:={ w0:=w,bor:=S,n0:=n,ρ0:=ρ0,nt:=fn.ntmps }
 have hcutρ:∀ i,i<n->(zjd k (fun i=>ρ (rnm σ i)) i).res=false->ρ0 i=zjd k (fun i=>ρ (rnm σ i)) i:=fun i _ hr=>by
  rcases Nat.lt_or_ge i k with h | h
  ·unfold zjd at hr;rw[if_pos h] at hr;cases hr
  ·rw[zdg _ h,h0hi i h]
 -- the extra names
 have hext:∀ i b,lk (E x) i=some b->(k<=i/\i<n)/\exB b=false/\BlkOk C1 ρ0 n i w b/\rnm σ i≠j/\∃ b',lk mem (rnm σ i)=some b'/\∀ g',brd ρ0 i b g'->brd ρ (rnm σ i) b' g':=by
  intro i b hi;have h1:=hEn _ (zaO hi);have h2:=hEg _ (zaO hi);have hki:k<=i:=Nat.le_of_ble_eq_true h2.1.1;obtain⟨b',h3,h4⟩:=zfT hkE i b hi;have hx:exB (roB b')=false:=by rw[h4,ze6];exact h2.1.2
  have h5:=(hs.blk _ _ (za9 h3)).ro (C':=C1) hx;rw[h4] at h5;have h6:=((h5.rnI h1.2).cut hki h2.2).ren (ρ':=ρ0) (hcutρ i h1.1 (by rw[zdg _ hki];exact (hs.mlt _ _ (za9 h3)).2)) hcutρ nl_;refine⟨⟨hki,h1.1⟩,h2.1.2,h6,?_,b',h3,fun g' hg'=>?_⟩
  ·rintro rfl;rw[hj] at h3;cases h3
   cases hx
  ·rw[← brd_ro,h4,← ze9];rw[zbX (ρ:=fun i=>ρ (rnm σ i)) (h0hi i hki)] at hg';exact hg'
 have hobj:∀ i b,lk (M q y) i=some b->i<k/\BlkOk C1 ρ0 n i w b/\∀ g',brd ρ0 i b g'->g' ∈ S:=by
  intro i b hi;obtain⟨⟨q1,q2⟩,q3,q4⟩:=hbl i b hi;refine⟨q1,(q3.ctxA (C':=C1) fun g' hg'=>.inr (q4 g' hg')).ren (h0lo i q1) (fun q hq _=>h0lo q hq) hk0.2,fun g' hg'=>q4 g' ?_⟩;rw[zbX (h0lo i q1)] at hg';exact hg'
 have hsepE:∀ i b',lk mem i=some b'->i≠j->∀ g',g' ∈ S->¬ brd ρ i b' g':=fun i b' hi hne g' hg'=>(hs.sep j i _ _ (Ne.symm hne) (za9 hj) (za9 hi)) g' hg'
 have hm:MemAt C1 ρ0 (M q y++E x) n w:=by
  refine⟨fun i b hi=>?_,fun i b hi=>?_,fun i i' b b' hne hi hi'=>?_,nl_,fun _ _=>rfl,⟨rfl,rfl,rfl,nl_,fun _ _ _=>rfl⟩⟩
  ·rcases zdC hi with hi | ⟨-,hi⟩
   ·have q1:=(hbl i b hi).1;exact⟨Nat.lt_of_lt_of_le q1.1 hk0.2,by rw[h0lo i q1.1];exact q1.2⟩
   ·obtain⟨q1,-,-,-,b',q2,-⟩:=hext i b hi;exact⟨q1.2,by rw[h0hi i q1.1];exact (hs.mlt _ _ (za9 q2)).2⟩
  ·rcases zdC hi with hi | ⟨-,hi⟩
   ·exact (hobj i b hi).2.1
   ·exact (hext i b hi).2.2.1
  ·rcases zdC hi with hi | ⟨-,hi⟩
   ·rcases zdC hi' with hi' | ⟨-,hi'⟩
    ·exact (hap i i' b b' hne hi hi').ren (h0lo i (hobj i b hi).1) (h0lo i' (hobj i' b' hi').1)
    ·refine (hobj i b hi).2.1.apart fun g' hg hg2=>?_
     obtain⟨-,-,-,q1,b2,q2,q3⟩:=hext i' b' hi';exact hsepE _ b2 q2 q1 g' ((hobj i b hi).2.2 g' (zbm hg)) (q3 g' hg2)
   ·refine (hext i b hi).2.2.1.apart fun g' hg=>?_
    have:=zfe hg;rw[(hext i b hi).2.1] at this;cases this
 -- the arguments
 have harg:∀ v ∈ args x,den ρ (rnV σ v)=den ρ0 v/\okV ρ0 n v:=by
  intro v hv';have h1:=hEa v hv';have h2:=zmA (k:=k) (zfa (hv (rnV σ v) (List.mem_cons_of_mem _ (List.mem_map_of_mem hv'))) h1.1) h1.2;refine⟨?_,zc9 hcutρ nl_ h2.1⟩;rw[zbQ hcutρ h2.1,h2.2,ze8]
 obtain⟨cb,tb,hbx⟩:∃ tb cb,lk (M q y) 0=some (.box tb cb):=by
  have:=hcls.2;split at this
  ·exact⟨_,_,by assumption⟩
  ·cases this
 have hroot:den ρ (.pointer (some ⟨j,0,none⟩))=den ρ0 (.pointer (some ⟨0,0,none⟩)):=by
  show Value.pointer (ρ j).A=Value.pointer (ρ0 0).A;rw[hA,h0lo 0 hk0.1,hA0]
 have hvs:((Value.pointer (some ⟨j,0,none⟩)::(args x).map (rnV σ)).map (den ρ))=(Value.pointer (some ⟨0,0,none⟩)::args x).map (den ρ0):=by
  rw[List.map_cons,List.map_cons,hroot,List.map_map];congr 1
  exact List.map_congr_left fun v hv'=>(harg v hv').1
 rw[hvs];have hva:∀ v ∈ Value.pointer (some ⟨0,0,none⟩)::args x,okV ρ0 n v:=by
  intro v hv';rcases List.mem_cons.1 hv' with rfl | hv'
  ·have q1:=(hbl 0 _ hbx).1;exact⟨⟨Nat.lt_of_lt_of_le hk0.1 hk0.2,by show (ρ0 0).res=false;rw[h0lo 0 hk0.1];exact q1.2⟩,⟨g,0,by show (ρ0 0).A=_;rw[h0lo 0 hk0.1];exact hA0⟩,fun _ h=>by cases h⟩
  ·exact (harg v hv').2
 refine (zbR hτ hF hmix hf hb hcode (vs:=.pointer (some ⟨0,0,none⟩)::args x) (hn0 x) ⟨rfl,rfl⟩ rfl hm hva (hw x q y hpre hinv)).mono ?_;rintro e w' ⟨v,mem2,nx2,ρ2,rfl,⟨r,q',y',σ1,hpost,hinv',⟨h0,hfix,hnb⟩,rfl,hk1⟩,hv2,hm2⟩;have hcls':=hM q' y' hinv';simp only[zln,nmM,Bool.and_eq_true,List.all_eq_true,decide_eq_true_eq] at hcls';have hRx:=hR x r;simp only[resB,nmM,Bool.and_eq_true,List.all_eq_true,decide_eq_true_eq] at hRx;obtain⟨⟨⟨hRn,hRg⟩,hVn⟩,hVg⟩:=hRx;-- the object behind the call
 let ρo:Nat->Pl:=fun i=>ρ2 (rnm σ1 i)
 have hkM:∀ i b,lk (M q' y') i=some b->lk mem2 (rnm σ1 i)=some (rnB σ1 b):=fun i b hi=>zbF hk1 i b (za9 hi)
 have hblkO:∀ i b,lk (M q' y') i=some b->BlkOk C1 ρo k i w' b:=fun i b hi=>(hm2.blk _ _ (hkM i b hi)).rnI (hcls'.1.1 _ (zaO hi)).2
 have hexM:∀ i b,lk (M q' y') i=some b->exB b=true:=fun i b hi=>hcls'.1.2 _ (zaO hi)
 let S':List Nat:=(List.range w'.heap.size).filter fun g=>@decide (∃ i b,lk (M q' y') i=some b/\brd ρo i b g) (Classical.propDecidable _)
 have hS':∀ g',g' ∈ S'↔∃ i b,lk (M q' y') i=some b/\brd ρo i b g':=by
  intro g';simp only[S',List.mem_filter,List.mem_range,decide_eq_true_eq];exact⟨fun h=>h.2,fun h=>⟨by obtain⟨i,b,h1,h2⟩:=h;exact (hblkO i b h1).brd_lt h2,h⟩⟩
 have hS'lt:∀ g',g' ∈ S'->g'<w'.heap.size:=fun g' hg'=>by obtain⟨i,b,h1,h2⟩:=(hS' g').1 hg';exact (hblkO i b h1).brd_lt h2
 have hS'1:∀ g',g' ∈ S'->w.heap.size<=g'∨g' ∈ S:=fun g' hg'=>by
  obtain⟨i,b,h1,h2⟩:=(hS' g').1 hg';exact (hblkO i b h1).perm (zn4 (hexM i b h1) h2)
 have hok:∀ g',C1.ok g'->C.ok g':=fun g' hg'=>hg'.elim (fun h=>.inl (Nat.le_trans hs.rest.size h)) fun h=>(hSok g' h).2
 have hlow2:∀ i,i<n->ρ2 i=ρ0 i:=fun i hi=>hm2.low i hi
 have hΦ:BlkOk C ρ nx j w' (.ext (.obj S' (zkF (inv q') (M q') k))):=by
  obtain⟨cb',tb',hbx'⟩:∃ tb cb,lk (M q' y') 0=some (.box tb cb):=by
   have:=hcls'.2;split at this
   ·exact⟨_,_,by assumption⟩
   ·cases this
  have hA':(ρo 0).A=some ⟨g,0,none⟩:=by
   show (ρ2 (rnm σ1 0)).A=_;rw[h0,hlow2 0 (Nat.lt_of_lt_of_le hk0.1 hk0.2),h0lo 0 hk0.1,hA0]
  refine⟨g,hA,(hS' g).2 ⟨0,_,hbx',by simp[brd,bno,hA']⟩,fun b hb'=>⟨hS'lt b hb',hok b (hS'1 b hb')⟩,zjM _ _ _,y',C1,ρo,hinv',hA',fun i b hi=>?_,fun i i' b b' hne hi hi'=>?_⟩
  ·have q1:=(hcls'.1.1 _ (zaO hi)).1;exact⟨⟨q1,(hm2.mlt _ _ (hkM i b hi)).2⟩,hblkO i b hi,fun g' hg'=>(hS' g').2 ⟨i,b,hi,hg'⟩⟩
  ·refine (hblkO i b hi).apart fun g' hg hg2=>?_
   rw[zdF] at hg;rw[ze9] at hg2;by_cases he:rnm σ1 i=rnm σ1 i'
   ·exact hne (zdR hnb (za9 hi) (za9 hi') (hexM i b hi) (hexM i' b' hi') he)
   ·exact (hm2.sep _ _ _ _ he (hkM i b hi) (hkM i' b' hi')).wr (hm2.sep _ _ _ _ (Ne.symm he) (hkM i' b' hi') (hkM i b hi)) hg hg2
 -- names of what comes back
 let σ':=sgn σ n nx d
 let ρF:Nat->Pl:=fun i=>if i<nx then ρ i else ρ2 (rnm σ1 (n+(i-nx)))
 have hFlow:∀ i,i<nx->ρF i=ρ i:=fun i hi=>if_pos hi
 have hlt':∀ i,i<n+d->rnm σ' i<nx+d:=fun i hi=>by
  rcases Nat.lt_or_ge i n with h | h
  ·rw[show rnm σ' i=rnm σ i from zdv h d];exact Nat.lt_of_lt_of_le (zdk hlt i h) (Nat.le_add_right _ _)
  ·rw[show rnm σ' i=_ from zdu h d hi];omega
 have hσ:∀ i,k<=i->i<n+d->ρF (rnm σ' i)=ρ2 (rnm σ1 i):=fun i hki hi=>by
  rcases Nat.lt_or_ge i n with h | h
  ·rw[show rnm σ' i=rnm σ i from zdv h d,hFlow _ (zdk hlt i h),zmY hfix i hki h,hlow2 i h,h0hi i hki]
  ·rw[show rnm σ' i=_ from zdu h d hi];show (if nx+(i-n)<nx then _ else _)=_;rw[if_neg o_];congr 2
   omega
 have hcut2:∀ i,i<n+d->(zjd k ρo i).res=false->ρF (rnm σ' i)=zjd k ρo i:=fun i hi hr=>by
  rcases Nat.lt_or_ge i k with h | h
  ·unfold zjd at hr;rw[if_pos h] at hr;cases hr
  ·rw[zdg _ h,hσ i h hi]
 have hkB:∀ i b,lk (B x r) i=some b->lk mem2 (rnm σ1 i)=some (rnB σ1 b):=fun i b hi=>by
  refine zbF hk1 i b ?_;rw[zbd]
  ·exact hi
  ·cases hl:lk (M q' y') i with
   | none=>rfl
   | some c=>
    have h1:=(hcls'.1.1 _ (zaO hl)).1;have h2:=Nat.le_of_ble_eq_true (hRg _ (zaO hi)).1.1;simp only at h1 h2;omega
 have hBn:∀ i b,lk (B x r) i=some b->n<=i/\i<n+d:=fun i b hi=>⟨Nat.le_of_ble_eq_true (hRg _ (zaO hi)).1.1,(hRn _ (zaO hi)).1⟩
 have hBnd:∀ i b,lk (B x r) i=some b->BlkOk C1 ρF (nx+d) (rnm σ' i) w' (rnB σ' b):=by
  intro i b hi;have hin:=hBn i b hi;have hki:k<=i:=Nat.le_trans hk0.2 hin.1;have h1:BlkOk C1 ρo (n+d) i w' b:=(hm2.blk _ _ (hkB i b hi)).rnI (hRn _ (zaO hi)).2;have h2:=(h1.cut hki (hRg _ (zaO hi)).1.2).ren (ρ':=fun i=>ρF (rnm σ' i)) (by rw[zdg _ hki];exact hσ i hki hin.2) hcut2 nl_;exact (h2.ctxA (C':=C1) fun g' hg'=>h2.made (hRg _ (zaO hi)).2 hg').rnO hlt'
 have hlk:∀ i b,lk (rnM σ' (B x r)++(j,.ext (.obj S' (zkF (inv q') (M q') k)))::mem++C.fm) i=some b->(∃ i0 b0,lk (B x r) i0=some b0/\rnm σ' i0=i/\b=rnB σ' b0/\nx<=i)∨(i=j/\b=.ext (.obj S' (zkF (inv q') (M q') k)))∨(i≠j/\lk (mem++C.fm) i=some b):=by
  intro i b hi;rw[List.append_assoc,List.cons_append] at hi;rcases zdC hi with hi | ⟨-,hi⟩
  ·obtain⟨i0,b0,h1,h2,h3⟩:=zm6 hi;refine .inl ⟨i0,b0,h1,h2,h3,?_⟩;have:=hBn i0 b0 h1;rw[← h2,show rnm σ' i0=_ from zdu this.1 d this.2];exact Nat.le_add_right _ _
  ·rcases za5 hi with⟨h1,h2⟩ | ⟨h1,hi⟩
   ·exact .inr (.inl ⟨h1.symm,h2.symm⟩)
   ·exact .inr (.inr ⟨Ne.symm h1,hi⟩)
 have hsz:w.heap.size<=w'.heap.size:=hm2.rest.size;have hfar:∀ i b,i≠j->lk (mem++C.fm) i=some b->∀ g',brd ρ i b g'->g'<w.heap.size/\g' ∉ S:=fun i b hne hi g' hg'=>⟨(hs.blk i b hi).brd_lt hg',fun hS=>(hs.sep j i _ _ (Ne.symm hne) (za9 hj) hi) g' hS hg'⟩
 have hold0:∀ i b,i≠j->lk (mem++C.fm) i=some b->BlkOk C ρ nx i w' b:=fun i b hne hi=>
  (hs.blk i b hi).far hsz fun g' hg'=>hm2.rest.block g' (hfar i b hne hi g' hg').1 (hfar i b hne hi g' hg').2
 have hren:∀ {i b},i<nx->BlkOk C ρ nx i w' b->BlkOk C ρF (nx+d) i w' b:=fun hi h=>h.ren (hFlow _ hi) (fun q hq _=>hFlow q hq) (Nat.le_add_right _ _)
 have hjlt:j<nx:=(hs.mlt j _ (za9 hj)).1;have hBC:∀ i b,lk (B x r) i=some b->BlkOk C ρF (nx+d) (rnm σ' i) w' (rnB σ' b):=fun i b hi=>(hBnd i b hi).ctxA fun g' hg'=>by
  have hf:frBk (rnB σ' b)=true:=by
   have:=(hRg _ (zaO hi)).2;cases b with
   | ext e=>cases e<;>exact this
   | _=>exact this
  exact hok _ ((hBnd i b hi).made hf hg')
 -- what comes back rests on new blocks or on those of the object that it does not keep
 have hBg:∀ i b,lk (B x r) i=some b->∀ g',brd ρF (rnm σ' i) (rnB σ' b) g'->w.heap.size<=g'∨g' ∈ S:=by
  intro i b hi g' hg';have hf:frBk (rnB σ' b)=true:=by
   have:=(hRg _ (zaO hi)).2;cases b with
   | ext e=>cases e<;>exact this
   | _=>exact this
  exact (hBnd i b hi).made hf hg'
 have hBo:∀ i b,lk (B x r) i=some b->∀ g',brd ρF (rnm σ' i) (rnB σ' b) g'->brd ρ2 (rnm σ1 i) (rnB σ1 b) g':=by
  intro i b hi g' hg';have hin:=hBn i b hi;rw[← ze9,zbX (ρ:=fun i=>ρ2 (rnm σ1 i)) (ρ':=fun i=>ρF (rnm σ' i)) (hσ i (Nat.le_trans hk0.2 hin.1) hin.2) b,ze9 (σ:=σ1)] at hg';exact hg'
 have hBw:∀ i b,lk (B x r) i=some b->∀ g',bwr ρF (rnm σ' i) (rnB σ' b) g'->bwr ρ2 (rnm σ1 i) (rnB σ1 b) g':=by
  intro i b hi g' hg';have hin:=hBn i b hi;rw[← zdF,zdG (ρ:=fun i=>ρ2 (rnm σ1 i)) (ρ':=fun i=>ρF (rnm σ' i)) (hσ i (Nat.le_trans hk0.2 hin.1) hin.2) b,zdF (σ:=σ1)] at hg';exact hg'
 have hne12:∀ {i i':Nat} {b b':ABlk},i≠i'->lk (M q' y'++B x r) i=some b->lk (M q' y'++B x r) i'=some b'->∀ g',bwr ρ2 (rnm σ1 i) (rnB σ1 b) g'->¬ brd ρ2 (rnm σ1 i') (rnB σ1 b') g':=by
  intro i i' b b' hne hi hi' g' hg hg2;have h1:=zbF hk1 i b hi;have h2:=zbF hk1 i' b' hi';by_cases he:rnm σ1 i=rnm σ1 i'
  ·rw[he,h2] at h1;have hx:=zfe hg;have hx2:exB b'=true:=by rw[← ze6 (σ:=σ1),Option.some.inj h1];exact hx
   rw[ze6] at hx;exact hne (zdR hnb hi hi' hx hx2 he)
  ·exact (hm2.sep _ _ _ _ he h1 h2).wr (hm2.sep _ _ _ _ (Ne.symm he) h2 h1) hg hg2
 have hMB:∀ i b,lk (B x r) i=some b->lk (M q' y'++B x r) i=some b/\lk (M q' y') i=none:=by
  intro i b hi;have:lk (M q' y') i=none:=by
   cases hl:lk (M q' y') i with
   | none=>rfl
   | some c=>
    have h1:=(hcls'.1.1 _ (zaO hl)).1;have h2:=hBn i b hi;simp only at h1;omega
  exact⟨by rw[zbd this];exact hi,this⟩
 have hS'B:∀ g',g' ∈ S'->∀ i b,lk (B x r) i=some b->¬ brd ρF (rnm σ' i) (rnB σ' b) g':=by
  intro g' hg' i b hi hg2;obtain⟨i0,b0,h1,h2⟩:=(hS' g').1 hg';obtain⟨q1,q2⟩:=hMB i b hi;refine hne12 (i:=i0) (i':=i) (b:=b0) (b':=b) (by rintro rfl;rw[q2] at h1;cases h1) (za9 h1) q1 g' ?_ (hBo i b hi g' hg2);rw[← zdF];exact zn4 (hexM i0 b0 h1) h2
 have hcross:∀ {i i':Nat} {b b':ABlk},lk (B x r) i=some b->i'≠j->lk (mem++C.fm) i'=some b'->∀ g',brd ρF (rnm σ' i) (rnB σ' b) g'->¬ brd ρF i' b' g':=by
  intro i i' b b' hi hne hi' g' hg hg2;rw[zbX (hFlow i' (hs.mlt i' b' hi').1)] at hg2;have h1:=hfar i' b' hne hi' g' hg2;rcases hBg i b hi g' hg with h2 | h2
  ·omega
  ·exact h1.2 h2
 have hcross2:∀ {i':Nat} {b':ABlk},i'≠j->lk (mem++C.fm) i'=some b'->∀ g',g' ∈ S'->¬ brd ρF i' b' g':=by
  intro i' b' hne hi' g' hg hg2;rw[zbX (hFlow i' (hs.mlt i' b' hi').1)] at hg2;have h1:=hfar i' b' hne hi' g' hg2;rcases hS'1 g' hg with h2 | h2
  ·omega
  ·exact h1.2 h2
 have hV:den ρ2 (rnV σ1 (V x r))=den ρF (rnV σ' (V x r))/\okV ρF (nx+d) (rnV σ' (V x r)):=by
  have h1:okV ρo (n+d) (V x r):=zfa hv2 hVn;have h2:=zmA (k:=k) h1 hVg;have h3:okV (fun i=>ρF (rnm σ' i)) (n+d) (V x r):=zc9 hcut2 nl_ h2.1;refine⟨?_,ziM hlt' h3⟩;rw[← ze8,← ze8];exact h2.2.symm.trans (zbQ hcut2 h2.1).symm
 refine⟨_,_,_,ρF,by rw[hV.1],hK r q' S' hpost,⟨⟨fun t v hv'=>?_,fun t v hv'=>zc9 (fun q hq _=>hFlow q hq) (Nat.le_add_right _ _) (hs.fok.frk t v hv')⟩,hs.sz,hs.dfr,fun i b hi=>?_,fun i b hi=>?_,fun i i' b b' hne hi hi'=>?_,Nat.le_trans hs.n0 (Nat.le_add_right _ _),fun i hi=>(hFlow i (Nat.lt_of_lt_of_le hi hs.n0)).trans (hs.low i hi),?_⟩,hV.2,⟨hFlow,Nat.le_add_right _ _⟩⟩
 ·rw[zbQ (fun q hq _=>hFlow q hq) (hs.fok.frk t v hv')];exact hs.fok.frm t v hv'
 ·rcases hlk i b hi with⟨i0,b0,h1,rfl,rfl,-⟩ | ⟨rfl,rfl⟩ | ⟨hne,h1⟩
  ·have hin:=hBn i0 b0 h1;exact⟨hlt' i0 hin.2,by rw[hσ i0 (Nat.le_trans hk0.2 hin.1) hin.2];exact (hm2.mlt _ _ (hkB i0 b0 h1)).2⟩
  ·exact⟨Nat.lt_of_lt_of_le hjlt (Nat.le_add_right _ _),by rw[hFlow i hjlt];exact (hs.mlt i _ (za9 hj)).2⟩
  ·have:=hs.mlt i b h1;exact⟨Nat.lt_of_lt_of_le this.1 (Nat.le_add_right _ _),by rw[hFlow i this.1];exact this.2⟩
 ·rcases hlk i b hi with⟨i0,b0,h1,rfl,rfl,-⟩ | ⟨rfl,rfl⟩ | ⟨hne,h1⟩
  ·exact hBC i0 b0 h1
  ·exact hren hjlt hΦ
  ·exact hren (hs.mlt i b h1).1 (hold0 i b hne h1)
 ·rcases hlk i b hi with⟨i0,b0,h1,rfl,rfl,hlo⟩ | ⟨rfl,rfl⟩ | ⟨hn1,h1⟩
  ·rcases hlk i' b' hi' with⟨i1,b1,h2,rfl,rfl,-⟩ | ⟨rfl,rfl⟩ | ⟨hn2,h2⟩
   ·refine (hBC i0 b0 h1).apart fun g' hg hg2=>?_
    exact hne12 (i:=i0) (i':=i1) (fun q=>hne (by rw[q])) (hMB i0 b0 h1).1 (hMB i1 b1 h2).1 g' (hBw i0 b0 h1 g' hg) (hBo i1 b1 h2 g' hg2)
   ·exact (hBC i0 b0 h1).apart fun g' hg hg2=>hS'B g' hg2 i0 b0 h1 (zbm hg)
   ·exact (hBC i0 b0 h1).apart fun g' hg hg2=>hcross h1 hn2 h2 g' (zbm hg) hg2
  ·rcases hlk i' b' hi' with⟨i1,b1,h2,rfl,rfl,-⟩ | ⟨rfl,rfl⟩ | ⟨hn2,h2⟩
   ·exact (hren hjlt hΦ).apart fun g' hg hg2=>hS'B g' hg i1 b1 h2 hg2
   ·exact absurd rfl hne
   ·exact (hren hjlt hΦ).apart fun g' hg hg2=>hcross2 hn2 h2 g' hg hg2
  ·rcases hlk i' b' hi' with⟨i1,b1,h2,rfl,rfl,-⟩ | ⟨rfl,rfl⟩ | ⟨hn2,h2⟩
   ·exact (hren (hs.mlt i b h1).1 (hold0 i b hn1 h1)).apart fun g' hg hg2=>hcross h2 hn1 h1 g' hg2 (zbm hg)
   ·exact (hren (hs.mlt i b h1).1 (hold0 i b hn1 h1)).apart fun g' hg hg2=>hcross2 hn1 h1 g' hg2 (zbm hg)
   ·exact (hs.sep i i' b b' hne h1 h2).ren (hFlow i (hs.mlt i b h1).1) (hFlow i' (hs.mlt i' b' h2).1)
 ·refine⟨hm2.rest.os.trans hs.rest.os,hm2.rest.tape.trans hs.rest.tape,hm2.rest.output.trans hs.rest.output,Nat.le_trans hs.rest.size hsz,fun b hltb hnb=>?_⟩;refine (hm2.rest.block b (Nat.lt_of_lt_of_le hltb hs.rest.size) fun hb=>?_).trans (hs.rest.block b hltb hnb);rcases (hSok b hb).2 with q | q
  ·omega
  ·exact hnb q
end
/-! A call that makes an object. -/
def zgC {X Q Y R:Type} (inv:Q->Y->Prop) (M:Q->Y->AM) (k n:Nat) (args:X->List Value) (E:X->AM) (pre:X->Prop) (post:X->R->Q->Prop) (V:X->R->Value):CT:=fun vs mem nx K=>
 ∃ x σ,pre x/\vs=(args x).map (rnV σ)/\zmG mem σ (E x)/\zjm σ nx n=true/\
  ∀ r q' S',post x r q'->K (rnV (sgn σ n nx 1) (V x r)) ((nx,.ext (.obj S' (zkF (inv q') (M q') k)))::mem) (nx+1)
def zkL {X Q Y R:Type} (inv:Q->Y->Prop) (M:Q->Y->AM) (n:Nat) (post:X->R->Q->Prop) (V:X->R->Value) (x:X) (v:Value) (mem':AM) (_:Nat):Prop:=
 ∃ r q' y' σ,post x r q'/\inv q' y'/\zfj σ (M q' y')=true/\v=rnV [(n,rnm σ 0)] (V x r)/\zeG mem' σ (M q' y')
section
variable {P:Program} {C:Ctx} {ρ ρ':Nat->Pl} {fr:AF} {mem mem':AM} {nx nx':Nat} {a:Act} {w w':World} {σ:List (Nat×Nat)}
theorem zfS {τ : TT} {F : FT} {D : List (Nat × DQ)} (hτ : zcl P τ) (hF : zaY P F (zbj D)) (hmix : P.follows .mixedOrders = true) {f : FuncId} {fn : Func} {c : Code} (hent : (P.funcs[f]?).map (fun fn => (fn.name == "runtime.NumGoroutine", fn.body.isNone)) = some (false, false)) (hf : P.funcs[f]? = some fn) (hb : fn.body = some c) (hcode : zc6 fn.ntmps D c = true)
  {X Q Y R:Type} {inv:Q->Y->Prop} {M:Q->Y->AM} {k n:Nat} {args:X->List Value} {E:X->AM} {pre:X->Prop} {post:X->R->Q->Prop} {V:X->R->Value}
  (hn0:∀ x,Nat.ble (args x).length fn.ntmps=true) (hM:∀ q y,inv q y->zln k (M q y)=true) (hE:∀ x,(extB 0 n (E x)&&argB 0 n (args x))=true) (hR:∀ x r,nmV (n+1) (V x r)=true)
  (hw:∀ x,pre x->sx τ F D c (zb3 0 (args x)) (E x) n (zb8 τ fn.results.toList (zkL inv M n post V x))):CSound P f (zgC inv M k n args E pre post V):=by
 refine⟨hent,?_⟩;rintro C ρ fr mem nx a w vs K ⟨x,σ,hpre,rfl,hkE,hlt,hK⟩ hs hv;have hEx:=hE x;simp only[extB,argB,nmM,Bool.and_eq_true,List.all_eq_true,decide_eq_true_eq,Bool.not_eq_true'] at hEx;obtain⟨⟨hEn,hEg⟩,hEa⟩:=hEx;let ρ0:Nat->Pl:=fun i=>ρ (rnm σ i)
 let C1:Ctx:={ w0:=w,bor:=[],n0:=n,ρ0:=ρ0,nt:=fn.ntmps }
 have hext:∀ i b,lk (E x) i=some b->i<n/\exB b=false/\BlkOk C1 ρ0 n i w b/\∃ b',lk mem (rnm σ i)=some b':=by
  intro i b hi;have h1:=hEn _ (zaO hi);have h2:=hEg _ (zaO hi);obtain⟨b',h3,h4⟩:=zfT hkE i b hi;have hx:exB (roB b')=false:=by rw[h4,ze6];exact h2.1.2
  have h5:=(hs.blk _ _ (za9 h3)).ro (C':=C1) hx;rw[h4] at h5;exact⟨h1.1,h2.1.2,h5.rnI h1.2,b',h3⟩
 have hm:MemAt C1 ρ0 (E x) n w:=by
  refine⟨fun i b hi=>?_,fun i b hi=>(hext i b hi).2.2.1,fun i i' b b' hne hi hi'=>?_,nl_,fun _ _=>rfl,⟨rfl,rfl,rfl,nl_,fun _ _ _=>rfl⟩⟩
  ·obtain⟨q1,-,-,b',q2⟩:=hext i b hi;exact⟨q1,(hs.mlt _ _ (za9 q2)).2⟩
  ·refine (hext i b hi).2.2.1.apart fun g' hg=>?_
   have:=zfe hg;rw[(hext i b hi).2.1] at this;cases this
 have hvs:((args x).map (rnV σ)).map (den ρ)=(args x).map (den ρ0):=by simp[ρ0,Function.comp_def,ze8]
 rw[hvs];have hva:∀ v ∈ args x,okV ρ0 n v:=fun v hv'=>zfa (hv _ (List.mem_map_of_mem hv')) (hEa v hv').1
 refine (zbR hτ hF hmix hf hb hcode (hn0 x) ⟨rfl,rfl⟩ rfl hm hva (hw x hpre)).mono ?_;rintro e w' ⟨v,mem2,nx2,ρ2,rfl,⟨r,q',y',σ1,hpost,hinv',hnb,rfl,hk1⟩,hv2,hm2⟩;have hcls':=hM q' y' hinv';simp only[zln,nmM,Bool.and_eq_true,List.all_eq_true,decide_eq_true_eq] at hcls';let ρo:Nat->Pl:=fun i=>ρ2 (rnm σ1 i)
 have hkM:∀ i b,lk (M q' y') i=some b->lk mem2 (rnm σ1 i)=some (rnB σ1 b):=fun i b hi=>zbF hk1 i b hi
 have hblkO:∀ i b,lk (M q' y') i=some b->BlkOk C1 ρo k i w' b:=fun i b hi=>(hm2.blk _ _ (hkM i b hi)).rnI (hcls'.1.1 _ (zaO hi)).2
 have hexM:∀ i b,lk (M q' y') i=some b->exB b=true:=fun i b hi=>hcls'.1.2 _ (zaO hi)
 let S':List Nat:=(List.range w'.heap.size).filter fun g=>@decide (∃ i b,lk (M q' y') i=some b/\brd ρo i b g) (Classical.propDecidable _)
 have hS':∀ g',g' ∈ S'↔∃ i b,lk (M q' y') i=some b/\brd ρo i b g':=by
  intro g';simp only[S',List.mem_filter,List.mem_range,decide_eq_true_eq];exact⟨fun h=>h.2,fun h=>⟨by obtain⟨i,b,h1,h2⟩:=h;exact (hblkO i b h1).brd_lt h2,h⟩⟩
 have hS'lt:∀ g',g' ∈ S'->g'<w'.heap.size:=fun g' hg'=>by obtain⟨i,b,h1,h2⟩:=(hS' g').1 hg';exact (hblkO i b h1).brd_lt h2
 have hS'1:∀ g',g' ∈ S'->w.heap.size<=g':=fun g' hg'=>by
  obtain⟨i,b,h1,h2⟩:=(hS' g').1 hg';exact ((hblkO i b h1).perm (zn4 (hexM i b h1) h2)).resolve_right (by intro h;cases h)
 obtain⟨cb',tb',hbx'⟩:∃ tb cb,lk (M q' y') 0=some (.box tb cb):=by
  have:=hcls'.2;split at this
  ·exact⟨_,_,by assumption⟩
  ·cases this
 obtain⟨g,hA',-⟩:=hblkO 0 _ hbx';let σ':=sgn σ n nx 1
 let ρF:Nat->Pl:=fun i=>if i<nx then ρ i else ρ2 (rnm σ1 0)
 have hFlow:∀ i,i<nx->ρF i=ρ i:=fun i hi=>if_pos hi
 have hFnx:ρF nx=ρ2 (rnm σ1 0):=if_neg (Nat.lt_irrefl _);have hlow2:∀ i,i<n->ρ2 i=ρ0 i:=fun i hi=>hm2.low i hi
 have hlt':∀ i,i<n+1->rnm σ' i<nx+1:=fun i hi=>by
  rcases Nat.lt_or_ge i n with h | h
  ·rw[show rnm σ' i=rnm σ i from zdv h 1];exact Nat.lt_of_lt_of_le (zdk hlt i h) (Nat.le_add_right _ _)
  ·rw[show rnm σ' i=_ from zdu h 1 hi];omega
 have hσ:∀ i,i<n+1->ρF (rnm σ' i)=ρ2 (rnm [(n,rnm σ1 0)] i):=fun i hi=>by
  rcases Nat.lt_or_ge i n with h | h
  ·rw[show rnm σ' i=rnm σ i from zdv h 1,hFlow _ (zdk hlt i h)];have:rnm [(n,rnm σ1 0)] i=i:=by unfold rnm;rw[zcI _ _ o_];rfl
   rw[this,hlow2 i h]
  ·obtain rfl:i=n:=by omega
   rw[show rnm σ' i=_ from zdu h 1 hi];have:rnm [(i,rnm σ1 0)] i=rnm σ1 0:=by unfold rnm;rw[zbM]
   rw[this,Nat.sub_self,Nat.add_zero,hFnx]
 have hsz:w.heap.size<=w'.heap.size:=hm2.rest.size;have hΦ:BlkOk C ρF (nx+1) nx w' (.ext (.obj S' (zkF (inv q') (M q') k))):=by
  refine⟨g,by rw[hFnx];exact hA',(hS' g).2 ⟨0,_,hbx',by simp[brd,bno,hA']⟩,fun b hb'=>⟨hS'lt b hb',.inl (Nat.le_trans hs.rest.size (hS'1 b hb'))⟩,zjM _ _ _,y',C1,ρo,hinv',hA',fun i b hi=>?_,fun i i' b b' hne hi hi'=>?_⟩
  ·have q1:=(hcls'.1.1 _ (zaO hi)).1;exact⟨⟨q1,(hm2.mlt _ _ (hkM i b hi)).2⟩,hblkO i b hi,fun g' hg'=>(hS' g').2 ⟨i,b,hi,hg'⟩⟩
  ·refine (hblkO i b hi).apart fun g' hg hg2=>?_
   rw[zdF] at hg;rw[ze9] at hg2;by_cases he:rnm σ1 i=rnm σ1 i'
   ·exact hne (zdR hnb hi hi' (hexM i b hi) (hexM i' b' hi') he)
   ·exact (hm2.sep _ _ _ _ he (hkM i b hi) (hkM i' b' hi')).wr (hm2.sep _ _ _ _ (Ne.symm he) (hkM i' b' hi') (hkM i b hi)) hg hg2
 have hfar:∀ i b,lk (mem++C.fm) i=some b->∀ g',brd ρ i b g'->g'<w.heap.size:=fun i b hi g' hg'=>(hs.blk i b hi).brd_lt hg'
 have hold:∀ i b,lk (mem++C.fm) i=some b->BlkOk C ρF (nx+1) i w' b:=fun i b hi=>
  ((hs.blk i b hi).far hsz fun g' hg'=>hm2.rest.block g' (hfar i b hi g' hg') (by intro h;cases h)).ren (hFlow i (hs.mlt i b hi).1) (fun q hq _=>hFlow q hq) (Nat.le_add_right _ _)
 have hcross:∀ i b,lk (mem++C.fm) i=some b->∀ g',g' ∈ S'->¬ brd ρF i b g':=by
  intro i b hi g' hg hg2;rw[zbX (hFlow i (hs.mlt i b hi).1)] at hg2;have h1:=hfar i b hi g' hg2;have h2:=hS'1 g' hg;omega
 have hrn0:(ρ2 (rnm σ1 0)).res=false:=(hm2.mlt _ _ (hkM 0 _ hbx')).2;have hV:den ρ2 (rnV [(n,rnm σ1 0)] (V x r))=den ρF (rnV σ' (V x r))/\okV ρF (nx+1) (rnV σ' (V x r)):=by
  have h1:okV (fun i=>ρ2 (rnm [(n,rnm σ1 0)] i)) (n+1) (V x r):=zfa hv2 (hR x r);have h3:okV (fun i=>ρF (rnm σ' i)) (n+1) (V x r):=zc9 (fun i hi _=>hσ i hi) nl_ h1;refine⟨?_,ziM hlt' h3⟩;rw[← ze8,← ze8];exact (zbQ (fun i hi _=>hσ i hi) h1).symm
 refine⟨_,_,_,ρF,by rw[hV.1],hK r q' S' hpost,⟨⟨fun t v hv'=>?_,fun t v hv'=>zc9 (fun q hq _=>hFlow q hq) (Nat.le_add_right _ _) (hs.fok.frk t v hv')⟩,hs.sz,hs.dfr,fun i b hi=>?_,fun i b hi=>?_,fun i i' b b' hne hi hi'=>?_,Nat.le_trans hs.n0 (Nat.le_add_right _ _),fun i hi=>(hFlow i (Nat.lt_of_lt_of_le hi hs.n0)).trans (hs.low i hi),?_⟩,hV.2,⟨hFlow,Nat.le_add_right _ _⟩⟩
 ·rw[zbQ (fun q hq _=>hFlow q hq) (hs.fok.frk t v hv')];exact hs.fok.frm t v hv'
 ·rcases za5 hi with⟨rfl,rfl⟩ | ⟨hne,h1⟩
  ·exact⟨Nat.lt_succ_self _,by rw[hFnx];exact hrn0⟩
  ·have:=hs.mlt i b h1;exact⟨Nat.lt_of_lt_of_le this.1 (Nat.le_add_right _ _),by rw[hFlow i this.1];exact this.2⟩
 ·rcases za5 hi with⟨rfl,rfl⟩ | ⟨hne,h1⟩
  ·exact hΦ
  ·exact hold i b h1
 ·rcases za5 hi with⟨rfl,rfl⟩ | ⟨hn1,h1⟩
  ·rcases za5 hi' with⟨rfl,rfl⟩ | ⟨hn2,h2⟩
   ·exact absurd rfl hne
   ·exact hΦ.apart fun g' hg hg2=>hcross i' b' h2 g' hg hg2
  ·rcases za5 hi' with⟨rfl,rfl⟩ | ⟨hn2,h2⟩
   ·exact (hold i b h1).apart fun g' hg hg2=>hcross i b h1 g' hg2 (zbm hg)
   ·exact (hs.sep i i' b b' hne h1 h2).ren (hFlow i (hs.mlt i b h1).1) (hFlow i' (hs.mlt i' b' h2).1)
 ·refine⟨hm2.rest.os.trans hs.rest.os,hm2.rest.tape.trans hs.rest.tape,hm2.rest.output.trans hs.rest.output,Nat.le_trans hs.rest.size hsz,fun b hltb hnb=>?_⟩;exact (hm2.rest.block b (Nat.lt_of_lt_of_le hltb hs.rest.size) (by intro h;cases h)).trans (hs.rest.block b hltb hnb)
end
/-! The types of the control plane;bytes of which nobody asks. -/
abbrev zp:Value:=.pointer none
def zlM:TI:={ size:=1,agg:=false,zero:=[zp],isP:=true }
def ttP:TT:=[(346,zbE [zs0,zi] [0,1] [1,1] [1,1]),(317,zbE [zp,zi,zi,zs0] [0,1,2,3] [1,1,1,1] [1,1,1,1]),
 (314,zlM),(284,zlM),(226,zlM),(109,zlM),(46,zlM),
 (249,zbE [zi,zi,zi,zi,zi,zi,zi,zi,zi,zi] [0,1] [1,9] [1,2]),(243,zgm 10 249 80),
 (351,{ size:=9,agg:=true,zero:=[zi,zi,zi,zi,zi,zi,zi,zi,zi],arr:=9 }),(286,{ size:=5,agg:=true,zero:=[zi,zi,zi,zi,zi],arr:=5 }),
 (288,zbE [zp,zi,zi,zi,zi,zi,zi,zi,zi,zi,zi,zi,zi,zi,zi,zi] [0,1,2,3,4,5,6,11] [1,1,1,1,1,1,5,5] [1,1,1,1,1,1,2,2]),
 (96,tiU),(208,zgm 1 226 8),
 (245,{ zbE [zi,zi,zi,zi,zi,zi,zi,zb,zs0] [0,1,2,3,4,5,6,7,8] [1,1,1,1,1,1,1,1,1] [1,1,1,1,1,1,1,1,1] with bx:=true }),(209,zgm 9 245 88),
 (211,zbE [zs0,zs0,zs0] [0,1,2] [1,1,1] [1,1,1]),
 (170,zbE [zi,zi,zi,zi,zi,zi,zi,zi,zi,zi,zi,zi] [0,1,2,3] [1,1,1,9] [1,1,1,2]),
 (111,zbE [zi,zs0,zs0,zs0,zs0,zs0,zs0,zi,zi,zi,zp,zi,zi,zi,zs0,zs0,zi,zi,zi,zi] [0,10,11,12] [10,1,1,8] [2,1,1,2])]++ttA
theorem zaT:zcl Tryz.prog ttP:=by
 refine zgl _ _ ?_;unfold ttP ttA tt;repeat (refine zeS ⟨k_,k_,zgr (by rfl),k_,k_,k_⟩ ?_)
 exact zgk
/-! digest.Sum: some sum. -/
abbrev ctMix:CT:=zat ttA [] [] Tryz.f333 (za1 Tryz.f333)
abbrev mxD:List (Nat×DQ):=[(9000000,{ k:=0,L:=[333] }),(2000002,{ k:=0,L:=[0],sl:=[1,7,8] })]
theorem mixFok:zaY Tryz.prog [(333,ctMix)] (zbj mxD):=za0 (zad zg7 za3 mixed k_ Tryz.func333 rfl k_ d_) za3
abbrev ctMixed:CT:=zat ttA [(333,ctMix)] mxD Tryz.f332 (za1 Tryz.f332)
abbrev suF:FT:=[(333,ctMix),(332,ctMixed)]
abbrev suD:List (Nat×DQ):=[(9000000,{ k:=0,L:=[333,332] })]
/-! Bytes of which nobody asks: digest.Sum,frame.Put,entry.Bytes. -/
theorem suFok:zaY Tryz.prog suF (zbj suD):=za0 (zad zg7 za3 mixed k_ Tryz.func333 rfl k_ d_) (za0 (zad zg7 (D:=mxD) mixFok mixed k_ Tryz.func332 rfl k_ d_) za3)
theorem sum_sx (key:Int) (cap:Nat) (l:List Int) (hl:l.length<=2000000) :
  sx ttA suF suD (za1 Tryz.f319) (zb3 0 [.int .i64 key,slc 0 l.length cap]) [(0,zaz 3 1 u8C 0 l)] 1 (zb8 ttA Tryz.f319.results.toList fun v _ _=>∃ h,v=.int .u64 h):=by
 refine⟨d_,?_⟩;refine⟨Int×Int,fun q=>match q with | (i,h)=>[(9,.int .i64 i),(0,.int .u64 h)],fun _=>[],fun q=>match q with | (i,h)=>0<=i/\i<=l.length,fun q=>match q with | (i,h)=>((l.length:Int)-i).toNat,⟨(0,_),⟨o_,o_⟩,kp_,kp_⟩,?_⟩;rintro⟨i,h⟩ ⟨hi0,hi1⟩;refine⟨⟨rfl,rfl⟩,?_⟩;refine⟨fun hlt=>?_,fun hge=>?_⟩
 ·have hlt2:i<(l.length:Int):=of_decide_eq_true hlt;refine⟨⟨nl_,hi0,hlt2⟩,?_⟩;refine⟨d_,?_⟩;refine⟨(IntKind.i64.wrap (i+1),_),?_,kp_,kp_⟩;dsimp only;rw[zaf (n:=i+1) o_];exact⟨⟨o_,o_⟩,o_⟩
 ·refine⟨d_,?_⟩;exact⟨_,rfl⟩
def ctSum:CT:=fun vs mem nx K=>∃ key v l,vs=[.int .i64 key,v]/\SrcR mem 1 u8C 0 (l:List Int) v/\l.length<=2000000/\∀ h,K (.int .u64 h) mem nx
theorem sumOk:CSound Tryz.prog 319 ctSum:=⟨k_,fun {C ρ fr mem nx a w vs K} hc hs hv=>by
 obtain⟨key,v,l,rfl,hsrc,hl,hK⟩:=hc;obtain⟨A,cap,e0,hr⟩:=hs.srcR (enc:=u8C) (sz:=1) (fun _=>rfl) o_ hsrc;have e1:([.int .i64 key,v].map (den ρ)).toArray=([.int .i64 key,slc 0 l.length cap].map (den fun _=>⟨A,1,l.length,false,za4⟩)).toArray:=by rw[List.map_cons,List.map_cons,e0];rfl
 rw[e1]
 refine (zeU (enc:=u8C) (sz:=1) (fun _=>rfl) o_ zeq 0 zg7 suFok Tryz.func319 rfl (D:=suD) k_ (vs:=[.int .i64 key,slc 0 l.length cap]) rfl A l w hr (fun v hv=>by
  simp only[List.mem_cons,List.not_mem_nil,or_false] at hv
  rcases hv with rfl | rfl
  ·trivial
  ·exact⟨Nat.zero_lt_one,rfl⟩) (sum_sx key cap l hl)).mono ?_
 rintro e w' ⟨v2,mem',nx',ρ',rfl,⟨h,rfl⟩,hv2,hm',hb⟩
 exact⟨.int .u64 h,mem,nx,ρ,rfl,hK h,hs.later hb,trivial,ExtS.refl _ _⟩⟩
def SlW (mem:AM) (n:Nat) (v:Value):Prop:=∃ b:List Int,b.length<=n/\SlB mem b v
theorem zc4 {α:Type} {enc:α->List Value} {d:α} {b l:List α} {n:Nat} {el el2:Nat->List Value} (hn:n=b.length) (h0:∀ k,k<n->el k=enc (b.getD k d)) (h1:∀ k,k<n->el2 k=el k) (h2:∀ k,k<l.length->el2 (n+k)=enc (l.getD k d)):∀ k,k<(b++l).length->el2 k=enc ((b++l).getD k d):=by
 intro k hk;rw[List.length_append] at hk;by_cases q:k<n
 ·rw[h1 k q,h0 k q,gd_,gd_,List.getElem?_append_left o_]
 ·have:=h2 (k-n) o_;rw[show n+(k-n)=k by omega] at this;rw[this,gd_,gd_,List.getElem?_append_right o_,hn]
def fpF:FT:=[(314,ctWIntO),(319,ctSum)]
theorem fpFok:FTok Tryz.prog fpF:=zan zlA (zan sumOk zb7)
def fpD:List (Nat×DQ):=[(3000006,{ k:=3,L:=[0],sl:=[2] })]
theorem fput_sx (cap:Nat) (l:List Int) (hl:l.length<=60000) :
  sx ttA fpF fpD (za1 Tryz.f313) (zb3 0 [zs0,.int .i64 8,slc 0 l.length cap]) [(0,zaz 3 1 u8C 0 l)] 1 (zb8 ttA Tryz.f313.results.toList fun v mem' _=>SlW mem' (l.length+18) v):=by
 refine⟨fun h=>absurd (of_decide_eq_true h) o_,fun _=>?_⟩;refine⟨zs0,[],(l.length:Int),rfl,.inl ⟨rfl,rfl⟩,⟨by simp,by unfold zem;omega⟩,fun cp1 el1 hc1 he1=>?_⟩;have hb1:=zaj (n:=(l.length:Int)) (by unfold zem;omega);rw[List.nil_append] at hc1 he1 ⊢;refine⟨8,_,l,rfl,.inr (.inl ⟨0,cap,rfl,⟨_,_,_,rfl,nl_,fun k hk=>rfl⟩⟩),o_,fun h1=>?_⟩;refine⟨Int×Nat×List Int×Nat×(Nat->List Value)×Int,fun q=>match q with | (i,m,b,cp,el,h)=>[(21,.int .i64 i),(7,slc 2 m cp),(8,.int .u64 h)],fun q=>match q with | (i,m,b,cp,el,h)=>[(2,.row (1000000+5) 1 cp el)],fun q=>match q with | (i,m,b,cp,el,h)=>((0<=i/\i<=8)/\m=b.length/\m<=cp/\(m:Int)<=10+i)/\∀ k,k<m->el k=u8C (b.getD k 0),fun q=>match q with | (i,m,b,cp,el,h)=>(8-i).toNat,⟨(0,_,zaC l.length,cp1,el1,h1),[(2,1)],⟨⟨o_,rfl,hc1,o_⟩,he1⟩,⟨rfl,rfl⟩,kp_,kp_⟩,?_⟩;clear he1 hc1 hb1;rintro⟨i,m,b,cp,el,h⟩ ⟨⟨hi,hm,hcb,hmi⟩,he⟩;refine⟨⟨d_,rfl,rfl⟩,?_⟩;refine⟨fun hlt=>?_,fun hge=>?_⟩
 ·have hlt2:i<8:=of_decide_eq_true hlt;refine⟨⟨nl_,fun k hk=>?_⟩,?_⟩
  ·obtain rfl:k=0:=by omega
   rfl
  refine⟨⟨rfl,hcb⟩,fun hin el2 ⟨g1,_⟩ g2=>?_,fun hgt=>⟨by show (m+1) * 1<=140737488355328;omega,fun cap2 el2 ⟨hc2,_⟩ g1 g2=>?_⟩⟩
  ·refine⟨d_,?_⟩;refine⟨(IntKind.i64.wrap (i+1),m+1,b++[IntKind.u8.wrap h],cp,el2,_),[],?_,⟨rfl,rfl⟩,kp_,kp_⟩;dsimp only;rw[zaf (n:=i+1) o_];refine⟨⟨⟨o_,by rw[List.length_append,← hm];rfl,hin,o_⟩,fun k hk=>zc4 hm he g1 (fun k hk=>?_) k (by rw[List.length_append,← hm];exact hk)⟩,o_⟩;have hk0:k=0:=by have:k<1:=hk;omega
   subst hk0;exact g2 0 o_
  ·refine⟨d_,?_⟩;refine⟨(IntKind.i64.wrap (i+1),m+1,b++[IntKind.u8.wrap h],cap2,el2,_),[(2,4)],?_,⟨rfl,rfl⟩,kp_,kp_⟩;dsimp only;rw[zaf (n:=i+1) o_];refine⟨⟨⟨o_,by rw[List.length_append,← hm];rfl,hc2,o_⟩,fun k hk=>zc4 hm he g1 (fun k hk=>?_) k (by rw[List.length_append,← hm];exact hk)⟩,o_⟩;have hk0:k=0:=by have:k<1:=hk;omega
   subst hk0;exact g2 0 o_
 ·refine⟨⟨nl_,fun k hk=>rfl⟩,?_⟩;have hL:(b++l).length=m+l.length:=by rw[List.length_append,← hm]
  refine⟨⟨rfl,hcb⟩,fun hin el2 ⟨g1,_⟩ g2=>?_,fun hgt=>⟨by show (m+l.length) * 1<=140737488355328;omega,fun cap2 el2 ⟨hc2,_⟩ g1 g2=>?_⟩⟩
  ·exact⟨b++l,o_,2,cp,el2,by rw[hL],rfl,o_,zc4 hm he g1 g2⟩
  ·exact⟨b++l,o_,3,cap2,el2,by rw[hL],rfl,o_,zc4 hm he g1 g2⟩
def ctFPut:CT:=fun vs mem nx K=>∃ v l,vs=[zs0,.int .i64 8,v]/\SrcR mem 1 u8C 0 (l:List Int) v/\l.length<=60000/\∀ (b:List Int) cp el,b.length<=l.length+18->b.length<=cp->(∀ k,k<b.length->el k=u8C (b.getD k 0))->K (slc nx b.length cp) ((nx,.row (1000000+5) 1 cp el)::mem) (nx+1)
theorem fPutOk:CSound Tryz.prog 313 ctFPut:=⟨k_,fun {C ρ fr mem nx a w vs K} hc hs hv=>by
 obtain⟨v,l,rfl,hsrc,hl,hK⟩:=hc;obtain⟨A,cap,e0,hr⟩:=hs.srcR (enc:=u8C) (sz:=1) (fun _=>rfl) o_ hsrc;have e1:([zs0,.int .i64 8,v].map (den ρ)).toArray=([zs0,.int .i64 8,slc 0 l.length cap].map (den fun _=>⟨A,1,l.length,false,za4⟩)).toArray:=by rw[List.map_cons,List.map_cons,List.map_cons,e0];rfl
 rw[e1]
 refine (zeU (enc:=u8C) (sz:=1) (fun _=>rfl) o_ zeq 0 zg7 (fpFok.i _) Tryz.func313 rfl (D:=fpD) k_ (vs:=[zs0,.int .i64 8,slc 0 l.length cap]) rfl A l w hr (fun v hv=>by
  simp only[List.mem_cons,List.not_mem_nil,or_false] at hv
  rcases hv with rfl | rfl | rfl
  ·trivial
  ·trivial
  ·exact⟨Nat.zero_lt_one,rfl⟩) (fput_sx cap l hl)).mono ?_
 rintro e w' ⟨v2,mem',nx',ρ',rfl,⟨b,hbl,hR⟩,hv2,hm',hb⟩
 exact hs.ownBytes hb hm' rfl hR (hK b · · hbl)⟩
/-! A call whose arguments name no memory. -/
theorem zkB {τ:TT} (hτ:zcl Tryz.prog τ) {f:FuncId} {fn:Func} {F:FT} {D:List (Nat×DQ)} (hF:zaY Tryz.prog F (zbj D)) (hf:(Tryz.prog).funcs[f]?=some fn) (hb:fn.body=some (za1 fn)) (hcode:zc6 fn.ntmps D (za1 fn)=true) {vs:List Value} (hn:Nat.ble vs.length fn.ntmps=true) (w:World) (hv:∀ v ∈ vs,zbJ v) {R:Value->AM->Nat->Prop}
  (h:sx τ F D (za1 fn) (zb3 0 vs) [] 0 (zb8 τ fn.results.toList R)) :
  Calls Tryz.prog f vs.toArray w fun e w'=>∃ v mem' nx' ρ',e=.returned (den ρ' v)/\R v mem' nx'/\okV ρ' nx' v/\MemAt { w0:=w,bor:=[],n0:=0,ρ0:=fun _=>⟨none,0,0,false,za4⟩,nt:=fn.ntmps } ρ' mem' nx' w'/\Below w.heap.size w w':=by
 have hm:MemAt { w0:=w,bor:=[],n0:=0,ρ0:=fun _=>⟨none,0,0,false,za4⟩,nt:=fn.ntmps } (fun _=>⟨none,0,0,false,za4⟩) [] 0 w:=MemAt.rows trivial trivial;have hd:vs.map (den fun _=>⟨none,0,0,false,za4⟩)=vs:=by
  conv=>rhs;rw[← List.map_id vs]
  exact List.map_congr_left fun v hv'=>(zag (hv v hv') _ 0).1
 have:=zbR hτ hF mixed hf hb hcode (vs:=vs) hn ⟨rfl,rfl⟩ rfl hm (fun v hv'=>(zag (hv v hv') _ 0).2) h;rw[hd] at this;refine this.mono ?_;rintro e w' ⟨v,mem',nx',ρ',rfl,hR,hv',hm'⟩;exact⟨v,mem',nx',ρ',rfl,hR,hv',hm',⟨hm'.rest.os,hm'.rest.tape,hm'.rest.output,hm'.rest.size,fun b hlt=>hm'.rest.block b hlt (by simp)⟩⟩
structure EntIn (e:Ent):Prop where
 kind:zem e.kind
 tick:zem e.tick
 tenant:zem e.tenant
 cell:zem e.cell
 other:zem e.other
 epoch:zem e.epoch
 since:zem e.since
 till:zem e.till
 n:zem e.n
def ebF:FT:=[(314,ctWIntO)]
theorem ebFok:FTok Tryz.prog ebF:=zan zlA zb7
def ebD:List (Nat×DQ):=[(6000003,{ k:=10,L:=[] })]
theorem zn8 (e:Ent) (he:EntIn e):sx ttP ebF ebD (za1 Tryz.f280) (zb3 0 [entV' e]) [] 0 (zb8 ttP Tryz.f280.results.toList fun v mem' _=>SlW mem' 90 v):=by
 refine⟨fun _=>?_,bt_⟩;refine⟨_,[],e.kind,rfl,.inl ⟨rfl,rfl⟩,⟨by first | omega | simp,he.kind⟩,fun cp0 el0 hc0 he0=>?_⟩;have hb0:([]++zaC e.kind).length<=10:=by have h1:=zaj he.kind;rw[List.length_append];first | omega | (rw[List.length_nil];omega)
 generalize hB0:[]++zaC e.kind=b0 at hc0 he0 hb0 ⊢;clear hB0;refine⟨fun _=>?_,bt_⟩;refine⟨_,b0,e.tick,rfl,.inr (.inl ⟨1,cp0,rfl,⟨_,_,_,rfl,hc0,he0⟩⟩),⟨by first | omega | simp,he.tick⟩,fun cp1 el1 hc1 he1=>?_⟩;have hb1:(b0++zaC e.tick).length<=20:=by have h1:=zaj he.tick;rw[List.length_append];first | omega | (rw[List.length_nil];omega)
 generalize hB1:b0++zaC e.tick=b1 at hc1 he1 hb1 ⊢;clear hB1;refine⟨fun _=>?_,bt_⟩;refine⟨_,b1,e.tenant,rfl,.inr (.inl ⟨2,cp1,rfl,⟨_,_,_,rfl,hc1,he1⟩⟩),⟨by first | omega | simp,he.tenant⟩,fun cp2 el2 hc2 he2=>?_⟩;have hb2:(b1++zaC e.tenant).length<=30:=by have h1:=zaj he.tenant;rw[List.length_append];first | omega | (rw[List.length_nil];omega)
 generalize hB2:b1++zaC e.tenant=b2 at hc2 he2 hb2 ⊢;clear hB2;refine⟨fun _=>?_,bt_⟩;refine⟨_,b2,e.cell,rfl,.inr (.inl ⟨3,cp2,rfl,⟨_,_,_,rfl,hc2,he2⟩⟩),⟨by first | omega | simp,he.cell⟩,fun cp3 el3 hc3 he3=>?_⟩;have hb3:(b2++zaC e.cell).length<=40:=by have h1:=zaj he.cell;rw[List.length_append];first | omega | (rw[List.length_nil];omega)
 generalize hB3:b2++zaC e.cell=b3 at hc3 he3 hb3 ⊢;clear hB3;refine⟨fun _=>?_,bt_⟩;refine⟨_,b3,e.other,rfl,.inr (.inl ⟨4,cp3,rfl,⟨_,_,_,rfl,hc3,he3⟩⟩),⟨by first | omega | simp,he.other⟩,fun cp4 el4 hc4 he4=>?_⟩;have hb4:(b3++zaC e.other).length<=50:=by have h1:=zaj he.other;rw[List.length_append];first | omega | (rw[List.length_nil];omega)
 generalize hB4:b3++zaC e.other=b4 at hc4 he4 hb4 ⊢;clear hB4;refine⟨fun _=>?_,bt_⟩;refine⟨_,b4,e.epoch,rfl,.inr (.inl ⟨5,cp4,rfl,⟨_,_,_,rfl,hc4,he4⟩⟩),⟨by first | omega | simp,he.epoch⟩,fun cp5 el5 hc5 he5=>?_⟩;have hb5:(b4++zaC e.epoch).length<=60:=by have h1:=zaj he.epoch;rw[List.length_append];first | omega | (rw[List.length_nil];omega)
 generalize hB5:b4++zaC e.epoch=b5 at hc5 he5 hb5 ⊢;clear hB5;refine⟨fun _=>?_,bt_⟩;refine⟨_,b5,e.since,rfl,.inr (.inl ⟨6,cp5,rfl,⟨_,_,_,rfl,hc5,he5⟩⟩),⟨by first | omega | simp,he.since⟩,fun cp6 el6 hc6 he6=>?_⟩;have hb6:(b5++zaC e.since).length<=70:=by have h1:=zaj he.since;rw[List.length_append];first | omega | (rw[List.length_nil];omega)
 generalize hB6:b5++zaC e.since=b6 at hc6 he6 hb6 ⊢;clear hB6;refine⟨fun _=>?_,bt_⟩;refine⟨_,b6,e.till,rfl,.inr (.inl ⟨7,cp6,rfl,⟨_,_,_,rfl,hc6,he6⟩⟩),⟨by first | omega | simp,he.till⟩,fun cp7 el7 hc7 he7=>?_⟩;have hb7:(b6++zaC e.till).length<=80:=by have h1:=zaj he.till;rw[List.length_append];first | omega | (rw[List.length_nil];omega)
 generalize hB7:b6++zaC e.till=b7 at hc7 he7 hb7 ⊢;clear hB7;refine⟨fun _=>?_,bt_⟩;refine⟨_,b7,e.n,rfl,.inr (.inl ⟨8,cp7,rfl,⟨_,_,_,rfl,hc7,he7⟩⟩),⟨by first | omega | simp,he.n⟩,fun cp8 el8 hc8 he8=>?_⟩;have hb8:(b7++zaC e.n).length<=90:=by have h1:=zaj he.n;rw[List.length_append];first | omega | (rw[List.length_nil];omega)
 generalize hB8:b7++zaC e.n=b8 at hc8 he8 hb8 ⊢;clear hB8;refine⟨bf_,fun _=>?_⟩;exact⟨b8,o_,9,cp8,el8,rfl,rfl,hc8,he8⟩
def ctEBytes:CT:=fun vs mem nx K=>∃ e,vs=[entV' e]/\EntIn e/\∀ (b:List Int) cp el,b.length<=90->b.length<=cp->(∀ k,k<b.length->el k=u8C (b.getD k 0))->K (slc nx b.length cp) ((nx,.row (1000000+5) 1 cp el)::mem) (nx+1)
theorem eBytesOk:CSound Tryz.prog 280 ctEBytes:=⟨k_,fun {C ρ fr mem nx a w vs K} hc hs hv=>by
 obtain⟨e,rfl,he,hK⟩:=hc;rw[List.map_cons,(zag (zap e) _ 0).1]
 refine (zkB zaT (ebFok.i _) Tryz.func280 rfl (D:=ebD) k_ (vs:=[entV' e]) rfl w (fun v hv=>by
  simp only[List.mem_cons,List.not_mem_nil,or_false] at hv
  subst hv
  exact zap e) (zn8 e he)).mono ?_
 rintro e w' ⟨v2,mem',nx',ρ',rfl,⟨b,hbl,hR⟩,hv2,hm',hb⟩
 exact hs.ownBytes hb hm' rfl hR (hK b · · hbl)⟩
/-! Disks: of their bytes nothing is told but how many there are at most. -/
inductive DK where
 | nil (d:Int)
 | row (len cap:Nat) (el:Nat->List Value) (d:Int)
def dkI (q:Nat):DK->Prop
 | .nil _=>True
 | .row len cap el d=>len<=q/\len<=cap
def dkM (_:Nat):DK->AM
 | .nil d=>[(0,.box 346 [zs0,.int .i64 d])]
 | .row len cap el d=>[(0,.box 346 [slc 1 len cap,.int .i64 d]),(1,.row (1000000+5) 1 cap el)]
theorem dkB (q:Nat) (y:DK) (_:dkI q y):zln 2 (dkM q y)=true:=by cases y<;>rfl
abbrev dkO (S:List Nat) (q:Nat):ABlk:=.ext (.obj S (zkF (dkI q) (dkM q) 2))
def ctDNew:CT:=zgC (X:=Unit) (R:=Unit) dkI dkM 2 0 (fun _=>[]) (fun _=>[]) (fun _=>True) (fun _ _ q=>q=0) (fun _ _=>.pointer (some ⟨0,0,none⟩))
theorem dNew_sx:sx ttP [] [] (za1 Tryz.f273) (zb3 0 []) [] 0 (zb8 ttP Tryz.f273.results.toList (zkL (X:=Unit) (R:=Unit) dkI dkM 0 (fun _ _ q=>q=0) (fun _ _=>.pointer (some ⟨0,0,none⟩)) ())):=
 ⟨(),0,.nil 0,[],rfl,trivial,rfl,rfl,⟨rfl,trivial⟩⟩
theorem dNewOk:CSound Tryz.prog 273 ctDNew:=zfS zaT (D:=[]) za3 mixed k_ Tryz.func273 rfl k_ (fun _=>rfl) dkB (fun _=>rfl) (fun _ _=>rfl) (fun _ _=>dNew_sx)
structure BA where
 l:List Int
 cap:Nat
 n:Nat
 el:Nat->List Value
structure BA.ok (x:BA):Prop where
 n:x.l.length<=x.n
 el:∀ k,k<x.l.length->x.el k=u8C (x.l.getD k 0)
abbrev dApre (x:BA) (q:Nat):Prop:=x.ok/\q+x.l.length<=1000000000
abbrev dApost (x:BA) (q:Nat) (_:Unit) (q':Nat):Prop:=q'=q+x.l.length
def ctDApp:CT:=zbu (X:=BA) (R:=Unit) dkI dkM 2 3 0 (fun x=>[slc 2 x.l.length x.cap]) (fun x=>[(2,.row 0 1 x.n x.el)]) dApre dApost (fun _ _=>.tuple #[]) (fun _ _=>[])
theorem dApp_sx (x:BA) (q:Nat) (y:DK) (hx:dApre x q) (hy:dkI q y):sx ttP [] [] (za1 Tryz.f312) (zb3 0 (.pointer (some ⟨0,0,none⟩)::[slc 2 x.l.length x.cap])) (dkM q y++[(2,.row 0 1 x.n x.el)]) 3 (zb8 ttP Tryz.f312.results.toList (zch dkI dkM 2 3 dApost (fun _ _=>.tuple #[]) (fun _ _=>[]) x q)):=by
 obtain⟨⟨hn,he⟩,hq⟩:=hx;have hat:∀ k,k<x.l.length->(x.el k).all zcW=true:=fun k hk=>by rw[he k hk];rfl
 cases y with
 | nil d=>
  refine⟨⟨hn,hat⟩,?_⟩;refine⟨fun h0=>?_,fun h0=>⟨by show x.l.length * 1<=_;omega,fun cap2 el2 ⟨hc2,_⟩ g2=>?_⟩⟩
  ·exact⟨(),q+x.l.length,.nil d,[],rfl,trivial,⟨rfl,rfl,rfl⟩,rfl,⟨rfl,trivial⟩⟩
  ·exact⟨(),q+x.l.length,.row x.l.length cap2 el2 d,[(1,3)],rfl,⟨o_,hc2⟩,⟨rfl,rfl,rfl⟩,rfl,⟨rfl,rfl,trivial⟩⟩
 | row len cap el d=>
  obtain⟨h1,h2⟩:=hy;refine⟨⟨hn,hat⟩,?_⟩;refine⟨⟨rfl,h2⟩,fun hin el2 ⟨g1,_⟩ g2=>?_,fun hgt=>⟨by show (len+x.l.length) * 1<=_;omega,fun cap2 el2 ⟨hc2,_⟩ g1 g2=>?_⟩⟩
  ·exact⟨(),q+x.l.length,.row (len+x.l.length) cap el2 d,[],rfl,⟨o_,hin⟩,⟨rfl,rfl,rfl⟩,rfl,⟨rfl,rfl,trivial⟩⟩
  ·exact⟨(),q+x.l.length,.row (len+x.l.length) cap2 el2 d,[(1,3)],rfl,⟨o_,hc2⟩,⟨rfl,rfl,rfl⟩,rfl,⟨rfl,rfl,trivial⟩⟩
theorem dAppOk:CSound Tryz.prog 312 ctDApp:=zbb zaT (D:=[]) za3 mixed k_ Tryz.func312 rfl k_ ⟨d_,d_⟩ (fun _=>rfl) dkB (fun _=>rfl) (fun _ _=>rfl) dApp_sx
def ctDSync:CT:=zbu (X:=Unit) (R:=Unit) dkI dkM 2 2 0 (fun _=>[]) (fun _=>[]) (fun _ _=>True) (fun _ q _ q'=>q'=q) (fun _ _=>.tuple #[]) (fun _ _=>[])
theorem dSync_sx (q:Nat) (y:DK) (hy:dkI q y):sx ttP [] [] (za1 Tryz.f281) (zb3 0 (.pointer (some ⟨0,0,none⟩)::[])) (dkM q y++[]) 2 (zb8 ttP Tryz.f281.results.toList (zch (X:=Unit) (R:=Unit) dkI dkM 2 2 (fun _ q _ q'=>q'=q) (fun _ _=>.tuple #[]) (fun _ _=>[]) () q)):=by
 cases y with
 | nil d=>exact⟨(),q,.nil (0:Nat),[],rfl,trivial,⟨rfl,rfl,rfl⟩,rfl,⟨rfl,trivial⟩⟩
 | row len cap el d=>exact⟨(),q,.row len cap el len,[],rfl,hy,⟨rfl,rfl,rfl⟩,rfl,⟨rfl,rfl,trivial⟩⟩
theorem dSyncOk:CSound Tryz.prog 281 ctDSync:=zbb zaT (D:=[]) za3 mixed k_ Tryz.func281 rfl k_ ⟨d_,d_⟩ (fun _=>rfl) dkB (fun _=>rfl) (fun _ _=>rfl) (fun _ q y _ hy=>dSync_sx q y hy)
/-! Journals: term,vote,log;of the disk nothing is told. -/
structure JSt where
 term:Int
 vote:Int
 log:List (Int×Ent)
 dl:Nat
abbrev logC (p:Int×Ent):List Value:=.int .i64 p.1::zbe p.2
instance:Inhabited (Int×Ent):=⟨(0,default)⟩
inductive JK where
 | nil (S:List Nat)
 | row (S:List Nat) (cap:Nat) (el:Nat->List Value)
def jkI (q:JSt):JK->Prop
 | .nil _=>q.log=[]
 | .row _ cap el=>0<q.log.length/\q.log.length<=cap/\∀ k,k<q.log.length->el k=logC (q.log.getD k default)
def jkM (q:JSt):JK->AM
 | .nil S=>[(0,.box 317 [.pointer (some ⟨1,0,none⟩),.int .i64 q.term,.int .i64 q.vote,zs0]),(1,dkO S q.dl)]
 | .row S cap el=>[(0,.box 317 [.pointer (some ⟨1,0,none⟩),.int .i64 q.term,.int .i64 q.vote,slc 2 q.log.length cap]),(1,dkO S q.dl),(2,.row (1000000+249) 10 cap el)]
theorem jkB (q:JSt) (y:JK) (_:jkI q y):zln 3 (jkM q y)=true:=by cases y<;>rfl
abbrev jkO (S:List Nat) (q:JSt):ABlk:=.ext (.obj S (zkF (jkI q) (jkM q) 3))
/-! New -/
def jNF:FT:=[(273,ctDNew)]
theorem jNFok:FTok Tryz.prog jNF:=zan dNewOk zb7
abbrev jNpost (_:Unit) (_:Unit) (q:JSt):Prop:=q=⟨0,-1,[],0⟩
def ctJNew:CT:=zgC jkI jkM 3 0 (fun _=>[]) (fun _=>[]) (fun _=>True) jNpost (fun _ _=>.pointer (some ⟨0,0,none⟩))
theorem jNew_sx:sx ttP jNF [] (za1 Tryz.f220) (zb3 0 []) [] 0 (zb8 ttP Tryz.f220.results.toList (zkL jkI jkM 0 jNpost (fun _ _=>.pointer (some ⟨0,0,none⟩)) ())):=by
 refine⟨(),[],trivial,rfl,trivial,rfl,fun _ q' S' hq=>?_⟩;subst hq;exact⟨(),_,.nil S',[(0,1),(1,0)],rfl,rfl,rfl,rfl,⟨rfl,rfl,trivial⟩⟩
theorem jNewOk:CSound Tryz.prog 220 ctJNew:=zfS zaT (D:=[]) (jNFok.i _) mixed k_ Tryz.func220 rfl k_ (fun _=>rfl) jkB (fun _=>rfl) (fun _ _=>rfl) (fun _ _=>jNew_sx)
/-! What only reads. -/
def ctJTerm:CT:=zbu (X:=Unit) (R:=Int) jkI jkM 3 3 0 (fun _=>[]) (fun _=>[]) (fun _ _=>True) (fun _ q r q'=>r=q.term/\q'=q) (fun _ r=>.int .i64 r) (fun _ _=>[])
theorem jTerm_sx (q:JSt) (y:JK) (hy:jkI q y):sx ttP [] [] (za1 Tryz.f221) (zb3 0 (.pointer (some ⟨0,0,none⟩)::[])) (jkM q y++[]) 3 (zb8 ttP Tryz.f221.results.toList (zch (X:=Unit) (R:=Int) jkI jkM 3 3 (fun _ q r q'=>r=q.term/\q'=q) (fun _ r=>.int .i64 r) (fun _ _=>[]) () q)):=by
 cases y with
 | nil S=>exact⟨q.term,q,.nil S,[],⟨rfl,rfl⟩,hy,⟨rfl,rfl,rfl⟩,rfl,⟨rfl,rfl,trivial⟩⟩
 | row S cap el=>exact⟨q.term,q,.row S cap el,[],⟨rfl,rfl⟩,hy,⟨rfl,rfl,rfl⟩,rfl,⟨rfl,rfl,rfl,trivial⟩⟩
theorem zmH:CSound Tryz.prog 221 ctJTerm:=zbb zaT (D:=[]) za3 mixed k_ Tryz.func221 rfl k_ ⟨d_,d_⟩ (fun _=>rfl) jkB (fun _=>rfl) (fun _ _=>rfl) (fun _ q y _ hy=>jTerm_sx q y hy)
def ctJLen:CT:=zbu (X:=Unit) (R:=Int) jkI jkM 3 3 0 (fun _=>[]) (fun _=>[]) (fun _ _=>True) (fun _ q r q'=>r=(q.log.length:Int)/\q'=q) (fun _ r=>.int .i64 r) (fun _ _=>[])
theorem jLen_sx (q:JSt) (y:JK) (hy:jkI q y):sx ttP [] [] (za1 Tryz.f275) (zb3 0 (.pointer (some ⟨0,0,none⟩)::[])) (jkM q y++[]) 3 (zb8 ttP Tryz.f275.results.toList (zch (X:=Unit) (R:=Int) jkI jkM 3 3 (fun _ q r q'=>r=(q.log.length:Int)/\q'=q) (fun _ r=>.int .i64 r) (fun _ _=>[]) () q)):=by
 cases y with
 | nil S=>exact⟨(q.log.length:Int),q,.nil S,[],⟨rfl,rfl⟩,hy,⟨rfl,rfl,rfl⟩,(by rw[show q.log=[] from hy];rfl),⟨rfl,rfl,trivial⟩⟩
 | row S cap el=>exact⟨(q.log.length:Int),q,.row S cap el,[],⟨rfl,rfl⟩,hy,⟨rfl,rfl,rfl⟩,rfl,⟨rfl,rfl,rfl,trivial⟩⟩
theorem jLenOk:CSound Tryz.prog 275 ctJLen:=zbb zaT (D:=[]) za3 mixed k_ Tryz.func275 rfl k_ ⟨d_,d_⟩ (fun _=>rfl) jkB (fun _=>rfl) (fun _ _=>rfl) (fun _ q y _ hy=>jLen_sx q y hy)
/-! journal.At,TermAt -/
theorem zfx {τ:TT} {fr:AF} {mem:AM} {t:TypeId} {x:Operand} {r k ty sz n o:Nat} {el:Nat->List Value} {ti:TI} {l:List Value} {v:Value} (he:el k=l) (hx:ev fr x=some (.pointer (some ⟨r,o,some k⟩))) (ht:lk τ t=some ti) (hm:lk mem r=some (.row ty sz n el)) (hv:(match zdY o ti.size l with | some l=>ofC ti.agg l | none=>none)=some v):vx τ fr mem (.load t x)=some v:=by
 show (match ev fr x with | some p=>ldx τ mem t p | none=>none)=some v;rw[hx];show ldx τ mem t (.pointer (some ⟨r,o,some k⟩))=some v;unfold ldx;simp only[ht,hm,he];exact hv
abbrev logV (p:Int×Ent):Value:=.agg #[.int .i64 p.1,.int .i64 p.2.kind,.int .i64 p.2.tick,.int .i64 p.2.tenant,.int .i64 p.2.cell,.int .i64 p.2.other,.int .i64 p.2.epoch,.int .i64 p.2.since,.int .i64 p.2.till,.int .i64 p.2.n]
def zdq (l:List (Int×Ent)) (i:Int):Int:=if 0<=i/\i<l.length then (l.getD i.toNat default).1 else 0
abbrev jApost (x:Int) (q:JSt) (r:Int×Ent) (q':JSt):Prop:=r=q.log.getD x.toNat default/\q'=q
def ctJAt:CT:=zbu jkI jkM 3 3 0 (fun x=>[.int .i64 x]) (fun _=>[]) (fun x q=>0<=x/\x<q.log.length) jApost (fun _ r=>.tuple #[logV r,.bool true]) (fun _ _=>[])
theorem jAt_sx (x:Int) (q:JSt) (y:JK) (hx:0<=x/\x<q.log.length) (hy:jkI q y):sx ttP [] [] (za1 Tryz.f311) (zb3 0 (.pointer (some ⟨0,0,none⟩)::[.int .i64 x])) (jkM q y++[]) 3 (zb8 ttP Tryz.f311.results.toList (zch jkI jkM 3 3 jApost (fun _ r=>.tuple #[logV r,.bool true]) (fun _ _=>[]) x q)):=by
 cases y with
 | nil S=>
  have h0:q.log=[]:=hy;rw[h0] at hx;simp only[List.length_nil] at hx;omega
 | row S cap el=>
  obtain⟨h0,h1,h2⟩:=hy;have h3:=h2 x.toNat o_;have h4:x.toNat<q.log.length:=by omega
  repeat (first | refine⟨fun _=>?_,bt_⟩ | refine⟨bf_,fun _=>?_⟩ | refine⟨⟨na_,nb_,nb_⟩,?_⟩ | refine⟨fun q=>absurd q nc_,fun _=>?_⟩ | refine⟨fun _=>?_,fun q=>absurd q s_⟩ | refine⟨fun q=>absurd q s_,fun _=>?_⟩)
  conv=>whnf
  rw[zfx (v:=(logV (q.log.getD x.toNat default))) h3 ?hx ?ht ?hm ?hv];case hx=>rfl
  case ht=>rfl
  case hm=>rfl
  case hv=>rfl
  exact⟨_,q,.row S cap el,[],⟨rfl,rfl⟩,⟨h0,h1,h2⟩,⟨rfl,rfl,rfl⟩,rfl,⟨rfl,rfl,rfl,trivial⟩⟩
theorem jAtOk:CSound Tryz.prog 311 ctJAt:=zbb zaT (D:=[]) za3 mixed k_ Tryz.func311 rfl k_ ⟨d_,d_⟩ (fun _=>rfl) jkB (fun _=>rfl) (fun _ _=>rfl) jAt_sx
abbrev ctAtI:CT:=zat ttP [] [] Tryz.f311 (za1 Tryz.f311)
abbrev jTF:FT:=[(311,ctAtI)]
abbrev jTD:List (Nat×DQ):=[(9000000,{ k:=0,L:=[311] })]
theorem jTFok:zaY Tryz.prog jTF (zbj jTD):=za0 (zad zaT za3 mixed k_ Tryz.func311 rfl k_ d_) za3
abbrev jTpost (x:Int) (q:JSt) (r:Int) (q':JSt):Prop:=r=zdq q.log x/\q'=q
def ctJTermAt:CT:=zbu jkI jkM 3 3 0 (fun x=>[.int .i64 x]) (fun _=>[]) (fun _ _=>True) jTpost (fun _ r=>.int .i64 r) (fun _ _=>[])
theorem zkP (x:Int) (q:JSt) (y:JK) (hy:jkI q y):sx ttP jTF jTD (za1 Tryz.f276) (zb3 0 (.pointer (some ⟨0,0,none⟩)::[.int .i64 x])) (jkM q y++[]) 3 (zb8 ttP Tryz.f276.results.toList (zch jkI jkM 3 3 jTpost (fun _ r=>.int .i64 r) (fun _ _=>[]) x q)):=by
 by_cases hx:0<=x/\x<q.log.length
 ·have ht:zdq q.log x=(q.log.getD x.toNat default).1:=if_pos hx;cases y with
  | nil S=>
   have h0:q.log=[]:=hy;rw[h0] at hx;simp only[List.length_nil] at hx;omega
  | row S cap el=>
   obtain⟨h0,h1,h2⟩:=hy;have h3:=h2 x.toNat o_;have h4:x.toNat<q.log.length:=by omega
   repeat (first | refine⟨fun _=>?_,bt_⟩ | refine⟨bf_,fun _=>?_⟩ | refine⟨⟨na_,nb_,nb_⟩,?_⟩ | refine⟨fun q=>absurd q nc_,fun _=>?_⟩ | refine⟨fun _=>?_,fun q=>absurd q s_⟩ | refine⟨fun q=>absurd q s_,fun _=>?_⟩)
   conv=>whnf
   rw[zfx (v:=(logV (q.log.getD x.toNat default))) h3 ?hx ?ht ?hm ?hv];case hx=>rfl
   case ht=>rfl
   case hm=>rfl
   case hv=>rfl
   exact⟨_,q,.row S cap el,[],⟨ht.symm,rfl⟩,⟨h0,h1,h2⟩,⟨rfl,rfl,rfl⟩,rfl,⟨rfl,rfl,rfl,trivial⟩⟩
 ·have ht:zdq q.log x=0:=if_neg hx;cases y with
  | nil S=>
   have h0:q.log=[]:=hy;by_cases hx0:x<0
   ·repeat (first | refine⟨fun _=>?_,bt_⟩ | refine⟨bf_,fun _=>?_⟩ | refine⟨⟨na_,nb_,nb_⟩,?_⟩ | refine⟨fun q=>absurd q nc_,fun _=>?_⟩ | refine⟨fun _=>?_,fun q=>absurd q s_⟩ | refine⟨fun q=>absurd q s_,fun _=>?_⟩)
    exact⟨_,q,.nil S,[],⟨ht.symm,rfl⟩,hy,⟨rfl,rfl,rfl⟩,rfl,⟨rfl,rfl,trivial⟩⟩
   ·repeat (first | refine⟨fun _=>?_,bt_⟩ | refine⟨bf_,fun _=>?_⟩ | refine⟨⟨na_,nb_,nb_⟩,?_⟩ | refine⟨fun q=>absurd q nc_,fun _=>?_⟩ | refine⟨fun _=>?_,fun q=>absurd q s_⟩ | refine⟨fun q=>absurd q s_,fun _=>?_⟩)
    exact⟨_,q,.nil S,[],⟨ht.symm,rfl⟩,hy,⟨rfl,rfl,rfl⟩,rfl,⟨rfl,rfl,trivial⟩⟩
  | row S cap el=>
   by_cases hx0:x<0
   ·repeat (first | refine⟨fun _=>?_,bt_⟩ | refine⟨bf_,fun _=>?_⟩ | refine⟨⟨na_,nb_,nb_⟩,?_⟩ | refine⟨fun q=>absurd q nc_,fun _=>?_⟩ | refine⟨fun _=>?_,fun q=>absurd q s_⟩ | refine⟨fun q=>absurd q s_,fun _=>?_⟩)
    exact⟨_,q,.row S cap el,[],⟨ht.symm,rfl⟩,hy,⟨rfl,rfl,rfl⟩,rfl,⟨rfl,rfl,rfl,trivial⟩⟩
   ·have hx1:(q.log.length:Int)<=x:=by omega
    repeat (first | refine⟨fun _=>?_,bt_⟩ | refine⟨bf_,fun _=>?_⟩ | refine⟨⟨na_,nb_,nb_⟩,?_⟩ | refine⟨fun q=>absurd q nc_,fun _=>?_⟩ | refine⟨fun _=>?_,fun q=>absurd q s_⟩ | refine⟨fun q=>absurd q s_,fun _=>?_⟩)
    exact⟨_,q,.row S cap el,[],⟨ht.symm,rfl⟩,hy,⟨rfl,rfl,rfl⟩,rfl,⟨rfl,rfl,rfl,trivial⟩⟩
theorem zmI:CSound Tryz.prog 276 ctJTermAt:=zbb zaT (D:=jTD) jTFok mixed k_ Tryz.func276 rfl k_ ⟨d_,d_⟩ (fun _=>rfl) jkB (fun _=>rfl) (fun _ _=>rfl) (fun x q y _ hy=>zkP x q y hy)
end Go.Proofs.YtjnndjnpcelafaaGreat
