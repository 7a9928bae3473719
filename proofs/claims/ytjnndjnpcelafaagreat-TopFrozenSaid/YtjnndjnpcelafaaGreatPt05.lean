import Derived.Test.YtjnndjnpcelafaaGreatPt04
import Derived.Scope
import Derived.Test.YtjnndjnpcelafaaGreatRows
import Derived.Test.YtjnndjnpcelafaaGreatProg
namespace Go.Proofs.YtjnndjnpcelafaaGreat
set_option maxHeartbeats 16000000
set_option maxRecDepth 100000
open Go.RowKit
set_option linter.unusedSimpArgs false
set_option linter.unusedVariables false
structure DQ extends DP where
 g:Option GS:=none
 sl:List Nat:=[]
inductive Ex where
 | normal
 | exit (n:Nat)
 | ret
def Ex.to:Ex->Exit
 | .normal=>.normal
 | .exit n=>.exit n
 | .ret=>.ret
def subF (fr:AF) (f:AF):Prop:=List.rec (motive:=fun _=>Prop) True (fun p _ ih=>lk fr p.1=some p.2/\ih) f
def regx (τ:TT) (F:FT) (D:List (Nat×DQ)) (id:Nat) (ops:Array Oper) (draw:Bool) (fr:AF) (mem:AM) (nx:Nat) (K:Ex->AF->AM->Nat->Prop):Prop:=
 match draw with
 | false=>opsx τ F ops ops.toList [] fr mem nx (K .normal)
 | true=>(match lk D id with
  | some d=>(match d.g with
   | none=>dregx τ F ops.toList d.toDP fr mem nx (K .normal)
   | some σ=>gregx τ F ops.toList d.k d.L σ fr mem nx (K .normal))
  | none=>False)
def seqK (K:Ex->AF->AM->Nat->Prop) (next:AF->AM->Nat->Prop) (e:Ex) (fr:AF) (mem:AM) (nx:Nat):Prop:=match e with | .normal=>next fr mem nx | .exit i=>K (.exit i) fr mem nx | .ret=>K .ret fr mem nx
def znD (id:Nat) (K:Ex->AF->AM->Nat->Prop) (e:Ex) (fr:AF) (mem:AM) (nx:Nat):Prop:=match e with | .exit i=>(match Nat.beq i id with | true=>K .normal fr mem nx | false=>K (.exit i) fr mem nx) | .normal=>K .normal fr mem nx | .ret=>K .ret fr mem nx
def setC (c:Operand) (b:Bool) (fr:AF):AF:=match c with | .tmp d=>(d,.bool b)::fr | _=>fr
def condx (c:Operand) (fr:AF) (A B:AF->Prop):Prop:=match ev fr c with | some (.bool t)=>(t=true->A (setC c true fr))/\(t=false->B (setC c false fr)) | _=>False
abbrev SX:=AF->AM->Nat->(Ex->AF->AM->Nat->Prop)->Prop
def selK (fr:AF) (zdt:List Nat) (k:AF->Prop):Prop:=List.rec (motive:=fun _=>AF->Prop) (fun acc=>k acc) (fun t _ ih acc=>match lk fr t with | some v=>ih ((t,v)::acc) | none=>ih acc) zdt []
def zm3 (mem:AM) (names:List Nat) (k:AM->Prop):Prop:=List.rec (motive:=fun _=>AM->Prop) (fun acc=>k acc) (fun t _ ih acc=>match lk mem t with | some v=>ih ((t,v)::acc) | none=>ih acc) names []
theorem zev {fr:AF} {zdt:List Nat} {k:AF->Prop} (h:selK fr zdt k):∃ f,k f:=by
 have:∀ (l:List Nat) (acc:AF),(List.rec (motive:=fun _=>AF->Prop) (fun acc=>k acc) (fun t _ ih acc=>match lk fr t with | some v=>ih ((t,v)::acc) | none=>ih acc) l acc:Prop)->∃ f,k f:=by
  intro l;induction l with
  | nil=>intro acc h;exact⟨acc,h⟩
  | cons t l ih=>
   intro acc h;simp only at h;cases hl:lk fr t with
   | none=>rw[hl] at h;exact ih _ h
   | some v=>rw[hl] at h;exact ih _ h
 exact this zdt [] h
theorem zdM {mem:AM} {names:List Nat} {k:AM->Prop} (h:zm3 mem names k):∃ f,k f:=by
 have:∀ (l:List Nat) (acc:AM),(List.rec (motive:=fun _=>AM->Prop) (fun acc=>k acc) (fun t _ ih acc=>match lk mem t with | some v=>ih ((t,v)::acc) | none=>ih acc) l acc:Prop)->∃ f,k f:=by
  intro l;induction l with
  | nil=>intro acc h;exact⟨acc,h⟩
  | cons t l ih=>
   intro acc h;simp only at h;cases hl:lk mem t with
   | none=>rw[hl] at h;exact ih _ h
   | some v=>rw[hl] at h;exact ih _ h
 exact this names [] h
def loopx (d:DQ) (body:SX) (fr:AF) (mem:AM) (nx:Nat) (K:Ex->AF->AM->Nat->Prop):Prop:=
 selK fr d.sl fun fr0=>zm3 mem d.L fun mem0=>∃ (α:Type) (newF:α->AF) (newM:α->AM) (inv:α->Prop) (μ:α->Nat),(∃ x,inv x/\subF fr (newF x++fr0)/\keeps mem (newM x++mem0))/\
   ∀ x,inv x->(nmF nx (newF x++fr0)=true/\nmM nx (newM x++mem0)=true)/\body (newF x++fr0) (newM x++mem0) nx (seqK K fun fr' mem' _=>∃ y,(inv y/\μ y<μ x)/\subF fr' (newF y++fr0)/\keeps mem' (newM y++mem0))
abbrev zid (k nx:Nat):Nat:=match Nat.ble 1000000 k with | true=>nx+(k-1000000) | false=>k
def cutx (d:DQ) (ia ib:SX) (fr:AF) (mem:AM) (nx:Nat) (K:Ex->AF->AM->Nat->Prop):Prop:=
 selK fr d.sl fun fr0=>zm3 mem d.L fun mem0=>∃ (α:Type) (newF:α->AF) (newM:α->AM) (inv:α->Prop),ia fr mem nx (seqK K fun fr' mem' _=>∃ y,inv y/\subF fr' (newF y++fr0)/\keeps mem' (newM y++mem0))/\
   ∀ y,inv y->(nx<=zid d.k nx/\nmF (zid d.k nx) (newF y++fr0)=true/\nmM (zid d.k nx) (newM y++mem0)=true)/\ib (newF y++fr0) (newM y++mem0) (zid d.k nx) K
def looprx (d:DQ) (body:SX) (fr:AF) (mem:AM) (nx:Nat) (K:Ex->AF->AM->Nat->Prop):Prop:=
 selK fr d.sl fun fr0=>zm3 mem d.L fun mem0=>∃ (α:Type) (newF:α->AF) (newM:α->AM) (inv:α->Prop) (μ:α->Nat),(∃ x σ,inv x/\(zhv nx σ=true/\zfj σ (newM x++mem0)=true)/\zlO fr σ (newF x++fr0)/\zeG mem σ (newM x++mem0))/\
   ∀ x,inv x->(nx<=zid d.k nx/\nmF (zid d.k nx) (newF x++fr0)=true/\nmM (zid d.k nx) (newM x++mem0)=true)/\body (newF x++fr0) (newM x++mem0) (zid d.k nx) (seqK K fun fr' mem' _=>∃ y σ,(inv y/\μ y<μ x)/\(zhv nx σ=true/\zfj σ (newM y++mem0)=true)/\zlO fr' σ (newF y++fr0)/\zeG mem' σ (newM y++mem0))
def cutrx (d:DQ) (ia ib:SX) (fr:AF) (mem:AM) (nx:Nat) (K:Ex->AF->AM->Nat->Prop):Prop:=
 selK fr d.sl fun fr0=>zm3 mem d.L fun mem0=>∃ (α:Type) (newF:α->AF) (newM:α->AM) (inv:α->Prop),ia fr mem nx (seqK K fun fr' mem' _=>∃ y σ,inv y/\(zhv nx σ=true/\zfj σ (newM y++mem0)=true)/\zlO fr' σ (newF y++fr0)/\zeG mem' σ (newM y++mem0))/\
   ∀ y,inv y->(nx<=zid d.k nx/\nmF (zid d.k nx) (newF y++fr0)=true/\nmM (zid d.k nx) (newM y++mem0)=true)/\ib (newF y++fr0) (newM y++mem0) (zid d.k nx) K
def zdm:Code->Option Nat
 | .region id _ _=>some id
 | .seq a b=>(match zdm a with | some r=>some r | none=>zdm b)
 | .block _ a=>zdm a
 | .loop a=>zdm a
 | .scope a=>zdm a
 | _=>none
def condR:Code->Option Nat
 | .cond _ a b=>(match zdm a with | some r=>some r | none=>zdm b)
 | .seq a _=>condR a
 | _=>none
def isCut (D:List (Nat×DQ)) (c:Code):Option DQ:=match (match zdm c with | some r=>lk D (1000000+r) | none=>none) with
 | some d=>some d
 | none=>(match condR c with | some r=>lk D (5000000+r) | none=>none)
def zmM (D:List (Nat×DQ)) (c:Code):Option DQ:=match zdm c with | some r=>lk D (2000000+r) | none=>none
def ziW (D:List (Nat×DQ)) (c:Code):Option DQ:=match zdm c with | some r=>lk D (3000000+r) | none=>none
def zmN (D:List (Nat×DQ)) (c:Code):Option DQ:=match zdm c with | some r=>lk D (4000000+r) | none=>none
def isUnr (D:List (Nat×DQ)) (c:Code):Option DQ:=match zdm c with | some r=>lk D (6000000+r) | none=>none
def unrx (n:Nat) (body:SX):SX:=Nat.rec (motive:=fun _=>SX) (fun _ _ _ _=>False) (fun _ ih fr mem nx K=>body fr mem nx (seqK K fun fr' mem' nx'=>ih fr' mem' nx' K)) n
def sx (τ:TT) (F:FT) (D:List (Nat×DQ)) (c:Code):SX:=
 Code.rec (motive:=fun _=>SX)
  (fun fr mem nx K=>K .normal fr mem nx)
  (fun id ops draw fr mem nx K=>regx τ F D id ops draw fr mem nx K)
  (fun _ b ia ib fr mem nx K=>match isCut D b with
   | none=>(match zmN D b with
    | none=>ia fr mem nx (seqK K fun fr' mem' nx'=>ib fr' mem' nx' K)
    | some d=>cutrx d ia ib fr mem nx K)
   | some d=>cutx d ia ib fr mem nx K)
  (fun c _ _ ia ib fr mem nx K=>condx c fr (fun fr'=>ia fr' mem nx K) (fun fr'=>ib fr' mem nx K))
  (fun id _ ia fr mem nx K=>ia fr mem nx (znD id K))
  (fun c ia fr mem nx K=>match zmM D c with | some d=>loopx d ia fr mem nx K | none=>(match ziW D c with | some d=>looprx d ia fr mem nx K | none=>(match isUnr D c with | some d=>unrx d.k ia fr mem nx K | none=>False)))
  (fun _ _ _ _ _ _ _ _ _ _=>False)
  (fun id fr mem nx K=>K (.exit id) fr mem nx)
  (fun _ ia fr mem nx K=>ia fr mem nx K)
  (fun _ fr mem nx K=>K .normal fr mem nx)
  (fun _ _ _ _ _=>False)
  (fun fr mem nx K=>K .ret fr mem nx)
  (fun _ _ _ _ _=>False) c
def zbj (D:List (Nat×DQ)):List Nat:=match lk D 9000000 with | some d=>d.L | none=>[]
def zc6 (nt:Nat) (D:List (Nat×DQ)):Code->Bool
 | .region id ops draw=>(ops.toList.all fun o=>match o.dst with | some d=>decide (d<nt) | none=>true)&&(match draw with
  | false=>true
  | true=>(match lk D id with | some d=>(match d.g with | none=>dregB ops.toList d.toDP&&(match d.A with | []=>true | _::_=>ops.toList.all fun o=>zgT (zbj D) o.op) | some σ=>gregB ops.toList d.k σ) | none=>false))
 | .seq a b=>zc6 nt D a&&zc6 nt D b
 | .cond _ a b=>zc6 nt D a&&zc6 nt D b
 | .block _ a=>zc6 nt D a
 | .loop a=>zc6 nt D a
 | .scope a=>zc6 nt D a
 | _=>true
section
variable {P:Program} {τ:TT} {F:FT} {D:List (Nat×DQ)} {C:Ctx} {ρ:Nat->Pl} {fr:AF} {mem:AM} {nx:Nat} {a:Act} {w:World}
theorem zir:∀ {f:AF},subF fr f->∀ t v,lk f t=some v->lk fr t=some v
 | [],_,t,v,h=>by simp[lk] at h
 | (k,u)::l,hs,t,v,h=>by
  rcases za5 h with⟨rfl,rfl⟩ | ⟨_,h⟩
  ·exact hs.1
  ·exact zir hs.2 t v h
theorem Sat.lower (hC:C.ff=[]/\C.fm=[]) (h:Sat C ρ fr mem nx a w) {n:Nat} (hf:nmF n fr=true) (hm:nmM n mem=true) (hn:C.n0<=n):Sat C ρ fr mem n a w:=by
 simp only[nmF,List.all_eq_true] at hf;simp only[nmM,List.all_eq_true,Bool.and_eq_true,decide_eq_true_eq] at hm;refine⟨⟨h.fok.frm,fun t v hv=>?_⟩,h.sz,h.dfr,fun i b hi=>?_,fun i b hi=>?_,h.sep,hn,h.low,h.rest⟩
 ·have hv':=hv;rw[hC.1,List.append_nil] at hv';exact nmV_ok (h.fok.frk t v hv) (hf _ (zaO hv'))
 ·have hi':=hi;rw[hC.2,List.append_nil] at hi';exact⟨(hm _ (zaO hi')).1,(h.mlt i b hi).2⟩
 ·have hi':=hi;rw[hC.2,List.append_nil] at hi';have h1:=h.blk i b hi;have h2:=(hm _ (zaO hi')).2;cases b with
  | box t cs=>
   obtain⟨g,e1,e2,e3,e4⟩:=h1;simp only[nmB,List.all_eq_true] at h2;exact⟨g,e1,e2,e3,fun v hv=>zfR (e4 v hv) (h2 v hv)⟩
  | row t sz k el=>exact h1
  | ext eb=>cases eb with
   | fam t sb=>exact h1
   | map kk ag f=>exact h1
   | obj S Φ=>exact h1
   | deep t sz k cap el u=>
    simp only[nmB,decide_eq_true_eq] at h2;exact⟨h1.1,⟨h2,h1.2.1.2⟩,h1.2.2⟩
theorem ziT {x:Code} {Q:Exit->Act->World->Prop} {α:Type} {I:α->Act->World->Prop} (μ:α->Nat) (hround:∀ y a w,I y a w->x.wp P (Exit.then (fun a' w'=>∃ z,μ z<μ y/\I z a' w') Q) a w) {y:α} {a:Act} {w:World} (h:I y a w):(Code.loop x).wp P Q a w:=by
 have main:∀ n y,μ y=n->∀ a w,I y a w->∀ (b:Frame) (k:List Item) (cs:List Frame),
   ∃ e a' w',Q e a' w'/\Arrives P (lone (b.at a (.code x::.inLoop x::k)) cs w) b k cs e a' w':=by
  intro n;induction n using Nat.strongRecOn with
  | _ n ih=>
   intro y hn a w hI b k cs;obtain⟨e,a1,w1,hq,harr⟩:=hround y a w hI b (.inLoop x::k) cs;cases e with
   | normal=>
    obtain⟨z,hlt,hiz⟩:=hq;obtain⟨e2,a2,w2,hq2,harr2⟩:=ih (μ z) o_ z rfl a1 w1 hiz b k cs;exact⟨e2,a2,w2,hq2,.of_steps (Steps.trans harr (.one step_inLoop)) harr2⟩
   | exit i=>exact⟨_,a1,w1,hq,.pass (x:=.inLoop x) rfl (fun _ _=>.inl (by simp)) harr⟩
   | goto l=>exact⟨_,a1,w1,hq,.pass (x:=.inLoop x) rfl (fun _ _=>.inl (by simp)) harr⟩
   | ret=>exact⟨_,a1,w1,hq,.pass (x:=.inLoop x) rfl (fun _ _=>.inl (by simp)) harr⟩
   | panic ch=>exact⟨_,a1,w1,hq,.pass (x:=.inLoop x) rfl (fun _ _=>.inl (by simp)) harr⟩
   | outgrown=>exact⟨_,a1,w1,hq,.pass (x:=.inLoop x) rfl (fun _ _=>.inl (by simp)) harr⟩
 intro b k cs;obtain⟨e,a',w',hq,harr⟩:=main (μ y) y rfl a w h b k cs;exact⟨e,a',w',hq,.of_steps (.one step_loop) harr⟩
theorem sx_sound (hτ:zcl P τ) (hF:zaY P F (zbj D)) (hmix:P.follows .mixedOrders=true) (hC:C.ff=[]/\C.fm=[]):∀ (c:Code),zc6 C.nt D c=true->∀ (fr:AF) (mem:AM) (nx:Nat) (K:Ex->AF->AM->Nat->Prop) (ρ:Nat->Pl) (a:Act) (w:World) (Q:Exit->Act->World->Prop),
  sx τ F D c fr mem nx K->Sat C ρ fr mem nx a w->zjo Q->(∀ e fr' mem' nx' ρ' a' w',K e fr' mem' nx'->Sat C ρ' fr' mem' nx' a' w'->Q e.to a' w')->c.wp P Q a w:=by
 intro c;induction c with
 | skip=>intro _ fr mem nx K ρ a w Q h hs hQ hK;exact wp_skip (hK .normal _ _ _ _ _ _ h hs)
 | label l=>intro _ fr mem nx K ρ a w Q h hs hQ hK;exact wp_label (hK .normal _ _ _ _ _ _ h hs)
 | region id ops draw=>
  intro hB fr mem nx K ρ a w Q h hs hQ hK;simp only[zc6,Bool.and_eq_true,List.all_eq_true] at hB;obtain⟨hd,hdr⟩:=hB;have hd':∀ o ∈ ops.toList,∀ i,o.dst=some i->i<C.nt:=fun o ho i hi=>by
   have:=hd o ho;rw[hi] at this;simpa using this
  have e:ops=ops.toList.toArray:=by simp
  cases draw with
  | false=>
   replace h:opsx τ F ops ops.toList [] fr mem nx (K .normal):=h;rw[e];refine wp_region_lit ?_;rw[← e];exact zd0 hτ hF hC.2 ops.toList hd' [] fr mem nx ρ a w h hs (fun fr' mem' nx' ρ' a' w' hk hs' _=>hK .normal _ _ _ _ _ _ hk hs')
  | true=>
   replace h:(match lk D id with
    | some d=>(match d.g with
     | none=>dregx τ F ops.toList d.toDP fr mem nx (K .normal)
     | some σ=>gregx τ F ops.toList d.k d.L σ fr mem nx (K .normal))
    | none=>False):=h
   simp only at hdr;cases hD:lk D id with
   | none=>rw[hD] at h;exact h.elim
   | some d=>
    rw[hD] at h hdr;simp only at h hdr;rw[e];cases hg:d.g with
    | none=>
     rw[hg] at h hdr;simp only[Bool.and_eq_true] at hdr;refine zja hτ hF hmix hQ hC (?_:d.A=[]∨∀ o ∈ ops.toList,zgT (zbj D) o.op=true) hdr.1 hd' h hs (fun fr' mem' nx' ρ' a' w' hk hs'=>hK .normal _ _ _ _ _ _ hk hs');cases hdA:d.A with
     | nil=>exact .inl rfl
     | cons x y=>
      have q:=hdr.2;rw[hdA] at q;exact .inr (List.all_eq_true.1 q)
    | some σ=>
     rw[hg] at h hdr;exact zj2 hτ hF hC.2 hmix hQ hdr hd' h hs (fun fr' mem' nx' ρ' a' w' hk hs'=>hK .normal _ _ _ _ _ _ hk hs')
 | seq x y ihx ihy=>
  intro hB fr mem nx K ρ a w Q h hs hQ hK;simp only[zc6,Bool.and_eq_true] at hB;replace h:(match isCut D y with | none=>(match zmN D y with | none=>sx τ F D x fr mem nx (seqK K fun fr' mem' nx'=>sx τ F D y fr' mem' nx' K) | some d=>cutrx d (sx τ F D x) (sx τ F D y) fr mem nx K) | some d=>cutx d (sx τ F D x) (sx τ F D y) fr mem nx K):=h;cases hcut:isCut D y with
  | none=>
   rw[hcut] at h;simp only at h;cases hcr:zmN D y with
   | none=>
    rw[hcr] at h;refine wp_seq (ihx hB.1 fr mem nx _ ρ a w _ h hs (fun c a w hq=>hQ c a w hq) ?_);intro e fr' mem' nx' ρ' a' w' hk hs';cases e with
    | normal=>exact ihy hB.2 fr' mem' nx' K ρ' a' w' Q hk hs' hQ hK
    | exit i=>exact hK (.exit i) _ _ _ _ _ _ hk hs'
    | ret=>exact hK .ret _ _ _ _ _ _ hk hs'
   | some d=>
    rw[hcr] at h;obtain⟨fr0,h⟩:=zev h;obtain⟨mem0,α,newF,newM,inv,hfst,hsnd⟩:=zdM h;refine wp_seq (ihx hB.1 fr mem nx _ ρ a w _ hfst hs (fun c a w hq=>hQ c a w hq) ?_);intro e fr' mem' nx' ρ' a' w' hk hs';cases e with
    | normal=>
     obtain⟨z,σ,hiz,⟨hlw,hnb⟩,hfz,hmz⟩:=hk;obtain⟨⟨hnx,hnf,hnm⟩,hb⟩:=hsnd z hiz;exact ihy hB.2 _ _ (zid d.k nx) K _ a' w' Q hb (hs'.rename hC hs.n0 hlw (Nat.le_trans hs.n0 hnx) hfz hmz hnb hnf hnm) hQ hK
    | exit i=>exact hK (.exit i) _ _ _ _ _ _ hk hs'
    | ret=>exact hK .ret _ _ _ _ _ _ hk hs'
  | some d=>
   rw[hcut] at h;obtain⟨fr0,h⟩:=zev h;obtain⟨mem0,α,newF,newM,inv,hfst,hsnd⟩:=zdM h;refine wp_seq (ihx hB.1 fr mem nx _ ρ a w _ hfst hs (fun c a w hq=>hQ c a w hq) ?_);intro e fr' mem' nx' ρ' a' w' hk hs';cases e with
   | normal=>
    obtain⟨z,hiz,hfz,hmz⟩:=hk;obtain⟨⟨hnx,hnf,hnm⟩,hb⟩:=hsnd z hiz;have hless:Sat C ρ' (newF z++fr0) (newM z++mem0) nx' a' w':=hs'.less (fun t v hv=>by rw[hC.1,List.append_nil] at hv ⊢;exact zir hfz t v hv) (fun i b hb=>by rw[hC.2,List.append_nil] at hb ⊢;exact zdS hmz i b hb);exact ihy hB.2 _ _ (zid d.k nx) K ρ' a' w' Q hb (hless.lower hC hnf hnm (Nat.le_trans hs.n0 hnx)) hQ hK
   | exit i=>exact hK (.exit i) _ _ _ _ _ _ hk hs'
   | ret=>exact hK .ret _ _ _ _ _ _ hk hs'
 | cond c x y ihx ihy=>
  intro hB fr mem nx K ρ a w Q h hs hQ hK;simp only[zc6,Bool.and_eq_true] at hB;replace h:condx c fr (fun fr'=>sx τ F D x fr' mem nx K) (fun fr'=>sx τ F D y fr' mem nx K):=h;unfold condx at h;cases hc:ev fr c with
  | none=>rw[hc] at h;exact h.elim
  | some v=>
   rw[hc] at h;cases v<;>simp only at h<;>first | exact h.elim | skip
   rename_i t
   have he:a.eval c=.bool t:=(zb4 hs.fok.left hc).1;have hset:∀ b:Bool,t=b->Sat C ρ (setC c b fr) mem nx a w:=by
    rintro b rfl;cases c with
    | tmp d=>
     have hv:lk fr d=some (.bool t):=hc;refine hs.frm ⟨fun u v hu=>?_,fun u v hu=>?_⟩
     ·rcases za5 (l:=fr++C.ff) hu with⟨rfl,rfl⟩ | ⟨_,hu⟩
      ·exact hs.fok.frm _ _ (za9 hv)
      ·exact hs.fok.frm u v hu
     ·rcases za5 (l:=fr++C.ff) hu with⟨rfl,rfl⟩ | ⟨_,hu⟩
      ·trivial
      ·exact hs.fok.frk u v hu
    | _=>exact hs
   exact wp_cond_split he (fun ht=>ihx hB.1 _ mem nx K ρ a w Q (h.1 ht) (hset true ht) hQ hK) (fun ht=>ihy hB.2 _ mem nx K ρ a w Q (h.2 ht) (hset false ht) hQ hK)
 | block id x ihx=>
  intro hB fr mem nx K ρ a w Q h hs hQ hK;simp only[zc6] at hB;replace h:sx τ F D x fr mem nx (znD id K):=h;refine wp_block (ihx hB fr mem nx _ ρ a w _ h hs (fun c a w hq=>hQ c a w hq) ?_);intro e fr' mem' nx' ρ' a' w' hk hs';cases e with
  | normal=>exact hK .normal _ _ _ _ _ _ hk hs'
  | ret=>exact hK .ret _ _ _ _ _ _ hk hs'
  | exit i=>
   simp only[znD] at hk;show Exit.inBlock id Q (.exit i) a' w';simp only[Exit.inBlock];cases hb:Nat.beq i id with
   | true=>
    rw[hb] at hk;rw[if_pos (Nat.eq_of_beq_eq_true hb)];exact hK .normal _ _ _ _ _ _ hk hs'
   | false=>
    rw[hb] at hk;rw[if_neg (by rintro rfl;rw[Nat.beq_refl] at hb;cases hb)];exact hK (.exit i) _ _ _ _ _ _ hk hs'
 | loop x ihx=>
  intro hB fr mem nx K ρ a w Q h hs hQ hK;simp only[zc6] at hB;replace h:(match zmM D x with | some d=>loopx d (sx τ F D x) fr mem nx K | none=>(match ziW D x with | some d=>looprx d (sx τ F D x) fr mem nx K | none=>(match isUnr D x with | some d=>unrx d.k (sx τ F D x) fr mem nx K | none=>False))):=h;cases hlp:zmM D x with
  | none=>
   rw[hlp] at h;simp only at h;cases hlr:ziW D x with
   | none=>
    rw[hlr] at h;simp only at h;cases hlu:isUnr D x with
    | none=>rw[hlu] at h;exact h.elim
    | some d=>
     rw[hlu] at h;replace h:unrx d.k (sx τ F D x) fr mem nx K:=h;refine ziT (α:=Nat) (I:=fun n a w=>∃ fr mem nx ρ,unrx n (sx τ F D x) fr mem nx K/\Sat C ρ fr mem nx a w) id ?_ (y:=d.k) ⟨fr,mem,nx,ρ,h,hs⟩;rintro y a w ⟨fr,mem,nx,ρ,h,hs⟩;cases y with
     | zero=>exact (show False from h).elim
     | succ y=>
      replace h:sx τ F D x fr mem nx (seqK K fun fr' mem' nx'=>unrx y (sx τ F D x) fr' mem' nx' K):=h;refine ihx hB fr mem nx _ ρ a w _ h hs (fun c a w hq=>hQ c a w hq) ?_;intro e fr' mem' nx' ρ' a' w' hk hs';cases e with
      | normal=>exact⟨y,Nat.lt_succ_self y,fr',mem',nx',ρ',hk,hs'⟩
      | exit i=>exact hK (.exit i) _ _ _ _ _ _ hk hs'
      | ret=>exact hK .ret _ _ _ _ _ _ hk hs'
   | some d=>
    rw[hlr] at h;obtain⟨fr0,h⟩:=zev h;obtain⟨mem0,α,newF,newM,inv,μ,⟨x0,σ0,hi0,⟨hlw0,hnb0⟩,hf0,hm0⟩,hround⟩:=zdM h;refine ziT (I:=fun y a w=>inv y/\∃ ρ,Sat C ρ (newF y++fr0) (newM y++mem0) (zid d.k nx) a w) μ ?_ (y:=x0) ?_
    ·rintro y a w ⟨hi,ρ,hsy⟩;obtain⟨⟨hnx,hnf,hnm⟩,hbody⟩:=hround y hi;refine ihx hB (newF y++fr0) (newM y++mem0) (zid d.k nx) _ ρ a w _ hbody hsy (fun c a w hq=>hQ c a w hq) ?_;intro e fr' mem' nx' ρ' a' w' hk hs';cases e with
     | normal=>
      obtain⟨z,σ,⟨hiz,hμ⟩,⟨hlw,hnb⟩,hfz,hmz⟩:=hk;obtain⟨⟨-,hnfz,hnmz⟩,-⟩:=hround z hiz;exact⟨z,hμ,hiz,_,hs'.rename hC hs.n0 hlw (Nat.le_trans hs.n0 hnx) hfz hmz hnb hnfz hnmz⟩
     | exit i=>exact hK (.exit i) _ _ _ _ _ _ hk hs'
     | ret=>exact hK .ret _ _ _ _ _ _ hk hs'
    ·obtain⟨⟨hnx,hnf,hnm⟩,-⟩:=hround x0 hi0;exact⟨hi0,_,hs.rename hC hs.n0 hlw0 (Nat.le_trans hs.n0 hnx) hf0 hm0 hnb0 hnf hnm⟩
  | some d=>
   rw[hlp] at h;obtain⟨fr0,h⟩:=zev h;obtain⟨mem0,α,newF,newM,inv,μ,⟨x0,hi0,hf0,hm0⟩,hround⟩:=zdM h;have less:∀ {fr mem:_} {f:AF} {m:AM} {nx':Nat} {ρ a w},Sat C ρ fr mem nx' a w->subF fr f->keeps mem m->Sat C ρ f m nx' a w:=fun h hf hm=>
    h.less (fun t v hv=>by rw[hC.1,List.append_nil] at hv ⊢;exact zir hf t v hv) (fun i b hb=>by rw[hC.2,List.append_nil] at hb ⊢;exact zdS hm i b hb)
   refine ziT (I:=fun y a w=>inv y/\∃ ρ,Sat C ρ (newF y++fr0) (newM y++mem0) nx a w) μ ?_ (y:=x0) ⟨hi0,ρ,less hs hf0 hm0⟩;rintro y a w ⟨hi,ρ,hsy⟩;obtain⟨⟨hnf,hnm⟩,hbody⟩:=hround y hi;refine ihx hB (newF y++fr0) (newM y++mem0) nx _ ρ a w _ hbody hsy (fun c a w hq=>hQ c a w hq) ?_;intro e fr' mem' nx' ρ' a' w' hk hs';cases e with
   | normal=>
    obtain⟨z,⟨hiz,hμ⟩,hfz,hmz⟩:=hk;obtain⟨⟨hnfz,hnmz⟩,-⟩:=hround z hiz;exact⟨z,hμ,hiz,ρ',(less hs' hfz hmz).lower hC hnfz hnmz hs.n0⟩
   | exit i=>exact hK (.exit i) _ _ _ _ _ _ hk hs'
   | ret=>exact hK .ret _ _ _ _ _ _ hk hs'
 | scope x ihx=>
  intro hB fr mem nx K ρ a w Q h hs hQ hK;simp only[zc6] at hB;replace h:sx τ F D x fr mem nx K:=h;refine wp_scope_straight (ihx hB fr mem nx K ρ a w _ h hs (fun c a w hq=>hQ c a w hq) ?_);intro e fr' mem' nx' ρ' a' w' hk hs';cases e<;>exact hK _ _ _ _ _ _ _ hk hs'
 | exit id=>intro _ fr mem nx K ρ a w Q h hs hQ hK;exact wp_exit (hK (.exit id) _ _ _ _ _ _ h hs)
 | ret=>intro _ fr mem nx K ρ a w Q h hs hQ hK;exact wp_ret (hK .ret _ _ _ _ _ _ h hs)
 | _=>intro _ fr mem nx K ρ a w Q h hs hQ hK;exact (show False from h).elim
end
def zfP:Value->Bool
 | .tuple _=>false
 | .func _ _ _=>false
 | _=>true
def zjF (τ:TT) (fr:AF) (mem:AM):ResultVar->Option Value
 | .tmp t=>(match lk fr t with | some v=>(match zfP v with | true=>some v | false=>none) | none=>none)
 | .cell t ty=>(match lk fr t with | some p=>(match ldx τ mem ty p with | some v=>(match zfP v with | true=>some v | false=>none) | none=>none) | none=>none)
def resx (τ:TT) (fr:AF) (mem:AM):List ResultVar->Option Value
 | []=>some (.tuple #[])
 | [r]=>zjF τ fr mem r
 | [r,s]=>(match zjF τ fr mem r with | some v=>(match zjF τ fr mem s with | some u=>some (.tuple #[v,u]) | none=>none) | none=>none)
 | [r,s,t]=>(match zjF τ fr mem r with | some v=>(match zjF τ fr mem s with | some u=>(match zjF τ fr mem t with | some x=>some (.tuple #[v,u,x]) | none=>none) | none=>none) | none=>none)
 | _=>none
def zb3:Nat->List Value->AF
 | _,[]=>[]
 | i,v::r=>(i,v)::zb3 (i+1) r
section
variable {P:Program} {τ:TT} {F:FT} {D:List (Nat×DQ)} {C:Ctx} {ρ:Nat->Pl} {fr:AF} {mem:AM} {nx:Nat} {a:Act} {w:World}
def rv (tmps:Array Value):ResultVar->Sem Value
 | .tmp t=>pure (tmps.getD t undef)
 | .cell a t=>do loadVar t (← asAddr (tmps.getD a undef))
theorem zby {v:Value} (h:zfP v=true):den ρ v=zaW ρ v/\okV ρ nx v=ok2 ρ nx v:=by
 cases v<;>first | exact⟨rfl,rfl⟩ | simp[zfP] at h
theorem zdN (hτ:zcl P τ) (hf:FrOk ρ fr nx a) (hm:∀ i b,lk mem i=some b->BlkOk C ρ nx i w b) {r:ResultVar} {v:Value} (h:zjF τ fr mem r=some v):(rv a.tmps r).run P w=.ok (den ρ v) w/\okV ρ nx v/\zfP v=true:=by
 cases r with
 | tmp t=>
  simp only[zjF] at h;cases hv:lk fr t with
  | none=>rw[hv] at h;simp at h
  | some u=>
   rw[hv] at h;simp only at h;cases hn:zfP u with
   | false=>rw[hn] at h;simp at h
   | true=>
    rw[hn] at h;simp at h;subst h;have:=hf.frm t u hv;exact⟨by simp[rv,Array.getD_eq_getD_getElem?,this],hf.frk t u hv,hn⟩
 | cell t ty=>
  simp only[zjF] at h;cases hv:lk fr t with
  | none=>rw[hv] at h;simp at h
  | some p=>
   rw[hv] at h;simp only at h;cases hl:ldx τ mem ty p with
   | none=>rw[hl] at h;simp at h
   | some u=>
    rw[hl] at h;simp only at h;cases hn:zfP u with
    | false=>rw[hn] at h;simp at h
    | true=>
     rw[hn] at h;simp at h;subst h;obtain⟨h1,h2⟩:=zmD (P:=P) hτ hm (hf.frk t p hv) hl;refine⟨?_,h2,hn⟩;have h3:=hf.frm t p hv;have hpt:∃ ad,p=.pointer (some ad):=by
      cases p<;>first | (simp[ldx] at hl;done) | skip
      rename_i q
      cases q with
      | none=>simp[ldx] at hl
      | some ad=>exact⟨ad,rfl⟩
     obtain⟨ad,rfl⟩:=hpt;have hd:den ρ (.pointer (some ad))=.pointer (dA ρ ad):=rfl;rw[hd] at h1 h3;cases hA:dA ρ ad with
     | none=>rw[hA] at h1;simp[Instr.loadAt,Instr.sureAddr] at h1
     | some c=>
      rw[hA] at h1 h3;simp only[Instr.loadAt,Instr.sureAddr,Sem.run_bind,Sem.run_pure,Result.andThen_ok] at h1;simp[rv,Array.getD_eq_getD_getElem?,h3,asAddr,h1]
theorem zeV (fn:Func) (tmps:Array Value):results fn tmps=(do
  let vs ← fn.results.mapM (rv tmps)
  pure (if h:vs.size=1 then vs[0] else .tuple vs)):=by
 unfold results
 congr 1
theorem results1 {fn:Func} {r:ResultVar} (h:fn.results=#[r]) {tmps:Array Value} {v:Value} (h1:(rv tmps r).run P w=.ok v w):(results fn tmps).run P w=.ok v w:=by
 simp[zeV,h,h1]
theorem results2 {fn:Func} {r s:ResultVar} (h:fn.results=#[r,s]) {tmps:Array Value} {v u:Value} (h1:(rv tmps r).run P w=.ok v w) (h2:(rv tmps s).run P w=.ok u w):(results fn tmps).run P w=.ok (.tuple #[v,u]) w:=by
 simp[zeV,h,h1,h2]
theorem results3 {fn:Func} {r s t:ResultVar} (h:fn.results=#[r,s,t]) {tmps:Array Value} {v u x:Value} (h1:(rv tmps r).run P w=.ok v w) (h2:(rv tmps s).run P w=.ok u w) (h3:(rv tmps t).run P w=.ok x w):(results fn tmps).run P w=.ok (.tuple #[v,u,x]) w:=by
 simp[zeV,h,h1,h2,h3]
theorem resx_run (hτ:zcl P τ) (hf:FrOk ρ fr nx a) (hm:∀ i b,lk mem i=some b->BlkOk C ρ nx i w b) {fn:Func} {v:Value} (h:resx τ fr mem fn.results.toList=some v):(results fn a.tmps).run P w=.ok (den ρ v) w/\okV ρ nx v:=by
 have e:∀ l,fn.results.toList=l->fn.results=l.toArray:=fun l hl=>by rw[← hl]
 match hl:fn.results.toList,h with
 | [],h=>
  simp only[resx,Option.some.injEq] at h;subst h;exact⟨by simp[results,e _ hl,den],zcD⟩
 | [r],h=>
  obtain⟨h1,h2,-⟩:=zdN (P:=P) hτ hf hm h;exact⟨results1 (e _ hl) h1,h2⟩
 | [r,s],h=>
  simp only[resx] at h;cases hr:zjF τ fr mem r with
  | none=>rw[hr] at h;simp at h
  | some x=>
   cases hs:zjF τ fr mem s with
   | none=>rw[hr,hs] at h;simp at h
   | some y=>
    rw[hr,hs] at h;simp at h;subst h;obtain⟨h1,h2,h3⟩:=zdN (P:=P) hτ hf hm hr;obtain⟨k1,k2,k3⟩:=zdN (P:=P) hτ hf hm hs;refine⟨?_,?_⟩
    ·have:=results2 (P:=P) (e _ hl) h1 k1;rw[this];rw[show den ρ (.tuple #[x,y])=.tuple #[zaW ρ x,zaW ρ y] by simp[den],(zby (ρ:=ρ) (nx:=nx) h3).1,(zby (ρ:=ρ) (nx:=nx) k3).1]
    ·rw[(zby h3).2] at h2;rw[(zby k3).2] at k2;intro z hz;simp at hz;rcases hz with rfl | rfl
     ·exact h2
     ·exact k2
 | [r,s,t],h=>
  simp only[resx] at h;cases hr:zjF τ fr mem r with
  | none=>rw[hr] at h;simp at h
  | some x=>
   cases hs:zjF τ fr mem s with
   | none=>rw[hr,hs] at h;simp at h
   | some y=>
    cases ht:zjF τ fr mem t with
    | none=>rw[hr,hs,ht] at h;simp at h
    | some z0=>
     rw[hr,hs,ht] at h;simp at h;subst h;obtain⟨h1,h2,h3⟩:=zdN (P:=P) hτ hf hm hr;obtain⟨k1,k2,k3⟩:=zdN (P:=P) hτ hf hm hs;obtain⟨m1,m2,m3⟩:=zdN (P:=P) hτ hf hm ht;refine⟨?_,?_⟩
     ·have:=results3 (P:=P) (e _ hl) h1 k1 m1;rw[this];rw[show den ρ (.tuple #[x,y,z0])=.tuple #[zaW ρ x,zaW ρ y,zaW ρ z0] by simp[den],(zby (ρ:=ρ) (nx:=nx) h3).1,(zby (ρ:=ρ) (nx:=nx) k3).1,(zby (ρ:=ρ) (nx:=nx) m3).1]
     ·rw[(zby h3).2] at h2;rw[(zby k3).2] at k2;rw[(zby m3).2] at m2;intro z hz;simp at hz;rcases hz with rfl | rfl | rfl
      ·exact h2
      ·exact k2
      ·exact m2
 | _::_::_::_::_,h=>simp[resx] at h
theorem zjh:∀ {vs:List Value} {i t:Nat} {v:Value},lk (zb3 i vs) t=some v->∃ j,t=i+j/\vs[j]?=some v
 | [],i,t,v,h=>by simp[zb3,lk] at h
 | u::r,i,t,v,h=>by
  rcases za5 h with⟨rfl,rfl⟩ | ⟨_,h⟩
  ·exact⟨0,o_,rfl⟩
  ·obtain⟨j,rfl,hj⟩:=zjh h
   exact⟨j+1,o_,by simpa using hj⟩
structure MemAt (C:Ctx) (ρ:Nat->Pl) (mem:AM) (nx:Nat) (w:World):Prop where
 mlt:∀ i b,lk mem i=some b->i<nx/\(ρ i).res=false
 blk:∀ i b,lk mem i=some b->BlkOk C ρ nx i w b
 sep:∀ i j b b',i≠j->lk mem i=some b->lk mem j=some b'->Apart ρ i j b b'
 n0:C.n0<=nx
 low:∀ i,i<C.n0->ρ i=C.ρ0 i
 rest:Rest C w
def zb8 (τ:TT) (rs:List ResultVar) (R:Value->AM->Nat->Prop) (e:Ex) (fr:AF) (mem:AM) (nx:Nat):Prop:=
 match e with
 | .exit _=>False
 | _=>(match resx τ fr mem rs with | some v=>R v mem nx | none=>False)
theorem zbR (hτ:zcl P τ) (hF:zaY P F (zbj D)) (hmix:P.follows .mixedOrders=true) {f:FuncId} {fn:Func} {c:Code} (hf:P.funcs[f]?=some fn) (hb:fn.body=some c) (hcode:zc6 fn.ntmps D c=true) {vs:List Value} (hn0:Nat.ble vs.length fn.ntmps=true)
  (hC:C.ff=[]/\C.fm=[]) (hnt:C.nt=fn.ntmps) (hm:MemAt C ρ mem nx w) (hv:∀ v ∈ vs,okV ρ nx v) {R:Value->AM->Nat->Prop} (h:sx τ F D c (zb3 0 vs) mem nx (zb8 τ fn.results.toList R)) :
  Calls P f (vs.map (den ρ)).toArray w fun e w'=>∃ v mem' nx' ρ',e=.returned (den ρ' v)/\R v mem' nx'/\okV ρ' nx' v/\MemAt C ρ' mem' nx' w':=by
 have hn:vs.length<=fn.ntmps:=Nat.le_of_ble_eq_true hn0;refine calls_of_wp hf hb ?_;have hs:Sat C ρ (zb3 0 vs) mem nx { tmps:=(vs.map (den ρ)).toArray++Array.replicate (fn.ntmps-(vs.map (den ρ)).toArray.size) undef,defers:=[] } w:=by
  refine⟨⟨fun t v hv'=>?_,fun t v hv'=>?_⟩,?_,rfl,fun i b hi=>?_,fun i b hi=>?_,fun i j b b' hne hi hj=>?_,hm.n0,hm.low,hm.rest⟩
  ·rw[hC.1,List.append_nil] at hv';obtain⟨j,rfl,hj⟩:=zjh hv';have hjl:j<vs.length:=(List.getElem?_eq_some_iff.1 hj).1;simp only[Nat.zero_add];rw[Array.getElem?_append_left (by simpa using hjl)];simp[hj]
  ·rw[hC.1,List.append_nil] at hv';obtain⟨j,rfl,hj⟩:=zjh hv';exact hv v (List.mem_of_getElem? hj)
  ·simp[hnt];omega
  ·rw[hC.2,List.append_nil] at hi;exact hm.mlt i b hi
  ·rw[hC.2,List.append_nil] at hi;exact hm.blk i b hi
  ·rw[hC.2,List.append_nil] at hi hj;exact hm.sep i j b b' hne hi hj
 have hend:∀ e fr' mem' nx' ρ' a' w',zb8 τ fn.results.toList R e fr' mem' nx'->Sat C ρ' fr' mem' nx' a' w'->bodyPost P fn (fun e w'=>∃ v mem' nx' ρ',e=.returned (den ρ' v)/\R v mem' nx'/\okV ρ' nx' v/\MemAt C ρ' mem' nx' w') e.to a' w':=by
  intro e fr' mem' nx' ρ' a' w' he hs';have hok:∀ (he:(match resx τ fr' mem' fn.results.toList with | some v=>R v mem' nx' | none=>False)),a'.defers=[]/\∃ v,(results fn a'.tmps).run P w'=.ok v w'/\∃ v2 mem' nx' ρ',Ending.returned v=.returned (den ρ' v2)/\R v2 mem' nx'/\okV ρ' nx' v2/\MemAt C ρ' mem' nx' w':=by
   intro he;cases hr:resx τ fr' mem' fn.results.toList with
   | none=>rw[hr] at he;exact he.elim
   | some v=>
    rw[hr] at he;obtain⟨h1,h2⟩:=resx_run (P:=P) hτ hs'.fok.left (fun i b hi=>hs'.blk i b (za9 hi)) hr;exact⟨hs'.dfr,_,h1,v,mem',nx',ρ',rfl,he,h2,⟨fun i b hi=>hs'.mlt i b (za9 hi),fun i b hi=>hs'.blk i b (za9 hi),fun i j b b' hne hi hj=>hs'.sep i j b b' hne (za9 hi) (za9 hj),hs'.n0,hs'.low,hs'.rest⟩⟩
  cases e with
  | exit i=>exact he.elim
  | normal=>exact hok he
  | ret=>exact hok he
 exact sx_sound hτ hF hmix hC c (by rw[hnt];exact hcode) _ _ _ _ ρ _ w _ h hs (fun c a w hq=>by obtain⟨-,v,_,_,_,hq,-⟩:=hq;cases hq) hend
theorem zcu (hτ:zcl P τ) (hF:FTok P F) (hmix:P.follows .mixedOrders=true) {f:FuncId} {fn:Func} {c:Code} (hf:P.funcs[f]?=some fn) (hb:fn.body=some c) (hcode:zc6 fn.ntmps D c=true) {vs:List Value} (hn0:Nat.ble vs.length fn.ntmps=true)
  (hC:C.ff=[]/\C.fm=[]) (hnt:C.nt=fn.ntmps) (hm:MemAt C ρ mem nx w) (hv:∀ v ∈ vs,okV ρ nx v) {R:Value->AM->Nat->Prop} (h:sx τ F D c (zb3 0 vs) mem nx (zb8 τ fn.results.toList R)) :
  Calls P f (vs.map (den ρ)).toArray w fun e w'=>∃ v mem' nx' ρ',e=.returned (den ρ' v)/\R v mem' nx'/\okV ρ' nx' v/\MemAt C ρ' mem' nx' w':=zbR hτ (hF.i _) hmix hf hb hcode hn0 hC hnt hm hv h
def zat (τ:TT) (F:FT) (D:List (Nat×DQ)) (fn:Func) (c:Code):CT:=fun vs mem nx K=>match Nat.ble vs.length fn.ntmps with
 | true=>sx τ F D c (zb3 0 vs) mem nx (zb8 τ fn.results.toList K)
 | false=>False
theorem zad (hτ : zcl P τ) (hF : zaY P F (zbj D)) (hmix : P.follows .mixedOrders = true) {f : FuncId} {fn : Func} {c : Code} (hent : (P.funcs[f]?).map (fun fn => (fn.name == "runtime.NumGoroutine", fn.body.isNone)) = some (false, false)) (hf : P.funcs[f]? = some fn) (hb : fn.body = some c) (hcode : zc6 fn.ntmps D c = true) {I : List Nat} (hI : I.contains f = true) : zab P I f (zat τ F D fn c) := by
 intro C hor
 have hfm:C.fm=[]:=hor.resolve_right (by rw[hI];decide)
 refine⟨hent,?_⟩
 intro ρ fr mem nx a w vs K hc hs hv
 unfold zat at hc
 cases hn:Nat.ble vs.length fn.ntmps with
 | false=>rw[hn] at hc;exact hc.elim
 | true=>
  rw[hn] at hc
  have hl:∀ i b,lk mem i=some b->lk (mem++C.fm) i=some b:=fun i b hi=>za9 hi
  have hm:MemAt { C with n0:=nx,ρ0:=ρ,nt:=fn.ntmps,ff:=[],fm:=[] } ρ mem nx w:=
   ⟨fun i b hi=>hs.mlt i b (hl i b hi),fun i b hi=>by have:=hs.blk i b (hl i b hi);cases b<;>exact this,fun i j b b' hne hi hj=>hs.sep i j b b' hne (hl i b hi) (hl j b' hj),nl_,fun _ _=>rfl,⟨hs.rest.os,hs.rest.tape,hs.rest.output,hs.rest.size,hs.rest.block⟩⟩
  refine (zbR hτ hF hmix hf hb hcode hn ⟨rfl,rfl⟩ rfl hm hv hc).mono ?_
  rintro e w' ⟨v,mem',nx',ρ',rfl,hK,hv',hm'⟩
  have hlow:∀ i,i<nx->ρ' i=ρ i:=fun i hi=>hm'.low i hi
  have hnx:nx<=nx':=hm'.n0
  have hf':∀ i b,lk (mem'++C.fm) i=some b->lk mem' i=some b:=fun i b hi=>by rw[hfm,List.append_nil] at hi;exact hi
  refine⟨v,mem',nx',ρ',rfl,hK,⟨⟨fun t u hu=>?_,fun t u hu=>zc9 (fun j hj _=>hlow j hj) hnx (hs.fok.frk t u hu)⟩,hs.sz,hs.dfr,fun i b hi=>hm'.mlt i b (hf' i b hi),fun i b hi=>by have:=hm'.blk i b (hf' i b hi);cases b<;>exact this,fun i j b b' hne hi hj=>hm'.sep i j b b' hne (hf' i b hi) (hf' j b' hj),Nat.le_trans hs.n0 hnx,fun i hi=>(hlow i (Nat.lt_of_lt_of_le hi hs.n0)).trans (hs.low i hi),⟨hm'.rest.os,hm'.rest.tape,hm'.rest.output,hm'.rest.size,hm'.rest.block⟩⟩,hv',⟨hlow,hnx⟩⟩
  rw[zbQ (fun j hj _=>hlow j hj) (hs.fok.frk t u hu)]
  exact hs.fok.frm t u hu
end
end Go.Proofs.YtjnndjnpcelafaaGreat
namespace Go.Proofs.YtjnndjnpcelafaaGreat
open Go.RowKit
/-! The data of package api. -/
structure Ten where
 load:Int
 shadow:Int
 prio:Int
 lag:Int
 allowed:Int
 group:Int
 noisy:Bool
structure Cfg where
 regions:Int
 zones:List Int
 cells:List (Int×Int)
 tenants:List Ten
 versions:List (Int×Int)
 replicas:List Int
 observers:List Int
 blast:Int
 lease:Int
 bake:Int
structure Win where
 cell:Int
 epoch:Int
 version:Int
 since:Int
 till:Int
structure TS where
 placed:Bool
 shed:Bool
 home:Int
 standby:Int
 next:Int
 target:Int
 epoch:Int
 win:Win
structure CS where
 mode:Int
 running:Int
 wanted:Int
 since:Int
structure St where
 tick:Int
 count:Int
 tenants:List TS
 cells:List CS
 proven:Int
 evac:Int
 low:Int
 high:Int
structure Ent where
 kind:Int
 tick:Int
 tenant:Int
 cell:Int
 other:Int
 epoch:Int
 since:Int
 till:Int
 n:Int
def zaw (z:Int):List Value:=[.int .i64 z]
def zaI (p:Int×Int):List Value:=[.int .i64 p.1,.int .i64 p.2]
def zd8 (t:Ten):List Value:=[.int .i64 t.load,.int .i64 t.shadow,.int .i64 t.prio,.int .i64 t.lag,.int .i64 t.allowed,.int .i64 t.group,.bool t.noisy]
def tsC (t:TS):List Value:=[.bool t.placed,.bool t.shed,.int .i64 t.home,.int .i64 t.standby,.int .i64 t.next,.int .i64 t.target,.int .i64 t.epoch,
 .int .i64 t.win.cell,.int .i64 t.win.epoch,.int .i64 t.win.version,.int .i64 t.win.since,.int .i64 t.win.till]
def csC (x:CS):List Value:=[.int .i64 x.mode,.int .i64 x.running,.int .i64 x.wanted,.int .i64 x.since]
def zbe (e:Ent):List Value:=[.int .i64 e.kind,.int .i64 e.tick,.int .i64 e.tenant,.int .i64 e.cell,.int .i64 e.other,.int .i64 e.epoch,.int .i64 e.since,.int .i64 e.till,.int .i64 e.n]
def zaJ {α:Type} (enc:α->List Value) (l:List α):List Value:=l.flatMap enc
theorem zbs {α:Type} {enc:α->List Value} {sz:Nat} (hs:∀ x,(enc x).length=sz) (l:List α):(zaJ enc l).length=l.length * sz:=by
 induction l with
 | nil=>simp[zaJ]
 | cons a l ih=>simp only[zaJ,List.flatMap_cons,List.length_append,List.length_cons,hs] at ih ⊢;rw[ih,Nat.add_mul];omega
theorem zgY {α:Type} {enc:α->List Value} {sz:Nat} (hs:∀ x,(enc x).length=sz):∀ (l:List α) (k:Nat) (x:α),l[k]?=some x->∀ (j:Nat) (v:Value),(enc x)[j]?=some v->(zaJ enc l)[k * sz+j]?=some v
 | [],k,x,h,j,v,hv=>by simp at h
 | a::l,0,x,h,j,v,hv=>by
  simp at h
  subst h
  have:j<(enc a).length:=(List.getElem?_eq_some_iff.1 hv).1
  simp only[zaJ,List.flatMap_cons,Nat.zero_mul,Nat.zero_add]
  rw[List.getElem?_append_left this]
  exact hv
 | a::l,k+1,x,h,j,v,hv=>by
  have ih:=zgY hs l k x (by simpa using h) j v hv
  simp only[zaJ,List.flatMap_cons]
  rw[List.getElem?_append_right (by rw[hs,Nat.add_mul];omega),hs]
  have e:(k+1) * sz+j-sz=k * sz+j:=by rw[Nat.add_mul];omega
  rw[e]
  exact ih
theorem Rd.row {α:Type} {enc:α->List Value} {sz:Nat} (hs:∀ x,(enc x).length=sz) (hpos:0<sz) {w:World} {S:Nat->Prop} {A:Option Addr} {l:List α} (h:Rd w S A (zaJ enc l)) {k:Nat} (hk:k<l.length) :
  ∃ b off x,A=some ⟨b,off,none⟩/\S b/\l[k]?=some x/\∀ (j:Nat) (v:Value),(enc x)[j]?=some v->w.cell? ⟨b,off+k * sz+j,none⟩=some v:=by
 have hlen:=zbs hs l
 obtain⟨b,off,hA,hS,hc⟩:=h.at_ (k:=k * sz) (by
  rw[hlen]
  exact Nat.mul_lt_mul_of_pos_right hk hpos)
 refine⟨b,off,l[k],hA,hS,List.getElem?_eq_getElem hk,fun j v hv=>?_⟩;rw[Nat.add_assoc];exact hc _ _ (zgY hs l k _ (List.getElem?_eq_getElem hk) j v hv)
structure CfgA where
 az:Option Addr
 cz:Nat
 ac:Option Addr
 cc:Nat
 at_:Option Addr
 ct:Nat
 av:Option Addr
 cv:Nat
 ar:Option Addr
 cr:Nat
 ao:Option Addr
 co:Nat
def zaH (x:CfgA) (c:Cfg):Array Value:=#[.int .i64 c.regions,.slice x.az c.zones.length x.cz,.slice x.ac c.cells.length x.cc,.slice x.at_ c.tenants.length x.ct,.slice x.av c.versions.length x.cv,
 .slice x.ar c.replicas.length x.cr,.slice x.ao c.observers.length x.co,.int .i64 c.blast,.int .i64 c.lease,.int .i64 c.bake]
structure CfgOk (w:World) (S:Nat->Prop) (x:CfgA) (c:Cfg):Prop where
 zones:Rd w S x.az (zaJ zaw c.zones)
 cells:Rd w S x.ac (zaJ zaI c.cells)
 tenants:Rd w S x.at_ (zaJ zd8 c.tenants)
 versions:Rd w S x.av (zaJ zaI c.versions)
 replicas:Rd w S x.ar (zaJ zaw c.replicas)
 observers:Rd w S x.ao (zaJ zaw c.observers)
theorem CfgOk.keep {w w':World} {S:Nat->Prop} {x:CfgA} {c:Cfg} (h:CfgOk w S x c) (hk:∀ k,S k->w'.heap[k]?=w.heap[k]?):CfgOk w' S x c:=
 ⟨h.zones.keep hk,h.cells.keep hk,h.tenants.keep hk,h.versions.keep hk,h.replicas.keep hk,h.observers.keep hk⟩
theorem CfgOk.more {w:World} {S S':Nat->Prop} {x:CfgA} {c:Cfg} (h:CfgOk w S x c) (hS:∀ b,S b->S' b):CfgOk w S' x c:=
 ⟨h.zones.more hS,h.cells.more hS,h.tenants.more hS,h.versions.more hS,h.replicas.more hS,h.observers.more hS⟩
theorem CfgOk.below {w w':World} {B:Nat} {x:CfgA} {c:Cfg} (h:CfgOk w (·<B) x c) (hb:Below B w w'):CfgOk w' (·<B) x c:=h.keep fun k hk=>hb.block k hk
structure StA where
 at_:Option Addr
 ct:Nat
 ac:Option Addr
 cc:Nat
def stC (x:StA) (s:St):Array Value:=#[.int .i64 s.tick,.int .i64 s.count,.slice x.at_ s.tenants.length x.ct,.slice x.ac s.cells.length x.cc,.int .i64 s.proven,.int .i64 s.evac,.int .i64 s.low,.int .i64 s.high]
structure StOk (w:World) (S:Nat->Prop) (x:StA) (s:St):Prop where
 tenants:Rd w S x.at_ (zaJ tsC s.tenants)
 cells:Rd w S x.ac (zaJ csC s.cells)
theorem StOk.keep {w w':World} {S:Nat->Prop} {x:StA} {s:St} (h:StOk w S x s) (hk:∀ k,S k->w'.heap[k]?=w.heap[k]?):StOk w' S x s:=⟨h.tenants.keep hk,h.cells.keep hk⟩
theorem StOk.more {w:World} {S S':Nat->Prop} {x:StA} {s:St} (h:StOk w S x s) (hS:∀ b,S b->S' b):StOk w S' x s:=⟨h.tenants.more hS,h.cells.more hS⟩
theorem StOk.below {w w':World} {B:Nat} {x:StA} {s:St} (h:StOk w (·<B) x s) (hb:Below B w w'):StOk w' (·<B) x s:=h.keep fun k hk=>hb.block k hk
end Go.Proofs.YtjnndjnpcelafaaGreat
/-! Plain functions on the data: what the program and the references compute. No program in sight. -/
namespace Go.Proofs.YtjnndjnpcelafaaGreat
instance:Inhabited Ten:=⟨⟨0,0,0,0,0,0,false⟩⟩
instance:Inhabited Win:=⟨⟨0,0,0,0,0⟩⟩
instance:Inhabited TS:=⟨⟨false,false,0,0,0,0,0,default⟩⟩
instance:Inhabited CS:=⟨⟨0,0,0,0⟩⟩
instance:Inhabited Ent:=⟨⟨0,0,0,0,0,0,0,0,0⟩⟩
def inR (n lo hi:Int):Bool:=decide (lo<=n)&&decide (n<=hi)
def zbi (c:Cfg):Bool:=
 inR c.regions 1 4&&inR c.zones.length 1 8&&inR c.cells.length 1 16&&inR c.versions.length 1 30&&inR c.replicas.length 1 5&&inR c.observers.length 1 9&&decide (c.tenants.length<=32)
def Lens (c:Cfg):Prop:=c.zones.length<=maxLen/\c.cells.length<=maxLen/\c.tenants.length<=maxLen/\c.versions.length<=maxLen/\c.replicas.length<=maxLen/\c.observers.length<=maxLen
def zbB (c:Cfg):Bool:=
 c.zones.all (fun z=>inR z 0 (c.regions-1))&&c.cells.all (fun y=>inR y.1 0 (c.zones.length-1))&&c.replicas.all (fun z=>inR z 0 (c.zones.length-1))&&c.observers.all (fun z=>inR z 0 (c.zones.length-1))
def zeR (i:Nat) (v:Int×Int):Bool:=decide (0<=v.1)&&decide (v.1<=v.2)&&decide (v.2<=30)&&(decide (i≠0)||decide (v.1=0))
def zcm (l:List (Int×Int)):Bool:=(List.range l.length).all fun i=>match l[i]? with | some v=>zeR i v | none=>true
def zbV (c:Cfg):Bool:=
 c.cells.all (fun y=>inR y.2 1 4194304)&&zcm c.versions&&(inR c.blast 1 16&&inR c.lease 1 1000&&inR c.bake 0 10000)
def zbo (c:Cfg):Int:=
 if zbi c=false then 2 else if c.replicas.length % 2=0∨zbB c=false∨zbV c=false then 1 else 0
def zll (r:Int):Int:=if r=1 then 2 else if r=2 then 4 else if r=3 then 8 else 16
def zdo (r:Int) (t:Ten):Bool:=
 inR t.load 1 65536&&inR t.shadow 0 t.load&&inR t.prio 0 9&&inR t.lag (-1) 1000&&inR t.allowed 1 (zll r-1)&&inR t.group 0 32
def zdn (c:Cfg):Int:=if zbo c≠0 then zbo c else if c.tenants.all (zdo c.regions) then 0 else 1
/-! Cells,regions,sets. -/
def zcb (c:Cfg) (k:Int):Int:=if 0<=k/\k<c.cells.length then (c.cells.getD k.toNat (0,0)).1 else -1
def zcz (c:Cfg) (z:Int):Int:=if 0<=z/\z<c.zones.length then c.zones.getD z.toNat 0 else -1
def zax (c:Cfg) (k:Int):Int:=zcz c (zcb c k)
def bitB (set i:Int):Bool:=set.toNat.testBit i.toNat
def zc2 (set i:Int):Bool:=decide (0<=i)&&decide (i<62)&&bitB set i
def tenAt (c:Cfg) (i:Int):Ten:=c.tenants.getD i.toNat default
def ze4 (c:Cfg) (t k:Int):Bool:=decide (0<=t)&&decide (t<c.tenants.length)&&zc2 (tenAt c t).allowed (zax c k)
def zco (c:Cfg) (a b:Int):Bool:=decide (0<=zax c a)&&decide (0<=zax c b)&&decide (zax c a≠zax c b)
/-! Entries. -/
def fT (nt k:Int):Int×Int:=if k<=8 then (0,nt-1) else (-1,-1)
def fC (nc k:Int):Int×Int:=if k=1∨k=2∨k=5∨k=6∨k=9∨k=10∨k=11 then (0,nc-1) else if k=4 then (-1,nc-1) else (-1,-1)
def fO (nc nr k:Int):Int×Int:=if k=1 then (-1,nc-1) else if k=13 then (0,nr-1) else (-1,-1)
def fE (k:Int):Int×Int:=if k=2∨k=3 then (1,1048576) else (0,0)
def fW (k:Int):Int×Int:=if k=2 then (0,1073741824) else (0,0)
def fN (nv k:Int):Int×Int:=if k=2∨k=10∨k=11∨k=12 then (0,nv-1) else if k=8∨k=13 then (0,1) else if k=9 then (1,3) else if k=16 then (0,1073741824) else (0,0)
def inS (n:Int) (s:Int×Int):Bool:=inR n s.1 s.2
def zaN (nt nc nr nv:Int) (e:Ent):Bool:=
 inR e.kind 1 16&&inR e.tick 0 1073741824&&inS e.tenant (fT nt e.kind)&&inS e.cell (fC nc e.kind)&&inS e.other (fO nc nr e.kind)&&inS e.epoch (fE e.kind)&&inS e.since (fW e.kind)&&inS e.till (fW e.kind)&&inS e.n (fN nv e.kind)&&(decide (e.kind≠1)||decide (e.other≠e.cell))
def zca (c:Cfg) (e:Ent):Bool:=zaN c.tenants.length c.cells.length c.regions c.versions.length e
/-! States. -/
def St.zero:St:=⟨0,0,[],[],0,0,0,0⟩
def tsNew:TS:=⟨false,false,-1,-1,-1,-1,0,⟨-1,0,0,0,0⟩⟩
def csNew:CS:=⟨1,0,0,0⟩
def zaB (c:Cfg):St:=⟨0,0,List.replicate c.tenants.length tsNew,List.replicate c.cells.length csNew,1,0,0,0⟩
def zaA (s:St) (i:Int):TS:=s.tenants.getD i.toNat default
def zaQ (s:St) (i:Int):CS:=s.cells.getD i.toNat default
def zcj (c:Cfg) (i:Int):Int×Int:=c.versions.getD i.toNat (0,0)
def zc7 (p:Int) (x:CS):Bool:=!zc2 p x.running||!zc2 p x.wanted
def zb2 (c:Cfg) (s:St) (k:Int):Bool:=zc2 s.evac (zax c k)
def zbh (c:Cfg) (a b:Int):Bool:=decide (b≠-1)&&!zco c a b
def zaa (s:St):List Int:=((List.range s.cells.length).filter fun i=>zc7 s.proven (s.cells.getD i default)).map Int.ofNat
def zbL (c:Cfg) (s:St) (e:Ent):Int:=
 if (zaA s e.tenant).placed then 4
 else if (zaQ s e.cell).mode≠1∨(e.other≠-1/\(zaQ s e.other).mode≠1) then 6
 else if zb2 c s e.cell∨(e.other≠-1/\zb2 c s e.other) then 12
 else if ze4 c e.tenant e.cell=false∨(e.other≠-1/\ze4 c e.tenant e.other=false)∨zbh c e.cell e.other then 11 else 0
def ze5 (c:Cfg) (s:St) (e:Ent):Int:=
 let t:=zaA s e.tenant
 let x:=zaQ s e.cell
 if t.placed=false∨(t.shed/\e.cell≠t.standby) then 4
 else if e.cell≠t.home/\e.cell≠t.standby/\e.cell≠t.target then 5
 else if x.mode=3∨(x.mode=2/\e.cell≠t.home) then 6
 else if e.epoch≠t.epoch+1/\¬ (e.cell=t.home/\e.epoch=t.epoch) then 7
 else if e.n≠x.running∨x.running≠x.wanted then 8
 else if e.since<e.tick∨e.tick+c.lease<e.since∨e.till<=e.since∨c.lease<e.till-e.since∨e.since<t.win.till∨(e.cell≠t.home/\e.tick<t.win.till) then 9 else 0
def cutE (s:St) (e:Ent):Int:=
 let t:=zaA s e.tenant
 if t.placed=false then 4 else if e.epoch≠t.epoch then 7 else 0
def zbp (c:Cfg) (s:St) (e:Ent):Int:=
 let t:=zaA s e.tenant
 if t.placed=false then 4 else if e.cell=-1 then 0
 else if e.cell=t.home∨e.cell=t.standby∨e.cell=t.target then 5
 else if (zaQ s e.cell).mode≠1 then 6
 else if zb2 c s e.cell then 12
 else if ze4 c e.tenant e.cell=false∨zbh c e.cell t.home∨zbh c e.cell t.target then 11 else 0
def zcX (s:St) (e:Ent):Int:=
 let t:=zaA s e.tenant
 if t.placed=false then 4 else if e.cell≠t.next then 5 else if (zaQ s e.cell).mode=3 then 6 else 0
def zbC (c:Cfg) (s:St) (e:Ent):Int:=
 let t:=zaA s e.tenant
 if t.placed=false∨t.shed∨t.target≠-1 then 4
 else if e.cell=t.home∨e.cell=t.standby∨e.cell=t.next then 5
 else if (zaQ s e.cell).mode≠1 then 6
 else if zb2 c s e.cell then 12
 else if ze4 c e.tenant e.cell=false∨zbh c e.cell t.standby∨zbh c e.cell t.next then 11 else 0
def zcv (s:St) (e:Ent):Int:=
 let t:=zaA s e.tenant
 if t.placed=false∨t.target=-1 then 4 else 0
def zee (s:St) (e:Ent):Int:=
 let t:=zaA s e.tenant
 if e.n=0 then (if t.shed=false then 4 else if (zaQ s t.home).mode=3 then 6 else 0)
 else if t.placed=false∨t.shed then 4 else if e.tick<t.win.till then 9 else 0
def zhN (s:St) (e:Ent):Int:=if (zaQ s e.cell).mode=e.n then 4 else 0
def zfN (s:St) (k:Int):Nat:=((List.range s.cells.length).filter fun (i:Nat)=>decide ((i:Int)≠k)&&zc7 s.proven (s.cells.getD i default)).length
def zen (c:Cfg) (s:St) (e:Ent):Int:=
 let x:=zaQ s e.cell
 if x.wanted=e.n then 4
 else if s.low<(zcj c e.n).1∨(zcj c e.n).2<s.high then 13
 else if x.running=e.n∨zc2 s.proven e.n then 0
 else if s.evac≠0 then 12
 else if c.blast<=zfN s e.cell then 14 else 0
def zfg (s:St) (e:Ent):Int:=
 let x:=zaQ s e.cell
 if x.wanted≠e.n∨x.running=x.wanted then 4
 else if zc2 s.proven e.n=false/\s.evac≠0 then 12
 else if s.tenants.any (fun t=>decide (t.win.cell=e.cell)&&decide (e.tick<t.win.till)) then 9 else 0
def zcn (c:Cfg) (e:Ent) (x:CS):Bool:=decide (x.mode≠3)&&decide (x.running=e.n)&&decide (x.wanted=e.n)&&decide (c.bake<=e.tick-x.since)
def zf7 (c:Cfg) (s:St) (e:Ent):Int:=if zc2 s.proven e.n then 4 else if s.cells.any (zcn c e) then 0 else 15
def zh1 (s:St) (e:Ent):Int:=if zc2 s.evac e.other=decide (e.n=1) then 4 else 0
def zcG (c:Cfg) (s:St) (x:CS):Bool:=decide ((zcj c x.running).2<=s.high)||decide ((zcj c x.wanted).2<=s.high)
def zcE (c:Cfg) (s:St):Int:=if s.low<s.high then 4 else if 30<=s.high then 2 else if s.cells.any (zcG c s) then 13 else 0
def zcF (s:St):Int:=if s.high=s.low then 4 else 0
def zaD (c:Cfg) (s:St) (e:Ent):Int:=
 if e.kind=1 then zbL c s e else if e.kind=2 then ze5 c s e else if e.kind=3 then cutE s e else if e.kind=4 then zbp c s e
 else if e.kind=5 then zcX s e else if e.kind=6 then zbC c s e else if e.kind=7 then zcv s e else if e.kind=8 then zee s e
 else if e.kind=9 then zhN s e else if e.kind=10 then zen c s e else if e.kind=11 then zfg s e else if e.kind=12 then zf7 c s e
 else if e.kind=13 then zh1 s e else if e.kind=14 then zcE c s else if e.kind=15 then zcF s else 0
def zas (c:Cfg) (s:St) (e:Ent):Int:=
 if zca c e=false then 1 else if 4096<=s.count then 2 else if e.tick<s.tick then 3 else zaD c s e
def cutW (x:Win) (tick:Int):Win:={ x with till:=min x.till (tick+1),since:=min x.since (min x.till (tick+1)) }
def zfb (t:TS) (e:Ent):TS:=
 let t1:TS:={ t with win:=⟨e.cell,e.epoch,e.n,e.since,e.till⟩,epoch:=e.epoch }
 if e.cell=t.home then t1
 else if e.cell=t.standby then { t1 with home:=e.cell,standby:=-1,next:=-1,target:=-1,shed:=false }
 else { t1 with home:=e.cell,target:=-1 }
def zav (t:TS) (e:Ent):TS:=
 if e.kind=1 then { t with placed:=true,home:=e.cell,standby:=e.other }
 else if e.kind=2 then zfb t e
 else if e.kind=3 then { t with win:=cutW t.win e.tick }
 else if e.kind=4 then { t with next:=e.cell }
 else if e.kind=5 then { t with standby:=e.cell,next:=-1 }
 else if e.kind=6 then { t with target:=e.cell }
 else if e.kind=7 then { t with target:=-1 }
 else if e.kind=8 then (if e.n=1 then { t with shed:=true,target:=-1 } else { t with shed:=false })
 else t
def zaR (x:CS) (e:Ent):CS:=
 if e.kind=9 then { x with mode:=e.n,since:=e.tick }
 else if e.kind=10 then { x with wanted:=e.n }
 else if e.kind=11 then { x with running:=e.n,since:=e.tick }
 else x
def zaK (s:St) (i:Int) (t:TS):St:={ s with tenants:=s.tenants.set i.toNat t }
def zbc (s:St) (i:Int) (x:CS):St:={ s with cells:=s.cells.set i.toNat x }
def zeX (set i:Int):Int:=(set.toNat ||| (1 <<< i.toNat):Nat)
def zdf (set i:Int):Int:=(set.toNat ^^^ (1 <<< i.toNat):Nat)
def zai (s:St) (e:Ent):St:={ s with tick:=e.tick,count:=s.count+1 }
def zae (s0:St) (e:Ent):St:=
 let s:=zai s0 e
 if e.kind<=8 then zaK s e.tenant (zav (zaA s0 e.tenant) e)
 else if e.kind<=11 then zbc s e.cell (zaR (zaQ s0 e.cell) e)
 else if e.kind=12 then { s with proven:=zeX s.proven e.n }
 else if e.kind=13 then { s with evac:=zdf s.evac e.other }
 else if e.kind=14 then { s with high:=s.high+1 }
 else if e.kind=15 then { s with low:=s.high }
 else s
/-! The load. -/
def zb5 (l:List Int) (i n:Int):List Int:=if 0<=i/\i<l.length then l.set i.toNat (l.getD i.toNat 0+n) else l
def zd5 (l:List Int) (t:TS) (d:Ten):List Int:=
 if t.placed=false then l
 else zb5 (zb5 (if t.shed then l else zb5 (zb5 l t.home d.load) t.target d.load) t.standby d.shadow) t.next d.shadow
def zb9 (c:Cfg) (s:St):List Int:=(s.tenants.zip c.tenants).foldl (fun l p=>zd5 l p.1 p.2) (List.replicate c.cells.length 0)
def zcr (c:Cfg) (s:St):Bool:=(List.range c.cells.length).any fun i=>decide ((c.cells.getD i (0,0)).2<(zb9 c s).getD i 0)
def over (c:Cfg) (s:St):List Int:=((List.range c.cells.length).filter fun i=>decide ((c.cells.getD i (0,0)).2<(zb9 c s).getD i 0)).map Int.ofNat
def zdH (e:Ent):Bool:=decide (e.kind=1)||decide (e.kind=2)||decide (e.kind=6)||(decide (e.kind=4)&&decide (e.cell≠-1))||(decide (e.kind=8)&&decide (e.n=0))
def zao (c:Cfg) (s:St) (e:Ent):St×Int:=
 if zas c s e≠0 then (St.zero,zas c s e)
 else if zdH e/\zcr c (zae s e) then (St.zero,10) else (zae s e,0)
def zct (e:Ent):Bool:=decide (e.kind=1)||decide (e.kind=2)||decide (e.kind=6)||decide (e.kind=4)||(decide (e.kind=8)&&decide (e.n≠1))
def zaZ (c:Cfg) (s:St) (e:Ent):St×Int:=
 if zas c s e≠0 then (St.zero,zas c s e)
 else if zct e/\zcr c (zae s e) then (St.zero,10) else (zae s e,0)
end Go.Proofs.YtjnndjnpcelafaaGreat

namespace Go.Proofs.YtjnndjnpcelafaaGreat
open Go.RowKit
set_option linter.unusedSimpArgs false
set_option linter.unusedVariables false
theorem getD_some {α:Type} {l:List α} {n:Nat} {z d:α} (h:l[n]?=some z):l.getD n d=z:=by rw[gd_,h];rfl
theorem zf2 {W w1:World} {B:Nat} (hb:Below B W w1):(∀ b o,b<B->w1.cell? ⟨b,o,none⟩=W.cell? ⟨b,o,none⟩)/\(∀ b o,b<B->w1.frozen? ⟨b,o,none⟩=W.frozen? ⟨b,o,none⟩):=
 ⟨fun b o h=>hb.cell (p:=⟨b,o,none⟩) h,fun b o h=>hb.frozen (p:=⟨b,o,none⟩) h⟩
section
variable {w w':World} {x:CfgA} {c:Cfg} {y:StA} {s:St}
theorem CfgOk.allocW (h:CfgOk w (·<w.heap.size) x c) (o:Obj):CfgOk (w.alloc o) (·<(w.alloc o).heap.size) x c:=
 (h.keep fun k hk=>Below.heap_alloc _ _ _ hk).more fun b hb=>by simp;omega
theorem CfgOk.belowW (h:CfgOk w (·<w.heap.size) x c) (hb:Below w.heap.size w w'):CfgOk w' (·<w'.heap.size) x c:=
 (h.keep fun k hk=>hb.block k hk).more fun b hk=>Nat.lt_of_lt_of_le hk hb.size
theorem StOk.allocW (h:StOk w (·<w.heap.size) y s) (o:Obj):StOk (w.alloc o) (·<(w.alloc o).heap.size) y s:=
 (h.keep fun k hk=>Below.heap_alloc _ _ _ hk).more fun b hb=>by simp;omega
theorem StOk.belowW (h:StOk w (·<w.heap.size) y s) (hb:Below w.heap.size w w'):StOk w' (·<w'.heap.size) y s:=
 (h.keep fun k hk=>hb.block k hk).more fun b hk=>Nat.lt_of_lt_of_le hk hb.size
end
structure CfgV (c:Cfg):Prop where
 reg:1<=c.regions/\c.regions<=4
 nz:1<=c.zones.length/\c.zones.length<=8
 nc:1<=c.cells.length/\c.cells.length<=16
 nt:c.tenants.length<=32
 nv:1<=c.versions.length/\c.versions.length<=30
 zone:∀ y ∈ c.cells,0<=y.1/\y.1<c.zones.length
 capy:∀ y ∈ c.cells,1<=y.2/\y.2<=4194304
 region:∀ z ∈ c.zones,0<=z/\z<c.regions
 ten:∀ t ∈ c.tenants,zdo c.regions t=true
 ver:∀ k v,c.versions[k]?=some v->zeR k v=true
 blast:1<=c.blast/\c.blast<=16
 lease:1<=c.lease/\c.lease<=1000
 bake:0<=c.bake/\c.bake<=10000
theorem zg3 {c:Cfg} (h:zdn c=0):CfgV c:=by
 have h1:zbo c=0:=by
  unfold zdn at h;split at h
  ·exact h
  ·rename_i hh;exact Classical.not_not.1 hh
 have h2:c.tenants.all (zdo c.regions)=true:=by
  unfold zdn at h;rw[if_neg (by simp[h1])] at h;split at h
  ·assumption
  ·omega
 have h3:zbi c=true:=by
  unfold zbo at h1;split at h1
  ·omega
  ·rename_i hh;simpa using hh
 have h4:zbB c=true/\zbV c=true:=by
  unfold zbo at h1;rw[if_neg (by simp[h3])] at h1;split at h1
  ·omega
  ·rename_i hh
   refine⟨?_,?_⟩
   ·cases hp:zbB c with
    | true=>rfl
    | false=>exact absurd (.inr (.inl hp)) hh
   ·cases hp:zbV c with
    | true=>rfl
    | false=>exact absurd (.inr (.inr hp)) hh
 obtain⟨h5,h6⟩:=h4;simp only[zbB,Bool.and_eq_true,List.all_eq_true] at h5;simp only[zbV,Bool.and_eq_true,List.all_eq_true,zcm] at h6;simp[zbi,inR] at h3;refine⟨o_,o_,o_,o_,o_,fun y hy=>?_,fun y hy=>?_,fun z hz=>?_,fun t ht=>List.all_eq_true.1 h2 t ht,fun k v hv=>?_,?_,?_,?_⟩
 ·have:=h5.1.1.2 y hy;simp[inR] at this;omega
 ·have:=h6.1.1 y hy;simp[inR] at this;omega
 ·have:=h5.1.1.1 z hz;simp[inR] at this;omega
 ·have:=h6.1.2 k (List.mem_range.2 (List.getElem?_eq_some_iff.1 hv).1);rwa[hv] at this
 ·have:=h6.2.1.1;simp[inR] at this;omega
 ·have:=h6.2.1.2;simp[inR] at this;omega
 ·have:=h6.2.2;simp[inR] at this;omega
theorem bit_div (set i:Int) (h0:0<=set) (hi:0<=i):((set / 2 ^ i.toNat).tmod 2 != 0)=bitB set i:=by
 obtain⟨n,rfl⟩:=Int.eq_ofNat_of_zero_le h0;unfold bitB;rw[Nat.testBit_eq_decide_div_mod_eq];have e:((n:Int) / 2 ^ i.toNat)=((n / 2 ^ i.toNat:Nat):Int):=by
  rw[Int.natCast_ediv];simp
 have e2:(((n / 2 ^ i.toNat:Nat):Int)).tmod 2=((n / 2 ^ i.toNat % 2:Nat):Int):=(Int.ofNat_tmod (n / 2 ^ i.toNat) 2).symm;rw[e,e2,Int.toNat_natCast];have:(n / 2 ^ i.toNat) % 2=0∨(n / 2 ^ i.toNat) % 2=1:=by omega
 rcases this with h | h
 ·simp[h]
 ·simp[h]
theorem ziP (v n:Int):(v.tmod n+n) % n=v % n:=by
 have h:=Int.mul_tdiv_add_tmod v n;have h2:(v.tmod n+n) % n=(v.tmod n) % n:=by simp
 rw[h2];conv=>rhs;rw[← h]
 rw[Int.mul_add_emod_self_left]
theorem zhO (v n:Int) (w:World) (hn:1<=n) (hn2:n<=2147483648) :
  Calls Tryz.prog 13 #[.int .i64 v,.int .i64 n] w fun e w'=>e=.returned (.int .i64 (v % n))/\w=w':=by
 have hne:(n==0)=false:=by simp;omega
 have h1:v.tmod n<n:=Int.tmod_lt_of_pos _ o_;have h2:-n<v.tmod n:=Int.lt_tmod_of_pos _ o_;have H:=Lib.hid (ziP v n);go_enter Tryz.func13,Tryz.ntmps13;go_wp2;go_ret;exact⟨zah H.out,rfl⟩
theorem zgS (v lo hi:Int) (w:World) (hn:lo<=hi) (h1:-1000000<=lo) (h2:hi<=1000000) :
  Calls Tryz.prog 30 #[.int .i64 v,.int .i64 lo,.int .i64 hi] w fun e w'=>(∃ r,lo<=r/\r<=hi/\r=lo+v % (hi-lo+1)/\e=.returned (.int .i64 r))/\w=w':=by
 have H1:=Lib.hid (Int.emod_nonneg v (b:=hi-lo+1) o_);have H2:=Lib.hid (Int.emod_lt_of_pos v (b:=hi-lo+1) o_);have h3:=H1.out;have h4:=H2.out;go_enter Tryz.func30,Tryz.ntmps30;go_wp2_with (go_at_call 13;refine (zhO _ _ _ o_ o_).mono ?_;rintro e w' ⟨rfl,rfl⟩);go_ret;exact⟨⟨_,o_,o_,rfl,rfl⟩,rfl⟩
def nextV (zs:List Int) (k:Nat) (n:Int):Int:=if zs=[] then 0 else ((zs.getD (k % zs.length) 0) % 1073741824+(k / zs.length:Nat) * 7) % n
def nextK (zs:List Int) (k:Nat):Nat:=if zs=[] then k else k+1
structure TapeAt (w:World) (g:Nat) (A:Option Addr) (cap:Nat) (zs:List Int) (k:Nat):Prop where
 short:zs.length<=400
 row:Rd w (·<g) A (zs.map (Value.int .i64))
 blk:Blk w g 144 #[.slice A zs.length cap,.int .i64 k]
section
variable {w w':World} {g:Nat} {A:Option Addr} {cap:Nat} {zs:List Int} {k:Nat}
theorem TapeAt.drewN (h:TapeAt w g A cap zs k) (n:Nat):TapeAt (w.drewN n) g A cap zs k:=⟨h.short,h.row,h.blk⟩
theorem TapeAt.lt (h:TapeAt w g A cap zs k):g<w.heap.size:=h.blk.lt
theorem TapeAt.keep (h:TapeAt w g A cap zs k) (hb:∀ k,k<g+1->w'.heap[k]?=w.heap[k]?):TapeAt w' g A cap zs k:=
 ⟨h.short,h.row.keep fun k hk=>hb k (Nat.lt_succ_of_lt hk),(hb g o_).trans h.blk⟩
theorem TapeAt.grown (h:TapeAt w g A cap zs k) {row:Option Nat} (hg:w.grownBy w' row) (hr:∀ k,row=some k->g<k):TapeAt w' g A cap zs k:=
 h.keep fun k hk=>hg.block k (by have:=h.lt;omega) (fun e=>by have:=hr k e.symm;omega)
theorem TapeAt.below (h:TapeAt w g A cap zs k) {B:Nat} (hb:Below B w w') (hB:g<B):TapeAt w' g A cap zs k:=h.keep fun k hk=>hb.block k o_
theorem TapeAt.alloc (h:TapeAt w g A cap zs k) (o:Obj):TapeAt (w.alloc o) g A cap zs k:=h.keep fun k hk=>Below.heap_alloc _ _ _ (by have:=h.lt;omega)
end
structure NextIs (n:Int) (zs:List Int) (k:Nat) (r:Int) (k':Nat):Prop where
 lo:0<=r
 hi:r<n
 le:k<=k'
 most:k'<=k+1
 more:0<zs.length->k<k'
 val:Hid (r=nextV zs k n/\k'=nextK zs k)
theorem zkH (A:Option Addr) (cap:Nat) (zs:List Int) (w:World) (hs:zs.length<=400) (hr:Rd w (·<w.heap.size) A (zs.map (Value.int .i64))) :
  Calls Tryz.prog 29 #[.slice A zs.length cap] w fun e w'=>e=.returned (.pointer (some ⟨w.heap.size,0,none⟩))/\TapeAt w' w.heap.size A cap zs 0/\Below w.heap.size w w':=by
 have HR:=Lib.hid hr;clear hr;go_enter Tryz.func29,Tryz.ntmps29;go_wp2;go_ret;exact⟨rfl,⟨hs,HR.out.alloc _,Blk.new _ _ _⟩,(Below.refl _ _).alloc nl_ _⟩
/-! The types of the program. -/
abbrev zi:Value:=.int .i64 0
abbrev zb:Value:=.bool false
abbrev zs0:Value:=.slice none 0 0
def tiInt:TI:={ size:=1,agg:=false,zero:=[zi] }
def tiBool:TI:={ size:=1,agg:=false,zero:=[zb],isB:=true }
def zgm (n:Nat) (elt:Nat:=0) (eb:Nat:=0):TI:={ size:=1,agg:=false,zero:=[zs0],esz:=n,sl:=true,elt:=elt,eb:=eb }
def zbE (zero:List Value) (offs fszs fagg:List Nat) (eqk:List CK:=[]):TI:={ size:=zero.length,agg:=true,zero:=zero,offs:=offs,fszs:=fszs,fagg:=fagg,eqk:=eqk }
abbrev ki:CK:=.i .i64
def tt:TT:=[
 (3,tiInt),(4,tiBool),(39,tiInt),
 (22,zgm 1 3 8),(25,zgm 1 93 8),(26,zgm 2 95 16),(27,zgm 7 98 56),(28,zgm 2 100 16),(34,zgm 12 55 88),(35,zgm 4 103 32),(32,zgm 9 43 72),
 (30,zbE [zi,zs0,zs0,zs0,zs0,zs0,zs0,zi,zi,zi] [0,1,2,3,4,5,6,7,8,9] [1,1,1,1,1,1,1,1,1,1] [1,1,1,1,1,1,1,1,1,1]),
 (37,zbE [zi,zi,zs0,zs0,zi,zi,zi,zi] [0,1,2,3,4,5,6,7] [1,1,1,1,1,1,1,1] [1,1,1,1,1,1,1,1]),
 (43,zbE [zi,zi,zi,zi,zi,zi,zi,zi,zi] [0,1,2,3,4,5,6,7,8] [1,1,1,1,1,1,1,1,1] [1,1,1,1,1,1,1,1,1] [ki,ki,ki,ki,ki,ki,ki,ki,ki]),
 (53,zbE [zi,zi,zi,zi,zi] [0,1,2,3,4] [1,1,1,1,1] [1,1,1,1,1] [ki,ki,ki,ki,ki]),
 (55,zbE [zb,zb,zi,zi,zi,zi,zi,zi,zi,zi,zi,zi] [0,1,2,3,4,5,6,7] [1,1,1,1,1,1,1,5] [1,1,1,1,1,1,1,2] [.b,.b,ki,ki,ki,ki,ki,ki,ki,ki,ki,ki]),
 (103,zbE [zi,zi,zi,zi] [0,1,2,3] [1,1,1,1] [1,1,1,1] [ki,ki,ki,ki]),
 (93,zbE [zi] [0] [1] [1]),(95,zbE [zi,zi] [0,1] [1,1] [1,1]),(100,zbE [zi,zi] [0,1] [1,1] [1,1]),
 (98,zbE [zi,zi,zi,zi,zi,zi,zb] [0,1,2,3,4,5,6] [1,1,1,1,1,1,1] [1,1,1,1,1,1,1]),
 (144,zbE [zs0,zi] [0,1] [1,1] [1,1])]
theorem zgl (P:Program) (τ:TT) (h:∀ p ∈ τ,TIok P p.1 p.2):zcl P τ:=fun t ti hl=>h (t,ti) (zaO hl)
theorem zeS {P:Program} {t:TypeId} {ti:TI} {r:TT} (h:TIok P t ti) (hr:∀ p ∈ r,TIok P p.1 p.2):∀ p ∈ (t,ti)::r,TIok P p.1 p.2:=fun p hp=>by
 rcases List.mem_cons.1 hp with rfl | hp
 ·exact h
 ·exact hr p hp
theorem zgk {P:Program}:∀ p ∈ ([]:TT),TIok P p.1 p.2:=fun p hp=>absurd hp (List.not_mem_nil)
theorem zgr {l:List Value} (h:l.all (fun v=>match v with | .pointer (some _)=>false | .slice (some _) _ _=>false | .map (some _)=>false | _=>true)=true):∀ v ∈ l,zam v:=fun v hv=>by
 have:=List.all_eq_true.1 h v hv;cases v with
 | pointer p=>cases p<;>simp_all [zam]
 | slice p n c=>cases p<;>simp_all [zam]
 | map p=>cases p<;>simp_all [zam]
 | _=>trivial
theorem zg6:zcl Tryz.prog tt:=by
 refine zgl _ _ ?_;unfold tt;repeat (refine zeS ⟨k_,k_,zgr (by rfl),k_,k_,k_⟩ ?_)
 exact zgk
theorem mixed:(Tryz.prog).follows .mixedOrders=true:=by kernel_rfl
section
variable {P:Program} {C:Ctx} {ρ ρ':Nat->Pl} {fr:AF} {mem mem':AM} {nx nx':Nat} {a:Act} {w w':World}
def Ctx.of (w:World) (ρ:Nat->Pl) (nx:Nat) (bn:List Nat) (nt:Nat):Ctx:={ w0:=w,bor:=bn.filterMap (bno ρ),n0:=nx,ρ0:=ρ,nt:=nt }
def noXB:AM->Bool
 | []=>true
 | (_,.ext _)::_=>false
 | _::r=>noXB r
theorem ziO:∀ {m:AM},noXB m=true->∀ i e,lk m i≠some (.ext e)
 | [],_,i,e,h=>by simp[lk] at h
 | (k,.ext _)::r,hx,i,e,h=>by cases hx
 | (k,.row _ _ _ _)::r,hx,i,e,h=>by
  rcases za5 h with⟨_,q⟩ | ⟨_,q⟩
  ·cases q
  ·exact ziO (m:=r) hx i e q
 | (k,.box _ _)::r,hx,i,e,h=>by
  rcases za5 h with⟨_,q⟩ | ⟨_,q⟩
  ·cases q
  ·exact ziO (m:=r) hx i e q
theorem Sat.after (h:Sat C ρ fr mem nx a w) {bn:List Nat} {nt:Nat} (hm:MemAt (Ctx.of w ρ nx bn nt) ρ' mem' nx' w') (hbn:∀ i ∈ bn,∃ t cs,lk mem i=some (.box t cs)) {keep:AM}
  (hk:∀ i b,lk keep i=some b->lk mem' i=some b/\(i ∈ bn∨nx<=i)) (hall:∀ i ∈ bn,∃ t cs,lk keep i=some (.box t cs))
  (hfresh:∀ i t sz n el,nx<=i->lk keep i=some (.row t sz n el)->n=0∨∃ b off,(ρ' i).A=some ⟨b,off,none⟩/\w.heap.size<=b) (hkx:∀ i e,lk keep i≠some (.ext e):=by exact ziO rfl):Sat C ρ' fr (keep++mem) nx' a w':=by
 have hlow:∀ i,i<nx->ρ' i=ρ i:=fun i hi=>hm.low i hi
 have hnx:nx<=nx':=hm.n0;have hsz:w.heap.size<=w'.heap.size:=hm.rest.size;-- blocks that are not handed over
 have hstay:∀ b,b<w.heap.size->(∀ i ∈ bn,bno ρ i≠some b)->w'.heap[b]?=w.heap[b]?:=fun b hlt hn=>hm.rest.block b hlt (by
  intro hmem
  obtain⟨i,hi,he⟩:=List.mem_filterMap.1 hmem
  exact hn i hi he)
 have hbnlk:∀ i ∈ bn,∃ t cs,lk (mem++C.fm) i=some (.box t cs):=fun i hi=>by obtain⟨t,cs,e⟩:=hbn i hi;exact⟨t,cs,za9 e⟩
 have hok:∀ b,(Ctx.of w ρ nx bn nt).ok b->C.ok b:=fun b hb=>hb.elim (fun q=>.inl (Nat.le_trans h.rest.size q)) fun q=>by
  obtain⟨i,hi,he⟩:=List.mem_filterMap.1 q;obtain⟨t,cs,hl⟩:=hbnlk i hi;obtain⟨g,f1,-,f3,-⟩:=h.blk i _ hl;have:g=b:=by simpa [bno,f1] using he
  exact this ▸ f3
 -- an old block
 have hold:∀ i b,lk keep i=none->lk (mem++C.fm) i=some b->BlkOk C ρ' nx' i w' b:=by
  intro i b hkn hi;have hlt:=(h.mlt i b hi).1;have hnb:i ∉ bn:=fun hib=>by obtain⟨t,cs,e⟩:=hall i hib;rw[hkn] at e;cases e
  have hb:=((h.blk i b hi).ren (ρ':=ρ') (m:=nx') (hlow i hlt) (fun j hj _=>hlow j hj) hnx);refine hb.far hsz fun g hg=>?_
  rw[zbX (hlow i hlt)] at hg;refine hstay g ((h.blk i b hi).brd_lt hg) fun j hj he=>?_
  obtain⟨t2,cs2,hj2⟩:=hbnlk j hj;have hne:j≠i:=fun q=>hnb (q ▸ hj)
  exact (h.sep j i _ _ hne hj2 hi).wr (h.sep i j _ _ (Ne.symm hne) hi hj2) (show bwr ρ j (.box t2 cs2) g from he) hg
 -- a kept block
 have hkeep:∀ i b,lk keep i=some b->BlkOk C ρ' nx' i w' b:=by
  intro i b hi;obtain⟨hi',hor⟩:=hk i b hi;have hb:=hm.blk i b hi';cases b with
  | ext e=>exact absurd hi (hkx i e)
  | row t sz n el=>
   obtain⟨e1,e2,e3⟩:=hb;refine⟨e1,e2,e3.imp id ?_⟩;rintro⟨b,off,hA,hat,hc⟩;exact⟨b,off,hA,⟨hat.lt,fun ho=>by obtain⟨q1,q2,q3⟩:=hat.own ho;exact⟨q1,hok _ q2,q3⟩,fun hf=>hok _ (hat.new hf)⟩,hc⟩
  | box t cs=>
   obtain⟨g,e1,e2,e3,e4⟩:=hb;refine⟨g,e1,e2,?_,e4⟩;by_cases hib:i ∈ bn
   ·obtain⟨t2,cs2,hi2⟩:=hbnlk i hib;obtain⟨g2,f1,-,f3,-⟩:=h.blk i _ hi2;rw[hlow i (h.mlt i _ hi2).1,f1] at e1;cases e1
    exact f3
   ·rcases e3 with e3 | e3
    ·exact .inl (Nat.le_trans h.rest.size e3)
    ·obtain⟨j,hj,he⟩:=List.mem_filterMap.1 e3;obtain⟨t3,cs3,hj3⟩:=hall j hj;have:=hm.sep i j _ _ (fun q=>hib (q ▸ hj)) hi' (hk j _ hj3).1;simp only[Apart] at this;obtain⟨t2,cs2,hj2⟩:=hbnlk j hj;exact absurd (by rw[bno,bno,e1,hlow j (h.mlt j _ hj2).1];rw[bno] at he;rw[he];rfl) this
 have hlk:∀ i b,lk (keep++mem++C.fm) i=some b->lk keep i=some b∨(lk keep i=none/\lk (mem++C.fm) i=some b):=by
  intro i b hi;rw[List.append_assoc] at hi;cases hki:lk keep i with
  | some c=>rw[za9 hki] at hi;exact .inl hi
  | none=>rw[zbd hki] at hi;exact .inr ⟨rfl,hi⟩
 -- a kept block and an old one
 have hmix:∀ i j b b',lk keep i=some b->lk keep j=none->lk (mem++C.fm) j=some b'->Apart ρ' i j b b'/\Apart ρ' j i b' b:=by
  intro i j b b' hi hjn hj;obtain⟨hi',hor⟩:=hk i b hi;have hjlt:=(h.mlt j b' hj).1;have hjb:j ∉ bn:=fun q=>by obtain⟨t,cs,e⟩:=hall j q;rw[hjn] at e;cases e
  have hij:i≠j:=by rintro rfl;rw[hjn] at hi;cases hi
  have er:=zbX (ρ':=ρ') (ρ:=ρ) (hlow j hjlt) b';have ew:=zdG (ρ':=ρ') (ρ:=ρ) (hlow j hjlt) b';by_cases hib:i ∈ bn
  ·obtain⟨t2,cs2,hi2⟩:=hbnlk i hib;obtain⟨t3,cs3,hi3⟩:=hall i hib;rw[hi] at hi3;cases hi3
   have ei:bno ρ' i=bno ρ i:=by unfold bno;rw[hlow i (h.mlt i _ hi2).1]
   have a1:=h.sep i j _ _ hij hi2 hj;have a2:=h.sep j i _ _ (Ne.symm hij) hj hi2;refine⟨(hkeep i _ hi).apart fun g hg hg2=>?_,(hold j b' hjn hj).apart fun g hg hg2=>?_⟩
   ·rw[er] at hg2;exact a1.wr a2 (show bno ρ i=some g from ei.symm.trans hg) hg2
   ·rw[ew] at hg;exact a2.wr a1 hg (show bno ρ i=some g from ei.symm.trans hg2)
  ·have hnxi:nx<=i:=hor.resolve_left hib;-- the block of i is new
   have hnew:∀ g,brd ρ' i b g->w.heap.size<=g:=by
    intro g hg;cases b with
    | ext e=>exact absurd hi (hkx i e)
    | row t sz n el=>
     rcases hfresh i t sz n el hnxi hi with h0 | ⟨bb,off,hA,hle⟩
     ·exact absurd h0 hg.1
     ·have:=hg.2;simp[bno,hA] at this;omega
    | box t cs=>
     obtain⟨g',e1,e2,e3,e4⟩:=hm.blk i _ hi';have hg':bno ρ' i=some g:=hg;have hgg:g'=g:=by simp[bno,e1] at hg';exact hg'
     subst hgg;rcases e3 with e3 | e3
     ·exact e3
     ·obtain⟨q,hq,he⟩:=List.mem_filterMap.1 e3;obtain⟨t3,cs3,hq3⟩:=hall q hq;have:=hm.sep i q _ _ (fun z=>hib (z ▸ hq)) hi' (hk q _ hq3).1;simp only[Apart] at this;obtain⟨t2,cs2,hq2⟩:=hbnlk q hq;exact absurd (by rw[hg',← he];unfold bno;rw[hlow q (h.mlt q _ hq2).1]) this
   have holdlt:∀ g,brd ρ' j b' g->g<w.heap.size:=fun g hg=>(h.blk j b' hj).brd_lt (er ▸ hg)
   exact⟨(hkeep i _ hi).apart fun g hg hg2=>by have:=hnew g (zbm hg);have:=holdlt g hg2;omega,(hold j b' hjn hj).apart fun g hg hg2=>by have:=hnew g hg2;have:=holdlt g (zbm hg);omega⟩
 refine⟨⟨fun t v hv=>?_,fun t v hv=>zc9 (fun j hj _=>hlow j hj) hnx (h.fok.frk t v hv)⟩,h.sz,h.dfr,fun i b hi=>?_,fun i b hi=>?_,fun i j b b' hne hi hj=>?_,Nat.le_trans h.n0 hnx,fun i hi=>(hlow i (Nat.lt_of_lt_of_le hi h.n0)).trans (h.low i hi),?_⟩
 ·rw[zbQ (fun j hj _=>hlow j hj) (h.fok.frk t v hv)];exact h.fok.frm t v hv
 ·rcases hlk i b hi with hi | ⟨hn,hi⟩
  ·exact hm.mlt i b (hk i b hi).1
  ·exact⟨Nat.lt_of_lt_of_le (h.mlt i b hi).1 hnx,by rw[hlow i (h.mlt i b hi).1];exact (h.mlt i b hi).2⟩
 ·rcases hlk i b hi with hi | ⟨hn,hi⟩
  ·exact hkeep i b hi
  ·exact hold i b hn hi
 ·rcases hlk i b hi with hi | ⟨hn,hi⟩
  ·rcases hlk j b' hj with hj | ⟨hm2,hj⟩
   ·exact hm.sep i j b b' hne (hk i b hi).1 (hk j b' hj).1
   ·exact (hmix i j b b' hi hm2 hj).1
  ·rcases hlk j b' hj with hj | ⟨hm2,hj⟩
   ·exact (hmix j i b' b hj hn hi).2
   ·exact (h.sep i j b b' hne hi hj).ren (hlow i (h.mlt i b hi).1) (hlow j (h.mlt j b' hj).1)
 ·refine⟨hm.rest.os.trans h.rest.os,hm.rest.tape.trans h.rest.tape,hm.rest.output.trans h.rest.output,Nat.le_trans h.rest.size hsz,fun b hlt hnb=>?_⟩;refine (hstay b (Nat.lt_of_lt_of_le hlt h.rest.size) fun i hi he=>?_).trans (h.rest.block b hlt hnb);obtain⟨t,cs,e⟩:=hbnlk i hi;obtain⟨g,e1,-,e3,-⟩:=h.blk i _ e;simp[bno,e1] at he;subst he;rcases e3 with e3 | e3
  ·omega
  ·exact hnb e3
end
section
variable {P:Program} {C:Ctx} {ρ ρ':Nat->Pl} {fr:AF} {mem mem':AM} {nx nx':Nat} {a:Act} {w w':World}
theorem zbD {α:Type} {l:List α} {k:Nat} {d:α} (h:k<l.length):l[k]?=some (l.getD k d):=by rw[gd_,List.getElem?_eq_getElem h];rfl
theorem zaL {α:Type} {enc:α->List Value} {sz:Nat} (hs:∀ x,(enc x).length=sz) (hpos:0<sz) (hpl:∀ x,∀ v ∈ enc x,zam v) {l:List α} (d:α) {i:Nat} {t:TypeId} {A:Option Addr} {S:Nat->Prop}
  (hρ:ρ i=⟨A,sz,l.length,false,za4⟩) (h:Rd w S A (zaJ enc l)) (hS:∀ b,S b->b<w.heap.size) (ht:zc1 t=false:=by first | rfl | assumption) (hfr:frT t=true->∀ b,S b->C.w0.heap.size<=b:=by intro h;exact absurd h d_):BlkOk C ρ nx i w (.row t sz l.length (fun k=>enc (l.getD k d))):=by
 refine⟨by rw[hρ];exact⟨rfl,rfl⟩,fun k _=>⟨hs _,fun v hv=>hpl _ v hv⟩,?_⟩;by_cases h0:l.length=0
 ·exact .inl h0
 ·obtain⟨b,off,x,hA,hb,_,_⟩:=h.row hs hpos (k:=0) o_;refine .inr ⟨b,off,by rw[hρ];exact hA,⟨hS b hb,fun ho=>(by rw[ht] at ho;cases ho),fun hf=>.inl (hfr hf b hb)⟩,fun k hk j v hv=>?_⟩;obtain⟨b2,off2,x2,hA2,_,hx2,hc2⟩:=h.row hs hpos hk;rw[hA] at hA2;cases hA2
  rw[zbD hk (d:=d)] at hx2;cases hx2
  exact hc2 j v hv
theorem zgZ {α:Type} {enc:α->List Value} {sz:Nat} (hs:∀ x,(enc x).length=sz) (hpos:0<sz):∀ (l:List α) (j:Nat) (v:Value),(zaJ enc l)[j]?=some v->∃ x,l[j / sz]?=some x/\(enc x)[j % sz]?=some v
 | [],j,v,h=>by simp[zaJ] at h
 | a::l,j,v,h=>by
  simp only[zaJ,List.flatMap_cons] at h
  by_cases hj:j<sz
  ·rw[List.getElem?_append_left (by rw[hs];exact hj)] at h
   exact⟨a,by simp[Nat.div_eq_of_lt hj],by rw[Nat.mod_eq_of_lt hj];exact h⟩
  ·rw[List.getElem?_append_right (by rw[hs];omega),hs] at h
   obtain⟨x,h1,h2⟩:=zgZ hs hpos l (j-sz) v h
   have e1:j / sz=(j-sz) / sz+1:=by
    have:j=(j-sz)+sz:=by omega
    conv=>lhs;rw[this]
    rw[Nat.add_div_right _ hpos]
   have e2:j % sz=(j-sz) % sz:=by
    have:j=(j-sz)+sz:=by omega
    conv=>lhs;rw[this]
    rw[Nat.add_mod_right]
   exact⟨x,by rw[e1];simpa using h1,by rw[e2];exact h2⟩
theorem zex {α:Type} {enc:α->List Value} {sz:Nat} (hs:∀ x,(enc x).length=sz) (hpos:0<sz) {l:List α} {d:α} {i:Nat} {t:TypeId} (h:BlkOk C ρ nx i w (.row t sz l.length (fun k=>enc (l.getD k d)))) {S:Nat->Prop} (hS:l.length≠0->∀ b off,(ρ i).A=some ⟨b,off,none⟩->b<w.heap.size->S b) :
  Rd w S (ρ i).A (zaJ enc l):=by
 obtain⟨-,-,h3⟩:=h;intro hne;have hl:l.length≠0:=by
  intro h0;rw[List.eq_nil_of_length_eq_zero h0] at hne;exact hne rfl
 rcases h3 with h0 | ⟨b,off,hA,hlt,hc⟩
 ·exact absurd h0 hl
 ·refine⟨b,off,hA,hS hl b off hA hlt.lt,fun j v hv=>?_⟩;obtain⟨x,h1,h2⟩:=zgZ hs hpos l j v hv;have hk:j / sz<l.length:=(List.getElem?_eq_some_iff.1 h1).1;have hx:l.getD (j / sz) d=x:=by rw[gd_,h1];rfl
  have:=hc (j / sz) hk (j % sz) v (by show (enc (l.getD (j / sz) d))[j % sz]?=some v;rw[hx];exact h2);rw[← this];congr 2
  have:=Nat.div_add_mod j sz;rw[Nat.mul_comm] at this;omega
def zdj:AM->Prop
 | []=>True
 | (_,.row t _ _ _)::r=>(match zc1 t with | false=>zdj r | true=>False)
 | (_,.box _ _)::_=>False
 | (_,.ext _)::_=>False
theorem zeN:∀ {mem:AM},zdj mem->∀ i e,lk mem i≠some (.ext e)
 | [],_,i,e,h=>by simp[lk] at h
 | (k,.row t2 _ _ _)::r,hr,i,e,h=>by
  rcases za5 h with⟨_,q⟩ | ⟨_,q⟩
  ·cases q
  ·simp only[zdj] at hr
   cases ho:zc1 t2 with
   | true=>rw[ho] at hr;exact hr.elim
   | false=>rw[ho] at hr;exact zeN (mem:=r) hr i e q
 | (k,.box _ _)::r,hr,i,e,h=>hr.elim
 | (k,.ext _)::r,hr,i,e,h=>hr.elim
theorem zdW:∀ {mem:AM},zdj mem->∀ i t cs,lk mem i≠some (.box t cs)
 | [],_,i,t,cs,h=>by simp[lk] at h
 | (k,.row t2 _ _ _)::r,hr,i,t,cs,h=>by
  rcases za5 h with⟨_,q⟩ | ⟨_,q⟩
  ·cases q
  ·simp only[zdj] at hr
   cases ho:zc1 t2 with
   | true=>rw[ho] at hr;exact hr.elim
   | false=>rw[ho] at hr;exact zdW (mem:=r) hr i t cs q
 | (k,.box _ _)::r,hr,i,t,cs,h=>hr.elim
 | (k,.ext _)::r,hr,i,t,cs,h=>hr.elim
theorem zdi:∀ {mem:AM},zdj mem->∀ i t sz n el,lk mem i=some (.row t sz n el)->zc1 t=false
 | [],_,i,t,sz,n,el,h=>by simp[lk] at h
 | (k,.row t2 _ _ _)::r,hr,i,t,sz,n,el,h=>by
  simp only[zdj] at hr
  cases ho:zc1 t2 with
  | true=>rw[ho] at hr;exact hr.elim
  | false=>
   rw[ho] at hr
   rcases za5 h with⟨_,q⟩ | ⟨_,q⟩
   ·cases q;exact ho
   ·exact zdi (mem:=r) hr i t sz n el q
 | (k,.box _ _)::r,hr,i,t,sz,n,el,h=>hr.elim
 | (k,.ext _)::r,hr,i,t,sz,n,el,h=>hr.elim
def zdI (C:Ctx) (ρ:Nat->Pl) (nx:Nat) (w:World):AM->Prop
 | []=>True
 | (i,b)::r=>(i<nx/\(ρ i).res=false/\BlkOk C ρ nx i w b)/\zdI C ρ nx w r
theorem zbv:∀ {mem:AM},zdI C ρ nx w mem->∀ i b,lk mem i=some b->i<nx/\(ρ i).res=false/\BlkOk C ρ nx i w b
 | [],_,i,b,h=>by simp[lk] at h
 | (k,c)::r,hr,i,b,h=>by
  rcases za5 h with⟨rfl,rfl⟩ | ⟨_,q⟩
  ·exact hr.1
  ·exact zbv hr.2 i b q
theorem MemAt.rows {nt:Nat} (hr:zdj mem) (hb:zdI { w0:=w,bor:=[],n0:=nx,ρ0:=ρ,nt:=nt } ρ nx w mem):MemAt { w0:=w,bor:=[],n0:=nx,ρ0:=ρ,nt:=nt } ρ mem nx w:=
 ⟨fun i b hi=>⟨(zbv hb i b hi).1,(zbv hb i b hi).2.1⟩,fun i b hi=>(zbv hb i b hi).2.2,fun i j b b' hne hi hj=>by
  refine (zbv hb i b hi).2.2.apart fun g hg=>?_
  cases b with
  | ext e=>exact absurd hi (zeN hr i e)
  | row t sz n el=>have ho:=hg.1;rw[zdi hr i t sz n el hi] at ho;cases ho
  | box t cs=>exact absurd hi (zdW hr i t cs),nl_,fun _ _=>rfl,⟨rfl,rfl,rfl,nl_,fun _ _ _=>rfl⟩⟩
def zjl:AM->Prop
 | []=>True
 | (_,.row t _ _ _)::r=>(match zc1 t with | false=>zjl r | true=>False)
 | (_,.ext (.deep t _ _ _ _ _))::r=>(match zc1 t with | false=>zjl r | true=>False)
 | (_,.ext (.fam _ _))::r=>zjl r
 | (_,.ext (.map _ _ _))::_=>False
 | (_,.ext (.obj _ _))::_=>False
 | (_,.box _ _)::_=>False
theorem zfr:∀ {mem:AM},zjl mem->∀ i b,lk mem i=some b->∀ (ρ:Nat->Pl) (j g:Nat),¬ bwr ρ j b g
 | [],_,i,b,h=>by simp[lk] at h
 | (k,.row t2 _ _ _)::r,hr,i,b,h=>by
  simp only[zjl] at hr
  cases ho:zc1 t2 with
  | true=>rw[ho] at hr;exact hr.elim
  | false=>
   rw[ho] at hr
   rcases za5 h with⟨_,q⟩ | ⟨_,q⟩
   ·subst q;intro ρ j g hg;have:=hg.1;rw[ho] at this;cases this
   ·exact zfr (mem:=r) hr i b q
 | (k,.ext (.deep t2 _ _ _ _ _))::r,hr,i,b,h=>by
  simp only[zjl] at hr
  cases ho:zc1 t2 with
  | true=>rw[ho] at hr;exact hr.elim
  | false=>
   rw[ho] at hr
   rcases za5 h with⟨_,q⟩ | ⟨_,q⟩
   ·subst q;intro ρ j g hg;have:=hg.1;rw[ho] at this;cases this
   ·exact zfr (mem:=r) hr i b q
 | (k,.ext (.fam _ _))::r,hr,i,b,h=>by
  rcases za5 h with⟨_,q⟩ | ⟨_,q⟩
  ·subst q;intro ρ j g hg;exact hg
  ·exact zfr (mem:=r) hr i b q
 | (k,.ext (.map _ _ _))::r,hr,i,b,h=>hr.elim
 | (k,.ext (.obj _ _))::r,hr,i,b,h=>hr.elim
 | (k,.box _ _)::r,hr,i,b,h=>hr.elim
theorem MemAt.ro {nt:Nat} (hr:zjl mem) (hb:zdI { w0:=w,bor:=[],n0:=nx,ρ0:=ρ,nt:=nt } ρ nx w mem):MemAt { w0:=w,bor:=[],n0:=nx,ρ0:=ρ,nt:=nt } ρ mem nx w:=
 ⟨fun i b hi=>⟨(zbv hb i b hi).1,(zbv hb i b hi).2.1⟩,fun i b hi=>(zbv hb i b hi).2.2,fun i j b b' hne hi hj=>(zbv hb i b hi).2.2.apart fun g hg=>absurd hg (zfr hr i b hi ρ i g),nl_,fun _ _=>rfl,⟨rfl,rfl,rfl,nl_,fun _ _ _=>rfl⟩⟩
theorem MemAt.one {nt g i:Nat} {t:TypeId} {cs:List Value} (hr:zdj mem) (hi:i<nx) (hρ:ρ i=⟨some ⟨g,0,none⟩,0,0,false,za4⟩) (hbx:BlkOk { w0:=w,bor:=[g],n0:=nx,ρ0:=ρ,nt:=nt } ρ nx i w (.box t cs))
  (hb:zdI { w0:=w,bor:=[g],n0:=nx,ρ0:=ρ,nt:=nt } ρ nx w mem) (hap:∀ j t sz n el,lk mem j=some (.row t sz n el)->n=0∨bno ρ j≠some g):MemAt { w0:=w,bor:=[g],n0:=nx,ρ0:=ρ,nt:=nt } ρ ((i,.box t cs)::mem) nx w:=by
 have hgi:bno ρ i=some g:=by simp[bno,hρ]
 refine⟨fun j b hj=>?_,fun j b hj=>?_,fun j k b b' hne hj hk=>?_,nl_,fun _ _=>rfl,⟨rfl,rfl,rfl,nl_,fun _ _ _=>rfl⟩⟩
 ·rcases za5 hj with⟨rfl,rfl⟩ | ⟨_,hj⟩
  ·exact⟨hi,by rw[hρ]⟩
  ·exact⟨(zbv hb j b hj).1,(zbv hb j b hj).2.1⟩
 ·rcases za5 hj with⟨rfl,rfl⟩ | ⟨_,hj⟩
  ·exact hbx
  ·exact (zbv hb j b hj).2.2
 ·rcases za5 hj with⟨rfl,rfl⟩ | ⟨_,hj⟩
  ·rcases za5 hk with⟨rfl,rfl⟩ | ⟨_,hk⟩
   ·exact absurd rfl hne
   ·cases b' with
    | box t2 cs2=>exact absurd hk (zdW hr _ _ _)
    | ext e=>exact absurd hk (zeN hr _ _)
    | row t2 sz n el=>
     rcases hap k t2 sz n el hk with h0 | h0
     ·exact .inl h0
     ·exact .inr (by rw[hgi];exact Ne.symm h0)
  ·cases b with
   | box t2 cs2=>exact absurd hj (zdW hr _ _ _)
   | ext e=>exact absurd hj (zeN hr _ _)
   | row t2 sz n el=>cases b' with
    | box t3 cs3=>trivial
    | ext e=>intro g hg;have ho:=hg.1;rw[zdi hr _ _ _ _ _ hj] at ho;cases ho
    | row t3 sz3 n3 el3=>intro ho;rw[zdi hr _ _ _ _ _ hj] at ho;cases ho
end
end Go.Proofs.YtjnndjnpcelafaaGreat
