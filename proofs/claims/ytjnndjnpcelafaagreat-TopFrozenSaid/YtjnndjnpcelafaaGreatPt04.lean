import Derived.Test.YtjnndjnpcelafaaGreatPt03
import Derived.StillTail
namespace Go.Proofs.YtjnndjnpcelafaaGreat
set_option maxHeartbeats 16000000
set_option maxRecDepth 100000
open Go.RowKit
set_option linter.unusedSimpArgs false
set_option linter.unusedVariables false
def fvx (τ:TT) (fr:AF) (memS:AM) (o:Op) (K:Value->Prop):Prop:=match vx τ fr memS o with
 | some v=>K v
 | none=>(match o with
  | .indexAddr t x i=>(match ev fr x,ev fr i,lk τ t with
   | some (.slice (some ⟨ab,ao,as_⟩) n _),some (.int _ k),some ti=>(match lk memS ab with
    | some (.row _ sz n' _)=>(match ao,as_,ti.sl,ti.esz,Nat.beq ti.esz sz with
     | 0,none,true,_+1,true=>(n<=n'/\0<=k/\k<n)/\K (.pointer (some ⟨ab,0,some k.toNat⟩))
     | _,_,_,_,_=>False)
    | some (.ext (.deep _ sz n' _ _ _))=>(match ao,as_,ti.sl,ti.esz,Nat.beq ti.esz sz with
     | 0,none,true,_+1,true=>(n<=n'/\0<=k/\k<n)/\K (.pointer (some ⟨ab,0,some k.toNat⟩))
     | _,_,_,_,_=>False)
    | _=>False)
   | _,_,_=>False)
  | .slice t x none (some y) none=>(match ev fr x,ev fr y,lk τ t with
   | some (.slice A _ cap),some (.int _ h),some ti=>(match ti.sl,ti.esz with
    | true,_+1=>(0<=h/\h<=cap)/\K (.slice A h.toNat cap)
    | _,_=>False)
   | _,_,_=>False)
  | .binOp bo _ x y _=>(match ev fr x,ev fr y with
   | some (.int k b),some (.int k' c)=>(match bo with
    | .shl=>0<=c/\K (.int k (k.wrap (b * 2 ^ min c.toNat k.bits)))
    | .shr=>0<=c/\K (.int k (b.fdiv (2 ^ min c.toNat k.bits)))
    | .quo=>(k=k'/\c≠0)/\K (.int k (k.wrap (b.tdiv c)))
    | .rem=>(k=k'/\c≠0)/\K (.int k (b.tmod c))
    | _=>False)
   | _,_=>False)
  | _=>False)
section
variable {P:Program} {τ:TT} {C:Ctx} {ρ:Nat->Pl} {fr:AF} {memS:AM} {nx:Nat} {a:Act}
theorem zkW (hτ:zcl P τ) {o:Oper} {K:Value->Prop} (hf:FrOk ρ fr nx a) (hlt:∀ i b,lk memS i=some b->i<nx/\(ρ i).res=false) {H:World->Prop} (hH:∀ w,H w->∀ i b,lk memS i=some b->BlkOk C ρ nx i w b) {w0:World} (h0:H w0) (h:fvx τ fr memS o.op K) :
  ∃ v,K v/\okV ρ nx v/\∀ w,H w->(execOp a.eval o).run P w=.ok (.value (den ρ v)) w:=by
 unfold fvx at h;cases hv:vx τ fr memS o.op with
 | some v=>rw[hv] at h;exact⟨v,h,(zlH (P:=P) hτ hf (hH w0 h0) hv).2,fun w hw=>(zlH (P:=P) hτ hf (hH w hw) hv).1⟩
 | none=>
  rw[hv] at h;obtain⟨dst,op,type,pos,after,guard⟩:=o;cases op<;>simp only at h<;>first | exact h.elim | skip
  case slice t x lo hi mx=>
   cases lo with
   | some _=>exact h.elim
   | none=>
    cases mx with
    | some _=>cases hi<;>exact h.elim
    | none=>
     cases hi with
     | none=>exact h.elim
     | some y=>
      try simp only at h
      cases hx:ev fr x with
      | none=>rw[hx] at h;exact h.elim
      | some p=>
       rw[hx] at h;cases p<;>(try simp only at h)<;>first | exact h.elim | skip
       rename_i A n cap
       cases hy:ev fr y with
       | none=>rw[hy] at h;exact h.elim
       | some q=>
        rw[hy] at h;cases q<;>(try simp only at h)<;>first | exact h.elim | skip
        rename_i k hh
        cases hti:lk τ t with
        | none=>rw[hti] at h;exact h.elim
        | some ti=>
         rw[hti] at h;try simp only at h
         split at h
         ·rename_i s hsl hesz
          obtain⟨⟨h0,h1⟩,hK⟩:=h;have r:=fun w=>zhs (P:=P) (w:=w) hτ hf hx hy hti hsl hesz h0 h1
          refine⟨_,hK,(r w0).2,fun w hw=>?_⟩;simp[execOp,(r w).1]
         ·exact h.elim
  case indexAddr t x i=>
   cases hx:ev fr x with
   | none=>rw[hx] at h;exact h.elim
   | some p=>
    rw[hx] at h;cases p<;>first | exact h.elim | skip
    rename_i A n cp
    cases A with
    | none=>exact h.elim
    | some ad=>
     cases hy:ev fr i with
     | none=>rw[hy] at h;exact h.elim
     | some q=>
      rw[hy] at h;cases q<;>first | exact h.elim | skip
      rename_i kk k
      cases hti:lk τ t with
      | none=>rw[hti] at h;exact h.elim
      | some ti=>
       rw[hti] at h;simp only at h;cases hb:lk memS ad.block with
       | none=>rw[hb] at h;exact h.elim
       | some bl=>
        rw[hb] at h;cases bl with
        | box bt cs=>exact h.elim
        | ext eb=>cases eb with
         | fam tf sb=>exact h.elim
         | map kk ag f=>exact h.elim
         | obj S Φ=>exact h.elim
         | deep bt sz n' c1 el u=>
          obtain⟨ab,ao,as_⟩:=ad;simp only at h;split at h
          ·rename_i s hsl hesz hbe
           obtain⟨⟨hn,hk0,hkn⟩,hK⟩:=h;have hsz:ti.esz=sz:=Nat.eq_of_beq_eq_true hbe;obtain⟨h1,h2⟩:=zb4 hf hx;have h3:a.eval i=.int kk k:=(zb4 hf hy).1;obtain⟨⟨hs1,hs2⟩,-,-,hrow⟩:=hH w0 h0 _ _ hb;rcases hrow with h0 | ⟨-,b,off,hA,-⟩
           ·omega
           ·have hok:okV ρ nx (.pointer (some ⟨ab,0,some k.toNat⟩)):=⟨hlt _ _ hb,⟨b,off,hA⟩,fun j hj=>by cases hj;show k.toNat<(ρ ab).n;rw[hs2];omega⟩;have e1:den ρ (.slice (some ⟨ab,0,none⟩) n cp)=.slice (some ⟨b,off,none⟩) n cp:=by simp[den,zaW,zal,zaq,hA]
            have e2:den ρ (.pointer (some ⟨ab,0,some k.toNat⟩))=.pointer (some ⟨b,off+k.toNat * sz,none⟩):=by simp[den,zaW,zal,zbG (a:=⟨ab,0,some k.toNat⟩) hA,hs1]
            rw[e1] at h1;refine⟨_,hK,hok,fun w hw=>?_⟩;simp only[execOp,h1,h3];rw[Sem.run_bind,zhS hτ hti hsl hesz hk0 hkn,e2,hsz];rfl
          ·exact h.elim
        | row bt sz n' el=>
         simp only at h;split at h
         ·rename_i s hoff hsp hsl hesz hbe
          obtain⟨⟨hn,hk0,hkn⟩,hK⟩:=h;have hsz:ti.esz=sz:=Nat.eq_of_beq_eq_true hbe;obtain⟨h1,h2⟩:=zb4 hf hx;obtain⟨h3,-⟩:=zb4 hf hy;obtain⟨⟨hs1,hs2⟩,-,hrow⟩:=hH w0 h0 _ _ hb;rcases hrow with h0 | ⟨b,off,hA,hlt2,hc⟩
          ·omega
          ·obtain⟨e,hu,he⟩:=(hτ t ti hti).slice hsl;have hok:okV ρ nx (.pointer (some ⟨ad.block,0,some k.toNat⟩)):=⟨hlt _ _ hb,⟨b,off,hA⟩,fun j hj=>by cases hj;show k.toNat<(ρ ad.block).n;rw[hs2];omega⟩;have e1:den ρ (.slice (some ad) n cp)=.slice (some ⟨b,off,none⟩) n cp:=by simp[den,zaW,zal,dS,zbG hA,hsp,hoff]
           have e2:den ρ (.pointer (some ⟨ad.block,0,some k.toNat⟩))=.pointer (some ⟨b,off+k.toNat * sz,none⟩):=by simp[den,zaW,zal,zbG (a:=⟨ad.block,0,some k.toNat⟩) hA,hs1]
           rw[e1] at h1;have h3':a.eval i=.int kk k:=h3;refine⟨_,hK,hok,fun w hw=>?_⟩;rw[e2];cases hi:P.info? e with
           | none=>simp[zeu,hi] at he;omega
           | some ii=>
            have hes:ii.size=sz:=by rw[← hsz,← he];simp[zeu,hi]
            simp[execOp,h1,h3',Instr.indexAt,asIntOf,run_underlying hu,hk0,hkn,sizeOf,typeInfo,hi,hes,Addr.add_mid]
         ·exact h.elim
  case binOp bo t x y yt=>
   cases hx:ev fr x with
   | none=>rw[hx] at h;exact h.elim
   | some p=>
    rw[hx] at h;cases p<;>first | exact h.elim | skip
    rename_i k b
    cases hy:ev fr y with
    | none=>rw[hy] at h;exact h.elim
    | some q=>
     rw[hy] at h;cases q<;>first | exact h.elim | skip
     rename_i k' c
     have h1:a.eval x=.int k b:=(zb4 hf hx).1;have h2:a.eval y=.int k' c:=(zb4 hf hy).1;cases bo<;>simp only at h<;>first | exact h.elim | skip
     case quo=>
      obtain⟨⟨rfl,hc⟩,hK⟩:=h;refine⟨_,hK,trivial,fun w hw=>?_⟩;show _=Result.ok (Next.value (.int k (k.wrap (b.tdiv c)))) w;simp[execOp,h1,h2,eqGuard,binOp,Op.intDiv,hc]
     case rem=>
      obtain⟨⟨rfl,hc⟩,hK⟩:=h;refine⟨_,hK,trivial,fun w hw=>?_⟩;show _=Result.ok (Next.value (.int k (b.tmod c))) w;simp[execOp,h1,h2,eqGuard,binOp,Op.intDiv,hc]
     case shl=>
      obtain⟨hc,hK⟩:=h;refine⟨_,hK,trivial,fun w hw=>?_⟩;show _=Result.ok (Next.value (.int k (k.wrap (b * 2 ^ min c.toNat k.bits)))) w;simp[execOp,h1,h2,eqGuard,binOp,Op.shift,show ¬ c<0 by omega]
     case shr=>
      obtain⟨hc,hK⟩:=h;refine⟨_,hK,trivial,fun w hw=>?_⟩;show _=Result.ok (Next.value (.int k (b.fdiv (2 ^ min c.toNat k.bits)))) w;simp[execOp,h1,h2,eqGuard,binOp,Op.shift,show ¬ c<0 by omega]
end
end Go.Proofs.YtjnndjnpcelafaaGreat
namespace Go.Proofs.YtjnndjnpcelafaaGreat
open Go.RowKit
def Later (B:Nat) (w:World):Type:={ w':World // Below B w w' }
def Later.world {B:Nat} {w:World} (x:Later B w):World:=x.1
theorem Later.below {B:Nat} {w:World} (x:Later B w):Below B w x.world:=x.2
theorem Later.cell {B:Nat} {w:World} (x:Later B w) {b o:Nat} (hb:b<B):x.world.cell? ⟨b,o,none⟩=w.cell? ⟨b,o,none⟩:=x.below.cell (p:=⟨b,o,none⟩) hb
section
variable {P:Program}
theorem zay (B:Nat) {id:Nat} {Q:Exit->Act->World->Prop} {a:Act} {w:World} {l:List Oper} (hm:P.follows .mixedOrders=true) (hB:Region.lexB .any l.toArray=true)
  (h:wpQuiet P l.toArray (fun w'=>∃ x:Later B w,w'=x.world) (fun a'=>∀ w',(∃ x:Later B w,w'=x.world)->Q .normal a' w') l a):(Code.region id l.toArray true).wp P Q a w:=
 wp_region_quiet (C:=fun w'=>∃ x:Later B w,w'=x.world) hm hB ⟨⟨w.drew,(Below.refl B w).drew⟩,rfl⟩ (by simpa using h)
end
end Go.Proofs.YtjnndjnpcelafaaGreat
namespace Go.Proofs.YtjnndjnpcelafaaGreat
open Go.RowKit
set_option linter.unusedSimpArgs false
set_option linter.unusedVariables false
section
variable {P:Program} {md:Region.Mode} {ops:Array Oper} {Q:Exit->Act->World->Prop}
theorem zgg:∀ (fuel:Nat) (listed:Array Bool) (a:Act) (w:World),wpAny P md ops Q fuel listed a w->wpAny P md ops Q (fuel+1) listed a w
 | 0,listed,a,w,h=>⟨fun _=>h.2,fun i hi=>by rw[h.1] at hi;cases hi⟩
 | fuel+1,listed,a,w,h=>⟨h.1,fun i hi=>wpOp_mono (fun a' w' h'=>zgg fuel _ a' w' h') (h.2 i hi)⟩
theorem zgf (listed:Array Bool) (a:Act) (w:World) (m:Nat) (h:wpAny P md ops Q m listed a w):∀ fuel,wpAny P md ops Q (fuel+m) listed a w
 | 0=>by simpa using h
 | fuel+1=>by
  have:=zgg _ _ _ _ (zgf listed a w m h fuel)
  rwa[show fuel+m+1=fuel+1+m by omega] at this
def zgq (md:Region.Mode) (ops:Array Oper):Nat->Nat->Nat->Bool
 | 0,_,_=>false
 | n+1,j,i=>match ops[j]? with
  | none=>false
  | some o=>o.after.any fun e=>Region.binds md e&&(e.on==i||zgq md ops n e.on i)
def Dn (md:Region.Mode) (ops:Array Oper) (listed:Array Bool):Prop:=
 ∀ (j:Nat) (o:Oper),ops[j]?=some o->listed.getD j false=true->∀ e ∈ o.after,Region.binds md e=true->listed.getD e.on false=true
theorem zf6 {listed:Array Bool} (hd:Dn md ops listed):∀ (n j i:Nat),(∀ o,ops[j]?=some o->∀ e ∈ o.after,Region.binds md e=true->listed.getD e.on false=true)->zgq md ops n j i=true->listed.getD i false=true
 | 0,j,i,hp,h=>by simp[zgq] at h
 | n+1,j,i,hp,h=>by
  unfold zgq at h
  cases ho:ops[j]? with
  | none=>simp[ho] at h
  | some o=>
   simp only[ho,Array.any_eq_true] at h
   obtain⟨x,hx,he⟩:=h
   have hm:o.after[x] ∈ o.after:=Array.getElem_mem hx
   simp only[Bool.and_eq_true,Bool.or_eq_true,beq_iff_eq] at he
   have hl:=hp o ho _ hm he.1
   rcases he.2 with h1 | h1
   ·rwa[h1] at hl
   ·exact zf6 hd n _ i (fun o' ho' e' he' hb'=>hd _ o' ho' hl e' he' hb') h1
theorem zgW {listed:Array Bool} {i x:Nat} (h:listed.getD x false=true):(listed.setIfInBounds i true).getD x false=true:=by
 by_cases hx:i=x
 ·subst hx;have hlt:i<listed.size:=by
   rcases Nat.lt_or_ge i listed.size with h' | h'
   ·exact h'
   ·simp[Array.getD,Nat.not_lt.2 h'] at h
  simp[Array.getD,hlt]
 ·rwa[getD_set_ne false hx]
theorem Dn.set_ {listed:Array Bool} (hd:Dn md ops listed) {i:Nat} (hi:i ∈ Region.ready md ops listed):Dn md ops (listed.setIfInBounds i true):=by
 obtain⟨hun,oi,hoi,hall⟩:=mem_ready.1 hi;intro j o ho hl e he hb;refine zgW ?_;by_cases hji:i=j
 ·subst hji;rw[hoi] at ho;cases ho
  exact hall e he hb
 ·rw[getD_set_ne false hji] at hl;exact hd j o ho hl e he hb
def zes (K:Act->World->Prop) (Q:Exit->Act->World->Prop):Exit->Act->World->Prop
 | .normal,a,w=>K a w
 | e,a,w=>Q e a w
theorem zkd {o:Oper} {a:Act} {K1:Act->World->Prop} {K:Act->World->Prop} {r:Result Next} (h:o.upon P a K1 (zes K Q) r):o.upon P a K1 Q r:=by
 cases r with
 | ok n w'=>
  cases n<;>simp only[Oper.upon] at h ⊢<;>exact h
 | halt x w'=>cases x<;>simp only[Oper.upon] at h ⊢<;>exact h
theorem zlu {head:Array Oper} {k i:Nat} {K K1 K2:Act->World->Prop} {a:Act} {w:World} (hh:∀ i,i<k->head[i]?=ops[i]?) (hg:∀ i o g b,i<k->ops[i]?=some o->o.guard=some (g,b)->g<k) (hi:i<k)
  (h:wpOp P head (zes K Q) i K1 a w) (hK:∀ a w,K1 a w->K2 a w):wpOp P ops Q i K2 a w:=by
 refine wpOp_mono hK ?_;unfold wpOp at *;rw[hh i hi] at h;cases ho:ops[i]? with
 | none=>simp only[ho] at h ⊢;exact h
 | some o=>
  simp only[ho] at h ⊢;have hw:Region.wanted o (yielded head a.tmps)=Region.wanted o (yielded ops a.tmps):=by
   unfold Region.wanted;cases hgu:o.guard with
   | none=>rfl
   | some gb=>
    obtain⟨g,b⟩:=gb;have:yielded head a.tmps g=yielded ops a.tmps g:=by
     unfold yielded;rw[hh g (hg i o g b hi ho hgu)]
    simp only[this]
  rw[hw] at h;split
  ·rename_i hwt
   simp only[hwt,if_true] at h;exact h.imp zkd id
  ·rename_i hwt
   simp only[hwt] at h;exact h
theorem zcQ {listed:Array Bool} {k i:Nat} (d:Bool) (hi:i<k) (hk:k<=listed.size):(listed.extract 0 k).getD i d=listed.getD i d:=by
 have h1:i<listed.size:=by omega
 have h2:i<(listed.extract 0 k).size:=by simp;omega
 have h3:i<min k listed.size:=by omega
 simp[Array.getD,h1,h3]
theorem zj6 {listed:Array Bool} {k i:Nat} (hi:i<k) (hk:k<=listed.size):(listed.setIfInBounds i true).extract 0 k=(listed.extract 0 k).setIfInBounds i true:=by
 apply Array.ext
 ·simp
 ·intro j h1 h2;have h3:j<listed.size:=by simp at h1;omega
  have h4:j<(listed.extract 0 k).size:=by simpa using h2
  rw[Array.getElem_extract,Array.getElem_setIfInBounds,Array.getElem_setIfInBounds]
  ·have e:(listed.extract 0 k)[j]'h4=listed[j]:=by
    rw[Array.getElem_extract];congr 1
    omega
   rw[e];simp
  ·exact h4
  ·simpa using h3
theorem zih {head:Array Oper} {k m n:Nat} {K:Act->World->Prop} (hh:∀ i,i<k->head[i]?=ops[i]?) (hhs:head.size=k) (hkn:k<=n) (hn:ops.size=n)
  (hg:∀ i o g b,i<k->ops[i]?=some o->o.guard=some (g,b)->g<k)
  (hord:∀ i o,i<k->ops[i]?=some o->∀ e ∈ o.after,Region.binds md e=true->e.on<i)
  (hreach:∀ j,k<=j->j<n->∀ i,i<k->zgq md ops n j i=true)
  (hK:∀ a w,K a w->wpAny P md ops Q m (Array.replicate k true++Array.replicate (n-k) false) a w) :
  ∀ (fuel:Nat) (listed:Array Bool) (a:Act) (w:World),listed.size=n->Dn md ops listed->(∀ j,k<=j->listed.getD j false=false)->
   wpAny P md head (zes K Q) fuel (listed.extract 0 k) a w->wpAny P md ops Q (fuel+m) listed a w:=by
 have hready:∀ (listed:Array Bool),listed.size=n->∀ i,i<k->(i ∈ Region.ready md head (listed.extract 0 k)↔i ∈ Region.ready md ops listed):=by
  intro listed hs i hi;rw[mem_ready,mem_ready,hh i hi,zcQ true hi o_];constructor
  ·rintro⟨h1,o,ho,h2⟩;refine⟨h1,o,ho,fun e he hb=>?_⟩;have:=h2 e he hb;rwa[zcQ false (by have:=hord i o hi ho e he hb;omega) o_] at this
  ·rintro⟨h1,o,ho,h2⟩;refine⟨h1,o,ho,fun e he hb=>?_⟩;rw[zcQ false (by have:=hord i o hi ho e he hb;omega) o_];exact h2 e he hb
 have hleast:∀ (listed:Array Bool),listed.size=n->∀ i,i<k->listed.getD i false=false->∃ i',i'<k/\i' ∈ Region.ready md ops listed:=by
  intro listed hs i;induction i using Nat.strongRecOn with
  | _ i ih=>
   intro hi hu;have hio:∃ o,ops[i]?=some o:=⟨_,Array.getElem?_eq_getElem o_⟩;obtain⟨o,ho⟩:=hio;by_cases hall:∀ e ∈ o.after,Region.binds md e=true->listed.getD e.on false=true
   ·refine⟨i,hi,mem_ready.2 ⟨?_,o,ho,hall⟩⟩;have:i<listed.size:=by omega
    simpa [Array.getD,this] using hu
   ·have hex:∃ e,e ∈ o.after/\Region.binds md e=true/\listed.getD e.on false=false:=by
     refine Classical.byContradiction fun hno=>hall fun e he hb=>?_
     refine Classical.byContradiction fun hl=>hno ⟨e,he,hb,by simpa using hl⟩
    obtain⟨e,he,hb,hl⟩:=hex;have hlt:=hord i o hi ho e he hb;exact ih e.on hlt o_ hl
 intro fuel;induction fuel with
 | zero=>
  intro listed a w hs hd ht h;have hall:∀ i,i<k->listed.getD i false=true:=by
   intro i hi;refine Classical.byContradiction fun hu=>?_
   obtain⟨i',hi',hr⟩:=hleast listed hs i hi (by simpa using hu);have:=(hready listed hs i' hi').2 hr;rw[h.1] at this;cases this
  have hL:listed=Array.replicate k true++Array.replicate (n-k) false:=by
   apply Array.ext
   ·simp;omega
   ·intro j h1 h2;by_cases hj:j<k
    ·have:=hall j hj;rw[Array.getElem_append_left (by simpa using hj)];simpa [Array.getD,h1] using this
    ·have:=ht j o_;rw[Array.getElem_append_right (by simp;omega)];simpa [Array.getD,h1] using this
  rw[hL,Nat.zero_add];exact hK _ _ h.2
 | succ f ih=>
  intro listed a w hs hd ht h;by_cases hall:∀ i,i<k->listed.getD i false=true
  ·have hL:listed=Array.replicate k true++Array.replicate (n-k) false:=by
    apply Array.ext
    ·simp;omega
    ·intro j h1 h2;by_cases hj:j<k
     ·have:=hall j hj;rw[Array.getElem_append_left (by simpa using hj)];simpa [Array.getD,h1] using this
     ·have:=ht j o_;rw[Array.getElem_append_right (by simp;omega)];simpa [Array.getD,h1] using this
   have hr:Region.ready md head (listed.extract 0 k)=[]:=by
    refine List.eq_nil_iff_forall_not_mem.2 fun i hi=>?_
    obtain⟨hu,o,ho,_⟩:=mem_ready.1 hi;have hik:i<k:=by
     rw[← hhs];exact (Array.getElem?_eq_some_iff.1 ho).1
    rw[zcQ true hik o_] at hu;have:=hall i hik;have hlt:i<listed.size:=by omega
    simp[Array.getD,hlt] at this hu;rw[this] at hu;cases hu
   have hk:=h.1 hr;rw[hL];exact zgf _ _ _ m (hK _ _ hk) (f+1)
  ·have hex:∃ i,i<k/\listed.getD i false=false:=by
    refine Classical.byContradiction fun hno=>hall fun i hi=>?_
    refine Classical.byContradiction fun hl=>hno ⟨i,hi,by simpa using hl⟩
   obtain⟨i0,hi0,hu0⟩:=hex;obtain⟨i1,hi1,hr1⟩:=hleast listed hs i0 hi0 hu0;rw[show f+1+m=f+m+1 by omega];refine⟨fun h0=>(by rw[h0] at hr1;cases hr1),fun i hi=>?_⟩;obtain⟨hu,o,ho,hp⟩:=mem_ready.1 hi;have hin:i<n:=by rw[← hn];exact (Array.getElem?_eq_some_iff.1 ho).1
   have hik:i<k:=by
    rcases Nat.lt_or_ge i k with h' | h'
    ·exact h'
    ·have:=zf6 hd n i i0 (fun o' ho' e he hb=>by rw[ho] at ho';cases ho';exact hp e he hb) (hreach i h' hin i0 hi0);rw[hu0] at this;cases this
   have h1:=h.2 i ((hready listed hs i hik).2 hi);refine zlu hh hg hik h1 fun a' w' h'=>?_
   refine ih (listed.setIfInBounds i true) a' w' (by simpa using hs) (hd.set_ hi) ?_ ?_
   ·intro j hj;rw[getD_set_ne false o_];exact ht j hj
   ·rw[zj6 hik o_];exact h'
end
section
variable {P:Program} {Q:Exit->Act->World->Prop}
def zmF (l:List Oper) (k:Nat):Bool:=
 decide (k<=l.length) &&
 ((List.range k).all fun i=>match l[i]? with
  | none=>true
  | some o=>(o.after.all fun e=>!Region.binds .any e||decide (e.on<i))&&(match o.guard with | none=>true | some (g,_)=>decide (g<k))) &&
 ((List.range l.length).all fun j=>decide (j<k)||(List.range k).all fun i=>zgq .any l.toArray l.length j i) &&
 Region.seqB .any l.toArray (l.drop k).length k (Array.replicate k true++Array.replicate (l.length-k) false)
theorem zcT {l:List Oper} {id:Nat} {a:Act} {w:World} (k:Nat) (hm:P.follows .mixedOrders=true) (hB:zmF l k=true)
  (h:wpAny P .any (l.take k).toArray (zes (fun a w=>wpList P l.toArray Q (l.drop k) a w) Q) k (Array.replicate k false) a { w with drawn:=w.drawn+1 }) :
  (Code.region id l.toArray true).wp P Q a w:=by
 simp only[zmF,Bool.and_eq_true,List.all_eq_true,decide_eq_true_eq,List.mem_range,Bool.or_eq_true] at hB;obtain⟨⟨⟨hk,h1⟩,h2⟩,h4⟩:=hB;have hops:∀ i:Nat,l.toArray[i]?=l[i]?:=fun i=>List.getElem?_toArray
 refine wp_region_any hm ?_;have key:=zih (P:=P) (md:=.any) (ops:=l.toArray) (Q:=Q) (head:=(l.take k).toArray) (k:=k) (m:=l.length-k) (n:=l.length)
  (K:=fun a w=>wpList P l.toArray Q (l.drop k) a w)
  (fun i hi=>by simp[List.getElem?_take,hi]) (by simp;omega) hk (by simp)
  (fun i o g b hi ho hgu=>by
   have:=h1 i hi
   rw[← hops,ho] at this
   simp only[hgu,Bool.and_eq_true,decide_eq_true_eq] at this
   exact this.2)
  (fun i o hi ho e he hb=>by
   have:=h1 i hi
   rw[← hops,ho] at this
   simp only[Bool.and_eq_true,Array.all_eq_true_iff_forall_mem] at this
   have h5:=this.1 e he
   simpa [hb] using h5)
  (fun j hj hjn i hi=>(h2 j hjn).resolve_left o_ i hi)
  (fun a w hq=>by
   have:=wpAny_of_seq (md:=.any) (ops:=l.toArray) (Q':=Q) (l.drop k) k (Array.replicate k true++Array.replicate (l.length-k) false) a w (fun j=>by simp[List.getElem?_drop]) h4 hq
   simpa using this)
  k (Array.replicate l.length false) a { w with drawn:=w.drawn+1 } (by simp) (fun j o ho hl=>by simp[Array.getD] at hl) (fun j hj=>by simp[Array.getD]) (by
   have e:(Array.replicate l.length false).extract 0 k=Array.replicate k false:=by
    apply Array.ext
    ·simp;omega
    ·intro j h1 h2;simp
   rw[e]
   exact h)
 have e2:k+(l.length-k)=l.toArray.size:=by simp;omega
 rw[e2] at key;simpa using key
theorem zjq {ops:Array Oper} {i:Nat} {o:Oper} {K:Act->World->Prop} {a:Act} {w:World} (ho:ops[i]?=some o) (hg:o.guard=none) (h:o.wp P a w K Q):wpOp P ops Q i K a w:=by
 unfold wpOp;simp only[ho];rw[if_pos (by simp[Region.wanted,hg])];exact .inl h
theorem zfu {ops:Array Oper} {i:Nat} {o:Oper} {K:Act->World->Prop} {a:Act} {w:World} (ho:ops[i]?=some o) (hg:Region.wanted o (yielded ops a.tmps)=true) (h:o.wp P a w K Q):wpOp P ops Q i K a w:=by
 unfold wpOp;simp only[ho];rw[if_pos hg];exact .inl h
def zft (P:Program) (ops:Array Oper) (Q:Exit->Act->World->Prop) (S:World->Prop):List (Nat×Bool)->Act->World->Prop
 | [],a,w=>Q .normal a w
 | (i,false)::r,a,w=>∃ (o:Oper) (v:Value),ops[i]?=some o/\(∀ c a w,Q (.panic c) (a.put o.dst v) w->Q (.panic c) a w)/\YieldsIf P ops S o v a/\zft P ops Q S r (a.put o.dst v) w
 | (i,true)::r,a,w=>wpOp P ops Q i (fun a' w'=>S w'/\zft P ops Q S r a' w') a w
def ziA (ops:Array Oper):List (Nat×Bool)->Array Bool->Bool
 | [],listed=>(Region.ready .any ops listed).isEmpty
 | (i,false)::r,listed=>Region.free .any ops listed i&&(Region.ready .any ops listed).contains i&&ziA ops r (listed.setIfInBounds i true)
 | (i,true)::r,listed=>decide (Region.ready .any ops listed=[i])&&ziA ops r (listed.setIfInBounds i true)
theorem zd9 {ops:Array Oper} {S:World->Prop} (hs:Region.noSelect ops=true):∀ (σ:List (Nat×Bool)) (listed:Array Bool) (a:Act) (w:World),ziA ops σ listed=true->S w->
  zft P ops Q S σ a w->wpAnyH P .any ops Q S σ.length listed a w
 | [],listed,a,w,hB,hS,h=>wpAnyH_done (by simpa [ziA] using hB) h _
 | (i,false)::r,listed,a,w,hB,hS,h=>by
  simp only[ziA,Bool.and_eq_true] at hB
  obtain⟨⟨h1,h2⟩,h3⟩:=hB
  obtain⟨o,v,ho,hQ,hy,hr⟩:=h
  exact wpAnyH_take ho hs h1 h2 hQ hy hS (zd9 hs r _ _ _ h3 hS hr)
 | (i,true)::r,listed,a,w,hB,hS,h=>by
  simp only[ziA,Bool.and_eq_true,decide_eq_true_eq] at hB
  refine wpAnyH_all hB.1 (by simp) fun j hj=>?_
  obtain rfl:j=i:=by simpa using hj
  exact wpOp_mono (fun a' w' ⟨hS',h'⟩=>⟨hS',zd9 hs r _ _ _ hB.2 hS' h'⟩) h
end
/-! Lists of operations. -/
def zej (ops:Array Oper) (j:Nat):Option Nat:=match ops[j]? with | some o=>o.dst | none=>none
def gdx (ops:Array Oper) (G:List Nat) (guard:Option (Nat×Bool)) (fr:AF) (go:Bool->List Nat->AF->Prop):Prop:=
 match guard with
 | none=>go true G fr
 | some (j,want)=>(match zej ops j with
  | none=>False
  | some d=>(match lk fr d with
   | some (.bool t)=>(match G.contains j with
    | true=>(match t with | true=>go want G fr | false=>go (!want) G fr)
    | false=>(t=true->go want (j::G) ((d,.bool true)::fr))/\(t=false->go (!want) (j::G) ((d,.bool false)::fr)))
   | some (.tuple _)=>go false G fr
   | _=>False))
def opsx (τ:TT) (F:FT) (ops:Array Oper) (l:List Oper):List Nat->AF->AM->Nat->(AF->AM->Nat->Prop)->Prop:=
 List.rec (motive:=fun _=>List Nat->AF->AM->Nat->(AF->AM->Nat->Prop)->Prop) (fun _ fr mem nx K=>K fr mem nx)
  (fun o _ ih G fr mem nx K=>gdx ops G o.guard fr (fun b G' fr'=>match b with
   | true=>opx τ F o fr' mem nx (fun fr2 mem2 nx2=>ih G' fr2 mem2 nx2 K)
   | false=>zel o.dst (.tuple #[]) fr' fun fr2=>ih G' fr2 mem nx K)) l
theorem zmy (τ:TT) (F:FT) (ops:Array Oper) (o:Oper) (l:List Oper) (G:List Nat) (fr:AF) (mem:AM) (nx:Nat) (K:AF->AM->Nat->Prop):opsx τ F ops (o::l) G fr mem nx K=gdx ops G o.guard fr (fun b G' fr'=>match b with
  | true=>opx τ F o fr' mem nx (fun fr2 mem2 nx2=>opsx τ F ops l G' fr2 mem2 nx2 K)
  | false=>zel o.dst (.tuple #[]) fr' fun fr2=>opsx τ F ops l G' fr2 mem nx K):=rfl
section
variable {P:Program} {τ:TT} {F:FT} {C:Ctx} {ρ:Nat->Pl} {fr:AF} {mem:AM} {nx:Nat} {a:Act} {w:World} {Q:Exit->Act->World->Prop}
theorem zka {ops:Array Oper} {j d:Nat} {t:Bool} (hd:zej ops j=some d) (ht:a.tmps[d]?=some (.bool t)):yielded ops a.tmps j=some t:=by
 unfold zej at hd;unfold yielded;cases ho:ops[j]? with
 | none=>rw[ho] at hd;cases hd
 | some o=>rw[ho] at hd;simp only at hd;simp[hd,ht]
theorem zdD {ops:Array Oper} {G:List Nat} {o:Oper} {go:Bool->List Nat->AF->Prop} (h:gdx ops G o.guard fr go) (hf:FrOk ρ (fr++C.ff) nx a) :
  ∃ b G' fr',go b G' fr'/\Region.wanted o (yielded ops a.tmps)=b/\FrOk ρ (fr'++C.ff) nx a/\∀ d,lk fr d=none->lk fr' d=none:=by
 unfold gdx at h;cases hg:o.guard with
 | none=>rw[hg] at h;exact⟨true,G,fr,h,by simp[Region.wanted,hg],hf,fun _ h=>h⟩
 | some jw=>
  obtain⟨j,want⟩:=jw;rw[hg] at h;simp only at h;cases hd:zej ops j with
  | none=>rw[hd] at h;exact h.elim
  | some d=>
   rw[hd] at h;simp only at h;cases hv:lk fr d with
   | none=>rw[hv] at h;exact h.elim
   | some v=>
    rw[hv] at h;cases v<;>simp only at h<;>first | exact h.elim | skip
    case tuple vs=>
     refine⟨false,G,fr,h,?_,hf,fun _ h=>h⟩;have ht:a.tmps[d]?=some (.tuple (vs.map (zaW ρ))):=hf.frm d _ (za9 hv);have hy:yielded ops a.tmps j=none:=by
      unfold zej at hd;unfold yielded;cases ho:ops[j]? with
      | none=>rw[ho] at hd;cases hd
      | some o'=>rw[ho] at hd;simp only at hd;simp[hd,ht]
     simp[Region.wanted,hg,hy]
    rename_i t
    have ht:a.tmps[d]?=some (.bool t):=hf.frm d _ (za9 hv);have hy:=zka hd ht;have hw:∀ b:Bool,t=b->Region.wanted o (yielded ops a.tmps)=(b==want):=by
     rintro b rfl;simp[Region.wanted,hg,hy]
    have hput:∀ b:Bool,t=b->FrOk ρ (((d,.bool b)::fr)++C.ff) nx a/\∀ e,lk fr e=none->lk ((d,Value.bool b)::fr) e=none:=by
     rintro b rfl;refine⟨⟨fun u x hx=>?_,fun u x hx=>?_⟩,fun e he=>?_⟩
     ·rcases za5 (l:=fr++C.ff) hx with⟨rfl,rfl⟩ | ⟨_,hx⟩
      ·exact ht
      ·exact hf.frm u x hx
     ·rcases za5 (l:=fr++C.ff) hx with⟨rfl,rfl⟩ | ⟨_,hx⟩
      ·trivial
      ·exact hf.frk u x hx
     ·rw[zcI _ _ (by rintro rfl;rw[hv] at he;cases he)];exact he
    cases hG:G.contains j with
    | true=>
     rw[hG] at h;cases t with
     | true=>exact⟨want,G,fr,h,by rw[hw true rfl];cases want<;>rfl,hf,fun _ h=>h⟩
     | false=>exact⟨!want,G,fr,h,by rw[hw false rfl];cases want<;>rfl,hf,fun _ h=>h⟩
    | false=>
     rw[hG] at h;cases t with
     | true=>exact⟨want,_,_,h.1 rfl,by rw[hw true rfl];cases want<;>rfl,(hput true rfl).1,(hput true rfl).2⟩
     | false=>exact⟨!want,_,_,h.2 rfl,by rw[hw false rfl];cases want<;>rfl,(hput false rfl).1,(hput false rfl).2⟩
theorem Sat.frm (h:Sat C ρ fr mem nx a w) {fr':AF} (hf:FrOk ρ (fr'++C.ff) nx a):Sat C ρ fr' mem nx a w:=⟨hf,h.sz,h.dfr,h.mlt,h.blk,h.sep,h.n0,h.low,h.rest⟩
theorem zcD:okV ρ nx (.tuple #[]):=fun v hv=>by simp at hv
theorem zd4:den ρ (.tuple #[])=undef:=by simp[den,undef]
theorem zd0 {I:List Nat} (hτ:zcl P τ) (hF:zaY P F I) (hfm:C.fm=[]) {ops:Array Oper} {K:AF->AM->Nat->Prop}:∀ (l:List Oper),(∀ o ∈ l,∀ i,o.dst=some i->i<C.nt)->∀ (G:List Nat) (fr:AF) (mem:AM) (nx:Nat) (ρ:Nat->Pl) (a:Act) (w:World),opsx τ F ops l G fr mem nx K->Sat C ρ fr mem nx a w->
  (∀ fr' mem' nx' ρ' a' w',K fr' mem' nx'->Sat C ρ' fr' mem' nx' a' w'->Ext ρ nx ρ' nx'->Q .normal a' w')->wpList P ops Q l a w
 | [],_,G,fr,mem,nx,ρ,a,w,h,hs,hK=>hK _ _ _ _ _ _ h hs (Ext.refl _ _)
 | o::l,hd,G,fr,mem,nx,ρ,a,w,h,hs,hK=>by
  simp only[zmy,zcB] at h
  obtain⟨b,G',fr',hgo,hw,hf,-⟩:=zdD h hs.fok
  have hs':=hs.frm hf
  rw[wpList]
  cases b with
  | false=>
   rw[if_neg (by rw[hw];simp)]
   exact zd0 hτ hF hfm l (fun o' ho'=>hd o' (List.mem_cons_of_mem _ ho')) G' _ mem nx ρ _ w hgo (zd4 (ρ:=ρ) ▸ hs'.put (d:=o.dst) (hd o (List.mem_cons_self ..)) zcD) hK
  | true=>
   rw[if_pos hw]
   refine .inl (Oper.wp_mono ?_ (zeC (Q:=Q) hτ hF (.inl hfm) (hd o (List.mem_cons_self ..)) hgo hs'))
   rintro a2 w2 ⟨fr2,mem2,nx2,ρ2,hk2,hs2,hx2,-⟩
   exact zd0 hτ hF hfm l (fun o' ho'=>hd o' (List.mem_cons_of_mem _ ho')) G' fr2 mem2 nx2 ρ2 a2 w2 hk2 hs2 (fun fr' mem' nx' ρ' a' w' hk hsat hx=>hK fr' mem' nx' ρ' a' w' hk hsat (hx2.ext.trans hx))
end
/-! A region that draws its order. -/
structure DP where
 k:Nat
 L:List Nat:=[]
 pre:List (Nat×Bool):=[]
 A:List Nat:=[]
 post:List (Nat×Bool):=[]
def keeps (mem:AM) (m:AM):Prop:=List.rec (motive:=fun _=>Prop) True (fun p _ ih=>lk mem p.1=some p.2/\ih) m
def sel (mem:AM):List Nat->AM
 | []=>[]
 | i::r=>(match lk mem i with | some b=>(i,b)::sel mem r | none=>sel mem r)
def strx (τ:TT) (F:FT) (ops:Array Oper) (memS:AM) (σ:List (Nat×Bool)):List Nat->AF->AM->Nat->(List Nat->AF->AM->Nat->Prop)->Prop:=
 List.rec (motive:=fun _=>List Nat->AF->AM->Nat->(List Nat->AF->AM->Nat->Prop)->Prop) (fun G fr mem nx K=>K G fr mem nx)
  (fun p _ ih G fr mem nx K=>match ops[p.1]? with
   | none=>False
   | some o=>gdx ops G o.guard fr (fun b G' fr'=>match b with
    | true=>(match p.2 with
     | false=>fvx τ fr' memS o.op fun v=>zel o.dst v fr' (fun fr2=>ih G' fr2 mem nx K)
     | true=>opx τ F o fr' mem nx (fun fr2 mem2 nx2=>keeps mem2 memS/\ih G' fr2 mem2 nx2 K))
    | false=>zel o.dst (.tuple #[]) fr' fun fr2=>ih G' fr2 mem nx K)) σ
theorem zhi (τ:TT) (F:FT) (ops:Array Oper) (memS:AM) (i:Nat) (act:Bool) (r:List (Nat×Bool)) (G:List Nat) (fr:AF) (mem:AM) (nx:Nat) (K:List Nat->AF->AM->Nat->Prop):strx τ F ops memS ((i,act)::r) G fr mem nx K=(match ops[i]? with
  | none=>False
  | some o=>gdx ops G o.guard fr (fun b G' fr'=>match b with
   | true=>(match act with
    | false=>fvx τ fr' memS o.op fun v=>zel o.dst v fr' (fun fr2=>strx τ F ops memS r G' fr2 mem nx K)
    | true=>opx τ F o fr' mem nx (fun fr2 mem2 nx2=>keeps mem2 memS/\strx τ F ops memS r G' fr2 mem2 nx2 K))
   | false=>zel o.dst (.tuple #[]) fr' fun fr2=>strx τ F ops memS r G' fr2 mem nx K)):=rfl
theorem zdS {mem:AM}:∀ {memS:AM},keeps mem memS->∀ i b,lk memS i=some b->lk mem i=some b
 | [],_,i,b,h=>by simp[lk] at h
 | (j,c)::r,hk,i,b,h=>by
  rcases za5 h with⟨rfl,rfl⟩ | ⟨_,h⟩
  ·exact hk.1
  ·exact zdS hk.2 i b h
theorem zgp {mem:AM}:∀ {L:List Nat} (i:Nat) (b:ABlk),lk (sel mem L) i=some b->lk mem i=some b
 | [],i,b,h=>by simp[sel,lk] at h
 | j::r,i,b,h=>by
  simp only[sel] at h
  cases hj:lk mem j with
  | none=>rw[hj] at h;exact zgp i b h
  | some c=>
   rw[hj] at h
   rcases za5 h with⟨rfl,rfl⟩ | ⟨_,h⟩
   ·exact hj
   ·exact zgp i b h
section
variable {P:Program} {τ:TT} {F:FT} {C:Ctx} {ρ:Nat->Pl} {fr:AF} {mem:AM} {nx:Nat} {a:Act} {w:World} {Q:Exit->Act->World->Prop}
theorem BlkOk.back {ρS:Nat->Pl} {nS i:Nat} {w1 w:World} {b:ABlk} (h1:BlkOk C ρS nS i w1 b) (hx:Ext ρS nS ρ nx) (hi:ρ i=ρS i) (h:BlkOk C ρ nx i w b):BlkOk C ρS nS i w b:=by
 cases b with
 | box t cs=>
  obtain⟨g1,e1,-,-,hcs⟩:=h1;obtain⟨g,e,hb,hbs,-⟩:=h;rw[hi] at e;refine⟨g,e,?_,hbs,hcs⟩;have:cs.map (zal ρ)=cs.map (zal ρS):=List.map_congr_left fun v hv=>zbK hx.1 (hcs v hv)
  rw[← this];exact hb
 | row t sz n el=>
  obtain⟨e,h2,h3⟩:=h;rw[hi] at e h3;exact⟨e,h2,h3⟩
 | ext eb=>cases eb with
  | fam t sb=>exact⟨h.1,fun k o=>by have:=h.2 k o;rw[hi] at this;exact this⟩
  | map kk ag f=>
   obtain⟨g,es,cl,e1,e2⟩:=h;exact⟨g,es,cl,by rw[← hi];exact e1,e2⟩
  | obj S Φ=>
   obtain⟨g,e1,e2⟩:=h;exact⟨g,by rw[← hi];exact e1,e2⟩
  | deep t sz n cap el u=>
   obtain⟨-,hu,-,-⟩:=h1;obtain⟨e,-,h2,h3⟩:=h;rw[hi] at e h3;have hur:=hx.1 u hu.1 hu.2;refine⟨e,hu,h2,h3.imp id ?_⟩;rintro⟨hn,b,off,hA,hlt,hcap,hc⟩;exact⟨hn,b,off,hA,hlt,hcap,fun k hk j v hv=>by rw[← zg1 hur k j ((h2 k hk).2 v (List.mem_of_getElem? hv))];exact hc k hk j v hv⟩
structure Held (C:Ctx) (ρS:Nat->Pl) (nS:Nat) (memS:AM) (w1:World):Prop where
 blk:∀ i b,lk memS i=some b->BlkOk C ρS nS i w1 b
 lt:∀ i b,lk memS i=some b->i<nS/\(ρS i).res=false
def HeldS (C:Ctx) (ρS:Nat->Pl) (nS:Nat) (memS:AM) (w:World):Prop:=∀ i b,lk memS i=some b->BlkOk C ρS nS i w b
theorem Held.now {ρS:Nat->Pl} {nS:Nat} {memS:AM} {w1:World} (h:Held C ρS nS memS w1) (hx:Ext ρS nS ρ nx) (hs:Sat C ρ fr mem nx a w) (hk:∀ i b,lk memS i=some b->lk (mem++C.fm) i=some b):HeldS C ρS nS memS w:=
 fun i b hi=>(h.blk i b hi).back hx (hx.1 i (h.lt i b hi).1 (h.lt i b hi).2) (hs.blk i b (hk i b hi))
theorem HeldS.cur {ρS:Nat->Pl} {nS:Nat} {memS:AM} {w1:World} (h:Held C ρS nS memS w1) (hS:HeldS C ρS nS memS w) (hx:Ext ρS nS ρ nx):∀ i b,lk memS i=some b->BlkOk C ρ nx i w b:=
 fun i b hi=>(hS i b hi).ren (hx.1 i (h.lt i b hi).1 (h.lt i b hi).2) hx.1 hx.2
theorem zgX (hτ:zcl P τ) {ops:Array Oper} {ρS:Nat->Pl} {nS:Nat} {memS:AM} {w1:World} (hH:Held C ρS nS memS w1) (hx:Ext ρS nS ρ nx) (hf:FrOk ρ fr nx a) (hS:HeldS C ρS nS memS w) {o:Oper} {K:Value->Prop} (hw:Region.wanted o (yielded ops a.tmps)=true) (h:fvx τ fr memS o.op K) :
  ∃ v,K v/\okV ρ nx v/\YieldsIf P ops (HeldS C ρS nS memS) o (den ρ v) a:=by
 obtain⟨v,h1,h2,h3⟩:=zkW (P:=P) (C:=C) hτ hf (fun i b hi=>⟨Nat.lt_of_lt_of_le (hH.lt i b hi).1 hx.2,by rw[hx.1 i (hH.lt i b hi).1 (hH.lt i b hi).2];exact (hH.lt i b hi).2⟩) (H:=HeldS C ρS nS memS) (fun w hS=>HeldS.cur hH hS hx) hS h;exact⟨v,h1,h2,.inl ⟨hw,h3⟩⟩
theorem zdL {I:List Nat} (hτ:zcl P τ) (hF:zaY P F I) (hfm:C.fm=[]) {ops:Array Oper} (hd:∀ (i:Nat) (o:Oper),ops[i]?=some o->∀ j,o.dst=some j->j<C.nt) (hQ:∀ c a a' w,Q (.panic c) a w->Q (.panic c) a' w)
  {ρS:Nat->Pl} {nS:Nat} {memS:AM} {w1:World} (hH:Held C ρS nS memS w1) {K:List Nat->AF->AM->Nat->Prop}:∀ (σ:List (Nat×Bool)) (G:List Nat) (fr:AF) (mem:AM) (nx:Nat) (ρ:Nat->Pl) (a:Act) (w:World),
  strx τ F ops memS σ G fr mem nx K->Sat C ρ fr mem nx a w->Ext ρS nS ρ nx->HeldS C ρS nS memS w->
  (∀ G' fr' mem' nx' ρ' a' w',K G' fr' mem' nx'->Sat C ρ' fr' mem' nx' a' w'->Ext ρS nS ρ' nx'->Q .normal a' w')->zft P ops Q (HeldS C ρS nS memS) σ a w
 | [],G,fr,mem,nx,ρ,a,w,h,hs,hx,hS,hK=>hK _ _ _ _ _ _ _ h hs hx
 | (i,act)::r,G,fr,mem,nx,ρ,a,w,h,hs,hx,hS,hK=>by
  simp only[zhi,zcB] at h
  cases ho:ops[i]? with
  | none=>rw[ho] at h;exact h.elim
  | some o=>
   rw[ho] at h
   simp only at h
   obtain⟨b,G',fr',hgo,hw,hf,-⟩:=zdD h hs.fok
   have hs':=hs.frm hf
   cases b with
   | false=>
    have hrest:=zdL hτ hF hfm hd hQ hH r G' _ mem nx ρ _ w hgo (hs'.put (d:=o.dst) (hd i o ho) zcD) hx hS hK
    rw[zd4] at hrest
    cases act with
    | false=>exact⟨o,undef,ho,fun c a w h=>hQ _ _ _ _ h,.inr ⟨hw,rfl⟩,hrest⟩
    | true=>
     simp only[zft]
     unfold wpOp
     simp only[ho]
     rw[if_neg (by rw[hw];simp)]
     exact⟨hS,hrest⟩
   | true=>
    cases act with
    | false=>
     simp only at hgo
     obtain⟨v,hgo,hok,hy⟩:=zgX (P:=P) (ops:=ops) hτ hH hx hf.left hS hw hgo
     have hrest:=zdL hτ hF hfm hd hQ hH r G' _ mem nx ρ _ w hgo (hs'.put (d:=o.dst) (hd i o ho) hok) hx hS hK
     exact⟨o,_,ho,fun c a w h=>hQ _ _ _ _ h,hy,hrest⟩
    | true=>
     simp only at hgo
     simp only[zft]
     refine zfu ho hw (Oper.wp_mono ?_ (zeC (Q:=Q) hτ hF (.inl hfm) (hd i o ho) hgo hs'))
     rintro a2 w2 ⟨fr2,mem2,nx2,ρ2,⟨hk2,hk3⟩,hs2,hx2,-⟩
     have hS2:=hH.now (hx.trans hx2.ext) hs2 (fun i b hi=>za9 (zdS hk2 i b hi))
     exact⟨hS2,zdL hτ hF hfm hd hQ hH r G' fr2 mem2 nx2 ρ2 a2 w2 hk3 hs2 (hx.trans hx2.ext) hS2 hK⟩
end
structure AI where
 j:Nat
 ν:Nat
 d:Nat
 t:TypeId
 zero:List Value
def mkA (τ:TT) (ops:Array Oper):Nat->List Nat->Option (List AI)
 | _,[]=>some []
 | nx,j::r=>(match ops[j]? with
  | some { dst:=some d,op:=.alloc t,guard:=none,.. }=>(match lk τ t with
   | some ti=>(match mkA τ ops (nx+1) r with | some l=>some (⟨j,nx,d,t,ti.zero⟩::l) | none=>none)
   | none=>none)
  | _=>none)
def zdt:List AI->AF
 | []=>[]
 | x::r=>(x.d,.pointer (some ⟨x.ν,0,none⟩))::zdt r
def zlo:List AI->AM
 | []=>[]
 | x::r=>(x.ν,.box x.t x.zero)::zlo r
def delF (d:Nat):AF->AF
 | []=>[]
 | (k,v)::l=>(match Nat.beq k d with | true=>delF d l | false=>(k,v)::delF d l)
def zi6:List AI->AF->AF
 | [],fr=>fr
 | x::r,fr=>zi6 r (delF x.d fr)
def zdl (ops:Array Oper) (post:List (Nat×Bool)):Nat->List (Nat×Bool)->Array Bool->List Nat->Bool
 | 0,_,_,_=>false
 | n+1,σ,listed,pend=>(match σ with
  | (i,false)::r=>Region.free .any ops listed i&&(Region.ready .any ops listed).contains i&&zdl ops post n r (listed.setIfInBounds i true) pend
  | (i,true)::r=>!(Region.ready .any ops listed).isEmpty&&(Region.ready .any ops listed).all fun j=>
    (decide (j=i)&&zdl ops post n r (listed.setIfInBounds i true) pend)||(pend.contains j&&zdl ops post n σ (listed.setIfInBounds j true) (pend.filter fun k=>!(k==j)))
  | []=>(match pend with
   | []=>ziA ops post listed
   | _::_=>!(Region.ready .any ops listed).isEmpty&&(Region.ready .any ops listed).all fun j=>pend.contains j&&zdl ops post n [] (listed.setIfInBounds j true) (pend.filter fun k=>!(k==j))))
def dregx (τ:TT) (F:FT) (l:List Oper) (d:DP) (fr:AF) (mem:AM) (nx:Nat) (K:AF->AM->Nat->Prop):Prop:=
 match mkA τ (l.take d.k).toArray nx d.A with
 | none=>False
 | some xs=>strx τ F (l.take d.k).toArray (sel mem d.L) d.pre [] (zi6 xs fr) mem (nx+d.A.length) (fun G fr1 mem1 nx1=>
   strx τ F (l.take d.k).toArray (sel mem d.L) d.post G (fr1++zdt xs) (mem1++zlo xs) nx1 (fun G fr2 mem2 nx2=>opsx τ F l.toArray (l.drop d.k) G fr2 mem2 nx2 K))
def preDst (ops:Array Oper) (A:List Nat) (σ:List (Nat×Bool)):Bool:=
 σ.all fun p=>match zej ops p.1 with | some d=>A.all fun j=>!(zej ops j==some d) | none=>true
def zhJ:List Nat->Bool
 | []=>true
 | x::r=>!r.contains x&&zhJ r
def dregB (l:List Oper) (d:DP):Bool:=
 zmF l d.k&&Region.noSelect (l.take d.k).toArray&&decide (d.pre.length+d.A.length+d.post.length=d.k)&&zdl (l.take d.k).toArray d.post (d.k+1) d.pre (Array.replicate d.k false) d.A &&
  preDst (l.take d.k).toArray d.A d.pre&&zhJ d.A&&zhJ (d.A.map fun j=>(zej (l.take d.k).toArray j).getD 0)
def Ctx.wf (C:Ctx) (D:List AI):Ctx:={ C with ff:=zdt D,fm:=zlo D }
section
variable {P:Program} {τ:TT} {F:FT} {C:Ctx} {ρ:Nat->Pl} {fr:AF} {mem:AM} {nx:Nat} {a:Act} {w:World} {Q:Exit->Act->World->Prop}
theorem zbd {α:Type} {l r:List (Nat×α)} {n:Nat} (h:lk l n=none):lk (l++r) n=lk r n:=by
 induction l with
 | nil=>rfl
 | cons p l ih=>
  obtain⟨k,u⟩:=p;rw[List.cons_append];by_cases hk:k=n
  ·subst hk;rw[zbM] at h;cases h
  ·rw[zcI _ _ hk] at h ⊢;exact ih h
theorem zjb {d:Nat}:∀ {fr:AF},lk (delF d fr) d=none/\∀ t v,lk (delF d fr) t=some v->lk fr t=some v
 | []=>⟨rfl,fun t v h=>by simp[delF,lk] at h⟩
 | (k,u)::l=>by
  obtain⟨h1,h2⟩:=zjb (d:=d) (fr:=l)
  simp only[delF]
  cases hb:Nat.beq k d with
  | true=>
   have hk:=Nat.eq_of_beq_eq_true hb
   subst hk
   refine⟨h1,fun t v h=>?_⟩
   rw[zcI _ _ (by rintro rfl;rw[h1] at h;cases h)]
   exact h2 t v h
  | false=>
   have hk:k≠d:=by rintro rfl;rw[Nat.beq_refl] at hb;cases hb
   refine⟨by simp only;rw[zcI _ _ hk];exact h1,fun t v h=>?_⟩
   simp only at h
   by_cases ht:k=t
   ·subst ht;rw[zbM] at h ⊢;exact h
   ·rw[zcI _ _ ht] at h ⊢;exact h2 t v h
theorem zjZ:∀ {xs:List AI} {fr:AF},(∀ x ∈ xs,lk (zi6 xs fr) x.d=none)/\∀ t v,lk (zi6 xs fr) t=some v->lk fr t=some v
 | [],fr=>⟨fun x hx=>absurd hx (List.not_mem_nil),fun t v h=>h⟩
 | x::r,fr=>by
  obtain⟨h1,h2⟩:=zjZ (xs:=r) (fr:=delF x.d fr)
  refine⟨fun y hy=>?_,fun t v h=>zjb.2 t v (h2 t v h)⟩
  rcases List.mem_cons.1 hy with rfl | hy
  ·cases hv:lk (zi6 (y::r) fr) y.d with
   | none=>rfl
   | some v=>have:=h2 _ _ hv;rw[zjb.1] at this;cases this
  ·exact h1 y hy
theorem zjB:∀ {D:List AI} {t:Nat} {v:Value},lk (zdt D) t=some v->∃ x ∈ D,x.d=t/\v=.pointer (some ⟨x.ν,0,none⟩)
 | [],t,v,h=>by simp[zdt,lk] at h
 | x::r,t,v,h=>by
  rcases za5 h with⟨h1,h2⟩ | ⟨_,h⟩
  ·exact⟨x,List.mem_cons_self ..,h1,h2.symm⟩
  ·obtain⟨y,hy,h3⟩:=zjB h
   exact⟨y,List.mem_cons_of_mem _ hy,h3⟩
theorem znE:∀ {D:List AI} {i:Nat} {b:ABlk},lk (zlo D) i=some b->∃ x ∈ D,x.ν=i/\b=.box x.t x.zero
 | [],t,v,h=>by simp[zlo,lk] at h
 | x::r,t,v,h=>by
  rcases za5 h with⟨h1,h2⟩ | ⟨_,h⟩
  ·exact⟨x,List.mem_cons_self ..,h1,h2.symm⟩
  ·obtain⟨y,hy,h3⟩:=znE h
   exact⟨y,List.mem_cons_of_mem _ hy,h3⟩
def Sole (D:List AI):Prop:=∀ x ∈ D,∀ y ∈ D,(x.d=y.d∨x.ν=y.ν∨x.j=y.j)->x=y
theorem zhr:∀ {D:List AI},Sole D->∀ x ∈ D,lk (zdt D) x.d=some (.pointer (some ⟨x.ν,0,none⟩))
 | [],_,x,hx=>by cases hx
 | y::r,hs,x,hx=>by
  by_cases he:y.d=x.d
  ·have:y=x:=hs y (List.mem_cons_self ..) x hx (.inl he)
   subst this
   exact zbM _ _ _
  ·simp only[zdt]
   rw[zcI _ _ he]
   rcases List.mem_cons.1 hx with rfl | hx
   ·exact absurd rfl he
   ·exact zhr (fun a ha b hb=>hs a (List.mem_cons_of_mem _ ha) b (List.mem_cons_of_mem _ hb)) x hx
theorem zk5:∀ {D:List AI},Sole D->∀ x ∈ D,lk (zlo D) x.ν=some (.box x.t x.zero)
 | [],_,x,hx=>by cases hx
 | y::r,hs,x,hx=>by
  by_cases he:y.ν=x.ν
  ·have:y=x:=hs y (List.mem_cons_self ..) x hx (.inr (.inl he))
   subst this
   exact zbM _ _ _
  ·simp only[zlo]
   rw[zcI _ _ he]
   rcases List.mem_cons.1 hx with rfl | hx
   ·exact absurd rfl he
   ·exact zk5 (fun a ha b hb=>hs a (List.mem_cons_of_mem _ ha) b (List.mem_cons_of_mem _ hb)) x hx
theorem Sat.ctx {C C':Ctx} {fr fr':AF} {mem mem':AM} (h:Sat C ρ fr mem nx a w) (hw:C'.w0=C.w0) (hb:C'.bor=C.bor) (hn:C'.n0=C.n0) (hr:C'.ρ0=C.ρ0) (ht:C'.nt=C.nt)
  (hf:∀ t v,lk (fr'++C'.ff) t=some v->lk (fr++C.ff) t=some v) (hm:∀ i b,lk (mem'++C'.fm) i=some b->lk (mem++C.fm) i=some b):Sat C' ρ fr' mem' nx a w:=by
 obtain⟨w0,bor,n0,ρ0,nt,ff,fm⟩:=C;obtain⟨w0',bor',n0',ρ0',nt',ff',fm'⟩:=C';simp only at hw hb hn hr ht;subst hw hb hn hr ht
 exact⟨⟨fun t v hv=>h.fok.frm t v (hf t v hv),fun t v hv=>h.fok.frk t v (hf t v hv)⟩,h.sz,h.dfr,fun i b hi=>h.mlt i b (hm i b hi),fun i b hi=>by
  have:=h.blk i b (hm i b hi)
  cases b<;>exact this,fun i j b b' hne hi hj=>h.sep i j b b' hne (hm i b hi) (hm j b' hj),h.n0,h.low,⟨h.rest.os,h.rest.tape,h.rest.output,h.rest.size,h.rest.block⟩⟩
theorem Sat.comeup (hτ:zcl P τ) {D:List AI} {x:AI} {ti:TI} (hti:lk τ x.t=some ti) (hz:x.zero=ti.zero) (hsole:Sole (x::D)) (hxD:x ∉ D) (h:Sat (C.wf D) ρ fr mem nx a w) (hν:x.ν<nx) (hν0:C.n0<=x.ν) (hres:(ρ x.ν).res=true) (hfr:lk fr x.d=none) (hd:x.d<C.nt) :
  Sat (C.wf (x::D)) (zac ρ x.ν ⟨some ⟨w.heap.size,0,none⟩,0,0,false,za4⟩) fr mem nx (a.put (some x.d) (.pointer (some ⟨w.heap.size,0,none⟩))) (w.alloc (.cells x.zero.toArray x.t)):=by
 have ht:=hτ _ _ hti;have hmap:∀ ρ:Nat->Pl,x.zero.map (zal ρ)=x.zero:=fun ρ=>by
  conv=>rhs;rw[← List.map_id x.zero]
  exact List.map_congr_left fun v hv=>zaM (ht.zero v (hz ▸ hv))
 have h1:=h.fill (b:=.box x.t x.zero) (p:=⟨some ⟨w.heap.size,0,none⟩,0,0,false,za4⟩) hν hν0 hres ((Below.refl _ _).alloc nl_ (.cells x.zero.toArray x.t))
  ⟨w.heap.size,by rw[za2],by rw[hmap];exact Blk.new _ _ _,.inl h.rest.size,fun v hv=>zbO (ht.zero v (hz ▸ hv))⟩ (fun g hg=>by simp at hg;omega) rfl
 have hok:okV (zac ρ x.ν ⟨some ⟨w.heap.size,0,none⟩,0,0,false,za4⟩) nx (.pointer (some ⟨x.ν,0,none⟩)):=⟨⟨hν,by simp[za2]⟩,⟨w.heap.size,0,by simp[za2]⟩,fun k hk=>by cases hk⟩;have h2:=h1.put (d:=some x.d) (fun i hi=>by cases hi;exact hd) hok;have e:den (zac ρ x.ν ⟨some ⟨w.heap.size,0,none⟩,0,0,false,za4⟩) (.pointer (some ⟨x.ν,0,none⟩))=.pointer (some ⟨w.heap.size,0,none⟩):=by simp[den,zaW,zal,zau,zaq,za2]
 rw[e] at h2;have hmem:lk mem x.ν=none:=by
  cases hm:lk mem x.ν with
  | none=>rfl
  | some b=>have:=(h.mlt _ _ (za9 hm)).2;rw[hres] at this;cases this
 refine h2.ctx rfl rfl rfl rfl rfl (fun t v hv=>?_) (fun i b hb=>?_)
 ·show lk ((x.d,_)::(fr++zdt D)) t=some v;have hv':lk (fr++((x.d,.pointer (some ⟨x.ν,0,none⟩))::zdt D)) t=some v:=hv;cases hft:lk fr t with
  | some u=>
   rw[za9 hft] at hv';rw[zcI _ _ (by rintro rfl;rw[hfr] at hft;cases hft),za9 hft];exact hv'
  | none=>
   rw[zbd hft] at hv';by_cases ht:x.d=t
   ·subst ht;rw[zbM] at hv' ⊢;exact hv'
   ·rw[zcI _ _ ht] at hv' ⊢;rw[zbd hft];exact hv'
 ·show lk ((x.ν,_)::(mem++zlo D)) i=some b;have hb':lk (mem++((x.ν,.box x.t x.zero)::zlo D)) i=some b:=hb;cases hft:lk mem i with
  | some u=>
   rw[za9 hft] at hb';rw[zcI _ _ (by rintro rfl;rw[hmem] at hft;cases hft),za9 hft];exact hb'
  | none=>
   rw[zbd hft] at hb';by_cases ht:x.ν=i
   ·subst ht;rw[zbM] at hb' ⊢;exact hb'
   ·rw[zcI _ _ ht] at hb' ⊢;rw[zbd hft];exact hb'
end
section
variable {P:Program} {τ:TT} {F:FT} {C:Ctx} {ρ:Nat->Pl} {fr:AF} {mem:AM} {nx:Nat} {a:Act} {w:World} {Q:Exit->Act->World->Prop}
theorem zjU {D:List AI} {ρS:Nat->Pl} {nS:Nat} {memS:AM}:HeldS (C.wf D) ρS nS memS w↔HeldS C ρS nS memS w:=
 ⟨fun h i b hi=>by have:=h i b hi;cases b<;>exact this,fun h i b hi=>by have:=h i b hi;cases b<;>exact this⟩
theorem held_wf {D:List AI} {ρS:Nat->Pl} {nS:Nat} {memS:AM} (h:Held C ρS nS memS w):Held (C.wf D) ρS nS memS w:=⟨zjU.2 h.blk,h.lt⟩
structure Pend (τ:TT) (ops:Array Oper) (n0 nt:Nat) (ρ:Nat->Pl) (nx:Nat) (fr:AF) (x:AI):Prop where
 lt:x.ν<nx
 ge:n0<=x.ν
 res:(ρ x.ν).res=true
 free:lk fr x.d=none
 nt:x.d<nt
 op:∃ o,ops[x.j]?=some o/\o.op=.alloc x.t/\o.dst=some x.d/\o.guard=none
 ti:∃ ti,lk τ x.t=some ti/\x.zero=ti.zero
theorem znO {t:TypeId} {ti:TI} (ht:TIok P t ti) {o:Oper} (ho:o.op=.alloc t):(execOp a.eval o).run P w=.ok (.value (.pointer (some ⟨w.heap.size,0,none⟩))) (w.alloc (.cells ti.zero.toArray t)):=by
 obtain⟨i,hi,hsz,z,hz,hzc⟩:=ht.size;have hza:z.cells=ti.zero.toArray:=by apply Array.toList_inj.1;simp[hzc]
 simp[execOp,ho,Instr.alloc,zeroValue,typeInfo,hi,hz,newVar,newRow,newObj,hza,Sem.run]
theorem zj5 {I:List Nat} (hτ:zcl P τ) (hF:zaY P F I) {ops:Array Oper} (hsel:Region.noSelect ops=true) (hd:∀ (i:Nat) (o:Oper),ops[i]?=some o->∀ j,o.dst=some j->j<C.nt) (hQ:∀ c a a' w,Q (.panic c) a w->Q (.panic c) a' w)
  {ρS:Nat->Pl} {nS:Nat} {memS:AM} {w1:World} (hH:Held C ρS nS memS w1) {K:List Nat->AF->AM->Nat->Prop} {post:List (Nat×Bool)} {A:List AI} (hAI:A=[]∨∀ (i:Nat) (o:Oper),ops[i]?=some o->zgT I o.op=true)
  (hK:∀ G' fr' mem' nx' ρ' a' w' D',K G' fr' mem' nx'->Sat (C.wf D') ρ' fr' mem' nx' a' w'->Ext ρS nS ρ' nx'->HeldS C ρS nS memS w'->(∀ x ∈ A,x ∈ D')->Sole D'->(∀ x ∈ A,lk fr' x.d=none)->zft P ops Q (HeldS C ρS nS memS) post a' w') :
  ∀ (n:Nat) (σ:List (Nat×Bool)) (listed:Array Bool) (pend D:List AI) (G:List Nat) (fr:AF) (mem:AM) (nx:Nat) (ρ:Nat->Pl) (a:Act) (w:World),zdl ops post n σ listed (pend.map (·.j))=true->
  strx τ F ops memS σ G fr mem nx K->Sat (C.wf D) ρ fr mem nx a w->Ext ρS nS ρ nx->HeldS C ρS nS memS w->(∀ x ∈ pend,Pend τ ops C.n0 C.nt ρ nx fr x)->(∀ x ∈ A,x ∈ pend∨x ∈ D)->Sole (pend++D)->(∀ x ∈ pend,x ∉ D)->(∀ x ∈ A,lk fr x.d=none)->
  (∀ p ∈ σ,∀ d,zej ops p.1=some d->∀ x ∈ A,x.d≠d)->(∀ x ∈ pend,x ∈ A)->(pend.map (·.j)).Nodup->(D=[]∨∀ (i:Nat) (o:Oper),ops[i]?=some o->zgT I o.op=true)->
  wpAnyH P .any ops Q (HeldS C ρS nS memS) (σ.length+pend.length+post.length) listed a w:=by
 intro n;induction n with
 | zero=>intro σ listed pend D G fr mem nx ρ a w hB;simp[zdl] at hB
 | succ n ih=>
  intro σ listed pend D G fr mem nx ρ a w hB h hs hx hS hp hA hsole hdis hnone hdst hpA hnd hDI;-- a pending variable comes up
  have key:∀ (j:Nat),(pend.map (·.j)).contains j=true->zdl ops post n σ (listed.setIfInBounds j true) ((pend.map (·.j)).filter fun k=>!(k==j))=true->
    ∃ m,σ.length+pend.length+post.length=m+1/\wpOp P ops Q j (fun a' w'=>HeldS C ρS nS memS w'/\wpAnyH P .any ops Q (HeldS C ρS nS memS) m (listed.setIfInBounds j true) a' w') a w:=by
   intro j hj hfl;obtain⟨x,hxp,rfl⟩:∃ x ∈ pend,x.j=j:=by simpa using hj
   obtain⟨hlt,hge,hres,hnn,hnt,⟨o,ho,hop,hod,hog⟩,ti,hti,hz⟩:=hp x hxp;have hsx:Sole (x::D):=fun y hy z hz=>hsole y (by rcases List.mem_cons.1 hy with rfl | hy;exact List.mem_append_left _ hxp;exact List.mem_append_right _ hy) z (by rcases List.mem_cons.1 hz with rfl | hz;exact List.mem_append_left _ hxp;exact List.mem_append_right _ hz)
   have hs2:=hs.comeup hτ hti hz hsx (hdis x hxp) hlt hge hres hnn hnt;have hxx:Ext ρ nx (zac ρ x.ν ⟨some ⟨w.heap.size,0,none⟩,0,0,false,za4⟩) nx:=⟨fun i _ hr=>if_neg (by rintro rfl;rw[hr] at hres;cases hres),nl_⟩;have hbel:Below w.heap.size w (w.alloc (.cells x.zero.toArray x.t)):=(Below.refl _ _).alloc nl_ _;have hS2:HeldS C ρS nS memS (w.alloc (.cells x.zero.toArray x.t)):=fun i b hi=>(hS i b hi).later hbel
   have hflen:(pend.filter fun y=>!(y.j==x.j)).length+1=pend.length:=by
    have h1:(pend.map (·.j)).filter (fun k=>!(k==x.j))=(pend.map (·.j)).erase x.j:=by
     rw[List.Nodup.erase_eq_filter hnd];congr 1
    have h2:=congrArg List.length h1;rw[List.filter_map,List.length_map,List.length_erase_of_mem (List.mem_map_of_mem hxp),List.length_map] at h2;have:0<pend.length:=List.length_pos_of_mem hxp;have e:(pend.filter ((fun k=>!(k==x.j)) ∘ fun y:AI=>y.j))=pend.filter fun y=>!(y.j==x.j):=rfl
    rw[e] at h2;omega
   refine⟨σ.length+(pend.filter fun y=>!(y.j==x.j)).length+post.length,o_,?_⟩;refine zjq ho hog ?_;have hrun:=znO (P:=P) (a:=a) (w:=w) (hτ _ _ hti) hop;rw[← hz] at hrun;refine zbf hrun ⟨hS2,?_⟩;rw[hod];refine ih σ _ (pend.filter fun y=>!(y.j==x.j)) (x::D) G fr mem nx _ _ _ ?_ h hs2 (hx.trans hxx) hS2 ?_ ?_ ?_ ?_ hnone hdst ?_ ?_ (.inr (hAI.resolve_left fun q=>by have:=hpA x hxp;rw[q] at this;cases this))
   ·rw[List.filter_map] at hfl;exact hfl
   ·intro y hy;obtain⟨hyp,hyj⟩:=List.mem_filter.1 hy;obtain⟨q1,q0,q2,q3,q4,q5,q6⟩:=hp y hyp;refine⟨q1,q0,?_,q3,q4,q5,q6⟩
    rw[show zac ρ x.ν _ y.ν=ρ y.ν from if_neg (by
     intro he
     have:=hsole y (List.mem_append_left _ hyp) x (List.mem_append_left _ hxp) (.inr (.inl he))
     subst this
     simp at hyj)]
    exact q2
   ·intro y hy;rcases hA y hy with h1 | h1
    ·by_cases he:y.j=x.j
     ·have:=hsole y (List.mem_append_left _ h1) x (List.mem_append_left _ hxp) (.inr (.inr he));subst this;exact .inr (List.mem_cons_self ..)
     ·exact .inl (List.mem_filter.2 ⟨h1,by simp[he]⟩)
    ·exact .inr (List.mem_cons_of_mem _ h1)
   ·intro y hy z hz;have f:∀ u,u ∈ (pend.filter fun y=>!(y.j==x.j))++x::D->u ∈ pend++D:=by
     intro u hu;rcases List.mem_append.1 hu with hu | hu
     ·exact List.mem_append_left _ (List.mem_filter.1 hu).1
     ·rcases List.mem_cons.1 hu with rfl | hu
      ·exact List.mem_append_left _ hxp
      ·exact List.mem_append_right _ hu
    exact hsole y (f y hy) z (f z hz)
   ·intro y hy hyD;obtain⟨hyp,hyj⟩:=List.mem_filter.1 hy;rcases List.mem_cons.1 hyD with rfl | hyD
    ·simp at hyj
    ·exact hdis y hyp hyD
   ·intro y hy;exact hpA y (List.mem_filter.1 hy).1
   ·have:((pend.filter fun y=>!(y.j==x.j)).map (·.j))=(pend.map (·.j)).filter (fun k=>!(k==x.j)):=by rw[List.filter_map];rfl
    rw[this];exact hnd.filter _
  cases σ with
  | nil=>
   cases hpd:pend with
   | nil=>
    subst hpd;simp only[zdl,List.map_nil] at hB;have hall:∀ x ∈ A,x ∈ D:=fun x hx=>(hA x hx).resolve_left (by simp)
    have:=hK G fr mem nx ρ a w D h hs hx hS hall (by simpa using hsole) hnone;have h2:=zd9 hsel post listed a w hB hS this;simpa using h2
   | cons y ys=>
    have hB2:=hB;rw[hpd] at hB2;simp only[zdl,List.map_cons,Bool.and_eq_true,List.all_eq_true,Bool.not_eq_true',List.isEmpty_eq_false_iff] at hB2;obtain⟨hne,hall⟩:=hB2;rw[← hpd];have hpos:0<pend.length:=by rw[hpd];simp
    obtain⟨m,hm⟩:∃ m,([]:List (Nat×Bool)).length+pend.length+post.length=m+1:=⟨pend.length+post.length-1,by simp;omega⟩;rw[hm];refine wpAnyH_all rfl hne fun j hj=>?_
    obtain⟨h1,h2⟩:=hall j hj;obtain⟨m',hm',hwp⟩:=key j (by rw[hpd];exact h1) (by rw[hpd];exact h2);obtain rfl:m'=m:=by omega
    exact hwp
  | cons p r=>
   obtain⟨i,act⟩:=p;simp only[zhi,zcB] at h;cases ho:ops[i]? with
   | none=>rw[ho] at h;exact h.elim
   | some o=>
    rw[ho] at h;simp only at h;have hod:∀ x ∈ A,o.dst≠some x.d:=by
     intro x hx he;exact hdst (i,act) (List.mem_cons_self ..) x.d (by simp[zej,ho,he]) x hx rfl
    have hlen:(((i,act)::r).length+pend.length+post.length)=(r.length+pend.length+post.length)+1:=by simp;omega
    obtain⟨b,G',fr',hgo,hw,hf,hnn⟩:=zdD (C:=C.wf D) h hs.fok;have hs':=hs.frm hf;have hputn:∀ (v:Value) (x:AI),x ∈ A->lk (putF o.dst v fr') x.d=none:=fun v x hx=>by rw[zbl (hod x hx)];exact hnn _ (hnone x hx)
    have hdst':∀ p ∈ r,∀ d,zej ops p.1=some d->∀ x ∈ A,x.d≠d:=fun p hp=>hdst p (List.mem_cons_of_mem _ hp)
    cases act with
    | false=>
     simp only[zdl,Bool.and_eq_true] at hB;obtain⟨⟨h1,h2⟩,h3⟩:=hB;rw[hlen];cases b with
     | false=>
      have hrest:=ih r _ pend D G' _ mem nx ρ _ w h3 hgo (zd4 (ρ:=ρ) ▸ hs'.put (d:=o.dst) (hd i o ho) zcD) hx hS (fun x hx=>by
       obtain⟨q1,q0,q2,q3,q4,q5,q6⟩:=hp x hx
       exact⟨q1,q0,q2,hputn _ x (hpA x hx),q4,q5,q6⟩) hA hsole hdis (fun x hx=>hputn _ x hx) hdst' hpA hnd hDI
      exact wpAnyH_take ho hsel h1 h2 (fun c a w h=>hQ _ _ _ _ h) (.inr ⟨hw,rfl⟩) hS hrest
     | true=>
      simp only at hgo;obtain⟨v,hgo,hok,hy⟩:=zgX (P:=P) (C:=C) (ops:=ops) hτ hH hx hf.left hS hw hgo
      have hrest:=ih r _ pend D G' _ mem nx ρ _ w h3 hgo (hs'.put (d:=o.dst) (hd i o ho) hok) hx hS (fun x hx=>by
       obtain⟨q1,q0,q2,q3,q4,q5,q6⟩:=hp x hx
       exact⟨q1,q0,q2,hputn _ x (hpA x hx),q4,q5,q6⟩) hA hsole hdis (fun x hx=>hputn _ x hx) hdst' hpA hnd hDI
      exact wpAnyH_take ho hsel h1 h2 (fun c a w h=>hQ _ _ _ _ h) hy hS hrest
    | true=>
     simp only[zdl,Bool.and_eq_true,List.all_eq_true,Bool.not_eq_true',List.isEmpty_eq_false_iff,Bool.or_eq_true,decide_eq_true_eq] at hB;obtain⟨hne,hall⟩:=hB;rw[hlen];refine wpAnyH_all rfl hne fun j hj=>?_
     rcases hall j hj with⟨rfl,h3⟩ | ⟨h1,h2⟩
     ·cases b with
      | false=>
       have hrest:=ih r _ pend D G' _ mem nx ρ _ w h3 hgo (zd4 (ρ:=ρ) ▸ hs'.put (d:=o.dst) (hd j o ho) zcD) hx hS (fun x hx=>by
        obtain⟨q1,q0,q2,q3,q4,q5,q6⟩:=hp x hx
        exact⟨q1,q0,q2,hputn _ x (hpA x hx),q4,q5,q6⟩) hA hsole hdis (fun x hx=>hputn _ x hx) hdst' hpA hnd hDI
       unfold wpOp;simp only[ho];rw[if_neg (by rw[hw];simp)];exact⟨hS,hrest⟩
      | true=>
       simp only at hgo;refine zfu ho hw (Oper.wp_mono ?_ (zeC (Q:=Q) (C:=C.wf D) hτ hF (hDI.imp (fun q=>by rw[q];rfl) (fun q=>q j o ho)) (hd j o ho) hgo hs'));rintro a2 w2 ⟨fr2,mem2,nx2,ρ2,⟨hk2,hk3⟩,hs2,hx2,hfr2⟩;have hS2:HeldS C ρS nS memS w2:=zjU.1 ((held_wf (D:=D) hH).now (hx.trans hx2.ext) hs2 (fun i b hi=>za9 (zdS hk2 i b hi)));refine⟨hS2,ih r _ pend D G' fr2 mem2 nx2 ρ2 a2 w2 h3 hk3 hs2 (hx.trans hx2.ext) hS2 (fun x hx=>?_) hA hsole hdis (fun x hx=>?_) hdst' hpA hnd hDI⟩
       ·obtain⟨q1,q0,q2,q3,q4,q5,q6⟩:=hp x hx;exact⟨Nat.lt_of_lt_of_le q1 hx2.2,q0,by rw[hx2.1 _ q1];exact q2,by rw[hfr2 _ (hod x (hpA x hx))];exact hnn _ (hnone x (hpA x hx)),q4,q5,q6⟩
       ·rw[hfr2 _ (hod x hx)];exact hnn _ (hnone x hx)
     ·obtain⟨m',hm',hwp⟩:=key j h1 h2;obtain rfl:m'=r.length+pend.length+post.length:=by simp at hm';omega
      exact hwp
end
section
variable {P:Program} {τ:TT} {F:FT} {C:Ctx} {ρ:Nat->Pl} {fr:AF} {mem:AM} {nx:Nat} {a:Act} {w:World} {Q:Exit->Act->World->Prop}
theorem Sat.reserveN (h:Sat C ρ fr mem nx a w):∀ n,∃ ρ',Sat C ρ' fr mem (nx+n) a w/\ExtS ρ nx ρ' (nx+n)/\∀ i,nx<=i->i<nx+n->(ρ' i).res=true
 | 0=>⟨ρ,h,ExtS.refl _ _,fun i h1 h2=>by omega⟩
 | n+1=>by
  obtain⟨ρ',h1,h2,h3⟩:=Sat.reserveN h n
  refine⟨zac ρ' (nx+n) ⟨none,0,0,true,za4⟩,h1.reserve,h2.trans (ExtS.set _ _ _),fun i h4 h5=>?_⟩
  by_cases hi:i=nx+n
  ·subst hi;rw[za2]
  ·rw[za8 ρ' _ o_];exact h3 i h4 o_
theorem ziS {ops:Array Oper}:∀ {A:List Nat} {nx:Nat} {xs:List AI},mkA τ ops nx A=some xs->xs.length=A.length/\∀ i x,xs[i]?=some x->A[i]?=some x.j/\x.ν=nx+i/\
  (∃ o,ops[x.j]?=some o/\o.op=.alloc x.t/\o.dst=some x.d/\o.guard=none)/\∃ ti,lk τ x.t=some ti/\x.zero=ti.zero
 | [],nx,xs,h=>by simp[mkA] at h;subst h;simp
 | j::r,nx,xs,h=>by
  simp only[mkA] at h
  cases ho:ops[j]? with
  | none=>rw[ho] at h;simp at h
  | some o=>
   rw[ho] at h
   split at h
   ·rename_i d t ty ps af heq
    cases heq
    cases hti:lk τ t with
    | none=>rw[hti] at h;simp at h
    | some ti=>
     rw[hti] at h
     simp only at h
     cases hr:mkA τ ops (nx+1) r with
     | none=>rw[hr] at h;simp at h
     | some l=>
      rw[hr] at h
      simp at h
      subst h
      obtain⟨h1,h2⟩:=ziS hr
      refine⟨by simp[h1],fun i x hx=>?_⟩
      cases i with
      | zero=>
       simp at hx
       subst hx
       exact⟨by simp,rfl,⟨_,ho,rfl,rfl,rfl⟩,ti,hti,rfl⟩
      | succ i=>
       simp at hx
       obtain⟨q1,q2,q3⟩:=h2 i x hx
       exact⟨by simpa using q1,o_,q3⟩
   ·simp at h
theorem zcN:∀ {l:List Nat},zhJ l=true->l.Nodup
 | [],_=>List.nodup_nil
 | x::r,h=>by
  simp only[zhJ,Bool.and_eq_true,Bool.not_eq_true'] at h
  exact List.nodup_cons.2 ⟨by simpa using h.1,zcN h.2⟩
theorem zhI {l:List Nat} (h:l.Nodup) {i j:Nat} {v:Nat} (hi:l[i]?=some v) (hj:l[j]?=some v):i=j:=by
 obtain⟨h1,h2⟩:=List.getElem?_eq_some_iff.1 hi;obtain⟨h3,h4⟩:=List.getElem?_eq_some_iff.1 hj;exact (List.getElem_inj h).1 (h2.trans h4.symm)
theorem mkA_sole {ops:Array Oper} {A:List Nat} {xs:List AI} (h:mkA τ ops nx A=some xs) (h1:A.Nodup) (h2:(A.map fun j=>(zej ops j).getD 0).Nodup):Sole xs:=by
 obtain⟨hl,hg⟩:=ziS h;intro x hx y hy he;obtain⟨i,hi⟩:=List.getElem?_of_mem hx;obtain⟨j,hj⟩:=List.getElem?_of_mem hy;obtain⟨a1,a2,⟨o,a3,a4,a5,a6⟩,-⟩:=hg i x hi;obtain⟨b1,b2,⟨p,b3,b4,b5,b6⟩,-⟩:=hg j y hj;have:i=j:=by
  rcases he with he | he | he
  ·refine zhI h2 (v:=x.d) ?_ ?_
   ·simp[List.getElem?_map,a1,zej,a3,a5]
   ·simp[List.getElem?_map,b1,zej,b3,b5,he]
  ·omega
  ·exact zhI h1 a1 (he ▸ b1)
 subst this;rw[hi] at hj;exact Option.some.inj hj
def zjo (Q:Exit->Act->World->Prop):Prop:=∀ c a w,¬ Q (.panic c) a w
theorem zja {I:List Nat} (hτ:zcl P τ) (hF:zaY P F I) (hm:P.follows .mixedOrders=true) (hQ:zjo Q) (hC:C.ff=[]/\C.fm=[]) {l:List Oper} {d:DP} (hAI:d.A=[]∨∀ o ∈ l,zgT I o.op=true) (hB:dregB l d=true) (hd:∀ o ∈ l,∀ i,o.dst=some i->i<C.nt) {id:Nat} {K:AF->AM->Nat->Prop}
  (h:dregx τ F l d fr mem nx K) (hs:Sat C ρ fr mem nx a w) (hK:∀ fr' mem' nx' ρ' a' w',K fr' mem' nx'->Sat C ρ' fr' mem' nx' a' w'->Q .normal a' w'):(Code.region id l.toArray true).wp P Q a w:=by
 unfold dregx at h;simp only[dregB,Bool.and_eq_true,decide_eq_true_eq] at hB;obtain⟨⟨⟨⟨⟨⟨hlast,hsel⟩,hlen⟩,hfl⟩,hpd⟩,hn1⟩,hn2⟩:=hB;cases hA:mkA τ (l.take d.k).toArray nx d.A with
 | none=>rw[hA] at h;exact h.elim
 | some xs=>
  rw[hA] at h;simp only at h;obtain⟨hxl,hxg⟩:=ziS hA;have hsole:=mkA_sole hA (zcN hn1) (zcN hn2);have hxj:xs.map (·.j)=d.A:=by
   apply List.ext_getElem?
   intro i;rw[List.getElem?_map];cases hx:xs[i]? with
   | none=>
    have:xs.length<=i:=List.getElem?_eq_none_iff.1 hx;rw[List.getElem?_eq_none (show d.A.length<=i by omega)];rfl
   | some x=>rw[(hxg i x hx).1];rfl
  obtain⟨ρS,hsS,hxS,hresS⟩:=hs.drew.reserveN d.A.length
  have hdk:∀ (i:Nat) (o:Oper),(l.take d.k).toArray[i]?=some o->∀ j,o.dst=some j->j<C.nt:=fun i o ho=>hd o (by
   have:(l.take d.k)[i]?=some o:=by simpa using ho
   exact List.mem_of_mem_take (List.mem_of_getElem? this))
  have hH:Held C ρS (nx+d.A.length) (sel mem d.L) w.drew:=⟨fun i b hi=>hsS.blk i b (za9 (zgp i b hi)),fun i b hi=>hsS.mlt i b (za9 (zgp i b hi))⟩;have hS0:HeldS C ρS (nx+d.A.length) (sel mem d.L) w.drew:=hH.blk;refine zcT d.k hm hlast (wpAny_of_held (S:=HeldS C ρS (nx+d.A.length) (sel mem d.L)) _ _ _ _ ?_);obtain⟨hdl1,hdl2⟩:=zjZ (xs:=xs) (fr:=fr)
  have hs1:Sat (C.wf []) ρS (zi6 xs fr) mem (nx+d.A.length) a w.drew:=hsS.ctx rfl rfl rfl rfl rfl (fun t v hv=>by
   have hv':lk (zi6 xs fr++[]) t=some v:=hv
   rw[List.append_nil] at hv'
   exact za9 (hdl2 t v hv')) (fun i b hb=>by
   have hb':lk (mem++[]) i=some b:=hb
   rw[List.append_nil] at hb'
   exact za9 hb')
  have hQ2:∀ c a a' w,zes (fun a w=>wpList P l.toArray Q (l.drop d.k) a w) Q (.panic c) a w->zes (fun a w=>wpList P l.toArray Q (l.drop d.k) a w) Q (.panic c) a' w:=fun c a a' w hq=>(hQ c a w hq).elim
  have hkey:=zj5 (Q:=zes (fun a w=>wpList P l.toArray Q (l.drop d.k) a w) Q) hτ hF hsel hdk hQ2 hH (A:=xs) (post:=d.post) (hAI.imp (fun q=>by rw[q] at hxl;exact List.eq_nil_of_length_eq_zero hxl) (fun q i o ho=>q o (by
    have:(l.take d.k)[i]?=some o:=by simpa using ho
    exact List.mem_of_mem_take (List.mem_of_getElem? this))))
   (K:=fun G fr1 mem1 nx1=>strx τ F (l.take d.k).toArray (sel mem d.L) d.post G (fr1++zdt xs) (mem1++zlo xs) nx1 (fun G fr2 mem2 nx2=>opsx τ F l.toArray (l.drop d.k) G fr2 mem2 nx2 K)) ?_
   (d.k+1) d.pre (Array.replicate d.k false) xs [] [] (zi6 xs fr) mem (nx+d.A.length) ρS a w.drew (by rw[hxj];exact hfl) h hs1 (Ext.refl _ _) hS0 ?_ (fun x hx=>.inl hx) (by simpa using hsole) (fun x _ hx=>by cases hx) hdl1 ?_ (fun x hx=>hx) (by rw[hxj];exact zcN hn1) (.inl rfl)
  ·rw[show d.pre.length+xs.length+d.post.length=d.k by rw[hxl];exact hlen] at hkey;exact hkey
  ·intro G' fr' mem' nx' ρ' a' w' D' hk hs' hx' hS' hall hsole' hnone'
   have hs2:Sat C ρ' (fr'++zdt xs) (mem'++zlo xs) nx' a' w':=hs'.ctx rfl rfl rfl rfl rfl (fun t v hv=>by
    rw[hC.1,List.append_nil] at hv
    show lk (fr'++zdt D') t=some v
    cases hf:lk fr' t with
    | some u=>rw[za9 hf] at hv ⊢;exact hv
    | none=>
     rw[zbd hf] at hv ⊢
     obtain⟨x,hx,rfl,rfl⟩:=zjB hv
     exact zhr hsole' x (hall x hx)) (fun i b hb=>by
    rw[hC.2,List.append_nil] at hb
    show lk (mem'++zlo D') i=some b
    cases hf:lk mem' i with
    | some u=>rw[za9 hf] at hb ⊢;exact hb
    | none=>
     rw[zbd hf] at hb ⊢
     obtain⟨x,hx,rfl,rfl⟩:=znE hb
     exact zk5 hsole' x (hall x hx))
   refine zdL hτ hF hC.2 hdk hQ2 hH d.post G' _ _ nx' ρ' a' w' hk hs2 hx' hS' ?_;intro G2 fr2 mem2 nx2 ρ2 a2 w2 hk2 hs3 hx3;show wpList P l.toArray Q (l.drop d.k) a2 w2;exact zd0 hτ hF hC.2 (l.drop d.k) (fun o ho=>hd o (List.mem_of_mem_drop ho)) G2 fr2 mem2 nx2 ρ2 a2 w2 hk2 hs3 (fun fr' mem' nx' ρ' a' w' hk hs _=>hK fr' mem' nx' ρ' a' w' hk hs)
  ·intro x hx;obtain⟨i,hi⟩:=List.getElem?_of_mem hx;obtain⟨q1,q2,q3,q4⟩:=hxg i x hi;have hil:i<xs.length:=(List.getElem?_eq_some_iff.1 hi).1;obtain⟨o,q5,q6,q7,q8⟩:=q3;exact⟨o_,by have:=hs.n0;omega,hresS _ o_ o_,hdl1 x hx,hdk _ o q5 _ q7,⟨o,q5,q6,q7,q8⟩,q4⟩
  ·intro p hp dd hdd x hx he;subst he;simp only[preDst,List.all_eq_true] at hpd;have:=hpd p hp;rw[hdd] at this;simp only[List.all_eq_true] at this;obtain⟨i,hi⟩:=List.getElem?_of_mem hx;obtain⟨q1,q2,⟨o,q5,q6,q7,q8⟩,q4⟩:=hxg i x hi;have h5:=this x.j (by rw[← hxj];exact List.mem_map_of_mem hx);simp[zej] at h5;simp at q5;rw[q5] at h5;simp[q7] at h5
end
inductive GS where
 | fin
 | fix (i:Nat) (r:GS)
 | act (i:Nat) (r:GS)
 | two (i:Nat) (r:GS) (j:Nat) (s:GS)
 | three (i:Nat) (r:GS) (j:Nat) (s:GS) (k:Nat) (t:GS)
def gsB (ops:Array Oper):GS->Nat->Array Bool->Bool
 | .fin,n,listed=>decide (n=0)&&(Region.ready .any ops listed).isEmpty
 | .fix i r,n,listed=>decide (0<n)&&Region.free .any ops listed i&&(Region.ready .any ops listed).contains i&&gsB ops r (n-1) (listed.setIfInBounds i true)
 | .act i r,n,listed=>decide (0<n)&&decide (Region.ready .any ops listed=[i])&&gsB ops r (n-1) (listed.setIfInBounds i true)
 | .two i r j s,n,listed=>decide (0<n)&&decide (Region.ready .any ops listed=[i,j])&&gsB ops r (n-1) (listed.setIfInBounds i true)&&gsB ops s (n-1) (listed.setIfInBounds j true)
 | .three i r j s k t,n,listed=>decide (0<n)&&decide (Region.ready .any ops listed=[i,j,k])&&gsB ops r (n-1) (listed.setIfInBounds i true)&&gsB ops s (n-1) (listed.setIfInBounds j true)&&gsB ops t (n-1) (listed.setIfInBounds k true)
abbrev GK':=List Nat->AF->AM->Nat->(List Nat->AF->AM->Nat->Prop)->Prop
def zhU (τ:TT) (F:FT) (ops:Array Oper) (memS:AM) (i:Nat) (ih:GK') (G:List Nat) (fr:AF) (mem:AM) (nx:Nat) (K:List Nat->AF->AM->Nat->Prop):Prop:=
 match ops[i]? with
 | none=>False
 | some o=>gdx ops G o.guard fr (fun b G' fr'=>match b with
  | true=>opx τ F o fr' mem nx (fun fr2 mem2 nx2=>keeps mem2 memS/\ih G' fr2 mem2 nx2 K)
  | false=>zel o.dst (.tuple #[]) fr' fun fr2=>ih G' fr2 mem nx K)
def gfixx (τ:TT) (ops:Array Oper) (memS:AM) (i:Nat) (ih:GK') (G:List Nat) (fr:AF) (mem:AM) (nx:Nat) (K:List Nat->AF->AM->Nat->Prop):Prop:=
 match ops[i]? with
 | none=>False
 | some o=>gdx ops G o.guard fr (fun b G' fr'=>match b with
  | true=>fvx τ fr' memS o.op fun v=>zel o.dst v fr' (fun fr2=>ih G' fr2 mem nx K)
  | false=>zel o.dst (.tuple #[]) fr' fun fr2=>ih G' fr2 mem nx K)
def gsx (τ:TT) (F:FT) (ops:Array Oper) (memS:AM) (σ:GS):GK':=
 GS.rec (motive:=fun _=>GK') (fun G fr mem nx K=>K G fr mem nx)
  (fun i _ ih=>gfixx τ ops memS i ih)
  (fun i _ ih=>zhU τ F ops memS i ih)
  (fun i _ j _ ih ij G fr mem nx K=>zhU τ F ops memS i ih G fr mem nx K/\zhU τ F ops memS j ij G fr mem nx K)
  (fun i _ j _ k _ ih ij ik G fr mem nx K=>zhU τ F ops memS i ih G fr mem nx K/\zhU τ F ops memS j ij G fr mem nx K/\zhU τ F ops memS k ik G fr mem nx K) σ
def gregx (τ:TT) (F:FT) (l:List Oper) (k:Nat) (L:List Nat) (σ:GS) (fr:AF) (mem:AM) (nx:Nat) (K:AF->AM->Nat->Prop):Prop:=
 gsx τ F (l.take k).toArray (sel mem L) σ [] fr mem nx (fun G fr2 mem2 nx2=>opsx τ F l.toArray (l.drop k) G fr2 mem2 nx2 K)
def gregB (l:List Oper) (k:Nat) (σ:GS):Bool:=zmF l k&&Region.noSelect (l.take k).toArray&&gsB (l.take k).toArray σ k (Array.replicate k false)
section
variable {P:Program} {τ:TT} {F:FT} {C:Ctx} {Q:Exit->Act->World->Prop}
theorem zmR {I:List Nat} (hτ:zcl P τ) (hF:zaY P F I) (hfm:C.fm=[]) {ops:Array Oper} (hsel:Region.noSelect ops=true) (hd:∀ (i:Nat) (o:Oper),ops[i]?=some o->∀ j,o.dst=some j->j<C.nt) (hQ:∀ c a a' w,Q (.panic c) a w->Q (.panic c) a' w)
  {ρS:Nat->Pl} {nS:Nat} {memS:AM} {w1:World} (hH:Held C ρS nS memS w1) {K:List Nat->AF->AM->Nat->Prop}
  (hK:∀ G' fr' mem' nx' ρ' a' w',K G' fr' mem' nx'->Sat C ρ' fr' mem' nx' a' w'->Q .normal a' w'):∀ (σ:GS) (n:Nat) (listed:Array Bool) (G:List Nat) (fr:AF) (mem:AM) (nx:Nat) (ρ:Nat->Pl) (a:Act) (w:World),gsB ops σ n listed=true->
  gsx τ F ops memS σ G fr mem nx K->Sat C ρ fr mem nx a w->Ext ρS nS ρ nx->HeldS C ρS nS memS w->wpAnyH P .any ops Q (HeldS C ρS nS memS) n listed a w:=by
 intro σ;-- an operation that acts
 have act:∀ (i:Nat) (r:GS),(∀ (n:Nat) (listed:Array Bool) (G:List Nat) (fr:AF) (mem:AM) (nx:Nat) (ρ:Nat->Pl) (a:Act) (w:World),gsB ops r n listed=true->gsx τ F ops memS r G fr mem nx K->Sat C ρ fr mem nx a w->Ext ρS nS ρ nx->HeldS C ρS nS memS w->wpAnyH P .any ops Q (HeldS C ρS nS memS) n listed a w)->
   ∀ (m:Nat) (listed:Array Bool) (G:List Nat) (fr:AF) (mem:AM) (nx:Nat) (ρ:Nat->Pl) (a:Act) (w:World),gsB ops r m listed=true->zhU τ F ops memS i (gsx τ F ops memS r) G fr mem nx K->Sat C ρ fr mem nx a w->Ext ρS nS ρ nx->HeldS C ρS nS memS w->
   wpOp P ops Q i (fun a' w'=>HeldS C ρS nS memS w'/\wpAnyH P .any ops Q (HeldS C ρS nS memS) m listed a' w') a w:=by
  intro i r ih m listed G fr mem nx ρ a w hB h hs hx hS;simp only[zhU,zcB] at h;cases ho:ops[i]? with
  | none=>rw[ho] at h;exact h.elim
  | some o=>
   rw[ho] at h;simp only at h;obtain⟨b,G',fr',hgo,hw,hf,-⟩:=zdD h hs.fok;have hs':=hs.frm hf;cases b with
   | false=>
    have hrest:=ih m listed G' _ mem nx ρ _ w hB hgo (hs'.put (d:=o.dst) (hd i o ho) zcD) hx hS;rw[zd4] at hrest;unfold wpOp;simp only[ho];rw[if_neg (by rw[hw];simp)];exact⟨hS,hrest⟩
   | true=>
    refine zfu ho hw (Oper.wp_mono ?_ (zeC (Q:=Q) hτ hF (.inl hfm) (hd i o ho) hgo hs'));rintro a2 w2 ⟨fr2,mem2,nx2,ρ2,⟨hk2,hk3⟩,hs2,hx2,-⟩;have hS2:=hH.now (hx.trans hx2.ext) hs2 (fun i b hi=>za9 (zdS hk2 i b hi));exact⟨hS2,ih m listed G' fr2 mem2 nx2 ρ2 a2 w2 hB hk3 hs2 (hx.trans hx2.ext) hS2⟩
 induction σ with
 | fin=>
  intro n listed G fr mem nx ρ a w hB h hs hx hS;simp only[gsB,Bool.and_eq_true,decide_eq_true_eq,List.isEmpty_iff] at hB;exact wpAnyH_done hB.2 (hK _ _ _ _ _ _ _ h hs) _
 | fix i r ih=>
  intro n listed G fr mem nx ρ a w hB h hs hx hS;simp only[gsB,Bool.and_eq_true,decide_eq_true_eq] at hB;obtain⟨⟨⟨hn,h1⟩,h2⟩,h3⟩:=hB;obtain⟨m,rfl⟩:∃ m,n=m+1:=⟨n-1,o_⟩;replace h:gfixx τ ops memS i (gsx τ F ops memS r) G fr mem nx K:=h;simp only[gfixx,zcB] at h;cases ho:ops[i]? with
  | none=>rw[ho] at h;exact h.elim
  | some o=>
   rw[ho] at h;simp only at h;obtain⟨b,G',fr',hgo,hw,hf,-⟩:=zdD h hs.fok;have hs':=hs.frm hf;cases b with
   | false=>
    have hrest:=ih m _ G' _ mem nx ρ _ w h3 hgo (hs'.put (d:=o.dst) (hd i o ho) zcD) hx hS;rw[zd4] at hrest;exact wpAnyH_take ho hsel h1 h2 (fun c a w h=>hQ _ _ _ _ h) (.inr ⟨hw,rfl⟩) hS hrest
   | true=>
    simp only at hgo;obtain⟨v,hgo,hok,hy⟩:=zgX (P:=P) (ops:=ops) hτ hH hx hf.left hS hw hgo;have hrest:=ih m _ G' _ mem nx ρ _ w h3 hgo (hs'.put (d:=o.dst) (hd i o ho) hok) hx hS;exact wpAnyH_take ho hsel h1 h2 (fun c a w h=>hQ _ _ _ _ h) hy hS hrest
 | act i r ih=>
  intro n listed G fr mem nx ρ a w hB h hs hx hS;simp only[gsB,Bool.and_eq_true,decide_eq_true_eq] at hB;obtain⟨⟨hn,h1⟩,h3⟩:=hB;obtain⟨m,rfl⟩:∃ m,n=m+1:=⟨n-1,o_⟩;refine wpAnyH_all h1 (by simp) fun j hj=>?_
  obtain rfl:j=i:=by simpa using hj
  exact act j r ih m _ G fr mem nx ρ a w h3 h hs hx hS
 | two i r j s ihi ihj=>
  intro n listed G fr mem nx ρ a w hB h hs hx hS;simp only[gsB,Bool.and_eq_true,decide_eq_true_eq] at hB;obtain⟨⟨⟨hn,h1⟩,h3⟩,h4⟩:=hB;obtain⟨m,rfl⟩:∃ m,n=m+1:=⟨n-1,o_⟩;refine wpAnyH_all h1 (by simp) fun q hq=>?_
  rcases List.mem_cons.1 hq with rfl | hq
  ·exact act q r ihi m _ G fr mem nx ρ a w h3 h.1 hs hx hS
  ·obtain rfl:q=j:=by simpa using hq
   exact act q s ihj m _ G fr mem nx ρ a w h4 h.2 hs hx hS
 | three i r j s k t ihi ihj ihk=>
  intro n listed G fr mem nx ρ a w hB h hs hx hS;simp only[gsB,Bool.and_eq_true,decide_eq_true_eq] at hB;obtain⟨⟨⟨⟨hn,h1⟩,h3⟩,h4⟩,h5⟩:=hB;obtain⟨m,rfl⟩:∃ m,n=m+1:=⟨n-1,o_⟩;refine wpAnyH_all h1 (by simp) fun q hq=>?_
  rcases List.mem_cons.1 hq with rfl | hq
  ·exact act q r ihi m _ G fr mem nx ρ a w h3 h.1 hs hx hS
  ·rcases List.mem_cons.1 hq with rfl | hq
   ·exact act q s ihj m _ G fr mem nx ρ a w h4 h.2.1 hs hx hS
   ·obtain rfl:q=k:=by simpa using hq
    exact act q t ihk m _ G fr mem nx ρ a w h5 h.2.2 hs hx hS
theorem zj2 {I:List Nat} {ρ:Nat->Pl} {fr:AF} {mem:AM} {nx:Nat} {a:Act} {w:World} (hτ:zcl P τ) (hF:zaY P F I) (hfm:C.fm=[]) (hm:P.follows .mixedOrders=true) (hQ:zjo Q) {l:List Oper} {k:Nat} {L:List Nat} {σ:GS} (hB:gregB l k σ=true) (hd:∀ o ∈ l,∀ i,o.dst=some i->i<C.nt) {id:Nat} {K:AF->AM->Nat->Prop}
  (h:gregx τ F l k L σ fr mem nx K) (hs:Sat C ρ fr mem nx a w) (hK:∀ fr' mem' nx' ρ' a' w',K fr' mem' nx'->Sat C ρ' fr' mem' nx' a' w'->Q .normal a' w'):(Code.region id l.toArray true).wp P Q a w:=by
 simp only[gregB,Bool.and_eq_true] at hB;obtain⟨⟨hlast,hsel⟩,hg⟩:=hB;have hsd:=hs.drew
 have hdk:∀ (i:Nat) (o:Oper),(l.take k).toArray[i]?=some o->∀ j,o.dst=some j->j<C.nt:=fun i o ho=>hd o (by
  have:(l.take k)[i]?=some o:=by simpa using ho
  exact List.mem_of_mem_take (List.mem_of_getElem? this))
 have hH:Held C ρ nx (sel mem L) w.drew:=⟨fun i b hi=>hsd.blk i b (za9 (zgp i b hi)),fun i b hi=>hsd.mlt i b (za9 (zgp i b hi))⟩;have hQ2:∀ c a a' w,zes (fun a w=>wpList P l.toArray Q (l.drop k) a w) Q (.panic c) a w->zes (fun a w=>wpList P l.toArray Q (l.drop k) a w) Q (.panic c) a' w:=fun c a a' w hq=>(hQ c a w hq).elim
 refine zcT k hm hlast (wpAny_of_held (S:=HeldS C ρ nx (sel mem L)) _ _ _ _ ?_);refine zmR (Q:=zes (fun a w=>wpList P l.toArray Q (l.drop k) a w) Q) hτ hF hfm hsel hdk hQ2 hH ?_ σ k _ [] fr mem nx ρ a w.drew hg h hsd (Ext.refl _ _) hH.blk;intro G2 fr2 mem2 nx2 ρ2 a2 w2 hk2 hs3;show wpList P l.toArray Q (l.drop k) a2 w2;exact zd0 hτ hF hfm (l.drop k) (fun o ho=>hd o (List.mem_of_mem_drop ho)) G2 fr2 mem2 nx2 ρ2 a2 w2 hk2 hs3 (fun fr' mem' nx' ρ' a' w' hk hs _=>hK fr' mem' nx' ρ' a' w' hk hs)
end
def nm1 (n:Nat):Value->Bool
 | .pointer (some a)=>decide (a.block<n)
 | .slice (some a) _ _=>decide (a.block<n)
 | .map (some i)=>decide (i<n)
 | _=>true
def nm2 (n:Nat):Value->Bool
 | .agg cs=>cs.toList.all (nm1 n)
 | v=>nm1 n v
def nmV (n:Nat):Value->Bool
 | .tuple vs=>vs.toList.all (nm2 n)
 | .func _ a b=>a.toList.all (nm1 n)&&b.toList.all (nm1 n)
 | v=>nm2 n v
def nmB (n:Nat):ABlk->Bool
 | .box _ cs=>cs.all (nm1 n)
 | .row _ _ _ _=>true
 | .ext (.deep _ _ _ _ _ u)=>decide (u<n)
 | .ext _=>true
def nmF (n:Nat) (fr:AF):Bool:=fr.all fun p=>nmV n p.2
def nmM (n:Nat) (mem:AM):Bool:=mem.all fun p=>decide (p.1<n)&&nmB n p.2
/-! Names of rows may change where ways meet. -/
def rnm (σ:List (Nat×Nat)) (i:Nat):Nat:=match lk σ i with | some j=>j | none=>i
def rn1 (σ:List (Nat×Nat)):Value->Value
 | .pointer (some ⟨b,o,s⟩)=>.pointer (some ⟨rnm σ b,o,s⟩)
 | .slice (some ⟨b,o,s⟩) n c=>.slice (some ⟨rnm σ b,o,s⟩) n c
 | .map (some i)=>.map (some (rnm σ i))
 | v=>v
def rn2 (σ:List (Nat×Nat)):Value->Value
 | .agg cs=>.agg (cs.toList.map (rn1 σ)).toArray
 | v=>rn1 σ v
def rnV (σ:List (Nat×Nat)):Value->Value
 | .tuple vs=>.tuple (vs.toList.map (rn2 σ)).toArray
 | .func f a b=>.func f (a.toList.map (rn1 σ)).toArray (b.toList.map (rn1 σ)).toArray
 | v=>rn2 σ v
def rnB (σ:List (Nat×Nat)):ABlk->ABlk
 | .box t cs=>.box t (cs.map (rn1 σ))
 | .row t sz n el=>.row t sz n el
 | .ext (.deep t sz n cap el u)=>.ext (.deep t sz n cap el (rnm σ u))
 | .ext e=>.ext e
def zlO (fr:AF) (σ:List (Nat×Nat)) (f:AF):Prop:=List.rec (motive:=fun _=>Prop) True (fun p _ ih=>lk fr p.1=some (rnV σ p.2)/\ih) f
def zeG (mem:AM) (σ:List (Nat×Nat)) (m:AM):Prop:=List.rec (motive:=fun _=>Prop) True (fun p _ ih=>lk mem (rnm σ p.1)=some (rnB σ p.2)/\ih) m
def exB:ABlk->Bool
 | .box _ _=>true
 | .row t _ _ _=>zc1 t
 | .ext (.deep t _ _ _ _ _)=>zc1 t
 | .ext (.fam _ _)=>false
 | .ext (.map _ _ _)=>true
 | .ext (.obj _ _)=>true
def exN:AM->List Nat
 | []=>[]
 | (i,b)::r=>(match exB b with | true=>i::exN r | false=>exN r)
def zfj (σ:List (Nat×Nat)) (m:AM):Bool:=(exN m).all fun i=>(exN m).all fun j=>Nat.beq i j||!(Nat.beq (rnm σ i) (rnm σ j))
def zhv (n:Nat) (σ:List (Nat×Nat)):Bool:=σ.all fun p=>decide (n<=p.1)
section
variable {C:Ctx} {ρ:Nat->Pl} {fr:AF} {mem:AM} {nx:Nat} {a:Act} {w:World} {σ:List (Nat×Nat)}
theorem zaO {α:Type}:∀ {l:List (Nat×α)} {n:Nat} {v:α},lk l n=some v->(n,v) ∈ l
 | [],n,v,h=>by simp[lk] at h
 | (k,u)::l,n,v,h=>by
  rcases za5 h with⟨rfl,rfl⟩ | ⟨_,h⟩
  ·exact List.mem_cons_self ..
  ·exact List.mem_cons_of_mem _ (zaO h)
theorem zfR {n:Nat} {v:Value} (h:ok1 ρ nx v) (hn:nm1 n v=true):ok1 ρ n v:=by
 cases v with
 | pointer p=>cases p with
  | none=>trivial
  | some ad=>exact⟨⟨by simpa [nm1] using hn,h.1.2⟩,h.2⟩
 | slice p k c=>cases p with
  | none=>trivial
  | some ad=>exact⟨by simpa [nm1] using hn,h.2⟩
 | map p=>cases p with
  | none=>trivial
  | some i=>exact⟨⟨by simpa [nm1] using hn,h.1.2⟩,h.2⟩
 | _=>trivial
theorem zhK {n:Nat} {v:Value} (h:ok2 ρ nx v) (hn:nm2 n v=true):ok2 ρ n v:=by
 cases v with
 | agg cs=>intro u hu;exact zfR (h u hu) (by simp only[nm2,List.all_eq_true] at hn;exact hn u (by simpa using hu))
 | pointer p=>exact zfR (v:=.pointer p) h hn
 | slice p k c=>exact zfR (v:=.slice p k c) h hn
 | map p=>exact zfR (v:=.map p) h hn
 | _=>trivial
theorem nmV_ok {n:Nat} {v:Value} (h:okV ρ nx v) (hn:nmV n v=true):okV ρ n v:=by
 cases v with
 | tuple vs=>intro u hu;exact zhK (h u hu) (by simp only[nmV,List.all_eq_true] at hn;exact hn u (by simpa using hu))
 | agg cs=>exact zhK (v:=.agg cs) h hn
 | pointer p=>exact zhK (v:=.pointer p) h hn
 | slice p k c=>exact zhK (v:=.slice p k c) h hn
 | map p=>exact zhK (v:=.map p) h hn
 | func f a b=>
  simp only[nmV,Bool.and_eq_true,List.all_eq_true] at hn;exact⟨fun u hu=>zfR (h.1 u hu) (hn.1 u (by simpa using hu)),fun u hu=>zfR (h.2 u hu) (hn.2 u (by simpa using hu))⟩
 | _=>trivial
theorem zg2 (v:Value):zal (fun i=>ρ (rnm σ i)) v=zal ρ (rn1 σ v):=by
 cases v with
 | pointer p=>cases p<;>rfl
 | slice p k c=>cases p<;>rfl
 | map p=>cases p<;>rfl
 | _=>rfl
theorem zna (v:Value):zaW (fun i=>ρ (rnm σ i)) v=zaW ρ (rn2 σ v):=by
 cases v with
 | agg cs=>
  simp only[zaW,rn2];congr 1
  apply Array.toList_inj.1
  simp[Function.comp_def,zg2]
 | pointer p=>cases p<;>rfl
 | slice p k c=>cases p<;>rfl
 | map p=>cases p<;>rfl
 | _=>rfl
theorem ze8 (v:Value):den (fun i=>ρ (rnm σ i)) v=den ρ (rnV σ v):=by
 cases v with
 | tuple cs=>
  simp only[den,rnV];congr 1
  apply Array.toList_inj.1
  simp[Function.comp_def,zna]
 | func f a b=>
  have e:∀ c:Array Value,c.map (zal fun i=>ρ (rnm σ i))=(c.toList.map (rn1 σ)).toArray.map (zal ρ):=by
   intro c;apply Array.toList_inj.1
   simp[Function.comp_def,zg2]
  simp only[den,rnV];rw[e a,e b]
 | agg cs=>exact zna (.agg cs)
 | pointer p=>cases p<;>rfl
 | slice p k c=>cases p<;>rfl
 | map p=>cases p<;>rfl
 | _=>rfl
theorem zdA {n:Nat} {v:Value} (h:ok1 ρ nx (rn1 σ v)) (hn:nm1 n v=true):ok1 (fun i=>ρ (rnm σ i)) n v:=by
 cases v with
 | pointer p=>cases p with
  | none=>trivial
  | some ad=>exact⟨⟨by simpa [nm1] using hn,h.1.2⟩,h.2⟩
 | slice p k c=>cases p with
  | none=>trivial
  | some ad=>exact⟨by simpa [nm1] using hn,h.2⟩
 | map p=>cases p with
  | none=>trivial
  | some i=>exact⟨⟨by simpa [nm1] using hn,h.1.2⟩,h.2⟩
 | _=>trivial
theorem ok2_rn {n:Nat} {v:Value} (h:ok2 ρ nx (rn2 σ v)) (hn:nm2 n v=true):ok2 (fun i=>ρ (rnm σ i)) n v:=by
 cases v with
 | agg cs=>intro u hu;exact zdA (h _ (by simp;exact⟨u,hu,rfl⟩)) (by simp only[nm2,List.all_eq_true] at hn;exact hn u (by simpa using hu))
 | pointer p=>cases p with
  | none=>trivial
  | some ad=>exact zdA (v:=.pointer (some ad)) h hn
 | slice p k c=>cases p with
  | none=>trivial
  | some ad=>exact zdA (v:=.slice (some ad) k c) h hn
 | map p=>cases p with
  | none=>trivial
  | some i=>exact zdA (v:=.map (some i)) h hn
 | _=>trivial
theorem zfa {n:Nat} {v:Value} (h:okV ρ nx (rnV σ v)) (hn:nmV n v=true):okV (fun i=>ρ (rnm σ i)) n v:=by
 cases v with
 | tuple vs=>intro u hu;exact ok2_rn (h _ (by simp;exact⟨u,hu,rfl⟩)) (by simp only[nmV,List.all_eq_true] at hn;exact hn u (by simpa using hu))
 | agg cs=>exact ok2_rn (v:=.agg cs) h hn
 | pointer p=>cases p with
  | none=>trivial
  | some ad=>exact zdA (v:=.pointer (some ad)) h hn
 | slice p k c=>cases p with
  | none=>trivial
  | some ad=>exact zdA (v:=.slice (some ad) k c) h hn
 | map p=>cases p with
  | none=>trivial
  | some i=>exact zdA (v:=.map (some i)) h hn
 | func f a b=>
  simp only[nmV,Bool.and_eq_true,List.all_eq_true] at hn;exact⟨fun u hu=>zdA (h.1 _ (by simp;exact⟨u,hu,rfl⟩)) (hn.1 u (by simpa using hu)),fun u hu=>zdA (h.2 _ (by simp;exact⟨u,hu,rfl⟩)) (hn.2 u (by simpa using hu))⟩
 | _=>trivial
theorem zgI:∀ {f:AF},zlO fr σ f->∀ t v,lk f t=some v->lk fr t=some (rnV σ v)
 | [],_,t,v,h=>by simp[lk] at h
 | (k,u)::l,hs,t,v,h=>by
  rcases za5 h with⟨rfl,rfl⟩ | ⟨_,h⟩
  ·exact hs.1
  ·exact zgI hs.2 t v h
theorem zbF:∀ {m:AM},zeG mem σ m->∀ i b,lk m i=some b->lk mem (rnm σ i)=some (rnB σ b)
 | [],_,t,v,h=>by simp[lk] at h
 | (k,u)::l,hs,t,v,h=>by
  rcases za5 h with⟨rfl,rfl⟩ | ⟨_,h⟩
  ·exact hs.1
  ·exact zbF hs.2 t v h
theorem zi0:∀ {m:AM} {i:Nat} {b:ABlk},lk m i=some b->exB b=true->i ∈ exN m
 | [],i,b,h,_=>by simp[lk] at h
 | (k,c)::l,i,b,h,hb=>by
  simp only[exN]
  rcases za5 h with⟨rfl,rfl⟩ | ⟨_,h⟩
  ·rw[hb];exact List.mem_cons_self ..
  ·cases exB c
   ·exact zi0 h hb
   ·exact List.mem_cons_of_mem _ (zi0 h hb)
theorem zdR {m:AM} (h:zfj σ m=true) {i j:Nat} {b b':ABlk} (hi:lk m i=some b) (hj:lk m j=some b') (hb:exB b=true) (hb':exB b'=true) (he:rnm σ i=rnm σ j):i=j:=by
 simp only[zfj,List.all_eq_true] at h;have:=h i (zi0 hi hb) j (zi0 hj hb');rw[he,Nat.beq_refl] at this;simp at this;exact this
theorem zm4 {n:Nat} (h:zhv n σ=true) {i:Nat} (hi:i<n):rnm σ i=i:=by
 unfold rnm;cases hl:lk σ i with
 | none=>rfl
 | some j=>
  simp only[zhv,List.all_eq_true,decide_eq_true_eq] at h;have:=h _ (zaO hl);simp only at this;omega
theorem ze6 (b:ABlk):exB (rnB σ b)=exB b:=by
 cases b with
 | ext e=>cases e<;>rfl
 | _=>rfl
theorem zfe {i g:Nat} {b:ABlk} (h:bwr ρ i b g):exB b=true:=by
 cases b with
 | box t cs=>rfl
 | row t sz n el=>exact h.1
 | ext e=>cases e with
  | deep t sz n cap el u=>exact h.1
  | fam t sb=>exact h.elim
  | map kk ag f=>rfl
  | obj S Φ=>rfl
theorem zdF {i g:Nat} {b:ABlk}:bwr (fun i=>ρ (rnm σ i)) i b g=bwr ρ (rnm σ i) (rnB σ b) g:=by
 cases b with
 | ext e=>cases e<;>rfl
 | _=>rfl
theorem ze9 {i g:Nat} {b:ABlk}:brd (fun i=>ρ (rnm σ i)) i b g=brd ρ (rnm σ i) (rnB σ b) g:=by
 cases b with
 | ext e=>cases e<;>rfl
 | _=>rfl
theorem Sat.rename (hC:C.ff=[]/\C.fm=[]) (h:Sat C ρ fr mem nx a w) {fr':AF} {mem':AM} {m n:Nat} (hm0:C.n0<=m) (hlow:zhv m σ=true) (hn:C.n0<=n) (hf:zlO fr σ fr') (hm:zeG mem σ mem') (hnb:zfj σ mem'=true) (hnf:nmF n fr'=true) (hnm:nmM n mem'=true) :
  Sat C (fun i=>ρ (rnm σ i)) fr' mem' n a w:=by
 simp only[nmF,List.all_eq_true] at hnf;simp only[nmM,List.all_eq_true,Bool.and_eq_true,decide_eq_true_eq] at hnm;have efr:∀ {t v},lk (fr'++C.ff) t=some v->lk fr' t=some v:=fun hv=>by rw[hC.1,List.append_nil] at hv;exact hv
 have emm:∀ {i b},lk (mem'++C.fm) i=some b->lk mem' i=some b:=fun hv=>by rw[hC.2,List.append_nil] at hv;exact hv
 have old:∀ {i b},lk (mem'++C.fm) i=some b->lk (mem++C.fm) (rnm σ i)=some (rnB σ b):=fun hv=>za9 (zbF hm _ _ (emm hv))
 have hblk:∀ i b,lk (mem'++C.fm) i=some b->BlkOk C (fun i=>ρ (rnm σ i)) n i w b:=by
  intro i b hi;have hb:=h.blk _ _ (old hi);have h2:=(hnm _ (zaO (emm hi))).2;cases b with
  | box t cs=>
   obtain⟨g,e1,e2,e3,e4⟩:=hb;simp only[nmB,List.all_eq_true] at h2;refine⟨g,e1,?_,e3,fun v hv=>zdA (e4 _ (List.mem_map_of_mem hv)) (h2 v hv)⟩;have:cs.map (zal fun i=>ρ (rnm σ i))=(cs.map (rn1 σ)).map (zal ρ):=by simp[Function.comp_def,zg2]
   rw[this];exact e2
  | row t sz k el=>exact hb
  | ext eb=>cases eb with
   | fam t sb=>exact hb
   | map kk ag f=>exact hb
   | obj S Φ=>exact hb
   | deep t sz k cap el u=>
    simp only[nmB,decide_eq_true_eq] at h2;obtain⟨e1,e2,e3,e4⟩:=hb
    exact⟨e1,⟨h2,e2.2⟩,e3,e4.imp id fun⟨hn,b,off,hA,hlt,hcap,hc⟩=>⟨hn,b,off,hA,hlt,hcap,fun k hk j v hv=>by
     rw[hc k hk j v hv]
     cases v with
     | slice A _ _=>cases A<;>rfl
     | pointer p=>cases p with
      | none=>rfl
      | some ad=>exact ((e3 k hk).2 _ (List.mem_of_getElem? hv)).elim
     | map p=>cases p with
      | none=>rfl
      | some ad=>exact ((e3 k hk).2 _ (List.mem_of_getElem? hv)).elim
     | _=>rfl⟩⟩
 refine⟨⟨fun t v hv=>?_,fun t v hv=>?_⟩,h.sz,h.dfr,fun i b hi=>?_,hblk,fun i j b b' hne hi hj=>?_,hn,fun i hi=>?_,h.rest⟩
 ·rw[ze8];exact h.fok.frm t _ (za9 (zgI hf t v (efr hv)))
 ·exact zfa (h.fok.frk t _ (za9 (zgI hf t v (efr hv)))) (hnf _ (zaO (efr hv)))
 ·exact⟨(hnm _ (zaO (emm hi))).1,(h.mlt _ _ (old hi)).2⟩
 ·refine (hblk i b hi).apart fun g hg hg2=>?_
  rw[zdF] at hg;rw[ze9] at hg2;have h1:=old hi;have h2:=old hj;by_cases he:rnm σ i=rnm σ j
  ·rw[he,h2] at h1;have hx:=zfe hg;have hx2:exB b'=true:=by rw[← ze6 (σ:=σ),Option.some.inj h1];exact hx
   rw[ze6] at hx;exact hne (zdR hnb (emm hi) (emm hj) hx hx2 he)
  ·exact (h.sep _ _ _ _ he h1 h2).wr (h.sep _ _ _ _ (Ne.symm he) h2 h1) hg hg2
 ·show ρ (rnm σ i)=_;rw[zm4 hlow (Nat.lt_of_lt_of_le hi hm0)];exact h.low i hi
end
end Go.Proofs.YtjnndjnpcelafaaGreat
