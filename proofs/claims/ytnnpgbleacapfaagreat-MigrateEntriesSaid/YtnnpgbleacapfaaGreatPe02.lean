import Derived.Test.YtnnpgbleacapfaaGreatPe01
import Derived.Laws.Tables
import Derived.Deep.AppendSrc
import Derived.Laws.MakeOwn
namespace Go.Proofs.YtnnpgbleacapfaaGreat
open Go.RowKit
set_option linter.unusedSimpArgs false
set_option linter.unusedVariables false
section
variable {P:Program} {τ:TT} {C:Ctx} {ρ:Nat→Pl} {fr:AF} {mem:AM} {nx:Nat} {a:Act} {w:World}
theorem binx_shift {o:BinOp} {b:Bool} {p q v:Value} (h:binx o b p q=some v):o≠.shl∧o≠.shr:=by
 constructor<;>rintro rfl<;>cases p<;>cases q<;>simp only[binx] at h<;>(try (split at h))<;>simp at h
theorem ck_plain:∀ {ks:List CK} {l:List Value},ckOk ks l=true→l.map (den1 ρ)=l
 | [],[],_=>rfl
 | [],_::_,h=>by simp[ckOk] at h
 | _::_,[],h=>by simp[ckOk] at h
 | k::r,v::l,h=>by
  simp only[ckOk,Bool.and_eq_true] at h
  rw[List.map_cons,ck_plain h.2]
  congr 1
  cases v<;>cases k<;>simp[ck1] at h<;>rfl
theorem eqx_run (hτ:TTok P τ) {t:TypeId} {x y:Operand} {p q v:Value} {o:BinOp} (h:eqx τ o t p q=some v) :
  (do eqGuard o t x y (den ρ p) (den ρ q);binOp o t (den ρ p) (den ρ q):Sem Value).run P w=.ok (den ρ v) w∧okV ρ nx v:=by
 cases p<;>first | (simp[eqx] at h;done) | skip
 rename_i xs
 cases q<;>first | (simp[eqx] at h;done) | skip
 rename_i ys
 simp only[eqx] at h
 cases hti:lk τ t with
 | none=>rw[hti] at h;simp at h
 | some ti=>
  rw[hti] at h
  simp only at h
  split at h
  ·rename_i k r hk h1 h2
   have he:=((Bool.and_eq_true _ _).mp (hτ t ti hti).eqs).1
   unfold eqB at he
   rw[hk] at he
   simp only[Bool.and_eq_true,decide_eq_true_eq,Bool.not_eq_true'] at he
   obtain⟨⟨hagg,hfl⟩,hgu⟩:=he
   rw[← hk] at hfl
   obtain⟨⟨dd,hu,hrow,-⟩,hq⟩:=equalIn_flat (P:=P) (w:=w) 8 10000 t ti.eqk (by omega) hfl
   obtain⟨d2,hu2,hr2,-⟩:=(hτ t ti hti).desc
   rw[hu] at hu2
   cases hu2
   obtain⟨fs,rfl⟩:=hrow.1 (hr2.trans hagg)
   have hq:=hq _ _ h1 h2
   simp only[wrK,hu] at hq
   have ex:den ρ (.agg xs)=.agg xs:=by
    show Value.agg (xs.map (den1 ρ))=_
    congr 1
    apply Array.toList_inj.1
    rw[Array.toList_map]
    exact ck_plain h1
   have ey:den ρ (.agg ys)=.agg ys:=by
    show Value.agg (ys.map (den1 ρ))=_
    congr 1
    apply Array.toList_inj.1
    rw[Array.toList_map]
    exact ck_plain h2
   rw[ex,ey]
   rw[show xs.toList.toArray=xs by simp,show ys.toList.toArray=ys by simp] at hq
   cases o<;>simp only at h<;>first | (simp at h;done) | skip
   ·simp at h
    subst h
    refine⟨?_,trivial⟩
    rw[Sem.run_bind,run_eqGuard_agg w _ t x y xs ys hgu,Result.andThen_ok,run_eql_struct w,hq]
    rfl
   ·simp at h
    subst h
    refine⟨?_,trivial⟩
    rw[Sem.run_bind,run_eqGuard_agg w _ t x y xs ys hgu,Result.andThen_ok,run_neq_struct w,hq]
    rfl
  ·simp at h
theorem binyx_run (hτ:TTok P τ) {t:TypeId} {x y:Operand} {p q v:Value} {o:BinOp} (h:binyx τ o t p q=some v) :
  (do eqGuard o t x y (den ρ p) (den ρ q);binOp o t (den ρ p) (den ρ q):Sem Value).run P w=.ok (den ρ v) w∧okV ρ nx v:=by
 unfold binyx at h
 cases hb:binx o (isBx τ t) p q with
 | some u=>rw[hb] at h;simp at h;subst h;exact binx_run hτ (binx_shift hb) hb
 | none=>rw[hb] at h;exact eqx_run hτ h
theorem zip_putL (off:Nat):∀ (vs:List Value) (k:Nat) (cs:Array Value),(vs.zipIdx k).foldl (fun cs (p:Value×Nat)=>cs.setIfInBounds (off+p.2) p.1) cs=putL cs (off+k) vs
 | [],k,cs=>rfl
 | v::r,k,cs=>by
  rw[List.zipIdx_cons,List.foldl_cons,zip_putL off r (k+1),putL]
  rfl
def nt:Value→Bool
 | .tuple _=>false
 | .func _ _ _=>false
 | _=>true
theorem notTuple {v:Value} (h:(cellsOf v).all atom=true):nt v=true:=by cases v<;>first | rfl | simp[cellsOf,atom] at h
theorem cells_den' {v:Value} (h:nt v=true):(den ρ v).cells=((cellsOf v).map (den1 ρ)).toArray:=by
 cases v with
 | agg cs=>apply Array.toList_inj.1;simp[den,den2,Value.cells,cellsOf]
 | tuple vs=>cases h
 | func f a b=>cases h
 | pointer p=>cases p<;>rfl
 | slice p n c=>cases p<;>rfl
 | _=>rfl
theorem cells_ok' {v:Value} (h:nt v=true) (hv:okV ρ nx v):∀ u ∈ cellsOf v,ok1 ρ nx u:=by
 cases v with
 | agg cs=>intro u hu;exact hv u (by simpa [cellsOf] using hu)
 | tuple vs=>cases h
 | func f a b=>cases h
 | _=>intro u hu;simp[cellsOf] at hu;subst hu;exact hv
theorem fill_one {place:Nat→Option (Nat×Nat)} {cs l:List Value} {i d s:Nat} {v:Value} (hp:place i=some (d,s)) (hl:(cellsOf v).length=s) (hat:(cellsOf v).all atom=true) (hput:putN d (cellsOf v) cs=some l) (rest:List (Nat×Value)) :
  Instr.fill place (cs.map (den1 ρ)).toArray ((i,den ρ v)::rest)=Instr.fill place (l.map (den1 ρ)).toArray rest:=by
 obtain⟨q1,q2,-⟩:=putN_get _ _ _ _ hput
 have hc:=cells_den' (ρ:=ρ) (notTuple hat)
 rw[Instr.fill,hp]
 simp only
 rw[if_neg (by simp[hc,hl];omega)]
 congr 1
 rw[hc]
 have:=zip_putL d ((cellsOf v).map (den1 ρ)) 0 (cs.map (den1 ρ)).toArray
 rw[Nat.add_zero,putN_map hput] at this
 rw[← this,← Array.foldl_toList,Array.toList_zipIdx]
theorem bldx_fill (hf:FrOk ρ fr nx a) {ti:TI} {place:Nat→Option (Nat×Nat)} (hp:∀ i d s,ti.offs[i]?=some d→ti.fszs[i]?=some s→place i=some (d,s)):∀ (parts:List (Nat×Operand)) (cs l:List Value),bldx ti fr parts cs=some l→(∀ v ∈ cs,ok1 ρ nx v)→
  Instr.fill place (cs.map (den1 ρ)).toArray (parts.map fun p=>(p.1,a.eval p.2))=some (l.map (den1 ρ)).toArray∧∀ v ∈ l,ok1 ρ nx v
 | [],cs,l,h,hk=>by simp[bldx] at h;subst h;exact⟨rfl,hk⟩
 | (i,x)::r,cs,l,h,hk=>by
  simp only[bldx] at h
  cases hx:ev fr x with
  | none=>rw[hx] at h;simp at h
  | some v=>
   rw[hx] at h
   simp only at h
   split at h
   ·rename_i d s ho hz
    split at h
    ·rename_i hl hat
     have hl':(cellsOf v).length=s:=by simpa using hl
     cases hput:putN d (cellsOf v) cs with
     | none=>rw[hput] at h;simp at h
     | some l1=>
      rw[hput] at h
      simp only at h
      obtain⟨h1,h2⟩:=ev_ok hf hx
      obtain⟨q1,q2,q3⟩:=putN_get _ _ _ _ hput
      have hk1:∀ u ∈ l1,ok1 ρ nx u:=fun u hu=>by
       obtain⟨j,hj⟩:=List.getElem?_of_mem hu
       rw[q3 j] at hj
       split at hj
       ·exact cells_ok' (notTuple hat) h2 u (List.mem_of_getElem? hj)
       ·exact hk u (List.mem_of_getElem? hj)
      obtain⟨h3,h4⟩:=bldx_fill hf hp r l1 l h hk1
      refine⟨?_,h4⟩
      rw[List.map_cons]
      simp only
      rw[h1,fill_one (hp i d s ho hz) hl' hat hput]
      exact h3
    ·simp at h
   ·simp at h
theorem places_of {fs:List Field} (h:(fs.map fun f=>szOf P f.type).all (fun n=>Nat.blt 0 n)=true):∃ pl,fs.mapM (fun f=>(P.info? f.type).map fun i=>(f.offset,i.size))=some pl∧∀ i:Nat,pl[i]?=(fs[i]?).map fun (f:Field)=>(f.offset,szOf P f.type):=by
 induction fs with
 | nil=>exact⟨[],by simp,fun i=>by simp⟩
 | cons f fs ih=>
  simp only[List.map_cons,List.all_cons,Bool.and_eq_true] at h
  obtain⟨pl,h1,h2⟩:=ih h.2
  cases hi:P.info? f.type with
  | none=>have:=h.1;simp[szOf,hi] at this
  | some i=>
   refine⟨(f.offset,i.size)::pl,by simp[List.mapM_cons,hi,h1],fun k=>?_⟩
   cases k with
   | zero=>simp[szOf,hi]
   | succ k=>simpa using h2 k
theorem build_run {t:TypeId} {ti:TI} (ht:TIok P t ti) (hf:FrOk ρ fr nx a) {o1:Nat} {or:List Nat} (ho:ti.offs=o1::or) (hz:ti.fszs.all (fun n=>Nat.blt 0 n)=true) {parts:Array (Nat×Operand)} {l:List Value} (h:bldx ti fr parts.toList ti.zero=some l) :
  (Instr.build t (parts.map fun (i,x)=>(i,a.eval x))).run P w=.ok (den ρ (.agg l.toArray)) w∧okV ρ nx (.agg l.toArray):=by
 obtain⟨i,hi,hs,z,hz0,hzc⟩:=ht.size
 obtain⟨d,hd,hrow,hdi⟩:=ht.desc
 cases d with
 | struct fs=>
  simp only[dInfo,Prod.mk.injEq] at hdi
  obtain⟨e1,e2,-⟩:=hdi
  rw[← e2] at hz
  obtain⟨pl,hm,hget⟩:=places_of (P:=P) (fs:=fs.toList) hz
  have hza:z.cells=(ti.zero.map (den1 ρ)).toArray:=by
   apply Array.toList_inj.1
   rw[hzc]
   simp only[List.toList_toArray]
   conv=>lhs;rw[← List.map_id ti.zero]
   exact List.map_congr_left fun v hv=>(den1_plain (ht.zero v hv)).symm
  obtain⟨h1,h2⟩:=bldx_fill (ρ:=ρ) (nx:=nx) (a:=a) hf (ti:=ti) (place:=(pl.toArray[·]?)) (fun k d s hd hs=>by
   rw[← e1,List.getElem?_map] at hd
   rw[← e2,List.getElem?_map] at hs
   have:=hget k
   cases hfk:fs.toList[k]? with
   | none=>rw[hfk] at hd;simp at hd
   | some f=>
    rw[hfk] at hd hs this
    simp at hd hs this
    simp[this,hd,hs]) parts.toList ti.zero l h (fun v hv=>ok1_plain (ht.zero v hv))
  refine⟨?_,fun u hu=>h2 u (by simpa using hu)⟩
  rw[run_build w t _ (l.map (den1 ρ)).toArray ?_]
  ·simp[den,den2]
  ·unfold Program.built
   simp only[hi,hd,hz0,hm]
   rw[hza]
   have:(parts.map fun (p:Nat×Operand)=>(p.1,a.eval p.2)).toList=parts.toList.map fun p=>(p.1,a.eval p.2):=by simp
   rw[this]
   exact h1
 | _=>simp[dInfo,ho] at hdi
theorem vx_run (hτ:TTok P τ) (hf:FrOk ρ fr nx a) (hm:∀ i b,lk mem i=some b→BlkOk C ρ nx i w b) {o:Oper} {v:Value} (h:vx τ fr mem o.op=some v) :
  (execOp a.eval o).run P w=.ok (.value (den ρ v)) w∧okV ρ nx v:=by
 obtain⟨dst,op,type,pos,after,guard⟩:=o
 simp only at h
 unfold execOp
 cases op<;>simp only[vx] at h ⊢<;>try (simp at h;done)
 case makeFunc fn first cap=>
  cases fn<;>simp only[vx] at h<;>try (simp at h;done)
  rename_i f
  cases h1:evs fr first.toList with
  | none=>rw[h1] at h;simp at h
  | some fs=>
   cases h2:evs fr cap.toList with
   | none=>rw[h1,h2] at h;simp at h
   | some cs=>
    rw[h1,h2] at h
    simp only at h
    split at h
    ·rename_i ha hb
     simp at h
     subst h
     obtain⟨e1,k1⟩:=evs_ok hf h1
     obtain⟨e2,k2⟩:=evs_ok hf h2
     rw[List.all_eq_true] at ha hb
     have d1:first.map a.eval=fs.toArray.map (den1 ρ):=by
      apply Array.toList_inj.1
      simp only[Array.toList_map,e1]
      exact List.map_congr_left fun v hv=>atom_den (ha v hv)
     have d2:cap.map a.eval=cs.toArray.map (den1 ρ):=by
      apply Array.toList_inj.1
      simp only[Array.toList_map,e2]
      exact List.map_congr_left fun v hv=>atom_den (hb v hv)
     refine⟨?_,fun v hv=>?_,fun v hv=>?_⟩
     ·rw[d1,d2];rfl
     ·have hv':v ∈ fs:=by simpa using hv
      rw[← atom_ok (ha v hv')]
      exact k1 v hv'
     ·have hv':v ∈ cs:=by simpa using hv
      rw[← atom_ok (hb v hv')]
      exact k2 v hv'
    ·simp at h
 case move x=>
  obtain⟨h1,h2⟩:=ev_ok hf h
  exact⟨by simp[h1],h2⟩
 case assign x=>
  obtain⟨h1,h2⟩:=ev_ok hf h
  exact⟨by simp[h1],h2⟩
 case pick c x y=>
  cases hc:ev fr c with
  | none=>rw[hc] at h;simp at h
  | some u=>
   rw[hc] at h
   obtain⟨h1,-⟩:=ev_ok hf hc
   cases u<;>simp at h
   rename_i b
   cases b
   ·simp only at h
    obtain⟨h3,h4⟩:=ev_ok hf h
    exact⟨by simp[h1,h3,asBool,den,den2,den1],h4⟩
   ·simp only at h
    obtain⟨h3,h4⟩:=ev_ok hf h
    exact⟨by simp[h1,h3,asBool,den,den2,den1],h4⟩
 case load t x=>
  cases hc:ev fr x with
  | none=>rw[hc] at h;simp at h
  | some p=>
   rw[hc] at h
   simp only at h
   obtain⟨h1,h2⟩:=ev_ok hf hc
   obtain⟨h3,h4⟩:=ldx_run hτ hm h2 h
   exact⟨by rw[h1];simp[h3],h4⟩
 case fieldAddr t x f=>
  cases hc:ev fr x with
  | none=>rw[hc] at h;simp at h
  | some p=>
   rw[hc] at h
   simp only at h
   obtain⟨h1,h2⟩:=ev_ok hf hc
   obtain⟨h3,h4⟩:=fax_run (w:=w) hτ h2 h
   exact⟨by rw[h1];simp[h3],h4⟩
 case indexAddr t x i=>
  cases hc:ev fr x with
  | none=>rw[hc] at h;simp at h
  | some p=>
   cases hd:ev fr i with
   | none=>rw[hc,hd] at h;simp at h
   | some q=>
    rw[hc,hd] at h
    simp only at h
    obtain⟨h1,h2⟩:=ev_ok hf hc
    obtain⟨h3,-⟩:=ev_ok hf hd
    obtain⟨h4,h5⟩:=arx_run (w:=w) hτ h2 h
    exact⟨by rw[h1,h3];simp[h4],h5⟩
 case field t x f=>
  cases hc:ev fr x with
  | none=>rw[hc] at h;simp at h
  | some p=>
   rw[hc] at h
   simp only at h
   obtain⟨h1,h2⟩:=ev_ok hf hc
   obtain⟨h3,h4⟩:=fdx_run (w:=w) hτ h2 h
   exact⟨by rw[h1];simp[h3],h4⟩
 case convert s d x=>
  cases hc:ev fr x with
  | none=>rw[hc] at h;simp at h
  | some p=>
   rw[hc] at h
   cases p<;>simp only at h<;>first | (simp at h;done) | skip
   rename_i k n
   cases hs:lk τ s with
   | none=>rw[hs] at h;simp at h
   | some si=>
    rw[hs] at h
    cases hd:lk τ d with
    | none=>rw[hd] at h;simp at h
    | some di=>
     rw[hd] at h
     simp only at h
     cases hk:di.ik with
     | none=>rw[hk] at h;simp at h
     | some k2=>
      rw[hk] at h
      simp at h
      subst h
      obtain⟨h1,-⟩:=ev_ok hf hc
      obtain⟨dd,hu,-⟩:=(hτ s si hs).desc
      have hv:=(hτ d di hd).ikind hk
      have h1':a.eval x=.int k n:=h1
      refine⟨?_,trivial⟩
      show _=Result.ok (Next.value (.int k2 (k2.wrap n))) w
      simp[h1',convert,run_underlying hu,run_underlying hv,Conv.intToInt]
 case unOp uo t x=>
  cases uo<;>simp only[vx] at h<;>try (simp at h;done)
  case neg=>
   cases hc:ev fr x with
   | none=>rw[hc] at h;simp at h
   | some p=>
    rw[hc] at h
    obtain⟨h1,-⟩:=ev_ok hf hc
    cases p<;>simp at h
    subst h
    exact⟨by rw[h1];simp[Op.unary,Op.intArith,den,den2,den1],trivial⟩
  case xor=>
   cases hc:ev fr x with
   | none=>rw[hc] at h;simp at h
   | some p=>
    rw[hc] at h
    obtain⟨h1,-⟩:=ev_ok hf hc
    cases p<;>simp at h
    subst h
    exact⟨by rw[h1];simp[Op.unary,Op.intBits,den,den2,den1],trivial⟩
  cases hc:ev fr x with
  | none=>rw[hc] at h;simp at h
  | some p=>
   rw[hc] at h
   obtain⟨h1,-⟩:=ev_ok hf hc
   cases p<;>simp at h
   subst h
   exact⟨by rw[h1];simp[Op.unary,den,den2,den1],trivial⟩
 case binOp bo t x y yt=>
  cases hc:ev fr x with
  | none=>rw[hc] at h;simp at h
  | some p=>
   rw[hc] at h
   simp only at h
   cases hd:ev fr y with
   | none=>rw[hd] at h;simp at h
   | some q=>
    rw[hd] at h
    simp only at h
    obtain⟨h1,-⟩:=ev_ok hf hc
    obtain⟨h2,-⟩:=ev_ok hf hd
    obtain⟨h3,h4⟩:=binyx_run (P:=P) (ρ:=ρ) (nx:=nx) (w:=w) (x:=x) (y:=y) hτ h
    refine⟨?_,h4⟩
    rw[h1,h2]
    rw[Sem.run_bind,h3]
    simp
 case build t parts=>
  cases hti:lk τ t with
  | none=>rw[hti] at h;simp at h
  | some ti=>
   rw[hti] at h
   simp only at h
   split at h
   ·rename_i o1 or ho hz
    cases hb:bldx ti fr parts.toList ti.zero with
    | none=>rw[hb] at h;simp at h
    | some l=>
     rw[hb] at h
     simp at h
     subst h
     obtain⟨h1,h2⟩:=build_run (P:=P) (w:=w) (hτ t ti hti) hf ho hz hb
     exact⟨by rw[Sem.run_bind,h1];rfl,h2⟩
   ·simp at h
 case nilCheck x=>
  cases hc:ev fr x with
  | none=>rw[hc] at h;simp at h
  | some p=>
   rw[hc] at h
   obtain⟨h1,h2⟩:=ev_ok hf hc
   cases p<;>first | (cases h;done) | skip
   rename_i q
   cases q with
   | none=>cases h
   | some ad=>
    cases h
    refine⟨?_,h2⟩
    obtain⟨cb,co,hA⟩:=(show ∃ b o,(ρ ad.block).A=some ⟨b,o,none⟩ from h2.2.1)
    have e:den ρ (.pointer (some ad))=.pointer (some ⟨cb,co+ad.spot.getD 0 * (ρ ad.block).sz+ad.off,none⟩):=by simp[den,den2,den1,dA_some hA]
    rw[h1,e]
    simp
 case extract x i=>
  cases hc:ev fr x with
  | none=>rw[hc] at h;simp at h
  | some p=>
   rw[hc] at h
   obtain⟨h1,h2⟩:=ev_ok hf hc
   cases p<;>simp only at h<;>try (simp at h;done)
   rename_i vs
   cases hi:vs[i]? with
   | none=>rw[hi] at h;simp at h
   | some u=>
    rw[hi] at h
    simp only at h
    have hu2:ok2 ρ nx u:=h2 u (Array.mem_of_getElem? hi)
    rcases not_tuple u with⟨cs,rfl⟩ | ⟨f,a',b,rfl⟩ | ⟨e1,e2⟩
    ·simp at h
    ·simp at h
    ·have:u=v:=by cases u<;>simp at h<;>exact h
     subst this
     refine⟨?_,by rw[e2];exact hu2⟩
     rw[h1,e1]
     have hd:den ρ (.tuple vs)=.tuple (vs.map (den2 ρ)):=rfl
     rw[hd]
     simp only[Instr.extract,Array.getElem?_map,hi,Option.map_some]
     rfl
 case call c=>
  obtain⟨callee,args,argTypes⟩:=c
  cases callee with
  | value f=>simp[vx] at h
  | invoke r m=>simp[vx] at h
  | builtin b=>
   cases b<;>simp only[vx] at h<;>try (simp at h;done)
   case len=>
    cases hc:evs fr args.toList with
    | none=>rw[hc] at h;simp at h
    | some vs=>
     rw[hc] at h
     simp only at h
     obtain⟨h1,h2⟩:=evs_ok hf hc
     have h1':args.map a.eval=(vs.map (den ρ)).toArray:=by apply Array.toList_inj.1;simp[h1]
     split at h
     ·rename_i t hts
      have hat:argTypes=#[t]:=by apply Array.toList_inj.1;simp[hts]
      cases hti:lk τ t with
      | none=>rw[hti] at h;simp at h
      | some ti=>
       rw[hti] at h
       simp only at h
       unfold lenx at h
       split at h
       ·rename_i A n cp
        cases hsl:ti.sl with
        | false=>rw[hsl] at h;simp at h
        | true=>
         rw[hsl] at h
         simp at h
         subst h
         obtain⟨e,hu,-⟩:=(hτ t ti hti).slice hsl
         refine⟨?_,trivial⟩
         have hds:∃ A',den ρ (.slice A n cp)=.slice A' n cp:=by
          cases A with
          | none=>exact⟨none,rfl⟩
          | some ad=>exact⟨_,rfl⟩
         obtain⟨A',hA'⟩:=hds
         simp only[List.map_cons,List.map_nil,hA'] at h1'
         rw[show den ρ (.int .i64 n)=.int .i64 n from rfl]
         simp[resolve,invoke,builtin,h1',hat,Builtin.len_,run_underlying hu,goInt]
       ·simp at h
     ·simp at h
   case max=>
    cases hc:evs fr args.toList with
    | none=>rw[hc] at h;simp at h
    | some vs=>
     rw[hc] at h
     simp only at h
     obtain⟨h1,h2⟩:=evs_ok hf hc
     have h1':args.map a.eval=(vs.map (den ρ)).toArray:=by apply Array.toList_inj.1;simp[h1]
     unfold maxx at h
     split at h
     ·simp at h
      subst h
      exact⟨by simp[resolve,invoke,builtin,h1',Builtin.max_,Builtin.max2,den,den2,den1],trivial⟩
     ·simp at h
   case min=>
    cases hc:evs fr args.toList with
    | none=>rw[hc] at h;simp at h
    | some vs=>
     rw[hc] at h
     simp only at h
     obtain⟨h1,h2⟩:=evs_ok hf hc
     have h1':args.map a.eval=(vs.map (den ρ)).toArray:=by apply Array.toList_inj.1;simp[h1]
     unfold minx at h
     split at h
     ·simp at h
      subst h
      exact⟨by simp[resolve,invoke,builtin,h1',Builtin.min_,Builtin.min2,den,den2,den1],trivial⟩
     ·simp at h
end
abbrev CT:=List Value→AM→Nat→(Value→AM→Nat→Prop)→Prop
abbrev FT:=List (Nat×CT)
def plB:Value→Bool
 | .pointer (some _)=>false
 | .slice (some _) _ _=>false
 | _=>true
def setEl (el:Nat→List Value) (k:Nat) (l:List Value):Nat→List Value:=fun j=>match Nat.beq j k with | true=>l | false=>el j
def rowsx (fr:AF) (sz:Nat):Nat→List (Nat×Operand)→Option (List (List Value))
 | _,[]=>some []
 | p,(i,x)::r=>(match Nat.beq i p,ev fr x with
  | true,some v=>(match decide ((cellsOf v).length=sz),(cellsOf v).all atom,(cellsOf v).all plB with
   | true,true,true=>(match rowsx fr sz (p+1) r with | some rs=>some (cellsOf v::rs) | none=>none)
   | _,_,_=>none)
  | _,_=>none)
def putK (d:Option Nat) (v:Value) (fr:AF) (K:AF→Prop):Prop:=match d with | some d=>K ((d,v)::fr) | none=>K fr
theorem putK_eq (d:Option Nat) (v:Value) (fr:AF) (K:AF→Prop):putK d v fr K=K (putF d v fr):=by cases d<;>rfl
def srcx (mem:AM) (sz:Nat) (x:Value) (k:Nat→(Nat→List Value)→Prop):Prop:=match x with
 | .slice none m _=>(match m with | 0=>k 0 (fun _=>[]) | _=>False)
 | .slice (some ⟨q,qo,qs⟩) m _=>(match qo,qs,lk mem q with
  | 0,none,some (.row _ sz' n2 el2)=>(match Nat.beq sz' sz with | true=>(m≤n2∧∀ k,k<m→(el2 k).all atom=true)∧k m el2 | false=>False)
  | _,_,_=>False)
 | _=>False
def appx (elt:TypeId) (te:TI) (eb:Nat) (s x:Value) (mem:AM) (nx:Nat) (K:Value→AM→Nat→Prop):Prop:=srcx mem te.size x fun m el2=>match s with
 | .slice none len cap=>(match len,cap with
  | 0,0=>(m=0→K (.slice none 0 0) mem nx)∧(m≠0→m * eb≤140737488355328∧∀ cap' el',m≤cap'→(∀ k,k<m→el' k=el2 k)→K (.slice (some ⟨nx,0,none⟩) m cap') ((nx,.row (1000000+elt) te.size cap' el')::mem) (nx+1))
  | _,_=>False)
 | .slice (some ⟨r,ro,rs⟩) len cap=>(match ro,rs,lk mem r with
  | 0,none,some (.row bt sz' n el)=>(match ownT bt,Nat.beq sz' te.size with
   | true,true=>(cap=n∧len≤n)∧(len+m≤n→∀ el',(∀ k,k<len→el' k=el k)→(∀ k,k<m→el' (len+k)=el2 k)→K (.slice (some ⟨r,0,none⟩) (len+m) n) ((r,.row bt sz' n el')::mem) nx)∧
    (n<len+m→(len+m) * eb≤140737488355328∧∀ cap' el',len+m≤cap'→(∀ k,k<len→el' k=el k)→(∀ k,k<m→el' (len+k)=el2 k)→K (.slice (some ⟨nx,0,none⟩) (len+m) cap') ((nx,.row (1000000+elt) te.size cap' el')::mem) (nx+1))
   | _,_=>False)
  | _,_,_=>False)
 | _=>False
def actx (τ:TT) (F:FT) (dst:Option Nat) (op:Op) (fr:AF) (mem:AM) (nx:Nat) (K:AF→AM→Nat→Prop):Prop:=
 match op with
 | .alloc t=>(match lk τ t with
  | some ti=>putK dst (.pointer (some ⟨nx,0,none⟩)) fr fun fr'=>K fr' ((nx,.box t ti.zero)::mem) (nx+1)
  | none=>False)
 | .box t x=>(match ev fr x with
  | some v=>(match v with
   | .tuple _=>False
   | .func _ _ _=>False
   | v=>putK dst (.pointer (some ⟨nx,0,none⟩)) fr fun fr'=>K fr' ((nx,.box t (cellsOf v))::mem) (nx+1))
  | none=>False)
 | .store t x y=>(match ev fr x,ev fr y,lk τ t with
  | some (.pointer (some ⟨ab,ao,as_⟩)),some v,some ti=>(match lk mem ab,as_ with
   | some (.box bt cs),none=>(match decide ((cellsOf v).length=ti.size),(cellsOf v).all atom,putN ao (cellsOf v) cs,dst with
    | true,true,some l,none=>K fr ((ab,.box bt l)::mem) nx
    | _,_,_,_=>False)
   | some (.row bt sz n el),some k=>(match decide ((cellsOf v).length=ti.size),(cellsOf v).all atom,(cellsOf v).all plB,ownT bt,dst with
    | true,true,true,true,none=>∃ l,putN ao (cellsOf v) (el k)=some l∧K fr ((ab,.row bt sz n (setEl el k l))::mem) nx
    | _,_,_,_,_=>False)
   | _,_=>False)
  | _,_,_=>False)
 | .buildSlice t len parts=>(match lk τ t with
  | some ti=>(match ti.sl,ti.eb,lk τ ti.elt with
   | true,_+1,some te=>(match te.size,rowsx fr te.size 0 parts.toList with
    | _+1,some rs=>(match Nat.beq rs.length len,Nat.ble (len * te.size) 16777216 with
     | true,true=>putK dst (.slice (some ⟨nx,0,none⟩) len len) fr fun fr'=>K fr' ((nx,.row (1000000+ti.elt) te.size len (fun k=>rs.getD k []))::mem) (nx+1)
     | _,_=>False)
    | _,_=>False)
   | _,_,_=>False)
  | none=>False)
 | .makeSlice t x y=>(match ev fr x,ev fr y,lk τ t with
  | some (.int _ n),some (.int _ n'),some ti=>(match ti.sl,ti.eb,lk τ ti.elt with
   | true,eb+1,some te=>(match te.size,Nat.beq te.zero.length te.size with
    | _+1,true=>(n'=n∧0≤n∧n * ((eb+1:Nat):Int)≤281474976710656)∧putK dst (.slice (some ⟨nx,0,none⟩) n.toNat n.toNat) fr fun fr'=>K fr' ((nx,.row (1000000+ti.elt) te.size n.toNat (fun _=>te.zero))::mem) (nx+1)
    | _,_=>False)
   | _,_,_=>False)
  | _,_,_=>False)
 | .indexAddr t x i=>(match ev fr x,ev fr i,lk τ t with
  | some (.slice (some ⟨ab,ao,as_⟩) n _),some (.int _ k),some ti=>(match lk mem ab with
   | some (.row _ sz n' _)=>(match ao,as_,ti.sl,ti.esz,Nat.beq ti.esz sz with
    | 0,none,true,_+1,true=>(n≤n'∧0≤k∧k<n)∧putK dst (.pointer (some ⟨ab,0,some k.toNat⟩)) fr fun fr'=>K fr' mem nx
    | _,_,_,_,_=>False)
   | _=>False)
  | _,_,_=>False)
 | .binOp bo t x y _=>(match ev fr x,ev fr y with
  | some (.int k b),some (.int k' c)=>(match bo with
   | .shl=>0≤c∧putK dst (.int k (k.wrap (b * 2 ^ min c.toNat k.bits))) fr fun fr'=>K fr' mem nx
   | .shr=>0≤c∧putK dst (.int k (b.fdiv (2 ^ min c.toNat k.bits))) fr fun fr'=>K fr' mem nx
   | .quo=>(k=k'∧c≠0)∧putK dst (.int k (k.wrap (b.tdiv c))) fr fun fr'=>K fr' mem nx
   | .rem=>(k=k'∧c≠0)∧putK dst (.int k (b.tmod c)) fr fun fr'=>K fr' mem nx
   | _=>False)
  | _,_=>False)
 | .slice t x none (some y) none=>(match ev fr x,ev fr y,lk τ t with
  | some (.slice A _ cap),some (.int _ h),some ti=>(match ti.sl,ti.esz with
   | true,_+1=>(0≤h∧h≤cap)∧putK dst (.slice A h.toNat cap) fr fun fr'=>K fr' mem nx
   | _,_=>False)
  | _,_,_=>False)
 | .call { callee:=.builtin .append,args,argTypes }=>(match evs fr args.toList,argTypes.toList with
  | some [s,x],[t,tx]=>(match lk τ t,lk τ tx with
   | some ti,some tj=>(match ti.sl,tj.sl,ti.eb,lk τ ti.elt with
    | true,true,eb+1,some te=>(match te.size,Nat.beq te.zero.length te.size with
     | _+1,true=>appx ti.elt te (eb+1) s x mem nx (fun v mem' nx'=>putK dst v fr fun fr'=>K fr' mem' nx')
     | _,_=>False)
    | _,_,_,_=>False)
   | _,_=>False)
  | _,_=>False)
 | .call { callee:=.value (.func f),args,.. }=>(match evs fr args.toList,lk F f with
  | some vs,some ct=>ct vs mem nx (fun v mem' nx'=>putK dst v fr fun fr'=>K fr' mem' nx')
  | _,_=>False)
 | .call { callee:=.value (.tmp t),args,.. }=>(match lk fr t with
  | some (.func (.func f) fs cs)=>(match evs fr args.toList,lk F f,fs.toList.all atom,cs.toList.all atom with
   | some vs,some ct,true,true=>ct (fs.toList++(vs++cs.toList)) mem nx (fun v mem' nx'=>putK dst v fr fun fr'=>K fr' mem' nx')
   | _,_,_,_=>False)
  | _=>False)
 | _=>False
def opx (τ:TT) (F:FT) (o:Oper) (fr:AF) (mem:AM) (nx:Nat) (K:AF→AM→Nat→Prop):Prop:=
 match o with
 | ⟨dst,op,_,_,_,_⟩=>(match vx τ fr mem op with
  | some v=>putK dst v fr fun fr'=>K fr' mem nx
  | none=>actx τ F dst op fr mem nx K)
def Ext (ρ:Nat→Pl) (nx:Nat) (ρ':Nat→Pl) (nx':Nat):Prop:=(∀ i,i<nx→(ρ i).res=false→ρ' i=ρ i)∧nx≤nx'
theorem Ext.refl (ρ:Nat→Pl) (nx:Nat):Ext ρ nx ρ nx:=⟨fun _ _ _=>rfl,Nat.le_refl _⟩
theorem Ext.set (ρ:Nat→Pl) (nx:Nat) (p:Pl):Ext ρ nx (setPl ρ nx p) (nx+1):=⟨fun _ hi _=>setPl_lt ρ _ hi,Nat.le_succ _⟩
theorem Ext.trans {ρ1 ρ2 ρ3:Nat→Pl} {n1 n2 n3:Nat} (h:Ext ρ1 n1 ρ2 n2) (k:Ext ρ2 n2 ρ3 n3):Ext ρ1 n1 ρ3 n3:=
 ⟨fun i hi hr=>by
  have e:=h.1 i hi hr
  rw[k.1 i (Nat.lt_of_lt_of_le hi h.2) (by rw[e];exact hr),e],Nat.le_trans h.2 k.2⟩
def ExtS (ρ:Nat→Pl) (nx:Nat) (ρ':Nat→Pl) (nx':Nat):Prop:=(∀ i,i<nx→ρ' i=ρ i)∧nx≤nx'
theorem ExtS.refl (ρ:Nat→Pl) (nx:Nat):ExtS ρ nx ρ nx:=⟨fun _ _=>rfl,Nat.le_refl _⟩
theorem ExtS.set (ρ:Nat→Pl) (nx:Nat) (p:Pl):ExtS ρ nx (setPl ρ nx p) (nx+1):=⟨fun _ hi=>setPl_lt ρ _ hi,Nat.le_succ _⟩
theorem ExtS.ext {ρ1 ρ2:Nat→Pl} {n1 n2:Nat} (h:ExtS ρ1 n1 ρ2 n2):Ext ρ1 n1 ρ2 n2:=⟨fun i hi _=>h.1 i hi,h.2⟩
theorem ExtS.trans {ρ1 ρ2 ρ3:Nat→Pl} {n1 n2 n3:Nat} (h:ExtS ρ1 n1 ρ2 n2) (k:ExtS ρ2 n2 ρ3 n3):ExtS ρ1 n1 ρ3 n3:=
 ⟨fun i hi=>(k.1 i (Nat.lt_of_lt_of_le hi h.2)).trans (h.1 i hi),Nat.le_trans h.2 k.2⟩
structure CSound (P:Program) (f:FuncId) (ct:CT):Prop where
 ent : (P.funcs[f]?).map (fun fn => (fn.name == "runtime.NumGoroutine", fn.body.isNone)) = some (false, false)
 run:∀ {C:Ctx} {ρ:Nat→Pl} {fr:AF} {mem:AM} {nx:Nat} {a:Act} {w:World} {vs:List Value} {K:Value→AM→Nat→Prop},ct vs mem nx K→Sat C ρ fr mem nx a w→(∀ v ∈ vs,okV ρ nx v)→
  Calls P f (vs.map (den ρ)).toArray w fun e w'=>∃ v mem' nx' ρ',e=.returned (den ρ' v)∧K v mem' nx'∧Sat C ρ' fr mem' nx' a w'∧okV ρ' nx' v∧ExtS ρ nx ρ' nx'
def FTok (P:Program) (F:FT):Prop:=∀ f ct,lk F f=some ct→CSound P f ct
structure CSoundC (P:Program) (f:FuncId) (ct:CT) (C:Ctx):Prop where
 ent : (P.funcs[f]?).map (fun fn => (fn.name == "runtime.NumGoroutine", fn.body.isNone)) = some (false, false)
 run:∀ {ρ:Nat→Pl} {fr:AF} {mem:AM} {nx:Nat} {a:Act} {w:World} {vs:List Value} {K:Value→AM→Nat→Prop},ct vs mem nx K→Sat C ρ fr mem nx a w→(∀ v ∈ vs,okV ρ nx v)→
  Calls P f (vs.map (den ρ)).toArray w fun e w'=>∃ v mem' nx' ρ',e=.returned (den ρ' v)∧K v mem' nx'∧Sat C ρ' fr mem' nx' a w'∧okV ρ' nx' v∧ExtS ρ nx ρ' nx'
theorem CSound.at {P:Program} {f:FuncId} {ct:CT} (h:CSound P f ct) (C:Ctx):CSoundC P f ct C:=⟨h.ent,fun hc hs hv=>h.run hc hs hv⟩
def CSoundI (P:Program) (I:List Nat) (f:FuncId) (ct:CT):Prop:=∀ C:Ctx,(C.fm=[]∨I.contains f=false)→CSoundC P f ct C
def FTokI (P:Program) (F:FT) (I:List Nat):Prop:=∀ f ct,lk F f=some ct→CSoundI P I f ct
theorem CSound.i {P:Program} {f:FuncId} {ct:CT} (h:CSound P f ct) (I:List Nat):CSoundI P I f ct:=fun C _=>h.at C
theorem FTok.i {P:Program} {F:FT} (h:FTok P F) (I:List Nat):FTokI P F I:=fun f ct hl=>(h f ct hl).i I
theorem fti_nil {P:Program} {I:List Nat}:FTokI P [] I:=fun f ct h=>by simp[lk] at h
theorem fti_cons {P:Program} {I:List Nat} {f:Nat} {ct:CT} {F:FT} (h:CSoundI P I f ct) (hr:FTokI P F I):FTokI P ((f,ct)::F) I:=fun g c hl=>by
 rcases lk_cons hl with⟨rfl,rfl⟩ | ⟨_,hl⟩
 ·exact h
 ·exact hr g c hl
def inlOk (I:List Nat) (op:Op):Bool:=match op with
 | .call { callee:=.value (.func f),.. }=>!I.contains f
 | .call { callee:=.value (.tmp _),.. }=>false
 | _=>true
section
variable {P:Program} {τ:TT} {F:FT} {C:Ctx} {ρ:Nat→Pl} {fr:AF} {mem:AM} {nx:Nat} {a:Act} {w:World} {Q:Exit→Act→World→Prop}
theorem cells_den {v:Value} (h:nt v=true):(den ρ v).cells=((cellsOf v).map (den1 ρ)).toArray:=by
 cases v with
 | agg cs=>apply Array.toList_inj.1;simp[den,den2,Value.cells,cellsOf]
 | tuple vs=>cases h
 | func f a b=>cases h
 | pointer p=>cases p<;>rfl
 | slice p n c=>cases p<;>rfl
 | _=>rfl
theorem cells_ok {v:Value} (h:nt v=true) (hv:okV ρ nx v):∀ u ∈ cellsOf v,ok1 ρ nx u:=by
 cases v with
 | agg cs=>intro u hu;exact hv u (by simpa [cellsOf] using hu)
 | tuple vs=>cases h
 | func f a b=>cases h
 | _=>intro u hu;simp[cellsOf] at hu;subst hu;exact hv
theorem atom_one {v:Value} (h:atom v=true):(den1 ρ v).oneCell'=true:=by
 cases v with
 | agg cs=>simp[atom] at h
 | tuple cs=>simp[atom] at h
 | func f a b=>simp[atom] at h
 | pointer p=>cases p<;>rfl
 | slice p n c=>cases p<;>rfl
 | _=>rfl
theorem run_store {t:TypeId} {ti:TI} (ht:TIok P t ti) {g o:Nat} {v:Value} (hnt:nt v=true) (hl:(cellsOf v).length=ti.size) (hat:(cellsOf v).all atom=true) (hth:w.there g o (cellsOf v).length) :
  (Instr.storeAt t (.pointer (some ⟨g,o,none⟩)) (den ρ v)).run P w=.ok () (w.setCells g o ((cellsOf v).map (den1 ρ))):=by
 obtain⟨i,hi,hs,-⟩:=ht.size
 have hc:=cells_den (ρ:=ρ) hnt
 have:=run_storeCells_cells (P:=P) g o ((cellsOf v).map (den1 ρ)) 0 w (fun j hj=>by simpa using (hth j (by simpa using hj)).1) (fun j hj=>by simpa using (hth j (by simpa using hj)).2)
  (fun u hu=>by
   obtain⟨x,hx,rfl⟩:=List.mem_map.1 hu
   exact atom_one (List.all_eq_true.1 hat x hx))
 simp only[Nat.add_zero] at this
 simp[Instr.storeAt,Instr.sureAddr,storeVar,sizeOf,typeInfo,hi,hc,hs,hl,this]
theorem setCells_rest (C:Ctx) {g:Nat} (hg:C.w0.heap.size≤g∨g ∈ C.bor):∀ (vs:List Value) {w:World} (o:Nat),Rest C w→Rest C (w.setCells g o vs)
 | [],w,o,h=>h
 | v::r,w,o,h=>by
  rw[World.setCells]
  refine setCells_rest C hg r (o+1) ⟨h.os,h.tape,h.output,by simpa [World.setCell] using h.size,fun b hb hn=>?_⟩
  rw[Below.heap_setCell w ⟨g,o,none⟩ v b (by
   show b≠g
   rintro rfl
   rcases hg with hg | hg
   ·omega
   ·exact hn hg)]
  exact h.block b hb hn
theorem RowA.far {base:Nat} {w':World} {t:TypeId} {b off:Nat} (h:RowA base w t b off) (hs:w.heap.size≤w'.heap.size) (hb:w'.heap[b]?=w.heap[b]?):RowA base w' t b off:=
 ⟨Nat.lt_of_lt_of_le h.lt hs,fun ho=>by obtain⟨h1,h2,ty,cs,h3⟩:=h.own ho;exact⟨h1,h2,ty,cs,hb.trans h3⟩,h.new⟩
theorem Sat.store (h:Sat C ρ fr mem nx a w) {i g o:Nat} {t:TypeId} {cs vs l:List Value} (hb0:lk mem i=some (.box t cs)) (hA:(ρ i).A=some ⟨g,0,none⟩) (hp:putN o vs cs=some l) (hv:∀ v ∈ vs,ok1 ρ nx v) :
  Sat C ρ fr ((i,.box t l)::mem) nx a (w.setCells g o (vs.map (den1 ρ))):=by
 have hb:=lk_app (r:=C.fm) hb0
 obtain⟨g',hA',hblk,hbase,hcs⟩:=h.blk i _ hb
 have hgg:g'=g:=by rw[hA] at hA';cases hA';rfl
 subst hgg
 have hfar:∀ b,b≠g'→(w.setCells g' o (vs.map (den1 ρ))).heap[b]?=w.heap[b]?:=fun b hb=>setCells_far _ _ b hb
 refine⟨h.fok,h.sz,h.dfr,fun j b' hj=>?_,fun j b' hj=>?_,fun j k b1 b2 hne hj hk=>?_,h.n0,h.low,setCells_rest C hbase _ _ h.rest⟩
 ·rcases lk_cons hj with⟨rfl,rfl⟩ | ⟨hne,hj⟩
  ·exact h.mlt i _ hb
  ·exact h.mlt j b' hj
 ·rcases lk_cons hj with⟨rfl,rfl⟩ | ⟨hne,hj⟩
  ·refine⟨g',hA',?_,hbase,fun u hu=>?_⟩
   ·have:=hblk.setCells (vs.map (den1 ρ)) o
    rw[putN_map hp] at this
    exact this
   ·obtain⟨h1,h2,h3⟩:=putN_get _ _ _ _ hp
    obtain⟨j,hj⟩:=List.getElem?_of_mem hu
    rw[h3 j] at hj
    split at hj
    ·exact hv u (List.mem_of_getElem? hj)
    ·exact hcs u (List.mem_of_getElem? hj)
  ·have hap:=h.sep i j _ b' hne hb hj
   have hok:=h.blk j b' hj
   cases b' with
   | box t2 cs2=>
    obtain⟨g2,hA2,hblk2,hb2,hcs2⟩:=hok
    have hne2:g2≠g':=by
     rintro rfl
     simp only[Apart,bno,hA',hA2] at hap
     exact hap rfl
    exact⟨g2,hA2,(hfar g2 hne2).trans hblk2,hb2,hcs2⟩
   | row t2 sz n el=>
    obtain⟨h1,h2,h3⟩:=hok
    refine⟨h1,h2,?_⟩
    rcases h3 with h0 | ⟨b,off,hA2,hlt,hc⟩
    ·exact .inl h0
    ·simp only[Apart,bno,hA',hA2] at hap
     rcases hap with h0 | hap
     ·exact .inl h0
     ·have hne2:b≠g':=by rintro rfl;exact hap rfl
      refine .inr ⟨b,off,hA2,hlt.far (by rw[setCells_size];exact Nat.le_refl _) (hfar b hne2),fun k hk j v hv=>?_⟩
      rw[World.cell?_of_block (hfar b hne2)]
      exact hc k hk j v hv
 ·have ap:∀ (b1 b2 b1' b2':ABlk),(∀ t cs,b1=.box t cs→∃ t' cs',b1'=.box t' cs')→(∀ t sz n el,b1=.row t sz n el→b1'=b1)→(∀ t cs,b2=.box t cs→∃ t' cs',b2'=.box t' cs')→(∀ t sz n el,b2=.row t sz n el→b2'=b2)→Apart ρ j k b1' b2'→Apart ρ j k b1 b2:=by
   intro b1 b2 b1' b2' e1 e2 e3 e4 hap
   cases b1 with
   | box t1 c1=>
    obtain⟨_,_,rfl⟩:=e1 _ _ rfl
    cases b2 with
    | box t2 c2=>obtain⟨_,_,rfl⟩:=e3 _ _ rfl;exact hap
    | row t2 s2 n2 el2=>rw[e4 _ _ _ _ rfl] at hap;exact hap
   | row t1 s1 n1 el1=>
    rw[e2 _ _ _ _ rfl] at hap
    cases b2 with
    | box t2 c2=>trivial
    | row t2 s2 n2 el2=>rw[e4 _ _ _ _ rfl] at hap;exact hap
  rcases lk_cons hj with⟨rfl,rfl⟩ | ⟨hnj,hj⟩
  ·rcases lk_cons hk with⟨rfl,rfl⟩ | ⟨hnk,hk⟩
   ·exact absurd rfl hne
   ·exact ap _ _ _ _ (fun _ _ _=>⟨_,_,rfl⟩) (fun _ _ _ _ q=>by cases q) (fun _ _ q=>⟨_,_,q⟩) (fun _ _ _ _ _=>rfl) (h.sep i k _ b2 hne hb hk)
  ·rcases lk_cons hk with⟨rfl,rfl⟩ | ⟨hnk,hk⟩
   ·exact ap _ _ _ _ (fun _ _ q=>⟨_,_,q⟩) (fun _ _ _ _ _=>rfl) (fun _ _ _=>⟨_,_,rfl⟩) (fun _ _ _ _ q=>by cases q) (h.sep j i b1 _ hne hj hb)
   ·exact h.sep j k b1 b2 hne hj hk
theorem plB_ok {v:Value} (h:plB v=true):plain1 v:=by
 cases v with
 | pointer p=>cases p<;>simp_all [plB,plain1]
 | slice p n c=>cases p<;>simp_all [plB,plain1]
 | _=>trivial
theorem Sat.storeRow (h:Sat C ρ fr mem nx a w) {i k o:Nat} {t:TypeId} {sz n:Nat} {el:Nat→List Value} {vs l:List Value} (hb0:lk mem i=some (.row t sz n el)) (ho:ownT t=true) (hk:k<n) (hp:putN o vs (el k)=some l) (hv:∀ v ∈ vs,plain1 v) :
  ∃ g,(ρ i).A=some ⟨g,0,none⟩∧(ρ i).sz=sz∧w.there g (k * sz+o) vs.length∧Sat C ρ fr ((i,.row t sz n (setEl el k l))::mem) nx a (w.setCells g (k * sz+o) (vs.map (den1 ρ))):=by
 have hb:=lk_app (r:=C.fm) hb0
 obtain⟨⟨hsz,hnn⟩,hpl,hrow⟩:=h.blk i _ hb
 rcases hrow with h0 | ⟨g,off,hA,hat,hc⟩
 ·omega
 obtain⟨rfl,hbase,ty,cs,hblk⟩:=hat.own ho
 obtain⟨q1,q2,q3⟩:=putN_get _ _ _ _ hp
 have hlen:=(hpl k hk).1
 have hdv:vs.map (den1 ρ)=vs:=by
  conv=>rhs;rw[← List.map_id vs]
  exact List.map_congr_left fun v hv'=>den1_plain (hv v hv')
 have hin:∀ k',k'<n→∀ j,j<sz→k' * sz+j<cs.size:=fun k' hk' j hj=>by
  obtain⟨v,hv'⟩:∃ v,(el k')[j]?=some v:=⟨_,List.getElem?_eq_getElem (by rw[(hpl k' hk').1];exact hj)⟩
  have:=hc k' hk' j v hv'
  rw[Nat.zero_add,hblk.cell] at this
  rcases Nat.lt_or_ge (k' * sz+j) cs.size with q | q
  ·exact q
  ·rw[Array.getElem?_eq_none q] at this;cases this
 have hfar:∀ b,b≠g→(w.setCells g (k * sz+o) (vs.map (den1 ρ))).heap[b]?=w.heap[b]?:=fun b hb=>setCells_far _ _ b hb
 have hblk2:=hblk.setCells (vs.map (den1 ρ)) (k * sz+o)
 rw[hdv] at hblk2
 refine⟨g,hA,hsz,?_,?_⟩
 ·by_cases h0:vs.length=0
  ·intro j hj;omega
  ·exact hblk.there _ _ (by have:=hin k hk (o+vs.length-1) (by omega);omega)
 refine⟨h.fok,h.sz,h.dfr,fun j b' hj=>?_,fun j b' hj=>?_,fun j m b1 b2 hne hj hk2=>?_,h.n0,h.low,setCells_rest C (.inl hbase) _ _ h.rest⟩
 ·rcases lk_cons hj with⟨rfl,rfl⟩ | ⟨hne,hj⟩
  ·exact h.mlt i _ hb
  ·exact h.mlt j b' hj
 ·rcases lk_cons hj with⟨rfl,rfl⟩ | ⟨hne,hj⟩
  ·have hel:∀ k',setEl el k l k'=if k'=k then l else el k':=fun k'=>by
    unfold setEl
    by_cases hkk:k'=k
    ·subst hkk;rw[Nat.beq_refl,if_pos rfl]
    ·have:Nat.beq k' k=false:=by
      cases hbb:Nat.beq k' k
      ·rfl
      ·exact absurd (Nat.eq_of_beq_eq_true hbb) hkk
     rw[this,if_neg hkk]
   refine⟨⟨hsz,hnn⟩,fun k' hk'=>?_,.inr ⟨g,0,hA,⟨by rw[setCells_size];exact hat.lt,fun _=>⟨rfl,hbase,ty,_,by rw[hdv];exact hblk2⟩,fun _=>hbase⟩,fun k' hk' j v hj=>?_⟩⟩
   ·rw[hel]
    by_cases hkk:k'=k
    ·subst hkk
     rw[if_pos rfl]
     refine⟨by rw[q1];exact hlen,fun u hu=>?_⟩
     obtain⟨j,hj⟩:=List.getElem?_of_mem hu
     rw[q3 j] at hj
     split at hj
     ·exact hv u (List.mem_of_getElem? hj)
     ·exact (hpl _ hk').2 u (List.mem_of_getElem? hj)
    ·rw[if_neg hkk];exact hpl k' hk'
   ·rw[hel] at hj
    rw[Nat.zero_add,hdv,hblk2.cell,putL_at]
    by_cases hkk:k'=k
    ·subst hkk
     rw[if_pos rfl] at hj
     have hjs:j<sz:=by
      have:=(List.getElem?_eq_some_iff.1 hj).1
      omega
     rw[q3 j] at hj
     by_cases hr:o≤j∧j<o+vs.length
     ·rw[if_pos hr] at hj
      rw[if_pos ⟨by omega,by omega,hin k' hk' j hjs⟩,← hj]
      congr 1
      omega
     ·rw[if_neg hr] at hj
      rw[if_neg (by omega)]
      have:=hc k' hk' j v hj
      rw[Nat.zero_add,hblk.cell] at this
      exact this
    ·rw[if_neg hkk] at hj
     have hjs:j<sz:=by
      have:=(List.getElem?_eq_some_iff.1 hj).1
      rw[(hpl k' hk').1] at this
      exact this
     have hout:¬ (k * sz+o≤k' * sz+j∧k' * sz+j<k * sz+o+vs.length∧k' * sz+j<cs.size):=by
      rintro⟨r1,r2,-⟩
      rcases Nat.lt_or_gt_of_ne hkk with hlt | hgt
      ·have:=Nat.mul_le_mul_right sz (show k'+1≤k by omega)
       rw[Nat.add_mul] at this
       omega
      ·have:=Nat.mul_le_mul_right sz (show k+1≤k' by omega)
       rw[Nat.add_mul] at this
       omega
     rw[if_neg hout]
     have:=hc k' hk' j v hj
     rw[Nat.zero_add,hblk.cell] at this
     exact this
  ·have hok:=h.blk j b' hj
   cases b' with
   | box t2 cs2=>
    have hap:=h.sep j i _ _ (Ne.symm hne) hj hb
    obtain⟨g2,hA2,hblk3,hb2,hcs2⟩:=hok
    have hne2:g2≠g:=by
     rintro rfl
     simp only[Apart,bno,hA,hA2] at hap
     rcases hap with h0 | hap
     ·omega
     ·exact hap rfl
    exact⟨g2,hA2,(hfar g2 hne2).trans hblk3,hb2,hcs2⟩
   | row t2 sz2 n2 el2=>
    have hap:=h.sep i j _ _ hne hb hj
    obtain⟨h1,h2,h3⟩:=hok
    refine⟨h1,h2,?_⟩
    rcases h3 with h0 | ⟨b,off,hA2,hlt,hc2⟩
    ·exact .inl h0
    ·simp only[Apart,bno,hA,hA2] at hap
     rcases hap ho with h0 | h0 | hap
     ·omega
     ·exact .inl h0
     ·have hne2:b≠g:=by rintro rfl;exact hap rfl
      refine .inr ⟨b,off,hA2,hlt.far (by rw[setCells_size];exact Nat.le_refl _) (hfar b hne2),fun k hk j v hv=>?_⟩
      rw[World.cell?_of_block (hfar b hne2)]
      exact hc2 k hk j v hv
 ·rcases lk_cons hj with⟨rfl,rfl⟩ | ⟨hnj,hj⟩
  ·rcases lk_cons hk2 with⟨rfl,rfl⟩ | ⟨hnk,hk2⟩
   ·exact absurd rfl hne
   ·have:=h.sep i m _ b2 hne hb hk2
    cases b2<;>exact this
  ·rcases lk_cons hk2 with⟨rfl,rfl⟩ | ⟨hnk,hk2⟩
   ·have:=h.sep j i b1 _ hne hj hb
    cases b1<;>exact this
   ·exact h.sep j m b1 b2 hne hj hk2
end
section
variable {P:Program} {τ:TT} {F:FT} {C:Ctx} {ρ:Nat→Pl} {fr:AF} {mem:AM} {nx:Nat} {a:Act} {w:World} {Q:Exit→Act→World→Prop}
theorem Sat.newBox (h:Sat C ρ fr mem nx a w) (t:TypeId) {cs:List Value} (hcs:∀ v ∈ cs,ok1 ρ nx v) :
  Sat C (setPl ρ nx ⟨some ⟨w.heap.size,0,none⟩,0,0,false⟩) fr ((nx,.box t cs)::mem) (nx+1) a (w.alloc (.cells (cs.map (den1 ρ)).toArray t)):=by
 have hr:∀ i,i<nx→(ρ i).res=false→setPl ρ nx ⟨some ⟨w.heap.size,0,none⟩,0,0,false⟩ i=ρ i:=fun i hi _=>setPl_lt ρ _ hi
 refine h.add ((Below.refl _ _).alloc (Nat.le_refl _) _) ⟨w.heap.size,by rw[setPl_same],?_,.inl h.rest.size,fun v hv=>ok1_mono hr (Nat.le_succ _) (hcs v hv)⟩ (fun g hg=>by simp at hg;omega) rfl
 have:cs.map (den1 (setPl ρ nx ⟨some ⟨w.heap.size,0,none⟩,0,0,false⟩))=cs.map (den1 ρ):=List.map_congr_left fun v hv=>den1_congr hr (hcs v hv)
 rw[this]
 exact Blk.new _ _ _
theorem ptr_new (g:Nat):den (setPl ρ nx ⟨some ⟨g,0,none⟩,0,0,false⟩) (.pointer (some ⟨nx,0,none⟩))=.pointer (some ⟨g,0,none⟩)∧okV (setPl ρ nx ⟨some ⟨g,0,none⟩,0,0,false⟩) (nx+1) (.pointer (some ⟨nx,0,none⟩)):=by
 refine⟨?_,?_⟩
 ·simp[den,den2,den1,dA_whole,setPl_same]
 ·exact⟨⟨Nat.lt_succ_self _,by simp[setPl_same]⟩,⟨g,0,by simp[setPl_same]⟩,fun k hk=>by cases hk⟩
theorem Sat.newRow (h:Sat C ρ fr mem nx a w) (t ty:TypeId) {sz n:Nat} {el:Nat→List Value} {cells:Array Value} (hel:∀ k,k<n→(el k).length=sz∧∀ v ∈ el k,plain1 v) (hc:∀ k,k<n→∀ j v,(el k)[j]?=some v→cells[k * sz+j]?=some v) :
  Sat C (setPl ρ nx ⟨some ⟨w.heap.size,0,none⟩,sz,n,false⟩) fr ((nx,.row t sz n el)::mem) (nx+1) a (w.alloc (.cells cells ty)):=by
 have hB:=Blk.new w ty cells
 refine h.add ((Below.refl _ _).alloc (Nat.le_refl _) _) ⟨by rw[setPl_same];exact⟨rfl,rfl⟩,hel,.inr ⟨w.heap.size,0,by rw[setPl_same],⟨hB.lt,fun _=>⟨rfl,h.rest.size,ty,cells,hB⟩,fun _=>h.rest.size⟩,fun k hk j v hv=>?_⟩⟩ (fun g hg=>by simp at hg;omega) rfl
 rw[Nat.zero_add,hB.cell]
 exact hc k hk j v hv
theorem slc_new (g sz n m c:Nat):den (setPl ρ nx ⟨some ⟨g,0,none⟩,sz,n,false⟩) (.slice (some ⟨nx,0,none⟩) m c)=.slice (some ⟨g,0,none⟩) m c∧okV (setPl ρ nx ⟨some ⟨g,0,none⟩,sz,n,false⟩) (nx+1) (.slice (some ⟨nx,0,none⟩) m c):=by
 refine⟨?_,?_⟩
 ·simp[den,den2,den1,dA_whole,setPl_same]
 ·exact⟨Nat.lt_succ_self _,by simp[setPl_same]⟩
theorem TIok.elt {t:TypeId} {ti:TI} (h:TIok P t ti) {n:Nat} (he:ti.eb=n+1):P.underlying t=some (.slice ti.elt)∧∀ i,P.info? ti.elt=some i→i.bytes=n+1:=by
 have:=h.elem
 unfold elemB at this
 rw[he] at this
 simp only[Bool.and_eq_true] at this
 obtain⟨h1,h2⟩:=this
 refine⟨?_,fun i hi=>?_⟩
 ·split at h1
  ·rename_i e hu
   rw[hu,Nat.eq_of_beq_eq_true h1]
  ·cases h1
 ·rw[hi] at h2
  exact Nat.eq_of_beq_eq_true h2
theorem made_at {z:Array Value} {n sz k j:Nat} (hz:z.size=sz) (hk:k<n) (hj:j<sz):(madeCells z (n * sz))[k * sz+j]?=z[j]?:=by
 have hlt:k * sz+j<n * sz:=by
  have:=Nat.mul_le_mul_right sz (show k+1≤n by omega)
  rw[Nat.add_mul] at this
  omega
 have hm:(k * sz+j) % sz=j:=by rw[Nat.add_comm,Nat.add_mul_mod_self_right,Nat.mod_eq_of_lt hj]
 simp only[madeCells,Array.getElem?_map,Array.getElem?_range,hlt,if_true,Option.map_some,hz,hm]
 rw[Array.getElem?_eq_getElem (by omega),getElem!_pos z j (by omega)]
theorem fill_rows (hf:FrOk ρ fr nx a) {sz:Nat}:∀ (parts:List (Nat×Operand)) (p:Nat) (rs:List (List Value)) (base:Array Value),rowsx fr sz p parts=some rs→(p+rs.length) * sz≤base.size→
  ∃ out,Instr.fill (fun i=>some (i * sz,sz)) base (parts.map fun q=>(q.1,a.eval q.2))=some out∧(∀ q,q<p * sz→out[q]?=base[q]?)∧(∀ r ∈ rs,r.length=sz∧∀ v ∈ r,plain1 v)∧∀ k j v,k<rs.length→(rs.getD k [])[j]?=some v→out[(p+k) * sz+j]?=some v
 | [],p,rs,base,h,hsz=>by
  simp[rowsx] at h
  subst h
  exact⟨base,rfl,fun _ _=>rfl,(fun r hr=>absurd hr (List.not_mem_nil)),fun k j v hk=>absurd hk (Nat.not_lt_zero _)⟩
 | (i,x)::r,p,rs,base,h,hsz=>by
  simp only[rowsx] at h
  split at h
  ·rename_i v hi hx
   split at h
   ·rename_i hl hat hpl
    have hl':(cellsOf v).length=sz:=by simpa using hl
    cases hr:rowsx fr sz (p+1) r with
    | none=>rw[hr] at h;simp at h
    | some rs'=>
     rw[hr] at h
     simp at h
     subst h
     obtain rfl:i=p:=Nat.eq_of_beq_eq_true hi
     obtain⟨h1,h2⟩:=ev_ok hf hx
     have hplain:∀ u ∈ cellsOf v,plain1 u:=fun u hu=>plB_ok (List.all_eq_true.1 hpl u hu)
     have hcs:(den ρ v).cells=(cellsOf v).toArray:=by
      rw[cells_den' (notTuple hat)]
      congr 1
      conv=>rhs;rw[← List.map_id (cellsOf v)]
      exact List.map_congr_left fun u hu=>den1_plain (hplain u hu)
     simp only[List.length_cons] at hsz
     have hb:i * sz+sz≤base.size:=by
      have:=Nat.mul_le_mul_right sz (show i+1≤i+(rs'.length+1) by omega)
      rw[Nat.add_mul] at this
      omega
     have hb2:putL base (i * sz) (cellsOf v)=(den ρ v).cells.zipIdx.foldl (fun cs (c:Value×Nat)=>cs.setIfInBounds (i * sz+c.2) c.1) base:=by
      rw[hcs]
      have:=zip_putL (i * sz) (cellsOf v) 0 base
      rw[Nat.add_zero] at this
      rw[← this,← Array.foldl_toList,Array.toList_zipIdx]
     have hsize:(putL base (i * sz) (cellsOf v)).size=base.size:=putL_size _ _ _
     have hsz2:(i+1+rs'.length) * sz≤(putL base (i * sz) (cellsOf v)).size:=by
      rw[hsize,show i+1+rs'.length=i+(rs'.length+1) by omega]
      exact hsz
     obtain⟨out,g1,g2,g3,g4⟩:=fill_rows hf r (i+1) rs' (putL base (i * sz) (cellsOf v)) hr hsz2
     refine⟨out,?_,fun q hq=>?_,fun r' hr'=>?_,fun k j u hk hu=>?_⟩
     ·rw[List.map_cons]
      simp only
      rw[Instr.fill]
      simp only[h1]
      rw[if_neg (by rw[hcs];simp[hl'];omega),← hb2]
      exact g1
     ·rw[g2 q (by rw[Nat.add_mul];omega),putL_at,if_neg (by omega)]
     ·rcases List.mem_cons.1 hr' with rfl | hr'
      ·exact⟨hl',hplain⟩
      ·exact g3 r' hr'
     ·cases k with
      | zero=>
       simp only[List.getD_cons_zero] at hu
       have hj:j<sz:=by rw[← hl'];exact (List.getElem?_eq_some_iff.1 hu).1
       rw[Nat.add_zero,g2 _ (by rw[Nat.add_mul];omega),putL_at,if_pos (by omega),Nat.add_sub_cancel_left]
       exact hu
      | succ k=>
       simp only[List.getD_cons_succ,List.length_cons] at hu hk
       have:=g4 k j u (by omega) hu
       rw[show i+(k+1)=i+1+k by omega]
       exact this
   ·simp at h
  ·simp at h
/-! append -/
def flatE (el:Nat→List Value) (n:Nat):List Value:=(List.range n).flatMap el
theorem flatE_succ (el:Nat→List Value) (n:Nat):flatE el (n+1)=flatE el n++el n:=by simp[flatE,List.range_succ]
theorem flatE_len {el:Nat→List Value} {sz:Nat}:∀ {n:Nat},(∀ k,k<n→(el k).length=sz)→(flatE el n).length=n * sz
 | 0,_=>by simp[flatE]
 | n+1,h=>by rw[flatE_succ,List.length_append,flatE_len fun k hk=>h k (by omega),h n (by omega),Nat.add_mul,Nat.one_mul]
theorem flatE_get {el:Nat→List Value} {sz:Nat}:∀ {n:Nat},(∀ k,k<n→(el k).length=sz)→∀ j v,(flatE el n)[j]?=some v→∃ k i,k<n∧i<sz∧j=k * sz+i∧(el k)[i]?=some v
 | 0,_,j,v,h=>by simp[flatE] at h
 | n+1,hs,j,v,h=>by
  rw[flatE_succ] at h
  have hl:=flatE_len (n:=n) fun k hk=>hs k (by omega)
  by_cases hj:j<n * sz
  ·rw[List.getElem?_append_left (by omega)] at h
   obtain⟨k,i,h1,h2,h3,h4⟩:=flatE_get (fun k hk=>hs k (by omega)) j v h
   exact⟨k,i,by omega,h2,h3,h4⟩
  ·rw[List.getElem?_append_right (by omega),hl] at h
   have hi:=(List.getElem?_eq_some_iff.1 h).1
   rw[hs n (by omega)] at hi
   exact⟨n,j-n * sz,by omega,hi,by omega,h⟩
theorem flatE_at {el:Nat→List Value} {sz:Nat}:∀ {n:Nat},(∀ k,k<n→(el k).length=sz)→∀ k i v,k<n→(el k)[i]?=some v→(flatE el n)[k * sz+i]?=some v
 | 0,_,k,i,v,hk,_=>by omega
 | n+1,hs,k,i,v,hk,h=>by
  rw[flatE_succ]
  have hl:=flatE_len (n:=n) fun k hk=>hs k (by omega)
  have hi:i<sz:=by rw[← hs k hk];exact (List.getElem?_eq_some_iff.1 h).1
  by_cases hkn:k<n
  ·rw[List.getElem?_append_left]
   ·exact flatE_at (fun k hk=>hs k (by omega)) k i v hkn h
   ·rw[hl]
    have:=Nat.mul_le_mul_right sz (show k+1≤n by omega)
    rw[Nat.add_mul] at this
    omega
  ·obtain rfl:k=n:=by omega
   rw[List.getElem?_append_right (by omega),hl,Nat.add_sub_cancel_left]
   exact h
theorem flatE_mem {el:Nat→List Value} {n:Nat} {v:Value} (h:v ∈ flatE el n):∃ k,k<n∧v ∈ el k:=by
 obtain⟨k,hk,hv⟩:=List.mem_flatMap.1 h
 exact⟨k,List.mem_range.1 hk,hv⟩
theorem setCells_app (g:Nat):∀ (a b:List Value) (w:World) (o:Nat),w.setCells g o (a++b)=(w.setCells g o a).setCells g (o+a.length) b
 | [],b,w,o=>by simp[World.setCells]
 | v::a,b,w,o=>by
  rw[List.cons_append,World.setCells,setCells_app g a b,World.setCells,List.length_cons]
  congr 1
  omega
theorem Sat.storeRows {r:Nat} {t:TypeId} {sz n len:Nat} {el2:Nat→List Value} {g:Nat} (ho:ownT t=true) (hA:(ρ r).A=some ⟨g,0,none⟩):∀ (m:Nat) {el:Nat→List Value} {mem:AM} {w:World},Sat C ρ fr mem nx a w→lk mem r=some (.row t sz n el)→len+m≤n→(∀ k,k<m→(el2 k).length=sz∧∀ v ∈ el2 k,plain1 v)→
  ∃ el',Sat C ρ fr ((r,.row t sz n el')::mem) nx a (w.setCells g (len * sz) (flatE el2 m))∧(∀ k,k<m→el' (len+k)=el2 k)∧∀ k,¬ (len≤k∧k<len+m)→el' k=el k
 | 0,el,mem,w,hs,hl,hn,h2=>⟨el,by
   have:flatE el2 0=[]:=rfl
   rw[this]
   exact hs.less (fun _ _ h=>h) (fun i b h=>by
    rw[List.cons_append] at h
    rcases lk_cons h with⟨rfl,rfl⟩ | ⟨_,h⟩
    ·exact lk_app hl
    ·exact h),fun k hk=>by omega,fun k _=>rfl⟩
 | m+1,el,mem,w,hs,hl,hn,h2=>by
  obtain⟨el1,hs1,e1,e2⟩:=Sat.storeRows (len:=len) (el2:=el2) ho hA m hs hl (by omega) (fun k hk=>h2 k (by omega))
  have hlen:=flatE_len (el:=el2) (n:=m) fun k hk=>(h2 k (by omega)).1
  have hl1:lk ((r,ABlk.row t sz n el1)::mem) r=some (.row t sz n el1):=lk_same _ _ _
  have hk1:(el1 (len+m)).length=sz:=by
   obtain⟨-,hpl,-⟩:=hs1.blk r _ (lk_app hl1)
   exact (hpl (len+m) (by omega)).1
  have hput:putN 0 (el2 m) (el1 (len+m))=some (el2 m):=by
   have:∀ (u v:List Value),u.length=v.length→putN 0 u v=some u:=by
    intro u
    induction u with
    | nil=>intro v hv;cases v<;>simp at hv;rfl
    | cons x u ih=>intro v hv;cases v with
     | nil=>simp at hv
     | cons y v=>simp only[putN];rw[ih v (by simpa using hv)]
   exact this _ _ (by rw[hk1,(h2 m (by omega)).1])
  obtain⟨g',hA',-,hth,hs2⟩:=hs1.storeRow hl1 ho (show len+m<n by omega) hput (h2 m (by omega)).2
  rw[hA] at hA'
  cases hA'
  have hdv:(el2 m).map (den1 ρ)=el2 m:=by
   conv=>rhs;rw[← List.map_id (el2 m)]
   exact List.map_congr_left fun v hv=>den1_plain ((h2 m (by omega)).2 v hv)
  rw[hdv] at hs2
  have hel:∀ k',setEl el1 (len+m) (el2 m) k'=if k'=len+m then el2 m else el1 k':=fun k'=>by
   unfold setEl
   by_cases hkk:k'=len+m
   ·subst hkk;rw[Nat.beq_refl,if_pos rfl]
   ·have:Nat.beq k' (len+m)=false:=by
     cases hbb:Nat.beq k' (len+m)
     ·rfl
     ·exact absurd (Nat.eq_of_beq_eq_true hbb) hkk
    rw[this,if_neg hkk]
  refine⟨setEl el1 (len+m) (el2 m),?_,fun k hk=>?_,fun k hk=>?_⟩
  ·have:w.setCells g (len * sz) (flatE el2 (m+1))=(w.setCells g (len * sz) (flatE el2 m)).setCells g ((len+m) * sz+0) (el2 m):=by
    rw[flatE_succ,setCells_app,hlen,Nat.add_zero,Nat.add_mul]
   rw[this]
   refine hs2.less (fun _ _ h=>h) (fun i b h=>?_)
   rw[List.cons_append] at h
   rw[List.cons_append,List.cons_append]
   rcases lk_cons h with⟨rfl,rfl⟩ | ⟨hne,h⟩
   ·exact lk_same _ _ _
   ·rw[lk_ne _ _ hne,lk_ne _ _ hne];exact h
  ·rw[hel]
   by_cases hkm:k=m
   ·subst hkm;rw[if_pos rfl]
   ·rw[if_neg (by omega)];exact e1 k (by omega)
  ·rw[hel,if_neg (by omega)]
   exact e2 k (by omega)
theorem srcx_sound {sz:Nat} {x:Value} {k:Nat→(Nat→List Value)→Prop} (h:srcx mem sz x k) (hs:Sat C ρ fr mem nx a w) {tx e':TypeId} (hk:P.underlying tx=some (.slice e')) :
  ∃ m el2,k m el2∧Src P sz tx (den ρ x) m (flatE el2 m) w∧∀ k,k<m→(el2 k).length=sz∧∀ v ∈ el2 k,plain1 v∧v.oneCell'=true:=by
 cases x<;>first | exact h.elim | skip
 rename_i A m c
 cases A with
 | none=>
  simp only[srcx] at h
  cases m with
  | zero=>exact⟨0,_,h,Src.ofNil w hk c,fun k hk=>by omega⟩
  | succ m=>exact h.elim
 | some ad=>
  obtain⟨q,qo,qs⟩:=ad
  simp only[srcx] at h
  split at h
  ·rename_i bt sz' n2 el2 hl
   split at h
   ·rename_i hb
    obtain⟨⟨hm,hat⟩,hK⟩:=h
    obtain rfl:sz'=sz:=Nat.eq_of_beq_eq_true hb
    obtain⟨⟨h1,h2⟩,hpl,hrow⟩:=hs.blk q _ (lk_app hl)
    by_cases h0:m=0
    ·subst h0
     cases hA:(ρ q).A with
     | none=>
      refine⟨0,el2,hK,?_,fun k hk=>by omega⟩
      have:den ρ (.slice (some ⟨q,0,none⟩) 0 c)=.slice none 0 c:=by simp[den,den2,den1,dA_whole,hA]
      rw[this]
      exact Src.ofNil w hk c
     | some ad=>
      refine⟨0,el2,hK,?_,fun k hk=>by omega⟩
      have:den ρ (.slice (some ⟨q,0,none⟩) 0 c)=.slice (some ad) 0 c:=by simp[den,den2,den1,dA_whole,hA]
      rw[this]
      exact Src.ofSlice w hk ad 0 c _ (by simp[flatE]) (by simp[flatE]) (by simp[flatE])
    ·rcases hrow with h3 | ⟨b,off,hA,-,hc⟩
     ·omega
     ·have hcell:∀ k,k<m→∀ v ∈ el2 k,v.oneCell'=true:=by
       intro k hk v hv
       have h1:=atom_one (ρ:=ρ) (List.all_eq_true.1 (hat k hk) v hv)
       rw[den1_plain ((hpl k (by omega)).2 v hv)] at h1
       exact h1
      refine⟨m,el2,hK,?_,fun k hk=>⟨(hpl k (by omega)).1,fun v hv=>⟨(hpl k (by omega)).2 v hv,hcell k hk v hv⟩⟩⟩
      have:den ρ (.slice (some ⟨q,0,none⟩) m c)=.slice (some ⟨b,off,none⟩) m c:=by simp[den,den2,den1,dA_whole,hA]
      rw[this]
      refine Src.ofSlice w hk _ m c _ (flatE_len fun k hk=>(hpl k (by omega)).1) (fun j u hu=>?_) (fun u hu=>?_)
      ·obtain⟨k,i,r1,r2,rfl,r4⟩:=flatE_get (fun k hk=>(hpl k (by omega)).1) j u hu
       rw[Addr.add_mid,← Nat.add_assoc]
       exact hc k (by omega) i u r4
      ·obtain⟨k,hk,hv⟩:=flatE_mem hu
       exact hcell k hk u hv
   ·exact h.elim
  ·exact h.elim
theorem app_nothing (w:World) (t tx ty e:TypeId) (i:TypeInfo) (ht:P.underlying t=some (.slice e)) (hi:P.info? e=some i) (base:Option Addr) (n c:Nat) (hle:n≤c) (x:Value) (hs:Src P i.size tx x 0 [] w) :
  (Builtin.append_ #[t,tx] ty #[.slice base n c,x]).run P w=.ok (.slice base n c) w:=by
 rcases hs.kind with⟨e',hk⟩ | hk<;>cases base<;>simp[Builtin.append_,run_underlying ht,run_underlying hk,sizeOf,typeInfo,hi,hs.len,hle,hs.cells,storeCells]
theorem appx_sound (hτ:TTok P τ) {t tx ty e:TypeId} {te:TI} {b1:Nat} {s x:Value} {K:Value→AM→Nat→Prop} (ht:P.underlying t=some (.slice e)) (hte:TIok P e te) (hby:∀ i,P.info? e=some i→i.bytes=b1+1) {e':TypeId} (htx:P.underlying tx=some (.slice e')) (hz0:te.zero.length=te.size) (hpos:0<te.size)
  (h:appx e te (b1+1) s x mem nx K) (hs:Sat C ρ fr mem nx a w) (hok:okV ρ nx s):∃ v w' mem' nx' ρ',(Builtin.append_ #[t,tx] ty #[den ρ s,den ρ x]).run P w=.ok (den ρ' v) w'∧K v mem' nx'∧Sat C ρ' fr mem' nx' a w'∧okV ρ' nx' v∧ExtS ρ nx ρ' nx':=by
 obtain⟨m,el2,hk,hsrc,hel2⟩:=srcx_sound h hs htx
 obtain⟨ie,hie,hsz,z,hz,hzc⟩:=hte.size
 have hb:=hby ie hie
 rw[← hsz] at hsrc
 have hzs:z.cells.size=ie.size:=by rw[← Array.length_toList,hzc,hz0,hsz]
 -- the new row
 have grow:∀ (len cap:Nat) (base:Option Addr) (el:Nat→List Value),(∀ k,k<len→(el k).length=te.size∧∀ v ∈ el k,plain1 v)→(Builtin.firstCells ie.size len (.slice base len cap)).run P w.drew=.ok (flatE el len).toArray w.drew→cap<len+m→(len+m) * (b1+1)≤140737488355328→
   (∀ cap' el',len+m≤cap'→(∀ k,k<len→el' k=el k)→(∀ k,k<m→el' (len+k)=el2 k)→K (.slice (some ⟨nx,0,none⟩) (len+m) cap') ((nx,.row (1000000+e) te.size cap' el')::mem) (nx+1))→
   ∃ v w' mem' nx' ρ',(Builtin.append_ #[t,tx] ty #[.slice base len cap,den ρ x]).run P w=.ok (den ρ' v) w'∧K v mem' nx'∧Sat C ρ' fr mem' nx' a w'∧okV ρ' nx' v∧ExtS ρ nx ρ' nx':=by
  intro len cap base el hel hold hlt hbound hK
  have hrun:=run_append_grow_src (P:=P) w t tx ty e ie z ht hie hz base len cap (flatE el len) hold (den ρ x) m (flatE el2 m) hsrc hlt (by
   have:len+m≤(len+m) * (b1+1):=Nat.le_mul_of_pos_right _ (by omega)
   omega) (growslice_fits hlt (by rw[hb];exact hbound))
  generalize hc':grownCap w (len+m) cap e=c' at hrun
  have hcl:len+m≤c':=by rw[← hc'];exact grownCap_ge w _ _ _
  have l1:=flatE_len (el:=el) (n:=len) fun k hk=>(hel k hk).1
  have l2:=flatE_len (el:=el2) (n:=m) fun k hk=>(hel2 k hk).1
  let el':Nat→List Value:=fun k=>if k<len then el k else if k<len+m then el2 (k-len) else te.zero
  have q1:∀ k,k<len→el' k=el k:=fun k hk=>if_pos hk
  have q2:∀ k,k<m→el' (len+k)=el2 k:=fun k hk=>by
   show (if len+k<len then _ else if len+k<len+m then el2 (len+k-len) else te.zero)=_
   rw[if_neg (by omega),if_pos (by omega),Nat.add_sub_cancel_left]
  have q3:∀ k,len+m≤k→el' k=te.zero:=fun k hk=>by
   show (if k<len then _ else if k<len+m then el2 (k-len) else te.zero)=_
   rw[if_neg (by omega),if_neg (by omega)]
  have hs2:=hs.drew.newRow (1000000+e) e (sz:=te.size) (n:=c') (el:=el') (cells:=(flatE el len++flatE el2 m).toArray++Builtin.zeroCells z.cells (c' - (len+m))) (fun k hk=>by
   by_cases h1:k<len
   ·rw[q1 k h1];exact hel k h1
   ·by_cases h2:k<len+m
    ·have:=q2 (k-len) (by omega)
     rw[show len+(k-len)=k by omega] at this
     rw[this]
     exact⟨(hel2 _ (by omega)).1,fun v hv=>((hel2 _ (by omega)).2 v hv).1⟩
    ·rw[q3 k (by omega)];exact⟨hz0,hte.zero⟩) (fun k hk j v hv=>by
   have hmul:∀ {a b:Nat},a<b→a * te.size+te.size≤b * te.size:=fun {a b} hab=>by
    have:=Nat.mul_le_mul_right te.size (show a+1≤b by omega)
    rw[Nat.add_mul] at this
    omega
   by_cases h1:k<len
   ·rw[q1 k h1] at hv
    have hj:j<te.size:=by rw[← (hel k h1).1];exact (List.getElem?_eq_some_iff.1 hv).1
    have:=hmul h1
    rw[Array.getElem?_append_left (by simp only[List.size_toArray,List.length_append,l1];omega),List.getElem?_toArray,List.getElem?_append_left (by omega)]
    exact flatE_at (fun k hk=>(hel k hk).1) k j v h1 hv
   ·by_cases h2:k<len+m
    ·have e3:=q2 (k-len) (by omega)
     rw[show len+(k-len)=k by omega] at e3
     rw[e3] at hv
     have hj:j<te.size:=by rw[← (hel2 (k-len) (by omega)).1];exact (List.getElem?_eq_some_iff.1 hv).1
     have e4:=hmul (show k-len<m by omega)
     have e5:k * te.size=len * te.size+(k-len) * te.size:=by rw[← Nat.add_mul];congr 1;omega
     rw[Array.getElem?_append_left (by simp only[List.size_toArray,List.length_append,l1,l2];omega),List.getElem?_toArray,List.getElem?_append_right (by omega),l1,show k * te.size+j-len * te.size=(k-len) * te.size+j by omega]
     exact flatE_at (fun k hk=>(hel2 k hk).1) (k-len) j v (by omega) hv
    ·rw[q3 k (by omega)] at hv
     have hj:j<te.size:=by rw[← hz0];exact (List.getElem?_eq_some_iff.1 hv).1
     have e5:k * te.size=len * te.size+m * te.size+(k-(len+m)) * te.size:=by rw[← Nat.add_mul,← Nat.add_mul];congr 1;omega
     have e4:=hmul (show k-(len+m)<c' - (len+m) by omega)
     rw[Array.getElem?_append_right (by simp only[List.size_toArray,List.length_append,l1,l2];omega)]
     simp only[List.size_toArray,List.length_append,l1,l2]
     rw[show k * te.size+j-(len * te.size+m * te.size)=(k-(len+m)) * te.size+j by omega]
     rw[← hzc] at hv
     unfold Builtin.zeroCells
     have hm:((k-(len+m)) * te.size+j) % te.size=j:=by rw[Nat.add_comm,Nat.add_mul_mod_self_right,Nat.mod_eq_of_lt hj]
     have hlt2:(k-(len+m)) * te.size+j<(c' - (len+m)) * te.size:=by omega
     rw[hzs,hsz]
     simp only[Array.getElem?_map,Array.getElem?_range,hlt2,if_true,Option.map_some,hm]
     rw[Array.getElem?_toList] at hv
     obtain⟨r1,r2⟩:=Array.getElem?_eq_some_iff.1 hv
     rw[getElem!_pos z.cells j r1,r2])
  obtain⟨e1,e2⟩:=slc_new (ρ:=ρ) (nx:=nx) w.heap.size te.size c' (len+m) c'
  refine⟨_,_,_,_,_,?_,hK c' el' hcl q1 q2,hs2,e2,ExtS.set _ _ _⟩
  rw[hrun]
  have:w.drew.heap.size=w.heap.size:=by simp
  rw[this,e1]
 cases s<;>first | exact hk.elim | skip
 rename_i A len cap
 cases A with
 | none=>
  simp only at hk
  split at hk
  ·obtain⟨h1,h2⟩:=hk
   by_cases hm:m=0
   ·refine⟨_,w,mem,nx,ρ,?_,h1 hm,hs,trivial,ExtS.refl _ _⟩
    subst hm
    have:(flatE el2 0)=[]:=rfl
    rw[this] at hsrc
    exact app_nothing w t tx ty e ie ht hie none 0 0 (by omega) (den ρ x) hsrc
   ·obtain⟨h3,h4⟩:=h2 hm
    have:=grow 0 0 none (fun _=>[]) (fun k hk=>by omega) (by have:flatE (fun _=>([]:List Value)) 0=[]:=rfl;rw[this];exact run_firstCells_none w.drew ie.size 0 0 0) (by omega) (by rw[Nat.zero_add];exact h3) (fun cap' el' g1 g2 g3=>by
     rw[Nat.zero_add] at g1 ⊢
     exact h4 cap' el' g1 (fun k hk=>by have:=g3 k hk;rwa[Nat.zero_add] at this))
    exact this
  ·exact hk.elim
 | some ad=>
  obtain⟨r,ro,rs⟩:=ad
  simp only at hk
  split at hk
  ·rename_i bt sz' n el hl
   split at hk
   ·rename_i hown hb2
    obtain rfl:sz'=te.size:=Nat.eq_of_beq_eq_true hb2
    obtain⟨⟨rfl,hle⟩,hroom,hgrow⟩:=hk
    obtain⟨⟨h1,h2⟩,hpl,hrow⟩:=hs.blk r _ (lk_app hl)
    have hfr:(Builtin.firstCells ie.size len (den ρ (.slice (some ⟨r,0,none⟩) len cap))).run P w.drew=.ok (flatE el len).toArray w.drew:=by
     have e0:den ρ (.slice (some ⟨r,0,none⟩) len cap)=.slice (ρ r).A len cap:=rfl
     rw[e0]
     rcases hrow with h0 | ⟨b,off,hA,-,hc⟩
     ·obtain rfl:len=0:=by omega
      have:flatE el 0=[]:=rfl
      rw[this]
      cases (ρ r).A with
      | none=>exact run_firstCells_none w.drew _ _ _ _
      | some ad=>exact run_firstCells_some w.drew _ 0 ad 0 cap [] (by simp) (by simp)
     ·rw[hA]
      refine run_firstCells_some w.drew _ len _ len cap _ (by rw[hsz];exact flatE_len fun k hk=>(hpl k (by omega)).1) (fun j u hu=>?_)
      obtain⟨k,i,r1,r2,rfl,r4⟩:=flatE_get (fun k hk=>(hpl k (by omega)).1) j u hu
      have:=hc k (by omega) i u r4
      rw[Addr.add_mid,← Nat.add_assoc]
      simpa using this
    by_cases hfit:len+m≤cap
    ·by_cases hm:m=0
     ·subst hm
      refine⟨_,w,_,nx,ρ,?_,hroom hfit el (fun _ _=>rfl) (fun k hk=>by omega),?_,hok,ExtS.refl _ _⟩
      ·have:(flatE el2 0)=[]:=rfl
       rw[this] at hsrc
       exact app_nothing w t tx ty e ie ht hie (ρ r).A len cap hle (den ρ x) hsrc
      ·exact hs.less (fun _ _ h=>h) (fun i b h=>by
        rw[List.cons_append] at h
        rcases lk_cons h with⟨rfl,rfl⟩ | ⟨_,h⟩
        ·exact lk_app hl
        ·exact h)
     ·rcases hrow with h0 | ⟨b,off,hA,hat,hc⟩
      ·omega
      ·obtain⟨rfl,hbase,ty2,cs,hblk⟩:=hat.own hown
       obtain⟨el',hs2,e1,e2⟩:=Sat.storeRows (el2:=el2) (len:=len) hown hA m hs hl hfit (fun k hk=>⟨(hel2 k hk).1,fun v hv=>((hel2 k hk).2 v hv).1⟩)
       have l2:=flatE_len (el:=el2) (n:=m) fun k hk=>(hel2 k hk).1
       have hin:(len+m) * te.size≤cs.size:=by
        have hj:te.size-1<(el (len+m-1)).length:=by rw[(hpl (len+m-1) (by omega)).1];omega
        have:=hc (len+m-1) (by omega) (te.size-1) _ (List.getElem?_eq_getElem hj)
        rw[Nat.zero_add,hblk.cell] at this
        have hlt:=(Array.getElem?_eq_some_iff.1 this).1
        have e5:(len+m) * te.size=(len+m-1) * te.size+te.size:=by
         conv=>lhs;rw[show len+m=(len+m-1)+1 by omega,Nat.add_mul,Nat.one_mul]
        omega
       have hth:=hblk.there (len * te.size) (m * te.size) (by rw[Nat.add_mul] at hin;exact hin)
       refine⟨_,_,_,nx,ρ,?_,hroom hfit el' (fun k hk=>e2 k (by omega)) e1,hs2,hok,ExtS.refl _ _⟩
       have e0:den ρ (.slice (some ⟨r,0,none⟩) len cap)=.slice (some ⟨b,0,none⟩) len cap:=by simp[den,den2,den1,dA_whole,hA]
       have e3:den ρ (.slice (some ⟨r,0,none⟩) (len+m) cap)=.slice (some ⟨b,0,none⟩) (len+m) cap:=by simp[den,den2,den1,dA_whole,hA]
       rw[e0,e3,run_append_room_src w t tx ty e ie ht hie b 0 len cap (den ρ x) m (flatE el2 m) hsrc hfit (fun j hj=>by rw[hsz,Nat.zero_add];exact (hth j (by omega)).1) (fun j hj=>by rw[hsz,Nat.zero_add];exact (hth j (by omega)).2),Nat.zero_add,hsz]
    ·obtain⟨h3,h4⟩:=hgrow (by omega)
     have e0:den ρ (.slice (some ⟨r,0,none⟩) len cap)=.slice (ρ r).A len cap:=rfl
     rw[e0] at hfr ⊢
     exact grow len cap (ρ r).A el (fun k hk=>hpl k (by omega)) hfr (by omega) h3 h4
   ·exact hk.elim
  ·exact hk.elim
theorem lk_putF {d:Option Nat} {v:Value} {e:Nat} (h:d≠some e):lk (putF d v fr) e=lk fr e:=by
 cases d with
 | none=>rfl
 | some d=>exact lk_ne _ _ (fun q=>h (by rw[q]))
theorem wp_value {o:Oper} {v:Value} {w':World} {K:Act→World→Prop} (h:(execOp a.eval o).run P w=.ok (.value v) w') (hk:K (a.put o.dst v) w'):o.wp P a w K Q:=by
 unfold Oper.wp;rw[h];exact hk
theorem slice_run (hτ:TTok P τ) (hf:FrOk ρ fr nx a) {t:TypeId} {x y:Operand} {A:Option Addr} {n cap:Nat} {k:IntKind} {h:Int} {ti:TI} {e1:Nat} (hx:ev fr x=some (.slice A n cap)) (hy:ev fr y=some (.int k h)) (hti:lk τ t=some ti) (hsl:ti.sl=true) (hes:ti.esz=e1+1) (h0:0≤h) (h1:h≤cap) :
  (Instr.sliceAt t (a.eval x) none (some (a.eval y)) none).run P w=.ok (den ρ (.slice A h.toNat cap)) w∧okV ρ nx (.slice A h.toNat cap):=by
 obtain⟨e,hu,he⟩:=(hτ t ti hti).slice hsl
 obtain⟨q1,q2⟩:=ev_ok hf hx
 obtain⟨q3,-⟩:=ev_ok hf hy
 have q3':a.eval y=.int k h:=q3
 refine⟨?_,?_⟩
 ·cases hi:P.info? e with
  | none=>simp[szOf,hi] at he;omega
  | some ii=>
   have hb:(Instr.sliceBounds true n cap none (some (.int k h)) none).run P w=.ok (0,h.toNat,cap) w:=by
    simp[Instr.sliceBounds,Instr.sliceBound,asIntOf,h0,h1]
   rw[q1,q3']
   cases A with
   | none=>
    simp[Instr.sliceAt,run_underlying hu,Instr.slice,hb,sizeOf,typeInfo,hi,den,den2,den1]
   | some ad=>
    simp[Instr.sliceAt,run_underlying hu,Instr.slice,hb,sizeOf,typeInfo,hi,den,den2,den1]
    intro _
    cases dA ρ ad<;>simp[Addr.add]
 ·cases A with
  | none=>trivial
  | some ad=>exact q2
theorem actx_sound {I:List Nat} (hτ:TTok P τ) (hF:FTokI P F I) {o:Oper} (hI:C.fm=[]∨inlOk I o.op=true) (hd:∀ i,o.dst=some i→i<C.nt) {K:AF→AM→Nat→Prop} (h:actx τ F o.dst o.op fr mem nx K) (hs:Sat C ρ fr mem nx a w) :
  o.wp P a w (fun a' w'=>∃ fr' mem' nx' ρ',K fr' mem' nx'∧Sat C ρ' fr' mem' nx' a' w'∧ExtS ρ nx ρ' nx'∧∀ d,o.dst≠some d→lk fr' d=lk fr d) Q:=by
 obtain⟨dst,op,type,pos,after,guard⟩:=o
 simp only at hd h
 cases op<;>simp only[actx,putK_eq] at h<;>try (exact h.elim)
 case alloc t=>
  cases hti:lk τ t with
  | none=>rw[hti] at h;exact h.elim
  | some ti=>
   rw[hti] at h
   have ht:=hτ t ti hti
   obtain⟨i,hi,hsz,z,hz,hzc⟩:=ht.size
   have hmap:ti.zero.map (den1 ρ)=ti.zero:=by
    conv=>rhs;rw[← List.map_id ti.zero]
    exact List.map_congr_left fun v hv=>den1_plain (ht.zero v hv)
   have hs2:=hs.newBox t (cs:=ti.zero) (fun v hv=>ok1_plain (ht.zero v hv))
   rw[hmap] at hs2
   obtain⟨e1,e2⟩:=ptr_new (ρ:=ρ) (nx:=nx) w.heap.size
   have hs3:=hs2.put (d:=dst) hd e2
   rw[e1] at hs3
   refine wp_value (w':=w.alloc (.cells ti.zero.toArray t)) ?_ ⟨_,_,_,_,h,hs3,ExtS.set _ _ _,fun _ q=>lk_putF q⟩
   have hza:z.cells=ti.zero.toArray:=by apply Array.toList_inj.1;simp[hzc]
   simp[execOp,Instr.alloc,zeroValue,typeInfo,hi,hz,newVar,newRow,newObj,hza,Sem.run]
 case box t x=>
  cases hx:ev fr x with
  | none=>rw[hx] at h;exact h.elim
  | some v=>
   rw[hx] at h
   obtain⟨h1,h2⟩:=ev_ok hs.fok.left hx
   rcases not_tuple v with⟨cs,rfl⟩ | ⟨f,a',b,rfl⟩ | ⟨-,-⟩
   ·exact h.elim
   ·exact h.elim
   ·by_cases hnt:nt v=false
    ·cases v<;>first | exact h.elim | cases hnt
    ·have hnt':nt v=true:=by simpa using hnt
     have h':K (putF dst (.pointer (some ⟨nx,0,none⟩)) fr) ((nx,.box t (cellsOf v))::mem) (nx+1):=by
      cases v<;>first | exact h | cases hnt'
     have hs2:=hs.newBox t (cs:=cellsOf v) (cells_ok hnt' h2)
     obtain⟨e1,e2⟩:=ptr_new (ρ:=ρ) (nx:=nx) w.heap.size
     have hs3:=hs2.put (d:=dst) hd e2
     rw[e1] at hs3
     refine wp_value (w':=w.alloc (.cells ((cellsOf v).map (den1 ρ)).toArray t)) ?_ ⟨_,_,_,_,h',hs3,ExtS.set _ _ _,fun _ q=>lk_putF q⟩
     simp[execOp,Instr.box,newVar,newRow,newObj,h1,cells_den (ρ:=ρ) hnt',Sem.run]
 case store t x y=>
  cases hx:ev fr x with
  | none=>rw[hx] at h;exact h.elim
  | some p=>
   cases hy:ev fr y with
   | none=>rw[hx,hy] at h;cases p<;>first | exact h.elim | (rename_i q;cases q<;>exact h.elim)
   | some v=>
    cases hti:lk τ t with
    | none=>rw[hx,hy,hti] at h;cases p<;>first | exact h.elim | (rename_i q;cases q<;>exact h.elim)
    | some ti=>
     rw[hx,hy,hti] at h
     cases p<;>first | exact h.elim | skip
     rename_i q
     cases q with
     | none=>exact h.elim
     | some ad=>
      simp only at h
      cases hb:lk mem ad.block with
      | none=>rw[hb] at h;exact h.elim
      | some bl=>
       rw[hb] at h
       cases bl with
       | row bt sz n el=>
        cases hsp:ad.spot with
        | none=>rw[hsp] at h;exact h.elim
        | some k=>
         rw[hsp] at h
         simp only at h
         split at h
         ·rename_i hl hat hpl hown
          obtain⟨l,hp,hK⟩:=h
          obtain⟨h1,h2⟩:=ev_ok hs.fok.left hx
          obtain⟨h3,h4⟩:=ev_ok hs.fok.left hy
          have hl':(cellsOf v).length=ti.size:=by simpa using hl
          have hplain:∀ u ∈ cellsOf v,plain1 u:=fun u hu=>plB_ok (List.all_eq_true.1 hpl u hu)
          have hkn:k<n:=by
           have:=h2.2.2 k hsp
           obtain⟨⟨-,e⟩,-⟩:=hs.blk _ _ (lk_app hb)
           omega
          obtain⟨g,hA,hsz,hth,hs2⟩:=hs.storeRow hb hown hkn hp hplain
          have hrun:=run_store (P:=P) (w:=w) (ρ:=ρ) (hτ t ti hti) (g:=g) (o:=k * sz+ad.off) (notTuple hat) hl' hat hth
          have e:den ρ (.pointer (some ad))=.pointer (some ⟨g,k * sz+ad.off,none⟩):=by simp[den,den2,den1,dA_some hA,hsp,hsz]
          rw[e] at h1
          unfold Oper.wp execOp
          simp only[h1,h3]
          rw[Sem.run_bind,hrun]
          exact⟨_,_,_,_,hK,hs2,ExtS.refl _ _,fun _ _=>rfl⟩
         ·exact h.elim
       | box bt cs=>
        cases hsp:ad.spot with
        | some k=>rw[hsp] at h;exact h.elim
        | none=>
         rw[hsp] at h
         simp only at h
         split at h
         ·rename_i l hl hat hp
          obtain⟨h1,h2⟩:=ev_ok hs.fok.left hx
          obtain⟨h3,h4⟩:=ev_ok hs.fok.left hy
          obtain⟨g,hA,hblk,-,-⟩:=hs.blk _ _ (lk_app hb)
          have hl':(cellsOf v).length=ti.size:=by simpa using hl
          have hnt:nt v=true:=notTuple hat
          have hsz:=(putN_get _ _ _ _ hp).2.1
          have hrun:=run_store (P:=P) (w:=w) (ρ:=ρ) (hτ t ti hti) (g:=g) (o:=ad.off) hnt hl' hat (hblk.there _ _ (by simpa using hsz))
          have hs2:=hs.store hb hA hp (cells_ok hnt h4)
          have e:den ρ (.pointer (some ad))=.pointer (some ⟨g,ad.off,none⟩):=by simp[den,den2,den1,dA_some hA,hsp]
          rw[e] at h1
          unfold Oper.wp execOp
          simp only[h1,h3]
          rw[Sem.run_bind,hrun]
          exact⟨_,_,_,_,h,hs2,ExtS.refl _ _,fun _ _=>rfl⟩
         ·exact h.elim
 case buildSlice t len parts=>
  cases hti:lk τ t with
  | none=>rw[hti] at h;exact h.elim
  | some ti=>
   rw[hti] at h
   simp only at h
   split at h
   ·rename_i eb te hsl heb hte
    split at h
    ·rename_i s rs hs1 hrs
     split at h
     ·rename_i hlen hle
      have ht:=hτ t ti hti
      obtain⟨hu,hby⟩:=ht.elt heb
      obtain⟨ie,hie,hsz,z,hz,hzc⟩:=(hτ _ te hte).size
      have hlen':rs.length=len:=Nat.eq_of_beq_eq_true hlen
      have hle':len * te.size≤16777216:=Nat.le_of_ble_eq_true hle
      obtain⟨out,g1,-,g3,g4⟩:=fill_rows (a:=a) hs.fok.left parts.toList 0 rs ((Array.range (len * te.size)).map fun i=>(if len * te.size=0 then #[] else z.cells)[i % (if len * te.size=0 then #[] else z.cells).size]!) hrs (by simp[hlen'])
      have hs2:=hs.newRow (1000000+ti.elt) ti.elt (sz:=te.size) (n:=len) (el:=fun k=>rs.getD k []) (cells:=out) (fun k hk=>by
       have:rs[k]?=some (rs.getD k []):=by rw[List.getD_eq_getElem?_getD,List.getElem?_eq_getElem (by omega)];rfl
       exact g3 _ (List.mem_of_getElem? this)) (fun k hk j v hv=>by
       have:=g4 k j v (by omega) hv
       rw[Nat.zero_add] at this
       exact this)
      obtain⟨e1,e2⟩:=slc_new (ρ:=ρ) (nx:=nx) w.heap.size te.size len len len
      have hs3:=hs2.put (d:=dst) hd e2
      rw[e1] at hs3
      refine wp_value (w':=w.alloc (.cells out ti.elt)) ?_ ⟨_,_,_,_,h,hs3,ExtS.set _ _ _,fun _ q=>lk_putF q⟩
      have hpm:(parts.map fun (q:Nat×Operand)=>(q.1,a.eval q.2)).toList=parts.toList.map fun q=>(q.1,a.eval q.2):=by simp
      have hz0:¬ (16777216<len * te.size):=by omega
      by_cases h0:len * te.size=0
      ·simp only[h0,if_true] at g1
       rw[show (Array.range 0).map (fun i=>(#[]:Array Value)[i % (#[]:Array Value).size]!)=#[] by simp[Array.range_zero']] at g1
       simp[execOp,Instr.buildSlice,run_underlying hu,sizeOf,typeInfo,hie,hsz,h0,g1,newRow,newObj,Sem.run,Array.range_zero']
      ·simp only[h0,if_false] at g1
       simp[execOp,Instr.buildSlice,run_underlying hu,sizeOf,typeInfo,zeroValue,hie,hsz,hz,hz0,h0,g1,newRow,newObj,Sem.run]
     ·exact h.elim
    ·exact h.elim
   ·exact h.elim
 case makeSlice t x y=>
  cases hx:ev fr x with
  | none=>rw[hx] at h;exact h.elim
  | some p=>
   rw[hx] at h
   cases p<;>first | exact h.elim | skip
   rename_i kl n
   cases hy:ev fr y with
   | none=>rw[hy] at h;exact h.elim
   | some q=>
    rw[hy] at h
    cases q<;>first | exact h.elim | skip
    rename_i kc n'
    cases hti:lk τ t with
    | none=>rw[hti] at h;exact h.elim
    | some ti=>
     rw[hti] at h
     simp only at h
     split at h
     ·rename_i eb te hsl heb hte
      split at h
      ·rename_i s hs1 hzl
       obtain⟨⟨rfl,hn0,hnb⟩,hK⟩:=h
       have ht:=hτ t ti hti
       obtain⟨hu,hby⟩:=ht.elt heb
       obtain⟨ie,hie,hsz,z,hz,hzc⟩:=(hτ _ te hte).size
       have hzl':te.zero.length=te.size:=Nat.eq_of_beq_eq_true hzl
       have hzs:z.cells.size=te.size:=by rw[← Array.length_toList,hzc,hzl']
       have hb:=hby ie hie
       have h1:a.eval x=.int kl n':=(ev_ok hs.fok.left hx).1
       have h2:a.eval y=.int kc n':=(ev_ok hs.fok.left hy).1
       have hnn:n'≤281474976710656:=by
        have:n' * 1≤n' * ((eb+1:Nat):Int):=Int.mul_le_mul_of_nonneg_left (by omega) hn0
        omega
       have hrun:=run_make (P:=P) w t ti.elt ie z hu hie hz kl kc n' n' hn0 (Int.le_refl _) (by rw[hb,Int.mul_comm];exact hnb) (by omega)
       have hs2:=hs.newRow (1000000+ti.elt) ti.elt (sz:=te.size) (n:=n'.toNat) (el:=fun _=>te.zero) (cells:=madeCells z.cells (n'.toNat * te.size)) (fun k hk=>⟨hzl',(hτ _ te hte).zero⟩) (fun k hk j v hv=>by
        have hj:j<te.size:=by rw[← hzl'];exact (List.getElem?_eq_some_iff.1 hv).1
        rw[made_at hzs hk hj]
        rw[← hzc] at hv
        simpa using hv)
       obtain⟨e1,e2⟩:=slc_new (ρ:=ρ) (nx:=nx) w.heap.size te.size n'.toNat n'.toNat n'.toNat
       have hs3:=hs2.put (d:=dst) hd e2
       rw[e1] at hs3
       refine wp_value (w':=w.alloc (.cells (madeCells z.cells (n'.toNat * te.size)) ti.elt)) ?_ ⟨_,_,_,_,hK,hs3,ExtS.set _ _ _,fun _ q=>lk_putF q⟩
       rw[hsz] at hrun
       simp[execOp,h1,h2,hrun]
      ·exact h.elim
     ·exact h.elim
 case slice t x lo hi mx=>
  cases lo with
  | some _=>exact h.elim
  | none=>
   cases mx with
   | some _=>cases hi<;>exact h.elim
   | none=>
    cases hi with
    | none=>exact h.elim
    | some y=>
     try simp only at h
     cases hx:ev fr x with
     | none=>rw[hx] at h;exact h.elim
     | some p=>
      rw[hx] at h
      cases p<;>(try simp only at h)<;>first | exact h.elim | skip
      rename_i A n cap
      cases hy:ev fr y with
      | none=>rw[hy] at h;exact h.elim
      | some q=>
       rw[hy] at h
       cases q<;>(try simp only at h)<;>first | exact h.elim | skip
       rename_i k hh
       cases hti:lk τ t with
       | none=>rw[hti] at h;exact h.elim
       | some ti=>
        rw[hti] at h
        try simp only at h
        split at h
        ·rename_i s hsl hesz
         obtain⟨⟨h0,h1⟩,hK⟩:=h
         obtain⟨r1,r2⟩:=slice_run (w:=w) hτ hs.fok.left hx hy hti hsl hesz h0 h1
         refine wp_value (w':=w) (v:=den ρ (.slice A hh.toNat cap)) ?_ ⟨_,_,_,_,hK,hs.put (d:=dst) hd r2,ExtS.refl _ _,fun _ q=>lk_putF q⟩
         simp[execOp,r1]
        ·exact h.elim
 case indexAddr t x i=>
  cases hx:ev fr x with
  | none=>rw[hx] at h;exact h.elim
  | some p=>
   rw[hx] at h
   cases p<;>first | exact h.elim | skip
   rename_i A n cp
   cases A with
   | none=>exact h.elim
   | some ad=>
    cases hy:ev fr i with
    | none=>rw[hy] at h;exact h.elim
    | some q=>
     rw[hy] at h
     cases q<;>first | exact h.elim | skip
     rename_i kk k
     cases hti:lk τ t with
     | none=>rw[hti] at h;exact h.elim
     | some ti=>
      rw[hti] at h
      simp only at h
      cases hb:lk mem ad.block with
      | none=>rw[hb] at h;exact h.elim
      | some bl=>
       rw[hb] at h
       cases bl with
       | box bt cs=>exact h.elim
       | row bt sz n' el=>
        simp only at h
        split at h
        ·rename_i s hoff hsp hsl hesz hbe
         obtain⟨⟨hn,hk0,hkn⟩,hK⟩:=h
         have hsz:ti.esz=sz:=Nat.eq_of_beq_eq_true hbe
         obtain⟨h1,h2⟩:=ev_ok hs.fok.left hx
         obtain⟨h3,-⟩:=ev_ok hs.fok.left hy
         obtain⟨⟨hs1,hs2⟩,-,hrow⟩:=hs.blk _ _ (lk_app hb)
         rcases hrow with h0 | ⟨b,off,hA,hlt,hc⟩
         ·omega
         ·obtain⟨e,hu,he⟩:=(hτ t ti hti).slice hsl
          have hok:okV ρ nx (.pointer (some ⟨ad.block,0,some k.toNat⟩)):=⟨hs.mlt _ _ (lk_app hb),⟨b,off,hA⟩,fun j hj=>by cases hj;show k.toNat<(ρ ad.block).n;rw[hs2];omega⟩
          have hs3:=hs.put (d:=dst) hd hok
          have e1:den ρ (.slice (some ad) n cp)=.slice (some ⟨b,off,none⟩) n cp:=by simp[den,den2,den1,dA_some hA,hsp,hoff]
          have e2:den ρ (.pointer (some ⟨ad.block,0,some k.toNat⟩))=.pointer (some ⟨b,off+k.toNat * sz,none⟩):=by simp[den,den2,den1,dA_some (a:=⟨ad.block,0,some k.toNat⟩) hA,hs1]
          rw[e2] at hs3
          rw[e1] at h1
          have h3':a.eval i=.int kk k:=h3
          refine wp_value (w':=w) ?_ ⟨_,_,_,_,hK,hs3,ExtS.refl _ _,fun _ q=>lk_putF q⟩
          cases hi:P.info? e with
          | none=>simp[szOf,hi] at he;omega
          | some ii=>
           have hes:ii.size=sz:=by rw[← hsz,← he];simp[szOf,hi]
           simp[execOp,h1,h3',Instr.indexAt,asIntOf,run_underlying hu,hk0,hkn,sizeOf,typeInfo,hi,hes,Addr.add_mid]
        ·exact h.elim
 case binOp bo t x y yt=>
  cases hx:ev fr x with
  | none=>rw[hx] at h;exact h.elim
  | some p=>
   rw[hx] at h
   cases p<;>first | exact h.elim | skip
   rename_i k b
   cases hy:ev fr y with
   | none=>rw[hy] at h;exact h.elim
   | some q=>
    rw[hy] at h
    cases q<;>first | exact h.elim | skip
    rename_i k' c
    have h1:a.eval x=.int k b:=(ev_ok hs.fok.left hx).1
    have h2:a.eval y=.int k' c:=(ev_ok hs.fok.left hy).1
    cases bo<;>simp only at h<;>first | exact h.elim | skip
    case quo=>
     obtain⟨⟨rfl,hc⟩,hK⟩:=h
     refine wp_value (w':=w) (v:=.int k (k.wrap (b.tdiv c))) ?_ ⟨_,_,_,_,hK,hs.put (d:=dst) (v:=.int k (k.wrap (b.tdiv c))) hd trivial,ExtS.refl _ _,fun _ q=>lk_putF q⟩
     simp[execOp,h1,h2,eqGuard,binOp,Op.intDiv,hc]
    case rem=>
     obtain⟨⟨rfl,hc⟩,hK⟩:=h
     refine wp_value (w':=w) (v:=.int k (b.tmod c)) ?_ ⟨_,_,_,_,hK,hs.put (d:=dst) (v:=.int k (b.tmod c)) hd trivial,ExtS.refl _ _,fun _ q=>lk_putF q⟩
     simp[execOp,h1,h2,eqGuard,binOp,Op.intDiv,hc]
    case shl=>
     obtain⟨hc,hK⟩:=h
     refine wp_value (w':=w) (v:=.int k (k.wrap (b * 2 ^ min c.toNat k.bits))) ?_ ⟨_,_,_,_,hK,hs.put (d:=dst) (v:=.int k (k.wrap (b * 2 ^ min c.toNat k.bits))) hd trivial,ExtS.refl _ _,fun _ q=>lk_putF q⟩
     simp[execOp,h1,h2,eqGuard,binOp,Op.shift,show ¬ c<0 by omega]
    case shr=>
     obtain⟨hc,hK⟩:=h
     refine wp_value (w':=w) (v:=.int k (b.fdiv (2 ^ min c.toNat k.bits))) ?_ ⟨_,_,_,_,hK,hs.put (d:=dst) (v:=.int k (b.fdiv (2 ^ min c.toNat k.bits))) hd trivial,ExtS.refl _ _,fun _ q=>lk_putF q⟩
     simp[execOp,h1,h2,eqGuard,binOp,Op.shift,show ¬ c<0 by omega]
 case call c=>
  obtain⟨callee,args,argTypes⟩:=c
  cases callee with
  | builtin b=>
   cases b<;>simp only at h<;>first | exact h.elim | skip
   split at h
   ·rename_i s x t tx hev hty
    have hvs:evs fr args.toList=some [s,x]:=hev
    obtain⟨h1,h2⟩:=evs_ok hs.fok.left hvs
    have h1':args.map a.eval=#[den ρ s,den ρ x]:=by apply Array.toList_inj.1;simp[h1]
    have hat:argTypes=#[t,tx]:=by apply Array.toList_inj.1;simp[hty]
    split at h
    ·rename_i ti tj hti htj
     split at h
     ·rename_i eb te hsl hsl2 heb hte
      split at h
      ·rename_i sz hsz hzl
       obtain⟨hu,hby⟩:=(hτ t ti hti).elt heb
       obtain⟨e',hu2,-⟩:=(hτ tx tj htj).slice hsl2
       obtain⟨v,w',mem',nx',ρ',hrun,hK,hs',hok',hx'⟩:=appx_sound (ty:=type) hτ hu (hτ _ te hte) hby hu2 (Nat.eq_of_beq_eq_true hzl) (by omega) h hs (h2 s (by simp))
       refine wp_value (v:=den ρ' v) (w':=w') ?_ ⟨_,_,_,_,hK,hs'.put (d:=dst) hd hok',hx',fun _ q=>lk_putF q⟩
       simp[execOp,resolve,invoke,builtin,h1',hat,hrun]
      ·exact h.elim
     ·exact h.elim
    ·exact h.elim
   ·exact h.elim
  | invoke r m=>exact h.elim
  | value x=>
   cases x<;>first | exact h.elim | skip
   case func f=>
    simp only at h
    cases hvs:evs fr args.toList with
    | none=>rw[hvs] at h;exact h.elim
    | some vs=>
     cases hct:lk F f with
     | none=>rw[hvs,hct] at h;exact h.elim
     | some ct=>
      rw[hvs,hct] at h
      simp only at h
      obtain⟨h1,h2⟩:=evs_ok hs.fok.left hvs
      have h1':args.map a.eval=(vs.map (den ρ)).toArray:=by apply Array.toList_inj.1;simp[h1]
      obtain⟨hent,hrun⟩:=hF f ct hct C (hI.imp id (fun q=>by simpa [inlOk] using q))
      cases hfn:P.funcs[f]? with
      | none=>rw[hfn] at hent;simp at hent
      | some fn=>
       rw[hfn] at hent
       simp at hent
       have hc:=hrun h hs h2
       unfold Oper.wp
       have hx:(execOp a.eval { dst:=dst,op:=.call { callee:=.value (.func f),args:=args,argTypes:=argTypes },type:=type,pos:=pos,after:=after,guard:=guard }).run P w=.ok (.enter f (vs.map (den ρ)).toArray) w:=by
        have hbs:fn.body≠none:=by intro hb;rw[hb] at hent;simp at hent
        simp[execOp,resolve,Act.eval,Deferred.ofValue,invoke,callFunc,hfn,hent.1,hbs,h1',program,Sem.run]
       rw[hx]
       refine hc.mono fun e w' he=>?_
       obtain⟨v,mem',nx',ρ',rfl,hK,hs',hv,hx'⟩:=he
       exact⟨_,_,_,_,hK,hs'.put (d:=dst) hd hv,hx',fun _ q=>lk_putF q⟩
   case tmp t=>
    simp only at h
    cases hft:lk fr t with
    | none=>rw[hft] at h;exact h.elim
    | some fv=>
     rw[hft] at h
     split at h
     ·rename_i f fs cs heq
      cases heq
      cases hvs:evs fr args.toList with
      | none=>rw[hvs] at h;exact h.elim
      | some vs=>
       cases hct:lk F f with
       | none=>rw[hvs,hct] at h;exact h.elim
       | some ct=>
        rw[hvs,hct] at h
        split at h
        ·rename_i vs' ct' q1 q2 ha hb
         cases q1
         cases q2
         rw[List.all_eq_true] at ha hb
         obtain⟨h1,h2⟩:=evs_ok hs.fok.left hvs
         have h1':args.map a.eval=(vs.map (den ρ)).toArray:=by apply Array.toList_inj.1;simp[h1]
         obtain⟨hent,hrun⟩:=hF f ct hct C (hI.imp id (fun q=>by simp[inlOk] at q))
         have hfv:=hs.fok.left.frm t _ hft
         have hfk:=hs.fok.left.frk t _ hft
         have d1:fs.map (den1 ρ)=(fs.toList.map (den ρ)).toArray:=by
          apply Array.toList_inj.1
          simp only[Array.toList_map]
          exact List.map_congr_left fun v hv=>(atom_den (ha v hv)).symm
         have d2:cs.map (den1 ρ)=(cs.toList.map (den ρ)).toArray:=by
          apply Array.toList_inj.1
          simp only[Array.toList_map]
          exact List.map_congr_left fun v hv=>(atom_den (hb v hv)).symm
         cases hfn:P.funcs[f]? with
         | none=>rw[hfn] at hent;simp at hent
         | some fn=>
          rw[hfn] at hent
          simp at hent
          have hc:=hrun h hs (fun v hv=>by
           rw[List.mem_append,List.mem_append] at hv
           rcases hv with hv | hv | hv
           ·rw[atom_ok (ha v hv)];exact hfk.1 v (by simpa using hv)
           ·exact h2 v hv
           ·rw[atom_ok (hb v hv)];exact hfk.2 v (by simpa using hv))
          unfold Oper.wp
          have he:a.eval (.tmp t)=.func (.func f) (fs.map (den1 ρ)) (cs.map (den1 ρ)):=by
           simp only[Act.eval,Array.getD_eq_getD_getElem?,hfv]
           rfl
          have hx:(execOp a.eval { dst:=dst,op:=.call { callee:=.value (.tmp t),args:=args,argTypes:=argTypes },type:=type,pos:=pos,after:=after,guard:=guard }).run P w=.ok (.enter f ((fs.toList++(vs++cs.toList)).map (den ρ)).toArray) w:=by
           have hbs:fn.body≠none:=by intro hb;rw[hb] at hent;simp at hent
           simp[execOp,resolve,he,Deferred.ofValue,invoke,callFunc,hfn,hent.1,hbs,h1',d1,d2,program,Sem.run]
          rw[hx]
          refine hc.mono fun e w' he=>?_
          obtain⟨v,mem',nx',ρ',rfl,hK,hs',hv,hx'⟩:=he
          exact⟨_,_,_,_,hK,hs'.put (d:=dst) hd hv,hx',fun _ q=>lk_putF q⟩
        ·exact h.elim
     ·exact h.elim
theorem opx_sound {I:List Nat} (hτ:TTok P τ) (hF:FTokI P F I) {o:Oper} (hI:C.fm=[]∨inlOk I o.op=true) (hd:∀ i,o.dst=some i→i<C.nt) {K:AF→AM→Nat→Prop} (h:opx τ F o fr mem nx K) (hs:Sat C ρ fr mem nx a w) :
  o.wp P a w (fun a' w'=>∃ fr' mem' nx' ρ',K fr' mem' nx'∧Sat C ρ' fr' mem' nx' a' w'∧ExtS ρ nx ρ' nx'∧∀ d,o.dst≠some d→lk fr' d=lk fr d) Q:=by
 have h':(match vx τ fr mem o.op with | some v=>putK o.dst v fr fun fr'=>K fr' mem nx | none=>actx τ F o.dst o.op fr mem nx K):=by cases o;exact h
 cases hv:vx τ fr mem o.op with
 | none=>rw[hv] at h';exact actx_sound hτ hF hI hd h' hs
 | some v=>
  rw[hv] at h'
  simp only[putK_eq] at h'
  obtain⟨h1,h2⟩:=vx_run (P:=P) hτ hs.fok.left (fun i b hi=>hs.blk i b (lk_app hi)) hv
  exact wp_value h1 ⟨_,_,_,_,h',hs.put hd h2,ExtS.refl _ _,fun _ q=>lk_putF q⟩
end
end Go.Proofs.YtnnpgbleacapfaaGreat
