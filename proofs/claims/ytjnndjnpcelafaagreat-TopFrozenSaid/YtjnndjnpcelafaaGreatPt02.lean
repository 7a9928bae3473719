import Derived.Test.YtjnndjnpcelafaaGreatPt01
import Derived.Laws.Tables
namespace Go.Proofs.YtjnndjnpcelafaaGreat
set_option maxHeartbeats 16000000
set_option maxRecDepth 100000
open Go.RowKit
set_option linter.unusedSimpArgs false
set_option linter.unusedVariables false
section
variable {P:Program} {τ:TT} {C:Ctx} {ρ:Nat->Pl} {fr:AF} {mem:AM} {nx:Nat} {a:Act} {w:World}
theorem arx_run (hτ:zcl P τ) {t:TypeId} {p q v:Value} (hp:okV ρ nx p) (h:arx τ t p q=some v) :
  (Instr.indexAt t (den ρ p) (den ρ q)).run P w=.ok (den ρ v) w/\okV ρ nx v:=by
 unfold arx at h;split at h
 ·rename_i ab ao
  split at h
  ·rename_i kk k
   cases hti:lk τ t with
   | none=>rw[hti] at h;simp at h
   | some ti=>
    rw[hti] at h;simp only at h;cases hb:Nat.blt k ti.arr with
    | false=>rw[hb] at h;simp at h
    | true=>
     rw[hb] at h;simp at h;subst h;obtain⟨m,e,hu,hlt,hsz,-,hpos⟩:=(hτ t ti hti).array hb;obtain⟨cb,co,hA⟩:=(show ∃ b o,(ρ ab).A=some ⟨b,o,none⟩ from hp.2.1);have e1:den ρ (.pointer (some ⟨ab,ao,none⟩))=.pointer (some ⟨cb,co+ao,none⟩):=by simp[den,zaW,zal,zbG (a:=⟨ab,ao,none⟩) hA]
     have e2:den ρ (.pointer (some ⟨ab,ao+k * ti.ars,none⟩))=.pointer (some ⟨cb,co+ao+k * ti.ars,none⟩):=by simp[den,zaW,zal,zbG (a:=⟨ab,ao+k * ti.ars,none⟩) hA,Nat.add_assoc]
     have e3:den ρ (.int kk (.ofNat k))=.int kk (.ofNat k):=rfl;rw[e1,e2,e3];refine⟨?_,hp.1,⟨cb,co,hA⟩,fun j hj=>by cases hj⟩;cases hi:P.info? e with
     | none=>
      have hs0:0=ti.ars:=by simpa [zeu,hi] using hsz
      omega
     | some i=>
      have hsz':i.size=ti.ars:=by simpa [zeu,hi] using hsz
      have h0:(0:Int)<=Int.ofNat k:=Int.natCast_nonneg k;have h1:Int.ofNat k<(m:Int):=by show (k:Int)<m;omega
      have h2:(Int.ofNat k).toNat=k:=rfl;simp[Instr.indexAt,asIntOf,Instr.sureAddr,run_underlying hu,sizeOf,typeInfo,hi,hsz',Addr.add_mid,hlt]
  ·simp at h
 ·simp at h
theorem fax_run (hτ:zcl P τ) {t:TypeId} {p v:Value} {f:Nat} (hp:okV ρ nx p) (h:fax τ t p f=some v) :
  (Instr.fieldAt t (den ρ p) f).run P w=.ok (den ρ v) w/\okV ρ nx v:=by
 cases p with
 | pointer q=>
  cases q with
  | none=>simp[fax] at h
  | some ad=>
   simp only[fax] at h;cases hti:lk τ t with
   | none=>rw[hti] at h;simp at h
   | some ti=>
    rw[hti] at h;simp only at h;have ht:=hτ t ti hti;split at h
    ·rename_i d s ho hz
     simp at h;subst h;obtain⟨fs,x,hu,hx,hoff,hsz,-⟩:=ht.field ho hz;obtain⟨cb,co,hA⟩:=(show ∃ b o,(ρ ad.block).A=some ⟨b,o,none⟩ from hp.2.1)
     ·have e1:den ρ (.pointer (some ad))=.pointer (some ⟨cb,co+ad.spot.getD 0 * (ρ ad.block).sz+ad.off,none⟩):=by simp[den,zaW,zal,zbG hA]
      have e2:den ρ (.pointer (some ⟨ad.block,ad.off+d,ad.spot⟩))=.pointer (some ⟨cb,co+ad.spot.getD 0 * (ρ ad.block).sz+ad.off+d,none⟩):=by simp[den,zaW,zal,zbG (a:=⟨ad.block,ad.off+d,ad.spot⟩) hA,Nat.add_assoc]
      rw[e1,e2];refine⟨?_,hp⟩;cases hi:P.info? x.type with
      | none=>simp[zeu,hi] at hsz
      | some i=>
       have hsz':i.size=s+1:=by simpa [zeu,hi] using hsz
       simp[Instr.fieldAt,Instr.sureAddr,run_underlying hu,hx,fieldPlace,sizeOf,typeInfo,hi,hsz',hoff,Addr.add_mid]
    ·simp at h
 | _=>simp[fax] at h
theorem fdx_run (hτ:zcl P τ) {t:TypeId} {p v:Value} {f:Nat} (hp:okV ρ nx p) (h:fdx τ t p f=some v) :
  (Instr.field t (den ρ p) f).run P w=.ok (den ρ v) w/\okV ρ nx v:=by
 cases p with
 | agg cs=>
  simp only[fdx] at h;cases hti:lk τ t with
  | none=>rw[hti] at h;simp at h
  | some ti=>
   rw[hti] at h;simp only at h;have ht:=hτ t ti hti;split at h
   ·rename_i d s b ho hz hb
    obtain⟨fs,x,hu,hx,hoff,hsz,hrow⟩:=ht.field ho hz;have hrow:=hrow b hb;cases htk:zdY d (s+1) cs.toList with
    | none=>rw[htk] at h;simp at h
    | some l=>
     rw[htk] at h;simp only at h;obtain⟨hl,hget⟩:=zcd _ _ _ _ htk;have hmem:∀ u ∈ l,ok1 ρ nx u:=fun u hu=>by
      obtain⟨j,hj⟩:=List.getElem?_of_mem hu;have:=hget j u hj;exact hp u (by simpa using List.mem_of_getElem? this)
     cases hi:P.info? x.type with
     | none=>simp[zeu,hi] at hsz
     | some i=>
      have hsz':i.size=s+1:=by simpa [zeu,hi] using hsz
      cases hun:P.underlying x.type with
      | none=>
       have:b=0:=by rw[← hrow];simp[zfh,hun]
       subst this;simp at h
      | some dd=>
       cases hr:dd.isRow with
       | false=>
        have:b=1:=by rw[← hrow];simp[zfh,hun,hr]
        subst this;cases l with
        | nil=>simp at h
        | cons u l=>
         simp only at h;cases hat:zcW u with
         | false=>rw[hat] at h;simp at h
         | true=>
          rw[hat] at h;simp at h;subst h;have hag:(isAgg x.type).run P w=.ok false w:=by
           unfold isAgg;rw[Sem.run_bind,run_underlying hun w];cases dd<;>simp_all
          have h0:=hget 0 u (by simp);simp at h0;refine⟨?_,by rw[zcV hat];exact hmem u (by simp)⟩;rw[zbU hat];simp[Instr.field,run_underlying hu,hx,part,asAgg,den,zaW,hag,hoff,h0]
       | true=>
        have:b=2:=by rw[← hrow];simp[zfh,hun,hr]
        subst this;simp at h;subst h;have hag:(isAgg x.type).run P w=.ok true w:=by
         unfold isAgg;rw[Sem.run_bind,run_underlying hun w];cases dd<;>simp_all
        refine⟨?_,fun u hu=>hmem u (by simpa using hu)⟩;have he:(cs.map (zal ρ)).extract d (d+(s+1))=(l.map (zal ρ)).toArray:=by
         apply Array.ext_getElem?
         intro j;by_cases hj:j<s+1
         ·obtain⟨u,hlj⟩:∃ u,l[j]?=some u:=⟨l[j],List.getElem?_eq_getElem o_⟩;have hcj:=hget j u hlj;simp at hcj;have hlt:d+j<cs.size:=by
           rcases Nat.lt_or_ge (d+j) cs.size with h' | h'
           ·exact h'
           ·rw[Array.getElem?_eq_none h'] at hcj;cases hcj
          rw[Array.getElem?_extract,if_pos (by simp;omega)];simp[hcj,hlj]
         ·rw[Array.getElem?_extract,if_neg o_];simp[List.getElem?_eq_none (show l.length<=j by omega)]
        simp[Instr.field,run_underlying hu,hx,part,asAgg,den,zaW,hag,hoff,sizeOf,typeInfo,hi,hsz',he]
   ·simp at h
 | _=>simp[fdx] at h
theorem ixx_run (hτ:zcl P τ) {t:TypeId} {p q v:Value} (hp:okV ρ nx p) (h:ixx τ t p q=some v) :
  (Instr.index t (den ρ p) (den ρ q)).run P w=.ok (den ρ v) w/\okV ρ nx v:=by
 unfold ixx at h;split at h
 ·rename_i cs kk k
  cases hti:lk τ t with
  | none=>rw[hti] at h;simp at h
  | some ti=>
   rw[hti] at h;simp only at h;cases hb:Nat.blt k ti.arr with
   | false=>rw[hb] at h;simp at h
   | true=>
    rw[hb] at h;simp only at h;obtain⟨m,e,hu,hlt,hsz,hrow,hpos⟩:=(hτ t ti hti).array hb;cases htk:zdY (k * ti.ars) ti.ars cs.toList with
    | none=>rw[htk] at h;simp at h
    | some l=>
     rw[htk] at h;simp only at h;obtain⟨hl,hget⟩:=zcd _ _ _ _ htk;have hmem:∀ u ∈ l,ok1 ρ nx u:=fun u hu=>by
      obtain⟨j,hj⟩:=List.getElem?_of_mem hu;have:=hget j u hj;exact hp u (by simpa using List.mem_of_getElem? this)
     have e3:den ρ (.int kk (.ofNat k))=.int kk (.ofNat k):=rfl;have h0:(0:Int)<=Int.ofNat k:=Int.natCast_nonneg k;have h1:Int.ofNat k<(m:Int):=by show (k:Int)<m;omega
     have h2:(Int.ofNat k).toNat=k:=rfl;rw[e3];cases hi:P.info? e with
     | none=>
      have hs0:0=ti.ars:=by simpa [zeu,hi] using hsz
      omega
     | some i=>
      have hsz':i.size=ti.ars:=by simpa [zeu,hi] using hsz
      cases hun:P.underlying e with
      | none=>simp[zfh,hun] at hrow;split at hrow<;>cases hrow
      | some dd=>
       cases hag:ti.arag with
       | false=>
        rw[hag] at h hrow;have hr:dd.isRow=false:=by simp[zfh,hun] at hrow;cases hd:dd.isRow<;>simp_all
        match l,h with
        | [u],h=>
         simp only[ofC] at h;cases hat:zcW u with
         | false=>rw[hat] at h;simp at h
         | true=>
          rw[hat] at h;simp at h;subst h;have hia:(isAgg e).run P w=.ok false w:=by
           unfold isAgg;rw[Sem.run_bind,run_underlying hun w];cases dd<;>simp_all
          have hg0:=hget 0 u (by simp);simp at hg0;refine⟨?_,by rw[zcV hat];exact hmem u (by simp)⟩;rw[zbU hat];simp[Instr.index,asIntOf,run_underlying hu,den,zaW,sizeOf,typeInfo,hi,hsz',part,hia,hg0,hlt]
        | [],h=>simp[ofC] at h
        | _::_::_,h=>simp[ofC] at h
       | true=>
        rw[hag] at h hrow;have hr:dd.isRow=true:=by simp[zfh,hun] at hrow;cases hd:dd.isRow<;>simp_all
        simp only[ofC,Option.some.injEq] at h;subst h;have hia:(isAgg e).run P w=.ok true w:=by
         unfold isAgg;rw[Sem.run_bind,run_underlying hun w];cases dd<;>simp_all
        refine⟨?_,fun u hu=>hmem u (by simpa using hu)⟩;have he:(cs.map (zal ρ)).extract (k * ti.ars) (k * ti.ars+ti.ars)=(l.map (zal ρ)).toArray:=by
         apply Array.ext_getElem?
         intro j;by_cases hj:j<ti.ars
         ·obtain⟨u,hlj⟩:∃ u,l[j]?=some u:=⟨l[j],List.getElem?_eq_getElem o_⟩;have hcj:=hget j u hlj;simp at hcj;have hlt:k * ti.ars+j<cs.size:=by
           rcases Nat.lt_or_ge (k * ti.ars+j) cs.size with h' | h'
           ·exact h'
           ·rw[Array.getElem?_eq_none h'] at hcj;cases hcj
          rw[Array.getElem?_extract,if_pos (by simp;omega)];simp[hcj,hlj]
         ·rw[Array.getElem?_extract,if_neg o_];simp[List.getElem?_eq_none (show l.length<=j by omega)]
        simp[Instr.index,asIntOf,run_underlying hu,den,zaW,sizeOf,typeInfo,hi,hsz',part,hia,he,hlt]
 ·simp at h
theorem zgA {t:TypeId} (hu:P.underlying t=some .bool) (b c:Bool):(Op.equal t (.bool b) (.bool c)).run P w=.ok (b==c) w:=by
 rw[Op.equal,show Op.maxDepth=9999+1 from rfl,Op.equalIn];simp[run_underlying hu]
theorem binx_run (hτ:zcl P τ) {t:TypeId} {x y:Operand} {p q v:Value} {o:BinOp} (hsh:o≠.shl/\o≠.shr) (h:binx o (isBx τ t) p q=some v) :
  (do eqGuard o t x y (den ρ p) (den ρ q);binOp o t (den ρ p) (den ρ q):Sem Value).run P w=.ok (den ρ v) w/\okV ρ nx v:=by
 cases p<;>cases q<;>simp only[binx] at h<;>try (simp at h;done)
 case int.int k b k' c=>
  by_cases hk:k=k'
  ·subst hk;simp only[decide_true] at h;cases o<;>simp at h<;>try (subst h;refine⟨?_,trivial⟩;simp[eqGuard,den,zaW,zal,binOp,Op.intArith,Op.intBits,Op.intCmp];done)
  ·simp[hk] at h
 case bool.bool b c=>
  cases hb:isBx τ t with
  | false=>rw[hb] at h;simp at h
  | true=>
   rw[hb] at h;unfold isBx at hb;cases hti:lk τ t with
   | none=>rw[hti] at hb;simp at hb
   | some ti=>
    rw[hti] at hb;have hu:=(hτ t ti hti).bool hb;cases o<;>simp at h
    case eql=>subst h;refine⟨?_,trivial⟩;simp[eqGuard,den,zaW,zal,binOp,zgA hu]
    case neq=>subst h;refine⟨?_,trivial⟩;simp[eqGuard,den,zaW,zal,binOp,zgA hu]
end
section
variable {P:Program} {τ:TT} {C:Ctx} {ρ:Nat->Pl} {fr:AF} {mem:AM} {nx:Nat} {a:Act} {w:World}
theorem zlc {o:BinOp} {b:Bool} {p q v:Value} (h:binx o b p q=some v):o≠.shl/\o≠.shr:=by
 constructor<;>rintro rfl<;>cases p<;>cases q<;>simp only[binx] at h<;>(try (split at h))<;>simp at h
theorem zh6:∀ {ks:List CK} {l:List Value},zdV ks l=true->l.map (zal ρ)=l
 | [],[],_=>rfl
 | [],_::_,h=>by simp[zdV] at h
 | _::_,[],h=>by simp[zdV] at h
 | k::r,v::l,h=>by
  simp only[zdV,Bool.and_eq_true] at h
  rw[List.map_cons,zh6 h.2]
  congr 1
  cases v<;>cases k<;>simp[ck1] at h<;>rfl
theorem eqx_run (hτ:zcl P τ) {t:TypeId} {x y:Operand} {p q v:Value} {o:BinOp} (h:eqx τ o t p q=some v) :
  (do eqGuard o t x y (den ρ p) (den ρ q);binOp o t (den ρ p) (den ρ q):Sem Value).run P w=.ok (den ρ v) w/\okV ρ nx v:=by
 cases p<;>first | (simp[eqx] at h;done) | skip
 rename_i xs
 cases q<;>first | (simp[eqx] at h;done) | skip
 rename_i ys
 simp only[eqx] at h;cases hti:lk τ t with
 | none=>rw[hti] at h;simp at h
 | some ti=>
  rw[hti] at h;simp only at h;split at h
  ·rename_i k r hk h1 h2
   have he:=((Bool.and_eq_true _ _).mp (hτ t ti hti).eqs).1;unfold eqB at he;rw[hk] at he;simp only[Bool.and_eq_true,decide_eq_true_eq,Bool.not_eq_true'] at he;obtain⟨⟨hagg,hfl⟩,hgu⟩:=he;rw[← hk] at hfl;obtain⟨⟨dd,hu,hrow,-⟩,hq⟩:=zfc (P:=P) (w:=w) 8 10000 t ti.eqk o_ hfl;obtain⟨d2,hu2,hr2,-⟩:=(hτ t ti hti).desc;rw[hu] at hu2;cases hu2
   obtain⟨fs,rfl⟩:=hrow.1 (hr2.trans hagg);have hq:=hq _ _ h1 h2;simp only[wrK,hu] at hq;have ex:den ρ (.agg xs)=.agg xs:=by
    show Value.agg (xs.map (zal ρ))=_;congr 1
    apply Array.toList_inj.1
    rw[Array.toList_map];exact zh6 h1
   have ey:den ρ (.agg ys)=.agg ys:=by
    show Value.agg (ys.map (zal ρ))=_;congr 1
    apply Array.toList_inj.1
    rw[Array.toList_map];exact zh6 h2
   rw[ex,ey];rw[show xs.toList.toArray=xs by simp,show ys.toList.toArray=ys by simp] at hq;cases o<;>simp only at h<;>first | (simp at h;done) | skip
   ·simp at h;subst h;refine⟨?_,trivial⟩;rw[Sem.run_bind,run_eqGuard_agg w _ t x y xs ys hgu,Result.andThen_ok,run_eql_struct w,hq];rfl
   ·simp at h;subst h;refine⟨?_,trivial⟩;rw[Sem.run_bind,run_eqGuard_agg w _ t x y xs ys hgu,Result.andThen_ok,run_neq_struct w,hq];rfl
  ·simp at h
theorem ptx_run (hτ:zcl P τ) {t:TypeId} {x y:Operand} {p q v:Value} {o:BinOp} (hp:okV ρ nx p) (h:ptx τ o t p q=some v) :
  (do eqGuard o t x y (den ρ p) (den ρ q);binOp o t (den ρ p) (den ρ q):Sem Value).run P w=.ok (den ρ v) w/\okV ρ nx v:=by
 unfold ptx at h;split at h
 ·rename_i pa
  cases hti:lk τ t with
  | none=>rw[hti] at h;simp at h
  | some ti=>
   rw[hti] at h;simp only at h;have key:∃ pa',den ρ (.pointer pa)=.pointer pa'/\pa'.isNone=(match pa with | none=>true | some _=>false):=by
    cases pa with
    | none=>exact⟨none,rfl,rfl⟩
    | some ad=>
     obtain⟨b,o,hA⟩:=(show ∃ b o,(ρ ad.block).A=some ⟨b,o,none⟩ from hp.2.1);exact⟨dA ρ ad,rfl,by rw[zbG hA];rfl⟩
   obtain⟨pa',e1,e2⟩:=key;have e0:den ρ (.pointer none)=.pointer none:=rfl;rw[e1,e0];cases hip:ti.isP with
   | false=>rw[hip] at h;simp at h
   | true=>
    rw[hip] at h;have hu:=(hτ t ti hti).ptr hip;have hg:∀ o',(eqGuard o' t x y (.pointer pa') (.pointer none)).run P w=.ok () w:=fun o'=>by cases o'<;>simp[eqGuard]
    cases o<;>simp only at h<;>first | (simp at h;done) | skip
    ·simp at h;subst h;refine⟨?_,trivial⟩;rw[Sem.run_bind,hg,Result.andThen_ok,run_eql_pointer_nil w t pa' hu,e2];cases pa<;>rfl
    ·simp at h;subst h;refine⟨?_,trivial⟩;rw[Sem.run_bind,hg,Result.andThen_ok,run_neq_pointer_nil w t pa' hu,e2];cases pa<;>rfl
 ·simp at h
theorem stx_run (hτ:zcl P τ) {t:TypeId} {x y:Operand} {p q v:Value} {o:BinOp} (h:stx τ o t p q=some v) :
  (do eqGuard o t x y (den ρ p) (den ρ q);binOp o t (den ρ p) (den ρ q):Sem Value).run P w=.ok (den ρ v) w/\okV ρ nx v:=by
 unfold stx at h;split at h
 ·cases hti:lk τ t with
  | none=>rw[hti] at h;simp at h
  | some ti=>
   rw[hti] at h;simp only at h;split at h
   ·rename_i hi hs
    have hu:=(hτ t ti hti).str hi hs;simp at h;subst h;refine⟨?_,trivial⟩;simp[eqGuard,den,zaW,zal,binOp,Op.stringOp]
   ·rename_i hi hs
    have hu:=(hτ t ti hti).str hi hs;simp at h;subst h;refine⟨?_,trivial⟩;simp[eqGuard,den,zaW,zal,binOp,Op.stringOp]
   ·simp at h
 ·simp at h
theorem znF (hτ:zcl P τ) {t:TypeId} {x y:Operand} {p q v:Value} {o:BinOp} (hp:okV ρ nx p) (h:binyx τ o t p q=some v) :
  (do eqGuard o t x y (den ρ p) (den ρ q);binOp o t (den ρ p) (den ρ q):Sem Value).run P w=.ok (den ρ v) w/\okV ρ nx v:=by
 unfold binyx at h;cases hb:binx o (isBx τ t) p q with
 | some u=>rw[hb] at h;simp at h;subst h;exact binx_run hτ (zlc hb) hb
 | none=>
  rw[hb] at h;simp only at h;cases hc:ptx τ o t p q with
  | some u=>rw[hc] at h;simp at h;subst h;exact ptx_run hτ hp hc
  | none=>
   rw[hc] at h;simp only at h;cases hs:stx τ o t p q with
   | some u=>rw[hs] at h;simp at h;subst h;exact stx_run hτ hs
   | none=>rw[hs] at h;exact eqx_run hτ h
theorem zfl (off:Nat):∀ (vs:List Value) (k:Nat) (cs:Array Value),(vs.zipIdx k).foldl (fun cs (p:Value×Nat)=>cs.setIfInBounds (off+p.2) p.1) cs=zdZ cs (off+k) vs
 | [],k,cs=>rfl
 | v::r,k,cs=>by
  rw[List.zipIdx_cons,List.foldl_cons,zfl off r (k+1),zdZ]
  rfl
def nt:Value->Bool
 | .tuple _=>false
 | .func _ _ _=>false
 | _=>true
theorem zdd {v:Value} (h:(cellsOf v).all zcW=true):nt v=true:=by cases v<;>first | rfl | simp[cellsOf,zcW] at h
theorem cells_den' {v:Value} (h:nt v=true):(den ρ v).cells=((cellsOf v).map (zal ρ)).toArray:=by
 cases v with
 | agg cs=>apply Array.toList_inj.1;simp[den,zaW,Value.cells,cellsOf]
 | tuple vs=>cases h
 | func f a b=>cases h
 | pointer p=>cases p<;>rfl
 | slice p n c=>cases p<;>rfl
 | map p=>cases p<;>rfl
 | _=>rfl
theorem cells_ok' {v:Value} (h:nt v=true) (hv:okV ρ nx v):∀ u ∈ cellsOf v,ok1 ρ nx u:=by
 cases v with
 | agg cs=>intro u hu;exact hv u (by simpa [cellsOf] using hu)
 | tuple vs=>cases h
 | func f a b=>cases h
 | _=>intro u hu;simp[cellsOf] at hu;subst hu;exact hv
theorem fill_one {place:Nat->Option (Nat×Nat)} {cs l:List Value} {i d s:Nat} {v:Value} (hp:place i=some (d,s)) (hl:(cellsOf v).length=s) (hat:(cellsOf v).all zcW=true) (hput:zbx d (cellsOf v) cs=some l) (rest:List (Nat×Value)) :
  Instr.fill place (cs.map (zal ρ)).toArray ((i,den ρ v)::rest)=Instr.fill place (l.map (zal ρ)).toArray rest:=by
 obtain⟨q1,q2,-⟩:=zcJ _ _ _ _ hput;have hc:=cells_den' (ρ:=ρ) (zdd hat);rw[Instr.fill,hp];simp only;rw[if_neg (by simp[hc,hl];omega)];congr 1
 rw[hc];have:=zfl d ((cellsOf v).map (zal ρ)) 0 (cs.map (zal ρ)).toArray;rw[Nat.add_zero,zjH hput] at this;rw[← this,← Array.foldl_toList,Array.toList_zipIdx]
theorem zg4 (hf:FrOk ρ fr nx a) {ti:TI} {place:Nat->Option (Nat×Nat)} (hp:∀ i d s,ti.offs[i]?=some d->ti.fszs[i]?=some s->place i=some (d,s)):∀ (parts:List (Nat×Operand)) (cs l:List Value),bldx ti fr parts cs=some l->(∀ v ∈ cs,ok1 ρ nx v)->
  Instr.fill place (cs.map (zal ρ)).toArray (parts.map fun p=>(p.1,a.eval p.2))=some (l.map (zal ρ)).toArray/\∀ v ∈ l,ok1 ρ nx v
 | [],cs,l,h,hk=>by simp[bldx] at h;subst h;exact⟨rfl,hk⟩
 | (i,x)::r,cs,l,h,hk=>by
  simp only[bldx] at h
  cases hx:ev fr x with
  | none=>rw[hx] at h;simp at h
  | some v=>
   rw[hx] at h
   simp only at h
   split at h
   ·rename_i d s ho hz
    split at h
    ·rename_i hl hat
     have hl':(cellsOf v).length=s:=by simpa using hl
     cases hput:zbx d (cellsOf v) cs with
     | none=>rw[hput] at h;simp at h
     | some l1=>
      rw[hput] at h
      simp only at h
      obtain⟨h1,h2⟩:=zb4 hf hx
      obtain⟨q1,q2,q3⟩:=zcJ _ _ _ _ hput
      have hk1:∀ u ∈ l1,ok1 ρ nx u:=fun u hu=>by
       obtain⟨j,hj⟩:=List.getElem?_of_mem hu
       rw[q3 j] at hj
       split at hj
       ·exact cells_ok' (zdd hat) h2 u (List.mem_of_getElem? hj)
       ·exact hk u (List.mem_of_getElem? hj)
      obtain⟨h3,h4⟩:=zg4 hf hp r l1 l h hk1
      refine⟨?_,h4⟩
      rw[List.map_cons]
      simp only
      rw[h1,fill_one (hp i d s ho hz) hl' hat hput]
      exact h3
    ·simp at h
   ·simp at h
theorem zmq {fs:List Field} (h:(fs.map fun f=>zeu P f.type).all (fun n=>Nat.blt 0 n)=true):∃ pl,fs.mapM (fun f=>(P.info? f.type).map fun i=>(f.offset,i.size))=some pl/\∀ i:Nat,pl[i]?=(fs[i]?).map fun (f:Field)=>(f.offset,zeu P f.type):=by
 induction fs with
 | nil=>exact⟨[],by simp,fun i=>by simp⟩
 | cons f fs ih=>
  simp only[List.map_cons,List.all_cons,Bool.and_eq_true] at h;obtain⟨pl,h1,h2⟩:=ih h.2;cases hi:P.info? f.type with
  | none=>have:=h.1;simp[zeu,hi] at this
  | some i=>
   refine⟨(f.offset,i.size)::pl,by simp[List.mapM_cons,hi,h1],fun k=>?_⟩;cases k with
   | zero=>simp[zeu,hi]
   | succ k=>simpa using h2 k
theorem zny {t:TypeId} {ti:TI} (ht:TIok P t ti) (hf:FrOk ρ fr nx a) {o1:Nat} {or:List Nat} (ho:ti.offs=o1::or) (hz:ti.fszs.all (fun n=>Nat.blt 0 n)=true) {parts:Array (Nat×Operand)} {l:List Value} (h:bldx ti fr parts.toList ti.zero=some l) :
  (Instr.build t (parts.map fun (i,x)=>(i,a.eval x))).run P w=.ok (den ρ (.agg l.toArray)) w/\okV ρ nx (.agg l.toArray):=by
 obtain⟨i,hi,hs,z,hz0,hzc⟩:=ht.size;obtain⟨d,hd,hrow,hdi⟩:=ht.desc;cases d with
 | struct fs=>
  simp only[zjc,Prod.mk.injEq] at hdi;obtain⟨e1,e2,-⟩:=hdi;rw[← e2] at hz;obtain⟨pl,hm,hget⟩:=zmq (P:=P) (fs:=fs.toList) hz;have hza:z.cells=(ti.zero.map (zal ρ)).toArray:=by
   apply Array.toList_inj.1
   rw[hzc];simp only[List.toList_toArray];conv=>lhs;rw[← List.map_id ti.zero]
   exact List.map_congr_left fun v hv=>(zaM (ht.zero v hv)).symm
  obtain⟨h1,h2⟩:=zg4 (ρ:=ρ) (nx:=nx) (a:=a) hf (ti:=ti) (place:=(pl.toArray[·]?)) (fun k d s hd hs=>by
   rw[← e1,List.getElem?_map] at hd
   rw[← e2,List.getElem?_map] at hs
   have:=hget k
   cases hfk:fs.toList[k]? with
   | none=>rw[hfk] at hd;simp at hd
   | some f=>
    rw[hfk] at hd hs this
    simp at hd hs this
    simp[this,hd,hs]) parts.toList ti.zero l h (fun v hv=>zbO (ht.zero v hv))
  refine⟨?_,fun u hu=>h2 u (by simpa using hu)⟩;rw[run_build w t _ (l.map (zal ρ)).toArray ?_]
  ·simp[den,zaW]
  ·unfold Program.built;simp only[hi,hd,hz0,hm];rw[hza];have:(parts.map fun (p:Nat×Operand)=>(p.1,a.eval p.2)).toList=parts.toList.map fun p=>(p.1,a.eval p.2):=by simp
   rw[this];exact h1
 | _=>simp[zjc,ho] at hdi
theorem zl9 {t:TypeId} {ti:TI} (ht:TIok P t ti) (hf:FrOk ρ fr nx a) (hb:Nat.blt 0 ti.arr=true) {parts:Array (Nat×Operand)} {l:List Value} (h:bldx (arTI ti) fr parts.toList ti.zero=some l) :
  (Instr.build t (parts.map fun (i,x)=>(i,a.eval x))).run P w=.ok (den ρ (.agg l.toArray)) w/\okV ρ nx (.agg l.toArray):=by
 obtain⟨i,hi,hs,z,hz0,hzc⟩:=ht.size;obtain⟨m,e,hu,hlt,hsz,-,hpos⟩:=ht.array hb;have hza:z.cells=(ti.zero.map (zal ρ)).toArray:=by
  apply Array.toList_inj.1
  rw[hzc];simp only[List.toList_toArray];conv=>lhs;rw[← List.map_id ti.zero]
  exact List.map_congr_left fun v hv=>(zaM (ht.zero v hv)).symm
 obtain⟨h1,h2⟩:=zg4 (ρ:=ρ) (nx:=nx) (a:=a) hf (ti:=arTI ti) (place:=fun k=>some (k * ti.ars,ti.ars)) (fun k d s hd hs=>by
  simp only[arTI,List.getElem?_map,List.getElem?_replicate] at hd hs
  by_cases hk:k<ti.arr
  ·simp[hk] at hd hs
   rw[← hd,← hs]
  ·simp[hk] at hs) parts.toList ti.zero l h (fun v hv=>zbO (ht.zero v hv))
 refine⟨?_,fun u hu=>h2 u (by simpa using hu)⟩;cases hie:P.info? e with
 | none=>
  have hs0:0=ti.ars:=by simpa [zeu,hie] using hsz
  omega
 | some ie=>
  have hsz':ie.size=ti.ars:=by simpa [zeu,hie] using hsz
  rw[run_build w t _ (l.map (zal ρ)).toArray ?_]
  ·simp[den,zaW]
  ·unfold Program.built;simp only[hi,hu,hz0,hie,hsz'];rw[hza];have:(parts.map fun (p:Nat×Operand)=>(p.1,a.eval p.2)).toList=parts.toList.map fun p=>(p.1,a.eval p.2):=by simp
   rw[this];exact h1
theorem zlH (hτ:zcl P τ) (hf:FrOk ρ fr nx a) (hm:∀ i b,lk mem i=some b->BlkOk C ρ nx i w b) {o:Oper} {v:Value} (h:vx τ fr mem o.op=some v) :
  (execOp a.eval o).run P w=.ok (.value (den ρ v)) w/\okV ρ nx v:=by
 obtain⟨dst,op,type,pos,after,guard⟩:=o;simp only at h;unfold execOp;cases op<;>simp only[vx] at h ⊢<;>try (simp at h;done)
 case makeFunc fn first cap=>
  cases fn<;>simp only[vx] at h<;>try (simp at h;done)
  rename_i f
  cases h1:evs fr first.toList with
  | none=>rw[h1] at h;simp at h
  | some fs=>
   cases h2:evs fr cap.toList with
   | none=>rw[h1,h2] at h;simp at h
   | some cs=>
    rw[h1,h2] at h;simp only at h;split at h
    ·rename_i ha hb
     simp at h;subst h;obtain⟨e1,k1⟩:=ze7 hf h1;obtain⟨e2,k2⟩:=ze7 hf h2;rw[List.all_eq_true] at ha hb;have d1:first.map a.eval=fs.toArray.map (zal ρ):=by
      apply Array.toList_inj.1
      simp only[Array.toList_map,e1];exact List.map_congr_left fun v hv=>zbU (ha v hv)
     have d2:cap.map a.eval=cs.toArray.map (zal ρ):=by
      apply Array.toList_inj.1
      simp only[Array.toList_map,e2];exact List.map_congr_left fun v hv=>zbU (hb v hv)
     refine⟨?_,fun v hv=>?_,fun v hv=>?_⟩
     ·rw[d1,d2];rfl
     ·have hv':v ∈ fs:=by simpa using hv
      rw[← zcV (ha v hv')];exact k1 v hv'
     ·have hv':v ∈ cs:=by simpa using hv
      rw[← zcV (hb v hv')];exact k2 v hv'
    ·simp at h
 case move x=>
  obtain⟨h1,h2⟩:=zb4 hf h;exact⟨by simp[h1],h2⟩
 case assign x=>
  obtain⟨h1,h2⟩:=zb4 hf h;exact⟨by simp[h1],h2⟩
 case pick c x y=>
  cases hc:ev fr c with
  | none=>rw[hc] at h;simp at h
  | some u=>
   rw[hc] at h;obtain⟨h1,-⟩:=zb4 hf hc;cases u<;>simp at h
   rename_i b
   cases b
   ·simp only at h;obtain⟨h3,h4⟩:=zb4 hf h;exact⟨by simp[h1,h3,asBool,den,zaW,zal],h4⟩
   ·simp only at h;obtain⟨h3,h4⟩:=zb4 hf h;exact⟨by simp[h1,h3,asBool,den,zaW,zal],h4⟩
 case load t x=>
  cases hc:ev fr x with
  | none=>rw[hc] at h;simp at h
  | some p=>
   rw[hc] at h;simp only at h;obtain⟨h1,h2⟩:=zb4 hf hc;obtain⟨h3,h4⟩:=zmD hτ hm h2 h;exact⟨by rw[h1];simp[h3],h4⟩
 case fieldAddr t x f=>
  cases hc:ev fr x with
  | none=>rw[hc] at h;simp at h
  | some p=>
   rw[hc] at h;simp only at h;obtain⟨h1,h2⟩:=zb4 hf hc;obtain⟨h3,h4⟩:=fax_run (w:=w) hτ h2 h;exact⟨by rw[h1];simp[h3],h4⟩
 case indexAddr t x i=>
  cases hc:ev fr x with
  | none=>rw[hc] at h;simp at h
  | some p=>
   cases hd:ev fr i with
   | none=>rw[hc,hd] at h;simp at h
   | some q=>
    rw[hc,hd] at h;simp only at h;obtain⟨h1,h2⟩:=zb4 hf hc;obtain⟨h3,-⟩:=zb4 hf hd;obtain⟨h4,h5⟩:=arx_run (w:=w) hτ h2 h;exact⟨by rw[h1,h3];simp[h4],h5⟩
 case index t x i=>
  cases hc:ev fr x with
  | none=>rw[hc] at h;simp at h
  | some p=>
   cases hd:ev fr i with
   | none=>rw[hc,hd] at h;simp at h
   | some q=>
    rw[hc,hd] at h;simp only at h;obtain⟨h1,h2⟩:=zb4 hf hc;obtain⟨h3,-⟩:=zb4 hf hd;obtain⟨h4,h5⟩:=ixx_run (w:=w) hτ h2 h;exact⟨by rw[h1,h3];simp[h4],h5⟩
 case field t x f=>
  cases hc:ev fr x with
  | none=>rw[hc] at h;simp at h
  | some p=>
   rw[hc] at h;simp only at h;obtain⟨h1,h2⟩:=zb4 hf hc;obtain⟨h3,h4⟩:=fdx_run (w:=w) hτ h2 h;exact⟨by rw[h1];simp[h3],h4⟩
 case convert s d x=>
  cases hc:ev fr x with
  | none=>rw[hc] at h;simp at h
  | some p=>
   rw[hc] at h;cases p<;>simp only at h<;>first | (simp at h;done) | skip
   rename_i k n
   cases hs:lk τ s with
   | none=>rw[hs] at h;simp at h
   | some si=>
    rw[hs] at h;cases hd:lk τ d with
    | none=>rw[hd] at h;simp at h
    | some di=>
     rw[hd] at h;simp only at h;cases hk:di.ik with
     | none=>rw[hk] at h;simp at h
     | some k2=>
      rw[hk] at h;simp at h;subst h;obtain⟨h1,-⟩:=zb4 hf hc;obtain⟨dd,hu,-⟩:=(hτ s si hs).desc;have hv:=(hτ d di hd).ikind hk;have h1':a.eval x=.int k n:=h1;refine⟨?_,trivial⟩;show _=Result.ok (Next.value (.int k2 (k2.wrap n))) w;simp[h1',convert,run_underlying hu,run_underlying hv,Conv.intToInt]
 case unOp uo t x=>
  cases uo<;>simp only[vx] at h<;>try (simp at h;done)
  case neg=>
   cases hc:ev fr x with
   | none=>rw[hc] at h;simp at h
   | some p=>
    rw[hc] at h;obtain⟨h1,-⟩:=zb4 hf hc;cases p<;>simp at h
    subst h;exact⟨by rw[h1];simp[Op.unary,Op.intArith,den,zaW,zal],trivial⟩
  case xor=>
   cases hc:ev fr x with
   | none=>rw[hc] at h;simp at h
   | some p=>
    rw[hc] at h;obtain⟨h1,-⟩:=zb4 hf hc;cases p<;>simp at h
    subst h;exact⟨by rw[h1];simp[Op.unary,Op.intBits,den,zaW,zal],trivial⟩
  cases hc:ev fr x with
  | none=>rw[hc] at h;simp at h
  | some p=>
   rw[hc] at h;obtain⟨h1,-⟩:=zb4 hf hc;cases p<;>simp at h
   subst h;exact⟨by rw[h1];simp[Op.unary,den,zaW,zal],trivial⟩
 case binOp bo t x y yt=>
  cases hc:ev fr x with
  | none=>rw[hc] at h;simp at h
  | some p=>
   rw[hc] at h;simp only at h;cases hd:ev fr y with
   | none=>rw[hd] at h;simp at h
   | some q=>
    rw[hd] at h;simp only at h;obtain⟨h1,hp1⟩:=zb4 hf hc;obtain⟨h2,-⟩:=zb4 hf hd;obtain⟨h3,h4⟩:=znF (P:=P) (ρ:=ρ) (nx:=nx) (w:=w) (x:=x) (y:=y) hτ hp1 h;refine⟨?_,h4⟩;rw[h1,h2];rw[Sem.run_bind,h3];simp
 case build t parts=>
  cases hti:lk τ t with
  | none=>rw[hti] at h;simp at h
  | some ti=>
   rw[hti] at h;simp only at h;split at h
   ·rename_i o1 or ho hz
    cases hb:bldx ti fr parts.toList ti.zero with
    | none=>rw[hb] at h;simp at h
    | some l=>
     rw[hb] at h;simp at h;subst h;obtain⟨h1,h2⟩:=zny (P:=P) (w:=w) (hτ t ti hti) hf ho hz hb;exact⟨by rw[Sem.run_bind,h1];rfl,h2⟩
   ·cases har:Nat.blt 0 ti.arr with
    | false=>rw[har] at h;simp at h
    | true=>
     rw[har] at h;simp only at h;cases hb:bldx (arTI ti) fr parts.toList ti.zero with
     | none=>rw[hb] at h;simp at h
     | some l=>
      rw[hb] at h;simp at h;subst h;obtain⟨h1,h2⟩:=zl9 (P:=P) (w:=w) (hτ t ti hti) hf har hb;exact⟨by rw[Sem.run_bind,h1];rfl,h2⟩
   ·simp at h
 case nilCheck x=>
  cases hc:ev fr x with
  | none=>rw[hc] at h;simp at h
  | some p=>
   rw[hc] at h;obtain⟨h1,h2⟩:=zb4 hf hc;cases p<;>first | (cases h;done) | skip
   rename_i q
   cases q with
   | none=>cases h
   | some ad=>
    cases h
    refine⟨?_,h2⟩;obtain⟨cb,co,hA⟩:=(show ∃ b o,(ρ ad.block).A=some ⟨b,o,none⟩ from h2.2.1);have e:den ρ (.pointer (some ad))=.pointer (some ⟨cb,co+ad.spot.getD 0 * (ρ ad.block).sz+ad.off,none⟩):=by simp[den,zaW,zal,zbG hA]
    rw[h1,e];simp
 case extract x i=>
  cases hc:ev fr x with
  | none=>rw[hc] at h;simp at h
  | some p=>
   rw[hc] at h;obtain⟨h1,h2⟩:=zb4 hf hc;cases p<;>simp only at h<;>try (simp at h;done)
   rename_i vs
   cases hi:vs[i]? with
   | none=>rw[hi] at h;simp at h
   | some u=>
    rw[hi] at h;simp only at h;have hu2:ok2 ρ nx u:=h2 u (Array.mem_of_getElem? hi);rcases zeE u with⟨cs,rfl⟩ | ⟨f,a',b,rfl⟩ | ⟨e1,e2⟩
    ·simp at h
    ·simp at h
    ·have:u=v:=by cases u<;>simp at h<;>exact h
     subst this;refine⟨?_,by rw[e2];exact hu2⟩;rw[h1,e1];have hd:den ρ (.tuple vs)=.tuple (vs.map (zaW ρ)):=rfl;rw[hd];simp only[Instr.extract,Array.getElem?_map,hi,Option.map_some];rfl
 case call c=>
  obtain⟨callee,args,argTypes⟩:=c;cases callee with
  | value f=>simp[vx] at h
  | invoke r m=>simp[vx] at h
  | builtin b=>
   cases b<;>simp only[vx] at h<;>try (simp at h;done)
   case len=>
    cases hc:evs fr args.toList with
    | none=>rw[hc] at h;simp at h
    | some vs=>
     rw[hc] at h;simp only at h;obtain⟨h1,h2⟩:=ze7 hf hc;have h1':args.map a.eval=(vs.map (den ρ)).toArray:=by apply Array.toList_inj.1;simp[h1]
     split at h
     ·rename_i t hts
      have hat:argTypes=#[t]:=by apply Array.toList_inj.1;simp[hts]
      cases hti:lk τ t with
      | none=>rw[hti] at h;simp at h
      | some ti=>
       rw[hti] at h;simp only at h;unfold lenx at h;split at h
       rotate_left
       ·rename_i s
        split at h
        ·rename_i hi hs
         simp at h;subst h;have hu:=(hτ t ti hti).str hi hs;refine⟨?_,trivial⟩;simp only[List.map_cons,List.map_nil] at h1';simp[execOp,resolve,invoke,builtin,h1',hat,Builtin.len_,run_underlying hu,den,zaW,zal,goInt]
        ·simp at h
       ·simp at h
       ·rename_i A n cp
        cases hsl:ti.sl with
        | false=>rw[hsl] at h;simp at h
        | true=>
         rw[hsl] at h;simp at h;subst h;obtain⟨e,hu,-⟩:=(hτ t ti hti).slice hsl;refine⟨?_,trivial⟩;have hds:∃ A',den ρ (.slice A n cp)=.slice A' n cp:=by
          cases A with
          | none=>exact⟨none,rfl⟩
          | some ad=>exact⟨_,rfl⟩
         obtain⟨A',hA'⟩:=hds;simp only[List.map_cons,List.map_nil,hA'] at h1';rw[show den ρ (.int .i64 n)=.int .i64 n from rfl];simp[resolve,invoke,builtin,h1',hat,Builtin.len_,run_underlying hu,goInt]
     ·simp at h
   case max=>
    cases hc:evs fr args.toList with
    | none=>rw[hc] at h;simp at h
    | some vs=>
     rw[hc] at h;simp only at h;obtain⟨h1,h2⟩:=ze7 hf hc;have h1':args.map a.eval=(vs.map (den ρ)).toArray:=by apply Array.toList_inj.1;simp[h1]
     unfold maxx at h;split at h
     ·simp at h;subst h;exact⟨by simp[resolve,invoke,builtin,h1',Builtin.max_,Builtin.max2,den,zaW,zal],trivial⟩
     ·simp at h
   case min=>
    cases hc:evs fr args.toList with
    | none=>rw[hc] at h;simp at h
    | some vs=>
     rw[hc] at h;simp only at h;obtain⟨h1,h2⟩:=ze7 hf hc;have h1':args.map a.eval=(vs.map (den ρ)).toArray:=by apply Array.toList_inj.1;simp[h1]
     unfold minx at h;split at h
     ·simp at h;subst h;exact⟨by simp[resolve,invoke,builtin,h1',Builtin.min_,Builtin.min2,den,zaW,zal],trivial⟩
     ·simp at h
end
abbrev CT:=List Value->AM->Nat->(Value->AM->Nat->Prop)->Prop
abbrev FT:=List (Nat×CT)
def plB:Value->Bool
 | .pointer (some _)=>false
 | .slice (some _) _ _=>false
 | .map (some _)=>false
 | _=>true
def zfE (el:Nat->List Value) (k:Nat) (l:List Value):Nat->List Value:=fun j=>match Nat.beq j k with | true=>l | false=>el j
def zku (fr:AF) (sz:Nat):Nat->List (Nat×Operand)->Option (List (List Value))
 | _,[]=>some []
 | p,(i,x)::r=>(match Nat.beq i p,ev fr x with
  | true,some v=>(match decide ((cellsOf v).length=sz),(cellsOf v).all zcW,(cellsOf v).all plB with
   | true,true,true=>(match zku fr sz (p+1) r with | some rs=>some (cellsOf v::rs) | none=>none)
   | _,_,_=>none)
  | _,_=>none)
def zel (d:Option Nat) (v:Value) (fr:AF) (K:AF->Prop):Prop:=match d with | some d=>K ((d,v)::fr) | none=>K fr
theorem zcB (d:Option Nat) (v:Value) (fr:AF) (K:AF->Prop):zel d v fr K=K (putF d v fr):=by cases d<;>rfl
def srcx (mem:AM) (sz:Nat) (x:Value) (k:Nat->(Nat->List Value)->Prop):Prop:=match x with
 | .slice none m _=>(match m with | 0=>k 0 (fun _=>[]) | _=>False)
 | .slice (some ⟨q,qo,qs⟩) m _=>(match qs with
  | none=>(match qo,lk mem q with
   | 0,some (.row _ sz' n2 el2)=>(match Nat.beq sz' sz with | true=>(m<=n2/\∀ k,k<m->(el2 k).all zcW=true)/\k m el2 | false=>False)
   | _,_=>False)
  | some k0=>(match lk mem q with
   | some (.ext (.fam _ sb))=>(match Nat.beq (sb k0 qo).sz sz with | true=>(m<=(sb k0 qo).n/\∀ k,k<m->((sb k0 qo).el k).all zcW=true)/\k m (sb k0 qo).el | false=>False)
   | _=>False))
 | _=>False
def appx (elt:TypeId) (te:TI) (eb:Nat) (s x:Value) (mem:AM) (nx:Nat) (K:Value->AM->Nat->Prop):Prop:=srcx mem te.size x fun m el2=>match s with
 | .slice none len cap=>(match len,cap with
  | 0,0=>(m=0->K (.slice none 0 0) mem nx)/\(m≠0->m * eb<=140737488355328/\∀ cap' el',(m<=cap'/\∀ k,m<=k->el' k=te.zero)->(∀ k,k<m->el' k=el2 k)->K (.slice (some ⟨nx,0,none⟩) m cap') ((nx,.row (1000000+elt) te.size cap' el')::mem) (nx+1))
  | _,_=>False)
 | .slice (some ⟨r,ro,rs⟩) len cap=>(match ro,rs,lk mem r with
  | 0,none,some (.row bt sz' n el)=>(match zc1 bt,Nat.beq sz' te.size with
   | true,true=>(cap=n/\len<=n)/\(len+m<=n->∀ el',((∀ k,k<len->el' k=el k)/\∀ k,n<=k->el' k=te.zero)->(∀ k,k<m->el' (len+k)=el2 k)->K (.slice (some ⟨r,0,none⟩) (len+m) n) ((r,.row bt sz' n el')::mem) nx)/\
    (n<len+m->(len+m) * eb<=140737488355328/\∀ cap' el',(len+m<=cap'/\∀ k,len+m<=k->el' k=te.zero)->(∀ k,k<len->el' k=el k)->(∀ k,k<m->el' (len+k)=el2 k)->K (.slice (some ⟨nx,0,none⟩) (len+m) cap') ((nx,.row (1000000+elt) te.size cap' el')::mem) (nx+1))
   | _,_=>False)
  | _,_,_=>False)
 | _=>False
def actx (τ:TT) (F:FT) (dst:Option Nat) (op:Op) (fr:AF) (mem:AM) (nx:Nat) (K:AF->AM->Nat->Prop):Prop:=
 match op with
 | .alloc t=>(match lk τ t with
  | some ti=>zel dst (.pointer (some ⟨nx,0,none⟩)) fr fun fr'=>K fr' ((nx,.box t ti.zero)::mem) (nx+1)
  | none=>False)
 | .box t x=>(match ev fr x with
  | some v=>(match v with
   | .tuple _=>False
   | .func _ _ _=>False
   | v=>zel dst (.pointer (some ⟨nx,0,none⟩)) fr fun fr'=>K fr' ((nx,.box t (cellsOf v))::mem) (nx+1))
  | none=>False)
 | .store t x y=>(match ev fr x,ev fr y,lk τ t with
  | some (.pointer (some ⟨ab,ao,as_⟩)),some v,some ti=>(match lk mem ab,as_ with
   | some (.box bt cs),none=>(match decide ((cellsOf v).length=ti.size),(cellsOf v).all zcW,zbx ao (cellsOf v) cs,dst with
    | true,true,some l,none=>K fr ((ab,.box bt l)::mem) nx
    | _,_,_,_=>False)
   | some (.row bt sz n el),some k=>(match decide ((cellsOf v).length=ti.size),(cellsOf v).all zcW,(cellsOf v).all plB,zc1 bt,dst with
    | true,true,true,true,none=>∃ l,zbx ao (cellsOf v) (el k)=some l/\K fr ((ab,.row bt sz n (zfE el k l))::mem) nx
    | _,_,_,_,_=>False)
   | _,_=>False)
  | _,_,_=>False)
 | .buildSlice t len parts=>(match lk τ t with
  | some ti=>(match ti.sl,ti.eb,lk τ ti.elt with
   | true,_+1,some te=>(match te.size,zku fr te.size 0 parts.toList with
    | _+1,some rs=>(match Nat.beq rs.length len,Nat.ble (len * te.size) 16777216 with
     | true,true=>zel dst (.slice (some ⟨nx,0,none⟩) len len) fr fun fr'=>K fr' ((nx,.row (1000000+ti.elt) te.size len (fun k=>rs.getD k []))::mem) (nx+1)
     | _,_=>False)
    | _,_=>False)
   | _,_,_=>False)
  | none=>False)
 | .makeSlice t x y=>(match ev fr x,ev fr y,lk τ t with
  | some (.int _ n),some (.int _ n'),some ti=>(match ti.sl,ti.eb,lk τ ti.elt with
   | true,eb+1,some te=>(match te.size,Nat.beq te.zero.length te.size with
    | _+1,true=>(n<=n'/\0<=n/\n' * ((eb+1:Nat):Int)<=281474976710656)/\zel dst (.slice (some ⟨nx,0,none⟩) n.toNat n'.toNat) fr fun fr'=>K fr' ((nx,.row (1000000+ti.elt) te.size n'.toNat (fun _=>te.zero))::mem) (nx+1)
    | _,_=>False)
   | _,_,_=>False)
  | _,_,_=>False)
 | .indexAddr t x i=>(match ev fr x,ev fr i,lk τ t with
  | some (.slice (some ⟨ab,ao,as_⟩) n _),some (.int _ k),some ti=>(match lk mem ab with
   | some (.row _ sz n' _)=>(match ao,as_,ti.sl,ti.esz,Nat.beq ti.esz sz with
    | 0,none,true,_+1,true=>(n<=n'/\0<=k/\k<n)/\zel dst (.pointer (some ⟨ab,0,some k.toNat⟩)) fr fun fr'=>K fr' mem nx
    | _,_,_,_,_=>False)
   | _=>False)
  | _,_,_=>False)
 | .binOp bo t x y _=>(match ev fr x,ev fr y with
  | some (.int k b),some (.int k' c)=>(match bo with
   | .shl=>0<=c/\zel dst (.int k (k.wrap (b * 2 ^ min c.toNat k.bits))) fr fun fr'=>K fr' mem nx
   | .shr=>0<=c/\zel dst (.int k (b.fdiv (2 ^ min c.toNat k.bits))) fr fun fr'=>K fr' mem nx
   | .quo=>(k=k'/\c≠0)/\zel dst (.int k (k.wrap (b.tdiv c))) fr fun fr'=>K fr' mem nx
   | .rem=>(k=k'/\c≠0)/\zel dst (.int k (b.tmod c)) fr fun fr'=>K fr' mem nx
   | _=>False)
  | _,_=>False)
 | .slice t x none (some y) none=>(match ev fr x,ev fr y,lk τ t with
  | some (.slice A _ cap),some (.int _ h),some ti=>(match ti.sl,ti.esz with
   | true,_+1=>(0<=h/\h<=cap)/\zel dst (.slice A h.toNat cap) fr fun fr'=>K fr' mem nx
   | _,_=>False)
  | _,_,_=>False)
 | .call { callee:=.builtin .append,args,argTypes }=>(match evs fr args.toList,argTypes.toList with
  | some [s,x],[t,tx]=>(match lk τ t,lk τ tx with
   | some ti,some tj=>(match ti.sl,tj.sl,ti.eb,lk τ ti.elt with
    | true,true,eb+1,some te=>(match te.size,Nat.beq te.zero.length te.size with
     | _+1,true=>appx ti.elt te (eb+1) s x mem nx (fun v mem' nx'=>zel dst v fr fun fr'=>K fr' mem' nx')
     | _,_=>False)
    | _,_,_,_=>False)
   | _,_=>False)
  | _,_=>False)
 | .call { callee:=.value (.func f),args,.. }=>(match evs fr args.toList,lk F f with
  | some vs,some ct=>ct vs mem nx (fun v mem' nx'=>zel dst v fr fun fr'=>K fr' mem' nx')
  | _,_=>False)
 | .call { callee:=.value (.tmp t),args,.. }=>(match lk fr t with
  | some (.func (.func f) fs cs)=>(match evs fr args.toList,lk F f,fs.toList.all zcW,cs.toList.all zcW with
   | some vs,some ct,true,true=>ct (fs.toList++(vs++cs.toList)) mem nx (fun v mem' nx'=>zel dst v fr fun fr'=>K fr' mem' nx')
   | _,_,_,_=>False)
  | _=>False)
 | _=>False
/-! Operations on wider blocks. -/
def emptySB:SB:=⟨0,0,fun _=>[]⟩
def zgs (fr:AF) (sz:Nat):Nat->List (Nat×Operand)->Option (List (List Value))
 | _,[]=>some []
 | p,(i,x)::r=>(match Nat.beq i p,ev fr x with
  | true,some v=>(match decide ((cellsOf v).length=sz),(cellsOf v).all zcW with
   | true,true=>(match zgs fr sz (p+1) r with | some rs=>some (cellsOf v::rs) | none=>none)
   | _,_=>none)
  | _,_=>none)
def dpT (te:TI):Bool:=te.zero.any fun v=>match v with | .slice _ _ _=>true | _=>false
def noFam:ABlk:=.ext (.fam 0 (fun _ _=>emptySB))
def appb (elt:TypeId) (te:TI) (eb:Nat) (s x:Value) (mem:AM) (nx:Nat) (K:Value->AM->Nat->Prop):Prop:=match x with
 | .slice (some ⟨q,qo,qs⟩) m _=>(match qo,qs,lk mem q with
  | 0,none,some (.box _ cs2)=>(match zdY 0 (m * te.size) cs2 with
   | some l2=>l2.all zcW=true/\(match s with
    | .slice none len cap=>(match len,cap with
     | 0,0=>(m≠0/\m * eb<=140737488355328)/\∀ cap' tl,(m<=cap'/\tl.length=(cap' - m) * te.size/\∀ v ∈ tl,zam v)->K (.slice (some ⟨nx,0,none⟩) m cap') ((nx,.box elt (l2++tl))::mem) (nx+1)
     | _,_=>False)
    | .slice (some ⟨r,ro,rs⟩) len cap=>(match ro,rs,lk mem r with
     | 0,none,some (.box bt cs)=>(match Nat.beq bt elt,Nat.beq r q,zdY 0 (len * te.size) cs with
      | true,false,some l1=>(m≠0/\cap * te.size=cs.length/\(len+m) * eb<=140737488355328/\∀ v ∈ cs.drop (len * te.size),zam v)/\∀ cap' tl,(len+m<=cap'/\tl.length=(cap' - (len+m)) * te.size/\∀ v ∈ tl,zam v)->K (.slice (some ⟨nx,0,none⟩) (len+m) cap') ((nx,.box elt (l1++l2++tl))::(r,noFam)::mem) (nx+1)
      | _,_,_=>False)
     | _,_,_=>False)
    | _=>False)
   | none=>False)
  | _,_,_=>False)
 | _=>False
def acty (τ:TT) (dst:Option Nat) (op:Op) (fr:AF) (mem:AM) (nx:Nat) (K:AF->AM->Nat->Prop):Prop:=
 match op with
 | .buildSlice t len parts=>(match lk τ t with
  | some ti=>(match ti.sl,ti.eb,lk τ ti.elt with
   | true,_+1,some te=>(match te.size,zgs fr te.size 0 parts.toList,te.isP||te.bx with
    | _+1,some rs,true=>(match Nat.beq rs.length len,Nat.ble (len * te.size) 16777216 with
     | true,true=>zel dst (.slice (some ⟨nx,0,none⟩) len len) fr fun fr'=>K fr' ((nx,.box ti.elt rs.flatten)::mem) (nx+1)
     | _,_=>False)
    | _,_,_=>False)
   | _,_,_=>False)
  | none=>False)
 | .indexAddr t x i=>(match ev fr x,ev fr i,lk τ t with
  | some (.slice (some ⟨q,o,s⟩) n _),some (.int _ k),some ti=>(match s,lk mem q with
   | none,some (.box _ _)=>(match o,k,ti.sl,ti.esz with
    | 0,.ofNat kk,true,ez+1=>(match Nat.blt kk n with | true=>zel dst (.pointer (some ⟨q,kk * (ez+1),none⟩)) fr fun fr'=>K fr' mem nx | false=>False)
    | _,_,_,_=>False)
   | _,_=>False)
  | _,_,_=>False)
 | .slice t x (some lo) hi none=>(match ev fr x,ev fr lo,lk τ t with
  | some (.slice (some ⟨r,0,none⟩) len cap),some (.int _ l),some ti=>(match ti.sl,ti.esz,(match hi with | none=>some (Value.int .i64 len) | some y=>ev fr y) with
   | true,_+1,some (.int _ h)=>(match lk mem r with
    | some (.row tr sz n el)=>(match zc1 tr,Nat.beq ti.esz sz with
     | false,true=>(0<=l/\l<=h/\h<=cap)/\∃ n2 el2,(n2+l.toNat<=n/\n2+l.toNat<=cap/\∀ j,j<n2->el2 j=el (l.toNat+j))/\zel dst (.slice (some ⟨nx,0,none⟩) (h.toNat-l.toNat) (cap-l.toNat)) fr fun fr'=>K fr' ((nx,.row tr sz n2 el2)::mem) (nx+1)
     | _,_=>False)
    | _=>False)
   | _,_,_=>False)
  | some (.slice none 0 0),some (.int _ (.ofNat 0)),some ti=>(match ti.sl,ti.esz,hi with
   | true,_+1,none=>zel dst (.slice none 0 0) fr fun fr'=>K fr' mem nx
   | _,_,_=>False)
  | _,_,_=>False)
 | .call { callee:=.builtin .append,args,argTypes }=>(match evs fr args.toList,argTypes.toList with
  | some [s,x],[t,tx]=>(match lk τ t,lk τ tx with
   | some ti,some tj=>(match ti.sl,tj.sl,ti.eb,lk τ ti.elt with
    | true,true,eb+1,some te=>(match te.size,Nat.beq te.zero.length te.size with
     | _+1,true=>(match te.isP||te.bx with
      | false=>False
      | true=>appb ti.elt te (eb+1) s x mem nx (fun v mem' nx'=>zel dst v fr fun fr'=>K fr' mem' nx'))
     | _,_=>False)
    | _,_,_,_=>False)
   | _,_=>False)
  | _,_=>False)
 | _=>False
def eltD (τ:TT) (t:TypeId):Bool:=match lk τ t with
 | some ti=>(match lk τ ti.elt with | some te=>ti.sl&&(dpT te||te.isP||te.bx) | none=>false)
 | none=>false
def isY (τ:TT) (fr:AF) (mem:AM) (op:Op):Bool:=match op with
 | .buildSlice t _ _=>eltD τ t
 | .store _ x _=>(match ev fr x with
  | some (.pointer (some ⟨r,_,_⟩))=>(match lk mem r with | some (.ext _)=>true | _=>false)
  | _=>false)
 | .indexAddr _ x _=>(match ev fr x with
  | some (.slice (some ⟨r,_,_⟩) _ _)=>(match lk mem r with | some (.ext _)=>true | some (.box _ _)=>true | _=>false)
  | _=>false)
 | .slice _ _ (some _) _ _=>true
 | .makeMap _ _=>true
 | .mapUpdate _ _ _ _=>true
 | .insert _ _ _ _=>true
 | .lookup _ _ _ _=>true
 | .call { callee:=.builtin .append,argTypes,.. }=>(match argTypes.toList with | t::_=>eltD τ t | _=>false)
 | _=>false
def opx (τ:TT) (F:FT) (o:Oper) (fr:AF) (mem:AM) (nx:Nat) (K:AF->AM->Nat->Prop):Prop:=
 match o with
 | ⟨dst,op,_,_,_,_⟩=>(match vx τ fr mem op with
  | some v=>zel dst v fr fun fr'=>K fr' mem nx
  | none=>(match isY τ fr mem op with
   | true=>acty τ dst op fr mem nx K
   | false=>actx τ F dst op fr mem nx K))
def Ext (ρ:Nat->Pl) (nx:Nat) (ρ':Nat->Pl) (nx':Nat):Prop:=(∀ i,i<nx->(ρ i).res=false->ρ' i=ρ i)/\nx<=nx'
theorem Ext.refl (ρ:Nat->Pl) (nx:Nat):Ext ρ nx ρ nx:=⟨fun _ _ _=>rfl,nl_⟩
theorem Ext.set (ρ:Nat->Pl) (nx:Nat) (p:Pl):Ext ρ nx (zac ρ nx p) (nx+1):=⟨fun _ hi _=>za8 ρ _ hi,Nat.le_succ _⟩
theorem Ext.trans {ρ1 ρ2 ρ3:Nat->Pl} {n1 n2 n3:Nat} (h:Ext ρ1 n1 ρ2 n2) (k:Ext ρ2 n2 ρ3 n3):Ext ρ1 n1 ρ3 n3:=
 ⟨fun i hi hr=>by
  have e:=h.1 i hi hr
  rw[k.1 i (Nat.lt_of_lt_of_le hi h.2) (by rw[e];exact hr),e],Nat.le_trans h.2 k.2⟩
def ExtS (ρ:Nat->Pl) (nx:Nat) (ρ':Nat->Pl) (nx':Nat):Prop:=(∀ i,i<nx->ρ' i=ρ i)/\nx<=nx'
theorem ExtS.refl (ρ:Nat->Pl) (nx:Nat):ExtS ρ nx ρ nx:=⟨fun _ _=>rfl,nl_⟩
theorem ExtS.set (ρ:Nat->Pl) (nx:Nat) (p:Pl):ExtS ρ nx (zac ρ nx p) (nx+1):=⟨fun _ hi=>za8 ρ _ hi,Nat.le_succ _⟩
theorem ExtS.ext {ρ1 ρ2:Nat->Pl} {n1 n2:Nat} (h:ExtS ρ1 n1 ρ2 n2):Ext ρ1 n1 ρ2 n2:=⟨fun i hi _=>h.1 i hi,h.2⟩
theorem ExtS.trans {ρ1 ρ2 ρ3:Nat->Pl} {n1 n2 n3:Nat} (h:ExtS ρ1 n1 ρ2 n2) (k:ExtS ρ2 n2 ρ3 n3):ExtS ρ1 n1 ρ3 n3:=
 ⟨fun i hi=>(k.1 i (Nat.lt_of_lt_of_le hi h.2)).trans (h.1 i hi),Nat.le_trans h.2 k.2⟩
structure CSound (P:Program) (f:FuncId) (ct:CT):Prop where
 ent : (P.funcs[f]?).map (fun fn => (fn.name == "runtime.NumGoroutine", fn.body.isNone)) = some (false, false)
 run:∀ {C:Ctx} {ρ:Nat->Pl} {fr:AF} {mem:AM} {nx:Nat} {a:Act} {w:World} {vs:List Value} {K:Value->AM->Nat->Prop},ct vs mem nx K->Sat C ρ fr mem nx a w->(∀ v ∈ vs,okV ρ nx v)->
  Calls P f (vs.map (den ρ)).toArray w fun e w'=>∃ v mem' nx' ρ',e=.returned (den ρ' v)/\K v mem' nx'/\Sat C ρ' fr mem' nx' a w'/\okV ρ' nx' v/\ExtS ρ nx ρ' nx'
def FTok (P:Program) (F:FT):Prop:=∀ f ct,lk F f=some ct->CSound P f ct
structure CSoundC (P:Program) (f:FuncId) (ct:CT) (C:Ctx):Prop where
 ent : (P.funcs[f]?).map (fun fn => (fn.name == "runtime.NumGoroutine", fn.body.isNone)) = some (false, false)
 run:∀ {ρ:Nat->Pl} {fr:AF} {mem:AM} {nx:Nat} {a:Act} {w:World} {vs:List Value} {K:Value->AM->Nat->Prop},ct vs mem nx K->Sat C ρ fr mem nx a w->(∀ v ∈ vs,okV ρ nx v)->
  Calls P f (vs.map (den ρ)).toArray w fun e w'=>∃ v mem' nx' ρ',e=.returned (den ρ' v)/\K v mem' nx'/\Sat C ρ' fr mem' nx' a w'/\okV ρ' nx' v/\ExtS ρ nx ρ' nx'
theorem CSound.at {P:Program} {f:FuncId} {ct:CT} (h:CSound P f ct) (C:Ctx):CSoundC P f ct C:=⟨h.ent,fun hc hs hv=>h.run hc hs hv⟩
def zab (P:Program) (I:List Nat) (f:FuncId) (ct:CT):Prop:=∀ C:Ctx,(C.fm=[]∨I.contains f=false)->CSoundC P f ct C
def zaY (P:Program) (F:FT) (I:List Nat):Prop:=∀ f ct,lk F f=some ct->zab P I f ct
theorem CSound.i {P:Program} {f:FuncId} {ct:CT} (h:CSound P f ct) (I:List Nat):zab P I f ct:=fun C _=>h.at C
theorem FTok.i {P:Program} {F:FT} (h:FTok P F) (I:List Nat):zaY P F I:=fun f ct hl=>(h f ct hl).i I
theorem za3 {P:Program} {I:List Nat}:zaY P [] I:=fun f ct h=>by simp[lk] at h
theorem za0 {P:Program} {I:List Nat} {f:Nat} {ct:CT} {F:FT} (h:zab P I f ct) (hr:zaY P F I):zaY P ((f,ct)::F) I:=fun g c hl=>by
 rcases za5 hl with⟨rfl,rfl⟩ | ⟨_,hl⟩
 ·exact h
 ·exact hr g c hl
def zgT (I:List Nat) (op:Op):Bool:=match op with
 | .call { callee:=.value (.func f),.. }=>!I.contains f
 | .call { callee:=.value (.tmp _),.. }=>false
 | _=>true
section
variable {P:Program} {τ:TT} {F:FT} {C:Ctx} {ρ:Nat->Pl} {fr:AF} {mem:AM} {nx:Nat} {a:Act} {w:World} {Q:Exit->Act->World->Prop}
theorem zi9 {v:Value} (h:nt v=true):(den ρ v).cells=((cellsOf v).map (zal ρ)).toArray:=by
 cases v with
 | agg cs=>apply Array.toList_inj.1;simp[den,zaW,Value.cells,cellsOf]
 | tuple vs=>cases h
 | func f a b=>cases h
 | pointer p=>cases p<;>rfl
 | slice p n c=>cases p<;>rfl
 | map p=>cases p<;>rfl
 | _=>rfl
theorem zk3 {v:Value} (h:nt v=true) (hv:okV ρ nx v):∀ u ∈ cellsOf v,ok1 ρ nx u:=by
 cases v with
 | agg cs=>intro u hu;exact hv u (by simpa [cellsOf] using hu)
 | tuple vs=>cases h
 | func f a b=>cases h
 | _=>intro u hu;simp[cellsOf] at hu;subst hu;exact hv
theorem zfq {v:Value} (h:zcW v=true):(zal ρ v).oneCell'=true:=by
 cases v with
 | agg cs=>simp[zcW] at h
 | tuple cs=>simp[zcW] at h
 | func f a b=>simp[zcW] at h
 | pointer p=>cases p<;>rfl
 | slice p n c=>cases p<;>rfl
 | map p=>cases p<;>rfl
 | _=>rfl
theorem zhu {t:TypeId} {ti:TI} (ht:TIok P t ti) {g o:Nat} {v:Value} (hnt:nt v=true) (hl:(cellsOf v).length=ti.size) (hat:(cellsOf v).all zcW=true) (hth:w.there g o (cellsOf v).length) :
  (Instr.storeAt t (.pointer (some ⟨g,o,none⟩)) (den ρ v)).run P w=.ok () (w.setCells g o ((cellsOf v).map (zal ρ))):=by
 obtain⟨i,hi,hs,-⟩:=ht.size;have hc:=zi9 (ρ:=ρ) hnt;have:=run_storeCells_cells (P:=P) g o ((cellsOf v).map (zal ρ)) 0 w (fun j hj=>by simpa using (hth j (by simpa using hj)).1) (fun j hj=>by simpa using (hth j (by simpa using hj)).2)
  (fun u hu=>by
   obtain⟨x,hx,rfl⟩:=List.mem_map.1 hu
   exact zfq (List.all_eq_true.1 hat x hx))
 simp only[Nat.add_zero] at this;simp[Instr.storeAt,Instr.sureAddr,storeVar,sizeOf,typeInfo,hi,hc,hs,hl,this]
theorem zcp (C:Ctx) {g:Nat} (hg:C.w0.heap.size<=g∨g ∈ C.bor):∀ (vs:List Value) {w:World} (o:Nat),Rest C w->Rest C (w.setCells g o vs)
 | [],w,o,h=>h
 | v::r,w,o,h=>by
  rw[World.setCells]
  refine zcp C hg r (o+1) ⟨h.os,h.tape,h.output,by simpa [World.setCell] using h.size,fun b hb hn=>?_⟩
  rw[Below.heap_setCell w ⟨g,o,none⟩ v b (by
   show b≠g
   rintro rfl
   rcases hg with hg | hg
   ·omega
   ·exact hn hg)]
  exact h.block b hb hn
theorem RowA.far {S:Nat->Prop} {w':World} {t:TypeId} {b off:Nat} (h:RowA S w t b off) (hs:w.heap.size<=w'.heap.size) (hb:w'.heap[b]?=w.heap[b]?):RowA S w' t b off:=
 ⟨Nat.lt_of_lt_of_le h.lt hs,fun ho=>by obtain⟨h1,h2,ty,cs,h3⟩:=h.own ho;exact⟨h1,h2,ty,cs,hb.trans h3⟩,h.new⟩
theorem Sat.write (h:Sat C ρ fr mem nx a w) {i:Nat} {b b':ABlk} {w':World} (hb0:lk mem i=some b) (hs:w'.heap.size=w.heap.size) (hfar:∀ g,¬ bwr ρ i b g->w'.heap[g]?=w.heap[g]?) (hok:BlkOk C ρ nx i w' b') (hr:∀ g,brd ρ i b' g->brd ρ i b g) (hw:∀ g,bwr ρ i b' g->bwr ρ i b g) (hrest:Rest C w') :
  Sat C ρ fr ((i,b')::mem) nx a w':=by
 have hb:=za9 (r:=C.fm) hb0;refine⟨h.fok,h.sz,h.dfr,fun j c hj=>?_,fun j c hj=>?_,fun j k b1 b2 hne hj hk=>?_,h.n0,h.low,hrest⟩
 ·rcases za5 hj with⟨rfl,rfl⟩ | ⟨hne,hj⟩
  ·exact h.mlt i _ hb
  ·exact h.mlt j c hj
 ·rcases za5 hj with⟨rfl,rfl⟩ | ⟨hne,hj⟩
  ·exact hok
  ·exact (h.blk j c hj).far o_ fun g hg=>hfar g fun hg2=>(h.sep i j _ _ hne hb hj).wr (h.sep j i _ _ (Ne.symm hne) hj hb) hg2 hg
 ·rcases za5 hj with⟨rfl,rfl⟩ | ⟨hnj,hj⟩
  ·rcases za5 hk with⟨rfl,rfl⟩ | ⟨hnk,hk⟩
   ·exact absurd rfl hne
   ·exact hok.apart fun g hg hg2=>(h.sep i k _ _ hne hb hk).wr (h.sep k i _ _ (Ne.symm hne) hk hb) (hw g hg) hg2
  ·rcases za5 hk with⟨rfl,rfl⟩ | ⟨hnk,hk⟩
   ·exact (h.blk j b1 hj).apart fun g hg hg2=>(h.sep j i _ _ hne hj hb).wr (h.sep i j _ _ (Ne.symm hne) hb hj) hg (hr g hg2)
   ·exact h.sep j k b1 b2 hne hj hk
theorem Sat.store (h:Sat C ρ fr mem nx a w) {i g o:Nat} {t:TypeId} {cs vs l:List Value} (hb0:lk mem i=some (.box t cs)) (hA:(ρ i).A=some ⟨g,0,none⟩) (hp:zbx o vs cs=some l) (hv:∀ v ∈ vs,ok1 ρ nx v) :
  Sat C ρ fr ((i,.box t l)::mem) nx a (w.setCells g o (vs.map (zal ρ))):=by
 have hb:=za9 (r:=C.fm) hb0;obtain⟨g',hA',hblk,hbase,hcs⟩:=h.blk i _ hb;have hgg:g'=g:=by rw[hA] at hA';cases hA';rfl
 subst hgg;refine h.write hb0 (zbZ _ _) (fun b hb=>zce _ _ b fun q=>hb (by simp[bwr,bno,hA',q])) ⟨g',hA',?_,hbase,fun u hu=>?_⟩ (fun g hg=>hg) (fun g hg=>hg) (zcp C hbase _ _ h.rest)
 ·have:=hblk.setCells (vs.map (zal ρ)) o;rw[zjH hp] at this;exact this
 ·obtain⟨h1,h2,h3⟩:=zcJ _ _ _ _ hp;obtain⟨j,hj⟩:=List.getElem?_of_mem hu;rw[h3 j] at hj;split at hj
  ·exact hv u (List.mem_of_getElem? hj)
  ·exact hcs u (List.mem_of_getElem? hj)
theorem plB_ok {v:Value} (h:plB v=true):zam v:=by
 cases v with
 | pointer p=>cases p<;>simp_all [plB,zam]
 | slice p n c=>cases p<;>simp_all [plB,zam]
 | map p=>cases p<;>simp_all [plB,zam]
 | _=>trivial
theorem Sat.storeRow (h:Sat C ρ fr mem nx a w) {i k o:Nat} {t:TypeId} {sz n:Nat} {el:Nat->List Value} {vs l:List Value} (hb0:lk mem i=some (.row t sz n el)) (ho:zc1 t=true) (hk:k<n) (hp:zbx o vs (el k)=some l) (hv:∀ v ∈ vs,zam v) :
  ∃ g,(ρ i).A=some ⟨g,0,none⟩/\(ρ i).sz=sz/\w.there g (k * sz+o) vs.length/\Sat C ρ fr ((i,.row t sz n (zfE el k l))::mem) nx a (w.setCells g (k * sz+o) (vs.map (zal ρ))):=by
 have hb:=za9 (r:=C.fm) hb0;obtain⟨⟨hsz,hnn⟩,hpl,hrow⟩:=h.blk i _ hb;rcases hrow with h0 | ⟨g,off,hA,hat,hc⟩
 ·omega
 obtain⟨rfl,hbase,ty,cs,hblk⟩:=hat.own ho;obtain⟨q1,q2,q3⟩:=zcJ _ _ _ _ hp;have hlen:=(hpl k hk).1;have hdv:vs.map (zal ρ)=vs:=by
  conv=>rhs;rw[← List.map_id vs]
  exact List.map_congr_left fun v hv'=>zaM (hv v hv')
 have hin:∀ k',k'<n->∀ j,j<sz->k' * sz+j<cs.size:=fun k' hk' j hj=>by
  obtain⟨v,hv'⟩:∃ v,(el k')[j]?=some v:=⟨_,List.getElem?_eq_getElem (by rw[(hpl k' hk').1];exact hj)⟩;have:=hc k' hk' j v hv';rw[Nat.zero_add,hblk.cell] at this;rcases Nat.lt_or_ge (k' * sz+j) cs.size with q | q
  ·exact q
  ·rw[Array.getElem?_eq_none q] at this;cases this
 have hfar:∀ b,b≠g->(w.setCells g (k * sz+o) (vs.map (zal ρ))).heap[b]?=w.heap[b]?:=fun b hb=>zce _ _ b hb
 have hblk2:=hblk.setCells (vs.map (zal ρ)) (k * sz+o);rw[hdv] at hblk2;refine⟨g,hA,hsz,?_,?_⟩
 ·by_cases h0:vs.length=0
  ·intro j hj;omega
  ·exact hblk.there _ _ (by have:=hin k hk (o+vs.length-1) o_;omega)
 refine h.write hb0 (zbZ _ _) (fun b hb=>hfar b fun q=>hb ⟨ho,o_,by simp[bno,hA,q]⟩) ?_ (fun g hg=>hg) (fun g hg=>hg) (zcp C hbase _ _ h.rest);have hel:∀ k',zfE el k l k'=if k'=k then l else el k':=fun k'=>by
   unfold zfE;by_cases hkk:k'=k
   ·subst hkk;rw[Nat.beq_refl,if_pos rfl]
   ·have:Nat.beq k' k=false:=by
     cases hbb:Nat.beq k' k
     ·rfl
     ·exact absurd (Nat.eq_of_beq_eq_true hbb) hkk
    rw[this,if_neg hkk]
 refine⟨⟨hsz,hnn⟩,fun k' hk'=>?_,.inr ⟨g,0,hA,⟨by rw[zbZ];exact hat.lt,fun _=>⟨rfl,hbase,ty,_,by rw[hdv];exact hblk2⟩,fun _=>hbase⟩,fun k' hk' j v hj=>?_⟩⟩
 ·rw[hel];by_cases hkk:k'=k
  ·subst hkk;rw[if_pos rfl];refine⟨by rw[q1];exact hlen,fun u hu=>?_⟩;obtain⟨j,hj⟩:=List.getElem?_of_mem hu;rw[q3 j] at hj;split at hj
   ·exact hv u (List.mem_of_getElem? hj)
   ·exact (hpl _ hk').2 u (List.mem_of_getElem? hj)
  ·rw[if_neg hkk];exact hpl k' hk'
 ·rw[hel] at hj;rw[Nat.zero_add,hdv,hblk2.cell,zdx];by_cases hkk:k'=k
  ·subst hkk;rw[if_pos rfl] at hj;have hjs:j<sz:=by
    have:=(List.getElem?_eq_some_iff.1 hj).1;omega
   rw[q3 j] at hj;by_cases hr:o<=j/\j<o+vs.length
   ·rw[if_pos hr] at hj;rw[if_pos ⟨o_,o_,hin k' hk' j hjs⟩,← hj];congr 1
    omega
   ·rw[if_neg hr] at hj;rw[if_neg o_];have:=hc k' hk' j v hj;rw[Nat.zero_add,hblk.cell] at this;exact this
  ·rw[if_neg hkk] at hj;have hjs:j<sz:=by
    have:=(List.getElem?_eq_some_iff.1 hj).1;rw[(hpl k' hk').1] at this;exact this
   have hout:¬ (k * sz+o<=k' * sz+j/\k' * sz+j<k * sz+o+vs.length/\k' * sz+j<cs.size):=by
    rintro⟨r1,r2,-⟩;rcases Nat.lt_or_gt_of_ne hkk with hlt | hgt
    ·have:=Nat.mul_le_mul_right sz (show k'+1<=k by omega);rw[Nat.add_mul] at this;omega
    ·have:=Nat.mul_le_mul_right sz (show k+1<=k' by omega);rw[Nat.add_mul] at this;omega
   rw[if_neg hout];have:=hc k' hk' j v hj;rw[Nat.zero_add,hblk.cell] at this;exact this
end
end Go.Proofs.YtjnndjnpcelafaaGreat
