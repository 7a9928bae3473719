import Derived.Test.YtchhdflealgkaaaGreatPo01
import Derived.Laws.Tables
namespace Go.Proofs.YtchhdflealgkaaaGreat
open Go.RowKit
set_option linter.unusedSimpArgs false
set_option linter.unusedVariables false
/-! Operations that give a value and leave the world alone. -/
def ofC (agg:Bool) (l:List Value):Option Value:=match agg with
 | true=>some (.agg l.toArray)
 | false=>match l with
  | [v]=>(match atom v with | true=>some v | false=>none)
  | _=>none
def dpL (u k:Nat):Nat→List Value→List Value
 | _,[]=>[]
 | j,v::l=>dpV u k j v::dpL u k (j+1) l
def ldx (τ:TT) (mem:AM) (t:TypeId) (p:Value):Option Value:=
 match p with
 | .pointer (some ⟨ab,ao,as_⟩)=>match lk τ t with
  | some ti=>match lk mem ab with
   | some (.box _ cs)=>(match as_ with
    | none=>(match takeN ao ti.size cs with | some l=>ofC ti.agg l | none=>none)
    | some _=>none)
   | some (.row _ _ _ el)=>(match as_ with
    | some k=>(match takeN ao ti.size (el k) with | some l=>ofC ti.agg l | none=>none)
    | none=>none)
   | some (.ext (.deep _ _ _ _ el u))=>(match as_ with
    | some k=>(match takeN ao ti.size (dpL u k 0 (el k)) with | some l=>ofC ti.agg l | none=>none)
    | none=>none)
   | some (.ext _)=>none
   | none=>none
  | none=>none
 | _=>none
def fax (τ:TT) (t:TypeId) (p:Value) (f:Nat):Option Value:=
 match p with
 | .pointer (some ⟨ab,ao,as_⟩)=>match lk τ t with
  | some ti=>(match ti.offs[f]?,ti.fszs[f]? with
   | some d,some (_+1)=>some (.pointer (some ⟨ab,ao+d,as_⟩))
   | _,_=>none)
  | none=>none
 | _=>none
def fdx (τ:TT) (t:TypeId) (p:Value) (f:Nat):Option Value:=
 match p with
 | .agg cs=>match lk τ t with
  | some ti=>(match ti.offs[f]?,ti.fszs[f]?,ti.fagg[f]? with
   | some d,some (s+1),some b=>
    (match takeN d (s+1) cs.toList with
    | some l=>
     (match b with
     | 2=>some (.agg l.toArray)
     | 1=>(match l with
      | v::_=>(match atom v with | true=>some v | false=>none)
      | _=>none)
     | _=>none)
    | none=>none)
   | _,_,_=>none)
  | none=>none
 | _=>none
def binx (o:BinOp) (isB:Bool) (x y:Value):Option Value:=
 match x,y with
 | .int k a,.int k' b=>(match decide (k=k') with
  | true=>(match o with
   | .add=>some (.int k (k.wrap (a+b)))
   | .sub=>some (.int k (k.wrap (a-b)))
   | .mul=>some (.int k (k.wrap (a * b)))
   | .and=>some (.int k (k.wrap (BitVec.ofInt k.bits a &&& BitVec.ofInt k.bits b).toNat))
   | .or=>some (.int k (k.wrap (BitVec.ofInt k.bits a ||| BitVec.ofInt k.bits b).toNat))
   | .xor=>some (.int k (k.wrap (BitVec.ofInt k.bits a ^^^ BitVec.ofInt k.bits b).toNat))
   | .andNot=>some (.int k (k.wrap (BitVec.ofInt k.bits a &&& ~~~BitVec.ofInt k.bits b).toNat))
   | .eql=>some (.bool (a==b))
   | .neq=>some (.bool (a != b))
   | .lss=>some (.bool (decide (a<b)))
   | .leq=>some (.bool (decide (a≤b)))
   | .gtr=>some (.bool (decide (a>b)))
   | .geq=>some (.bool (decide (a≥b)))
   | _=>none)
  | false=>none)
 | .bool a,.bool b=>(match isB with
  | true=>(match o with
   | .eql=>some (.bool (a==b))
   | .neq=>some (.bool (!(a==b)))
   | _=>none)
  | false=>none)
 | _,_=>none
def maxx:List Value→Option Value
 | [.int k a,.int _ b]=>some (.int k (if b>a then b else a))
 | _=>none
def minx:List Value→Option Value
 | [.int k a,.int _ b]=>some (.int k (if b<a then b else a))
 | _=>none
def lenx (ti:TI):List Value→Option Value
 | [.slice _ n _]=>(match ti.sl with | true=>some (.int .i64 n) | false=>none)
 | _=>none
def isBx (τ:TT) (t:TypeId):Bool:=match lk τ t with | some ti=>ti.isB | none=>false
def bldx (ti:TI) (fr:AF):List (Nat×Operand)→List Value→Option (List Value)
 | [],cs=>some cs
 | (i,x)::r,cs=>(match ev fr x with
  | some v=>(match ti.offs[i]?,ti.fszs[i]? with
   | some d,some s=>(match decide ((cellsOf v).length=s),(cellsOf v).all atom with
    | true,true=>(match putN d (cellsOf v) cs with | some l=>bldx ti fr r l | none=>none)
    | _,_=>none)
   | _,_=>none)
  | none=>none)
def eqx (τ:TT) (o:BinOp) (t:TypeId) (p q:Value):Option Value:=
 match p,q with
 | .agg xs,.agg ys=>(match lk τ t with
  | some ti=>(match ti.eqk,ckOk ti.eqk xs.toList,ckOk ti.eqk ys.toList with
   | _::_,true,true=>(match o with
    | .eql=>some (.bool (eqCs xs.toList ys.toList))
    | .neq=>some (.bool (!eqCs xs.toList ys.toList))
    | _=>none)
   | _,_,_=>none)
  | none=>none)
 | _,_=>none
def ptx (τ:TT) (o:BinOp) (t:TypeId) (p q:Value):Option Value:=match p,q with
 | .pointer a,.pointer none=>(match lk τ t with
  | some ti=>(match ti.isP,o with
   | true,.eql=>some (.bool (match a with | none=>true | some _=>false))
   | true,.neq=>some (.bool (match a with | none=>false | some _=>true))
   | _,_=>none)
  | none=>none)
 | _,_=>none
def binyx (τ:TT) (o:BinOp) (t:TypeId) (p q:Value):Option Value:=match binx o (isBx τ t) p q with | some v=>some v | none=>(match ptx τ o t p q with | some v=>some v | none=>eqx τ o t p q)
def arx (τ:TT) (t:TypeId) (p q:Value):Option Value:=
 match p with
 | .pointer (some ⟨ab,ao,none⟩)=>(match q with
  | .int _ (.ofNat k)=>(match lk τ t with
   | some ti=>(match Nat.blt k ti.arr with | true=>some (.pointer (some ⟨ab,ao+k,none⟩)) | false=>none)
   | none=>none)
  | _=>none)
 | _=>none
def vx (τ:TT) (fr:AF) (mem:AM) (o:Op):Option Value:=
 match o with
 | .move x=>ev fr x
 | .assign x=>ev fr x
 | .pick c x y=>(match ev fr c with
  | some (.bool b)=>(match b with | true=>ev fr x | false=>ev fr y)
  | _=>none)
 | .load t x=>(match ev fr x with | some p=>ldx τ mem t p | none=>none)
 | .fieldAddr t x f=>(match ev fr x with | some p=>fax τ t p f | none=>none)
 | .field t x f=>(match ev fr x with | some p=>fdx τ t p f | none=>none)
 | .indexAddr t x i=>(match ev fr x with | some p=>(match ev fr i with | some q=>arx τ t p q | none=>none) | none=>none)
 | .convert s d x=>(match ev fr x with
  | some (.int _ n)=>(match lk τ s,lk τ d with
   | some _,some td=>(match td.ik with | some k=>some (.int k (k.wrap n)) | none=>none)
   | _,_=>none)
  | _=>none)
 | .unOp .neg _ x=>(match ev fr x with | some (.int k n)=>some (.int k (k.wrap (0-n))) | _=>none)
 | .unOp .xor _ x=>(match ev fr x with | some (.int k n)=>some (.int k (k.wrap (BitVec.ofInt k.bits (if k.signed then -1 else k.max) ^^^ BitVec.ofInt k.bits n).toNat)) | _=>none)
 | .unOp .not _ x=>(match ev fr x with | some (.bool b)=>some (.bool (!b)) | _=>none)
 | .binOp o t x y _=>(match ev fr x with | some p=>(match ev fr y with | some q=>binyx τ o t p q | none=>none) | none=>none)
 | .build t parts=>(match lk τ t with
  | some ti=>(match ti.offs,ti.fszs.all (fun n=>Nat.blt 0 n) with
   | _::_,true=>(match bldx ti fr parts.toList ti.zero with | some l=>some (.agg l.toArray) | none=>none)
   | _,_=>none)
  | none=>none)
 | .makeFunc (.func f) first cap=>(match evs fr first.toList,evs fr cap.toList with
  | some fs,some cs=>(match fs.all atom,cs.all atom with | true,true=>some (.func (.func f) fs.toArray cs.toArray) | _,_=>none)
  | _,_=>none)
 | .nilCheck x=>(match ev fr x with | some (.pointer (some ad))=>some (.pointer (some ad)) | _=>none)
 | .extract x i=>(match ev fr x with | some (.tuple vs)=>(match vs[i]? with | some v=>(match v with | .tuple _=>none | .func _ _ _=>none | v=>some v) | none=>none) | _=>none)
 | .call { callee:=.builtin .len,args,argTypes }=>(match evs fr args.toList with | some vs=>(match argTypes.toList with | [t]=>(match lk τ t with | some ti=>lenx ti vs | none=>none) | _=>none) | none=>none)
 | .call { callee:=.builtin .max,args,.. }=>(match evs fr args.toList with | some vs=>maxx vs | none=>none)
 | .call { callee:=.builtin .min,args,.. }=>(match evs fr args.toList with | some vs=>minx vs | none=>none)
 | _=>none
theorem dpL_get (u k:Nat):∀ (l:List Value) (j i:Nat),(dpL u k j l)[i]?=(l[i]?).map (dpV u k (j+i))
 | [],j,i=>by simp[dpL]
 | v::l,j,0=>by simp[dpL]
 | v::l,j,i+1=>by
  rw[dpL,List.getElem?_cons_succ,List.getElem?_cons_succ,dpL_get u k l (j+1) i]
  congr 2
  omega
section
variable {P:Program} {τ:TT} {C:Ctx} {ρ:Nat→Pl} {fr:AF} {mem:AM} {nx:Nat} {a:Act} {w:World}
theorem atom_den {v:Value} (h:atom v=true):den ρ v=den1 ρ v:=by cases v<;>first | rfl | simp[atom] at h
theorem atom_ok {v:Value} (h:atom v=true):okV ρ nx v=ok1 ρ nx v:=by cases v<;>first | rfl | simp[atom] at h
theorem load_range {t:TypeId} {ti:TI} (ht:TIok P t ti) {b o:Nat} {l:List Value} (hr:w.rangeAt b o (l.map (den1 ρ))) (hl:l.length=ti.size) {v:Value} (hv:ofC ti.agg l=some v) :
  (Instr.loadAt t (.pointer (some ⟨b,o,none⟩))).run P w=.ok (den ρ v) w∧((∀ u ∈ l,ok1 ρ nx u)→okV ρ nx v):=by
 obtain⟨i,hi,hs,-⟩:=ht.size
 obtain⟨d,hd,hrow,-⟩:=ht.desc
 cases hagg:ti.agg with
 | true=>
  rw[hagg] at hv hrow
  simp only[ofC,Option.some.injEq] at hv
  subst hv
  refine⟨?_,fun h=>?_⟩
  ·rw[run_loadAt_mid w b o t (l.map (den1 ρ)) d hr hd hrow (by rw[hi];simp[hs,hl])]
   simp[den,den2]
  ·intro u hu
   exact h u (by simpa using hu)
 | false=>
  rw[hagg] at hv hrow
  match l,hv with
  | [u],hv=>
   simp only[ofC] at hv
   cases hat:atom u with
   | false=>rw[hat] at hv;simp at hv
   | true=>
    rw[hat] at hv
    simp at hv
    subst hv
    have hc:w.cell? ⟨b,o,none⟩=some (den1 ρ u):=by have:=hr 0 (den1 ρ u) (by simp);simpa using this
    refine⟨?_,fun h=>by rw[atom_ok hat];exact h u (by simp)⟩
    rw[atom_den hat]
    have hag:(isAgg t).run P w=.ok false w:=by
     unfold isAgg
     rw[Sem.run_bind,run_underlying hd w]
     cases d<;>simp_all
    simp[Instr.loadAt,Instr.sureAddr,loadVar,Sem.run_bind,hag,load,Sem.run,hc]
  | [],hv=>simp[ofC] at hv
  | _::_::_,hv=>simp[ofC] at hv
theorem ldx_run (hτ:TTok P τ) (hm:∀ i b,lk mem i=some b→BlkOk C ρ nx i w b) {t:TypeId} {p v:Value} (hp:okV ρ nx p) (h:ldx τ mem t p=some v) :
  (Instr.loadAt t (den ρ p)).run P w=.ok (den ρ v) w∧okV ρ nx v:=by
 cases p with
 | pointer q=>
  cases q with
  | none=>simp[ldx] at h
  | some ad=>
   simp only[ldx] at h
   cases hti:lk τ t with
   | none=>rw[hti] at h;simp at h
   | some ti=>
    rw[hti] at h
    simp only at h
    have ht:=hτ t ti hti
    cases hb:lk mem ad.block with
    | none=>rw[hb] at h;simp at h
    | some bl=>
     rw[hb] at h
     have hok:=hm _ _ hb
     cases bl with
     | ext e=>cases e with
      | fam ft sb=>simp at h
      | map kk g f=>simp at h
      | deep bt sz n cap el u=>
       simp only at h
       cases hsp:ad.spot with
       | none=>rw[hsp] at h;simp at h
       | some k=>
        rw[hsp] at h
        simp only at h
        cases htk:takeN ad.off ti.size (dpL u k 0 (el k)) with
        | none=>rw[htk] at h;simp at h
        | some l=>
         rw[htk] at h
         simp only at h
         obtain⟨⟨hsz,hn⟩,hu,hpl,hok⟩:=hok
         have hkn:k<n:=by have:=hp.2.2 k hsp;omega
         obtain⟨hl,hget⟩:=takeN_get _ _ _ _ htk
         have hat:∀ (j:Nat) (x:Value),l[j]?=some x→∃ y,(el k)[ad.off+j]?=some y∧x=dpV u k (ad.off+j) y:=fun j x hx=>by
          have:=hget j x hx
          rw[dpL_get,Option.map_eq_some_iff] at this
          obtain⟨y,h1,h2⟩:=this
          exact⟨y,h1,by rw[← h2,Nat.zero_add]⟩
         rcases hok with h0 | ⟨-,b,off,hA,-,-,hc⟩
         ·omega
         ·have hr:w.rangeAt b (off+k * sz+ad.off) (l.map (den1 ρ)):=by
           intro j v' hv'
           rw[List.getElem?_map] at hv'
           cases hlj:l[j]? with
           | none=>rw[hlj] at hv';simp at hv'
           | some x=>
            rw[hlj] at hv'
            simp at hv'
            obtain⟨y,h1,rfl⟩:=hat j x hlj
            rw[← hv',← hc k hkn (ad.off+j) y h1,Nat.add_assoc]
          have e:den ρ (.pointer (some ad))=.pointer (some ⟨b,off+k * sz+ad.off,none⟩):=by simp[den,den2,den1,dA_some hA,hsp,hsz]
          rw[e]
          obtain⟨h1,h2⟩:=load_range (nx:=nx) ht hr hl h
          refine⟨h1,h2 fun x hx=>?_⟩
          obtain⟨j,hj⟩:=List.getElem?_of_mem hx
          obtain⟨y,h1,rfl⟩:=hat j x hj
          exact dpV_ok hu k _ ((hpl k hkn).2 y (List.mem_of_getElem? h1))
     | box bt cs=>
      simp only at h
      cases hsp:ad.spot with
      | some k=>rw[hsp] at h;simp at h
      | none=>
       rw[hsp] at h
       simp only at h
       cases htk:takeN ad.off ti.size cs with
       | none=>rw[htk] at h;simp at h
       | some l=>
        rw[htk] at h
        simp only at h
        obtain⟨g,hA,hblk,-,hcs⟩:=hok
        obtain⟨hl,hget⟩:=takeN_get _ _ _ _ htk
        have hr:w.rangeAt g ad.off (l.map (den1 ρ)):=by
         intro j u hu
         rw[List.getElem?_map] at hu
         cases hlj:l[j]? with
         | none=>rw[hlj] at hu;simp at hu
         | some x=>
          rw[hlj] at hu
          simp at hu
          rw[hblk.cell]
          simp[hget j x hlj,hu]
        have e:den ρ (.pointer (some ad))=.pointer (some ⟨g,ad.off,none⟩):=by simp[den,den2,den1,dA_some hA,hsp]
        rw[e]
        obtain⟨h1,h2⟩:=load_range (nx:=nx) ht hr hl h
        refine⟨h1,h2 fun u hu=>?_⟩
        obtain⟨j,hj⟩:=List.getElem?_of_mem hu
        exact hcs u (List.mem_of_getElem? (hget j u hj))
     | row bt sz n el=>
      simp only at h
      cases hsp:ad.spot with
      | none=>rw[hsp] at h;simp at h
      | some k=>
       rw[hsp] at h
       simp only at h
       cases htk:takeN ad.off ti.size (el k) with
       | none=>rw[htk] at h;simp at h
       | some l=>
        rw[htk] at h
        simp only at h
        obtain⟨⟨hsz,hn⟩,hpl,hok⟩:=hok
        have hkn:k<n:=by have:=hp.2.2 k hsp;omega
        obtain⟨hl,hget⟩:=takeN_get _ _ _ _ htk
        rcases hok with h0 | ⟨b,off,hA,-,hc⟩
        ·omega
        ·have hpu:∀ u ∈ l,plain1 u:=fun u hu=>by
          obtain⟨j,hj⟩:=List.getElem?_of_mem hu
          exact (hpl k hkn).2 u (List.mem_of_getElem? (hget j u hj))
         have hr:w.rangeAt b (off+k * sz+ad.off) (l.map (den1 ρ)):=by
          intro j u hu
          rw[List.getElem?_map] at hu
          cases hlj:l[j]? with
          | none=>rw[hlj] at hu;simp at hu
          | some x=>
           rw[hlj] at hu
           simp at hu
           rw[den1_plain (hpu x (List.mem_of_getElem? hlj))] at hu
           subst hu
           have:=hc k hkn (ad.off+j) x (hget j x hlj)
           rw[← this,Nat.add_assoc]
         have e:den ρ (.pointer (some ad))=.pointer (some ⟨b,off+k * sz+ad.off,none⟩):=by simp[den,den2,den1,dA_some hA,hsp,hsz]
         rw[e]
         obtain⟨h1,h2⟩:=load_range (nx:=nx) ht hr hl h
         exact⟨h1,h2 fun u hu=>ok1_plain (hpu u hu)⟩
 | _=>simp[ldx] at h
end
section
variable {P:Program} {τ:TT} {C:Ctx} {ρ:Nat→Pl} {fr:AF} {mem:AM} {nx:Nat} {a:Act} {w:World}
theorem arx_run (hτ:TTok P τ) {t:TypeId} {p q v:Value} (hp:okV ρ nx p) (h:arx τ t p q=some v) :
  (Instr.indexAt t (den ρ p) (den ρ q)).run P w=.ok (den ρ v) w∧okV ρ nx v:=by
 unfold arx at h
 split at h
 ·rename_i ab ao
  split at h
  ·rename_i kk k
   cases hti:lk τ t with
   | none=>rw[hti] at h;simp at h
   | some ti=>
    rw[hti] at h
    simp only at h
    cases hb:Nat.blt k ti.arr with
    | false=>rw[hb] at h;simp at h
    | true=>
     rw[hb] at h
     simp at h
     subst h
     obtain⟨m,e,hu,hlt,hsz⟩:=(hτ t ti hti).array hb
     obtain⟨cb,co,hA⟩:=(show ∃ b o,(ρ ab).A=some ⟨b,o,none⟩ from hp.2.1)
     have e1:den ρ (.pointer (some ⟨ab,ao,none⟩))=.pointer (some ⟨cb,co+ao,none⟩):=by simp[den,den2,den1,dA_some (a:=⟨ab,ao,none⟩) hA]
     have e2:den ρ (.pointer (some ⟨ab,ao+k,none⟩))=.pointer (some ⟨cb,co+ao+k,none⟩):=by simp[den,den2,den1,dA_some (a:=⟨ab,ao+k,none⟩) hA,Nat.add_assoc]
     have e3:den ρ (.int kk (.ofNat k))=.int kk (.ofNat k):=rfl
     rw[e1,e2,e3]
     refine⟨?_,hp.1,⟨cb,co,hA⟩,fun j hj=>by cases hj⟩
     cases hi:P.info? e with
     | none=>simp[szOf,hi] at hsz
     | some i=>
      have hsz':i.size=1:=by simpa [szOf,hi] using hsz
      have h0:(0:Int)≤Int.ofNat k:=Int.natCast_nonneg k
      have h1:Int.ofNat k<(m:Int):=by show (k:Int)<m;omega
      have h2:(Int.ofNat k).toNat=k:=rfl
      simp[Instr.indexAt,asIntOf,Instr.sureAddr,run_underlying hu,sizeOf,typeInfo,hi,hsz',Addr.add_mid,hlt]
  ·simp at h
 ·simp at h
theorem fax_run (hτ:TTok P τ) {t:TypeId} {p v:Value} {f:Nat} (hp:okV ρ nx p) (h:fax τ t p f=some v) :
  (Instr.fieldAt t (den ρ p) f).run P w=.ok (den ρ v) w∧okV ρ nx v:=by
 cases p with
 | pointer q=>
  cases q with
  | none=>simp[fax] at h
  | some ad=>
   simp only[fax] at h
   cases hti:lk τ t with
   | none=>rw[hti] at h;simp at h
   | some ti=>
    rw[hti] at h
    simp only at h
    have ht:=hτ t ti hti
    split at h
    ·rename_i d s ho hz
     simp at h
     subst h
     obtain⟨fs,x,hu,hx,hoff,hsz,-⟩:=ht.field ho hz
     obtain⟨cb,co,hA⟩:=(show ∃ b o,(ρ ad.block).A=some ⟨b,o,none⟩ from hp.2.1)
     ·have e1:den ρ (.pointer (some ad))=.pointer (some ⟨cb,co+ad.spot.getD 0 * (ρ ad.block).sz+ad.off,none⟩):=by simp[den,den2,den1,dA_some hA]
      have e2:den ρ (.pointer (some ⟨ad.block,ad.off+d,ad.spot⟩))=.pointer (some ⟨cb,co+ad.spot.getD 0 * (ρ ad.block).sz+ad.off+d,none⟩):=by simp[den,den2,den1,dA_some (a:=⟨ad.block,ad.off+d,ad.spot⟩) hA,Nat.add_assoc]
      rw[e1,e2]
      refine⟨?_,hp⟩
      cases hi:P.info? x.type with
      | none=>simp[szOf,hi] at hsz
      | some i=>
       have hsz':i.size=s+1:=by simpa [szOf,hi] using hsz
       simp[Instr.fieldAt,Instr.sureAddr,run_underlying hu,hx,fieldPlace,sizeOf,typeInfo,hi,hsz',hoff,Addr.add_mid]
    ·simp at h
 | _=>simp[fax] at h
theorem fdx_run (hτ:TTok P τ) {t:TypeId} {p v:Value} {f:Nat} (hp:okV ρ nx p) (h:fdx τ t p f=some v) :
  (Instr.field t (den ρ p) f).run P w=.ok (den ρ v) w∧okV ρ nx v:=by
 cases p with
 | agg cs=>
  simp only[fdx] at h
  cases hti:lk τ t with
  | none=>rw[hti] at h;simp at h
  | some ti=>
   rw[hti] at h
   simp only at h
   have ht:=hτ t ti hti
   split at h
   ·rename_i d s b ho hz hb
    obtain⟨fs,x,hu,hx,hoff,hsz,hrow⟩:=ht.field ho hz
    have hrow:=hrow b hb
    cases htk:takeN d (s+1) cs.toList with
    | none=>rw[htk] at h;simp at h
    | some l=>
     rw[htk] at h
     simp only at h
     obtain⟨hl,hget⟩:=takeN_get _ _ _ _ htk
     have hmem:∀ u ∈ l,ok1 ρ nx u:=fun u hu=>by
      obtain⟨j,hj⟩:=List.getElem?_of_mem hu
      have:=hget j u hj
      exact hp u (by simpa using List.mem_of_getElem? this)
     cases hi:P.info? x.type with
     | none=>simp[szOf,hi] at hsz
     | some i=>
      have hsz':i.size=s+1:=by simpa [szOf,hi] using hsz
      cases hun:P.underlying x.type with
      | none=>
       have:b=0:=by rw[← hrow];simp[rowOf,hun]
       subst this
       simp at h
      | some dd=>
       cases hr:dd.isRow with
       | false=>
        have:b=1:=by rw[← hrow];simp[rowOf,hun,hr]
        subst this
        cases l with
        | nil=>simp at h
        | cons u l=>
         simp only at h
         cases hat:atom u with
         | false=>rw[hat] at h;simp at h
         | true=>
          rw[hat] at h
          simp at h
          subst h
          have hag:(isAgg x.type).run P w=.ok false w:=by
           unfold isAgg
           rw[Sem.run_bind,run_underlying hun w]
           cases dd<;>simp_all
          have h0:=hget 0 u (by simp)
          simp at h0
          refine⟨?_,by rw[atom_ok hat];exact hmem u (by simp)⟩
          rw[atom_den hat]
          simp[Instr.field,run_underlying hu,hx,part,asAgg,den,den2,hag,hoff,h0]
       | true=>
        have:b=2:=by rw[← hrow];simp[rowOf,hun,hr]
        subst this
        simp at h
        subst h
        have hag:(isAgg x.type).run P w=.ok true w:=by
         unfold isAgg
         rw[Sem.run_bind,run_underlying hun w]
         cases dd<;>simp_all
        refine⟨?_,fun u hu=>hmem u (by simpa using hu)⟩
        have he:(cs.map (den1 ρ)).extract d (d+(s+1))=(l.map (den1 ρ)).toArray:=by
         apply Array.ext_getElem?
         intro j
         by_cases hj:j<s+1
         ·obtain⟨u,hlj⟩:∃ u,l[j]?=some u:=⟨l[j],List.getElem?_eq_getElem (by omega)⟩
          have hcj:=hget j u hlj
          simp at hcj
          have hlt:d+j<cs.size:=by
           rcases Nat.lt_or_ge (d+j) cs.size with h' | h'
           ·exact h'
           ·rw[Array.getElem?_eq_none h'] at hcj;cases hcj
          rw[Array.getElem?_extract,if_pos (by simp;omega)]
          simp[hcj,hlj]
         ·rw[Array.getElem?_extract,if_neg (by omega)]
          simp[List.getElem?_eq_none (show l.length≤j by omega)]
        simp[Instr.field,run_underlying hu,hx,part,asAgg,den,den2,hag,hoff,sizeOf,typeInfo,hi,hsz',he]
   ·simp at h
 | _=>simp[fdx] at h
theorem equal_bool {t:TypeId} (hu:P.underlying t=some .bool) (b c:Bool):(Op.equal t (.bool b) (.bool c)).run P w=.ok (b==c) w:=by
 rw[Op.equal,show Op.maxDepth=9999+1 from rfl,Op.equalIn]
 simp[run_underlying hu]
theorem binx_run (hτ:TTok P τ) {t:TypeId} {x y:Operand} {p q v:Value} {o:BinOp} (hsh:o≠.shl∧o≠.shr) (h:binx o (isBx τ t) p q=some v) :
  (do eqGuard o t x y (den ρ p) (den ρ q);binOp o t (den ρ p) (den ρ q):Sem Value).run P w=.ok (den ρ v) w∧okV ρ nx v:=by
 cases p<;>cases q<;>simp only[binx] at h<;>try (simp at h;done)
 case int.int k b k' c=>
  by_cases hk:k=k'
  ·subst hk
   simp only[decide_true] at h
   cases o<;>simp at h<;>try (subst h;refine⟨?_,trivial⟩;simp[eqGuard,den,den2,den1,binOp,Op.intArith,Op.intBits,Op.intCmp];done)
  ·simp[hk] at h
 case bool.bool b c=>
  cases hb:isBx τ t with
  | false=>rw[hb] at h;simp at h
  | true=>
   rw[hb] at h
   unfold isBx at hb
   cases hti:lk τ t with
   | none=>rw[hti] at hb;simp at hb
   | some ti=>
    rw[hti] at hb
    have hu:=(hτ t ti hti).bool hb
    cases o<;>simp at h
    case eql=>subst h;refine⟨?_,trivial⟩;simp[eqGuard,den,den2,den1,binOp,equal_bool hu]
    case neq=>subst h;refine⟨?_,trivial⟩;simp[eqGuard,den,den2,den1,binOp,equal_bool hu]
end
section
variable {P:Program} {τ:TT} {C:Ctx} {ρ:Nat→Pl} {fr:AF} {mem:AM} {nx:Nat} {a:Act} {w:World}
theorem binx_shift {o:BinOp} {b:Bool} {p q v:Value} (h:binx o b p q=some v):o≠.shl∧o≠.shr:=by
 constructor<;>rintro rfl<;>cases p<;>cases q<;>simp only[binx] at h<;>(try (split at h))<;>simp at h
theorem ck_plain:∀ {ks:List CK} {l:List Value},ckOk ks l=true→l.map (den1 ρ)=l
 | [],[],_=>rfl
 | [],_::_,h=>by simp[ckOk] at h
 | _::_,[],h=>by simp[ckOk] at h
 | k::r,v::l,h=>by
  simp only[ckOk,Bool.and_eq_true] at h
  rw[List.map_cons,ck_plain h.2]
  congr 1
  cases v<;>cases k<;>simp[ck1] at h<;>rfl
theorem eqx_run (hτ:TTok P τ) {t:TypeId} {x y:Operand} {p q v:Value} {o:BinOp} (h:eqx τ o t p q=some v) :
  (do eqGuard o t x y (den ρ p) (den ρ q);binOp o t (den ρ p) (den ρ q):Sem Value).run P w=.ok (den ρ v) w∧okV ρ nx v:=by
 cases p<;>first | (simp[eqx] at h;done) | skip
 rename_i xs
 cases q<;>first | (simp[eqx] at h;done) | skip
 rename_i ys
 simp only[eqx] at h
 cases hti:lk τ t with
 | none=>rw[hti] at h;simp at h
 | some ti=>
  rw[hti] at h
  simp only at h
  split at h
  ·rename_i k r hk h1 h2
   have he:=((Bool.and_eq_true _ _).mp (hτ t ti hti).eqs).1
   unfold eqB at he
   rw[hk] at he
   simp only[Bool.and_eq_true,decide_eq_true_eq,Bool.not_eq_true'] at he
   obtain⟨⟨hagg,hfl⟩,hgu⟩:=he
   rw[← hk] at hfl
   obtain⟨⟨dd,hu,hrow,-⟩,hq⟩:=equalIn_flat (P:=P) (w:=w) 8 10000 t ti.eqk (by omega) hfl
   obtain⟨d2,hu2,hr2,-⟩:=(hτ t ti hti).desc
   rw[hu] at hu2
   cases hu2
   obtain⟨fs,rfl⟩:=hrow.1 (hr2.trans hagg)
   have hq:=hq _ _ h1 h2
   simp only[wrK,hu] at hq
   have ex:den ρ (.agg xs)=.agg xs:=by
    show Value.agg (xs.map (den1 ρ))=_
    congr 1
    apply Array.toList_inj.1
    rw[Array.toList_map]
    exact ck_plain h1
   have ey:den ρ (.agg ys)=.agg ys:=by
    show Value.agg (ys.map (den1 ρ))=_
    congr 1
    apply Array.toList_inj.1
    rw[Array.toList_map]
    exact ck_plain h2
   rw[ex,ey]
   rw[show xs.toList.toArray=xs by simp,show ys.toList.toArray=ys by simp] at hq
   cases o<;>simp only at h<;>first | (simp at h;done) | skip
   ·simp at h
    subst h
    refine⟨?_,trivial⟩
    rw[Sem.run_bind,run_eqGuard_agg w _ t x y xs ys hgu,Result.andThen_ok,run_eql_struct w,hq]
    rfl
   ·simp at h
    subst h
    refine⟨?_,trivial⟩
    rw[Sem.run_bind,run_eqGuard_agg w _ t x y xs ys hgu,Result.andThen_ok,run_neq_struct w,hq]
    rfl
  ·simp at h
theorem ptx_run (hτ:TTok P τ) {t:TypeId} {x y:Operand} {p q v:Value} {o:BinOp} (hp:okV ρ nx p) (h:ptx τ o t p q=some v) :
  (do eqGuard o t x y (den ρ p) (den ρ q);binOp o t (den ρ p) (den ρ q):Sem Value).run P w=.ok (den ρ v) w∧okV ρ nx v:=by
 unfold ptx at h
 split at h
 ·rename_i pa
  cases hti:lk τ t with
  | none=>rw[hti] at h;simp at h
  | some ti=>
   rw[hti] at h
   simp only at h
   have key:∃ pa',den ρ (.pointer pa)=.pointer pa'∧pa'.isNone=(match pa with | none=>true | some _=>false):=by
    cases pa with
    | none=>exact⟨none,rfl,rfl⟩
    | some ad=>
     obtain⟨b,o,hA⟩:=(show ∃ b o,(ρ ad.block).A=some ⟨b,o,none⟩ from hp.2.1)
     exact⟨dA ρ ad,rfl,by rw[dA_some hA];rfl⟩
   obtain⟨pa',e1,e2⟩:=key
   have e0:den ρ (.pointer none)=.pointer none:=rfl
   rw[e1,e0]
   cases hip:ti.isP with
   | false=>rw[hip] at h;simp at h
   | true=>
    rw[hip] at h
    have hu:=(hτ t ti hti).ptr hip
    have hg:∀ o',(eqGuard o' t x y (.pointer pa') (.pointer none)).run P w=.ok () w:=fun o'=>by cases o'<;>simp[eqGuard]
    cases o<;>simp only at h<;>first | (simp at h;done) | skip
    ·simp at h
     subst h
     refine⟨?_,trivial⟩
     rw[Sem.run_bind,hg,Result.andThen_ok,run_eql_pointer_nil w t pa' hu,e2]
     cases pa<;>rfl
    ·simp at h
     subst h
     refine⟨?_,trivial⟩
     rw[Sem.run_bind,hg,Result.andThen_ok,run_neq_pointer_nil w t pa' hu,e2]
     cases pa<;>rfl
 ·simp at h
theorem binyx_run (hτ:TTok P τ) {t:TypeId} {x y:Operand} {p q v:Value} {o:BinOp} (hp:okV ρ nx p) (h:binyx τ o t p q=some v) :
  (do eqGuard o t x y (den ρ p) (den ρ q);binOp o t (den ρ p) (den ρ q):Sem Value).run P w=.ok (den ρ v) w∧okV ρ nx v:=by
 unfold binyx at h
 cases hb:binx o (isBx τ t) p q with
 | some u=>rw[hb] at h;simp at h;subst h;exact binx_run hτ (binx_shift hb) hb
 | none=>
  rw[hb] at h
  simp only at h
  cases hc:ptx τ o t p q with
  | some u=>rw[hc] at h;simp at h;subst h;exact ptx_run hτ hp hc
  | none=>rw[hc] at h;exact eqx_run hτ h
theorem zip_putL (off:Nat):∀ (vs:List Value) (k:Nat) (cs:Array Value),(vs.zipIdx k).foldl (fun cs (p:Value×Nat)=>cs.setIfInBounds (off+p.2) p.1) cs=putL cs (off+k) vs
 | [],k,cs=>rfl
 | v::r,k,cs=>by
  rw[List.zipIdx_cons,List.foldl_cons,zip_putL off r (k+1),putL]
  rfl
def nt:Value→Bool
 | .tuple _=>false
 | .func _ _ _=>false
 | _=>true
theorem notTuple {v:Value} (h:(cellsOf v).all atom=true):nt v=true:=by cases v<;>first | rfl | simp[cellsOf,atom] at h
theorem cells_den' {v:Value} (h:nt v=true):(den ρ v).cells=((cellsOf v).map (den1 ρ)).toArray:=by
 cases v with
 | agg cs=>apply Array.toList_inj.1;simp[den,den2,Value.cells,cellsOf]
 | tuple vs=>cases h
 | func f a b=>cases h
 | pointer p=>cases p<;>rfl
 | slice p n c=>cases p<;>rfl
 | map p=>cases p<;>rfl
 | _=>rfl
theorem cells_ok' {v:Value} (h:nt v=true) (hv:okV ρ nx v):∀ u ∈ cellsOf v,ok1 ρ nx u:=by
 cases v with
 | agg cs=>intro u hu;exact hv u (by simpa [cellsOf] using hu)
 | tuple vs=>cases h
 | func f a b=>cases h
 | _=>intro u hu;simp[cellsOf] at hu;subst hu;exact hv
theorem fill_one {place:Nat→Option (Nat×Nat)} {cs l:List Value} {i d s:Nat} {v:Value} (hp:place i=some (d,s)) (hl:(cellsOf v).length=s) (hat:(cellsOf v).all atom=true) (hput:putN d (cellsOf v) cs=some l) (rest:List (Nat×Value)) :
  Instr.fill place (cs.map (den1 ρ)).toArray ((i,den ρ v)::rest)=Instr.fill place (l.map (den1 ρ)).toArray rest:=by
 obtain⟨q1,q2,-⟩:=putN_get _ _ _ _ hput
 have hc:=cells_den' (ρ:=ρ) (notTuple hat)
 rw[Instr.fill,hp]
 simp only
 rw[if_neg (by simp[hc,hl];omega)]
 congr 1
 rw[hc]
 have:=zip_putL d ((cellsOf v).map (den1 ρ)) 0 (cs.map (den1 ρ)).toArray
 rw[Nat.add_zero,putN_map hput] at this
 rw[← this,← Array.foldl_toList,Array.toList_zipIdx]
theorem bldx_fill (hf:FrOk ρ fr nx a) {ti:TI} {place:Nat→Option (Nat×Nat)} (hp:∀ i d s,ti.offs[i]?=some d→ti.fszs[i]?=some s→place i=some (d,s)):∀ (parts:List (Nat×Operand)) (cs l:List Value),bldx ti fr parts cs=some l→(∀ v ∈ cs,ok1 ρ nx v)→
  Instr.fill place (cs.map (den1 ρ)).toArray (parts.map fun p=>(p.1,a.eval p.2))=some (l.map (den1 ρ)).toArray∧∀ v ∈ l,ok1 ρ nx v
 | [],cs,l,h,hk=>by simp[bldx] at h;subst h;exact⟨rfl,hk⟩
 | (i,x)::r,cs,l,h,hk=>by
  simp only[bldx] at h
  cases hx:ev fr x with
  | none=>rw[hx] at h;simp at h
  | some v=>
   rw[hx] at h
   simp only at h
   split at h
   ·rename_i d s ho hz
    split at h
    ·rename_i hl hat
     have hl':(cellsOf v).length=s:=by simpa using hl
     cases hput:putN d (cellsOf v) cs with
     | none=>rw[hput] at h;simp at h
     | some l1=>
      rw[hput] at h
      simp only at h
      obtain⟨h1,h2⟩:=ev_ok hf hx
      obtain⟨q1,q2,q3⟩:=putN_get _ _ _ _ hput
      have hk1:∀ u ∈ l1,ok1 ρ nx u:=fun u hu=>by
       obtain⟨j,hj⟩:=List.getElem?_of_mem hu
       rw[q3 j] at hj
       split at hj
       ·exact cells_ok' (notTuple hat) h2 u (List.mem_of_getElem? hj)
       ·exact hk u (List.mem_of_getElem? hj)
      obtain⟨h3,h4⟩:=bldx_fill hf hp r l1 l h hk1
      refine⟨?_,h4⟩
      rw[List.map_cons]
      simp only
      rw[h1,fill_one (hp i d s ho hz) hl' hat hput]
      exact h3
    ·simp at h
   ·simp at h
theorem places_of {fs:List Field} (h:(fs.map fun f=>szOf P f.type).all (fun n=>Nat.blt 0 n)=true):∃ pl,fs.mapM (fun f=>(P.info? f.type).map fun i=>(f.offset,i.size))=some pl∧∀ i:Nat,pl[i]?=(fs[i]?).map fun (f:Field)=>(f.offset,szOf P f.type):=by
 induction fs with
 | nil=>exact⟨[],by simp,fun i=>by simp⟩
 | cons f fs ih=>
  simp only[List.map_cons,List.all_cons,Bool.and_eq_true] at h
  obtain⟨pl,h1,h2⟩:=ih h.2
  cases hi:P.info? f.type with
  | none=>have:=h.1;simp[szOf,hi] at this
  | some i=>
   refine⟨(f.offset,i.size)::pl,by simp[List.mapM_cons,hi,h1],fun k=>?_⟩
   cases k with
   | zero=>simp[szOf,hi]
   | succ k=>simpa using h2 k
theorem build_run {t:TypeId} {ti:TI} (ht:TIok P t ti) (hf:FrOk ρ fr nx a) {o1:Nat} {or:List Nat} (ho:ti.offs=o1::or) (hz:ti.fszs.all (fun n=>Nat.blt 0 n)=true) {parts:Array (Nat×Operand)} {l:List Value} (h:bldx ti fr parts.toList ti.zero=some l) :
  (Instr.build t (parts.map fun (i,x)=>(i,a.eval x))).run P w=.ok (den ρ (.agg l.toArray)) w∧okV ρ nx (.agg l.toArray):=by
 obtain⟨i,hi,hs,z,hz0,hzc⟩:=ht.size
 obtain⟨d,hd,hrow,hdi⟩:=ht.desc
 cases d with
 | struct fs=>
  simp only[dInfo,Prod.mk.injEq] at hdi
  obtain⟨e1,e2,-⟩:=hdi
  rw[← e2] at hz
  obtain⟨pl,hm,hget⟩:=places_of (P:=P) (fs:=fs.toList) hz
  have hza:z.cells=(ti.zero.map (den1 ρ)).toArray:=by
   apply Array.toList_inj.1
   rw[hzc]
   simp only[List.toList_toArray]
   conv=>lhs;rw[← List.map_id ti.zero]
   exact List.map_congr_left fun v hv=>(den1_plain (ht.zero v hv)).symm
  obtain⟨h1,h2⟩:=bldx_fill (ρ:=ρ) (nx:=nx) (a:=a) hf (ti:=ti) (place:=(pl.toArray[·]?)) (fun k d s hd hs=>by
   rw[← e1,List.getElem?_map] at hd
   rw[← e2,List.getElem?_map] at hs
   have:=hget k
   cases hfk:fs.toList[k]? with
   | none=>rw[hfk] at hd;simp at hd
   | some f=>
    rw[hfk] at hd hs this
    simp at hd hs this
    simp[this,hd,hs]) parts.toList ti.zero l h (fun v hv=>ok1_plain (ht.zero v hv))
  refine⟨?_,fun u hu=>h2 u (by simpa using hu)⟩
  rw[run_build w t _ (l.map (den1 ρ)).toArray ?_]
  ·simp[den,den2]
  ·unfold Program.built
   simp only[hi,hd,hz0,hm]
   rw[hza]
   have:(parts.map fun (p:Nat×Operand)=>(p.1,a.eval p.2)).toList=parts.toList.map fun p=>(p.1,a.eval p.2):=by simp
   rw[this]
   exact h1
 | _=>simp[dInfo,ho] at hdi
theorem vx_run (hτ:TTok P τ) (hf:FrOk ρ fr nx a) (hm:∀ i b,lk mem i=some b→BlkOk C ρ nx i w b) {o:Oper} {v:Value} (h:vx τ fr mem o.op=some v) :
  (execOp a.eval o).run P w=.ok (.value (den ρ v)) w∧okV ρ nx v:=by
 obtain⟨dst,op,type,pos,after,guard⟩:=o
 simp only at h
 unfold execOp
 cases op<;>simp only[vx] at h ⊢<;>try (simp at h;done)
 case makeFunc fn first cap=>
  cases fn<;>simp only[vx] at h<;>try (simp at h;done)
  rename_i f
  cases h1:evs fr first.toList with
  | none=>rw[h1] at h;simp at h
  | some fs=>
   cases h2:evs fr cap.toList with
   | none=>rw[h1,h2] at h;simp at h
   | some cs=>
    rw[h1,h2] at h
    simp only at h
    split at h
    ·rename_i ha hb
     simp at h
     subst h
     obtain⟨e1,k1⟩:=evs_ok hf h1
     obtain⟨e2,k2⟩:=evs_ok hf h2
     rw[List.all_eq_true] at ha hb
     have d1:first.map a.eval=fs.toArray.map (den1 ρ):=by
      apply Array.toList_inj.1
      simp only[Array.toList_map,e1]
      exact List.map_congr_left fun v hv=>atom_den (ha v hv)
     have d2:cap.map a.eval=cs.toArray.map (den1 ρ):=by
      apply Array.toList_inj.1
      simp only[Array.toList_map,e2]
      exact List.map_congr_left fun v hv=>atom_den (hb v hv)
     refine⟨?_,fun v hv=>?_,fun v hv=>?_⟩
     ·rw[d1,d2];rfl
     ·have hv':v ∈ fs:=by simpa using hv
      rw[← atom_ok (ha v hv')]
      exact k1 v hv'
     ·have hv':v ∈ cs:=by simpa using hv
      rw[← atom_ok (hb v hv')]
      exact k2 v hv'
    ·simp at h
 case move x=>
  obtain⟨h1,h2⟩:=ev_ok hf h
  exact⟨by simp[h1],h2⟩
 case assign x=>
  obtain⟨h1,h2⟩:=ev_ok hf h
  exact⟨by simp[h1],h2⟩
 case pick c x y=>
  cases hc:ev fr c with
  | none=>rw[hc] at h;simp at h
  | some u=>
   rw[hc] at h
   obtain⟨h1,-⟩:=ev_ok hf hc
   cases u<;>simp at h
   rename_i b
   cases b
   ·simp only at h
    obtain⟨h3,h4⟩:=ev_ok hf h
    exact⟨by simp[h1,h3,asBool,den,den2,den1],h4⟩
   ·simp only at h
    obtain⟨h3,h4⟩:=ev_ok hf h
    exact⟨by simp[h1,h3,asBool,den,den2,den1],h4⟩
 case load t x=>
  cases hc:ev fr x with
  | none=>rw[hc] at h;simp at h
  | some p=>
   rw[hc] at h
   simp only at h
   obtain⟨h1,h2⟩:=ev_ok hf hc
   obtain⟨h3,h4⟩:=ldx_run hτ hm h2 h
   exact⟨by rw[h1];simp[h3],h4⟩
 case fieldAddr t x f=>
  cases hc:ev fr x with
  | none=>rw[hc] at h;simp at h
  | some p=>
   rw[hc] at h
   simp only at h
   obtain⟨h1,h2⟩:=ev_ok hf hc
   obtain⟨h3,h4⟩:=fax_run (w:=w) hτ h2 h
   exact⟨by rw[h1];simp[h3],h4⟩
 case indexAddr t x i=>
  cases hc:ev fr x with
  | none=>rw[hc] at h;simp at h
  | some p=>
   cases hd:ev fr i with
   | none=>rw[hc,hd] at h;simp at h
   | some q=>
    rw[hc,hd] at h
    simp only at h
    obtain⟨h1,h2⟩:=ev_ok hf hc
    obtain⟨h3,-⟩:=ev_ok hf hd
    obtain⟨h4,h5⟩:=arx_run (w:=w) hτ h2 h
    exact⟨by rw[h1,h3];simp[h4],h5⟩
 case field t x f=>
  cases hc:ev fr x with
  | none=>rw[hc] at h;simp at h
  | some p=>
   rw[hc] at h
   simp only at h
   obtain⟨h1,h2⟩:=ev_ok hf hc
   obtain⟨h3,h4⟩:=fdx_run (w:=w) hτ h2 h
   exact⟨by rw[h1];simp[h3],h4⟩
 case convert s d x=>
  cases hc:ev fr x with
  | none=>rw[hc] at h;simp at h
  | some p=>
   rw[hc] at h
   cases p<;>simp only at h<;>first | (simp at h;done) | skip
   rename_i k n
   cases hs:lk τ s with
   | none=>rw[hs] at h;simp at h
   | some si=>
    rw[hs] at h
    cases hd:lk τ d with
    | none=>rw[hd] at h;simp at h
    | some di=>
     rw[hd] at h
     simp only at h
     cases hk:di.ik with
     | none=>rw[hk] at h;simp at h
     | some k2=>
      rw[hk] at h
      simp at h
      subst h
      obtain⟨h1,-⟩:=ev_ok hf hc
      obtain⟨dd,hu,-⟩:=(hτ s si hs).desc
      have hv:=(hτ d di hd).ikind hk
      have h1':a.eval x=.int k n:=h1
      refine⟨?_,trivial⟩
      show _=Result.ok (Next.value (.int k2 (k2.wrap n))) w
      simp[h1',convert,run_underlying hu,run_underlying hv,Conv.intToInt]
 case unOp uo t x=>
  cases uo<;>simp only[vx] at h<;>try (simp at h;done)
  case neg=>
   cases hc:ev fr x with
   | none=>rw[hc] at h;simp at h
   | some p=>
    rw[hc] at h
    obtain⟨h1,-⟩:=ev_ok hf hc
    cases p<;>simp at h
    subst h
    exact⟨by rw[h1];simp[Op.unary,Op.intArith,den,den2,den1],trivial⟩
  case xor=>
   cases hc:ev fr x with
   | none=>rw[hc] at h;simp at h
   | some p=>
    rw[hc] at h
    obtain⟨h1,-⟩:=ev_ok hf hc
    cases p<;>simp at h
    subst h
    exact⟨by rw[h1];simp[Op.unary,Op.intBits,den,den2,den1],trivial⟩
  cases hc:ev fr x with
  | none=>rw[hc] at h;simp at h
  | some p=>
   rw[hc] at h
   obtain⟨h1,-⟩:=ev_ok hf hc
   cases p<;>simp at h
   subst h
   exact⟨by rw[h1];simp[Op.unary,den,den2,den1],trivial⟩
 case binOp bo t x y yt=>
  cases hc:ev fr x with
  | none=>rw[hc] at h;simp at h
  | some p=>
   rw[hc] at h
   simp only at h
   cases hd:ev fr y with
   | none=>rw[hd] at h;simp at h
   | some q=>
    rw[hd] at h
    simp only at h
    obtain⟨h1,hp1⟩:=ev_ok hf hc
    obtain⟨h2,-⟩:=ev_ok hf hd
    obtain⟨h3,h4⟩:=binyx_run (P:=P) (ρ:=ρ) (nx:=nx) (w:=w) (x:=x) (y:=y) hτ hp1 h
    refine⟨?_,h4⟩
    rw[h1,h2]
    rw[Sem.run_bind,h3]
    simp
 case build t parts=>
  cases hti:lk τ t with
  | none=>rw[hti] at h;simp at h
  | some ti=>
   rw[hti] at h
   simp only at h
   split at h
   ·rename_i o1 or ho hz
    cases hb:bldx ti fr parts.toList ti.zero with
    | none=>rw[hb] at h;simp at h
    | some l=>
     rw[hb] at h
     simp at h
     subst h
     obtain⟨h1,h2⟩:=build_run (P:=P) (w:=w) (hτ t ti hti) hf ho hz hb
     exact⟨by rw[Sem.run_bind,h1];rfl,h2⟩
   ·simp at h
 case nilCheck x=>
  cases hc:ev fr x with
  | none=>rw[hc] at h;simp at h
  | some p=>
   rw[hc] at h
   obtain⟨h1,h2⟩:=ev_ok hf hc
   cases p<;>first | (cases h;done) | skip
   rename_i q
   cases q with
   | none=>cases h
   | some ad=>
    cases h
    refine⟨?_,h2⟩
    obtain⟨cb,co,hA⟩:=(show ∃ b o,(ρ ad.block).A=some ⟨b,o,none⟩ from h2.2.1)
    have e:den ρ (.pointer (some ad))=.pointer (some ⟨cb,co+ad.spot.getD 0 * (ρ ad.block).sz+ad.off,none⟩):=by simp[den,den2,den1,dA_some hA]
    rw[h1,e]
    simp
 case extract x i=>
  cases hc:ev fr x with
  | none=>rw[hc] at h;simp at h
  | some p=>
   rw[hc] at h
   obtain⟨h1,h2⟩:=ev_ok hf hc
   cases p<;>simp only at h<;>try (simp at h;done)
   rename_i vs
   cases hi:vs[i]? with
   | none=>rw[hi] at h;simp at h
   | some u=>
    rw[hi] at h
    simp only at h
    have hu2:ok2 ρ nx u:=h2 u (Array.mem_of_getElem? hi)
    rcases not_tuple u with⟨cs,rfl⟩ | ⟨f,a',b,rfl⟩ | ⟨e1,e2⟩
    ·simp at h
    ·simp at h
    ·have:u=v:=by cases u<;>simp at h<;>exact h
     subst this
     refine⟨?_,by rw[e2];exact hu2⟩
     rw[h1,e1]
     have hd:den ρ (.tuple vs)=.tuple (vs.map (den2 ρ)):=rfl
     rw[hd]
     simp only[Instr.extract,Array.getElem?_map,hi,Option.map_some]
     rfl
 case call c=>
  obtain⟨callee,args,argTypes⟩:=c
  cases callee with
  | value f=>simp[vx] at h
  | invoke r m=>simp[vx] at h
  | builtin b=>
   cases b<;>simp only[vx] at h<;>try (simp at h;done)
   case len=>
    cases hc:evs fr args.toList with
    | none=>rw[hc] at h;simp at h
    | some vs=>
     rw[hc] at h
     simp only at h
     obtain⟨h1,h2⟩:=evs_ok hf hc
     have h1':args.map a.eval=(vs.map (den ρ)).toArray:=by apply Array.toList_inj.1;simp[h1]
     split at h
     ·rename_i t hts
      have hat:argTypes=#[t]:=by apply Array.toList_inj.1;simp[hts]
      cases hti:lk τ t with
      | none=>rw[hti] at h;simp at h
      | some ti=>
       rw[hti] at h
       simp only at h
       unfold lenx at h
       split at h
       ·rename_i A n cp
        cases hsl:ti.sl with
        | false=>rw[hsl] at h;simp at h
        | true=>
         rw[hsl] at h
         simp at h
         subst h
         obtain⟨e,hu,-⟩:=(hτ t ti hti).slice hsl
         refine⟨?_,trivial⟩
         have hds:∃ A',den ρ (.slice A n cp)=.slice A' n cp:=by
          cases A with
          | none=>exact⟨none,rfl⟩
          | some ad=>exact⟨_,rfl⟩
         obtain⟨A',hA'⟩:=hds
         simp only[List.map_cons,List.map_nil,hA'] at h1'
         rw[show den ρ (.int .i64 n)=.int .i64 n from rfl]
         simp[resolve,invoke,builtin,h1',hat,Builtin.len_,run_underlying hu,goInt]
       ·simp at h
     ·simp at h
   case max=>
    cases hc:evs fr args.toList with
    | none=>rw[hc] at h;simp at h
    | some vs=>
     rw[hc] at h
     simp only at h
     obtain⟨h1,h2⟩:=evs_ok hf hc
     have h1':args.map a.eval=(vs.map (den ρ)).toArray:=by apply Array.toList_inj.1;simp[h1]
     unfold maxx at h
     split at h
     ·simp at h
      subst h
      exact⟨by simp[resolve,invoke,builtin,h1',Builtin.max_,Builtin.max2,den,den2,den1],trivial⟩
     ·simp at h
   case min=>
    cases hc:evs fr args.toList with
    | none=>rw[hc] at h;simp at h
    | some vs=>
     rw[hc] at h
     simp only at h
     obtain⟨h1,h2⟩:=evs_ok hf hc
     have h1':args.map a.eval=(vs.map (den ρ)).toArray:=by apply Array.toList_inj.1;simp[h1]
     unfold minx at h
     split at h
     ·simp at h
      subst h
      exact⟨by simp[resolve,invoke,builtin,h1',Builtin.min_,Builtin.min2,den,den2,den1],trivial⟩
     ·simp at h
end
abbrev CT:=List Value→AM→Nat→(Value→AM→Nat→Prop)→Prop
abbrev FT:=List (Nat×CT)
def plB:Value→Bool
 | .pointer (some _)=>false
 | .slice (some _) _ _=>false
 | .map (some _)=>false
 | _=>true
def setEl (el:Nat→List Value) (k:Nat) (l:List Value):Nat→List Value:=fun j=>match Nat.beq j k with | true=>l | false=>el j
def rowsx (fr:AF) (sz:Nat):Nat→List (Nat×Operand)→Option (List (List Value))
 | _,[]=>some []
 | p,(i,x)::r=>(match Nat.beq i p,ev fr x with
  | true,some v=>(match decide ((cellsOf v).length=sz),(cellsOf v).all atom,(cellsOf v).all plB with
   | true,true,true=>(match rowsx fr sz (p+1) r with | some rs=>some (cellsOf v::rs) | none=>none)
   | _,_,_=>none)
  | _,_=>none)
def putK (d:Option Nat) (v:Value) (fr:AF) (K:AF→Prop):Prop:=match d with | some d=>K ((d,v)::fr) | none=>K fr
theorem putK_eq (d:Option Nat) (v:Value) (fr:AF) (K:AF→Prop):putK d v fr K=K (putF d v fr):=by cases d<;>rfl
def srcx (mem:AM) (sz:Nat) (x:Value) (k:Nat→(Nat→List Value)→Prop):Prop:=match x with
 | .slice none m _=>(match m with | 0=>k 0 (fun _=>[]) | _=>False)
 | .slice (some ⟨q,qo,qs⟩) m _=>(match qs with
  | none=>(match qo,lk mem q with
   | 0,some (.row _ sz' n2 el2)=>(match Nat.beq sz' sz with | true=>(m≤n2∧∀ k,k<m→(el2 k).all atom=true)∧k m el2 | false=>False)
   | _,_=>False)
  | some k0=>(match lk mem q with
   | some (.ext (.fam _ sb))=>(match Nat.beq (sb k0 qo).sz sz with | true=>(m≤(sb k0 qo).n∧∀ k,k<m→((sb k0 qo).el k).all atom=true)∧k m (sb k0 qo).el | false=>False)
   | _=>False))
 | _=>False
def appx (elt:TypeId) (te:TI) (eb:Nat) (s x:Value) (mem:AM) (nx:Nat) (K:Value→AM→Nat→Prop):Prop:=srcx mem te.size x fun m el2=>match s with
 | .slice none len cap=>(match len,cap with
  | 0,0=>(m=0→K (.slice none 0 0) mem nx)∧(m≠0→m * eb≤140737488355328∧∀ cap' el',(m≤cap'∧∀ k,m≤k→el' k=te.zero)→(∀ k,k<m→el' k=el2 k)→K (.slice (some ⟨nx,0,none⟩) m cap') ((nx,.row (1000000+elt) te.size cap' el')::mem) (nx+1))
  | _,_=>False)
 | .slice (some ⟨r,ro,rs⟩) len cap=>(match ro,rs,lk mem r with
  | 0,none,some (.row bt sz' n el)=>(match ownT bt,Nat.beq sz' te.size with
   | true,true=>(cap=n∧len≤n)∧(len+m≤n→∀ el',((∀ k,k<len→el' k=el k)∧∀ k,n≤k→el' k=te.zero)→(∀ k,k<m→el' (len+k)=el2 k)→K (.slice (some ⟨r,0,none⟩) (len+m) n) ((r,.row bt sz' n el')::mem) nx)∧
    (n<len+m→(len+m) * eb≤140737488355328∧∀ cap' el',(len+m≤cap'∧∀ k,len+m≤k→el' k=te.zero)→(∀ k,k<len→el' k=el k)→(∀ k,k<m→el' (len+k)=el2 k)→K (.slice (some ⟨nx,0,none⟩) (len+m) cap') ((nx,.row (1000000+elt) te.size cap' el')::mem) (nx+1))
   | _,_=>False)
  | _,_,_=>False)
 | _=>False
def actx (τ:TT) (F:FT) (dst:Option Nat) (op:Op) (fr:AF) (mem:AM) (nx:Nat) (K:AF→AM→Nat→Prop):Prop:=
 match op with
 | .alloc t=>(match lk τ t with
  | some ti=>putK dst (.pointer (some ⟨nx,0,none⟩)) fr fun fr'=>K fr' ((nx,.box t ti.zero)::mem) (nx+1)
  | none=>False)
 | .box t x=>(match ev fr x with
  | some v=>(match v with
   | .tuple _=>False
   | .func _ _ _=>False
   | v=>putK dst (.pointer (some ⟨nx,0,none⟩)) fr fun fr'=>K fr' ((nx,.box t (cellsOf v))::mem) (nx+1))
  | none=>False)
 | .store t x y=>(match ev fr x,ev fr y,lk τ t with
  | some (.pointer (some ⟨ab,ao,as_⟩)),some v,some ti=>(match lk mem ab,as_ with
   | some (.box bt cs),none=>(match decide ((cellsOf v).length=ti.size),(cellsOf v).all atom,putN ao (cellsOf v) cs,dst with
    | true,true,some l,none=>K fr ((ab,.box bt l)::mem) nx
    | _,_,_,_=>False)
   | some (.row bt sz n el),some k=>(match decide ((cellsOf v).length=ti.size),(cellsOf v).all atom,(cellsOf v).all plB,ownT bt,dst with
    | true,true,true,true,none=>∃ l,putN ao (cellsOf v) (el k)=some l∧K fr ((ab,.row bt sz n (setEl el k l))::mem) nx
    | _,_,_,_,_=>False)
   | _,_=>False)
  | _,_,_=>False)
 | .buildSlice t len parts=>(match lk τ t with
  | some ti=>(match ti.sl,ti.eb,lk τ ti.elt with
   | true,_+1,some te=>(match te.size,rowsx fr te.size 0 parts.toList with
    | _+1,some rs=>(match Nat.beq rs.length len,Nat.ble (len * te.size) 16777216 with
     | true,true=>putK dst (.slice (some ⟨nx,0,none⟩) len len) fr fun fr'=>K fr' ((nx,.row (1000000+ti.elt) te.size len (fun k=>rs.getD k []))::mem) (nx+1)
     | _,_=>False)
    | _,_=>False)
   | _,_,_=>False)
  | none=>False)
 | .makeSlice t x y=>(match ev fr x,ev fr y,lk τ t with
  | some (.int _ n),some (.int _ n'),some ti=>(match ti.sl,ti.eb,lk τ ti.elt with
   | true,eb+1,some te=>(match te.size,Nat.beq te.zero.length te.size with
    | _+1,true=>(n≤n'∧0≤n∧n' * ((eb+1:Nat):Int)≤281474976710656)∧putK dst (.slice (some ⟨nx,0,none⟩) n.toNat n'.toNat) fr fun fr'=>K fr' ((nx,.row (1000000+ti.elt) te.size n'.toNat (fun _=>te.zero))::mem) (nx+1)
    | _,_=>False)
   | _,_,_=>False)
  | _,_,_=>False)
 | .indexAddr t x i=>(match ev fr x,ev fr i,lk τ t with
  | some (.slice (some ⟨ab,ao,as_⟩) n _),some (.int _ k),some ti=>(match lk mem ab with
   | some (.row _ sz n' _)=>(match ao,as_,ti.sl,ti.esz,Nat.beq ti.esz sz with
    | 0,none,true,_+1,true=>(n≤n'∧0≤k∧k<n)∧putK dst (.pointer (some ⟨ab,0,some k.toNat⟩)) fr fun fr'=>K fr' mem nx
    | _,_,_,_,_=>False)
   | _=>False)
  | _,_,_=>False)
 | .binOp bo t x y _=>(match ev fr x,ev fr y with
  | some (.int k b),some (.int k' c)=>(match bo with
   | .shl=>0≤c∧putK dst (.int k (k.wrap (b * 2 ^ min c.toNat k.bits))) fr fun fr'=>K fr' mem nx
   | .shr=>0≤c∧putK dst (.int k (b.fdiv (2 ^ min c.toNat k.bits))) fr fun fr'=>K fr' mem nx
   | .quo=>(k=k'∧c≠0)∧putK dst (.int k (k.wrap (b.tdiv c))) fr fun fr'=>K fr' mem nx
   | .rem=>(k=k'∧c≠0)∧putK dst (.int k (b.tmod c)) fr fun fr'=>K fr' mem nx
   | _=>False)
  | _,_=>False)
 | .slice t x none (some y) none=>(match ev fr x,ev fr y,lk τ t with
  | some (.slice A _ cap),some (.int _ h),some ti=>(match ti.sl,ti.esz with
   | true,_+1=>(0≤h∧h≤cap)∧putK dst (.slice A h.toNat cap) fr fun fr'=>K fr' mem nx
   | _,_=>False)
  | _,_,_=>False)
 | .call { callee:=.builtin .append,args,argTypes }=>(match evs fr args.toList,argTypes.toList with
  | some [s,x],[t,tx]=>(match lk τ t,lk τ tx with
   | some ti,some tj=>(match ti.sl,tj.sl,ti.eb,lk τ ti.elt with
    | true,true,eb+1,some te=>(match te.size,Nat.beq te.zero.length te.size with
     | _+1,true=>appx ti.elt te (eb+1) s x mem nx (fun v mem' nx'=>putK dst v fr fun fr'=>K fr' mem' nx')
     | _,_=>False)
    | _,_,_,_=>False)
   | _,_=>False)
  | _,_=>False)
 | .call { callee:=.value (.func f),args,.. }=>(match evs fr args.toList,lk F f with
  | some vs,some ct=>ct vs mem nx (fun v mem' nx'=>putK dst v fr fun fr'=>K fr' mem' nx')
  | _,_=>False)
 | .call { callee:=.value (.tmp t),args,.. }=>(match lk fr t with
  | some (.func (.func f) fs cs)=>(match evs fr args.toList,lk F f,fs.toList.all atom,cs.toList.all atom with
   | some vs,some ct,true,true=>ct (fs.toList++(vs++cs.toList)) mem nx (fun v mem' nx'=>putK dst v fr fun fr'=>K fr' mem' nx')
   | _,_,_,_=>False)
  | _=>False)
 | _=>False
/-! Operations on wider blocks. -/
def emptySB:SB:=⟨0,0,fun _=>[]⟩
def sbV (mem:AM) (v:Value):Option (Bool×SB):=match v with
 | .slice (some ⟨q,o,s⟩) _ _=>(match s with
  | none=>(match o,lk mem q with
   | 0,some (.row t sz n el)=>(match ownT t with | false=>some (frT t,⟨sz,n,el⟩) | true=>none)
   | _,_=>none)
  | some k=>(match lk mem q with
   | some (.ext (.fam t sb))=>some (frT t,sb k o)
   | _=>none))
 | v=>(match atom v,plB v with | true,true=>some (true,emptySB) | _,_=>none)
def sbL (mem:AM):List Value→Option (Bool×List SB)
 | []=>some (true,[])
 | v::l=>(match sbV mem v,sbL mem l with | some (b,s),some (c,r)=>some (b&&c,s::r) | _,_=>none)
def sbLL (mem:AM):List (List Value)→Option (Bool×List (List SB))
 | []=>some (true,[])
 | v::l=>(match sbL mem v,sbLL mem l with | some (b,s),some (c,r)=>some (b&&c,s::r) | _,_=>none)
def dumV:Value→Value
 | .slice (some _) n c=>.slice (some ⟨0,0,none⟩) n c
 | v=>v
def famT (b:Bool):TypeId:=match b with | true=>500000 | false=>0
def partsx (fr:AF) (sz:Nat):Nat→List (Nat×Operand)→Option (List (List Value))
 | _,[]=>some []
 | p,(i,x)::r=>(match Nat.beq i p,ev fr x with
  | true,some v=>(match decide ((cellsOf v).length=sz),(cellsOf v).all atom with
   | true,true=>(match partsx fr sz (p+1) r with | some rs=>some (cellsOf v::rs) | none=>none)
   | _,_=>none)
  | _,_=>none)
def dpT (te:TI):Bool:=te.zero.any fun v=>match v with | .slice _ _ _=>true | _=>false
def srcy (mem:AM) (sz:Nat) (x:Value) (k:Nat→Nat→Bool→(Nat→List Value)→(Nat→Nat→SB)→Prop):Prop:=match x with
 | .slice (some ⟨q,qo,qs⟩) m _=>(match qo,qs,lk mem q with
  | 0,none,some (.ext (.deep _ sz' n2 _ el2 u2))=>(match Nat.beq sz' sz,lk mem u2 with
   | true,some (.ext (.fam t2 sb2))=>(m≤n2∧∀ k,k<m→(el2 k).all atom=true)∧k q m (frT t2) el2 sb2
   | _,_=>False)
  | _,_,_=>False)
 | _=>False
def noFam:ABlk:=.ext (.fam 0 (fun _ _=>emptySB))
def appy (elt:TypeId) (te:TI) (eb:Nat) (s x:Value) (mem:AM) (nx:Nat) (K:Value→AM→Nat→Prop):Prop:=srcy mem te.size x fun q m b2 el2 sb2=>match s with
 | .slice none len cap=>(match len,cap with
  | 0,0=>(m≠0∧m * eb≤140737488355328)∧∀ cap',m≤cap'→∃ el' sb',((∀ k,k<m→el' k=el2 k∧sb' k=sb2 k)∧∀ k,m≤k→∀ o,(sb' k o).n=0)∧K (.slice (some ⟨nx+1,0,none⟩) m cap') ((nx+1,.ext (.deep (1000000+elt) te.size m cap' el' nx))::(nx,.ext (.fam (famT b2) sb'))::mem) (nx+2)
  | _,_=>False)
 | .slice (some ⟨r,ro,rs⟩) len cap=>(match ro,rs,lk mem r with
  | 0,none,some (.ext (.deep bt sz' n cap1 el u))=>(match Nat.beq bt (1000000+elt),Nat.beq sz' te.size,Nat.beq r q,lk mem u with
   | true,true,false,some (.ext (.fam t1 sb))=>((cap=cap1∧len=n)∧m≠0∧(len+m) * eb≤140737488355328)∧∀ cap',len+m≤cap'→∃ el' sb',((∀ k,k<len→el' k=el k∧sb' k=sb k)∧(∀ k,k<m→el' (len+k)=el2 k∧sb' (len+k)=sb2 k)∧∀ k,len+m≤k→∀ o,(sb' k o).n=0)∧
     K (.slice (some ⟨nx+1,0,none⟩) (len+m) cap') ((nx+1,.ext (.deep (1000000+elt) te.size (len+m) cap' el' nx))::(nx,.ext (.fam (famT (b2&&frT t1)) sb'))::(r,noFam)::mem) (nx+2)
   | _,_,_,_=>False)
  | _,_,_=>False)
 | _=>False
def mapPut (f:Int→Option (List Value)) (z:Int) (l:List Value) (f':Int→Option (List Value)):Prop:=∀ y,f' y=if y=z then some l else f y
def mkLk (ok:Bool) (v:Value) (b:Bool):Value:=match ok with | true=>.tuple #[v,.bool b] | false=>v
def unownK (l:List Value):AM→(AM→Prop)→Prop:=
 List.rec (fun mem K=>K mem) (fun v _ ih mem K=>match v with
  | .slice (some ⟨q,o,s⟩) _ _=>(match s,o,lk mem q with
   | none,0,some (.row t sz n el)=>(match ownT t with | true=>ih ((q,.row 500000 sz n el)::mem) K | false=>ih mem K)
   | _,_,_=>ih mem K)
  | _=>ih mem K) l
def acty (τ:TT) (dst:Option Nat) (op:Op) (fr:AF) (mem:AM) (nx:Nat) (K:AF→AM→Nat→Prop):Prop:=
 match op with
 | .buildSlice t len parts=>(match lk τ t with
  | some ti=>(match ti.sl,ti.eb,lk τ ti.elt with
   | true,_+1,some te=>(match te.size,partsx fr te.size 0 parts.toList,te.isP with
    | 1,some rs,true=>(match Nat.beq rs.length len,Nat.ble len 1000 with
     | true,true=>putK dst (.slice (some ⟨nx,0,none⟩) len len) fr fun fr'=>K fr' ((nx,.box ti.elt (rs.map fun l=>l.headD .nilFunc))::mem) (nx+1)
     | _,_=>False)
    | _+1,some rs,false=>unownK rs.flatten mem fun mem=>(match Nat.beq rs.length len,Nat.ble (len * te.size) 16777216,sbLL mem rs with
     | true,true,some (b,ss)=>∃ el sb,((∀ k,k<len→el k=(rs.getD k []).map dumV∧∀ o,sb k o=(ss.getD k []).getD o emptySB)∧∀ k,len≤k→∀ o,(sb k o).n=0)∧putK dst (.slice (some ⟨nx+1,0,none⟩) len len) fr fun fr'=>K fr' ((nx+1,.ext (.deep (1000000+ti.elt) te.size len len el nx))::(nx,.ext (.fam (famT b) sb))::mem) (nx+2)
     | _,_,_=>False)
    | _,_,_=>False)
   | _,_,_=>False)
  | none=>False)
 | .store t x y=>(match ev fr x,ev fr y,lk τ t with
  | some (.pointer (some ⟨r,0,some k⟩)),some v,some ti=>(match lk mem r with
   | some (.ext (.deep bt sz n cap el u))=>(match lk mem u,decide ((cellsOf v).length=ti.size),(cellsOf v).all atom,sbL mem (cellsOf v),ownT bt,Nat.beq sz ti.size,dst with
    | some (.ext (.fam t1 sb)),true,true,some (b,ss),true,true,none=>k<n∧∃ el' sb',((∀ j,j<n→j≠k→el' j=el j)∧(∀ j,j≠k→sb' j=sb j)∧el' k=(cellsOf v).map dumV∧∀ o,sb' k o=ss.getD o emptySB)∧K fr ((r,.ext (.deep bt sz n cap el' nx))::(nx,.ext (.fam (famT (b&&frT t1)) sb'))::mem) (nx+1)
    | _,_,_,_,_,_,_=>False)
   | _=>False)
  | _,_,_=>False)
 | .indexAddr t x i=>(match ev fr x,ev fr i,lk τ t with
  | some (.slice (some ⟨q,o,s⟩) n _),some (.int _ k),some ti=>(match s,lk mem q with
   | none,some (.box _ _)=>(match o,k,ti.sl,ti.esz with
    | 0,.ofNat kk,true,1=>(match Nat.blt kk n with | true=>putK dst (.pointer (some ⟨q,kk,none⟩)) fr fun fr'=>K fr' mem nx | false=>False)
    | _,_,_,_=>False)
   | none,some (.ext (.deep _ sz n' _ _ _))=>(match o,ti.sl,ti.esz,Nat.beq ti.esz sz with
    | 0,true,_+1,true=>(n≤n'∧0≤k∧k<n)∧putK dst (.pointer (some ⟨q,0,some k.toNat⟩)) fr fun fr'=>K fr' mem nx
    | _,_,_,_=>False)
   | some j,some (.ext (.fam tf sb))=>(match ti.sl,ti.esz,Nat.beq ti.esz (sb j o).sz with
    | true,_+1,true=>(n≤(sb j o).n∧0≤k∧k<n)∧putK dst (.pointer (some ⟨nx,0,some k.toNat⟩)) fr fun fr'=>K fr' ((nx,.row tf (sb j o).sz (sb j o).n (sb j o).el)::mem) (nx+1)
    | _,_,_=>False)
   | _,_=>False)
  | _,_,_=>False)
 | .slice t x (some lo) hi none=>(match ev fr x,ev fr lo,lk τ t with
  | some (.slice (some ⟨r,0,none⟩) len cap),some (.int _ l),some ti=>(match ti.sl,ti.esz,(match hi with | none=>some (Value.int .i64 len) | some y=>ev fr y) with
   | true,_+1,some (.int _ h)=>(match lk mem r with
    | some (.row tr sz n el)=>(match ownT tr,Nat.beq ti.esz sz with
     | false,true=>(0≤l∧l≤h∧h≤cap)∧∃ n2 el2,(n2+l.toNat≤n∧n2+l.toNat≤cap∧∀ j,j<n2→el2 j=el (l.toNat+j))∧putK dst (.slice (some ⟨nx,0,none⟩) (h.toNat-l.toNat) (cap-l.toNat)) fr fun fr'=>K fr' ((nx,.row tr sz n2 el2)::mem) (nx+1)
     | _,_=>False)
    | some (.ext (.deep tr sz n _ el u))=>(match ownT tr,Nat.beq ti.esz sz,lk mem u with
     | false,true,some (.ext (.fam tf sb))=>(0≤l∧l≤h∧h≤cap)∧∃ n2 el2 sb2,(n2+l.toNat≤n∧n2+l.toNat≤cap∧(∀ j,j<n2→el2 j=el (l.toNat+j)∧sb2 j=sb (l.toNat+j))∧∀ j,n2≤j→∀ o,(sb2 j o).n=0)∧putK dst (.slice (some ⟨nx+1,0,none⟩) (h.toNat-l.toNat) (cap-l.toNat)) fr fun fr'=>K fr' ((nx+1,.ext (.deep tr sz n2 0 el2 nx))::(nx,.ext (.fam tf sb2))::mem) (nx+2)
     | _,_,_=>False)
    | _=>False)
   | _,_,_=>False)
  | _,_,_=>False)
 | .makeMap t none=>(match lk τ t with
  | some ti=>(match ti.mpk,lk τ ti.mpe with
   | some kk,some te=>putK dst (.map (some nx)) fr fun fr'=>K fr' ((nx,.ext (.map kk te.agg (fun _=>none)))::mem) (nx+1)
   | _,_=>False)
  | none=>False)
 | .mapUpdate t x i y | .insert t x i y=>(match ev fr x,ev fr i,ev fr y,lk τ t,dst with
  | some (.map (some r)),some (.int k z),some v,some ti,none=>(match ti.mpk,lk mem r with
   | some kk,some (.ext (.map kk' ag f))=>(match decide (kk=k),decide (kk'=k),(cellsOf v).all atom,(cellsOf v).all plB,(match v with | .agg _=>ag | _=>!ag) with
    | true,true,true,true,true=>∃ f',mapPut f z (cellsOf v) f'∧K fr ((r,.ext (.map kk' ag f'))::mem) nx
    | _,_,_,_,_=>False)
   | _,_=>False)
  | _,_,_,_,_=>False)
 | .lookup t x i ok=>(match ev fr x,ev fr i,lk τ t with
  | some (.map (some r)),some (.int k z),some ti=>(match ti.mpk,lk mem r,lk τ ti.mpe with
   | some kk,some (.ext (.map kk' ag f)),some te=>(match decide (kk=k),decide (kk'=k),decide (te.agg=ag) with
    | true,true,true=>(∀ l,f z=some l→putK dst (mkLk ok (wrapC ag l) true) fr fun fr'=>K fr' mem nx)∧(f z=none→putK dst (mkLk ok (wrapC ag te.zero) false) fr fun fr'=>K fr' mem nx)
    | _,_,_=>False)
   | _,_,_=>False)
  | _,_,_=>False)
 | .call { callee:=.builtin .append,args,argTypes }=>(match evs fr args.toList,argTypes.toList with
  | some [s,x],[t,tx]=>(match lk τ t,lk τ tx with
   | some ti,some tj=>(match ti.sl,tj.sl,ti.eb,lk τ ti.elt with
    | true,true,eb+1,some te=>(match te.size,Nat.beq te.zero.length te.size with
     | _+1,true=>appy ti.elt te (eb+1) s x mem nx (fun v mem' nx'=>putK dst v fr fun fr'=>K fr' mem' nx')
     | _,_=>False)
    | _,_,_,_=>False)
   | _,_=>False)
  | _,_=>False)
 | _=>False
def eltD (τ:TT) (t:TypeId):Bool:=match lk τ t with
 | some ti=>(match lk τ ti.elt with | some te=>ti.sl&&(dpT te||te.isP) | none=>false)
 | none=>false
def isY (τ:TT) (fr:AF) (mem:AM) (op:Op):Bool:=match op with
 | .buildSlice t _ _=>eltD τ t
 | .store _ x _=>(match ev fr x with
  | some (.pointer (some ⟨r,_,_⟩))=>(match lk mem r with | some (.ext _)=>true | _=>false)
  | _=>false)
 | .indexAddr _ x _=>(match ev fr x with
  | some (.slice (some ⟨r,_,_⟩) _ _)=>(match lk mem r with | some (.ext _)=>true | some (.box _ _)=>true | _=>false)
  | _=>false)
 | .slice _ _ (some _) _ _=>true
 | .makeMap _ _=>true
 | .mapUpdate _ _ _ _=>true
 | .insert _ _ _ _=>true
 | .lookup _ _ _ _=>true
 | .call { callee:=.builtin .append,argTypes,.. }=>(match argTypes.toList with | t::_=>eltD τ t | _=>false)
 | _=>false
def opx (τ:TT) (F:FT) (o:Oper) (fr:AF) (mem:AM) (nx:Nat) (K:AF→AM→Nat→Prop):Prop:=
 match o with
 | ⟨dst,op,_,_,_,_⟩=>(match vx τ fr mem op with
  | some v=>putK dst v fr fun fr'=>K fr' mem nx
  | none=>(match isY τ fr mem op with
   | true=>acty τ dst op fr mem nx K
   | false=>actx τ F dst op fr mem nx K))
def Ext (ρ:Nat→Pl) (nx:Nat) (ρ':Nat→Pl) (nx':Nat):Prop:=(∀ i,i<nx→(ρ i).res=false→ρ' i=ρ i)∧nx≤nx'
theorem Ext.refl (ρ:Nat→Pl) (nx:Nat):Ext ρ nx ρ nx:=⟨fun _ _ _=>rfl,Nat.le_refl _⟩
theorem Ext.set (ρ:Nat→Pl) (nx:Nat) (p:Pl):Ext ρ nx (setPl ρ nx p) (nx+1):=⟨fun _ hi _=>setPl_lt ρ _ hi,Nat.le_succ _⟩
theorem Ext.trans {ρ1 ρ2 ρ3:Nat→Pl} {n1 n2 n3:Nat} (h:Ext ρ1 n1 ρ2 n2) (k:Ext ρ2 n2 ρ3 n3):Ext ρ1 n1 ρ3 n3:=
 ⟨fun i hi hr=>by
  have e:=h.1 i hi hr
  rw[k.1 i (Nat.lt_of_lt_of_le hi h.2) (by rw[e];exact hr),e],Nat.le_trans h.2 k.2⟩
def ExtS (ρ:Nat→Pl) (nx:Nat) (ρ':Nat→Pl) (nx':Nat):Prop:=(∀ i,i<nx→ρ' i=ρ i)∧nx≤nx'
theorem ExtS.refl (ρ:Nat→Pl) (nx:Nat):ExtS ρ nx ρ nx:=⟨fun _ _=>rfl,Nat.le_refl _⟩
theorem ExtS.set (ρ:Nat→Pl) (nx:Nat) (p:Pl):ExtS ρ nx (setPl ρ nx p) (nx+1):=⟨fun _ hi=>setPl_lt ρ _ hi,Nat.le_succ _⟩
theorem ExtS.ext {ρ1 ρ2:Nat→Pl} {n1 n2:Nat} (h:ExtS ρ1 n1 ρ2 n2):Ext ρ1 n1 ρ2 n2:=⟨fun i hi _=>h.1 i hi,h.2⟩
theorem ExtS.trans {ρ1 ρ2 ρ3:Nat→Pl} {n1 n2 n3:Nat} (h:ExtS ρ1 n1 ρ2 n2) (k:ExtS ρ2 n2 ρ3 n3):ExtS ρ1 n1 ρ3 n3:=
 ⟨fun i hi=>(k.1 i (Nat.lt_of_lt_of_le hi h.2)).trans (h.1 i hi),Nat.le_trans h.2 k.2⟩
structure CSound (P:Program) (f:FuncId) (ct:CT):Prop where
 ent : (P.funcs[f]?).map (fun fn => (fn.name == "runtime.NumGoroutine", fn.body.isNone)) = some (false, false)
 run:∀ {C:Ctx} {ρ:Nat→Pl} {fr:AF} {mem:AM} {nx:Nat} {a:Act} {w:World} {vs:List Value} {K:Value→AM→Nat→Prop},ct vs mem nx K→Sat C ρ fr mem nx a w→(∀ v ∈ vs,okV ρ nx v)→
  Calls P f (vs.map (den ρ)).toArray w fun e w'=>∃ v mem' nx' ρ',e=.returned (den ρ' v)∧K v mem' nx'∧Sat C ρ' fr mem' nx' a w'∧okV ρ' nx' v∧ExtS ρ nx ρ' nx'
def FTok (P:Program) (F:FT):Prop:=∀ f ct,lk F f=some ct→CSound P f ct
structure CSoundC (P:Program) (f:FuncId) (ct:CT) (C:Ctx):Prop where
 ent : (P.funcs[f]?).map (fun fn => (fn.name == "runtime.NumGoroutine", fn.body.isNone)) = some (false, false)
 run:∀ {ρ:Nat→Pl} {fr:AF} {mem:AM} {nx:Nat} {a:Act} {w:World} {vs:List Value} {K:Value→AM→Nat→Prop},ct vs mem nx K→Sat C ρ fr mem nx a w→(∀ v ∈ vs,okV ρ nx v)→
  Calls P f (vs.map (den ρ)).toArray w fun e w'=>∃ v mem' nx' ρ',e=.returned (den ρ' v)∧K v mem' nx'∧Sat C ρ' fr mem' nx' a w'∧okV ρ' nx' v∧ExtS ρ nx ρ' nx'
theorem CSound.at {P:Program} {f:FuncId} {ct:CT} (h:CSound P f ct) (C:Ctx):CSoundC P f ct C:=⟨h.ent,fun hc hs hv=>h.run hc hs hv⟩
def CSoundI (P:Program) (I:List Nat) (f:FuncId) (ct:CT):Prop:=∀ C:Ctx,(C.fm=[]∨I.contains f=false)→CSoundC P f ct C
def FTokI (P:Program) (F:FT) (I:List Nat):Prop:=∀ f ct,lk F f=some ct→CSoundI P I f ct
theorem CSound.i {P:Program} {f:FuncId} {ct:CT} (h:CSound P f ct) (I:List Nat):CSoundI P I f ct:=fun C _=>h.at C
theorem FTok.i {P:Program} {F:FT} (h:FTok P F) (I:List Nat):FTokI P F I:=fun f ct hl=>(h f ct hl).i I
theorem fti_nil {P:Program} {I:List Nat}:FTokI P [] I:=fun f ct h=>by simp[lk] at h
theorem fti_cons {P:Program} {I:List Nat} {f:Nat} {ct:CT} {F:FT} (h:CSoundI P I f ct) (hr:FTokI P F I):FTokI P ((f,ct)::F) I:=fun g c hl=>by
 rcases lk_cons hl with⟨rfl,rfl⟩ | ⟨_,hl⟩
 ·exact h
 ·exact hr g c hl
def inlOk (I:List Nat) (op:Op):Bool:=match op with
 | .call { callee:=.value (.func f),.. }=>!I.contains f
 | .call { callee:=.value (.tmp _),.. }=>false
 | _=>true
section
variable {P:Program} {τ:TT} {F:FT} {C:Ctx} {ρ:Nat→Pl} {fr:AF} {mem:AM} {nx:Nat} {a:Act} {w:World} {Q:Exit→Act→World→Prop}
theorem cells_den {v:Value} (h:nt v=true):(den ρ v).cells=((cellsOf v).map (den1 ρ)).toArray:=by
 cases v with
 | agg cs=>apply Array.toList_inj.1;simp[den,den2,Value.cells,cellsOf]
 | tuple vs=>cases h
 | func f a b=>cases h
 | pointer p=>cases p<;>rfl
 | slice p n c=>cases p<;>rfl
 | map p=>cases p<;>rfl
 | _=>rfl
theorem cells_ok {v:Value} (h:nt v=true) (hv:okV ρ nx v):∀ u ∈ cellsOf v,ok1 ρ nx u:=by
 cases v with
 | agg cs=>intro u hu;exact hv u (by simpa [cellsOf] using hu)
 | tuple vs=>cases h
 | func f a b=>cases h
 | _=>intro u hu;simp[cellsOf] at hu;subst hu;exact hv
theorem atom_one {v:Value} (h:atom v=true):(den1 ρ v).oneCell'=true:=by
 cases v with
 | agg cs=>simp[atom] at h
 | tuple cs=>simp[atom] at h
 | func f a b=>simp[atom] at h
 | pointer p=>cases p<;>rfl
 | slice p n c=>cases p<;>rfl
 | map p=>cases p<;>rfl
 | _=>rfl
theorem run_store {t:TypeId} {ti:TI} (ht:TIok P t ti) {g o:Nat} {v:Value} (hnt:nt v=true) (hl:(cellsOf v).length=ti.size) (hat:(cellsOf v).all atom=true) (hth:w.there g o (cellsOf v).length) :
  (Instr.storeAt t (.pointer (some ⟨g,o,none⟩)) (den ρ v)).run P w=.ok () (w.setCells g o ((cellsOf v).map (den1 ρ))):=by
 obtain⟨i,hi,hs,-⟩:=ht.size
 have hc:=cells_den (ρ:=ρ) hnt
 have:=run_storeCells_cells (P:=P) g o ((cellsOf v).map (den1 ρ)) 0 w (fun j hj=>by simpa using (hth j (by simpa using hj)).1) (fun j hj=>by simpa using (hth j (by simpa using hj)).2)
  (fun u hu=>by
   obtain⟨x,hx,rfl⟩:=List.mem_map.1 hu
   exact atom_one (List.all_eq_true.1 hat x hx))
 simp only[Nat.add_zero] at this
 simp[Instr.storeAt,Instr.sureAddr,storeVar,sizeOf,typeInfo,hi,hc,hs,hl,this]
theorem setCells_rest (C:Ctx) {g:Nat} (hg:C.w0.heap.size≤g∨g ∈ C.bor):∀ (vs:List Value) {w:World} (o:Nat),Rest C w→Rest C (w.setCells g o vs)
 | [],w,o,h=>h
 | v::r,w,o,h=>by
  rw[World.setCells]
  refine setCells_rest C hg r (o+1) ⟨h.os,h.tape,h.output,by simpa [World.setCell] using h.size,fun b hb hn=>?_⟩
  rw[Below.heap_setCell w ⟨g,o,none⟩ v b (by
   show b≠g
   rintro rfl
   rcases hg with hg | hg
   ·omega
   ·exact hn hg)]
  exact h.block b hb hn
theorem RowA.far {S:Nat→Prop} {w':World} {t:TypeId} {b off:Nat} (h:RowA S w t b off) (hs:w.heap.size≤w'.heap.size) (hb:w'.heap[b]?=w.heap[b]?):RowA S w' t b off:=
 ⟨Nat.lt_of_lt_of_le h.lt hs,fun ho=>by obtain⟨h1,h2,ty,cs,h3⟩:=h.own ho;exact⟨h1,h2,ty,cs,hb.trans h3⟩,h.new⟩
theorem Sat.write (h:Sat C ρ fr mem nx a w) {i:Nat} {b b':ABlk} {w':World} (hb0:lk mem i=some b) (hs:w'.heap.size=w.heap.size) (hfar:∀ g,¬ bwr ρ i b g→w'.heap[g]?=w.heap[g]?) (hok:BlkOk C ρ nx i w' b') (hr:∀ g,brd ρ i b' g→brd ρ i b g) (hw:∀ g,bwr ρ i b' g→bwr ρ i b g) (hrest:Rest C w') :
  Sat C ρ fr ((i,b')::mem) nx a w':=by
 have hb:=lk_app (r:=C.fm) hb0
 refine⟨h.fok,h.sz,h.dfr,fun j c hj=>?_,fun j c hj=>?_,fun j k b1 b2 hne hj hk=>?_,h.n0,h.low,hrest⟩
 ·rcases lk_cons hj with⟨rfl,rfl⟩ | ⟨hne,hj⟩
  ·exact h.mlt i _ hb
  ·exact h.mlt j c hj
 ·rcases lk_cons hj with⟨rfl,rfl⟩ | ⟨hne,hj⟩
  ·exact hok
  ·exact (h.blk j c hj).far (by omega) fun g hg=>hfar g fun hg2=>(h.sep i j _ _ hne hb hj).wr (h.sep j i _ _ (Ne.symm hne) hj hb) hg2 hg
 ·rcases lk_cons hj with⟨rfl,rfl⟩ | ⟨hnj,hj⟩
  ·rcases lk_cons hk with⟨rfl,rfl⟩ | ⟨hnk,hk⟩
   ·exact absurd rfl hne
   ·exact hok.apart fun g hg hg2=>(h.sep i k _ _ hne hb hk).wr (h.sep k i _ _ (Ne.symm hne) hk hb) (hw g hg) hg2
  ·rcases lk_cons hk with⟨rfl,rfl⟩ | ⟨hnk,hk⟩
   ·exact (h.blk j b1 hj).apart fun g hg hg2=>(h.sep j i _ _ hne hj hb).wr (h.sep i j _ _ (Ne.symm hne) hb hj) hg (hr g hg2)
   ·exact h.sep j k b1 b2 hne hj hk
theorem Sat.store (h:Sat C ρ fr mem nx a w) {i g o:Nat} {t:TypeId} {cs vs l:List Value} (hb0:lk mem i=some (.box t cs)) (hA:(ρ i).A=some ⟨g,0,none⟩) (hp:putN o vs cs=some l) (hv:∀ v ∈ vs,ok1 ρ nx v) :
  Sat C ρ fr ((i,.box t l)::mem) nx a (w.setCells g o (vs.map (den1 ρ))):=by
 have hb:=lk_app (r:=C.fm) hb0
 obtain⟨g',hA',hblk,hbase,hcs⟩:=h.blk i _ hb
 have hgg:g'=g:=by rw[hA] at hA';cases hA';rfl
 subst hgg
 refine h.write hb0 (setCells_size _ _) (fun b hb=>setCells_far _ _ b fun q=>hb (by simp[bwr,bno,hA',q])) ⟨g',hA',?_,hbase,fun u hu=>?_⟩ (fun g hg=>hg) (fun g hg=>hg) (setCells_rest C hbase _ _ h.rest)
 ·have:=hblk.setCells (vs.map (den1 ρ)) o
  rw[putN_map hp] at this
  exact this
 ·obtain⟨h1,h2,h3⟩:=putN_get _ _ _ _ hp
  obtain⟨j,hj⟩:=List.getElem?_of_mem hu
  rw[h3 j] at hj
  split at hj
  ·exact hv u (List.mem_of_getElem? hj)
  ·exact hcs u (List.mem_of_getElem? hj)
theorem plB_ok {v:Value} (h:plB v=true):plain1 v:=by
 cases v with
 | pointer p=>cases p<;>simp_all [plB,plain1]
 | slice p n c=>cases p<;>simp_all [plB,plain1]
 | map p=>cases p<;>simp_all [plB,plain1]
 | _=>trivial
theorem Sat.storeRow (h:Sat C ρ fr mem nx a w) {i k o:Nat} {t:TypeId} {sz n:Nat} {el:Nat→List Value} {vs l:List Value} (hb0:lk mem i=some (.row t sz n el)) (ho:ownT t=true) (hk:k<n) (hp:putN o vs (el k)=some l) (hv:∀ v ∈ vs,plain1 v) :
  ∃ g,(ρ i).A=some ⟨g,0,none⟩∧(ρ i).sz=sz∧w.there g (k * sz+o) vs.length∧Sat C ρ fr ((i,.row t sz n (setEl el k l))::mem) nx a (w.setCells g (k * sz+o) (vs.map (den1 ρ))):=by
 have hb:=lk_app (r:=C.fm) hb0
 obtain⟨⟨hsz,hnn⟩,hpl,hrow⟩:=h.blk i _ hb
 rcases hrow with h0 | ⟨g,off,hA,hat,hc⟩
 ·omega
 obtain⟨rfl,hbase,ty,cs,hblk⟩:=hat.own ho
 obtain⟨q1,q2,q3⟩:=putN_get _ _ _ _ hp
 have hlen:=(hpl k hk).1
 have hdv:vs.map (den1 ρ)=vs:=by
  conv=>rhs;rw[← List.map_id vs]
  exact List.map_congr_left fun v hv'=>den1_plain (hv v hv')
 have hin:∀ k',k'<n→∀ j,j<sz→k' * sz+j<cs.size:=fun k' hk' j hj=>by
  obtain⟨v,hv'⟩:∃ v,(el k')[j]?=some v:=⟨_,List.getElem?_eq_getElem (by rw[(hpl k' hk').1];exact hj)⟩
  have:=hc k' hk' j v hv'
  rw[Nat.zero_add,hblk.cell] at this
  rcases Nat.lt_or_ge (k' * sz+j) cs.size with q | q
  ·exact q
  ·rw[Array.getElem?_eq_none q] at this;cases this
 have hfar:∀ b,b≠g→(w.setCells g (k * sz+o) (vs.map (den1 ρ))).heap[b]?=w.heap[b]?:=fun b hb=>setCells_far _ _ b hb
 have hblk2:=hblk.setCells (vs.map (den1 ρ)) (k * sz+o)
 rw[hdv] at hblk2
 refine⟨g,hA,hsz,?_,?_⟩
 ·by_cases h0:vs.length=0
  ·intro j hj;omega
  ·exact hblk.there _ _ (by have:=hin k hk (o+vs.length-1) (by omega);omega)
 refine h.write hb0 (setCells_size _ _) (fun b hb=>hfar b fun q=>hb ⟨ho,by omega,by simp[bno,hA,q]⟩) ?_ (fun g hg=>hg) (fun g hg=>hg) (setCells_rest C hbase _ _ h.rest)
 have hel:∀ k',setEl el k l k'=if k'=k then l else el k':=fun k'=>by
   unfold setEl
   by_cases hkk:k'=k
   ·subst hkk;rw[Nat.beq_refl,if_pos rfl]
   ·have:Nat.beq k' k=false:=by
     cases hbb:Nat.beq k' k
     ·rfl
     ·exact absurd (Nat.eq_of_beq_eq_true hbb) hkk
    rw[this,if_neg hkk]
 refine⟨⟨hsz,hnn⟩,fun k' hk'=>?_,.inr ⟨g,0,hA,⟨by rw[setCells_size];exact hat.lt,fun _=>⟨rfl,hbase,ty,_,by rw[hdv];exact hblk2⟩,fun _=>hbase⟩,fun k' hk' j v hj=>?_⟩⟩
 ·rw[hel]
  by_cases hkk:k'=k
  ·subst hkk
   rw[if_pos rfl]
   refine⟨by rw[q1];exact hlen,fun u hu=>?_⟩
   obtain⟨j,hj⟩:=List.getElem?_of_mem hu
   rw[q3 j] at hj
   split at hj
   ·exact hv u (List.mem_of_getElem? hj)
   ·exact (hpl _ hk').2 u (List.mem_of_getElem? hj)
  ·rw[if_neg hkk];exact hpl k' hk'
 ·rw[hel] at hj
  rw[Nat.zero_add,hdv,hblk2.cell,putL_at]
  by_cases hkk:k'=k
  ·subst hkk
   rw[if_pos rfl] at hj
   have hjs:j<sz:=by
    have:=(List.getElem?_eq_some_iff.1 hj).1
    omega
   rw[q3 j] at hj
   by_cases hr:o≤j∧j<o+vs.length
   ·rw[if_pos hr] at hj
    rw[if_pos ⟨by omega,by omega,hin k' hk' j hjs⟩,← hj]
    congr 1
    omega
   ·rw[if_neg hr] at hj
    rw[if_neg (by omega)]
    have:=hc k' hk' j v hj
    rw[Nat.zero_add,hblk.cell] at this
    exact this
  ·rw[if_neg hkk] at hj
   have hjs:j<sz:=by
    have:=(List.getElem?_eq_some_iff.1 hj).1
    rw[(hpl k' hk').1] at this
    exact this
   have hout:¬ (k * sz+o≤k' * sz+j∧k' * sz+j<k * sz+o+vs.length∧k' * sz+j<cs.size):=by
    rintro⟨r1,r2,-⟩
    rcases Nat.lt_or_gt_of_ne hkk with hlt | hgt
    ·have:=Nat.mul_le_mul_right sz (show k'+1≤k by omega)
     rw[Nat.add_mul] at this
     omega
    ·have:=Nat.mul_le_mul_right sz (show k+1≤k' by omega)
     rw[Nat.add_mul] at this
     omega
   rw[if_neg hout]
   have:=hc k' hk' j v hj
   rw[Nat.zero_add,hblk.cell] at this
   exact this
end
end Go.Proofs.YtchhdflealgkaaaGreat
