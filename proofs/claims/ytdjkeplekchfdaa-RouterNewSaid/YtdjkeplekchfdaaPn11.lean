import Derived.Test.YtdjkeplekchfdaaPn10
namespace Go.Proofs.Ytdjkeplekchfdaa
open Go.RowKit
set_option linter.unusedSimpArgs false
set_option linter.unusedVariables false
/-! wire.Int,ref01.Int -/
def tiU:TI:={ size:=1,agg:=false,zero:=[.int .u64 0],ik:=some .u64 }
def tiB:TI:={ size:=1,agg:=false,zero:=[.int .u8 0],ik:=some .u8 }
def ttA:TT:=[(3,{ size:=1,agg:=false,zero:=[zi],ik:=some .i64 }),(44,tiU),(5,tiB),(81,tiSl 1 5 1),(43,tiSl 2 75 16),(75,tiRec [zi,zi] [0,1] [1,1] [1,1] [ki,ki]),(46,tiRec [zi,zi,zs0,.int .u64 0,.int .u64 0] [0,1,2,3,4] [1,1,1,1,1] [1,1,1,1,1])]++tt
theorem ttAok:TTok Try.prog ttA:=by
 refine tt_mem _ _ ?_
 unfold ttA tt
 repeat (refine tt_cons ⟨by kernel_rfl,by kernel_rfl,plains (by rfl),by kernel_rfl,by kernel_rfl,by kernel_rfl⟩ ?_)
 exact tt_nil
def HasFam {α:Type} (mem:AM) (u o k sz:Nat) (enc:α→List Value) (d:α) (l:List α):Prop:=∃ t sb,lk mem u=some (.ext (.fam t sb))∧(sb k o).sz=sz∧l.length≤(sb k o).n∧∀ j,j<l.length→(sb k o).el j=enc (l.getD j d)
def SrcR {α:Type} (mem:AM) (sz:Nat) (enc:α→List Value) (d:α) (l:List α) (v:Value):Prop:=(v=zs0∧l=[])∨(∃ r cap,v=slc r l.length cap∧HasRow mem r sz enc d l)∨∃ u o k cap,v=.slice (some ⟨u,o,some k⟩) l.length cap∧HasFam mem u o k sz enc d l
theorem SrcR.slice {α:Type} {mem:AM} {sz:Nat} {enc:α→List Value} {d:α} {l:List α} {v:Value} (h:SrcR mem sz enc d l v):∃ A cap,v=.slice A l.length cap:=by
 rcases h with⟨rfl,rfl⟩ | ⟨r,cap,rfl,-⟩ | ⟨u,o,k,cap,rfl,-⟩
 ·exact⟨_,_,rfl⟩
 ·exact⟨_,_,rfl⟩
 ·exact⟨_,_,rfl⟩
theorem SrcR.row {α:Type} {mem:AM} {sz:Nat} {enc:α→List Value} {d:α} {l:List α} {r cap:Nat} (h:HasRow mem r sz enc d l):SrcR mem sz enc d l (slc r l.length cap):=.inr (.inl ⟨r,cap,rfl,h⟩)
theorem Sat.srcR {C:Ctx} {ρ:Nat→Pl} {fr:AF} {mem:AM} {nx:Nat} {a:Act} {w:World} (hs:Sat C ρ fr mem nx a w) {α:Type} {enc:α→List Value} {sz:Nat} (hsz:∀ x,(enc x).length=sz) (hpos:0<sz) {d:α} {l:List α} {v:Value} (h:SrcR mem sz enc d l v):∃ A cap,den ρ v=.slice A l.length cap∧Rd w (·<w.heap.size) A (flat enc l):=by
 rcases h with⟨rfl,rfl⟩ | ⟨r,cap,rfl,hr⟩ | ⟨u,o,k,cap,rfl,t,sb,h1,h2,h3,h4⟩
 ·exact⟨none,0,rfl,fun h=>absurd rfl h⟩
 ·exact⟨(ρ r).A,cap,by simp[den,den2,den1,dA_whole,dS_whole],hs.hasRd hsz hpos hr⟩
 ·refine⟨(ρ u).sub k o,cap,rfl,?_⟩
  have hat:=hs.famAt h1 k o
  by_cases hn:(sb k o).n=0
  ·have:l=[]:=List.eq_nil_of_length_eq_zero (by omega)
   subst this
   exact fun h=>absurd rfl h
  ·have hb:BlkOk C (fun _=>⟨(ρ u).sub k o,sz,(sb k o).n,false,noSub⟩) nx 0 w (.row 0 sz (sb k o).n (sb k o).el):=⟨⟨rfl,rfl⟩,fun j hj=>by rw[← h2];exact hat.pl j hj,by
    obtain⟨b,off,e1,e2,e3,-⟩:=hat.at_.resolve_left hn
    exact .inr ⟨b,off,e1,⟨e2.lt,(fun q=>by cases q),(fun q=>by cases q)⟩,fun j hj q v hv=>by rw[← h2];exact e3 j hj q v hv⟩⟩
   exact hb.rdOf h3 h4 hsz hpos fun _ b off _ hr=>hr.lt
theorem Sat.bytes {C:Ctx} {ρ:Nat→Pl} {fr:AF} {mem:AM} {nx:Nat} {a:Act} {w w':World} {K:Value→AM→Nat→Prop} (hs:Sat C ρ fr mem nx a w) (hb:Below w.heap.size w w') {A:Option Addr} {cp:Nat} {l:List Int} (hr:Rd w' (fun b=>w.heap.size≤b∧b<w'.heap.size) A (flat u8C l)) (hK:K (slc nx l.length cp) ((nx,rowOfL 500000 1 u8C 0 l)::mem) (nx+1)) :
  ∃ v mem' nx' ρ',Ending.returned (.slice A l.length cp)=.returned (den ρ' v)∧K v mem' nx'∧Sat C ρ' fr mem' nx' a w'∧okV ρ' nx' v∧ExtS ρ nx ρ' nx':=by
 obtain⟨q1,-⟩:=(hs.later hb).addList hs.frB hs.rest.size (enc:=u8C) (sz:=1) (fun _=>rfl) (by omega) u8C_plain 0 (t:=500000) rfl hr
 have q2:setPl ρ nx ⟨A,1,l.length,false,noSub⟩ nx=⟨A,1,l.length,false,noSub⟩:=setPl_same _ _ _
 refine⟨slc nx l.length cp,_,_,_,?_,hK,q1,?_,fun i hi=>setPl_lt _ _ hi,by omega⟩
 ·show Ending.returned (.slice A l.length cp)=.returned (.slice (setPl ρ nx ⟨A,1,l.length,false,noSub⟩ nx).A l.length cp)
  rw[q2]
 ·exact⟨show nx<nx+1 by omega,by rw[q2]⟩
end Go.Proofs.Ytdjkeplekchfdaa
