import Derived.Test.YtdjkeplekchfdaaPn11
import Derived.Test.YtdjkeplekchfdaaRows
import Derived.ChangeArms
namespace Go.Proofs.Ytdjkeplekchfdaa
open Go.ChangeShapes Go.WideShapes Go.ChangeAt Go.RowKit Go.Deep
set_option linter.unusedSimpArgs false
set_option linter.unusedVariables false
section
variable {H:Type} {enc:TypeId×Value→H} {w:World} {base:Nat} {spare:Nat→Bool} {held:Bool}
theorem trod_zone {fuel:Nat} {cs:List Value} {x:DataW H×List MemPlace} (h:DataW.trod enc Try.prog w base spare held fuel 89 cs=some x):∃ e:Int,cs=intC e:=by
 obtain⟨hl,hc⟩:=trod_struct_cell Try.underlying89 (by kernel_rfl) (by kernel_rfl) h
 obtain⟨v0,n0,y0,g0,t0⟩:=hc 0 _ rfl
 obtain⟨a,h0,_,_⟩:=DataW.trod_int Try.underlying3 t0
 simp at h0
 subst h0
 refine⟨a,?_⟩
 match cs,hl with
 | [c0],_=>
  simp at g0
  rw[g0]
  rfl
theorem trod_cell {fuel:Nat} {cs:List Value} {x:DataW H×List MemPlace} (h:DataW.trod enc Try.prog w base spare held fuel 91 cs=some x):∃ e:Int×Int,cs=pairC e:=by
 obtain⟨hl,hc⟩:=trod_struct_cell Try.underlying91 (by kernel_rfl) (by kernel_rfl) h
 obtain⟨v0,n0,y0,g0,t0⟩:=hc 0 _ rfl
 obtain⟨v1,n1,y1,g1,t1⟩:=hc 1 _ rfl
 obtain⟨a,h0,_,_⟩:=DataW.trod_int Try.underlying3 t0
 obtain⟨b,h1,_,_⟩:=DataW.trod_int Try.underlying3 t1
 simp at h0 h1
 subst h0 h1
 refine⟨(a,b),?_⟩
 match cs,hl with
 | [c0,c1],_=>
  simp at g0 g1
  rw[g0,g1]
  rfl
theorem trod_ver {fuel:Nat} {cs:List Value} {x:DataW H×List MemPlace} (h:DataW.trod enc Try.prog w base spare held fuel 93 cs=some x):∃ e:Int×Int,cs=pairC e:=by
 obtain⟨hl,hc⟩:=trod_struct_cell Try.underlying93 (by kernel_rfl) (by kernel_rfl) h
 obtain⟨v0,n0,y0,g0,t0⟩:=hc 0 _ rfl
 obtain⟨v1,n1,y1,g1,t1⟩:=hc 1 _ rfl
 obtain⟨a,h0,_,_⟩:=DataW.trod_int Try.underlying3 t0
 obtain⟨b,h1,_,_⟩:=DataW.trod_int Try.underlying3 t1
 simp at h0 h1
 subst h0 h1
 refine⟨(a,b),?_⟩
 match cs,hl with
 | [c0,c1],_=>
  simp at g0 g1
  rw[g0,g1]
  rfl
theorem trod_ten {fuel:Nat} {cs:List Value} {x:DataW H×List MemPlace} (h:DataW.trod enc Try.prog w base spare held fuel 95 cs=some x):∃ e:Ten,cs=tenC e:=by
 obtain⟨hl,hc⟩:=trod_struct_cell Try.underlying95 (by kernel_rfl) (by kernel_rfl) h
 obtain⟨v0,n0,y0,g0,t0⟩:=hc 0 _ rfl
 obtain⟨v1,n1,y1,g1,t1⟩:=hc 1 _ rfl
 obtain⟨v2,n2,y2,g2,t2⟩:=hc 2 _ rfl
 obtain⟨v3,n3,y3,g3,t3⟩:=hc 3 _ rfl
 obtain⟨v4,n4,y4,g4,t4⟩:=hc 4 _ rfl
 obtain⟨v5,n5,y5,g5,t5⟩:=hc 5 _ rfl
 obtain⟨v6,n6,y6,g6,t6⟩:=hc 6 _ rfl
 obtain⟨a,h0,_,_⟩:=DataW.trod_int Try.underlying3 t0
 obtain⟨b,h1,_,_⟩:=DataW.trod_int Try.underlying3 t1
 obtain⟨c,h2,_,_⟩:=DataW.trod_int Try.underlying3 t2
 obtain⟨d,h3,_,_⟩:=DataW.trod_int Try.underlying3 t3
 obtain⟨e,h4,_,_⟩:=DataW.trod_int Try.underlying3 t4
 obtain⟨f,h5,_,_⟩:=DataW.trod_int Try.underlying3 t5
 obtain⟨g,h6,_⟩:=DataW.trod_bool Try.underlying4 t6
 simp at h0 h1 h2 h3 h4 h5 h6
 subst h0 h1 h2 h3 h4 h5 h6
 refine⟨⟨a,b,c,d,e,f,g⟩,?_⟩
 match cs,hl with
 | [c0,c1,c2,c3,c4,c5,c6],_=>
  simp at g0 g1 g2 g3 g4 g5 g6
  rw[g0,g1,g2,g3,g4,g5,g6]
  rfl
theorem open_slZone {fuel:Nat} {A:Option Addr} {len cap:Nat} {x:DataW H×List MemPlace} (h:DataW.trod enc Try.prog w base spare held fuel 22 [.slice A len cap]=some x) :
  len≤maxLen∧∃ raw:List (Int),raw.length=len∧Rd w (·<w.heap.size) A (flat intC raw):=by
 obtain⟨hm,css,h1,h2,h3⟩:=open_rows Try.underlying22 (by kernel_rfl) (sz:=1) (by omega) h
 have hx:∀ c ∈ css,∃ e,c=intC e:=fun c hc=>by
  obtain⟨_,n,y,hy⟩:=h2 c hc
  exact trod_zone hy
 obtain⟨r,hr⟩:=map_of_all hx
 refine⟨hm,r,by rw[← h1,hr];simp,?_⟩
 rwa[hr,← List.flatMap_def] at h3
theorem open_slCell {fuel:Nat} {A:Option Addr} {len cap:Nat} {x:DataW H×List MemPlace} (h:DataW.trod enc Try.prog w base spare held fuel 23 [.slice A len cap]=some x) :
  len≤maxLen∧∃ raw:List (Int×Int),raw.length=len∧Rd w (·<w.heap.size) A (flat pairC raw):=by
 obtain⟨hm,css,h1,h2,h3⟩:=open_rows Try.underlying23 (by kernel_rfl) (sz:=2) (by omega) h
 have hx:∀ c ∈ css,∃ e,c=pairC e:=fun c hc=>by
  obtain⟨_,n,y,hy⟩:=h2 c hc
  exact trod_cell hy
 obtain⟨r,hr⟩:=map_of_all hx
 refine⟨hm,r,by rw[← h1,hr];simp,?_⟩
 rwa[hr,← List.flatMap_def] at h3
theorem open_slVer {fuel:Nat} {A:Option Addr} {len cap:Nat} {x:DataW H×List MemPlace} (h:DataW.trod enc Try.prog w base spare held fuel 25 [.slice A len cap]=some x) :
  len≤maxLen∧∃ raw:List (Int×Int),raw.length=len∧Rd w (·<w.heap.size) A (flat pairC raw):=by
 obtain⟨hm,css,h1,h2,h3⟩:=open_rows Try.underlying25 (by kernel_rfl) (sz:=2) (by omega) h
 have hx:∀ c ∈ css,∃ e,c=pairC e:=fun c hc=>by
  obtain⟨_,n,y,hy⟩:=h2 c hc
  exact trod_ver hy
 obtain⟨r,hr⟩:=map_of_all hx
 refine⟨hm,r,by rw[← h1,hr];simp,?_⟩
 rwa[hr,← List.flatMap_def] at h3
theorem open_slTen {fuel:Nat} {A:Option Addr} {len cap:Nat} {x:DataW H×List MemPlace} (h:DataW.trod enc Try.prog w base spare held fuel 24 [.slice A len cap]=some x) :
  len≤maxLen∧∃ raw:List (Ten),raw.length=len∧Rd w (·<w.heap.size) A (flat tenC raw):=by
 obtain⟨hm,css,h1,h2,h3⟩:=open_rows Try.underlying24 (by kernel_rfl) (sz:=7) (by omega) h
 have hx:∀ c ∈ css,∃ e,c=tenC e:=fun c hc=>by
  obtain⟨_,n,y,hy⟩:=h2 c hc
  exact trod_ten hy
 obtain⟨r,hr⟩:=map_of_all hx
 refine⟨hm,r,by rw[← h1,hr];simp,?_⟩
 rwa[hr,← List.flatMap_def] at h3
theorem open_slI {fuel:Nat} {A:Option Addr} {len cap:Nat} {x:DataW H×List MemPlace} (h:DataW.trod enc Try.prog w base spare held fuel 26 [.slice A len cap]=some x) :
  len≤maxLen∧∃ raw:List Int,raw.length=len∧Rd w (·<w.heap.size) A (flat intC raw):=by
 obtain⟨hm,raw,h1,-,h2⟩:=open_ints_rd Try.underlying26 Try.underlying3 (by kernel_rfl) h
 exact⟨hm,raw,h1,by
  have e:flat intC raw=raw.map (Value.int .i64):=by
   clear h1 h2
   induction raw with
   | nil=>rfl
   | cons a l ih=>simp only[flat,List.flatMap_cons,List.map_cons] at ih ⊢;rw[ih];rfl
  rw[e]
  exact h2⟩
theorem slice_of {t e:TypeId} {fuel:Nat} {v:Value} {x:DataW H×List MemPlace} (ht:Try.prog.underlying t=some (.slice e)) (h:DataW.trod enc Try.prog w base spare held fuel t [v]=some x):∃ A len cap,v=.slice A len cap:=by
 have q:=DataW.trod_slice ht h
 simp at q
 rcases q with⟨rfl,-⟩ | ⟨a,len,cap,elems,rest,n,-,rfl,-⟩
 ·exact⟨_,_,_,rfl⟩
 ·exact⟨_,_,_,rfl⟩
set_option maxRecDepth 100000 in
theorem open_cfgR {b0:Nat} {v:Value} {d:DataW H} {p:List MemPlace} (hv:Value.okWide Try.prog w .any b0 28 v) (h:DataW.Trod enc Try.prog w base spare held 28 v d p) :
  ∃ z:CfgA×Cfg,v=.agg (cfgC z.1 z.2)∧(Lens z.2∧CfgOk w (·<w.heap.size) z.1 z.2):=by
 obtain⟨cs,rfl,hsz⟩:=okWide_struct Try.underlying28 hv
 obtain⟨fuel,hf⟩:=h
 obtain⟨hl,hc⟩:=trod_struct_cell Try.underlying28 (by kernel_rfl) (by kernel_rfl) hf
 obtain⟨v0,n0,y0,g0,t0⟩:=hc 0 _ rfl
 obtain⟨v1,n1,y1,g1,t1⟩:=hc 1 _ rfl
 obtain⟨v2,n2,y2,g2,t2⟩:=hc 2 _ rfl
 obtain⟨v3,n3,y3,g3,t3⟩:=hc 3 _ rfl
 obtain⟨v4,n4,y4,g4,t4⟩:=hc 4 _ rfl
 obtain⟨v5,n5,y5,g5,t5⟩:=hc 5 _ rfl
 obtain⟨v6,n6,y6,g6,t6⟩:=hc 6 _ rfl
 obtain⟨v7,n7,y7,g7,t7⟩:=hc 7 _ rfl
 obtain⟨v8,n8,y8,g8,t8⟩:=hc 8 _ rfl
 obtain⟨v9,n9,y9,g9,t9⟩:=hc 9 _ rfl
 obtain⟨x0,h0,_,_⟩:=DataW.trod_int Try.underlying3 t0
 obtain⟨A1,l1,c1,rfl⟩:=slice_of Try.underlying22 t1
 obtain⟨m1,r1,rfl,q1⟩:=open_slZone t1
 obtain⟨A2,l2,c2,rfl⟩:=slice_of Try.underlying23 t2
 obtain⟨m2,r2,rfl,q2⟩:=open_slCell t2
 obtain⟨A3,l3,c3,rfl⟩:=slice_of Try.underlying24 t3
 obtain⟨m3,r3,rfl,q3⟩:=open_slTen t3
 obtain⟨A4,l4,c4,rfl⟩:=slice_of Try.underlying25 t4
 obtain⟨m4,r4,rfl,q4⟩:=open_slVer t4
 obtain⟨A5,l5,c5,rfl⟩:=slice_of Try.underlying26 t5
 obtain⟨m5,r5,rfl,q5⟩:=open_slI t5
 obtain⟨A6,l6,c6,rfl⟩:=slice_of Try.underlying26 t6
 obtain⟨m6,r6,rfl,q6⟩:=open_slI t6
 obtain⟨x7,h7,_,_⟩:=DataW.trod_int Try.underlying3 t7
 obtain⟨x8,h8,_,_⟩:=DataW.trod_int Try.underlying3 t8
 obtain⟨x9,h9,_,_⟩:=DataW.trod_int Try.underlying3 t9
 simp at h0 h7 h8 h9
 subst h0 h7 h8 h9
 refine⟨(⟨A1,c1,A2,c2,A3,c3,A4,c4,A5,c5,A6,c6⟩,⟨x0,r1,r2,r3,r4,r5,r6,x7,x8,x9⟩),?_,⟨m1,m2,m3,m4,m5,m6⟩,⟨q1,q2,q3,q4,q5,q6⟩⟩
 obtain⟨l⟩:=cs
 match l,hl with
 | [e0,e1,e2,e3,e4,e5,e6,e7,e8,e9],_=>
  simp[Value.cells] at g0 g1 g2 g3 g4 g5 g6 g7 g8 g9
  rw[g0,g1,g2,g3,g4,g5,g6,g7,g8,g9]
  rfl
end
end Go.Proofs.Ytdjkeplekchfdaa
namespace Go.Proofs.Ytdjkeplekchfdaa
open Go.RowKit
set_option linter.unusedSimpArgs false
set_option linter.unusedVariables false
/-! digest.Chain,ref02.Chain -/
def xorI (a b:Int):Int:=IntKind.u64.wrap (BitVec.ofInt IntKind.u64.bits a ^^^ BitVec.ofInt IntKind.u64.bits b).toNat
def mixI (h n:Int):Int:=xorI (IntKind.u64.wrap (xorI h (IntKind.u64.wrap n) * 1099511628211)) ((IntKind.u64.wrap (xorI h (IntKind.u64.wrap n) * 1099511628211)).fdiv (2 ^ min (29:Int).toNat IntKind.u64.bits))
def stepI (h x:Int):Int:=mixI h (IntKind.i64.wrap x)
def chainI (key parent:Int) (l:List Int):Int:=mixI (l.foldl stepI (mixI (mixI 14695981039346656037 key) (IntKind.i64.wrap parent))) l.length
end Go.Proofs.Ytdjkeplekchfdaa
