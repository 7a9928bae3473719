import Derived.Test.YtbmlgcjoeeejbaaGreatPx19
namespace Go.Proofs.YtbmlgcjoeeejbaaGreat
open Go.ChangeShapes Go.WideShapes Go.ChangeAt Go.RowKit Go.Deep
set_option linter.unusedSimpArgs false
set_option linter.unusedVariables false
section
variable {H:Type} {enc:TypeId×Value→H} {w:World} {base:Nat} {spare:Nat→Bool} {held:Bool}
set_option maxRecDepth 100000 in
theorem open_atlasU {b0:Nat} {v:Value} {d:DataW H} {p:List MemPlace} (hv:Value.okWide Tryz.prog w .any b0 26 v) (h:DataW.Trod enc Tryz.prog w base spare held 26 v d p) :
  ∃ z:(Int×Int×Int×Int)×Option Addr×List (Int×Int)×Nat,v=.agg #[.int .i64 z.1.1,.int .i64 z.1.2.1,.slice z.2.1 z.2.2.1.length z.2.2.2,.int .u64 z.1.2.2.1,.int .u64 z.1.2.2.2]∧((in64 z.1.1∧in64 z.1.2.1)∧(0≤z.1.2.2.1∧0≤z.1.2.2.2)∧z.2.2.1.length≤maxLen∧(∀ e ∈ z.2.2.1,in64 e.1∧in64 e.2)∧Rd w (·<w.heap.size) z.2.1 (flat pairC z.2.2.1)):=by
 obtain⟨cs,rfl,hsz⟩:=okWide_struct Tryz.underlying26 hv
 obtain⟨fuel,hf⟩:=h
 obtain⟨hl,hc⟩:=trod_struct_cell Tryz.underlying26 (by kernel_rfl) (by kernel_rfl) hf
 obtain⟨v0,n0,y0,g0,t0⟩:=hc 0 _ rfl
 obtain⟨v1,n1,y1,g1,t1⟩:=hc 1 _ rfl
 obtain⟨v2,n2,y2,g2,t2⟩:=hc 2 _ rfl
 obtain⟨v3,n3,y3,g3,t3⟩:=hc 3 _ rfl
 obtain⟨v4,n4,y4,g4,t4⟩:=hc 4 _ rfl
 obtain⟨x0,h0,_,w0⟩:=DataW.trod_int Tryz.underlying3 t0
 obtain⟨x1,h1,_,w1⟩:=DataW.trod_int Tryz.underlying3 t1
 obtain⟨A,len,cap,h2⟩:∃ A len cap,v2=.slice A len cap:=by
  have q:=DataW.trod_slice Tryz.underlying23 t2
  simp at q
  grind
 subst h2
 obtain⟨hm,raw,rfl,hw,hr⟩:=open_routes t2
 obtain⟨x3,h3,_,w3⟩:=DataW.trod_int Tryz.underlying24 t3
 obtain⟨x4,h4,_,w4⟩:=DataW.trod_int Tryz.underlying24 t4
 simp at h0 h1 h3 h4
 subst h0 h1 h3 h4
 have wi:∀ {z:Int},(Lit.int .i64 z).wf=true→in64 z:=fun {z} h=>by
  unfold in64
  simp[Lit.wf,IntKind.min,IntKind.max,IntKind.bits,IntKind.signed] at h
  omega
 have wu:∀ {z:Int},(Lit.int .u64 z).wf=true→0≤z:=fun {z} h=>by
  simp[Lit.wf,IntKind.min,IntKind.max,IntKind.bits,IntKind.signed] at h
  omega
 refine⟨((x0,x1,x3,x4),A,raw,cap),?_,⟨wi w0,wi w1⟩,⟨wu w3,wu w4⟩,hm,fun e he=>⟨wi (hw e he).1,wi (hw e he).2⟩,hr⟩
 obtain⟨l⟩:=cs
 match l,hl with
 | [c0,c1,c2,c3,c4],_=>
  simp[Value.cells] at g0 g1 g2 g3 g4
  rw[g0,g1,g2,g3,g4]
end
end Go.Proofs.YtbmlgcjoeeejbaaGreat
