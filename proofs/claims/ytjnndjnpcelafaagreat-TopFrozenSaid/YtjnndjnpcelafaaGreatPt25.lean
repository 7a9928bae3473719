import Derived.Test.YtjnndjnpcelafaaGreatPt11
import Derived.Shelf.SlMaps.Clone
import Derived.Carry
import Derived.OwnWalk
namespace Go.Proofs.YtjnndjnpcelafaaGreat
set_option maxHeartbeats 16000000
set_option maxRecDepth 100000
open Go.RowKit
set_option linter.unusedSimpArgs false
set_option linter.unusedVariables false
/-! Objects by hand: a call that makes one,a call that changes one. -/
section
variable {P:Program} {C:Ctx} {ρ:Nat->Pl} {fr:AF} {mem:AM} {nx:Nat} {a:Act} {w w':World}
theorem Sat.objset (hs:Sat C ρ fr mem nx a w) {j g:Nat} {S S':List Nat} {Φ Φ':List Nat->Nat->World->Prop} (hj:lk mem j=some (.ext (.obj S Φ))) (hA:(ρ j).A=some ⟨g,0,none⟩)
  (hos:w'.os=w.os) (htp:w'.tape=w.tape) (hout:w'.output=w.output) (hsz:w.heap.size<=w'.heap.size) (hfr:∀ b,b<w.heap.size->b ∉ S->w'.heap[b]?=w.heap[b]?) (hS':∀ b,b ∈ S'->b<w'.heap.size/\(w.heap.size<=b∨b ∈ S)) (hg:g ∈ S') (hloc:LocO Φ') (hΦ:Φ' S' g w') :
  Sat C ρ fr ((j,.ext (.obj S' Φ'))::mem) nx a w':=by
 obtain⟨g0,hA0,hgS,hSok,-,-⟩:=hs.blk j _ (za9 hj);have hlk:∀ i b,lk ((j,ABlk.ext (.obj S' Φ'))::mem++C.fm) i=some b->(i=j/\b=.ext (.obj S' Φ'))∨(i≠j/\lk (mem++C.fm) i=some b):=by
  intro i b hi;rw[List.cons_append] at hi;rcases za5 hi with⟨h1,h2⟩ | ⟨h1,hi⟩
  ·exact .inl ⟨h1.symm,h2.symm⟩
  ·exact .inr ⟨Ne.symm h1,hi⟩
 have hfar:∀ i b,i≠j->lk (mem++C.fm) i=some b->∀ g',brd ρ i b g'->g'<w.heap.size/\g' ∉ S:=fun i b hne hi g' hg'=>⟨(hs.blk i b hi).brd_lt hg',fun hS=>(hs.sep j i _ _ (Ne.symm hne) (za9 hj) hi) g' hS hg'⟩
 have hobj:BlkOk C ρ nx j w' (.ext (.obj S' Φ')):=⟨g,hA,hg,fun b hb=>⟨(hS' b hb).1,(hS' b hb).2.elim (fun h=>.inl (Nat.le_trans hs.rest.size h)) fun h=>(hSok b h).2⟩,hloc,hΦ⟩;have hno:∀ i b,i≠j->lk (mem++C.fm) i=some b->∀ g',brd ρ i b g'->g' ∉ S':=fun i b hne hi g' hg' hin=>by
  obtain⟨h1,h2⟩:=hfar i b hne hi g' hg';rcases (hS' g' hin).2 with h | h
  ·omega
  ·exact h2 h
 refine⟨hs.fok,hs.sz,hs.dfr,fun i b hi=>?_,fun i b hi=>?_,fun i i' b b' hne hi hi'=>?_,hs.n0,hs.low,?_⟩
 ·rcases hlk i b hi with⟨rfl,rfl⟩ | ⟨h1,h2⟩
  ·exact hs.mlt _ _ (za9 hj)
  ·exact hs.mlt i b h2
 ·rcases hlk i b hi with⟨rfl,rfl⟩ | ⟨h1,h2⟩
  ·exact hobj
  ·exact (hs.blk i b h2).far hsz fun g' hg'=>hfr g' (hfar i b h1 h2 g' hg').1 (hfar i b h1 h2 g' hg').2
 ·rcases hlk i b hi with⟨rfl,rfl⟩ | ⟨h1,h2⟩
  ·rcases hlk i' b' hi' with⟨rfl,rfl⟩ | ⟨h3,h4⟩
   ·exact absurd rfl hne
   ·exact hobj.apart fun g' hg hg2=>hno i' b' h3 h4 g' hg2 hg
  ·rcases hlk i' b' hi' with⟨rfl,rfl⟩ | ⟨h3,h4⟩
   ·exact (hs.blk i b h2).apart fun g' hg hg2=>hno i b h1 h2 g' (zbm hg) hg2
   ·exact hs.sep i i' b b' hne h2 h4
 ·exact⟨hos.trans hs.rest.os,htp.trans hs.rest.tape,hout.trans hs.rest.output,Nat.le_trans hs.rest.size hsz,fun b hb hnb=>(hfr b (Nat.lt_of_lt_of_le hb hs.rest.size) fun hS=>by
   rcases (hSok b hS).2 with h | h
   ·omega
   ·exact hnb h).trans (hs.rest.block b hb hnb)⟩
theorem Sat.objnew (hs:Sat C ρ fr mem nx a w) {g:Nat} {S:List Nat} {Φ:List Nat->Nat->World->Prop} (hb:Below w.heap.size w w') (hS:∀ b,b ∈ S->w.heap.size<=b/\b<w'.heap.size) (hg:g ∈ S) (hloc:LocO Φ) (hΦ:Φ S g w') :
  Sat C (zac ρ nx ⟨some ⟨g,0,none⟩,0,0,false,za4⟩) fr ((nx,.ext (.obj S Φ))::mem) (nx+1) a w':=
 hs.addX hb ⟨g,by rw[za2],hg,fun b hb'=>⟨(hS b hb').2,.inl (Nat.le_trans hs.rest.size (hS b hb').1)⟩,hloc,hΦ⟩ (fun g' hg'=>(hS g' hg').1) rfl
def ctHM (Φ:List Nat->Nat->World->Prop):CT:=fun vs mem nx K=>vs=[]/\∀ S,K (.pointer (some ⟨nx,0,none⟩)) ((nx,.ext (.obj S Φ))::mem) (nx+1)
theorem handMake {f : FuncId} {Φ : List Nat -> Nat -> World -> Prop} (hent : (P.funcs[f]?).map (fun fn => (fn.name == "runtime.NumGoroutine", fn.body.isNone)) = some (false, false)) (hloc : LocO Φ)
  (h:∀ w,Calls P f #[] w fun e w'=>∃ g S,e=.returned (.pointer (some ⟨g,0,none⟩))/\g ∈ S/\(∀ b,b ∈ S->w.heap.size<=b/\b<w'.heap.size)/\Φ S g w'/\Below w.heap.size w w'):CSound P f (ctHM Φ):=
 ⟨hent,fun {C ρ fr mem nx a w vs K} hc hs hv=>by
  obtain⟨rfl,hK⟩:=hc
  refine (h w).mono ?_
  rintro e w' ⟨g,S,rfl,hg,hS,hΦ,hb⟩
  exact⟨.pointer (some ⟨nx,0,none⟩),_,_,_,by show Ending.returned (Value.pointer _)=.returned (Value.pointer (zac ρ nx _ nx).A);rw[za2],hK S,hs.objnew hb hS hg hloc hΦ,⟨⟨Nat.lt_succ_self _,by rw[za2]⟩,⟨g,0,by rw[za2]⟩,fun _ h=>by cases h⟩,ExtS.set _ _ _⟩⟩
def ctHC (Φ Φ':List Nat->Nat->World->Prop):CT:=fun vs mem nx K=>∃ j S,vs=[.pointer (some ⟨j,0,none⟩)]/\lk mem j=some (.ext (.obj S Φ))/\∀ S',K (.pointer (some ⟨nx,0,none⟩)) ((nx,.ext (.obj S' Φ'))::mem) (nx+1)
theorem handCopy {f : FuncId} {Φ Φ' : List Nat -> Nat -> World -> Prop} (hent : (P.funcs[f]?).map (fun fn => (fn.name == "runtime.NumGoroutine", fn.body.isNone)) = some (false, false)) (hloc : LocO Φ')
  (h:∀ w S0 g0,Φ S0 g0 w->(∀ b,b ∈ S0->b<w.heap.size)->Calls P f #[.pointer (some ⟨g0,0,none⟩)] w fun e w'=>∃ g S,e=.returned (.pointer (some ⟨g,0,none⟩))/\g ∈ S/\(∀ b,b ∈ S->w.heap.size<=b/\b<w'.heap.size)/\Φ' S g w'/\Below w.heap.size w w'):CSound P f (ctHC Φ Φ'):=
 ⟨hent,fun {C ρ fr mem nx a w vs K} hc hs hv=>by
  obtain⟨j,S0,rfl,hj,hK⟩:=hc
  obtain⟨g0,hA0,hgS,hSok,-,hΦ0⟩:=hs.blk j _ (za9 hj)
  have e1:([Value.pointer (some ⟨j,0,none⟩)].map (den ρ)).toArray=#[.pointer (some ⟨g0,0,none⟩)]:=by
   show #[Value.pointer (ρ j).A]=_
   rw[hA0]
  rw[e1]
  refine (h w S0 g0 hΦ0 fun b hb=>(hSok b hb).1).mono ?_
  rintro e w' ⟨g,S,rfl,hg,hS,hΦ,hb⟩
  exact⟨.pointer (some ⟨nx,0,none⟩),_,_,_,by show Ending.returned (Value.pointer _)=.returned (Value.pointer (zac ρ nx _ nx).A);rw[za2],hK S,hs.objnew hb hS hg hloc hΦ,⟨⟨Nat.lt_succ_self _,by rw[za2]⟩,⟨g,0,by rw[za2]⟩,fun _ h=>by cases h⟩,ExtS.set _ _ _⟩⟩
def ctHR {X:Type} (Φ:List Nat->Nat->World->Prop) (args:X->List Value) (r:X->Value):CT:=fun vs mem nx K=>∃ x j S,vs=.pointer (some ⟨j,0,none⟩)::args x/\lk mem j=some (.ext (.obj S Φ))/\K (r x) mem nx
theorem zjW {f : FuncId} {X : Type} {Φ : List Nat -> Nat -> World -> Prop} {args : X -> List Value} {r : X -> Value} (hent : (P.funcs[f]?).map (fun fn => (fn.name == "runtime.NumGoroutine", fn.body.isNone)) = some (false, false)) (hargs : ∀ x ρ, (args x).map (den ρ) = args x) (hr : ∀ x ρ n, den ρ (r x) = r x /\ okV ρ n (r x))
  (h:∀ x w S0 g0,Φ S0 g0 w->(∀ b,b ∈ S0->b<w.heap.size)->Calls P f (Value.pointer (some ⟨g0,0,none⟩)::args x).toArray w fun e w'=>e=.returned (r x)/\Below w.heap.size w w'):CSound P f (ctHR Φ args r):=
 ⟨hent,fun {C ρ fr mem nx a w vs K} hc hs hv=>by
  obtain⟨x,j,S0,rfl,hj,hK⟩:=hc
  obtain⟨g0,hA0,hgS,hSok,-,hΦ0⟩:=hs.blk j _ (za9 hj)
  have e1:((Value.pointer (some ⟨j,0,none⟩)::args x).map (den ρ))=Value.pointer (some ⟨g0,0,none⟩)::args x:=by
   rw[List.map_cons,hargs]
   show Value.pointer (ρ j).A::_=_
   rw[hA0]
  rw[e1]
  refine (h x w S0 g0 hΦ0 fun b hb=>(hSok b hb).1).mono ?_
  rintro e w' ⟨rfl,hb⟩
  exact⟨r x,mem,nx,ρ,by rw[(hr x ρ nx).1],hK,hs.later hb,(hr x ρ nx).2,ExtS.refl _ _⟩⟩
def ctHW {X:Type} (Φ Φ':List Nat->Nat->World->Prop) (args:X->List Value) (pre:X->Prop) (r:X->Value):CT:=fun vs mem nx K=>∃ x j S,pre x/\vs=.pointer (some ⟨j,0,none⟩)::args x/\lk mem j=some (.ext (.obj S Φ))/\∀ S',K (r x) ((j,.ext (.obj S' Φ'))::mem) nx
theorem zmQ {f : FuncId} {X : Type} {Φ Φ' : List Nat -> Nat -> World -> Prop} {args : X -> List Value} {pre : X -> Prop} {r : X -> Value} (hent : (P.funcs[f]?).map (fun fn => (fn.name == "runtime.NumGoroutine", fn.body.isNone)) = some (false, false)) (hloc : LocO Φ') (hargs : ∀ x ρ, (args x).map (den ρ) = args x) (hr : ∀ x ρ n, den ρ (r x) = r x /\ okV ρ n (r x))
  (h:∀ x w S0 g0,pre x->Φ S0 g0 w->g0 ∈ S0->(∀ b,b ∈ S0->b<w.heap.size)->Calls P f (Value.pointer (some ⟨g0,0,none⟩)::args x).toArray w fun e w'=>e=.returned (r x)/\(w'.os=w.os/\w'.tape=w.tape/\w'.output=w.output)/\w.heap.size<=w'.heap.size/\(∀ b,b<w.heap.size->b ∉ S0->w'.heap[b]?=w.heap[b]?)/\∃ S',(∀ b,b ∈ S'->b<w'.heap.size/\(w.heap.size<=b∨b ∈ S0))/\g0 ∈ S'/\Φ' S' g0 w'):CSound P f (ctHW Φ Φ' args pre r):=
 ⟨hent,fun {C ρ fr mem nx a w vs K} hc hs hv=>by
  obtain⟨x,j,S0,hp,rfl,hj,hK⟩:=hc
  obtain⟨g0,hA0,hgS,hSok,-,hΦ0⟩:=hs.blk j _ (za9 hj)
  have e1:((Value.pointer (some ⟨j,0,none⟩)::args x).map (den ρ))=Value.pointer (some ⟨g0,0,none⟩)::args x:=by
   rw[List.map_cons,hargs]
   show Value.pointer (ρ j).A::_=_
   rw[hA0]
  rw[e1]
  refine (h x w S0 g0 hp hΦ0 hgS fun b hb=>(hSok b hb).1).mono ?_
  rintro e w' ⟨rfl,⟨h1,h2,h3⟩,h4,h5,S',h6,h7,h8⟩
  exact⟨r x,_,nx,ρ,by rw[(hr x ρ nx).1],hK S',hs.objset hj hA0 h1 h2 h3 h4 h5 h6 h7 hloc h8,(hr x ρ nx).2,ExtS.refl _ _⟩⟩
end
/-! The store,by hand: empty,or of no interest. -/
def stE:List Nat->Nat->World->Prop:=fun S g w=>∃ m cl,g ∈ S/\m ∈ S/\w.heap[g]?=some (.cells #[.map (some m)] 188)/\w.heap[m]?=some (.map #[] cl)
def stN:List Nat->Nat->World->Prop:=fun _ _ _=>True
theorem zlU:LocO stE:=by
 rintro S g w w' hb - ⟨m,cl,h1,h2,h3,h4⟩;exact⟨m,cl,h1,h2,(hb g h1).trans h3,(hb m h2).trans h4⟩
theorem stN_loc:LocO stN:=fun _ _ _ _ _ _ _=>trivial
theorem zfA (w:World) (o1 o2:Obj):((w.alloc o1).alloc o2).heap.size=w.heap.size+2/\((w.alloc o1).alloc o2).heap[w.heap.size]?=some o1/\((w.alloc o1).alloc o2).heap[w.heap.size+1]?=some o2/\Below w.heap.size w ((w.alloc o1).alloc o2):=by
 have h1:(w.alloc o1).heap.size=w.heap.size+1:=Array.size_push _;have h2:=heap_alloc_new (w.alloc o1) o2;rw[h1] at h2;exact⟨by rw[show ((w.alloc o1).alloc o2).heap.size=(w.alloc o1).heap.size+1 from Array.size_push _,h1],(heap_alloc_old (w.alloc o1) o2 (by rw[h1];omega)).trans (heap_alloc_new w o1),h2,((Below.refl _ _).alloc nl_ _).alloc (by rw[h1];omega) _⟩
theorem zlT (w:World) (cl:Nat) (h:∃ g,g=w.heap.size+1):w.heap.size+1 ∈ [w.heap.size,w.heap.size+1]/\(∀ b,b ∈ [w.heap.size,w.heap.size+1]->w.heap.size<=b/\b<((w.alloc (.map #[] cl)).alloc (.cells #[.map (some w.heap.size)] 188)).heap.size)/\stE [w.heap.size,w.heap.size+1] (w.heap.size+1) ((w.alloc (.map #[] cl)).alloc (.cells #[.map (some w.heap.size)] 188))/\Below w.heap.size w ((w.alloc (.map #[] cl)).alloc (.cells #[.map (some w.heap.size)] 188)):=by
 obtain⟨h1,h2,h3,h4⟩:=zfA w (.map #[] cl) (.cells #[.map (some w.heap.size)] 188);have m1:w.heap.size ∈ [w.heap.size,w.heap.size+1]:=List.mem_cons_self;have m2:w.heap.size+1 ∈ [w.heap.size,w.heap.size+1]:=List.mem_cons_of_mem _ List.mem_cons_self;refine⟨m2,fun b hb=>?_,⟨w.heap.size,cl,m2,m1,h3,h2⟩,h4⟩;rw[h1];rcases List.mem_cons.1 hb with rfl | hb
 ·omega
 ·obtain rfl:=List.mem_singleton.1 hb;omega
theorem mapS:Tryz.prog.underlying 186=some (.map 9 184):=by kernel_rfl
theorem zlQ (w:World):Calls Tryz.prog 188 #[] w fun e w'=>∃ g S,e=.returned (.pointer (some ⟨g,0,none⟩))/\g ∈ S/\(∀ b,b ∈ S->w.heap.size<=b/\b<w'.heap.size)/\stE S g w'/\Below w.heap.size w w':=by
 have hmm:=@run_makeMap Tryz.prog;go_enter Tryz.func188,Tryz.ntmps188;go_wp2;go_ret;exact⟨w.heap.size+1,[w.heap.size,w.heap.size+1],rfl,zlT w 0 ⟨_,rfl⟩⟩
theorem zks (w:World) (S0:List Nat) (g0:Nat) (hΦ:stE S0 g0 w) (hS:∀ b,b ∈ S0->b<w.heap.size):Calls Tryz.prog 250 #[.pointer (some ⟨g0,0,none⟩)] w fun e w'=>∃ g S,e=.returned (.pointer (some ⟨g,0,none⟩))/\g ∈ S/\(∀ b,b ∈ S->w.heap.size<=b/\b<w'.heap.size)/\stE S g w'/\Below w.heap.size w w':=by
 obtain⟨m,cl,h1,h2,h3,h4⟩:=hΦ;have hc:w.cell? ⟨g0,0,none⟩=some (.map (some m)):=by simp[World.cell?,h3]
 have hc0:w.cell? ⟨g0,0+0,none⟩=some (.map (some m)):=hc;have hq:=fun w=>run_eql_map_nil_sl (P:=Tryz.prog) w 186 _ _ (some m) mapS
 go_enter Tryz.func250,Tryz.ntmps250;go_wp2;rw[run_callFunc_extern Tryz.func326 k_ k_ k_ (e:=Extern.MapsClone.clone) k_,run_maps_clone_sl w 186 h4];simp only[Result.andThen];rw[Oper.upon_value];go_wp2;rw[run_typeAssert_map_sl _ 186 _ _ _ _ mapS];simp only[Result.andThen];rw[Oper.upon_value];go_wp2;go_ret;exact⟨w.heap.size+1,[w.heap.size,w.heap.size+1],rfl,zlT w cl ⟨_,rfl⟩⟩
theorem stNewOk:CSound Tryz.prog 188 (ctHM stE):=handMake k_ zlU zlQ
theorem stCopyOk:CSound Tryz.prog 250 (ctHC stE stE):=handCopy k_ zlU zks
theorem strU:Tryz.prog.underlying 9=some .string:=by kernel_rfl
theorem ziU (w:World) (g cl:Nat) (s) (hg:w.heap[g]?=some (.map #[] cl)):(Instr.lookup 186 (.map (some g)) (.string s) true).run Tryz.prog w=.ok (.tuple #[.agg #[.string ⟨#[]⟩,.int .i64 0],.bool false]) w:=by
 have hk:(Instr.checkKey true 10000 9 (.string s)).run Tryz.prog w=.ok () w:=by
  show (Instr.checkKey true (9999+1) 9 (.string s)).run Tryz.prog w=_;unfold Instr.checkKey;simp[run_underlying strU]
 have hk2:(Instr.checkKey false 10000 9 (.string s)).run Tryz.prog w=.ok () w:=by
  show (Instr.checkKey false (9999+1) 9 (.string s)).run Tryz.prog w=_;unfold Instr.checkKey;simp[run_underlying strU]
 have hz:(zeroValue 184).run Tryz.prog w=.ok (.agg #[.string ⟨#[]⟩,.int .i64 0]) w:=by kernel_rfl
 have hf:(Instr.findKey 9 (.string s) []).run Tryz.prog w=.ok none w:=by simp[Instr.findKey,run_underlying strU,Instr.findNow]
 simp[Instr.lookup,run_underlying mapS,zmT hg,hk,hk2,hf,hz]
theorem zlR (s) (w:World) (S0:List Nat) (g0:Nat) (hΦ:stE S0 g0 w) (hS:∀ b,b ∈ S0->b<w.heap.size):Calls Tryz.prog 60 #[.pointer (some ⟨g0,0,none⟩),.string s] w fun e w'=>e=.returned (.tuple #[.string ⟨#[]⟩,.int .i64 0,.bool false])/\Below w.heap.size w w':=by
 obtain⟨m,cl,h1,h2,h3,h4⟩:=hΦ;have hc:w.cell? ⟨g0,0,none⟩=some (.map (some m)):=by simp[World.cell?,h3]
 have hc0:w.cell? ⟨g0,0+0,none⟩=some (.map (some m)):=hc;have hl:=ziU w m cl s h4;go_enter Tryz.func60,Tryz.ntmps60;go_wp2;have c1:(w.alloc (.cells #[.string ⟨#[]⟩,.int .i64 0] 184)).cell? ⟨w.heap.size,0,none⟩=some (.string ⟨#[]⟩):=by rw[World.cell?_alloc_new];rfl
 have c2:(w.alloc (.cells #[.string ⟨#[]⟩,.int .i64 0] 184)).cell? ⟨w.heap.size,1,none⟩=some (.int .i64 0):=by rw[World.cell?_alloc_new];rfl
 have hb:Below w.heap.size w (w.alloc (.cells #[.string ⟨#[]⟩,.int .i64 0] 184)):=(Below.refl _ _).alloc nl_ _;generalize w.alloc (.cells #[.string ⟨#[]⟩,.int .i64 0] 184)=W1 at *;clear hc hc0 hl;go_quiet (fail);go_wp2;go_ret3;exact⟨rfl,hb.os,hb.tape,hb.output,hb.size,hb.block⟩
theorem stGetOk:CSound Tryz.prog 60 (ctHR stE (fun s=>[.string s]) (fun _=>.tuple #[.string ⟨#[]⟩,.int .i64 0,.bool false])):=zjW k_ (fun _ _=>rfl) (fun x ρ n=>⟨by simp[den,zaW,zal],fun u hu=>by
 simp at hu
 rcases hu with rfl | rfl | rfl<;>trivial⟩) zlR
end Go.Proofs.YtjnndjnpcelafaaGreat
