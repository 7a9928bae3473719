import Derived.Test.YtbmlgcjoeeejbaaGreatPx14
namespace Go.Proofs.YtbmlgcjoeeejbaaGreat
open Go.RowKit
set_option linter.unusedSimpArgs false
set_option linter.unusedVariables false
/-! make.Config -/
theorem shl1_bd (r:Int):2≤shl1 r∧shl1 r≤16:=by unfold shl1;repeat' split<;>omega
theorem versOk_snoc {l:List (Int×Int)} {lo hi:Int} (h:versOk l=true) (h1:1≤l.length) (a:0≤lo) (b:lo≤hi) (d:hi≤30):versOk (l++[(lo,hi)])=true:=by
 unfold versOk at *
 rw[List.all_eq_true] at *
 intro i hi'
 rw[List.mem_range,List.length_append] at hi'
 simp at hi'
 by_cases hlt:i<l.length
 ·have:=h i (List.mem_range.2 hlt)
  rw[List.getElem?_append_left hlt]
  exact this
 ·obtain rfl:i=l.length:=by omega
  have hne:l≠[]:=by rintro rfl;simp at h1
  simp[verOk,hne]
  omega
structure MadeCfg (c:Cfg):Prop where
 valid:cfgErr c=0
 regions:1≤c.regions∧c.regions≤3
 zones:1≤c.zones.length∧c.zones.length≤6
 cells:1≤c.cells.length∧c.cells.length≤7
 tenants:c.tenants.length≤5
 versions:1≤c.versions.length∧c.versions.length≤3
 replicas:c.replicas.length=1∨c.replicas.length=3
 observers:1≤c.observers.length∧c.observers.length≤4
 blast:1≤c.blast∧c.blast≤3
 lease:2≤c.lease∧c.lease≤12
 bake:0≤c.bake∧c.bake≤8
 caps:c.cells.all (fun y=>inR y.1 0 (c.zones.length-1)&&inR y.2 1 40)=true
theorem madeCfg_of (r bl le ba:Int) (zl:List Int) (cl:List (Int×Int)) (tl:List Ten) (vl:List (Int×Int)) (rl ol:List Int) (h1:1≤r∧r≤3) (h2:1≤zl.length∧zl.length≤6) (h3:1≤cl.length∧cl.length≤7)
  (h4:tl.length≤5) (h5:1≤vl.length∧vl.length≤3) (a1:zl.all (fun z=>inR z 0 (r-1))=true) (a2:cl.all (fun y=>inR y.1 0 (zl.length-1)&&inR y.2 1 40)=true) (a3:tl.all (tenOk r)=true) (a4:versOk vl=true)
  (a5:rl.all (fun z=>inR z 0 (zl.length-1))=true) (a6:ol.all (fun z=>inR z 0 (zl.length-1))=true) (h6:rl.length=1∨rl.length=3) (h7:1≤ol.length∧ol.length≤4) (h8:1≤bl∧bl≤3) (h9:2≤le∧le≤12) (h10:0≤ba∧ba≤8) :
  MadeCfg ⟨r,zl,cl,tl,vl,rl,ol,bl,le,ba⟩:=by
 refine⟨?_,h1,h2,h3,h4,h5,h6,h7,h8,h9,h10,a2⟩
 have b1:cl.all (fun y=>inR y.1 0 (zl.length-1))=true:=by
  rw[List.all_eq_true] at a2 ⊢
  exact fun y hy=>(Bool.and_eq_true _ _ ▸ a2 y hy).1
 have b2:cl.all (fun y=>inR y.2 1 4194304)=true:=by
  rw[List.all_eq_true] at a2 ⊢
  intro y hy
  have:=(Bool.and_eq_true _ _ ▸ a2 y hy).2
  simp[inR] at this ⊢
  omega
 have l1:limitsB ⟨r,zl,cl,tl,vl,rl,ol,bl,le,ba⟩=true:=by simp[limitsB,inR];omega
 have l2:placesB ⟨r,zl,cl,tl,vl,rl,ol,bl,le,ba⟩=true:=by unfold placesB;rw[a1,b1,a5,a6];rfl
 have l3:valuesB ⟨r,zl,cl,tl,vl,rl,ol,bl,le,ba⟩=true:=by
  unfold valuesB
  rw[b2,a4]
  simp[inR]
  omega
 have l4:¬ rl.length % 2=0:=by omega
 have l5:topoErr ⟨r,zl,cl,tl,vl,rl,ol,bl,le,ba⟩=0:=by simp[topoErr,l1,l2,l3,l4]
 simp only[cfgErr,l5,a3]
 rfl
def CfgPost (w:World) (e:Ending) (w':World):Prop:=
 ∃ (x:CfgA) (c:Cfg),e=.returned (.agg (cfgC x c))∧CfgOk w' (fun b=>w.heap.size≤b∧b<w'.heap.size) x c∧MadeCfg c∧Below w.heap.size w w'
theorem versOk_one {h:Int} (h0:0≤h) (h1:h≤30):versOk [(0,h)]=true:=by
 simp[versOk,verOk]
 omega
abbrev allowC (r:Int):Int:=IntKind.i64.wrap (IntKind.i64.wrap (1 * 2 ^ min (IntKind.u64.wrap r).toNat IntKind.i64.bits)-1)
theorem allowC_eq {r:Int} (h:1≤r∧r≤3):allowC r=shl1 r-1:=by
 rcases (show r=1∨r=2∨r=3 by omega) with rfl | rfl | rfl<;>decide
theorem ten_okC {r a b p g al gr:Int} {no:Bool} (h1:1≤r∧r≤3) (ha:1≤a∧a≤12) (hb:0≤b∧b<a+1) (hp:0≤p∧p<4) (hg:-1≤g∧g≤3) (hal:1≤al∧al≤shl1 r-1) (hgr:0≤gr∧gr<3):tenOk r ⟨a,b,p,g,al,gr,no⟩=true:=by
 unfold tenOk inR
 simp only[Bool.and_eq_true,decide_eq_true_eq]
 omega
def ctBetw:CT:=fun vs mem nx K=>∃ v lo hi,vs=[.int .i64 v,.int .i64 lo,.int .i64 hi]∧(lo≤hi∧-1000000≤lo∧hi≤1000000)∧∀ r:Int,lo≤r→r≤hi→K (.int .i64 r) mem nx
theorem betwOk:CSound Tryz.prog 34 ctBetw:=⟨by kernel_rfl,fun {C ρ fr mem nx a w vs K} hc hs hv=>by
 obtain⟨v,lo,hi,rfl,⟨h1,h2,h3⟩,hK⟩:=hc
 refine (mkBetween_any v lo hi w h1 h2 h3).mono ?_
 rintro e w' ⟨⟨r,hr1,hr2,-,rfl⟩,rfl⟩
 exact⟨.int .i64 r,mem,nx,ρ,rfl,hK r hr1 hr2,hs,trivial,ExtS.refl _ _⟩⟩
theorem snoc_el {α:Type} {enc:α→List Value} {d:α} {l:List α} {x:α} {el el2:Nat→List Value} (h0:∀ j,j<l.length→el j=enc (l.getD j d)) (h1:∀ j,j<l.length→el2 j=el j) (h2:el2 (l.length+0)=enc x):∀ j,j<(l++[x]).length→el2 j=enc ((l++[x]).getD j d):=by
 intro j hj
 by_cases hjn:j<l.length
 ·rw[h1 j hjn,h0 j hjn,List.getD_eq_getElem?_getD,List.getD_eq_getElem?_getD,List.getElem?_append_left hjn]
 ·obtain rfl:j=l.length:=by simp at hj;omega
  rw[Nat.add_zero] at h2
  rw[h2,List.getD_eq_getElem?_getD,List.getElem?_append_right (Nat.le_refl _),Nat.sub_self]
  rfl
theorem one_el {α:Type} {enc:α→List Value} {d x:α} {el2:Nat→List Value} (h2:el2 0=enc x):∀ j,j<[x].length→el2 j=enc ([x].getD j d):=by
 intro j hj
 obtain rfl:j=0:=by simpa using hj
 exact h2
theorem cwz {n rg:Int} (hn:0≤n) (hr:1≤rg):(true&&[Int.tmod n rg].all (fun z=>inR z 0 (rg-1)))=true:=by
 have t1:=Int.tmod_nonneg rg hn
 have t2:=Int.tmod_lt_of_pos n (show 0<rg by omega)
 simp[inR]
 omega
theorem cwc {n z r:Int} (hn:0≤n) (hz:1≤z) (hr:1≤r∧r≤4):(true&&[(Int.tmod n z,IntKind.i64.wrap (r * 10))].all (fun y=>inR y.1 0 (z-1)&&inR y.2 1 40))=true:=by
 have t1:=Int.tmod_nonneg z hn
 have t2:=Int.tmod_lt_of_pos n (show 0<z by omega)
 rw[wrapi (n:=r * 10) (by omega)]
 simp[inR]
 omega
theorem cwi {z r:Int} (hr:0≤r∧r<z):(true&&[r].all (fun y=>inR y 0 (z-1)))=true:=by
 simp[inR]
 omega
end Go.Proofs.YtbmlgcjoeeejbaaGreat
