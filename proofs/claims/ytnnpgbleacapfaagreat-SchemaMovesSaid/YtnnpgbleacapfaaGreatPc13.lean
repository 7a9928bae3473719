import Derived.Test.YtnnpgbleacapfaaGreatPc12
namespace Go.Proofs.YtnnpgbleacapfaaGreat
open Go.RowKit
set_option linter.unusedSimpArgs false
set_option linter.unusedVariables false
section
variable {P:Program} {Q:Exit→Act→World→Prop}
def anyB (ops:Array Oper) (acts:List Nat) (pre:Nat→List Nat):Nat→Array Bool→Bool
 | 0,ls=>(Region.ready .any ops ls).isEmpty&&acts.all fun i=>ls.getD i false
 | n+1,ls=>((Region.ready .any ops ls).all fun i=>acts.contains i&&!(ls.getD i true)&&(pre i).all (fun j=>ls.getD j false)&&anyB ops acts pre n (ls.setIfInBounds i true))&&(!(Region.ready .any ops ls).isEmpty||acts.all fun i=>ls.getD i false)
def upd (d:Nat→Bool) (i:Nat):Nat→Bool:=fun j=>if j=i then true else d j
def ActStep (P:Program) (ops:Array Oper) (Q:Exit→Act→World→Prop) (S:World→Prop) (J:(Nat→Bool)→Act→World→Prop) (pre:Nat→List Nat) (i:Nat):Prop:=
 ∀ d a w,d i=false→(∀ j ∈ pre i,d j=true)→S w→J d a w→wpOp P ops Q i (fun a' w'=>S w'∧J (upd d i) a' w') a w
theorem wpAnyH_acts {ops:Array Oper} {S:World→Prop} {acts:List Nat} {pre:Nat→List Nat} {J:(Nat→Bool)→Act→World→Prop} (hstep:∀ i ∈ acts,ActStep P ops Q S J pre i)
  (hend:∀ d a w,(∀ i ∈ acts,d i=true)→S w→J d a w→Q .normal a w):∀ (n:Nat) (ls:Array Bool) (a:Act) (w:World),anyB ops acts pre n ls=true→S w→J (fun j=>ls.getD j false) a w→wpAnyH P .any ops Q S n ls a w
 | 0,ls,a,w,hB,hS,hJ=>by
  simp only[anyB,Bool.and_eq_true,List.isEmpty_iff,List.all_eq_true] at hB
  exact wpAnyH_done hB.1 (hend _ a w hB.2 hS hJ) _
 | n+1,ls,a,w,hB,hS,hJ=>by
  simp only[anyB,Bool.and_eq_true,List.all_eq_true,Bool.or_eq_true] at hB
  obtain⟨h1,h2⟩:=hB
  by_cases he:Region.ready .any ops ls=[]
  ·refine wpAnyH_done he (hend _ a w ?_ hS hJ) _
   rcases h2 with h2 | h2
   ·simp[he] at h2
   ·exact fun i hi=>h2 i hi
  ·refine wpAnyH_all rfl he fun i hi=>?_
   have h3:=h1 i hi
   simp only[List.contains_iff_mem,Bool.not_eq_true',List.all_eq_true] at h3
   obtain⟨⟨⟨h4,h5⟩,h8⟩,h6⟩:=h3
   have hlt:i<ls.size:=by
    refine Classical.byContradiction fun hn=>?_
    rw[Array.getD_eq_getD_getElem?,Array.getElem?_eq_none (by omega)] at h5
    cases h5
   have h7:ls.getD i false=false:=by
    rw[Array.getD_eq_getD_getElem?,Array.getElem?_eq_getElem hlt] at h5 ⊢
    exact h5
   have hd:(fun j=>(ls.setIfInBounds i true).getD j false)=upd (fun j=>ls.getD j false) i:=by
    funext j
    unfold upd
    rw[Array.getD_eq_getD_getElem?,Array.getElem?_setIfInBounds]
    by_cases hj:i=j
    ·subst hj;simp[hlt]
    ·have:¬ j=i:=fun h=>hj h.symm
     simp[hj,this,Array.getD_eq_getD_getElem?]
   exact wpOp_mono (fun a' w' ⟨hS',h'⟩=>⟨hS',wpAnyH_acts hstep hend n _ a' w' h6 hS' (by rw[hd];exact h')⟩) (hstep i h4 _ a w h7 h8 hS hJ)
def wpSeqI (P:Program) (ops:Array Oper) (Q:Exit→Act→World→Prop) (S:World→Prop) (acts:List Nat) (pre:Nat→List Nat):List Nat→Act→World→Prop
 | [],a,w=>∃ J:(Nat→Bool)→Act→World→Prop,(∀ d,(∀ i ∈ acts,d i=false)→J d a w)∧(∀ i ∈ acts,ActStep P ops Q S J pre i)∧(∀ d a w,(∀ i ∈ acts,d i=true)→S w→J d a w→Q .normal a w)
 | i::r,a,w=>∃ (o:Oper) (v:Value),ops[i]?=some o∧(∀ c a w,Q (.panic c) (a.put o.dst v) w→Q (.panic c) a w)∧YieldsIf P ops S o v a∧wpSeqI P ops Q S acts pre r (a.put o.dst v) w
def seqIB (ops:Array Oper) (acts:List Nat) (pre:Nat→List Nat) (n:Nat):List Nat→Array Bool→Bool
 | [],listed=>anyB ops acts pre n listed&&acts.all fun i=>!(listed.getD i false)
 | i::r,listed=>Region.free .any ops listed i&&(Region.ready .any ops listed).contains i&&seqIB ops acts pre n r (listed.setIfInBounds i true)
theorem wpAnyH_of_seqI {ops:Array Oper} {S:World→Prop} {acts:List Nat} {pre:Nat→List Nat} {n:Nat} (hs:Region.noSelect ops=true):∀ (σ:List Nat) (listed:Array Bool) (a:Act) (w:World),seqIB ops acts pre n σ listed=true→S w→
  wpSeqI P ops Q S acts pre σ a w→wpAnyH P .any ops Q S (n+σ.length) listed a w
 | [],listed,a,w,hB,hS,⟨J,h1,h2,h3⟩=>by
  simp only[seqIB,Bool.and_eq_true,List.all_eq_true,Bool.not_eq_true'] at hB
  exact wpAnyH_acts h2 h3 n _ a w hB.1 hS (h1 _ hB.2)
 | i::r,listed,a,w,hB,hS,h=>by
  simp only[seqIB,Bool.and_eq_true] at hB
  obtain⟨⟨h1,h2⟩,h3⟩:=hB
  obtain⟨o,v,ho,hQ,hy,hr⟩:=h
  exact wpAnyH_take ho hs h1 h2 hQ hy hS (wpAnyH_of_seqI hs r _ _ _ h3 hS hr)
def regSeqIB (l:List Oper) (k:Nat) (σ acts:List Nat) (pre:Nat→List Nat):Bool:=
 lastB l k&&Region.noSelect (l.take k).toArray&&decide (acts.length+σ.length=k)&&seqIB (l.take k).toArray acts pre acts.length σ (Array.replicate k false)
theorem wp_region_seqI {l:List Oper} {id:Nat} {a:Act} {w:World} (S:World→Prop) (k:Nat) (σ acts:List Nat) (pre:Nat→List Nat) (hm:P.follows .mixedOrders=true) (hB:regSeqIB l k σ acts pre=true) (hS:S w.drew)
  (h:wpSeqI P (l.take k).toArray (thenK (fun a w=>wpList P l.toArray Q (l.drop k) a w) Q) S acts pre σ a w.drew):(Code.region id l.toArray true).wp P Q a w:=by
 simp only[regSeqIB,Bool.and_eq_true,decide_eq_true_eq] at hB
 obtain⟨⟨⟨h1,h2⟩,h3⟩,h4⟩:=hB
 refine wp_region_last k hm h1 (wpAny_of_held (S:=S) _ _ _ _ ?_)
 have:=wpAnyH_of_seqI h2 σ _ a w.drew h4 hS h
 rw[h3] at this
 exact this
theorem wpSeqI_fix {ops:Array Oper} {S:World→Prop} {acts:List Nat} {pre:Nat→List Nat} {i:Nat} {r:List Nat} {a:Act} {w:World} (o:Oper) (v:Value) (ho:ops[i]?=some o) (hQ:∀ c a w,Q (.panic c) (a.put o.dst v) w→Q (.panic c) a w)
  (hy:YieldsIf P ops S o v a) (h:wpSeqI P ops Q S acts pre r (a.put o.dst v) w):wpSeqI P ops Q S acts pre (i::r) a w:=⟨o,v,ho,hQ,hy,h⟩
theorem wpSeqI_acts {ops:Array Oper} {S:World→Prop} {acts:List Nat} {pre:Nat→List Nat} {a:Act} {w:World} (J:Act→(Nat→Bool)→Act→World→Prop) (h1:∀ d,(∀ i ∈ acts,d i=false)→J a d a w)
  (h2:∀ i ∈ acts,ActStep P ops Q S (J a) pre i) (h3:∀ d b w,(∀ i ∈ acts,d i=true)→S w→J a d b w→Q .normal b w):wpSeqI P ops Q S acts pre [] a w:=⟨J a,h1,h2,h3⟩
theorem actStep_op {ops:Array Oper} {S:World→Prop} {J:(Nat→Bool)→Act→World→Prop} {pre:Nat→List Nat} {i:Nat} {o:Oper} (ho:ops[i]?=some o) (hg:o.guard=none)
  (h:∀ d a w,d i=false→(∀ j ∈ pre i,d j=true)→S w→J d a w→o.wp P a w (fun a' w'=>S w'∧J (upd d i) a' w') Q):ActStep P ops Q S J pre i:=fun d a w h0 h1 h2 h3=>wpOp_act ho hg (h d a w h0 h1 h2 h3)
theorem acts_nil {p:Nat→Prop}:∀ i ∈ ([]:List Nat),p i:=fun i h=>by cases h
theorem acts_cons {p:Nat→Prop} {i:Nat} {r:List Nat} (h1:p i) (h2:∀ j ∈ r,p j):∀ j ∈ i::r,p j:=fun j h=>by
 rcases List.mem_cons.1 h with rfl | h
 ·exact h1
 ·exact h2 j h
end
theorem later_next {B:Nat} {w wq:World} (y:Later B w) (hw:B≤w.heap.size) (hb:Below y.world.heap.size y.world wq):∃ y2:Later B w,wq=y2.world:=
 ⟨⟨wq,y.below.trans (hb.mono (Nat.le_trans hw y.below.size))⟩,rfl⟩
theorem start_later {P:Program} {c:Code} {Q:Exit→Act→World→Prop} {a:Act} {w:World} (B:Nat) (h:∀ y:Later B w,c.wp P Q a y.world):c.wp P Q a w:=h ⟨w,Below.refl _ _⟩
set_option maxHeartbeats 400000 in
theorem stHas_any (set i:Int) (w:World) (h0:0≤set) (h1:set<1073741824) :
  Calls Tryz.prog 127 #[.int .i64 set,.int .i64 i] w fun e w'=>e=.returned (.bool (hasB set i))∧w=w':=by
 have HB:=Lib.hid (bit_div2 set i h0)
 have HD:=div_bd (z:=set) i h0 (by omega)
 have HH:Hid (62≤i→bitB set i=false):=by
  refine Lib.hid fun hi=>?_
  obtain⟨n,rfl⟩:=Int.eq_ofNat_of_zero_le h0
  unfold bitB
  rw[Int.toNat_natCast]
  refine Nat.testBit_lt_two_pow (Nat.lt_of_lt_of_le (show n<2 ^ 30 by omega) (Nat.pow_le_pow_right (by omega) (by omega)))
 go_enter Tryz.func127,Tryz.ntmps127
 go_wp2
 all_goals
  go_ret
  refine⟨ret_bool ?_,rfl⟩
 ·rw[i64_and1 _ (by omega) (by omega),HB.out]
  by_cases h62:i<62
  ·simp[hasB, *]
  ·rw[HH.out (by omega)]
   simp[hasB]
   omega
 ·simp[hasB]
  omega
 ·simp[hasB]
  omega
def modeAt (s:St) (k:Int):Int:=if 0≤k∧k<s.cells.length then (csAt s k).mode else 0
set_option maxHeartbeats 400000 in
theorem stModeOf_any (x:StA) (s:St) (k:Int) (w:World) (hl:s.cells.length≤100) (hok:StOk w (·<w.heap.size) x s) :
  Calls Tryz.prog 121 #[.agg (stC x s),.int .i64 k] w fun e w'=>e=.returned (.int .i64 (modeAt s k))∧Below w.heap.size w w':=by
 obtain⟨at_,ct,ac,cc⟩:=x
 have HK:=Lib.hid hok
 clear hok
 unfold stC
 simp only
 by_cases hk:0≤k∧k<s.cells.length
 ·obtain⟨hk0,hk1⟩:=hk
  obtain⟨n,rfl⟩:=Int.eq_ofNat_of_zero_le hk0
  have hn:n<s.cells.length:=by omega
  obtain⟨b,off,z,rfl,hb,hz,hcell⟩:=HK.out.cells.row (enc:=csC) (sz:=4) (fun _=>rfl) (by omega) hn
  have e0:=hcell 0 (.int .i64 z.mode) rfl
  simp only[Nat.add_zero] at e0
  have hzo:modeAt s n=z.mode:=by unfold modeAt csAt;rw[if_pos ⟨hk0,hk1⟩,Int.toNat_natCast,getD_some hz]
  have HZ:=Lib.hid hzo
  have hb1:b<w.heap.size:=hb
  clear hcell hz hzo
  go_enter Tryz.func121,Tryz.ntmps121
  go_wp2
  go_ret
  exact⟨ret_i64 HZ.out.symm,(Below.refl _ _).alloc (Nat.le_refl _) _⟩
 ·have hzo:modeAt s k=0:=by unfold modeAt;rw[if_neg hk]
  have HZ:=Lib.hid hzo
  have hd:k<0∨(0≤k∧(s.cells.length:Int)≤k):=by omega
  clear hk hzo
  rcases hd with hd | ⟨hd1,hd⟩
  all_goals
   go_enter Tryz.func121,Tryz.ntmps121
   go_wp2
   go_ret
   exact⟨ret_i64 HZ.out.symm,(Below.refl _ _).alloc (Nat.le_refl _) _⟩
def verOf (c:Cfg) (k:Int):Int×Int:=if 0≤k∧k<c.versions.length then verAt c k else (0,0)
set_option maxHeartbeats 400000 in
theorem stVersionOf_any (x:CfgA) (c:Cfg) (k:Int) (w:World) (hV:CfgV c) (hok:CfgOk w (·<w.heap.size) x c) :
  Calls Tryz.prog 126 #[.agg (cfgC x c),.int .i64 k] w fun e w'=>e=.returned (.agg (pairC (verOf c k)).toArray)∧Below w.heap.size w w':=by
 obtain⟨az,cz,ac,cc,at_,ct,av,cv,ar,cr,ao,co⟩:=x
 have hnc:=hV.nv
 have HK:=Lib.hid hok
 clear hok hV
 unfold cfgC
 simp only
 by_cases hk:0≤k∧k<c.versions.length
 ·obtain⟨hk0,hk1⟩:=hk
  obtain⟨n,rfl⟩:=Int.eq_ofNat_of_zero_le hk0
  have hn:n<c.versions.length:=by omega
  obtain⟨b,off,z,rfl,hb,hz,hcell⟩:=HK.out.versions.row (enc:=pairC) (sz:=2) (fun _=>rfl) (by omega) hn
  have e0:=hcell 0 (.int .i64 z.1) rfl
  have e1:=hcell 1 (.int .i64 z.2) rfl
  simp only[Nat.add_zero] at e0
  have hzo:verOf c n=z:=by unfold verOf verAt;rw[if_pos ⟨hk0,hk1⟩,Int.toNat_natCast,getD_some hz]
  have HZ:=Lib.hid hzo
  have hb1:b<w.heap.size:=hb
  have hg:b<(w.alloc (.cells #[.int .i64 c.regions,.slice az c.zones.length cz,.slice ac c.cells.length cc,.slice at_ c.tenants.length ct,.slice (some ⟨b,off,none⟩) c.versions.length cv,.slice ar c.replicas.length cr,.slice ao c.observers.length co,.int .i64 c.blast,.int .i64 c.lease,.int .i64 c.bake] 30)).heap.size:=by simp;omega
  have e0':=(World.cell?_alloc_lt w (.cells #[.int .i64 c.regions,.slice az c.zones.length cz,.slice ac c.cells.length cc,.slice at_ c.tenants.length ct,.slice (some ⟨b,off,none⟩) c.versions.length cv,.slice ar c.replicas.length cr,.slice ao c.observers.length co,.int .i64 c.blast,.int .i64 c.lease,.int .i64 c.bake] 30) ⟨b,off+n * 2,none⟩ hb1).trans e0
  have e1':=(World.cell?_alloc_lt w (.cells #[.int .i64 c.regions,.slice az c.zones.length cz,.slice ac c.cells.length cc,.slice at_ c.tenants.length ct,.slice (some ⟨b,off,none⟩) c.versions.length cv,.slice ar c.replicas.length cr,.slice ao c.observers.length co,.int .i64 c.blast,.int .i64 c.lease,.int .i64 c.bake] 30) ⟨b,off+n * 2+1,none⟩ hb1).trans e1
  clear hcell hz hzo
  go_enter Tryz.func126,Tryz.ntmps126
  go_wp2
  rw[HZ.out]
  refine bodyPost_ret (v:=.agg #[.int .i64 z.1,.int .i64 z.2]) (by simp[results,Tryz.results126,go_sem]) rfl ?_
  exact⟨rfl,((Below.refl _ _).alloc (Nat.le_refl _) _).alloc (by simp) _⟩
 ·have hzo:verOf c k=(0,0):=by unfold verOf;rw[if_neg hk]
  have HZ:=Lib.hid hzo
  have hd:k<0∨(0≤k∧(c.versions.length:Int)≤k):=by omega
  clear hk hzo
  rcases hd with hd | ⟨hd1,hd⟩
  all_goals
   go_enter Tryz.func126,Tryz.ntmps126
   go_wp2
   rw[HZ.out]
   refine bodyPost_ret (v:=.agg #[.int .i64 0,.int .i64 0]) (by simp[results,Tryz.results126,go_sem]) rfl ?_
   exact⟨rfl,((Below.refl _ _).alloc (Nat.le_refl _) _).alloc (by simp) _⟩
set_option maxHeartbeats 1000000 in
theorem stNear_any (x:CfgA) (c:Cfg) (a b:Int) (w:World) (hV:CfgV c) (hok:CfgOk w (·<w.heap.size) x c) :
  Calls Tryz.prog 124 #[.agg (cfgC x c),.int .i64 a,.int .i64 b] w fun e w'=>e=.returned (.bool (nearB c a b))∧Below w.heap.size w w':=by
 obtain⟨az,cz,ac,cc,at_,ct,av,cv,ar,cr,ao,co⟩:=x
 have HV:=Lib.hid hV
 have HK:=Lib.hid hok
 have HL:=Lib.hid ((Below.refl w.heap.size w).alloc (Nat.le_refl _) (.cells (cfgC ⟨az,cz,ac,cc,at_,ct,av,cv,ar,cr,ao,co⟩ c) 30))
 have HW:=Lib.hid (HK.out.allocW (.cells (cfgC ⟨az,cz,ac,cc,at_,ct,av,cv,ar,cr,ao,co⟩ c) 30))
 have hBx:=Blk.new w 30 (cfgC ⟨az,cz,ac,cc,at_,ct,av,cv,ar,cr,ao,co⟩ c)
 have hg:=hBx.lt
 have d0:=hBx.cell' (i:=0) (v:=.int .i64 c.regions) rfl
 have d1:=hBx.cell' (i:=1) (v:=.slice az c.zones.length cz) rfl
 have d2:=hBx.cell' (i:=2) (v:=.slice ac c.cells.length cc) rfl
 have d3:=hBx.cell' (i:=3) (v:=.slice at_ c.tenants.length ct) rfl
 have d4:=hBx.cell' (i:=4) (v:=.slice av c.versions.length cv) rfl
 have d5:=hBx.cell' (i:=5) (v:=.slice ar c.replicas.length cr) rfl
 have d6:=hBx.cell' (i:=6) (v:=.slice ao c.observers.length co) rfl
 have d7:=hBx.cell' (i:=7) (v:=.int .i64 c.blast) rfl
 have d8:=hBx.cell' (i:=8) (v:=.int .i64 c.lease) rfl
 have d9:=hBx.cell' (i:=9) (v:=.int .i64 c.bake) rfl
 clear hBx
 unfold cfgC at HL HW d0 d1 d2 d3 d4 d5 d6 d7 d8 d9 hg
 simp only at HL HW d0 d1 d2 d3 d4 d5 d6 d7 d8 d9 hg
 clear hok hV HK
 unfold cfgC
 simp only
 by_cases hb:b=-1
 ·have hN:nearB c a b=false:=by simp[nearB,hb]
  have HN:=Lib.hid hN
  subst hb
  clear hN
  go_enter Tryz.func124,Tryz.ntmps124
  go_wp2
  go_ret
  exact⟨ret_bool HN.out.symm,HL.out⟩
 ·have hN:nearB c a b=!apartB c a b:=by simp[nearB,hb]
  have HN:=Lib.hid hN
  have hb2:(b != -1)=true:=by simpa using hb
  clear hN hb
  go_enter Tryz.func124,Tryz.ntmps124
  go_wp2_with fail
  refine (tenantApart_any ⟨az,cz,ac,cc,at_,ct,av,cv,ar,cr,ao,co⟩ c a b _ HV.out HW.out).mono ?_
  rintro e w1 ⟨rfl,hb1⟩
  have HB:=Lib.hid (HL.out.trans (hb1.mono (Nat.le_of_lt hg)))
  clear hb1 d0 d1 d2 d3 d4 d5 d6 d7 d8 d9 hg
  go_wp2
  go_ret
  exact⟨ret_bool HN.out.symm,HB.out⟩
set_option maxHeartbeats 1000000 in
theorem stFrozen_any (x:CfgA) (c:Cfg) (y:StA) (s:St) (k:Int) (w:World) (hV:CfgV c) (hc:CfgOk w (·<w.heap.size) x c) (hI:StInv c s) :
  Calls Tryz.prog 122 #[.agg (cfgC x c),.agg (stC y s),.int .i64 k] w fun e w'=>e=.returned (.bool (frozenB c s k))∧Below w.heap.size w w':=by
 obtain⟨az,cz,ac,cc,at_,ct,av,cv,ar,cr,ao,co⟩:=x
 have HV:=Lib.hid hV
 have HKc:=Lib.hid hc
 obtain⟨sat,sct,sac,scc⟩:=y
 have hev:=hI.evac
 have HF:Hid (frozenB c s k=hasB s.evac (regionOf c k)):=Lib.hid rfl
 clear hV hc hI
 have hL:Below w.heap.size w ((w.alloc (.cells #[.int .i64 c.regions,.slice az c.zones.length cz,.slice ac c.cells.length cc,.slice at_ c.tenants.length ct,.slice av c.versions.length cv,.slice ar c.replicas.length cr,.slice ao c.observers.length co,.int .i64 c.blast,.int .i64 c.lease,.int .i64 c.bake] 30)).alloc (.cells #[.int .i64 s.tick,.int .i64 s.count,.slice sat s.tenants.length sct,.slice sac s.cells.length scc,.int .i64 s.proven,.int .i64 s.evac,.int .i64 s.low,.int .i64 s.high] 34)):=(((Below.refl w.heap.size w).alloc (by simp<;>omega) (.cells #[.int .i64 c.regions,.slice az c.zones.length cz,.slice ac c.cells.length cc,.slice at_ c.tenants.length ct,.slice av c.versions.length cv,.slice ar c.replicas.length cr,.slice ao c.observers.length co,.int .i64 c.blast,.int .i64 c.lease,.int .i64 c.bake] 30)).alloc (by simp<;>omega) (.cells #[.int .i64 s.tick,.int .i64 s.count,.slice sat s.tenants.length sct,.slice sac s.cells.length scc,.int .i64 s.proven,.int .i64 s.evac,.int .i64 s.low,.int .i64 s.high] 34))
 have hBc:Blk ((w.alloc (.cells #[.int .i64 c.regions,.slice az c.zones.length cz,.slice ac c.cells.length cc,.slice at_ c.tenants.length ct,.slice av c.versions.length cv,.slice ar c.replicas.length cr,.slice ao c.observers.length co,.int .i64 c.blast,.int .i64 c.lease,.int .i64 c.bake] 30)).alloc (.cells #[.int .i64 s.tick,.int .i64 s.count,.slice sat s.tenants.length sct,.slice sac s.cells.length scc,.int .i64 s.proven,.int .i64 s.evac,.int .i64 s.low,.int .i64 s.high] 34)) (w.heap.size) 30 #[.int .i64 c.regions,.slice az c.zones.length cz,.slice ac c.cells.length cc,.slice at_ c.tenants.length ct,.slice av c.versions.length cv,.slice ar c.replicas.length cr,.slice ao c.observers.length co,.int .i64 c.blast,.int .i64 c.lease,.int .i64 c.bake]:=by
  have:=((Blk.new w 30 #[.int .i64 c.regions,.slice az c.zones.length cz,.slice ac c.cells.length cc,.slice at_ c.tenants.length ct,.slice av c.versions.length cv,.slice ar c.replicas.length cr,.slice ao c.observers.length co,.int .i64 c.blast,.int .i64 c.lease,.int .i64 c.bake]).alloc (.cells #[.int .i64 s.tick,.int .i64 s.count,.slice sat s.tenants.length sct,.slice sac s.cells.length scc,.int .i64 s.proven,.int .i64 s.evac,.int .i64 s.low,.int .i64 s.high] 34))
  simpa using this
 have hBs:Blk ((w.alloc (.cells #[.int .i64 c.regions,.slice az c.zones.length cz,.slice ac c.cells.length cc,.slice at_ c.tenants.length ct,.slice av c.versions.length cv,.slice ar c.replicas.length cr,.slice ao c.observers.length co,.int .i64 c.blast,.int .i64 c.lease,.int .i64 c.bake] 30)).alloc (.cells #[.int .i64 s.tick,.int .i64 s.count,.slice sat s.tenants.length sct,.slice sac s.cells.length scc,.int .i64 s.proven,.int .i64 s.evac,.int .i64 s.low,.int .i64 s.high] 34)) (w.heap.size+1) 34 #[.int .i64 s.tick,.int .i64 s.count,.slice sat s.tenants.length sct,.slice sac s.cells.length scc,.int .i64 s.proven,.int .i64 s.evac,.int .i64 s.low,.int .i64 s.high]:=by
  have:=(Blk.new (w.alloc (.cells #[.int .i64 c.regions,.slice az c.zones.length cz,.slice ac c.cells.length cc,.slice at_ c.tenants.length ct,.slice av c.versions.length cv,.slice ar c.replicas.length cr,.slice ao c.observers.length co,.int .i64 c.blast,.int .i64 c.lease,.int .i64 c.bake] 30)) 34 #[.int .i64 s.tick,.int .i64 s.count,.slice sat s.tenants.length sct,.slice sac s.cells.length scc,.int .i64 s.proven,.int .i64 s.evac,.int .i64 s.low,.int .i64 s.high])
  simpa using this
 unfold cfgC stC
 simp only
 go_enter Tryz.func122,Tryz.ntmps122
 go_upto_region 1 with fail
 generalize (w.alloc _).alloc _=W at *
 have hgc:=hBc.lt
 have d0:=hBc.cell' (i:=0) (v:=.int .i64 c.regions) rfl
 have d1:=hBc.cell' (i:=1) (v:=.slice az c.zones.length cz) rfl
 have d2:=hBc.cell' (i:=2) (v:=.slice ac c.cells.length cc) rfl
 have d3:=hBc.cell' (i:=3) (v:=.slice at_ c.tenants.length ct) rfl
 have d4:=hBc.cell' (i:=4) (v:=.slice av c.versions.length cv) rfl
 have d5:=hBc.cell' (i:=5) (v:=.slice ar c.replicas.length cr) rfl
 have d6:=hBc.cell' (i:=6) (v:=.slice ao c.observers.length co) rfl
 have d7:=hBc.cell' (i:=7) (v:=.int .i64 c.blast) rfl
 have d8:=hBc.cell' (i:=8) (v:=.int .i64 c.lease) rfl
 have d9:=hBc.cell' (i:=9) (v:=.int .i64 c.bake) rfl
 clear hBc
 have hgs:=hBs.lt
 have su0:=hBs.cell' (i:=0) (v:=.int .i64 s.tick) rfl
 have su1:=hBs.cell' (i:=1) (v:=.int .i64 s.count) rfl
 have su2:=hBs.cell' (i:=2) (v:=.slice sat s.tenants.length sct) rfl
 have su3:=hBs.cell' (i:=3) (v:=.slice sac s.cells.length scc) rfl
 have su4:=hBs.cell' (i:=4) (v:=.int .i64 s.proven) rfl
 have su5:=hBs.cell' (i:=5) (v:=.int .i64 s.evac) rfl
 have su6:=hBs.cell' (i:=6) (v:=.int .i64 s.low) rfl
 have su7:=hBs.cell' (i:=7) (v:=.int .i64 s.high) rfl
 clear hBs
 have HL:=Lib.hid hL
 have HWc:=Lib.hid (HKc.out.belowW hL)
 clear hL
 have hx:∀ (y:Later W.heap.size W) b o,b<W.heap.size→y.world.cell? ⟨b,o,none⟩=W.cell? ⟨b,o,none⟩:=fun y b o h=>y.cell h
 refine wp_region_below W.heap.size (by kernel_rfl) (by kernel_rfl) ?_
 repeat (quiet_step ((first | (go_at_call 151;exact quiet_belowW _ (topoRegionOf_any ⟨az,cz,ac,cc,at_,ct,av,cv,ar,cr,ao,co⟩ c _ _ HV.out (HWc.out.laterW _))) | (go_at_call 127;exact quiet_sameW _ (stHas_any _ _ _ (by omega) (by omega))))))
 refine wpQuiet_nil ?_
 rintro w' ⟨y,rfl⟩
 have HY:=Lib.hid (HL.out.trans (y.below.mono (Nat.le_of_lt hgc)))
 clear hx d0 d1 d2 d3 d4 d5 d6 d7 d8 d9 hgc hgs su0 su1 su2 su3 su4 su5 su6 su7
 go_wp2
 go_ret
 exact⟨ret_bool HF.out.symm,HY.out⟩
theorem modeAt_eq {s:St} {k:Int} (h:0≤k∧k<s.cells.length):modeAt s k=(csAt s k).mode:=if_pos h
theorem shedE_m {c:Cfg} {s:St} {e:Ent} {t:TS} (hI:StInv c s) (h:tsAt s e.tenant=t) (hT:TsInv c t):shedE s e=if e.n=0 then (if t.shed=false then 4 else if modeAt s t.home=3 then 6 else 0) else if t.placed=false∨t.shed=true then 4 else if e.tick<t.win.till then 9 else 0:=by
 unfold shedE
 rw[h]
 by_cases hsh:t.shed=true
 ·rw[modeAt_eq ⟨hT.placed (hT.shed hsh),by have:=hT.home;have:=hI.lc;omega⟩]
 ·simp[hsh]
theorem placeE_m {c:Cfg} {s:St} {e:Ent} {t:TS} (h:tsAt s e.tenant=t) (hcl:0≤e.cell∧e.cell<s.cells.length) (hot:e.other=-1∨(0≤e.other∧e.other<s.cells.length)) :
  placeE c s e=if t.placed=true then 4 else if modeAt s e.cell≠1∨(e.other≠-1∧modeAt s e.other≠1) then 6 else if frozenB c s e.cell=true∨(e.other≠-1∧frozenB c s e.other=true) then 12 else if mayB c e.tenant e.cell=false∨(e.other≠-1∧mayB c e.tenant e.other=false)∨nearB c e.cell e.other=true then 11 else 0:=by
 unfold placeE
 rw[h,modeAt_eq hcl]
 rcases hot with ho | ho
 ·simp[ho]
 ·rw[modeAt_eq ho]
theorem standbyE_m {c:Cfg} {s:St} {e:Ent} {t:TS} (h:tsAt s e.tenant=t) (hT:TsInv c t) (hcl:e.cell=-1∨(0≤e.cell∧e.cell<s.cells.length)) :
  standbyE c s e=if t.placed=false then 4 else if e.cell=-1 then 0 else if e.cell=t.home∨e.cell=t.standby∨e.cell=t.target then 5 else if modeAt s e.cell≠1 then 6 else if frozenB c s e.cell=true then 12 else if mayB c e.tenant e.cell=false∨apartB c e.cell t.home=false∨nearB c e.cell t.target=true then 11 else 0:=by
 unfold standbyE
 rw[h]
 by_cases hpl:t.placed=true
 ·rcases hcl with ho | ho
  ·simp[ho]
  ·have hh:=hT.placed hpl
   rw[modeAt_eq ho]
   have hne:t.home≠-1:=by omega
   simp[nearB,hne]
 ·simp[hpl]
def ctPMode:CT:=fun vs mem nx K=>∃ M y s k,vs=[stV M y s,.int .i64 k]∧(keeps mem (stM M s))∧(s.cells.length≤100)∧K (.int .i64 (modeAt s k)) mem nx
theorem pModeOk:CSound Tryz.prog 121 ctPMode:=(ptsOk (R:=fun l z=>∃ s k,l=[.st s,.vl (.int .i64 k)]∧z=.int .i64 (modeAt s k)) (pre:=fun l=>∃ s k,l=[.st s,.vl (.int .i64 k)]∧(s.cells.length≤100)) (by kernel_rfl) (by
 rintro ps w ⟨s,k,hps,hpre⟩ hok
 obtain⟨y,ps0,rfl,hps0⟩:=dt_s hps
 obtain⟨ps1,rfl,hps1⟩:=dt_v hps0
 obtain rfl:=dt_nil hps1
 have hps:=hok (.st y s) (by simp)
 refine (stModeOf_any y s k w hpre hps).mono ?_
 rintro e w' ⟨rfl,hb⟩
 exact⟨_,⟨s,k,rfl,rfl⟩,trivial,rfl,hb⟩)).mono (by
 rintro vs mem nx K ⟨M,y,s,k,rfl,hk,hpre,hK⟩
 exact⟨[.st M y s,.vl _],rfl,⟨hk,trivial,trivial⟩,⟨_,_,rfl,hpre⟩,by rintro z ⟨s',k',hl,hz⟩;cases hl;subst hz;exact hK⟩)
def ctPFrozen:CT:=fun vs mem nx K=>∃ N x c M y s k,vs=[cfgV N x c,stV M y s,.int .i64 k]∧(keeps mem (cfgM N c)∧keeps mem (stM M s))∧(CfgV c∧StInv c s)∧K (.bool (frozenB c s k)) mem nx
theorem pFrozenOk:CSound Tryz.prog 122 ctPFrozen:=(ptsOk (R:=fun l z=>∃ c s k,l=[.cf c,.st s,.vl (.int .i64 k)]∧z=.bool (frozenB c s k)) (pre:=fun l=>∃ c s k,l=[.cf c,.st s,.vl (.int .i64 k)]∧(CfgV c∧StInv c s)) (by kernel_rfl) (by
 rintro ps w ⟨c,s,k,hps,hpre⟩ hok
 obtain⟨x,ps0,rfl,hps0⟩:=dt_c hps
 obtain⟨y,ps1,rfl,hps1⟩:=dt_s hps0
 obtain⟨ps2,rfl,hps2⟩:=dt_v hps1
 obtain rfl:=dt_nil hps2
 have hpc:=hok (.cf x c) (by simp)
 have hps:=hok (.st y s) (by simp)
 refine (stFrozen_any x c y s k w hpre.1 hpc hpre.2).mono ?_
 rintro e w' ⟨rfl,hb⟩
 exact⟨_,⟨c,s,k,rfl,rfl⟩,trivial,rfl,hb⟩)).mono (by
 rintro vs mem nx K ⟨N,x,c,M,y,s,k,rfl,hk,hpre,hK⟩
 exact⟨[.cf N x c,.st M y s,.vl _],rfl,⟨hk.1,hk.2,trivial,trivial⟩,⟨_,_,_,rfl,hpre⟩,by rintro z ⟨c',s',k',hl,hz⟩;cases hl;subst hz;exact hK⟩)
def ctPMay:CT:=fun vs mem nx K=>∃ N x c t k,vs=[cfgV N x c,.int .i64 t,.int .i64 k]∧(keeps mem (cfgM N c))∧(CfgV c)∧K (.bool (mayB c t k)) mem nx
theorem pMayOk:CSound Tryz.prog 123 ctPMay:=(ptsOk (R:=fun l z=>∃ c t k,l=[.cf c,.vl (.int .i64 t),.vl (.int .i64 k)]∧z=.bool (mayB c t k)) (pre:=fun l=>∃ c t k,l=[.cf c,.vl (.int .i64 t),.vl (.int .i64 k)]∧(CfgV c)) (by kernel_rfl) (by
 rintro ps w ⟨c,t,k,hps,hpre⟩ hok
 obtain⟨x,ps0,rfl,hps0⟩:=dt_c hps
 obtain⟨ps1,rfl,hps1⟩:=dt_v hps0
 obtain⟨ps2,rfl,hps2⟩:=dt_v hps1
 obtain rfl:=dt_nil hps2
 have hpc:=hok (.cf x c) (by simp)
 refine (tenantMay_any x c t k w hpre hpc).mono ?_
 rintro e w' ⟨rfl,hb⟩
 exact⟨_,⟨c,t,k,rfl,rfl⟩,trivial,rfl,hb⟩)).mono (by
 rintro vs mem nx K ⟨N,x,c,t,k,rfl,hk,hpre,hK⟩
 exact⟨[.cf N x c,.vl _,.vl _],rfl,⟨hk,trivial,trivial,trivial⟩,⟨_,_,_,rfl,hpre⟩,by rintro z ⟨c',t',k',hl,hz⟩;cases hl;subst hz;exact hK⟩)
def ctPApart:CT:=fun vs mem nx K=>∃ N x c t k,vs=[cfgV N x c,.int .i64 t,.int .i64 k]∧(keeps mem (cfgM N c))∧(CfgV c)∧K (.bool (apartB c t k)) mem nx
theorem pApartOk:CSound Tryz.prog 125 ctPApart:=(ptsOk (R:=fun l z=>∃ c t k,l=[.cf c,.vl (.int .i64 t),.vl (.int .i64 k)]∧z=.bool (apartB c t k)) (pre:=fun l=>∃ c t k,l=[.cf c,.vl (.int .i64 t),.vl (.int .i64 k)]∧(CfgV c)) (by kernel_rfl) (by
 rintro ps w ⟨c,t,k,hps,hpre⟩ hok
 obtain⟨x,ps0,rfl,hps0⟩:=dt_c hps
 obtain⟨ps1,rfl,hps1⟩:=dt_v hps0
 obtain⟨ps2,rfl,hps2⟩:=dt_v hps1
 obtain rfl:=dt_nil hps2
 have hpc:=hok (.cf x c) (by simp)
 refine (tenantApart_any x c t k w hpre hpc).mono ?_
 rintro e w' ⟨rfl,hb⟩
 exact⟨_,⟨c,t,k,rfl,rfl⟩,trivial,rfl,hb⟩)).mono (by
 rintro vs mem nx K ⟨N,x,c,t,k,rfl,hk,hpre,hK⟩
 exact⟨[.cf N x c,.vl _,.vl _],rfl,⟨hk,trivial,trivial,trivial⟩,⟨_,_,_,rfl,hpre⟩,by rintro z ⟨c',t',k',hl,hz⟩;cases hl;subst hz;exact hK⟩)
def ctPNear:CT:=fun vs mem nx K=>∃ N x c t k,vs=[cfgV N x c,.int .i64 t,.int .i64 k]∧(keeps mem (cfgM N c))∧(CfgV c)∧K (.bool (nearB c t k)) mem nx
theorem pNearOk:CSound Tryz.prog 124 ctPNear:=(ptsOk (R:=fun l z=>∃ c t k,l=[.cf c,.vl (.int .i64 t),.vl (.int .i64 k)]∧z=.bool (nearB c t k)) (pre:=fun l=>∃ c t k,l=[.cf c,.vl (.int .i64 t),.vl (.int .i64 k)]∧(CfgV c)) (by kernel_rfl) (by
 rintro ps w ⟨c,t,k,hps,hpre⟩ hok
 obtain⟨x,ps0,rfl,hps0⟩:=dt_c hps
 obtain⟨ps1,rfl,hps1⟩:=dt_v hps0
 obtain⟨ps2,rfl,hps2⟩:=dt_v hps1
 obtain rfl:=dt_nil hps2
 have hpc:=hok (.cf x c) (by simp)
 refine (stNear_any x c t k w hpre hpc).mono ?_
 rintro e w' ⟨rfl,hb⟩
 exact⟨_,⟨c,t,k,rfl,rfl⟩,trivial,rfl,hb⟩)).mono (by
 rintro vs mem nx K ⟨N,x,c,t,k,rfl,hk,hpre,hK⟩
 exact⟨[.cf N x c,.vl _,.vl _],rfl,⟨hk,trivial,trivial,trivial⟩,⟨_,_,_,rfl,hpre⟩,by rintro z ⟨c',t',k',hl,hz⟩;cases hl;subst hz;exact hK⟩)
def rfF:FT:=[(121,ctPMode),(122,ctPFrozen),(123,ctPMay),(125,ctPApart),(124,ctPNear)]
theorem rfFok:FTok Tryz.prog rfF:=ft_cons pModeOk (ft_cons pFrozenOk (ft_cons pMayOk (ft_cons pApartOk (ft_cons pNearOk ft_nil))))
theorem tsMem {s:St} {k:Int} (h0:0≤k) (h1:k<s.tenants.length):tsAt s k ∈ s.tenants:=by
 unfold tsAt
 rw[List.getD_eq_getElem?_getD,List.getElem?_eq_getElem (show k.toNat<s.tenants.length by omega)]
 exact List.getElem_mem _
set_option maxRecDepth 100000 in
set_option maxHeartbeats 8000000 in
theorem stAbandon_sx (x:CfgK) (c:Cfg) (y:StK) (s:St) (e:Ent) (hV:CfgV c) (hI:StInv c s) (ht0:0≤e.tenant) (ht1:e.tenant<s.tenants.length) :
  sx tt rfF [] (bodyOf Tryz.f80) (argF 0 [stV SN1 y s,entV' e]) (rdM noC s noS) 10 (endx tt Tryz.f80.results.toList fun v _ _=>v=.int .i64 (abandonE s e)∧pureV v):=by
 have hnc:=hV.nc
 have hlc:=hI.lc
 have hP:=(show abandonE s e=if (tsAt s e.tenant).placed=false∨(tsAt s e.tenant).target=-1 then 4 else 0 from rfl)
 unfold tsAt at hP
 repeat' (first | refine⟨fun _=>?_,fun h=>Bool.noConfusion h⟩ | refine⟨fun h=>Bool.noConfusion h,fun _=>?_⟩ | refine⟨fun _=>?_,fun _=>?_⟩ | refine⟨⟨Nat.le_refl _,ht0,ht1⟩,?_⟩ | (refine⟨congrArg (Value.int .i64) ?_,trivial⟩;rw[hP];grind) | fail)
set_option maxRecDepth 100000 in
theorem stAbandon_any (c:Cfg) (y:StA) (s:St) (e:Ent) (w:World) (hV:CfgV c) (hI:StInv c s) (hs:StOk w (·<w.heap.size) y s) (ht0:0≤e.tenant) (ht1:e.tenant<s.tenants.length) :
  Calls Tryz.prog 80 #[.agg (stC y s),.agg (entC e).toArray] w fun r w'=>r=.returned (.int .i64 (abandonE s e))∧Below w.heap.size w w':=by
 have:=rd_calls rfFok Tryz.func80 rfl (D:=[]) (by kernel_rfl) (vs:=[stV SN1 (sk y) s,entV' e]) rfl noX noC y s noA noS w (noC_ok _ _) hs (noS_ok w _) (fun v hv=>by
  simp only[List.mem_cons,List.not_mem_nil,or_false] at hv
  rcases hv with rfl | rfl
  ·exact rpl_st_ok noX noC y s noA noS
  ·exact (pure_den (pure_ent e) _ 10).2) (R:=fun v=>v=.int .i64 (abandonE s e)) (stAbandon_sx (ck noX) c (sk y) s e hV hI ht0 ht1)
 have e0:[stV SN1 (sk y) s,entV' e].map (den (rpl noX noC y s noA noS))=[.agg (stC y s),.agg (entC e).toArray]:=by show [den _ _,den _ _]=_;exact congr (congrArg List.cons (rpl_st noX noC y s noA noS)) (congr (congrArg List.cons (pure_den (pure_ent e) _ 10).1) rfl)
 rw[e0] at this
 refine this.mono ?_
 rintro r w' ⟨v,rfl,-,rfl,hb⟩
 exact⟨rfl,hb⟩
set_option maxRecDepth 100000 in
set_option maxHeartbeats 8000000 in
theorem stCut_sx (x:CfgK) (c:Cfg) (y:StK) (s:St) (e:Ent) (hV:CfgV c) (hI:StInv c s) (ht0:0≤e.tenant) (ht1:e.tenant<s.tenants.length) :
  sx tt rfF [] (bodyOf Tryz.f83) (argF 0 [stV SN1 y s,entV' e]) (rdM noC s noS) 10 (endx tt Tryz.f83.results.toList fun v _ _=>v=.int .i64 (cutE s e)∧pureV v):=by
 have hnc:=hV.nc
 have hlc:=hI.lc
 have hP:=(show cutE s e=if (tsAt s e.tenant).placed=false then 4 else if e.epoch≠(tsAt s e.tenant).epoch then 7 else 0 from rfl)
 unfold tsAt at hP
 repeat' (first | refine⟨fun _=>?_,fun h=>Bool.noConfusion h⟩ | refine⟨fun h=>Bool.noConfusion h,fun _=>?_⟩ | refine⟨fun _=>?_,fun _=>?_⟩ | refine⟨⟨Nat.le_refl _,ht0,ht1⟩,?_⟩ | (refine⟨congrArg (Value.int .i64) ?_,trivial⟩;rw[hP];grind) | fail)
set_option maxRecDepth 100000 in
theorem stCut_any (c:Cfg) (y:StA) (s:St) (e:Ent) (w:World) (hV:CfgV c) (hI:StInv c s) (hs:StOk w (·<w.heap.size) y s) (ht0:0≤e.tenant) (ht1:e.tenant<s.tenants.length) :
  Calls Tryz.prog 83 #[.agg (stC y s),.agg (entC e).toArray] w fun r w'=>r=.returned (.int .i64 (cutE s e))∧Below w.heap.size w w':=by
 have:=rd_calls rfFok Tryz.func83 rfl (D:=[]) (by kernel_rfl) (vs:=[stV SN1 (sk y) s,entV' e]) rfl noX noC y s noA noS w (noC_ok _ _) hs (noS_ok w _) (fun v hv=>by
  simp only[List.mem_cons,List.not_mem_nil,or_false] at hv
  rcases hv with rfl | rfl
  ·exact rpl_st_ok noX noC y s noA noS
  ·exact (pure_den (pure_ent e) _ 10).2) (R:=fun v=>v=.int .i64 (cutE s e)) (stCut_sx (ck noX) c (sk y) s e hV hI ht0 ht1)
 have e0:[stV SN1 (sk y) s,entV' e].map (den (rpl noX noC y s noA noS))=[.agg (stC y s),.agg (entC e).toArray]:=by show [den _ _,den _ _]=_;exact congr (congrArg List.cons (rpl_st noX noC y s noA noS)) (congr (congrArg List.cons (pure_den (pure_ent e) _ 10).1) rfl)
 rw[e0] at this
 refine this.mono ?_
 rintro r w' ⟨v,rfl,-,rfl,hb⟩
 exact⟨rfl,hb⟩
set_option maxRecDepth 100000 in
set_option maxHeartbeats 8000000 in
theorem stReady_sx (x:CfgK) (c:Cfg) (y:StK) (s:St) (e:Ent) (hV:CfgV c) (hI:StInv c s) (ht0:0≤e.tenant) (ht1:e.tenant<s.tenants.length) (hcl:0≤e.cell∧e.cell<s.cells.length) :
  sx tt rfF [] (bodyOf Tryz.f78) (argF 0 [stV SN1 y s,entV' e]) (rdM noC s noS) 10 (endx tt Tryz.f78.results.toList fun v _ _=>v=.int .i64 (readyE s e)∧pureV v):=by
 have hnc:=hV.nc
 have hlc:=hI.lc
 have hP:=(show readyE s e=if (tsAt s e.tenant).placed=false then 4 else if e.cell≠(tsAt s e.tenant).next then 5 else if modeAt s e.cell=3 then 6 else 0 by unfold readyE;rw[modeAt_eq hcl])
 unfold tsAt at hP
 repeat' (first | refine⟨fun _=>?_,fun h=>Bool.noConfusion h⟩ | refine⟨fun h=>Bool.noConfusion h,fun _=>?_⟩ | refine⟨fun _=>?_,fun _=>?_⟩ | refine⟨⟨Nat.le_refl _,ht0,ht1⟩,?_⟩ | refine⟨SN1,y,s,_,rfl,kp_,(by omega:s.cells.length≤100),?_⟩ | (refine⟨congrArg (Value.int .i64) ?_,trivial⟩;rw[hP];grind) | fail)
set_option maxRecDepth 100000 in
theorem stReady_any (c:Cfg) (y:StA) (s:St) (e:Ent) (w:World) (hV:CfgV c) (hI:StInv c s) (hs:StOk w (·<w.heap.size) y s) (ht0:0≤e.tenant) (ht1:e.tenant<s.tenants.length) (hcl:0≤e.cell∧e.cell<s.cells.length) :
  Calls Tryz.prog 78 #[.agg (stC y s),.agg (entC e).toArray] w fun r w'=>r=.returned (.int .i64 (readyE s e))∧Below w.heap.size w w':=by
 have:=rd_calls rfFok Tryz.func78 rfl (D:=[]) (by kernel_rfl) (vs:=[stV SN1 (sk y) s,entV' e]) rfl noX noC y s noA noS w (noC_ok _ _) hs (noS_ok w _) (fun v hv=>by
  simp only[List.mem_cons,List.not_mem_nil,or_false] at hv
  rcases hv with rfl | rfl
  ·exact rpl_st_ok noX noC y s noA noS
  ·exact (pure_den (pure_ent e) _ 10).2) (R:=fun v=>v=.int .i64 (readyE s e)) (stReady_sx (ck noX) c (sk y) s e hV hI ht0 ht1 hcl)
 have e0:[stV SN1 (sk y) s,entV' e].map (den (rpl noX noC y s noA noS))=[.agg (stC y s),.agg (entC e).toArray]:=by show [den _ _,den _ _]=_;exact congr (congrArg List.cons (rpl_st noX noC y s noA noS)) (congr (congrArg List.cons (pure_den (pure_ent e) _ 10).1) rfl)
 rw[e0] at this
 refine this.mono ?_
 rintro r w' ⟨v,rfl,-,rfl,hb⟩
 exact⟨rfl,hb⟩
set_option maxRecDepth 100000 in
set_option maxHeartbeats 8000000 in
theorem stShed_sx (x:CfgK) (c:Cfg) (y:StK) (s:St) (e:Ent) (hV:CfgV c) (hI:StInv c s) (ht0:0≤e.tenant) (ht1:e.tenant<s.tenants.length) :
  sx tt rfF [] (bodyOf Tryz.f81) (argF 0 [stV SN1 y s,entV' e]) (rdM noC s noS) 10 (endx tt Tryz.f81.results.toList fun v _ _=>v=.int .i64 (shedE s e)∧pureV v):=by
 have hnc:=hV.nc
 have hlc:=hI.lc
 have hP:=(shedE_m (e:=e) hI rfl (hI.ten _ (tsMem ht0 ht1)))
 unfold tsAt at hP
 repeat' (first | refine⟨fun _=>?_,fun h=>Bool.noConfusion h⟩ | refine⟨fun h=>Bool.noConfusion h,fun _=>?_⟩ | refine⟨fun _=>?_,fun _=>?_⟩ | refine⟨⟨Nat.le_refl _,ht0,ht1⟩,?_⟩ | refine⟨SN1,y,s,_,rfl,kp_,(by omega:s.cells.length≤100),?_⟩ | (refine⟨congrArg (Value.int .i64) ?_,trivial⟩;rw[hP];grind) | fail)
set_option maxRecDepth 100000 in
theorem stShed_any (c:Cfg) (y:StA) (s:St) (e:Ent) (w:World) (hV:CfgV c) (hI:StInv c s) (hs:StOk w (·<w.heap.size) y s) (ht0:0≤e.tenant) (ht1:e.tenant<s.tenants.length) :
  Calls Tryz.prog 81 #[.agg (stC y s),.agg (entC e).toArray] w fun r w'=>r=.returned (.int .i64 (shedE s e))∧Below w.heap.size w w':=by
 have:=rd_calls rfFok Tryz.func81 rfl (D:=[]) (by kernel_rfl) (vs:=[stV SN1 (sk y) s,entV' e]) rfl noX noC y s noA noS w (noC_ok _ _) hs (noS_ok w _) (fun v hv=>by
  simp only[List.mem_cons,List.not_mem_nil,or_false] at hv
  rcases hv with rfl | rfl
  ·exact rpl_st_ok noX noC y s noA noS
  ·exact (pure_den (pure_ent e) _ 10).2) (R:=fun v=>v=.int .i64 (shedE s e)) (stShed_sx (ck noX) c (sk y) s e hV hI ht0 ht1)
 have e0:[stV SN1 (sk y) s,entV' e].map (den (rpl noX noC y s noA noS))=[.agg (stC y s),.agg (entC e).toArray]:=by show [den _ _,den _ _]=_;exact congr (congrArg List.cons (rpl_st noX noC y s noA noS)) (congr (congrArg List.cons (pure_den (pure_ent e) _ 10).1) rfl)
 rw[e0] at this
 refine this.mono ?_
 rintro r w' ⟨v,rfl,-,rfl,hb⟩
 exact⟨rfl,hb⟩
set_option maxRecDepth 100000 in
set_option maxHeartbeats 8000000 in
theorem stPlace_sx (x:CfgK) (c:Cfg) (y:StK) (s:St) (e:Ent) (hV:CfgV c) (hI:StInv c s) (ht0:0≤e.tenant) (ht1:e.tenant<s.tenants.length) (hcl:0≤e.cell∧e.cell<s.cells.length) (hot:e.other=-1∨(0≤e.other∧e.other<s.cells.length)) :
  sx tt rfF [] (bodyOf Tryz.f76) (argF 0 [cfgV CN1 x c,stV SN1 y s,entV' e]) (rdM c s noS) 10 (endx tt Tryz.f76.results.toList fun v _ _=>v=.int .i64 (placeE c s e)∧pureV v):=by
 have hnc:=hV.nc
 have hlc:=hI.lc
 have hP:=(placeE_m (c:=c) (e:=e) rfl hcl hot)
 unfold tsAt at hP
 repeat' (first | refine⟨fun _=>?_,fun h=>Bool.noConfusion h⟩ | refine⟨fun h=>Bool.noConfusion h,fun _=>?_⟩ | refine⟨fun _=>?_,fun _=>?_⟩ | refine⟨⟨Nat.le_refl _,ht0,ht1⟩,?_⟩ | refine⟨SN1,y,s,_,rfl,kp_,(by omega:s.cells.length≤100),?_⟩ | refine⟨CN1,x,c,SN1,y,s,_,rfl,⟨kp_,kp_⟩,⟨hV,hI⟩,?_⟩ | refine⟨CN1,x,c,_,_,rfl,kp_,hV,?_⟩ | (refine⟨congrArg (Value.int .i64) ?_,trivial⟩;rw[hP];grind) | fail)
set_option maxRecDepth 100000 in
theorem stPlace_any (x:CfgA) (c:Cfg) (y:StA) (s:St) (e:Ent) (w:World) (hV:CfgV c) (hc:CfgOk w (·<w.heap.size) x c) (hI:StInv c s) (hs:StOk w (·<w.heap.size) y s) (ht0:0≤e.tenant) (ht1:e.tenant<s.tenants.length) (hcl:0≤e.cell∧e.cell<s.cells.length) (hot:e.other=-1∨(0≤e.other∧e.other<s.cells.length)) :
  Calls Tryz.prog 76 #[.agg (cfgC x c),.agg (stC y s),.agg (entC e).toArray] w fun r w'=>r=.returned (.int .i64 (placeE c s e))∧Below w.heap.size w w':=by
 have:=rd_calls rfFok Tryz.func76 rfl (D:=[]) (by kernel_rfl) (vs:=[cfgV CN1 (ck x) c,stV SN1 (sk y) s,entV' e]) rfl x c y s noA noS w hc hs (noS_ok w _) (fun v hv=>by
  simp only[List.mem_cons,List.not_mem_nil,or_false] at hv
  rcases hv with rfl | rfl | rfl
  ·exact rpl_cfg_ok x c y s noA noS
  ·exact rpl_st_ok x c y s noA noS
  ·exact (pure_den (pure_ent e) _ 10).2) (R:=fun v=>v=.int .i64 (placeE c s e)) (stPlace_sx (ck x) c (sk y) s e hV hI ht0 ht1 hcl hot)
 have e0:[cfgV CN1 (ck x) c,stV SN1 (sk y) s,entV' e].map (den (rpl x c y s noA noS))=[.agg (cfgC x c),.agg (stC y s),.agg (entC e).toArray]:=by show [den _ _,den _ _,den _ _]=_;exact congr (congrArg List.cons (rpl_cfg x c y s noA noS)) (congr (congrArg List.cons (rpl_st x c y s noA noS)) (congr (congrArg List.cons (pure_den (pure_ent e) _ 10).1) rfl))
 rw[e0] at this
 refine this.mono ?_
 rintro r w' ⟨v,rfl,-,rfl,hb⟩
 exact⟨rfl,hb⟩
set_option maxRecDepth 100000 in
set_option maxHeartbeats 8000000 in
theorem stMigrate_sx (x:CfgK) (c:Cfg) (y:StK) (s:St) (e:Ent) (hV:CfgV c) (hI:StInv c s) (ht0:0≤e.tenant) (ht1:e.tenant<s.tenants.length) (hcl:0≤e.cell∧e.cell<s.cells.length) :
  sx tt rfF [] (bodyOf Tryz.f79) (argF 0 [cfgV CN1 x c,stV SN1 y s,entV' e]) (rdM c s noS) 10 (endx tt Tryz.f79.results.toList fun v _ _=>v=.int .i64 (migrateE c s e)∧pureV v):=by
 have hnc:=hV.nc
 have hlc:=hI.lc
 have hP:=(show migrateE c s e=if (tsAt s e.tenant).placed=false∨(tsAt s e.tenant).shed=true∨(tsAt s e.tenant).target≠-1 then 4 else if e.cell=(tsAt s e.tenant).home∨e.cell=(tsAt s e.tenant).standby∨e.cell=(tsAt s e.tenant).next then 5 else if modeAt s e.cell≠1 then 6 else if frozenB c s e.cell=true then 12 else if mayB c e.tenant e.cell=false∨nearB c e.cell (tsAt s e.tenant).standby=true∨nearB c e.cell (tsAt s e.tenant).next=true then 11 else 0 by unfold migrateE;rw[modeAt_eq hcl])
 unfold tsAt at hP
 repeat' (first | refine⟨fun _=>?_,fun h=>Bool.noConfusion h⟩ | refine⟨fun h=>Bool.noConfusion h,fun _=>?_⟩ | refine⟨fun _=>?_,fun _=>?_⟩ | refine⟨⟨Nat.le_refl _,ht0,ht1⟩,?_⟩ | refine⟨SN1,y,s,_,rfl,kp_,(by omega:s.cells.length≤100),?_⟩ | refine⟨CN1,x,c,SN1,y,s,_,rfl,⟨kp_,kp_⟩,⟨hV,hI⟩,?_⟩ | refine⟨CN1,x,c,_,_,rfl,kp_,hV,?_⟩ | (refine⟨congrArg (Value.int .i64) ?_,trivial⟩;rw[hP];grind) | fail)
set_option maxRecDepth 100000 in
theorem stMigrate_any (x:CfgA) (c:Cfg) (y:StA) (s:St) (e:Ent) (w:World) (hV:CfgV c) (hc:CfgOk w (·<w.heap.size) x c) (hI:StInv c s) (hs:StOk w (·<w.heap.size) y s) (ht0:0≤e.tenant) (ht1:e.tenant<s.tenants.length) (hcl:0≤e.cell∧e.cell<s.cells.length) :
  Calls Tryz.prog 79 #[.agg (cfgC x c),.agg (stC y s),.agg (entC e).toArray] w fun r w'=>r=.returned (.int .i64 (migrateE c s e))∧Below w.heap.size w w':=by
 have:=rd_calls rfFok Tryz.func79 rfl (D:=[]) (by kernel_rfl) (vs:=[cfgV CN1 (ck x) c,stV SN1 (sk y) s,entV' e]) rfl x c y s noA noS w hc hs (noS_ok w _) (fun v hv=>by
  simp only[List.mem_cons,List.not_mem_nil,or_false] at hv
  rcases hv with rfl | rfl | rfl
  ·exact rpl_cfg_ok x c y s noA noS
  ·exact rpl_st_ok x c y s noA noS
  ·exact (pure_den (pure_ent e) _ 10).2) (R:=fun v=>v=.int .i64 (migrateE c s e)) (stMigrate_sx (ck x) c (sk y) s e hV hI ht0 ht1 hcl)
 have e0:[cfgV CN1 (ck x) c,stV SN1 (sk y) s,entV' e].map (den (rpl x c y s noA noS))=[.agg (cfgC x c),.agg (stC y s),.agg (entC e).toArray]:=by show [den _ _,den _ _,den _ _]=_;exact congr (congrArg List.cons (rpl_cfg x c y s noA noS)) (congr (congrArg List.cons (rpl_st x c y s noA noS)) (congr (congrArg List.cons (pure_den (pure_ent e) _ 10).1) rfl))
 rw[e0] at this
 refine this.mono ?_
 rintro r w' ⟨v,rfl,-,rfl,hb⟩
 exact⟨rfl,hb⟩
set_option maxRecDepth 100000 in
set_option maxHeartbeats 8000000 in
theorem stStandby_sx (x:CfgK) (c:Cfg) (y:StK) (s:St) (e:Ent) (hV:CfgV c) (hI:StInv c s) (ht0:0≤e.tenant) (ht1:e.tenant<s.tenants.length) (hcl:e.cell=-1∨(0≤e.cell∧e.cell<s.cells.length)) :
  sx tt rfF [] (bodyOf Tryz.f77) (argF 0 [cfgV CN1 x c,stV SN1 y s,entV' e]) (rdM c s noS) 10 (endx tt Tryz.f77.results.toList fun v _ _=>v=.int .i64 (standbyE c s e)∧pureV v):=by
 have hnc:=hV.nc
 have hlc:=hI.lc
 have hP:=(standbyE_m (c:=c) (e:=e) rfl (hI.ten _ (tsMem ht0 ht1)) hcl)
 unfold tsAt at hP
 repeat' (first | refine⟨fun _=>?_,fun h=>Bool.noConfusion h⟩ | refine⟨fun h=>Bool.noConfusion h,fun _=>?_⟩ | refine⟨fun _=>?_,fun _=>?_⟩ | refine⟨⟨Nat.le_refl _,ht0,ht1⟩,?_⟩ | refine⟨SN1,y,s,_,rfl,kp_,(by omega:s.cells.length≤100),?_⟩ | refine⟨CN1,x,c,SN1,y,s,_,rfl,⟨kp_,kp_⟩,⟨hV,hI⟩,?_⟩ | refine⟨CN1,x,c,_,_,rfl,kp_,hV,?_⟩ | (refine⟨congrArg (Value.int .i64) ?_,trivial⟩;rw[hP];grind) | fail)
set_option maxRecDepth 100000 in
theorem stStandby_any (x:CfgA) (c:Cfg) (y:StA) (s:St) (e:Ent) (w:World) (hV:CfgV c) (hc:CfgOk w (·<w.heap.size) x c) (hI:StInv c s) (hs:StOk w (·<w.heap.size) y s) (ht0:0≤e.tenant) (ht1:e.tenant<s.tenants.length) (hcl:e.cell=-1∨(0≤e.cell∧e.cell<s.cells.length)) :
  Calls Tryz.prog 77 #[.agg (cfgC x c),.agg (stC y s),.agg (entC e).toArray] w fun r w'=>r=.returned (.int .i64 (standbyE c s e))∧Below w.heap.size w w':=by
 have:=rd_calls rfFok Tryz.func77 rfl (D:=[]) (by kernel_rfl) (vs:=[cfgV CN1 (ck x) c,stV SN1 (sk y) s,entV' e]) rfl x c y s noA noS w hc hs (noS_ok w _) (fun v hv=>by
  simp only[List.mem_cons,List.not_mem_nil,or_false] at hv
  rcases hv with rfl | rfl | rfl
  ·exact rpl_cfg_ok x c y s noA noS
  ·exact rpl_st_ok x c y s noA noS
  ·exact (pure_den (pure_ent e) _ 10).2) (R:=fun v=>v=.int .i64 (standbyE c s e)) (stStandby_sx (ck x) c (sk y) s e hV hI ht0 ht1 hcl)
 have e0:[cfgV CN1 (ck x) c,stV SN1 (sk y) s,entV' e].map (den (rpl x c y s noA noS))=[.agg (cfgC x c),.agg (stC y s),.agg (entC e).toArray]:=by show [den _ _,den _ _,den _ _]=_;exact congr (congrArg List.cons (rpl_cfg x c y s noA noS)) (congr (congrArg List.cons (rpl_st x c y s noA noS)) (congr (congrArg List.cons (pure_den (pure_ent e) _ 10).1) rfl))
 rw[e0] at this
 refine this.mono ?_
 rintro r w' ⟨v,rfl,-,rfl,hb⟩
 exact⟨rfl,hb⟩
set_option maxHeartbeats 2000000 in
set_option maxRecDepth 100000 in
theorem stMode_any (c:Cfg) (y:StA) (s:St) (e:Ent) (w:World) (hV:CfgV c) (hI:StInv c s) (hs:StOk w (·<w.heap.size) y s) (hx0:0≤e.cell) (hx1:e.cell<s.cells.length) :
  Calls Tryz.prog 84 #[.agg (stC y s),.agg (entC e).toArray] w fun r w'=>r=.returned (.int .i64 (modeE s e))∧Below w.heap.size w w':=by
 have hnc:=hV.nc
 have hntt:=hV.nt
 have HV:=Lib.hid hV
 clear hV
 obtain⟨sat,sct,sac,scc⟩:=y
 have HKs:=Lib.hid hs
 have hsl:1≤s.cells.length∧s.cells.length≤16:=by have:=hI.lc;omega
 have hst:s.tenants.length≤32:=by have:=hI.lt;omega
 have HI:=Lib.hid hI
 clear hs hI
 obtain⟨kind,tick,tenant,cell,other,epoch,since,till,n⟩:=e
 try simp only at *
 obtain⟨xn,rfl⟩:=Int.eq_ofNat_of_zero_le hx0
 have hxn:xn<s.cells.length:=by omega
 obtain⟨bx,ofx,x,rfl,hbx,hzx,hcx⟩:=HKs.out.cells.row (enc:=csC) (sz:=4) (fun _=>rfl) (by omega) hxn
 have HX:Hid (csAt s xn=x):=Lib.hid (by unfold csAt;rw[Int.toNat_natCast,getD_some hzx])
 have HXI:=Lib.hid (HI.out.cel _ (List.mem_of_getElem? hzx))
 have hbx1:bx<w.heap.size:=hbx
 have HR:Hid (modeE s ⟨kind,tick,tenant,xn,other,epoch,since,till,n⟩=if x.mode=n then 4 else 0):=Lib.hid (by unfold modeE;rw[HX.out])
 have hL:Below w.heap.size w ((w.alloc (.cells #[.int .i64 s.tick,.int .i64 s.count,.slice sat s.tenants.length sct,.slice (some ⟨bx,ofx,none⟩) s.cells.length scc,.int .i64 s.proven,.int .i64 s.evac,.int .i64 s.low,.int .i64 s.high] 34)).alloc (.cells #[.int .i64 kind,.int .i64 tick,.int .i64 tenant,.int .i64 xn,.int .i64 other,.int .i64 epoch,.int .i64 since,.int .i64 till,.int .i64 n] 39)):=(((Below.refl w.heap.size w).alloc (by simp<;>omega) (.cells #[.int .i64 s.tick,.int .i64 s.count,.slice sat s.tenants.length sct,.slice (some ⟨bx,ofx,none⟩) s.cells.length scc,.int .i64 s.proven,.int .i64 s.evac,.int .i64 s.low,.int .i64 s.high] 34)).alloc (by simp<;>omega) (.cells #[.int .i64 kind,.int .i64 tick,.int .i64 tenant,.int .i64 xn,.int .i64 other,.int .i64 epoch,.int .i64 since,.int .i64 till,.int .i64 n] 39))
 have hBs:Blk ((w.alloc (.cells #[.int .i64 s.tick,.int .i64 s.count,.slice sat s.tenants.length sct,.slice (some ⟨bx,ofx,none⟩) s.cells.length scc,.int .i64 s.proven,.int .i64 s.evac,.int .i64 s.low,.int .i64 s.high] 34)).alloc (.cells #[.int .i64 kind,.int .i64 tick,.int .i64 tenant,.int .i64 xn,.int .i64 other,.int .i64 epoch,.int .i64 since,.int .i64 till,.int .i64 n] 39)) (w.heap.size) 34 #[.int .i64 s.tick,.int .i64 s.count,.slice sat s.tenants.length sct,.slice (some ⟨bx,ofx,none⟩) s.cells.length scc,.int .i64 s.proven,.int .i64 s.evac,.int .i64 s.low,.int .i64 s.high]:=by
  have:=((Blk.new w 34 #[.int .i64 s.tick,.int .i64 s.count,.slice sat s.tenants.length sct,.slice (some ⟨bx,ofx,none⟩) s.cells.length scc,.int .i64 s.proven,.int .i64 s.evac,.int .i64 s.low,.int .i64 s.high]).alloc (.cells #[.int .i64 kind,.int .i64 tick,.int .i64 tenant,.int .i64 xn,.int .i64 other,.int .i64 epoch,.int .i64 since,.int .i64 till,.int .i64 n] 39))
  simpa using this
 have hBe:Blk ((w.alloc (.cells #[.int .i64 s.tick,.int .i64 s.count,.slice sat s.tenants.length sct,.slice (some ⟨bx,ofx,none⟩) s.cells.length scc,.int .i64 s.proven,.int .i64 s.evac,.int .i64 s.low,.int .i64 s.high] 34)).alloc (.cells #[.int .i64 kind,.int .i64 tick,.int .i64 tenant,.int .i64 xn,.int .i64 other,.int .i64 epoch,.int .i64 since,.int .i64 till,.int .i64 n] 39)) (w.heap.size+1) 39 #[.int .i64 kind,.int .i64 tick,.int .i64 tenant,.int .i64 xn,.int .i64 other,.int .i64 epoch,.int .i64 since,.int .i64 till,.int .i64 n]:=by
  have:=(Blk.new (w.alloc (.cells #[.int .i64 s.tick,.int .i64 s.count,.slice sat s.tenants.length sct,.slice (some ⟨bx,ofx,none⟩) s.cells.length scc,.int .i64 s.proven,.int .i64 s.evac,.int .i64 s.low,.int .i64 s.high] 34)) 39 #[.int .i64 kind,.int .i64 tick,.int .i64 tenant,.int .i64 xn,.int .i64 other,.int .i64 epoch,.int .i64 since,.int .i64 till,.int .i64 n])
  simpa using this
 unfold stC entC
 simp only
 go_enter Tryz.func84,Tryz.ntmps84
 go_upto_region 1 with fail
 generalize (w.alloc _).alloc _=W at *
 have hgs:=hBs.lt
 have su0:=hBs.cell' (i:=0) (v:=.int .i64 s.tick) rfl
 have su1:=hBs.cell' (i:=1) (v:=.int .i64 s.count) rfl
 have su2:=hBs.cell' (i:=2) (v:=.slice sat s.tenants.length sct) rfl
 have su3:=hBs.cell' (i:=3) (v:=.slice (some ⟨bx,ofx,none⟩) s.cells.length scc) rfl
 have su4:=hBs.cell' (i:=4) (v:=.int .i64 s.proven) rfl
 have su5:=hBs.cell' (i:=5) (v:=.int .i64 s.evac) rfl
 have su6:=hBs.cell' (i:=6) (v:=.int .i64 s.low) rfl
 have su7:=hBs.cell' (i:=7) (v:=.int .i64 s.high) rfl
 clear hBs
 have hge:=hBe.lt
 have v0:=hBe.cell' (i:=0) (v:=.int .i64 kind) rfl
 have v1:=hBe.cell' (i:=1) (v:=.int .i64 tick) rfl
 have v2:=hBe.cell' (i:=2) (v:=.int .i64 tenant) rfl
 have v3:=hBe.cell' (i:=3) (v:=.int .i64 xn) rfl
 have v4:=hBe.cell' (i:=4) (v:=.int .i64 other) rfl
 have v5:=hBe.cell' (i:=5) (v:=.int .i64 epoch) rfl
 have v6:=hBe.cell' (i:=6) (v:=.int .i64 since) rfl
 have v7:=hBe.cell' (i:=7) (v:=.int .i64 till) rfl
 have v8:=hBe.cell' (i:=8) (v:=.int .i64 n) rfl
 clear hBe
 have HL:=Lib.hid hL
 have HWs:=Lib.hid (HKs.out.belowW hL)
 clear hL
 have x0:W.cell? ⟨bx,ofx+xn * 4,none⟩=some (.int .i64 x.mode):=(HL.out.cell (p:=⟨bx,ofx+xn * 4,none⟩) hbx1).trans (hcx 0 _ rfl)
 have x1:W.cell? ⟨bx,ofx+xn * 4+1,none⟩=some (.int .i64 x.running):=(HL.out.cell (p:=⟨bx,ofx+xn * 4+1,none⟩) hbx1).trans (hcx 1 _ rfl)
 have x2:W.cell? ⟨bx,ofx+xn * 4+2,none⟩=some (.int .i64 x.wanted):=(HL.out.cell (p:=⟨bx,ofx+xn * 4+2,none⟩) hbx1).trans (hcx 2 _ rfl)
 have x3:W.cell? ⟨bx,ofx+xn * 4+3,none⟩=some (.int .i64 x.since):=(HL.out.cell (p:=⟨bx,ofx+xn * 4+3,none⟩) hbx1).trans (hcx 3 _ rfl)
 have hbxW:bx<W.heap.size:=Nat.lt_of_lt_of_le hbx1 HL.out.size
 clear hcx hzx hbx hbx1
 have hx:∀ (y:Later W.heap.size W) b o,b<W.heap.size→y.world.cell? ⟨b,o,none⟩=W.cell? ⟨b,o,none⟩:=fun y b o h=>y.cell h
 refine wp_region_below W.heap.size (by kernel_rfl) (by kernel_rfl) ?_
 repeat (first | go_big_quiet_step ((first | fail)) | quiet_step ((first | fail)))
 refine wpQuiet_nil ?_
 rintro w' ⟨y0,rfl⟩
 clear hx
 go_wp2
 all_goals
  go_ret
  refine⟨ret_i64 ?_,(by first | exact HL.out | exact HL.out.trans ((Later.below _).mono HL.out.size))⟩
  rw[HR.out]
  go_light
  clear HR HL
  simp_all
  try omega
set_option maxHeartbeats 2000000 in
set_option maxRecDepth 100000 in
theorem stEvac_any (c:Cfg) (y:StA) (s:St) (e:Ent) (w:World) (hV:CfgV c) (hI:StInv c s) (hs:StOk w (·<w.heap.size) y s)  :
  Calls Tryz.prog 88 #[.agg (stC y s),.agg (entC e).toArray] w fun r w'=>r=.returned (.int .i64 (evacE s e))∧Below w.heap.size w w':=by
 have hnc:=hV.nc
 have hntt:=hV.nt
 have HV:=Lib.hid hV
 clear hV
 obtain⟨sat,sct,sac,scc⟩:=y
 have HKs:=Lib.hid hs
 have hsl:1≤s.cells.length∧s.cells.length≤16:=by have:=hI.lc;omega
 have hst:s.tenants.length≤32:=by have:=hI.lt;omega
 have HI:=Lib.hid hI
 clear hs hI
 obtain⟨kind,tick,tenant,cell,other,epoch,since,till,n⟩:=e
 try simp only at *
 have hev:=HI.out.evac
 have HR:Hid (evacE s ⟨kind,tick,tenant,cell,other,epoch,since,till,n⟩=if hasB s.evac other=decide (n=1) then 4 else 0):=Lib.hid rfl
 have hL:Below w.heap.size w ((w.alloc (.cells #[.int .i64 s.tick,.int .i64 s.count,.slice sat s.tenants.length sct,.slice sac s.cells.length scc,.int .i64 s.proven,.int .i64 s.evac,.int .i64 s.low,.int .i64 s.high] 34)).alloc (.cells #[.int .i64 kind,.int .i64 tick,.int .i64 tenant,.int .i64 cell,.int .i64 other,.int .i64 epoch,.int .i64 since,.int .i64 till,.int .i64 n] 39)):=(((Below.refl w.heap.size w).alloc (by simp<;>omega) (.cells #[.int .i64 s.tick,.int .i64 s.count,.slice sat s.tenants.length sct,.slice sac s.cells.length scc,.int .i64 s.proven,.int .i64 s.evac,.int .i64 s.low,.int .i64 s.high] 34)).alloc (by simp<;>omega) (.cells #[.int .i64 kind,.int .i64 tick,.int .i64 tenant,.int .i64 cell,.int .i64 other,.int .i64 epoch,.int .i64 since,.int .i64 till,.int .i64 n] 39))
 have hBs:Blk ((w.alloc (.cells #[.int .i64 s.tick,.int .i64 s.count,.slice sat s.tenants.length sct,.slice sac s.cells.length scc,.int .i64 s.proven,.int .i64 s.evac,.int .i64 s.low,.int .i64 s.high] 34)).alloc (.cells #[.int .i64 kind,.int .i64 tick,.int .i64 tenant,.int .i64 cell,.int .i64 other,.int .i64 epoch,.int .i64 since,.int .i64 till,.int .i64 n] 39)) (w.heap.size) 34 #[.int .i64 s.tick,.int .i64 s.count,.slice sat s.tenants.length sct,.slice sac s.cells.length scc,.int .i64 s.proven,.int .i64 s.evac,.int .i64 s.low,.int .i64 s.high]:=by
  have:=((Blk.new w 34 #[.int .i64 s.tick,.int .i64 s.count,.slice sat s.tenants.length sct,.slice sac s.cells.length scc,.int .i64 s.proven,.int .i64 s.evac,.int .i64 s.low,.int .i64 s.high]).alloc (.cells #[.int .i64 kind,.int .i64 tick,.int .i64 tenant,.int .i64 cell,.int .i64 other,.int .i64 epoch,.int .i64 since,.int .i64 till,.int .i64 n] 39))
  simpa using this
 have hBe:Blk ((w.alloc (.cells #[.int .i64 s.tick,.int .i64 s.count,.slice sat s.tenants.length sct,.slice sac s.cells.length scc,.int .i64 s.proven,.int .i64 s.evac,.int .i64 s.low,.int .i64 s.high] 34)).alloc (.cells #[.int .i64 kind,.int .i64 tick,.int .i64 tenant,.int .i64 cell,.int .i64 other,.int .i64 epoch,.int .i64 since,.int .i64 till,.int .i64 n] 39)) (w.heap.size+1) 39 #[.int .i64 kind,.int .i64 tick,.int .i64 tenant,.int .i64 cell,.int .i64 other,.int .i64 epoch,.int .i64 since,.int .i64 till,.int .i64 n]:=by
  have:=(Blk.new (w.alloc (.cells #[.int .i64 s.tick,.int .i64 s.count,.slice sat s.tenants.length sct,.slice sac s.cells.length scc,.int .i64 s.proven,.int .i64 s.evac,.int .i64 s.low,.int .i64 s.high] 34)) 39 #[.int .i64 kind,.int .i64 tick,.int .i64 tenant,.int .i64 cell,.int .i64 other,.int .i64 epoch,.int .i64 since,.int .i64 till,.int .i64 n])
  simpa using this
 unfold stC entC
 simp only
 go_enter Tryz.func88,Tryz.ntmps88
 go_upto_region 1 with fail
 generalize (w.alloc _).alloc _=W at *
 have hgs:=hBs.lt
 have su0:=hBs.cell' (i:=0) (v:=.int .i64 s.tick) rfl
 have su1:=hBs.cell' (i:=1) (v:=.int .i64 s.count) rfl
 have su2:=hBs.cell' (i:=2) (v:=.slice sat s.tenants.length sct) rfl
 have su3:=hBs.cell' (i:=3) (v:=.slice sac s.cells.length scc) rfl
 have su4:=hBs.cell' (i:=4) (v:=.int .i64 s.proven) rfl
 have su5:=hBs.cell' (i:=5) (v:=.int .i64 s.evac) rfl
 have su6:=hBs.cell' (i:=6) (v:=.int .i64 s.low) rfl
 have su7:=hBs.cell' (i:=7) (v:=.int .i64 s.high) rfl
 clear hBs
 have hge:=hBe.lt
 have v0:=hBe.cell' (i:=0) (v:=.int .i64 kind) rfl
 have v1:=hBe.cell' (i:=1) (v:=.int .i64 tick) rfl
 have v2:=hBe.cell' (i:=2) (v:=.int .i64 tenant) rfl
 have v3:=hBe.cell' (i:=3) (v:=.int .i64 cell) rfl
 have v4:=hBe.cell' (i:=4) (v:=.int .i64 other) rfl
 have v5:=hBe.cell' (i:=5) (v:=.int .i64 epoch) rfl
 have v6:=hBe.cell' (i:=6) (v:=.int .i64 since) rfl
 have v7:=hBe.cell' (i:=7) (v:=.int .i64 till) rfl
 have v8:=hBe.cell' (i:=8) (v:=.int .i64 n) rfl
 clear hBe
 have HL:=Lib.hid hL
 have HWs:=Lib.hid (HKs.out.belowW hL)
 clear hL
 have hx:∀ (y:Later W.heap.size W) b o,b<W.heap.size→y.world.cell? ⟨b,o,none⟩=W.cell? ⟨b,o,none⟩:=fun y b o h=>y.cell h
 refine wp_region_below W.heap.size (by kernel_rfl) (by kernel_rfl) ?_
 repeat (first | go_big_quiet_step ((first | (go_at_call 127;exact quiet_sameW _ (stHas_any _ _ _ (by omega) (by omega))))) | quiet_step ((first | (go_at_call 127;exact quiet_sameW _ (stHas_any _ _ _ (by omega) (by omega))))))
 refine wpQuiet_nil ?_
 rintro w' ⟨y0,rfl⟩
 clear hx
 go_wp2
 all_goals
  go_ret
  refine⟨ret_i64 ?_,(by first | exact HL.out | exact HL.out.trans ((Later.below _).mono HL.out.size))⟩
  rw[HR.out]
  go_light
  clear HR HL
  have e1:(n==1)=decide (n=1):=(by rw[Bool.eq_iff_iff];simp);rw[e1] at *;generalize hasB s.evac other=hb at *;cases hb<;>by_cases hn:n=1<;>simp_all
  try omega
set_option maxHeartbeats 2000000 in
set_option maxRecDepth 100000 in
theorem stContract_any (c:Cfg) (y:StA) (s:St) (w:World) (hV:CfgV c) (hI:StInv c s) (hs:StOk w (·<w.heap.size) y s)  :
  Calls Tryz.prog 90 #[.agg (stC y s)] w fun r w'=>r=.returned (.int .i64 (contractE s))∧Below w.heap.size w w':=by
 have hnc:=hV.nc
 have hntt:=hV.nt
 have HV:=Lib.hid hV
 clear hV
 obtain⟨sat,sct,sac,scc⟩:=y
 have HKs:=Lib.hid hs
 have hsl:1≤s.cells.length∧s.cells.length≤16:=by have:=hI.lc;omega
 have hst:s.tenants.length≤32:=by have:=hI.lt;omega
 have HI:=Lib.hid hI
 clear hs hI
 have HR:Hid (contractE s=if s.high=s.low then 4 else 0):=Lib.hid rfl
 have hL:Below w.heap.size w (w.alloc (.cells #[.int .i64 s.tick,.int .i64 s.count,.slice sat s.tenants.length sct,.slice sac s.cells.length scc,.int .i64 s.proven,.int .i64 s.evac,.int .i64 s.low,.int .i64 s.high] 34)):=((Below.refl w.heap.size w).alloc (by simp<;>omega) (.cells #[.int .i64 s.tick,.int .i64 s.count,.slice sat s.tenants.length sct,.slice sac s.cells.length scc,.int .i64 s.proven,.int .i64 s.evac,.int .i64 s.low,.int .i64 s.high] 34))
 have hBs:Blk (w.alloc (.cells #[.int .i64 s.tick,.int .i64 s.count,.slice sat s.tenants.length sct,.slice sac s.cells.length scc,.int .i64 s.proven,.int .i64 s.evac,.int .i64 s.low,.int .i64 s.high] 34)) (w.heap.size) 34 #[.int .i64 s.tick,.int .i64 s.count,.slice sat s.tenants.length sct,.slice sac s.cells.length scc,.int .i64 s.proven,.int .i64 s.evac,.int .i64 s.low,.int .i64 s.high]:=by
  have:=(Blk.new w 34 #[.int .i64 s.tick,.int .i64 s.count,.slice sat s.tenants.length sct,.slice sac s.cells.length scc,.int .i64 s.proven,.int .i64 s.evac,.int .i64 s.low,.int .i64 s.high])
  simpa using this
 unfold stC
 simp only
 go_enter Tryz.func90,Tryz.ntmps90
 go_upto_region 1 with fail
 generalize w.alloc _=W at *
 have hgs:=hBs.lt
 have su0:=hBs.cell' (i:=0) (v:=.int .i64 s.tick) rfl
 have su1:=hBs.cell' (i:=1) (v:=.int .i64 s.count) rfl
 have su2:=hBs.cell' (i:=2) (v:=.slice sat s.tenants.length sct) rfl
 have su3:=hBs.cell' (i:=3) (v:=.slice sac s.cells.length scc) rfl
 have su4:=hBs.cell' (i:=4) (v:=.int .i64 s.proven) rfl
 have su5:=hBs.cell' (i:=5) (v:=.int .i64 s.evac) rfl
 have su6:=hBs.cell' (i:=6) (v:=.int .i64 s.low) rfl
 have su7:=hBs.cell' (i:=7) (v:=.int .i64 s.high) rfl
 clear hBs
 have HL:=Lib.hid hL
 have HWs:=Lib.hid (HKs.out.belowW hL)
 clear hL
 go_wp2
 all_goals
  go_ret
  refine⟨ret_i64 ?_,(by first | exact HL.out | exact HL.out.trans ((Later.below _).mono HL.out.size))⟩
  rw[HR.out]
  go_light
  clear HR HL
  simp_all
  try omega
end Go.Proofs.YtnnpgbleacapfaaGreat
