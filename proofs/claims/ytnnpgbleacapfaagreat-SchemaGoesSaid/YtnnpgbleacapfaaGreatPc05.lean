import Derived.Test.YtnnpgbleacapfaaGreatPc04
namespace Go.Proofs.YtnnpgbleacapfaaGreat
open Go.RowKit
set_option linter.unusedSimpArgs false
set_option linter.unusedVariables false
/-! The tape of mill. -/
abbrev tapeM (r n cap:Nat) (k:Int):ABlk:=.box 127 [slc r n cap,.int .i64 k]
structure TmAt (w:World) (g:Nat) (A:Option Addr) (cap:Nat) (zs:List Int) (k:Int):Prop where
 row:Rd w (fun b=>b≠g∧b<w.heap.size) A (flat intC zs)
 blk:Blk w g 127 #[.slice A zs.length cap,.int .i64 k]
theorem tapeM_calls {f:FuncId} {fn:Func} {F:FT} {D:List (Nat×DQ)} (hF:FTok Tryz.prog F) (hf:(Tryz.prog).funcs[f]?=some fn) (hb:fn.body=some (bodyOf fn)) (hcode:codeB fn.ntmps D (bodyOf fn)=true) {args:List Value} (hn:Nat.ble (args.length+1) fn.ntmps=true) (hargs:∀ v ∈ args,plain1 v∧atom v=true)
  (g:Nat) (A:Option Addr) (cap:Nat) (zs:List Int) (k:Int) (w:World) (ht:TmAt w g A cap zs k) {R:Value→Int→Prop}
  (h:sx tt F D (bodyOf fn) (argF 0 (ptr 0::args)) [(0,tapeM 1 zs.length cap k),(1,intRow zs)] 2 (endx tt fn.results.toList fun v mem' _=>∃ k',R v k'∧(plain1 v∧atom v=true)∧lk mem' 0=some (tapeM 1 zs.length cap k'))) :
  Calls Tryz.prog f (.pointer (some ⟨g,0,none⟩)::args).toArray w fun e w'=>∃ v k',R v k'∧(plain1 v∧atom v=true)∧e=.returned v∧TmAt w' g A cap zs k'∧w.grownBy w' (some g):=by
 let ρ:Nat→Pl:=fun j=>match j with | 0=>⟨some ⟨g,0,none⟩,0,0,false⟩ | _=>⟨A,1,zs.length,false⟩
 have hrow:∀ C nx,BlkOk C ρ nx 1 w (intRow zs):=fun C nx=>row_of_rd (enc:=intC) (sz:=1) (fun _=>rfl) (by omega) (fun x v hv=>by simp[intC] at hv;subst hv;trivial) 0 rfl ht.row (fun b hb=>hb.2)
 have hm:=MemAt.one (ρ:=ρ) (nx:=2) (nt:=fn.ntmps) (w:=w) (mem:=[(1,intRow zs)]) (g:=g) (i:=0) (t:=127) (cs:=[slc 1 zs.length cap,.int .i64 k]) trivial (by omega) rfl
  ⟨g,rfl,by
   have:=ht.blk
   simpa [den1,dA_whole,ρ] using this,.inr (by simp),fun v hv=>by
    simp at hv
    rcases hv with rfl | rfl
    ·exact⟨Nat.lt_succ_self 1,rfl⟩
    ·trivial⟩ ⟨⟨by omega,rfl,hrow _ _⟩,trivial⟩ (fun j t sz n el hj=>by
   rcases lk_cons hj with⟨rfl,q⟩ | ⟨_,q⟩
   ·cases q
    by_cases h0:zs.length=0
    ·exact .inl h0
    ·obtain⟨b,off,x,hA,hb,-,-⟩:=ht.row.row (enc:=intC) (sz:=1) (fun _=>rfl) (by omega) (k:=0) (by omega)
     refine .inr ?_
     subst hA
     simp[bno,ρ]
     exact hb.1
   ·simp[lk] at q)
 have hden:∀ v ∈ args,den ρ v=v:=fun v hv=>by rw[atom_den (hargs v hv).2,den1_plain (hargs v hv).1]
 have hargs2:(ptr 0::args).map (den ρ)=.pointer (some ⟨g,0,none⟩)::args:=by
  rw[List.map_cons]
  refine congr (congrArg List.cons rfl) ?_
  conv=>rhs;rw[← List.map_id args]
  exact List.map_congr_left fun v hv=>hden v hv
 rw[← hargs2]
 refine (calls_sx ttOk hF mixed hf hb hcode (vs:=ptr 0::args) hn ⟨rfl,rfl⟩ rfl hm (fun v hv=>?_) h).mono ?_
 ·rcases List.mem_cons.1 hv with rfl | hv
  ·exact⟨⟨Nat.zero_lt_succ 1,rfl⟩,⟨g,0,rfl⟩,fun k hk=>by cases hk⟩
  ·rw[atom_ok (hargs v hv).2];exact ok1_plain (hargs v hv).1
 ·rintro e w' ⟨v,mem',nx',ρ',rfl,⟨k',hr,hpl,hlk⟩,-,hm'⟩
  have e0:ρ' 0=ρ 0:=hm'.low 0 (Nat.zero_lt_succ 1)
  have e1:ρ' 1=ρ 1:=hm'.low 1 (Nat.lt_succ_self 1)
  obtain⟨g',hA,hb,-,-⟩:=hm'.blk 0 _ hlk
  rw[e0] at hA
  cases hA
  have hgr:w.grownBy w' (some g):=⟨hm'.rest.os,hm'.rest.tape,hm'.rest.output,hm'.rest.size,fun b hlt hne=>hm'.rest.block b hlt (by simp;intro q;exact hne (by rw[q]))⟩
  refine⟨v,k',hr,hpl,by rw[atom_den hpl.2,den1_plain hpl.1],⟨?_,?_⟩,hgr⟩
  ·exact (ht.row.keep fun b hb=>hgr.block b hb.2 (by intro q;injection q with q;exact hb.1 q)).more fun b hb=>⟨hb.1,Nat.lt_of_lt_of_le hb.2 hgr.size⟩
  ·simpa [den1,dA_whole,e1,ρ] using hb
theorem Sat.tapeM {C:Ctx} {ρ:Nat→Pl} {fr:AF} {mem:AM} {nx:Nat} {a:Act} {w:World} (h:Sat C ρ fr mem nx a w) {i r cap:Nat} {zs:List Int} {k:Int} (hi:lk mem i=some (tapeM r zs.length cap k)) (hr:lk mem r=some (intRow zs)) :
  ∃ g,(ρ i).A=some ⟨g,0,none⟩∧TmAt w g (ρ r).A cap zs k∧ok1 ρ nx (slc r zs.length cap):=by
 obtain⟨g,hA,hb,-,hcs⟩:=h.blk i _ (lk_app hi)
 have hne:i≠r:=by rintro rfl;rw[hi] at hr;cases hr
 have hap:=h.sep i r _ _ hne (lk_app hi) (lk_app hr)
 refine⟨g,hA,⟨rd_of_row (enc:=intC) (sz:=1) (fun _=>rfl) (by omega) (h.blk r _ (lk_app hr)) fun hl b off hAr hlt=>⟨?_,hlt⟩,by simpa [den1,dA_whole] using hb⟩,hcs _ (by simp)⟩
 rintro rfl
 rcases hap with h0 | h0
 ·exact hl h0
 ·exact h0 (by simp[bno,hA,hAr])
def ctTapeM (R:List Int→List Value→Int→Value→Int→Prop) (pre:List Value→Int→Prop):CT:=fun vs mem nx K=>∃ i r cap zs k args,vs=ptr i::args∧(lk mem i=some (tapeM r zs.length cap k)∧lk mem r=some (intRow zs))∧(zs.length≤400∧0≤k∧k≤1000000)∧pre args k∧∀ z k',R zs args k z k'→K z ((i,tapeM r zs.length cap k')::mem) nx
theorem tapeMOk {f : FuncId} {R : List Int → List Value → Int → Value → Int → Prop} {pre : List Value → Int → Prop} (ent : ((Tryz.prog).funcs[f]?).map (fun fn => (fn.name == "runtime.NumGoroutine", fn.body.isNone)) = some (false, false))
  (hpre:∀ args k,pre args k→∀ v ∈ args,plain1 v∧atom v=true)
  (h:∀ args g A cap zs k w,zs.length≤400→0≤k→k≤1000000→pre args k→TmAt w g A cap zs k→Calls Tryz.prog f (.pointer (some ⟨g,0,none⟩)::args).toArray w fun e w'=>∃ v k',R zs args k v k'∧(plain1 v∧atom v=true)∧e=.returned v∧TmAt w' g A cap zs k'∧w.grownBy w' (some g)):CSound Tryz.prog f (ctTapeM R pre):=
 ⟨ent,fun {C ρ fr mem nx a w vs K} hc hs hv=>by
  obtain⟨i,r,cap,zs,k,args,rfl,⟨hi,hr⟩,⟨hz,hk0,hk1⟩,hp,hK⟩:=hc
  obtain⟨g,hA,ht,hok⟩:=hs.tapeM hi hr
  have hargs:=hpre args k hp
  have hvs:(ptr i::args).map (den ρ)=.pointer (some ⟨g,0,none⟩)::args:=by
   rw[List.map_cons]
   refine congr (congrArg List.cons ?_) ?_
   ·simp[den,den2,den1,dA_whole,hA]
   ·conv=>rhs;rw[← List.map_id args]
    exact List.map_congr_left fun v hv=>by rw[atom_den (hargs v hv).2,den1_plain (hargs v hv).1];rfl
  rw[hvs]
  refine (h args g (ρ r).A cap zs k w hz hk0 hk1 hp ht).mono ?_
  rintro e w' ⟨v,k',hR,hpl,rfl,ht',hg⟩
  refine⟨v,_,nx,ρ,by rw[atom_den hpl.2,den1_plain hpl.1],hK v k' hR,hs.grownBox (cs':=[slc r zs.length cap,.int .i64 k']) hi hA hg ?_ ?_,by rw[atom_ok hpl.2];exact ok1_plain hpl.1,ExtS.refl _ _⟩
  ·simpa [den1,dA_whole] using ht'.blk
  ·intro u hu
   simp at hu
   rcases hu with rfl | rfl
   ·exact hok
   ·trivial⟩
def ctModM:CT:=fun vs mem nx K=>∃ v n,vs=[.int .i64 v,.int .i64 n]∧(1≤n∧n≤2147483648)∧∀ r:Int,0≤r→r<n→K (.int .i64 r) mem nx
def modMx (v n:Int):Int:=if v.tmod n<0 then v.tmod n+n else v.tmod n
theorem modMx_bd (v n:Int) (hn:1≤n):0≤modMx v n∧modMx v n<n:=by
 have h1:=Int.natAbs_tmod v n
 have h2:v.natAbs % n.natAbs<n.natAbs:=Nat.mod_lt _ (by omega)
 unfold modMx
 split<;>omega
set_option maxRecDepth 100000 in
theorem modM_sx (v n:Int) (hn:1≤n) (hn2:n≤2147483648):sx tt [] [] (bodyOf Tryz.f14) (argF 0 [.int .i64 v,.int .i64 n]) [] 0 (endx tt Tryz.f14.results.toList fun z _ _=>z=.int .i64 (modMx v n)):=by
 have h1:=Int.natAbs_tmod v n
 have h2:v.natAbs % n.natAbs<n.natAbs:=Nat.mod_lt _ (by omega)
 refine⟨⟨rfl,by omega⟩,?_⟩
 refine⟨fun h=>?_,fun h=>?_⟩
 ·have h:v.tmod n<0:=of_decide_eq_true h
  unfold modMx
  rw[if_pos h]
  show Value.int .i64 (IntKind.i64.wrap (v.tmod n+n))=_
  rw[wrapi (by omega)]
 ·have h:¬ v.tmod n<0:=of_decide_eq_false h
  unfold modMx
  rw[if_neg h]
  rfl
theorem modM_any (v n:Int) (w:World) (hn:1≤n) (hn2:n≤2147483648):Calls Tryz.prog 14 #[.int .i64 v,.int .i64 n] w fun e w'=>e=.returned (.int .i64 (modMx v n))∧Below w.heap.size w w':=by
 have:=calls_sx ttOk ft_nil mixed Tryz.func14 rfl (by kernel_rfl) (vs:=[.int .i64 v,.int .i64 n]) rfl (C:={ w0:=w,bor:=[],n0:=0,ρ0:=fun _=>⟨none,0,0,false⟩,nt:=Tryz.f14.ntmps }) ⟨rfl,rfl⟩ rfl (ρ:=fun _=>⟨none,0,0,false⟩) (mem:=[]) (nx:=0) (MemAt.rows (mem:=[]) trivial trivial) (fun u hu=>by
  simp only[List.mem_cons,List.not_mem_nil,or_false] at hu
  rcases hu with rfl | rfl<;>trivial) (modM_sx v n hn hn2)
 refine this.mono ?_
 rintro e w' ⟨z,mem',nx',ρ',rfl,rfl,hv,hm'⟩
 exact⟨rfl,⟨hm'.rest.os,hm'.rest.tape,hm'.rest.output,hm'.rest.size,fun b hlt=>hm'.rest.block b hlt (by simp)⟩⟩
theorem modMOk:CSound Tryz.prog 14 ctModM:=CSound.val (by kernel_rfl) (by
 rintro vs mem nx K ⟨v,n,rfl,hn,hK⟩
 have hb:=modMx_bd v n hn.1
 exact⟨_,hK _ hb.1 hb.2,trivial,rfl,fun ρ w=>modM_any v n w hn.1 hn.2⟩)
def NextRM (zs:List Int) (n k r k':Int):Prop:=(0≤r∧r<n)∧(k≤k'∧k'≤k+1)
def nextMF:FT:=[(14,ctModM)]
theorem nextMFok:FTok Tryz.prog nextMF:=ft_cons modMOk ft_nil
def nextMD:List (Nat×DQ):=[(1,{ k:=9,L:=[0,1],pre:=[(0,false),(1,false),(2,false),(3,false),(4,false),(5,false),(6,false),(7,false),(8,false)] }),(4,{ k:=12,L:=[0,1],pre:=[(0,false),(1,false),(2,false),(3,false),(4,false),(5,false),(6,false),(7,false),(8,false),(9,false),(10,false),(11,false)] })]
theorem nextM_sx (cap:Nat) (zs:List Int) (k n:Int) (hz:zs.length≤400) (hk:0≤k∧k≤1000000) (hn:1≤n∧n≤1000000) :
  sx tt nextMF nextMD (bodyOf Tryz.f64) (argF 0 [ptr 0,.int .i64 n]) [(0,tapeM 1 zs.length cap k),(1,intRow zs)] 2
   (endx tt [.tmp 4] fun v mem' _=>∃ k',(∃ n' r,[Value.int .i64 n]=[.int .i64 n']∧v=.int .i64 r∧NextRM zs n' k r k')∧(plain1 v∧atom v=true)∧lk mem' 0=some (tapeM 1 zs.length cap k')):=by
 refine⟨fun h0=>?_,fun h0=>?_⟩
 ·exact⟨k,⟨n,0,rfl,rfl,⟨by omega,by omega⟩,by omega,by omega⟩,⟨trivial,rfl⟩,rfl⟩
 ·have hlt:¬ k≥(zs.length:Int):=of_decide_eq_false h0
  have e1:IntKind.i64.wrap (k+1)=k+1:=wrapi (by omega)
  have e2:IntKind.i64.wrap (IntKind.i64.wrap (k+1)-1)=k:=by rw[e1,wrapi (by omega)];omega
  refine⟨⟨Nat.le_refl _,?i1,?i2⟩,?rest⟩
  case i1=>rw[e2];exact hk.1
  case i2=>rw[e2];omega
  refine⟨_,_,rfl,⟨hn.1,by omega⟩,fun r hr0 hr1=>?_⟩
  exact⟨k+1,⟨n,r,rfl,rfl,⟨hr0,hr1⟩,by omega,by omega⟩,⟨trivial,rfl⟩,by show some (tapeM 1 zs.length cap (IntKind.i64.wrap (k+1)))=_;rw[e1]⟩
def ctNextM:CT:=ctTapeM (fun zs args k z k'=>∃ n r,args=[.int .i64 n]∧z=.int .i64 r∧NextRM zs n k r k') (preInt 1 1000000)
theorem nextMOk:CSound Tryz.prog 64 ctNextM:=tapeMOk (by kernel_rfl) preInt_plain (by
 rintro args g A cap zs k w hz hk0 hk1 ⟨n,rfl,hn⟩ ht
 refine tapeM_calls nextMFok Tryz.func64 rfl (D:=nextMD) (by kernel_rfl) rfl (preInt_plain _ k ⟨n,rfl,hn⟩) g A cap zs k w ht (R:=fun z k'=>∃ n' r,[Value.int .i64 n]=[.int .i64 n']∧z=.int .i64 r∧NextRM zs n' k r k') ?_
 exact (nextM_sx cap zs k n hz ⟨hk0,hk1⟩ hn))
def tmF:FT:=[(64,ctNextM)]
theorem tmFok:FTok Tryz.prog tmF:=ft_cons nextMOk ft_nil
def RangeRM (zs:List Int) (args:List Value) (k:Int) (z:Value) (k':Int):Prop:=∃ lo hi r,args=[.int .i64 lo,.int .i64 hi]∧z=.int .i64 r∧(lo≤r∧r≤hi)∧(k≤k'∧k'≤k+1)
def ctRangeM:CT:=ctTapeM RangeRM preRange
theorem rangeMOk:CSound Tryz.prog 63 ctRangeM:=tapeMOk (by kernel_rfl) preRange_plain (by
 rintro args g A cap zs k w hz hk0 hk1 ⟨lo,hi,rfl,h1,h2,h3⟩ ht
 refine tapeM_calls tmFok Tryz.func63 rfl (D:=[]) (by kernel_rfl) rfl (preRange_plain _ k ⟨lo,hi,rfl,h1,h2,h3⟩) g A cap zs k w ht (R:=fun z k'=>RangeRM zs _ k z k') ?_
 refine⟨0,1,cap,zs,k,_,rfl,⟨rfl,rfl⟩,⟨hz,hk0,hk1⟩,⟨_,rfl,?_⟩,?_⟩
 ·rw[wrapi (n:=hi-lo) (by omega),wrapi (by omega)];omega
 ·rintro z k' ⟨n',r,hnn,rfl,hr⟩
  simp only[List.cons.injEq,Value.int.injEq,and_true,true_and] at hnn
  rw[wrapi (n:=hi-lo) (by omega),wrapi (by omega)] at hnn
  subst hnn
  have hr1:=hr.1
  refine⟨k',⟨lo,hi,IntKind.i64.wrap (lo+r),rfl,rfl,?_,hr.2⟩,⟨trivial,rfl⟩,rfl⟩
  rw[wrapi (by omega)];omega)
def ctMoreM:CT:=ctTapeM (fun zs args k z k'=>∃ b,z=.bool b∧k'=k∧(b=true→k<zs.length)) preNone
def moreMD:List (Nat×DQ):=[(1,{ k:=10,L:=[0],pre:=[(0,false),(1,false),(2,false),(3,false),(4,false),(5,false),(6,false),(7,false),(8,false),(9,false)] })]
theorem moreMOk:CSound Tryz.prog 62 ctMoreM:=tapeMOk (by kernel_rfl) preNone_plain (by
 rintro args g A cap zs k w hz hk0 hk1 hp ht
 cases hp
 refine tapeM_calls ft_nil Tryz.func62 rfl (D:=moreMD) (by kernel_rfl) rfl (preNone_plain _ k rfl) g A cap zs k w ht (R:=fun z k'=>∃ b,z=.bool b∧k'=k∧(b=true→k<zs.length)) ?_
 exact⟨k,⟨_,rfl,rfl,fun h=>of_decide_eq_true h⟩,⟨trivial,rfl⟩,rfl⟩)
theorem mlTape_any (A:Option Addr) (cap:Nat) (zs:List Int) (w:World) (hs:zs.length≤400) (hr:Rd w (·<w.heap.size) A (zs.map (Value.int .i64))) :
  Calls Tryz.prog 61 #[.slice A zs.length cap] w fun e w'=>e=.returned (.pointer (some ⟨w.heap.size,0,none⟩))∧Blk w' w.heap.size 127 #[.slice A zs.length cap,.int .i64 0]∧Below w.heap.size w w':=by
 go_enter Tryz.func61,Tryz.ntmps61
 go_wp2
 go_ret
 exact⟨rfl,Blk.new _ _ _,(Below.refl _ _).alloc (Nat.le_refl _) _⟩
def ctTapeNewM:CT:=fun vs mem nx K=>∃ r cap zs,vs=[slc r (zs:List Int).length cap]∧lk mem r=some (intRow zs)∧zs.length≤400∧K (ptr nx) ((nx,tapeM r zs.length cap 0)::mem) (nx+1)
theorem tapeNewMOk:CSound Tryz.prog 61 ctTapeNewM:=⟨by kernel_rfl,fun {C ρ fr mem nx a w vs K} hc hs hv=>by
 obtain⟨r,cap,zs,rfl,hr,hz,hK⟩:=hc
 have hrd:=rd_of_row (enc:=intC) (sz:=1) (fun _=>rfl) (by omega) (hs.blk r _ (lk_app hr)) (S:=(·<w.heap.size)) (fun _ b off _ hlt=>hlt)
 rw[flat_intH] at hrd
 have hvs:[slc r zs.length cap].map (den ρ)=[.slice (ρ r).A zs.length cap]:=by simp[den,den2,den1,dA_whole]
 rw[hvs]
 refine (mlTape_any (ρ r).A cap zs w hz hrd).mono ?_
 rintro e w' ⟨rfl,ht,hb⟩
 obtain⟨e1,e2⟩:=ptr_new (ρ:=ρ) (nx:=nx) w.heap.size
 have hrn:=hs.mlt r _ (lk_app hr)
 have hok:ok1 (setPl ρ nx ⟨some ⟨w.heap.size,0,none⟩,0,0,false⟩) (nx+1) (slc r zs.length cap):=⟨by have:=hrn.1;exact Nat.lt_succ_of_lt this,by rw[setPl_lt ρ _ hrn.1];exact hrn.2⟩
 refine⟨_,_,_,setPl ρ nx ⟨some ⟨w.heap.size,0,none⟩,0,0,false⟩,by rw[e1],hK,hs.add hb ⟨w.heap.size,by rw[setPl_same],?_,.inl hs.rest.size,?_⟩ (fun g hg=>by simp at hg;omega) rfl,e2,ExtS.set _ _ _⟩
 ·have hA:(setPl ρ nx ⟨some ⟨w.heap.size,0,none⟩,0,0,false⟩ r).A=(ρ r).A:=by rw[setPl_lt ρ _ hrn.1]
  simpa [den1,dA_whole,hA] using ht
 ·intro u hu
  simp at hu
  rcases hu with rfl | rfl
  ·exact hok
  ·trivial⟩
def tiUint:TI:={ size:=1,agg:=false,zero:=[.int .u64 0],ik:=some .u64 }
def ttU:TT:=(96,tiUint)::tt
theorem ttUok:TTok Tryz.prog ttU:=by
 refine tt_mem _ _ ?_
 unfold ttU tt
 repeat (refine tt_cons ⟨by kernel_rfl,by kernel_rfl,plains (by rfl),by kernel_rfl,by kernel_rfl⟩ ?_)
 exact tt_nil
/-! The functions that are walked where they are called. -/
def HasRow {α:Type} (mem:AM) (r sz:Nat) (enc:α→List Value) (d:α) (l:List α):Prop:=∃ t n el,lk mem r=some (.row t sz n el)∧l.length≤n∧∀ k,k<l.length→el k=enc (l.getD k d)
theorem BlkOk.rdOf {C:Ctx} {ρ:Nat→Pl} {nx i:Nat} {w:World} {t:TypeId} {sz n:Nat} {el:Nat→List Value} {α:Type} {enc:α→List Value} {l:List α} {d:α} (h:BlkOk C ρ nx i w (.row t sz n el)) (hl:l.length≤n) (he:∀ k,k<l.length→el k=enc (l.getD k d)) (hs:∀ x,(enc x).length=sz) (hpos:0<sz) {S:Nat→Prop} (hS:l.length≠0→∀ b off,(ρ i).A=some ⟨b,off,none⟩→RowA C.w0.heap.size w t b off→S b):Rd w S (ρ i).A (flat enc l):=by
 obtain⟨-,-,h3⟩:=h
 intro hne
 have hl0:l.length≠0:=by
  intro h0
  rw[List.eq_nil_of_length_eq_zero h0] at hne
  exact hne rfl
 rcases h3 with h0 | ⟨b,off,hA,hlt,hc⟩
 ·omega
 ·refine⟨b,off,hA,hS hl0 b off hA hlt,fun j v hv=>?_⟩
  obtain⟨x,h1,h2⟩:=flat_at hs hpos l j v hv
  have hk:j / sz<l.length:=(List.getElem?_eq_some_iff.1 h1).1
  have hx:l.getD (j / sz) d=x:=by rw[List.getD_eq_getElem?_getD,h1];rfl
  have:=hc (j / sz) (by omega) (j % sz) v (by rw[he _ hk,hx];exact h2)
  rw[← this]
  congr 2
  have:=Nat.div_add_mod j sz
  rw[Nat.mul_comm] at this
  omega
theorem Sat.hasRd {C:Ctx} {ρ:Nat→Pl} {fr:AF} {mem:AM} {nx:Nat} {a:Act} {w:World} (h:Sat C ρ fr mem nx a w) {α:Type} {enc:α→List Value} {sz:Nat} (hsz:∀ x,(enc x).length=sz) (hpos:0<sz) {l:List α} {d:α} {i:Nat} (hi:HasRow mem i sz enc d l):Rd w (·<w.heap.size) (ρ i).A (flat enc l):=by
 obtain⟨t,n,el,h1,h2,h3⟩:=hi
 exact (h.blk i _ (lk_app h1)).rdOf h2 h3 hsz hpos fun _ b off _ hr=>hr.lt
def NewRow {α:Type} (mem:AM) (r sz:Nat) (enc:α→List Value) (d:α) (l:List α):Prop:=∃ t n el,lk mem r=some (.row t sz n el)∧frT t=true∧l.length≤n∧∀ k,k<l.length→el k=enc (l.getD k d)
theorem MemAt.newRd {C:Ctx} {ρ:Nat→Pl} {mem:AM} {nx:Nat} {w:World} (h:MemAt C ρ mem nx w) {α:Type} {enc:α→List Value} {sz:Nat} (hsz:∀ x,(enc x).length=sz) (hpos:0<sz) {l:List α} {d:α} {i:Nat} (hi:NewRow mem i sz enc d l):Rd w (fun b=>C.w0.heap.size≤b∧b<w.heap.size) (ρ i).A (flat enc l):=by
 obtain⟨t,n,el,h1,h0,h2,h3⟩:=hi
 exact (h.blk i _ h1).rdOf h2 h3 hsz hpos fun _ b off _ hr=>⟨hr.new h0,hr.lt⟩
def SlR {α:Type} (mem:AM) (sz:Nat) (enc:α→List Value) (d:α) (l:List α) (v:Value):Prop:=
 (v=zs0∧l=[])∨∃ r cap t n el,v=slc r l.length cap∧lk mem r=some (.row t sz n el)∧frT t=true∧l.length≤n∧∀ k,k<l.length→el k=enc (l.getD k d)
theorem MemAt.slR {C:Ctx} {ρ:Nat→Pl} {mem:AM} {nx:Nat} {w:World} (h:MemAt C ρ mem nx w) {α:Type} {enc:α→List Value} {sz:Nat} (hsz:∀ x,(enc x).length=sz) (hpos:0<sz) {l:List α} {d:α} {v:Value} (hi:SlR mem sz enc d l v) :
  ∃ A c,den1 ρ v=.slice A l.length c∧Rd w (fun b=>C.w0.heap.size≤b∧b<w.heap.size) A (flat enc l):=by
 rcases hi with⟨rfl,rfl⟩ | ⟨r,cap,t,n,el,rfl,h1,h0,h2,h3⟩
 ·exact⟨none,0,rfl,fun h=>absurd rfl h⟩
 ·exact⟨_,cap,rfl,BlkOk.rdOf (h.blk r _ h1) h2 h3 hsz hpos fun _ b off _ hr=>⟨hr.new h0,hr.lt⟩⟩
theorem HasRow.list {α:Type} {mem:AM} {r sz:Nat} {enc:α→List Value} {d:α} {l:List α} {t:TypeId} (h:lk mem r=some (rowOfL t sz enc d l)):HasRow mem r sz enc d l:=⟨_,_,_,h,Nat.le_refl _,fun k hk=>rfl⟩
section
variable {C:Ctx} {ρ:Nat→Pl} {fr:AF} {mem:AM} {nx:Nat} {a:Act} {w w':World}
def FrB (C:Ctx) (ρ:Nat→Pl) (mem:AM) (B:Nat):Prop:=∀ i b,lk (mem++C.fm) i=some b→exB b=true→(∃ t sz el,b=.row t sz 0 el)∨∀ g,bno ρ i=some g→g<B
theorem Sat.frB (h:Sat C ρ fr mem nx a w):FrB C ρ mem w.heap.size:=by
 intro i b hi hb
 have hok:=h.blk i b hi
 cases b with
 | box t cs=>
  obtain⟨g,e1,e2,-⟩:=hok
  refine .inr fun g' hg=>?_
  simp[bno,e1] at hg
  subst hg
  exact e2.lt
 | row t sz n el=>
  obtain⟨-,-,h3⟩:=hok
  rcases h3 with rfl | ⟨b,off,hA,hat,-⟩
  ·exact .inl ⟨_,_,_,rfl⟩
  ·refine .inr fun g hg=>?_
   simp[bno,hA] at hg
   subst hg
   exact hat.lt
theorem Sat.addPlain (h:Sat C ρ fr mem nx a w) {t:TypeId} {sz n:Nat} {el:Nat→List Value} {p:Pl} {B:Nat} (hF:FrB C ρ mem B) (ho:ownT t=false) (hp:p.res=false) (hok:BlkOk C (setPl ρ nx p) (nx+1) nx w (.row t sz n el)) (hnew:n=0∨∀ g,p.A.map (·.block)=some g→B≤g) :
  Sat C (setPl ρ nx p) fr ((nx,.row t sz n el)::mem) (nx+1) a w∧FrB C (setPl ρ nx p) ((nx,.row t sz n el)::mem) B:=by
 have hr:∀ j,j<nx→(ρ j).res=false→setPl ρ nx p j=ρ j:=fun j hj _=>setPl_lt ρ p hj
 have h1:=h.ren (ρ':=setPl ρ nx p) (m:=nx+1) hr (Nat.le_succ _) (fun j hj=>setPl_lt ρ p (Nat.lt_of_lt_of_le hj h.n0))
 have e1:bno (setPl ρ nx p) nx=p.A.map (·.block):=by unfold bno;rw[setPl_same]
 have e2:∀ j b,lk (mem++C.fm) j=some b→bno (setPl ρ nx p) j=bno ρ j:=fun j b hj=>by unfold bno;rw[setPl_lt ρ p (h.mlt j b hj).1]
 have key:∀ j b',lk (mem++C.fm) j=some b'→Apart (setPl ρ nx p) nx j (.row t sz n el) b'∧Apart (setPl ρ nx p) j nx b' (.row t sz n el):=by
  intro j b' hj
  have hne:n≠0→∀ g,bno ρ j=some g→g<B→bno (setPl ρ nx p) j≠bno (setPl ρ nx p) nx:=by
   intro hn g hg hlt he
   rw[e1,e2 j b' hj,hg] at he
   have:=hnew.resolve_left hn g he.symm
   omega
  cases b' with
  | box t2 cs2=>
   refine⟨trivial,?_⟩
   by_cases hn:n=0
   ·exact .inl hn
   ·refine .inr ?_
    obtain⟨g,hA,-⟩:=h.blk j _ hj
    rcases hF j _ hj rfl with⟨_,_,_,q⟩ | hlt
    ·cases q
    ·have hg:bno ρ j=some g:=by simp[bno,hA]
     exact hne hn g hg (hlt g hg)
  | row t2 sz2 n2 el2=>
   refine⟨(fun q=>absurd (ho.symm.trans q) (by decide)),fun ho2=>?_⟩
   by_cases hn:n=0
   ·exact .inr (.inl hn)
   ·by_cases hn2:n2=0
    ·exact .inl hn2
    ·obtain⟨-,-,h3⟩:=h.blk j _ hj
     rcases h3 with q | ⟨b,off,hA,-⟩
     ·exact .inl q
     ·rcases hF j _ hj ho2 with⟨_,_,_,q⟩ | hlt
      ·cases q;exact .inl rfl
      ·have hg:bno ρ j=some b:=by simp[bno,hA]
       exact .inr (.inr (hne hn b hg (hlt b hg)))
 refine⟨⟨h1.fok,h1.sz,h1.dfr,fun i b' hi=>?_,fun i b' hi=>?_,fun i j b1 b2 hne hi hj=>?_,h1.n0,h1.low,h1.rest⟩,fun i b hi hb=>?_⟩
 ·rcases lk_cons hi with⟨rfl,rfl⟩ | ⟨hne,hi⟩
  ·exact⟨Nat.lt_succ_self _,by rw[setPl_same];exact hp⟩
  ·exact h1.mlt i b' hi
 ·rcases lk_cons hi with⟨rfl,rfl⟩ | ⟨hne,hi⟩
  ·exact hok
  ·exact h1.blk i b' hi
 ·rcases lk_cons hi with⟨rfl,rfl⟩ | ⟨hni,hi⟩
  ·rcases lk_cons hj with⟨rfl,rfl⟩ | ⟨hnj,hj⟩
   ·exact absurd rfl hne
   ·exact (key j b2 hj).1
  ·rcases lk_cons hj with⟨rfl,rfl⟩ | ⟨hnj,hj⟩
   ·exact (key i b1 hi).2
   ·exact h1.sep i j b1 b2 hne hi hj
 ·rcases lk_cons hi with⟨rfl,rfl⟩ | ⟨hne,hi⟩
  ·simp only[exB] at hb
   rw[ho] at hb
   cases hb
  ·rcases hF i b hi hb with q | q
   ·exact .inl q
   ·exact .inr fun g hg=>q g (by rw[← e2 i b hi];exact hg)
theorem Sat.addList (h:Sat C ρ fr mem nx a w) {B:Nat} (hF:FrB C ρ mem B) (hB:C.w0.heap.size≤B) {α:Type} {enc:α→List Value} {sz:Nat} (hs:∀ x,(enc x).length=sz) (hpos:0<sz) (hpl:∀ x,∀ v ∈ enc x,plain1 v) {l:List α} (d:α) {t:TypeId} (ho:ownT t=false) {A:Option Addr} (hr:Rd w (fun b=>B≤b∧b<w.heap.size) A (flat enc l)) :
  Sat C (setPl ρ nx ⟨A,sz,l.length,false⟩) fr ((nx,rowOfL t sz enc d l)::mem) (nx+1) a w∧FrB C (setPl ρ nx ⟨A,sz,l.length,false⟩) ((nx,rowOfL t sz enc d l)::mem) B:=by
 refine h.addPlain hF ho rfl (row_of_rd hs hpos hpl d (setPl_same _ _ _) hr (fun b hb=>hb.2) ho (fun _ b hb=>Nat.le_trans hB hb.1)) ?_
 by_cases h0:l.length=0
 ·exact .inl h0
 ·obtain⟨b,off,x,hA,hb,-,-⟩:=hr.row hs hpos (k:=0) (by omega)
  refine .inr fun g hg=>?_
  simp[hA] at hg
  subst hg
  exact hb.1
def stPl (ρ:Nat→Pl) (nx:Nat) (y:StA) (s:St):Nat→Pl:=setPl (setPl ρ nx ⟨y.ac,4,s.cells.length,false⟩) (nx+1) ⟨y.at_,12,s.tenants.length,false⟩
theorem Sat.addSt (h0:Sat C ρ fr mem nx a w) (hb:Below w.heap.size w w') {y:StA} {s:St} (hs:StOk w' (fun b=>w.heap.size≤b∧b<w'.heap.size) y s) :
  Sat C (stPl ρ nx y s) fr (stM ⟨nx+1,nx,500000⟩ s++mem) (nx+2) a w'∧den (stPl ρ nx y s) (stV ⟨nx+1,nx,500000⟩ ⟨y.ct,y.cc⟩ s)=.agg (stC y s)∧okV (stPl ρ nx y s) (nx+2) (stV ⟨nx+1,nx,500000⟩ ⟨y.ct,y.cc⟩ s)∧ExtS ρ nx (stPl ρ nx y s) (nx+2):=by
 obtain⟨h1,f1⟩:=(h0.later hb).addList h0.frB h0.rest.size (enc:=csC) (sz:=4) (fun _=>rfl) (by omega) csC_plain default (t:=500000) rfl hs.cells
 obtain⟨h2,-⟩:=h1.addList f1 h0.rest.size (enc:=tsC) (sz:=12) (fun _=>rfl) (by omega) tsC_plain default (t:=500000) rfl hs.tenants
 have q1:stPl ρ nx y s nx=⟨y.ac,4,s.cells.length,false⟩:=by
  unfold stPl
  rw[setPl_lt _ _ (Nat.lt_succ_self _),setPl_same]
 have q2:stPl ρ nx y s (nx+1)=⟨y.at_,12,s.tenants.length,false⟩:=setPl_same _ _ _
 refine⟨h2,?_,?_,fun i hi=>?_,by omega⟩
 ·rw[den_st]
  congr 2
  simp[stX,q1,q2]
 ·intro u hu
  simp at hu
  rcases hu with rfl | rfl | rfl | rfl | rfl | rfl | rfl | rfl<;>first | trivial | exact⟨show nx+1<nx+2 by omega,by rw[q2]⟩ | exact⟨show nx<nx+2 by omega,by rw[q1]⟩
 ·unfold stPl
  rw[setPl_lt _ _ (by omega),setPl_lt _ _ hi]
end
/-! state.New -/
def CN1:CN:=⟨0,1,2,3,4,5,3⟩
def newD:List (Nat×DQ):=[
 (1,{ k:=10,L:=[6],g:=some (.fix 0 (.fix 1 (.fix 2 (.fix 4 (.fix 5 (.fix 6 (.three
  3 (.two 7 (.fix 8 (.act 9 .fin)) 9 (.act 7 (.fix 8 .fin)))
  7 (.two 3 (.fix 8 (.act 9 .fin)) 9 (.act 3 (.fix 8 .fin)))
  9 (.two 3 (.act 7 (.fix 8 .fin)) 7 (.act 3 (.fix 8 .fin)))))))))) }),
 (4000002,{ k:=11,L:=[6,7],sl:=[1,2] }),
 (2000003,{ k:=0,L:=[7,9,10],sl:=[2,3,17] }),
 (2000008,{ k:=0,L:=[7,8,10],sl:=[2,3,30] })]
abbrev tsZ:List Value:=[zb,zb,zi,zi,zi,zi,zi,zi,zi,zi,zi,zi]
abbrev csZ:List Value:=[zi,zi,zi,zi]
abbrev tsB (n:Nat) (el:Nat→List Value):ABlk:=.row (1000000+63) 12 n el
abbrev csB (n:Nat) (el:Nat→List Value):ABlk:=.row (1000000+51) 4 n el
abbrev newV (n m:Nat):List Value:=[zi,zi,slc 8 n n,slc 9 m m,.int .i64 1,zi,zi,zi]
def NewR (n m:Nat) (v:Value) (mem':AM):Prop:=v=.agg (newV n m).toArray∧(∃ el,lk mem' 8=some (tsB n el)∧∀ k,k<n→el k=tsC tsNew)∧∃ el,lk mem' 9=some (csB m el)∧∀ k,k<m→el k=csC csNew
set_option maxRecDepth 100000 in
set_option maxHeartbeats 4000000 in
theorem new_sx (x:CfgK) (c:Cfg) (hnt:c.tenants.length≤1000) (hnc:c.cells.length≤1000) :
  sx tt [] newD (bodyOf Tryz.f42) (argF 0 [cfgV CN1 x c]) (cfgM CN1 c) 6
   (endx tt Tryz.f42.results.toList fun v mem' _=>NewR c.tenants.length c.cells.length v mem'):=by
 refine⟨Unit,fun _=>[(3,ptr 10)],fun _=>[(8,tsB c.tenants.length fun _=>tsZ),(9,csB c.cells.length fun _=>csZ),(10,.box 34 (newV c.tenants.length c.cells.length))],fun _=>True,?_,?_⟩
 ·refine⟨?_,?_,?_⟩
  ·refine⟨⟨rfl,by omega,by show _ * (88:Int)≤_;omega⟩,⟨rfl,trivial⟩,?_⟩
   refine⟨?_,?_⟩
   ·refine⟨⟨rfl,by omega,by show _ * (32:Int)≤_;omega⟩,⟨rfl,trivial⟩,?_⟩
    refine⟨⟨rfl,trivial⟩,?_⟩
    exact⟨(),[],trivial,⟨rfl,rfl⟩,⟨rfl,rfl,rfl,trivial⟩,⟨rfl,rfl,rfl,rfl,rfl,trivial⟩⟩
   ·refine⟨⟨rfl,trivial⟩,?_⟩
    refine⟨⟨rfl,by omega,by show _ * (32:Int)≤_;omega⟩,⟨rfl,trivial⟩,?_⟩
    exact⟨(),[(9,10),(10,9)],trivial,⟨rfl,rfl⟩,⟨rfl,rfl,rfl,trivial⟩,⟨rfl,rfl,rfl,rfl,rfl,trivial⟩⟩
  ·refine⟨⟨rfl,by omega,by show _ * (32:Int)≤_;omega⟩,⟨rfl,trivial⟩,?_⟩
   refine⟨?_,?_⟩
   ·refine⟨⟨rfl,by omega,by show _ * (88:Int)≤_;omega⟩,⟨rfl,trivial⟩,?_⟩
    refine⟨⟨rfl,trivial⟩,?_⟩
    exact⟨(),[(8,9),(9,8)],trivial,⟨rfl,rfl⟩,⟨rfl,rfl,rfl,trivial⟩,⟨rfl,rfl,rfl,rfl,rfl,trivial⟩⟩
   ·refine⟨⟨rfl,trivial⟩,?_⟩
    refine⟨⟨rfl,by omega,by show _ * (88:Int)≤_;omega⟩,⟨rfl,trivial⟩,?_⟩
    exact⟨(),[(8,10),(9,8),(10,9)],trivial,⟨rfl,rfl⟩,⟨rfl,rfl,rfl,trivial⟩,⟨rfl,rfl,rfl,rfl,rfl,trivial⟩⟩
  ·refine⟨⟨rfl,trivial⟩,?_⟩
   refine⟨?_,?_⟩
   ·refine⟨⟨rfl,by omega,by show _ * (88:Int)≤_;omega⟩,⟨rfl,trivial⟩,?_⟩
    refine⟨⟨rfl,by omega,by show _ * (32:Int)≤_;omega⟩,⟨rfl,trivial⟩,?_⟩
    exact⟨(),[(8,9),(9,10),(10,8)],trivial,⟨rfl,rfl⟩,⟨rfl,rfl,rfl,trivial⟩,⟨rfl,rfl,rfl,rfl,rfl,trivial⟩⟩
   ·refine⟨⟨rfl,by omega,by show _ * (32:Int)≤_;omega⟩,⟨rfl,trivial⟩,?_⟩
    refine⟨⟨rfl,by omega,by show _ * (88:Int)≤_;omega⟩,⟨rfl,trivial⟩,?_⟩
    exact⟨(),[(8,10),(10,8)],trivial,⟨rfl,rfl⟩,⟨rfl,rfl,rfl,trivial⟩,⟨rfl,rfl,rfl,rfl,rfl,trivial⟩⟩
 ·rintro⟨⟩ -
  refine⟨⟨by decide,rfl,rfl⟩,?_⟩
  refine⟨Int×(Nat→List Value),fun y=>match y with | (i,el)=>[(18,.int .i64 i)],fun y=>match y with | (i,el)=>[(8,tsB c.tenants.length el)],fun y=>(0≤y.1∧y.1≤(c.tenants.length:Int))∧∀ k:Nat,k<c.tenants.length→y.2 k=if (k:Int)<y.1 then tsC tsNew else tsZ,fun y=>((c.tenants.length:Int)-y.1).toNat,⟨(0,fun _=>tsZ),⟨⟨by dsimp only;omega,by dsimp only;omega⟩,?_⟩,⟨rfl,rfl,rfl,rfl,trivial⟩,⟨rfl,rfl,rfl,rfl,trivial⟩⟩,?_⟩
  ·intro k hk
   dsimp only
   rw[if_neg (by omega)]
  ·rintro⟨i,el⟩ ⟨hi,hel⟩
   dsimp only at hi hel
   refine⟨⟨rfl,rfl⟩,?_⟩
   refine⟨fun hlt=>?_,fun hge=>?_⟩
   ·have hlt2:i<(c.tenants.length:Int):=of_decide_eq_true hlt
    have hz:el i.toNat=tsZ:=by rw[hel i.toNat (by omega),if_neg (by omega)]
    refine⟨⟨Nat.le_refl _,hi.1,hlt2⟩,?_⟩
    refine⟨tsC tsNew,by rw[hz];rfl,?_⟩
    refine⟨(_,_),?_,⟨rfl,rfl,rfl,rfl,trivial⟩,⟨rfl,rfl,rfl,rfl,trivial⟩⟩
    dsimp only
    rw[wrapi (by omega)]
    refine⟨⟨⟨by omega,by omega⟩,fun k hk=>?_⟩,by omega⟩
    unfold setEl
    by_cases hk2:k=i.toNat
    ·subst hk2
     rw[Nat.beq_refl,if_pos (by omega)]
    ·have hb:Nat.beq k i.toNat=false:=by
      cases hb:Nat.beq k i.toNat
      ·rfl
      ·exact absurd (Nat.eq_of_beq_eq_true hb) hk2
     rw[hb]
     show el k=_
     rw[hel k hk]
     by_cases hki:(k:Int)<i
     ·rw[if_pos hki,if_pos (by omega)]
     ·rw[if_neg hki,if_neg (by omega)]
   ·have hge2:¬ i<(c.tenants.length:Int):=of_decide_eq_false hge
    have hT:∀ k,k<c.tenants.length→el k=tsC tsNew:=fun k hk=>by rw[hel k hk,if_pos (by omega)]
    refine⟨Int×(Nat→List Value),fun y=>match y with | (i,el)=>[(31,.int .i64 i)],fun y=>match y with | (i,el)=>[(9,csB c.cells.length el)],fun y=>(0≤y.1∧y.1≤(c.cells.length:Int))∧∀ k:Nat,k<c.cells.length→y.2 k=if (k:Int)<y.1 then csC csNew else csZ,fun y=>((c.cells.length:Int)-y.1).toNat,⟨(0,fun _=>csZ),⟨⟨by dsimp only;omega,by dsimp only;omega⟩,?_⟩,⟨rfl,rfl,rfl,rfl,trivial⟩,⟨rfl,rfl,rfl,rfl,trivial⟩⟩,?_⟩
    ·intro k hk
     dsimp only
     rw[if_neg (by omega)]
    ·rintro⟨i,el⟩ ⟨hi,hel⟩
     dsimp only at hi hel
     refine⟨⟨rfl,rfl⟩,?_⟩
     refine⟨fun hlt=>?_,fun hge=>?_⟩
     ·have hlt2:i<(c.cells.length:Int):=of_decide_eq_true hlt
      have hz:el i.toNat=csZ:=by rw[hel i.toNat (by omega),if_neg (by omega)]
      refine⟨⟨Nat.le_refl _,hi.1,hlt2⟩,?_⟩
      refine⟨csC csNew,by rw[hz];rfl,?_⟩
      refine⟨(_,_),?_,⟨rfl,rfl,rfl,rfl,trivial⟩,⟨rfl,rfl,rfl,rfl,trivial⟩⟩
      dsimp only
      rw[wrapi (by omega)]
      refine⟨⟨⟨by omega,by omega⟩,fun k hk=>?_⟩,by omega⟩
      unfold setEl
      by_cases hk2:k=i.toNat
      ·subst hk2
       rw[Nat.beq_refl,if_pos (by omega)]
      ·have hb:Nat.beq k i.toNat=false:=by
        cases hb:Nat.beq k i.toNat
        ·rfl
        ·exact absurd (Nat.eq_of_beq_eq_true hb) hk2
       rw[hb]
       show el k=_
       rw[hel k hk]
       by_cases hki:(k:Int)<i
       ·rw[if_pos hki,if_pos (by omega)]
       ·rw[if_neg hki,if_neg (by omega)]
     ·have hge2:¬ i<(c.cells.length:Int):=of_decide_eq_false hge
      have hC:∀ k,k<c.cells.length→el k=csC csNew:=fun k hk=>by rw[hel k hk,if_pos (by omega)]
      exact⟨rfl,⟨_,rfl,hT⟩,⟨_,rfl,hC⟩⟩
/-! Functions that read a configuration and states and give a value. -/
abbrev SN1:SN:=⟨6,7,3⟩
abbrev SN2:SN:=⟨8,9,3⟩
def rpl (x:CfgA) (c:Cfg) (y:StA) (s:St) (y2:StA) (s2:St):Nat→Pl:=fun j=>match j with
 | 0=>⟨x.az,1,c.zones.length,false⟩
 | 1=>⟨x.ac,2,c.cells.length,false⟩
 | 2=>⟨x.at_,7,c.tenants.length,false⟩
 | 3=>⟨x.av,2,c.versions.length,false⟩
 | 4=>⟨x.ar,1,c.replicas.length,false⟩
 | 5=>⟨x.ao,1,c.observers.length,false⟩
 | 6=>⟨y.at_,12,s.tenants.length,false⟩
 | 7=>⟨y.ac,4,s.cells.length,false⟩
 | 8=>⟨y2.at_,12,s2.tenants.length,false⟩
 | _=>⟨y2.ac,4,s2.cells.length,false⟩
abbrev rdM (c:Cfg) (s s2:St):AM:=cfgM CN1 c++(stM SN1 s++stM SN2 s2)
abbrev ck (x:CfgA):CfgK:=⟨x.cz,x.cc,x.ct,x.cv,x.cr,x.co⟩
abbrev sk (y:StA):StK:=⟨y.ct,y.cc⟩
theorem rpl_cfg (x:CfgA) (c:Cfg) (y:StA) (s:St) (y2:StA) (s2:St):den (rpl x c y s y2 s2) (cfgV CN1 (ck x) c)=.agg (cfgC x c):=by rw[den_cfg];rfl
theorem rpl_st (x:CfgA) (c:Cfg) (y:StA) (s:St) (y2:StA) (s2:St):den (rpl x c y s y2 s2) (stV SN1 (sk y) s)=.agg (stC y s):=by rw[den_st];rfl
theorem rpl_cfg_ok (x:CfgA) (c:Cfg) (y:StA) (s:St) (y2:StA) (s2:St):okV (rpl x c y s y2 s2) 10 (cfgV CN1 (ck x) c):=by
 intro u hu
 simp at hu
 rcases hu with rfl | rfl | rfl | rfl | rfl | rfl | rfl | rfl | rfl | rfl<;>first | trivial | exact⟨by decide,rfl⟩
theorem rpl_st_ok (x:CfgA) (c:Cfg) (y:StA) (s:St) (y2:StA) (s2:St):okV (rpl x c y s y2 s2) 10 (stV SN1 (sk y) s):=by
 intro u hu
 simp at hu
 rcases hu with rfl | rfl | rfl | rfl | rfl | rfl | rfl | rfl<;>first | trivial | exact⟨by decide,rfl⟩
theorem rd_calls {f:FuncId} {fn:Func} {F:FT} {D:List (Nat×DQ)} (hF:FTok Tryz.prog F) (hf:(Tryz.prog).funcs[f]?=some fn) (hb:fn.body=some (bodyOf fn)) (hcode:codeB fn.ntmps D (bodyOf fn)=true) {vs:List Value} (hn:Nat.ble vs.length fn.ntmps=true)
  (x:CfgA) (c:Cfg) (y:StA) (s:St) (y2:StA) (s2:St) (w:World) (hc:CfgOk w (·<w.heap.size) x c) (hs:StOk w (·<w.heap.size) y s) (hs2:StOk w (·<w.heap.size) y2 s2) (hv:∀ v ∈ vs,okV (rpl x c y s y2 s2) 10 v) {R:Value→Prop}
  (h:sx tt F D (bodyOf fn) (argF 0 vs) (rdM c s s2) 10 (endx tt fn.results.toList fun v _ _=>R v∧pureV v)) :
  Calls Tryz.prog f (vs.map (den (rpl x c y s y2 s2))).toArray w fun e w'=>∃ v,R v∧pureV v∧e=.returned v∧Below w.heap.size w w':=by
 have hpc:CfgPl (rpl x c y s y2 s2) CN1 x c:=⟨rfl,rfl,rfl,rfl,rfl,rfl⟩
 have hps:StPl (rpl x c y s y2 s2) SN1 y s:=⟨rfl,rfl⟩
 have hps2:StPl (rpl x c y s y2 s2) SN2 y2 s2:=⟨rfl,rfl⟩
 have hm:MemAt { w0:=w,bor:=[],n0:=10,ρ0:=rpl x c y s y2 s2,nt:=fn.ntmps } (rpl x c y s y2 s2) (rdM c s s2) 10 w:=MemAt.rows trivial (cfg_blks hpc hc (fun b hb=>hb) (by decide) (st_blks hps hs (fun b hb=>hb) (by decide) (by
  have:=st_blks (C:={ w0:=w,bor:=[],n0:=10,ρ0:=rpl x c y s y2 s2,nt:=fn.ntmps }) (nx:=10) (r:=[]) hps2 hs2 (fun b hb=>hb) (by decide) trivial
  exact this)))
 refine (calls_sx ttOk hF mixed hf hb hcode (vs:=vs) hn ⟨rfl,rfl⟩ rfl hm hv h).mono ?_
 rintro e w' ⟨v,mem',nx',ρ',rfl,⟨hR,hp⟩,-,hm'⟩
 exact⟨v,hR,hp,by rw[(pure_den hp ρ' 0).1],⟨hm'.rest.os,hm'.rest.tape,hm'.rest.output,hm'.rest.size,fun b hlt=>hm'.rest.block b hlt (by simp)⟩⟩
/-! What such a function is handed,in the abstract and in the world. -/
inductive DT where
 | li (d:List Int)
 | cf (d:Cfg)
 | st (d:St)
 | vl (u:Value)
inductive PA where
 | li (i cap:Nat) (d:List Int)
 | cf (N:CN) (x:CfgK) (d:Cfg)
 | st (M:SN) (y:StK) (d:St)
 | vl (u:Value)
inductive PW where
 | li (A:Option Addr) (cap:Nat) (d:List Int)
 | cf (x:CfgA) (d:Cfg)
 | st (y:StA) (d:St)
 | vl (u:Value)
def PA.val:PA→Value
 | .li i cap l=>slc i l.length cap
 | .cf N x c=>cfgV N x c
 | .st M y s=>stV M y s
 | .vl u=>u
def PA.dt:PA→DT
 | .li _ _ l=>.li l
 | .cf _ _ c=>.cf c
 | .st _ _ s=>.st s
 | .vl u=>.vl u
def PA.keep (mem:AM):PA→Prop
 | .li i _ l=>lk mem i=some (intRow l)
 | .cf N _ c=>keeps mem (cfgM N c)
 | .st M _ s=>keeps mem (stM M s)
 | .vl u=>pureV u
def PW.val:PW→Value
 | .li A cap l=>.slice A l.length cap
 | .cf x c=>.agg (cfgC x c)
 | .st y s=>.agg (stC y s)
 | .vl u=>u
def PW.dt:PW→DT
 | .li _ _ l=>.li l
 | .cf _ c=>.cf c
 | .st _ s=>.st s
 | .vl u=>.vl u
def PW.ok (w:World):PW→Prop
 | .li A _ l=>Rd w (·<w.heap.size) A (flat intC l)
 | .cf x c=>CfgOk w (·<w.heap.size) x c
 | .st y s=>StOk w (·<w.heap.size) y s
 | .vl u=>pureV u
def PA.to (ρ:Nat→Pl):PA→PW
 | .li i cap l=>.li (ρ i).A cap l
 | .cf N x c=>.cf (cfgX ρ N x) c
 | .st M y s=>.st (stX ρ M y) s
 | .vl u=>.vl u
def allK (mem:AM) (l:List PA):Prop:=List.rec (motive:=fun _=>Prop) True (fun a _ ih=>a.keep mem∧ih) l
theorem allK_mem {mem:AM}:∀ {l:List PA},allK mem l→∀ a ∈ l,a.keep mem
 | [],_,a,ha=>by cases ha
 | b::r,h,a,ha=>(List.mem_cons.1 ha).elim (fun e=>e ▸ h.1) (allK_mem (l:=r) h.2 a)
def ctPts (R:List DT→Value→Prop) (pre:List DT→Prop):CT:=fun vs mem nx K=>∃ l:List PA,vs=l.map PA.val∧allK mem l∧pre (l.map PA.dt)∧∀ z,R (l.map PA.dt) z→K z mem nx
theorem ptsOk {f : FuncId} {R : List DT → Value → Prop} {pre : List DT → Prop} (ent : ((Tryz.prog).funcs[f]?).map (fun fn => (fn.name == "runtime.NumGoroutine", fn.body.isNone)) = some (false, false))
  (h:∀ (ps:List PW) (w:World),pre (ps.map PW.dt)→(∀ p ∈ ps,p.ok w)→Calls Tryz.prog f (ps.map PW.val).toArray w fun e w'=>∃ v,R (ps.map PW.dt) v∧pureV v∧e=.returned v∧Below w.heap.size w w'):CSound Tryz.prog f (ctPts R pre):=
 ⟨ent,fun {C ρ fr mem nx a w vs K} hc hs hv=>by
  obtain⟨l,rfl,hk,hp,hK⟩:=hc
  have hk':=allK_mem hk
  have e1:(l.map PA.val).map (den ρ)=(l.map (PA.to ρ)).map PW.val:=by
   rw[List.map_map,List.map_map]
   refine List.map_congr_left fun p hp=>?_
   cases p with
   | li i cap l=>rfl
   | cf N x c=>exact den_cfg ρ N x c
   | st M y s=>exact den_st ρ M y s
   | vl u=>exact (pure_den (hk' _ hp) ρ 0).1
  have e2:(l.map (PA.to ρ)).map PW.dt=l.map PA.dt:=by
   rw[List.map_map]
   refine List.map_congr_left fun p hp=>?_
   cases p<;>rfl
  rw[e1]
  refine (h (l.map (PA.to ρ)) w (by rw[e2];exact hp) (fun p hp=>?_)).mono ?_
  ·obtain⟨q,hq,rfl⟩:=List.mem_map.1 hp
   cases q with
   | li i cap l=>exact hs.rd (enc:=intC) (sz:=1) (fun _=>rfl) (by omega) (show lk mem i=some (intRow l) from hk' _ hq) (fun b h _=>h)
   | cf N x c=>exact hs.cfg (hk' _ hq) (fun b h _=>h)
   | st M y s=>exact hs.st (hk' _ hq) (fun b h _=>h)
   | vl u=>exact hk' _ hq
  ·rintro e w' ⟨v,hR,hpl,rfl,hb⟩
   rw[e2] at hR
   exact⟨v,mem,nx,ρ,by rw[(pure_den hpl ρ 0).1],hK v hR,hs.later hb,(pure_den hpl ρ nx).2,ExtS.refl _ _⟩⟩
theorem dt_nil {ps:List PW} (h:ps.map PW.dt=[]):ps=[]:=List.map_eq_nil_iff.1 h
theorem dt_c {ps:List PW} {c:Cfg} {r:List DT} (h:ps.map PW.dt=.cf c::r):∃ x qs,ps=.cf x c::qs∧qs.map PW.dt=r:=by
 cases ps with
 | nil=>cases h
 | cons p qs=>cases p<;>simp[PW.dt] at h<;>obtain⟨rfl,h⟩:=h;exact⟨_,qs,rfl,h⟩
theorem dt_s {ps:List PW} {s:St} {r:List DT} (h:ps.map PW.dt=.st s::r):∃ y qs,ps=.st y s::qs∧qs.map PW.dt=r:=by
 cases ps with
 | nil=>cases h
 | cons p qs=>cases p<;>simp[PW.dt] at h<;>obtain⟨rfl,h⟩:=h;exact⟨_,qs,rfl,h⟩
theorem dt_v {ps:List PW} {u:Value} {r:List DT} (h:ps.map PW.dt=.vl u::r):∃ qs,ps=.vl u::qs∧qs.map PW.dt=r:=by
 cases ps with
 | nil=>cases h
 | cons p qs=>cases p<;>simp[PW.dt] at h<;>obtain⟨rfl,h⟩:=h;exact⟨qs,rfl,h⟩
def noA:StA:=⟨none,0,none,0⟩
def noS:St:={ tick:=0,count:=0,tenants:=[],cells:=[],proven:=0,evac:=0,low:=0,high:=0 }
theorem noS_ok (w:World) (S:Nat→Prop):StOk w S noA noS:=⟨fun h=>absurd rfl h,fun h=>absurd rfl h⟩
/-! Functions that are handed lists of numbers. -/
end Go.Proofs.YtnnpgbleacapfaaGreat
