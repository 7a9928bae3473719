import Derived.Test.YtbmlgcjoeeejbaaPb06
namespace Go.Proofs.Ytbmlgcjoeeejbaa
open Go.RowKit
set_option linter.unusedSimpArgs false
set_option linter.unusedVariables false
def bodyOf (f:Func):Code:=match f.body with | some c=>c | none=>.skip
abbrev ptr (i:Nat):Value:=.pointer (some ⟨i,0,none⟩)
abbrev slc (i n c:Nat):Value:=.slice (some ⟨i,0,none⟩) n c
abbrev intRow (l:List Int):ABlk:=.row 3 1 l.length (fun j=>intC (l.getD j 0))
abbrev tapeB (r n cap:Nat) (k:Int):ABlk:=.box 98 [slc r n cap,.int .i64 k]
theorem wrapi {n:Int} (h:-9223372036854775808≤n∧n≤9223372036854775807):IntKind.i64.wrap n=n:=by rw[IntKind.wrap_i64];omega
theorem CSound.val {P : Program} {f : FuncId} {ct : CT} (ent : (P.funcs[f]?).map (fun fn => (fn.name == "runtime.NumGoroutine", fn.body.isNone)) = some (false, false))
  (h:∀ (vs:List Value) (mem:AM) (nx:Nat) (K:Value→AM→Nat→Prop),ct vs mem nx K→∃ v,K v mem nx∧plain1 v∧atom v=true∧∀ (ρ:Nat→Pl) (w:World),Calls P f (vs.map (den ρ)).toArray w fun e w'=>e=.returned v∧Below w.heap.size w w'):CSound P f ct:=
 ⟨ent,fun {C ρ fr mem nx a w vs K} hc hs hv=>by
  obtain⟨v,hK,hp,ha,hcall⟩:=h vs mem nx K hc
  refine (hcall ρ w).mono fun e w' ⟨he,hb⟩=>?_
  have hd:den ρ v=v:=by rw[atom_den ha,den1_plain hp]
  exact⟨v,mem,nx,ρ,by rw[hd];exact he,hK,hs.later hb,by rw[atom_ok ha];exact ok1_plain hp,ExtS.refl _ _⟩⟩
def ctMod:CT:=fun vs mem nx K=>∃ v n,vs=[.int .i64 v,.int .i64 n]∧(1≤n∧n≤2147483648)∧K (.int .i64 (v % n)) mem nx
theorem modOk:CSound Try.prog 9 ctMod:=CSound.val (by kernel_rfl) (by
 rintro vs mem nx K ⟨v,n,rfl,hn,hK⟩
 refine⟨_,hK,trivial,rfl,fun ρ w=>?_⟩
 refine (mkMod_any v n w hn.1 hn.2).mono ?_
 rintro e w' ⟨rfl,rfl⟩
 exact⟨rfl,Below.refl _ _⟩)
theorem ft_cons {P:Program} {f:FuncId} {ct:CT} {r:FT} (h:CSound P f ct) (hr:FTok P r):FTok P ((f,ct)::r):=fun g c hl=>by
 rcases lk_cons hl with⟨rfl,rfl⟩ | ⟨_,hl⟩
 ·exact h
 ·exact hr g c hl
theorem ft_nil {P:Program}:FTok P []:=fun g c hl=>by simp[lk] at hl
structure TpAt (w:World) (g:Nat) (A:Option Addr) (cap:Nat) (zs:List Int) (k:Int):Prop where
 row:Rd w (fun b=>b≠g∧b<w.heap.size) A (flat intC zs)
 blk:Blk w g 98 #[.slice A zs.length cap,.int .i64 k]
abbrev Adv (zs:List Int) (k k':Int):Prop:=k≤k'∧k'≤k+1∧(zs.length≠0→k'=k+1)
def NextR (zs:List Int) (n k r k':Int):Prop:=(0≤r∧r<n)∧Adv zs k k'
def nextF:FT:=[(9,ctMod)]
theorem nextFok:FTok Try.prog nextF:=ft_cons modOk ft_nil
def nextD:List (Nat×DQ):=[
 (3,{ k:=16,L:=[0,1],pre:=[(0,false),(1,false),(2,false),(3,false),(4,false),(5,false),(6,false),(7,false),(8,false),(9,false),(10,false),(11,false),(12,false),(13,true),(14,true),(15,false)] }),
 (4,{ k:=10,L:=[0,1],pre:=[(0,false),(1,false),(2,false),(3,false),(4,false),(5,false),(6,false),(7,false),(8,false),(9,true)] })]
theorem next_sx (cap:Nat) (zs:List Int) (k n:Int) (hz:zs.length≤400) (hk:0≤k∧k≤1000000) (hn:1≤n∧n≤1000000) :
  sx tt nextF nextD (bodyOf Try.f32) (argF 0 [ptr 0,.int .i64 n]) [(0,tapeB 1 zs.length cap k),(1,intRow zs)] 2
   (endx tt [.tmp 4] fun v mem' _=>∃ k',(∃ n' r,[Value.int .i64 n]=[.int .i64 n']∧v=.int .i64 r∧NextR zs n' k r k')∧(plain1 v∧atom v=true)∧lk mem' 0=some (tapeB 1 zs.length cap k')):=by
 refine⟨fun h0=>?_,fun h0=>?_⟩
 ·have hz0:(zs.length:Int)=0:=by simpa using h0
  exact⟨k,⟨n,0,rfl,rfl,⟨by omega,by omega⟩,by omega,by omega,by omega⟩,⟨trivial,rfl⟩,rfl⟩
 ·have hpos:(zs.length:Int)≠0:=by simpa using h0
  refine⟨⟨rfl,hpos⟩,⟨rfl,rfl,trivial⟩,⟨Nat.le_refl _,?i1,?i2⟩,⟨rfl,rfl,trivial⟩,⟨rfl,hpos⟩,⟨rfl,rfl,trivial⟩,?rest⟩
  case i1=>exact Int.tmod_nonneg _ hk.1
  case i2=>exact Int.tmod_lt_of_pos _ (by omega)
  refine⟨_,_,rfl,by decide,?_⟩
  refine⟨_,_,rfl,by omega,?_⟩
  refine⟨k+1,⟨n,_,rfl,rfl,⟨Int.emod_nonneg _ (by omega),Int.emod_lt_of_pos _ (by omega)⟩,by omega,by omega,fun _=>rfl⟩,⟨trivial,rfl⟩,?_⟩
  show some (tapeB 1 zs.length cap (IntKind.i64.wrap (k+1)))=_
  rw[wrapi (by omega)]
theorem tape_calls {f:FuncId} {fn:Func} {F:FT} {D:List (Nat×DQ)} (hF:FTok Try.prog F) (hf:(Try.prog).funcs[f]?=some fn) (hb:fn.body=some (bodyOf fn)) (hcode:codeB fn.ntmps D (bodyOf fn)=true) {args:List Value} (hn:Nat.ble (args.length+1) fn.ntmps=true) (hargs:∀ v ∈ args,plain1 v∧atom v=true)
  (g:Nat) (A:Option Addr) (cap:Nat) (zs:List Int) (k:Int) (w:World) (ht:TpAt w g A cap zs k) {R:Value→Int→Prop}
  (h:sx tt F D (bodyOf fn) (argF 0 (ptr 0::args)) [(0,tapeB 1 zs.length cap k),(1,intRow zs)] 2 (endx tt fn.results.toList fun v mem' _=>∃ k',R v k'∧(plain1 v∧atom v=true)∧lk mem' 0=some (tapeB 1 zs.length cap k'))) :
  Calls Try.prog f (.pointer (some ⟨g,0,none⟩)::args).toArray w fun e w'=>∃ v k',R v k'∧(plain1 v∧atom v=true)∧e=.returned v∧TpAt w' g A cap zs k'∧w.grownBy w' (some g):=by
 let ρ:Nat→Pl:=fun j=>match j with | 0=>⟨some ⟨g,0,none⟩,0,0,false,noSub⟩ | _=>⟨A,1,zs.length,false,noSub⟩
 have hrow:∀ C nx,BlkOk C ρ nx 1 w (intRow zs):=fun C nx=>row_of_rd (enc:=intC) (sz:=1) (fun _=>rfl) (by omega) (fun x v hv=>by simp[intC] at hv;subst hv;trivial) 0 rfl ht.row (fun b hb=>hb.2)
 have hm:=MemAt.one (ρ:=ρ) (nx:=2) (nt:=fn.ntmps) (w:=w) (mem:=[(1,intRow zs)]) (g:=g) (i:=0) (t:=98) (cs:=[slc 1 zs.length cap,.int .i64 k]) trivial (by omega) rfl
  ⟨g,rfl,by
   have:=ht.blk
   simpa [den1,dA_whole,dS_whole,ρ] using this,.inr (by simp),fun v hv=>by
    simp at hv
    rcases hv with rfl | rfl
    ·exact⟨Nat.lt_succ_self 1,rfl⟩
    ·trivial⟩ ⟨⟨by omega,rfl,hrow _ _⟩,trivial⟩ (fun j t sz n el hj=>by
   rcases lk_cons hj with⟨rfl,q⟩ | ⟨_,q⟩
   ·cases q
    by_cases h0:zs.length=0
    ·exact .inl h0
    ·obtain⟨b,off,x,hA,hb,-,-⟩:=ht.row.row (enc:=intC) (sz:=1) (fun _=>rfl) (by omega) (k:=0) (by omega)
     refine .inr ?_
     subst hA
     simp[bno,ρ]
     exact hb.1
   ·simp[lk] at q)
 have hden:∀ v ∈ args,den ρ v=v:=fun v hv=>by rw[atom_den (hargs v hv).2,den1_plain (hargs v hv).1]
 have hargs2:(ptr 0::args).map (den ρ)=.pointer (some ⟨g,0,none⟩)::args:=by
  rw[List.map_cons]
  refine congr (congrArg List.cons rfl) ?_
  conv=>rhs;rw[← List.map_id args]
  exact List.map_congr_left fun v hv=>hden v hv
 rw[← hargs2]
 refine (calls_sx ttOk hF mixed hf hb hcode (vs:=ptr 0::args) hn ⟨rfl,rfl⟩ rfl hm (fun v hv=>?_) h).mono ?_
 ·rcases List.mem_cons.1 hv with rfl | hv
  ·exact⟨⟨Nat.zero_lt_succ 1,rfl⟩,⟨g,0,rfl⟩,fun k hk=>by cases hk⟩
  ·rw[atom_ok (hargs v hv).2];exact ok1_plain (hargs v hv).1
 ·rintro e w' ⟨v,mem',nx',ρ',rfl,⟨k',hr,hpl,hlk⟩,-,hm'⟩
  have e0:ρ' 0=ρ 0:=hm'.low 0 (Nat.zero_lt_succ 1)
  have e1:ρ' 1=ρ 1:=hm'.low 1 (Nat.lt_succ_self 1)
  obtain⟨g',hA,hb,-,-⟩:=hm'.blk 0 _ hlk
  rw[e0] at hA
  cases hA
  have hgr:w.grownBy w' (some g):=⟨hm'.rest.os,hm'.rest.tape,hm'.rest.output,hm'.rest.size,fun b hlt hne=>hm'.rest.block b hlt (by simp;intro q;exact hne (by rw[q]))⟩
  refine⟨v,k',hr,hpl,by rw[atom_den hpl.2,den1_plain hpl.1],⟨?_,?_⟩,hgr⟩
  ·exact (ht.row.keep fun b hb=>hgr.block b hb.2 (by intro q;injection q with q;exact hb.1 q)).more fun b hb=>⟨hb.1,Nat.lt_of_lt_of_le hb.2 hgr.size⟩
  ·simpa [den1,dA_whole,dS_whole,e1,ρ] using hb
theorem Sat.grownBox {C:Ctx} {ρ:Nat→Pl} {fr:AF} {mem:AM} {nx:Nat} {a:Act} {w w':World} (h:Sat C ρ fr mem nx a w) {i g:Nat} {t t':TypeId} {cs cs':List Value} (hi:lk mem i=some (.box t cs)) (hA:(ρ i).A=some ⟨g,0,none⟩) (hg:w.grownBy w' (some g))
  (hb:Blk w' g t' (cs'.map (den1 ρ)).toArray) (hcs:∀ v ∈ cs',ok1 ρ nx v):Sat C ρ fr ((i,.box t' cs')::mem) nx a w':=by
 have hm:MemAt (Ctx.of w ρ nx [i] 0) ρ [(i,.box t' cs')] nx w':=by
  refine⟨fun j b hj=>?_,fun j b hj=>?_,fun j k b b' hne hj hk=>?_,Nat.le_refl _,fun _ _=>rfl,⟨hg.os,hg.tape,hg.output,hg.size,fun b hlt hn=>hg.block b hlt (by
   intro q
   injection q with q
   subst q
   exact hn (List.mem_filterMap.2 ⟨i,by simp,by simp[bno,hA]⟩))⟩⟩
  ·rcases lk_cons hj with⟨rfl,rfl⟩ | ⟨_,q⟩
   ·exact h.mlt _ _ (lk_app hi)
   ·simp[lk] at q
  ·rcases lk_cons hj with⟨rfl,rfl⟩ | ⟨_,q⟩
   ·exact⟨g,hA,hb,.inr (List.mem_filterMap.2 ⟨i,by simp,by simp[bno,hA]⟩),hcs⟩
   ·simp[lk] at q
  ·rcases lk_cons hj with⟨rfl,rfl⟩ | ⟨_,q⟩
   ·rcases lk_cons hk with⟨rfl,rfl⟩ | ⟨_,q⟩
    ·exact absurd rfl hne
    ·simp[lk] at q
   ·simp[lk] at q
 refine h.after (keep:=[(i,.box t' cs')]) hm (fun j hj=>by simp at hj;subst hj;exact⟨t,cs,hi⟩) (fun j b hj=>⟨hj,?_⟩) (fun j hj=>by simp at hj;subst hj;exact⟨t',cs',lk_same _ _ _⟩) (fun j t sz n el _ hj=>?_)
 ·rcases lk_cons hj with⟨rfl,rfl⟩ | ⟨_,q⟩
  ·exact .inl (by simp)
  ·simp[lk] at q
 ·rcases lk_cons hj with⟨_,q⟩ | ⟨_,q⟩
  ·cases q
  ·simp[lk] at q
theorem Sat.tape {C:Ctx} {ρ:Nat→Pl} {fr:AF} {mem:AM} {nx:Nat} {a:Act} {w:World} (h:Sat C ρ fr mem nx a w) {i r cap:Nat} {zs:List Int} {k:Int} (hi:lk mem i=some (tapeB r zs.length cap k)) (hr:lk mem r=some (intRow zs)) :
  ∃ g,(ρ i).A=some ⟨g,0,none⟩∧TpAt w g (ρ r).A cap zs k∧ok1 ρ nx (slc r zs.length cap):=by
 obtain⟨g,hA,hb,-,hcs⟩:=h.blk i _ (lk_app hi)
 have hne:i≠r:=by rintro rfl;rw[hi] at hr;cases hr
 have hap:=h.sep i r _ _ hne (lk_app hi) (lk_app hr)
 refine⟨g,hA,⟨rd_of_row (enc:=intC) (sz:=1) (fun _=>rfl) (by omega) (h.blk r _ (lk_app hr)) fun hl b off hAr hlt=>⟨?_,hlt⟩,by simpa [den1,dA_whole,dS_whole] using hb⟩,hcs _ (by simp)⟩
 rintro rfl
 rcases hap with h0 | h0
 ·exact hl h0
 ·exact h0 (by simp[bno,hA,hAr])
def ctTape (R:List Int→List Value→Int→Value→Int→Prop) (pre:List Value→Int→Prop):CT:=fun vs mem nx K=>∃ i r cap zs k args,vs=ptr i::args∧(lk mem i=some (tapeB r zs.length cap k)∧lk mem r=some (intRow zs))∧(zs.length≤400∧0≤k∧k≤1000000)∧pre args k∧∀ z k',R zs args k z k'→K z ((i,tapeB r zs.length cap k')::mem) nx
theorem tapeOk {f : FuncId} {R : List Int → List Value → Int → Value → Int → Prop} {pre : List Value → Int → Prop} (ent : ((Try.prog).funcs[f]?).map (fun fn => (fn.name == "runtime.NumGoroutine", fn.body.isNone)) = some (false, false))
  (hpre:∀ args k,pre args k→∀ v ∈ args,plain1 v∧atom v=true)
  (h:∀ args g A cap zs k w,zs.length≤400→0≤k→k≤1000000→pre args k→TpAt w g A cap zs k→Calls Try.prog f (.pointer (some ⟨g,0,none⟩)::args).toArray w fun e w'=>∃ v k',R zs args k v k'∧(plain1 v∧atom v=true)∧e=.returned v∧TpAt w' g A cap zs k'∧w.grownBy w' (some g)):CSound Try.prog f (ctTape R pre):=
 ⟨ent,fun {C ρ fr mem nx a w vs K} hc hs hv=>by
  obtain⟨i,r,cap,zs,k,args,rfl,⟨hi,hr⟩,⟨hz,hk0,hk1⟩,hp,hK⟩:=hc
  obtain⟨g,hA,ht,hok⟩:=hs.tape hi hr
  have hargs:=hpre args k hp
  have hvs:(ptr i::args).map (den ρ)=.pointer (some ⟨g,0,none⟩)::args:=by
   rw[List.map_cons]
   refine congr (congrArg List.cons ?_) ?_
   ·simp[den,den2,den1,dA_whole,dS_whole,hA]
   ·conv=>rhs;rw[← List.map_id args]
    exact List.map_congr_left fun v hv=>by rw[atom_den (hargs v hv).2,den1_plain (hargs v hv).1];rfl
  rw[hvs]
  refine (h args g (ρ r).A cap zs k w hz hk0 hk1 hp ht).mono ?_
  rintro e w' ⟨v,k',hR,hpl,rfl,ht',hg⟩
  refine⟨v,_,nx,ρ,by rw[atom_den hpl.2,den1_plain hpl.1],hK v k' hR,hs.grownBox (cs':=[slc r zs.length cap,.int .i64 k']) hi hA hg ?_ ?_,by rw[atom_ok hpl.2];exact ok1_plain hpl.1,ExtS.refl _ _⟩
  ·simpa [den1,dA_whole,dS_whole] using ht'.blk
  ·intro u hu
   simp at hu
   rcases hu with rfl | rfl
   ·exact hok
   ·trivial⟩
def preInt (lo hi:Int) (args:List Value) (k:Int):Prop:=∃ n,args=[.int .i64 n]∧lo≤n∧n≤hi
theorem preInt_plain {lo hi:Int} (args:List Value) (k:Int) (h:preInt lo hi args k):∀ v ∈ args,plain1 v∧atom v=true:=by
 obtain⟨n,rfl,-⟩:=h
 intro v hv
 simp at hv
 subst hv
 exact⟨trivial,rfl⟩
def ctNext:CT:=ctTape (fun zs args k z k'=>∃ n r,args=[.int .i64 n]∧z=.int .i64 r∧NextR zs n k r k') (preInt 1 1000000)
theorem nextOk:CSound Try.prog 32 ctNext:=tapeOk (by kernel_rfl) preInt_plain (by
 rintro args g A cap zs k w hz hk0 hk1 ⟨n,rfl,hn⟩ ht
 refine tape_calls nextFok Try.func32 rfl (D:=nextD) (by kernel_rfl) rfl (preInt_plain _ k ⟨n,rfl,hn⟩) g A cap zs k w ht (R:=fun z k'=>∃ n' r,[Value.int .i64 n]=[.int .i64 n']∧z=.int .i64 r∧NextR zs n' k r k') ?_
 exact (next_sx cap zs k n hz ⟨hk0,hk1⟩ hn))
def tpF:FT:=[(32,ctNext)]
theorem tpFok:FTok Try.prog tpF:=ft_cons nextOk ft_nil
def ctYes:CT:=ctTape (fun zs args k z k'=>∃ b,z=.bool b∧Adv zs k k') (preInt 1 1000000)
theorem yesOk:CSound Try.prog 34 ctYes:=tapeOk (by kernel_rfl) preInt_plain (by
 rintro args g A cap zs k w hz hk0 hk1 ⟨n,rfl,hn⟩ ht
 refine tape_calls tpFok Try.func34 rfl (D:=[]) (by kernel_rfl) rfl (preInt_plain _ k ⟨n,rfl,hn⟩) g A cap zs k w ht (R:=fun z k'=>∃ b,z=.bool b∧Adv zs k k') ?_
 refine⟨0,1,cap,zs,k,_,rfl,⟨rfl,rfl⟩,⟨hz,hk0,hk1⟩,⟨n,rfl,hn⟩,?_⟩
 rintro z k' ⟨n',r,hnn,rfl,hr⟩
 exact⟨k',⟨_,rfl,hr.2⟩,⟨trivial,rfl⟩,rfl⟩)
def preRange (args:List Value) (k:Int):Prop:=∃ lo hi,args=[.int .i64 lo,.int .i64 hi]∧-100000≤lo∧lo≤hi∧hi≤100000
theorem preRange_plain (args:List Value) (k:Int) (h:preRange args k):∀ v ∈ args,plain1 v∧atom v=true:=by
 obtain⟨n,m,rfl,-⟩:=h
 intro v hv
 simp at hv
 rcases hv with rfl | rfl
 ·exact⟨trivial,rfl⟩
 ·exact⟨trivial,rfl⟩
def RangeR (zs:List Int) (args:List Value) (k:Int) (z:Value) (k':Int):Prop:=∃ lo hi r,args=[.int .i64 lo,.int .i64 hi]∧z=.int .i64 r∧(lo≤r∧r≤hi)∧Adv zs k k'
def ctRange:CT:=ctTape RangeR preRange
theorem rangeOk:CSound Try.prog 33 ctRange:=tapeOk (by kernel_rfl) preRange_plain (by
 rintro args g A cap zs k w hz hk0 hk1 ⟨lo,hi,rfl,h1,h2,h3⟩ ht
 refine tape_calls tpFok Try.func33 rfl (D:=[]) (by kernel_rfl) rfl (preRange_plain _ k ⟨lo,hi,rfl,h1,h2,h3⟩) g A cap zs k w ht (R:=fun z k'=>RangeR zs _ k z k') ?_
 refine⟨0,1,cap,zs,k,_,rfl,⟨rfl,rfl⟩,⟨hz,hk0,hk1⟩,⟨_,rfl,?_⟩,?_⟩
 ·rw[wrapi (n:=hi-lo) (by omega),wrapi (by omega)];omega
 ·rintro z k' ⟨n',r,hnn,rfl,hr⟩
  simp only[List.cons.injEq,Value.int.injEq,and_true,true_and] at hnn
  rw[wrapi (n:=hi-lo) (by omega),wrapi (by omega)] at hnn
  subst hnn
  have hr1:=hr.1
  refine⟨k',⟨lo,hi,IntKind.i64.wrap (lo+r),rfl,rfl,?_,hr.2⟩,⟨trivial,rfl⟩,rfl⟩
  rw[wrapi (by omega)];omega)
theorem flat_intH (l:List Int):flat intC l=l.map (Value.int .i64):=by
 induction l with
 | nil=>rfl
 | cons a l ih=>simp only[flat,List.flatMap_cons,intC] at ih ⊢;simp[ih]
def ctTapeNew:CT:=fun vs mem nx K=>∃ r cap zs,vs=[slc r (zs:List Int).length cap]∧lk mem r=some (intRow zs)∧zs.length≤400∧K (ptr nx) ((nx,tapeB r zs.length cap 0)::mem) (nx+1)
theorem tapeNewOk:CSound Try.prog 30 ctTapeNew:=⟨by kernel_rfl,fun {C ρ fr mem nx a w vs K} hc hs hv=>by
 obtain⟨r,cap,zs,rfl,hr,hz,hK⟩:=hc
 have hrd:=rd_of_row (enc:=intC) (sz:=1) (fun _=>rfl) (by omega) (hs.blk r _ (lk_app hr)) (S:=(·<w.heap.size)) (fun _ b off _ hlt=>hlt)
 rw[flat_intH] at hrd
 have hvs:[slc r zs.length cap].map (den ρ)=[.slice (ρ r).A zs.length cap]:=by simp[den,den2,den1,dA_whole,dS_whole]
 rw[hvs]
 refine (mkTape_any (ρ r).A cap zs w hz hrd).mono ?_
 rintro e w' ⟨rfl,ht,hb⟩
 obtain⟨e1,e2⟩:=ptr_new (ρ:=ρ) (nx:=nx) w.heap.size
 have hrn:=hs.mlt r _ (lk_app hr)
 have hok:ok1 (setPl ρ nx ⟨some ⟨w.heap.size,0,none⟩,0,0,false,noSub⟩) (nx+1) (slc r zs.length cap):=⟨by have:=hrn.1;exact Nat.lt_succ_of_lt this,by rw[setPl_lt ρ _ hrn.1];exact hrn.2⟩
 refine⟨_,_,_,setPl ρ nx ⟨some ⟨w.heap.size,0,none⟩,0,0,false,noSub⟩,by rw[e1],hK,hs.add hb ⟨w.heap.size,by rw[setPl_same],?_,.inl hs.rest.size,?_⟩ (fun g hg=>by simp at hg;omega) rfl,e2,ExtS.set _ _ _⟩
 ·have hA:(setPl ρ nx ⟨some ⟨w.heap.size,0,none⟩,0,0,false,noSub⟩ r).A=(ρ r).A:=by rw[setPl_lt ρ _ hrn.1]
  simpa [den1,dA_whole,dS_whole,hA] using ht.blk
 ·intro u hu
  simp at hu
  rcases hu with rfl | rfl
  ·exact hok
  ·trivial⟩
/-! Configurations and states in the abstract memory. -/
structure CN where
 z:Nat
 c:Nat
 t:Nat
 v:Nat
 r:Nat
 o:Nat
 g:Nat
structure SN where
 t:Nat
 c:Nat
 g:Nat
structure CfgK where
 cz:Nat
 cc:Nat
 ct:Nat
 cv:Nat
 cr:Nat
 co:Nat
structure StK where
 ct:Nat
 cc:Nat
abbrev cfgV (n:CN) (x:CfgK) (c:Cfg):Value:=.agg #[.int .i64 c.regions,slc n.z c.zones.length x.cz,slc n.c c.cells.length x.cc,slc n.t c.tenants.length x.ct,slc n.v c.versions.length x.cv,slc n.r c.replicas.length x.cr,slc n.o c.observers.length x.co,.int .i64 c.blast,.int .i64 c.lease,.int .i64 c.bake]
abbrev stV (n:SN) (y:StK) (s:St):Value:=.agg #[.int .i64 s.tick,.int .i64 s.count,slc n.t s.tenants.length y.ct,slc n.c s.cells.length y.cc,.int .i64 s.proven,.int .i64 s.evac,.int .i64 s.low,.int .i64 s.high]
abbrev entV' (e:Ent):Value:=.agg #[.int .i64 e.kind,.int .i64 e.tick,.int .i64 e.tenant,.int .i64 e.cell,.int .i64 e.other,.int .i64 e.epoch,.int .i64 e.since,.int .i64 e.till,.int .i64 e.n]
abbrev rowOfL {α:Type} (t:TypeId) (sz:Nat) (enc:α→List Value) (d:α) (l:List α):ABlk:=.row t sz l.length (fun k=>enc (l.getD k d))
abbrev cfgM (n:CN) (c:Cfg):AM:=[(n.z,rowOfL n.g 1 intC 0 c.zones),(n.c,rowOfL n.g 2 pairC (0,0) c.cells),(n.t,rowOfL n.g 7 tenC default c.tenants),(n.v,rowOfL n.g 2 pairC (0,0) c.versions),(n.r,rowOfL n.g 1 intC 0 c.replicas),(n.o,rowOfL n.g 1 intC 0 c.observers)]
abbrev stM (n:SN) (s:St):AM:=[(n.t,rowOfL n.g 12 tsC default s.tenants),(n.c,rowOfL n.g 4 csC default s.cells)]
def cfgX (ρ:Nat→Pl) (n:CN) (x:CfgK):CfgA:=⟨(ρ n.z).A,x.cz,(ρ n.c).A,x.cc,(ρ n.t).A,x.ct,(ρ n.v).A,x.cv,(ρ n.r).A,x.cr,(ρ n.o).A,x.co⟩
def stX (ρ:Nat→Pl) (n:SN) (y:StK):StA:=⟨(ρ n.t).A,y.ct,(ρ n.c).A,y.cc⟩
theorem den_cfg (ρ:Nat→Pl) (n:CN) (x:CfgK) (c:Cfg):den ρ (cfgV n x c)=.agg (cfgC (cfgX ρ n x) c):=by simp[den,den2,den1,dA_whole,dS_whole,cfgC,cfgX]
theorem den_st (ρ:Nat→Pl) (n:SN) (y:StK) (s:St):den ρ (stV n y s)=.agg (stC (stX ρ n y) s):=by simp[den,den2,den1,dA_whole,dS_whole,stC,stX]
theorem intC_plain:∀ x,∀ v ∈ intC x,plain1 v:=fun x v hv=>by simp[intC] at hv;subst hv;trivial
theorem pairC_plain:∀ x,∀ v ∈ pairC x,plain1 v:=fun x v hv=>by simp[pairC] at hv;rcases hv with rfl | rfl<;>trivial
theorem tenC_plain:∀ x,∀ v ∈ tenC x,plain1 v:=fun x v hv=>by simp[tenC] at hv;rcases hv with rfl | rfl | rfl | rfl | rfl | rfl | rfl<;>trivial
theorem tsC_plain:∀ x,∀ v ∈ tsC x,plain1 v:=fun x v hv=>by simp[tsC] at hv;rcases hv with rfl | rfl | rfl | rfl | rfl | rfl | rfl | rfl | rfl | rfl | rfl | rfl<;>trivial
theorem csC_plain:∀ x,∀ v ∈ csC x,plain1 v:=fun x v hv=>by simp[csC] at hv;rcases hv with rfl | rfl | rfl | rfl<;>trivial
theorem entC_plain:∀ x,∀ v ∈ entC x,plain1 v:=fun x v hv=>by simp[entC] at hv;rcases hv with rfl | rfl | rfl | rfl | rfl | rfl | rfl | rfl | rfl<;>trivial
section
variable {C:Ctx} {ρ:Nat→Pl} {fr:AF} {mem:AM} {nx:Nat} {a:Act} {w:World}
structure CfgPl (ρ:Nat→Pl) (n:CN) (x:CfgA) (c:Cfg):Prop where
 z:ρ n.z=⟨x.az,1,c.zones.length,false,noSub⟩
 cc:ρ n.c=⟨x.ac,2,c.cells.length,false,noSub⟩
 tt:ρ n.t=⟨x.at_,7,c.tenants.length,false,noSub⟩
 v:ρ n.v=⟨x.av,2,c.versions.length,false,noSub⟩
 r:ρ n.r=⟨x.ar,1,c.replicas.length,false,noSub⟩
 o:ρ n.o=⟨x.ao,1,c.observers.length,false,noSub⟩
structure StPl (ρ:Nat→Pl) (n:SN) (y:StA) (s:St):Prop where
 t:ρ n.t=⟨y.at_,12,s.tenants.length,false,noSub⟩
 c:ρ n.c=⟨y.ac,4,s.cells.length,false,noSub⟩
theorem own_of_fr {t:TypeId} (h:frT t=false):ownT t=false:=by
 cases ho:ownT t with
 | false=>rfl
 | true=>have:=frT_own ho;rw[h] at this;cases this
theorem cfg_blks {n:CN} {x:CfgA} {c:Cfg} {S:Nat→Prop} (hp:CfgPl ρ n x c) (hc:CfgOk w S x c) (hS:∀ b,S b→b<w.heap.size) (hn:n.z<nx∧n.c<nx∧n.t<nx∧n.v<nx∧n.r<nx∧n.o<nx) {r:AM} (hr:blksOk C ρ nx w r) (hg:frT n.g=false:=by rfl):blksOk C ρ nx w (cfgM n c++r):=
 ⟨⟨hn.1,by rw[hp.z],row_of_rd (enc:=intC) (sz:=1) (fun _=>rfl) (by omega) intC_plain 0 hp.z hc.zones hS (own_of_fr hg) (fun h=>by rw[hg] at h;cases h)⟩,⟨hn.2.1,by rw[hp.cc],row_of_rd (enc:=pairC) (sz:=2) (fun _=>rfl) (by omega) pairC_plain (0,0) hp.cc hc.cells hS (own_of_fr hg) (fun h=>by rw[hg] at h;cases h)⟩,
  ⟨hn.2.2.1,by rw[hp.tt],row_of_rd (enc:=tenC) (sz:=7) (fun _=>rfl) (by omega) tenC_plain default hp.tt hc.tenants hS (own_of_fr hg) (fun h=>by rw[hg] at h;cases h)⟩,⟨hn.2.2.2.1,by rw[hp.v],row_of_rd (enc:=pairC) (sz:=2) (fun _=>rfl) (by omega) pairC_plain (0,0) hp.v hc.versions hS (own_of_fr hg) (fun h=>by rw[hg] at h;cases h)⟩,
  ⟨hn.2.2.2.2.1,by rw[hp.r],row_of_rd (enc:=intC) (sz:=1) (fun _=>rfl) (by omega) intC_plain 0 hp.r hc.replicas hS (own_of_fr hg) (fun h=>by rw[hg] at h;cases h)⟩,⟨hn.2.2.2.2.2,by rw[hp.o],row_of_rd (enc:=intC) (sz:=1) (fun _=>rfl) (by omega) intC_plain 0 hp.o hc.observers hS (own_of_fr hg) (fun h=>by rw[hg] at h;cases h)⟩,hr⟩
theorem st_blks {n:SN} {y:StA} {s:St} {S:Nat→Prop} (hp:StPl ρ n y s) (hc:StOk w S y s) (hS:∀ b,S b→b<w.heap.size) (hn:n.t<nx∧n.c<nx) {r:AM} (hr:blksOk C ρ nx w r) (hg:frT n.g=false:=by rfl):blksOk C ρ nx w (stM n s++r):=
 ⟨⟨hn.1,by rw[hp.t],row_of_rd (enc:=tsC) (sz:=12) (fun _=>rfl) (by omega) tsC_plain default hp.t hc.tenants hS (own_of_fr hg) (fun h=>by rw[hg] at h;cases h)⟩,⟨hn.2,by rw[hp.c],row_of_rd (enc:=csC) (sz:=4) (fun _=>rfl) (by omega) csC_plain default hp.c hc.cells hS (own_of_fr hg) (fun h=>by rw[hg] at h;cases h)⟩,hr⟩
theorem Sat.rd (h:Sat C ρ fr mem nx a w) {α:Type} {enc:α→List Value} {sz:Nat} (hsz:∀ x,(enc x).length=sz) (hpos:0<sz) {l:List α} {d:α} {i:Nat} {t:TypeId} (hi:lk mem i=some (rowOfL t sz enc d l)) {S:Nat→Prop}
  (hS:∀ b,b<w.heap.size→(∀ j t cs,lk mem j=some (.box t cs)→bno ρ j≠some b)→S b):Rd w S (ρ i).A (flat enc l):=
 rd_of_row hsz hpos (h.blk i _ (lk_app hi)) fun hl b off hA hlt=>hS b hlt fun j t cs hj he=>by
  have hne:j≠i:=by rintro rfl;rw[hi] at hj;cases hj
  rcases h.sep j i _ _ hne (lk_app hj) (lk_app hi) with h0 | h0
  ·exact hl h0
  ·exact h0 (by rw[he];simp[bno,hA])
theorem Sat.cfg (h:Sat C ρ fr mem nx a w) {n:CN} {x:CfgK} {c:Cfg} (hk:keeps mem (cfgM n c)) {S:Nat→Prop} (hS:∀ b,b<w.heap.size→(∀ j t cs,lk mem j=some (.box t cs)→bno ρ j≠some b)→S b):CfgOk w S (cfgX ρ n x) c:=by
 obtain⟨k1,k2,k3,k4,k5,k6,-⟩:=hk
 exact⟨h.rd (enc:=intC) (sz:=1) (fun _=>rfl) (by omega) k1 hS,h.rd (enc:=pairC) (sz:=2) (fun _=>rfl) (by omega) k2 hS,h.rd (enc:=tenC) (sz:=7) (fun _=>rfl) (by omega) k3 hS,h.rd (enc:=pairC) (sz:=2) (fun _=>rfl) (by omega) k4 hS,h.rd (enc:=intC) (sz:=1) (fun _=>rfl) (by omega) k5 hS,h.rd (enc:=intC) (sz:=1) (fun _=>rfl) (by omega) k6 hS⟩
theorem Sat.st (h:Sat C ρ fr mem nx a w) {n:SN} {y:StK} {s:St} (hk:keeps mem (stM n s)) {S:Nat→Prop} (hS:∀ b,b<w.heap.size→(∀ j t cs,lk mem j=some (.box t cs)→bno ρ j≠some b)→S b):StOk w S (stX ρ n y) s:=by
 obtain⟨k1,k2,-⟩:=hk
 exact⟨h.rd (enc:=tsC) (sz:=12) (fun _=>rfl) (by omega) k1 hS,h.rd (enc:=csC) (sz:=4) (fun _=>rfl) (by omega) k2 hS⟩
end
def pureV:Value→Prop
 | .agg cs=>∀ v ∈ cs,plain1 v
 | .tuple _=>False
 | .func _ _ _=>False
 | v=>plain1 v
theorem pure_den {v:Value} (h:pureV v) (ρ:Nat→Pl) (n:Nat):den ρ v=v∧okV ρ n v:=by
 cases v with
 | agg cs=>
  refine⟨?_,fun u hu=>ok1_plain (h u hu)⟩
  show Value.agg (cs.map (den1 ρ))=_
  congr 1
  conv=>rhs;rw[← Array.map_id cs]
  exact Array.map_congr_left fun u hu=>den1_plain (h u hu)
 | tuple vs=>exact h.elim
 | func f a b=>exact h.elim
 | pointer p=>cases p with
  | none=>exact⟨rfl,trivial⟩
  | some a=>exact h.elim
 | slice p k c=>cases p with
  | none=>exact⟨rfl,trivial⟩
  | some a=>exact h.elim
 | map p=>cases p with
  | none=>exact⟨rfl,trivial⟩
  | some a=>exact h.elim
 | _=>exact⟨rfl,trivial⟩
theorem pure_ent (e:Ent):pureV (entV' e):=fun v hv=>by
 simp at hv
 rcases hv with rfl | rfl | rfl | rfl | rfl | rfl | rfl | rfl | rfl<;>trivial
def HasRow {α:Type} (mem:AM) (r sz:Nat) (enc:α→List Value) (d:α) (l:List α):Prop:=∃ t n el,lk mem r=some (.row t sz n el)∧l.length≤n∧∀ k,k<l.length→el k=enc (l.getD k d)
theorem BlkOk.rdOf {C:Ctx} {ρ:Nat→Pl} {nx i:Nat} {w:World} {t:TypeId} {sz n:Nat} {el:Nat→List Value} {α:Type} {enc:α→List Value} {l:List α} {d:α} (h:BlkOk C ρ nx i w (.row t sz n el)) (hl:l.length≤n) (he:∀ k,k<l.length→el k=enc (l.getD k d)) (hs:∀ x,(enc x).length=sz) (hpos:0<sz) {S:Nat→Prop} (hS:l.length≠0→∀ b off,(ρ i).A=some ⟨b,off,none⟩→RowA C.w0.heap.size w t b off→S b):Rd w S (ρ i).A (flat enc l):=by
 obtain⟨-,-,h3⟩:=h
 intro hne
 have hl0:l.length≠0:=by
  intro h0
  rw[List.eq_nil_of_length_eq_zero h0] at hne
  exact hne rfl
 rcases h3 with h0 | ⟨b,off,hA,hlt,hc⟩
 ·omega
 ·refine⟨b,off,hA,hS hl0 b off hA hlt,fun j v hv=>?_⟩
  obtain⟨x,h1,h2⟩:=flat_at hs hpos l j v hv
  have hk:j / sz<l.length:=(List.getElem?_eq_some_iff.1 h1).1
  have hx:l.getD (j / sz) d=x:=by rw[List.getD_eq_getElem?_getD,h1];rfl
  have:=hc (j / sz) (by omega) (j % sz) v (by rw[he _ hk,hx];exact h2)
  rw[← this]
  congr 2
  have:=Nat.div_add_mod j sz
  rw[Nat.mul_comm] at this
  omega
theorem Sat.hasRd {C:Ctx} {ρ:Nat→Pl} {fr:AF} {mem:AM} {nx:Nat} {a:Act} {w:World} (h:Sat C ρ fr mem nx a w) {α:Type} {enc:α→List Value} {sz:Nat} (hsz:∀ x,(enc x).length=sz) (hpos:0<sz) {l:List α} {d:α} {i:Nat} (hi:HasRow mem i sz enc d l):Rd w (·<w.heap.size) (ρ i).A (flat enc l):=by
 obtain⟨t,n,el,h1,h2,h3⟩:=hi
 exact (h.blk i _ (lk_app h1)).rdOf h2 h3 hsz hpos fun _ b off _ hr=>hr.lt
def NewRow {α:Type} (mem:AM) (r sz:Nat) (enc:α→List Value) (d:α) (l:List α):Prop:=∃ t n el,lk mem r=some (.row t sz n el)∧frT t=true∧l.length≤n∧∀ k,k<l.length→el k=enc (l.getD k d)
theorem MemAt.newRd {C:Ctx} {ρ:Nat→Pl} {mem:AM} {nx:Nat} {w:World} (h:MemAt C ρ mem nx w) {α:Type} {enc:α→List Value} {sz:Nat} (hsz:∀ x,(enc x).length=sz) (hpos:0<sz) {l:List α} {d:α} {i:Nat} (hi:NewRow mem i sz enc d l):Rd w (fun b=>C.w0.heap.size≤b∧b<w.heap.size) (ρ i).A (flat enc l):=by
 obtain⟨t,n,el,h1,h0,h2,h3⟩:=hi
 exact (h.blk i _ h1).rdOf h2 h3 hsz hpos fun _ b off _ hr=>⟨hr.new h0,hr.lt⟩
def SlR {α:Type} (mem:AM) (sz:Nat) (enc:α→List Value) (d:α) (l:List α) (v:Value):Prop:=
 (v=zs0∧l=[])∨∃ r cap t n el,v=slc r l.length cap∧lk mem r=some (.row t sz n el)∧frT t=true∧l.length≤n∧∀ k,k<l.length→el k=enc (l.getD k d)
theorem MemAt.slR {C:Ctx} {ρ:Nat→Pl} {mem:AM} {nx:Nat} {w:World} (h:MemAt C ρ mem nx w) {α:Type} {enc:α→List Value} {sz:Nat} (hsz:∀ x,(enc x).length=sz) (hpos:0<sz) {l:List α} {d:α} {v:Value} (hi:SlR mem sz enc d l v) :
  ∃ A c,den1 ρ v=.slice A l.length c∧Rd w (fun b=>C.w0.heap.size≤b∧b<w.heap.size) A (flat enc l):=by
 rcases hi with⟨rfl,rfl⟩ | ⟨r,cap,t,n,el,rfl,h1,h0,h2,h3⟩
 ·exact⟨none,0,rfl,fun h=>absurd rfl h⟩
 ·exact⟨_,cap,rfl,BlkOk.rdOf (h.blk r _ h1) h2 h3 hsz hpos fun _ b off _ hr=>⟨hr.new h0,hr.lt⟩⟩
theorem HasRow.list {α:Type} {mem:AM} {r sz:Nat} {enc:α→List Value} {d:α} {l:List α} {t:TypeId} (h:lk mem r=some (rowOfL t sz enc d l)):HasRow mem r sz enc d l:=⟨_,_,_,h,Nat.le_refl _,fun k hk=>rfl⟩
section
variable {C:Ctx} {ρ:Nat→Pl} {fr:AF} {mem:AM} {nx:Nat} {a:Act} {w w':World}
def FrB (C:Ctx) (ρ:Nat→Pl) (mem:AM) (B:Nat):Prop:=∀ i b,lk (mem++C.fm) i=some b→∀ g,bwr ρ i b g→g<B
theorem Sat.frB (h:Sat C ρ fr mem nx a w):FrB C ρ mem w.heap.size:=fun i b hi g hg=>(h.blk i b hi).brd_lt (bwr_brd hg)
theorem Sat.addN (h:Sat C ρ fr mem nx a w) {b:ABlk} {p:Pl} (hp:p.res=false) (hok:BlkOk C (setPl ρ nx p) (nx+1) nx w b) (h1:∀ g,bwr (setPl ρ nx p) nx b g→∀ j b',lk (mem++C.fm) j=some b'→¬ brd ρ j b' g) (h2:∀ g,brd (setPl ρ nx p) nx b g→∀ j b',lk (mem++C.fm) j=some b'→¬ bwr ρ j b' g) :
  Sat C (setPl ρ nx p) fr ((nx,b)::mem) (nx+1) a w:=by
 have hr:∀ j,j<nx→setPl ρ nx p j=ρ j:=fun j hj=>setPl_lt ρ p hj
 have h0:=h.ren (ρ':=setPl ρ nx p) (m:=nx+1) (fun j hj _=>hr j hj) (Nat.le_succ _) (fun j hj=>hr j (Nat.lt_of_lt_of_le hj h.n0))
 have key:∀ j b',lk (mem++C.fm) j=some b'→Apart (setPl ρ nx p) nx j b b'∧Apart (setPl ρ nx p) j nx b' b:=by
  intro j b' hj
  have hjl:=hr j (h.mlt j b' hj).1
  exact⟨hok.apart fun g hg hg2=>h1 g hg j b' hj (by rw[← brd_ren hjl];exact hg2),(h0.blk j b' hj).apart fun g hg hg2=>h2 g hg2 j b' hj (by rw[← bwr_ren hjl];exact hg)⟩
 refine⟨h0.fok,h0.sz,h0.dfr,fun i b' hi=>?_,fun i b' hi=>?_,fun i j b1 b2 hne hi hj=>?_,h0.n0,h0.low,h0.rest⟩
 ·rcases lk_cons hi with⟨rfl,rfl⟩ | ⟨hne,hi⟩
  ·exact⟨Nat.lt_succ_self _,by rw[setPl_same];exact hp⟩
  ·exact h0.mlt i b' hi
 ·rcases lk_cons hi with⟨rfl,rfl⟩ | ⟨hne,hi⟩
  ·exact hok
  ·exact h0.blk i b' hi
 ·rcases lk_cons hi with⟨rfl,rfl⟩ | ⟨hni,hi⟩
  ·rcases lk_cons hj with⟨rfl,rfl⟩ | ⟨hnj,hj⟩
   ·exact absurd rfl hne
   ·exact (key j b2 hj).1
  ·rcases lk_cons hj with⟨rfl,rfl⟩ | ⟨hnj,hj⟩
   ·exact (key i b1 hi).2
   ·exact h0.sep i j b1 b2 hne hi hj
theorem Sat.addPlainX (h:Sat C ρ fr mem nx a w) {b:ABlk} {p:Pl} {B:Nat} (hF:FrB C ρ mem B) (ho:∀ g,¬ bwr (setPl ρ nx p) nx b g) (hp:p.res=false) (hok:BlkOk C (setPl ρ nx p) (nx+1) nx w b) (hnew:∀ g,brd (setPl ρ nx p) nx b g→B≤g) :
  Sat C (setPl ρ nx p) fr ((nx,b)::mem) (nx+1) a w∧FrB C (setPl ρ nx p) ((nx,b)::mem) B:=by
 refine⟨h.addN hp hok (fun g hg=>absurd hg (ho g)) (fun g hg j b' hj hw=>by have:=hF j b' hj g hw;have:=hnew g hg;omega),fun i b' hi g hg=>?_⟩
 rcases lk_cons (l:=mem++C.fm) hi with⟨rfl,rfl⟩ | ⟨hne,hi⟩
 ·exact absurd hg (ho g)
 ·rw[bwr_ren (setPl_lt ρ p (h.mlt i b' hi).1)] at hg
  exact hF i b' hi g hg
theorem Sat.addPlain (h:Sat C ρ fr mem nx a w) {t:TypeId} {sz n:Nat} {el:Nat→List Value} {p:Pl} {B:Nat} (hF:FrB C ρ mem B) (ho:ownT t=false) (hp:p.res=false) (hok:BlkOk C (setPl ρ nx p) (nx+1) nx w (.row t sz n el)) (hnew:n=0∨∀ g,p.A.map (·.block)=some g→B≤g) :
  Sat C (setPl ρ nx p) fr ((nx,.row t sz n el)::mem) (nx+1) a w∧FrB C (setPl ρ nx p) ((nx,.row t sz n el)::mem) B:=
 h.addPlainX hF (fun g hg=>by have q:=hg.1;rw[ho] at q;cases q) hp hok fun g hg=>(hnew.resolve_left hg.1) g (by have:=hg.2;unfold bno at this;rwa[setPl_same] at this)
theorem Sat.addList (h:Sat C ρ fr mem nx a w) {B:Nat} (hF:FrB C ρ mem B) (hB:C.w0.heap.size≤B) {α:Type} {enc:α→List Value} {sz:Nat} (hs:∀ x,(enc x).length=sz) (hpos:0<sz) (hpl:∀ x,∀ v ∈ enc x,plain1 v) {l:List α} (d:α) {t:TypeId} (ho:ownT t=false) {A:Option Addr} (hr:Rd w (fun b=>B≤b∧b<w.heap.size) A (flat enc l)) :
  Sat C (setPl ρ nx ⟨A,sz,l.length,false,noSub⟩) fr ((nx,rowOfL t sz enc d l)::mem) (nx+1) a w∧FrB C (setPl ρ nx ⟨A,sz,l.length,false,noSub⟩) ((nx,rowOfL t sz enc d l)::mem) B:=by
 refine h.addPlain hF ho rfl (row_of_rd hs hpos hpl d (setPl_same _ _ _) hr (fun b hb=>hb.2) ho (fun _ b hb=>Nat.le_trans hB hb.1)) ?_
 by_cases h0:l.length=0
 ·exact .inl h0
 ·obtain⟨b,off,x,hA,hb,-,-⟩:=hr.row hs hpos (k:=0) (by omega)
  refine .inr fun g hg=>?_
  simp[hA] at hg
  subst hg
  exact hb.1
def stPl (ρ:Nat→Pl) (nx:Nat) (y:StA) (s:St):Nat→Pl:=setPl (setPl ρ nx ⟨y.ac,4,s.cells.length,false,noSub⟩) (nx+1) ⟨y.at_,12,s.tenants.length,false,noSub⟩
theorem Sat.addSt (h0:Sat C ρ fr mem nx a w) (hb:Below w.heap.size w w') {y:StA} {s:St} (hs:StOk w' (fun b=>w.heap.size≤b∧b<w'.heap.size) y s) :
  Sat C (stPl ρ nx y s) fr (stM ⟨nx+1,nx,500000⟩ s++mem) (nx+2) a w'∧den (stPl ρ nx y s) (stV ⟨nx+1,nx,500000⟩ ⟨y.ct,y.cc⟩ s)=.agg (stC y s)∧okV (stPl ρ nx y s) (nx+2) (stV ⟨nx+1,nx,500000⟩ ⟨y.ct,y.cc⟩ s)∧ExtS ρ nx (stPl ρ nx y s) (nx+2):=by
 obtain⟨h1,f1⟩:=(h0.later hb).addList h0.frB h0.rest.size (enc:=csC) (sz:=4) (fun _=>rfl) (by omega) csC_plain default (t:=500000) rfl hs.cells
 obtain⟨h2,-⟩:=h1.addList f1 h0.rest.size (enc:=tsC) (sz:=12) (fun _=>rfl) (by omega) tsC_plain default (t:=500000) rfl hs.tenants
 have q1:stPl ρ nx y s nx=⟨y.ac,4,s.cells.length,false,noSub⟩:=by
  unfold stPl
  rw[setPl_lt _ _ (Nat.lt_succ_self _),setPl_same]
 have q2:stPl ρ nx y s (nx+1)=⟨y.at_,12,s.tenants.length,false,noSub⟩:=setPl_same _ _ _
 refine⟨h2,?_,?_,fun i hi=>?_,by omega⟩
 ·rw[den_st]
  congr 2
  simp[stX,q1,q2]
 ·intro u hu
  simp at hu
  rcases hu with rfl | rfl | rfl | rfl | rfl | rfl | rfl | rfl<;>first | trivial | exact⟨show nx+1<nx+2 by omega,by rw[q2]⟩ | exact⟨show nx<nx+2 by omega,by rw[q1]⟩
 ·unfold stPl
  rw[setPl_lt _ _ (by omega),setPl_lt _ _ hi]
end
/-! state.New -/
def CN1:CN:=⟨0,1,2,3,4,5,3⟩
abbrev tsB (n:Nat) (el:Nat→List Value):ABlk:=.row (1000000+62) 12 n el
abbrev csB (n:Nat) (el:Nat→List Value):ABlk:=.row (1000000+57) 4 n el
/-! Functions that read a configuration and states and give a value. -/
abbrev SN1:SN:=⟨6,7,3⟩
abbrev SN2:SN:=⟨8,9,3⟩
def rpl (x:CfgA) (c:Cfg) (y:StA) (s:St) (y2:StA) (s2:St):Nat→Pl:=fun j=>match j with
 | 0=>⟨x.az,1,c.zones.length,false,noSub⟩
 | 1=>⟨x.ac,2,c.cells.length,false,noSub⟩
 | 2=>⟨x.at_,7,c.tenants.length,false,noSub⟩
 | 3=>⟨x.av,2,c.versions.length,false,noSub⟩
 | 4=>⟨x.ar,1,c.replicas.length,false,noSub⟩
 | 5=>⟨x.ao,1,c.observers.length,false,noSub⟩
 | 6=>⟨y.at_,12,s.tenants.length,false,noSub⟩
 | 7=>⟨y.ac,4,s.cells.length,false,noSub⟩
 | 8=>⟨y2.at_,12,s2.tenants.length,false,noSub⟩
 | _=>⟨y2.ac,4,s2.cells.length,false,noSub⟩
abbrev rdM (c:Cfg) (s s2:St):AM:=cfgM CN1 c++(stM SN1 s++stM SN2 s2)
abbrev ck (x:CfgA):CfgK:=⟨x.cz,x.cc,x.ct,x.cv,x.cr,x.co⟩
abbrev sk (y:StA):StK:=⟨y.ct,y.cc⟩
theorem rpl_cfg (x:CfgA) (c:Cfg) (y:StA) (s:St) (y2:StA) (s2:St):den (rpl x c y s y2 s2) (cfgV CN1 (ck x) c)=.agg (cfgC x c):=by rw[den_cfg];rfl
theorem rpl_st (x:CfgA) (c:Cfg) (y:StA) (s:St) (y2:StA) (s2:St):den (rpl x c y s y2 s2) (stV SN1 (sk y) s)=.agg (stC y s):=by rw[den_st];rfl
theorem rpl_cfg_ok (x:CfgA) (c:Cfg) (y:StA) (s:St) (y2:StA) (s2:St):okV (rpl x c y s y2 s2) 10 (cfgV CN1 (ck x) c):=by
 intro u hu
 simp at hu
 rcases hu with rfl | rfl | rfl | rfl | rfl | rfl | rfl | rfl | rfl | rfl<;>first | trivial | exact⟨by decide,rfl⟩
theorem rpl_st_ok (x:CfgA) (c:Cfg) (y:StA) (s:St) (y2:StA) (s2:St):okV (rpl x c y s y2 s2) 10 (stV SN1 (sk y) s):=by
 intro u hu
 simp at hu
 rcases hu with rfl | rfl | rfl | rfl | rfl | rfl | rfl | rfl<;>first | trivial | exact⟨by decide,rfl⟩
theorem rd_calls {f:FuncId} {fn:Func} {F:FT} {D:List (Nat×DQ)} (hF:FTok Try.prog F) (hf:(Try.prog).funcs[f]?=some fn) (hb:fn.body=some (bodyOf fn)) (hcode:codeB fn.ntmps D (bodyOf fn)=true) {vs:List Value} (hn:Nat.ble vs.length fn.ntmps=true)
  (x:CfgA) (c:Cfg) (y:StA) (s:St) (y2:StA) (s2:St) (w:World) (hc:CfgOk w (·<w.heap.size) x c) (hs:StOk w (·<w.heap.size) y s) (hs2:StOk w (·<w.heap.size) y2 s2) (hv:∀ v ∈ vs,okV (rpl x c y s y2 s2) 10 v) {R:Value→Prop}
  (h:sx tt F D (bodyOf fn) (argF 0 vs) (rdM c s s2) 10 (endx tt fn.results.toList fun v _ _=>R v∧pureV v)) :
  Calls Try.prog f (vs.map (den (rpl x c y s y2 s2))).toArray w fun e w'=>∃ v,R v∧pureV v∧e=.returned v∧Below w.heap.size w w':=by
 have hpc:CfgPl (rpl x c y s y2 s2) CN1 x c:=⟨rfl,rfl,rfl,rfl,rfl,rfl⟩
 have hps:StPl (rpl x c y s y2 s2) SN1 y s:=⟨rfl,rfl⟩
 have hps2:StPl (rpl x c y s y2 s2) SN2 y2 s2:=⟨rfl,rfl⟩
 have hm:MemAt { w0:=w,bor:=[],n0:=10,ρ0:=rpl x c y s y2 s2,nt:=fn.ntmps } (rpl x c y s y2 s2) (rdM c s s2) 10 w:=MemAt.rows trivial (cfg_blks hpc hc (fun b hb=>hb) (by decide) (st_blks hps hs (fun b hb=>hb) (by decide) (by
  have:=st_blks (C:={ w0:=w,bor:=[],n0:=10,ρ0:=rpl x c y s y2 s2,nt:=fn.ntmps }) (nx:=10) (r:=[]) hps2 hs2 (fun b hb=>hb) (by decide) trivial
  exact this)))
 refine (calls_sx ttOk hF mixed hf hb hcode (vs:=vs) hn ⟨rfl,rfl⟩ rfl hm hv h).mono ?_
 rintro e w' ⟨v,mem',nx',ρ',rfl,⟨hR,hp⟩,-,hm'⟩
 exact⟨v,hR,hp,by rw[(pure_den hp ρ' 0).1],⟨hm'.rest.os,hm'.rest.tape,hm'.rest.output,hm'.rest.size,fun b hlt=>hm'.rest.block b hlt (by simp)⟩⟩
/-! What such a function is handed,in the abstract and in the world. -/
inductive DT where
 | li (d:List Int)
 | cf (d:Cfg)
 | st (d:St)
 | vl (u:Value)
inductive PA where
 | li (i cap:Nat) (d:List Int)
 | cf (N:CN) (x:CfgK) (d:Cfg)
 | st (M:SN) (y:StK) (d:St)
 | vl (u:Value)
inductive PW where
 | li (A:Option Addr) (cap:Nat) (d:List Int)
 | cf (x:CfgA) (d:Cfg)
 | st (y:StA) (d:St)
 | vl (u:Value)
def PA.val:PA→Value
 | .li i cap l=>slc i l.length cap
 | .cf N x c=>cfgV N x c
 | .st M y s=>stV M y s
 | .vl u=>u
def PA.dt:PA→DT
 | .li _ _ l=>.li l
 | .cf _ _ c=>.cf c
 | .st _ _ s=>.st s
 | .vl u=>.vl u
def PA.keep (mem:AM):PA→Prop
 | .li i _ l=>lk mem i=some (intRow l)
 | .cf N _ c=>keeps mem (cfgM N c)
 | .st M _ s=>keeps mem (stM M s)
 | .vl u=>pureV u
def PW.val:PW→Value
 | .li A cap l=>.slice A l.length cap
 | .cf x c=>.agg (cfgC x c)
 | .st y s=>.agg (stC y s)
 | .vl u=>u
def PW.dt:PW→DT
 | .li _ _ l=>.li l
 | .cf _ c=>.cf c
 | .st _ s=>.st s
 | .vl u=>.vl u
def PW.ok (w:World):PW→Prop
 | .li A _ l=>Rd w (·<w.heap.size) A (flat intC l)
 | .cf x c=>CfgOk w (·<w.heap.size) x c
 | .st y s=>StOk w (·<w.heap.size) y s
 | .vl u=>pureV u
def PA.to (ρ:Nat→Pl):PA→PW
 | .li i cap l=>.li (ρ i).A cap l
 | .cf N x c=>.cf (cfgX ρ N x) c
 | .st M y s=>.st (stX ρ M y) s
 | .vl u=>.vl u
def allK (mem:AM) (l:List PA):Prop:=List.rec (motive:=fun _=>Prop) True (fun a _ ih=>a.keep mem∧ih) l
theorem allK_mem {mem:AM}:∀ {l:List PA},allK mem l→∀ a ∈ l,a.keep mem
 | [],_,a,ha=>by cases ha
 | b::r,h,a,ha=>(List.mem_cons.1 ha).elim (fun e=>e ▸ h.1) (allK_mem (l:=r) h.2 a)
def ctPts (R:List DT→Value→Prop) (pre:List DT→Prop):CT:=fun vs mem nx K=>∃ l:List PA,vs=l.map PA.val∧allK mem l∧pre (l.map PA.dt)∧∀ z,R (l.map PA.dt) z→K z mem nx
theorem ptsOk {f : FuncId} {R : List DT → Value → Prop} {pre : List DT → Prop} (ent : ((Try.prog).funcs[f]?).map (fun fn => (fn.name == "runtime.NumGoroutine", fn.body.isNone)) = some (false, false))
  (h:∀ (ps:List PW) (w:World),pre (ps.map PW.dt)→(∀ p ∈ ps,p.ok w)→Calls Try.prog f (ps.map PW.val).toArray w fun e w'=>∃ v,R (ps.map PW.dt) v∧pureV v∧e=.returned v∧Below w.heap.size w w'):CSound Try.prog f (ctPts R pre):=
 ⟨ent,fun {C ρ fr mem nx a w vs K} hc hs hv=>by
  obtain⟨l,rfl,hk,hp,hK⟩:=hc
  have hk':=allK_mem hk
  have e1:(l.map PA.val).map (den ρ)=(l.map (PA.to ρ)).map PW.val:=by
   rw[List.map_map,List.map_map]
   refine List.map_congr_left fun p hp=>?_
   cases p with
   | li i cap l=>rfl
   | cf N x c=>exact den_cfg ρ N x c
   | st M y s=>exact den_st ρ M y s
   | vl u=>exact (pure_den (hk' _ hp) ρ 0).1
  have e2:(l.map (PA.to ρ)).map PW.dt=l.map PA.dt:=by
   rw[List.map_map]
   refine List.map_congr_left fun p hp=>?_
   cases p<;>rfl
  rw[e1]
  refine (h (l.map (PA.to ρ)) w (by rw[e2];exact hp) (fun p hp=>?_)).mono ?_
  ·obtain⟨q,hq,rfl⟩:=List.mem_map.1 hp
   cases q with
   | li i cap l=>exact hs.rd (enc:=intC) (sz:=1) (fun _=>rfl) (by omega) (show lk mem i=some (intRow l) from hk' _ hq) (fun b h _=>h)
   | cf N x c=>exact hs.cfg (hk' _ hq) (fun b h _=>h)
   | st M y s=>exact hs.st (hk' _ hq) (fun b h _=>h)
   | vl u=>exact hk' _ hq
  ·rintro e w' ⟨v,hR,hpl,rfl,hb⟩
   rw[e2] at hR
   exact⟨v,mem,nx,ρ,by rw[(pure_den hpl ρ 0).1],hK v hR,hs.later hb,(pure_den hpl ρ nx).2,ExtS.refl _ _⟩⟩
theorem dt_nil {ps:List PW} (h:ps.map PW.dt=[]):ps=[]:=List.map_eq_nil_iff.1 h
theorem dt_l {ps:List PW} {l:List Int} {r:List DT} (h:ps.map PW.dt=.li l::r):∃ A cap qs,ps=.li A cap l::qs∧qs.map PW.dt=r:=by
 cases ps with
 | nil=>cases h
 | cons p qs=>cases p<;>simp[PW.dt] at h<;>obtain⟨rfl,h⟩:=h;exact⟨_,_,qs,rfl,h⟩
theorem dt_c {ps:List PW} {c:Cfg} {r:List DT} (h:ps.map PW.dt=.cf c::r):∃ x qs,ps=.cf x c::qs∧qs.map PW.dt=r:=by
 cases ps with
 | nil=>cases h
 | cons p qs=>cases p<;>simp[PW.dt] at h<;>obtain⟨rfl,h⟩:=h;exact⟨_,qs,rfl,h⟩
theorem dt_v {ps:List PW} {u:Value} {r:List DT} (h:ps.map PW.dt=.vl u::r):∃ qs,ps=.vl u::qs∧qs.map PW.dt=r:=by
 cases ps with
 | nil=>cases h
 | cons p qs=>cases p<;>simp[PW.dt] at h<;>obtain⟨rfl,h⟩:=h;exact⟨qs,rfl,h⟩
def noA:StA:=⟨none,0,none,0⟩
def noS:St:={ tick:=0,count:=0,tenants:=[],cells:=[],proven:=0,evac:=0,low:=0,high:=0 }
theorem noS_ok (w:World) (S:Nat→Prop):StOk w S noA noS:=⟨fun h=>absurd rfl h,fun h=>absurd rfl h⟩
/-! Functions that are handed lists of numbers. -/
/-! What holds of every reached state. No program in sight. -/
structure TsInv (c:Cfg) (t:TS):Prop where
 home:-1≤t.home∧t.home<c.cells.length
 standby:-1≤t.standby∧t.standby<c.cells.length
 next:-1≤t.next∧t.next<c.cells.length
 target:-1≤t.target∧t.target<c.cells.length
 epoch:0≤t.epoch∧t.epoch≤1048576
 wcell:-1≤t.win.cell∧t.win.cell<c.cells.length
 wepoch:0≤t.win.epoch∧t.win.epoch≤1048576
 wver:0≤t.win.version∧t.win.version<c.versions.length
 wsince:0≤t.win.since∧t.win.since≤1073741824
 wtill:0≤t.win.till∧t.win.till≤1073741824
 placed:t.placed=true→0≤t.home
 shed:t.shed=true→t.placed=true
structure CsInv (c:Cfg) (lo hi:Int) (x:CS):Prop where
 mode:1≤x.mode∧x.mode≤3
 running:0≤x.running∧x.running<c.versions.length
 wanted:0≤x.wanted∧x.wanted<c.versions.length
 since:0≤x.since∧x.since≤1073741824
 runs:(verAt c x.running).1≤lo∧hi≤(verAt c x.running).2
 wants:(verAt c x.wanted).1≤lo∧hi≤(verAt c x.wanted).2
structure StInv (c:Cfg) (s:St):Prop where
 lt:s.tenants.length=c.tenants.length
 lc:s.cells.length=c.cells.length
 tick:0≤s.tick∧s.tick≤1073741824
 count:0≤s.count∧s.count≤4096
 proven:0≤s.proven∧s.proven<1073741824
 evac:0≤s.evac∧s.evac<16
 low:0≤s.low∧s.low≤s.high∧s.high≤s.low+1∧s.high≤30
 ten:∀ t ∈ s.tenants,TsInv c t
 cel:∀ x ∈ s.cells,CsInv c s.low s.high x
theorem verAt_zero {c:Cfg} (hV:CfgV c):(verAt c 0).1=0∧0≤(verAt c 0).2:=by
 have h:=hV.nv
 have h0:c.versions[0]?=some c.versions[0]:=List.getElem?_eq_getElem (by omega)
 have h1:=hV.ver 0 _ h0
 unfold verAt
 rw[show (0:Int).toNat=0 from rfl,getD_some h0]
 simp[verOk] at h1
 omega
theorem stNew_inv {c:Cfg} (hV:CfgV c):StInv c (stNew c):=by
 have h:=hV.nv
 have hz:=verAt_zero hV
 refine⟨by simp[stNew],by simp[stNew],by simp[stNew],by simp[stNew],by simp[stNew],by simp[stNew],by simp[stNew],fun t ht=>?_,fun x hx=>?_⟩
 ·obtain rfl:=List.eq_of_mem_replicate (show t ∈ List.replicate c.tenants.length tsNew from ht)
  constructor<;>simp[tsNew]<;>omega
 ·obtain rfl:=List.eq_of_mem_replicate (show x ∈ List.replicate c.cells.length csNew from hx)
  constructor<;>simp[csNew,stNew]<;>omega
theorem tsAt_mem {s:St} {i:Int} (h0:0≤i) (h1:i<s.tenants.length):s.tenants[i.toNat]?=some (tsAt s i)∧tsAt s i ∈ s.tenants:=by
 have h:i.toNat<s.tenants.length:=by omega
 have e:=List.getElem?_eq_getElem h
 have:tsAt s i=s.tenants[i.toNat]:=getD_some e
 rw[this]
 exact⟨e,List.getElem_mem h⟩
theorem csAt_mem {s:St} {i:Int} (h0:0≤i) (h1:i<s.cells.length):s.cells[i.toNat]?=some (csAt s i)∧csAt s i ∈ s.cells:=by
 have h:i.toNat<s.cells.length:=by omega
 have e:=List.getElem?_eq_getElem h
 have:csAt s i=s.cells[i.toNat]:=getD_some e
 rw[this]
 exact⟨e,List.getElem_mem h⟩
theorem orBit_lt {a i:Int} {m:Nat} (h0:0≤a) (h1:a<2 ^ m) (hi:i.toNat<m):0≤orBit a i∧orBit a i<2 ^ m:=by
 obtain⟨n,rfl⟩:=Int.eq_ofNat_of_zero_le h0
 have hn:n<2 ^ m:=by exact_mod_cast h1
 have h2:1 <<< i.toNat<2 ^ m:=by rw[Nat.one_shiftLeft];exact Nat.pow_lt_pow_right (by omega) hi
 have:=Nat.or_lt_two_pow hn h2
 unfold orBit
 rw[Int.toNat_natCast]
 refine⟨Int.natCast_nonneg _,?_⟩
 exact_mod_cast this
theorem flipBit_lt {a i:Int} {m:Nat} (h0:0≤a) (h1:a<2 ^ m) (hi:i.toNat<m):0≤flipBit a i∧flipBit a i<2 ^ m:=by
 obtain⟨n,rfl⟩:=Int.eq_ofNat_of_zero_le h0
 have hn:n<2 ^ m:=by exact_mod_cast h1
 have h2:1 <<< i.toNat<2 ^ m:=by rw[Nat.one_shiftLeft];exact Nat.pow_lt_pow_right (by omega) hi
 have:=Nat.xor_lt_two_pow hn h2
 unfold flipBit
 rw[Int.toNat_natCast]
 refine⟨Int.natCast_nonneg _,?_⟩
 exact_mod_cast this
structure Acc (c:Cfg) (s:St) (e:Ent):Prop where
 ent:entV c e=true
 cnt:s.count<4096
 tick:s.tick≤e.tick
 kind:kindE c s e=0
theorem acc_of {c:Cfg} {s:St} {e:Ent} (h:refusedE c s e=0):Acc c s e:=by
 unfold refusedE at h
 by_cases h1:entV c e=false
 ·rw[if_pos h1] at h;omega
 rw[if_neg h1] at h
 by_cases h2:4096≤s.count
 ·rw[if_pos h2] at h;omega
 rw[if_neg h2] at h
 by_cases h3:e.tick<s.tick
 ·rw[if_pos h3] at h;omega
 rw[if_neg h3] at h
 exact⟨by simpa using h1,by omega,by omega,h⟩
theorem ent_kind {c:Cfg} {e:Ent} (h:entV c e=true):e.kind=1∨e.kind=2∨e.kind=3∨e.kind=4∨e.kind=5∨e.kind=6∨e.kind=7∨e.kind=8∨e.kind=9∨e.kind=10∨e.kind=11∨e.kind=12∨e.kind=13∨e.kind=14∨e.kind=15∨e.kind=16:=by
 have:inR e.kind 1 16=true:=by
  unfold entV entOk at h
  simp only[Bool.and_eq_true] at h
  exact h.1.1.1.1.1.1.1.1.1
 simp[inR] at this
 omega
theorem ent_rng {c:Cfg} {e:Ent} (h:entV c e=true):(0≤e.tick∧e.tick≤1073741824)∧inS e.tenant (fT c.tenants.length e.kind)=true∧inS e.cell (fC c.cells.length e.kind)=true∧inS e.other (fO c.cells.length c.regions e.kind)=true∧
  inS e.epoch (fE e.kind)=true∧inS e.since (fW e.kind)=true∧inS e.till (fW e.kind)=true∧inS e.n (fN c.versions.length e.kind)=true∧(e.kind≠1∨e.other≠e.cell):=by
 unfold entV entOk at h
 simp only[Bool.and_eq_true] at h
 obtain⟨⟨⟨⟨⟨⟨⟨⟨⟨h1,h2⟩,h3⟩,h4⟩,h5⟩,h6⟩,h7⟩,h8⟩,h9⟩,h10⟩:=h
 refine⟨by simpa [inR] using h2,h3,h4,h5,h6,h7,h8,h9,by simpa using h10⟩
theorem inv_setTen {c:Cfg} {s:St} (h:StInv c s) {e:Ent} (hc:s.count<4096) (ht:s.tick≤e.tick) (ht2:e.tick≤1073741824) {i:Int} {t:TS} (hT:TsInv c t):StInv c (setTen (stamped s e) i t):=by
 refine⟨?_,h.lc,⟨by have:=h.tick;show 0≤e.tick;omega,ht2⟩,⟨by have:=h.count;show 0≤s.count+1;omega,by show s.count+1≤4096;omega⟩,h.proven,h.evac,h.low,fun t' ht'=>?_,h.cel⟩
 ·show (s.tenants.set i.toNat t).length=_
  rw[List.length_set];exact h.lt
 ·rcases List.mem_or_eq_of_mem_set (show t' ∈ s.tenants.set i.toNat t from ht') with h1 | rfl
  ·exact h.ten _ h1
  ·exact hT
theorem inv_setCel {c:Cfg} {s:St} (h:StInv c s) {e:Ent} (hc:s.count<4096) (ht:s.tick≤e.tick) (ht2:e.tick≤1073741824) {i:Int} {x:CS} (hX:CsInv c s.low s.high x):StInv c (setCel (stamped s e) i x):=by
 refine⟨h.lt,?_,⟨by have:=h.tick;show 0≤e.tick;omega,ht2⟩,⟨by have:=h.count;show 0≤s.count+1;omega,by show s.count+1≤4096;omega⟩,h.proven,h.evac,h.low,h.ten,fun t' ht'=>?_⟩
 ·show (s.cells.set i.toNat x).length=_
  rw[List.length_set];exact h.lc
 ·rcases List.mem_or_eq_of_mem_set (show t' ∈ s.cells.set i.toNat x from ht') with h1 | rfl
  ·exact h.cel _ h1
  ·exact hX
theorem StInv.step {c:Cfg} {s:St} {e:Ent} (hV:CfgV c) (h:StInv c s) (hr:refusedE c s e=0):StInv c (effOf s e):=by
 have ha:=acc_of hr
 have hk:=ent_kind ha.ent
 obtain⟨hti,hT,hC,hO,hE,hS,hU,hN,hne⟩:=ent_rng ha.ent
 have hkd:=ha.kind
 have hcnt:=ha.cnt
 have htk:=ha.tick
 have hlt:=h.lt
 have hlc:=h.lc
 have hnc:=hV.nc
 have hnv:=hV.nv
 have hreg:=hV.reg
 clear ha hr
 obtain⟨kind,tick,tenant,cell,other,epoch,since,till,n⟩:=e
 simp only at *
 by_cases h8:kind≤8
 ·have hten:0≤tenant∧tenant<s.tenants.length:=by
   have:fT c.tenants.length kind=(0,(c.tenants.length:Int)-1):=if_pos h8
   rw[this] at hT
   simp[inS,inR] at hT
   omega
  have hti0:=h.ten _ (tsAt_mem hten.1 hten.2).2
  have eff:effOf s ⟨kind,tick,tenant,cell,other,epoch,since,till,n⟩=setTen (stamped s ⟨kind,tick,tenant,cell,other,epoch,since,till,n⟩) tenant (tenEff (tsAt s tenant) ⟨kind,tick,tenant,cell,other,epoch,since,till,n⟩):=by
   unfold effOf
   exact if_pos h8
  rw[eff]
  refine inv_setTen h hcnt htk hti.2 ?_
  clear eff
  have hk':kind=1∨kind=2∨kind=3∨kind=4∨kind=5∨kind=6∨kind=7∨kind=8:=by omega
  obtain⟨i1,i2,i3,i4,i5,i6,i7,i8,i9,i10,i11,i12⟩:=hti0
  generalize htd:tsAt s tenant=t at *
  rcases hk' with rfl | rfl | rfl | rfl | rfl | rfl | rfl | rfl
  ·simp[inS,inR,fC,fO] at hC hO
   refine⟨?_,?_,i3,i4,i5,i6,i7,i8,i9,i10,?_,?_⟩<;>simp[tenEff]<;>omega
  ·simp[inS,inR,fC,fE,fW,fN] at hC hE hS hU hN
   simp only[tenEff,grantT]
   have hpl:t.placed=true:=by
    cases hp:t.placed with
    | true=>rfl
    | false=>simp[kindE,grantE,htd,hp] at hkd
   simp only[show ¬ ((2:Int)=1) by omega,if_false,if_true]
   split
   ·constructor<;>(try simp only)<;>first | omega | (intro hh;first | omega | exact i11 hh | exact i12 hh | exact hpl | exact hpl hn | cases hh)
   ·split
    ·constructor<;>(try simp only)<;>first | omega | (intro hh;first | omega | exact i11 hh | exact i12 hh | exact hpl | exact hpl hn | cases hh)
    ·constructor<;>(try simp only)<;>first | omega | (intro hh;first | omega | exact i11 hh | exact i12 hh | exact hpl | exact hpl hn | cases hh)
  ·refine⟨i1,i2,i3,i4,i5,i6,i7,i8,?_,?_,i11,i12⟩<;>simp[tenEff,cutW]<;>omega
  ·simp[inS,inR,fC] at hC
   refine⟨i1,i2,?_,i4,i5,i6,i7,i8,i9,i10,i11,i12⟩<;>simp[tenEff]<;>omega
  ·simp[inS,inR,fC] at hC
   refine⟨i1,?_,?_,i4,i5,i6,i7,i8,i9,i10,i11,i12⟩<;>simp[tenEff]<;>omega
  ·simp[inS,inR,fC] at hC
   refine⟨i1,i2,i3,?_,i5,i6,i7,i8,i9,i10,i11,i12⟩<;>simp[tenEff]<;>omega
  ·refine⟨i1,i2,i3,?_,i5,i6,i7,i8,i9,i10,i11,i12⟩<;>simp[tenEff]<;>omega
  ·have hpl:n=1→t.placed=true:=by
    intro hn
    cases hp:t.placed with
    | true=>rfl
    | false=>simp[kindE,shedE,htd,hp,hn] at hkd
   by_cases hn:n=1
   ·simp only[tenEff,show ¬ ((8:Int)=1) by omega,show ¬ ((8:Int)=2) by omega,show ¬ ((8:Int)=3) by omega,show ¬ ((8:Int)=4) by omega,show ¬ ((8:Int)=5) by omega,show ¬ ((8:Int)=6) by omega,show ¬ ((8:Int)=7) by omega,if_false,if_true,hn]
    constructor<;>(try simp only)<;>first | omega | (intro hh;first | omega | exact i11 hh | exact i12 hh | exact hpl | exact hpl hn | cases hh)
   ·simp only[tenEff,show ¬ ((8:Int)=1) by omega,show ¬ ((8:Int)=2) by omega,show ¬ ((8:Int)=3) by omega,show ¬ ((8:Int)=4) by omega,show ¬ ((8:Int)=5) by omega,show ¬ ((8:Int)=6) by omega,show ¬ ((8:Int)=7) by omega,if_false,if_true,hn]
    exact⟨i1,i2,i3,i4,i5,i6,i7,i8,i9,i10,i11,fun h=>by cases h⟩
 ·by_cases h11:kind≤11
  ·have eff:effOf s ⟨kind,tick,tenant,cell,other,epoch,since,till,n⟩=setCel (stamped s ⟨kind,tick,tenant,cell,other,epoch,since,till,n⟩) cell (celEff (csAt s cell) ⟨kind,tick,tenant,cell,other,epoch,since,till,n⟩):=by
    unfold effOf
    rw[if_neg h8,if_pos h11]
   have hcel:0≤cell∧cell<s.cells.length:=by
    have:fC c.cells.length kind=(0,(c.cells.length:Int)-1):=if_pos (by omega)
    rw[this] at hC
    simp[inS,inR] at hC
    omega
   rw[eff]
   refine inv_setCel h hcnt htk hti.2 ?_
   have hx:=h.cel _ (csAt_mem hcel.1 hcel.2).2
   generalize hxd:csAt s cell=x at *
   obtain⟨i1,i2,i3,i4,i5,i6⟩:=hx
   have hk':kind=9∨kind=10∨kind=11:=by omega
   rcases hk' with rfl | rfl | rfl
   ·simp[inS,inR,fN] at hN
    refine⟨?_,i2,i3,?_,i5,i6⟩<;>simp[celEff]<;>omega
   ·simp[inS,inR,fN] at hN
    have hw:(verAt c n).1≤s.low∧s.high≤(verAt c n).2:=by
     simp[kindE,wantE,hxd] at hkd
     split at hkd
     ·omega
     ·split at hkd
      ·omega
      ·omega
    refine⟨i1,i2,?_,i4,i5,?_⟩
    ·simp[celEff];omega
    ·exact hw
   ·simp[inS,inR,fN] at hN
    have hw:n=x.wanted:=by
     simp[kindE,runsE,hxd] at hkd
     by_cases hh:x.wanted=n
     ·exact hh.symm
     ·simp[hh] at hkd
    subst hw
    exact⟨i1,i3,i3,⟨by simp[celEff];omega,by simp[celEff];omega⟩,i6,i6⟩
  ·have hk':kind=12∨kind=13∨kind=14∨kind=15∨kind=16:=by omega
   have htick:0≤tick∧tick≤1073741824:=hti
   have hcn:0≤s.count+1∧s.count+1≤4096:=by have:=h.count;omega
   rcases hk' with rfl | rfl | rfl | rfl | rfl
   ·simp[inS,inR,fN] at hN
    have hp:=h.proven
    have:=orBit_lt (a:=s.proven) (i:=n) (m:=30) hp.1 (by simpa using hp.2) (by omega)
    exact⟨hlt,hlc,htick,hcn,by simpa [effOf,stamped] using this,h.evac,h.low,h.ten,h.cel⟩
   ·simp[inS,inR,fO] at hO
    have hp:=h.evac
    have:=flipBit_lt (a:=s.evac) (i:=other) (m:=4) hp.1 (by simpa using hp.2) (by omega)
    exact⟨hlt,hlc,htick,hcn,h.proven,by simpa [effOf,stamped] using this,h.low,h.ten,h.cel⟩
   ·have hlo:=h.low
    have hx:¬ s.low<s.high∧¬ 30≤s.high∧s.cells.any (blockB c s)=false:=by
     simp only[kindE,expandE] at hkd
     simp at hkd
     by_cases h1:s.low<s.high
     ·simp[h1] at hkd
     ·by_cases h2:30≤s.high
      ·simp[h1,h2] at hkd
      ·refine⟨h1,h2,?_⟩
       rw[Bool.eq_false_iff]
       intro h3
       obtain⟨x,hx,hb⟩:=List.any_eq_true.1 h3
       simp only[h1,h2,if_false] at hkd
       rw[if_pos ⟨x,hx,hb⟩] at hkd
       omega
    refine⟨hlt,hlc,htick,hcn,h.proven,h.evac,?_,h.ten,fun x hx'=>?_⟩
    ·simp[effOf,stamped];omega
    ·have hb:blockB c s x=false:=by
      rw[Bool.eq_false_iff]
      intro hb
      have:=List.any_eq_true.2 ⟨x,(show x ∈ s.cells from hx'),hb⟩
      rw[hx.2.2] at this
      cases this
     simp[blockB] at hb
     obtain⟨i1,i2,i3,i4,i5,i6⟩:=h.cel x hx'
     refine⟨i1,i2,i3,i4,⟨i5.1,?_⟩,⟨i6.1,?_⟩⟩<;>simp[effOf,stamped]<;>omega
   ·have hlo:=h.low
    refine⟨hlt,hlc,htick,hcn,h.proven,h.evac,?_,h.ten,fun x hx'=>?_⟩
    ·simp[effOf,stamped];omega
    ·obtain⟨i1,i2,i3,i4,i5,i6⟩:=h.cel x hx'
     refine⟨i1,i2,i3,i4,⟨?_,i5.2⟩,⟨?_,i6.2⟩⟩<;>simp[effOf,stamped]<;>omega
   ·exact⟨hlt,hlc,htick,hcn,h.proven,h.evac,h.low,h.ten,h.cel⟩
/-! The laws of one step. No program in sight. -/
theorem applyP_ok {c:Cfg} {s x:St} {e:Ent} (h:applyP c s e=(x,0)):refusedE c s e=0∧x=effOf s e∧(booksB e=true→overB c x=false):=by
 unfold applyP at h
 by_cases h1:refusedE c s e≠0
 ·rw[if_pos h1] at h
  exact absurd (congrArg Prod.snd h) h1
 ·rw[if_neg h1] at h
  by_cases h2:booksB e∧overB c (effOf s e)
  ·rw[if_pos h2] at h
   exact absurd (congrArg Prod.snd h) (by simp)
  ·rw[if_neg h2] at h
   have hx:effOf s e=x:=congrArg Prod.fst h
   refine⟨Classical.not_not.1 h1,hx.symm,fun hb=>?_⟩
   rw[← hx]
   cases ho:overB c (effOf s e) with
   | false=>rfl
   | true=>exact absurd ⟨hb,ho⟩ h2
/-! Capacity. -/
def bkAt (i:Int) (t:TS) (d:Ten):Int:=
 if t.placed=false then 0 else (if t.shed then 0 else (if t.home=i then d.load else 0)+(if t.target=i then d.load else 0))+(if t.standby=i then d.shadow else 0)+(if t.next=i then d.shadow else 0)
theorem addAt_length (l:List Int) (k n:Int):(addAt l k n).length=l.length:=by unfold addAt;split<;>simp
theorem addAt_getD (l:List Int) (k n:Int) {i:Nat} (hi:i<l.length):(addAt l k n).getD i 0=l.getD i 0+(if k=i then n else 0):=by
 unfold addAt
 by_cases hk:0≤k∧k<l.length
 ·rw[if_pos hk]
  obtain⟨m,rfl⟩:=Int.eq_ofNat_of_zero_le hk.1
  rw[Int.toNat_natCast,List.getD_eq_getElem?_getD,List.getElem?_set]
  by_cases hm:m=i
  ·subst hm
   simp[hi]
  ·have:¬ ((m:Int)=i):=by omega
   simp[hm,this]
 ·rw[if_neg hk]
  have:¬ (k=i):=by omega
  simp[this]
theorem bookT_length (l:List Int) (t:TS) (d:Ten):(bookT l t d).length=l.length:=by
 unfold bookT
 split
 ·rfl
 ·rw[addAt_length,addAt_length]
  split
  ·rfl
  ·rw[addAt_length,addAt_length]
theorem bookT_getD (l:List Int) (t:TS) (d:Ten) {i:Nat} (hi:i<l.length):(bookT l t d).getD i 0=l.getD i 0+bkAt i t d:=by
 unfold bookT bkAt
 by_cases hp:t.placed=false
 ·rw[if_pos hp,if_pos hp];omega
 ·rw[if_neg hp,if_neg hp]
  by_cases hs:t.shed=true
  ·rw[if_pos hs,if_pos hs,addAt_getD _ _ _ (by rw[addAt_length];exact hi),addAt_getD _ _ _ hi];omega
  ·rw[if_neg hs,if_neg hs,addAt_getD _ _ _ (by simp only[addAt_length];exact hi),addAt_getD _ _ _ (by simp only[addAt_length];exact hi),addAt_getD _ _ _ (by simp only[addAt_length];exact hi),addAt_getD _ _ _ hi];omega
def sumI (i:Int):List (TS×Ten)→Int
 | []=>0
 | p::q=>bkAt i p.1 p.2+sumI i q
theorem fold_getD {i:Nat}:∀ (q:List (TS×Ten)) (l:List Int),i<l.length→(q.foldl (fun l p=>bookT l p.1 p.2) l).getD i 0=l.getD i 0+sumI i q
 | [],l,_=>by simp[sumI]
 | p::q,l,h=>by
  rw[List.foldl_cons,fold_getD q _ (by rw[bookT_length];exact h),bookT_getD _ _ _ h,sumI]
  omega
theorem booked_getD (c:Cfg) (s:St) {i:Nat} (hi:i<c.cells.length):(booked c s).getD i 0=sumI i (s.tenants.zip c.tenants):=by
 unfold booked
 rw[fold_getD _ _ (by simpa using hi)]
 rw[List.getD_eq_getElem?_getD,List.getElem?_replicate]
 simp[hi]
theorem sumI_set {i:Int} {t t':TS} (ht:∀ d:Ten,0≤d.load→0≤d.shadow→bkAt i t' d≤bkAt i t d):∀ (ts:List TS) (ds:List Ten) (k:Nat),ts[k]?=some t→(∀ d ∈ ds,0≤d.load∧0≤d.shadow)→sumI i ((ts.set k t').zip ds)≤sumI i (ts.zip ds)
 | [],ds,k,h,hd=>by simp at h
 | a::ts,[],k,h,hd=>by cases k<;>simp[sumI]
 | a::ts,d::ds,0,h,hd=>by
  simp at h
  subst h
  have:=hd d (by simp)
  have:=ht d this.1 this.2
  simp only[List.set_cons_zero,List.zip_cons_cons,sumI]
  omega
 | a::ts,d::ds,k+1,h,hd=>by
  have ih:=sumI_set ht ts ds k (by simpa using h) (fun d hd'=>hd d (by simp[hd']))
  simp only[List.set_cons_succ,List.zip_cons_cons,sumI]
  omega
theorem overB_iff {c:Cfg} {s:St}:overB c s=false↔∀ i:Nat,i<c.cells.length→(booked c s).getD i 0≤(c.cells.getD i (0,0)).2:=by
 unfold overB
 rw[Bool.eq_false_iff]
 constructor
 ·intro h i hi
  refine Classical.byContradiction fun hn=>h (List.any_eq_true.2 ⟨i,List.mem_range.2 hi,?_⟩)
  simp only[decide_eq_true_eq]
  omega
 ·intro h hn
  obtain⟨i,hi,hd⟩:=List.any_eq_true.1 hn
  have:=h i (List.mem_range.1 hi)
  simp only[decide_eq_true_eq] at hd
  omega
theorem ten_pos {c:Cfg} (hV:CfgV c):∀ d ∈ c.tenants,0≤d.load∧0≤d.shadow:=by
 intro d hd
 have h1:=hV.ten d hd
 simp[tenOk,inR] at h1
 omega
theorem cap_new {c:Cfg} (hV:CfgV c):overB c (stNew c)=false:=by
 rw[overB_iff]
 intro i hi
 rw[booked_getD _ _ hi]
 have hcap:1≤(c.cells.getD i (0,0)).2:=by
  rw[getD_some (List.getElem?_eq_getElem hi)]
  exact (hV.capy _ (List.getElem_mem hi)).1
 have:∀ (n:Nat) (ds:List Ten),sumI i ((List.replicate n tsNew).zip ds)=0:=by
  intro n
  induction n with
  | zero=>intro ds;simp[sumI]
  | succ n ih=>
   intro ds
   cases ds with
   | nil=>simp[sumI]
   | cons d ds=>
    have hb:bkAt i tsNew d=0:=by simp[bkAt,tsNew]
    rw[List.replicate_succ,List.zip_cons_cons,sumI,ih,hb]
    rfl
 have:=this c.tenants.length c.tenants
 unfold stNew
 simp only
 omega
theorem over_same {c:Cfg} {s x:St} (h:x.tenants=s.tenants):overB c x=overB c s:=by
 unfold overB booked
 rw[h]
theorem cap_step {c:Cfg} {s x:St} {e:Ent} (hV:CfgV c) (hI:StInv c s) (hc:overB c s=false) (h:applyP c s e=(x,0)):overB c x=false:=by
 obtain⟨hr,hx,hb⟩:=applyP_ok h
 by_cases hbk:booksB e=true
 ·exact hb hbk
 have ha:=acc_of hr
 have hk:=ent_kind ha.ent
 obtain⟨hti,hT,hC,hO,hE,hS,hU,hN,hne⟩:=ent_rng ha.ent
 have hkd:=ha.kind
 subst hx
 have hlt:=hI.lt
 clear hb h hr ha
 obtain⟨kind,tick,tenant,cell,other,epoch,since,till,n⟩:=e
 simp only at *
 by_cases h8:kind≤8
 ·have hten:0≤tenant∧tenant<s.tenants.length:=by
   have:fT c.tenants.length kind=(0,(c.tenants.length:Int)-1):=if_pos h8
   rw[this] at hT
   simp[inS,inR] at hT
   omega
  have hte:(effOf s ⟨kind,tick,tenant,cell,other,epoch,since,till,n⟩).tenants=s.tenants.set tenant.toNat (tenEff (tsAt s tenant) ⟨kind,tick,tenant,cell,other,epoch,since,till,n⟩):=by
   unfold effOf
   simp only[h8,if_true]
   rfl
  rw[overB_iff] at hc ⊢
  intro i hi
  refine Int.le_trans ?_ (hc i hi)
  rw[booked_getD _ _ hi,booked_getD _ _ hi,hte]
  refine sumI_set ?_ _ _ _ (tsAt_mem hten.1 hten.2).1 (ten_pos hV)
  intro d hd1 hd2
  have hI':=hI.ten _ (tsAt_mem hten.1 hten.2).2
  generalize htd:tsAt s tenant=t at *
  have hk':kind=3∨(kind=4∧cell=-1)∨kind=5∨kind=7∨(kind=8∧n=1):=by
   simp[booksB] at hbk
   have:kind=8→n=0∨n=1:=by
    rintro rfl
    simp[inS,inR,fN] at hN
    omega
   omega
  have hi0:(0:Int)≤i:=Int.natCast_nonneg _
  rcases hk' with rfl | ⟨rfl,rfl⟩ | rfl | rfl | ⟨rfl,rfl⟩
  ·simp[bkAt,tenEff]
  ·simp only[bkAt,tenEff]
   simp
   repeat' split
   all_goals omega
  ·have hnx:cell=t.next∧t.placed=true:=by
    simp only[kindE,readyE,htd] at hkd
    simp at hkd
    by_cases hp:t.placed=true
    ·by_cases hcn:cell=t.next
     ·exact⟨hcn,hp⟩
     ·simp[hp,hcn] at hkd
    ·simp[hp] at hkd
   obtain⟨rfl,hp⟩:=hnx
   simp only[bkAt,tenEff]
   simp[hp]
   repeat' split
   all_goals omega
  ·simp only[bkAt,tenEff]
   simp
   repeat' split
   all_goals omega
  ·simp only[bkAt,tenEff]
   simp
   repeat' split
   all_goals omega
 ·rw[over_same (s:=s)]
  ·exact hc
  ·unfold effOf
   simp only[h8,if_false]
   repeat' split
   all_goals rfl
/-! Versions. -/
/-! Nothing is handed in. -/
def noC:Cfg:=⟨0,[],[],[],[],[],[],0,0,0⟩
def noX:CfgA:=⟨none,0,none,0,none,0,none,0,none,0,none,0⟩
theorem noC_ok (w:World) (S:Nat→Prop):CfgOk w S noX noC:=⟨fun h=>absurd rfl h,fun h=>absurd rfl h,fun h=>absurd rfl h,fun h=>absurd rfl h,fun h=>absurd rfl h,fun h=>absurd rfl h⟩
/-! Rows that are the call's own: stores,and what a callee hands back. -/
theorem setEl_same (el:Nat→List Value) (k:Nat) (l:List Value):setEl el k l k=l:=by unfold setEl;rw[show Nat.beq k k=true from Nat.beq_refl k]
theorem setEl_set {α:Type} {enc:α→List Value} {d:α} {l:List α} {k:Nat} {x:α} (h:k<l.length):setEl (fun j=>enc (l.getD j d)) k (enc x)=fun j=>enc ((l.set k x).getD j d):=by
 funext j
 unfold setEl
 by_cases hj:j=k
 ·subst hj
  rw[show Nat.beq j j=true from Nat.beq_refl j]
  show enc x=_
  rw[List.getD_eq_getElem?_getD,List.getElem?_set_self h]
  rfl
 ·have hb:Nat.beq j k=false:=by
   cases hb:Nat.beq j k
   ·rfl
   ·exact absurd (Nat.eq_of_beq_eq_true hb) hj
  rw[hb]
  show enc _=_
  rw[List.getD_eq_getElem?_getD,List.getD_eq_getElem?_getD,List.getElem?_set_ne (Ne.symm hj)]
theorem getD_set {α:Type} {d:α} {l:List α} {k:Nat} {x:α} (h:k<l.length):(l.set k x).getD k d=x:=by
 rw[List.getD_eq_getElem?_getD,List.getElem?_set_self h];rfl
section
variable {C:Ctx} {ρ:Nat→Pl} {fr:AF} {mem:AM} {nx:Nat} {a:Act} {w w':World}
theorem Sat.addOwn (h:Sat C ρ fr mem nx a w) {t:TypeId} {sz n:Nat} {el:Nat→List Value} {p:Pl} (hp:p.res=false) (hok:BlkOk C (setPl ρ nx p) (nx+1) nx w (.row t sz n el))
  (hnew:n=0∨∀ i b,lk (mem++C.fm) i=some b→∀ g,brd ρ i b g→p.A.map (·.block)≠some g):Sat C (setPl ρ nx p) fr ((nx,.row t sz n el)::mem) (nx+1) a w:=by
 have hb:∀ g,brd (setPl ρ nx p) nx (.row t sz n el) g→∀ j b',lk (mem++C.fm) j=some b'→¬ brd ρ j b' g:=fun g hg j b' hj hr=>by
  have:=hg.2
  unfold bno at this
  rw[setPl_same] at this
  exact (hnew.resolve_left hg.1) j b' hj g hr this
 exact h.addN hp hok (fun g hg=>hb g (bwr_brd hg)) (fun g hg j b' hj hw=>hb g hg j b' hj (bwr_brd hw))
structure OwnL {α:Type} (B:Nat) (w:World) (A:Option Addr) (sz:Nat) (enc:α→List Value) (d:α) (l:List α) (b:Nat):Prop where
 at_:l≠[]→A=some ⟨b,0,none⟩∧B≤b∧∃ ty cs,Blk w b ty cs
 cells:∀ k,k<l.length→∀ j v,(enc (l.getD k d))[j]?=some v→w.cell? ⟨b,k * sz+j,none⟩=some v
theorem OwnL.blk {α:Type} {B:Nat} {A:Option Addr} {sz:Nat} {enc:α→List Value} {d:α} {l:List α} {b:Nat} (h:OwnL B w A sz enc d l b) (hB:C.w0.heap.size≤B) (hs:∀ x,(enc x).length=sz) (hpl:∀ x,∀ v ∈ enc x,plain1 v) {ρ:Nat→Pl} {i nx:Nat} (hρ:ρ i=⟨A,sz,l.length,false,noSub⟩) (t:TypeId):BlkOk C ρ nx i w (.row t sz l.length (fun k=>enc (l.getD k d))):=by
 refine⟨⟨by rw[hρ],by rw[hρ]⟩,fun k hk=>⟨hs _,hpl _⟩,?_⟩
 by_cases h0:l=[]
 ·exact .inl (by rw[h0];rfl)
 ·obtain⟨hA,hb,ty,cs,hblk⟩:=h.at_ h0
  refine .inr ⟨b,0,by rw[hρ];exact hA,⟨hblk.lt,fun _=>⟨rfl,Nat.le_trans hB hb,ty,cs,hblk⟩,fun _=>Nat.le_trans hB hb⟩,fun k hk j v hv=>?_⟩
  rw[Nat.zero_add]
  exact h.cells k hk j v hv
abbrev tsO (l:List TS):ABlk:=.row (1000000+62) 12 l.length (fun k=>tsC (l.getD k default))
abbrev csO (l:List CS):ABlk:=.row (1000000+57) 4 l.length (fun k=>csC (l.getD k default))
abbrev stMO (M:SN) (s:St):AM:=[(M.t,tsO s.tenants),(M.c,csO s.cells)]
structure StOwn2 (B:Nat) (w:World) (y:StA) (s:St):Prop where
 ex:∃ bt bc,OwnL B w y.at_ 12 tsC default s.tenants bt∧OwnL B w y.ac 4 csC default s.cells bc∧(s.tenants≠[]→s.cells≠[]→bt≠bc)
theorem Sat.addOwnSt (h0:Sat C ρ fr mem nx a w) (hb:Below w.heap.size w w') {y:StA} {s:St} (hs:StOwn2 w.heap.size w' y s) :
  Sat C (stPl ρ nx y s) fr (stMO ⟨nx+1,nx,0⟩ s++mem) (nx+2) a w'∧den (stPl ρ nx y s) (stV ⟨nx+1,nx,0⟩ ⟨y.ct,y.cc⟩ s)=.agg (stC y s)∧okV (stPl ρ nx y s) (nx+2) (stV ⟨nx+1,nx,0⟩ ⟨y.ct,y.cc⟩ s)∧ExtS ρ nx (stPl ρ nx y s) (nx+2):=by
 obtain⟨bt,bc,ht,hc,hne⟩:=hs.ex
 have hlt:∀ i b,lk (mem++C.fm) i=some b→∀ g,brd ρ i b g→g<w.heap.size:=fun i b hi g hg=>(h0.blk i b hi).brd_lt hg
 have h1:=(h0.later hb).addOwn (p:=⟨y.ac,4,s.cells.length,false,noSub⟩) rfl (hc.blk (t:=1000000+57) h0.rest.size (fun _=>rfl) csC_plain (setPl_same _ _ _)) (by
  by_cases hz:s.cells=[]
  ·exact .inl (by rw[hz];rfl)
  ·obtain⟨hA,hle,-⟩:=hc.at_ hz
   refine .inr fun i b hi g hg=>?_
   have:=hlt i b hi g hg
   rw[hA]
   simp
   omega)
 have h2:=h1.addOwn (p:=⟨y.at_,12,s.tenants.length,false,noSub⟩) rfl (ht.blk (t:=1000000+62) h0.rest.size (fun _=>rfl) tsC_plain (setPl_same _ _ _)) (by
  by_cases hz:s.tenants=[]
  ·exact .inl (by rw[hz];rfl)
  ·obtain⟨hA,hle,-⟩:=ht.at_ hz
   refine .inr fun i b hi g hg=>?_
   rcases lk_cons (l:=mem++C.fm) hi with⟨rfl,rfl⟩ | ⟨_,hi⟩
   ·have hz2:s.cells≠[]:=fun q=>hg.1 (by rw[q];rfl)
    obtain⟨hA2,hle2,-⟩:=hc.at_ hz2
    have hg2:=hg.2
    unfold bno at hg2
    rw[setPl_same,hA2] at hg2
    simp at hg2
    rw[hA]
    simp
    rw[← hg2]
    exact hne hz hz2
   ·rw[brd_ren (setPl_lt ρ _ (h0.mlt i b hi).1)] at hg
    have:=hlt i b hi g hg
    rw[hA]
    simp
    omega)
 have q1:stPl ρ nx y s nx=⟨y.ac,4,s.cells.length,false,noSub⟩:=by
  unfold stPl
  rw[setPl_lt _ _ (Nat.lt_succ_self _),setPl_same]
 have q2:stPl ρ nx y s (nx+1)=⟨y.at_,12,s.tenants.length,false,noSub⟩:=setPl_same _ _ _
 refine⟨h2,?_,?_,⟨fun i hi=>?_,by omega⟩⟩
 ·rw[den_st]
  simp[stX,q1,q2]
 ·intro u hu
  simp at hu
  rcases hu with rfl | rfl | rfl | rfl | rfl | rfl | rfl | rfl
  ·trivial
  ·trivial
  ·exact⟨show nx+1<nx+2 by omega,by show (stPl ρ nx y s (nx+1)).res=false;rw[q2]⟩
  ·exact⟨show nx<nx+2 by omega,by show (stPl ρ nx y s nx).res=false;rw[q1]⟩
  all_goals trivial
 ·unfold stPl
  rw[setPl_lt _ _ (Nat.lt_succ_of_lt hi),setPl_lt _ _ hi]
end
/-! ref12.Copied -/
def SlO {α:Type} (mem:AM) (sz:Nat) (enc:α→List Value) (d:α) (l:List α) (v:Value) (r:Nat):Prop:=
 ∃ n' cap t n el,v=slc r n' cap∧n'=l.length∧lk mem r=some (.row t sz n el)∧ownT t=true∧l.length≤n∧∀ k,k<l.length→el k=enc (l.getD k d)
theorem MemAt.slO {C:Ctx} {ρ:Nat→Pl} {mem:AM} {nx:Nat} {w:World} (h:MemAt C ρ mem nx w) (hbor:C.bor=[]) {α:Type} {enc:α→List Value} {sz:Nat} (hsz:∀ x,(enc x).length=sz) (hpos:0<sz) {l:List α} {d:α} {v:Value} {r:Nat} (hi:SlO mem sz enc d l v r) :
  ∃ c b,den1 ρ v=.slice (ρ r).A l.length c∧OwnL C.w0.heap.size w (ρ r).A sz enc d l b∧(l≠[]→bno ρ r=some b):=by
 obtain⟨n',cap,t,n,el,rfl,rfl,h1,h0,h2,h3⟩:=hi
 obtain⟨q1,q2,q3⟩:=h.blk r _ h1
 by_cases hl:l=[]
 ·refine⟨cap,0,rfl,⟨fun q=>absurd hl q,fun k hk=>by rw[hl] at hk;cases hk⟩,fun q=>absurd hl q⟩
 ·have hl0:0<l.length:=List.length_pos_iff.2 hl
  rcases q3 with q | ⟨b,off,hA,hat,hc⟩
  ·omega
  ·obtain⟨rfl,hb,ty,cs,hblk⟩:=hat.own h0
   refine⟨cap,b,rfl,⟨fun _=>⟨hA,hb,ty,cs,hblk⟩,fun k hk j v hv=>?_⟩,fun _=>by simp[bno,hA]⟩
   have:=hc k (by omega) j v (by rw[h3 k hk];exact hv)
   rw[Nat.zero_add] at this
   exact this
set_option maxRecDepth 100000 in
set_option maxHeartbeats 4000000 in
theorem copied_sx (y:StK) (s:St) (hm:s.tenants.length≤1000000) (hm2:s.cells.length≤1000000) :
  sx tt [] [] (bodyOf Try.f62) (argF 0 [stV SN1 y s]) (rdM noC s noS) 10 (endx tt Try.f62.results.toList fun v mem' _=>∃ T Cc rT rC,rT≠rC∧v=.agg #[.int .i64 s.tick,.int .i64 s.count,T,Cc,.int .i64 s.proven,.int .i64 s.evac,.int .i64 s.low,.int .i64 s.high]∧SlO mem' 12 tsC default s.tenants T rT∧SlO mem' 4 csC default s.cells Cc rC):=by
 refine⟨⟨Nat.le_refl _,fun k hk=>rfl⟩,?_⟩
 refine⟨⟨rfl,Nat.le_refl _⟩,fun hin elT ⟨g1,_⟩ g2=>?_,fun hgt=>⟨by show (0+s.tenants.length) * 88≤140737488355328;omega,fun capT elT ⟨hcT,_⟩ g1 g2=>?_⟩⟩
 ·have helT:∀ k,k<s.tenants.length→elT k=tsC (s.tenants.getD k default):=fun k hk=>by have:=g2 k hk;rw[Nat.zero_add] at this;exact this
  clear g1 g2
  have hzT:s.tenants.length≤0:=by omega
  refine⟨⟨Nat.le_refl _,fun k hk=>rfl⟩,?_⟩
  refine⟨⟨rfl,Nat.le_refl _⟩,fun hin elC ⟨g1,_⟩ g2=>?_,fun hgt=>⟨by show (0+s.cells.length) * 32≤140737488355328;omega,fun capC elC ⟨hcC,_⟩ g1 g2=>?_⟩⟩
  ·have helC:∀ k,k<s.cells.length→elC k=csC (s.cells.getD k default):=fun k hk=>by have:=g2 k hk;rw[Nat.zero_add] at this;exact this
   clear g1 g2
   have hzC:s.cells.length≤0:=by omega
   exact⟨_,_,12,13,by decide,rfl,⟨_,_,_,_,elT,rfl,Nat.zero_add _,rfl,rfl,hzT,helT⟩,⟨_,_,_,_,elC,rfl,Nat.zero_add _,rfl,rfl,hzC,helC⟩⟩
  ·have helC:∀ k,k<s.cells.length→elC k=csC (s.cells.getD k default):=fun k hk=>by have:=g2 k hk;rw[Nat.zero_add] at this;exact this
   clear g1 g2
   have hzC:s.cells.length≤capC:=by omega
   exact⟨_,_,12,14,by decide,rfl,⟨_,_,_,_,elT,rfl,Nat.zero_add _,rfl,rfl,hzT,helT⟩,⟨_,_,_,_,elC,rfl,Nat.zero_add _,rfl,rfl,hzC,helC⟩⟩
 ·have helT:∀ k,k<s.tenants.length→elT k=tsC (s.tenants.getD k default):=fun k hk=>by have:=g2 k hk;rw[Nat.zero_add] at this;exact this
  clear g1 g2
  have hzT:s.tenants.length≤capT:=by omega
  refine⟨⟨Nat.le_refl _,fun k hk=>rfl⟩,?_⟩
  refine⟨⟨rfl,Nat.le_refl _⟩,fun hin elC ⟨g1,_⟩ g2=>?_,fun hgt=>⟨by show (0+s.cells.length) * 32≤140737488355328;omega,fun capC elC ⟨hcC,_⟩ g1 g2=>?_⟩⟩
  ·have helC:∀ k,k<s.cells.length→elC k=csC (s.cells.getD k default):=fun k hk=>by have:=g2 k hk;rw[Nat.zero_add] at this;exact this
   clear g1 g2
   have hzC:s.cells.length≤0:=by omega
   exact⟨_,_,13,14,by decide,rfl,⟨_,_,_,_,elT,rfl,Nat.zero_add _,rfl,rfl,hzT,helT⟩,⟨_,_,_,_,elC,rfl,Nat.zero_add _,rfl,rfl,hzC,helC⟩⟩
  ·have helC:∀ k,k<s.cells.length→elC k=csC (s.cells.getD k default):=fun k hk=>by have:=g2 k hk;rw[Nat.zero_add] at this;exact this
   clear g1 g2
   have hzC:s.cells.length≤capC:=by omega
   exact⟨_,_,13,15,by decide,rfl,⟨_,_,_,_,elT,rfl,Nat.zero_add _,rfl,rfl,hzT,helT⟩,⟨_,_,_,_,elC,rfl,Nat.zero_add _,rfl,rfl,hzC,helC⟩⟩
theorem rd_callsM {τ:TT} (hτ:TTok Try.prog τ) {f:FuncId} {fn:Func} {F:FT} {D:List (Nat×DQ)} (hF:FTokI Try.prog F (inlOf D)) (hf:(Try.prog).funcs[f]?=some fn) (hb:fn.body=some (bodyOf fn)) (hcode:codeB fn.ntmps D (bodyOf fn)=true) {vs:List Value} (hn:Nat.ble vs.length fn.ntmps=true)
  (x:CfgA) (c:Cfg) (y:StA) (s:St) (y2:StA) (s2:St) (w:World) (hc:CfgOk w (·<w.heap.size) x c) (hs:StOk w (·<w.heap.size) y s) (hs2:StOk w (·<w.heap.size) y2 s2) (hv:∀ v ∈ vs,okV (rpl x c y s y2 s2) 10 v) {R:Value→AM→Nat→Prop}
  (h:sx τ F D (bodyOf fn) (argF 0 vs) (rdM c s s2) 10 (endx τ fn.results.toList R)) :
  Calls Try.prog f (vs.map (den (rpl x c y s y2 s2))).toArray w fun e w'=>∃ v mem' nx' ρ',e=.returned (den ρ' v)∧R v mem' nx'∧okV ρ' nx' v∧MemAt { w0:=w,bor:=[],n0:=10,ρ0:=rpl x c y s y2 s2,nt:=fn.ntmps } ρ' mem' nx' w'∧Below w.heap.size w w':=by
 have hpc:CfgPl (rpl x c y s y2 s2) CN1 x c:=⟨rfl,rfl,rfl,rfl,rfl,rfl⟩
 have hps:StPl (rpl x c y s y2 s2) SN1 y s:=⟨rfl,rfl⟩
 have hps2:StPl (rpl x c y s y2 s2) SN2 y2 s2:=⟨rfl,rfl⟩
 have hm:MemAt { w0:=w,bor:=[],n0:=10,ρ0:=rpl x c y s y2 s2,nt:=fn.ntmps } (rpl x c y s y2 s2) (rdM c s s2) 10 w:=MemAt.rows trivial (cfg_blks hpc hc (fun b hb=>hb) (by decide) (st_blks hps hs (fun b hb=>hb) (by decide) (by
  have:=st_blks (C:={ w0:=w,bor:=[],n0:=10,ρ0:=rpl x c y s y2 s2,nt:=fn.ntmps }) (nx:=10) (r:=[]) hps2 hs2 (fun b hb=>hb) (by decide) trivial
  exact this)))
 refine (calls_sxI hτ hF mixed hf hb hcode (vs:=vs) hn ⟨rfl,rfl⟩ rfl hm hv h).mono ?_
 rintro e w' ⟨v,mem',nx',ρ',rfl,hR,hv',hm'⟩
 exact⟨v,mem',nx',ρ',rfl,hR,hv',hm',⟨hm'.rest.os,hm'.rest.tape,hm'.rest.output,hm'.rest.size,fun b hlt=>hm'.rest.block b hlt (by simp)⟩⟩
theorem Sat.stRow {C:Ctx} {ρ:Nat→Pl} {fr:AF} {mem:AM} {nx:Nat} {a:Act} {w:World} (h:Sat C ρ fr mem nx a w) {M:SN} {y:StK} {s:St} (h1:HasRow mem M.t 12 tsC default s.tenants) (h2:HasRow mem M.c 4 csC default s.cells):StOk w (·<w.heap.size) (stX ρ M y) s:=
 ⟨h.hasRd (enc:=tsC) (sz:=12) (fun _=>rfl) (by omega) h1,h.hasRd (enc:=csC) (sz:=4) (fun _=>rfl) (by omega) h2⟩
theorem MemAt.own2 {C:Ctx} {ρ:Nat→Pl} {mem:AM} {nx:Nat} {w:World} (hm:MemAt C ρ mem nx w) (hbor:C.bor=[]) {s:St} {T Cc:Value} {rT rC:Nat} (hne:rT≠rC) (hT:SlO mem 12 tsC default s.tenants T rT) (hC:SlO mem 4 csC default s.cells Cc rC) :
  ∃ y2,den2 ρ (.agg #[.int .i64 s.tick,.int .i64 s.count,T,Cc,.int .i64 s.proven,.int .i64 s.evac,.int .i64 s.low,.int .i64 s.high])=.agg (stC y2 s)∧StOwn2 C.w0.heap.size w y2 s:=by
 obtain⟨c1,b1,e1,o1,p1⟩:=hm.slO hbor (enc:=tsC) (sz:=12) (fun _=>rfl) (by omega) hT
 obtain⟨c2,b2,e2,o2,p2⟩:=hm.slO hbor (enc:=csC) (sz:=4) (fun _=>rfl) (by omega) hC
 refine⟨⟨(ρ rT).A,c1,(ρ rC).A,c2⟩,?_,⟨b1,b2,o1,o2,fun h1 h2=>?_⟩⟩
 ·have d:∀ v,den1 ρ (.int .i64 v)=.int .i64 v:=fun _=>rfl
  simp[den,den2,stC,d,e1,e2]
 ·obtain⟨_,_,_,n1,_,_,_,l1,t1,g1,_⟩:=hT
  obtain⟨_,_,_,n2,_,_,_,l2,t2,g2,_⟩:=hC
  have hl1:0<s.tenants.length:=List.length_pos_iff.2 h1
  have hl2:0<s.cells.length:=List.length_pos_iff.2 h2
  have:=hm.sep rT rC _ _ hne l1 l2
  simp only[Apart] at this
  rcases this t1 with q | q | q
  ·omega
  ·omega
  ·rw[p1 h1,p2 h2] at q
   exact fun h=>q (by rw[h])
theorem OwnL.rd {α:Type} {B:Nat} {w:World} {A:Option Addr} {sz:Nat} {enc:α→List Value} {d:α} {l:List α} {b:Nat} (h:OwnL B w A sz enc d l b) (hs:∀ x,(enc x).length=sz) (hpos:0<sz):Rd w (fun b=>B≤b∧b<w.heap.size) A (flat enc l):=by
 intro hne
 have hl:l≠[]:=fun q=>hne (by rw[q];rfl)
 obtain⟨hA,hb,ty,cs,hblk⟩:=h.at_ hl
 refine⟨b,0,hA,⟨hb,hblk.lt⟩,fun j v hv=>?_⟩
 obtain⟨x,h1,h2⟩:=flat_at hs hpos l j v hv
 have hlt:j / sz<l.length:=(List.getElem?_eq_some_iff.1 h1).1
 have hx:l.getD (j / sz) d=x:=by rw[List.getD_eq_getElem?_getD,h1];rfl
 have:=h.cells (j / sz) hlt (j % sz) v (by rw[hx];exact h2)
 rw[Nat.zero_add]
 have e:j / sz * sz+j % sz=j:=by rw[Nat.mul_comm];exact Nat.div_add_mod j sz
 rw[e] at this
 exact this
theorem StOwn2.ok {B:Nat} {w:World} {y:StA} {s:St} (h:StOwn2 B w y s):StOk w (fun b=>B≤b∧b<w.heap.size) y s:=by
 obtain⟨bt,bc,ht,hc,-⟩:=h.ex
 exact⟨ht.rd (fun _=>rfl) (by omega),hc.rd (fun _=>rfl) (by omega)⟩
theorem StOwn2.zero (B:Nat) (w:World):StOwn2 B w noA St.zero:=
 ⟨0,0,⟨fun q=>absurd rfl q,fun k hk=>absurd hk (by simp[St.zero])⟩,⟨fun q=>absurd rfl q,fun k hk=>absurd hk (by simp[St.zero])⟩,fun q=>absurd rfl q⟩
end Go.Proofs.Ytbmlgcjoeeejbaa
