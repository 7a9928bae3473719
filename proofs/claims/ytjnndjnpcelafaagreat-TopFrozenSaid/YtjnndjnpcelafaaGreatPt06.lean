import Derived.Test.YtjnndjnpcelafaaGreatPt05
namespace Go.Proofs.YtjnndjnpcelafaaGreat
set_option maxHeartbeats 16000000
set_option maxRecDepth 100000
open Go.RowKit
set_option linter.unusedSimpArgs false
set_option linter.unusedVariables false
def za1 (f:Func):Code:=match f.body with | some c=>c | none=>.skip
abbrev ptr (i:Nat):Value:=.pointer (some ⟨i,0,none⟩)
abbrev slc (i n c:Nat):Value:=.slice (some ⟨i,0,none⟩) n c
abbrev zb6 (l:List Int):ABlk:=.row 3 1 l.length (fun j=>zaw (l.getD j 0))
abbrev zaU (r n cap:Nat) (k:Int):ABlk:=.box 144 [slc r n cap,.int .i64 k]
theorem zaf {n:Int} (h:-9223372036854775808<=n/\n<=9223372036854775807):IntKind.i64.wrap n=n:=by rw[IntKind.wrap_i64];omega
theorem CSound.val {P : Program} {f : FuncId} {ct : CT} (ent : (P.funcs[f]?).map (fun fn => (fn.name == "runtime.NumGoroutine", fn.body.isNone)) = some (false, false))
  (h:∀ (vs:List Value) (mem:AM) (nx:Nat) (K:Value->AM->Nat->Prop),ct vs mem nx K->∃ v,K v mem nx/\zam v/\zcW v=true/\∀ (ρ:Nat->Pl) (w:World),Calls P f (vs.map (den ρ)).toArray w fun e w'=>e=.returned v/\Below w.heap.size w w'):CSound P f ct:=
 ⟨ent,fun {C ρ fr mem nx a w vs K} hc hs hv=>by
  obtain⟨v,hK,hp,ha,hcall⟩:=h vs mem nx K hc
  refine (hcall ρ w).mono fun e w' ⟨he,hb⟩=>?_
  have hd:den ρ v=v:=by rw[zbU ha,zaM hp]
  exact⟨v,mem,nx,ρ,by rw[hd];exact he,hK,hs.later hb,by rw[zcV ha];exact zbO hp,ExtS.refl _ _⟩⟩
def ctMod:CT:=fun vs mem nx K=>∃ v n,vs=[.int .i64 v,.int .i64 n]/\(1<=n/\n<=2147483648)/\K (.int .i64 (v % n)) mem nx
theorem modOk:CSound Tryz.prog 13 ctMod:=CSound.val k_ (by
 rintro vs mem nx K ⟨v,n,rfl,hn,hK⟩;refine⟨_,hK,trivial,rfl,fun ρ w=>?_⟩;refine (zhO v n w hn.1 hn.2).mono ?_;rintro e w' ⟨rfl,rfl⟩
 exact⟨rfl,Below.refl _ _⟩)
theorem zan {P:Program} {f:FuncId} {ct:CT} {r:FT} (h:CSound P f ct) (hr:FTok P r):FTok P ((f,ct)::r):=fun g c hl=>by
 rcases za5 hl with⟨rfl,rfl⟩ | ⟨_,hl⟩
 ·exact h
 ·exact hr g c hl
theorem zb7 {P:Program}:FTok P []:=fun g c hl=>by simp[lk] at hl
structure TpAt (w:World) (g:Nat) (A:Option Addr) (cap:Nat) (zs:List Int) (k:Int):Prop where
 row:Rd w (fun b=>b≠g/\b<w.heap.size) A (zaJ zaw zs)
 blk:Blk w g 144 #[.slice A zs.length cap,.int .i64 k]
abbrev Adv (zs:List Int) (k k':Int):Prop:=k<=k'/\k'<=k+1/\(zs.length≠0->k'=k+1)
def NextR (zs:List Int) (n k r k':Int):Prop:=(0<=r/\r<n)/\Adv zs k k'
def nextF:FT:=[(13,ctMod)]
theorem nextFok:FTok Tryz.prog nextF:=zan modOk zb7
def nextD:List (Nat×DQ):=[
 (3,{ k:=16,L:=[0,1],pre:=[(0,false),(1,false),(2,false),(3,false),(4,false),(5,false),(6,false),(7,false),(8,false),(9,false),(10,false),(11,false),(12,false),(13,true),(14,true),(15,false)] }),
 (4,{ k:=10,L:=[0,1],pre:=[(0,false),(1,false),(2,false),(3,false),(4,false),(5,false),(6,false),(7,false),(8,false),(9,true)] })]
theorem next_sx (cap:Nat) (zs:List Int) (k n:Int) (hz:zs.length<=400) (hk:0<=k/\k<=1000000) (hn:1<=n/\n<=1000000) :
  sx tt nextF nextD (za1 Tryz.f31) (zb3 0 [ptr 0,.int .i64 n]) [(0,zaU 1 zs.length cap k),(1,zb6 zs)] 2
   (zb8 tt [.tmp 4] fun v mem' _=>∃ k',(∃ n' r,[Value.int .i64 n]=[.int .i64 n']/\v=.int .i64 r/\NextR zs n' k r k')/\(zam v/\zcW v=true)/\lk mem' 0=some (zaU 1 zs.length cap k')):=by
 refine⟨fun h0=>?_,fun h0=>?_⟩
 ·have hz0:(zs.length:Int)=0:=by simpa using h0
  exact⟨k,⟨n,0,rfl,rfl,⟨o_,o_⟩,o_,o_,o_⟩,⟨trivial,rfl⟩,rfl⟩
 ·have hpos:(zs.length:Int)≠0:=by simpa using h0
  refine⟨⟨rfl,hpos⟩,⟨rfl,rfl,trivial⟩,⟨nl_,?i1,?i2⟩,⟨rfl,rfl,trivial⟩,⟨rfl,hpos⟩,⟨rfl,rfl,trivial⟩,?rest⟩;case i1=>exact Int.tmod_nonneg _ hk.1
  case i2=>exact Int.tmod_lt_of_pos _ o_
  refine⟨_,_,rfl,d_,?_⟩;refine⟨_,_,rfl,o_,?_⟩;refine⟨k+1,⟨n,_,rfl,rfl,⟨Int.emod_nonneg _ o_,Int.emod_lt_of_pos _ o_⟩,o_,o_,fun _=>rfl⟩,⟨trivial,rfl⟩,?_⟩;show some (zaU 1 zs.length cap (IntKind.i64.wrap (k+1)))=_;rw[zaf o_]
theorem zdK {f:FuncId} {fn:Func} {F:FT} {D:List (Nat×DQ)} (hF:FTok Tryz.prog F) (hf:(Tryz.prog).funcs[f]?=some fn) (hb:fn.body=some (za1 fn)) (hcode:zc6 fn.ntmps D (za1 fn)=true) {args:List Value} (hn:Nat.ble (args.length+1) fn.ntmps=true) (hargs:∀ v ∈ args,zam v/\zcW v=true)
  (g:Nat) (A:Option Addr) (cap:Nat) (zs:List Int) (k:Int) (w:World) (ht:TpAt w g A cap zs k) {R:Value->Int->Prop}
  (h:sx tt F D (za1 fn) (zb3 0 (ptr 0::args)) [(0,zaU 1 zs.length cap k),(1,zb6 zs)] 2 (zb8 tt fn.results.toList fun v mem' _=>∃ k',R v k'/\(zam v/\zcW v=true)/\lk mem' 0=some (zaU 1 zs.length cap k'))) :
  Calls Tryz.prog f (.pointer (some ⟨g,0,none⟩)::args).toArray w fun e w'=>∃ v k',R v k'/\(zam v/\zcW v=true)/\e=.returned v/\TpAt w' g A cap zs k'/\w.grownBy w' (some g):=by
 let ρ:Nat->Pl:=fun j=>match j with | 0=>⟨some ⟨g,0,none⟩,0,0,false,za4⟩ | _=>⟨A,1,zs.length,false,za4⟩
 have hrow:∀ C nx,BlkOk C ρ nx 1 w (zb6 zs):=fun C nx=>zaL (enc:=zaw) (sz:=1) (fun _=>rfl) o_ (fun x v hv=>by simp[zaw] at hv;subst hv;trivial) 0 rfl ht.row (fun b hb=>hb.2)
 have hm:=MemAt.one (ρ:=ρ) (nx:=2) (nt:=fn.ntmps) (w:=w) (mem:=[(1,zb6 zs)]) (g:=g) (i:=0) (t:=144) (cs:=[slc 1 zs.length cap,.int .i64 k]) trivial o_ rfl
  ⟨g,rfl,by
   have:=ht.blk
   simpa [zal,zau,zaq,ρ] using this,.inr (by simp),fun v hv=>by
    simp at hv
    rcases hv with rfl | rfl
    ·exact⟨Nat.lt_succ_self 1,rfl⟩
    ·trivial⟩ ⟨⟨o_,rfl,hrow _ _⟩,trivial⟩ (fun j t sz n el hj=>by
   rcases za5 hj with⟨rfl,q⟩ | ⟨_,q⟩
   ·cases q
    by_cases h0:zs.length=0
    ·exact .inl h0
    ·obtain⟨b,off,x,hA,hb,-,-⟩:=ht.row.row (enc:=zaw) (sz:=1) (fun _=>rfl) o_ (k:=0) o_
     refine .inr ?_
     subst hA
     simp[bno,ρ]
     exact hb.1
   ·simp[lk] at q)
 have hden:∀ v ∈ args,den ρ v=v:=fun v hv=>by rw[zbU (hargs v hv).2,zaM (hargs v hv).1]
 have hargs2:(ptr 0::args).map (den ρ)=.pointer (some ⟨g,0,none⟩)::args:=by
  rw[List.map_cons];refine congr (congrArg List.cons rfl) ?_;conv=>rhs;rw[← List.map_id args]
  exact List.map_congr_left fun v hv=>hden v hv
 rw[← hargs2];refine (zcu zg6 hF mixed hf hb hcode (vs:=ptr 0::args) hn ⟨rfl,rfl⟩ rfl hm (fun v hv=>?_) h).mono ?_
 ·rcases List.mem_cons.1 hv with rfl | hv
  ·exact⟨⟨Nat.zero_lt_succ 1,rfl⟩,⟨g,0,rfl⟩,fun k hk=>by cases hk⟩
  ·rw[zcV (hargs v hv).2];exact zbO (hargs v hv).1
 ·rintro e w' ⟨v,mem',nx',ρ',rfl,⟨k',hr,hpl,hlk⟩,-,hm'⟩;have e0:ρ' 0=ρ 0:=hm'.low 0 (Nat.zero_lt_succ 1);have e1:ρ' 1=ρ 1:=hm'.low 1 (Nat.lt_succ_self 1);obtain⟨g',hA,hb,-,-⟩:=hm'.blk 0 _ hlk;rw[e0] at hA;cases hA
  have hgr:w.grownBy w' (some g):=⟨hm'.rest.os,hm'.rest.tape,hm'.rest.output,hm'.rest.size,fun b hlt hne=>hm'.rest.block b hlt (by simp;intro q;exact hne (by rw[q]))⟩;refine⟨v,k',hr,hpl,by rw[zbU hpl.2,zaM hpl.1],⟨?_,?_⟩,hgr⟩
  ·exact (ht.row.keep fun b hb=>hgr.block b hb.2 (by intro q;injection q with q;exact hb.1 q)).more fun b hb=>⟨hb.1,Nat.lt_of_lt_of_le hb.2 hgr.size⟩
  ·simpa [zal,zau,zaq,e1,ρ] using hb
theorem Sat.grownBox {C:Ctx} {ρ:Nat->Pl} {fr:AF} {mem:AM} {nx:Nat} {a:Act} {w w':World} (h:Sat C ρ fr mem nx a w) {i g:Nat} {t t':TypeId} {cs cs':List Value} (hi:lk mem i=some (.box t cs)) (hA:(ρ i).A=some ⟨g,0,none⟩) (hg:w.grownBy w' (some g))
  (hb:Blk w' g t' (cs'.map (zal ρ)).toArray) (hcs:∀ v ∈ cs',ok1 ρ nx v):Sat C ρ fr ((i,.box t' cs')::mem) nx a w':=by
 have hm:MemAt (Ctx.of w ρ nx [i] 0) ρ [(i,.box t' cs')] nx w':=by
  refine⟨fun j b hj=>?_,fun j b hj=>?_,fun j k b b' hne hj hk=>?_,nl_,fun _ _=>rfl,⟨hg.os,hg.tape,hg.output,hg.size,fun b hlt hn=>hg.block b hlt (by
   intro q
   injection q with q
   subst q
   exact hn (List.mem_filterMap.2 ⟨i,by simp,by simp[bno,hA]⟩))⟩⟩
  ·rcases za5 hj with⟨rfl,rfl⟩ | ⟨_,q⟩
   ·exact h.mlt _ _ (za9 hi)
   ·simp[lk] at q
  ·rcases za5 hj with⟨rfl,rfl⟩ | ⟨_,q⟩
   ·exact⟨g,hA,hb,.inr (List.mem_filterMap.2 ⟨i,by simp,by simp[bno,hA]⟩),hcs⟩
   ·simp[lk] at q
  ·rcases za5 hj with⟨rfl,rfl⟩ | ⟨_,q⟩
   ·rcases za5 hk with⟨rfl,rfl⟩ | ⟨_,q⟩
    ·exact absurd rfl hne
    ·simp[lk] at q
   ·simp[lk] at q
 refine h.after (keep:=[(i,.box t' cs')]) hm (fun j hj=>by simp at hj;subst hj;exact⟨t,cs,hi⟩) (fun j b hj=>⟨hj,?_⟩) (fun j hj=>by simp at hj;subst hj;exact⟨t',cs',zbM _ _ _⟩) (fun j t sz n el _ hj=>?_)
 ·rcases za5 hj with⟨rfl,rfl⟩ | ⟨_,q⟩
  ·exact .inl (by simp)
  ·simp[lk] at q
 ·rcases za5 hj with⟨_,q⟩ | ⟨_,q⟩
  ·cases q
  ·simp[lk] at q
theorem Sat.tape {C:Ctx} {ρ:Nat->Pl} {fr:AF} {mem:AM} {nx:Nat} {a:Act} {w:World} (h:Sat C ρ fr mem nx a w) {i r cap:Nat} {zs:List Int} {k:Int} (hi:lk mem i=some (zaU r zs.length cap k)) (hr:lk mem r=some (zb6 zs)) :
  ∃ g,(ρ i).A=some ⟨g,0,none⟩/\TpAt w g (ρ r).A cap zs k/\ok1 ρ nx (slc r zs.length cap):=by
 obtain⟨g,hA,hb,-,hcs⟩:=h.blk i _ (za9 hi);have hne:i≠r:=by rintro rfl;rw[hi] at hr;cases hr
 have hap:=h.sep i r _ _ hne (za9 hi) (za9 hr);refine⟨g,hA,⟨zex (enc:=zaw) (sz:=1) (fun _=>rfl) o_ (h.blk r _ (za9 hr)) fun hl b off hAr hlt=>⟨?_,hlt⟩,by simpa [zal,zau,zaq] using hb⟩,hcs _ (by simp)⟩;rintro rfl;rcases hap with h0 | h0
 ·exact hl h0
 ·exact h0 (by simp[bno,hA,hAr])
def zi7 (R:List Int->List Value->Int->Value->Int->Prop) (pre:List Value->Int->Prop):CT:=fun vs mem nx K=>∃ i r cap zs k args,vs=ptr i::args/\(lk mem i=some (zaU r zs.length cap k)/\lk mem r=some (zb6 zs))/\(zs.length<=400/\0<=k/\k<=1000000)/\pre args k/\∀ z k',R zs args k z k'->K z ((i,zaU r zs.length cap k')::mem) nx
theorem zjw {f : FuncId} {R : List Int -> List Value -> Int -> Value -> Int -> Prop} {pre : List Value -> Int -> Prop} (ent : ((Tryz.prog).funcs[f]?).map (fun fn => (fn.name == "runtime.NumGoroutine", fn.body.isNone)) = some (false, false))
  (hpre:∀ args k,pre args k->∀ v ∈ args,zam v/\zcW v=true)
  (h:∀ args g A cap zs k w,zs.length<=400->0<=k->k<=1000000->pre args k->TpAt w g A cap zs k->Calls Tryz.prog f (.pointer (some ⟨g,0,none⟩)::args).toArray w fun e w'=>∃ v k',R zs args k v k'/\(zam v/\zcW v=true)/\e=.returned v/\TpAt w' g A cap zs k'/\w.grownBy w' (some g)):CSound Tryz.prog f (zi7 R pre):=
 ⟨ent,fun {C ρ fr mem nx a w vs K} hc hs hv=>by
  obtain⟨i,r,cap,zs,k,args,rfl,⟨hi,hr⟩,⟨hz,hk0,hk1⟩,hp,hK⟩:=hc
  obtain⟨g,hA,ht,hok⟩:=hs.tape hi hr
  have hargs:=hpre args k hp
  have hvs:(ptr i::args).map (den ρ)=.pointer (some ⟨g,0,none⟩)::args:=by
   rw[List.map_cons]
   refine congr (congrArg List.cons ?_) ?_
   ·simp[den,zaW,zal,zau,zaq,hA]
   ·conv=>rhs;rw[← List.map_id args]
    exact List.map_congr_left fun v hv=>by rw[zbU (hargs v hv).2,zaM (hargs v hv).1];rfl
  rw[hvs]
  refine (h args g (ρ r).A cap zs k w hz hk0 hk1 hp ht).mono ?_
  rintro e w' ⟨v,k',hR,hpl,rfl,ht',hg⟩
  refine⟨v,_,nx,ρ,by rw[zbU hpl.2,zaM hpl.1],hK v k' hR,hs.grownBox (cs':=[slc r zs.length cap,.int .i64 k']) hi hA hg ?_ ?_,by rw[zcV hpl.2];exact zbO hpl.1,ExtS.refl _ _⟩
  ·simpa [zal,zau,zaq] using ht'.blk
  ·intro u hu
   simp at hu
   rcases hu with rfl | rfl
   ·exact hok
   ·trivial⟩
def zmp (lo hi:Int) (args:List Value) (k:Int):Prop:=∃ n,args=[.int .i64 n]/\lo<=n/\n<=hi
theorem zcK {lo hi:Int} (args:List Value) (k:Int) (h:zmp lo hi args k):∀ v ∈ args,zam v/\zcW v=true:=by
 obtain⟨n,rfl,-⟩:=h;intro v hv;simp at hv;subst hv;exact⟨trivial,rfl⟩
def ctNext:CT:=zi7 (fun zs args k z k'=>∃ n r,args=[.int .i64 n]/\z=.int .i64 r/\NextR zs n k r k') (zmp 1 1000000)
theorem zhM:CSound Tryz.prog 31 ctNext:=zjw k_ zcK (by
 rintro args g A cap zs k w hz hk0 hk1 ⟨n,rfl,hn⟩ ht;refine zdK nextFok Tryz.func31 rfl (D:=nextD) k_ rfl (zcK _ k ⟨n,rfl,hn⟩) g A cap zs k w ht (R:=fun z k'=>∃ n' r,[Value.int .i64 n]=[.int .i64 n']/\z=.int .i64 r/\NextR zs n' k r k') ?_
 exact (next_sx cap zs k n hz ⟨hk0,hk1⟩ hn))
def tpF:FT:=[(31,ctNext)]
theorem tpFok:FTok Tryz.prog tpF:=zan zhM zb7
def ctYes:CT:=zi7 (fun zs args k z k'=>∃ b,z=.bool b/\Adv zs k k') (zmp 1 1000000)
theorem yesOk:CSound Tryz.prog 33 ctYes:=zjw k_ zcK (by
 rintro args g A cap zs k w hz hk0 hk1 ⟨n,rfl,hn⟩ ht;refine zdK tpFok Tryz.func33 rfl (D:=[]) k_ rfl (zcK _ k ⟨n,rfl,hn⟩) g A cap zs k w ht (R:=fun z k'=>∃ b,z=.bool b/\Adv zs k k') ?_;refine⟨0,1,cap,zs,k,_,rfl,⟨rfl,rfl⟩,⟨hz,hk0,hk1⟩,⟨n,rfl,hn⟩,?_⟩;rintro z k' ⟨n',r,hnn,rfl,hr⟩
 exact⟨k',⟨_,rfl,hr.2⟩,⟨trivial,rfl⟩,rfl⟩)
def zjI (args:List Value) (k:Int):Prop:=∃ lo hi,args=[.int .i64 lo,.int .i64 hi]/\-100000<=lo/\lo<=hi/\hi<=100000
theorem ze3 (args:List Value) (k:Int) (h:zjI args k):∀ v ∈ args,zam v/\zcW v=true:=by
 obtain⟨n,m,rfl,-⟩:=h;intro v hv;simp at hv;rcases hv with rfl | rfl
 ·exact⟨trivial,rfl⟩
 ·exact⟨trivial,rfl⟩
def RangeR (zs:List Int) (args:List Value) (k:Int) (z:Value) (k':Int):Prop:=∃ lo hi r,args=[.int .i64 lo,.int .i64 hi]/\z=.int .i64 r/\(lo<=r/\r<=hi)/\Adv zs k k'
def ctRange:CT:=zi7 RangeR zjI
theorem ziD:CSound Tryz.prog 32 ctRange:=zjw k_ ze3 (by
 rintro args g A cap zs k w hz hk0 hk1 ⟨lo,hi,rfl,h1,h2,h3⟩ ht;refine zdK tpFok Tryz.func32 rfl (D:=[]) k_ rfl (ze3 _ k ⟨lo,hi,rfl,h1,h2,h3⟩) g A cap zs k w ht (R:=fun z k'=>RangeR zs _ k z k') ?_;refine⟨0,1,cap,zs,k,_,rfl,⟨rfl,rfl⟩,⟨hz,hk0,hk1⟩,⟨_,rfl,?_⟩,?_⟩
 ·rw[zaf (n:=hi-lo) o_,zaf o_];omega
 ·rintro z k' ⟨n',r,hnn,rfl,hr⟩;simp only[List.cons.injEq,Value.int.injEq,and_true,true_and] at hnn;rw[zaf (n:=hi-lo) o_,zaf o_] at hnn;subst hnn;have hr1:=hr.1;refine⟨k',⟨lo,hi,IntKind.i64.wrap (lo+r),rfl,rfl,?_,hr.2⟩,⟨trivial,rfl⟩,rfl⟩
  rw[zaf o_];omega)
theorem zmW (l:List Int):zaJ zaw l=l.map (Value.int .i64):=by
 induction l with
 | nil=>rfl
 | cons a l ih=>simp only[zaJ,List.flatMap_cons,zaw] at ih ⊢;simp[ih]
def ctTapeNew:CT:=fun vs mem nx K=>∃ r cap zs,vs=[slc r (zs:List Int).length cap]/\lk mem r=some (zb6 zs)/\zs.length<=400/\K (ptr nx) ((nx,zaU r zs.length cap 0)::mem) (nx+1)
theorem zhg:CSound Tryz.prog 29 ctTapeNew:=⟨k_,fun {C ρ fr mem nx a w vs K} hc hs hv=>by
 obtain⟨r,cap,zs,rfl,hr,hz,hK⟩:=hc;have hrd:=zex (enc:=zaw) (sz:=1) (fun _=>rfl) o_ (hs.blk r _ (za9 hr)) (S:=(·<w.heap.size)) (fun _ b off _ hlt=>hlt);rw[zmW] at hrd;have hvs:[slc r zs.length cap].map (den ρ)=[.slice (ρ r).A zs.length cap]:=by simp[den,zaW,zal,zau,zaq]
 rw[hvs];refine (zkH (ρ r).A cap zs w hz hrd).mono ?_;rintro e w' ⟨rfl,ht,hb⟩;obtain⟨e1,e2⟩:=ziI (ρ:=ρ) (nx:=nx) w.heap.size;have hrn:=hs.mlt r _ (za9 hr);have hok:ok1 (zac ρ nx ⟨some ⟨w.heap.size,0,none⟩,0,0,false,za4⟩) (nx+1) (slc r zs.length cap):=⟨by have:=hrn.1;exact Nat.lt_succ_of_lt this,by rw[za8 ρ _ hrn.1];exact hrn.2⟩;refine⟨_,_,_,zac ρ nx ⟨some ⟨w.heap.size,0,none⟩,0,0,false,za4⟩,by rw[e1],hK,hs.add hb ⟨w.heap.size,by rw[za2],?_,.inl hs.rest.size,?_⟩ (fun g hg=>by simp at hg;omega) rfl,e2,ExtS.set _ _ _⟩
 ·have hA:(zac ρ nx ⟨some ⟨w.heap.size,0,none⟩,0,0,false,za4⟩ r).A=(ρ r).A:=by rw[za8 ρ _ hrn.1]
  simpa [zal,zau,zaq,hA] using ht.blk
 ·intro u hu;simp at hu;rcases hu with rfl | rfl
  ·exact hok
  ·trivial⟩
/-! Configurations and states in the abstract memory. -/
structure CN where
 z:Nat
 c:Nat
 t:Nat
 v:Nat
 r:Nat
 o:Nat
 g:Nat
structure SN where
 t:Nat
 c:Nat
 g:Nat
structure CfgK where
 cz:Nat
 cc:Nat
 ct:Nat
 cv:Nat
 cr:Nat
 co:Nat
structure StK where
 ct:Nat
 cc:Nat
abbrev zaX (n:CN) (x:CfgK) (c:Cfg):Value:=.agg #[.int .i64 c.regions,slc n.z c.zones.length x.cz,slc n.c c.cells.length x.cc,slc n.t c.tenants.length x.ct,slc n.v c.versions.length x.cv,slc n.r c.replicas.length x.cr,slc n.o c.observers.length x.co,.int .i64 c.blast,.int .i64 c.lease,.int .i64 c.bake]
abbrev stV (n:SN) (y:StK) (s:St):Value:=.agg #[.int .i64 s.tick,.int .i64 s.count,slc n.t s.tenants.length y.ct,slc n.c s.cells.length y.cc,.int .i64 s.proven,.int .i64 s.evac,.int .i64 s.low,.int .i64 s.high]
abbrev entV' (e:Ent):Value:=.agg #[.int .i64 e.kind,.int .i64 e.tick,.int .i64 e.tenant,.int .i64 e.cell,.int .i64 e.other,.int .i64 e.epoch,.int .i64 e.since,.int .i64 e.till,.int .i64 e.n]
abbrev zaz {α:Type} (t:TypeId) (sz:Nat) (enc:α->List Value) (d:α) (l:List α):ABlk:=.row t sz l.length (fun k=>enc (l.getD k d))
abbrev zcH (n:CN) (c:Cfg):AM:=[(n.z,zaz n.g 1 zaw 0 c.zones),(n.c,zaz n.g 2 zaI (0,0) c.cells),(n.t,zaz n.g 7 zd8 default c.tenants),(n.v,zaz n.g 2 zaI (0,0) c.versions),(n.r,zaz n.g 1 zaw 0 c.replicas),(n.o,zaz n.g 1 zaw 0 c.observers)]
abbrev stM (n:SN) (s:St):AM:=[(n.t,zaz n.g 12 tsC default s.tenants),(n.c,zaz n.g 4 csC default s.cells)]
def zdp (ρ:Nat->Pl) (n:CN) (x:CfgK):CfgA:=⟨(ρ n.z).A,x.cz,(ρ n.c).A,x.cc,(ρ n.t).A,x.ct,(ρ n.v).A,x.cv,(ρ n.r).A,x.cr,(ρ n.o).A,x.co⟩
def stX (ρ:Nat->Pl) (n:SN) (y:StK):StA:=⟨(ρ n.t).A,y.ct,(ρ n.c).A,y.cc⟩
theorem zaP (ρ:Nat->Pl) (n:CN) (x:CfgK) (c:Cfg):den ρ (zaX n x c)=.agg (zaH (zdp ρ n x) c):=by simp[den,zaW,zal,zau,zaq,zaH,zdp]
theorem zc3 (ρ:Nat->Pl) (n:SN) (y:StK) (s:St):den ρ (stV n y s)=.agg (stC (stX ρ n y) s):=by simp[den,zaW,zal,zau,zaq,stC,stX]
theorem zaS:∀ x,∀ v ∈ zaw x,zam v:=fun x v hv=>by simp[zaw] at hv;subst hv;trivial
theorem zdb:∀ x,∀ v ∈ zaI x,zam v:=fun x v hv=>by simp[zaI] at hv;rcases hv with rfl | rfl<;>trivial
theorem zgn:∀ x,∀ v ∈ zd8 x,zam v:=fun x v hv=>by simp[zd8] at hv;rcases hv with rfl | rfl | rfl | rfl | rfl | rfl | rfl<;>trivial
theorem zer:∀ x,∀ v ∈ tsC x,zam v:=fun x v hv=>by simp[tsC] at hv;rcases hv with rfl | rfl | rfl | rfl | rfl | rfl | rfl | rfl | rfl | rfl | rfl | rfl<;>trivial
theorem zeL:∀ x,∀ v ∈ csC x,zam v:=fun x v hv=>by simp[csC] at hv;rcases hv with rfl | rfl | rfl | rfl<;>trivial
theorem zf0:∀ x,∀ v ∈ zbe x,zam v:=fun x v hv=>by simp[zbe] at hv;rcases hv with rfl | rfl | rfl | rfl | rfl | rfl | rfl | rfl | rfl<;>trivial
section
variable {C:Ctx} {ρ:Nat->Pl} {fr:AF} {mem:AM} {nx:Nat} {a:Act} {w:World}
structure CfgPl (ρ:Nat->Pl) (n:CN) (x:CfgA) (c:Cfg):Prop where
 z:ρ n.z=⟨x.az,1,c.zones.length,false,za4⟩
 cc:ρ n.c=⟨x.ac,2,c.cells.length,false,za4⟩
 tt:ρ n.t=⟨x.at_,7,c.tenants.length,false,za4⟩
 v:ρ n.v=⟨x.av,2,c.versions.length,false,za4⟩
 r:ρ n.r=⟨x.ar,1,c.replicas.length,false,za4⟩
 o:ρ n.o=⟨x.ao,1,c.observers.length,false,za4⟩
structure StPl (ρ:Nat->Pl) (n:SN) (y:StA) (s:St):Prop where
 t:ρ n.t=⟨y.at_,12,s.tenants.length,false,za4⟩
 c:ρ n.c=⟨y.ac,4,s.cells.length,false,za4⟩
theorem zcg {t:TypeId} (h:frT t=false):zc1 t=false:=by
 cases ho:zc1 t with
 | false=>rfl
 | true=>have:=frT_own ho;rw[h] at this;cases this
theorem zcR {n:CN} {x:CfgA} {c:Cfg} {S:Nat->Prop} (hp:CfgPl ρ n x c) (hc:CfgOk w S x c) (hS:∀ b,S b->b<w.heap.size) (hn:n.z<nx/\n.c<nx/\n.t<nx/\n.v<nx/\n.r<nx/\n.o<nx) {r:AM} (hr:zdI C ρ nx w r) (hg:frT n.g=false:=by rfl):zdI C ρ nx w (zcH n c++r):=
 ⟨⟨hn.1,by rw[hp.z],zaL (enc:=zaw) (sz:=1) (fun _=>rfl) o_ zaS 0 hp.z hc.zones hS (zcg hg) (fun h=>by rw[hg] at h;cases h)⟩,⟨hn.2.1,by rw[hp.cc],zaL (enc:=zaI) (sz:=2) (fun _=>rfl) o_ zdb (0,0) hp.cc hc.cells hS (zcg hg) (fun h=>by rw[hg] at h;cases h)⟩,
  ⟨hn.2.2.1,by rw[hp.tt],zaL (enc:=zd8) (sz:=7) (fun _=>rfl) o_ zgn default hp.tt hc.tenants hS (zcg hg) (fun h=>by rw[hg] at h;cases h)⟩,⟨hn.2.2.2.1,by rw[hp.v],zaL (enc:=zaI) (sz:=2) (fun _=>rfl) o_ zdb (0,0) hp.v hc.versions hS (zcg hg) (fun h=>by rw[hg] at h;cases h)⟩,
  ⟨hn.2.2.2.2.1,by rw[hp.r],zaL (enc:=zaw) (sz:=1) (fun _=>rfl) o_ zaS 0 hp.r hc.replicas hS (zcg hg) (fun h=>by rw[hg] at h;cases h)⟩,⟨hn.2.2.2.2.2,by rw[hp.o],zaL (enc:=zaw) (sz:=1) (fun _=>rfl) o_ zaS 0 hp.o hc.observers hS (zcg hg) (fun h=>by rw[hg] at h;cases h)⟩,hr⟩
theorem zed {n:SN} {y:StA} {s:St} {S:Nat->Prop} (hp:StPl ρ n y s) (hc:StOk w S y s) (hS:∀ b,S b->b<w.heap.size) (hn:n.t<nx/\n.c<nx) {r:AM} (hr:zdI C ρ nx w r) (hg:frT n.g=false:=by rfl):zdI C ρ nx w (stM n s++r):=
 ⟨⟨hn.1,by rw[hp.t],zaL (enc:=tsC) (sz:=12) (fun _=>rfl) o_ zer default hp.t hc.tenants hS (zcg hg) (fun h=>by rw[hg] at h;cases h)⟩,⟨hn.2,by rw[hp.c],zaL (enc:=csC) (sz:=4) (fun _=>rfl) o_ zeL default hp.c hc.cells hS (zcg hg) (fun h=>by rw[hg] at h;cases h)⟩,hr⟩
theorem Sat.rd (h:Sat C ρ fr mem nx a w) {α:Type} {enc:α->List Value} {sz:Nat} (hsz:∀ x,(enc x).length=sz) (hpos:0<sz) {l:List α} {d:α} {i:Nat} {t:TypeId} (hi:lk mem i=some (zaz t sz enc d l)) {S:Nat->Prop}
  (hS:∀ b,b<w.heap.size->(∀ j t cs,lk mem j=some (.box t cs)->bno ρ j≠some b)->S b):Rd w S (ρ i).A (zaJ enc l):=
 zex hsz hpos (h.blk i _ (za9 hi)) fun hl b off hA hlt=>hS b hlt fun j t cs hj he=>by
  have hne:j≠i:=by rintro rfl;rw[hi] at hj;cases hj
  rcases h.sep j i _ _ hne (za9 hj) (za9 hi) with h0 | h0
  ·exact hl h0
  ·exact h0 (by rw[he];simp[bno,hA])
theorem Sat.cfg (h:Sat C ρ fr mem nx a w) {n:CN} {x:CfgK} {c:Cfg} (hk:keeps mem (zcH n c)) {S:Nat->Prop} (hS:∀ b,b<w.heap.size->(∀ j t cs,lk mem j=some (.box t cs)->bno ρ j≠some b)->S b):CfgOk w S (zdp ρ n x) c:=by
 obtain⟨k1,k2,k3,k4,k5,k6,-⟩:=hk;exact⟨h.rd (enc:=zaw) (sz:=1) (fun _=>rfl) o_ k1 hS,h.rd (enc:=zaI) (sz:=2) (fun _=>rfl) o_ k2 hS,h.rd (enc:=zd8) (sz:=7) (fun _=>rfl) o_ k3 hS,h.rd (enc:=zaI) (sz:=2) (fun _=>rfl) o_ k4 hS,h.rd (enc:=zaw) (sz:=1) (fun _=>rfl) o_ k5 hS,h.rd (enc:=zaw) (sz:=1) (fun _=>rfl) o_ k6 hS⟩
theorem Sat.st (h:Sat C ρ fr mem nx a w) {n:SN} {y:StK} {s:St} (hk:keeps mem (stM n s)) {S:Nat->Prop} (hS:∀ b,b<w.heap.size->(∀ j t cs,lk mem j=some (.box t cs)->bno ρ j≠some b)->S b):StOk w S (stX ρ n y) s:=by
 obtain⟨k1,k2,-⟩:=hk;exact⟨h.rd (enc:=tsC) (sz:=12) (fun _=>rfl) o_ k1 hS,h.rd (enc:=csC) (sz:=4) (fun _=>rfl) o_ k2 hS⟩
end
def zbJ:Value->Prop
 | .agg cs=>∀ v ∈ cs,zam v
 | .tuple _=>False
 | .func _ _ _=>False
 | v=>zam v
theorem zag {v:Value} (h:zbJ v) (ρ:Nat->Pl) (n:Nat):den ρ v=v/\okV ρ n v:=by
 cases v with
 | agg cs=>
  refine⟨?_,fun u hu=>zbO (h u hu)⟩;show Value.agg (cs.map (zal ρ))=_;congr 1
  conv=>rhs;rw[← Array.map_id cs]
  exact Array.map_congr_left fun u hu=>zaM (h u hu)
 | tuple vs=>exact h.elim
 | func f a b=>exact h.elim
 | pointer p=>cases p with
  | none=>exact⟨rfl,trivial⟩
  | some a=>exact h.elim
 | slice p k c=>cases p with
  | none=>exact⟨rfl,trivial⟩
  | some a=>exact h.elim
 | map p=>cases p with
  | none=>exact⟨rfl,trivial⟩
  | some a=>exact h.elim
 | _=>exact⟨rfl,trivial⟩
theorem zap (e:Ent):zbJ (entV' e):=fun v hv=>by
 simp at hv;rcases hv with rfl | rfl | rfl | rfl | rfl | rfl | rfl | rfl | rfl<;>trivial
def HasRow {α:Type} (mem:AM) (r sz:Nat) (enc:α->List Value) (d:α) (l:List α):Prop:=∃ t n el,lk mem r=some (.row t sz n el)/\l.length<=n/\∀ k,k<l.length->el k=enc (l.getD k d)
theorem BlkOk.rdOf {C:Ctx} {ρ:Nat->Pl} {nx i:Nat} {w:World} {t:TypeId} {sz n:Nat} {el:Nat->List Value} {α:Type} {enc:α->List Value} {l:List α} {d:α} (h:BlkOk C ρ nx i w (.row t sz n el)) (hl:l.length<=n) (he:∀ k,k<l.length->el k=enc (l.getD k d)) (hs:∀ x,(enc x).length=sz) (hpos:0<sz) {S:Nat->Prop} (hS:l.length≠0->∀ b off,(ρ i).A=some ⟨b,off,none⟩->RowA C.ok w t b off->S b):Rd w S (ρ i).A (zaJ enc l):=by
 obtain⟨-,-,h3⟩:=h;intro hne;have hl0:l.length≠0:=by
  intro h0;rw[List.eq_nil_of_length_eq_zero h0] at hne;exact hne rfl
 rcases h3 with h0 | ⟨b,off,hA,hlt,hc⟩
 ·omega
 ·refine⟨b,off,hA,hS hl0 b off hA hlt,fun j v hv=>?_⟩;obtain⟨x,h1,h2⟩:=zgZ hs hpos l j v hv;have hk:j / sz<l.length:=(List.getElem?_eq_some_iff.1 h1).1;have hx:l.getD (j / sz) d=x:=by rw[gd_,h1];rfl
  have:=hc (j / sz) o_ (j % sz) v (by rw[he _ hk,hx];exact h2);rw[← this];congr 2
  have:=Nat.div_add_mod j sz;rw[Nat.mul_comm] at this;omega
theorem Sat.hasRd {C:Ctx} {ρ:Nat->Pl} {fr:AF} {mem:AM} {nx:Nat} {a:Act} {w:World} (h:Sat C ρ fr mem nx a w) {α:Type} {enc:α->List Value} {sz:Nat} (hsz:∀ x,(enc x).length=sz) (hpos:0<sz) {l:List α} {d:α} {i:Nat} (hi:HasRow mem i sz enc d l):Rd w (·<w.heap.size) (ρ i).A (zaJ enc l):=by
 obtain⟨t,n,el,h1,h2,h3⟩:=hi;exact (h.blk i _ (za9 h1)).rdOf h2 h3 hsz hpos fun _ b off _ hr=>hr.lt
def zeO {α:Type} (mem:AM) (r sz:Nat) (enc:α->List Value) (d:α) (l:List α):Prop:=∃ t n el,lk mem r=some (.row t sz n el)/\frT t=true/\l.length<=n/\∀ k,k<l.length->el k=enc (l.getD k d)
theorem MemAt.newRd {C:Ctx} {ρ:Nat->Pl} {mem:AM} {nx:Nat} {w:World} (h:MemAt C ρ mem nx w) {α:Type} {enc:α->List Value} {sz:Nat} (hsz:∀ x,(enc x).length=sz) (hpos:0<sz) {l:List α} {d:α} {i:Nat} (hi:zeO mem i sz enc d l) (hbor:C.bor=[]:=by exact rfl):Rd w (fun b=>C.w0.heap.size<=b/\b<w.heap.size) (ρ i).A (zaJ enc l):=by
 obtain⟨t,n,el,h1,h0,h2,h3⟩:=hi;exact (h.blk i _ h1).rdOf h2 h3 hsz hpos fun _ b off _ hr=>⟨Ctx.ok_nil hbor (hr.new h0),hr.lt⟩
def SlR {α:Type} (mem:AM) (sz:Nat) (enc:α->List Value) (d:α) (l:List α) (v:Value):Prop:=
 (v=zs0/\l=[])∨∃ r cap t n el,v=slc r l.length cap/\lk mem r=some (.row t sz n el)/\frT t=true/\l.length<=n/\∀ k,k<l.length->el k=enc (l.getD k d)
theorem MemAt.slR {C:Ctx} {ρ:Nat->Pl} {mem:AM} {nx:Nat} {w:World} (h:MemAt C ρ mem nx w) {α:Type} {enc:α->List Value} {sz:Nat} (hsz:∀ x,(enc x).length=sz) (hpos:0<sz) {l:List α} {d:α} {v:Value} (hi:SlR mem sz enc d l v) (hbor:C.bor=[]:=by exact rfl) :
  ∃ A c,zal ρ v=.slice A l.length c/\Rd w (fun b=>C.w0.heap.size<=b/\b<w.heap.size) A (zaJ enc l):=by
 rcases hi with⟨rfl,rfl⟩ | ⟨r,cap,t,n,el,rfl,h1,h0,h2,h3⟩
 ·exact⟨none,0,rfl,fun h=>absurd rfl h⟩
 ·exact⟨_,cap,rfl,BlkOk.rdOf (h.blk r _ h1) h2 h3 hsz hpos fun _ b off _ hr=>⟨Ctx.ok_nil hbor (hr.new h0),hr.lt⟩⟩
theorem HasRow.list {α:Type} {mem:AM} {r sz:Nat} {enc:α->List Value} {d:α} {l:List α} {t:TypeId} (h:lk mem r=some (zaz t sz enc d l)):HasRow mem r sz enc d l:=⟨_,_,_,h,nl_,fun k hk=>rfl⟩
section
variable {C:Ctx} {ρ:Nat->Pl} {fr:AF} {mem:AM} {nx:Nat} {a:Act} {w w':World}
def FrB (C:Ctx) (ρ:Nat->Pl) (mem:AM) (B:Nat):Prop:=∀ i b,lk (mem++C.fm) i=some b->∀ g,bwr ρ i b g->g<B
theorem Sat.frB (h:Sat C ρ fr mem nx a w):FrB C ρ mem w.heap.size:=fun i b hi g hg=>(h.blk i b hi).brd_lt (zbm hg)
theorem Sat.addN (h:Sat C ρ fr mem nx a w) {b:ABlk} {p:Pl} (hp:p.res=false) (hok:BlkOk C (zac ρ nx p) (nx+1) nx w b) (h1:∀ g,bwr (zac ρ nx p) nx b g->∀ j b',lk (mem++C.fm) j=some b'->¬ brd ρ j b' g) (h2:∀ g,brd (zac ρ nx p) nx b g->∀ j b',lk (mem++C.fm) j=some b'->¬ bwr ρ j b' g) :
  Sat C (zac ρ nx p) fr ((nx,b)::mem) (nx+1) a w:=by
 have hr:∀ j,j<nx->zac ρ nx p j=ρ j:=fun j hj=>za8 ρ p hj
 have h0:=h.ren (ρ':=zac ρ nx p) (m:=nx+1) (fun j hj _=>hr j hj) (Nat.le_succ _) (fun j hj=>hr j (Nat.lt_of_lt_of_le hj h.n0));have key:∀ j b',lk (mem++C.fm) j=some b'->Apart (zac ρ nx p) nx j b b'/\Apart (zac ρ nx p) j nx b' b:=by
  intro j b' hj;have hjl:=hr j (h.mlt j b' hj).1;exact⟨hok.apart fun g hg hg2=>h1 g hg j b' hj (by rw[← zbX hjl];exact hg2),(h0.blk j b' hj).apart fun g hg hg2=>h2 g hg2 j b' hj (by rw[← zdG hjl];exact hg)⟩
 refine⟨h0.fok,h0.sz,h0.dfr,fun i b' hi=>?_,fun i b' hi=>?_,fun i j b1 b2 hne hi hj=>?_,h0.n0,h0.low,h0.rest⟩
 ·rcases za5 hi with⟨rfl,rfl⟩ | ⟨hne,hi⟩
  ·exact⟨Nat.lt_succ_self _,by rw[za2];exact hp⟩
  ·exact h0.mlt i b' hi
 ·rcases za5 hi with⟨rfl,rfl⟩ | ⟨hne,hi⟩
  ·exact hok
  ·exact h0.blk i b' hi
 ·rcases za5 hi with⟨rfl,rfl⟩ | ⟨hni,hi⟩
  ·rcases za5 hj with⟨rfl,rfl⟩ | ⟨hnj,hj⟩
   ·exact absurd rfl hne
   ·exact (key j b2 hj).1
  ·rcases za5 hj with⟨rfl,rfl⟩ | ⟨hnj,hj⟩
   ·exact (key i b1 hi).2
   ·exact h0.sep i j b1 b2 hne hi hj
theorem Sat.addPlainX (h:Sat C ρ fr mem nx a w) {b:ABlk} {p:Pl} {B:Nat} (hF:FrB C ρ mem B) (ho:∀ g,¬ bwr (zac ρ nx p) nx b g) (hp:p.res=false) (hok:BlkOk C (zac ρ nx p) (nx+1) nx w b) (hnew:∀ g,brd (zac ρ nx p) nx b g->B<=g) :
  Sat C (zac ρ nx p) fr ((nx,b)::mem) (nx+1) a w/\FrB C (zac ρ nx p) ((nx,b)::mem) B:=by
 refine⟨h.addN hp hok (fun g hg=>absurd hg (ho g)) (fun g hg j b' hj hw=>by have:=hF j b' hj g hw;have:=hnew g hg;omega),fun i b' hi g hg=>?_⟩;rcases za5 (l:=mem++C.fm) hi with⟨rfl,rfl⟩ | ⟨hne,hi⟩
 ·exact absurd hg (ho g)
 ·rw[zdG (za8 ρ p (h.mlt i b' hi).1)] at hg;exact hF i b' hi g hg
theorem Sat.addPlain (h:Sat C ρ fr mem nx a w) {t:TypeId} {sz n:Nat} {el:Nat->List Value} {p:Pl} {B:Nat} (hF:FrB C ρ mem B) (ho:zc1 t=false) (hp:p.res=false) (hok:BlkOk C (zac ρ nx p) (nx+1) nx w (.row t sz n el)) (hnew:n=0∨∀ g,p.A.map (·.block)=some g->B<=g) :
  Sat C (zac ρ nx p) fr ((nx,.row t sz n el)::mem) (nx+1) a w/\FrB C (zac ρ nx p) ((nx,.row t sz n el)::mem) B:=
 h.addPlainX hF (fun g hg=>by have q:=hg.1;rw[ho] at q;cases q) hp hok fun g hg=>(hnew.resolve_left hg.1) g (by have:=hg.2;unfold bno at this;rwa[za2] at this)
theorem Sat.addList (h:Sat C ρ fr mem nx a w) {B:Nat} (hF:FrB C ρ mem B) (hB:C.w0.heap.size<=B) {α:Type} {enc:α->List Value} {sz:Nat} (hs:∀ x,(enc x).length=sz) (hpos:0<sz) (hpl:∀ x,∀ v ∈ enc x,zam v) {l:List α} (d:α) {t:TypeId} (ho:zc1 t=false) {A:Option Addr} (hr:Rd w (fun b=>B<=b/\b<w.heap.size) A (zaJ enc l)) :
  Sat C (zac ρ nx ⟨A,sz,l.length,false,za4⟩) fr ((nx,zaz t sz enc d l)::mem) (nx+1) a w/\FrB C (zac ρ nx ⟨A,sz,l.length,false,za4⟩) ((nx,zaz t sz enc d l)::mem) B:=by
 refine h.addPlain hF ho rfl (zaL hs hpos hpl d (za2 _ _ _) hr (fun b hb=>hb.2) ho (fun _ b hb=>Nat.le_trans hB hb.1)) ?_;by_cases h0:l.length=0
 ·exact .inl h0
 ·obtain⟨b,off,x,hA,hb,-,-⟩:=hr.row hs hpos (k:=0) o_;refine .inr fun g hg=>?_
  simp[hA] at hg;subst hg;exact hb.1
def zhe (ρ:Nat->Pl) (nx:Nat) (y:StA) (s:St):Nat->Pl:=zac (zac ρ nx ⟨y.ac,4,s.cells.length,false,za4⟩) (nx+1) ⟨y.at_,12,s.tenants.length,false,za4⟩
theorem Sat.addSt (h0:Sat C ρ fr mem nx a w) (hb:Below w.heap.size w w') {y:StA} {s:St} (hs:StOk w' (fun b=>w.heap.size<=b/\b<w'.heap.size) y s) :
  Sat C (zhe ρ nx y s) fr (stM ⟨nx+1,nx,500000⟩ s++mem) (nx+2) a w'/\den (zhe ρ nx y s) (stV ⟨nx+1,nx,500000⟩ ⟨y.ct,y.cc⟩ s)=.agg (stC y s)/\okV (zhe ρ nx y s) (nx+2) (stV ⟨nx+1,nx,500000⟩ ⟨y.ct,y.cc⟩ s)/\ExtS ρ nx (zhe ρ nx y s) (nx+2):=by
 obtain⟨h1,f1⟩:=(h0.later hb).addList h0.frB h0.rest.size (enc:=csC) (sz:=4) (fun _=>rfl) o_ zeL default (t:=500000) rfl hs.cells;obtain⟨h2,-⟩:=h1.addList f1 h0.rest.size (enc:=tsC) (sz:=12) (fun _=>rfl) o_ zer default (t:=500000) rfl hs.tenants;have q1:zhe ρ nx y s nx=⟨y.ac,4,s.cells.length,false,za4⟩:=by
  unfold zhe;rw[za8 _ _ (Nat.lt_succ_self _),za2]
 have q2:zhe ρ nx y s (nx+1)=⟨y.at_,12,s.tenants.length,false,za4⟩:=za2 _ _ _;refine⟨h2,?_,?_,fun i hi=>?_,o_⟩
 ·rw[zc3];congr 2
  simp[stX,q1,q2]
 ·intro u hu;simp at hu;rcases hu with rfl | rfl | rfl | rfl | rfl | rfl | rfl | rfl<;>first | trivial | exact⟨show nx+1<nx+2 by omega,by rw[q2]⟩ | exact⟨show nx<nx+2 by omega,by rw[q1]⟩
 ·unfold zhe;rw[za8 _ _ o_,za8 _ _ hi]
end
/-! state.New -/
def CN1:CN:=⟨0,1,2,3,4,5,3⟩
def newD:List (Nat×DQ):=[
 (1,{ k:=10,L:=[6],g:=some (.fix 0 (.fix 1 (.fix 2 (.fix 4 (.fix 5 (.fix 6 (.three
  3 (.two 7 (.fix 8 (.act 9 .fin)) 9 (.act 7 (.fix 8 .fin)))
  7 (.two 3 (.fix 8 (.act 9 .fin)) 9 (.act 3 (.fix 8 .fin)))
  9 (.two 3 (.act 7 (.fix 8 .fin)) 7 (.act 3 (.fix 8 .fin)))))))))) }),
 (4000002,{ k:=11,L:=[6,7],sl:=[1,2] }),
 (2000003,{ k:=0,L:=[7,9,10],sl:=[2,3,17] }),
 (2000008,{ k:=0,L:=[7,8,10],sl:=[2,3,30] })]
abbrev tsZ:List Value:=[zb,zb,zi,zi,zi,zi,zi,zi,zi,zi,zi,zi]
abbrev csZ:List Value:=[zi,zi,zi,zi]
abbrev tsB (n:Nat) (el:Nat->List Value):ABlk:=.row (1000000+55) 12 n el
abbrev csB (n:Nat) (el:Nat->List Value):ABlk:=.row (1000000+103) 4 n el
abbrev newV (n m:Nat):List Value:=[zi,zi,slc 8 n n,slc 9 m m,.int .i64 1,zi,zi,zi]
def NewR (n m:Nat) (v:Value) (mem':AM):Prop:=v=.agg (newV n m).toArray/\(∃ el,lk mem' 8=some (tsB n el)/\∀ k,k<n->el k=tsC tsNew)/\∃ el,lk mem' 9=some (csB m el)/\∀ k,k<m->el k=csC csNew
theorem new_sx (x:CfgK) (c:Cfg) (hnt:c.tenants.length<=1000) (hnc:c.cells.length<=1000) :
  sx tt [] newD (za1 Tryz.f9) (zb3 0 [zaX CN1 x c]) (zcH CN1 c) 6
   (zb8 tt Tryz.f9.results.toList fun v mem' _=>NewR c.tenants.length c.cells.length v mem'):=by
 refine⟨Unit,fun _=>[(3,ptr 10)],fun _=>[(8,tsB c.tenants.length fun _=>tsZ),(9,csB c.cells.length fun _=>csZ),(10,.box 37 (newV c.tenants.length c.cells.length))],fun _=>True,?_,?_⟩
 ·refine⟨?_,?_,?_⟩
  ·refine⟨⟨il_,o_,by show _ * (88:Int)<=_;omega⟩,⟨rfl,trivial⟩,?_⟩;refine⟨?_,?_⟩
   ·refine⟨⟨il_,o_,by show _ * (32:Int)<=_;omega⟩,⟨rfl,trivial⟩,?_⟩;refine⟨⟨rfl,trivial⟩,?_⟩;exact⟨(),[],trivial,⟨rfl,rfl⟩,⟨rfl,rfl,rfl,trivial⟩,⟨rfl,rfl,rfl,rfl,rfl,trivial⟩⟩
   ·refine⟨⟨rfl,trivial⟩,?_⟩;refine⟨⟨il_,o_,by show _ * (32:Int)<=_;omega⟩,⟨rfl,trivial⟩,?_⟩;exact⟨(),[(9,10),(10,9)],trivial,⟨rfl,rfl⟩,⟨rfl,rfl,rfl,trivial⟩,⟨rfl,rfl,rfl,rfl,rfl,trivial⟩⟩
  ·refine⟨⟨il_,o_,by show _ * (32:Int)<=_;omega⟩,⟨rfl,trivial⟩,?_⟩;refine⟨?_,?_⟩
   ·refine⟨⟨il_,o_,by show _ * (88:Int)<=_;omega⟩,⟨rfl,trivial⟩,?_⟩;refine⟨⟨rfl,trivial⟩,?_⟩;exact⟨(),[(8,9),(9,8)],trivial,⟨rfl,rfl⟩,⟨rfl,rfl,rfl,trivial⟩,⟨rfl,rfl,rfl,rfl,rfl,trivial⟩⟩
   ·refine⟨⟨rfl,trivial⟩,?_⟩;refine⟨⟨il_,o_,by show _ * (88:Int)<=_;omega⟩,⟨rfl,trivial⟩,?_⟩;exact⟨(),[(8,10),(9,8),(10,9)],trivial,⟨rfl,rfl⟩,⟨rfl,rfl,rfl,trivial⟩,⟨rfl,rfl,rfl,rfl,rfl,trivial⟩⟩
  ·refine⟨⟨rfl,trivial⟩,?_⟩;refine⟨?_,?_⟩
   ·refine⟨⟨il_,o_,by show _ * (88:Int)<=_;omega⟩,⟨rfl,trivial⟩,?_⟩;refine⟨⟨il_,o_,by show _ * (32:Int)<=_;omega⟩,⟨rfl,trivial⟩,?_⟩;exact⟨(),[(8,9),(9,10),(10,8)],trivial,⟨rfl,rfl⟩,⟨rfl,rfl,rfl,trivial⟩,⟨rfl,rfl,rfl,rfl,rfl,trivial⟩⟩
   ·refine⟨⟨il_,o_,by show _ * (32:Int)<=_;omega⟩,⟨rfl,trivial⟩,?_⟩;refine⟨⟨il_,o_,by show _ * (88:Int)<=_;omega⟩,⟨rfl,trivial⟩,?_⟩;exact⟨(),[(8,10),(10,8)],trivial,⟨rfl,rfl⟩,⟨rfl,rfl,rfl,trivial⟩,⟨rfl,rfl,rfl,rfl,rfl,trivial⟩⟩
 ·rintro⟨⟩ -;refine⟨⟨d_,rfl,rfl⟩,?_⟩;refine⟨Int×(Nat->List Value),fun y=>match y with | (i,el)=>[(18,.int .i64 i)],fun y=>match y with | (i,el)=>[(8,tsB c.tenants.length el)],fun y=>(0<=y.1/\y.1<=(c.tenants.length:Int))/\∀ k:Nat,k<c.tenants.length->y.2 k=if (k:Int)<y.1 then tsC tsNew else tsZ,fun y=>((c.tenants.length:Int)-y.1).toNat,⟨(0,fun _=>tsZ),⟨⟨by dsimp only;omega,by dsimp only;omega⟩,?_⟩,⟨rfl,rfl,rfl,rfl,trivial⟩,⟨rfl,rfl,rfl,rfl,trivial⟩⟩,?_⟩
  ·intro k hk;dsimp only;rw[if_neg o_]
  ·rintro⟨i,el⟩ ⟨hi,hel⟩;dsimp only at hi hel;refine⟨⟨rfl,rfl⟩,?_⟩;refine⟨fun hlt=>?_,fun hge=>?_⟩
   ·have hlt2:i<(c.tenants.length:Int):=of_decide_eq_true hlt;have hz:el i.toNat=tsZ:=by rw[hel i.toNat o_,if_neg o_]
    refine⟨⟨nl_,hi.1,hlt2⟩,?_⟩;refine⟨tsC tsNew,by rw[hz];rfl,?_⟩;refine⟨(_,_),?_,⟨rfl,rfl,rfl,rfl,trivial⟩,⟨rfl,rfl,rfl,rfl,trivial⟩⟩;dsimp only;rw[zaf o_];refine⟨⟨⟨o_,o_⟩,fun k hk=>?_⟩,o_⟩;unfold zfE;by_cases hk2:k=i.toNat
    ·subst hk2;rw[Nat.beq_refl,if_pos o_]
    ·have hb:Nat.beq k i.toNat=false:=by
      cases hb:Nat.beq k i.toNat
      ·rfl
      ·exact absurd (Nat.eq_of_beq_eq_true hb) hk2
     rw[hb];show el k=_;rw[hel k hk];by_cases hki:(k:Int)<i
     ·rw[if_pos hki,if_pos o_]
     ·rw[if_neg hki,if_neg o_]
   ·have hge2:¬ i<(c.tenants.length:Int):=of_decide_eq_false hge;have hT:∀ k,k<c.tenants.length->el k=tsC tsNew:=fun k hk=>by rw[hel k hk,if_pos o_]
    refine⟨Int×(Nat->List Value),fun y=>match y with | (i,el)=>[(31,.int .i64 i)],fun y=>match y with | (i,el)=>[(9,csB c.cells.length el)],fun y=>(0<=y.1/\y.1<=(c.cells.length:Int))/\∀ k:Nat,k<c.cells.length->y.2 k=if (k:Int)<y.1 then csC csNew else csZ,fun y=>((c.cells.length:Int)-y.1).toNat,⟨(0,fun _=>csZ),⟨⟨by dsimp only;omega,by dsimp only;omega⟩,?_⟩,⟨rfl,rfl,rfl,rfl,trivial⟩,⟨rfl,rfl,rfl,rfl,trivial⟩⟩,?_⟩
    ·intro k hk;dsimp only;rw[if_neg o_]
    ·rintro⟨i,el⟩ ⟨hi,hel⟩;dsimp only at hi hel;refine⟨⟨rfl,rfl⟩,?_⟩;refine⟨fun hlt=>?_,fun hge=>?_⟩
     ·have hlt2:i<(c.cells.length:Int):=of_decide_eq_true hlt;have hz:el i.toNat=csZ:=by rw[hel i.toNat o_,if_neg o_]
      refine⟨⟨nl_,hi.1,hlt2⟩,?_⟩;refine⟨csC csNew,by rw[hz];rfl,?_⟩;refine⟨(_,_),?_,⟨rfl,rfl,rfl,rfl,trivial⟩,⟨rfl,rfl,rfl,rfl,trivial⟩⟩;dsimp only;rw[zaf o_];refine⟨⟨⟨o_,o_⟩,fun k hk=>?_⟩,o_⟩;unfold zfE;by_cases hk2:k=i.toNat
      ·subst hk2;rw[Nat.beq_refl,if_pos o_]
      ·have hb:Nat.beq k i.toNat=false:=by
        cases hb:Nat.beq k i.toNat
        ·rfl
        ·exact absurd (Nat.eq_of_beq_eq_true hb) hk2
       rw[hb];show el k=_;rw[hel k hk];by_cases hki:(k:Int)<i
       ·rw[if_pos hki,if_pos o_]
       ·rw[if_neg hki,if_neg o_]
     ·have hge2:¬ i<(c.cells.length:Int):=of_decide_eq_false hge;have hC:∀ k,k<c.cells.length->el k=csC csNew:=fun k hk=>by rw[hel k hk,if_pos o_]
      exact⟨rfl,⟨_,rfl,hT⟩,⟨_,rfl,hC⟩⟩
/-! Functions that read a configuration and states and give a value. -/
abbrev SN1:SN:=⟨6,7,3⟩
abbrev SN2:SN:=⟨8,9,3⟩
def rpl (x:CfgA) (c:Cfg) (y:StA) (s:St) (y2:StA) (s2:St):Nat->Pl:=fun j=>match j with
 | 0=>⟨x.az,1,c.zones.length,false,za4⟩
 | 1=>⟨x.ac,2,c.cells.length,false,za4⟩
 | 2=>⟨x.at_,7,c.tenants.length,false,za4⟩
 | 3=>⟨x.av,2,c.versions.length,false,za4⟩
 | 4=>⟨x.ar,1,c.replicas.length,false,za4⟩
 | 5=>⟨x.ao,1,c.observers.length,false,za4⟩
 | 6=>⟨y.at_,12,s.tenants.length,false,za4⟩
 | 7=>⟨y.ac,4,s.cells.length,false,za4⟩
 | 8=>⟨y2.at_,12,s2.tenants.length,false,za4⟩
 | _=>⟨y2.ac,4,s2.cells.length,false,za4⟩
abbrev rdM (c:Cfg) (s s2:St):AM:=zcH CN1 c++(stM SN1 s++stM SN2 s2)
abbrev ck (x:CfgA):CfgK:=⟨x.cz,x.cc,x.ct,x.cv,x.cr,x.co⟩
abbrev sk (y:StA):StK:=⟨y.ct,y.cc⟩
theorem zcU (x:CfgA) (c:Cfg) (y:StA) (s:St) (y2:StA) (s2:St):den (rpl x c y s y2 s2) (zaX CN1 (ck x) c)=.agg (zaH x c):=by rw[zaP];rfl
theorem zcf (x:CfgA) (c:Cfg) (y:StA) (s:St) (y2:StA) (s2:St):den (rpl x c y s y2 s2) (stV SN1 (sk y) s)=.agg (stC y s):=by rw[zc3];rfl
theorem zbw (x:CfgA) (c:Cfg) (y:StA) (s:St) (y2:StA) (s2:St):okV (rpl x c y s y2 s2) 10 (zaX CN1 (ck x) c):=by
 intro u hu;simp at hu;rcases hu with rfl | rfl | rfl | rfl | rfl | rfl | rfl | rfl | rfl | rfl<;>first | trivial | exact⟨d_,rfl⟩
theorem zb1 (x:CfgA) (c:Cfg) (y:StA) (s:St) (y2:StA) (s2:St):okV (rpl x c y s y2 s2) 10 (stV SN1 (sk y) s):=by
 intro u hu;simp at hu;rcases hu with rfl | rfl | rfl | rfl | rfl | rfl | rfl | rfl<;>first | trivial | exact⟨d_,rfl⟩
theorem zbI {f:FuncId} {fn:Func} {F:FT} {D:List (Nat×DQ)} (hF:FTok Tryz.prog F) (hf:(Tryz.prog).funcs[f]?=some fn) (hb:fn.body=some (za1 fn)) (hcode:zc6 fn.ntmps D (za1 fn)=true) {vs:List Value} (hn:Nat.ble vs.length fn.ntmps=true)
  (x:CfgA) (c:Cfg) (y:StA) (s:St) (y2:StA) (s2:St) (w:World) (hc:CfgOk w (·<w.heap.size) x c) (hs:StOk w (·<w.heap.size) y s) (hs2:StOk w (·<w.heap.size) y2 s2) (hv:∀ v ∈ vs,okV (rpl x c y s y2 s2) 10 v) {R:Value->Prop}
  (h:sx tt F D (za1 fn) (zb3 0 vs) (rdM c s s2) 10 (zb8 tt fn.results.toList fun v _ _=>R v/\zbJ v)) :
  Calls Tryz.prog f (vs.map (den (rpl x c y s y2 s2))).toArray w fun e w'=>∃ v,R v/\zbJ v/\e=.returned v/\Below w.heap.size w w':=by
 have hpc:CfgPl (rpl x c y s y2 s2) CN1 x c:=⟨rfl,rfl,rfl,rfl,rfl,rfl⟩;have hps:StPl (rpl x c y s y2 s2) SN1 y s:=⟨rfl,rfl⟩;have hps2:StPl (rpl x c y s y2 s2) SN2 y2 s2:=⟨rfl,rfl⟩
 have hm:MemAt { w0:=w,bor:=[],n0:=10,ρ0:=rpl x c y s y2 s2,nt:=fn.ntmps } (rpl x c y s y2 s2) (rdM c s s2) 10 w:=MemAt.rows trivial (zcR hpc hc (fun b hb=>hb) d_ (zed hps hs (fun b hb=>hb) d_ (by
  have:=zed (C:={ w0:=w,bor:=[],n0:=10,ρ0:=rpl x c y s y2 s2,nt:=fn.ntmps }) (nx:=10) (r:=[]) hps2 hs2 (fun b hb=>hb) d_ trivial
  exact this)))
 refine (zcu zg6 hF mixed hf hb hcode (vs:=vs) hn ⟨rfl,rfl⟩ rfl hm hv h).mono ?_;rintro e w' ⟨v,mem',nx',ρ',rfl,⟨hR,hp⟩,-,hm'⟩;exact⟨v,hR,hp,by rw[(zag hp ρ' 0).1],⟨hm'.rest.os,hm'.rest.tape,hm'.rest.output,hm'.rest.size,fun b hlt=>hm'.rest.block b hlt (by simp)⟩⟩
/-! What such a function is handed,in the abstract and in the world. -/
inductive DT where
 | li (d:List Int)
 | cf (d:Cfg)
 | st (d:St)
 | vl (u:Value)
inductive PA where
 | li (i cap:Nat) (d:List Int)
 | cf (N:CN) (x:CfgK) (d:Cfg)
 | st (M:SN) (y:StK) (d:St)
 | vl (u:Value)
inductive PW where
 | li (A:Option Addr) (cap:Nat) (d:List Int)
 | cf (x:CfgA) (d:Cfg)
 | st (y:StA) (d:St)
 | vl (u:Value)
def PA.val:PA->Value
 | .li i cap l=>slc i l.length cap
 | .cf N x c=>zaX N x c
 | .st M y s=>stV M y s
 | .vl u=>u
def PA.dt:PA->DT
 | .li _ _ l=>.li l
 | .cf _ _ c=>.cf c
 | .st _ _ s=>.st s
 | .vl u=>.vl u
def PA.keep (mem:AM):PA->Prop
 | .li i _ l=>lk mem i=some (zb6 l)
 | .cf N _ c=>keeps mem (zcH N c)
 | .st M _ s=>keeps mem (stM M s)
 | .vl u=>zbJ u
def PW.val:PW->Value
 | .li A cap l=>.slice A l.length cap
 | .cf x c=>.agg (zaH x c)
 | .st y s=>.agg (stC y s)
 | .vl u=>u
def PW.dt:PW->DT
 | .li _ _ l=>.li l
 | .cf _ c=>.cf c
 | .st _ s=>.st s
 | .vl u=>.vl u
def PW.ok (w:World):PW->Prop
 | .li A _ l=>Rd w (·<w.heap.size) A (zaJ zaw l)
 | .cf x c=>CfgOk w (·<w.heap.size) x c
 | .st y s=>StOk w (·<w.heap.size) y s
 | .vl u=>zbJ u
def PA.to (ρ:Nat->Pl):PA->PW
 | .li i cap l=>.li (ρ i).A cap l
 | .cf N x c=>.cf (zdp ρ N x) c
 | .st M y s=>.st (stX ρ M y) s
 | .vl u=>.vl u
def allK (mem:AM) (l:List PA):Prop:=List.rec (motive:=fun _=>Prop) True (fun a _ ih=>a.keep mem/\ih) l
theorem zk7 {mem:AM}:∀ {l:List PA},allK mem l->∀ a ∈ l,a.keep mem
 | [],_,a,ha=>by cases ha
 | b::r,h,a,ha=>(List.mem_cons.1 ha).elim (fun e=>e ▸ h.1) (zk7 (l:=r) h.2 a)
def ctPts (R:List DT->Value->Prop) (pre:List DT->Prop):CT:=fun vs mem nx K=>∃ l:List PA,vs=l.map PA.val/\allK mem l/\pre (l.map PA.dt)/\∀ z,R (l.map PA.dt) z->K z mem nx
theorem zfM {f : FuncId} {R : List DT -> Value -> Prop} {pre : List DT -> Prop} (ent : ((Tryz.prog).funcs[f]?).map (fun fn => (fn.name == "runtime.NumGoroutine", fn.body.isNone)) = some (false, false))
  (h:∀ (ps:List PW) (w:World),pre (ps.map PW.dt)->(∀ p ∈ ps,p.ok w)->Calls Tryz.prog f (ps.map PW.val).toArray w fun e w'=>∃ v,R (ps.map PW.dt) v/\zbJ v/\e=.returned v/\Below w.heap.size w w'):CSound Tryz.prog f (ctPts R pre):=
 ⟨ent,fun {C ρ fr mem nx a w vs K} hc hs hv=>by
  obtain⟨l,rfl,hk,hp,hK⟩:=hc
  have hk':=zk7 hk
  have e1:(l.map PA.val).map (den ρ)=(l.map (PA.to ρ)).map PW.val:=by
   rw[List.map_map,List.map_map]
   refine List.map_congr_left fun p hp=>?_
   cases p with
   | li i cap l=>rfl
   | cf N x c=>exact zaP ρ N x c
   | st M y s=>exact zc3 ρ M y s
   | vl u=>exact (zag (hk' _ hp) ρ 0).1
  have e2:(l.map (PA.to ρ)).map PW.dt=l.map PA.dt:=by
   rw[List.map_map]
   refine List.map_congr_left fun p hp=>?_
   cases p<;>rfl
  rw[e1]
  refine (h (l.map (PA.to ρ)) w (by rw[e2];exact hp) (fun p hp=>?_)).mono ?_
  ·obtain⟨q,hq,rfl⟩:=List.mem_map.1 hp
   cases q with
   | li i cap l=>exact hs.rd (enc:=zaw) (sz:=1) (fun _=>rfl) o_ (show lk mem i=some (zb6 l) from hk' _ hq) (fun b h _=>h)
   | cf N x c=>exact hs.cfg (hk' _ hq) (fun b h _=>h)
   | st M y s=>exact hs.st (hk' _ hq) (fun b h _=>h)
   | vl u=>exact hk' _ hq
  ·rintro e w' ⟨v,hR,hpl,rfl,hb⟩
   rw[e2] at hR
   exact⟨v,mem,nx,ρ,by rw[(zag hpl ρ 0).1],hK v hR,hs.later hb,(zag hpl ρ nx).2,ExtS.refl _ _⟩⟩
theorem zdE {ps:List PW} (h:ps.map PW.dt=[]):ps=[]:=List.map_eq_nil_iff.1 h
theorem dt_l {ps:List PW} {l:List Int} {r:List DT} (h:ps.map PW.dt=.li l::r):∃ A cap qs,ps=.li A cap l::qs/\qs.map PW.dt=r:=by
 cases ps with
 | nil=>cases h
 | cons p qs=>cases p<;>simp[PW.dt] at h<;>obtain⟨rfl,h⟩:=h;exact⟨_,_,qs,rfl,h⟩
theorem dt_c {ps:List PW} {c:Cfg} {r:List DT} (h:ps.map PW.dt=.cf c::r):∃ x qs,ps=.cf x c::qs/\qs.map PW.dt=r:=by
 cases ps with
 | nil=>cases h
 | cons p qs=>cases p<;>simp[PW.dt] at h<;>obtain⟨rfl,h⟩:=h;exact⟨_,qs,rfl,h⟩
theorem dt_s {ps:List PW} {s:St} {r:List DT} (h:ps.map PW.dt=.st s::r):∃ y qs,ps=.st y s::qs/\qs.map PW.dt=r:=by
 cases ps with
 | nil=>cases h
 | cons p qs=>cases p<;>simp[PW.dt] at h<;>obtain⟨rfl,h⟩:=h;exact⟨_,qs,rfl,h⟩
theorem zif {ps:List PW} {u:Value} {r:List DT} (h:ps.map PW.dt=.vl u::r):∃ qs,ps=.vl u::qs/\qs.map PW.dt=r:=by
 cases ps with
 | nil=>cases h
 | cons p qs=>cases p<;>simp[PW.dt] at h<;>obtain⟨rfl,h⟩:=h;exact⟨qs,rfl,h⟩
def noA:StA:=⟨none,0,none,0⟩
def noS:St:={ tick:=0,count:=0,tenants:=[],cells:=[],proven:=0,evac:=0,low:=0,high:=0 }
theorem zbt (w:World) (S:Nat->Prop):StOk w S noA noS:=⟨fun h=>absurd rfl h,fun h=>absurd rfl h⟩
/-! Functions that are handed lists of numbers. -/
/-! What holds of every reached state. No program in sight. -/
structure TsInv (c:Cfg) (t:TS):Prop where
 home:-1<=t.home/\t.home<c.cells.length
 standby:-1<=t.standby/\t.standby<c.cells.length
 next:-1<=t.next/\t.next<c.cells.length
 target:-1<=t.target/\t.target<c.cells.length
 epoch:0<=t.epoch/\t.epoch<=1048576
 wcell:-1<=t.win.cell/\t.win.cell<c.cells.length
 wepoch:0<=t.win.epoch/\t.win.epoch<=1048576
 wver:0<=t.win.version/\t.win.version<c.versions.length
 wsince:0<=t.win.since/\t.win.since<=1073741824
 wtill:0<=t.win.till/\t.win.till<=1073741824
 placed:t.placed=true->0<=t.home
 shed:t.shed=true->t.placed=true
structure CsInv (c:Cfg) (lo hi:Int) (x:CS):Prop where
 mode:1<=x.mode/\x.mode<=3
 running:0<=x.running/\x.running<c.versions.length
 wanted:0<=x.wanted/\x.wanted<c.versions.length
 since:0<=x.since/\x.since<=1073741824
 runs:(zcj c x.running).1<=lo/\hi<=(zcj c x.running).2
 wants:(zcj c x.wanted).1<=lo/\hi<=(zcj c x.wanted).2
structure StInv (c:Cfg) (s:St):Prop where
 lt:s.tenants.length=c.tenants.length
 lc:s.cells.length=c.cells.length
 tick:0<=s.tick/\s.tick<=1073741824
 count:0<=s.count/\s.count<=4096
 proven:0<=s.proven/\s.proven<1073741824
 evac:0<=s.evac/\s.evac<16
 low:0<=s.low/\s.low<=s.high/\s.high<=s.low+1/\s.high<=30
 ten:∀ t ∈ s.tenants,TsInv c t
 cel:∀ x ∈ s.cells,CsInv c s.low s.high x
theorem zkc {c:Cfg} (hV:CfgV c):(zcj c 0).1=0/\0<=(zcj c 0).2:=by
 have h:=hV.nv;have h0:c.versions[0]?=some c.versions[0]:=List.getElem?_eq_getElem o_;have h1:=hV.ver 0 _ h0;unfold zcj;rw[show (0:Int).toNat=0 from rfl,getD_some h0];simp[zeR] at h1;omega
theorem zfD {c:Cfg} (hV:CfgV c):StInv c (zaB c):=by
 have h:=hV.nv;have hz:=zkc hV;refine⟨by simp[zaB],by simp[zaB],by simp[zaB],by simp[zaB],by simp[zaB],by simp[zaB],by simp[zaB],fun t ht=>?_,fun x hx=>?_⟩
 ·obtain rfl:=List.eq_of_mem_replicate (show t ∈ List.replicate c.tenants.length tsNew from ht);constructor<;>simp[tsNew]<;>omega
 ·obtain rfl:=List.eq_of_mem_replicate (show x ∈ List.replicate c.cells.length csNew from hx);constructor<;>simp[csNew,zaB]<;>omega
theorem zfn {s:St} {i:Int} (h0:0<=i) (h1:i<s.tenants.length):s.tenants[i.toNat]?=some (zaA s i)/\zaA s i ∈ s.tenants:=by
 have h:i.toNat<s.tenants.length:=by omega
 have e:=List.getElem?_eq_getElem h;have:zaA s i=s.tenants[i.toNat]:=getD_some e;rw[this];exact⟨e,List.getElem_mem h⟩
theorem csAt_mem {s:St} {i:Int} (h0:0<=i) (h1:i<s.cells.length):s.cells[i.toNat]?=some (zaQ s i)/\zaQ s i ∈ s.cells:=by
 have h:i.toNat<s.cells.length:=by omega
 have e:=List.getElem?_eq_getElem h;have:zaQ s i=s.cells[i.toNat]:=getD_some e;rw[this];exact⟨e,List.getElem_mem h⟩
theorem orBit_lt {a i:Int} {m:Nat} (h0:0<=a) (h1:a<2 ^ m) (hi:i.toNat<m):0<=zeX a i/\zeX a i<2 ^ m:=by
 obtain⟨n,rfl⟩:=Int.eq_ofNat_of_zero_le h0;have hn:n<2 ^ m:=by exact_mod_cast h1
 have h2:1 <<< i.toNat<2 ^ m:=by rw[Nat.one_shiftLeft];exact Nat.pow_lt_pow_right o_ hi
 have:=Nat.or_lt_two_pow hn h2;unfold zeX;rw[Int.toNat_natCast];refine⟨Int.natCast_nonneg _,?_⟩;exact_mod_cast this
theorem zkY {a i:Int} {m:Nat} (h0:0<=a) (h1:a<2 ^ m) (hi:i.toNat<m):0<=zdf a i/\zdf a i<2 ^ m:=by
 obtain⟨n,rfl⟩:=Int.eq_ofNat_of_zero_le h0;have hn:n<2 ^ m:=by exact_mod_cast h1
 have h2:1 <<< i.toNat<2 ^ m:=by rw[Nat.one_shiftLeft];exact Nat.pow_lt_pow_right o_ hi
 have:=Nat.xor_lt_two_pow hn h2;unfold zdf;rw[Int.toNat_natCast];refine⟨Int.natCast_nonneg _,?_⟩;exact_mod_cast this
structure Acc (c:Cfg) (s:St) (e:Ent):Prop where
 ent:zca c e=true
 cnt:s.count<4096
 tick:s.tick<=e.tick
 kind:zaD c s e=0
theorem znP {c:Cfg} {s:St} {e:Ent} (h:zas c s e=0):Acc c s e:=by
 unfold zas at h;by_cases h1:zca c e=false
 ·rw[if_pos h1] at h;omega
 rw[if_neg h1] at h;by_cases h2:4096<=s.count
 ·rw[if_pos h2] at h;omega
 rw[if_neg h2] at h;by_cases h3:e.tick<s.tick
 ·rw[if_pos h3] at h;omega
 rw[if_neg h3] at h;exact⟨by simpa using h1,o_,o_,h⟩
theorem zeK {c:Cfg} {e:Ent} (h:zca c e=true):e.kind=1∨e.kind=2∨e.kind=3∨e.kind=4∨e.kind=5∨e.kind=6∨e.kind=7∨e.kind=8∨e.kind=9∨e.kind=10∨e.kind=11∨e.kind=12∨e.kind=13∨e.kind=14∨e.kind=15∨e.kind=16:=by
 have:inR e.kind 1 16=true:=by
  unfold zca zaN at h;simp only[Bool.and_eq_true] at h;exact h.1.1.1.1.1.1.1.1.1
 simp[inR] at this;omega
theorem zh2 {c:Cfg} {e:Ent} (h:zca c e=true):(0<=e.tick/\e.tick<=1073741824)/\inS e.tenant (fT c.tenants.length e.kind)=true/\inS e.cell (fC c.cells.length e.kind)=true/\inS e.other (fO c.cells.length c.regions e.kind)=true/\
  inS e.epoch (fE e.kind)=true/\inS e.since (fW e.kind)=true/\inS e.till (fW e.kind)=true/\inS e.n (fN c.versions.length e.kind)=true/\(e.kind≠1∨e.other≠e.cell):=by
 unfold zca zaN at h;simp only[Bool.and_eq_true] at h;obtain⟨⟨⟨⟨⟨⟨⟨⟨⟨h1,h2⟩,h3⟩,h4⟩,h5⟩,h6⟩,h7⟩,h8⟩,h9⟩,h10⟩:=h;refine⟨by simpa [inR] using h2,h3,h4,h5,h6,h7,h8,h9,by simpa using h10⟩
theorem zkQ {c:Cfg} {s:St} (h:StInv c s) {e:Ent} (hc:s.count<4096) (ht:s.tick<=e.tick) (ht2:e.tick<=1073741824) {i:Int} {t:TS} (hT:TsInv c t):StInv c (zaK (zai s e) i t):=by
 refine⟨?_,h.lc,⟨by have:=h.tick;show 0<=e.tick;omega,ht2⟩,⟨by have:=h.count;show 0<=s.count+1;omega,by show s.count+1<=4096;omega⟩,h.proven,h.evac,h.low,fun t' ht'=>?_,h.cel⟩
 ·show (s.tenants.set i.toNat t).length=_;rw[List.length_set];exact h.lt
 ·rcases List.mem_or_eq_of_mem_set (show t' ∈ s.tenants.set i.toNat t from ht') with h1 | rfl
  ·exact h.ten _ h1
  ·exact hT
theorem zkR {c:Cfg} {s:St} (h:StInv c s) {e:Ent} (hc:s.count<4096) (ht:s.tick<=e.tick) (ht2:e.tick<=1073741824) {i:Int} {x:CS} (hX:CsInv c s.low s.high x):StInv c (zbc (zai s e) i x):=by
 refine⟨h.lt,?_,⟨by have:=h.tick;show 0<=e.tick;omega,ht2⟩,⟨by have:=h.count;show 0<=s.count+1;omega,by show s.count+1<=4096;omega⟩,h.proven,h.evac,h.low,h.ten,fun t' ht'=>?_⟩
 ·show (s.cells.set i.toNat x).length=_;rw[List.length_set];exact h.lc
 ·rcases List.mem_or_eq_of_mem_set (show t' ∈ s.cells.set i.toNat x from ht') with h1 | rfl
  ·exact h.cel _ h1
  ·exact hX
theorem StInv.step {c:Cfg} {s:St} {e:Ent} (hV:CfgV c) (h:StInv c s) (hr:zas c s e=0):StInv c (zae s e):=by
 have ha:=znP hr;have hk:=zeK ha.ent;obtain⟨hti,hT,hC,hO,hE,hS,hU,hN,hne⟩:=zh2 ha.ent;have hkd:=ha.kind;have hcnt:=ha.cnt;have htk:=ha.tick;have hlt:=h.lt;have hlc:=h.lc;have hnc:=hV.nc;have hnv:=hV.nv;have hreg:=hV.reg;clear ha hr;obtain⟨kind,tick,tenant,cell,other,epoch,since,till,n⟩:=e;simp only at *;by_cases h8:kind<=8
 ·have hten:0<=tenant/\tenant<s.tenants.length:=by
   have:fT c.tenants.length kind=(0,(c.tenants.length:Int)-1):=if_pos h8;rw[this] at hT;simp[inS,inR] at hT;omega
  have hti0:=h.ten _ (zfn hten.1 hten.2).2;have eff:zae s ⟨kind,tick,tenant,cell,other,epoch,since,till,n⟩=zaK (zai s ⟨kind,tick,tenant,cell,other,epoch,since,till,n⟩) tenant (zav (zaA s tenant) ⟨kind,tick,tenant,cell,other,epoch,since,till,n⟩):=by
   unfold zae;exact if_pos h8
  rw[eff];refine zkQ h hcnt htk hti.2 ?_;clear eff;have hk':kind=1∨kind=2∨kind=3∨kind=4∨kind=5∨kind=6∨kind=7∨kind=8:=by omega
  obtain⟨i1,i2,i3,i4,i5,i6,i7,i8,i9,i10,i11,i12⟩:=hti0;generalize htd:zaA s tenant=t at *;rcases hk' with rfl | rfl | rfl | rfl | rfl | rfl | rfl | rfl
  ·simp[inS,inR,fC,fO] at hC hO;refine⟨?_,?_,i3,i4,i5,i6,i7,i8,i9,i10,?_,?_⟩<;>simp[zav]<;>omega
  ·simp[inS,inR,fC,fE,fW,fN] at hC hE hS hU hN;simp only[zav,zfb];have hpl:t.placed=true:=by
    cases hp:t.placed with
    | true=>rfl
    | false=>simp[zaD,ze5,htd,hp] at hkd
   simp only[show ¬ ((2:Int)=1) by omega,if_false,if_true];split
   ·constructor<;>(try simp only)<;>first | omega | (intro hh;first | omega | exact i11 hh | exact i12 hh | exact hpl | exact hpl hn | cases hh)
   ·split
    ·constructor<;>(try simp only)<;>first | omega | (intro hh;first | omega | exact i11 hh | exact i12 hh | exact hpl | exact hpl hn | cases hh)
    ·constructor<;>(try simp only)<;>first | omega | (intro hh;first | omega | exact i11 hh | exact i12 hh | exact hpl | exact hpl hn | cases hh)
  ·refine⟨i1,i2,i3,i4,i5,i6,i7,i8,?_,?_,i11,i12⟩<;>simp[zav,cutW]<;>omega
  ·simp[inS,inR,fC] at hC;refine⟨i1,i2,?_,i4,i5,i6,i7,i8,i9,i10,i11,i12⟩<;>simp[zav]<;>omega
  ·simp[inS,inR,fC] at hC;refine⟨i1,?_,?_,i4,i5,i6,i7,i8,i9,i10,i11,i12⟩<;>simp[zav]<;>omega
  ·simp[inS,inR,fC] at hC;refine⟨i1,i2,i3,?_,i5,i6,i7,i8,i9,i10,i11,i12⟩<;>simp[zav]<;>omega
  ·refine⟨i1,i2,i3,?_,i5,i6,i7,i8,i9,i10,i11,i12⟩<;>simp[zav]<;>omega
  ·have hpl:n=1->t.placed=true:=by
    intro hn;cases hp:t.placed with
    | true=>rfl
    | false=>simp[zaD,zee,htd,hp,hn] at hkd
   by_cases hn:n=1
   ·simp only[zav,show ¬ ((8:Int)=1) by omega,show ¬ ((8:Int)=2) by omega,show ¬ ((8:Int)=3) by omega,show ¬ ((8:Int)=4) by omega,show ¬ ((8:Int)=5) by omega,show ¬ ((8:Int)=6) by omega,show ¬ ((8:Int)=7) by omega,if_false,if_true,hn];constructor<;>(try simp only)<;>first | omega | (intro hh;first | omega | exact i11 hh | exact i12 hh | exact hpl | exact hpl hn | cases hh)
   ·simp only[zav,show ¬ ((8:Int)=1) by omega,show ¬ ((8:Int)=2) by omega,show ¬ ((8:Int)=3) by omega,show ¬ ((8:Int)=4) by omega,show ¬ ((8:Int)=5) by omega,show ¬ ((8:Int)=6) by omega,show ¬ ((8:Int)=7) by omega,if_false,if_true,hn];exact⟨i1,i2,i3,i4,i5,i6,i7,i8,i9,i10,i11,fun h=>by cases h⟩
 ·by_cases h11:kind<=11
  ·have eff:zae s ⟨kind,tick,tenant,cell,other,epoch,since,till,n⟩=zbc (zai s ⟨kind,tick,tenant,cell,other,epoch,since,till,n⟩) cell (zaR (zaQ s cell) ⟨kind,tick,tenant,cell,other,epoch,since,till,n⟩):=by
    unfold zae;rw[if_neg h8,if_pos h11]
   have hcel:0<=cell/\cell<s.cells.length:=by
    have:fC c.cells.length kind=(0,(c.cells.length:Int)-1):=if_pos o_;rw[this] at hC;simp[inS,inR] at hC;omega
   rw[eff];refine zkR h hcnt htk hti.2 ?_;have hx:=h.cel _ (csAt_mem hcel.1 hcel.2).2;generalize hxd:zaQ s cell=x at *;obtain⟨i1,i2,i3,i4,i5,i6⟩:=hx;have hk':kind=9∨kind=10∨kind=11:=by omega
   rcases hk' with rfl | rfl | rfl
   ·simp[inS,inR,fN] at hN;refine⟨?_,i2,i3,?_,i5,i6⟩<;>simp[zaR]<;>omega
   ·simp[inS,inR,fN] at hN;have hw:(zcj c n).1<=s.low/\s.high<=(zcj c n).2:=by
     simp[zaD,zen,hxd] at hkd;split at hkd
     ·omega
     ·split at hkd
      ·omega
      ·omega
    refine⟨i1,i2,?_,i4,i5,?_⟩
    ·simp[zaR];omega
    ·exact hw
   ·simp[inS,inR,fN] at hN;have hw:n=x.wanted:=by
     simp[zaD,zfg,hxd] at hkd;by_cases hh:x.wanted=n
     ·exact hh.symm
     ·simp[hh] at hkd
    subst hw;exact⟨i1,i3,i3,⟨by simp[zaR];omega,by simp[zaR];omega⟩,i6,i6⟩
  ·have hk':kind=12∨kind=13∨kind=14∨kind=15∨kind=16:=by omega
   have htick:0<=tick/\tick<=1073741824:=hti;have hcn:0<=s.count+1/\s.count+1<=4096:=by have:=h.count;omega
   rcases hk' with rfl | rfl | rfl | rfl | rfl
   ·simp[inS,inR,fN] at hN;have hp:=h.proven;have:=orBit_lt (a:=s.proven) (i:=n) (m:=30) hp.1 (by simpa using hp.2) o_;exact⟨hlt,hlc,htick,hcn,by simpa [zae,zai] using this,h.evac,h.low,h.ten,h.cel⟩
   ·simp[inS,inR,fO] at hO;have hp:=h.evac;have:=zkY (a:=s.evac) (i:=other) (m:=4) hp.1 (by simpa using hp.2) o_;exact⟨hlt,hlc,htick,hcn,h.proven,by simpa [zae,zai] using this,h.low,h.ten,h.cel⟩
   ·have hlo:=h.low;have hx:¬ s.low<s.high/\¬ 30<=s.high/\s.cells.any (zcG c s)=false:=by
     simp only[zaD,zcE] at hkd;simp at hkd;by_cases h1:s.low<s.high
     ·simp[h1] at hkd
     ·by_cases h2:30<=s.high
      ·simp[h1,h2] at hkd
      ·refine⟨h1,h2,?_⟩;rw[Bool.eq_false_iff];intro h3;obtain⟨x,hx,hb⟩:=List.any_eq_true.1 h3;simp only[h1,h2,if_false] at hkd;rw[if_pos ⟨x,hx,hb⟩] at hkd;omega
    refine⟨hlt,hlc,htick,hcn,h.proven,h.evac,?_,h.ten,fun x hx'=>?_⟩
    ·simp[zae,zai];omega
    ·have hb:zcG c s x=false:=by
      rw[Bool.eq_false_iff];intro hb;have:=List.any_eq_true.2 ⟨x,(show x ∈ s.cells from hx'),hb⟩;rw[hx.2.2] at this;cases this
     simp[zcG] at hb;obtain⟨i1,i2,i3,i4,i5,i6⟩:=h.cel x hx';refine⟨i1,i2,i3,i4,⟨i5.1,?_⟩,⟨i6.1,?_⟩⟩<;>simp[zae,zai]<;>omega
   ·have hlo:=h.low;refine⟨hlt,hlc,htick,hcn,h.proven,h.evac,?_,h.ten,fun x hx'=>?_⟩
    ·simp[zae,zai];omega
    ·obtain⟨i1,i2,i3,i4,i5,i6⟩:=h.cel x hx';refine⟨i1,i2,i3,i4,⟨?_,i5.2⟩,⟨?_,i6.2⟩⟩<;>simp[zae,zai]<;>omega
   ·exact⟨hlt,hlc,htick,hcn,h.proven,h.evac,h.low,h.ten,h.cel⟩
/-! The laws of one step. No program in sight. -/
theorem zd7 {c:Cfg} {s x:St} {e:Ent} (h:zao c s e=(x,0)):zas c s e=0/\x=zae s e/\(zdH e=true->zcr c x=false):=by
 unfold zao at h;by_cases h1:zas c s e≠0
 ·rw[if_pos h1] at h;exact absurd (congrArg Prod.snd h) h1
 ·rw[if_neg h1] at h;by_cases h2:zdH e/\zcr c (zae s e)
  ·rw[if_pos h2] at h;exact absurd (congrArg Prod.snd h) (by simp)
  ·rw[if_neg h2] at h;have hx:zae s e=x:=congrArg Prod.fst h;refine⟨Classical.not_not.1 h1,hx.symm,fun hb=>?_⟩;rw[← hx];cases ho:zcr c (zae s e) with
   | false=>rfl
   | true=>exact absurd ⟨hb,ho⟩ h2
/-! Capacity. -/
def zlp (i:Int) (t:TS) (d:Ten):Int:=
 if t.placed=false then 0 else (if t.shed then 0 else (if t.home=i then d.load else 0)+(if t.target=i then d.load else 0))+(if t.standby=i then d.shadow else 0)+(if t.next=i then d.shadow else 0)
theorem zbn (l:List Int) (k n:Int):(zb5 l k n).length=l.length:=by unfold zb5;split<;>simp
theorem zcw (l:List Int) (k n:Int) {i:Nat} (hi:i<l.length):(zb5 l k n).getD i 0=l.getD i 0+(if k=i then n else 0):=by
 unfold zb5;by_cases hk:0<=k/\k<l.length
 ·rw[if_pos hk];obtain⟨m,rfl⟩:=Int.eq_ofNat_of_zero_le hk.1;rw[Int.toNat_natCast,gd_,List.getElem?_set];by_cases hm:m=i
  ·subst hm;simp[hi]
  ·have:¬ ((m:Int)=i):=by omega
   simp[hm,this]
 ·rw[if_neg hk];have:¬ (k=i):=by omega
  simp[this]
theorem zia (l:List Int) (t:TS) (d:Ten):(zd5 l t d).length=l.length:=by
 unfold zd5;split
 ·rfl
 ·rw[zbn,zbn];split
  ·rfl
  ·rw[zbn,zbn]
theorem zlb (l:List Int) (t:TS) (d:Ten) {i:Nat} (hi:i<l.length):(zd5 l t d).getD i 0=l.getD i 0+zlp i t d:=by
 unfold zd5 zlp;by_cases hp:t.placed=false
 ·rw[if_pos hp,if_pos hp];omega
 ·rw[if_neg hp,if_neg hp];by_cases hs:t.shed=true
  ·rw[if_pos hs,if_pos hs,zcw _ _ _ (by rw[zbn];exact hi),zcw _ _ _ hi];omega
  ·rw[if_neg hs,if_neg hs,zcw _ _ _ (by simp only[zbn];exact hi),zcw _ _ _ (by simp only[zbn];exact hi),zcw _ _ _ (by simp only[zbn];exact hi),zcw _ _ _ hi];omega
def zjy (i:Int):List (TS×Ten)->Int
 | []=>0
 | p::q=>zlp i p.1 p.2+zjy i q
theorem zhV {i:Nat}:∀ (q:List (TS×Ten)) (l:List Int),i<l.length->(q.foldl (fun l p=>zd5 l p.1 p.2) l).getD i 0=l.getD i 0+zjy i q
 | [],l,_=>by simp[zjy]
 | p::q,l,h=>by
  rw[List.foldl_cons,zhV q _ (by rw[zia];exact h),zlb _ _ _ h,zjy]
  omega
theorem zek (c:Cfg) (s:St) {i:Nat} (hi:i<c.cells.length):(zb9 c s).getD i 0=zjy i (s.tenants.zip c.tenants):=by
 unfold zb9;rw[zhV _ _ (by simpa using hi)];rw[gd_,List.getElem?_replicate];simp[hi]
theorem zjx {i:Int} {t t':TS} (ht:∀ d:Ten,0<=d.load->0<=d.shadow->zlp i t' d<=zlp i t d):∀ (ts:List TS) (ds:List Ten) (k:Nat),ts[k]?=some t->(∀ d ∈ ds,0<=d.load/\0<=d.shadow)->zjy i ((ts.set k t').zip ds)<=zjy i (ts.zip ds)
 | [],ds,k,h,hd=>by simp at h
 | a::ts,[],k,h,hd=>by cases k<;>simp[zjy]
 | a::ts,d::ds,0,h,hd=>by
  simp at h
  subst h
  have:=hd d (by simp)
  have:=ht d this.1 this.2
  simp only[List.set_cons_zero,List.zip_cons_cons,zjy]
  omega
 | a::ts,d::ds,k+1,h,hd=>by
  have ih:=zjx ht ts ds k (by simpa using h) (fun d hd'=>hd d (by simp[hd']))
  simp only[List.set_cons_succ,List.zip_cons_cons,zjy]
  omega
theorem zhD {c:Cfg} {s:St}:zcr c s=false↔∀ i:Nat,i<c.cells.length->(zb9 c s).getD i 0<=(c.cells.getD i (0,0)).2:=by
 unfold zcr;rw[Bool.eq_false_iff];constructor
 ·intro h i hi;refine Classical.byContradiction fun hn=>h (List.any_eq_true.2 ⟨i,List.mem_range.2 hi,?_⟩)
  simp only[decide_eq_true_eq];omega
 ·intro h hn;obtain⟨i,hi,hd⟩:=List.any_eq_true.1 hn;have:=h i (List.mem_range.1 hi);simp only[decide_eq_true_eq] at hd;omega
theorem ten_pos {c:Cfg} (hV:CfgV c):∀ d ∈ c.tenants,0<=d.load/\0<=d.shadow:=by
 intro d hd;have h1:=hV.ten d hd;simp[zdo,inR] at h1;omega
theorem cap_new {c:Cfg} (hV:CfgV c):zcr c (zaB c)=false:=by
 rw[zhD];intro i hi;rw[zek _ _ hi];have hcap:1<=(c.cells.getD i (0,0)).2:=by
  rw[getD_some (List.getElem?_eq_getElem hi)];exact (hV.capy _ (List.getElem_mem hi)).1
 have:∀ (n:Nat) (ds:List Ten),zjy i ((List.replicate n tsNew).zip ds)=0:=by
  intro n;induction n with
  | zero=>intro ds;simp[zjy]
  | succ n ih=>
   intro ds;cases ds with
   | nil=>simp[zjy]
   | cons d ds=>
    have hb:zlp i tsNew d=0:=by simp[zlp,tsNew]
    rw[List.replicate_succ,List.zip_cons_cons,zjy,ih,hb];rfl
 have:=this c.tenants.length c.tenants;unfold zaB;simp only;omega
theorem zmv {c:Cfg} {s x:St} (h:x.tenants=s.tenants):zcr c x=zcr c s:=by
 unfold zcr zb9;rw[h]
theorem zk4 {c:Cfg} {s x:St} {e:Ent} (hV:CfgV c) (hI:StInv c s) (hc:zcr c s=false) (h:zao c s e=(x,0)):zcr c x=false:=by
 obtain⟨hr,hx,hb⟩:=zd7 h;by_cases hbk:zdH e=true
 ·exact hb hbk
 have ha:=znP hr;have hk:=zeK ha.ent;obtain⟨hti,hT,hC,hO,hE,hS,hU,hN,hne⟩:=zh2 ha.ent;have hkd:=ha.kind;subst hx;have hlt:=hI.lt;clear hb h hr ha;obtain⟨kind,tick,tenant,cell,other,epoch,since,till,n⟩:=e;simp only at *;by_cases h8:kind<=8
 ·have hten:0<=tenant/\tenant<s.tenants.length:=by
   have:fT c.tenants.length kind=(0,(c.tenants.length:Int)-1):=if_pos h8;rw[this] at hT;simp[inS,inR] at hT;omega
  have hte:(zae s ⟨kind,tick,tenant,cell,other,epoch,since,till,n⟩).tenants=s.tenants.set tenant.toNat (zav (zaA s tenant) ⟨kind,tick,tenant,cell,other,epoch,since,till,n⟩):=by
   unfold zae;simp only[h8,if_true];rfl
  rw[zhD] at hc ⊢;intro i hi;refine Int.le_trans ?_ (hc i hi);rw[zek _ _ hi,zek _ _ hi,hte];refine zjx ?_ _ _ _ (zfn hten.1 hten.2).1 (ten_pos hV);intro d hd1 hd2;have hI':=hI.ten _ (zfn hten.1 hten.2).2;generalize htd:zaA s tenant=t at *;have hk':kind=3∨(kind=4/\cell=-1)∨kind=5∨kind=7∨(kind=8/\n=1):=by
   simp[zdH] at hbk;have:kind=8->n=0∨n=1:=by
    rintro rfl;simp[inS,inR,fN] at hN;omega
   omega
  have hi0:(0:Int)<=i:=Int.natCast_nonneg _;rcases hk' with rfl | ⟨rfl,rfl⟩ | rfl | rfl | ⟨rfl,rfl⟩
  ·simp[zlp,zav]
  ·simp only[zlp,zav];simp;repeat' split
   all_goals omega
  ·have hnx:cell=t.next/\t.placed=true:=by
    simp only[zaD,zcX,htd] at hkd;simp at hkd;by_cases hp:t.placed=true
    ·by_cases hcn:cell=t.next
     ·exact⟨hcn,hp⟩
     ·simp[hp,hcn] at hkd
    ·simp[hp] at hkd
   obtain⟨rfl,hp⟩:=hnx;simp only[zlp,zav];simp[hp];repeat' split
   all_goals omega
  ·simp only[zlp,zav];simp;repeat' split
   all_goals omega
  ·simp only[zlp,zav];simp;repeat' split
   all_goals omega
 ·rw[zmv (s:=s)]
  ·exact hc
  ·unfold zae;simp only[h8,if_false];repeat' split
   all_goals rfl
/-! Versions. -/
theorem zmP {p n v:Int} (hp:0<=p) (h:zc2 p v=true):zc2 (zeX p n) v=true:=by
 simp only[zc2,Bool.and_eq_true,bitB] at h ⊢;refine⟨h.1,?_⟩;unfold zeX;rw[Int.toNat_natCast,Nat.testBit_or,h.2];rfl
/-! Nothing is handed in. -/
def noC:Cfg:=⟨0,[],[],[],[],[],[],0,0,0⟩
def noX:CfgA:=⟨none,0,none,0,none,0,none,0,none,0,none,0⟩
theorem zdB (w:World) (S:Nat->Prop):CfgOk w S noX noC:=⟨fun h=>absurd rfl h,fun h=>absurd rfl h,fun h=>absurd rfl h,fun h=>absurd rfl h,fun h=>absurd rfl h,fun h=>absurd rfl h⟩
/-! Rows that are the call's own: stores,and what a callee hands back. -/
theorem za6 {α:Type} {enc:α->List Value} {d:α} {l:List α} {k:Nat} {x:α} (h:k<l.length):zfE (fun j=>enc (l.getD j d)) k (enc x)=fun j=>enc ((l.set k x).getD j d):=by
 funext j
 unfold zfE;by_cases hj:j=k
 ·subst hj;rw[show Nat.beq j j=true from Nat.beq_refl j];show enc x=_;rw[gd_,List.getElem?_set_self h];rfl
 ·have hb:Nat.beq j k=false:=by
   cases hb:Nat.beq j k
   ·rfl
   ·exact absurd (Nat.eq_of_beq_eq_true hb) hj
  rw[hb];show enc _=_;rw[gd_,gd_,List.getElem?_set_ne (Ne.symm hj)]
theorem za7 {α:Type} {d:α} {l:List α} {k:Nat} {x:α} (h:k<l.length):(l.set k x).getD k d=x:=by
 rw[gd_,List.getElem?_set_self h];rfl
section
variable {C:Ctx} {ρ:Nat->Pl} {fr:AF} {mem:AM} {nx:Nat} {a:Act} {w w':World}
theorem Sat.addOwn (h:Sat C ρ fr mem nx a w) {t:TypeId} {sz n:Nat} {el:Nat->List Value} {p:Pl} (hp:p.res=false) (hok:BlkOk C (zac ρ nx p) (nx+1) nx w (.row t sz n el))
  (hnew:n=0∨∀ i b,lk (mem++C.fm) i=some b->∀ g,brd ρ i b g->p.A.map (·.block)≠some g):Sat C (zac ρ nx p) fr ((nx,.row t sz n el)::mem) (nx+1) a w:=by
 have hb:∀ g,brd (zac ρ nx p) nx (.row t sz n el) g->∀ j b',lk (mem++C.fm) j=some b'->¬ brd ρ j b' g:=fun g hg j b' hj hr=>by
  have:=hg.2;unfold bno at this;rw[za2] at this;exact (hnew.resolve_left hg.1) j b' hj g hr this
 exact h.addN hp hok (fun g hg=>hb g (zbm hg)) (fun g hg j b' hj hw=>hb g hg j b' hj (zbm hw))
structure OwnL {α:Type} (B:Nat) (w:World) (A:Option Addr) (sz:Nat) (enc:α->List Value) (d:α) (l:List α) (b:Nat):Prop where
 at_:l≠[]->A=some ⟨b,0,none⟩/\B<=b/\∃ ty cs,Blk w b ty cs
 cells:∀ k,k<l.length->∀ j v,(enc (l.getD k d))[j]?=some v->w.cell? ⟨b,k * sz+j,none⟩=some v
theorem OwnL.blk {α:Type} {B:Nat} {A:Option Addr} {sz:Nat} {enc:α->List Value} {d:α} {l:List α} {b:Nat} (h:OwnL B w A sz enc d l b) (hB:C.w0.heap.size<=B) (hs:∀ x,(enc x).length=sz) (hpl:∀ x,∀ v ∈ enc x,zam v) {ρ:Nat->Pl} {i nx:Nat} (hρ:ρ i=⟨A,sz,l.length,false,za4⟩) (t:TypeId):BlkOk C ρ nx i w (.row t sz l.length (fun k=>enc (l.getD k d))):=by
 refine⟨⟨by rw[hρ],by rw[hρ]⟩,fun k hk=>⟨hs _,hpl _⟩,?_⟩;by_cases h0:l=[]
 ·exact .inl (by rw[h0];rfl)
 ·obtain⟨hA,hb,ty,cs,hblk⟩:=h.at_ h0;refine .inr ⟨b,0,by rw[hρ];exact hA,⟨hblk.lt,fun _=>⟨rfl,.inl (Nat.le_trans hB hb),ty,cs,hblk⟩,fun _=>.inl (Nat.le_trans hB hb)⟩,fun k hk j v hv=>?_⟩;rw[Nat.zero_add];exact h.cells k hk j v hv
abbrev tsO (l:List TS):ABlk:=.row (1000000+55) 12 l.length (fun k=>tsC (l.getD k default))
abbrev csO (l:List CS):ABlk:=.row (1000000+103) 4 l.length (fun k=>csC (l.getD k default))
abbrev stMO (M:SN) (s:St):AM:=[(M.t,tsO s.tenants),(M.c,csO s.cells)]
structure StOwn2 (B:Nat) (w:World) (y:StA) (s:St):Prop where
 ex:∃ bt bc,OwnL B w y.at_ 12 tsC default s.tenants bt/\OwnL B w y.ac 4 csC default s.cells bc/\(s.tenants≠[]->s.cells≠[]->bt≠bc)
theorem Sat.addOwnSt (h0:Sat C ρ fr mem nx a w) (hb:Below w.heap.size w w') {y:StA} {s:St} (hs:StOwn2 w.heap.size w' y s) :
  Sat C (zhe ρ nx y s) fr (stMO ⟨nx+1,nx,0⟩ s++mem) (nx+2) a w'/\den (zhe ρ nx y s) (stV ⟨nx+1,nx,0⟩ ⟨y.ct,y.cc⟩ s)=.agg (stC y s)/\okV (zhe ρ nx y s) (nx+2) (stV ⟨nx+1,nx,0⟩ ⟨y.ct,y.cc⟩ s)/\ExtS ρ nx (zhe ρ nx y s) (nx+2):=by
 obtain⟨bt,bc,ht,hc,hne⟩:=hs.ex;have hlt:∀ i b,lk (mem++C.fm) i=some b->∀ g,brd ρ i b g->g<w.heap.size:=fun i b hi g hg=>(h0.blk i b hi).brd_lt hg
 have h1:=(h0.later hb).addOwn (p:=⟨y.ac,4,s.cells.length,false,za4⟩) rfl (hc.blk (t:=1000000+103) h0.rest.size (fun _=>rfl) zeL (za2 _ _ _)) (by
  by_cases hz:s.cells=[]
  ·exact .inl (by rw[hz];rfl)
  ·obtain⟨hA,hle,-⟩:=hc.at_ hz
   refine .inr fun i b hi g hg=>?_
   have:=hlt i b hi g hg
   rw[hA]
   simp
   omega)
 have h2:=h1.addOwn (p:=⟨y.at_,12,s.tenants.length,false,za4⟩) rfl (ht.blk (t:=1000000+55) h0.rest.size (fun _=>rfl) zer (za2 _ _ _)) (by
  by_cases hz:s.tenants=[]
  ·exact .inl (by rw[hz];rfl)
  ·obtain⟨hA,hle,-⟩:=ht.at_ hz
   refine .inr fun i b hi g hg=>?_
   rcases za5 (l:=mem++C.fm) hi with⟨rfl,rfl⟩ | ⟨_,hi⟩
   ·have hz2:s.cells≠[]:=fun q=>hg.1 (by rw[q];rfl)
    obtain⟨hA2,hle2,-⟩:=hc.at_ hz2
    have hg2:=hg.2
    unfold bno at hg2
    rw[za2,hA2] at hg2
    simp at hg2
    rw[hA]
    simp
    rw[← hg2]
    exact hne hz hz2
   ·rw[zbX (za8 ρ _ (h0.mlt i b hi).1)] at hg
    have:=hlt i b hi g hg
    rw[hA]
    simp
    omega)
 have q1:zhe ρ nx y s nx=⟨y.ac,4,s.cells.length,false,za4⟩:=by
  unfold zhe;rw[za8 _ _ (Nat.lt_succ_self _),za2]
 have q2:zhe ρ nx y s (nx+1)=⟨y.at_,12,s.tenants.length,false,za4⟩:=za2 _ _ _;refine⟨h2,?_,?_,⟨fun i hi=>?_,o_⟩⟩
 ·rw[zc3];simp[stX,q1,q2]
 ·intro u hu;simp at hu;rcases hu with rfl | rfl | rfl | rfl | rfl | rfl | rfl | rfl
  ·trivial
  ·trivial
  ·exact⟨show nx+1<nx+2 by omega,by show (zhe ρ nx y s (nx+1)).res=false;rw[q2]⟩
  ·exact⟨show nx<nx+2 by omega,by show (zhe ρ nx y s nx).res=false;rw[q1]⟩
  all_goals trivial
 ·unfold zhe;rw[za8 _ _ (Nat.lt_succ_of_lt hi),za8 _ _ hi]
end
/-! ref12.Copied -/
def SlO {α:Type} (mem:AM) (sz:Nat) (enc:α->List Value) (d:α) (l:List α) (v:Value) (r:Nat):Prop:=
 ∃ n' cap t n el,v=slc r n' cap/\n'=l.length/\lk mem r=some (.row t sz n el)/\zc1 t=true/\l.length<=n/\∀ k,k<l.length->el k=enc (l.getD k d)
theorem MemAt.slO {C:Ctx} {ρ:Nat->Pl} {mem:AM} {nx:Nat} {w:World} (h:MemAt C ρ mem nx w) (hbor:C.bor=[]) {α:Type} {enc:α->List Value} {sz:Nat} (hsz:∀ x,(enc x).length=sz) (hpos:0<sz) {l:List α} {d:α} {v:Value} {r:Nat} (hi:SlO mem sz enc d l v r) :
  ∃ c b,zal ρ v=.slice (ρ r).A l.length c/\OwnL C.w0.heap.size w (ρ r).A sz enc d l b/\(l≠[]->bno ρ r=some b):=by
 obtain⟨n',cap,t,n,el,rfl,rfl,h1,h0,h2,h3⟩:=hi;obtain⟨q1,q2,q3⟩:=h.blk r _ h1;by_cases hl:l=[]
 ·refine⟨cap,0,rfl,⟨fun q=>absurd hl q,fun k hk=>by rw[hl] at hk;cases hk⟩,fun q=>absurd hl q⟩
 ·have hl0:0<l.length:=List.length_pos_iff.2 hl;rcases q3 with q | ⟨b,off,hA,hat,hc⟩
  ·omega
  ·obtain⟨rfl,hb,ty,cs,hblk⟩:=hat.own h0;refine⟨cap,b,rfl,⟨fun _=>⟨hA,Ctx.ok_nil hbor hb,ty,cs,hblk⟩,fun k hk j v hv=>?_⟩,fun _=>by simp[bno,hA]⟩;have:=hc k o_ j v (by rw[h3 k hk];exact hv);rw[Nat.zero_add] at this;exact this
theorem znd (y:StK) (s:St) (hm:s.tenants.length<=1000000) (hm2:s.cells.length<=1000000) :
  sx tt [] [] (za1 Tryz.f74) (zb3 0 [stV SN1 y s]) (rdM noC s noS) 10 (zb8 tt Tryz.f74.results.toList fun v mem' _=>∃ T Cc rT rC,rT≠rC/\v=.agg #[.int .i64 s.tick,.int .i64 s.count,T,Cc,.int .i64 s.proven,.int .i64 s.evac,.int .i64 s.low,.int .i64 s.high]/\SlO mem' 12 tsC default s.tenants T rT/\SlO mem' 4 csC default s.cells Cc rC):=by
 refine⟨⟨nl_,fun k hk=>rfl⟩,?_⟩;refine⟨⟨rfl,nl_⟩,fun hin elT ⟨g1,_⟩ g2=>?_,fun hgt=>⟨by show (0+s.tenants.length) * 88<=140737488355328;omega,fun capT elT ⟨hcT,_⟩ g1 g2=>?_⟩⟩
 ·have helT:∀ k,k<s.tenants.length->elT k=tsC (s.tenants.getD k default):=fun k hk=>by have:=g2 k hk;rw[Nat.zero_add] at this;exact this
  clear g1 g2;have hzT:s.tenants.length<=0:=by omega
  refine⟨⟨nl_,fun k hk=>rfl⟩,?_⟩;refine⟨⟨rfl,nl_⟩,fun hin elC ⟨g1,_⟩ g2=>?_,fun hgt=>⟨by show (0+s.cells.length) * 32<=140737488355328;omega,fun capC elC ⟨hcC,_⟩ g1 g2=>?_⟩⟩
  ·have helC:∀ k,k<s.cells.length->elC k=csC (s.cells.getD k default):=fun k hk=>by have:=g2 k hk;rw[Nat.zero_add] at this;exact this
   clear g1 g2;have hzC:s.cells.length<=0:=by omega
   exact⟨_,_,12,13,d_,rfl,⟨_,_,_,_,elT,rfl,Nat.zero_add _,rfl,rfl,hzT,helT⟩,⟨_,_,_,_,elC,rfl,Nat.zero_add _,rfl,rfl,hzC,helC⟩⟩
  ·have helC:∀ k,k<s.cells.length->elC k=csC (s.cells.getD k default):=fun k hk=>by have:=g2 k hk;rw[Nat.zero_add] at this;exact this
   clear g1 g2;have hzC:s.cells.length<=capC:=by omega
   exact⟨_,_,12,14,d_,rfl,⟨_,_,_,_,elT,rfl,Nat.zero_add _,rfl,rfl,hzT,helT⟩,⟨_,_,_,_,elC,rfl,Nat.zero_add _,rfl,rfl,hzC,helC⟩⟩
 ·have helT:∀ k,k<s.tenants.length->elT k=tsC (s.tenants.getD k default):=fun k hk=>by have:=g2 k hk;rw[Nat.zero_add] at this;exact this
  clear g1 g2;have hzT:s.tenants.length<=capT:=by omega
  refine⟨⟨nl_,fun k hk=>rfl⟩,?_⟩;refine⟨⟨rfl,nl_⟩,fun hin elC ⟨g1,_⟩ g2=>?_,fun hgt=>⟨by show (0+s.cells.length) * 32<=140737488355328;omega,fun capC elC ⟨hcC,_⟩ g1 g2=>?_⟩⟩
  ·have helC:∀ k,k<s.cells.length->elC k=csC (s.cells.getD k default):=fun k hk=>by have:=g2 k hk;rw[Nat.zero_add] at this;exact this
   clear g1 g2;have hzC:s.cells.length<=0:=by omega
   exact⟨_,_,13,14,d_,rfl,⟨_,_,_,_,elT,rfl,Nat.zero_add _,rfl,rfl,hzT,helT⟩,⟨_,_,_,_,elC,rfl,Nat.zero_add _,rfl,rfl,hzC,helC⟩⟩
  ·have helC:∀ k,k<s.cells.length->elC k=csC (s.cells.getD k default):=fun k hk=>by have:=g2 k hk;rw[Nat.zero_add] at this;exact this
   clear g1 g2;have hzC:s.cells.length<=capC:=by omega
   exact⟨_,_,13,15,d_,rfl,⟨_,_,_,_,elT,rfl,Nat.zero_add _,rfl,rfl,hzT,helT⟩,⟨_,_,_,_,elC,rfl,Nat.zero_add _,rfl,rfl,hzC,helC⟩⟩
theorem zcA {τ:TT} (hτ:zcl Tryz.prog τ) {f:FuncId} {fn:Func} {F:FT} {D:List (Nat×DQ)} (hF:zaY Tryz.prog F (zbj D)) (hf:(Tryz.prog).funcs[f]?=some fn) (hb:fn.body=some (za1 fn)) (hcode:zc6 fn.ntmps D (za1 fn)=true) {vs:List Value} (hn:Nat.ble vs.length fn.ntmps=true)
  (x:CfgA) (c:Cfg) (y:StA) (s:St) (y2:StA) (s2:St) (w:World) (hc:CfgOk w (·<w.heap.size) x c) (hs:StOk w (·<w.heap.size) y s) (hs2:StOk w (·<w.heap.size) y2 s2) (hv:∀ v ∈ vs,okV (rpl x c y s y2 s2) 10 v) {R:Value->AM->Nat->Prop}
  (h:sx τ F D (za1 fn) (zb3 0 vs) (rdM c s s2) 10 (zb8 τ fn.results.toList R)) :
  Calls Tryz.prog f (vs.map (den (rpl x c y s y2 s2))).toArray w fun e w'=>∃ v mem' nx' ρ',e=.returned (den ρ' v)/\R v mem' nx'/\okV ρ' nx' v/\MemAt { w0:=w,bor:=[],n0:=10,ρ0:=rpl x c y s y2 s2,nt:=fn.ntmps } ρ' mem' nx' w'/\Below w.heap.size w w':=by
 have hpc:CfgPl (rpl x c y s y2 s2) CN1 x c:=⟨rfl,rfl,rfl,rfl,rfl,rfl⟩;have hps:StPl (rpl x c y s y2 s2) SN1 y s:=⟨rfl,rfl⟩;have hps2:StPl (rpl x c y s y2 s2) SN2 y2 s2:=⟨rfl,rfl⟩
 have hm:MemAt { w0:=w,bor:=[],n0:=10,ρ0:=rpl x c y s y2 s2,nt:=fn.ntmps } (rpl x c y s y2 s2) (rdM c s s2) 10 w:=MemAt.rows trivial (zcR hpc hc (fun b hb=>hb) d_ (zed hps hs (fun b hb=>hb) d_ (by
  have:=zed (C:={ w0:=w,bor:=[],n0:=10,ρ0:=rpl x c y s y2 s2,nt:=fn.ntmps }) (nx:=10) (r:=[]) hps2 hs2 (fun b hb=>hb) d_ trivial
  exact this)))
 refine (zbR hτ hF mixed hf hb hcode (vs:=vs) hn ⟨rfl,rfl⟩ rfl hm hv h).mono ?_;rintro e w' ⟨v,mem',nx',ρ',rfl,hR,hv',hm'⟩;exact⟨v,mem',nx',ρ',rfl,hR,hv',hm',⟨hm'.rest.os,hm'.rest.tape,hm'.rest.output,hm'.rest.size,fun b hlt=>hm'.rest.block b hlt (by simp)⟩⟩
theorem Sat.stRow {C:Ctx} {ρ:Nat->Pl} {fr:AF} {mem:AM} {nx:Nat} {a:Act} {w:World} (h:Sat C ρ fr mem nx a w) {M:SN} {y:StK} {s:St} (h1:HasRow mem M.t 12 tsC default s.tenants) (h2:HasRow mem M.c 4 csC default s.cells):StOk w (·<w.heap.size) (stX ρ M y) s:=
 ⟨h.hasRd (enc:=tsC) (sz:=12) (fun _=>rfl) o_ h1,h.hasRd (enc:=csC) (sz:=4) (fun _=>rfl) o_ h2⟩
theorem MemAt.own2 {C:Ctx} {ρ:Nat->Pl} {mem:AM} {nx:Nat} {w:World} (hm:MemAt C ρ mem nx w) (hbor:C.bor=[]) {s:St} {T Cc:Value} {rT rC:Nat} (hne:rT≠rC) (hT:SlO mem 12 tsC default s.tenants T rT) (hC:SlO mem 4 csC default s.cells Cc rC) :
  ∃ y2,zaW ρ (.agg #[.int .i64 s.tick,.int .i64 s.count,T,Cc,.int .i64 s.proven,.int .i64 s.evac,.int .i64 s.low,.int .i64 s.high])=.agg (stC y2 s)/\StOwn2 C.w0.heap.size w y2 s:=by
 obtain⟨c1,b1,e1,o1,p1⟩:=hm.slO hbor (enc:=tsC) (sz:=12) (fun _=>rfl) o_ hT;obtain⟨c2,b2,e2,o2,p2⟩:=hm.slO hbor (enc:=csC) (sz:=4) (fun _=>rfl) o_ hC;refine⟨⟨(ρ rT).A,c1,(ρ rC).A,c2⟩,?_,⟨b1,b2,o1,o2,fun h1 h2=>?_⟩⟩
 ·have d:∀ v,zal ρ (.int .i64 v)=.int .i64 v:=fun _=>rfl
  simp[den,zaW,stC,d,e1,e2]
 ·obtain⟨_,_,_,n1,_,_,_,l1,t1,g1,_⟩:=hT;obtain⟨_,_,_,n2,_,_,_,l2,t2,g2,_⟩:=hC;have hl1:0<s.tenants.length:=List.length_pos_iff.2 h1;have hl2:0<s.cells.length:=List.length_pos_iff.2 h2;have:=hm.sep rT rC _ _ hne l1 l2;simp only[Apart] at this;rcases this t1 with q | q | q
  ·omega
  ·omega
  ·rw[p1 h1,p2 h2] at q;exact fun h=>q (by rw[h])
theorem OwnL.rd {α:Type} {B:Nat} {w:World} {A:Option Addr} {sz:Nat} {enc:α->List Value} {d:α} {l:List α} {b:Nat} (h:OwnL B w A sz enc d l b) (hs:∀ x,(enc x).length=sz) (hpos:0<sz):Rd w (fun b=>B<=b/\b<w.heap.size) A (zaJ enc l):=by
 intro hne;have hl:l≠[]:=fun q=>hne (by rw[q];rfl)
 obtain⟨hA,hb,ty,cs,hblk⟩:=h.at_ hl;refine⟨b,0,hA,⟨hb,hblk.lt⟩,fun j v hv=>?_⟩;obtain⟨x,h1,h2⟩:=zgZ hs hpos l j v hv;have hlt:j / sz<l.length:=(List.getElem?_eq_some_iff.1 h1).1;have hx:l.getD (j / sz) d=x:=by rw[gd_,h1];rfl
 have:=h.cells (j / sz) hlt (j % sz) v (by rw[hx];exact h2);rw[Nat.zero_add];have e:j / sz * sz+j % sz=j:=by rw[Nat.mul_comm];exact Nat.div_add_mod j sz
 rw[e] at this;exact this
theorem StOwn2.ok {B:Nat} {w:World} {y:StA} {s:St} (h:StOwn2 B w y s):StOk w (fun b=>B<=b/\b<w.heap.size) y s:=by
 obtain⟨bt,bc,ht,hc,-⟩:=h.ex;exact⟨ht.rd (fun _=>rfl) o_,hc.rd (fun _=>rfl) o_⟩
theorem StOwn2.zero (B:Nat) (w:World):StOwn2 B w noA St.zero:=
 ⟨0,0,⟨fun q=>absurd rfl q,fun k hk=>absurd hk (by simp[St.zero])⟩,⟨fun q=>absurd rfl q,fun k hk=>absurd hk (by simp[St.zero])⟩,fun q=>absurd rfl q⟩
theorem zfI (set i:Int) (w:World) (h0:0<=set) (h1:set<4294967296) :
  Calls Tryz.prog 86 #[.int .i64 set,.int .i64 i] w fun e w'=>e=.returned (.bool (zc2 set i))/\w=w':=by
 have HB:=Lib.hid (bit_div set i h0);go_enter Tryz.func86,Tryz.ntmps86;go_wp2;all_goals
  go_ret;refine⟨zak ?_,rfl⟩
 ·rw[HB.out o_];simp[zc2, *]
 ·simp[zc2];omega
 ·simp[zc2];omega
theorem zhA (x:CfgA) (c:Cfg) (k:Int) (w:World) (hV:CfgV c) (hok:CfgOk w (·<w.heap.size) x c) :
  Calls Tryz.prog 266 #[.agg (zaH x c),.int .i64 k] w fun e w'=>e=.returned (.int .i64 (zcb c k))/\Below w.heap.size w w':=by
 obtain⟨az,cz,ac,cc,at_,ct,av,cv,ar,cr,ao,co⟩:=x;have hnc:=hV.nc;have HK:=Lib.hid hok;clear hok hV;unfold zaH;simp only;by_cases hk:0<=k/\k<c.cells.length
 ·obtain⟨hk0,hk1⟩:=hk;obtain⟨n,rfl⟩:=Int.eq_ofNat_of_zero_le hk0;have hn:n<c.cells.length:=by omega
  obtain⟨b,off,z,rfl,hb,hz,hcell⟩:=HK.out.cells.row (enc:=zaI) (sz:=2) (fun _=>rfl) o_ hn;have e0:=hcell 0 (.int .i64 z.1) rfl;simp only[Nat.add_zero] at e0;have hzo:zcb c n=z.1:=by unfold zcb;rw[if_pos ⟨hk0,hk1⟩,Int.toNat_natCast,getD_some hz]
  have HZ:=Lib.hid hzo;have hb1:b<w.heap.size:=hb;clear hcell hz hzo;go_enter Tryz.func266,Tryz.ntmps266;go_wp2;go_ret;exact⟨zah HZ.out.symm,(Below.refl _ _).alloc nl_ _⟩
 ·have hzo:zcb c k=-1:=by unfold zcb;rw[if_neg hk]
  have HZ:=Lib.hid hzo;have hd:k<0∨(0<=k/\(c.cells.length:Int)<=k):=by omega
  clear hk hzo;rcases hd with hd | ⟨hd1,hd⟩
  all_goals
   go_enter Tryz.func266,Tryz.ntmps266;go_wp2;go_ret;exact⟨zah HZ.out.symm,(Below.refl _ _).alloc nl_ _⟩
theorem zlq {c:Cfg} (hV:CfgV c) (k:Int):(zcb c k=-1)∨(0<=zcb c k/\zcb c k<c.zones.length):=by
 unfold zcb;split
 ·rename_i h
  obtain⟨n,rfl⟩:=Int.eq_ofNat_of_zero_le h.1;have hn:n<c.cells.length:=by omega
  right;rw[gd_,Int.toNat_natCast,List.getElem?_eq_getElem hn];exact hV.zone _ (List.getElem_mem hn)
 ·exact .inl rfl
theorem ziC {c:Cfg} (hV:CfgV c) (k:Int):-1<=zax c k/\zax c k<c.regions:=by
 unfold zax zcz;have hr:=hV.reg;split
 ·rename_i h
  obtain⟨n,hn⟩:=Int.eq_ofNat_of_zero_le h.1;rw[hn] at h ⊢;have hl:n<c.zones.length:=by omega
  rw[gd_,Int.toNat_natCast,List.getElem?_eq_getElem hl];have:=hV.region _ (List.getElem_mem hl);simp only[Option.getD_some];omega
 ·omega
theorem zc8 (x:CfgA) (c:Cfg) (k:Int) (w:World) (hV:CfgV c) (hok:CfgOk w (·<w.heap.size) x c) :
  Calls Tryz.prog 208 #[.agg (zaH x c),.int .i64 k] w fun e w'=>e=.returned (.int .i64 (zax c k))/\Below w.heap.size w w':=by
 obtain⟨az,cz,ac,cc,at_,ct,av,cv,ar,cr,ao,co⟩:=x;have hnc:=hV.nz;have HV:=Lib.hid hV;have HK:=Lib.hid hok;have hzb:=zlq hV k;clear hok hV;unfold zaH;simp only;go_enter Tryz.func208,Tryz.ntmps208;go_wp2_with fail;refine (zhA ⟨az,cz,ac,cc,at_,ct,av,cv,ar,cr,ao,co⟩ c k _ HV.out (HK.out.allocW _)).mono ?_;rintro e w1 ⟨rfl,hb1⟩;have HB:Hid (Below w.heap.size w w1):=((Below.refl _ _).alloc nl_ _).trans (hb1.mono (by simp));obtain⟨hc1,hf1⟩:=zf2 hb1;have HR:Hid (zax c k=zcz c (zcb c k)):=rfl;generalize zcb c k=z at *;rcases hzb with rfl | ⟨hz0,hz1⟩
 ·clear hc1 hf1 hb1;go_wp2;go_ret;exact⟨zah (by rw[HR.out];simp[zcz]),HB.out⟩
 ·obtain⟨n,rfl⟩:=Int.eq_ofNat_of_zero_le hz0;have hn:n<c.zones.length:=by omega
  obtain⟨b,off,z,rfl,hb,hz,hcell⟩:=HK.out.zones.row (enc:=zaw) (sz:=1) (fun _=>rfl) o_ hn;have e0:=hcell 0 (.int .i64 z) rfl;simp only[Nat.add_zero,Nat.mul_one] at e0;have hzo:zcz c n=z:=by unfold zcz;rw[if_pos ⟨hz0,hz1⟩,Int.toNat_natCast,getD_some hz]
  have HZ:=Lib.hid (HR.out.trans hzo);have hb0:b<w.heap.size:=hb;have e1:w1.cell? ⟨b,off+n,none⟩=some (.int .i64 z):=by rw[hc1 b _ (by simp;omega),World.cell?_alloc_lt w _ _ (show b<w.heap.size from hb)];exact e0
  have d1:w1.cell? ⟨w.heap.size,1,none⟩=some (.slice (some ⟨b,off,none⟩) c.zones.length cz):=by rw[hc1 _ _ (by simp)];go_simp
  clear hcell hz hzo hc1 hf1 hb1 HR e0;go_wp2;go_ret;exact⟨zah HZ.out.symm,HB.out⟩
end Go.Proofs.YtjnndjnpcelafaaGreat
