import Derived.Test.YtjnndjnpcelafaaGreatPt15
namespace Go.Proofs.YtjnndjnpcelafaaGreat
set_option maxHeartbeats 16000000
set_option maxRecDepth 100000
open Go.RowKit
set_option linter.unusedSimpArgs false
set_option linter.unusedVariables false
theorem zkp (c:Cfg) (y:StA) (s:St) (e:Ent) (w:World) (hV:CfgV c) (hI:StInv c s) (hs:StOk w (·<w.heap.size) y s) (hx0:0<=e.cell) (hx1:e.cell<s.cells.length) :
  Calls Tryz.prog 97 #[.agg (stC y s),.agg (zbe e).toArray] w fun r w'=>r=.returned (.int .i64 (zhN s e))/\Below w.heap.size w w':=by
 have hnc:=hV.nc;have hntt:=hV.nt;have HV:=Lib.hid hV;clear hV;obtain⟨sat,sct,sac,scc⟩:=y;have HKs:=Lib.hid hs;have hsl:1<=s.cells.length/\s.cells.length<=16:=by have:=hI.lc;omega
 have hst:s.tenants.length<=32:=by have:=hI.lt;omega
 have HI:=Lib.hid hI;clear hs hI;obtain⟨kind,tick,tenant,cell,other,epoch,since,till,n⟩:=e;try simp only at *
 obtain⟨xn,rfl⟩:=Int.eq_ofNat_of_zero_le hx0;have hxn:xn<s.cells.length:=by omega
 obtain⟨bx,ofx,x,rfl,hbx,hzx,hcx⟩:=HKs.out.cells.row (enc:=csC) (sz:=4) (fun _=>rfl) o_ hxn;have HX:Hid (zaQ s xn=x):=Lib.hid (by unfold zaQ;rw[Int.toNat_natCast,getD_some hzx]);have HXI:=Lib.hid (HI.out.cel _ (List.mem_of_getElem? hzx));have hbx1:bx<w.heap.size:=hbx;have HR:Hid (zhN s ⟨kind,tick,tenant,xn,other,epoch,since,till,n⟩=if x.mode=n then 4 else 0):=Lib.hid (by unfold zhN;rw[HX.out]);have hL:Below w.heap.size w ((w.alloc (.cells #[.int .i64 s.tick,.int .i64 s.count,.slice sat s.tenants.length sct,.slice (some ⟨bx,ofx,none⟩) s.cells.length scc,.int .i64 s.proven,.int .i64 s.evac,.int .i64 s.low,.int .i64 s.high] 37)).alloc (.cells #[.int .i64 kind,.int .i64 tick,.int .i64 tenant,.int .i64 xn,.int .i64 other,.int .i64 epoch,.int .i64 since,.int .i64 till,.int .i64 n] 43)):=(((Below.refl w.heap.size w).alloc (by simp<;>omega) (.cells #[.int .i64 s.tick,.int .i64 s.count,.slice sat s.tenants.length sct,.slice (some ⟨bx,ofx,none⟩) s.cells.length scc,.int .i64 s.proven,.int .i64 s.evac,.int .i64 s.low,.int .i64 s.high] 37)).alloc (by simp<;>omega) (.cells #[.int .i64 kind,.int .i64 tick,.int .i64 tenant,.int .i64 xn,.int .i64 other,.int .i64 epoch,.int .i64 since,.int .i64 till,.int .i64 n] 43));have hBs:Blk ((w.alloc (.cells #[.int .i64 s.tick,.int .i64 s.count,.slice sat s.tenants.length sct,.slice (some ⟨bx,ofx,none⟩) s.cells.length scc,.int .i64 s.proven,.int .i64 s.evac,.int .i64 s.low,.int .i64 s.high] 37)).alloc (.cells #[.int .i64 kind,.int .i64 tick,.int .i64 tenant,.int .i64 xn,.int .i64 other,.int .i64 epoch,.int .i64 since,.int .i64 till,.int .i64 n] 43)) (w.heap.size) 37 #[.int .i64 s.tick,.int .i64 s.count,.slice sat s.tenants.length sct,.slice (some ⟨bx,ofx,none⟩) s.cells.length scc,.int .i64 s.proven,.int .i64 s.evac,.int .i64 s.low,.int .i64 s.high]:=by
  have:=((Blk.new w 37 #[.int .i64 s.tick,.int .i64 s.count,.slice sat s.tenants.length sct,.slice (some ⟨bx,ofx,none⟩) s.cells.length scc,.int .i64 s.proven,.int .i64 s.evac,.int .i64 s.low,.int .i64 s.high]).alloc (.cells #[.int .i64 kind,.int .i64 tick,.int .i64 tenant,.int .i64 xn,.int .i64 other,.int .i64 epoch,.int .i64 since,.int .i64 till,.int .i64 n] 43));simpa using this
 have hBe:Blk ((w.alloc (.cells #[.int .i64 s.tick,.int .i64 s.count,.slice sat s.tenants.length sct,.slice (some ⟨bx,ofx,none⟩) s.cells.length scc,.int .i64 s.proven,.int .i64 s.evac,.int .i64 s.low,.int .i64 s.high] 37)).alloc (.cells #[.int .i64 kind,.int .i64 tick,.int .i64 tenant,.int .i64 xn,.int .i64 other,.int .i64 epoch,.int .i64 since,.int .i64 till,.int .i64 n] 43)) (w.heap.size+1) 43 #[.int .i64 kind,.int .i64 tick,.int .i64 tenant,.int .i64 xn,.int .i64 other,.int .i64 epoch,.int .i64 since,.int .i64 till,.int .i64 n]:=by
  have:=(Blk.new (w.alloc (.cells #[.int .i64 s.tick,.int .i64 s.count,.slice sat s.tenants.length sct,.slice (some ⟨bx,ofx,none⟩) s.cells.length scc,.int .i64 s.proven,.int .i64 s.evac,.int .i64 s.low,.int .i64 s.high] 37)) 43 #[.int .i64 kind,.int .i64 tick,.int .i64 tenant,.int .i64 xn,.int .i64 other,.int .i64 epoch,.int .i64 since,.int .i64 till,.int .i64 n]);simpa using this
 unfold stC zbe;simp only;go_enter Tryz.func97,Tryz.ntmps97;go_upto_region 1 with fail
 generalize (w.alloc _).alloc _=W at *;have hgs:=hBs.lt;have su0:=hBs.cell' (i:=0) (v:=.int .i64 s.tick) rfl;have su1:=hBs.cell' (i:=1) (v:=.int .i64 s.count) rfl;have su2:=hBs.cell' (i:=2) (v:=.slice sat s.tenants.length sct) rfl;have su3:=hBs.cell' (i:=3) (v:=.slice (some ⟨bx,ofx,none⟩) s.cells.length scc) rfl;have su4:=hBs.cell' (i:=4) (v:=.int .i64 s.proven) rfl;have su5:=hBs.cell' (i:=5) (v:=.int .i64 s.evac) rfl;have su6:=hBs.cell' (i:=6) (v:=.int .i64 s.low) rfl;have su7:=hBs.cell' (i:=7) (v:=.int .i64 s.high) rfl;clear hBs;have hge:=hBe.lt;have v0:=hBe.cell' (i:=0) (v:=.int .i64 kind) rfl;have v1:=hBe.cell' (i:=1) (v:=.int .i64 tick) rfl;have v2:=hBe.cell' (i:=2) (v:=.int .i64 tenant) rfl;have v3:=hBe.cell' (i:=3) (v:=.int .i64 xn) rfl;have v4:=hBe.cell' (i:=4) (v:=.int .i64 other) rfl;have v5:=hBe.cell' (i:=5) (v:=.int .i64 epoch) rfl;have v6:=hBe.cell' (i:=6) (v:=.int .i64 since) rfl;have v7:=hBe.cell' (i:=7) (v:=.int .i64 till) rfl;have v8:=hBe.cell' (i:=8) (v:=.int .i64 n) rfl;clear hBe;have HL:=Lib.hid hL;have HWs:=Lib.hid (HKs.out.belowW hL);clear hL;have x0:W.cell? ⟨bx,ofx+xn * 4,none⟩=some (.int .i64 x.mode):=(HL.out.cell (p:=⟨bx,ofx+xn * 4,none⟩) hbx1).trans (hcx 0 _ rfl);have x1:W.cell? ⟨bx,ofx+xn * 4+1,none⟩=some (.int .i64 x.running):=(HL.out.cell (p:=⟨bx,ofx+xn * 4+1,none⟩) hbx1).trans (hcx 1 _ rfl);have x2:W.cell? ⟨bx,ofx+xn * 4+2,none⟩=some (.int .i64 x.wanted):=(HL.out.cell (p:=⟨bx,ofx+xn * 4+2,none⟩) hbx1).trans (hcx 2 _ rfl);have x3:W.cell? ⟨bx,ofx+xn * 4+3,none⟩=some (.int .i64 x.since):=(HL.out.cell (p:=⟨bx,ofx+xn * 4+3,none⟩) hbx1).trans (hcx 3 _ rfl);have hbxW:bx<W.heap.size:=Nat.lt_of_lt_of_le hbx1 HL.out.size;clear hcx hzx hbx hbx1;have hx:∀ (y:Later W.heap.size W) b o,b<W.heap.size->y.world.cell? ⟨b,o,none⟩=W.cell? ⟨b,o,none⟩:=fun y b o h=>y.cell h
 refine zay W.heap.size k_ k_ ?_;repeat (first | go_big_quiet_step ((first | fail)) | quiet_step ((first | fail)))
 refine wpQuiet_nil ?_;rintro w' ⟨y0,rfl⟩;clear hx;go_wp2;all_goals
  go_ret;refine⟨zah ?_,(by first | exact HL.out | exact HL.out.trans ((Later.below _).mono HL.out.size))⟩;rw[HR.out];go_light;clear HR HL;simp_all;try omega
theorem zkr (c:Cfg) (y:StA) (s:St) (e:Ent) (w:World) (hV:CfgV c) (hI:StInv c s) (hs:StOk w (·<w.heap.size) y s)  :
  Calls Tryz.prog 101 #[.agg (stC y s),.agg (zbe e).toArray] w fun r w'=>r=.returned (.int .i64 (zh1 s e))/\Below w.heap.size w w':=by
 have hnc:=hV.nc;have hntt:=hV.nt;have HV:=Lib.hid hV;clear hV;obtain⟨sat,sct,sac,scc⟩:=y;have HKs:=Lib.hid hs;have hsl:1<=s.cells.length/\s.cells.length<=16:=by have:=hI.lc;omega
 have hst:s.tenants.length<=32:=by have:=hI.lt;omega
 have HI:=Lib.hid hI;clear hs hI;obtain⟨kind,tick,tenant,cell,other,epoch,since,till,n⟩:=e;try simp only at *
 have hev:=HI.out.evac;have HR:Hid (zh1 s ⟨kind,tick,tenant,cell,other,epoch,since,till,n⟩=if zc2 s.evac other=decide (n=1) then 4 else 0):=Lib.hid rfl;have hL:Below w.heap.size w ((w.alloc (.cells #[.int .i64 s.tick,.int .i64 s.count,.slice sat s.tenants.length sct,.slice sac s.cells.length scc,.int .i64 s.proven,.int .i64 s.evac,.int .i64 s.low,.int .i64 s.high] 37)).alloc (.cells #[.int .i64 kind,.int .i64 tick,.int .i64 tenant,.int .i64 cell,.int .i64 other,.int .i64 epoch,.int .i64 since,.int .i64 till,.int .i64 n] 43)):=(((Below.refl w.heap.size w).alloc (by simp<;>omega) (.cells #[.int .i64 s.tick,.int .i64 s.count,.slice sat s.tenants.length sct,.slice sac s.cells.length scc,.int .i64 s.proven,.int .i64 s.evac,.int .i64 s.low,.int .i64 s.high] 37)).alloc (by simp<;>omega) (.cells #[.int .i64 kind,.int .i64 tick,.int .i64 tenant,.int .i64 cell,.int .i64 other,.int .i64 epoch,.int .i64 since,.int .i64 till,.int .i64 n] 43));have hBs:Blk ((w.alloc (.cells #[.int .i64 s.tick,.int .i64 s.count,.slice sat s.tenants.length sct,.slice sac s.cells.length scc,.int .i64 s.proven,.int .i64 s.evac,.int .i64 s.low,.int .i64 s.high] 37)).alloc (.cells #[.int .i64 kind,.int .i64 tick,.int .i64 tenant,.int .i64 cell,.int .i64 other,.int .i64 epoch,.int .i64 since,.int .i64 till,.int .i64 n] 43)) (w.heap.size) 37 #[.int .i64 s.tick,.int .i64 s.count,.slice sat s.tenants.length sct,.slice sac s.cells.length scc,.int .i64 s.proven,.int .i64 s.evac,.int .i64 s.low,.int .i64 s.high]:=by
  have:=((Blk.new w 37 #[.int .i64 s.tick,.int .i64 s.count,.slice sat s.tenants.length sct,.slice sac s.cells.length scc,.int .i64 s.proven,.int .i64 s.evac,.int .i64 s.low,.int .i64 s.high]).alloc (.cells #[.int .i64 kind,.int .i64 tick,.int .i64 tenant,.int .i64 cell,.int .i64 other,.int .i64 epoch,.int .i64 since,.int .i64 till,.int .i64 n] 43));simpa using this
 have hBe:Blk ((w.alloc (.cells #[.int .i64 s.tick,.int .i64 s.count,.slice sat s.tenants.length sct,.slice sac s.cells.length scc,.int .i64 s.proven,.int .i64 s.evac,.int .i64 s.low,.int .i64 s.high] 37)).alloc (.cells #[.int .i64 kind,.int .i64 tick,.int .i64 tenant,.int .i64 cell,.int .i64 other,.int .i64 epoch,.int .i64 since,.int .i64 till,.int .i64 n] 43)) (w.heap.size+1) 43 #[.int .i64 kind,.int .i64 tick,.int .i64 tenant,.int .i64 cell,.int .i64 other,.int .i64 epoch,.int .i64 since,.int .i64 till,.int .i64 n]:=by
  have:=(Blk.new (w.alloc (.cells #[.int .i64 s.tick,.int .i64 s.count,.slice sat s.tenants.length sct,.slice sac s.cells.length scc,.int .i64 s.proven,.int .i64 s.evac,.int .i64 s.low,.int .i64 s.high] 37)) 43 #[.int .i64 kind,.int .i64 tick,.int .i64 tenant,.int .i64 cell,.int .i64 other,.int .i64 epoch,.int .i64 since,.int .i64 till,.int .i64 n]);simpa using this
 unfold stC zbe;simp only;go_enter Tryz.func101,Tryz.ntmps101;go_upto_region 1 with fail
 generalize (w.alloc _).alloc _=W at *;have hgs:=hBs.lt;have su0:=hBs.cell' (i:=0) (v:=.int .i64 s.tick) rfl;have su1:=hBs.cell' (i:=1) (v:=.int .i64 s.count) rfl;have su2:=hBs.cell' (i:=2) (v:=.slice sat s.tenants.length sct) rfl;have su3:=hBs.cell' (i:=3) (v:=.slice sac s.cells.length scc) rfl;have su4:=hBs.cell' (i:=4) (v:=.int .i64 s.proven) rfl;have su5:=hBs.cell' (i:=5) (v:=.int .i64 s.evac) rfl;have su6:=hBs.cell' (i:=6) (v:=.int .i64 s.low) rfl;have su7:=hBs.cell' (i:=7) (v:=.int .i64 s.high) rfl;clear hBs;have hge:=hBe.lt;have v0:=hBe.cell' (i:=0) (v:=.int .i64 kind) rfl;have v1:=hBe.cell' (i:=1) (v:=.int .i64 tick) rfl;have v2:=hBe.cell' (i:=2) (v:=.int .i64 tenant) rfl;have v3:=hBe.cell' (i:=3) (v:=.int .i64 cell) rfl;have v4:=hBe.cell' (i:=4) (v:=.int .i64 other) rfl;have v5:=hBe.cell' (i:=5) (v:=.int .i64 epoch) rfl;have v6:=hBe.cell' (i:=6) (v:=.int .i64 since) rfl;have v7:=hBe.cell' (i:=7) (v:=.int .i64 till) rfl;have v8:=hBe.cell' (i:=8) (v:=.int .i64 n) rfl;clear hBe;have HL:=Lib.hid hL;have HWs:=Lib.hid (HKs.out.belowW hL);clear hL;have hx:∀ (y:Later W.heap.size W) b o,b<W.heap.size->y.world.cell? ⟨b,o,none⟩=W.cell? ⟨b,o,none⟩:=fun y b o h=>y.cell h
 refine zay W.heap.size k_ k_ ?_;repeat (first | go_big_quiet_step ((first | (go_at_call 42;exact zbq _ (zbN _ _ _ o_ o_)))) | quiet_step ((first | (go_at_call 42;exact zbq _ (zbN _ _ _ o_ o_)))))
 refine wpQuiet_nil ?_;rintro w' ⟨y0,rfl⟩;clear hx;go_wp2;all_goals
  go_ret;refine⟨zah ?_,(by first | exact HL.out | exact HL.out.trans ((Later.below _).mono HL.out.size))⟩;rw[HR.out];go_light;clear HR HL;have e1:(n==1)=decide (n=1):=(by rw[Bool.eq_iff_iff];simp);rw[e1] at *;generalize zc2 s.evac other=hb at *;cases hb<;>by_cases hn:n=1<;>simp_all;try omega
theorem zgb (c:Cfg) (y:StA) (s:St) (w:World) (hV:CfgV c) (hI:StInv c s) (hs:StOk w (·<w.heap.size) y s)  :
  Calls Tryz.prog 103 #[.agg (stC y s)] w fun r w'=>r=.returned (.int .i64 (zcF s))/\Below w.heap.size w w':=by
 have hnc:=hV.nc;have hntt:=hV.nt;have HV:=Lib.hid hV;clear hV;obtain⟨sat,sct,sac,scc⟩:=y;have HKs:=Lib.hid hs;have hsl:1<=s.cells.length/\s.cells.length<=16:=by have:=hI.lc;omega
 have hst:s.tenants.length<=32:=by have:=hI.lt;omega
 have HI:=Lib.hid hI;clear hs hI;have HR:Hid (zcF s=if s.high=s.low then 4 else 0):=Lib.hid rfl;have hL:Below w.heap.size w (w.alloc (.cells #[.int .i64 s.tick,.int .i64 s.count,.slice sat s.tenants.length sct,.slice sac s.cells.length scc,.int .i64 s.proven,.int .i64 s.evac,.int .i64 s.low,.int .i64 s.high] 37)):=((Below.refl w.heap.size w).alloc (by simp<;>omega) (.cells #[.int .i64 s.tick,.int .i64 s.count,.slice sat s.tenants.length sct,.slice sac s.cells.length scc,.int .i64 s.proven,.int .i64 s.evac,.int .i64 s.low,.int .i64 s.high] 37));have hBs:Blk (w.alloc (.cells #[.int .i64 s.tick,.int .i64 s.count,.slice sat s.tenants.length sct,.slice sac s.cells.length scc,.int .i64 s.proven,.int .i64 s.evac,.int .i64 s.low,.int .i64 s.high] 37)) (w.heap.size) 37 #[.int .i64 s.tick,.int .i64 s.count,.slice sat s.tenants.length sct,.slice sac s.cells.length scc,.int .i64 s.proven,.int .i64 s.evac,.int .i64 s.low,.int .i64 s.high]:=by
  have:=(Blk.new w 37 #[.int .i64 s.tick,.int .i64 s.count,.slice sat s.tenants.length sct,.slice sac s.cells.length scc,.int .i64 s.proven,.int .i64 s.evac,.int .i64 s.low,.int .i64 s.high]);simpa using this
 unfold stC;simp only;go_enter Tryz.func103,Tryz.ntmps103;go_upto_region 1 with fail
 generalize w.alloc _=W at *;have hgs:=hBs.lt;have su0:=hBs.cell' (i:=0) (v:=.int .i64 s.tick) rfl;have su1:=hBs.cell' (i:=1) (v:=.int .i64 s.count) rfl;have su2:=hBs.cell' (i:=2) (v:=.slice sat s.tenants.length sct) rfl;have su3:=hBs.cell' (i:=3) (v:=.slice sac s.cells.length scc) rfl;have su4:=hBs.cell' (i:=4) (v:=.int .i64 s.proven) rfl;have su5:=hBs.cell' (i:=5) (v:=.int .i64 s.evac) rfl;have su6:=hBs.cell' (i:=6) (v:=.int .i64 s.low) rfl;have su7:=hBs.cell' (i:=7) (v:=.int .i64 s.high) rfl;clear hBs;have HL:=Lib.hid hL;have HWs:=Lib.hid (HKs.out.belowW hL);clear hL;go_wp2;all_goals
  go_ret;refine⟨zah ?_,(by first | exact HL.out | exact HL.out.trans ((Later.below _).mono HL.out.size))⟩;rw[HR.out];go_light;clear HR HL;simp_all;try omega
theorem zjk {α:Type} {l:List α} {p:α->Bool} (h:∀ (k:Nat) (x:α),l[k]?=some x->p x=false):l.any p=false:=by
 rw[Bool.eq_false_iff];intro h2;obtain⟨x,hx,hp⟩:=List.any_eq_true.1 h2;obtain⟨k,hk,he⟩:=List.getElem_of_mem hx;rw[h k x (by rw[List.getElem?_eq_getElem hk,he])] at hp;cases hp
theorem zha {α:Type} {l:List α} {p:α->Bool} {k:Nat} {x:α} (h:l[k]?=some x) (hp:p x=true):l.any p=true:=List.any_eq_true.2 ⟨x,List.mem_of_getElem? h,hp⟩
theorem zfQ {α:Type} {l:List α} {p:α->Bool} {k:Nat} {z:α} (h:∀ (j:Nat) (x:α),j<k->l[j]?=some x->p x=false) (hz:l[k]?=some z) (hp:p z=false):∀ (j:Nat) (x:α),j<k+1->l[j]?=some x->p x=false:=by
 intro j x hj hx;by_cases hjk:j<k
 ·exact h j x hjk hx
 ·obtain rfl:j=k:=by omega
  rw[hz] at hx;injection hx with hx
  rw[← hx];exact hp
theorem zhb {α:Type} {l:List α} {p:α->Bool} {k:Nat} (h:∀ (j:Nat) (x:α),j<k->l[j]?=some x->p x=false) (hk:l.length<=k):l.any p=false:=
 zjk fun j x hx=>h j x (Nat.lt_of_lt_of_le (List.getElem?_eq_some_iff.1 hx).1 hk) hx
def zjn {α:Type} (W:World) (l:List α) (p:α->Bool) (gk:Nat) (si:Value) (wr:World):Prop:=
 ∃ (k:Nat) (y:Later W.heap.size W),gk+k=l.length/\si=.int .i64 k/\wr=y.world/\∀ (j:Nat) (x:α),j<k->l[j]?=some x->p x=false
theorem zit (x : CfgA) (c : Cfg) (y : StA) (s : St) (e : Ent) (w : World) (hV : CfgV c) (hc : CfgOk w (· < w.heap.size) x c) (hI : StInv c s) (hs : StOk w (· < w.heap.size) y s) (htk : 0 <= e.tick /\ e.tick <= 1073741824) :
    Calls Tryz.prog 100 #[.agg (zaH x c), .agg (stC y s), .agg (zbe e).toArray] w fun r w' => r = .returned (.int .i64 (zf7 c s e)) /\ Below w.heap.size w w' := by
  have hnc := hV.nc
  have hntt := hV.nt
  obtain ⟨az, cz, ac, cc, at_, ct, av, cv, ar, cr, ao, co⟩ := x
  have HV := Lib.hid hV
  have HKc := Lib.hid hc
  clear hV hc
  obtain ⟨sat, sct, sac, scc⟩ := y
  have HKs := Lib.hid hs
  have hsl : 1 <= s.cells.length /\ s.cells.length <= 16 := by have := hI.lc; omega
  have hst : s.tenants.length <= 32 := by have := hI.lt; omega
  have HI := Lib.hid hI
  clear hs hI
  obtain ⟨kind, tick, tenant, cell, other, epoch, since, till, n⟩ := e
  try simp only at *
  have hpr := HI.out.proven
  have hbk := HV.out.bake
  have HR : Hid (zf7 c s ⟨kind, tick, tenant, cell, other, epoch, since, till, n⟩ = if zc2 s.proven n = true then 4 else if s.cells.any (zcn c ⟨kind, tick, tenant, cell, other, epoch, since, till, n⟩) = true then 0 else 15) := Lib.hid rfl
  have hL : Below w.heap.size w (((w.alloc (.cells #[.int .i64 c.regions, .slice az c.zones.length cz, .slice ac c.cells.length cc, .slice at_ c.tenants.length ct, .slice av c.versions.length cv, .slice ar c.replicas.length cr, .slice ao c.observers.length co, .int .i64 c.blast, .int .i64 c.lease, .int .i64 c.bake] 30)).alloc (.cells #[.int .i64 s.tick, .int .i64 s.count, .slice sat s.tenants.length sct, .slice sac s.cells.length scc, .int .i64 s.proven, .int .i64 s.evac, .int .i64 s.low, .int .i64 s.high] 37)).alloc (.cells #[.int .i64 kind, .int .i64 tick, .int .i64 tenant, .int .i64 cell, .int .i64 other, .int .i64 epoch, .int .i64 since, .int .i64 till, .int .i64 n] 43)) := ((((Below.refl w.heap.size w).alloc (by simp <;> omega) (.cells #[.int .i64 c.regions, .slice az c.zones.length cz, .slice ac c.cells.length cc, .slice at_ c.tenants.length ct, .slice av c.versions.length cv, .slice ar c.replicas.length cr, .slice ao c.observers.length co, .int .i64 c.blast, .int .i64 c.lease, .int .i64 c.bake] 30)).alloc (by simp <;> omega) (.cells #[.int .i64 s.tick, .int .i64 s.count, .slice sat s.tenants.length sct, .slice sac s.cells.length scc, .int .i64 s.proven, .int .i64 s.evac, .int .i64 s.low, .int .i64 s.high] 37)).alloc (by simp <;> omega) (.cells #[.int .i64 kind, .int .i64 tick, .int .i64 tenant, .int .i64 cell, .int .i64 other, .int .i64 epoch, .int .i64 since, .int .i64 till, .int .i64 n] 43))
  have hBc : Blk (((w.alloc (.cells #[.int .i64 c.regions, .slice az c.zones.length cz, .slice ac c.cells.length cc, .slice at_ c.tenants.length ct, .slice av c.versions.length cv, .slice ar c.replicas.length cr, .slice ao c.observers.length co, .int .i64 c.blast, .int .i64 c.lease, .int .i64 c.bake] 30)).alloc (.cells #[.int .i64 s.tick, .int .i64 s.count, .slice sat s.tenants.length sct, .slice sac s.cells.length scc, .int .i64 s.proven, .int .i64 s.evac, .int .i64 s.low, .int .i64 s.high] 37)).alloc (.cells #[.int .i64 kind, .int .i64 tick, .int .i64 tenant, .int .i64 cell, .int .i64 other, .int .i64 epoch, .int .i64 since, .int .i64 till, .int .i64 n] 43)) (w.heap.size) 30 #[.int .i64 c.regions, .slice az c.zones.length cz, .slice ac c.cells.length cc, .slice at_ c.tenants.length ct, .slice av c.versions.length cv, .slice ar c.replicas.length cr, .slice ao c.observers.length co, .int .i64 c.blast, .int .i64 c.lease, .int .i64 c.bake] := by
    have := (((Blk.new w 30 #[.int .i64 c.regions, .slice az c.zones.length cz, .slice ac c.cells.length cc, .slice at_ c.tenants.length ct, .slice av c.versions.length cv, .slice ar c.replicas.length cr, .slice ao c.observers.length co, .int .i64 c.blast, .int .i64 c.lease, .int .i64 c.bake]).alloc (.cells #[.int .i64 s.tick, .int .i64 s.count, .slice sat s.tenants.length sct, .slice sac s.cells.length scc, .int .i64 s.proven, .int .i64 s.evac, .int .i64 s.low, .int .i64 s.high] 37)).alloc (.cells #[.int .i64 kind, .int .i64 tick, .int .i64 tenant, .int .i64 cell, .int .i64 other, .int .i64 epoch, .int .i64 since, .int .i64 till, .int .i64 n] 43))
    simpa using this
  have hBs : Blk (((w.alloc (.cells #[.int .i64 c.regions, .slice az c.zones.length cz, .slice ac c.cells.length cc, .slice at_ c.tenants.length ct, .slice av c.versions.length cv, .slice ar c.replicas.length cr, .slice ao c.observers.length co, .int .i64 c.blast, .int .i64 c.lease, .int .i64 c.bake] 30)).alloc (.cells #[.int .i64 s.tick, .int .i64 s.count, .slice sat s.tenants.length sct, .slice sac s.cells.length scc, .int .i64 s.proven, .int .i64 s.evac, .int .i64 s.low, .int .i64 s.high] 37)).alloc (.cells #[.int .i64 kind, .int .i64 tick, .int .i64 tenant, .int .i64 cell, .int .i64 other, .int .i64 epoch, .int .i64 since, .int .i64 till, .int .i64 n] 43)) (w.heap.size + 1) 37 #[.int .i64 s.tick, .int .i64 s.count, .slice sat s.tenants.length sct, .slice sac s.cells.length scc, .int .i64 s.proven, .int .i64 s.evac, .int .i64 s.low, .int .i64 s.high] := by
    have := ((Blk.new (w.alloc (.cells #[.int .i64 c.regions, .slice az c.zones.length cz, .slice ac c.cells.length cc, .slice at_ c.tenants.length ct, .slice av c.versions.length cv, .slice ar c.replicas.length cr, .slice ao c.observers.length co, .int .i64 c.blast, .int .i64 c.lease, .int .i64 c.bake] 30)) 37 #[.int .i64 s.tick, .int .i64 s.count, .slice sat s.tenants.length sct, .slice sac s.cells.length scc, .int .i64 s.proven, .int .i64 s.evac, .int .i64 s.low, .int .i64 s.high]).alloc (.cells #[.int .i64 kind, .int .i64 tick, .int .i64 tenant, .int .i64 cell, .int .i64 other, .int .i64 epoch, .int .i64 since, .int .i64 till, .int .i64 n] 43))
    simpa using this
  have hBe : Blk (((w.alloc (.cells #[.int .i64 c.regions, .slice az c.zones.length cz, .slice ac c.cells.length cc, .slice at_ c.tenants.length ct, .slice av c.versions.length cv, .slice ar c.replicas.length cr, .slice ao c.observers.length co, .int .i64 c.blast, .int .i64 c.lease, .int .i64 c.bake] 30)).alloc (.cells #[.int .i64 s.tick, .int .i64 s.count, .slice sat s.tenants.length sct, .slice sac s.cells.length scc, .int .i64 s.proven, .int .i64 s.evac, .int .i64 s.low, .int .i64 s.high] 37)).alloc (.cells #[.int .i64 kind, .int .i64 tick, .int .i64 tenant, .int .i64 cell, .int .i64 other, .int .i64 epoch, .int .i64 since, .int .i64 till, .int .i64 n] 43)) (w.heap.size + 1 + 1) 43 #[.int .i64 kind, .int .i64 tick, .int .i64 tenant, .int .i64 cell, .int .i64 other, .int .i64 epoch, .int .i64 since, .int .i64 till, .int .i64 n] := by
    have := (Blk.new ((w.alloc (.cells #[.int .i64 c.regions, .slice az c.zones.length cz, .slice ac c.cells.length cc, .slice at_ c.tenants.length ct, .slice av c.versions.length cv, .slice ar c.replicas.length cr, .slice ao c.observers.length co, .int .i64 c.blast, .int .i64 c.lease, .int .i64 c.bake] 30)).alloc (.cells #[.int .i64 s.tick, .int .i64 s.count, .slice sat s.tenants.length sct, .slice sac s.cells.length scc, .int .i64 s.proven, .int .i64 s.evac, .int .i64 s.low, .int .i64 s.high] 37)) 43 #[.int .i64 kind, .int .i64 tick, .int .i64 tenant, .int .i64 cell, .int .i64 other, .int .i64 epoch, .int .i64 since, .int .i64 till, .int .i64 n])
    simpa using this
  unfold zaH stC zbe
  simp only
  go_enter Tryz.func100, Tryz.ntmps100
  go_upto_region 1 with fail
  generalize ((w.alloc _).alloc _).alloc _ = W at *
  have hgc := hBc.lt
  have d0 := hBc.cell' (i := 0) (v := .int .i64 c.regions) rfl
  have d1 := hBc.cell' (i := 1) (v := .slice az c.zones.length cz) rfl
  have d2 := hBc.cell' (i := 2) (v := .slice ac c.cells.length cc) rfl
  have d3 := hBc.cell' (i := 3) (v := .slice at_ c.tenants.length ct) rfl
  have d4 := hBc.cell' (i := 4) (v := .slice av c.versions.length cv) rfl
  have d5 := hBc.cell' (i := 5) (v := .slice ar c.replicas.length cr) rfl
  have d6 := hBc.cell' (i := 6) (v := .slice ao c.observers.length co) rfl
  have d7 := hBc.cell' (i := 7) (v := .int .i64 c.blast) rfl
  have d8 := hBc.cell' (i := 8) (v := .int .i64 c.lease) rfl
  have d9 := hBc.cell' (i := 9) (v := .int .i64 c.bake) rfl
  clear hBc
  have hgs := hBs.lt
  have su0 := hBs.cell' (i := 0) (v := .int .i64 s.tick) rfl
  have su1 := hBs.cell' (i := 1) (v := .int .i64 s.count) rfl
  have su2 := hBs.cell' (i := 2) (v := .slice sat s.tenants.length sct) rfl
  have su3 := hBs.cell' (i := 3) (v := .slice sac s.cells.length scc) rfl
  have su4 := hBs.cell' (i := 4) (v := .int .i64 s.proven) rfl
  have su5 := hBs.cell' (i := 5) (v := .int .i64 s.evac) rfl
  have su6 := hBs.cell' (i := 6) (v := .int .i64 s.low) rfl
  have su7 := hBs.cell' (i := 7) (v := .int .i64 s.high) rfl
  clear hBs
  have hge := hBe.lt
  have v0 := hBe.cell' (i := 0) (v := .int .i64 kind) rfl
  have v1 := hBe.cell' (i := 1) (v := .int .i64 tick) rfl
  have v2 := hBe.cell' (i := 2) (v := .int .i64 tenant) rfl
  have v3 := hBe.cell' (i := 3) (v := .int .i64 cell) rfl
  have v4 := hBe.cell' (i := 4) (v := .int .i64 other) rfl
  have v5 := hBe.cell' (i := 5) (v := .int .i64 epoch) rfl
  have v6 := hBe.cell' (i := 6) (v := .int .i64 since) rfl
  have v7 := hBe.cell' (i := 7) (v := .int .i64 till) rfl
  have v8 := hBe.cell' (i := 8) (v := .int .i64 n) rfl
  clear hBe
  have HL := Lib.hid hL
  have HWc := Lib.hid (HKc.out.belowW hL)
  have HWs := Lib.hid (HKs.out.belowW hL)
  clear hL
  have hx : ∀ (y : Later W.heap.size W) b o, b < W.heap.size -> y.world.cell? ⟨b, o, none⟩ = W.cell? ⟨b, o, none⟩ := fun y b o h => y.cell h
  refine zcx W.heap.size ?_
  intro y0
  go_wp2_with (first
    | (go_at_call 42; (with_reducible refine (zbN _ _ _ o_ o_).mono ?_); rintro r wq ⟨rfl, rfl⟩)
    )
  · go_ret
    refine ⟨zah ?_, (by first | exact HL.out | exact HL.out.trans ((Later.below _).mono HL.out.size))⟩
    rw [HR.out]
    simp_all
  · have hno : zc2 s.proven n = false := by simp_all
    have HN := Lib.hid hno
    rw [hno]
    clear hno
    have hz : ∀ (y : Later W.heap.size W) b, b < W.heap.size -> b < y.world.heap.size := fun y b h => Nat.lt_of_lt_of_le h y.below.size
    go_loopg [17] s.cells.length (fun gk si wr => zjn W s.cells (zcn c ⟨kind, tick, tenant, cell, other, epoch, since, till, n⟩) gk si wr)
    case atStart => exact ⟨0, y0, by omega, rfl, rfl, fun j x h => absurd h (Nat.not_lt_zero _)⟩
    case round =>
      rename_i J K aJ aK
      obtain ⟨k, y, hgk, rfl, rfl, hnone⟩ := hrel
      have HNo := Lib.hid hnone
      clear hnone
      by_cases hk : k < s.cells.length
      · obtain ⟨b, off, z, rfl, hb, hzz, hcell⟩ := HWs.out.cells.row (enc := csC) (sz := 4) (fun _ => rfl) o_ hk
        have hbW : b < W.heap.size := hb
        have e0 := hcell 0 (.int .i64 z.mode) rfl
        have e1 := hcell 1 (.int .i64 z.running) rfl
        have e2 := hcell 2 (.int .i64 z.wanted) rfl
        have e3 := hcell 3 (.int .i64 z.since) rfl
        simp only [Nat.add_zero] at e0
        have hzi := HI.out.cel _ (List.mem_of_getElem? hzz)
        have hsi := hzi.since
        have HZ := Lib.hid hzz
        have HNX := Lib.hid (zfQ HNo.out hzz)
        clear hcell hzz hzi hb HNo
        have hlt : (k : Int) < (s.cells.length : Int) := by omega
        go_wp2
        all_goals first
          | (go_roundg (gk - 1)
             case measure => omega
             case rel =>
               refine ⟨k + 1, ⟨_, y.below.alloc y.below.size _⟩, by omega, by go_num, rfl, HNX.out ?_⟩
               go_light; (first | (simp [zcn, *]; done) | (simp [zcn]; omega) | (simp_all [zcn]; done) | (simp_all [zcn]; omega)))
          | (go_ret
             refine ⟨zah ?_, HL.out.trans ((y.below.alloc y.below.size _).mono HL.out.size)⟩
             have hyes : (zcn c ⟨kind, tick, tenant, cell, other, epoch, since, till, n⟩) z = true := (by go_light; (first | (simp [zcn, *]; done) | (simp [zcn]; omega) | (simp_all [zcn]; done) | (simp_all [zcn]; omega)))
             rw [HR.out, zha HZ.out hyes]
             simp [HN.out])
      · have hge : ¬ (k : Int) < (s.cells.length : Int) := by omega
        have HA := Lib.hid (zhb (l := s.cells) HNo.out o_)
        clear HNo
        go_wp2
        go_ret
        refine ⟨zah ?_, HL.out.trans (y.below.mono HL.out.size)⟩
        rw [HR.out, HA.out]
        simp [HN.out]
theorem zkl (c : Cfg) (y : StA) (s : St) (e : Ent) (w : World) (hV : CfgV c) (hI : StInv c s) (hs : StOk w (· < w.heap.size) y s) (hx0 : 0 <= e.cell) (hx1 : e.cell < s.cells.length) :
    Calls Tryz.prog 99 #[.agg (stC y s), .agg (zbe e).toArray] w fun r w' => r = .returned (.int .i64 (zfg s e)) /\ Below w.heap.size w w' := by
  have hnc := hV.nc
  have hntt := hV.nt
  have HV := Lib.hid hV
  clear hV
  obtain ⟨sat, sct, sac, scc⟩ := y
  have HKs := Lib.hid hs
  have hsl : 1 <= s.cells.length /\ s.cells.length <= 16 := by have := hI.lc; omega
  have hst : s.tenants.length <= 32 := by have := hI.lt; omega
  have HI := Lib.hid hI
  clear hs hI
  obtain ⟨kind, tick, tenant, cell, other, epoch, since, till, n⟩ := e
  try simp only at *
  obtain ⟨xn, rfl⟩ := Int.eq_ofNat_of_zero_le hx0
  have hxn : xn < s.cells.length := by omega
  obtain ⟨bx, ofx, x, rfl, hbx, hzx, hcx⟩ := HKs.out.cells.row (enc := csC) (sz := 4) (fun _ => rfl) o_ hxn
  have HX : Hid (zaQ s xn = x) := Lib.hid (by unfold zaQ; rw [Int.toNat_natCast, getD_some hzx])
  have HXI := Lib.hid (HI.out.cel _ (List.mem_of_getElem? hzx))
  have hbx1 : bx < w.heap.size := hbx
  have hpr := HI.out.proven
  have HR : Hid (zfg s ⟨kind, tick, tenant, xn, other, epoch, since, till, n⟩ = if x.wanted ≠ n ∨ x.running = x.wanted then 4 else if zc2 s.proven n = false /\ s.evac ≠ 0 then 12 else if s.tenants.any (fun t => decide (t.win.cell = (xn : Int)) && decide (tick < t.win.till)) = true then 9 else 0) := Lib.hid (by unfold zfg; rw [HX.out])
  cases hhb : zc2 s.proven n
  all_goals cases hee : (s.evac != 0)
  all_goals
    have hL : Below w.heap.size w ((w.alloc (.cells #[.int .i64 s.tick, .int .i64 s.count, .slice sat s.tenants.length sct, .slice (some ⟨bx, ofx, none⟩) s.cells.length scc, .int .i64 s.proven, .int .i64 s.evac, .int .i64 s.low, .int .i64 s.high] 37)).alloc (.cells #[.int .i64 kind, .int .i64 tick, .int .i64 tenant, .int .i64 xn, .int .i64 other, .int .i64 epoch, .int .i64 since, .int .i64 till, .int .i64 n] 43)) := (((Below.refl w.heap.size w).alloc (by simp <;> omega) (.cells #[.int .i64 s.tick, .int .i64 s.count, .slice sat s.tenants.length sct, .slice (some ⟨bx, ofx, none⟩) s.cells.length scc, .int .i64 s.proven, .int .i64 s.evac, .int .i64 s.low, .int .i64 s.high] 37)).alloc (by simp <;> omega) (.cells #[.int .i64 kind, .int .i64 tick, .int .i64 tenant, .int .i64 xn, .int .i64 other, .int .i64 epoch, .int .i64 since, .int .i64 till, .int .i64 n] 43))
    have hBs : Blk ((w.alloc (.cells #[.int .i64 s.tick, .int .i64 s.count, .slice sat s.tenants.length sct, .slice (some ⟨bx, ofx, none⟩) s.cells.length scc, .int .i64 s.proven, .int .i64 s.evac, .int .i64 s.low, .int .i64 s.high] 37)).alloc (.cells #[.int .i64 kind, .int .i64 tick, .int .i64 tenant, .int .i64 xn, .int .i64 other, .int .i64 epoch, .int .i64 since, .int .i64 till, .int .i64 n] 43)) (w.heap.size) 37 #[.int .i64 s.tick, .int .i64 s.count, .slice sat s.tenants.length sct, .slice (some ⟨bx, ofx, none⟩) s.cells.length scc, .int .i64 s.proven, .int .i64 s.evac, .int .i64 s.low, .int .i64 s.high] := by
      have := ((Blk.new w 37 #[.int .i64 s.tick, .int .i64 s.count, .slice sat s.tenants.length sct, .slice (some ⟨bx, ofx, none⟩) s.cells.length scc, .int .i64 s.proven, .int .i64 s.evac, .int .i64 s.low, .int .i64 s.high]).alloc (.cells #[.int .i64 kind, .int .i64 tick, .int .i64 tenant, .int .i64 xn, .int .i64 other, .int .i64 epoch, .int .i64 since, .int .i64 till, .int .i64 n] 43))
      simpa using this
    have hBe : Blk ((w.alloc (.cells #[.int .i64 s.tick, .int .i64 s.count, .slice sat s.tenants.length sct, .slice (some ⟨bx, ofx, none⟩) s.cells.length scc, .int .i64 s.proven, .int .i64 s.evac, .int .i64 s.low, .int .i64 s.high] 37)).alloc (.cells #[.int .i64 kind, .int .i64 tick, .int .i64 tenant, .int .i64 xn, .int .i64 other, .int .i64 epoch, .int .i64 since, .int .i64 till, .int .i64 n] 43)) (w.heap.size + 1) 43 #[.int .i64 kind, .int .i64 tick, .int .i64 tenant, .int .i64 xn, .int .i64 other, .int .i64 epoch, .int .i64 since, .int .i64 till, .int .i64 n] := by
      have := (Blk.new (w.alloc (.cells #[.int .i64 s.tick, .int .i64 s.count, .slice sat s.tenants.length sct, .slice (some ⟨bx, ofx, none⟩) s.cells.length scc, .int .i64 s.proven, .int .i64 s.evac, .int .i64 s.low, .int .i64 s.high] 37)) 43 #[.int .i64 kind, .int .i64 tick, .int .i64 tenant, .int .i64 xn, .int .i64 other, .int .i64 epoch, .int .i64 since, .int .i64 till, .int .i64 n])
      simpa using this
    unfold stC zbe
    simp only
    go_enter Tryz.func99, Tryz.ntmps99
    go_upto_region 1 with fail
    generalize (w.alloc _).alloc _ = W at *
    have hgs := hBs.lt
    have su0 := hBs.cell' (i := 0) (v := .int .i64 s.tick) rfl
    have su1 := hBs.cell' (i := 1) (v := .int .i64 s.count) rfl
    have su2 := hBs.cell' (i := 2) (v := .slice sat s.tenants.length sct) rfl
    have su3 := hBs.cell' (i := 3) (v := .slice (some ⟨bx, ofx, none⟩) s.cells.length scc) rfl
    have su4 := hBs.cell' (i := 4) (v := .int .i64 s.proven) rfl
    have su5 := hBs.cell' (i := 5) (v := .int .i64 s.evac) rfl
    have su6 := hBs.cell' (i := 6) (v := .int .i64 s.low) rfl
    have su7 := hBs.cell' (i := 7) (v := .int .i64 s.high) rfl
    clear hBs
    have hge := hBe.lt
    have v0 := hBe.cell' (i := 0) (v := .int .i64 kind) rfl
    have v1 := hBe.cell' (i := 1) (v := .int .i64 tick) rfl
    have v2 := hBe.cell' (i := 2) (v := .int .i64 tenant) rfl
    have v3 := hBe.cell' (i := 3) (v := .int .i64 xn) rfl
    have v4 := hBe.cell' (i := 4) (v := .int .i64 other) rfl
    have v5 := hBe.cell' (i := 5) (v := .int .i64 epoch) rfl
    have v6 := hBe.cell' (i := 6) (v := .int .i64 since) rfl
    have v7 := hBe.cell' (i := 7) (v := .int .i64 till) rfl
    have v8 := hBe.cell' (i := 8) (v := .int .i64 n) rfl
    clear hBe
    have HL := Lib.hid hL
    have HWs := Lib.hid (HKs.out.belowW hL)
    clear hL
    have x0 : W.cell? ⟨bx, ofx + xn * 4, none⟩ = some (.int .i64 x.mode) := (HL.out.cell (p := ⟨bx, ofx + xn * 4, none⟩) hbx1).trans (hcx 0 _ rfl)
    have x1 : W.cell? ⟨bx, ofx + xn * 4 + 1, none⟩ = some (.int .i64 x.running) := (HL.out.cell (p := ⟨bx, ofx + xn * 4 + 1, none⟩) hbx1).trans (hcx 1 _ rfl)
    have x2 : W.cell? ⟨bx, ofx + xn * 4 + 2, none⟩ = some (.int .i64 x.wanted) := (HL.out.cell (p := ⟨bx, ofx + xn * 4 + 2, none⟩) hbx1).trans (hcx 2 _ rfl)
    have x3 : W.cell? ⟨bx, ofx + xn * 4 + 3, none⟩ = some (.int .i64 x.since) := (HL.out.cell (p := ⟨bx, ofx + xn * 4 + 3, none⟩) hbx1).trans (hcx 3 _ rfl)
    have hbxW : bx < W.heap.size := Nat.lt_of_lt_of_le hbx1 HL.out.size
    clear hcx hzx hbx hbx1
    have hBb := Blk.new W 103 #[.int .i64 x.mode, .int .i64 x.running, .int .i64 x.wanted, .int .i64 x.since]
    have hL2 := (Below.refl W.heap.size W).alloc nl_ (.cells #[.int .i64 x.mode, .int .i64 x.running, .int .i64 x.wanted, .int .i64 x.since] 103)
    go_upto_region 2 with fail
    clear x0 x1 x2 x3 hbxW
    generalize W.alloc _ = W2 at *
    have p0 := hBb.cell' (i := 0) (v := .int .i64 x.mode) rfl
    have p1 := hBb.cell' (i := 1) (v := .int .i64 x.running) rfl
    have p2 := hBb.cell' (i := 2) (v := .int .i64 x.wanted) rfl
    have p3 := hBb.cell' (i := 3) (v := .int .i64 x.since) rfl
    have hgb := hBb.lt
    clear hBb
    replace su0 : W2.cell? ⟨w.heap.size, 0, none⟩ = some (.int .i64 s.tick) := (hL2.cell (p := ⟨w.heap.size, 0, none⟩) hgs).trans su0
    replace su1 : W2.cell? ⟨w.heap.size, 1, none⟩ = some (.int .i64 s.count) := (hL2.cell (p := ⟨w.heap.size, 1, none⟩) hgs).trans su1
    replace su2 : W2.cell? ⟨w.heap.size, 2, none⟩ = some (.slice sat s.tenants.length sct) := (hL2.cell (p := ⟨w.heap.size, 2, none⟩) hgs).trans su2
    replace su3 : W2.cell? ⟨w.heap.size, 3, none⟩ = some (.slice (some ⟨bx, ofx, none⟩) s.cells.length scc) := (hL2.cell (p := ⟨w.heap.size, 3, none⟩) hgs).trans su3
    replace su4 : W2.cell? ⟨w.heap.size, 4, none⟩ = some (.int .i64 s.proven) := (hL2.cell (p := ⟨w.heap.size, 4, none⟩) hgs).trans su4
    replace su5 : W2.cell? ⟨w.heap.size, 5, none⟩ = some (.int .i64 s.evac) := (hL2.cell (p := ⟨w.heap.size, 5, none⟩) hgs).trans su5
    replace su6 : W2.cell? ⟨w.heap.size, 6, none⟩ = some (.int .i64 s.low) := (hL2.cell (p := ⟨w.heap.size, 6, none⟩) hgs).trans su6
    replace su7 : W2.cell? ⟨w.heap.size, 7, none⟩ = some (.int .i64 s.high) := (hL2.cell (p := ⟨w.heap.size, 7, none⟩) hgs).trans su7
    replace hgs : w.heap.size < W2.heap.size := Nat.lt_of_lt_of_le hgs hL2.size
    replace v0 : W2.cell? ⟨w.heap.size + 1, 0, none⟩ = some (.int .i64 kind) := (hL2.cell (p := ⟨w.heap.size + 1, 0, none⟩) hge).trans v0
    replace v1 : W2.cell? ⟨w.heap.size + 1, 1, none⟩ = some (.int .i64 tick) := (hL2.cell (p := ⟨w.heap.size + 1, 1, none⟩) hge).trans v1
    replace v2 : W2.cell? ⟨w.heap.size + 1, 2, none⟩ = some (.int .i64 tenant) := (hL2.cell (p := ⟨w.heap.size + 1, 2, none⟩) hge).trans v2
    replace v3 : W2.cell? ⟨w.heap.size + 1, 3, none⟩ = some (.int .i64 xn) := (hL2.cell (p := ⟨w.heap.size + 1, 3, none⟩) hge).trans v3
    replace v4 : W2.cell? ⟨w.heap.size + 1, 4, none⟩ = some (.int .i64 other) := (hL2.cell (p := ⟨w.heap.size + 1, 4, none⟩) hge).trans v4
    replace v5 : W2.cell? ⟨w.heap.size + 1, 5, none⟩ = some (.int .i64 epoch) := (hL2.cell (p := ⟨w.heap.size + 1, 5, none⟩) hge).trans v5
    replace v6 : W2.cell? ⟨w.heap.size + 1, 6, none⟩ = some (.int .i64 since) := (hL2.cell (p := ⟨w.heap.size + 1, 6, none⟩) hge).trans v6
    replace v7 : W2.cell? ⟨w.heap.size + 1, 7, none⟩ = some (.int .i64 till) := (hL2.cell (p := ⟨w.heap.size + 1, 7, none⟩) hge).trans v7
    replace v8 : W2.cell? ⟨w.heap.size + 1, 8, none⟩ = some (.int .i64 n) := (hL2.cell (p := ⟨w.heap.size + 1, 8, none⟩) hge).trans v8
    replace hge : w.heap.size + 1 < W2.heap.size := Nat.lt_of_lt_of_le hge hL2.size
    replace HWs := Lib.hid (HWs.out.belowW hL2)
    replace HL := Lib.hid (HL.out.trans (hL2.mono HL.out.size))
    clear hL2
    generalize W.heap.size = gb at *
    have hx : ∀ (y : Later W2.heap.size W2) b o, b < W2.heap.size -> y.world.cell? ⟨b, o, none⟩ = W2.cell? ⟨b, o, none⟩ := fun y b o h => y.cell h
    refine zcx W2.heap.size ?_
    intro y0
    go_wp2_with (first
      | (go_at_call 42; (with_reducible refine (zbN _ _ _ o_ o_).mono ?_); rintro r wq ⟨rfl, rfl⟩; rw [hhb])
      )
    all_goals first
      | (go_ret
         refine ⟨zah ?_, (by first | exact HL.out | exact HL.out.trans ((Later.below _).mono HL.out.size))⟩
         rw [HR.out]
         go_light
         clear HR HL
         simp_all
         done)
      | (have hz : ∀ (y : Later W2.heap.size W2) b, b < W2.heap.size -> b < y.world.heap.size := fun y b h => Nat.lt_of_lt_of_le h y.below.size
         go_loopg [40] s.tenants.length (fun gk si wr => zjn W2 s.tenants (fun t => decide (t.win.cell = (xn : Int)) && decide (tick < t.win.till)) gk si wr)
         case atStart => exact ⟨0, y0, by omega, rfl, rfl, fun j x h => absurd h (Nat.not_lt_zero _)⟩
         case round =>
           rename_i J K aJ aK
           obtain ⟨k, y, hgk, rfl, rfl, hnone⟩ := hrel
           have HNo := Lib.hid hnone
           clear hnone
           by_cases hk : k < s.tenants.length
           · obtain ⟨b, off, z, rfl, hb, hzz, hcell⟩ := HWs.out.tenants.row (enc := tsC) (sz := 12) (fun _ => rfl) o_ hk
             have hbW : b < W2.heap.size := hb
             have e0 := hcell 0 (.bool z.placed) rfl
             have e1 := hcell 1 (.bool z.shed) rfl
             have e2 := hcell 2 (.int .i64 z.home) rfl
             have e3 := hcell 3 (.int .i64 z.standby) rfl
             have e4 := hcell 4 (.int .i64 z.next) rfl
             have e5 := hcell 5 (.int .i64 z.target) rfl
             have e6 := hcell 6 (.int .i64 z.epoch) rfl
             have e7 := hcell 7 (.int .i64 z.win.cell) rfl
             have e8 := hcell 8 (.int .i64 z.win.epoch) rfl
             have e9 := hcell 9 (.int .i64 z.win.version) rfl
             have e10 := hcell 10 (.int .i64 z.win.since) rfl
             have e11 := hcell 11 (.int .i64 z.win.till) rfl
             simp only [Nat.add_zero] at e0
             have hzi := HI.out.ten _ (List.mem_of_getElem? hzz)
             have hsi := hzi.wtill
             have HZ := Lib.hid hzz
             have HNX := Lib.hid (zfQ HNo.out hzz)
             clear hcell hzz hzi hb HNo
             have hlt : (k : Int) < (s.tenants.length : Int) := by omega
             go_wp2
             all_goals first
               | (go_roundg (gk - 1)
                  case measure => omega
                  case rel =>
                    refine ⟨k + 1, ⟨_, y.below.alloc y.below.size _⟩, by omega, by go_num, rfl, HNX.out ?_⟩
                    go_light; (first | (simp [*]; done) | (simp_all; done) | (simp_all; omega)))
               | (go_ret
                  refine ⟨zah ?_, HL.out.trans ((y.below.alloc y.below.size _).mono HL.out.size)⟩
                  have hyes : (fun t => decide (t.win.cell = (xn : Int)) && decide (tick < t.win.till)) z = true := (by go_light; (first | (simp [*]; done) | (simp_all; done) | (simp_all; omega)))
                  rw [HR.out, zha HZ.out hyes]
                  go_light; simp_all)
           · have hge : ¬ (k : Int) < (s.tenants.length : Int) := by omega
             have HA := Lib.hid (zhb (l := s.tenants) HNo.out o_)
             clear HNo
             go_wp2
             go_ret
             refine ⟨zah ?_, HL.out.trans (y.below.mono HL.out.size)⟩
             rw [HR.out, HA.out]
             go_light; simp_all)
theorem zfm (a b:Int) (w:World):Sem.run Tryz.prog (Instr.field 100 (.agg #[.int .i64 a,.int .i64 b]) 1) w=.ok (.int .i64 b) w:=by kernel_rfl
theorem zgD {c:Cfg} {k:Int} (h:0<=k/\k<c.versions.length):zc5 c k=zcj c k:=if_pos h
theorem zhp (x : CfgA) (c : Cfg) (y : StA) (s : St) (w : World) (hV : CfgV c) (hc : CfgOk w (· < w.heap.size) x c) (hI : StInv c s) (hs : StOk w (· < w.heap.size) y s)  :
    Calls Tryz.prog 102 #[.agg (zaH x c), .agg (stC y s)] w fun r w' => r = .returned (.int .i64 (zcE c s)) /\ Below w.heap.size w w' := by
  have hnc := hV.nc
  have hntt := hV.nt
  obtain ⟨az, cz, ac, cc, at_, ct, av, cv, ar, cr, ao, co⟩ := x
  have HV := Lib.hid hV
  have HKc := Lib.hid hc
  clear hV hc
  obtain ⟨sat, sct, sac, scc⟩ := y
  have HKs := Lib.hid hs
  have hsl : 1 <= s.cells.length /\ s.cells.length <= 16 := by have := hI.lc; omega
  have hst : s.tenants.length <= 32 := by have := hI.lt; omega
  have HI := Lib.hid hI
  clear hs hI
  have hlo := HI.out.low
  have HR : Hid (zcE c s = if s.low < s.high then 4 else if 30 <= s.high then 2 else if s.cells.any (zcG c s) = true then 13 else 0) := Lib.hid rfl
  by_cases q1 : s.low < s.high
  all_goals by_cases q2 : (30 : Int) <= s.high
  all_goals
    have hL : Below w.heap.size w ((w.alloc (.cells #[.int .i64 c.regions, .slice az c.zones.length cz, .slice ac c.cells.length cc, .slice at_ c.tenants.length ct, .slice av c.versions.length cv, .slice ar c.replicas.length cr, .slice ao c.observers.length co, .int .i64 c.blast, .int .i64 c.lease, .int .i64 c.bake] 30)).alloc (.cells #[.int .i64 s.tick, .int .i64 s.count, .slice sat s.tenants.length sct, .slice sac s.cells.length scc, .int .i64 s.proven, .int .i64 s.evac, .int .i64 s.low, .int .i64 s.high] 37)) := (((Below.refl w.heap.size w).alloc (by simp <;> omega) (.cells #[.int .i64 c.regions, .slice az c.zones.length cz, .slice ac c.cells.length cc, .slice at_ c.tenants.length ct, .slice av c.versions.length cv, .slice ar c.replicas.length cr, .slice ao c.observers.length co, .int .i64 c.blast, .int .i64 c.lease, .int .i64 c.bake] 30)).alloc (by simp <;> omega) (.cells #[.int .i64 s.tick, .int .i64 s.count, .slice sat s.tenants.length sct, .slice sac s.cells.length scc, .int .i64 s.proven, .int .i64 s.evac, .int .i64 s.low, .int .i64 s.high] 37))
    have hBc : Blk ((w.alloc (.cells #[.int .i64 c.regions, .slice az c.zones.length cz, .slice ac c.cells.length cc, .slice at_ c.tenants.length ct, .slice av c.versions.length cv, .slice ar c.replicas.length cr, .slice ao c.observers.length co, .int .i64 c.blast, .int .i64 c.lease, .int .i64 c.bake] 30)).alloc (.cells #[.int .i64 s.tick, .int .i64 s.count, .slice sat s.tenants.length sct, .slice sac s.cells.length scc, .int .i64 s.proven, .int .i64 s.evac, .int .i64 s.low, .int .i64 s.high] 37)) (w.heap.size) 30 #[.int .i64 c.regions, .slice az c.zones.length cz, .slice ac c.cells.length cc, .slice at_ c.tenants.length ct, .slice av c.versions.length cv, .slice ar c.replicas.length cr, .slice ao c.observers.length co, .int .i64 c.blast, .int .i64 c.lease, .int .i64 c.bake] := by
      have := ((Blk.new w 30 #[.int .i64 c.regions, .slice az c.zones.length cz, .slice ac c.cells.length cc, .slice at_ c.tenants.length ct, .slice av c.versions.length cv, .slice ar c.replicas.length cr, .slice ao c.observers.length co, .int .i64 c.blast, .int .i64 c.lease, .int .i64 c.bake]).alloc (.cells #[.int .i64 s.tick, .int .i64 s.count, .slice sat s.tenants.length sct, .slice sac s.cells.length scc, .int .i64 s.proven, .int .i64 s.evac, .int .i64 s.low, .int .i64 s.high] 37))
      simpa using this
    have hBs : Blk ((w.alloc (.cells #[.int .i64 c.regions, .slice az c.zones.length cz, .slice ac c.cells.length cc, .slice at_ c.tenants.length ct, .slice av c.versions.length cv, .slice ar c.replicas.length cr, .slice ao c.observers.length co, .int .i64 c.blast, .int .i64 c.lease, .int .i64 c.bake] 30)).alloc (.cells #[.int .i64 s.tick, .int .i64 s.count, .slice sat s.tenants.length sct, .slice sac s.cells.length scc, .int .i64 s.proven, .int .i64 s.evac, .int .i64 s.low, .int .i64 s.high] 37)) (w.heap.size + 1) 37 #[.int .i64 s.tick, .int .i64 s.count, .slice sat s.tenants.length sct, .slice sac s.cells.length scc, .int .i64 s.proven, .int .i64 s.evac, .int .i64 s.low, .int .i64 s.high] := by
      have := (Blk.new (w.alloc (.cells #[.int .i64 c.regions, .slice az c.zones.length cz, .slice ac c.cells.length cc, .slice at_ c.tenants.length ct, .slice av c.versions.length cv, .slice ar c.replicas.length cr, .slice ao c.observers.length co, .int .i64 c.blast, .int .i64 c.lease, .int .i64 c.bake] 30)) 37 #[.int .i64 s.tick, .int .i64 s.count, .slice sat s.tenants.length sct, .slice sac s.cells.length scc, .int .i64 s.proven, .int .i64 s.evac, .int .i64 s.low, .int .i64 s.high])
      simpa using this
    unfold zaH stC
    simp only
    go_enter Tryz.func102, Tryz.ntmps102
    go_upto_region 1 with fail
    generalize (w.alloc _).alloc _ = W at *
    have hgc := hBc.lt
    have d0 := hBc.cell' (i := 0) (v := .int .i64 c.regions) rfl
    have d1 := hBc.cell' (i := 1) (v := .slice az c.zones.length cz) rfl
    have d2 := hBc.cell' (i := 2) (v := .slice ac c.cells.length cc) rfl
    have d3 := hBc.cell' (i := 3) (v := .slice at_ c.tenants.length ct) rfl
    have d4 := hBc.cell' (i := 4) (v := .slice av c.versions.length cv) rfl
    have d5 := hBc.cell' (i := 5) (v := .slice ar c.replicas.length cr) rfl
    have d6 := hBc.cell' (i := 6) (v := .slice ao c.observers.length co) rfl
    have d7 := hBc.cell' (i := 7) (v := .int .i64 c.blast) rfl
    have d8 := hBc.cell' (i := 8) (v := .int .i64 c.lease) rfl
    have d9 := hBc.cell' (i := 9) (v := .int .i64 c.bake) rfl
    clear hBc
    have hgs := hBs.lt
    have su0 := hBs.cell' (i := 0) (v := .int .i64 s.tick) rfl
    have su1 := hBs.cell' (i := 1) (v := .int .i64 s.count) rfl
    have su2 := hBs.cell' (i := 2) (v := .slice sat s.tenants.length sct) rfl
    have su3 := hBs.cell' (i := 3) (v := .slice sac s.cells.length scc) rfl
    have su4 := hBs.cell' (i := 4) (v := .int .i64 s.proven) rfl
    have su5 := hBs.cell' (i := 5) (v := .int .i64 s.evac) rfl
    have su6 := hBs.cell' (i := 6) (v := .int .i64 s.low) rfl
    have su7 := hBs.cell' (i := 7) (v := .int .i64 s.high) rfl
    clear hBs
    have HL := Lib.hid hL
    have HWc := Lib.hid (HKc.out.belowW hL)
    have HWs := Lib.hid (HKs.out.belowW hL)
    clear hL
    go_wp2
  · go_ret
    exact ⟨zah (by rw [HR.out, if_pos o_]), HL.out⟩
  · go_ret
    exact ⟨zah (by rw [HR.out, if_pos o_]), HL.out⟩
  · go_ret
    exact ⟨zah (by rw [HR.out, if_neg o_, if_pos o_]), HL.out⟩
  · have HR2 : Hid (zcE c s = if s.cells.any (zcG c s) = true then 13 else 0) := Lib.hid (by rw [HR.out, if_neg o_, if_neg o_])
    clear HR q1 q2
    go_loopg [20] s.cells.length (fun gk si wr => zjn W s.cells (zcG c s) gk si wr)
    case atStart => exact ⟨0, ⟨W, Below.refl _ _⟩, by omega, rfl, rfl, fun j x h => absurd h (Nat.not_lt_zero _)⟩
    case round =>
      rename_i J K aJ aK
      obtain ⟨k, y, hgk, rfl, rfl, hnone⟩ := hrel
      have HNo := Lib.hid hnone
      clear hnone
      have hx : ∀ (y : Later W.heap.size W) b o, b < W.heap.size -> y.world.cell? ⟨b, o, none⟩ = W.cell? ⟨b, o, none⟩ := fun y b o h => y.cell h
      by_cases hk : k < s.cells.length
      · obtain ⟨b, off, z, rfl, hb, hzz, hcell⟩ := HWs.out.cells.row (enc := csC) (sz := 4) (fun _ => rfl) o_ hk
        have hbW : b < W.heap.size := hb
        have e0 := hcell 0 (.int .i64 z.mode) rfl
        have e1 := hcell 1 (.int .i64 z.running) rfl
        have e2 := hcell 2 (.int .i64 z.wanted) rfl
        have e3 := hcell 3 (.int .i64 z.since) rfl
        simp only [Nat.add_zero] at e0
        have hzi := HI.out.cel _ (List.mem_of_getElem? hzz)
        have HB : Hid (zcG c s z = (decide ((zc5 c z.running).2 <= s.high) || decide ((zc5 c z.wanted).2 <= s.high))) := Lib.hid (by unfold zcG; rw [zgD hzi.running, zgD hzi.wanted])
        have HZ := Lib.hid hzz
        have HNX := Lib.hid (zfQ HNo.out hzz)
        clear hcell hzz hzi hb HNo
        have hlt : (k : Int) < (s.cells.length : Int) := by omega
        have hBb := Blk.new y.world 103 #[.int .i64 z.mode, .int .i64 z.running, .int .i64 z.wanted, .int .i64 z.since]
        have hL3 := y.below.alloc y.below.size (.cells #[.int .i64 z.mode, .int .i64 z.running, .int .i64 z.wanted, .int .i64 z.since] 103)
        go_upto_region 8 with fail
        generalize y.world.alloc _ = W3 at *
        generalize y.world.heap.size = gb at *
        have p1 := hBb.cell' (i := 1) (v := .int .i64 z.running) rfl
        have p2 := hBb.cell' (i := 2) (v := .int .i64 z.wanted) rfl
        have hgb := hBb.lt
        have HWc3 := Lib.hid (HWc.out.belowW hL3)
        replace d0 : W3.cell? ⟨w.heap.size, 0, none⟩ = some (.int .i64 c.regions) := (hL3.cell (p := ⟨w.heap.size, 0, none⟩) hgc).trans d0
        replace d1 : W3.cell? ⟨w.heap.size, 1, none⟩ = some (.slice az c.zones.length cz) := (hL3.cell (p := ⟨w.heap.size, 1, none⟩) hgc).trans d1
        replace d2 : W3.cell? ⟨w.heap.size, 2, none⟩ = some (.slice ac c.cells.length cc) := (hL3.cell (p := ⟨w.heap.size, 2, none⟩) hgc).trans d2
        replace d3 : W3.cell? ⟨w.heap.size, 3, none⟩ = some (.slice at_ c.tenants.length ct) := (hL3.cell (p := ⟨w.heap.size, 3, none⟩) hgc).trans d3
        replace d4 : W3.cell? ⟨w.heap.size, 4, none⟩ = some (.slice av c.versions.length cv) := (hL3.cell (p := ⟨w.heap.size, 4, none⟩) hgc).trans d4
        replace d5 : W3.cell? ⟨w.heap.size, 5, none⟩ = some (.slice ar c.replicas.length cr) := (hL3.cell (p := ⟨w.heap.size, 5, none⟩) hgc).trans d5
        replace d6 : W3.cell? ⟨w.heap.size, 6, none⟩ = some (.slice ao c.observers.length co) := (hL3.cell (p := ⟨w.heap.size, 6, none⟩) hgc).trans d6
        replace d7 : W3.cell? ⟨w.heap.size, 7, none⟩ = some (.int .i64 c.blast) := (hL3.cell (p := ⟨w.heap.size, 7, none⟩) hgc).trans d7
        replace d8 : W3.cell? ⟨w.heap.size, 8, none⟩ = some (.int .i64 c.lease) := (hL3.cell (p := ⟨w.heap.size, 8, none⟩) hgc).trans d8
        replace d9 : W3.cell? ⟨w.heap.size, 9, none⟩ = some (.int .i64 c.bake) := (hL3.cell (p := ⟨w.heap.size, 9, none⟩) hgc).trans d9
        replace su7 : W3.cell? ⟨w.heap.size + 1, 7, none⟩ = some (.int .i64 s.high) := (hL3.cell (p := ⟨w.heap.size + 1, 7, none⟩) hgs).trans su7
        replace hgc : w.heap.size < W3.heap.size := Nat.lt_of_lt_of_le hgc hL3.size
        replace hgs : w.heap.size + 1 < W3.heap.size := Nat.lt_of_lt_of_le hgs hL3.size
        have HL3 := Lib.hid hL3
        clear hBb hL3 e0 e1 e2 e3 hbW su0 su1 su2 su3 su4 su5 su6 hx
        have hx : ∀ (y : Later W3.heap.size W3) b o, b < W3.heap.size -> y.world.cell? ⟨b, o, none⟩ = W3.cell? ⟨b, o, none⟩ := fun y b o h => y.cell h
        have H_ver : Hid (∀ (k : Int) (yy : Later W3.heap.size W3), Calls Tryz.prog 159 #[.agg #[.int .i64 c.regions, .slice az c.zones.length cz, .slice ac c.cells.length cc, .slice at_ c.tenants.length ct, .slice av c.versions.length cv, .slice ar c.replicas.length cr, .slice ao c.observers.length co, .int .i64 c.blast, .int .i64 c.lease, .int .i64 c.bake], .int .i64 k] yy.world fun e w' => e = .returned (.agg #[.int .i64 (zc5 c k).1, .int .i64 (zc5 c k).2]) /\ Below yy.world.heap.size yy.world w') := Lib.hid (fun k yy => zds ⟨az, cz, ac, cc, at_, ct, av, cv, ar, cr, ao, co⟩ c k _ HV.out (HWc3.out.laterW yy))
        cases r1 : decide ((zc5 c z.running).2 <= s.high)
        · refine zay W3.heap.size k_ k_ ?_
          repeat (first | go_big_quiet_step ((go_at_call 159; exact zaE _ (H_ver.out _ _))) | quiet_step ((go_at_call 159; exact zaE _ (H_ver.out _ _))) | (refine BigFrame.wpQuiet_want (by rfl) fun K hK => ⟨.int .i64 (zc5 c z.running).2, fun w _ => (by unfold Oper.quietAt; go_simp; rw [zfm]; exact ⟨rfl, rfl⟩), hK _ ?_⟩; simp only [List.getElem_toArray, List.getElem_cons_zero, List.getElem_cons_succ, Act.put, List.setIfInBounds_toArray, List.set_cons_zero, List.set_cons_succ]) | (refine BigFrame.wpQuiet_want (by rfl) fun K hK => ⟨.int .i64 (zc5 c z.wanted).2, fun w _ => (by unfold Oper.quietAt; go_simp; rw [zfm]; exact ⟨rfl, rfl⟩), hK _ ?_⟩; simp only [List.getElem_toArray, List.getElem_cons_zero, List.getElem_cons_succ, Act.put, List.setIfInBounds_toArray, List.set_cons_zero, List.set_cons_succ]))
          refine wpQuiet_nil ?_
          rintro w' ⟨y3, rfl⟩
          clear hx
          go_wp2
          all_goals first
            | (go_roundg (gk - 1)
               case measure => omega
               case rel =>
                 refine ⟨k + 1, ⟨_, HL3.out.trans (y3.below.mono HL3.out.size)⟩, by omega, by go_num, rfl, HNX.out ?_⟩
                 rw [HB.out, r1]
                 go_light
                 simp_all)
            | (go_ret
               refine ⟨zah ?_, HL.out.trans ((HL3.out.trans (y3.below.mono HL3.out.size)).mono HL.out.size)⟩
               rw [HR2.out, zha HZ.out (show zcG c s z = true by rw [HB.out, r1]; go_light; simp_all)]
               rfl)
        · refine zay W3.heap.size k_ k_ ?_
          repeat (first | go_big_quiet_step ((go_at_call 159; exact zaE _ (H_ver.out _ _))) | quiet_step ((go_at_call 159; exact zaE _ (H_ver.out _ _))) | (refine BigFrame.wpQuiet_want (by rfl) fun K hK => ⟨.int .i64 (zc5 c z.running).2, fun w _ => (by unfold Oper.quietAt; go_simp; rw [zfm]; exact ⟨rfl, rfl⟩), hK _ ?_⟩; simp only [List.getElem_toArray, List.getElem_cons_zero, List.getElem_cons_succ, Act.put, List.setIfInBounds_toArray, List.set_cons_zero, List.set_cons_succ]) | (refine BigFrame.wpQuiet_want (by rfl) fun K hK => ⟨.int .i64 (zc5 c z.wanted).2, fun w _ => (by unfold Oper.quietAt; go_simp; rw [zfm]; exact ⟨rfl, rfl⟩), hK _ ?_⟩; simp only [List.getElem_toArray, List.getElem_cons_zero, List.getElem_cons_succ, Act.put, List.setIfInBounds_toArray, List.set_cons_zero, List.set_cons_succ]))
          refine wpQuiet_nil ?_
          rintro w' ⟨y3, rfl⟩
          clear hx
          go_wp2
          go_ret
          refine ⟨zah ?_, HL.out.trans ((HL3.out.trans (y3.below.mono HL3.out.size)).mono HL.out.size)⟩
          rw [HR2.out, zha HZ.out (show zcG c s z = true by rw [HB.out, r1]; rfl)]
          rfl
      · have hge : ¬ (k : Int) < (s.cells.length : Int) := by omega
        have HA := Lib.hid (zhb (l := s.cells) HNo.out o_)
        clear HNo
        go_wp2
        go_ret
        refine ⟨zah ?_, HL.out.trans (y.below.mono HL.out.size)⟩
        rw [HR2.out, HA.out]
        rfl
theorem open_yes {a b:Bool} (h:true=(!a||!b)):a=false∨(a=true/\b=false):=by cases a<;>cases b<;>simp_all
theorem open_no {a b:Bool} (h:false=(!a||!b)):a=true/\b=true:=by cases a<;>cases b<;>simp_all
def openP (s:St) (k:Nat):Bool:=zc7 s.proven (s.cells.getD k default)
theorem zeo (s:St):zaa s=zaF (openP s) s.cells.length:=rfl
theorem ze2 (c:Cfg) (y:StA) (s:St) (w:World) (hV:CfgV c) (hI:StInv c s) (hs:StOk w (·<w.heap.size) y s) :
  Calls Tryz.prog 11 #[.agg (stC y s)] w (zeP w (zaa s)):=by
 rw[zeo];obtain⟨ii,hii,hi0,hi1,hi2⟩:=info_parts zdw;have hnc:=hV.nc;have hntt:=hV.nt;clear hV;obtain⟨sat,sct,sac,scc⟩:=y;have HKs:=Lib.hid hs;have hsl:1<=s.cells.length/\s.cells.length<=16:=by have:=hI.lc;omega
 have hst:s.tenants.length<=32:=by have:=hI.lt;omega
 have HI:=Lib.hid hI;clear hs hI;have hpr:=HI.out.proven;obtain⟨pd,hpd⟩:∃ pd:Nat->Bool,pd=openP s:=⟨_,rfl⟩;have HP:=Lib.hid hpd;rw[← hpd];clear hpd;have hL:Below w.heap.size w (w.alloc (.cells #[.int .i64 s.tick,.int .i64 s.count,.slice sat s.tenants.length sct,.slice sac s.cells.length scc,.int .i64 s.proven,.int .i64 s.evac,.int .i64 s.low,.int .i64 s.high] 37)):=((Below.refl w.heap.size w).alloc (by simp<;>omega) (.cells #[.int .i64 s.tick,.int .i64 s.count,.slice sat s.tenants.length sct,.slice sac s.cells.length scc,.int .i64 s.proven,.int .i64 s.evac,.int .i64 s.low,.int .i64 s.high] 37));have hBs:Blk (w.alloc (.cells #[.int .i64 s.tick,.int .i64 s.count,.slice sat s.tenants.length sct,.slice sac s.cells.length scc,.int .i64 s.proven,.int .i64 s.evac,.int .i64 s.low,.int .i64 s.high] 37)) (w.heap.size) 37 #[.int .i64 s.tick,.int .i64 s.count,.slice sat s.tenants.length sct,.slice sac s.cells.length scc,.int .i64 s.proven,.int .i64 s.evac,.int .i64 s.low,.int .i64 s.high]:=by
  have:=(Blk.new w 37 #[.int .i64 s.tick,.int .i64 s.count,.slice sat s.tenants.length sct,.slice sac s.cells.length scc,.int .i64 s.proven,.int .i64 s.evac,.int .i64 s.low,.int .i64 s.high]);simpa using this
 unfold stC;simp only;go_enter Tryz.func11,Tryz.ntmps11;go_upto_region 1 with fail
 generalize w.alloc _=W at *;have hgs:=hBs.lt;have su0:=hBs.cell' (i:=0) (v:=.int .i64 s.tick) rfl;have su1:=hBs.cell' (i:=1) (v:=.int .i64 s.count) rfl;have su2:=hBs.cell' (i:=2) (v:=.slice sat s.tenants.length sct) rfl;have su3:=hBs.cell' (i:=3) (v:=.slice sac s.cells.length scc) rfl;have su4:=hBs.cell' (i:=4) (v:=.int .i64 s.proven) rfl;have su5:=hBs.cell' (i:=5) (v:=.int .i64 s.evac) rfl;have su6:=hBs.cell' (i:=6) (v:=.int .i64 s.low) rfl;have su7:=hBs.cell' (i:=7) (v:=.int .i64 s.high) rfl;clear hBs;have HL:=Lib.hid hL;have HWs:=Lib.hid (HKs.out.belowW hL);clear hL;go_wp2;go_loopg [3,9] s.cells.length (fun gk so si wr=>zeW W pd s.cells.length gk so si wr);case atStart=>exact⟨0,none,0,o_,rfl,rfl,World.ownsRow_nil _ _ _ _,Below.refl _ _⟩
 case round=>
  rename_i J K aJ aK
  obtain⟨k,A,cp,hgk,rfl,rfl,hown,hbel⟩:=hrel;have HO:=Lib.hid hown;have HB:=Lib.hid hbel;have hsz:=hbel.size;have hlen:=zcC pd k;obtain⟨hc,hf⟩:=zf2 hbel;clear hown hbel hf;by_cases hk:k<s.cells.length
  ·have hlt:(k:Int)<(s.cells.length:Int):=by omega
   obtain⟨b,off,z,rfl,hb,hzz,hcell⟩:=HWs.out.cells.row (enc:=csC) (sz:=4) (fun _=>rfl) o_ hk;have hbW:b<W.heap.size:=hb;have e0:=hcell 0 (.int .i64 z.mode) rfl;have e1:=hcell 1 (.int .i64 z.running) rfl;have e2:=hcell 2 (.int .i64 z.wanted) rfl;have e3:=hcell 3 (.int .i64 z.since) rfl;simp only[Nat.add_zero] at e0;have HPK:Hid (pd k=(!zc2 s.proven z.running||!zc2 s.proven z.wanted)):=Lib.hid (by rw[HP.out];unfold openP zc7;rw[getD_some hzz]);have HS:=Lib.hid (zdP pd k);have hBb:=Blk.new wr 103 #[.int .i64 z.mode,.int .i64 z.running,.int .i64 z.wanted,.int .i64 z.since];have hB1:=HB.out.alloc hsz (.cells #[.int .i64 z.mode,.int .i64 z.running,.int .i64 z.wanted,.int .i64 z.since] 103);have hO1:=HO.out.alloc (.cells #[.int .i64 z.mode,.int .i64 z.running,.int .i64 z.wanted,.int .i64 z.since] 103);clear hcell hzz hb;go_upto_region 5 with fail
   generalize wr.alloc _=wz at *;generalize wr.heap.size=gb at *;have p1:=hBb.cell' (i:=1) (v:=.int .i64 z.running) rfl;have p2:=hBb.cell' (i:=2) (v:=.int .i64 z.wanted) rfl;replace su4:wz.cell? ⟨w.heap.size,4,none⟩=some (.int .i64 s.proven):=(hB1.cell (p:=⟨w.heap.size,4,none⟩) hgs).trans su4;have HB1:=Lib.hid hB1;have HO1:=Lib.hid hO1;clear hBb hB1 hO1 e0 e1 e2 e3 hbW hc HB HO;by_cases hp:pd k=true
   ·have h12:zc2 s.proven z.running=false∨(zc2 s.proven z.running=true/\zc2 s.proven z.wanted=false):=by
     have:=HPK.out;rw[hp] at this;exact open_yes this
    rcases h12 with h1 | ⟨h1,h2⟩
    all_goals
     go_wp2_with (first
      | (go_at_call 42;(with_reducible refine (zbN _ _ _ o_ o_).mono ?_);rintro r wq ⟨rfl,rfl⟩;first | rw[h1] | rw[h2])
      | (at_builtin;refine wpList_append_lies _ rfl _ _ _ rfl W.heap.size 3 ii _ 1 8 Tryz.underlying22 hii hi0 hi1 hi2 rfl o_ _ (zaF pd k).length (zaJ zaw (zaF pd k)) rfl (HO1.out.alloc _) ⟨wz.heap.size,0,none⟩ 1 1 [.int .i64 k] rfl rfl ?c1 ?c2 ?c0 ?c3 ?c4 ?c5 (wz.heap.size+1) ?c6 ?_))
     case c1=>exact World.news_of_block (cs:=#[.int .i64 k]) (heap_alloc_new _ _)
     case c2=>simp[Value.oneCell']
     case c0=>omega
     case c3=>unfold maxLen;omega
     case c4=>omega
     case c5=>have:=HB1.out.size;simp;omega
     case c6=>simp
     intro gg cq w9 hown9 hg9 hat9 hlt9;have HB9:=Lib.hid ((HB1.out.alloc HB1.out.size _).grown hg9 (by have:=HB1.out.size;simp;omega) (fun j hj=>(HO1.out.lt j hj).1));have HX:Hid (w9.ownsRow W.heap.size 3 1 (.slice (some ⟨gg,0,none⟩) (zaF pd (k+1)).length cq) (zaF pd (k+1)).length (zaJ zaw (zaF pd (k+1)))):=by
      refine Lib.hid ?_;rw[HS.out,if_pos hp,← zdT,List.length_append];exact hown9
     have hl9:(zaF pd (k+1)).length=(zaF pd k).length+1:=by rw[HS.out,if_pos hp,List.length_append];rfl
     have HL9:=Lib.hid hl9;clear hown9 hg9 hat9 hlt9 HO1 HB1 hl9;go_wp2;go_roundg (gk-1);case measure=>omega
     case rel=>exact⟨k+1,some ⟨gg,0,none⟩,cq,o_,by go_num,by rw[HL9.out],HX.out,HB9.out⟩
   ·have hp:pd k=false:=by simpa using hp
    have h12:zc2 s.proven z.running=true/\zc2 s.proven z.wanted=true:=by
     have:=HPK.out;rw[hp] at this;exact open_no this
    obtain⟨h1,h2⟩:=h12;have HX:Hid (wz.ownsRow W.heap.size 3 1 (.slice A (zaF pd (k+1)).length cp) (zaF pd (k+1)).length (zaJ zaw (zaF pd (k+1)))):=by
     refine Lib.hid ?_;rw[HS.out,if_neg (by simp[hp])];exact HO1.out
    have hl9:(zaF pd (k+1)).length=(zaF pd k).length:=by rw[HS.out,if_neg (by simp[hp])]
    have HL9:=Lib.hid hl9;clear hl9;go_wp2_with (go_at_call 42;(with_reducible refine (zbN _ _ _ o_ o_).mono ?_);rintro r wq ⟨rfl,rfl⟩;first | rw[h1] | rw[h2]);go_roundg (gk-1);case measure=>omega
    case rel=>exact⟨k+1,A,cp,o_,by go_num,by rw[HL9.out],HX.out,HB1.out⟩
  ·have hge:¬ (k:Int)<(s.cells.length:Int):=by omega
   obtain rfl:k=s.cells.length:=by omega
   go_wp2;go_ret;exact⟨A,cp,rfl,zeB HO.out (Nat.le_of_lt hgs),HL.out.trans (HB.out.mono (Nat.le_of_lt hgs))⟩
end Go.Proofs.YtjnndjnpcelafaaGreat
