import Derived.Test.YtjnndjnpcelafaaGreatPt07
namespace Go.Proofs.YtjnndjnpcelafaaGreat
set_option maxHeartbeats 16000000
set_option maxRecDepth 100000
open Go.RowKit
set_option linter.unusedSimpArgs false
set_option linter.unusedVariables false
def zii (k:Int):List UInt8:=
 if k=1 then [116,99,111] else if k=2 then [116,99,101,119,118] else if k=3 then [116,101] else if k=4 then [116,67] else if k=5 then [116,99] else if k=6 then [116,99] else if k=7 then [116]
 else if k=8 then [116,98] else if k=9 then [99,109] else if k=10 then [99,118] else if k=11 then [99,118] else if k=12 then [118] else if k=13 then [114,98] else if k=16 then [110] else []
def zcP (k:Int) (c:UInt8):Bool:=(zii k).contains c
theorem zkw (k:Int) (w:World) (h1:1<=k) (h2:k<=16) :
  Calls Tryz.prog 308 #[.int .i64 k] w fun e w'=>e=.returned (.string ⟨(zii k).toArray⟩)/\Below w.heap.size w w':=by
 have hk:k=1∨k=2∨k=3∨k=4∨k=5∨k=6∨k=7∨k=8∨k=9∨k=10∨k=11∨k=12∨k=13∨k=14∨k=15∨k=16:=by omega
 clear h1 h2;rcases hk with rfl | rfl | rfl | rfl | rfl | rfl | rfl | rfl | rfl | rfl | rfl | rfl | rfl | rfl | rfl | rfl
 all_goals
  go_enter Tryz.func308,Tryz.ntmps308;go_wp2;go_ret;exact⟨rfl,(Below.refl _ _).alloc nl_ _⟩
theorem ite_len {p:Prop} [Decidable p] {a b:List UInt8} (ha:a.length<=5) (hb:b.length<=5):(if p then a else b).length<=5:=by split<;>assumption
theorem zlJ (k:Int):(zii k).length<=5:=by unfold zii;repeat' (first | refine ite_len ?_ ?_ | decide)
theorem zhz (k:Int) (c:UInt8) (w:World) (h1:1<=k) (h2:k<=16) :
  Calls Tryz.prog 267 #[.int .i64 k,.int .u8 (c.toNat)] w fun e w'=>e=.returned (.bool (zcP k c))/\Below w.heap.size w w':=by
 have hlen:=zlJ k;go_enter Tryz.func267,Tryz.ntmps267;go_wp2_with fail;refine (zkw k w h1 h2).mono ?_;rintro e w1 ⟨rfl,hb⟩;have HB:=Lib.hid hb;have HK:Hid (zcP k c=(zii k).contains c):=Lib.hid rfl;clear hb;generalize zii k=l at *;go_wp2;go_loop [6] (fun i=>∃ n:Nat,n<=l.length/\i=.int .i64 n/\(l.take n).contains c=false) (fun i=>l.length-(intOf i).toNat);case atStart=>exact⟨0,Nat.zero_le _,rfl,rfl⟩
 case round=>
  obtain⟨n,hn,rfl,hno⟩:=hrel;have HN:=Lib.hid hno;clear hno;by_cases hlt:n<l.length
  ·go_wp2
   ·have h:=‹(_==_)=true›;have hz:l[n]=c:=by
     have h':=eq_of_beq h;apply UInt8.toNat_inj.1
     exact Int.ofNat.inj h'
    go_ret;refine⟨zak ?_,HB.out⟩;rw[HK.out];exact (List.contains_iff_mem.2 (hz ▸ List.getElem_mem hlt)).symm
   ·have h:=‹(_==_)=false›;have hz:l[n]≠c:=by
     intro h';have:l[n].toNat=c.toNat:=by rw[h']
     exact (beq_eq_false_iff_ne.1 h) (congrArg Int.ofNat this)
    go_round;case rel=>
     refine⟨n+1,o_,by go_num,?_⟩;have:=HN.out;rw[List.take_succ_eq_append_getElem hlt,Bool.eq_false_iff];intro hc;rw[List.contains_iff_mem,List.mem_append] at hc;rcases hc with hc | hc
     ·rw[List.contains_iff_mem.2 hc] at this;cases this
     ·exact hz (List.mem_singleton.1 hc).symm
    case measure=>simp[intOf];omega
  ·go_wp2;go_ret;refine⟨zak ?_,HB.out⟩;have:=HN.out;rw[List.take_of_length_le o_] at this;rw[HK.out,this]
theorem zcq (n lo hi:Int) (w:World) :
  Calls Tryz.prog 209 #[.int .i64 n,.int .i64 lo,.int .i64 hi] w fun e w'=>e=.returned (.bool (inR n lo hi))/\w=w':=by
 go_enter Tryz.func209,Tryz.ntmps209;go_wp2;all_goals
  go_ret;refine⟨zak ?_,rfl⟩;go_light;simp[inR, *]<;>omega
def zeg (t c C o r:Bool) (e:Ent) (nt nc nr:Int):Bool:=
 if (t != decide (e.tenant≠-1))||(t&&!inR e.tenant 0 (nt-1)) then false
 else if (c&&!inR e.cell 0 (nc-1))||(C&&!inR e.cell (-1) (nc-1))||(!c&&!C&&decide (e.cell≠-1)) then false
 else if (o&&(!inR e.other (-1) (nc-1)||decide (e.other=e.cell)))||(r&&!inR e.other 0 (nr-1))||(!o&&!r&&decide (e.other≠-1)) then false
 else true
def zdQ (e_ w_ v b m n:Bool) (e:Ent) (nv:Int):Bool:=
 if (e_&&!inR e.epoch 1 1048576)||(!e_&&decide (e.epoch≠0)) then false
 else if (w_&&(!inR e.since 0 1073741824||!inR e.till 0 1073741824))||(!w_&&(decide (e.since≠0)||decide (e.till≠0))) then false
 else if v then inR e.n 0 (nv-1) else if b then inR e.n 0 1 else if m then inR e.n 1 3 else if n then inR e.n 0 1073741824 else decide (e.n=0)
theorem zgO (e:Ent) (nv:Int) (w:World) (h1:1<=e.kind) (h2:e.kind<=16) (hv:0<=nv) (hv2:nv<=100) :
  Calls Tryz.prog 211 #[.agg (zbe e).toArray,.int .i64 nv] w fun x w'=>x=.returned (.bool (zdQ (zcP e.kind 101) (zcP e.kind 119) (zcP e.kind 118) (zcP e.kind 98) (zcP e.kind 109) (zcP e.kind 110) e nv))/\Below w.heap.size w w':=by
 obtain⟨kind,tick,tenant,cell,other,epoch,since,till,n⟩:=e;unfold zbe;simp only at *;have HC:Hid (∀ (c:UInt8) (n:Int),(c.toNat:Int)=n->∀ W,Calls Tryz.prog 267 #[.int .i64 kind,.int .u8 n] W fun e w'=>e=.returned (.bool (zcP kind c))/\Below W.heap.size W w'):=Lib.hid (fun c n hn W=>hn ▸ zhz kind c W h1 h2);have hbx:=Blk.new w 43 #[.int .i64 kind,.int .i64 tick,.int .i64 tenant,.int .i64 cell,.int .i64 other,.int .i64 epoch,.int .i64 since,.int .i64 till,.int .i64 n];have hbel:=(Below.refl w.heap.size w).alloc nl_ (.cells #[.int .i64 kind,.int .i64 tick,.int .i64 tenant,.int .i64 cell,.int .i64 other,.int .i64 epoch,.int .i64 since,.int .i64 till,.int .i64 n] 43);have c0:=hbx.cell' (i:=0) (v:=.int .i64 kind) rfl;have c1:=hbx.cell' (i:=1) (v:=.int .i64 tick) rfl;have c2:=hbx.cell' (i:=2) (v:=.int .i64 tenant) rfl;have c3:=hbx.cell' (i:=3) (v:=.int .i64 cell) rfl;have c4:=hbx.cell' (i:=4) (v:=.int .i64 other) rfl;have c5:=hbx.cell' (i:=5) (v:=.int .i64 epoch) rfl;have c6:=hbx.cell' (i:=6) (v:=.int .i64 since) rfl;have c7:=hbx.cell' (i:=7) (v:=.int .i64 till) rfl;have c8:=hbx.cell' (i:=8) (v:=.int .i64 n) rfl;go_enter Tryz.func211,Tryz.ntmps211;go_wp2_with fail;generalize w.alloc _=W at *
 go_wp2_with (first
  | (go_at_call 267;(with_reducible refine (HC.out 101 101 rfl _).mono ?_);rintro x wq ⟨rfl,hbq⟩;replace hbel:=hbel.trans (hbq.mono hbel.size);replace hbx:=hbx.below hbq hbx.lt;clear hbq;replace c0:=hbx.cell' (i:=0) (v:=.int .i64 kind) rfl;replace c1:=hbx.cell' (i:=1) (v:=.int .i64 tick) rfl;replace c2:=hbx.cell' (i:=2) (v:=.int .i64 tenant) rfl;replace c3:=hbx.cell' (i:=3) (v:=.int .i64 cell) rfl;replace c4:=hbx.cell' (i:=4) (v:=.int .i64 other) rfl;replace c5:=hbx.cell' (i:=5) (v:=.int .i64 epoch) rfl;replace c6:=hbx.cell' (i:=6) (v:=.int .i64 since) rfl;replace c7:=hbx.cell' (i:=7) (v:=.int .i64 till) rfl;replace c8:=hbx.cell' (i:=8) (v:=.int .i64 n) rfl)
  | (go_at_call 267;(with_reducible refine (HC.out 119 119 rfl _).mono ?_);rintro x wq ⟨rfl,hbq⟩;replace hbel:=hbel.trans (hbq.mono hbel.size);replace hbx:=hbx.below hbq hbx.lt;clear hbq;replace c0:=hbx.cell' (i:=0) (v:=.int .i64 kind) rfl;replace c1:=hbx.cell' (i:=1) (v:=.int .i64 tick) rfl;replace c2:=hbx.cell' (i:=2) (v:=.int .i64 tenant) rfl;replace c3:=hbx.cell' (i:=3) (v:=.int .i64 cell) rfl;replace c4:=hbx.cell' (i:=4) (v:=.int .i64 other) rfl;replace c5:=hbx.cell' (i:=5) (v:=.int .i64 epoch) rfl;replace c6:=hbx.cell' (i:=6) (v:=.int .i64 since) rfl;replace c7:=hbx.cell' (i:=7) (v:=.int .i64 till) rfl;replace c8:=hbx.cell' (i:=8) (v:=.int .i64 n) rfl)
  | (go_at_call 267;(with_reducible refine (HC.out 118 118 rfl _).mono ?_);rintro x wq ⟨rfl,hbq⟩;replace hbel:=hbel.trans (hbq.mono hbel.size);replace hbx:=hbx.below hbq hbx.lt;clear hbq;replace c0:=hbx.cell' (i:=0) (v:=.int .i64 kind) rfl;replace c1:=hbx.cell' (i:=1) (v:=.int .i64 tick) rfl;replace c2:=hbx.cell' (i:=2) (v:=.int .i64 tenant) rfl;replace c3:=hbx.cell' (i:=3) (v:=.int .i64 cell) rfl;replace c4:=hbx.cell' (i:=4) (v:=.int .i64 other) rfl;replace c5:=hbx.cell' (i:=5) (v:=.int .i64 epoch) rfl;replace c6:=hbx.cell' (i:=6) (v:=.int .i64 since) rfl;replace c7:=hbx.cell' (i:=7) (v:=.int .i64 till) rfl;replace c8:=hbx.cell' (i:=8) (v:=.int .i64 n) rfl)
  | (go_at_call 267;(with_reducible refine (HC.out 98 98 rfl _).mono ?_);rintro x wq ⟨rfl,hbq⟩;replace hbel:=hbel.trans (hbq.mono hbel.size);replace hbx:=hbx.below hbq hbx.lt;clear hbq;replace c0:=hbx.cell' (i:=0) (v:=.int .i64 kind) rfl;replace c1:=hbx.cell' (i:=1) (v:=.int .i64 tick) rfl;replace c2:=hbx.cell' (i:=2) (v:=.int .i64 tenant) rfl;replace c3:=hbx.cell' (i:=3) (v:=.int .i64 cell) rfl;replace c4:=hbx.cell' (i:=4) (v:=.int .i64 other) rfl;replace c5:=hbx.cell' (i:=5) (v:=.int .i64 epoch) rfl;replace c6:=hbx.cell' (i:=6) (v:=.int .i64 since) rfl;replace c7:=hbx.cell' (i:=7) (v:=.int .i64 till) rfl;replace c8:=hbx.cell' (i:=8) (v:=.int .i64 n) rfl)
  | (go_at_call 267;(with_reducible refine (HC.out 109 109 rfl _).mono ?_);rintro x wq ⟨rfl,hbq⟩;replace hbel:=hbel.trans (hbq.mono hbel.size);replace hbx:=hbx.below hbq hbx.lt;clear hbq;replace c0:=hbx.cell' (i:=0) (v:=.int .i64 kind) rfl;replace c1:=hbx.cell' (i:=1) (v:=.int .i64 tick) rfl;replace c2:=hbx.cell' (i:=2) (v:=.int .i64 tenant) rfl;replace c3:=hbx.cell' (i:=3) (v:=.int .i64 cell) rfl;replace c4:=hbx.cell' (i:=4) (v:=.int .i64 other) rfl;replace c5:=hbx.cell' (i:=5) (v:=.int .i64 epoch) rfl;replace c6:=hbx.cell' (i:=6) (v:=.int .i64 since) rfl;replace c7:=hbx.cell' (i:=7) (v:=.int .i64 till) rfl;replace c8:=hbx.cell' (i:=8) (v:=.int .i64 n) rfl)
  | (go_at_call 267;(with_reducible refine (HC.out 110 110 rfl _).mono ?_);rintro x wq ⟨rfl,hbq⟩;replace hbel:=hbel.trans (hbq.mono hbel.size);replace hbx:=hbx.below hbq hbx.lt;clear hbq;replace c0:=hbx.cell' (i:=0) (v:=.int .i64 kind) rfl;replace c1:=hbx.cell' (i:=1) (v:=.int .i64 tick) rfl;replace c2:=hbx.cell' (i:=2) (v:=.int .i64 tenant) rfl;replace c3:=hbx.cell' (i:=3) (v:=.int .i64 cell) rfl;replace c4:=hbx.cell' (i:=4) (v:=.int .i64 other) rfl;replace c5:=hbx.cell' (i:=5) (v:=.int .i64 epoch) rfl;replace c6:=hbx.cell' (i:=6) (v:=.int .i64 since) rfl;replace c7:=hbx.cell' (i:=7) (v:=.int .i64 till) rfl;replace c8:=hbx.cell' (i:=8) (v:=.int .i64 n) rfl)
  | (go_at_call 209;(with_reducible refine (zcq _ _ _ _).mono ?_);rintro x wq ⟨rfl,rfl⟩)
  )
 all_goals
  go_ret;refine⟨zak ?_,hbel⟩;go_light;clear hbx hbel c0 c1 c2 c3 c4 c5 c6 c7 c8 HC;simp_all [zdQ]<;>(rw[Bool.eq_iff_iff];simp)
end Go.Proofs.YtjnndjnpcelafaaGreat
