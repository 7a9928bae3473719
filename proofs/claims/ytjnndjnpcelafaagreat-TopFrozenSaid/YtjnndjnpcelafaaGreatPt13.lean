import Derived.Test.YtjnndjnpcelafaaGreatPt11
import Derived.Test.YtjnndjnpcelafaaGreatPt12
import Derived.Laws.Bits64
namespace Go.Proofs.YtjnndjnpcelafaaGreat
set_option maxHeartbeats 16000000
set_option maxRecDepth 100000
open Go.RowKit
set_option linter.unusedSimpArgs false
set_option linter.unusedVariables false
theorem ziY (a b:Nat) (ha:a<4611686018427387904) (hb:b<4611686018427387904):bits .and .i64 (a:Int) (b:Int)=((a &&& b:Nat):Int):=by
 have hx:a &&& b<2 ^ 62:=Nat.and_lt_two_pow _ o_;have h1:(BitVec.ofInt 64 (a:Int)).toNat=a:=by
  rw[BitVec.ofInt_natCast,BitVec.toNat_ofNat];exact Nat.mod_eq_of_lt o_
 have h2:(BitVec.ofInt 64 (b:Int)).toNat=b:=by
  rw[BitVec.ofInt_natCast,BitVec.toNat_ofNat];exact Nat.mod_eq_of_lt o_
 show IntKind.i64.wrap ((BitVec.ofInt 64 (a:Int) &&& BitVec.ofInt 64 (b:Int)).toNat:Int)=_;rw[BitVec.toNat_and,h1,h2,IntKind.wrap_i64];omega
theorem zkS (a b:Nat) (ha:a<4611686018427387904) (hb:b<4611686018427387904):bits .or .i64 (a:Int) (b:Int)=((a ||| b:Nat):Int):=by
 have hx:a ||| b<2 ^ 62:=Nat.or_lt_two_pow o_ o_
 have h1:(BitVec.ofInt 64 (a:Int)).toNat=a:=by
  rw[BitVec.ofInt_natCast,BitVec.toNat_ofNat];exact Nat.mod_eq_of_lt o_
 have h2:(BitVec.ofInt 64 (b:Int)).toNat=b:=by
  rw[BitVec.ofInt_natCast,BitVec.toNat_ofNat];exact Nat.mod_eq_of_lt o_
 show IntKind.i64.wrap ((BitVec.ofInt 64 (a:Int) ||| BitVec.ofInt 64 (b:Int)).toNat:Int)=_;rw[BitVec.toNat_or,h1,h2,IntKind.wrap_i64];omega
theorem zjT (z:Int) (h0:0<=z) (h1:z<4611686018427387904):bits .and .i64 z 1=z % 2:=by
 obtain⟨n,rfl⟩:=Int.eq_ofNat_of_zero_le h0;have:=ziY n 1 o_ o_;rw[Nat.and_one_is_mod] at this;simpa using this
theorem zhT (a n:Int) (h0:0<=a) (h1:a<1073741824) (hn:0<=n) (hn2:n<30):bits .or .i64 a (2 ^ n.toNat)=zeX a n:=by
 obtain⟨k,rfl⟩:=Int.eq_ofNat_of_zero_le h0;have hp:2 ^ n.toNat<2 ^ 30:=Nat.pow_lt_pow_right o_ o_;have:=zkS k (2 ^ n.toNat) o_ o_;unfold zeX;rw[Nat.one_shiftLeft,Int.toNat_natCast];rw[← this];simp
theorem evac_or:∀ (a:Fin 16) (b:Fin 4),Nat.testBit a b=false->(a.val ||| (1 <<< b.val))=(a.val ^^^ (1 <<< b.val)):=by decide
theorem zj7:∀ (a:Fin 16) (b:Fin 4),Nat.testBit a b=true->bits .andNot .i64 (a.val:Int) (2 ^ b.val)=((a.val ^^^ (1 <<< b.val):Nat):Int):=by decide +kernel
theorem zk6 (set i:Int) (h0:0<=set):((set / 2 ^ i.toNat) % 2==1)=bitB set i:=by
 obtain⟨n,rfl⟩:=Int.eq_ofNat_of_zero_le h0;unfold bitB;rw[Nat.testBit_eq_decide_div_mod_eq];have e:((n:Int) / 2 ^ i.toNat)=((n / 2 ^ i.toNat:Nat):Int):=by
  rw[Int.natCast_ediv];simp
 rw[e,Int.toNat_natCast];have:(n / 2 ^ i.toNat) % 2=0∨(n / 2 ^ i.toNat) % 2=1:=by omega
 rw[Bool.eq_iff_iff];simp;omega
theorem div_bd {z:Int} (i:Int) (h0:0<=z) (h1:z<4611686018427387904):0<=z / 2 ^ i.toNat/\z / 2 ^ i.toNat<4611686018427387904:=by
 obtain⟨n,rfl⟩:=Int.eq_ofNat_of_zero_le h0;have e:((n:Int) / 2 ^ i.toNat)=((n / 2 ^ i.toNat:Nat):Int):=by
  rw[Int.natCast_ediv];simp
 rw[e];have:n / 2 ^ i.toNat<=n:=Nat.div_le_self _ _;generalize n / 2 ^ i.toNat=q at *;omega
theorem zar (n lo hi:Int) (w:World) :
  Calls Tryz.prog 272 #[.int .i64 n,.int .i64 lo,.int .i64 hi] w fun e w'=>e=.returned (.bool (inR n lo hi))/\w=w':=by
 go_enter Tryz.func272,Tryz.ntmps272;go_wp2;all_goals
  go_ret;refine⟨zak ?_,rfl⟩;go_light;simp[inR, *]<;>omega
theorem zck (n lo hi:Int) (w:World) :
  Calls Tryz.prog 216 #[.int .i64 n,.int .i64 lo,.int .i64 hi] w fun e w'=>e=.returned (.bool (inR n lo hi))/\w=w':=by
 go_enter Tryz.func216,Tryz.ntmps216;go_wp2;all_goals
  go_ret;refine⟨zak ?_,rfl⟩;go_light;simp[inR, *]<;>omega
theorem zmO {k:Int} {n:Nat} (h:¬ (0<=k/\k<(n:Int))):inR k 0 ((n:Int)-1)=false:=by
 rw[Bool.eq_false_iff];simp[inR];omega
theorem ziX {k:Int} {n:Nat} (h:0<=k/\k<(n:Int)):inR k 0 ((n:Int)-1)=true:=by
 simp[inR];omega
theorem zg8 (x:CfgA) (c:Cfg) (k:Int) (w:World) (hV:CfgV c) (hok:CfgOk w (·<w.heap.size) x c) :
  Calls Tryz.prog 271 #[.agg (zaH x c),.int .i64 k] w fun e w'=>e=.returned (.int .i64 (zcb c k))/\Below w.heap.size w w':=by
 obtain⟨az,cz,ac,cc,at_,ct,av,cv,ar,cr,ao,co⟩:=x;have hnc:=hV.nc;have HK:=Lib.hid hok;clear hok hV;unfold zaH;simp only;by_cases hk:0<=k/\k<c.cells.length
 ·have HI:=ziX hk;obtain⟨hk0,hk1⟩:=hk;obtain⟨n,rfl⟩:=Int.eq_ofNat_of_zero_le hk0;have hn:n<c.cells.length:=by omega
  obtain⟨b,off,z,rfl,hb,hz,hcell⟩:=HK.out.cells.row (enc:=zaI) (sz:=2) (fun _=>rfl) o_ hn;have e0:=hcell 0 (.int .i64 z.1) rfl;simp only[Nat.add_zero] at e0;have hzo:zcb c n=z.1:=by unfold zcb;rw[if_pos ⟨hk0,hk1⟩,Int.toNat_natCast,getD_some hz]
  have HZ:=Lib.hid hzo;have hb1:b<w.heap.size:=hb;clear hcell hz hzo;go_enter Tryz.func271,Tryz.ntmps271;go_wp2_with (go_at_call 272;(with_reducible refine (zar _ _ _ _).mono ?_);rintro x wq ⟨rfl,rfl⟩;rw[HI]);go_ret;exact⟨zah HZ.out.symm,(Below.refl _ _).alloc nl_ _⟩
 ·have HI:=zmO hk;have hzo:zcb c k=-1:=by unfold zcb;rw[if_neg hk]
  have HZ:=Lib.hid hzo;clear hk hzo;go_enter Tryz.func271,Tryz.ntmps271;go_wp2_with (go_at_call 272;(with_reducible refine (zar _ _ _ _).mono ?_);rintro x wq ⟨rfl,rfl⟩;rw[HI]);go_ret;exact⟨zah HZ.out.symm,(Below.refl _ _).alloc nl_ _⟩
theorem zfB (x:CfgA) (c:Cfg) (k:Int) (w:World) (hV:CfgV c) (hok:CfgOk w (·<w.heap.size) x c) :
  Calls Tryz.prog 270 #[.agg (zaH x c),.int .i64 k] w fun e w'=>e=.returned (.int .i64 (zcz c k))/\Below w.heap.size w w':=by
 obtain⟨az,cz,ac,cc,at_,ct,av,cv,ar,cr,ao,co⟩:=x;have hnc:=hV.nz;have HK:=Lib.hid hok;clear hok hV;unfold zaH;simp only;by_cases hk:0<=k/\k<c.zones.length
 ·have HI:=ziX hk;obtain⟨hk0,hk1⟩:=hk;obtain⟨n,rfl⟩:=Int.eq_ofNat_of_zero_le hk0;have hn:n<c.zones.length:=by omega
  obtain⟨b,off,z,rfl,hb,hz,hcell⟩:=HK.out.zones.row (enc:=zaw) (sz:=1) (fun _=>rfl) o_ hn;have e0:=hcell 0 (.int .i64 z) rfl;simp only[Nat.add_zero,Nat.mul_one] at e0;have hzo:zcz c n=z:=by unfold zcz;rw[if_pos ⟨hk0,hk1⟩,Int.toNat_natCast,getD_some hz]
  have HZ:=Lib.hid hzo;have hb1:b<w.heap.size:=hb;clear hcell hz hzo;go_enter Tryz.func270,Tryz.ntmps270;go_wp2_with (go_at_call 272;(with_reducible refine (zar _ _ _ _).mono ?_);rintro x wq ⟨rfl,rfl⟩;rw[HI]);go_ret;exact⟨zah HZ.out.symm,(Below.refl _ _).alloc nl_ _⟩
 ·have HI:=zmO hk;have hzo:zcz c k=-1:=by unfold zcz;rw[if_neg hk]
  have HZ:=Lib.hid hzo;clear hk hzo;go_enter Tryz.func270,Tryz.ntmps270;go_wp2_with (go_at_call 272;(with_reducible refine (zar _ _ _ _).mono ?_);rintro x wq ⟨rfl,rfl⟩;rw[HI]);go_ret;exact⟨zah HZ.out.symm,(Below.refl _ _).alloc nl_ _⟩
theorem zbT (x:CfgA) (c:Cfg) (k:Int) (w:World) (hV:CfgV c) (hok:CfgOk w (·<w.heap.size) x c) :
  Calls Tryz.prog 215 #[.agg (zaH x c),.int .i64 k] w fun e w'=>e=.returned (.int .i64 (zax c k))/\Below w.heap.size w w':=by
 obtain⟨az,cz,ac,cc,at_,ct,av,cv,ar,cr,ao,co⟩:=x;have HV:=Lib.hid hV;have HK:=Lib.hid hok;have HL:=Lib.hid ((Below.refl w.heap.size w).alloc nl_ (.cells (zaH ⟨az,cz,ac,cc,at_,ct,av,cv,ar,cr,ao,co⟩ c) 30));have HW:=Lib.hid (HK.out.allocW (.cells (zaH ⟨az,cz,ac,cc,at_,ct,av,cv,ar,cr,ao,co⟩ c) 30));have hBx:=Blk.new w 30 (zaH ⟨az,cz,ac,cc,at_,ct,av,cv,ar,cr,ao,co⟩ c);have hg:=hBx.lt;have d0:=hBx.cell' (i:=0) (v:=.int .i64 c.regions) rfl;have d1:=hBx.cell' (i:=1) (v:=.slice az c.zones.length cz) rfl;have d2:=hBx.cell' (i:=2) (v:=.slice ac c.cells.length cc) rfl;have d3:=hBx.cell' (i:=3) (v:=.slice at_ c.tenants.length ct) rfl;have d4:=hBx.cell' (i:=4) (v:=.slice av c.versions.length cv) rfl;have d5:=hBx.cell' (i:=5) (v:=.slice ar c.replicas.length cr) rfl;have d6:=hBx.cell' (i:=6) (v:=.slice ao c.observers.length co) rfl;have d7:=hBx.cell' (i:=7) (v:=.int .i64 c.blast) rfl;have d8:=hBx.cell' (i:=8) (v:=.int .i64 c.lease) rfl;have d9:=hBx.cell' (i:=9) (v:=.int .i64 c.bake) rfl;clear hBx;unfold zaH at HL HW d0 d1 d2 d3 d4 d5 d6 d7 d8 d9 hg;simp only at HL HW d0 d1 d2 d3 d4 d5 d6 d7 d8 d9 hg;clear hok hV HK;unfold zaH;simp only;go_enter Tryz.func215,Tryz.ntmps215;go_wp2_with fail;generalize w.alloc _=W at *;have hx:∀ (y:Later W.heap.size W) b o,b<W.heap.size->y.world.cell? ⟨b,o,none⟩=W.cell? ⟨b,o,none⟩:=fun y b o h=>y.cell h
 refine zay W.heap.size k_ k_ ?_;repeat (quiet_step ((first | (go_at_call 271;exact zaE _ (zg8 ⟨az,cz,ac,cc,at_,ct,av,cv,ar,cr,ao,co⟩ c _ _ HV.out (HW.out.laterW _))) | (go_at_call 270;exact zaE _ (zfB ⟨az,cz,ac,cc,at_,ct,av,cv,ar,cr,ao,co⟩ c _ _ HV.out (HW.out.laterW _))))))
 refine wpQuiet_nil ?_;rintro w' ⟨y,rfl⟩;have HY:=Lib.hid (HL.out.trans (y.below.mono (Nat.le_of_lt hg)));clear hx d0 d1 d2 d3 d4 d5 d6 d7 d8 d9 hg;go_wp2;go_ret;exact⟨zah rfl,HY.out⟩
theorem zdr (x:CfgA) (c:Cfg) (a b:Int) (w:World) (hV:CfgV c) (hok:CfgOk w (·<w.heap.size) x c) :
  Calls Tryz.prog 158 #[.agg (zaH x c),.int .i64 a,.int .i64 b] w fun e w'=>e=.returned (.bool (zco c a b))/\Below w.heap.size w w':=by
 obtain⟨az,cz,ac,cc,at_,ct,av,cv,ar,cr,ao,co⟩:=x;have HV:=Lib.hid hV;have HK:=Lib.hid hok;have HL:=Lib.hid ((Below.refl w.heap.size w).alloc nl_ (.cells (zaH ⟨az,cz,ac,cc,at_,ct,av,cv,ar,cr,ao,co⟩ c) 30));have HW:=Lib.hid (HK.out.allocW (.cells (zaH ⟨az,cz,ac,cc,at_,ct,av,cv,ar,cr,ao,co⟩ c) 30));have hBx:=Blk.new w 30 (zaH ⟨az,cz,ac,cc,at_,ct,av,cv,ar,cr,ao,co⟩ c);have hg:=hBx.lt;have d0:=hBx.cell' (i:=0) (v:=.int .i64 c.regions) rfl;have d1:=hBx.cell' (i:=1) (v:=.slice az c.zones.length cz) rfl;have d2:=hBx.cell' (i:=2) (v:=.slice ac c.cells.length cc) rfl;have d3:=hBx.cell' (i:=3) (v:=.slice at_ c.tenants.length ct) rfl;have d4:=hBx.cell' (i:=4) (v:=.slice av c.versions.length cv) rfl;have d5:=hBx.cell' (i:=5) (v:=.slice ar c.replicas.length cr) rfl;have d6:=hBx.cell' (i:=6) (v:=.slice ao c.observers.length co) rfl;have d7:=hBx.cell' (i:=7) (v:=.int .i64 c.blast) rfl;have d8:=hBx.cell' (i:=8) (v:=.int .i64 c.lease) rfl;have d9:=hBx.cell' (i:=9) (v:=.int .i64 c.bake) rfl;clear hBx;unfold zaH at HL HW d0 d1 d2 d3 d4 d5 d6 d7 d8 d9 hg;simp only at HL HW d0 d1 d2 d3 d4 d5 d6 d7 d8 d9 hg;clear hok hV HK;unfold zaH;simp only;go_enter Tryz.func158,Tryz.ntmps158;go_wp2_with fail;generalize w.alloc _=W at *;have hx:∀ (y:Later W.heap.size W) b o,b<W.heap.size->y.world.cell? ⟨b,o,none⟩=W.cell? ⟨b,o,none⟩:=fun y b o h=>y.cell h
 refine zay W.heap.size k_ k_ ?_;repeat (quiet_step ((go_at_call 215;exact zaE _ (zbT ⟨az,cz,ac,cc,at_,ct,av,cv,ar,cr,ao,co⟩ c _ _ HV.out (HW.out.laterW _)))))
 refine wpQuiet_nil ?_;rintro w' ⟨y,rfl⟩;have HY:=Lib.hid (HL.out.trans (y.below.mono (Nat.le_of_lt hg)));have HA:Hid (zco c a b=(decide (0<=zax c a)&&decide (0<=zax c b)&&decide (zax c a≠zax c b))):=Lib.hid rfl;generalize zax c a=ra at *;generalize zax c b=rb at *;clear hx d0 d1 d2 d3 d4 d5 d6 d7 d8 d9 hg;go_wp2;all_goals
  go_ret;refine⟨zak ?_,HY.out⟩;rw[HA.out,Bool.eq_iff_iff];go_light;simp;try omega
theorem zgH (x:CfgA) (c:Cfg) (t k:Int) (w:World) (hV:CfgV c) (hok:CfgOk w (·<w.heap.size) x c) :
  Calls Tryz.prog 156 #[.agg (zaH x c),.int .i64 t,.int .i64 k] w fun e w'=>e=.returned (.bool (ze4 c t k))/\Below w.heap.size w w':=by
 obtain⟨az,cz,ac,cc,at_,ct,av,cv,ar,cr,ao,co⟩:=x;have HV:=Lib.hid hV;have HK:=Lib.hid hok;have hnt:=hV.nt;have hrb:=ziC hV k;have hreg:=hV.reg;clear hok hV;by_cases ht:0<=t/\t<c.tenants.length
 ·have HI:=ziX ht;obtain⟨ht0,ht1⟩:=ht;obtain⟨n,rfl⟩:=Int.eq_ofNat_of_zero_le ht0;have hn:n<c.tenants.length:=by omega
  obtain⟨b,off,z,rfl,hb,hz,hcell⟩:=HK.out.tenants.row (enc:=zd8) (sz:=7) (fun _=>rfl) o_ hn;have e4:=hcell 4 (.int .i64 z.allowed) rfl;have hzb:=zet HV.out hz;have hm:ze4 c n k=zc2 z.allowed (zax c k):=by
   unfold ze4 tenAt;rw[Int.toNat_natCast,getD_some hz];simp[hn]
  have HM:=Lib.hid hm;have HBT:=Lib.hid (zk6 z.allowed (zax c k) o_);have hb1:b<w.heap.size:=hb;clear hcell hz hm;unfold zaH;simp only;go_enter Tryz.func156,Tryz.ntmps156;go_wp2_with fail;refine (zbT ⟨az,cz,ac,cc,some ⟨b,off,none⟩,ct,av,cv,ar,cr,ao,co⟩ c k _ HV.out (HK.out.allocW _)).mono ?_;rintro e w1 ⟨rfl,hb1'⟩;have HB:Hid (Below w.heap.size w w1):=((Below.refl _ _).alloc nl_ _).trans (hb1'.mono (by simp));obtain⟨hc1,hf1⟩:=zf2 hb1';have e1:w1.cell? ⟨b,off+n * 7+4,none⟩=some (.int .i64 z.allowed):=by rw[hc1 b _ (by simp;omega),World.cell?_alloc_lt w _ _ (show b<w.heap.size from hb)];exact e4
  have d1:w1.cell? ⟨w.heap.size,3,none⟩=some (.slice (some ⟨b,off,none⟩) c.tenants.length ct):=by rw[hc1 _ _ (by simp)];go_simp
  clear hc1 hf1 hb1' e4;generalize zax c k=r at *;have hr:r=-1∨r=0∨r=1∨r=2∨r=3:=by omega
  clear hrb hreg;rcases hr with rfl | rfl | rfl | rfl | rfl
  all_goals
   go_wp2_with (go_at_call 216;(with_reducible refine (zck _ _ _ _).mono ?_);rintro x wq ⟨rfl,rfl⟩;rw[HI]);go_ret;refine⟨zak ?_,HB.out⟩;rw[HM.out];have:=HBT.out;try rw[zjT _ o_ o_]
   simp[zc2] at this ⊢;try exact this
 ·have hm:ze4 c t k=false:=by unfold ze4;simp;intro h1 h2;omega
  have HM:=Lib.hid hm;have HI:=zmO ht;clear hm ht;unfold zaH;simp only;go_enter Tryz.func156,Tryz.ntmps156;go_wp2_with fail;refine (zbT ⟨az,cz,ac,cc,at_,ct,av,cv,ar,cr,ao,co⟩ c k _ HV.out (HK.out.allocW _)).mono ?_;rintro e w1 ⟨rfl,hb1'⟩;have HB:Hid (Below w.heap.size w w1):=((Below.refl _ _).alloc nl_ _).trans (hb1'.mono (by simp));obtain⟨hc1,hf1⟩:=zf2 hb1';have d1:w1.cell? ⟨w.heap.size,3,none⟩=some (.slice at_ c.tenants.length ct):=by rw[hc1 _ _ (by simp)];go_simp
  clear hc1 hf1 hb1';go_wp2_with (go_at_call 216;(with_reducible refine (zck _ _ _ _).mono ?_);rintro x wq ⟨rfl,rfl⟩;rw[HI]);go_ret;exact⟨zak HM.out.symm,HB.out⟩
section
variable {P:Program} {Q:Exit->Act->World->Prop}
def anyB (ops:Array Oper) (acts:List Nat) (pre:Nat->List Nat):Nat->Array Bool->Bool
 | 0,ls=>(Region.ready .any ops ls).isEmpty&&acts.all fun i=>ls.getD i false
 | n+1,ls=>((Region.ready .any ops ls).all fun i=>acts.contains i&&!(ls.getD i true)&&(pre i).all (fun j=>ls.getD j false)&&anyB ops acts pre n (ls.setIfInBounds i true))&&(!(Region.ready .any ops ls).isEmpty||acts.all fun i=>ls.getD i false)
def upd (d:Nat->Bool) (i:Nat):Nat->Bool:=fun j=>if j=i then true else d j
def zhd (P:Program) (ops:Array Oper) (Q:Exit->Act->World->Prop) (S:World->Prop) (J:(Nat->Bool)->Act->World->Prop) (pre:Nat->List Nat) (i:Nat):Prop:=
 ∀ d a w,d i=false->(∀ j ∈ pre i,d j=true)->S w->J d a w->wpOp P ops Q i (fun a' w'=>S w'/\J (upd d i) a' w') a w
theorem zfv {ops:Array Oper} {S:World->Prop} {acts:List Nat} {pre:Nat->List Nat} {J:(Nat->Bool)->Act->World->Prop} (hstep:∀ i ∈ acts,zhd P ops Q S J pre i)
  (hend:∀ d a w,(∀ i ∈ acts,d i=true)->S w->J d a w->Q .normal a w):∀ (n:Nat) (ls:Array Bool) (a:Act) (w:World),anyB ops acts pre n ls=true->S w->J (fun j=>ls.getD j false) a w->wpAnyH P .any ops Q S n ls a w
 | 0,ls,a,w,hB,hS,hJ=>by
  simp only[anyB,Bool.and_eq_true,List.isEmpty_iff,List.all_eq_true] at hB
  exact wpAnyH_done hB.1 (hend _ a w hB.2 hS hJ) _
 | n+1,ls,a,w,hB,hS,hJ=>by
  simp only[anyB,Bool.and_eq_true,List.all_eq_true,Bool.or_eq_true] at hB
  obtain⟨h1,h2⟩:=hB
  by_cases he:Region.ready .any ops ls=[]
  ·refine wpAnyH_done he (hend _ a w ?_ hS hJ) _
   rcases h2 with h2 | h2
   ·simp[he] at h2
   ·exact fun i hi=>h2 i hi
  ·refine wpAnyH_all rfl he fun i hi=>?_
   have h3:=h1 i hi
   simp only[List.contains_iff_mem,Bool.not_eq_true',List.all_eq_true] at h3
   obtain⟨⟨⟨h4,h5⟩,h8⟩,h6⟩:=h3
   have hlt:i<ls.size:=by
    refine Classical.byContradiction fun hn=>?_
    rw[Array.getD_eq_getD_getElem?,Array.getElem?_eq_none o_] at h5;cases h5
   have h7:ls.getD i false=false:=by
    rw[Array.getD_eq_getD_getElem?,Array.getElem?_eq_getElem hlt] at h5 ⊢;exact h5
   have hd:(fun j=>(ls.setIfInBounds i true).getD j false)=upd (fun j=>ls.getD j false) i:=by
    funext j
    unfold upd;rw[Array.getD_eq_getD_getElem?,Array.getElem?_setIfInBounds];by_cases hj:i=j
    ·subst hj;simp[hlt]
    ·have:¬ j=i:=fun h=>hj h.symm
     simp[hj,this,Array.getD_eq_getD_getElem?]
   exact wpOp_mono (fun a' w' ⟨hS',h'⟩=>⟨hS',zfv hstep hend n _ a' w' h6 hS' (by rw[hd];exact h')⟩) (hstep i h4 _ a w h7 h8 hS hJ)
def zge (P:Program) (ops:Array Oper) (Q:Exit->Act->World->Prop) (S:World->Prop) (acts:List Nat) (pre:Nat->List Nat):List Nat->Act->World->Prop
 | [],a,w=>∃ J:(Nat->Bool)->Act->World->Prop,(∀ d,(∀ i ∈ acts,d i=false)->J d a w)/\(∀ i ∈ acts,zhd P ops Q S J pre i)/\(∀ d a w,(∀ i ∈ acts,d i=true)->S w->J d a w->Q .normal a w)
 | i::r,a,w=>∃ (o:Oper) (v:Value),ops[i]?=some o/\(∀ c a w,Q (.panic c) (a.put o.dst v) w->Q (.panic c) a w)/\YieldsIf P ops S o v a/\zge P ops Q S acts pre r (a.put o.dst v) w
def zm2 (ops:Array Oper) (acts:List Nat) (pre:Nat->List Nat) (n:Nat):List Nat->Array Bool->Bool
 | [],listed=>anyB ops acts pre n listed&&acts.all fun i=>!(listed.getD i false)
 | i::r,listed=>Region.free .any ops listed i&&(Region.ready .any ops listed).contains i&&zm2 ops acts pre n r (listed.setIfInBounds i true)
theorem ze1 {ops:Array Oper} {S:World->Prop} {acts:List Nat} {pre:Nat->List Nat} {n:Nat} (hs:Region.noSelect ops=true):∀ (σ:List Nat) (listed:Array Bool) (a:Act) (w:World),zm2 ops acts pre n σ listed=true->S w->
  zge P ops Q S acts pre σ a w->wpAnyH P .any ops Q S (n+σ.length) listed a w
 | [],listed,a,w,hB,hS,⟨J,h1,h2,h3⟩=>by
  simp only[zm2,Bool.and_eq_true,List.all_eq_true,Bool.not_eq_true'] at hB
  exact zfv h2 h3 n _ a w hB.1 hS (h1 _ hB.2)
 | i::r,listed,a,w,hB,hS,h=>by
  simp only[zm2,Bool.and_eq_true] at hB
  obtain⟨⟨h1,h2⟩,h3⟩:=hB
  obtain⟨o,v,ho,hQ,hy,hr⟩:=h
  exact wpAnyH_take ho hs h1 h2 hQ hy hS (ze1 hs r _ _ _ h3 hS hr)
def zjG (l:List Oper) (k:Nat) (σ acts:List Nat) (pre:Nat->List Nat):Bool:=
 zmF l k&&Region.noSelect (l.take k).toArray&&decide (acts.length+σ.length=k)&&zm2 (l.take k).toArray acts pre acts.length σ (Array.replicate k false)
theorem zcS {l:List Oper} {id:Nat} {a:Act} {w:World} (S:World->Prop) (k:Nat) (σ acts:List Nat) (pre:Nat->List Nat) (hm:P.follows .mixedOrders=true) (hB:zjG l k σ acts pre=true) (hS:S w.drew)
  (h:zge P (l.take k).toArray (zes (fun a w=>wpList P l.toArray Q (l.drop k) a w) Q) S acts pre σ a w.drew):(Code.region id l.toArray true).wp P Q a w:=by
 simp only[zjG,Bool.and_eq_true,decide_eq_true_eq] at hB;obtain⟨⟨⟨h1,h2⟩,h3⟩,h4⟩:=hB;refine zcT k hm h1 (wpAny_of_held (S:=S) _ _ _ _ ?_);have:=ze1 h2 σ _ a w.drew h4 hS h;rw[h3] at this;exact this
theorem zeQ {ops:Array Oper} {S:World->Prop} {acts:List Nat} {pre:Nat->List Nat} {i:Nat} {r:List Nat} {a:Act} {w:World} (o:Oper) (v:Value) (ho:ops[i]?=some o) (hQ:∀ c a w,Q (.panic c) (a.put o.dst v) w->Q (.panic c) a w)
  (hy:YieldsIf P ops S o v a) (h:zge P ops Q S acts pre r (a.put o.dst v) w):zge P ops Q S acts pre (i::r) a w:=⟨o,v,ho,hQ,hy,h⟩
theorem zea {ops:Array Oper} {S:World->Prop} {acts:List Nat} {pre:Nat->List Nat} {a:Act} {w:World} (J:Act->(Nat->Bool)->Act->World->Prop) (h1:∀ d,(∀ i ∈ acts,d i=false)->J a d a w)
  (h2:∀ i ∈ acts,zhd P ops Q S (J a) pre i) (h3:∀ d b w,(∀ i ∈ acts,d i=true)->S w->J a d b w->Q .normal b w):zge P ops Q S acts pre [] a w:=⟨J a,h1,h2,h3⟩
theorem zbz {ops:Array Oper} {S:World->Prop} {J:(Nat->Bool)->Act->World->Prop} {pre:Nat->List Nat} {i:Nat} {o:Oper} (ho:ops[i]?=some o) (hg:o.guard=none)
  (h:∀ d a w,d i=false->(∀ j ∈ pre i,d j=true)->S w->J d a w->o.wp P a w (fun a' w'=>S w'/\J (upd d i) a' w') Q):zhd P ops Q S J pre i:=fun d a w h0 h1 h2 h3=>zjq ho hg (h d a w h0 h1 h2 h3)
theorem zhc {p:Nat->Prop}:∀ i ∈ ([]:List Nat),p i:=fun i h=>by cases h
theorem zbS {p:Nat->Prop} {i:Nat} {r:List Nat} (h1:p i) (h2:∀ j ∈ r,p j):∀ j ∈ i::r,p j:=fun j h=>by
 rcases List.mem_cons.1 h with rfl | h
 ·exact h1
 ·exact h2 j h
end
theorem zaG {B:Nat} {w wq:World} (y:Later B w) (hw:B<=w.heap.size) (hb:Below y.world.heap.size y.world wq):∃ y2:Later B w,wq=y2.world:=
 ⟨⟨wq,y.below.trans (hb.mono (Nat.le_trans hw y.below.size))⟩,rfl⟩
theorem zcx {P:Program} {c:Code} {Q:Exit->Act->World->Prop} {a:Act} {w:World} (B:Nat) (h:∀ y:Later B w,c.wp P Q a y.world):c.wp P Q a w:=h ⟨w,Below.refl _ _⟩
theorem zbN (set i:Int) (w:World) (h0:0<=set) (h1:set<1073741824) :
  Calls Tryz.prog 42 #[.int .i64 set,.int .i64 i] w fun e w'=>e=.returned (.bool (zc2 set i))/\w=w':=by
 have HB:=Lib.hid (zk6 set i h0);have HD:=div_bd (z:=set) i h0 o_;have HH:Hid (62<=i->bitB set i=false):=by
  refine Lib.hid fun hi=>?_
  obtain⟨n,rfl⟩:=Int.eq_ofNat_of_zero_le h0;unfold bitB;rw[Int.toNat_natCast];refine Nat.testBit_lt_two_pow (Nat.lt_of_lt_of_le (show n<2 ^ 30 by omega) (Nat.pow_le_pow_right o_ o_))
 go_enter Tryz.func42,Tryz.ntmps42;go_wp2;all_goals
  go_ret;refine⟨zak ?_,rfl⟩
 ·rw[zjT _ o_ o_,HB.out];by_cases h62:i<62
  ·simp[zc2, *]
  ·rw[HH.out o_];simp[zc2];omega
 ·simp[zc2];omega
 ·simp[zc2];omega
def zcO (s:St) (k:Int):Int:=if 0<=k/\k<s.cells.length then (zaQ s k).mode else 0
theorem zhl (x:StA) (s:St) (k:Int) (w:World) (hl:s.cells.length<=100) (hok:StOk w (·<w.heap.size) x s) :
  Calls Tryz.prog 154 #[.agg (stC x s),.int .i64 k] w fun e w'=>e=.returned (.int .i64 (zcO s k))/\Below w.heap.size w w':=by
 obtain⟨at_,ct,ac,cc⟩:=x;have HK:=Lib.hid hok;clear hok;unfold stC;simp only;by_cases hk:0<=k/\k<s.cells.length
 ·obtain⟨hk0,hk1⟩:=hk;obtain⟨n,rfl⟩:=Int.eq_ofNat_of_zero_le hk0;have hn:n<s.cells.length:=by omega
  obtain⟨b,off,z,rfl,hb,hz,hcell⟩:=HK.out.cells.row (enc:=csC) (sz:=4) (fun _=>rfl) o_ hn;have e0:=hcell 0 (.int .i64 z.mode) rfl;simp only[Nat.add_zero] at e0;have hzo:zcO s n=z.mode:=by unfold zcO zaQ;rw[if_pos ⟨hk0,hk1⟩,Int.toNat_natCast,getD_some hz]
  have HZ:=Lib.hid hzo;have hb1:b<w.heap.size:=hb;clear hcell hz hzo;go_enter Tryz.func154,Tryz.ntmps154;go_wp2;go_ret;exact⟨zah HZ.out.symm,(Below.refl _ _).alloc nl_ _⟩
 ·have hzo:zcO s k=0:=by unfold zcO;rw[if_neg hk]
  have HZ:=Lib.hid hzo;have hd:k<0∨(0<=k/\(s.cells.length:Int)<=k):=by omega
  clear hk hzo;rcases hd with hd | ⟨hd1,hd⟩
  all_goals
   go_enter Tryz.func154,Tryz.ntmps154;go_wp2;go_ret;exact⟨zah HZ.out.symm,(Below.refl _ _).alloc nl_ _⟩
def zc5 (c:Cfg) (k:Int):Int×Int:=if 0<=k/\k<c.versions.length then zcj c k else (0,0)
theorem zds (x:CfgA) (c:Cfg) (k:Int) (w:World) (hV:CfgV c) (hok:CfgOk w (·<w.heap.size) x c) :
  Calls Tryz.prog 159 #[.agg (zaH x c),.int .i64 k] w fun e w'=>e=.returned (.agg (zaI (zc5 c k)).toArray)/\Below w.heap.size w w':=by
 obtain⟨az,cz,ac,cc,at_,ct,av,cv,ar,cr,ao,co⟩:=x;have hnc:=hV.nv;have HK:=Lib.hid hok;clear hok hV;unfold zaH;simp only;by_cases hk:0<=k/\k<c.versions.length
 ·obtain⟨hk0,hk1⟩:=hk;obtain⟨n,rfl⟩:=Int.eq_ofNat_of_zero_le hk0;have hn:n<c.versions.length:=by omega
  obtain⟨b,off,z,rfl,hb,hz,hcell⟩:=HK.out.versions.row (enc:=zaI) (sz:=2) (fun _=>rfl) o_ hn;have e0:=hcell 0 (.int .i64 z.1) rfl;have e1:=hcell 1 (.int .i64 z.2) rfl;simp only[Nat.add_zero] at e0;have hzo:zc5 c n=z:=by unfold zc5 zcj;rw[if_pos ⟨hk0,hk1⟩,Int.toNat_natCast,getD_some hz]
  have HZ:=Lib.hid hzo;have hb1:b<w.heap.size:=hb;have hg:b<(w.alloc (.cells #[.int .i64 c.regions,.slice az c.zones.length cz,.slice ac c.cells.length cc,.slice at_ c.tenants.length ct,.slice (some ⟨b,off,none⟩) c.versions.length cv,.slice ar c.replicas.length cr,.slice ao c.observers.length co,.int .i64 c.blast,.int .i64 c.lease,.int .i64 c.bake] 30)).heap.size:=by simp;omega
  have e0':=(World.cell?_alloc_lt w (.cells #[.int .i64 c.regions,.slice az c.zones.length cz,.slice ac c.cells.length cc,.slice at_ c.tenants.length ct,.slice (some ⟨b,off,none⟩) c.versions.length cv,.slice ar c.replicas.length cr,.slice ao c.observers.length co,.int .i64 c.blast,.int .i64 c.lease,.int .i64 c.bake] 30) ⟨b,off+n * 2,none⟩ hb1).trans e0;have e1':=(World.cell?_alloc_lt w (.cells #[.int .i64 c.regions,.slice az c.zones.length cz,.slice ac c.cells.length cc,.slice at_ c.tenants.length ct,.slice (some ⟨b,off,none⟩) c.versions.length cv,.slice ar c.replicas.length cr,.slice ao c.observers.length co,.int .i64 c.blast,.int .i64 c.lease,.int .i64 c.bake] 30) ⟨b,off+n * 2+1,none⟩ hb1).trans e1;clear hcell hz hzo;go_enter Tryz.func159,Tryz.ntmps159;go_wp2;rw[HZ.out];refine bodyPost_ret (v:=.agg #[.int .i64 z.1,.int .i64 z.2]) (by simp[results,Tryz.results159,go_sem]) rfl ?_;exact⟨rfl,((Below.refl _ _).alloc nl_ _).alloc (by simp) _⟩
 ·have hzo:zc5 c k=(0,0):=by unfold zc5;rw[if_neg hk]
  have HZ:=Lib.hid hzo;have hd:k<0∨(0<=k/\(c.versions.length:Int)<=k):=by omega
  clear hk hzo;rcases hd with hd | ⟨hd1,hd⟩
  all_goals
   go_enter Tryz.func159,Tryz.ntmps159;go_wp2;rw[HZ.out];refine bodyPost_ret (v:=.agg #[.int .i64 0,.int .i64 0]) (by simp[results,Tryz.results159,go_sem]) rfl ?_;exact⟨rfl,((Below.refl _ _).alloc nl_ _).alloc (by simp) _⟩
theorem zko (x:CfgA) (c:Cfg) (a b:Int) (w:World) (hV:CfgV c) (hok:CfgOk w (·<w.heap.size) x c) :
  Calls Tryz.prog 157 #[.agg (zaH x c),.int .i64 a,.int .i64 b] w fun e w'=>e=.returned (.bool (zbh c a b))/\Below w.heap.size w w':=by
 obtain⟨az,cz,ac,cc,at_,ct,av,cv,ar,cr,ao,co⟩:=x;have HV:=Lib.hid hV;have HK:=Lib.hid hok;have HL:=Lib.hid ((Below.refl w.heap.size w).alloc nl_ (.cells (zaH ⟨az,cz,ac,cc,at_,ct,av,cv,ar,cr,ao,co⟩ c) 30));have HW:=Lib.hid (HK.out.allocW (.cells (zaH ⟨az,cz,ac,cc,at_,ct,av,cv,ar,cr,ao,co⟩ c) 30));have hBx:=Blk.new w 30 (zaH ⟨az,cz,ac,cc,at_,ct,av,cv,ar,cr,ao,co⟩ c);have hg:=hBx.lt;have d0:=hBx.cell' (i:=0) (v:=.int .i64 c.regions) rfl;have d1:=hBx.cell' (i:=1) (v:=.slice az c.zones.length cz) rfl;have d2:=hBx.cell' (i:=2) (v:=.slice ac c.cells.length cc) rfl;have d3:=hBx.cell' (i:=3) (v:=.slice at_ c.tenants.length ct) rfl;have d4:=hBx.cell' (i:=4) (v:=.slice av c.versions.length cv) rfl;have d5:=hBx.cell' (i:=5) (v:=.slice ar c.replicas.length cr) rfl;have d6:=hBx.cell' (i:=6) (v:=.slice ao c.observers.length co) rfl;have d7:=hBx.cell' (i:=7) (v:=.int .i64 c.blast) rfl;have d8:=hBx.cell' (i:=8) (v:=.int .i64 c.lease) rfl;have d9:=hBx.cell' (i:=9) (v:=.int .i64 c.bake) rfl;clear hBx;unfold zaH at HL HW d0 d1 d2 d3 d4 d5 d6 d7 d8 d9 hg;simp only at HL HW d0 d1 d2 d3 d4 d5 d6 d7 d8 d9 hg;clear hok hV HK;unfold zaH;simp only;by_cases hb:b=-1
 ·have hN:zbh c a b=false:=by simp[zbh,hb]
  have HN:=Lib.hid hN;subst hb;clear hN;go_enter Tryz.func157,Tryz.ntmps157;go_wp2;go_ret;exact⟨zak HN.out.symm,HL.out⟩
 ·have hN:zbh c a b=!zco c a b:=by simp[zbh,hb]
  have HN:=Lib.hid hN;have hb2:(b != -1)=true:=by simpa using hb
  clear hN hb;go_enter Tryz.func157,Tryz.ntmps157;go_wp2_with fail;refine (zdr ⟨az,cz,ac,cc,at_,ct,av,cv,ar,cr,ao,co⟩ c a b _ HV.out HW.out).mono ?_;rintro e w1 ⟨rfl,hb1⟩;have HB:=Lib.hid (HL.out.trans (hb1.mono (Nat.le_of_lt hg)));clear hb1 d0 d1 d2 d3 d4 d5 d6 d7 d8 d9 hg;go_wp2;go_ret;exact⟨zak HN.out.symm,HB.out⟩
theorem zhn (x:CfgA) (c:Cfg) (y:StA) (s:St) (k:Int) (w:World) (hV:CfgV c) (hc:CfgOk w (·<w.heap.size) x c) (hI:StInv c s) :
  Calls Tryz.prog 155 #[.agg (zaH x c),.agg (stC y s),.int .i64 k] w fun e w'=>e=.returned (.bool (zb2 c s k))/\Below w.heap.size w w':=by
 obtain⟨az,cz,ac,cc,at_,ct,av,cv,ar,cr,ao,co⟩:=x;have HV:=Lib.hid hV;have HKc:=Lib.hid hc;obtain⟨sat,sct,sac,scc⟩:=y;have hev:=hI.evac;have HF:Hid (zb2 c s k=zc2 s.evac (zax c k)):=Lib.hid rfl;clear hV hc hI;have hL:Below w.heap.size w ((w.alloc (.cells #[.int .i64 c.regions,.slice az c.zones.length cz,.slice ac c.cells.length cc,.slice at_ c.tenants.length ct,.slice av c.versions.length cv,.slice ar c.replicas.length cr,.slice ao c.observers.length co,.int .i64 c.blast,.int .i64 c.lease,.int .i64 c.bake] 30)).alloc (.cells #[.int .i64 s.tick,.int .i64 s.count,.slice sat s.tenants.length sct,.slice sac s.cells.length scc,.int .i64 s.proven,.int .i64 s.evac,.int .i64 s.low,.int .i64 s.high] 37)):=(((Below.refl w.heap.size w).alloc (by simp<;>omega) (.cells #[.int .i64 c.regions,.slice az c.zones.length cz,.slice ac c.cells.length cc,.slice at_ c.tenants.length ct,.slice av c.versions.length cv,.slice ar c.replicas.length cr,.slice ao c.observers.length co,.int .i64 c.blast,.int .i64 c.lease,.int .i64 c.bake] 30)).alloc (by simp<;>omega) (.cells #[.int .i64 s.tick,.int .i64 s.count,.slice sat s.tenants.length sct,.slice sac s.cells.length scc,.int .i64 s.proven,.int .i64 s.evac,.int .i64 s.low,.int .i64 s.high] 37));have hBc:Blk ((w.alloc (.cells #[.int .i64 c.regions,.slice az c.zones.length cz,.slice ac c.cells.length cc,.slice at_ c.tenants.length ct,.slice av c.versions.length cv,.slice ar c.replicas.length cr,.slice ao c.observers.length co,.int .i64 c.blast,.int .i64 c.lease,.int .i64 c.bake] 30)).alloc (.cells #[.int .i64 s.tick,.int .i64 s.count,.slice sat s.tenants.length sct,.slice sac s.cells.length scc,.int .i64 s.proven,.int .i64 s.evac,.int .i64 s.low,.int .i64 s.high] 37)) (w.heap.size) 30 #[.int .i64 c.regions,.slice az c.zones.length cz,.slice ac c.cells.length cc,.slice at_ c.tenants.length ct,.slice av c.versions.length cv,.slice ar c.replicas.length cr,.slice ao c.observers.length co,.int .i64 c.blast,.int .i64 c.lease,.int .i64 c.bake]:=by
  have:=((Blk.new w 30 #[.int .i64 c.regions,.slice az c.zones.length cz,.slice ac c.cells.length cc,.slice at_ c.tenants.length ct,.slice av c.versions.length cv,.slice ar c.replicas.length cr,.slice ao c.observers.length co,.int .i64 c.blast,.int .i64 c.lease,.int .i64 c.bake]).alloc (.cells #[.int .i64 s.tick,.int .i64 s.count,.slice sat s.tenants.length sct,.slice sac s.cells.length scc,.int .i64 s.proven,.int .i64 s.evac,.int .i64 s.low,.int .i64 s.high] 37));simpa using this
 have hBs:Blk ((w.alloc (.cells #[.int .i64 c.regions,.slice az c.zones.length cz,.slice ac c.cells.length cc,.slice at_ c.tenants.length ct,.slice av c.versions.length cv,.slice ar c.replicas.length cr,.slice ao c.observers.length co,.int .i64 c.blast,.int .i64 c.lease,.int .i64 c.bake] 30)).alloc (.cells #[.int .i64 s.tick,.int .i64 s.count,.slice sat s.tenants.length sct,.slice sac s.cells.length scc,.int .i64 s.proven,.int .i64 s.evac,.int .i64 s.low,.int .i64 s.high] 37)) (w.heap.size+1) 37 #[.int .i64 s.tick,.int .i64 s.count,.slice sat s.tenants.length sct,.slice sac s.cells.length scc,.int .i64 s.proven,.int .i64 s.evac,.int .i64 s.low,.int .i64 s.high]:=by
  have:=(Blk.new (w.alloc (.cells #[.int .i64 c.regions,.slice az c.zones.length cz,.slice ac c.cells.length cc,.slice at_ c.tenants.length ct,.slice av c.versions.length cv,.slice ar c.replicas.length cr,.slice ao c.observers.length co,.int .i64 c.blast,.int .i64 c.lease,.int .i64 c.bake] 30)) 37 #[.int .i64 s.tick,.int .i64 s.count,.slice sat s.tenants.length sct,.slice sac s.cells.length scc,.int .i64 s.proven,.int .i64 s.evac,.int .i64 s.low,.int .i64 s.high]);simpa using this
 unfold zaH stC;simp only;go_enter Tryz.func155,Tryz.ntmps155;go_upto_region 1 with fail
 generalize (w.alloc _).alloc _=W at *;have hgc:=hBc.lt;have d0:=hBc.cell' (i:=0) (v:=.int .i64 c.regions) rfl;have d1:=hBc.cell' (i:=1) (v:=.slice az c.zones.length cz) rfl;have d2:=hBc.cell' (i:=2) (v:=.slice ac c.cells.length cc) rfl;have d3:=hBc.cell' (i:=3) (v:=.slice at_ c.tenants.length ct) rfl;have d4:=hBc.cell' (i:=4) (v:=.slice av c.versions.length cv) rfl;have d5:=hBc.cell' (i:=5) (v:=.slice ar c.replicas.length cr) rfl;have d6:=hBc.cell' (i:=6) (v:=.slice ao c.observers.length co) rfl;have d7:=hBc.cell' (i:=7) (v:=.int .i64 c.blast) rfl;have d8:=hBc.cell' (i:=8) (v:=.int .i64 c.lease) rfl;have d9:=hBc.cell' (i:=9) (v:=.int .i64 c.bake) rfl;clear hBc;have hgs:=hBs.lt;have su0:=hBs.cell' (i:=0) (v:=.int .i64 s.tick) rfl;have su1:=hBs.cell' (i:=1) (v:=.int .i64 s.count) rfl;have su2:=hBs.cell' (i:=2) (v:=.slice sat s.tenants.length sct) rfl;have su3:=hBs.cell' (i:=3) (v:=.slice sac s.cells.length scc) rfl;have su4:=hBs.cell' (i:=4) (v:=.int .i64 s.proven) rfl;have su5:=hBs.cell' (i:=5) (v:=.int .i64 s.evac) rfl;have su6:=hBs.cell' (i:=6) (v:=.int .i64 s.low) rfl;have su7:=hBs.cell' (i:=7) (v:=.int .i64 s.high) rfl;clear hBs;have HL:=Lib.hid hL;have HWc:=Lib.hid (HKc.out.belowW hL);clear hL;have hx:∀ (y:Later W.heap.size W) b o,b<W.heap.size->y.world.cell? ⟨b,o,none⟩=W.cell? ⟨b,o,none⟩:=fun y b o h=>y.cell h
 refine zay W.heap.size k_ k_ ?_;repeat (quiet_step ((first | (go_at_call 215;exact zaE _ (zbT ⟨az,cz,ac,cc,at_,ct,av,cv,ar,cr,ao,co⟩ c _ _ HV.out (HWc.out.laterW _))) | (go_at_call 42;exact zbq _ (zbN _ _ _ o_ o_)))))
 refine wpQuiet_nil ?_;rintro w' ⟨y,rfl⟩;have HY:=Lib.hid (HL.out.trans (y.below.mono (Nat.le_of_lt hgc)));clear hx d0 d1 d2 d3 d4 d5 d6 d7 d8 d9 hgc hgs su0 su1 su2 su3 su4 su5 su6 su7;go_wp2;go_ret;exact⟨zak HF.out.symm,HY.out⟩
theorem zg0 (e:Ent) (nt nc nr nv:Int) (w:World) (h0:0<=nt/\nt<=100) (h1:0<=nc/\nc<=100) (h2:0<=nr/\nr<=100) (h3:0<=nv/\nv<=100) :
  Calls Tryz.prog 153 #[.agg (zbe e).toArray,.agg #[.int .i64 nt,.int .i64 nc,.int .i64 nr,.int .i64 nv]] w fun r w'=>r=.returned (.bool (zaN nt nc nr nv e))/\Below w.heap.size w w':=by
 obtain⟨kind,tick,tenant,cell,other,epoch,since,till,n⟩:=e;unfold zbe;simp only;have hL:Below w.heap.size w ((w.alloc (.cells #[.int .i64 kind,.int .i64 tick,.int .i64 tenant,.int .i64 cell,.int .i64 other,.int .i64 epoch,.int .i64 since,.int .i64 till,.int .i64 n] 43)).alloc (.cells #[.int .i64 nt,.int .i64 nc,.int .i64 nr,.int .i64 nv] 219)):=((Below.refl _ _).alloc nl_ _).alloc (by simp) _;have hBe:Blk ((w.alloc (.cells #[.int .i64 kind,.int .i64 tick,.int .i64 tenant,.int .i64 cell,.int .i64 other,.int .i64 epoch,.int .i64 since,.int .i64 till,.int .i64 n] 43)).alloc (.cells #[.int .i64 nt,.int .i64 nc,.int .i64 nr,.int .i64 nv] 219)) w.heap.size 43 #[.int .i64 kind,.int .i64 tick,.int .i64 tenant,.int .i64 cell,.int .i64 other,.int .i64 epoch,.int .i64 since,.int .i64 till,.int .i64 n]:=(Blk.new _ _ _).alloc _;have hBb:Blk ((w.alloc (.cells #[.int .i64 kind,.int .i64 tick,.int .i64 tenant,.int .i64 cell,.int .i64 other,.int .i64 epoch,.int .i64 since,.int .i64 till,.int .i64 n] 43)).alloc (.cells #[.int .i64 nt,.int .i64 nc,.int .i64 nr,.int .i64 nv] 219)) (w.heap.size+1) 219 #[.int .i64 nt,.int .i64 nc,.int .i64 nr,.int .i64 nv]:=by
  have:=Blk.new (w.alloc (.cells #[.int .i64 kind,.int .i64 tick,.int .i64 tenant,.int .i64 cell,.int .i64 other,.int .i64 epoch,.int .i64 since,.int .i64 till,.int .i64 n] 43)) 219 #[.int .i64 nt,.int .i64 nc,.int .i64 nr,.int .i64 nv];simpa using this
 go_enter Tryz.func153,Tryz.ntmps153;go_upto_region 1 with fail
 generalize (w.alloc _).alloc _=W at *;have v0:=hBe.cell' (i:=0) (v:=.int .i64 kind) rfl;have v1:=hBe.cell' (i:=1) (v:=.int .i64 tick) rfl;have v2:=hBe.cell' (i:=2) (v:=.int .i64 tenant) rfl;have v3:=hBe.cell' (i:=3) (v:=.int .i64 cell) rfl;have v4:=hBe.cell' (i:=4) (v:=.int .i64 other) rfl;have v5:=hBe.cell' (i:=5) (v:=.int .i64 epoch) rfl;have v6:=hBe.cell' (i:=6) (v:=.int .i64 since) rfl;have v7:=hBe.cell' (i:=7) (v:=.int .i64 till) rfl;have v8:=hBe.cell' (i:=8) (v:=.int .i64 n) rfl;have q0:=hBb.cell' (i:=0) (v:=.int .i64 nt) rfl;have q1:=hBb.cell' (i:=1) (v:=.int .i64 nc) rfl;have q2:=hBb.cell' (i:=2) (v:=.int .i64 nr) rfl;have q3:=hBb.cell' (i:=3) (v:=.int .i64 nv) rfl;have hge:=hBe.lt;have hgb:=hBb.lt;have HBe:=Lib.hid hBe;have HL:=Lib.hid hL;clear hBe hBb hL;go_wp2_with fail;refine (zh3 kind nt nc nr nv W h0 h1 h2 h3).mono ?_;rintro r wy ⟨rfl,hby⟩;by_cases hk:inR kind 1 16=true
 ·have HR:Hid (zaN nt nc nr nv ⟨kind,tick,tenant,cell,other,epoch,since,till,n⟩=(inR tick 0 1073741824&&inR tenant (fT nt kind).1 (fT nt kind).2&&inR cell (fC nc kind).1 (fC nc kind).2&&inR other (fO nc nr kind).1 (fO nc nr kind).2&&inR epoch (fE kind).1 (fE kind).2&&inR since (fW kind).1 (fW kind).2&&inR till (fW kind).1 (fW kind).2&&inR n (fN nv kind).1 (fN nv kind).2&&(decide (kind≠1)||decide (other≠cell)))):=Lib.hid (by simp[zaN,inS,hk]);have hfo:zj4 nt nc nr nv kind=#[.int .i64 (fT nt kind).1,.int .i64 (fT nt kind).2,.int .i64 (fC nc kind).1,.int .i64 (fC nc kind).2,.int .i64 (fO nc nr kind).1,.int .i64 (fO nc nr kind).2,.int .i64 (fE kind).1,.int .i64 (fE kind).2,.int .i64 (fW kind).1,.int .i64 (fW kind).2,.int .i64 (fN nv kind).1,.int .i64 (fN nv kind).2]:=if_pos hk;rw[hfo,hk];clear hfo hk h0 h1 h2 h3;have hBf:=Blk.new wy 280 #[.int .i64 (fT nt kind).1,.int .i64 (fT nt kind).2,.int .i64 (fC nc kind).1,.int .i64 (fC nc kind).2,.int .i64 (fO nc nr kind).1,.int .i64 (fO nc nr kind).2,.int .i64 (fE kind).1,.int .i64 (fE kind).2,.int .i64 (fW kind).1,.int .i64 (fW kind).2,.int .i64 (fN nv kind).1,.int .i64 (fN nv kind).2];have hL2:=(Below.refl wy.heap.size wy).alloc nl_ (.cells #[.int .i64 (fT nt kind).1,.int .i64 (fT nt kind).2,.int .i64 (fC nc kind).1,.int .i64 (fC nc kind).2,.int .i64 (fO nc nr kind).1,.int .i64 (fO nc nr kind).2,.int .i64 (fE kind).1,.int .i64 (fE kind).2,.int .i64 (fW kind).1,.int .i64 (fW kind).2,.int .i64 (fN nv kind).1,.int .i64 (fN nv kind).2] 280);have hBe2:=(HBe.out.below hby HBe.out.lt).below hL2 ((HBe.out.below hby HBe.out.lt).lt);have hLL:=(HL.out.trans (hby.mono HL.out.size)).trans (hL2.mono (HL.out.trans (hby.mono HL.out.size)).size);clear v0 v1 v2 v3 v4 v5 v6 v7 v8 q0 q1 q2 q3 hge hgb HBe HL hby;go_upto_region 2 with fail
  generalize wy.alloc _=W2 at *;clear hL2;have v0:=hBe2.cell' (i:=0) (v:=.int .i64 kind) rfl;have v1:=hBe2.cell' (i:=1) (v:=.int .i64 tick) rfl;have v2:=hBe2.cell' (i:=2) (v:=.int .i64 tenant) rfl;have v3:=hBe2.cell' (i:=3) (v:=.int .i64 cell) rfl;have v4:=hBe2.cell' (i:=4) (v:=.int .i64 other) rfl;have v5:=hBe2.cell' (i:=5) (v:=.int .i64 epoch) rfl;have v6:=hBe2.cell' (i:=6) (v:=.int .i64 since) rfl;have v7:=hBe2.cell' (i:=7) (v:=.int .i64 till) rfl;have v8:=hBe2.cell' (i:=8) (v:=.int .i64 n) rfl;have p0:=hBf.cell' (i:=0) (v:=.int .i64 (fT nt kind).1) rfl;have p1:=hBf.cell' (i:=1) (v:=.int .i64 (fT nt kind).2) rfl;have p2:=hBf.cell' (i:=2) (v:=.int .i64 (fC nc kind).1) rfl;have p3:=hBf.cell' (i:=3) (v:=.int .i64 (fC nc kind).2) rfl;have p4:=hBf.cell' (i:=4) (v:=.int .i64 (fO nc nr kind).1) rfl;have p5:=hBf.cell' (i:=5) (v:=.int .i64 (fO nc nr kind).2) rfl;have p6:=hBf.cell' (i:=6) (v:=.int .i64 (fE kind).1) rfl;have p7:=hBf.cell' (i:=7) (v:=.int .i64 (fE kind).2) rfl;have p8:=hBf.cell' (i:=8) (v:=.int .i64 (fW kind).1) rfl;have p9:=hBf.cell' (i:=9) (v:=.int .i64 (fW kind).2) rfl;have p10:=hBf.cell' (i:=10) (v:=.int .i64 (fN nv kind).1) rfl;have p11:=hBf.cell' (i:=11) (v:=.int .i64 (fN nv kind).2) rfl;have hge:=hBe2.lt;have hgf:=hBf.lt;have HL:=Lib.hid hLL;clear hBe2 hBf hLL;generalize wy.heap.size=gf at *;have hx:∀ (y:Later W2.heap.size W2) b o,b<W2.heap.size->y.world.cell? ⟨b,o,none⟩=W2.cell? ⟨b,o,none⟩:=fun y b o h=>y.cell h
  refine zcx W2.heap.size ?_;intro y0;have HT:Hid (inR tick 0 1073741824=(decide (0<=tick)&&decide (tick<=1073741824))):=Lib.hid rfl;generalize fT nt kind=f1 at *;generalize fC nc kind=f2 at *;generalize fO nc nr kind=f3 at *;generalize fE kind=f4 at *;generalize fW kind=f5 at *;generalize fN nv kind=f6 at *;go_wp2_with (go_at_call 214;(with_reducible refine (zl1 _ _ _ _).mono ?_);rintro r wq ⟨rfl,hbq⟩;obtain⟨yq,rfl⟩:=zaG _ nl_ hbq;clear hbq);all_goals
   go_ret;refine⟨zak ?_,(by first | exact HL.out | exact HL.out.trans ((Later.below _).mono HL.out.size))⟩;go_light;first | rw[HR.out,HT.out] | (obtain rfl:kind=1:=(by clear HR HL HT;simp_all);rw[HR.out,HT.out])
   clear HR HL HT;simp_all;try omega
 ·have hk:inR kind 1 16=false:=by simpa using hk
  have HR:Hid (zaN nt nc nr nv ⟨kind,tick,tenant,cell,other,epoch,since,till,n⟩=false):=Lib.hid (by simp[zaN,hk]);have hfo:zj4 nt nc nr nv kind=#[.int .i64 0,.int .i64 0,.int .i64 0,.int .i64 0,.int .i64 0,.int .i64 0,.int .i64 0,.int .i64 0,.int .i64 0,.int .i64 0,.int .i64 0,.int .i64 0]:=if_neg (by simp[hk]);have hLL:=HL.out.trans (hby.mono HL.out.size);have HLL:=Lib.hid (hLL.alloc hLL.size (.cells #[.int .i64 0,.int .i64 0,.int .i64 0,.int .i64 0,.int .i64 0,.int .i64 0,.int .i64 0,.int .i64 0,.int .i64 0,.int .i64 0,.int .i64 0,.int .i64 0] 280));rw[hfo,hk];clear hfo hk h0 h1 h2 h3 hby hLL v0 v1 v2 v3 v4 v5 v6 v7 v8 q0 q1 q2 q3 hge hgb HBe;go_wp2;go_ret;exact⟨zak HR.out.symm,HLL.out⟩
theorem shape_of {c:Cfg} {e:Ent} (hV:CfgV c) (h:zca c e=true):zaN 32 16 4 30 e=true:=by
 have hk:=zeK h;obtain⟨hti,hT,hC,hO,hE,hS,hU,hN,hne⟩:=zh2 h;have h1:=hV.nt;have h2:=hV.nc;have h3:=hV.reg;have h4:=hV.nv;obtain⟨kind,tick,tenant,cell,other,epoch,since,till,n⟩:=e;simp only at *;clear h hV;rcases hk with rfl | rfl | rfl | rfl | rfl | rfl | rfl | rfl | rfl | rfl | rfl | rfl | rfl | rfl | rfl | rfl
 all_goals
  simp[inS,inR,fT,fC,fO,fE,fW,fN] at hT hC hO hE hS hU hN hne;simp[zaN,inS,inR,fT,fC,fO,fE,fW,fN];try omega
theorem zfd (e:Ent) (w:World):Calls Tryz.prog 152 #[.agg (zbe e).toArray] w fun r w'=>r=.returned (.bool (zaN 32 16 4 30 e))/\Below w.heap.size w w':=by
 have HF:=Lib.hid (fun W=>zg0 e 32 16 4 30 W o_ o_ o_ o_);obtain⟨kind,tick,tenant,cell,other,epoch,since,till,n⟩:=e;unfold zbe at *;simp only at *;have hbx:=Blk.new w 43 #[.int .i64 kind,.int .i64 tick,.int .i64 tenant,.int .i64 cell,.int .i64 other,.int .i64 epoch,.int .i64 since,.int .i64 till,.int .i64 n];have hbel:=(Below.refl w.heap.size w).alloc nl_ (.cells #[.int .i64 kind,.int .i64 tick,.int .i64 tenant,.int .i64 cell,.int .i64 other,.int .i64 epoch,.int .i64 since,.int .i64 till,.int .i64 n] 43);have c0:=hbx.cell' (i:=0) (v:=.int .i64 kind) rfl;have c1:=hbx.cell' (i:=1) (v:=.int .i64 tick) rfl;have c2:=hbx.cell' (i:=2) (v:=.int .i64 tenant) rfl;have c3:=hbx.cell' (i:=3) (v:=.int .i64 cell) rfl;have c4:=hbx.cell' (i:=4) (v:=.int .i64 other) rfl;have c5:=hbx.cell' (i:=5) (v:=.int .i64 epoch) rfl;have c6:=hbx.cell' (i:=6) (v:=.int .i64 since) rfl;have c7:=hbx.cell' (i:=7) (v:=.int .i64 till) rfl;have c8:=hbx.cell' (i:=8) (v:=.int .i64 n) rfl;go_enter Tryz.func152,Tryz.ntmps152;go_wp2_with fail;refine (HF.out _).mono ?_;rintro x w1 ⟨rfl,hb1⟩;replace hbel:=hbel.trans (hb1.mono hbel.size);clear hbx c0 c1 c2 c3 c4 c5 c6 c7 c8 hb1 HF;go_wp2;go_ret;exact⟨rfl,hbel⟩
theorem zi1 (x:CfgA) (c:Cfg) (e:Ent) (w:World) (hV:CfgV c) :
  Calls Tryz.prog 88 #[.agg (zaH x c),.agg (zbe e).toArray] w fun r w'=>r=.returned (.bool (zca c e))/\Below w.heap.size w w':=by
 have hSh:=shape_of (e:=e) hV;have h1:=hV.nt;have h2:=hV.nc;have h3:=hV.reg;have h4:=hV.nv;have HF:=Lib.hid (fun W=>zg0 e c.tenants.length c.cells.length c.regions c.versions.length W o_ o_ o_ o_);have HS:=Lib.hid (fun W=>zfd e W);have HE:Hid (zaN (c.tenants.length:Int) c.cells.length c.regions c.versions.length e=zca c e):=Lib.hid rfl;obtain⟨az,cz,ac,cc,at_,ct,av,cv,ar,cr,ao,co⟩:=x;obtain⟨kind,tick,tenant,cell,other,epoch,since,till,n⟩:=e;have HSh:=Lib.hid hSh;clear hSh hV;unfold zbe at HF HS;simp only at HF HS;have hL:Below w.heap.size w ((w.alloc (.cells #[.int .i64 c.regions,.slice az c.zones.length cz,.slice ac c.cells.length cc,.slice at_ c.tenants.length ct,.slice av c.versions.length cv,.slice ar c.replicas.length cr,.slice ao c.observers.length co,.int .i64 c.blast,.int .i64 c.lease,.int .i64 c.bake] 30)).alloc (.cells #[.int .i64 kind,.int .i64 tick,.int .i64 tenant,.int .i64 cell,.int .i64 other,.int .i64 epoch,.int .i64 since,.int .i64 till,.int .i64 n] 43)):=(((Below.refl w.heap.size w).alloc (by simp<;>omega) (.cells #[.int .i64 c.regions,.slice az c.zones.length cz,.slice ac c.cells.length cc,.slice at_ c.tenants.length ct,.slice av c.versions.length cv,.slice ar c.replicas.length cr,.slice ao c.observers.length co,.int .i64 c.blast,.int .i64 c.lease,.int .i64 c.bake] 30)).alloc (by simp<;>omega) (.cells #[.int .i64 kind,.int .i64 tick,.int .i64 tenant,.int .i64 cell,.int .i64 other,.int .i64 epoch,.int .i64 since,.int .i64 till,.int .i64 n] 43));have hBc:Blk ((w.alloc (.cells #[.int .i64 c.regions,.slice az c.zones.length cz,.slice ac c.cells.length cc,.slice at_ c.tenants.length ct,.slice av c.versions.length cv,.slice ar c.replicas.length cr,.slice ao c.observers.length co,.int .i64 c.blast,.int .i64 c.lease,.int .i64 c.bake] 30)).alloc (.cells #[.int .i64 kind,.int .i64 tick,.int .i64 tenant,.int .i64 cell,.int .i64 other,.int .i64 epoch,.int .i64 since,.int .i64 till,.int .i64 n] 43)) (w.heap.size) 30 #[.int .i64 c.regions,.slice az c.zones.length cz,.slice ac c.cells.length cc,.slice at_ c.tenants.length ct,.slice av c.versions.length cv,.slice ar c.replicas.length cr,.slice ao c.observers.length co,.int .i64 c.blast,.int .i64 c.lease,.int .i64 c.bake]:=by
  have:=((Blk.new w 30 #[.int .i64 c.regions,.slice az c.zones.length cz,.slice ac c.cells.length cc,.slice at_ c.tenants.length ct,.slice av c.versions.length cv,.slice ar c.replicas.length cr,.slice ao c.observers.length co,.int .i64 c.blast,.int .i64 c.lease,.int .i64 c.bake]).alloc (.cells #[.int .i64 kind,.int .i64 tick,.int .i64 tenant,.int .i64 cell,.int .i64 other,.int .i64 epoch,.int .i64 since,.int .i64 till,.int .i64 n] 43));simpa using this
 have hBe:Blk ((w.alloc (.cells #[.int .i64 c.regions,.slice az c.zones.length cz,.slice ac c.cells.length cc,.slice at_ c.tenants.length ct,.slice av c.versions.length cv,.slice ar c.replicas.length cr,.slice ao c.observers.length co,.int .i64 c.blast,.int .i64 c.lease,.int .i64 c.bake] 30)).alloc (.cells #[.int .i64 kind,.int .i64 tick,.int .i64 tenant,.int .i64 cell,.int .i64 other,.int .i64 epoch,.int .i64 since,.int .i64 till,.int .i64 n] 43)) (w.heap.size+1) 43 #[.int .i64 kind,.int .i64 tick,.int .i64 tenant,.int .i64 cell,.int .i64 other,.int .i64 epoch,.int .i64 since,.int .i64 till,.int .i64 n]:=by
  have:=(Blk.new (w.alloc (.cells #[.int .i64 c.regions,.slice az c.zones.length cz,.slice ac c.cells.length cc,.slice at_ c.tenants.length ct,.slice av c.versions.length cv,.slice ar c.replicas.length cr,.slice ao c.observers.length co,.int .i64 c.blast,.int .i64 c.lease,.int .i64 c.bake] 30)) 43 #[.int .i64 kind,.int .i64 tick,.int .i64 tenant,.int .i64 cell,.int .i64 other,.int .i64 epoch,.int .i64 since,.int .i64 till,.int .i64 n]);simpa using this
 unfold zaH zbe;simp only;go_enter Tryz.func88,Tryz.ntmps88;go_upto_region 1 with fail
 generalize (w.alloc _).alloc _=W at *;have hgc:=hBc.lt;have d0:=hBc.cell' (i:=0) (v:=.int .i64 c.regions) rfl;have d1:=hBc.cell' (i:=1) (v:=.slice az c.zones.length cz) rfl;have d2:=hBc.cell' (i:=2) (v:=.slice ac c.cells.length cc) rfl;have d3:=hBc.cell' (i:=3) (v:=.slice at_ c.tenants.length ct) rfl;have d4:=hBc.cell' (i:=4) (v:=.slice av c.versions.length cv) rfl;have d5:=hBc.cell' (i:=5) (v:=.slice ar c.replicas.length cr) rfl;have d6:=hBc.cell' (i:=6) (v:=.slice ao c.observers.length co) rfl;have d7:=hBc.cell' (i:=7) (v:=.int .i64 c.blast) rfl;have d8:=hBc.cell' (i:=8) (v:=.int .i64 c.lease) rfl;have d9:=hBc.cell' (i:=9) (v:=.int .i64 c.bake) rfl;clear hBc;have hge:=hBe.lt;have v0:=hBe.cell' (i:=0) (v:=.int .i64 kind) rfl;have v1:=hBe.cell' (i:=1) (v:=.int .i64 tick) rfl;have v2:=hBe.cell' (i:=2) (v:=.int .i64 tenant) rfl;have v3:=hBe.cell' (i:=3) (v:=.int .i64 cell) rfl;have v4:=hBe.cell' (i:=4) (v:=.int .i64 other) rfl;have v5:=hBe.cell' (i:=5) (v:=.int .i64 epoch) rfl;have v6:=hBe.cell' (i:=6) (v:=.int .i64 since) rfl;have v7:=hBe.cell' (i:=7) (v:=.int .i64 till) rfl;have v8:=hBe.cell' (i:=8) (v:=.int .i64 n) rfl;clear hBe;have HL:=Lib.hid hL;clear hL;have hx:∀ (y:Later W.heap.size W) b o,b<W.heap.size->y.world.cell? ⟨b,o,none⟩=W.cell? ⟨b,o,none⟩:=fun y b o h=>y.cell h
 refine zcx W.heap.size ?_;intro y0;go_wp2_with fail;refine (HS.out _).mono ?_;rintro r wq ⟨rfl,hbq⟩;obtain⟨yq,rfl⟩:=zaG _ nl_ hbq;clear hbq;by_cases hsh:zaN 32 16 4 30 ⟨kind,tick,tenant,cell,other,epoch,since,till,n⟩=true
 ·rw[hsh];go_wp2_with fail;refine (HF.out _).mono ?_;rintro r wq ⟨rfl,hbq⟩;obtain⟨yr,rfl⟩:=zaG _ nl_ hbq;clear hbq;go_wp2;go_ret;exact⟨zak HE.out,HL.out.trans (yr.below.mono HL.out.size)⟩
 ·have hsh2:zaN 32 16 4 30 ⟨kind,tick,tenant,cell,other,epoch,since,till,n⟩=false:=by simpa using hsh
  have HN:Hid (zca c ⟨kind,tick,tenant,cell,other,epoch,since,till,n⟩=false):=Lib.hid (by rw[Bool.eq_false_iff];exact fun h=>hsh (HSh.out h));rw[hsh2];clear hsh hsh2;go_wp2;go_ret;exact⟨zak HN.out.symm,HL.out.trans (yq.below.mono HL.out.size)⟩
/-! journal.SetTerm,Append,Sync -/
def ctShape:CT:=fun vs mem nx K=>∃ e,vs=[entV' e]/\K (.bool (zaN 32 16 4 30 e)) mem nx
theorem shapeOk:CSound Tryz.prog 152 ctShape:=CSound.pure k_ (by
 rintro vs mem nx K ⟨e,rfl,hK⟩;refine⟨_,hK,fun ρ n=>⟨rfl,trivial⟩,fun ρ w=>?_⟩;have e1:([entV' e].map (den ρ)).toArray=#[.agg (zbe e).toArray]:=by simp[den,zaW,zal,zbe]
 rw[e1]
 exact zfd e w)
abbrev wrF:FT:=[(313,ctFPut),(312,ctDApp)]
abbrev wrD:List (Nat×DQ):=[(0,{ k:=6,L:=[0],pre:=[(0,false),(1,false),(2,false),(3,false),(4,false),(5,true)] })]
abbrev ctWr:CT:=zat ttP wrF wrD Tryz.f278 (za1 Tryz.f278)
theorem wrOk {I:List Nat}:zaY Tryz.prog wrF I:=za0 (fPutOk.i _) (za0 (dAppOk.i _) za3)
abbrev ctInts:CT:=zat ttP ebF ebD Tryz.f279 (za1 Tryz.f279)
abbrev ctSt:CT:=zat ttP [] [] Tryz.f310 (za1 Tryz.f310)
abbrev jsF:FT:=[(310,ctSt),(279,ctInts),(278,ctWr)]
abbrev jsD:List (Nat×DQ):=[(9000000,{ k:=0,L:=[310,279,278] })]
theorem jsFok:zaY Tryz.prog jsF (zbj jsD):=za0 (zad zaT za3 mixed k_ Tryz.func310 rfl k_ d_) (za0 (zad zaT (D:=ebD) (ebFok.i _) mixed k_ Tryz.func279 rfl k_ d_) (za0 (zad zaT (D:=wrD) wrOk mixed k_ Tryz.func278 rfl k_ d_) za3))
abbrev jSpre (x:Int×Int) (q:JSt):Prop:=(0<=x.1/\x.1<=1073741824)/\(-1<=x.2/\x.2<5)/\q.term<=x.1/\(x.1=q.term->q.vote=-1∨q.vote=x.2)/\q.dl<=900000000
abbrev jSpost (x:Int×Int) (q:JSt) (d:Nat) (q':JSt):Prop:=q'=⟨x.1,x.2,q.log,d⟩/\d<=q.dl+300
def ctJSet:CT:=zbu jkI jkM 3 3 0 (fun x=>[.int .i64 x.1,.int .i64 x.2]) (fun _=>[]) jSpre jSpost (fun _ _=>.int .i64 0) (fun _ _=>[])
theorem jSet_sx (x:Int×Int) (q:JSt) (y:JK) (hx:jSpre x q) (hy:jkI q y):sx ttP jsF jsD (za1 Tryz.f274) (zb3 0 (.pointer (some ⟨0,0,none⟩)::[.int .i64 x.1,.int .i64 x.2])) (jkM q y++[]) 3 (zb8 ttP Tryz.f274.results.toList (zch jkI jkM 3 3 jSpost (fun _ _=>.int .i64 0) (fun _ _=>[]) x q)):=by
 obtain⟨term,vote⟩:=x;obtain⟨ht,hv,hle,hvo,hd⟩:=hx;dsimp only at ht hv hle hvo hd;have i1:zem 1:=by unfold zem;omega
 have i2:zem term:=by unfold zem;omega
 have i3:zem vote:=by unfold zem;omega
 cases y with
 | nil S=>
  by_cases he:term=q.term
  ·by_cases hm:q.vote=-1
   ·repeat (first | refine⟨fun _=>?_,bt_⟩ | refine⟨bf_,fun _=>?_⟩ | refine⟨⟨na_,nb_,nb_⟩,?_⟩ | refine⟨fun q=>absurd q nc_,fun _=>?_⟩ | refine⟨fun _=>?_,fun q=>absurd q s_⟩ | refine⟨fun q=>absurd q s_,fun _=>?_⟩)
    refine⟨_,[],1,rfl,.inl ⟨rfl,rfl⟩,⟨by first | omega | simp,i1⟩,fun cp0 el0 hc0 he0=>?_⟩;have hb0:([]++zaC 1).length<=10:=by have h1:=zaj i1;rw[List.length_append];first | omega | (rw[List.length_nil];omega)
    generalize hB0:[]++zaC 1=b0 at hc0 he0 hb0 ⊢;clear hB0;repeat (first | refine⟨fun _=>?_,bt_⟩ | refine⟨bf_,fun _=>?_⟩ | refine⟨⟨na_,nb_,nb_⟩,?_⟩ | refine⟨fun q=>absurd q nc_,fun _=>?_⟩ | refine⟨fun _=>?_,fun q=>absurd q s_⟩ | refine⟨fun q=>absurd q s_,fun _=>?_⟩ | refine⟨⟨d_,d_,d_⟩,?_⟩)
    refine⟨_,b0,term,rfl,.inr (.inl ⟨4,cp0,rfl,⟨_,_,_,rfl,hc0,he0⟩⟩),⟨by first | omega | simp,i2⟩,fun cp1 el1 hc1 he1=>?_⟩;have hb1:(b0++zaC term).length<=20:=by have h1:=zaj i2;rw[List.length_append];first | omega | (rw[List.length_nil];omega)
    generalize hB1:b0++zaC term=b1 at hc1 he1 hb1 ⊢;clear hB1;repeat (first | refine⟨fun _=>?_,bt_⟩ | refine⟨bf_,fun _=>?_⟩ | refine⟨⟨na_,nb_,nb_⟩,?_⟩ | refine⟨fun q=>absurd q nc_,fun _=>?_⟩ | refine⟨fun _=>?_,fun q=>absurd q s_⟩ | refine⟨fun q=>absurd q s_,fun _=>?_⟩ | refine⟨⟨d_,d_,d_⟩,?_⟩)
    refine⟨_,b1,vote,rfl,.inr (.inl ⟨5,cp1,rfl,⟨_,_,_,rfl,hc1,he1⟩⟩),⟨by first | omega | simp,i3⟩,fun cp2 el2 hc2 he2=>?_⟩;have hb2:(b1++zaC vote).length<=30:=by have h1:=zaj i3;rw[List.length_append];first | omega | (rw[List.length_nil];omega)
    generalize hB2:b1++zaC vote=b2 at hc2 he2 hb2 ⊢;clear hB2;repeat (first | refine⟨fun _=>?_,bt_⟩ | refine⟨bf_,fun _=>?_⟩ | refine⟨⟨na_,nb_,nb_⟩,?_⟩ | refine⟨fun q=>absurd q nc_,fun _=>?_⟩ | refine⟨fun _=>?_,fun q=>absurd q s_⟩ | refine⟨fun q=>absurd q s_,fun _=>?_⟩ | refine⟨⟨d_,d_,d_⟩,?_⟩)
    refine⟨_,b2,rfl,.inr (.inl ⟨6,cp2,rfl,⟨_,_,_,rfl,hc2,he2⟩⟩),o_,fun bw cpw elw hw1 hw2 hw3=>?_⟩;refine⟨kp_,?_⟩;refine⟨⟨bw,cpw,cpw,elw⟩,q.dl,1,S,[(2,7),(0,1),(1,1)],⟨⟨hw2,hw3⟩,by show _+bw.length<=1000000000;omega⟩,rfl,rfl,⟨rfl,trivial⟩,rfl,fun _ q2 S2 hq2=>?_⟩;obtain rfl:q2=q.dl+bw.length:=hq2;exact⟨q.dl+bw.length,_,.nil S2,[],⟨rfl,o_⟩,hy,⟨rfl,rfl,rfl⟩,rfl,kp_⟩
   ·have hm2:=(hvo he).resolve_left hm;repeat (first | refine⟨fun _=>?_,bt_⟩ | refine⟨bf_,fun _=>?_⟩ | refine⟨⟨na_,nb_,nb_⟩,?_⟩ | refine⟨fun q=>absurd q nc_,fun _=>?_⟩ | refine⟨fun _=>?_,fun q=>absurd q s_⟩ | refine⟨fun q=>absurd q s_,fun _=>?_⟩)
    refine⟨_,[],1,rfl,.inl ⟨rfl,rfl⟩,⟨by first | omega | simp,i1⟩,fun cp0 el0 hc0 he0=>?_⟩;have hb0:([]++zaC 1).length<=10:=by have h1:=zaj i1;rw[List.length_append];first | omega | (rw[List.length_nil];omega)
    generalize hB0:[]++zaC 1=b0 at hc0 he0 hb0 ⊢;clear hB0;repeat (first | refine⟨fun _=>?_,bt_⟩ | refine⟨bf_,fun _=>?_⟩ | refine⟨⟨na_,nb_,nb_⟩,?_⟩ | refine⟨fun q=>absurd q nc_,fun _=>?_⟩ | refine⟨fun _=>?_,fun q=>absurd q s_⟩ | refine⟨fun q=>absurd q s_,fun _=>?_⟩ | refine⟨⟨d_,d_,d_⟩,?_⟩)
    refine⟨_,b0,term,rfl,.inr (.inl ⟨4,cp0,rfl,⟨_,_,_,rfl,hc0,he0⟩⟩),⟨by first | omega | simp,i2⟩,fun cp1 el1 hc1 he1=>?_⟩;have hb1:(b0++zaC term).length<=20:=by have h1:=zaj i2;rw[List.length_append];first | omega | (rw[List.length_nil];omega)
    generalize hB1:b0++zaC term=b1 at hc1 he1 hb1 ⊢;clear hB1;repeat (first | refine⟨fun _=>?_,bt_⟩ | refine⟨bf_,fun _=>?_⟩ | refine⟨⟨na_,nb_,nb_⟩,?_⟩ | refine⟨fun q=>absurd q nc_,fun _=>?_⟩ | refine⟨fun _=>?_,fun q=>absurd q s_⟩ | refine⟨fun q=>absurd q s_,fun _=>?_⟩ | refine⟨⟨d_,d_,d_⟩,?_⟩)
    refine⟨_,b1,vote,rfl,.inr (.inl ⟨5,cp1,rfl,⟨_,_,_,rfl,hc1,he1⟩⟩),⟨by first | omega | simp,i3⟩,fun cp2 el2 hc2 he2=>?_⟩;have hb2:(b1++zaC vote).length<=30:=by have h1:=zaj i3;rw[List.length_append];first | omega | (rw[List.length_nil];omega)
    generalize hB2:b1++zaC vote=b2 at hc2 he2 hb2 ⊢;clear hB2;repeat (first | refine⟨fun _=>?_,bt_⟩ | refine⟨bf_,fun _=>?_⟩ | refine⟨⟨na_,nb_,nb_⟩,?_⟩ | refine⟨fun q=>absurd q nc_,fun _=>?_⟩ | refine⟨fun _=>?_,fun q=>absurd q s_⟩ | refine⟨fun q=>absurd q s_,fun _=>?_⟩ | refine⟨⟨d_,d_,d_⟩,?_⟩)
    refine⟨_,b2,rfl,.inr (.inl ⟨6,cp2,rfl,⟨_,_,_,rfl,hc2,he2⟩⟩),o_,fun bw cpw elw hw1 hw2 hw3=>?_⟩;refine⟨kp_,?_⟩;refine⟨⟨bw,cpw,cpw,elw⟩,q.dl,1,S,[(2,7),(0,1),(1,1)],⟨⟨hw2,hw3⟩,by show _+bw.length<=1000000000;omega⟩,rfl,rfl,⟨rfl,trivial⟩,rfl,fun _ q2 S2 hq2=>?_⟩;obtain rfl:q2=q.dl+bw.length:=hq2;exact⟨q.dl+bw.length,_,.nil S2,[],⟨rfl,o_⟩,hy,⟨rfl,rfl,rfl⟩,rfl,kp_⟩
  ·repeat (first | refine⟨fun _=>?_,bt_⟩ | refine⟨bf_,fun _=>?_⟩ | refine⟨⟨na_,nb_,nb_⟩,?_⟩ | refine⟨fun q=>absurd q nc_,fun _=>?_⟩ | refine⟨fun _=>?_,fun q=>absurd q s_⟩ | refine⟨fun q=>absurd q s_,fun _=>?_⟩)
   refine⟨_,[],1,rfl,.inl ⟨rfl,rfl⟩,⟨by first | omega | simp,i1⟩,fun cp0 el0 hc0 he0=>?_⟩;have hb0:([]++zaC 1).length<=10:=by have h1:=zaj i1;rw[List.length_append];first | omega | (rw[List.length_nil];omega)
   generalize hB0:[]++zaC 1=b0 at hc0 he0 hb0 ⊢;clear hB0;repeat (first | refine⟨fun _=>?_,bt_⟩ | refine⟨bf_,fun _=>?_⟩ | refine⟨⟨na_,nb_,nb_⟩,?_⟩ | refine⟨fun q=>absurd q nc_,fun _=>?_⟩ | refine⟨fun _=>?_,fun q=>absurd q s_⟩ | refine⟨fun q=>absurd q s_,fun _=>?_⟩ | refine⟨⟨d_,d_,d_⟩,?_⟩)
   refine⟨_,b0,term,rfl,.inr (.inl ⟨4,cp0,rfl,⟨_,_,_,rfl,hc0,he0⟩⟩),⟨by first | omega | simp,i2⟩,fun cp1 el1 hc1 he1=>?_⟩;have hb1:(b0++zaC term).length<=20:=by have h1:=zaj i2;rw[List.length_append];first | omega | (rw[List.length_nil];omega)
   generalize hB1:b0++zaC term=b1 at hc1 he1 hb1 ⊢;clear hB1;repeat (first | refine⟨fun _=>?_,bt_⟩ | refine⟨bf_,fun _=>?_⟩ | refine⟨⟨na_,nb_,nb_⟩,?_⟩ | refine⟨fun q=>absurd q nc_,fun _=>?_⟩ | refine⟨fun _=>?_,fun q=>absurd q s_⟩ | refine⟨fun q=>absurd q s_,fun _=>?_⟩ | refine⟨⟨d_,d_,d_⟩,?_⟩)
   refine⟨_,b1,vote,rfl,.inr (.inl ⟨5,cp1,rfl,⟨_,_,_,rfl,hc1,he1⟩⟩),⟨by first | omega | simp,i3⟩,fun cp2 el2 hc2 he2=>?_⟩;have hb2:(b1++zaC vote).length<=30:=by have h1:=zaj i3;rw[List.length_append];first | omega | (rw[List.length_nil];omega)
   generalize hB2:b1++zaC vote=b2 at hc2 he2 hb2 ⊢;clear hB2;repeat (first | refine⟨fun _=>?_,bt_⟩ | refine⟨bf_,fun _=>?_⟩ | refine⟨⟨na_,nb_,nb_⟩,?_⟩ | refine⟨fun q=>absurd q nc_,fun _=>?_⟩ | refine⟨fun _=>?_,fun q=>absurd q s_⟩ | refine⟨fun q=>absurd q s_,fun _=>?_⟩ | refine⟨⟨d_,d_,d_⟩,?_⟩)
   refine⟨_,b2,rfl,.inr (.inl ⟨6,cp2,rfl,⟨_,_,_,rfl,hc2,he2⟩⟩),o_,fun bw cpw elw hw1 hw2 hw3=>?_⟩;refine⟨kp_,?_⟩;refine⟨⟨bw,cpw,cpw,elw⟩,q.dl,1,S,[(2,7),(0,1),(1,1)],⟨⟨hw2,hw3⟩,by show _+bw.length<=1000000000;omega⟩,rfl,rfl,⟨rfl,trivial⟩,rfl,fun _ q2 S2 hq2=>?_⟩;obtain rfl:q2=q.dl+bw.length:=hq2;exact⟨q.dl+bw.length,_,.nil S2,[],⟨rfl,o_⟩,hy,⟨rfl,rfl,rfl⟩,rfl,kp_⟩
 | row S cap el=>
  by_cases he:term=q.term
  ·by_cases hm:q.vote=-1
   ·repeat (first | refine⟨fun _=>?_,bt_⟩ | refine⟨bf_,fun _=>?_⟩ | refine⟨⟨na_,nb_,nb_⟩,?_⟩ | refine⟨fun q=>absurd q nc_,fun _=>?_⟩ | refine⟨fun _=>?_,fun q=>absurd q s_⟩ | refine⟨fun q=>absurd q s_,fun _=>?_⟩)
    refine⟨_,[],1,rfl,.inl ⟨rfl,rfl⟩,⟨by first | omega | simp,i1⟩,fun cp0 el0 hc0 he0=>?_⟩;have hb0:([]++zaC 1).length<=10:=by have h1:=zaj i1;rw[List.length_append];first | omega | (rw[List.length_nil];omega)
    generalize hB0:[]++zaC 1=b0 at hc0 he0 hb0 ⊢;clear hB0;repeat (first | refine⟨fun _=>?_,bt_⟩ | refine⟨bf_,fun _=>?_⟩ | refine⟨⟨na_,nb_,nb_⟩,?_⟩ | refine⟨fun q=>absurd q nc_,fun _=>?_⟩ | refine⟨fun _=>?_,fun q=>absurd q s_⟩ | refine⟨fun q=>absurd q s_,fun _=>?_⟩ | refine⟨⟨d_,d_,d_⟩,?_⟩)
    refine⟨_,b0,term,rfl,.inr (.inl ⟨4,cp0,rfl,⟨_,_,_,rfl,hc0,he0⟩⟩),⟨by first | omega | simp,i2⟩,fun cp1 el1 hc1 he1=>?_⟩;have hb1:(b0++zaC term).length<=20:=by have h1:=zaj i2;rw[List.length_append];first | omega | (rw[List.length_nil];omega)
    generalize hB1:b0++zaC term=b1 at hc1 he1 hb1 ⊢;clear hB1;repeat (first | refine⟨fun _=>?_,bt_⟩ | refine⟨bf_,fun _=>?_⟩ | refine⟨⟨na_,nb_,nb_⟩,?_⟩ | refine⟨fun q=>absurd q nc_,fun _=>?_⟩ | refine⟨fun _=>?_,fun q=>absurd q s_⟩ | refine⟨fun q=>absurd q s_,fun _=>?_⟩ | refine⟨⟨d_,d_,d_⟩,?_⟩)
    refine⟨_,b1,vote,rfl,.inr (.inl ⟨5,cp1,rfl,⟨_,_,_,rfl,hc1,he1⟩⟩),⟨by first | omega | simp,i3⟩,fun cp2 el2 hc2 he2=>?_⟩;have hb2:(b1++zaC vote).length<=30:=by have h1:=zaj i3;rw[List.length_append];first | omega | (rw[List.length_nil];omega)
    generalize hB2:b1++zaC vote=b2 at hc2 he2 hb2 ⊢;clear hB2;repeat (first | refine⟨fun _=>?_,bt_⟩ | refine⟨bf_,fun _=>?_⟩ | refine⟨⟨na_,nb_,nb_⟩,?_⟩ | refine⟨fun q=>absurd q nc_,fun _=>?_⟩ | refine⟨fun _=>?_,fun q=>absurd q s_⟩ | refine⟨fun q=>absurd q s_,fun _=>?_⟩ | refine⟨⟨d_,d_,d_⟩,?_⟩)
    refine⟨_,b2,rfl,.inr (.inl ⟨6,cp2,rfl,⟨_,_,_,rfl,hc2,he2⟩⟩),o_,fun bw cpw elw hw1 hw2 hw3=>?_⟩;refine⟨kp_,?_⟩;refine⟨⟨bw,cpw,cpw,elw⟩,q.dl,1,S,[(2,7),(0,1),(1,1)],⟨⟨hw2,hw3⟩,by show _+bw.length<=1000000000;omega⟩,rfl,rfl,⟨rfl,trivial⟩,rfl,fun _ q2 S2 hq2=>?_⟩;obtain rfl:q2=q.dl+bw.length:=hq2;exact⟨q.dl+bw.length,_,.row S2 cap el,[],⟨rfl,o_⟩,hy,⟨rfl,rfl,rfl⟩,rfl,kp_⟩
   ·have hm2:=(hvo he).resolve_left hm;repeat (first | refine⟨fun _=>?_,bt_⟩ | refine⟨bf_,fun _=>?_⟩ | refine⟨⟨na_,nb_,nb_⟩,?_⟩ | refine⟨fun q=>absurd q nc_,fun _=>?_⟩ | refine⟨fun _=>?_,fun q=>absurd q s_⟩ | refine⟨fun q=>absurd q s_,fun _=>?_⟩)
    refine⟨_,[],1,rfl,.inl ⟨rfl,rfl⟩,⟨by first | omega | simp,i1⟩,fun cp0 el0 hc0 he0=>?_⟩;have hb0:([]++zaC 1).length<=10:=by have h1:=zaj i1;rw[List.length_append];first | omega | (rw[List.length_nil];omega)
    generalize hB0:[]++zaC 1=b0 at hc0 he0 hb0 ⊢;clear hB0;repeat (first | refine⟨fun _=>?_,bt_⟩ | refine⟨bf_,fun _=>?_⟩ | refine⟨⟨na_,nb_,nb_⟩,?_⟩ | refine⟨fun q=>absurd q nc_,fun _=>?_⟩ | refine⟨fun _=>?_,fun q=>absurd q s_⟩ | refine⟨fun q=>absurd q s_,fun _=>?_⟩ | refine⟨⟨d_,d_,d_⟩,?_⟩)
    refine⟨_,b0,term,rfl,.inr (.inl ⟨4,cp0,rfl,⟨_,_,_,rfl,hc0,he0⟩⟩),⟨by first | omega | simp,i2⟩,fun cp1 el1 hc1 he1=>?_⟩;have hb1:(b0++zaC term).length<=20:=by have h1:=zaj i2;rw[List.length_append];first | omega | (rw[List.length_nil];omega)
    generalize hB1:b0++zaC term=b1 at hc1 he1 hb1 ⊢;clear hB1;repeat (first | refine⟨fun _=>?_,bt_⟩ | refine⟨bf_,fun _=>?_⟩ | refine⟨⟨na_,nb_,nb_⟩,?_⟩ | refine⟨fun q=>absurd q nc_,fun _=>?_⟩ | refine⟨fun _=>?_,fun q=>absurd q s_⟩ | refine⟨fun q=>absurd q s_,fun _=>?_⟩ | refine⟨⟨d_,d_,d_⟩,?_⟩)
    refine⟨_,b1,vote,rfl,.inr (.inl ⟨5,cp1,rfl,⟨_,_,_,rfl,hc1,he1⟩⟩),⟨by first | omega | simp,i3⟩,fun cp2 el2 hc2 he2=>?_⟩;have hb2:(b1++zaC vote).length<=30:=by have h1:=zaj i3;rw[List.length_append];first | omega | (rw[List.length_nil];omega)
    generalize hB2:b1++zaC vote=b2 at hc2 he2 hb2 ⊢;clear hB2;repeat (first | refine⟨fun _=>?_,bt_⟩ | refine⟨bf_,fun _=>?_⟩ | refine⟨⟨na_,nb_,nb_⟩,?_⟩ | refine⟨fun q=>absurd q nc_,fun _=>?_⟩ | refine⟨fun _=>?_,fun q=>absurd q s_⟩ | refine⟨fun q=>absurd q s_,fun _=>?_⟩ | refine⟨⟨d_,d_,d_⟩,?_⟩)
    refine⟨_,b2,rfl,.inr (.inl ⟨6,cp2,rfl,⟨_,_,_,rfl,hc2,he2⟩⟩),o_,fun bw cpw elw hw1 hw2 hw3=>?_⟩;refine⟨kp_,?_⟩;refine⟨⟨bw,cpw,cpw,elw⟩,q.dl,1,S,[(2,7),(0,1),(1,1)],⟨⟨hw2,hw3⟩,by show _+bw.length<=1000000000;omega⟩,rfl,rfl,⟨rfl,trivial⟩,rfl,fun _ q2 S2 hq2=>?_⟩;obtain rfl:q2=q.dl+bw.length:=hq2;exact⟨q.dl+bw.length,_,.row S2 cap el,[],⟨rfl,o_⟩,hy,⟨rfl,rfl,rfl⟩,rfl,kp_⟩
  ·repeat (first | refine⟨fun _=>?_,bt_⟩ | refine⟨bf_,fun _=>?_⟩ | refine⟨⟨na_,nb_,nb_⟩,?_⟩ | refine⟨fun q=>absurd q nc_,fun _=>?_⟩ | refine⟨fun _=>?_,fun q=>absurd q s_⟩ | refine⟨fun q=>absurd q s_,fun _=>?_⟩)
   refine⟨_,[],1,rfl,.inl ⟨rfl,rfl⟩,⟨by first | omega | simp,i1⟩,fun cp0 el0 hc0 he0=>?_⟩;have hb0:([]++zaC 1).length<=10:=by have h1:=zaj i1;rw[List.length_append];first | omega | (rw[List.length_nil];omega)
   generalize hB0:[]++zaC 1=b0 at hc0 he0 hb0 ⊢;clear hB0;repeat (first | refine⟨fun _=>?_,bt_⟩ | refine⟨bf_,fun _=>?_⟩ | refine⟨⟨na_,nb_,nb_⟩,?_⟩ | refine⟨fun q=>absurd q nc_,fun _=>?_⟩ | refine⟨fun _=>?_,fun q=>absurd q s_⟩ | refine⟨fun q=>absurd q s_,fun _=>?_⟩ | refine⟨⟨d_,d_,d_⟩,?_⟩)
   refine⟨_,b0,term,rfl,.inr (.inl ⟨4,cp0,rfl,⟨_,_,_,rfl,hc0,he0⟩⟩),⟨by first | omega | simp,i2⟩,fun cp1 el1 hc1 he1=>?_⟩;have hb1:(b0++zaC term).length<=20:=by have h1:=zaj i2;rw[List.length_append];first | omega | (rw[List.length_nil];omega)
   generalize hB1:b0++zaC term=b1 at hc1 he1 hb1 ⊢;clear hB1;repeat (first | refine⟨fun _=>?_,bt_⟩ | refine⟨bf_,fun _=>?_⟩ | refine⟨⟨na_,nb_,nb_⟩,?_⟩ | refine⟨fun q=>absurd q nc_,fun _=>?_⟩ | refine⟨fun _=>?_,fun q=>absurd q s_⟩ | refine⟨fun q=>absurd q s_,fun _=>?_⟩ | refine⟨⟨d_,d_,d_⟩,?_⟩)
   refine⟨_,b1,vote,rfl,.inr (.inl ⟨5,cp1,rfl,⟨_,_,_,rfl,hc1,he1⟩⟩),⟨by first | omega | simp,i3⟩,fun cp2 el2 hc2 he2=>?_⟩;have hb2:(b1++zaC vote).length<=30:=by have h1:=zaj i3;rw[List.length_append];first | omega | (rw[List.length_nil];omega)
   generalize hB2:b1++zaC vote=b2 at hc2 he2 hb2 ⊢;clear hB2;repeat (first | refine⟨fun _=>?_,bt_⟩ | refine⟨bf_,fun _=>?_⟩ | refine⟨⟨na_,nb_,nb_⟩,?_⟩ | refine⟨fun q=>absurd q nc_,fun _=>?_⟩ | refine⟨fun _=>?_,fun q=>absurd q s_⟩ | refine⟨fun q=>absurd q s_,fun _=>?_⟩ | refine⟨⟨d_,d_,d_⟩,?_⟩)
   refine⟨_,b2,rfl,.inr (.inl ⟨6,cp2,rfl,⟨_,_,_,rfl,hc2,he2⟩⟩),o_,fun bw cpw elw hw1 hw2 hw3=>?_⟩;refine⟨kp_,?_⟩;refine⟨⟨bw,cpw,cpw,elw⟩,q.dl,1,S,[(2,7),(0,1),(1,1)],⟨⟨hw2,hw3⟩,by show _+bw.length<=1000000000;omega⟩,rfl,rfl,⟨rfl,trivial⟩,rfl,fun _ q2 S2 hq2=>?_⟩;obtain rfl:q2=q.dl+bw.length:=hq2;exact⟨q.dl+bw.length,_,.row S2 cap el,[],⟨rfl,o_⟩,hy,⟨rfl,rfl,rfl⟩,rfl,kp_⟩
theorem jSetOk:CSound Tryz.prog 274 ctJSet:=zbb zaT (D:=jsD) jsFok mixed k_ Tryz.func274 rfl k_ ⟨d_,d_⟩ (fun _=>rfl) jkB (fun _=>rfl) (fun _ _=>rfl) jSet_sx
end Go.Proofs.YtjnndjnpcelafaaGreat
