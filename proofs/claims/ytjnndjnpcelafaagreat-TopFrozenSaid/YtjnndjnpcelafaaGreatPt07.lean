import Derived.Test.YtjnndjnpcelafaaGreatPt06
import Derived.Laws.OwnMore
namespace Go.Proofs.YtjnndjnpcelafaaGreat
set_option maxHeartbeats 16000000
set_option maxRecDepth 100000
open Go.RowKit
set_option linter.unusedSimpArgs false
set_option linter.unusedVariables false
instance laterNonempty {B:Nat} {w:World}:Nonempty (Later B w):=⟨⟨w,Below.refl _ _⟩⟩
section
variable {P:Program}
theorem zaE {w:World} (x:Later w.heap.size w) {f:FuncId} {args:Array Value} {v:Value}
  (h:Calls P f args x.world fun e w'=>e=.returned v/\Below x.world.heap.size x.world w'):Calls P f args x.world fun e w''=>e=.returned v/\∃ y:Later w.heap.size w,w''=y.world:=
 h.mono fun _ w' ⟨he,hb⟩=>⟨he,⟨⟨w',x.below.trans (hb.mono x.below.size)⟩,rfl⟩⟩
theorem zbq {B:Nat} {w:World} (x:Later B w) {f:FuncId} {args:Array Value} {v:Value}
  (h:Calls P f args x.world fun e w'=>e=.returned v/\x.world=w'):Calls P f args x.world fun e w''=>e=.returned v/\∃ y:Later B w,w''=y.world:=
 h.mono fun _ w' ⟨he,hb⟩=>⟨he,⟨x,hb.symm⟩⟩
end
theorem CfgOk.laterW {w:World} {x:CfgA} {c:Cfg} (h:CfgOk w (·<w.heap.size) x c) (y:Later w.heap.size w):CfgOk y.world (·<y.world.heap.size) x c:=h.belowW y.below
theorem StOk.laterW {w:World} {x:StA} {c:St} (h:StOk w (·<w.heap.size) x c) (y:Later w.heap.size w):StOk y.world (·<y.world.heap.size) x c:=h.belowW y.below
theorem zfH (x:CfgA) (c:Cfg) (a b:Int) (w:World) (hV:CfgV c) (hok:CfgOk w (·<w.heap.size) x c) :
  Calls Tryz.prog 143 #[.agg (zaH x c),.int .i64 a,.int .i64 b] w fun e w'=>e=.returned (.bool (zco c a b))/\Below w.heap.size w w':=by
 obtain⟨az,cz,ac,cc,at_,ct,av,cv,ar,cr,ao,co⟩:=x;have HV:=Lib.hid hV;have HK:=Lib.hid hok;have HL:=Lib.hid ((Below.refl w.heap.size w).alloc nl_ (.cells (zaH ⟨az,cz,ac,cc,at_,ct,av,cv,ar,cr,ao,co⟩ c) 30));have HW:=Lib.hid (HK.out.allocW (.cells (zaH ⟨az,cz,ac,cc,at_,ct,av,cv,ar,cr,ao,co⟩ c) 30));have hBx:=Blk.new w 30 (zaH ⟨az,cz,ac,cc,at_,ct,av,cv,ar,cr,ao,co⟩ c);have hg:=hBx.lt;have d0:=hBx.cell' (i:=0) (v:=.int .i64 c.regions) rfl;have d1:=hBx.cell' (i:=1) (v:=.slice az c.zones.length cz) rfl;have d2:=hBx.cell' (i:=2) (v:=.slice ac c.cells.length cc) rfl;have d3:=hBx.cell' (i:=3) (v:=.slice at_ c.tenants.length ct) rfl;have d4:=hBx.cell' (i:=4) (v:=.slice av c.versions.length cv) rfl;have d5:=hBx.cell' (i:=5) (v:=.slice ar c.replicas.length cr) rfl;have d6:=hBx.cell' (i:=6) (v:=.slice ao c.observers.length co) rfl;have d7:=hBx.cell' (i:=7) (v:=.int .i64 c.blast) rfl;have d8:=hBx.cell' (i:=8) (v:=.int .i64 c.lease) rfl;have d9:=hBx.cell' (i:=9) (v:=.int .i64 c.bake) rfl;clear hBx;unfold zaH at HL HW d0 d1 d2 d3 d4 d5 d6 d7 d8 d9 hg;simp only at HL HW d0 d1 d2 d3 d4 d5 d6 d7 d8 d9 hg;clear hok hV HK;unfold zaH;simp only;go_enter Tryz.func143,Tryz.ntmps143;go_wp2_with fail;generalize w.alloc _=W at *;have hx:∀ (y:Later W.heap.size W) b o,b<W.heap.size->y.world.cell? ⟨b,o,none⟩=W.cell? ⟨b,o,none⟩:=fun y b o h=>y.cell h
 refine zay W.heap.size k_ k_ ?_;repeat (quiet_step ((go_at_call 208;exact zaE _ (zc8 ⟨az,cz,ac,cc,at_,ct,av,cv,ar,cr,ao,co⟩ c _ _ HV.out (HW.out.laterW _)))))
 refine wpQuiet_nil ?_;rintro w' ⟨y,rfl⟩;have HY:=Lib.hid (HL.out.trans (y.below.mono (Nat.le_of_lt hg)));have HA:Hid (zco c a b=(decide (0<=zax c a)&&decide (0<=zax c b)&&decide (zax c a≠zax c b))):=Lib.hid rfl;generalize zax c a=ra at *;generalize zax c b=rb at *;clear hx d0 d1 d2 d3 d4 d5 d6 d7 d8 d9 hg;go_wp2;all_goals
  go_ret;refine⟨zak ?_,HY.out⟩;rw[HA.out,Bool.eq_iff_iff];go_light;simp;try omega
theorem zet {c:Cfg} (hV:CfgV c) {n:Nat} {t:Ten} (h:c.tenants[n]?=some t):1<=t.load/\t.load<=65536/\0<=t.shadow/\t.shadow<=t.load/\1<=t.allowed/\t.allowed<=15:=by
 have h1:=hV.ten t (List.mem_of_getElem? h);have h2:2<=zll c.regions/\zll c.regions<=16:=by unfold zll;repeat' split<;>omega
 simp[zdo,inR] at h1;omega
theorem zfG (x:CfgA) (c:Cfg) (t k:Int) (w:World) (hV:CfgV c) (hok:CfgOk w (·<w.heap.size) x c) :
  Calls Tryz.prog 142 #[.agg (zaH x c),.int .i64 t,.int .i64 k] w fun e w'=>e=.returned (.bool (ze4 c t k))/\Below w.heap.size w w':=by
 obtain⟨az,cz,ac,cc,at_,ct,av,cv,ar,cr,ao,co⟩:=x;have HV:=Lib.hid hV;have HK:=Lib.hid hok;have hnt:=hV.nt;clear hok hV;by_cases ht:0<=t/\t<c.tenants.length
 ·obtain⟨ht0,ht1⟩:=ht;obtain⟨n,rfl⟩:=Int.eq_ofNat_of_zero_le ht0;have hn:n<c.tenants.length:=by omega
  obtain⟨b,off,z,rfl,hb,hz,hcell⟩:=HK.out.tenants.row (enc:=zd8) (sz:=7) (fun _=>rfl) o_ hn;have e4:=hcell 4 (.int .i64 z.allowed) rfl;have hzb:=zet HV.out hz;have hm:ze4 c n k=zc2 z.allowed (zax c k):=by
   unfold ze4 tenAt;rw[Int.toNat_natCast,getD_some hz];simp[hn]
  have HM:=Lib.hid hm;have hb1:b<w.heap.size:=hb;have HL:=Lib.hid ((Below.refl w.heap.size w).alloc nl_ (.cells (zaH ⟨az,cz,ac,cc,some ⟨b,off,none⟩,ct,av,cv,ar,cr,ao,co⟩ c) 30));have HW:=Lib.hid (HK.out.allocW (.cells (zaH ⟨az,cz,ac,cc,some ⟨b,off,none⟩,ct,av,cv,ar,cr,ao,co⟩ c) 30));have hBx:=Blk.new w 30 (zaH ⟨az,cz,ac,cc,some ⟨b,off,none⟩,ct,av,cv,ar,cr,ao,co⟩ c);have hg:=hBx.lt;have d0:=hBx.cell' (i:=0) (v:=.int .i64 c.regions) rfl;have d1:=hBx.cell' (i:=1) (v:=.slice az c.zones.length cz) rfl;have d2:=hBx.cell' (i:=2) (v:=.slice ac c.cells.length cc) rfl;have d3:=hBx.cell' (i:=3) (v:=.slice (some ⟨b,off,none⟩) c.tenants.length ct) rfl;have d4:=hBx.cell' (i:=4) (v:=.slice av c.versions.length cv) rfl;have d5:=hBx.cell' (i:=5) (v:=.slice ar c.replicas.length cr) rfl;have d6:=hBx.cell' (i:=6) (v:=.slice ao c.observers.length co) rfl;have d7:=hBx.cell' (i:=7) (v:=.int .i64 c.blast) rfl;have d8:=hBx.cell' (i:=8) (v:=.int .i64 c.lease) rfl;have d9:=hBx.cell' (i:=9) (v:=.int .i64 c.bake) rfl;clear hBx;unfold zaH at HL HW d0 d1 d2 d3 d4 d5 d6 d7 d8 d9 hg;simp only at HL HW d0 d1 d2 d3 d4 d5 d6 d7 d8 d9 hg;have e4':(w.alloc (.cells (zaH ⟨az,cz,ac,cc,some ⟨b,off,none⟩,ct,av,cv,ar,cr,ao,co⟩ c) 30)).cell? ⟨b,off+n * 7+4,none⟩=some (.int .i64 z.allowed):=by
   rw[World.cell?_alloc_lt w _ _ (show b<w.heap.size from hb)];exact e4
  have hb2:b<(w.alloc (.cells (zaH ⟨az,cz,ac,cc,some ⟨b,off,none⟩,ct,av,cv,ar,cr,ao,co⟩ c) 30)).heap.size:=Nat.lt_trans hb1 hg;unfold zaH at *;simp only at *;clear HK hcell hz hm e4;go_enter Tryz.func142,Tryz.ntmps142;go_wp2_with fail;generalize w.alloc _=W at *;have hx:∀ (y:Later W.heap.size W) b o,b<W.heap.size->y.world.cell? ⟨b,o,none⟩=W.cell? ⟨b,o,none⟩:=fun y b o h=>y.cell h
  refine zay W.heap.size k_ k_ ?_;repeat (first | go_big_quiet_step ((first | (go_at_call 208;exact zaE _ (zc8 ⟨az,cz,ac,cc,some ⟨b,off,none⟩,ct,av,cv,ar,cr,ao,co⟩ c _ _ HV.out (HW.out.laterW _))) | (go_at_call 86;exact zbq _ (zfI _ _ _ o_ o_)))) | quiet_step ((first | (go_at_call 208;exact zaE _ (zc8 ⟨az,cz,ac,cc,some ⟨b,off,none⟩,ct,av,cv,ar,cr,ao,co⟩ c _ _ HV.out (HW.out.laterW _))) | (go_at_call 86;exact zbq _ (zfI _ _ _ o_ o_)))))
  refine wpQuiet_nil ?_;rintro w' ⟨y,rfl⟩;have HY:=Lib.hid (HL.out.trans (y.below.mono (Nat.le_of_lt hg)));clear hx d0 d1 d2 d3 d4 d5 d6 d7 d8 d9 hg e4' hb1 hb2;go_wp2;go_ret;exact⟨zak HM.out.symm,HY.out⟩
 ·have hm:ze4 c t k=false:=by unfold ze4;simp;intro h1 h2;omega
  have HM:=Lib.hid hm;have hd:decide (0<=t)=false∨(decide (0<=t)=true/\0<=t/\decide (t<(c.tenants.length:Int))=false):=by
   by_cases h0:0<=t
   ·right;refine⟨by simpa using h0,h0,?_⟩;simp;omega
   ·left;simpa using h0
  have HL:=Lib.hid ((Below.refl w.heap.size w).alloc nl_ (.cells (zaH ⟨az,cz,ac,cc,at_,ct,av,cv,ar,cr,ao,co⟩ c) 30));have HW:=Lib.hid (HK.out.allocW (.cells (zaH ⟨az,cz,ac,cc,at_,ct,av,cv,ar,cr,ao,co⟩ c) 30));have hBx:=Blk.new w 30 (zaH ⟨az,cz,ac,cc,at_,ct,av,cv,ar,cr,ao,co⟩ c);have hg:=hBx.lt;have d0:=hBx.cell' (i:=0) (v:=.int .i64 c.regions) rfl;have d1:=hBx.cell' (i:=1) (v:=.slice az c.zones.length cz) rfl;have d2:=hBx.cell' (i:=2) (v:=.slice ac c.cells.length cc) rfl;have d3:=hBx.cell' (i:=3) (v:=.slice at_ c.tenants.length ct) rfl;have d4:=hBx.cell' (i:=4) (v:=.slice av c.versions.length cv) rfl;have d5:=hBx.cell' (i:=5) (v:=.slice ar c.replicas.length cr) rfl;have d6:=hBx.cell' (i:=6) (v:=.slice ao c.observers.length co) rfl;have d7:=hBx.cell' (i:=7) (v:=.int .i64 c.blast) rfl;have d8:=hBx.cell' (i:=8) (v:=.int .i64 c.lease) rfl;have d9:=hBx.cell' (i:=9) (v:=.int .i64 c.bake) rfl;clear hBx;unfold zaH at HL HW d0 d1 d2 d3 d4 d5 d6 d7 d8 d9 hg;simp only at HL HW d0 d1 d2 d3 d4 d5 d6 d7 d8 d9 hg;unfold zaH;simp only;clear hm ht HK;rcases hd with hd | ⟨hd1,hd2,hd3⟩
  all_goals
   go_enter Tryz.func142,Tryz.ntmps142;go_wp2_with fail;generalize w.alloc _=W at *;have hx:∀ (y:Later W.heap.size W) b o,b<W.heap.size->y.world.cell? ⟨b,o,none⟩=W.cell? ⟨b,o,none⟩:=fun y b o h=>y.cell h
   refine zay W.heap.size k_ k_ ?_;repeat (first | go_big_quiet_step (fail) | quiet_step (fail))
   refine wpQuiet_nil ?_;rintro w' ⟨y,rfl⟩;have HY:=Lib.hid (HL.out.trans (y.below.mono (Nat.le_of_lt hg)));clear hx d0 d1 d2 d3 d4 d5 d6 d7 d8 d9 hg;go_wp2;go_ret;exact⟨zak HM.out.symm,HY.out⟩
def zaF (p:Nat->Bool) (k:Nat):List Int:=((List.range k).filter p).map Int.ofNat
theorem zdP (p:Nat->Bool) (k:Nat):zaF p (k+1)=if p k then zaF p k++[(k:Int)] else zaF p k:=by
 unfold zaF;rw[List.range_succ,List.filter_append,List.map_append];by_cases h:p k<;>simp[h]
theorem zcC (p:Nat->Bool) (k:Nat):(zaF p k).length<=k:=by
 unfold zaF;rw[List.length_map];exact Nat.le_trans (List.length_filter_le _ _) (by simp)
theorem zdw:(Tryz.prog.info? 3).map (fun i=>(i.zero,i.size,i.bytes))=some (some (.int .i64 0),1,8):=by kernel_rfl
theorem zdT {α:Type} (enc:α->List Value) (l:List α) (a:α):zaJ enc l++enc a=zaJ enc (l++[a]):=by simp[zaJ]
theorem zeB {w:World} {base base':Nat} {e:TypeId} {size:Nat} {v:Value} {n:Nat} {xs:List Value} (h:w.ownsRow base e size v n xs) (hb:base'<=base):w.ownsRow base' e size v n xs:=by
 refine⟨h.1,h.2.imp id ?_⟩;rintro⟨g,cap,cur,rfl,hg,rest⟩;exact⟨g,cap,cur,rfl,Nat.le_trans hb hg,rest⟩
def zeP (w:World) (l:List Int) (e:Ending) (w':World):Prop:=
 ∃ (A:Option Addr) (cp:Nat),e=.returned (.slice A l.length cp)/\w'.ownsRow w.heap.size 3 1 (.slice A l.length cp) l.length (zaJ zaw l)/\Below w.heap.size w w'
def zeW (W:World) (p:Nat->Bool) (N gk:Nat) (so si:Value) (wr:World):Prop:=
 ∃ (k:Nat) (A:Option Addr) (cp:Nat),gk+k=N/\si=.int .i64 k/\so=.slice A (zaF p k).length cp/\wr.ownsRow W.heap.size 3 1 (.slice A (zaF p k).length cp) (zaF p k).length (zaJ zaw (zaF p k))/\Below W.heap.size W wr
theorem ziG (x:CfgA) (c:Cfg) (t:Int) (w:World) (hV:CfgV c) (hok:CfgOk w (·<w.heap.size) x c) :
  Calls Tryz.prog 69 #[.agg (zaH x c),.int .i64 t] w (zeP w (zaF (fun (n:Nat)=>ze4 c t n) c.cells.length)):=by
 obtain⟨az,cz,ac,cc,at_,ct,av,cv,ar,cr,ao,co⟩:=x;obtain⟨ii,hii,hi0,hi1,hi2⟩:=info_parts zdw;have HV:=Lib.hid hV;have HK:=Lib.hid hok;have hnc:=hV.nc;have HL:=Lib.hid ((Below.refl w.heap.size w).alloc nl_ (.cells (zaH ⟨az,cz,ac,cc,at_,ct,av,cv,ar,cr,ao,co⟩ c) 30));have HW:=Lib.hid (HK.out.allocW (.cells (zaH ⟨az,cz,ac,cc,at_,ct,av,cv,ar,cr,ao,co⟩ c) 30));have hBx:=Blk.new w 30 (zaH ⟨az,cz,ac,cc,at_,ct,av,cv,ar,cr,ao,co⟩ c);have hg:=hBx.lt;have d0:=hBx.cell' (i:=0) (v:=.int .i64 c.regions) rfl;have d1:=hBx.cell' (i:=1) (v:=.slice az c.zones.length cz) rfl;have d2:=hBx.cell' (i:=2) (v:=.slice ac c.cells.length cc) rfl;have d3:=hBx.cell' (i:=3) (v:=.slice at_ c.tenants.length ct) rfl;have d4:=hBx.cell' (i:=4) (v:=.slice av c.versions.length cv) rfl;have d5:=hBx.cell' (i:=5) (v:=.slice ar c.replicas.length cr) rfl;have d6:=hBx.cell' (i:=6) (v:=.slice ao c.observers.length co) rfl;have d7:=hBx.cell' (i:=7) (v:=.int .i64 c.blast) rfl;have d8:=hBx.cell' (i:=8) (v:=.int .i64 c.lease) rfl;have d9:=hBx.cell' (i:=9) (v:=.int .i64 c.bake) rfl;clear hBx;unfold zaH at HL HW d0 d1 d2 d3 d4 d5 d6 d7 d8 d9 hg;simp only at HL HW d0 d1 d2 d3 d4 d5 d6 d7 d8 d9 hg;clear hok hV HK;obtain⟨pd,hpd⟩:∃ pd:Nat->Bool,pd=fun (n:Nat)=>ze4 c t n:=⟨_,rfl⟩
 have HP:=Lib.hid hpd;rw[← hpd];clear hpd;unfold zaH;simp only;go_enter Tryz.func69,Tryz.ntmps69;go_wp2_with fail;generalize w.alloc _=W at *;go_loopg [5,6] c.cells.length (fun gk so si wr=>zeW W pd c.cells.length gk so si wr);case atStart=>exact⟨0,none,0,rfl,rfl,rfl,World.ownsRow_nil _ _ _ _,Below.refl _ _⟩
 case round=>
  rename_i J K aJ aK
  obtain⟨k,A,cp,hgk,rfl,rfl,hown,hbel⟩:=hrel;have HO:=Lib.hid hown;have HB:=Lib.hid hbel;have hsz:=hbel.size;have hlen:=zcC pd k;obtain⟨hc,hf⟩:=zf2 hbel;clear hown hbel hf;by_cases hk:k<c.cells.length
  ·have hlt:(k:Int)<(c.cells.length:Int):=by omega
   have hsucc:=zdP pd k;have HS:=Lib.hid hsucc;clear hsucc;go_wp2_with fail;refine (zfG ⟨az,cz,ac,cc,at_,ct,av,cv,ar,cr,ao,co⟩ c t k wr HV.out (HW.out.belowW HB.out)).mono ?_;rintro e wz ⟨rfl,hb1⟩;have HB1:=Lib.hid (HB.out.trans (hb1.mono hsz));have HO1:=Lib.hid (zcY HO.out hb1 fun j hj=>(HO.out.lt j hj).2);clear hb1;by_cases hp:pd k=true
   ·have hp2:ze4 c t k=true:=by rw[HP.out] at hp;exact hp
    clear hc;go_wp2_with (at_builtin;refine wpList_append_lies _ rfl _ _ _ rfl W.heap.size 3 ii _ 1 8 Tryz.underlying22 hii hi0 hi1 hi2 rfl o_ _ (zaF pd k).length (zaJ zaw (zaF pd k)) rfl (HO1.out.alloc _) ⟨wz.heap.size,0,none⟩ 1 1 [.int .i64 k] rfl rfl ?c1 ?c2 ?c0 ?c3 ?c4 ?c5 (wz.heap.size+1) ?c6 ?_);case c1=>exact World.news_of_block (cs:=#[.int .i64 k]) (heap_alloc_new _ _)
    case c2=>simp[Value.oneCell']
    case c0=>omega
    case c3=>unfold maxLen;omega
    case c4=>omega
    case c5=>have:=HB1.out.size;simp;omega
    case c6=>simp
    intro gg cq w9 hown9 hg9 hat9 hlt9;have HB9:=Lib.hid ((HB1.out.alloc HB1.out.size _).grown hg9 (by have:=HB1.out.size;simp;omega) (fun j hj=>(HO1.out.lt j hj).1));have HX:Hid (w9.ownsRow W.heap.size 3 1 (.slice (some ⟨gg,0,none⟩) (zaF pd (k+1)).length cq) (zaF pd (k+1)).length (zaJ zaw (zaF pd (k+1)))):=by
     refine Lib.hid ?_;rw[HS.out,if_pos hp,← zdT,List.length_append];exact hown9
    have hl9:(zaF pd (k+1)).length=(zaF pd k).length+1:=by rw[HS.out,if_pos hp,List.length_append];rfl
    have HL9:=Lib.hid hl9;clear hown9 hg9 hat9 hlt9 HO1 HB1 HO HB hl9;go_wp2;go_roundg (gk-1);case measure=>omega
    case rel=>exact⟨k+1,some ⟨gg,0,none⟩,cq,o_,by go_num,by rw[HL9.out],HX.out,HB9.out⟩
   ·have hp:pd k=false:=by simpa using hp
    have hp2:ze4 c t k=false:=by rw[HP.out] at hp;exact hp
    clear hc;have HX:Hid (wz.ownsRow W.heap.size 3 1 (.slice A (zaF pd (k+1)).length cp) (zaF pd (k+1)).length (zaJ zaw (zaF pd (k+1)))):=by
     refine Lib.hid ?_;rw[HS.out,if_neg (by simp[hp])];exact HO1.out
    have hl9:(zaF pd (k+1)).length=(zaF pd k).length:=by rw[HS.out,if_neg (by simp[hp])]
    have HL9:=Lib.hid hl9;clear HO HB hl9;go_wp2;go_roundg (gk-1);case measure=>omega
    case rel=>exact⟨k+1,A,cp,o_,by go_num,by rw[HL9.out],HX.out,HB1.out⟩
  ·have hge:¬ (k:Int)<(c.cells.length:Int):=by omega
   obtain rfl:k=c.cells.length:=by omega
   go_wp2;go_ret;exact⟨A,cp,rfl,zeB HO.out (Nat.le_of_lt hg),HL.out.trans (HB.out.mono (Nat.le_of_lt hg))⟩
def zgP (W:World) (p:Nat->Bool) (N gk:Nat) (so si:Value) (wr:World):Prop:=
 ∃ (k:Nat) (A:Option Addr) (cp:Nat),gk+k=N/\si=.int .i64 k/\so=.slice A (zaF p k).length cp/\wr.ownsRow W.heap.size 3 1 (.slice A (zaF p k).length cp) (zaF p k).length (zaJ zaw (zaF p k))/\Below W.heap.size W wr
theorem zgc (x:CfgA) (c:Cfg) (t h:Int) (w:World) (hV:CfgV c) (hok:CfgOk w (·<w.heap.size) x c) :
  Calls Tryz.prog 70 #[.agg (zaH x c),.int .i64 t,.int .i64 h] w (zeP w (zaF (fun (n:Nat)=>(ze4 c t n&&zco c h n)) c.cells.length)):=by
 obtain⟨az,cz,ac,cc,at_,ct,av,cv,ar,cr,ao,co⟩:=x;obtain⟨ii,hii,hi0,hi1,hi2⟩:=info_parts zdw;have HV:=Lib.hid hV;have HK:=Lib.hid hok;have hnc:=hV.nc;have HL:=Lib.hid ((Below.refl w.heap.size w).alloc nl_ (.cells (zaH ⟨az,cz,ac,cc,at_,ct,av,cv,ar,cr,ao,co⟩ c) 30));have HW:=Lib.hid (HK.out.allocW (.cells (zaH ⟨az,cz,ac,cc,at_,ct,av,cv,ar,cr,ao,co⟩ c) 30));have hBx:=Blk.new w 30 (zaH ⟨az,cz,ac,cc,at_,ct,av,cv,ar,cr,ao,co⟩ c);have hg:=hBx.lt;have d0:=hBx.cell' (i:=0) (v:=.int .i64 c.regions) rfl;have d1:=hBx.cell' (i:=1) (v:=.slice az c.zones.length cz) rfl;have d2:=hBx.cell' (i:=2) (v:=.slice ac c.cells.length cc) rfl;have d3:=hBx.cell' (i:=3) (v:=.slice at_ c.tenants.length ct) rfl;have d4:=hBx.cell' (i:=4) (v:=.slice av c.versions.length cv) rfl;have d5:=hBx.cell' (i:=5) (v:=.slice ar c.replicas.length cr) rfl;have d6:=hBx.cell' (i:=6) (v:=.slice ao c.observers.length co) rfl;have d7:=hBx.cell' (i:=7) (v:=.int .i64 c.blast) rfl;have d8:=hBx.cell' (i:=8) (v:=.int .i64 c.lease) rfl;have d9:=hBx.cell' (i:=9) (v:=.int .i64 c.bake) rfl;clear hBx;unfold zaH at HL HW d0 d1 d2 d3 d4 d5 d6 d7 d8 d9 hg;simp only at HL HW d0 d1 d2 d3 d4 d5 d6 d7 d8 d9 hg;clear hok hV HK;obtain⟨pd,hpd⟩:∃ pd:Nat->Bool,pd=fun (n:Nat)=>(ze4 c t n&&zco c h n):=⟨_,rfl⟩
 have HP:=Lib.hid hpd;rw[← hpd];clear hpd;unfold zaH;simp only;go_enter Tryz.func70,Tryz.ntmps70;go_wp2_with fail;generalize w.alloc _=W at *;go_loopg [7,8] c.cells.length (fun gk so si wr=>zgP W pd c.cells.length gk so si wr);case atStart=>exact⟨0,none,0,rfl,rfl,rfl,World.ownsRow_nil _ _ _ _,Below.refl _ _⟩
 case round=>
  rename_i J K aJ aK
  obtain⟨k,A,cp,hgk,rfl,rfl,hown,hbel⟩:=hrel;have HO:=Lib.hid hown;have HB:=Lib.hid hbel;have hsz:=hbel.size;have hlen:=zcC pd k;obtain⟨hc,hf⟩:=zf2 hbel;clear hown hbel hf;by_cases hk:k<c.cells.length
  ·have hlt:(k:Int)<(c.cells.length:Int):=by omega
   have hsucc:=zdP pd k;have HS:=Lib.hid hsucc;clear hsucc;go_wp2_with fail;refine (zfG ⟨az,cz,ac,cc,at_,ct,av,cv,ar,cr,ao,co⟩ c t k wr HV.out (HW.out.belowW HB.out)).mono ?_;rintro e wy ⟨rfl,hb0⟩;have HB0:=Lib.hid (HB.out.trans (hb0.mono hsz));have HO0:=Lib.hid (zcY HO.out hb0 fun j hj=>(HO.out.lt j hj).2);obtain⟨hc0,hf0⟩:=zf2 HB0.out;clear hb0 hf0 hc;by_cases hm:ze4 c t k=true
   ·go_wp2_with fail;refine (zfH ⟨az,cz,ac,cc,at_,ct,av,cv,ar,cr,ao,co⟩ c h k wy HV.out (HW.out.belowW HB0.out)).mono ?_;rintro e wz ⟨rfl,hb1⟩;have HB1:=Lib.hid (HB0.out.trans (hb1.mono HB0.out.size));have HO1:=Lib.hid (zcY HO0.out hb1 fun j hj=>(HO0.out.lt j hj).2);clear hb1 HB0 HO0;have hc:True:=trivial;clear hc0;by_cases hp:pd k=true
    ·have hp2:zco c h k=true:=by rw[HP.out] at hp;simp[hm] at hp;exact hp
     clear hc;go_wp2_with (at_builtin;refine wpList_append_lies _ rfl _ _ _ rfl W.heap.size 3 ii _ 1 8 Tryz.underlying22 hii hi0 hi1 hi2 rfl o_ _ (zaF pd k).length (zaJ zaw (zaF pd k)) rfl (HO1.out.alloc _) ⟨wz.heap.size,0,none⟩ 1 1 [.int .i64 k] rfl rfl ?c1 ?c2 ?c0 ?c3 ?c4 ?c5 (wz.heap.size+1) ?c6 ?_);case c1=>exact World.news_of_block (cs:=#[.int .i64 k]) (heap_alloc_new _ _)
     case c2=>simp[Value.oneCell']
     case c0=>omega
     case c3=>unfold maxLen;omega
     case c4=>omega
     case c5=>have:=HB1.out.size;simp;omega
     case c6=>simp
     intro gg cq w9 hown9 hg9 hat9 hlt9;have HB9:=Lib.hid ((HB1.out.alloc HB1.out.size _).grown hg9 (by have:=HB1.out.size;simp;omega) (fun j hj=>(HO1.out.lt j hj).1));have HX:Hid (w9.ownsRow W.heap.size 3 1 (.slice (some ⟨gg,0,none⟩) (zaF pd (k+1)).length cq) (zaF pd (k+1)).length (zaJ zaw (zaF pd (k+1)))):=by
      refine Lib.hid ?_;rw[HS.out,if_pos hp,← zdT,List.length_append];exact hown9
     have hl9:(zaF pd (k+1)).length=(zaF pd k).length+1:=by rw[HS.out,if_pos hp,List.length_append];rfl
     have HL9:=Lib.hid hl9;clear hown9 hg9 hat9 hlt9 HO1 HB1 HO HB hl9;go_wp2;go_roundg (gk-1);case measure=>omega
     case rel=>exact⟨k+1,some ⟨gg,0,none⟩,cq,o_,by go_num,by rw[HL9.out],HX.out,HB9.out⟩
    ·have hp:pd k=false:=by simpa using hp
     have hp2:zco c h k=false:=by rw[HP.out] at hp;simp[hm] at hp;exact hp
     clear hc;have HX:Hid (wz.ownsRow W.heap.size 3 1 (.slice A (zaF pd (k+1)).length cp) (zaF pd (k+1)).length (zaJ zaw (zaF pd (k+1)))):=by
      refine Lib.hid ?_;rw[HS.out,if_neg (by simp[hp])];exact HO1.out
     have hl9:(zaF pd (k+1)).length=(zaF pd k).length:=by rw[HS.out,if_neg (by simp[hp])]
     have HL9:=Lib.hid hl9;clear HO HB hl9;go_wp2;go_roundg (gk-1);case measure=>omega
     case rel=>exact⟨k+1,A,cp,o_,by go_num,by rw[HL9.out],HX.out,HB1.out⟩
   ·have hm:ze4 c t k=false:=by simpa using hm
    have hp:pd k=false:=by rw[HP.out];simp[hm]
    have HB1:=HB0;have HO1:=HO0;obtain⟨wz,rfl⟩:∃ wz,wz=wy:=⟨_,rfl⟩;clear HB0 HO0;have hc:True:=trivial;clear hc0;clear hc;have HX:Hid (wz.ownsRow W.heap.size 3 1 (.slice A (zaF pd (k+1)).length cp) (zaF pd (k+1)).length (zaJ zaw (zaF pd (k+1)))):=by
     refine Lib.hid ?_;rw[HS.out,if_neg (by simp[hp])];exact HO1.out
    have hl9:(zaF pd (k+1)).length=(zaF pd k).length:=by rw[HS.out,if_neg (by simp[hp])]
    have HL9:=Lib.hid hl9;clear HO HB hl9;go_wp2;go_roundg (gk-1);case measure=>omega
    case rel=>exact⟨k+1,A,cp,o_,by go_num,by rw[HL9.out],HX.out,HB1.out⟩
  ·have hge:¬ (k:Int)<(c.cells.length:Int):=by omega
   obtain rfl:k=c.cells.length:=by omega
   go_wp2;go_ret;exact⟨A,cp,rfl,zeB HO.out (Nat.le_of_lt hg),HL.out.trans (HB.out.mono (Nat.le_of_lt hg))⟩
end Go.Proofs.YtjnndjnpcelafaaGreat
