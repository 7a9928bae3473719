import Derived.Test.YtdjkeplekchfdaaPn13
import Derived.Test.YtdjkeplekchfdaaRows
namespace Go.Proofs.Ytdjkeplekchfdaa
open Go.RowKit
set_option linter.unusedSimpArgs false
set_option linter.unusedVariables false
/-! One start for all: two lists of numbers,a configuration,a list of entries,two states. -/
abbrev CNu:CN:=⟨2,3,4,5,6,7,3⟩
abbrev SNu:SN:=⟨9,10,3⟩
abbrev SNv:SN:=⟨11,12,3⟩
structure UA where
 a0:Option Addr:=none
 a1:Option Addr:=none
 x:CfgA:=noX
 ae:Option Addr:=none
 y:StA:=noA
 y2:StA:=noA
structure UD where
 l0:List Int:=[]
 l1:List Int:=[]
 c:Cfg:=noC
 es:List Ent:=[]
 s:St:=noS
 s2:St:=noS
abbrev entRow (es:List Ent):ABlk:=rowOfL 3 9 entC default es
abbrev uniM (d:UD):AM:=(0,intRow d.l0)::(1,intRow d.l1)::(cfgM CNu d.c++((8,entRow d.es)::(stM SNu d.s++stM SNv d.s2)))
def upl (a:UA) (d:UD):Nat→Pl:=fun j=>match j with
 | 0=>⟨a.a0,1,d.l0.length,false,noSub⟩
 | 1=>⟨a.a1,1,d.l1.length,false,noSub⟩
 | 2=>⟨a.x.az,1,d.c.zones.length,false,noSub⟩
 | 3=>⟨a.x.ac,2,d.c.cells.length,false,noSub⟩
 | 4=>⟨a.x.at_,7,d.c.tenants.length,false,noSub⟩
 | 5=>⟨a.x.av,2,d.c.versions.length,false,noSub⟩
 | 6=>⟨a.x.ar,1,d.c.replicas.length,false,noSub⟩
 | 7=>⟨a.x.ao,1,d.c.observers.length,false,noSub⟩
 | 8=>⟨a.ae,9,d.es.length,false,noSub⟩
 | 9=>⟨a.y.at_,12,d.s.tenants.length,false,noSub⟩
 | 10=>⟨a.y.ac,4,d.s.cells.length,false,noSub⟩
 | 11=>⟨a.y2.at_,12,d.s2.tenants.length,false,noSub⟩
 | _=>⟨a.y2.ac,4,d.s2.cells.length,false,noSub⟩
structure UOk (w:World) (a:UA) (d:UD):Prop where
 r0:Rd w (·<w.heap.size) a.a0 (flat intC d.l0):=by exact fun h=>absurd rfl h
 r1:Rd w (·<w.heap.size) a.a1 (flat intC d.l1):=by exact fun h=>absurd rfl h
 c:CfgOk w (·<w.heap.size) a.x d.c:=by exact noC_ok _ _
 e:Rd w (·<w.heap.size) a.ae (flat entC d.es):=by exact fun h=>absurd rfl h
 s:StOk w (·<w.heap.size) a.y d.s:=by exact noS_ok _ _
 s2:StOk w (·<w.heap.size) a.y2 d.s2:=by exact noS_ok _ _
theorem upl_cfg (a:UA) (d:UD):den (upl a d) (cfgV CNu (ck a.x) d.c)=.agg (cfgC a.x d.c):=by rw[den_cfg];rfl
theorem upl_cfg_ok (a:UA) (d:UD):okV (upl a d) 13 (cfgV CNu (ck a.x) d.c):=by
 intro u hu
 simp at hu
 rcases hu with rfl | rfl | rfl | rfl | rfl | rfl | rfl | rfl | rfl | rfl<;>first | trivial | exact⟨by decide,rfl⟩
theorem uni_calls {τ:TT} (hτ:TTok Try.prog τ) {f:FuncId} {fn:Func} {F:FT} {D:List (Nat×DQ)} (hF:FTokI Try.prog F (inlOf D)) (hf:(Try.prog).funcs[f]?=some fn) (hb:fn.body=some (bodyOf fn)) (hcode:codeB fn.ntmps D (bodyOf fn)=true) {vs:List Value} (hn:Nat.ble vs.length fn.ntmps=true)
  (a:UA) (d:UD) (w:World) (hu:UOk w a d) (hv:∀ v ∈ vs,okV (upl a d) 13 v) {R:Value→AM→Nat→Prop}
  (h:sx τ F D (bodyOf fn) (argF 0 vs) (uniM d) 13 (endx τ fn.results.toList R)) :
  Calls Try.prog f (vs.map (den (upl a d))).toArray w fun e w'=>∃ v mem' nx' ρ',e=.returned (den ρ' v)∧R v mem' nx'∧okV ρ' nx' v∧MemAt { w0:=w,bor:=[],n0:=13,ρ0:=upl a d,nt:=fn.ntmps } ρ' mem' nx' w'∧Below w.heap.size w w':=by
 have hpc:CfgPl (upl a d) CNu a.x d.c:=⟨rfl,rfl,rfl,rfl,rfl,rfl⟩
 have hps:StPl (upl a d) SNu a.y d.s:=⟨rfl,rfl⟩
 have hps2:StPl (upl a d) SNv a.y2 d.s2:=⟨rfl,rfl⟩
 have q2:=st_blks (C:={ w0:=w,bor:=[],n0:=13,ρ0:=upl a d,nt:=fn.ntmps }) (nx:=13) (r:=[]) hps2 hu.s2 (fun b hb=>hb) (by decide) trivial
 have q1:=st_blks (C:={ w0:=w,bor:=[],n0:=13,ρ0:=upl a d,nt:=fn.ntmps }) (nx:=13) hps hu.s (fun b hb=>hb) (by decide) q2
 have q0:blksOk { w0:=w,bor:=[],n0:=13,ρ0:=upl a d,nt:=fn.ntmps } (upl a d) 13 w ((8,entRow d.es)::(stM SNu d.s++(stM SNv d.s2++[]))):=⟨⟨by decide,rfl,row_of_rd (enc:=entC) (sz:=9) (fun _=>rfl) (by omega) entC_plain default rfl hu.e (fun b hb=>hb)⟩,q1⟩
 have qc:=cfg_blks (C:={ w0:=w,bor:=[],n0:=13,ρ0:=upl a d,nt:=fn.ntmps }) (nx:=13) hpc hu.c (fun b hb=>hb) (by decide) q0
 have hm:MemAt { w0:=w,bor:=[],n0:=13,ρ0:=upl a d,nt:=fn.ntmps } (upl a d) (uniM d) 13 w:=MemAt.rows trivial
  ⟨⟨by decide,rfl,row_of_rd (enc:=intC) (sz:=1) (fun _=>rfl) (by omega) intC_plain 0 rfl hu.r0 (fun b hb=>hb)⟩,⟨by decide,rfl,row_of_rd (enc:=intC) (sz:=1) (fun _=>rfl) (by omega) intC_plain 0 rfl hu.r1 (fun b hb=>hb)⟩,qc⟩
 refine (calls_sxI hτ hF mixed hf hb hcode (vs:=vs) hn ⟨rfl,rfl⟩ rfl hm hv h).mono ?_
 rintro e w' ⟨v,mem',nx',ρ',rfl,hR,hv',hm'⟩
 exact⟨v,mem',nx',ρ',rfl,hR,hv',hm',⟨hm'.rest.os,hm'.rest.tape,hm'.rest.output,hm'.rest.size,fun b hlt=>hm'.rest.block b hlt (by simp)⟩⟩
structure HasCfg (mem:AM) (N:CN) (c:Cfg):Prop where
 rz:HasRow mem N.z 1 intC 0 c.zones
 rc:HasRow mem N.c 2 pairC (0,0) c.cells
 rt:HasRow mem N.t 7 tenC default c.tenants
 rv:HasRow mem N.v 2 pairC (0,0) c.versions
 rr:HasRow mem N.r 1 intC 0 c.replicas
 ro:HasRow mem N.o 1 intC 0 c.observers
theorem HasCfg.keeps {mem:AM} {N:CN} {c:Cfg} (h:keeps mem (cfgM N c)):HasCfg mem N c:=
 ⟨⟨_,_,_,h.1,Nat.le_refl _,fun k hk=>rfl⟩,⟨_,_,_,h.2.1,Nat.le_refl _,fun k hk=>rfl⟩,⟨_,_,_,h.2.2.1,Nat.le_refl _,fun k hk=>rfl⟩,⟨_,_,_,h.2.2.2.1,Nat.le_refl _,fun k hk=>rfl⟩,⟨_,_,_,h.2.2.2.2.1,Nat.le_refl _,fun k hk=>rfl⟩,⟨_,_,_,h.2.2.2.2.2.1,Nat.le_refl _,fun k hk=>rfl⟩⟩
theorem Sat.cfgH {C:Ctx} {ρ:Nat→Pl} {fr:AF} {mem:AM} {nx:Nat} {a:Act} {w:World} (h:Sat C ρ fr mem nx a w) {N:CN} {x:CfgK} {c:Cfg} (hk:HasCfg mem N c):CfgOk w (·<w.heap.size) (cfgX ρ N x) c:=
 ⟨h.hasRd (enc:=intC) (sz:=1) (fun _=>rfl) (by omega) hk.rz,h.hasRd (enc:=pairC) (sz:=2) (fun _=>rfl) (by omega) hk.rc,h.hasRd (enc:=tenC) (sz:=7) (fun _=>rfl) (by omega) hk.rt,h.hasRd (enc:=pairC) (sz:=2) (fun _=>rfl) (by omega) hk.rv,h.hasRd (enc:=intC) (sz:=1) (fun _=>rfl) (by omega) hk.rr,h.hasRd (enc:=intC) (sz:=1) (fun _=>rfl) (by omega) hk.ro⟩
/-! atlas.Make,ref15.Make -/
theorem setEl_ne {el:Nat→List Value} {k j:Nat} {l:List Value} (h:j≠k):setEl el k l j=el j:=by
 unfold setEl
 rw[show Nat.beq j k=false from Bool.eq_false_iff.2 fun q=>h (Nat.eq_of_beq_eq_true q)]
set_option maxHeartbeats 400000 in
theorem topoWithin_any (n lo hi:Int) (w:World) :
  Calls Try.prog 121 #[.int .i64 n,.int .i64 lo,.int .i64 hi] w fun e w'=>e=.returned (.bool (inR n lo hi))∧w=w':=by
 go_enter Try.func121,Try.ntmps121
 go_wp2
 all_goals
  go_ret
  refine⟨ret_bool ?_,rfl⟩
  go_light
  simp[inR, *]<;>omega
set_option maxHeartbeats 1000000 in
set_option maxRecDepth 100000 in
theorem topoNumbers_any (x:CfgA) (c:Cfg) (w:World) (hl:Lens c) :
  Calls Try.prog 87 #[.agg (cfgC x c)] w fun e w'=>e=.returned (.bool (limitsB c))∧Below w.heap.size w w':=by
 obtain⟨l1,l2,l3,l4,l5,l6⟩:=hl
 unfold maxLen at *
 unfold cfgC
 go_enter Try.func87,Try.ntmps87
 go_wp2_with (go_at_call 121;refine (topoWithin_any _ _ _ _).mono ?_;rintro e w' ⟨rfl,rfl⟩)
 all_goals
  go_ret
  refine⟨ret_bool ?_,(Below.refl _ _).alloc (Nat.le_refl _) _⟩
  go_light
  simp[limitsB, *]<;>omega
structure CfgBox (w:World) (g:Nat) (x:CfgA) (c:Cfg) (wr:World):Prop where
 box:Blk wr g 28 (cfgC x c)
 ok:CfgOk wr (·<g) x c
 below:Below w.heap.size w wr
 le:w.heap.size≤g
theorem CfgBox.alloc {w:World} {g:Nat} {x:CfgA} {c:Cfg} {wr:World} (h:CfgBox w g x c wr) (o:Obj):CfgBox w g x c (wr.alloc o):=
 ⟨h.box.alloc o,h.ok.keep fun k hk=>Below.heap_alloc _ _ _ (Nat.lt_trans hk h.box.lt),h.below.alloc h.below.size o,h.le⟩
theorem CfgBox.new {w:World} {x:CfgA} {c:Cfg} (h:CfgOk w (·<w.heap.size) x c):CfgBox w w.heap.size x c (w.alloc (.cells (cfgC x c) 28)):=
 ⟨Blk.new _ _ _,h.keep fun k hk=>Below.heap_alloc _ _ _ hk,(Below.refl _ _).alloc (Nat.le_refl _) _,Nat.le_refl _⟩
theorem take_all {α:Type} (l:List α) (p:α→Bool) (k:Nat) (x:α) (h:l[k]?=some x):(l.take (k+1)).all p=((l.take k).all p&&p x):=by
 obtain⟨hk,he⟩:=List.getElem?_eq_some_iff.1 h
 rw[List.take_succ_eq_append_getElem hk,List.all_append,he]
 simp
theorem take_all_yes {α:Type} {l:List α} {p:α→Bool} {k:Nat} {x:α} (h:l[k]?=some x) (ha:(l.take k).all p=true) (hp:p x=true):(l.take (k+1)).all p=true:=by
 rw[take_all l p k x h,ha,hp];rfl
theorem all_no {α:Type} {l:List α} {p:α→Bool} {k:Nat} {x:α} (h:l[k]?=some x) (hp:p x=false):l.all p=false:=by
 rw[List.all_eq_false]
 exact⟨x,List.mem_of_getElem? h,by simp[hp]⟩
set_option maxHeartbeats 1000000 in
set_option maxRecDepth 100000 in
theorem topoPlaces_any (x:CfgA) (c:Cfg) (w:World) (hl:limitsB c=true) (hok:CfgOk w (·<w.heap.size) x c) :
  Calls Try.prog 88 #[.agg (cfgC x c)] w fun e w'=>e=.returned (.bool (placesB c))∧Below w.heap.size w w':=by
 obtain⟨az,cz,ac,cc,at_,ct,av,cv,ar,cr,ao,co⟩:=x
 have hbox:=CfgBox.new hok
 have HL:=Lib.hid hl
 clear hl hok
 have hlz:c.zones.length≤8:=by have:=HL.out;simp[limitsB,inR] at this;omega
 have hlc:c.cells.length≤16:=by have:=HL.out;simp[limitsB,inR] at this;omega
 have hlr:c.replicas.length≤5:=by have:=HL.out;simp[limitsB,inR] at this;omega
 have hlo:c.observers.length≤9:=by have:=HL.out;simp[limitsB,inR] at this;omega
 have hreg:c.regions≤4:=by have:=HL.out;simp[limitsB,inR] at this;omega
 have hreg1:1≤c.regions:=by have:=HL.out;simp[limitsB,inR] at this;omega
 unfold cfgC at *
 simp only at *
 go_enter Try.func88,Try.ntmps88
 go_upto_block 0 with fail
 go_cut [] (fun wx=>CfgBox w w.heap.size ⟨az,cz,ac,cc,at_,ct,av,cv,ar,cr,ao,co⟩ c wx∧c.zones.all (fun z=>inR z 0 (c.regions-1))=true)
 case first=>
  go_wp2
  go_loopg [15] c.zones.length (fun gk si wr=>∃ k:Nat,gk+k=c.zones.length∧si=.int .i64 k∧CfgBox w w.heap.size ⟨az,cz,ac,cc,at_,ct,av,cv,ar,cr,ao,co⟩ c wr∧(c.zones.take k).all (fun z=>inR z 0 (c.regions-1))=true)
  case atStart=>exact⟨0,rfl,rfl,hbox,rfl⟩
  case round=>
   rename_i J K aJ aK
   clear hbox
   obtain⟨k,hgk,rfl,hbox,hall⟩:=hrel
   have HA:=Lib.hid hall
   clear hall
   by_cases hk:k<c.zones.length
   ·have hlt:(k:Int)<(c.zones.length:Int):=by omega
    obtain⟨b,off,z,rfl,hb,hz,hcell⟩:=hbox.ok.zones.row (enc:=intC) (sz:=1) (fun _=>rfl) (by omega) hk
    have e0:=hcell 0 (.int .i64 z) rfl
    simp only[Nat.add_zero,Nat.mul_one] at e0
    have cb0:=hbox.box.cell' (i:=0) (v:=.int .i64 c.regions) rfl
    have hgs:w.heap.size<wr.heap.size:=hbox.box.lt
    have HZ:=Lib.hid hz
    clear hcell hz
    by_cases hp:(fun z=>inR z 0 (c.regions-1)) z=true
    ·have hn:(c.zones.take (k+1)).all (fun z=>inR z 0 (c.regions-1))=true:=take_all_yes HZ.out HA.out hp
     have HN:=Lib.hid hn
     clear hn
     simp only at hp
     go_wp2_with (go_at_call 121;refine (topoWithin_any _ _ _ _).mono ?_;rintro e w' ⟨rfl,rfl⟩)
     go_roundg (gk-1)
     case measure=>omega
     case rel=>exact⟨k+1,by omega,by go_num,hbox.alloc _,HN.out⟩
    ·have hp':(fun z=>inR z 0 (c.regions-1)) z=false:=by simpa using hp
     have hn:placesB c=false:=by unfold placesB;simp only[all_no (p:=(fun z=>inR z 0 (c.regions-1))) HZ.out hp',Bool.and_false,Bool.false_and]
     have HN:=Lib.hid hn
     clear hn hp
     simp only at hp'
     go_wp2_with (go_at_call 121;refine (topoWithin_any _ _ _ _).mono ?_;rintro e w' ⟨rfl,rfl⟩)
     go_ret
     exact⟨ret_bool HN.out.symm,(hbox.alloc _).below⟩
   ·have hge:¬ ((k:Int)<(c.zones.length:Int)):=by omega
    have hall:c.zones.all (fun z=>inR z 0 (c.regions-1))=true:=by have:=HA.out;rwa[List.take_of_length_le (by omega)] at this
    have HA2:=Lib.hid hall
    clear hall HA
    go_wp2
    go_meet
    exact⟨hbox,HA2.out⟩
 case rest=>
  clear hbox
  obtain⟨hbox,hall0⟩:=hcut
  have HA0:=Lib.hid hall0
  clear hall0
  have cb1:=hbox.box.cell' (i:=1) (v:=.slice az c.zones.length cz) rfl
  have cb2:=hbox.box.cell' (i:=2) (v:=.slice ac c.cells.length cc) rfl
  go_upto_block 2 with fail
  go_cut [] (fun wx=>CfgBox w w.heap.size ⟨az,cz,ac,cc,at_,ct,av,cv,ar,cr,ao,co⟩ c wx∧c.cells.all (fun y=>inR y.1 0 (c.zones.length-1))=true)
  case first=>
   go_wp2
   go_loopg [34] c.cells.length (fun gk si wr=>∃ k:Nat,gk+k=c.cells.length∧si=.int .i64 k∧CfgBox w w.heap.size ⟨az,cz,ac,cc,at_,ct,av,cv,ar,cr,ao,co⟩ c wr∧(c.cells.take k).all (fun y=>inR y.1 0 (c.zones.length-1))=true)
   case atStart=>exact⟨0,rfl,rfl,hbox,rfl⟩
   case round=>
    rename_i J K aJ aK
    clear hbox
    obtain⟨k,hgk,rfl,hbox,hall⟩:=hrel
    have HA:=Lib.hid hall
    clear hall
    by_cases hk:k<c.cells.length
    ·have hlt:(k:Int)<(c.cells.length:Int):=by omega
     obtain⟨b,off,z,rfl,hb,hz,hcell⟩:=hbox.ok.cells.row (enc:=pairC) (sz:=2) (fun _=>rfl) (by omega) hk
     have e0:=hcell 0 (.int .i64 z.1) rfl
     have e1:=hcell 1 (.int .i64 z.2) rfl
     simp only[Nat.add_zero,Nat.mul_one] at e0 e1
     have hgs:w.heap.size<wr.heap.size:=hbox.box.lt
     have HZ:=Lib.hid hz
     clear hcell hz
     by_cases hp:(fun y=>inR y.1 0 (c.zones.length-1)) z=true
     ·have hn:(c.cells.take (k+1)).all (fun y=>inR y.1 0 (c.zones.length-1))=true:=take_all_yes HZ.out HA.out hp
      have HN:=Lib.hid hn
      clear hn
      simp only at hp
      go_wp2_with (go_at_call 121;refine (topoWithin_any _ _ _ _).mono ?_;rintro e w' ⟨rfl,rfl⟩)
      go_roundg (gk-1)
      case measure=>omega
      case rel=>exact⟨k+1,by omega,by go_num,hbox.alloc _,HN.out⟩
     ·have hp':(fun y=>inR y.1 0 (c.zones.length-1)) z=false:=by simpa using hp
      have hn:placesB c=false:=by unfold placesB;simp only[all_no (p:=(fun y=>inR y.1 0 (c.zones.length-1))) HZ.out hp',Bool.and_false,Bool.false_and]
      have HN:=Lib.hid hn
      clear hn hp
      simp only at hp'
      go_wp2_with (go_at_call 121;refine (topoWithin_any _ _ _ _).mono ?_;rintro e w' ⟨rfl,rfl⟩)
      go_ret
      exact⟨ret_bool HN.out.symm,(hbox.alloc _).below⟩
    ·have hge:¬ ((k:Int)<(c.cells.length:Int)):=by omega
     have hall:c.cells.all (fun y=>inR y.1 0 (c.zones.length-1))=true:=by have:=HA.out;rwa[List.take_of_length_le (by omega)] at this
     have HA2:=Lib.hid hall
     clear hall HA
     go_wp2
     go_meet
     exact⟨hbox,HA2.out⟩
  case rest=>
   clear hbox
   obtain⟨hbox,hall2⟩:=hcut
   have HA2:=Lib.hid hall2
   clear hall2
   have cb5:=hbox.box.cell' (i:=5) (v:=.slice ar c.replicas.length cr) rfl
   go_upto_block 4 with fail
   go_cut [] (fun wx=>CfgBox w w.heap.size ⟨az,cz,ac,cc,at_,ct,av,cv,ar,cr,ao,co⟩ c wx∧c.replicas.all (fun z=>inR z 0 (c.zones.length-1))=true)
   case first=>
    go_wp2
    go_loopg [47] c.replicas.length (fun gk si wr=>∃ k:Nat,gk+k=c.replicas.length∧si=.int .i64 k∧CfgBox w w.heap.size ⟨az,cz,ac,cc,at_,ct,av,cv,ar,cr,ao,co⟩ c wr∧(c.replicas.take k).all (fun z=>inR z 0 (c.zones.length-1))=true)
    case atStart=>exact⟨0,rfl,rfl,hbox,rfl⟩
    case round=>
     rename_i J K aJ aK
     clear hbox
     obtain⟨k,hgk,rfl,hbox,hall⟩:=hrel
     have HA:=Lib.hid hall
     clear hall
     by_cases hk:k<c.replicas.length
     ·have hlt:(k:Int)<(c.replicas.length:Int):=by omega
      obtain⟨b,off,z,rfl,hb,hz,hcell⟩:=hbox.ok.replicas.row (enc:=intC) (sz:=1) (fun _=>rfl) (by omega) hk
      have e0:=hcell 0 (.int .i64 z) rfl
      simp only[Nat.add_zero,Nat.mul_one] at e0
      have hgs:w.heap.size<wr.heap.size:=hbox.box.lt
      have HZ:=Lib.hid hz
      clear hcell hz
      by_cases hp:(fun z=>inR z 0 (c.zones.length-1)) z=true
      ·have hn:(c.replicas.take (k+1)).all (fun z=>inR z 0 (c.zones.length-1))=true:=take_all_yes HZ.out HA.out hp
       have HN:=Lib.hid hn
       clear hn
       simp only at hp
       go_wp2_with (go_at_call 121;refine (topoWithin_any _ _ _ _).mono ?_;rintro e w' ⟨rfl,rfl⟩)
       go_roundg (gk-1)
       case measure=>omega
       case rel=>exact⟨k+1,by omega,by go_num,hbox,HN.out⟩
      ·have hp':(fun z=>inR z 0 (c.zones.length-1)) z=false:=by simpa using hp
       have hn:placesB c=false:=by unfold placesB;simp only[all_no (p:=(fun z=>inR z 0 (c.zones.length-1))) HZ.out hp',Bool.and_false,Bool.false_and]
       have HN:=Lib.hid hn
       clear hn hp
       simp only at hp'
       go_wp2_with (go_at_call 121;refine (topoWithin_any _ _ _ _).mono ?_;rintro e w' ⟨rfl,rfl⟩)
       go_ret
       exact⟨ret_bool HN.out.symm,hbox.below⟩
     ·have hge:¬ ((k:Int)<(c.replicas.length:Int)):=by omega
      have hall:c.replicas.all (fun z=>inR z 0 (c.zones.length-1))=true:=by have:=HA.out;rwa[List.take_of_length_le (by omega)] at this
      have HA2:=Lib.hid hall
      clear hall HA
      go_wp2
      go_meet
      exact⟨hbox,HA2.out⟩
   case rest=>
    clear hbox
    obtain⟨hbox,hall4⟩:=hcut
    have HA4:=Lib.hid hall4
    clear hall4
    have cb6:=hbox.box.cell' (i:=6) (v:=.slice ao c.observers.length co) rfl
    go_upto_block 6 with fail
    go_cut [] (fun wx=>CfgBox w w.heap.size ⟨az,cz,ac,cc,at_,ct,av,cv,ar,cr,ao,co⟩ c wx∧c.observers.all (fun z=>inR z 0 (c.zones.length-1))=true)
    case first=>
     go_wp2
     go_loopg [59] c.observers.length (fun gk si wr=>∃ k:Nat,gk+k=c.observers.length∧si=.int .i64 k∧CfgBox w w.heap.size ⟨az,cz,ac,cc,at_,ct,av,cv,ar,cr,ao,co⟩ c wr∧(c.observers.take k).all (fun z=>inR z 0 (c.zones.length-1))=true)
     case atStart=>exact⟨0,rfl,rfl,hbox,rfl⟩
     case round=>
      rename_i J K aJ aK
      clear hbox
      obtain⟨k,hgk,rfl,hbox,hall⟩:=hrel
      have HA:=Lib.hid hall
      clear hall
      by_cases hk:k<c.observers.length
      ·have hlt:(k:Int)<(c.observers.length:Int):=by omega
       obtain⟨b,off,z,rfl,hb,hz,hcell⟩:=hbox.ok.observers.row (enc:=intC) (sz:=1) (fun _=>rfl) (by omega) hk
       have e0:=hcell 0 (.int .i64 z) rfl
       simp only[Nat.add_zero,Nat.mul_one] at e0
       have hgs:w.heap.size<wr.heap.size:=hbox.box.lt
       have HZ:=Lib.hid hz
       clear hcell hz
       by_cases hp:(fun z=>inR z 0 (c.zones.length-1)) z=true
       ·have hn:(c.observers.take (k+1)).all (fun z=>inR z 0 (c.zones.length-1))=true:=take_all_yes HZ.out HA.out hp
        have HN:=Lib.hid hn
        clear hn
        simp only at hp
        go_wp2_with (go_at_call 121;refine (topoWithin_any _ _ _ _).mono ?_;rintro e w' ⟨rfl,rfl⟩)
        go_roundg (gk-1)
        case measure=>omega
        case rel=>exact⟨k+1,by omega,by go_num,hbox,HN.out⟩
       ·have hp':(fun z=>inR z 0 (c.zones.length-1)) z=false:=by simpa using hp
        have hn:placesB c=false:=by unfold placesB;simp only[all_no (p:=(fun z=>inR z 0 (c.zones.length-1))) HZ.out hp',Bool.and_false,Bool.false_and]
        have HN:=Lib.hid hn
        clear hn hp
        simp only at hp'
        go_wp2_with (go_at_call 121;refine (topoWithin_any _ _ _ _).mono ?_;rintro e w' ⟨rfl,rfl⟩)
        go_ret
        exact⟨ret_bool HN.out.symm,hbox.below⟩
      ·have hge:¬ ((k:Int)<(c.observers.length:Int)):=by omega
       have hall:c.observers.all (fun z=>inR z 0 (c.zones.length-1))=true:=by have:=HA.out;rwa[List.take_of_length_le (by omega)] at this
       have HA2:=Lib.hid hall
       clear hall HA
       go_wp2
       go_meet
       exact⟨hbox,HA2.out⟩
    case rest=>
     clear hbox
     obtain⟨hbox,hall6⟩:=hcut
     have HA6:=Lib.hid hall6
     clear hall6
     go_wp2
     go_ret
     refine⟨ret_bool ?_,hbox.below⟩
     unfold placesB
     rw[HA0.out,HA2.out,HA4.out,HA6.out]
     rfl
theorem versOk_no {l:List (Int×Int)} {k:Nat} {v:Int×Int} (h:l[k]?=some v) (hp:verOk k v=false):versOk l=false:=by
 unfold versOk
 rw[List.all_eq_false]
 exact⟨k,List.mem_range.2 (List.getElem?_eq_some_iff.1 h).1,by simp[h,hp]⟩
theorem versOk_yes {l:List (Int×Int)} (h:∀ k v,l[k]?=some v→verOk k v=true):versOk l=true:=by
 unfold versOk
 rw[List.all_eq_true]
 intro i _
 cases hi:l[i]? with
 | none=>rfl
 | some v=>exact h i v hi
set_option maxHeartbeats 1000000 in
set_option maxRecDepth 100000 in
theorem topoValues_any (x:CfgA) (c:Cfg) (w:World) (hl:limitsB c=true) (hok:CfgOk w (·<w.heap.size) x c) :
  Calls Try.prog 89 #[.agg (cfgC x c)] w fun e w'=>e=.returned (.bool (valuesB c))∧Below w.heap.size w w':=by
 obtain⟨az,cz,ac,cc,at_,ct,av,cv,ar,cr,ao,co⟩:=x
 have hbox:=CfgBox.new hok
 have HL:=Lib.hid hl
 clear hl hok
 have hlc:c.cells.length≤16:=by have:=HL.out;simp[limitsB,inR] at this;omega
 have hlv:c.versions.length≤30:=by have:=HL.out;simp[limitsB,inR] at this;omega
 unfold cfgC at *
 simp only at *
 go_enter Try.func89,Try.ntmps89
 go_upto_block 0 with fail
 go_cut [] (fun wx=>CfgBox w w.heap.size ⟨az,cz,ac,cc,at_,ct,av,cv,ar,cr,ao,co⟩ c wx∧c.cells.all (fun y=>inR y.2 1 4194304)=true)
 case first=>
  go_wp2
  go_loopg [10] c.cells.length (fun gk si wr=>∃ k:Nat,gk+k=c.cells.length∧si=.int .i64 k∧CfgBox w w.heap.size ⟨az,cz,ac,cc,at_,ct,av,cv,ar,cr,ao,co⟩ c wr∧(c.cells.take k).all (fun y=>inR y.2 1 4194304)=true)
  case atStart=>exact⟨0,rfl,rfl,hbox,rfl⟩
  case round=>
   rename_i J K aJ aK
   clear hbox
   obtain⟨k,hgk,rfl,hbox,hall⟩:=hrel
   have HA:=Lib.hid hall
   clear hall
   by_cases hk:k<c.cells.length
   ·have hlt:(k:Int)<(c.cells.length:Int):=by omega
    obtain⟨b,off,z,rfl,hb,hz,hcell⟩:=hbox.ok.cells.row (enc:=pairC) (sz:=2) (fun _=>rfl) (by omega) hk
    have e0:=hcell 0 (.int .i64 z.1) rfl
    have e1:=hcell 1 (.int .i64 z.2) rfl
    simp only[Nat.add_zero] at e0 e1
    have hgs:w.heap.size<wr.heap.size:=hbox.box.lt
    have HZ:=Lib.hid hz
    clear hcell hz
    by_cases hp:(fun y:Int×Int=>inR y.2 1 4194304) z=true
    ·have hn:=take_all_yes HZ.out HA.out hp
     have HN:=Lib.hid hn
     clear hn
     simp only at hp
     go_wp2_with (go_at_call 121;refine (topoWithin_any _ _ _ _).mono ?_;rintro e w' ⟨rfl,rfl⟩)
     go_roundg (gk-1)
     case measure=>omega
     case rel=>exact⟨k+1,by omega,by go_num,hbox.alloc _,HN.out⟩
    ·have hp':(fun y:Int×Int=>inR y.2 1 4194304) z=false:=by simpa using hp
     have hn:valuesB c=false:=by unfold valuesB;simp only[all_no (p:=fun y:Int×Int=>inR y.2 1 4194304) HZ.out hp',Bool.and_false,Bool.false_and]
     have HN:=Lib.hid hn
     clear hn hp
     simp only at hp'
     go_wp2_with (go_at_call 121;refine (topoWithin_any _ _ _ _).mono ?_;rintro e w' ⟨rfl,rfl⟩)
     go_ret
     exact⟨ret_bool HN.out.symm,(hbox.alloc _).below⟩
   ·have hge:¬ ((k:Int)<(c.cells.length:Int)):=by omega
    have hall:c.cells.all (fun y=>inR y.2 1 4194304)=true:=by have:=HA.out;rwa[List.take_of_length_le (by omega)] at this
    have HA2:=Lib.hid hall
    clear hall HA
    go_wp2
    go_meet
    exact⟨hbox,HA2.out⟩
 case rest=>
  clear hbox
  obtain⟨hbox,hall0⟩:=hcut
  have HA0:=Lib.hid hall0
  clear hall0
  have cb4:=hbox.box.cell' (i:=4) (v:=.slice av c.versions.length cv) rfl
  go_upto_block 2 with fail
  go_cut [] (fun wx=>CfgBox w w.heap.size ⟨az,cz,ac,cc,at_,ct,av,cv,ar,cr,ao,co⟩ c wx∧versOk c.versions=true)
  case first=>
   go_wp2
   go_loopg [22] c.versions.length (fun gk si wr=>∃ k:Nat,gk+k=c.versions.length∧si=.int .i64 k∧CfgBox w w.heap.size ⟨az,cz,ac,cc,at_,ct,av,cv,ar,cr,ao,co⟩ c wr∧∀ i v,i<k→c.versions[i]?=some v→verOk i v=true)
   case atStart=>exact⟨0,rfl,rfl,hbox,fun i v hi=>absurd hi (by omega)⟩
   case round=>
    rename_i J K aJ aK
    clear hbox
    obtain⟨k,hgk,rfl,hbox,hall⟩:=hrel
    have HA:=Lib.hid hall
    clear hall
    by_cases hk:k<c.versions.length
    ·have hlt:(k:Int)<(c.versions.length:Int):=by omega
     obtain⟨b,off,z,rfl,hb,hz,hcell⟩:=hbox.ok.versions.row (enc:=pairC) (sz:=2) (fun _=>rfl) (by omega) hk
     obtain⟨lo,hi⟩:=z
     have e0:=hcell 0 (.int .i64 lo) rfl
     have e1:=hcell 1 (.int .i64 hi) rfl
     simp only[Nat.add_zero] at e0 e1
     have hgs:w.heap.size<wr.heap.size:=hbox.box.lt
     have HZ:=Lib.hid hz
     clear hcell hz cb4
     by_cases hp:verOk k (lo,hi)=true
     ·have hn:∀ i v,i<k+1→c.versions[i]?=some v→verOk i v=true:=by
       intro i v hi hv
       by_cases hik:i<k
       ·exact HA.out i v hik hv
       ·obtain rfl:i=k:=by omega
        rw[HZ.out] at hv
        cases hv
        exact hp
      have HN:=Lib.hid hn
      clear hn
      have hq:0≤lo∧lo≤hi∧hi≤30∧(k=0→lo=0):=by
       simp[verOk] at hp
       omega
      obtain⟨q1,q2,q3,q4⟩:=hq
      clear hp
      by_cases hk0:k=0
      ·have hb0:((k:Int)==0)=true:=by simp;omega
       have hb1:(lo != 0)=false:=by simp;omega
       have q4':lo≤0:=by have:=q4 hk0;omega
       clear q4 hk0
       go_wp2
       go_roundg (gk-1)
       case measure=>omega
       case rel=>exact⟨k+1,by omega,by go_num,hbox.alloc _,HN.out⟩
      ·have hb0:((k:Int)==0)=false:=by simp;omega
       clear q4 hk0
       go_wp2
       go_roundg (gk-1)
       case measure=>omega
       case rel=>exact⟨k+1,by omega,by go_num,hbox.alloc _,HN.out⟩
     ·have hp':verOk k (lo,hi)=false:=by simpa using hp
      have hn:valuesB c=false:=by unfold valuesB;rw[versOk_no HZ.out hp'];simp
      have HN:=Lib.hid hn
      have hq:lo<0∨(0≤lo∧hi<lo)∨(0≤lo∧lo≤hi∧30<hi)∨(0≤lo∧lo≤hi∧hi≤30∧k=0∧lo≠0):=by
       simp[verOk] at hp'
       omega
      clear hn hp hp'
      rcases hq with q1 | ⟨q1,q2⟩ | ⟨q1,q2,q3⟩ | ⟨q1,q2,q3,q4,q5⟩
      ·have hd:decide (lo<0)=true:=by simpa using q1
       go_wp2
       go_ret
       exact⟨ret_bool HN.out.symm,(hbox.alloc _).below⟩
      ·go_wp2
       go_ret
       exact⟨ret_bool HN.out.symm,(hbox.alloc _).below⟩
      ·go_wp2
       go_ret
       exact⟨ret_bool HN.out.symm,(hbox.alloc _).below⟩
      ·have hb0:((k:Int)==0)=true:=by simp;omega
       have hb1:(lo != 0)=true:=by simp;omega
       clear q4 q5
       go_wp2
       go_ret
       exact⟨ret_bool HN.out.symm,(hbox.alloc _).below⟩
    ·have hge:¬ ((k:Int)<(c.versions.length:Int)):=by omega
     have hall:versOk c.versions=true:=versOk_yes fun i v hv=>HA.out i v (by have:=(List.getElem?_eq_some_iff.1 hv).1;omega) hv
     have HA2:=Lib.hid hall
     clear hall HA
     go_wp2
     go_meet
     exact⟨hbox,HA2.out⟩
  case rest=>
   clear hbox cb4
   obtain⟨hbox,hall2⟩:=hcut
   have HA2:=Lib.hid hall2
   clear hall2
   have cb7:=hbox.box.cell' (i:=7) (v:=.int .i64 c.blast) rfl
   have cb8:=hbox.box.cell' (i:=8) (v:=.int .i64 c.lease) rfl
   have cb9:=hbox.box.cell' (i:=9) (v:=.int .i64 c.bake) rfl
   have hfin:valuesB c=(inR c.blast 1 16&&inR c.lease 1 1000&&inR c.bake 0 10000):=by unfold valuesB;rw[HA0.out,HA2.out];rfl
   have HF:=Lib.hid hfin
   clear hfin
   go_wp2_with (go_at_call 121;refine (topoWithin_any _ _ _ _).mono ?_;rintro e w' ⟨rfl,rfl⟩)
   all_goals
    go_ret
    refine⟨ret_bool ?_,hbox.below⟩
    rw[HF.out]
    go_light
    simp[*]
theorem CfgBox.later {w:World} {g:Nat} {x:CfgA} {c:Cfg} {wr wx:World} (h:CfgBox w g x c wr) (hb:Below wr.heap.size wr wx):CfgBox w g x c wx:=
 ⟨h.box.below hb h.box.lt,h.ok.keep fun k hk=>hb.block k (Nat.lt_trans hk h.box.lt),h.below.trans (hb.mono h.below.size),h.le⟩
theorem CfgBox.okW {w:World} {g:Nat} {x:CfgA} {c:Cfg} {wr:World} (h:CfgBox w g x c wr):CfgOk wr (·<wr.heap.size) x c:=h.ok.more fun b hb=>Nat.lt_trans hb h.box.lt
set_option maxHeartbeats 1000000 in
set_option maxRecDepth 100000 in
theorem topoValid_any (x:CfgA) (c:Cfg) (w:World) (hl:Lens c) (hok:CfgOk w (·<w.heap.size) x c) :
  Calls Try.prog 73 #[.agg (cfgC x c)] w fun e w'=>e=.returned (.int .i64 (topoErr c))∧Below w.heap.size w w':=by
 obtain⟨az,cz,ac,cc,at_,ct,av,cv,ar,cr,ao,co⟩:=x
 have hbox:=CfgBox.new hok
 have HN:=Lib.hid (topoNumbers_any ⟨az,cz,ac,cc,at_,ct,av,cv,ar,cr,ao,co⟩ c (w.alloc (.cells (cfgC ⟨az,cz,ac,cc,at_,ct,av,cv,ar,cr,ao,co⟩ c) 28)) hl)
 have hlr:c.replicas.length≤maxLen:=hl.2.2.2.2.1
 unfold maxLen at hlr
 clear hok hl
 unfold cfgC at *
 simp only at *
 have HBX:=Lib.hid hbox
 clear hbox
 go_enter Try.func73,Try.ntmps73
 go_wp2_with fail
 refine HN.out.mono ?_
 rintro e w1 ⟨rfl,hb1⟩
 have hbox:=HBX.out.later hb1
 clear hb1 HN HBX
 by_cases h1:limitsB c=true
 ·have c0:=hbox.box.cell' (i:=0) (v:=.int .i64 c.regions) rfl
  have c1:=hbox.box.cell' (i:=1) (v:=.slice az c.zones.length cz) rfl
  have c2:=hbox.box.cell' (i:=2) (v:=.slice ac c.cells.length cc) rfl
  have c3:=hbox.box.cell' (i:=3) (v:=.slice at_ c.tenants.length ct) rfl
  have c4:=hbox.box.cell' (i:=4) (v:=.slice av c.versions.length cv) rfl
  have c5:=hbox.box.cell' (i:=5) (v:=.slice ar c.replicas.length cr) rfl
  have c6:=hbox.box.cell' (i:=6) (v:=.slice ao c.observers.length co) rfl
  have c7:=hbox.box.cell' (i:=7) (v:=.int .i64 c.blast) rfl
  have c8:=hbox.box.cell' (i:=8) (v:=.int .i64 c.lease) rfl
  have c9:=hbox.box.cell' (i:=9) (v:=.int .i64 c.bake) rfl
  by_cases h2:c.replicas.length % 2=0
  ·have e2:((c.replicas.length:Int) % 2==0)=true:=by simp;omega
   have HX:=Lib.hid h2
   clear h2
   go_wp2_with fail
   go_ret
   exact⟨ret_i64 (by simp[topoErr,h1,HX.out]),hbox.below⟩
  ·have e2:((c.replicas.length:Int) % 2==0)=false:=by simp;omega
   have HX:=Lib.hid h2
   clear h2
   go_wp2_with fail
   refine (topoPlaces_any ⟨az,cz,ac,cc,at_,ct,av,cv,ar,cr,ao,co⟩ c w1 h1 hbox.okW).mono ?_
   rintro e w2 ⟨rfl,hb2⟩
   have hbox2:=hbox.later hb2
   clear c0 c1 c2 c3 c4 c5 c6 c7 c8 c9 hb2 hbox
   by_cases h3:placesB c=true
   ·have c0:=hbox2.box.cell' (i:=0) (v:=.int .i64 c.regions) rfl
    have c1:=hbox2.box.cell' (i:=1) (v:=.slice az c.zones.length cz) rfl
    have c2:=hbox2.box.cell' (i:=2) (v:=.slice ac c.cells.length cc) rfl
    have c3:=hbox2.box.cell' (i:=3) (v:=.slice at_ c.tenants.length ct) rfl
    have c4:=hbox2.box.cell' (i:=4) (v:=.slice av c.versions.length cv) rfl
    have c5:=hbox2.box.cell' (i:=5) (v:=.slice ar c.replicas.length cr) rfl
    have c6:=hbox2.box.cell' (i:=6) (v:=.slice ao c.observers.length co) rfl
    have c7:=hbox2.box.cell' (i:=7) (v:=.int .i64 c.blast) rfl
    have c8:=hbox2.box.cell' (i:=8) (v:=.int .i64 c.lease) rfl
    have c9:=hbox2.box.cell' (i:=9) (v:=.int .i64 c.bake) rfl
    go_wp2_with fail
    refine (topoValues_any ⟨az,cz,ac,cc,at_,ct,av,cv,ar,cr,ao,co⟩ c w2 h1 hbox2.okW).mono ?_
    rintro e w3 ⟨rfl,hb3⟩
    have hbel:=(hbox2.later hb3).below
    clear c0 c1 c2 c3 c4 c5 c6 c7 c8 c9 hb3 hbox2
    by_cases h4:valuesB c=true
    ·go_wp2
     go_ret
     exact⟨ret_i64 (by simp[topoErr,h1,h3,h4,HX.out]),hbel⟩
    ·have h4':valuesB c=false:=by simpa using h4
     go_wp2
     go_ret
     exact⟨ret_i64 (by simp[topoErr,h1,h3,h4',HX.out]),hbel⟩
   ·have h3':placesB c=false:=by simpa using h3
    go_wp2_with fail
    go_ret
    exact⟨ret_i64 (by simp[topoErr,h1,h3',HX.out]),hbox2.below⟩
 ·have h1':limitsB c=false:=by simpa using h1
  go_wp2
  go_ret
  exact⟨ret_i64 (by simp[topoErr,h1']),hbox.below⟩
set_option maxHeartbeats 400000 in
theorem tenantWithin_any (n lo hi:Int) (w:World) :
  Calls Try.prog 90 #[.int .i64 n,.int .i64 lo,.int .i64 hi] w fun e w'=>e=.returned (.bool (inR n lo hi))∧w=w':=by
 go_enter Try.func90,Try.ntmps90
 go_wp2
 all_goals
  go_ret
  refine⟨ret_bool ?_,rfl⟩
  go_light
  simp[inR, *]<;>omega
set_option maxHeartbeats 1000000 in
set_option maxRecDepth 100000 in
theorem tenantPermitted_any (t:Ten) (r:Int) (w:World) (h1:1≤r) (h4:r≤4) :
  Calls Try.prog 74 #[.agg (tenC t).toArray,.int .i64 r] w fun e w'=>e=.returned (.bool (tenOk r t))∧Below w.heap.size w w':=by
 unfold tenC
 have hr:r=1∨r=2∨r=3∨r=4:=by omega
 clear h1 h4
 rcases hr with rfl | rfl | rfl | rfl
 all_goals
  go_enter Try.func74,Try.ntmps74
  go_wp2_with (go_at_call 90;refine (tenantWithin_any _ _ _ _).mono ?_;rintro e w' ⟨rfl,rfl⟩)
  all_goals
   go_ret
   refine⟨ret_bool ?_,(Below.refl _ _).alloc (Nat.le_refl _) _⟩
   go_light
   simp[tenOk,shl1, *]
/-! tenant.Valid,atlas.Valid -/
def ctTopoV:CT:=fun vs mem nx K=>∃ N x c,vs=[cfgV N x c]∧HasCfg mem N c∧Lens c∧K (.int .i64 (topoErr c)) mem nx
theorem topoVOk:CSound Try.prog 73 ctTopoV:=⟨by kernel_rfl,fun {C ρ fr mem nx a w vs K} hc hs hv=>by
 obtain⟨N,x,c,rfl,hk,hl,hK⟩:=hc
 rw[List.map_cons,den_cfg]
 refine (topoValid_any (cfgX ρ N x) c w hl (hs.cfgH hk)).mono ?_
 rintro e w' ⟨rfl,hb⟩
 exact⟨_,mem,nx,ρ,rfl,hK,hs.later hb,trivial,ExtS.refl _ _⟩⟩
def ctPermit:CT:=fun vs mem nx K=>∃ t r,vs=[.agg (tenC t).toArray,.int .i64 r]∧(1≤r∧r≤4)∧K (.bool (tenOk r t)) mem nx
theorem permitOk:CSound Try.prog 74 ctPermit:=CSound.pure (by kernel_rfl) (by
 rintro vs mem nx K ⟨t,r,rfl,⟨h1,h2⟩,hK⟩
 refine⟨_,hK,fun ρ n=>⟨rfl,trivial⟩,fun ρ w=>?_⟩
 have e:([.agg (tenC t).toArray,.int .i64 r].map (den ρ)).toArray=#[.agg (tenC t).toArray,.int .i64 r]:=by simp[den,den2,den1,tenC]
 rw[e]
 exact tenantPermitted_any t r w h1 h2)
def tvF:FT:=[(73,ctTopoV),(74,ctPermit)]
def tvD:List (Nat×DQ):=[(2000005,{ k:=0,L:=[0,1,2,3,4,5,6,7,8,9,10,11,12,13],sl:=[1,12,13] })]
theorem tvFok:FTokI Try.prog tvF (inlOf tvD):=fti_cons (topoVOk.i _) (fti_cons (permitOk.i _) fti_nil)
theorem reg_of {c:Cfg} (h:topoErr c=0):1≤c.regions∧c.regions≤4:=by
 unfold topoErr at h
 by_cases hl:limitsB c=false
 ·rw[if_pos hl] at h;cases h
 ·simp[limitsB,inR] at hl
  omega
set_option maxRecDepth 100000 in
set_option maxHeartbeats 4000000 in
theorem tenV_sx (x:CfgK) (c:Cfg) (hL:Lens c) :
  sx ttA tvF tvD (bodyOf Try.f51) (argF 0 [cfgV CNu x c]) (uniM { c:=c }) 13 (endx ttA Try.f51.results.toList fun v _ _=>v=.int .i64 (cfgErr c)):=by
 have hmax:=hL.2.2.1
 unfold maxLen at hmax
 refine⟨CNu,x,c,rfl,HasCfg.keeps kp_,hL,?_⟩
 refine⟨fun hne=>?_,fun heq=>?_⟩
 ·have hne2:topoErr c≠0:=by simpa using hne
  rw[show cfgErr c=topoErr c from if_pos hne2]
  rfl
 ·have heq2:topoErr c=0:=by simpa using heq
  have hreg:=reg_of heq2
  have hce:cfgErr c=if c.tenants.all (tenOk c.regions) then 0 else 1:=if_neg (by simpa using heq2)
  refine⟨Int,fun i=>[(14,.int .i64 i)],fun _=>[],fun i=>(0≤i∧i≤c.tenants.length)∧∀ k,k<i.toNat→tenOk c.regions (c.tenants.getD k default)=true,fun i=>((c.tenants.length:Int)-i).toNat,⟨0,⟨by omega,fun k hk=>absurd hk (by omega)⟩,kp_,kp_⟩,?_⟩
  rintro i ⟨hi,hall⟩
  refine⟨⟨rfl,rfl⟩,?_⟩
  refine⟨fun hlt=>?_,fun hge=>?_⟩
  ·have hlt2:i<(c.tenants.length:Int):=of_decide_eq_true hlt
   refine⟨⟨Nat.le_refl _,hi.1,hlt2⟩,?_⟩
   refine⟨(c.tenants.getD i.toNat default),_,rfl,hreg,?_⟩
   refine⟨fun hb=>?_,fun hb=>?_⟩
   ·have hb2:tenOk c.regions (c.tenants.getD i.toNat default)=false:=by simpa using hb
    have hf:c.tenants.all (tenOk c.regions)=false:=by
     rw[List.all_eq_false]
     refine⟨(c.tenants.getD i.toNat default),?_,by rw[hb2];decide⟩
     rw[List.getD_eq_getElem?_getD,List.getElem?_eq_getElem (by omega)]
     exact List.getElem_mem _
    rw[hce,hf]
    rfl
   ·have hb2:tenOk c.regions (c.tenants.getD i.toNat default)=true:=by simpa using hb
    refine⟨_,?_,kp_,kp_⟩
    rw[wrapi (n:=i+1) (by omega)]
    dsimp only
    refine⟨⟨by omega,fun k hk=>?_⟩,by omega⟩
    by_cases hki:k<i.toNat
    ·exact hall k hki
    ·obtain rfl:k=i.toNat:=by omega
     exact hb2
  ·have hge2:¬ i<(c.tenants.length:Int):=of_decide_eq_false hge
   have ht:c.tenants.all (tenOk c.regions)=true:=by
    rw[List.all_eq_true]
    intro t ht
    obtain⟨k,hk,rfl⟩:=List.getElem_of_mem ht
    have:=hall k (by omega)
    rwa[List.getD_eq_getElem?_getD,List.getElem?_eq_getElem hk] at this
   rw[hce,ht]
   rfl
theorem tenV_calls (x:CfgA) (c:Cfg) (w:World) (hL:Lens c) (hc:CfgOk w (·<w.heap.size) x c):Calls Try.prog 51 #[.agg (cfgC x c)] w fun e w'=>e=.returned (.int .i64 (cfgErr c))∧Below w.heap.size w w':=by
 have:=uni_calls ttAok tvFok Try.func51 rfl (D:=tvD) (by kernel_rfl) (vs:=[cfgV CNu (ck x) c]) rfl { x:=x } { c:=c } w { c:=hc } (fun v hv=>by
  simp only[List.mem_cons,List.not_mem_nil,or_false] at hv
  subst hv
  exact upl_cfg_ok { x:=x } { c:=c }) (tenV_sx (ck x) c hL)
 rw[List.map_cons,upl_cfg { x:=x } { c:=c }] at this
 refine this.mono ?_
 rintro e w' ⟨v,mem',nx',ρ',rfl,rfl,hv,hm',hb⟩
 exact⟨rfl,hb⟩
/-! atlas.Valid,ref15.Valid -/
def RouteOk (c:Cfg) (r:Int×Int):Prop:=(-1≤r.1∧r.1<c.cells.length)∧0≤r.2∧r.2≤1048576
structure ValidA (c:Cfg) (a:Atl) (key:Int):Prop where
 cfg:cfgErr c=0
 len:a.routes.length=c.tenants.length
 n:0≤a.number∧a.number≤4096
 t:0≤a.tick∧a.tick≤1073741824
 r:∀ k,k<a.routes.length→RouteOk c (a.routes.getD k (0,0))
 sum:a.sum=chainI key a.parent (bodyI a)
/-! law15.awake -/
def ttL:TT:=[(60,tiSl 5 46 56)]++ttA
/-! ref15.Same,of equal atlases -/
/-! law15.bent -/
section
variable {a:Atl} {which by_:Int}
end
theorem set_rt {l:List (Int×Int)} {el:Nat→List Value} {j:Nat} {x:Int×Int} {c:List Value} (h:∀ k,k<l.length→el k=pairC (l.getD k (0,0))) (hc:c=pairC x):∀ k,k<l.length→setEl el j c k=pairC ((l.set j x).getD k (0,0)):=by
 intro k hk
 by_cases h1:k=j
 ·subst h1
  rw[getD_set hk]
  unfold setEl
  rw[Nat.beq_refl,hc]
 ·rw[setEl_ne h1,h k hk,List.getD_eq_getElem?_getD,List.getD_eq_getElem?_getD,List.getElem?_set_ne (Ne.symm h1)]
def tiUint:TI:={ size:=1,agg:=false,zero:=[.int .u64 0],ik:=some .u64 }
def ttU:TT:=(101,tiUint)::tt
theorem ttUok:TTok Try.prog ttU:=by
 refine tt_mem _ _ ?_
 unfold ttU tt
 repeat (refine tt_cons ⟨by kernel_rfl,by kernel_rfl,plains (by rfl),by kernel_rfl,by kernel_rfl,by kernel_rfl⟩ ?_)
 exact tt_nil
/-! The functions that are walked where they are called. -/
/-! make.Config -/
theorem shl1_bd (r:Int):2≤shl1 r∧shl1 r≤16:=by unfold shl1;repeat' split<;>omega
theorem versOk_snoc {l:List (Int×Int)} {lo hi:Int} (h:versOk l=true) (h1:1≤l.length) (a:0≤lo) (b:lo≤hi) (d:hi≤30):versOk (l++[(lo,hi)])=true:=by
 unfold versOk at *
 rw[List.all_eq_true] at *
 intro i hi'
 rw[List.mem_range,List.length_append] at hi'
 simp at hi'
 by_cases hlt:i<l.length
 ·have:=h i (List.mem_range.2 hlt)
  rw[List.getElem?_append_left hlt]
  exact this
 ·obtain rfl:i=l.length:=by omega
  have hne:l≠[]:=by rintro rfl;simp at h1
  simp[verOk,hne]
  omega
structure MadeCfg (c:Cfg):Prop where
 valid:cfgErr c=0
 regions:1≤c.regions∧c.regions≤3
 zones:1≤c.zones.length∧c.zones.length≤6
 cells:1≤c.cells.length∧c.cells.length≤7
 tenants:c.tenants.length≤5
 versions:1≤c.versions.length∧c.versions.length≤3
 replicas:c.replicas.length=1∨c.replicas.length=3
 observers:1≤c.observers.length∧c.observers.length≤4
 blast:1≤c.blast∧c.blast≤3
 lease:2≤c.lease∧c.lease≤12
 bake:0≤c.bake∧c.bake≤8
 caps:c.cells.all (fun y=>inR y.1 0 (c.zones.length-1)&&inR y.2 1 40)=true
theorem madeCfg_of (r bl le ba:Int) (zl:List Int) (cl:List (Int×Int)) (tl:List Ten) (vl:List (Int×Int)) (rl ol:List Int) (h1:1≤r∧r≤3) (h2:1≤zl.length∧zl.length≤6) (h3:1≤cl.length∧cl.length≤7)
  (h4:tl.length≤5) (h5:1≤vl.length∧vl.length≤3) (a1:zl.all (fun z=>inR z 0 (r-1))=true) (a2:cl.all (fun y=>inR y.1 0 (zl.length-1)&&inR y.2 1 40)=true) (a3:tl.all (tenOk r)=true) (a4:versOk vl=true)
  (a5:rl.all (fun z=>inR z 0 (zl.length-1))=true) (a6:ol.all (fun z=>inR z 0 (zl.length-1))=true) (h6:rl.length=1∨rl.length=3) (h7:1≤ol.length∧ol.length≤4) (h8:1≤bl∧bl≤3) (h9:2≤le∧le≤12) (h10:0≤ba∧ba≤8) :
  MadeCfg ⟨r,zl,cl,tl,vl,rl,ol,bl,le,ba⟩:=by
 refine⟨?_,h1,h2,h3,h4,h5,h6,h7,h8,h9,h10,a2⟩
 have b1:cl.all (fun y=>inR y.1 0 (zl.length-1))=true:=by
  rw[List.all_eq_true] at a2 ⊢
  exact fun y hy=>(Bool.and_eq_true _ _ ▸ a2 y hy).1
 have b2:cl.all (fun y=>inR y.2 1 4194304)=true:=by
  rw[List.all_eq_true] at a2 ⊢
  intro y hy
  have:=(Bool.and_eq_true _ _ ▸ a2 y hy).2
  simp[inR] at this ⊢
  omega
 have l1:limitsB ⟨r,zl,cl,tl,vl,rl,ol,bl,le,ba⟩=true:=by simp[limitsB,inR];omega
 have l2:placesB ⟨r,zl,cl,tl,vl,rl,ol,bl,le,ba⟩=true:=by unfold placesB;rw[a1,b1,a5,a6];rfl
 have l3:valuesB ⟨r,zl,cl,tl,vl,rl,ol,bl,le,ba⟩=true:=by
  unfold valuesB
  rw[b2,a4]
  simp[inR]
  omega
 have l4:¬ rl.length % 2=0:=by omega
 have l5:topoErr ⟨r,zl,cl,tl,vl,rl,ol,bl,le,ba⟩=0:=by simp[topoErr,l1,l2,l3,l4]
 simp only[cfgErr,l5,a3]
 rfl
def CfgPost (w:World) (e:Ending) (w':World):Prop:=
 ∃ (x:CfgA) (c:Cfg),e=.returned (.agg (cfgC x c))∧CfgOk w' (fun b=>w.heap.size≤b∧b<w'.heap.size) x c∧MadeCfg c∧Below w.heap.size w w'
theorem versOk_one {h:Int} (h0:0≤h) (h1:h≤30):versOk [(0,h)]=true:=by
 simp[versOk,verOk]
 omega
abbrev allowC (r:Int):Int:=IntKind.i64.wrap (IntKind.i64.wrap (1 * 2 ^ min (IntKind.u64.wrap r).toNat IntKind.i64.bits)-1)
theorem allowC_eq {r:Int} (h:1≤r∧r≤3):allowC r=shl1 r-1:=by
 rcases (show r=1∨r=2∨r=3 by omega) with rfl | rfl | rfl<;>decide
theorem ten_okC {r a b p g al gr:Int} {no:Bool} (h1:1≤r∧r≤3) (ha:1≤a∧a≤12) (hb:0≤b∧b<a+1) (hp:0≤p∧p<4) (hg:-1≤g∧g≤3) (hal:1≤al∧al≤shl1 r-1) (hgr:0≤gr∧gr<3):tenOk r ⟨a,b,p,g,al,gr,no⟩=true:=by
 unfold tenOk inR
 simp only[Bool.and_eq_true,decide_eq_true_eq]
 omega
def ctBetw:CT:=fun vs mem nx K=>∃ v lo hi,vs=[.int .i64 v,.int .i64 lo,.int .i64 hi]∧(lo≤hi∧-1000000≤lo∧hi≤1000000)∧∀ r:Int,lo≤r→r≤hi→K (.int .i64 r) mem nx
theorem betwOk:CSound Try.prog 47 ctBetw:=⟨by kernel_rfl,fun {C ρ fr mem nx a w vs K} hc hs hv=>by
 obtain⟨v,lo,hi,rfl,⟨h1,h2,h3⟩,hK⟩:=hc
 refine (mkBetween_any v lo hi w h1 h2 h3).mono ?_
 rintro e w' ⟨⟨r,hr1,hr2,-,rfl⟩,rfl⟩
 exact⟨.int .i64 r,mem,nx,ρ,rfl,hK r hr1 hr2,hs,trivial,ExtS.refl _ _⟩⟩
theorem snoc_el {α:Type} {enc:α→List Value} {d:α} {l:List α} {x:α} {el el2:Nat→List Value} (h0:∀ j,j<l.length→el j=enc (l.getD j d)) (h1:∀ j,j<l.length→el2 j=el j) (h2:el2 (l.length+0)=enc x):∀ j,j<(l++[x]).length→el2 j=enc ((l++[x]).getD j d):=by
 intro j hj
 by_cases hjn:j<l.length
 ·rw[h1 j hjn,h0 j hjn,List.getD_eq_getElem?_getD,List.getD_eq_getElem?_getD,List.getElem?_append_left hjn]
 ·obtain rfl:j=l.length:=by simp at hj;omega
  rw[Nat.add_zero] at h2
  rw[h2,List.getD_eq_getElem?_getD,List.getElem?_append_right (Nat.le_refl _),Nat.sub_self]
  rfl
theorem one_el {α:Type} {enc:α→List Value} {d x:α} {el2:Nat→List Value} (h2:el2 0=enc x):∀ j,j<[x].length→el2 j=enc ([x].getD j d):=by
 intro j hj
 obtain rfl:j=0:=by simpa using hj
 exact h2
theorem cwz {n rg:Int} (hn:0≤n) (hr:1≤rg):(true&&[Int.tmod n rg].all (fun z=>inR z 0 (rg-1)))=true:=by
 have t1:=Int.tmod_nonneg rg hn
 have t2:=Int.tmod_lt_of_pos n (show 0<rg by omega)
 simp[inR]
 omega
theorem cwc {n z r:Int} (hn:0≤n) (hz:1≤z) (hr:1≤r∧r≤4):(true&&[(Int.tmod n z,IntKind.i64.wrap (r * 10))].all (fun y=>inR y.1 0 (z-1)&&inR y.2 1 40))=true:=by
 have t1:=Int.tmod_nonneg z hn
 have t2:=Int.tmod_lt_of_pos n (show 0<z by omega)
 rw[wrapi (n:=r * 10) (by omega)]
 simp[inR]
 omega
theorem cwi {z r:Int} (hr:0≤r∧r<z):(true&&[r].all (fun y=>inR y 0 (z-1)))=true:=by
 simp[inR]
 omega
end Go.Proofs.Ytdjkeplekchfdaa
