import Derived.Test.YtjnndjnpcelafaaGreatPt19
import Derived.Test.YtjnndjnpcelafaaGreatRows
namespace Go.Proofs.YtjnndjnpcelafaaGreat
set_option maxHeartbeats 16000000
set_option maxRecDepth 100000
open Go.RowKit
set_option linter.unusedSimpArgs false
set_option linter.unusedVariables false
/-! slices.Clone,state.New,state.Apply: rows of the caller's own. -/
theorem znu:(Tryz.prog.info? 43).map (fun i=>(i.zero,i.size,i.bytes))=some (some (.agg #[.int .i64 0,.int .i64 0,.int .i64 0,.int .i64 0,.int .i64 0,.int .i64 0,.int .i64 0,.int .i64 0,.int .i64 0]),9,72):=by kernel_rfl
theorem ckEntNil (n cp:Nat) (w:World):Sem.run Tryz.prog (binOp BinOp.eql 32 (.slice none n cp) (.slice none 0 0)) w=.ok (.bool true) w:=by kernel_rfl
theorem znt (ad:Addr) (n cp:Nat) (w:World):Sem.run Tryz.prog (binOp BinOp.eql 32 (.slice (some ad) n cp) (.slice none 0 0)) w=.ok (.bool false) w:=by kernel_rfl
theorem ckEntPl (x:Ent):∀ v ∈ zbe x,zam v:=by
 intro v hv;simp only[zbe,List.mem_cons,List.not_mem_nil,or_false] at hv;rcases hv with rfl | rfl | rfl | rfl | rfl | rfl | rfl | rfl | rfl<;>trivial
theorem zns (A:Option Addr) (cp:Nat) (l:List Ent) (w:World) (hl:l.length<=100) (hr:Rd w (·<w.heap.size) A (zaJ zbe l)) :
  Calls Tryz.prog 141 #[.slice A l.length cp] w (zdX 43 9 w l.length (zaJ zbe l)):=by
 obtain⟨ii,hii,hi0,hi1,hi2⟩:=info_parts znu;have hlen:=zbs (enc:=zbe) (sz:=9) (fun _=>rfl) l;cases A with
 | none=>
  have h0:l=[]:=by
   cases l with
   | nil=>rfl
   | cons a r=>
    obtain⟨b,o,hA,_⟩:=hr (by simp[zaJ,zbe]);cases hA
  subst h0;go_enter Tryz.func141,Tryz.ntmps141;have hq:=ckEntNil 0 cp w;go_wp2;go_ret;exact⟨none,0,rfl,World.ownsRow_nil _ _ _ _,Below.refl _ _⟩
 | some ad=>
  have hq:=znt ad l.length cp w;have h0:=World.ownsRow_lit (base:=w.heap.size) (e:=43) (size:=9) w #[] 0 nl_ (by unfold maxLen;omega) rfl;have hb0:=(Below.refl w.heap.size w).alloc nl_ (.cells #[] 43);have h1:=(hr.alloc (.cells #[] 43));have hone:∀ u ∈ zaJ zbe l,u.oneCell'=true:=by
   intro u hu;obtain⟨a,_,ha⟩:=List.mem_flatMap.1 (show u ∈ l.flatMap zbe from hu);simp only[zbe,List.mem_cons,List.not_mem_nil,or_false] at ha;rcases ha with rfl | rfl | rfl | rfl | rfl | rfl | rfl | rfl | rfl<;>rfl
  go_enter Tryz.func141,Tryz.ntmps141;go_wp2_with (at_builtin;refine zaV _ rfl _ _ _ rfl w.heap.size 43 ii _ 9 72 Tryz.underlying32 hii hi0 hi1 hi2 rfl o_ _ 0 [] rfl h0 _ (some ad) l.length cp (zaJ zbe l) rfl hlen h1 hone ?c1 ?c2 ?c3 ?_);case c1=>unfold maxLen;omega
  case c2=>omega
  intro v' w2 hown hg hat;(try rw[Nat.zero_add] at hown);(try rw[List.nil_append] at hown)
  obtain⟨A',cp',rfl⟩:=zcM hown;have HO:=Lib.hid hown;have HB:=Lib.hid (hb0.grown hg (by simp) (fun k hk=>by injection hk with hk;rw[← hk];exact nl_));clear hown hg hat h0 hb0 hq;go_wp2;go_ret;exact⟨A',cp',rfl,HO.out,HB.out⟩
def ctOZone:CT:=fun vs mem nx K=>∃ r cap l,vs=[slc r (l:List Int).length cap]/\HasRow mem r 1 zaw 0 l/\l.length<=100/\∀ cap2,K (slc nx l.length cap2) ((nx,zaz (1000000+93) 1 zaw 0 l)::mem) (nx+1)
theorem oZoneOk:CSound Tryz.prog 167 ctOZone:=⟨k_,fun {C ρ fr mem nx a w vs K} hc hs hv=>by
 obtain⟨r,cap,l,rfl,hr,hl,hK⟩:=hc;refine (zl3 (ρ r).A cap l w hl (hs.hasRd (enc:=zaw) (sz:=1) (fun _=>rfl) o_ hr)).mono ?_;rintro e w' ⟨A,cp,rfl,ho,hb⟩;obtain⟨b,hL⟩:=zcL (enc:=zaw) (sz:=1) (fun _=>rfl) o_ 0 ho;have q2:zac ρ nx ⟨A,1,l.length,false,za4⟩ nx=⟨A,1,l.length,false,za4⟩:=za2 _ _ _;have q3:=hs.addOwnRow (enc:=zaw) (sz:=1) (d:=0) hb (fun _=>rfl) ckZonePl 93 hL;refine⟨slc nx l.length cp,_,_,zac ρ nx ⟨A,1,l.length,false,za4⟩,?_,hK cp,q3,?_,fun i hi=>za8 _ _ hi,o_⟩
 ·show Ending.returned (.slice A l.length cp)=.returned (.slice (zac ρ nx ⟨A,1,l.length,false,za4⟩ nx).A l.length cp);rw[q2]
 ·exact⟨show nx<nx+1 by omega,by rw[q2]⟩⟩
def ctOCell:CT:=fun vs mem nx K=>∃ r cap l,vs=[slc r (l:List (Int×Int)).length cap]/\HasRow mem r 2 zaI (0,0) l/\l.length<=100/\∀ cap2,K (slc nx l.length cap2) ((nx,zaz (1000000+95) 2 zaI (0,0) l)::mem) (nx+1)
theorem oCellOk:CSound Tryz.prog 168 ctOCell:=⟨k_,fun {C ρ fr mem nx a w vs K} hc hs hv=>by
 obtain⟨r,cap,l,rfl,hr,hl,hK⟩:=hc;refine (zl6 (ρ r).A cap l w hl (hs.hasRd (enc:=zaI) (sz:=2) (fun _=>rfl) o_ hr)).mono ?_;rintro e w' ⟨A,cp,rfl,ho,hb⟩;obtain⟨b,hL⟩:=zcL (enc:=zaI) (sz:=2) (fun _=>rfl) o_ (0,0) ho;have q2:zac ρ nx ⟨A,2,l.length,false,za4⟩ nx=⟨A,2,l.length,false,za4⟩:=za2 _ _ _;have q3:=hs.addOwnRow (enc:=zaI) (sz:=2) (d:=(0,0)) hb (fun _=>rfl) ckCellPl 95 hL;refine⟨slc nx l.length cp,_,_,zac ρ nx ⟨A,2,l.length,false,za4⟩,?_,hK cp,q3,?_,fun i hi=>za8 _ _ hi,o_⟩
 ·show Ending.returned (.slice A l.length cp)=.returned (.slice (zac ρ nx ⟨A,2,l.length,false,za4⟩ nx).A l.length cp);rw[q2]
 ·exact⟨show nx<nx+1 by omega,by rw[q2]⟩⟩
def ctOTen:CT:=fun vs mem nx K=>∃ r cap l,vs=[slc r (l:List Ten).length cap]/\HasRow mem r 7 zd8 default l/\l.length<=100/\∀ cap2,K (slc nx l.length cap2) ((nx,zaz (1000000+98) 7 zd8 default l)::mem) (nx+1)
theorem oTenOk:CSound Tryz.prog 169 ctOTen:=⟨k_,fun {C ρ fr mem nx a w vs K} hc hs hv=>by
 obtain⟨r,cap,l,rfl,hr,hl,hK⟩:=hc;refine (znm (ρ r).A cap l w hl (hs.hasRd (enc:=zd8) (sz:=7) (fun _=>rfl) o_ hr)).mono ?_;rintro e w' ⟨A,cp,rfl,ho,hb⟩;obtain⟨b,hL⟩:=zcL (enc:=zd8) (sz:=7) (fun _=>rfl) o_ default ho;have q2:zac ρ nx ⟨A,7,l.length,false,za4⟩ nx=⟨A,7,l.length,false,za4⟩:=za2 _ _ _;have q3:=hs.addOwnRow (enc:=zd8) (sz:=7) (d:=default) hb (fun _=>rfl) ckTenPl 98 hL;refine⟨slc nx l.length cp,_,_,zac ρ nx ⟨A,7,l.length,false,za4⟩,?_,hK cp,q3,?_,fun i hi=>za8 _ _ hi,o_⟩
 ·show Ending.returned (.slice A l.length cp)=.returned (.slice (zac ρ nx ⟨A,7,l.length,false,za4⟩ nx).A l.length cp);rw[q2]
 ·exact⟨show nx<nx+1 by omega,by rw[q2]⟩⟩
def ctOVer:CT:=fun vs mem nx K=>∃ r cap l,vs=[slc r (l:List (Int×Int)).length cap]/\HasRow mem r 2 zaI (0,0) l/\l.length<=100/\∀ cap2,K (slc nx l.length cap2) ((nx,zaz (1000000+100) 2 zaI (0,0) l)::mem) (nx+1)
theorem oVerOk:CSound Tryz.prog 170 ctOVer:=⟨k_,fun {C ρ fr mem nx a w vs K} hc hs hv=>by
 obtain⟨r,cap,l,rfl,hr,hl,hK⟩:=hc;refine (znj (ρ r).A cap l w hl (hs.hasRd (enc:=zaI) (sz:=2) (fun _=>rfl) o_ hr)).mono ?_;rintro e w' ⟨A,cp,rfl,ho,hb⟩;obtain⟨b,hL⟩:=zcL (enc:=zaI) (sz:=2) (fun _=>rfl) o_ (0,0) ho;have q2:zac ρ nx ⟨A,2,l.length,false,za4⟩ nx=⟨A,2,l.length,false,za4⟩:=za2 _ _ _;have q3:=hs.addOwnRow (enc:=zaI) (sz:=2) (d:=(0,0)) hb (fun _=>rfl) ckVerPl 100 hL;refine⟨slc nx l.length cp,_,_,zac ρ nx ⟨A,2,l.length,false,za4⟩,?_,hK cp,q3,?_,fun i hi=>za8 _ _ hi,o_⟩
 ·show Ending.returned (.slice A l.length cp)=.returned (.slice (zac ρ nx ⟨A,2,l.length,false,za4⟩ nx).A l.length cp);rw[q2]
 ·exact⟨show nx<nx+1 by omega,by rw[q2]⟩⟩
def ctOInt:CT:=fun vs mem nx K=>∃ r cap l,vs=[slc r (l:List Int).length cap]/\HasRow mem r 1 zaw 0 l/\l.length<=100/\∀ cap2,K (slc nx l.length cap2) ((nx,zaz (1000000+3) 1 zaw 0 l)::mem) (nx+1)
theorem oIntOk:CSound Tryz.prog 171 ctOInt:=⟨k_,fun {C ρ fr mem nx a w vs K} hc hs hv=>by
 obtain⟨r,cap,l,rfl,hr,hl,hK⟩:=hc;refine (znp (ρ r).A cap l w hl (hs.hasRd (enc:=zaw) (sz:=1) (fun _=>rfl) o_ hr)).mono ?_;rintro e w' ⟨A,cp,rfl,ho,hb⟩;obtain⟨b,hL⟩:=zcL (enc:=zaw) (sz:=1) (fun _=>rfl) o_ 0 ho;have q2:zac ρ nx ⟨A,1,l.length,false,za4⟩ nx=⟨A,1,l.length,false,za4⟩:=za2 _ _ _;have q3:=hs.addOwnRow (enc:=zaw) (sz:=1) (d:=0) hb (fun _=>rfl) ckIntPl 3 hL;refine⟨slc nx l.length cp,_,_,zac ρ nx ⟨A,1,l.length,false,za4⟩,?_,hK cp,q3,?_,fun i hi=>za8 _ _ hi,o_⟩
 ·show Ending.returned (.slice A l.length cp)=.returned (.slice (zac ρ nx ⟨A,1,l.length,false,za4⟩ nx).A l.length cp);rw[q2]
 ·exact⟨show nx<nx+1 by omega,by rw[q2]⟩⟩
def ctApplyOH:CT:=fun vs mem nx K=>∃ N x c M y s e,vs=[zaX N x c,stV M y s,entV' e]/\HasCfg mem N c/\(HasRow mem M.t 12 tsC default s.tenants/\HasRow mem M.c 4 csC default s.cells)/\CfgV c/\StInv c s/\∀ y2,K (.tuple #[stV ⟨nx+1,nx,0⟩ y2 (zao c s e).1,.int .i64 (zao c s e).2]) (stMO ⟨nx+1,nx,0⟩ (zao c s e).1++mem) (nx+2)
theorem znK:CSound Tryz.prog 10 ctApplyOH:=⟨k_,fun {C ρ fr mem nx a w vs K} hc hs hv=>by
 obtain⟨N,x,c,M,y,s,e,rfl,hk1,⟨h1,h2⟩,hV,hI,hK⟩:=hc;rw[List.map_cons,zaP,List.map_cons,zc3,List.map_cons,(zag (zap e) _ 0).1];refine (zf3 (zdp ρ N x) c (stX ρ M y) s e w hV (hs.cfgH hk1) hI (hs.stRow h1 h2)).mono ?_;rintro r w' ⟨y2,rfl,ho,hb⟩;obtain⟨q1,q2,q3,q4⟩:=hs.addOwnSt hb ho;refine⟨.tuple #[stV ⟨nx+1,nx,0⟩ ⟨y2.ct,y2.cc⟩ (zao c s e).1,.int .i64 (zao c s e).2],_,_,_,?_,hK ⟨y2.ct,y2.cc⟩,q1,?_,q4⟩
 ·rw[← q2];simp[den,zaW,zal]
 ·intro u hu;simp at hu;rcases hu with rfl | rfl
  ·exact q3
  ·trivial⟩
theorem zhk (x:CfgA) (c:Cfg) (w:World) (hc:CfgOk w (·<w.heap.size) x c) (hnt:c.tenants.length<=1000) (hnc:c.cells.length<=1000) :
  Calls Tryz.prog 9 #[.agg (zaH x c)] w fun e w'=>∃ y,e=.returned (.agg (stC y (zaB c)))/\StOwn2 w.heap.size w' y (zaB c)/\Below w.heap.size w w':=by
 have hpc:CfgPl (cpl x c) CN1 x c:=⟨rfl,rfl,rfl,rfl,rfl,rfl⟩
 have hm:MemAt { w0:=w,bor:=[],n0:=6,ρ0:=cpl x c,nt:=(Tryz.f9).ntmps } (cpl x c) (zcH CN1 c) 6 w:=MemAt.rows trivial (by
  have:=zcR (C:={ w0:=w,bor:=[],n0:=6,ρ0:=cpl x c,nt:=(Tryz.f9).ntmps }) (nx:=6) (r:=[]) hpc hc (fun b hb=>hb) d_ trivial
  exact this)
 have hv0:#[Value.agg (zaH x c)]=([zaX CN1 ⟨x.cz,x.cc,x.ct,x.cv,x.cr,x.co⟩ c].map (den (cpl x c))).toArray:=by
  rw[List.map_cons,zaP];rfl
 rw[hv0];refine (zcu zg6 zb7 mixed Tryz.func9 rfl (D:=newD) k_ (vs:=[zaX CN1 ⟨x.cz,x.cc,x.ct,x.cv,x.cr,x.co⟩ c]) rfl ⟨rfl,rfl⟩ rfl hm (fun v hv=>?_) (new_sx _ c hnt hnc)).mono ?_
 ·obtain rfl:v=_:=by simpa using hv
  intro u hu;simp at hu;rcases hu with rfl | rfl | rfl | rfl | rfl | rfl | rfl | rfl | rfl | rfl<;>first | trivial | exact⟨d_,rfl⟩
 ·rintro e w' ⟨v,mem',nx',ρ',rfl,⟨rfl,⟨eT,hT,hT2⟩,⟨eC,hC,hC2⟩⟩,hv,hm'⟩;have hlt:(zaB c).tenants.length=c.tenants.length:=by simp[zaB]
  have hlc:(zaB c).cells.length=c.cells.length:=by simp[zaB]
  obtain⟨y2,e1,e2⟩:=hm'.own2 rfl (s:=zaB c) (rT:=8) (rC:=9) d_ ⟨_,c.tenants.length,_,_,_,rfl,hlt.symm,hT,rfl,by rw[hlt];exact nl_,fun k hk=>by rw[hT2 k (by rw[← hlt];exact hk)];simp only[zaB];rw[zde (by rw[← hlt];exact hk)]⟩ ⟨_,c.cells.length,_,_,_,rfl,hlc.symm,hC,rfl,by rw[hlc];exact nl_,fun k hk=>by rw[hC2 k (by rw[← hlc];exact hk)];simp only[zaB];rw[zde (by rw[← hlc];exact hk)]⟩;exact⟨y2,by rw[← e1];rfl,e2,⟨hm'.rest.os,hm'.rest.tape,hm'.rest.output,hm'.rest.size,fun b hlt=>hm'.rest.block b hlt (by simp)⟩⟩
def ctNewO:CT:=fun vs mem nx K=>∃ N x c,vs=[zaX N x c]/\HasCfg mem N c/\(c.tenants.length<=1000/\c.cells.length<=1000)/\∀ y,K (stV ⟨nx+1,nx,0⟩ y (zaB c)) (stMO ⟨nx+1,nx,0⟩ (zaB c)++mem) (nx+2)
theorem newOOk:CSound Tryz.prog 9 ctNewO:=⟨k_,fun {C ρ fr mem nx a w vs K} hc hs hv=>by
 obtain⟨N,x,c,rfl,hk,⟨hnt,hnc⟩,hK⟩:=hc;rw[List.map_cons,zaP];refine (zhk (zdp ρ N x) c w (hs.cfgH hk) hnt hnc).mono ?_;rintro r w' ⟨y2,rfl,ho,hb⟩;obtain⟨q1,q2,q3,q4⟩:=hs.addOwnSt hb ho
 exact⟨stV ⟨nx+1,nx,0⟩ ⟨y2.ct,y2.cc⟩ (zaB c),_,_,_,by rw[← q2],hK ⟨y2.ct,y2.cc⟩,q1,q3,q4⟩⟩
/-! quorum.Commit,Log,Committed,Flush -/
abbrev ctHasI:CT:=zat ttP [] [] Tryz.f185 (za1 Tryz.f185)
theorem ziH {I:List Nat} (h:I.contains 185=true):zab Tryz.prog I 185 ctHasI:=zad zaT (D:=[]) za3 mixed k_ Tryz.func185 rfl k_ h
abbrev qCF:FT:=[(185,ctHasI),(186,ctRCommit)]
abbrev qCD:List (Nat×DQ):=[(9000000,{ k:=0,L:=[185] })]
abbrev qCpost (_:Unit) (q:QSt) (r:Int) (q':QSt):Prop:=r=q.es.length/\q'=q
def ctQCommit:CT:=zbu (X:=Unit) qI qM 4 4 0 (fun _=>[.int .i64 0]) (fun _=>[]) (fun _ q=>q.ph=0) qCpost (fun _ r=>.int .i64 r) (fun _ _=>[])
theorem zkz (q:QSt) (y:QY) (hq:q.ph=0) (hy:qI q y):sx ttP qCF qCD (za1 Tryz.f116) (zb3 0 (.pointer (some ⟨0,0,none⟩)::[.int .i64 0])) (qM q y++[]) 4 (zb8 ttP Tryz.f116.results.toList (zch (X:=Unit) qI qM 4 4 qCpost (fun _ r=>.int .i64 r) (fun _ _=>[]) () q)):=by
 obtain⟨S,r,cap0,tl,cap,el⟩:=y;obtain⟨n,ph,led,es⟩:=q;obtain⟨⟨hn,hle,hled⟩,h1,htl,hcom⟩:=hy;dsimp only at hn hle hled hcom hq;repeat (first | refine⟨fun _=>?_,bt_⟩ | refine⟨bf_,fun _=>?_⟩ | refine⟨⟨na_,nb_,nb_⟩,?_⟩ | refine⟨fun q=>absurd q nc_,fun _=>?_⟩ | refine⟨fun _=>?_,fun q=>absurd q s_⟩ | refine⟨fun q=>absurd q s_,fun _=>?_⟩ | refine⟨⟨d_,d_,d_⟩,?_⟩)
 refine⟨(),r,2,S,[(0,2),(1,2)],trivial,rfl,rfl,trivial,rfl,fun r1 q1 S1 hq1=>?_⟩;obtain⟨hr1,rfl⟩:=hq1;rw[h1.commit] at hr1;subst r1;refine⟨_,⟨n,ph,led,es⟩,.one S1 q1 cap0 tl cap el,[],⟨rfl,rfl⟩,⟨⟨hn,hle,hled⟩,h1,htl,hcom⟩,⟨rfl,rfl,?_⟩,rfl,?_⟩
 ·cases es<;>rfl
 ·cases es with
  | nil=>exact⟨rfl,zb0 [] htl,rfl,trivial⟩
  | cons e0 es0=>exact⟨rfl,zb0 [] htl,rfl,rfl,trivial⟩
theorem zmk:CSound Tryz.prog 116 ctQCommit:=zbb zaT (D:=qCD) (za0 (ziH d_) (za0 (zhx.i _) za3)) mixed k_ Tryz.func116 rfl k_ ⟨d_,d_⟩ (fun _=>rfl) qB (fun _=>rfl) (fun _ _=>rfl) (fun _ q y hq hy=>zkz q y hq hy)
abbrev qGF:FT:=[(185,ctHasI),(240,ctRLog)]
abbrev qGpost (_:Unit) (q:QSt) (_:Unit) (q':QSt):Prop:=q'=q
def ctQLog0:CT:=zbu (X:=Unit) (R:=Unit) qI qM 4 4 0 (fun _=>[.int .i64 0]) (fun _=>[]) (fun _ q=>q.ph=0/\q.es=[]) qGpost (fun _ r=>zs0) (fun _ _=>[])
theorem qLog0_sx (q:QSt) (y:QY) (hq:q.ph=0/\q.es=[]) (hy:qI q y):sx ttP qGF qCD (za1 Tryz.f187) (zb3 0 (.pointer (some ⟨0,0,none⟩)::[.int .i64 0])) (qM q y++[]) 4 (zb8 ttP Tryz.f187.results.toList (zch (X:=Unit) (R:=Unit) qI qM 4 4 qGpost (fun _ r=>zs0) (fun _ _=>[]) () q)):=by
 obtain⟨S,r,cap0,tl,cap,el⟩:=y;obtain⟨n,ph,led,es⟩:=q;obtain⟨hq,rfl⟩:=(show ph=0/\es=[] from hq);obtain⟨⟨hn,hle,hled⟩,h1,htl,hcom⟩:=hy;dsimp only at hn hle hled hcom;have hl0:r.j.log=[]:=h1.log;repeat (first | refine⟨fun _=>?_,bt_⟩ | refine⟨bf_,fun _=>?_⟩ | refine⟨⟨na_,nb_,nb_⟩,?_⟩ | refine⟨fun q=>absurd q nc_,fun _=>?_⟩ | refine⟨fun _=>?_,fun q=>absurd q s_⟩ | refine⟨fun q=>absurd q s_,fun _=>?_⟩ | refine⟨⟨d_,d_,d_⟩,?_⟩)
 refine⟨(),r,2,S,[(0,2),(1,2)],by show r.j.log.length<=4096;rw[hl0];exact Nat.zero_le _,rfl,rfl,trivial,rfl,fun r1 q1 S1 hq1=>?_⟩;obtain⟨hr1,rfl⟩:=hq1;rw[hl0] at hr1;rcases r1 with _ | ⟨m1,c1,e1⟩
 ·refine⟨(),⟨n,ph,led,[]⟩,.one S1 q1 cap0 tl cap el,[],rfl,⟨⟨hn,hle,hled⟩,h1,htl,hcom⟩,⟨rfl,rfl,rfl⟩,rfl,?_⟩;exact⟨rfl,zb0 [] htl,rfl,trivial⟩
 ·exact absurd hr1.1 (by rw[hr1.2.1];decide)
theorem qLog0Ok:CSound Tryz.prog 187 ctQLog0:=zbb zaT (D:=qCD) (za0 (ziH d_) (za0 (rLogOk.i _) za3)) mixed k_ Tryz.func187 rfl k_ ⟨d_,d_⟩ (fun _=>rfl) qB (fun _=>rfl) (fun _ _=>rfl) (fun _ q y hq hy=>qLog0_sx q y hq hy)
/-! Flush: nothing is in flight. -/
abbrev qFD:List (Nat×DQ):=[(6000002,{ k:=1,L:=[] }),(6,{ k:=11,L:=[],pre:=[(0,false),(1,false),(2,false),(3,false),(4,false),(5,false),(6,false),(7,false),(8,false),(9,false),(10,true)] })]
abbrev qFpost (_:Unit) (q:QSt) (_:Int) (q':QSt):Prop:=q'={ q with ph:=0,led:=q.led||decide (q.ph=1) }
def ctQFlush1:CT:=zbu (X:=Unit) qI qM 4 4 0 (fun _=>[.int .i64 1]) (fun _=>[]) (fun _ q=>q.ph≠0) qFpost (fun _ r=>.int .i64 r) (fun _ _=>[])
theorem zky (q:QSt) (y:QY) (_:q.ph≠0) (hy:qI q y):sx ttP [] qFD (za1 Tryz.f115) (zb3 0 (.pointer (some ⟨0,0,none⟩)::[.int .i64 1])) (qM q y++[]) 4 (zb8 ttP Tryz.f115.results.toList (zch (X:=Unit) qI qM 4 4 qFpost (fun _ r=>.int .i64 r) (fun _ _=>[]) () q)):=by
 obtain⟨S,r,cap0,tl,cap,el⟩:=y;obtain⟨n,ph,led,es⟩:=q;obtain⟨⟨hn,hle,hled⟩,h1,htl,hcom⟩:=hy;dsimp only at hn hle hled hcom;repeat (first | refine⟨fun _=>?_,bt_⟩ | refine⟨bf_,fun _=>?_⟩ | refine⟨⟨na_,nb_,nb_⟩,?_⟩ | refine⟨fun q=>absurd q nc_,fun _=>?_⟩ | refine⟨fun _=>?_,fun q=>absurd q s_⟩ | refine⟨fun q=>absurd q s_,fun _=>?_⟩ | refine⟨⟨d_,d_,d_⟩,?_⟩)
 have hor:((led||decide (ph=1))||decide ((0:Nat)=1))=(led||decide (ph=1)):=by simp
 refine⟨_,⟨n,0,led||decide (ph=1),es⟩,.one S r cap0 tl cap el,[],rfl,⟨⟨hn,hle,fun h=>hled (by cases led<;>simp_all)⟩,⟨h1.id,h1.n,by rw[hor];exact h1.term,by rw[hor];exact h1.role,h1.log,h1.commit,by rw[hor];exact h1.dl⟩,htl,hcom⟩,⟨rfl,rfl,?_⟩,rfl,?_⟩
 ·cases es<;>rfl
 ·cases es with
  | nil=>exact⟨rfl,zb0 [] htl,rfl,trivial⟩
  | cons e0 es0=>exact⟨rfl,zb0 [] htl,rfl,rfl,trivial⟩
theorem zmi:CSound Tryz.prog 115 ctQFlush1:=zbb zaT (D:=qFD) za3 mixed k_ Tryz.func115 rfl k_ ⟨d_,d_⟩ (fun _=>rfl) qB (fun _=>rfl) (fun _ _=>rfl) (fun _ q y hq hy=>zky q y hq hy)
/-! Committed -/
/-! quorum.Do: a campaign,an entry. -/
abbrev peD:List (Nat×DQ):=[(9000000,{ k:=0,L:=[185] }),(10,{ k:=11,L:=[],pre:=[(0,false),(1,false),(2,false),(3,false),(4,false),(5,false),(6,false),(7,false),(8,false),(9,false),(10,false)] })]
abbrev ctPermI:CT:=zat ttP [(185,ctHasI)] peD Tryz.f176 (za1 Tryz.f176)
theorem qPermIok {I:List Nat} (h:I.contains 176=true):zab Tryz.prog I 176 ctPermI:=zad zaT (D:=peD) (za0 (ziH d_) za3) mixed k_ Tryz.func176 rfl k_ h
abbrev seD:List (Nat×DQ):=[(6000001,{ k:=1,L:=[] }),(5,{ k:=8,L:=[],pre:=[(0,false),(1,false),(2,false),(3,false),(4,false),(5,false),(6,true),(7,true)] })]
abbrev ctSendI:CT:=zat ttP [] seD Tryz.f177 (za1 Tryz.f177)
theorem qSendIok {I:List Nat} (h:I.contains 177=true):zab Tryz.prog I 177 ctSendI:=zad zaT (D:=seD) za3 mixed k_ Tryz.func177 rfl k_ h
abbrev noF:FT:=[(186,ctRCommit),(240,ctRLog)]
abbrev noD:List (Nat×DQ):=[(6000001,{ k:=2,L:=[] }),(3,{ k:=7,L:=[0],pre:=[(0,false),(2,false),(3,false),(4,false),(5,false),(6,false),(1,true)] }),(3000006,{ k:=9,L:=[0,1,2,7],sl:=[0,10,11,12,31,32] })]
abbrev ctNoteI:CT:=zat ttP noF noD Tryz.f184 (za1 Tryz.f184)
theorem qNoteIok {I:List Nat} (h:I.contains 184=true):zab Tryz.prog I 184 ctNoteI:=zad zaT (D:=noD) (za0 (zhx.i _) (za0 (rLogOk.i _) za3)) mixed k_ Tryz.func184 rfl k_ h
abbrev qdF:FT:=[(176,ctPermI),(177,ctSendI),(184,ctNoteI),(178,ctRCamp1),(179,ctRProp1)]
abbrev qdD:List (Nat×DQ):=[(9000000,{ k:=0,L:=[176,177,184] }),
 (5,{ k:=10,L:=[0,1,4],pre:=[(0,false),(1,false),(2,false),(3,false),(4,false),(5,false),(6,false),(7,true),(8,false),(9,true)] }),
 (7,{ k:=15,L:=[0,1,4],pre:=[(0,false),(1,false),(2,false),(3,false),(4,false),(5,false),(8,false),(9,false),(6,true),(7,false),(10,true),(11,false),(12,false),(13,false),(14,false)] }),
 (12,{ k:=10,L:=[],pre:=[(0,false),(1,false),(2,false),(3,false),(4,false),(5,false),(6,false),(7,false),(8,false),(9,true)] }),
 (14,{ k:=9,L:=[],pre:=[(0,false),(1,false),(2,false),(3,false),(4,false),(5,false),(6,false),(7,false),(8,true)] }),
 (16,{ k:=11,L:=[],pre:=[(0,false),(1,false),(2,false),(3,false),(4,false),(5,false),(6,false),(7,false),(8,false),(9,false),(10,true)] }),
 (18,{ k:=9,L:=[],pre:=[(0,false),(1,false),(2,false),(3,false),(4,false),(5,false),(6,false),(7,false),(8,true)] }),
 (19,{ k:=11,L:=[],pre:=[(0,false),(1,false),(2,false),(3,false),(4,false),(5,false),(6,false),(7,false),(8,false),(9,false),(10,true)] }),
 (23,{ k:=10,L:=[],pre:=[(0,false),(1,false),(2,false),(3,false),(4,false),(5,false),(6,false),(7,false),(8,false),(9,false)] })]
theorem qdFok:zaY Tryz.prog qdF (zbj qdD):=za0 (qPermIok d_) (za0 (qSendIok d_) (za0 (qNoteIok d_) (za0 (rCamp1Ok.i _) (za0 (rProp1Ok.i _) za3))))
abbrev actV (k w n:Int) (e:Ent):Value:=.agg #[.int .i64 k,.int .i64 w,.int .i64 n,.int .i64 e.kind,.int .i64 e.tick,.int .i64 e.tenant,.int .i64 e.cell,.int .i64 e.other,.int .i64 e.epoch,.int .i64 e.since,.int .i64 e.till,.int .i64 e.n]
abbrev doV:Option Ent->Value
 | none=>actV 1 0 0 default
 | some e=>actV 2 0 0 e
def qDpre:Option Ent->QSt->Prop
 | none,q=>q.ph=0/\q.led=false
 | some e,q=>q.ph=0/\q.led=true/\(zaN 32 16 4 30 e=true/\EntIn e)/\q.es.length<4096
def zmj:Option Ent->QSt->Unit->QSt->Prop
 | none,q,_,q'=>q'={ q with ph:=1 }
 | some e,q,_,q'=>q'={ q with ph:=2,es:=q.es++[e] }
def ctQDo:CT:=zbu (X:=Option Ent) (R:=Unit) qI qM 4 4 0 (fun x=>[doV x]) (fun _=>[]) qDpre zmj (fun _ _=>.int .i64 0) (fun _ _=>[])
theorem qDoC_sx (q:QSt) (y:QY) (hq:qDpre none q) (hy:qI q y):sx ttP qdF qdD (za1 Tryz.f114) (zb3 0 (.pointer (some ⟨0,0,none⟩)::[doV none])) (qM q y++[]) 4 (zb8 ttP Tryz.f114.results.toList (zch (X:=Option Ent) (R:=Unit) qI qM 4 4 zmj (fun _ _=>.int .i64 0) (fun _ _=>[]) none q)):=by
 obtain⟨S,r,cap0,tl,cap,el⟩:=y;obtain⟨n,ph,led,es⟩:=q;obtain⟨rfl,rfl⟩:=(show ph=0/\led=false from hq);obtain⟨⟨hn,hle,hled⟩,h1,htl,hcom⟩:=hy;obtain rfl:es=[]:=hled rfl;dsimp only at hn hle;have ht:r.j.term=0:=h1.term;have hcm:r.commit=0:=h1.commit;have hlg:r.j.log=[]:=h1.log;have hdl:r.j.dl<=1000:=h1.dl;repeat (first | refine⟨fun _=>?_,bt_⟩ | refine⟨bf_,fun _=>?_⟩ | refine⟨⟨na_,nb_,nb_⟩,?_⟩ | refine⟨fun q=>absurd q nc_,fun _=>?_⟩ | refine⟨fun _=>?_,fun q=>absurd q s_⟩ | refine⟨fun q=>absurd q s_,fun _=>?_⟩ | refine⟨⟨d_,d_,d_⟩,?_⟩)
 refine⟨kp_,?_⟩;refine⟨(),r,2,S,[(0,2),(1,2)],⟨⟨h1.n,h1.id⟩,o_,o_⟩,rfl,rfl,trivial,rfl,fun rr q1 S1 hq1=>?_⟩;obtain⟨he1,hd1⟩:=hq1;refine⟨kp_,?_⟩;repeat (first | refine⟨fun _=>?_,bt_⟩ | refine⟨bf_,fun _=>?_⟩ | refine⟨⟨na_,nb_,nb_⟩,?_⟩ | refine⟨fun q=>absurd q nc_,fun _=>?_⟩ | refine⟨fun _=>?_,fun q=>absurd q s_⟩ | refine⟨fun q=>absurd q s_,fun _=>?_⟩ | refine⟨⟨d_,d_,d_⟩,?_⟩)
 refine⟨(),q1,2,S1,[(0,2),(1,2)],trivial,rfl,rfl,trivial,rfl,fun r2 q2 S2 hq2=>?_⟩;obtain⟨hr2,hq2e⟩:=hq2;subst hq2e;replace hr2:r2=0:=hr2.trans (by rw[he1];exact hcm);subst r2;refine⟨kp_,?_⟩;repeat (first | refine⟨fun _=>?_,bt_⟩ | refine⟨bf_,fun _=>?_⟩ | refine⟨⟨na_,nb_,nb_⟩,?_⟩ | refine⟨fun q=>absurd q nc_,fun _=>?_⟩ | refine⟨fun _=>?_,fun q=>absurd q s_⟩ | refine⟨fun q=>absurd q s_,fun _=>?_⟩ | refine⟨⟨d_,d_,d_⟩,?_⟩)
 refine⟨(),⟨n,1,false,[]⟩,.one S2 q2 cap0 tl cap el,[],rfl,⟨⟨hn,hle,fun _=>rfl⟩,⟨by rw[he1];exact h1.id,by rw[he1];exact h1.n,by rw[he1];show r.j.term+1=1;omega,by rw[he1];rfl,by rw[he1];exact hlg,by rw[he1];exact hcm,by rw[he1];show rr.1<=2000+300 * 0;omega⟩,htl,fun h=>absurd rfl h⟩,⟨rfl,rfl,rfl⟩,rfl,?_⟩;exact⟨rfl,zb0 [] htl,rfl,trivial⟩
theorem zjQ (l:List Ent) (k:Nat):((l.map fun e=>((1:Int),e)).getD k default).2=l.getD k default:=by
 simp only[gd_,List.getElem?_map];cases l[k]?<;>rfl
theorem terms1 (l:List Ent) (i:Int):zdq (l.map fun e=>((1:Int),e)) i<=1:=by
 unfold zdq;split
 ·rename_i h
  rw[List.length_map] at h;rw[gd_,List.getElem?_map,List.getElem?_eq_getElem o_];exact il_
 ·decide
theorem qDoP_sx (e:Ent) (q:QSt) (y:QY) (hq:qDpre (some e) q) (hy:qI q y):sx ttP qdF qdD (za1 Tryz.f114) (zb3 0 (.pointer (some ⟨0,0,none⟩)::[doV (some e)])) (qM q y++[]) 4 (zb8 ttP Tryz.f114.results.toList (zch (X:=Option Ent) (R:=Unit) qI qM 4 4 zmj (fun _ _=>.int .i64 0) (fun _ _=>[]) (some e) q)):=by
 obtain⟨S,r,cap0,tl,cap,el⟩:=y;obtain⟨n,ph,led,es⟩:=q;obtain⟨rfl,rfl,⟨hsh,hIn⟩,hlen⟩:=(show ph=0/\led=true/\(zaN 32 16 4 30 e=true/\EntIn e)/\es.length<4096 from hq);obtain⟨⟨hn,hle,hled⟩,h1,htl,hcom⟩:=hy;dsimp only at hn hle hcom;have ht:r.j.term=1:=h1.term;have hcm:r.commit=es.length:=h1.commit;have hlg:r.j.log=es.map fun e=>(1,e):=h1.log
 have hdl:r.j.dl<=2000+300 * es.length:=h1.dl;have hll:r.j.log.length=es.length:=by rw[hlg,List.length_map]
 have hrl:r.role=3:=h1.role;repeat (first | refine⟨fun _=>?_,bt_⟩ | refine⟨bf_,fun _=>?_⟩ | refine⟨⟨na_,nb_,nb_⟩,?_⟩ | refine⟨fun q=>absurd q nc_,fun _=>?_⟩ | refine⟨fun _=>?_,fun q=>absurd q s_⟩ | refine⟨fun q=>absurd q s_,fun _=>?_⟩ | refine⟨⟨d_,d_,d_⟩,?_⟩)
 refine⟨kp_,?_⟩;refine⟨e,r,2,S,[(0,2),(1,2)],⟨⟨h1.n,h1.id,hrl⟩,o_,o_,by rw[ht,hlg];exact terms1 es _,⟨hsh,hIn⟩,o_,o_⟩,rfl,rfl,trivial,rfl,fun d1 q1 S1 hq1=>?_⟩;obtain⟨he1,hd1⟩:=hq1;refine⟨kp_,?_⟩;obtain⟨L,hLe⟩:∃ L,L=(es++[e]).length:=⟨_,rfl⟩;have hlen1:L=es.length+1:=hLe.trans List.length_append;have hlg1:q1.j.log=(es++[e]).map fun e=>(1,e):=by rw[he1];show r.j.log++[(r.j.term,e)]=_;rw[ht,hlg,List.map_append];rfl
 have hcm1:q1.commit=(L:Int):=by rw[he1];show (r.j.log.length:Int)+1=_;rw[hll,hlen1];rfl
 have hll1:q1.j.log.length=L:=by rw[hlg1,List.length_map,hLe]
 rcases es with _ | ⟨e0,es0⟩
 ·have hlen2:=hlen1;simp only[List.length_cons,List.length_nil] at hlen2;repeat (first | refine⟨fun _=>?_,bt_⟩ | refine⟨bf_,fun _=>?_⟩ | refine⟨⟨na_,nb_,nb_⟩,?_⟩ | refine⟨fun q=>absurd q nc_,fun _=>?_⟩ | refine⟨fun _=>?_,fun q=>absurd q s_⟩ | refine⟨fun q=>absurd q s_,fun _=>?_⟩ | refine⟨⟨d_,d_,d_⟩,?_⟩)
  refine⟨(),q1,2,S1,[(0,2),(1,2)],trivial,rfl,rfl,trivial,rfl,fun r2 q2 S2 hq2=>?_⟩;obtain⟨hr2,hq2e⟩:=hq2;replace hq2e:q1=q2:=hq2e.symm;subst hq2e;replace hr2:=hr2.trans hcm1;subst r2;refine⟨kp_,?_⟩;repeat (first | refine⟨fun _=>?_,bt_⟩ | refine⟨bf_,fun _=>?_⟩ | refine⟨⟨na_,nb_,nb_⟩,?_⟩ | refine⟨fun q=>absurd q nc_,fun _=>?_⟩ | refine⟨fun _=>?_,fun q=>absurd q s_⟩ | refine⟨fun q=>absurd q s_,fun _=>?_⟩ | refine⟨⟨d_,d_,d_⟩,?_⟩)
  refine⟨(),q1,2,S2,[(0,2),(1,2)],trivial,rfl,rfl,trivial,rfl,fun r3 q3 S3 hq3=>?_⟩;obtain⟨hr3,hq3e⟩:=hq3;replace hq3e:q1=q3:=hq3e.symm;subst hq3e;replace hr3:=hr3.trans hcm1;subst r3;refine⟨⟨o_,d_,by dsimp only;omega⟩,?_⟩;refine⟨(),q1,2,S3,[(0,2),(1,2)],by show q1.j.log.length<=4096;omega,rfl,rfl,trivial,rfl,fun lg q4 S4 hq4=>?_⟩;obtain⟨hlo,hq4e⟩:=hq4;replace hq4e:q1=q4:=hq4e.symm;subst hq4e;rcases lg with _ | ⟨m,cp2,el2⟩
  ·exact absurd (congrArg List.length (show q1.j.log=[] from hlo)) (by rw[hll1,hlen1];simp)
  obtain⟨hm0,hm1,hm2,hm3⟩:=hlo;rw[hll1] at hm1;subst hm1;refine⟨(),q1,2,S4,[(0,2),(1,2)],trivial,rfl,rfl,trivial,rfl,fun r5 q5 S5 hq5=>?_⟩;obtain⟨hr5,hq5e⟩:=hq5;replace hq5e:q1=q5:=hq5e.symm;subst hq5e;replace hr5:=hr5.trans hcm1;subst r5;refine⟨⟨o_,o_⟩,?_⟩;refine⟨Int×Nat×(Nat->List Value),fun q0=>[(33,.int .i64 q0.1),(4,slc 8 q0.2.1 m)],fun q0=>[(8,.row (1000000+43) 9 m q0.2.2)],fun q0=>q0.1=q0.2.1/\q0.2.1<=m/\∀ k,k<q0.2.1->q0.2.2 k=zbe (((q1.j.log).getD k default).2),fun q0=>m-q0.2.1,⟨(0,0,fun _=>[zi,zi,zi,zi,zi,zi,zi,zi,zi]),[(8,6)],⟨rfl,Nat.zero_le _,fun k hk=>absurd hk (Nat.not_lt_zero _)⟩,⟨rfl,rfl⟩,(by repeat (first | exact trivial | refine⟨rfl,?_⟩ | refine⟨zb0 [(8,6)] htl,?_⟩)),(by repeat (first | exact trivial | refine⟨rfl,?_⟩ | refine⟨zb0 [(8,6)] htl,?_⟩))⟩,?_⟩;rintro⟨i,c,el3⟩ ⟨hic,hi,hel⟩;dsimp only at hic hi hel;subst hic;refine⟨⟨d_,rfl,by show nmM 9 _=true;simp only[nmM,nmB,List.cons_append,List.nil_append,List.all_cons,tl_nm 9 htl,List.all_nil];rfl⟩,?_⟩;refine⟨fun hlt=>?_,fun hge=>?_⟩
  ·have hlt2:c<m:=by have:=of_decide_eq_true hlt;dsimp only at this;omega
   have h3:=hm3 c hlt2;repeat (first | refine⟨fun _=>?_,bt_⟩ | refine⟨bf_,fun _=>?_⟩ | refine⟨⟨na_,nb_,nb_⟩,?_⟩ | refine⟨fun q=>absurd q nc_,fun _=>?_⟩ | refine⟨fun _=>?_,fun q=>absurd q s_⟩ | refine⟨fun q=>absurd q s_,fun _=>?_⟩ | refine⟨⟨d_,d_,d_⟩,?_⟩)
   conv=>whnf
   rw[zfx (v:=(logV (q1.j.log.getD c default))) h3 ?hx ?ht ?hm ?hv];case hx=>rfl
   case ht=>rfl
   case hm=>rfl
   case hv=>rfl
   repeat (first | refine⟨fun _=>?_,bt_⟩ | refine⟨bf_,fun _=>?_⟩ | refine⟨⟨na_,nb_,nb_⟩,?_⟩ | refine⟨fun q=>absurd q nc_,fun _=>?_⟩ | refine⟨fun _=>?_,fun q=>absurd q s_⟩ | refine⟨fun q=>absurd q s_,fun _=>?_⟩ | refine⟨⟨d_,d_,d_⟩,?_⟩)
   refine⟨⟨nl_,zkN rfl⟩,?_⟩;have hw:IntKind.i64.wrap ((c:Int)+1)=((c+1:Nat):Int):=zaf o_;refine⟨⟨rfl,hi⟩,fun hin elN ⟨g1,_⟩ g2=>?_,fun hgt=>absurd hgt (by dsimp only;omega)⟩;refine⟨(IntKind.i64.wrap ((c:Int)+1),c+1,elN),[],?_,⟨rfl,rfl⟩,(by repeat (first | exact trivial | refine⟨rfl,?_⟩ | refine⟨zb0 [] htl,?_⟩)),(by repeat (first | exact trivial | refine⟨rfl,?_⟩ | refine⟨zb0 [] htl,?_⟩))⟩;refine⟨⟨hw,hlt2,fun k hk=>?_⟩,by dsimp only;omega⟩;dsimp only at hk g1 g2 ⊢;by_cases hkc:k<c
   ·rw[g1 k hkc];exact hel k hkc
   ·obtain rfl:k=c:=by omega
    exact g2 0 d_
  ·obtain rfl:c=m:=by have:=of_decide_eq_false hge;dsimp only at this;omega
   repeat (first | refine⟨fun _=>?_,bt_⟩ | refine⟨bf_,fun _=>?_⟩ | refine⟨⟨na_,nb_,nb_⟩,?_⟩ | refine⟨fun q=>absurd q nc_,fun _=>?_⟩ | refine⟨fun _=>?_,fun q=>absurd q s_⟩ | refine⟨fun q=>absurd q s_,fun _=>?_⟩ | refine⟨⟨d_,d_,d_⟩,?_⟩)
   subst hLe;rw[hlg1] at hel;simp only[zjQ] at hel;refine⟨(),⟨n,2,true,[]++[e]⟩,.one S5 q1 cap0 tl _ el3,[(3,8)],rfl,⟨⟨hn,by show ([]++[e]).length<=4096;omega,fun h=>nomatch h⟩,⟨by rw[he1];exact h1.id,by rw[he1];exact h1.n,by rw[he1];exact ht,by rw[he1];exact hrl,hlg1,hcm1,by rw[he1];show d1<=2000+300 * ([]++[e]).length;omega⟩,htl,fun _=>⟨nl_,hel⟩⟩,⟨rfl,rfl,?_⟩,rfl,?_⟩
   ·rfl
   ·exact⟨rfl,zb0 [(3,8)] htl,rfl,rfl,trivial⟩
 ·have hlen2:=hlen1;simp only[List.length_cons,List.length_nil] at hlen2;repeat (first | refine⟨fun _=>?_,bt_⟩ | refine⟨bf_,fun _=>?_⟩ | refine⟨⟨na_,nb_,nb_⟩,?_⟩ | refine⟨fun q=>absurd q nc_,fun _=>?_⟩ | refine⟨fun _=>?_,fun q=>absurd q s_⟩ | refine⟨fun q=>absurd q s_,fun _=>?_⟩ | refine⟨⟨d_,d_,d_⟩,?_⟩)
  refine⟨(),q1,2,S1,[(0,2),(1,2)],trivial,rfl,rfl,trivial,rfl,fun r2 q2 S2 hq2=>?_⟩;obtain⟨hr2,hq2e⟩:=hq2;replace hq2e:q1=q2:=hq2e.symm;subst hq2e;replace hr2:=hr2.trans hcm1;subst r2;refine⟨kp_,?_⟩;repeat (first | refine⟨fun _=>?_,bt_⟩ | refine⟨bf_,fun _=>?_⟩ | refine⟨⟨na_,nb_,nb_⟩,?_⟩ | refine⟨fun q=>absurd q nc_,fun _=>?_⟩ | refine⟨fun _=>?_,fun q=>absurd q s_⟩ | refine⟨fun q=>absurd q s_,fun _=>?_⟩ | refine⟨⟨d_,d_,d_⟩,?_⟩)
  refine⟨(),q1,2,S2,[(0,2),(1,2)],trivial,rfl,rfl,trivial,rfl,fun r3 q3 S3 hq3=>?_⟩;obtain⟨hr3,hq3e⟩:=hq3;replace hq3e:q1=q3:=hq3e.symm;subst hq3e;replace hr3:=hr3.trans hcm1;subst r3;refine⟨⟨o_,d_,by dsimp only;omega⟩,?_⟩;refine⟨(),q1,2,S3,[(0,2),(1,2)],by show q1.j.log.length<=4096;omega,rfl,rfl,trivial,rfl,fun lg q4 S4 hq4=>?_⟩;obtain⟨hlo,hq4e⟩:=hq4;replace hq4e:q1=q4:=hq4e.symm;subst hq4e;rcases lg with _ | ⟨m,cp2,el2⟩
  ·exact absurd (congrArg List.length (show q1.j.log=[] from hlo)) (by rw[hll1,hlen1];simp)
  obtain⟨hm0,hm1,hm2,hm3⟩:=hlo;rw[hll1] at hm1;subst hm1;refine⟨(),q1,2,S4,[(0,2),(1,2)],trivial,rfl,rfl,trivial,rfl,fun r5 q5 S5 hq5=>?_⟩;obtain⟨hr5,hq5e⟩:=hq5;replace hq5e:q1=q5:=hq5e.symm;subst hq5e;replace hr5:=hr5.trans hcm1;subst r5;refine⟨⟨o_,o_⟩,?_⟩;refine⟨Int×Nat×(Nat->List Value),fun q0=>[(33,.int .i64 q0.1),(4,slc 8 q0.2.1 m)],fun q0=>[(8,.row (1000000+43) 9 m q0.2.2)],fun q0=>q0.1=q0.2.1/\q0.2.1<=m/\∀ k,k<q0.2.1->q0.2.2 k=zbe (((q1.j.log).getD k default).2),fun q0=>m-q0.2.1,⟨(0,0,fun _=>[zi,zi,zi,zi,zi,zi,zi,zi,zi]),[(8,6)],⟨rfl,Nat.zero_le _,fun k hk=>absurd hk (Nat.not_lt_zero _)⟩,⟨rfl,rfl⟩,(by repeat (first | exact trivial | refine⟨rfl,?_⟩ | refine⟨zb0 [(8,6)] htl,?_⟩)),(by repeat (first | exact trivial | refine⟨rfl,?_⟩ | refine⟨zb0 [(8,6)] htl,?_⟩))⟩,?_⟩;rintro⟨i,c,el3⟩ ⟨hic,hi,hel⟩;dsimp only at hic hi hel;subst hic;refine⟨⟨d_,rfl,by show nmM 9 _=true;simp only[nmM,nmB,List.cons_append,List.nil_append,List.all_cons,tl_nm 9 htl,List.all_nil];rfl⟩,?_⟩;refine⟨fun hlt=>?_,fun hge=>?_⟩
  ·have hlt2:c<m:=by have:=of_decide_eq_true hlt;dsimp only at this;omega
   have h3:=hm3 c hlt2;repeat (first | refine⟨fun _=>?_,bt_⟩ | refine⟨bf_,fun _=>?_⟩ | refine⟨⟨na_,nb_,nb_⟩,?_⟩ | refine⟨fun q=>absurd q nc_,fun _=>?_⟩ | refine⟨fun _=>?_,fun q=>absurd q s_⟩ | refine⟨fun q=>absurd q s_,fun _=>?_⟩ | refine⟨⟨d_,d_,d_⟩,?_⟩)
   conv=>whnf
   rw[zfx (v:=(logV (q1.j.log.getD c default))) h3 ?hx ?ht ?hm ?hv];case hx=>rfl
   case ht=>rfl
   case hm=>rfl
   case hv=>rfl
   repeat (first | refine⟨fun _=>?_,bt_⟩ | refine⟨bf_,fun _=>?_⟩ | refine⟨⟨na_,nb_,nb_⟩,?_⟩ | refine⟨fun q=>absurd q nc_,fun _=>?_⟩ | refine⟨fun _=>?_,fun q=>absurd q s_⟩ | refine⟨fun q=>absurd q s_,fun _=>?_⟩ | refine⟨⟨d_,d_,d_⟩,?_⟩)
   refine⟨⟨nl_,zkN rfl⟩,?_⟩;have hw:IntKind.i64.wrap ((c:Int)+1)=((c+1:Nat):Int):=zaf o_;refine⟨⟨rfl,hi⟩,fun hin elN ⟨g1,_⟩ g2=>?_,fun hgt=>absurd hgt (by dsimp only;omega)⟩;refine⟨(IntKind.i64.wrap ((c:Int)+1),c+1,elN),[],?_,⟨rfl,rfl⟩,(by repeat (first | exact trivial | refine⟨rfl,?_⟩ | refine⟨zb0 [] htl,?_⟩)),(by repeat (first | exact trivial | refine⟨rfl,?_⟩ | refine⟨zb0 [] htl,?_⟩))⟩;refine⟨⟨hw,hlt2,fun k hk=>?_⟩,by dsimp only;omega⟩;dsimp only at hk g1 g2 ⊢;by_cases hkc:k<c
   ·rw[g1 k hkc];exact hel k hkc
   ·obtain rfl:k=c:=by omega
    exact g2 0 d_
  ·obtain rfl:c=m:=by have:=of_decide_eq_false hge;dsimp only at this;omega
   repeat (first | refine⟨fun _=>?_,bt_⟩ | refine⟨bf_,fun _=>?_⟩ | refine⟨⟨na_,nb_,nb_⟩,?_⟩ | refine⟨fun q=>absurd q nc_,fun _=>?_⟩ | refine⟨fun _=>?_,fun q=>absurd q s_⟩ | refine⟨fun q=>absurd q s_,fun _=>?_⟩ | refine⟨⟨d_,d_,d_⟩,?_⟩)
   subst hLe;rw[hlg1] at hel;simp only[zjQ] at hel;refine⟨(),⟨n,2,true,(e0::es0)++[e]⟩,.one S5 q1 cap0 tl _ el3,[(3,8)],rfl,⟨⟨hn,by show ((e0::es0)++[e]).length<=4096;omega,fun h=>nomatch h⟩,⟨by rw[he1];exact h1.id,by rw[he1];exact h1.n,by rw[he1];exact ht,by rw[he1];exact hrl,hlg1,hcm1,by rw[he1];show d1<=2000+300 * ((e0::es0)++[e]).length;omega⟩,htl,fun _=>⟨nl_,hel⟩⟩,⟨rfl,rfl,?_⟩,rfl,?_⟩
   ·rfl
   ·exact⟨rfl,zb0 [(3,8)] htl,rfl,rfl,trivial⟩
theorem qDoOk:CSound Tryz.prog 114 ctQDo:=zbb zaT (D:=qdD) qdFok mixed k_ Tryz.func114 rfl k_ ⟨d_,d_⟩ (fun _=>rfl) qB (fun x=>by cases x<;>rfl) (fun _ _=>rfl) (fun x q y hq hy=>by
 cases x with
 | none=>exact qDoC_sx q y hq hy
 | some e=>exact qDoP_sx e q y hq hy)
/-! One start for all: two lists of numbers,a configuration,a list of entries,two states. -/
abbrev CNu:CN:=⟨2,3,4,5,6,7,3⟩
abbrev SNu:SN:=⟨9,10,3⟩
abbrev SNv:SN:=⟨11,12,3⟩
structure UA where
 a0:Option Addr:=none
 a1:Option Addr:=none
 x:CfgA:=noX
 ae:Option Addr:=none
 y:StA:=noA
 y2:StA:=noA
structure UD where
 l0:List Int:=[]
 l1:List Int:=[]
 c:Cfg:=noC
 es:List Ent:=[]
 s:St:=noS
 s2:St:=noS
abbrev entRow (es:List Ent):ABlk:=zaz 3 9 zbe default es
abbrev uniM (d:UD):AM:=(0,zb6 d.l0)::(1,zb6 d.l1)::(zcH CNu d.c++((8,entRow d.es)::(stM SNu d.s++stM SNv d.s2)))
def upl (a:UA) (d:UD):Nat->Pl:=fun j=>match j with
 | 0=>⟨a.a0,1,d.l0.length,false,za4⟩
 | 1=>⟨a.a1,1,d.l1.length,false,za4⟩
 | 2=>⟨a.x.az,1,d.c.zones.length,false,za4⟩
 | 3=>⟨a.x.ac,2,d.c.cells.length,false,za4⟩
 | 4=>⟨a.x.at_,7,d.c.tenants.length,false,za4⟩
 | 5=>⟨a.x.av,2,d.c.versions.length,false,za4⟩
 | 6=>⟨a.x.ar,1,d.c.replicas.length,false,za4⟩
 | 7=>⟨a.x.ao,1,d.c.observers.length,false,za4⟩
 | 8=>⟨a.ae,9,d.es.length,false,za4⟩
 | 9=>⟨a.y.at_,12,d.s.tenants.length,false,za4⟩
 | 10=>⟨a.y.ac,4,d.s.cells.length,false,za4⟩
 | 11=>⟨a.y2.at_,12,d.s2.tenants.length,false,za4⟩
 | _=>⟨a.y2.ac,4,d.s2.cells.length,false,za4⟩
structure UOk (w:World) (a:UA) (d:UD):Prop where
 r0:Rd w (·<w.heap.size) a.a0 (zaJ zaw d.l0):=by exact fun h=>absurd rfl h
 r1:Rd w (·<w.heap.size) a.a1 (zaJ zaw d.l1):=by exact fun h=>absurd rfl h
 c:CfgOk w (·<w.heap.size) a.x d.c:=by exact zdB _ _
 e:Rd w (·<w.heap.size) a.ae (zaJ zbe d.es):=by exact fun h=>absurd rfl h
 s:StOk w (·<w.heap.size) a.y d.s:=by exact zbt _ _
 s2:StOk w (·<w.heap.size) a.y2 d.s2:=by exact zbt _ _
theorem zlK (a:UA) (d:UD):den (upl a d) (zaX CNu (ck a.x) d.c)=.agg (zaH a.x d.c):=by rw[zaP];rfl
theorem zgi (a:UA) (d:UD):okV (upl a d) 13 (zaX CNu (ck a.x) d.c):=by
 intro u hu;simp at hu;rcases hu with rfl | rfl | rfl | rfl | rfl | rfl | rfl | rfl | rfl | rfl<;>first | trivial | exact⟨d_,rfl⟩
theorem zfz {τ:TT} (hτ:zcl Tryz.prog τ) {f:FuncId} {fn:Func} {F:FT} {D:List (Nat×DQ)} (hF:zaY Tryz.prog F (zbj D)) (hf:(Tryz.prog).funcs[f]?=some fn) (hb:fn.body=some (za1 fn)) (hcode:zc6 fn.ntmps D (za1 fn)=true) {vs:List Value} (hn:Nat.ble vs.length fn.ntmps=true)
  (a:UA) (d:UD) (w:World) (hu:UOk w a d) (hv:∀ v ∈ vs,okV (upl a d) 13 v) {R:Value->AM->Nat->Prop}
  (h:sx τ F D (za1 fn) (zb3 0 vs) (uniM d) 13 (zb8 τ fn.results.toList R)) :
  Calls Tryz.prog f (vs.map (den (upl a d))).toArray w fun e w'=>∃ v mem' nx' ρ',e=.returned (den ρ' v)/\R v mem' nx'/\okV ρ' nx' v/\MemAt { w0:=w,bor:=[],n0:=13,ρ0:=upl a d,nt:=fn.ntmps } ρ' mem' nx' w'/\Below w.heap.size w w':=by
 have hpc:CfgPl (upl a d) CNu a.x d.c:=⟨rfl,rfl,rfl,rfl,rfl,rfl⟩;have hps:StPl (upl a d) SNu a.y d.s:=⟨rfl,rfl⟩;have hps2:StPl (upl a d) SNv a.y2 d.s2:=⟨rfl,rfl⟩;have q2:=zed (C:={ w0:=w,bor:=[],n0:=13,ρ0:=upl a d,nt:=fn.ntmps }) (nx:=13) (r:=[]) hps2 hu.s2 (fun b hb=>hb) d_ trivial;have q1:=zed (C:={ w0:=w,bor:=[],n0:=13,ρ0:=upl a d,nt:=fn.ntmps }) (nx:=13) hps hu.s (fun b hb=>hb) d_ q2;have q0:zdI { w0:=w,bor:=[],n0:=13,ρ0:=upl a d,nt:=fn.ntmps } (upl a d) 13 w ((8,entRow d.es)::(stM SNu d.s++(stM SNv d.s2++[]))):=⟨⟨d_,rfl,zaL (enc:=zbe) (sz:=9) (fun _=>rfl) o_ zf0 default rfl hu.e (fun b hb=>hb)⟩,q1⟩;have qc:=zcR (C:={ w0:=w,bor:=[],n0:=13,ρ0:=upl a d,nt:=fn.ntmps }) (nx:=13) hpc hu.c (fun b hb=>hb) d_ q0;have hm:MemAt { w0:=w,bor:=[],n0:=13,ρ0:=upl a d,nt:=fn.ntmps } (upl a d) (uniM d) 13 w:=MemAt.rows trivial
  ⟨⟨d_,rfl,zaL (enc:=zaw) (sz:=1) (fun _=>rfl) o_ zaS 0 rfl hu.r0 (fun b hb=>hb)⟩,⟨d_,rfl,zaL (enc:=zaw) (sz:=1) (fun _=>rfl) o_ zaS 0 rfl hu.r1 (fun b hb=>hb)⟩,qc⟩
 refine (zbR hτ hF mixed hf hb hcode (vs:=vs) hn ⟨rfl,rfl⟩ rfl hm hv h).mono ?_;rintro e w' ⟨v,mem',nx',ρ',rfl,hR,hv',hm'⟩;exact⟨v,mem',nx',ρ',rfl,hR,hv',hm',⟨hm'.rest.os,hm'.rest.tape,hm'.rest.output,hm'.rest.size,fun b hlt=>hm'.rest.block b hlt (by simp)⟩⟩
theorem zfC (x:CfgA) (c:Cfg) (w:World) (hl:Lens c) :
  Calls Tryz.prog 217 #[.agg (zaH x c)] w fun e w'=>e=.returned (.bool (zbi c))/\Below w.heap.size w w':=by
 obtain⟨l1,l2,l3,l4,l5,l6⟩:=hl;unfold maxLen at *;unfold zaH;go_enter Tryz.func217,Tryz.ntmps217;go_wp2_with (go_at_call 272;refine (zar _ _ _ _).mono ?_;rintro e w' ⟨rfl,rfl⟩);all_goals
  go_ret;refine⟨zak ?_,(Below.refl _ _).alloc nl_ _⟩;go_light;simp[zbi, *]<;>omega
structure CfgBox (w:World) (g:Nat) (x:CfgA) (c:Cfg) (wr:World):Prop where
 box:Blk wr g 30 (zaH x c)
 ok:CfgOk wr (·<g) x c
 below:Below w.heap.size w wr
 le:w.heap.size<=g
theorem CfgBox.alloc {w:World} {g:Nat} {x:CfgA} {c:Cfg} {wr:World} (h:CfgBox w g x c wr) (o:Obj):CfgBox w g x c (wr.alloc o):=
 ⟨h.box.alloc o,h.ok.keep fun k hk=>Below.heap_alloc _ _ _ (Nat.lt_trans hk h.box.lt),h.below.alloc h.below.size o,h.le⟩
theorem CfgBox.new {w:World} {x:CfgA} {c:Cfg} (h:CfgOk w (·<w.heap.size) x c):CfgBox w w.heap.size x c (w.alloc (.cells (zaH x c) 30)):=
 ⟨Blk.new _ _ _,h.keep fun k hk=>Below.heap_alloc _ _ _ hk,(Below.refl _ _).alloc nl_ _,nl_⟩
theorem take_all {α:Type} (l:List α) (p:α->Bool) (k:Nat) (x:α) (h:l[k]?=some x):(l.take (k+1)).all p=((l.take k).all p&&p x):=by
 obtain⟨hk,he⟩:=List.getElem?_eq_some_iff.1 h;rw[List.take_succ_eq_append_getElem hk,List.all_append,he];simp
theorem zcc {α:Type} {l:List α} {p:α->Bool} {k:Nat} {x:α} (h:l[k]?=some x) (ha:(l.take k).all p=true) (hp:p x=true):(l.take (k+1)).all p=true:=by
 rw[take_all l p k x h,ha,hp];rfl
theorem zic {α:Type} {l:List α} {p:α->Bool} {k:Nat} {x:α} (h:l[k]?=some x) (hp:p x=false):l.all p=false:=by
 rw[List.all_eq_false];exact⟨x,List.mem_of_getElem? h,by simp[hp]⟩
theorem zga (x:CfgA) (c:Cfg) (w:World) (hl:zbi c=true) (hok:CfgOk w (·<w.heap.size) x c) :
  Calls Tryz.prog 218 #[.agg (zaH x c)] w fun e w'=>e=.returned (.bool (zbB c))/\Below w.heap.size w w':=by
 obtain⟨az,cz,ac,cc,at_,ct,av,cv,ar,cr,ao,co⟩:=x;have hbox:=CfgBox.new hok;have HL:=Lib.hid hl;clear hl hok;have hlz:c.zones.length<=8:=by have:=HL.out;simp[zbi,inR] at this;omega
 have hlc:c.cells.length<=16:=by have:=HL.out;simp[zbi,inR] at this;omega
 have hlr:c.replicas.length<=5:=by have:=HL.out;simp[zbi,inR] at this;omega
 have hlo:c.observers.length<=9:=by have:=HL.out;simp[zbi,inR] at this;omega
 have hreg:c.regions<=4:=by have:=HL.out;simp[zbi,inR] at this;omega
 have hreg1:1<=c.regions:=by have:=HL.out;simp[zbi,inR] at this;omega
 unfold zaH at *;simp only at *;go_enter Tryz.func218,Tryz.ntmps218;go_upto_block 0 with fail
 go_cut [] (fun wx=>CfgBox w w.heap.size ⟨az,cz,ac,cc,at_,ct,av,cv,ar,cr,ao,co⟩ c wx/\c.zones.all (fun z=>inR z 0 (c.regions-1))=true);case first=>
  go_wp2;go_loopg [15] c.zones.length (fun gk si wr=>∃ k:Nat,gk+k=c.zones.length/\si=.int .i64 k/\CfgBox w w.heap.size ⟨az,cz,ac,cc,at_,ct,av,cv,ar,cr,ao,co⟩ c wr/\(c.zones.take k).all (fun z=>inR z 0 (c.regions-1))=true);case atStart=>exact⟨0,rfl,rfl,hbox,rfl⟩
  case round=>
   rename_i J K aJ aK
   clear hbox;obtain⟨k,hgk,rfl,hbox,hall⟩:=hrel;have HA:=Lib.hid hall;clear hall;by_cases hk:k<c.zones.length
   ·have hlt:(k:Int)<(c.zones.length:Int):=by omega
    obtain⟨b,off,z,rfl,hb,hz,hcell⟩:=hbox.ok.zones.row (enc:=zaw) (sz:=1) (fun _=>rfl) o_ hk;have e0:=hcell 0 (.int .i64 z) rfl;simp only[Nat.add_zero,Nat.mul_one] at e0;have cb0:=hbox.box.cell' (i:=0) (v:=.int .i64 c.regions) rfl;have hgs:w.heap.size<wr.heap.size:=hbox.box.lt;have HZ:=Lib.hid hz;clear hcell hz;by_cases hp:(fun z=>inR z 0 (c.regions-1)) z=true
    ·have hn:(c.zones.take (k+1)).all (fun z=>inR z 0 (c.regions-1))=true:=zcc HZ.out HA.out hp;have HN:=Lib.hid hn;clear hn;simp only at hp;go_wp2_with (go_at_call 272;refine (zar _ _ _ _).mono ?_;rintro e w' ⟨rfl,rfl⟩);go_roundg (gk-1);case measure=>omega
     case rel=>exact⟨k+1,o_,by go_num,hbox.alloc _,HN.out⟩
    ·have hp':(fun z=>inR z 0 (c.regions-1)) z=false:=by simpa using hp
     have hn:zbB c=false:=by unfold zbB;simp only[zic (p:=(fun z=>inR z 0 (c.regions-1))) HZ.out hp',Bool.and_false,Bool.false_and]
     have HN:=Lib.hid hn;clear hn hp;simp only at hp';go_wp2_with (go_at_call 272;refine (zar _ _ _ _).mono ?_;rintro e w' ⟨rfl,rfl⟩);go_ret;exact⟨zak HN.out.symm,(hbox.alloc _).below⟩
   ·have hge:¬ ((k:Int)<(c.zones.length:Int)):=by omega
    have hall:c.zones.all (fun z=>inR z 0 (c.regions-1))=true:=by have:=HA.out;rwa[List.take_of_length_le o_] at this
    have HA2:=Lib.hid hall;clear hall HA;go_wp2;go_meet;exact⟨hbox,HA2.out⟩
 case rest=>
  clear hbox;obtain⟨hbox,hall0⟩:=hcut;have HA0:=Lib.hid hall0;clear hall0;have cb1:=hbox.box.cell' (i:=1) (v:=.slice az c.zones.length cz) rfl;have cb2:=hbox.box.cell' (i:=2) (v:=.slice ac c.cells.length cc) rfl;go_upto_block 2 with fail
  go_cut [] (fun wx=>CfgBox w w.heap.size ⟨az,cz,ac,cc,at_,ct,av,cv,ar,cr,ao,co⟩ c wx/\c.cells.all (fun y=>inR y.1 0 (c.zones.length-1))=true);case first=>
   go_wp2;go_loopg [34] c.cells.length (fun gk si wr=>∃ k:Nat,gk+k=c.cells.length/\si=.int .i64 k/\CfgBox w w.heap.size ⟨az,cz,ac,cc,at_,ct,av,cv,ar,cr,ao,co⟩ c wr/\(c.cells.take k).all (fun y=>inR y.1 0 (c.zones.length-1))=true);case atStart=>exact⟨0,rfl,rfl,hbox,rfl⟩
   case round=>
    rename_i J K aJ aK
    clear hbox;obtain⟨k,hgk,rfl,hbox,hall⟩:=hrel;have HA:=Lib.hid hall;clear hall;by_cases hk:k<c.cells.length
    ·have hlt:(k:Int)<(c.cells.length:Int):=by omega
     obtain⟨b,off,z,rfl,hb,hz,hcell⟩:=hbox.ok.cells.row (enc:=zaI) (sz:=2) (fun _=>rfl) o_ hk;have e0:=hcell 0 (.int .i64 z.1) rfl;have e1:=hcell 1 (.int .i64 z.2) rfl;simp only[Nat.add_zero,Nat.mul_one] at e0 e1;have hgs:w.heap.size<wr.heap.size:=hbox.box.lt;have HZ:=Lib.hid hz;clear hcell hz;by_cases hp:(fun y=>inR y.1 0 (c.zones.length-1)) z=true
     ·have hn:(c.cells.take (k+1)).all (fun y=>inR y.1 0 (c.zones.length-1))=true:=zcc HZ.out HA.out hp;have HN:=Lib.hid hn;clear hn;simp only at hp;go_wp2_with (go_at_call 272;refine (zar _ _ _ _).mono ?_;rintro e w' ⟨rfl,rfl⟩);go_roundg (gk-1);case measure=>omega
      case rel=>exact⟨k+1,o_,by go_num,hbox.alloc _,HN.out⟩
     ·have hp':(fun y=>inR y.1 0 (c.zones.length-1)) z=false:=by simpa using hp
      have hn:zbB c=false:=by unfold zbB;simp only[zic (p:=(fun y=>inR y.1 0 (c.zones.length-1))) HZ.out hp',Bool.and_false,Bool.false_and]
      have HN:=Lib.hid hn;clear hn hp;simp only at hp';go_wp2_with (go_at_call 272;refine (zar _ _ _ _).mono ?_;rintro e w' ⟨rfl,rfl⟩);go_ret;exact⟨zak HN.out.symm,(hbox.alloc _).below⟩
    ·have hge:¬ ((k:Int)<(c.cells.length:Int)):=by omega
     have hall:c.cells.all (fun y=>inR y.1 0 (c.zones.length-1))=true:=by have:=HA.out;rwa[List.take_of_length_le o_] at this
     have HA2:=Lib.hid hall;clear hall HA;go_wp2;go_meet;exact⟨hbox,HA2.out⟩
  case rest=>
   clear hbox;obtain⟨hbox,hall2⟩:=hcut;have HA2:=Lib.hid hall2;clear hall2;have cb5:=hbox.box.cell' (i:=5) (v:=.slice ar c.replicas.length cr) rfl;go_upto_block 4 with fail
   go_cut [] (fun wx=>CfgBox w w.heap.size ⟨az,cz,ac,cc,at_,ct,av,cv,ar,cr,ao,co⟩ c wx/\c.replicas.all (fun z=>inR z 0 (c.zones.length-1))=true);case first=>
    go_wp2;go_loopg [47] c.replicas.length (fun gk si wr=>∃ k:Nat,gk+k=c.replicas.length/\si=.int .i64 k/\CfgBox w w.heap.size ⟨az,cz,ac,cc,at_,ct,av,cv,ar,cr,ao,co⟩ c wr/\(c.replicas.take k).all (fun z=>inR z 0 (c.zones.length-1))=true);case atStart=>exact⟨0,rfl,rfl,hbox,rfl⟩
    case round=>
     rename_i J K aJ aK
     clear hbox;obtain⟨k,hgk,rfl,hbox,hall⟩:=hrel;have HA:=Lib.hid hall;clear hall;by_cases hk:k<c.replicas.length
     ·have hlt:(k:Int)<(c.replicas.length:Int):=by omega
      obtain⟨b,off,z,rfl,hb,hz,hcell⟩:=hbox.ok.replicas.row (enc:=zaw) (sz:=1) (fun _=>rfl) o_ hk;have e0:=hcell 0 (.int .i64 z) rfl;simp only[Nat.add_zero,Nat.mul_one] at e0;have hgs:w.heap.size<wr.heap.size:=hbox.box.lt;have HZ:=Lib.hid hz;clear hcell hz;by_cases hp:(fun z=>inR z 0 (c.zones.length-1)) z=true
      ·have hn:(c.replicas.take (k+1)).all (fun z=>inR z 0 (c.zones.length-1))=true:=zcc HZ.out HA.out hp;have HN:=Lib.hid hn;clear hn;simp only at hp;go_wp2_with (go_at_call 272;refine (zar _ _ _ _).mono ?_;rintro e w' ⟨rfl,rfl⟩);go_roundg (gk-1);case measure=>omega
       case rel=>exact⟨k+1,o_,by go_num,hbox,HN.out⟩
      ·have hp':(fun z=>inR z 0 (c.zones.length-1)) z=false:=by simpa using hp
       have hn:zbB c=false:=by unfold zbB;simp only[zic (p:=(fun z=>inR z 0 (c.zones.length-1))) HZ.out hp',Bool.and_false,Bool.false_and]
       have HN:=Lib.hid hn;clear hn hp;simp only at hp';go_wp2_with (go_at_call 272;refine (zar _ _ _ _).mono ?_;rintro e w' ⟨rfl,rfl⟩);go_ret;exact⟨zak HN.out.symm,hbox.below⟩
     ·have hge:¬ ((k:Int)<(c.replicas.length:Int)):=by omega
      have hall:c.replicas.all (fun z=>inR z 0 (c.zones.length-1))=true:=by have:=HA.out;rwa[List.take_of_length_le o_] at this
      have HA2:=Lib.hid hall;clear hall HA;go_wp2;go_meet;exact⟨hbox,HA2.out⟩
   case rest=>
    clear hbox;obtain⟨hbox,hall4⟩:=hcut;have HA4:=Lib.hid hall4;clear hall4;have cb6:=hbox.box.cell' (i:=6) (v:=.slice ao c.observers.length co) rfl;go_upto_block 6 with fail
    go_cut [] (fun wx=>CfgBox w w.heap.size ⟨az,cz,ac,cc,at_,ct,av,cv,ar,cr,ao,co⟩ c wx/\c.observers.all (fun z=>inR z 0 (c.zones.length-1))=true);case first=>
     go_wp2;go_loopg [59] c.observers.length (fun gk si wr=>∃ k:Nat,gk+k=c.observers.length/\si=.int .i64 k/\CfgBox w w.heap.size ⟨az,cz,ac,cc,at_,ct,av,cv,ar,cr,ao,co⟩ c wr/\(c.observers.take k).all (fun z=>inR z 0 (c.zones.length-1))=true);case atStart=>exact⟨0,rfl,rfl,hbox,rfl⟩
     case round=>
      rename_i J K aJ aK
      clear hbox;obtain⟨k,hgk,rfl,hbox,hall⟩:=hrel;have HA:=Lib.hid hall;clear hall;by_cases hk:k<c.observers.length
      ·have hlt:(k:Int)<(c.observers.length:Int):=by omega
       obtain⟨b,off,z,rfl,hb,hz,hcell⟩:=hbox.ok.observers.row (enc:=zaw) (sz:=1) (fun _=>rfl) o_ hk;have e0:=hcell 0 (.int .i64 z) rfl;simp only[Nat.add_zero,Nat.mul_one] at e0;have hgs:w.heap.size<wr.heap.size:=hbox.box.lt;have HZ:=Lib.hid hz;clear hcell hz;by_cases hp:(fun z=>inR z 0 (c.zones.length-1)) z=true
       ·have hn:(c.observers.take (k+1)).all (fun z=>inR z 0 (c.zones.length-1))=true:=zcc HZ.out HA.out hp;have HN:=Lib.hid hn;clear hn;simp only at hp;go_wp2_with (go_at_call 272;refine (zar _ _ _ _).mono ?_;rintro e w' ⟨rfl,rfl⟩);go_roundg (gk-1);case measure=>omega
        case rel=>exact⟨k+1,o_,by go_num,hbox,HN.out⟩
       ·have hp':(fun z=>inR z 0 (c.zones.length-1)) z=false:=by simpa using hp
        have hn:zbB c=false:=by unfold zbB;simp only[zic (p:=(fun z=>inR z 0 (c.zones.length-1))) HZ.out hp',Bool.and_false,Bool.false_and]
        have HN:=Lib.hid hn;clear hn hp;simp only at hp';go_wp2_with (go_at_call 272;refine (zar _ _ _ _).mono ?_;rintro e w' ⟨rfl,rfl⟩);go_ret;exact⟨zak HN.out.symm,hbox.below⟩
      ·have hge:¬ ((k:Int)<(c.observers.length:Int)):=by omega
       have hall:c.observers.all (fun z=>inR z 0 (c.zones.length-1))=true:=by have:=HA.out;rwa[List.take_of_length_le o_] at this
       have HA2:=Lib.hid hall;clear hall HA;go_wp2;go_meet;exact⟨hbox,HA2.out⟩
    case rest=>
     clear hbox;obtain⟨hbox,hall6⟩:=hcut;have HA6:=Lib.hid hall6;clear hall6;go_wp2;go_ret;refine⟨zak ?_,hbox.below⟩;unfold zbB;rw[HA0.out,HA2.out,HA4.out,HA6.out];rfl
theorem zlI {l:List (Int×Int)} {k:Nat} {v:Int×Int} (h:l[k]?=some v) (hp:zeR k v=false):zcm l=false:=by
 unfold zcm;rw[List.all_eq_false];exact⟨k,List.mem_range.2 (List.getElem?_eq_some_iff.1 h).1,by simp[h,hp]⟩
theorem zkb {l:List (Int×Int)} (h:∀ k v,l[k]?=some v->zeR k v=true):zcm l=true:=by
 unfold zcm;rw[List.all_eq_true];intro i _;cases hi:l[i]? with
 | none=>rfl
 | some v=>exact h i v hi
theorem zg9 (x:CfgA) (c:Cfg) (w:World) (hl:zbi c=true) (hok:CfgOk w (·<w.heap.size) x c) :
  Calls Tryz.prog 219 #[.agg (zaH x c)] w fun e w'=>e=.returned (.bool (zbV c))/\Below w.heap.size w w':=by
 obtain⟨az,cz,ac,cc,at_,ct,av,cv,ar,cr,ao,co⟩:=x;have hbox:=CfgBox.new hok;have HL:=Lib.hid hl;clear hl hok;have hlc:c.cells.length<=16:=by have:=HL.out;simp[zbi,inR] at this;omega
 have hlv:c.versions.length<=30:=by have:=HL.out;simp[zbi,inR] at this;omega
 unfold zaH at *;simp only at *;go_enter Tryz.func219,Tryz.ntmps219;go_upto_block 0 with fail
 go_cut [] (fun wx=>CfgBox w w.heap.size ⟨az,cz,ac,cc,at_,ct,av,cv,ar,cr,ao,co⟩ c wx/\c.cells.all (fun y=>inR y.2 1 4194304)=true);case first=>
  go_wp2;go_loopg [10] c.cells.length (fun gk si wr=>∃ k:Nat,gk+k=c.cells.length/\si=.int .i64 k/\CfgBox w w.heap.size ⟨az,cz,ac,cc,at_,ct,av,cv,ar,cr,ao,co⟩ c wr/\(c.cells.take k).all (fun y=>inR y.2 1 4194304)=true);case atStart=>exact⟨0,rfl,rfl,hbox,rfl⟩
  case round=>
   rename_i J K aJ aK
   clear hbox;obtain⟨k,hgk,rfl,hbox,hall⟩:=hrel;have HA:=Lib.hid hall;clear hall;by_cases hk:k<c.cells.length
   ·have hlt:(k:Int)<(c.cells.length:Int):=by omega
    obtain⟨b,off,z,rfl,hb,hz,hcell⟩:=hbox.ok.cells.row (enc:=zaI) (sz:=2) (fun _=>rfl) o_ hk;have e0:=hcell 0 (.int .i64 z.1) rfl;have e1:=hcell 1 (.int .i64 z.2) rfl;simp only[Nat.add_zero] at e0 e1;have hgs:w.heap.size<wr.heap.size:=hbox.box.lt;have HZ:=Lib.hid hz;clear hcell hz;by_cases hp:(fun y:Int×Int=>inR y.2 1 4194304) z=true
    ·have hn:=zcc HZ.out HA.out hp;have HN:=Lib.hid hn;clear hn;simp only at hp;go_wp2_with (go_at_call 272;refine (zar _ _ _ _).mono ?_;rintro e w' ⟨rfl,rfl⟩);go_roundg (gk-1);case measure=>omega
     case rel=>exact⟨k+1,o_,by go_num,hbox.alloc _,HN.out⟩
    ·have hp':(fun y:Int×Int=>inR y.2 1 4194304) z=false:=by simpa using hp
     have hn:zbV c=false:=by unfold zbV;simp only[zic (p:=fun y:Int×Int=>inR y.2 1 4194304) HZ.out hp',Bool.and_false,Bool.false_and]
     have HN:=Lib.hid hn;clear hn hp;simp only at hp';go_wp2_with (go_at_call 272;refine (zar _ _ _ _).mono ?_;rintro e w' ⟨rfl,rfl⟩);go_ret;exact⟨zak HN.out.symm,(hbox.alloc _).below⟩
   ·have hge:¬ ((k:Int)<(c.cells.length:Int)):=by omega
    have hall:c.cells.all (fun y=>inR y.2 1 4194304)=true:=by have:=HA.out;rwa[List.take_of_length_le o_] at this
    have HA2:=Lib.hid hall;clear hall HA;go_wp2;go_meet;exact⟨hbox,HA2.out⟩
 case rest=>
  clear hbox;obtain⟨hbox,hall0⟩:=hcut;have HA0:=Lib.hid hall0;clear hall0;have cb4:=hbox.box.cell' (i:=4) (v:=.slice av c.versions.length cv) rfl;go_upto_block 2 with fail
  go_cut [] (fun wx=>CfgBox w w.heap.size ⟨az,cz,ac,cc,at_,ct,av,cv,ar,cr,ao,co⟩ c wx/\zcm c.versions=true);case first=>
   go_wp2;go_loopg [22] c.versions.length (fun gk si wr=>∃ k:Nat,gk+k=c.versions.length/\si=.int .i64 k/\CfgBox w w.heap.size ⟨az,cz,ac,cc,at_,ct,av,cv,ar,cr,ao,co⟩ c wr/\∀ i v,i<k->c.versions[i]?=some v->zeR i v=true);case atStart=>exact⟨0,rfl,rfl,hbox,fun i v hi=>absurd hi o_⟩
   case round=>
    rename_i J K aJ aK
    clear hbox;obtain⟨k,hgk,rfl,hbox,hall⟩:=hrel;have HA:=Lib.hid hall;clear hall;by_cases hk:k<c.versions.length
    ·have hlt:(k:Int)<(c.versions.length:Int):=by omega
     obtain⟨b,off,z,rfl,hb,hz,hcell⟩:=hbox.ok.versions.row (enc:=zaI) (sz:=2) (fun _=>rfl) o_ hk;obtain⟨lo,hi⟩:=z;have e0:=hcell 0 (.int .i64 lo) rfl;have e1:=hcell 1 (.int .i64 hi) rfl;simp only[Nat.add_zero] at e0 e1;have hgs:w.heap.size<wr.heap.size:=hbox.box.lt;have HZ:=Lib.hid hz;clear hcell hz cb4;by_cases hp:zeR k (lo,hi)=true
     ·have hn:∀ i v,i<k+1->c.versions[i]?=some v->zeR i v=true:=by
       intro i v hi hv;by_cases hik:i<k
       ·exact HA.out i v hik hv
       ·obtain rfl:i=k:=by omega
        rw[HZ.out] at hv;cases hv
        exact hp
      have HN:=Lib.hid hn;clear hn;have hq:0<=lo/\lo<=hi/\hi<=30/\(k=0->lo=0):=by
       simp[zeR] at hp;omega
      obtain⟨q1,q2,q3,q4⟩:=hq;clear hp;by_cases hk0:k=0
      ·have hb0:((k:Int)==0)=true:=by simp;omega
       have hb1:(lo != 0)=false:=by simp;omega
       have q4':lo<=0:=by have:=q4 hk0;omega
       clear q4 hk0;go_wp2;go_roundg (gk-1);case measure=>omega
       case rel=>exact⟨k+1,o_,by go_num,hbox.alloc _,HN.out⟩
      ·have hb0:((k:Int)==0)=false:=by simp;omega
       clear q4 hk0;go_wp2;go_roundg (gk-1);case measure=>omega
       case rel=>exact⟨k+1,o_,by go_num,hbox.alloc _,HN.out⟩
     ·have hp':zeR k (lo,hi)=false:=by simpa using hp
      have hn:zbV c=false:=by unfold zbV;rw[zlI HZ.out hp'];simp
      have HN:=Lib.hid hn;have hq:lo<0∨(0<=lo/\hi<lo)∨(0<=lo/\lo<=hi/\30<hi)∨(0<=lo/\lo<=hi/\hi<=30/\k=0/\lo≠0):=by
       simp[zeR] at hp';omega
      clear hn hp hp';rcases hq with q1 | ⟨q1,q2⟩ | ⟨q1,q2,q3⟩ | ⟨q1,q2,q3,q4,q5⟩
      ·have hd:decide (lo<0)=true:=by simpa using q1
       go_wp2;go_ret;exact⟨zak HN.out.symm,(hbox.alloc _).below⟩
      ·go_wp2;go_ret;exact⟨zak HN.out.symm,(hbox.alloc _).below⟩
      ·go_wp2;go_ret;exact⟨zak HN.out.symm,(hbox.alloc _).below⟩
      ·have hb0:((k:Int)==0)=true:=by simp;omega
       have hb1:(lo != 0)=true:=by simp;omega
       clear q4 q5;go_wp2;go_ret;exact⟨zak HN.out.symm,(hbox.alloc _).below⟩
    ·have hge:¬ ((k:Int)<(c.versions.length:Int)):=by omega
     have hall:zcm c.versions=true:=zkb fun i v hv=>HA.out i v (by have:=(List.getElem?_eq_some_iff.1 hv).1;omega) hv
     have HA2:=Lib.hid hall;clear hall HA;go_wp2;go_meet;exact⟨hbox,HA2.out⟩
  case rest=>
   clear hbox cb4;obtain⟨hbox,hall2⟩:=hcut;have HA2:=Lib.hid hall2;clear hall2;have cb7:=hbox.box.cell' (i:=7) (v:=.int .i64 c.blast) rfl;have cb8:=hbox.box.cell' (i:=8) (v:=.int .i64 c.lease) rfl;have cb9:=hbox.box.cell' (i:=9) (v:=.int .i64 c.bake) rfl;have hfin:zbV c=(inR c.blast 1 16&&inR c.lease 1 1000&&inR c.bake 0 10000):=by unfold zbV;rw[HA0.out,HA2.out];rfl
   have HF:=Lib.hid hfin;clear hfin;go_wp2_with (go_at_call 272;refine (zar _ _ _ _).mono ?_;rintro e w' ⟨rfl,rfl⟩);all_goals
    go_ret;refine⟨zak ?_,hbox.below⟩;rw[HF.out];go_light;simp[*]
theorem CfgBox.later {w:World} {g:Nat} {x:CfgA} {c:Cfg} {wr wx:World} (h:CfgBox w g x c wr) (hb:Below wr.heap.size wr wx):CfgBox w g x c wx:=
 ⟨h.box.below hb h.box.lt,h.ok.keep fun k hk=>hb.block k (Nat.lt_trans hk h.box.lt),h.below.trans (hb.mono h.below.size),h.le⟩
theorem CfgBox.okW {w:World} {g:Nat} {x:CfgA} {c:Cfg} {wr:World} (h:CfgBox w g x c wr):CfgOk wr (·<wr.heap.size) x c:=h.ok.more fun b hb=>Nat.lt_trans hb h.box.lt
theorem zgF (x:CfgA) (c:Cfg) (w:World) (hl:Lens c) (hok:CfgOk w (·<w.heap.size) x c) :
  Calls Tryz.prog 164 #[.agg (zaH x c)] w fun e w'=>e=.returned (.int .i64 (zbo c))/\Below w.heap.size w w':=by
 obtain⟨az,cz,ac,cc,at_,ct,av,cv,ar,cr,ao,co⟩:=x;have hbox:=CfgBox.new hok;have HN:=Lib.hid (zfC ⟨az,cz,ac,cc,at_,ct,av,cv,ar,cr,ao,co⟩ c (w.alloc (.cells (zaH ⟨az,cz,ac,cc,at_,ct,av,cv,ar,cr,ao,co⟩ c) 30)) hl);have hlr:c.replicas.length<=maxLen:=hl.2.2.2.2.1;unfold maxLen at hlr;clear hok hl;unfold zaH at *;simp only at *;have HBX:=Lib.hid hbox;clear hbox;go_enter Tryz.func164,Tryz.ntmps164;go_wp2_with fail;refine HN.out.mono ?_;rintro e w1 ⟨rfl,hb1⟩;have hbox:=HBX.out.later hb1;clear hb1 HN HBX;by_cases h1:zbi c=true
 ·have c0:=hbox.box.cell' (i:=0) (v:=.int .i64 c.regions) rfl;have c1:=hbox.box.cell' (i:=1) (v:=.slice az c.zones.length cz) rfl;have c2:=hbox.box.cell' (i:=2) (v:=.slice ac c.cells.length cc) rfl;have c3:=hbox.box.cell' (i:=3) (v:=.slice at_ c.tenants.length ct) rfl;have c4:=hbox.box.cell' (i:=4) (v:=.slice av c.versions.length cv) rfl;have c5:=hbox.box.cell' (i:=5) (v:=.slice ar c.replicas.length cr) rfl;have c6:=hbox.box.cell' (i:=6) (v:=.slice ao c.observers.length co) rfl;have c7:=hbox.box.cell' (i:=7) (v:=.int .i64 c.blast) rfl;have c8:=hbox.box.cell' (i:=8) (v:=.int .i64 c.lease) rfl;have c9:=hbox.box.cell' (i:=9) (v:=.int .i64 c.bake) rfl;by_cases h2:c.replicas.length % 2=0
  ·have e2:((c.replicas.length:Int) % 2==0)=true:=by simp;omega
   have HX:=Lib.hid h2;clear h2;go_wp2_with fail;go_ret;exact⟨zah (by simp[zbo,h1,HX.out]),hbox.below⟩
  ·have e2:((c.replicas.length:Int) % 2==0)=false:=by simp;omega
   have HX:=Lib.hid h2;clear h2;go_wp2_with fail;refine (zga ⟨az,cz,ac,cc,at_,ct,av,cv,ar,cr,ao,co⟩ c w1 h1 hbox.okW).mono ?_;rintro e w2 ⟨rfl,hb2⟩;have hbox2:=hbox.later hb2;clear c0 c1 c2 c3 c4 c5 c6 c7 c8 c9 hb2 hbox;by_cases h3:zbB c=true
   ·have c0:=hbox2.box.cell' (i:=0) (v:=.int .i64 c.regions) rfl;have c1:=hbox2.box.cell' (i:=1) (v:=.slice az c.zones.length cz) rfl;have c2:=hbox2.box.cell' (i:=2) (v:=.slice ac c.cells.length cc) rfl;have c3:=hbox2.box.cell' (i:=3) (v:=.slice at_ c.tenants.length ct) rfl;have c4:=hbox2.box.cell' (i:=4) (v:=.slice av c.versions.length cv) rfl;have c5:=hbox2.box.cell' (i:=5) (v:=.slice ar c.replicas.length cr) rfl;have c6:=hbox2.box.cell' (i:=6) (v:=.slice ao c.observers.length co) rfl;have c7:=hbox2.box.cell' (i:=7) (v:=.int .i64 c.blast) rfl;have c8:=hbox2.box.cell' (i:=8) (v:=.int .i64 c.lease) rfl;have c9:=hbox2.box.cell' (i:=9) (v:=.int .i64 c.bake) rfl;go_wp2_with fail;refine (zg9 ⟨az,cz,ac,cc,at_,ct,av,cv,ar,cr,ao,co⟩ c w2 h1 hbox2.okW).mono ?_;rintro e w3 ⟨rfl,hb3⟩;have hbel:=(hbox2.later hb3).below;clear c0 c1 c2 c3 c4 c5 c6 c7 c8 c9 hb3 hbox2;by_cases h4:zbV c=true
    ·go_wp2;go_ret;exact⟨zah (by simp[zbo,h1,h3,h4,HX.out]),hbel⟩
    ·have h4':zbV c=false:=by simpa using h4
     go_wp2;go_ret;exact⟨zah (by simp[zbo,h1,h3,h4',HX.out]),hbel⟩
   ·have h3':zbB c=false:=by simpa using h3
    go_wp2_with fail;go_ret;exact⟨zah (by simp[zbo,h1,h3',HX.out]),hbox2.below⟩
 ·have h1':zbi c=false:=by simpa using h1
  go_wp2;go_ret;exact⟨zah (by simp[zbo,h1']),hbox.below⟩
theorem zec (t:Ten) (r:Int) (w:World) (h1:1<=r) (h4:r<=4) :
  Calls Tryz.prog 165 #[.agg (zd8 t).toArray,.int .i64 r] w fun e w'=>e=.returned (.bool (zdo r t))/\Below w.heap.size w w':=by
 unfold zd8;have hr:r=1∨r=2∨r=3∨r=4:=by omega
 clear h1 h4;rcases hr with rfl | rfl | rfl | rfl
 all_goals
  go_enter Tryz.func165,Tryz.ntmps165;go_wp2_with (go_at_call 216;refine (zck _ _ _ _).mono ?_;rintro e w' ⟨rfl,rfl⟩);all_goals
   go_ret;refine⟨zak ?_,(Below.refl _ _).alloc nl_ _⟩;go_light;simp[zdo,zll, *]
/-! tenant.Valid,atlas.Valid -/
def ctTopoV:CT:=fun vs mem nx K=>∃ N x c,vs=[zaX N x c]/\HasCfg mem N c/\Lens c/\K (.int .i64 (zbo c)) mem nx
theorem topoVOk:CSound Tryz.prog 164 ctTopoV:=⟨k_,fun {C ρ fr mem nx a w vs K} hc hs hv=>by
 obtain⟨N,x,c,rfl,hk,hl,hK⟩:=hc;rw[List.map_cons,zaP];refine (zgF (zdp ρ N x) c w hl (hs.cfgH hk)).mono ?_;rintro e w' ⟨rfl,hb⟩
 exact⟨_,mem,nx,ρ,rfl,hK,hs.later hb,trivial,ExtS.refl _ _⟩⟩
def ctPermit:CT:=fun vs mem nx K=>∃ t r,vs=[.agg (zd8 t).toArray,.int .i64 r]/\(1<=r/\r<=4)/\K (.bool (zdo r t)) mem nx
theorem permitOk:CSound Tryz.prog 165 ctPermit:=CSound.pure k_ (by
 rintro vs mem nx K ⟨t,r,rfl,⟨h1,h2⟩,hK⟩;refine⟨_,hK,fun ρ n=>⟨rfl,trivial⟩,fun ρ w=>?_⟩;have e:([.agg (zd8 t).toArray,.int .i64 r].map (den ρ)).toArray=#[.agg (zd8 t).toArray,.int .i64 r]:=by simp[den,zaW,zal,zd8]
 rw[e]
 exact zec t r w h1 h2)
def tvF:FT:=[(164,ctTopoV),(165,ctPermit)]
def tvD:List (Nat×DQ):=[(2000005,{ k:=0,L:=[0,1,2,3,4,5,6,7,8,9,10,11,12,13],sl:=[1,12,13] })]
theorem tvFok:zaY Tryz.prog tvF (zbj tvD):=za0 (topoVOk.i _) (za0 (permitOk.i _) za3)
theorem reg_of {c:Cfg} (h:zbo c=0):1<=c.regions/\c.regions<=4:=by
 unfold zbo at h;by_cases hl:zbi c=false
 ·rw[if_pos hl] at h;cases h
 ·simp[zbi,inR] at hl;omega
theorem tenV_sx (x:CfgK) (c:Cfg) (hL:Lens c) :
  sx ttA tvF tvD (za1 Tryz.f107) (zb3 0 [zaX CNu x c]) (uniM { c:=c }) 13 (zb8 ttA Tryz.f107.results.toList fun v _ _=>v=.int .i64 (zdn c)):=by
 have hmax:=hL.2.2.1;unfold maxLen at hmax;refine⟨CNu,x,c,rfl,HasCfg.keeps kp_,hL,?_⟩;refine⟨fun hne=>?_,fun heq=>?_⟩
 ·have hne2:zbo c≠0:=by simpa using hne
  rw[show zdn c=zbo c from if_pos hne2];rfl
 ·have heq2:zbo c=0:=by simpa using heq
  have hreg:=reg_of heq2;have hce:zdn c=if c.tenants.all (zdo c.regions) then 0 else 1:=if_neg (by simpa using heq2)
  refine⟨Int,fun i=>[(14,.int .i64 i)],fun _=>[],fun i=>(0<=i/\i<=c.tenants.length)/\∀ k,k<i.toNat->zdo c.regions (c.tenants.getD k default)=true,fun i=>((c.tenants.length:Int)-i).toNat,⟨0,⟨o_,fun k hk=>absurd hk o_⟩,kp_,kp_⟩,?_⟩;rintro i ⟨hi,hall⟩;refine⟨⟨rfl,rfl⟩,?_⟩;refine⟨fun hlt=>?_,fun hge=>?_⟩
  ·have hlt2:i<(c.tenants.length:Int):=of_decide_eq_true hlt;refine⟨⟨nl_,hi.1,hlt2⟩,?_⟩;refine⟨(c.tenants.getD i.toNat default),_,rfl,hreg,?_⟩;refine⟨fun hb=>?_,fun hb=>?_⟩
   ·have hb2:zdo c.regions (c.tenants.getD i.toNat default)=false:=by simpa using hb
    have hf:c.tenants.all (zdo c.regions)=false:=by
     rw[List.all_eq_false];refine⟨(c.tenants.getD i.toNat default),?_,by rw[hb2];decide⟩;rw[gd_,List.getElem?_eq_getElem o_];exact List.getElem_mem _
    rw[hce,hf];rfl
   ·have hb2:zdo c.regions (c.tenants.getD i.toNat default)=true:=by simpa using hb
    refine⟨_,?_,kp_,kp_⟩;rw[zaf (n:=i+1) o_];dsimp only;refine⟨⟨o_,fun k hk=>?_⟩,o_⟩;by_cases hki:k<i.toNat
    ·exact hall k hki
    ·obtain rfl:k=i.toNat:=by omega
     exact hb2
  ·have hge2:¬ i<(c.tenants.length:Int):=of_decide_eq_false hge;have ht:c.tenants.all (zdo c.regions)=true:=by
    rw[List.all_eq_true];intro t ht;obtain⟨k,hk,rfl⟩:=List.getElem_of_mem ht;have:=hall k o_;rwa[gd_,List.getElem?_eq_getElem hk] at this
   rw[hce,ht];rfl
theorem zke (x:CfgA) (c:Cfg) (w:World) (hL:Lens c) (hc:CfgOk w (·<w.heap.size) x c):Calls Tryz.prog 107 #[.agg (zaH x c)] w fun e w'=>e=.returned (.int .i64 (zdn c))/\Below w.heap.size w w':=by
 have:=zfz zg7 tvFok Tryz.func107 rfl (D:=tvD) k_ (vs:=[zaX CNu (ck x) c]) rfl { x:=x } { c:=c } w { c:=hc } (fun v hv=>by
  simp only[List.mem_cons,List.not_mem_nil,or_false] at hv
  subst hv
  exact zgi { x:=x } { c:=c }) (tenV_sx (ck x) c hL)
 rw[List.map_cons,zlK { x:=x } { c:=c }] at this;refine this.mono ?_;rintro e w' ⟨v,mem',nx',ρ',rfl,rfl,hv,hm',hb⟩;exact⟨rfl,hb⟩
def ctTenV:CT:=fun vs mem nx K=>∃ N x c,vs=[zaX N x c]/\HasCfg mem N c/\Lens c/\K (.int .i64 (zdn c)) mem nx
theorem tenVOk:CSound Tryz.prog 107 ctTenV:=⟨k_,fun {C ρ fr mem nx a w vs K} hc hs hv=>by
 obtain⟨N,x,c,rfl,hk,hl,hK⟩:=hc;rw[List.map_cons,zaP];refine (zke (zdp ρ N x) c w hl (hs.cfgH hk)).mono ?_;rintro e w' ⟨rfl,hb⟩
 exact⟨_,mem,nx,ρ,rfl,hK,hs.later hb,trivial,ExtS.refl _ _⟩⟩
end Go.Proofs.YtjnndjnpcelafaaGreat
