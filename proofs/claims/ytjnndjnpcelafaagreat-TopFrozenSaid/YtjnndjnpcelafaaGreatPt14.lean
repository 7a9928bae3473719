import Derived.Test.YtjnndjnpcelafaaGreatPt13
import Derived.OwnWalk
namespace Go.Proofs.YtjnndjnpcelafaaGreat
set_option maxHeartbeats 16000000
set_option maxRecDepth 100000
open Go.RowKit
set_option linter.unusedSimpArgs false
set_option linter.unusedVariables false
/-! journal.Append,Sync -/
theorem zkN {P:Nat->Prop} (h:P 0):∀ k,k<1->P k:=fun k hk=>by
 obtain rfl:k=0:=by omega
 exact h
abbrev znb:CT:=zat ttP jTF jTD Tryz.f276 (za1 Tryz.f276)
abbrev adF:FT:=[(152,ctShape),(276,znb)]
abbrev adD:List (Nat×DQ):=[(9000000,{ k:=0,L:=[276] }),(7,{ k:=10,L:=[0,4],pre:=[(0,false),(1,false),(2,false),(3,false),(4,false),(5,false),(6,false),(7,false),(8,true),(9,true)] })]
theorem adFok:zaY Tryz.prog adF (zbj adD):=za0 (shapeOk.i _) (za0 (zad zaT (D:=jTD) jTFok mixed k_ Tryz.func276 rfl k_ d_) za3)
abbrev ctAdd:CT:=zat ttP adF adD Tryz.f277 (za1 Tryz.f277)
abbrev jaF:FT:=[(277,ctAdd),(279,ctInts),(278,ctWr),(280,ctEBytes)]
abbrev jaD:List (Nat×DQ):=[(9000000,{ k:=0,L:=[277,279,278] }),(4,{ k:=7,L:=[3],pre:=[(0,false),(1,false),(4,false),(2,true),(3,true),(5,true),(6,true)] })]
theorem jaFok:zaY Tryz.prog jaF (zbj jaD):=za0 (zad zaT (D:=adD) adFok mixed k_ Tryz.func277 rfl k_ d_) (za0 (zad zaT (D:=ebD) (ebFok.i _) mixed k_ Tryz.func279 rfl k_ d_) (za0 (zad zaT (D:=wrD) wrOk mixed k_ Tryz.func278 rfl k_ d_) (za0 (eBytesOk.i _) za3)))
abbrev jApre (x:Int×Ent) (q:JSt):Prop:=(1<=x.1/\x.1<=1073741824)/\x.1<=q.term/\zdq q.log (q.log.length-1)<=x.1/\(zaN 32 16 4 30 x.2=true/\EntIn x.2)/\q.log.length<4096/\q.dl<=900000000
abbrev zmK (x:Int×Ent) (q:JSt) (d:Nat) (q':JSt):Prop:=q'=⟨q.term,q.vote,q.log++[x],d⟩/\d<=q.dl+300
def ctJApp:CT:=zbu jkI jkM 3 3 0 (fun x=>[.int .i64 x.1,entV' x.2]) (fun _=>[]) jApre zmK (fun _ _=>.int .i64 0) (fun _ _=>[])
theorem jApp_sx (x:Int×Ent) (q:JSt) (y:JK) (hx:jApre x q) (hy:jkI q y):sx ttP jaF jaD (za1 Tryz.f230) (zb3 0 (.pointer (some ⟨0,0,none⟩)::[.int .i64 x.1,entV' x.2])) (jkM q y++[]) 3 (zb8 ttP Tryz.f230.results.toList (zch jkI jkM 3 3 zmK (fun _ _=>.int .i64 0) (fun _ _=>[]) x q)):=by
 obtain⟨tm,e⟩:=x;obtain⟨qt,qv,lg,dl⟩:=q;obtain⟨ht,hle,hla,⟨hsh,hIn⟩,hlen,hd⟩:=hx;dsimp only at ht hle hla hsh hIn hlen hd;have i1:zem 2:=by unfold zem;omega
 have i2:zem tm:=by unfold zem;omega
 cases y with
 | nil S=>
  obtain rfl:lg=[]:=hy;repeat (first | refine⟨fun _=>?_,bt_⟩ | refine⟨bf_,fun _=>?_⟩ | refine⟨⟨na_,nb_,nb_⟩,?_⟩ | refine⟨fun q=>absurd q nc_,fun _=>?_⟩ | refine⟨fun _=>?_,fun q=>absurd q s_⟩ | refine⟨fun q=>absurd q s_,fun _=>?_⟩ | refine⟨⟨d_,d_,d_⟩,?_⟩)
  refine⟨e,rfl,?_⟩;rw[hsh];repeat (first | refine⟨fun _=>?_,bt_⟩ | refine⟨bf_,fun _=>?_⟩ | refine⟨⟨na_,nb_,nb_⟩,?_⟩ | refine⟨fun q=>absurd q nc_,fun _=>?_⟩ | refine⟨fun _=>?_,fun q=>absurd q s_⟩ | refine⟨fun q=>absurd q s_,fun _=>?_⟩ | refine⟨⟨d_,d_,d_⟩,?_⟩)
  refine⟨kp_,?_⟩;refine⟨⟨nl_,zkN rfl⟩,?_⟩;refine⟨fun h=>absurd h d_,fun _=>⟨d_,fun capL elL ⟨hcL,_⟩ gL=>?_⟩⟩;refine⟨kp_,?_⟩;repeat (first | refine⟨fun _=>?_,bt_⟩ | refine⟨bf_,fun _=>?_⟩ | refine⟨⟨na_,nb_,nb_⟩,?_⟩ | refine⟨fun q=>absurd q nc_,fun _=>?_⟩ | refine⟨fun _=>?_,fun q=>absurd q s_⟩ | refine⟨fun q=>absurd q s_,fun _=>?_⟩ | refine⟨⟨d_,d_,d_⟩,?_⟩)
  refine⟨kp_,?_⟩;repeat (first | refine⟨fun _=>?_,bt_⟩ | refine⟨bf_,fun _=>?_⟩ | refine⟨⟨na_,nb_,nb_⟩,?_⟩ | refine⟨fun q=>absurd q nc_,fun _=>?_⟩ | refine⟨fun _=>?_,fun q=>absurd q s_⟩ | refine⟨fun q=>absurd q s_,fun _=>?_⟩ | refine⟨⟨d_,d_,d_⟩,?_⟩)
  refine⟨_,[],2,rfl,.inl ⟨rfl,rfl⟩,⟨by first | omega | simp,i1⟩,fun cp0 el0 hc0 he0=>?_⟩;have hb0:([]++zaC 2).length<=10:=by have h1:=zaj i1;rw[List.length_append];first | omega | (rw[List.length_nil];omega)
  generalize hB0:[]++zaC 2=b0 at hc0 he0 hb0 ⊢;clear hB0;repeat (first | refine⟨fun _=>?_,bt_⟩ | refine⟨bf_,fun _=>?_⟩ | refine⟨⟨na_,nb_,nb_⟩,?_⟩ | refine⟨fun q=>absurd q nc_,fun _=>?_⟩ | refine⟨fun _=>?_,fun q=>absurd q s_⟩ | refine⟨fun q=>absurd q s_,fun _=>?_⟩ | refine⟨⟨d_,d_,d_⟩,?_⟩)
  refine⟨_,b0,tm,rfl,.inr (.inl ⟨10,cp0,rfl,⟨_,_,_,rfl,hc0,he0⟩⟩),⟨by first | omega | simp,i2⟩,fun cp1 el1 hc1 he1=>?_⟩;have hb1:(b0++zaC tm).length<=20:=by have h1:=zaj i2;rw[List.length_append];first | omega | (rw[List.length_nil];omega)
  generalize hB1:b0++zaC tm=b1 at hc1 he1 hb1 ⊢;clear hB1;repeat (first | refine⟨fun _=>?_,bt_⟩ | refine⟨bf_,fun _=>?_⟩ | refine⟨⟨na_,nb_,nb_⟩,?_⟩ | refine⟨fun q=>absurd q nc_,fun _=>?_⟩ | refine⟨fun _=>?_,fun q=>absurd q s_⟩ | refine⟨fun q=>absurd q s_,fun _=>?_⟩ | refine⟨⟨d_,d_,d_⟩,?_⟩)
  refine⟨kp_,?_⟩;refine⟨e,rfl,hIn,fun bE cpE elE hE1 hE2 hE3=>?_⟩;refine⟨kp_,?_⟩;refine⟨⟨hE2,fun k hk=>by rw[hE3 k hk];rfl⟩,?_⟩;have hLE:(b1++bE).length=b1.length+bE.length:=List.length_append;refine⟨⟨rfl,hc1⟩,fun hin el5 ⟨g1,_⟩ g2=>?_,fun hgt=>⟨by show (b1.length+bE.length) * 1<=140737488355328;omega,fun cap5 el5 ⟨hc5,_⟩ g1 g2=>?_⟩⟩
  ·refine⟨kp_,?_⟩;refine⟨_,b1++bE,rfl,.inr (.inl ⟨11,cp1,by rw[hLE];exact rfl,⟨_,_,_,rfl,by rw[hLE];exact hin,zc4 rfl he1 g1 (fun k hk=>(g2 k hk).trans (hE3 k hk))⟩⟩),o_,fun bw cpw elw hw1 hw2 hw3=>?_⟩;refine⟨kp_,?_⟩;refine⟨⟨bw,cpw,cpw,elw⟩,dl,1,S,[(2,13),(0,1),(1,1)],⟨⟨hw2,hw3⟩,by show _+bw.length<=1000000000;omega⟩,rfl,rfl,⟨rfl,trivial⟩,rfl,fun _ q2 S2 hq2=>?_⟩;obtain rfl:q2=dl+bw.length:=hq2;exact⟨dl+bw.length,_,.row S2 capL elL,[(2,8)],⟨rfl,by show dl+bw.length<=dl+300;omega⟩,⟨Nat.zero_lt_one,hcL,zkN (gL 0 d_)⟩,⟨rfl,rfl,rfl⟩,rfl,kp_⟩
  ·refine⟨kp_,?_⟩;refine⟨_,b1++bE,rfl,.inr (.inl ⟨13,cap5,by rw[hLE];exact rfl,⟨_,_,_,rfl,by rw[hLE];exact hc5,zc4 rfl he1 g1 (fun k hk=>(g2 k hk).trans (hE3 k hk))⟩⟩),o_,fun bw cpw elw hw1 hw2 hw3=>?_⟩;refine⟨kp_,?_⟩;refine⟨⟨bw,cpw,cpw,elw⟩,dl,1,S,[(2,14),(0,1),(1,1)],⟨⟨hw2,hw3⟩,by show _+bw.length<=1000000000;omega⟩,rfl,rfl,⟨rfl,trivial⟩,rfl,fun _ q2 S2 hq2=>?_⟩;obtain rfl:q2=dl+bw.length:=hq2;exact⟨dl+bw.length,_,.row S2 capL elL,[(2,8)],⟨rfl,by show dl+bw.length<=dl+300;omega⟩,⟨Nat.zero_lt_one,hcL,zkN (gL 0 d_)⟩,⟨rfl,rfl,rfl⟩,rfl,kp_⟩
 | row S cap el=>
  obtain⟨h0,h1,h2⟩:=hy;dsimp only at h0 h1 h2;have hL:(lg++[(tm,e)]).length=lg.length+1:=List.length_append;have hw:IntKind.i64.wrap ((lg.length:Int)-1)=(lg.length:Int)-1:=zaf o_;have h3:el (IntKind.i64.wrap ((lg.length:Int)-1)).toNat=logC (lg.getD ((lg.length:Int)-1).toNat default):=by rw[hw];exact h2 _ o_
  have h4:(lg.getD ((lg.length:Int)-1).toNat default).1<=tm:=by unfold zdq at hla;rw[if_pos o_] at hla;exact hla
  generalize lg.getD ((lg.length:Int)-1).toNat default=p at h3 h4;repeat (first | refine⟨fun _=>?_,bt_⟩ | refine⟨bf_,fun _=>?_⟩ | refine⟨⟨na_,nb_,nb_⟩,?_⟩ | refine⟨fun q=>absurd q nc_,fun _=>?_⟩ | refine⟨fun _=>?_,fun q=>absurd q s_⟩ | refine⟨fun q=>absurd q s_,fun _=>?_⟩ | refine⟨⟨d_,d_,d_⟩,?_⟩)
  refine⟨e,rfl,?_⟩;rw[hsh];repeat (first | refine⟨fun _=>?_,bt_⟩ | refine⟨bf_,fun _=>?_⟩ | refine⟨⟨na_,by first | omega | (dsimp only;omega) | (rw[hw];omega),by first | omega | (dsimp only;omega) | (rw[hw];omega)⟩,?_⟩ | refine⟨fun q=>absurd q nc_,fun _=>?_⟩ | refine⟨fun _=>?_,fun q=>absurd q (by first | omega | (simp[-List.getD_eq_getElem?_getD];done) | (simp[-List.getD_eq_getElem?_getD];omega) | (simp only[hw];omega) | (simp[-List.getD_eq_getElem?_getD,hw];omega))⟩ | refine⟨fun q=>absurd q (by first | omega | (simp[-List.getD_eq_getElem?_getD];done) | (simp[-List.getD_eq_getElem?_getD];omega) | (simp only[hw];omega) | (simp[-List.getD_eq_getElem?_getD,hw];omega)),fun _=>?_⟩ | refine⟨⟨d_,d_,d_⟩,?_⟩)
  conv=>whnf
  rw[zfx (v:=(logV p)) h3 ?hx ?ht ?hm ?hv];case hx=>rfl
  case ht=>rfl
  case hm=>rfl
  case hv=>rfl
  repeat (first | refine⟨fun _=>?_,bt_⟩ | refine⟨bf_,fun _=>?_⟩ | refine⟨⟨na_,by first | omega | (dsimp only;omega) | (rw[hw];omega),by first | omega | (dsimp only;omega) | (rw[hw];omega)⟩,?_⟩ | refine⟨fun q=>absurd q nc_,fun _=>?_⟩ | refine⟨fun _=>?_,fun q=>absurd q (by first | omega | (simp[-List.getD_eq_getElem?_getD];done) | (simp[-List.getD_eq_getElem?_getD];omega) | (simp only[hw];omega) | (simp[-List.getD_eq_getElem?_getD,hw];omega))⟩ | refine⟨fun q=>absurd q (by first | omega | (simp[-List.getD_eq_getElem?_getD];done) | (simp[-List.getD_eq_getElem?_getD];omega) | (simp only[hw];omega) | (simp[-List.getD_eq_getElem?_getD,hw];omega)),fun _=>?_⟩ | refine⟨⟨d_,d_,d_⟩,?_⟩)
  refine⟨kp_,?_⟩;refine⟨⟨nl_,zkN rfl⟩,?_⟩;refine⟨⟨rfl,h1⟩,fun hinL elL ⟨gL1,_⟩ gL2=>?_,fun hgtL=>⟨by show (lg.length+1) * 80<=140737488355328;omega,fun capL elL ⟨hcL,_⟩ gL1 gL2=>?_⟩⟩
  ·refine⟨kp_,?_⟩;repeat (first | refine⟨fun _=>?_,bt_⟩ | refine⟨bf_,fun _=>?_⟩ | refine⟨⟨na_,nb_,nb_⟩,?_⟩ | refine⟨fun q=>absurd q nc_,fun _=>?_⟩ | refine⟨fun _=>?_,fun q=>absurd q s_⟩ | refine⟨fun q=>absurd q s_,fun _=>?_⟩ | refine⟨⟨d_,d_,d_⟩,?_⟩)
   refine⟨kp_,?_⟩;repeat (first | refine⟨fun _=>?_,bt_⟩ | refine⟨bf_,fun _=>?_⟩ | refine⟨⟨na_,nb_,nb_⟩,?_⟩ | refine⟨fun q=>absurd q nc_,fun _=>?_⟩ | refine⟨fun _=>?_,fun q=>absurd q s_⟩ | refine⟨fun q=>absurd q s_,fun _=>?_⟩ | refine⟨⟨d_,d_,d_⟩,?_⟩)
   refine⟨_,[],2,rfl,.inl ⟨rfl,rfl⟩,⟨by first | omega | simp,i1⟩,fun cp0 el0 hc0 he0=>?_⟩;have hb0:([]++zaC 2).length<=10:=by have h1:=zaj i1;rw[List.length_append];first | omega | (rw[List.length_nil];omega)
   generalize hB0:[]++zaC 2=b0 at hc0 he0 hb0 ⊢;clear hB0;repeat (first | refine⟨fun _=>?_,bt_⟩ | refine⟨bf_,fun _=>?_⟩ | refine⟨⟨na_,nb_,nb_⟩,?_⟩ | refine⟨fun q=>absurd q nc_,fun _=>?_⟩ | refine⟨fun _=>?_,fun q=>absurd q s_⟩ | refine⟨fun q=>absurd q s_,fun _=>?_⟩ | refine⟨⟨d_,d_,d_⟩,?_⟩)
   refine⟨_,b0,tm,rfl,.inr (.inl ⟨9,cp0,rfl,⟨_,_,_,rfl,hc0,he0⟩⟩),⟨by first | omega | simp,i2⟩,fun cp1 el1 hc1 he1=>?_⟩;have hb1:(b0++zaC tm).length<=20:=by have h1:=zaj i2;rw[List.length_append];first | omega | (rw[List.length_nil];omega)
   generalize hB1:b0++zaC tm=b1 at hc1 he1 hb1 ⊢;clear hB1;repeat (first | refine⟨fun _=>?_,bt_⟩ | refine⟨bf_,fun _=>?_⟩ | refine⟨⟨na_,nb_,nb_⟩,?_⟩ | refine⟨fun q=>absurd q nc_,fun _=>?_⟩ | refine⟨fun _=>?_,fun q=>absurd q s_⟩ | refine⟨fun q=>absurd q s_,fun _=>?_⟩ | refine⟨⟨d_,d_,d_⟩,?_⟩)
   refine⟨kp_,?_⟩;refine⟨e,rfl,hIn,fun bE cpE elE hE1 hE2 hE3=>?_⟩;refine⟨kp_,?_⟩;refine⟨⟨hE2,fun k hk=>by rw[hE3 k hk];rfl⟩,?_⟩;have hLE:(b1++bE).length=b1.length+bE.length:=List.length_append;refine⟨⟨rfl,hc1⟩,fun hin el5 ⟨g1,_⟩ g2=>?_,fun hgt=>⟨by show (b1.length+bE.length) * 1<=140737488355328;omega,fun cap5 el5 ⟨hc5,_⟩ g1 g2=>?_⟩⟩
   ·refine⟨kp_,?_⟩;refine⟨_,b1++bE,rfl,.inr (.inl ⟨10,cp1,by rw[hLE];exact rfl,⟨_,_,_,rfl,by rw[hLE];exact hin,zc4 rfl he1 g1 (fun k hk=>(g2 k hk).trans (hE3 k hk))⟩⟩),o_,fun bw cpw elw hw1 hw2 hw3=>?_⟩;refine⟨kp_,?_⟩;refine⟨⟨bw,cpw,cpw,elw⟩,dl,1,S,[(2,12),(0,1),(1,1)],⟨⟨hw2,hw3⟩,by show _+bw.length<=1000000000;omega⟩,rfl,rfl,⟨rfl,trivial⟩,rfl,fun _ q2 S2 hq2=>?_⟩;obtain rfl:q2=dl+bw.length:=hq2;refine⟨dl+bw.length,_,.row S2 cap elL,[],⟨rfl,by show dl+bw.length<=dl+300;omega⟩,⟨by show 0<(lg++[(tm,e)]).length;omega,by rw[hL];exact hinL,zc4 (l:=[(tm,e)]) rfl h2 gL1 (zkN (gL2 0 d_))⟩,⟨rfl,rfl,rfl⟩,rfl,?_⟩;refine⟨?_,kp_⟩;exact congrArg (fun z=>some (ABlk.box _ [_,_,_,slc 2 z cap])) hL.symm
   ·refine⟨kp_,?_⟩;refine⟨_,b1++bE,rfl,.inr (.inl ⟨12,cap5,by rw[hLE];exact rfl,⟨_,_,_,rfl,by rw[hLE];exact hc5,zc4 rfl he1 g1 (fun k hk=>(g2 k hk).trans (hE3 k hk))⟩⟩),o_,fun bw cpw elw hw1 hw2 hw3=>?_⟩;refine⟨kp_,?_⟩;refine⟨⟨bw,cpw,cpw,elw⟩,dl,1,S,[(2,13),(0,1),(1,1)],⟨⟨hw2,hw3⟩,by show _+bw.length<=1000000000;omega⟩,rfl,rfl,⟨rfl,trivial⟩,rfl,fun _ q2 S2 hq2=>?_⟩;obtain rfl:q2=dl+bw.length:=hq2;refine⟨dl+bw.length,_,.row S2 cap elL,[],⟨rfl,by show dl+bw.length<=dl+300;omega⟩,⟨by show 0<(lg++[(tm,e)]).length;omega,by rw[hL];exact hinL,zc4 (l:=[(tm,e)]) rfl h2 gL1 (zkN (gL2 0 d_))⟩,⟨rfl,rfl,rfl⟩,rfl,?_⟩;refine⟨?_,kp_⟩;exact congrArg (fun z=>some (ABlk.box _ [_,_,_,slc 2 z cap])) hL.symm
  ·refine⟨kp_,?_⟩;repeat (first | refine⟨fun _=>?_,bt_⟩ | refine⟨bf_,fun _=>?_⟩ | refine⟨⟨na_,nb_,nb_⟩,?_⟩ | refine⟨fun q=>absurd q nc_,fun _=>?_⟩ | refine⟨fun _=>?_,fun q=>absurd q s_⟩ | refine⟨fun q=>absurd q s_,fun _=>?_⟩ | refine⟨⟨d_,d_,d_⟩,?_⟩)
   refine⟨kp_,?_⟩;repeat (first | refine⟨fun _=>?_,bt_⟩ | refine⟨bf_,fun _=>?_⟩ | refine⟨⟨na_,nb_,nb_⟩,?_⟩ | refine⟨fun q=>absurd q nc_,fun _=>?_⟩ | refine⟨fun _=>?_,fun q=>absurd q s_⟩ | refine⟨fun q=>absurd q s_,fun _=>?_⟩ | refine⟨⟨d_,d_,d_⟩,?_⟩)
   refine⟨_,[],2,rfl,.inl ⟨rfl,rfl⟩,⟨by first | omega | simp,i1⟩,fun cp0 el0 hc0 he0=>?_⟩;have hb0:([]++zaC 2).length<=10:=by have h1:=zaj i1;rw[List.length_append];first | omega | (rw[List.length_nil];omega)
   generalize hB0:[]++zaC 2=b0 at hc0 he0 hb0 ⊢;clear hB0;repeat (first | refine⟨fun _=>?_,bt_⟩ | refine⟨bf_,fun _=>?_⟩ | refine⟨⟨na_,nb_,nb_⟩,?_⟩ | refine⟨fun q=>absurd q nc_,fun _=>?_⟩ | refine⟨fun _=>?_,fun q=>absurd q s_⟩ | refine⟨fun q=>absurd q s_,fun _=>?_⟩ | refine⟨⟨d_,d_,d_⟩,?_⟩)
   refine⟨_,b0,tm,rfl,.inr (.inl ⟨10,cp0,rfl,⟨_,_,_,rfl,hc0,he0⟩⟩),⟨by first | omega | simp,i2⟩,fun cp1 el1 hc1 he1=>?_⟩;have hb1:(b0++zaC tm).length<=20:=by have h1:=zaj i2;rw[List.length_append];first | omega | (rw[List.length_nil];omega)
   generalize hB1:b0++zaC tm=b1 at hc1 he1 hb1 ⊢;clear hB1;repeat (first | refine⟨fun _=>?_,bt_⟩ | refine⟨bf_,fun _=>?_⟩ | refine⟨⟨na_,nb_,nb_⟩,?_⟩ | refine⟨fun q=>absurd q nc_,fun _=>?_⟩ | refine⟨fun _=>?_,fun q=>absurd q s_⟩ | refine⟨fun q=>absurd q s_,fun _=>?_⟩ | refine⟨⟨d_,d_,d_⟩,?_⟩)
   refine⟨kp_,?_⟩;refine⟨e,rfl,hIn,fun bE cpE elE hE1 hE2 hE3=>?_⟩;refine⟨kp_,?_⟩;refine⟨⟨hE2,fun k hk=>by rw[hE3 k hk];rfl⟩,?_⟩;have hLE:(b1++bE).length=b1.length+bE.length:=List.length_append;refine⟨⟨rfl,hc1⟩,fun hin el5 ⟨g1,_⟩ g2=>?_,fun hgt=>⟨by show (b1.length+bE.length) * 1<=140737488355328;omega,fun cap5 el5 ⟨hc5,_⟩ g1 g2=>?_⟩⟩
   ·refine⟨kp_,?_⟩;refine⟨_,b1++bE,rfl,.inr (.inl ⟨11,cp1,by rw[hLE];exact rfl,⟨_,_,_,rfl,by rw[hLE];exact hin,zc4 rfl he1 g1 (fun k hk=>(g2 k hk).trans (hE3 k hk))⟩⟩),o_,fun bw cpw elw hw1 hw2 hw3=>?_⟩;refine⟨kp_,?_⟩;refine⟨⟨bw,cpw,cpw,elw⟩,dl,1,S,[(2,13),(0,1),(1,1)],⟨⟨hw2,hw3⟩,by show _+bw.length<=1000000000;omega⟩,rfl,rfl,⟨rfl,trivial⟩,rfl,fun _ q2 S2 hq2=>?_⟩;obtain rfl:q2=dl+bw.length:=hq2;refine⟨dl+bw.length,_,.row S2 capL elL,[(2,8)],⟨rfl,by show dl+bw.length<=dl+300;omega⟩,⟨by show 0<(lg++[(tm,e)]).length;omega,by rw[hL];exact hcL,zc4 (l:=[(tm,e)]) rfl h2 gL1 (zkN (gL2 0 d_))⟩,⟨rfl,rfl,rfl⟩,rfl,?_⟩;refine⟨?_,kp_⟩;exact congrArg (fun z=>some (ABlk.box _ [_,_,_,slc 8 z capL])) hL.symm
   ·refine⟨kp_,?_⟩;refine⟨_,b1++bE,rfl,.inr (.inl ⟨13,cap5,by rw[hLE];exact rfl,⟨_,_,_,rfl,by rw[hLE];exact hc5,zc4 rfl he1 g1 (fun k hk=>(g2 k hk).trans (hE3 k hk))⟩⟩),o_,fun bw cpw elw hw1 hw2 hw3=>?_⟩;refine⟨kp_,?_⟩;refine⟨⟨bw,cpw,cpw,elw⟩,dl,1,S,[(2,14),(0,1),(1,1)],⟨⟨hw2,hw3⟩,by show _+bw.length<=1000000000;omega⟩,rfl,rfl,⟨rfl,trivial⟩,rfl,fun _ q2 S2 hq2=>?_⟩;obtain rfl:q2=dl+bw.length:=hq2;refine⟨dl+bw.length,_,.row S2 capL elL,[(2,8)],⟨rfl,by show dl+bw.length<=dl+300;omega⟩,⟨by show 0<(lg++[(tm,e)]).length;omega,by rw[hL];exact hcL,zc4 (l:=[(tm,e)]) rfl h2 gL1 (zkN (gL2 0 d_))⟩,⟨rfl,rfl,rfl⟩,rfl,?_⟩;refine⟨?_,kp_⟩;exact congrArg (fun z=>some (ABlk.box _ [_,_,_,slc 8 z capL])) hL.symm
theorem jAppOk:CSound Tryz.prog 230 ctJApp:=zbb zaT (D:=jaD) jaFok mixed k_ Tryz.func230 rfl k_ ⟨d_,d_⟩ (fun _=>rfl) jkB (fun _=>rfl) (fun _ _=>rfl) jApp_sx
/-! journal.Sync;replicas that are alone. -/
abbrev jyF:FT:=[(281,ctDSync)]
theorem jyFok:FTok Tryz.prog jyF:=zan dSyncOk zb7
def ctJSync:CT:=zbu (X:=Unit) (R:=Unit) jkI jkM 3 3 0 (fun _=>[]) (fun _=>[]) (fun _ _=>True) (fun _ q _ q'=>q'=q) (fun _ _=>.tuple #[]) (fun _ _=>[])
theorem jSync_sx (q:JSt) (y:JK) (hy:jkI q y):sx ttP jyF [] (za1 Tryz.f231) (zb3 0 (.pointer (some ⟨0,0,none⟩)::[])) (jkM q y++[]) 3 (zb8 ttP Tryz.f231.results.toList (zch (X:=Unit) (R:=Unit) jkI jkM 3 3 (fun _ q _ q'=>q'=q) (fun _ _=>.tuple #[]) (fun _ _=>[]) () q)):=by
 cases y with
 | nil S=>
  refine⟨(),q.dl,1,S,[(0,1),(1,1)],trivial,rfl,rfl,trivial,rfl,fun _ q2 S2 hq2=>?_⟩;obtain rfl:q2=q.dl:=hq2;exact⟨(),q,.nil S2,[],rfl,hy,⟨rfl,rfl,rfl⟩,rfl,kp_⟩
 | row S cap el=>
  refine⟨(),q.dl,1,S,[(0,1),(1,1)],trivial,rfl,rfl,trivial,rfl,fun _ q2 S2 hq2=>?_⟩;obtain rfl:q2=q.dl:=hq2;exact⟨(),q,.row S2 cap el,[],rfl,hy,⟨rfl,rfl,rfl⟩,rfl,kp_⟩
theorem zmJ:CSound Tryz.prog 231 ctJSync:=zbb zaT (D:=[]) (jyFok.i _) mixed k_ Tryz.func231 rfl k_ ⟨d_,d_⟩ (fun _=>rfl) jkB (fun _=>rfl) (fun _ _=>rfl) (fun _ q y _ hy=>jSync_sx q y hy)
structure R5 where
 a:Int
 b:Int
 c:Int
 d:Int
 e:Int
structure RSt where
 j:JSt
 id:Int
 n:Int
 role:Int
 commit:Int
 votes:Int
 nxt:R5
 mat:R5
def rpI (_:RSt) (_:List Nat):Prop:=True
def rpM (q:RSt) (S:List Nat):AM:=[(0,.box 288 [.pointer (some ⟨1,0,none⟩),.int .i64 q.id,.int .i64 q.n,.int .i64 q.role,.int .i64 q.commit,.int .i64 q.votes,.int .i64 q.nxt.a,.int .i64 q.nxt.b,.int .i64 q.nxt.c,.int .i64 q.nxt.d,.int .i64 q.nxt.e,.int .i64 q.mat.a,.int .i64 q.mat.b,.int .i64 q.mat.c,.int .i64 q.mat.d,.int .i64 q.mat.e]),(1,jkO S q.j)]
theorem rpB (q:RSt) (y:List Nat) (_:rpI q y):zln 2 (rpM q y)=true:=rfl
abbrev rpO (S:List Nat) (q:RSt):ABlk:=.ext (.obj S (zkF (rpI q) (rpM q) 2))
abbrev r50:R5:=⟨0,0,0,0,0⟩
def rNF:FT:=[(220,ctJNew)]
theorem rNFok:FTok Tryz.prog rNF:=zan jNewOk zb7
abbrev rNpre (x:Int×Int):Prop:=(x.2=1∨x.2=3)/\0<=x.1/\x.1<x.2
abbrev rNpost (x:Int×Int) (_:Unit) (q:RSt):Prop:=q=⟨⟨0,-1,[],0⟩,x.1,x.2,1,0,0,r50,r50⟩
def ctRNew:CT:=zgC rpI rpM 2 0 (fun x=>[.int .i64 x.1,.int .i64 x.2]) (fun _=>[]) rNpre rNpost (fun _ _=>.tuple #[.pointer (some ⟨0,0,none⟩),.int .i64 0])
theorem rNew_sx (x:Int×Int) (hx:rNpre x):sx ttP rNF [] (za1 Tryz.f166) (zb3 0 [.int .i64 x.1,.int .i64 x.2]) [] 0 (zb8 ttP Tryz.f166.results.toList (zkL rpI rpM 0 rNpost (fun _ _=>.tuple #[.pointer (some ⟨0,0,none⟩),.int .i64 0]) x)):=by
 obtain⟨id,n⟩:=x;obtain⟨hn,h0,h1⟩:=hx;dsimp only at hn h0 h1;rcases hn with rfl | rfl
 all_goals
  repeat (first | refine⟨fun _=>?_,bt_⟩ | refine⟨bf_,fun _=>?_⟩ | refine⟨⟨na_,nb_,nb_⟩,?_⟩ | refine⟨fun q=>absurd q nc_,fun _=>?_⟩ | refine⟨fun _=>?_,fun q=>absurd q s_⟩ | refine⟨fun q=>absurd q s_,fun _=>?_⟩)
  refine⟨⟨rfl,d_⟩,?_⟩;repeat (first | refine⟨fun _=>?_,bt_⟩ | refine⟨bf_,fun _=>?_⟩ | refine⟨⟨na_,nb_,nb_⟩,?_⟩ | refine⟨fun q=>absurd q nc_,fun _=>?_⟩ | refine⟨fun _=>?_,fun q=>absurd q s_⟩ | refine⟨fun q=>absurd q s_,fun _=>?_⟩)
  refine⟨(),[],trivial,rfl,trivial,rfl,fun _ q' S' hq=>?_⟩;obtain rfl:q'=⟨0,-1,[],0⟩:=hq;exact⟨(),_,S',[(0,1),(1,0)],rfl,trivial,rfl,rfl,kp_⟩
theorem rNewOk:CSound Tryz.prog 166 ctRNew:=zfS zaT (D:=[]) (rNFok.i _) mixed k_ Tryz.func166 rfl k_ (fun _=>rfl) rpB (fun _=>rfl) (fun _ _=>rfl) rNew_sx
def ctRRole:CT:=zbu (X:=Unit) (R:=Int) rpI rpM 2 2 0 (fun _=>[]) (fun _=>[]) (fun _ _=>True) (fun _ q r q'=>r=q.role/\q'=q) (fun _ r=>.int .i64 r) (fun _ _=>[])
theorem rRole_sx (q:RSt) (S:List Nat):sx ttP [] [] (za1 Tryz.f174) (zb3 0 (.pointer (some ⟨0,0,none⟩)::[])) (rpM q S++[]) 2 (zb8 ttP Tryz.f174.results.toList (zch (X:=Unit) (R:=Int) rpI rpM 2 2 (fun _ q r q'=>r=q.role/\q'=q) (fun _ r=>.int .i64 r) (fun _ _=>[]) () q)):=
 ⟨q.role,q,S,[],⟨rfl,rfl⟩,trivial,⟨rfl,rfl,rfl⟩,rfl,⟨rfl,rfl,trivial⟩⟩
theorem rRoleOk:CSound Tryz.prog 174 ctRRole:=zbb zaT (D:=[]) za3 mixed k_ Tryz.func174 rfl k_ ⟨d_,d_⟩ (fun _=>rfl) rpB (fun _=>rfl) (fun _ _=>rfl) (fun _ q y _ _=>rRole_sx q y)
def ctRCommit:CT:=zbu (X:=Unit) (R:=Int) rpI rpM 2 2 0 (fun _=>[]) (fun _=>[]) (fun _ _=>True) (fun _ q r q'=>r=q.commit/\q'=q) (fun _ r=>.int .i64 r) (fun _ _=>[])
theorem zkv (q:RSt) (S:List Nat):sx ttP [] [] (za1 Tryz.f186) (zb3 0 (.pointer (some ⟨0,0,none⟩)::[])) (rpM q S++[]) 2 (zb8 ttP Tryz.f186.results.toList (zch (X:=Unit) (R:=Int) rpI rpM 2 2 (fun _ q r q'=>r=q.commit/\q'=q) (fun _ r=>.int .i64 r) (fun _ _=>[]) () q)):=
 ⟨q.commit,q,S,[],⟨rfl,rfl⟩,trivial,⟨rfl,rfl,rfl⟩,rfl,⟨rfl,rfl,trivial⟩⟩
theorem zhx:CSound Tryz.prog 186 ctRCommit:=zbb zaT (D:=[]) za3 mixed k_ Tryz.func186 rfl k_ ⟨d_,d_⟩ (fun _=>rfl) rpB (fun _=>rfl) (fun _ _=>rfl) (fun _ q y _ _=>zkv q y)
abbrev rTermF:FT:=[(221,ctJTerm)]
theorem rTermFok:FTok Tryz.prog rTermF:=zan zmH zb7
def ctRTerm:CT:=zbu (X:=Unit) (R:=Int) rpI rpM 2 2 0 (fun _=>[]) (fun _=>[]) (fun _ _=>True) (fun _ q r q'=>r=q.j.term/\q'=q) (fun _ r=>.int .i64 r) (fun _ _=>[])
theorem rTerm_sx (q:RSt) (S:List Nat):sx ttP rTermF [] (za1 Tryz.f175) (zb3 0 (.pointer (some ⟨0,0,none⟩)::[])) (rpM q S++[]) 2 (zb8 ttP Tryz.f175.results.toList (zch (X:=Unit) (R:=Int) rpI rpM 2 2 (fun _ q r q'=>r=q.j.term/\q'=q) (fun _ r=>.int .i64 r) (fun _ _=>[]) () q)):=by
 refine⟨(),q.j,1,S,[(0,1),(1,1),(2,1)],trivial,rfl,rfl,trivial,rfl,fun r q2 S2 hq2=>?_⟩;obtain⟨rfl,rfl⟩:=hq2;exact⟨_,q,S2,[],⟨rfl,rfl⟩,trivial,⟨rfl,rfl,rfl⟩,rfl,⟨rfl,rfl,trivial⟩⟩
theorem rTermOk:CSound Tryz.prog 175 ctRTerm:=zbb zaT (D:=[]) (rTermFok.i _) mixed k_ Tryz.func175 rfl k_ ⟨d_,d_⟩ (fun _=>rfl) rpB (fun _=>rfl) (fun _ _=>rfl) (fun _ q y _ _=>rTerm_sx q y)
/-! replica.Log -/
abbrev ctRLenI:CT:=zat ttP [(275,ctJLen)] [] Tryz.f228 (za1 Tryz.f228)
abbrev ctRAtI:CT:=zat ttP [(311,ctJAt)] [] Tryz.f315 (za1 Tryz.f315)
abbrev rfzF:FT:=[(228,ctRLenI),(315,ctRAtI)]
abbrev rfzD:List (Nat×DQ):=[(9000000,{ k:=0,L:=[228,315] }),(3000002,{ k:=3,L:=[0],sl:=[0] })]
theorem rfzFok:zaY Tryz.prog rfzF (zbj rfzD):=za0 (zad zaT (za0 (jLenOk.i _) za3) mixed k_ Tryz.func228 rfl k_ d_) (za0 (zad zaT (za0 (jAtOk.i _) za3) mixed k_ Tryz.func315 rfl k_ d_) za3)
abbrev ctFromI:CT:=zat ttP rfzF rfzD Tryz.f282 (za1 Tryz.f282)
abbrev rlF:FT:=[(282,ctFromI)]
abbrev rlD:List (Nat×DQ):=[(9000000,{ k:=0,L:=[282] })]
theorem rlFok:zaY Tryz.prog rlF (zbj rlD):=za0 (zad zaT (D:=rfzD) rfzFok mixed k_ Tryz.func282 rfl k_ d_) za3
abbrev LgR:=Option (Nat×Nat×(Nat->List Value))
def lgOk (l:List (Int×Ent)):LgR->Prop
 | none=>l=[]
 | some (m,cap,el)=>0<m/\m=l.length/\m<=cap/\∀ k,k<m->el k=logC (l.getD k default)
def lgV (i:Nat):LgR->Value
 | none=>zs0
 | some (m,cap,el)=>slc i m cap
def lgB (i:Nat):LgR->AM
 | none=>[]
 | some (m,cap,el)=>[(i,.row (1000000+249) 10 cap el)]
abbrev rLpost (_:Unit) (q:RSt) (r:LgR) (q':RSt):Prop:=lgOk q.j.log r/\q'=q
def ctRLog:CT:=zbu (X:=Unit) rpI rpM 2 2 1 (fun _=>[]) (fun _=>[]) (fun _ q=>q.j.log.length<=4096) rLpost (fun _ r=>lgV 2 r) (fun _ r=>lgB 2 r)
theorem rLog_sx (q:RSt) (S:List Nat) (hq:q.j.log.length<=4096):sx ttP rlF rlD (za1 Tryz.f240) (zb3 0 (.pointer (some ⟨0,0,none⟩)::[])) (rpM q S++[]) 2 (zb8 ttP Tryz.f240.results.toList (zch (X:=Unit) rpI rpM 2 2 rLpost (fun _ r=>lgV 2 r) (fun _ r=>lgB 2 r) () q)):=by
 refine⟨List Nat×Int×LgR,fun q0=>match q0 with | (S,i,none)=>[(1,.int .i64 i),(5,zs0)] | (S,i,some (m,cap,el))=>[(1,.int .i64 i),(5,slc 2 m cap)],fun q0=>match q0 with | (S,i,none)=>[(1,jkO S q.j)] | (S,i,some (m,cap,el))=>[(1,jkO S q.j),(2,.row (1000000+249) 10 cap el)],fun q0=>match q0 with | (S,i,o)=>(0<=i/\i<=q.j.log.length)/\match o with | none=>i=0 | some (m,cap,el)=>0<m/\i=(m:Int)/\m<=cap/\∀ k,k<m->el k=logC (q.j.log.getD k default),fun q0=>match q0 with | (S,i,o)=>((q.j.log.length:Int)-i).toNat,⟨(S,0,none),[],⟨o_,rfl⟩,⟨rfl,rfl⟩,kp_,kp_⟩,?_⟩;rintro⟨S,i,(_ | ⟨m,cap,el⟩)⟩ ⟨hi,ho⟩
 ·refine⟨⟨d_,rfl,rfl⟩,?_⟩;refine⟨(),q.j,1,S,[(0,1),(1,1),(2,1)],trivial,rfl,rfl,trivial,rfl,fun r1 q1 S1 hq1=>?_⟩;obtain⟨rfl,rfl⟩:=hq1;refine⟨fun hlt=>?_,fun hge=>?_⟩
  ·have hlt2:i<(q.j.log.length:Int):=of_decide_eq_true hlt;refine⟨i,q.j,1,S1,[(0,1),(1,1),(2,1)],⟨hi.1,hlt2⟩,rfl,rfl,trivial,rfl,fun p q2 S2 hq2=>?_⟩;obtain⟨rfl,rfl⟩:=hq2;refine⟨⟨nl_,zkN rfl⟩,?_⟩;have hw:IntKind.i64.wrap (i+1)=i+1:=zaf o_;have hi0:i=0:=ho;subst hi0;refine⟨fun h=>absurd h d_,fun _=>⟨d_,fun cap2 el2 ⟨hc2,_⟩ g2=>?_⟩⟩;refine⟨(S2,IntKind.i64.wrap (0+1),some (1,cap2,el2)),[(2,6)],?_,⟨rfl,rfl⟩,kp_,kp_⟩;dsimp only;rw[hw];exact⟨⟨o_,d_,d_,hc2,zkN (g2 0 d_)⟩,o_⟩
  ·have hi0:i=0:=ho;have hge2:¬ i<(q.j.log.length:Int):=of_decide_eq_false hge;exact⟨none,q,S1,[],⟨List.eq_nil_of_length_eq_zero o_,rfl⟩,trivial,⟨rfl,rfl,rfl⟩,rfl,kp_⟩
 ·refine⟨⟨d_,rfl,rfl⟩,?_⟩;refine⟨(),q.j,1,S,[(0,1),(1,1),(2,1)],trivial,rfl,rfl,trivial,rfl,fun r1 q1 S1 hq1=>?_⟩;obtain⟨rfl,rfl⟩:=hq1;refine⟨fun hlt=>?_,fun hge=>?_⟩
  ·have hlt2:i<(q.j.log.length:Int):=of_decide_eq_true hlt;refine⟨i,q.j,1,S1,[(0,1),(1,1),(2,1)],⟨hi.1,hlt2⟩,rfl,rfl,trivial,rfl,fun p q2 S2 hq2=>?_⟩;obtain⟨rfl,rfl⟩:=hq2;refine⟨⟨nl_,zkN rfl⟩,?_⟩;have hw:IntKind.i64.wrap (i+1)=i+1:=zaf o_;have hmi:i.toNat=m:=by omega
   have hN:∀ el2:Nat->List Value,(∀ k,k<m->el2 k=el k)->el2 (m+0)=logC (q.j.log.getD i.toNat default)->∀ k,k<m+1->el2 k=logC (q.j.log.getD k default):=fun el2 g1 g2 k hk=>by
    by_cases hkm:k<m
    ·rw[g1 k hkm,ho.2.2.2 k hkm]
    ·obtain rfl:k=m:=by omega
     rw[Nat.add_zero] at g2;rw[g2,hmi]
   refine⟨⟨rfl,ho.2.2.1⟩,fun hin el2 ⟨g1,_⟩ g2=>?_,fun hgt=>⟨by show (m+1) * 80<=140737488355328;omega,fun cap2 el2 ⟨hc2,_⟩ g1 g2=>?_⟩⟩
   ·refine⟨(S2,IntKind.i64.wrap (i+1),some (m+1,cap,el2)),[],?_,⟨rfl,rfl⟩,kp_,kp_⟩;dsimp only;rw[hw];exact⟨⟨o_,o_,o_,hin,hN el2 g1 (g2 0 d_)⟩,o_⟩
   ·refine⟨(S2,IntKind.i64.wrap (i+1),some (m+1,cap2,el2)),[(2,6)],?_,⟨rfl,rfl⟩,kp_,kp_⟩;dsimp only;rw[hw];exact⟨⟨o_,o_,o_,hc2,hN el2 g1 (g2 0 d_)⟩,o_⟩
  ·have hge2:¬ i<(q.j.log.length:Int):=of_decide_eq_false hge;exact⟨some (m,cap,el),q,S1,[],⟨⟨ho.1,o_,ho.2.2.1,ho.2.2.2⟩,rfl⟩,trivial,⟨rfl,rfl,rfl⟩,rfl,kp_⟩
theorem rLogOk:CSound Tryz.prog 240 ctRLog:=zbb zaT (D:=rlD) rlFok mixed k_ Tryz.func240 rfl k_ ⟨d_,d_⟩ (fun _=>rfl) rpB (fun _=>rfl) (fun _ r=>by rcases r with _ | ⟨m,cap,el⟩<;>rfl) (fun _ q y hq _=>rLog_sx q y hq)
/-! replica.Campaign,Propose,of a replica that is alone. -/
abbrev ctRTermI:CT:=zat ttP [(221,ctJTerm)] [] Tryz.f175 (za1 Tryz.f175)
abbrev ctRemI:CT:=zat ttP [(274,ctJSet),(231,ctJSync)] [] Tryz.f223 (za1 Tryz.f223)
abbrev ldF:FT:=[(228,ctRLenI)]
abbrev ldD:List (Nat×DQ):=[(9000000,{ k:=0,L:=[228] }),(6000002,{ k:=2,L:=[] }),(4,{ k:=12,L:=[],pre:=[(0,false),(1,false),(2,false),(3,false),(4,false),(6,false),(7,false),(10,false),(11,false),(5,true),(8,false),(9,true)] })]
theorem zmc {I:List Nat} (h:I.contains 228=true):zab Tryz.prog I 228 ctRLenI:=zad zaT (D:=[]) (za0 (jLenOk.i _) za3) mixed k_ Tryz.func228 rfl k_ h
theorem zgN {I:List Nat} (h:I.contains 175=true):zab Tryz.prog I 175 ctRTermI:=zad zaT (D:=[]) (za0 (zmH.i _) za3) mixed k_ Tryz.func175 rfl k_ h
theorem rRemIok {I:List Nat} (h:I.contains 223=true):zab Tryz.prog I 223 ctRemI:=zad zaT (D:=[]) (za0 (jSetOk.i _) (za0 (zmJ.i _) za3)) mixed k_ Tryz.func223 rfl k_ h
abbrev ctLeadI:CT:=zat ttP ldF ldD Tryz.f224 (za1 Tryz.f224)
theorem rLeadIok {I:List Nat} (h:I.contains 224=true):zab Tryz.prog I 224 ctLeadI:=zad zaT (D:=ldD) (za0 (zmc d_) za3) mixed k_ Tryz.func224 rfl k_ h
abbrev caF:FT:=[(175,ctRTermI),(223,ctRemI),(224,ctLeadI)]
abbrev caD:List (Nat×DQ):=[(9000000,{ k:=0,L:=[175,223,224] }),(3,{ k:=8,L:=[0,2],pre:=[(0,false),(1,false),(4,false),(5,false),(6,false),(7,false),(2,true),(3,false)] }),
 (4,{ k:=13,L:=[2],pre:=[(0,false),(1,false),(2,false),(3,false),(4,false),(5,true),(6,false),(7,false),(8,false),(9,false),(10,true),(11,false),(12,false)] })]
theorem caFok:zaY Tryz.prog caF (zbj caD):=za0 (zgN d_) (za0 (rRemIok d_) (za0 (rLeadIok d_) za3))
abbrev rC1pre (_:Unit) (q:RSt):Prop:=(q.n=1/\q.id=0)/\(0<=q.j.term/\q.j.term<1000000000)/\q.j.dl<=900000000
abbrev zme (_:Unit) (q:RSt) (r:Nat×Int) (q':RSt):Prop:=q'={ q with j:=⟨q.j.term+1,0,q.j.log,r.1⟩,role:=3,votes:=r.2,nxt:={ q.nxt with a:=q.j.log.length },mat:={ q.mat with a:=0 } }/\r.1<=q.j.dl+300
def ctRCamp1:CT:=zbu rpI rpM 2 2 0 (fun _=>[]) (fun _=>[]) rC1pre zme (fun _ _=>zs0) (fun _ _=>[])
theorem zmd (q:RSt) (S:List Nat) (hq:rC1pre () q):sx ttP caF caD (za1 Tryz.f178) (zb3 0 (.pointer (some ⟨0,0,none⟩)::[])) (rpM q S++[]) 2 (zb8 ttP Tryz.f178.results.toList (zch rpI rpM 2 2 zme (fun _ _=>zs0) (fun _ _=>[]) () q)):=by
 obtain⟨⟨jt,jv,jl,dl⟩,id,n,role,commit,votes,nxt,mat⟩:=q;obtain⟨⟨rfl,rfl⟩,ht,hd⟩:=(show (n=1/\id=0)/\(0<=jt/\jt<1000000000)/\dl<=900000000 from hq);have hw:IntKind.i64.wrap (jt+1)=jt+1:=zaf o_;refine⟨(),(⟨jt,jv,jl,dl⟩:JSt),1,S,[(0,1),(1,1),(2,1)],trivial,rfl,rfl,trivial,rfl,fun r1 q1 S1 hq1=>?_⟩;obtain⟨hr1,rfl⟩:=hq1;replace hr1:r1=jt:=hr1;subst r1;repeat (first | refine⟨fun _=>?_,bt_⟩ | refine⟨bf_,fun _=>?_⟩ | refine⟨⟨na_,nb_,nb_⟩,?_⟩ | refine⟨fun q=>absurd q nc_,fun _=>?_⟩ | refine⟨fun _=>?_,fun q=>absurd q s_⟩ | refine⟨fun q=>absurd q s_,fun _=>?_⟩ | refine⟨⟨d_,d_,d_⟩,?_⟩)
 refine⟨(),(⟨jt,jv,jl,dl⟩:JSt),1,S1,[(0,1),(1,1),(2,1)],trivial,rfl,rfl,trivial,rfl,fun r2 q2 S2 hq2=>?_⟩;obtain⟨hr2,rfl⟩:=hq2;replace hr2:r2=jt:=hr2;subst r2;refine⟨kp_,?_⟩;refine⟨(IntKind.i64.wrap (jt+1),0),(⟨jt,jv,jl,dl⟩:JSt),1,S2,[(0,1),(1,1),(2,1)],⟨by dsimp only;omega,by dsimp only;omega,by dsimp only;omega,fun h=>absurd h (by dsimp only;omega),hd⟩,rfl,rfl,trivial,rfl,fun d3 q3 S3 hq3=>?_⟩;obtain⟨rfl,hd3⟩:=hq3;dsimp only at hd3;refine⟨(),⟨IntKind.i64.wrap (jt+1),0,jl,d3⟩,1,S3,[(0,1),(1,1),(2,1)],trivial,rfl,rfl,trivial,rfl,fun _ q4 S4 hq4=>?_⟩;obtain rfl:=hq4;refine⟨kp_,?_⟩;refine⟨show (0:Int)<=IntKind.u64.wrap 0 from by decide,?_⟩;refine⟨kp_,?_⟩;repeat (first | refine⟨fun _=>?_,bt_⟩ | refine⟨bf_,fun _=>?_⟩ | refine⟨⟨na_,nb_,nb_⟩,?_⟩ | refine⟨fun q=>absurd q nc_,fun _=>?_⟩ | refine⟨fun _=>?_,fun q=>absurd q s_⟩ | refine⟨fun q=>absurd q s_,fun _=>?_⟩ | refine⟨⟨d_,d_,d_⟩,?_⟩)
 refine⟨(),⟨IntKind.i64.wrap (jt+1),0,jl,d3⟩,1,S4,[(0,1),(1,1),(2,1)],trivial,rfl,rfl,trivial,rfl,fun r5 q5 S5 hq5=>?_⟩;obtain⟨rfl,rfl⟩:=hq5;refine⟨kp_,?_⟩;refine⟨kp_,?_⟩;repeat (first | refine⟨fun _=>?_,bt_⟩ | refine⟨bf_,fun _=>?_⟩ | refine⟨⟨na_,nb_,nb_⟩,?_⟩ | refine⟨fun q=>absurd q nc_,fun _=>?_⟩ | refine⟨fun _=>?_,fun q=>absurd q s_⟩ | refine⟨fun q=>absurd q s_,fun _=>?_⟩ | refine⟨⟨d_,d_,d_⟩,?_⟩)
 exact⟨(d3,_),⟨⟨IntKind.i64.wrap (jt+1),0,jl,d3⟩,0,1,3,commit,_,{ nxt with a:=jl.length },{ mat with a:=0 }⟩,S5,[],⟨by rw[hw],hd3⟩,trivial,⟨rfl,rfl,rfl⟩,rfl,kp_⟩
theorem rCamp1Ok:CSound Tryz.prog 178 ctRCamp1:=zbb zaT (D:=caD) caFok mixed k_ Tryz.func178 rfl k_ ⟨d_,d_⟩ (fun _=>rfl) rpB (fun _=>rfl) (fun _ _=>rfl) (fun _ q y hq _=>zmd q y hq)
/-! replica.Propose of a leader that is alone. -/
theorem zim (l:List (Int×Ent)) (x:Int×Ent) {i:Int} (hi:i=l.length):zdq (l++[x]) i=x.1:=by
 subst hi;unfold zdq;rw[if_pos (by rw[List.length_append];simp;omega),Int.toNat_natCast,gd_,List.getElem?_append_right nl_,Nat.sub_self];rfl
abbrev avF:FT:=[(228,ctRLenI),(175,ctRTermI),(276,ctJTermAt)]
abbrev avD:List (Nat×DQ):=[(9000000,{ k:=0,L:=[228,175] }),(6000001,{ k:=1,L:=[] }),(6000006,{ k:=2,L:=[] })]
abbrev ctAdvI:CT:=zat ttP avF avD Tryz.f232 (za1 Tryz.f232)
theorem rAdvIok {I:List Nat} (h:I.contains 232=true):zab Tryz.prog I 232 ctAdvI:=zad zaT (D:=avD) (za0 (zmc d_) (za0 (zgN d_) (za0 (zmI.i _) za3))) mixed k_ Tryz.func232 rfl k_ h
abbrev toD:List (Nat×DQ):=[(6000003,{ k:=2,L:=[] })]
abbrev ctToI:CT:=zat ttP [] toD Tryz.f225 (za1 Tryz.f225)
theorem rToIok {I:List Nat} (h:I.contains 225=true):zab Tryz.prog I 225 ctToI:=zad zaT (D:=toD) za3 mixed k_ Tryz.func225 rfl k_ h
abbrev rpF:FT:=[(175,ctRTermI),(232,ctAdvI),(225,ctToI),(230,ctJApp),(231,ctJSync)]
abbrev rpD:List (Nat×DQ):=[(9000000,{ k:=0,L:=[175,232,225] }),(3,{ k:=7,L:=[0,2],pre:=[(0,false),(1,false),(2,false),(3,false),(4,false),(6,false),(5,true)] })]
theorem rpFok:zaY Tryz.prog rpF (zbj rpD):=za0 (zgN d_) (za0 (rAdvIok d_) (za0 (rToIok d_) (za0 (jAppOk.i _) (za0 (zmJ.i _) za3))))
abbrev rP1pre (e:Ent) (q:RSt):Prop:=(q.n=1/\q.id=0/\q.role=3)/\(1<=q.j.term/\q.j.term<=1000000000)/\q.commit=q.j.log.length/\zdq q.j.log (q.j.log.length-1)<=q.j.term/\(zaN 32 16 4 30 e=true/\EntIn e)/\q.j.log.length<4096/\q.j.dl<=900000000
abbrev zmb (e:Ent) (q:RSt) (d:Nat) (q':RSt):Prop:=q'={ q with j:=⟨q.j.term,q.j.vote,q.j.log++[(q.j.term,e)],d⟩,commit:=q.j.log.length+1 }/\d<=q.j.dl+300
def ctRProp1:CT:=zbu rpI rpM 2 2 0 (fun e=>[entV' e]) (fun _=>[]) rP1pre zmb (fun _ _=>.tuple #[zs0,.int .i64 0]) (fun _ _=>[])
theorem zma (e:Ent) (q:RSt) (S:List Nat) (hq:rP1pre e q):sx ttP rpF rpD (za1 Tryz.f179) (zb3 0 (.pointer (some ⟨0,0,none⟩)::[entV' e])) (rpM q S++[]) 2 (zb8 ttP Tryz.f179.results.toList (zch rpI rpM 2 2 zmb (fun _ _=>.tuple #[zs0,.int .i64 0]) (fun _ _=>[]) e q)):=by
 obtain⟨⟨jt,jv,jl,dl⟩,id,n,role,commit,votes,nxt,mat⟩:=q;obtain⟨⟨rfl,rfl,rfl⟩,ht,rfl,hla,⟨hsh,hIn⟩,hlen,hd⟩:=(show (n=1/\id=0/\role=3)/\(1<=jt/\jt<=1000000000)/\commit=jl.length/\zdq jl (jl.length-1)<=jt/\(zaN 32 16 4 30 e=true/\EntIn e)/\jl.length<4096/\dl<=900000000 from hq);have hL:(jl++[(jt,e)]).length=jl.length+1:=List.length_append;have hw:IntKind.i64.wrap ((jl.length:Int)+1-1)=jl.length:=by rw[zaf o_];omega
 repeat (first | refine⟨fun _=>?_,bt_⟩ | refine⟨bf_,fun _=>?_⟩ | refine⟨⟨na_,nb_,nb_⟩,?_⟩ | refine⟨fun q=>absurd q nc_,fun _=>?_⟩ | refine⟨fun _=>?_,fun q=>absurd q s_⟩ | refine⟨fun q=>absurd q s_,fun _=>?_⟩ | refine⟨⟨d_,d_,d_⟩,?_⟩)
 refine⟨(),(⟨jt,jv,jl,dl⟩:JSt),1,S,[(0,1),(1,1),(2,1)],trivial,rfl,rfl,trivial,rfl,fun r1 q1 S1 hq1=>?_⟩;obtain⟨hr1,rfl⟩:=hq1;replace hr1:r1=jt:=hr1;subst r1;refine⟨kp_,?_⟩;refine⟨(jt,e),(⟨jt,jv,jl,dl⟩:JSt),1,S1,[(0,1),(1,1),(2,1)],⟨⟨by dsimp only;omega,by dsimp only;omega⟩,il_,hla,⟨hsh,hIn⟩,hlen,hd⟩,rfl,rfl,trivial,rfl,fun d2 q2 S2 hq2=>?_⟩;obtain⟨rfl,hd2⟩:=hq2;dsimp only at hd2;repeat (first | refine⟨fun _=>?_,bt_⟩ | refine⟨bf_,fun _=>?_⟩ | refine⟨⟨na_,nb_,nb_⟩,?_⟩ | refine⟨fun q=>absurd q nc_,fun _=>?_⟩ | refine⟨fun _=>?_,fun q=>absurd q s_⟩ | refine⟨fun q=>absurd q s_,fun _=>?_⟩ | refine⟨⟨d_,d_,d_⟩,?_⟩)
 refine⟨(),(⟨jt,jv,jl++[(jt,e)],d2⟩:JSt),1,S2,[(0,1),(1,1),(2,1)],trivial,rfl,rfl,trivial,rfl,fun _ q3 S3 hq3=>?_⟩;obtain rfl:=hq3;refine⟨(),(⟨jt,jv,jl++[(jt,e)],d2⟩:JSt),1,S3,[(0,1),(1,1),(2,1)],trivial,rfl,rfl,trivial,rfl,fun r4 q4 S4 hq4=>?_⟩;obtain⟨hr4,rfl⟩:=hq4;replace hr4:r4=(jl.length:Int)+1:=hr4.trans (by show ((jl++[(jt,e)]).length:Int)=_;rw[hL];rfl);subst r4;repeat (first | refine⟨fun _=>?_,bt_⟩ | refine⟨bf_,fun _=>?_⟩ | refine⟨⟨na_,nb_,nb_⟩,?_⟩ | refine⟨fun q=>absurd q nc_,fun _=>?_⟩ | refine⟨fun _=>?_,fun q=>absurd q s_⟩ | refine⟨fun q=>absurd q s_,fun _=>?_⟩ | refine⟨⟨d_,d_,d_⟩,?_⟩)
 refine⟨IntKind.i64.wrap ((jl.length:Int)+1-1),(⟨jt,jv,jl++[(jt,e)],d2⟩:JSt),1,S4,[(0,1),(1,1),(2,1)],trivial,rfl,rfl,trivial,rfl,fun r5 q5 S5 hq5=>?_⟩;obtain⟨hr5,rfl⟩:=hq5;replace hr5:r5=jt:=hr5.trans (zim jl (jt,e) hw);subst r5;refine⟨(),(⟨jt,jv,jl++[(jt,e)],d2⟩:JSt),1,S5,[(0,1),(1,1),(2,1)],trivial,rfl,rfl,trivial,rfl,fun r6 q6 S6 hq6=>?_⟩;obtain⟨hr6,rfl⟩:=hq6;replace hr6:r6=jt:=hr6;subst r6;repeat (first | refine⟨fun _=>?_,bt_⟩ | refine⟨bf_,fun _=>?_⟩ | refine⟨⟨na_,nb_,nb_⟩,?_⟩ | refine⟨fun q=>absurd q nc_,fun _=>?_⟩ | refine⟨fun _=>?_,fun q=>absurd q s_⟩ | refine⟨fun q=>absurd q s_,fun _=>?_⟩ | refine⟨⟨d_,d_,d_⟩,?_⟩)
 exact⟨d2,⟨(⟨jt,jv,jl++[(jt,e)],d2⟩:JSt),0,1,3,_,votes,nxt,mat⟩,S6,[],⟨rfl,hd2⟩,trivial,⟨rfl,rfl,rfl⟩,rfl,kp_⟩
theorem rProp1Ok:CSound Tryz.prog 179 ctRProp1:=zbb zaT (D:=rpD) rpFok mixed k_ Tryz.func179 rfl k_ ⟨d_,d_⟩ (fun _=>rfl) rpB (fun _=>rfl) (fun _ _=>rfl) (fun x q y hq _=>zma x q y hq)
/-! Quorums: how many replicas,whether one leads,the entries that are committed;ph tells what is in flight (1: a campaign,2: an entry). -/
structure QSt where
 n:Int
 ph:Nat
 led:Bool
 es:List Ent
inductive QY where
 | one (S:List Nat) (r:RSt) (cap0:Nat) (tl:List Value) (cap:Nat) (el:Nat->List Value)
structure Q1 (q:QSt) (r:RSt):Prop where
 id:r.id=0
 n:r.n=1
 term:r.j.term=if (q.led||decide (q.ph=1))=true then 1 else 0
 role:r.role=if (q.led||decide (q.ph=1))=true then 3 else 1
 log:r.j.log=q.es.map fun e=>(1,e)
 commit:r.commit=q.es.length
 dl:r.j.dl<=(if (q.led||decide (q.ph=1))=true then 2000 else 1000)+300 * q.es.length
def qI (q:QSt):QY->Prop
 | .one S r cap0 tl cap el=>(q.n=1/\q.es.length<=4096/\(q.led=false->q.es=[]))/\Q1 q r/\(∀ v ∈ tl,zam v)/\(q.es≠[]->q.es.length<=cap/\∀ k,k<q.es.length->el k=zbe (q.es.getD k default))
def comV (es:List Ent) (cap:Nat):Value:=match es with | []=>zs0 | _::_=>slc 3 es.length cap
def comB (es:List Ent) (cap:Nat) (el:Nat->List Value):AM:=match es with | []=>[] | _::_=>[(3,.row (1000000+43) 9 cap el)]
def qM (q:QSt):QY->AM
 | .one S r cap0 tl cap el=>(0,.box 211 [slc 1 1 cap0,zs0,comV q.es cap])::(1,.box 226 ([.pointer (some ⟨2,0,none⟩)]++tl))::(2,rpO S r)::comB q.es cap el
theorem zhL {n:Nat} {v:Value} (h:zam v):nm1 n v=true:=by
 cases v with
 | pointer p=>cases p<;>first | rfl | exact h.elim
 | slice p k c=>cases p<;>first | rfl | exact h.elim
 | map p=>cases p<;>first | rfl | exact h.elim
 | _=>rfl
theorem zm7 {σ:List (Nat×Nat)} {v:Value} (h:zam v):rn1 σ v=v:=by
 cases v with
 | pointer p=>cases p<;>first | rfl | exact h.elim
 | slice p k c=>cases p<;>first | rfl | exact h.elim
 | map p=>cases p<;>first | rfl | exact h.elim
 | _=>rfl
theorem zm5 {σ:List (Nat×Nat)} {t:TypeId} {l tl:List Value} (h:∀ v ∈ tl,zam v):rnB σ (.box t (l++tl))=.box t (l.map (rn1 σ)++tl):=by
 show ABlk.box t ((l++tl).map (rn1 σ))=_;rw[List.map_append,show tl.map (rn1 σ)=tl from (List.map_congr_left fun v hv=>zm7 (h v hv)).trans (List.map_id tl)]
theorem zb0 (σ:List (Nat×Nat)) {t:TypeId} {tl:List Value} (h:∀ v ∈ tl,zam v):some (ABlk.box t ([.pointer (some ⟨rnm σ 2,0,none⟩)]++tl))=some (rnB σ (.box t ([.pointer (some ⟨2,0,none⟩)]++tl))):=congrArg some (zm5 (l:=[.pointer (some ⟨2,0,none⟩)]) h).symm
theorem tl_nm (n:Nat) {tl:List Value} (htl:∀ v ∈ tl,zam v):tl.all (nm1 n)=true:=List.all_eq_true.2 fun v hv=>zhL (htl v hv)
theorem qB (q:QSt) (y:QY) (h:qI q y):zln 4 (qM q y)=true:=by
 obtain⟨S,r,cap0,tl,cap,el⟩:=y;obtain⟨-,-,htl,-⟩:=h;have ht:([Value.pointer (some ⟨2,0,none⟩)]++tl).all (nm1 4)=true:=by
  rw[List.all_append,Bool.and_eq_true];exact⟨rfl,List.all_eq_true.2 fun v hv=>zhL (htl v hv)⟩
 obtain⟨n,ph,led,es⟩:=q;cases es with
 | nil=>simp only[zln,qM,comB,comV,nmM,nmB,List.all_cons,ht,List.all_nil,List.all_append];rfl
 | cons e es=>simp only[zln,qM,comB,comV,nmM,nmB,List.all_cons,ht,List.all_nil,List.all_append];rfl
abbrev qO (S:List Nat) (q:QSt):ABlk:=.ext (.obj S (zkF (qI q) (qM q) 4))
/-! quorum.New,Leader,Commit,Log,Flush,of one replica. -/
abbrev qNF:FT:=[(166,ctRNew)]
abbrev qND:List (Nat×DQ):=[(6000003,{ k:=2,L:=[] })]
abbrev qNpost (_:Unit) (_:Unit) (q:QSt):Prop:=q=⟨1,0,false,[]⟩
def ctQNew1:CT:=zgC qI qM 4 0 (fun _=>[.int .i64 1]) (fun _=>[]) (fun _=>True) qNpost (fun _ _=>.tuple #[.pointer (some ⟨0,0,none⟩),.int .i64 0])
theorem qNew1_sx:sx ttP qNF qND (za1 Tryz.f108) (zb3 0 [.int .i64 1]) [] 0 (zb8 ttP Tryz.f108.results.toList (zkL qI qM 0 qNpost (fun _ _=>.tuple #[.pointer (some ⟨0,0,none⟩),.int .i64 0]) ())):=by
 repeat (first | refine⟨fun _=>?_,bt_⟩ | refine⟨bf_,fun _=>?_⟩ | refine⟨⟨na_,nb_,nb_⟩,?_⟩ | refine⟨fun q=>absurd q nc_,fun _=>?_⟩ | refine⟨fun _=>?_,fun q=>absurd q s_⟩ | refine⟨fun q=>absurd q s_,fun _=>?_⟩ | refine⟨⟨d_,d_,d_⟩,?_⟩)
 refine⟨(0,1),[],⟨.inl rfl,d_,d_⟩,rfl,trivial,rfl,fun _ q1 S1 hq1=>?_⟩;obtain rfl:=(show q1=⟨⟨0,-1,[],0⟩,0,1,1,0,0,r50,r50⟩ from hq1);repeat (first | refine⟨fun _=>?_,bt_⟩ | refine⟨bf_,fun _=>?_⟩ | refine⟨⟨na_,nb_,nb_⟩,?_⟩ | refine⟨fun q=>absurd q nc_,fun _=>?_⟩ | refine⟨fun _=>?_,fun q=>absurd q s_⟩ | refine⟨fun q=>absurd q s_,fun _=>?_⟩ | refine⟨⟨d_,d_,d_⟩,?_⟩)
 refine⟨rfl,⟨d_,d_⟩,fun cap0 tl ⟨_,_,htl⟩=>?_⟩;repeat (first | refine⟨fun _=>?_,bt_⟩ | refine⟨bf_,fun _=>?_⟩ | refine⟨⟨na_,nb_,nb_⟩,?_⟩ | refine⟨fun q=>absurd q nc_,fun _=>?_⟩ | refine⟨fun _=>?_,fun q=>absurd q s_⟩ | refine⟨fun q=>absurd q s_,fun _=>?_⟩ | refine⟨⟨d_,d_,d_⟩,?_⟩)
 refine⟨(),⟨1,0,false,[]⟩,.one S1 ⟨⟨0,-1,[],0⟩,0,1,1,0,0,r50,r50⟩ cap0 tl 0 (fun _=>[]),[(1,3),(2,1)],rfl,⟨⟨rfl,d_,fun _=>rfl⟩,⟨rfl,rfl,rfl,rfl,rfl,rfl,d_⟩,htl,fun h=>absurd rfl h⟩,rfl,rfl,?_⟩;refine⟨rfl,?_,rfl,trivial⟩;exact Eq.trans (b:=some (ABlk.box 226 ([Value.pointer (some ⟨1,0,none⟩)]++tl))) rfl (congrArg some (zm5 (σ:=[(1,3),(2,1)]) (l:=[.pointer (some ⟨2,0,none⟩)]) htl).symm)
theorem qNew1Ok:CSound Tryz.prog 108 ctQNew1:=zfS zaT (D:=qND) (za0 (rNewOk.i _) za3) mixed k_ Tryz.func108 rfl k_ (fun _=>rfl) qB (fun _=>rfl) (fun _ _=>rfl) (fun _ _=>qNew1_sx)
/-! Leader -/
abbrev qLF:FT:=[(174,ctRRole),(175,ctRTerm)]
abbrev qLD:List (Nat×DQ):=[(6000003,{ k:=2,L:=[] }),(5,{ k:=16,L:=[0,1],pre:=[(0,false),(1,true),(2,false),(3,false),(4,false),(5,false),(6,false),(7,false),(9,false),(10,false),(11,false),(12,false),(13,false),(14,false),(15,false),(8,true)] })]
abbrev qLpost (_:Unit) (q:QSt) (r:Int) (q':QSt):Prop:=r=(if q.led then 0 else -1)/\q'=q
def ctQLeader:CT:=zbu (X:=Unit) qI qM 4 4 0 (fun _=>[]) (fun _=>[]) (fun _ q=>q.ph=0) qLpost (fun _ r=>.int .i64 r) (fun _ _=>[])
theorem zkx (q:QSt) (y:QY) (hq:q.ph=0) (hy:qI q y):sx ttP qLF qLD (za1 Tryz.f112) (zb3 0 (.pointer (some ⟨0,0,none⟩)::[])) (qM q y++[]) 4 (zb8 ttP Tryz.f112.results.toList (zch (X:=Unit) qI qM 4 4 qLpost (fun _ r=>.int .i64 r) (fun _ _=>[]) () q)):=by
 obtain⟨S,r,cap0,tl,cap,el⟩:=y;obtain⟨n,ph,led,es⟩:=q;obtain⟨⟨hn,hle,hled⟩,h1,htl,hcom⟩:=hy;dsimp only at hn hle hled hcom hq;obtain rfl:ph=0:=hq;repeat (first | refine⟨fun _=>?_,bt_⟩ | refine⟨bf_,fun _=>?_⟩ | refine⟨⟨na_,nb_,nb_⟩,?_⟩ | refine⟨fun q=>absurd q nc_,fun _=>?_⟩ | refine⟨fun _=>?_,fun q=>absurd q s_⟩ | refine⟨fun q=>absurd q s_,fun _=>?_⟩ | refine⟨⟨d_,d_,d_⟩,?_⟩)
 refine⟨(),r,2,S,[(0,2),(1,2)],trivial,rfl,rfl,trivial,rfl,fun r1 q1 S1 hq1=>?_⟩;obtain⟨hr1,rfl⟩:=hq1;rw[h1.role] at hr1;refine⟨kp_,?_⟩;cases led
 ·replace hr1:r1=1:=hr1;subst r1;repeat (first | refine⟨fun _=>?_,bt_⟩ | refine⟨bf_,fun _=>?_⟩ | refine⟨⟨na_,nb_,nb_⟩,?_⟩ | refine⟨fun q=>absurd q nc_,fun _=>?_⟩ | refine⟨fun _=>?_,fun q=>absurd q s_⟩ | refine⟨fun q=>absurd q s_,fun _=>?_⟩ | refine⟨⟨d_,d_,d_⟩,?_⟩)
  refine⟨_,⟨n,0,false,es⟩,.one S1 q1 cap0 tl cap el,[],⟨rfl,rfl⟩,⟨⟨hn,hle,hled⟩,h1,htl,hcom⟩,⟨rfl,rfl,?_⟩,rfl,?_⟩
  ·cases es<;>rfl
  ·cases es with
   | nil=>exact⟨rfl,zb0 [] htl,rfl,trivial⟩
   | cons e0 es0=>exact⟨rfl,zb0 [] htl,rfl,rfl,trivial⟩
 ·replace hr1:r1=3:=hr1;subst r1;repeat (first | refine⟨fun _=>?_,bt_⟩ | refine⟨bf_,fun _=>?_⟩ | refine⟨⟨na_,nb_,nb_⟩,?_⟩ | refine⟨fun q=>absurd q nc_,fun _=>?_⟩ | refine⟨fun _=>?_,fun q=>absurd q s_⟩ | refine⟨fun q=>absurd q s_,fun _=>?_⟩ | refine⟨⟨d_,d_,d_⟩,?_⟩)
  refine⟨_,⟨n,0,true,es⟩,.one S1 q1 cap0 tl cap el,[],⟨rfl,rfl⟩,⟨⟨hn,hle,hled⟩,h1,htl,hcom⟩,⟨rfl,rfl,?_⟩,rfl,?_⟩
  ·cases es<;>rfl
  ·cases es with
   | nil=>exact⟨rfl,zb0 [] htl,rfl,trivial⟩
   | cons e0 es0=>exact⟨rfl,zb0 [] htl,rfl,rfl,trivial⟩
theorem zmh:CSound Tryz.prog 112 ctQLeader:=zbb zaT (D:=qLD) (za0 (rRoleOk.i _) (za0 (rTermOk.i _) za3)) mixed k_ Tryz.func112 rfl k_ ⟨d_,d_⟩ (fun _=>rfl) qB (fun _=>rfl) (fun _ _=>rfl) (fun _ q y hq hy=>zkx q y hq hy)
/-! slices.Clone of lists of whatever kind. -/
def zdX (T:TypeId) (size:Nat) (w:World) (n:Nat) (xs:List Value) (e:Ending) (w':World):Prop:=
 ∃ (A:Option Addr) (cp:Nat),e=.returned (.slice A n cp)/\w'.ownsRow w.heap.size T size (.slice A n cp) n xs/\Below w.heap.size w w'
theorem zl5:(Tryz.prog.info? 93).map (fun i=>(i.zero,i.size,i.bytes))=some (some (.agg #[.int .i64 0]),1,8):=by kernel_rfl
theorem zni (n cp:Nat) (w:World):Sem.run Tryz.prog (binOp BinOp.eql 25 (.slice none n cp) (.slice none 0 0)) w=.ok (.bool true) w:=by kernel_rfl
theorem zl4 (ad:Addr) (n cp:Nat) (w:World):Sem.run Tryz.prog (binOp BinOp.eql 25 (.slice (some ad) n cp) (.slice none 0 0)) w=.ok (.bool false) w:=by kernel_rfl
theorem ckZonePl (x:Int):∀ v ∈ zaw x,zam v:=by
 intro v hv;simp only[zaw,List.mem_cons,List.not_mem_nil,or_false] at hv;subst hv;trivial
theorem zl3 (A:Option Addr) (cp:Nat) (l:List Int) (w:World) (hl:l.length<=100) (hr:Rd w (·<w.heap.size) A (zaJ zaw l)) :
  Calls Tryz.prog 167 #[.slice A l.length cp] w (zdX 93 1 w l.length (zaJ zaw l)):=by
 obtain⟨ii,hii,hi0,hi1,hi2⟩:=info_parts zl5;have hlen:=zbs (enc:=zaw) (sz:=1) (fun _=>rfl) l;cases A with
 | none=>
  have h0:l=[]:=by
   cases l with
   | nil=>rfl
   | cons a r=>
    obtain⟨b,o,hA,_⟩:=hr (by simp[zaJ,zaw]);cases hA
  subst h0;go_enter Tryz.func167,Tryz.ntmps167;have hq:=zni 0 cp w;go_wp2;go_ret;exact⟨none,0,rfl,World.ownsRow_nil _ _ _ _,Below.refl _ _⟩
 | some ad=>
  have hq:=zl4 ad l.length cp w;have h0:=World.ownsRow_lit (base:=w.heap.size) (e:=93) (size:=1) w #[] 0 nl_ (by unfold maxLen;omega) rfl;have hb0:=(Below.refl w.heap.size w).alloc nl_ (.cells #[] 93);have h1:=(hr.alloc (.cells #[] 93));have hone:∀ u ∈ zaJ zaw l,u.oneCell'=true:=by
   intro u hu;obtain⟨a,_,ha⟩:=List.mem_flatMap.1 (show u ∈ l.flatMap zaw from hu);simp only[zaw,List.mem_cons,List.not_mem_nil,or_false] at ha;subst ha;rfl
  go_enter Tryz.func167,Tryz.ntmps167;go_wp2_with (at_builtin;refine zaV _ rfl _ _ _ rfl w.heap.size 93 ii _ 1 8 Tryz.underlying25 hii hi0 hi1 hi2 rfl o_ _ 0 [] rfl h0 _ (some ad) l.length cp (zaJ zaw l) rfl hlen h1 hone ?c1 ?c2 ?c3 ?_);case c1=>unfold maxLen;omega
  case c2=>omega
  intro v' w2 hown hg hat;(try rw[Nat.zero_add] at hown);(try rw[List.nil_append] at hown)
  obtain⟨A',cp',rfl⟩:=zcM hown;have HO:=Lib.hid hown;have HB:=Lib.hid (hb0.grown hg (by simp) (fun k hk=>by injection hk with hk;rw[← hk];exact nl_));clear hown hg hat h0 hb0 hq;go_wp2;go_ret;exact⟨A',cp',rfl,HO.out,HB.out⟩
theorem zl8:(Tryz.prog.info? 95).map (fun i=>(i.zero,i.size,i.bytes))=some (some (.agg #[.int .i64 0,.int .i64 0]),2,16):=by kernel_rfl
theorem znv (n cp:Nat) (w:World):Sem.run Tryz.prog (binOp BinOp.eql 26 (.slice none n cp) (.slice none 0 0)) w=.ok (.bool true) w:=by kernel_rfl
theorem zl7 (ad:Addr) (n cp:Nat) (w:World):Sem.run Tryz.prog (binOp BinOp.eql 26 (.slice (some ad) n cp) (.slice none 0 0)) w=.ok (.bool false) w:=by kernel_rfl
theorem ckCellPl (x:(Int×Int)):∀ v ∈ zaI x,zam v:=by
 intro v hv;simp only[zaI,List.mem_cons,List.not_mem_nil,or_false] at hv;rcases hv with rfl | rfl<;>trivial
theorem zl6 (A:Option Addr) (cp:Nat) (l:List (Int×Int)) (w:World) (hl:l.length<=100) (hr:Rd w (·<w.heap.size) A (zaJ zaI l)) :
  Calls Tryz.prog 168 #[.slice A l.length cp] w (zdX 95 2 w l.length (zaJ zaI l)):=by
 obtain⟨ii,hii,hi0,hi1,hi2⟩:=info_parts zl8;have hlen:=zbs (enc:=zaI) (sz:=2) (fun _=>rfl) l;cases A with
 | none=>
  have h0:l=[]:=by
   cases l with
   | nil=>rfl
   | cons a r=>
    obtain⟨b,o,hA,_⟩:=hr (by simp[zaJ,zaI]);cases hA
  subst h0;go_enter Tryz.func168,Tryz.ntmps168;have hq:=znv 0 cp w;go_wp2;go_ret;exact⟨none,0,rfl,World.ownsRow_nil _ _ _ _,Below.refl _ _⟩
 | some ad=>
  have hq:=zl7 ad l.length cp w;have h0:=World.ownsRow_lit (base:=w.heap.size) (e:=95) (size:=2) w #[] 0 nl_ (by unfold maxLen;omega) rfl;have hb0:=(Below.refl w.heap.size w).alloc nl_ (.cells #[] 95);have h1:=(hr.alloc (.cells #[] 95));have hone:∀ u ∈ zaJ zaI l,u.oneCell'=true:=by
   intro u hu;obtain⟨a,_,ha⟩:=List.mem_flatMap.1 (show u ∈ l.flatMap zaI from hu);simp only[zaI,List.mem_cons,List.not_mem_nil,or_false] at ha;rcases ha with rfl | rfl<;>rfl
  go_enter Tryz.func168,Tryz.ntmps168;go_wp2_with (at_builtin;refine zaV _ rfl _ _ _ rfl w.heap.size 95 ii _ 2 16 Tryz.underlying26 hii hi0 hi1 hi2 rfl o_ _ 0 [] rfl h0 _ (some ad) l.length cp (zaJ zaI l) rfl hlen h1 hone ?c1 ?c2 ?c3 ?_);case c1=>unfold maxLen;omega
  case c2=>omega
  intro v' w2 hown hg hat;(try rw[Nat.zero_add] at hown);(try rw[List.nil_append] at hown)
  obtain⟨A',cp',rfl⟩:=zcM hown;have HO:=Lib.hid hown;have HB:=Lib.hid (hb0.grown hg (by simp) (fun k hk=>by injection hk with hk;rw[← hk];exact nl_));clear hown hg hat h0 hb0 hq;go_wp2;go_ret;exact⟨A',cp',rfl,HO.out,HB.out⟩
theorem zno:(Tryz.prog.info? 98).map (fun i=>(i.zero,i.size,i.bytes))=some (some (.agg #[.int .i64 0,.int .i64 0,.int .i64 0,.int .i64 0,.int .i64 0,.int .i64 0,.bool false]),7,56):=by kernel_rfl
theorem ckTenNil (n cp:Nat) (w:World):Sem.run Tryz.prog (binOp BinOp.eql 27 (.slice none n cp) (.slice none 0 0)) w=.ok (.bool true) w:=by kernel_rfl
theorem znn (ad:Addr) (n cp:Nat) (w:World):Sem.run Tryz.prog (binOp BinOp.eql 27 (.slice (some ad) n cp) (.slice none 0 0)) w=.ok (.bool false) w:=by kernel_rfl
theorem ckTenPl (x:Ten):∀ v ∈ zd8 x,zam v:=by
 intro v hv;simp only[zd8,List.mem_cons,List.not_mem_nil,or_false] at hv;rcases hv with rfl | rfl | rfl | rfl | rfl | rfl | rfl<;>trivial
theorem znm (A:Option Addr) (cp:Nat) (l:List Ten) (w:World) (hl:l.length<=100) (hr:Rd w (·<w.heap.size) A (zaJ zd8 l)) :
  Calls Tryz.prog 169 #[.slice A l.length cp] w (zdX 98 7 w l.length (zaJ zd8 l)):=by
 obtain⟨ii,hii,hi0,hi1,hi2⟩:=info_parts zno;have hlen:=zbs (enc:=zd8) (sz:=7) (fun _=>rfl) l;cases A with
 | none=>
  have h0:l=[]:=by
   cases l with
   | nil=>rfl
   | cons a r=>
    obtain⟨b,o,hA,_⟩:=hr (by simp[zaJ,zd8]);cases hA
  subst h0;go_enter Tryz.func169,Tryz.ntmps169;have hq:=ckTenNil 0 cp w;go_wp2;go_ret;exact⟨none,0,rfl,World.ownsRow_nil _ _ _ _,Below.refl _ _⟩
 | some ad=>
  have hq:=znn ad l.length cp w;have h0:=World.ownsRow_lit (base:=w.heap.size) (e:=98) (size:=7) w #[] 0 nl_ (by unfold maxLen;omega) rfl;have hb0:=(Below.refl w.heap.size w).alloc nl_ (.cells #[] 98);have h1:=(hr.alloc (.cells #[] 98));have hone:∀ u ∈ zaJ zd8 l,u.oneCell'=true:=by
   intro u hu;obtain⟨a,_,ha⟩:=List.mem_flatMap.1 (show u ∈ l.flatMap zd8 from hu);simp only[zd8,List.mem_cons,List.not_mem_nil,or_false] at ha;rcases ha with rfl | rfl | rfl | rfl | rfl | rfl | rfl<;>rfl
  go_enter Tryz.func169,Tryz.ntmps169;go_wp2_with (at_builtin;refine zaV _ rfl _ _ _ rfl w.heap.size 98 ii _ 7 56 Tryz.underlying27 hii hi0 hi1 hi2 rfl o_ _ 0 [] rfl h0 _ (some ad) l.length cp (zaJ zd8 l) rfl hlen h1 hone ?c1 ?c2 ?c3 ?_);case c1=>unfold maxLen;omega
  case c2=>omega
  intro v' w2 hown hg hat;(try rw[Nat.zero_add] at hown);(try rw[List.nil_append] at hown)
  obtain⟨A',cp',rfl⟩:=zcM hown;have HO:=Lib.hid hown;have HB:=Lib.hid (hb0.grown hg (by simp) (fun k hk=>by injection hk with hk;rw[← hk];exact nl_));clear hown hg hat h0 hb0 hq;go_wp2;go_ret;exact⟨A',cp',rfl,HO.out,HB.out⟩
theorem znl:(Tryz.prog.info? 100).map (fun i=>(i.zero,i.size,i.bytes))=some (some (.agg #[.int .i64 0,.int .i64 0]),2,16):=by kernel_rfl
theorem ckVerNil (n cp:Nat) (w:World):Sem.run Tryz.prog (binOp BinOp.eql 28 (.slice none n cp) (.slice none 0 0)) w=.ok (.bool true) w:=by kernel_rfl
theorem znk (ad:Addr) (n cp:Nat) (w:World):Sem.run Tryz.prog (binOp BinOp.eql 28 (.slice (some ad) n cp) (.slice none 0 0)) w=.ok (.bool false) w:=by kernel_rfl
theorem ckVerPl (x:(Int×Int)):∀ v ∈ zaI x,zam v:=by
 intro v hv;simp only[zaI,List.mem_cons,List.not_mem_nil,or_false] at hv;rcases hv with rfl | rfl<;>trivial
theorem znj (A:Option Addr) (cp:Nat) (l:List (Int×Int)) (w:World) (hl:l.length<=100) (hr:Rd w (·<w.heap.size) A (zaJ zaI l)) :
  Calls Tryz.prog 170 #[.slice A l.length cp] w (zdX 100 2 w l.length (zaJ zaI l)):=by
 obtain⟨ii,hii,hi0,hi1,hi2⟩:=info_parts znl;have hlen:=zbs (enc:=zaI) (sz:=2) (fun _=>rfl) l;cases A with
 | none=>
  have h0:l=[]:=by
   cases l with
   | nil=>rfl
   | cons a r=>
    obtain⟨b,o,hA,_⟩:=hr (by simp[zaJ,zaI]);cases hA
  subst h0;go_enter Tryz.func170,Tryz.ntmps170;have hq:=ckVerNil 0 cp w;go_wp2;go_ret;exact⟨none,0,rfl,World.ownsRow_nil _ _ _ _,Below.refl _ _⟩
 | some ad=>
  have hq:=znk ad l.length cp w;have h0:=World.ownsRow_lit (base:=w.heap.size) (e:=100) (size:=2) w #[] 0 nl_ (by unfold maxLen;omega) rfl;have hb0:=(Below.refl w.heap.size w).alloc nl_ (.cells #[] 100);have h1:=(hr.alloc (.cells #[] 100));have hone:∀ u ∈ zaJ zaI l,u.oneCell'=true:=by
   intro u hu;obtain⟨a,_,ha⟩:=List.mem_flatMap.1 (show u ∈ l.flatMap zaI from hu);simp only[zaI,List.mem_cons,List.not_mem_nil,or_false] at ha;rcases ha with rfl | rfl<;>rfl
  go_enter Tryz.func170,Tryz.ntmps170;go_wp2_with (at_builtin;refine zaV _ rfl _ _ _ rfl w.heap.size 100 ii _ 2 16 Tryz.underlying28 hii hi0 hi1 hi2 rfl o_ _ 0 [] rfl h0 _ (some ad) l.length cp (zaJ zaI l) rfl hlen h1 hone ?c1 ?c2 ?c3 ?_);case c1=>unfold maxLen;omega
  case c2=>omega
  intro v' w2 hown hg hat;(try rw[Nat.zero_add] at hown);(try rw[List.nil_append] at hown)
  obtain⟨A',cp',rfl⟩:=zcM hown;have HO:=Lib.hid hown;have HB:=Lib.hid (hb0.grown hg (by simp) (fun k hk=>by injection hk with hk;rw[← hk];exact nl_));clear hown hg hat h0 hb0 hq;go_wp2;go_ret;exact⟨A',cp',rfl,HO.out,HB.out⟩
theorem znr:(Tryz.prog.info? 3).map (fun i=>(i.zero,i.size,i.bytes))=some (some (.int .i64 0),1,8):=by kernel_rfl
theorem ckIntNil (n cp:Nat) (w:World):Sem.run Tryz.prog (binOp BinOp.eql 22 (.slice none n cp) (.slice none 0 0)) w=.ok (.bool true) w:=by kernel_rfl
theorem znq (ad:Addr) (n cp:Nat) (w:World):Sem.run Tryz.prog (binOp BinOp.eql 22 (.slice (some ad) n cp) (.slice none 0 0)) w=.ok (.bool false) w:=by kernel_rfl
theorem ckIntPl (x:Int):∀ v ∈ zaw x,zam v:=by
 intro v hv;simp only[zaw,List.mem_cons,List.not_mem_nil,or_false] at hv;subst hv;trivial
theorem znp (A:Option Addr) (cp:Nat) (l:List Int) (w:World) (hl:l.length<=100) (hr:Rd w (·<w.heap.size) A (zaJ zaw l)) :
  Calls Tryz.prog 171 #[.slice A l.length cp] w (zdX 3 1 w l.length (zaJ zaw l)):=by
 obtain⟨ii,hii,hi0,hi1,hi2⟩:=info_parts znr;have hlen:=zbs (enc:=zaw) (sz:=1) (fun _=>rfl) l;cases A with
 | none=>
  have h0:l=[]:=by
   cases l with
   | nil=>rfl
   | cons a r=>
    obtain⟨b,o,hA,_⟩:=hr (by simp[zaJ,zaw]);cases hA
  subst h0;go_enter Tryz.func171,Tryz.ntmps171;have hq:=ckIntNil 0 cp w;go_wp2;go_ret;exact⟨none,0,rfl,World.ownsRow_nil _ _ _ _,Below.refl _ _⟩
 | some ad=>
  have hq:=znq ad l.length cp w;have h0:=World.ownsRow_lit (base:=w.heap.size) (e:=3) (size:=1) w #[] 0 nl_ (by unfold maxLen;omega) rfl;have hb0:=(Below.refl w.heap.size w).alloc nl_ (.cells #[] 3);have h1:=(hr.alloc (.cells #[] 3));have hone:∀ u ∈ zaJ zaw l,u.oneCell'=true:=by
   intro u hu;obtain⟨a,_,ha⟩:=List.mem_flatMap.1 (show u ∈ l.flatMap zaw from hu);simp only[zaw,List.mem_cons,List.not_mem_nil,or_false] at ha;subst ha;rfl
  go_enter Tryz.func171,Tryz.ntmps171;go_wp2_with (at_builtin;refine zaV _ rfl _ _ _ rfl w.heap.size 3 ii _ 1 8 Tryz.underlying22 hii hi0 hi1 hi2 rfl o_ _ 0 [] rfl h0 _ (some ad) l.length cp (zaJ zaw l) rfl hlen h1 hone ?c1 ?c2 ?c3 ?_);case c1=>unfold maxLen;omega
  case c2=>omega
  intro v' w2 hown hg hat;(try rw[Nat.zero_add] at hown);(try rw[List.nil_append] at hown)
  obtain⟨A',cp',rfl⟩:=zcM hown;have HO:=Lib.hid hown;have HB:=Lib.hid (hb0.grown hg (by simp) (fun k hk=>by injection hk with hk;rw[← hk];exact nl_));clear hown hg hat h0 hb0 hq;go_wp2;go_ret;exact⟨A',cp',rfl,HO.out,HB.out⟩
theorem tsInfo:(Tryz.prog.info? 55).map (fun i=>(i.zero,i.size,i.bytes))=some (some (.agg #[.bool false,.bool false,.int .i64 0,.int .i64 0,.int .i64 0,.int .i64 0,.int .i64 0,.int .i64 0,.int .i64 0,.int .i64 0,.int .i64 0,.int .i64 0]),12,88):=by kernel_rfl
theorem csInfo:(Tryz.prog.info? 103).map (fun i=>(i.zero,i.size,i.bytes))=some (some (.agg #[.int .i64 0,.int .i64 0,.int .i64 0,.int .i64 0]),4,32):=by kernel_rfl
theorem tsNil (n cp:Nat) (w:World):Sem.run Tryz.prog (binOp BinOp.eql 34 (.slice none n cp) (.slice none 0 0)) w=.ok (.bool true) w:=by kernel_rfl
theorem tsSome (ad:Addr) (n cp:Nat) (w:World):Sem.run Tryz.prog (binOp BinOp.eql 34 (.slice (some ad) n cp) (.slice none 0 0)) w=.ok (.bool false) w:=by kernel_rfl
theorem csNil (n cp:Nat) (w:World):Sem.run Tryz.prog (binOp BinOp.eql 35 (.slice none n cp) (.slice none 0 0)) w=.ok (.bool true) w:=by kernel_rfl
theorem csSome (ad:Addr) (n cp:Nat) (w:World):Sem.run Tryz.prog (binOp BinOp.eql 35 (.slice (some ad) n cp) (.slice none 0 0)) w=.ok (.bool false) w:=by kernel_rfl
def znQ (T:TypeId) (size:Nat) (w:World) (n:Nat) (xs:List Value) (e:Ending) (w':World):Prop:=
 ∃ (A:Option Addr) (cp:Nat),e=.returned (.slice A n cp)/\w'.ownsRow w.heap.size T size (.slice A n cp) n xs/\Below w.heap.size w w'
theorem zje (A:Option Addr) (cp:Nat) (l:List TS) (w:World) (hl:l.length<=100) (hr:Rd w (·<w.heap.size) A (zaJ tsC l)) :
  Calls Tryz.prog 44 #[.slice A l.length cp] w (znQ 55 12 w l.length (zaJ tsC l)):=by
 obtain⟨ii,hii,hi0,hi1,hi2⟩:=info_parts tsInfo;have hlen:=zbs (enc:=tsC) (sz:=12) (fun _=>rfl) l;cases A with
 | none=>
  have h0:l=[]:=by
   cases l with
   | nil=>rfl
   | cons a r=>
    obtain⟨b,o,hA,_⟩:=hr (by simp[zaJ,tsC]);cases hA
  subst h0;go_enter Tryz.func44,Tryz.ntmps44;have hq:=tsNil 0 cp w;go_wp2;go_ret;exact⟨none,0,rfl,World.ownsRow_nil _ _ _ _,Below.refl _ _⟩
 | some ad=>
  have hq:=tsSome ad l.length cp w;have h0:=World.ownsRow_lit (base:=w.heap.size) (e:=55) (size:=12) w #[] 0 nl_ (by unfold maxLen;omega) rfl;have hb0:=(Below.refl w.heap.size w).alloc nl_ (.cells #[] 55);have h1:=(hr.alloc (.cells #[] 55));have hone:∀ u ∈ zaJ tsC l,u.oneCell'=true:=by
   intro u hu;obtain⟨a,_,ha⟩:=List.mem_flatMap.1 (show u ∈ l.flatMap tsC from hu);simp only[tsC,List.mem_cons,List.not_mem_nil,or_false] at ha;rcases ha with rfl | rfl | rfl | rfl | rfl | rfl | rfl | rfl | rfl | rfl | rfl | rfl<;>rfl
  go_enter Tryz.func44,Tryz.ntmps44;go_wp2_with (at_builtin;refine zaV _ rfl _ _ _ rfl w.heap.size 55 ii _ 12 88 Tryz.underlying34 hii hi0 hi1 hi2 rfl o_ _ 0 [] rfl h0 _ (some ad) l.length cp (zaJ tsC l) rfl hlen h1 hone ?c1 ?c2 ?c3 ?_);case c1=>unfold maxLen;omega
  case c2=>omega
  intro v' w2 hown hg hat;(try rw[Nat.zero_add] at hown);(try rw[List.nil_append] at hown)
  obtain⟨A',cp',rfl⟩:=zcM hown;have HO:=Lib.hid hown;have HB:=Lib.hid (hb0.grown hg (by simp) (fun k hk=>by injection hk with hk;rw[← hk];exact nl_));clear hown hg hat h0 hb0 hq;go_wp2;go_ret;exact⟨A',cp',rfl,HO.out,HB.out⟩
theorem zjf (A:Option Addr) (cp:Nat) (l:List CS) (w:World) (hl:l.length<=100) (hr:Rd w (·<w.heap.size) A (zaJ csC l)) :
  Calls Tryz.prog 45 #[.slice A l.length cp] w (znQ 103 4 w l.length (zaJ csC l)):=by
 obtain⟨ii,hii,hi0,hi1,hi2⟩:=info_parts csInfo;have hlen:=zbs (enc:=csC) (sz:=4) (fun _=>rfl) l;cases A with
 | none=>
  have h0:l=[]:=by
   cases l with
   | nil=>rfl
   | cons a r=>
    obtain⟨b,o,hA,_⟩:=hr (by simp[zaJ,csC]);cases hA
  subst h0;go_enter Tryz.func45,Tryz.ntmps45;have hq:=csNil 0 cp w;go_wp2;go_ret;exact⟨none,0,rfl,World.ownsRow_nil _ _ _ _,Below.refl _ _⟩
 | some ad=>
  have hq:=csSome ad l.length cp w;have h0:=World.ownsRow_lit (base:=w.heap.size) (e:=103) (size:=4) w #[] 0 nl_ (by unfold maxLen;omega) rfl;have hb0:=(Below.refl w.heap.size w).alloc nl_ (.cells #[] 103);have h1:=(hr.alloc (.cells #[] 103));have hone:∀ u ∈ zaJ csC l,u.oneCell'=true:=by
   intro u hu;obtain⟨a,_,ha⟩:=List.mem_flatMap.1 (show u ∈ l.flatMap csC from hu);simp only[csC,List.mem_cons,List.not_mem_nil,or_false] at ha;rcases ha with rfl | rfl | rfl | rfl<;>rfl
  go_enter Tryz.func45,Tryz.ntmps45;go_wp2_with (at_builtin;refine zaV _ rfl _ _ _ rfl w.heap.size 103 ii _ 4 32 Tryz.underlying35 hii hi0 hi1 hi2 rfl o_ _ 0 [] rfl h0 _ (some ad) l.length cp (zaJ csC l) rfl hlen h1 hone ?c1 ?c2 ?c3 ?_);case c1=>unfold maxLen;omega
  case c2=>omega
  intro v' w2 hown hg hat;(try rw[Nat.zero_add] at hown);(try rw[List.nil_append] at hown)
  obtain⟨A',cp',rfl⟩:=zcM hown;have HO:=Lib.hid hown;have HB:=Lib.hid (hb0.grown hg (by simp) (fun k hk=>by injection hk with hk;rw[← hk];exact nl_));clear hown hg hat h0 hb0 hq;go_wp2;go_ret;exact⟨A',cp',rfl,HO.out,HB.out⟩
theorem Blk.setCellsFar2 {w:World} {g b:Nat} {t:TypeId} {cs:Array Value} (h:Blk w g t cs) (hb:g≠b) (o:Nat) (vs:List Value):Blk (w.setCells b o vs) g t cs:=(zce vs o g hb).trans h
theorem zdJ {B:Nat} {w wx:World} (h:Below B w wx) {b:Nat} (hb:B<=b):∀ (vs:List Value) (o:Nat),Below B w (wx.setCells b o vs):=by
 intro vs;induction vs generalizing wx with
 | nil=>intro o;exact h
 | cons v r ih=>intro o;rw[World.setCells];exact ih (h.setCell (p:=⟨b,o,none⟩) hb v) _
theorem zdO:∀ (vs:List Value) (cs:Array Value) (o j:Nat),(zdZ cs o vs)[j]?=if o<=j/\j<o+vs.length/\j<cs.size then vs[j-o]? else cs[j]?
 | [],cs,o,j=>by simp only[zdZ,List.length_nil];rw[if_neg o_]
 | v::r,cs,o,j=>by
  rw[zdZ,zdO r,Array.size_setIfInBounds]
  by_cases h1:j=o
  ·subst h1
   rw[if_neg o_,Array.getElem?_setIfInBounds]
   by_cases h2:j<cs.size
   ·simp[h2]
   ·simp[h2,Array.getElem?_eq_none (Nat.le_of_not_lt h2)]
  ·by_cases h2:o+1<=j/\j<o+1+r.length/\j<cs.size
   ·rw[if_pos h2,if_pos (by simp only[List.length_cons];omega)]
    have:j-o=(j-(o+1))+1:=by omega
    rw[this,List.getElem?_cons_succ]
   ·rw[if_neg h2,if_neg (by simp only[List.length_cons];omega),Array.getElem?_setIfInBounds,if_neg o_]
theorem zc0 {ZA FA:Array Value} (h:ZA.size=FA.size):zdZ ZA 0 FA.toList=FA:=by
 apply Array.ext_getElem?
 intro j;rw[zdO];by_cases hj:j<FA.size
 ·rw[if_pos ⟨Nat.zero_le _,by simpa using hj,o_⟩];simp
 ·rw[if_neg o_,Array.getElem?_eq_none o_,Array.getElem?_eq_none o_]
theorem zgE (d:Nat->Bool) (i:Nat):upd d i i=true:=if_pos rfl
theorem zbY (d:Nat->Bool) {i j:Nat} (h:j≠i):upd d i j=d j:=if_neg h
structure TwoJ (W:World) (Ta Tb:TypeId) (ZA FA ZB:Array Value) (ia ib is:Nat) (d:Nat->Bool) (va vb:Value) (ga gb:Nat) (wx:World):Prop where
 below:Below W.heap.size W wx
 a:d ia=true->va=.pointer (some ⟨ga,0,none⟩)/\Blk wx ga Ta (if d is=true then FA else ZA)/\W.heap.size<=ga
 b:d ib=true->vb=.pointer (some ⟨gb,0,none⟩)/\Blk wx gb Tb ZB/\W.heap.size<=gb
 ne:d ia=true->d ib=true->ga≠gb
 st:d is=true->d ia=true
section
variable {W wx:World} {Ta Tb:TypeId} {ZA FA ZB:Array Value} {ia ib is:Nat} {d:Nat->Bool} {va vb:Value} {ga gb:Nat}
theorem TwoJ.later (h:TwoJ W Ta Tb ZA FA ZB ia ib is d va vb ga gb wx) {wy:World} (hb:Below wx.heap.size wx wy):TwoJ W Ta Tb ZA FA ZB ia ib is d va vb ga gb wy:=
 ⟨h.below.trans (hb.mono h.below.size),fun q=>⟨(h.a q).1,(h.a q).2.1.below hb (h.a q).2.1.lt,(h.a q).2.2⟩,fun q=>⟨(h.b q).1,(h.b q).2.1.below hb (h.b q).2.1.lt,(h.b q).2.2⟩,h.ne,h.st⟩
theorem TwoJ.other (h:TwoJ W Ta Tb ZA FA ZB ia ib is d va vb ga gb wx) {i:Nat} (h1:ia≠i) (h2:ib≠i) (h3:is≠i):TwoJ W Ta Tb ZA FA ZB ia ib is (upd d i) va vb ga gb wx:=by
 obtain⟨q1,q2,q3,q4,q5⟩:=h;refine⟨q1,?_,?_,?_,?_⟩<;>simp only[zbY d h1,zbY d h2,zbY d h3]<;>assumption
theorem TwoJ.start (hb:Below W.heap.size W wx) (h1:d ia=false) (h2:d ib=false) (h3:d is=false):TwoJ W Ta Tb ZA FA ZB ia ib is d va vb ga gb wx:=
 ⟨hb,fun q=>(by rw[h1] at q;cases q),fun q=>(by rw[h2] at q;cases q),fun q=>(by rw[h1] at q;cases q),fun q=>(by rw[h3] at q;cases q)⟩
theorem TwoJ.allocA (h:TwoJ W Ta Tb ZA FA ZB ia ib is d va vb ga gb wx) (h0:d ia=false) (h1:ib≠ia) (h2:is≠ia):TwoJ W Ta Tb ZA FA ZB ia ib is (upd d ia) (.pointer (some ⟨wx.heap.size,0,none⟩)) vb wx.heap.size gb (wx.alloc (.cells ZA Ta)):=by
 have h2':=h.later ((Below.refl wx.heap.size wx).alloc nl_ (.cells ZA Ta));have hs:d is=false:=Bool.eq_false_iff.2 fun q=>by rw[h.st q] at h0;cases h0
 refine⟨h2'.below,?_,?_,?_,?_⟩<;>simp only[zgE,zbY d h1,zbY d h2]
 ·intro _;rw[hs];exact⟨trivial,Blk.new _ _ _,h.below.size⟩
 ·exact h2'.b
 ·intro _ q;have:=(h.b q).2.1.lt;omega
 ·intro _;trivial
theorem TwoJ.allocB (h:TwoJ W Ta Tb ZA FA ZB ia ib is d va vb ga gb wx) (h1:ia≠ib) (h2:is≠ib):TwoJ W Ta Tb ZA FA ZB ia ib is (upd d ib) va (.pointer (some ⟨wx.heap.size,0,none⟩)) ga wx.heap.size (wx.alloc (.cells ZB Tb)):=by
 have h2':=h.later ((Below.refl wx.heap.size wx).alloc nl_ (.cells ZB Tb));refine⟨h2'.below,?_,?_,?_,?_⟩<;>simp only[zgE,zbY d h1,zbY d h2]
 ·exact h2'.a
 ·intro _;exact⟨trivial,Blk.new _ _ _,h.below.size⟩
 ·intro q _;have:=(h.a q).2.1.lt;omega
 ·exact h.st
theorem TwoJ.storeA (h:TwoJ W Ta Tb ZA FA ZB ia ib is d va vb ga gb wx) (h1:d ia=true) (h1b:d ib=true) (h2:ia≠is) (h3:ib≠is) (hp:zdZ ZA 0 FA.toList=FA) (hp2:zdZ FA 0 FA.toList=FA):TwoJ W Ta Tb ZA FA ZB ia ib is (upd d is) va vb ga gb (wx.setCells ga 0 FA.toList):=by
 have ha:=h.a h1;refine⟨zdJ h.below ha.2.2 _ _,?_,?_,?_,?_⟩<;>simp only[zgE,zbY d h2,zbY d h3]
 ·intro _;refine⟨ha.1,?_,ha.2.2⟩;have:=ha.2.1.setCells FA.toList 0;have e:zdZ (if d is=true then FA else ZA) 0 FA.toList=FA:=by split<;>assumption
  rw[e] at this;exact this
 ·exact fun q=>⟨(h.b q).1,(h.b q).2.1.setCellsFar2 (Ne.symm (h.ne h1 h1b)) _ _,(h.b q).2.2⟩
 ·exact h.ne
 ·exact fun _=>h1
structure TwoC (W:World) (Ta Tb:TypeId) (FA FB:Array Value) (ga gb:Nat) (wx:World):Prop where
 a:Blk wx ga Ta FA
 b:Blk wx gb Tb FB
 below:Below W.heap.size W wx
theorem TwoJ.done1 {FB:Array Value} (h:TwoJ W Ta Tb ZA FA ZB ia ib is d va vb ga gb wx) (h1:d ia=true) (h2:d ib=true) (hs:d is=true) (hp2:zdZ ZB 0 FB.toList=FB) :
  TwoC W Ta Tb FA FB ga gb (wx.setCells gb 0 FB.toList):=by
 have ha:=h.a h1;have hb:=h.b h2;rw[if_pos hs] at ha;have q2:=hb.2.1.setCells FB.toList 0;rw[hp2] at q2;exact⟨ha.2.1.setCellsFar2 (h.ne h1 h2) _ _,q2,zdJ h.below hb.2.2 _ _⟩
end
end Go.Proofs.YtjnndjnpcelafaaGreat
