import Derived.Test.YtjnndjnpcelafaaGreatPt21
namespace Go.Proofs.YtjnndjnpcelafaaGreat
set_option maxHeartbeats 16000000
set_option maxRecDepth 100000
open Go.RowKit
set_option linter.unusedSimpArgs false
set_option linter.unusedVariables false
/-! ref11.Booked,ref11.Over -/
theorem zfs {l:List Int} {i n:Int} (h0:0<=i) (h1:i<l.length):zb5 l i n=l.set i.toNat (l.getD i.toNat 0+n):=by unfold zb5;rw[if_pos ⟨h0,h1⟩]
theorem zci {l:List Int} {i n:Int} (h:¬ (0<=i/\i<l.length)):zb5 l i n=l:=by unfold zb5;rw[if_neg h]
theorem Within.getD {l:List Int} {m:Int} (h:Within l m) {k:Nat} (hk:k<l.length):0<=l.getD k 0/\l.getD k 0<=m:=by
 rw[getD_some (List.getElem?_eq_getElem hk)];exact h _ (List.getElem_mem hk)
abbrev rowI (n:Nat) (l:List Int):ABlk:=.row (1000000+3) 1 n (fun k=>zaw (l.getD k 0))
def bkF:FT:=[(309,zat tt [] [] Tryz.f309 (za1 Tryz.f309))]
def bkD:List (Nat×DQ):=[(9000000,{ k:=0,L:=[309] }),
 (2000003,{ k:=0,L:=[0,1,2,3,4,5,6,7,8,9,10,11],sl:=[2,3,5] }),
 (5,{ k:=13,L:=[0,1,2,3,4,5,6,7,8,9,10,11],A:=[10,11],pre:=[(0,false),(1,false),(2,false),(3,false),(4,false),(5,false),(6,false),(7,false),(8,false),(9,false)],post:=[(12,true)] }),
 (1000009,{ k:=15,L:=[0,1,2,3,4,5,6,7,8,9,10,11,13,14],sl:=[2,3,5,6,7,8] }),
 (1000010,{ k:=15,L:=[0,1,2,3,4,5,6,7,8,9,10,11,13,14],sl:=[2,3,5,6,7,8] }),
 (1000011,{ k:=15,L:=[0,1,2,3,4,5,6,7,8,9,10,11,13,14],sl:=[2,3,5,6,7,8] }),
 (1000004,{ k:=15,L:=[0,1,2,3,4,5,6,7,8,9,10,11],sl:=[2,3,5,6] })]
theorem bkFok:zaY Tryz.prog bkF (zbj bkD):=za0 (zad zg6 (zb7.i _) mixed k_ Tryz.func309 rfl k_ d_) za3
theorem znA (x:CfgK) (c:Cfg) (y:StK) (s:St) (hV:CfgV c) (hlt:s.tenants.length=c.tenants.length) :
  sx tt bkF bkD (za1 Tryz.f268) (zb3 0 [zaX CN1 x c,stV SN1 y s]) (rdM c s noS) 10 (zb8 tt Tryz.f268.results.toList fun v mem' _=>SlR mem' 1 zaw 0 (zb9 c s) v):=by
 have hnt:=hV.nt;have hnc:=hV.nc;have e0:(fun _:Nat=>[zi])=fun k=>zaw ((zbk c s 0).getD k 0):=by
  funext k
  show [zi]=zaw ((List.replicate c.cells.length (0:Int)).getD k 0);rw[gd_,List.getElem?_replicate];split<;>rfl
 refine⟨⟨il_,o_,by show _ * (8:Int)<=_;omega⟩,?_⟩;refine⟨Int×List Int,fun q=>match q with | (i,l)=>[(6,.int .i64 i)],fun q=>match q with | (i,l)=>[(12,rowI c.cells.length l)],fun q=>match q with | (i,l)=>(0<=i/\i<=s.tenants.length)/\l=zbk c s i.toNat,fun q=>match q with | (i,l)=>((s.tenants.length:Int)-i).toNat,⟨(0,zbk c s 0),⟨o_,rfl⟩,kp_,⟨?_,kp_⟩⟩,?_⟩
 ·show some (ABlk.row _ 1 _ (fun _=>[zi]))=_;rw[e0];rfl
 ·rintro⟨i,l⟩ ⟨hi,hl⟩;refine⟨⟨rfl,rfl⟩,?_⟩;refine⟨fun hlt1=>?_,fun hge=>?_⟩
  ·have hlt2:i<(s.tenants.length:Int):=of_decide_eq_true hlt1;have hk0:i.toNat<s.tenants.length:=by omega
   have hk1:i.toNat<c.tenants.length:=by omega
   have hd:=zet hV (zbD (d:=default) hk1);have hw0:=zff hV s i.toNat;have hl0:=zbH c s i.toNat;have hsucc:=zf1 (zbD (d:=default) hk0) (zbD (d:=default) hk1);refine⟨List Int,fun _=>[],fun l=>[(12,rowI c.cells.length l)],fun l=>l=(zd5 (zbk c s i.toNat) (s.tenants.getD i.toNat default) (c.tenants.getD i.toNat default)),?_,?_⟩
   ·refine⟨⟨nl_,hi.1,hlt2⟩,?_⟩;refine⟨⟨nl_,hi.1,o_⟩,?_⟩;refine⟨kp_,?_⟩;refine⟨fun hp=>?_,fun hp=>?_⟩
    ·refine⟨_,?_,kp_,kp_⟩;rw[hl];unfold zd5;rw[if_pos (by simpa using hp)]
    ·have hpl:(s.tenants.getD i.toNat default).placed=true:=by simpa using hp
     refine⟨List Int,fun _=>[],fun l=>[(12,rowI c.cells.length l)],fun l=>l=(if (s.tenants.getD i.toNat default).shed then (zbk c s i.toNat) else (zb5 (zb5 (zbk c s i.toNat) (s.tenants.getD i.toNat default).home (c.tenants.getD i.toNat default).load) (s.tenants.getD i.toNat default).target (c.tenants.getD i.toNat default).load)),?_,?_⟩
     ·refine⟨fun hs=>?_,fun hs=>?_⟩
      ·have hs2:(s.tenants.getD i.toNat default).shed=false:=by simpa using hs
       refine⟨List Int,fun _=>[],fun l=>[(12,rowI c.cells.length l)],fun l=>l=(zb5 (zbk c s i.toNat) (s.tenants.getD i.toNat default).home (c.tenants.getD i.toNat default).load),?_,?_⟩
       ·have hle:=hl;have hw:=hw0;rw[← hle] at hw;have hlen:l.length=c.cells.length:=by rw[hle];exact hl0
        refine⟨fun a0=>?_,fun a0=>?_⟩
        ·refine⟨fun a1=>?_,fun a1=>?_⟩
         ·have a1b:(s.tenants.getD i.toNat default).home<(l.length:Int):=by have q:(s.tenants.getD i.toNat default).home<((c.cells.length:Int).toNat:Int):=of_decide_eq_true a1;omega
          have a0b:0<=(s.tenants.getD i.toNat default).home:=of_decide_eq_true a0;have hk:((s.tenants.getD i.toNat default).home).toNat<l.length:=by omega
          have hg:=hw.getD hk;refine⟨⟨o_,a0b,o_⟩,?_⟩;refine⟨⟨o_,a0b,o_⟩,?_⟩;refine⟨zaw (l.getD ((s.tenants.getD i.toNat default).home).toNat 0+(c.tenants.getD i.toNat default).load),by rw[zaf (n:=l.getD ((s.tenants.getD i.toNat default).home).toNat 0+(c.tenants.getD i.toNat default).load) o_];rfl,?_⟩;rw[za6 hk];refine⟨_,?_,kp_,kp_⟩;rw[← hle];exact (zfs a0b a1b).symm
         ·refine⟨_,?_,kp_,kp_⟩;rw[← hle];exact (zci (by rintro⟨-,q⟩;have q2:¬ (s.tenants.getD i.toNat default).home<((c.cells.length:Int).toNat:Int):=of_decide_eq_false a1;omega)).symm
        ·refine⟨(fun h=>nomatch h),fun _=>?_⟩;refine⟨_,?_,kp_,kp_⟩;rw[← hle];exact (zci (by rintro⟨q,-⟩;exact absurd q (of_decide_eq_false a0))).symm
       ·rintro l hle;refine⟨⟨d_,rfl,rfl⟩,?_⟩;have hw1:=hw0.add (n:=(c.tenants.getD i.toNat default).load) o_ (s.tenants.getD i.toNat default).home;have hw:=hw1;rw[← hle] at hw;have hlen:l.length=c.cells.length:=by rw[hle,zba];exact hl0
        refine⟨fun a0=>?_,fun a0=>?_⟩
        ·refine⟨fun a1=>?_,fun a1=>?_⟩
         ·have a1b:(s.tenants.getD i.toNat default).target<(l.length:Int):=by have q:(s.tenants.getD i.toNat default).target<((c.cells.length:Int).toNat:Int):=of_decide_eq_true a1;omega
          have a0b:0<=(s.tenants.getD i.toNat default).target:=of_decide_eq_true a0;have hk:((s.tenants.getD i.toNat default).target).toNat<l.length:=by omega
          have hg:=hw.getD hk;refine⟨⟨o_,a0b,o_⟩,?_⟩;refine⟨⟨o_,a0b,o_⟩,?_⟩;refine⟨zaw (l.getD ((s.tenants.getD i.toNat default).target).toNat 0+(c.tenants.getD i.toNat default).load),by rw[zaf (n:=l.getD ((s.tenants.getD i.toNat default).target).toNat 0+(c.tenants.getD i.toNat default).load) o_];rfl,?_⟩;rw[za6 hk];refine⟨_,?_,kp_,kp_⟩;rw[hs2,if_neg d_,← hle];exact (zfs a0b a1b).symm
         ·refine⟨_,?_,kp_,kp_⟩;rw[hs2,if_neg d_,← hle];exact (zci (by rintro⟨-,q⟩;have q2:¬ (s.tenants.getD i.toNat default).target<((c.cells.length:Int).toNat:Int):=of_decide_eq_false a1;omega)).symm
        ·refine⟨(fun h=>nomatch h),fun _=>?_⟩;refine⟨_,?_,kp_,kp_⟩;rw[hs2,if_neg d_,← hle];exact (zci (by rintro⟨q,-⟩;exact absurd q (of_decide_eq_false a0))).symm
      ·have hs2:(s.tenants.getD i.toNat default).shed=true:=by simpa using hs
       refine⟨_,?_,kp_,kp_⟩;rw[hs2,if_pos rfl];exact hl
     ·rintro l hle;refine⟨⟨d_,rfl,rfl⟩,?_⟩;refine⟨List Int,fun _=>[],fun l=>[(12,rowI c.cells.length l)],fun l=>l=(zb5 (if (s.tenants.getD i.toNat default).shed then (zbk c s i.toNat) else (zb5 (zb5 (zbk c s i.toNat) (s.tenants.getD i.toNat default).home (c.tenants.getD i.toNat default).load) (s.tenants.getD i.toNat default).target (c.tenants.getD i.toNat default).load)) (s.tenants.getD i.toNat default).standby (c.tenants.getD i.toNat default).shadow),?_,?_⟩
      ·have hw2:Within (if (s.tenants.getD i.toNat default).shed then (zbk c s i.toNat) else (zb5 (zb5 (zbk c s i.toNat) (s.tenants.getD i.toNat default).home (c.tenants.getD i.toNat default).load) (s.tenants.getD i.toNat default).target (c.tenants.getD i.toNat default).load)) ((i.toNat:Int) * 262144+(c.tenants.getD i.toNat default).load+(c.tenants.getD i.toNat default).load):=by
        split
        ·exact hw0.mono o_
        ·exact (hw0.add (n:=(c.tenants.getD i.toNat default).load) o_ (s.tenants.getD i.toNat default).home).add (n:=(c.tenants.getD i.toNat default).load) o_ (s.tenants.getD i.toNat default).target
       have hw:=hw2;rw[← hle] at hw;have hlen:l.length=c.cells.length:=by
        rw[hle];split<;>simp only[zba,hl0]
       refine⟨fun a0=>?_,fun a0=>?_⟩
       ·refine⟨fun a1=>?_,fun a1=>?_⟩
        ·have a1b:(s.tenants.getD i.toNat default).standby<(l.length:Int):=by have q:(s.tenants.getD i.toNat default).standby<((c.cells.length:Int).toNat:Int):=of_decide_eq_true a1;omega
         have a0b:0<=(s.tenants.getD i.toNat default).standby:=of_decide_eq_true a0;have hk:((s.tenants.getD i.toNat default).standby).toNat<l.length:=by omega
         have hg:=hw.getD hk;refine⟨⟨o_,a0b,o_⟩,?_⟩;refine⟨⟨o_,a0b,o_⟩,?_⟩;refine⟨zaw (l.getD ((s.tenants.getD i.toNat default).standby).toNat 0+(c.tenants.getD i.toNat default).shadow),by rw[zaf (n:=l.getD ((s.tenants.getD i.toNat default).standby).toNat 0+(c.tenants.getD i.toNat default).shadow) o_];rfl,?_⟩;rw[za6 hk];refine⟨_,?_,kp_,kp_⟩;rw[← hle];exact (zfs a0b a1b).symm
        ·refine⟨_,?_,kp_,kp_⟩;rw[← hle];exact (zci (by rintro⟨-,q⟩;have q2:¬ (s.tenants.getD i.toNat default).standby<((c.cells.length:Int).toNat:Int):=of_decide_eq_false a1;omega)).symm
       ·refine⟨(fun h=>nomatch h),fun _=>?_⟩;refine⟨_,?_,kp_,kp_⟩;rw[← hle];exact (zci (by rintro⟨q,-⟩;exact absurd q (of_decide_eq_false a0))).symm
      ·rintro l hle;refine⟨⟨d_,rfl,rfl⟩,?_⟩;have hw2:Within (if (s.tenants.getD i.toNat default).shed then (zbk c s i.toNat) else (zb5 (zb5 (zbk c s i.toNat) (s.tenants.getD i.toNat default).home (c.tenants.getD i.toNat default).load) (s.tenants.getD i.toNat default).target (c.tenants.getD i.toNat default).load)) ((i.toNat:Int) * 262144+(c.tenants.getD i.toNat default).load+(c.tenants.getD i.toNat default).load):=by
        split
        ·exact hw0.mono o_
        ·exact (hw0.add (n:=(c.tenants.getD i.toNat default).load) o_ (s.tenants.getD i.toNat default).home).add (n:=(c.tenants.getD i.toNat default).load) o_ (s.tenants.getD i.toNat default).target
       have hw3:=hw2.add (n:=(c.tenants.getD i.toNat default).shadow) o_ (s.tenants.getD i.toNat default).standby;have hw:=hw3;rw[← hle] at hw;have hlen:l.length=c.cells.length:=by
        rw[hle,zba];split<;>simp only[zba,hl0]
       have hbt:(zd5 (zbk c s i.toNat) (s.tenants.getD i.toNat default) (c.tenants.getD i.toNat default))=zb5 (zb5 (if (s.tenants.getD i.toNat default).shed then (zbk c s i.toNat) else (zb5 (zb5 (zbk c s i.toNat) (s.tenants.getD i.toNat default).home (c.tenants.getD i.toNat default).load) (s.tenants.getD i.toNat default).target (c.tenants.getD i.toNat default).load)) (s.tenants.getD i.toNat default).standby (c.tenants.getD i.toNat default).shadow) (s.tenants.getD i.toNat default).next (c.tenants.getD i.toNat default).shadow:=by unfold zd5;rw[if_neg (by rw[hpl];decide)]
       rw[← hle] at hbt;refine⟨fun a0=>?_,fun a0=>?_⟩
       ·refine⟨fun a1=>?_,fun a1=>?_⟩
        ·have a1b:(s.tenants.getD i.toNat default).next<(l.length:Int):=by have q:(s.tenants.getD i.toNat default).next<((c.cells.length:Int).toNat:Int):=of_decide_eq_true a1;omega
         have a0b:0<=(s.tenants.getD i.toNat default).next:=of_decide_eq_true a0;have hk:((s.tenants.getD i.toNat default).next).toNat<l.length:=by omega
         have hg:=hw.getD hk;refine⟨⟨o_,a0b,o_⟩,?_⟩;refine⟨⟨o_,a0b,o_⟩,?_⟩;refine⟨zaw (l.getD ((s.tenants.getD i.toNat default).next).toNat 0+(c.tenants.getD i.toNat default).shadow),by rw[zaf (n:=l.getD ((s.tenants.getD i.toNat default).next).toNat 0+(c.tenants.getD i.toNat default).shadow) o_];rfl,?_⟩;rw[za6 hk];refine⟨_,?_,kp_,kp_⟩;rw[hbt];exact (zfs a0b a1b).symm
        ·refine⟨_,?_,kp_,kp_⟩;rw[hbt];exact (zci (by rintro⟨-,q⟩;have q2:¬ (s.tenants.getD i.toNat default).next<((c.cells.length:Int).toNat:Int):=of_decide_eq_false a1;omega)).symm
       ·refine⟨(fun h=>nomatch h),fun _=>?_⟩;refine⟨_,?_,kp_,kp_⟩;rw[hbt];exact (zci (by rintro⟨q,-⟩;exact absurd q (of_decide_eq_false a0))).symm
   ·rintro l hle;refine⟨⟨d_,rfl,rfl⟩,?_⟩;refine⟨(_,_),?_,kp_,kp_⟩;dsimp only;rw[zaf (n:=i+1) o_];refine⟨⟨o_,?_⟩,o_⟩;rw[show (i+1).toNat=i.toNat+1 by omega,hsucc];exact hle
  ·have hge2:¬ i<(s.tenants.length:Int):=of_decide_eq_false hge;have hb:zbk c s i.toNat=zb9 c s:=zd6 c s o_;rw[hb] at hl;have hlen:(zb9 c s).length=c.cells.length:=by rw[← hb];exact zbH c s _
   subst hl;exact .inr ⟨12,_,_,c.cells.length,_,by rw[hlen];rfl,rfl,rfl,o_,fun k hk=>rfl⟩
theorem zfL (x:CfgA) (c:Cfg) (y:StA) (s:St) (w:World) (hV:CfgV c) (hlt:s.tenants.length=c.tenants.length) (hc:CfgOk w (·<w.heap.size) x c) (hs:StOk w (·<w.heap.size) y s) :
  Calls Tryz.prog 268 #[.agg (zaH x c),.agg (stC y s)] w fun e w'=>∃ A cp,e=.returned (.slice A (zb9 c s).length cp)/\Rd w' (fun b=>w.heap.size<=b/\b<w'.heap.size) A (zaJ zaw (zb9 c s))/\Below w.heap.size w w':=by
 have:=zcA zg6 bkFok Tryz.func268 rfl (D:=bkD) k_ (vs:=[zaX CN1 (ck x) c,stV SN1 (sk y) s]) rfl x c y s noA noS w hc hs (zbt w _) (fun v hv=>by
  simp only[List.mem_cons,List.not_mem_nil,or_false] at hv
  rcases hv with rfl | rfl
  ·exact zbw x c y s noA noS
  ·exact zb1 x c y s noA noS) (znA (ck x) c (sk y) s hV hlt)
 rw[List.map_cons,List.map_cons,zcU,zcf] at this;refine this.mono ?_;rintro e w' ⟨v,mem',nx',ρ',rfl,hR,hv,hm',hb⟩;obtain⟨A,cp,e1,hr⟩:=hm'.slR (enc:=zaw) (sz:=1) (fun _=>rfl) o_ hR;refine⟨A,cp,?_,hr,hb⟩;congr 1
 rcases hR with⟨rfl,-⟩ | ⟨r,cap,t,n,el,rfl,-⟩
 ·exact e1
 ·exact e1
def ctBookedR:CT:=fun vs mem nx K=>∃ N x c M y s,vs=[zaX N x c,stV M y s]/\(keeps mem (zcH N c)/\HasRow mem M.t 12 tsC default s.tenants/\HasRow mem M.c 4 csC default s.cells)/\(CfgV c/\s.tenants.length=c.tenants.length)/\∀ cap,K (slc nx (zb9 c s).length cap) ((nx,zaz 500000 1 zaw 0 (zb9 c s))::mem) (nx+1)
theorem znB:CSound Tryz.prog 268 ctBookedR:=⟨k_,fun {C ρ fr mem nx a w vs K} hc hs hv=>by
 obtain⟨N,x,c,M,y,s,rfl,⟨hk,h1,h2⟩,⟨hV,hlt⟩,hK⟩:=hc;rw[List.map_cons,List.map_cons,zaP,zc3];refine (zfL (zdp ρ N x) c (stX ρ M y) s w hV hlt (hs.cfg hk (fun b h _=>h)) (hs.stRow h1 h2)).mono ?_;rintro e w' ⟨A,cp,rfl,hr,hb⟩;obtain⟨q1,-⟩:=(hs.later hb).addList hs.frB hs.rest.size (enc:=zaw) (sz:=1) (fun _=>rfl) o_ zaS 0 (t:=500000) rfl hr;refine⟨slc nx (zb9 c s).length cp,_,_,_,?_,hK cp,q1,⟨Nat.lt_succ_self nx,by rw[za2]⟩,⟨fun i hi=>za8 ρ _ hi,Nat.le_succ _⟩⟩;show Ending.returned _=Ending.returned _
 simp[den,zaW,zal,zau,zaq,za2]⟩
def ovB (c:Cfg) (s:St) (i:Nat):Bool:=decide ((c.cells.getD i (0,0)).2<(zb9 c s).getD i 0)
def zeh (c:Cfg) (s:St) (k:Nat):Nat:=((List.range k).filter (ovB c s)).length
theorem zcZ (c:Cfg) (s:St) (k:Nat):zeh c s (k+1)=zeh c s k+(if ovB c s k=true then 1 else 0):=by
 unfold zeh;rw[List.range_succ,List.filter_append,List.length_append];congr 1
 by_cases h:ovB c s k=true
 ·rw[if_pos h];simp[List.filter,h]
 ·rw[if_neg h];simp[List.filter,h]
theorem zjK (c:Cfg) (s:St) (k:Nat):zeh c s k<=k:=by
 unfold zeh;have:=List.length_filter_le (ovB c s) (List.range k);simpa using this
theorem zhC (c:Cfg) (s:St):decide (0<zeh c s c.cells.length)=zcr c s:=by
 unfold zeh zcr;cases h:(List.range c.cells.length).any fun i=>decide ((c.cells.getD i (0,0)).2<(zb9 c s).getD i 0) with
 | true=>
  obtain⟨i,hi,hp⟩:=List.any_eq_true.1 h;have:i ∈ (List.range c.cells.length).filter (ovB c s):=List.mem_filter.2 ⟨hi,hp⟩;exact decide_eq_true (List.length_pos_of_mem this)
 | false=>
  refine decide_eq_false fun hp=>?_
  obtain⟨i,hi⟩:=List.exists_mem_of_length_pos hp;obtain⟨h1,h2⟩:=List.mem_filter.1 hi;have:(List.range c.cells.length).any (fun i=>decide ((c.cells.getD i (0,0)).2<(zb9 c s).getD i 0))=true:=List.any_eq_true.2 ⟨i,h1,h2⟩;rw[h] at this;cases this
theorem zjg (c:Cfg) (s:St):(zb9 c s).length=c.cells.length:=by rw[← zd6 c s nl_];exact zbH c s _
def ovF:FT:=[(268,ctBookedR)]
theorem ovFok:FTok Tryz.prog ovF:=zan znB zb7
def ovD:List (Nat×DQ):=[(3000004,{ k:=14,L:=[0,1,2,3,4,5,6,7,8,9,10,11,12],sl:=[2,3,6] }),
 (6,{ k:=10,L:=[0,1,2,3,4,5,6,7,8,9,10,11,12],pre:=[(0,false),(1,false),(2,false),(3,false),(4,false),(5,false),(6,false),(7,false),(8,false),(9,false)] })]
theorem over_sx (x:CfgK) (c:Cfg) (y:StK) (s:St) (hV:CfgV c) (hlt:s.tenants.length=c.tenants.length) :
  sx tt ovF ovD (za1 Tryz.f212) (zb3 0 [zaX CN1 x c,stV SN1 y s]) (rdM c s noS) 10 (zb8 tt Tryz.f212.results.toList fun v _ _=>∃ A n cap,v=.slice A n cap/\n=zeh c s c.cells.length):=by
 have hnc:=hV.nc;have hbl:=zjg c s;refine⟨CN1,x,c,SN1,y,s,rfl,⟨kp_,⟨_,_,_,rfl,nl_,fun k hk=>rfl⟩,⟨_,_,_,rfl,nl_,fun k hk=>rfl⟩⟩,⟨hV,hlt⟩,?_⟩;intro cap0;refine⟨Int×Nat×Option (Nat×(Nat->List Value)),fun q=>match q with | (i,n,none)=>[(7,.int .i64 i),(5,zs0)] | (i,n,some (cap,el))=>[(7,.int .i64 i),(5,slc 13 n cap)],fun q=>match q with | (i,n,none)=>[] | (i,n,some (cap,el))=>[(13,.row (1000000+3) 1 cap el)],fun q=>match q with | (i,n,o)=>((0<=i/\i<=c.cells.length)/\n=zeh c s i.toNat)/\match o with | none=>n=0 | some (cap,el)=>n<=cap,fun q=>match q with | (i,n,o)=>((c.cells.length:Int)-i).toNat,⟨(0,0,none),[],⟨⟨o_,rfl⟩,rfl⟩,⟨rfl,rfl⟩,kp_,kp_⟩,?_⟩;rintro⟨i,n,(_ | ⟨cap,el⟩)⟩ ⟨⟨hi,hn⟩,ho⟩
 ·refine⟨⟨d_,rfl,rfl⟩,?_⟩;refine⟨fun hlt1=>?_,fun hge=>?_⟩
  ·have hlt2:i<(c.cells.length:Int):=by have q:i<((zb9 c s).length:Int):=of_decide_eq_true hlt1;omega
   have hle:=zjK c s i.toNat;refine⟨⟨nl_,hi.1,o_⟩,?_⟩;refine⟨⟨nl_,hi.1,hlt2⟩,?_⟩;refine⟨fun hb=>?_,fun hb=>?_⟩
   ·have hov:ovB c s i.toNat=true:=hb;refine⟨⟨nl_,fun k hk=>by match k,hk with | 0,_=>rfl⟩,?_⟩;refine⟨fun h=>absurd h d_,fun _=>⟨d_,fun cap2 el2 ⟨hc2,_⟩ hel2=>?_⟩⟩;refine⟨(_,_,some (cap2,el2)),[(13,15)],?_,⟨rfl,rfl⟩,kp_,kp_⟩;dsimp only;rw[zaf (n:=i+1) o_];refine⟨⟨⟨o_,?_⟩,o_⟩,o_⟩;rw[show (i+1).toNat=i.toNat+1 by omega,zcZ,if_pos hov];omega
   ·have hov:¬ (ovB c s i.toNat=true):=fun q=>absurd (q.symm.trans hb) d_
    refine⟨(_,n,none),[],?_,⟨rfl,rfl⟩,kp_,kp_⟩;dsimp only;rw[zaf (n:=i+1) o_];refine⟨⟨⟨o_,?_⟩,o_⟩,o_⟩;rw[show (i+1).toNat=i.toNat+1 by omega,zcZ,if_neg hov];omega
  ·have hge2:¬ i<(c.cells.length:Int):=by have q:¬ i<((zb9 c s).length:Int):=of_decide_eq_false hge;omega
   have hie:i.toNat=c.cells.length:=by omega
   rw[hie] at hn;exact⟨_,_,_,rfl,by rw[← hn];exact ho.symm⟩
 ·refine⟨⟨d_,rfl,rfl⟩,?_⟩;refine⟨fun hlt1=>?_,fun hge=>?_⟩
  ·have hlt2:i<(c.cells.length:Int):=by have q:i<((zb9 c s).length:Int):=of_decide_eq_true hlt1;omega
   have hle:=zjK c s i.toNat;refine⟨⟨nl_,hi.1,o_⟩,?_⟩;refine⟨⟨nl_,hi.1,hlt2⟩,?_⟩;refine⟨fun hb=>?_,fun hb=>?_⟩
   ·have hov:ovB c s i.toNat=true:=hb;refine⟨⟨nl_,fun k hk=>by match k,hk with | 0,_=>rfl⟩,?_⟩;refine⟨⟨rfl,ho⟩,fun hin el2 ⟨h1,_⟩ h2=>?_,fun hgt=>⟨by show (n+1) * 8<=140737488355328;omega,fun cap2 el2 ⟨hc2,_⟩ h1 h2=>?_⟩⟩
    ·refine⟨(_,_,some (cap,el2)),[],?_,⟨rfl,rfl⟩,kp_,kp_⟩;dsimp only;rw[zaf (n:=i+1) o_];refine⟨⟨⟨o_,?_⟩,o_⟩,o_⟩;rw[show (i+1).toNat=i.toNat+1 by omega,zcZ,if_pos hov];omega
    ·refine⟨(_,_,some (cap2,el2)),[(13,15)],?_,⟨rfl,rfl⟩,kp_,kp_⟩;dsimp only;rw[zaf (n:=i+1) o_];refine⟨⟨⟨o_,?_⟩,o_⟩,o_⟩;rw[show (i+1).toNat=i.toNat+1 by omega,zcZ,if_pos hov];omega
   ·have hov:¬ (ovB c s i.toNat=true):=fun q=>absurd (q.symm.trans hb) d_
    refine⟨(_,n,some (cap,el)),[],?_,⟨rfl,rfl⟩,kp_,kp_⟩;dsimp only;rw[zaf (n:=i+1) o_];refine⟨⟨⟨o_,?_⟩,o_⟩,o_⟩;rw[show (i+1).toNat=i.toNat+1 by omega,zcZ,if_neg hov];omega
  ·have hge2:¬ i<(c.cells.length:Int):=by have q:¬ i<((zb9 c s).length:Int):=of_decide_eq_false hge;omega
   have hie:i.toNat=c.cells.length:=by omega
   rw[hie] at hn;exact⟨_,_,_,rfl,hn⟩
theorem zgQ (x:CfgA) (c:Cfg) (y:StA) (s:St) (w:World) (hV:CfgV c) (hlt:s.tenants.length=c.tenants.length) (hc:CfgOk w (·<w.heap.size) x c) (hs:StOk w (·<w.heap.size) y s) :
  Calls Tryz.prog 212 #[.agg (zaH x c),.agg (stC y s)] w fun e w'=>∃ A cp,e=.returned (.slice A (zeh c s c.cells.length) cp)/\Below w.heap.size w w':=by
 have:=zcA zg6 (ovFok.i _) Tryz.func212 rfl (D:=ovD) k_ (vs:=[zaX CN1 (ck x) c,stV SN1 (sk y) s]) rfl x c y s noA noS w hc hs (zbt w _) (fun v hv=>by
  simp only[List.mem_cons,List.not_mem_nil,or_false] at hv
  rcases hv with rfl | rfl
  ·exact zbw x c y s noA noS
  ·exact zb1 x c y s noA noS) (over_sx (ck x) c (sk y) s hV hlt)
 rw[List.map_cons,List.map_cons,zcU,zcf] at this;refine this.mono ?_;rintro e w' ⟨v,mem',nx',ρ',rfl,⟨A,n,cap,rfl,rfl⟩,hv,hm',hb⟩;cases A with
 | none=>exact⟨none,cap,rfl,hb⟩
 | some a=>exact⟨_,cap,rfl,hb⟩
def ctOverR:CT:=fun vs mem nx K=>∃ N x c M y s,vs=[zaX N x c,stV M y s]/\(keeps mem (zcH N c)/\HasRow mem M.t 12 tsC default s.tenants/\HasRow mem M.c 4 csC default s.cells)/\(CfgV c/\s.tenants.length=c.tenants.length)/\∀ cap,K (slc nx (zeh c s c.cells.length) cap) mem (nx+1)
theorem overROk:CSound Tryz.prog 212 ctOverR:=⟨k_,fun {C ρ fr mem nx a w vs K} hc hs hv=>by
 obtain⟨N,x,c,M,y,s,rfl,⟨hk,h1,h2⟩,⟨hV,hlt⟩,hK⟩:=hc;rw[List.map_cons,List.map_cons,zaP,zc3];refine (zgQ (zdp ρ N x) c (stX ρ M y) s w hV hlt (hs.cfg hk (fun b h _=>h)) (hs.stRow h1 h2)).mono ?_;rintro e w' ⟨A,cp,rfl,hb⟩;refine⟨slc nx (zeh c s c.cells.length) cp,_,_,zac ρ nx ⟨A,0,0,false,za4⟩,?_,hK cp,(hs.later hb).ren (fun j hj _=>za8 ρ _ hj) (Nat.le_succ _) (fun j hj=>za8 ρ _ (Nat.lt_of_lt_of_le hj hs.n0)),⟨Nat.lt_succ_self nx,by rw[za2]⟩,⟨fun i hi=>za8 ρ _ hi,Nat.le_succ _⟩⟩;show Ending.returned _=Ending.returned _
 simp[den,zaW,zal,zau,zaq,za2]⟩
/-! ref12.Apply: what its parts ask,and what it hands back. -/
abbrev stVg (M:SN) (y:StK) (nT nC:Nat) (s:St):Value:=.agg #[.int .i64 s.tick,.int .i64 s.count,slc M.t nT y.ct,slc M.c nC y.cc,.int .i64 s.proven,.int .i64 s.evac,.int .i64 s.low,.int .i64 s.high]
structure HasSt (mem:AM) (M:SN) (nT nC:Nat) (s:St):Prop where
 nT:nT=s.tenants.length
 nC:nC=s.cells.length
 t:HasRow mem M.t 12 tsC default s.tenants
 c:HasRow mem M.c 4 csC default s.cells
def ctOverG:CT:=fun vs mem nx K=>∃ N x c M y nT nC s,vs=[zaX N x c,stVg M y nT nC s]/\(keeps mem (zcH N c)/\HasSt mem M nT nC s)/\(CfgV c/\s.tenants.length=c.tenants.length)/\∀ cap,K (slc nx (zeh c s c.cells.length) cap) mem (nx+1)
theorem overGOk:CSound Tryz.prog 212 ctOverG:=overROk.mono (by
 rintro vs mem nx K ⟨N,x,c,M,y,nT,nC,s,rfl,⟨h1,h2⟩,hV,hK⟩;obtain⟨rfl,rfl,h3,h4⟩:=h2
 exact⟨N,x,c,M,y,s,rfl,⟨h1,h3,h4⟩,hV,hK⟩)
theorem CSound.reads {f : FuncId} (ent : ((Tryz.prog).funcs[f]?).map (fun fn => (fn.name == "runtime.NumGoroutine", fn.body.isNone)) = some (false, false)) {pre : Cfg -> St -> Int -> Prop} {res : Cfg -> St -> Int -> Value} (hp : ∀ c s k, zbJ (res c s k))
  (h:∀ x c y s k w,pre c s k->CfgOk w (·<w.heap.size) x c->StOk w (·<w.heap.size) y s->Calls Tryz.prog f #[.agg (zaH x c),.agg (stC y s),.int .i64 k] w fun r w'=>r=.returned (res c s k)/\Below w.heap.size w w') :
  CSound Tryz.prog f (fun vs mem nx K=>∃ N x c M y nT nC s k,vs=[zaX N x c,stVg M y nT nC s,.int .i64 k]/\(keeps mem (zcH N c)/\HasSt mem M nT nC s)/\pre c s k/\K (res c s k) mem nx):=⟨ent,fun {C ρ fr mem nx a w vs K} hc hs hv=>by
 obtain⟨N,x,c,M,y,nT,nC,s,k,rfl,⟨h1,h2⟩,hpre,hK⟩:=hc
 obtain⟨rfl,rfl,h3,h4⟩:=h2
 rw[List.map_cons,List.map_cons,zaP,zc3]
 refine (h (zdp ρ N x) c (stX ρ M y) s k w hpre (hs.cfg h1 (fun b h _=>h)) (hs.stRow h3 h4)).mono ?_
 rintro e w' ⟨rfl,hb⟩
 have hpp:=zag (hp c s k) ρ nx
 exact⟨_,mem,nx,ρ,by rw[hpp.1],hK,hs.later hb,hpp.2,ExtS.refl _ _⟩⟩
theorem CSound.readsS {f : FuncId} (ent : ((Tryz.prog).funcs[f]?).map (fun fn => (fn.name == "runtime.NumGoroutine", fn.body.isNone)) = some (false, false)) {pre : St -> Int -> Prop} {res : St -> Int -> Value} (hp : ∀ s k, zbJ (res s k))
  (h:∀ y s k w,pre s k->StOk w (·<w.heap.size) y s->Calls Tryz.prog f #[.agg (stC y s),.int .i64 k] w fun r w'=>r=.returned (res s k)/\Below w.heap.size w w') :
  CSound Tryz.prog f (fun vs mem nx K=>∃ M y nT nC s k,vs=[stVg M y nT nC s,.int .i64 k]/\HasSt mem M nT nC s/\pre s k/\K (res s k) mem nx):=⟨ent,fun {C ρ fr mem nx a w vs K} hc hs hv=>by
 obtain⟨M,y,nT,nC,s,k,rfl,h2,hpre,hK⟩:=hc
 obtain⟨rfl,rfl,h3,h4⟩:=h2
 rw[List.map_cons,zc3]
 refine (h (stX ρ M y) s k w hpre (hs.stRow h3 h4)).mono ?_
 rintro e w' ⟨rfl,hb⟩
 have hpp:=zag (hp s k) ρ nx
 exact⟨_,mem,nx,ρ,by rw[hpp.1],hK,hs.later hb,hpp.2,ExtS.refl _ _⟩⟩
/-! frozen,proven,open -/
def fzF:FT:=[(208,ctRegOf),(86,ctHas)]
theorem fzFok:FTok Tryz.prog fzF:=zan regOfOk (zan hasOk zb7)
def fzD:List (Nat×DQ):=[(1,{ k:=5,L:=[0,1,2,3,4,5,6,7,10,11],pre:=[(0,false),(1,false),(2,false),(3,false),(4,true)] })]
theorem zmU (x:CfgK) (c:Cfg) (y:StK) (s:St) (k:Int) (hV:CfgV c) (he:0<=s.evac/\s.evac<4294967296) :
  sx tt fzF fzD (za1 Tryz.f145) (zb3 0 [zaX CN1 x c,stV SN1 y s,.int .i64 k]) (rdM c s noS) 10 (zb8 tt Tryz.f145.results.toList fun v _ _=>v=.bool (zb2 c s k)/\zbJ v):=by
 refine⟨CN1,x,c,k,rfl,by repeat (first | exact trivial | refine⟨rfl,?_⟩),hV,?_⟩;refine⟨by repeat (first | exact trivial | refine⟨rfl,?_⟩),?_⟩;exact⟨_,_,rfl,he,rfl,trivial⟩
def ctFrozenR:CT:=fun vs mem nx K=>∃ N x c M y nT nC s k,vs=[zaX N x c,stVg M y nT nC s,.int .i64 k]/\(keeps mem (zcH N c)/\HasSt mem M nT nC s)/\(CfgV c/\0<=s.evac/\s.evac<4294967296)/\K (.bool (zb2 c s k)) mem nx
theorem zfV:CSound Tryz.prog 145 ctFrozenR:=CSound.reads k_ (pre:=fun c s k=>CfgV c/\0<=s.evac/\s.evac<4294967296) (res:=fun c s k=>.bool (zb2 c s k)) (fun _ _ _=>trivial) (by
 rintro x c y s k w ⟨hV,he⟩ hc hs
 have:=zbI fzFok Tryz.func145 rfl (D:=fzD) k_ (vs:=[zaX CN1 (ck x) c,stV SN1 (sk y) s,.int .i64 k]) rfl x c y s noA noS w hc hs (zbt w _) (fun v hv=>by
  simp only[List.mem_cons,List.not_mem_nil,or_false] at hv
  rcases hv with rfl | rfl | rfl
  ·exact zbw x c y s noA noS
  ·exact zb1 x c y s noA noS
  ·trivial) (R:=fun v=>v=.bool (zb2 c s k)) (zmU (ck x) c (sk y) s k hV he)
 rw[List.map_cons,List.map_cons,zcU,zcf] at this;refine this.mono ?_;rintro e w' ⟨v,rfl,-,rfl,hb⟩
 exact⟨rfl,hb⟩)
def pvF:FT:=[(86,ctHas)]
theorem pvFok:FTok Tryz.prog pvF:=zan hasOk zb7
theorem zmn (y:StK) (s:St) (k:Int) (he:0<=s.proven/\s.proven<4294967296) :
  sx tt pvF [] (za1 Tryz.f151) (zb3 0 [stV SN1 y s,.int .i64 k]) (rdM noC s noS) 10 (zb8 tt Tryz.f151.results.toList fun v _ _=>v=.bool (zc2 s.proven k)/\zbJ v):=by
 exact⟨_,_,rfl,he,rfl,trivial⟩
def ctProvenR:CT:=fun vs mem nx K=>∃ M y nT nC s k,vs=[stVg M y nT nC s,.int .i64 k]/\HasSt mem M nT nC s/\(0<=s.proven/\s.proven<4294967296)/\K (.bool (zc2 s.proven k)) mem nx
theorem zez:CSound Tryz.prog 151 ctProvenR:=CSound.readsS k_ (pre:=fun s k=>0<=s.proven/\s.proven<4294967296) (res:=fun s k=>.bool (zc2 s.proven k)) (fun _ _=>trivial) (by
 rintro y s k w he hs
 have:=zbI pvFok Tryz.func151 rfl (D:=[]) k_ (vs:=[stV SN1 (sk y) s,.int .i64 k]) rfl noX noC y s noA noS w (zdB _ _) hs (zbt w _) (fun v hv=>by
  simp only[List.mem_cons,List.not_mem_nil,or_false] at hv
  rcases hv with rfl | rfl
  ·exact zb1 noX noC y s noA noS
  ·trivial) (R:=fun v=>v=.bool (zc2 s.proven k)) (zmn (sk y) s k he)
 rw[List.map_cons,zcf] at this;refine this.mono ?_;rintro e w' ⟨v,rfl,-,rfl,hb⟩
 exact⟨rfl,hb⟩)
def opF:FT:=[(151,ctProvenR)]
theorem opFok:FTok Tryz.prog opF:=zan zez zb7
def opD:List (Nat×DQ):=[(1,{ k:=17,L:=[6,7,10],pre:=[(0,false),(1,false),(2,false),(3,false),(4,false),(5,false),(6,false),(7,true),(8,false),(9,false),(10,false),(11,false),(12,false),(13,false),(14,false),(15,false),(16,false)] })]
theorem open_sx (y:StK) (s:St) (k:Int) (he:0<=s.proven/\s.proven<4294967296) (hk:0<=k/\k<s.cells.length) :
  sx tt opF opD (za1 Tryz.f150) (zb3 0 [stV SN1 y s,.int .i64 k]) (rdM noC s noS) 10 (zb8 tt Tryz.f150.results.toList fun v _ _=>v=.bool (zc7 s.proven (zaQ s k))/\zbJ v):=by
 refine⟨⟨nl_,hk.1,hk.2⟩,?_⟩;refine⟨SN1,y,_,_,s,_,rfl,⟨rfl,rfl,.list rfl,.list rfl⟩,he,?_⟩;refine⟨by repeat (first | exact trivial | refine⟨rfl,?_⟩),?_⟩;unfold zc7 zaQ;refine⟨fun h=>?_,fun h=>?_⟩
 ·refine⟨?_,trivial⟩;have h2:(!zc2 s.proven (s.cells.getD k.toNat default).running)=true:=h;rw[h2];rfl
 ·refine⟨⟨nl_,hk.1,hk.2⟩,?_⟩;refine⟨SN1,y,_,_,s,_,rfl,⟨rfl,rfl,.list rfl,.list rfl⟩,he,?_⟩;refine⟨?_,trivial⟩;have h2:(!zc2 s.proven (s.cells.getD k.toNat default).running)=false:=h;rw[h2];rfl
def ctOpenR:CT:=fun vs mem nx K=>∃ M y nT nC s k,vs=[stVg M y nT nC s,.int .i64 k]/\HasSt mem M nT nC s/\((0<=s.proven/\s.proven<4294967296)/\0<=k/\k<s.cells.length)/\K (.bool (zc7 s.proven (zaQ s k))) mem nx
theorem openROk:CSound Tryz.prog 150 ctOpenR:=CSound.readsS k_ (pre:=fun s k=>(0<=s.proven/\s.proven<4294967296)/\0<=k/\k<s.cells.length) (res:=fun s k=>.bool (zc7 s.proven (zaQ s k))) (fun _ _=>trivial) (by
 rintro y s k w ⟨he,hk⟩ hs
 have:=zbI opFok Tryz.func150 rfl (D:=opD) k_ (vs:=[stV SN1 (sk y) s,.int .i64 k]) rfl noX noC y s noA noS w (zdB _ _) hs (zbt w _) (fun v hv=>by
  simp only[List.mem_cons,List.not_mem_nil,or_false] at hv
  rcases hv with rfl | rfl
  ·exact zb1 noX noC y s noA noS
  ·trivial) (R:=fun v=>v=.bool (zc7 s.proven (zaQ s k))) (open_sx (sk y) s k he hk)
 rw[List.map_cons,zcf] at this;refine this.mono ?_;rintro e w' ⟨v,rfl,-,rfl,hb⟩
 exact⟨rfl,hb⟩)
/-! The result. -/
def ApS (mem:AM) (v:Value) (p:St×Int):Prop:=∃ T Cc,v=.tuple #[.agg #[.int .i64 p.1.tick,.int .i64 p.1.count,T,Cc,.int .i64 p.1.proven,.int .i64 p.1.evac,.int .i64 p.1.low,.int .i64 p.1.high],.int .i64 p.2]/\SlR mem 12 tsC default p.1.tenants T/\SlR mem 4 csC default p.1.cells Cc
theorem ApS.err {mem:AM} {p:St×Int} {n:Int} (h:p=(St.zero,n)):ApS mem (.tuple #[stZ,.int .i64 n]) p:=by
 subst h;exact⟨zs0,zs0,rfl,.inl ⟨rfl,rfl⟩,.inl ⟨rfl,rfl⟩⟩
theorem ApS.ok {mem:AM} {p:St×Int} {s:St} {y:StK} {M:SN} {nT nC:Nat} {n:Int} (h:p=(s,n)) (hT:nT=s.tenants.length) (hC:nC=s.cells.length) (h1:zeO mem M.t 12 tsC default s.tenants) (h2:zeO mem M.c 4 csC default s.cells):ApS mem (.tuple #[stVg M y nT nC s,.int .i64 n]) p:=by
 subst h hT hC;obtain⟨t1,n1,e1,q1,q2,q3,q4⟩:=h1;obtain⟨t2,n2,e2,r1,r2,r3,r4⟩:=h2;exact⟨_,_,rfl,.inr ⟨M.t,_,_,_,_,rfl,q1,q2,q3,q4⟩,.inr ⟨M.c,_,_,_,_,rfl,r1,r2,r3,r4⟩⟩
structure ArH (c:Cfg) (s:St) (e:Ent):Prop where
 cfg:CfgV c
 inv:StInv c s
 ent:zca c e=true
 cnt:s.count<4096
 tick:s.tick<=e.tick
theorem ArH.ref {c:Cfg} {s:St} {e:Ent} (h:ArH c s e):zas c s e=zaD c s e:=by
 have h1:=h.ent;have h2:=h.cnt;have h3:=h.tick;unfold zas;rw[if_neg (by rw[h1];decide),if_neg o_,if_neg o_]
theorem ArH.err {c:Cfg} {s:St} {e:Ent} (h:ArH c s e) {n:Int} (hk:zaD c s e=n) (hn:n≠0):zaZ c s e=(St.zero,n):=by
 unfold zaZ;rw[h.ref,hk,if_pos hn]
theorem ArH.over {c:Cfg} {s:St} {e:Ent} (h:ArH c s e) (hk:zaD c s e=0) (hf:zct e=true) (ho:zcr c (zae s e)=true):zaZ c s e=(St.zero,10):=by
 unfold zaZ;rw[h.ref,hk,if_neg (fun q=>q rfl),if_pos ⟨hf,ho⟩]
theorem ArH.fine {c:Cfg} {s:St} {e:Ent} (h:ArH c s e) (hk:zaD c s e=0) (hf:zct e=true->zcr c (zae s e)=false):zaZ c s e=(zae s e,0):=by
 unfold zaZ;rw[h.ref,hk,if_neg (fun q=>q rfl),if_neg (fun⟨q1,q2⟩=>by rw[hf q1] at q2;cases q2)]
theorem ArH.tB {c:Cfg} {s:St} {e:Ent} (h:ArH c s e):0<=e.tick/\e.tick<=1073741824:=by
 have h1:=h.ent;simp only[zca,zaN,inR,Bool.and_eq_true,decide_eq_true_eq] at h1;omega
def LA:List Nat:=[0,1,2,3,4,5,6,7,8,9,10,11,12,13,14,15,16,17,18,19,20,21,22,23,24,25,26,27,28,29,30,31,32]
def fitF:FT:=[(212,ctOverG)]
theorem fitFok:FTok Tryz.prog fitF:=zan overGOk zb7
abbrev ctFit:CT:=zat ttU fitF [] Tryz.f147 (za1 Tryz.f147)
theorem zmZ {I:List Nat} (hI:I.contains 147=true):zab Tryz.prog I 147 ctFit:=zad zeb (fitFok.i _) mixed k_ Tryz.func147 rfl k_ hI
/-! The zaa cells: the program's list and the reference's. -/
def unpL (s:St) (k:Nat):List Int:=((List.range k).filter fun i=>zc7 s.proven (s.cells.getD i default)).map Int.ofNat
theorem zjv (s:St):unpL s s.cells.length=zaa s:=rfl
theorem zlL (s:St) (k:Nat):(unpL s k).length<=k:=by
 unfold unpL;rw[List.length_map];have:=List.length_filter_le (fun i=>zc7 s.proven (s.cells.getD i default)) (List.range k);simpa using this
theorem Sat.ints {C:Ctx} {ρ:Nat->Pl} {fr:AF} {mem:AM} {nx:Nat} {a:Act} {w w':World} {K:Value->AM->Nat->Prop} (hs:Sat C ρ fr mem nx a w) (hb:Below w.heap.size w w') {A:Option Addr} {cp:Nat} {l:List Int} (hr:Rd w' (fun b=>w.heap.size<=b/\b<w'.heap.size) A (zaJ zaw l)) (hK:K (slc nx l.length cp) ((nx,zaz 500000 1 zaw 0 l)::mem) (nx+1)) :
  ∃ v mem' nx' ρ',Ending.returned (.slice A l.length cp)=.returned (den ρ' v)/\K v mem' nx'/\Sat C ρ' fr mem' nx' a w'/\okV ρ' nx' v/\ExtS ρ nx ρ' nx':=by
 obtain⟨q1,-⟩:=(hs.later hb).addList hs.frB hs.rest.size (enc:=zaw) (sz:=1) (fun _=>rfl) o_ zaS 0 (t:=500000) rfl hr;have q2:zac ρ nx ⟨A,1,l.length,false,za4⟩ nx=⟨A,1,l.length,false,za4⟩:=za2 _ _ _;refine⟨slc nx l.length cp,_,_,_,?_,hK,q1,?_,fun i hi=>za8 _ _ hi,o_⟩
 ·show Ending.returned (.slice A l.length cp)=.returned (.slice (zac ρ nx ⟨A,1,l.length,false,za4⟩ nx).A l.length cp);rw[q2]
 ·exact⟨show nx<nx+1 by omega,by rw[q2]⟩
def ctUnpP:CT:=fun vs mem nx K=>∃ M y s,vs=[stV M y s]/\(HasRow mem M.t 12 tsC default s.tenants/\HasRow mem M.c 4 csC default s.cells)/\(∃ c,CfgV c/\StInv c s)/\∀ cp,K (slc nx (zaa s).length cp) ((nx,zaz 500000 1 zaw 0 (zaa s))::mem) (nx+1)
theorem unpPOk:CSound Tryz.prog 11 ctUnpP:=⟨k_,fun {C ρ fr mem nx a w vs K} hc hs hv=>by
 obtain⟨M,y,s,rfl,⟨h1,h2⟩,⟨c,hV,hI⟩,hK⟩:=hc;rw[List.map_cons,zc3];refine (ze2 c (stX ρ M y) s w hV hI (hs.stRow h1 h2)).mono ?_;rintro e w' ⟨A,cp,rfl,ho,hb⟩
 exact hs.ints hb (Rd.of_own ho) (hK cp)⟩
/-! ref12.granted,ref12.Cut -/
def zbr (c:Cfg) (s:St) (e:Ent):Int:=
 let t:=zaA s e.tenant
 let x:=zaQ s e.cell
 if x.mode=3∨(x.mode=2/\e.cell≠t.home) then 6
 else if e.epoch≠t.epoch+1/\¬ (e.cell=t.home/\e.epoch=t.epoch) then 7
 else if e.n≠x.running∨x.running≠x.wanted then 8
 else if e.since<e.tick∨e.tick+c.lease<e.since∨e.till<=e.since∨c.lease<e.till-e.since∨e.since<t.win.till∨(e.cell≠t.home/\e.tick<t.win.till) then 9 else 0
theorem zd3 (c:Cfg) (s:St) (e:Ent):ze5 c s e=if (zaA s e.tenant).placed=false∨((zaA s e.tenant).shed=true/\e.cell≠(zaA s e.tenant).standby) then 4 else if e.cell≠(zaA s e.tenant).home/\e.cell≠(zaA s e.tenant).standby/\e.cell≠(zaA s e.tenant).target then 5 else zbr c s e:=rfl
def gdD:List (Nat×DQ):=[
 (5000005,{ k:=40,L:=LA,sl:=[3,4,5,6,7,8,9] }),(5000007,{ k:=40,L:=LA,sl:=[3,4,5,6,7,8,9] }),(5000009,{ k:=40,L:=LA,sl:=[3,4,5,6,7,8,9] }),(5000011,{ k:=40,L:=LA,sl:=[3,4,5,6,7,8,9] }),(5000013,{ k:=40,L:=LA,sl:=[3,4,5,6,7,8,9] })
]
abbrev gdPre (c:Cfg) (s:St) (e:Ent):Prop:=(0<=e.tenant/\e.tenant<s.tenants.length)/\(0<=e.cell/\e.cell<s.cells.length)/\(0<=e.tick/\e.tick<=1073741824)/\(0<=e.since/\e.since<=1073741824)/\(0<=e.till/\e.till<=1073741824)/\(0<=(zaA s e.tenant).epoch/\(zaA s e.tenant).epoch<=1048576)
theorem zkT (x:CfgK) (c:Cfg) (y:StK) (s:St) (e:Ent) (hV:CfgV c) (hp:gdPre c s e):sx tt [] gdD (za1 Tryz.f148) (zb3 0 [zaX CN1 x c,stV SN1 y s,entV' e]) (rdM c s noS) 10 (zb8 tt Tryz.f148.results.toList fun v _ _=>v=.int .i64 (zbr c s e)/\zbJ v):=by
 have hls:=hV.lease;obtain⟨p1,p2,p3,p4,p5,p6⟩:=hp;have p6b:0<=(s.tenants.getD e.tenant.toNat default).epoch/\(s.tenants.getD e.tenant.toNat default).epoch<=1048576:=p6;have w1:IntKind.i64.wrap ((s.tenants.getD e.tenant.toNat default).epoch+1)=(s.tenants.getD e.tenant.toNat default).epoch+1:=zaf o_;have w2:IntKind.i64.wrap (e.tick+c.lease)=e.tick+c.lease:=zaf o_;have w3:IntKind.i64.wrap (e.till-e.since)=e.till-e.since:=zaf o_;refine⟨⟨nl_,p1.1,p1.2⟩,?_⟩;refine⟨⟨nl_,p2.1,p2.2⟩,?_⟩;refine⟨Bool,fun b=>[(27,.bool b)],fun _=>[],fun b=>(b=true↔((s.cells.getD e.cell.toNat default).mode=3∨((s.cells.getD e.cell.toNat default).mode=2/\¬ e.cell=(s.tenants.getD e.tenant.toNat default).home))),?_,?_⟩
 ·repeat' (first | refine⟨fun _=>?_,bt_⟩ | refine⟨bf_,fun _=>?_⟩ | refine⟨fun _=>?_,fun _=>?_⟩ | refine⟨⟨nl_,o_,o_⟩,?_⟩ | fail)
  all_goals (refine⟨_,?_,kp_,kp_⟩;dsimp only;grind)
 ·rintro b1 hb1;refine⟨⟨d_,rfl,rfl⟩,?_⟩;refine⟨fun qb1=>?_,fun qb1=>?_⟩
  ·unfold zbr zaA zaQ;refine⟨?_,trivial⟩;congr 1
   grind
  ·refine⟨Bool,fun b=>[(40,.bool b)],fun _=>[],fun b=>(b=true↔(e.epoch≠(s.tenants.getD e.tenant.toNat default).epoch+1/\¬ (e.cell=(s.tenants.getD e.tenant.toNat default).home/\e.epoch=(s.tenants.getD e.tenant.toNat default).epoch))),?_,?_⟩
   ·repeat' (first | refine⟨fun _=>?_,bt_⟩ | refine⟨bf_,fun _=>?_⟩ | refine⟨fun _=>?_,fun _=>?_⟩ | refine⟨⟨nl_,o_,o_⟩,?_⟩ | fail)
    all_goals (refine⟨_,?_,kp_,kp_⟩;dsimp only;grind)
   ·rintro b2 hb2;refine⟨⟨d_,rfl,rfl⟩,?_⟩;refine⟨fun qb2=>?_,fun qb2=>?_⟩
    ·unfold zbr zaA zaQ;refine⟨?_,trivial⟩;congr 1
     grind
    ·refine⟨Bool,fun b=>[(69,.bool b)],fun _=>[],fun b=>(b=true↔(e.n≠(s.cells.getD e.cell.toNat default).running∨(s.cells.getD e.cell.toNat default).running≠(s.cells.getD e.cell.toNat default).wanted)),?_,?_⟩
     ·repeat' (first | refine⟨fun _=>?_,bt_⟩ | refine⟨bf_,fun _=>?_⟩ | refine⟨fun _=>?_,fun _=>?_⟩ | refine⟨⟨nl_,o_,o_⟩,?_⟩ | fail)
      all_goals (refine⟨_,?_,kp_,kp_⟩;dsimp only;grind)
     ·rintro b3 hb3;refine⟨⟨d_,rfl,rfl⟩,?_⟩;refine⟨fun qb3=>?_,fun qb3=>?_⟩
      ·unfold zbr zaA zaQ;refine⟨?_,trivial⟩;congr 1
       grind
      ·refine⟨Bool,fun b=>[(82,.bool b)],fun _=>[],fun b=>(b=true↔(e.since<e.tick∨e.tick+c.lease<e.since∨e.till<=e.since∨c.lease<e.till-e.since∨e.since<(s.tenants.getD e.tenant.toNat default).win.till)),?_,?_⟩
       ·repeat' (first | refine⟨fun _=>?_,bt_⟩ | refine⟨bf_,fun _=>?_⟩ | refine⟨fun _=>?_,fun _=>?_⟩ | refine⟨⟨nl_,o_,o_⟩,?_⟩ | fail)
        all_goals (refine⟨_,?_,kp_,kp_⟩;dsimp only;grind)
       ·rintro b4 hb4;refine⟨⟨d_,rfl,rfl⟩,?_⟩;refine⟨fun qb4=>?_,fun qb4=>?_⟩
        ·unfold zbr zaA zaQ;refine⟨?_,trivial⟩;congr 1
         grind
        ·refine⟨Bool,fun b=>[(123,.bool b)],fun _=>[],fun b=>(b=true↔(¬ e.cell=(s.tenants.getD e.tenant.toNat default).home/\e.tick<(s.tenants.getD e.tenant.toNat default).win.till)),?_,?_⟩
         ·repeat' (first | refine⟨fun _=>?_,bt_⟩ | refine⟨bf_,fun _=>?_⟩ | refine⟨fun _=>?_,fun _=>?_⟩ | refine⟨⟨nl_,o_,o_⟩,?_⟩ | fail)
          all_goals (refine⟨_,?_,kp_,kp_⟩;dsimp only;grind)
         ·rintro b5 hb5;refine⟨⟨d_,rfl,rfl⟩,?_⟩;refine⟨fun qb5=>?_,fun qb5=>?_⟩
          ·unfold zbr zaA zaQ;refine⟨?_,trivial⟩;congr 1
           grind
          ·unfold zbr zaA zaQ;refine⟨?_,trivial⟩;congr 1
           grind
def ctGrantedR:CT:=fun vs mem nx K=>∃ N x c M y nT nC s e,vs=[zaX N x c,stVg M y nT nC s,entV' e]/\(keeps mem (zcH N c)/\HasSt mem M nT nC s)/\(CfgV c/\gdPre c s e)/\K (.int .i64 (zbr c s e)) mem nx
theorem zkU:CSound Tryz.prog 148 ctGrantedR:=⟨k_,fun {C ρ fr mem nx a w vs K} hc hs hv=>by
 obtain⟨N,x,c,M,y,nT,nC,s,e,rfl,⟨h1,h2⟩,⟨hV,hp⟩,hK⟩:=hc;obtain⟨rfl,rfl,h3,h4⟩:=h2;have e0:([zaX N x c,stV M y s,entV' e].map (den ρ)).toArray=#[.agg (zaH (zdp ρ N x) c),.agg (stC (stX ρ M y) s),entV' e]:=by
  rw[List.map_cons,List.map_cons,zaP,zc3];simp[den,zaW,zal]
 rw[e0];have hcc:=hs.cfg (x:=x) h1 (S:=(·<w.heap.size)) (fun b h _=>h);have hss:=hs.stRow (y:=y) h3 h4
 have:=zbI zb7 Tryz.func148 rfl (D:=gdD) k_ (vs:=[zaX CN1 (ck (zdp ρ N x)) c,stV SN1 (sk (stX ρ M y)) s,entV' e]) rfl (zdp ρ N x) c (stX ρ M y) s noA noS w hcc hss (zbt w _) (fun v hv=>by
  simp only[List.mem_cons,List.not_mem_nil,or_false] at hv
  rcases hv with rfl | rfl | rfl
  ·exact zbw _ c _ s noA noS
  ·exact zb1 _ c _ s noA noS
  ·exact (zag (zap e) _ _).2) (R:=fun v=>v=.int .i64 (zbr c s e)) (zkT _ c _ s e hV hp)
 rw[List.map_cons,List.map_cons,zcU,zcf,List.map_cons,(zag (zap e) _ 0).1] at this;refine this.mono ?_;rintro r w' ⟨v,rfl,-,rfl,hb⟩
 exact⟨.int .i64 (zbr c s e),mem,nx,ρ,rfl,hK,hs.later hb,trivial,ExtS.refl _ _⟩⟩
abbrev winV (x:Win):Value:=.agg #[.int .i64 x.cell,.int .i64 x.epoch,.int .i64 x.version,.int .i64 x.since,.int .i64 x.till]
theorem zfo (x:Win):zbJ (winV x):=fun v hv=>by
 simp at hv;rcases hv with rfl | rfl | rfl | rfl | rfl<;>trivial
def ctCutW:CT:=fun vs mem nx K=>∃ (x:Win) (t:Int),vs=[winV x,.int .i64 t]/\(-1000000000000<=t/\t<=1000000000000)/\K (winV (cutW x t)) mem nx
theorem cut_sx (x:Win) (t:Int) (ht:-1000000000000<=t/\t<=1000000000000):sx tt [] [] (za1 Tryz.f149) (zb3 0 [winV x,.int .i64 t]) (rdM noC noS noS) 10 (zb8 tt Tryz.f149.results.toList fun v _ _=>v=winV (cutW x t)/\zbJ v):=by
 have w1:IntKind.i64.wrap (t+1)=t+1:=zaf o_;have hm:∀ a b:Int,(if b<a then b else a)=min a b:=fun a b=>by rw[Int.min_def];split<;>split<;>omega
 refine⟨?_,?_⟩
 ·show Value.agg #[_,_,_,.int .i64 (if (if IntKind.i64.wrap (t+1)<x.till then IntKind.i64.wrap (t+1) else x.till)<x.since then (if IntKind.i64.wrap (t+1)<x.till then IntKind.i64.wrap (t+1) else x.till) else x.since),.int .i64 (if IntKind.i64.wrap (t+1)<x.till then IntKind.i64.wrap (t+1) else x.till)]=_;rw[w1,hm,hm];rfl
 ·intro u hu;simp at hu;rcases hu with rfl | rfl | rfl | rfl | rfl<;>trivial
theorem cutWOk:CSound Tryz.prog 149 ctCutW:=CSound.pure k_ (by
 rintro vs mem nx K ⟨x,t,rfl,ht,hK⟩;refine⟨_,hK,fun ρ n=>zag (zfo _) ρ n,fun ρ w=>?_⟩
 have:=zbI zb7 Tryz.func149 rfl (D:=[]) k_ (vs:=[winV x,.int .i64 t]) rfl noX noC noA noS noA noS w (zdB _ _) (zbt w _) (zbt w _) (fun v hv=>by
  simp only[List.mem_cons,List.not_mem_nil,or_false] at hv
  rcases hv with rfl | rfl
  ·exact (zag (zfo x) _ _).2
  ·trivial) (R:=fun v=>v=winV (cutW x t)) (cut_sx x t ht)
 rw[List.map_cons,(zag (zfo x) _ 0).1] at this;rw[List.map_cons,(zag (zfo x) _ 0).1];refine this.mono ?_;rintro e w' ⟨v,rfl,-,rfl,hb⟩
 exact⟨rfl,hb⟩)
/-! ref12.Apply: the functions that are walked inside. -/
theorem zf8 {c:Cfg} {s:St} (h:decide (((zeh c s c.cells.length:Nat):Int)>0)=true):zcr c s=true:=by
 rw[← zhC];have:=of_decide_eq_true h;exact decide_eq_true o_
theorem zhE {c:Cfg} {s:St} (h:decide (((zeh c s c.cells.length:Nat):Int)>0)=false):zcr c s=false:=by
 rw[← zhC];have:=of_decide_eq_false h;exact decide_eq_false o_
def placeF:FT:=[(73,ctNo),(145,ctFrozenR),(142,ctMay),(146,ctTogether),(147,ctFit)]
def placeD:List (Nat×DQ):=[(9000000,{ k:=0,L:=[147] }),(11,{ k:=13,L:=[18],pre:=[(0,false),(1,false),(2,false),(3,false),(4,false),(5,false),(6,false),(7,false),(8,false),(9,true),(10,false),(11,false),(12,true)] })]
theorem placeFok:zaY Tryz.prog placeF (zbj placeD):=za0 (zkG.i _) (za0 (zfV.i _) (za0 (mayOk.i _) (za0 (zeT.i _) (za0 (zmZ d_) za3))))
abbrev ctPlaceI:CT:=zat ttU placeF placeD Tryz.f75 (za1 Tryz.f75)
theorem placeIOk {I:List Nat} (hI:I.contains 75=true):zab Tryz.prog I 75 ctPlaceI:=zad zeb placeFok mixed k_ Tryz.func75 rfl k_ hI
def grantF:FT:=[(73,ctNo),(148,ctGrantedR),(147,ctFit)]
def grantD:List (Nat×DQ):=[(9000000,{ k:=0,L:=[147] }),(2,{ k:=17,L:=LA,pre:=[(0,false),(1,false),(2,false),(3,false),(4,false),(5,false),(6,false),(7,false),(8,false),(9,false),(10,false),(11,false),(12,false),(13,false),(14,false),(15,false),(16,false)] }),(4,{ k:=23,L:=LA,pre:=[(0,false),(1,false),(2,false),(3,false),(4,false),(5,false),(6,false),(7,false),(8,false),(9,false),(10,false),(11,false),(12,false),(13,false),(14,false),(15,false),(16,false),(17,false),(18,false),(19,false),(20,false),(21,false),(22,false)] }),(5000003,{ k:=40,L:=LA,sl:=[3,4,5,6,7,8] }),(5000005,{ k:=40,L:=LA,sl:=[3,4,5,6,7,8] })]
theorem grantFok:zaY Tryz.prog grantF (zbj grantD):=za0 (zkG.i _) (za0 (zkU.i _) (za0 (zmZ d_) za3))
abbrev ctGrantI:CT:=zat ttU grantF grantD Tryz.f76 (za1 Tryz.f76)
theorem grantIOk {I:List Nat} (hI:I.contains 76=true):zab Tryz.prog I 76 ctGrantI:=zad zeb grantFok mixed k_ Tryz.func76 rfl k_ hI
def cutF:FT:=[(73,ctNo),(149,ctCutW)]
def cutD:List (Nat×DQ):=[(9000000,{ k:=0,L:=[] }),(4,{ k:=6,L:=LA,pre:=[(0,false),(1,false),(2,false),(3,false),(4,false),(5,false)] }),(6,{ k:=8,L:=LA,pre:=[(0,false),(1,false),(2,false),(3,false),(4,false),(5,false),(6,false),(7,true)] })]
theorem cutFok:zaY Tryz.prog cutF (zbj cutD):=za0 (zkG.i _) (za0 (cutWOk.i _) za3)
abbrev ctCutI:CT:=zat ttU cutF cutD Tryz.f77 (za1 Tryz.f77)
theorem cutIOk {I:List Nat} (hI:I.contains 77=true):zab Tryz.prog I 77 ctCutI:=zad zeb cutFok mixed k_ Tryz.func77 rfl k_ hI
def zjz:FT:=[(73,ctNo),(145,ctFrozenR),(142,ctMay),(146,ctTogether),(147,ctFit)]
def zjA:List (Nat×DQ):=[(9000000,{ k:=0,L:=[147] }),(5,{ k:=23,L:=LA,pre:=[(0,false),(1,false),(2,false),(3,false),(4,false),(5,false),(6,false),(7,false),(8,false),(9,false),(10,false),(11,false),(12,false),(13,false),(14,false),(15,false),(16,false),(17,false),(18,false),(19,false),(20,false),(21,false),(22,false)] }),(11,{ k:=25,L:=LA,pre:=[(0,false),(1,false),(2,false),(3,false),(4,false),(5,true),(6,false),(7,false),(8,false),(9,false),(10,false),(11,false),(12,false),(13,false),(14,false),(15,true),(16,false),(17,false),(18,false),(19,false),(20,false),(21,false),(22,false),(23,false),(24,false)] }),(5000006,{ k:=40,L:=LA,sl:=[3,4,5,6,7,8] }),(5000012,{ k:=40,L:=LA,sl:=[3,4,5,6,7,8] }),(1000013,{ k:=40,L:=LA,sl:=[3,4,5,6,7,8] })]
theorem zkh:zaY Tryz.prog zjz (zbj zjA):=za0 (zkG.i _) (za0 (zfV.i _) (za0 (mayOk.i _) (za0 (zeT.i _) (za0 (zmZ d_) za3))))
abbrev ctStandbyI:CT:=zat ttU zjz zjA Tryz.f78 (za1 Tryz.f78)
theorem zkg {I:List Nat} (hI:I.contains 78=true):zab Tryz.prog I 78 ctStandbyI:=zad zeb zkh mixed k_ Tryz.func78 rfl k_ hI
def readyF:FT:=[(73,ctNo)]
def readyD:List (Nat×DQ):=[(9000000,{ k:=0,L:=[] }),(4,{ k:=6,L:=LA,pre:=[(0,false),(1,false),(2,false),(3,false),(4,false),(5,false)] })]
theorem readyFok:zaY Tryz.prog readyF (zbj readyD):=za0 (zkG.i _) za3
abbrev ctReadyI:CT:=zat ttU readyF readyD Tryz.f79 (za1 Tryz.f79)
theorem readyIOk {I:List Nat} (hI:I.contains 79=true):zab Tryz.prog I 79 ctReadyI:=zad zeb readyFok mixed k_ Tryz.func79 rfl k_ hI
def zjO:FT:=[(73,ctNo),(145,ctFrozenR),(142,ctMay),(146,ctTogether),(147,ctFit)]
def zjP:List (Nat×DQ):=[(9000000,{ k:=0,L:=[147] }),(4,{ k:=23,L:=LA,pre:=[(0,false),(1,false),(2,false),(3,false),(4,false),(5,false),(6,false),(7,false),(8,false),(9,false),(10,false),(11,false),(12,false),(13,false),(14,false),(15,false),(16,false),(17,false),(18,false),(19,false),(20,false),(21,false),(22,false)] }),(10,{ k:=25,L:=LA,pre:=[(0,false),(1,false),(2,false),(3,false),(4,false),(5,true),(6,false),(7,false),(8,false),(9,false),(10,false),(11,false),(12,false),(13,false),(14,false),(15,true),(16,false),(17,false),(18,false),(19,false),(20,false),(21,false),(22,false),(23,false),(24,false)] }),(5000003,{ k:=40,L:=LA,sl:=[3,4,5,6,7,8] }),(5000005,{ k:=40,L:=LA,sl:=[3,4,5,6,7,8] }),(5000011,{ k:=40,L:=LA,sl:=[3,4,5,6,7,8] })]
theorem zkK:zaY Tryz.prog zjO (zbj zjP):=za0 (zkG.i _) (za0 (zfV.i _) (za0 (mayOk.i _) (za0 (zeT.i _) (za0 (zmZ d_) za3))))
abbrev ctMigrateI:CT:=zat ttU zjO zjP Tryz.f80 (za1 Tryz.f80)
theorem zkJ {I:List Nat} (hI:I.contains 80=true):zab Tryz.prog I 80 ctMigrateI:=zad zeb zkK mixed k_ Tryz.func80 rfl k_ hI
def zk8:FT:=[(73,ctNo)]
def zk9:List (Nat×DQ):=[(9000000,{ k:=0,L:=[] }),(5000003,{ k:=40,L:=LA,sl:=[2,3,4,5,6] })]
theorem zlk:zaY Tryz.prog zk8 (zbj zk9):=za0 (zkG.i _) za3
abbrev ctAbandonI:CT:=zat ttU zk8 zk9 Tryz.f81 (za1 Tryz.f81)
theorem zlj {I:List Nat} (hI:I.contains 81=true):zab Tryz.prog I 81 ctAbandonI:=zad zeb zlk mixed k_ Tryz.func81 rfl k_ hI
def shedF:FT:=[(73,ctNo),(147,ctFit)]
def shedD:List (Nat×DQ):=[(9000000,{ k:=0,L:=[147] }),(5,{ k:=7,L:=LA,pre:=[(0,false),(1,false),(2,false),(3,false),(4,false),(5,false),(6,false)] }),(11,{ k:=6,L:=LA,pre:=[(0,false),(1,false),(2,false),(3,false),(4,false),(5,false)] }),(5000004,{ k:=40,L:=LA,sl:=[3,4,5,6,7,8] })]
theorem shedFok:zaY Tryz.prog shedF (zbj shedD):=za0 (zkG.i _) (za0 (zmZ d_) za3)
abbrev ctShedI:CT:=zat ttU shedF shedD Tryz.f82 (za1 Tryz.f82)
theorem shedIOk {I:List Nat} (hI:I.contains 82=true):zab Tryz.prog I 82 ctShedI:=zad zeb shedFok mixed k_ Tryz.func82 rfl k_ hI
def wantF:FT:=[(73,ctNo),(151,ctProvenR),(150,ctOpenR)]
def wantD:List (Nat×DQ):=[(9000000,{ k:=0,L:=[] }),(9,{ k:=6,L:=LA,pre:=[(0,false),(1,false),(2,false),(3,false),(4,false),(5,false)] }),(13,{ k:=11,L:=LA,pre:=[(0,false),(1,false),(2,false),(3,false),(4,false),(5,false),(6,false),(7,false),(8,false),(9,false),(10,false)] }),(15,{ k:=18,L:=LA,pre:=[(0,false),(1,false),(2,false),(3,false),(4,false),(5,false),(6,false),(7,false),(8,false),(9,false),(10,false),(11,true),(12,false),(13,false),(14,false),(15,false),(16,false),(17,false)] }),(2000005,{ k:=0,L:=LA,sl:=[3,4,5,6,7,8,9] }),(1000006,{ k:=40,L:=LA,sl:=[3,4,5,6,7,8,9,11] }),(5000012,{ k:=40,L:=LA,sl:=[3,4,5,6,7,8,9,10] }),(5000014,{ k:=40,L:=LA,sl:=[3,4,5,6,7,8,9,10] }),(5000016,{ k:=40,L:=LA,sl:=[3,4,5,6,7,8,9,10] })]
theorem wantFok:zaY Tryz.prog wantF (zbj wantD):=za0 (zkG.i _) (za0 (zez.i _) (za0 (openROk.i _) za3))
abbrev ctWantI:CT:=zat ttU wantF wantD Tryz.f83 (za1 Tryz.f83)
theorem wantIOk {I:List Nat} (hI:I.contains 83=true):zab Tryz.prog I 83 ctWantI:=zad zeb wantFok mixed k_ Tryz.func83 rfl k_ hI
def runsF:FT:=[(73,ctNo),(151,ctProvenR)]
def runsD:List (Nat×DQ):=[(9000000,{ k:=0,L:=[] }),(2,{ k:=16,L:=LA,pre:=[(0,false),(1,false),(2,false),(3,false),(4,false),(5,false),(6,false),(7,false),(8,false),(9,false),(10,false),(11,false),(12,false),(13,false),(14,false),(15,false)] }),(12,{ k:=9,L:=[17],pre:=[(0,false),(1,false),(2,false),(3,false),(4,false),(5,false),(6,false),(7,false),(8,true)] }),(5000003,{ k:=40,L:=LA,sl:=[2,3,4,5,6] }),(5000005,{ k:=40,L:=LA,sl:=[2,3,4,5,6] }),(2000007,{ k:=0,L:=LA,sl:=[2,3,4,5,6] }),(5000011,{ k:=50,L:=LA,sl:=[2,3,4,5,6,7] })]
theorem runsFok:zaY Tryz.prog runsF (zbj runsD):=za0 (zkG.i _) (za0 (zez.i _) za3)
abbrev ctRunsI:CT:=zat ttU runsF runsD Tryz.f84 (za1 Tryz.f84)
theorem runsIOk {I:List Nat} (hI:I.contains 84=true):zab Tryz.prog I 84 ctRunsI:=zad zeb runsFok mixed k_ Tryz.func84 rfl k_ hI
def proveF:FT:=[(73,ctNo),(151,ctProvenR)]
def proveD:List (Nat×DQ):=[(9000000,{ k:=0,L:=[] }),(2000004,{ k:=0,L:=LA,sl:=[3,4,5,6,7] }),(5000008,{ k:=40,L:=LA,sl:=[3,4,5,6,7,8] })]
theorem proveFok:zaY Tryz.prog proveF (zbj proveD):=za0 (zkG.i _) (za0 (zez.i _) za3)
abbrev ctProveI:CT:=zat ttU proveF proveD Tryz.f85 (za1 Tryz.f85)
theorem proveIOk {I:List Nat} (hI:I.contains 85=true):zab Tryz.prog I 85 ctProveI:=zad zeb proveFok mixed k_ Tryz.func85 rfl k_ hI
def zn2:FT:=[(73,ctNo)]
def zn3:List (Nat×DQ):=[(9000000,{ k:=0,L:=[] }),(9,{ k:=20,L:=LA,pre:=[(0,false),(1,false),(2,false),(3,false),(4,false),(5,false),(6,false),(7,false),(8,false),(9,false),(10,false),(11,false),(12,false),(13,false),(14,false),(15,false),(16,false),(17,false),(18,false),(19,false)] }),(2000006,{ k:=0,L:=LA,sl:=[2,3,4,5] }),(5000010,{ k:=40,L:=LA,sl:=[2,3,4,5,6] })]
theorem zn1:zaY Tryz.prog zn2 (zbj zn3):=za0 (zkG.i _) za3
abbrev ctExpandI:CT:=zat ttU zn2 zn3 Tryz.f87 (za1 Tryz.f87)
theorem zn0 {I:List Nat} (hI:I.contains 87=true):zab Tryz.prog I 87 ctExpandI:=zad zeb zn1 mixed k_ Tryz.func87 rfl k_ hI
def arF:FT:=[(72,ctValid6),(73,ctNo),(74,ctCopied),(86,ctHas),(75,ctPlaceI),(76,ctGrantI),(77,ctCutI),(78,ctStandbyI),(79,ctReadyI),(80,ctMigrateI),(81,ctAbandonI),(82,ctShedI),(83,ctWantI),(84,ctRunsI),(85,ctProveI),(87,ctExpandI)]
def arD:List (Nat×DQ):=[(9000000,{ k:=0,L:=[75,76,77,78,79,80,81,82,83,84,85,87] }),(27,{ k:=9,L:=[11,12,14],pre:=[(0,false),(1,false),(2,false),(3,false),(4,false),(5,false),(6,false),(7,false),(8,false)] }),(29,{ k:=15,L:=[11,12],pre:=[(0,false),(1,false),(2,false),(3,false),(4,false),(5,false),(6,false),(7,false),(8,false),(9,false),(10,false),(11,false),(12,true),(13,false),(14,true)] }),(37,{ k:=8,L:=[11,12],pre:=[(0,false),(1,false),(2,false),(3,false),(5,false),(6,false),(7,false),(4,true)] })]
theorem arFok:zaY Tryz.prog arF (zbj arD):=za0 (valid6Ok.i _) (za0 (zkG.i _) (za0 (copiedOk.i _) (za0 (hasOk.i _) (za0 (placeIOk d_) (za0 (grantIOk d_) (za0 (cutIOk d_) (za0 (zkg d_) (za0 (readyIOk d_) (za0 (zkJ d_) (za0 (zlj d_) (za0 (shedIOk d_) (za0 (wantIOk d_) (za0 (runsIOk d_) (za0 (proveIOk d_) (za0 (zn0 d_) (za3))))))))))))))))
theorem apPlace (x:CfgK) (c:Cfg) (y:StK) (s:St) (e:Ent) (hA:ArH c s e) (hk:e.kind=1):sx ttU arF arD (za1 Tryz.f37) (zb3 0 [zaX CN1 x c,stV SN1 y s,entV' e]) (rdM c s noS) 10 (zb8 ttU Tryz.f37.results.toList fun v mem' _=>ApS mem' v (zaZ c s e)):=by
 have hV:=hA.cfg;have hI:=hA.inv;have hE:=hA.ent;have hcn:=hA.cnt;have htk:=hA.tick;have hlt:=hI.lt;have hlc:=hI.lc;have hnt:=hV.nt;have hnc:=hV.nc;have hct:=hI.count;have hst:=hI.tick;have hev:=hI.evac;have hpv:=hI.proven;have htb:=hA.tB;have hP:zaD c s e=zbL c s e:=by unfold zaD;simp[hk]
 have hf:=hE;simp[zca,zaN,inS,inR,fT,fC,fO,fE,fW,fN,hk] at hf;refine⟨CN1,x,c,e,rfl,kp_,hV,?_⟩;refine⟨fun h=>absurd h (by rw[hE];decide),fun _=>?_⟩;refine⟨fun h=>absurd (of_decide_eq_true h) o_,fun _=>?_⟩;refine⟨fun h=>absurd (of_decide_eq_true h) o_,fun _=>?_⟩;refine⟨SN1,y,s,rfl,⟨.list rfl,.list rfl⟩,⟨o_,o_⟩,?_⟩;intro y2;refine⟨fun _=>?_,fun h=>absurd h (by rw[hk];decide)⟩;rw[zaf (n:=s.count+1) o_];by_cases ho:0<=e.other
 ·refine⟨⟨nl_,o_,o_⟩,?_⟩;refine⟨fun h1=>?_,fun h1=>?_⟩
  ·repeat (first | refine⟨fun _=>?_,bt_⟩ | refine⟨bf_,fun _=>?_⟩)
   refine⟨4,rfl,?_⟩;exact ApS.err (hA.err (by rw[hP];unfold zbL zaA zaQ zbh;grind) d_)
  ·refine⟨⟨nl_,o_,o_⟩,?_⟩;refine⟨fun h2=>?_,fun h2=>?_⟩
   ·repeat (first | refine⟨fun _=>?_,bt_⟩ | refine⟨bf_,fun _=>?_⟩)
    refine⟨6,rfl,?_⟩;exact ApS.err (hA.err (by rw[hP];unfold zbL zaA zaQ zbh;grind) d_)
   ·refine⟨fun _=>?_,fun h=>absurd h (by simp;omega)⟩;refine⟨⟨nl_,o_,o_⟩,?_⟩;refine⟨fun h3=>?_,fun h3=>?_⟩
    ·repeat (first | refine⟨fun _=>?_,bt_⟩ | refine⟨bf_,fun _=>?_⟩)
     refine⟨6,rfl,?_⟩;exact ApS.err (hA.err (by rw[hP];unfold zbL zaA zaQ zbh;grind) d_)
    ·refine⟨CN1,x,c,⟨15,14,0⟩,y2,_,_,⟨e.tick,s.count+1,s.tenants,s.cells,s.proven,s.evac,s.low,s.high⟩,e.cell,rfl,⟨kp_,⟨rfl,rfl,.list rfl,.list rfl⟩⟩,⟨hV,by dsimp only;omega⟩,?_⟩;refine⟨fun h4=>?_,fun h4=>?_⟩
     ·replace h4:zb2 c s e.cell=true:=h4;repeat (first | refine⟨fun _=>?_,bt_⟩ | refine⟨bf_,fun _=>?_⟩)
      refine⟨12,rfl,?_⟩;exact ApS.err (hA.err (by rw[hP];unfold zbL zaA zaQ zbh;grind) d_)
     ·replace h4:zb2 c s e.cell=false:=h4;refine⟨fun _=>?_,fun h=>absurd h (by simp;omega)⟩;refine⟨CN1,x,c,⟨15,14,0⟩,y2,_,_,⟨e.tick,s.count+1,s.tenants,s.cells,s.proven,s.evac,s.low,s.high⟩,e.other,rfl,⟨kp_,⟨rfl,rfl,.list rfl,.list rfl⟩⟩,⟨hV,by dsimp only;omega⟩,?_⟩;refine⟨fun h5=>?_,fun h5=>?_⟩
      ·replace h5:zb2 c s e.other=true:=h5;repeat (first | refine⟨fun _=>?_,bt_⟩ | refine⟨bf_,fun _=>?_⟩)
       refine⟨12,rfl,?_⟩;exact ApS.err (hA.err (by rw[hP];unfold zbL zaA zaQ zbh;grind) d_)
      ·replace h5:zb2 c s e.other=false:=h5;refine⟨CN1,x,c,_,_,rfl,kp_,hV,?_⟩;refine⟨fun h6=>?_,fun h6=>?_⟩
       ·repeat (first | refine⟨fun _=>?_,bt_⟩ | refine⟨bf_,fun _=>?_⟩)
        refine⟨11,rfl,?_⟩;exact ApS.err (hA.err (by rw[hP];unfold zbL zaA zaQ zbh;grind) d_)
       ·refine⟨fun _=>?_,fun h=>absurd h (by simp;omega)⟩;refine⟨CN1,x,c,_,_,rfl,kp_,hV,?_⟩;refine⟨fun h7=>?_,fun h7=>?_⟩
        ·repeat (first | refine⟨fun _=>?_,bt_⟩ | refine⟨bf_,fun _=>?_⟩)
         refine⟨11,rfl,?_⟩;exact ApS.err (hA.err (by rw[hP];unfold zbL zaA zaQ zbh;grind) d_)
        ·refine⟨CN1,x,c,_,_,rfl,kp_,hV,?_⟩;refine⟨fun h8=>?_,fun h8=>?_⟩
         ·unfold zil at h8;repeat (first | refine⟨fun _=>?_,bt_⟩ | refine⟨bf_,fun _=>?_⟩)
          refine⟨11,rfl,?_⟩;exact ApS.err (hA.err (by rw[hP];unfold zbL zaA zaQ zbh;grind) d_)
         ·have hi:e.tenant.toNat<s.tenants.length:=by omega
          refine⟨tsC { (s.tenants.getD e.tenant.toNat default) with placed:=true },(by first | rfl | (show zbx _ _ (tsC (List.getD _ _ _))=_;rw[za7 hi];rfl)),?_⟩;rw[za6 (by first | exact hi | (rw[List.length_set];exact hi))];try rw[List.set_set]
          refine⟨kp_,?_⟩;refine⟨tsC { (s.tenants.getD e.tenant.toNat default) with placed:=true,home:=e.cell },(by first | rfl | (show zbx _ _ (tsC (List.getD _ _ _))=_;rw[za7 hi];rfl)),?_⟩;rw[za6 (by first | exact hi | (rw[List.length_set];exact hi))];try rw[List.set_set]
          refine⟨kp_,?_⟩;refine⟨tsC { (s.tenants.getD e.tenant.toNat default) with placed:=true,home:=e.cell,standby:=e.other },(by first | rfl | (show zbx _ _ (tsC (List.getD _ _ _))=_;rw[za7 hi];rfl)),?_⟩;rw[za6 (by first | exact hi | (rw[List.length_set];exact hi))];try rw[List.set_set]
          unfold zil at h8;have hk0:zaD c s e=0:=by rw[hP];unfold zbL zaA zaQ zbh;grind
          have heff:zae s e=(⟨e.tick,s.count+1,s.tenants.set e.tenant.toNat { (s.tenants.getD e.tenant.toNat default) with placed:=true,home:=e.cell,standby:=e.other },s.cells,s.proven,s.evac,s.low,s.high⟩:St):=by simp[zae,zai,zaK,zav,zaA,hk]
          refine⟨CN1,x,c,⟨15,14,0⟩,y2,_,_,(⟨e.tick,s.count+1,s.tenants.set e.tenant.toNat { (s.tenants.getD e.tenant.toNat default) with placed:=true,home:=e.cell,standby:=e.other },s.cells,s.proven,s.evac,s.low,s.high⟩:St),rfl,⟨kp_,⟨(by first | rfl | (simp)),rfl,⟨_,_,_,rfl,(by first | exact nl_ | (simp)),fun k hk=>rfl⟩,.list rfl⟩⟩,⟨hV,by simp;omega⟩,?_⟩;intro cap;refine⟨fun hov=>?_,fun hov=>?_⟩
          ·exact ApS.err (hA.over hk0 (by unfold zct;simp[hk]) (by rw[heff];exact zf8 hov))
          ·exact ApS.ok (M:=⟨15,14,0⟩) (y:=y2) (s:=(⟨e.tick,s.count+1,s.tenants.set e.tenant.toNat { (s.tenants.getD e.tenant.toNat default) with placed:=true,home:=e.cell,standby:=e.other },s.cells,s.proven,s.evac,s.low,s.high⟩:St)) (by rw[hA.fine hk0 (fun _=>by rw[heff];exact zhE hov),heff]) (by first | rfl | (simp)) rfl ⟨_,_,_,rfl,rfl,(by first | exact nl_ | (simp)),fun k hk=>rfl⟩ ⟨_,_,_,rfl,rfl,nl_,fun k hk=>rfl⟩
 ·refine⟨⟨nl_,o_,o_⟩,?_⟩;refine⟨fun h1=>?_,fun h1=>?_⟩
  ·repeat (first | refine⟨fun _=>?_,bt_⟩ | refine⟨bf_,fun _=>?_⟩)
   refine⟨4,rfl,?_⟩;exact ApS.err (hA.err (by rw[hP];unfold zbL zaA zaQ zbh;grind) d_)
  ·refine⟨⟨nl_,o_,o_⟩,?_⟩;refine⟨fun h2=>?_,fun h2=>?_⟩
   ·repeat (first | refine⟨fun _=>?_,bt_⟩ | refine⟨bf_,fun _=>?_⟩)
    refine⟨6,rfl,?_⟩;exact ApS.err (hA.err (by rw[hP];unfold zbL zaA zaQ zbh;grind) d_)
   ·refine⟨fun h=>absurd h (by simp;omega),fun _=>?_⟩;repeat (first | refine⟨fun _=>?_,bt_⟩ | refine⟨bf_,fun _=>?_⟩)
    refine⟨CN1,x,c,⟨15,14,0⟩,y2,_,_,⟨e.tick,s.count+1,s.tenants,s.cells,s.proven,s.evac,s.low,s.high⟩,e.cell,rfl,⟨kp_,⟨rfl,rfl,.list rfl,.list rfl⟩⟩,⟨hV,by dsimp only;omega⟩,?_⟩;refine⟨fun h4=>?_,fun h4=>?_⟩
    ·replace h4:zb2 c s e.cell=true:=h4;repeat (first | refine⟨fun _=>?_,bt_⟩ | refine⟨bf_,fun _=>?_⟩)
     refine⟨12,rfl,?_⟩;exact ApS.err (hA.err (by rw[hP];unfold zbL zaA zaQ zbh;grind) d_)
    ·replace h4:zb2 c s e.cell=false:=h4;refine⟨fun h=>absurd h (by simp;omega),fun _=>?_⟩;repeat (first | refine⟨fun _=>?_,bt_⟩ | refine⟨bf_,fun _=>?_⟩)
     refine⟨CN1,x,c,_,_,rfl,kp_,hV,?_⟩;refine⟨fun h6=>?_,fun h6=>?_⟩
     ·repeat (first | refine⟨fun _=>?_,bt_⟩ | refine⟨bf_,fun _=>?_⟩)
      refine⟨11,rfl,?_⟩;exact ApS.err (hA.err (by rw[hP];unfold zbL zaA zaQ zbh;grind) d_)
     ·refine⟨fun h=>absurd h (by simp;omega),fun _=>?_⟩;repeat (first | refine⟨fun _=>?_,bt_⟩ | refine⟨bf_,fun _=>?_⟩)
      have hi:e.tenant.toNat<s.tenants.length:=by omega
      refine⟨tsC { (s.tenants.getD e.tenant.toNat default) with placed:=true },(by first | rfl | (show zbx _ _ (tsC (List.getD _ _ _))=_;rw[za7 hi];rfl)),?_⟩;rw[za6 (by first | exact hi | (rw[List.length_set];exact hi))];try rw[List.set_set]
      refine⟨kp_,?_⟩;refine⟨tsC { (s.tenants.getD e.tenant.toNat default) with placed:=true,home:=e.cell },(by first | rfl | (show zbx _ _ (tsC (List.getD _ _ _))=_;rw[za7 hi];rfl)),?_⟩;rw[za6 (by first | exact hi | (rw[List.length_set];exact hi))];try rw[List.set_set]
      refine⟨kp_,?_⟩;refine⟨tsC { (s.tenants.getD e.tenant.toNat default) with placed:=true,home:=e.cell,standby:=e.other },(by first | rfl | (show zbx _ _ (tsC (List.getD _ _ _))=_;rw[za7 hi];rfl)),?_⟩;rw[za6 (by first | exact hi | (rw[List.length_set];exact hi))];try rw[List.set_set]
      have hk0:zaD c s e=0:=by rw[hP];unfold zbL zaA zaQ zbh;grind
      have heff:zae s e=(⟨e.tick,s.count+1,s.tenants.set e.tenant.toNat { (s.tenants.getD e.tenant.toNat default) with placed:=true,home:=e.cell,standby:=e.other },s.cells,s.proven,s.evac,s.low,s.high⟩:St):=by simp[zae,zai,zaK,zav,zaA,hk]
      refine⟨CN1,x,c,⟨15,14,0⟩,y2,_,_,(⟨e.tick,s.count+1,s.tenants.set e.tenant.toNat { (s.tenants.getD e.tenant.toNat default) with placed:=true,home:=e.cell,standby:=e.other },s.cells,s.proven,s.evac,s.low,s.high⟩:St),rfl,⟨kp_,⟨(by first | rfl | (simp)),rfl,⟨_,_,_,rfl,(by first | exact nl_ | (simp)),fun k hk=>rfl⟩,.list rfl⟩⟩,⟨hV,by simp;omega⟩,?_⟩;intro cap;refine⟨fun hov=>?_,fun hov=>?_⟩
      ·exact ApS.err (hA.over hk0 (by unfold zct;simp[hk]) (by rw[heff];exact zf8 hov))
      ·exact ApS.ok (M:=⟨15,14,0⟩) (y:=y2) (s:=(⟨e.tick,s.count+1,s.tenants.set e.tenant.toNat { (s.tenants.getD e.tenant.toNat default) with placed:=true,home:=e.cell,standby:=e.other },s.cells,s.proven,s.evac,s.low,s.high⟩:St)) (by rw[hA.fine hk0 (fun _=>by rw[heff];exact zhE hov),heff]) (by first | rfl | (simp)) rfl ⟨_,_,_,rfl,rfl,(by first | exact nl_ | (simp)),fun k hk=>rfl⟩ ⟨_,_,_,rfl,rfl,nl_,fun k hk=>rfl⟩
theorem apCut (x:CfgK) (c:Cfg) (y:StK) (s:St) (e:Ent) (hA:ArH c s e) (hk:e.kind=3):sx ttU arF arD (za1 Tryz.f37) (zb3 0 [zaX CN1 x c,stV SN1 y s,entV' e]) (rdM c s noS) 10 (zb8 ttU Tryz.f37.results.toList fun v mem' _=>ApS mem' v (zaZ c s e)):=by
 have hV:=hA.cfg;have hI:=hA.inv;have hE:=hA.ent;have hcn:=hA.cnt;have htk:=hA.tick;have hlt:=hI.lt;have hlc:=hI.lc;have hnt:=hV.nt;have hnc:=hV.nc;have hct:=hI.count;have hst:=hI.tick;have hev:=hI.evac;have hpv:=hI.proven;have htb:=hA.tB;have hP:zaD c s e=cutE s e:=by unfold zaD;simp[hk]
 have hf:=hE;simp[zca,zaN,inS,inR,fT,fC,fO,fE,fW,fN,hk] at hf;refine⟨CN1,x,c,e,rfl,kp_,hV,?_⟩;refine⟨fun h=>absurd h (by rw[hE];decide),fun _=>?_⟩;refine⟨fun h=>absurd (of_decide_eq_true h) o_,fun _=>?_⟩;refine⟨fun h=>absurd (of_decide_eq_true h) o_,fun _=>?_⟩;refine⟨SN1,y,s,rfl,⟨.list rfl,.list rfl⟩,⟨o_,o_⟩,?_⟩;intro y2;refine⟨fun h=>absurd h (by rw[hk];decide),fun _=>?_⟩;refine⟨fun h=>absurd h (by rw[hk];decide),fun _=>?_⟩;refine⟨fun _=>?_,fun h=>absurd h (by rw[hk];decide)⟩;rw[zaf (n:=s.count+1) o_];have hi:e.tenant.toNat<s.tenants.length:=by omega
 refine⟨⟨nl_,o_,o_⟩,?_⟩;refine⟨fun h1=>?_,fun h1=>?_⟩
 ·repeat (first | refine⟨fun _=>?_,bt_⟩ | refine⟨bf_,fun _=>?_⟩)
  refine⟨4,rfl,?_⟩;exact ApS.err (hA.err (by rw[hP];unfold cutE zaA;grind) d_)
 ·refine⟨fun h2=>?_,fun h2=>?_⟩
  ·repeat (first | refine⟨fun _=>?_,bt_⟩ | refine⟨bf_,fun _=>?_⟩)
   refine⟨7,rfl,?_⟩;exact ApS.err (hA.err (by rw[hP];unfold cutE zaA;grind) d_)
  ·refine⟨(s.tenants.getD e.tenant.toNat default).win,e.tick,rfl,o_,?_⟩;refine⟨kp_,?_⟩;refine⟨tsC { (s.tenants.getD e.tenant.toNat default) with win:=cutW (s.tenants.getD e.tenant.toNat default).win e.tick },(by first | rfl | (show zbx _ _ (tsC (List.getD _ _ _))=_;rw[za7 hi];rfl)),?_⟩;rw[za6 (by first | exact hi | (rw[List.length_set];exact hi))];try rw[List.set_set]
   have hk0:zaD c s e=0:=by rw[hP];unfold cutE zaA;grind
   have heff:zae s e=(⟨e.tick,s.count+1,s.tenants.set e.tenant.toNat { (s.tenants.getD e.tenant.toNat default) with win:=cutW (s.tenants.getD e.tenant.toNat default).win e.tick },s.cells,s.proven,s.evac,s.low,s.high⟩:St):=by simp[zae,zai,zaK,zbc,zav,zaR,zaA,zaQ,hk]
   exact ApS.ok (M:=⟨15,14,0⟩) (y:=y2) (s:=(⟨e.tick,s.count+1,s.tenants.set e.tenant.toNat { (s.tenants.getD e.tenant.toNat default) with win:=cutW (s.tenants.getD e.tenant.toNat default).win e.tick },s.cells,s.proven,s.evac,s.low,s.high⟩:St)) (by rw[hA.fine hk0 (fun q=>absurd q (by unfold zct;simp[hk])),heff]) (by first | rfl | (simp)) (by first | rfl | (simp)) ⟨_,_,_,rfl,rfl,(by first | exact nl_ | (simp)),fun k hk=>rfl⟩ ⟨_,_,_,rfl,rfl,(by first | exact nl_ | (simp)),fun k hk=>rfl⟩
theorem apReady (x:CfgK) (c:Cfg) (y:StK) (s:St) (e:Ent) (hA:ArH c s e) (hk:e.kind=5):sx ttU arF arD (za1 Tryz.f37) (zb3 0 [zaX CN1 x c,stV SN1 y s,entV' e]) (rdM c s noS) 10 (zb8 ttU Tryz.f37.results.toList fun v mem' _=>ApS mem' v (zaZ c s e)):=by
 have hV:=hA.cfg;have hI:=hA.inv;have hE:=hA.ent;have hcn:=hA.cnt;have htk:=hA.tick;have hlt:=hI.lt;have hlc:=hI.lc;have hnt:=hV.nt;have hnc:=hV.nc;have hct:=hI.count;have hst:=hI.tick;have hev:=hI.evac;have hpv:=hI.proven;have htb:=hA.tB;have hP:zaD c s e=zcX s e:=by unfold zaD;simp[hk]
 have hf:=hE;simp[zca,zaN,inS,inR,fT,fC,fO,fE,fW,fN,hk] at hf;refine⟨CN1,x,c,e,rfl,kp_,hV,?_⟩;refine⟨fun h=>absurd h (by rw[hE];decide),fun _=>?_⟩;refine⟨fun h=>absurd (of_decide_eq_true h) o_,fun _=>?_⟩;refine⟨fun h=>absurd (of_decide_eq_true h) o_,fun _=>?_⟩;refine⟨SN1,y,s,rfl,⟨.list rfl,.list rfl⟩,⟨o_,o_⟩,?_⟩;intro y2;refine⟨fun h=>absurd h (by rw[hk];decide),fun _=>?_⟩;refine⟨fun h=>absurd h (by rw[hk];decide),fun _=>?_⟩;refine⟨fun h=>absurd h (by rw[hk];decide),fun _=>?_⟩;refine⟨fun h=>absurd h (by rw[hk];decide),fun _=>?_⟩;refine⟨fun _=>?_,fun h=>absurd h (by rw[hk];decide)⟩;rw[zaf (n:=s.count+1) o_];have hi:e.tenant.toNat<s.tenants.length:=by omega
 refine⟨⟨nl_,o_,o_⟩,?_⟩;refine⟨fun h1=>?_,fun h1=>?_⟩
 ·repeat (first | refine⟨fun _=>?_,bt_⟩ | refine⟨bf_,fun _=>?_⟩)
  refine⟨4,rfl,?_⟩;exact ApS.err (hA.err (by rw[hP];unfold zcX zaA zaQ;grind) d_)
 ·refine⟨fun h2=>?_,fun h2=>?_⟩
  ·repeat (first | refine⟨fun _=>?_,bt_⟩ | refine⟨bf_,fun _=>?_⟩)
   refine⟨5,rfl,?_⟩;exact ApS.err (hA.err (by rw[hP];unfold zcX zaA zaQ;grind) d_)
  ·refine⟨⟨nl_,o_,o_⟩,?_⟩;refine⟨fun h3=>?_,fun h3=>?_⟩
   ·repeat (first | refine⟨fun _=>?_,bt_⟩ | refine⟨bf_,fun _=>?_⟩)
    refine⟨6,rfl,?_⟩;exact ApS.err (hA.err (by rw[hP];unfold zcX zaA zaQ;grind) d_)
   ·refine⟨tsC { (s.tenants.getD e.tenant.toNat default) with standby:=e.cell },(by first | rfl | (show zbx _ _ (tsC (List.getD _ _ _))=_;rw[za7 hi];rfl)),?_⟩;rw[za6 (by first | exact hi | (rw[List.length_set];exact hi))];try rw[List.set_set]
    refine⟨tsC { (s.tenants.getD e.tenant.toNat default) with standby:=e.cell,next:=-1 },(by first | rfl | (show zbx _ _ (tsC (List.getD _ _ _))=_;rw[za7 hi];rfl)),?_⟩;rw[za6 (by first | exact hi | (rw[List.length_set];exact hi))];try rw[List.set_set]
    have hk0:zaD c s e=0:=by rw[hP];unfold zcX zaA zaQ;grind
    have heff:zae s e=(⟨e.tick,s.count+1,s.tenants.set e.tenant.toNat { (s.tenants.getD e.tenant.toNat default) with standby:=e.cell,next:=-1 },s.cells,s.proven,s.evac,s.low,s.high⟩:St):=by simp[zae,zai,zaK,zbc,zav,zaR,zaA,zaQ,hk]
    exact ApS.ok (M:=⟨15,14,0⟩) (y:=y2) (s:=(⟨e.tick,s.count+1,s.tenants.set e.tenant.toNat { (s.tenants.getD e.tenant.toNat default) with standby:=e.cell,next:=-1 },s.cells,s.proven,s.evac,s.low,s.high⟩:St)) (by rw[hA.fine hk0 (fun q=>absurd q (by unfold zct;simp[hk])),heff]) (by first | rfl | (simp)) (by first | rfl | (simp)) ⟨_,_,_,rfl,rfl,(by first | exact nl_ | (simp)),fun k hk=>rfl⟩ ⟨_,_,_,rfl,rfl,(by first | exact nl_ | (simp)),fun k hk=>rfl⟩
theorem znN (x:CfgK) (c:Cfg) (y:StK) (s:St) (e:Ent) (hA:ArH c s e) (hk:e.kind=7):sx ttU arF arD (za1 Tryz.f37) (zb3 0 [zaX CN1 x c,stV SN1 y s,entV' e]) (rdM c s noS) 10 (zb8 ttU Tryz.f37.results.toList fun v mem' _=>ApS mem' v (zaZ c s e)):=by
 have hV:=hA.cfg;have hI:=hA.inv;have hE:=hA.ent;have hcn:=hA.cnt;have htk:=hA.tick;have hlt:=hI.lt;have hlc:=hI.lc;have hnt:=hV.nt;have hnc:=hV.nc;have hct:=hI.count;have hst:=hI.tick;have hev:=hI.evac;have hpv:=hI.proven;have htb:=hA.tB;have hP:zaD c s e=zcv s e:=by unfold zaD;simp[hk]
 have hf:=hE;simp[zca,zaN,inS,inR,fT,fC,fO,fE,fW,fN,hk] at hf;refine⟨CN1,x,c,e,rfl,kp_,hV,?_⟩;refine⟨fun h=>absurd h (by rw[hE];decide),fun _=>?_⟩;refine⟨fun h=>absurd (of_decide_eq_true h) o_,fun _=>?_⟩;refine⟨fun h=>absurd (of_decide_eq_true h) o_,fun _=>?_⟩;refine⟨SN1,y,s,rfl,⟨.list rfl,.list rfl⟩,⟨o_,o_⟩,?_⟩;intro y2;refine⟨fun h=>absurd h (by rw[hk];decide),fun _=>?_⟩;refine⟨fun h=>absurd h (by rw[hk];decide),fun _=>?_⟩;refine⟨fun h=>absurd h (by rw[hk];decide),fun _=>?_⟩;refine⟨fun h=>absurd h (by rw[hk];decide),fun _=>?_⟩;refine⟨fun h=>absurd h (by rw[hk];decide),fun _=>?_⟩;refine⟨fun h=>absurd h (by rw[hk];decide),fun _=>?_⟩;refine⟨fun _=>?_,fun h=>absurd h (by rw[hk];decide)⟩;rw[zaf (n:=s.count+1) o_];have hTi:=hI.ten _ (List.mem_of_getElem? (zbD (d:=default) (show e.tenant.toNat<s.tenants.length by omega)));obtain⟨hT1,hT2,hT3,hT4,hT5,hT6,hT7,hT8,hT9,hT10,hT11,hT12⟩:=hTi;have hi:e.tenant.toNat<s.tenants.length:=by omega
 refine⟨⟨nl_,o_,o_⟩,?_⟩;refine⟨Bool,fun b=>[(23,.bool b)],fun _=>[],fun b=>(b=true↔((s.tenants.getD e.tenant.toNat default).placed=false∨(s.tenants.getD e.tenant.toNat default).target<0)),?_,?_⟩
 ·repeat' (first | refine⟨fun _=>?_,bt_⟩ | refine⟨bf_,fun _=>?_⟩ | refine⟨fun _=>?_,fun _=>?_⟩ | refine⟨⟨nl_,o_,o_⟩,?_⟩ | fail)
  all_goals (refine⟨_,?_,kp_,kp_⟩;dsimp only;grind)
 ·rintro b1 hb1;refine⟨⟨d_,rfl,rfl⟩,?_⟩;refine⟨fun h1=>?_,fun h1=>?_⟩
  ·repeat (first | refine⟨fun _=>?_,bt_⟩ | refine⟨bf_,fun _=>?_⟩)
   refine⟨4,rfl,?_⟩;exact ApS.err (hA.err (by rw[hP];unfold zcv zaA;grind) d_)
  ·refine⟨tsC { (s.tenants.getD e.tenant.toNat default) with target:=-1 },(by first | rfl | (show zbx _ _ (tsC (List.getD _ _ _))=_;rw[za7 hi];rfl)),?_⟩;rw[za6 (by first | exact hi | (rw[List.length_set];exact hi))];try rw[List.set_set]
   have hk0:zaD c s e=0:=by rw[hP];unfold zcv zaA;grind
   have heff:zae s e=(⟨e.tick,s.count+1,s.tenants.set e.tenant.toNat { (s.tenants.getD e.tenant.toNat default) with target:=-1 },s.cells,s.proven,s.evac,s.low,s.high⟩:St):=by simp[zae,zai,zaK,zbc,zav,zaR,zaA,zaQ,hk]
   exact ApS.ok (M:=⟨15,14,0⟩) (y:=y2) (s:=(⟨e.tick,s.count+1,s.tenants.set e.tenant.toNat { (s.tenants.getD e.tenant.toNat default) with target:=-1 },s.cells,s.proven,s.evac,s.low,s.high⟩:St)) (by rw[hA.fine hk0 (fun q=>absurd q (by unfold zct;simp[hk])),heff]) (by first | rfl | (simp)) (by first | rfl | (simp)) ⟨_,_,_,rfl,rfl,(by first | exact nl_ | (simp)),fun k hk=>rfl⟩ ⟨_,_,_,rfl,rfl,(by first | exact nl_ | (simp)),fun k hk=>rfl⟩
end Go.Proofs.YtjnndjnpcelafaaGreat
