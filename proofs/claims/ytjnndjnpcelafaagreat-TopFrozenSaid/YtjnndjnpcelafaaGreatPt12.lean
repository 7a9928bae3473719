import Derived.Test.YtjnndjnpcelafaaGreatPt10
namespace Go.Proofs.YtjnndjnpcelafaaGreat
set_option maxHeartbeats 16000000
set_option maxRecDepth 100000
open Go.RowKit
set_option linter.unusedSimpArgs false
set_option linter.unusedVariables false
/-! entry.formOf by the abstract machine. -/
def ttE:TT:=[(219,zbE [zi,zi,zi,zi] [0,1,2,3] [1,1,1,1] [1,1,1,1]),(278,zbE [zi,zi] [0,1] [1,1] [1,1]),
 (280,zbE [zi,zi,zi,zi,zi,zi,zi,zi,zi,zi,zi,zi] [0,2,4,6,8,10] [2,2,2,2,2,2] [2,2,2,2,2,2])]++tt
theorem ttEok:zcl Tryz.prog ttE:=by
 refine zgl _ _ ?_;unfold ttE tt;repeat (refine zeS ⟨k_,k_,zgr (by rfl),k_,k_,k_⟩ ?_)
 exact zgk
def zj4 (nt nc nr nv k:Int):Array Value:=if inR k 1 16=true then
  #[.int .i64 (fT nt k).1,.int .i64 (fT nt k).2,.int .i64 (fC nc k).1,.int .i64 (fC nc k).2,.int .i64 (fO nc nr k).1,.int .i64 (fO nc nr k).2,.int .i64 (fE k).1,.int .i64 (fE k).2,.int .i64 (fW k).1,.int .i64 (fW k).2,.int .i64 (fN nv k).1,.int .i64 (fN nv k).2]
 else #[.int .i64 0,.int .i64 0,.int .i64 0,.int .i64 0,.int .i64 0,.int .i64 0,.int .i64 0,.int .i64 0,.int .i64 0,.int .i64 0,.int .i64 0,.int .i64 0]
theorem zfy {τ:TT} (hτ:zcl Tryz.prog τ) {f:FuncId} {fn:Func} {F:FT} {D:List (Nat×DQ)} (hF:FTok Tryz.prog F) (hf:(Tryz.prog).funcs[f]?=some fn) (hb:fn.body=some (za1 fn)) (hcode:zc6 fn.ntmps D (za1 fn)=true) {vs:List Value} (hn:Nat.ble vs.length fn.ntmps=true) (w:World) (hv:∀ v ∈ vs,zbJ v) {R:Value->Prop} (h:sx τ F D (za1 fn) (zb3 0 vs) [] 0 (zb8 τ fn.results.toList fun v _ _=>R v)) :
  Calls Tryz.prog f vs.toArray w fun e w'=>∃ v,R v/\(∃ ρ,e=.returned (den ρ v))/\Below w.heap.size w w':=by
 have hm:MemAt { w0:=w,bor:=[],n0:=0,ρ0:=fun _=>⟨none,0,0,false,za4⟩,nt:=fn.ntmps } (fun _=>⟨none,0,0,false,za4⟩) [] 0 w:=MemAt.rows trivial trivial;have e0:vs.map (den fun _=>⟨none,0,0,false,za4⟩)=vs:=by
  conv=>rhs;rw[← List.map_id vs]
  exact List.map_congr_left fun v hv'=>(zag (hv v hv') _ 0).1
 have:=zcu hτ hF mixed hf hb hcode (vs:=vs) hn ⟨rfl,rfl⟩ rfl hm (fun v hv'=>(zag (hv v hv') _ 0).2) h;rw[e0] at this;refine this.mono ?_;rintro e w' ⟨v,mem',nx',ρ',rfl,hR,-,hm'⟩;exact⟨v,hR,⟨ρ',rfl⟩,⟨hm'.rest.os,hm'.rest.tape,hm'.rest.output,hm'.rest.size,fun b hlt=>hm'.rest.block b hlt (by simp)⟩⟩
theorem zi2 (n:Int) (w:World) (h0:0<=n) (h1:n<=1000) :
  Calls Tryz.prog 269 #[.int .i64 n] w fun e w'=>e=.returned (.agg #[.int .i64 0,.int .i64 (n-1)])/\Below w.heap.size w w':=by
 refine (zfy (τ:=ttE) ttEok zb7 Tryz.func269 rfl (D:=[]) k_ (vs:=[.int .i64 n]) rfl w (fun v hv=>by simp at hv;subst hv;trivial) (R:=fun v=>v=.agg #[.int .i64 0,.int .i64 (n-1)]) ?_).mono ?_
 ·show Value.agg #[.int .i64 0,.int .i64 (IntKind.i64.wrap (n-1))]=_;rw[zaf o_]
 ·rintro e w' ⟨v,rfl,⟨ρ,rfl⟩,hb⟩;exact⟨by simp[den,zaW,zal],hb⟩
theorem zl1 (lo hi n:Int) (w:World) :
  Calls Tryz.prog 214 #[.agg #[.int .i64 lo,.int .i64 hi],.int .i64 n] w fun e w'=>e=.returned (.bool (inR n lo hi))/\Below w.heap.size w w':=by
 refine (zfy (τ:=ttE) ttEok zb7 Tryz.func214 rfl (D:=[]) k_ (vs:=[.agg #[.int .i64 lo,.int .i64 hi],.int .i64 n]) rfl w (fun v hv=>by
  simp at hv
  rcases hv with rfl | rfl
  ·intro u hu
   simp at hu
   rcases hu with rfl | rfl<;>trivial
  ·trivial) (R:=fun v=>v=.bool (inR n lo hi)) ?_).mono ?_
 ·refine⟨fun h=>?_,fun h=>?_⟩
  ·show Value.bool (decide (n<=hi))=_;unfold inR;rw[h];rfl
  ·show Value.bool false=_;unfold inR;rw[h];rfl
 ·rintro e w' ⟨v,rfl,⟨ρ,rfl⟩,hb⟩;exact⟨rfl,hb⟩
def ctBelow:CT:=fun vs mem nx K=>∃ n,vs=[.int .i64 n]/\(True)/\(0<=n/\n<=1000)/\K (.agg #[.int .i64 0,.int .i64 (n-1)]) mem nx
theorem belowOk:CSound Tryz.prog 269 ctBelow:=(zfM (R:=fun l z=>∃ n,l=[.vl (.int .i64 n)]/\z=.agg #[.int .i64 0,.int .i64 (n-1)]) (pre:=fun l=>∃ n,l=[.vl (.int .i64 n)]/\(0<=n/\n<=1000)) k_ (by
 rintro ps w ⟨n,hps,hpre⟩ hok;obtain⟨ps0,rfl,hps0⟩:=zif hps;obtain rfl:=zdE hps0;refine (zi2 n w hpre.1 hpre.2).mono ?_;rintro e w' ⟨rfl,hb⟩
 exact⟨_,⟨n,rfl,rfl⟩,(fun u hu=>by simp at hu;rcases hu with rfl | rfl<;>trivial),rfl,hb⟩)).mono (by
 rintro vs mem nx K ⟨n,rfl,hk,hpre,hK⟩
 exact⟨[.vl _],rfl,⟨trivial,trivial⟩,⟨_,rfl,hpre⟩,by rintro z ⟨n',hl,hz⟩;cases hl;subst hz;exact hK⟩)
def foF0:FT:=[(269,ctBelow)]
theorem foF0ok:FTok Tryz.prog foF0:=zan belowOk zb7
def foD0:List (Nat×DQ):=[
 (2,{ k:=16,L:=[0],A:=[10,11,12],pre:=[(0,false),(1,false),(3,false),(4,false),(6,false),(7,false),(8,false),(9,false),(2,true),(5,true)],post:=[(13,true),(14,true),(15,true)] }),
 (9,{ k:=9,L:=[3,4,5],pre:=[(0,false),(1,false),(2,false),(3,false),(4,true),(5,false),(6,true),(7,false),(8,true)] }),
 (11,{ k:=15,L:=[3,4,8,9,6],pre:=[(0,false),(1,false),(2,false),(3,false),(4,false),(5,false),(6,true),(7,false),(8,true),(9,false),(10,true),(11,false),(12,true),(13,false),(14,true)] }),
 (13,{ k:=6,L:=[3,8],pre:=[(0,false),(1,false),(2,false),(3,true),(4,false),(5,true)] }),
 (15,{ k:=6,L:=[3,5],pre:=[(0,false),(1,false),(2,false),(3,true),(4,false),(5,true)] }),
 (18,{ k:=6,L:=[3,4],pre:=[(0,false),(1,false),(2,false),(3,true),(4,false),(5,true)] }),
 (22,{ k:=6,L:=[3,7],pre:=[(0,false),(1,false),(2,false),(3,true),(4,false),(5,true)] }),
 (27,{ k:=6,L:=[4,6],pre:=[(0,false),(1,false),(2,false),(3,true),(4,false),(5,true)] }),
 (31,{ k:=8,L:=[0,7],pre:=[(0,false),(1,false),(3,false),(2,true),(4,false),(5,true),(6,false),(7,true)] })]
theorem zmV (k nt nc nr nv:Int) (h0:0<=nt/\nt<=100) (h1:0<=nc/\nc<=100) (h2:0<=nr/\nr<=100) (h3:0<=nv/\nv<=100) :
  sx ttE foF0 foD0 (za1 Tryz.f213) (zb3 0 [.int .i64 k,.agg #[.int .i64 nt,.int .i64 nc,.int .i64 nr,.int .i64 nv]]) [] 0 (zb8 ttE Tryz.f213.results.toList fun v _ _=>v=.tuple #[.agg (zj4 nt nc nr nv k),.bool (inR k 1 16)]):=by
 refine⟨nt,rfl,trivial,⟨o_,o_⟩,?_⟩;refine⟨kp_,?_⟩;refine⟨nc,rfl,trivial,⟨o_,o_⟩,?_⟩;refine⟨kp_,?_⟩;refine⟨kp_,?_⟩;refine⟨kp_,?_⟩;refine⟨kp_,?_⟩;rw[zaf (n:=nc-1) o_];refine⟨nv,rfl,trivial,⟨o_,o_⟩,?_⟩;refine⟨fun hk1=>?_,fun nk1=>?_⟩
 ·refine⟨kp_,?_⟩;refine⟨kp_,?_⟩;refine⟨kp_,?_⟩;obtain rfl:k=1:=by simpa using hk1
  exact rfl
 ·refine⟨fun hk2=>?_,fun nk2=>?_⟩
  ·refine⟨kp_,?_⟩;refine⟨kp_,?_⟩;refine⟨kp_,?_⟩;refine⟨kp_,?_⟩;refine⟨kp_,?_⟩;obtain rfl:k=2:=by simpa using hk2
   exact rfl
  ·refine⟨fun hk3=>?_,fun nk3=>?_⟩
   ·refine⟨kp_,?_⟩;refine⟨kp_,?_⟩;obtain rfl:k=3:=by simpa using hk3
    exact rfl
   ·refine⟨fun hk4=>?_,fun nk4=>?_⟩
    ·refine⟨kp_,?_⟩;refine⟨kp_,?_⟩;obtain rfl:k=4:=by simpa using hk4
     exact rfl
    ·refine⟨fun hk5=>?_,fun nk5=>?_⟩
     ·refine⟨fun _=>?_,fun h=>nomatch h⟩;refine⟨kp_,?_⟩;refine⟨kp_,?_⟩;obtain rfl:k=5:=by simpa using hk5
      exact rfl
     ·refine⟨fun hk6=>?_,fun nk6=>?_⟩
      ·refine⟨kp_,?_⟩;refine⟨kp_,?_⟩;obtain rfl:k=6:=by simpa using hk6
       exact rfl
      ·refine⟨fun hk7=>?_,fun nk7=>?_⟩
       ·obtain rfl:k=7:=by simpa using hk7
        exact rfl
       ·refine⟨fun hk8=>?_,fun nk8=>?_⟩
        ·refine⟨kp_,?_⟩;refine⟨kp_,?_⟩;obtain rfl:k=8:=by simpa using hk8
         exact rfl
        ·refine⟨fun hk9=>?_,fun nk9=>?_⟩
         ·obtain rfl:k=9:=by simpa using hk9
          exact rfl
         ·refine⟨fun hk10=>?_,fun nk10=>?_⟩
          ·refine⟨fun _=>?_,fun h=>nomatch h⟩;refine⟨kp_,?_⟩;refine⟨kp_,?_⟩;obtain rfl:k=10:=by simpa using hk10
           exact rfl
          ·refine⟨fun hk11=>?_,fun nk11=>?_⟩
           ·refine⟨kp_,?_⟩;refine⟨kp_,?_⟩;obtain rfl:k=11:=by simpa using hk11
            exact rfl
           ·refine⟨fun hk12=>?_,fun nk12=>?_⟩
            ·obtain rfl:k=12:=by simpa using hk12
             exact rfl
            ·refine⟨fun hk13=>?_,fun nk13=>?_⟩
             ·refine⟨nr,rfl,trivial,⟨o_,o_⟩,?_⟩;refine⟨kp_,?_⟩;refine⟨kp_,?_⟩;refine⟨kp_,?_⟩;obtain rfl:k=13:=by simpa using hk13
              exact rfl
             ·refine⟨fun hk14=>?_,fun nk14=>?_⟩
              ·refine⟨fun _=>?_,fun h=>nomatch h⟩;obtain rfl:k=14:=by simpa using hk14
               exact rfl
              ·refine⟨fun hk15=>?_,fun nk15=>?_⟩
               ·obtain rfl:k=15:=by simpa using hk15
                exact rfl
               ·refine⟨fun hk16=>?_,fun nk16=>?_⟩
                ·obtain rfl:k=16:=by simpa using hk16
                 exact rfl
                ·simp only[beq_eq_false_iff_ne,ne_eq] at nk1 nk2 nk3 nk4 nk5 nk6 nk7 nk8 nk9 nk10 nk11 nk12 nk13 nk14 nk15 nk16;have hno:inR k 1 16=false:=by
                  unfold inR;rw[Bool.and_eq_false_iff,decide_eq_false_iff_not,decide_eq_false_iff_not];omega
                 unfold zj4;rw[if_neg (by rw[hno];decide),hno];exact rfl
theorem zh3 (k nt nc nr nv:Int) (w:World) (h0:0<=nt/\nt<=100) (h1:0<=nc/\nc<=100) (h2:0<=nr/\nr<=100) (h3:0<=nv/\nv<=100) :
  Calls Tryz.prog 213 #[.int .i64 k,.agg #[.int .i64 nt,.int .i64 nc,.int .i64 nr,.int .i64 nv]] w fun e w'=>e=.returned (.tuple #[.agg (zj4 nt nc nr nv k),.bool (inR k 1 16)])/\Below w.heap.size w w':=by
 refine (zfy (τ:=ttE) ttEok foF0ok Tryz.func213 rfl (D:=foD0) k_ (vs:=[.int .i64 k,.agg #[.int .i64 nt,.int .i64 nc,.int .i64 nr,.int .i64 nv]]) rfl w (fun v hv=>by
  simp at hv
  rcases hv with rfl | rfl
  ·trivial
  ·intro u hu
   simp at hu
   rcases hu with rfl | rfl | rfl | rfl<;>trivial) (R:=fun v=>v=.tuple #[.agg (zj4 nt nc nr nv k),.bool (inR k 1 16)]) (zmV k nt nc nr nv h0 h1 h2 h3)).mono ?_
 rintro e w' ⟨v,rfl,⟨ρ,rfl⟩,hb⟩;refine⟨?_,hb⟩;unfold zj4;split<;>simp[den,zaW,zal]
end Go.Proofs.YtjnndjnpcelafaaGreat
