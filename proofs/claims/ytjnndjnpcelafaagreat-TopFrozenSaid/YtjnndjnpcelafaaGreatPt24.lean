import Derived.Test.YtjnndjnpcelafaaGreatPt23
namespace Go.Proofs.YtjnndjnpcelafaaGreat
set_option maxHeartbeats 16000000
set_option maxRecDepth 100000
open Go.RowKit
set_option linter.unusedSimpArgs false
set_option linter.unusedVariables false
/-! state.Fold of rows of any kind;the platform of two regions,its two entries. -/
def ctFoldH:CT:=fun vs mem nx K=>∃ N x c r cap es,vs=[zaX N x c,slc r (es:List Ent).length cap]/\HasCfg mem N c/\HasRow mem r 9 zbe default es/\CfgV c/\es.length<=1000000/\∀ y,K (.tuple #[stV ⟨nx+1,nx,500000⟩ y (foldC c es).1,.int .i64 (foldC c es).2.1,.int .i64 (foldC c es).2.2]) (stM ⟨nx+1,nx,500000⟩ (foldC c es).1++mem) (nx+2)
theorem foldHOk:CSound Tryz.prog 133 ctFoldH:=⟨k_,fun {C ρ fr mem nx a w vs K} hc hs hv=>by
 obtain⟨N,x,c,r,cap,es,rfl,hk,hr,hV,hl,hK⟩:=hc;have e0:([zaX N x c,slc r es.length cap].map (den ρ)).toArray=#[.agg (zaH (zdp ρ N x) c),.slice (ρ r).A es.length cap]:=by
  rw[List.map_cons,zaP];rfl
 rw[e0];refine (zho (zdp ρ N x) c (ρ r).A cap es w hV hl (hs.cfgH hk) (hs.hasRd (enc:=zbe) (sz:=9) (fun _=>rfl) o_ hr)).mono ?_;rintro e w' ⟨y,rfl,hst,hb⟩;obtain⟨q1,q2,q3,q4⟩:=hs.addSt hb hst;refine⟨.tuple #[stV ⟨nx+1,nx,500000⟩ ⟨y.ct,y.cc⟩ (foldC c es).1,.int .i64 (foldC c es).2.1,.int .i64 (foldC c es).2.2],_,_,_,?_,hK ⟨y.ct,y.cc⟩,q1,?_,q4⟩
 ·rw[← q2];simp[den,zaW,zal]
 ·intro u hu;simp at hu;rcases hu with rfl | rfl | rfl
  ·exact q3
  ·trivial
  ·trivial⟩
def c2:Cfg:=⟨2,[0,1],[(0,9),(1,9)],[⟨5,2,0,0,3,0,false⟩],[(0,0)],[0],[0],1,20,0⟩
def en1:Ent:=⟨1,0,0,0,1,0,0,0,0⟩
def en2:Ent:=⟨2,0,0,0,-1,1,0,20,0⟩
def s1:St:=zae (zaB c2) en1
def s2:St:=zae s1 en2
theorem c2err:zdn c2=0:=by decide
theorem c2P:CfgP c2:=⟨c2err,by constructor<;>decide,rfl,d_⟩
theorem c2V:CfgV c2:=zg3 c2err
theorem ap1:(zao c2 (zaB c2) en1).2=0:=by decide
theorem ap2:(zao c2 s1 en2).2=0:=by decide
theorem en1ok:zaN 32 16 4 30 en1=true/\EntIn en1:=⟨d_,by constructor<;>(constructor<;>decide)⟩
theorem en2ok:zaN 32 16 4 30 en2=true/\EntIn en2:=⟨d_,by constructor<;>(constructor<;>decide)⟩
theorem fold2:(foldC c2 [en1,en2]).2=(2,0):=by decide
end Go.Proofs.YtjnndjnpcelafaaGreat
