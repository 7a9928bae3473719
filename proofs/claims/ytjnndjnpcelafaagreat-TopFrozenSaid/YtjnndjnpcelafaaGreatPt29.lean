import Derived.Test.YtjnndjnpcelafaaGreatPt28
namespace Go.Proofs.YtjnndjnpcelafaaGreat
set_option maxHeartbeats 16000000
set_option maxRecDepth 100000
open Go.RowKit
set_option linter.unusedSimpArgs false
set_option linter.unusedVariables false
/-! cell.Execute of the first put at a copy that has its window. -/
structure EX where
 S:List Nat
 cap:Nat
 el:Nat->List Value
abbrev exR (x:EX):AM:=[(1,.ext (.obj x.S stE)),(2,.box 192 [zs0,zs0,zi]),(3,.box 262 (seT 0)),(4,.box 176 [zi,zi,.slice (some ⟨5,0,none⟩) 1 x.cap]),(5,.row 1000053 5 x.cap (zl2 [zi,.int .i64 1,zi,zi,.int .i64 20] x.el))]
abbrev zfi (i:Nat):Value:=.pointer (some ⟨i,0,none⟩)
abbrev exM (x:EX):AM:=(0,.box 130 [zi,zi,zs0,zfi 1,zfi 2,zfi 3,zfi 4])::exR x
abbrev exM1 (x y:EX):AM:=(0,.box 130 [zi,zi,.slice (some ⟨9,0,none⟩) 1 y.cap,zfi 6,zfi 7,zfi 8,zfi 4])::(exR x++[(6,.ext (.obj y.S stN)),(7,.box 192 [zs0,zs0,zi]),(8,.box 262 (seT 1)),(9,.row 1000182 8 y.cap y.el)])
abbrev exA:List Value:=[zfi 0,zi,.int .i64 3,.agg #[zi,.int .i64 1,.int .i64 1,.int .i64 2,zi,.string ⟨#[97]⟩,.string ⟨#[98]⟩]]
abbrev exV:Value:=.agg #[zi,.int .i64 1,zi,zS]
def ctExec:CT:=znc (X:=EX) (Y:=EX) (fun _=>exA) exM 6 (fun x=>1<=x.cap) (fun _ _=>True) (fun _ _=>exV) exM1 4
theorem exec_sx (x:EX) (hx:1<=x.cap):sx ttW wExecF wExecD (za1 Tryz.f26) (zb3 0 exA) (exM x) 6 (zb8 ttW Tryz.f26.results.toList (objR (Y:=EX) 6 (fun _=>True) (fun _=>exV) (exM1 x))):=by
 obtain⟨S,cap,el⟩:=x;dsimp only at hx;repeat (first | refine⟨fun _=>?_,bt_⟩ | refine⟨bf_,fun _=>?_⟩ | refine⟨(show _/\_/\_ from ⟨na_,nb_,nb_⟩),?_⟩ | refine⟨fun q=>absurd q nc_,fun _=>?_⟩ | refine⟨fun _=>?_,fun q=>absurd q s_⟩ | refine⟨fun q=>absurd q s_,fun _=>?_⟩ | refine⟨(show _/\_/\_ from ⟨d_,d_,d_⟩),?_⟩ | refine⟨d_,?_⟩ | refine⟨(show _/\_ from ⟨d_,d_⟩),?_⟩)
 refine⟨kp_,?_⟩;repeat (first | refine⟨fun _=>?_,bt_⟩ | refine⟨bf_,fun _=>?_⟩ | refine⟨(show _/\_/\_ from ⟨na_,nb_,nb_⟩),?_⟩ | refine⟨fun q=>absurd q nc_,fun _=>?_⟩ | refine⟨fun _=>?_,fun q=>absurd q s_⟩ | refine⟨fun q=>absurd q s_,fun _=>?_⟩ | refine⟨(show _/\_/\_ from ⟨d_,d_,d_⟩),?_⟩ | refine⟨d_,?_⟩ | refine⟨(show _/\_ from ⟨d_,d_⟩),?_⟩)
 refine⟨false,[(0,3)],trivial,rfl,kp_,rfl,rfl,fun _ _=>?_⟩;refine⟨kp_,?_⟩;repeat (first | refine⟨fun _=>?_,bt_⟩ | refine⟨bf_,fun _=>?_⟩ | refine⟨(show _/\_/\_ from ⟨na_,nb_,nb_⟩),?_⟩ | refine⟨fun q=>absurd q nc_,fun _=>?_⟩ | refine⟨fun _=>?_,fun q=>absurd q s_⟩ | refine⟨fun q=>absurd q s_,fun _=>?_⟩ | refine⟨(show _/\_/\_ from ⟨d_,d_,d_⟩),?_⟩ | refine⟨d_,?_⟩ | refine⟨(show _/\_ from ⟨d_,d_⟩),?_⟩)
 refine⟨kp_,?_⟩;repeat (first | refine⟨fun _=>?_,bt_⟩ | refine⟨bf_,fun _=>?_⟩ | refine⟨(show _/\_/\_ from ⟨na_,nb_,nb_⟩),?_⟩ | refine⟨fun q=>absurd q nc_,fun _=>?_⟩ | refine⟨fun _=>?_,fun q=>absurd q s_⟩ | refine⟨fun q=>absurd q s_,fun _=>?_⟩ | refine⟨(show _/\_/\_ from ⟨d_,d_,d_⟩),?_⟩ | refine⟨d_,?_⟩ | refine⟨(show _/\_ from ⟨d_,d_⟩),?_⟩)
 refine⟨⟨#[97]⟩,1,_,rfl,rfl,?_⟩;refine⟨kp_,?_⟩;repeat (first | refine⟨fun _=>?_,bt_⟩ | refine⟨bf_,fun _=>?_⟩ | refine⟨(show _/\_/\_ from ⟨na_,nb_,nb_⟩),?_⟩ | refine⟨fun q=>absurd q nc_,fun _=>?_⟩ | refine⟨fun _=>?_,fun q=>absurd q s_⟩ | refine⟨fun q=>absurd q s_,fun _=>?_⟩ | refine⟨(show _/\_/\_ from ⟨d_,d_,d_⟩),?_⟩ | refine⟨d_,?_⟩ | refine⟨(show _/\_ from ⟨d_,d_⟩),?_⟩)
 refine⟨(),1,_,rfl,rfl,?_⟩;repeat (first | refine⟨fun _=>?_,bt_⟩ | refine⟨bf_,fun _=>?_⟩ | refine⟨(show _/\_/\_ from ⟨na_,nb_,nb_⟩),?_⟩ | refine⟨fun q=>absurd q nc_,fun _=>?_⟩ | refine⟨fun _=>?_,fun q=>absurd q s_⟩ | refine⟨fun q=>absurd q s_,fun _=>?_⟩ | refine⟨(show _/\_/\_ from ⟨d_,d_,d_⟩),?_⟩ | refine⟨d_,?_⟩ | refine⟨(show _/\_ from ⟨d_,d_⟩),?_⟩)
 repeat (first | refine⟨fun _=>?_,bt_⟩ | refine⟨bf_,fun _=>?_⟩ | refine⟨(show _/\_/\_ from ⟨na_,nb_,nb_⟩),?_⟩ | refine⟨fun q=>absurd q nc_,fun _=>?_⟩ | refine⟨fun _=>?_,fun q=>absurd q s_⟩ | refine⟨fun q=>absurd q s_,fun _=>?_⟩ | refine⟨(show _/\_/\_ from ⟨d_,d_,d_⟩),?_⟩ | refine⟨d_,?_⟩ | refine⟨(show _/\_ from ⟨d_,d_⟩),?_⟩ | refine⟨(show keeps _ _ from kp_),?_⟩)
 refine⟨1,_,rfl,rfl,fun S2=>?_⟩;repeat (first | refine⟨fun _=>?_,bt_⟩ | refine⟨bf_,fun _=>?_⟩ | refine⟨(show _/\_/\_ from ⟨na_,nb_,nb_⟩),?_⟩ | refine⟨fun q=>absurd q nc_,fun _=>?_⟩ | refine⟨fun _=>?_,fun q=>absurd q s_⟩ | refine⟨fun q=>absurd q s_,fun _=>?_⟩ | refine⟨(show _/\_/\_ from ⟨d_,d_,d_⟩),?_⟩ | refine⟨d_,?_⟩ | refine⟨(show _/\_ from ⟨d_,d_⟩),?_⟩ | refine⟨(show keeps _ _ from kp_),?_⟩)
 refine⟨rfl,?_⟩;repeat (first | refine⟨fun _=>?_,bt_⟩ | refine⟨bf_,fun _=>?_⟩ | refine⟨(show _/\_/\_ from ⟨na_,nb_,nb_⟩),?_⟩ | refine⟨fun q=>absurd q nc_,fun _=>?_⟩ | refine⟨fun _=>?_,fun q=>absurd q s_⟩ | refine⟨fun q=>absurd q s_,fun _=>?_⟩ | refine⟨(show _/\_/\_ from ⟨d_,d_,d_⟩),?_⟩ | refine⟨d_,?_⟩ | refine⟨(show _/\_ from ⟨d_,d_⟩),?_⟩ | refine⟨(show keeps _ _ from kp_),?_⟩)
 refine⟨rfl,?_⟩;repeat (first | refine⟨fun _=>?_,bt_⟩ | refine⟨bf_,fun _=>?_⟩ | refine⟨(show _/\_/\_ from ⟨na_,nb_,nb_⟩),?_⟩ | refine⟨fun q=>absurd q nc_,fun _=>?_⟩ | refine⟨fun _=>?_,fun q=>absurd q s_⟩ | refine⟨fun q=>absurd q s_,fun _=>?_⟩ | refine⟨(show _/\_/\_ from ⟨d_,d_,d_⟩),?_⟩ | refine⟨d_,?_⟩ | refine⟨(show _/\_ from ⟨d_,d_⟩),?_⟩ | refine⟨(show keeps _ _ from kp_),?_⟩)
 refine⟨(),_,_,trivial,rfl,rfl,fun S3=>?_⟩;repeat (first | refine⟨fun _=>?_,bt_⟩ | refine⟨bf_,fun _=>?_⟩ | refine⟨(show _/\_/\_ from ⟨na_,nb_,nb_⟩),?_⟩ | refine⟨fun q=>absurd q nc_,fun _=>?_⟩ | refine⟨fun _=>?_,fun q=>absurd q s_⟩ | refine⟨fun q=>absurd q s_,fun _=>?_⟩ | refine⟨(show _/\_/\_ from ⟨d_,d_,d_⟩),?_⟩ | refine⟨d_,?_⟩ | refine⟨(show _/\_ from ⟨d_,d_⟩),?_⟩ | refine⟨(show keeps _ _ from kp_),?_⟩)
 intro cap5 el5 g1 g2;clear g2;repeat (first | refine⟨fun _=>?_,bt_⟩ | refine⟨bf_,fun _=>?_⟩ | refine⟨(show _/\_/\_ from ⟨na_,nb_,nb_⟩),?_⟩ | refine⟨fun q=>absurd q nc_,fun _=>?_⟩ | refine⟨fun _=>?_,fun q=>absurd q s_⟩ | refine⟨fun q=>absurd q s_,fun _=>?_⟩ | refine⟨(show _/\_/\_ from ⟨d_,d_,d_⟩),?_⟩ | refine⟨d_,?_⟩ | refine⟨(show _/\_ from ⟨d_,d_⟩),?_⟩ | refine⟨(show keeps _ _ from kp_),?_⟩)
 refine⟨true,[(0,20)],trivial,rfl,kp_,rfl,rfl,fun _ _=>?_⟩;repeat (first | refine⟨fun _=>?_,bt_⟩ | refine⟨bf_,fun _=>?_⟩ | refine⟨(show keeps _ _ from kp_),?_⟩)
 exact⟨⟨S3,cap5,el5⟩,[(6,18),(7,19),(8,20),(9,29)],trivial,rfl,rfl,rfl,kp_⟩
theorem execOk:CSound Tryz.prog 26 ctExec:=zfp zbg (D:=wExecD) (za0 (zlF d_) (za0 (wAccOk d_) (za0 (zjt d_) (za0 (wWriteOk d_) za3)))) mixed k_ Tryz.func26 rfl k_ (fun _=>rfl) (fun _=>rfl) (fun _ _=>rfl) (fun x hx=>exec_sx x hx)
end Go.Proofs.YtjnndjnpcelafaaGreat
