import Derived.Test.YtjnndjnpcelafaaGreatPt21
namespace Go.Proofs.YtjnndjnpcelafaaGreat
set_option maxHeartbeats 16000000
set_option maxRecDepth 100000
open Go.RowKit
set_option linter.unusedSimpArgs false
set_option linter.unusedVariables false
/-! plane.Entries once more: the slice's capacity is at least its length. -/
theorem ziJ {W:World} {base:Nat} {e:TypeId} {size k n cp:Nat} {A:Option Addr} {xs:List Value} (h:W.ownsRow base e size (.slice A n cp) k xs):k<=cp:=by
 rcases h.2 with⟨-,hz⟩ | ⟨g,cap,cur,hv,-,-,r1,-⟩
 ·omega
 ·obtain⟨-,-,rfl⟩:A=_/\n=_/\cp=cap:=by simpa using hv
  exact r1
def ctOEntC:CT:=fun vs mem nx K=>∃ r cap l,vs=[slc r (l:List Ent).length cap]/\HasRow mem r 9 zbe default l/\l.length<=100/\∀ cap2,l.length<=cap2->K (slc nx l.length cap2) ((nx,zaz (1000000+43) 9 zbe default l)::mem) (nx+1)
theorem oEntCOk:CSound Tryz.prog 141 ctOEntC:=⟨k_,fun {C ρ fr mem nx a w vs K} hc hs hv=>by
 obtain⟨r,cap,l,rfl,hr,hl,hK⟩:=hc;refine (zns (ρ r).A cap l w hl (hs.hasRd (enc:=zbe) (sz:=9) (fun _=>rfl) o_ hr)).mono ?_;rintro e w' ⟨A,cp,rfl,ho,hb⟩;have hcp:=ziJ ho;obtain⟨b,hL⟩:=zcL (enc:=zbe) (sz:=9) (fun _=>rfl) o_ default ho;have q2:zac ρ nx ⟨A,9,l.length,false,za4⟩ nx=⟨A,9,l.length,false,za4⟩:=za2 _ _ _;have q3:=hs.addOwnRow (enc:=zbe) (sz:=9) (d:=default) hb (fun _=>rfl) ckEntPl 43 hL;refine⟨slc nx l.length cp,_,_,zac ρ nx ⟨A,9,l.length,false,za4⟩,?_,hK cp hcp,q3,?_,fun i hi=>za8 _ _ hi,o_⟩
 ·show Ending.returned (.slice A l.length cp)=.returned (.slice (zac ρ nx ⟨A,9,l.length,false,za4⟩ nx).A l.length cp);rw[q2]
 ·exact⟨show nx<nx+1 by omega,by rw[q2]⟩⟩
abbrev qNcF:FT:=[(141,ctOEntC)]
abbrev zmg (_:Unit) (q:QSt) (r:List Ent×Nat) (q':QSt):Prop:=(r.1=q.es/\r.1.length<=r.2)/\q'=q
def ctQCommdC:CT:=zbu (X:=Unit) qI qM 4 4 1 (fun _=>[]) (fun _=>[]) (fun _ q=>q.es≠[]/\q.es.length<=100) zmg (fun _ r=>slc 4 r.1.length r.2) (fun _ r=>[(4,zaz (1000000+43) 9 zbe default r.1)])
theorem zkA (q:QSt) (y:QY) (hq:q.es≠[]/\q.es.length<=100) (hy:qI q y):sx ttP qNcF [] (za1 Tryz.f65) (zb3 0 (.pointer (some ⟨0,0,none⟩)::[])) (qM q y++[]) 4 (zb8 ttP Tryz.f65.results.toList (zch (X:=Unit) qI qM 4 4 zmg (fun _ r=>slc 4 r.1.length r.2) (fun _ r=>[(4,zaz (1000000+43) 9 zbe default r.1)]) () q)):=by
 obtain⟨S,r,cap0,tl,cap,el⟩:=y;obtain⟨n,ph,led,es⟩:=q;obtain⟨hq,hq2⟩:=hq;obtain⟨⟨hn,hle,hled⟩,h1,htl,hcom⟩:=hy;dsimp only at hn hle hled hcom hq hq2;obtain⟨hc1,hc2⟩:=hcom hq;cases es with
 | nil=>exact absurd rfl hq
 | cons e0 es0=>
  refine⟨3,cap,e0::es0,rfl,⟨_,_,_,rfl,hc1,hc2⟩,hq2,fun cap2 hcap2=>?_⟩;exact⟨(e0::es0,cap2),⟨n,ph,led,e0::es0⟩,.one S r cap0 tl cap el,[],⟨⟨rfl,hcap2⟩,rfl⟩,⟨⟨hn,hle,hled⟩,h1,htl,hcom⟩,⟨rfl,rfl,rfl⟩,rfl,⟨rfl,zb0 [] htl,rfl,rfl,rfl,trivial⟩⟩
theorem zml:CSound Tryz.prog 65 ctQCommdC:=zbb zaT (D:=[]) (za0 (oEntCOk.i _) za3) mixed k_ Tryz.func65 rfl k_ ⟨d_,d_⟩ (fun _=>rfl) qB (fun _=>rfl) (fun _ _=>rfl) (fun _ q y hq hy=>zkA q y hq hy)
abbrev pGF:FT:=[(65,ctQCommdC)]
abbrev pGpost (_:Unit) (p:PSt) (r:List Ent×Nat) (p':PSt):Prop:=(r.1=p.q.es/\r.1.length<=r.2)/\p'=p
def ctPEntsC:CT:=zbu (X:=Unit) pI pM 10 10 1 (fun _=>[]) (fun _=>[]) (fun _ p=>p.q.es≠[]/\p.q.es.length<=100) pGpost (fun _ r=>slc 10 r.1.length r.2) (fun _ r=>[(10,zaz (1000000+43) 9 zbe default r.1)])
theorem zmt (p:PSt) (y:PY) (hp:p.q.es≠[]/\p.q.es.length<=100) (hy:pI p y):sx ttP pGF [] (za1 Tryz.f28) (zb3 0 (.pointer (some ⟨0,0,none⟩)::[])) (pM p y++[]) 10 (zb8 ttP Tryz.f28.results.toList (zch (X:=Unit) pI pM 10 10 pGpost (fun _ r=>slc 10 r.1.length r.2) (fun _ r=>[(10,zaz (1000000+43) 9 zbe default r.1)]) () p)):=by
 obtain⟨c,q,s⟩:=p;obtain⟨S,x,st⟩:=y;refine⟨(),q,1,S,[],hp,rfl,rfl,trivial,rfl,fun r q2 S2 hq2=>?_⟩;obtain⟨hr,rfl⟩:=hq2;exact⟨r,⟨c,q2,s⟩,⟨S2,x,st⟩,[],⟨hr,rfl⟩,hy,⟨rfl,rfl,rfl⟩,rfl,kp_⟩
theorem pEntsCOk:CSound Tryz.prog 28 ctPEntsC:=zbb zaT (D:=[]) (za0 (zml.i _) za3) mixed k_ Tryz.func28 rfl k_ ⟨d_,d_⟩ (fun _=>rfl) pB (fun _=>rfl) (fun _ _=>rfl) (fun _ p y hp hy=>zmt p y hp hy)
end Go.Proofs.YtjnndjnpcelafaaGreat
