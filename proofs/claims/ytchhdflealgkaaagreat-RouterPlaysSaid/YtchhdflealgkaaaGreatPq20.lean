import Derived.Test.YtchhdflealgkaaaGreatPq19
namespace Go.Proofs.YtchhdflealgkaaaGreat
open Go.RowKit
set_option linter.unusedSimpArgs false
set_option linter.unusedVariables false
/-! The router beside its reference: types,hints,functions by inlining. -/
def ttP:TT:=[(116,tiRec [zi,zs0,zs0,zs0,zs0,zs0,zs0,zi,zi,zi,zi,zb,zi,zi,zs0,.int .u64 0,.int .u64 0,zs0] [0,10,11,12,17] [10,1,1,5,1] [2,1,1,2,1]),(37,{ size:=1,agg:=false,zero:=[.pointer none],isP:=true })]++ttS
theorem ttPok:TTok Tryz.prog ttP:=by
 refine tt_mem _ _ ?_
 unfold ttP ttS ttR ttL ttA tt
 repeat (refine tt_cons ⟨by kernel_rfl,by kernel_rfl,plains (by rfl),by kernel_rfl,by kernel_rfl,by kernel_rfl⟩ ?_)
 exact tt_nil
abbrev HF:=Nat→Int×Int
def hmOf (nt:Nat) (hf:HF):Int→Option (Int×Int):=fun z=>if 0≤z∧z<nt then (if (hf z.toNat).2=0 then none else some (hf z.toNat)) else none
def dlF (rs:List (Int×Int)) (hf:HF) (n:Nat):HF:=fun k=>if k<n∧(hf k).2≤(rs.getD k (0,0)).2 then (0,0) else hf k
def stF (hf:HF) (t:Nat) (p:Int×Int):HF:=fun k=>if k=t then p else hf k
theorem hmOf_in {nt:Nat} {hf:HF} {z:Int} (h:0≤z∧z<nt) (he:(hf z.toNat).2≠0):hmOf nt hf z=some (hf z.toNat):=by
 unfold hmOf
 rw[if_pos h,if_neg he]
theorem hmOf_no {nt:Nat} {hf:HF} {z:Int} (h:0≤z∧z<nt) (he:(hf z.toNat).2=0):hmOf nt hf z=none:=by
 unfold hmOf
 rw[if_pos h,if_pos he]
theorem hmOf_out {nt:Nat} {hf:HF} {z:Int} (h:¬ (0≤z∧z<nt)):hmOf nt hf z=none:=by
 unfold hmOf
 rw[if_neg h]
theorem hmOf_key {nt:Nat} {hf:HF} {z:Int} {p:Int×Int} (h:hmOf nt hf z=some p):0≤z∧z<nt:=by
 by_cases q:0≤z∧z<nt
 ·exact q
 ·rw[hmOf_out q] at h;cases h
theorem hmOf_new (nt:Nat):hmOf nt (fun _=>(0,0))=fun _=>none:=by
 funext z
 by_cases q:0≤z∧z<nt
 ·rw[hmOf_no q rfl]
 ·rw[hmOf_out q]
theorem hmOf_del {nt:Nat} {hf:HF} {rs:List (Int×Int)} (h:∀ k,k<nt→0≤(rs.getD k (0,0)).2):delH (hmOf nt hf) rs=hmOf nt (dlF rs hf nt):=by
 funext z
 by_cases q:0≤z∧z<nt
 ·have hk:z.toNat<nt:=by omega
  have h0:=h z.toNat hk
  by_cases e:(hf z.toNat).2=0
  ·rw[hmOf_no q (by unfold dlF;rw[if_pos ⟨hk,by omega⟩])]
   unfold delH
   rw[hmOf_no q e]
  ·by_cases g:(hf z.toNat).2≤(rs.getD z.toNat (0,0)).2
   ·rw[hmOf_no q (by unfold dlF;rw[if_pos ⟨hk,g⟩])]
    unfold delH
    rw[hmOf_in q e]
    dsimp only
    rw[if_pos g]
   ·have e2:dlF rs hf nt z.toNat=hf z.toNat:=by unfold dlF;rw[if_neg (fun q=>g q.2)]
    rw[hmOf_in q (by rw[e2];exact e),e2]
    unfold delH
    rw[hmOf_in q e]
    dsimp only
    rw[if_neg g]
 ·rw[hmOf_out q]
  unfold delH
  rw[hmOf_out q]
theorem hmOf_set {nt:Nat} {hf:HF} {t:Int} {p:Int×Int} (ht:0≤t∧t<nt) (hp:p.2≠0):putH (hmOf nt hf) t p=hmOf nt (stF hf t.toNat p):=by
 funext z
 unfold putH
 by_cases e:z=t
 ·subst e
  have e2:stF hf z.toNat p z.toNat=p:=by unfold stF;rw[if_pos rfl]
  rw[if_pos rfl,hmOf_in ht (by rw[e2];exact hp),e2]
 ·rw[if_neg e]
  by_cases q:0≤z∧z<nt
  ·have e2:stF hf t.toNat p z.toNat=hf z.toNat:=by unfold stF;rw[if_neg (by omega)]
   unfold hmOf
   rw[e2]
  ·rw[hmOf_out q,hmOf_out q]
theorem dlF_zero (rs:List (Int×Int)) (hf:HF):dlF rs hf 0=hf:=by
 funext k
 unfold dlF
 rw[if_neg (by omega)]
theorem dlF_yes {rs:List (Int×Int)} {hf:HF} {n:Nat} (h:(hf n).2≤(rs.getD n (0,0)).2):stF (dlF rs hf n) n (0,0)=dlF rs hf (n+1):=by
 funext k
 unfold stF dlF
 by_cases e:k=n
 ·subst e;rw[if_pos rfl,if_pos ⟨by omega,h⟩]
 ·rw[if_neg e]
  by_cases g:k<n∧(hf k).2≤(rs.getD k (0,0)).2
  ·rw[if_pos g,if_pos ⟨by omega,g.2⟩]
  ·rw[if_neg g,if_neg (fun q=>g ⟨by omega,q.2⟩)]
theorem dlF_no {rs:List (Int×Int)} {hf:HF} {n:Nat} (h:¬ (hf n).2≤(rs.getD n (0,0)).2):dlF rs hf n=dlF rs hf (n+1):=by
 funext k
 unfold dlF
 by_cases e:k=n
 ·subst e;rw[if_neg (by omega),if_neg (fun q=>h q.2)]
 ·by_cases g:k<n∧(hf k).2≤(rs.getD k (0,0)).2
  ·rw[if_pos g,if_pos ⟨by omega,g.2⟩]
  ·rw[if_neg g,if_neg (fun q=>g ⟨by omega,q.2⟩)]
theorem dlF_at (rs:List (Int×Int)) (hf:HF) (n:Nat):dlF rs hf n n=hf n:=by
 unfold dlF
 rw[if_neg (by omega)]
theorem setEl_hf (hf:HF) (t:Nat) (p:Int×Int):setEl (fun k=>pairC (hf k)) t (pairC p)=fun k=>pairC (stF hf t p k):=by
 funext j
 unfold setEl stF
 by_cases h:j=t
 ·subst h;simp
 ·rw[if_neg h,show Nat.beq j t=false from Bool.eq_false_iff.2 fun q=>h (Nat.eq_of_beq_eq_true q)]
def HfOk (nt:Nat) (hf:HF):Prop:=∀ k,k<nt→0≤(hf k).2
theorem HfOk.del {nt:Nat} {hf:HF} (h:HfOk nt hf) (rs:List (Int×Int)) (n:Nat):HfOk nt (dlF rs hf n):=fun k hk=>by
 unfold dlF
 split
 ·exact Int.le_refl _
 ·exact h k hk
theorem HfOk.set {nt:Nat} {hf:HF} (h:HfOk nt hf) {t:Nat} {p:Int×Int} (hp:0≤p.2):HfOk nt (stF hf t p):=fun k hk=>by
 unfold stF
 split
 ·exact hp
 ·exact h k hk
theorem vx_row_at {τ:TT} {fr:AF} {mem:AM} {t:TypeId} {x:Operand} {r k ty sz n o:Nat} {el:Nat→List Value} {ti:TI} {l:List Value} {v:Value} (he:el k=l) (hx:ev fr x=some (.pointer (some ⟨r,o,some k⟩))) (ht:lk τ t=some ti) (hm:lk mem r=some (.row ty sz n el)) (hv:(match takeN o ti.size l with | some l=>ofC ti.agg l | none=>none)=some v):vx τ fr mem (.load t x)=some v:=by
 show (match ev fr x with | some p=>ldx τ mem t p | none=>none)=some v
 rw[hx]
 show ldx τ mem t (.pointer (some ⟨r,o,some k⟩))=some v
 unfold ldx
 simp only[ht,hm,he]
 exact hv
theorem ValidA.rt {c:Cfg} {a:Atl} {key:Int} (h:ValidA c a key) {k:Nat} (hk:k<c.tenants.length):-1≤(a.routes.getD k (0,0)).1∧0≤(a.routes.getD k (0,0)).2:=by
 have:=h.r k (by rw[h.len];exact hk)
 unfold RouteOk at this
 omega
theorem wrapIn (n:Int):in64 (IntKind.i64.wrap n):=by
 unfold in64 IntKind.wrap
 simp[IntKind.bits,IntKind.signed]
 omega
theorem CopyP.numIn {c:Cfg} {key:Int} {xs:List Atl} (hP:CopyP c key xs) (hV:CfgV c) (hE:cfgErr c=0) {k:Nat} (hk:k<xs.length) {n:Int} (hn:in64 n):AtlIn { xs.getD k aZ with number:=n }:=by
 obtain⟨s,par,hJ,e⟩:=hP.made k hk
 have h:=make_in hV hJ.inv par key
 rw[e]
 exact⟨hn,h.t,h.len,h.r⟩
/-! The functions. -/
abbrev ctHnP:CT:=ctInl ttP [] [] Tryz.f50 (bodyOf Tryz.f50)
theorem hnPOk {I:List Nat} (hI:I.contains 50=true):CSoundI Tryz.prog I 50 ctHnP:=inl_ok ttPok (fti_nil) mixed (by kernel_rfl) Tryz.func50 rfl (by kernel_rfl) hI
theorem between_sx (v lo hi:Int) (h:1≤IntKind.i64.wrap (IntKind.i64.wrap (hi-lo)+1)∧IntKind.i64.wrap (IntKind.i64.wrap (hi-lo)+1)≤2147483648):sx ttP [(56,ctMod)] [] (bodyOf Tryz.f38) (argF 0 [.int .i64 v,.int .i64 lo,.int .i64 hi]) (uniM {}) 13 (endx ttP Tryz.f38.results.toList fun u _ _=>∃ r,in64 r∧u=.int .i64 r):=by
 refine⟨_,_,rfl,h,?_⟩
 exact⟨_,wrapIn _,rfl⟩
def ctBwG:CT:=fun vs mem nx K=>∃ v lo hi,vs=[.int .i64 v,.int .i64 lo,.int .i64 hi]∧(1≤IntKind.i64.wrap (IntKind.i64.wrap (hi-lo)+1)∧IntKind.i64.wrap (IntKind.i64.wrap (hi-lo)+1)≤2147483648)∧∀ r:Int,in64 r→K (.int .i64 r) mem nx
theorem bwGOk:CSound Tryz.prog 38 ctBwG:=⟨by kernel_rfl,fun {C ρ fr mem nx a w vs K} hc hs hv=>by
 obtain⟨v,lo,hi,rfl,h,hK⟩:=hc
 have:=uni_calls ttPok (fti_cons (modOk.i _) fti_nil) Tryz.func38 rfl (D:=[]) (by kernel_rfl) (vs:=[.int .i64 v,.int .i64 lo,.int .i64 hi]) rfl {} {} w {} (fun v hv=>by
  simp only[List.mem_cons,List.not_mem_nil,or_false] at hv
  rcases hv with rfl | rfl | rfl<;>trivial) (between_sx v lo hi h)
 refine this.mono ?_
 rintro e w' ⟨u,mem',nx',ρ',rfl,⟨r,hr,rfl⟩,-,-,hb⟩
 exact⟨.int .i64 r,mem,nx,ρ,rfl,hK r hr,hs.later hb,trivial,ExtS.refl _ _⟩⟩
abbrev ctTnQ:CT:=ctInl ttP [] [] Tryz.f84 (bodyOf Tryz.f84)
theorem tnQOk {I:List Nat} (hI:I.contains 84=true):CSoundI Tryz.prog I 84 ctTnQ:=inl_ok ttPok (fti_nil) mixed (by kernel_rfl) Tryz.func84 rfl (by kernel_rfl) hI
abbrev ctHnQ:CT:=ctInl ttP [(84,ctTnQ)] [(9000000,{ k:=0,L:=[84] })] Tryz.f51 (bodyOf Tryz.f51)
theorem hnQOk {I:List Nat} (hI:I.contains 51=true):CSoundI Tryz.prog I 51 ctHnQ:=inl_ok ttPok (fti_cons (tnQOk (by decide)) fti_nil) mixed (by kernel_rfl) Tryz.func51 rfl (by kernel_rfl) hI
abbrev ctRtQ:CT:=ctInl ttP [(84,ctTnQ),(51,ctHnQ)] [(9000000,{ k:=0,L:=[84,51] })] Tryz.f49 (bodyOf Tryz.f49)
theorem rtQOk {I:List Nat} (hI:I.contains 49=true):CSoundI Tryz.prog I 49 ctRtQ:=inl_ok ttPok (fti_cons (tnQOk (by decide)) (fti_cons (hnQOk (by decide)) fti_nil)) mixed (by kernel_rfl) Tryz.func49 rfl (by kernel_rfl) hI
abbrev ctNbQ:CT:=ctInl ttP [] [] Tryz.f52 (bodyOf Tryz.f52)
theorem nbQOk {I:List Nat} (hI:I.contains 52=true):CSoundI Tryz.prog I 52 ctNbQ:=inl_ok ttPok (fti_nil) mixed (by kernel_rfl) Tryz.func52 rfl (by kernel_rfl) hI
abbrev ctTcQ:CT:=ctInl ttP [] [] Tryz.f54 (bodyOf Tryz.f54)
theorem tcQOk {I:List Nat} (hI:I.contains 54=true):CSoundI Tryz.prog I 54 ctTcQ:=inl_ok ttPok (fti_nil) mixed (by kernel_rfl) Tryz.func54 rfl (by kernel_rfl) hI
abbrev ctKnQ:CT:=ctInl ttP [] [] Tryz.f91 (bodyOf Tryz.f91)
theorem knQOk {I:List Nat} (hI:I.contains 91=true):CSoundI Tryz.prog I 91 ctKnQ:=inl_ok ttPok (fti_nil) mixed (by kernel_rfl) Tryz.func91 rfl (by kernel_rfl) hI
abbrev ctLnQ:CT:=ctInl ttP [(84,ctTnQ),(91,ctKnQ)] [(9000000,{ k:=0,L:=[84,91] })] Tryz.f60 (bodyOf Tryz.f60)
theorem lnQOk {I:List Nat} (hI:I.contains 60=true):CSoundI Tryz.prog I 60 ctLnQ:=inl_ok ttPok (fti_cons (tnQOk (by decide)) (fti_cons (knQOk (by decide)) fti_nil)) mixed (by kernel_rfl) Tryz.func60 rfl (by kernel_rfl) hI
abbrev r16F:FT:=[(48,ctV5G)]
abbrev ctNwQ:CT:=ctInl ttP r16F [(4,{ k:=6,L:=[0,1,2,3,4,5,6,7,8,9,10,11,12,13,14,15,16,17,18,19,20,21,22,23,24,25,26,27,28,29,30,31,32,33,34,35,36,37,38,39,40,41,42,43,44,45,46,47,48,49,50,51,52,53,54,55,56,57,58,59,60],pre:=[(0,false),(1,false),(2,false),(3,false),(4,false),(5,true)] })] Tryz.f12 (bodyOf Tryz.f12)
theorem nwQOk {I:List Nat} (hI:I.contains 12=true):CSoundI Tryz.prog I 12 ctNwQ:=inl_ok ttPok (fti_cons (v5GOk.i _) fti_nil) mixed (by kernel_rfl) Tryz.func12 rfl (by kernel_rfl) hI
abbrev smF:FT:=[(34,ctRt),(49,ctRtQ),(50,ctHnP),(51,ctHnQ),(36,ctNb),(52,ctNbQ),(53,ctTc),(54,ctTcQ)]
abbrev smD:List (Nat×DQ):=[(9000000,{ k:=0,L:=[34,49,50,51,36,52,53,54] }),(2000002,{ k:=0,L:=[0,1,2,3,4,5,6,7,8,9,10,11,12,13,14,15,16,17,18,19,20,21,22,23,24,25,26,27,28,29,30,31,32,33,34,35,36,37,38,39,40,41,42,43,44,45,46,47,48,49,50,51,52,53,54,55,56,57,58,59,60,61,62,63,64,65,66,67,68,69,70,71,72,73,74,75,76,77,78,79,80,81,82,83,84,85,86,87,88,89,90,91,92,93,94,95,96,97,98,99],sl:=[0,1] })]
theorem smFok:FTokI Tryz.prog smF (inlOf smD):=fti_cons (rtOk (by decide)) (fti_cons (rtQOk (by decide)) (fti_cons (hnPOk (by decide)) (fti_cons (hnQOk (by decide)) (fti_cons (nbOk (by decide)) (fti_cons (nbQOk (by decide)) (fti_cons (tcOk (by decide)) (fti_cons (tcQOk (by decide)) fti_nil)))))))
abbrev ctSmP:CT:=ctInl ttP smF smD Tryz.f13 (bodyOf Tryz.f13)
theorem smPOk {I:List Nat} (hI:I.contains 13=true):CSoundI Tryz.prog I 13 ctSmP:=inl_ok ttPok (smFok) mixed (by kernel_rfl) Tryz.func13 rfl (by kernel_rfl) hI
end Go.Proofs.YtchhdflealgkaaaGreat
