import Derived.Test.YtchhdflealgkaaaGreatPo15
namespace Go.Proofs.YtchhdflealgkaaaGreat
open Go.RowKit
set_option linter.unusedSimpArgs false
set_option linter.unusedVariables false
/-! make.Config: what it answers -/
theorem flat_intsC:∀ zs:List Int,flat intC zs=zs.map (Value.int .i64)
 | []=>rfl
 | z::r=>by simp only[flat,List.flatMap_cons,List.map_cons];rw[show r.flatMap intC=flat intC r from rfl,flat_intsC r];rfl
theorem mkConfig_any (A:Option Addr) (cap:Nat) (zs:List Int) (w:World) (hz:zs.length≤400) (hr:Rd w (·<w.heap.size) A (zs.map (Value.int .i64))):Calls Tryz.prog 10 #[.slice A zs.length cap] w (CfgPost w):=by
 rw[← flat_intsC] at hr
 let ρ:Nat→Pl:=fun _=>⟨A,1,zs.length,false,noSub⟩
 have hm:MemAt { w0:=w,bor:=[],n0:=1,ρ0:=ρ,nt:=Tryz.f10.ntmps } ρ [(0,intRow zs)] 1 w:=MemAt.rows trivial ⟨⟨Nat.zero_lt_one,rfl,row_of_rd (enc:=intC) (sz:=1) (fun _=>rfl) (by omega) intC_plain 0 rfl hr (fun b hb=>hb)⟩,trivial⟩
 have:=calls_sxI ttUok (cwFok.i _) mixed Tryz.func10 rfl (D:=cwD) (by kernel_rfl) (vs:=[slc 0 zs.length cap]) rfl ⟨rfl,rfl⟩ rfl hm (fun v hv=>by
  simp only[List.mem_cons,List.not_mem_nil,or_false] at hv
  subst hv
  exact⟨Nat.zero_lt_one,rfl⟩) (config_sx cap zs hz)
 have e0:([slc 0 zs.length cap].map (den ρ)).toArray=#[.slice A zs.length cap]:=by simp[den,den2,den1,dA_whole,dS_whole,ρ]
 rw[e0] at this
 refine this.mono ?_
 rintro e w' ⟨v,mem',nx',ρ',rfl,⟨N,x,c,T,hM,rfl,⟨n1,n2,n4,n5,n6⟩,hT⟩,-,hm'⟩
 have hb:Below w.heap.size w w':=⟨hm'.rest.os,hm'.rest.tape,hm'.rest.output,hm'.rest.size,fun b hlt=>hm'.rest.block b hlt (by simp)⟩
 have eT:∃ A3 ct,den1 ρ' T=.slice A3 c.tenants.length ct∧Rd w' (fun b=>w.heap.size≤b∧b<w'.heap.size) A3 (flat tenC c.tenants):=by
  rcases hT with⟨rfl,h0⟩ | ⟨r,cp,rfl,n3⟩
  ·refine⟨none,0,by rw[h0];rfl,?_⟩
   rw[h0]
   exact fun q=>absurd rfl q
  ·exact⟨(ρ' r).A,cp,by simp[den1,dA_whole,dS_whole],hm'.newRd (enc:=tenC) (sz:=7) (fun _=>rfl) (by omega) n3⟩
 obtain⟨A3,ct,e3,n3⟩:=eT
 refine⟨⟨(ρ' N.z).A,x.cz,(ρ' N.c).A,x.cc,A3,ct,(ρ' N.v).A,x.cv,(ρ' N.r).A,x.cr,(ρ' N.o).A,x.co⟩,c,?_,⟨hm'.newRd (enc:=intC) (sz:=1) (fun _=>rfl) (by omega) n1,hm'.newRd (enc:=pairC) (sz:=2) (fun _=>rfl) (by omega) n2,n3,hm'.newRd (enc:=pairC) (sz:=2) (fun _=>rfl) (by omega) n4,hm'.newRd (enc:=intC) (sz:=1) (fun _=>rfl) (by omega) n5,hm'.newRd (enc:=intC) (sz:=1) (fun _=>rfl) (by omega) n6⟩,hM,hb⟩
 have d:∀ v,den1 ρ' (.int .i64 v)=.int .i64 v:=fun _=>rfl
 have d2:∀ r n c,den1 ρ' (slc r n c)=.slice (ρ' r).A n c:=fun r n c=>by simp[den1,dA_whole,dS_whole]
 congr 1
 simp only[den,den2,cfgC]
 simp[d,d2,e3]
section
variable {C:Ctx} {ρ:Nat→Pl} {fr:AF} {mem:AM} {nx:Nat} {a:Act} {w w':World}
def cfgPl (ρ:Nat→Pl) (nx:Nat) (x:CfgA) (c:Cfg):Nat→Pl:=
 setPl (setPl (setPl (setPl (setPl (setPl ρ nx ⟨x.ao,1,c.observers.length,false,noSub⟩) (nx+1) ⟨x.ar,1,c.replicas.length,false,noSub⟩) (nx+2) ⟨x.av,2,c.versions.length,false,noSub⟩) (nx+3) ⟨x.at_,7,c.tenants.length,false,noSub⟩) (nx+4) ⟨x.ac,2,c.cells.length,false,noSub⟩) (nx+5) ⟨x.az,1,c.zones.length,false,noSub⟩
theorem Sat.addCfg (h0:Sat C ρ fr mem nx a w) (hb:Below w.heap.size w w') {x:CfgA} {c:Cfg} (hc:CfgOk w' (fun b=>w.heap.size≤b∧b<w'.heap.size) x c) :
  Sat C (cfgPl ρ nx x c) fr (cfgM ⟨nx+5,nx+4,nx+3,nx+2,nx+1,nx,500000⟩ c++mem) (nx+6) a w'∧den (cfgPl ρ nx x c) (cfgV ⟨nx+5,nx+4,nx+3,nx+2,nx+1,nx,500000⟩ ⟨x.cz,x.cc,x.ct,x.cv,x.cr,x.co⟩ c)=.agg (cfgC x c)∧okV (cfgPl ρ nx x c) (nx+6) (cfgV ⟨nx+5,nx+4,nx+3,nx+2,nx+1,nx,500000⟩ ⟨x.cz,x.cc,x.ct,x.cv,x.cr,x.co⟩ c)∧ExtS ρ nx (cfgPl ρ nx x c) (nx+6):=by
 obtain⟨h1,f1⟩:=(h0.later hb).addList h0.frB h0.rest.size (enc:=intC) (sz:=1) (fun _=>rfl) (by omega) intC_plain 0 (t:=500000) rfl hc.observers
 obtain⟨h2,f2⟩:=h1.addList f1 h0.rest.size (enc:=intC) (sz:=1) (fun _=>rfl) (by omega) intC_plain 0 (t:=500000) rfl hc.replicas
 obtain⟨h3,f3⟩:=h2.addList f2 h0.rest.size (enc:=pairC) (sz:=2) (fun _=>rfl) (by omega) pairC_plain (0,0) (t:=500000) rfl hc.versions
 obtain⟨h4,f4⟩:=h3.addList f3 h0.rest.size (enc:=tenC) (sz:=7) (fun _=>rfl) (by omega) tenC_plain default (t:=500000) rfl hc.tenants
 obtain⟨h5,f5⟩:=h4.addList f4 h0.rest.size (enc:=pairC) (sz:=2) (fun _=>rfl) (by omega) pairC_plain (0,0) (t:=500000) rfl hc.cells
 obtain⟨h6,-⟩:=h5.addList f5 h0.rest.size (enc:=intC) (sz:=1) (fun _=>rfl) (by omega) intC_plain 0 (t:=500000) rfl hc.zones
 have q5:cfgPl ρ nx x c (nx+5)=⟨x.az,1,c.zones.length,false,noSub⟩:=setPl_same _ _ _
 have q4:cfgPl ρ nx x c (nx+4)=⟨x.ac,2,c.cells.length,false,noSub⟩:=by unfold cfgPl;rw[setPl_lt _ _ (by omega),setPl_same]
 have q3:cfgPl ρ nx x c (nx+3)=⟨x.at_,7,c.tenants.length,false,noSub⟩:=by unfold cfgPl;rw[setPl_lt _ _ (by omega),setPl_lt _ _ (by omega),setPl_same]
 have q2:cfgPl ρ nx x c (nx+2)=⟨x.av,2,c.versions.length,false,noSub⟩:=by unfold cfgPl;rw[setPl_lt _ _ (by omega),setPl_lt _ _ (by omega),setPl_lt _ _ (by omega),setPl_same]
 have q1:cfgPl ρ nx x c (nx+1)=⟨x.ar,1,c.replicas.length,false,noSub⟩:=by unfold cfgPl;rw[setPl_lt _ _ (by omega),setPl_lt _ _ (by omega),setPl_lt _ _ (by omega),setPl_lt _ _ (by omega),setPl_same]
 have q0:cfgPl ρ nx x c nx=⟨x.ao,1,c.observers.length,false,noSub⟩:=by unfold cfgPl;rw[setPl_lt _ _ (by omega),setPl_lt _ _ (by omega),setPl_lt _ _ (by omega),setPl_lt _ _ (by omega),setPl_lt _ _ (by omega),setPl_same]
 refine⟨h6,?_,?_,fun i hi=>?_,by omega⟩
 ·rw[den_cfg]
  congr 2
  simp[cfgX,q0,q1,q2,q3,q4,q5]
 ·intro u hu
  simp at hu
  rcases hu with rfl | rfl | rfl | rfl | rfl | rfl | rfl | rfl | rfl | rfl<;>first | trivial | exact⟨show nx+5<nx+6 by omega,by rw[q5]⟩ | exact⟨show nx+4<nx+6 by omega,by rw[q4]⟩ | exact⟨show nx+3<nx+6 by omega,by rw[q3]⟩ | exact⟨show nx+2<nx+6 by omega,by rw[q2]⟩ | exact⟨show nx+1<nx+6 by omega,by rw[q1]⟩ | exact⟨show nx<nx+6 by omega,by rw[q0]⟩
 ·unfold cfgPl
  rw[setPl_lt _ _ (by omega),setPl_lt _ _ (by omega),setPl_lt _ _ (by omega),setPl_lt _ _ (by omega),setPl_lt _ _ (by omega),setPl_lt _ _ hi]
end
theorem flat_ints:∀ zs:List Int,flat intC zs=zs.map (Value.int .i64)
 | []=>rfl
 | z::r=>by simp only[flat,List.flatMap_cons,List.map_cons];rw[show r.flatMap intC=flat intC r from rfl,flat_ints r];rfl
def ctConfig:CT:=fun vs mem nx K=>∃ i cap zs,vs=[slc i (zs:List Int).length cap]∧lk mem i=some (intRow zs)∧zs.length≤400∧∀ x c,MadeCfg c→K (cfgV ⟨nx+5,nx+4,nx+3,nx+2,nx+1,nx,500000⟩ x c) (cfgM ⟨nx+5,nx+4,nx+3,nx+2,nx+1,nx,500000⟩ c++mem) (nx+6)
theorem configOk:CSound Tryz.prog 10 ctConfig:=⟨by kernel_rfl,fun {C ρ fr mem nx a w vs K} hc hs hv=>by
 obtain⟨i,cap,zs,rfl,hi,hz,hK⟩:=hc
 have hr:Rd w (·<w.heap.size) (ρ i).A (zs.map (Value.int .i64)):=by
  rw[← flat_ints]
  exact hs.rd (enc:=intC) (sz:=1) (fun _=>rfl) (by omega) hi (fun b h _=>h)
 have e:([slc i zs.length cap].map (den ρ)).toArray=#[.slice (ρ i).A zs.length cap]:=by simp[den,den2,den1,dA_whole,dS_whole]
 rw[e]
 refine (mkConfig_any (ρ i).A cap zs w hz hr).mono ?_
 rintro e w' ⟨x,c,rfl,hok,hM,hb⟩
 obtain⟨q1,q2,q3,q4⟩:=hs.addCfg hb hok
 exact⟨_,_,_,_,by rw[q2],hK _ c hM,q1,q3,q4⟩⟩
/-! Plain facts on configurations and atlases. -/
theorem atlIn_st {c:Cfg} {s:St} (hV:CfgV c) (hI:StInv c s) (par:Int):AtlIn (atl0 s par):=by
 have h1:=hI.tick
 have h2:=hI.count
 have h3:=hI.lt
 have h4:=hV.nt
 have h5:=hV.nc
 refine⟨by unfold in64;show -9223372036854775808≤s.count∧s.count<_;omega,by unfold in64;show -9223372036854775808≤s.tick∧s.tick<_;omega,by show (routesOf s).length≤1000;rw[routes_len];omega,fun x hx=>?_⟩
 obtain⟨t,ht,rfl⟩:=List.mem_map.1 (show x ∈ s.tenants.map routeT from hx)
 have hT:=hI.ten t ht
 have h6:=hT.home
 have h7:=hT.epoch
 unfold routeT in64
 refine⟨?_,by dsimp only;omega⟩
 dsimp only
 split<;>omega
theorem make_in {c:Cfg} {s:St} (hV:CfgV c) (hI:StInv c s) (par key:Int):AtlIn (makeA s par key):=⟨(atlIn_st hV hI par).n,(atlIn_st hV hI par).t,(atlIn_st hV hI par).len,(atlIn_st hV hI par).r⟩
theorem make_valid {c:Cfg} {s:St} (hE:cfgErr c=0) (hV:CfgV c) (hI:StInv c s) (par key:Int):ValidA c (makeA s par key) key:=by
 have h1:=hI.tick
 have h2:=hI.count
 have h3:=hI.lt
 refine⟨hE,by show (routesOf s).length=_;rw[routes_len,h3],?_,?_,fun k hk=>?_,?_⟩
 ·show 0≤s.count∧s.count≤4096;omega
 ·show 0≤s.tick∧s.tick≤1073741824;omega
 ·have hk':k<s.tenants.length:=by rw[← routes_len];exact hk
  show RouteOk c ((routesOf s).getD k (0,0))
  rw[routes_get hk']
  have hT:=hI.ten (s.tenants.getD k default) (by rw[List.getD_eq_getElem?_getD,List.getElem?_eq_getElem hk'];exact List.getElem_mem _)
  have h6:=hT.home
  have h7:=hT.epoch
  unfold RouteOk routeT
  dsimp only
  split<;>omega
 ·show (makeA s par key).sum=_
  rw[sum_make,body_make,par_make]
theorem MadeCfg.lens {c:Cfg} (h:MadeCfg c):Lens c:=by
 have h1:=h.zones
 have h2:=h.cells
 have h3:=h.tenants
 have h4:=h.versions
 have h5:=h.replicas
 have h6:=h.observers
 unfold Lens maxLen
 omega
end Go.Proofs.YtchhdflealgkaaaGreat
namespace Go.Proofs.YtchhdflealgkaaaGreat
open Go.RowKit Go.ChangeMaps
set_option linter.unusedSimpArgs false
set_option linter.unusedVariables false
/-! maps.DeleteFunc of any map with int keys;the function may be any that writes nothing. -/
section
variable {P:Program} {w:World}
theorem run_delete {q e t tx ty:TypeId} {kk:IntKind} {g cl:Nat} {es:Array MapEntry} (ht:P.underlying t=some (.map q e)) (hq:P.underlying q=some (.int kk)) (hg:w.heap[g]?=some (.map es cl)) (hkeys:∀ e ∈ es.toList,∃ y,e.key=.int kk y) (hnod:(es.toList.map (·.key)).Nodup) (z:Int) :
  ∃ es',(Builtin.delete_ #[t,tx] ty #[.map (some g),.int kk z]).run P w=.ok (.tuple #[]) (setObjW w g (.map es' cl))∧es'.toList.Sublist es.toList∧∀ x ∈ es.toList,(x ∈ es'.toList↔x.key≠.int kk z):=by
 obtain⟨r,h1,h2,h3⟩:=findNow_int (z:=z) es.toList 0 hkeys
 have hr:=findInt (P:=P) (w:=w) hq h1
 cases r with
 | none=>
  refine⟨es,?_,List.Sublist.refl _,fun x hx=>⟨fun _=>h3 rfl x hx,fun _=>hx⟩⟩
  simp[Builtin.delete_,run_underlying ht,getMap hg,keyInt hq,hr,setMap _ hg]
 | some p=>
  obtain⟨j,v⟩:=p
  obtain⟨x0,q1,-,q3,q4⟩:=h2 j v rfl
  rw[Nat.sub_zero] at q1
  have hjlt:=(List.getElem?_eq_some_iff.1 q1).1
  have huni:∀ (i:Nat) (x:MapEntry),es.toList[i]?=some x→x.key=.int kk z→i=j:=fun i x hi hk=>by
   have hil:=(List.getElem?_eq_some_iff.1 hi).1
   have e1:(es.toList.map (·.key))[i]'(by simpa using hil)=(es.toList.map (·.key))[j]'(by simpa using hjlt):=by
    rw[List.getElem_map,List.getElem_map,(List.getElem?_eq_some_iff.1 hi).2,(List.getElem?_eq_some_iff.1 q1).2,hk,q3]
   exact (List.getElem_inj hnod).1 e1
  have hl:(es.eraseIdxIfInBounds j).toList=es.toList.eraseIdx j:=by
   unfold Array.eraseIdxIfInBounds
   split
   ·simp
   ·rename_i hn;exact absurd (by simpa using hjlt) hn
  refine⟨es.eraseIdxIfInBounds j,?_,?_,fun x hx=>?_⟩
  ·simp[Builtin.delete_,run_underlying ht,getMap hg,keyInt hq,hr,setMap _ hg]
  ·rw[hl];exact List.eraseIdx_sublist _ _
  ·rw[hl]
   constructor
   ·intro hm hk
    obtain⟨i,hij,hi⟩:=List.mem_eraseIdx_iff_getElem?.1 hm
    exact hij (huni i x hi hk)
   ·intro hk
    obtain⟨i,hi⟩:=List.getElem?_of_mem hx
    refine List.mem_eraseIdx_iff_getElem?.2 ⟨i,?_,hi⟩
    rintro rfl
    rw[q1] at hi
    cases hi
    exact hk q3
structure Del (p:MapEntry→Bool) (es0:Array MapEntry) (g r cl:Nat) (w0 w:World) (es:Array MapEntry) (seen it:Array Nat) (c0:Nat):Prop where
 at_:w.heap[g]?=some (.map es cl)
 iter:w.heap[r]?=some (.mapIter (some g) cl it c0)
 le:cl≤c0
 sub:es.toList.Sublist es0.toList
 gone:∀ e ∈ es0.toList,e ∈ es.toList∨p e=true
 stay:∀ e ∈ es.toList,seen.contains e.born=true→p e=false
 os:w.os=w0.os
 tape:w.tape=w0.tape
 output:w.output=w0.output
 size:w0.heap.size≤w.heap.size
 block:∀ b,b<w0.heap.size→b≠g→w.heap[b]?=w0.heap[b]?
variable {p:MapEntry→Bool} {es0 es es':Array MapEntry} {g r cl c0:Nat} {w0 w1 w':World} {seen it:Array Nat} {e:MapEntry}
theorem Del.later (h:Del p es0 g r cl w0 w es seen it c0) (hb:Below w.heap.size w w'):Del p es0 g r cl w0 w' es seen it c0:=by
 have e1:=hb.block g (heap_lt h.at_)
 have e2:=hb.block r (heap_lt h.iter)
 exact⟨e1.trans h.at_,e2.trans h.iter,h.le,h.sub,h.gone,h.stay,hb.os.trans h.os,hb.tape.trans h.tape,hb.output.trans h.output,Nat.le_trans h.size hb.size,fun b hlt hne=>(hb.block b (Nat.lt_of_lt_of_le hlt h.size)).trans (h.block b hlt hne)⟩
theorem Del.came (h:Del p es0 g r cl w0 w es seen it c0) (hr:w0.heap.size≤r) (hg:g<w0.heap.size) (hw:w1=w∨w1=w.drew) (it':Array Nat):Del p es0 g r cl w0 (setBlock w1 r (.mapIter (some g) cl it' cl)) es seen it' cl:=by
 have e1:w1.heap=w.heap:=by rcases hw with rfl | rfl<;>rfl
 have hrl:=heap_lt h.iter
 refine⟨?_,?_,Nat.le_refl _,h.sub,h.gone,h.stay,?_,?_,?_,?_,fun b hlt hne=>?_⟩
 ·show (setObjW w1 r _).heap[g]?=_
  rw[setObjW_far (by omega),e1];exact h.at_
 ·exact setObjW_at (by rw[e1];exact hrl)
 ·rcases hw with rfl | rfl<;>exact h.os
 ·rcases hw with rfl | rfl<;>exact h.tape
 ·rcases hw with rfl | rfl<;>exact h.output
 ·show _≤(setObjW w1 r _).heap.size
  rw[setObjW_size,e1];exact h.size
 ·show (setObjW w1 r _).heap[b]?=_
  rw[setObjW_far (by omega),e1];exact h.block b hlt hne
theorem contains_push {s:Array Nat} {a b:Nat}:(s.push b).contains a=true↔s.contains a=true∨a=b:=by simp
theorem proj_inj {β:Type} {f:MapEntry→β} {l:List MapEntry} (h:(l.map f).Nodup) {a b:MapEntry} (ha:a ∈ l) (hb:b ∈ l) (e:f a=f b):a=b:=by
 obtain⟨i,hi,rfl⟩:=List.mem_iff_getElem.1 ha
 obtain⟨j,hj,rfl⟩:=List.mem_iff_getElem.1 hb
 have e1:(l.map f)[i]'(by simpa using hi)=(l.map f)[j]'(by simpa using hj):=by rw[List.getElem_map,List.getElem_map];exact e
 obtain rfl:=(List.getElem_inj h).1 e1
 rfl
theorem Del.kept (h:Del p es0 g r cl w0 w es seen it c0) (he:e ∈ es.toList) (hb:(es0.toList.map (·.born)).Nodup) (hp:p e=false):Del p es0 g r cl w0 w es (seen.push e.born) it c0:=
 ⟨h.at_,h.iter,h.le,h.sub,h.gone,fun x hx hs=>by
  rcases contains_push.1 hs with hs | hs
  ·exact h.stay x hx hs
  ·rw[proj_inj (f:=(·.born)) hb (h.sub.subset hx) (h.sub.subset he) hs];exact hp,h.os,h.tape,h.output,h.size,h.block⟩
theorem Del.struck (h:Del p es0 g r cl w0 w es seen it c0) (hr:w0.heap.size≤r) (hg:g<w0.heap.size) (he:e ∈ es.toList) (hb:(es0.toList.map (·.born)).Nodup) (hk:(es0.toList.map (·.key)).Nodup) (hp:p e=true)
  (hs:es'.toList.Sublist es.toList) (hm:∀ x ∈ es.toList,(x ∈ es'.toList↔x.key≠e.key)):Del p es0 g r cl w0 (setObjW w g (.map es' cl)) es' (seen.push e.born) it c0:=by
 refine⟨setObjW_at (heap_lt h.at_),by rw[setObjW_far (by omega)];exact h.iter,h.le,hs.trans h.sub,fun x hx=>?_,fun x hx hsn=>?_,h.os,h.tape,h.output,by rw[setObjW_size];exact h.size,fun b hlt hne=>by rw[setObjW_far hne];exact h.block b hlt hne⟩
 ·by_cases q:x=e
  ·subst q;exact .inr hp
  ·exact (h.gone x hx).imp (fun hx2=>(hm x hx2).2 fun hke=>q (proj_inj (f:=(·.key)) hk hx (h.sub.subset he) hke)) id
 ·have hx2:=hs.subset hx
  rcases contains_push.1 hsn with hsn | hsn
  ·exact h.stay x hx2 hsn
  ·exact absurd (by rw[proj_inj (f:=(·.born)) hb (h.sub.subset hx2) (h.sub.subset he) hsn]) ((hm x hx2).1 hx)
theorem left_struck (he:e ∈ (leftOf es seen).toList) (hs:es'.toList.Sublist es.toList):(leftOf es' (seen.push e.born)).size<(leftOf es seen).size:=by
 refine Nat.lt_of_le_of_lt ?_ (left_shrinks es seen e he)
 have:((leftOf es' (seen.push e.born)).toList).length≤((leftOf es (seen.push e.born)).toList).length:=by
  simp only[leftOf,Array.toList_filter]
  exact (hs.filter _).length_le
 simpa using this
end
theorem intU:Tryz.prog.underlying 3=some (.int .i64):=by kernel_rfl
def leftW (g r:Nat) (w:World):Nat:=match w.heap[g]?,w.heap[r]? with | some (.map es _),some (.mapIter _ _ it _)=>(leftOf es it).size | _,_=>0
theorem leftW_eq {p:MapEntry→Bool} {es0 es:Array MapEntry} {g r cl c0:Nat} {w0 w:World} {seen it:Array Nat} (h:Del p es0 g r cl w0 w es seen it c0):leftW g r w=(leftOf es it).size:=by
 unfold leftW
 rw[h.at_,h.iter]
set_option maxHeartbeats 4000000 in
set_option maxRecDepth 100000 in
theorem delG_any (fid g:Nat) (cb:Array Value) (p:MapEntry→Bool) (es:Array MapEntry) (cl:Nat) (w:World) (eg:∀ args w,(callFunc fid args).run Tryz.prog w=.ok (.enter fid args) w)
  (hb:w.heap[g]?=some (.map es cl)) (hborn:∀ e ∈ es.toList,e.born<cl) (hbnd:(es.toList.map (·.born)).Nodup) (hkeys:∀ e ∈ es.toList,∃ y,e.key=.int .i64 y) (hnod:(es.toList.map (·.key)).Nodup) (hvals:∀ e ∈ es.toList,∃ x y,e.val=.agg #[.int .i64 x,.int .i64 y])
  (hcl:∀ (W:World) (e:MapEntry),e ∈ es.toList→(∀ b,b<w.heap.size→b≠g→W.heap[b]?=w.heap[b]?)→Calls Tryz.prog fid (#[e.key,e.val]++cb) W fun x W'=>x=.returned (.bool (p e))∧Below W.heap.size W W') :
  Calls Tryz.prog 86 #[.map (some g),.func (.func fid) #[] cb] w fun x w'=>x=.returned (.tuple #[])∧∃ es' seen it c0,Del p es g w.heap.size cl w w' es' seen it c0∧∀ e ∈ es'.toList,p e=false:=by
 have hrg:=run_range_map (P:=Tryz.prog) w 108 _ _ g es cl mapU hb
 have hgl:=heap_lt hb
 have hD0:Del p es g w.heap.size cl w (w.alloc (.mapIter (some g) cl #[] cl)) es #[] #[] cl:=
  ⟨by rw[heap_alloc_old _ _ hgl];exact hb,heap_alloc_new _ _,Nat.le_refl _,List.Sublist.refl _,fun e he=>.inl he,fun e _ h=>by simp at h,rfl,rfl,rfl,by simp,fun b hlt _=>heap_alloc_old _ _ hlt⟩
 go_enter Tryz.func86,Tryz.ntmps86
 go_wp2
 go_loopw [4] (fun _ wr=>∃ es' seen it c0,Del p es g w.heap.size cl w wr es' seen it c0∧it=seen) (fun _ wr=>leftW g w.heap.size wr)
 case atStart=>exact⟨_,_,_,_,hD0,rfl⟩
 case round=>
  obtain⟨es',seen,it,c0,hD,rfl⟩:=hrel
  have hborn2:∀ x ∈ es'.toList,x.born<cl:=fun x hx=>hborn x (hD.sub.subset hx)
  rcases run_next_at (P:=Tryz.prog) wr 0 w.heap.size g cl c0 it es' cl hD.iter hD.at_ hborn2 hD.le with⟨h0,hrun⟩ | ⟨e,he,w1,hw1,hrun⟩
  ·go_wp2
   go_end0
   exact⟨rfl,es',it,it,c0,hD,fun e he=>hD.stay e he (all_seen _ _ h0 e he)⟩
  ·obtain⟨hem,hnew⟩:=mem_left he
   obtain⟨z,hz⟩:=hkeys e (hD.sub.subset hem)
   obtain⟨x,y,hv⟩:=hvals e (hD.sub.subset hem)
   have hD2:=hD.came (Nat.le_refl _) hgl hw1 (it.push e.born)
   have hen:=run_entry_at (P:=Tryz.prog) _ w.heap.size g cl it es' cl e hD2.iter hD2.at_ hem ((hD.sub.map _).nodup hbnd)
   have hc:∀ W,Below (setBlock w1 w.heap.size (.mapIter (some g) cl (it.push e.born) cl)).heap.size (setBlock w1 w.heap.size (.mapIter (some g) cl (it.push e.born) cl)) W→Calls Tryz.prog fid (#[e.key,e.val]++cb) W fun x W'=>x=.returned (.bool (p e))∧Below W.heap.size W W':=fun W hW=>hcl W e (hD.sub.subset hem) (hD2.later hW).block
   rw[hz,hv] at hrun hen hc
   generalize setBlock w1 w.heap.size (.mapIter (some g) cl (it.push e.born) cl)=W2 at *
   clear hrg hcl hD0
   go_wp2
   refine (hc _ ((Below.refl _ _).alloc (Nat.le_refl _) _)).mono ?_
   rintro _ w4 ⟨rfl,hb4⟩
   have hD4:=hD2.later (((Below.refl _ _).alloc (Nat.le_refl _) (.cells #[.int .i64 x,.int .i64 y] 92)).trans (hb4.mono (by simp)))
   clear hc hD2 hb4
   cases hp:p e
   ·have hD5:=hD4.kept hem hbnd hp
    go_wp2
    go_roundw
    case rel=>exact⟨es',it.push e.born,it.push e.born,cl,hD5,rfl⟩
    case measure=>rw[leftW_eq hD5,leftW_eq hD];exact left_shrinks es' it e he
   ·obtain⟨es2,hdel,hs2,hm2⟩:=run_delete (P:=Tryz.prog) (w:=w4) (tx:=3) (ty:=0) mapU intU hD4.at_ (fun x hx=>hkeys x (hD.sub.subset hx)) ((hD.sub.map _).nodup hnod) z
    rw[← hz] at hm2
    have hD5:=hD4.struck (Nat.le_refl _) hgl hem hbnd hnod hp hs2 hm2
    go_wp2
    go_roundw
    case rel=>exact⟨es2,it.push e.born,it.push e.born,cl,hD5,rfl⟩
    case measure=>rw[leftW_eq hD5,leftW_eq hD];exact left_struck he hs2
theorem cell_lt' {w:World} {a:Addr} {v:Value} (h:w.cell? a=some v):a.block<w.heap.size:=by
 refine Nat.lt_of_not_le fun hn=>?_
 have:w.heap[a.block]?=none:=Array.getElem?_eq_none hn
 simp[World.cell?,this] at h
theorem cell_map {w:World} {a:Addr} {v:Value} {es:Array MapEntry} {cl:Nat} (h:w.cell? a=some v):w.heap[a.block]?≠some (.map es cl):=fun q=>by
 simp[World.cell?,q] at h
set_option maxHeartbeats 4000000 in
set_option maxRecDepth 100000 in
theorem delC_any (gb rb ro n cap:Nat) (z x y e:Int) (W:World) (h1:W.cell? ⟨gb,2,none⟩=some (.slice (some ⟨rb,ro,none⟩) n cap)) (hz0:0≤z) (hz:z<n) (h2:W.cell? ⟨rb,ro+z.toNat * 2+1,none⟩=some (.int .i64 e)) :
  Calls Tryz.prog 87 #[.int .i64 z,.agg #[.int .i64 x,.int .i64 y],.pointer (some ⟨gb,0,none⟩)] W fun ex W'=>ex=.returned (.bool (decide (y≤e)))∧Below W.heap.size W W':=by
 go_enter Tryz.func87,Tryz.ntmps87
 go_wp2
 have c1:=(World.cell?_alloc_lt W (.cells #[.int .i64 x,.int .i64 y] 92) _ (cell_lt' h1)).trans h1
 have c2:=(World.cell?_alloc_lt W (.cells #[.int .i64 x,.int .i64 y] 92) _ (cell_lt' h2)).trans h2
 have c3:(W.alloc (.cells #[.int .i64 x,.int .i64 y] 92)).cell? ⟨W.heap.size,1,none⟩=some (.int .i64 y):=by rw[World.cell?_alloc_new];rfl
 have hb:Below W.heap.size W (W.alloc (.cells #[.int .i64 x,.int .i64 y] 92)):=(Below.refl _ _).alloc (Nat.le_refl _) _
 generalize W.alloc (.cells #[.int .i64 x,.int .i64 y] 92)=W1 at *
 clear h1 h2
 go_quiet (fail)
 go_wp2
 go_ret
 exact⟨rfl,hb.os,hb.tape,hb.output,hb.size,hb.block⟩
theorem Sat.boxCell' {C:Ctx} {ρ:Nat→Pl} {fr:AF} {mem:AM} {nx:Nat} {a:Act} {w:World} (h:Sat C ρ fr mem nx a w) {i:Nat} {t:TypeId} {cs:List Value} (hi:lk mem i=some (.box t cs)):∃ g,(ρ i).A=some ⟨g,0,none⟩∧∀ k v,cs[k]?=some v→w.cell? ⟨g,k,none⟩=some (den1 ρ v):=by
 obtain⟨g,hA,hb,-,-⟩:=h.blk i _ (lk_app hi)
 exact⟨g,hA,fun k v hv=>hb.cell' (by simp[hv])⟩
def hintF (hm:Int→Option (Int×Int)):Int→Option (List Value):=fun z=>(hm z).map pairC
theorem hintF_some {hm:Int→Option (Int×Int)} {z:Int} {l:List Value} (h:hintF hm z=some l):∃ p,hm z=some p∧l=pairC p:=by
 unfold hintF at h
 cases q:hm z with
 | none=>rw[q] at h;cases h
 | some p=>rw[q] at h;exact⟨p,rfl,(Option.some.inj h).symm⟩
theorem hintF_none {hm:Int→Option (Int×Int)} {z:Int} (h:hintF hm z=none):hm z=none:=by
 unfold hintF at h
 cases q:hm z with
 | none=>rfl
 | some p=>rw[q] at h;cases h
def delH (hm:Int→Option (Int×Int)) (rs:List (Int×Int)):Int→Option (Int×Int):=fun z=>match hm z with
 | none=>none
 | some p=>if p.2≤(rs.getD z.toNat (0,0)).2 then none else some p
def putH (hm:Int→Option (Int×Int)) (z:Int) (p:Int×Int):Int→Option (Int×Int):=fun y=>if y=z then some p else hm y
theorem putH_put (hm:Int→Option (Int×Int)) (z:Int) (p:Int×Int):mapPut (hintF hm) z (pairC p) (hintF (putH hm z p)):=fun y=>by
 unfold hintF putH
 by_cases h:y=z
 ·rw[if_pos h,if_pos h];rfl
 ·rw[if_neg h,if_neg h]
def ctDelG:CT:=fun vs mem nx K=>∃ h hm bx v0 v1 cap v3 v4 rk rs,vs=[.map (some h),.func (.func 87) #[] #[ptr bx]]∧lk mem h=some (.ext (.map .i64 true (hintF hm)))∧lk mem bx=some (.box 112 [v0,v1,slc rk (rs:List (Int×Int)).length cap,v3,v4])∧HasRow mem rk 2 pairC (0,0) rs∧(∀ z p,hm z=some p→0≤z∧z<rs.length)∧K (.tuple #[]) ((h,.ext (.map .i64 true (hintF (delH hm rs))))::mem) nx
theorem callT {args:Array Value} {w:World}:(callFunc 87 args).run Tryz.prog w=.ok (.enter 87 args) w:=by
 have h:(Tryz.prog).funcs[87]?=some Tryz.f87:=Tryz.func87
 have h1 : Tryz.f87.name ≠ "runtime.NumGoroutine" := by
  have : (Tryz.f87.name == "runtime.NumGoroutine") = false := by kernel_rfl
  simpa using this
 have h2:Tryz.f87.body=some (bodyOf Tryz.f87):=rfl
 simp[callFunc,h,h1,h2,mark]
theorem delGOk:CSound Tryz.prog 86 ctDelG:=⟨by kernel_rfl,fun {C ρ fr mem nx a w vs K} hc hs hv=>by
 obtain⟨h,hm,bx,v0,v1,cap,v3,v4,rk,rs,rfl,hl,hbx,hrow,hin,hK⟩:=hc
 obtain⟨g,es,cl,e1,e2,hbor,hM⟩:=hs.blk h _ (lk_app (r:=C.fm) hl)
 obtain⟨gb,hA,hcell⟩:=hs.boxCell' hbx
 have hc2:w.cell? ⟨gb,2,none⟩=some (.slice (ρ rk).A rs.length cap):=hcell 2 _ rfl
 have hrd:=hs.hasRd (enc:=pairC) (sz:=2) (fun _=>rfl) (by omega) hrow
 let p:MapEntry→Bool:=fun e=>match e.key,e.val with
  | .int _ z,.agg #[_,.int _ y]=>decide (y≤(rs.getD z.toNat (0,0)).2)
  | _,_=>false
 have hent:∀ e ∈ es.toList,∃ z q,e.key=.int .i64 z∧hm z=some q∧e.val=.agg #[.int .i64 q.1,.int .i64 q.2]∧p e=decide (q.2≤(rs.getD z.toNat (0,0)).2):=fun e he=>by
  obtain⟨z,l,h1,h2,h3⟩:=hM.key e he
  obtain⟨q,h4,rfl⟩:=hintF_some h2
  refine⟨z,q,h1,h4,h3,?_⟩
  show (match e.key,e.val with
   | .int _ z,.agg #[_,.int _ y]=>decide (y≤(rs.getD z.toNat (0,0)).2)
   | _,_=>false)=_
  rw[h1,h3]
  rfl
 have e3:([.map (some h),.func (.func 87) #[] #[ptr bx]].map (den ρ)).toArray=#[.map (some g),.func (.func 87) #[] #[.pointer (some ⟨gb,0,none⟩)]]:=by
  have:(ρ h).A.map (·.block)=some g:=by rw[e1];rfl
  simp[den,den2,den1,this,dA_whole,hA]
 rw[e3]
 refine (delG_any 87 g #[.pointer (some ⟨gb,0,none⟩)] p es cl w (fun _ _=>callT) e2 hM.born hM.bnd (fun e he=>by obtain⟨z,q,h1,-⟩:=hent e he;exact⟨z,h1⟩) hM.nod (fun e he=>by obtain⟨z,q,-,-,h1,-⟩:=hent e he;exact⟨_,_,h1⟩) (fun W e he hW=>?_)).mono ?_
 ·obtain⟨z,q,h1,h2,h3,h4⟩:=hent e he
  obtain⟨hz0,hz⟩:=hin z q h2
  obtain⟨b,off,x,hA2,hb2,hx,hcl⟩:=hrd.row (enc:=pairC) (sz:=2) (fun _=>rfl) (by omega) (k:=z.toNat) (by omega)
  rw[hA2] at hc2
  have hx2:rs.getD z.toNat (0,0)=x:=by rw[List.getD_eq_getElem?_getD,hx];rfl
  have hr2:=hcl 1 (.int .i64 x.2) rfl
  have k1:=(World.cell?_of_block (w:=w) (a:=⟨gb,2,none⟩) (hW gb (cell_lt' hc2) (fun q=>by subst q;exact cell_map hc2 e2))).trans hc2
  have k2:=(World.cell?_of_block (w:=w) (a:=⟨b,off+z.toNat * 2+1,none⟩) (hW b (cell_lt' hr2) (fun q=>by subst q;exact cell_map hr2 e2))).trans hr2
  rw[h1,h3,h4,hx2]
  exact delC_any gb b off rs.length cap z q.1 q.2 x.2 W k1 hz0 hz k2
 ·rintro e w' ⟨rfl,es',seen,it,c0,hD,hst⟩
  have hmo:MapOk .i64 true es' cl (hintF (delH hm rs)):=by
   have hsub:=hD.sub
   refine⟨fun e he=>?_,(hsub.map _).nodup hM.nod,fun e he=>hM.born e (hsub.subset he),(hsub.map _).nodup hM.bnd,fun z l hz=>?_,fun z l hz=>?_⟩
   ·obtain⟨z,q,h1,h2,h3,h4⟩:=hent e (hsub.subset he)
    refine⟨z,pairC q,h1,?_,h3⟩
    have:=hst e he
    rw[h4] at this
    unfold hintF delH
    rw[h2]
    dsimp only
    rw[if_neg (of_decide_eq_false this)]
    rfl
   ·obtain⟨q,h1,rfl⟩:=hintF_some hz
    unfold delH at h1
    cases h2:hm z with
    | none=>rw[h2] at h1;cases h1
    | some q2=>
     rw[h2] at h1
     dsimp only at h1
     split at h1
     ·cases h1
     ·rename_i hn
      obtain⟨e,he,hk⟩:=hM.all z (pairC q2) (by unfold hintF;rw[h2];rfl)
      refine⟨e,(hD.gone e he).resolve_right fun hp=>?_,hk⟩
      obtain⟨z',q',g1,g2,g3,g4⟩:=hent e he
      rw[hk] at g1
      cases g1
      rw[h2] at g2
      cases g2
      rw[g4] at hp
      exact hn (of_decide_eq_true hp)
   ·obtain⟨q,h1,rfl⟩:=hintF_some hz
    exact⟨fun u hu=>by simp[pairC] at hu;rcases hu with rfl | rfl<;>trivial,rfl,fun q=>by cases q⟩
  have hs1:Sat C ρ fr ((h,.ext (.map .i64 true (hintF (delH hm rs))))::mem) nx a (setObjW w g (.map es' cl)):=hs.write hl setObjW_size (fun b hb=>setObjW_far fun e=>hb (by
   show bno ρ h=some b
   rw[e];simp[bno,e1])) ⟨g,es',cl,e1,setObjW_at (heap_lt e2),hbor,hmo⟩ (fun g hg=>hg) (fun g hg=>hg) (setObjW_rest C hbor hs.rest)
  have hb2:Below (setObjW w g (.map es' cl)).heap.size (setObjW w g (.map es' cl)) w':=⟨hD.os,hD.tape,hD.output,by rw[setObjW_size];exact hD.size,fun b hb=>by
   rw[setObjW_size] at hb
   by_cases q:b=g
   ·subst q;rw[hD.at_,setObjW_at (heap_lt e2)]
   ·rw[setObjW_far q];exact hD.block b hb q⟩
  exact⟨.tuple #[],_,nx,ρ,by simp[den],hK,hs1.later hb2,(fun v hv=>by simp at hv),ExtS.refl _ _⟩⟩
end Go.Proofs.YtchhdflealgkaaaGreat
namespace Go.Proofs.YtchhdflealgkaaaGreat
open Go.RowKit
set_option linter.unusedSimpArgs false
set_option linter.unusedVariables false
/-! router.Take with hints,by inlining;what is known of a tenant. -/
/-! Steps: four numbers each. -/
def ttS:TT:=[(45,tiRec [zi,zi,zi,zi] [0,1,2,3] [1,1,1,1] [1,1,1,1]),(23,tiSl 4 45 32)]++ttR
/-! router.Take,by inlining. -/
/-! The digest tells its arguments apart. -/
/-! What Fold answers. -/
def foldGo (c:Cfg):Int→St→List Ent→St×Int×Int
 | i,s,[]=>(s,i,0)
 | i,s,e::r=>if (applyP c s e).2≠0 then (s,i,(applyP c s e).2) else foldGo c (i+1) (applyP c s e).1 r
def foldC (c:Cfg) (es:List Ent):St×Int×Int:=foldGo c 0 (stNew c) es
theorem addAt_len (l:List Int) (i n:Int):(addAt l i n).length=l.length:=by unfold addAt;split<;>simp
def bookK (c:Cfg) (s:St) (k:Nat):List Int:=((s.tenants.zip c.tenants).take k).foldl (fun l p=>bookT l p.1 p.2) (List.replicate c.cells.length 0)
theorem bookK_succ {c:Cfg} {s:St} {k:Nat} {t:TS} {d:Ten} (h1:s.tenants[k]?=some t) (h2:c.tenants[k]?=some d):bookK c s (k+1)=bookT (bookK c s k) t d:=by
 have hz:(s.tenants.zip c.tenants)[k]?=some (t,d):=by
  rw[List.getElem?_zip_eq_some]
  exact⟨h1,h2⟩
 obtain⟨hk,he⟩:=List.getElem?_eq_some_iff.1 hz
 unfold bookK
 rw[List.take_succ_eq_append_getElem hk,List.foldl_append,he]
 rfl
theorem bookK_all (c:Cfg) (s:St) {k:Nat} (hk:s.tenants.length≤k):bookK c s k=booked c s:=by
 unfold bookK booked
 rw[List.take_of_length_le]
 rw[List.length_zip]
 omega
def Within (l:List Int) (m:Int):Prop:=∀ z ∈ l,0≤z∧z≤m
theorem Within.add {l:List Int} {m n:Int} (h:Within l m) (hn:0≤n) (i:Int):Within (addAt l i n) (m+n):=by
 unfold addAt
 split
 ·rename_i hi
  intro z hz
  obtain⟨k,rfl⟩:=Int.eq_ofNat_of_zero_le hi.1
  have hk:k<l.length:=by omega
  rcases List.mem_or_eq_of_mem_set hz with hz | rfl
  ·have:=h z hz;omega
  ·rw[Int.toNat_natCast,getD_some (List.getElem?_eq_getElem hk)]
   have:=h _ (List.getElem_mem hk)
   omega
 ·intro z hz
  have:=h z hz
  omega
theorem bookT_len (l:List Int) (t:TS) (d:Ten):(bookT l t d).length=l.length:=by
 unfold bookT
 split
 ·rfl
 ·rw[addAt_len,addAt_len]
  split
  ·rfl
  ·rw[addAt_len,addAt_len]
theorem Within.mono {l:List Int} {m m':Int} (h:Within l m) (hm:m≤m'):Within l m':=fun z hz=>by have:=h z hz;omega
theorem Within.book {l:List Int} {m:Int} (h:Within l m) (t:TS) {d:Ten} (h1:0≤d.load) (h2:0≤d.shadow):Within (bookT l t d) (m+2 * d.load+2 * d.shadow):=by
 unfold bookT
 split
 ·exact h.mono (by omega)
 ·split
  ·exact ((h.add h2 _).add h2 _).mono (by omega)
  ·exact ((((h.add h1 _).add h1 _).add h2 _).add h2 _).mono (by omega)
theorem bookK_len (c:Cfg) (s:St) (k:Nat):(bookK c s k).length=c.cells.length:=by
 unfold bookK
 generalize (s.tenants.zip c.tenants).take k=q
 have:∀ (q:List (TS×Ten)) (l:List Int),(q.foldl (fun l p=>bookT l p.1 p.2) l).length=l.length:=by
  intro q
  induction q with
  | nil=>intro l;rfl
  | cons a q ih=>intro l;rw[List.foldl_cons,ih,bookT_len]
 rw[this]
 simp
theorem bookK_within {c:Cfg} (hV:CfgV c) (s:St):∀ k,Within (bookK c s k) (k * 262144):=by
 intro k
 induction k with
 | zero=>
  intro z hz
  have:z=0:=by
   have hz':z ∈ List.replicate c.cells.length (0:Int):=hz
   exact List.eq_of_mem_replicate hz'
  subst this
  simp
 | succ k ih=>
  cases h1:s.tenants[k]? with
  | none=>
   have hk:s.tenants.length≤k:=by simpa using h1
   rw[bookK_all c s (by omega),← bookK_all c s hk]
   exact ih.mono (by omega)
  | some t=>
   cases h2:c.tenants[k]? with
   | none=>
    have hk:c.tenants.length≤k:=by simpa using h2
    have e:bookK c s (k+1)=bookK c s k:=by
     unfold bookK
     rw[List.take_of_length_le (by rw[List.length_zip];omega),List.take_of_length_le (by rw[List.length_zip];omega)]
    rw[e]
    exact ih.mono (by omega)
   | some d=>
    rw[bookK_succ h1 h2]
    have hd:=tenAt_bd hV h2
    exact (ih.book t (by omega) (by omega)).mono (by omega)
/-! ref11.Booked,ref11.Over -/
theorem addAt_in {l:List Int} {i n:Int} (h0:0≤i) (h1:i<l.length):addAt l i n=l.set i.toNat (l.getD i.toNat 0+n):=by unfold addAt;rw[if_pos ⟨h0,h1⟩]
theorem addAt_out {l:List Int} {i n:Int} (h:¬ (0≤i∧i<l.length)):addAt l i n=l:=by unfold addAt;rw[if_neg h]
theorem Within.getD {l:List Int} {m:Int} (h:Within l m) {k:Nat} (hk:k<l.length):0≤l.getD k 0∧l.getD k 0≤m:=by
 rw[getD_some (List.getElem?_eq_getElem hk)]
 exact h _ (List.getElem_mem hk)
abbrev rowI (n:Nat) (l:List Int):ABlk:=.row (1000000+3) 1 n (fun k=>intC (l.getD k 0))
def bkF:FT:=[(204,ctInl tt [] [] Tryz.f204 (bodyOf Tryz.f204))]
def bkD:List (Nat×DQ):=[(9000000,{ k:=0,L:=[204] }),
 (2000003,{ k:=0,L:=[0,1,2,3,4,5,6,7,8,9,10,11],sl:=[2,3,5] }),
 (5,{ k:=13,L:=[0,1,2,3,4,5,6,7,8,9,10,11],A:=[10,11],pre:=[(0,false),(1,false),(2,false),(3,false),(4,false),(5,false),(6,false),(7,false),(8,false),(9,false)],post:=[(12,true)] }),
 (1000009,{ k:=15,L:=[0,1,2,3,4,5,6,7,8,9,10,11,13,14],sl:=[2,3,5,6,7,8] }),
 (1000010,{ k:=15,L:=[0,1,2,3,4,5,6,7,8,9,10,11,13,14],sl:=[2,3,5,6,7,8] }),
 (1000011,{ k:=15,L:=[0,1,2,3,4,5,6,7,8,9,10,11,13,14],sl:=[2,3,5,6,7,8] }),
 (1000004,{ k:=15,L:=[0,1,2,3,4,5,6,7,8,9,10,11],sl:=[2,3,5,6] })]
theorem bkFok:FTokI Tryz.prog bkF (inlOf bkD):=fti_cons (inl_ok ttOk (ft_nil.i _) mixed (by kernel_rfl) Tryz.func204 rfl (by kernel_rfl) (by decide)) fti_nil
set_option maxRecDepth 100000 in
set_option maxHeartbeats 4000000 in
theorem booked_sx (x:CfgK) (c:Cfg) (y:StK) (s:St) (hV:CfgV c) (hlt:s.tenants.length=c.tenants.length) :
  sx tt bkF bkD (bodyOf Tryz.f201) (argF 0 [cfgV CN1 x c,stV SN1 y s]) (rdM c s noS) 10 (endx tt Tryz.f201.results.toList fun v mem' _=>SlR mem' 1 intC 0 (booked c s) v):=by
 have hnt:=hV.nt
 have hnc:=hV.nc
 have e0:(fun _:Nat=>[zi])=fun k=>intC ((bookK c s 0).getD k 0):=by
  funext k
  show [zi]=intC ((List.replicate c.cells.length (0:Int)).getD k 0)
  rw[List.getD_eq_getElem?_getD,List.getElem?_replicate]
  split<;>rfl
 refine⟨⟨Int.le_refl _,by omega,by show _ * (8:Int)≤_;omega⟩,?_⟩
 refine⟨Int×List Int,fun q=>match q with | (i,l)=>[(6,.int .i64 i)],fun q=>match q with | (i,l)=>[(12,rowI c.cells.length l)],fun q=>match q with | (i,l)=>(0≤i∧i≤s.tenants.length)∧l=bookK c s i.toNat,fun q=>match q with | (i,l)=>((s.tenants.length:Int)-i).toNat,⟨(0,bookK c s 0),⟨by omega,rfl⟩,kp_,⟨?_,kp_⟩⟩,?_⟩
 ·show some (ABlk.row _ 1 _ (fun _=>[zi]))=_
  rw[e0]
  rfl
 ·rintro⟨i,l⟩ ⟨hi,hl⟩
  refine⟨⟨rfl,rfl⟩,?_⟩
  refine⟨fun hlt1=>?_,fun hge=>?_⟩
  ·have hlt2:i<(s.tenants.length:Int):=of_decide_eq_true hlt1
   have hk0:i.toNat<s.tenants.length:=by omega
   have hk1:i.toNat<c.tenants.length:=by omega
   have hd:=tenAt_bd hV (getD_get (d:=default) hk1)
   have hw0:=bookK_within hV s i.toNat
   have hl0:=bookK_len c s i.toNat
   have hsucc:=bookK_succ (getD_get (d:=default) hk0) (getD_get (d:=default) hk1)
   refine⟨List Int,fun _=>[],fun l=>[(12,rowI c.cells.length l)],fun l=>l=(bookT (bookK c s i.toNat) (s.tenants.getD i.toNat default) (c.tenants.getD i.toNat default)),?_,?_⟩
   ·refine⟨⟨Nat.le_refl _,hi.1,hlt2⟩,?_⟩
    refine⟨⟨Nat.le_refl _,hi.1,by omega⟩,?_⟩
    refine⟨kp_,?_⟩
    refine⟨fun hp=>?_,fun hp=>?_⟩
    ·refine⟨_,?_,kp_,kp_⟩
     rw[hl];unfold bookT;rw[if_pos (by simpa using hp)]
    ·have hpl:(s.tenants.getD i.toNat default).placed=true:=by simpa using hp
     refine⟨List Int,fun _=>[],fun l=>[(12,rowI c.cells.length l)],fun l=>l=(if (s.tenants.getD i.toNat default).shed then (bookK c s i.toNat) else (addAt (addAt (bookK c s i.toNat) (s.tenants.getD i.toNat default).home (c.tenants.getD i.toNat default).load) (s.tenants.getD i.toNat default).target (c.tenants.getD i.toNat default).load)),?_,?_⟩
     ·refine⟨fun hs=>?_,fun hs=>?_⟩
      ·have hs2:(s.tenants.getD i.toNat default).shed=false:=by simpa using hs
       refine⟨List Int,fun _=>[],fun l=>[(12,rowI c.cells.length l)],fun l=>l=(addAt (bookK c s i.toNat) (s.tenants.getD i.toNat default).home (c.tenants.getD i.toNat default).load),?_,?_⟩
       ·have hle:=hl
        have hw:=hw0
        rw[← hle] at hw
        have hlen:l.length=c.cells.length:=by rw[hle];exact hl0
        refine⟨fun a0=>?_,fun a0=>?_⟩
        ·refine⟨fun a1=>?_,fun a1=>?_⟩
         ·have a1b:(s.tenants.getD i.toNat default).home<(l.length:Int):=by have q:(s.tenants.getD i.toNat default).home<((c.cells.length:Int).toNat:Int):=of_decide_eq_true a1;omega
          have a0b:0≤(s.tenants.getD i.toNat default).home:=of_decide_eq_true a0
          have hk:((s.tenants.getD i.toNat default).home).toNat<l.length:=by omega
          have hg:=hw.getD hk
          refine⟨⟨by omega,a0b,by omega⟩,?_⟩
          refine⟨⟨by omega,a0b,by omega⟩,?_⟩
          refine⟨intC (l.getD ((s.tenants.getD i.toNat default).home).toNat 0+(c.tenants.getD i.toNat default).load),by rw[wrapi (n:=l.getD ((s.tenants.getD i.toNat default).home).toNat 0+(c.tenants.getD i.toNat default).load) (by omega)];rfl,?_⟩
          rw[setEl_set hk]
          refine⟨_,?_,kp_,kp_⟩
          rw[← hle];exact (addAt_in a0b a1b).symm
         ·refine⟨_,?_,kp_,kp_⟩
          rw[← hle];exact (addAt_out (by rintro⟨-,q⟩;have q2:¬ (s.tenants.getD i.toNat default).home<((c.cells.length:Int).toNat:Int):=of_decide_eq_false a1;omega)).symm
        ·refine⟨(fun h=>nomatch h),fun _=>?_⟩
         refine⟨_,?_,kp_,kp_⟩
         rw[← hle];exact (addAt_out (by rintro⟨q,-⟩;exact absurd q (of_decide_eq_false a0))).symm
       ·rintro l hle
        refine⟨⟨by decide,rfl,rfl⟩,?_⟩
        have hw1:=hw0.add (n:=(c.tenants.getD i.toNat default).load) (by omega) (s.tenants.getD i.toNat default).home
        have hw:=hw1
        rw[← hle] at hw
        have hlen:l.length=c.cells.length:=by rw[hle,addAt_len];exact hl0
        refine⟨fun a0=>?_,fun a0=>?_⟩
        ·refine⟨fun a1=>?_,fun a1=>?_⟩
         ·have a1b:(s.tenants.getD i.toNat default).target<(l.length:Int):=by have q:(s.tenants.getD i.toNat default).target<((c.cells.length:Int).toNat:Int):=of_decide_eq_true a1;omega
          have a0b:0≤(s.tenants.getD i.toNat default).target:=of_decide_eq_true a0
          have hk:((s.tenants.getD i.toNat default).target).toNat<l.length:=by omega
          have hg:=hw.getD hk
          refine⟨⟨by omega,a0b,by omega⟩,?_⟩
          refine⟨⟨by omega,a0b,by omega⟩,?_⟩
          refine⟨intC (l.getD ((s.tenants.getD i.toNat default).target).toNat 0+(c.tenants.getD i.toNat default).load),by rw[wrapi (n:=l.getD ((s.tenants.getD i.toNat default).target).toNat 0+(c.tenants.getD i.toNat default).load) (by omega)];rfl,?_⟩
          rw[setEl_set hk]
          refine⟨_,?_,kp_,kp_⟩
          rw[hs2,if_neg (by decide),← hle];exact (addAt_in a0b a1b).symm
         ·refine⟨_,?_,kp_,kp_⟩
          rw[hs2,if_neg (by decide),← hle];exact (addAt_out (by rintro⟨-,q⟩;have q2:¬ (s.tenants.getD i.toNat default).target<((c.cells.length:Int).toNat:Int):=of_decide_eq_false a1;omega)).symm
        ·refine⟨(fun h=>nomatch h),fun _=>?_⟩
         refine⟨_,?_,kp_,kp_⟩
         rw[hs2,if_neg (by decide),← hle];exact (addAt_out (by rintro⟨q,-⟩;exact absurd q (of_decide_eq_false a0))).symm
      ·have hs2:(s.tenants.getD i.toNat default).shed=true:=by simpa using hs
       refine⟨_,?_,kp_,kp_⟩
       rw[hs2,if_pos rfl];exact hl
     ·rintro l hle
      refine⟨⟨by decide,rfl,rfl⟩,?_⟩
      refine⟨List Int,fun _=>[],fun l=>[(12,rowI c.cells.length l)],fun l=>l=(addAt (if (s.tenants.getD i.toNat default).shed then (bookK c s i.toNat) else (addAt (addAt (bookK c s i.toNat) (s.tenants.getD i.toNat default).home (c.tenants.getD i.toNat default).load) (s.tenants.getD i.toNat default).target (c.tenants.getD i.toNat default).load)) (s.tenants.getD i.toNat default).standby (c.tenants.getD i.toNat default).shadow),?_,?_⟩
      ·have hw2:Within (if (s.tenants.getD i.toNat default).shed then (bookK c s i.toNat) else (addAt (addAt (bookK c s i.toNat) (s.tenants.getD i.toNat default).home (c.tenants.getD i.toNat default).load) (s.tenants.getD i.toNat default).target (c.tenants.getD i.toNat default).load)) ((i.toNat:Int) * 262144+(c.tenants.getD i.toNat default).load+(c.tenants.getD i.toNat default).load):=by
        split
        ·exact hw0.mono (by omega)
        ·exact (hw0.add (n:=(c.tenants.getD i.toNat default).load) (by omega) (s.tenants.getD i.toNat default).home).add (n:=(c.tenants.getD i.toNat default).load) (by omega) (s.tenants.getD i.toNat default).target
       have hw:=hw2
       rw[← hle] at hw
       have hlen:l.length=c.cells.length:=by
        rw[hle];split<;>simp only[addAt_len,hl0]
       refine⟨fun a0=>?_,fun a0=>?_⟩
       ·refine⟨fun a1=>?_,fun a1=>?_⟩
        ·have a1b:(s.tenants.getD i.toNat default).standby<(l.length:Int):=by have q:(s.tenants.getD i.toNat default).standby<((c.cells.length:Int).toNat:Int):=of_decide_eq_true a1;omega
         have a0b:0≤(s.tenants.getD i.toNat default).standby:=of_decide_eq_true a0
         have hk:((s.tenants.getD i.toNat default).standby).toNat<l.length:=by omega
         have hg:=hw.getD hk
         refine⟨⟨by omega,a0b,by omega⟩,?_⟩
         refine⟨⟨by omega,a0b,by omega⟩,?_⟩
         refine⟨intC (l.getD ((s.tenants.getD i.toNat default).standby).toNat 0+(c.tenants.getD i.toNat default).shadow),by rw[wrapi (n:=l.getD ((s.tenants.getD i.toNat default).standby).toNat 0+(c.tenants.getD i.toNat default).shadow) (by omega)];rfl,?_⟩
         rw[setEl_set hk]
         refine⟨_,?_,kp_,kp_⟩
         rw[← hle];exact (addAt_in a0b a1b).symm
        ·refine⟨_,?_,kp_,kp_⟩
         rw[← hle];exact (addAt_out (by rintro⟨-,q⟩;have q2:¬ (s.tenants.getD i.toNat default).standby<((c.cells.length:Int).toNat:Int):=of_decide_eq_false a1;omega)).symm
       ·refine⟨(fun h=>nomatch h),fun _=>?_⟩
        refine⟨_,?_,kp_,kp_⟩
        rw[← hle];exact (addAt_out (by rintro⟨q,-⟩;exact absurd q (of_decide_eq_false a0))).symm
      ·rintro l hle
       refine⟨⟨by decide,rfl,rfl⟩,?_⟩
       have hw2:Within (if (s.tenants.getD i.toNat default).shed then (bookK c s i.toNat) else (addAt (addAt (bookK c s i.toNat) (s.tenants.getD i.toNat default).home (c.tenants.getD i.toNat default).load) (s.tenants.getD i.toNat default).target (c.tenants.getD i.toNat default).load)) ((i.toNat:Int) * 262144+(c.tenants.getD i.toNat default).load+(c.tenants.getD i.toNat default).load):=by
        split
        ·exact hw0.mono (by omega)
        ·exact (hw0.add (n:=(c.tenants.getD i.toNat default).load) (by omega) (s.tenants.getD i.toNat default).home).add (n:=(c.tenants.getD i.toNat default).load) (by omega) (s.tenants.getD i.toNat default).target
       have hw3:=hw2.add (n:=(c.tenants.getD i.toNat default).shadow) (by omega) (s.tenants.getD i.toNat default).standby
       have hw:=hw3
       rw[← hle] at hw
       have hlen:l.length=c.cells.length:=by
        rw[hle,addAt_len]
        split<;>simp only[addAt_len,hl0]
       have hbt:(bookT (bookK c s i.toNat) (s.tenants.getD i.toNat default) (c.tenants.getD i.toNat default))=addAt (addAt (if (s.tenants.getD i.toNat default).shed then (bookK c s i.toNat) else (addAt (addAt (bookK c s i.toNat) (s.tenants.getD i.toNat default).home (c.tenants.getD i.toNat default).load) (s.tenants.getD i.toNat default).target (c.tenants.getD i.toNat default).load)) (s.tenants.getD i.toNat default).standby (c.tenants.getD i.toNat default).shadow) (s.tenants.getD i.toNat default).next (c.tenants.getD i.toNat default).shadow:=by unfold bookT;rw[if_neg (by rw[hpl];decide)]
       rw[← hle] at hbt
       refine⟨fun a0=>?_,fun a0=>?_⟩
       ·refine⟨fun a1=>?_,fun a1=>?_⟩
        ·have a1b:(s.tenants.getD i.toNat default).next<(l.length:Int):=by have q:(s.tenants.getD i.toNat default).next<((c.cells.length:Int).toNat:Int):=of_decide_eq_true a1;omega
         have a0b:0≤(s.tenants.getD i.toNat default).next:=of_decide_eq_true a0
         have hk:((s.tenants.getD i.toNat default).next).toNat<l.length:=by omega
         have hg:=hw.getD hk
         refine⟨⟨by omega,a0b,by omega⟩,?_⟩
         refine⟨⟨by omega,a0b,by omega⟩,?_⟩
         refine⟨intC (l.getD ((s.tenants.getD i.toNat default).next).toNat 0+(c.tenants.getD i.toNat default).shadow),by rw[wrapi (n:=l.getD ((s.tenants.getD i.toNat default).next).toNat 0+(c.tenants.getD i.toNat default).shadow) (by omega)];rfl,?_⟩
         rw[setEl_set hk]
         refine⟨_,?_,kp_,kp_⟩
         rw[hbt];exact (addAt_in a0b a1b).symm
        ·refine⟨_,?_,kp_,kp_⟩
         rw[hbt];exact (addAt_out (by rintro⟨-,q⟩;have q2:¬ (s.tenants.getD i.toNat default).next<((c.cells.length:Int).toNat:Int):=of_decide_eq_false a1;omega)).symm
       ·refine⟨(fun h=>nomatch h),fun _=>?_⟩
        refine⟨_,?_,kp_,kp_⟩
        rw[hbt];exact (addAt_out (by rintro⟨q,-⟩;exact absurd q (of_decide_eq_false a0))).symm
   ·rintro l hle
    refine⟨⟨by decide,rfl,rfl⟩,?_⟩
    refine⟨(_,_),?_,kp_,kp_⟩
    dsimp only
    rw[wrapi (n:=i+1) (by omega)]
    refine⟨⟨by omega,?_⟩,by omega⟩
    rw[show (i+1).toNat=i.toNat+1 by omega,hsucc]
    exact hle
  ·have hge2:¬ i<(s.tenants.length:Int):=of_decide_eq_false hge
   have hb:bookK c s i.toNat=booked c s:=bookK_all c s (by omega)
   rw[hb] at hl
   have hlen:(booked c s).length=c.cells.length:=by rw[← hb];exact bookK_len c s _
   subst hl
   exact .inr ⟨12,_,_,c.cells.length,_,by rw[hlen];rfl,rfl,rfl,by omega,fun k hk=>rfl⟩
theorem r11Booked_calls (x:CfgA) (c:Cfg) (y:StA) (s:St) (w:World) (hV:CfgV c) (hlt:s.tenants.length=c.tenants.length) (hc:CfgOk w (·<w.heap.size) x c) (hs:StOk w (·<w.heap.size) y s) :
  Calls Tryz.prog 201 #[.agg (cfgC x c),.agg (stC y s)] w fun e w'=>∃ A cp,e=.returned (.slice A (booked c s).length cp)∧Rd w' (fun b=>w.heap.size≤b∧b<w'.heap.size) A (flat intC (booked c s))∧Below w.heap.size w w':=by
 have:=rd_callsM ttOk bkFok Tryz.func201 rfl (D:=bkD) (by kernel_rfl) (vs:=[cfgV CN1 (ck x) c,stV SN1 (sk y) s]) rfl x c y s noA noS w hc hs (noS_ok w _) (fun v hv=>by
  simp only[List.mem_cons,List.not_mem_nil,or_false] at hv
  rcases hv with rfl | rfl
  ·exact rpl_cfg_ok x c y s noA noS
  ·exact rpl_st_ok x c y s noA noS) (booked_sx (ck x) c (sk y) s hV hlt)
 rw[List.map_cons,List.map_cons,rpl_cfg,rpl_st] at this
 refine this.mono ?_
 rintro e w' ⟨v,mem',nx',ρ',rfl,hR,hv,hm',hb⟩
 obtain⟨A,cp,e1,hr⟩:=hm'.slR (enc:=intC) (sz:=1) (fun _=>rfl) (by omega) hR
 refine⟨A,cp,?_,hr,hb⟩
 congr 1
 rcases hR with⟨rfl,-⟩ | ⟨r,cap,t,n,el,rfl,-⟩
 ·exact e1
 ·exact e1
def ctBookedR:CT:=fun vs mem nx K=>∃ N x c M y s,vs=[cfgV N x c,stV M y s]∧(keeps mem (cfgM N c)∧HasRow mem M.t 12 tsC default s.tenants∧HasRow mem M.c 4 csC default s.cells)∧(CfgV c∧s.tenants.length=c.tenants.length)∧∀ cap,K (slc nx (booked c s).length cap) ((nx,rowOfL 500000 1 intC 0 (booked c s))::mem) (nx+1)
theorem bookedROk:CSound Tryz.prog 201 ctBookedR:=⟨by kernel_rfl,fun {C ρ fr mem nx a w vs K} hc hs hv=>by
 obtain⟨N,x,c,M,y,s,rfl,⟨hk,h1,h2⟩,⟨hV,hlt⟩,hK⟩:=hc
 rw[List.map_cons,List.map_cons,den_cfg,den_st]
 refine (r11Booked_calls (cfgX ρ N x) c (stX ρ M y) s w hV hlt (hs.cfg hk (fun b h _=>h)) (hs.stRow h1 h2)).mono ?_
 rintro e w' ⟨A,cp,rfl,hr,hb⟩
 obtain⟨q1,-⟩:=(hs.later hb).addList hs.frB hs.rest.size (enc:=intC) (sz:=1) (fun _=>rfl) (by omega) intC_plain 0 (t:=500000) rfl hr
 refine⟨slc nx (booked c s).length cp,_,_,_,?_,hK cp,q1,⟨Nat.lt_succ_self nx,by rw[setPl_same]⟩,⟨fun i hi=>setPl_lt ρ _ hi,Nat.le_succ _⟩⟩
 show Ending.returned _=Ending.returned _
 simp[den,den2,den1,dA_whole,dS_whole,setPl_same]⟩
def ovB (c:Cfg) (s:St) (i:Nat):Bool:=decide ((c.cells.getD i (0,0)).2<(booked c s).getD i 0)
def overN (c:Cfg) (s:St) (k:Nat):Nat:=((List.range k).filter (ovB c s)).length
theorem overN_succ (c:Cfg) (s:St) (k:Nat):overN c s (k+1)=overN c s k+(if ovB c s k=true then 1 else 0):=by
 unfold overN
 rw[List.range_succ,List.filter_append,List.length_append]
 congr 1
 by_cases h:ovB c s k=true
 ·rw[if_pos h];simp[List.filter,h]
 ·rw[if_neg h];simp[List.filter,h]
theorem overN_le (c:Cfg) (s:St) (k:Nat):overN c s k≤k:=by
 unfold overN
 have:=List.length_filter_le (ovB c s) (List.range k)
 simpa using this
theorem overN_pos (c:Cfg) (s:St):decide (0<overN c s c.cells.length)=overB c s:=by
 unfold overN overB
 cases h:(List.range c.cells.length).any fun i=>decide ((c.cells.getD i (0,0)).2<(booked c s).getD i 0) with
 | true=>
  obtain⟨i,hi,hp⟩:=List.any_eq_true.1 h
  have:i ∈ (List.range c.cells.length).filter (ovB c s):=List.mem_filter.2 ⟨hi,hp⟩
  exact decide_eq_true (List.length_pos_of_mem this)
 | false=>
  refine decide_eq_false fun hp=>?_
  obtain⟨i,hi⟩:=List.exists_mem_of_length_pos hp
  obtain⟨h1,h2⟩:=List.mem_filter.1 hi
  have:(List.range c.cells.length).any (fun i=>decide ((c.cells.getD i (0,0)).2<(booked c s).getD i 0))=true:=List.any_eq_true.2 ⟨i,h1,h2⟩
  rw[h] at this
  cases this
theorem bookedR_len (c:Cfg) (s:St):(booked c s).length=c.cells.length:=by rw[← bookK_all c s (Nat.le_refl _)];exact bookK_len c s _
def ovF:FT:=[(201,ctBookedR)]
theorem ovFok:FTok Tryz.prog ovF:=ft_cons bookedROk ft_nil
def ovD:List (Nat×DQ):=[(3000004,{ k:=14,L:=[0,1,2,3,4,5,6,7,8,9,10,11,12],sl:=[2,3,6] }),
 (6,{ k:=10,L:=[0,1,2,3,4,5,6,7,8,9,10,11,12],pre:=[(0,false),(1,false),(2,false),(3,false),(4,false),(5,false),(6,false),(7,false),(8,false),(9,false)] })]
set_option maxRecDepth 100000 in
set_option maxHeartbeats 4000000 in
theorem over_sx (x:CfgK) (c:Cfg) (y:StK) (s:St) (hV:CfgV c) (hlt:s.tenants.length=c.tenants.length) :
  sx tt ovF ovD (bodyOf Tryz.f193) (argF 0 [cfgV CN1 x c,stV SN1 y s]) (rdM c s noS) 10 (endx tt Tryz.f193.results.toList fun v _ _=>∃ A n cap,v=.slice A n cap∧n=overN c s c.cells.length):=by
 have hnc:=hV.nc
 have hbl:=bookedR_len c s
 refine⟨CN1,x,c,SN1,y,s,rfl,⟨kp_,⟨_,_,_,rfl,Nat.le_refl _,fun k hk=>rfl⟩,⟨_,_,_,rfl,Nat.le_refl _,fun k hk=>rfl⟩⟩,⟨hV,hlt⟩,?_⟩
 intro cap0
 refine⟨Int×Nat×Option (Nat×(Nat→List Value)),fun q=>match q with | (i,n,none)=>[(7,.int .i64 i),(5,zs0)] | (i,n,some (cap,el))=>[(7,.int .i64 i),(5,slc 13 n cap)],fun q=>match q with | (i,n,none)=>[] | (i,n,some (cap,el))=>[(13,.row (1000000+3) 1 cap el)],fun q=>match q with | (i,n,o)=>((0≤i∧i≤c.cells.length)∧n=overN c s i.toNat)∧match o with | none=>n=0 | some (cap,el)=>n≤cap,fun q=>match q with | (i,n,o)=>((c.cells.length:Int)-i).toNat,⟨(0,0,none),[],⟨⟨by omega,rfl⟩,rfl⟩,⟨rfl,rfl⟩,kp_,kp_⟩,?_⟩
 rintro⟨i,n,(_ | ⟨cap,el⟩)⟩ ⟨⟨hi,hn⟩,ho⟩
 ·refine⟨⟨by decide,rfl,rfl⟩,?_⟩
  refine⟨fun hlt1=>?_,fun hge=>?_⟩
  ·have hlt2:i<(c.cells.length:Int):=by have q:i<((booked c s).length:Int):=of_decide_eq_true hlt1;omega
   have hle:=overN_le c s i.toNat
   refine⟨⟨Nat.le_refl _,hi.1,by omega⟩,?_⟩
   refine⟨⟨Nat.le_refl _,hi.1,hlt2⟩,?_⟩
   refine⟨fun hb=>?_,fun hb=>?_⟩
   ·have hov:ovB c s i.toNat=true:=hb
    refine⟨⟨Nat.le_refl _,fun k hk=>by match k,hk with | 0,_=>rfl⟩,?_⟩
    refine⟨fun h=>absurd h (by decide),fun _=>⟨by decide,fun cap2 el2 ⟨hc2,_⟩ hel2=>?_⟩⟩
    refine⟨(_,_,some (cap2,el2)),[(13,15)],?_,⟨rfl,rfl⟩,kp_,kp_⟩
    dsimp only
    rw[wrapi (n:=i+1) (by omega)]
    refine⟨⟨⟨by omega,?_⟩,by omega⟩,by omega⟩
    rw[show (i+1).toNat=i.toNat+1 by omega,overN_succ,if_pos hov]
    omega
   ·have hov:¬ (ovB c s i.toNat=true):=fun q=>absurd (q.symm.trans hb) (by decide)
    refine⟨(_,n,none),[],?_,⟨rfl,rfl⟩,kp_,kp_⟩
    dsimp only
    rw[wrapi (n:=i+1) (by omega)]
    refine⟨⟨⟨by omega,?_⟩,by omega⟩,by omega⟩
    rw[show (i+1).toNat=i.toNat+1 by omega,overN_succ,if_neg hov]
    omega
  ·have hge2:¬ i<(c.cells.length:Int):=by have q:¬ i<((booked c s).length:Int):=of_decide_eq_false hge;omega
   have hie:i.toNat=c.cells.length:=by omega
   rw[hie] at hn
   exact⟨_,_,_,rfl,by rw[← hn];exact ho.symm⟩
 ·refine⟨⟨by decide,rfl,rfl⟩,?_⟩
  refine⟨fun hlt1=>?_,fun hge=>?_⟩
  ·have hlt2:i<(c.cells.length:Int):=by have q:i<((booked c s).length:Int):=of_decide_eq_true hlt1;omega
   have hle:=overN_le c s i.toNat
   refine⟨⟨Nat.le_refl _,hi.1,by omega⟩,?_⟩
   refine⟨⟨Nat.le_refl _,hi.1,hlt2⟩,?_⟩
   refine⟨fun hb=>?_,fun hb=>?_⟩
   ·have hov:ovB c s i.toNat=true:=hb
    refine⟨⟨Nat.le_refl _,fun k hk=>by match k,hk with | 0,_=>rfl⟩,?_⟩
    refine⟨⟨rfl,ho⟩,fun hin el2 ⟨h1,_⟩ h2=>?_,fun hgt=>⟨by show (n+1) * 8≤140737488355328;omega,fun cap2 el2 ⟨hc2,_⟩ h1 h2=>?_⟩⟩
    ·refine⟨(_,_,some (cap,el2)),[],?_,⟨rfl,rfl⟩,kp_,kp_⟩
     dsimp only
     rw[wrapi (n:=i+1) (by omega)]
     refine⟨⟨⟨by omega,?_⟩,by omega⟩,by omega⟩
     rw[show (i+1).toNat=i.toNat+1 by omega,overN_succ,if_pos hov]
     omega
    ·refine⟨(_,_,some (cap2,el2)),[(13,15)],?_,⟨rfl,rfl⟩,kp_,kp_⟩
     dsimp only
     rw[wrapi (n:=i+1) (by omega)]
     refine⟨⟨⟨by omega,?_⟩,by omega⟩,by omega⟩
     rw[show (i+1).toNat=i.toNat+1 by omega,overN_succ,if_pos hov]
     omega
   ·have hov:¬ (ovB c s i.toNat=true):=fun q=>absurd (q.symm.trans hb) (by decide)
    refine⟨(_,n,some (cap,el)),[],?_,⟨rfl,rfl⟩,kp_,kp_⟩
    dsimp only
    rw[wrapi (n:=i+1) (by omega)]
    refine⟨⟨⟨by omega,?_⟩,by omega⟩,by omega⟩
    rw[show (i+1).toNat=i.toNat+1 by omega,overN_succ,if_neg hov]
    omega
  ·have hge2:¬ i<(c.cells.length:Int):=by have q:¬ i<((booked c s).length:Int):=of_decide_eq_false hge;omega
   have hie:i.toNat=c.cells.length:=by omega
   rw[hie] at hn
   exact⟨_,_,_,rfl,hn⟩
theorem r11Over_calls (x:CfgA) (c:Cfg) (y:StA) (s:St) (w:World) (hV:CfgV c) (hlt:s.tenants.length=c.tenants.length) (hc:CfgOk w (·<w.heap.size) x c) (hs:StOk w (·<w.heap.size) y s) :
  Calls Tryz.prog 193 #[.agg (cfgC x c),.agg (stC y s)] w fun e w'=>∃ A cp,e=.returned (.slice A (overN c s c.cells.length) cp)∧Below w.heap.size w w':=by
 have:=rd_callsM ttOk (ovFok.i _) Tryz.func193 rfl (D:=ovD) (by kernel_rfl) (vs:=[cfgV CN1 (ck x) c,stV SN1 (sk y) s]) rfl x c y s noA noS w hc hs (noS_ok w _) (fun v hv=>by
  simp only[List.mem_cons,List.not_mem_nil,or_false] at hv
  rcases hv with rfl | rfl
  ·exact rpl_cfg_ok x c y s noA noS
  ·exact rpl_st_ok x c y s noA noS) (over_sx (ck x) c (sk y) s hV hlt)
 rw[List.map_cons,List.map_cons,rpl_cfg,rpl_st] at this
 refine this.mono ?_
 rintro e w' ⟨v,mem',nx',ρ',rfl,⟨A,n,cap,rfl,rfl⟩,hv,hm',hb⟩
 cases A with
 | none=>exact⟨none,cap,rfl,hb⟩
 | some a=>exact⟨_,cap,rfl,hb⟩
def ctOverR:CT:=fun vs mem nx K=>∃ N x c M y s,vs=[cfgV N x c,stV M y s]∧(keeps mem (cfgM N c)∧HasRow mem M.t 12 tsC default s.tenants∧HasRow mem M.c 4 csC default s.cells)∧(CfgV c∧s.tenants.length=c.tenants.length)∧∀ cap,K (slc nx (overN c s c.cells.length) cap) mem (nx+1)
theorem overROk:CSound Tryz.prog 193 ctOverR:=⟨by kernel_rfl,fun {C ρ fr mem nx a w vs K} hc hs hv=>by
 obtain⟨N,x,c,M,y,s,rfl,⟨hk,h1,h2⟩,⟨hV,hlt⟩,hK⟩:=hc
 rw[List.map_cons,List.map_cons,den_cfg,den_st]
 refine (r11Over_calls (cfgX ρ N x) c (stX ρ M y) s w hV hlt (hs.cfg hk (fun b h _=>h)) (hs.stRow h1 h2)).mono ?_
 rintro e w' ⟨A,cp,rfl,hb⟩
 refine⟨slc nx (overN c s c.cells.length) cp,_,_,setPl ρ nx ⟨A,0,0,false,noSub⟩,?_,hK cp,(hs.later hb).ren (fun j hj _=>setPl_lt ρ _ hj) (Nat.le_succ _) (fun j hj=>setPl_lt ρ _ (Nat.lt_of_lt_of_le hj hs.n0)),⟨Nat.lt_succ_self nx,by rw[setPl_same]⟩,⟨fun i hi=>setPl_lt ρ _ hi,Nat.le_succ _⟩⟩
 show Ending.returned _=Ending.returned _
 simp[den,den2,den1,dA_whole,dS_whole,setPl_same]⟩
/-! ref12.Apply: what its parts ask,and what it hands back. -/
abbrev stVg (M:SN) (y:StK) (nT nC:Nat) (s:St):Value:=.agg #[.int .i64 s.tick,.int .i64 s.count,slc M.t nT y.ct,slc M.c nC y.cc,.int .i64 s.proven,.int .i64 s.evac,.int .i64 s.low,.int .i64 s.high]
structure HasSt (mem:AM) (M:SN) (nT nC:Nat) (s:St):Prop where
 nT:nT=s.tenants.length
 nC:nC=s.cells.length
 t:HasRow mem M.t 12 tsC default s.tenants
 c:HasRow mem M.c 4 csC default s.cells
def ctOverG:CT:=fun vs mem nx K=>∃ N x c M y nT nC s,vs=[cfgV N x c,stVg M y nT nC s]∧(keeps mem (cfgM N c)∧HasSt mem M nT nC s)∧(CfgV c∧s.tenants.length=c.tenants.length)∧∀ cap,K (slc nx (overN c s c.cells.length) cap) mem (nx+1)
theorem overGOk:CSound Tryz.prog 193 ctOverG:=overROk.mono (by
 rintro vs mem nx K ⟨N,x,c,M,y,nT,nC,s,rfl,⟨h1,h2⟩,hV,hK⟩
 obtain⟨rfl,rfl,h3,h4⟩:=h2
 exact⟨N,x,c,M,y,s,rfl,⟨h1,h3,h4⟩,hV,hK⟩)
theorem CSound.reads {f : FuncId} (ent : ((Tryz.prog).funcs[f]?).map (fun fn => (fn.name == "runtime.NumGoroutine", fn.body.isNone)) = some (false, false)) {pre : Cfg → St → Int → Prop} {res : Cfg → St → Int → Value} (hp : ∀ c s k, pureV (res c s k))
  (h:∀ x c y s k w,pre c s k→CfgOk w (·<w.heap.size) x c→StOk w (·<w.heap.size) y s→Calls Tryz.prog f #[.agg (cfgC x c),.agg (stC y s),.int .i64 k] w fun r w'=>r=.returned (res c s k)∧Below w.heap.size w w') :
  CSound Tryz.prog f (fun vs mem nx K=>∃ N x c M y nT nC s k,vs=[cfgV N x c,stVg M y nT nC s,.int .i64 k]∧(keeps mem (cfgM N c)∧HasSt mem M nT nC s)∧pre c s k∧K (res c s k) mem nx):=⟨ent,fun {C ρ fr mem nx a w vs K} hc hs hv=>by
 obtain⟨N,x,c,M,y,nT,nC,s,k,rfl,⟨h1,h2⟩,hpre,hK⟩:=hc
 obtain⟨rfl,rfl,h3,h4⟩:=h2
 rw[List.map_cons,List.map_cons,den_cfg,den_st]
 refine (h (cfgX ρ N x) c (stX ρ M y) s k w hpre (hs.cfg h1 (fun b h _=>h)) (hs.stRow h3 h4)).mono ?_
 rintro e w' ⟨rfl,hb⟩
 have hpp:=pure_den (hp c s k) ρ nx
 exact⟨_,mem,nx,ρ,by rw[hpp.1],hK,hs.later hb,hpp.2,ExtS.refl _ _⟩⟩
theorem CSound.readsS {f : FuncId} (ent : ((Tryz.prog).funcs[f]?).map (fun fn => (fn.name == "runtime.NumGoroutine", fn.body.isNone)) = some (false, false)) {pre : St → Int → Prop} {res : St → Int → Value} (hp : ∀ s k, pureV (res s k))
  (h:∀ y s k w,pre s k→StOk w (·<w.heap.size) y s→Calls Tryz.prog f #[.agg (stC y s),.int .i64 k] w fun r w'=>r=.returned (res s k)∧Below w.heap.size w w') :
  CSound Tryz.prog f (fun vs mem nx K=>∃ M y nT nC s k,vs=[stVg M y nT nC s,.int .i64 k]∧HasSt mem M nT nC s∧pre s k∧K (res s k) mem nx):=⟨ent,fun {C ρ fr mem nx a w vs K} hc hs hv=>by
 obtain⟨M,y,nT,nC,s,k,rfl,h2,hpre,hK⟩:=hc
 obtain⟨rfl,rfl,h3,h4⟩:=h2
 rw[List.map_cons,den_st]
 refine (h (stX ρ M y) s k w hpre (hs.stRow h3 h4)).mono ?_
 rintro e w' ⟨rfl,hb⟩
 have hpp:=pure_den (hp s k) ρ nx
 exact⟨_,mem,nx,ρ,by rw[hpp.1],hK,hs.later hb,hpp.2,ExtS.refl _ _⟩⟩
/-! frozen,proven,open -/
def fzF:FT:=[(192,ctRegOf),(147,ctHas)]
theorem fzFok:FTok Tryz.prog fzF:=ft_cons regOfOk (ft_cons hasOk ft_nil)
def fzD:List (Nat×DQ):=[(1,{ k:=5,L:=[0,1,2,3,4,5,6,7,10,11],pre:=[(0,false),(1,false),(2,false),(3,false),(4,true)] })]
set_option maxRecDepth 100000 in
theorem frozen_sx (x:CfgK) (c:Cfg) (y:StK) (s:St) (k:Int) (hV:CfgV c) (he:0≤s.evac∧s.evac<4294967296) :
  sx tt fzF fzD (bodyOf Tryz.f174) (argF 0 [cfgV CN1 x c,stV SN1 y s,.int .i64 k]) (rdM c s noS) 10 (endx tt Tryz.f174.results.toList fun v _ _=>v=.bool (frozenB c s k)∧pureV v):=by
 refine⟨CN1,x,c,k,rfl,by repeat (first | exact trivial | refine⟨rfl,?_⟩),hV,?_⟩
 refine⟨by repeat (first | exact trivial | refine⟨rfl,?_⟩),?_⟩
 exact⟨_,_,rfl,he,rfl,trivial⟩
def ctFrozenR:CT:=fun vs mem nx K=>∃ N x c M y nT nC s k,vs=[cfgV N x c,stVg M y nT nC s,.int .i64 k]∧(keeps mem (cfgM N c)∧HasSt mem M nT nC s)∧(CfgV c∧0≤s.evac∧s.evac<4294967296)∧K (.bool (frozenB c s k)) mem nx
theorem frozenROk:CSound Tryz.prog 174 ctFrozenR:=CSound.reads (by kernel_rfl) (pre:=fun c s k=>CfgV c∧0≤s.evac∧s.evac<4294967296) (res:=fun c s k=>.bool (frozenB c s k)) (fun _ _ _=>trivial) (by
 rintro x c y s k w ⟨hV,he⟩ hc hs
 have:=rd_calls fzFok Tryz.func174 rfl (D:=fzD) (by kernel_rfl) (vs:=[cfgV CN1 (ck x) c,stV SN1 (sk y) s,.int .i64 k]) rfl x c y s noA noS w hc hs (noS_ok w _) (fun v hv=>by
  simp only[List.mem_cons,List.not_mem_nil,or_false] at hv
  rcases hv with rfl | rfl | rfl
  ·exact rpl_cfg_ok x c y s noA noS
  ·exact rpl_st_ok x c y s noA noS
  ·trivial) (R:=fun v=>v=.bool (frozenB c s k)) (frozen_sx (ck x) c (sk y) s k hV he)
 rw[List.map_cons,List.map_cons,rpl_cfg,rpl_st] at this
 refine this.mono ?_
 rintro e w' ⟨v,rfl,-,rfl,hb⟩
 exact⟨rfl,hb⟩)
def pvF:FT:=[(147,ctHas)]
theorem pvFok:FTok Tryz.prog pvF:=ft_cons hasOk ft_nil
set_option maxRecDepth 100000 in
theorem proven_sx (y:StK) (s:St) (k:Int) (he:0≤s.proven∧s.proven<4294967296) :
  sx tt pvF [] (bodyOf Tryz.f181) (argF 0 [stV SN1 y s,.int .i64 k]) (rdM noC s noS) 10 (endx tt Tryz.f181.results.toList fun v _ _=>v=.bool (hasB s.proven k)∧pureV v):=by
 exact⟨_,_,rfl,he,rfl,trivial⟩
def ctProvenR:CT:=fun vs mem nx K=>∃ M y nT nC s k,vs=[stVg M y nT nC s,.int .i64 k]∧HasSt mem M nT nC s∧(0≤s.proven∧s.proven<4294967296)∧K (.bool (hasB s.proven k)) mem nx
theorem provenROk:CSound Tryz.prog 181 ctProvenR:=CSound.readsS (by kernel_rfl) (pre:=fun s k=>0≤s.proven∧s.proven<4294967296) (res:=fun s k=>.bool (hasB s.proven k)) (fun _ _=>trivial) (by
 rintro y s k w he hs
 have:=rd_calls pvFok Tryz.func181 rfl (D:=[]) (by kernel_rfl) (vs:=[stV SN1 (sk y) s,.int .i64 k]) rfl noX noC y s noA noS w (noC_ok _ _) hs (noS_ok w _) (fun v hv=>by
  simp only[List.mem_cons,List.not_mem_nil,or_false] at hv
  rcases hv with rfl | rfl
  ·exact rpl_st_ok noX noC y s noA noS
  ·trivial) (R:=fun v=>v=.bool (hasB s.proven k)) (proven_sx (sk y) s k he)
 rw[List.map_cons,rpl_st] at this
 refine this.mono ?_
 rintro e w' ⟨v,rfl,-,rfl,hb⟩
 exact⟨rfl,hb⟩)
def opF:FT:=[(181,ctProvenR)]
theorem opFok:FTok Tryz.prog opF:=ft_cons provenROk ft_nil
def opD:List (Nat×DQ):=[(1,{ k:=17,L:=[6,7,10],pre:=[(0,false),(1,false),(2,false),(3,false),(4,false),(5,false),(6,false),(7,true),(8,false),(9,false),(10,false),(11,false),(12,false),(13,false),(14,false),(15,false),(16,false)] })]
set_option maxRecDepth 100000 in
theorem open_sx (y:StK) (s:St) (k:Int) (he:0≤s.proven∧s.proven<4294967296) (hk:0≤k∧k<s.cells.length) :
  sx tt opF opD (bodyOf Tryz.f180) (argF 0 [stV SN1 y s,.int .i64 k]) (rdM noC s noS) 10 (endx tt Tryz.f180.results.toList fun v _ _=>v=.bool (openB s.proven (csAt s k))∧pureV v):=by
 refine⟨⟨Nat.le_refl _,hk.1,hk.2⟩,?_⟩
 refine⟨SN1,y,_,_,s,_,rfl,⟨rfl,rfl,.list rfl,.list rfl⟩,he,?_⟩
 refine⟨by repeat (first | exact trivial | refine⟨rfl,?_⟩),?_⟩
 unfold openB csAt
 refine⟨fun h=>?_,fun h=>?_⟩
 ·refine⟨?_,trivial⟩
  have h2:(!hasB s.proven (s.cells.getD k.toNat default).running)=true:=h
  rw[h2]
  rfl
 ·refine⟨⟨Nat.le_refl _,hk.1,hk.2⟩,?_⟩
  refine⟨SN1,y,_,_,s,_,rfl,⟨rfl,rfl,.list rfl,.list rfl⟩,he,?_⟩
  refine⟨?_,trivial⟩
  have h2:(!hasB s.proven (s.cells.getD k.toNat default).running)=false:=h
  rw[h2]
  rfl
def ctOpenR:CT:=fun vs mem nx K=>∃ M y nT nC s k,vs=[stVg M y nT nC s,.int .i64 k]∧HasSt mem M nT nC s∧((0≤s.proven∧s.proven<4294967296)∧0≤k∧k<s.cells.length)∧K (.bool (openB s.proven (csAt s k))) mem nx
theorem openROk:CSound Tryz.prog 180 ctOpenR:=CSound.readsS (by kernel_rfl) (pre:=fun s k=>(0≤s.proven∧s.proven<4294967296)∧0≤k∧k<s.cells.length) (res:=fun s k=>.bool (openB s.proven (csAt s k))) (fun _ _=>trivial) (by
 rintro y s k w ⟨he,hk⟩ hs
 have:=rd_calls opFok Tryz.func180 rfl (D:=opD) (by kernel_rfl) (vs:=[stV SN1 (sk y) s,.int .i64 k]) rfl noX noC y s noA noS w (noC_ok _ _) hs (noS_ok w _) (fun v hv=>by
  simp only[List.mem_cons,List.not_mem_nil,or_false] at hv
  rcases hv with rfl | rfl
  ·exact rpl_st_ok noX noC y s noA noS
  ·trivial) (R:=fun v=>v=.bool (openB s.proven (csAt s k))) (open_sx (sk y) s k he hk)
 rw[List.map_cons,rpl_st] at this
 refine this.mono ?_
 rintro e w' ⟨v,rfl,-,rfl,hb⟩
 exact⟨rfl,hb⟩)
/-! The result. -/
def ApS (mem:AM) (v:Value) (p:St×Int):Prop:=∃ T Cc,v=.tuple #[.agg #[.int .i64 p.1.tick,.int .i64 p.1.count,T,Cc,.int .i64 p.1.proven,.int .i64 p.1.evac,.int .i64 p.1.low,.int .i64 p.1.high],.int .i64 p.2]∧SlR mem 12 tsC default p.1.tenants T∧SlR mem 4 csC default p.1.cells Cc
theorem ApS.err {mem:AM} {p:St×Int} {n:Int} (h:p=(St.zero,n)):ApS mem (.tuple #[stZ,.int .i64 n]) p:=by
 subst h
 exact⟨zs0,zs0,rfl,.inl ⟨rfl,rfl⟩,.inl ⟨rfl,rfl⟩⟩
theorem ApS.ok {mem:AM} {p:St×Int} {s:St} {y:StK} {M:SN} {nT nC:Nat} {n:Int} (h:p=(s,n)) (hT:nT=s.tenants.length) (hC:nC=s.cells.length) (h1:NewRow mem M.t 12 tsC default s.tenants) (h2:NewRow mem M.c 4 csC default s.cells):ApS mem (.tuple #[stVg M y nT nC s,.int .i64 n]) p:=by
 subst h hT hC
 obtain⟨t1,n1,e1,q1,q2,q3,q4⟩:=h1
 obtain⟨t2,n2,e2,r1,r2,r3,r4⟩:=h2
 exact⟨_,_,rfl,.inr ⟨M.t,_,_,_,_,rfl,q1,q2,q3,q4⟩,.inr ⟨M.c,_,_,_,_,rfl,r1,r2,r3,r4⟩⟩
structure ArH (c:Cfg) (s:St) (e:Ent):Prop where
 cfg:CfgV c
 inv:StInv c s
 ent:entV c e=true
 cnt:s.count<4096
 tick:s.tick≤e.tick
theorem ArH.ref {c:Cfg} {s:St} {e:Ent} (h:ArH c s e):refusedE c s e=kindE c s e:=by
 have h1:=h.ent
 have h2:=h.cnt
 have h3:=h.tick
 unfold refusedE
 rw[if_neg (by rw[h1];decide),if_neg (by omega),if_neg (by omega)]
theorem ArH.err {c:Cfg} {s:St} {e:Ent} (h:ArH c s e) {n:Int} (hk:kindE c s e=n) (hn:n≠0):applyR c s e=(St.zero,n):=by
 unfold applyR
 rw[h.ref,hk,if_pos hn]
theorem ArH.over {c:Cfg} {s:St} {e:Ent} (h:ArH c s e) (hk:kindE c s e=0) (hf:fitsB e=true) (ho:overB c (effOf s e)=true):applyR c s e=(St.zero,10):=by
 unfold applyR
 rw[h.ref,hk,if_neg (fun q=>q rfl),if_pos ⟨hf,ho⟩]
theorem ArH.fine {c:Cfg} {s:St} {e:Ent} (h:ArH c s e) (hk:kindE c s e=0) (hf:fitsB e=true→overB c (effOf s e)=false):applyR c s e=(effOf s e,0):=by
 unfold applyR
 rw[h.ref,hk,if_neg (fun q=>q rfl),if_neg (fun⟨q1,q2⟩=>by rw[hf q1] at q2;cases q2)]
theorem ArH.tB {c:Cfg} {s:St} {e:Ent} (h:ArH c s e):0≤e.tick∧e.tick≤1073741824:=by
 have h1:=h.ent
 simp only[entV,entOk,inR,Bool.and_eq_true,decide_eq_true_eq] at h1
 omega
def LA:List Nat:=[0,1,2,3,4,5,6,7,8,9,10,11,12,13,14,15,16,17,18,19,20,21,22,23,24,25,26,27,28,29,30,31,32]
def fitF:FT:=[(193,ctOverG)]
theorem fitFok:FTok Tryz.prog fitF:=ft_cons overGOk ft_nil
abbrev ctFit:CT:=ctInl ttU fitF [] Tryz.f177 (bodyOf Tryz.f177)
theorem fitOk {I:List Nat} (hI:I.contains 177=true):CSoundI Tryz.prog I 177 ctFit:=inl_ok ttUok (fitFok.i _) mixed (by kernel_rfl) Tryz.func177 rfl (by kernel_rfl) hI
/-! ref12.granted,ref12.Cut -/
def grantedE (c:Cfg) (s:St) (e:Ent):Int:=
 let t:=tsAt s e.tenant
 let x:=csAt s e.cell
 if x.mode=3∨(x.mode=2∧e.cell≠t.home) then 6
 else if e.epoch≠t.epoch+1∧¬ (e.cell=t.home∧e.epoch=t.epoch) then 7
 else if e.n≠x.running∨x.running≠x.wanted then 8
 else if e.since<e.tick∨e.tick+c.lease<e.since∨e.till≤e.since∨c.lease<e.till-e.since∨e.since<t.win.till∨(e.cell≠t.home∧e.tick<t.win.till) then 9 else 0
theorem grantE_eq (c:Cfg) (s:St) (e:Ent):grantE c s e=if (tsAt s e.tenant).placed=false∨((tsAt s e.tenant).shed=true∧e.cell≠(tsAt s e.tenant).standby) then 4 else if e.cell≠(tsAt s e.tenant).home∧e.cell≠(tsAt s e.tenant).standby∧e.cell≠(tsAt s e.tenant).target then 5 else grantedE c s e:=rfl
def gdD:List (Nat×DQ):=[
 (5000005,{ k:=40,L:=LA,sl:=[3,4,5,6,7,8,9] }),(5000007,{ k:=40,L:=LA,sl:=[3,4,5,6,7,8,9] }),(5000009,{ k:=40,L:=LA,sl:=[3,4,5,6,7,8,9] }),(5000011,{ k:=40,L:=LA,sl:=[3,4,5,6,7,8,9] }),(5000013,{ k:=40,L:=LA,sl:=[3,4,5,6,7,8,9] })
]
abbrev gdPre (c:Cfg) (s:St) (e:Ent):Prop:=(0≤e.tenant∧e.tenant<s.tenants.length)∧(0≤e.cell∧e.cell<s.cells.length)∧(0≤e.tick∧e.tick≤1073741824)∧(0≤e.since∧e.since≤1073741824)∧(0≤e.till∧e.till≤1073741824)∧(0≤(tsAt s e.tenant).epoch∧(tsAt s e.tenant).epoch≤1048576)
set_option maxRecDepth 100000 in
set_option maxHeartbeats 4000000 in
theorem granted_sx (x:CfgK) (c:Cfg) (y:StK) (s:St) (e:Ent) (hV:CfgV c) (hp:gdPre c s e):sx tt [] gdD (bodyOf Tryz.f178) (argF 0 [cfgV CN1 x c,stV SN1 y s,entV' e]) (rdM c s noS) 10 (endx tt Tryz.f178.results.toList fun v _ _=>v=.int .i64 (grantedE c s e)∧pureV v):=by
 have hls:=hV.lease
 obtain⟨p1,p2,p3,p4,p5,p6⟩:=hp
 have p6b:0≤(s.tenants.getD e.tenant.toNat default).epoch∧(s.tenants.getD e.tenant.toNat default).epoch≤1048576:=p6
 have w1:IntKind.i64.wrap ((s.tenants.getD e.tenant.toNat default).epoch+1)=(s.tenants.getD e.tenant.toNat default).epoch+1:=wrapi (by omega)
 have w2:IntKind.i64.wrap (e.tick+c.lease)=e.tick+c.lease:=wrapi (by omega)
 have w3:IntKind.i64.wrap (e.till-e.since)=e.till-e.since:=wrapi (by omega)
 refine⟨⟨Nat.le_refl _,p1.1,p1.2⟩,?_⟩
 refine⟨⟨Nat.le_refl _,p2.1,p2.2⟩,?_⟩
 refine⟨Bool,fun b=>[(27,.bool b)],fun _=>[],fun b=>(b=true↔((s.cells.getD e.cell.toNat default).mode=3∨((s.cells.getD e.cell.toNat default).mode=2∧¬ e.cell=(s.tenants.getD e.tenant.toNat default).home))),?_,?_⟩
 ·repeat' (first | refine⟨fun _=>?_,fun h=>Bool.noConfusion h⟩ | refine⟨fun h=>Bool.noConfusion h,fun _=>?_⟩ | refine⟨fun _=>?_,fun _=>?_⟩ | refine⟨⟨Nat.le_refl _,by omega,by omega⟩,?_⟩ | fail)
  all_goals (refine⟨_,?_,kp_,kp_⟩;dsimp only;grind)
 ·rintro b1 hb1
  refine⟨⟨by decide,rfl,rfl⟩,?_⟩
  refine⟨fun qb1=>?_,fun qb1=>?_⟩
  ·unfold grantedE tsAt csAt
   refine⟨?_,trivial⟩
   congr 1
   grind
  ·refine⟨Bool,fun b=>[(40,.bool b)],fun _=>[],fun b=>(b=true↔(e.epoch≠(s.tenants.getD e.tenant.toNat default).epoch+1∧¬ (e.cell=(s.tenants.getD e.tenant.toNat default).home∧e.epoch=(s.tenants.getD e.tenant.toNat default).epoch))),?_,?_⟩
   ·repeat' (first | refine⟨fun _=>?_,fun h=>Bool.noConfusion h⟩ | refine⟨fun h=>Bool.noConfusion h,fun _=>?_⟩ | refine⟨fun _=>?_,fun _=>?_⟩ | refine⟨⟨Nat.le_refl _,by omega,by omega⟩,?_⟩ | fail)
    all_goals (refine⟨_,?_,kp_,kp_⟩;dsimp only;grind)
   ·rintro b2 hb2
    refine⟨⟨by decide,rfl,rfl⟩,?_⟩
    refine⟨fun qb2=>?_,fun qb2=>?_⟩
    ·unfold grantedE tsAt csAt
     refine⟨?_,trivial⟩
     congr 1
     grind
    ·refine⟨Bool,fun b=>[(69,.bool b)],fun _=>[],fun b=>(b=true↔(e.n≠(s.cells.getD e.cell.toNat default).running∨(s.cells.getD e.cell.toNat default).running≠(s.cells.getD e.cell.toNat default).wanted)),?_,?_⟩
     ·repeat' (first | refine⟨fun _=>?_,fun h=>Bool.noConfusion h⟩ | refine⟨fun h=>Bool.noConfusion h,fun _=>?_⟩ | refine⟨fun _=>?_,fun _=>?_⟩ | refine⟨⟨Nat.le_refl _,by omega,by omega⟩,?_⟩ | fail)
      all_goals (refine⟨_,?_,kp_,kp_⟩;dsimp only;grind)
     ·rintro b3 hb3
      refine⟨⟨by decide,rfl,rfl⟩,?_⟩
      refine⟨fun qb3=>?_,fun qb3=>?_⟩
      ·unfold grantedE tsAt csAt
       refine⟨?_,trivial⟩
       congr 1
       grind
      ·refine⟨Bool,fun b=>[(82,.bool b)],fun _=>[],fun b=>(b=true↔(e.since<e.tick∨e.tick+c.lease<e.since∨e.till≤e.since∨c.lease<e.till-e.since∨e.since<(s.tenants.getD e.tenant.toNat default).win.till)),?_,?_⟩
       ·repeat' (first | refine⟨fun _=>?_,fun h=>Bool.noConfusion h⟩ | refine⟨fun h=>Bool.noConfusion h,fun _=>?_⟩ | refine⟨fun _=>?_,fun _=>?_⟩ | refine⟨⟨Nat.le_refl _,by omega,by omega⟩,?_⟩ | fail)
        all_goals (refine⟨_,?_,kp_,kp_⟩;dsimp only;grind)
       ·rintro b4 hb4
        refine⟨⟨by decide,rfl,rfl⟩,?_⟩
        refine⟨fun qb4=>?_,fun qb4=>?_⟩
        ·unfold grantedE tsAt csAt
         refine⟨?_,trivial⟩
         congr 1
         grind
        ·refine⟨Bool,fun b=>[(123,.bool b)],fun _=>[],fun b=>(b=true↔(¬ e.cell=(s.tenants.getD e.tenant.toNat default).home∧e.tick<(s.tenants.getD e.tenant.toNat default).win.till)),?_,?_⟩
         ·repeat' (first | refine⟨fun _=>?_,fun h=>Bool.noConfusion h⟩ | refine⟨fun h=>Bool.noConfusion h,fun _=>?_⟩ | refine⟨fun _=>?_,fun _=>?_⟩ | refine⟨⟨Nat.le_refl _,by omega,by omega⟩,?_⟩ | fail)
          all_goals (refine⟨_,?_,kp_,kp_⟩;dsimp only;grind)
         ·rintro b5 hb5
          refine⟨⟨by decide,rfl,rfl⟩,?_⟩
          refine⟨fun qb5=>?_,fun qb5=>?_⟩
          ·unfold grantedE tsAt csAt
           refine⟨?_,trivial⟩
           congr 1
           grind
          ·unfold grantedE tsAt csAt
           refine⟨?_,trivial⟩
           congr 1
           grind
def ctGrantedR:CT:=fun vs mem nx K=>∃ N x c M y nT nC s e,vs=[cfgV N x c,stVg M y nT nC s,entV' e]∧(keeps mem (cfgM N c)∧HasSt mem M nT nC s)∧(CfgV c∧gdPre c s e)∧K (.int .i64 (grantedE c s e)) mem nx
theorem grantedROk:CSound Tryz.prog 178 ctGrantedR:=⟨by kernel_rfl,fun {C ρ fr mem nx a w vs K} hc hs hv=>by
 obtain⟨N,x,c,M,y,nT,nC,s,e,rfl,⟨h1,h2⟩,⟨hV,hp⟩,hK⟩:=hc
 obtain⟨rfl,rfl,h3,h4⟩:=h2
 have e0:([cfgV N x c,stV M y s,entV' e].map (den ρ)).toArray=#[.agg (cfgC (cfgX ρ N x) c),.agg (stC (stX ρ M y) s),entV' e]:=by
  rw[List.map_cons,List.map_cons,den_cfg,den_st]
  simp[den,den2,den1]
 rw[e0]
 have hcc:=hs.cfg (x:=x) h1 (S:=(·<w.heap.size)) (fun b h _=>h)
 have hss:=hs.stRow (y:=y) h3 h4
 have:=rd_calls ft_nil Tryz.func178 rfl (D:=gdD) (by kernel_rfl) (vs:=[cfgV CN1 (ck (cfgX ρ N x)) c,stV SN1 (sk (stX ρ M y)) s,entV' e]) rfl (cfgX ρ N x) c (stX ρ M y) s noA noS w hcc hss (noS_ok w _) (fun v hv=>by
  simp only[List.mem_cons,List.not_mem_nil,or_false] at hv
  rcases hv with rfl | rfl | rfl
  ·exact rpl_cfg_ok _ c _ s noA noS
  ·exact rpl_st_ok _ c _ s noA noS
  ·exact (pure_den (pure_ent e) _ _).2) (R:=fun v=>v=.int .i64 (grantedE c s e)) (granted_sx _ c _ s e hV hp)
 rw[List.map_cons,List.map_cons,rpl_cfg,rpl_st,List.map_cons,(pure_den (pure_ent e) _ 0).1] at this
 refine this.mono ?_
 rintro r w' ⟨v,rfl,-,rfl,hb⟩
 exact⟨.int .i64 (grantedE c s e),mem,nx,ρ,rfl,hK,hs.later hb,trivial,ExtS.refl _ _⟩⟩
abbrev winV (x:Win):Value:=.agg #[.int .i64 x.cell,.int .i64 x.epoch,.int .i64 x.version,.int .i64 x.since,.int .i64 x.till]
theorem pure_win (x:Win):pureV (winV x):=fun v hv=>by
 simp at hv
 rcases hv with rfl | rfl | rfl | rfl | rfl<;>trivial
def ctCutW:CT:=fun vs mem nx K=>∃ (x:Win) (t:Int),vs=[winV x,.int .i64 t]∧(-1000000000000≤t∧t≤1000000000000)∧K (winV (cutW x t)) mem nx
set_option maxRecDepth 100000 in
theorem cut_sx (x:Win) (t:Int) (ht:-1000000000000≤t∧t≤1000000000000):sx tt [] [] (bodyOf Tryz.f179) (argF 0 [winV x,.int .i64 t]) (rdM noC noS noS) 10 (endx tt Tryz.f179.results.toList fun v _ _=>v=winV (cutW x t)∧pureV v):=by
 have w1:IntKind.i64.wrap (t+1)=t+1:=wrapi (by omega)
 have hm:∀ a b:Int,(if b<a then b else a)=min a b:=fun a b=>by rw[Int.min_def];split<;>split<;>omega
 refine⟨?_,?_⟩
 ·show Value.agg #[_,_,_,.int .i64 (if (if IntKind.i64.wrap (t+1)<x.till then IntKind.i64.wrap (t+1) else x.till)<x.since then (if IntKind.i64.wrap (t+1)<x.till then IntKind.i64.wrap (t+1) else x.till) else x.since),.int .i64 (if IntKind.i64.wrap (t+1)<x.till then IntKind.i64.wrap (t+1) else x.till)]=_
  rw[w1,hm,hm]
  rfl
 ·intro u hu
  simp at hu
  rcases hu with rfl | rfl | rfl | rfl | rfl<;>trivial
theorem cutWOk:CSound Tryz.prog 179 ctCutW:=CSound.pure (by kernel_rfl) (by
 rintro vs mem nx K ⟨x,t,rfl,ht,hK⟩
 refine⟨_,hK,fun ρ n=>pure_den (pure_win _) ρ n,fun ρ w=>?_⟩
 have:=rd_calls ft_nil Tryz.func179 rfl (D:=[]) (by kernel_rfl) (vs:=[winV x,.int .i64 t]) rfl noX noC noA noS noA noS w (noC_ok _ _) (noS_ok w _) (noS_ok w _) (fun v hv=>by
  simp only[List.mem_cons,List.not_mem_nil,or_false] at hv
  rcases hv with rfl | rfl
  ·exact (pure_den (pure_win x) _ _).2
  ·trivial) (R:=fun v=>v=winV (cutW x t)) (cut_sx x t ht)
 rw[List.map_cons,(pure_den (pure_win x) _ 0).1] at this
 rw[List.map_cons,(pure_den (pure_win x) _ 0).1]
 refine this.mono ?_
 rintro e w' ⟨v,rfl,-,rfl,hb⟩
 exact⟨rfl,hb⟩)
end Go.Proofs.YtchhdflealgkaaaGreat
