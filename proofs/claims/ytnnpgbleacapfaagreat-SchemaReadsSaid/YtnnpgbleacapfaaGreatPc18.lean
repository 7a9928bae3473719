import Derived.Test.YtnnpgbleacapfaaGreatPc17
namespace Go.Proofs.YtnnpgbleacapfaaGreat
open Go.RowKit
set_option linter.unusedSimpArgs false
set_option linter.unusedVariables false
/-! mill.Packed -/
theorem regL_bd (c:Cfg) (r:Int) {j:Nat} (h:j<(regL c r c.cells.length).length):0≤(regL c r c.cells.length).getD j 0∧(regL c r c.cells.length).getD j 0<c.cells.length:=by
 have hm:(regL c r c.cells.length).getD j 0 ∈ regL c r c.cells.length:=by
  rw[List.getD_eq_getElem?_getD,List.getElem?_eq_getElem h]
  exact List.getElem_mem h
 generalize (regL c r c.cells.length).getD j 0=v at hm ⊢
 obtain⟨i,hi,rfl⟩:=List.mem_map.1 hm
 have:=List.mem_range.1 (List.mem_filter.1 hi).1
 show 0≤(i:Int)∧(i:Int)<(c.cells.length:Int)
 omega
theorem applyP_count {c:Cfg} {s x:St} {e:Ent} (h:applyP c s e=(x,0)):x.count=s.count+1:=by
 obtain⟨hr,rfl,-⟩:=applyP_ok h
 unfold effOf stamped setTen setCel
 repeat (split<;>try rfl)
def pkF:FT:=[(61,ctTapeNewM),(69,ctMConfig),(70,ctNewR),(64,ctNextM),(63,ctRangeM),(62,ctMoreM),(73,ctInReg),(74,ctInl ttU [] [] Tryz.f74 (bodyOf Tryz.f74)),(71,ctInl ttU [(72,ctApplyR)] [] Tryz.f71 (bodyOf Tryz.f71))]
def pkD:List (Nat×DQ):=[(9000000,{ k:=0,L:=[74,71] }),
 (3000023,{ k:=21,L:=[0,1,2,4,5,6,7,8,9,10],sl:=[0,2,3,4,5,6,7,8,9] }),(1000051,{ k:=23,L:=[0,1,2,4,5,6,7,8,9,10,13,14,18,19,20],sl:=[0,2,3,4,5,6,7,8,9,15,16,17,18,19] }),
 (3000007,{ k:=18,L:=[0,1,2,4,5,6,7,8,9,10],sl:=[0,2,3,4,5,6,7,8,9,30] }),(1000012,{ k:=18,L:=[0,1,2,4,5,6,7,8,9,10,11,12,13,14,15,16,17],sl:=[0,2,3,4,5,6,7,8,9,30,10,31] }),(4000014,{ k:=21,L:=[0,1,2,3,4,5,6,7,8,9,10],sl:=[0,2,3,4,5,6,7,8,9,30,10,11,12,31] }),(4000015,{ k:=24,L:=[0,1,2,3,4,5,6,7,8,9,10],sl:=[0,2,3,4,5,6,7,8,9,30,10,11,12,31] }),(4000016,{ k:=27,L:=[0,1,2,3,4,5,6,7,8,9,10],sl:=[0,2,3,4,5,6,7,8,9,30,10,11,12,31] }),
 (11,{ k:=6,L:=[10],pre:=[(0,false),(2,false),(3,false),(1,true),(4,true),(5,false)] }),
 (19,{ k:=13,L:=[10,13],pre:=[(0,false),(1,false),(2,false),(3,false),(4,false),(5,false),(6,false),(9,false),(7,true),(8,false),(10,true),(11,false),(12,true)] }),
 (25,{ k:=17,L:=[10,13],pre:=[(0,false),(1,false),(2,false),(3,false),(5,false),(6,false),(7,false),(8,false),(10,false),(11,false),(12,false),(4,true),(9,true),(13,true),(14,false),(15,false),(16,false)] }),
 (50,{ k:=20,L:=[10,13,19],pre:=[(0,false),(1,false),(2,false),(3,false),(4,false),(5,false),(6,false),(7,false),(8,false),(9,false),(10,false),(11,false),(14,false),(12,true),(13,false),(15,true),(16,false),(17,true),(18,false),(19,true)] }),
 (30,{ k:=10,L:=[23],pre:=[(0,false),(1,false),(2,false),(3,false),(4,false),(5,false),(6,false),(7,false),(8,false),(9,true)] }),
 (31,{ k:=6,L:=[10,22],pre:=[(0,false),(1,false),(2,false),(3,false),(4,false),(5,true)] }),
 (52,{ k:=5,L:=[10,13,14],pre:=[(0,false),(1,false),(2,false),(3,true),(4,false)] })]
set_option maxRecDepth 100000 in
set_option maxHeartbeats 8000000 in
theorem packed_sx (cap:Nat) (zs:List Int) (hz:zs.length≤400) :
  sx ttU pkF pkD (bodyOf Tryz.f44) (argF 0 [slc 0 zs.length cap]) [(0,intRow zs)] 1 (endx ttU Tryz.f44.results.toList fun v mem' _=>∃ N x c o M y s,CfgV c∧(RInv c s∧s.count≤150)∧(v=.tuple #[cfgV N x c,o,stV M y s]∧(o=zs0∨∃ r m cp,o=slc r m cp))∧(NewRow mem' N.z 1 intC 0 c.zones∧NewRow mem' N.c 2 pairC (0,0) c.cells∧NewRow mem' N.t 7 tenC default c.tenants∧NewRow mem' N.v 2 pairC (0,0) c.versions∧NewRow mem' N.r 1 intC 0 c.replicas∧NewRow mem' N.o 1 intC 0 c.observers)∧(NewRow mem' M.t 12 tsC default s.tenants∧NewRow mem' M.c 4 csC default s.cells)):=by
 refine⟨0,cap,zs,rfl,rfl,hz,?_⟩
 refine⟨3,0,cap,zs,0,rfl,⟨rfl,rfl⟩,⟨hz,by omega,by omega⟩,?_⟩
 intro x c k1 hV hz0 hc0 hnt hk1a hk1b
 have hnt2:=hV.nt
 have hnc:=hV.nc
 have hls:=hV.lease
 have hrg:=hV.reg
 refine⟨_,x,c,rfl,kp_,⟨by omega,by omega,by omega⟩,?_⟩
 intro y0
 refine⟨Int×Int×St×StK×Option (Nat×Nat×(Nat→List Value)),fun q=>match q with | (i,kk,s,y,o)=>[(31,.int .i64 i)],fun q=>match q with | (i,kk,s,y,none)=>[(3,tapeM 0 zs.length cap kk),(13,.box 34 [.int .i64 s.tick,.int .i64 s.count,slc 15 s.tenants.length y.ct,slc 16 s.cells.length y.cc,.int .i64 s.proven,.int .i64 s.evac,.int .i64 s.low,.int .i64 s.high]),(15,rowOfL 500000 12 tsC default s.tenants),(16,rowOfL 500000 4 csC default s.cells),(14,.box 81 [zs0])] | (i,kk,s,y,some (m,cp,el))=>[(3,tapeM 0 zs.length cap kk),(13,.box 34 [.int .i64 s.tick,.int .i64 s.count,slc 15 s.tenants.length y.ct,slc 16 s.cells.length y.cc,.int .i64 s.proven,.int .i64 s.evac,.int .i64 s.low,.int .i64 s.high]),(15,rowOfL 500000 12 tsC default s.tenants),(16,rowOfL 500000 4 csC default s.cells),(14,.box 81 [slc 17 m cp]),(17,.row (1000000+39) 9 cp el)],fun q=>match q with | (i,kk,s,y,o)=>(0≤i∧i≤c.tenants.length)∧(0≤kk∧kk≤100+20 * i)∧RInv c s∧s.count≤4 * i∧match o with | none=>True | some (m,cp,el)=>m≤cp∧(m:Int)≤4 * i,fun q=>match q with | (i,kk,s,y,o)=>((c.tenants.length:Int)-i).toNat,⟨(0,k1,stNew c,y0,none),[(15,12),(16,11)],⟨by omega,by omega,.new hV,Int.le_refl _,trivial⟩,⟨rfl,rfl⟩,kp_,kp_⟩,?_⟩
 rintro⟨i,kk,s,y,(_ | ⟨m,cp,el⟩)⟩ ⟨hi,hkk,hR,hct,ho⟩
 ·refine⟨⟨by decide,rfl,rfl⟩,?_⟩
  refine⟨fun hlt=>?_,fun hge=>?_⟩
  ·have hlt2:i<(c.tenants.length:Int):=of_decide_eq_true hlt
   refine⟨3,0,cap,zs,_,_,rfl,⟨rfl,rfl⟩,⟨hz,by omega,by omega⟩,⟨_,rfl,by omega,by omega⟩,?_⟩
   rintro _ k2 ⟨_,r2,hnn,rfl,⟨hr2,hk2⟩⟩
   cases hnn
   refine⟨Int×Int,fun q=>match q with | (h,kq)=>[(11,.int .i64 h)],fun q=>match q with | (h,kq)=>[(3,tapeM 0 zs.length cap kq)],fun q=>match q with | (h,kq)=>(0≤h∧h<c.cells.length)∧(kk≤kq∧kq≤kk+3),?_,?_⟩
   ·refine⟨3,0,cap,zs,_,_,rfl,⟨rfl,rfl⟩,⟨hz,by omega,by omega⟩,⟨_,rfl,by omega,by omega⟩,?_⟩
    rintro _ k3 ⟨_,r3,hnn,rfl,⟨hr3,hk3⟩⟩
    cases hnn
    refine⟨fun h3=>?_,fun h3=>?_⟩
    ·have hrp:=regL_pos hV hz0 hc0
     have hrl:=regL_le c 0 c.cells.length
     refine⟨_,x,c,0,rfl,kp_,hV,?_⟩
     intro cp1
     refine⟨kp_,?_⟩
     refine⟨_,x,c,0,rfl,kp_,hV,?_⟩
     intro cp2
     refine⟨kp_,?_⟩
     refine⟨3,0,cap,zs,_,_,rfl,⟨rfl,rfl⟩,⟨hz,by omega,by omega⟩,⟨_,rfl,by omega,by omega⟩,?_⟩
     rintro _ k4 ⟨_,r4,hnn,rfl,⟨hr4,hk4⟩⟩
     cases hnn
     have hbd:=regL_bd c 0 (j:=r4.toNat) (by omega)
     refine⟨⟨Nat.le_refl _,by omega,by omega⟩,?_⟩
     refine⟨(_,k4),⟨hbd,by omega,by omega⟩,kp_,kp_⟩
    ·refine⟨(r2,k3),⟨by omega,by omega,by omega⟩,kp_,kp_⟩
   ·rintro⟨h,kq⟩ ⟨hh,hkq⟩
    refine⟨⟨by decide,rfl,rfl⟩,?_⟩
    refine⟨3,0,cap,zs,_,_,rfl,⟨rfl,rfl⟩,⟨hz,by omega,by omega⟩,⟨_,rfl,by omega,by omega⟩,?_⟩
    rintro _ k5 ⟨_,r5,hnn,rfl,⟨hr5,hk5⟩⟩
    cases hnn
    refine⟨St×StK×Option (Nat×Nat×(Nat→List Value)),fun _=>[],fun q=>match q with | (s,y,none)=>[(13,.box 34 [.int .i64 s.tick,.int .i64 s.count,slc 18 s.tenants.length y.ct,slc 19 s.cells.length y.cc,.int .i64 s.proven,.int .i64 s.evac,.int .i64 s.low,.int .i64 s.high]),(18,rowOfL 500000 12 tsC default s.tenants),(19,rowOfL 500000 4 csC default s.cells),(14,.box 81 [zs0])] | (s,y,some (m,cp,el))=>[(13,.box 34 [.int .i64 s.tick,.int .i64 s.count,slc 18 s.tenants.length y.ct,slc 19 s.cells.length y.cc,.int .i64 s.proven,.int .i64 s.evac,.int .i64 s.low,.int .i64 s.high]),(18,rowOfL 500000 12 tsC default s.tenants),(19,rowOfL 500000 4 csC default s.cells),(14,.box 81 [slc 20 m cp]),(20,.row (1000000+39) 9 cp el)],fun q=>match q with | (s,y,o)=>RInv c s∧s.count≤4 * i+1∧match o with | none=>True | some (m,cp,el)=>m≤cp∧(m:Int)≤4 * i+1,?_,?_⟩
    ·refine⟨_,x,c,⟨15,16,500000⟩,y,s,(⟨1,s.tick,i,h,r5,0,0,0,0⟩:Ent),rfl,⟨kp_,.list rfl,.list rfl⟩,⟨hV,hR.inv⟩,?_⟩
     intro y2
     rw[applyRP hV hR.inv hR.cap]
     generalize hp:applyP c s (⟨1,s.tick,i,h,r5,0,0,0,0⟩:Ent)=p
     obtain⟨s2,n2⟩:=p
     refine⟨fun he=>?_,fun he=>?_⟩
     ·obtain rfl:n2=0:=by simpa using he
      have hR2:=hR.step hV hp
      have hc2:=applyP_count hp
      refine⟨⟨Nat.le_refl _,fun j hj=>by match j,hj with | 0,_=>rfl⟩,?_⟩
      refine⟨fun h=>absurd h (by decide),fun _=>⟨by decide,fun capq elq hcq g2q=>?_⟩⟩
      refine⟨(s2,y2,some (1,capq,elq)),[(18,21),(19,20),(20,24)],⟨hR2,by omega,⟨by omega,by omega⟩⟩,⟨rfl,rfl⟩,kp_,kp_⟩
     ·refine⟨(s,y,none),[(18,15),(19,16),(20,17)],⟨hR,by omega,trivial⟩,⟨rfl,rfl⟩,kp_,kp_⟩
    ·clear hR hct ho
     rintro⟨s,y,(_ | ⟨m,cp,el⟩)⟩ ⟨hR,hct,ho⟩
     ·refine⟨⟨by decide,rfl,rfl⟩,?_⟩
      refine⟨St×StK×Option (Nat×Nat×(Nat→List Value)),fun _=>[],fun q=>match q with | (s,y,none)=>[(13,.box 34 [.int .i64 s.tick,.int .i64 s.count,slc 21 s.tenants.length y.ct,slc 22 s.cells.length y.cc,.int .i64 s.proven,.int .i64 s.evac,.int .i64 s.low,.int .i64 s.high]),(21,rowOfL 500000 12 tsC default s.tenants),(22,rowOfL 500000 4 csC default s.cells),(14,.box 81 [zs0])] | (s,y,some (m,cp,el))=>[(13,.box 34 [.int .i64 s.tick,.int .i64 s.count,slc 21 s.tenants.length y.ct,slc 22 s.cells.length y.cc,.int .i64 s.proven,.int .i64 s.evac,.int .i64 s.low,.int .i64 s.high]),(21,rowOfL 500000 12 tsC default s.tenants),(22,rowOfL 500000 4 csC default s.cells),(14,.box 81 [slc 23 m cp]),(23,.row (1000000+39) 9 cp el)],fun q=>match q with | (s,y,o)=>RInv c s∧s.count≤4 * i+2∧match o with | none=>True | some (m,cp,el)=>m≤cp∧(m:Int)≤4 * i+2,?_,?_⟩
      ·refine⟨_,x,c,⟨18,19,500000⟩,y,s,(⟨1,s.tick,i,h,(IntKind.i64.wrap ((c.cells.length:Int)-1)),0,0,0,0⟩:Ent),rfl,⟨kp_,.list rfl,.list rfl⟩,⟨hV,hR.inv⟩,?_⟩
       intro y2
       rw[applyRP hV hR.inv hR.cap]
       generalize hp:applyP c s (⟨1,s.tick,i,h,(IntKind.i64.wrap ((c.cells.length:Int)-1)),0,0,0,0⟩:Ent)=p
       obtain⟨s2,n2⟩:=p
       refine⟨fun he=>?_,fun he=>?_⟩
       ·obtain rfl:n2=0:=by simpa using he
        have hR2:=hR.step hV hp
        have hc2:=applyP_count hp
        refine⟨⟨Nat.le_refl _,fun j hj=>by match j,hj with | 0,_=>rfl⟩,?_⟩
        refine⟨fun h=>absurd h (by decide),fun _=>⟨by decide,fun capq elq hcq g2q=>?_⟩⟩
        refine⟨(s2,y2,some (1,capq,elq)),[(21,24),(22,23),(23,27)],⟨hR2,by omega,⟨by omega,by omega⟩⟩,⟨rfl,rfl⟩,kp_,kp_⟩
       ·refine⟨(s,y,none),[(21,18),(22,19),(23,20)],⟨hR,by omega,trivial⟩,⟨rfl,rfl⟩,kp_,kp_⟩
      ·clear hR hct ho
       rintro⟨s,y,(_ | ⟨m,cp,el⟩)⟩ ⟨hR,hct,ho⟩
       ·refine⟨⟨by decide,rfl,rfl⟩,?_⟩
        refine⟨St×StK×Option (Nat×Nat×(Nat→List Value)),fun _=>[],fun q=>match q with | (s,y,none)=>[(13,.box 34 [.int .i64 s.tick,.int .i64 s.count,slc 24 s.tenants.length y.ct,slc 25 s.cells.length y.cc,.int .i64 s.proven,.int .i64 s.evac,.int .i64 s.low,.int .i64 s.high]),(24,rowOfL 500000 12 tsC default s.tenants),(25,rowOfL 500000 4 csC default s.cells),(14,.box 81 [zs0])] | (s,y,some (m,cp,el))=>[(13,.box 34 [.int .i64 s.tick,.int .i64 s.count,slc 24 s.tenants.length y.ct,slc 25 s.cells.length y.cc,.int .i64 s.proven,.int .i64 s.evac,.int .i64 s.low,.int .i64 s.high]),(24,rowOfL 500000 12 tsC default s.tenants),(25,rowOfL 500000 4 csC default s.cells),(14,.box 81 [slc 26 m cp]),(26,.row (1000000+39) 9 cp el)],fun q=>match q with | (s,y,o)=>RInv c s∧s.count≤4 * i+3∧match o with | none=>True | some (m,cp,el)=>m≤cp∧(m:Int)≤4 * i+3,?_,?_⟩
        ·refine⟨_,x,c,⟨21,22,500000⟩,y,s,(⟨1,s.tick,i,(IntKind.i64.wrap ((c.cells.length:Int)-1)),0,0,0,0,0⟩:Ent),rfl,⟨kp_,.list rfl,.list rfl⟩,⟨hV,hR.inv⟩,?_⟩
         intro y2
         rw[applyRP hV hR.inv hR.cap]
         generalize hp:applyP c s (⟨1,s.tick,i,(IntKind.i64.wrap ((c.cells.length:Int)-1)),0,0,0,0,0⟩:Ent)=p
         obtain⟨s2,n2⟩:=p
         refine⟨fun he=>?_,fun he=>?_⟩
         ·obtain rfl:n2=0:=by simpa using he
          have hR2:=hR.step hV hp
          have hc2:=applyP_count hp
          refine⟨⟨Nat.le_refl _,fun j hj=>by match j,hj with | 0,_=>rfl⟩,?_⟩
          refine⟨fun h=>absurd h (by decide),fun _=>⟨by decide,fun capq elq hcq g2q=>?_⟩⟩
          refine⟨(s2,y2,some (1,capq,elq)),[(24,27),(25,26),(26,30)],⟨hR2,by omega,⟨by omega,by omega⟩⟩,⟨rfl,rfl⟩,kp_,kp_⟩
         ·refine⟨(s,y,none),[(24,21),(25,22),(26,23)],⟨hR,by omega,trivial⟩,⟨rfl,rfl⟩,kp_,kp_⟩
        ·clear hR hct ho
         rintro⟨s,y,(_ | ⟨m,cp,el⟩)⟩ ⟨hR,hct,ho⟩
         ·refine⟨⟨by decide,rfl,rfl⟩,?_⟩
          have hlt3:=hR.inv.lt
          refine⟨⟨Nat.le_refl _,by omega,by omega⟩,?_⟩
          refine⟨fun hpl=>?_,fun hpl=>?_⟩
          ·refine⟨3,0,cap,zs,_,_,rfl,⟨rfl,rfl⟩,⟨hz,by omega,by omega⟩,⟨_,rfl,by omega,by omega⟩,?_⟩
           rintro _ k6 ⟨_,r6,hnn,rfl,⟨hr6,hk6⟩⟩
           cases hnn
           refine⟨fun hg=>?_,fun hg=>?_⟩
           ·refine⟨3,0,cap,zs,_,_,rfl,⟨rfl,rfl⟩,⟨hz,by omega,by omega⟩,⟨_,_,rfl,by omega,by omega,by omega⟩,?_⟩
            rintro _ k7 ⟨_,_,r7,hnn,rfl,hr7,hk7⟩
            cases hnn
            refine⟨kp_,?_⟩
            refine⟨kp_,?_⟩
            refine⟨kp_,?_⟩
            refine⟨_,x,c,⟨24,25,500000⟩,y,s,(⟨2,s.tick,i,(s.tenants.getD i.toNat default).home,-1,1,s.tick,IntKind.i64.wrap (s.tick+r7),0⟩:Ent),rfl,⟨kp_,.list rfl,.list rfl⟩,⟨hV,hR.inv⟩,?_⟩
            intro y2
            rw[applyRP hV hR.inv hR.cap]
            generalize hp:applyP c s (⟨2,s.tick,i,(s.tenants.getD i.toNat default).home,-1,1,s.tick,IntKind.i64.wrap (s.tick+r7),0⟩:Ent)=p
            obtain⟨s2,n2⟩:=p
            refine⟨fun he=>?_,fun he=>?_⟩
            ·obtain rfl:n2=0:=by simpa using he
             have hR2:=hR.step hV hp
             have hc2:=applyP_count hp
             refine⟨⟨Nat.le_refl _,fun j hj=>by match j,hj with | 0,_=>rfl⟩,?_⟩
             refine⟨fun h=>absurd h (by decide),fun _=>⟨by decide,fun capq elq hcq g2q=>?_⟩⟩
             refine⟨(_,_,s2,y2,some (1,capq,elq)),[(15,32),(16,31),(17,35)],?_,⟨rfl,rfl⟩,kp_,kp_⟩
             dsimp only
             rw[wrapi (n:=i+1) (by omega)]
             exact⟨⟨by omega,by omega,hR2,by omega,⟨by omega,by omega⟩⟩,by omega⟩
            ·refine⟨(_,_,s,y,none),[(15,24),(16,25),(17,26)],?_,⟨rfl,rfl⟩,kp_,kp_⟩
             dsimp only
             rw[wrapi (n:=i+1) (by omega)]
             exact⟨⟨by omega,by omega,hR,by omega,trivial⟩,by omega⟩
           ·refine⟨(_,_,s,y,none),[(15,24),(16,25),(17,26)],?_,⟨rfl,rfl⟩,kp_,kp_⟩
            dsimp only
            rw[wrapi (n:=i+1) (by omega)]
            exact⟨⟨by omega,by omega,hR,by omega,trivial⟩,by omega⟩
          ·refine⟨fun q=>Bool.noConfusion q,fun _=>?_⟩
           refine⟨(_,_,s,y,none),[(15,24),(16,25),(17,26)],?_,⟨rfl,rfl⟩,kp_,kp_⟩
           dsimp only
           rw[wrapi (n:=i+1) (by omega)]
           exact⟨⟨by omega,by omega,hR,by omega,trivial⟩,by omega⟩
         ·obtain⟨ho1,ho2⟩:=ho
          refine⟨⟨by decide,rfl,rfl⟩,?_⟩
          have hlt3:=hR.inv.lt
          refine⟨⟨Nat.le_refl _,by omega,by omega⟩,?_⟩
          refine⟨fun hpl=>?_,fun hpl=>?_⟩
          ·refine⟨3,0,cap,zs,_,_,rfl,⟨rfl,rfl⟩,⟨hz,by omega,by omega⟩,⟨_,rfl,by omega,by omega⟩,?_⟩
           rintro _ k6 ⟨_,r6,hnn,rfl,⟨hr6,hk6⟩⟩
           cases hnn
           refine⟨fun hg=>?_,fun hg=>?_⟩
           ·refine⟨3,0,cap,zs,_,_,rfl,⟨rfl,rfl⟩,⟨hz,by omega,by omega⟩,⟨_,_,rfl,by omega,by omega,by omega⟩,?_⟩
            rintro _ k7 ⟨_,_,r7,hnn,rfl,hr7,hk7⟩
            cases hnn
            refine⟨kp_,?_⟩
            refine⟨kp_,?_⟩
            refine⟨kp_,?_⟩
            refine⟨_,x,c,⟨24,25,500000⟩,y,s,(⟨2,s.tick,i,(s.tenants.getD i.toNat default).home,-1,1,s.tick,IntKind.i64.wrap (s.tick+r7),0⟩:Ent),rfl,⟨kp_,.list rfl,.list rfl⟩,⟨hV,hR.inv⟩,?_⟩
            intro y2
            rw[applyRP hV hR.inv hR.cap]
            generalize hp:applyP c s (⟨2,s.tick,i,(s.tenants.getD i.toNat default).home,-1,1,s.tick,IntKind.i64.wrap (s.tick+r7),0⟩:Ent)=p
            obtain⟨s2,n2⟩:=p
            refine⟨fun he=>?_,fun he=>?_⟩
            ·obtain rfl:n2=0:=by simpa using he
             have hR2:=hR.step hV hp
             have hc2:=applyP_count hp
             refine⟨⟨Nat.le_refl _,fun j hj=>by match j,hj with | 0,_=>rfl⟩,?_⟩
             refine⟨⟨rfl,ho1⟩,fun hinq elq g1q g2q=>?_,fun hgtq=>⟨by show (m+1) * 72≤140737488355328;omega,fun capq elq hcq g1q g2q=>?_⟩⟩
             ·refine⟨(_,_,s2,y2,some (m+1,cp,elq)),[(15,32),(16,31),(17,26)],?_,⟨rfl,rfl⟩,kp_,kp_⟩
              dsimp only
              rw[wrapi (n:=i+1) (by omega)]
              exact⟨⟨by omega,by omega,hR2,by omega,⟨by omega,by omega⟩⟩,by omega⟩
             ·refine⟨(_,_,s2,y2,some (m+1,capq,elq)),[(15,32),(16,31),(17,35)],?_,⟨rfl,rfl⟩,kp_,kp_⟩
              dsimp only
              rw[wrapi (n:=i+1) (by omega)]
              exact⟨⟨by omega,by omega,hR2,by omega,⟨by omega,by omega⟩⟩,by omega⟩
            ·refine⟨(_,_,s,y,some (m,cp,el)),[(15,24),(16,25),(17,26)],?_,⟨rfl,rfl⟩,kp_,kp_⟩
             dsimp only
             rw[wrapi (n:=i+1) (by omega)]
             exact⟨⟨by omega,by omega,hR,by omega,⟨by omega,by omega⟩⟩,by omega⟩
           ·refine⟨(_,_,s,y,some (m,cp,el)),[(15,24),(16,25),(17,26)],?_,⟨rfl,rfl⟩,kp_,kp_⟩
            dsimp only
            rw[wrapi (n:=i+1) (by omega)]
            exact⟨⟨by omega,by omega,hR,by omega,⟨by omega,by omega⟩⟩,by omega⟩
          ·refine⟨fun q=>Bool.noConfusion q,fun _=>?_⟩
           refine⟨(_,_,s,y,some (m,cp,el)),[(15,24),(16,25),(17,26)],?_,⟨rfl,rfl⟩,kp_,kp_⟩
           dsimp only
           rw[wrapi (n:=i+1) (by omega)]
           exact⟨⟨by omega,by omega,hR,by omega,⟨by omega,by omega⟩⟩,by omega⟩
       ·obtain⟨ho1,ho2⟩:=ho
        refine⟨⟨by decide,rfl,rfl⟩,?_⟩
        refine⟨St×StK×Nat×Nat×(Nat→List Value),fun _=>[],fun q=>match q with | (s,y,m,cp,el)=>[(13,.box 34 [.int .i64 s.tick,.int .i64 s.count,slc 24 s.tenants.length y.ct,slc 25 s.cells.length y.cc,.int .i64 s.proven,.int .i64 s.evac,.int .i64 s.low,.int .i64 s.high]),(24,rowOfL 500000 12 tsC default s.tenants),(25,rowOfL 500000 4 csC default s.cells),(14,.box 81 [slc 26 m cp]),(26,.row (1000000+39) 9 cp el)],fun q=>match q with | (s,y,m,cp,el)=>RInv c s∧s.count≤4 * i+3∧m≤cp∧(m:Int)≤4 * i+3,?_,?_⟩
        ·refine⟨_,x,c,⟨21,22,500000⟩,y,s,(⟨1,s.tick,i,(IntKind.i64.wrap ((c.cells.length:Int)-1)),0,0,0,0,0⟩:Ent),rfl,⟨kp_,.list rfl,.list rfl⟩,⟨hV,hR.inv⟩,?_⟩
         intro y2
         rw[applyRP hV hR.inv hR.cap]
         generalize hp:applyP c s (⟨1,s.tick,i,(IntKind.i64.wrap ((c.cells.length:Int)-1)),0,0,0,0,0⟩:Ent)=p
         obtain⟨s2,n2⟩:=p
         refine⟨fun he=>?_,fun he=>?_⟩
         ·obtain rfl:n2=0:=by simpa using he
          have hR2:=hR.step hV hp
          have hc2:=applyP_count hp
          refine⟨⟨Nat.le_refl _,fun j hj=>by match j,hj with | 0,_=>rfl⟩,?_⟩
          refine⟨⟨rfl,ho1⟩,fun hinq elq g1q g2q=>?_,fun hgtq=>⟨by show (m+1) * 72≤140737488355328;omega,fun capq elq hcq g1q g2q=>?_⟩⟩
          ·refine⟨(s2,y2,m+1,cp,elq),[(24,27),(25,26),(26,23)],⟨hR2,by omega,by omega,by omega⟩,⟨rfl,rfl⟩,kp_,kp_⟩
          ·refine⟨(s2,y2,m+1,capq,elq),[(24,27),(25,26),(26,30)],⟨hR2,by omega,by omega,by omega⟩,⟨rfl,rfl⟩,kp_,kp_⟩
         ·refine⟨(s,y,m,cp,el),[(24,21),(25,22),(26,23)],⟨hR,by omega,by omega,by omega⟩,⟨rfl,rfl⟩,kp_,kp_⟩
        ·clear hR hct ho1 ho2
         rintro⟨s,y,m,cp,el⟩ ⟨hR,hct,ho1,ho2⟩
         refine⟨⟨by decide,rfl,rfl⟩,?_⟩
         have hlt3:=hR.inv.lt
         refine⟨⟨Nat.le_refl _,by omega,by omega⟩,?_⟩
         refine⟨fun hpl=>?_,fun hpl=>?_⟩
         ·refine⟨3,0,cap,zs,_,_,rfl,⟨rfl,rfl⟩,⟨hz,by omega,by omega⟩,⟨_,rfl,by omega,by omega⟩,?_⟩
          rintro _ k6 ⟨_,r6,hnn,rfl,⟨hr6,hk6⟩⟩
          cases hnn
          refine⟨fun hg=>?_,fun hg=>?_⟩
          ·refine⟨3,0,cap,zs,_,_,rfl,⟨rfl,rfl⟩,⟨hz,by omega,by omega⟩,⟨_,_,rfl,by omega,by omega,by omega⟩,?_⟩
           rintro _ k7 ⟨_,_,r7,hnn,rfl,hr7,hk7⟩
           cases hnn
           refine⟨kp_,?_⟩
           refine⟨kp_,?_⟩
           refine⟨kp_,?_⟩
           refine⟨_,x,c,⟨24,25,500000⟩,y,s,(⟨2,s.tick,i,(s.tenants.getD i.toNat default).home,-1,1,s.tick,IntKind.i64.wrap (s.tick+r7),0⟩:Ent),rfl,⟨kp_,.list rfl,.list rfl⟩,⟨hV,hR.inv⟩,?_⟩
           intro y2
           rw[applyRP hV hR.inv hR.cap]
           generalize hp:applyP c s (⟨2,s.tick,i,(s.tenants.getD i.toNat default).home,-1,1,s.tick,IntKind.i64.wrap (s.tick+r7),0⟩:Ent)=p
           obtain⟨s2,n2⟩:=p
           refine⟨fun he=>?_,fun he=>?_⟩
           ·obtain rfl:n2=0:=by simpa using he
            have hR2:=hR.step hV hp
            have hc2:=applyP_count hp
            refine⟨⟨Nat.le_refl _,fun j hj=>by match j,hj with | 0,_=>rfl⟩,?_⟩
            refine⟨⟨rfl,ho1⟩,fun hinq elq g1q g2q=>?_,fun hgtq=>⟨by show (m+1) * 72≤140737488355328;omega,fun capq elq hcq g1q g2q=>?_⟩⟩
            ·refine⟨(_,_,s2,y2,some (m+1,cp,elq)),[(15,32),(16,31),(17,26)],?_,⟨rfl,rfl⟩,kp_,kp_⟩
             dsimp only
             rw[wrapi (n:=i+1) (by omega)]
             exact⟨⟨by omega,by omega,hR2,by omega,⟨by omega,by omega⟩⟩,by omega⟩
            ·refine⟨(_,_,s2,y2,some (m+1,capq,elq)),[(15,32),(16,31),(17,35)],?_,⟨rfl,rfl⟩,kp_,kp_⟩
             dsimp only
             rw[wrapi (n:=i+1) (by omega)]
             exact⟨⟨by omega,by omega,hR2,by omega,⟨by omega,by omega⟩⟩,by omega⟩
           ·refine⟨(_,_,s,y,some (m,cp,el)),[(15,24),(16,25),(17,26)],?_,⟨rfl,rfl⟩,kp_,kp_⟩
            dsimp only
            rw[wrapi (n:=i+1) (by omega)]
            exact⟨⟨by omega,by omega,hR,by omega,⟨by omega,by omega⟩⟩,by omega⟩
          ·refine⟨(_,_,s,y,some (m,cp,el)),[(15,24),(16,25),(17,26)],?_,⟨rfl,rfl⟩,kp_,kp_⟩
           dsimp only
           rw[wrapi (n:=i+1) (by omega)]
           exact⟨⟨by omega,by omega,hR,by omega,⟨by omega,by omega⟩⟩,by omega⟩
         ·refine⟨fun q=>Bool.noConfusion q,fun _=>?_⟩
          refine⟨(_,_,s,y,some (m,cp,el)),[(15,24),(16,25),(17,26)],?_,⟨rfl,rfl⟩,kp_,kp_⟩
          dsimp only
          rw[wrapi (n:=i+1) (by omega)]
          exact⟨⟨by omega,by omega,hR,by omega,⟨by omega,by omega⟩⟩,by omega⟩
     ·obtain⟨ho1,ho2⟩:=ho
      refine⟨⟨by decide,rfl,rfl⟩,?_⟩
      refine⟨St×StK×Nat×Nat×(Nat→List Value),fun _=>[],fun q=>match q with | (s,y,m,cp,el)=>[(13,.box 34 [.int .i64 s.tick,.int .i64 s.count,slc 21 s.tenants.length y.ct,slc 22 s.cells.length y.cc,.int .i64 s.proven,.int .i64 s.evac,.int .i64 s.low,.int .i64 s.high]),(21,rowOfL 500000 12 tsC default s.tenants),(22,rowOfL 500000 4 csC default s.cells),(14,.box 81 [slc 23 m cp]),(23,.row (1000000+39) 9 cp el)],fun q=>match q with | (s,y,m,cp,el)=>RInv c s∧s.count≤4 * i+2∧m≤cp∧(m:Int)≤4 * i+2,?_,?_⟩
      ·refine⟨_,x,c,⟨18,19,500000⟩,y,s,(⟨1,s.tick,i,h,(IntKind.i64.wrap ((c.cells.length:Int)-1)),0,0,0,0⟩:Ent),rfl,⟨kp_,.list rfl,.list rfl⟩,⟨hV,hR.inv⟩,?_⟩
       intro y2
       rw[applyRP hV hR.inv hR.cap]
       generalize hp:applyP c s (⟨1,s.tick,i,h,(IntKind.i64.wrap ((c.cells.length:Int)-1)),0,0,0,0⟩:Ent)=p
       obtain⟨s2,n2⟩:=p
       refine⟨fun he=>?_,fun he=>?_⟩
       ·obtain rfl:n2=0:=by simpa using he
        have hR2:=hR.step hV hp
        have hc2:=applyP_count hp
        refine⟨⟨Nat.le_refl _,fun j hj=>by match j,hj with | 0,_=>rfl⟩,?_⟩
        refine⟨⟨rfl,ho1⟩,fun hinq elq g1q g2q=>?_,fun hgtq=>⟨by show (m+1) * 72≤140737488355328;omega,fun capq elq hcq g1q g2q=>?_⟩⟩
        ·refine⟨(s2,y2,m+1,cp,elq),[(21,24),(22,23),(23,20)],⟨hR2,by omega,by omega,by omega⟩,⟨rfl,rfl⟩,kp_,kp_⟩
        ·refine⟨(s2,y2,m+1,capq,elq),[(21,24),(22,23),(23,27)],⟨hR2,by omega,by omega,by omega⟩,⟨rfl,rfl⟩,kp_,kp_⟩
       ·refine⟨(s,y,m,cp,el),[(21,18),(22,19),(23,20)],⟨hR,by omega,by omega,by omega⟩,⟨rfl,rfl⟩,kp_,kp_⟩
      ·clear hR hct ho1 ho2
       rintro⟨s,y,m,cp,el⟩ ⟨hR,hct,ho1,ho2⟩
       refine⟨⟨by decide,rfl,rfl⟩,?_⟩
       refine⟨St×StK×Nat×Nat×(Nat→List Value),fun _=>[],fun q=>match q with | (s,y,m,cp,el)=>[(13,.box 34 [.int .i64 s.tick,.int .i64 s.count,slc 24 s.tenants.length y.ct,slc 25 s.cells.length y.cc,.int .i64 s.proven,.int .i64 s.evac,.int .i64 s.low,.int .i64 s.high]),(24,rowOfL 500000 12 tsC default s.tenants),(25,rowOfL 500000 4 csC default s.cells),(14,.box 81 [slc 26 m cp]),(26,.row (1000000+39) 9 cp el)],fun q=>match q with | (s,y,m,cp,el)=>RInv c s∧s.count≤4 * i+3∧m≤cp∧(m:Int)≤4 * i+3,?_,?_⟩
       ·refine⟨_,x,c,⟨21,22,500000⟩,y,s,(⟨1,s.tick,i,(IntKind.i64.wrap ((c.cells.length:Int)-1)),0,0,0,0,0⟩:Ent),rfl,⟨kp_,.list rfl,.list rfl⟩,⟨hV,hR.inv⟩,?_⟩
        intro y2
        rw[applyRP hV hR.inv hR.cap]
        generalize hp:applyP c s (⟨1,s.tick,i,(IntKind.i64.wrap ((c.cells.length:Int)-1)),0,0,0,0,0⟩:Ent)=p
        obtain⟨s2,n2⟩:=p
        refine⟨fun he=>?_,fun he=>?_⟩
        ·obtain rfl:n2=0:=by simpa using he
         have hR2:=hR.step hV hp
         have hc2:=applyP_count hp
         refine⟨⟨Nat.le_refl _,fun j hj=>by match j,hj with | 0,_=>rfl⟩,?_⟩
         refine⟨⟨rfl,ho1⟩,fun hinq elq g1q g2q=>?_,fun hgtq=>⟨by show (m+1) * 72≤140737488355328;omega,fun capq elq hcq g1q g2q=>?_⟩⟩
         ·refine⟨(s2,y2,m+1,cp,elq),[(24,27),(25,26),(26,23)],⟨hR2,by omega,by omega,by omega⟩,⟨rfl,rfl⟩,kp_,kp_⟩
         ·refine⟨(s2,y2,m+1,capq,elq),[(24,27),(25,26),(26,30)],⟨hR2,by omega,by omega,by omega⟩,⟨rfl,rfl⟩,kp_,kp_⟩
        ·refine⟨(s,y,m,cp,el),[(24,21),(25,22),(26,23)],⟨hR,by omega,by omega,by omega⟩,⟨rfl,rfl⟩,kp_,kp_⟩
       ·clear hR hct ho1 ho2
        rintro⟨s,y,m,cp,el⟩ ⟨hR,hct,ho1,ho2⟩
        refine⟨⟨by decide,rfl,rfl⟩,?_⟩
        have hlt3:=hR.inv.lt
        refine⟨⟨Nat.le_refl _,by omega,by omega⟩,?_⟩
        refine⟨fun hpl=>?_,fun hpl=>?_⟩
        ·refine⟨3,0,cap,zs,_,_,rfl,⟨rfl,rfl⟩,⟨hz,by omega,by omega⟩,⟨_,rfl,by omega,by omega⟩,?_⟩
         rintro _ k6 ⟨_,r6,hnn,rfl,⟨hr6,hk6⟩⟩
         cases hnn
         refine⟨fun hg=>?_,fun hg=>?_⟩
         ·refine⟨3,0,cap,zs,_,_,rfl,⟨rfl,rfl⟩,⟨hz,by omega,by omega⟩,⟨_,_,rfl,by omega,by omega,by omega⟩,?_⟩
          rintro _ k7 ⟨_,_,r7,hnn,rfl,hr7,hk7⟩
          cases hnn
          refine⟨kp_,?_⟩
          refine⟨kp_,?_⟩
          refine⟨kp_,?_⟩
          refine⟨_,x,c,⟨24,25,500000⟩,y,s,(⟨2,s.tick,i,(s.tenants.getD i.toNat default).home,-1,1,s.tick,IntKind.i64.wrap (s.tick+r7),0⟩:Ent),rfl,⟨kp_,.list rfl,.list rfl⟩,⟨hV,hR.inv⟩,?_⟩
          intro y2
          rw[applyRP hV hR.inv hR.cap]
          generalize hp:applyP c s (⟨2,s.tick,i,(s.tenants.getD i.toNat default).home,-1,1,s.tick,IntKind.i64.wrap (s.tick+r7),0⟩:Ent)=p
          obtain⟨s2,n2⟩:=p
          refine⟨fun he=>?_,fun he=>?_⟩
          ·obtain rfl:n2=0:=by simpa using he
           have hR2:=hR.step hV hp
           have hc2:=applyP_count hp
           refine⟨⟨Nat.le_refl _,fun j hj=>by match j,hj with | 0,_=>rfl⟩,?_⟩
           refine⟨⟨rfl,ho1⟩,fun hinq elq g1q g2q=>?_,fun hgtq=>⟨by show (m+1) * 72≤140737488355328;omega,fun capq elq hcq g1q g2q=>?_⟩⟩
           ·refine⟨(_,_,s2,y2,some (m+1,cp,elq)),[(15,32),(16,31),(17,26)],?_,⟨rfl,rfl⟩,kp_,kp_⟩
            dsimp only
            rw[wrapi (n:=i+1) (by omega)]
            exact⟨⟨by omega,by omega,hR2,by omega,⟨by omega,by omega⟩⟩,by omega⟩
           ·refine⟨(_,_,s2,y2,some (m+1,capq,elq)),[(15,32),(16,31),(17,35)],?_,⟨rfl,rfl⟩,kp_,kp_⟩
            dsimp only
            rw[wrapi (n:=i+1) (by omega)]
            exact⟨⟨by omega,by omega,hR2,by omega,⟨by omega,by omega⟩⟩,by omega⟩
          ·refine⟨(_,_,s,y,some (m,cp,el)),[(15,24),(16,25),(17,26)],?_,⟨rfl,rfl⟩,kp_,kp_⟩
           dsimp only
           rw[wrapi (n:=i+1) (by omega)]
           exact⟨⟨by omega,by omega,hR,by omega,⟨by omega,by omega⟩⟩,by omega⟩
         ·refine⟨(_,_,s,y,some (m,cp,el)),[(15,24),(16,25),(17,26)],?_,⟨rfl,rfl⟩,kp_,kp_⟩
          dsimp only
          rw[wrapi (n:=i+1) (by omega)]
          exact⟨⟨by omega,by omega,hR,by omega,⟨by omega,by omega⟩⟩,by omega⟩
        ·refine⟨fun q=>Bool.noConfusion q,fun _=>?_⟩
         refine⟨(_,_,s,y,some (m,cp,el)),[(15,24),(16,25),(17,26)],?_,⟨rfl,rfl⟩,kp_,kp_⟩
         dsimp only
         rw[wrapi (n:=i+1) (by omega)]
         exact⟨⟨by omega,by omega,hR,by omega,⟨by omega,by omega⟩⟩,by omega⟩
  ·have hge2:¬ i<(c.tenants.length:Int):=of_decide_eq_false hge
   refine⟨Int×Int×St×StK×Option (Nat×Nat×(Nat→List Value)),fun q=>match q with | (k,kk,s,y,o)=>[(15,.int .i64 k)],fun q=>match q with | (k,kk,s,y,none)=>[(3,tapeM 0 zs.length cap kk),(13,.box 34 [.int .i64 s.tick,.int .i64 s.count,slc 18 s.tenants.length y.ct,slc 19 s.cells.length y.cc,.int .i64 s.proven,.int .i64 s.evac,.int .i64 s.low,.int .i64 s.high]),(18,rowOfL 500000 12 tsC default s.tenants),(19,rowOfL 500000 4 csC default s.cells),(14,.box 81 [zs0])] | (k,kk,s,y,some (m,cp,el))=>[(3,tapeM 0 zs.length cap kk),(13,.box 34 [.int .i64 s.tick,.int .i64 s.count,slc 18 s.tenants.length y.ct,slc 19 s.cells.length y.cc,.int .i64 s.proven,.int .i64 s.evac,.int .i64 s.low,.int .i64 s.high]),(18,rowOfL 500000 12 tsC default s.tenants),(19,rowOfL 500000 4 csC default s.cells),(14,.box 81 [slc 20 m cp]),(20,.row (1000000+39) 9 cp el)],fun q=>match q with | (k,kk,s,y,o)=>(0≤k∧k≤12)∧(0≤kk∧kk≤800+20 * k)∧RInv c s∧s.count≤128+k∧match o with | none=>True | some (m,cp,el)=>m≤cp∧(m:Int)≤128+k,fun q=>match q with | (k,kk,s,y,o)=>(12-k).toNat,⟨(0,kk,s,y,none),[(18,15),(19,16),(20,17)],⟨by omega,by omega,hR,by omega,trivial⟩,⟨rfl,rfl⟩,kp_,kp_⟩,?_⟩
   clear hR hct hkk hge hge2 ho
   rintro⟨k,kk,s,y,(_ | ⟨m,cp,el⟩)⟩ ⟨hk,hkk,hR,hct,ho⟩
   ·refine⟨⟨by decide,rfl,rfl⟩,?_⟩
    refine⟨fun hlt=>?_,fun hge=>?_⟩
    ·have hlt2:k<12:=of_decide_eq_true hlt
     refine⟨3,0,cap,zs,_,_,rfl,⟨rfl,rfl⟩,⟨hz,by omega,by omega⟩,rfl,?_⟩
     rintro _ k10 ⟨b10,rfl,hk10⟩
     refine⟨fun hmo=>?_,fun hmo=>?_⟩
     ·refine⟨3,0,cap,zs,_,_,rfl,⟨rfl,rfl⟩,⟨hz,by omega,by omega⟩,⟨_,rfl,by omega,by omega⟩,?_⟩
      rintro _ k11 ⟨_,r11,hnn,rfl,⟨hr11,hk11⟩⟩
      cases hnn
      refine⟨kp_,?_⟩
      refine⟨3,0,cap,zs,_,_,rfl,⟨rfl,rfl⟩,⟨hz,by omega,by omega⟩,⟨_,rfl,by omega,by omega⟩,?_⟩
      rintro _ k12 ⟨_,r12,hnn,rfl,⟨hr12,hk12⟩⟩
      cases hnn
      refine⟨kp_,?_⟩
      refine⟨3,0,cap,zs,_,_,rfl,⟨rfl,rfl⟩,⟨hz,by omega,by omega⟩,⟨_,rfl,by omega,by omega⟩,?_⟩
      rintro _ k13 ⟨_,r13,hnn,rfl,⟨hr13,hk13⟩⟩
      cases hnn
      refine⟨kp_,?_⟩
      refine⟨Ent×Int,fun _=>[],fun q=>match q with | (e,kq)=>[(3,tapeM 0 zs.length cap kq),(22,.box 39 [.int .i64 e.kind,.int .i64 e.tick,.int .i64 e.tenant,.int .i64 e.cell,.int .i64 e.other,.int .i64 e.epoch,.int .i64 e.since,.int .i64 e.till,.int .i64 e.n])],fun q=>match q with | (e,kq)=>kk≤kq∧kq≤kk+8,?_,?_⟩
      ·refine⟨3,0,cap,zs,_,_,rfl,⟨rfl,rfl⟩,⟨hz,by omega,by omega⟩,⟨_,rfl,by omega,by omega⟩,?_⟩
       rintro _ k14 ⟨_,r14,hnn,rfl,⟨hr14,hk14⟩⟩
       cases hnn
       refine⟨fun q0=>?_,fun q0=>?_⟩
       ·refine⟨(⟨_,_,_,_,_,_,_,_,_⟩,_),?_,kp_,kp_⟩
        exact⟨by omega,by omega⟩
       ·refine⟨fun q0=>?_,fun q0=>?_⟩
        ·refine⟨(⟨_,_,_,_,_,_,_,_,_⟩,_),?_,kp_,kp_⟩
         exact⟨by omega,by omega⟩
        ·refine⟨fun q0=>?_,fun q0=>?_⟩
         ·refine⟨(⟨_,_,_,_,_,_,_,_,_⟩,_),?_,kp_,kp_⟩
          exact⟨by omega,by omega⟩
         ·refine⟨fun q0=>?_,fun q0=>?_⟩
          ·refine⟨3,0,cap,zs,_,_,rfl,⟨rfl,rfl⟩,⟨hz,by omega,by omega⟩,⟨_,rfl,by omega,by omega⟩,?_⟩
           rintro _ k15 ⟨_,r15,hnn,rfl,⟨hr15,hk15⟩⟩
           cases hnn
           refine⟨(⟨_,_,_,_,_,_,_,_,_⟩,_),?_,kp_,kp_⟩
           exact⟨by omega,by omega⟩
          ·refine⟨fun q0=>?_,fun q0=>?_⟩
           ·refine⟨3,0,cap,zs,_,_,rfl,⟨rfl,rfl⟩,⟨hz,by omega,by omega⟩,⟨_,_,rfl,by omega,by omega,by omega⟩,?_⟩
            rintro _ k15 ⟨_,_,r15,hnn,rfl,hr15,hk15⟩
            cases hnn
            refine⟨(⟨_,_,_,_,_,_,_,_,_⟩,_),?_,kp_,kp_⟩
            exact⟨by omega,by omega⟩
           ·refine⟨fun q0=>?_,fun q0=>?_⟩
            ·refine⟨3,0,cap,zs,_,_,rfl,⟨rfl,rfl⟩,⟨hz,by omega,by omega⟩,⟨_,rfl,by omega,by omega⟩,?_⟩
             rintro _ k15 ⟨_,r15,hnn,rfl,⟨hr15,hk15⟩⟩
             cases hnn
             refine⟨(⟨_,_,_,_,_,_,_,_,_⟩,_),?_,kp_,kp_⟩
             exact⟨by omega,by omega⟩
            ·refine⟨fun q0=>?_,fun q0=>?_⟩
             ·have hlt3:=hR.inv.lt
              refine⟨⟨Nat.le_refl _,by omega,by omega⟩,?_⟩
              refine⟨(⟨_,_,_,_,_,_,_,_,_⟩,_),?_,kp_,kp_⟩
              exact⟨by omega,by omega⟩
             ·refine⟨fun q0=>?_,fun q0=>?_⟩
              ·have hlc3:=hR.inv.lc
               refine⟨⟨Nat.le_refl _,by omega,by omega⟩,?_⟩
               refine⟨3,0,cap,zs,_,_,rfl,⟨rfl,rfl⟩,⟨hz,by omega,by omega⟩,⟨_,rfl,(by rw[wrapi (by omega)];omega),(by rw[wrapi (by omega)];omega)⟩,?_⟩
               rintro _ k15 ⟨_,r15,hnn,rfl,⟨hr15,hk15⟩⟩
               cases hnn
               refine⟨kp_,?_⟩
               refine⟨kp_,?_⟩
               refine⟨kp_,?_⟩
               refine⟨kp_,?_⟩
               refine⟨(⟨_,_,_,_,_,_,_,_,_⟩,_),?_,kp_,kp_⟩
               exact⟨by omega,by omega⟩
              ·have hlt3:=hR.inv.lt
               refine⟨⟨Nat.le_refl _,by omega,by omega⟩,?_⟩
               refine⟨kp_,?_⟩
               refine⟨3,0,cap,zs,_,_,rfl,⟨rfl,rfl⟩,⟨hz,by omega,by omega⟩,⟨_,_,rfl,by omega,by omega,by omega⟩,?_⟩
               rintro _ k16 ⟨_,_,r16,hnn,rfl,hr16,hk16⟩
               cases hnn
               refine⟨kp_,?_⟩
               refine⟨fun hh=>?_,fun hh=>?_⟩
               ·have hlc3:=hR.inv.lc
                have hx:=(hR.inv.ten _ (tsAt_mem (s:=s) (i:=r11) (by omega) (by omega)).2).home
                unfold tsAt at hx
                have hh2:0≤(s.tenants.getD r11.toNat default).home:=of_decide_eq_true hh
                refine⟨⟨Nat.le_refl _,hh2,by omega⟩,?_⟩
                refine⟨(⟨_,_,_,_,_,_,_,_,_⟩,_),?_,kp_,kp_⟩
                exact⟨by omega,by omega⟩
               ·refine⟨(⟨_,_,_,_,_,_,_,_,_⟩,_),?_,kp_,kp_⟩
                exact⟨by omega,by omega⟩
      ·rintro⟨e,kq⟩ ⟨hkq1,hkq2⟩
       refine⟨⟨by decide,rfl,rfl⟩,?_⟩
       refine⟨_,x,c,⟨18,19,500000⟩,y,s,e,rfl,⟨kp_,.list rfl,.list rfl⟩,⟨hV,hR.inv⟩,?_⟩
       intro y2
       rw[applyRP hV hR.inv hR.cap]
       generalize hp:applyP c s e=p
       obtain⟨s2,n2⟩:=p
       refine⟨fun he=>?_,fun he=>?_⟩
       ·obtain rfl:n2=0:=by simpa using he
        have hR2:=hR.step hV hp
        have hc2:=applyP_count hp
        refine⟨⟨Nat.le_refl _,fun j hj=>by match j,hj with | 0,_=>rfl⟩,?_⟩
        refine⟨fun h=>absurd h (by decide),fun _=>⟨by decide,fun capq elq hcq g2q=>?_⟩⟩
        refine⟨(_,kq,s2,y2,some (1,capq,elq)),[(18,25),(19,24),(20,28)],?_,⟨rfl,rfl⟩,kp_,kp_⟩
        dsimp only
        rw[wrapi (n:=k+1) (by omega)]
        exact⟨⟨by omega,by omega,hR2,by omega,⟨by omega,by omega⟩⟩,by omega⟩
       ·refine⟨(_,kq,s,y,none),[(18,18),(19,19),(20,20)],?_,⟨rfl,rfl⟩,kp_,kp_⟩
        dsimp only
        rw[wrapi (n:=k+1) (by omega)]
        exact⟨⟨by omega,by omega,hR,by omega,trivial⟩,by omega⟩
     ·refine⟨kp_,?_⟩
      exact⟨⟨9,8,7,6,5,4,500000⟩,x,c,_,⟨18,19,500000⟩,y,s,hV,⟨hR,by omega⟩,⟨rfl,.inl rfl⟩,⟨⟨_,_,_,rfl,rfl,Nat.le_refl _,fun k hk=>rfl⟩,⟨_,_,_,rfl,rfl,Nat.le_refl _,fun k hk=>rfl⟩,⟨_,_,_,rfl,rfl,Nat.le_refl _,fun k hk=>rfl⟩,⟨_,_,_,rfl,rfl,Nat.le_refl _,fun k hk=>rfl⟩,⟨_,_,_,rfl,rfl,Nat.le_refl _,fun k hk=>rfl⟩,⟨_,_,_,rfl,rfl,Nat.le_refl _,fun k hk=>rfl⟩⟩,⟨⟨_,_,_,rfl,rfl,Nat.le_refl _,fun k hk=>rfl⟩,⟨_,_,_,rfl,rfl,Nat.le_refl _,fun k hk=>rfl⟩⟩⟩
    ·refine⟨fun q=>Bool.noConfusion q,fun _=>?_⟩
     refine⟨kp_,?_⟩
     exact⟨⟨9,8,7,6,5,4,500000⟩,x,c,_,⟨18,19,500000⟩,y,s,hV,⟨hR,by omega⟩,⟨rfl,.inl rfl⟩,⟨⟨_,_,_,rfl,rfl,Nat.le_refl _,fun k hk=>rfl⟩,⟨_,_,_,rfl,rfl,Nat.le_refl _,fun k hk=>rfl⟩,⟨_,_,_,rfl,rfl,Nat.le_refl _,fun k hk=>rfl⟩,⟨_,_,_,rfl,rfl,Nat.le_refl _,fun k hk=>rfl⟩,⟨_,_,_,rfl,rfl,Nat.le_refl _,fun k hk=>rfl⟩,⟨_,_,_,rfl,rfl,Nat.le_refl _,fun k hk=>rfl⟩⟩,⟨⟨_,_,_,rfl,rfl,Nat.le_refl _,fun k hk=>rfl⟩,⟨_,_,_,rfl,rfl,Nat.le_refl _,fun k hk=>rfl⟩⟩⟩
   ·obtain⟨ho1,ho2⟩:=ho
    refine⟨⟨by decide,rfl,rfl⟩,?_⟩
    refine⟨fun hlt=>?_,fun hge=>?_⟩
    ·have hlt2:k<12:=of_decide_eq_true hlt
     refine⟨3,0,cap,zs,_,_,rfl,⟨rfl,rfl⟩,⟨hz,by omega,by omega⟩,rfl,?_⟩
     rintro _ k10 ⟨b10,rfl,hk10⟩
     refine⟨fun hmo=>?_,fun hmo=>?_⟩
     ·refine⟨3,0,cap,zs,_,_,rfl,⟨rfl,rfl⟩,⟨hz,by omega,by omega⟩,⟨_,rfl,by omega,by omega⟩,?_⟩
      rintro _ k11 ⟨_,r11,hnn,rfl,⟨hr11,hk11⟩⟩
      cases hnn
      refine⟨kp_,?_⟩
      refine⟨3,0,cap,zs,_,_,rfl,⟨rfl,rfl⟩,⟨hz,by omega,by omega⟩,⟨_,rfl,by omega,by omega⟩,?_⟩
      rintro _ k12 ⟨_,r12,hnn,rfl,⟨hr12,hk12⟩⟩
      cases hnn
      refine⟨kp_,?_⟩
      refine⟨3,0,cap,zs,_,_,rfl,⟨rfl,rfl⟩,⟨hz,by omega,by omega⟩,⟨_,rfl,by omega,by omega⟩,?_⟩
      rintro _ k13 ⟨_,r13,hnn,rfl,⟨hr13,hk13⟩⟩
      cases hnn
      refine⟨kp_,?_⟩
      refine⟨Ent×Int,fun _=>[],fun q=>match q with | (e,kq)=>[(3,tapeM 0 zs.length cap kq),(22,.box 39 [.int .i64 e.kind,.int .i64 e.tick,.int .i64 e.tenant,.int .i64 e.cell,.int .i64 e.other,.int .i64 e.epoch,.int .i64 e.since,.int .i64 e.till,.int .i64 e.n])],fun q=>match q with | (e,kq)=>kk≤kq∧kq≤kk+8,?_,?_⟩
      ·refine⟨3,0,cap,zs,_,_,rfl,⟨rfl,rfl⟩,⟨hz,by omega,by omega⟩,⟨_,rfl,by omega,by omega⟩,?_⟩
       rintro _ k14 ⟨_,r14,hnn,rfl,⟨hr14,hk14⟩⟩
       cases hnn
       refine⟨fun q0=>?_,fun q0=>?_⟩
       ·refine⟨(⟨_,_,_,_,_,_,_,_,_⟩,_),?_,kp_,kp_⟩
        exact⟨by omega,by omega⟩
       ·refine⟨fun q0=>?_,fun q0=>?_⟩
        ·refine⟨(⟨_,_,_,_,_,_,_,_,_⟩,_),?_,kp_,kp_⟩
         exact⟨by omega,by omega⟩
        ·refine⟨fun q0=>?_,fun q0=>?_⟩
         ·refine⟨(⟨_,_,_,_,_,_,_,_,_⟩,_),?_,kp_,kp_⟩
          exact⟨by omega,by omega⟩
         ·refine⟨fun q0=>?_,fun q0=>?_⟩
          ·refine⟨3,0,cap,zs,_,_,rfl,⟨rfl,rfl⟩,⟨hz,by omega,by omega⟩,⟨_,rfl,by omega,by omega⟩,?_⟩
           rintro _ k15 ⟨_,r15,hnn,rfl,⟨hr15,hk15⟩⟩
           cases hnn
           refine⟨(⟨_,_,_,_,_,_,_,_,_⟩,_),?_,kp_,kp_⟩
           exact⟨by omega,by omega⟩
          ·refine⟨fun q0=>?_,fun q0=>?_⟩
           ·refine⟨3,0,cap,zs,_,_,rfl,⟨rfl,rfl⟩,⟨hz,by omega,by omega⟩,⟨_,_,rfl,by omega,by omega,by omega⟩,?_⟩
            rintro _ k15 ⟨_,_,r15,hnn,rfl,hr15,hk15⟩
            cases hnn
            refine⟨(⟨_,_,_,_,_,_,_,_,_⟩,_),?_,kp_,kp_⟩
            exact⟨by omega,by omega⟩
           ·refine⟨fun q0=>?_,fun q0=>?_⟩
            ·refine⟨3,0,cap,zs,_,_,rfl,⟨rfl,rfl⟩,⟨hz,by omega,by omega⟩,⟨_,rfl,by omega,by omega⟩,?_⟩
             rintro _ k15 ⟨_,r15,hnn,rfl,⟨hr15,hk15⟩⟩
             cases hnn
             refine⟨(⟨_,_,_,_,_,_,_,_,_⟩,_),?_,kp_,kp_⟩
             exact⟨by omega,by omega⟩
            ·refine⟨fun q0=>?_,fun q0=>?_⟩
             ·have hlt3:=hR.inv.lt
              refine⟨⟨Nat.le_refl _,by omega,by omega⟩,?_⟩
              refine⟨(⟨_,_,_,_,_,_,_,_,_⟩,_),?_,kp_,kp_⟩
              exact⟨by omega,by omega⟩
             ·refine⟨fun q0=>?_,fun q0=>?_⟩
              ·have hlc3:=hR.inv.lc
               refine⟨⟨Nat.le_refl _,by omega,by omega⟩,?_⟩
               refine⟨3,0,cap,zs,_,_,rfl,⟨rfl,rfl⟩,⟨hz,by omega,by omega⟩,⟨_,rfl,(by rw[wrapi (by omega)];omega),(by rw[wrapi (by omega)];omega)⟩,?_⟩
               rintro _ k15 ⟨_,r15,hnn,rfl,⟨hr15,hk15⟩⟩
               cases hnn
               refine⟨kp_,?_⟩
               refine⟨kp_,?_⟩
               refine⟨kp_,?_⟩
               refine⟨kp_,?_⟩
               refine⟨(⟨_,_,_,_,_,_,_,_,_⟩,_),?_,kp_,kp_⟩
               exact⟨by omega,by omega⟩
              ·have hlt3:=hR.inv.lt
               refine⟨⟨Nat.le_refl _,by omega,by omega⟩,?_⟩
               refine⟨kp_,?_⟩
               refine⟨3,0,cap,zs,_,_,rfl,⟨rfl,rfl⟩,⟨hz,by omega,by omega⟩,⟨_,_,rfl,by omega,by omega,by omega⟩,?_⟩
               rintro _ k16 ⟨_,_,r16,hnn,rfl,hr16,hk16⟩
               cases hnn
               refine⟨kp_,?_⟩
               refine⟨fun hh=>?_,fun hh=>?_⟩
               ·have hlc3:=hR.inv.lc
                have hx:=(hR.inv.ten _ (tsAt_mem (s:=s) (i:=r11) (by omega) (by omega)).2).home
                unfold tsAt at hx
                have hh2:0≤(s.tenants.getD r11.toNat default).home:=of_decide_eq_true hh
                refine⟨⟨Nat.le_refl _,hh2,by omega⟩,?_⟩
                refine⟨(⟨_,_,_,_,_,_,_,_,_⟩,_),?_,kp_,kp_⟩
                exact⟨by omega,by omega⟩
               ·refine⟨(⟨_,_,_,_,_,_,_,_,_⟩,_),?_,kp_,kp_⟩
                exact⟨by omega,by omega⟩
      ·rintro⟨e,kq⟩ ⟨hkq1,hkq2⟩
       refine⟨⟨by decide,rfl,rfl⟩,?_⟩
       refine⟨_,x,c,⟨18,19,500000⟩,y,s,e,rfl,⟨kp_,.list rfl,.list rfl⟩,⟨hV,hR.inv⟩,?_⟩
       intro y2
       rw[applyRP hV hR.inv hR.cap]
       generalize hp:applyP c s e=p
       obtain⟨s2,n2⟩:=p
       refine⟨fun he=>?_,fun he=>?_⟩
       ·obtain rfl:n2=0:=by simpa using he
        have hR2:=hR.step hV hp
        have hc2:=applyP_count hp
        refine⟨⟨Nat.le_refl _,fun j hj=>by match j,hj with | 0,_=>rfl⟩,?_⟩
        refine⟨⟨rfl,ho1⟩,fun hinq elq g1q g2q=>?_,fun hgtq=>⟨by show (m+1) * 72≤140737488355328;omega,fun capq elq hcq g1q g2q=>?_⟩⟩
        ·refine⟨(_,kq,s2,y2,some (m+1,cp,elq)),[(18,25),(19,24),(20,20)],?_,⟨rfl,rfl⟩,kp_,kp_⟩
         dsimp only
         rw[wrapi (n:=k+1) (by omega)]
         exact⟨⟨by omega,by omega,hR2,by omega,⟨by omega,by omega⟩⟩,by omega⟩
        ·refine⟨(_,kq,s2,y2,some (m+1,capq,elq)),[(18,25),(19,24),(20,28)],?_,⟨rfl,rfl⟩,kp_,kp_⟩
         dsimp only
         rw[wrapi (n:=k+1) (by omega)]
         exact⟨⟨by omega,by omega,hR2,by omega,⟨by omega,by omega⟩⟩,by omega⟩
       ·refine⟨(_,kq,s,y,some (m,cp,el)),[(18,18),(19,19),(20,20)],?_,⟨rfl,rfl⟩,kp_,kp_⟩
        dsimp only
        rw[wrapi (n:=k+1) (by omega)]
        exact⟨⟨by omega,by omega,hR,by omega,⟨by omega,by omega⟩⟩,by omega⟩
     ·refine⟨kp_,?_⟩
      exact⟨⟨9,8,7,6,5,4,500000⟩,x,c,_,⟨18,19,500000⟩,y,s,hV,⟨hR,by omega⟩,⟨rfl,.inr ⟨_,_,_,rfl⟩⟩,⟨⟨_,_,_,rfl,rfl,Nat.le_refl _,fun k hk=>rfl⟩,⟨_,_,_,rfl,rfl,Nat.le_refl _,fun k hk=>rfl⟩,⟨_,_,_,rfl,rfl,Nat.le_refl _,fun k hk=>rfl⟩,⟨_,_,_,rfl,rfl,Nat.le_refl _,fun k hk=>rfl⟩,⟨_,_,_,rfl,rfl,Nat.le_refl _,fun k hk=>rfl⟩,⟨_,_,_,rfl,rfl,Nat.le_refl _,fun k hk=>rfl⟩⟩,⟨⟨_,_,_,rfl,rfl,Nat.le_refl _,fun k hk=>rfl⟩,⟨_,_,_,rfl,rfl,Nat.le_refl _,fun k hk=>rfl⟩⟩⟩
    ·refine⟨fun q=>Bool.noConfusion q,fun _=>?_⟩
     refine⟨kp_,?_⟩
     exact⟨⟨9,8,7,6,5,4,500000⟩,x,c,_,⟨18,19,500000⟩,y,s,hV,⟨hR,by omega⟩,⟨rfl,.inr ⟨_,_,_,rfl⟩⟩,⟨⟨_,_,_,rfl,rfl,Nat.le_refl _,fun k hk=>rfl⟩,⟨_,_,_,rfl,rfl,Nat.le_refl _,fun k hk=>rfl⟩,⟨_,_,_,rfl,rfl,Nat.le_refl _,fun k hk=>rfl⟩,⟨_,_,_,rfl,rfl,Nat.le_refl _,fun k hk=>rfl⟩,⟨_,_,_,rfl,rfl,Nat.le_refl _,fun k hk=>rfl⟩,⟨_,_,_,rfl,rfl,Nat.le_refl _,fun k hk=>rfl⟩⟩,⟨⟨_,_,_,rfl,rfl,Nat.le_refl _,fun k hk=>rfl⟩,⟨_,_,_,rfl,rfl,Nat.le_refl _,fun k hk=>rfl⟩⟩⟩
 ·obtain⟨ho1,ho2⟩:=ho
  refine⟨⟨by decide,rfl,rfl⟩,?_⟩
  refine⟨fun hlt=>?_,fun hge=>?_⟩
  ·have hlt2:i<(c.tenants.length:Int):=of_decide_eq_true hlt
   refine⟨3,0,cap,zs,_,_,rfl,⟨rfl,rfl⟩,⟨hz,by omega,by omega⟩,⟨_,rfl,by omega,by omega⟩,?_⟩
   rintro _ k2 ⟨_,r2,hnn,rfl,⟨hr2,hk2⟩⟩
   cases hnn
   refine⟨Int×Int,fun q=>match q with | (h,kq)=>[(11,.int .i64 h)],fun q=>match q with | (h,kq)=>[(3,tapeM 0 zs.length cap kq)],fun q=>match q with | (h,kq)=>(0≤h∧h<c.cells.length)∧(kk≤kq∧kq≤kk+3),?_,?_⟩
   ·refine⟨3,0,cap,zs,_,_,rfl,⟨rfl,rfl⟩,⟨hz,by omega,by omega⟩,⟨_,rfl,by omega,by omega⟩,?_⟩
    rintro _ k3 ⟨_,r3,hnn,rfl,⟨hr3,hk3⟩⟩
    cases hnn
    refine⟨fun h3=>?_,fun h3=>?_⟩
    ·have hrp:=regL_pos hV hz0 hc0
     have hrl:=regL_le c 0 c.cells.length
     refine⟨_,x,c,0,rfl,kp_,hV,?_⟩
     intro cp1
     refine⟨kp_,?_⟩
     refine⟨_,x,c,0,rfl,kp_,hV,?_⟩
     intro cp2
     refine⟨kp_,?_⟩
     refine⟨3,0,cap,zs,_,_,rfl,⟨rfl,rfl⟩,⟨hz,by omega,by omega⟩,⟨_,rfl,by omega,by omega⟩,?_⟩
     rintro _ k4 ⟨_,r4,hnn,rfl,⟨hr4,hk4⟩⟩
     cases hnn
     have hbd:=regL_bd c 0 (j:=r4.toNat) (by omega)
     refine⟨⟨Nat.le_refl _,by omega,by omega⟩,?_⟩
     refine⟨(_,k4),⟨hbd,by omega,by omega⟩,kp_,kp_⟩
    ·refine⟨(r2,k3),⟨by omega,by omega,by omega⟩,kp_,kp_⟩
   ·rintro⟨h,kq⟩ ⟨hh,hkq⟩
    refine⟨⟨by decide,rfl,rfl⟩,?_⟩
    refine⟨3,0,cap,zs,_,_,rfl,⟨rfl,rfl⟩,⟨hz,by omega,by omega⟩,⟨_,rfl,by omega,by omega⟩,?_⟩
    rintro _ k5 ⟨_,r5,hnn,rfl,⟨hr5,hk5⟩⟩
    cases hnn
    refine⟨St×StK×Nat×Nat×(Nat→List Value),fun _=>[],fun q=>match q with | (s,y,m,cp,el)=>[(13,.box 34 [.int .i64 s.tick,.int .i64 s.count,slc 18 s.tenants.length y.ct,slc 19 s.cells.length y.cc,.int .i64 s.proven,.int .i64 s.evac,.int .i64 s.low,.int .i64 s.high]),(18,rowOfL 500000 12 tsC default s.tenants),(19,rowOfL 500000 4 csC default s.cells),(14,.box 81 [slc 20 m cp]),(20,.row (1000000+39) 9 cp el)],fun q=>match q with | (s,y,m,cp,el)=>RInv c s∧s.count≤4 * i+1∧m≤cp∧(m:Int)≤4 * i+1,?_,?_⟩
    ·refine⟨_,x,c,⟨15,16,500000⟩,y,s,(⟨1,s.tick,i,h,r5,0,0,0,0⟩:Ent),rfl,⟨kp_,.list rfl,.list rfl⟩,⟨hV,hR.inv⟩,?_⟩
     intro y2
     rw[applyRP hV hR.inv hR.cap]
     generalize hp:applyP c s (⟨1,s.tick,i,h,r5,0,0,0,0⟩:Ent)=p
     obtain⟨s2,n2⟩:=p
     refine⟨fun he=>?_,fun he=>?_⟩
     ·obtain rfl:n2=0:=by simpa using he
      have hR2:=hR.step hV hp
      have hc2:=applyP_count hp
      refine⟨⟨Nat.le_refl _,fun j hj=>by match j,hj with | 0,_=>rfl⟩,?_⟩
      refine⟨⟨rfl,ho1⟩,fun hinq elq g1q g2q=>?_,fun hgtq=>⟨by show (m+1) * 72≤140737488355328;omega,fun capq elq hcq g1q g2q=>?_⟩⟩
      ·refine⟨(s2,y2,m+1,cp,elq),[(18,21),(19,20),(20,17)],⟨hR2,by omega,by omega,by omega⟩,⟨rfl,rfl⟩,kp_,kp_⟩
      ·refine⟨(s2,y2,m+1,capq,elq),[(18,21),(19,20),(20,24)],⟨hR2,by omega,by omega,by omega⟩,⟨rfl,rfl⟩,kp_,kp_⟩
     ·refine⟨(s,y,m,cp,el),[(18,15),(19,16),(20,17)],⟨hR,by omega,by omega,by omega⟩,⟨rfl,rfl⟩,kp_,kp_⟩
    ·clear hR hct ho1 ho2
     rintro⟨s,y,m,cp,el⟩ ⟨hR,hct,ho1,ho2⟩
     refine⟨⟨by decide,rfl,rfl⟩,?_⟩
     refine⟨St×StK×Nat×Nat×(Nat→List Value),fun _=>[],fun q=>match q with | (s,y,m,cp,el)=>[(13,.box 34 [.int .i64 s.tick,.int .i64 s.count,slc 21 s.tenants.length y.ct,slc 22 s.cells.length y.cc,.int .i64 s.proven,.int .i64 s.evac,.int .i64 s.low,.int .i64 s.high]),(21,rowOfL 500000 12 tsC default s.tenants),(22,rowOfL 500000 4 csC default s.cells),(14,.box 81 [slc 23 m cp]),(23,.row (1000000+39) 9 cp el)],fun q=>match q with | (s,y,m,cp,el)=>RInv c s∧s.count≤4 * i+2∧m≤cp∧(m:Int)≤4 * i+2,?_,?_⟩
     ·refine⟨_,x,c,⟨18,19,500000⟩,y,s,(⟨1,s.tick,i,h,(IntKind.i64.wrap ((c.cells.length:Int)-1)),0,0,0,0⟩:Ent),rfl,⟨kp_,.list rfl,.list rfl⟩,⟨hV,hR.inv⟩,?_⟩
      intro y2
      rw[applyRP hV hR.inv hR.cap]
      generalize hp:applyP c s (⟨1,s.tick,i,h,(IntKind.i64.wrap ((c.cells.length:Int)-1)),0,0,0,0⟩:Ent)=p
      obtain⟨s2,n2⟩:=p
      refine⟨fun he=>?_,fun he=>?_⟩
      ·obtain rfl:n2=0:=by simpa using he
       have hR2:=hR.step hV hp
       have hc2:=applyP_count hp
       refine⟨⟨Nat.le_refl _,fun j hj=>by match j,hj with | 0,_=>rfl⟩,?_⟩
       refine⟨⟨rfl,ho1⟩,fun hinq elq g1q g2q=>?_,fun hgtq=>⟨by show (m+1) * 72≤140737488355328;omega,fun capq elq hcq g1q g2q=>?_⟩⟩
       ·refine⟨(s2,y2,m+1,cp,elq),[(21,24),(22,23),(23,20)],⟨hR2,by omega,by omega,by omega⟩,⟨rfl,rfl⟩,kp_,kp_⟩
       ·refine⟨(s2,y2,m+1,capq,elq),[(21,24),(22,23),(23,27)],⟨hR2,by omega,by omega,by omega⟩,⟨rfl,rfl⟩,kp_,kp_⟩
      ·refine⟨(s,y,m,cp,el),[(21,18),(22,19),(23,20)],⟨hR,by omega,by omega,by omega⟩,⟨rfl,rfl⟩,kp_,kp_⟩
     ·clear hR hct ho1 ho2
      rintro⟨s,y,m,cp,el⟩ ⟨hR,hct,ho1,ho2⟩
      refine⟨⟨by decide,rfl,rfl⟩,?_⟩
      refine⟨St×StK×Nat×Nat×(Nat→List Value),fun _=>[],fun q=>match q with | (s,y,m,cp,el)=>[(13,.box 34 [.int .i64 s.tick,.int .i64 s.count,slc 24 s.tenants.length y.ct,slc 25 s.cells.length y.cc,.int .i64 s.proven,.int .i64 s.evac,.int .i64 s.low,.int .i64 s.high]),(24,rowOfL 500000 12 tsC default s.tenants),(25,rowOfL 500000 4 csC default s.cells),(14,.box 81 [slc 26 m cp]),(26,.row (1000000+39) 9 cp el)],fun q=>match q with | (s,y,m,cp,el)=>RInv c s∧s.count≤4 * i+3∧m≤cp∧(m:Int)≤4 * i+3,?_,?_⟩
      ·refine⟨_,x,c,⟨21,22,500000⟩,y,s,(⟨1,s.tick,i,(IntKind.i64.wrap ((c.cells.length:Int)-1)),0,0,0,0,0⟩:Ent),rfl,⟨kp_,.list rfl,.list rfl⟩,⟨hV,hR.inv⟩,?_⟩
       intro y2
       rw[applyRP hV hR.inv hR.cap]
       generalize hp:applyP c s (⟨1,s.tick,i,(IntKind.i64.wrap ((c.cells.length:Int)-1)),0,0,0,0,0⟩:Ent)=p
       obtain⟨s2,n2⟩:=p
       refine⟨fun he=>?_,fun he=>?_⟩
       ·obtain rfl:n2=0:=by simpa using he
        have hR2:=hR.step hV hp
        have hc2:=applyP_count hp
        refine⟨⟨Nat.le_refl _,fun j hj=>by match j,hj with | 0,_=>rfl⟩,?_⟩
        refine⟨⟨rfl,ho1⟩,fun hinq elq g1q g2q=>?_,fun hgtq=>⟨by show (m+1) * 72≤140737488355328;omega,fun capq elq hcq g1q g2q=>?_⟩⟩
        ·refine⟨(s2,y2,m+1,cp,elq),[(24,27),(25,26),(26,23)],⟨hR2,by omega,by omega,by omega⟩,⟨rfl,rfl⟩,kp_,kp_⟩
        ·refine⟨(s2,y2,m+1,capq,elq),[(24,27),(25,26),(26,30)],⟨hR2,by omega,by omega,by omega⟩,⟨rfl,rfl⟩,kp_,kp_⟩
       ·refine⟨(s,y,m,cp,el),[(24,21),(25,22),(26,23)],⟨hR,by omega,by omega,by omega⟩,⟨rfl,rfl⟩,kp_,kp_⟩
      ·clear hR hct ho1 ho2
       rintro⟨s,y,m,cp,el⟩ ⟨hR,hct,ho1,ho2⟩
       refine⟨⟨by decide,rfl,rfl⟩,?_⟩
       have hlt3:=hR.inv.lt
       refine⟨⟨Nat.le_refl _,by omega,by omega⟩,?_⟩
       refine⟨fun hpl=>?_,fun hpl=>?_⟩
       ·refine⟨3,0,cap,zs,_,_,rfl,⟨rfl,rfl⟩,⟨hz,by omega,by omega⟩,⟨_,rfl,by omega,by omega⟩,?_⟩
        rintro _ k6 ⟨_,r6,hnn,rfl,⟨hr6,hk6⟩⟩
        cases hnn
        refine⟨fun hg=>?_,fun hg=>?_⟩
        ·refine⟨3,0,cap,zs,_,_,rfl,⟨rfl,rfl⟩,⟨hz,by omega,by omega⟩,⟨_,_,rfl,by omega,by omega,by omega⟩,?_⟩
         rintro _ k7 ⟨_,_,r7,hnn,rfl,hr7,hk7⟩
         cases hnn
         refine⟨kp_,?_⟩
         refine⟨kp_,?_⟩
         refine⟨kp_,?_⟩
         refine⟨_,x,c,⟨24,25,500000⟩,y,s,(⟨2,s.tick,i,(s.tenants.getD i.toNat default).home,-1,1,s.tick,IntKind.i64.wrap (s.tick+r7),0⟩:Ent),rfl,⟨kp_,.list rfl,.list rfl⟩,⟨hV,hR.inv⟩,?_⟩
         intro y2
         rw[applyRP hV hR.inv hR.cap]
         generalize hp:applyP c s (⟨2,s.tick,i,(s.tenants.getD i.toNat default).home,-1,1,s.tick,IntKind.i64.wrap (s.tick+r7),0⟩:Ent)=p
         obtain⟨s2,n2⟩:=p
         refine⟨fun he=>?_,fun he=>?_⟩
         ·obtain rfl:n2=0:=by simpa using he
          have hR2:=hR.step hV hp
          have hc2:=applyP_count hp
          refine⟨⟨Nat.le_refl _,fun j hj=>by match j,hj with | 0,_=>rfl⟩,?_⟩
          refine⟨⟨rfl,ho1⟩,fun hinq elq g1q g2q=>?_,fun hgtq=>⟨by show (m+1) * 72≤140737488355328;omega,fun capq elq hcq g1q g2q=>?_⟩⟩
          ·refine⟨(_,_,s2,y2,some (m+1,cp,elq)),[(15,32),(16,31),(17,26)],?_,⟨rfl,rfl⟩,kp_,kp_⟩
           dsimp only
           rw[wrapi (n:=i+1) (by omega)]
           exact⟨⟨by omega,by omega,hR2,by omega,⟨by omega,by omega⟩⟩,by omega⟩
          ·refine⟨(_,_,s2,y2,some (m+1,capq,elq)),[(15,32),(16,31),(17,35)],?_,⟨rfl,rfl⟩,kp_,kp_⟩
           dsimp only
           rw[wrapi (n:=i+1) (by omega)]
           exact⟨⟨by omega,by omega,hR2,by omega,⟨by omega,by omega⟩⟩,by omega⟩
         ·refine⟨(_,_,s,y,some (m,cp,el)),[(15,24),(16,25),(17,26)],?_,⟨rfl,rfl⟩,kp_,kp_⟩
          dsimp only
          rw[wrapi (n:=i+1) (by omega)]
          exact⟨⟨by omega,by omega,hR,by omega,⟨by omega,by omega⟩⟩,by omega⟩
        ·refine⟨(_,_,s,y,some (m,cp,el)),[(15,24),(16,25),(17,26)],?_,⟨rfl,rfl⟩,kp_,kp_⟩
         dsimp only
         rw[wrapi (n:=i+1) (by omega)]
         exact⟨⟨by omega,by omega,hR,by omega,⟨by omega,by omega⟩⟩,by omega⟩
       ·refine⟨fun q=>Bool.noConfusion q,fun _=>?_⟩
        refine⟨(_,_,s,y,some (m,cp,el)),[(15,24),(16,25),(17,26)],?_,⟨rfl,rfl⟩,kp_,kp_⟩
        dsimp only
        rw[wrapi (n:=i+1) (by omega)]
        exact⟨⟨by omega,by omega,hR,by omega,⟨by omega,by omega⟩⟩,by omega⟩
  ·have hge2:¬ i<(c.tenants.length:Int):=of_decide_eq_false hge
   refine⟨Int×Int×St×StK×Option (Nat×Nat×(Nat→List Value)),fun q=>match q with | (k,kk,s,y,o)=>[(15,.int .i64 k)],fun q=>match q with | (k,kk,s,y,none)=>[(3,tapeM 0 zs.length cap kk),(13,.box 34 [.int .i64 s.tick,.int .i64 s.count,slc 18 s.tenants.length y.ct,slc 19 s.cells.length y.cc,.int .i64 s.proven,.int .i64 s.evac,.int .i64 s.low,.int .i64 s.high]),(18,rowOfL 500000 12 tsC default s.tenants),(19,rowOfL 500000 4 csC default s.cells),(14,.box 81 [zs0])] | (k,kk,s,y,some (m,cp,el))=>[(3,tapeM 0 zs.length cap kk),(13,.box 34 [.int .i64 s.tick,.int .i64 s.count,slc 18 s.tenants.length y.ct,slc 19 s.cells.length y.cc,.int .i64 s.proven,.int .i64 s.evac,.int .i64 s.low,.int .i64 s.high]),(18,rowOfL 500000 12 tsC default s.tenants),(19,rowOfL 500000 4 csC default s.cells),(14,.box 81 [slc 20 m cp]),(20,.row (1000000+39) 9 cp el)],fun q=>match q with | (k,kk,s,y,o)=>(0≤k∧k≤12)∧(0≤kk∧kk≤800+20 * k)∧RInv c s∧s.count≤128+k∧match o with | none=>True | some (m,cp,el)=>m≤cp∧(m:Int)≤128+k,fun q=>match q with | (k,kk,s,y,o)=>(12-k).toNat,⟨(0,kk,s,y,some (m,cp,el)),[(18,15),(19,16),(20,17)],⟨by omega,by omega,hR,by omega,⟨by omega,by omega⟩⟩,⟨rfl,rfl⟩,kp_,kp_⟩,?_⟩
   clear hR hct hkk hge hge2 ho1 ho2
   rintro⟨k,kk,s,y,(_ | ⟨m,cp,el⟩)⟩ ⟨hk,hkk,hR,hct,ho⟩
   ·refine⟨⟨by decide,rfl,rfl⟩,?_⟩
    refine⟨fun hlt=>?_,fun hge=>?_⟩
    ·have hlt2:k<12:=of_decide_eq_true hlt
     refine⟨3,0,cap,zs,_,_,rfl,⟨rfl,rfl⟩,⟨hz,by omega,by omega⟩,rfl,?_⟩
     rintro _ k10 ⟨b10,rfl,hk10⟩
     refine⟨fun hmo=>?_,fun hmo=>?_⟩
     ·refine⟨3,0,cap,zs,_,_,rfl,⟨rfl,rfl⟩,⟨hz,by omega,by omega⟩,⟨_,rfl,by omega,by omega⟩,?_⟩
      rintro _ k11 ⟨_,r11,hnn,rfl,⟨hr11,hk11⟩⟩
      cases hnn
      refine⟨kp_,?_⟩
      refine⟨3,0,cap,zs,_,_,rfl,⟨rfl,rfl⟩,⟨hz,by omega,by omega⟩,⟨_,rfl,by omega,by omega⟩,?_⟩
      rintro _ k12 ⟨_,r12,hnn,rfl,⟨hr12,hk12⟩⟩
      cases hnn
      refine⟨kp_,?_⟩
      refine⟨3,0,cap,zs,_,_,rfl,⟨rfl,rfl⟩,⟨hz,by omega,by omega⟩,⟨_,rfl,by omega,by omega⟩,?_⟩
      rintro _ k13 ⟨_,r13,hnn,rfl,⟨hr13,hk13⟩⟩
      cases hnn
      refine⟨kp_,?_⟩
      refine⟨Ent×Int,fun _=>[],fun q=>match q with | (e,kq)=>[(3,tapeM 0 zs.length cap kq),(22,.box 39 [.int .i64 e.kind,.int .i64 e.tick,.int .i64 e.tenant,.int .i64 e.cell,.int .i64 e.other,.int .i64 e.epoch,.int .i64 e.since,.int .i64 e.till,.int .i64 e.n])],fun q=>match q with | (e,kq)=>kk≤kq∧kq≤kk+8,?_,?_⟩
      ·refine⟨3,0,cap,zs,_,_,rfl,⟨rfl,rfl⟩,⟨hz,by omega,by omega⟩,⟨_,rfl,by omega,by omega⟩,?_⟩
       rintro _ k14 ⟨_,r14,hnn,rfl,⟨hr14,hk14⟩⟩
       cases hnn
       refine⟨fun q0=>?_,fun q0=>?_⟩
       ·refine⟨(⟨_,_,_,_,_,_,_,_,_⟩,_),?_,kp_,kp_⟩
        exact⟨by omega,by omega⟩
       ·refine⟨fun q0=>?_,fun q0=>?_⟩
        ·refine⟨(⟨_,_,_,_,_,_,_,_,_⟩,_),?_,kp_,kp_⟩
         exact⟨by omega,by omega⟩
        ·refine⟨fun q0=>?_,fun q0=>?_⟩
         ·refine⟨(⟨_,_,_,_,_,_,_,_,_⟩,_),?_,kp_,kp_⟩
          exact⟨by omega,by omega⟩
         ·refine⟨fun q0=>?_,fun q0=>?_⟩
          ·refine⟨3,0,cap,zs,_,_,rfl,⟨rfl,rfl⟩,⟨hz,by omega,by omega⟩,⟨_,rfl,by omega,by omega⟩,?_⟩
           rintro _ k15 ⟨_,r15,hnn,rfl,⟨hr15,hk15⟩⟩
           cases hnn
           refine⟨(⟨_,_,_,_,_,_,_,_,_⟩,_),?_,kp_,kp_⟩
           exact⟨by omega,by omega⟩
          ·refine⟨fun q0=>?_,fun q0=>?_⟩
           ·refine⟨3,0,cap,zs,_,_,rfl,⟨rfl,rfl⟩,⟨hz,by omega,by omega⟩,⟨_,_,rfl,by omega,by omega,by omega⟩,?_⟩
            rintro _ k15 ⟨_,_,r15,hnn,rfl,hr15,hk15⟩
            cases hnn
            refine⟨(⟨_,_,_,_,_,_,_,_,_⟩,_),?_,kp_,kp_⟩
            exact⟨by omega,by omega⟩
           ·refine⟨fun q0=>?_,fun q0=>?_⟩
            ·refine⟨3,0,cap,zs,_,_,rfl,⟨rfl,rfl⟩,⟨hz,by omega,by omega⟩,⟨_,rfl,by omega,by omega⟩,?_⟩
             rintro _ k15 ⟨_,r15,hnn,rfl,⟨hr15,hk15⟩⟩
             cases hnn
             refine⟨(⟨_,_,_,_,_,_,_,_,_⟩,_),?_,kp_,kp_⟩
             exact⟨by omega,by omega⟩
            ·refine⟨fun q0=>?_,fun q0=>?_⟩
             ·have hlt3:=hR.inv.lt
              refine⟨⟨Nat.le_refl _,by omega,by omega⟩,?_⟩
              refine⟨(⟨_,_,_,_,_,_,_,_,_⟩,_),?_,kp_,kp_⟩
              exact⟨by omega,by omega⟩
             ·refine⟨fun q0=>?_,fun q0=>?_⟩
              ·have hlc3:=hR.inv.lc
               refine⟨⟨Nat.le_refl _,by omega,by omega⟩,?_⟩
               refine⟨3,0,cap,zs,_,_,rfl,⟨rfl,rfl⟩,⟨hz,by omega,by omega⟩,⟨_,rfl,(by rw[wrapi (by omega)];omega),(by rw[wrapi (by omega)];omega)⟩,?_⟩
               rintro _ k15 ⟨_,r15,hnn,rfl,⟨hr15,hk15⟩⟩
               cases hnn
               refine⟨kp_,?_⟩
               refine⟨kp_,?_⟩
               refine⟨kp_,?_⟩
               refine⟨kp_,?_⟩
               refine⟨(⟨_,_,_,_,_,_,_,_,_⟩,_),?_,kp_,kp_⟩
               exact⟨by omega,by omega⟩
              ·have hlt3:=hR.inv.lt
               refine⟨⟨Nat.le_refl _,by omega,by omega⟩,?_⟩
               refine⟨kp_,?_⟩
               refine⟨3,0,cap,zs,_,_,rfl,⟨rfl,rfl⟩,⟨hz,by omega,by omega⟩,⟨_,_,rfl,by omega,by omega,by omega⟩,?_⟩
               rintro _ k16 ⟨_,_,r16,hnn,rfl,hr16,hk16⟩
               cases hnn
               refine⟨kp_,?_⟩
               refine⟨fun hh=>?_,fun hh=>?_⟩
               ·have hlc3:=hR.inv.lc
                have hx:=(hR.inv.ten _ (tsAt_mem (s:=s) (i:=r11) (by omega) (by omega)).2).home
                unfold tsAt at hx
                have hh2:0≤(s.tenants.getD r11.toNat default).home:=of_decide_eq_true hh
                refine⟨⟨Nat.le_refl _,hh2,by omega⟩,?_⟩
                refine⟨(⟨_,_,_,_,_,_,_,_,_⟩,_),?_,kp_,kp_⟩
                exact⟨by omega,by omega⟩
               ·refine⟨(⟨_,_,_,_,_,_,_,_,_⟩,_),?_,kp_,kp_⟩
                exact⟨by omega,by omega⟩
      ·rintro⟨e,kq⟩ ⟨hkq1,hkq2⟩
       refine⟨⟨by decide,rfl,rfl⟩,?_⟩
       refine⟨_,x,c,⟨18,19,500000⟩,y,s,e,rfl,⟨kp_,.list rfl,.list rfl⟩,⟨hV,hR.inv⟩,?_⟩
       intro y2
       rw[applyRP hV hR.inv hR.cap]
       generalize hp:applyP c s e=p
       obtain⟨s2,n2⟩:=p
       refine⟨fun he=>?_,fun he=>?_⟩
       ·obtain rfl:n2=0:=by simpa using he
        have hR2:=hR.step hV hp
        have hc2:=applyP_count hp
        refine⟨⟨Nat.le_refl _,fun j hj=>by match j,hj with | 0,_=>rfl⟩,?_⟩
        refine⟨fun h=>absurd h (by decide),fun _=>⟨by decide,fun capq elq hcq g2q=>?_⟩⟩
        refine⟨(_,kq,s2,y2,some (1,capq,elq)),[(18,25),(19,24),(20,28)],?_,⟨rfl,rfl⟩,kp_,kp_⟩
        dsimp only
        rw[wrapi (n:=k+1) (by omega)]
        exact⟨⟨by omega,by omega,hR2,by omega,⟨by omega,by omega⟩⟩,by omega⟩
       ·refine⟨(_,kq,s,y,none),[(18,18),(19,19),(20,20)],?_,⟨rfl,rfl⟩,kp_,kp_⟩
        dsimp only
        rw[wrapi (n:=k+1) (by omega)]
        exact⟨⟨by omega,by omega,hR,by omega,trivial⟩,by omega⟩
     ·refine⟨kp_,?_⟩
      exact⟨⟨9,8,7,6,5,4,500000⟩,x,c,_,⟨18,19,500000⟩,y,s,hV,⟨hR,by omega⟩,⟨rfl,.inl rfl⟩,⟨⟨_,_,_,rfl,rfl,Nat.le_refl _,fun k hk=>rfl⟩,⟨_,_,_,rfl,rfl,Nat.le_refl _,fun k hk=>rfl⟩,⟨_,_,_,rfl,rfl,Nat.le_refl _,fun k hk=>rfl⟩,⟨_,_,_,rfl,rfl,Nat.le_refl _,fun k hk=>rfl⟩,⟨_,_,_,rfl,rfl,Nat.le_refl _,fun k hk=>rfl⟩,⟨_,_,_,rfl,rfl,Nat.le_refl _,fun k hk=>rfl⟩⟩,⟨⟨_,_,_,rfl,rfl,Nat.le_refl _,fun k hk=>rfl⟩,⟨_,_,_,rfl,rfl,Nat.le_refl _,fun k hk=>rfl⟩⟩⟩
    ·refine⟨fun q=>Bool.noConfusion q,fun _=>?_⟩
     refine⟨kp_,?_⟩
     exact⟨⟨9,8,7,6,5,4,500000⟩,x,c,_,⟨18,19,500000⟩,y,s,hV,⟨hR,by omega⟩,⟨rfl,.inl rfl⟩,⟨⟨_,_,_,rfl,rfl,Nat.le_refl _,fun k hk=>rfl⟩,⟨_,_,_,rfl,rfl,Nat.le_refl _,fun k hk=>rfl⟩,⟨_,_,_,rfl,rfl,Nat.le_refl _,fun k hk=>rfl⟩,⟨_,_,_,rfl,rfl,Nat.le_refl _,fun k hk=>rfl⟩,⟨_,_,_,rfl,rfl,Nat.le_refl _,fun k hk=>rfl⟩,⟨_,_,_,rfl,rfl,Nat.le_refl _,fun k hk=>rfl⟩⟩,⟨⟨_,_,_,rfl,rfl,Nat.le_refl _,fun k hk=>rfl⟩,⟨_,_,_,rfl,rfl,Nat.le_refl _,fun k hk=>rfl⟩⟩⟩
   ·obtain⟨ho1,ho2⟩:=ho
    refine⟨⟨by decide,rfl,rfl⟩,?_⟩
    refine⟨fun hlt=>?_,fun hge=>?_⟩
    ·have hlt2:k<12:=of_decide_eq_true hlt
     refine⟨3,0,cap,zs,_,_,rfl,⟨rfl,rfl⟩,⟨hz,by omega,by omega⟩,rfl,?_⟩
     rintro _ k10 ⟨b10,rfl,hk10⟩
     refine⟨fun hmo=>?_,fun hmo=>?_⟩
     ·refine⟨3,0,cap,zs,_,_,rfl,⟨rfl,rfl⟩,⟨hz,by omega,by omega⟩,⟨_,rfl,by omega,by omega⟩,?_⟩
      rintro _ k11 ⟨_,r11,hnn,rfl,⟨hr11,hk11⟩⟩
      cases hnn
      refine⟨kp_,?_⟩
      refine⟨3,0,cap,zs,_,_,rfl,⟨rfl,rfl⟩,⟨hz,by omega,by omega⟩,⟨_,rfl,by omega,by omega⟩,?_⟩
      rintro _ k12 ⟨_,r12,hnn,rfl,⟨hr12,hk12⟩⟩
      cases hnn
      refine⟨kp_,?_⟩
      refine⟨3,0,cap,zs,_,_,rfl,⟨rfl,rfl⟩,⟨hz,by omega,by omega⟩,⟨_,rfl,by omega,by omega⟩,?_⟩
      rintro _ k13 ⟨_,r13,hnn,rfl,⟨hr13,hk13⟩⟩
      cases hnn
      refine⟨kp_,?_⟩
      refine⟨Ent×Int,fun _=>[],fun q=>match q with | (e,kq)=>[(3,tapeM 0 zs.length cap kq),(22,.box 39 [.int .i64 e.kind,.int .i64 e.tick,.int .i64 e.tenant,.int .i64 e.cell,.int .i64 e.other,.int .i64 e.epoch,.int .i64 e.since,.int .i64 e.till,.int .i64 e.n])],fun q=>match q with | (e,kq)=>kk≤kq∧kq≤kk+8,?_,?_⟩
      ·refine⟨3,0,cap,zs,_,_,rfl,⟨rfl,rfl⟩,⟨hz,by omega,by omega⟩,⟨_,rfl,by omega,by omega⟩,?_⟩
       rintro _ k14 ⟨_,r14,hnn,rfl,⟨hr14,hk14⟩⟩
       cases hnn
       refine⟨fun q0=>?_,fun q0=>?_⟩
       ·refine⟨(⟨_,_,_,_,_,_,_,_,_⟩,_),?_,kp_,kp_⟩
        exact⟨by omega,by omega⟩
       ·refine⟨fun q0=>?_,fun q0=>?_⟩
        ·refine⟨(⟨_,_,_,_,_,_,_,_,_⟩,_),?_,kp_,kp_⟩
         exact⟨by omega,by omega⟩
        ·refine⟨fun q0=>?_,fun q0=>?_⟩
         ·refine⟨(⟨_,_,_,_,_,_,_,_,_⟩,_),?_,kp_,kp_⟩
          exact⟨by omega,by omega⟩
         ·refine⟨fun q0=>?_,fun q0=>?_⟩
          ·refine⟨3,0,cap,zs,_,_,rfl,⟨rfl,rfl⟩,⟨hz,by omega,by omega⟩,⟨_,rfl,by omega,by omega⟩,?_⟩
           rintro _ k15 ⟨_,r15,hnn,rfl,⟨hr15,hk15⟩⟩
           cases hnn
           refine⟨(⟨_,_,_,_,_,_,_,_,_⟩,_),?_,kp_,kp_⟩
           exact⟨by omega,by omega⟩
          ·refine⟨fun q0=>?_,fun q0=>?_⟩
           ·refine⟨3,0,cap,zs,_,_,rfl,⟨rfl,rfl⟩,⟨hz,by omega,by omega⟩,⟨_,_,rfl,by omega,by omega,by omega⟩,?_⟩
            rintro _ k15 ⟨_,_,r15,hnn,rfl,hr15,hk15⟩
            cases hnn
            refine⟨(⟨_,_,_,_,_,_,_,_,_⟩,_),?_,kp_,kp_⟩
            exact⟨by omega,by omega⟩
           ·refine⟨fun q0=>?_,fun q0=>?_⟩
            ·refine⟨3,0,cap,zs,_,_,rfl,⟨rfl,rfl⟩,⟨hz,by omega,by omega⟩,⟨_,rfl,by omega,by omega⟩,?_⟩
             rintro _ k15 ⟨_,r15,hnn,rfl,⟨hr15,hk15⟩⟩
             cases hnn
             refine⟨(⟨_,_,_,_,_,_,_,_,_⟩,_),?_,kp_,kp_⟩
             exact⟨by omega,by omega⟩
            ·refine⟨fun q0=>?_,fun q0=>?_⟩
             ·have hlt3:=hR.inv.lt
              refine⟨⟨Nat.le_refl _,by omega,by omega⟩,?_⟩
              refine⟨(⟨_,_,_,_,_,_,_,_,_⟩,_),?_,kp_,kp_⟩
              exact⟨by omega,by omega⟩
             ·refine⟨fun q0=>?_,fun q0=>?_⟩
              ·have hlc3:=hR.inv.lc
               refine⟨⟨Nat.le_refl _,by omega,by omega⟩,?_⟩
               refine⟨3,0,cap,zs,_,_,rfl,⟨rfl,rfl⟩,⟨hz,by omega,by omega⟩,⟨_,rfl,(by rw[wrapi (by omega)];omega),(by rw[wrapi (by omega)];omega)⟩,?_⟩
               rintro _ k15 ⟨_,r15,hnn,rfl,⟨hr15,hk15⟩⟩
               cases hnn
               refine⟨kp_,?_⟩
               refine⟨kp_,?_⟩
               refine⟨kp_,?_⟩
               refine⟨kp_,?_⟩
               refine⟨(⟨_,_,_,_,_,_,_,_,_⟩,_),?_,kp_,kp_⟩
               exact⟨by omega,by omega⟩
              ·have hlt3:=hR.inv.lt
               refine⟨⟨Nat.le_refl _,by omega,by omega⟩,?_⟩
               refine⟨kp_,?_⟩
               refine⟨3,0,cap,zs,_,_,rfl,⟨rfl,rfl⟩,⟨hz,by omega,by omega⟩,⟨_,_,rfl,by omega,by omega,by omega⟩,?_⟩
               rintro _ k16 ⟨_,_,r16,hnn,rfl,hr16,hk16⟩
               cases hnn
               refine⟨kp_,?_⟩
               refine⟨fun hh=>?_,fun hh=>?_⟩
               ·have hlc3:=hR.inv.lc
                have hx:=(hR.inv.ten _ (tsAt_mem (s:=s) (i:=r11) (by omega) (by omega)).2).home
                unfold tsAt at hx
                have hh2:0≤(s.tenants.getD r11.toNat default).home:=of_decide_eq_true hh
                refine⟨⟨Nat.le_refl _,hh2,by omega⟩,?_⟩
                refine⟨(⟨_,_,_,_,_,_,_,_,_⟩,_),?_,kp_,kp_⟩
                exact⟨by omega,by omega⟩
               ·refine⟨(⟨_,_,_,_,_,_,_,_,_⟩,_),?_,kp_,kp_⟩
                exact⟨by omega,by omega⟩
      ·rintro⟨e,kq⟩ ⟨hkq1,hkq2⟩
       refine⟨⟨by decide,rfl,rfl⟩,?_⟩
       refine⟨_,x,c,⟨18,19,500000⟩,y,s,e,rfl,⟨kp_,.list rfl,.list rfl⟩,⟨hV,hR.inv⟩,?_⟩
       intro y2
       rw[applyRP hV hR.inv hR.cap]
       generalize hp:applyP c s e=p
       obtain⟨s2,n2⟩:=p
       refine⟨fun he=>?_,fun he=>?_⟩
       ·obtain rfl:n2=0:=by simpa using he
        have hR2:=hR.step hV hp
        have hc2:=applyP_count hp
        refine⟨⟨Nat.le_refl _,fun j hj=>by match j,hj with | 0,_=>rfl⟩,?_⟩
        refine⟨⟨rfl,ho1⟩,fun hinq elq g1q g2q=>?_,fun hgtq=>⟨by show (m+1) * 72≤140737488355328;omega,fun capq elq hcq g1q g2q=>?_⟩⟩
        ·refine⟨(_,kq,s2,y2,some (m+1,cp,elq)),[(18,25),(19,24),(20,20)],?_,⟨rfl,rfl⟩,kp_,kp_⟩
         dsimp only
         rw[wrapi (n:=k+1) (by omega)]
         exact⟨⟨by omega,by omega,hR2,by omega,⟨by omega,by omega⟩⟩,by omega⟩
        ·refine⟨(_,kq,s2,y2,some (m+1,capq,elq)),[(18,25),(19,24),(20,28)],?_,⟨rfl,rfl⟩,kp_,kp_⟩
         dsimp only
         rw[wrapi (n:=k+1) (by omega)]
         exact⟨⟨by omega,by omega,hR2,by omega,⟨by omega,by omega⟩⟩,by omega⟩
       ·refine⟨(_,kq,s,y,some (m,cp,el)),[(18,18),(19,19),(20,20)],?_,⟨rfl,rfl⟩,kp_,kp_⟩
        dsimp only
        rw[wrapi (n:=k+1) (by omega)]
        exact⟨⟨by omega,by omega,hR,by omega,⟨by omega,by omega⟩⟩,by omega⟩
     ·refine⟨kp_,?_⟩
      exact⟨⟨9,8,7,6,5,4,500000⟩,x,c,_,⟨18,19,500000⟩,y,s,hV,⟨hR,by omega⟩,⟨rfl,.inr ⟨_,_,_,rfl⟩⟩,⟨⟨_,_,_,rfl,rfl,Nat.le_refl _,fun k hk=>rfl⟩,⟨_,_,_,rfl,rfl,Nat.le_refl _,fun k hk=>rfl⟩,⟨_,_,_,rfl,rfl,Nat.le_refl _,fun k hk=>rfl⟩,⟨_,_,_,rfl,rfl,Nat.le_refl _,fun k hk=>rfl⟩,⟨_,_,_,rfl,rfl,Nat.le_refl _,fun k hk=>rfl⟩,⟨_,_,_,rfl,rfl,Nat.le_refl _,fun k hk=>rfl⟩⟩,⟨⟨_,_,_,rfl,rfl,Nat.le_refl _,fun k hk=>rfl⟩,⟨_,_,_,rfl,rfl,Nat.le_refl _,fun k hk=>rfl⟩⟩⟩
    ·refine⟨fun q=>Bool.noConfusion q,fun _=>?_⟩
     refine⟨kp_,?_⟩
     exact⟨⟨9,8,7,6,5,4,500000⟩,x,c,_,⟨18,19,500000⟩,y,s,hV,⟨hR,by omega⟩,⟨rfl,.inr ⟨_,_,_,rfl⟩⟩,⟨⟨_,_,_,rfl,rfl,Nat.le_refl _,fun k hk=>rfl⟩,⟨_,_,_,rfl,rfl,Nat.le_refl _,fun k hk=>rfl⟩,⟨_,_,_,rfl,rfl,Nat.le_refl _,fun k hk=>rfl⟩,⟨_,_,_,rfl,rfl,Nat.le_refl _,fun k hk=>rfl⟩,⟨_,_,_,rfl,rfl,Nat.le_refl _,fun k hk=>rfl⟩,⟨_,_,_,rfl,rfl,Nat.le_refl _,fun k hk=>rfl⟩⟩,⟨⟨_,_,_,rfl,rfl,Nat.le_refl _,fun k hk=>rfl⟩,⟨_,_,_,rfl,rfl,Nat.le_refl _,fun k hk=>rfl⟩⟩⟩
end Go.Proofs.YtnnpgbleacapfaaGreat
