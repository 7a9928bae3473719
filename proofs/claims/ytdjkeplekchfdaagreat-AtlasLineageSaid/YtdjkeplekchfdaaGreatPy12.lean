import Derived.Test.YtdjkeplekchfdaaGreatPy11
import Derived.OwnWalk
import Derived.Maps.RangeRun
namespace Go.Proofs.YtdjkeplekchfdaaGreat
open Go.RowKit
set_option linter.unusedSimpArgs false
set_option linter.unusedVariables false
/-! slices.Clone of lists of whatever kind. -/
def RowPostK (T:TypeId) (size:Nat) (w:World) (n:Nat) (xs:List Value) (e:Ending) (w':World):Prop:=
 ∃ (A:Option Addr) (cp:Nat),e=.returned (.slice A n cp)∧w'.ownsRow w.heap.size T size (.slice A n cp) n xs∧Below w.heap.size w w'
theorem ckZoneInfo:(Tryz.prog.info? 79).map (fun i=>(i.zero,i.size,i.bytes))=some (some (.agg #[.int .i64 0]),1,8):=by kernel_rfl
theorem ckZoneNil (n cp:Nat) (w:World):Sem.run Tryz.prog (binOp BinOp.eql 31 (.slice none n cp) (.slice none 0 0)) w=.ok (.bool true) w:=by kernel_rfl
theorem ckZoneSome (ad:Addr) (n cp:Nat) (w:World):Sem.run Tryz.prog (binOp BinOp.eql 31 (.slice (some ad) n cp) (.slice none 0 0)) w=.ok (.bool false) w:=by kernel_rfl
theorem ckZonePl (x:Int):∀ v ∈ intC x,plain1 v:=by
 intro v hv
 simp only[intC,List.mem_cons,List.not_mem_nil,or_false] at hv
 subst hv;trivial
set_option maxHeartbeats 2000000 in
set_option maxRecDepth 100000 in
theorem ckZone_any (A:Option Addr) (cp:Nat) (l:List Int) (w:World) (hl:l.length≤100) (hr:Rd w (·<w.heap.size) A (flat intC l)) :
  Calls Tryz.prog 58 #[.slice A l.length cp] w (RowPostK 79 1 w l.length (flat intC l)):=by
 obtain⟨ii,hii,hi0,hi1,hi2⟩:=info_parts ckZoneInfo
 have hlen:=flat_length (enc:=intC) (sz:=1) (fun _=>rfl) l
 cases A with
 | none=>
  have h0:l=[]:=by
   cases l with
   | nil=>rfl
   | cons a r=>
    obtain⟨b,o,hA,_⟩:=hr (by simp[flat,intC])
    cases hA
  subst h0
  go_enter Tryz.func58,Tryz.ntmps58
  have hq:=ckZoneNil 0 cp w
  go_wp2
  go_ret
  exact⟨none,0,rfl,World.ownsRow_nil _ _ _ _,Below.refl _ _⟩
 | some ad=>
  have hq:=ckZoneSome ad l.length cp w
  have h0:=World.ownsRow_lit (base:=w.heap.size) (e:=79) (size:=1) w #[] 0 (Nat.le_refl _) (by unfold maxLen;omega) rfl
  have hb0:=(Below.refl w.heap.size w).alloc (Nat.le_refl _) (.cells #[] 79)
  have h1:=(hr.alloc (.cells #[] 79))
  have hone:∀ u ∈ flat intC l,u.oneCell'=true:=by
   intro u hu
   obtain⟨a,_,ha⟩:=List.mem_flatMap.1 (show u ∈ l.flatMap intC from hu)
   simp only[intC,List.mem_cons,List.not_mem_nil,or_false] at ha
   subst ha;rfl
  go_enter Tryz.func58,Tryz.ntmps58
  go_wp2_with (at_builtin;refine wpList_append_rd _ rfl _ _ _ rfl w.heap.size 79 ii _ 1 8 Tryz.underlying31 hii hi0 hi1 hi2 rfl (by omega) _ 0 [] rfl h0 _ (some ad) l.length cp (flat intC l) rfl hlen h1 hone ?c1 ?c2 ?c3 ?_)
  case c1=>unfold maxLen;omega
  case c2=>omega
  intro v' w2 hown hg hat
  (try rw[Nat.zero_add] at hown);(try rw[List.nil_append] at hown)
  obtain⟨A',cp',rfl⟩:=own_form hown
  have HO:=Lib.hid hown
  have HB:=Lib.hid (hb0.grown hg (by simp) (fun k hk=>by injection hk with hk;rw[← hk];exact Nat.le_refl _))
  clear hown hg hat h0 hb0 hq
  go_wp2
  go_ret
  exact⟨A',cp',rfl,HO.out,HB.out⟩
def ctCkZone:CT:=fun vs mem nx K=>∃ v l,vs=[v]∧SrcR mem 1 intC 0 (l:List Int) v∧l.length≤100∧∀ cap2,K (slc nx l.length cap2) ((nx,rowOfL 500000 1 intC 0 l)::mem) (nx+1)
theorem ckZoneOk:CSound Tryz.prog 58 ctCkZone:=⟨by kernel_rfl,fun {C ρ fr mem nx a w vs K} hc hs hv=>by
 obtain⟨v,l,rfl,hr,hl,hK⟩:=hc
 obtain⟨A0,c0,e0,hr⟩:=hs.srcR (enc:=intC) (sz:=1) (fun _=>rfl) (by omega) hr
 have e1:([v].map (den ρ)).toArray=#[.slice A0 l.length c0]:=by rw[List.map_cons,e0];rfl
 rw[e1]
 refine (ckZone_any A0 c0 l w hl hr).mono ?_
 rintro e w' ⟨A,cp,rfl,ho,hb⟩
 have hrd:=Rd.of_own ho
 obtain⟨q1,-⟩:=(hs.later hb).addList hs.frB hs.rest.size (enc:=intC) (sz:=1) (fun _=>rfl) (by omega) ckZonePl 0 (t:=500000) rfl hrd
 have q2:setPl ρ nx ⟨A,1,l.length,false,noSub⟩ nx=⟨A,1,l.length,false,noSub⟩:=setPl_same _ _ _
 refine⟨slc nx l.length cp,_,_,_,?_,hK cp,q1,?_,fun i hi=>setPl_lt _ _ hi,by omega⟩
 ·show Ending.returned (.slice A l.length cp)=.returned (.slice (setPl ρ nx ⟨A,1,l.length,false,noSub⟩ nx).A l.length cp)
  rw[q2]
 ·exact⟨show nx<nx+1 by omega,by rw[q2]⟩⟩
theorem ckCellInfo:(Tryz.prog.info? 81).map (fun i=>(i.zero,i.size,i.bytes))=some (some (.agg #[.int .i64 0,.int .i64 0]),2,16):=by kernel_rfl
theorem ckCellNil (n cp:Nat) (w:World):Sem.run Tryz.prog (binOp BinOp.eql 32 (.slice none n cp) (.slice none 0 0)) w=.ok (.bool true) w:=by kernel_rfl
theorem ckCellSome (ad:Addr) (n cp:Nat) (w:World):Sem.run Tryz.prog (binOp BinOp.eql 32 (.slice (some ad) n cp) (.slice none 0 0)) w=.ok (.bool false) w:=by kernel_rfl
theorem ckCellPl (x:(Int×Int)):∀ v ∈ pairC x,plain1 v:=by
 intro v hv
 simp only[pairC,List.mem_cons,List.not_mem_nil,or_false] at hv
 rcases hv with rfl | rfl<;>trivial
set_option maxHeartbeats 2000000 in
set_option maxRecDepth 100000 in
theorem ckCell_any (A:Option Addr) (cp:Nat) (l:List (Int×Int)) (w:World) (hl:l.length≤100) (hr:Rd w (·<w.heap.size) A (flat pairC l)) :
  Calls Tryz.prog 59 #[.slice A l.length cp] w (RowPostK 81 2 w l.length (flat pairC l)):=by
 obtain⟨ii,hii,hi0,hi1,hi2⟩:=info_parts ckCellInfo
 have hlen:=flat_length (enc:=pairC) (sz:=2) (fun _=>rfl) l
 cases A with
 | none=>
  have h0:l=[]:=by
   cases l with
   | nil=>rfl
   | cons a r=>
    obtain⟨b,o,hA,_⟩:=hr (by simp[flat,pairC])
    cases hA
  subst h0
  go_enter Tryz.func59,Tryz.ntmps59
  have hq:=ckCellNil 0 cp w
  go_wp2
  go_ret
  exact⟨none,0,rfl,World.ownsRow_nil _ _ _ _,Below.refl _ _⟩
 | some ad=>
  have hq:=ckCellSome ad l.length cp w
  have h0:=World.ownsRow_lit (base:=w.heap.size) (e:=81) (size:=2) w #[] 0 (Nat.le_refl _) (by unfold maxLen;omega) rfl
  have hb0:=(Below.refl w.heap.size w).alloc (Nat.le_refl _) (.cells #[] 81)
  have h1:=(hr.alloc (.cells #[] 81))
  have hone:∀ u ∈ flat pairC l,u.oneCell'=true:=by
   intro u hu
   obtain⟨a,_,ha⟩:=List.mem_flatMap.1 (show u ∈ l.flatMap pairC from hu)
   simp only[pairC,List.mem_cons,List.not_mem_nil,or_false] at ha
   rcases ha with rfl | rfl<;>rfl
  go_enter Tryz.func59,Tryz.ntmps59
  go_wp2_with (at_builtin;refine wpList_append_rd _ rfl _ _ _ rfl w.heap.size 81 ii _ 2 16 Tryz.underlying32 hii hi0 hi1 hi2 rfl (by omega) _ 0 [] rfl h0 _ (some ad) l.length cp (flat pairC l) rfl hlen h1 hone ?c1 ?c2 ?c3 ?_)
  case c1=>unfold maxLen;omega
  case c2=>omega
  intro v' w2 hown hg hat
  (try rw[Nat.zero_add] at hown);(try rw[List.nil_append] at hown)
  obtain⟨A',cp',rfl⟩:=own_form hown
  have HO:=Lib.hid hown
  have HB:=Lib.hid (hb0.grown hg (by simp) (fun k hk=>by injection hk with hk;rw[← hk];exact Nat.le_refl _))
  clear hown hg hat h0 hb0 hq
  go_wp2
  go_ret
  exact⟨A',cp',rfl,HO.out,HB.out⟩
def ctCkCell:CT:=fun vs mem nx K=>∃ v l,vs=[v]∧SrcR mem 2 pairC (0,0) (l:List (Int×Int)) v∧l.length≤100∧∀ cap2,K (slc nx l.length cap2) ((nx,rowOfL 500000 2 pairC (0,0) l)::mem) (nx+1)
theorem ckCellOk:CSound Tryz.prog 59 ctCkCell:=⟨by kernel_rfl,fun {C ρ fr mem nx a w vs K} hc hs hv=>by
 obtain⟨v,l,rfl,hr,hl,hK⟩:=hc
 obtain⟨A0,c0,e0,hr⟩:=hs.srcR (enc:=pairC) (sz:=2) (fun _=>rfl) (by omega) hr
 have e1:([v].map (den ρ)).toArray=#[.slice A0 l.length c0]:=by rw[List.map_cons,e0];rfl
 rw[e1]
 refine (ckCell_any A0 c0 l w hl hr).mono ?_
 rintro e w' ⟨A,cp,rfl,ho,hb⟩
 have hrd:=Rd.of_own ho
 obtain⟨q1,-⟩:=(hs.later hb).addList hs.frB hs.rest.size (enc:=pairC) (sz:=2) (fun _=>rfl) (by omega) ckCellPl (0,0) (t:=500000) rfl hrd
 have q2:setPl ρ nx ⟨A,2,l.length,false,noSub⟩ nx=⟨A,2,l.length,false,noSub⟩:=setPl_same _ _ _
 refine⟨slc nx l.length cp,_,_,_,?_,hK cp,q1,?_,fun i hi=>setPl_lt _ _ hi,by omega⟩
 ·show Ending.returned (.slice A l.length cp)=.returned (.slice (setPl ρ nx ⟨A,2,l.length,false,noSub⟩ nx).A l.length cp)
  rw[q2]
 ·exact⟨show nx<nx+1 by omega,by rw[q2]⟩⟩
theorem ckTenInfo:(Tryz.prog.info? 85).map (fun i=>(i.zero,i.size,i.bytes))=some (some (.agg #[.int .i64 0,.int .i64 0,.int .i64 0,.int .i64 0,.int .i64 0,.int .i64 0,.bool false]),7,56):=by kernel_rfl
theorem ckTenNil (n cp:Nat) (w:World):Sem.run Tryz.prog (binOp BinOp.eql 33 (.slice none n cp) (.slice none 0 0)) w=.ok (.bool true) w:=by kernel_rfl
theorem ckTenSome (ad:Addr) (n cp:Nat) (w:World):Sem.run Tryz.prog (binOp BinOp.eql 33 (.slice (some ad) n cp) (.slice none 0 0)) w=.ok (.bool false) w:=by kernel_rfl
theorem ckTenPl (x:Ten):∀ v ∈ tenC x,plain1 v:=by
 intro v hv
 simp only[tenC,List.mem_cons,List.not_mem_nil,or_false] at hv
 rcases hv with rfl | rfl | rfl | rfl | rfl | rfl | rfl<;>trivial
set_option maxHeartbeats 2000000 in
set_option maxRecDepth 100000 in
theorem ckTen_any (A:Option Addr) (cp:Nat) (l:List Ten) (w:World) (hl:l.length≤100) (hr:Rd w (·<w.heap.size) A (flat tenC l)) :
  Calls Tryz.prog 60 #[.slice A l.length cp] w (RowPostK 85 7 w l.length (flat tenC l)):=by
 obtain⟨ii,hii,hi0,hi1,hi2⟩:=info_parts ckTenInfo
 have hlen:=flat_length (enc:=tenC) (sz:=7) (fun _=>rfl) l
 cases A with
 | none=>
  have h0:l=[]:=by
   cases l with
   | nil=>rfl
   | cons a r=>
    obtain⟨b,o,hA,_⟩:=hr (by simp[flat,tenC])
    cases hA
  subst h0
  go_enter Tryz.func60,Tryz.ntmps60
  have hq:=ckTenNil 0 cp w
  go_wp2
  go_ret
  exact⟨none,0,rfl,World.ownsRow_nil _ _ _ _,Below.refl _ _⟩
 | some ad=>
  have hq:=ckTenSome ad l.length cp w
  have h0:=World.ownsRow_lit (base:=w.heap.size) (e:=85) (size:=7) w #[] 0 (Nat.le_refl _) (by unfold maxLen;omega) rfl
  have hb0:=(Below.refl w.heap.size w).alloc (Nat.le_refl _) (.cells #[] 85)
  have h1:=(hr.alloc (.cells #[] 85))
  have hone:∀ u ∈ flat tenC l,u.oneCell'=true:=by
   intro u hu
   obtain⟨a,_,ha⟩:=List.mem_flatMap.1 (show u ∈ l.flatMap tenC from hu)
   simp only[tenC,List.mem_cons,List.not_mem_nil,or_false] at ha
   rcases ha with rfl | rfl | rfl | rfl | rfl | rfl | rfl<;>rfl
  go_enter Tryz.func60,Tryz.ntmps60
  go_wp2_with (at_builtin;refine wpList_append_rd _ rfl _ _ _ rfl w.heap.size 85 ii _ 7 56 Tryz.underlying33 hii hi0 hi1 hi2 rfl (by omega) _ 0 [] rfl h0 _ (some ad) l.length cp (flat tenC l) rfl hlen h1 hone ?c1 ?c2 ?c3 ?_)
  case c1=>unfold maxLen;omega
  case c2=>omega
  intro v' w2 hown hg hat
  (try rw[Nat.zero_add] at hown);(try rw[List.nil_append] at hown)
  obtain⟨A',cp',rfl⟩:=own_form hown
  have HO:=Lib.hid hown
  have HB:=Lib.hid (hb0.grown hg (by simp) (fun k hk=>by injection hk with hk;rw[← hk];exact Nat.le_refl _))
  clear hown hg hat h0 hb0 hq
  go_wp2
  go_ret
  exact⟨A',cp',rfl,HO.out,HB.out⟩
def ctCkTen:CT:=fun vs mem nx K=>∃ v l,vs=[v]∧SrcR mem 7 tenC default (l:List Ten) v∧l.length≤100∧∀ cap2,K (slc nx l.length cap2) ((nx,rowOfL 500000 7 tenC default l)::mem) (nx+1)
theorem ckTenOk:CSound Tryz.prog 60 ctCkTen:=⟨by kernel_rfl,fun {C ρ fr mem nx a w vs K} hc hs hv=>by
 obtain⟨v,l,rfl,hr,hl,hK⟩:=hc
 obtain⟨A0,c0,e0,hr⟩:=hs.srcR (enc:=tenC) (sz:=7) (fun _=>rfl) (by omega) hr
 have e1:([v].map (den ρ)).toArray=#[.slice A0 l.length c0]:=by rw[List.map_cons,e0];rfl
 rw[e1]
 refine (ckTen_any A0 c0 l w hl hr).mono ?_
 rintro e w' ⟨A,cp,rfl,ho,hb⟩
 have hrd:=Rd.of_own ho
 obtain⟨q1,-⟩:=(hs.later hb).addList hs.frB hs.rest.size (enc:=tenC) (sz:=7) (fun _=>rfl) (by omega) ckTenPl default (t:=500000) rfl hrd
 have q2:setPl ρ nx ⟨A,7,l.length,false,noSub⟩ nx=⟨A,7,l.length,false,noSub⟩:=setPl_same _ _ _
 refine⟨slc nx l.length cp,_,_,_,?_,hK cp,q1,?_,fun i hi=>setPl_lt _ _ hi,by omega⟩
 ·show Ending.returned (.slice A l.length cp)=.returned (.slice (setPl ρ nx ⟨A,7,l.length,false,noSub⟩ nx).A l.length cp)
  rw[q2]
 ·exact⟨show nx<nx+1 by omega,by rw[q2]⟩⟩
theorem ckVerInfo:(Tryz.prog.info? 83).map (fun i=>(i.zero,i.size,i.bytes))=some (some (.agg #[.int .i64 0,.int .i64 0]),2,16):=by kernel_rfl
theorem ckVerNil (n cp:Nat) (w:World):Sem.run Tryz.prog (binOp BinOp.eql 34 (.slice none n cp) (.slice none 0 0)) w=.ok (.bool true) w:=by kernel_rfl
theorem ckVerSome (ad:Addr) (n cp:Nat) (w:World):Sem.run Tryz.prog (binOp BinOp.eql 34 (.slice (some ad) n cp) (.slice none 0 0)) w=.ok (.bool false) w:=by kernel_rfl
theorem ckVerPl (x:(Int×Int)):∀ v ∈ pairC x,plain1 v:=by
 intro v hv
 simp only[pairC,List.mem_cons,List.not_mem_nil,or_false] at hv
 rcases hv with rfl | rfl<;>trivial
set_option maxHeartbeats 2000000 in
set_option maxRecDepth 100000 in
theorem ckVer_any (A:Option Addr) (cp:Nat) (l:List (Int×Int)) (w:World) (hl:l.length≤100) (hr:Rd w (·<w.heap.size) A (flat pairC l)) :
  Calls Tryz.prog 61 #[.slice A l.length cp] w (RowPostK 83 2 w l.length (flat pairC l)):=by
 obtain⟨ii,hii,hi0,hi1,hi2⟩:=info_parts ckVerInfo
 have hlen:=flat_length (enc:=pairC) (sz:=2) (fun _=>rfl) l
 cases A with
 | none=>
  have h0:l=[]:=by
   cases l with
   | nil=>rfl
   | cons a r=>
    obtain⟨b,o,hA,_⟩:=hr (by simp[flat,pairC])
    cases hA
  subst h0
  go_enter Tryz.func61,Tryz.ntmps61
  have hq:=ckVerNil 0 cp w
  go_wp2
  go_ret
  exact⟨none,0,rfl,World.ownsRow_nil _ _ _ _,Below.refl _ _⟩
 | some ad=>
  have hq:=ckVerSome ad l.length cp w
  have h0:=World.ownsRow_lit (base:=w.heap.size) (e:=83) (size:=2) w #[] 0 (Nat.le_refl _) (by unfold maxLen;omega) rfl
  have hb0:=(Below.refl w.heap.size w).alloc (Nat.le_refl _) (.cells #[] 83)
  have h1:=(hr.alloc (.cells #[] 83))
  have hone:∀ u ∈ flat pairC l,u.oneCell'=true:=by
   intro u hu
   obtain⟨a,_,ha⟩:=List.mem_flatMap.1 (show u ∈ l.flatMap pairC from hu)
   simp only[pairC,List.mem_cons,List.not_mem_nil,or_false] at ha
   rcases ha with rfl | rfl<;>rfl
  go_enter Tryz.func61,Tryz.ntmps61
  go_wp2_with (at_builtin;refine wpList_append_rd _ rfl _ _ _ rfl w.heap.size 83 ii _ 2 16 Tryz.underlying34 hii hi0 hi1 hi2 rfl (by omega) _ 0 [] rfl h0 _ (some ad) l.length cp (flat pairC l) rfl hlen h1 hone ?c1 ?c2 ?c3 ?_)
  case c1=>unfold maxLen;omega
  case c2=>omega
  intro v' w2 hown hg hat
  (try rw[Nat.zero_add] at hown);(try rw[List.nil_append] at hown)
  obtain⟨A',cp',rfl⟩:=own_form hown
  have HO:=Lib.hid hown
  have HB:=Lib.hid (hb0.grown hg (by simp) (fun k hk=>by injection hk with hk;rw[← hk];exact Nat.le_refl _))
  clear hown hg hat h0 hb0 hq
  go_wp2
  go_ret
  exact⟨A',cp',rfl,HO.out,HB.out⟩
def ctCkVer:CT:=fun vs mem nx K=>∃ v l,vs=[v]∧SrcR mem 2 pairC (0,0) (l:List (Int×Int)) v∧l.length≤100∧∀ cap2,K (slc nx l.length cap2) ((nx,rowOfL 500000 2 pairC (0,0) l)::mem) (nx+1)
theorem ckVerOk:CSound Tryz.prog 61 ctCkVer:=⟨by kernel_rfl,fun {C ρ fr mem nx a w vs K} hc hs hv=>by
 obtain⟨v,l,rfl,hr,hl,hK⟩:=hc
 obtain⟨A0,c0,e0,hr⟩:=hs.srcR (enc:=pairC) (sz:=2) (fun _=>rfl) (by omega) hr
 have e1:([v].map (den ρ)).toArray=#[.slice A0 l.length c0]:=by rw[List.map_cons,e0];rfl
 rw[e1]
 refine (ckVer_any A0 c0 l w hl hr).mono ?_
 rintro e w' ⟨A,cp,rfl,ho,hb⟩
 have hrd:=Rd.of_own ho
 obtain⟨q1,-⟩:=(hs.later hb).addList hs.frB hs.rest.size (enc:=pairC) (sz:=2) (fun _=>rfl) (by omega) ckVerPl (0,0) (t:=500000) rfl hrd
 have q2:setPl ρ nx ⟨A,2,l.length,false,noSub⟩ nx=⟨A,2,l.length,false,noSub⟩:=setPl_same _ _ _
 refine⟨slc nx l.length cp,_,_,_,?_,hK cp,q1,?_,fun i hi=>setPl_lt _ _ hi,by omega⟩
 ·show Ending.returned (.slice A l.length cp)=.returned (.slice (setPl ρ nx ⟨A,2,l.length,false,noSub⟩ nx).A l.length cp)
  rw[q2]
 ·exact⟨show nx<nx+1 by omega,by rw[q2]⟩⟩
theorem ckIntInfo:(Tryz.prog.info? 3).map (fun i=>(i.zero,i.size,i.bytes))=some (some (.int .i64 0),1,8):=by kernel_rfl
theorem ckIntNil (n cp:Nat) (w:World):Sem.run Tryz.prog (binOp BinOp.eql 22 (.slice none n cp) (.slice none 0 0)) w=.ok (.bool true) w:=by kernel_rfl
theorem ckIntSome (ad:Addr) (n cp:Nat) (w:World):Sem.run Tryz.prog (binOp BinOp.eql 22 (.slice (some ad) n cp) (.slice none 0 0)) w=.ok (.bool false) w:=by kernel_rfl
theorem ckIntPl (x:Int):∀ v ∈ intC x,plain1 v:=by
 intro v hv
 simp only[intC,List.mem_cons,List.not_mem_nil,or_false] at hv
 subst hv;trivial
set_option maxHeartbeats 2000000 in
set_option maxRecDepth 100000 in
theorem ckInt_any (A:Option Addr) (cp:Nat) (l:List Int) (w:World) (hl:l.length≤100) (hr:Rd w (·<w.heap.size) A (flat intC l)) :
  Calls Tryz.prog 62 #[.slice A l.length cp] w (RowPostK 3 1 w l.length (flat intC l)):=by
 obtain⟨ii,hii,hi0,hi1,hi2⟩:=info_parts ckIntInfo
 have hlen:=flat_length (enc:=intC) (sz:=1) (fun _=>rfl) l
 cases A with
 | none=>
  have h0:l=[]:=by
   cases l with
   | nil=>rfl
   | cons a r=>
    obtain⟨b,o,hA,_⟩:=hr (by simp[flat,intC])
    cases hA
  subst h0
  go_enter Tryz.func62,Tryz.ntmps62
  have hq:=ckIntNil 0 cp w
  go_wp2
  go_ret
  exact⟨none,0,rfl,World.ownsRow_nil _ _ _ _,Below.refl _ _⟩
 | some ad=>
  have hq:=ckIntSome ad l.length cp w
  have h0:=World.ownsRow_lit (base:=w.heap.size) (e:=3) (size:=1) w #[] 0 (Nat.le_refl _) (by unfold maxLen;omega) rfl
  have hb0:=(Below.refl w.heap.size w).alloc (Nat.le_refl _) (.cells #[] 3)
  have h1:=(hr.alloc (.cells #[] 3))
  have hone:∀ u ∈ flat intC l,u.oneCell'=true:=by
   intro u hu
   obtain⟨a,_,ha⟩:=List.mem_flatMap.1 (show u ∈ l.flatMap intC from hu)
   simp only[intC,List.mem_cons,List.not_mem_nil,or_false] at ha
   subst ha;rfl
  go_enter Tryz.func62,Tryz.ntmps62
  go_wp2_with (at_builtin;refine wpList_append_rd _ rfl _ _ _ rfl w.heap.size 3 ii _ 1 8 Tryz.underlying22 hii hi0 hi1 hi2 rfl (by omega) _ 0 [] rfl h0 _ (some ad) l.length cp (flat intC l) rfl hlen h1 hone ?c1 ?c2 ?c3 ?_)
  case c1=>unfold maxLen;omega
  case c2=>omega
  intro v' w2 hown hg hat
  (try rw[Nat.zero_add] at hown);(try rw[List.nil_append] at hown)
  obtain⟨A',cp',rfl⟩:=own_form hown
  have HO:=Lib.hid hown
  have HB:=Lib.hid (hb0.grown hg (by simp) (fun k hk=>by injection hk with hk;rw[← hk];exact Nat.le_refl _))
  clear hown hg hat h0 hb0 hq
  go_wp2
  go_ret
  exact⟨A',cp',rfl,HO.out,HB.out⟩
def ctCkInt:CT:=fun vs mem nx K=>∃ v l,vs=[v]∧SrcR mem 1 intC 0 (l:List Int) v∧l.length≤100∧∀ cap2,K (slc nx l.length cap2) ((nx,rowOfL 500000 1 intC 0 l)::mem) (nx+1)
theorem ckIntOk:CSound Tryz.prog 62 ctCkInt:=⟨by kernel_rfl,fun {C ρ fr mem nx a w vs K} hc hs hv=>by
 obtain⟨v,l,rfl,hr,hl,hK⟩:=hc
 obtain⟨A0,c0,e0,hr⟩:=hs.srcR (enc:=intC) (sz:=1) (fun _=>rfl) (by omega) hr
 have e1:([v].map (den ρ)).toArray=#[.slice A0 l.length c0]:=by rw[List.map_cons,e0];rfl
 rw[e1]
 refine (ckInt_any A0 c0 l w hl hr).mono ?_
 rintro e w' ⟨A,cp,rfl,ho,hb⟩
 have hrd:=Rd.of_own ho
 obtain⟨q1,-⟩:=(hs.later hb).addList hs.frB hs.rest.size (enc:=intC) (sz:=1) (fun _=>rfl) (by omega) ckIntPl 0 (t:=500000) rfl hrd
 have q2:setPl ρ nx ⟨A,1,l.length,false,noSub⟩ nx=⟨A,1,l.length,false,noSub⟩:=setPl_same _ _ _
 refine⟨slc nx l.length cp,_,_,_,?_,hK cp,q1,?_,fun i hi=>setPl_lt _ _ hi,by omega⟩
 ·show Ending.returned (.slice A l.length cp)=.returned (.slice (setPl ρ nx ⟨A,1,l.length,false,noSub⟩ nx).A l.length cp)
  rw[q2]
 ·exact⟨show nx<nx+1 by omega,by rw[q2]⟩⟩
theorem ckRouteInfo:(Tryz.prog.info? 75).map (fun i=>(i.zero,i.size,i.bytes))=some (some (.agg #[.int .i64 0,.int .i64 0]),2,16):=by kernel_rfl
theorem ckRouteNil (n cp:Nat) (w:World):Sem.run Tryz.prog (binOp BinOp.eql 23 (.slice none n cp) (.slice none 0 0)) w=.ok (.bool true) w:=by kernel_rfl
theorem ckRouteSome (ad:Addr) (n cp:Nat) (w:World):Sem.run Tryz.prog (binOp BinOp.eql 23 (.slice (some ad) n cp) (.slice none 0 0)) w=.ok (.bool false) w:=by kernel_rfl
theorem ckRoutePl (x:(Int×Int)):∀ v ∈ pairC x,plain1 v:=by
 intro v hv
 simp only[pairC,List.mem_cons,List.not_mem_nil,or_false] at hv
 rcases hv with rfl | rfl<;>trivial
set_option maxHeartbeats 2000000 in
set_option maxRecDepth 100000 in
theorem ckRoute_any (A:Option Addr) (cp:Nat) (l:List (Int×Int)) (w:World) (hl:l.length≤100) (hr:Rd w (·<w.heap.size) A (flat pairC l)) :
  Calls Tryz.prog 63 #[.slice A l.length cp] w (RowPostK 75 2 w l.length (flat pairC l)):=by
 obtain⟨ii,hii,hi0,hi1,hi2⟩:=info_parts ckRouteInfo
 have hlen:=flat_length (enc:=pairC) (sz:=2) (fun _=>rfl) l
 cases A with
 | none=>
  have h0:l=[]:=by
   cases l with
   | nil=>rfl
   | cons a r=>
    obtain⟨b,o,hA,_⟩:=hr (by simp[flat,pairC])
    cases hA
  subst h0
  go_enter Tryz.func63,Tryz.ntmps63
  have hq:=ckRouteNil 0 cp w
  go_wp2
  go_ret
  exact⟨none,0,rfl,World.ownsRow_nil _ _ _ _,Below.refl _ _⟩
 | some ad=>
  have hq:=ckRouteSome ad l.length cp w
  have h0:=World.ownsRow_lit (base:=w.heap.size) (e:=75) (size:=2) w #[] 0 (Nat.le_refl _) (by unfold maxLen;omega) rfl
  have hb0:=(Below.refl w.heap.size w).alloc (Nat.le_refl _) (.cells #[] 75)
  have h1:=(hr.alloc (.cells #[] 75))
  have hone:∀ u ∈ flat pairC l,u.oneCell'=true:=by
   intro u hu
   obtain⟨a,_,ha⟩:=List.mem_flatMap.1 (show u ∈ l.flatMap pairC from hu)
   simp only[pairC,List.mem_cons,List.not_mem_nil,or_false] at ha
   rcases ha with rfl | rfl<;>rfl
  go_enter Tryz.func63,Tryz.ntmps63
  go_wp2_with (at_builtin;refine wpList_append_rd _ rfl _ _ _ rfl w.heap.size 75 ii _ 2 16 Tryz.underlying23 hii hi0 hi1 hi2 rfl (by omega) _ 0 [] rfl h0 _ (some ad) l.length cp (flat pairC l) rfl hlen h1 hone ?c1 ?c2 ?c3 ?_)
  case c1=>unfold maxLen;omega
  case c2=>omega
  intro v' w2 hown hg hat
  (try rw[Nat.zero_add] at hown);(try rw[List.nil_append] at hown)
  obtain⟨A',cp',rfl⟩:=own_form hown
  have HO:=Lib.hid hown
  have HB:=Lib.hid (hb0.grown hg (by simp) (fun k hk=>by injection hk with hk;rw[← hk];exact Nat.le_refl _))
  clear hown hg hat h0 hb0 hq
  go_wp2
  go_ret
  exact⟨A',cp',rfl,HO.out,HB.out⟩
def ctCkRoute:CT:=fun vs mem nx K=>∃ v l,vs=[v]∧SrcR mem 2 pairC (0,0) (l:List (Int×Int)) v∧l.length≤100∧∀ cap2,K (slc nx l.length cap2) ((nx,rowOfL 500000 2 pairC (0,0) l)::mem) (nx+1)
theorem ckRouteOk:CSound Tryz.prog 63 ctCkRoute:=⟨by kernel_rfl,fun {C ρ fr mem nx a w vs K} hc hs hv=>by
 obtain⟨v,l,rfl,hr,hl,hK⟩:=hc
 obtain⟨A0,c0,e0,hr⟩:=hs.srcR (enc:=pairC) (sz:=2) (fun _=>rfl) (by omega) hr
 have e1:([v].map (den ρ)).toArray=#[.slice A0 l.length c0]:=by rw[List.map_cons,e0];rfl
 rw[e1]
 refine (ckRoute_any A0 c0 l w hl hr).mono ?_
 rintro e w' ⟨A,cp,rfl,ho,hb⟩
 have hrd:=Rd.of_own ho
 obtain⟨q1,-⟩:=(hs.later hb).addList hs.frB hs.rest.size (enc:=pairC) (sz:=2) (fun _=>rfl) (by omega) ckRoutePl (0,0) (t:=500000) rfl hrd
 have q2:setPl ρ nx ⟨A,2,l.length,false,noSub⟩ nx=⟨A,2,l.length,false,noSub⟩:=setPl_same _ _ _
 refine⟨slc nx l.length cp,_,_,_,?_,hK cp,q1,?_,fun i hi=>setPl_lt _ _ hi,by omega⟩
 ·show Ending.returned (.slice A l.length cp)=.returned (.slice (setPl ρ nx ⟨A,2,l.length,false,noSub⟩ nx).A l.length cp)
  rw[q2]
 ·exact⟨show nx<nx+1 by omega,by rw[q2]⟩⟩
/-! maps.DeleteFunc of a map without entries. -/
theorem mapU:Tryz.prog.underlying 117=some (.map 3 75):=by kernel_rfl
theorem delE_any (b:Nat) (fv:Value) (clock:Nat) (w:World) (hb:w.heap[b]?=some (.map #[] clock)) :
  Calls Tryz.prog 64 #[.map (some b),fv] w fun e w'=>e=.returned (.tuple #[])∧w'=w.alloc (.mapIter (some b) clock #[] clock):=by
 have hrg:=run_range_map (P:=Tryz.prog) w 117 _ _ b #[] clock mapU hb
 have hnx:∀ ty,(Instr.next (.pointer (some ⟨w.heap.size,0,none⟩)) false ty).run Tryz.prog (w.alloc (.mapIter (some b) clock #[] clock))=.ok (.tuple #[.bool false]) (w.alloc (.mapIter (some b) clock #[] clock)):=fun ty=>by
  have hb2:(w.alloc (.mapIter (some b) clock #[] clock)).heap[b]?=some (.map #[] clock):=by rw[heap_alloc_old _ _ (heap_lt hb)];exact hb
  rcases run_next_at (P:=Tryz.prog) _ ty w.heap.size b clock clock #[] #[] clock (heap_alloc_new _ _) hb2 (fun x hx=>by simp at hx) (Nat.le_refl _) with⟨-,h⟩ | ⟨e,he,-⟩
  ·exact h
  ·exact absurd (mem_left he).1 (by simp)
 go_enter Tryz.func64,Tryz.ntmps64
 go_wp2
 refine wp_loop_rounds 1 ?_
 rw[rounds_succ]
 go_wp2
 go_end0
 exact⟨rfl,rfl⟩
def ctDelE:CT:=fun vs mem nx K=>∃ h fv kk ag f,vs=[.map (some h),fv]∧lk mem h=some (.ext (.map kk ag f))∧(∀ z,f z=none)∧K (.tuple #[]) mem nx
theorem delEOk:CSound Tryz.prog 64 ctDelE:=⟨by kernel_rfl,fun {C ρ fr mem nx a w vs K} hc hs hv=>by
 obtain⟨h,fv,kk,ag,f,rfl,hl,hf,hK⟩:=hc
 obtain⟨g,es,clock,e1,e2,-,hM⟩:=hs.blk h _ (lk_app (r:=C.fm) hl)
 have he:es=#[]:=by
  cases es with
  | mk l=>cases l with
   | nil=>rfl
   | cons e r=>
    obtain⟨z,l,-,q,-⟩:=hM.key e (by simp)
    rw[hf] at q
    cases q
 subst he
 have e3:([.map (some h),fv].map (den ρ)).toArray=#[.map (some g),den ρ fv]:=by
  have:(ρ h).A.map (·.block)=some g:=by rw[e1];rfl
  simp[den,den2,den1,this]
 rw[e3]
 refine (delE_any g _ clock w e2).mono ?_
 rintro e w' ⟨rfl,rfl⟩
 exact⟨.tuple #[],mem,nx,ρ,by simp[den],hK,hs.later ((Below.refl _ _).alloc (Nat.le_refl _) _),(fun v hv=>by simp at hv),ExtS.refl _ _⟩⟩
/-! digest.Chain,ref02.Chain -/
def xorI (a b:Int):Int:=IntKind.u64.wrap (BitVec.ofInt IntKind.u64.bits a ^^^ BitVec.ofInt IntKind.u64.bits b).toNat
def mixI (h n:Int):Int:=xorI (IntKind.u64.wrap (xorI h (IntKind.u64.wrap n) * 1099511628211)) ((IntKind.u64.wrap (xorI h (IntKind.u64.wrap n) * 1099511628211)).fdiv (2 ^ min (29:Int).toNat IntKind.u64.bits))
def stepI (h x:Int):Int:=mixI h (IntKind.i64.wrap x)
def chainI (key parent:Int) (l:List Int):Int:=mixI (l.foldl stepI (mixI (mixI 14695981039346656037 key) (IntKind.i64.wrap parent))) l.length
theorem fold_take {l:List Int} {h0:Int} {i:Int} (h:0≤i∧i<l.length):(l.take (i+1).toNat).foldl stepI h0=stepI ((l.take i.toNat).foldl stepI h0) (l.getD i.toNat 0):=by
 rw[show (i+1).toNat=i.toNat+1 by omega,List.take_add_one,List.getElem?_eq_getElem (by omega),List.foldl_append,List.getD_eq_getElem?_getD,List.getElem?_eq_getElem (by omega)]
 rfl
abbrev ctMixP:CT:=ctInl ttA [] [] Tryz.f123 (bodyOf Tryz.f123)
abbrev mxdF:FT:=[(123,ctMixP)]
abbrev mxdD:List (Nat×DQ):=[(9000000,{ k:=0,L:=[123] }),(2000002,{ k:=0,L:=[0],sl:=[1,7,8] })]
def chPF:FT:=[(123,ctMixP),(122,ctInl ttA mxdF mxdD Tryz.f122 (bodyOf Tryz.f122))]
def chPD:List (Nat×DQ):=[(9000000,{ k:=0,L:=[123,122] })]
theorem mixPOk {I:List Nat} (hI:I.contains 123=true):CSoundI Tryz.prog I 123 ctMixP:=inl_ok ttAok fti_nil mixed (by kernel_rfl) Tryz.func123 rfl (by kernel_rfl) hI
theorem chPFok:FTokI Tryz.prog chPF (inlOf chPD):=fti_cons (mixPOk (by decide)) (fti_cons (inl_ok ttAok (fti_cons (mixPOk (by decide)) fti_nil) mixed (by kernel_rfl) Tryz.func122 rfl (by kernel_rfl) (by decide)) fti_nil)
set_option maxRecDepth 100000 in
set_option maxHeartbeats 4000000 in
theorem chainP_sx (cap:Nat) (l:List Int) (key parent:Int) (hl:l.length≤1000000) :
  sx ttA chPF chPD (bodyOf Tryz.f71) (argF 0 [.int .i64 key,.int .u64 parent,slc 0 l.length cap]) [(0,rowOfL 3 1 u8C 0 l)] 1 (endx ttA Tryz.f71.results.toList fun v _ _=>v=.int .u64 (chainI key parent l)):=by
 refine⟨by decide,?_⟩
 refine⟨by decide,?_⟩
 refine⟨Int×Int,fun q=>match q with | (i,h)=>[(9,.int .i64 i),(0,.int .u64 h)],fun _=>[],fun q=>match q with | (i,h)=>(0≤i∧i≤l.length)∧h=(l.take i.toNat).foldl stepI (mixI (mixI 14695981039346656037 key) (IntKind.i64.wrap parent)),fun q=>match q with | (i,h)=>((l.length:Int)-i).toNat,⟨(0,mixI (mixI 14695981039346656037 key) (IntKind.i64.wrap parent)),⟨by omega,rfl⟩,kp_,kp_⟩,?_⟩
 rintro⟨i,h⟩ ⟨hi,hh⟩
 refine⟨⟨rfl,rfl⟩,?_⟩
 refine⟨fun hlt=>?_,fun hge=>?_⟩
 ·have hlt2:i<(l.length:Int):=of_decide_eq_true hlt
  refine⟨⟨Nat.le_refl _,hi.1,hlt2⟩,?_⟩
  refine⟨by decide,?_⟩
  refine⟨(_,stepI h (l.getD i.toNat 0)),?_,kp_,kp_⟩
  dsimp only
  rw[wrapi (n:=i+1) (by omega)]
  refine⟨⟨by omega,?_⟩,by omega⟩
  rw[fold_take ⟨hi.1,hlt2⟩,hh]
 ·have hge2:¬ i<(l.length:Int):=of_decide_eq_false hge
  obtain rfl:i=l.length:=by omega
  rw[Int.toNat_natCast,List.take_length] at hh
  subst hh
  refine⟨by decide,?_⟩
  rfl
theorem chainP_calls (A:Option Addr) (cap:Nat) (l:List Int) (key parent:Int) (w:World) (hl:l.length≤1000000) (hr:Rd w (·<w.heap.size) A (flat u8C l)):Calls Tryz.prog 71 #[.int .i64 key,.int .u64 parent,.slice A l.length cap] w fun e w'=>e=.returned (.int .u64 (chainI key parent l))∧Below w.heap.size w w':=by
 have:=row1_calls (enc:=u8C) (sz:=1) (fun _=>rfl) (by omega) u8C_plain 0 ttAok chPFok Tryz.func71 rfl (D:=chPD) (by kernel_rfl) (vs:=[.int .i64 key,.int .u64 parent,slc 0 l.length cap]) rfl A l w hr (fun v hv=>by
  simp only[List.mem_cons,List.not_mem_nil,or_false] at hv
  rcases hv with rfl | rfl | rfl
  ·trivial
  ·trivial
  ·exact⟨Nat.zero_lt_one,rfl⟩) (chainP_sx cap l key parent hl)
 have e0:([.int .i64 key,.int .u64 parent,slc 0 l.length cap].map (den fun _=>⟨A,1,l.length,false,noSub⟩)).toArray=#[.int .i64 key,.int .u64 parent,.slice A l.length cap]:=by simp[den,den2,den1,dA_whole,dS_whole]
 rw[e0] at this
 refine this.mono ?_
 rintro e w' ⟨v,mem',nx',ρ',rfl,rfl,hv,hm',hb⟩
 exact⟨rfl,hb⟩
def ctChainP:CT:=fun vs mem nx K=>∃ v l key parent,vs=[.int .i64 key,.int .u64 parent,v]∧SrcR mem 1 u8C 0 (l:List Int) v∧l.length≤1000000∧K (.int .u64 (chainI key parent l)) mem nx
theorem chainPOk:CSound Tryz.prog 71 ctChainP:=⟨by kernel_rfl,fun {C ρ fr mem nx a w vs K} hc hs hv=>by
 obtain⟨v,l,key,parent,rfl,hsrc,hl,hK⟩:=hc
 obtain⟨A,cap,e0,hr⟩:=hs.srcR (enc:=u8C) (sz:=1) (fun _=>rfl) (by omega) hsrc
 have e1:([.int .i64 key,.int .u64 parent,v].map (den ρ)).toArray=#[.int .i64 key,.int .u64 parent,.slice A l.length cap]:=by rw[List.map_cons,List.map_cons,List.map_cons,e0];rfl
 rw[e1]
 refine (chainP_calls A cap l key parent w hl hr).mono ?_
 rintro e w' ⟨rfl,hb⟩
 exact⟨_,mem,nx,ρ,rfl,hK,hs.later hb,trivial,ExtS.refl _ _⟩⟩
end Go.Proofs.YtdjkeplekchfdaaGreat
