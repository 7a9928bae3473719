import Derived.Test.YtchhdflealgkaaaGreatPo11
import Derived.OwnWalk
import Derived.Maps.RangeRun
namespace Go.Proofs.YtchhdflealgkaaaGreat
open Go.RowKit
set_option linter.unusedSimpArgs false
set_option linter.unusedVariables false
/-! slices.Clone of lists of whatever kind. -/
def RowPostK (T:TypeId) (size:Nat) (w:World) (n:Nat) (xs:List Value) (e:Ending) (w':World):Prop:=
 ∃ (A:Option Addr) (cp:Nat),e=.returned (.slice A n cp)∧w'.ownsRow w.heap.size T size (.slice A n cp) n xs∧Below w.heap.size w w'
theorem ckZoneInfo:(Tryz.prog.info? 84).map (fun i=>(i.zero,i.size,i.bytes))=some (some (.agg #[.int .i64 0]),1,8):=by kernel_rfl
theorem ckZoneNil (n cp:Nat) (w:World):Sem.run Tryz.prog (binOp BinOp.eql 26 (.slice none n cp) (.slice none 0 0)) w=.ok (.bool true) w:=by kernel_rfl
theorem ckZoneSome (ad:Addr) (n cp:Nat) (w:World):Sem.run Tryz.prog (binOp BinOp.eql 26 (.slice (some ad) n cp) (.slice none 0 0)) w=.ok (.bool false) w:=by kernel_rfl
theorem ckZonePl (x:Int):∀ v ∈ intC x,plain1 v:=by
 intro v hv
 simp only[intC,List.mem_cons,List.not_mem_nil,or_false] at hv
 subst hv;trivial
set_option maxHeartbeats 2000000 in
set_option maxRecDepth 100000 in
theorem ckZone_any (A:Option Addr) (cp:Nat) (l:List Int) (w:World) (hl:l.length≤100) (hr:Rd w (·<w.heap.size) A (flat intC l)) :
  Calls Tryz.prog 43 #[.slice A l.length cp] w (RowPostK 84 1 w l.length (flat intC l)):=by
 obtain⟨ii,hii,hi0,hi1,hi2⟩:=info_parts ckZoneInfo
 have hlen:=flat_length (enc:=intC) (sz:=1) (fun _=>rfl) l
 cases A with
 | none=>
  have h0:l=[]:=by
   cases l with
   | nil=>rfl
   | cons a r=>
    obtain⟨b,o,hA,_⟩:=hr (by simp[flat,intC])
    cases hA
  subst h0
  go_enter Tryz.func43,Tryz.ntmps43
  have hq:=ckZoneNil 0 cp w
  go_wp2
  go_ret
  exact⟨none,0,rfl,World.ownsRow_nil _ _ _ _,Below.refl _ _⟩
 | some ad=>
  have hq:=ckZoneSome ad l.length cp w
  have h0:=World.ownsRow_lit (base:=w.heap.size) (e:=84) (size:=1) w #[] 0 (Nat.le_refl _) (by unfold maxLen;omega) rfl
  have hb0:=(Below.refl w.heap.size w).alloc (Nat.le_refl _) (.cells #[] 84)
  have h1:=(hr.alloc (.cells #[] 84))
  have hone:∀ u ∈ flat intC l,u.oneCell'=true:=by
   intro u hu
   obtain⟨a,_,ha⟩:=List.mem_flatMap.1 (show u ∈ l.flatMap intC from hu)
   simp only[intC,List.mem_cons,List.not_mem_nil,or_false] at ha
   subst ha;rfl
  go_enter Tryz.func43,Tryz.ntmps43
  go_wp2_with (at_builtin;refine wpList_append_rd _ rfl _ _ _ rfl w.heap.size 84 ii _ 1 8 Tryz.underlying26 hii hi0 hi1 hi2 rfl (by omega) _ 0 [] rfl h0 _ (some ad) l.length cp (flat intC l) rfl hlen h1 hone ?c1 ?c2 ?c3 ?_)
  case c1=>unfold maxLen;omega
  case c2=>omega
  intro v' w2 hown hg hat
  (try rw[Nat.zero_add] at hown);(try rw[List.nil_append] at hown)
  obtain⟨A',cp',rfl⟩:=own_form hown
  have HO:=Lib.hid hown
  have HB:=Lib.hid (hb0.grown hg (by simp) (fun k hk=>by injection hk with hk;rw[← hk];exact Nat.le_refl _))
  clear hown hg hat h0 hb0 hq
  go_wp2
  go_ret
  exact⟨A',cp',rfl,HO.out,HB.out⟩
def ctCkZone:CT:=fun vs mem nx K=>∃ v l,vs=[v]∧SrcR mem 1 intC 0 (l:List Int) v∧l.length≤100∧∀ cap2,K (slc nx l.length cap2) ((nx,rowOfL 500000 1 intC 0 l)::mem) (nx+1)
theorem ckZoneOk:CSound Tryz.prog 43 ctCkZone:=⟨by kernel_rfl,fun {C ρ fr mem nx a w vs K} hc hs hv=>by
 obtain⟨v,l,rfl,hr,hl,hK⟩:=hc
 obtain⟨A0,c0,e0,hr⟩:=hs.srcR (enc:=intC) (sz:=1) (fun _=>rfl) (by omega) hr
 have e1:([v].map (den ρ)).toArray=#[.slice A0 l.length c0]:=by rw[List.map_cons,e0];rfl
 rw[e1]
 refine (ckZone_any A0 c0 l w hl hr).mono ?_
 rintro e w' ⟨A,cp,rfl,ho,hb⟩
 have hrd:=Rd.of_own ho
 obtain⟨q1,-⟩:=(hs.later hb).addList hs.frB hs.rest.size (enc:=intC) (sz:=1) (fun _=>rfl) (by omega) ckZonePl 0 (t:=500000) rfl hrd
 have q2:setPl ρ nx ⟨A,1,l.length,false,noSub⟩ nx=⟨A,1,l.length,false,noSub⟩:=setPl_same _ _ _
 refine⟨slc nx l.length cp,_,_,_,?_,hK cp,q1,?_,fun i hi=>setPl_lt _ _ hi,by omega⟩
 ·show Ending.returned (.slice A l.length cp)=.returned (.slice (setPl ρ nx ⟨A,1,l.length,false,noSub⟩ nx).A l.length cp)
  rw[q2]
 ·exact⟨show nx<nx+1 by omega,by rw[q2]⟩⟩
theorem ckCellInfo:(Tryz.prog.info? 86).map (fun i=>(i.zero,i.size,i.bytes))=some (some (.agg #[.int .i64 0,.int .i64 0]),2,16):=by kernel_rfl
theorem ckCellNil (n cp:Nat) (w:World):Sem.run Tryz.prog (binOp BinOp.eql 27 (.slice none n cp) (.slice none 0 0)) w=.ok (.bool true) w:=by kernel_rfl
theorem ckCellSome (ad:Addr) (n cp:Nat) (w:World):Sem.run Tryz.prog (binOp BinOp.eql 27 (.slice (some ad) n cp) (.slice none 0 0)) w=.ok (.bool false) w:=by kernel_rfl
theorem ckCellPl (x:(Int×Int)):∀ v ∈ pairC x,plain1 v:=by
 intro v hv
 simp only[pairC,List.mem_cons,List.not_mem_nil,or_false] at hv
 rcases hv with rfl | rfl<;>trivial
set_option maxHeartbeats 2000000 in
set_option maxRecDepth 100000 in
theorem ckCell_any (A:Option Addr) (cp:Nat) (l:List (Int×Int)) (w:World) (hl:l.length≤100) (hr:Rd w (·<w.heap.size) A (flat pairC l)) :
  Calls Tryz.prog 44 #[.slice A l.length cp] w (RowPostK 86 2 w l.length (flat pairC l)):=by
 obtain⟨ii,hii,hi0,hi1,hi2⟩:=info_parts ckCellInfo
 have hlen:=flat_length (enc:=pairC) (sz:=2) (fun _=>rfl) l
 cases A with
 | none=>
  have h0:l=[]:=by
   cases l with
   | nil=>rfl
   | cons a r=>
    obtain⟨b,o,hA,_⟩:=hr (by simp[flat,pairC])
    cases hA
  subst h0
  go_enter Tryz.func44,Tryz.ntmps44
  have hq:=ckCellNil 0 cp w
  go_wp2
  go_ret
  exact⟨none,0,rfl,World.ownsRow_nil _ _ _ _,Below.refl _ _⟩
 | some ad=>
  have hq:=ckCellSome ad l.length cp w
  have h0:=World.ownsRow_lit (base:=w.heap.size) (e:=86) (size:=2) w #[] 0 (Nat.le_refl _) (by unfold maxLen;omega) rfl
  have hb0:=(Below.refl w.heap.size w).alloc (Nat.le_refl _) (.cells #[] 86)
  have h1:=(hr.alloc (.cells #[] 86))
  have hone:∀ u ∈ flat pairC l,u.oneCell'=true:=by
   intro u hu
   obtain⟨a,_,ha⟩:=List.mem_flatMap.1 (show u ∈ l.flatMap pairC from hu)
   simp only[pairC,List.mem_cons,List.not_mem_nil,or_false] at ha
   rcases ha with rfl | rfl<;>rfl
  go_enter Tryz.func44,Tryz.ntmps44
  go_wp2_with (at_builtin;refine wpList_append_rd _ rfl _ _ _ rfl w.heap.size 86 ii _ 2 16 Tryz.underlying27 hii hi0 hi1 hi2 rfl (by omega) _ 0 [] rfl h0 _ (some ad) l.length cp (flat pairC l) rfl hlen h1 hone ?c1 ?c2 ?c3 ?_)
  case c1=>unfold maxLen;omega
  case c2=>omega
  intro v' w2 hown hg hat
  (try rw[Nat.zero_add] at hown);(try rw[List.nil_append] at hown)
  obtain⟨A',cp',rfl⟩:=own_form hown
  have HO:=Lib.hid hown
  have HB:=Lib.hid (hb0.grown hg (by simp) (fun k hk=>by injection hk with hk;rw[← hk];exact Nat.le_refl _))
  clear hown hg hat h0 hb0 hq
  go_wp2
  go_ret
  exact⟨A',cp',rfl,HO.out,HB.out⟩
def ctCkCell:CT:=fun vs mem nx K=>∃ v l,vs=[v]∧SrcR mem 2 pairC (0,0) (l:List (Int×Int)) v∧l.length≤100∧∀ cap2,K (slc nx l.length cap2) ((nx,rowOfL 500000 2 pairC (0,0) l)::mem) (nx+1)
theorem ckCellOk:CSound Tryz.prog 44 ctCkCell:=⟨by kernel_rfl,fun {C ρ fr mem nx a w vs K} hc hs hv=>by
 obtain⟨v,l,rfl,hr,hl,hK⟩:=hc
 obtain⟨A0,c0,e0,hr⟩:=hs.srcR (enc:=pairC) (sz:=2) (fun _=>rfl) (by omega) hr
 have e1:([v].map (den ρ)).toArray=#[.slice A0 l.length c0]:=by rw[List.map_cons,e0];rfl
 rw[e1]
 refine (ckCell_any A0 c0 l w hl hr).mono ?_
 rintro e w' ⟨A,cp,rfl,ho,hb⟩
 have hrd:=Rd.of_own ho
 obtain⟨q1,-⟩:=(hs.later hb).addList hs.frB hs.rest.size (enc:=pairC) (sz:=2) (fun _=>rfl) (by omega) ckCellPl (0,0) (t:=500000) rfl hrd
 have q2:setPl ρ nx ⟨A,2,l.length,false,noSub⟩ nx=⟨A,2,l.length,false,noSub⟩:=setPl_same _ _ _
 refine⟨slc nx l.length cp,_,_,_,?_,hK cp,q1,?_,fun i hi=>setPl_lt _ _ hi,by omega⟩
 ·show Ending.returned (.slice A l.length cp)=.returned (.slice (setPl ρ nx ⟨A,2,l.length,false,noSub⟩ nx).A l.length cp)
  rw[q2]
 ·exact⟨show nx<nx+1 by omega,by rw[q2]⟩⟩
theorem ckTenInfo:(Tryz.prog.info? 90).map (fun i=>(i.zero,i.size,i.bytes))=some (some (.agg #[.int .i64 0,.int .i64 0,.int .i64 0,.int .i64 0,.int .i64 0,.int .i64 0,.bool false]),7,56):=by kernel_rfl
theorem ckTenNil (n cp:Nat) (w:World):Sem.run Tryz.prog (binOp BinOp.eql 28 (.slice none n cp) (.slice none 0 0)) w=.ok (.bool true) w:=by kernel_rfl
theorem ckTenSome (ad:Addr) (n cp:Nat) (w:World):Sem.run Tryz.prog (binOp BinOp.eql 28 (.slice (some ad) n cp) (.slice none 0 0)) w=.ok (.bool false) w:=by kernel_rfl
theorem ckTenPl (x:Ten):∀ v ∈ tenC x,plain1 v:=by
 intro v hv
 simp only[tenC,List.mem_cons,List.not_mem_nil,or_false] at hv
 rcases hv with rfl | rfl | rfl | rfl | rfl | rfl | rfl<;>trivial
set_option maxHeartbeats 2000000 in
set_option maxRecDepth 100000 in
theorem ckTen_any (A:Option Addr) (cp:Nat) (l:List Ten) (w:World) (hl:l.length≤100) (hr:Rd w (·<w.heap.size) A (flat tenC l)) :
  Calls Tryz.prog 45 #[.slice A l.length cp] w (RowPostK 90 7 w l.length (flat tenC l)):=by
 obtain⟨ii,hii,hi0,hi1,hi2⟩:=info_parts ckTenInfo
 have hlen:=flat_length (enc:=tenC) (sz:=7) (fun _=>rfl) l
 cases A with
 | none=>
  have h0:l=[]:=by
   cases l with
   | nil=>rfl
   | cons a r=>
    obtain⟨b,o,hA,_⟩:=hr (by simp[flat,tenC])
    cases hA
  subst h0
  go_enter Tryz.func45,Tryz.ntmps45
  have hq:=ckTenNil 0 cp w
  go_wp2
  go_ret
  exact⟨none,0,rfl,World.ownsRow_nil _ _ _ _,Below.refl _ _⟩
 | some ad=>
  have hq:=ckTenSome ad l.length cp w
  have h0:=World.ownsRow_lit (base:=w.heap.size) (e:=90) (size:=7) w #[] 0 (Nat.le_refl _) (by unfold maxLen;omega) rfl
  have hb0:=(Below.refl w.heap.size w).alloc (Nat.le_refl _) (.cells #[] 90)
  have h1:=(hr.alloc (.cells #[] 90))
  have hone:∀ u ∈ flat tenC l,u.oneCell'=true:=by
   intro u hu
   obtain⟨a,_,ha⟩:=List.mem_flatMap.1 (show u ∈ l.flatMap tenC from hu)
   simp only[tenC,List.mem_cons,List.not_mem_nil,or_false] at ha
   rcases ha with rfl | rfl | rfl | rfl | rfl | rfl | rfl<;>rfl
  go_enter Tryz.func45,Tryz.ntmps45
  go_wp2_with (at_builtin;refine wpList_append_rd _ rfl _ _ _ rfl w.heap.size 90 ii _ 7 56 Tryz.underlying28 hii hi0 hi1 hi2 rfl (by omega) _ 0 [] rfl h0 _ (some ad) l.length cp (flat tenC l) rfl hlen h1 hone ?c1 ?c2 ?c3 ?_)
  case c1=>unfold maxLen;omega
  case c2=>omega
  intro v' w2 hown hg hat
  (try rw[Nat.zero_add] at hown);(try rw[List.nil_append] at hown)
  obtain⟨A',cp',rfl⟩:=own_form hown
  have HO:=Lib.hid hown
  have HB:=Lib.hid (hb0.grown hg (by simp) (fun k hk=>by injection hk with hk;rw[← hk];exact Nat.le_refl _))
  clear hown hg hat h0 hb0 hq
  go_wp2
  go_ret
  exact⟨A',cp',rfl,HO.out,HB.out⟩
def ctCkTen:CT:=fun vs mem nx K=>∃ v l,vs=[v]∧SrcR mem 7 tenC default (l:List Ten) v∧l.length≤100∧∀ cap2,K (slc nx l.length cap2) ((nx,rowOfL 500000 7 tenC default l)::mem) (nx+1)
theorem ckTenOk:CSound Tryz.prog 45 ctCkTen:=⟨by kernel_rfl,fun {C ρ fr mem nx a w vs K} hc hs hv=>by
 obtain⟨v,l,rfl,hr,hl,hK⟩:=hc
 obtain⟨A0,c0,e0,hr⟩:=hs.srcR (enc:=tenC) (sz:=7) (fun _=>rfl) (by omega) hr
 have e1:([v].map (den ρ)).toArray=#[.slice A0 l.length c0]:=by rw[List.map_cons,e0];rfl
 rw[e1]
 refine (ckTen_any A0 c0 l w hl hr).mono ?_
 rintro e w' ⟨A,cp,rfl,ho,hb⟩
 have hrd:=Rd.of_own ho
 obtain⟨q1,-⟩:=(hs.later hb).addList hs.frB hs.rest.size (enc:=tenC) (sz:=7) (fun _=>rfl) (by omega) ckTenPl default (t:=500000) rfl hrd
 have q2:setPl ρ nx ⟨A,7,l.length,false,noSub⟩ nx=⟨A,7,l.length,false,noSub⟩:=setPl_same _ _ _
 refine⟨slc nx l.length cp,_,_,_,?_,hK cp,q1,?_,fun i hi=>setPl_lt _ _ hi,by omega⟩
 ·show Ending.returned (.slice A l.length cp)=.returned (.slice (setPl ρ nx ⟨A,7,l.length,false,noSub⟩ nx).A l.length cp)
  rw[q2]
 ·exact⟨show nx<nx+1 by omega,by rw[q2]⟩⟩
theorem ckVerInfo:(Tryz.prog.info? 88).map (fun i=>(i.zero,i.size,i.bytes))=some (some (.agg #[.int .i64 0,.int .i64 0]),2,16):=by kernel_rfl
theorem ckVerNil (n cp:Nat) (w:World):Sem.run Tryz.prog (binOp BinOp.eql 29 (.slice none n cp) (.slice none 0 0)) w=.ok (.bool true) w:=by kernel_rfl
theorem ckVerSome (ad:Addr) (n cp:Nat) (w:World):Sem.run Tryz.prog (binOp BinOp.eql 29 (.slice (some ad) n cp) (.slice none 0 0)) w=.ok (.bool false) w:=by kernel_rfl
theorem ckVerPl (x:(Int×Int)):∀ v ∈ pairC x,plain1 v:=by
 intro v hv
 simp only[pairC,List.mem_cons,List.not_mem_nil,or_false] at hv
 rcases hv with rfl | rfl<;>trivial
set_option maxHeartbeats 2000000 in
set_option maxRecDepth 100000 in
theorem ckVer_any (A:Option Addr) (cp:Nat) (l:List (Int×Int)) (w:World) (hl:l.length≤100) (hr:Rd w (·<w.heap.size) A (flat pairC l)) :
  Calls Tryz.prog 46 #[.slice A l.length cp] w (RowPostK 88 2 w l.length (flat pairC l)):=by
 obtain⟨ii,hii,hi0,hi1,hi2⟩:=info_parts ckVerInfo
 have hlen:=flat_length (enc:=pairC) (sz:=2) (fun _=>rfl) l
 cases A with
 | none=>
  have h0:l=[]:=by
   cases l with
   | nil=>rfl
   | cons a r=>
    obtain⟨b,o,hA,_⟩:=hr (by simp[flat,pairC])
    cases hA
  subst h0
  go_enter Tryz.func46,Tryz.ntmps46
  have hq:=ckVerNil 0 cp w
  go_wp2
  go_ret
  exact⟨none,0,rfl,World.ownsRow_nil _ _ _ _,Below.refl _ _⟩
 | some ad=>
  have hq:=ckVerSome ad l.length cp w
  have h0:=World.ownsRow_lit (base:=w.heap.size) (e:=88) (size:=2) w #[] 0 (Nat.le_refl _) (by unfold maxLen;omega) rfl
  have hb0:=(Below.refl w.heap.size w).alloc (Nat.le_refl _) (.cells #[] 88)
  have h1:=(hr.alloc (.cells #[] 88))
  have hone:∀ u ∈ flat pairC l,u.oneCell'=true:=by
   intro u hu
   obtain⟨a,_,ha⟩:=List.mem_flatMap.1 (show u ∈ l.flatMap pairC from hu)
   simp only[pairC,List.mem_cons,List.not_mem_nil,or_false] at ha
   rcases ha with rfl | rfl<;>rfl
  go_enter Tryz.func46,Tryz.ntmps46
  go_wp2_with (at_builtin;refine wpList_append_rd _ rfl _ _ _ rfl w.heap.size 88 ii _ 2 16 Tryz.underlying29 hii hi0 hi1 hi2 rfl (by omega) _ 0 [] rfl h0 _ (some ad) l.length cp (flat pairC l) rfl hlen h1 hone ?c1 ?c2 ?c3 ?_)
  case c1=>unfold maxLen;omega
  case c2=>omega
  intro v' w2 hown hg hat
  (try rw[Nat.zero_add] at hown);(try rw[List.nil_append] at hown)
  obtain⟨A',cp',rfl⟩:=own_form hown
  have HO:=Lib.hid hown
  have HB:=Lib.hid (hb0.grown hg (by simp) (fun k hk=>by injection hk with hk;rw[← hk];exact Nat.le_refl _))
  clear hown hg hat h0 hb0 hq
  go_wp2
  go_ret
  exact⟨A',cp',rfl,HO.out,HB.out⟩
def ctCkVer:CT:=fun vs mem nx K=>∃ v l,vs=[v]∧SrcR mem 2 pairC (0,0) (l:List (Int×Int)) v∧l.length≤100∧∀ cap2,K (slc nx l.length cap2) ((nx,rowOfL 500000 2 pairC (0,0) l)::mem) (nx+1)
theorem ckVerOk:CSound Tryz.prog 46 ctCkVer:=⟨by kernel_rfl,fun {C ρ fr mem nx a w vs K} hc hs hv=>by
 obtain⟨v,l,rfl,hr,hl,hK⟩:=hc
 obtain⟨A0,c0,e0,hr⟩:=hs.srcR (enc:=pairC) (sz:=2) (fun _=>rfl) (by omega) hr
 have e1:([v].map (den ρ)).toArray=#[.slice A0 l.length c0]:=by rw[List.map_cons,e0];rfl
 rw[e1]
 refine (ckVer_any A0 c0 l w hl hr).mono ?_
 rintro e w' ⟨A,cp,rfl,ho,hb⟩
 have hrd:=Rd.of_own ho
 obtain⟨q1,-⟩:=(hs.later hb).addList hs.frB hs.rest.size (enc:=pairC) (sz:=2) (fun _=>rfl) (by omega) ckVerPl (0,0) (t:=500000) rfl hrd
 have q2:setPl ρ nx ⟨A,2,l.length,false,noSub⟩ nx=⟨A,2,l.length,false,noSub⟩:=setPl_same _ _ _
 refine⟨slc nx l.length cp,_,_,_,?_,hK cp,q1,?_,fun i hi=>setPl_lt _ _ hi,by omega⟩
 ·show Ending.returned (.slice A l.length cp)=.returned (.slice (setPl ρ nx ⟨A,2,l.length,false,noSub⟩ nx).A l.length cp)
  rw[q2]
 ·exact⟨show nx<nx+1 by omega,by rw[q2]⟩⟩
theorem ckIntInfo:(Tryz.prog.info? 3).map (fun i=>(i.zero,i.size,i.bytes))=some (some (.int .i64 0),1,8):=by kernel_rfl
theorem ckIntNil (n cp:Nat) (w:World):Sem.run Tryz.prog (binOp BinOp.eql 22 (.slice none n cp) (.slice none 0 0)) w=.ok (.bool true) w:=by kernel_rfl
theorem ckIntSome (ad:Addr) (n cp:Nat) (w:World):Sem.run Tryz.prog (binOp BinOp.eql 22 (.slice (some ad) n cp) (.slice none 0 0)) w=.ok (.bool false) w:=by kernel_rfl
theorem ckIntPl (x:Int):∀ v ∈ intC x,plain1 v:=by
 intro v hv
 simp only[intC,List.mem_cons,List.not_mem_nil,or_false] at hv
 subst hv;trivial
set_option maxHeartbeats 2000000 in
set_option maxRecDepth 100000 in
theorem ckInt_any (A:Option Addr) (cp:Nat) (l:List Int) (w:World) (hl:l.length≤100) (hr:Rd w (·<w.heap.size) A (flat intC l)) :
  Calls Tryz.prog 47 #[.slice A l.length cp] w (RowPostK 3 1 w l.length (flat intC l)):=by
 obtain⟨ii,hii,hi0,hi1,hi2⟩:=info_parts ckIntInfo
 have hlen:=flat_length (enc:=intC) (sz:=1) (fun _=>rfl) l
 cases A with
 | none=>
  have h0:l=[]:=by
   cases l with
   | nil=>rfl
   | cons a r=>
    obtain⟨b,o,hA,_⟩:=hr (by simp[flat,intC])
    cases hA
  subst h0
  go_enter Tryz.func47,Tryz.ntmps47
  have hq:=ckIntNil 0 cp w
  go_wp2
  go_ret
  exact⟨none,0,rfl,World.ownsRow_nil _ _ _ _,Below.refl _ _⟩
 | some ad=>
  have hq:=ckIntSome ad l.length cp w
  have h0:=World.ownsRow_lit (base:=w.heap.size) (e:=3) (size:=1) w #[] 0 (Nat.le_refl _) (by unfold maxLen;omega) rfl
  have hb0:=(Below.refl w.heap.size w).alloc (Nat.le_refl _) (.cells #[] 3)
  have h1:=(hr.alloc (.cells #[] 3))
  have hone:∀ u ∈ flat intC l,u.oneCell'=true:=by
   intro u hu
   obtain⟨a,_,ha⟩:=List.mem_flatMap.1 (show u ∈ l.flatMap intC from hu)
   simp only[intC,List.mem_cons,List.not_mem_nil,or_false] at ha
   subst ha;rfl
  go_enter Tryz.func47,Tryz.ntmps47
  go_wp2_with (at_builtin;refine wpList_append_rd _ rfl _ _ _ rfl w.heap.size 3 ii _ 1 8 Tryz.underlying22 hii hi0 hi1 hi2 rfl (by omega) _ 0 [] rfl h0 _ (some ad) l.length cp (flat intC l) rfl hlen h1 hone ?c1 ?c2 ?c3 ?_)
  case c1=>unfold maxLen;omega
  case c2=>omega
  intro v' w2 hown hg hat
  (try rw[Nat.zero_add] at hown);(try rw[List.nil_append] at hown)
  obtain⟨A',cp',rfl⟩:=own_form hown
  have HO:=Lib.hid hown
  have HB:=Lib.hid (hb0.grown hg (by simp) (fun k hk=>by injection hk with hk;rw[← hk];exact Nat.le_refl _))
  clear hown hg hat h0 hb0 hq
  go_wp2
  go_ret
  exact⟨A',cp',rfl,HO.out,HB.out⟩
def ctCkInt:CT:=fun vs mem nx K=>∃ v l,vs=[v]∧SrcR mem 1 intC 0 (l:List Int) v∧l.length≤100∧∀ cap2,K (slc nx l.length cap2) ((nx,rowOfL 500000 1 intC 0 l)::mem) (nx+1)
theorem ckIntOk:CSound Tryz.prog 47 ctCkInt:=⟨by kernel_rfl,fun {C ρ fr mem nx a w vs K} hc hs hv=>by
 obtain⟨v,l,rfl,hr,hl,hK⟩:=hc
 obtain⟨A0,c0,e0,hr⟩:=hs.srcR (enc:=intC) (sz:=1) (fun _=>rfl) (by omega) hr
 have e1:([v].map (den ρ)).toArray=#[.slice A0 l.length c0]:=by rw[List.map_cons,e0];rfl
 rw[e1]
 refine (ckInt_any A0 c0 l w hl hr).mono ?_
 rintro e w' ⟨A,cp,rfl,ho,hb⟩
 have hrd:=Rd.of_own ho
 obtain⟨q1,-⟩:=(hs.later hb).addList hs.frB hs.rest.size (enc:=intC) (sz:=1) (fun _=>rfl) (by omega) ckIntPl 0 (t:=500000) rfl hrd
 have q2:setPl ρ nx ⟨A,1,l.length,false,noSub⟩ nx=⟨A,1,l.length,false,noSub⟩:=setPl_same _ _ _
 refine⟨slc nx l.length cp,_,_,_,?_,hK cp,q1,?_,fun i hi=>setPl_lt _ _ hi,by omega⟩
 ·show Ending.returned (.slice A l.length cp)=.returned (.slice (setPl ρ nx ⟨A,1,l.length,false,noSub⟩ nx).A l.length cp)
  rw[q2]
 ·exact⟨show nx<nx+1 by omega,by rw[q2]⟩⟩
theorem ckRouteInfo:(Tryz.prog.info? 92).map (fun i=>(i.zero,i.size,i.bytes))=some (some (.agg #[.int .i64 0,.int .i64 0]),2,16):=by kernel_rfl
theorem ckRouteNil (n cp:Nat) (w:World):Sem.run Tryz.prog (binOp BinOp.eql 109 (.slice none n cp) (.slice none 0 0)) w=.ok (.bool true) w:=by kernel_rfl
theorem ckRouteSome (ad:Addr) (n cp:Nat) (w:World):Sem.run Tryz.prog (binOp BinOp.eql 109 (.slice (some ad) n cp) (.slice none 0 0)) w=.ok (.bool false) w:=by kernel_rfl
theorem ckRoutePl (x:(Int×Int)):∀ v ∈ pairC x,plain1 v:=by
 intro v hv
 simp only[pairC,List.mem_cons,List.not_mem_nil,or_false] at hv
 rcases hv with rfl | rfl<;>trivial
set_option maxHeartbeats 2000000 in
set_option maxRecDepth 100000 in
theorem ckRoute_any (A:Option Addr) (cp:Nat) (l:List (Int×Int)) (w:World) (hl:l.length≤100) (hr:Rd w (·<w.heap.size) A (flat pairC l)) :
  Calls Tryz.prog 61 #[.slice A l.length cp] w (RowPostK 92 2 w l.length (flat pairC l)):=by
 obtain⟨ii,hii,hi0,hi1,hi2⟩:=info_parts ckRouteInfo
 have hlen:=flat_length (enc:=pairC) (sz:=2) (fun _=>rfl) l
 cases A with
 | none=>
  have h0:l=[]:=by
   cases l with
   | nil=>rfl
   | cons a r=>
    obtain⟨b,o,hA,_⟩:=hr (by simp[flat,pairC])
    cases hA
  subst h0
  go_enter Tryz.func61,Tryz.ntmps61
  have hq:=ckRouteNil 0 cp w
  go_wp2
  go_ret
  exact⟨none,0,rfl,World.ownsRow_nil _ _ _ _,Below.refl _ _⟩
 | some ad=>
  have hq:=ckRouteSome ad l.length cp w
  have h0:=World.ownsRow_lit (base:=w.heap.size) (e:=92) (size:=2) w #[] 0 (Nat.le_refl _) (by unfold maxLen;omega) rfl
  have hb0:=(Below.refl w.heap.size w).alloc (Nat.le_refl _) (.cells #[] 92)
  have h1:=(hr.alloc (.cells #[] 92))
  have hone:∀ u ∈ flat pairC l,u.oneCell'=true:=by
   intro u hu
   obtain⟨a,_,ha⟩:=List.mem_flatMap.1 (show u ∈ l.flatMap pairC from hu)
   simp only[pairC,List.mem_cons,List.not_mem_nil,or_false] at ha
   rcases ha with rfl | rfl<;>rfl
  go_enter Tryz.func61,Tryz.ntmps61
  go_wp2_with (at_builtin;refine wpList_append_rd _ rfl _ _ _ rfl w.heap.size 92 ii _ 2 16 Tryz.underlying109 hii hi0 hi1 hi2 rfl (by omega) _ 0 [] rfl h0 _ (some ad) l.length cp (flat pairC l) rfl hlen h1 hone ?c1 ?c2 ?c3 ?_)
  case c1=>unfold maxLen;omega
  case c2=>omega
  intro v' w2 hown hg hat
  (try rw[Nat.zero_add] at hown);(try rw[List.nil_append] at hown)
  obtain⟨A',cp',rfl⟩:=own_form hown
  have HO:=Lib.hid hown
  have HB:=Lib.hid (hb0.grown hg (by simp) (fun k hk=>by injection hk with hk;rw[← hk];exact Nat.le_refl _))
  clear hown hg hat h0 hb0 hq
  go_wp2
  go_ret
  exact⟨A',cp',rfl,HO.out,HB.out⟩
def ctCkRoute:CT:=fun vs mem nx K=>∃ v l,vs=[v]∧SrcR mem 2 pairC (0,0) (l:List (Int×Int)) v∧l.length≤100∧∀ cap2,K (slc nx l.length cap2) ((nx,rowOfL 500000 2 pairC (0,0) l)::mem) (nx+1)
theorem ckRouteOk:CSound Tryz.prog 61 ctCkRoute:=⟨by kernel_rfl,fun {C ρ fr mem nx a w vs K} hc hs hv=>by
 obtain⟨v,l,rfl,hr,hl,hK⟩:=hc
 obtain⟨A0,c0,e0,hr⟩:=hs.srcR (enc:=pairC) (sz:=2) (fun _=>rfl) (by omega) hr
 have e1:([v].map (den ρ)).toArray=#[.slice A0 l.length c0]:=by rw[List.map_cons,e0];rfl
 rw[e1]
 refine (ckRoute_any A0 c0 l w hl hr).mono ?_
 rintro e w' ⟨A,cp,rfl,ho,hb⟩
 have hrd:=Rd.of_own ho
 obtain⟨q1,-⟩:=(hs.later hb).addList hs.frB hs.rest.size (enc:=pairC) (sz:=2) (fun _=>rfl) (by omega) ckRoutePl (0,0) (t:=500000) rfl hrd
 have q2:setPl ρ nx ⟨A,2,l.length,false,noSub⟩ nx=⟨A,2,l.length,false,noSub⟩:=setPl_same _ _ _
 refine⟨slc nx l.length cp,_,_,_,?_,hK cp,q1,?_,fun i hi=>setPl_lt _ _ hi,by omega⟩
 ·show Ending.returned (.slice A l.length cp)=.returned (.slice (setPl ρ nx ⟨A,2,l.length,false,noSub⟩ nx).A l.length cp)
  rw[q2]
 ·exact⟨show nx<nx+1 by omega,by rw[q2]⟩⟩
/-! maps.DeleteFunc of a map without entries. -/
theorem mapU:Tryz.prog.underlying 108=some (.map 3 92):=by kernel_rfl
/-! digest.Chain,ref02.Chain -/
def xorI (a b:Int):Int:=IntKind.u64.wrap (BitVec.ofInt IntKind.u64.bits a ^^^ BitVec.ofInt IntKind.u64.bits b).toNat
def mixI (h n:Int):Int:=xorI (IntKind.u64.wrap (xorI h (IntKind.u64.wrap n) * 1099511628211)) ((IntKind.u64.wrap (xorI h (IntKind.u64.wrap n) * 1099511628211)).fdiv (2 ^ min (29:Int).toNat IntKind.u64.bits))
def stepI (h x:Int):Int:=mixI h (IntKind.i64.wrap x)
def chainI (key parent:Int) (l:List Int):Int:=mixI (l.foldl stepI (mixI (mixI 14695981039346656037 key) (IntKind.i64.wrap parent))) l.length
theorem fold_take {l:List Int} {h0:Int} {i:Int} (h:0≤i∧i<l.length):(l.take (i+1).toNat).foldl stepI h0=stepI ((l.take i.toNat).foldl stepI h0) (l.getD i.toNat 0):=by
 rw[show (i+1).toNat=i.toNat+1 by omega,List.take_add_one,List.getElem?_eq_getElem (by omega),List.foldl_append,List.getD_eq_getElem?_getD,List.getElem?_eq_getElem (by omega)]
 rfl
abbrev ctMixP:CT:=ctInl ttA [] [] Tryz.f187 (bodyOf Tryz.f187)
abbrev mxdF:FT:=[(187,ctMixP)]
abbrev mxdD:List (Nat×DQ):=[(9000000,{ k:=0,L:=[187] }),(2000002,{ k:=0,L:=[0],sl:=[1,7,8] })]
def chPF:FT:=[(187,ctMixP),(186,ctInl ttA mxdF mxdD Tryz.f186 (bodyOf Tryz.f186))]
def chPD:List (Nat×DQ):=[(9000000,{ k:=0,L:=[187,186] })]
theorem mixPOk {I:List Nat} (hI:I.contains 187=true):CSoundI Tryz.prog I 187 ctMixP:=inl_ok ttAok fti_nil mixed (by kernel_rfl) Tryz.func187 rfl (by kernel_rfl) hI
theorem chPFok:FTokI Tryz.prog chPF (inlOf chPD):=fti_cons (mixPOk (by decide)) (fti_cons (inl_ok ttAok (fti_cons (mixPOk (by decide)) fti_nil) mixed (by kernel_rfl) Tryz.func186 rfl (by kernel_rfl) (by decide)) fti_nil)
abbrev ctMixR:CT:=ctInl ttA [] [] Tryz.f131 (bodyOf Tryz.f131)
abbrev allF:FT:=[(131,ctMixR)]
abbrev allD:List (Nat×DQ):=[(9000000,{ k:=0,L:=[131] }),(2000002,{ k:=0,L:=[0],sl:=[1] })]
def chRF:FT:=[(131,ctMixR),(130,ctInl ttA allF allD Tryz.f130 (bodyOf Tryz.f130))]
def chRD:List (Nat×DQ):=[(9000000,{ k:=0,L:=[131,130] })]
theorem mixROk {I:List Nat} (hI:I.contains 131=true):CSoundI Tryz.prog I 131 ctMixR:=inl_ok ttAok fti_nil mixed (by kernel_rfl) Tryz.func131 rfl (by kernel_rfl) hI
theorem chRFok:FTokI Tryz.prog chRF (inlOf chRD):=fti_cons (mixROk (by decide)) (fti_cons (inl_ok ttAok (fti_cons (mixROk (by decide)) fti_nil) mixed (by kernel_rfl) Tryz.func130 rfl (by kernel_rfl) (by decide)) fti_nil)
set_option maxRecDepth 100000 in
set_option maxHeartbeats 4000000 in
theorem chainP_sx (cap:Nat) (l:List Int) (key parent:Int) (hl:l.length≤1000000) :
  sx ttA chPF chPD (bodyOf Tryz.f170) (argF 0 [.int .i64 key,.int .u64 parent,slc 0 l.length cap]) [(0,rowOfL 3 1 u8C 0 l)] 1 (endx ttA Tryz.f170.results.toList fun v _ _=>v=.int .u64 (chainI key parent l)):=by
 refine⟨by decide,?_⟩
 refine⟨by decide,?_⟩
 refine⟨Int×Int,fun q=>match q with | (i,h)=>[(9,.int .i64 i),(0,.int .u64 h)],fun _=>[],fun q=>match q with | (i,h)=>(0≤i∧i≤l.length)∧h=(l.take i.toNat).foldl stepI (mixI (mixI 14695981039346656037 key) (IntKind.i64.wrap parent)),fun q=>match q with | (i,h)=>((l.length:Int)-i).toNat,⟨(0,mixI (mixI 14695981039346656037 key) (IntKind.i64.wrap parent)),⟨by omega,rfl⟩,kp_,kp_⟩,?_⟩
 rintro⟨i,h⟩ ⟨hi,hh⟩
 refine⟨⟨rfl,rfl⟩,?_⟩
 refine⟨fun hlt=>?_,fun hge=>?_⟩
 ·have hlt2:i<(l.length:Int):=of_decide_eq_true hlt
  refine⟨⟨Nat.le_refl _,hi.1,hlt2⟩,?_⟩
  refine⟨by decide,?_⟩
  refine⟨(_,stepI h (l.getD i.toNat 0)),?_,kp_,kp_⟩
  dsimp only
  rw[wrapi (n:=i+1) (by omega)]
  refine⟨⟨by omega,?_⟩,by omega⟩
  rw[fold_take ⟨hi.1,hlt2⟩,hh]
 ·have hge2:¬ i<(l.length:Int):=of_decide_eq_false hge
  obtain rfl:i=l.length:=by omega
  rw[Int.toNat_natCast,List.take_length] at hh
  subst hh
  refine⟨by decide,?_⟩
  rfl
set_option maxRecDepth 100000 in
set_option maxHeartbeats 4000000 in
theorem chainR_sx (cap:Nat) (l:List Int) (key parent:Int) (hl:l.length≤1000000) :
  sx ttA chRF chRD (bodyOf Tryz.f89) (argF 0 [.int .i64 key,.int .u64 parent,slc 0 l.length cap]) [(0,rowOfL 3 1 u8C 0 l)] 1 (endx ttA Tryz.f89.results.toList fun v _ _=>v=.int .u64 (chainI key parent l)):=by
 refine⟨by decide,?_⟩
 refine⟨by decide,?_⟩
 refine⟨Int×Int,fun q=>match q with | (i,h)=>[(5,.int .i64 i),(0,.int .u64 h)],fun _=>[],fun q=>match q with | (i,h)=>(0≤i∧i≤l.length)∧h=(l.take i.toNat).foldl stepI (mixI (mixI 14695981039346656037 key) (IntKind.i64.wrap parent)),fun q=>match q with | (i,h)=>((l.length:Int)-i).toNat,⟨(0,mixI (mixI 14695981039346656037 key) (IntKind.i64.wrap parent)),⟨by omega,rfl⟩,kp_,kp_⟩,?_⟩
 rintro⟨i,h⟩ ⟨hi,hh⟩
 refine⟨⟨rfl,rfl⟩,?_⟩
 refine⟨fun hlt=>?_,fun hge=>?_⟩
 ·have hlt2:i<(l.length:Int):=of_decide_eq_true hlt
  refine⟨⟨Nat.le_refl _,hi.1,hlt2⟩,?_⟩
  refine⟨by decide,?_⟩
  refine⟨(_,stepI h (l.getD i.toNat 0)),?_,kp_,kp_⟩
  dsimp only
  rw[wrapi (n:=i+1) (by omega)]
  refine⟨⟨by omega,?_⟩,by omega⟩
  rw[fold_take ⟨hi.1,hlt2⟩,hh]
 ·have hge2:¬ i<(l.length:Int):=of_decide_eq_false hge
  obtain rfl:i=l.length:=by omega
  rw[Int.toNat_natCast,List.take_length] at hh
  subst hh
  refine⟨by decide,?_⟩
  rfl
theorem chainP_calls (A:Option Addr) (cap:Nat) (l:List Int) (key parent:Int) (w:World) (hl:l.length≤1000000) (hr:Rd w (·<w.heap.size) A (flat u8C l)):Calls Tryz.prog 170 #[.int .i64 key,.int .u64 parent,.slice A l.length cap] w fun e w'=>e=.returned (.int .u64 (chainI key parent l))∧Below w.heap.size w w':=by
 have:=row1_calls (enc:=u8C) (sz:=1) (fun _=>rfl) (by omega) u8C_plain 0 ttAok chPFok Tryz.func170 rfl (D:=chPD) (by kernel_rfl) (vs:=[.int .i64 key,.int .u64 parent,slc 0 l.length cap]) rfl A l w hr (fun v hv=>by
  simp only[List.mem_cons,List.not_mem_nil,or_false] at hv
  rcases hv with rfl | rfl | rfl
  ·trivial
  ·trivial
  ·exact⟨Nat.zero_lt_one,rfl⟩) (chainP_sx cap l key parent hl)
 have e0:([.int .i64 key,.int .u64 parent,slc 0 l.length cap].map (den fun _=>⟨A,1,l.length,false,noSub⟩)).toArray=#[.int .i64 key,.int .u64 parent,.slice A l.length cap]:=by simp[den,den2,den1,dA_whole,dS_whole]
 rw[e0] at this
 refine this.mono ?_
 rintro e w' ⟨v,mem',nx',ρ',rfl,rfl,hv,hm',hb⟩
 exact⟨rfl,hb⟩
def ctChainP:CT:=fun vs mem nx K=>∃ v l key parent,vs=[.int .i64 key,.int .u64 parent,v]∧SrcR mem 1 u8C 0 (l:List Int) v∧l.length≤1000000∧K (.int .u64 (chainI key parent l)) mem nx
theorem chainPOk:CSound Tryz.prog 170 ctChainP:=⟨by kernel_rfl,fun {C ρ fr mem nx a w vs K} hc hs hv=>by
 obtain⟨v,l,key,parent,rfl,hsrc,hl,hK⟩:=hc
 obtain⟨A,cap,e0,hr⟩:=hs.srcR (enc:=u8C) (sz:=1) (fun _=>rfl) (by omega) hsrc
 have e1:([.int .i64 key,.int .u64 parent,v].map (den ρ)).toArray=#[.int .i64 key,.int .u64 parent,.slice A l.length cap]:=by rw[List.map_cons,List.map_cons,List.map_cons,e0];rfl
 rw[e1]
 refine (chainP_calls A cap l key parent w hl hr).mono ?_
 rintro e w' ⟨rfl,hb⟩
 exact⟨_,mem,nx,ρ,rfl,hK,hs.later hb,trivial,ExtS.refl _ _⟩⟩
theorem chainR_calls (A:Option Addr) (cap:Nat) (l:List Int) (key parent:Int) (w:World) (hl:l.length≤1000000) (hr:Rd w (·<w.heap.size) A (flat u8C l)):Calls Tryz.prog 89 #[.int .i64 key,.int .u64 parent,.slice A l.length cap] w fun e w'=>e=.returned (.int .u64 (chainI key parent l))∧Below w.heap.size w w':=by
 have:=row1_calls (enc:=u8C) (sz:=1) (fun _=>rfl) (by omega) u8C_plain 0 ttAok chRFok Tryz.func89 rfl (D:=chRD) (by kernel_rfl) (vs:=[.int .i64 key,.int .u64 parent,slc 0 l.length cap]) rfl A l w hr (fun v hv=>by
  simp only[List.mem_cons,List.not_mem_nil,or_false] at hv
  rcases hv with rfl | rfl | rfl
  ·trivial
  ·trivial
  ·exact⟨Nat.zero_lt_one,rfl⟩) (chainR_sx cap l key parent hl)
 have e0:([.int .i64 key,.int .u64 parent,slc 0 l.length cap].map (den fun _=>⟨A,1,l.length,false,noSub⟩)).toArray=#[.int .i64 key,.int .u64 parent,.slice A l.length cap]:=by simp[den,den2,den1,dA_whole,dS_whole]
 rw[e0] at this
 refine this.mono ?_
 rintro e w' ⟨v,mem',nx',ρ',rfl,rfl,hv,hm',hb⟩
 exact⟨rfl,hb⟩
def ctChainR:CT:=fun vs mem nx K=>∃ v l key parent,vs=[.int .i64 key,.int .u64 parent,v]∧SrcR mem 1 u8C 0 (l:List Int) v∧l.length≤1000000∧K (.int .u64 (chainI key parent l)) mem nx
theorem chainROk:CSound Tryz.prog 89 ctChainR:=⟨by kernel_rfl,fun {C ρ fr mem nx a w vs K} hc hs hv=>by
 obtain⟨v,l,key,parent,rfl,hsrc,hl,hK⟩:=hc
 obtain⟨A,cap,e0,hr⟩:=hs.srcR (enc:=u8C) (sz:=1) (fun _=>rfl) (by omega) hsrc
 have e1:([.int .i64 key,.int .u64 parent,v].map (den ρ)).toArray=#[.int .i64 key,.int .u64 parent,.slice A l.length cap]:=by rw[List.map_cons,List.map_cons,List.map_cons,e0];rfl
 rw[e1]
 refine (chainR_calls A cap l key parent w hl hr).mono ?_
 rintro e w' ⟨rfl,hb⟩
 exact⟨_,mem,nx,ρ,rfl,hK,hs.later hb,trivial,ExtS.refl _ _⟩⟩
end Go.Proofs.YtchhdflealgkaaaGreat
