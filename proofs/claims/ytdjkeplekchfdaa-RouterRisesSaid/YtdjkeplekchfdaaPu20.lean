import Derived.Test.YtdjkeplekchfdaaPu18
import Derived.OwnWalk
import Derived.Maps.RangeRun
namespace Go.Proofs.Ytdjkeplekchfdaa
open Go.RowKit
set_option linter.unusedSimpArgs false
set_option linter.unusedVariables false
/-! slices.Clone of lists of whatever kind. -/
def RowPostK (T:TypeId) (size:Nat) (w:World) (n:Nat) (xs:List Value) (e:Ending) (w':World):Prop:=
 ∃ (A:Option Addr) (cp:Nat),e=.returned (.slice A n cp)∧w'.ownsRow w.heap.size T size (.slice A n cp) n xs∧Below w.heap.size w w'
theorem ckZoneInfo:(Try.prog.info? 89).map (fun i=>(i.zero,i.size,i.bytes))=some (some (.agg #[.int .i64 0]),1,8):=by kernel_rfl
theorem ckZoneNil (n cp:Nat) (w:World):Sem.run Try.prog (binOp BinOp.eql 22 (.slice none n cp) (.slice none 0 0)) w=.ok (.bool true) w:=by kernel_rfl
theorem ckZoneSome (ad:Addr) (n cp:Nat) (w:World):Sem.run Try.prog (binOp BinOp.eql 22 (.slice (some ad) n cp) (.slice none 0 0)) w=.ok (.bool false) w:=by kernel_rfl
theorem ckZonePl (x:Int):∀ v ∈ intC x,plain1 v:=by
 intro v hv
 simp only[intC,List.mem_cons,List.not_mem_nil,or_false] at hv
 subst hv;trivial
set_option maxHeartbeats 2000000 in
set_option maxRecDepth 100000 in
theorem ckZone_any (A:Option Addr) (cp:Nat) (l:List Int) (w:World) (hl:l.length≤100) (hr:Rd w (·<w.heap.size) A (flat intC l)) :
  Calls Try.prog 52 #[.slice A l.length cp] w (RowPostK 89 1 w l.length (flat intC l)):=by
 obtain⟨ii,hii,hi0,hi1,hi2⟩:=info_parts ckZoneInfo
 have hlen:=flat_length (enc:=intC) (sz:=1) (fun _=>rfl) l
 cases A with
 | none=>
  have h0:l=[]:=by
   cases l with
   | nil=>rfl
   | cons a r=>
    obtain⟨b,o,hA,_⟩:=hr (by simp[flat,intC])
    cases hA
  subst h0
  go_enter Try.func52,Try.ntmps52
  have hq:=ckZoneNil 0 cp w
  go_wp2
  go_ret
  exact⟨none,0,rfl,World.ownsRow_nil _ _ _ _,Below.refl _ _⟩
 | some ad=>
  have hq:=ckZoneSome ad l.length cp w
  have h0:=World.ownsRow_lit (base:=w.heap.size) (e:=89) (size:=1) w #[] 0 (Nat.le_refl _) (by unfold maxLen;omega) rfl
  have hb0:=(Below.refl w.heap.size w).alloc (Nat.le_refl _) (.cells #[] 89)
  have h1:=(hr.alloc (.cells #[] 89))
  have hone:∀ u ∈ flat intC l,u.oneCell'=true:=by
   intro u hu
   obtain⟨a,_,ha⟩:=List.mem_flatMap.1 (show u ∈ l.flatMap intC from hu)
   simp only[intC,List.mem_cons,List.not_mem_nil,or_false] at ha
   subst ha;rfl
  go_enter Try.func52,Try.ntmps52
  go_wp2_with (at_builtin;refine wpList_append_rd _ rfl _ _ _ rfl w.heap.size 89 ii _ 1 8 Try.underlying22 hii hi0 hi1 hi2 rfl (by omega) _ 0 [] rfl h0 _ (some ad) l.length cp (flat intC l) rfl hlen h1 hone ?c1 ?c2 ?c3 ?_)
  case c1=>unfold maxLen;omega
  case c2=>omega
  intro v' w2 hown hg hat
  (try rw[Nat.zero_add] at hown);(try rw[List.nil_append] at hown)
  obtain⟨A',cp',rfl⟩:=own_form hown
  have HO:=Lib.hid hown
  have HB:=Lib.hid (hb0.grown hg (by simp) (fun k hk=>by injection hk with hk;rw[← hk];exact Nat.le_refl _))
  clear hown hg hat h0 hb0 hq
  go_wp2
  go_ret
  exact⟨A',cp',rfl,HO.out,HB.out⟩
def ctCkZone:CT:=fun vs mem nx K=>∃ v l,vs=[v]∧SrcR mem 1 intC 0 (l:List Int) v∧l.length≤100∧∀ cap2,K (slc nx l.length cap2) ((nx,rowOfL 500000 1 intC 0 l)::mem) (nx+1)
theorem ckZoneOk:CSound Try.prog 52 ctCkZone:=⟨by kernel_rfl,fun {C ρ fr mem nx a w vs K} hc hs hv=>by
 obtain⟨v,l,rfl,hr,hl,hK⟩:=hc
 obtain⟨A0,c0,e0,hr⟩:=hs.srcR (enc:=intC) (sz:=1) (fun _=>rfl) (by omega) hr
 have e1:([v].map (den ρ)).toArray=#[.slice A0 l.length c0]:=by rw[List.map_cons,e0];rfl
 rw[e1]
 refine (ckZone_any A0 c0 l w hl hr).mono ?_
 rintro e w' ⟨A,cp,rfl,ho,hb⟩
 have hrd:=Rd.of_own ho
 obtain⟨q1,-⟩:=(hs.later hb).addList hs.frB hs.rest.size (enc:=intC) (sz:=1) (fun _=>rfl) (by omega) ckZonePl 0 (t:=500000) rfl hrd
 have q2:setPl ρ nx ⟨A,1,l.length,false,noSub⟩ nx=⟨A,1,l.length,false,noSub⟩:=setPl_same _ _ _
 refine⟨slc nx l.length cp,_,_,_,?_,hK cp,q1,?_,fun i hi=>setPl_lt _ _ hi,by omega⟩
 ·show Ending.returned (.slice A l.length cp)=.returned (.slice (setPl ρ nx ⟨A,1,l.length,false,noSub⟩ nx).A l.length cp)
  rw[q2]
 ·exact⟨show nx<nx+1 by omega,by rw[q2]⟩⟩
theorem ckCellInfo:(Try.prog.info? 91).map (fun i=>(i.zero,i.size,i.bytes))=some (some (.agg #[.int .i64 0,.int .i64 0]),2,16):=by kernel_rfl
theorem ckCellNil (n cp:Nat) (w:World):Sem.run Try.prog (binOp BinOp.eql 23 (.slice none n cp) (.slice none 0 0)) w=.ok (.bool true) w:=by kernel_rfl
theorem ckCellSome (ad:Addr) (n cp:Nat) (w:World):Sem.run Try.prog (binOp BinOp.eql 23 (.slice (some ad) n cp) (.slice none 0 0)) w=.ok (.bool false) w:=by kernel_rfl
theorem ckCellPl (x:(Int×Int)):∀ v ∈ pairC x,plain1 v:=by
 intro v hv
 simp only[pairC,List.mem_cons,List.not_mem_nil,or_false] at hv
 rcases hv with rfl | rfl<;>trivial
set_option maxHeartbeats 2000000 in
set_option maxRecDepth 100000 in
theorem ckCell_any (A:Option Addr) (cp:Nat) (l:List (Int×Int)) (w:World) (hl:l.length≤100) (hr:Rd w (·<w.heap.size) A (flat pairC l)) :
  Calls Try.prog 53 #[.slice A l.length cp] w (RowPostK 91 2 w l.length (flat pairC l)):=by
 obtain⟨ii,hii,hi0,hi1,hi2⟩:=info_parts ckCellInfo
 have hlen:=flat_length (enc:=pairC) (sz:=2) (fun _=>rfl) l
 cases A with
 | none=>
  have h0:l=[]:=by
   cases l with
   | nil=>rfl
   | cons a r=>
    obtain⟨b,o,hA,_⟩:=hr (by simp[flat,pairC])
    cases hA
  subst h0
  go_enter Try.func53,Try.ntmps53
  have hq:=ckCellNil 0 cp w
  go_wp2
  go_ret
  exact⟨none,0,rfl,World.ownsRow_nil _ _ _ _,Below.refl _ _⟩
 | some ad=>
  have hq:=ckCellSome ad l.length cp w
  have h0:=World.ownsRow_lit (base:=w.heap.size) (e:=91) (size:=2) w #[] 0 (Nat.le_refl _) (by unfold maxLen;omega) rfl
  have hb0:=(Below.refl w.heap.size w).alloc (Nat.le_refl _) (.cells #[] 91)
  have h1:=(hr.alloc (.cells #[] 91))
  have hone:∀ u ∈ flat pairC l,u.oneCell'=true:=by
   intro u hu
   obtain⟨a,_,ha⟩:=List.mem_flatMap.1 (show u ∈ l.flatMap pairC from hu)
   simp only[pairC,List.mem_cons,List.not_mem_nil,or_false] at ha
   rcases ha with rfl | rfl<;>rfl
  go_enter Try.func53,Try.ntmps53
  go_wp2_with (at_builtin;refine wpList_append_rd _ rfl _ _ _ rfl w.heap.size 91 ii _ 2 16 Try.underlying23 hii hi0 hi1 hi2 rfl (by omega) _ 0 [] rfl h0 _ (some ad) l.length cp (flat pairC l) rfl hlen h1 hone ?c1 ?c2 ?c3 ?_)
  case c1=>unfold maxLen;omega
  case c2=>omega
  intro v' w2 hown hg hat
  (try rw[Nat.zero_add] at hown);(try rw[List.nil_append] at hown)
  obtain⟨A',cp',rfl⟩:=own_form hown
  have HO:=Lib.hid hown
  have HB:=Lib.hid (hb0.grown hg (by simp) (fun k hk=>by injection hk with hk;rw[← hk];exact Nat.le_refl _))
  clear hown hg hat h0 hb0 hq
  go_wp2
  go_ret
  exact⟨A',cp',rfl,HO.out,HB.out⟩
def ctCkCell:CT:=fun vs mem nx K=>∃ v l,vs=[v]∧SrcR mem 2 pairC (0,0) (l:List (Int×Int)) v∧l.length≤100∧∀ cap2,K (slc nx l.length cap2) ((nx,rowOfL 500000 2 pairC (0,0) l)::mem) (nx+1)
theorem ckCellOk:CSound Try.prog 53 ctCkCell:=⟨by kernel_rfl,fun {C ρ fr mem nx a w vs K} hc hs hv=>by
 obtain⟨v,l,rfl,hr,hl,hK⟩:=hc
 obtain⟨A0,c0,e0,hr⟩:=hs.srcR (enc:=pairC) (sz:=2) (fun _=>rfl) (by omega) hr
 have e1:([v].map (den ρ)).toArray=#[.slice A0 l.length c0]:=by rw[List.map_cons,e0];rfl
 rw[e1]
 refine (ckCell_any A0 c0 l w hl hr).mono ?_
 rintro e w' ⟨A,cp,rfl,ho,hb⟩
 have hrd:=Rd.of_own ho
 obtain⟨q1,-⟩:=(hs.later hb).addList hs.frB hs.rest.size (enc:=pairC) (sz:=2) (fun _=>rfl) (by omega) ckCellPl (0,0) (t:=500000) rfl hrd
 have q2:setPl ρ nx ⟨A,2,l.length,false,noSub⟩ nx=⟨A,2,l.length,false,noSub⟩:=setPl_same _ _ _
 refine⟨slc nx l.length cp,_,_,_,?_,hK cp,q1,?_,fun i hi=>setPl_lt _ _ hi,by omega⟩
 ·show Ending.returned (.slice A l.length cp)=.returned (.slice (setPl ρ nx ⟨A,2,l.length,false,noSub⟩ nx).A l.length cp)
  rw[q2]
 ·exact⟨show nx<nx+1 by omega,by rw[q2]⟩⟩
theorem ckTenInfo:(Try.prog.info? 95).map (fun i=>(i.zero,i.size,i.bytes))=some (some (.agg #[.int .i64 0,.int .i64 0,.int .i64 0,.int .i64 0,.int .i64 0,.int .i64 0,.bool false]),7,56):=by kernel_rfl
theorem ckTenNil (n cp:Nat) (w:World):Sem.run Try.prog (binOp BinOp.eql 24 (.slice none n cp) (.slice none 0 0)) w=.ok (.bool true) w:=by kernel_rfl
theorem ckTenSome (ad:Addr) (n cp:Nat) (w:World):Sem.run Try.prog (binOp BinOp.eql 24 (.slice (some ad) n cp) (.slice none 0 0)) w=.ok (.bool false) w:=by kernel_rfl
theorem ckTenPl (x:Ten):∀ v ∈ tenC x,plain1 v:=by
 intro v hv
 simp only[tenC,List.mem_cons,List.not_mem_nil,or_false] at hv
 rcases hv with rfl | rfl | rfl | rfl | rfl | rfl | rfl<;>trivial
set_option maxHeartbeats 2000000 in
set_option maxRecDepth 100000 in
theorem ckTen_any (A:Option Addr) (cp:Nat) (l:List Ten) (w:World) (hl:l.length≤100) (hr:Rd w (·<w.heap.size) A (flat tenC l)) :
  Calls Try.prog 54 #[.slice A l.length cp] w (RowPostK 95 7 w l.length (flat tenC l)):=by
 obtain⟨ii,hii,hi0,hi1,hi2⟩:=info_parts ckTenInfo
 have hlen:=flat_length (enc:=tenC) (sz:=7) (fun _=>rfl) l
 cases A with
 | none=>
  have h0:l=[]:=by
   cases l with
   | nil=>rfl
   | cons a r=>
    obtain⟨b,o,hA,_⟩:=hr (by simp[flat,tenC])
    cases hA
  subst h0
  go_enter Try.func54,Try.ntmps54
  have hq:=ckTenNil 0 cp w
  go_wp2
  go_ret
  exact⟨none,0,rfl,World.ownsRow_nil _ _ _ _,Below.refl _ _⟩
 | some ad=>
  have hq:=ckTenSome ad l.length cp w
  have h0:=World.ownsRow_lit (base:=w.heap.size) (e:=95) (size:=7) w #[] 0 (Nat.le_refl _) (by unfold maxLen;omega) rfl
  have hb0:=(Below.refl w.heap.size w).alloc (Nat.le_refl _) (.cells #[] 95)
  have h1:=(hr.alloc (.cells #[] 95))
  have hone:∀ u ∈ flat tenC l,u.oneCell'=true:=by
   intro u hu
   obtain⟨a,_,ha⟩:=List.mem_flatMap.1 (show u ∈ l.flatMap tenC from hu)
   simp only[tenC,List.mem_cons,List.not_mem_nil,or_false] at ha
   rcases ha with rfl | rfl | rfl | rfl | rfl | rfl | rfl<;>rfl
  go_enter Try.func54,Try.ntmps54
  go_wp2_with (at_builtin;refine wpList_append_rd _ rfl _ _ _ rfl w.heap.size 95 ii _ 7 56 Try.underlying24 hii hi0 hi1 hi2 rfl (by omega) _ 0 [] rfl h0 _ (some ad) l.length cp (flat tenC l) rfl hlen h1 hone ?c1 ?c2 ?c3 ?_)
  case c1=>unfold maxLen;omega
  case c2=>omega
  intro v' w2 hown hg hat
  (try rw[Nat.zero_add] at hown);(try rw[List.nil_append] at hown)
  obtain⟨A',cp',rfl⟩:=own_form hown
  have HO:=Lib.hid hown
  have HB:=Lib.hid (hb0.grown hg (by simp) (fun k hk=>by injection hk with hk;rw[← hk];exact Nat.le_refl _))
  clear hown hg hat h0 hb0 hq
  go_wp2
  go_ret
  exact⟨A',cp',rfl,HO.out,HB.out⟩
def ctCkTen:CT:=fun vs mem nx K=>∃ v l,vs=[v]∧SrcR mem 7 tenC default (l:List Ten) v∧l.length≤100∧∀ cap2,K (slc nx l.length cap2) ((nx,rowOfL 500000 7 tenC default l)::mem) (nx+1)
theorem ckTenOk:CSound Try.prog 54 ctCkTen:=⟨by kernel_rfl,fun {C ρ fr mem nx a w vs K} hc hs hv=>by
 obtain⟨v,l,rfl,hr,hl,hK⟩:=hc
 obtain⟨A0,c0,e0,hr⟩:=hs.srcR (enc:=tenC) (sz:=7) (fun _=>rfl) (by omega) hr
 have e1:([v].map (den ρ)).toArray=#[.slice A0 l.length c0]:=by rw[List.map_cons,e0];rfl
 rw[e1]
 refine (ckTen_any A0 c0 l w hl hr).mono ?_
 rintro e w' ⟨A,cp,rfl,ho,hb⟩
 have hrd:=Rd.of_own ho
 obtain⟨q1,-⟩:=(hs.later hb).addList hs.frB hs.rest.size (enc:=tenC) (sz:=7) (fun _=>rfl) (by omega) ckTenPl default (t:=500000) rfl hrd
 have q2:setPl ρ nx ⟨A,7,l.length,false,noSub⟩ nx=⟨A,7,l.length,false,noSub⟩:=setPl_same _ _ _
 refine⟨slc nx l.length cp,_,_,_,?_,hK cp,q1,?_,fun i hi=>setPl_lt _ _ hi,by omega⟩
 ·show Ending.returned (.slice A l.length cp)=.returned (.slice (setPl ρ nx ⟨A,7,l.length,false,noSub⟩ nx).A l.length cp)
  rw[q2]
 ·exact⟨show nx<nx+1 by omega,by rw[q2]⟩⟩
theorem ckVerInfo:(Try.prog.info? 93).map (fun i=>(i.zero,i.size,i.bytes))=some (some (.agg #[.int .i64 0,.int .i64 0]),2,16):=by kernel_rfl
theorem ckVerNil (n cp:Nat) (w:World):Sem.run Try.prog (binOp BinOp.eql 25 (.slice none n cp) (.slice none 0 0)) w=.ok (.bool true) w:=by kernel_rfl
theorem ckVerSome (ad:Addr) (n cp:Nat) (w:World):Sem.run Try.prog (binOp BinOp.eql 25 (.slice (some ad) n cp) (.slice none 0 0)) w=.ok (.bool false) w:=by kernel_rfl
theorem ckVerPl (x:(Int×Int)):∀ v ∈ pairC x,plain1 v:=by
 intro v hv
 simp only[pairC,List.mem_cons,List.not_mem_nil,or_false] at hv
 rcases hv with rfl | rfl<;>trivial
set_option maxHeartbeats 2000000 in
set_option maxRecDepth 100000 in
theorem ckVer_any (A:Option Addr) (cp:Nat) (l:List (Int×Int)) (w:World) (hl:l.length≤100) (hr:Rd w (·<w.heap.size) A (flat pairC l)) :
  Calls Try.prog 55 #[.slice A l.length cp] w (RowPostK 93 2 w l.length (flat pairC l)):=by
 obtain⟨ii,hii,hi0,hi1,hi2⟩:=info_parts ckVerInfo
 have hlen:=flat_length (enc:=pairC) (sz:=2) (fun _=>rfl) l
 cases A with
 | none=>
  have h0:l=[]:=by
   cases l with
   | nil=>rfl
   | cons a r=>
    obtain⟨b,o,hA,_⟩:=hr (by simp[flat,pairC])
    cases hA
  subst h0
  go_enter Try.func55,Try.ntmps55
  have hq:=ckVerNil 0 cp w
  go_wp2
  go_ret
  exact⟨none,0,rfl,World.ownsRow_nil _ _ _ _,Below.refl _ _⟩
 | some ad=>
  have hq:=ckVerSome ad l.length cp w
  have h0:=World.ownsRow_lit (base:=w.heap.size) (e:=93) (size:=2) w #[] 0 (Nat.le_refl _) (by unfold maxLen;omega) rfl
  have hb0:=(Below.refl w.heap.size w).alloc (Nat.le_refl _) (.cells #[] 93)
  have h1:=(hr.alloc (.cells #[] 93))
  have hone:∀ u ∈ flat pairC l,u.oneCell'=true:=by
   intro u hu
   obtain⟨a,_,ha⟩:=List.mem_flatMap.1 (show u ∈ l.flatMap pairC from hu)
   simp only[pairC,List.mem_cons,List.not_mem_nil,or_false] at ha
   rcases ha with rfl | rfl<;>rfl
  go_enter Try.func55,Try.ntmps55
  go_wp2_with (at_builtin;refine wpList_append_rd _ rfl _ _ _ rfl w.heap.size 93 ii _ 2 16 Try.underlying25 hii hi0 hi1 hi2 rfl (by omega) _ 0 [] rfl h0 _ (some ad) l.length cp (flat pairC l) rfl hlen h1 hone ?c1 ?c2 ?c3 ?_)
  case c1=>unfold maxLen;omega
  case c2=>omega
  intro v' w2 hown hg hat
  (try rw[Nat.zero_add] at hown);(try rw[List.nil_append] at hown)
  obtain⟨A',cp',rfl⟩:=own_form hown
  have HO:=Lib.hid hown
  have HB:=Lib.hid (hb0.grown hg (by simp) (fun k hk=>by injection hk with hk;rw[← hk];exact Nat.le_refl _))
  clear hown hg hat h0 hb0 hq
  go_wp2
  go_ret
  exact⟨A',cp',rfl,HO.out,HB.out⟩
def ctCkVer:CT:=fun vs mem nx K=>∃ v l,vs=[v]∧SrcR mem 2 pairC (0,0) (l:List (Int×Int)) v∧l.length≤100∧∀ cap2,K (slc nx l.length cap2) ((nx,rowOfL 500000 2 pairC (0,0) l)::mem) (nx+1)
theorem ckVerOk:CSound Try.prog 55 ctCkVer:=⟨by kernel_rfl,fun {C ρ fr mem nx a w vs K} hc hs hv=>by
 obtain⟨v,l,rfl,hr,hl,hK⟩:=hc
 obtain⟨A0,c0,e0,hr⟩:=hs.srcR (enc:=pairC) (sz:=2) (fun _=>rfl) (by omega) hr
 have e1:([v].map (den ρ)).toArray=#[.slice A0 l.length c0]:=by rw[List.map_cons,e0];rfl
 rw[e1]
 refine (ckVer_any A0 c0 l w hl hr).mono ?_
 rintro e w' ⟨A,cp,rfl,ho,hb⟩
 have hrd:=Rd.of_own ho
 obtain⟨q1,-⟩:=(hs.later hb).addList hs.frB hs.rest.size (enc:=pairC) (sz:=2) (fun _=>rfl) (by omega) ckVerPl (0,0) (t:=500000) rfl hrd
 have q2:setPl ρ nx ⟨A,2,l.length,false,noSub⟩ nx=⟨A,2,l.length,false,noSub⟩:=setPl_same _ _ _
 refine⟨slc nx l.length cp,_,_,_,?_,hK cp,q1,?_,fun i hi=>setPl_lt _ _ hi,by omega⟩
 ·show Ending.returned (.slice A l.length cp)=.returned (.slice (setPl ρ nx ⟨A,2,l.length,false,noSub⟩ nx).A l.length cp)
  rw[q2]
 ·exact⟨show nx<nx+1 by omega,by rw[q2]⟩⟩
theorem ckIntInfo:(Try.prog.info? 3).map (fun i=>(i.zero,i.size,i.bytes))=some (some (.int .i64 0),1,8):=by kernel_rfl
theorem ckIntNil (n cp:Nat) (w:World):Sem.run Try.prog (binOp BinOp.eql 26 (.slice none n cp) (.slice none 0 0)) w=.ok (.bool true) w:=by kernel_rfl
theorem ckIntSome (ad:Addr) (n cp:Nat) (w:World):Sem.run Try.prog (binOp BinOp.eql 26 (.slice (some ad) n cp) (.slice none 0 0)) w=.ok (.bool false) w:=by kernel_rfl
theorem ckIntPl (x:Int):∀ v ∈ intC x,plain1 v:=by
 intro v hv
 simp only[intC,List.mem_cons,List.not_mem_nil,or_false] at hv
 subst hv;trivial
set_option maxHeartbeats 2000000 in
set_option maxRecDepth 100000 in
theorem ckInt_any (A:Option Addr) (cp:Nat) (l:List Int) (w:World) (hl:l.length≤100) (hr:Rd w (·<w.heap.size) A (flat intC l)) :
  Calls Try.prog 56 #[.slice A l.length cp] w (RowPostK 3 1 w l.length (flat intC l)):=by
 obtain⟨ii,hii,hi0,hi1,hi2⟩:=info_parts ckIntInfo
 have hlen:=flat_length (enc:=intC) (sz:=1) (fun _=>rfl) l
 cases A with
 | none=>
  have h0:l=[]:=by
   cases l with
   | nil=>rfl
   | cons a r=>
    obtain⟨b,o,hA,_⟩:=hr (by simp[flat,intC])
    cases hA
  subst h0
  go_enter Try.func56,Try.ntmps56
  have hq:=ckIntNil 0 cp w
  go_wp2
  go_ret
  exact⟨none,0,rfl,World.ownsRow_nil _ _ _ _,Below.refl _ _⟩
 | some ad=>
  have hq:=ckIntSome ad l.length cp w
  have h0:=World.ownsRow_lit (base:=w.heap.size) (e:=3) (size:=1) w #[] 0 (Nat.le_refl _) (by unfold maxLen;omega) rfl
  have hb0:=(Below.refl w.heap.size w).alloc (Nat.le_refl _) (.cells #[] 3)
  have h1:=(hr.alloc (.cells #[] 3))
  have hone:∀ u ∈ flat intC l,u.oneCell'=true:=by
   intro u hu
   obtain⟨a,_,ha⟩:=List.mem_flatMap.1 (show u ∈ l.flatMap intC from hu)
   simp only[intC,List.mem_cons,List.not_mem_nil,or_false] at ha
   subst ha;rfl
  go_enter Try.func56,Try.ntmps56
  go_wp2_with (at_builtin;refine wpList_append_rd _ rfl _ _ _ rfl w.heap.size 3 ii _ 1 8 Try.underlying26 hii hi0 hi1 hi2 rfl (by omega) _ 0 [] rfl h0 _ (some ad) l.length cp (flat intC l) rfl hlen h1 hone ?c1 ?c2 ?c3 ?_)
  case c1=>unfold maxLen;omega
  case c2=>omega
  intro v' w2 hown hg hat
  (try rw[Nat.zero_add] at hown);(try rw[List.nil_append] at hown)
  obtain⟨A',cp',rfl⟩:=own_form hown
  have HO:=Lib.hid hown
  have HB:=Lib.hid (hb0.grown hg (by simp) (fun k hk=>by injection hk with hk;rw[← hk];exact Nat.le_refl _))
  clear hown hg hat h0 hb0 hq
  go_wp2
  go_ret
  exact⟨A',cp',rfl,HO.out,HB.out⟩
def ctCkInt:CT:=fun vs mem nx K=>∃ v l,vs=[v]∧SrcR mem 1 intC 0 (l:List Int) v∧l.length≤100∧∀ cap2,K (slc nx l.length cap2) ((nx,rowOfL 500000 1 intC 0 l)::mem) (nx+1)
theorem ckIntOk:CSound Try.prog 56 ctCkInt:=⟨by kernel_rfl,fun {C ρ fr mem nx a w vs K} hc hs hv=>by
 obtain⟨v,l,rfl,hr,hl,hK⟩:=hc
 obtain⟨A0,c0,e0,hr⟩:=hs.srcR (enc:=intC) (sz:=1) (fun _=>rfl) (by omega) hr
 have e1:([v].map (den ρ)).toArray=#[.slice A0 l.length c0]:=by rw[List.map_cons,e0];rfl
 rw[e1]
 refine (ckInt_any A0 c0 l w hl hr).mono ?_
 rintro e w' ⟨A,cp,rfl,ho,hb⟩
 have hrd:=Rd.of_own ho
 obtain⟨q1,-⟩:=(hs.later hb).addList hs.frB hs.rest.size (enc:=intC) (sz:=1) (fun _=>rfl) (by omega) ckIntPl 0 (t:=500000) rfl hrd
 have q2:setPl ρ nx ⟨A,1,l.length,false,noSub⟩ nx=⟨A,1,l.length,false,noSub⟩:=setPl_same _ _ _
 refine⟨slc nx l.length cp,_,_,_,?_,hK cp,q1,?_,fun i hi=>setPl_lt _ _ hi,by omega⟩
 ·show Ending.returned (.slice A l.length cp)=.returned (.slice (setPl ρ nx ⟨A,1,l.length,false,noSub⟩ nx).A l.length cp)
  rw[q2]
 ·exact⟨show nx<nx+1 by omega,by rw[q2]⟩⟩
theorem ckRouteInfo:(Try.prog.info? 75).map (fun i=>(i.zero,i.size,i.bytes))=some (some (.agg #[.int .i64 0,.int .i64 0]),2,16):=by kernel_rfl
theorem ckRouteNil (n cp:Nat) (w:World):Sem.run Try.prog (binOp BinOp.eql 43 (.slice none n cp) (.slice none 0 0)) w=.ok (.bool true) w:=by kernel_rfl
theorem ckRouteSome (ad:Addr) (n cp:Nat) (w:World):Sem.run Try.prog (binOp BinOp.eql 43 (.slice (some ad) n cp) (.slice none 0 0)) w=.ok (.bool false) w:=by kernel_rfl
theorem ckRoutePl (x:(Int×Int)):∀ v ∈ pairC x,plain1 v:=by
 intro v hv
 simp only[pairC,List.mem_cons,List.not_mem_nil,or_false] at hv
 rcases hv with rfl | rfl<;>trivial
set_option maxHeartbeats 2000000 in
set_option maxRecDepth 100000 in
theorem ckRoute_any (A:Option Addr) (cp:Nat) (l:List (Int×Int)) (w:World) (hl:l.length≤100) (hr:Rd w (·<w.heap.size) A (flat pairC l)) :
  Calls Try.prog 63 #[.slice A l.length cp] w (RowPostK 75 2 w l.length (flat pairC l)):=by
 obtain⟨ii,hii,hi0,hi1,hi2⟩:=info_parts ckRouteInfo
 have hlen:=flat_length (enc:=pairC) (sz:=2) (fun _=>rfl) l
 cases A with
 | none=>
  have h0:l=[]:=by
   cases l with
   | nil=>rfl
   | cons a r=>
    obtain⟨b,o,hA,_⟩:=hr (by simp[flat,pairC])
    cases hA
  subst h0
  go_enter Try.func63,Try.ntmps63
  have hq:=ckRouteNil 0 cp w
  go_wp2
  go_ret
  exact⟨none,0,rfl,World.ownsRow_nil _ _ _ _,Below.refl _ _⟩
 | some ad=>
  have hq:=ckRouteSome ad l.length cp w
  have h0:=World.ownsRow_lit (base:=w.heap.size) (e:=75) (size:=2) w #[] 0 (Nat.le_refl _) (by unfold maxLen;omega) rfl
  have hb0:=(Below.refl w.heap.size w).alloc (Nat.le_refl _) (.cells #[] 75)
  have h1:=(hr.alloc (.cells #[] 75))
  have hone:∀ u ∈ flat pairC l,u.oneCell'=true:=by
   intro u hu
   obtain⟨a,_,ha⟩:=List.mem_flatMap.1 (show u ∈ l.flatMap pairC from hu)
   simp only[pairC,List.mem_cons,List.not_mem_nil,or_false] at ha
   rcases ha with rfl | rfl<;>rfl
  go_enter Try.func63,Try.ntmps63
  go_wp2_with (at_builtin;refine wpList_append_rd _ rfl _ _ _ rfl w.heap.size 75 ii _ 2 16 Try.underlying43 hii hi0 hi1 hi2 rfl (by omega) _ 0 [] rfl h0 _ (some ad) l.length cp (flat pairC l) rfl hlen h1 hone ?c1 ?c2 ?c3 ?_)
  case c1=>unfold maxLen;omega
  case c2=>omega
  intro v' w2 hown hg hat
  (try rw[Nat.zero_add] at hown);(try rw[List.nil_append] at hown)
  obtain⟨A',cp',rfl⟩:=own_form hown
  have HO:=Lib.hid hown
  have HB:=Lib.hid (hb0.grown hg (by simp) (fun k hk=>by injection hk with hk;rw[← hk];exact Nat.le_refl _))
  clear hown hg hat h0 hb0 hq
  go_wp2
  go_ret
  exact⟨A',cp',rfl,HO.out,HB.out⟩
def ctCkRoute:CT:=fun vs mem nx K=>∃ v l,vs=[v]∧SrcR mem 2 pairC (0,0) (l:List (Int×Int)) v∧l.length≤100∧∀ cap2,K (slc nx l.length cap2) ((nx,rowOfL 500000 2 pairC (0,0) l)::mem) (nx+1)
theorem ckRouteOk:CSound Try.prog 63 ctCkRoute:=⟨by kernel_rfl,fun {C ρ fr mem nx a w vs K} hc hs hv=>by
 obtain⟨v,l,rfl,hr,hl,hK⟩:=hc
 obtain⟨A0,c0,e0,hr⟩:=hs.srcR (enc:=pairC) (sz:=2) (fun _=>rfl) (by omega) hr
 have e1:([v].map (den ρ)).toArray=#[.slice A0 l.length c0]:=by rw[List.map_cons,e0];rfl
 rw[e1]
 refine (ckRoute_any A0 c0 l w hl hr).mono ?_
 rintro e w' ⟨A,cp,rfl,ho,hb⟩
 have hrd:=Rd.of_own ho
 obtain⟨q1,-⟩:=(hs.later hb).addList hs.frB hs.rest.size (enc:=pairC) (sz:=2) (fun _=>rfl) (by omega) ckRoutePl (0,0) (t:=500000) rfl hrd
 have q2:setPl ρ nx ⟨A,2,l.length,false,noSub⟩ nx=⟨A,2,l.length,false,noSub⟩:=setPl_same _ _ _
 refine⟨slc nx l.length cp,_,_,_,?_,hK cp,q1,?_,fun i hi=>setPl_lt _ _ hi,by omega⟩
 ·show Ending.returned (.slice A l.length cp)=.returned (.slice (setPl ρ nx ⟨A,2,l.length,false,noSub⟩ nx).A l.length cp)
  rw[q2]
 ·exact⟨show nx<nx+1 by omega,by rw[q2]⟩⟩
/-! maps.DeleteFunc of a map without entries. -/
theorem mapU:Try.prog.underlying 108=some (.map 3 75):=by kernel_rfl
/-! Configurations in slices of whatever kind. -/
def CfgSrc (mem:AM) (cv:Value) (c:Cfg):Prop:=∃ vz vc vt vv vr vo,cv=.agg #[.int .i64 c.regions,vz,vc,vt,vv,vr,vo,.int .i64 c.blast,.int .i64 c.lease,.int .i64 c.bake]∧
 (SrcR mem 1 intC 0 c.zones vz∧SrcR mem 2 pairC (0,0) c.cells vc∧SrcR mem 7 tenC default c.tenants vt)∧SrcR mem 2 pairC (0,0) c.versions vv∧SrcR mem 1 intC 0 c.replicas vr∧SrcR mem 1 intC 0 c.observers vo
theorem CfgSrc.has {mem:AM} {N:CN} {x:CfgK} {c:Cfg} (h:HasCfg mem N c):CfgSrc mem (cfgV N x c) c:=⟨_,_,_,_,_,_,rfl,⟨.row h.rz,.row h.rc,.row h.rt⟩,.row h.rv,.row h.rr,.row h.ro⟩
theorem Sat.srcD {C:Ctx} {ρ:Nat→Pl} {fr:AF} {mem:AM} {nx:Nat} {a:Act} {w:World} (hs:Sat C ρ fr mem nx a w) {α:Type} {enc:α→List Value} {sz:Nat} (hsz:∀ x,(enc x).length=sz) (hpos:0<sz) {d:α} {l:List α} {v:Value} (h:SrcR mem sz enc d l v):∃ A cap,den1 ρ v=.slice A l.length cap∧Rd w (·<w.heap.size) A (flat enc l):=by
 obtain⟨A,cap,e,hr⟩:=hs.srcR hsz hpos h
 obtain⟨A',c',rfl⟩:=h.slice
 exact⟨A,cap,e,hr⟩
theorem Sat.cfgSrc {C:Ctx} {ρ:Nat→Pl} {fr:AF} {mem:AM} {nx:Nat} {a:Act} {w:World} (hs:Sat C ρ fr mem nx a w) {cv:Value} {c:Cfg} (h:CfgSrc mem cv c):∃ x:CfgA,den ρ cv=.agg (cfgC x c)∧CfgOk w (·<w.heap.size) x c:=by
 obtain⟨vz,vc,vt,vv,vr,vo,rfl,⟨h1,h2,h3⟩,h4,h5,h6⟩:=h
 obtain⟨A1,c1,e1,r1⟩:=hs.srcD (enc:=intC) (sz:=1) (fun _=>rfl) (by omega) h1
 obtain⟨A2,c2,e2,r2⟩:=hs.srcD (enc:=pairC) (sz:=2) (fun _=>rfl) (by omega) h2
 obtain⟨A3,c3,e3,r3⟩:=hs.srcD (enc:=tenC) (sz:=7) (fun _=>rfl) (by omega) h3
 obtain⟨A4,c4,e4,r4⟩:=hs.srcD (enc:=pairC) (sz:=2) (fun _=>rfl) (by omega) h4
 obtain⟨A5,c5,e5,r5⟩:=hs.srcD (enc:=intC) (sz:=1) (fun _=>rfl) (by omega) h5
 obtain⟨A6,c6,e6,r6⟩:=hs.srcD (enc:=intC) (sz:=1) (fun _=>rfl) (by omega) h6
 have dI:∀ k n,den1 ρ (.int k n)=.int k n:=fun _ _=>rfl
 exact⟨⟨A1,c1,A2,c2,A3,c3,A4,c4,A5,c5,A6,c6⟩,by simp only[den,den2];simp[dI,e1,e2,e3,e4,e5,e6,cfgC],r1,r2,r3,r4,r5,r6⟩
def ctValidGP:CT:=fun vs mem nx K=>∃ cv c a v key,vs=[cv,atlV a v,.int .i64 key]∧(CfgSrc mem cv c∧SrcR mem 2 pairC (0,0) a.routes v)∧Lens c∧∀ b,(b=true↔ValidA c a key)→K (.bool b) mem nx
theorem validGPOk:CSound Try.prog 28 ctValidGP:=⟨by kernel_rfl,fun {C ρ fr mem nx q w vs K} hc hs hv=>by
 obtain⟨cv,c,a,v,key,rfl,⟨hk,hsrc⟩,hL,hK⟩:=hc
 obtain⟨A,cap,e0,hr⟩:=hs.srcR (enc:=pairC) (sz:=2) (fun _=>rfl) (by omega) hsrc
 obtain⟨x,ex,hx⟩:=hs.cfgSrc hk
 have e1:([cv,atlV a v,.int .i64 key].map (den ρ)).toArray=#[.agg (cfgC x c),.agg #[.int .i64 a.number,.int .i64 a.tick,.slice A a.routes.length cap,.int .u64 a.parent,.int .u64 a.sum],.int .i64 key]:=by
  rw[List.map_cons,ex]
  obtain⟨A',cp,rfl⟩:=hsrc.slice
  have dI:∀ k n,den1 ρ (.int k n)=.int k n:=fun _ _=>rfl
  simp only[List.map_cons,List.map_nil,atlV,den,den2]
  simp[dI,den1_slice e0]
 rw[e1]
 refine (validP_calls x c A cap a key w hL hr hx).mono ?_
 rintro e w' ⟨b,hb2,rfl,hb⟩
 exact⟨_,mem,nx,ρ,rfl,hK b hb2,hs.later hb,trivial,ExtS.refl _ _⟩⟩
def ctTenG:CT:=fun vs mem nx K=>∃ cv c,vs=[cv]∧CfgSrc mem cv c∧Lens c∧K (.int .i64 (cfgErr c)) mem nx
theorem tenGOk:CSound Try.prog 51 ctTenG:=⟨by kernel_rfl,fun {C ρ fr mem nx q w vs K} hc hs hv=>by
 obtain⟨cv,c,rfl,hk,hL,hK⟩:=hc
 obtain⟨x,ex,hx⟩:=hs.cfgSrc hk
 have e1:([cv].map (den ρ)).toArray=#[.agg (cfgC x c)]:=by rw[List.map_cons,ex];rfl
 rw[e1]
 refine (tenV_calls x c w hL hx).mono ?_
 rintro e w' ⟨rfl,hb⟩
 exact⟨_,mem,nx,ρ,rfl,hK,hs.later hb,trivial,ExtS.refl _ _⟩⟩
/-! The router: types,and its functions by inlining. -/
def ttR:TT:=[(110,tiRec [zi,zs0,zs0,zs0,zs0,zs0,zs0,zi,zi,zi,zi,zb,zi,zi,zs0,.int .u64 0,.int .u64 0,.map none] [0,10,11,12,17] [10,1,1,5,1] [2,1,1,2,1]),(35,{ size:=1,agg:=false,zero:=[.pointer none],isP:=true }),(108,{ size:=1,agg:=false,zero:=[.map none],mpk:=some .i64,mpe:=75 })]++ttL
theorem ttRok:TTok Try.prog ttR:=by
 refine tt_mem _ _ ?_
 unfold ttR ttL ttA tt
 repeat (refine tt_cons ⟨by kernel_rfl,by kernel_rfl,plains (by rfl),by kernel_rfl,by kernel_rfl,by kernel_rfl⟩ ?_)
 exact tt_nil
abbrev rnF:FT:=[(51,ctTenG),(52,ctCkZone),(53,ctCkCell),(54,ctCkTen),(55,ctCkVer),(56,ctCkInt)]
theorem rnFok:FTokI Try.prog rnF []:=fti_cons (tenGOk.i _) (fti_cons (ckZoneOk.i _) (fti_cons (ckCellOk.i _) (fti_cons (ckTenOk.i _) (fti_cons (ckVerOk.i _) (fti_cons (ckIntOk.i _) fti_nil)))))
abbrev ctRN:CT:=ctInl ttR rnF [] Try.f17 (bodyOf Try.f17)
theorem rnOk {I:List Nat} (hI:I.contains 17=true):CSoundI Try.prog I 17 ctRN:=inl_ok ttRok rnFok mixed (by kernel_rfl) Try.func17 rfl (by kernel_rfl) hI
abbrev ctRt:CT:=ctInl ttR [] [] Try.f40 (bodyOf Try.f40)
theorem rtOk {I:List Nat} (hI:I.contains 40=true):CSoundI Try.prog I 40 ctRt:=inl_ok ttRok (fti_nil) mixed (by kernel_rfl) Try.func40 rfl (by kernel_rfl) hI
abbrev ctNb:CT:=ctInl ttR [] [] Try.f39 (bodyOf Try.f39)
theorem nbOk {I:List Nat} (hI:I.contains 39=true):CSoundI Try.prog I 39 ctNb:=inl_ok ttRok (fti_nil) mixed (by kernel_rfl) Try.func39 rfl (by kernel_rfl) hI
abbrev ctKn:CT:=ctInl ttR [] [] Try.f66 (bodyOf Try.f66)
theorem knOk {I:List Nat} (hI:I.contains 66=true):CSoundI Try.prog I 66 ctKn:=inl_ok ttRok (fti_nil) mixed (by kernel_rfl) Try.func66 rfl (by kernel_rfl) hI
abbrev lnF:FT:=[(66,ctKn)]
abbrev ctLn:CT:=ctInl ttR lnF [(9000000,{ k:=0,L:=[66] })] Try.f38 (bodyOf Try.f38)
theorem lnOk {I:List Nat} (hI:I.contains 38=true):CSoundI Try.prog I 38 ctLn:=inl_ok ttRok (fti_cons (knOk (by decide)) fti_nil) mixed (by kernel_rfl) Try.func38 rfl (by kernel_rfl) hI
/-! law16.awake -/
abbrev wC16:Cfg:=⟨1,[0],[(0,5),(0,5),(0,5)],[⟨1,0,0,0,1,0,false⟩],[(0,0)],[0],[0],1,5,0⟩
theorem lens16:Lens wC16:=by
 unfold Lens maxLen
 decide
def aw6F:FT:=[(17,ctRN),(40,ctRt),(38,ctLn),(39,ctNb)]
def aw6D:List (Nat×DQ):=[(9000000,{ k:=0,L:=[17,40,38,39] })]
theorem aw6Fok:FTokI Try.prog aw6F (inlOf aw6D):=fti_cons (rnOk (by decide)) (fti_cons (rtOk (by decide)) (fti_cons (lnOk (by decide)) (fti_cons (nbOk (by decide)) fti_nil)))
set_option maxRecDepth 100000 in
set_option maxHeartbeats 4000000 in
theorem awake16_sx:sx ttR aw6F aw6D (bodyOf Try.f14) (argF 0 []) (uniM {}) 13 (endx ttR Try.f14.results.toList fun v _ _=>v=.bool true):=by
 refine⟨_,wC16,rfl,⟨_,_,_,_,_,_,rfl,⟨.inr (.inl ⟨13,_,rfl,⟨_,_,_,rfl,Nat.le_refl _,fun k hk=>by match k,hk with | 0,_=>rfl⟩⟩),.inr (.inl ⟨14,_,rfl,⟨_,_,_,rfl,Nat.le_refl _,fun k hk=>by match k,hk with | 0,_=>rfl | 1,_=>rfl | 2,_=>rfl⟩⟩),.inr (.inl ⟨18,_,rfl,⟨_,_,_,rfl,Nat.le_refl _,fun k hk=>by match k,hk with | 0,_=>rfl⟩⟩)⟩,.inr (.inl ⟨15,_,rfl,⟨_,_,_,rfl,Nat.le_refl _,fun k hk=>by match k,hk with | 0,_=>rfl⟩⟩),.inr (.inl ⟨16,_,rfl,⟨_,_,_,rfl,Nat.le_refl _,fun k hk=>by match k,hk with | 0,_=>rfl⟩⟩),.inr (.inl ⟨17,_,rfl,⟨_,_,_,rfl,Nat.le_refl _,fun k hk=>by match k,hk with | 0,_=>rfl⟩⟩)⟩,lens16,?_⟩
 refine⟨fun q=>absurd q (by decide),fun _=>?_⟩
 refine⟨_,wC16.zones,rfl,.inr (.inl ⟨13,_,rfl,⟨_,_,_,rfl,Nat.le_refl _,fun k hk=>by match k,hk with | 0,_=>rfl⟩⟩),by decide,fun k_zones=>?_⟩
 refine⟨_,wC16.cells,rfl,.inr (.inl ⟨14,_,rfl,⟨_,_,_,rfl,Nat.le_refl _,fun k hk=>by match k,hk with | 0,_=>rfl | 1,_=>rfl | 2,_=>rfl⟩⟩),by decide,fun k_cells=>?_⟩
 refine⟨_,wC16.tenants,rfl,.inr (.inl ⟨18,_,rfl,⟨_,_,_,rfl,Nat.le_refl _,fun k hk=>by match k,hk with | 0,_=>rfl⟩⟩),by decide,fun k_tenants=>?_⟩
 refine⟨_,wC16.versions,rfl,.inr (.inl ⟨15,_,rfl,⟨_,_,_,rfl,Nat.le_refl _,fun k hk=>by match k,hk with | 0,_=>rfl⟩⟩),by decide,fun k_versions=>?_⟩
 refine⟨_,wC16.replicas,rfl,.inr (.inl ⟨16,_,rfl,⟨_,_,_,rfl,Nat.le_refl _,fun k hk=>by match k,hk with | 0,_=>rfl⟩⟩),by decide,fun k_replicas=>?_⟩
 refine⟨_,wC16.observers,rfl,.inr (.inl ⟨17,_,rfl,⟨_,_,_,rfl,Nat.le_refl _,fun k hk=>by match k,hk with | 0,_=>rfl⟩⟩),by decide,fun k_observers=>?_⟩
 repeat (first | refine⟨fun _=>?_,fun h=>Bool.noConfusion h⟩ | refine⟨fun h=>Bool.noConfusion h,fun _=>?_⟩ | fail)
 refine⟨(fun l h=>nomatch h),fun _=>?_⟩
 repeat (first | refine⟨fun _=>?_,fun h=>Bool.noConfusion h⟩ | refine⟨fun h=>Bool.noConfusion h,fun _=>?_⟩ | fail)
 refine⟨(fun l h=>nomatch h),fun _=>?_⟩
 repeat (first | refine⟨fun _=>?_,fun h=>Bool.noConfusion h⟩ | refine⟨fun h=>Bool.noConfusion h,fun _=>?_⟩ | fail)
 refine⟨fun y=>if y=0 then some [.int .i64 1,.int .i64 1] else none,fun y=>rfl,?_⟩
 repeat (first | refine⟨fun _=>?_,fun h=>Bool.noConfusion h⟩ | refine⟨fun h=>Bool.noConfusion h,fun _=>?_⟩ | fail)
 refine⟨fun l h=>?_,fun h=>absurd h (by simp)⟩
 obtain rfl:l=[.int .i64 1,.int .i64 1]:=(by simpa using h.symm)
 repeat (first | refine⟨fun _=>?_,fun h=>Bool.noConfusion h⟩ | refine⟨fun h=>Bool.noConfusion h,fun _=>?_⟩ | fail)
 refine⟨fun l h=>?_,fun h=>absurd h (by simp)⟩
 obtain rfl:l=[.int .i64 1,.int .i64 1]:=(by simpa using h.symm)
 repeat (first | refine⟨fun _=>?_,fun h=>Bool.noConfusion h⟩ | refine⟨fun h=>Bool.noConfusion h,fun _=>?_⟩ | fail)
 rfl
theorem awake16_any (w:World):Calls Try.prog 14 #[] w fun e w'=>e=.returned (.bool true)∧Below w.heap.size w w':=by
 have:=uni_calls ttRok aw6Fok Try.func14 rfl (D:=aw6D) (by kernel_rfl) (vs:=[]) rfl {} {} w {} (fun v hv=>absurd hv (List.not_mem_nil)) awake16_sx
 refine this.mono ?_
 rintro e w' ⟨v,mem',nx',ρ',rfl,rfl,hv,hm',hb⟩
 exact⟨rfl,hb⟩
def ctAwake16:CT:=fun vs mem nx K=>vs=[]∧K (.bool true) mem nx
theorem awake16Ok:CSound Try.prog 14 ctAwake16:=CSound.pure (by kernel_rfl) (by
 rintro vs mem nx K ⟨rfl,hK⟩
 exact⟨_,hK,fun ρ n=>⟨rfl,trivial⟩,fun ρ w=>awake16_any w⟩)
/-! router.Take,by inlining. -/
/-! The digest tells its arguments apart. -/
/-! Taking copies: what all laws of the router need. -/
theorem CopyP.ge {c:Cfg} {key:Int} {xs:List Atl} (hP:CopyP c key xs):∀ k,k<xs.length→(k:Int)≤(xs.getD k aZ).number
 | 0,_=>by rw[hP.first];exact Int.le_refl _
 | k+1,hk=>by
  have h1:=hP.ge k (by omega)
  have h2:=hP.inc k hk
  omega
theorem CopyP.valid {c:Cfg} {key:Int} {xs:List Atl} (hP:CopyP c key xs) (hE:cfgErr c=0) {k:Nat} (hk:k<xs.length):ValidA c (xs.getD k aZ) key:=by
 obtain⟨s,par,hJ,e⟩:=hP.made k hk
 rw[e]
 exact make_valid hE (cfgV_of hE) hJ.inv par key
theorem CopyP.len {c:Cfg} {key:Int} {xs:List Atl} (hP:CopyP c key xs) {k:Nat} (hk:k<xs.length):(xs.getD k aZ).routes.length=c.tenants.length:=by
 obtain⟨s,par,hJ,e⟩:=hP.made k hk
 rw[e]
 show (routesOf s).length=_
 rw[routes_len,hJ.inv.lt]
theorem mkLight_below (A:Option Addr) (n cp:Nat) (w:World) (hn:n≤maxLen):Calls Try.prog 13 #[.slice A n cp] w fun r w'=>r=.returned (.bool (decide (n≤200)))∧Below w.heap.size w w':=by
 refine (mkLight_any A n cp w hn).mono ?_
 rintro e w' ⟨h,rfl⟩
 exact⟨h,Below.refl _ _⟩
def ctLight:CT:=fun vs mem nx K=>∃ Mz0 xz0 z0,vs=[slc Mz0 (z0:List Int).length xz0]∧(lk mem Mz0=some (intRow z0))∧(z0.length≤maxLen)∧K (.bool (decide (z0.length≤200))) mem nx
theorem lightOk:CSound Try.prog 13 ctLight:=(ptsOk (R:=fun l z=>∃ z0,l=[.li z0]∧z=.bool (decide (z0.length≤200))) (pre:=fun l=>∃ z0,l=[.li z0]∧(z0.length≤maxLen)) (by kernel_rfl) (by
 rintro ps w ⟨z0,hps,hpre⟩ hok
 obtain⟨xz0,yz0,ps0,rfl,hps0⟩:=dt_l hps
 obtain rfl:=dt_nil hps0
 have hpz0:=hok (.li xz0 yz0 z0) (by simp)
 refine (mkLight_below xz0 z0.length yz0 w hpre).mono ?_
 rintro e w' ⟨rfl,hb⟩
 exact⟨_,⟨z0,rfl,rfl⟩,trivial,rfl,hb⟩)).mono (by
 rintro vs mem nx K ⟨Mz0,xz0,z0,rfl,hk,hpre,hK⟩
 exact⟨[.li Mz0 xz0 z0],rfl,⟨hk,trivial⟩,⟨_,rfl,hpre⟩,by rintro z ⟨z0',hl,hz⟩;cases hl;subst hz;exact hK⟩)
/-! law16.RouterEnds -/
theorem CopyP.mono {c:Cfg} {key:Int} {xs:List Atl} (hP:CopyP c key xs) {j:Nat}:∀ m,m<xs.length→j<m→(xs.getD j aZ).number<(xs.getD m aZ).number
 | 0,_,h=>absurd h (by omega)
 | m+1,hm,h=>by
  have h2:=hP.inc m hm
  by_cases q:j=m
  ·subst q;exact h2
  ·have h1:=hP.mono (j:=j) m (by omega) (by omega)
   omega
theorem CopyP.old {c:Cfg} {key:Int} {xs:List Atl} (hP:CopyP c key xs) {j m:Nat} (hm:m<xs.length) (hj:j<xs.length) (h:(xs.getD m aZ).number≥(xs.getD j aZ).number):j≤m:=by
 by_cases q:m<j
 ·have:=hP.mono j hj q
  omega
 ·omega
theorem CopyP.cell {c:Cfg} {key:Int} {xs:List Atl} (hP:CopyP c key xs) (hE:cfgErr c=0) {k:Nat} (hk:k<xs.length) {t:Nat} (ht:t<(xs.getD k aZ).routes.length):-1≤((xs.getD k aZ).routes.getD t (0,0)).1:=by
 have:=(hP.valid hE hk).r t ht
 unfold RouteOk at this
 omega
end Go.Proofs.Ytdjkeplekchfdaa
namespace Go.Proofs.Ytdjkeplekchfdaa
open Go.RowKit Go.ChangeMaps
set_option linter.unusedSimpArgs false
set_option linter.unusedVariables false
/-! maps.DeleteFunc of any map with int keys;the function may be any that writes nothing. -/
section
variable {P:Program} {w:World}
theorem run_delete {q e t tx ty:TypeId} {kk:IntKind} {g cl:Nat} {es:Array MapEntry} (ht:P.underlying t=some (.map q e)) (hq:P.underlying q=some (.int kk)) (hg:w.heap[g]?=some (.map es cl)) (hkeys:∀ e ∈ es.toList,∃ y,e.key=.int kk y) (hnod:(es.toList.map (·.key)).Nodup) (z:Int) :
  ∃ es',(Builtin.delete_ #[t,tx] ty #[.map (some g),.int kk z]).run P w=.ok (.tuple #[]) (setObjW w g (.map es' cl))∧es'.toList.Sublist es.toList∧∀ x ∈ es.toList,(x ∈ es'.toList↔x.key≠.int kk z):=by
 obtain⟨r,h1,h2,h3⟩:=findNow_int (z:=z) es.toList 0 hkeys
 have hr:=findInt (P:=P) (w:=w) hq h1
 cases r with
 | none=>
  refine⟨es,?_,List.Sublist.refl _,fun x hx=>⟨fun _=>h3 rfl x hx,fun _=>hx⟩⟩
  simp[Builtin.delete_,run_underlying ht,getMap hg,keyInt hq,hr,setMap _ hg]
 | some p=>
  obtain⟨j,v⟩:=p
  obtain⟨x0,q1,-,q3,q4⟩:=h2 j v rfl
  rw[Nat.sub_zero] at q1
  have hjlt:=(List.getElem?_eq_some_iff.1 q1).1
  have huni:∀ (i:Nat) (x:MapEntry),es.toList[i]?=some x→x.key=.int kk z→i=j:=fun i x hi hk=>by
   have hil:=(List.getElem?_eq_some_iff.1 hi).1
   have e1:(es.toList.map (·.key))[i]'(by simpa using hil)=(es.toList.map (·.key))[j]'(by simpa using hjlt):=by
    rw[List.getElem_map,List.getElem_map,(List.getElem?_eq_some_iff.1 hi).2,(List.getElem?_eq_some_iff.1 q1).2,hk,q3]
   exact (List.getElem_inj hnod).1 e1
  have hl:(es.eraseIdxIfInBounds j).toList=es.toList.eraseIdx j:=by
   unfold Array.eraseIdxIfInBounds
   split
   ·simp
   ·rename_i hn;exact absurd (by simpa using hjlt) hn
  refine⟨es.eraseIdxIfInBounds j,?_,?_,fun x hx=>?_⟩
  ·simp[Builtin.delete_,run_underlying ht,getMap hg,keyInt hq,hr,setMap _ hg]
  ·rw[hl];exact List.eraseIdx_sublist _ _
  ·rw[hl]
   constructor
   ·intro hm hk
    obtain⟨i,hij,hi⟩:=List.mem_eraseIdx_iff_getElem?.1 hm
    exact hij (huni i x hi hk)
   ·intro hk
    obtain⟨i,hi⟩:=List.getElem?_of_mem hx
    refine List.mem_eraseIdx_iff_getElem?.2 ⟨i,?_,hi⟩
    rintro rfl
    rw[q1] at hi
    cases hi
    exact hk q3
structure Del (p:MapEntry→Bool) (es0:Array MapEntry) (g r cl:Nat) (w0 w:World) (es:Array MapEntry) (seen it:Array Nat) (c0:Nat):Prop where
 at_:w.heap[g]?=some (.map es cl)
 iter:w.heap[r]?=some (.mapIter (some g) cl it c0)
 le:cl≤c0
 sub:es.toList.Sublist es0.toList
 gone:∀ e ∈ es0.toList,e ∈ es.toList∨p e=true
 stay:∀ e ∈ es.toList,seen.contains e.born=true→p e=false
 os:w.os=w0.os
 tape:w.tape=w0.tape
 output:w.output=w0.output
 size:w0.heap.size≤w.heap.size
 block:∀ b,b<w0.heap.size→b≠g→w.heap[b]?=w0.heap[b]?
variable {p:MapEntry→Bool} {es0 es es':Array MapEntry} {g r cl c0:Nat} {w0 w1 w':World} {seen it:Array Nat} {e:MapEntry}
theorem Del.later (h:Del p es0 g r cl w0 w es seen it c0) (hb:Below w.heap.size w w'):Del p es0 g r cl w0 w' es seen it c0:=by
 have e1:=hb.block g (heap_lt h.at_)
 have e2:=hb.block r (heap_lt h.iter)
 exact⟨e1.trans h.at_,e2.trans h.iter,h.le,h.sub,h.gone,h.stay,hb.os.trans h.os,hb.tape.trans h.tape,hb.output.trans h.output,Nat.le_trans h.size hb.size,fun b hlt hne=>(hb.block b (Nat.lt_of_lt_of_le hlt h.size)).trans (h.block b hlt hne)⟩
theorem Del.came (h:Del p es0 g r cl w0 w es seen it c0) (hr:w0.heap.size≤r) (hg:g<w0.heap.size) (hw:w1=w∨w1=w.drew) (it':Array Nat):Del p es0 g r cl w0 (setBlock w1 r (.mapIter (some g) cl it' cl)) es seen it' cl:=by
 have e1:w1.heap=w.heap:=by rcases hw with rfl | rfl<;>rfl
 have hrl:=heap_lt h.iter
 refine⟨?_,?_,Nat.le_refl _,h.sub,h.gone,h.stay,?_,?_,?_,?_,fun b hlt hne=>?_⟩
 ·show (setObjW w1 r _).heap[g]?=_
  rw[setObjW_far (by omega),e1];exact h.at_
 ·exact setObjW_at (by rw[e1];exact hrl)
 ·rcases hw with rfl | rfl<;>exact h.os
 ·rcases hw with rfl | rfl<;>exact h.tape
 ·rcases hw with rfl | rfl<;>exact h.output
 ·show _≤(setObjW w1 r _).heap.size
  rw[setObjW_size,e1];exact h.size
 ·show (setObjW w1 r _).heap[b]?=_
  rw[setObjW_far (by omega),e1];exact h.block b hlt hne
theorem contains_push {s:Array Nat} {a b:Nat}:(s.push b).contains a=true↔s.contains a=true∨a=b:=by simp
theorem proj_inj {β:Type} {f:MapEntry→β} {l:List MapEntry} (h:(l.map f).Nodup) {a b:MapEntry} (ha:a ∈ l) (hb:b ∈ l) (e:f a=f b):a=b:=by
 obtain⟨i,hi,rfl⟩:=List.mem_iff_getElem.1 ha
 obtain⟨j,hj,rfl⟩:=List.mem_iff_getElem.1 hb
 have e1:(l.map f)[i]'(by simpa using hi)=(l.map f)[j]'(by simpa using hj):=by rw[List.getElem_map,List.getElem_map];exact e
 obtain rfl:=(List.getElem_inj h).1 e1
 rfl
theorem Del.kept (h:Del p es0 g r cl w0 w es seen it c0) (he:e ∈ es.toList) (hb:(es0.toList.map (·.born)).Nodup) (hp:p e=false):Del p es0 g r cl w0 w es (seen.push e.born) it c0:=
 ⟨h.at_,h.iter,h.le,h.sub,h.gone,fun x hx hs=>by
  rcases contains_push.1 hs with hs | hs
  ·exact h.stay x hx hs
  ·rw[proj_inj (f:=(·.born)) hb (h.sub.subset hx) (h.sub.subset he) hs];exact hp,h.os,h.tape,h.output,h.size,h.block⟩
theorem Del.struck (h:Del p es0 g r cl w0 w es seen it c0) (hr:w0.heap.size≤r) (hg:g<w0.heap.size) (he:e ∈ es.toList) (hb:(es0.toList.map (·.born)).Nodup) (hk:(es0.toList.map (·.key)).Nodup) (hp:p e=true)
  (hs:es'.toList.Sublist es.toList) (hm:∀ x ∈ es.toList,(x ∈ es'.toList↔x.key≠e.key)):Del p es0 g r cl w0 (setObjW w g (.map es' cl)) es' (seen.push e.born) it c0:=by
 refine⟨setObjW_at (heap_lt h.at_),by rw[setObjW_far (by omega)];exact h.iter,h.le,hs.trans h.sub,fun x hx=>?_,fun x hx hsn=>?_,h.os,h.tape,h.output,by rw[setObjW_size];exact h.size,fun b hlt hne=>by rw[setObjW_far hne];exact h.block b hlt hne⟩
 ·by_cases q:x=e
  ·subst q;exact .inr hp
  ·exact (h.gone x hx).imp (fun hx2=>(hm x hx2).2 fun hke=>q (proj_inj (f:=(·.key)) hk hx (h.sub.subset he) hke)) id
 ·have hx2:=hs.subset hx
  rcases contains_push.1 hsn with hsn | hsn
  ·exact h.stay x hx2 hsn
  ·exact absurd (by rw[proj_inj (f:=(·.born)) hb (h.sub.subset hx2) (h.sub.subset he) hsn]) ((hm x hx2).1 hx)
theorem left_struck (he:e ∈ (leftOf es seen).toList) (hs:es'.toList.Sublist es.toList):(leftOf es' (seen.push e.born)).size<(leftOf es seen).size:=by
 refine Nat.lt_of_le_of_lt ?_ (left_shrinks es seen e he)
 have:((leftOf es' (seen.push e.born)).toList).length≤((leftOf es (seen.push e.born)).toList).length:=by
  simp only[leftOf,Array.toList_filter]
  exact (hs.filter _).length_le
 simpa using this
end
theorem intU:Try.prog.underlying 3=some (.int .i64):=by kernel_rfl
def leftW (g r:Nat) (w:World):Nat:=match w.heap[g]?,w.heap[r]? with | some (.map es _),some (.mapIter _ _ it _)=>(leftOf es it).size | _,_=>0
theorem leftW_eq {p:MapEntry→Bool} {es0 es:Array MapEntry} {g r cl c0:Nat} {w0 w:World} {seen it:Array Nat} (h:Del p es0 g r cl w0 w es seen it c0):leftW g r w=(leftOf es it).size:=by
 unfold leftW
 rw[h.at_,h.iter]
set_option maxHeartbeats 4000000 in
set_option maxRecDepth 100000 in
theorem delG_any (fid g:Nat) (cb:Array Value) (p:MapEntry→Bool) (es:Array MapEntry) (cl:Nat) (w:World) (eg:∀ args w,(callFunc fid args).run Try.prog w=.ok (.enter fid args) w)
  (hb:w.heap[g]?=some (.map es cl)) (hborn:∀ e ∈ es.toList,e.born<cl) (hbnd:(es.toList.map (·.born)).Nodup) (hkeys:∀ e ∈ es.toList,∃ y,e.key=.int .i64 y) (hnod:(es.toList.map (·.key)).Nodup) (hvals:∀ e ∈ es.toList,∃ x y,e.val=.agg #[.int .i64 x,.int .i64 y])
  (hcl:∀ (W:World) (e:MapEntry),e ∈ es.toList→(∀ b,b<w.heap.size→b≠g→W.heap[b]?=w.heap[b]?)→Calls Try.prog fid (#[e.key,e.val]++cb) W fun x W'=>x=.returned (.bool (p e))∧Below W.heap.size W W') :
  Calls Try.prog 64 #[.map (some g),.func (.func fid) #[] cb] w fun x w'=>x=.returned (.tuple #[])∧∃ es' seen it c0,Del p es g w.heap.size cl w w' es' seen it c0∧∀ e ∈ es'.toList,p e=false:=by
 have hrg:=run_range_map (P:=Try.prog) w 108 _ _ g es cl mapU hb
 have hgl:=heap_lt hb
 have hD0:Del p es g w.heap.size cl w (w.alloc (.mapIter (some g) cl #[] cl)) es #[] #[] cl:=
  ⟨by rw[heap_alloc_old _ _ hgl];exact hb,heap_alloc_new _ _,Nat.le_refl _,List.Sublist.refl _,fun e he=>.inl he,fun e _ h=>by simp at h,rfl,rfl,rfl,by simp,fun b hlt _=>heap_alloc_old _ _ hlt⟩
 go_enter Try.func64,Try.ntmps64
 go_wp2
 go_loopw [4] (fun _ wr=>∃ es' seen it c0,Del p es g w.heap.size cl w wr es' seen it c0∧it=seen) (fun _ wr=>leftW g w.heap.size wr)
 case atStart=>exact⟨_,_,_,_,hD0,rfl⟩
 case round=>
  obtain⟨es',seen,it,c0,hD,rfl⟩:=hrel
  have hborn2:∀ x ∈ es'.toList,x.born<cl:=fun x hx=>hborn x (hD.sub.subset hx)
  rcases run_next_at (P:=Try.prog) wr 0 w.heap.size g cl c0 it es' cl hD.iter hD.at_ hborn2 hD.le with⟨h0,hrun⟩ | ⟨e,he,w1,hw1,hrun⟩
  ·go_wp2
   go_end0
   exact⟨rfl,es',it,it,c0,hD,fun e he=>hD.stay e he (all_seen _ _ h0 e he)⟩
  ·obtain⟨hem,hnew⟩:=mem_left he
   obtain⟨z,hz⟩:=hkeys e (hD.sub.subset hem)
   obtain⟨x,y,hv⟩:=hvals e (hD.sub.subset hem)
   have hD2:=hD.came (Nat.le_refl _) hgl hw1 (it.push e.born)
   have hen:=run_entry_at (P:=Try.prog) _ w.heap.size g cl it es' cl e hD2.iter hD2.at_ hem ((hD.sub.map _).nodup hbnd)
   have hc:∀ W,Below (setBlock w1 w.heap.size (.mapIter (some g) cl (it.push e.born) cl)).heap.size (setBlock w1 w.heap.size (.mapIter (some g) cl (it.push e.born) cl)) W→Calls Try.prog fid (#[e.key,e.val]++cb) W fun x W'=>x=.returned (.bool (p e))∧Below W.heap.size W W':=fun W hW=>hcl W e (hD.sub.subset hem) (hD2.later hW).block
   rw[hz,hv] at hrun hen hc
   generalize setBlock w1 w.heap.size (.mapIter (some g) cl (it.push e.born) cl)=W2 at *
   clear hrg hcl hD0
   go_wp2
   refine (hc _ ((Below.refl _ _).alloc (Nat.le_refl _) _)).mono ?_
   rintro _ w4 ⟨rfl,hb4⟩
   have hD4:=hD2.later (((Below.refl _ _).alloc (Nat.le_refl _) (.cells #[.int .i64 x,.int .i64 y] 75)).trans (hb4.mono (by simp)))
   clear hc hD2 hb4
   cases hp:p e
   ·have hD5:=hD4.kept hem hbnd hp
    go_wp2
    go_roundw
    case rel=>exact⟨es',it.push e.born,it.push e.born,cl,hD5,rfl⟩
    case measure=>rw[leftW_eq hD5,leftW_eq hD];exact left_shrinks es' it e he
   ·obtain⟨es2,hdel,hs2,hm2⟩:=run_delete (P:=Try.prog) (w:=w4) (tx:=3) (ty:=0) mapU intU hD4.at_ (fun x hx=>hkeys x (hD.sub.subset hx)) ((hD.sub.map _).nodup hnod) z
    rw[← hz] at hm2
    have hD5:=hD4.struck (Nat.le_refl _) hgl hem hbnd hnod hp hs2 hm2
    go_wp2
    go_roundw
    case rel=>exact⟨es2,it.push e.born,it.push e.born,cl,hD5,rfl⟩
    case measure=>rw[leftW_eq hD5,leftW_eq hD];exact left_struck he hs2
theorem cell_lt' {w:World} {a:Addr} {v:Value} (h:w.cell? a=some v):a.block<w.heap.size:=by
 refine Nat.lt_of_not_le fun hn=>?_
 have:w.heap[a.block]?=none:=Array.getElem?_eq_none hn
 simp[World.cell?,this] at h
theorem cell_map {w:World} {a:Addr} {v:Value} {es:Array MapEntry} {cl:Nat} (h:w.cell? a=some v):w.heap[a.block]?≠some (.map es cl):=fun q=>by
 simp[World.cell?,q] at h
set_option maxHeartbeats 4000000 in
set_option maxRecDepth 100000 in
theorem delC_any (gb rb ro n cap:Nat) (z x y e:Int) (W:World) (h1:W.cell? ⟨gb,2,none⟩=some (.slice (some ⟨rb,ro,none⟩) n cap)) (hz0:0≤z) (hz:z<n) (h2:W.cell? ⟨rb,ro+z.toNat * 2+1,none⟩=some (.int .i64 e)) :
  Calls Try.prog 65 #[.int .i64 z,.agg #[.int .i64 x,.int .i64 y],.pointer (some ⟨gb,0,none⟩)] W fun ex W'=>ex=.returned (.bool (decide (y≤e)))∧Below W.heap.size W W':=by
 go_enter Try.func65,Try.ntmps65
 go_wp2
 have c1:=(World.cell?_alloc_lt W (.cells #[.int .i64 x,.int .i64 y] 75) _ (cell_lt' h1)).trans h1
 have c2:=(World.cell?_alloc_lt W (.cells #[.int .i64 x,.int .i64 y] 75) _ (cell_lt' h2)).trans h2
 have c3:(W.alloc (.cells #[.int .i64 x,.int .i64 y] 75)).cell? ⟨W.heap.size,1,none⟩=some (.int .i64 y):=by rw[World.cell?_alloc_new];rfl
 have hb:Below W.heap.size W (W.alloc (.cells #[.int .i64 x,.int .i64 y] 75)):=(Below.refl _ _).alloc (Nat.le_refl _) _
 generalize W.alloc (.cells #[.int .i64 x,.int .i64 y] 75)=W1 at *
 clear h1 h2
 go_quiet (fail)
 go_wp2
 go_ret
 exact⟨rfl,hb.os,hb.tape,hb.output,hb.size,hb.block⟩
theorem Sat.boxCell' {C:Ctx} {ρ:Nat→Pl} {fr:AF} {mem:AM} {nx:Nat} {a:Act} {w:World} (h:Sat C ρ fr mem nx a w) {i:Nat} {t:TypeId} {cs:List Value} (hi:lk mem i=some (.box t cs)):∃ g,(ρ i).A=some ⟨g,0,none⟩∧∀ k v,cs[k]?=some v→w.cell? ⟨g,k,none⟩=some (den1 ρ v):=by
 obtain⟨g,hA,hb,-,-⟩:=h.blk i _ (lk_app hi)
 exact⟨g,hA,fun k v hv=>hb.cell' (by simp[hv])⟩
def hintF (hm:Int→Option (Int×Int)):Int→Option (List Value):=fun z=>(hm z).map pairC
theorem hintF_some {hm:Int→Option (Int×Int)} {z:Int} {l:List Value} (h:hintF hm z=some l):∃ p,hm z=some p∧l=pairC p:=by
 unfold hintF at h
 cases q:hm z with
 | none=>rw[q] at h;cases h
 | some p=>rw[q] at h;exact⟨p,rfl,(Option.some.inj h).symm⟩
theorem hintF_none {hm:Int→Option (Int×Int)} {z:Int} (h:hintF hm z=none):hm z=none:=by
 unfold hintF at h
 cases q:hm z with
 | none=>rfl
 | some p=>rw[q] at h;cases h
def delH (hm:Int→Option (Int×Int)) (rs:List (Int×Int)):Int→Option (Int×Int):=fun z=>match hm z with
 | none=>none
 | some p=>if p.2≤(rs.getD z.toNat (0,0)).2 then none else some p
def putH (hm:Int→Option (Int×Int)) (z:Int) (p:Int×Int):Int→Option (Int×Int):=fun y=>if y=z then some p else hm y
theorem putH_put (hm:Int→Option (Int×Int)) (z:Int) (p:Int×Int):mapPut (hintF hm) z (pairC p) (hintF (putH hm z p)):=fun y=>by
 unfold hintF putH
 by_cases h:y=z
 ·rw[if_pos h,if_pos h];rfl
 ·rw[if_neg h,if_neg h]
def ctDelG:CT:=fun vs mem nx K=>∃ h hm bx v0 v1 cap v3 v4 rk rs,vs=[.map (some h),.func (.func 65) #[] #[ptr bx]]∧lk mem h=some (.ext (.map .i64 true (hintF hm)))∧lk mem bx=some (.box 46 [v0,v1,slc rk (rs:List (Int×Int)).length cap,v3,v4])∧HasRow mem rk 2 pairC (0,0) rs∧(∀ z p,hm z=some p→0≤z∧z<rs.length)∧K (.tuple #[]) ((h,.ext (.map .i64 true (hintF (delH hm rs))))::mem) nx
theorem callT {args:Array Value} {w:World}:(callFunc 65 args).run Try.prog w=.ok (.enter 65 args) w:=by
 have h:(Try.prog).funcs[65]?=some Try.f65:=Try.func65
 have h1 : Try.f65.name ≠ "runtime.NumGoroutine" := by
  have : (Try.f65.name == "runtime.NumGoroutine") = false := by kernel_rfl
  simpa using this
 have h2:Try.f65.body=some (bodyOf Try.f65):=rfl
 simp[callFunc,h,h1,h2,mark]
theorem delGOk:CSound Try.prog 64 ctDelG:=⟨by kernel_rfl,fun {C ρ fr mem nx a w vs K} hc hs hv=>by
 obtain⟨h,hm,bx,v0,v1,cap,v3,v4,rk,rs,rfl,hl,hbx,hrow,hin,hK⟩:=hc
 obtain⟨g,es,cl,e1,e2,hbor,hM⟩:=hs.blk h _ (lk_app (r:=C.fm) hl)
 obtain⟨gb,hA,hcell⟩:=hs.boxCell' hbx
 have hc2:w.cell? ⟨gb,2,none⟩=some (.slice (ρ rk).A rs.length cap):=hcell 2 _ rfl
 have hrd:=hs.hasRd (enc:=pairC) (sz:=2) (fun _=>rfl) (by omega) hrow
 let p:MapEntry→Bool:=fun e=>match e.key,e.val with
  | .int _ z,.agg #[_,.int _ y]=>decide (y≤(rs.getD z.toNat (0,0)).2)
  | _,_=>false
 have hent:∀ e ∈ es.toList,∃ z q,e.key=.int .i64 z∧hm z=some q∧e.val=.agg #[.int .i64 q.1,.int .i64 q.2]∧p e=decide (q.2≤(rs.getD z.toNat (0,0)).2):=fun e he=>by
  obtain⟨z,l,h1,h2,h3⟩:=hM.key e he
  obtain⟨q,h4,rfl⟩:=hintF_some h2
  refine⟨z,q,h1,h4,h3,?_⟩
  show (match e.key,e.val with
   | .int _ z,.agg #[_,.int _ y]=>decide (y≤(rs.getD z.toNat (0,0)).2)
   | _,_=>false)=_
  rw[h1,h3]
  rfl
 have e3:([.map (some h),.func (.func 65) #[] #[ptr bx]].map (den ρ)).toArray=#[.map (some g),.func (.func 65) #[] #[.pointer (some ⟨gb,0,none⟩)]]:=by
  have:(ρ h).A.map (·.block)=some g:=by rw[e1];rfl
  simp[den,den2,den1,this,dA_whole,hA]
 rw[e3]
 refine (delG_any 65 g #[.pointer (some ⟨gb,0,none⟩)] p es cl w (fun _ _=>callT) e2 hM.born hM.bnd (fun e he=>by obtain⟨z,q,h1,-⟩:=hent e he;exact⟨z,h1⟩) hM.nod (fun e he=>by obtain⟨z,q,-,-,h1,-⟩:=hent e he;exact⟨_,_,h1⟩) (fun W e he hW=>?_)).mono ?_
 ·obtain⟨z,q,h1,h2,h3,h4⟩:=hent e he
  obtain⟨hz0,hz⟩:=hin z q h2
  obtain⟨b,off,x,hA2,hb2,hx,hcl⟩:=hrd.row (enc:=pairC) (sz:=2) (fun _=>rfl) (by omega) (k:=z.toNat) (by omega)
  rw[hA2] at hc2
  have hx2:rs.getD z.toNat (0,0)=x:=by rw[List.getD_eq_getElem?_getD,hx];rfl
  have hr2:=hcl 1 (.int .i64 x.2) rfl
  have k1:=(World.cell?_of_block (w:=w) (a:=⟨gb,2,none⟩) (hW gb (cell_lt' hc2) (fun q=>by subst q;exact cell_map hc2 e2))).trans hc2
  have k2:=(World.cell?_of_block (w:=w) (a:=⟨b,off+z.toNat * 2+1,none⟩) (hW b (cell_lt' hr2) (fun q=>by subst q;exact cell_map hr2 e2))).trans hr2
  rw[h1,h3,h4,hx2]
  exact delC_any gb b off rs.length cap z q.1 q.2 x.2 W k1 hz0 hz k2
 ·rintro e w' ⟨rfl,es',seen,it,c0,hD,hst⟩
  have hmo:MapOk .i64 true es' cl (hintF (delH hm rs)):=by
   have hsub:=hD.sub
   refine⟨fun e he=>?_,(hsub.map _).nodup hM.nod,fun e he=>hM.born e (hsub.subset he),(hsub.map _).nodup hM.bnd,fun z l hz=>?_,fun z l hz=>?_⟩
   ·obtain⟨z,q,h1,h2,h3,h4⟩:=hent e (hsub.subset he)
    refine⟨z,pairC q,h1,?_,h3⟩
    have:=hst e he
    rw[h4] at this
    unfold hintF delH
    rw[h2]
    dsimp only
    rw[if_neg (of_decide_eq_false this)]
    rfl
   ·obtain⟨q,h1,rfl⟩:=hintF_some hz
    unfold delH at h1
    cases h2:hm z with
    | none=>rw[h2] at h1;cases h1
    | some q2=>
     rw[h2] at h1
     dsimp only at h1
     split at h1
     ·cases h1
     ·rename_i hn
      obtain⟨e,he,hk⟩:=hM.all z (pairC q2) (by unfold hintF;rw[h2];rfl)
      refine⟨e,(hD.gone e he).resolve_right fun hp=>?_,hk⟩
      obtain⟨z',q',g1,g2,g3,g4⟩:=hent e he
      rw[hk] at g1
      cases g1
      rw[h2] at g2
      cases g2
      rw[g4] at hp
      exact hn (of_decide_eq_true hp)
   ·obtain⟨q,h1,rfl⟩:=hintF_some hz
    exact⟨fun u hu=>by simp[pairC] at hu;rcases hu with rfl | rfl<;>trivial,rfl,fun q=>by cases q⟩
  have hs1:Sat C ρ fr ((h,.ext (.map .i64 true (hintF (delH hm rs))))::mem) nx a (setObjW w g (.map es' cl)):=hs.write hl setObjW_size (fun b hb=>setObjW_far fun e=>hb (by
   show bno ρ h=some b
   rw[e];simp[bno,e1])) ⟨g,es',cl,e1,setObjW_at (heap_lt e2),hbor,hmo⟩ (fun g hg=>hg) (fun g hg=>hg) (setObjW_rest C hbor hs.rest)
  have hb2:Below (setObjW w g (.map es' cl)).heap.size (setObjW w g (.map es' cl)) w':=⟨hD.os,hD.tape,hD.output,by rw[setObjW_size];exact hD.size,fun b hb=>by
   rw[setObjW_size] at hb
   by_cases q:b=g
   ·subst q;rw[hD.at_,setObjW_at (heap_lt e2)]
   ·rw[setObjW_far q];exact hD.block b hb q⟩
  exact⟨.tuple #[],_,nx,ρ,by simp[den],hK,hs1.later hb2,(fun v hv=>by simp at hv),ExtS.refl _ _⟩⟩
end Go.Proofs.Ytdjkeplekchfdaa
namespace Go.Proofs.Ytdjkeplekchfdaa
open Go.RowKit
set_option linter.unusedSimpArgs false
set_option linter.unusedVariables false
/-! router.Take with hints,by inlining;what is known of a tenant. -/
abbrev tkFW:FT:=[(28,ctValidGP),(63,ctCkRoute),(64,ctDelG)]
abbrev tkDW:List (Nat×DQ):=[(1,{ k:=9,L:=[0,1,2,3,4,5,6,7,8,9,10,11,12,13,14,15,16,17,18,19,20,21,22,23,24,25,26,27,28,29,30,31,32,33,34,35,36,37,38,39,40,41,42,43,44,45,46,47,48,49,50,51,52,53,54,55,56,57,58,59,60],pre:=[(0,false),(1,false),(2,false),(3,false),(4,false),(5,false),(6,false),(7,false),(8,false)] }),(3,{ k:=12,L:=[0,1,2,3,4,5,6,7,8,9,10,11,12,13,14,15,16,17,18,19,20,21,22,23,24,25,26,27,28,29,30,31,32,33,34,35,36,37,38,39,40,41,42,43,44,45,46,47,48,49,50,51,52,53,54,55,56,57,58,59,60],pre:=[(0,false),(1,false),(2,false),(3,false),(4,false),(5,false),(6,false),(7,false),(8,false),(9,false),(10,false),(11,false)] }),(6,{ k:=6,L:=[0,1,2,3,4,5,6,7,8,9,10,11,12,13,14,15,16,17,18,19,20,21,22,23,24,25,26,27,29,30,31,32,33,34,35,36,37,38,39,40,41,42,43,44,45,46,47,48,49,50,51,52,53,54,55,56,57,58,59,60],pre:=[(0,false),(1,false),(2,false),(3,false),(4,false),(5,true)] })]
theorem tkFokW:FTokI Try.prog tkFW (inlOf tkDW):=fti_cons (validGPOk.i _) (fti_cons (ckRouteOk.i _) (fti_cons (delGOk.i _) fti_nil))
abbrev ctTkW:CT:=ctInl ttR tkFW tkDW Try.f37 (bodyOf Try.f37)
theorem tkWOk {I:List Nat} (hI:I.contains 37=true):CSoundI Try.prog I 37 ctTkW:=inl_ok ttRok (tkFokW) mixed (by kernel_rfl) Try.func37 rfl (by kernel_rfl) hI
def keE (hm:Int→Option (Int×Int)) (rs:List (Int×Int)) (z:Int):Int:=match hm z with
 | some p=>p.2
 | none=>(rs.getD z.toNat (0,0)).2
theorem keE_some {hm:Int→Option (Int×Int)} {rs:List (Int×Int)} {z:Int} {p:Int×Int} (h:hm z=some p):keE hm rs z=p.2:=by unfold keE;rw[h]
theorem keE_none {hm:Int→Option (Int×Int)} {rs:List (Int×Int)} {z:Int} (h:hm z=none):keE hm rs z=(rs.getD z.toNat (0,0)).2:=by unfold keE;rw[h]
theorem keE_take {hm:Int→Option (Int×Int)} {rs rj:List (Int×Int)} {z:Int} (h:(rs.getD z.toNat (0,0)).2≤(rj.getD z.toNat (0,0)).2):keE hm rs z≤keE (delH hm rj) rj z:=by
 unfold keE delH
 cases q:hm z with
 | none=>exact h
 | some p=>
  dsimp only
  by_cases g:p.2≤(rj.getD z.toNat (0,0)).2
  ·rw[if_pos g];exact g
  ·rw[if_neg g];exact Int.le_refl _
theorem keE_put {hm:Int→Option (Int×Int)} {rs:List (Int×Int)} {z y:Int} {p:Int×Int} (h:keE hm rs y≤p.2):keE hm rs z≤keE (putH hm y p) rs z:=by
 by_cases g:z=y
 ·subst g
  refine Int.le_trans h (Int.le_of_eq ?_)
  unfold keE putH
  rw[if_pos rfl]
 ·unfold keE putH
  rw[if_neg g]
  exact Int.le_refl _
theorem delH_in {hm:Int→Option (Int×Int)} {rs:List (Int×Int)} {z:Int} {p:Int×Int} (h:delH hm rs z=some p):hm z=some p:=by
 unfold delH at h
 cases q:hm z with
 | none=>rw[q] at h;cases h
 | some p2=>
  rw[q] at h
  dsimp only at h
  split at h
  ·cases h
  ·exact h
/-! Steps: four numbers each. -/
def ttS:TT:=[(70,tiRec [zi,zi,zi,zi] [0,1,2,3] [1,1,1,1] [1,1,1,1]),(67,tiSl 4 70 32)]++ttR
theorem ttSok:TTok Try.prog ttS:=by
 refine tt_mem _ _ ?_
 unfold ttS ttR ttL ttA tt
 repeat (refine tt_cons ⟨by kernel_rfl,by kernel_rfl,plains (by rfl),by kernel_rfl,by kernel_rfl,by kernel_rfl⟩ ?_)
 exact tt_nil
end Go.Proofs.Ytdjkeplekchfdaa
