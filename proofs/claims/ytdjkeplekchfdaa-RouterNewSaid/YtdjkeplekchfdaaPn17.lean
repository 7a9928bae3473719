import Derived.Test.YtdjkeplekchfdaaPn16
import Derived.OwnWalk
import Derived.Maps.RangeRun
namespace Go.Proofs.Ytdjkeplekchfdaa
open Go.RowKit
set_option linter.unusedSimpArgs false
set_option linter.unusedVariables false
/-! slices.Clone of lists of whatever kind. -/
def RowPostK (T:TypeId) (size:Nat) (w:World) (n:Nat) (xs:List Value) (e:Ending) (w':World):Prop:=
 ∃ (A:Option Addr) (cp:Nat),e=.returned (.slice A n cp)∧w'.ownsRow w.heap.size T size (.slice A n cp) n xs∧Below w.heap.size w w'
theorem ckZoneInfo:(Try.prog.info? 89).map (fun i=>(i.zero,i.size,i.bytes))=some (some (.agg #[.int .i64 0]),1,8):=by kernel_rfl
theorem ckZoneNil (n cp:Nat) (w:World):Sem.run Try.prog (binOp BinOp.eql 22 (.slice none n cp) (.slice none 0 0)) w=.ok (.bool true) w:=by kernel_rfl
theorem ckZoneSome (ad:Addr) (n cp:Nat) (w:World):Sem.run Try.prog (binOp BinOp.eql 22 (.slice (some ad) n cp) (.slice none 0 0)) w=.ok (.bool false) w:=by kernel_rfl
theorem ckZonePl (x:Int):∀ v ∈ intC x,plain1 v:=by
 intro v hv
 simp only[intC,List.mem_cons,List.not_mem_nil,or_false] at hv
 subst hv;trivial
set_option maxHeartbeats 2000000 in
set_option maxRecDepth 100000 in
theorem ckZone_any (A:Option Addr) (cp:Nat) (l:List Int) (w:World) (hl:l.length≤100) (hr:Rd w (·<w.heap.size) A (flat intC l)) :
  Calls Try.prog 52 #[.slice A l.length cp] w (RowPostK 89 1 w l.length (flat intC l)):=by
 obtain⟨ii,hii,hi0,hi1,hi2⟩:=info_parts ckZoneInfo
 have hlen:=flat_length (enc:=intC) (sz:=1) (fun _=>rfl) l
 cases A with
 | none=>
  have h0:l=[]:=by
   cases l with
   | nil=>rfl
   | cons a r=>
    obtain⟨b,o,hA,_⟩:=hr (by simp[flat,intC])
    cases hA
  subst h0
  go_enter Try.func52,Try.ntmps52
  have hq:=ckZoneNil 0 cp w
  go_wp2
  go_ret
  exact⟨none,0,rfl,World.ownsRow_nil _ _ _ _,Below.refl _ _⟩
 | some ad=>
  have hq:=ckZoneSome ad l.length cp w
  have h0:=World.ownsRow_lit (base:=w.heap.size) (e:=89) (size:=1) w #[] 0 (Nat.le_refl _) (by unfold maxLen;omega) rfl
  have hb0:=(Below.refl w.heap.size w).alloc (Nat.le_refl _) (.cells #[] 89)
  have h1:=(hr.alloc (.cells #[] 89))
  have hone:∀ u ∈ flat intC l,u.oneCell'=true:=by
   intro u hu
   obtain⟨a,_,ha⟩:=List.mem_flatMap.1 (show u ∈ l.flatMap intC from hu)
   simp only[intC,List.mem_cons,List.not_mem_nil,or_false] at ha
   subst ha;rfl
  go_enter Try.func52,Try.ntmps52
  go_wp2_with (at_builtin;refine wpList_append_rd _ rfl _ _ _ rfl w.heap.size 89 ii _ 1 8 Try.underlying22 hii hi0 hi1 hi2 rfl (by omega) _ 0 [] rfl h0 _ (some ad) l.length cp (flat intC l) rfl hlen h1 hone ?c1 ?c2 ?c3 ?_)
  case c1=>unfold maxLen;omega
  case c2=>omega
  intro v' w2 hown hg hat
  (try rw[Nat.zero_add] at hown);(try rw[List.nil_append] at hown)
  obtain⟨A',cp',rfl⟩:=own_form hown
  have HO:=Lib.hid hown
  have HB:=Lib.hid (hb0.grown hg (by simp) (fun k hk=>by injection hk with hk;rw[← hk];exact Nat.le_refl _))
  clear hown hg hat h0 hb0 hq
  go_wp2
  go_ret
  exact⟨A',cp',rfl,HO.out,HB.out⟩
def ctCkZone:CT:=fun vs mem nx K=>∃ v l,vs=[v]∧SrcR mem 1 intC 0 (l:List Int) v∧l.length≤100∧∀ cap2,K (slc nx l.length cap2) ((nx,rowOfL 500000 1 intC 0 l)::mem) (nx+1)
theorem ckZoneOk:CSound Try.prog 52 ctCkZone:=⟨by kernel_rfl,fun {C ρ fr mem nx a w vs K} hc hs hv=>by
 obtain⟨v,l,rfl,hr,hl,hK⟩:=hc
 obtain⟨A0,c0,e0,hr⟩:=hs.srcR (enc:=intC) (sz:=1) (fun _=>rfl) (by omega) hr
 have e1:([v].map (den ρ)).toArray=#[.slice A0 l.length c0]:=by rw[List.map_cons,e0];rfl
 rw[e1]
 refine (ckZone_any A0 c0 l w hl hr).mono ?_
 rintro e w' ⟨A,cp,rfl,ho,hb⟩
 have hrd:=Rd.of_own ho
 obtain⟨q1,-⟩:=(hs.later hb).addList hs.frB hs.rest.size (enc:=intC) (sz:=1) (fun _=>rfl) (by omega) ckZonePl 0 (t:=500000) rfl hrd
 have q2:setPl ρ nx ⟨A,1,l.length,false,noSub⟩ nx=⟨A,1,l.length,false,noSub⟩:=setPl_same _ _ _
 refine⟨slc nx l.length cp,_,_,_,?_,hK cp,q1,?_,fun i hi=>setPl_lt _ _ hi,by omega⟩
 ·show Ending.returned (.slice A l.length cp)=.returned (.slice (setPl ρ nx ⟨A,1,l.length,false,noSub⟩ nx).A l.length cp)
  rw[q2]
 ·exact⟨show nx<nx+1 by omega,by rw[q2]⟩⟩
theorem ckCellInfo:(Try.prog.info? 91).map (fun i=>(i.zero,i.size,i.bytes))=some (some (.agg #[.int .i64 0,.int .i64 0]),2,16):=by kernel_rfl
theorem ckCellNil (n cp:Nat) (w:World):Sem.run Try.prog (binOp BinOp.eql 23 (.slice none n cp) (.slice none 0 0)) w=.ok (.bool true) w:=by kernel_rfl
theorem ckCellSome (ad:Addr) (n cp:Nat) (w:World):Sem.run Try.prog (binOp BinOp.eql 23 (.slice (some ad) n cp) (.slice none 0 0)) w=.ok (.bool false) w:=by kernel_rfl
theorem ckCellPl (x:(Int×Int)):∀ v ∈ pairC x,plain1 v:=by
 intro v hv
 simp only[pairC,List.mem_cons,List.not_mem_nil,or_false] at hv
 rcases hv with rfl | rfl<;>trivial
set_option maxHeartbeats 2000000 in
set_option maxRecDepth 100000 in
theorem ckCell_any (A:Option Addr) (cp:Nat) (l:List (Int×Int)) (w:World) (hl:l.length≤100) (hr:Rd w (·<w.heap.size) A (flat pairC l)) :
  Calls Try.prog 53 #[.slice A l.length cp] w (RowPostK 91 2 w l.length (flat pairC l)):=by
 obtain⟨ii,hii,hi0,hi1,hi2⟩:=info_parts ckCellInfo
 have hlen:=flat_length (enc:=pairC) (sz:=2) (fun _=>rfl) l
 cases A with
 | none=>
  have h0:l=[]:=by
   cases l with
   | nil=>rfl
   | cons a r=>
    obtain⟨b,o,hA,_⟩:=hr (by simp[flat,pairC])
    cases hA
  subst h0
  go_enter Try.func53,Try.ntmps53
  have hq:=ckCellNil 0 cp w
  go_wp2
  go_ret
  exact⟨none,0,rfl,World.ownsRow_nil _ _ _ _,Below.refl _ _⟩
 | some ad=>
  have hq:=ckCellSome ad l.length cp w
  have h0:=World.ownsRow_lit (base:=w.heap.size) (e:=91) (size:=2) w #[] 0 (Nat.le_refl _) (by unfold maxLen;omega) rfl
  have hb0:=(Below.refl w.heap.size w).alloc (Nat.le_refl _) (.cells #[] 91)
  have h1:=(hr.alloc (.cells #[] 91))
  have hone:∀ u ∈ flat pairC l,u.oneCell'=true:=by
   intro u hu
   obtain⟨a,_,ha⟩:=List.mem_flatMap.1 (show u ∈ l.flatMap pairC from hu)
   simp only[pairC,List.mem_cons,List.not_mem_nil,or_false] at ha
   rcases ha with rfl | rfl<;>rfl
  go_enter Try.func53,Try.ntmps53
  go_wp2_with (at_builtin;refine wpList_append_rd _ rfl _ _ _ rfl w.heap.size 91 ii _ 2 16 Try.underlying23 hii hi0 hi1 hi2 rfl (by omega) _ 0 [] rfl h0 _ (some ad) l.length cp (flat pairC l) rfl hlen h1 hone ?c1 ?c2 ?c3 ?_)
  case c1=>unfold maxLen;omega
  case c2=>omega
  intro v' w2 hown hg hat
  (try rw[Nat.zero_add] at hown);(try rw[List.nil_append] at hown)
  obtain⟨A',cp',rfl⟩:=own_form hown
  have HO:=Lib.hid hown
  have HB:=Lib.hid (hb0.grown hg (by simp) (fun k hk=>by injection hk with hk;rw[← hk];exact Nat.le_refl _))
  clear hown hg hat h0 hb0 hq
  go_wp2
  go_ret
  exact⟨A',cp',rfl,HO.out,HB.out⟩
def ctCkCell:CT:=fun vs mem nx K=>∃ v l,vs=[v]∧SrcR mem 2 pairC (0,0) (l:List (Int×Int)) v∧l.length≤100∧∀ cap2,K (slc nx l.length cap2) ((nx,rowOfL 500000 2 pairC (0,0) l)::mem) (nx+1)
theorem ckCellOk:CSound Try.prog 53 ctCkCell:=⟨by kernel_rfl,fun {C ρ fr mem nx a w vs K} hc hs hv=>by
 obtain⟨v,l,rfl,hr,hl,hK⟩:=hc
 obtain⟨A0,c0,e0,hr⟩:=hs.srcR (enc:=pairC) (sz:=2) (fun _=>rfl) (by omega) hr
 have e1:([v].map (den ρ)).toArray=#[.slice A0 l.length c0]:=by rw[List.map_cons,e0];rfl
 rw[e1]
 refine (ckCell_any A0 c0 l w hl hr).mono ?_
 rintro e w' ⟨A,cp,rfl,ho,hb⟩
 have hrd:=Rd.of_own ho
 obtain⟨q1,-⟩:=(hs.later hb).addList hs.frB hs.rest.size (enc:=pairC) (sz:=2) (fun _=>rfl) (by omega) ckCellPl (0,0) (t:=500000) rfl hrd
 have q2:setPl ρ nx ⟨A,2,l.length,false,noSub⟩ nx=⟨A,2,l.length,false,noSub⟩:=setPl_same _ _ _
 refine⟨slc nx l.length cp,_,_,_,?_,hK cp,q1,?_,fun i hi=>setPl_lt _ _ hi,by omega⟩
 ·show Ending.returned (.slice A l.length cp)=.returned (.slice (setPl ρ nx ⟨A,2,l.length,false,noSub⟩ nx).A l.length cp)
  rw[q2]
 ·exact⟨show nx<nx+1 by omega,by rw[q2]⟩⟩
theorem ckTenInfo:(Try.prog.info? 95).map (fun i=>(i.zero,i.size,i.bytes))=some (some (.agg #[.int .i64 0,.int .i64 0,.int .i64 0,.int .i64 0,.int .i64 0,.int .i64 0,.bool false]),7,56):=by kernel_rfl
theorem ckTenNil (n cp:Nat) (w:World):Sem.run Try.prog (binOp BinOp.eql 24 (.slice none n cp) (.slice none 0 0)) w=.ok (.bool true) w:=by kernel_rfl
theorem ckTenSome (ad:Addr) (n cp:Nat) (w:World):Sem.run Try.prog (binOp BinOp.eql 24 (.slice (some ad) n cp) (.slice none 0 0)) w=.ok (.bool false) w:=by kernel_rfl
theorem ckTenPl (x:Ten):∀ v ∈ tenC x,plain1 v:=by
 intro v hv
 simp only[tenC,List.mem_cons,List.not_mem_nil,or_false] at hv
 rcases hv with rfl | rfl | rfl | rfl | rfl | rfl | rfl<;>trivial
set_option maxHeartbeats 2000000 in
set_option maxRecDepth 100000 in
theorem ckTen_any (A:Option Addr) (cp:Nat) (l:List Ten) (w:World) (hl:l.length≤100) (hr:Rd w (·<w.heap.size) A (flat tenC l)) :
  Calls Try.prog 54 #[.slice A l.length cp] w (RowPostK 95 7 w l.length (flat tenC l)):=by
 obtain⟨ii,hii,hi0,hi1,hi2⟩:=info_parts ckTenInfo
 have hlen:=flat_length (enc:=tenC) (sz:=7) (fun _=>rfl) l
 cases A with
 | none=>
  have h0:l=[]:=by
   cases l with
   | nil=>rfl
   | cons a r=>
    obtain⟨b,o,hA,_⟩:=hr (by simp[flat,tenC])
    cases hA
  subst h0
  go_enter Try.func54,Try.ntmps54
  have hq:=ckTenNil 0 cp w
  go_wp2
  go_ret
  exact⟨none,0,rfl,World.ownsRow_nil _ _ _ _,Below.refl _ _⟩
 | some ad=>
  have hq:=ckTenSome ad l.length cp w
  have h0:=World.ownsRow_lit (base:=w.heap.size) (e:=95) (size:=7) w #[] 0 (Nat.le_refl _) (by unfold maxLen;omega) rfl
  have hb0:=(Below.refl w.heap.size w).alloc (Nat.le_refl _) (.cells #[] 95)
  have h1:=(hr.alloc (.cells #[] 95))
  have hone:∀ u ∈ flat tenC l,u.oneCell'=true:=by
   intro u hu
   obtain⟨a,_,ha⟩:=List.mem_flatMap.1 (show u ∈ l.flatMap tenC from hu)
   simp only[tenC,List.mem_cons,List.not_mem_nil,or_false] at ha
   rcases ha with rfl | rfl | rfl | rfl | rfl | rfl | rfl<;>rfl
  go_enter Try.func54,Try.ntmps54
  go_wp2_with (at_builtin;refine wpList_append_rd _ rfl _ _ _ rfl w.heap.size 95 ii _ 7 56 Try.underlying24 hii hi0 hi1 hi2 rfl (by omega) _ 0 [] rfl h0 _ (some ad) l.length cp (flat tenC l) rfl hlen h1 hone ?c1 ?c2 ?c3 ?_)
  case c1=>unfold maxLen;omega
  case c2=>omega
  intro v' w2 hown hg hat
  (try rw[Nat.zero_add] at hown);(try rw[List.nil_append] at hown)
  obtain⟨A',cp',rfl⟩:=own_form hown
  have HO:=Lib.hid hown
  have HB:=Lib.hid (hb0.grown hg (by simp) (fun k hk=>by injection hk with hk;rw[← hk];exact Nat.le_refl _))
  clear hown hg hat h0 hb0 hq
  go_wp2
  go_ret
  exact⟨A',cp',rfl,HO.out,HB.out⟩
def ctCkTen:CT:=fun vs mem nx K=>∃ v l,vs=[v]∧SrcR mem 7 tenC default (l:List Ten) v∧l.length≤100∧∀ cap2,K (slc nx l.length cap2) ((nx,rowOfL 500000 7 tenC default l)::mem) (nx+1)
theorem ckTenOk:CSound Try.prog 54 ctCkTen:=⟨by kernel_rfl,fun {C ρ fr mem nx a w vs K} hc hs hv=>by
 obtain⟨v,l,rfl,hr,hl,hK⟩:=hc
 obtain⟨A0,c0,e0,hr⟩:=hs.srcR (enc:=tenC) (sz:=7) (fun _=>rfl) (by omega) hr
 have e1:([v].map (den ρ)).toArray=#[.slice A0 l.length c0]:=by rw[List.map_cons,e0];rfl
 rw[e1]
 refine (ckTen_any A0 c0 l w hl hr).mono ?_
 rintro e w' ⟨A,cp,rfl,ho,hb⟩
 have hrd:=Rd.of_own ho
 obtain⟨q1,-⟩:=(hs.later hb).addList hs.frB hs.rest.size (enc:=tenC) (sz:=7) (fun _=>rfl) (by omega) ckTenPl default (t:=500000) rfl hrd
 have q2:setPl ρ nx ⟨A,7,l.length,false,noSub⟩ nx=⟨A,7,l.length,false,noSub⟩:=setPl_same _ _ _
 refine⟨slc nx l.length cp,_,_,_,?_,hK cp,q1,?_,fun i hi=>setPl_lt _ _ hi,by omega⟩
 ·show Ending.returned (.slice A l.length cp)=.returned (.slice (setPl ρ nx ⟨A,7,l.length,false,noSub⟩ nx).A l.length cp)
  rw[q2]
 ·exact⟨show nx<nx+1 by omega,by rw[q2]⟩⟩
theorem ckVerInfo:(Try.prog.info? 93).map (fun i=>(i.zero,i.size,i.bytes))=some (some (.agg #[.int .i64 0,.int .i64 0]),2,16):=by kernel_rfl
theorem ckVerNil (n cp:Nat) (w:World):Sem.run Try.prog (binOp BinOp.eql 25 (.slice none n cp) (.slice none 0 0)) w=.ok (.bool true) w:=by kernel_rfl
theorem ckVerSome (ad:Addr) (n cp:Nat) (w:World):Sem.run Try.prog (binOp BinOp.eql 25 (.slice (some ad) n cp) (.slice none 0 0)) w=.ok (.bool false) w:=by kernel_rfl
theorem ckVerPl (x:(Int×Int)):∀ v ∈ pairC x,plain1 v:=by
 intro v hv
 simp only[pairC,List.mem_cons,List.not_mem_nil,or_false] at hv
 rcases hv with rfl | rfl<;>trivial
set_option maxHeartbeats 2000000 in
set_option maxRecDepth 100000 in
theorem ckVer_any (A:Option Addr) (cp:Nat) (l:List (Int×Int)) (w:World) (hl:l.length≤100) (hr:Rd w (·<w.heap.size) A (flat pairC l)) :
  Calls Try.prog 55 #[.slice A l.length cp] w (RowPostK 93 2 w l.length (flat pairC l)):=by
 obtain⟨ii,hii,hi0,hi1,hi2⟩:=info_parts ckVerInfo
 have hlen:=flat_length (enc:=pairC) (sz:=2) (fun _=>rfl) l
 cases A with
 | none=>
  have h0:l=[]:=by
   cases l with
   | nil=>rfl
   | cons a r=>
    obtain⟨b,o,hA,_⟩:=hr (by simp[flat,pairC])
    cases hA
  subst h0
  go_enter Try.func55,Try.ntmps55
  have hq:=ckVerNil 0 cp w
  go_wp2
  go_ret
  exact⟨none,0,rfl,World.ownsRow_nil _ _ _ _,Below.refl _ _⟩
 | some ad=>
  have hq:=ckVerSome ad l.length cp w
  have h0:=World.ownsRow_lit (base:=w.heap.size) (e:=93) (size:=2) w #[] 0 (Nat.le_refl _) (by unfold maxLen;omega) rfl
  have hb0:=(Below.refl w.heap.size w).alloc (Nat.le_refl _) (.cells #[] 93)
  have h1:=(hr.alloc (.cells #[] 93))
  have hone:∀ u ∈ flat pairC l,u.oneCell'=true:=by
   intro u hu
   obtain⟨a,_,ha⟩:=List.mem_flatMap.1 (show u ∈ l.flatMap pairC from hu)
   simp only[pairC,List.mem_cons,List.not_mem_nil,or_false] at ha
   rcases ha with rfl | rfl<;>rfl
  go_enter Try.func55,Try.ntmps55
  go_wp2_with (at_builtin;refine wpList_append_rd _ rfl _ _ _ rfl w.heap.size 93 ii _ 2 16 Try.underlying25 hii hi0 hi1 hi2 rfl (by omega) _ 0 [] rfl h0 _ (some ad) l.length cp (flat pairC l) rfl hlen h1 hone ?c1 ?c2 ?c3 ?_)
  case c1=>unfold maxLen;omega
  case c2=>omega
  intro v' w2 hown hg hat
  (try rw[Nat.zero_add] at hown);(try rw[List.nil_append] at hown)
  obtain⟨A',cp',rfl⟩:=own_form hown
  have HO:=Lib.hid hown
  have HB:=Lib.hid (hb0.grown hg (by simp) (fun k hk=>by injection hk with hk;rw[← hk];exact Nat.le_refl _))
  clear hown hg hat h0 hb0 hq
  go_wp2
  go_ret
  exact⟨A',cp',rfl,HO.out,HB.out⟩
def ctCkVer:CT:=fun vs mem nx K=>∃ v l,vs=[v]∧SrcR mem 2 pairC (0,0) (l:List (Int×Int)) v∧l.length≤100∧∀ cap2,K (slc nx l.length cap2) ((nx,rowOfL 500000 2 pairC (0,0) l)::mem) (nx+1)
theorem ckVerOk:CSound Try.prog 55 ctCkVer:=⟨by kernel_rfl,fun {C ρ fr mem nx a w vs K} hc hs hv=>by
 obtain⟨v,l,rfl,hr,hl,hK⟩:=hc
 obtain⟨A0,c0,e0,hr⟩:=hs.srcR (enc:=pairC) (sz:=2) (fun _=>rfl) (by omega) hr
 have e1:([v].map (den ρ)).toArray=#[.slice A0 l.length c0]:=by rw[List.map_cons,e0];rfl
 rw[e1]
 refine (ckVer_any A0 c0 l w hl hr).mono ?_
 rintro e w' ⟨A,cp,rfl,ho,hb⟩
 have hrd:=Rd.of_own ho
 obtain⟨q1,-⟩:=(hs.later hb).addList hs.frB hs.rest.size (enc:=pairC) (sz:=2) (fun _=>rfl) (by omega) ckVerPl (0,0) (t:=500000) rfl hrd
 have q2:setPl ρ nx ⟨A,2,l.length,false,noSub⟩ nx=⟨A,2,l.length,false,noSub⟩:=setPl_same _ _ _
 refine⟨slc nx l.length cp,_,_,_,?_,hK cp,q1,?_,fun i hi=>setPl_lt _ _ hi,by omega⟩
 ·show Ending.returned (.slice A l.length cp)=.returned (.slice (setPl ρ nx ⟨A,2,l.length,false,noSub⟩ nx).A l.length cp)
  rw[q2]
 ·exact⟨show nx<nx+1 by omega,by rw[q2]⟩⟩
theorem ckIntInfo:(Try.prog.info? 3).map (fun i=>(i.zero,i.size,i.bytes))=some (some (.int .i64 0),1,8):=by kernel_rfl
theorem ckIntNil (n cp:Nat) (w:World):Sem.run Try.prog (binOp BinOp.eql 26 (.slice none n cp) (.slice none 0 0)) w=.ok (.bool true) w:=by kernel_rfl
theorem ckIntSome (ad:Addr) (n cp:Nat) (w:World):Sem.run Try.prog (binOp BinOp.eql 26 (.slice (some ad) n cp) (.slice none 0 0)) w=.ok (.bool false) w:=by kernel_rfl
theorem ckIntPl (x:Int):∀ v ∈ intC x,plain1 v:=by
 intro v hv
 simp only[intC,List.mem_cons,List.not_mem_nil,or_false] at hv
 subst hv;trivial
set_option maxHeartbeats 2000000 in
set_option maxRecDepth 100000 in
theorem ckInt_any (A:Option Addr) (cp:Nat) (l:List Int) (w:World) (hl:l.length≤100) (hr:Rd w (·<w.heap.size) A (flat intC l)) :
  Calls Try.prog 56 #[.slice A l.length cp] w (RowPostK 3 1 w l.length (flat intC l)):=by
 obtain⟨ii,hii,hi0,hi1,hi2⟩:=info_parts ckIntInfo
 have hlen:=flat_length (enc:=intC) (sz:=1) (fun _=>rfl) l
 cases A with
 | none=>
  have h0:l=[]:=by
   cases l with
   | nil=>rfl
   | cons a r=>
    obtain⟨b,o,hA,_⟩:=hr (by simp[flat,intC])
    cases hA
  subst h0
  go_enter Try.func56,Try.ntmps56
  have hq:=ckIntNil 0 cp w
  go_wp2
  go_ret
  exact⟨none,0,rfl,World.ownsRow_nil _ _ _ _,Below.refl _ _⟩
 | some ad=>
  have hq:=ckIntSome ad l.length cp w
  have h0:=World.ownsRow_lit (base:=w.heap.size) (e:=3) (size:=1) w #[] 0 (Nat.le_refl _) (by unfold maxLen;omega) rfl
  have hb0:=(Below.refl w.heap.size w).alloc (Nat.le_refl _) (.cells #[] 3)
  have h1:=(hr.alloc (.cells #[] 3))
  have hone:∀ u ∈ flat intC l,u.oneCell'=true:=by
   intro u hu
   obtain⟨a,_,ha⟩:=List.mem_flatMap.1 (show u ∈ l.flatMap intC from hu)
   simp only[intC,List.mem_cons,List.not_mem_nil,or_false] at ha
   subst ha;rfl
  go_enter Try.func56,Try.ntmps56
  go_wp2_with (at_builtin;refine wpList_append_rd _ rfl _ _ _ rfl w.heap.size 3 ii _ 1 8 Try.underlying26 hii hi0 hi1 hi2 rfl (by omega) _ 0 [] rfl h0 _ (some ad) l.length cp (flat intC l) rfl hlen h1 hone ?c1 ?c2 ?c3 ?_)
  case c1=>unfold maxLen;omega
  case c2=>omega
  intro v' w2 hown hg hat
  (try rw[Nat.zero_add] at hown);(try rw[List.nil_append] at hown)
  obtain⟨A',cp',rfl⟩:=own_form hown
  have HO:=Lib.hid hown
  have HB:=Lib.hid (hb0.grown hg (by simp) (fun k hk=>by injection hk with hk;rw[← hk];exact Nat.le_refl _))
  clear hown hg hat h0 hb0 hq
  go_wp2
  go_ret
  exact⟨A',cp',rfl,HO.out,HB.out⟩
def ctCkInt:CT:=fun vs mem nx K=>∃ v l,vs=[v]∧SrcR mem 1 intC 0 (l:List Int) v∧l.length≤100∧∀ cap2,K (slc nx l.length cap2) ((nx,rowOfL 500000 1 intC 0 l)::mem) (nx+1)
theorem ckIntOk:CSound Try.prog 56 ctCkInt:=⟨by kernel_rfl,fun {C ρ fr mem nx a w vs K} hc hs hv=>by
 obtain⟨v,l,rfl,hr,hl,hK⟩:=hc
 obtain⟨A0,c0,e0,hr⟩:=hs.srcR (enc:=intC) (sz:=1) (fun _=>rfl) (by omega) hr
 have e1:([v].map (den ρ)).toArray=#[.slice A0 l.length c0]:=by rw[List.map_cons,e0];rfl
 rw[e1]
 refine (ckInt_any A0 c0 l w hl hr).mono ?_
 rintro e w' ⟨A,cp,rfl,ho,hb⟩
 have hrd:=Rd.of_own ho
 obtain⟨q1,-⟩:=(hs.later hb).addList hs.frB hs.rest.size (enc:=intC) (sz:=1) (fun _=>rfl) (by omega) ckIntPl 0 (t:=500000) rfl hrd
 have q2:setPl ρ nx ⟨A,1,l.length,false,noSub⟩ nx=⟨A,1,l.length,false,noSub⟩:=setPl_same _ _ _
 refine⟨slc nx l.length cp,_,_,_,?_,hK cp,q1,?_,fun i hi=>setPl_lt _ _ hi,by omega⟩
 ·show Ending.returned (.slice A l.length cp)=.returned (.slice (setPl ρ nx ⟨A,1,l.length,false,noSub⟩ nx).A l.length cp)
  rw[q2]
 ·exact⟨show nx<nx+1 by omega,by rw[q2]⟩⟩
/-! maps.DeleteFunc of a map without entries. -/
/-! The router: types,and its functions by inlining. -/
def ttR:TT:=[(110,tiRec [zi,zs0,zs0,zs0,zs0,zs0,zs0,zi,zi,zi,zi,zb,zi,zi,zs0,.int .u64 0,.int .u64 0,.map none] [0,10,11,12,17] [10,1,1,5,1] [2,1,1,2,1]),(35,{ size:=1,agg:=false,zero:=[.pointer none],isP:=true }),(108,{ size:=1,agg:=false,zero:=[.map none],mpk:=some .i64,mpe:=75 })]++ttL
theorem ttRok:TTok Try.prog ttR:=by
 refine tt_mem _ _ ?_
 unfold ttR ttL ttA tt
 repeat (refine tt_cons ⟨by kernel_rfl,by kernel_rfl,plains (by rfl),by kernel_rfl,by kernel_rfl,by kernel_rfl⟩ ?_)
 exact tt_nil
abbrev rnF:FT:=[(51,ctTenG),(52,ctCkZone),(53,ctCkCell),(54,ctCkTen),(55,ctCkVer),(56,ctCkInt)]
theorem rnFok:FTokI Try.prog rnF []:=fti_cons (tenGOk.i _) (fti_cons (ckZoneOk.i _) (fti_cons (ckCellOk.i _) (fti_cons (ckTenOk.i _) (fti_cons (ckVerOk.i _) (fti_cons (ckIntOk.i _) fti_nil)))))
abbrev ctRN:CT:=ctInl ttR rnF [] Try.f17 (bodyOf Try.f17)
theorem rnOk {I:List Nat} (hI:I.contains 17=true):CSoundI Try.prog I 17 ctRN:=inl_ok ttRok rnFok mixed (by kernel_rfl) Try.func17 rfl (by kernel_rfl) hI
abbrev ctRt:CT:=ctInl ttR [] [] Try.f40 (bodyOf Try.f40)
theorem rtOk {I:List Nat} (hI:I.contains 40=true):CSoundI Try.prog I 40 ctRt:=inl_ok ttRok (fti_nil) mixed (by kernel_rfl) Try.func40 rfl (by kernel_rfl) hI
abbrev ctNb:CT:=ctInl ttR [] [] Try.f39 (bodyOf Try.f39)
theorem nbOk {I:List Nat} (hI:I.contains 39=true):CSoundI Try.prog I 39 ctNb:=inl_ok ttRok (fti_nil) mixed (by kernel_rfl) Try.func39 rfl (by kernel_rfl) hI
abbrev ctKn:CT:=ctInl ttR [] [] Try.f66 (bodyOf Try.f66)
theorem knOk {I:List Nat} (hI:I.contains 66=true):CSoundI Try.prog I 66 ctKn:=inl_ok ttRok (fti_nil) mixed (by kernel_rfl) Try.func66 rfl (by kernel_rfl) hI
abbrev lnF:FT:=[(66,ctKn)]
abbrev ctLn:CT:=ctInl ttR lnF [(9000000,{ k:=0,L:=[66] })] Try.f38 (bodyOf Try.f38)
theorem lnOk {I:List Nat} (hI:I.contains 38=true):CSoundI Try.prog I 38 ctLn:=inl_ok ttRok (fti_cons (knOk (by decide)) fti_nil) mixed (by kernel_rfl) Try.func38 rfl (by kernel_rfl) hI
/-! law16.awake -/
abbrev wC16:Cfg:=⟨1,[0],[(0,5),(0,5),(0,5)],[⟨1,0,0,0,1,0,false⟩],[(0,0)],[0],[0],1,5,0⟩
theorem lens16:Lens wC16:=by
 unfold Lens maxLen
 decide
def aw6F:FT:=[(17,ctRN),(40,ctRt),(38,ctLn),(39,ctNb)]
def aw6D:List (Nat×DQ):=[(9000000,{ k:=0,L:=[17,40,38,39] })]
theorem aw6Fok:FTokI Try.prog aw6F (inlOf aw6D):=fti_cons (rnOk (by decide)) (fti_cons (rtOk (by decide)) (fti_cons (lnOk (by decide)) (fti_cons (nbOk (by decide)) fti_nil)))
set_option maxRecDepth 100000 in
set_option maxHeartbeats 4000000 in
theorem awake16_sx:sx ttR aw6F aw6D (bodyOf Try.f14) (argF 0 []) (uniM {}) 13 (endx ttR Try.f14.results.toList fun v _ _=>v=.bool true):=by
 refine⟨_,wC16,rfl,⟨_,_,_,_,_,_,rfl,⟨.inr (.inl ⟨13,_,rfl,⟨_,_,_,rfl,Nat.le_refl _,fun k hk=>by match k,hk with | 0,_=>rfl⟩⟩),.inr (.inl ⟨14,_,rfl,⟨_,_,_,rfl,Nat.le_refl _,fun k hk=>by match k,hk with | 0,_=>rfl | 1,_=>rfl | 2,_=>rfl⟩⟩),.inr (.inl ⟨18,_,rfl,⟨_,_,_,rfl,Nat.le_refl _,fun k hk=>by match k,hk with | 0,_=>rfl⟩⟩)⟩,.inr (.inl ⟨15,_,rfl,⟨_,_,_,rfl,Nat.le_refl _,fun k hk=>by match k,hk with | 0,_=>rfl⟩⟩),.inr (.inl ⟨16,_,rfl,⟨_,_,_,rfl,Nat.le_refl _,fun k hk=>by match k,hk with | 0,_=>rfl⟩⟩),.inr (.inl ⟨17,_,rfl,⟨_,_,_,rfl,Nat.le_refl _,fun k hk=>by match k,hk with | 0,_=>rfl⟩⟩)⟩,lens16,?_⟩
 refine⟨fun q=>absurd q (by decide),fun _=>?_⟩
 refine⟨_,wC16.zones,rfl,.inr (.inl ⟨13,_,rfl,⟨_,_,_,rfl,Nat.le_refl _,fun k hk=>by match k,hk with | 0,_=>rfl⟩⟩),by decide,fun k_zones=>?_⟩
 refine⟨_,wC16.cells,rfl,.inr (.inl ⟨14,_,rfl,⟨_,_,_,rfl,Nat.le_refl _,fun k hk=>by match k,hk with | 0,_=>rfl | 1,_=>rfl | 2,_=>rfl⟩⟩),by decide,fun k_cells=>?_⟩
 refine⟨_,wC16.tenants,rfl,.inr (.inl ⟨18,_,rfl,⟨_,_,_,rfl,Nat.le_refl _,fun k hk=>by match k,hk with | 0,_=>rfl⟩⟩),by decide,fun k_tenants=>?_⟩
 refine⟨_,wC16.versions,rfl,.inr (.inl ⟨15,_,rfl,⟨_,_,_,rfl,Nat.le_refl _,fun k hk=>by match k,hk with | 0,_=>rfl⟩⟩),by decide,fun k_versions=>?_⟩
 refine⟨_,wC16.replicas,rfl,.inr (.inl ⟨16,_,rfl,⟨_,_,_,rfl,Nat.le_refl _,fun k hk=>by match k,hk with | 0,_=>rfl⟩⟩),by decide,fun k_replicas=>?_⟩
 refine⟨_,wC16.observers,rfl,.inr (.inl ⟨17,_,rfl,⟨_,_,_,rfl,Nat.le_refl _,fun k hk=>by match k,hk with | 0,_=>rfl⟩⟩),by decide,fun k_observers=>?_⟩
 repeat (first | refine⟨fun _=>?_,fun h=>Bool.noConfusion h⟩ | refine⟨fun h=>Bool.noConfusion h,fun _=>?_⟩ | fail)
 refine⟨(fun l h=>nomatch h),fun _=>?_⟩
 repeat (first | refine⟨fun _=>?_,fun h=>Bool.noConfusion h⟩ | refine⟨fun h=>Bool.noConfusion h,fun _=>?_⟩ | fail)
 refine⟨(fun l h=>nomatch h),fun _=>?_⟩
 repeat (first | refine⟨fun _=>?_,fun h=>Bool.noConfusion h⟩ | refine⟨fun h=>Bool.noConfusion h,fun _=>?_⟩ | fail)
 refine⟨fun y=>if y=0 then some [.int .i64 1,.int .i64 1] else none,fun y=>rfl,?_⟩
 repeat (first | refine⟨fun _=>?_,fun h=>Bool.noConfusion h⟩ | refine⟨fun h=>Bool.noConfusion h,fun _=>?_⟩ | fail)
 refine⟨fun l h=>?_,fun h=>absurd h (by simp)⟩
 obtain rfl:l=[.int .i64 1,.int .i64 1]:=(by simpa using h.symm)
 repeat (first | refine⟨fun _=>?_,fun h=>Bool.noConfusion h⟩ | refine⟨fun h=>Bool.noConfusion h,fun _=>?_⟩ | fail)
 refine⟨fun l h=>?_,fun h=>absurd h (by simp)⟩
 obtain rfl:l=[.int .i64 1,.int .i64 1]:=(by simpa using h.symm)
 repeat (first | refine⟨fun _=>?_,fun h=>Bool.noConfusion h⟩ | refine⟨fun h=>Bool.noConfusion h,fun _=>?_⟩ | fail)
 rfl
theorem awake16_any (w:World):Calls Try.prog 14 #[] w fun e w'=>e=.returned (.bool true)∧Below w.heap.size w w':=by
 have:=uni_calls ttRok aw6Fok Try.func14 rfl (D:=aw6D) (by kernel_rfl) (vs:=[]) rfl {} {} w {} (fun v hv=>absurd hv (List.not_mem_nil)) awake16_sx
 refine this.mono ?_
 rintro e w' ⟨v,mem',nx',ρ',rfl,rfl,hv,hm',hb⟩
 exact⟨rfl,hb⟩
def ctAwake16:CT:=fun vs mem nx K=>vs=[]∧K (.bool true) mem nx
theorem awake16Ok:CSound Try.prog 14 ctAwake16:=CSound.pure (by kernel_rfl) (by
 rintro vs mem nx K ⟨rfl,hK⟩
 exact⟨_,hK,fun ρ n=>⟨rfl,trivial⟩,fun ρ w=>awake16_any w⟩)
/-! Plain facts on configurations and atlases. -/
theorem MadeCfg.lens {c:Cfg} (h:MadeCfg c):Lens c:=by
 have h1:=h.zones
 have h2:=h.cells
 have h3:=h.tenants
 have h4:=h.versions
 have h5:=h.replicas
 have h6:=h.observers
 unfold Lens maxLen
 omega
abbrev zCfg:Cfg:=⟨0,[],[],[],[],[],[],0,0,0⟩
theorem mkLight_below (A:Option Addr) (n cp:Nat) (w:World) (hn:n≤maxLen):Calls Try.prog 13 #[.slice A n cp] w fun r w'=>r=.returned (.bool (decide (n≤200)))∧Below w.heap.size w w':=by
 refine (mkLight_any A n cp w hn).mono ?_
 rintro e w' ⟨h,rfl⟩
 exact⟨h,Below.refl _ _⟩
def ctLight:CT:=fun vs mem nx K=>∃ Mz0 xz0 z0,vs=[slc Mz0 (z0:List Int).length xz0]∧(lk mem Mz0=some (intRow z0))∧(z0.length≤maxLen)∧K (.bool (decide (z0.length≤200))) mem nx
theorem lightOk:CSound Try.prog 13 ctLight:=(ptsOk (R:=fun l z=>∃ z0,l=[.li z0]∧z=.bool (decide (z0.length≤200))) (pre:=fun l=>∃ z0,l=[.li z0]∧(z0.length≤maxLen)) (by kernel_rfl) (by
 rintro ps w ⟨z0,hps,hpre⟩ hok
 obtain⟨xz0,yz0,ps0,rfl,hps0⟩:=dt_l hps
 obtain rfl:=dt_nil hps0
 have hpz0:=hok (.li xz0 yz0 z0) (by simp)
 refine (mkLight_below xz0 z0.length yz0 w hpre).mono ?_
 rintro e w' ⟨rfl,hb⟩
 exact⟨_,⟨z0,rfl,rfl⟩,trivial,rfl,hb⟩)).mono (by
 rintro vs mem nx K ⟨Mz0,xz0,z0,rfl,hk,hpre,hK⟩
 exact⟨[.li Mz0 xz0 z0],rfl,⟨hk,trivial⟩,⟨_,rfl,hpre⟩,by rintro z ⟨z0',hl,hz⟩;cases hl;subst hz;exact hK⟩)
end Go.Proofs.Ytdjkeplekchfdaa
