import Derived.Test.YtjnndjnpcelafaaGreatPt25
import Derived.Deep.RegionWith
namespace Go.Proofs.YtjnndjnpcelafaaGreat
set_option maxHeartbeats 16000000
set_option maxRecDepth 100000
open Go.RowKit
set_option linter.unusedSimpArgs false
set_option linter.unusedVariables false
/-! store.Apply of a put to an empty store. -/
theorem zdh {w:World} {a:Addr} {v:Value} (h:w.cell? a=some v):a.block<w.heap.size:=by
 refine Nat.lt_of_not_le fun hn=>?_
 have:w.heap[a.block]?=none:=Array.getElem?_eq_none hn;simp[World.cell?,this] at h
theorem lenEmp (w:World) (m cl:Nat) (hg:w.heap[m]?=some (.map #[] cl)):(Builtin.len_ #[186] 3 #[.map (some m)]).run Tryz.prog w=.ok (.int .i64 0) w:=by
 simp[Builtin.len_,run_underlying mapS,zmT hg];rfl
theorem updEmp (w:World) (m cl:Nat) (s) (v:Value) (hg:w.heap[m]?=some (.map #[] cl)):(Instr.mapUpdate 186 (.map (some m)) (.string s) v).run Tryz.prog w=.ok () (zef w m (.map #[⟨.string s,v,cl⟩] (cl+1))):=by
 have hk:(Instr.checkKey false 10000 9 (.string s)).run Tryz.prog w=.ok () w:=by
  show (Instr.checkKey false (9999+1) 9 (.string s)).run Tryz.prog w=_;unfold Instr.checkKey;simp[run_underlying strU]
 have hf:(Instr.findKey 9 (.string s) []).run Tryz.prog w=.ok none w:=by simp[Instr.findKey,run_underlying strU,Instr.findNow]
 simp[Instr.mapUpdate,run_underlying mapS,zmT hg,hk,hf,setMap _ hg]
abbrev opV:Value:=.agg #[.int .i64 1,.int .i64 1,.int .i64 1,.int .i64 1,.int .i64 1,.int .i64 0,.string ⟨#[97]⟩,.string ⟨#[98]⟩]
theorem zix (w:World) (S0:List Nat) (g0:Nat) (hΦ:stE S0 g0 w) (hgS:g0 ∈ S0) (hS:∀ b,b ∈ S0->b<w.heap.size):Calls Tryz.prog 254 #[.pointer (some ⟨g0,0,none⟩),opV] w fun e w'=>e=.returned (.int .i64 0)/\(w'.os=w.os/\w'.tape=w.tape/\w'.output=w.output)/\w.heap.size<=w'.heap.size/\(∀ b,b<w.heap.size->b ∉ S0->w'.heap[b]?=w.heap[b]?)/\∃ S',(∀ b,b ∈ S'->b<w'.heap.size/\(w.heap.size<=b∨b ∈ S0))/\g0 ∈ S'/\stN S' g0 w':=by
 obtain⟨m,cl,h1,h2,h3,h4⟩:=hΦ;go_enter Tryz.func254,Tryz.ntmps254;go_wp2;have hB:∀ o1 o2:Obj,Below w.heap.size w ((w.alloc o1).alloc o2):=fun o1 o2=>(zfA w o1 o2).2.2.2
 have hX:∀ o1 o2:Obj,((w.alloc o1).alloc o2).heap[w.heap.size]?=some o1:=fun o1 o2=>(zfA w o1 o2).2.1
 generalize hW1:((w.alloc (.cells #[.int .i64 1,.int .i64 1,.int .i64 1,.int .i64 1,.int .i64 1,.int .i64 0,.string ⟨#[97]⟩,.string ⟨#[98]⟩] 182)).alloc (.cells #[.int .i64 1,.int .i64 1,.int .i64 1,.int .i64 1,.int .i64 1,.int .i64 0,.string ⟨#[97]⟩,.string ⟨#[98]⟩] 182))=W1;have hb:=hB (.cells #[.int .i64 1,.int .i64 1,.int .i64 1,.int .i64 1,.int .i64 1,.int .i64 0,.string ⟨#[97]⟩,.string ⟨#[98]⟩] 182) (.cells #[.int .i64 1,.int .i64 1,.int .i64 1,.int .i64 1,.int .i64 1,.int .i64 0,.string ⟨#[97]⟩,.string ⟨#[98]⟩] 182);have hx:=hX (.cells #[.int .i64 1,.int .i64 1,.int .i64 1,.int .i64 1,.int .i64 1,.int .i64 0,.string ⟨#[97]⟩,.string ⟨#[98]⟩] 182) (.cells #[.int .i64 1,.int .i64 1,.int .i64 1,.int .i64 1,.int .i64 1,.int .i64 0,.string ⟨#[97]⟩,.string ⟨#[98]⟩] 182);rw[hW1] at hb hx;clear hW1 hB hX;have b3:W1.heap[g0]?=some (.cells #[.map (some m)] 188):=(hb.block g0 (hS g0 h1)).trans h3;have b4:W1.heap[m]?=some (.map #[] cl):=(hb.block m (hS m h2)).trans h4;have c0:W1.cell? ⟨g0,0,none⟩=some (.map (some m)):=by simp[World.cell?,b3]
 have c00:W1.cell? ⟨g0,0+0,none⟩=some (.map (some m)):=c0;have c1:W1.cell? ⟨w.heap.size,1,none⟩=some (.int .i64 1):=by simp[World.cell?,hx]
 have c2:W1.cell? ⟨w.heap.size,2,none⟩=some (.int .i64 1):=by simp[World.cell?,hx]
 have c6:W1.cell? ⟨w.heap.size,6,none⟩=some (.string ⟨#[97]⟩):=by simp[World.cell?,hx]
 have c7:W1.cell? ⟨w.heap.size,7,none⟩=some (.string ⟨#[98]⟩):=by simp[World.cell?,hx]
 have hl:=ziU W1.drew m cl ⟨#[97]⟩ b4;have hl2:=ziU (W1.alloc (.cells #[.string ⟨#[]⟩,.int .i64 0] 184)).drew m cl ⟨#[97]⟩ (show (W1.alloc (.cells #[.string ⟨#[]⟩,.int .i64 0] 184)).heap[m]?=_ from (heap_alloc_old W1 _ (ziZ b4)).trans b4);have d0:(W1.alloc (.cells #[.string ⟨#[]⟩,.int .i64 0] 184)).cell? ⟨g0,0,none⟩=some (.map (some m)):=(World.cell?_alloc_lt W1 _ _ (zdh c0)).trans c0;have d00:(W1.alloc (.cells #[.string ⟨#[]⟩,.int .i64 0] 184)).cell? ⟨g0,0+0,none⟩=some (.map (some m)):=(World.cell?_alloc_lt W1 _ _ (zdh c00)).trans c00;have d6:(W1.alloc (.cells #[.string ⟨#[]⟩,.int .i64 0] 184)).cell? ⟨w.heap.size,6,none⟩=some (.string ⟨#[97]⟩):=(World.cell?_alloc_lt W1 _ _ (zdh c6)).trans c6;have d06:(W1.alloc (.cells #[.string ⟨#[]⟩,.int .i64 0] 184)).cell? ⟨w.heap.size,0+6,none⟩=some (.string ⟨#[97]⟩):=(World.cell?_alloc_lt W1 _ _ (zdh c6)).trans c6;go_region_with (fail)
 all_goals (
  have e0:(W1.alloc (.cells #[.string ⟨#[]⟩,.int .i64 0] 184)).drew.cell? ⟨g0,0,none⟩=some (.map (some m)):=d0
  have e00:(W1.alloc (.cells #[.string ⟨#[]⟩,.int .i64 0] 184)).drew.cell? ⟨g0,0+0,none⟩=some (.map (some m)):=d00
  have e1:(W1.alloc (.cells #[.string ⟨#[]⟩,.int .i64 0] 184)).drew.cell? ⟨w.heap.size,1,none⟩=some (.int .i64 1):=(World.cell?_alloc_lt W1 _ _ (zdh c1)).trans c1
  have e2:(W1.alloc (.cells #[.string ⟨#[]⟩,.int .i64 0] 184)).drew.cell? ⟨w.heap.size,2,none⟩=some (.int .i64 1):=(World.cell?_alloc_lt W1 _ _ (zdh c2)).trans c2
  have e6:(W1.alloc (.cells #[.string ⟨#[]⟩,.int .i64 0] 184)).drew.cell? ⟨w.heap.size,6,none⟩=some (.string ⟨#[97]⟩):=d6
  have e7:(W1.alloc (.cells #[.string ⟨#[]⟩,.int .i64 0] 184)).drew.cell? ⟨w.heap.size,7,none⟩=some (.string ⟨#[98]⟩):=(World.cell?_alloc_lt W1 _ _ (zdh c7)).trans c7
  have em:(W1.alloc (.cells #[.string ⟨#[]⟩,.int .i64 0] 184)).drew.heap[m]?=some (.map #[] cl):=(heap_alloc_old W1 _ (ziZ b4)).trans b4
  have hbV:Below w.heap.size w (W1.alloc (.cells #[.string ⟨#[]⟩,.int .i64 0] 184)).drew:=(hb.alloc hb.size _).trans ⟨rfl,rfl,rfl,nl_,fun _ _=>rfl⟩
  generalize (W1.alloc (.cells #[.string ⟨#[]⟩,.int .i64 0] 184)).drew=V at *
  have hlen:=lenEmp V m cl em
  clear hl hl2 d0 d00 d6 d06 c0 c00 c1 c2 c6 c7 b3 b4 hb hx
  go_wp2
  have hupd:=updEmp V.drew m cl ⟨#[97]⟩ (.agg #[.string ⟨#[98]⟩,.int .i64 1]) em
  go_region_with (fail)
  all_goals (
   try go_wp2
   go_ret
   refine⟨rfl,⟨hbV.os,hbV.tape,hbV.output⟩,?_,fun b hlt hn=>?_,S0,fun b hb=>⟨?_,.inr hb⟩,hgS,trivial⟩
   ·rw[zf4];exact hbV.size
   ·rw[ziz (fun h=>hn (by rw[h];exact h2))];exact hbV.block b hlt
   ·rw[zf4];exact Nat.lt_of_lt_of_le (hS b hb) hbV.size))
theorem zlW:CSound Tryz.prog 254 (ctHW (X:=Unit) stE stN (fun _=>[opV]) (fun _=>True) (fun _=>.int .i64 0)):=zmQ k_ stN_loc (fun _ ρ=>by simp[den,zaW,zal]) (fun _ _ _=>⟨rfl,trivial⟩) (fun _ w S0 g0 _ hΦ hg hS=>zix w S0 g0 hΦ hg hS)
end Go.Proofs.YtjnndjnpcelafaaGreat
