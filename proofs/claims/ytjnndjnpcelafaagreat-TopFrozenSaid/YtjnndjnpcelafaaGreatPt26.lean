import Derived.Test.YtjnndjnpcelafaaGreatPt25
import Derived.Shelf.SlIter.Nil
import Derived.Shelf.SortM.Plain
import Derived.Shelf.SortM.SortNone
namespace Go.Proofs.YtjnndjnpcelafaaGreat
set_option maxHeartbeats 16000000
set_option maxRecDepth 100000
open Go.RowKit Go.Maps Go.Sort Go.Shelf
set_option linter.unusedSimpArgs false
set_option linter.unusedVariables false
/-! store.Keys of an empty store. The layings of the shelf's contracts,in plain words. -/
def shKeysA_ren:Go.Shelf.Ren:=⟨fun | 7=>245 | 10=>296 | n=>n,fun | 23=>186 | 26=>9 | 3=>184 | 28=>301 | 0=>0 | 27=>300 | 33=>180 | 4=>4 | n=>n,fun | n=>n⟩
theorem zm1:SlLaysZ.n7 Tryz.prog shKeysA_ren:={
 mixed:=by kernel_rfl
 f7:=⟨Tryz.f245.name,d_,Tryz.func245.trans (congrArg some k_)⟩
 f10:=⟨Tryz.f296.name,d_,Tryz.func296.trans (congrArg some k_)⟩
 t0:=Tryz.underlying0
 a0:=Tryz.isAgg0
 z0:=Tryz.sizeOf0
 v0:=Tryz.zeroValue0
 t4:=Tryz.underlying4
 a4:=Tryz.isAgg4
 z4:=Tryz.sizeOf4
 v4:=Tryz.zeroValue4
 t23:=Tryz.underlying186
 a23:=Tryz.isAgg186
 z23:=Tryz.sizeOf186
 v23:=Tryz.zeroValue186
 t26:=Tryz.underlying9
 a26:=Tryz.isAgg9
 z26:=Tryz.sizeOf9
 v26:=Tryz.zeroValue9
 t27:=Tryz.underlying300
 a27:=Tryz.isAgg300
 z27:=Tryz.sizeOf300
 v27:=Tryz.zeroValue300
 t28:=Tryz.underlying301
 a28:=Tryz.isAgg301
 z28:=Tryz.sizeOf301
 v28:=Tryz.zeroValue301
 t33:=Tryz.underlying180
 a33:=Tryz.isAgg180
 z33:=Tryz.sizeOf180
 v33:=Tryz.zeroValue180 }
def shSortedA_ren:Go.Shelf.Ren:=⟨fun | 6=>244 | 8=>294 | 9=>295 | 11=>324 | 13=>206 | 12=>325 | 23=>264 | 24=>265 | 14=>334 | 15=>335 | 16=>336 | 17=>337 | 18=>338 | 19=>339 | 20=>340 | 21=>341 | 22=>342 | 25=>344 | 26=>304 | 27=>305 | 28=>345 | 29=>346 | 30=>347 | 31=>348 | n=>n,fun | 26=>9 | 28=>301 | 24=>263 | 0=>0 | 3=>3 | 37=>96 | 48=>235 | 50=>237 | 4=>4 | 40=>307 | 39=>306 | 45=>132 | 5=>5 | 9=>9 | 51=>338 | 55=>342 | 57=>364 | 58=>365 | 33=>180 | n=>n,fun | n=>n⟩
theorem zlZ:SlLaysZ.n6 Tryz.prog shSortedA_ren:={
 mixed:=by kernel_rfl
 f6:=⟨Tryz.f244.name,d_,Tryz.func244.trans (congrArg some k_)⟩
 f8:=⟨Tryz.f294.name,d_,Tryz.func294.trans (congrArg some k_)⟩
 f11:=⟨Tryz.f324.name,d_,Tryz.func324.trans (congrArg some k_)⟩
 t0:=Tryz.underlying0
 a0:=Tryz.isAgg0
 z0:=Tryz.sizeOf0
 v0:=Tryz.zeroValue0
 t24:=Tryz.underlying263
 a24:=Tryz.isAgg263
 z24:=Tryz.sizeOf263
 v24:=Tryz.zeroValue263
 t26:=Tryz.underlying9
 a26:=Tryz.isAgg9
 z26:=Tryz.sizeOf9
 v26:=Tryz.zeroValue9
 t28:=Tryz.underlying301
 a28:=Tryz.isAgg301
 z28:=Tryz.sizeOf301
 v28:=Tryz.zeroValue301
 i26:=by kernel_rfl }
def shSortA_ren:Go.Shelf.Ren:=⟨fun | 6=>295 | 8=>206 | 9=>325 | 19=>264 | 20=>265 | 21=>334 | 22=>335 | 23=>336 | 24=>337 | 25=>338 | 26=>339 | 27=>340 | 28=>341 | 29=>342 | 36=>344 | 31=>304 | 32=>305 | 37=>345 | 38=>346 | 39=>347 | 41=>348 | n=>n,fun | 27=>263 | 29=>9 | 3=>3 | 32=>96 | 26=>263 | 0=>0 | 44=>235 | 46=>237 | 4=>4 | 36=>307 | 35=>306 | 41=>132 | 5=>5 | 9=>9 | 53=>338 | 57=>342 | 63=>364 | 64=>365 | n=>n,fun | n=>n⟩
theorem zm0:SlLaysM.n6 Tryz.prog shSortA_ren:={
 mixed:=by kernel_rfl
 f6:=⟨Tryz.f295.name,d_,Tryz.func295.trans (congrArg some k_)⟩
 f8:=Tryz.func206.trans (congrArg some k_)
 f9:=⟨Tryz.f325.name,d_,Tryz.func325.trans (congrArg some k_)⟩
 f19:=Tryz.func264.trans (congrArg some k_)
 f20:=Tryz.func265.trans (congrArg some k_)
 f21:=⟨Tryz.f334.name,d_,Tryz.func334.trans (congrArg some k_)⟩
 f22:=⟨Tryz.f335.name,d_,Tryz.func335.trans (congrArg some k_)⟩
 f23:=⟨Tryz.f336.name,d_,Tryz.func336.trans (congrArg some k_)⟩
 f24:=⟨Tryz.f337.name,d_,Tryz.func337.trans (congrArg some k_)⟩
 f25:=⟨Tryz.f338.name,d_,Tryz.func338.trans (congrArg some k_)⟩
 f26:=⟨Tryz.f339.name,d_,Tryz.func339.trans (congrArg some k_)⟩
 f27:=⟨Tryz.f340.name,d_,Tryz.func340.trans (congrArg some k_)⟩
 f28:=⟨Tryz.f341.name,d_,Tryz.func341.trans (congrArg some k_)⟩
 f29:=⟨Tryz.f342.name,d_,Tryz.func342.trans (congrArg some k_)⟩
 f31:=Tryz.func304.trans (congrArg some k_)
 f32:=Tryz.func305.trans (congrArg some k_)
 f36:=⟨Tryz.f344.name,d_,Tryz.func344.trans (congrArg some k_)⟩
 f37:=⟨Tryz.f345.name,d_,Tryz.func345.trans (congrArg some k_)⟩
 f38:=⟨Tryz.f346.name,d_,Tryz.func346.trans (congrArg some k_)⟩
 f39:=⟨Tryz.f347.name,d_,Tryz.func347.trans (congrArg some k_)⟩
 f41:=⟨Tryz.f348.name,d_,Tryz.func348.trans (congrArg some k_)⟩
 t0:=Tryz.underlying0
 a0:=Tryz.isAgg0
 z0:=Tryz.sizeOf0
 v0:=Tryz.zeroValue0
 t3:=Tryz.underlying3
 a3:=Tryz.isAgg3
 z3:=Tryz.sizeOf3
 v3:=Tryz.zeroValue3
 t4:=Tryz.underlying4
 a4:=Tryz.isAgg4
 z4:=Tryz.sizeOf4
 v4:=Tryz.zeroValue4
 t5:=Tryz.underlying5
 a5:=Tryz.isAgg5
 z5:=Tryz.sizeOf5
 v5:=Tryz.zeroValue5
 t9:=Tryz.underlying9
 a9:=Tryz.isAgg9
 z9:=Tryz.sizeOf9
 v9:=Tryz.zeroValue9
 t26:=Tryz.underlying263
 a26:=Tryz.isAgg263
 z26:=Tryz.sizeOf263
 v26:=Tryz.zeroValue263
 t27:=Tryz.underlying263
 a27:=Tryz.isAgg263
 z27:=Tryz.sizeOf263
 v27:=Tryz.zeroValue263
 t29:=Tryz.underlying9
 a29:=Tryz.isAgg9
 z29:=Tryz.sizeOf9
 v29:=Tryz.zeroValue9
 t32:=Tryz.underlying96
 a32:=Tryz.isAgg96
 z32:=Tryz.sizeOf96
 v32:=Tryz.zeroValue96
 t35:=Tryz.underlying306
 a35:=Tryz.isAgg306
 z35:=Tryz.sizeOf306
 v35:=Tryz.zeroValue306
 t36:=Tryz.underlying307
 a36:=Tryz.isAgg307
 z36:=Tryz.sizeOf307
 v36:=Tryz.zeroValue307
 t41:=Tryz.underlying132
 a41:=Tryz.isAgg132
 z41:=Tryz.sizeOf132
 v41:=Tryz.zeroValue132
 t44:=Tryz.underlying235
 a44:=Tryz.isAgg235
 z44:=Tryz.sizeOf235
 v44:=Tryz.zeroValue235
 t46:=Tryz.underlying237
 a46:=Tryz.isAgg237
 z46:=Tryz.sizeOf237
 v46:=Tryz.zeroValue237
 t53:=Tryz.underlying338
 a53:=Tryz.isAgg338
 z53:=Tryz.sizeOf338
 v53:=Tryz.zeroValue338
 t57:=Tryz.underlying342
 a57:=Tryz.isAgg342
 z57:=Tryz.sizeOf342
 v57:=Tryz.zeroValue342
 t63:=Tryz.underlying364
 a63:=Tryz.isAgg364
 z63:=Tryz.sizeOf364
 v63:=Tryz.zeroValue364
 t64:=Tryz.underlying365
 a64:=Tryz.isAgg365
 z64:=Tryz.sizeOf365
 v64:=Tryz.zeroValue365 }
theorem shSorts (m : Nat) : AnyZ.SortsIn Tryz.prog shSortedA_ren Fence.wide m :=
  ⟨fun blk off cap ss W hH hblk hsz => callsIn_wide.2 (AnyM.slices_Sort_string zm0 blk off cap ss W hH hblk hsz),
   fun p cap W => callsIn_wide.2 (AnyM.slices_Sort_string_none zm0 p cap W)⟩
theorem zmu {w:World} {m cl:Nat} (h:w.heap[m]?=some (.map #[] cl)):w.ownsMap (H:=Nat) Tryz.prog 9 (fun _=>none) m 0 (.map []):=by
 refine⟨#[],cl,h,⟨Nat.zero_le _,?_,fun x hx=>by simp at hx⟩,nl_,rfl⟩;constructor<;>simp
theorem zkq (w:World) (S0:List Nat) (g0:Nat) (hΦ:stE S0 g0 w) (hS:∀ b,b ∈ S0->b<w.heap.size):Calls Tryz.prog 196 #[.pointer (some ⟨g0,0,none⟩)] w fun e w'=>e=.returned (.slice none 0 0)/\Below w.heap.size w w':=by
 obtain⟨m,cl,h1,h2,h3,h4⟩:=hΦ;have hc:w.cell? ⟨g0,0,none⟩=some (.map (some m)):=by simp[World.cell?,h3]
 have hc0:w.cell? ⟨g0,0+0,none⟩=some (.map (some m)):=hc;have hown:=zmu h4;refine (callsIn_wide (n:=6)).1 ?_;have hseq:SeqGives Fence.wide 2 Tryz.prog 296 #[.pointer (some ⟨w.heap.size,0,none⟩)] encStr (fun ss=>ss.Perm (strKeys (H:=Nat) (.map []))) (Maps.size (H:=Nat) (.map [])) (w.alloc (.cells #[.map (some m)] 186)):=
  AnyZ.keys_gives (ρ:=shKeysA_ren) { zm1 with } Fence.wide _ trivial rfl o_ w.heap.size m 0 (.map []) _ (by simp) (by simp) (by
   obtain⟨es,clock,hb,Ft,hs,hD⟩:=hown
   exact⟨es,clock,(Below.heap_alloc _ _ m (hS m h2)).trans hb,Ft,hs,hD⟩)
 have cK:∀ mb W,CallsIn Fence.wide 5 Tryz.prog 245 #[.map mb] W fun e w'=>e=.returned (.func (.func 296) #[] #[.pointer (some ⟨W.heap.size,0,none⟩)])/\w'=W.alloc (.cells #[.map mb] 186):=fun mb W=>AnyZ.keys_in zm1 Fence.wide 5 trivial rfl mb W
 have cS:=AnyZ.sorted_in zlZ Fence.wide 5 trivial trivial trivial trivial rfl o_ (shSorts _) (enters_of Tryz.func295 k_ rfl) 296 #[.pointer (some ⟨w.heap.size,0,none⟩)] trivial (enters_of Tryz.func296 k_ rfl) _ 0 (Nat.zero_le _) o_ _ hseq;change CallsIn _ _ Tryz.prog 244 _ _ _ at cS;have hfK:Fence.wide.fn 245:=trivial;have hfS:Fence.wide.fn 244:=trivial;refine callsIn_of_wp Tryz.func196 rfl trivial ?_ rfl;simp only[Tryz.ntmps196,List.size_toArray,List.length_cons,List.length_nil,Nat.reduceAdd,Nat.reduceSub,Array.replicate_succ,Array.replicate_zero,List.push_toArray,List.append_toArray,List.nil_append,List.cons_append]
 gi_wp2_with (first
  | (gi_at_call 245;refine (cK _ _).mono ?_;rintro e w' ⟨rfl,rfl⟩)
  | (gi_at_call 244;refine cS.mono ?_;rintro e w' ⟨v,ss,rfl,hS2,hrow,hnil,hb⟩;obtain rfl:v=.slice none 0 0:=hnil.2 (List.Perm.eq_nil hS2)))
 go_ret;exact⟨rfl,((Below.refl _ w).alloc nl_ _).trans (hb.mono (by simp))⟩
theorem stKeysOk:CSound Tryz.prog 196 (ctHR (X:=Unit) stE (fun _=>[]) (fun _=>.slice none 0 0)):=zjW k_ (fun _ _=>rfl) (fun _ _ _=>⟨rfl,trivial⟩) (fun _ w S0 g0 hΦ hS=>zkq w S0 g0 hΦ hS)
end Go.Proofs.YtjnndjnpcelafaaGreat
