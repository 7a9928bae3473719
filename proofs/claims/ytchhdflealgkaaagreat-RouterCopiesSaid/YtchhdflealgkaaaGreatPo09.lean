import Derived.Test.YtchhdflealgkaaaGreatPo08
namespace Go.Proofs.YtchhdflealgkaaaGreat
open Go.RowKit
set_option linter.unusedSimpArgs false
set_option linter.unusedVariables false
set_option maxHeartbeats 4000000 in
set_option maxRecDepth 100000 in
theorem r6places_any (e:Ent) (nt nc nr:Int) (w:World) (h1:1≤e.kind) (h2:e.kind≤16) (hv:0≤nt) (hv2:nt≤100) (hw:0≤nc) (hw2:nc≤100) (hx:0≤nr) (hx2:nr≤100) :
  Calls Tryz.prog 190 #[.agg (entC e).toArray,.int .i64 nt,.int .i64 nc,.int .i64 nr] w fun x w'=>x=.returned (.bool (placesR (hasK e.kind 116) (hasK e.kind 99) (hasK e.kind 67) (hasK e.kind 111) (hasK e.kind 114) e nt nc nr))∧Below w.heap.size w w':=by
 obtain⟨kind,tick,tenant,cell,other,epoch,since,till,n⟩:=e
 unfold entC
 simp only at *
 have HC:Hid (∀ (c:UInt8) (n:Int),(c.toNat:Int)=n→∀ W,Calls Tryz.prog 199 #[.int .i64 kind,.int .u8 n] W fun e w'=>e=.returned (.bool (hasK kind c))∧Below W.heap.size W w'):=Lib.hid (fun c n hn W=>hn ▸ r6has_any kind c W h1 h2)
 have hbx:=Blk.new w 56 #[.int .i64 kind,.int .i64 tick,.int .i64 tenant,.int .i64 cell,.int .i64 other,.int .i64 epoch,.int .i64 since,.int .i64 till,.int .i64 n]
 have hbel:=(Below.refl w.heap.size w).alloc (Nat.le_refl _) (.cells #[.int .i64 kind,.int .i64 tick,.int .i64 tenant,.int .i64 cell,.int .i64 other,.int .i64 epoch,.int .i64 since,.int .i64 till,.int .i64 n] 56)
 have c0:=hbx.cell' (i:=0) (v:=.int .i64 kind) rfl
 have c1:=hbx.cell' (i:=1) (v:=.int .i64 tick) rfl
 have c2:=hbx.cell' (i:=2) (v:=.int .i64 tenant) rfl
 have c3:=hbx.cell' (i:=3) (v:=.int .i64 cell) rfl
 have c4:=hbx.cell' (i:=4) (v:=.int .i64 other) rfl
 have c5:=hbx.cell' (i:=5) (v:=.int .i64 epoch) rfl
 have c6:=hbx.cell' (i:=6) (v:=.int .i64 since) rfl
 have c7:=hbx.cell' (i:=7) (v:=.int .i64 till) rfl
 have c8:=hbx.cell' (i:=8) (v:=.int .i64 n) rfl
 go_enter Tryz.func190,Tryz.ntmps190
 go_wp2_with fail
 generalize w.alloc _=W at *
 have hg:=hbx.lt
 have HX:Hid (∀ (y:Later W.heap.size W) b o,b<W.heap.size→y.world.cell? ⟨b,o,none⟩=W.cell? ⟨b,o,none⟩):=Lib.hid (fun y b o h=>y.cell h)
 have et:IntKind.i64.wrap (nt-1)=nt-1:=IntWalk.i64_in _ (by omega)
 go_upto_region 2 with fail
 go_cut [29] (fun s wx=>s=.bool ((hasK kind 116 != decide (tenant≠-1))||(hasK kind 116&&!inR tenant 0 (nt-1)))∧Below W.heap.size W wx)
 case first=>
  have hx:=HX.out
  by_cases ht:tenant=-1
  ·have e1:(tenant != -1)=false:=by simp[ht]
   have HTT:=Lib.hid ht
   clear ht
   cases hT:hasK kind 116
   all_goals
    refine wp_region_below W.heap.size (by kernel_rfl) (by kernel_rfl) ?_
    repeat (first | go_big_quiet_step ((first | (go_at_call 199;exact quiet_belowW _ (HC.out 116 116 rfl _)) | (go_at_call 189;exact quiet_sameW _ (r6in_any _ _ _ _)))) | quiet_step ((first | (go_at_call 199;exact quiet_belowW _ (HC.out 116 116 rfl _)) | (go_at_call 189;exact quiet_sameW _ (r6in_any _ _ _ _)))))
    refine wpQuiet_nil ?_
    rintro w' ⟨y,rfl⟩
    go_wp2
    go_meet
    exact⟨by simp[HTT.out,hT],y.below⟩
  ·have e1:(tenant != -1)=true:=by simp[ht]
   cases hT:hasK kind 116
   all_goals
    refine wp_region_below W.heap.size (by kernel_rfl) (by kernel_rfl) ?_
    repeat (first | go_big_quiet_step ((first | (go_at_call 199;exact quiet_belowW _ (HC.out 116 116 rfl _)) | (go_at_call 189;exact quiet_sameW _ (r6in_any _ _ _ _)))) | quiet_step ((first | (go_at_call 199;exact quiet_belowW _ (HC.out 116 116 rfl _)) | (go_at_call 189;exact quiet_sameW _ (r6in_any _ _ _ _)))))
    refine wpQuiet_nil ?_
    rintro w' ⟨y,rfl⟩
    go_wp2
    go_meet
    exact⟨by simp[ht,hT],y.below⟩
 case rest=>
  obtain⟨rfl,hbl⟩:=hcut
  replace hbel:=hbel.trans (hbl.mono (Nat.le_of_lt hg))
  replace hbx:=hbx.below hbl hg
  clear HX hbl et hg
  replace c0:=hbx.cell' (i:=0) (v:=.int .i64 kind) rfl
  replace c1:=hbx.cell' (i:=1) (v:=.int .i64 tick) rfl
  replace c2:=hbx.cell' (i:=2) (v:=.int .i64 tenant) rfl
  replace c3:=hbx.cell' (i:=3) (v:=.int .i64 cell) rfl
  replace c4:=hbx.cell' (i:=4) (v:=.int .i64 other) rfl
  replace c5:=hbx.cell' (i:=5) (v:=.int .i64 epoch) rfl
  replace c6:=hbx.cell' (i:=6) (v:=.int .i64 since) rfl
  replace c7:=hbx.cell' (i:=7) (v:=.int .i64 till) rfl
  replace c8:=hbx.cell' (i:=8) (v:=.int .i64 n) rfl
  generalize hq:((hasK kind 116 != decide (tenant≠-1))||(hasK kind 116&&!inR tenant 0 (nt-1)))=q at *
  have HQ:=Lib.hid hq
  clear hq
  cases q
  ·go_wp2_with (first
    | (go_at_call 199;(with_reducible refine (HC.out 99 99 rfl _).mono ?_);rintro x wq ⟨rfl,hbq⟩;replace hbel:=hbel.trans (hbq.mono hbel.size);replace hbx:=hbx.below hbq hbx.lt;clear hbq;replace c0:=hbx.cell' (i:=0) (v:=.int .i64 kind) rfl;replace c1:=hbx.cell' (i:=1) (v:=.int .i64 tick) rfl;replace c2:=hbx.cell' (i:=2) (v:=.int .i64 tenant) rfl;replace c3:=hbx.cell' (i:=3) (v:=.int .i64 cell) rfl;replace c4:=hbx.cell' (i:=4) (v:=.int .i64 other) rfl;replace c5:=hbx.cell' (i:=5) (v:=.int .i64 epoch) rfl;replace c6:=hbx.cell' (i:=6) (v:=.int .i64 since) rfl;replace c7:=hbx.cell' (i:=7) (v:=.int .i64 till) rfl;replace c8:=hbx.cell' (i:=8) (v:=.int .i64 n) rfl)
    | (go_at_call 199;(with_reducible refine (HC.out 67 67 rfl _).mono ?_);rintro x wq ⟨rfl,hbq⟩;replace hbel:=hbel.trans (hbq.mono hbel.size);replace hbx:=hbx.below hbq hbx.lt;clear hbq;replace c0:=hbx.cell' (i:=0) (v:=.int .i64 kind) rfl;replace c1:=hbx.cell' (i:=1) (v:=.int .i64 tick) rfl;replace c2:=hbx.cell' (i:=2) (v:=.int .i64 tenant) rfl;replace c3:=hbx.cell' (i:=3) (v:=.int .i64 cell) rfl;replace c4:=hbx.cell' (i:=4) (v:=.int .i64 other) rfl;replace c5:=hbx.cell' (i:=5) (v:=.int .i64 epoch) rfl;replace c6:=hbx.cell' (i:=6) (v:=.int .i64 since) rfl;replace c7:=hbx.cell' (i:=7) (v:=.int .i64 till) rfl;replace c8:=hbx.cell' (i:=8) (v:=.int .i64 n) rfl)
    | (go_at_call 199;(with_reducible refine (HC.out 111 111 rfl _).mono ?_);rintro x wq ⟨rfl,hbq⟩;replace hbel:=hbel.trans (hbq.mono hbel.size);replace hbx:=hbx.below hbq hbx.lt;clear hbq;replace c0:=hbx.cell' (i:=0) (v:=.int .i64 kind) rfl;replace c1:=hbx.cell' (i:=1) (v:=.int .i64 tick) rfl;replace c2:=hbx.cell' (i:=2) (v:=.int .i64 tenant) rfl;replace c3:=hbx.cell' (i:=3) (v:=.int .i64 cell) rfl;replace c4:=hbx.cell' (i:=4) (v:=.int .i64 other) rfl;replace c5:=hbx.cell' (i:=5) (v:=.int .i64 epoch) rfl;replace c6:=hbx.cell' (i:=6) (v:=.int .i64 since) rfl;replace c7:=hbx.cell' (i:=7) (v:=.int .i64 till) rfl;replace c8:=hbx.cell' (i:=8) (v:=.int .i64 n) rfl)
    | (go_at_call 199;(with_reducible refine (HC.out 114 114 rfl _).mono ?_);rintro x wq ⟨rfl,hbq⟩;replace hbel:=hbel.trans (hbq.mono hbel.size);replace hbx:=hbx.below hbq hbx.lt;clear hbq;replace c0:=hbx.cell' (i:=0) (v:=.int .i64 kind) rfl;replace c1:=hbx.cell' (i:=1) (v:=.int .i64 tick) rfl;replace c2:=hbx.cell' (i:=2) (v:=.int .i64 tenant) rfl;replace c3:=hbx.cell' (i:=3) (v:=.int .i64 cell) rfl;replace c4:=hbx.cell' (i:=4) (v:=.int .i64 other) rfl;replace c5:=hbx.cell' (i:=5) (v:=.int .i64 epoch) rfl;replace c6:=hbx.cell' (i:=6) (v:=.int .i64 since) rfl;replace c7:=hbx.cell' (i:=7) (v:=.int .i64 till) rfl;replace c8:=hbx.cell' (i:=8) (v:=.int .i64 n) rfl)
    | (go_at_call 189;(with_reducible refine (r6in_any _ _ _ _).mono ?_);rintro x wq ⟨rfl,rfl⟩)
    )
   all_goals
    go_ret
    refine⟨ret_bool ?_,hbel⟩
    go_light
    clear hbx hbel c0 c1 c2 c3 c4 c5 c6 c7 c8 HC
    unfold placesR
    simp only[HQ.out]
    simp_all<;>(rw[Bool.eq_iff_iff];simp)
  ·go_wp2
   go_ret
   refine⟨ret_bool ?_,hbel⟩
   unfold placesR
   simp only[HQ.out]
   rfl
end Go.Proofs.YtchhdflealgkaaaGreat
