/- The statement PixelCutsSaid: for every input the law returns true, and its arguments read as before. Conditions: none. -/
import Derived.Test.YtlcbomjdbdgbmaaSPc6
import Derived.KernelRfl
import Derived.StillTail
import Derived.OrdersHeld
import Derived.Deep.Quiet
import Derived.Below
import Derived.WalkKit
import Derived.Test.YtlcbomjdbdgbmaaProg
import Derived.WalkSpells
import Derived.StillTactics
import Derived.Laws.Pointers
import Derived.Deep.RegionHeld3
import Derived.RowKit3
import Derived.Deep.QuietTactic
import Derived.BigQuiet
import Derived.BigRegion
import Derived.Lib.Hide
import Derived.WalkSmall
import Derived.Laws.BitsAllLaws
import Derived.IntWalk
import Derived.Deep.OwnRows
import Derived.Deep.LoopGhost
import Derived.Shelf.Bits.Mul64
import Derived.Test.YtlcbomjdbdgbmaaRows
import Derived.ProofKit
import Derived.OpenShut
import Derived.ShutString
import Derived.ChangeOld
import Derived.Lib.SmallJoins
import Derived.Laws.IdiomArrays
import Derived.RowKit
import Derived.Deep.WholeRow
import Derived.Laws.Rows
namespace Go.Proofs.Ytlcbomjdbdgbmaa
open Go.RowKit

set_option maxRecDepth 100000 in
set_option maxHeartbeats 4000000 in

theorem pxCut_3 (ax : Int) (ay : Int) (bx : Int) (b_y : Int) (cx : Int) (cy : Int) (n : Int) (pfn : Int) (pfd : Int) (ptn : Int) (ptd : Int) (pfo : Bool) (pto : Bool) (R0 : Int) (R1 : Int) (R2 : Int) (R3 : Int) (R4 : Bool) (R5 : Bool) (R6 : Bool) (hR0 : (fun (_ : Int) (_ : Int) (_ : Int) (_ : Int) (_ : Int) (_ : Int) (_ : Int) => 0) ax ay bx b_y cx cy n = R0) (hR1 : (fun (_ : Int) (_ : Int) (_ : Int) (_ : Int) (_ : Int) (_ : Int) (_ : Int) => 0) ax ay bx b_y cx cy n = R1) (hR2 : (fun (_ : Int) (_ : Int) (_ : Int) (_ : Int) (_ : Int) (_ : Int) (_ : Int) => 0) ax ay bx b_y cx cy n = R2) (hR3 : (fun (_ : Int) (_ : Int) (_ : Int) (_ : Int) (_ : Int) (_ : Int) (_ : Int) => 0) ax ay bx b_y cx cy n = R3) (hR4 : (fun (_ : Int) (_ : Int) (_ : Int) (_ : Int) (_ : Int) (_ : Int) (_ : Int) => false) ax ay bx b_y cx cy n = R4) (hR5 : (fun (_ : Int) (_ : Int) (_ : Int) (_ : Int) (_ : Int) (_ : Int) (_ : Int) => false) ax ay bx b_y cx cy n = R5) (hR6 : (fun (_ : Int) (_ : Int) (_ : Int) (_ : Int) (_ : Int) (_ : Int) (_ : Int) => false) ax ay bx b_y cx cy n = R6) (hP0 : pxS n = true) (hP1 : sgR ax ay bx b_y = true) (hP2 : rp cx cy = true) (hP3 : rtOn 0 = 0) (hP4 : rtOd 0 = 1) (hP5 : rtOn 1 = 1) (hP6 : rtOd 1 = 1) (hP7 : bak 0 1 1 1 false false ax (wrap64 (bx - ax)) (wrap64 ((wrap64 ((wrap64 (2 * cx)) * n)) - n)) (wrap64 ((wrap64 ((wrap64 (2 * cx)) * n)) + n)) = false) (hP8 : bafn 0 1 1 1 false false ax (wrap64 (bx - ax)) (wrap64 ((wrap64 ((wrap64 (2 * cx)) * n)) - n)) (wrap64 ((wrap64 ((wrap64 (2 * cx)) * n)) + n)) = pfn) (hP9 : bafd 0 1 1 1 false false ax (wrap64 (bx - ax)) (wrap64 ((wrap64 ((wrap64 (2 * cx)) * n)) - n)) (wrap64 ((wrap64 ((wrap64 (2 * cx)) * n)) + n)) = pfd) (hP10 : batn 0 1 1 1 false false ax (wrap64 (bx - ax)) (wrap64 ((wrap64 ((wrap64 (2 * cx)) * n)) - n)) (wrap64 ((wrap64 ((wrap64 (2 * cx)) * n)) + n)) = ptn) (hP11 : batd 0 1 1 1 false false ax (wrap64 (bx - ax)) (wrap64 ((wrap64 ((wrap64 (2 * cx)) * n)) - n)) (wrap64 ((wrap64 ((wrap64 (2 * cx)) * n)) + n)) = ptd) (hP12 : bafo 0 1 1 1 false false ax (wrap64 (bx - ax)) (wrap64 ((wrap64 ((wrap64 (2 * cx)) * n)) - n)) (wrap64 ((wrap64 ((wrap64 (2 * cx)) * n)) + n)) = pfo) (hP13 : bato 0 1 1 1 false false ax (wrap64 (bx - ax)) (wrap64 ((wrap64 ((wrap64 (2 * cx)) * n)) - n)) (wrap64 ((wrap64 ((wrap64 (2 * cx)) * n)) + n)) = pto) (_ipfn : InI pfn) (_ipfd : InI pfd) (_iptn : InI ptn) (_iptd : InI ptd) (_iax : In64 ax) (_iay : In64 ay) (_ibx : In64 bx) (_ib_y : In64 b_y) (_icx : In64 cx) (_icy : In64 cy) (_in : In64 n)  (w : World)  :
    Calls Try.prog 30 #[.agg #[.int .i64 ax, .int .i64 ay, .int .i64 bx, .int .i64 b_y], .agg #[.int .i64 cx, .int .i64 cy], .int .i64 n] w fun e w' => e = .returned (.tuple #[.agg #[.int .u64 (wd0 R0), .int .u64 (wd1 R0), .int .u64 (wd2 R0), .int .u64 (wd3 R0), .int .u64 (wd0 R1), .int .u64 (wd1 R1), .int .u64 (wd2 R1), .int .u64 (wd3 R1), .int .u64 (wd0 R2), .int .u64 (wd1 R2), .int .u64 (wd2 R2), .int .u64 (wd3 R2), .int .u64 (wd0 R3), .int .u64 (wd1 R3), .int .u64 (wd2 R3), .int .u64 (wd3 R3), .bool R4, .bool R5], .bool R6]) ∧ Below w.heap.size w w' := by

  have HP0 := Lib.hid hP0
  clear hP0
  have HP1 := Lib.hid hP1
  clear hP1
  have HP2 := Lib.hid hP2
  clear hP2
  have HP3 := Lib.hid hP3
  clear hP3
  have HP4 := Lib.hid hP4
  clear hP4
  have HP5 := Lib.hid hP5
  clear hP5
  have HP6 := Lib.hid hP6
  clear hP6
  have HP7 := Lib.hid hP7
  clear hP7
  have HP8 := Lib.hid hP8
  clear hP8
  have HP9 := Lib.hid hP9
  clear hP9
  have HP10 := Lib.hid hP10
  clear hP10
  have HP11 := Lib.hid hP11
  clear hP11
  have HP12 := Lib.hid hP12
  clear hP12
  have HP13 := Lib.hid hP13
  clear hP13
  have HR0 := Lib.hid hR0
  clear hR0
  have HR1 := Lib.hid hR1
  clear hR1
  have HR2 := Lib.hid hR2
  clear hR2
  have HR3 := Lib.hid hR3
  clear hR3
  have HR4 := Lib.hid hR4
  clear hR4
  have HR5 := Lib.hid hR5
  clear hR5
  have HR6 := Lib.hid hR6
  clear hR6
  go_enter Try.func30, Try.ntmps30
  go_wp2_with fail
  first | refine calls_w ?_ | refine name_world ?_ | refine list_world ?_ | refine post_world ?_
  intro V1 hV1
  have hn : Below w.heap.size w V1 := by rw [hV1]; exact below_a3 _ _ _ _
  have nhb0 := hn
  have k1 : Blk V1 w.heap.size #[.int .i64 ax, .int .i64 ay, .int .i64 bx, .int .i64 b_y] 50 := by rw [hV1]; exact (((Blk.new _ _ _).alloc _).alloc _)
  have k2 : Blk V1 (w.heap.size + 1) #[.int .i64 cx, .int .i64 cy] 24 := by rw [hV1]; exact ((Blk.new1 _ _ _ _).alloc _)
  have k3 : Blk V1 (w.heap.size + 1 + 1) #[.int .u64 0, .int .u64 0, .int .u64 0, .int .u64 0, .int .u64 0, .int .u64 0, .int .u64 0, .int .u64 0, .int .u64 0, .int .u64 0, .int .u64 0, .int .u64 0, .int .u64 0, .int .u64 0, .int .u64 0, .int .u64 0, .bool false, .bool false] 54 := by rw [hV1]; exact (Blk.new2 _ _ _ _ _)
  clear hV1
  have hb0 := nhb0
  clear nhb0
  refine (pxSize_is n true HP0.out _in  _).mono ?_
  rintro e U2 ⟨rfl, hn⟩
  replace k1 := k1.of hn
  replace k2 := k2.of hn
  replace k3 := k3.of hn
  replace hb0 := hb0.trans (hn.mono hb0.size)
  clear hn
  have c1_0 : U2.cell? ⟨w.heap.size, 0, none⟩ = some (.int .i64 ax) := k1.cell 0
  have c1_1 : U2.cell? ⟨w.heap.size, 1, none⟩ = some (.int .i64 ay) := k1.cell 1
  have c1_2 : U2.cell? ⟨w.heap.size, 2, none⟩ = some (.int .i64 bx) := k1.cell 2
  have c1_3 : U2.cell? ⟨w.heap.size, 3, none⟩ = some (.int .i64 b_y) := k1.cell 3
  have l1 := k1.lt
  go_wp2_with fail
  clear c1_0 c1_1 c1_2 c1_3 l1
  refine (SegRight_is ax ay bx b_y true HP1.out _iax _iay _ibx _ib_y  _).mono ?_
  rintro e U3 ⟨rfl, hn⟩
  replace k1 := k1.of hn
  replace k2 := k2.of hn
  replace k3 := k3.of hn
  replace hb0 := hb0.trans (hn.mono hb0.size)
  clear hn
  have c2_0 : U3.cell? ⟨(w.heap.size + 1), 0, none⟩ = some (.int .i64 cx) := k2.cell 0
  have c2_1 : U3.cell? ⟨(w.heap.size + 1), 1, none⟩ = some (.int .i64 cy) := k2.cell 1
  have l2 := k2.lt
  go_wp2_with fail
  clear c2_0 c2_1 l2
  refine (PtRight_v cx cy true HP2.out _).mono ?_
  rintro e U4 ⟨rfl, hn⟩
  replace k1 := k1.of hn
  replace k2 := k2.of hn
  replace k3 := k3.of hn
  replace hb0 := hb0.trans (hn.mono hb0.size)
  clear hn
  go_wp2_with fail
  refine (rtOf_is 0 0 1 HP3.out HP4.out (by unfold In64; omega)  _).mono ?_
  rintro e U5 ⟨rfl, hn⟩
  replace k1 := k1.of hn
  replace k2 := k2.of hn
  replace k3 := k3.of hn
  replace hb0 := hb0.trans (hn.mono hb0.size)
  clear hn
  go_wp2_with fail
  refine (rtOf_is 1 1 1 HP5.out HP6.out (by unfold In64; omega)  _).mono ?_
  rintro e U6 ⟨rfl, hn⟩
  replace k1 := k1.of hn
  replace k2 := k2.of hn
  replace k3 := k3.of hn
  replace hb0 := hb0.trans (hn.mono hb0.size)
  clear hn
  go_wp2_with (first | ((with_reducible refine stRow (U6.heap.size) #[.int .u64 (wd0 0), .int .u64 (wd1 0), .int .u64 (wd2 0), .int .u64 (wd3 0), .int .u64 (wd0 1), .int .u64 (wd1 1), .int .u64 (wd2 1), .int .u64 (wd3 1), .int .u64 (wd0 1), .int .u64 (wd1 1), .int .u64 (wd2 1), .int .u64 (wd3 1), .int .u64 (wd0 1), .int .u64 (wd1 1), .int .u64 (wd2 1), .int .u64 (wd3 1), .bool false, .bool false] _ _ (Blk.new _ _ _) ?_ ?_ ?_ ?_ ?_ ?_); rfl; rfl; (as_aux_lemma => kernel_rfl); rfl; (as_aux_lemma => kernel_rfl); simp only [Act.put]))
  first | refine calls_w ?_ | refine name_world ?_ | refine list_world ?_ | refine post_world ?_
  intro V7 hV7
  rw [World.setRow_alloc_new] at hV7
  have D1 := Lib.hid k1.lt
  have D2 := Lib.hid k2.lt
  have D3 := Lib.hid k3.lt
  have D4 := Lib.hid hb0.size
  have hn : Below U6.heap.size U6 V7 := by rw [hV7]; exact below_a1 _ _
  have nk1 := k1.of hn
  have nk2 := k2.of hn
  have nk3 := k3.of hn
  have nhb0 := hb0.trans (hn.mono hb0.size)
  clear hn
  have k4 : Blk V7 U6.heap.size #[.int .u64 (wd0 0), .int .u64 (wd1 0), .int .u64 (wd2 0), .int .u64 (wd3 0), .int .u64 (wd0 1), .int .u64 (wd1 1), .int .u64 (wd2 1), .int .u64 (wd3 1), .int .u64 (wd0 1), .int .u64 (wd1 1), .int .u64 (wd2 1), .int .u64 (wd3 1), .int .u64 (wd0 1), .int .u64 (wd1 1), .int .u64 (wd2 1), .int .u64 (wd3 1), .bool false, .bool false] 54 := by rw [hV7]; exact (Blk.new _ _ _)
  clear k1 k2 k3
  clear hb0
  clear hV7
  have k1 := nk1
  clear nk1
  have k2 := nk2
  clear nk2
  have k3 := nk3
  clear nk3
  have hb0 := nhb0
  clear nhb0
  have c2_0 : V7.cell? ⟨(w.heap.size + 1), 0, none⟩ = some (.int .i64 cx) := k2.cell 0
  have c2_1 : V7.cell? ⟨(w.heap.size + 1), 1, none⟩ = some (.int .i64 cy) := k2.cell 1
  have l2 := k2.lt
  have Kk1 := Lib.hid k1
  clear k1
  have Kk2 := Lib.hid k2
  clear k2
  have Kk3 := Lib.hid k3
  clear k3
  have Kk4 := Lib.hid k4
  clear k4
  refine wp_region_up V7.heap.size 11 [(true, 0), (true, 1), (true, 2), (true, 3), (true, 4), (true, 5), (true, 6), (true, 7), (true, 8), (true, 9), (true, 10)] (by kernel_rfl) (by kernel_rfl) (fun _ _ d _ _ h => by cases d <;> exact h) ?_
  have hb : Below V7.heap.size V7 V7.drew := (Below.refl _ _).drew
  iterate 11
    refine wpS_takeL rfl rfl ?_
    go_big_quiet_step (rfl)
    refine wpQuiet_nil ?_
  refine wpS_nil ?_
  simp only [List.drop_succ_cons, List.drop_zero]
  first | refine calls_w ?_ | refine name_world ?_ | refine list_world ?_ | refine post_world ?_
  intro U8 hU8
  first | (subst hU8; have u_ := U8; clear u_) | (rw [← hU8] at hb; clear hU8)
  clear c2_0 c2_1 l2
  have k1 := Kk1.out.of hb
  clear Kk1
  have k2 := Kk2.out.of hb
  clear Kk2
  have k3 := Kk3.out.of hb
  clear Kk3
  have k4 := Kk4.out.of hb
  clear Kk4
  replace hb0 := hb0.trans (hb.mono hb0.size)
  clear hb
  have c1_0 : U8.cell? ⟨w.heap.size, 0, none⟩ = some (.int .i64 ax) := k1.cell 0
  have c1_2 : U8.cell? ⟨w.heap.size, 2, none⟩ = some (.int .i64 bx) := k1.cell 2
  have l1 := k1.lt
  go_wp2_with fail
  clear c1_0 c1_2 l1
  refine (pxba_is 0 1 1 1 false false ax (wrap64 (bx - ax)) (wrap64 ((wrap64 ((wrap64 (2 * cx)) * n)) - n)) (wrap64 ((wrap64 ((wrap64 (2 * cx)) * n)) + n)) false pfn pfd ptn ptd pfo pto HP7.out HP8.out HP9.out HP10.out HP11.out HP12.out HP13.out (by unfold InI b255; omega) (by unfold InI b255; omega) (by unfold InI b255; omega) (by unfold InI b255; omega) _iax (wrap64_in _) (wrap64_in _) (wrap64_in _) (U6.heap.size) _ k4).mono ?_
  rintro e U9 ⟨rfl, hk_, hn⟩
  clear k2
  replace k1 := k1.below hn (by have := D1.out; omega)
  replace k3 := k3.below hn (by have := D3.out; omega)
  replace k4 := hk_
  clear hk_
  replace hb0 := hb0.trans (hn.mono (by have := D4.out; omega))
  clear hn
  have e0 : 0 = R0 := by rw [← HR0.out]; (try rw [HP0.out]); (try rw [HP1.out]); (try rw [HP2.out]); (try rw [HP3.out]); (try rw [HP4.out]); (try rw [HP5.out]); (try rw [HP6.out]); (try rw [HP7.out]); (try rw [HP8.out]); (try rw [HP9.out]); (try rw [HP10.out]); (try rw [HP11.out]); (try rw [HP12.out]); (try rw [HP13.out]); all_goals first | rfl | simp
  have e1 : 0 = R1 := by rw [← HR1.out]; (try rw [HP0.out]); (try rw [HP1.out]); (try rw [HP2.out]); (try rw [HP3.out]); (try rw [HP4.out]); (try rw [HP5.out]); (try rw [HP6.out]); (try rw [HP7.out]); (try rw [HP8.out]); (try rw [HP9.out]); (try rw [HP10.out]); (try rw [HP11.out]); (try rw [HP12.out]); (try rw [HP13.out]); all_goals first | rfl | simp
  have e2 : 0 = R2 := by rw [← HR2.out]; (try rw [HP0.out]); (try rw [HP1.out]); (try rw [HP2.out]); (try rw [HP3.out]); (try rw [HP4.out]); (try rw [HP5.out]); (try rw [HP6.out]); (try rw [HP7.out]); (try rw [HP8.out]); (try rw [HP9.out]); (try rw [HP10.out]); (try rw [HP11.out]); (try rw [HP12.out]); (try rw [HP13.out]); all_goals first | rfl | simp
  have e3 : 0 = R3 := by rw [← HR3.out]; (try rw [HP0.out]); (try rw [HP1.out]); (try rw [HP2.out]); (try rw [HP3.out]); (try rw [HP4.out]); (try rw [HP5.out]); (try rw [HP6.out]); (try rw [HP7.out]); (try rw [HP8.out]); (try rw [HP9.out]); (try rw [HP10.out]); (try rw [HP11.out]); (try rw [HP12.out]); (try rw [HP13.out]); all_goals first | rfl | simp
  have e4 : false = R4 := by rw [← HR4.out]; (try rw [HP0.out]); (try rw [HP1.out]); (try rw [HP2.out]); (try rw [HP3.out]); (try rw [HP4.out]); (try rw [HP5.out]); (try rw [HP6.out]); (try rw [HP7.out]); (try rw [HP8.out]); (try rw [HP9.out]); (try rw [HP10.out]); (try rw [HP11.out]); (try rw [HP12.out]); (try rw [HP13.out]); all_goals first | rfl | simp
  have e5 : false = R5 := by rw [← HR5.out]; (try rw [HP0.out]); (try rw [HP1.out]); (try rw [HP2.out]); (try rw [HP3.out]); (try rw [HP4.out]); (try rw [HP5.out]); (try rw [HP6.out]); (try rw [HP7.out]); (try rw [HP8.out]); (try rw [HP9.out]); (try rw [HP10.out]); (try rw [HP11.out]); (try rw [HP12.out]); (try rw [HP13.out]); all_goals first | rfl | simp
  have e6 : false = R6 := by rw [← HR6.out]; (try rw [HP0.out]); (try rw [HP1.out]); (try rw [HP2.out]); (try rw [HP3.out]); (try rw [HP4.out]); (try rw [HP5.out]); (try rw [HP6.out]); (try rw [HP7.out]); (try rw [HP8.out]); (try rw [HP9.out]); (try rw [HP10.out]); (try rw [HP11.out]); (try rw [HP12.out]); (try rw [HP13.out]); all_goals first | rfl | simp
  subst e0
  subst e1
  subst e2
  subst e3
  subst e4
  subst e5
  subst e6
  go_wp2_with (first | ((with_reducible refine stRow (w.heap.size + 1 + 1) #[.int .u64 0, .int .u64 0, .int .u64 0, .int .u64 0, .int .u64 0, .int .u64 0, .int .u64 0, .int .u64 0, .int .u64 0, .int .u64 0, .int .u64 0, .int .u64 0, .int .u64 0, .int .u64 0, .int .u64 0, .int .u64 0, .bool false, .bool false] _ _ k3 ?_ ?_ ?_ ?_ ?_ ?_); rfl; rfl; (as_aux_lemma => kernel_rfl); rfl; (as_aux_lemma => kernel_rfl); simp only [Act.put]))
  first | refine post_world ?_
  intro V10 hV10
  clear k1
  have D5 := Lib.hid k3.lt
  have D6 := Lib.hid k4.lt
  have D7 := Lib.hid hb0.size
  clear k4
  have nk3 : Blk V10 (w.heap.size + 1 + 1) #[.int .u64 0, .int .u64 0, .int .u64 0, .int .u64 0, .int .u64 0, .int .u64 0, .int .u64 0, .int .u64 0, .int .u64 0, .int .u64 0, .int .u64 0, .int .u64 0, .int .u64 0, .int .u64 0, .int .u64 0, .int .u64 0, .bool false, .bool false] 54 := by rw [hV10]; exact blk_row k3 _
  have nhb0 : Below w.heap.size w V10 := by rw [hV10]; exact blw_row hb0 (by omega) _
  clear k3
  clear hb0
  clear hV10
  have k3 := nk3
  clear nk3
  have hb0 := nhb0
  clear nhb0
  refine ⟨rfl, _, results_row_tmp rfl _ _ _ _ _ _ _ rfl k3 rfl rfl (by as_aux_lemma => kernel_rfl), ?_, hb0⟩
  first | rfl | kernel_rfl

set_option maxRecDepth 100000 in
set_option maxHeartbeats 4000000 in

theorem pxCut_4 (ax : Int) (ay : Int) (bx : Int) (b_y : Int) (cx : Int) (cy : Int) (n : Int) (pfn : Int) (pfd : Int) (ptn : Int) (ptd : Int) (pfo : Bool) (pto : Bool) (qfn : Int) (qfd : Int) (qtn : Int) (qtd : Int) (qfo : Bool) (qto : Bool) (R0 : Int) (R1 : Int) (R2 : Int) (R3 : Int) (R4 : Bool) (R5 : Bool) (R6 : Bool) (hR0 : (fun (_ : Int) (_ : Int) (_ : Int) (_ : Int) (_ : Int) (_ : Int) (_ : Int) => 0) ax ay bx b_y cx cy n = R0) (hR1 : (fun (_ : Int) (_ : Int) (_ : Int) (_ : Int) (_ : Int) (_ : Int) (_ : Int) => 0) ax ay bx b_y cx cy n = R1) (hR2 : (fun (_ : Int) (_ : Int) (_ : Int) (_ : Int) (_ : Int) (_ : Int) (_ : Int) => 0) ax ay bx b_y cx cy n = R2) (hR3 : (fun (_ : Int) (_ : Int) (_ : Int) (_ : Int) (_ : Int) (_ : Int) (_ : Int) => 0) ax ay bx b_y cx cy n = R3) (hR4 : (fun (_ : Int) (_ : Int) (_ : Int) (_ : Int) (_ : Int) (_ : Int) (_ : Int) => false) ax ay bx b_y cx cy n = R4) (hR5 : (fun (_ : Int) (_ : Int) (_ : Int) (_ : Int) (_ : Int) (_ : Int) (_ : Int) => false) ax ay bx b_y cx cy n = R5) (hR6 : (fun (_ : Int) (_ : Int) (_ : Int) (_ : Int) (_ : Int) (_ : Int) (_ : Int) => false) ax ay bx b_y cx cy n = R6) (hP0 : pxS n = true) (hP1 : sgR ax ay bx b_y = true) (hP2 : rp cx cy = true) (hP3 : rtOn 0 = 0) (hP4 : rtOd 0 = 1) (hP5 : rtOn 1 = 1) (hP6 : rtOd 1 = 1) (hP7 : bak 0 1 1 1 false false ax (wrap64 (bx - ax)) (wrap64 ((wrap64 ((wrap64 (2 * cx)) * n)) - n)) (wrap64 ((wrap64 ((wrap64 (2 * cx)) * n)) + n)) = true) (hP8 : bafn 0 1 1 1 false false ax (wrap64 (bx - ax)) (wrap64 ((wrap64 ((wrap64 (2 * cx)) * n)) - n)) (wrap64 ((wrap64 ((wrap64 (2 * cx)) * n)) + n)) = pfn) (hP9 : bafd 0 1 1 1 false false ax (wrap64 (bx - ax)) (wrap64 ((wrap64 ((wrap64 (2 * cx)) * n)) - n)) (wrap64 ((wrap64 ((wrap64 (2 * cx)) * n)) + n)) = pfd) (hP10 : batn 0 1 1 1 false false ax (wrap64 (bx - ax)) (wrap64 ((wrap64 ((wrap64 (2 * cx)) * n)) - n)) (wrap64 ((wrap64 ((wrap64 (2 * cx)) * n)) + n)) = ptn) (hP11 : batd 0 1 1 1 false false ax (wrap64 (bx - ax)) (wrap64 ((wrap64 ((wrap64 (2 * cx)) * n)) - n)) (wrap64 ((wrap64 ((wrap64 (2 * cx)) * n)) + n)) = ptd) (hP12 : bafo 0 1 1 1 false false ax (wrap64 (bx - ax)) (wrap64 ((wrap64 ((wrap64 (2 * cx)) * n)) - n)) (wrap64 ((wrap64 ((wrap64 (2 * cx)) * n)) + n)) = pfo) (hP13 : bato 0 1 1 1 false false ax (wrap64 (bx - ax)) (wrap64 ((wrap64 ((wrap64 (2 * cx)) * n)) - n)) (wrap64 ((wrap64 ((wrap64 (2 * cx)) * n)) + n)) = pto) (hP14 : bak pfn pfd ptn ptd pfo pto ay (wrap64 (b_y - ay)) (wrap64 ((wrap64 ((wrap64 (2 * cy)) * n)) - n)) (wrap64 ((wrap64 ((wrap64 (2 * cy)) * n)) + n)) = false) (hP15 : bafn pfn pfd ptn ptd pfo pto ay (wrap64 (b_y - ay)) (wrap64 ((wrap64 ((wrap64 (2 * cy)) * n)) - n)) (wrap64 ((wrap64 ((wrap64 (2 * cy)) * n)) + n)) = qfn) (hP16 : bafd pfn pfd ptn ptd pfo pto ay (wrap64 (b_y - ay)) (wrap64 ((wrap64 ((wrap64 (2 * cy)) * n)) - n)) (wrap64 ((wrap64 ((wrap64 (2 * cy)) * n)) + n)) = qfd) (hP17 : batn pfn pfd ptn ptd pfo pto ay (wrap64 (b_y - ay)) (wrap64 ((wrap64 ((wrap64 (2 * cy)) * n)) - n)) (wrap64 ((wrap64 ((wrap64 (2 * cy)) * n)) + n)) = qtn) (hP18 : batd pfn pfd ptn ptd pfo pto ay (wrap64 (b_y - ay)) (wrap64 ((wrap64 ((wrap64 (2 * cy)) * n)) - n)) (wrap64 ((wrap64 ((wrap64 (2 * cy)) * n)) + n)) = qtd) (hP19 : bafo pfn pfd ptn ptd pfo pto ay (wrap64 (b_y - ay)) (wrap64 ((wrap64 ((wrap64 (2 * cy)) * n)) - n)) (wrap64 ((wrap64 ((wrap64 (2 * cy)) * n)) + n)) = qfo) (hP20 : bato pfn pfd ptn ptd pfo pto ay (wrap64 (b_y - ay)) (wrap64 ((wrap64 ((wrap64 (2 * cy)) * n)) - n)) (wrap64 ((wrap64 ((wrap64 (2 * cy)) * n)) + n)) = qto) (_ipfn : InI pfn) (_ipfd : InI pfd) (_iptn : InI ptn) (_iptd : InI ptd) (_iqfn : InI qfn) (_iqfd : InI qfd) (_iqtn : InI qtn) (_iqtd : InI qtd) (_iax : In64 ax) (_iay : In64 ay) (_ibx : In64 bx) (_ib_y : In64 b_y) (_icx : In64 cx) (_icy : In64 cy) (_in : In64 n)  (w : World)  :
    Calls Try.prog 30 #[.agg #[.int .i64 ax, .int .i64 ay, .int .i64 bx, .int .i64 b_y], .agg #[.int .i64 cx, .int .i64 cy], .int .i64 n] w fun e w' => e = .returned (.tuple #[.agg #[.int .u64 (wd0 R0), .int .u64 (wd1 R0), .int .u64 (wd2 R0), .int .u64 (wd3 R0), .int .u64 (wd0 R1), .int .u64 (wd1 R1), .int .u64 (wd2 R1), .int .u64 (wd3 R1), .int .u64 (wd0 R2), .int .u64 (wd1 R2), .int .u64 (wd2 R2), .int .u64 (wd3 R2), .int .u64 (wd0 R3), .int .u64 (wd1 R3), .int .u64 (wd2 R3), .int .u64 (wd3 R3), .bool R4, .bool R5], .bool R6]) ∧ Below w.heap.size w w' := by

  have HP0 := Lib.hid hP0
  clear hP0
  have HP1 := Lib.hid hP1
  clear hP1
  have HP2 := Lib.hid hP2
  clear hP2
  have HP3 := Lib.hid hP3
  clear hP3
  have HP4 := Lib.hid hP4
  clear hP4
  have HP5 := Lib.hid hP5
  clear hP5
  have HP6 := Lib.hid hP6
  clear hP6
  have HP7 := Lib.hid hP7
  clear hP7
  have HP8 := Lib.hid hP8
  clear hP8
  have HP9 := Lib.hid hP9
  clear hP9
  have HP10 := Lib.hid hP10
  clear hP10
  have HP11 := Lib.hid hP11
  clear hP11
  have HP12 := Lib.hid hP12
  clear hP12
  have HP13 := Lib.hid hP13
  clear hP13
  have HP14 := Lib.hid hP14
  clear hP14
  have HP15 := Lib.hid hP15
  clear hP15
  have HP16 := Lib.hid hP16
  clear hP16
  have HP17 := Lib.hid hP17
  clear hP17
  have HP18 := Lib.hid hP18
  clear hP18
  have HP19 := Lib.hid hP19
  clear hP19
  have HP20 := Lib.hid hP20
  clear hP20
  have HR0 := Lib.hid hR0
  clear hR0
  have HR1 := Lib.hid hR1
  clear hR1
  have HR2 := Lib.hid hR2
  clear hR2
  have HR3 := Lib.hid hR3
  clear hR3
  have HR4 := Lib.hid hR4
  clear hR4
  have HR5 := Lib.hid hR5
  clear hR5
  have HR6 := Lib.hid hR6
  clear hR6
  go_enter Try.func30, Try.ntmps30
  go_wp2_with fail
  first | refine calls_w ?_ | refine name_world ?_ | refine list_world ?_ | refine post_world ?_
  intro V1 hV1
  have hn : Below w.heap.size w V1 := by rw [hV1]; exact below_a3 _ _ _ _
  have nhb0 := hn
  have k1 : Blk V1 w.heap.size #[.int .i64 ax, .int .i64 ay, .int .i64 bx, .int .i64 b_y] 50 := by rw [hV1]; exact (((Blk.new _ _ _).alloc _).alloc _)
  have k2 : Blk V1 (w.heap.size + 1) #[.int .i64 cx, .int .i64 cy] 24 := by rw [hV1]; exact ((Blk.new1 _ _ _ _).alloc _)
  have k3 : Blk V1 (w.heap.size + 1 + 1) #[.int .u64 0, .int .u64 0, .int .u64 0, .int .u64 0, .int .u64 0, .int .u64 0, .int .u64 0, .int .u64 0, .int .u64 0, .int .u64 0, .int .u64 0, .int .u64 0, .int .u64 0, .int .u64 0, .int .u64 0, .int .u64 0, .bool false, .bool false] 54 := by rw [hV1]; exact (Blk.new2 _ _ _ _ _)
  clear hV1
  have hb0 := nhb0
  clear nhb0
  refine (pxSize_is n true HP0.out _in  _).mono ?_
  rintro e U2 ⟨rfl, hn⟩
  replace k1 := k1.of hn
  replace k2 := k2.of hn
  replace k3 := k3.of hn
  replace hb0 := hb0.trans (hn.mono hb0.size)
  clear hn
  have c1_0 : U2.cell? ⟨w.heap.size, 0, none⟩ = some (.int .i64 ax) := k1.cell 0
  have c1_1 : U2.cell? ⟨w.heap.size, 1, none⟩ = some (.int .i64 ay) := k1.cell 1
  have c1_2 : U2.cell? ⟨w.heap.size, 2, none⟩ = some (.int .i64 bx) := k1.cell 2
  have c1_3 : U2.cell? ⟨w.heap.size, 3, none⟩ = some (.int .i64 b_y) := k1.cell 3
  have l1 := k1.lt
  go_wp2_with fail
  clear c1_0 c1_1 c1_2 c1_3 l1
  refine (SegRight_is ax ay bx b_y true HP1.out _iax _iay _ibx _ib_y  _).mono ?_
  rintro e U3 ⟨rfl, hn⟩
  replace k1 := k1.of hn
  replace k2 := k2.of hn
  replace k3 := k3.of hn
  replace hb0 := hb0.trans (hn.mono hb0.size)
  clear hn
  have c2_0 : U3.cell? ⟨(w.heap.size + 1), 0, none⟩ = some (.int .i64 cx) := k2.cell 0
  have c2_1 : U3.cell? ⟨(w.heap.size + 1), 1, none⟩ = some (.int .i64 cy) := k2.cell 1
  have l2 := k2.lt
  go_wp2_with fail
  clear c2_0 c2_1 l2
  refine (PtRight_v cx cy true HP2.out _).mono ?_
  rintro e U4 ⟨rfl, hn⟩
  replace k1 := k1.of hn
  replace k2 := k2.of hn
  replace k3 := k3.of hn
  replace hb0 := hb0.trans (hn.mono hb0.size)
  clear hn
  go_wp2_with fail
  refine (rtOf_is 0 0 1 HP3.out HP4.out (by unfold In64; omega)  _).mono ?_
  rintro e U5 ⟨rfl, hn⟩
  replace k1 := k1.of hn
  replace k2 := k2.of hn
  replace k3 := k3.of hn
  replace hb0 := hb0.trans (hn.mono hb0.size)
  clear hn
  go_wp2_with fail
  refine (rtOf_is 1 1 1 HP5.out HP6.out (by unfold In64; omega)  _).mono ?_
  rintro e U6 ⟨rfl, hn⟩
  replace k1 := k1.of hn
  replace k2 := k2.of hn
  replace k3 := k3.of hn
  replace hb0 := hb0.trans (hn.mono hb0.size)
  clear hn
  go_wp2_with (first | ((with_reducible refine stRow (U6.heap.size) #[.int .u64 (wd0 0), .int .u64 (wd1 0), .int .u64 (wd2 0), .int .u64 (wd3 0), .int .u64 (wd0 1), .int .u64 (wd1 1), .int .u64 (wd2 1), .int .u64 (wd3 1), .int .u64 (wd0 1), .int .u64 (wd1 1), .int .u64 (wd2 1), .int .u64 (wd3 1), .int .u64 (wd0 1), .int .u64 (wd1 1), .int .u64 (wd2 1), .int .u64 (wd3 1), .bool false, .bool false] _ _ (Blk.new _ _ _) ?_ ?_ ?_ ?_ ?_ ?_); rfl; rfl; (as_aux_lemma => kernel_rfl); rfl; (as_aux_lemma => kernel_rfl); simp only [Act.put]))
  first | refine calls_w ?_ | refine name_world ?_ | refine list_world ?_ | refine post_world ?_
  intro V7 hV7
  rw [World.setRow_alloc_new] at hV7
  have D1 := Lib.hid k1.lt
  have D2 := Lib.hid k2.lt
  have D3 := Lib.hid k3.lt
  have D4 := Lib.hid hb0.size
  have hn : Below U6.heap.size U6 V7 := by rw [hV7]; exact below_a1 _ _
  have nk1 := k1.of hn
  have nk2 := k2.of hn
  have nk3 := k3.of hn
  have nhb0 := hb0.trans (hn.mono hb0.size)
  clear hn
  have k4 : Blk V7 U6.heap.size #[.int .u64 (wd0 0), .int .u64 (wd1 0), .int .u64 (wd2 0), .int .u64 (wd3 0), .int .u64 (wd0 1), .int .u64 (wd1 1), .int .u64 (wd2 1), .int .u64 (wd3 1), .int .u64 (wd0 1), .int .u64 (wd1 1), .int .u64 (wd2 1), .int .u64 (wd3 1), .int .u64 (wd0 1), .int .u64 (wd1 1), .int .u64 (wd2 1), .int .u64 (wd3 1), .bool false, .bool false] 54 := by rw [hV7]; exact (Blk.new _ _ _)
  clear k1 k2 k3
  clear hb0
  clear hV7
  have k1 := nk1
  clear nk1
  have k2 := nk2
  clear nk2
  have k3 := nk3
  clear nk3
  have hb0 := nhb0
  clear nhb0
  have c2_0 : V7.cell? ⟨(w.heap.size + 1), 0, none⟩ = some (.int .i64 cx) := k2.cell 0
  have c2_1 : V7.cell? ⟨(w.heap.size + 1), 1, none⟩ = some (.int .i64 cy) := k2.cell 1
  have l2 := k2.lt
  have Kk1 := Lib.hid k1
  clear k1
  have Kk2 := Lib.hid k2
  clear k2
  have Kk3 := Lib.hid k3
  clear k3
  have Kk4 := Lib.hid k4
  clear k4
  refine wp_region_up V7.heap.size 11 [(true, 0), (true, 1), (true, 2), (true, 3), (true, 4), (true, 5), (true, 6), (true, 7), (true, 8), (true, 9), (true, 10)] (by kernel_rfl) (by kernel_rfl) (fun _ _ d _ _ h => by cases d <;> exact h) ?_
  have hb : Below V7.heap.size V7 V7.drew := (Below.refl _ _).drew
  iterate 11
    refine wpS_takeL rfl rfl ?_
    go_big_quiet_step (rfl)
    refine wpQuiet_nil ?_
  refine wpS_nil ?_
  simp only [List.drop_succ_cons, List.drop_zero]
  first | refine calls_w ?_ | refine name_world ?_ | refine list_world ?_ | refine post_world ?_
  intro U8 hU8
  first | (subst hU8; have u_ := U8; clear u_) | (rw [← hU8] at hb; clear hU8)
  clear c2_0 c2_1 l2
  have k1 := Kk1.out.of hb
  clear Kk1
  have k2 := Kk2.out.of hb
  clear Kk2
  have k3 := Kk3.out.of hb
  clear Kk3
  have k4 := Kk4.out.of hb
  clear Kk4
  replace hb0 := hb0.trans (hb.mono hb0.size)
  clear hb
  have c1_0 : U8.cell? ⟨w.heap.size, 0, none⟩ = some (.int .i64 ax) := k1.cell 0
  have c1_2 : U8.cell? ⟨w.heap.size, 2, none⟩ = some (.int .i64 bx) := k1.cell 2
  have l1 := k1.lt
  go_wp2_with fail
  clear c1_0 c1_2 l1
  refine (pxba_is 0 1 1 1 false false ax (wrap64 (bx - ax)) (wrap64 ((wrap64 ((wrap64 (2 * cx)) * n)) - n)) (wrap64 ((wrap64 ((wrap64 (2 * cx)) * n)) + n)) true pfn pfd ptn ptd pfo pto HP7.out HP8.out HP9.out HP10.out HP11.out HP12.out HP13.out (by unfold InI b255; omega) (by unfold InI b255; omega) (by unfold InI b255; omega) (by unfold InI b255; omega) _iax (wrap64_in _) (wrap64_in _) (wrap64_in _) (U6.heap.size) _ k4).mono ?_
  rintro e U9 ⟨rfl, hk_, hn⟩
  clear k2
  replace k1 := k1.below hn (by have := D1.out; omega)
  replace k3 := k3.below hn (by have := D3.out; omega)
  replace k4 := hk_
  clear hk_
  replace hb0 := hb0.trans (hn.mono (by have := D4.out; omega))
  clear hn
  have c1_1 : U9.cell? ⟨w.heap.size, 1, none⟩ = some (.int .i64 ay) := k1.cell 1
  have c1_3 : U9.cell? ⟨w.heap.size, 3, none⟩ = some (.int .i64 b_y) := k1.cell 3
  have l1 := k1.lt
  go_wp2_with fail
  clear c1_1 c1_3 l1
  refine (pxba_is pfn pfd ptn ptd pfo pto ay (wrap64 (b_y - ay)) (wrap64 ((wrap64 ((wrap64 (2 * cy)) * n)) - n)) (wrap64 ((wrap64 ((wrap64 (2 * cy)) * n)) + n)) false qfn qfd qtn qtd qfo qto HP14.out HP15.out HP16.out HP17.out HP18.out HP19.out HP20.out _ipfn _ipfd _iptn _iptd _iay (wrap64_in _) (wrap64_in _) (wrap64_in _) (U6.heap.size) _ k4).mono ?_
  rintro e U10 ⟨rfl, hk_, hn⟩
  clear k1
  replace k3 := k3.below hn (by have := D3.out; omega)
  replace k4 := hk_
  clear hk_
  replace hb0 := hb0.trans (hn.mono (by have := D4.out; omega))
  clear hn
  have e0 : 0 = R0 := by rw [← HR0.out]; (try rw [HP0.out]); (try rw [HP1.out]); (try rw [HP2.out]); (try rw [HP3.out]); (try rw [HP4.out]); (try rw [HP5.out]); (try rw [HP6.out]); (try rw [HP7.out]); (try rw [HP8.out]); (try rw [HP9.out]); (try rw [HP10.out]); (try rw [HP11.out]); (try rw [HP12.out]); (try rw [HP13.out]); (try rw [HP14.out]); (try rw [HP15.out]); (try rw [HP16.out]); (try rw [HP17.out]); (try rw [HP18.out]); (try rw [HP19.out]); (try rw [HP20.out]); all_goals first | rfl | simp
  have e1 : 0 = R1 := by rw [← HR1.out]; (try rw [HP0.out]); (try rw [HP1.out]); (try rw [HP2.out]); (try rw [HP3.out]); (try rw [HP4.out]); (try rw [HP5.out]); (try rw [HP6.out]); (try rw [HP7.out]); (try rw [HP8.out]); (try rw [HP9.out]); (try rw [HP10.out]); (try rw [HP11.out]); (try rw [HP12.out]); (try rw [HP13.out]); (try rw [HP14.out]); (try rw [HP15.out]); (try rw [HP16.out]); (try rw [HP17.out]); (try rw [HP18.out]); (try rw [HP19.out]); (try rw [HP20.out]); all_goals first | rfl | simp
  have e2 : 0 = R2 := by rw [← HR2.out]; (try rw [HP0.out]); (try rw [HP1.out]); (try rw [HP2.out]); (try rw [HP3.out]); (try rw [HP4.out]); (try rw [HP5.out]); (try rw [HP6.out]); (try rw [HP7.out]); (try rw [HP8.out]); (try rw [HP9.out]); (try rw [HP10.out]); (try rw [HP11.out]); (try rw [HP12.out]); (try rw [HP13.out]); (try rw [HP14.out]); (try rw [HP15.out]); (try rw [HP16.out]); (try rw [HP17.out]); (try rw [HP18.out]); (try rw [HP19.out]); (try rw [HP20.out]); all_goals first | rfl | simp
  have e3 : 0 = R3 := by rw [← HR3.out]; (try rw [HP0.out]); (try rw [HP1.out]); (try rw [HP2.out]); (try rw [HP3.out]); (try rw [HP4.out]); (try rw [HP5.out]); (try rw [HP6.out]); (try rw [HP7.out]); (try rw [HP8.out]); (try rw [HP9.out]); (try rw [HP10.out]); (try rw [HP11.out]); (try rw [HP12.out]); (try rw [HP13.out]); (try rw [HP14.out]); (try rw [HP15.out]); (try rw [HP16.out]); (try rw [HP17.out]); (try rw [HP18.out]); (try rw [HP19.out]); (try rw [HP20.out]); all_goals first | rfl | simp
  have e4 : false = R4 := by rw [← HR4.out]; (try rw [HP0.out]); (try rw [HP1.out]); (try rw [HP2.out]); (try rw [HP3.out]); (try rw [HP4.out]); (try rw [HP5.out]); (try rw [HP6.out]); (try rw [HP7.out]); (try rw [HP8.out]); (try rw [HP9.out]); (try rw [HP10.out]); (try rw [HP11.out]); (try rw [HP12.out]); (try rw [HP13.out]); (try rw [HP14.out]); (try rw [HP15.out]); (try rw [HP16.out]); (try rw [HP17.out]); (try rw [HP18.out]); (try rw [HP19.out]); (try rw [HP20.out]); all_goals first | rfl | simp
  have e5 : false = R5 := by rw [← HR5.out]; (try rw [HP0.out]); (try rw [HP1.out]); (try rw [HP2.out]); (try rw [HP3.out]); (try rw [HP4.out]); (try rw [HP5.out]); (try rw [HP6.out]); (try rw [HP7.out]); (try rw [HP8.out]); (try rw [HP9.out]); (try rw [HP10.out]); (try rw [HP11.out]); (try rw [HP12.out]); (try rw [HP13.out]); (try rw [HP14.out]); (try rw [HP15.out]); (try rw [HP16.out]); (try rw [HP17.out]); (try rw [HP18.out]); (try rw [HP19.out]); (try rw [HP20.out]); all_goals first | rfl | simp
  have e6 : false = R6 := by rw [← HR6.out]; (try rw [HP0.out]); (try rw [HP1.out]); (try rw [HP2.out]); (try rw [HP3.out]); (try rw [HP4.out]); (try rw [HP5.out]); (try rw [HP6.out]); (try rw [HP7.out]); (try rw [HP8.out]); (try rw [HP9.out]); (try rw [HP10.out]); (try rw [HP11.out]); (try rw [HP12.out]); (try rw [HP13.out]); (try rw [HP14.out]); (try rw [HP15.out]); (try rw [HP16.out]); (try rw [HP17.out]); (try rw [HP18.out]); (try rw [HP19.out]); (try rw [HP20.out]); all_goals first | rfl | simp
  subst e0
  subst e1
  subst e2
  subst e3
  subst e4
  subst e5
  subst e6
  go_wp2_with (first | ((with_reducible refine stRow (w.heap.size + 1 + 1) #[.int .u64 0, .int .u64 0, .int .u64 0, .int .u64 0, .int .u64 0, .int .u64 0, .int .u64 0, .int .u64 0, .int .u64 0, .int .u64 0, .int .u64 0, .int .u64 0, .int .u64 0, .int .u64 0, .int .u64 0, .int .u64 0, .bool false, .bool false] _ _ k3 ?_ ?_ ?_ ?_ ?_ ?_); rfl; rfl; (as_aux_lemma => kernel_rfl); rfl; (as_aux_lemma => kernel_rfl); simp only [Act.put]))
  first | refine post_world ?_
  intro V11 hV11
  have D5 := Lib.hid k3.lt
  have D6 := Lib.hid k4.lt
  have D7 := Lib.hid hb0.size
  clear k4
  have nk3 : Blk V11 (w.heap.size + 1 + 1) #[.int .u64 0, .int .u64 0, .int .u64 0, .int .u64 0, .int .u64 0, .int .u64 0, .int .u64 0, .int .u64 0, .int .u64 0, .int .u64 0, .int .u64 0, .int .u64 0, .int .u64 0, .int .u64 0, .int .u64 0, .int .u64 0, .bool false, .bool false] 54 := by rw [hV11]; exact blk_row k3 _
  have nhb0 : Below w.heap.size w V11 := by rw [hV11]; exact blw_row hb0 (by omega) _
  clear k3
  clear hb0
  clear hV11
  have k3 := nk3
  clear nk3
  have hb0 := nhb0
  clear nhb0
  refine ⟨rfl, _, results_row_tmp rfl _ _ _ _ _ _ _ rfl k3 rfl rfl (by as_aux_lemma => kernel_rfl), ?_, hb0⟩
  first | rfl | kernel_rfl
end Go.Proofs.Ytlcbomjdbdgbmaa

namespace Go.Proofs.Ytlcbomjdbdgbmaa
open Go.RowKit

set_option maxRecDepth 100000 in
set_option maxHeartbeats 4000000 in

theorem pxCut_5 (ax : Int) (ay : Int) (bx : Int) (b_y : Int) (cx : Int) (cy : Int) (n : Int) (pfn : Int) (pfd : Int) (ptn : Int) (ptd : Int) (pfo : Bool) (pto : Bool) (qfn : Int) (qfd : Int) (qtn : Int) (qtd : Int) (qfo : Bool) (qto : Bool) (R0 : Int) (R1 : Int) (R2 : Int) (R3 : Int) (R4 : Bool) (R5 : Bool) (R6 : Bool) (hR0 : (fun (_ : Int) (_ : Int) (_ : Int) (_ : Int) (_ : Int) (_ : Int) (_ : Int) => 0) ax ay bx b_y cx cy n = R0) (hR1 : (fun (_ : Int) (_ : Int) (_ : Int) (_ : Int) (_ : Int) (_ : Int) (_ : Int) => 0) ax ay bx b_y cx cy n = R1) (hR2 : (fun (_ : Int) (_ : Int) (_ : Int) (_ : Int) (_ : Int) (_ : Int) (_ : Int) => 0) ax ay bx b_y cx cy n = R2) (hR3 : (fun (_ : Int) (_ : Int) (_ : Int) (_ : Int) (_ : Int) (_ : Int) (_ : Int) => 0) ax ay bx b_y cx cy n = R3) (hR4 : (fun (_ : Int) (_ : Int) (_ : Int) (_ : Int) (_ : Int) (_ : Int) (_ : Int) => false) ax ay bx b_y cx cy n = R4) (hR5 : (fun (_ : Int) (_ : Int) (_ : Int) (_ : Int) (_ : Int) (_ : Int) (_ : Int) => false) ax ay bx b_y cx cy n = R5) (hR6 : (fun (_ : Int) (_ : Int) (_ : Int) (_ : Int) (_ : Int) (_ : Int) (_ : Int) => false) ax ay bx b_y cx cy n = R6) (hP0 : pxS n = true) (hP1 : sgR ax ay bx b_y = true) (hP2 : rp cx cy = true) (hP3 : rtOn 0 = 0) (hP4 : rtOd 0 = 1) (hP5 : rtOn 1 = 1) (hP6 : rtOd 1 = 1) (hP7 : bak 0 1 1 1 false false ax (wrap64 (bx - ax)) (wrap64 ((wrap64 ((wrap64 (2 * cx)) * n)) - n)) (wrap64 ((wrap64 ((wrap64 (2 * cx)) * n)) + n)) = true) (hP8 : bafn 0 1 1 1 false false ax (wrap64 (bx - ax)) (wrap64 ((wrap64 ((wrap64 (2 * cx)) * n)) - n)) (wrap64 ((wrap64 ((wrap64 (2 * cx)) * n)) + n)) = pfn) (hP9 : bafd 0 1 1 1 false false ax (wrap64 (bx - ax)) (wrap64 ((wrap64 ((wrap64 (2 * cx)) * n)) - n)) (wrap64 ((wrap64 ((wrap64 (2 * cx)) * n)) + n)) = pfd) (hP10 : batn 0 1 1 1 false false ax (wrap64 (bx - ax)) (wrap64 ((wrap64 ((wrap64 (2 * cx)) * n)) - n)) (wrap64 ((wrap64 ((wrap64 (2 * cx)) * n)) + n)) = ptn) (hP11 : batd 0 1 1 1 false false ax (wrap64 (bx - ax)) (wrap64 ((wrap64 ((wrap64 (2 * cx)) * n)) - n)) (wrap64 ((wrap64 ((wrap64 (2 * cx)) * n)) + n)) = ptd) (hP12 : bafo 0 1 1 1 false false ax (wrap64 (bx - ax)) (wrap64 ((wrap64 ((wrap64 (2 * cx)) * n)) - n)) (wrap64 ((wrap64 ((wrap64 (2 * cx)) * n)) + n)) = pfo) (hP13 : bato 0 1 1 1 false false ax (wrap64 (bx - ax)) (wrap64 ((wrap64 ((wrap64 (2 * cx)) * n)) - n)) (wrap64 ((wrap64 ((wrap64 (2 * cx)) * n)) + n)) = pto) (hP14 : bak pfn pfd ptn ptd pfo pto ay (wrap64 (b_y - ay)) (wrap64 ((wrap64 ((wrap64 (2 * cy)) * n)) - n)) (wrap64 ((wrap64 ((wrap64 (2 * cy)) * n)) + n)) = true) (hP15 : bafn pfn pfd ptn ptd pfo pto ay (wrap64 (b_y - ay)) (wrap64 ((wrap64 ((wrap64 (2 * cy)) * n)) - n)) (wrap64 ((wrap64 ((wrap64 (2 * cy)) * n)) + n)) = qfn) (hP16 : bafd pfn pfd ptn ptd pfo pto ay (wrap64 (b_y - ay)) (wrap64 ((wrap64 ((wrap64 (2 * cy)) * n)) - n)) (wrap64 ((wrap64 ((wrap64 (2 * cy)) * n)) + n)) = qfd) (hP17 : batn pfn pfd ptn ptd pfo pto ay (wrap64 (b_y - ay)) (wrap64 ((wrap64 ((wrap64 (2 * cy)) * n)) - n)) (wrap64 ((wrap64 ((wrap64 (2 * cy)) * n)) + n)) = qtn) (hP18 : batd pfn pfd ptn ptd pfo pto ay (wrap64 (b_y - ay)) (wrap64 ((wrap64 ((wrap64 (2 * cy)) * n)) - n)) (wrap64 ((wrap64 ((wrap64 (2 * cy)) * n)) + n)) = qtd) (hP19 : bafo pfn pfd ptn ptd pfo pto ay (wrap64 (b_y - ay)) (wrap64 ((wrap64 ((wrap64 (2 * cy)) * n)) - n)) (wrap64 ((wrap64 ((wrap64 (2 * cy)) * n)) + n)) = qfo) (hP20 : bato pfn pfd ptn ptd pfo pto ay (wrap64 (b_y - ay)) (wrap64 ((wrap64 ((wrap64 (2 * cy)) * n)) - n)) (wrap64 ((wrap64 ((wrap64 (2 * cy)) * n)) + n)) = qto) (hP21 : smk_ qfn qfd qtn qtd qfo qto = false) (hP22 : smfn qfn qfd qtn qtd qfo qto = qfn) (hP23 : smfd qfn qfd qtn qtd qfo qto = qfd) (hP24 : smtn qfn qfd qtn qtd qfo qto = qtn) (hP25 : smtd qfn qfd qtn qtd qfo qto = qtd) (hP26 : smfo qfn qfd qtn qtd qfo qto = qfo) (hP27 : smto qfn qfd qtn qtd qfo qto = qto) (_ipfn : InI pfn) (_ipfd : InI pfd) (_iptn : InI ptn) (_iptd : InI ptd) (_iqfn : InI qfn) (_iqfd : InI qfd) (_iqtn : InI qtn) (_iqtd : InI qtd) (_iax : In64 ax) (_iay : In64 ay) (_ibx : In64 bx) (_ib_y : In64 b_y) (_icx : In64 cx) (_icy : In64 cy) (_in : In64 n)  (w : World)  :
    Calls Try.prog 30 #[.agg #[.int .i64 ax, .int .i64 ay, .int .i64 bx, .int .i64 b_y], .agg #[.int .i64 cx, .int .i64 cy], .int .i64 n] w fun e w' => e = .returned (.tuple #[.agg #[.int .u64 (wd0 R0), .int .u64 (wd1 R0), .int .u64 (wd2 R0), .int .u64 (wd3 R0), .int .u64 (wd0 R1), .int .u64 (wd1 R1), .int .u64 (wd2 R1), .int .u64 (wd3 R1), .int .u64 (wd0 R2), .int .u64 (wd1 R2), .int .u64 (wd2 R2), .int .u64 (wd3 R2), .int .u64 (wd0 R3), .int .u64 (wd1 R3), .int .u64 (wd2 R3), .int .u64 (wd3 R3), .bool R4, .bool R5], .bool R6]) ∧ Below w.heap.size w w' := by

  have HP0 := Lib.hid hP0
  clear hP0
  have HP1 := Lib.hid hP1
  clear hP1
  have HP2 := Lib.hid hP2
  clear hP2
  have HP3 := Lib.hid hP3
  clear hP3
  have HP4 := Lib.hid hP4
  clear hP4
  have HP5 := Lib.hid hP5
  clear hP5
  have HP6 := Lib.hid hP6
  clear hP6
  have HP7 := Lib.hid hP7
  clear hP7
  have HP8 := Lib.hid hP8
  clear hP8
  have HP9 := Lib.hid hP9
  clear hP9
  have HP10 := Lib.hid hP10
  clear hP10
  have HP11 := Lib.hid hP11
  clear hP11
  have HP12 := Lib.hid hP12
  clear hP12
  have HP13 := Lib.hid hP13
  clear hP13
  have HP14 := Lib.hid hP14
  clear hP14
  have HP15 := Lib.hid hP15
  clear hP15
  have HP16 := Lib.hid hP16
  clear hP16
  have HP17 := Lib.hid hP17
  clear hP17
  have HP18 := Lib.hid hP18
  clear hP18
  have HP19 := Lib.hid hP19
  clear hP19
  have HP20 := Lib.hid hP20
  clear hP20
  have HP21 := Lib.hid hP21
  clear hP21
  have HP22 := Lib.hid hP22
  clear hP22
  have HP23 := Lib.hid hP23
  clear hP23
  have HP24 := Lib.hid hP24
  clear hP24
  have HP25 := Lib.hid hP25
  clear hP25
  have HP26 := Lib.hid hP26
  clear hP26
  have HP27 := Lib.hid hP27
  clear hP27
  have HR0 := Lib.hid hR0
  clear hR0
  have HR1 := Lib.hid hR1
  clear hR1
  have HR2 := Lib.hid hR2
  clear hR2
  have HR3 := Lib.hid hR3
  clear hR3
  have HR4 := Lib.hid hR4
  clear hR4
  have HR5 := Lib.hid hR5
  clear hR5
  have HR6 := Lib.hid hR6
  clear hR6
  go_enter Try.func30, Try.ntmps30
  go_wp2_with fail
  first | refine calls_w ?_ | refine name_world ?_ | refine list_world ?_ | refine post_world ?_
  intro V1 hV1
  have hn : Below w.heap.size w V1 := by rw [hV1]; exact below_a3 _ _ _ _
  have nhb0 := hn
  have k1 : Blk V1 w.heap.size #[.int .i64 ax, .int .i64 ay, .int .i64 bx, .int .i64 b_y] 50 := by rw [hV1]; exact (((Blk.new _ _ _).alloc _).alloc _)
  have k2 : Blk V1 (w.heap.size + 1) #[.int .i64 cx, .int .i64 cy] 24 := by rw [hV1]; exact ((Blk.new1 _ _ _ _).alloc _)
  have k3 : Blk V1 (w.heap.size + 1 + 1) #[.int .u64 0, .int .u64 0, .int .u64 0, .int .u64 0, .int .u64 0, .int .u64 0, .int .u64 0, .int .u64 0, .int .u64 0, .int .u64 0, .int .u64 0, .int .u64 0, .int .u64 0, .int .u64 0, .int .u64 0, .int .u64 0, .bool false, .bool false] 54 := by rw [hV1]; exact (Blk.new2 _ _ _ _ _)
  clear hV1
  have hb0 := nhb0
  clear nhb0
  refine (pxSize_is n true HP0.out _in  _).mono ?_
  rintro e U2 ⟨rfl, hn⟩
  replace k1 := k1.of hn
  replace k2 := k2.of hn
  replace k3 := k3.of hn
  replace hb0 := hb0.trans (hn.mono hb0.size)
  clear hn
  have c1_0 : U2.cell? ⟨w.heap.size, 0, none⟩ = some (.int .i64 ax) := k1.cell 0
  have c1_1 : U2.cell? ⟨w.heap.size, 1, none⟩ = some (.int .i64 ay) := k1.cell 1
  have c1_2 : U2.cell? ⟨w.heap.size, 2, none⟩ = some (.int .i64 bx) := k1.cell 2
  have c1_3 : U2.cell? ⟨w.heap.size, 3, none⟩ = some (.int .i64 b_y) := k1.cell 3
  have l1 := k1.lt
  go_wp2_with fail
  clear c1_0 c1_1 c1_2 c1_3 l1
  refine (SegRight_is ax ay bx b_y true HP1.out _iax _iay _ibx _ib_y  _).mono ?_
  rintro e U3 ⟨rfl, hn⟩
  replace k1 := k1.of hn
  replace k2 := k2.of hn
  replace k3 := k3.of hn
  replace hb0 := hb0.trans (hn.mono hb0.size)
  clear hn
  have c2_0 : U3.cell? ⟨(w.heap.size + 1), 0, none⟩ = some (.int .i64 cx) := k2.cell 0
  have c2_1 : U3.cell? ⟨(w.heap.size + 1), 1, none⟩ = some (.int .i64 cy) := k2.cell 1
  have l2 := k2.lt
  go_wp2_with fail
  clear c2_0 c2_1 l2
  refine (PtRight_v cx cy true HP2.out _).mono ?_
  rintro e U4 ⟨rfl, hn⟩
  replace k1 := k1.of hn
  replace k2 := k2.of hn
  replace k3 := k3.of hn
  replace hb0 := hb0.trans (hn.mono hb0.size)
  clear hn
  go_wp2_with fail
  refine (rtOf_is 0 0 1 HP3.out HP4.out (by unfold In64; omega)  _).mono ?_
  rintro e U5 ⟨rfl, hn⟩
  replace k1 := k1.of hn
  replace k2 := k2.of hn
  replace k3 := k3.of hn
  replace hb0 := hb0.trans (hn.mono hb0.size)
  clear hn
  go_wp2_with fail
  refine (rtOf_is 1 1 1 HP5.out HP6.out (by unfold In64; omega)  _).mono ?_
  rintro e U6 ⟨rfl, hn⟩
  replace k1 := k1.of hn
  replace k2 := k2.of hn
  replace k3 := k3.of hn
  replace hb0 := hb0.trans (hn.mono hb0.size)
  clear hn
  go_wp2_with (first | ((with_reducible refine stRow (U6.heap.size) #[.int .u64 (wd0 0), .int .u64 (wd1 0), .int .u64 (wd2 0), .int .u64 (wd3 0), .int .u64 (wd0 1), .int .u64 (wd1 1), .int .u64 (wd2 1), .int .u64 (wd3 1), .int .u64 (wd0 1), .int .u64 (wd1 1), .int .u64 (wd2 1), .int .u64 (wd3 1), .int .u64 (wd0 1), .int .u64 (wd1 1), .int .u64 (wd2 1), .int .u64 (wd3 1), .bool false, .bool false] _ _ (Blk.new _ _ _) ?_ ?_ ?_ ?_ ?_ ?_); rfl; rfl; (as_aux_lemma => kernel_rfl); rfl; (as_aux_lemma => kernel_rfl); simp only [Act.put]))
  first | refine calls_w ?_ | refine name_world ?_ | refine list_world ?_ | refine post_world ?_
  intro V7 hV7
  rw [World.setRow_alloc_new] at hV7
  have D1 := Lib.hid k1.lt
  have D2 := Lib.hid k2.lt
  have D3 := Lib.hid k3.lt
  have D4 := Lib.hid hb0.size
  have hn : Below U6.heap.size U6 V7 := by rw [hV7]; exact below_a1 _ _
  have nk1 := k1.of hn
  have nk2 := k2.of hn
  have nk3 := k3.of hn
  have nhb0 := hb0.trans (hn.mono hb0.size)
  clear hn
  have k4 : Blk V7 U6.heap.size #[.int .u64 (wd0 0), .int .u64 (wd1 0), .int .u64 (wd2 0), .int .u64 (wd3 0), .int .u64 (wd0 1), .int .u64 (wd1 1), .int .u64 (wd2 1), .int .u64 (wd3 1), .int .u64 (wd0 1), .int .u64 (wd1 1), .int .u64 (wd2 1), .int .u64 (wd3 1), .int .u64 (wd0 1), .int .u64 (wd1 1), .int .u64 (wd2 1), .int .u64 (wd3 1), .bool false, .bool false] 54 := by rw [hV7]; exact (Blk.new _ _ _)
  clear k1 k2 k3
  clear hb0
  clear hV7
  have k1 := nk1
  clear nk1
  have k2 := nk2
  clear nk2
  have k3 := nk3
  clear nk3
  have hb0 := nhb0
  clear nhb0
  have c2_0 : V7.cell? ⟨(w.heap.size + 1), 0, none⟩ = some (.int .i64 cx) := k2.cell 0
  have c2_1 : V7.cell? ⟨(w.heap.size + 1), 1, none⟩ = some (.int .i64 cy) := k2.cell 1
  have l2 := k2.lt
  have Kk1 := Lib.hid k1
  clear k1
  have Kk2 := Lib.hid k2
  clear k2
  have Kk3 := Lib.hid k3
  clear k3
  have Kk4 := Lib.hid k4
  clear k4
  refine wp_region_up V7.heap.size 11 [(true, 0), (true, 1), (true, 2), (true, 3), (true, 4), (true, 5), (true, 6), (true, 7), (true, 8), (true, 9), (true, 10)] (by kernel_rfl) (by kernel_rfl) (fun _ _ d _ _ h => by cases d <;> exact h) ?_
  have hb : Below V7.heap.size V7 V7.drew := (Below.refl _ _).drew
  iterate 11
    refine wpS_takeL rfl rfl ?_
    go_big_quiet_step (rfl)
    refine wpQuiet_nil ?_
  refine wpS_nil ?_
  simp only [List.drop_succ_cons, List.drop_zero]
  first | refine calls_w ?_ | refine name_world ?_ | refine list_world ?_ | refine post_world ?_
  intro U8 hU8
  first | (subst hU8; have u_ := U8; clear u_) | (rw [← hU8] at hb; clear hU8)
  clear c2_0 c2_1 l2
  have k1 := Kk1.out.of hb
  clear Kk1
  have k2 := Kk2.out.of hb
  clear Kk2
  have k3 := Kk3.out.of hb
  clear Kk3
  have k4 := Kk4.out.of hb
  clear Kk4
  replace hb0 := hb0.trans (hb.mono hb0.size)
  clear hb
  have c1_0 : U8.cell? ⟨w.heap.size, 0, none⟩ = some (.int .i64 ax) := k1.cell 0
  have c1_2 : U8.cell? ⟨w.heap.size, 2, none⟩ = some (.int .i64 bx) := k1.cell 2
  have l1 := k1.lt
  go_wp2_with fail
  clear c1_0 c1_2 l1
  refine (pxba_is 0 1 1 1 false false ax (wrap64 (bx - ax)) (wrap64 ((wrap64 ((wrap64 (2 * cx)) * n)) - n)) (wrap64 ((wrap64 ((wrap64 (2 * cx)) * n)) + n)) true pfn pfd ptn ptd pfo pto HP7.out HP8.out HP9.out HP10.out HP11.out HP12.out HP13.out (by unfold InI b255; omega) (by unfold InI b255; omega) (by unfold InI b255; omega) (by unfold InI b255; omega) _iax (wrap64_in _) (wrap64_in _) (wrap64_in _) (U6.heap.size) _ k4).mono ?_
  rintro e U9 ⟨rfl, hk_, hn⟩
  clear k2
  replace k1 := k1.below hn (by have := D1.out; omega)
  replace k3 := k3.below hn (by have := D3.out; omega)
  replace k4 := hk_
  clear hk_
  replace hb0 := hb0.trans (hn.mono (by have := D4.out; omega))
  clear hn
  have c1_1 : U9.cell? ⟨w.heap.size, 1, none⟩ = some (.int .i64 ay) := k1.cell 1
  have c1_3 : U9.cell? ⟨w.heap.size, 3, none⟩ = some (.int .i64 b_y) := k1.cell 3
  have l1 := k1.lt
  go_wp2_with fail
  clear c1_1 c1_3 l1
  refine (pxba_is pfn pfd ptn ptd pfo pto ay (wrap64 (b_y - ay)) (wrap64 ((wrap64 ((wrap64 (2 * cy)) * n)) - n)) (wrap64 ((wrap64 ((wrap64 (2 * cy)) * n)) + n)) true qfn qfd qtn qtd qfo qto HP14.out HP15.out HP16.out HP17.out HP18.out HP19.out HP20.out _ipfn _ipfd _iptn _iptd _iay (wrap64_in _) (wrap64_in _) (wrap64_in _) (U6.heap.size) _ k4).mono ?_
  rintro e U10 ⟨rfl, hk_, hn⟩
  clear k1
  replace k3 := k3.below hn (by have := D3.out; omega)
  replace k4 := hk_
  clear hk_
  replace hb0 := hb0.trans (hn.mono (by have := D4.out; omega))
  clear hn
  go_wp2_with fail
  refine (pxsm_is qfn qfd qtn qtd qfo qto false qfn qfd qtn qtd qfo qto HP21.out HP22.out HP23.out HP24.out HP25.out HP26.out HP27.out _iqfn _iqfd _iqtn _iqtd (U6.heap.size) _ k4).mono ?_
  rintro e U11 ⟨rfl, hk_, hn⟩
  replace k3 := k3.below hn (by have := D3.out; omega)
  replace k4 := hk_
  clear hk_
  replace hb0 := hb0.trans (hn.mono (by have := D4.out; omega))
  clear hn
  have e0 : 0 = R0 := by rw [← HR0.out]; (try rw [HP0.out]); (try rw [HP1.out]); (try rw [HP2.out]); (try rw [HP3.out]); (try rw [HP4.out]); (try rw [HP5.out]); (try rw [HP6.out]); (try rw [HP7.out]); (try rw [HP8.out]); (try rw [HP9.out]); (try rw [HP10.out]); (try rw [HP11.out]); (try rw [HP12.out]); (try rw [HP13.out]); (try rw [HP14.out]); (try rw [HP15.out]); (try rw [HP16.out]); (try rw [HP17.out]); (try rw [HP18.out]); (try rw [HP19.out]); (try rw [HP20.out]); (try rw [HP21.out]); (try rw [HP22.out]); (try rw [HP23.out]); (try rw [HP24.out]); (try rw [HP25.out]); (try rw [HP26.out]); (try rw [HP27.out]); all_goals first | rfl | simp
  have e1 : 0 = R1 := by rw [← HR1.out]; (try rw [HP0.out]); (try rw [HP1.out]); (try rw [HP2.out]); (try rw [HP3.out]); (try rw [HP4.out]); (try rw [HP5.out]); (try rw [HP6.out]); (try rw [HP7.out]); (try rw [HP8.out]); (try rw [HP9.out]); (try rw [HP10.out]); (try rw [HP11.out]); (try rw [HP12.out]); (try rw [HP13.out]); (try rw [HP14.out]); (try rw [HP15.out]); (try rw [HP16.out]); (try rw [HP17.out]); (try rw [HP18.out]); (try rw [HP19.out]); (try rw [HP20.out]); (try rw [HP21.out]); (try rw [HP22.out]); (try rw [HP23.out]); (try rw [HP24.out]); (try rw [HP25.out]); (try rw [HP26.out]); (try rw [HP27.out]); all_goals first | rfl | simp
  have e2 : 0 = R2 := by rw [← HR2.out]; (try rw [HP0.out]); (try rw [HP1.out]); (try rw [HP2.out]); (try rw [HP3.out]); (try rw [HP4.out]); (try rw [HP5.out]); (try rw [HP6.out]); (try rw [HP7.out]); (try rw [HP8.out]); (try rw [HP9.out]); (try rw [HP10.out]); (try rw [HP11.out]); (try rw [HP12.out]); (try rw [HP13.out]); (try rw [HP14.out]); (try rw [HP15.out]); (try rw [HP16.out]); (try rw [HP17.out]); (try rw [HP18.out]); (try rw [HP19.out]); (try rw [HP20.out]); (try rw [HP21.out]); (try rw [HP22.out]); (try rw [HP23.out]); (try rw [HP24.out]); (try rw [HP25.out]); (try rw [HP26.out]); (try rw [HP27.out]); all_goals first | rfl | simp
  have e3 : 0 = R3 := by rw [← HR3.out]; (try rw [HP0.out]); (try rw [HP1.out]); (try rw [HP2.out]); (try rw [HP3.out]); (try rw [HP4.out]); (try rw [HP5.out]); (try rw [HP6.out]); (try rw [HP7.out]); (try rw [HP8.out]); (try rw [HP9.out]); (try rw [HP10.out]); (try rw [HP11.out]); (try rw [HP12.out]); (try rw [HP13.out]); (try rw [HP14.out]); (try rw [HP15.out]); (try rw [HP16.out]); (try rw [HP17.out]); (try rw [HP18.out]); (try rw [HP19.out]); (try rw [HP20.out]); (try rw [HP21.out]); (try rw [HP22.out]); (try rw [HP23.out]); (try rw [HP24.out]); (try rw [HP25.out]); (try rw [HP26.out]); (try rw [HP27.out]); all_goals first | rfl | simp
  have e4 : false = R4 := by rw [← HR4.out]; (try rw [HP0.out]); (try rw [HP1.out]); (try rw [HP2.out]); (try rw [HP3.out]); (try rw [HP4.out]); (try rw [HP5.out]); (try rw [HP6.out]); (try rw [HP7.out]); (try rw [HP8.out]); (try rw [HP9.out]); (try rw [HP10.out]); (try rw [HP11.out]); (try rw [HP12.out]); (try rw [HP13.out]); (try rw [HP14.out]); (try rw [HP15.out]); (try rw [HP16.out]); (try rw [HP17.out]); (try rw [HP18.out]); (try rw [HP19.out]); (try rw [HP20.out]); (try rw [HP21.out]); (try rw [HP22.out]); (try rw [HP23.out]); (try rw [HP24.out]); (try rw [HP25.out]); (try rw [HP26.out]); (try rw [HP27.out]); all_goals first | rfl | simp
  have e5 : false = R5 := by rw [← HR5.out]; (try rw [HP0.out]); (try rw [HP1.out]); (try rw [HP2.out]); (try rw [HP3.out]); (try rw [HP4.out]); (try rw [HP5.out]); (try rw [HP6.out]); (try rw [HP7.out]); (try rw [HP8.out]); (try rw [HP9.out]); (try rw [HP10.out]); (try rw [HP11.out]); (try rw [HP12.out]); (try rw [HP13.out]); (try rw [HP14.out]); (try rw [HP15.out]); (try rw [HP16.out]); (try rw [HP17.out]); (try rw [HP18.out]); (try rw [HP19.out]); (try rw [HP20.out]); (try rw [HP21.out]); (try rw [HP22.out]); (try rw [HP23.out]); (try rw [HP24.out]); (try rw [HP25.out]); (try rw [HP26.out]); (try rw [HP27.out]); all_goals first | rfl | simp
  have e6 : false = R6 := by rw [← HR6.out]; (try rw [HP0.out]); (try rw [HP1.out]); (try rw [HP2.out]); (try rw [HP3.out]); (try rw [HP4.out]); (try rw [HP5.out]); (try rw [HP6.out]); (try rw [HP7.out]); (try rw [HP8.out]); (try rw [HP9.out]); (try rw [HP10.out]); (try rw [HP11.out]); (try rw [HP12.out]); (try rw [HP13.out]); (try rw [HP14.out]); (try rw [HP15.out]); (try rw [HP16.out]); (try rw [HP17.out]); (try rw [HP18.out]); (try rw [HP19.out]); (try rw [HP20.out]); (try rw [HP21.out]); (try rw [HP22.out]); (try rw [HP23.out]); (try rw [HP24.out]); (try rw [HP25.out]); (try rw [HP26.out]); (try rw [HP27.out]); all_goals first | rfl | simp
  subst e0
  subst e1
  subst e2
  subst e3
  subst e4
  subst e5
  subst e6
  go_wp2_with (first | ((with_reducible refine stRow (w.heap.size + 1 + 1) #[.int .u64 0, .int .u64 0, .int .u64 0, .int .u64 0, .int .u64 0, .int .u64 0, .int .u64 0, .int .u64 0, .int .u64 0, .int .u64 0, .int .u64 0, .int .u64 0, .int .u64 0, .int .u64 0, .int .u64 0, .int .u64 0, .bool false, .bool false] _ _ k3 ?_ ?_ ?_ ?_ ?_ ?_); rfl; rfl; (as_aux_lemma => kernel_rfl); rfl; (as_aux_lemma => kernel_rfl); simp only [Act.put]))
  first | refine post_world ?_
  intro V12 hV12
  have D5 := Lib.hid k3.lt
  have D6 := Lib.hid k4.lt
  have D7 := Lib.hid hb0.size
  clear k4
  have nk3 : Blk V12 (w.heap.size + 1 + 1) #[.int .u64 0, .int .u64 0, .int .u64 0, .int .u64 0, .int .u64 0, .int .u64 0, .int .u64 0, .int .u64 0, .int .u64 0, .int .u64 0, .int .u64 0, .int .u64 0, .int .u64 0, .int .u64 0, .int .u64 0, .int .u64 0, .bool false, .bool false] 54 := by rw [hV12]; exact blk_row k3 _
  have nhb0 : Below w.heap.size w V12 := by rw [hV12]; exact blw_row hb0 (by omega) _
  clear k3
  clear hb0
  clear hV12
  have k3 := nk3
  clear nk3
  have hb0 := nhb0
  clear nhb0
  refine ⟨rfl, _, results_row_tmp rfl _ _ _ _ _ _ _ rfl k3 rfl rfl (by as_aux_lemma => kernel_rfl), ?_, hb0⟩
  first | rfl | kernel_rfl

set_option maxRecDepth 100000 in
set_option maxHeartbeats 4000000 in

theorem pxCut_6 (ax : Int) (ay : Int) (bx : Int) (b_y : Int) (cx : Int) (cy : Int) (n : Int) (pfn : Int) (pfd : Int) (ptn : Int) (ptd : Int) (pfo : Bool) (pto : Bool) (qfn : Int) (qfd : Int) (qtn : Int) (qtd : Int) (qfo : Bool) (qto : Bool) (R0 : Int) (R1 : Int) (R2 : Int) (R3 : Int) (R4 : Bool) (R5 : Bool) (R6 : Bool) (hR0 : (fun (_ : Int) (_ : Int) (_ : Int) (_ : Int) (_ : Int) (_ : Int) (_ : Int) => qfn) ax ay bx b_y cx cy n = R0) (hR1 : (fun (_ : Int) (_ : Int) (_ : Int) (_ : Int) (_ : Int) (_ : Int) (_ : Int) => qfd) ax ay bx b_y cx cy n = R1) (hR2 : (fun (_ : Int) (_ : Int) (_ : Int) (_ : Int) (_ : Int) (_ : Int) (_ : Int) => qtn) ax ay bx b_y cx cy n = R2) (hR3 : (fun (_ : Int) (_ : Int) (_ : Int) (_ : Int) (_ : Int) (_ : Int) (_ : Int) => qtd) ax ay bx b_y cx cy n = R3) (hR4 : (fun (_ : Int) (_ : Int) (_ : Int) (_ : Int) (_ : Int) (_ : Int) (_ : Int) => qfo) ax ay bx b_y cx cy n = R4) (hR5 : (fun (_ : Int) (_ : Int) (_ : Int) (_ : Int) (_ : Int) (_ : Int) (_ : Int) => qto) ax ay bx b_y cx cy n = R5) (hR6 : (fun (_ : Int) (_ : Int) (_ : Int) (_ : Int) (_ : Int) (_ : Int) (_ : Int) => true) ax ay bx b_y cx cy n = R6) (hP0 : pxS n = true) (hP1 : sgR ax ay bx b_y = true) (hP2 : rp cx cy = true) (hP3 : rtOn 0 = 0) (hP4 : rtOd 0 = 1) (hP5 : rtOn 1 = 1) (hP6 : rtOd 1 = 1) (hP7 : bak 0 1 1 1 false false ax (wrap64 (bx - ax)) (wrap64 ((wrap64 ((wrap64 (2 * cx)) * n)) - n)) (wrap64 ((wrap64 ((wrap64 (2 * cx)) * n)) + n)) = true) (hP8 : bafn 0 1 1 1 false false ax (wrap64 (bx - ax)) (wrap64 ((wrap64 ((wrap64 (2 * cx)) * n)) - n)) (wrap64 ((wrap64 ((wrap64 (2 * cx)) * n)) + n)) = pfn) (hP9 : bafd 0 1 1 1 false false ax (wrap64 (bx - ax)) (wrap64 ((wrap64 ((wrap64 (2 * cx)) * n)) - n)) (wrap64 ((wrap64 ((wrap64 (2 * cx)) * n)) + n)) = pfd) (hP10 : batn 0 1 1 1 false false ax (wrap64 (bx - ax)) (wrap64 ((wrap64 ((wrap64 (2 * cx)) * n)) - n)) (wrap64 ((wrap64 ((wrap64 (2 * cx)) * n)) + n)) = ptn) (hP11 : batd 0 1 1 1 false false ax (wrap64 (bx - ax)) (wrap64 ((wrap64 ((wrap64 (2 * cx)) * n)) - n)) (wrap64 ((wrap64 ((wrap64 (2 * cx)) * n)) + n)) = ptd) (hP12 : bafo 0 1 1 1 false false ax (wrap64 (bx - ax)) (wrap64 ((wrap64 ((wrap64 (2 * cx)) * n)) - n)) (wrap64 ((wrap64 ((wrap64 (2 * cx)) * n)) + n)) = pfo) (hP13 : bato 0 1 1 1 false false ax (wrap64 (bx - ax)) (wrap64 ((wrap64 ((wrap64 (2 * cx)) * n)) - n)) (wrap64 ((wrap64 ((wrap64 (2 * cx)) * n)) + n)) = pto) (hP14 : bak pfn pfd ptn ptd pfo pto ay (wrap64 (b_y - ay)) (wrap64 ((wrap64 ((wrap64 (2 * cy)) * n)) - n)) (wrap64 ((wrap64 ((wrap64 (2 * cy)) * n)) + n)) = true) (hP15 : bafn pfn pfd ptn ptd pfo pto ay (wrap64 (b_y - ay)) (wrap64 ((wrap64 ((wrap64 (2 * cy)) * n)) - n)) (wrap64 ((wrap64 ((wrap64 (2 * cy)) * n)) + n)) = qfn) (hP16 : bafd pfn pfd ptn ptd pfo pto ay (wrap64 (b_y - ay)) (wrap64 ((wrap64 ((wrap64 (2 * cy)) * n)) - n)) (wrap64 ((wrap64 ((wrap64 (2 * cy)) * n)) + n)) = qfd) (hP17 : batn pfn pfd ptn ptd pfo pto ay (wrap64 (b_y - ay)) (wrap64 ((wrap64 ((wrap64 (2 * cy)) * n)) - n)) (wrap64 ((wrap64 ((wrap64 (2 * cy)) * n)) + n)) = qtn) (hP18 : batd pfn pfd ptn ptd pfo pto ay (wrap64 (b_y - ay)) (wrap64 ((wrap64 ((wrap64 (2 * cy)) * n)) - n)) (wrap64 ((wrap64 ((wrap64 (2 * cy)) * n)) + n)) = qtd) (hP19 : bafo pfn pfd ptn ptd pfo pto ay (wrap64 (b_y - ay)) (wrap64 ((wrap64 ((wrap64 (2 * cy)) * n)) - n)) (wrap64 ((wrap64 ((wrap64 (2 * cy)) * n)) + n)) = qfo) (hP20 : bato pfn pfd ptn ptd pfo pto ay (wrap64 (b_y - ay)) (wrap64 ((wrap64 ((wrap64 (2 * cy)) * n)) - n)) (wrap64 ((wrap64 ((wrap64 (2 * cy)) * n)) + n)) = qto) (hP21 : smk_ qfn qfd qtn qtd qfo qto = true) (hP22 : smfn qfn qfd qtn qtd qfo qto = qfn) (hP23 : smfd qfn qfd qtn qtd qfo qto = qfd) (hP24 : smtn qfn qfd qtn qtd qfo qto = qtn) (hP25 : smtd qfn qfd qtn qtd qfo qto = qtd) (hP26 : smfo qfn qfd qtn qtd qfo qto = qfo) (hP27 : smto qfn qfd qtn qtd qfo qto = qto) (_ipfn : InI pfn) (_ipfd : InI pfd) (_iptn : InI ptn) (_iptd : InI ptd) (_iqfn : InI qfn) (_iqfd : InI qfd) (_iqtn : InI qtn) (_iqtd : InI qtd) (_iax : In64 ax) (_iay : In64 ay) (_ibx : In64 bx) (_ib_y : In64 b_y) (_icx : In64 cx) (_icy : In64 cy) (_in : In64 n)  (w : World)  :
    Calls Try.prog 30 #[.agg #[.int .i64 ax, .int .i64 ay, .int .i64 bx, .int .i64 b_y], .agg #[.int .i64 cx, .int .i64 cy], .int .i64 n] w fun e w' => e = .returned (.tuple #[.agg #[.int .u64 (wd0 R0), .int .u64 (wd1 R0), .int .u64 (wd2 R0), .int .u64 (wd3 R0), .int .u64 (wd0 R1), .int .u64 (wd1 R1), .int .u64 (wd2 R1), .int .u64 (wd3 R1), .int .u64 (wd0 R2), .int .u64 (wd1 R2), .int .u64 (wd2 R2), .int .u64 (wd3 R2), .int .u64 (wd0 R3), .int .u64 (wd1 R3), .int .u64 (wd2 R3), .int .u64 (wd3 R3), .bool R4, .bool R5], .bool R6]) ∧ Below w.heap.size w w' := by

  have HP0 := Lib.hid hP0
  clear hP0
  have HP1 := Lib.hid hP1
  clear hP1
  have HP2 := Lib.hid hP2
  clear hP2
  have HP3 := Lib.hid hP3
  clear hP3
  have HP4 := Lib.hid hP4
  clear hP4
  have HP5 := Lib.hid hP5
  clear hP5
  have HP6 := Lib.hid hP6
  clear hP6
  have HP7 := Lib.hid hP7
  clear hP7
  have HP8 := Lib.hid hP8
  clear hP8
  have HP9 := Lib.hid hP9
  clear hP9
  have HP10 := Lib.hid hP10
  clear hP10
  have HP11 := Lib.hid hP11
  clear hP11
  have HP12 := Lib.hid hP12
  clear hP12
  have HP13 := Lib.hid hP13
  clear hP13
  have HP14 := Lib.hid hP14
  clear hP14
  have HP15 := Lib.hid hP15
  clear hP15
  have HP16 := Lib.hid hP16
  clear hP16
  have HP17 := Lib.hid hP17
  clear hP17
  have HP18 := Lib.hid hP18
  clear hP18
  have HP19 := Lib.hid hP19
  clear hP19
  have HP20 := Lib.hid hP20
  clear hP20
  have HP21 := Lib.hid hP21
  clear hP21
  have HP22 := Lib.hid hP22
  clear hP22
  have HP23 := Lib.hid hP23
  clear hP23
  have HP24 := Lib.hid hP24
  clear hP24
  have HP25 := Lib.hid hP25
  clear hP25
  have HP26 := Lib.hid hP26
  clear hP26
  have HP27 := Lib.hid hP27
  clear hP27
  have HR0 := Lib.hid hR0
  clear hR0
  have HR1 := Lib.hid hR1
  clear hR1
  have HR2 := Lib.hid hR2
  clear hR2
  have HR3 := Lib.hid hR3
  clear hR3
  have HR4 := Lib.hid hR4
  clear hR4
  have HR5 := Lib.hid hR5
  clear hR5
  have HR6 := Lib.hid hR6
  clear hR6
  go_enter Try.func30, Try.ntmps30
  go_wp2_with fail
  first | refine calls_w ?_ | refine name_world ?_ | refine list_world ?_ | refine post_world ?_
  intro V1 hV1
  have hn : Below w.heap.size w V1 := by rw [hV1]; exact below_a3 _ _ _ _
  have nhb0 := hn
  have k1 : Blk V1 w.heap.size #[.int .i64 ax, .int .i64 ay, .int .i64 bx, .int .i64 b_y] 50 := by rw [hV1]; exact (((Blk.new _ _ _).alloc _).alloc _)
  have k2 : Blk V1 (w.heap.size + 1) #[.int .i64 cx, .int .i64 cy] 24 := by rw [hV1]; exact ((Blk.new1 _ _ _ _).alloc _)
  have k3 : Blk V1 (w.heap.size + 1 + 1) #[.int .u64 0, .int .u64 0, .int .u64 0, .int .u64 0, .int .u64 0, .int .u64 0, .int .u64 0, .int .u64 0, .int .u64 0, .int .u64 0, .int .u64 0, .int .u64 0, .int .u64 0, .int .u64 0, .int .u64 0, .int .u64 0, .bool false, .bool false] 54 := by rw [hV1]; exact (Blk.new2 _ _ _ _ _)
  clear hV1
  have hb0 := nhb0
  clear nhb0
  refine (pxSize_is n true HP0.out _in  _).mono ?_
  rintro e U2 ⟨rfl, hn⟩
  replace k1 := k1.of hn
  replace k2 := k2.of hn
  replace k3 := k3.of hn
  replace hb0 := hb0.trans (hn.mono hb0.size)
  clear hn
  have c1_0 : U2.cell? ⟨w.heap.size, 0, none⟩ = some (.int .i64 ax) := k1.cell 0
  have c1_1 : U2.cell? ⟨w.heap.size, 1, none⟩ = some (.int .i64 ay) := k1.cell 1
  have c1_2 : U2.cell? ⟨w.heap.size, 2, none⟩ = some (.int .i64 bx) := k1.cell 2
  have c1_3 : U2.cell? ⟨w.heap.size, 3, none⟩ = some (.int .i64 b_y) := k1.cell 3
  have l1 := k1.lt
  go_wp2_with fail
  clear c1_0 c1_1 c1_2 c1_3 l1
  refine (SegRight_is ax ay bx b_y true HP1.out _iax _iay _ibx _ib_y  _).mono ?_
  rintro e U3 ⟨rfl, hn⟩
  replace k1 := k1.of hn
  replace k2 := k2.of hn
  replace k3 := k3.of hn
  replace hb0 := hb0.trans (hn.mono hb0.size)
  clear hn
  have c2_0 : U3.cell? ⟨(w.heap.size + 1), 0, none⟩ = some (.int .i64 cx) := k2.cell 0
  have c2_1 : U3.cell? ⟨(w.heap.size + 1), 1, none⟩ = some (.int .i64 cy) := k2.cell 1
  have l2 := k2.lt
  go_wp2_with fail
  clear c2_0 c2_1 l2
  refine (PtRight_v cx cy true HP2.out _).mono ?_
  rintro e U4 ⟨rfl, hn⟩
  replace k1 := k1.of hn
  replace k2 := k2.of hn
  replace k3 := k3.of hn
  replace hb0 := hb0.trans (hn.mono hb0.size)
  clear hn
  go_wp2_with fail
  refine (rtOf_is 0 0 1 HP3.out HP4.out (by unfold In64; omega)  _).mono ?_
  rintro e U5 ⟨rfl, hn⟩
  replace k1 := k1.of hn
  replace k2 := k2.of hn
  replace k3 := k3.of hn
  replace hb0 := hb0.trans (hn.mono hb0.size)
  clear hn
  go_wp2_with fail
  refine (rtOf_is 1 1 1 HP5.out HP6.out (by unfold In64; omega)  _).mono ?_
  rintro e U6 ⟨rfl, hn⟩
  replace k1 := k1.of hn
  replace k2 := k2.of hn
  replace k3 := k3.of hn
  replace hb0 := hb0.trans (hn.mono hb0.size)
  clear hn
  go_wp2_with (first | ((with_reducible refine stRow (U6.heap.size) #[.int .u64 (wd0 0), .int .u64 (wd1 0), .int .u64 (wd2 0), .int .u64 (wd3 0), .int .u64 (wd0 1), .int .u64 (wd1 1), .int .u64 (wd2 1), .int .u64 (wd3 1), .int .u64 (wd0 1), .int .u64 (wd1 1), .int .u64 (wd2 1), .int .u64 (wd3 1), .int .u64 (wd0 1), .int .u64 (wd1 1), .int .u64 (wd2 1), .int .u64 (wd3 1), .bool false, .bool false] _ _ (Blk.new _ _ _) ?_ ?_ ?_ ?_ ?_ ?_); rfl; rfl; (as_aux_lemma => kernel_rfl); rfl; (as_aux_lemma => kernel_rfl); simp only [Act.put]))
  first | refine calls_w ?_ | refine name_world ?_ | refine list_world ?_ | refine post_world ?_
  intro V7 hV7
  rw [World.setRow_alloc_new] at hV7
  have D1 := Lib.hid k1.lt
  have D2 := Lib.hid k2.lt
  have D3 := Lib.hid k3.lt
  have D4 := Lib.hid hb0.size
  have hn : Below U6.heap.size U6 V7 := by rw [hV7]; exact below_a1 _ _
  have nk1 := k1.of hn
  have nk2 := k2.of hn
  have nk3 := k3.of hn
  have nhb0 := hb0.trans (hn.mono hb0.size)
  clear hn
  have k4 : Blk V7 U6.heap.size #[.int .u64 (wd0 0), .int .u64 (wd1 0), .int .u64 (wd2 0), .int .u64 (wd3 0), .int .u64 (wd0 1), .int .u64 (wd1 1), .int .u64 (wd2 1), .int .u64 (wd3 1), .int .u64 (wd0 1), .int .u64 (wd1 1), .int .u64 (wd2 1), .int .u64 (wd3 1), .int .u64 (wd0 1), .int .u64 (wd1 1), .int .u64 (wd2 1), .int .u64 (wd3 1), .bool false, .bool false] 54 := by rw [hV7]; exact (Blk.new _ _ _)
  clear k1 k2 k3
  clear hb0
  clear hV7
  have k1 := nk1
  clear nk1
  have k2 := nk2
  clear nk2
  have k3 := nk3
  clear nk3
  have hb0 := nhb0
  clear nhb0
  have c2_0 : V7.cell? ⟨(w.heap.size + 1), 0, none⟩ = some (.int .i64 cx) := k2.cell 0
  have c2_1 : V7.cell? ⟨(w.heap.size + 1), 1, none⟩ = some (.int .i64 cy) := k2.cell 1
  have l2 := k2.lt
  have Kk1 := Lib.hid k1
  clear k1
  have Kk2 := Lib.hid k2
  clear k2
  have Kk3 := Lib.hid k3
  clear k3
  have Kk4 := Lib.hid k4
  clear k4
  refine wp_region_up V7.heap.size 11 [(true, 0), (true, 1), (true, 2), (true, 3), (true, 4), (true, 5), (true, 6), (true, 7), (true, 8), (true, 9), (true, 10)] (by kernel_rfl) (by kernel_rfl) (fun _ _ d _ _ h => by cases d <;> exact h) ?_
  have hb : Below V7.heap.size V7 V7.drew := (Below.refl _ _).drew
  iterate 11
    refine wpS_takeL rfl rfl ?_
    go_big_quiet_step (rfl)
    refine wpQuiet_nil ?_
  refine wpS_nil ?_
  simp only [List.drop_succ_cons, List.drop_zero]
  first | refine calls_w ?_ | refine name_world ?_ | refine list_world ?_ | refine post_world ?_
  intro U8 hU8
  first | (subst hU8; have u_ := U8; clear u_) | (rw [← hU8] at hb; clear hU8)
  clear c2_0 c2_1 l2
  have k1 := Kk1.out.of hb
  clear Kk1
  have k2 := Kk2.out.of hb
  clear Kk2
  have k3 := Kk3.out.of hb
  clear Kk3
  have k4 := Kk4.out.of hb
  clear Kk4
  replace hb0 := hb0.trans (hb.mono hb0.size)
  clear hb
  have c1_0 : U8.cell? ⟨w.heap.size, 0, none⟩ = some (.int .i64 ax) := k1.cell 0
  have c1_2 : U8.cell? ⟨w.heap.size, 2, none⟩ = some (.int .i64 bx) := k1.cell 2
  have l1 := k1.lt
  go_wp2_with fail
  clear c1_0 c1_2 l1
  refine (pxba_is 0 1 1 1 false false ax (wrap64 (bx - ax)) (wrap64 ((wrap64 ((wrap64 (2 * cx)) * n)) - n)) (wrap64 ((wrap64 ((wrap64 (2 * cx)) * n)) + n)) true pfn pfd ptn ptd pfo pto HP7.out HP8.out HP9.out HP10.out HP11.out HP12.out HP13.out (by unfold InI b255; omega) (by unfold InI b255; omega) (by unfold InI b255; omega) (by unfold InI b255; omega) _iax (wrap64_in _) (wrap64_in _) (wrap64_in _) (U6.heap.size) _ k4).mono ?_
  rintro e U9 ⟨rfl, hk_, hn⟩
  clear k2
  replace k1 := k1.below hn (by have := D1.out; omega)
  replace k3 := k3.below hn (by have := D3.out; omega)
  replace k4 := hk_
  clear hk_
  replace hb0 := hb0.trans (hn.mono (by have := D4.out; omega))
  clear hn
  have c1_1 : U9.cell? ⟨w.heap.size, 1, none⟩ = some (.int .i64 ay) := k1.cell 1
  have c1_3 : U9.cell? ⟨w.heap.size, 3, none⟩ = some (.int .i64 b_y) := k1.cell 3
  have l1 := k1.lt
  go_wp2_with fail
  clear c1_1 c1_3 l1
  refine (pxba_is pfn pfd ptn ptd pfo pto ay (wrap64 (b_y - ay)) (wrap64 ((wrap64 ((wrap64 (2 * cy)) * n)) - n)) (wrap64 ((wrap64 ((wrap64 (2 * cy)) * n)) + n)) true qfn qfd qtn qtd qfo qto HP14.out HP15.out HP16.out HP17.out HP18.out HP19.out HP20.out _ipfn _ipfd _iptn _iptd _iay (wrap64_in _) (wrap64_in _) (wrap64_in _) (U6.heap.size) _ k4).mono ?_
  rintro e U10 ⟨rfl, hk_, hn⟩
  clear k1
  replace k3 := k3.below hn (by have := D3.out; omega)
  replace k4 := hk_
  clear hk_
  replace hb0 := hb0.trans (hn.mono (by have := D4.out; omega))
  clear hn
  go_wp2_with fail
  refine (pxsm_is qfn qfd qtn qtd qfo qto true qfn qfd qtn qtd qfo qto HP21.out HP22.out HP23.out HP24.out HP25.out HP26.out HP27.out _iqfn _iqfd _iqtn _iqtd (U6.heap.size) _ k4).mono ?_
  rintro e U11 ⟨rfl, hk_, hn⟩
  replace k3 := k3.below hn (by have := D3.out; omega)
  replace k4 := hk_
  clear hk_
  replace hb0 := hb0.trans (hn.mono (by have := D4.out; omega))
  clear hn
  have e0 : qfn = R0 := by rw [← HR0.out]; (try rw [HP0.out]); (try rw [HP1.out]); (try rw [HP2.out]); (try rw [HP3.out]); (try rw [HP4.out]); (try rw [HP5.out]); (try rw [HP6.out]); (try rw [HP7.out]); (try rw [HP8.out]); (try rw [HP9.out]); (try rw [HP10.out]); (try rw [HP11.out]); (try rw [HP12.out]); (try rw [HP13.out]); (try rw [HP14.out]); (try rw [HP15.out]); (try rw [HP16.out]); (try rw [HP17.out]); (try rw [HP18.out]); (try rw [HP19.out]); (try rw [HP20.out]); (try rw [HP21.out]); (try rw [HP22.out]); (try rw [HP23.out]); (try rw [HP24.out]); (try rw [HP25.out]); (try rw [HP26.out]); (try rw [HP27.out]); all_goals first | rfl | simp
  have e1 : qfd = R1 := by rw [← HR1.out]; (try rw [HP0.out]); (try rw [HP1.out]); (try rw [HP2.out]); (try rw [HP3.out]); (try rw [HP4.out]); (try rw [HP5.out]); (try rw [HP6.out]); (try rw [HP7.out]); (try rw [HP8.out]); (try rw [HP9.out]); (try rw [HP10.out]); (try rw [HP11.out]); (try rw [HP12.out]); (try rw [HP13.out]); (try rw [HP14.out]); (try rw [HP15.out]); (try rw [HP16.out]); (try rw [HP17.out]); (try rw [HP18.out]); (try rw [HP19.out]); (try rw [HP20.out]); (try rw [HP21.out]); (try rw [HP22.out]); (try rw [HP23.out]); (try rw [HP24.out]); (try rw [HP25.out]); (try rw [HP26.out]); (try rw [HP27.out]); all_goals first | rfl | simp
  have e2 : qtn = R2 := by rw [← HR2.out]; (try rw [HP0.out]); (try rw [HP1.out]); (try rw [HP2.out]); (try rw [HP3.out]); (try rw [HP4.out]); (try rw [HP5.out]); (try rw [HP6.out]); (try rw [HP7.out]); (try rw [HP8.out]); (try rw [HP9.out]); (try rw [HP10.out]); (try rw [HP11.out]); (try rw [HP12.out]); (try rw [HP13.out]); (try rw [HP14.out]); (try rw [HP15.out]); (try rw [HP16.out]); (try rw [HP17.out]); (try rw [HP18.out]); (try rw [HP19.out]); (try rw [HP20.out]); (try rw [HP21.out]); (try rw [HP22.out]); (try rw [HP23.out]); (try rw [HP24.out]); (try rw [HP25.out]); (try rw [HP26.out]); (try rw [HP27.out]); all_goals first | rfl | simp
  have e3 : qtd = R3 := by rw [← HR3.out]; (try rw [HP0.out]); (try rw [HP1.out]); (try rw [HP2.out]); (try rw [HP3.out]); (try rw [HP4.out]); (try rw [HP5.out]); (try rw [HP6.out]); (try rw [HP7.out]); (try rw [HP8.out]); (try rw [HP9.out]); (try rw [HP10.out]); (try rw [HP11.out]); (try rw [HP12.out]); (try rw [HP13.out]); (try rw [HP14.out]); (try rw [HP15.out]); (try rw [HP16.out]); (try rw [HP17.out]); (try rw [HP18.out]); (try rw [HP19.out]); (try rw [HP20.out]); (try rw [HP21.out]); (try rw [HP22.out]); (try rw [HP23.out]); (try rw [HP24.out]); (try rw [HP25.out]); (try rw [HP26.out]); (try rw [HP27.out]); all_goals first | rfl | simp
  have e4 : qfo = R4 := by rw [← HR4.out]; (try rw [HP0.out]); (try rw [HP1.out]); (try rw [HP2.out]); (try rw [HP3.out]); (try rw [HP4.out]); (try rw [HP5.out]); (try rw [HP6.out]); (try rw [HP7.out]); (try rw [HP8.out]); (try rw [HP9.out]); (try rw [HP10.out]); (try rw [HP11.out]); (try rw [HP12.out]); (try rw [HP13.out]); (try rw [HP14.out]); (try rw [HP15.out]); (try rw [HP16.out]); (try rw [HP17.out]); (try rw [HP18.out]); (try rw [HP19.out]); (try rw [HP20.out]); (try rw [HP21.out]); (try rw [HP22.out]); (try rw [HP23.out]); (try rw [HP24.out]); (try rw [HP25.out]); (try rw [HP26.out]); (try rw [HP27.out]); all_goals first | rfl | simp
  have e5 : qto = R5 := by rw [← HR5.out]; (try rw [HP0.out]); (try rw [HP1.out]); (try rw [HP2.out]); (try rw [HP3.out]); (try rw [HP4.out]); (try rw [HP5.out]); (try rw [HP6.out]); (try rw [HP7.out]); (try rw [HP8.out]); (try rw [HP9.out]); (try rw [HP10.out]); (try rw [HP11.out]); (try rw [HP12.out]); (try rw [HP13.out]); (try rw [HP14.out]); (try rw [HP15.out]); (try rw [HP16.out]); (try rw [HP17.out]); (try rw [HP18.out]); (try rw [HP19.out]); (try rw [HP20.out]); (try rw [HP21.out]); (try rw [HP22.out]); (try rw [HP23.out]); (try rw [HP24.out]); (try rw [HP25.out]); (try rw [HP26.out]); (try rw [HP27.out]); all_goals first | rfl | simp
  have e6 : true = R6 := by rw [← HR6.out]; (try rw [HP0.out]); (try rw [HP1.out]); (try rw [HP2.out]); (try rw [HP3.out]); (try rw [HP4.out]); (try rw [HP5.out]); (try rw [HP6.out]); (try rw [HP7.out]); (try rw [HP8.out]); (try rw [HP9.out]); (try rw [HP10.out]); (try rw [HP11.out]); (try rw [HP12.out]); (try rw [HP13.out]); (try rw [HP14.out]); (try rw [HP15.out]); (try rw [HP16.out]); (try rw [HP17.out]); (try rw [HP18.out]); (try rw [HP19.out]); (try rw [HP20.out]); (try rw [HP21.out]); (try rw [HP22.out]); (try rw [HP23.out]); (try rw [HP24.out]); (try rw [HP25.out]); (try rw [HP26.out]); (try rw [HP27.out]); all_goals first | rfl | simp
  subst e0
  subst e1
  subst e2
  subst e3
  subst e4
  subst e5
  subst e6
  go_wp2_with (first | ((with_reducible refine ldRow (U6.heap.size) #[.int .u64 (wd0 qfn), .int .u64 (wd1 qfn), .int .u64 (wd2 qfn), .int .u64 (wd3 qfn), .int .u64 (wd0 qfd), .int .u64 (wd1 qfd), .int .u64 (wd2 qfd), .int .u64 (wd3 qfd), .int .u64 (wd0 qtn), .int .u64 (wd1 qtn), .int .u64 (wd2 qtn), .int .u64 (wd3 qtn), .int .u64 (wd0 qtd), .int .u64 (wd1 qtd), .int .u64 (wd2 qtd), .int .u64 (wd3 qtd), .bool qfo, .bool qto] _ k4 ?_ ?_ ?_ ?_); rfl; exact ⟨_, rfl, rfl⟩; (as_aux_lemma => kernel_rfl); simp only [Act.put, List.setIfInBounds_toArray, List.set_cons_succ, List.set_cons_zero]) | ((with_reducible refine stRow (w.heap.size + 1 + 1) #[.int .u64 (wd0 qfn), .int .u64 (wd1 qfn), .int .u64 (wd2 qfn), .int .u64 (wd3 qfn), .int .u64 (wd0 qfd), .int .u64 (wd1 qfd), .int .u64 (wd2 qfd), .int .u64 (wd3 qfd), .int .u64 (wd0 qtn), .int .u64 (wd1 qtn), .int .u64 (wd2 qtn), .int .u64 (wd3 qtn), .int .u64 (wd0 qtd), .int .u64 (wd1 qtd), .int .u64 (wd2 qtd), .int .u64 (wd3 qtd), .bool qfo, .bool qto] _ _ k3 ?_ ?_ ?_ ?_ ?_ ?_); rfl; rfl; (as_aux_lemma => kernel_rfl); rfl; (as_aux_lemma => kernel_rfl); simp only [Act.put]))
  first | refine post_world ?_
  intro V12 hV12
  clear k4
  have D5 := Lib.hid k3.lt
  have D6 := Lib.hid hb0.size
  have nk3 : Blk V12 (w.heap.size + 1 + 1) #[.int .u64 (wd0 qfn), .int .u64 (wd1 qfn), .int .u64 (wd2 qfn), .int .u64 (wd3 qfn), .int .u64 (wd0 qfd), .int .u64 (wd1 qfd), .int .u64 (wd2 qfd), .int .u64 (wd3 qfd), .int .u64 (wd0 qtn), .int .u64 (wd1 qtn), .int .u64 (wd2 qtn), .int .u64 (wd3 qtn), .int .u64 (wd0 qtd), .int .u64 (wd1 qtd), .int .u64 (wd2 qtd), .int .u64 (wd3 qtd), .bool qfo, .bool qto] 54 := by rw [hV12]; exact blk_row k3 _
  have nhb0 : Below w.heap.size w V12 := by rw [hV12]; exact blw_row hb0 (by omega) _
  clear k3
  clear hb0
  clear hV12
  have k3 := nk3
  clear nk3
  have hb0 := nhb0
  clear nhb0
  refine ⟨rfl, _, results_row_tmp rfl _ _ _ _ _ _ _ rfl k3 rfl rfl (by as_aux_lemma => kernel_rfl), ?_, hb0⟩
  first | rfl | kernel_rfl
end Go.Proofs.Ytlcbomjdbdgbmaa

namespace Go.Proofs.Ytlcbomjdbdgbmaa
open Go.RowKit

theorem in_1 : InI 1 := by unfold InI b255; omega
theorem c1fn_in {ax : Int} (bx cx n : Int) (h : In64 ax) : InI (c1fn ax bx cx n) := bafn_in _ _ _ _ _ _ _ _ _ _ in_0 in_1 in_1 in_1 h (wrap64_in _) (wrap64_in _) (wrap64_in _)
theorem c1fd_in {ax : Int} (bx cx n : Int) (h : In64 ax) : InI (c1fd ax bx cx n) := bafd_in _ _ _ _ _ _ _ _ _ _ in_0 in_1 in_1 in_1 h (wrap64_in _) (wrap64_in _) (wrap64_in _)
theorem c1tn_in {ax : Int} (bx cx n : Int) (h : In64 ax) : InI (c1tn ax bx cx n) := batn_in _ _ _ _ _ _ _ _ _ _ in_0 in_1 in_1 in_1 h (wrap64_in _) (wrap64_in _) (wrap64_in _)
theorem c1td_in {ax : Int} (bx cx n : Int) (h : In64 ax) : InI (c1td ax bx cx n) := batd_in _ _ _ _ _ _ _ _ _ _ in_0 in_1 in_1 in_1 h (wrap64_in _) (wrap64_in _) (wrap64_in _)
theorem c2fn_in {ax ay : Int} (bx b_y cx cy n : Int) (h : In64 ax) (k : In64 ay) : InI (c2fn ax ay bx b_y cx cy n) := bafn_in _ _ _ _ _ _ _ _ _ _ (c1fn_in _ _ _ h) (c1fd_in _ _ _ h) (c1tn_in _ _ _ h) (c1td_in _ _ _ h) k (wrap64_in _) (wrap64_in _) (wrap64_in _)
theorem c2fd_in {ax ay : Int} (bx b_y cx cy n : Int) (h : In64 ax) (k : In64 ay) : InI (c2fd ax ay bx b_y cx cy n) := bafd_in _ _ _ _ _ _ _ _ _ _ (c1fn_in _ _ _ h) (c1fd_in _ _ _ h) (c1tn_in _ _ _ h) (c1td_in _ _ _ h) k (wrap64_in _) (wrap64_in _) (wrap64_in _)
theorem c2tn_in {ax ay : Int} (bx b_y cx cy n : Int) (h : In64 ax) (k : In64 ay) : InI (c2tn ax ay bx b_y cx cy n) := batn_in _ _ _ _ _ _ _ _ _ _ (c1fn_in _ _ _ h) (c1fd_in _ _ _ h) (c1tn_in _ _ _ h) (c1td_in _ _ _ h) k (wrap64_in _) (wrap64_in _) (wrap64_in _)
theorem c2td_in {ax ay : Int} (bx b_y cx cy n : Int) (h : In64 ax) (k : In64 ay) : InI (c2td ax ay bx b_y cx cy n) := batd_in _ _ _ _ _ _ _ _ _ _ (c1fn_in _ _ _ h) (c1fd_in _ _ _ h) (c1tn_in _ _ _ h) (c1td_in _ _ _ h) k (wrap64_in _) (wrap64_in _) (wrap64_in _)
theorem cufn_in (ax : Int) (ay : Int) (bx : Int) (b_y : Int) (cx : Int) (cy : Int) (n : Int) (_iax : In64 ax) (_iay : In64 ay) (_ibx : In64 bx) (_ib_y : In64 b_y) (_icx : In64 cx) (_icy : In64 cy) (_in : In64 n) : InI (cufn ax ay bx b_y cx cy n) := by
  unfold cufn
  exact cond_in (c2fn_in _ _ _ _ _ _iax _iay) in_0
theorem cufd_in (ax : Int) (ay : Int) (bx : Int) (b_y : Int) (cx : Int) (cy : Int) (n : Int) (_iax : In64 ax) (_iay : In64 ay) (_ibx : In64 bx) (_ib_y : In64 b_y) (_icx : In64 cx) (_icy : In64 cy) (_in : In64 n) : InI (cufd ax ay bx b_y cx cy n) := by
  unfold cufd
  exact cond_in (c2fd_in _ _ _ _ _ _iax _iay) in_0
theorem cutn_in (ax : Int) (ay : Int) (bx : Int) (b_y : Int) (cx : Int) (cy : Int) (n : Int) (_iax : In64 ax) (_iay : In64 ay) (_ibx : In64 bx) (_ib_y : In64 b_y) (_icx : In64 cx) (_icy : In64 cy) (_in : In64 n) : InI (cutn ax ay bx b_y cx cy n) := by
  unfold cutn
  exact cond_in (c2tn_in _ _ _ _ _ _iax _iay) in_0
theorem cutd_in (ax : Int) (ay : Int) (bx : Int) (b_y : Int) (cx : Int) (cy : Int) (n : Int) (_iax : In64 ax) (_iay : In64 ay) (_ibx : In64 bx) (_ib_y : In64 b_y) (_icx : In64 cx) (_icy : In64 cy) (_in : In64 n) : InI (cutd ax ay bx b_y cx cy n) := by
  unfold cutd
  exact cond_in (c2td_in _ _ _ _ _ _iax _iay) in_0
theorem cut_v (ax : Int) (ay : Int) (bx : Int) (b_y : Int) (cx : Int) (cy : Int) (n : Int) (R0 : Int) (R1 : Int) (R2 : Int) (R3 : Int) (R4 : Bool) (R5 : Bool) (R6 : Bool) (h0 : cufn ax ay bx b_y cx cy n = R0) (h1 : cufd ax ay bx b_y cx cy n = R1) (h2 : cutn ax ay bx b_y cx cy n = R2) (h3 : cutd ax ay bx b_y cx cy n = R3) (h4 : cufo ax ay bx b_y cx cy n = R4) (h5 : cuto ax ay bx b_y cx cy n = R5) (h6 : cuk ax ay bx b_y cx cy n = R6) (_iax : In64 ax) (_iay : In64 ay) (_ibx : In64 bx) (_ib_y : In64 b_y) (_icx : In64 cx) (_icy : In64 cy) (_in : In64 n) (w : World) :
    Calls Try.prog 30 #[.agg #[.int .i64 ax, .int .i64 ay, .int .i64 bx, .int .i64 b_y], .agg #[.int .i64 cx, .int .i64 cy], .int .i64 n] w fun e w' => e = .returned (.tuple #[.agg #[.int .u64 (wd0 R0), .int .u64 (wd1 R0), .int .u64 (wd2 R0), .int .u64 (wd3 R0), .int .u64 (wd0 R1), .int .u64 (wd1 R1), .int .u64 (wd2 R1), .int .u64 (wd3 R1), .int .u64 (wd0 R2), .int .u64 (wd1 R2), .int .u64 (wd2 R2), .int .u64 (wd3 R2), .int .u64 (wd0 R3), .int .u64 (wd1 R3), .int .u64 (wd2 R3), .int .u64 (wd3 R3), .bool R4, .bool R5], .bool R6]) ∧ Below w.heap.size w w' := by
  rw [← h0, ← h1, ← h2, ← h3, ← h4, ← h5, ← h6]
  clear h0 h1 h2 h3 h4 h5 h6
  cases hS : pxS n
  · have k : cuk ax ay bx b_y cx cy n = false := by unfold cuk; rw [hS]; rfl
    have e0 : cufn ax ay bx b_y cx cy n = 0 := by unfold cufn; rw [k]; rfl
    have e1 : cufd ax ay bx b_y cx cy n = 0 := by unfold cufd; rw [k]; rfl
    have e2 : cutn ax ay bx b_y cx cy n = 0 := by unfold cutn; rw [k]; rfl
    have e3 : cutd ax ay bx b_y cx cy n = 0 := by unfold cutd; rw [k]; rfl
    have e4 : cufo ax ay bx b_y cx cy n = false := by unfold cufo; rw [k]; rfl
    have e5 : cuto ax ay bx b_y cx cy n = false := by unfold cuto; rw [k]; rfl
    rw [e0, e1, e2, e3, e4, e5, k]
    exact pxCut_0 ax ay bx b_y cx cy n _ _ _ _ _ _ _ rfl rfl rfl rfl rfl rfl rfl hS _iax _iay _ibx _ib_y _icx _icy _in w
  cases hG : sgR ax ay bx b_y
  · have k : cuk ax ay bx b_y cx cy n = false := by unfold cuk; rw [hS, hG]; rfl
    have e0 : cufn ax ay bx b_y cx cy n = 0 := by unfold cufn; rw [k]; rfl
    have e1 : cufd ax ay bx b_y cx cy n = 0 := by unfold cufd; rw [k]; rfl
    have e2 : cutn ax ay bx b_y cx cy n = 0 := by unfold cutn; rw [k]; rfl
    have e3 : cutd ax ay bx b_y cx cy n = 0 := by unfold cutd; rw [k]; rfl
    have e4 : cufo ax ay bx b_y cx cy n = false := by unfold cufo; rw [k]; rfl
    have e5 : cuto ax ay bx b_y cx cy n = false := by unfold cuto; rw [k]; rfl
    rw [e0, e1, e2, e3, e4, e5, k]
    exact pxCut_1 ax ay bx b_y cx cy n _ _ _ _ _ _ _ rfl rfl rfl rfl rfl rfl rfl hS hG _iax _iay _ibx _ib_y _icx _icy _in w
  cases hC : rp cx cy
  · have k : cuk ax ay bx b_y cx cy n = false := by unfold cuk; rw [hS, hG, hC]; rfl
    have e0 : cufn ax ay bx b_y cx cy n = 0 := by unfold cufn; rw [k]; rfl
    have e1 : cufd ax ay bx b_y cx cy n = 0 := by unfold cufd; rw [k]; rfl
    have e2 : cutn ax ay bx b_y cx cy n = 0 := by unfold cutn; rw [k]; rfl
    have e3 : cutd ax ay bx b_y cx cy n = 0 := by unfold cutd; rw [k]; rfl
    have e4 : cufo ax ay bx b_y cx cy n = false := by unfold cufo; rw [k]; rfl
    have e5 : cuto ax ay bx b_y cx cy n = false := by unfold cuto; rw [k]; rfl
    rw [e0, e1, e2, e3, e4, e5, k]
    exact pxCut_2 ax ay bx b_y cx cy n _ _ _ _ _ _ _ rfl rfl rfl rfl rfl rfl rfl hS hG hC _iax _iay _ibx _ib_y _icx _icy _in w
  cases h1 : c1k ax bx cx n
  · have k : cuk ax ay bx b_y cx cy n = false := by unfold cuk; rw [hS, hG, hC, h1]; rfl
    have e0 : cufn ax ay bx b_y cx cy n = 0 := by unfold cufn; rw [k]; rfl
    have e1 : cufd ax ay bx b_y cx cy n = 0 := by unfold cufd; rw [k]; rfl
    have e2 : cutn ax ay bx b_y cx cy n = 0 := by unfold cutn; rw [k]; rfl
    have e3 : cutd ax ay bx b_y cx cy n = 0 := by unfold cutd; rw [k]; rfl
    have e4 : cufo ax ay bx b_y cx cy n = false := by unfold cufo; rw [k]; rfl
    have e5 : cuto ax ay bx b_y cx cy n = false := by unfold cuto; rw [k]; rfl
    rw [e0, e1, e2, e3, e4, e5, k]
    exact pxCut_3 ax ay bx b_y cx cy n (c1fn ax bx cx n) (c1fd ax bx cx n) (c1tn ax bx cx n) (c1td ax bx cx n) (c1fo ax bx cx n) (c1to ax bx cx n) _ _ _ _ _ _ _ rfl rfl rfl rfl rfl rfl rfl hS hG hC rfl rfl rfl rfl h1 rfl rfl rfl rfl rfl rfl (c1fn_in _ _ _ _iax) (c1fd_in _ _ _ _iax) (c1tn_in _ _ _ _iax) (c1td_in _ _ _ _iax) _iax _iay _ibx _ib_y _icx _icy _in w
  cases h2 : c2k ax ay bx b_y cx cy n
  · have k : cuk ax ay bx b_y cx cy n = false := by unfold cuk; rw [hS, hG, hC, h1, h2]; rfl
    have e0 : cufn ax ay bx b_y cx cy n = 0 := by unfold cufn; rw [k]; rfl
    have e1 : cufd ax ay bx b_y cx cy n = 0 := by unfold cufd; rw [k]; rfl
    have e2 : cutn ax ay bx b_y cx cy n = 0 := by unfold cutn; rw [k]; rfl
    have e3 : cutd ax ay bx b_y cx cy n = 0 := by unfold cutd; rw [k]; rfl
    have e4 : cufo ax ay bx b_y cx cy n = false := by unfold cufo; rw [k]; rfl
    have e5 : cuto ax ay bx b_y cx cy n = false := by unfold cuto; rw [k]; rfl
    rw [e0, e1, e2, e3, e4, e5, k]
    exact pxCut_4 ax ay bx b_y cx cy n (c1fn ax bx cx n) (c1fd ax bx cx n) (c1tn ax bx cx n) (c1td ax bx cx n) (c1fo ax bx cx n) (c1to ax bx cx n) (c2fn ax ay bx b_y cx cy n) (c2fd ax ay bx b_y cx cy n) (c2tn ax ay bx b_y cx cy n) (c2td ax ay bx b_y cx cy n) (c2fo ax ay bx b_y cx cy n) (c2to ax ay bx b_y cx cy n) _ _ _ _ _ _ _ rfl rfl rfl rfl rfl rfl rfl hS hG hC rfl rfl rfl rfl h1 rfl rfl rfl rfl rfl rfl h2 rfl rfl rfl rfl rfl rfl (c1fn_in _ _ _ _iax) (c1fd_in _ _ _ _iax) (c1tn_in _ _ _ _iax) (c1td_in _ _ _ _iax) (c2fn_in _ _ _ _ _ _iax _iay) (c2fd_in _ _ _ _ _ _iax _iay) (c2tn_in _ _ _ _ _ _iax _iay) (c2td_in _ _ _ _ _ _iax _iay) _iax _iay _ibx _ib_y _icx _icy _in w
  cases h3 : smk_ (c2fn ax ay bx b_y cx cy n) (c2fd ax ay bx b_y cx cy n) (c2tn ax ay bx b_y cx cy n) (c2td ax ay bx b_y cx cy n) (c2fo ax ay bx b_y cx cy n) (c2to ax ay bx b_y cx cy n)
  · have k : cuk ax ay bx b_y cx cy n = false := by unfold cuk; rw [hS, hG, hC, h1, h2, h3]; rfl
    have e0 : cufn ax ay bx b_y cx cy n = 0 := by unfold cufn; rw [k]; rfl
    have e1 : cufd ax ay bx b_y cx cy n = 0 := by unfold cufd; rw [k]; rfl
    have e2 : cutn ax ay bx b_y cx cy n = 0 := by unfold cutn; rw [k]; rfl
    have e3 : cutd ax ay bx b_y cx cy n = 0 := by unfold cutd; rw [k]; rfl
    have e4 : cufo ax ay bx b_y cx cy n = false := by unfold cufo; rw [k]; rfl
    have e5 : cuto ax ay bx b_y cx cy n = false := by unfold cuto; rw [k]; rfl
    rw [e0, e1, e2, e3, e4, e5, k]
    exact pxCut_5 ax ay bx b_y cx cy n (c1fn ax bx cx n) (c1fd ax bx cx n) (c1tn ax bx cx n) (c1td ax bx cx n) (c1fo ax bx cx n) (c1to ax bx cx n) (c2fn ax ay bx b_y cx cy n) (c2fd ax ay bx b_y cx cy n) (c2tn ax ay bx b_y cx cy n) (c2td ax ay bx b_y cx cy n) (c2fo ax ay bx b_y cx cy n) (c2to ax ay bx b_y cx cy n) _ _ _ _ _ _ _ rfl rfl rfl rfl rfl rfl rfl hS hG hC rfl rfl rfl rfl h1 rfl rfl rfl rfl rfl rfl h2 rfl rfl rfl rfl rfl rfl h3 rfl rfl rfl rfl (smfo_eq (c2fn ax ay bx b_y cx cy n) (c2fd ax ay bx b_y cx cy n) (c2tn ax ay bx b_y cx cy n) (c2td ax ay bx b_y cx cy n) (c2fo ax ay bx b_y cx cy n) (c2to ax ay bx b_y cx cy n)) rfl (c1fn_in _ _ _ _iax) (c1fd_in _ _ _ _iax) (c1tn_in _ _ _ _iax) (c1td_in _ _ _ _iax) (c2fn_in _ _ _ _ _ _iax _iay) (c2fd_in _ _ _ _ _ _iax _iay) (c2tn_in _ _ _ _ _ _iax _iay) (c2td_in _ _ _ _ _ _iax _iay) _iax _iay _ibx _ib_y _icx _icy _in w
  have k : cuk ax ay bx b_y cx cy n = true := by unfold cuk; rw [hS, hG, hC, h1, h2, h3]; rfl
  have e0 : cufn ax ay bx b_y cx cy n = c2fn ax ay bx b_y cx cy n := by unfold cufn; rw [k]; exact rfl
  have e1 : cufd ax ay bx b_y cx cy n = c2fd ax ay bx b_y cx cy n := by unfold cufd; rw [k]; exact rfl
  have e2 : cutn ax ay bx b_y cx cy n = c2tn ax ay bx b_y cx cy n := by unfold cutn; rw [k]; exact rfl
  have e3 : cutd ax ay bx b_y cx cy n = c2td ax ay bx b_y cx cy n := by unfold cutd; rw [k]; exact rfl
  have e4 : cufo ax ay bx b_y cx cy n = c2fo ax ay bx b_y cx cy n := by unfold cufo; rw [k]; exact smfo_eq (c2fn ax ay bx b_y cx cy n) (c2fd ax ay bx b_y cx cy n) (c2tn ax ay bx b_y cx cy n) (c2td ax ay bx b_y cx cy n) (c2fo ax ay bx b_y cx cy n) (c2to ax ay bx b_y cx cy n)
  have e5 : cuto ax ay bx b_y cx cy n = c2to ax ay bx b_y cx cy n := by unfold cuto; rw [k]; exact rfl
  rw [e0, e1, e2, e3, e4, e5, k]
  exact pxCut_6 ax ay bx b_y cx cy n (c1fn ax bx cx n) (c1fd ax bx cx n) (c1tn ax bx cx n) (c1td ax bx cx n) (c1fo ax bx cx n) (c1to ax bx cx n) (c2fn ax ay bx b_y cx cy n) (c2fd ax ay bx b_y cx cy n) (c2tn ax ay bx b_y cx cy n) (c2td ax ay bx b_y cx cy n) (c2fo ax ay bx b_y cx cy n) (c2to ax ay bx b_y cx cy n) _ _ _ _ _ _ _ rfl rfl rfl rfl rfl rfl rfl hS hG hC rfl rfl rfl rfl h1 rfl rfl rfl rfl rfl rfl h2 rfl rfl rfl rfl rfl rfl h3 rfl rfl rfl rfl (smfo_eq (c2fn ax ay bx b_y cx cy n) (c2fd ax ay bx b_y cx cy n) (c2tn ax ay bx b_y cx cy n) (c2td ax ay bx b_y cx cy n) (c2fo ax ay bx b_y cx cy n) (c2to ax ay bx b_y cx cy n)) rfl (c1fn_in _ _ _ _iax) (c1fd_in _ _ _ _iax) (c1tn_in _ _ _ _iax) (c1td_in _ _ _ _iax) (c2fn_in _ _ _ _ _ _iax _iay) (c2fd_in _ _ _ _ _ _iax _iay) (c2tn_in _ _ _ _ _ _iax _iay) (c2td_in _ _ _ _ _ _iax _iay) _iax _iay _ibx _ib_y _icx _icy _in w
end Go.Proofs.Ytlcbomjdbdgbmaa

namespace Go.Proofs.Ytlcbomjdbdgbmaa
open Go.RowKit

def pxM (ax : Int) (ay : Int) (bx : Int) (b_y : Int) (cx : Int) (cy : Int) (n : Int) : Bool := (cuk ax ay bx b_y cx cy n)

set_option maxRecDepth 100000 in
set_option maxHeartbeats 4000000 in

theorem pxMt_is (ax : Int) (ay : Int) (bx : Int) (b_y : Int) (cx : Int) (cy : Int) (n : Int)  (R0 : Bool) (hR0 : pxM ax ay bx b_y cx cy n = R0) (_iax : In64 ax) (_iay : In64 ay) (_ibx : In64 bx) (_ib_y : In64 b_y) (_icx : In64 cx) (_icy : In64 cy) (_in : In64 n)  (w : World)  :
    Calls Try.prog 33 #[.agg #[.int .i64 ax, .int .i64 ay, .int .i64 bx, .int .i64 b_y], .agg #[.int .i64 cx, .int .i64 cy], .int .i64 n] w fun e w' => e = .returned (.bool R0) ∧ Below w.heap.size w w' := by

  have HR0 := Lib.hid hR0
  clear hR0
  go_enter Try.func33, Try.ntmps33
  go_wp2_with fail
  first | refine calls_w ?_ | refine name_world ?_ | refine list_world ?_ | refine post_world ?_
  intro V1 hV1
  have hn : Below w.heap.size w V1 := by rw [hV1]; exact below_a2 _ _ _
  have nhb0 := hn
  have k1 : Blk V1 w.heap.size #[.int .i64 ax, .int .i64 ay, .int .i64 bx, .int .i64 b_y] 50 := by rw [hV1]; exact ((Blk.new _ _ _).alloc _)
  have k2 : Blk V1 (w.heap.size + 1) #[.int .i64 cx, .int .i64 cy] 24 := by rw [hV1]; exact (Blk.new1 _ _ _ _)
  clear hV1
  have hb0 := nhb0
  clear nhb0
  obtain ⟨r1, hr1⟩ : ∃ o_o : Int, cufn ax ay bx b_y cx cy n = o_o := ⟨_, rfl⟩
  have Hr1 := Lib.hid hr1
  clear hr1
  obtain ⟨r2, hr2⟩ : ∃ o_o : Int, cufd ax ay bx b_y cx cy n = o_o := ⟨_, rfl⟩
  have Hr2 := Lib.hid hr2
  clear hr2
  obtain ⟨r3, hr3⟩ : ∃ o_o : Int, cutn ax ay bx b_y cx cy n = o_o := ⟨_, rfl⟩
  have Hr3 := Lib.hid hr3
  clear hr3
  obtain ⟨r4, hr4⟩ : ∃ o_o : Int, cutd ax ay bx b_y cx cy n = o_o := ⟨_, rfl⟩
  have Hr4 := Lib.hid hr4
  clear hr4
  obtain ⟨z5, hz5⟩ : ∃ o_o : Bool, cufo ax ay bx b_y cx cy n = o_o := ⟨_, rfl⟩
  have Hz5 := Lib.hid hz5
  clear hz5
  obtain ⟨z6, hz6⟩ : ∃ o_o : Bool, cuto ax ay bx b_y cx cy n = o_o := ⟨_, rfl⟩
  have Hz6 := Lib.hid hz6
  clear hz6
  obtain ⟨z7, hz7⟩ : ∃ o_o : Bool, cuk ax ay bx b_y cx cy n = o_o := ⟨_, rfl⟩
  have Hz7 := Lib.hid hz7
  clear hz7
  refine (cut_v ax ay bx b_y cx cy n r1 r2 r3 r4 z5 z6 z7 Hr1.out Hr2.out Hr3.out Hr4.out Hz5.out Hz6.out Hz7.out _iax _iay _ibx _ib_y _icx _icy _in _).mono ?_
  rintro e U2 ⟨rfl, hn⟩
  clear k1 k2
  replace hb0 := hb0.trans (hn.mono hb0.size)
  clear hn
  have e0 : z7 = R0 := by rw [← HR0.out]; unfold pxM; (try rw [Hr1.out]); (try rw [Hr2.out]); (try rw [Hr3.out]); (try rw [Hr4.out]); (try rw [Hz5.out]); (try rw [Hz6.out]); (try rw [Hz7.out]); all_goals first | rfl | simp
  subst e0
  go_wp2_with (first | ((with_reducible refine stRow (U2.heap.size) #[.int .u64 (wd0 r1), .int .u64 (wd1 r1), .int .u64 (wd2 r1), .int .u64 (wd3 r1), .int .u64 (wd0 r2), .int .u64 (wd1 r2), .int .u64 (wd2 r2), .int .u64 (wd3 r2), .int .u64 (wd0 r3), .int .u64 (wd1 r3), .int .u64 (wd2 r3), .int .u64 (wd3 r3), .int .u64 (wd0 r4), .int .u64 (wd1 r4), .int .u64 (wd2 r4), .int .u64 (wd3 r4), .bool z5, .bool z6] _ _ (Blk.new _ _ _) ?_ ?_ ?_ ?_ ?_ ?_); rfl; rfl; (as_aux_lemma => kernel_rfl); rfl; (as_aux_lemma => kernel_rfl); simp only [Act.put]))
  first | refine post_world ?_
  intro V3 hV3
  rw [World.setRow_alloc_new] at hV3
  have D1 := Lib.hid hb0.size
  have hn : Below U2.heap.size U2 V3 := by rw [hV3]; exact below_a1 _ _
  have nhb0 := hb0.trans (hn.mono hb0.size)
  clear hn
  clear hb0
  clear hV3
  have hb0 := nhb0
  clear nhb0
  simp [bodyPost, results, Try.results33, go_sem]
  first | exact hb0 | exact ⟨rfl, hb0⟩
end Go.Proofs.Ytlcbomjdbdgbmaa

namespace Go.Proofs.Ytlcbomjdbdgbmaa
open Go.RowKit

def prfx (x : Int) (_y : Int) : Int := x

def prfy (_x : Int) (y : Int) : Int := y

set_option maxRecDepth 100000 in
set_option maxHeartbeats 4000000 in

theorem p15ref_is (x : Int) (y : Int)  (R0 : Int) (R1 : Int) (hR0 : prfx x y = R0) (hR1 : prfy x y = R1) (_ix : In64 x) (_iy : In64 y)  (w : World)  :
    Calls Try.prog 32 #[.agg #[.int .i64 x, .int .i64 y]] w fun e w' => e = .returned (.agg #[.int .i64 R0, .int .i64 R1]) ∧ Below w.heap.size w w' := by

  have HR0 := Lib.hid hR0
  clear hR0
  have HR1 := Lib.hid hR1
  clear hR1
  go_enter Try.func32, Try.ntmps32
  have e0 : x = R0 := by rw [← HR0.out]; unfold prfx; all_goals first | rfl | simp
  have e1 : y = R1 := by rw [← HR1.out]; unfold prfy; all_goals first | rfl | simp
  subst e0
  subst e1
  go_wp2
  first | refine post_world ?_
  intro V1 hV1
  have hn : Below w.heap.size w V1 := by rw [hV1]; exact below_a2 _ _ _
  have nhb0 := hn
  have k2 : Blk V1 (w.heap.size + 1) #[.int .i64 x, .int .i64 y] 31 := by rw [hV1]; exact (Blk.new1 _ _ _ _)
  clear hV1
  have hb0 := nhb0
  clear nhb0
  have g2_0 : V1.cell? ⟨(w.heap.size + 1), 0, none⟩ = some (.int .i64 x) := k2.cell 0
  have g2_1 : V1.cell? ⟨(w.heap.size + 1), 1, none⟩ = some (.int .i64 y) := k2.cell 1
  clear k2
  simp [bodyPost, results, Try.results32, go_sem, g2_0, g2_1]
  first | exact hb0 | exact ⟨rfl, hb0⟩

def psz (n : Int) : Bool := (bif decide (1 ≤ n) then decide (n ≤ 1048576) else false)

set_option maxRecDepth 100000 in
set_option maxHeartbeats 4000000 in

theorem p15size_is (n : Int)  (R0 : Bool) (hR0 : psz n = R0) (_in : In64 n)  (w : World)  :
    Calls Try.prog 31 #[.int .i64 n] w fun e w' => e = .returned (.bool R0) ∧ Below w.heap.size w w' := by

  have HR0 := Lib.hid hR0
  clear hR0
  obtain ⟨z1, hz1⟩ : ∃ o_o : Bool, decide (1 ≤ n) = o_o := ⟨_, rfl⟩
  cases z1
  · go_enter Try.func31, Try.ntmps31
    have e0 : false = R0 := by rw [← HR0.out]; unfold psz; (try rw [hz1]); all_goals first | rfl | simp
    subst e0
    go_wp2
    first | go_ret | go_ret2
    exact ⟨by first | rfl | simp, Below.refl _ _⟩
  · go_enter Try.func31, Try.ntmps31
    have e0 : decide (n ≤ 1048576) = R0 := by rw [← HR0.out]; unfold psz; (try rw [hz1]); all_goals first | rfl | simp
    subst e0
    go_wp2
    first | go_ret | go_ret2
    exact ⟨by first | rfl | simp, Below.refl _ _⟩
end Go.Proofs.Ytlcbomjdbdgbmaa

namespace Go.Proofs.Ytlcbomjdbdgbmaa
open Go.RowKit

set_option maxRecDepth 100000 in
set_option maxHeartbeats 4000000 in

theorem p15awake_is     (hP0 : pxM (-20) 0 20 0 0 0 10 = true) (hP1 : pxM (-20) 0 20 0 0 1 10 = false) (hP2 : atx 5 0 = 5) (hP3 : aty 5 0 = 0) (hP4 : atw 5 0 = 1) (hP5 : pxOx 5 0 1 10 = 1) (hP6 : pxOy 5 0 1 10 = 0) (hP7 : pxOe 5 0 1 10 = 0) (hP8 : atx (-5) 0 = (-5)) (hP9 : aty (-5) 0 = 0) (hP10 : atw (-5) 0 = 1) (hP11 : pxOx (-5) 0 1 10 = 0) (hP12 : pxOy (-5) 0 1 10 = 0) (hP13 : pxOe (-5) 0 1 10 = 0) (hP14 : pxOx 0 0 0 10 = 0) (hP15 : pxOy 0 0 0 10 = 0) (hP16 : pxOe 0 0 0 10 = 11)  (w : World)  :
    Calls Try.prog 34 #[] w fun e w' => e = .returned (.bool true) ∧ Below w.heap.size w w' := by

  have HP0 := Lib.hid hP0
  clear hP0
  have HP1 := Lib.hid hP1
  clear hP1
  have HP2 := Lib.hid hP2
  clear hP2
  have HP3 := Lib.hid hP3
  clear hP3
  have HP4 := Lib.hid hP4
  clear hP4
  have HP5 := Lib.hid hP5
  clear hP5
  have HP6 := Lib.hid hP6
  clear hP6
  have HP7 := Lib.hid hP7
  clear hP7
  have HP8 := Lib.hid hP8
  clear hP8
  have HP9 := Lib.hid hP9
  clear hP9
  have HP10 := Lib.hid hP10
  clear hP10
  have HP11 := Lib.hid hP11
  clear hP11
  have HP12 := Lib.hid hP12
  clear hP12
  have HP13 := Lib.hid hP13
  clear hP13
  have HP14 := Lib.hid hP14
  clear hP14
  have HP15 := Lib.hid hP15
  clear hP15
  have HP16 := Lib.hid hP16
  clear hP16
  go_enter Try.func34, Try.ntmps34
  go_wp2_with fail
  refine (crAt_is 5 0 5 0 1 HP2.out HP3.out HP4.out (by unfold In64; omega) (by unfold In64; omega)  _).mono ?_
  rintro e U1 ⟨rfl, hn⟩
  have hb0 := hn
  clear hn
  go_wp2_with fail
  refine (pxOf_is 5 0 1 10 1 0 0 HP5.out HP6.out HP7.out (by unfold InI b255; omega) (by unfold InI b255; omega) (by unfold InI b255; omega) (by unfold In64; omega)  _).mono ?_
  rintro e U2 ⟨rfl, hn⟩
  replace hb0 := hb0.trans (hn.mono hb0.size)
  clear hn
  go_wp2_with fail
  first | refine calls_w ?_ | refine name_world ?_ | refine list_world ?_ | refine post_world ?_
  intro V3 hV3
  have D1 := Lib.hid hb0.size
  have hn : Below U2.heap.size U2 V3 := by rw [hV3]; exact below_a1 _ _
  have nhb0 := hb0.trans (hn.mono hb0.size)
  clear hn
  have k1 : Blk V3 U2.heap.size #[.int .i64 1, .int .i64 0] 24 := by rw [hV3]; exact (Blk.new _ _ _)
  clear hb0
  clear hV3
  have hb0 := nhb0
  clear nhb0
  refine (crAt_is (-5) 0 (-5) 0 1 HP8.out HP9.out HP10.out (by unfold In64; omega) (by unfold In64; omega)  _).mono ?_
  rintro e U4 ⟨rfl, hn⟩
  replace k1 := k1.of hn
  replace hb0 := hb0.trans (hn.mono hb0.size)
  clear hn
  go_wp2_with fail
  refine (pxOf_is (-5) 0 1 10 0 0 0 HP11.out HP12.out HP13.out (by unfold InI b255; omega) (by unfold InI b255; omega) (by unfold InI b255; omega) (by unfold In64; omega)  _).mono ?_
  rintro e U5 ⟨rfl, hn⟩
  replace k1 := k1.of hn
  replace hb0 := hb0.trans (hn.mono hb0.size)
  clear hn
  go_wp2_with fail
  first | refine calls_w ?_ | refine name_world ?_ | refine list_world ?_ | refine post_world ?_
  intro V6 hV6
  have D2 := Lib.hid k1.lt
  have D3 := Lib.hid hb0.size
  have hn : Below U5.heap.size U5 V6 := by rw [hV6]; exact below_a1 _ _
  have nk1 := k1.of hn
  have nhb0 := hb0.trans (hn.mono hb0.size)
  clear hn
  have k2 : Blk V6 U5.heap.size #[.int .i64 0, .int .i64 0] 24 := by rw [hV6]; exact (Blk.new _ _ _)
  clear k1
  clear hb0
  clear hV6
  have k1 := nk1
  clear nk1
  have hb0 := nhb0
  clear nhb0
  refine (args_eq (a' := #[.agg #[.int .u64 0, .int .u64 0, .int .u64 0, .int .u64 0, .int .u64 0, .int .u64 0, .int .u64 0, .int .u64 0, .int .u64 0, .int .u64 0, .int .u64 0, .int .u64 0], .int .i64 10]) (pxOf_is 0 0 0 10 0 0 11 HP14.out HP15.out HP16.out (by unfold InI b255; omega) (by unfold InI b255; omega) (by unfold InI b255; omega) (by unfold In64; omega)  _) (by kernel_rfl)).mono ?_
  rintro e U7 ⟨rfl, hn⟩
  replace k1 := k1.of hn
  replace k2 := k2.of hn
  replace hb0 := hb0.trans (hn.mono hb0.size)
  clear hn
  have c1_0 : U7.cell? ⟨U2.heap.size, 0, none⟩ = some (.int .i64 1) := k1.cell 0
  have c1_1 : U7.cell? ⟨U2.heap.size, 1, none⟩ = some (.int .i64 0) := k1.cell 1
  have l1 := k1.lt
  have c2_0 : U7.cell? ⟨U5.heap.size, 0, none⟩ = some (.int .i64 0) := k2.cell 0
  have c2_1 : U7.cell? ⟨U5.heap.size, 1, none⟩ = some (.int .i64 0) := k2.cell 1
  have l2 := k2.lt
  go_wp2_with fail
  clear c1_0 c1_1 l1 c2_0 c2_1 l2
  first | refine calls_w ?_ | refine name_world ?_ | refine list_world ?_ | refine post_world ?_
  intro V8 hV8
  clear k1 k2
  have D4 := Lib.hid hb0.size
  have hn : Below U7.heap.size U7 V8 := by rw [hV8]; exact below_a2 _ _ _
  have nhb0 := hb0.trans (hn.mono hb0.size)
  clear hn
  have k3 : Blk V8 U7.heap.size #[.int .i64 0, .int .i64 0] 24 := by rw [hV8]; exact ((Blk.new _ _ _).alloc _)
  have k4 : Blk V8 (U7.heap.size + 1) #[.int .i64 ((-20)), .int .i64 0, .int .i64 20, .int .i64 0] 50 := by rw [hV8]; exact (Blk.new1 _ _ _ _)
  clear hb0
  clear hV8
  have hb0 := nhb0
  clear nhb0
  refine (pxMt_is (-20) 0 20 0 0 0 10 true HP0.out (by unfold In64; omega) (by unfold In64; omega) (by unfold In64; omega) (by unfold In64; omega) (by unfold In64; omega) (by unfold In64; omega) (by unfold In64; omega)  _).mono ?_
  rintro e U9 ⟨rfl, hn⟩
  clear k3
  replace k4 := k4.of hn
  replace hb0 := hb0.trans (hn.mono hb0.size)
  clear hn
  have c4_0 : U9.cell? ⟨(U7.heap.size + 1), 0, none⟩ = some (.int .i64 ((-20))) := k4.cell 0
  have c4_1 : U9.cell? ⟨(U7.heap.size + 1), 1, none⟩ = some (.int .i64 0) := k4.cell 1
  have c4_2 : U9.cell? ⟨(U7.heap.size + 1), 2, none⟩ = some (.int .i64 20) := k4.cell 2
  have c4_3 : U9.cell? ⟨(U7.heap.size + 1), 3, none⟩ = some (.int .i64 0) := k4.cell 3
  have l4 := k4.lt
  go_wp2_with fail
  clear c4_0 c4_1 c4_2 c4_3 l4
  refine (pxMt_is (-20) 0 20 0 0 1 10 false HP1.out (by unfold In64; omega) (by unfold In64; omega) (by unfold In64; omega) (by unfold In64; omega) (by unfold In64; omega) (by unfold In64; omega) (by unfold In64; omega)  _).mono ?_
  rintro e U10 ⟨rfl, hn⟩
  clear k4
  replace hb0 := hb0.trans (hn.mono hb0.size)
  clear hn
  go_wp2
  first | go_ret | go_ret2
  exact ⟨by first | rfl | (simp; done) | (simp; assumption), hb0⟩
end Go.Proofs.Ytlcbomjdbdgbmaa

namespace Go.Proofs.Ytlcbomjdbdgbmaa
open Go.RowKit

set_option maxRecDepth 100000 in
theorem p15awake_any (w : World) : Calls Try.prog 34 #[] w fun e w' => e = .returned (.bool true) ∧ Below w.heap.size w w' :=
  p15awake_is (by kernel_rfl) (by kernel_rfl) (by kernel_rfl) (by kernel_rfl) (by kernel_rfl) (by kernel_rfl) (by kernel_rfl) (by kernel_rfl) (by kernel_rfl) (by kernel_rfl) (by kernel_rfl) (by kernel_rfl) (by kernel_rfl) (by kernel_rfl) (by kernel_rfl) (by kernel_rfl) (by kernel_rfl) w
end Go.Proofs.Ytlcbomjdbdgbmaa

namespace Go.Proofs.Ytlcbomjdbdgbmaa
open Go.RowKit

/-- within a fraction two numbers are held against one another one step deeper -/
@[go_sem] theorem run_eqI9 (a0 a1 a2 a3 b0 b1 b2 b3 : Int) (w : World) :
    (Op.equalIn 9999 35 (.agg #[.int .u64 a0, .int .u64 a1, .int .u64 a2, .int .u64 a3]) (.agg #[.int .u64 b0, .int .u64 b1, .int .u64 b2, .int .u64 b3])).run Try.prog w = .ok (eq4 a0 a1 a2 a3 b0 b1 b2 b3) w := by
  have hu : Try.prog.underlying 35 = some (.array 4 33) := by kernel_rfl
  have hs : ∀ w, (sizeOf 33).run Try.prog w = .ok 1 w := fun w => by kernel_rfl
  have he : ∀ (a b : Int) w, (Op.equalIn 9998 33 (.int .u64 a) (.int .u64 b)).run Try.prog w = .ok (a == b) w := fun a b w => run_equalIn_int w 9997 _ .u64 .u64 a b (by kernel_rfl)
  have hp : ∀ (c : Array Value) (i : Nat) (v : Value) w, c[i]? = some v → (part 33 c i).run Try.prog w = .ok v w := by
    intro c i v w h
    have ha : (isAgg 33).run Try.prog w = .ok false w := by kernel_rfl
    unfold part
    simp [Sem.run_bind, ha, h]
  show (Op.equalIn (9998 + 1) _ _ _).run _ _ = _
  unfold Op.equalIn
  simp only [Sem.run_bind, run_underlying hu, Result.andThen_ok, hs]
  simp [List.range', he, hp, Sem.run_bind]
  unfold eq4
  by_cases h0 : a0 = b0 <;> by_cases h1 : a1 = b1 <;> by_cases h2 : a2 = b2 <;> by_cases h3 : a3 = b3 <;> simp [h0, h1, h2, h3]

@[go_sem] theorem eqP_self (a b : Int) : eqP a b a b = true := by unfold eqP; simp
@[go_sem] theorem eqP_ne {a b c d : Int} (h : ¬ a = c) : eqP a b c d = false := by unfold eqP; simp [h]
@[go_sem] theorem eqP_ne' {a b c d : Int} (h : ¬ c = a) : eqP a b c d = false := eqP_ne fun e => h e.symm
@[go_sem] theorem eqP_me {a b c d : Int} (h : ¬ b = d) : eqP a b c d = false := by unfold eqP; simp [h]
@[go_sem] theorem eqP_me' {a b c d : Int} (h : ¬ d = b) : eqP a b c d = false := eqP_me fun e => h e.symm
end Go.Proofs.Ytlcbomjdbdgbmaa

namespace Go.Proofs.Ytlcbomjdbdgbmaa
open Go.RowKit

@[go_sem] theorem run_eqI98 (a0 a1 a2 a3 b0 b1 b2 b3 : Int) (w : World) :
    (Op.equalIn 9998 35 (.agg #[.int .u64 a0, .int .u64 a1, .int .u64 a2, .int .u64 a3]) (.agg #[.int .u64 b0, .int .u64 b1, .int .u64 b2, .int .u64 b3])).run Try.prog w = .ok (eq4 a0 a1 a2 a3 b0 b1 b2 b3) w := by
  have hu : Try.prog.underlying 35 = some (.array 4 33) := by kernel_rfl
  have hs : ∀ w, (sizeOf 33).run Try.prog w = .ok 1 w := fun w => by kernel_rfl
  have he : ∀ (a b : Int) w, (Op.equalIn 9997 33 (.int .u64 a) (.int .u64 b)).run Try.prog w = .ok (a == b) w := fun a b w => run_equalIn_int w 9996 _ .u64 .u64 a b (by kernel_rfl)
  have hp : ∀ (c : Array Value) (i : Nat) (v : Value) w, c[i]? = some v → (part 33 c i).run Try.prog w = .ok v w := by
    intro c i v w h
    have ha : (isAgg 33).run Try.prog w = .ok false w := by kernel_rfl
    unfold part
    simp [Sem.run_bind, ha, h]
  show (Op.equalIn (9997 + 1) _ _ _).run _ _ = _
  unfold Op.equalIn
  simp only [Sem.run_bind, run_underlying hu, Result.andThen_ok, hs]
  simp [List.range', he, hp, Sem.run_bind]
  unfold eq4
  by_cases h0 : a0 = b0 <;> by_cases h1 : a1 = b1 <;> by_cases h2 : a2 = b2 <;> by_cases h3 : a3 = b3 <;> simp [h0, h1, h2, h3]

@[go_sem] theorem eq4_zero : eq4 (wd0 0) (wd1 0) (wd2 0) (wd3 0) 0 0 0 0 = true := by decide
theorem ldRowG {P : Program} {ops : Array Oper} {rest : List Oper} {dst : Option Tmp} {ty tp : TypeId} {x : Operand} {ps : String} {af} {gd} {a : Act} {w : World} {Q : Exit → Act → World → Prop}
    (g : Nat) (cs : Array Value) (t : TypeId) (hg : Blk w g cs t) (hw : Region.wanted { dst := dst, op := .load ty x, type := tp, pos := ps, after := af, guard := gd } (yielded ops a.tmps) = true) (hx : a.eval x = .pointer (some ⟨g, 0, none⟩)) (hu : ∃ d, P.underlying ty = some d ∧ (match d with | .struct _ | .array _ _ => true | _ => false) = true) (hi : (P.info? ty).map (·.size) = some cs.size)
    (h : wpList P ops Q rest (a.put dst (.agg cs)) w) : wpList P ops Q ({ dst := dst, op := .load ty x, type := tp, pos := ps, after := af, guard := gd } :: rest) a w := by
  obtain ⟨d, h1, h2⟩ := hu
  exact wpList_step fun K hK => by rw [if_pos hw]; exact wp_load_row ty x rfl g hx t cs (0, 0) d hg h1 (by cases d <;> first | rfl | (simp at h2)) hi (hK _ _ h)
theorem Cut15_v {ax ay bx b_y cx cy n : Int} (k : Bool) (fn fd tn td : Int) (o u : Bool) (h : runF (PC ax ay bx b_y cx cy n) (Tq4 ax ay bx b_y cx cy n) CS0 = ⟨k, fn, fd, tn, td, o, u⟩) (_iax : In64 ax) (_iay : In64 ay) (_ibx : In64 bx) (_ib_y : In64 b_y) (_icx : In64 cx) (_icy : In64 cy) (_in : In64 n) (w : World) :
    Calls Try.prog 35 #[.agg #[.int .i64 ax, .int .i64 ay], .agg #[.int .i64 bx, .int .i64 b_y], .agg #[.int .i64 cx, .int .i64 cy], .int .i64 n] w fun e w' => ∃ (n0 : Bool) (a0 : Option Addr) (l0 c0 : Nat) (n1 : Bool) (a1 : Option Addr) (l1 c1 : Nat) (n2 : Bool) (a2 : Option Addr) (l2 c2 : Nat) (n3 : Bool) (a3 : Option Addr) (l3 c3 : Nat),
      e = .returned (.agg #[.bool n0, .slice a0 l0 c0, .bool n1, .slice a1 l1 c1, .bool n2, .slice a2 l2 c2, .bool n3, .slice a3 l3 c3, .bool o, .bool u, .bool k]) ∧ Big w' (.agg #[.bool n0, .slice a0 l0 c0]) fn 18 ∧ Big w' (.agg #[.bool n1, .slice a1 l1 c1]) fd 18 ∧ Big w' (.agg #[.bool n2, .slice a2 l2 c2]) tn 18 ∧ Big w' (.agg #[.bool n3, .slice a3 l3 c3]) td 18 ∧ Below w.heap.size w w' := by
  refine (Cut15_g ax ay bx b_y cx cy n _iax _iay _ibx _ib_y _icx _icy _in w).mono ?_
  rintro e w' ⟨n0, a0, l0, c0, n1, a1, l1, c1, n2, a2, l2, c2, n3, a3, l3, c3, s, he, h0, h1, h2, h3, hs, hb⟩
  rw [h] at hs
  subst hs
  exact ⟨n0, a0, l0, c0, n1, a1, l1, c1, n2, a2, l2, c2, n3, a3, l3, c3, he, h0, h1, h2, h3, hb⟩

set_option maxRecDepth 100000 in
set_option maxHeartbeats 4000000 in

theorem PCu_1 (ax : Int) (ay : Int) (bx : Int) (b_y : Int) (cx : Int) (cy : Int) (n : Int)    (hP0 : prfx ax ay = ax) (hP1 : prfy ax ay = ay) (hP2 : prfx bx b_y = bx) (hP3 : prfy bx b_y = b_y) (hP4 : prfx cx cy = cx) (hP5 : prfy cx cy = cy) (hP6 : cufn ax ay bx b_y cx cy n = 0) (hP7 : cufd ax ay bx b_y cx cy n = 0) (hP8 : cutn ax ay bx b_y cx cy n = 0) (hP9 : cutd ax ay bx b_y cx cy n = 0) (hP10 : cufo ax ay bx b_y cx cy n = false) (hP11 : cuto ax ay bx b_y cx cy n = false) (hP12 : cuk ax ay bx b_y cx cy n = false) (hP13 : pxM ax ay bx b_y cx cy n = false) (hP14 : psz n = false) (_iax : In64 ax) (_iay : In64 ay) (_ibx : In64 bx) (_ib_y : In64 b_y) (_icx : In64 cx) (_icy : In64 cy) (_in : In64 n)  (w : World)  :
    Calls Try.prog 5 #[.agg #[.int .i64 ax, .int .i64 ay, .int .i64 bx, .int .i64 b_y], .agg #[.int .i64 cx, .int .i64 cy], .int .i64 n] w fun e w' => e = .returned (.bool true) ∧ Below w.heap.size w w' := by

  have HP0 := Lib.hid hP0
  clear hP0
  have HP1 := Lib.hid hP1
  clear hP1
  have HP2 := Lib.hid hP2
  clear hP2
  have HP3 := Lib.hid hP3
  clear hP3
  have HP4 := Lib.hid hP4
  clear hP4
  have HP5 := Lib.hid hP5
  clear hP5
  have HP6 := Lib.hid hP6
  clear hP6
  have HP7 := Lib.hid hP7
  clear hP7
  have HP8 := Lib.hid hP8
  clear hP8
  have HP9 := Lib.hid hP9
  clear hP9
  have HP10 := Lib.hid hP10
  clear hP10
  have HP11 := Lib.hid hP11
  clear hP11
  have HP12 := Lib.hid hP12
  clear hP12
  have HP13 := Lib.hid hP13
  clear hP13
  have HP14 := Lib.hid hP14
  clear hP14
  go_enter Try.func5, Try.ntmps5
  go_wp2_with fail
  first | refine calls_w ?_ | refine name_world ?_ | refine list_world ?_ | refine post_world ?_
  intro V1 hV1
  have hn : Below w.heap.size w V1 := by rw [hV1]; exact below_a2 _ _ _
  have nhb0 := hn
  have k1 : Blk V1 w.heap.size #[.int .i64 ax, .int .i64 ay, .int .i64 bx, .int .i64 b_y] 50 := by rw [hV1]; exact ((Blk.new _ _ _).alloc _)
  have k2 : Blk V1 (w.heap.size + 1) #[.int .i64 cx, .int .i64 cy] 24 := by rw [hV1]; exact (Blk.new1 _ _ _ _)
  clear hV1
  have hb0 := nhb0
  clear nhb0
  refine (cut_v ax ay bx b_y cx cy n 0 0 0 0 false false false HP6.out HP7.out HP8.out HP9.out HP10.out HP11.out HP12.out _iax _iay _ibx _ib_y _icx _icy _in _).mono ?_
  rintro e U2 ⟨rfl, hn⟩
  replace k1 := k1.of hn
  replace k2 := k2.of hn
  replace hb0 := hb0.trans (hn.mono hb0.size)
  clear hn
  go_wp2_with (first | ((with_reducible refine stRow (U2.heap.size) #[.int .u64 (wd0 0), .int .u64 (wd1 0), .int .u64 (wd2 0), .int .u64 (wd3 0), .int .u64 (wd0 0), .int .u64 (wd1 0), .int .u64 (wd2 0), .int .u64 (wd3 0), .int .u64 (wd0 0), .int .u64 (wd1 0), .int .u64 (wd2 0), .int .u64 (wd3 0), .int .u64 (wd0 0), .int .u64 (wd1 0), .int .u64 (wd2 0), .int .u64 (wd3 0), .bool false, .bool false] _ _ (Blk.new _ _ _) ?_ ?_ ?_ ?_ ?_ ?_); rfl; rfl; (as_aux_lemma => kernel_rfl); rfl; (as_aux_lemma => kernel_rfl); simp only [Act.put]))
  first | refine calls_w ?_ | refine name_world ?_ | refine list_world ?_ | refine post_world ?_
  intro V3 hV3
  rw [World.setRow_alloc_new] at hV3
  have D1 := Lib.hid k1.lt
  have D2 := Lib.hid k2.lt
  have D3 := Lib.hid hb0.size
  have hn : Below U2.heap.size U2 V3 := by rw [hV3]; exact below_a1 _ _
  have nk1 := k1.of hn
  have nk2 := k2.of hn
  have nhb0 := hb0.trans (hn.mono hb0.size)
  clear hn
  have k3 : Blk V3 U2.heap.size #[.int .u64 (wd0 0), .int .u64 (wd1 0), .int .u64 (wd2 0), .int .u64 (wd3 0), .int .u64 (wd0 0), .int .u64 (wd1 0), .int .u64 (wd2 0), .int .u64 (wd3 0), .int .u64 (wd0 0), .int .u64 (wd1 0), .int .u64 (wd2 0), .int .u64 (wd3 0), .int .u64 (wd0 0), .int .u64 (wd1 0), .int .u64 (wd2 0), .int .u64 (wd3 0), .bool false, .bool false] 54 := by rw [hV3]; exact (Blk.new _ _ _)
  clear k1 k2
  clear hb0
  clear hV3
  have k1 := nk1
  clear nk1
  have k2 := nk2
  clear nk2
  have hb0 := nhb0
  clear nhb0
  refine (p15size_is n false HP14.out _in  _).mono ?_
  rintro e U4 ⟨rfl, hn⟩
  replace k1 := k1.of hn
  replace k2 := k2.of hn
  replace k3 := k3.of hn
  replace hb0 := hb0.trans (hn.mono hb0.size)
  clear hn
  have c1_0 : U4.cell? ⟨w.heap.size, 0, none⟩ = some (.int .i64 ax) := k1.cell 0
  have c1_1 : U4.cell? ⟨w.heap.size, 1, none⟩ = some (.int .i64 ay) := k1.cell 1
  have c1_2 : U4.cell? ⟨w.heap.size, 2, none⟩ = some (.int .i64 bx) := k1.cell 2
  have c1_3 : U4.cell? ⟨w.heap.size, 3, none⟩ = some (.int .i64 b_y) := k1.cell 3
  have l1 := k1.lt
  have c2_0 : U4.cell? ⟨(w.heap.size + 1), 0, none⟩ = some (.int .i64 cx) := k2.cell 0
  have c2_1 : U4.cell? ⟨(w.heap.size + 1), 1, none⟩ = some (.int .i64 cy) := k2.cell 1
  have l2 := k2.lt
  go_wp2_with (first | ((with_reducible refine ldRowG (U2.heap.size) #[.int .u64 (wd0 0), .int .u64 (wd1 0), .int .u64 (wd2 0), .int .u64 (wd3 0), .int .u64 (wd0 0), .int .u64 (wd1 0), .int .u64 (wd2 0), .int .u64 (wd3 0), .int .u64 (wd0 0), .int .u64 (wd1 0), .int .u64 (wd2 0), .int .u64 (wd3 0), .int .u64 (wd0 0), .int .u64 (wd1 0), .int .u64 (wd2 0), .int .u64 (wd3 0), .bool false, .bool false] _ k3 ?_ ?_ ?_ ?_ ?_); (first | rfl | (simp [Region.wanted, yielded]; done)); rfl; exact ⟨_, rfl, rfl⟩; (as_aux_lemma => kernel_rfl); simp only [Act.put, List.setIfInBounds_toArray, List.set_cons_succ, List.set_cons_zero]) | ((with_reducible refine ldRow (U2.heap.size) #[.int .u64 (wd0 0), .int .u64 (wd1 0), .int .u64 (wd2 0), .int .u64 (wd3 0), .int .u64 (wd0 0), .int .u64 (wd1 0), .int .u64 (wd2 0), .int .u64 (wd3 0), .int .u64 (wd0 0), .int .u64 (wd1 0), .int .u64 (wd2 0), .int .u64 (wd3 0), .int .u64 (wd0 0), .int .u64 (wd1 0), .int .u64 (wd2 0), .int .u64 (wd3 0), .bool false, .bool false] _ k3 ?_ ?_ ?_ ?_); rfl; exact ⟨_, rfl, rfl⟩; (as_aux_lemma => kernel_rfl); simp only [Act.put, List.setIfInBounds_toArray, List.set_cons_succ, List.set_cons_zero]))
  clear c1_0 c1_1 c1_2 c1_3 l1 c2_0 c2_1 l2
  refine (pxMt_is ax ay bx b_y cx cy n false HP13.out _iax _iay _ibx _ib_y _icx _icy _in  _).mono ?_
  rintro e U5 ⟨rfl, hn⟩
  replace k1 := k1.of hn
  replace k2 := k2.of hn
  replace k3 := k3.of hn
  replace hb0 := hb0.trans (hn.mono hb0.size)
  clear hn
  go_wp2_with fail
  refine (p15awake_any _).mono ?_
  rintro e U6 ⟨rfl, hn⟩
  replace k1 := k1.of hn
  replace k2 := k2.of hn
  replace k3 := k3.of hn
  replace hb0 := hb0.trans (hn.mono hb0.size)
  clear hn
  go_wp2
  first | go_ret | go_ret2
  exact ⟨by first | rfl | (simp; done) | (simp; assumption), hb0⟩

set_option maxRecDepth 100000 in
set_option maxHeartbeats 4000000 in

theorem PCu_2 (ax : Int) (ay : Int) (bx : Int) (b_y : Int) (cx : Int) (cy : Int) (n : Int)    (hP0 : prfx ax ay = ax) (hP1 : prfy ax ay = ay) (hP2 : prfx bx b_y = bx) (hP3 : prfy bx b_y = b_y) (hP4 : prfx cx cy = cx) (hP5 : prfy cx cy = cy) (hP6 : cufn ax ay bx b_y cx cy n = 0) (hP7 : cufd ax ay bx b_y cx cy n = 0) (hP8 : cutn ax ay bx b_y cx cy n = 0) (hP9 : cutd ax ay bx b_y cx cy n = 0) (hP10 : cufo ax ay bx b_y cx cy n = false) (hP11 : cuto ax ay bx b_y cx cy n = false) (hP12 : cuk ax ay bx b_y cx cy n = false) (hP13 : pxM ax ay bx b_y cx cy n = false) (hP14 : psz n = true) (hP15 : rp cx cy = false) (_iax : In64 ax) (_iay : In64 ay) (_ibx : In64 bx) (_ib_y : In64 b_y) (_icx : In64 cx) (_icy : In64 cy) (_in : In64 n)  (w : World)  :
    Calls Try.prog 5 #[.agg #[.int .i64 ax, .int .i64 ay, .int .i64 bx, .int .i64 b_y], .agg #[.int .i64 cx, .int .i64 cy], .int .i64 n] w fun e w' => e = .returned (.bool true) ∧ Below w.heap.size w w' := by

  have HP0 := Lib.hid hP0
  clear hP0
  have HP1 := Lib.hid hP1
  clear hP1
  have HP2 := Lib.hid hP2
  clear hP2
  have HP3 := Lib.hid hP3
  clear hP3
  have HP4 := Lib.hid hP4
  clear hP4
  have HP5 := Lib.hid hP5
  clear hP5
  have HP6 := Lib.hid hP6
  clear hP6
  have HP7 := Lib.hid hP7
  clear hP7
  have HP8 := Lib.hid hP8
  clear hP8
  have HP9 := Lib.hid hP9
  clear hP9
  have HP10 := Lib.hid hP10
  clear hP10
  have HP11 := Lib.hid hP11
  clear hP11
  have HP12 := Lib.hid hP12
  clear hP12
  have HP13 := Lib.hid hP13
  clear hP13
  have HP14 := Lib.hid hP14
  clear hP14
  have HP15 := Lib.hid hP15
  clear hP15
  go_enter Try.func5, Try.ntmps5
  go_wp2_with fail
  first | refine calls_w ?_ | refine name_world ?_ | refine list_world ?_ | refine post_world ?_
  intro V1 hV1
  have hn : Below w.heap.size w V1 := by rw [hV1]; exact below_a2 _ _ _
  have nhb0 := hn
  have k1 : Blk V1 w.heap.size #[.int .i64 ax, .int .i64 ay, .int .i64 bx, .int .i64 b_y] 50 := by rw [hV1]; exact ((Blk.new _ _ _).alloc _)
  have k2 : Blk V1 (w.heap.size + 1) #[.int .i64 cx, .int .i64 cy] 24 := by rw [hV1]; exact (Blk.new1 _ _ _ _)
  clear hV1
  have hb0 := nhb0
  clear nhb0
  refine (cut_v ax ay bx b_y cx cy n 0 0 0 0 false false false HP6.out HP7.out HP8.out HP9.out HP10.out HP11.out HP12.out _iax _iay _ibx _ib_y _icx _icy _in _).mono ?_
  rintro e U2 ⟨rfl, hn⟩
  replace k1 := k1.of hn
  replace k2 := k2.of hn
  replace hb0 := hb0.trans (hn.mono hb0.size)
  clear hn
  go_wp2_with (first | ((with_reducible refine stRow (U2.heap.size) #[.int .u64 (wd0 0), .int .u64 (wd1 0), .int .u64 (wd2 0), .int .u64 (wd3 0), .int .u64 (wd0 0), .int .u64 (wd1 0), .int .u64 (wd2 0), .int .u64 (wd3 0), .int .u64 (wd0 0), .int .u64 (wd1 0), .int .u64 (wd2 0), .int .u64 (wd3 0), .int .u64 (wd0 0), .int .u64 (wd1 0), .int .u64 (wd2 0), .int .u64 (wd3 0), .bool false, .bool false] _ _ (Blk.new _ _ _) ?_ ?_ ?_ ?_ ?_ ?_); rfl; rfl; (as_aux_lemma => kernel_rfl); rfl; (as_aux_lemma => kernel_rfl); simp only [Act.put]))
  first | refine calls_w ?_ | refine name_world ?_ | refine list_world ?_ | refine post_world ?_
  intro V3 hV3
  rw [World.setRow_alloc_new] at hV3
  have D1 := Lib.hid k1.lt
  have D2 := Lib.hid k2.lt
  have D3 := Lib.hid hb0.size
  have hn : Below U2.heap.size U2 V3 := by rw [hV3]; exact below_a1 _ _
  have nk1 := k1.of hn
  have nk2 := k2.of hn
  have nhb0 := hb0.trans (hn.mono hb0.size)
  clear hn
  have k3 : Blk V3 U2.heap.size #[.int .u64 (wd0 0), .int .u64 (wd1 0), .int .u64 (wd2 0), .int .u64 (wd3 0), .int .u64 (wd0 0), .int .u64 (wd1 0), .int .u64 (wd2 0), .int .u64 (wd3 0), .int .u64 (wd0 0), .int .u64 (wd1 0), .int .u64 (wd2 0), .int .u64 (wd3 0), .int .u64 (wd0 0), .int .u64 (wd1 0), .int .u64 (wd2 0), .int .u64 (wd3 0), .bool false, .bool false] 54 := by rw [hV3]; exact (Blk.new _ _ _)
  clear k1 k2
  clear hb0
  clear hV3
  have k1 := nk1
  clear nk1
  have k2 := nk2
  clear nk2
  have hb0 := nhb0
  clear nhb0
  refine (p15size_is n true HP14.out _in  _).mono ?_
  rintro e U4 ⟨rfl, hn⟩
  replace k1 := k1.of hn
  replace k2 := k2.of hn
  replace k3 := k3.of hn
  replace hb0 := hb0.trans (hn.mono hb0.size)
  clear hn
  have c2_0 : U4.cell? ⟨(w.heap.size + 1), 0, none⟩ = some (.int .i64 cx) := k2.cell 0
  have c2_1 : U4.cell? ⟨(w.heap.size + 1), 1, none⟩ = some (.int .i64 cy) := k2.cell 1
  have l2 := k2.lt
  go_wp2_with fail
  clear c2_0 c2_1 l2
  refine (p15ref_is cx cy cx cy HP4.out HP5.out _icx _icy  _).mono ?_
  rintro e U5 ⟨rfl, hn⟩
  replace k1 := k1.of hn
  replace k2 := k2.of hn
  replace k3 := k3.of hn
  replace hb0 := hb0.trans (hn.mono hb0.size)
  clear hn
  go_wp2_with fail
  refine (rRight_v cx cy false HP15.out _).mono ?_
  rintro e U6 ⟨rfl, hn⟩
  replace k1 := k1.of hn
  replace k2 := k2.of hn
  replace k3 := k3.of hn
  replace hb0 := hb0.trans (hn.mono hb0.size)
  clear hn
  have c1_0 : U6.cell? ⟨w.heap.size, 0, none⟩ = some (.int .i64 ax) := k1.cell 0
  have c1_1 : U6.cell? ⟨w.heap.size, 1, none⟩ = some (.int .i64 ay) := k1.cell 1
  have c1_2 : U6.cell? ⟨w.heap.size, 2, none⟩ = some (.int .i64 bx) := k1.cell 2
  have c1_3 : U6.cell? ⟨w.heap.size, 3, none⟩ = some (.int .i64 b_y) := k1.cell 3
  have l1 := k1.lt
  have c2_0 : U6.cell? ⟨(w.heap.size + 1), 0, none⟩ = some (.int .i64 cx) := k2.cell 0
  have c2_1 : U6.cell? ⟨(w.heap.size + 1), 1, none⟩ = some (.int .i64 cy) := k2.cell 1
  have l2 := k2.lt
  go_wp2_with (first | ((with_reducible refine ldRowG (U2.heap.size) #[.int .u64 (wd0 0), .int .u64 (wd1 0), .int .u64 (wd2 0), .int .u64 (wd3 0), .int .u64 (wd0 0), .int .u64 (wd1 0), .int .u64 (wd2 0), .int .u64 (wd3 0), .int .u64 (wd0 0), .int .u64 (wd1 0), .int .u64 (wd2 0), .int .u64 (wd3 0), .int .u64 (wd0 0), .int .u64 (wd1 0), .int .u64 (wd2 0), .int .u64 (wd3 0), .bool false, .bool false] _ k3 ?_ ?_ ?_ ?_ ?_); (first | rfl | (simp [Region.wanted, yielded]; done)); rfl; exact ⟨_, rfl, rfl⟩; (as_aux_lemma => kernel_rfl); simp only [Act.put, List.setIfInBounds_toArray, List.set_cons_succ, List.set_cons_zero]) | ((with_reducible refine ldRow (U2.heap.size) #[.int .u64 (wd0 0), .int .u64 (wd1 0), .int .u64 (wd2 0), .int .u64 (wd3 0), .int .u64 (wd0 0), .int .u64 (wd1 0), .int .u64 (wd2 0), .int .u64 (wd3 0), .int .u64 (wd0 0), .int .u64 (wd1 0), .int .u64 (wd2 0), .int .u64 (wd3 0), .int .u64 (wd0 0), .int .u64 (wd1 0), .int .u64 (wd2 0), .int .u64 (wd3 0), .bool false, .bool false] _ k3 ?_ ?_ ?_ ?_); rfl; exact ⟨_, rfl, rfl⟩; (as_aux_lemma => kernel_rfl); simp only [Act.put, List.setIfInBounds_toArray, List.set_cons_succ, List.set_cons_zero]))
  clear c1_0 c1_1 c1_2 c1_3 l1 c2_0 c2_1 l2
  refine (pxMt_is ax ay bx b_y cx cy n false HP13.out _iax _iay _ibx _ib_y _icx _icy _in  _).mono ?_
  rintro e U7 ⟨rfl, hn⟩
  replace k1 := k1.of hn
  replace k2 := k2.of hn
  replace k3 := k3.of hn
  replace hb0 := hb0.trans (hn.mono hb0.size)
  clear hn
  go_wp2_with fail
  refine (p15awake_any _).mono ?_
  rintro e U8 ⟨rfl, hn⟩
  replace k1 := k1.of hn
  replace k2 := k2.of hn
  replace k3 := k3.of hn
  replace hb0 := hb0.trans (hn.mono hb0.size)
  clear hn
  go_wp2
  first | go_ret | go_ret2
  exact ⟨by first | rfl | (simp; done) | (simp; assumption), hb0⟩

set_option maxRecDepth 100000 in
set_option maxHeartbeats 4000000 in

theorem PCu_3 (ax : Int) (ay : Int) (bx : Int) (b_y : Int) (cx : Int) (cy : Int) (n : Int)    (hP0 : prfx ax ay = ax) (hP1 : prfy ax ay = ay) (hP2 : prfx bx b_y = bx) (hP3 : prfy bx b_y = b_y) (hP4 : prfx cx cy = cx) (hP5 : prfy cx cy = cy) (hP6 : cufn ax ay bx b_y cx cy n = 0) (hP7 : cufd ax ay bx b_y cx cy n = 0) (hP8 : cutn ax ay bx b_y cx cy n = 0) (hP9 : cutd ax ay bx b_y cx cy n = 0) (hP10 : cufo ax ay bx b_y cx cy n = false) (hP11 : cuto ax ay bx b_y cx cy n = false) (hP12 : cuk ax ay bx b_y cx cy n = false) (hP13 : pxM ax ay bx b_y cx cy n = false) (hP14 : psz n = true) (hP15 : rp cx cy = true) (hP16 : rp ax ay = false) (_iax : In64 ax) (_iay : In64 ay) (_ibx : In64 bx) (_ib_y : In64 b_y) (_icx : In64 cx) (_icy : In64 cy) (_in : In64 n)  (w : World)  :
    Calls Try.prog 5 #[.agg #[.int .i64 ax, .int .i64 ay, .int .i64 bx, .int .i64 b_y], .agg #[.int .i64 cx, .int .i64 cy], .int .i64 n] w fun e w' => e = .returned (.bool true) ∧ Below w.heap.size w w' := by

  have HP0 := Lib.hid hP0
  clear hP0
  have HP1 := Lib.hid hP1
  clear hP1
  have HP2 := Lib.hid hP2
  clear hP2
  have HP3 := Lib.hid hP3
  clear hP3
  have HP4 := Lib.hid hP4
  clear hP4
  have HP5 := Lib.hid hP5
  clear hP5
  have HP6 := Lib.hid hP6
  clear hP6
  have HP7 := Lib.hid hP7
  clear hP7
  have HP8 := Lib.hid hP8
  clear hP8
  have HP9 := Lib.hid hP9
  clear hP9
  have HP10 := Lib.hid hP10
  clear hP10
  have HP11 := Lib.hid hP11
  clear hP11
  have HP12 := Lib.hid hP12
  clear hP12
  have HP13 := Lib.hid hP13
  clear hP13
  have HP14 := Lib.hid hP14
  clear hP14
  have HP15 := Lib.hid hP15
  clear hP15
  have HP16 := Lib.hid hP16
  clear hP16
  go_enter Try.func5, Try.ntmps5
  go_wp2_with fail
  first | refine calls_w ?_ | refine name_world ?_ | refine list_world ?_ | refine post_world ?_
  intro V1 hV1
  have hn : Below w.heap.size w V1 := by rw [hV1]; exact below_a2 _ _ _
  have nhb0 := hn
  have k1 : Blk V1 w.heap.size #[.int .i64 ax, .int .i64 ay, .int .i64 bx, .int .i64 b_y] 50 := by rw [hV1]; exact ((Blk.new _ _ _).alloc _)
  have k2 : Blk V1 (w.heap.size + 1) #[.int .i64 cx, .int .i64 cy] 24 := by rw [hV1]; exact (Blk.new1 _ _ _ _)
  clear hV1
  have hb0 := nhb0
  clear nhb0
  refine (cut_v ax ay bx b_y cx cy n 0 0 0 0 false false false HP6.out HP7.out HP8.out HP9.out HP10.out HP11.out HP12.out _iax _iay _ibx _ib_y _icx _icy _in _).mono ?_
  rintro e U2 ⟨rfl, hn⟩
  replace k1 := k1.of hn
  replace k2 := k2.of hn
  replace hb0 := hb0.trans (hn.mono hb0.size)
  clear hn
  go_wp2_with (first | ((with_reducible refine stRow (U2.heap.size) #[.int .u64 (wd0 0), .int .u64 (wd1 0), .int .u64 (wd2 0), .int .u64 (wd3 0), .int .u64 (wd0 0), .int .u64 (wd1 0), .int .u64 (wd2 0), .int .u64 (wd3 0), .int .u64 (wd0 0), .int .u64 (wd1 0), .int .u64 (wd2 0), .int .u64 (wd3 0), .int .u64 (wd0 0), .int .u64 (wd1 0), .int .u64 (wd2 0), .int .u64 (wd3 0), .bool false, .bool false] _ _ (Blk.new _ _ _) ?_ ?_ ?_ ?_ ?_ ?_); rfl; rfl; (as_aux_lemma => kernel_rfl); rfl; (as_aux_lemma => kernel_rfl); simp only [Act.put]))
  first | refine calls_w ?_ | refine name_world ?_ | refine list_world ?_ | refine post_world ?_
  intro V3 hV3
  rw [World.setRow_alloc_new] at hV3
  have D1 := Lib.hid k1.lt
  have D2 := Lib.hid k2.lt
  have D3 := Lib.hid hb0.size
  have hn : Below U2.heap.size U2 V3 := by rw [hV3]; exact below_a1 _ _
  have nk1 := k1.of hn
  have nk2 := k2.of hn
  have nhb0 := hb0.trans (hn.mono hb0.size)
  clear hn
  have k3 : Blk V3 U2.heap.size #[.int .u64 (wd0 0), .int .u64 (wd1 0), .int .u64 (wd2 0), .int .u64 (wd3 0), .int .u64 (wd0 0), .int .u64 (wd1 0), .int .u64 (wd2 0), .int .u64 (wd3 0), .int .u64 (wd0 0), .int .u64 (wd1 0), .int .u64 (wd2 0), .int .u64 (wd3 0), .int .u64 (wd0 0), .int .u64 (wd1 0), .int .u64 (wd2 0), .int .u64 (wd3 0), .bool false, .bool false] 54 := by rw [hV3]; exact (Blk.new _ _ _)
  clear k1 k2
  clear hb0
  clear hV3
  have k1 := nk1
  clear nk1
  have k2 := nk2
  clear nk2
  have hb0 := nhb0
  clear nhb0
  refine (p15size_is n true HP14.out _in  _).mono ?_
  rintro e U4 ⟨rfl, hn⟩
  replace k1 := k1.of hn
  replace k2 := k2.of hn
  replace k3 := k3.of hn
  replace hb0 := hb0.trans (hn.mono hb0.size)
  clear hn
  have c2_0 : U4.cell? ⟨(w.heap.size + 1), 0, none⟩ = some (.int .i64 cx) := k2.cell 0
  have c2_1 : U4.cell? ⟨(w.heap.size + 1), 1, none⟩ = some (.int .i64 cy) := k2.cell 1
  have l2 := k2.lt
  go_wp2_with fail
  clear c2_0 c2_1 l2
  refine (p15ref_is cx cy cx cy HP4.out HP5.out _icx _icy  _).mono ?_
  rintro e U5 ⟨rfl, hn⟩
  replace k1 := k1.of hn
  replace k2 := k2.of hn
  replace k3 := k3.of hn
  replace hb0 := hb0.trans (hn.mono hb0.size)
  clear hn
  go_wp2_with fail
  refine (rRight_v cx cy true HP15.out _).mono ?_
  rintro e U6 ⟨rfl, hn⟩
  replace k1 := k1.of hn
  replace k2 := k2.of hn
  replace k3 := k3.of hn
  replace hb0 := hb0.trans (hn.mono hb0.size)
  clear hn
  have c1_0 : U6.cell? ⟨w.heap.size, 0, none⟩ = some (.int .i64 ax) := k1.cell 0
  have c1_1 : U6.cell? ⟨w.heap.size, 1, none⟩ = some (.int .i64 ay) := k1.cell 1
  have l1 := k1.lt
  go_wp2_with fail
  clear c1_0 c1_1 l1
  refine (p15ref_is ax ay ax ay HP0.out HP1.out _iax _iay  _).mono ?_
  rintro e U7 ⟨rfl, hn⟩
  replace k1 := k1.of hn
  replace k2 := k2.of hn
  replace k3 := k3.of hn
  replace hb0 := hb0.trans (hn.mono hb0.size)
  clear hn
  go_wp2_with fail
  refine (rRight_v ax ay false HP16.out _).mono ?_
  rintro e U8 ⟨rfl, hn⟩
  replace k1 := k1.of hn
  replace k2 := k2.of hn
  replace k3 := k3.of hn
  replace hb0 := hb0.trans (hn.mono hb0.size)
  clear hn
  have c1_0 : U8.cell? ⟨w.heap.size, 0, none⟩ = some (.int .i64 ax) := k1.cell 0
  have c1_1 : U8.cell? ⟨w.heap.size, 1, none⟩ = some (.int .i64 ay) := k1.cell 1
  have c1_2 : U8.cell? ⟨w.heap.size, 2, none⟩ = some (.int .i64 bx) := k1.cell 2
  have c1_3 : U8.cell? ⟨w.heap.size, 3, none⟩ = some (.int .i64 b_y) := k1.cell 3
  have l1 := k1.lt
  have c2_0 : U8.cell? ⟨(w.heap.size + 1), 0, none⟩ = some (.int .i64 cx) := k2.cell 0
  have c2_1 : U8.cell? ⟨(w.heap.size + 1), 1, none⟩ = some (.int .i64 cy) := k2.cell 1
  have l2 := k2.lt
  go_wp2_with (first | ((with_reducible refine ldRowG (U2.heap.size) #[.int .u64 (wd0 0), .int .u64 (wd1 0), .int .u64 (wd2 0), .int .u64 (wd3 0), .int .u64 (wd0 0), .int .u64 (wd1 0), .int .u64 (wd2 0), .int .u64 (wd3 0), .int .u64 (wd0 0), .int .u64 (wd1 0), .int .u64 (wd2 0), .int .u64 (wd3 0), .int .u64 (wd0 0), .int .u64 (wd1 0), .int .u64 (wd2 0), .int .u64 (wd3 0), .bool false, .bool false] _ k3 ?_ ?_ ?_ ?_ ?_); (first | rfl | (simp [Region.wanted, yielded]; done)); rfl; exact ⟨_, rfl, rfl⟩; (as_aux_lemma => kernel_rfl); simp only [Act.put, List.setIfInBounds_toArray, List.set_cons_succ, List.set_cons_zero]) | ((with_reducible refine ldRow (U2.heap.size) #[.int .u64 (wd0 0), .int .u64 (wd1 0), .int .u64 (wd2 0), .int .u64 (wd3 0), .int .u64 (wd0 0), .int .u64 (wd1 0), .int .u64 (wd2 0), .int .u64 (wd3 0), .int .u64 (wd0 0), .int .u64 (wd1 0), .int .u64 (wd2 0), .int .u64 (wd3 0), .int .u64 (wd0 0), .int .u64 (wd1 0), .int .u64 (wd2 0), .int .u64 (wd3 0), .bool false, .bool false] _ k3 ?_ ?_ ?_ ?_); rfl; exact ⟨_, rfl, rfl⟩; (as_aux_lemma => kernel_rfl); simp only [Act.put, List.setIfInBounds_toArray, List.set_cons_succ, List.set_cons_zero]))
  clear c1_0 c1_1 c1_2 c1_3 l1 c2_0 c2_1 l2
  refine (pxMt_is ax ay bx b_y cx cy n false HP13.out _iax _iay _ibx _ib_y _icx _icy _in  _).mono ?_
  rintro e U9 ⟨rfl, hn⟩
  replace k1 := k1.of hn
  replace k2 := k2.of hn
  replace k3 := k3.of hn
  replace hb0 := hb0.trans (hn.mono hb0.size)
  clear hn
  go_wp2_with fail
  refine (p15awake_any _).mono ?_
  rintro e U10 ⟨rfl, hn⟩
  replace k1 := k1.of hn
  replace k2 := k2.of hn
  replace k3 := k3.of hn
  replace hb0 := hb0.trans (hn.mono hb0.size)
  clear hn
  go_wp2
  first | go_ret | go_ret2
  exact ⟨by first | rfl | (simp; done) | (simp; assumption), hb0⟩

set_option maxRecDepth 100000 in
set_option maxHeartbeats 4000000 in

theorem PCu_4 (ax : Int) (ay : Int) (bx : Int) (b_y : Int) (cx : Int) (cy : Int) (n : Int)    (hP0 : prfx ax ay = ax) (hP1 : prfy ax ay = ay) (hP2 : prfx bx b_y = bx) (hP3 : prfy bx b_y = b_y) (hP4 : prfx cx cy = cx) (hP5 : prfy cx cy = cy) (hP6 : cufn ax ay bx b_y cx cy n = 0) (hP7 : cufd ax ay bx b_y cx cy n = 0) (hP8 : cutn ax ay bx b_y cx cy n = 0) (hP9 : cutd ax ay bx b_y cx cy n = 0) (hP10 : cufo ax ay bx b_y cx cy n = false) (hP11 : cuto ax ay bx b_y cx cy n = false) (hP12 : cuk ax ay bx b_y cx cy n = false) (hP13 : pxM ax ay bx b_y cx cy n = false) (hP14 : psz n = true) (hP15 : rp cx cy = true) (hP16 : rp ax ay = true) (hP17 : rp bx b_y = false) (_iax : In64 ax) (_iay : In64 ay) (_ibx : In64 bx) (_ib_y : In64 b_y) (_icx : In64 cx) (_icy : In64 cy) (_in : In64 n)  (w : World)  :
    Calls Try.prog 5 #[.agg #[.int .i64 ax, .int .i64 ay, .int .i64 bx, .int .i64 b_y], .agg #[.int .i64 cx, .int .i64 cy], .int .i64 n] w fun e w' => e = .returned (.bool true) ∧ Below w.heap.size w w' := by

  have HP0 := Lib.hid hP0
  clear hP0
  have HP1 := Lib.hid hP1
  clear hP1
  have HP2 := Lib.hid hP2
  clear hP2
  have HP3 := Lib.hid hP3
  clear hP3
  have HP4 := Lib.hid hP4
  clear hP4
  have HP5 := Lib.hid hP5
  clear hP5
  have HP6 := Lib.hid hP6
  clear hP6
  have HP7 := Lib.hid hP7
  clear hP7
  have HP8 := Lib.hid hP8
  clear hP8
  have HP9 := Lib.hid hP9
  clear hP9
  have HP10 := Lib.hid hP10
  clear hP10
  have HP11 := Lib.hid hP11
  clear hP11
  have HP12 := Lib.hid hP12
  clear hP12
  have HP13 := Lib.hid hP13
  clear hP13
  have HP14 := Lib.hid hP14
  clear hP14
  have HP15 := Lib.hid hP15
  clear hP15
  have HP16 := Lib.hid hP16
  clear hP16
  have HP17 := Lib.hid hP17
  clear hP17
  go_enter Try.func5, Try.ntmps5
  go_wp2_with fail
  first | refine calls_w ?_ | refine name_world ?_ | refine list_world ?_ | refine post_world ?_
  intro V1 hV1
  have hn : Below w.heap.size w V1 := by rw [hV1]; exact below_a2 _ _ _
  have nhb0 := hn
  have k1 : Blk V1 w.heap.size #[.int .i64 ax, .int .i64 ay, .int .i64 bx, .int .i64 b_y] 50 := by rw [hV1]; exact ((Blk.new _ _ _).alloc _)
  have k2 : Blk V1 (w.heap.size + 1) #[.int .i64 cx, .int .i64 cy] 24 := by rw [hV1]; exact (Blk.new1 _ _ _ _)
  clear hV1
  have hb0 := nhb0
  clear nhb0
  refine (cut_v ax ay bx b_y cx cy n 0 0 0 0 false false false HP6.out HP7.out HP8.out HP9.out HP10.out HP11.out HP12.out _iax _iay _ibx _ib_y _icx _icy _in _).mono ?_
  rintro e U2 ⟨rfl, hn⟩
  replace k1 := k1.of hn
  replace k2 := k2.of hn
  replace hb0 := hb0.trans (hn.mono hb0.size)
  clear hn
  go_wp2_with (first | ((with_reducible refine stRow (U2.heap.size) #[.int .u64 (wd0 0), .int .u64 (wd1 0), .int .u64 (wd2 0), .int .u64 (wd3 0), .int .u64 (wd0 0), .int .u64 (wd1 0), .int .u64 (wd2 0), .int .u64 (wd3 0), .int .u64 (wd0 0), .int .u64 (wd1 0), .int .u64 (wd2 0), .int .u64 (wd3 0), .int .u64 (wd0 0), .int .u64 (wd1 0), .int .u64 (wd2 0), .int .u64 (wd3 0), .bool false, .bool false] _ _ (Blk.new _ _ _) ?_ ?_ ?_ ?_ ?_ ?_); rfl; rfl; (as_aux_lemma => kernel_rfl); rfl; (as_aux_lemma => kernel_rfl); simp only [Act.put]))
  first | refine calls_w ?_ | refine name_world ?_ | refine list_world ?_ | refine post_world ?_
  intro V3 hV3
  rw [World.setRow_alloc_new] at hV3
  have D1 := Lib.hid k1.lt
  have D2 := Lib.hid k2.lt
  have D3 := Lib.hid hb0.size
  have hn : Below U2.heap.size U2 V3 := by rw [hV3]; exact below_a1 _ _
  have nk1 := k1.of hn
  have nk2 := k2.of hn
  have nhb0 := hb0.trans (hn.mono hb0.size)
  clear hn
  have k3 : Blk V3 U2.heap.size #[.int .u64 (wd0 0), .int .u64 (wd1 0), .int .u64 (wd2 0), .int .u64 (wd3 0), .int .u64 (wd0 0), .int .u64 (wd1 0), .int .u64 (wd2 0), .int .u64 (wd3 0), .int .u64 (wd0 0), .int .u64 (wd1 0), .int .u64 (wd2 0), .int .u64 (wd3 0), .int .u64 (wd0 0), .int .u64 (wd1 0), .int .u64 (wd2 0), .int .u64 (wd3 0), .bool false, .bool false] 54 := by rw [hV3]; exact (Blk.new _ _ _)
  clear k1 k2
  clear hb0
  clear hV3
  have k1 := nk1
  clear nk1
  have k2 := nk2
  clear nk2
  have hb0 := nhb0
  clear nhb0
  refine (p15size_is n true HP14.out _in  _).mono ?_
  rintro e U4 ⟨rfl, hn⟩
  replace k1 := k1.of hn
  replace k2 := k2.of hn
  replace k3 := k3.of hn
  replace hb0 := hb0.trans (hn.mono hb0.size)
  clear hn
  have c2_0 : U4.cell? ⟨(w.heap.size + 1), 0, none⟩ = some (.int .i64 cx) := k2.cell 0
  have c2_1 : U4.cell? ⟨(w.heap.size + 1), 1, none⟩ = some (.int .i64 cy) := k2.cell 1
  have l2 := k2.lt
  go_wp2_with fail
  clear c2_0 c2_1 l2
  refine (p15ref_is cx cy cx cy HP4.out HP5.out _icx _icy  _).mono ?_
  rintro e U5 ⟨rfl, hn⟩
  replace k1 := k1.of hn
  replace k2 := k2.of hn
  replace k3 := k3.of hn
  replace hb0 := hb0.trans (hn.mono hb0.size)
  clear hn
  go_wp2_with fail
  refine (rRight_v cx cy true HP15.out _).mono ?_
  rintro e U6 ⟨rfl, hn⟩
  replace k1 := k1.of hn
  replace k2 := k2.of hn
  replace k3 := k3.of hn
  replace hb0 := hb0.trans (hn.mono hb0.size)
  clear hn
  have c1_0 : U6.cell? ⟨w.heap.size, 0, none⟩ = some (.int .i64 ax) := k1.cell 0
  have c1_1 : U6.cell? ⟨w.heap.size, 1, none⟩ = some (.int .i64 ay) := k1.cell 1
  have l1 := k1.lt
  go_wp2_with fail
  clear c1_0 c1_1 l1
  refine (p15ref_is ax ay ax ay HP0.out HP1.out _iax _iay  _).mono ?_
  rintro e U7 ⟨rfl, hn⟩
  replace k1 := k1.of hn
  replace k2 := k2.of hn
  replace k3 := k3.of hn
  replace hb0 := hb0.trans (hn.mono hb0.size)
  clear hn
  go_wp2_with fail
  refine (rRight_v ax ay true HP16.out _).mono ?_
  rintro e U8 ⟨rfl, hn⟩
  replace k1 := k1.of hn
  replace k2 := k2.of hn
  replace k3 := k3.of hn
  replace hb0 := hb0.trans (hn.mono hb0.size)
  clear hn
  have c1_2 : U8.cell? ⟨w.heap.size, 2, none⟩ = some (.int .i64 bx) := k1.cell 2
  have c1_3 : U8.cell? ⟨w.heap.size, 3, none⟩ = some (.int .i64 b_y) := k1.cell 3
  have l1 := k1.lt
  go_wp2_with fail
  clear c1_2 c1_3 l1
  refine (p15ref_is bx b_y bx b_y HP2.out HP3.out _ibx _ib_y  _).mono ?_
  rintro e U9 ⟨rfl, hn⟩
  replace k1 := k1.of hn
  replace k2 := k2.of hn
  replace k3 := k3.of hn
  replace hb0 := hb0.trans (hn.mono hb0.size)
  clear hn
  go_wp2_with fail
  refine (rRight_v bx b_y false HP17.out _).mono ?_
  rintro e U10 ⟨rfl, hn⟩
  replace k1 := k1.of hn
  replace k2 := k2.of hn
  replace k3 := k3.of hn
  replace hb0 := hb0.trans (hn.mono hb0.size)
  clear hn
  have c1_0 : U10.cell? ⟨w.heap.size, 0, none⟩ = some (.int .i64 ax) := k1.cell 0
  have c1_1 : U10.cell? ⟨w.heap.size, 1, none⟩ = some (.int .i64 ay) := k1.cell 1
  have c1_2 : U10.cell? ⟨w.heap.size, 2, none⟩ = some (.int .i64 bx) := k1.cell 2
  have c1_3 : U10.cell? ⟨w.heap.size, 3, none⟩ = some (.int .i64 b_y) := k1.cell 3
  have l1 := k1.lt
  have c2_0 : U10.cell? ⟨(w.heap.size + 1), 0, none⟩ = some (.int .i64 cx) := k2.cell 0
  have c2_1 : U10.cell? ⟨(w.heap.size + 1), 1, none⟩ = some (.int .i64 cy) := k2.cell 1
  have l2 := k2.lt
  go_wp2_with (first | ((with_reducible refine ldRowG (U2.heap.size) #[.int .u64 (wd0 0), .int .u64 (wd1 0), .int .u64 (wd2 0), .int .u64 (wd3 0), .int .u64 (wd0 0), .int .u64 (wd1 0), .int .u64 (wd2 0), .int .u64 (wd3 0), .int .u64 (wd0 0), .int .u64 (wd1 0), .int .u64 (wd2 0), .int .u64 (wd3 0), .int .u64 (wd0 0), .int .u64 (wd1 0), .int .u64 (wd2 0), .int .u64 (wd3 0), .bool false, .bool false] _ k3 ?_ ?_ ?_ ?_ ?_); (first | rfl | (simp [Region.wanted, yielded]; done)); rfl; exact ⟨_, rfl, rfl⟩; (as_aux_lemma => kernel_rfl); simp only [Act.put, List.setIfInBounds_toArray, List.set_cons_succ, List.set_cons_zero]) | ((with_reducible refine ldRow (U2.heap.size) #[.int .u64 (wd0 0), .int .u64 (wd1 0), .int .u64 (wd2 0), .int .u64 (wd3 0), .int .u64 (wd0 0), .int .u64 (wd1 0), .int .u64 (wd2 0), .int .u64 (wd3 0), .int .u64 (wd0 0), .int .u64 (wd1 0), .int .u64 (wd2 0), .int .u64 (wd3 0), .int .u64 (wd0 0), .int .u64 (wd1 0), .int .u64 (wd2 0), .int .u64 (wd3 0), .bool false, .bool false] _ k3 ?_ ?_ ?_ ?_); rfl; exact ⟨_, rfl, rfl⟩; (as_aux_lemma => kernel_rfl); simp only [Act.put, List.setIfInBounds_toArray, List.set_cons_succ, List.set_cons_zero]))
  clear c1_0 c1_1 c1_2 c1_3 l1 c2_0 c2_1 l2
  refine (pxMt_is ax ay bx b_y cx cy n false HP13.out _iax _iay _ibx _ib_y _icx _icy _in  _).mono ?_
  rintro e U11 ⟨rfl, hn⟩
  replace k1 := k1.of hn
  replace k2 := k2.of hn
  replace k3 := k3.of hn
  replace hb0 := hb0.trans (hn.mono hb0.size)
  clear hn
  go_wp2_with fail
  refine (p15awake_any _).mono ?_
  rintro e U12 ⟨rfl, hn⟩
  replace k1 := k1.of hn
  replace k2 := k2.of hn
  replace k3 := k3.of hn
  replace hb0 := hb0.trans (hn.mono hb0.size)
  clear hn
  go_wp2
  first | go_ret | go_ret2
  exact ⟨by first | rfl | (simp; done) | (simp; assumption), hb0⟩

theorem alPcK_0 : AllocRuns Try.prog 62 #[.bool false, .slice none 0 0, .bool false, .slice none 0 0, .bool false, .slice none 0 0, .bool false, .slice none 0 0, .bool false, .bool false, .bool false] := fun w => by kernel_rfl

set_option maxRecDepth 100000 in
set_option maxHeartbeats 4000000 in

theorem PCu_5 (ax : Int) (ay : Int) (bx : Int) (b_y : Int) (cx : Int) (cy : Int) (n : Int) (wfn wfd wtn wtd : Int) (wo wu : Bool)   (hP0 : prfx ax ay = ax) (hP1 : prfy ax ay = ay) (hP2 : prfx bx b_y = bx) (hP3 : prfy bx b_y = b_y) (hP4 : prfx cx cy = cx) (hP5 : prfy cx cy = cy) (hP6 : cufn ax ay bx b_y cx cy n = 0) (hP7 : cufd ax ay bx b_y cx cy n = 0) (hP8 : cutn ax ay bx b_y cx cy n = 0) (hP9 : cutd ax ay bx b_y cx cy n = 0) (hP10 : cufo ax ay bx b_y cx cy n = false) (hP11 : cuto ax ay bx b_y cx cy n = false) (hP12 : cuk ax ay bx b_y cx cy n = false) (hP13 : pxM ax ay bx b_y cx cy n = false) (hP14 : psz n = true) (hP15 : rp cx cy = true) (hP16 : rp ax ay = true) (hP17 : rp bx b_y = true) (hRun : runF (PC ax ay bx b_y cx cy n) (Tq4 ax ay bx b_y cx cy n) CS0 = ⟨false, wfn, wfd, wtn, wtd, wo, wu⟩) (_iax : In64 ax) (_iay : In64 ay) (_ibx : In64 bx) (_ib_y : In64 b_y) (_icx : In64 cx) (_icy : In64 cy) (_in : In64 n)  (w : World)  :
    Calls Try.prog 5 #[.agg #[.int .i64 ax, .int .i64 ay, .int .i64 bx, .int .i64 b_y], .agg #[.int .i64 cx, .int .i64 cy], .int .i64 n] w fun e w' => e = .returned (.bool true) ∧ Below w.heap.size w w' := by

  have HP0 := Lib.hid hP0
  clear hP0
  have HP1 := Lib.hid hP1
  clear hP1
  have HP2 := Lib.hid hP2
  clear hP2
  have HP3 := Lib.hid hP3
  clear hP3
  have HP4 := Lib.hid hP4
  clear hP4
  have HP5 := Lib.hid hP5
  clear hP5
  have HP6 := Lib.hid hP6
  clear hP6
  have HP7 := Lib.hid hP7
  clear hP7
  have HP8 := Lib.hid hP8
  clear hP8
  have HP9 := Lib.hid hP9
  clear hP9
  have HP10 := Lib.hid hP10
  clear hP10
  have HP11 := Lib.hid hP11
  clear hP11
  have HP12 := Lib.hid hP12
  clear hP12
  have HP13 := Lib.hid hP13
  clear hP13
  have HP14 := Lib.hid hP14
  clear hP14
  have HP15 := Lib.hid hP15
  clear hP15
  have HP16 := Lib.hid hP16
  clear hP16
  have HP17 := Lib.hid hP17
  clear hP17
  have HRun := Lib.hid hRun
  clear hRun
  go_enter Try.func5, Try.ntmps5
  go_wp2_with fail
  first | refine calls_w ?_ | refine name_world ?_ | refine list_world ?_ | refine post_world ?_
  intro V1 hV1
  have hn : Below w.heap.size w V1 := by rw [hV1]; exact below_a2 _ _ _
  have nhb0 := hn
  have k1 : Blk V1 w.heap.size #[.int .i64 ax, .int .i64 ay, .int .i64 bx, .int .i64 b_y] 50 := by rw [hV1]; exact ((Blk.new _ _ _).alloc _)
  have k2 : Blk V1 (w.heap.size + 1) #[.int .i64 cx, .int .i64 cy] 24 := by rw [hV1]; exact (Blk.new1 _ _ _ _)
  clear hV1
  have hb0 := nhb0
  clear nhb0
  refine (cut_v ax ay bx b_y cx cy n 0 0 0 0 false false false HP6.out HP7.out HP8.out HP9.out HP10.out HP11.out HP12.out _iax _iay _ibx _ib_y _icx _icy _in _).mono ?_
  rintro e U2 ⟨rfl, hn⟩
  replace k1 := k1.of hn
  replace k2 := k2.of hn
  replace hb0 := hb0.trans (hn.mono hb0.size)
  clear hn
  go_wp2_with (first | ((with_reducible refine stRow (U2.heap.size) #[.int .u64 (wd0 0), .int .u64 (wd1 0), .int .u64 (wd2 0), .int .u64 (wd3 0), .int .u64 (wd0 0), .int .u64 (wd1 0), .int .u64 (wd2 0), .int .u64 (wd3 0), .int .u64 (wd0 0), .int .u64 (wd1 0), .int .u64 (wd2 0), .int .u64 (wd3 0), .int .u64 (wd0 0), .int .u64 (wd1 0), .int .u64 (wd2 0), .int .u64 (wd3 0), .bool false, .bool false] _ _ (Blk.new _ _ _) ?_ ?_ ?_ ?_ ?_ ?_); rfl; rfl; (as_aux_lemma => kernel_rfl); rfl; (as_aux_lemma => kernel_rfl); simp only [Act.put]))
  first | refine calls_w ?_ | refine name_world ?_ | refine list_world ?_ | refine post_world ?_
  intro V3 hV3
  rw [World.setRow_alloc_new] at hV3
  have D1 := Lib.hid k1.lt
  have D2 := Lib.hid k2.lt
  have D3 := Lib.hid hb0.size
  have hn : Below U2.heap.size U2 V3 := by rw [hV3]; exact below_a1 _ _
  have nk1 := k1.of hn
  have nk2 := k2.of hn
  have nhb0 := hb0.trans (hn.mono hb0.size)
  clear hn
  have k3 : Blk V3 U2.heap.size #[.int .u64 (wd0 0), .int .u64 (wd1 0), .int .u64 (wd2 0), .int .u64 (wd3 0), .int .u64 (wd0 0), .int .u64 (wd1 0), .int .u64 (wd2 0), .int .u64 (wd3 0), .int .u64 (wd0 0), .int .u64 (wd1 0), .int .u64 (wd2 0), .int .u64 (wd3 0), .int .u64 (wd0 0), .int .u64 (wd1 0), .int .u64 (wd2 0), .int .u64 (wd3 0), .bool false, .bool false] 54 := by rw [hV3]; exact (Blk.new _ _ _)
  clear k1 k2
  clear hb0
  clear hV3
  have k1 := nk1
  clear nk1
  have k2 := nk2
  clear nk2
  have hb0 := nhb0
  clear nhb0
  refine (p15size_is n true HP14.out _in  _).mono ?_
  rintro e U4 ⟨rfl, hn⟩
  replace k1 := k1.of hn
  replace k2 := k2.of hn
  replace k3 := k3.of hn
  replace hb0 := hb0.trans (hn.mono hb0.size)
  clear hn
  have c2_0 : U4.cell? ⟨(w.heap.size + 1), 0, none⟩ = some (.int .i64 cx) := k2.cell 0
  have c2_1 : U4.cell? ⟨(w.heap.size + 1), 1, none⟩ = some (.int .i64 cy) := k2.cell 1
  have l2 := k2.lt
  go_wp2_with fail
  clear c2_0 c2_1 l2
  refine (p15ref_is cx cy cx cy HP4.out HP5.out _icx _icy  _).mono ?_
  rintro e U5 ⟨rfl, hn⟩
  replace k1 := k1.of hn
  replace k2 := k2.of hn
  replace k3 := k3.of hn
  replace hb0 := hb0.trans (hn.mono hb0.size)
  clear hn
  go_wp2_with fail
  refine (rRight_v cx cy true HP15.out _).mono ?_
  rintro e U6 ⟨rfl, hn⟩
  replace k1 := k1.of hn
  replace k2 := k2.of hn
  replace k3 := k3.of hn
  replace hb0 := hb0.trans (hn.mono hb0.size)
  clear hn
  have c1_0 : U6.cell? ⟨w.heap.size, 0, none⟩ = some (.int .i64 ax) := k1.cell 0
  have c1_1 : U6.cell? ⟨w.heap.size, 1, none⟩ = some (.int .i64 ay) := k1.cell 1
  have l1 := k1.lt
  go_wp2_with fail
  clear c1_0 c1_1 l1
  refine (p15ref_is ax ay ax ay HP0.out HP1.out _iax _iay  _).mono ?_
  rintro e U7 ⟨rfl, hn⟩
  replace k1 := k1.of hn
  replace k2 := k2.of hn
  replace k3 := k3.of hn
  replace hb0 := hb0.trans (hn.mono hb0.size)
  clear hn
  go_wp2_with fail
  refine (rRight_v ax ay true HP16.out _).mono ?_
  rintro e U8 ⟨rfl, hn⟩
  replace k1 := k1.of hn
  replace k2 := k2.of hn
  replace k3 := k3.of hn
  replace hb0 := hb0.trans (hn.mono hb0.size)
  clear hn
  have c1_2 : U8.cell? ⟨w.heap.size, 2, none⟩ = some (.int .i64 bx) := k1.cell 2
  have c1_3 : U8.cell? ⟨w.heap.size, 3, none⟩ = some (.int .i64 b_y) := k1.cell 3
  have l1 := k1.lt
  go_wp2_with fail
  clear c1_2 c1_3 l1
  refine (p15ref_is bx b_y bx b_y HP2.out HP3.out _ibx _ib_y  _).mono ?_
  rintro e U9 ⟨rfl, hn⟩
  replace k1 := k1.of hn
  replace k2 := k2.of hn
  replace k3 := k3.of hn
  replace hb0 := hb0.trans (hn.mono hb0.size)
  clear hn
  go_wp2_with fail
  refine (rRight_v bx b_y true HP17.out _).mono ?_
  rintro e U10 ⟨rfl, hn⟩
  replace k1 := k1.of hn
  replace k2 := k2.of hn
  replace k3 := k3.of hn
  replace hb0 := hb0.trans (hn.mono hb0.size)
  clear hn
  go_wp2_with fail
  have c1_0 : U10.cell? ⟨w.heap.size, 0, none⟩ = some (.int .i64 ax) := k1.cell 0
  have c1_1 : U10.cell? ⟨w.heap.size, 1, none⟩ = some (.int .i64 ay) := k1.cell 1
  have c1_2 : U10.cell? ⟨w.heap.size, 2, none⟩ = some (.int .i64 bx) := k1.cell 2
  have c1_3 : U10.cell? ⟨w.heap.size, 3, none⟩ = some (.int .i64 b_y) := k1.cell 3
  have l1 := k1.lt
  have c2_0 : U10.cell? ⟨(w.heap.size + 1), 0, none⟩ = some (.int .i64 cx) := k2.cell 0
  have c2_1 : U10.cell? ⟨(w.heap.size + 1), 1, none⟩ = some (.int .i64 cy) := k2.cell 1
  have l2 := k2.lt
  have Kk1 := Lib.hid k1
  clear k1
  have Kk2 := Lib.hid k2
  clear k2
  have Kk3 := Lib.hid k3
  clear k3
  refine wp_region_float1 11 10 [(true, 0), (true, 1), (true, 3), (true, 4), (true, 6), (true, 8), (false, 2), (false, 5), (false, 7), (false, 9)] (by kernel_rfl) (by kernel_rfl) (fun _ _ d _ _ => by cases d <;> exact Iff.rfl) rfl rfl rfl alPcK_0 ?_
  have hb : Below U10.heap.size U10 U10.drew := (Below.refl _ _).drew
  iterate 6
    refine wpF_take rfl rfl ?_
    go_big_quiet_step (rfl)
    refine wpQuiet_nil ?_
  refine wpF_do rfl ?_
  intro w1 hg K hK
  replace hb := hb.trans (hg.mono hb.size)
  try replace HB1 := Lib.hid (HB1.out.of hg); try replace HB2 := Lib.hid (HB2.out.of hg); try replace HB3 := Lib.hid (HB3.out.of hg); try replace HB4 := Lib.hid (HB4.out.of hg)
  clear hg
  go_wp2_with ((first | (go_at_call 32; (with_reducible refine (p15ref_is ax ay ax ay HP0.out HP1.out _iax _iay  _).mono ?_); rintro e w2 ⟨rfl, hn⟩) | (go_at_call 32; (with_reducible refine (p15ref_is bx b_y bx b_y HP2.out HP3.out _ibx _ib_y  _).mono ?_); rintro e w2 ⟨rfl, hn⟩) | (go_at_call 32; (with_reducible refine (p15ref_is cx cy cx cy HP4.out HP5.out _icx _icy  _).mono ?_); rintro e w2 ⟨rfl, hn⟩)))
  refine hK.out _ _ hn ?_
  replace hb := hb.trans (hn.mono hb.size)
  clear hK K
  clear hn
  refine wpF_do rfl ?_
  intro w1 hg K hK
  replace hb := hb.trans (hg.mono hb.size)
  try replace HB1 := Lib.hid (HB1.out.of hg); try replace HB2 := Lib.hid (HB2.out.of hg); try replace HB3 := Lib.hid (HB3.out.of hg); try replace HB4 := Lib.hid (HB4.out.of hg)
  clear hg
  go_wp2_with ((first | (go_at_call 32; (with_reducible refine (p15ref_is ax ay ax ay HP0.out HP1.out _iax _iay  _).mono ?_); rintro e w2 ⟨rfl, hn⟩) | (go_at_call 32; (with_reducible refine (p15ref_is bx b_y bx b_y HP2.out HP3.out _ibx _ib_y  _).mono ?_); rintro e w2 ⟨rfl, hn⟩) | (go_at_call 32; (with_reducible refine (p15ref_is cx cy cx cy HP4.out HP5.out _icx _icy  _).mono ?_); rintro e w2 ⟨rfl, hn⟩)))
  refine hK.out _ _ hn ?_
  replace hb := hb.trans (hn.mono hb.size)
  clear hK K
  clear hn
  refine wpF_do rfl ?_
  intro w1 hg K hK
  replace hb := hb.trans (hg.mono hb.size)
  try replace HB1 := Lib.hid (HB1.out.of hg); try replace HB2 := Lib.hid (HB2.out.of hg); try replace HB3 := Lib.hid (HB3.out.of hg); try replace HB4 := Lib.hid (HB4.out.of hg)
  clear hg
  go_wp2_with ((first | (go_at_call 32; (with_reducible refine (p15ref_is ax ay ax ay HP0.out HP1.out _iax _iay  _).mono ?_); rintro e w2 ⟨rfl, hn⟩) | (go_at_call 32; (with_reducible refine (p15ref_is bx b_y bx b_y HP2.out HP3.out _ibx _ib_y  _).mono ?_); rintro e w2 ⟨rfl, hn⟩) | (go_at_call 32; (with_reducible refine (p15ref_is cx cy cx cy HP4.out HP5.out _icx _icy  _).mono ?_); rintro e w2 ⟨rfl, hn⟩)))
  refine hK.out _ _ hn ?_
  replace hb := hb.trans (hn.mono hb.size)
  clear hK K
  clear hn
  refine wpF_do rfl ?_
  intro w1 hg K hK
  replace hb := hb.trans (hg.mono hb.size)
  try replace HB1 := Lib.hid (HB1.out.of hg); try replace HB2 := Lib.hid (HB2.out.of hg); try replace HB3 := Lib.hid (HB3.out.of hg); try replace HB4 := Lib.hid (HB4.out.of hg)
  clear hg
  go_wp2_with ((go_at_call 35; (with_reducible refine (Cut15_v false wfn wfd wtn wtd wo wu HRun.out _iax _iay _ibx _ib_y _icx _icy _in _).mono ?_); rintro e w2 ⟨bn1, ba1, bl1, bc1, bn2, ba2, bl2, bc2, bn3, ba3, bl3, bc3, bn4, ba4, bl4, bc4, rfl, hbm0, hbm1, hbm2, hbm3, hn⟩; have HB1 := Lib.hid hbm0; have HB2 := Lib.hid hbm1; have HB3 := Lib.hid hbm2; have HB4 := Lib.hid hbm3; clear hbm0 hbm1 hbm2 hbm3))
  refine hK.out _ _ hn ?_
  replace hb := hb.trans (hn.mono hb.size)
  clear hK K
  clear hn
  refine wpF_nil ?_
  clear hb
  intro w1 hg hb b1 lb1 nb1
  replace HB1 := Lib.hid (HB1.out.of hg)
  replace HB2 := Lib.hid (HB2.out.of hg)
  replace HB3 := Lib.hid (HB3.out.of hg)
  replace HB4 := Lib.hid (HB4.out.of hg)
  clear hg
  simp only [Act.put, ptrTo, List.setIfInBounds_toArray, List.set_cons_succ, List.set_cons_zero]
  simp only [List.drop_succ_cons, List.drop_zero]
  clear c1_0 c1_1 c1_2 c1_3 l1 c2_0 c2_1 l2
  first | refine calls_w ?_ | refine name_world ?_ | refine list_world ?_ | refine post_world ?_
  intro U11 hU11
  subst hU11
  have D4 := Lib.hid Kk1.out.lt
  have D5 := Lib.hid Kk2.out.lt
  have D6 := Lib.hid Kk3.out.lt
  have D7 := Lib.hid hb0.size
  have k4 : Blk U11 b1 #[.bool false, .slice none 0 0, .bool false, .slice none 0 0, .bool false, .slice none 0 0, .bool false, .slice none 0 0, .bool false, .bool false, .bool false] 62 := nb1
  have k1 := Kk1.out.of hb
  clear Kk1
  have k2 := Kk2.out.of hb
  clear Kk2
  have k3 := Kk3.out.of hb
  clear Kk3
  have D8 := Lib.hid lb1
  clear nb1 lb1
  replace hb0 := hb0.trans (hb.mono hb0.size)
  clear hb
  generalize b1 = q4 at *
  have c1_0 : U11.cell? ⟨w.heap.size, 0, none⟩ = some (.int .i64 ax) := k1.cell 0
  have c1_1 : U11.cell? ⟨w.heap.size, 1, none⟩ = some (.int .i64 ay) := k1.cell 1
  have c1_2 : U11.cell? ⟨w.heap.size, 2, none⟩ = some (.int .i64 bx) := k1.cell 2
  have c1_3 : U11.cell? ⟨w.heap.size, 3, none⟩ = some (.int .i64 b_y) := k1.cell 3
  have l1 := k1.lt
  have c2_0 : U11.cell? ⟨(w.heap.size + 1), 0, none⟩ = some (.int .i64 cx) := k2.cell 0
  have c2_1 : U11.cell? ⟨(w.heap.size + 1), 1, none⟩ = some (.int .i64 cy) := k2.cell 1
  have l2 := k2.lt
  have c4_0 : U11.cell? ⟨q4, 0, none⟩ = some (.bool false) := k4.cell 0
  have c4_1 : U11.cell? ⟨q4, 1, none⟩ = some (.slice none 0 0) := k4.cell 1
  have c4_2 : U11.cell? ⟨q4, 2, none⟩ = some (.bool false) := k4.cell 2
  have c4_3 : U11.cell? ⟨q4, 3, none⟩ = some (.slice none 0 0) := k4.cell 3
  have c4_4 : U11.cell? ⟨q4, 4, none⟩ = some (.bool false) := k4.cell 4
  have c4_5 : U11.cell? ⟨q4, 5, none⟩ = some (.slice none 0 0) := k4.cell 5
  have c4_6 : U11.cell? ⟨q4, 6, none⟩ = some (.bool false) := k4.cell 6
  have c4_7 : U11.cell? ⟨q4, 7, none⟩ = some (.slice none 0 0) := k4.cell 7
  have c4_8 : U11.cell? ⟨q4, 8, none⟩ = some (.bool false) := k4.cell 8
  have c4_9 : U11.cell? ⟨q4, 9, none⟩ = some (.bool false) := k4.cell 9
  have c4_10 : U11.cell? ⟨q4, 10, none⟩ = some (.bool false) := k4.cell 10
  have f4_0 := k4.free 0
  have f4_1 := k4.free 1
  have f4_2 := k4.free 2
  have f4_3 := k4.free 3
  have f4_4 := k4.free 4
  have f4_5 := k4.free 5
  have f4_6 := k4.free 6
  have f4_7 := k4.free 7
  have f4_8 := k4.free 8
  have f4_9 := k4.free 9
  have f4_10 := k4.free 10
  have l4 := k4.lt
  have p1_4 : w.heap.size ≠ q4 := (by have := D4.out; have := D8.out; omega)
  have p2_4 : (w.heap.size + 1) ≠ q4 := (by have := D5.out; have := D8.out; omega)
  go_wp2_with (first | ((with_reducible refine ldRowG (U2.heap.size) #[.int .u64 (wd0 0), .int .u64 (wd1 0), .int .u64 (wd2 0), .int .u64 (wd3 0), .int .u64 (wd0 0), .int .u64 (wd1 0), .int .u64 (wd2 0), .int .u64 (wd3 0), .int .u64 (wd0 0), .int .u64 (wd1 0), .int .u64 (wd2 0), .int .u64 (wd3 0), .int .u64 (wd0 0), .int .u64 (wd1 0), .int .u64 (wd2 0), .int .u64 (wd3 0), .bool false, .bool false] _ (blk_setL k3 (by have := D6.out; have := D8.out; omega) 0 [.bool bn1, .slice ba1 bl1 bc1, .bool bn2, .slice ba2 bl2 bc2, .bool bn3, .slice ba3 bl3 bc3, .bool bn4, .slice ba4 bl4 bc4, .bool wo, .bool wu, .bool false]) ?_ ?_ ?_ ?_ ?_); (first | rfl | (simp [Region.wanted, yielded]; done)); rfl; exact ⟨_, rfl, rfl⟩; (as_aux_lemma => kernel_rfl); simp only [Act.put, List.setIfInBounds_toArray, List.set_cons_succ, List.set_cons_zero]) | ((with_reducible refine ldRow (U2.heap.size) #[.int .u64 (wd0 0), .int .u64 (wd1 0), .int .u64 (wd2 0), .int .u64 (wd3 0), .int .u64 (wd0 0), .int .u64 (wd1 0), .int .u64 (wd2 0), .int .u64 (wd3 0), .int .u64 (wd0 0), .int .u64 (wd1 0), .int .u64 (wd2 0), .int .u64 (wd3 0), .int .u64 (wd0 0), .int .u64 (wd1 0), .int .u64 (wd2 0), .int .u64 (wd3 0), .bool false, .bool false] _ (blk_setL k3 (by have := D6.out; have := D8.out; omega) 0 [.bool bn1, .slice ba1 bl1 bc1, .bool bn2, .slice ba2 bl2 bc2, .bool bn3, .slice ba3 bl3 bc3, .bool bn4, .slice ba4 bl4 bc4, .bool wo, .bool wu, .bool false]) ?_ ?_ ?_ ?_); rfl; exact ⟨_, rfl, rfl⟩; (as_aux_lemma => kernel_rfl); simp only [Act.put, List.setIfInBounds_toArray, List.set_cons_succ, List.set_cons_zero]))
  clear c1_0 c1_1 c1_2 c1_3 l1 c2_0 c2_1 l2 c4_0 c4_1 c4_2 c4_3 c4_4 c4_5 c4_6 c4_7 c4_8 c4_9 c4_10 f4_0 f4_1 f4_2 f4_3 f4_4 f4_5 f4_6 f4_7 f4_8 f4_9 f4_10 l4 p1_4 p2_4
  first | refine calls_w ?_ | refine name_world ?_ | refine list_world ?_ | refine post_world ?_
  intro V12 hV12
  have D9 := Lib.hid k1.lt
  have D10 := Lib.hid k2.lt
  have D11 := Lib.hid k3.lt
  have D12 := Lib.hid k4.lt
  have D13 := Lib.hid hb0.size
  have nk1 : Blk V12 w.heap.size #[.int .i64 ax, .int .i64 ay, .int .i64 bx, .int .i64 b_y] 50 := by rw [hV12]; exact (blk_setL k1 (by have := D4.out; have := D8.out; omega) 0 [.bool bn1, .slice ba1 bl1 bc1, .bool bn2, .slice ba2 bl2 bc2, .bool bn3, .slice ba3 bl3 bc3, .bool bn4, .slice ba4 bl4 bc4, .bool wo, .bool wu, .bool false])
  have nk2 : Blk V12 (w.heap.size + 1) #[.int .i64 cx, .int .i64 cy] 24 := by rw [hV12]; exact (blk_setL k2 (by have := D5.out; have := D8.out; omega) 0 [.bool bn1, .slice ba1 bl1 bc1, .bool bn2, .slice ba2 bl2 bc2, .bool bn3, .slice ba3 bl3 bc3, .bool bn4, .slice ba4 bl4 bc4, .bool wo, .bool wu, .bool false])
  have nk3 : Blk V12 U2.heap.size #[.int .u64 (wd0 0), .int .u64 (wd1 0), .int .u64 (wd2 0), .int .u64 (wd3 0), .int .u64 (wd0 0), .int .u64 (wd1 0), .int .u64 (wd2 0), .int .u64 (wd3 0), .int .u64 (wd0 0), .int .u64 (wd1 0), .int .u64 (wd2 0), .int .u64 (wd3 0), .int .u64 (wd0 0), .int .u64 (wd1 0), .int .u64 (wd2 0), .int .u64 (wd3 0), .bool false, .bool false] 54 := by rw [hV12]; exact (blk_setL k3 (by have := D6.out; have := D8.out; omega) 0 [.bool bn1, .slice ba1 bl1 bc1, .bool bn2, .slice ba2 bl2 bc2, .bool bn3, .slice ba3 bl3 bc3, .bool bn4, .slice ba4 bl4 bc4, .bool wo, .bool wu, .bool false])
  have nk4 : Blk V12 q4 #[.bool bn1, .slice ba1 bl1 bc1, .bool bn2, .slice ba2 bl2 bc2, .bool bn3, .slice ba3 bl3 bc3, .bool bn4, .slice ba4 bl4 bc4, .bool wo, .bool wu, .bool false] 62 := by rw [hV12]; exact (blk_full _ [.bool bn1, .slice ba1 bl1 bc1, .bool bn2, .slice ba2 bl2 bc2, .bool bn3, .slice ba3 bl3 bc3, .bool bn4, .slice ba4 bl4 bc4, .bool wo, .bool wu, .bool false] k4 rfl)
  have nhb0 : Below w.heap.size w V12 := by rw [hV12]; exact (blw_setL hb0 (by have := D7.out; have := D8.out; omega) 0 [.bool bn1, .slice ba1 bl1 bc1, .bool bn2, .slice ba2 bl2 bc2, .bool bn3, .slice ba3 bl3 bc3, .bool bn4, .slice ba4 bl4 bc4, .bool wo, .bool wu, .bool false])
  replace HB1 : Hid (Big V12 (.agg #[.bool bn1, .slice ba1 bl1 bc1]) wfn 18) := Lib.hid (by rw [hV12]; exact (big_setL HB1.out (Blk.cell k4 0) (fun _ h => by cases h) 0 [.bool bn1, .slice ba1 bl1 bc1, .bool bn2, .slice ba2 bl2 bc2, .bool bn3, .slice ba3 bl3 bc3, .bool bn4, .slice ba4 bl4 bc4, .bool wo, .bool wu, .bool false]))
  replace HB2 : Hid (Big V12 (.agg #[.bool bn2, .slice ba2 bl2 bc2]) wfd 18) := Lib.hid (by rw [hV12]; exact (big_setL HB2.out (Blk.cell k4 0) (fun _ h => by cases h) 0 [.bool bn1, .slice ba1 bl1 bc1, .bool bn2, .slice ba2 bl2 bc2, .bool bn3, .slice ba3 bl3 bc3, .bool bn4, .slice ba4 bl4 bc4, .bool wo, .bool wu, .bool false]))
  replace HB3 : Hid (Big V12 (.agg #[.bool bn3, .slice ba3 bl3 bc3]) wtn 18) := Lib.hid (by rw [hV12]; exact (big_setL HB3.out (Blk.cell k4 0) (fun _ h => by cases h) 0 [.bool bn1, .slice ba1 bl1 bc1, .bool bn2, .slice ba2 bl2 bc2, .bool bn3, .slice ba3 bl3 bc3, .bool bn4, .slice ba4 bl4 bc4, .bool wo, .bool wu, .bool false]))
  replace HB4 : Hid (Big V12 (.agg #[.bool bn4, .slice ba4 bl4 bc4]) wtd 18) := Lib.hid (by rw [hV12]; exact (big_setL HB4.out (Blk.cell k4 0) (fun _ h => by cases h) 0 [.bool bn1, .slice ba1 bl1 bc1, .bool bn2, .slice ba2 bl2 bc2, .bool bn3, .slice ba3 bl3 bc3, .bool bn4, .slice ba4 bl4 bc4, .bool wo, .bool wu, .bool false]))
  clear k1 k2 k3 k4
  clear hb0
  clear hV12
  have k1 := nk1
  clear nk1
  have k2 := nk2
  clear nk2
  have k3 := nk3
  clear nk3
  have k4 := nk4
  clear nk4
  have hb0 := nhb0
  clear nhb0
  refine (pxMt_is ax ay bx b_y cx cy n false HP13.out _iax _iay _ibx _ib_y _icx _icy _in  _).mono ?_
  rintro e U13 ⟨rfl, hn⟩
  replace k1 := k1.of hn
  replace k2 := k2.of hn
  replace k3 := k3.of hn
  replace k4 := k4.of hn
  replace HB1 := Lib.hid (HB1.out.of hn)
  replace HB2 := Lib.hid (HB2.out.of hn)
  replace HB3 := Lib.hid (HB3.out.of hn)
  replace HB4 := Lib.hid (HB4.out.of hn)
  replace hb0 := hb0.trans (hn.mono hb0.size)
  clear hn
  go_wp2_with fail
  refine (p15awake_any _).mono ?_
  rintro e U14 ⟨rfl, hn⟩
  replace k1 := k1.of hn
  replace k2 := k2.of hn
  replace k3 := k3.of hn
  replace k4 := k4.of hn
  replace HB1 := Lib.hid (HB1.out.of hn)
  replace HB2 := Lib.hid (HB2.out.of hn)
  replace HB3 := Lib.hid (HB3.out.of hn)
  replace HB4 := Lib.hid (HB4.out.of hn)
  replace hb0 := hb0.trans (hn.mono hb0.size)
  clear hn
  go_wp2
  first | go_ret | go_ret2
  exact ⟨by first | rfl | (simp; done) | (simp; assumption), hb0⟩
end Go.Proofs.Ytlcbomjdbdgbmaa

namespace Go.Proofs.Ytlcbomjdbdgbmaa
open Go.RowKit

theorem alPcL_0 : AllocRuns Try.prog 62 #[.bool false, .slice none 0 0, .bool false, .slice none 0 0, .bool false, .slice none 0 0, .bool false, .slice none 0 0, .bool false, .bool false, .bool false] := fun w => by kernel_rfl

set_option maxRecDepth 100000 in
set_option maxHeartbeats 4000000 in

theorem PCu_6 (ax : Int) (ay : Int) (bx : Int) (b_y : Int) (cx : Int) (cy : Int) (n : Int) (wfn wfd wtn wtd : Int) (xfn : Int) (xfd : Int) (xtn : Int) (xtd : Int) (xfo : Bool) (xto : Bool)   (hP0 : prfx ax ay = ax) (hP1 : prfy ax ay = ay) (hP2 : prfx bx b_y = bx) (hP3 : prfy bx b_y = b_y) (hP4 : prfx cx cy = cx) (hP5 : prfy cx cy = cy) (hP6 : cufn ax ay bx b_y cx cy n = xfn) (hP7 : cufd ax ay bx b_y cx cy n = xfd) (hP8 : cutn ax ay bx b_y cx cy n = xtn) (hP9 : cutd ax ay bx b_y cx cy n = xtd) (hP10 : cufo ax ay bx b_y cx cy n = xfo) (hP11 : cuto ax ay bx b_y cx cy n = xto) (hP12 : cuk ax ay bx b_y cx cy n = true) (hP13 : pxM ax ay bx b_y cx cy n = true) (hP14 : rtR xfn xfd = true) (hP15 : rtR xtn xtd = true) (hP16 : p15n xfn xfd = xfn) (hP17 : p15d xfn xfd = xfd) (hP18 : p15n xtn xtd = xtn) (hP19 : p15d xtn xtd = xtd) (hP20 : rrC xfn xfd wfn wfd = 0) (hP21 : rrC xtn xtd wtn wtd = 0) (hP22 : psz n = true) (hP23 : rp cx cy = true) (hP24 : rp ax ay = true) (hP25 : rp bx b_y = true) (_ixfn : InI xfn) (_ixfd : InI xfd) (_ixtn : InI xtn) (_ixtd : InI xtd) (hRun : runF (PC ax ay bx b_y cx cy n) (Tq4 ax ay bx b_y cx cy n) CS0 = ⟨true, wfn, wfd, wtn, wtd, xfo, xto⟩) (_iax : In64 ax) (_iay : In64 ay) (_ibx : In64 bx) (_ib_y : In64 b_y) (_icx : In64 cx) (_icy : In64 cy) (_in : In64 n)  (w : World)  :
    Calls Try.prog 5 #[.agg #[.int .i64 ax, .int .i64 ay, .int .i64 bx, .int .i64 b_y], .agg #[.int .i64 cx, .int .i64 cy], .int .i64 n] w fun e w' => e = .returned (.bool true) ∧ Below w.heap.size w w' := by

  have HP0 := Lib.hid hP0
  clear hP0
  have HP1 := Lib.hid hP1
  clear hP1
  have HP2 := Lib.hid hP2
  clear hP2
  have HP3 := Lib.hid hP3
  clear hP3
  have HP4 := Lib.hid hP4
  clear hP4
  have HP5 := Lib.hid hP5
  clear hP5
  have HP6 := Lib.hid hP6
  clear hP6
  have HP7 := Lib.hid hP7
  clear hP7
  have HP8 := Lib.hid hP8
  clear hP8
  have HP9 := Lib.hid hP9
  clear hP9
  have HP10 := Lib.hid hP10
  clear hP10
  have HP11 := Lib.hid hP11
  clear hP11
  have HP12 := Lib.hid hP12
  clear hP12
  have HP13 := Lib.hid hP13
  clear hP13
  have HP14 := Lib.hid hP14
  clear hP14
  have HP15 := Lib.hid hP15
  clear hP15
  have HP16 := Lib.hid hP16
  clear hP16
  have HP17 := Lib.hid hP17
  clear hP17
  have HP18 := Lib.hid hP18
  clear hP18
  have HP19 := Lib.hid hP19
  clear hP19
  have HP20 := Lib.hid hP20
  clear hP20
  have HP21 := Lib.hid hP21
  clear hP21
  have HP22 := Lib.hid hP22
  clear hP22
  have HP23 := Lib.hid hP23
  clear hP23
  have HP24 := Lib.hid hP24
  clear hP24
  have HP25 := Lib.hid hP25
  clear hP25
  have HRun := Lib.hid hRun
  clear hRun
  go_enter Try.func5, Try.ntmps5
  go_wp2_with fail
  first | refine calls_w ?_ | refine name_world ?_ | refine list_world ?_ | refine post_world ?_
  intro V1 hV1
  have hn : Below w.heap.size w V1 := by rw [hV1]; exact below_a2 _ _ _
  have nhb0 := hn
  have k1 : Blk V1 w.heap.size #[.int .i64 ax, .int .i64 ay, .int .i64 bx, .int .i64 b_y] 50 := by rw [hV1]; exact ((Blk.new _ _ _).alloc _)
  have k2 : Blk V1 (w.heap.size + 1) #[.int .i64 cx, .int .i64 cy] 24 := by rw [hV1]; exact (Blk.new1 _ _ _ _)
  clear hV1
  have hb0 := nhb0
  clear nhb0
  refine (cut_v ax ay bx b_y cx cy n xfn xfd xtn xtd xfo xto true HP6.out HP7.out HP8.out HP9.out HP10.out HP11.out HP12.out _iax _iay _ibx _ib_y _icx _icy _in _).mono ?_
  rintro e U2 ⟨rfl, hn⟩
  replace k1 := k1.of hn
  replace k2 := k2.of hn
  replace hb0 := hb0.trans (hn.mono hb0.size)
  clear hn
  go_wp2_with (first | ((with_reducible refine stRow (U2.heap.size) #[.int .u64 (wd0 xfn), .int .u64 (wd1 xfn), .int .u64 (wd2 xfn), .int .u64 (wd3 xfn), .int .u64 (wd0 xfd), .int .u64 (wd1 xfd), .int .u64 (wd2 xfd), .int .u64 (wd3 xfd), .int .u64 (wd0 xtn), .int .u64 (wd1 xtn), .int .u64 (wd2 xtn), .int .u64 (wd3 xtn), .int .u64 (wd0 xtd), .int .u64 (wd1 xtd), .int .u64 (wd2 xtd), .int .u64 (wd3 xtd), .bool xfo, .bool xto] _ _ (Blk.new _ _ _) ?_ ?_ ?_ ?_ ?_ ?_); rfl; rfl; (as_aux_lemma => kernel_rfl); rfl; (as_aux_lemma => kernel_rfl); simp only [Act.put]))
  first | refine calls_w ?_ | refine name_world ?_ | refine list_world ?_ | refine post_world ?_
  intro V3 hV3
  rw [World.setRow_alloc_new] at hV3
  have D1 := Lib.hid k1.lt
  have D2 := Lib.hid k2.lt
  have D3 := Lib.hid hb0.size
  have hn : Below U2.heap.size U2 V3 := by rw [hV3]; exact below_a1 _ _
  have nk1 := k1.of hn
  have nk2 := k2.of hn
  have nhb0 := hb0.trans (hn.mono hb0.size)
  clear hn
  have k3 : Blk V3 U2.heap.size #[.int .u64 (wd0 xfn), .int .u64 (wd1 xfn), .int .u64 (wd2 xfn), .int .u64 (wd3 xfn), .int .u64 (wd0 xfd), .int .u64 (wd1 xfd), .int .u64 (wd2 xfd), .int .u64 (wd3 xfd), .int .u64 (wd0 xtn), .int .u64 (wd1 xtn), .int .u64 (wd2 xtn), .int .u64 (wd3 xtn), .int .u64 (wd0 xtd), .int .u64 (wd1 xtd), .int .u64 (wd2 xtd), .int .u64 (wd3 xtd), .bool xfo, .bool xto] 54 := by rw [hV3]; exact (Blk.new _ _ _)
  clear k1 k2
  clear hb0
  clear hV3
  have k1 := nk1
  clear nk1
  have k2 := nk2
  clear nk2
  have hb0 := nhb0
  clear nhb0
  refine (p15size_is n true HP22.out _in  _).mono ?_
  rintro e U4 ⟨rfl, hn⟩
  replace k1 := k1.of hn
  replace k2 := k2.of hn
  replace k3 := k3.of hn
  replace hb0 := hb0.trans (hn.mono hb0.size)
  clear hn
  have c2_0 : U4.cell? ⟨(w.heap.size + 1), 0, none⟩ = some (.int .i64 cx) := k2.cell 0
  have c2_1 : U4.cell? ⟨(w.heap.size + 1), 1, none⟩ = some (.int .i64 cy) := k2.cell 1
  have l2 := k2.lt
  go_wp2_with fail
  clear c2_0 c2_1 l2
  refine (p15ref_is cx cy cx cy HP4.out HP5.out _icx _icy  _).mono ?_
  rintro e U5 ⟨rfl, hn⟩
  replace k1 := k1.of hn
  replace k2 := k2.of hn
  replace k3 := k3.of hn
  replace hb0 := hb0.trans (hn.mono hb0.size)
  clear hn
  go_wp2_with fail
  refine (rRight_v cx cy true HP23.out _).mono ?_
  rintro e U6 ⟨rfl, hn⟩
  replace k1 := k1.of hn
  replace k2 := k2.of hn
  replace k3 := k3.of hn
  replace hb0 := hb0.trans (hn.mono hb0.size)
  clear hn
  have c1_0 : U6.cell? ⟨w.heap.size, 0, none⟩ = some (.int .i64 ax) := k1.cell 0
  have c1_1 : U6.cell? ⟨w.heap.size, 1, none⟩ = some (.int .i64 ay) := k1.cell 1
  have l1 := k1.lt
  go_wp2_with fail
  clear c1_0 c1_1 l1
  refine (p15ref_is ax ay ax ay HP0.out HP1.out _iax _iay  _).mono ?_
  rintro e U7 ⟨rfl, hn⟩
  replace k1 := k1.of hn
  replace k2 := k2.of hn
  replace k3 := k3.of hn
  replace hb0 := hb0.trans (hn.mono hb0.size)
  clear hn
  go_wp2_with fail
  refine (rRight_v ax ay true HP24.out _).mono ?_
  rintro e U8 ⟨rfl, hn⟩
  replace k1 := k1.of hn
  replace k2 := k2.of hn
  replace k3 := k3.of hn
  replace hb0 := hb0.trans (hn.mono hb0.size)
  clear hn
  have c1_2 : U8.cell? ⟨w.heap.size, 2, none⟩ = some (.int .i64 bx) := k1.cell 2
  have c1_3 : U8.cell? ⟨w.heap.size, 3, none⟩ = some (.int .i64 b_y) := k1.cell 3
  have l1 := k1.lt
  go_wp2_with fail
  clear c1_2 c1_3 l1
  refine (p15ref_is bx b_y bx b_y HP2.out HP3.out _ibx _ib_y  _).mono ?_
  rintro e U9 ⟨rfl, hn⟩
  replace k1 := k1.of hn
  replace k2 := k2.of hn
  replace k3 := k3.of hn
  replace hb0 := hb0.trans (hn.mono hb0.size)
  clear hn
  go_wp2_with fail
  refine (rRight_v bx b_y true HP25.out _).mono ?_
  rintro e U10 ⟨rfl, hn⟩
  replace k1 := k1.of hn
  replace k2 := k2.of hn
  replace k3 := k3.of hn
  replace hb0 := hb0.trans (hn.mono hb0.size)
  clear hn
  go_wp2_with fail
  have c1_0 : U10.cell? ⟨w.heap.size, 0, none⟩ = some (.int .i64 ax) := k1.cell 0
  have c1_1 : U10.cell? ⟨w.heap.size, 1, none⟩ = some (.int .i64 ay) := k1.cell 1
  have c1_2 : U10.cell? ⟨w.heap.size, 2, none⟩ = some (.int .i64 bx) := k1.cell 2
  have c1_3 : U10.cell? ⟨w.heap.size, 3, none⟩ = some (.int .i64 b_y) := k1.cell 3
  have l1 := k1.lt
  have c2_0 : U10.cell? ⟨(w.heap.size + 1), 0, none⟩ = some (.int .i64 cx) := k2.cell 0
  have c2_1 : U10.cell? ⟨(w.heap.size + 1), 1, none⟩ = some (.int .i64 cy) := k2.cell 1
  have l2 := k2.lt
  have Kk1 := Lib.hid k1
  clear k1
  have Kk2 := Lib.hid k2
  clear k2
  have Kk3 := Lib.hid k3
  clear k3
  refine wp_region_float1 11 10 [(true, 0), (true, 1), (true, 3), (true, 4), (true, 6), (true, 8), (false, 2), (false, 5), (false, 7), (false, 9)] (by kernel_rfl) (by kernel_rfl) (fun _ _ d _ _ => by cases d <;> exact Iff.rfl) rfl rfl rfl alPcL_0 ?_
  have hb : Below U10.heap.size U10 U10.drew := (Below.refl _ _).drew
  iterate 6
    refine wpF_take rfl rfl ?_
    go_big_quiet_step (rfl)
    refine wpQuiet_nil ?_
  refine wpF_do rfl ?_
  intro w1 hg K hK
  replace hb := hb.trans (hg.mono hb.size)
  try replace HB1 := Lib.hid (HB1.out.of hg); try replace HB2 := Lib.hid (HB2.out.of hg); try replace HB3 := Lib.hid (HB3.out.of hg); try replace HB4 := Lib.hid (HB4.out.of hg)
  clear hg
  go_wp2_with ((first | (go_at_call 32; (with_reducible refine (p15ref_is ax ay ax ay HP0.out HP1.out _iax _iay  _).mono ?_); rintro e w2 ⟨rfl, hn⟩) | (go_at_call 32; (with_reducible refine (p15ref_is bx b_y bx b_y HP2.out HP3.out _ibx _ib_y  _).mono ?_); rintro e w2 ⟨rfl, hn⟩) | (go_at_call 32; (with_reducible refine (p15ref_is cx cy cx cy HP4.out HP5.out _icx _icy  _).mono ?_); rintro e w2 ⟨rfl, hn⟩)))
  refine hK.out _ _ hn ?_
  replace hb := hb.trans (hn.mono hb.size)
  clear hK K
  clear hn
  refine wpF_do rfl ?_
  intro w1 hg K hK
  replace hb := hb.trans (hg.mono hb.size)
  try replace HB1 := Lib.hid (HB1.out.of hg); try replace HB2 := Lib.hid (HB2.out.of hg); try replace HB3 := Lib.hid (HB3.out.of hg); try replace HB4 := Lib.hid (HB4.out.of hg)
  clear hg
  go_wp2_with ((first | (go_at_call 32; (with_reducible refine (p15ref_is ax ay ax ay HP0.out HP1.out _iax _iay  _).mono ?_); rintro e w2 ⟨rfl, hn⟩) | (go_at_call 32; (with_reducible refine (p15ref_is bx b_y bx b_y HP2.out HP3.out _ibx _ib_y  _).mono ?_); rintro e w2 ⟨rfl, hn⟩) | (go_at_call 32; (with_reducible refine (p15ref_is cx cy cx cy HP4.out HP5.out _icx _icy  _).mono ?_); rintro e w2 ⟨rfl, hn⟩)))
  refine hK.out _ _ hn ?_
  replace hb := hb.trans (hn.mono hb.size)
  clear hK K
  clear hn
  refine wpF_do rfl ?_
  intro w1 hg K hK
  replace hb := hb.trans (hg.mono hb.size)
  try replace HB1 := Lib.hid (HB1.out.of hg); try replace HB2 := Lib.hid (HB2.out.of hg); try replace HB3 := Lib.hid (HB3.out.of hg); try replace HB4 := Lib.hid (HB4.out.of hg)
  clear hg
  go_wp2_with ((first | (go_at_call 32; (with_reducible refine (p15ref_is ax ay ax ay HP0.out HP1.out _iax _iay  _).mono ?_); rintro e w2 ⟨rfl, hn⟩) | (go_at_call 32; (with_reducible refine (p15ref_is bx b_y bx b_y HP2.out HP3.out _ibx _ib_y  _).mono ?_); rintro e w2 ⟨rfl, hn⟩) | (go_at_call 32; (with_reducible refine (p15ref_is cx cy cx cy HP4.out HP5.out _icx _icy  _).mono ?_); rintro e w2 ⟨rfl, hn⟩)))
  refine hK.out _ _ hn ?_
  replace hb := hb.trans (hn.mono hb.size)
  clear hK K
  clear hn
  refine wpF_do rfl ?_
  intro w1 hg K hK
  replace hb := hb.trans (hg.mono hb.size)
  try replace HB1 := Lib.hid (HB1.out.of hg); try replace HB2 := Lib.hid (HB2.out.of hg); try replace HB3 := Lib.hid (HB3.out.of hg); try replace HB4 := Lib.hid (HB4.out.of hg)
  clear hg
  go_wp2_with ((go_at_call 35; (with_reducible refine (Cut15_v true wfn wfd wtn wtd xfo xto HRun.out _iax _iay _ibx _ib_y _icx _icy _in _).mono ?_); rintro e w2 ⟨bn1, ba1, bl1, bc1, bn2, ba2, bl2, bc2, bn3, ba3, bl3, bc3, bn4, ba4, bl4, bc4, rfl, hbm0, hbm1, hbm2, hbm3, hn⟩; have HB1 := Lib.hid hbm0; have HB2 := Lib.hid hbm1; have HB3 := Lib.hid hbm2; have HB4 := Lib.hid hbm3; clear hbm0 hbm1 hbm2 hbm3))
  refine hK.out _ _ hn ?_
  replace hb := hb.trans (hn.mono hb.size)
  clear hK K
  clear hn
  refine wpF_nil ?_
  clear hb
  intro w1 hg hb b1 lb1 nb1
  replace HB1 := Lib.hid (HB1.out.of hg)
  replace HB2 := Lib.hid (HB2.out.of hg)
  replace HB3 := Lib.hid (HB3.out.of hg)
  replace HB4 := Lib.hid (HB4.out.of hg)
  clear hg
  simp only [Act.put, ptrTo, List.setIfInBounds_toArray, List.set_cons_succ, List.set_cons_zero]
  simp only [List.drop_succ_cons, List.drop_zero]
  clear c1_0 c1_1 c1_2 c1_3 l1 c2_0 c2_1 l2
  first | refine calls_w ?_ | refine name_world ?_ | refine list_world ?_ | refine post_world ?_
  intro U11 hU11
  subst hU11
  have D4 := Lib.hid Kk1.out.lt
  have D5 := Lib.hid Kk2.out.lt
  have D6 := Lib.hid Kk3.out.lt
  have D7 := Lib.hid hb0.size
  have k4 : Blk U11 b1 #[.bool false, .slice none 0 0, .bool false, .slice none 0 0, .bool false, .slice none 0 0, .bool false, .slice none 0 0, .bool false, .bool false, .bool false] 62 := nb1
  have k1 := Kk1.out.of hb
  clear Kk1
  have k2 := Kk2.out.of hb
  clear Kk2
  have k3 := Kk3.out.of hb
  clear Kk3
  have D8 := Lib.hid lb1
  clear nb1 lb1
  replace hb0 := hb0.trans (hb.mono hb0.size)
  clear hb
  generalize b1 = q4 at *
  have c1_0 : U11.cell? ⟨w.heap.size, 0, none⟩ = some (.int .i64 ax) := k1.cell 0
  have c1_1 : U11.cell? ⟨w.heap.size, 1, none⟩ = some (.int .i64 ay) := k1.cell 1
  have c1_2 : U11.cell? ⟨w.heap.size, 2, none⟩ = some (.int .i64 bx) := k1.cell 2
  have c1_3 : U11.cell? ⟨w.heap.size, 3, none⟩ = some (.int .i64 b_y) := k1.cell 3
  have l1 := k1.lt
  have c2_0 : U11.cell? ⟨(w.heap.size + 1), 0, none⟩ = some (.int .i64 cx) := k2.cell 0
  have c2_1 : U11.cell? ⟨(w.heap.size + 1), 1, none⟩ = some (.int .i64 cy) := k2.cell 1
  have l2 := k2.lt
  have c4_0 : U11.cell? ⟨q4, 0, none⟩ = some (.bool false) := k4.cell 0
  have c4_1 : U11.cell? ⟨q4, 1, none⟩ = some (.slice none 0 0) := k4.cell 1
  have c4_2 : U11.cell? ⟨q4, 2, none⟩ = some (.bool false) := k4.cell 2
  have c4_3 : U11.cell? ⟨q4, 3, none⟩ = some (.slice none 0 0) := k4.cell 3
  have c4_4 : U11.cell? ⟨q4, 4, none⟩ = some (.bool false) := k4.cell 4
  have c4_5 : U11.cell? ⟨q4, 5, none⟩ = some (.slice none 0 0) := k4.cell 5
  have c4_6 : U11.cell? ⟨q4, 6, none⟩ = some (.bool false) := k4.cell 6
  have c4_7 : U11.cell? ⟨q4, 7, none⟩ = some (.slice none 0 0) := k4.cell 7
  have c4_8 : U11.cell? ⟨q4, 8, none⟩ = some (.bool false) := k4.cell 8
  have c4_9 : U11.cell? ⟨q4, 9, none⟩ = some (.bool false) := k4.cell 9
  have c4_10 : U11.cell? ⟨q4, 10, none⟩ = some (.bool false) := k4.cell 10
  have f4_0 := k4.free 0
  have f4_1 := k4.free 1
  have f4_2 := k4.free 2
  have f4_3 := k4.free 3
  have f4_4 := k4.free 4
  have f4_5 := k4.free 5
  have f4_6 := k4.free 6
  have f4_7 := k4.free 7
  have f4_8 := k4.free 8
  have f4_9 := k4.free 9
  have f4_10 := k4.free 10
  have l4 := k4.lt
  have p1_4 : w.heap.size ≠ q4 := (by have := D4.out; have := D8.out; omega)
  have p2_4 : (w.heap.size + 1) ≠ q4 := (by have := D5.out; have := D8.out; omega)
  go_wp2_with fail
  clear c1_0 c1_1 c1_2 c1_3 l1 c2_0 c2_1 l2 c4_0 c4_1 c4_2 c4_3 c4_4 c4_5 c4_6 c4_7 c4_8 c4_9 c4_10 f4_0 f4_1 f4_2 f4_3 f4_4 f4_5 f4_6 f4_7 f4_8 f4_9 f4_10 l4 p1_4 p2_4
  first | refine calls_w ?_ | refine name_world ?_ | refine list_world ?_ | refine post_world ?_
  intro V12 hV12
  clear k1 k2
  have D9 := Lib.hid k3.lt
  have D10 := Lib.hid k4.lt
  have D11 := Lib.hid hb0.size
  have nk3 : Blk V12 U2.heap.size #[.int .u64 (wd0 xfn), .int .u64 (wd1 xfn), .int .u64 (wd2 xfn), .int .u64 (wd3 xfn), .int .u64 (wd0 xfd), .int .u64 (wd1 xfd), .int .u64 (wd2 xfd), .int .u64 (wd3 xfd), .int .u64 (wd0 xtn), .int .u64 (wd1 xtn), .int .u64 (wd2 xtn), .int .u64 (wd3 xtn), .int .u64 (wd0 xtd), .int .u64 (wd1 xtd), .int .u64 (wd2 xtd), .int .u64 (wd3 xtd), .bool xfo, .bool xto] 54 := by rw [hV12]; exact (blk_setL k3 (by have := D6.out; have := D8.out; omega) 0 [.bool bn1, .slice ba1 bl1 bc1, .bool bn2, .slice ba2 bl2 bc2, .bool bn3, .slice ba3 bl3 bc3, .bool bn4, .slice ba4 bl4 bc4, .bool xfo, .bool xto, .bool true])
  have nk4 : Blk V12 q4 #[.bool bn1, .slice ba1 bl1 bc1, .bool bn2, .slice ba2 bl2 bc2, .bool bn3, .slice ba3 bl3 bc3, .bool bn4, .slice ba4 bl4 bc4, .bool xfo, .bool xto, .bool true] 62 := by rw [hV12]; exact (blk_full _ [.bool bn1, .slice ba1 bl1 bc1, .bool bn2, .slice ba2 bl2 bc2, .bool bn3, .slice ba3 bl3 bc3, .bool bn4, .slice ba4 bl4 bc4, .bool xfo, .bool xto, .bool true] k4 rfl)
  have nhb0 : Below w.heap.size w V12 := by rw [hV12]; exact (blw_setL hb0 (by have := D7.out; have := D8.out; omega) 0 [.bool bn1, .slice ba1 bl1 bc1, .bool bn2, .slice ba2 bl2 bc2, .bool bn3, .slice ba3 bl3 bc3, .bool bn4, .slice ba4 bl4 bc4, .bool xfo, .bool xto, .bool true])
  replace HB1 : Hid (Big V12 (.agg #[.bool bn1, .slice ba1 bl1 bc1]) wfn 18) := Lib.hid (by rw [hV12]; exact (big_setL HB1.out (Blk.cell k4 0) (fun _ h => by cases h) 0 [.bool bn1, .slice ba1 bl1 bc1, .bool bn2, .slice ba2 bl2 bc2, .bool bn3, .slice ba3 bl3 bc3, .bool bn4, .slice ba4 bl4 bc4, .bool xfo, .bool xto, .bool true]))
  replace HB2 : Hid (Big V12 (.agg #[.bool bn2, .slice ba2 bl2 bc2]) wfd 18) := Lib.hid (by rw [hV12]; exact (big_setL HB2.out (Blk.cell k4 0) (fun _ h => by cases h) 0 [.bool bn1, .slice ba1 bl1 bc1, .bool bn2, .slice ba2 bl2 bc2, .bool bn3, .slice ba3 bl3 bc3, .bool bn4, .slice ba4 bl4 bc4, .bool xfo, .bool xto, .bool true]))
  replace HB3 : Hid (Big V12 (.agg #[.bool bn3, .slice ba3 bl3 bc3]) wtn 18) := Lib.hid (by rw [hV12]; exact (big_setL HB3.out (Blk.cell k4 0) (fun _ h => by cases h) 0 [.bool bn1, .slice ba1 bl1 bc1, .bool bn2, .slice ba2 bl2 bc2, .bool bn3, .slice ba3 bl3 bc3, .bool bn4, .slice ba4 bl4 bc4, .bool xfo, .bool xto, .bool true]))
  replace HB4 : Hid (Big V12 (.agg #[.bool bn4, .slice ba4 bl4 bc4]) wtd 18) := Lib.hid (by rw [hV12]; exact (big_setL HB4.out (Blk.cell k4 0) (fun _ h => by cases h) 0 [.bool bn1, .slice ba1 bl1 bc1, .bool bn2, .slice ba2 bl2 bc2, .bool bn3, .slice ba3 bl3 bc3, .bool bn4, .slice ba4 bl4 bc4, .bool xfo, .bool xto, .bool true]))
  clear k3 k4
  clear hb0
  clear hV12
  have k3 := nk3
  clear nk3
  have k4 := nk4
  clear nk4
  have hb0 := nhb0
  clear nhb0
  refine (pxMt_is ax ay bx b_y cx cy n true HP13.out _iax _iay _ibx _ib_y _icx _icy _in  _).mono ?_
  rintro e U13 ⟨rfl, hn⟩
  replace k3 := k3.of hn
  replace k4 := k4.of hn
  replace HB1 := Lib.hid (HB1.out.of hn)
  replace HB2 := Lib.hid (HB2.out.of hn)
  replace HB3 := Lib.hid (HB3.out.of hn)
  replace HB4 := Lib.hid (HB4.out.of hn)
  replace hb0 := hb0.trans (hn.mono hb0.size)
  clear hn
  have c3_0 : U13.cell? ⟨U2.heap.size, 0, none⟩ = some (.int .u64 (wd0 xfn)) := k3.cell 0
  have c3_1 : U13.cell? ⟨U2.heap.size, 1, none⟩ = some (.int .u64 (wd1 xfn)) := k3.cell 1
  have c3_2 : U13.cell? ⟨U2.heap.size, 2, none⟩ = some (.int .u64 (wd2 xfn)) := k3.cell 2
  have c3_3 : U13.cell? ⟨U2.heap.size, 3, none⟩ = some (.int .u64 (wd3 xfn)) := k3.cell 3
  have c3_4 : U13.cell? ⟨U2.heap.size, 4, none⟩ = some (.int .u64 (wd0 xfd)) := k3.cell 4
  have c3_5 : U13.cell? ⟨U2.heap.size, 5, none⟩ = some (.int .u64 (wd1 xfd)) := k3.cell 5
  have c3_6 : U13.cell? ⟨U2.heap.size, 6, none⟩ = some (.int .u64 (wd2 xfd)) := k3.cell 6
  have c3_7 : U13.cell? ⟨U2.heap.size, 7, none⟩ = some (.int .u64 (wd3 xfd)) := k3.cell 7
  have l3 := k3.lt
  go_wp2_with fail
  clear c3_0 c3_1 c3_2 c3_3 c3_4 c3_5 c3_6 c3_7 l3
  refine (rtR_is xfn xfd true HP14.out _ixfn _ixfd  _).mono ?_
  rintro e U14 ⟨rfl, hn⟩
  replace k3 := k3.of hn
  replace k4 := k4.of hn
  replace HB1 := Lib.hid (HB1.out.of hn)
  replace HB2 := Lib.hid (HB2.out.of hn)
  replace HB3 := Lib.hid (HB3.out.of hn)
  replace HB4 := Lib.hid (HB4.out.of hn)
  replace hb0 := hb0.trans (hn.mono hb0.size)
  clear hn
  have c3_8 : U14.cell? ⟨U2.heap.size, 8, none⟩ = some (.int .u64 (wd0 xtn)) := k3.cell 8
  have c3_9 : U14.cell? ⟨U2.heap.size, 9, none⟩ = some (.int .u64 (wd1 xtn)) := k3.cell 9
  have c3_10 : U14.cell? ⟨U2.heap.size, 10, none⟩ = some (.int .u64 (wd2 xtn)) := k3.cell 10
  have c3_11 : U14.cell? ⟨U2.heap.size, 11, none⟩ = some (.int .u64 (wd3 xtn)) := k3.cell 11
  have c3_12 : U14.cell? ⟨U2.heap.size, 12, none⟩ = some (.int .u64 (wd0 xtd)) := k3.cell 12
  have c3_13 : U14.cell? ⟨U2.heap.size, 13, none⟩ = some (.int .u64 (wd1 xtd)) := k3.cell 13
  have c3_14 : U14.cell? ⟨U2.heap.size, 14, none⟩ = some (.int .u64 (wd2 xtd)) := k3.cell 14
  have c3_15 : U14.cell? ⟨U2.heap.size, 15, none⟩ = some (.int .u64 (wd3 xtd)) := k3.cell 15
  have l3 := k3.lt
  go_wp2_with fail
  clear c3_8 c3_9 c3_10 c3_11 c3_12 c3_13 c3_14 c3_15 l3
  refine (rtR_is xtn xtd true HP15.out _ixtn _ixtd  _).mono ?_
  rintro e U15 ⟨rfl, hn⟩
  replace k3 := k3.of hn
  replace k4 := k4.of hn
  replace HB1 := Lib.hid (HB1.out.of hn)
  replace HB2 := Lib.hid (HB2.out.of hn)
  replace HB3 := Lib.hid (HB3.out.of hn)
  replace HB4 := Lib.hid (HB4.out.of hn)
  replace hb0 := hb0.trans (hn.mono hb0.size)
  clear hn
  go_wp2_with fail
  have c3_0 : U15.cell? ⟨U2.heap.size, 0, none⟩ = some (.int .u64 (wd0 xfn)) := k3.cell 0
  have c3_1 : U15.cell? ⟨U2.heap.size, 1, none⟩ = some (.int .u64 (wd1 xfn)) := k3.cell 1
  have c3_2 : U15.cell? ⟨U2.heap.size, 2, none⟩ = some (.int .u64 (wd2 xfn)) := k3.cell 2
  have c3_3 : U15.cell? ⟨U2.heap.size, 3, none⟩ = some (.int .u64 (wd3 xfn)) := k3.cell 3
  have c3_4 : U15.cell? ⟨U2.heap.size, 4, none⟩ = some (.int .u64 (wd0 xfd)) := k3.cell 4
  have c3_5 : U15.cell? ⟨U2.heap.size, 5, none⟩ = some (.int .u64 (wd1 xfd)) := k3.cell 5
  have c3_6 : U15.cell? ⟨U2.heap.size, 6, none⟩ = some (.int .u64 (wd2 xfd)) := k3.cell 6
  have c3_7 : U15.cell? ⟨U2.heap.size, 7, none⟩ = some (.int .u64 (wd3 xfd)) := k3.cell 7
  have c3_8 : U15.cell? ⟨U2.heap.size, 8, none⟩ = some (.int .u64 (wd0 xtn)) := k3.cell 8
  have c3_9 : U15.cell? ⟨U2.heap.size, 9, none⟩ = some (.int .u64 (wd1 xtn)) := k3.cell 9
  have c3_10 : U15.cell? ⟨U2.heap.size, 10, none⟩ = some (.int .u64 (wd2 xtn)) := k3.cell 10
  have c3_11 : U15.cell? ⟨U2.heap.size, 11, none⟩ = some (.int .u64 (wd3 xtn)) := k3.cell 11
  have c3_12 : U15.cell? ⟨U2.heap.size, 12, none⟩ = some (.int .u64 (wd0 xtd)) := k3.cell 12
  have c3_13 : U15.cell? ⟨U2.heap.size, 13, none⟩ = some (.int .u64 (wd1 xtd)) := k3.cell 13
  have c3_14 : U15.cell? ⟨U2.heap.size, 14, none⟩ = some (.int .u64 (wd2 xtd)) := k3.cell 14
  have c3_15 : U15.cell? ⟨U2.heap.size, 15, none⟩ = some (.int .u64 (wd3 xtd)) := k3.cell 15
  have c3_16 : U15.cell? ⟨U2.heap.size, 16, none⟩ = some (.bool xfo) := k3.cell 16
  have c3_17 : U15.cell? ⟨U2.heap.size, 17, none⟩ = some (.bool xto) := k3.cell 17
  have l3 := k3.lt
  have c4_0 : U15.cell? ⟨q4, 0, none⟩ = some (.bool bn1) := k4.cell 0
  have c4_1 : U15.cell? ⟨q4, 1, none⟩ = some (.slice ba1 bl1 bc1) := k4.cell 1
  have c4_2 : U15.cell? ⟨q4, 2, none⟩ = some (.bool bn2) := k4.cell 2
  have c4_3 : U15.cell? ⟨q4, 3, none⟩ = some (.slice ba2 bl2 bc2) := k4.cell 3
  have c4_4 : U15.cell? ⟨q4, 4, none⟩ = some (.bool bn3) := k4.cell 4
  have c4_5 : U15.cell? ⟨q4, 5, none⟩ = some (.slice ba3 bl3 bc3) := k4.cell 5
  have c4_6 : U15.cell? ⟨q4, 6, none⟩ = some (.bool bn4) := k4.cell 6
  have c4_7 : U15.cell? ⟨q4, 7, none⟩ = some (.slice ba4 bl4 bc4) := k4.cell 7
  have c4_8 : U15.cell? ⟨q4, 8, none⟩ = some (.bool xfo) := k4.cell 8
  have c4_9 : U15.cell? ⟨q4, 9, none⟩ = some (.bool xto) := k4.cell 9
  have l4 := k4.lt
  have Kk3 := Lib.hid k3
  clear k3
  have Kk4 := Lib.hid k4
  clear k4
  refine wp_region_up U15.heap.size 28 [(true, 0), (true, 1), (true, 3), (true, 4), (false, 2), (false, 5), (true, 6), (true, 7), (true, 8), (true, 9), (true, 11), (true, 12), (false, 10), (false, 13), (true, 14), (true, 15), (true, 16), (true, 17), (true, 18), (true, 19), (true, 20), (true, 21), (true, 22), (true, 23), (true, 24), (true, 25), (true, 26), (true, 27)] (by kernel_rfl) (by kernel_rfl) (fun _ _ d _ _ h => by cases d <;> exact h) ?_
  have hb : Below U15.heap.size U15 U15.drew := (Below.refl _ _).drew
  iterate 4
    refine wpS_takeL rfl rfl ?_
    go_big_quiet_step (rfl)
    refine wpQuiet_nil ?_
  refine wpS_doL rfl ?_
  intro K hK
  go_wp2_with ((first | (go_at_call 38; (with_reducible refine (p15rat_is xfn xfd xfn xfd HP16.out HP17.out _ixfn _ixfd  _).mono ?_); rintro e w2 ⟨bn5, ba5, bl5, bc5, bn6, ba6, bl6, bc6, rfl, hbm5, hbm6, hn⟩; have HB5 := Lib.hid hbm5; have HB6 := Lib.hid hbm6; clear hbm5 hbm6) | (go_at_call 38; (with_reducible refine (p15rat_is xtn xtd xtn xtd HP18.out HP19.out _ixtn _ixtd  _).mono ?_); rintro e w2 ⟨bn7, ba7, bl7, bc7, bn8, ba8, bl8, bc8, rfl, hbm7, hbm8, hn⟩; replace HB5 := Lib.hid (HB5.out.of hn); replace HB6 := Lib.hid (HB6.out.of hn); have HB7 := Lib.hid hbm7; have HB8 := Lib.hid hbm8; clear hbm7 hbm8)))
  replace hb := hb.trans (hn.mono hb.size)
  refine hK.out _ _ (up_iff.2 hb) ?_
  clear hK K
  clear hn
  refine wpS_doL rfl ?_
  intro K hK
  go_wp2_with ((first | (go_at_call 37; (with_reducible refine (rrC_is xfn xfd wfn wfd 0 HP20.out  bn5 ba5 bl5 bc5 bn6 ba6 bl6 bc6 bn1 ba1 bl1 bc1 bn2 ba2 bl2 bc2 _ HB5.out HB6.out (HB1.out.of hb) (HB2.out.of hb)).mono ?_); rintro e w2 ⟨rfl, hn⟩; replace HB5 := Lib.hid (HB5.out.of hn); replace HB6 := Lib.hid (HB6.out.of hn)) | (go_at_call 37; (with_reducible refine (rrC_is xtn xtd wtn wtd 0 HP21.out  bn7 ba7 bl7 bc7 bn8 ba8 bl8 bc8 bn3 ba3 bl3 bc3 bn4 ba4 bl4 bc4 _ HB7.out HB8.out (HB3.out.of hb) (HB4.out.of hb)).mono ?_); rintro e w2 ⟨rfl, hn⟩; replace HB5 := Lib.hid (HB5.out.of hn); replace HB6 := Lib.hid (HB6.out.of hn); replace HB7 := Lib.hid (HB7.out.of hn); replace HB8 := Lib.hid (HB8.out.of hn))))
  replace hb := hb.trans (hn.mono hb.size)
  refine hK.out _ _ (up_iff.2 hb) ?_
  clear hK K
  clear hn
  iterate 6
    refine wpS_takeL rfl rfl ?_
    go_big_quiet_step (rfl)
    refine wpQuiet_nil ?_
  refine wpS_doL rfl ?_
  intro K hK
  go_wp2_with ((first | (go_at_call 38; (with_reducible refine (p15rat_is xfn xfd xfn xfd HP16.out HP17.out _ixfn _ixfd  _).mono ?_); rintro e w2 ⟨bn5, ba5, bl5, bc5, bn6, ba6, bl6, bc6, rfl, hbm5, hbm6, hn⟩; have HB5 := Lib.hid hbm5; have HB6 := Lib.hid hbm6; clear hbm5 hbm6) | (go_at_call 38; (with_reducible refine (p15rat_is xtn xtd xtn xtd HP18.out HP19.out _ixtn _ixtd  _).mono ?_); rintro e w2 ⟨bn7, ba7, bl7, bc7, bn8, ba8, bl8, bc8, rfl, hbm7, hbm8, hn⟩; replace HB5 := Lib.hid (HB5.out.of hn); replace HB6 := Lib.hid (HB6.out.of hn); have HB7 := Lib.hid hbm7; have HB8 := Lib.hid hbm8; clear hbm7 hbm8)))
  try replace hb := hb.trans (hn.mono hb.size)
  refine hK.out _ _ (up_iff.2 hb) ?_
  clear hK K
  try clear hn
  refine wpS_doL rfl ?_
  intro K hK
  go_wp2_with ((first | (go_at_call 37; (with_reducible refine (rrC_is xfn xfd wfn wfd 0 HP20.out  bn5 ba5 bl5 bc5 bn6 ba6 bl6 bc6 bn1 ba1 bl1 bc1 bn2 ba2 bl2 bc2 _ HB5.out HB6.out (HB1.out.of hb) (HB2.out.of hb)).mono ?_); rintro e w2 ⟨rfl, hn⟩; replace HB5 := Lib.hid (HB5.out.of hn); replace HB6 := Lib.hid (HB6.out.of hn)) | (go_at_call 37; (with_reducible refine (rrC_is xtn xtd wtn wtd 0 HP21.out  bn7 ba7 bl7 bc7 bn8 ba8 bl8 bc8 bn3 ba3 bl3 bc3 bn4 ba4 bl4 bc4 _ HB7.out HB8.out (HB3.out.of hb) (HB4.out.of hb)).mono ?_); rintro e w2 ⟨rfl, hn⟩; replace HB5 := Lib.hid (HB5.out.of hn); replace HB6 := Lib.hid (HB6.out.of hn); replace HB7 := Lib.hid (HB7.out.of hn); replace HB8 := Lib.hid (HB8.out.of hn))))
  try replace hb := hb.trans (hn.mono hb.size)
  refine hK.out _ _ (up_iff.2 hb) ?_
  clear hK K
  try clear hn
  iterate 14
    refine wpS_takeL rfl rfl ?_
    go_big_quiet_step (rfl)
    refine wpQuiet_nil ?_
  refine wpS_nil ?_
  simp only [List.drop_succ_cons, List.drop_zero]
  first | refine calls_w ?_ | refine name_world ?_ | refine list_world ?_ | refine post_world ?_
  intro U16 hU16
  first | (subst hU16; have u_ := U16; clear u_) | (rw [← hU16] at hb; clear hU16)
  clear c3_0 c3_1 c3_2 c3_3 c3_4 c3_5 c3_6 c3_7 c3_8 c3_9 c3_10 c3_11 c3_12 c3_13 c3_14 c3_15 c3_16 c3_17 l3 c4_0 c4_1 c4_2 c4_3 c4_4 c4_5 c4_6 c4_7 c4_8 c4_9 l4
  have k3 := Kk3.out.of hb
  clear Kk3
  have k4 := Kk4.out.of hb
  clear Kk4
  replace HB1 := Lib.hid (HB1.out.of hb)
  replace HB2 := Lib.hid (HB2.out.of hb)
  replace HB3 := Lib.hid (HB3.out.of hb)
  replace HB4 := Lib.hid (HB4.out.of hb)
  replace hb0 := hb0.trans (hb.mono hb0.size)
  clear hb
  go_wp2_with fail
  refine (p15awake_any _).mono ?_
  rintro e U17 ⟨rfl, hn⟩
  clear HB1 HB2 HB3 HB4 HB5 HB6 HB7 HB8
  clear k3 k4
  replace hb0 := hb0.trans (hn.mono hb0.size)
  clear hn
  go_wp2
  first | go_ret | go_ret2
  exact ⟨by first | rfl | (simp; done) | (simp; assumption), hb0⟩
end Go.Proofs.Ytlcbomjdbdgbmaa

namespace Go.Proofs.Ytlcbomjdbdgbmaa
open Go.RowKit

theorem cond_pair {P : Int → Int → Prop} {k : Bool} {x fn y fd : Int} (h1 : P x y) (h2 : P fn fd) : P (bif k then x else fn) (bif k then y else fd) := by cases k <;> assumption
theorem ba_cand {fn fd tn td a b c d : Int} (fo to : Bool) (hB : BdB a b c d) :
    ((bafn fn fd tn td fo to a b c d = fn ∧ bafd fn fd tn td fo to a b c d = fd) ∨ Edg b (c - 2 * a) (bafn fn fd tn td fo to a b c d) (bafd fn fd tn td fo to a b c d) ∨ Edg b (d - 2 * a) (bafn fn fd tn td fo to a b c d) (bafd fn fd tn td fo to a b c d)) ∧
    ((batn fn fd tn td fo to a b c d = tn ∧ batd fn fd tn td fo to a b c d = td) ∨ Edg b (c - 2 * a) (batn fn fd tn td fo to a b c d) (batd fn fd tn td fo to a b c d) ∨ Edg b (d - 2 * a) (batn fn fd tn td fo to a b c d) (batd fn fd tn td fo to a b c d)) := by
  obtain ⟨h1, h2, h3, h4, h5, h6, h7, h8⟩ := hB
  have ea : wrap64 (2 * a) = 2 * a := w64_id (by omega) (by omega)
  have eb : wrap64 (2 * b) = 2 * b := w64_id (by omega) (by omega)
  have en : wrap64 (-(2 * b)) = -(2 * b) := w64_id (by omega) (by omega)
  have e1 : wrap64 (c - 2 * a) = c - 2 * a := w64_id (by omega) (by omega)
  have e2 : wrap64 (d - 2 * a) = d - 2 * a := w64_id (by omega) (by omega)
  have e3 : wrap64 (2 * a - c) = 2 * a - c := w64_id (by omega) (by omega)
  have e4 : wrap64 (2 * a - d) = 2 * a - d := w64_id (by omega) (by omega)
  unfold bafn bafd batn batd pxbn pxbd
  rw [ea, eb, en, e1, e2, e3, e4]
  rcases Int.lt_trichotomy b 0 with hb | hb | hb
  · rw [decide_eq_false (by omega : ¬ 0 < 2 * b), decide_eq_true (by omega : 2 * b < 0)]
    simp only [cond_false, cond_true, tofn, tofd, totn, totd, frfn, frfd, frtn, frtd]
    have xc : Edg b (c - 2 * a) (2 * a - c) (-(2 * b)) := ⟨by omega, by unfold edN; rw [if_pos hb]; omega, by unfold edD; rw [if_pos hb]⟩
    have xd : Edg b (d - 2 * a) (2 * a - d) (-(2 * b)) := ⟨by omega, by unfold edN; rw [if_pos hb]; omega, by unfold edD; rw [if_pos hb]⟩
    exact ⟨cond_pair (P := fun x y => (x = fn ∧ y = fd) ∨ Edg b (c - 2 * a) x y ∨ Edg b (d - 2 * a) x y) (.inr (.inr xd)) (.inl ⟨rfl, rfl⟩), cond_pair (P := fun x y => (x = tn ∧ y = td) ∨ Edg b (c - 2 * a) x y ∨ Edg b (d - 2 * a) x y) (.inr (.inl xc)) (.inl ⟨rfl, rfl⟩)⟩
  · subst hb
    simp only [Int.mul_zero, Int.lt_irrefl, decide_false, cond_false]
    exact ⟨.inl ⟨trivial, trivial⟩, .inl ⟨trivial, trivial⟩⟩
  · rw [decide_eq_true (by omega : 0 < 2 * b)]
    simp only [cond_true, tofn, tofd, totn, totd, frfn, frfd, frtn, frtd]
    have xc : Edg b (c - 2 * a) (c - 2 * a) (2 * b) := ⟨by omega, by unfold edN; rw [if_neg (by omega)], by unfold edD; rw [if_neg (by omega)]⟩
    have xd : Edg b (d - 2 * a) (d - 2 * a) (2 * b) := ⟨by omega, by unfold edN; rw [if_neg (by omega)], by unfold edD; rw [if_neg (by omega)]⟩
    exact ⟨cond_pair (P := fun x y => (x = fn ∧ y = fd) ∨ Edg b (c - 2 * a) x y ∨ Edg b (d - 2 * a) x y) (.inr (.inl xc)) (.inl ⟨rfl, rfl⟩), cond_pair (P := fun x y => (x = tn ∧ y = td) ∨ Edg b (c - 2 * a) x y ∨ Edg b (d - 2 * a) x y) (.inr (.inr xd)) (.inl ⟨rfl, rfl⟩)⟩
/-- the ways of a right segment and a right cell -/
def vW (ax ay bx b_y cx cy n : Int) : Ways := ⟨bx - ax, b_y - ay, 2 * cx * n - n - 2 * ax, 2 * cx * n + n - 2 * ax, 2 * cy * n - n - 2 * ay, 2 * cy * n + n - 2 * ay⟩
theorem cu_cand {ax ay bx b_y cx cy n : Int} (hn : pxS n = true) (hs : sgR ax ay bx b_y = true) (hc : rp cx cy = true) (hk : cuk ax ay bx b_y cx cy n = true) :
    (vW ax ay bx b_y cx cy n).Cand (cufn ax ay bx b_y cx cy n) (cufd ax ay bx b_y cx cy n) ∧ (vW ax ay bx b_y cx cy n).Cand (cutn ax ay bx b_y cx cy n) (cutd ax ay bx b_y cx cy n) := by
  have hn' := (pxS_iff n).1 hn
  have hs' := (sgR_iff _ _ _ _).1 hs
  have ha := (rp_iff _ _).1 hs'.1
  have hb := (rp_iff _ _).1 hs'.2
  have hc' := (rp_iff _ _).1 hc
  obtain ⟨x1, x2, x3, x4⟩ := cuL_eq hc'.1 hn'
  obtain ⟨y1, y2, y3, y4⟩ := cuL_eq hc'.2 hn'
  have wx : wrap64 (bx - ax) = bx - ax := w64_id (by omega) (by omega)
  have wy : wrap64 (b_y - ay) = b_y - ay := w64_id (by omega) (by omega)
  have s1 := @ba_cand 0 1 1 1 ax (bx - ax) (2 * cx * n - n) (2 * cx * n + n) false false ⟨by omega, by omega, by omega, by omega, by omega, by omega, by omega, by omega⟩
  have s2 := @ba_cand (c1fn ax bx cx n) (c1fd ax bx cx n) (c1tn ax bx cx n) (c1td ax bx cx n) ay (b_y - ay) (2 * cy * n - n) (2 * cy * n + n) (c1fo ax bx cx n) (c1to ax bx cx n) ⟨by omega, by omega, by omega, by omega, by omega, by omega, by omega, by omega⟩
  have e1 : bafn 0 1 1 1 false false ax (bx - ax) (2 * cx * n - n) (2 * cx * n + n) = c1fn ax bx cx n := by unfold c1fn; rw [wx, x1, x2]
  have e2 : bafd 0 1 1 1 false false ax (bx - ax) (2 * cx * n - n) (2 * cx * n + n) = c1fd ax bx cx n := by unfold c1fd; rw [wx, x1, x2]
  have e3 : batn 0 1 1 1 false false ax (bx - ax) (2 * cx * n - n) (2 * cx * n + n) = c1tn ax bx cx n := by unfold c1tn; rw [wx, x1, x2]
  have e4 : batd 0 1 1 1 false false ax (bx - ax) (2 * cx * n - n) (2 * cx * n + n) = c1td ax bx cx n := by unfold c1td; rw [wx, x1, x2]
  rw [e1, e2, e3, e4] at s1
  have f1 : bafn (c1fn ax bx cx n) (c1fd ax bx cx n) (c1tn ax bx cx n) (c1td ax bx cx n) (c1fo ax bx cx n) (c1to ax bx cx n) ay (b_y - ay) (2 * cy * n - n) (2 * cy * n + n) = cufn ax ay bx b_y cx cy n := by unfold cufn; rw [hk, ← wy, ← y1, ← y2]; rfl
  have f2 : bafd (c1fn ax bx cx n) (c1fd ax bx cx n) (c1tn ax bx cx n) (c1td ax bx cx n) (c1fo ax bx cx n) (c1to ax bx cx n) ay (b_y - ay) (2 * cy * n - n) (2 * cy * n + n) = cufd ax ay bx b_y cx cy n := by unfold cufd; rw [hk, ← wy, ← y1, ← y2]; rfl
  have f3 : batn (c1fn ax bx cx n) (c1fd ax bx cx n) (c1tn ax bx cx n) (c1td ax bx cx n) (c1fo ax bx cx n) (c1to ax bx cx n) ay (b_y - ay) (2 * cy * n - n) (2 * cy * n + n) = cutn ax ay bx b_y cx cy n := by unfold cutn; rw [hk, ← wy, ← y1, ← y2]; rfl
  have f4 : batd (c1fn ax bx cx n) (c1fd ax bx cx n) (c1tn ax bx cx n) (c1td ax bx cx n) (c1fo ax bx cx n) (c1to ax bx cx n) ay (b_y - ay) (2 * cy * n - n) (2 * cy * n + n) = cutd ax ay bx b_y cx cy n := by unfold cutd; rw [hk, ← wy, ← y1, ← y2]; rfl
  rw [f1, f2, f3, f4] at s2
  generalize cufn ax ay bx b_y cx cy n = N at *
  generalize cufd ax ay bx b_y cx cy n = D at *
  generalize cutn ax ay bx b_y cx cy n = N2 at *
  generalize cutd ax ay bx b_y cx cy n = D2 at *
  constructor
  · rcases s2.1 with ⟨rfl, rfl⟩ | h | h
    · rcases s1.1 with ⟨h1, h2⟩ | h | h
      · exact .inl ⟨h1, h2⟩
      · exact .inr (.inr (.inl h))
      · exact .inr (.inr (.inr (.inl h)))
    · exact .inr (.inr (.inr (.inr (.inl h))))
    · exact .inr (.inr (.inr (.inr (.inr h))))
  · rcases s2.2 with ⟨rfl, rfl⟩ | h | h
    · rcases s1.2 with ⟨h1, h2⟩ | h | h
      · exact .inr (.inl ⟨h1, h2⟩)
      · exact .inr (.inr (.inl h))
      · exact .inr (.inr (.inr (.inl h)))
    · exact .inr (.inr (.inr (.inr (.inl h))))
    · exact .inr (.inr (.inr (.inr (.inr h))))
theorem tsG_F {w g : Int} {l : List (Int × Int)} (e : wrap64 (2 * w) = 2 * w) : tsG w g l = tsF w g l := by
  have e1 : gN w (2 * w) = edD w := rfl
  unfold tsG tsF
  rw [e, e1]; rfl
theorem tq_ts {ax ay bx b_y cx cy n : Int} (hn : pxS n = true) (hs : sgR ax ay bx b_y = true) (hc : rp cx cy = true) : Tq4 ax ay bx b_y cx cy n = (vW ax ay bx b_y cx cy n).ts := by
  have hn' := (pxS_iff n).1 hn
  have hs' := (sgR_iff _ _ _ _).1 hs
  have ha := (rp_iff _ _).1 hs'.1
  have hb := (rp_iff _ _).1 hs'.2
  have hc' := (rp_iff _ _).1 hc
  obtain ⟨x1, x2, x3, x4⟩ := cuL_eq hc'.1 hn'
  obtain ⟨y1, y2, y3, y4⟩ := cuL_eq hc'.2 hn'
  unfold cuL at x1 y1
  unfold cuH at x2 y2
  have wx : wrap64 (bx - ax) = bx - ax := w64_id (by omega) (by omega)
  have wy : wrap64 (b_y - ay) = b_y - ay := w64_id (by omega) (by omega)
  have ea : wrap64 (2 * ax) = 2 * ax := w64_id (by omega) (by omega)
  have eb : wrap64 (2 * ay) = 2 * ay := w64_id (by omega) (by omega)
  have g1 : wrap64 (2 * cx * n - n - 2 * ax) = 2 * cx * n - n - 2 * ax := w64_id (by omega) (by omega)
  have g2 : wrap64 (2 * cx * n + n - 2 * ax) = 2 * cx * n + n - 2 * ax := w64_id (by omega) (by omega)
  have g3 : wrap64 (2 * cy * n - n - 2 * ay) = 2 * cy * n - n - 2 * ay := w64_id (by omega) (by omega)
  have g4 : wrap64 (2 * cy * n + n - 2 * ay) = 2 * cy * n + n - 2 * ay := w64_id (by omega) (by omega)
  unfold Tq4 Tq3 Tq2 Tq1 Tq0
  rw [x1, x2, y1, y2, wx, wy, ea, eb, g1, g2, g3, g4]
  have hx : wrap64 (2 * (bx - ax)) = 2 * (bx - ax) := w64_id (by omega) (by omega)
  have hy : wrap64 (2 * (b_y - ay)) = 2 * (b_y - ay) := w64_id (by omega) (by omega)
  rw [tsG_F hx, tsG_F hx, tsG_F hy, tsG_F hy]; rfl
theorem cmpI_ge0 (x y : Int) : decide (0 ≤ cmpI x y) = decide (y ≤ x) := by
  rcases cmpI_cases x y with ⟨h, e⟩ | ⟨h, e⟩ | ⟨h, e⟩ <;> rw [e]
  · rw [decide_eq_false (by omega), decide_eq_false (by omega)]
  · rw [decide_eq_true (by omega), decide_eq_true (by omega)]
  · rw [decide_eq_true (by omega), decide_eq_true (by omega)]
theorem cmpI_lt0 (x y : Int) : decide (cmpI x y < 0) = decide (x < y) := by
  rcases cmpI_cases x y with ⟨h, e⟩ | ⟨h, e⟩ | ⟨h, e⟩ <;> rw [e]
  · rw [decide_eq_true (by omega), decide_eq_true (by omega)]
  · rw [decide_eq_false (by omega), decide_eq_false (by omega)]
  · rw [decide_eq_false (by omega), decide_eq_false (by omega)]
theorem rinsL_iff {a b c n p q : Int} (e : wrap64 (2 * c) = 2 * c) : rinsL (a * q + b * p) q c n = true ↔ inB a b (2 * c * n - n) (2 * c * n + n) p q := by
  unfold rinsL inB
  rw [e, cmpI_ge0, cmpI_lt0]
  have g1 : a * q + b * p + (a * q + b * p) = 2 * a * q + 2 * b * p := by grind
  have g2 : 2 * c * n * q - n * q = (2 * c * n - n) * q := by grind
  have g3 : 2 * c * n * q + n * q = (2 * c * n + n) * q := by grind
  rw [g1, g2, g3]
  constructor
  · intro h
    cases k : decide ((2 * c * n - n) * q ≤ 2 * a * q + 2 * b * p)
    · rw [k] at h; simp at h
    · rw [k] at h
      exact ⟨of_decide_eq_true k, of_decide_eq_true h⟩
  · rintro ⟨h, k⟩
    rw [decide_eq_true h, decide_eq_true k]; rfl
theorem PC_iff {ax ay bx b_y cx cy n p q : Int} (hs : sgR ax ay bx b_y = true) (hc : rp cx cy = true) (h0 : 0 ≤ p) (h1 : p ≤ q) : PC ax ay bx b_y cx cy n p q = true ↔ inCC ax ay bx b_y cx cy n p q := by
  have hs' := (sgR_iff _ _ _ _).1 hs
  have ha := (rp_iff _ _).1 hs'.1
  have hb := (rp_iff _ _).1 hs'.2
  have hc' := (rp_iff _ _).1 hc
  have wx : wrap64 (bx - ax) = bx - ax := w64_id (by omega) (by omega)
  have wy : wrap64 (b_y - ay) = b_y - ay := w64_id (by omega) (by omega)
  have ea : wrap64 (2 * cx) = 2 * cx := w64_id (by omega) (by omega)
  have eb : wrap64 (2 * cy) = 2 * cy := w64_id (by omega) (by omega)
  have k1 := @rinsL_iff ax (bx - ax) cx n p q ea
  have k2 := @rinsL_iff ay (b_y - ay) cy n p q eb
  unfold PC rin15L a15X a15Y a15W inCC
  rw [wx, wy]
  constructor
  · intro h
    cases k : rinsL (ax * q + (bx - ax) * p) q cx n
    · rw [k] at h; simp at h
    · rw [k] at h
      exact ⟨⟨h0, h1⟩, k1.1 k, k2.1 h⟩
  · rintro ⟨_, h, k⟩
    rw [k1.2 h]; exact k2.2 k
theorem in01 {ax ay bx b_y cx cy n p q : Int} (h : inCC ax ay bx b_y cx cy n p q) : 0 ≤ p ∧ p ≤ q := h.1
/-- what gromaref15.Cut answers, where the way meets -/
theorem cut_yes {ax ay bx b_y cx cy n : Int} (hn : pxS n = true) (hs : sgR ax ay bx b_y = true) (hc : rp cx cy = true) (hk : cuk ax ay bx b_y cx cy n = true) :
    ∃ wfn wfd wtn wtd, runF (PC ax ay bx b_y cx cy n) (Tq4 ax ay bx b_y cx cy n) CS0 = ⟨true, wfn, wfd, wtn, wtd, cufo ax ay bx b_y cx cy n, cuto ax ay bx b_y cx cy n⟩ ∧
      cmpI (cufn ax ay bx b_y cx cy n * wfd) (wfn * cufd ax ay bx b_y cx cy n) = 0 ∧ cmpI (cutn ax ay bx b_y cx cy n * wtd) (wtn * cutd ax ay bx b_y cx cy n) = 0 := by
  obtain ⟨hB, hE, hI⟩ := (cu_sp hn hs hc).1 hk
  obtain ⟨c1, c2⟩ := cu_cand hn hs hc hk
  obtain ⟨r1, r2, r3, r4, r5⟩ := ref_some (P := PC ax ay bx b_y cx cy n) c1 c2 hE (fun p q hq h0 h1 => (PC_iff hs hc h0 h1).trans (hI p q hq).symm) (fun p q hq h => in01 ((hI p q hq).1 h))
  rw [← tq_ts hn hs hc] at r1 r2 r3 r4 r5
  exact ⟨_, _, _, _, by rw [← r1, ← r2, ← r3], r4, r5⟩
theorem cut_no {ax ay bx b_y cx cy n : Int} (hn : pxS n = true) (hs : sgR ax ay bx b_y = true) (hc : rp cx cy = true) (hk : cuk ax ay bx b_y cx cy n = false) :
    ∃ wfn wfd wtn wtd o u, runF (PC ax ay bx b_y cx cy n) (Tq4 ax ay bx b_y cx cy n) CS0 = ⟨false, wfn, wfd, wtn, wtd, o, u⟩ := by
  have hI := (cu_sp hn hs hc).2 hk
  have r := ref_none (v := vW ax ay bx b_y cx cy n) (P := PC ax ay bx b_y cx cy n) (fun p q hq h0 h1 => by
    cases k : PC ax ay bx b_y cx cy n p q
    · rfl
    · exact absurd ((PC_iff hs hc h0 h1).1 k) (hI p q hq))
  rw [← tq_ts hn hs hc] at r
  exact ⟨_, _, _, _, _, _, by rw [← r]⟩
end Go.Proofs.Ytlcbomjdbdgbmaa

namespace Go.Proofs.Ytlcbomjdbdgbmaa
open Go.RowKit

theorem cu_off {ax ay bx b_y cx cy n : Int} (h : cuk ax ay bx b_y cx cy n = false) : cufn ax ay bx b_y cx cy n = 0 ∧ cufd ax ay bx b_y cx cy n = 0 ∧ cutn ax ay bx b_y cx cy n = 0 ∧ cutd ax ay bx b_y cx cy n = 0 ∧ cufo ax ay bx b_y cx cy n = false ∧ cuto ax ay bx b_y cx cy n = false ∧ pxM ax ay bx b_y cx cy n = false := by
  unfold cufn cufd cutn cutd cufo cuto pxM
  rw [h]
  exact ⟨rfl, rfl, rfl, rfl, rfl, rfl, rfl⟩
theorem cuk_no {ax ay bx b_y cx cy n : Int} (h : pxS n = false ∨ sgR ax ay bx b_y = false ∨ rp cx cy = false) : cuk ax ay bx b_y cx cy n = false := by
  unfold cuk
  cases h1 : pxS n <;> cases h2 : sgR ax ay bx b_y <;> cases h3 : rp cx cy <;> first | rfl | (rw [h1, h2, h3] at h; simp at h)
theorem PCu_any (ax ay bx b_y cx cy n : Int) (iax : In64 ax) (iay : In64 ay) (ibx : In64 bx) (ib_y : In64 b_y) (icx : In64 cx) (icy : In64 cy) (i_n : In64 n) (w : World) :
    Calls Try.prog 5 #[.agg #[.int .i64 ax, .int .i64 ay, .int .i64 bx, .int .i64 b_y], .agg #[.int .i64 cx, .int .i64 cy], .int .i64 n] w fun e w' => e = .returned (.bool true) ∧ Below w.heap.size w w' := by
  cases hs : psz n
  · have hk : cuk ax ay bx b_y cx cy n = false := cuk_no (.inl hs)
    obtain ⟨e1, e2, e3, e4, e5, e6, e7⟩ := cu_off hk
    exact PCu_1 ax ay bx b_y cx cy n rfl rfl rfl rfl rfl rfl e1 e2 e3 e4 e5 e6 hk e7 hs iax iay ibx ib_y icx icy i_n w
  cases hc : rp cx cy
  · have hk : cuk ax ay bx b_y cx cy n = false := cuk_no (.inr (.inr hc))
    obtain ⟨e1, e2, e3, e4, e5, e6, e7⟩ := cu_off hk
    exact PCu_2 ax ay bx b_y cx cy n rfl rfl rfl rfl rfl rfl e1 e2 e3 e4 e5 e6 hk e7 hs hc iax iay ibx ib_y icx icy i_n w
  cases ha : rp ax ay
  · have hk : cuk ax ay bx b_y cx cy n = false := cuk_no (.inr (.inl (by unfold sgR; rw [ha]; rfl)))
    obtain ⟨e1, e2, e3, e4, e5, e6, e7⟩ := cu_off hk
    exact PCu_3 ax ay bx b_y cx cy n rfl rfl rfl rfl rfl rfl e1 e2 e3 e4 e5 e6 hk e7 hs hc ha iax iay ibx ib_y icx icy i_n w
  cases hb : rp bx b_y
  · have hk : cuk ax ay bx b_y cx cy n = false := cuk_no (.inr (.inl (by unfold sgR; rw [ha, hb]; rfl)))
    obtain ⟨e1, e2, e3, e4, e5, e6, e7⟩ := cu_off hk
    exact PCu_4 ax ay bx b_y cx cy n rfl rfl rfl rfl rfl rfl e1 e2 e3 e4 e5 e6 hk e7 hs hc ha hb iax iay ibx ib_y icx icy i_n w
  have hS : pxS n = true := hs
  have hG : sgR ax ay bx b_y = true := (sgR_iff _ _ _ _).2 ⟨ha, hb⟩
  cases hk : cuk ax ay bx b_y cx cy n
  · obtain ⟨e1, e2, e3, e4, e5, e6, e7⟩ := cu_off hk
    obtain ⟨wfn, wfd, wtn, wtd, o, u, hR⟩ := cut_no hS hG hc hk
    exact PCu_5 ax ay bx b_y cx cy n wfn wfd wtn wtd o u rfl rfl rfl rfl rfl rfl e1 e2 e3 e4 e5 e6 hk e7 hs hc ha hb hR iax iay ibx ib_y icx icy i_n w
  · obtain ⟨wfn, wfd, wtn, wtd, hR, r1, r2⟩ := cut_yes hS hG hc hk
    obtain ⟨⟨b1, b2⟩, _, _⟩ := (cu_sp hS hG hc).1 hk
    have s1 : rtR (cufn ax ay bx b_y cx cy n) (cufd ax ay bx b_y cx cy n) = true := decide_eq_true (by rw [Int.sign_eq_one_of_pos b1.2.2.1]; decide)
    have s2 : rtR (cutn ax ay bx b_y cx cy n) (cutd ax ay bx b_y cx cy n) = true := decide_eq_true (by rw [Int.sign_eq_one_of_pos b2.2.2.1]; decide)
    exact PCu_6 ax ay bx b_y cx cy n wfn wfd wtn wtd _ _ _ _ _ _ rfl rfl rfl rfl rfl rfl rfl rfl rfl rfl rfl rfl hk hk s1 s2 rfl rfl rfl rfl r1 r2 hs hc ha hb
      (cufn_in _ _ _ _ _ _ _ iax iay ibx ib_y icx icy i_n) (cufd_in _ _ _ _ _ _ _ iax iay ibx ib_y icx icy i_n) (cutn_in _ _ _ _ _ _ _ iax iay ibx ib_y icx icy i_n) (cutd_in _ _ _ _ _ _ _ iax iay ibx ib_y icx icy i_n) hR iax iay ibx ib_y icx icy i_n w
end Go.Proofs.Ytlcbomjdbdgbmaa

namespace Go.Proofs.Ytlcbomjdbdgbmaa
open Go.ChangeShapes Go.WideShapes Go.ChangeAt Go.RowKit Go.Joins
section
variable {H : Type} {enc : TypeId × Value → H} {w : World} {base : Nat} {spare : Nat → Bool} {held : Bool}
set_option maxRecDepth 100000 in
theorem open_seg {r : Reach} {b0 : Nat} {v : Value} {d : DataW H} {p : List MemPlace} (hv : Value.okWide Try.prog w r b0 50 v) (h : DataW.Trod enc Try.prog w base spare held 50 v d p) :
    ∃ a b c d, In64 a ∧ In64 b ∧ In64 c ∧ In64 d ∧ v = .agg #[.int .i64 a, .int .i64 b, .int .i64 c, .int .i64 d] := by
  obtain ⟨cs, rfl, hsz⟩ := okWide_struct Try.underlying50 hv
  have hC : Try.prog.cellsOf 50 = 4 := by kernel_rfl
  obtain ⟨l⟩ := cs
  match l, hsz.trans hC with
  | [c0, c1, c2, c3], _ =>
    obtain ⟨fuel, hf⟩ := h
    obtain ⟨xs, k, _, hx, _, hlen, hg⟩ := DataW.trod_struct Try.underlying50 hf
    have hC2 : Try.prog.cellsOf 24 = 2 := by kernel_rfl
    match xs, hlen with
    | [y0, y1], _ =>
      have g0 := hg 0 _ rfl
      have g1 := hg 1 _ rfl
      simp [Value.cells, hC2] at g0 g1
      obtain ⟨a, b, ia, ib, rfl, rfl⟩ := open_pt2 g0
      obtain ⟨c, d, ic, id, rfl, rfl⟩ := open_pt2 g1
      exact ⟨a, b, c, d, ia, ib, ic, id, rfl⟩
end
end Go.Proofs.Ytlcbomjdbdgbmaa

namespace Go.Proofs.Ytlcbomjdbdgbmaa
open Go.ChangeShapes Go.WideShapes Go.ChangeAt Go.RowKit

set_option maxRecDepth 100000 in
set_option maxHeartbeats 1000000 in
theorem pixelCuts_lifted (os : Os) (started : os.Started) (H : Type) (enc : TypeId × Value → H) :
    ReturnsInHanded {} Try.checked os 5 .any (Rows.pixelCutsSpec.pre6 enc Try.prog Try.f5 Rows.pixelCutsRow.domain false) (Rows.pixelCutsSpec.post enc Try.prog Try.f5 false true false false) := by
  refine returnsInHanded_of_change (C := Try.checked) own started (by kernel_rfl) Try.func5
    (ChangeSpec.witness6 (enc := enc) (C := Try.checked) false ⟨#[], #[.agg #[.int .i64 0, .int .i64 0, .int .i64 0, .int .i64 0], pI 0 0, .int .i64 0], []⟩ 8 (by kernel_rfl) (by kernel_rfl) (by kernel_rfl) (by kernel_rfl)) ?_
  intro W base args ds gs before hval0 hW hcnd _
  have hval : ∀ (j : Nat) t v, Try.f5.params[j]? = some t → args[j]? = some v → Value.okWide Try.prog W .any base t v := hval0
  have hW' := hW
  obtain ⟨p, q, hA0, hV, rfl, hfz, hnd⟩ := hW
  have hA : DataW.TrodAll enc Try.prog W 0 (fun _ => true) true Try.f5.params.toList args.toList ds p := hA0
  rw [Try.params5] at hA hval
  obtain ⟨v0, vs0, d0, ds0, p0, q0, hargs, rfl, rfl, h0, r0⟩ := trodAll_cons hA
  obtain ⟨v1, vs1, d1, ds1, p1, q1, rfl, rfl, rfl, h1, r1⟩ := trodAll_cons r0
  obtain ⟨v2, vs2, d2, ds2, p2, q2, rfl, rfl, rfl, h2, r2⟩ := trodAll_cons r1
  obtain ⟨rfl, rfl, rfl⟩ := trodAll_nil r2
  obtain rfl : args = #[v0, v1, v2] := by cases args; simp_all
  obtain ⟨rfl, rfl⟩ := trodVars_none hV
  have k0 := h0
  have lt0 : ∀ x ∈ p0, x.block < W.heap.size := by obtain ⟨m, hm⟩ := k0; exact DataW.trod_lt m _ _ _ hm
  obtain ⟨a0, b0, c0, e0, ia0, ib0, ic0, ie0, rfl⟩ := open_seg (hval 0 50 v0 rfl rfl) h0
  have k1 := h1
  have lt1 : ∀ x ∈ p1, x.block < W.heap.size := by obtain ⟨m, hm⟩ := k1; exact DataW.trod_lt m _ _ _ hm
  obtain ⟨x1, y1, ix1, iy1, rfl⟩ := open_point (hval 1 24 v1 rfl rfl) h1
  obtain ⟨x2, rfl, rfl, rfl, wx2⟩ := open_int Try.underlying3 (hval 2 3 v2 rfl rfl) h2
  have ix2 := in64_wf wx2
  clear hA0 hval0
  refine (PCu_any a0 b0 c0 e0 x1 y1 x2 ia0 ib0 ic0 ie0 ix1 iy1 ix2 W).mono fun e W' ⟨he, bel⟩ => ?_
  subst he
  exact ⟨_, rfl, _, _, _, [], _, [], hW', trodAll_mk1 (shut_bool Try.underlying4 _), (trodAll_cons_mk (Below.trod laidOut (by kernel_rfl) (of_decide_eq_true (by kernel_rfl)) k0 bel lt0) (trodAll_cons_mk (Below.trod laidOut (by kernel_rfl) (of_decide_eq_true (by kernel_rfl)) k1 bel lt1) (trodAll_cons_mk (shut_int Try.underlying3 wx2) trodAll_mk0))), rfl, bel.frame _, fun h => by cases h⟩

theorem pixelCuts_holds : Rows.PixelCutsSaid :=
  OpenClaim.holds_of_wide 5 Try.f5 rfl rfl rfl rfl rfl rfl rfl ⟨rfl, rfl, rfl, rfl, rfl⟩ rfl rfl rfl rfl rfl (by kernel_rfl) Try.func5 (by kernel_rfl)
    (of_decide_eq_true (by kernel_rfl)) (by unfold Func.isWrapper; rw [if_neg (by decide +kernel)]; exact ⟨rfl, rfl⟩)
    (fun os started H enc _ => pixelCuts_lifted os started H enc)
#print axioms pixelCuts_holds
end Go.Proofs.Ytlcbomjdbdgbmaa

