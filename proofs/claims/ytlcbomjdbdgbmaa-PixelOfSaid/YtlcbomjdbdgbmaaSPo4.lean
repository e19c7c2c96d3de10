/- My texts Px7, Px8, PxC, Px9, Bs8, AwC, Cr7, PxF, PxW, PxX, PxE, AwE, PxL1, CrN, joined: what the last one needs of them. Conditions: as each lemma says. -/
import Derived.Test.YtlcbomjdbdgbmaaSPo3
import Derived.KernelRfl
import Derived.StillTail
import Derived.OrdersHeld
import Derived.Deep.Quiet
import Derived.Below
import Derived.WalkKit
import Derived.Test.YtlcbomjdbdgbmaaProg
import Derived.WalkSpells
import Derived.StillTactics
import Derived.Laws.Pointers
import Derived.Deep.RegionHeld3
import Derived.RowKit3
import Derived.Deep.QuietTactic
import Derived.BigQuiet
import Derived.BigRegion
import Derived.Lib.Hide
import Derived.WalkSmall
import Derived.Laws.BitsAllLaws
import Derived.IntWalk
import Derived.Deep.OwnRows
import Derived.Deep.LoopGhost
import Derived.Shelf.Bits.Mul64
import Derived.Deep.WholeRow
import Derived.Laws.Rows
import Derived.ProofKit
import Derived.OpenShut
import Derived.ShutString
import Derived.ChangeOld
import Derived.Lib.SmallJoins
import Derived.Laws.IdiomArrays
namespace Go.Proofs.Ytlcbomjdbdgbmaa
open Go.RowKit

set_option maxRecDepth 100000 in
set_option maxHeartbeats 4000000 in

theorem pxCut_3 (ax : Int) (ay : Int) (bx : Int) (b_y : Int) (cx : Int) (cy : Int) (n : Int) (pfn : Int) (pfd : Int) (ptn : Int) (ptd : Int) (pfo : Bool) (pto : Bool) (R0 : Int) (R1 : Int) (R2 : Int) (R3 : Int) (R4 : Bool) (R5 : Bool) (R6 : Bool) (hR0 : (fun (_ : Int) (_ : Int) (_ : Int) (_ : Int) (_ : Int) (_ : Int) (_ : Int) => 0) ax ay bx b_y cx cy n = R0) (hR1 : (fun (_ : Int) (_ : Int) (_ : Int) (_ : Int) (_ : Int) (_ : Int) (_ : Int) => 0) ax ay bx b_y cx cy n = R1) (hR2 : (fun (_ : Int) (_ : Int) (_ : Int) (_ : Int) (_ : Int) (_ : Int) (_ : Int) => 0) ax ay bx b_y cx cy n = R2) (hR3 : (fun (_ : Int) (_ : Int) (_ : Int) (_ : Int) (_ : Int) (_ : Int) (_ : Int) => 0) ax ay bx b_y cx cy n = R3) (hR4 : (fun (_ : Int) (_ : Int) (_ : Int) (_ : Int) (_ : Int) (_ : Int) (_ : Int) => false) ax ay bx b_y cx cy n = R4) (hR5 : (fun (_ : Int) (_ : Int) (_ : Int) (_ : Int) (_ : Int) (_ : Int) (_ : Int) => false) ax ay bx b_y cx cy n = R5) (hR6 : (fun (_ : Int) (_ : Int) (_ : Int) (_ : Int) (_ : Int) (_ : Int) (_ : Int) => false) ax ay bx b_y cx cy n = R6) (hP0 : pxS n = true) (hP1 : sgR ax ay bx b_y = true) (hP2 : rp cx cy = true) (hP3 : rtOn 0 = 0) (hP4 : rtOd 0 = 1) (hP5 : rtOn 1 = 1) (hP6 : rtOd 1 = 1) (hP7 : bak 0 1 1 1 false false ax (wrap64 (bx - ax)) (wrap64 ((wrap64 ((wrap64 (2 * cx)) * n)) - n)) (wrap64 ((wrap64 ((wrap64 (2 * cx)) * n)) + n)) = false) (hP8 : bafn 0 1 1 1 false false ax (wrap64 (bx - ax)) (wrap64 ((wrap64 ((wrap64 (2 * cx)) * n)) - n)) (wrap64 ((wrap64 ((wrap64 (2 * cx)) * n)) + n)) = pfn) (hP9 : bafd 0 1 1 1 false false ax (wrap64 (bx - ax)) (wrap64 ((wrap64 ((wrap64 (2 * cx)) * n)) - n)) (wrap64 ((wrap64 ((wrap64 (2 * cx)) * n)) + n)) = pfd) (hP10 : batn 0 1 1 1 false false ax (wrap64 (bx - ax)) (wrap64 ((wrap64 ((wrap64 (2 * cx)) * n)) - n)) (wrap64 ((wrap64 ((wrap64 (2 * cx)) * n)) + n)) = ptn) (hP11 : batd 0 1 1 1 false false ax (wrap64 (bx - ax)) (wrap64 ((wrap64 ((wrap64 (2 * cx)) * n)) - n)) (wrap64 ((wrap64 ((wrap64 (2 * cx)) * n)) + n)) = ptd) (hP12 : bafo 0 1 1 1 false false ax (wrap64 (bx - ax)) (wrap64 ((wrap64 ((wrap64 (2 * cx)) * n)) - n)) (wrap64 ((wrap64 ((wrap64 (2 * cx)) * n)) + n)) = pfo) (hP13 : bato 0 1 1 1 false false ax (wrap64 (bx - ax)) (wrap64 ((wrap64 ((wrap64 (2 * cx)) * n)) - n)) (wrap64 ((wrap64 ((wrap64 (2 * cx)) * n)) + n)) = pto) (_ipfn : InI pfn) (_ipfd : InI pfd) (_iptn : InI ptn) (_iptd : InI ptd) (_iax : In64 ax) (_iay : In64 ay) (_ibx : In64 bx) (_ib_y : In64 b_y) (_icx : In64 cx) (_icy : In64 cy) (_in : In64 n)  (w : World)  :
    Calls Try.prog 30 #[.agg #[.int .i64 ax, .int .i64 ay, .int .i64 bx, .int .i64 b_y], .agg #[.int .i64 cx, .int .i64 cy], .int .i64 n] w fun e w' => e = .returned (.tuple #[.agg #[.int .u64 (wd0 R0), .int .u64 (wd1 R0), .int .u64 (wd2 R0), .int .u64 (wd3 R0), .int .u64 (wd0 R1), .int .u64 (wd1 R1), .int .u64 (wd2 R1), .int .u64 (wd3 R1), .int .u64 (wd0 R2), .int .u64 (wd1 R2), .int .u64 (wd2 R2), .int .u64 (wd3 R2), .int .u64 (wd0 R3), .int .u64 (wd1 R3), .int .u64 (wd2 R3), .int .u64 (wd3 R3), .bool R4, .bool R5], .bool R6]) ∧ Below w.heap.size w w' := by

  have HP0 := Lib.hid hP0
  clear hP0
  have HP1 := Lib.hid hP1
  clear hP1
  have HP2 := Lib.hid hP2
  clear hP2
  have HP3 := Lib.hid hP3
  clear hP3
  have HP4 := Lib.hid hP4
  clear hP4
  have HP5 := Lib.hid hP5
  clear hP5
  have HP6 := Lib.hid hP6
  clear hP6
  have HP7 := Lib.hid hP7
  clear hP7
  have HP8 := Lib.hid hP8
  clear hP8
  have HP9 := Lib.hid hP9
  clear hP9
  have HP10 := Lib.hid hP10
  clear hP10
  have HP11 := Lib.hid hP11
  clear hP11
  have HP12 := Lib.hid hP12
  clear hP12
  have HP13 := Lib.hid hP13
  clear hP13
  have HR0 := Lib.hid hR0
  clear hR0
  have HR1 := Lib.hid hR1
  clear hR1
  have HR2 := Lib.hid hR2
  clear hR2
  have HR3 := Lib.hid hR3
  clear hR3
  have HR4 := Lib.hid hR4
  clear hR4
  have HR5 := Lib.hid hR5
  clear hR5
  have HR6 := Lib.hid hR6
  clear hR6
  go_enter Try.func30, Try.ntmps30
  go_wp2_with fail
  first | refine calls_w ?_ | refine name_world ?_ | refine list_world ?_ | refine post_world ?_
  intro V1 hV1
  have hn : Below w.heap.size w V1 := by rw [hV1]; exact below_a3 _ _ _ _
  have nhb0 := hn
  have k1 : Blk V1 w.heap.size #[.int .i64 ax, .int .i64 ay, .int .i64 bx, .int .i64 b_y] 50 := by rw [hV1]; exact (((Blk.new _ _ _).alloc _).alloc _)
  have k2 : Blk V1 (w.heap.size + 1) #[.int .i64 cx, .int .i64 cy] 24 := by rw [hV1]; exact ((Blk.new1 _ _ _ _).alloc _)
  have k3 : Blk V1 (w.heap.size + 1 + 1) #[.int .u64 0, .int .u64 0, .int .u64 0, .int .u64 0, .int .u64 0, .int .u64 0, .int .u64 0, .int .u64 0, .int .u64 0, .int .u64 0, .int .u64 0, .int .u64 0, .int .u64 0, .int .u64 0, .int .u64 0, .int .u64 0, .bool false, .bool false] 54 := by rw [hV1]; exact (Blk.new2 _ _ _ _ _)
  clear hV1
  have hb0 := nhb0
  clear nhb0
  refine (pxSize_is n true HP0.out _in  _).mono ?_
  rintro e U2 ⟨rfl, hn⟩
  replace k1 := k1.of hn
  replace k2 := k2.of hn
  replace k3 := k3.of hn
  replace hb0 := hb0.trans (hn.mono hb0.size)
  clear hn
  have c1_0 : U2.cell? ⟨w.heap.size, 0, none⟩ = some (.int .i64 ax) := k1.cell 0
  have c1_1 : U2.cell? ⟨w.heap.size, 1, none⟩ = some (.int .i64 ay) := k1.cell 1
  have c1_2 : U2.cell? ⟨w.heap.size, 2, none⟩ = some (.int .i64 bx) := k1.cell 2
  have c1_3 : U2.cell? ⟨w.heap.size, 3, none⟩ = some (.int .i64 b_y) := k1.cell 3
  have l1 := k1.lt
  go_wp2_with fail
  clear c1_0 c1_1 c1_2 c1_3 l1
  refine (SegRight_is ax ay bx b_y true HP1.out _iax _iay _ibx _ib_y  _).mono ?_
  rintro e U3 ⟨rfl, hn⟩
  replace k1 := k1.of hn
  replace k2 := k2.of hn
  replace k3 := k3.of hn
  replace hb0 := hb0.trans (hn.mono hb0.size)
  clear hn
  have c2_0 : U3.cell? ⟨(w.heap.size + 1), 0, none⟩ = some (.int .i64 cx) := k2.cell 0
  have c2_1 : U3.cell? ⟨(w.heap.size + 1), 1, none⟩ = some (.int .i64 cy) := k2.cell 1
  have l2 := k2.lt
  go_wp2_with fail
  clear c2_0 c2_1 l2
  refine (PtRight_v cx cy true HP2.out _).mono ?_
  rintro e U4 ⟨rfl, hn⟩
  replace k1 := k1.of hn
  replace k2 := k2.of hn
  replace k3 := k3.of hn
  replace hb0 := hb0.trans (hn.mono hb0.size)
  clear hn
  go_wp2_with fail
  refine (rtOf_is 0 0 1 HP3.out HP4.out (by unfold In64; omega)  _).mono ?_
  rintro e U5 ⟨rfl, hn⟩
  replace k1 := k1.of hn
  replace k2 := k2.of hn
  replace k3 := k3.of hn
  replace hb0 := hb0.trans (hn.mono hb0.size)
  clear hn
  go_wp2_with fail
  refine (rtOf_is 1 1 1 HP5.out HP6.out (by unfold In64; omega)  _).mono ?_
  rintro e U6 ⟨rfl, hn⟩
  replace k1 := k1.of hn
  replace k2 := k2.of hn
  replace k3 := k3.of hn
  replace hb0 := hb0.trans (hn.mono hb0.size)
  clear hn
  go_wp2_with (first | ((with_reducible refine stRow (U6.heap.size) #[.int .u64 (wd0 0), .int .u64 (wd1 0), .int .u64 (wd2 0), .int .u64 (wd3 0), .int .u64 (wd0 1), .int .u64 (wd1 1), .int .u64 (wd2 1), .int .u64 (wd3 1), .int .u64 (wd0 1), .int .u64 (wd1 1), .int .u64 (wd2 1), .int .u64 (wd3 1), .int .u64 (wd0 1), .int .u64 (wd1 1), .int .u64 (wd2 1), .int .u64 (wd3 1), .bool false, .bool false] _ _ (Blk.new _ _ _) ?_ ?_ ?_ ?_ ?_ ?_); rfl; rfl; (as_aux_lemma => kernel_rfl); rfl; (as_aux_lemma => kernel_rfl); simp only [Act.put]))
  first | refine calls_w ?_ | refine name_world ?_ | refine list_world ?_ | refine post_world ?_
  intro V7 hV7
  rw [World.setRow_alloc_new] at hV7
  have D1 := Lib.hid k1.lt
  have D2 := Lib.hid k2.lt
  have D3 := Lib.hid k3.lt
  have D4 := Lib.hid hb0.size
  have hn : Below U6.heap.size U6 V7 := by rw [hV7]; exact below_a1 _ _
  have nk1 := k1.of hn
  have nk2 := k2.of hn
  have nk3 := k3.of hn
  have nhb0 := hb0.trans (hn.mono hb0.size)
  clear hn
  have k4 : Blk V7 U6.heap.size #[.int .u64 (wd0 0), .int .u64 (wd1 0), .int .u64 (wd2 0), .int .u64 (wd3 0), .int .u64 (wd0 1), .int .u64 (wd1 1), .int .u64 (wd2 1), .int .u64 (wd3 1), .int .u64 (wd0 1), .int .u64 (wd1 1), .int .u64 (wd2 1), .int .u64 (wd3 1), .int .u64 (wd0 1), .int .u64 (wd1 1), .int .u64 (wd2 1), .int .u64 (wd3 1), .bool false, .bool false] 54 := by rw [hV7]; exact (Blk.new _ _ _)
  clear k1 k2 k3
  clear hb0
  clear hV7
  have k1 := nk1
  clear nk1
  have k2 := nk2
  clear nk2
  have k3 := nk3
  clear nk3
  have hb0 := nhb0
  clear nhb0
  have c2_0 : V7.cell? ⟨(w.heap.size + 1), 0, none⟩ = some (.int .i64 cx) := k2.cell 0
  have c2_1 : V7.cell? ⟨(w.heap.size + 1), 1, none⟩ = some (.int .i64 cy) := k2.cell 1
  have l2 := k2.lt
  have Kk1 := Lib.hid k1
  clear k1
  have Kk2 := Lib.hid k2
  clear k2
  have Kk3 := Lib.hid k3
  clear k3
  have Kk4 := Lib.hid k4
  clear k4
  refine wp_region_up V7.heap.size 11 [(true, 0), (true, 1), (true, 2), (true, 3), (true, 4), (true, 5), (true, 6), (true, 7), (true, 8), (true, 9), (true, 10)] (by kernel_rfl) (by kernel_rfl) (fun _ _ d _ _ h => by cases d <;> exact h) ?_
  have hb : Below V7.heap.size V7 V7.drew := (Below.refl _ _).drew
  iterate 11
    refine wpS_takeL rfl rfl ?_
    go_big_quiet_step (rfl)
    refine wpQuiet_nil ?_
  refine wpS_nil ?_
  simp only [List.drop_succ_cons, List.drop_zero]
  first | refine calls_w ?_ | refine name_world ?_ | refine list_world ?_ | refine post_world ?_
  intro U8 hU8
  first | (subst hU8; have u_ := U8; clear u_) | (rw [← hU8] at hb; clear hU8)
  clear c2_0 c2_1 l2
  have k1 := Kk1.out.of hb
  clear Kk1
  have k2 := Kk2.out.of hb
  clear Kk2
  have k3 := Kk3.out.of hb
  clear Kk3
  have k4 := Kk4.out.of hb
  clear Kk4
  replace hb0 := hb0.trans (hb.mono hb0.size)
  clear hb
  have c1_0 : U8.cell? ⟨w.heap.size, 0, none⟩ = some (.int .i64 ax) := k1.cell 0
  have c1_2 : U8.cell? ⟨w.heap.size, 2, none⟩ = some (.int .i64 bx) := k1.cell 2
  have l1 := k1.lt
  go_wp2_with fail
  clear c1_0 c1_2 l1
  refine (pxba_is 0 1 1 1 false false ax (wrap64 (bx - ax)) (wrap64 ((wrap64 ((wrap64 (2 * cx)) * n)) - n)) (wrap64 ((wrap64 ((wrap64 (2 * cx)) * n)) + n)) false pfn pfd ptn ptd pfo pto HP7.out HP8.out HP9.out HP10.out HP11.out HP12.out HP13.out (by unfold InI b255; omega) (by unfold InI b255; omega) (by unfold InI b255; omega) (by unfold InI b255; omega) _iax (wrap64_in _) (wrap64_in _) (wrap64_in _) (U6.heap.size) _ k4).mono ?_
  rintro e U9 ⟨rfl, hk_, hn⟩
  clear k2
  replace k1 := k1.below hn (by have := D1.out; omega)
  replace k3 := k3.below hn (by have := D3.out; omega)
  replace k4 := hk_
  clear hk_
  replace hb0 := hb0.trans (hn.mono (by have := D4.out; omega))
  clear hn
  have e0 : 0 = R0 := by rw [← HR0.out]; (try rw [HP0.out]); (try rw [HP1.out]); (try rw [HP2.out]); (try rw [HP3.out]); (try rw [HP4.out]); (try rw [HP5.out]); (try rw [HP6.out]); (try rw [HP7.out]); (try rw [HP8.out]); (try rw [HP9.out]); (try rw [HP10.out]); (try rw [HP11.out]); (try rw [HP12.out]); (try rw [HP13.out]); all_goals first | rfl | simp
  have e1 : 0 = R1 := by rw [← HR1.out]; (try rw [HP0.out]); (try rw [HP1.out]); (try rw [HP2.out]); (try rw [HP3.out]); (try rw [HP4.out]); (try rw [HP5.out]); (try rw [HP6.out]); (try rw [HP7.out]); (try rw [HP8.out]); (try rw [HP9.out]); (try rw [HP10.out]); (try rw [HP11.out]); (try rw [HP12.out]); (try rw [HP13.out]); all_goals first | rfl | simp
  have e2 : 0 = R2 := by rw [← HR2.out]; (try rw [HP0.out]); (try rw [HP1.out]); (try rw [HP2.out]); (try rw [HP3.out]); (try rw [HP4.out]); (try rw [HP5.out]); (try rw [HP6.out]); (try rw [HP7.out]); (try rw [HP8.out]); (try rw [HP9.out]); (try rw [HP10.out]); (try rw [HP11.out]); (try rw [HP12.out]); (try rw [HP13.out]); all_goals first | rfl | simp
  have e3 : 0 = R3 := by rw [← HR3.out]; (try rw [HP0.out]); (try rw [HP1.out]); (try rw [HP2.out]); (try rw [HP3.out]); (try rw [HP4.out]); (try rw [HP5.out]); (try rw [HP6.out]); (try rw [HP7.out]); (try rw [HP8.out]); (try rw [HP9.out]); (try rw [HP10.out]); (try rw [HP11.out]); (try rw [HP12.out]); (try rw [HP13.out]); all_goals first | rfl | simp
  have e4 : false = R4 := by rw [← HR4.out]; (try rw [HP0.out]); (try rw [HP1.out]); (try rw [HP2.out]); (try rw [HP3.out]); (try rw [HP4.out]); (try rw [HP5.out]); (try rw [HP6.out]); (try rw [HP7.out]); (try rw [HP8.out]); (try rw [HP9.out]); (try rw [HP10.out]); (try rw [HP11.out]); (try rw [HP12.out]); (try rw [HP13.out]); all_goals first | rfl | simp
  have e5 : false = R5 := by rw [← HR5.out]; (try rw [HP0.out]); (try rw [HP1.out]); (try rw [HP2.out]); (try rw [HP3.out]); (try rw [HP4.out]); (try rw [HP5.out]); (try rw [HP6.out]); (try rw [HP7.out]); (try rw [HP8.out]); (try rw [HP9.out]); (try rw [HP10.out]); (try rw [HP11.out]); (try rw [HP12.out]); (try rw [HP13.out]); all_goals first | rfl | simp
  have e6 : false = R6 := by rw [← HR6.out]; (try rw [HP0.out]); (try rw [HP1.out]); (try rw [HP2.out]); (try rw [HP3.out]); (try rw [HP4.out]); (try rw [HP5.out]); (try rw [HP6.out]); (try rw [HP7.out]); (try rw [HP8.out]); (try rw [HP9.out]); (try rw [HP10.out]); (try rw [HP11.out]); (try rw [HP12.out]); (try rw [HP13.out]); all_goals first | rfl | simp
  subst e0
  subst e1
  subst e2
  subst e3
  subst e4
  subst e5
  subst e6
  go_wp2_with (first | ((with_reducible refine stRow (w.heap.size + 1 + 1) #[.int .u64 0, .int .u64 0, .int .u64 0, .int .u64 0, .int .u64 0, .int .u64 0, .int .u64 0, .int .u64 0, .int .u64 0, .int .u64 0, .int .u64 0, .int .u64 0, .int .u64 0, .int .u64 0, .int .u64 0, .int .u64 0, .bool false, .bool false] _ _ k3 ?_ ?_ ?_ ?_ ?_ ?_); rfl; rfl; (as_aux_lemma => kernel_rfl); rfl; (as_aux_lemma => kernel_rfl); simp only [Act.put]))
  first | refine post_world ?_
  intro V10 hV10
  clear k1
  have D5 := Lib.hid k3.lt
  have D6 := Lib.hid k4.lt
  have D7 := Lib.hid hb0.size
  clear k4
  have nk3 : Blk V10 (w.heap.size + 1 + 1) #[.int .u64 0, .int .u64 0, .int .u64 0, .int .u64 0, .int .u64 0, .int .u64 0, .int .u64 0, .int .u64 0, .int .u64 0, .int .u64 0, .int .u64 0, .int .u64 0, .int .u64 0, .int .u64 0, .int .u64 0, .int .u64 0, .bool false, .bool false] 54 := by rw [hV10]; exact blk_row k3 _
  have nhb0 : Below w.heap.size w V10 := by rw [hV10]; exact blw_row hb0 (by omega) _
  clear k3
  clear hb0
  clear hV10
  have k3 := nk3
  clear nk3
  have hb0 := nhb0
  clear nhb0
  refine ⟨rfl, _, results_row_tmp rfl _ _ _ _ _ _ _ rfl k3 rfl rfl (by as_aux_lemma => kernel_rfl), ?_, hb0⟩
  first | rfl | kernel_rfl

set_option maxRecDepth 100000 in
set_option maxHeartbeats 4000000 in

theorem pxCut_4 (ax : Int) (ay : Int) (bx : Int) (b_y : Int) (cx : Int) (cy : Int) (n : Int) (pfn : Int) (pfd : Int) (ptn : Int) (ptd : Int) (pfo : Bool) (pto : Bool) (qfn : Int) (qfd : Int) (qtn : Int) (qtd : Int) (qfo : Bool) (qto : Bool) (R0 : Int) (R1 : Int) (R2 : Int) (R3 : Int) (R4 : Bool) (R5 : Bool) (R6 : Bool) (hR0 : (fun (_ : Int) (_ : Int) (_ : Int) (_ : Int) (_ : Int) (_ : Int) (_ : Int) => 0) ax ay bx b_y cx cy n = R0) (hR1 : (fun (_ : Int) (_ : Int) (_ : Int) (_ : Int) (_ : Int) (_ : Int) (_ : Int) => 0) ax ay bx b_y cx cy n = R1) (hR2 : (fun (_ : Int) (_ : Int) (_ : Int) (_ : Int) (_ : Int) (_ : Int) (_ : Int) => 0) ax ay bx b_y cx cy n = R2) (hR3 : (fun (_ : Int) (_ : Int) (_ : Int) (_ : Int) (_ : Int) (_ : Int) (_ : Int) => 0) ax ay bx b_y cx cy n = R3) (hR4 : (fun (_ : Int) (_ : Int) (_ : Int) (_ : Int) (_ : Int) (_ : Int) (_ : Int) => false) ax ay bx b_y cx cy n = R4) (hR5 : (fun (_ : Int) (_ : Int) (_ : Int) (_ : Int) (_ : Int) (_ : Int) (_ : Int) => false) ax ay bx b_y cx cy n = R5) (hR6 : (fun (_ : Int) (_ : Int) (_ : Int) (_ : Int) (_ : Int) (_ : Int) (_ : Int) => false) ax ay bx b_y cx cy n = R6) (hP0 : pxS n = true) (hP1 : sgR ax ay bx b_y = true) (hP2 : rp cx cy = true) (hP3 : rtOn 0 = 0) (hP4 : rtOd 0 = 1) (hP5 : rtOn 1 = 1) (hP6 : rtOd 1 = 1) (hP7 : bak 0 1 1 1 false false ax (wrap64 (bx - ax)) (wrap64 ((wrap64 ((wrap64 (2 * cx)) * n)) - n)) (wrap64 ((wrap64 ((wrap64 (2 * cx)) * n)) + n)) = true) (hP8 : bafn 0 1 1 1 false false ax (wrap64 (bx - ax)) (wrap64 ((wrap64 ((wrap64 (2 * cx)) * n)) - n)) (wrap64 ((wrap64 ((wrap64 (2 * cx)) * n)) + n)) = pfn) (hP9 : bafd 0 1 1 1 false false ax (wrap64 (bx - ax)) (wrap64 ((wrap64 ((wrap64 (2 * cx)) * n)) - n)) (wrap64 ((wrap64 ((wrap64 (2 * cx)) * n)) + n)) = pfd) (hP10 : batn 0 1 1 1 false false ax (wrap64 (bx - ax)) (wrap64 ((wrap64 ((wrap64 (2 * cx)) * n)) - n)) (wrap64 ((wrap64 ((wrap64 (2 * cx)) * n)) + n)) = ptn) (hP11 : batd 0 1 1 1 false false ax (wrap64 (bx - ax)) (wrap64 ((wrap64 ((wrap64 (2 * cx)) * n)) - n)) (wrap64 ((wrap64 ((wrap64 (2 * cx)) * n)) + n)) = ptd) (hP12 : bafo 0 1 1 1 false false ax (wrap64 (bx - ax)) (wrap64 ((wrap64 ((wrap64 (2 * cx)) * n)) - n)) (wrap64 ((wrap64 ((wrap64 (2 * cx)) * n)) + n)) = pfo) (hP13 : bato 0 1 1 1 false false ax (wrap64 (bx - ax)) (wrap64 ((wrap64 ((wrap64 (2 * cx)) * n)) - n)) (wrap64 ((wrap64 ((wrap64 (2 * cx)) * n)) + n)) = pto) (hP14 : bak pfn pfd ptn ptd pfo pto ay (wrap64 (b_y - ay)) (wrap64 ((wrap64 ((wrap64 (2 * cy)) * n)) - n)) (wrap64 ((wrap64 ((wrap64 (2 * cy)) * n)) + n)) = false) (hP15 : bafn pfn pfd ptn ptd pfo pto ay (wrap64 (b_y - ay)) (wrap64 ((wrap64 ((wrap64 (2 * cy)) * n)) - n)) (wrap64 ((wrap64 ((wrap64 (2 * cy)) * n)) + n)) = qfn) (hP16 : bafd pfn pfd ptn ptd pfo pto ay (wrap64 (b_y - ay)) (wrap64 ((wrap64 ((wrap64 (2 * cy)) * n)) - n)) (wrap64 ((wrap64 ((wrap64 (2 * cy)) * n)) + n)) = qfd) (hP17 : batn pfn pfd ptn ptd pfo pto ay (wrap64 (b_y - ay)) (wrap64 ((wrap64 ((wrap64 (2 * cy)) * n)) - n)) (wrap64 ((wrap64 ((wrap64 (2 * cy)) * n)) + n)) = qtn) (hP18 : batd pfn pfd ptn ptd pfo pto ay (wrap64 (b_y - ay)) (wrap64 ((wrap64 ((wrap64 (2 * cy)) * n)) - n)) (wrap64 ((wrap64 ((wrap64 (2 * cy)) * n)) + n)) = qtd) (hP19 : bafo pfn pfd ptn ptd pfo pto ay (wrap64 (b_y - ay)) (wrap64 ((wrap64 ((wrap64 (2 * cy)) * n)) - n)) (wrap64 ((wrap64 ((wrap64 (2 * cy)) * n)) + n)) = qfo) (hP20 : bato pfn pfd ptn ptd pfo pto ay (wrap64 (b_y - ay)) (wrap64 ((wrap64 ((wrap64 (2 * cy)) * n)) - n)) (wrap64 ((wrap64 ((wrap64 (2 * cy)) * n)) + n)) = qto) (_ipfn : InI pfn) (_ipfd : InI pfd) (_iptn : InI ptn) (_iptd : InI ptd) (_iqfn : InI qfn) (_iqfd : InI qfd) (_iqtn : InI qtn) (_iqtd : InI qtd) (_iax : In64 ax) (_iay : In64 ay) (_ibx : In64 bx) (_ib_y : In64 b_y) (_icx : In64 cx) (_icy : In64 cy) (_in : In64 n)  (w : World)  :
    Calls Try.prog 30 #[.agg #[.int .i64 ax, .int .i64 ay, .int .i64 bx, .int .i64 b_y], .agg #[.int .i64 cx, .int .i64 cy], .int .i64 n] w fun e w' => e = .returned (.tuple #[.agg #[.int .u64 (wd0 R0), .int .u64 (wd1 R0), .int .u64 (wd2 R0), .int .u64 (wd3 R0), .int .u64 (wd0 R1), .int .u64 (wd1 R1), .int .u64 (wd2 R1), .int .u64 (wd3 R1), .int .u64 (wd0 R2), .int .u64 (wd1 R2), .int .u64 (wd2 R2), .int .u64 (wd3 R2), .int .u64 (wd0 R3), .int .u64 (wd1 R3), .int .u64 (wd2 R3), .int .u64 (wd3 R3), .bool R4, .bool R5], .bool R6]) ∧ Below w.heap.size w w' := by

  have HP0 := Lib.hid hP0
  clear hP0
  have HP1 := Lib.hid hP1
  clear hP1
  have HP2 := Lib.hid hP2
  clear hP2
  have HP3 := Lib.hid hP3
  clear hP3
  have HP4 := Lib.hid hP4
  clear hP4
  have HP5 := Lib.hid hP5
  clear hP5
  have HP6 := Lib.hid hP6
  clear hP6
  have HP7 := Lib.hid hP7
  clear hP7
  have HP8 := Lib.hid hP8
  clear hP8
  have HP9 := Lib.hid hP9
  clear hP9
  have HP10 := Lib.hid hP10
  clear hP10
  have HP11 := Lib.hid hP11
  clear hP11
  have HP12 := Lib.hid hP12
  clear hP12
  have HP13 := Lib.hid hP13
  clear hP13
  have HP14 := Lib.hid hP14
  clear hP14
  have HP15 := Lib.hid hP15
  clear hP15
  have HP16 := Lib.hid hP16
  clear hP16
  have HP17 := Lib.hid hP17
  clear hP17
  have HP18 := Lib.hid hP18
  clear hP18
  have HP19 := Lib.hid hP19
  clear hP19
  have HP20 := Lib.hid hP20
  clear hP20
  have HR0 := Lib.hid hR0
  clear hR0
  have HR1 := Lib.hid hR1
  clear hR1
  have HR2 := Lib.hid hR2
  clear hR2
  have HR3 := Lib.hid hR3
  clear hR3
  have HR4 := Lib.hid hR4
  clear hR4
  have HR5 := Lib.hid hR5
  clear hR5
  have HR6 := Lib.hid hR6
  clear hR6
  go_enter Try.func30, Try.ntmps30
  go_wp2_with fail
  first | refine calls_w ?_ | refine name_world ?_ | refine list_world ?_ | refine post_world ?_
  intro V1 hV1
  have hn : Below w.heap.size w V1 := by rw [hV1]; exact below_a3 _ _ _ _
  have nhb0 := hn
  have k1 : Blk V1 w.heap.size #[.int .i64 ax, .int .i64 ay, .int .i64 bx, .int .i64 b_y] 50 := by rw [hV1]; exact (((Blk.new _ _ _).alloc _).alloc _)
  have k2 : Blk V1 (w.heap.size + 1) #[.int .i64 cx, .int .i64 cy] 24 := by rw [hV1]; exact ((Blk.new1 _ _ _ _).alloc _)
  have k3 : Blk V1 (w.heap.size + 1 + 1) #[.int .u64 0, .int .u64 0, .int .u64 0, .int .u64 0, .int .u64 0, .int .u64 0, .int .u64 0, .int .u64 0, .int .u64 0, .int .u64 0, .int .u64 0, .int .u64 0, .int .u64 0, .int .u64 0, .int .u64 0, .int .u64 0, .bool false, .bool false] 54 := by rw [hV1]; exact (Blk.new2 _ _ _ _ _)
  clear hV1
  have hb0 := nhb0
  clear nhb0
  refine (pxSize_is n true HP0.out _in  _).mono ?_
  rintro e U2 ⟨rfl, hn⟩
  replace k1 := k1.of hn
  replace k2 := k2.of hn
  replace k3 := k3.of hn
  replace hb0 := hb0.trans (hn.mono hb0.size)
  clear hn
  have c1_0 : U2.cell? ⟨w.heap.size, 0, none⟩ = some (.int .i64 ax) := k1.cell 0
  have c1_1 : U2.cell? ⟨w.heap.size, 1, none⟩ = some (.int .i64 ay) := k1.cell 1
  have c1_2 : U2.cell? ⟨w.heap.size, 2, none⟩ = some (.int .i64 bx) := k1.cell 2
  have c1_3 : U2.cell? ⟨w.heap.size, 3, none⟩ = some (.int .i64 b_y) := k1.cell 3
  have l1 := k1.lt
  go_wp2_with fail
  clear c1_0 c1_1 c1_2 c1_3 l1
  refine (SegRight_is ax ay bx b_y true HP1.out _iax _iay _ibx _ib_y  _).mono ?_
  rintro e U3 ⟨rfl, hn⟩
  replace k1 := k1.of hn
  replace k2 := k2.of hn
  replace k3 := k3.of hn
  replace hb0 := hb0.trans (hn.mono hb0.size)
  clear hn
  have c2_0 : U3.cell? ⟨(w.heap.size + 1), 0, none⟩ = some (.int .i64 cx) := k2.cell 0
  have c2_1 : U3.cell? ⟨(w.heap.size + 1), 1, none⟩ = some (.int .i64 cy) := k2.cell 1
  have l2 := k2.lt
  go_wp2_with fail
  clear c2_0 c2_1 l2
  refine (PtRight_v cx cy true HP2.out _).mono ?_
  rintro e U4 ⟨rfl, hn⟩
  replace k1 := k1.of hn
  replace k2 := k2.of hn
  replace k3 := k3.of hn
  replace hb0 := hb0.trans (hn.mono hb0.size)
  clear hn
  go_wp2_with fail
  refine (rtOf_is 0 0 1 HP3.out HP4.out (by unfold In64; omega)  _).mono ?_
  rintro e U5 ⟨rfl, hn⟩
  replace k1 := k1.of hn
  replace k2 := k2.of hn
  replace k3 := k3.of hn
  replace hb0 := hb0.trans (hn.mono hb0.size)
  clear hn
  go_wp2_with fail
  refine (rtOf_is 1 1 1 HP5.out HP6.out (by unfold In64; omega)  _).mono ?_
  rintro e U6 ⟨rfl, hn⟩
  replace k1 := k1.of hn
  replace k2 := k2.of hn
  replace k3 := k3.of hn
  replace hb0 := hb0.trans (hn.mono hb0.size)
  clear hn
  go_wp2_with (first | ((with_reducible refine stRow (U6.heap.size) #[.int .u64 (wd0 0), .int .u64 (wd1 0), .int .u64 (wd2 0), .int .u64 (wd3 0), .int .u64 (wd0 1), .int .u64 (wd1 1), .int .u64 (wd2 1), .int .u64 (wd3 1), .int .u64 (wd0 1), .int .u64 (wd1 1), .int .u64 (wd2 1), .int .u64 (wd3 1), .int .u64 (wd0 1), .int .u64 (wd1 1), .int .u64 (wd2 1), .int .u64 (wd3 1), .bool false, .bool false] _ _ (Blk.new _ _ _) ?_ ?_ ?_ ?_ ?_ ?_); rfl; rfl; (as_aux_lemma => kernel_rfl); rfl; (as_aux_lemma => kernel_rfl); simp only [Act.put]))
  first | refine calls_w ?_ | refine name_world ?_ | refine list_world ?_ | refine post_world ?_
  intro V7 hV7
  rw [World.setRow_alloc_new] at hV7
  have D1 := Lib.hid k1.lt
  have D2 := Lib.hid k2.lt
  have D3 := Lib.hid k3.lt
  have D4 := Lib.hid hb0.size
  have hn : Below U6.heap.size U6 V7 := by rw [hV7]; exact below_a1 _ _
  have nk1 := k1.of hn
  have nk2 := k2.of hn
  have nk3 := k3.of hn
  have nhb0 := hb0.trans (hn.mono hb0.size)
  clear hn
  have k4 : Blk V7 U6.heap.size #[.int .u64 (wd0 0), .int .u64 (wd1 0), .int .u64 (wd2 0), .int .u64 (wd3 0), .int .u64 (wd0 1), .int .u64 (wd1 1), .int .u64 (wd2 1), .int .u64 (wd3 1), .int .u64 (wd0 1), .int .u64 (wd1 1), .int .u64 (wd2 1), .int .u64 (wd3 1), .int .u64 (wd0 1), .int .u64 (wd1 1), .int .u64 (wd2 1), .int .u64 (wd3 1), .bool false, .bool false] 54 := by rw [hV7]; exact (Blk.new _ _ _)
  clear k1 k2 k3
  clear hb0
  clear hV7
  have k1 := nk1
  clear nk1
  have k2 := nk2
  clear nk2
  have k3 := nk3
  clear nk3
  have hb0 := nhb0
  clear nhb0
  have c2_0 : V7.cell? ⟨(w.heap.size + 1), 0, none⟩ = some (.int .i64 cx) := k2.cell 0
  have c2_1 : V7.cell? ⟨(w.heap.size + 1), 1, none⟩ = some (.int .i64 cy) := k2.cell 1
  have l2 := k2.lt
  have Kk1 := Lib.hid k1
  clear k1
  have Kk2 := Lib.hid k2
  clear k2
  have Kk3 := Lib.hid k3
  clear k3
  have Kk4 := Lib.hid k4
  clear k4
  refine wp_region_up V7.heap.size 11 [(true, 0), (true, 1), (true, 2), (true, 3), (true, 4), (true, 5), (true, 6), (true, 7), (true, 8), (true, 9), (true, 10)] (by kernel_rfl) (by kernel_rfl) (fun _ _ d _ _ h => by cases d <;> exact h) ?_
  have hb : Below V7.heap.size V7 V7.drew := (Below.refl _ _).drew
  iterate 11
    refine wpS_takeL rfl rfl ?_
    go_big_quiet_step (rfl)
    refine wpQuiet_nil ?_
  refine wpS_nil ?_
  simp only [List.drop_succ_cons, List.drop_zero]
  first | refine calls_w ?_ | refine name_world ?_ | refine list_world ?_ | refine post_world ?_
  intro U8 hU8
  first | (subst hU8; have u_ := U8; clear u_) | (rw [← hU8] at hb; clear hU8)
  clear c2_0 c2_1 l2
  have k1 := Kk1.out.of hb
  clear Kk1
  have k2 := Kk2.out.of hb
  clear Kk2
  have k3 := Kk3.out.of hb
  clear Kk3
  have k4 := Kk4.out.of hb
  clear Kk4
  replace hb0 := hb0.trans (hb.mono hb0.size)
  clear hb
  have c1_0 : U8.cell? ⟨w.heap.size, 0, none⟩ = some (.int .i64 ax) := k1.cell 0
  have c1_2 : U8.cell? ⟨w.heap.size, 2, none⟩ = some (.int .i64 bx) := k1.cell 2
  have l1 := k1.lt
  go_wp2_with fail
  clear c1_0 c1_2 l1
  refine (pxba_is 0 1 1 1 false false ax (wrap64 (bx - ax)) (wrap64 ((wrap64 ((wrap64 (2 * cx)) * n)) - n)) (wrap64 ((wrap64 ((wrap64 (2 * cx)) * n)) + n)) true pfn pfd ptn ptd pfo pto HP7.out HP8.out HP9.out HP10.out HP11.out HP12.out HP13.out (by unfold InI b255; omega) (by unfold InI b255; omega) (by unfold InI b255; omega) (by unfold InI b255; omega) _iax (wrap64_in _) (wrap64_in _) (wrap64_in _) (U6.heap.size) _ k4).mono ?_
  rintro e U9 ⟨rfl, hk_, hn⟩
  clear k2
  replace k1 := k1.below hn (by have := D1.out; omega)
  replace k3 := k3.below hn (by have := D3.out; omega)
  replace k4 := hk_
  clear hk_
  replace hb0 := hb0.trans (hn.mono (by have := D4.out; omega))
  clear hn
  have c1_1 : U9.cell? ⟨w.heap.size, 1, none⟩ = some (.int .i64 ay) := k1.cell 1
  have c1_3 : U9.cell? ⟨w.heap.size, 3, none⟩ = some (.int .i64 b_y) := k1.cell 3
  have l1 := k1.lt
  go_wp2_with fail
  clear c1_1 c1_3 l1
  refine (pxba_is pfn pfd ptn ptd pfo pto ay (wrap64 (b_y - ay)) (wrap64 ((wrap64 ((wrap64 (2 * cy)) * n)) - n)) (wrap64 ((wrap64 ((wrap64 (2 * cy)) * n)) + n)) false qfn qfd qtn qtd qfo qto HP14.out HP15.out HP16.out HP17.out HP18.out HP19.out HP20.out _ipfn _ipfd _iptn _iptd _iay (wrap64_in _) (wrap64_in _) (wrap64_in _) (U6.heap.size) _ k4).mono ?_
  rintro e U10 ⟨rfl, hk_, hn⟩
  clear k1
  replace k3 := k3.below hn (by have := D3.out; omega)
  replace k4 := hk_
  clear hk_
  replace hb0 := hb0.trans (hn.mono (by have := D4.out; omega))
  clear hn
  have e0 : 0 = R0 := by rw [← HR0.out]; (try rw [HP0.out]); (try rw [HP1.out]); (try rw [HP2.out]); (try rw [HP3.out]); (try rw [HP4.out]); (try rw [HP5.out]); (try rw [HP6.out]); (try rw [HP7.out]); (try rw [HP8.out]); (try rw [HP9.out]); (try rw [HP10.out]); (try rw [HP11.out]); (try rw [HP12.out]); (try rw [HP13.out]); (try rw [HP14.out]); (try rw [HP15.out]); (try rw [HP16.out]); (try rw [HP17.out]); (try rw [HP18.out]); (try rw [HP19.out]); (try rw [HP20.out]); all_goals first | rfl | simp
  have e1 : 0 = R1 := by rw [← HR1.out]; (try rw [HP0.out]); (try rw [HP1.out]); (try rw [HP2.out]); (try rw [HP3.out]); (try rw [HP4.out]); (try rw [HP5.out]); (try rw [HP6.out]); (try rw [HP7.out]); (try rw [HP8.out]); (try rw [HP9.out]); (try rw [HP10.out]); (try rw [HP11.out]); (try rw [HP12.out]); (try rw [HP13.out]); (try rw [HP14.out]); (try rw [HP15.out]); (try rw [HP16.out]); (try rw [HP17.out]); (try rw [HP18.out]); (try rw [HP19.out]); (try rw [HP20.out]); all_goals first | rfl | simp
  have e2 : 0 = R2 := by rw [← HR2.out]; (try rw [HP0.out]); (try rw [HP1.out]); (try rw [HP2.out]); (try rw [HP3.out]); (try rw [HP4.out]); (try rw [HP5.out]); (try rw [HP6.out]); (try rw [HP7.out]); (try rw [HP8.out]); (try rw [HP9.out]); (try rw [HP10.out]); (try rw [HP11.out]); (try rw [HP12.out]); (try rw [HP13.out]); (try rw [HP14.out]); (try rw [HP15.out]); (try rw [HP16.out]); (try rw [HP17.out]); (try rw [HP18.out]); (try rw [HP19.out]); (try rw [HP20.out]); all_goals first | rfl | simp
  have e3 : 0 = R3 := by rw [← HR3.out]; (try rw [HP0.out]); (try rw [HP1.out]); (try rw [HP2.out]); (try rw [HP3.out]); (try rw [HP4.out]); (try rw [HP5.out]); (try rw [HP6.out]); (try rw [HP7.out]); (try rw [HP8.out]); (try rw [HP9.out]); (try rw [HP10.out]); (try rw [HP11.out]); (try rw [HP12.out]); (try rw [HP13.out]); (try rw [HP14.out]); (try rw [HP15.out]); (try rw [HP16.out]); (try rw [HP17.out]); (try rw [HP18.out]); (try rw [HP19.out]); (try rw [HP20.out]); all_goals first | rfl | simp
  have e4 : false = R4 := by rw [← HR4.out]; (try rw [HP0.out]); (try rw [HP1.out]); (try rw [HP2.out]); (try rw [HP3.out]); (try rw [HP4.out]); (try rw [HP5.out]); (try rw [HP6.out]); (try rw [HP7.out]); (try rw [HP8.out]); (try rw [HP9.out]); (try rw [HP10.out]); (try rw [HP11.out]); (try rw [HP12.out]); (try rw [HP13.out]); (try rw [HP14.out]); (try rw [HP15.out]); (try rw [HP16.out]); (try rw [HP17.out]); (try rw [HP18.out]); (try rw [HP19.out]); (try rw [HP20.out]); all_goals first | rfl | simp
  have e5 : false = R5 := by rw [← HR5.out]; (try rw [HP0.out]); (try rw [HP1.out]); (try rw [HP2.out]); (try rw [HP3.out]); (try rw [HP4.out]); (try rw [HP5.out]); (try rw [HP6.out]); (try rw [HP7.out]); (try rw [HP8.out]); (try rw [HP9.out]); (try rw [HP10.out]); (try rw [HP11.out]); (try rw [HP12.out]); (try rw [HP13.out]); (try rw [HP14.out]); (try rw [HP15.out]); (try rw [HP16.out]); (try rw [HP17.out]); (try rw [HP18.out]); (try rw [HP19.out]); (try rw [HP20.out]); all_goals first | rfl | simp
  have e6 : false = R6 := by rw [← HR6.out]; (try rw [HP0.out]); (try rw [HP1.out]); (try rw [HP2.out]); (try rw [HP3.out]); (try rw [HP4.out]); (try rw [HP5.out]); (try rw [HP6.out]); (try rw [HP7.out]); (try rw [HP8.out]); (try rw [HP9.out]); (try rw [HP10.out]); (try rw [HP11.out]); (try rw [HP12.out]); (try rw [HP13.out]); (try rw [HP14.out]); (try rw [HP15.out]); (try rw [HP16.out]); (try rw [HP17.out]); (try rw [HP18.out]); (try rw [HP19.out]); (try rw [HP20.out]); all_goals first | rfl | simp
  subst e0
  subst e1
  subst e2
  subst e3
  subst e4
  subst e5
  subst e6
  go_wp2_with (first | ((with_reducible refine stRow (w.heap.size + 1 + 1) #[.int .u64 0, .int .u64 0, .int .u64 0, .int .u64 0, .int .u64 0, .int .u64 0, .int .u64 0, .int .u64 0, .int .u64 0, .int .u64 0, .int .u64 0, .int .u64 0, .int .u64 0, .int .u64 0, .int .u64 0, .int .u64 0, .bool false, .bool false] _ _ k3 ?_ ?_ ?_ ?_ ?_ ?_); rfl; rfl; (as_aux_lemma => kernel_rfl); rfl; (as_aux_lemma => kernel_rfl); simp only [Act.put]))
  first | refine post_world ?_
  intro V11 hV11
  have D5 := Lib.hid k3.lt
  have D6 := Lib.hid k4.lt
  have D7 := Lib.hid hb0.size
  clear k4
  have nk3 : Blk V11 (w.heap.size + 1 + 1) #[.int .u64 0, .int .u64 0, .int .u64 0, .int .u64 0, .int .u64 0, .int .u64 0, .int .u64 0, .int .u64 0, .int .u64 0, .int .u64 0, .int .u64 0, .int .u64 0, .int .u64 0, .int .u64 0, .int .u64 0, .int .u64 0, .bool false, .bool false] 54 := by rw [hV11]; exact blk_row k3 _
  have nhb0 : Below w.heap.size w V11 := by rw [hV11]; exact blw_row hb0 (by omega) _
  clear k3
  clear hb0
  clear hV11
  have k3 := nk3
  clear nk3
  have hb0 := nhb0
  clear nhb0
  refine ⟨rfl, _, results_row_tmp rfl _ _ _ _ _ _ _ rfl k3 rfl rfl (by as_aux_lemma => kernel_rfl), ?_, hb0⟩
  first | rfl | kernel_rfl
end Go.Proofs.Ytlcbomjdbdgbmaa

namespace Go.Proofs.Ytlcbomjdbdgbmaa
open Go.RowKit

set_option maxRecDepth 100000 in
set_option maxHeartbeats 4000000 in

theorem pxCut_5 (ax : Int) (ay : Int) (bx : Int) (b_y : Int) (cx : Int) (cy : Int) (n : Int) (pfn : Int) (pfd : Int) (ptn : Int) (ptd : Int) (pfo : Bool) (pto : Bool) (qfn : Int) (qfd : Int) (qtn : Int) (qtd : Int) (qfo : Bool) (qto : Bool) (R0 : Int) (R1 : Int) (R2 : Int) (R3 : Int) (R4 : Bool) (R5 : Bool) (R6 : Bool) (hR0 : (fun (_ : Int) (_ : Int) (_ : Int) (_ : Int) (_ : Int) (_ : Int) (_ : Int) => 0) ax ay bx b_y cx cy n = R0) (hR1 : (fun (_ : Int) (_ : Int) (_ : Int) (_ : Int) (_ : Int) (_ : Int) (_ : Int) => 0) ax ay bx b_y cx cy n = R1) (hR2 : (fun (_ : Int) (_ : Int) (_ : Int) (_ : Int) (_ : Int) (_ : Int) (_ : Int) => 0) ax ay bx b_y cx cy n = R2) (hR3 : (fun (_ : Int) (_ : Int) (_ : Int) (_ : Int) (_ : Int) (_ : Int) (_ : Int) => 0) ax ay bx b_y cx cy n = R3) (hR4 : (fun (_ : Int) (_ : Int) (_ : Int) (_ : Int) (_ : Int) (_ : Int) (_ : Int) => false) ax ay bx b_y cx cy n = R4) (hR5 : (fun (_ : Int) (_ : Int) (_ : Int) (_ : Int) (_ : Int) (_ : Int) (_ : Int) => false) ax ay bx b_y cx cy n = R5) (hR6 : (fun (_ : Int) (_ : Int) (_ : Int) (_ : Int) (_ : Int) (_ : Int) (_ : Int) => false) ax ay bx b_y cx cy n = R6) (hP0 : pxS n = true) (hP1 : sgR ax ay bx b_y = true) (hP2 : rp cx cy = true) (hP3 : rtOn 0 = 0) (hP4 : rtOd 0 = 1) (hP5 : rtOn 1 = 1) (hP6 : rtOd 1 = 1) (hP7 : bak 0 1 1 1 false false ax (wrap64 (bx - ax)) (wrap64 ((wrap64 ((wrap64 (2 * cx)) * n)) - n)) (wrap64 ((wrap64 ((wrap64 (2 * cx)) * n)) + n)) = true) (hP8 : bafn 0 1 1 1 false false ax (wrap64 (bx - ax)) (wrap64 ((wrap64 ((wrap64 (2 * cx)) * n)) - n)) (wrap64 ((wrap64 ((wrap64 (2 * cx)) * n)) + n)) = pfn) (hP9 : bafd 0 1 1 1 false false ax (wrap64 (bx - ax)) (wrap64 ((wrap64 ((wrap64 (2 * cx)) * n)) - n)) (wrap64 ((wrap64 ((wrap64 (2 * cx)) * n)) + n)) = pfd) (hP10 : batn 0 1 1 1 false false ax (wrap64 (bx - ax)) (wrap64 ((wrap64 ((wrap64 (2 * cx)) * n)) - n)) (wrap64 ((wrap64 ((wrap64 (2 * cx)) * n)) + n)) = ptn) (hP11 : batd 0 1 1 1 false false ax (wrap64 (bx - ax)) (wrap64 ((wrap64 ((wrap64 (2 * cx)) * n)) - n)) (wrap64 ((wrap64 ((wrap64 (2 * cx)) * n)) + n)) = ptd) (hP12 : bafo 0 1 1 1 false false ax (wrap64 (bx - ax)) (wrap64 ((wrap64 ((wrap64 (2 * cx)) * n)) - n)) (wrap64 ((wrap64 ((wrap64 (2 * cx)) * n)) + n)) = pfo) (hP13 : bato 0 1 1 1 false false ax (wrap64 (bx - ax)) (wrap64 ((wrap64 ((wrap64 (2 * cx)) * n)) - n)) (wrap64 ((wrap64 ((wrap64 (2 * cx)) * n)) + n)) = pto) (hP14 : bak pfn pfd ptn ptd pfo pto ay (wrap64 (b_y - ay)) (wrap64 ((wrap64 ((wrap64 (2 * cy)) * n)) - n)) (wrap64 ((wrap64 ((wrap64 (2 * cy)) * n)) + n)) = true) (hP15 : bafn pfn pfd ptn ptd pfo pto ay (wrap64 (b_y - ay)) (wrap64 ((wrap64 ((wrap64 (2 * cy)) * n)) - n)) (wrap64 ((wrap64 ((wrap64 (2 * cy)) * n)) + n)) = qfn) (hP16 : bafd pfn pfd ptn ptd pfo pto ay (wrap64 (b_y - ay)) (wrap64 ((wrap64 ((wrap64 (2 * cy)) * n)) - n)) (wrap64 ((wrap64 ((wrap64 (2 * cy)) * n)) + n)) = qfd) (hP17 : batn pfn pfd ptn ptd pfo pto ay (wrap64 (b_y - ay)) (wrap64 ((wrap64 ((wrap64 (2 * cy)) * n)) - n)) (wrap64 ((wrap64 ((wrap64 (2 * cy)) * n)) + n)) = qtn) (hP18 : batd pfn pfd ptn ptd pfo pto ay (wrap64 (b_y - ay)) (wrap64 ((wrap64 ((wrap64 (2 * cy)) * n)) - n)) (wrap64 ((wrap64 ((wrap64 (2 * cy)) * n)) + n)) = qtd) (hP19 : bafo pfn pfd ptn ptd pfo pto ay (wrap64 (b_y - ay)) (wrap64 ((wrap64 ((wrap64 (2 * cy)) * n)) - n)) (wrap64 ((wrap64 ((wrap64 (2 * cy)) * n)) + n)) = qfo) (hP20 : bato pfn pfd ptn ptd pfo pto ay (wrap64 (b_y - ay)) (wrap64 ((wrap64 ((wrap64 (2 * cy)) * n)) - n)) (wrap64 ((wrap64 ((wrap64 (2 * cy)) * n)) + n)) = qto) (hP21 : smk_ qfn qfd qtn qtd qfo qto = false) (hP22 : smfn qfn qfd qtn qtd qfo qto = qfn) (hP23 : smfd qfn qfd qtn qtd qfo qto = qfd) (hP24 : smtn qfn qfd qtn qtd qfo qto = qtn) (hP25 : smtd qfn qfd qtn qtd qfo qto = qtd) (hP26 : smfo qfn qfd qtn qtd qfo qto = qfo) (hP27 : smto qfn qfd qtn qtd qfo qto = qto) (_ipfn : InI pfn) (_ipfd : InI pfd) (_iptn : InI ptn) (_iptd : InI ptd) (_iqfn : InI qfn) (_iqfd : InI qfd) (_iqtn : InI qtn) (_iqtd : InI qtd) (_iax : In64 ax) (_iay : In64 ay) (_ibx : In64 bx) (_ib_y : In64 b_y) (_icx : In64 cx) (_icy : In64 cy) (_in : In64 n)  (w : World)  :
    Calls Try.prog 30 #[.agg #[.int .i64 ax, .int .i64 ay, .int .i64 bx, .int .i64 b_y], .agg #[.int .i64 cx, .int .i64 cy], .int .i64 n] w fun e w' => e = .returned (.tuple #[.agg #[.int .u64 (wd0 R0), .int .u64 (wd1 R0), .int .u64 (wd2 R0), .int .u64 (wd3 R0), .int .u64 (wd0 R1), .int .u64 (wd1 R1), .int .u64 (wd2 R1), .int .u64 (wd3 R1), .int .u64 (wd0 R2), .int .u64 (wd1 R2), .int .u64 (wd2 R2), .int .u64 (wd3 R2), .int .u64 (wd0 R3), .int .u64 (wd1 R3), .int .u64 (wd2 R3), .int .u64 (wd3 R3), .bool R4, .bool R5], .bool R6]) ∧ Below w.heap.size w w' := by

  have HP0 := Lib.hid hP0
  clear hP0
  have HP1 := Lib.hid hP1
  clear hP1
  have HP2 := Lib.hid hP2
  clear hP2
  have HP3 := Lib.hid hP3
  clear hP3
  have HP4 := Lib.hid hP4
  clear hP4
  have HP5 := Lib.hid hP5
  clear hP5
  have HP6 := Lib.hid hP6
  clear hP6
  have HP7 := Lib.hid hP7
  clear hP7
  have HP8 := Lib.hid hP8
  clear hP8
  have HP9 := Lib.hid hP9
  clear hP9
  have HP10 := Lib.hid hP10
  clear hP10
  have HP11 := Lib.hid hP11
  clear hP11
  have HP12 := Lib.hid hP12
  clear hP12
  have HP13 := Lib.hid hP13
  clear hP13
  have HP14 := Lib.hid hP14
  clear hP14
  have HP15 := Lib.hid hP15
  clear hP15
  have HP16 := Lib.hid hP16
  clear hP16
  have HP17 := Lib.hid hP17
  clear hP17
  have HP18 := Lib.hid hP18
  clear hP18
  have HP19 := Lib.hid hP19
  clear hP19
  have HP20 := Lib.hid hP20
  clear hP20
  have HP21 := Lib.hid hP21
  clear hP21
  have HP22 := Lib.hid hP22
  clear hP22
  have HP23 := Lib.hid hP23
  clear hP23
  have HP24 := Lib.hid hP24
  clear hP24
  have HP25 := Lib.hid hP25
  clear hP25
  have HP26 := Lib.hid hP26
  clear hP26
  have HP27 := Lib.hid hP27
  clear hP27
  have HR0 := Lib.hid hR0
  clear hR0
  have HR1 := Lib.hid hR1
  clear hR1
  have HR2 := Lib.hid hR2
  clear hR2
  have HR3 := Lib.hid hR3
  clear hR3
  have HR4 := Lib.hid hR4
  clear hR4
  have HR5 := Lib.hid hR5
  clear hR5
  have HR6 := Lib.hid hR6
  clear hR6
  go_enter Try.func30, Try.ntmps30
  go_wp2_with fail
  first | refine calls_w ?_ | refine name_world ?_ | refine list_world ?_ | refine post_world ?_
  intro V1 hV1
  have hn : Below w.heap.size w V1 := by rw [hV1]; exact below_a3 _ _ _ _
  have nhb0 := hn
  have k1 : Blk V1 w.heap.size #[.int .i64 ax, .int .i64 ay, .int .i64 bx, .int .i64 b_y] 50 := by rw [hV1]; exact (((Blk.new _ _ _).alloc _).alloc _)
  have k2 : Blk V1 (w.heap.size + 1) #[.int .i64 cx, .int .i64 cy] 24 := by rw [hV1]; exact ((Blk.new1 _ _ _ _).alloc _)
  have k3 : Blk V1 (w.heap.size + 1 + 1) #[.int .u64 0, .int .u64 0, .int .u64 0, .int .u64 0, .int .u64 0, .int .u64 0, .int .u64 0, .int .u64 0, .int .u64 0, .int .u64 0, .int .u64 0, .int .u64 0, .int .u64 0, .int .u64 0, .int .u64 0, .int .u64 0, .bool false, .bool false] 54 := by rw [hV1]; exact (Blk.new2 _ _ _ _ _)
  clear hV1
  have hb0 := nhb0
  clear nhb0
  refine (pxSize_is n true HP0.out _in  _).mono ?_
  rintro e U2 ⟨rfl, hn⟩
  replace k1 := k1.of hn
  replace k2 := k2.of hn
  replace k3 := k3.of hn
  replace hb0 := hb0.trans (hn.mono hb0.size)
  clear hn
  have c1_0 : U2.cell? ⟨w.heap.size, 0, none⟩ = some (.int .i64 ax) := k1.cell 0
  have c1_1 : U2.cell? ⟨w.heap.size, 1, none⟩ = some (.int .i64 ay) := k1.cell 1
  have c1_2 : U2.cell? ⟨w.heap.size, 2, none⟩ = some (.int .i64 bx) := k1.cell 2
  have c1_3 : U2.cell? ⟨w.heap.size, 3, none⟩ = some (.int .i64 b_y) := k1.cell 3
  have l1 := k1.lt
  go_wp2_with fail
  clear c1_0 c1_1 c1_2 c1_3 l1
  refine (SegRight_is ax ay bx b_y true HP1.out _iax _iay _ibx _ib_y  _).mono ?_
  rintro e U3 ⟨rfl, hn⟩
  replace k1 := k1.of hn
  replace k2 := k2.of hn
  replace k3 := k3.of hn
  replace hb0 := hb0.trans (hn.mono hb0.size)
  clear hn
  have c2_0 : U3.cell? ⟨(w.heap.size + 1), 0, none⟩ = some (.int .i64 cx) := k2.cell 0
  have c2_1 : U3.cell? ⟨(w.heap.size + 1), 1, none⟩ = some (.int .i64 cy) := k2.cell 1
  have l2 := k2.lt
  go_wp2_with fail
  clear c2_0 c2_1 l2
  refine (PtRight_v cx cy true HP2.out _).mono ?_
  rintro e U4 ⟨rfl, hn⟩
  replace k1 := k1.of hn
  replace k2 := k2.of hn
  replace k3 := k3.of hn
  replace hb0 := hb0.trans (hn.mono hb0.size)
  clear hn
  go_wp2_with fail
  refine (rtOf_is 0 0 1 HP3.out HP4.out (by unfold In64; omega)  _).mono ?_
  rintro e U5 ⟨rfl, hn⟩
  replace k1 := k1.of hn
  replace k2 := k2.of hn
  replace k3 := k3.of hn
  replace hb0 := hb0.trans (hn.mono hb0.size)
  clear hn
  go_wp2_with fail
  refine (rtOf_is 1 1 1 HP5.out HP6.out (by unfold In64; omega)  _).mono ?_
  rintro e U6 ⟨rfl, hn⟩
  replace k1 := k1.of hn
  replace k2 := k2.of hn
  replace k3 := k3.of hn
  replace hb0 := hb0.trans (hn.mono hb0.size)
  clear hn
  go_wp2_with (first | ((with_reducible refine stRow (U6.heap.size) #[.int .u64 (wd0 0), .int .u64 (wd1 0), .int .u64 (wd2 0), .int .u64 (wd3 0), .int .u64 (wd0 1), .int .u64 (wd1 1), .int .u64 (wd2 1), .int .u64 (wd3 1), .int .u64 (wd0 1), .int .u64 (wd1 1), .int .u64 (wd2 1), .int .u64 (wd3 1), .int .u64 (wd0 1), .int .u64 (wd1 1), .int .u64 (wd2 1), .int .u64 (wd3 1), .bool false, .bool false] _ _ (Blk.new _ _ _) ?_ ?_ ?_ ?_ ?_ ?_); rfl; rfl; (as_aux_lemma => kernel_rfl); rfl; (as_aux_lemma => kernel_rfl); simp only [Act.put]))
  first | refine calls_w ?_ | refine name_world ?_ | refine list_world ?_ | refine post_world ?_
  intro V7 hV7
  rw [World.setRow_alloc_new] at hV7
  have D1 := Lib.hid k1.lt
  have D2 := Lib.hid k2.lt
  have D3 := Lib.hid k3.lt
  have D4 := Lib.hid hb0.size
  have hn : Below U6.heap.size U6 V7 := by rw [hV7]; exact below_a1 _ _
  have nk1 := k1.of hn
  have nk2 := k2.of hn
  have nk3 := k3.of hn
  have nhb0 := hb0.trans (hn.mono hb0.size)
  clear hn
  have k4 : Blk V7 U6.heap.size #[.int .u64 (wd0 0), .int .u64 (wd1 0), .int .u64 (wd2 0), .int .u64 (wd3 0), .int .u64 (wd0 1), .int .u64 (wd1 1), .int .u64 (wd2 1), .int .u64 (wd3 1), .int .u64 (wd0 1), .int .u64 (wd1 1), .int .u64 (wd2 1), .int .u64 (wd3 1), .int .u64 (wd0 1), .int .u64 (wd1 1), .int .u64 (wd2 1), .int .u64 (wd3 1), .bool false, .bool false] 54 := by rw [hV7]; exact (Blk.new _ _ _)
  clear k1 k2 k3
  clear hb0
  clear hV7
  have k1 := nk1
  clear nk1
  have k2 := nk2
  clear nk2
  have k3 := nk3
  clear nk3
  have hb0 := nhb0
  clear nhb0
  have c2_0 : V7.cell? ⟨(w.heap.size + 1), 0, none⟩ = some (.int .i64 cx) := k2.cell 0
  have c2_1 : V7.cell? ⟨(w.heap.size + 1), 1, none⟩ = some (.int .i64 cy) := k2.cell 1
  have l2 := k2.lt
  have Kk1 := Lib.hid k1
  clear k1
  have Kk2 := Lib.hid k2
  clear k2
  have Kk3 := Lib.hid k3
  clear k3
  have Kk4 := Lib.hid k4
  clear k4
  refine wp_region_up V7.heap.size 11 [(true, 0), (true, 1), (true, 2), (true, 3), (true, 4), (true, 5), (true, 6), (true, 7), (true, 8), (true, 9), (true, 10)] (by kernel_rfl) (by kernel_rfl) (fun _ _ d _ _ h => by cases d <;> exact h) ?_
  have hb : Below V7.heap.size V7 V7.drew := (Below.refl _ _).drew
  iterate 11
    refine wpS_takeL rfl rfl ?_
    go_big_quiet_step (rfl)
    refine wpQuiet_nil ?_
  refine wpS_nil ?_
  simp only [List.drop_succ_cons, List.drop_zero]
  first | refine calls_w ?_ | refine name_world ?_ | refine list_world ?_ | refine post_world ?_
  intro U8 hU8
  first | (subst hU8; have u_ := U8; clear u_) | (rw [← hU8] at hb; clear hU8)
  clear c2_0 c2_1 l2
  have k1 := Kk1.out.of hb
  clear Kk1
  have k2 := Kk2.out.of hb
  clear Kk2
  have k3 := Kk3.out.of hb
  clear Kk3
  have k4 := Kk4.out.of hb
  clear Kk4
  replace hb0 := hb0.trans (hb.mono hb0.size)
  clear hb
  have c1_0 : U8.cell? ⟨w.heap.size, 0, none⟩ = some (.int .i64 ax) := k1.cell 0
  have c1_2 : U8.cell? ⟨w.heap.size, 2, none⟩ = some (.int .i64 bx) := k1.cell 2
  have l1 := k1.lt
  go_wp2_with fail
  clear c1_0 c1_2 l1
  refine (pxba_is 0 1 1 1 false false ax (wrap64 (bx - ax)) (wrap64 ((wrap64 ((wrap64 (2 * cx)) * n)) - n)) (wrap64 ((wrap64 ((wrap64 (2 * cx)) * n)) + n)) true pfn pfd ptn ptd pfo pto HP7.out HP8.out HP9.out HP10.out HP11.out HP12.out HP13.out (by unfold InI b255; omega) (by unfold InI b255; omega) (by unfold InI b255; omega) (by unfold InI b255; omega) _iax (wrap64_in _) (wrap64_in _) (wrap64_in _) (U6.heap.size) _ k4).mono ?_
  rintro e U9 ⟨rfl, hk_, hn⟩
  clear k2
  replace k1 := k1.below hn (by have := D1.out; omega)
  replace k3 := k3.below hn (by have := D3.out; omega)
  replace k4 := hk_
  clear hk_
  replace hb0 := hb0.trans (hn.mono (by have := D4.out; omega))
  clear hn
  have c1_1 : U9.cell? ⟨w.heap.size, 1, none⟩ = some (.int .i64 ay) := k1.cell 1
  have c1_3 : U9.cell? ⟨w.heap.size, 3, none⟩ = some (.int .i64 b_y) := k1.cell 3
  have l1 := k1.lt
  go_wp2_with fail
  clear c1_1 c1_3 l1
  refine (pxba_is pfn pfd ptn ptd pfo pto ay (wrap64 (b_y - ay)) (wrap64 ((wrap64 ((wrap64 (2 * cy)) * n)) - n)) (wrap64 ((wrap64 ((wrap64 (2 * cy)) * n)) + n)) true qfn qfd qtn qtd qfo qto HP14.out HP15.out HP16.out HP17.out HP18.out HP19.out HP20.out _ipfn _ipfd _iptn _iptd _iay (wrap64_in _) (wrap64_in _) (wrap64_in _) (U6.heap.size) _ k4).mono ?_
  rintro e U10 ⟨rfl, hk_, hn⟩
  clear k1
  replace k3 := k3.below hn (by have := D3.out; omega)
  replace k4 := hk_
  clear hk_
  replace hb0 := hb0.trans (hn.mono (by have := D4.out; omega))
  clear hn
  go_wp2_with fail
  refine (pxsm_is qfn qfd qtn qtd qfo qto false qfn qfd qtn qtd qfo qto HP21.out HP22.out HP23.out HP24.out HP25.out HP26.out HP27.out _iqfn _iqfd _iqtn _iqtd (U6.heap.size) _ k4).mono ?_
  rintro e U11 ⟨rfl, hk_, hn⟩
  replace k3 := k3.below hn (by have := D3.out; omega)
  replace k4 := hk_
  clear hk_
  replace hb0 := hb0.trans (hn.mono (by have := D4.out; omega))
  clear hn
  have e0 : 0 = R0 := by rw [← HR0.out]; (try rw [HP0.out]); (try rw [HP1.out]); (try rw [HP2.out]); (try rw [HP3.out]); (try rw [HP4.out]); (try rw [HP5.out]); (try rw [HP6.out]); (try rw [HP7.out]); (try rw [HP8.out]); (try rw [HP9.out]); (try rw [HP10.out]); (try rw [HP11.out]); (try rw [HP12.out]); (try rw [HP13.out]); (try rw [HP14.out]); (try rw [HP15.out]); (try rw [HP16.out]); (try rw [HP17.out]); (try rw [HP18.out]); (try rw [HP19.out]); (try rw [HP20.out]); (try rw [HP21.out]); (try rw [HP22.out]); (try rw [HP23.out]); (try rw [HP24.out]); (try rw [HP25.out]); (try rw [HP26.out]); (try rw [HP27.out]); all_goals first | rfl | simp
  have e1 : 0 = R1 := by rw [← HR1.out]; (try rw [HP0.out]); (try rw [HP1.out]); (try rw [HP2.out]); (try rw [HP3.out]); (try rw [HP4.out]); (try rw [HP5.out]); (try rw [HP6.out]); (try rw [HP7.out]); (try rw [HP8.out]); (try rw [HP9.out]); (try rw [HP10.out]); (try rw [HP11.out]); (try rw [HP12.out]); (try rw [HP13.out]); (try rw [HP14.out]); (try rw [HP15.out]); (try rw [HP16.out]); (try rw [HP17.out]); (try rw [HP18.out]); (try rw [HP19.out]); (try rw [HP20.out]); (try rw [HP21.out]); (try rw [HP22.out]); (try rw [HP23.out]); (try rw [HP24.out]); (try rw [HP25.out]); (try rw [HP26.out]); (try rw [HP27.out]); all_goals first | rfl | simp
  have e2 : 0 = R2 := by rw [← HR2.out]; (try rw [HP0.out]); (try rw [HP1.out]); (try rw [HP2.out]); (try rw [HP3.out]); (try rw [HP4.out]); (try rw [HP5.out]); (try rw [HP6.out]); (try rw [HP7.out]); (try rw [HP8.out]); (try rw [HP9.out]); (try rw [HP10.out]); (try rw [HP11.out]); (try rw [HP12.out]); (try rw [HP13.out]); (try rw [HP14.out]); (try rw [HP15.out]); (try rw [HP16.out]); (try rw [HP17.out]); (try rw [HP18.out]); (try rw [HP19.out]); (try rw [HP20.out]); (try rw [HP21.out]); (try rw [HP22.out]); (try rw [HP23.out]); (try rw [HP24.out]); (try rw [HP25.out]); (try rw [HP26.out]); (try rw [HP27.out]); all_goals first | rfl | simp
  have e3 : 0 = R3 := by rw [← HR3.out]; (try rw [HP0.out]); (try rw [HP1.out]); (try rw [HP2.out]); (try rw [HP3.out]); (try rw [HP4.out]); (try rw [HP5.out]); (try rw [HP6.out]); (try rw [HP7.out]); (try rw [HP8.out]); (try rw [HP9.out]); (try rw [HP10.out]); (try rw [HP11.out]); (try rw [HP12.out]); (try rw [HP13.out]); (try rw [HP14.out]); (try rw [HP15.out]); (try rw [HP16.out]); (try rw [HP17.out]); (try rw [HP18.out]); (try rw [HP19.out]); (try rw [HP20.out]); (try rw [HP21.out]); (try rw [HP22.out]); (try rw [HP23.out]); (try rw [HP24.out]); (try rw [HP25.out]); (try rw [HP26.out]); (try rw [HP27.out]); all_goals first | rfl | simp
  have e4 : false = R4 := by rw [← HR4.out]; (try rw [HP0.out]); (try rw [HP1.out]); (try rw [HP2.out]); (try rw [HP3.out]); (try rw [HP4.out]); (try rw [HP5.out]); (try rw [HP6.out]); (try rw [HP7.out]); (try rw [HP8.out]); (try rw [HP9.out]); (try rw [HP10.out]); (try rw [HP11.out]); (try rw [HP12.out]); (try rw [HP13.out]); (try rw [HP14.out]); (try rw [HP15.out]); (try rw [HP16.out]); (try rw [HP17.out]); (try rw [HP18.out]); (try rw [HP19.out]); (try rw [HP20.out]); (try rw [HP21.out]); (try rw [HP22.out]); (try rw [HP23.out]); (try rw [HP24.out]); (try rw [HP25.out]); (try rw [HP26.out]); (try rw [HP27.out]); all_goals first | rfl | simp
  have e5 : false = R5 := by rw [← HR5.out]; (try rw [HP0.out]); (try rw [HP1.out]); (try rw [HP2.out]); (try rw [HP3.out]); (try rw [HP4.out]); (try rw [HP5.out]); (try rw [HP6.out]); (try rw [HP7.out]); (try rw [HP8.out]); (try rw [HP9.out]); (try rw [HP10.out]); (try rw [HP11.out]); (try rw [HP12.out]); (try rw [HP13.out]); (try rw [HP14.out]); (try rw [HP15.out]); (try rw [HP16.out]); (try rw [HP17.out]); (try rw [HP18.out]); (try rw [HP19.out]); (try rw [HP20.out]); (try rw [HP21.out]); (try rw [HP22.out]); (try rw [HP23.out]); (try rw [HP24.out]); (try rw [HP25.out]); (try rw [HP26.out]); (try rw [HP27.out]); all_goals first | rfl | simp
  have e6 : false = R6 := by rw [← HR6.out]; (try rw [HP0.out]); (try rw [HP1.out]); (try rw [HP2.out]); (try rw [HP3.out]); (try rw [HP4.out]); (try rw [HP5.out]); (try rw [HP6.out]); (try rw [HP7.out]); (try rw [HP8.out]); (try rw [HP9.out]); (try rw [HP10.out]); (try rw [HP11.out]); (try rw [HP12.out]); (try rw [HP13.out]); (try rw [HP14.out]); (try rw [HP15.out]); (try rw [HP16.out]); (try rw [HP17.out]); (try rw [HP18.out]); (try rw [HP19.out]); (try rw [HP20.out]); (try rw [HP21.out]); (try rw [HP22.out]); (try rw [HP23.out]); (try rw [HP24.out]); (try rw [HP25.out]); (try rw [HP26.out]); (try rw [HP27.out]); all_goals first | rfl | simp
  subst e0
  subst e1
  subst e2
  subst e3
  subst e4
  subst e5
  subst e6
  go_wp2_with (first | ((with_reducible refine stRow (w.heap.size + 1 + 1) #[.int .u64 0, .int .u64 0, .int .u64 0, .int .u64 0, .int .u64 0, .int .u64 0, .int .u64 0, .int .u64 0, .int .u64 0, .int .u64 0, .int .u64 0, .int .u64 0, .int .u64 0, .int .u64 0, .int .u64 0, .int .u64 0, .bool false, .bool false] _ _ k3 ?_ ?_ ?_ ?_ ?_ ?_); rfl; rfl; (as_aux_lemma => kernel_rfl); rfl; (as_aux_lemma => kernel_rfl); simp only [Act.put]))
  first | refine post_world ?_
  intro V12 hV12
  have D5 := Lib.hid k3.lt
  have D6 := Lib.hid k4.lt
  have D7 := Lib.hid hb0.size
  clear k4
  have nk3 : Blk V12 (w.heap.size + 1 + 1) #[.int .u64 0, .int .u64 0, .int .u64 0, .int .u64 0, .int .u64 0, .int .u64 0, .int .u64 0, .int .u64 0, .int .u64 0, .int .u64 0, .int .u64 0, .int .u64 0, .int .u64 0, .int .u64 0, .int .u64 0, .int .u64 0, .bool false, .bool false] 54 := by rw [hV12]; exact blk_row k3 _
  have nhb0 : Below w.heap.size w V12 := by rw [hV12]; exact blw_row hb0 (by omega) _
  clear k3
  clear hb0
  clear hV12
  have k3 := nk3
  clear nk3
  have hb0 := nhb0
  clear nhb0
  refine ⟨rfl, _, results_row_tmp rfl _ _ _ _ _ _ _ rfl k3 rfl rfl (by as_aux_lemma => kernel_rfl), ?_, hb0⟩
  first | rfl | kernel_rfl

set_option maxRecDepth 100000 in
set_option maxHeartbeats 4000000 in

theorem pxCut_6 (ax : Int) (ay : Int) (bx : Int) (b_y : Int) (cx : Int) (cy : Int) (n : Int) (pfn : Int) (pfd : Int) (ptn : Int) (ptd : Int) (pfo : Bool) (pto : Bool) (qfn : Int) (qfd : Int) (qtn : Int) (qtd : Int) (qfo : Bool) (qto : Bool) (R0 : Int) (R1 : Int) (R2 : Int) (R3 : Int) (R4 : Bool) (R5 : Bool) (R6 : Bool) (hR0 : (fun (_ : Int) (_ : Int) (_ : Int) (_ : Int) (_ : Int) (_ : Int) (_ : Int) => qfn) ax ay bx b_y cx cy n = R0) (hR1 : (fun (_ : Int) (_ : Int) (_ : Int) (_ : Int) (_ : Int) (_ : Int) (_ : Int) => qfd) ax ay bx b_y cx cy n = R1) (hR2 : (fun (_ : Int) (_ : Int) (_ : Int) (_ : Int) (_ : Int) (_ : Int) (_ : Int) => qtn) ax ay bx b_y cx cy n = R2) (hR3 : (fun (_ : Int) (_ : Int) (_ : Int) (_ : Int) (_ : Int) (_ : Int) (_ : Int) => qtd) ax ay bx b_y cx cy n = R3) (hR4 : (fun (_ : Int) (_ : Int) (_ : Int) (_ : Int) (_ : Int) (_ : Int) (_ : Int) => qfo) ax ay bx b_y cx cy n = R4) (hR5 : (fun (_ : Int) (_ : Int) (_ : Int) (_ : Int) (_ : Int) (_ : Int) (_ : Int) => qto) ax ay bx b_y cx cy n = R5) (hR6 : (fun (_ : Int) (_ : Int) (_ : Int) (_ : Int) (_ : Int) (_ : Int) (_ : Int) => true) ax ay bx b_y cx cy n = R6) (hP0 : pxS n = true) (hP1 : sgR ax ay bx b_y = true) (hP2 : rp cx cy = true) (hP3 : rtOn 0 = 0) (hP4 : rtOd 0 = 1) (hP5 : rtOn 1 = 1) (hP6 : rtOd 1 = 1) (hP7 : bak 0 1 1 1 false false ax (wrap64 (bx - ax)) (wrap64 ((wrap64 ((wrap64 (2 * cx)) * n)) - n)) (wrap64 ((wrap64 ((wrap64 (2 * cx)) * n)) + n)) = true) (hP8 : bafn 0 1 1 1 false false ax (wrap64 (bx - ax)) (wrap64 ((wrap64 ((wrap64 (2 * cx)) * n)) - n)) (wrap64 ((wrap64 ((wrap64 (2 * cx)) * n)) + n)) = pfn) (hP9 : bafd 0 1 1 1 false false ax (wrap64 (bx - ax)) (wrap64 ((wrap64 ((wrap64 (2 * cx)) * n)) - n)) (wrap64 ((wrap64 ((wrap64 (2 * cx)) * n)) + n)) = pfd) (hP10 : batn 0 1 1 1 false false ax (wrap64 (bx - ax)) (wrap64 ((wrap64 ((wrap64 (2 * cx)) * n)) - n)) (wrap64 ((wrap64 ((wrap64 (2 * cx)) * n)) + n)) = ptn) (hP11 : batd 0 1 1 1 false false ax (wrap64 (bx - ax)) (wrap64 ((wrap64 ((wrap64 (2 * cx)) * n)) - n)) (wrap64 ((wrap64 ((wrap64 (2 * cx)) * n)) + n)) = ptd) (hP12 : bafo 0 1 1 1 false false ax (wrap64 (bx - ax)) (wrap64 ((wrap64 ((wrap64 (2 * cx)) * n)) - n)) (wrap64 ((wrap64 ((wrap64 (2 * cx)) * n)) + n)) = pfo) (hP13 : bato 0 1 1 1 false false ax (wrap64 (bx - ax)) (wrap64 ((wrap64 ((wrap64 (2 * cx)) * n)) - n)) (wrap64 ((wrap64 ((wrap64 (2 * cx)) * n)) + n)) = pto) (hP14 : bak pfn pfd ptn ptd pfo pto ay (wrap64 (b_y - ay)) (wrap64 ((wrap64 ((wrap64 (2 * cy)) * n)) - n)) (wrap64 ((wrap64 ((wrap64 (2 * cy)) * n)) + n)) = true) (hP15 : bafn pfn pfd ptn ptd pfo pto ay (wrap64 (b_y - ay)) (wrap64 ((wrap64 ((wrap64 (2 * cy)) * n)) - n)) (wrap64 ((wrap64 ((wrap64 (2 * cy)) * n)) + n)) = qfn) (hP16 : bafd pfn pfd ptn ptd pfo pto ay (wrap64 (b_y - ay)) (wrap64 ((wrap64 ((wrap64 (2 * cy)) * n)) - n)) (wrap64 ((wrap64 ((wrap64 (2 * cy)) * n)) + n)) = qfd) (hP17 : batn pfn pfd ptn ptd pfo pto ay (wrap64 (b_y - ay)) (wrap64 ((wrap64 ((wrap64 (2 * cy)) * n)) - n)) (wrap64 ((wrap64 ((wrap64 (2 * cy)) * n)) + n)) = qtn) (hP18 : batd pfn pfd ptn ptd pfo pto ay (wrap64 (b_y - ay)) (wrap64 ((wrap64 ((wrap64 (2 * cy)) * n)) - n)) (wrap64 ((wrap64 ((wrap64 (2 * cy)) * n)) + n)) = qtd) (hP19 : bafo pfn pfd ptn ptd pfo pto ay (wrap64 (b_y - ay)) (wrap64 ((wrap64 ((wrap64 (2 * cy)) * n)) - n)) (wrap64 ((wrap64 ((wrap64 (2 * cy)) * n)) + n)) = qfo) (hP20 : bato pfn pfd ptn ptd pfo pto ay (wrap64 (b_y - ay)) (wrap64 ((wrap64 ((wrap64 (2 * cy)) * n)) - n)) (wrap64 ((wrap64 ((wrap64 (2 * cy)) * n)) + n)) = qto) (hP21 : smk_ qfn qfd qtn qtd qfo qto = true) (hP22 : smfn qfn qfd qtn qtd qfo qto = qfn) (hP23 : smfd qfn qfd qtn qtd qfo qto = qfd) (hP24 : smtn qfn qfd qtn qtd qfo qto = qtn) (hP25 : smtd qfn qfd qtn qtd qfo qto = qtd) (hP26 : smfo qfn qfd qtn qtd qfo qto = qfo) (hP27 : smto qfn qfd qtn qtd qfo qto = qto) (_ipfn : InI pfn) (_ipfd : InI pfd) (_iptn : InI ptn) (_iptd : InI ptd) (_iqfn : InI qfn) (_iqfd : InI qfd) (_iqtn : InI qtn) (_iqtd : InI qtd) (_iax : In64 ax) (_iay : In64 ay) (_ibx : In64 bx) (_ib_y : In64 b_y) (_icx : In64 cx) (_icy : In64 cy) (_in : In64 n)  (w : World)  :
    Calls Try.prog 30 #[.agg #[.int .i64 ax, .int .i64 ay, .int .i64 bx, .int .i64 b_y], .agg #[.int .i64 cx, .int .i64 cy], .int .i64 n] w fun e w' => e = .returned (.tuple #[.agg #[.int .u64 (wd0 R0), .int .u64 (wd1 R0), .int .u64 (wd2 R0), .int .u64 (wd3 R0), .int .u64 (wd0 R1), .int .u64 (wd1 R1), .int .u64 (wd2 R1), .int .u64 (wd3 R1), .int .u64 (wd0 R2), .int .u64 (wd1 R2), .int .u64 (wd2 R2), .int .u64 (wd3 R2), .int .u64 (wd0 R3), .int .u64 (wd1 R3), .int .u64 (wd2 R3), .int .u64 (wd3 R3), .bool R4, .bool R5], .bool R6]) ∧ Below w.heap.size w w' := by

  have HP0 := Lib.hid hP0
  clear hP0
  have HP1 := Lib.hid hP1
  clear hP1
  have HP2 := Lib.hid hP2
  clear hP2
  have HP3 := Lib.hid hP3
  clear hP3
  have HP4 := Lib.hid hP4
  clear hP4
  have HP5 := Lib.hid hP5
  clear hP5
  have HP6 := Lib.hid hP6
  clear hP6
  have HP7 := Lib.hid hP7
  clear hP7
  have HP8 := Lib.hid hP8
  clear hP8
  have HP9 := Lib.hid hP9
  clear hP9
  have HP10 := Lib.hid hP10
  clear hP10
  have HP11 := Lib.hid hP11
  clear hP11
  have HP12 := Lib.hid hP12
  clear hP12
  have HP13 := Lib.hid hP13
  clear hP13
  have HP14 := Lib.hid hP14
  clear hP14
  have HP15 := Lib.hid hP15
  clear hP15
  have HP16 := Lib.hid hP16
  clear hP16
  have HP17 := Lib.hid hP17
  clear hP17
  have HP18 := Lib.hid hP18
  clear hP18
  have HP19 := Lib.hid hP19
  clear hP19
  have HP20 := Lib.hid hP20
  clear hP20
  have HP21 := Lib.hid hP21
  clear hP21
  have HP22 := Lib.hid hP22
  clear hP22
  have HP23 := Lib.hid hP23
  clear hP23
  have HP24 := Lib.hid hP24
  clear hP24
  have HP25 := Lib.hid hP25
  clear hP25
  have HP26 := Lib.hid hP26
  clear hP26
  have HP27 := Lib.hid hP27
  clear hP27
  have HR0 := Lib.hid hR0
  clear hR0
  have HR1 := Lib.hid hR1
  clear hR1
  have HR2 := Lib.hid hR2
  clear hR2
  have HR3 := Lib.hid hR3
  clear hR3
  have HR4 := Lib.hid hR4
  clear hR4
  have HR5 := Lib.hid hR5
  clear hR5
  have HR6 := Lib.hid hR6
  clear hR6
  go_enter Try.func30, Try.ntmps30
  go_wp2_with fail
  first | refine calls_w ?_ | refine name_world ?_ | refine list_world ?_ | refine post_world ?_
  intro V1 hV1
  have hn : Below w.heap.size w V1 := by rw [hV1]; exact below_a3 _ _ _ _
  have nhb0 := hn
  have k1 : Blk V1 w.heap.size #[.int .i64 ax, .int .i64 ay, .int .i64 bx, .int .i64 b_y] 50 := by rw [hV1]; exact (((Blk.new _ _ _).alloc _).alloc _)
  have k2 : Blk V1 (w.heap.size + 1) #[.int .i64 cx, .int .i64 cy] 24 := by rw [hV1]; exact ((Blk.new1 _ _ _ _).alloc _)
  have k3 : Blk V1 (w.heap.size + 1 + 1) #[.int .u64 0, .int .u64 0, .int .u64 0, .int .u64 0, .int .u64 0, .int .u64 0, .int .u64 0, .int .u64 0, .int .u64 0, .int .u64 0, .int .u64 0, .int .u64 0, .int .u64 0, .int .u64 0, .int .u64 0, .int .u64 0, .bool false, .bool false] 54 := by rw [hV1]; exact (Blk.new2 _ _ _ _ _)
  clear hV1
  have hb0 := nhb0
  clear nhb0
  refine (pxSize_is n true HP0.out _in  _).mono ?_
  rintro e U2 ⟨rfl, hn⟩
  replace k1 := k1.of hn
  replace k2 := k2.of hn
  replace k3 := k3.of hn
  replace hb0 := hb0.trans (hn.mono hb0.size)
  clear hn
  have c1_0 : U2.cell? ⟨w.heap.size, 0, none⟩ = some (.int .i64 ax) := k1.cell 0
  have c1_1 : U2.cell? ⟨w.heap.size, 1, none⟩ = some (.int .i64 ay) := k1.cell 1
  have c1_2 : U2.cell? ⟨w.heap.size, 2, none⟩ = some (.int .i64 bx) := k1.cell 2
  have c1_3 : U2.cell? ⟨w.heap.size, 3, none⟩ = some (.int .i64 b_y) := k1.cell 3
  have l1 := k1.lt
  go_wp2_with fail
  clear c1_0 c1_1 c1_2 c1_3 l1
  refine (SegRight_is ax ay bx b_y true HP1.out _iax _iay _ibx _ib_y  _).mono ?_
  rintro e U3 ⟨rfl, hn⟩
  replace k1 := k1.of hn
  replace k2 := k2.of hn
  replace k3 := k3.of hn
  replace hb0 := hb0.trans (hn.mono hb0.size)
  clear hn
  have c2_0 : U3.cell? ⟨(w.heap.size + 1), 0, none⟩ = some (.int .i64 cx) := k2.cell 0
  have c2_1 : U3.cell? ⟨(w.heap.size + 1), 1, none⟩ = some (.int .i64 cy) := k2.cell 1
  have l2 := k2.lt
  go_wp2_with fail
  clear c2_0 c2_1 l2
  refine (PtRight_v cx cy true HP2.out _).mono ?_
  rintro e U4 ⟨rfl, hn⟩
  replace k1 := k1.of hn
  replace k2 := k2.of hn
  replace k3 := k3.of hn
  replace hb0 := hb0.trans (hn.mono hb0.size)
  clear hn
  go_wp2_with fail
  refine (rtOf_is 0 0 1 HP3.out HP4.out (by unfold In64; omega)  _).mono ?_
  rintro e U5 ⟨rfl, hn⟩
  replace k1 := k1.of hn
  replace k2 := k2.of hn
  replace k3 := k3.of hn
  replace hb0 := hb0.trans (hn.mono hb0.size)
  clear hn
  go_wp2_with fail
  refine (rtOf_is 1 1 1 HP5.out HP6.out (by unfold In64; omega)  _).mono ?_
  rintro e U6 ⟨rfl, hn⟩
  replace k1 := k1.of hn
  replace k2 := k2.of hn
  replace k3 := k3.of hn
  replace hb0 := hb0.trans (hn.mono hb0.size)
  clear hn
  go_wp2_with (first | ((with_reducible refine stRow (U6.heap.size) #[.int .u64 (wd0 0), .int .u64 (wd1 0), .int .u64 (wd2 0), .int .u64 (wd3 0), .int .u64 (wd0 1), .int .u64 (wd1 1), .int .u64 (wd2 1), .int .u64 (wd3 1), .int .u64 (wd0 1), .int .u64 (wd1 1), .int .u64 (wd2 1), .int .u64 (wd3 1), .int .u64 (wd0 1), .int .u64 (wd1 1), .int .u64 (wd2 1), .int .u64 (wd3 1), .bool false, .bool false] _ _ (Blk.new _ _ _) ?_ ?_ ?_ ?_ ?_ ?_); rfl; rfl; (as_aux_lemma => kernel_rfl); rfl; (as_aux_lemma => kernel_rfl); simp only [Act.put]))
  first | refine calls_w ?_ | refine name_world ?_ | refine list_world ?_ | refine post_world ?_
  intro V7 hV7
  rw [World.setRow_alloc_new] at hV7
  have D1 := Lib.hid k1.lt
  have D2 := Lib.hid k2.lt
  have D3 := Lib.hid k3.lt
  have D4 := Lib.hid hb0.size
  have hn : Below U6.heap.size U6 V7 := by rw [hV7]; exact below_a1 _ _
  have nk1 := k1.of hn
  have nk2 := k2.of hn
  have nk3 := k3.of hn
  have nhb0 := hb0.trans (hn.mono hb0.size)
  clear hn
  have k4 : Blk V7 U6.heap.size #[.int .u64 (wd0 0), .int .u64 (wd1 0), .int .u64 (wd2 0), .int .u64 (wd3 0), .int .u64 (wd0 1), .int .u64 (wd1 1), .int .u64 (wd2 1), .int .u64 (wd3 1), .int .u64 (wd0 1), .int .u64 (wd1 1), .int .u64 (wd2 1), .int .u64 (wd3 1), .int .u64 (wd0 1), .int .u64 (wd1 1), .int .u64 (wd2 1), .int .u64 (wd3 1), .bool false, .bool false] 54 := by rw [hV7]; exact (Blk.new _ _ _)
  clear k1 k2 k3
  clear hb0
  clear hV7
  have k1 := nk1
  clear nk1
  have k2 := nk2
  clear nk2
  have k3 := nk3
  clear nk3
  have hb0 := nhb0
  clear nhb0
  have c2_0 : V7.cell? ⟨(w.heap.size + 1), 0, none⟩ = some (.int .i64 cx) := k2.cell 0
  have c2_1 : V7.cell? ⟨(w.heap.size + 1), 1, none⟩ = some (.int .i64 cy) := k2.cell 1
  have l2 := k2.lt
  have Kk1 := Lib.hid k1
  clear k1
  have Kk2 := Lib.hid k2
  clear k2
  have Kk3 := Lib.hid k3
  clear k3
  have Kk4 := Lib.hid k4
  clear k4
  refine wp_region_up V7.heap.size 11 [(true, 0), (true, 1), (true, 2), (true, 3), (true, 4), (true, 5), (true, 6), (true, 7), (true, 8), (true, 9), (true, 10)] (by kernel_rfl) (by kernel_rfl) (fun _ _ d _ _ h => by cases d <;> exact h) ?_
  have hb : Below V7.heap.size V7 V7.drew := (Below.refl _ _).drew
  iterate 11
    refine wpS_takeL rfl rfl ?_
    go_big_quiet_step (rfl)
    refine wpQuiet_nil ?_
  refine wpS_nil ?_
  simp only [List.drop_succ_cons, List.drop_zero]
  first | refine calls_w ?_ | refine name_world ?_ | refine list_world ?_ | refine post_world ?_
  intro U8 hU8
  first | (subst hU8; have u_ := U8; clear u_) | (rw [← hU8] at hb; clear hU8)
  clear c2_0 c2_1 l2
  have k1 := Kk1.out.of hb
  clear Kk1
  have k2 := Kk2.out.of hb
  clear Kk2
  have k3 := Kk3.out.of hb
  clear Kk3
  have k4 := Kk4.out.of hb
  clear Kk4
  replace hb0 := hb0.trans (hb.mono hb0.size)
  clear hb
  have c1_0 : U8.cell? ⟨w.heap.size, 0, none⟩ = some (.int .i64 ax) := k1.cell 0
  have c1_2 : U8.cell? ⟨w.heap.size, 2, none⟩ = some (.int .i64 bx) := k1.cell 2
  have l1 := k1.lt
  go_wp2_with fail
  clear c1_0 c1_2 l1
  refine (pxba_is 0 1 1 1 false false ax (wrap64 (bx - ax)) (wrap64 ((wrap64 ((wrap64 (2 * cx)) * n)) - n)) (wrap64 ((wrap64 ((wrap64 (2 * cx)) * n)) + n)) true pfn pfd ptn ptd pfo pto HP7.out HP8.out HP9.out HP10.out HP11.out HP12.out HP13.out (by unfold InI b255; omega) (by unfold InI b255; omega) (by unfold InI b255; omega) (by unfold InI b255; omega) _iax (wrap64_in _) (wrap64_in _) (wrap64_in _) (U6.heap.size) _ k4).mono ?_
  rintro e U9 ⟨rfl, hk_, hn⟩
  clear k2
  replace k1 := k1.below hn (by have := D1.out; omega)
  replace k3 := k3.below hn (by have := D3.out; omega)
  replace k4 := hk_
  clear hk_
  replace hb0 := hb0.trans (hn.mono (by have := D4.out; omega))
  clear hn
  have c1_1 : U9.cell? ⟨w.heap.size, 1, none⟩ = some (.int .i64 ay) := k1.cell 1
  have c1_3 : U9.cell? ⟨w.heap.size, 3, none⟩ = some (.int .i64 b_y) := k1.cell 3
  have l1 := k1.lt
  go_wp2_with fail
  clear c1_1 c1_3 l1
  refine (pxba_is pfn pfd ptn ptd pfo pto ay (wrap64 (b_y - ay)) (wrap64 ((wrap64 ((wrap64 (2 * cy)) * n)) - n)) (wrap64 ((wrap64 ((wrap64 (2 * cy)) * n)) + n)) true qfn qfd qtn qtd qfo qto HP14.out HP15.out HP16.out HP17.out HP18.out HP19.out HP20.out _ipfn _ipfd _iptn _iptd _iay (wrap64_in _) (wrap64_in _) (wrap64_in _) (U6.heap.size) _ k4).mono ?_
  rintro e U10 ⟨rfl, hk_, hn⟩
  clear k1
  replace k3 := k3.below hn (by have := D3.out; omega)
  replace k4 := hk_
  clear hk_
  replace hb0 := hb0.trans (hn.mono (by have := D4.out; omega))
  clear hn
  go_wp2_with fail
  refine (pxsm_is qfn qfd qtn qtd qfo qto true qfn qfd qtn qtd qfo qto HP21.out HP22.out HP23.out HP24.out HP25.out HP26.out HP27.out _iqfn _iqfd _iqtn _iqtd (U6.heap.size) _ k4).mono ?_
  rintro e U11 ⟨rfl, hk_, hn⟩
  replace k3 := k3.below hn (by have := D3.out; omega)
  replace k4 := hk_
  clear hk_
  replace hb0 := hb0.trans (hn.mono (by have := D4.out; omega))
  clear hn
  have e0 : qfn = R0 := by rw [← HR0.out]; (try rw [HP0.out]); (try rw [HP1.out]); (try rw [HP2.out]); (try rw [HP3.out]); (try rw [HP4.out]); (try rw [HP5.out]); (try rw [HP6.out]); (try rw [HP7.out]); (try rw [HP8.out]); (try rw [HP9.out]); (try rw [HP10.out]); (try rw [HP11.out]); (try rw [HP12.out]); (try rw [HP13.out]); (try rw [HP14.out]); (try rw [HP15.out]); (try rw [HP16.out]); (try rw [HP17.out]); (try rw [HP18.out]); (try rw [HP19.out]); (try rw [HP20.out]); (try rw [HP21.out]); (try rw [HP22.out]); (try rw [HP23.out]); (try rw [HP24.out]); (try rw [HP25.out]); (try rw [HP26.out]); (try rw [HP27.out]); all_goals first | rfl | simp
  have e1 : qfd = R1 := by rw [← HR1.out]; (try rw [HP0.out]); (try rw [HP1.out]); (try rw [HP2.out]); (try rw [HP3.out]); (try rw [HP4.out]); (try rw [HP5.out]); (try rw [HP6.out]); (try rw [HP7.out]); (try rw [HP8.out]); (try rw [HP9.out]); (try rw [HP10.out]); (try rw [HP11.out]); (try rw [HP12.out]); (try rw [HP13.out]); (try rw [HP14.out]); (try rw [HP15.out]); (try rw [HP16.out]); (try rw [HP17.out]); (try rw [HP18.out]); (try rw [HP19.out]); (try rw [HP20.out]); (try rw [HP21.out]); (try rw [HP22.out]); (try rw [HP23.out]); (try rw [HP24.out]); (try rw [HP25.out]); (try rw [HP26.out]); (try rw [HP27.out]); all_goals first | rfl | simp
  have e2 : qtn = R2 := by rw [← HR2.out]; (try rw [HP0.out]); (try rw [HP1.out]); (try rw [HP2.out]); (try rw [HP3.out]); (try rw [HP4.out]); (try rw [HP5.out]); (try rw [HP6.out]); (try rw [HP7.out]); (try rw [HP8.out]); (try rw [HP9.out]); (try rw [HP10.out]); (try rw [HP11.out]); (try rw [HP12.out]); (try rw [HP13.out]); (try rw [HP14.out]); (try rw [HP15.out]); (try rw [HP16.out]); (try rw [HP17.out]); (try rw [HP18.out]); (try rw [HP19.out]); (try rw [HP20.out]); (try rw [HP21.out]); (try rw [HP22.out]); (try rw [HP23.out]); (try rw [HP24.out]); (try rw [HP25.out]); (try rw [HP26.out]); (try rw [HP27.out]); all_goals first | rfl | simp
  have e3 : qtd = R3 := by rw [← HR3.out]; (try rw [HP0.out]); (try rw [HP1.out]); (try rw [HP2.out]); (try rw [HP3.out]); (try rw [HP4.out]); (try rw [HP5.out]); (try rw [HP6.out]); (try rw [HP7.out]); (try rw [HP8.out]); (try rw [HP9.out]); (try rw [HP10.out]); (try rw [HP11.out]); (try rw [HP12.out]); (try rw [HP13.out]); (try rw [HP14.out]); (try rw [HP15.out]); (try rw [HP16.out]); (try rw [HP17.out]); (try rw [HP18.out]); (try rw [HP19.out]); (try rw [HP20.out]); (try rw [HP21.out]); (try rw [HP22.out]); (try rw [HP23.out]); (try rw [HP24.out]); (try rw [HP25.out]); (try rw [HP26.out]); (try rw [HP27.out]); all_goals first | rfl | simp
  have e4 : qfo = R4 := by rw [← HR4.out]; (try rw [HP0.out]); (try rw [HP1.out]); (try rw [HP2.out]); (try rw [HP3.out]); (try rw [HP4.out]); (try rw [HP5.out]); (try rw [HP6.out]); (try rw [HP7.out]); (try rw [HP8.out]); (try rw [HP9.out]); (try rw [HP10.out]); (try rw [HP11.out]); (try rw [HP12.out]); (try rw [HP13.out]); (try rw [HP14.out]); (try rw [HP15.out]); (try rw [HP16.out]); (try rw [HP17.out]); (try rw [HP18.out]); (try rw [HP19.out]); (try rw [HP20.out]); (try rw [HP21.out]); (try rw [HP22.out]); (try rw [HP23.out]); (try rw [HP24.out]); (try rw [HP25.out]); (try rw [HP26.out]); (try rw [HP27.out]); all_goals first | rfl | simp
  have e5 : qto = R5 := by rw [← HR5.out]; (try rw [HP0.out]); (try rw [HP1.out]); (try rw [HP2.out]); (try rw [HP3.out]); (try rw [HP4.out]); (try rw [HP5.out]); (try rw [HP6.out]); (try rw [HP7.out]); (try rw [HP8.out]); (try rw [HP9.out]); (try rw [HP10.out]); (try rw [HP11.out]); (try rw [HP12.out]); (try rw [HP13.out]); (try rw [HP14.out]); (try rw [HP15.out]); (try rw [HP16.out]); (try rw [HP17.out]); (try rw [HP18.out]); (try rw [HP19.out]); (try rw [HP20.out]); (try rw [HP21.out]); (try rw [HP22.out]); (try rw [HP23.out]); (try rw [HP24.out]); (try rw [HP25.out]); (try rw [HP26.out]); (try rw [HP27.out]); all_goals first | rfl | simp
  have e6 : true = R6 := by rw [← HR6.out]; (try rw [HP0.out]); (try rw [HP1.out]); (try rw [HP2.out]); (try rw [HP3.out]); (try rw [HP4.out]); (try rw [HP5.out]); (try rw [HP6.out]); (try rw [HP7.out]); (try rw [HP8.out]); (try rw [HP9.out]); (try rw [HP10.out]); (try rw [HP11.out]); (try rw [HP12.out]); (try rw [HP13.out]); (try rw [HP14.out]); (try rw [HP15.out]); (try rw [HP16.out]); (try rw [HP17.out]); (try rw [HP18.out]); (try rw [HP19.out]); (try rw [HP20.out]); (try rw [HP21.out]); (try rw [HP22.out]); (try rw [HP23.out]); (try rw [HP24.out]); (try rw [HP25.out]); (try rw [HP26.out]); (try rw [HP27.out]); all_goals first | rfl | simp
  subst e0
  subst e1
  subst e2
  subst e3
  subst e4
  subst e5
  subst e6
  go_wp2_with (first | ((with_reducible refine ldRow (U6.heap.size) #[.int .u64 (wd0 qfn), .int .u64 (wd1 qfn), .int .u64 (wd2 qfn), .int .u64 (wd3 qfn), .int .u64 (wd0 qfd), .int .u64 (wd1 qfd), .int .u64 (wd2 qfd), .int .u64 (wd3 qfd), .int .u64 (wd0 qtn), .int .u64 (wd1 qtn), .int .u64 (wd2 qtn), .int .u64 (wd3 qtn), .int .u64 (wd0 qtd), .int .u64 (wd1 qtd), .int .u64 (wd2 qtd), .int .u64 (wd3 qtd), .bool qfo, .bool qto] _ k4 ?_ ?_ ?_ ?_); rfl; exact ⟨_, rfl, rfl⟩; (as_aux_lemma => kernel_rfl)) | ((with_reducible refine stRow (w.heap.size + 1 + 1) #[.int .u64 (wd0 qfn), .int .u64 (wd1 qfn), .int .u64 (wd2 qfn), .int .u64 (wd3 qfn), .int .u64 (wd0 qfd), .int .u64 (wd1 qfd), .int .u64 (wd2 qfd), .int .u64 (wd3 qfd), .int .u64 (wd0 qtn), .int .u64 (wd1 qtn), .int .u64 (wd2 qtn), .int .u64 (wd3 qtn), .int .u64 (wd0 qtd), .int .u64 (wd1 qtd), .int .u64 (wd2 qtd), .int .u64 (wd3 qtd), .bool qfo, .bool qto] _ _ k3 ?_ ?_ ?_ ?_ ?_ ?_); rfl; rfl; (as_aux_lemma => kernel_rfl); rfl; (as_aux_lemma => kernel_rfl); simp only [Act.put]))
  first | refine post_world ?_
  intro V12 hV12
  clear k4
  have D5 := Lib.hid k3.lt
  have D6 := Lib.hid hb0.size
  have nk3 : Blk V12 (w.heap.size + 1 + 1) #[.int .u64 (wd0 qfn), .int .u64 (wd1 qfn), .int .u64 (wd2 qfn), .int .u64 (wd3 qfn), .int .u64 (wd0 qfd), .int .u64 (wd1 qfd), .int .u64 (wd2 qfd), .int .u64 (wd3 qfd), .int .u64 (wd0 qtn), .int .u64 (wd1 qtn), .int .u64 (wd2 qtn), .int .u64 (wd3 qtn), .int .u64 (wd0 qtd), .int .u64 (wd1 qtd), .int .u64 (wd2 qtd), .int .u64 (wd3 qtd), .bool qfo, .bool qto] 54 := by rw [hV12]; exact blk_row k3 _
  have nhb0 : Below w.heap.size w V12 := by rw [hV12]; exact blw_row hb0 (by omega) _
  clear k3
  clear hb0
  clear hV12
  have k3 := nk3
  clear nk3
  have hb0 := nhb0
  clear nhb0
  refine ⟨rfl, _, results_row_tmp rfl _ _ _ _ _ _ _ rfl k3 rfl rfl (by as_aux_lemma => kernel_rfl), ?_, hb0⟩
  first | rfl | kernel_rfl
end Go.Proofs.Ytlcbomjdbdgbmaa

namespace Go.Proofs.Ytlcbomjdbdgbmaa
open Go.RowKit

theorem in_1 : InI 1 := by unfold InI b255; omega
theorem c1fn_in {ax : Int} (bx cx n : Int) (h : In64 ax) : InI (c1fn ax bx cx n) := bafn_in _ _ _ _ _ _ _ _ _ _ in_0 in_1 in_1 in_1 h (wrap64_in _) (wrap64_in _) (wrap64_in _)
theorem c1fd_in {ax : Int} (bx cx n : Int) (h : In64 ax) : InI (c1fd ax bx cx n) := bafd_in _ _ _ _ _ _ _ _ _ _ in_0 in_1 in_1 in_1 h (wrap64_in _) (wrap64_in _) (wrap64_in _)
theorem c1tn_in {ax : Int} (bx cx n : Int) (h : In64 ax) : InI (c1tn ax bx cx n) := batn_in _ _ _ _ _ _ _ _ _ _ in_0 in_1 in_1 in_1 h (wrap64_in _) (wrap64_in _) (wrap64_in _)
theorem c1td_in {ax : Int} (bx cx n : Int) (h : In64 ax) : InI (c1td ax bx cx n) := batd_in _ _ _ _ _ _ _ _ _ _ in_0 in_1 in_1 in_1 h (wrap64_in _) (wrap64_in _) (wrap64_in _)
theorem c2fn_in {ax ay : Int} (bx b_y cx cy n : Int) (h : In64 ax) (k : In64 ay) : InI (c2fn ax ay bx b_y cx cy n) := bafn_in _ _ _ _ _ _ _ _ _ _ (c1fn_in _ _ _ h) (c1fd_in _ _ _ h) (c1tn_in _ _ _ h) (c1td_in _ _ _ h) k (wrap64_in _) (wrap64_in _) (wrap64_in _)
theorem c2fd_in {ax ay : Int} (bx b_y cx cy n : Int) (h : In64 ax) (k : In64 ay) : InI (c2fd ax ay bx b_y cx cy n) := bafd_in _ _ _ _ _ _ _ _ _ _ (c1fn_in _ _ _ h) (c1fd_in _ _ _ h) (c1tn_in _ _ _ h) (c1td_in _ _ _ h) k (wrap64_in _) (wrap64_in _) (wrap64_in _)
theorem c2tn_in {ax ay : Int} (bx b_y cx cy n : Int) (h : In64 ax) (k : In64 ay) : InI (c2tn ax ay bx b_y cx cy n) := batn_in _ _ _ _ _ _ _ _ _ _ (c1fn_in _ _ _ h) (c1fd_in _ _ _ h) (c1tn_in _ _ _ h) (c1td_in _ _ _ h) k (wrap64_in _) (wrap64_in _) (wrap64_in _)
theorem c2td_in {ax ay : Int} (bx b_y cx cy n : Int) (h : In64 ax) (k : In64 ay) : InI (c2td ax ay bx b_y cx cy n) := batd_in _ _ _ _ _ _ _ _ _ _ (c1fn_in _ _ _ h) (c1fd_in _ _ _ h) (c1tn_in _ _ _ h) (c1td_in _ _ _ h) k (wrap64_in _) (wrap64_in _) (wrap64_in _)
theorem cut_v (ax : Int) (ay : Int) (bx : Int) (b_y : Int) (cx : Int) (cy : Int) (n : Int) (R0 : Int) (R1 : Int) (R2 : Int) (R3 : Int) (R4 : Bool) (R5 : Bool) (R6 : Bool) (h0 : cufn ax ay bx b_y cx cy n = R0) (h1 : cufd ax ay bx b_y cx cy n = R1) (h2 : cutn ax ay bx b_y cx cy n = R2) (h3 : cutd ax ay bx b_y cx cy n = R3) (h4 : cufo ax ay bx b_y cx cy n = R4) (h5 : cuto ax ay bx b_y cx cy n = R5) (h6 : cuk ax ay bx b_y cx cy n = R6) (_iax : In64 ax) (_iay : In64 ay) (_ibx : In64 bx) (_ib_y : In64 b_y) (_icx : In64 cx) (_icy : In64 cy) (_in : In64 n) (w : World) :
    Calls Try.prog 30 #[.agg #[.int .i64 ax, .int .i64 ay, .int .i64 bx, .int .i64 b_y], .agg #[.int .i64 cx, .int .i64 cy], .int .i64 n] w fun e w' => e = .returned (.tuple #[.agg #[.int .u64 (wd0 R0), .int .u64 (wd1 R0), .int .u64 (wd2 R0), .int .u64 (wd3 R0), .int .u64 (wd0 R1), .int .u64 (wd1 R1), .int .u64 (wd2 R1), .int .u64 (wd3 R1), .int .u64 (wd0 R2), .int .u64 (wd1 R2), .int .u64 (wd2 R2), .int .u64 (wd3 R2), .int .u64 (wd0 R3), .int .u64 (wd1 R3), .int .u64 (wd2 R3), .int .u64 (wd3 R3), .bool R4, .bool R5], .bool R6]) ∧ Below w.heap.size w w' := by
  rw [← h0, ← h1, ← h2, ← h3, ← h4, ← h5, ← h6]
  clear h0 h1 h2 h3 h4 h5 h6
  cases hS : pxS n
  · have k : cuk ax ay bx b_y cx cy n = false := by unfold cuk; rw [hS]; rfl
    have e0 : cufn ax ay bx b_y cx cy n = 0 := by unfold cufn; rw [k]; rfl
    have e1 : cufd ax ay bx b_y cx cy n = 0 := by unfold cufd; rw [k]; rfl
    have e2 : cutn ax ay bx b_y cx cy n = 0 := by unfold cutn; rw [k]; rfl
    have e3 : cutd ax ay bx b_y cx cy n = 0 := by unfold cutd; rw [k]; rfl
    have e4 : cufo ax ay bx b_y cx cy n = false := by unfold cufo; rw [k]; rfl
    have e5 : cuto ax ay bx b_y cx cy n = false := by unfold cuto; rw [k]; rfl
    rw [e0, e1, e2, e3, e4, e5, k]
    exact pxCut_0 ax ay bx b_y cx cy n _ _ _ _ _ _ _ rfl rfl rfl rfl rfl rfl rfl hS _iax _iay _ibx _ib_y _icx _icy _in w
  cases hG : sgR ax ay bx b_y
  · have k : cuk ax ay bx b_y cx cy n = false := by unfold cuk; rw [hS, hG]; rfl
    have e0 : cufn ax ay bx b_y cx cy n = 0 := by unfold cufn; rw [k]; rfl
    have e1 : cufd ax ay bx b_y cx cy n = 0 := by unfold cufd; rw [k]; rfl
    have e2 : cutn ax ay bx b_y cx cy n = 0 := by unfold cutn; rw [k]; rfl
    have e3 : cutd ax ay bx b_y cx cy n = 0 := by unfold cutd; rw [k]; rfl
    have e4 : cufo ax ay bx b_y cx cy n = false := by unfold cufo; rw [k]; rfl
    have e5 : cuto ax ay bx b_y cx cy n = false := by unfold cuto; rw [k]; rfl
    rw [e0, e1, e2, e3, e4, e5, k]
    exact pxCut_1 ax ay bx b_y cx cy n _ _ _ _ _ _ _ rfl rfl rfl rfl rfl rfl rfl hS hG _iax _iay _ibx _ib_y _icx _icy _in w
  cases hC : rp cx cy
  · have k : cuk ax ay bx b_y cx cy n = false := by unfold cuk; rw [hS, hG, hC]; rfl
    have e0 : cufn ax ay bx b_y cx cy n = 0 := by unfold cufn; rw [k]; rfl
    have e1 : cufd ax ay bx b_y cx cy n = 0 := by unfold cufd; rw [k]; rfl
    have e2 : cutn ax ay bx b_y cx cy n = 0 := by unfold cutn; rw [k]; rfl
    have e3 : cutd ax ay bx b_y cx cy n = 0 := by unfold cutd; rw [k]; rfl
    have e4 : cufo ax ay bx b_y cx cy n = false := by unfold cufo; rw [k]; rfl
    have e5 : cuto ax ay bx b_y cx cy n = false := by unfold cuto; rw [k]; rfl
    rw [e0, e1, e2, e3, e4, e5, k]
    exact pxCut_2 ax ay bx b_y cx cy n _ _ _ _ _ _ _ rfl rfl rfl rfl rfl rfl rfl hS hG hC _iax _iay _ibx _ib_y _icx _icy _in w
  cases h1 : c1k ax bx cx n
  · have k : cuk ax ay bx b_y cx cy n = false := by unfold cuk; rw [hS, hG, hC, h1]; rfl
    have e0 : cufn ax ay bx b_y cx cy n = 0 := by unfold cufn; rw [k]; rfl
    have e1 : cufd ax ay bx b_y cx cy n = 0 := by unfold cufd; rw [k]; rfl
    have e2 : cutn ax ay bx b_y cx cy n = 0 := by unfold cutn; rw [k]; rfl
    have e3 : cutd ax ay bx b_y cx cy n = 0 := by unfold cutd; rw [k]; rfl
    have e4 : cufo ax ay bx b_y cx cy n = false := by unfold cufo; rw [k]; rfl
    have e5 : cuto ax ay bx b_y cx cy n = false := by unfold cuto; rw [k]; rfl
    rw [e0, e1, e2, e3, e4, e5, k]
    exact pxCut_3 ax ay bx b_y cx cy n (c1fn ax bx cx n) (c1fd ax bx cx n) (c1tn ax bx cx n) (c1td ax bx cx n) (c1fo ax bx cx n) (c1to ax bx cx n) _ _ _ _ _ _ _ rfl rfl rfl rfl rfl rfl rfl hS hG hC rfl rfl rfl rfl h1 rfl rfl rfl rfl rfl rfl (c1fn_in _ _ _ _iax) (c1fd_in _ _ _ _iax) (c1tn_in _ _ _ _iax) (c1td_in _ _ _ _iax) _iax _iay _ibx _ib_y _icx _icy _in w
  cases h2 : c2k ax ay bx b_y cx cy n
  · have k : cuk ax ay bx b_y cx cy n = false := by unfold cuk; rw [hS, hG, hC, h1, h2]; rfl
    have e0 : cufn ax ay bx b_y cx cy n = 0 := by unfold cufn; rw [k]; rfl
    have e1 : cufd ax ay bx b_y cx cy n = 0 := by unfold cufd; rw [k]; rfl
    have e2 : cutn ax ay bx b_y cx cy n = 0 := by unfold cutn; rw [k]; rfl
    have e3 : cutd ax ay bx b_y cx cy n = 0 := by unfold cutd; rw [k]; rfl
    have e4 : cufo ax ay bx b_y cx cy n = false := by unfold cufo; rw [k]; rfl
    have e5 : cuto ax ay bx b_y cx cy n = false := by unfold cuto; rw [k]; rfl
    rw [e0, e1, e2, e3, e4, e5, k]
    exact pxCut_4 ax ay bx b_y cx cy n (c1fn ax bx cx n) (c1fd ax bx cx n) (c1tn ax bx cx n) (c1td ax bx cx n) (c1fo ax bx cx n) (c1to ax bx cx n) (c2fn ax ay bx b_y cx cy n) (c2fd ax ay bx b_y cx cy n) (c2tn ax ay bx b_y cx cy n) (c2td ax ay bx b_y cx cy n) (c2fo ax ay bx b_y cx cy n) (c2to ax ay bx b_y cx cy n) _ _ _ _ _ _ _ rfl rfl rfl rfl rfl rfl rfl hS hG hC rfl rfl rfl rfl h1 rfl rfl rfl rfl rfl rfl h2 rfl rfl rfl rfl rfl rfl (c1fn_in _ _ _ _iax) (c1fd_in _ _ _ _iax) (c1tn_in _ _ _ _iax) (c1td_in _ _ _ _iax) (c2fn_in _ _ _ _ _ _iax _iay) (c2fd_in _ _ _ _ _ _iax _iay) (c2tn_in _ _ _ _ _ _iax _iay) (c2td_in _ _ _ _ _ _iax _iay) _iax _iay _ibx _ib_y _icx _icy _in w
  cases h3 : smk_ (c2fn ax ay bx b_y cx cy n) (c2fd ax ay bx b_y cx cy n) (c2tn ax ay bx b_y cx cy n) (c2td ax ay bx b_y cx cy n) (c2fo ax ay bx b_y cx cy n) (c2to ax ay bx b_y cx cy n)
  · have k : cuk ax ay bx b_y cx cy n = false := by unfold cuk; rw [hS, hG, hC, h1, h2, h3]; rfl
    have e0 : cufn ax ay bx b_y cx cy n = 0 := by unfold cufn; rw [k]; rfl
    have e1 : cufd ax ay bx b_y cx cy n = 0 := by unfold cufd; rw [k]; rfl
    have e2 : cutn ax ay bx b_y cx cy n = 0 := by unfold cutn; rw [k]; rfl
    have e3 : cutd ax ay bx b_y cx cy n = 0 := by unfold cutd; rw [k]; rfl
    have e4 : cufo ax ay bx b_y cx cy n = false := by unfold cufo; rw [k]; rfl
    have e5 : cuto ax ay bx b_y cx cy n = false := by unfold cuto; rw [k]; rfl
    rw [e0, e1, e2, e3, e4, e5, k]
    exact pxCut_5 ax ay bx b_y cx cy n (c1fn ax bx cx n) (c1fd ax bx cx n) (c1tn ax bx cx n) (c1td ax bx cx n) (c1fo ax bx cx n) (c1to ax bx cx n) (c2fn ax ay bx b_y cx cy n) (c2fd ax ay bx b_y cx cy n) (c2tn ax ay bx b_y cx cy n) (c2td ax ay bx b_y cx cy n) (c2fo ax ay bx b_y cx cy n) (c2to ax ay bx b_y cx cy n) _ _ _ _ _ _ _ rfl rfl rfl rfl rfl rfl rfl hS hG hC rfl rfl rfl rfl h1 rfl rfl rfl rfl rfl rfl h2 rfl rfl rfl rfl rfl rfl h3 rfl rfl rfl rfl (smfo_eq (c2fn ax ay bx b_y cx cy n) (c2fd ax ay bx b_y cx cy n) (c2tn ax ay bx b_y cx cy n) (c2td ax ay bx b_y cx cy n) (c2fo ax ay bx b_y cx cy n) (c2to ax ay bx b_y cx cy n)) rfl (c1fn_in _ _ _ _iax) (c1fd_in _ _ _ _iax) (c1tn_in _ _ _ _iax) (c1td_in _ _ _ _iax) (c2fn_in _ _ _ _ _ _iax _iay) (c2fd_in _ _ _ _ _ _iax _iay) (c2tn_in _ _ _ _ _ _iax _iay) (c2td_in _ _ _ _ _ _iax _iay) _iax _iay _ibx _ib_y _icx _icy _in w
  have k : cuk ax ay bx b_y cx cy n = true := by unfold cuk; rw [hS, hG, hC, h1, h2, h3]; rfl
  have e0 : cufn ax ay bx b_y cx cy n = c2fn ax ay bx b_y cx cy n := by unfold cufn; rw [k]; exact rfl
  have e1 : cufd ax ay bx b_y cx cy n = c2fd ax ay bx b_y cx cy n := by unfold cufd; rw [k]; exact rfl
  have e2 : cutn ax ay bx b_y cx cy n = c2tn ax ay bx b_y cx cy n := by unfold cutn; rw [k]; exact rfl
  have e3 : cutd ax ay bx b_y cx cy n = c2td ax ay bx b_y cx cy n := by unfold cutd; rw [k]; exact rfl
  have e4 : cufo ax ay bx b_y cx cy n = c2fo ax ay bx b_y cx cy n := by unfold cufo; rw [k]; exact smfo_eq (c2fn ax ay bx b_y cx cy n) (c2fd ax ay bx b_y cx cy n) (c2tn ax ay bx b_y cx cy n) (c2td ax ay bx b_y cx cy n) (c2fo ax ay bx b_y cx cy n) (c2to ax ay bx b_y cx cy n)
  have e5 : cuto ax ay bx b_y cx cy n = c2to ax ay bx b_y cx cy n := by unfold cuto; rw [k]; exact rfl
  rw [e0, e1, e2, e3, e4, e5, k]
  exact pxCut_6 ax ay bx b_y cx cy n (c1fn ax bx cx n) (c1fd ax bx cx n) (c1tn ax bx cx n) (c1td ax bx cx n) (c1fo ax bx cx n) (c1to ax bx cx n) (c2fn ax ay bx b_y cx cy n) (c2fd ax ay bx b_y cx cy n) (c2tn ax ay bx b_y cx cy n) (c2td ax ay bx b_y cx cy n) (c2fo ax ay bx b_y cx cy n) (c2to ax ay bx b_y cx cy n) _ _ _ _ _ _ _ rfl rfl rfl rfl rfl rfl rfl hS hG hC rfl rfl rfl rfl h1 rfl rfl rfl rfl rfl rfl h2 rfl rfl rfl rfl rfl rfl h3 rfl rfl rfl rfl (smfo_eq (c2fn ax ay bx b_y cx cy n) (c2fd ax ay bx b_y cx cy n) (c2tn ax ay bx b_y cx cy n) (c2td ax ay bx b_y cx cy n) (c2fo ax ay bx b_y cx cy n) (c2to ax ay bx b_y cx cy n)) rfl (c1fn_in _ _ _ _iax) (c1fd_in _ _ _ _iax) (c1tn_in _ _ _ _iax) (c1td_in _ _ _ _iax) (c2fn_in _ _ _ _ _ _iax _iay) (c2fd_in _ _ _ _ _ _iax _iay) (c2tn_in _ _ _ _ _ _iax _iay) (c2td_in _ _ _ _ _ _iax _iay) _iax _iay _ibx _ib_y _icx _icy _in w
end Go.Proofs.Ytlcbomjdbdgbmaa

namespace Go.Proofs.Ytlcbomjdbdgbmaa
open Go.RowKit

def pxM (ax : Int) (ay : Int) (bx : Int) (b_y : Int) (cx : Int) (cy : Int) (n : Int) : Bool := (cuk ax ay bx b_y cx cy n)

set_option maxRecDepth 100000 in
set_option maxHeartbeats 4000000 in

theorem pxMt_is (ax : Int) (ay : Int) (bx : Int) (b_y : Int) (cx : Int) (cy : Int) (n : Int)  (R0 : Bool) (hR0 : pxM ax ay bx b_y cx cy n = R0) (_iax : In64 ax) (_iay : In64 ay) (_ibx : In64 bx) (_ib_y : In64 b_y) (_icx : In64 cx) (_icy : In64 cy) (_in : In64 n)  (w : World)  :
    Calls Try.prog 33 #[.agg #[.int .i64 ax, .int .i64 ay, .int .i64 bx, .int .i64 b_y], .agg #[.int .i64 cx, .int .i64 cy], .int .i64 n] w fun e w' => e = .returned (.bool R0) ∧ Below w.heap.size w w' := by

  have HR0 := Lib.hid hR0
  clear hR0
  go_enter Try.func33, Try.ntmps33
  go_wp2_with fail
  first | refine calls_w ?_ | refine name_world ?_ | refine list_world ?_ | refine post_world ?_
  intro V1 hV1
  have hn : Below w.heap.size w V1 := by rw [hV1]; exact below_a2 _ _ _
  have nhb0 := hn
  have k1 : Blk V1 w.heap.size #[.int .i64 ax, .int .i64 ay, .int .i64 bx, .int .i64 b_y] 50 := by rw [hV1]; exact ((Blk.new _ _ _).alloc _)
  have k2 : Blk V1 (w.heap.size + 1) #[.int .i64 cx, .int .i64 cy] 24 := by rw [hV1]; exact (Blk.new1 _ _ _ _)
  clear hV1
  have hb0 := nhb0
  clear nhb0
  obtain ⟨r1, hr1⟩ : ∃ o_o : Int, cufn ax ay bx b_y cx cy n = o_o := ⟨_, rfl⟩
  have Hr1 := Lib.hid hr1
  clear hr1
  obtain ⟨r2, hr2⟩ : ∃ o_o : Int, cufd ax ay bx b_y cx cy n = o_o := ⟨_, rfl⟩
  have Hr2 := Lib.hid hr2
  clear hr2
  obtain ⟨r3, hr3⟩ : ∃ o_o : Int, cutn ax ay bx b_y cx cy n = o_o := ⟨_, rfl⟩
  have Hr3 := Lib.hid hr3
  clear hr3
  obtain ⟨r4, hr4⟩ : ∃ o_o : Int, cutd ax ay bx b_y cx cy n = o_o := ⟨_, rfl⟩
  have Hr4 := Lib.hid hr4
  clear hr4
  obtain ⟨z5, hz5⟩ : ∃ o_o : Bool, cufo ax ay bx b_y cx cy n = o_o := ⟨_, rfl⟩
  have Hz5 := Lib.hid hz5
  clear hz5
  obtain ⟨z6, hz6⟩ : ∃ o_o : Bool, cuto ax ay bx b_y cx cy n = o_o := ⟨_, rfl⟩
  have Hz6 := Lib.hid hz6
  clear hz6
  obtain ⟨z7, hz7⟩ : ∃ o_o : Bool, cuk ax ay bx b_y cx cy n = o_o := ⟨_, rfl⟩
  have Hz7 := Lib.hid hz7
  clear hz7
  refine (cut_v ax ay bx b_y cx cy n r1 r2 r3 r4 z5 z6 z7 Hr1.out Hr2.out Hr3.out Hr4.out Hz5.out Hz6.out Hz7.out _iax _iay _ibx _ib_y _icx _icy _in _).mono ?_
  rintro e U2 ⟨rfl, hn⟩
  clear k1 k2
  replace hb0 := hb0.trans (hn.mono hb0.size)
  clear hn
  have e0 : z7 = R0 := by rw [← HR0.out]; unfold pxM; (try rw [Hr1.out]); (try rw [Hr2.out]); (try rw [Hr3.out]); (try rw [Hr4.out]); (try rw [Hz5.out]); (try rw [Hz6.out]); (try rw [Hz7.out]); all_goals first | rfl | simp
  subst e0
  go_wp2_with (first | ((with_reducible refine stRow (U2.heap.size) #[.int .u64 (wd0 r1), .int .u64 (wd1 r1), .int .u64 (wd2 r1), .int .u64 (wd3 r1), .int .u64 (wd0 r2), .int .u64 (wd1 r2), .int .u64 (wd2 r2), .int .u64 (wd3 r2), .int .u64 (wd0 r3), .int .u64 (wd1 r3), .int .u64 (wd2 r3), .int .u64 (wd3 r3), .int .u64 (wd0 r4), .int .u64 (wd1 r4), .int .u64 (wd2 r4), .int .u64 (wd3 r4), .bool z5, .bool z6] _ _ (Blk.new _ _ _) ?_ ?_ ?_ ?_ ?_ ?_); rfl; rfl; (as_aux_lemma => kernel_rfl); rfl; (as_aux_lemma => kernel_rfl); simp only [Act.put]))
  first | refine post_world ?_
  intro V3 hV3
  rw [World.setRow_alloc_new] at hV3
  have D1 := Lib.hid hb0.size
  have hn : Below U2.heap.size U2 V3 := by rw [hV3]; exact below_a1 _ _
  have nhb0 := hb0.trans (hn.mono hb0.size)
  clear hn
  clear hb0
  clear hV3
  have hb0 := nhb0
  clear nhb0
  simp [bodyPost, results, Try.results33, go_sem]
  first | exact hb0 | exact ⟨rfl, hb0⟩
end Go.Proofs.Ytlcbomjdbdgbmaa

namespace Go.Proofs.Ytlcbomjdbdgbmaa
open Go.RowKit

end Go.Proofs.Ytlcbomjdbdgbmaa
namespace Go.Proofs.Ytlcbomjdbdgbmaa
open Go.ChangeShapes Go.WideShapes Go.ChangeAt Go.RowKit Go.Joins

theorem own : ownKnob Try.prog.godebug = none := by kernel_rfl
theorem laidOut : laidOutB Try.prog = true := by kernel_rfl

/-- any four words are those of a number of 256 bits -/
theorem words_in {a b c d : Int} (ha : Wd a) (hb : Wd b) (hc : Wd c) (hd : Wd d) : ∃ x, InI x ∧ wd0 x = a ∧ wd1 x = b ∧ wd2 x = c ∧ wd3 x = d :=
  ⟨sg (un4 a b c d), sg_bd _, by rw [wd0_sg]; exact wd0_un4 ha, by rw [wd1_sg]; exact wd1_un4 ha hb, by rw [wd2_sg]; exact wd2_un4 ha hb hc, by rw [wd3_sg]; exact wd3_un4 ha hb hc hd⟩

theorem in64_wf {x : Int} (h : (Lit.int .i64 x).wf = true) : In64 x := by
  simp [Lit.wf, IntKind.min, IntKind.max, IntKind.signed, IntKind.bits] at h
  unfold In64; omega

section
variable {H : Type} {enc : TypeId × Value → H} {w : World} {base : Nat} {spare : Nat → Bool} {held : Bool}

theorem wd_of {a : Int} (h : (Lit.int .u64 a).wf = true) : Wd a := by
  simp [Lit.wf, IntKind.min, IntKind.max, IntKind.signed, IntKind.bits] at h
  exact ⟨by omega, by omega⟩

theorem open_four {fuel : Nat} {c0 c1 c2 c3 : Value} {x : DataW H × List MemPlace} (h : DataW.trod enc Try.prog w base spare held fuel 35 [c0, c1, c2, c3] = some x) :
    ∃ n, InI n ∧ c0 = .int .u64 (wd0 n) ∧ c1 = .int .u64 (wd1 n) ∧ c2 = .int .u64 (wd2 n) ∧ c3 = .int .u64 (wd3 n) := by
  obtain ⟨y0, y1, y2, y3, m, _, h0, h1, h2, h3⟩ := trod_array4 Try.underlying35 (by kernel_rfl) h
  obtain ⟨a0, e0, _, g0⟩ := DataW.trod_int Try.underlying33 h0
  obtain ⟨a1, e1, _, g1⟩ := DataW.trod_int Try.underlying33 h1
  obtain ⟨a2, e2, _, g2⟩ := DataW.trod_int Try.underlying33 h2
  obtain ⟨a3, e3, _, g3⟩ := DataW.trod_int Try.underlying33 h3
  obtain ⟨n, hn, w0, w1, w2, w3⟩ := words_in (wd_of g0) (wd_of g1) (wd_of g2) (wd_of g3)
  simp at e0 e1 e2 e3
  exact ⟨n, hn, by rw [e0, w0], by rw [e1, w1], by rw [e2, w2], by rw [e3, w3]⟩

end
end Go.Proofs.Ytlcbomjdbdgbmaa
namespace Go.Proofs.Ytlcbomjdbdgbmaa
open Go.ChangeShapes Go.WideShapes Go.ChangeAt Go.RowKit Go.Joins
section
variable {H : Type} {enc : TypeId × Value → H} {w : World} {base : Nat} {spare : Nat → Bool} {held : Bool}
set_option maxRecDepth 100000 in
theorem open_point {r : Reach} {b0 : Nat} {v : Value} {d : DataW H} {p : List MemPlace} (hv : Value.okWide Try.prog w r b0 24 v) (h : DataW.Trod enc Try.prog w base spare held 24 v d p) :
    ∃ x y, In64 x ∧ In64 y ∧ v = pI x y := by
  obtain ⟨v0, v1, y0, y1, n, rfl, _, _, t0, t1⟩ := open_agg2 Try.underlying24 (by kernel_rfl) (by kernel_rfl) hv h
  obtain ⟨a0, e0, _, g0⟩ := DataW.trod_int Try.underlying3 t0
  obtain ⟨a1, e1, _, g1⟩ := DataW.trod_int Try.underlying3 t1
  simp at e0 e1
  exact ⟨a0, a1, in64_wf g0, in64_wf g1, by rw [e0, e1]⟩
end
end Go.Proofs.Ytlcbomjdbdgbmaa
namespace Go.Proofs.Ytlcbomjdbdgbmaa
open Go.RowKit

theorem ws1 {W : World} {b : Nat} {u : Int} {t : TypeId} (hu : Wd u) (h : Blk W b #[.int .u64 u] t) : Ws W b [u] :=
  ⟨fun i hi => by
    match i, hi with
    | 0, _ => exact h.cell 0, h.lt, fun d hd => by rw [List.mem_singleton.1 hd]; exact hu, by simp⟩

set_option maxRecDepth 100000 in
set_option maxHeartbeats 1000000 in
theorem bigOf_pos (n : Int) (w : World) (h0 : 0 ≤ n) (h1 : n < 9223372036854775808) : Calls Try.prog 66 #[.int .i64 n] w (GivesBig w n 5) := by
  go_enter Try.func66, Try.ntmps66
  go_wp2_with fail
  refine calls_w ?_
  intro W hW
  have k0 : Blk W w.heap.size #[.bool false, .slice none 0 0] 28 := by rw [hW]; exact (Blk.new w _ _).alloc _
  have kl : Blk W (w.heap.size + 1) #[.int .u64 n] 33 := by rw [hW]; exact Blk.new1 w _ _ _
  have hb0 : Below w.heap.size w W := by rw [hW]; exact below_a2 _ _ _
  clear hW
  have T := Words_any (w.heap.size + 1) 1 1 [n] W (ws1 ⟨h0, by omega⟩ kl) rfl
  rw [show uval [n] = n by simp [uval]] at T
  refine T.mono ?_
  clear T
  rintro e u1 ⟨vm, rfl, hbm, hn⟩
  replace k0 := k0.of hn
  replace hb0 := hb0.trans (hn.mono hb0.size)
  have HBG := Lib.hid hbm
  have hvm := hbm.shape
  clear hbm hn kl
  obtain ⟨n5, a5, q5, c5, rfl⟩ := hvm
  have d0 := k0.cell 0
  have d1 := k0.cell 1
  have f0 := k0.free 0
  have f1 := k0.free 1
  simp only [List.getElem?_toArray, List.getElem?_cons_zero, List.getElem?_cons_succ] at d0 d1
  clear k0
  go_wp2
  simp [bodyPost, results, Try.results66, go_sem, d0, d1]
  exact ⟨_, rfl, HBG.out.set2 d0 (.bool n5) (.slice a5 q5 c5), set2_below hb0 (Nat.le_refl _) _ _⟩

set_option maxRecDepth 100000 in
set_option maxHeartbeats 1000000 in
theorem bigOf_neg (n : Int) (w : World) (h0 : n < 0) (h1 : -9223372036854775808 ≤ n) : Calls Try.prog 66 #[.int .i64 n] w (GivesBig w n 5) := by
  have hn0 : ¬ 0 ≤ n := by omega
  go_enter Try.func66, Try.ntmps66
  go_wp2_with fail
  refine calls_w ?_
  intro W hW
  have k0 : Blk W w.heap.size #[.bool false, .slice none 0 0] 28 := by rw [hW]; exact (Blk.new w _ _).alloc _
  have kl : Blk W (w.heap.size + 1) #[.int .u64 (-(n + 1) + 1)] 33 := by rw [hW]; exact Blk.new1 w _ _ _
  have hb0 : Below w.heap.size w W := by rw [hW]; exact below_a2 _ _ _
  clear hW
  have T := Words_any (w.heap.size + 1) 1 1 [-(n + 1) + 1] W (ws1 ⟨by omega, by omega⟩ kl) rfl
  rw [show uval [-(n + 1) + 1] = -n by simp [uval]; omega] at T
  refine T.mono ?_
  clear T
  rintro e u1 ⟨vm, rfl, hbm, hn⟩
  replace k0 := k0.of hn
  replace hb0 := hb0.trans (hn.mono hb0.size)
  have HB1 := Lib.hid hbm
  have hvm := hbm.shape
  clear hbm hn kl
  obtain ⟨n4, a4, q4, c4, rfl⟩ := hvm
  go_wp2_with fail
  have T := Minus_any _ _ _ _ HB1.out
  rw [Int.neg_neg] at T
  refine T.mono ?_
  clear T
  rintro e u2 ⟨vm, rfl, hbm, hn⟩
  replace k0 := k0.of hn
  replace hb0 := hb0.trans (hn.mono hb0.size)
  have HBG := Lib.hid hbm
  have hvm := hbm.shape
  clear hbm hn HB1
  obtain ⟨n5, a5, q5, c5, rfl⟩ := hvm
  have d0 := k0.cell 0
  have d1 := k0.cell 1
  have f0 := k0.free 0
  have f1 := k0.free 1
  simp only [List.getElem?_toArray, List.getElem?_cons_zero, List.getElem?_cons_succ] at d0 d1
  clear k0
  go_wp2
  simp [bodyPost, results, Try.results66, go_sem, d0, d1]
  exact ⟨_, rfl, HBG.out.set2 d0 (.bool n5) (.slice a5 q5 c5), set2_below hb0 (Nat.le_refl _) _ _⟩
theorem bigOf_any (n : Int) (w : World) (h : In64 n) : Calls Try.prog 66 #[.int .i64 n] w (GivesBig w n 5) := by
  by_cases h0 : 0 ≤ n
  · exact bigOf_pos n w h0 h.2
  · exact bigOf_neg n w (by omega) h.1
end Go.Proofs.Ytlcbomjdbdgbmaa
namespace Go.Proofs.Ytlcbomjdbdgbmaa
open Go.RowKit

end Go.Proofs.Ytlcbomjdbdgbmaa
namespace Go.Proofs.Ytlcbomjdbdgbmaa
open Go.RowKit

/-- a variable that holds a point of the document's answer -/
abbrev QVar (w : World) (b : Nat) (x y : Int) : Prop := Blk w b (pC x y) 31
theorem QVar.c {w : World} {b : Nat} {x y : Int} (h : QVar w b x y) : w.cell? ⟨b, 0, none⟩ = some (.int .i64 x) ∧ w.cell? ⟨b, 1, none⟩ = some (.int .i64 y) := ⟨h.cell 0, h.cell 1⟩
end Go.Proofs.Ytlcbomjdbdgbmaa
namespace Go.Proofs.Ytlcbomjdbdgbmaa
open Go.RowKit

end Go.Proofs.Ytlcbomjdbdgbmaa
namespace Go.Proofs.Ytlcbomjdbdgbmaa
open Go.RowKit

end Go.Proofs.Ytlcbomjdbdgbmaa

namespace Go.Proofs.Ytlcbomjdbdgbmaa
open Go.RowKit

theorem heap_setL (w : World) (b o : Nat) (l : List Value) (k : Nat) (hk : k ≠ b) : (setL w b o l).heap[k]? = w.heap[k]? := by
  induction l generalizing w o with
  | nil => rfl
  | cons v l ih => unfold setL; rw [ih, Below.heap_setCell _ _ _ _ hk]
theorem big_setL {w : World} {v : Value} {n : Int} {L b : Nat} (h : Big w v n L) {x : Value} (hd : w.cell? ⟨b, 0, none⟩ = some x) (hx : ∀ i, x ≠ .int .i64 i) (o : Nat) (l : List Value) : Big (setL w b o l) v n L := by
  obtain ⟨neg, ao, b3, cap, ds, h1, h2, h3⟩ := h
  have hne : 0 < ds.length → b3 ≠ b := by
    intro h0 e
    have := h2.cell 0 h0
    rw [e, hd] at this
    exact hx _ (Option.some.inj this)
  refine ⟨neg, ao, b3, cap, ds, h1, ⟨h2.ptr, h2.nil, h2.capl, h2.len, h2.capb, fun i hi => ?_, fun hl => ?_⟩, h3⟩
  · have e := h2.cell i hi
    unfold World.cell? at e ⊢
    rw [heap_setL _ _ _ _ _ (hne (by omega))]; exact e
  · rw [size_setL]; exact h2.blk hl
theorem bigOf_v (n d : Int) (h : n = d) (g : In64 n) (w : World) : Calls Try.prog 66 #[.int .i64 n] w (GivesBig w d 5) := h ▸ bigOf_any n w g
theorem bigMul_v (v v' : Value) (n m p : Int) (L L' : Nat) (hp : n * m = p) (w : World) (h : Big w v n L) (h' : Big w v' m L') (hL : L + L' < 268435456) :
    Calls Try.prog 65 #[v, v'] w (GivesBig w p (L + L')) := hp ▸ bigMul_any v v' n m L L' w h h' hL
theorem bigAdd_v (v v' : Value) (n m p : Int) (L : Nat) (hp : n + m = p) (w : World) (h : Big w v n L) (h' : Big w v' m L) (hL : L < 268435456) :
    Calls Try.prog 18 #[v, v'] w (GivesBig w p (L + 1)) := hp ▸ bigAdd_any v v' n m L w h h' hL
theorem bigSub_v (v v' : Value) (n m p : Int) (L : Nat) (hp : n - m = p) (w : World) (h : Big w v n L) (h' : Big w v' m L) (hL : L < 268435456) :
    Calls Try.prog 68 #[v, v'] w (GivesBig w p (L + 1)) := hp ▸ bigSub_any v v' n m L w h h' hL
theorem bigMinus_v (v : Value) (n p : Int) (L : Nat) (hp : -n = p) (w : World) (h : Big w v n L) : Calls Try.prog 25 #[v] w (GivesBig w p L) := hp ▸ Minus_any v n L w h
theorem bigCmp_v (v v' : Value) (n m : Int) (L L' : Nat) (c : Int) (hc : cmpI n m = c) (w : World) (h : Big w v n L) (h' : Big w v' m L') :
    Calls Try.prog 23 #[v, v'] w fun e w' => e = .returned (.int .i64 c) ∧ Below w.heap.size w w' := hc ▸ bigCmp_any v v' n m L L' w h h'
theorem bigSign_v (v : Value) (n : Int) (L : Nat) (s : Int) (hs : n.sign = s) (w : World) (h : Big w v n L) :
    Calls Try.prog 67 #[v] w fun e w' => e = .returned (.int .i64 s) ∧ Below w.heap.size w w' := hs ▸ bigSign_any v n L w h
theorem Read_v (x d : Int) (h : x = d) (ix : InI x) (w : World) : Calls Try.prog 24 #[wI x] w (GivesBig w d 18) := by
  have := Read_any x w
  have e : sg x = d := (sg_id ix).trans h
  rw [e] at this
  exact this
end Go.Proofs.Ytlcbomjdbdgbmaa

namespace Go.Proofs.Ytlcbomjdbdgbmaa
open Go.RowKit

theorem pow90_v (w : World) : Calls Try.prog 90 #[.int .i64 90] w (GivesBig w 1237940039285380274899124224 7) := by
  have h := Power_any 90 w (by decide)
  rw [show (2 : Int) ^ 90 = 1237940039285380274899124224 by decide] at h
  exact h

theorem pow41_v (w : World) : Calls Try.prog 90 #[.int .i64 41] w (GivesBig w 2199023255552 3) := by
  have h := Power_any 41 w (by decide)
  rw [show (2 : Int) ^ 41 = 2199023255552 by decide] at h
  exact h

theorem alCr9_0 : AllocRuns Try.prog 28 #[.bool false, .slice none 0 0] := fun w => by kernel_rfl

def rspR (X : Int) (Y : Int) (Z : Int) : Bool := (bif decide ((Z.sign) ≤ 0) then false else (bif decide (0 < (cmpI Z 1237940039285380274899124224)) then false else (bif decide (0 ≤ (cmpI X (-(2199023255552 * Z)))) then (bif decide ((cmpI X (2199023255552 * Z)) ≤ 0) then (bif decide (0 ≤ (cmpI Y (-(2199023255552 * Z)))) then decide ((cmpI Y (2199023255552 * Z)) ≤ 0) else false) else false) else false)))

set_option maxRecDepth 100000 in
set_option maxHeartbeats 4000000 in

theorem rSpR_is (X : Int) (Y : Int) (Z : Int)  (R0 : Bool) (hR0 : rspR X Y Z = R0)  (nX : Bool) (aX : Option Addr) (lX cX : Nat) (nY : Bool) (aY : Option Addr) (lY cY : Nat) (nZ : Bool) (aZ : Option Addr) (lZ cZ : Nat) (w : World) (hX : Big w (.agg #[.bool nX, .slice aX lX cX]) X 18) (hY : Big w (.agg #[.bool nY, .slice aY lY cY]) Y 18) (hZ : Big w (.agg #[.bool nZ, .slice aZ lZ cZ]) Z 18) :
    Calls Try.prog 41 #[.agg #[.bool nX, .slice aX lX cX, .bool nY, .slice aY lY cY, .bool nZ, .slice aZ lZ cZ]] w fun e w' => e = .returned (.bool R0) ∧ Below w.heap.size w w' := by

  have HX := Lib.hid hX
  clear hX
  have HY := Lib.hid hY
  clear hY
  have HZ := Lib.hid hZ
  clear hZ
  have HR0 := Lib.hid hR0
  clear hR0
  go_enter Try.func41, Try.ntmps41
  go_wp2_with fail
  first | refine calls_w ?_ | refine name_world ?_ | refine list_world ?_ | refine post_world ?_
  intro V1 hV1
  have hn : Below w.heap.size w V1 := by rw [hV1]; exact below_a1 _ _
  replace HX := Lib.hid (HX.out.of hn)
  replace HY := Lib.hid (HY.out.of hn)
  replace HZ := Lib.hid (HZ.out.of hn)
  have nhb0 := hn
  have k1 : Blk V1 w.heap.size #[.bool nX, .slice aX lX cX, .bool nY, .slice aY lY cY, .bool nZ, .slice aZ lZ cZ] 72 := by rw [hV1]; exact (Blk.new _ _ _)
  clear hV1
  have hb0 := nhb0
  clear nhb0
  obtain ⟨r1, hr1⟩ : ∃ o_o : Int, Z.sign = o_o := ⟨_, rfl⟩
  have Hr1 := Lib.hid hr1
  clear hr1
  obtain ⟨z2, hz2⟩ : ∃ o_o : Bool, decide (r1 ≤ 0) = o_o := ⟨_, rfl⟩
  cases z2
  · have c1_4 : V1.cell? ⟨w.heap.size, 4, none⟩ = some (.bool nZ) := k1.cell 4
    have c1_5 : V1.cell? ⟨w.heap.size, 5, none⟩ = some (.slice aZ lZ cZ) := k1.cell 5
    have l1 := k1.lt
    have Kk1 := Lib.hid k1
    clear k1
    refine wp_region_up V1.heap.size 8 [(true, 0), (true, 1), (false, 2), (true, 3), (true, 4), (true, 5), (true, 6), (false, 7)] (by kernel_rfl) (by kernel_rfl) (fun _ _ d _ _ h => by cases d <;> exact h) ?_
    have hb : Below V1.heap.size V1 V1.drew := (Below.refl _ _).drew
    iterate 2
      refine wpS_takeL rfl rfl ?_
      go_big_quiet_step (rfl)
      refine wpQuiet_nil ?_
    refine wpS_doL rfl ?_
    intro K hK
    go_wp2_with ((go_at_call 67; (with_reducible refine (bigSign_v (.agg #[.bool nZ, .slice aZ lZ cZ]) Z 18 r1 Hr1.out _ (HZ.out.of hb)).mono ?_); rintro e w2 ⟨rfl, hn⟩))
    replace hb := hb.trans (hn.mono hb.size)
    refine hK.out _ _ (up_iff.2 hb) ?_
    clear hK K
    clear hn
    iterate 4
      refine wpS_takeL rfl rfl ?_
      go_big_quiet_step (rfl)
      refine wpQuiet_nil ?_
    refine wpS_doL rfl ?_
    intro K hK
    go_wp2_with ((go_at_call 90; (with_reducible refine (pow90_v _).mono ?_); rintro e w2 ⟨v_, rfl, hbm, hn⟩; have HB1 := Lib.hid hbm; have hvm := hbm.shape; clear hbm; obtain ⟨bn1, ba1, bl1, bc1, rfl⟩ := hvm))
    try replace hb := hb.trans (hn.mono hb.size)
    refine hK.out _ _ (up_iff.2 hb) ?_
    clear hK K
    try clear hn
    refine wpS_nil ?_
    simp only [List.drop_succ_cons, List.drop_zero]
    first | refine calls_w ?_ | refine name_world ?_ | refine list_world ?_ | refine post_world ?_
    intro U2 hU2
    first | subst hU2 | (rw [← hU2] at hb; clear hU2)
    clear c1_4 c1_5 l1
    have k1 := Kk1.out.of hb
    clear Kk1
    replace HX := Lib.hid (HX.out.of hb)
    replace HY := Lib.hid (HY.out.of hb)
    replace HZ := Lib.hid (HZ.out.of hb)
    replace hb0 := hb0.trans (hb.mono hb0.size)
    clear hb
    go_wp2_with fail
    obtain ⟨r3, hr3⟩ : ∃ o_o : Int, cmpI Z 1237940039285380274899124224 = o_o := ⟨_, rfl⟩
    have Hr3 := Lib.hid hr3
    clear hr3
    refine (bigCmp_v (.agg #[.bool nZ, .slice aZ lZ cZ]) (.agg #[.bool bn1, .slice ba1 bl1 bc1]) Z 1237940039285380274899124224 18 7 r3 Hr3.out _ HZ.out HB1.out).mono ?_
    rintro e U3 ⟨rfl, hn⟩
    clear HB1
    replace k1 := k1.of hn
    replace HX := Lib.hid (HX.out.of hn)
    replace HY := Lib.hid (HY.out.of hn)
    replace HZ := Lib.hid (HZ.out.of hn)
    replace hb0 := hb0.trans (hn.mono hb0.size)
    clear hn
    obtain ⟨z4, hz4⟩ : ∃ o_o : Bool, decide (0 < r3) = o_o := ⟨_, rfl⟩
    cases z4
    · go_wp2_with fail
      obtain ⟨r5, hr5⟩ : ∃ o_o : Int, 2199023255552 * Z = o_o := ⟨_, rfl⟩
      have Hr5 := Lib.hid hr5
      clear hr5
      have c1_4 : U3.cell? ⟨w.heap.size, 4, none⟩ = some (.bool nZ) := k1.cell 4
      have c1_5 : U3.cell? ⟨w.heap.size, 5, none⟩ = some (.slice aZ lZ cZ) := k1.cell 5
      have l1 := k1.lt
      have Kk1 := Lib.hid k1
      clear k1
      refine wp_region_float1 5 4 [(true, 1), (true, 2), (false, 0), (false, 3)] (by kernel_rfl) (by kernel_rfl) (fun _ _ d _ _ => by cases d <;> exact Iff.rfl) rfl rfl rfl alCr9_0 ?_
      have hb : Below U3.heap.size U3 U3.drew := (Below.refl _ _).drew
      iterate 2
        refine wpF_take rfl rfl ?_
        go_big_quiet_step (rfl)
        refine wpQuiet_nil ?_
      refine wpF_do rfl ?_
      intro w1 hg K hK
      replace hb := hb.trans (hg.mono hb.size)
      try replace HB2 := Lib.hid (HB2.out.of hg); try replace HB3 := Lib.hid (HB3.out.of hg)
      clear hg
      go_wp2_with ((go_at_call 90; (with_reducible refine (pow41_v _).mono ?_); rintro e w2 ⟨v_, rfl, hbm, hn⟩; have HB2 := Lib.hid hbm; have hvm := hbm.shape; clear hbm; obtain ⟨bn2, ba2, bl2, bc2, rfl⟩ := hvm))
      refine hK.out _ _ hn ?_
      replace hb := hb.trans (hn.mono hb.size)
      clear hK K
      clear hn
      refine wpF_do rfl ?_
      intro w1 hg K hK
      replace hb := hb.trans (hg.mono hb.size)
      try replace HB2 := Lib.hid (HB2.out.of hg); try replace HB3 := Lib.hid (HB3.out.of hg)
      clear hg
      go_wp2_with ((go_at_call 65; (with_reducible refine (bigMul_v (.agg #[.bool bn2, .slice ba2 bl2 bc2]) (.agg #[.bool nZ, .slice aZ lZ cZ]) 2199023255552 Z r5 3 18 Hr5.out _ HB2.out (HZ.out.of hb) (by decide)).mono ?_); rintro e w2 ⟨v_, rfl, hbm, hn⟩; replace HB2 := Lib.hid (HB2.out.of hn); have HB3 := Lib.hid hbm; have hvm := hbm.shape; clear hbm; obtain ⟨bn3, ba3, bl3, bc3, rfl⟩ := hvm))
      refine hK.out _ _ hn ?_
      replace hb := hb.trans (hn.mono hb.size)
      clear hK K
      clear hn
      refine wpF_nil ?_
      clear hb
      intro w1 hg hb b1 lb1 nb1
      replace HB2 := Lib.hid (HB2.out.of hg)
      replace HB3 := Lib.hid (HB3.out.of hg)
      clear hg
      simp only [Act.put, ptrTo, List.setIfInBounds_toArray, List.set_cons_succ, List.set_cons_zero]
      simp only [List.drop_succ_cons, List.drop_zero]
      clear c1_4 c1_5 l1
      first | refine calls_w ?_ | refine name_world ?_ | refine list_world ?_ | refine post_world ?_
      intro U4 hU4
      subst hU4
      have D1 := Lib.hid Kk1.out.lt
      have D2 := Lib.hid hb0.size
      have k2 : Blk U4 b1 #[.bool false, .slice none 0 0] 28 := nb1
      have k1 := Kk1.out.of hb
      clear Kk1
      have D3 := Lib.hid lb1
      clear nb1 lb1
      replace HX := Lib.hid (HX.out.of hb)
      replace HY := Lib.hid (HY.out.of hb)
      replace HZ := Lib.hid (HZ.out.of hb)
      replace hb0 := hb0.trans (hb.mono hb0.size)
      clear hb
      generalize b1 = q2 at *
      have c2_0 : U4.cell? ⟨q2, 0, none⟩ = some (.bool false) := k2.cell 0
      have c2_1 : U4.cell? ⟨q2, 1, none⟩ = some (.slice none 0 0) := k2.cell 1
      have f2_0 := k2.free 0
      have f2_1 := k2.free 1
      have l2 := k2.lt
      go_wp2_with fail
      clear c2_0 c2_1 f2_0 f2_1 l2
      first | refine calls_w ?_ | refine name_world ?_ | refine list_world ?_ | refine post_world ?_
      intro V5 hV5
      clear HB2
      have D4 := Lib.hid k1.lt
      have D5 := Lib.hid k2.lt
      have D6 := Lib.hid hb0.size
      have nk1 : Blk V5 w.heap.size #[.bool nX, .slice aX lX cX, .bool nY, .slice aY lY cY, .bool nZ, .slice aZ lZ cZ] 72 := by rw [hV5]; exact (blk_setL k1 (by have := D1.out; have := D3.out; omega) 0 [.bool bn3, .slice ba3 bl3 bc3])
      have nk2 : Blk V5 q2 #[.bool bn3, .slice ba3 bl3 bc3] 28 := by rw [hV5]; exact (blk_full _ [.bool bn3, .slice ba3 bl3 bc3] k2 rfl)
      have nhb0 : Below w.heap.size w V5 := by rw [hV5]; exact (blw_setL hb0 (by have := D2.out; have := D3.out; omega) 0 [.bool bn3, .slice ba3 bl3 bc3])
      replace HX : Hid (Big V5 (.agg #[.bool nX, .slice aX lX cX]) X 18) := Lib.hid (by rw [hV5]; exact (big_setL HX.out (Blk.cell k2 0) (fun _ h => by cases h) 0 [.bool bn3, .slice ba3 bl3 bc3]))
      replace HY : Hid (Big V5 (.agg #[.bool nY, .slice aY lY cY]) Y 18) := Lib.hid (by rw [hV5]; exact (big_setL HY.out (Blk.cell k2 0) (fun _ h => by cases h) 0 [.bool bn3, .slice ba3 bl3 bc3]))
      replace HZ : Hid (Big V5 (.agg #[.bool nZ, .slice aZ lZ cZ]) Z 18) := Lib.hid (by rw [hV5]; exact (big_setL HZ.out (Blk.cell k2 0) (fun _ h => by cases h) 0 [.bool bn3, .slice ba3 bl3 bc3]))
      replace HB3 : Hid (Big V5 (.agg #[.bool bn3, .slice ba3 bl3 bc3]) r5 21) := Lib.hid (by rw [hV5]; exact (big_setL HB3.out (Blk.cell k2 0) (fun _ h => by cases h) 0 [.bool bn3, .slice ba3 bl3 bc3]))
      clear k1 k2
      clear hb0
      clear hV5
      have k1 := nk1
      clear nk1
      have k2 := nk2
      clear nk2
      have hb0 := nhb0
      clear nhb0
      obtain ⟨r6, hr6⟩ : ∃ o_o : Int, -r5 = o_o := ⟨_, rfl⟩
      have Hr6 := Lib.hid hr6
      clear hr6
      refine (bigMinus_v (.agg #[.bool bn3, .slice ba3 bl3 bc3]) r5 r6 21 Hr6.out _ HB3.out).mono ?_
      rintro e U6 ⟨v_, rfl, hbm, hn⟩
      replace k1 := k1.of hn
      replace k2 := k2.of hn
      replace HX := Lib.hid (HX.out.of hn)
      replace HY := Lib.hid (HY.out.of hn)
      replace HZ := Lib.hid (HZ.out.of hn)
      replace HB3 := Lib.hid (HB3.out.of hn)
      replace hb0 := hb0.trans (hn.mono hb0.size)
      clear hn
      have HB4 := Lib.hid hbm
      have hvm := hbm.shape
      clear hbm
      obtain ⟨bn4, ba4, bl4, bc4, rfl⟩ := hvm
      have c1_0 : U6.cell? ⟨w.heap.size, 0, none⟩ = some (.bool nX) := k1.cell 0
      have c1_1 : U6.cell? ⟨w.heap.size, 1, none⟩ = some (.slice aX lX cX) := k1.cell 1
      have l1 := k1.lt
      go_wp2_with fail
      clear c1_0 c1_1 l1
      first | refine calls_w ?_ | refine name_world ?_ | refine list_world ?_ | refine post_world ?_
      intro V7 hV7
      have D7 := Lib.hid k1.lt
      have D8 := Lib.hid k2.lt
      have D9 := Lib.hid hb0.size
      have hn : Below U6.heap.size U6 V7 := by rw [hV7]; exact below_a1 _ _
      have nk1 := k1.of hn
      have nk2 := k2.of hn
      replace HX := Lib.hid (HX.out.of hn)
      replace HY := Lib.hid (HY.out.of hn)
      replace HZ := Lib.hid (HZ.out.of hn)
      replace HB3 := Lib.hid (HB3.out.of hn)
      replace HB4 := Lib.hid (HB4.out.of hn)
      have nhb0 := hb0.trans (hn.mono hb0.size)
      clear hn
      have k3 : Blk V7 U6.heap.size #[.bool bn4, .slice ba4 bl4 bc4] 28 := by rw [hV7]; exact (Blk.new _ _ _)
      clear k1 k2
      clear hb0
      clear hV7
      have k1 := nk1
      clear nk1
      have k2 := nk2
      clear nk2
      have hb0 := nhb0
      clear nhb0
      obtain ⟨r7, hr7⟩ : ∃ o_o : Int, cmpI X r6 = o_o := ⟨_, rfl⟩
      have Hr7 := Lib.hid hr7
      clear hr7
      refine (bigCmp_v (.agg #[.bool nX, .slice aX lX cX]) (.agg #[.bool bn4, .slice ba4 bl4 bc4]) X r6 18 21 r7 Hr7.out _ HX.out HB4.out).mono ?_
      rintro e U8 ⟨rfl, hn⟩
      replace k1 := k1.of hn
      replace k2 := k2.of hn
      replace k3 := k3.of hn
      replace HX := Lib.hid (HX.out.of hn)
      replace HY := Lib.hid (HY.out.of hn)
      replace HZ := Lib.hid (HZ.out.of hn)
      replace HB3 := Lib.hid (HB3.out.of hn)
      replace HB4 := Lib.hid (HB4.out.of hn)
      replace hb0 := hb0.trans (hn.mono hb0.size)
      clear hn
      obtain ⟨z8, hz8⟩ : ∃ o_o : Bool, decide (0 ≤ r7) = o_o := ⟨_, rfl⟩
      cases z8
      · have e0 : false = R0 := by rw [← HR0.out]; unfold rspR; (try rw [Hr1.out]); (try rw [hz2]); (try rw [Hr3.out]); (try rw [hz4]); (try rw [Hr5.out]); (try rw [Hr6.out]); (try rw [Hr7.out]); (try rw [hz8]); all_goals first | rfl | simp
        subst e0
        go_wp2
        first | go_ret | go_ret2
        exact ⟨by first | rfl | simp, hb0⟩
      · have c1_0 : U8.cell? ⟨w.heap.size, 0, none⟩ = some (.bool nX) := k1.cell 0
        have c1_1 : U8.cell? ⟨w.heap.size, 1, none⟩ = some (.slice aX lX cX) := k1.cell 1
        have l1 := k1.lt
        have c2_0 : U8.cell? ⟨q2, 0, none⟩ = some (.bool bn3) := k2.cell 0
        have c2_1 : U8.cell? ⟨q2, 1, none⟩ = some (.slice ba3 bl3 bc3) := k2.cell 1
        have l2 := k2.lt
        go_wp2_with fail
        clear c1_0 c1_1 l1 c2_0 c2_1 l2
        obtain ⟨r9, hr9⟩ : ∃ o_o : Int, cmpI X r5 = o_o := ⟨_, rfl⟩
        have Hr9 := Lib.hid hr9
        clear hr9
        refine (bigCmp_v (.agg #[.bool nX, .slice aX lX cX]) (.agg #[.bool bn3, .slice ba3 bl3 bc3]) X r5 18 21 r9 Hr9.out _ HX.out HB3.out).mono ?_
        rintro e U9 ⟨rfl, hn⟩
        replace k1 := k1.of hn
        replace k2 := k2.of hn
        replace k3 := k3.of hn
        replace HX := Lib.hid (HX.out.of hn)
        replace HY := Lib.hid (HY.out.of hn)
        replace HZ := Lib.hid (HZ.out.of hn)
        replace HB3 := Lib.hid (HB3.out.of hn)
        replace HB4 := Lib.hid (HB4.out.of hn)
        replace hb0 := hb0.trans (hn.mono hb0.size)
        clear hn
        obtain ⟨z10, hz10⟩ : ∃ o_o : Bool, decide (r9 ≤ 0) = o_o := ⟨_, rfl⟩
        cases z10
        · have e0 : false = R0 := by rw [← HR0.out]; unfold rspR; (try rw [Hr1.out]); (try rw [hz2]); (try rw [Hr3.out]); (try rw [hz4]); (try rw [Hr5.out]); (try rw [Hr6.out]); (try rw [Hr7.out]); (try rw [hz8]); (try rw [Hr9.out]); (try rw [hz10]); all_goals first | rfl | simp
          subst e0
          go_wp2
          first | go_ret | go_ret2
          exact ⟨by first | rfl | simp, hb0⟩
        · have c1_2 : U9.cell? ⟨w.heap.size, 2, none⟩ = some (.bool nY) := k1.cell 2
          have c1_3 : U9.cell? ⟨w.heap.size, 3, none⟩ = some (.slice aY lY cY) := k1.cell 3
          have l1 := k1.lt
          have c3_0 : U9.cell? ⟨U6.heap.size, 0, none⟩ = some (.bool bn4) := k3.cell 0
          have c3_1 : U9.cell? ⟨U6.heap.size, 1, none⟩ = some (.slice ba4 bl4 bc4) := k3.cell 1
          have l3 := k3.lt
          go_wp2_with fail
          clear c1_2 c1_3 l1 c3_0 c3_1 l3
          obtain ⟨r11, hr11⟩ : ∃ o_o : Int, cmpI Y r6 = o_o := ⟨_, rfl⟩
          have Hr11 := Lib.hid hr11
          clear hr11
          refine (bigCmp_v (.agg #[.bool nY, .slice aY lY cY]) (.agg #[.bool bn4, .slice ba4 bl4 bc4]) Y r6 18 21 r11 Hr11.out _ HY.out HB4.out).mono ?_
          rintro e U10 ⟨rfl, hn⟩
          clear HB4
          clear k3
          replace k1 := k1.of hn
          replace k2 := k2.of hn
          replace HX := Lib.hid (HX.out.of hn)
          replace HY := Lib.hid (HY.out.of hn)
          replace HZ := Lib.hid (HZ.out.of hn)
          replace HB3 := Lib.hid (HB3.out.of hn)
          replace hb0 := hb0.trans (hn.mono hb0.size)
          clear hn
          obtain ⟨z12, hz12⟩ : ∃ o_o : Bool, decide (0 ≤ r11) = o_o := ⟨_, rfl⟩
          cases z12
          · have e0 : false = R0 := by rw [← HR0.out]; unfold rspR; (try rw [Hr1.out]); (try rw [hz2]); (try rw [Hr3.out]); (try rw [hz4]); (try rw [Hr5.out]); (try rw [Hr6.out]); (try rw [Hr7.out]); (try rw [hz8]); (try rw [Hr9.out]); (try rw [hz10]); (try rw [Hr11.out]); (try rw [hz12]); all_goals first | rfl | simp
            subst e0
            go_wp2
            first | go_ret | go_ret2
            exact ⟨by first | rfl | simp, hb0⟩
          · have c1_2 : U10.cell? ⟨w.heap.size, 2, none⟩ = some (.bool nY) := k1.cell 2
            have c1_3 : U10.cell? ⟨w.heap.size, 3, none⟩ = some (.slice aY lY cY) := k1.cell 3
            have l1 := k1.lt
            have c2_0 : U10.cell? ⟨q2, 0, none⟩ = some (.bool bn3) := k2.cell 0
            have c2_1 : U10.cell? ⟨q2, 1, none⟩ = some (.slice ba3 bl3 bc3) := k2.cell 1
            have l2 := k2.lt
            go_wp2_with fail
            clear c1_2 c1_3 l1 c2_0 c2_1 l2
            obtain ⟨r13, hr13⟩ : ∃ o_o : Int, cmpI Y r5 = o_o := ⟨_, rfl⟩
            have Hr13 := Lib.hid hr13
            clear hr13
            refine (bigCmp_v (.agg #[.bool nY, .slice aY lY cY]) (.agg #[.bool bn3, .slice ba3 bl3 bc3]) Y r5 18 21 r13 Hr13.out _ HY.out HB3.out).mono ?_
            rintro e U11 ⟨rfl, hn⟩
            clear HX HY HZ HB3
            clear k1 k2
            replace hb0 := hb0.trans (hn.mono hb0.size)
            clear hn
            have e0 : decide (r13 ≤ 0) = R0 := by rw [← HR0.out]; unfold rspR; (try rw [Hr1.out]); (try rw [hz2]); (try rw [Hr3.out]); (try rw [hz4]); (try rw [Hr5.out]); (try rw [Hr6.out]); (try rw [Hr7.out]); (try rw [hz8]); (try rw [Hr9.out]); (try rw [hz10]); (try rw [Hr11.out]); (try rw [hz12]); (try rw [Hr13.out]); all_goals first | rfl | simp
            subst e0
            go_wp2
            first | go_ret | go_ret2
            exact ⟨by first | rfl | simp, hb0⟩
    · have e0 : false = R0 := by rw [← HR0.out]; unfold rspR; (try rw [Hr1.out]); (try rw [hz2]); (try rw [Hr3.out]); (try rw [hz4]); all_goals first | rfl | simp
      subst e0
      go_wp2
      first | go_ret | go_ret2
      exact ⟨by first | rfl | simp, hb0⟩
  · have c1_4 : V1.cell? ⟨w.heap.size, 4, none⟩ = some (.bool nZ) := k1.cell 4
    have c1_5 : V1.cell? ⟨w.heap.size, 5, none⟩ = some (.slice aZ lZ cZ) := k1.cell 5
    have l1 := k1.lt
    have Kk1 := Lib.hid k1
    clear k1
    refine wp_region_up V1.heap.size 8 [(true, 0), (true, 1), (false, 2), (true, 3), (true, 4), (true, 5), (true, 6), (false, 7)] (by kernel_rfl) (by kernel_rfl) (fun _ _ d _ _ h => by cases d <;> exact h) ?_
    have hb : Below V1.heap.size V1 V1.drew := (Below.refl _ _).drew
    iterate 2
      refine wpS_takeL rfl rfl ?_
      go_big_quiet_step (rfl)
      refine wpQuiet_nil ?_
    refine wpS_doL rfl ?_
    intro K hK
    go_wp2_with ((go_at_call 67; (with_reducible refine (bigSign_v (.agg #[.bool nZ, .slice aZ lZ cZ]) Z 18 r1 Hr1.out _ (HZ.out.of hb)).mono ?_); rintro e w2 ⟨rfl, hn⟩))
    replace hb := hb.trans (hn.mono hb.size)
    refine hK.out _ _ (up_iff.2 hb) ?_
    clear hK K
    clear hn
    iterate 4
      refine wpS_takeL rfl rfl ?_
      go_big_quiet_step (rfl)
      refine wpQuiet_nil ?_
    refine wpS_doL rfl ?_
    intro K hK
    go_wp2_with ((go_at_call 67; (with_reducible refine (bigSign_v (.agg #[.bool nZ, .slice aZ lZ cZ]) Z 18 r1 Hr1.out _ (HZ.out.of hb)).mono ?_); rintro e w2 ⟨rfl, hn⟩))
    try replace hb := hb.trans (hn.mono hb.size)
    refine hK.out _ _ (up_iff.2 hb) ?_
    clear hK K
    try clear hn
    refine wpS_nil ?_
    simp only [List.drop_succ_cons, List.drop_zero]
    first | refine calls_w ?_ | refine name_world ?_ | refine list_world ?_ | refine post_world ?_
    intro U12 hU12
    first | subst hU12 | (rw [← hU12] at hb; clear hU12)
    clear c1_4 c1_5 l1
    have k1 := Kk1.out.of hb
    clear Kk1
    replace HX := Lib.hid (HX.out.of hb)
    replace HY := Lib.hid (HY.out.of hb)
    replace HZ := Lib.hid (HZ.out.of hb)
    replace hb0 := hb0.trans (hb.mono hb0.size)
    clear hb
    have e0 : false = R0 := by rw [← HR0.out]; unfold rspR; (try rw [Hr1.out]); (try rw [hz2]); all_goals first | rfl | simp
    subst e0
    go_wp2
    first | go_ret | go_ret2
    exact ⟨by first | rfl | simp, hb0⟩

end Go.Proofs.Ytlcbomjdbdgbmaa

namespace Go.Proofs.Ytlcbomjdbdgbmaa
open Go.RowKit

def prfx (x : Int) (_y : Int) : Int := x

def prfy (_x : Int) (y : Int) : Int := y

set_option maxRecDepth 100000 in
set_option maxHeartbeats 4000000 in

theorem p15ref_is (x : Int) (y : Int)  (R0 : Int) (R1 : Int) (hR0 : prfx x y = R0) (hR1 : prfy x y = R1) (_ix : In64 x) (_iy : In64 y)  (w : World)  :
    Calls Try.prog 32 #[.agg #[.int .i64 x, .int .i64 y]] w fun e w' => e = .returned (.agg #[.int .i64 R0, .int .i64 R1]) ∧ Below w.heap.size w w' := by

  have HR0 := Lib.hid hR0
  clear hR0
  have HR1 := Lib.hid hR1
  clear hR1
  go_enter Try.func32, Try.ntmps32
  have e0 : x = R0 := by rw [← HR0.out]; unfold prfx; all_goals first | rfl | simp
  have e1 : y = R1 := by rw [← HR1.out]; unfold prfy; all_goals first | rfl | simp
  subst e0
  subst e1
  go_wp2
  first | refine post_world ?_
  intro V1 hV1
  have hn : Below w.heap.size w V1 := by rw [hV1]; exact below_a2 _ _ _
  have nhb0 := hn
  have k2 : Blk V1 (w.heap.size + 1) #[.int .i64 x, .int .i64 y] 31 := by rw [hV1]; exact (Blk.new1 _ _ _ _)
  clear hV1
  have hb0 := nhb0
  clear nhb0
  have g2_0 : V1.cell? ⟨(w.heap.size + 1), 0, none⟩ = some (.int .i64 x) := k2.cell 0
  have g2_1 : V1.cell? ⟨(w.heap.size + 1), 1, none⟩ = some (.int .i64 y) := k2.cell 1
  clear k2
  simp [bodyPost, results, Try.results32, go_sem, g2_0, g2_1]
  first | exact hb0 | exact ⟨rfl, hb0⟩

def pspx (x : Int) (_y : Int) (_v : Int) : Int := (x)

def pspy (_x : Int) (y : Int) (_v : Int) : Int := (y)

def pspv (_x : Int) (_y : Int) (v : Int) : Int := (v)

def p15spot_is_post (w : World) (R0 : Int) (R1 : Int) (R2 : Int) (e : Ending) (w' : World) : Prop := ∃ (m0 : Bool) (p0 : Option Addr) (q0 t0 : Nat) (m1 : Bool) (p1 : Option Addr) (q1 t1 : Nat) (m2 : Bool) (p2 : Option Addr) (q2 t2 : Nat), e = .returned (.agg #[.bool m0, .slice p0 q0 t0, .bool m1, .slice p1 q1 t1, .bool m2, .slice p2 q2 t2]) ∧ Big w' (.agg #[.bool m0, .slice p0 q0 t0]) R0 18 ∧ Big w' (.agg #[.bool m1, .slice p1 q1 t1]) R1 18 ∧ Big w' (.agg #[.bool m2, .slice p2 q2 t2]) R2 18 ∧ Below w.heap.size w w'

set_option maxRecDepth 100000 in
set_option maxHeartbeats 4000000 in

theorem p15spot_is (x : Int) (y : Int) (v : Int)  (R0 : Int) (R1 : Int) (R2 : Int) (hR0 : pspx x y v = R0) (hR1 : pspy x y v = R1) (hR2 : pspv x y v = R2) (_ix : InI x) (_iy : InI y) (_iv : InI v)  (w : World)  :
    Calls Try.prog 40 #[.agg #[.int .u64 (wd0 x), .int .u64 (wd1 x), .int .u64 (wd2 x), .int .u64 (wd3 x), .int .u64 (wd0 y), .int .u64 (wd1 y), .int .u64 (wd2 y), .int .u64 (wd3 y), .int .u64 (wd0 v), .int .u64 (wd1 v), .int .u64 (wd2 v), .int .u64 (wd3 v)]] w (p15spot_is_post w R0 R1 R2) := by

  have HR0 := Lib.hid hR0
  clear hR0
  have HR1 := Lib.hid hR1
  clear hR1
  have HR2 := Lib.hid hR2
  clear hR2
  go_enter Try.func40, Try.ntmps40
  go_wp2_with fail
  first | refine calls_w ?_ | refine name_world ?_ | refine list_world ?_ | refine post_world ?_
  intro V1 hV1
  have hn : Below w.heap.size w V1 := by rw [hV1]; exact below_a2 _ _ _
  have nhb0 := hn
  have k1 : Blk V1 w.heap.size #[.int .u64 (wd0 x), .int .u64 (wd1 x), .int .u64 (wd2 x), .int .u64 (wd3 x), .int .u64 (wd0 y), .int .u64 (wd1 y), .int .u64 (wd2 y), .int .u64 (wd3 y), .int .u64 (wd0 v), .int .u64 (wd1 v), .int .u64 (wd2 v), .int .u64 (wd3 v)] 67 := by rw [hV1]; exact ((Blk.new _ _ _).alloc _)
  have k2 : Blk V1 (w.heap.size + 1) #[.bool false, .slice none 0 0, .bool false, .slice none 0 0, .bool false, .slice none 0 0] 72 := by rw [hV1]; exact (Blk.new1 _ _ _ _)
  clear hV1
  have hb0 := nhb0
  clear nhb0
  obtain ⟨r1, hr1⟩ : ∃ o_o : Int, x = o_o := ⟨_, rfl⟩
  have Hr1 := Lib.hid hr1
  clear hr1
  obtain ⟨r2, hr2⟩ : ∃ o_o : Int, y = o_o := ⟨_, rfl⟩
  have Hr2 := Lib.hid hr2
  clear hr2
  have c1_0 : V1.cell? ⟨w.heap.size, 0, none⟩ = some (.int .u64 (wd0 x)) := k1.cell 0
  have c1_1 : V1.cell? ⟨w.heap.size, 1, none⟩ = some (.int .u64 (wd1 x)) := k1.cell 1
  have c1_2 : V1.cell? ⟨w.heap.size, 2, none⟩ = some (.int .u64 (wd2 x)) := k1.cell 2
  have c1_3 : V1.cell? ⟨w.heap.size, 3, none⟩ = some (.int .u64 (wd3 x)) := k1.cell 3
  have c1_4 : V1.cell? ⟨w.heap.size, 4, none⟩ = some (.int .u64 (wd0 y)) := k1.cell 4
  have c1_5 : V1.cell? ⟨w.heap.size, 5, none⟩ = some (.int .u64 (wd1 y)) := k1.cell 5
  have c1_6 : V1.cell? ⟨w.heap.size, 6, none⟩ = some (.int .u64 (wd2 y)) := k1.cell 6
  have c1_7 : V1.cell? ⟨w.heap.size, 7, none⟩ = some (.int .u64 (wd3 y)) := k1.cell 7
  have c1_8 : V1.cell? ⟨w.heap.size, 8, none⟩ = some (.int .u64 (wd0 v)) := k1.cell 8
  have c1_9 : V1.cell? ⟨w.heap.size, 9, none⟩ = some (.int .u64 (wd1 v)) := k1.cell 9
  have c1_10 : V1.cell? ⟨w.heap.size, 10, none⟩ = some (.int .u64 (wd2 v)) := k1.cell 10
  have c1_11 : V1.cell? ⟨w.heap.size, 11, none⟩ = some (.int .u64 (wd3 v)) := k1.cell 11
  have l1 := k1.lt
  have Kk1 := Lib.hid k1
  clear k1
  have Kk2 := Lib.hid k2
  clear k2
  refine wp_region_up V1.heap.size 8 [(true, 0), (true, 1), (true, 3), (true, 4), (true, 6), (true, 7), (false, 2), (false, 5)] (by kernel_rfl) (by kernel_rfl) (fun _ _ d _ _ h => by cases d <;> exact h) ?_
  have hb : Below V1.heap.size V1 V1.drew := (Below.refl _ _).drew
  iterate 6
    refine wpS_takeL rfl rfl ?_
    go_big_quiet_step (rfl)
    refine wpQuiet_nil ?_
  refine wpS_doL rfl ?_
  intro K hK
  go_wp2_with ((first | (go_at_call 24; (with_reducible refine (Read_v x r1 Hr1.out _ix _).mono ?_); rintro e w2 ⟨v_, rfl, hbm, hn⟩; have HB1 := Lib.hid hbm; have hvm := hbm.shape; clear hbm; obtain ⟨bn1, ba1, bl1, bc1, rfl⟩ := hvm) | (go_at_call 24; (with_reducible refine (Read_v y r2 Hr2.out _iy _).mono ?_); rintro e w2 ⟨v_, rfl, hbm, hn⟩; replace HB1 := Lib.hid (HB1.out.of hn); have HB2 := Lib.hid hbm; have hvm := hbm.shape; clear hbm; obtain ⟨bn2, ba2, bl2, bc2, rfl⟩ := hvm)))
  replace hb := hb.trans (hn.mono hb.size)
  refine hK.out _ _ (up_iff.2 hb) ?_
  clear hK K
  clear hn
  refine wpS_doL rfl ?_
  intro K hK
  go_wp2_with ((first | (go_at_call 24; (with_reducible refine (Read_v x r1 Hr1.out _ix _).mono ?_); rintro e w2 ⟨v_, rfl, hbm, hn⟩; have HB1 := Lib.hid hbm; have hvm := hbm.shape; clear hbm; obtain ⟨bn1, ba1, bl1, bc1, rfl⟩ := hvm) | (go_at_call 24; (with_reducible refine (Read_v y r2 Hr2.out _iy _).mono ?_); rintro e w2 ⟨v_, rfl, hbm, hn⟩; replace HB1 := Lib.hid (HB1.out.of hn); have HB2 := Lib.hid hbm; have hvm := hbm.shape; clear hbm; obtain ⟨bn2, ba2, bl2, bc2, rfl⟩ := hvm)))
  replace hb := hb.trans (hn.mono hb.size)
  refine hK.out _ _ (up_iff.2 hb) ?_
  clear hK K
  clear hn
  refine wpS_nil ?_
  simp only [List.drop_succ_cons, List.drop_zero]
  first | refine calls_w ?_ | refine name_world ?_ | refine list_world ?_ | refine post_world ?_
  intro U2 hU2
  first | (subst hU2; have u_ := U2; clear u_) | (rw [← hU2] at hb; clear hU2)
  clear c1_0 c1_1 c1_2 c1_3 c1_4 c1_5 c1_6 c1_7 c1_8 c1_9 c1_10 c1_11 l1
  have k1 := Kk1.out.of hb
  clear Kk1
  have k2 := Kk2.out.of hb
  clear Kk2
  replace hb0 := hb0.trans (hb.mono hb0.size)
  clear hb
  go_wp2_with fail
  obtain ⟨r3, hr3⟩ : ∃ o_o : Int, v = o_o := ⟨_, rfl⟩
  have Hr3 := Lib.hid hr3
  clear hr3
  refine (Read_v v r3 Hr3.out _iv _).mono ?_
  rintro e U3 ⟨v_, rfl, hbm, hn⟩
  clear k1
  replace k2 := k2.of hn
  replace HB1 := Lib.hid (HB1.out.of hn)
  replace HB2 := Lib.hid (HB2.out.of hn)
  replace hb0 := hb0.trans (hn.mono hb0.size)
  clear hn
  have HB3 := Lib.hid hbm
  have hvm := hbm.shape
  clear hbm
  obtain ⟨bn3, ba3, bl3, bc3, rfl⟩ := hvm
  have c2_0 : U3.cell? ⟨(w.heap.size + 1), 0, none⟩ = some (.bool false) := k2.cell 0
  have c2_1 : U3.cell? ⟨(w.heap.size + 1), 1, none⟩ = some (.slice none 0 0) := k2.cell 1
  have c2_2 : U3.cell? ⟨(w.heap.size + 1), 2, none⟩ = some (.bool false) := k2.cell 2
  have c2_3 : U3.cell? ⟨(w.heap.size + 1), 3, none⟩ = some (.slice none 0 0) := k2.cell 3
  have c2_4 : U3.cell? ⟨(w.heap.size + 1), 4, none⟩ = some (.bool false) := k2.cell 4
  have c2_5 : U3.cell? ⟨(w.heap.size + 1), 5, none⟩ = some (.slice none 0 0) := k2.cell 5
  have f2_0 := k2.free 0
  have f2_1 := k2.free 1
  have f2_2 := k2.free 2
  have f2_3 := k2.free 3
  have f2_4 := k2.free 4
  have f2_5 := k2.free 5
  have l2 := k2.lt
  have e0 : r1 = R0 := by rw [← HR0.out]; unfold pspx; (try rw [Hr1.out]); (try rw [Hr2.out]); (try rw [Hr3.out]); all_goals first | rfl | simp
  have e1 : r2 = R1 := by rw [← HR1.out]; unfold pspy; (try rw [Hr1.out]); (try rw [Hr2.out]); (try rw [Hr3.out]); all_goals first | rfl | simp
  have e2 : r3 = R2 := by rw [← HR2.out]; unfold pspv; (try rw [Hr1.out]); (try rw [Hr2.out]); (try rw [Hr3.out]); all_goals first | rfl | simp
  subst e0
  subst e1
  subst e2
  go_wp2
  clear c2_0 c2_1 c2_2 c2_3 c2_4 c2_5 f2_0 f2_1 f2_2 f2_3 f2_4 f2_5 l2
  first | refine post_world ?_
  intro V4 hV4
  have D1 := Lib.hid k2.lt
  have D2 := Lib.hid hb0.size
  have nk2 : Blk V4 (w.heap.size + 1) #[.bool bn1, .slice ba1 bl1 bc1, .bool bn2, .slice ba2 bl2 bc2, .bool bn3, .slice ba3 bl3 bc3] 72 := by rw [hV4]; exact (blk_full _ [.bool bn1, .slice ba1 bl1 bc1, .bool bn2, .slice ba2 bl2 bc2, .bool bn3, .slice ba3 bl3 bc3] k2 rfl)
  have nhb0 : Below w.heap.size w V4 := by rw [hV4]; exact (blw_setL hb0 (by omega) 0 [.bool bn1, .slice ba1 bl1 bc1, .bool bn2, .slice ba2 bl2 bc2, .bool bn3, .slice ba3 bl3 bc3])
  replace HB1 : Hid (Big V4 (.agg #[.bool bn1, .slice ba1 bl1 bc1]) r1 18) := Lib.hid (by rw [hV4]; exact (big_setL HB1.out (Blk.cell k2 0) (fun _ h => by cases h) 0 [.bool bn1, .slice ba1 bl1 bc1, .bool bn2, .slice ba2 bl2 bc2, .bool bn3, .slice ba3 bl3 bc3]))
  replace HB2 : Hid (Big V4 (.agg #[.bool bn2, .slice ba2 bl2 bc2]) r2 18) := Lib.hid (by rw [hV4]; exact (big_setL HB2.out (Blk.cell k2 0) (fun _ h => by cases h) 0 [.bool bn1, .slice ba1 bl1 bc1, .bool bn2, .slice ba2 bl2 bc2, .bool bn3, .slice ba3 bl3 bc3]))
  replace HB3 : Hid (Big V4 (.agg #[.bool bn3, .slice ba3 bl3 bc3]) r3 18) := Lib.hid (by rw [hV4]; exact (big_setL HB3.out (Blk.cell k2 0) (fun _ h => by cases h) 0 [.bool bn1, .slice ba1 bl1 bc1, .bool bn2, .slice ba2 bl2 bc2, .bool bn3, .slice ba3 bl3 bc3]))
  clear k2
  clear hb0
  clear hV4
  have k2 := nk2
  clear nk2
  have hb0 := nhb0
  clear nhb0
  have g2_0 : V4.cell? ⟨(w.heap.size + 1), 0, none⟩ = some (.bool bn1) := k2.cell 0
  have g2_1 : V4.cell? ⟨(w.heap.size + 1), 1, none⟩ = some (.slice ba1 bl1 bc1) := k2.cell 1
  have g2_2 : V4.cell? ⟨(w.heap.size + 1), 2, none⟩ = some (.bool bn2) := k2.cell 2
  have g2_3 : V4.cell? ⟨(w.heap.size + 1), 3, none⟩ = some (.slice ba2 bl2 bc2) := k2.cell 3
  have g2_4 : V4.cell? ⟨(w.heap.size + 1), 4, none⟩ = some (.bool bn3) := k2.cell 4
  have g2_5 : V4.cell? ⟨(w.heap.size + 1), 5, none⟩ = some (.slice ba3 bl3 bc3) := k2.cell 5
  clear k2
  simp [bodyPost, results, Try.results40, go_sem, g2_0, g2_1, g2_2, g2_3, g2_4, g2_5]
  exact ⟨_, _, _, _, _, _, _, _, _, _, _, _, rfl, (HB1.out.mono (by decide)), (HB2.out.mono (by decide)), (HB3.out.mono (by decide)), hb0⟩

def psz (n : Int) : Bool := (bif decide (1 ≤ n) then decide (n ≤ 1048576) else false)

set_option maxRecDepth 100000 in
set_option maxHeartbeats 4000000 in

theorem p15size_is (n : Int)  (R0 : Bool) (hR0 : psz n = R0) (_in : In64 n)  (w : World)  :
    Calls Try.prog 31 #[.int .i64 n] w fun e w' => e = .returned (.bool R0) ∧ Below w.heap.size w w' := by

  have HR0 := Lib.hid hR0
  clear hR0
  obtain ⟨z1, hz1⟩ : ∃ o_o : Bool, decide (1 ≤ n) = o_o := ⟨_, rfl⟩
  cases z1
  · go_enter Try.func31, Try.ntmps31
    have e0 : false = R0 := by rw [← HR0.out]; unfold psz; (try rw [hz1]); all_goals first | rfl | simp
    subst e0
    go_wp2
    first | go_ret | go_ret2
    exact ⟨by first | rfl | simp, Below.refl _ _⟩
  · go_enter Try.func31, Try.ntmps31
    have e0 : decide (n ≤ 1048576) = R0 := by rw [← HR0.out]; unfold psz; (try rw [hz1]); all_goals first | rfl | simp
    subst e0
    go_wp2
    first | go_ret | go_ret2
    exact ⟨by first | rfl | simp, Below.refl _ _⟩
end Go.Proofs.Ytlcbomjdbdgbmaa

namespace Go.Proofs.Ytlcbomjdbdgbmaa
open Go.RowKit

set_option maxRecDepth 100000 in
set_option maxHeartbeats 4000000 in

theorem p15awake_is     (hP0 : pxM (-20) 0 20 0 0 0 10 = true) (hP1 : pxM (-20) 0 20 0 0 1 10 = false) (hP2 : atx 5 0 = 5) (hP3 : aty 5 0 = 0) (hP4 : atw 5 0 = 1) (hP5 : pxOx 5 0 1 10 = 1) (hP6 : pxOy 5 0 1 10 = 0) (hP7 : pxOe 5 0 1 10 = 0) (hP8 : atx (-5) 0 = (-5)) (hP9 : aty (-5) 0 = 0) (hP10 : atw (-5) 0 = 1) (hP11 : pxOx (-5) 0 1 10 = 0) (hP12 : pxOy (-5) 0 1 10 = 0) (hP13 : pxOe (-5) 0 1 10 = 0) (hP14 : pxOx 0 0 0 10 = 0) (hP15 : pxOy 0 0 0 10 = 0) (hP16 : pxOe 0 0 0 10 = 11)  (w : World)  :
    Calls Try.prog 34 #[] w fun e w' => e = .returned (.bool true) ∧ Below w.heap.size w w' := by

  have HP0 := Lib.hid hP0
  clear hP0
  have HP1 := Lib.hid hP1
  clear hP1
  have HP2 := Lib.hid hP2
  clear hP2
  have HP3 := Lib.hid hP3
  clear hP3
  have HP4 := Lib.hid hP4
  clear hP4
  have HP5 := Lib.hid hP5
  clear hP5
  have HP6 := Lib.hid hP6
  clear hP6
  have HP7 := Lib.hid hP7
  clear hP7
  have HP8 := Lib.hid hP8
  clear hP8
  have HP9 := Lib.hid hP9
  clear hP9
  have HP10 := Lib.hid hP10
  clear hP10
  have HP11 := Lib.hid hP11
  clear hP11
  have HP12 := Lib.hid hP12
  clear hP12
  have HP13 := Lib.hid hP13
  clear hP13
  have HP14 := Lib.hid hP14
  clear hP14
  have HP15 := Lib.hid hP15
  clear hP15
  have HP16 := Lib.hid hP16
  clear hP16
  go_enter Try.func34, Try.ntmps34
  go_wp2_with fail
  refine (crAt_is 5 0 5 0 1 HP2.out HP3.out HP4.out (by unfold In64; omega) (by unfold In64; omega)  _).mono ?_
  rintro e U1 ⟨rfl, hn⟩
  have hb0 := hn
  clear hn
  go_wp2_with fail
  refine (pxOf_is 5 0 1 10 1 0 0 HP5.out HP6.out HP7.out (by unfold InI b255; omega) (by unfold InI b255; omega) (by unfold InI b255; omega) (by unfold In64; omega)  _).mono ?_
  rintro e U2 ⟨rfl, hn⟩
  replace hb0 := hb0.trans (hn.mono hb0.size)
  clear hn
  go_wp2_with fail
  first | refine calls_w ?_ | refine name_world ?_ | refine list_world ?_ | refine post_world ?_
  intro V3 hV3
  have D1 := Lib.hid hb0.size
  have hn : Below U2.heap.size U2 V3 := by rw [hV3]; exact below_a1 _ _
  have nhb0 := hb0.trans (hn.mono hb0.size)
  clear hn
  have k1 : Blk V3 U2.heap.size #[.int .i64 1, .int .i64 0] 24 := by rw [hV3]; exact (Blk.new _ _ _)
  clear hb0
  clear hV3
  have hb0 := nhb0
  clear nhb0
  refine (crAt_is (-5) 0 (-5) 0 1 HP8.out HP9.out HP10.out (by unfold In64; omega) (by unfold In64; omega)  _).mono ?_
  rintro e U4 ⟨rfl, hn⟩
  replace k1 := k1.of hn
  replace hb0 := hb0.trans (hn.mono hb0.size)
  clear hn
  go_wp2_with fail
  refine (pxOf_is (-5) 0 1 10 0 0 0 HP11.out HP12.out HP13.out (by unfold InI b255; omega) (by unfold InI b255; omega) (by unfold InI b255; omega) (by unfold In64; omega)  _).mono ?_
  rintro e U5 ⟨rfl, hn⟩
  replace k1 := k1.of hn
  replace hb0 := hb0.trans (hn.mono hb0.size)
  clear hn
  go_wp2_with fail
  first | refine calls_w ?_ | refine name_world ?_ | refine list_world ?_ | refine post_world ?_
  intro V6 hV6
  have D2 := Lib.hid k1.lt
  have D3 := Lib.hid hb0.size
  have hn : Below U5.heap.size U5 V6 := by rw [hV6]; exact below_a1 _ _
  have nk1 := k1.of hn
  have nhb0 := hb0.trans (hn.mono hb0.size)
  clear hn
  have k2 : Blk V6 U5.heap.size #[.int .i64 0, .int .i64 0] 24 := by rw [hV6]; exact (Blk.new _ _ _)
  clear k1
  clear hb0
  clear hV6
  have k1 := nk1
  clear nk1
  have hb0 := nhb0
  clear nhb0
  refine (args_eq (a' := #[.agg #[.int .u64 0, .int .u64 0, .int .u64 0, .int .u64 0, .int .u64 0, .int .u64 0, .int .u64 0, .int .u64 0, .int .u64 0, .int .u64 0, .int .u64 0, .int .u64 0], .int .i64 10]) (pxOf_is 0 0 0 10 0 0 11 HP14.out HP15.out HP16.out (by unfold InI b255; omega) (by unfold InI b255; omega) (by unfold InI b255; omega) (by unfold In64; omega)  _) (by kernel_rfl)).mono ?_
  rintro e U7 ⟨rfl, hn⟩
  replace k1 := k1.of hn
  replace k2 := k2.of hn
  replace hb0 := hb0.trans (hn.mono hb0.size)
  clear hn
  have c1_0 : U7.cell? ⟨U2.heap.size, 0, none⟩ = some (.int .i64 1) := k1.cell 0
  have c1_1 : U7.cell? ⟨U2.heap.size, 1, none⟩ = some (.int .i64 0) := k1.cell 1
  have l1 := k1.lt
  have c2_0 : U7.cell? ⟨U5.heap.size, 0, none⟩ = some (.int .i64 0) := k2.cell 0
  have c2_1 : U7.cell? ⟨U5.heap.size, 1, none⟩ = some (.int .i64 0) := k2.cell 1
  have l2 := k2.lt
  go_wp2_with fail
  clear c1_0 c1_1 l1 c2_0 c2_1 l2
  first | refine calls_w ?_ | refine name_world ?_ | refine list_world ?_ | refine post_world ?_
  intro V8 hV8
  clear k1 k2
  have D4 := Lib.hid hb0.size
  have hn : Below U7.heap.size U7 V8 := by rw [hV8]; exact below_a2 _ _ _
  have nhb0 := hb0.trans (hn.mono hb0.size)
  clear hn
  have k3 : Blk V8 U7.heap.size #[.int .i64 0, .int .i64 0] 24 := by rw [hV8]; exact ((Blk.new _ _ _).alloc _)
  have k4 : Blk V8 (U7.heap.size + 1) #[.int .i64 ((-20)), .int .i64 0, .int .i64 20, .int .i64 0] 50 := by rw [hV8]; exact (Blk.new1 _ _ _ _)
  clear hb0
  clear hV8
  have hb0 := nhb0
  clear nhb0
  refine (pxMt_is (-20) 0 20 0 0 0 10 true HP0.out (by unfold In64; omega) (by unfold In64; omega) (by unfold In64; omega) (by unfold In64; omega) (by unfold In64; omega) (by unfold In64; omega) (by unfold In64; omega)  _).mono ?_
  rintro e U9 ⟨rfl, hn⟩
  clear k3
  replace k4 := k4.of hn
  replace hb0 := hb0.trans (hn.mono hb0.size)
  clear hn
  have c4_0 : U9.cell? ⟨(U7.heap.size + 1), 0, none⟩ = some (.int .i64 ((-20))) := k4.cell 0
  have c4_1 : U9.cell? ⟨(U7.heap.size + 1), 1, none⟩ = some (.int .i64 0) := k4.cell 1
  have c4_2 : U9.cell? ⟨(U7.heap.size + 1), 2, none⟩ = some (.int .i64 20) := k4.cell 2
  have c4_3 : U9.cell? ⟨(U7.heap.size + 1), 3, none⟩ = some (.int .i64 0) := k4.cell 3
  have l4 := k4.lt
  go_wp2_with fail
  clear c4_0 c4_1 c4_2 c4_3 l4
  refine (pxMt_is (-20) 0 20 0 0 1 10 false HP1.out (by unfold In64; omega) (by unfold In64; omega) (by unfold In64; omega) (by unfold In64; omega) (by unfold In64; omega) (by unfold In64; omega) (by unfold In64; omega)  _).mono ?_
  rintro e U10 ⟨rfl, hn⟩
  clear k4
  replace hb0 := hb0.trans (hn.mono hb0.size)
  clear hn
  go_wp2
  first | go_ret | go_ret2
  exact ⟨by first | rfl | (simp; done) | (simp; assumption), hb0⟩
end Go.Proofs.Ytlcbomjdbdgbmaa

namespace Go.Proofs.Ytlcbomjdbdgbmaa
open Go.RowKit

set_option maxRecDepth 100000 in
theorem p15awake_any (w : World) : Calls Try.prog 34 #[] w fun e w' => e = .returned (.bool true) ∧ Below w.heap.size w w' :=
  p15awake_is (by kernel_rfl) (by kernel_rfl) (by kernel_rfl) (by kernel_rfl) (by kernel_rfl) (by kernel_rfl) (by kernel_rfl) (by kernel_rfl) (by kernel_rfl) (by kernel_rfl) (by kernel_rfl) (by kernel_rfl) (by kernel_rfl) (by kernel_rfl) (by kernel_rfl) (by kernel_rfl) (by kernel_rfl) w
end Go.Proofs.Ytlcbomjdbdgbmaa

namespace Go.Proofs.Ytlcbomjdbdgbmaa
open Go.RowKit

theorem alPxD_0 : AllocRuns Try.prog 28 #[.bool false, .slice none 0 0] := fun w => by kernel_rfl

def rins (X : Int) (Y : Int) (k : Int) (n : Int) : Bool := (bif decide (0 ≤ (cmpI (X + X) (((((wrap64 (2 * k))) * n) * Y) - (n * Y)))) then decide ((cmpI (X + X) (((((wrap64 (2 * k))) * n) * Y) + (n * Y))) < 0) else false)

set_option maxRecDepth 100000 in
set_option maxHeartbeats 4000000 in

theorem rins_is (X : Int) (Y : Int) (k : Int) (n : Int)  (R0 : Bool) (hR0 : rins X Y k n = R0) (_ik : In64 k) (_in : In64 n) (nX : Bool) (aX : Option Addr) (lX cX : Nat) (nY : Bool) (aY : Option Addr) (lY cY : Nat) (w : World) (hX : Big w (.agg #[.bool nX, .slice aX lX cX]) X 18) (hY : Big w (.agg #[.bool nY, .slice aY lY cY]) Y 18) :
    Calls Try.prog 99 #[.agg #[.bool nX, .slice aX lX cX], .agg #[.bool nY, .slice aY lY cY], .int .i64 k, .int .i64 n] w fun e w' => e = .returned (.bool R0) ∧ Below w.heap.size w w' := by

  have HX := Lib.hid hX
  clear hX
  have HY := Lib.hid hY
  clear hY
  have HR0 := Lib.hid hR0
  clear hR0
  go_enter Try.func99, Try.ntmps99
  go_wp2_with fail
  first | refine calls_w ?_ | refine name_world ?_ | refine list_world ?_ | refine post_world ?_
  intro V1 hV1
  have hn : Below w.heap.size w V1 := by rw [hV1]; exact below_a2 _ _ _
  replace HX := Lib.hid (HX.out.of hn)
  replace HY := Lib.hid (HY.out.of hn)
  have nhb0 := hn
  have k1 : Blk V1 w.heap.size #[.bool nX, .slice aX lX cX] 28 := by rw [hV1]; exact ((Blk.new _ _ _).alloc _)
  have k2 : Blk V1 (w.heap.size + 1) #[.bool nY, .slice aY lY cY] 28 := by rw [hV1]; exact (Blk.new1 _ _ _ _)
  clear hV1
  have hb0 := nhb0
  clear nhb0
  obtain ⟨r1, hr1⟩ : ∃ o_o : Int, X + X = o_o := ⟨_, rfl⟩
  have Hr1 := Lib.hid hr1
  clear hr1
  refine (bigAdd_v (.agg #[.bool nX, .slice aX lX cX]) (.agg #[.bool nX, .slice aX lX cX]) X X r1 18 Hr1.out _ HX.out HX.out (by decide)).mono ?_
  rintro e U2 ⟨v_, rfl, hbm, hn⟩
  clear HX
  clear k1
  replace k2 := k2.of hn
  replace HY := Lib.hid (HY.out.of hn)
  replace hb0 := hb0.trans (hn.mono hb0.size)
  clear hn
  have HB1 := Lib.hid hbm
  have hvm := hbm.shape
  clear hbm
  obtain ⟨bn1, ba1, bl1, bc1, rfl⟩ := hvm
  go_wp2_with fail
  first | refine calls_w ?_ | refine name_world ?_ | refine list_world ?_ | refine post_world ?_
  intro V3 hV3
  have D1 := Lib.hid k2.lt
  have D2 := Lib.hid hb0.size
  have hn : Below U2.heap.size U2 V3 := by rw [hV3]; exact below_a1 _ _
  have nk2 := k2.of hn
  replace HY := Lib.hid (HY.out.of hn)
  replace HB1 := Lib.hid (HB1.out.of hn)
  have nhb0 := hb0.trans (hn.mono hb0.size)
  clear hn
  have k3 : Blk V3 U2.heap.size #[.bool bn1, .slice ba1 bl1 bc1] 28 := by rw [hV3]; exact (Blk.new _ _ _)
  clear k2
  clear hb0
  clear hV3
  have k2 := nk2
  clear nk2
  have hb0 := nhb0
  clear nhb0
  obtain ⟨r2, hr2⟩ : ∃ o_o : Int, (wrap64 (2 * k)) = o_o := ⟨_, rfl⟩
  have Hr2 := Lib.hid hr2
  clear hr2
  obtain ⟨r3, hr3⟩ : ∃ o_o : Int, r2 * n = o_o := ⟨_, rfl⟩
  have Hr3 := Lib.hid hr3
  clear hr3
  obtain ⟨r4, hr4⟩ : ∃ o_o : Int, r3 * Y = o_o := ⟨_, rfl⟩
  have Hr4 := Lib.hid hr4
  clear hr4
  have c2_0 : V3.cell? ⟨(w.heap.size + 1), 0, none⟩ = some (.bool nY) := k2.cell 0
  have c2_1 : V3.cell? ⟨(w.heap.size + 1), 1, none⟩ = some (.slice aY lY cY) := k2.cell 1
  have l2 := k2.lt
  have Kk2 := Lib.hid k2
  clear k2
  have Kk3 := Lib.hid k3
  clear k3
  refine wp_region_float1 9 8 [(true, 0), (true, 1), (true, 3), (true, 6), (false, 2), (false, 4), (false, 5), (false, 7)] (by kernel_rfl) (by kernel_rfl) (fun _ _ d _ _ => by cases d <;> exact Iff.rfl) rfl rfl rfl alPxD_0 ?_
  have hb : Below V3.heap.size V3 V3.drew := (Below.refl _ _).drew
  iterate 4
    refine wpF_take rfl rfl ?_
    go_big_quiet_step (rfl)
    refine wpQuiet_nil ?_
  refine wpF_do rfl ?_
  intro w1 hg K hK
  replace hb := hb.trans (hg.mono hb.size)
  try replace HB2 := Lib.hid (HB2.out.of hg); try replace HB3 := Lib.hid (HB3.out.of hg); try replace HB4 := Lib.hid (HB4.out.of hg); try replace HB5 := Lib.hid (HB5.out.of hg)
  clear hg
  go_wp2_with ((first | (go_at_call 66; (with_reducible refine (bigOf_v (wrap64 (2 * k)) r2 Hr2.out (wrap64_in _) _).mono ?_); rintro e w2 ⟨v_, rfl, hbm, hn⟩; have HB2 := Lib.hid hbm; have hvm := hbm.shape; clear hbm; obtain ⟨bn2, ba2, bl2, bc2, rfl⟩ := hvm) | (go_at_call 66; (with_reducible refine (bigOf_v n n rfl _in _).mono ?_); rintro e w2 ⟨v_, rfl, hbm, hn⟩; replace HB2 := Lib.hid (HB2.out.of hn); have HB3 := Lib.hid hbm; have hvm := hbm.shape; clear hbm; obtain ⟨bn3, ba3, bl3, bc3, rfl⟩ := hvm)))
  refine hK.out _ _ hn ?_
  replace hb := hb.trans (hn.mono hb.size)
  clear hK K
  clear hn
  refine wpF_do rfl ?_
  intro w1 hg K hK
  replace hb := hb.trans (hg.mono hb.size)
  try replace HB2 := Lib.hid (HB2.out.of hg); try replace HB3 := Lib.hid (HB3.out.of hg); try replace HB4 := Lib.hid (HB4.out.of hg); try replace HB5 := Lib.hid (HB5.out.of hg)
  clear hg
  go_wp2_with ((first | (go_at_call 66; (with_reducible refine (bigOf_v (wrap64 (2 * k)) r2 Hr2.out (wrap64_in _) _).mono ?_); rintro e w2 ⟨v_, rfl, hbm, hn⟩; have HB2 := Lib.hid hbm; have hvm := hbm.shape; clear hbm; obtain ⟨bn2, ba2, bl2, bc2, rfl⟩ := hvm) | (go_at_call 66; (with_reducible refine (bigOf_v n n rfl _in _).mono ?_); rintro e w2 ⟨v_, rfl, hbm, hn⟩; replace HB2 := Lib.hid (HB2.out.of hn); have HB3 := Lib.hid hbm; have hvm := hbm.shape; clear hbm; obtain ⟨bn3, ba3, bl3, bc3, rfl⟩ := hvm)))
  refine hK.out _ _ hn ?_
  replace hb := hb.trans (hn.mono hb.size)
  clear hK K
  clear hn
  refine wpF_do rfl ?_
  intro w1 hg K hK
  replace hb := hb.trans (hg.mono hb.size)
  try replace HB2 := Lib.hid (HB2.out.of hg); try replace HB3 := Lib.hid (HB3.out.of hg); try replace HB4 := Lib.hid (HB4.out.of hg); try replace HB5 := Lib.hid (HB5.out.of hg)
  clear hg
  go_wp2_with ((first | (go_at_call 65; (with_reducible refine (bigMul_v (.agg #[.bool bn2, .slice ba2 bl2 bc2]) (.agg #[.bool bn3, .slice ba3 bl3 bc3]) r2 n r3 5 5 Hr3.out _ HB2.out HB3.out (by decide)).mono ?_); rintro e w2 ⟨v_, rfl, hbm, hn⟩; replace HB2 := Lib.hid (HB2.out.of hn); replace HB3 := Lib.hid (HB3.out.of hn); have HB4 := Lib.hid hbm; have hvm := hbm.shape; clear hbm; obtain ⟨bn4, ba4, bl4, bc4, rfl⟩ := hvm) | (go_at_call 65; (with_reducible refine (bigMul_v (.agg #[.bool bn4, .slice ba4 bl4 bc4]) (.agg #[.bool nY, .slice aY lY cY]) r3 Y r4 10 18 Hr4.out _ HB4.out (HY.out.of hb) (by decide)).mono ?_); rintro e w2 ⟨v_, rfl, hbm, hn⟩; replace HB2 := Lib.hid (HB2.out.of hn); replace HB3 := Lib.hid (HB3.out.of hn); replace HB4 := Lib.hid (HB4.out.of hn); have HB5 := Lib.hid hbm; have hvm := hbm.shape; clear hbm; obtain ⟨bn5, ba5, bl5, bc5, rfl⟩ := hvm)))
  refine hK.out _ _ hn ?_
  replace hb := hb.trans (hn.mono hb.size)
  clear hK K
  clear hn
  refine wpF_do rfl ?_
  intro w1 hg K hK
  replace hb := hb.trans (hg.mono hb.size)
  try replace HB2 := Lib.hid (HB2.out.of hg); try replace HB3 := Lib.hid (HB3.out.of hg); try replace HB4 := Lib.hid (HB4.out.of hg); try replace HB5 := Lib.hid (HB5.out.of hg)
  clear hg
  go_wp2_with ((first | (go_at_call 65; (with_reducible refine (bigMul_v (.agg #[.bool bn2, .slice ba2 bl2 bc2]) (.agg #[.bool bn3, .slice ba3 bl3 bc3]) r2 n r3 5 5 Hr3.out _ HB2.out HB3.out (by decide)).mono ?_); rintro e w2 ⟨v_, rfl, hbm, hn⟩; replace HB2 := Lib.hid (HB2.out.of hn); replace HB3 := Lib.hid (HB3.out.of hn); have HB4 := Lib.hid hbm; have hvm := hbm.shape; clear hbm; obtain ⟨bn4, ba4, bl4, bc4, rfl⟩ := hvm) | (go_at_call 65; (with_reducible refine (bigMul_v (.agg #[.bool bn4, .slice ba4 bl4 bc4]) (.agg #[.bool nY, .slice aY lY cY]) r3 Y r4 10 18 Hr4.out _ HB4.out (HY.out.of hb) (by decide)).mono ?_); rintro e w2 ⟨v_, rfl, hbm, hn⟩; replace HB2 := Lib.hid (HB2.out.of hn); replace HB3 := Lib.hid (HB3.out.of hn); replace HB4 := Lib.hid (HB4.out.of hn); have HB5 := Lib.hid hbm; have hvm := hbm.shape; clear hbm; obtain ⟨bn5, ba5, bl5, bc5, rfl⟩ := hvm)))
  refine hK.out _ _ hn ?_
  replace hb := hb.trans (hn.mono hb.size)
  clear hK K
  clear hn
  refine wpF_nil ?_
  clear hb
  intro w1 hg hb b1 lb1 nb1
  replace HB2 := Lib.hid (HB2.out.of hg)
  replace HB3 := Lib.hid (HB3.out.of hg)
  replace HB4 := Lib.hid (HB4.out.of hg)
  replace HB5 := Lib.hid (HB5.out.of hg)
  clear hg
  simp only [Act.put, ptrTo, List.setIfInBounds_toArray, List.set_cons_succ, List.set_cons_zero]
  simp only [List.drop_succ_cons, List.drop_zero]
  clear c2_0 c2_1 l2
  first | refine calls_w ?_ | refine name_world ?_ | refine list_world ?_ | refine post_world ?_
  intro U4 hU4
  subst hU4
  have D3 := Lib.hid Kk2.out.lt
  have D4 := Lib.hid Kk3.out.lt
  have D5 := Lib.hid hb0.size
  have k4 : Blk U4 b1 #[.bool false, .slice none 0 0] 28 := nb1
  have k2 := Kk2.out.of hb
  clear Kk2
  have k3 := Kk3.out.of hb
  clear Kk3
  have D6 := Lib.hid lb1
  clear nb1 lb1
  replace HY := Lib.hid (HY.out.of hb)
  replace HB1 := Lib.hid (HB1.out.of hb)
  replace hb0 := hb0.trans (hb.mono hb0.size)
  clear hb
  generalize b1 = q4 at *
  have c4_0 : U4.cell? ⟨q4, 0, none⟩ = some (.bool false) := k4.cell 0
  have c4_1 : U4.cell? ⟨q4, 1, none⟩ = some (.slice none 0 0) := k4.cell 1
  have f4_0 := k4.free 0
  have f4_1 := k4.free 1
  have l4 := k4.lt
  go_wp2_with fail
  clear c4_0 c4_1 f4_0 f4_1 l4
  first | refine calls_w ?_ | refine name_world ?_ | refine list_world ?_ | refine post_world ?_
  intro V5 hV5
  clear HB2 HB3 HB4
  have D7 := Lib.hid k2.lt
  have D8 := Lib.hid k3.lt
  have D9 := Lib.hid k4.lt
  have D10 := Lib.hid hb0.size
  have nk2 : Blk V5 (w.heap.size + 1) #[.bool nY, .slice aY lY cY] 28 := by rw [hV5]; exact (blk_setL k2 (by have := D3.out; have := D6.out; omega) 0 [.bool bn5, .slice ba5 bl5 bc5])
  have nk3 : Blk V5 U2.heap.size #[.bool bn1, .slice ba1 bl1 bc1] 28 := by rw [hV5]; exact (blk_setL k3 (by have := D4.out; have := D6.out; omega) 0 [.bool bn5, .slice ba5 bl5 bc5])
  have nk4 : Blk V5 q4 #[.bool bn5, .slice ba5 bl5 bc5] 28 := by rw [hV5]; exact (blk_full _ [.bool bn5, .slice ba5 bl5 bc5] k4 rfl)
  have nhb0 : Below w.heap.size w V5 := by rw [hV5]; exact (blw_setL hb0 (by have := D5.out; have := D6.out; omega) 0 [.bool bn5, .slice ba5 bl5 bc5])
  replace HY : Hid (Big V5 (.agg #[.bool nY, .slice aY lY cY]) Y 18) := Lib.hid (by rw [hV5]; exact (big_setL HY.out (Blk.cell k4 0) (fun _ h => by cases h) 0 [.bool bn5, .slice ba5 bl5 bc5]))
  replace HB1 : Hid (Big V5 (.agg #[.bool bn1, .slice ba1 bl1 bc1]) r1 19) := Lib.hid (by rw [hV5]; exact (big_setL HB1.out (Blk.cell k4 0) (fun _ h => by cases h) 0 [.bool bn5, .slice ba5 bl5 bc5]))
  replace HB5 : Hid (Big V5 (.agg #[.bool bn5, .slice ba5 bl5 bc5]) r4 28) := Lib.hid (by rw [hV5]; exact (big_setL HB5.out (Blk.cell k4 0) (fun _ h => by cases h) 0 [.bool bn5, .slice ba5 bl5 bc5]))
  clear k2 k3 k4
  clear hb0
  clear hV5
  have k2 := nk2
  clear nk2
  have k3 := nk3
  clear nk3
  have k4 := nk4
  clear nk4
  have hb0 := nhb0
  clear nhb0
  obtain ⟨r5, hr5⟩ : ∃ o_o : Int, n * Y = o_o := ⟨_, rfl⟩
  have Hr5 := Lib.hid hr5
  clear hr5
  have c2_0 : V5.cell? ⟨(w.heap.size + 1), 0, none⟩ = some (.bool nY) := k2.cell 0
  have c2_1 : V5.cell? ⟨(w.heap.size + 1), 1, none⟩ = some (.slice aY lY cY) := k2.cell 1
  have l2 := k2.lt
  have Kk2 := Lib.hid k2
  clear k2
  have Kk3 := Lib.hid k3
  clear k3
  have Kk4 := Lib.hid k4
  clear k4
  refine wp_region_float1 5 4 [(true, 0), (true, 2), (false, 1), (false, 3)] (by kernel_rfl) (by kernel_rfl) (fun _ _ d _ _ => by cases d <;> exact Iff.rfl) rfl rfl rfl alPxD_0 ?_
  have hb : Below V5.heap.size V5 V5.drew := (Below.refl _ _).drew
  iterate 2
    refine wpF_take rfl rfl ?_
    go_big_quiet_step (rfl)
    refine wpQuiet_nil ?_
  refine wpF_do rfl ?_
  intro w1 hg K hK
  replace hb := hb.trans (hg.mono hb.size)
  try replace HB6 := Lib.hid (HB6.out.of hg); try replace HB7 := Lib.hid (HB7.out.of hg)
  clear hg
  go_wp2_with ((go_at_call 66; (with_reducible refine (bigOf_v n n rfl _in _).mono ?_); rintro e w2 ⟨v_, rfl, hbm, hn⟩; have HB6 := Lib.hid hbm; have hvm := hbm.shape; clear hbm; obtain ⟨bn6, ba6, bl6, bc6, rfl⟩ := hvm))
  refine hK.out _ _ hn ?_
  replace hb := hb.trans (hn.mono hb.size)
  clear hK K
  clear hn
  refine wpF_do rfl ?_
  intro w1 hg K hK
  replace hb := hb.trans (hg.mono hb.size)
  try replace HB6 := Lib.hid (HB6.out.of hg); try replace HB7 := Lib.hid (HB7.out.of hg)
  clear hg
  go_wp2_with ((go_at_call 65; (with_reducible refine (bigMul_v (.agg #[.bool bn6, .slice ba6 bl6 bc6]) (.agg #[.bool nY, .slice aY lY cY]) n Y r5 5 18 Hr5.out _ HB6.out (HY.out.of hb) (by decide)).mono ?_); rintro e w2 ⟨v_, rfl, hbm, hn⟩; replace HB6 := Lib.hid (HB6.out.of hn); have HB7 := Lib.hid hbm; have hvm := hbm.shape; clear hbm; obtain ⟨bn7, ba7, bl7, bc7, rfl⟩ := hvm))
  refine hK.out _ _ hn ?_
  replace hb := hb.trans (hn.mono hb.size)
  clear hK K
  clear hn
  refine wpF_nil ?_
  clear hb
  intro w1 hg hb b1 lb1 nb1
  replace HB6 := Lib.hid (HB6.out.of hg)
  replace HB7 := Lib.hid (HB7.out.of hg)
  clear hg
  simp only [Act.put, ptrTo, List.setIfInBounds_toArray, List.set_cons_succ, List.set_cons_zero]
  simp only [List.drop_succ_cons, List.drop_zero]
  clear c2_0 c2_1 l2
  first | refine calls_w ?_ | refine name_world ?_ | refine list_world ?_ | refine post_world ?_
  intro U6 hU6
  subst hU6
  have D11 := Lib.hid Kk2.out.lt
  have D12 := Lib.hid Kk3.out.lt
  have D13 := Lib.hid Kk4.out.lt
  have D14 := Lib.hid hb0.size
  have k5 : Blk U6 b1 #[.bool false, .slice none 0 0] 28 := nb1
  have k2 := Kk2.out.of hb
  clear Kk2
  have k3 := Kk3.out.of hb
  clear Kk3
  have k4 := Kk4.out.of hb
  clear Kk4
  have D15 := Lib.hid lb1
  clear nb1 lb1
  replace HY := Lib.hid (HY.out.of hb)
  replace HB1 := Lib.hid (HB1.out.of hb)
  replace HB5 := Lib.hid (HB5.out.of hb)
  replace hb0 := hb0.trans (hb.mono hb0.size)
  clear hb
  generalize b1 = q5 at *
  have c5_0 : U6.cell? ⟨q5, 0, none⟩ = some (.bool false) := k5.cell 0
  have c5_1 : U6.cell? ⟨q5, 1, none⟩ = some (.slice none 0 0) := k5.cell 1
  have f5_0 := k5.free 0
  have f5_1 := k5.free 1
  have l5 := k5.lt
  go_wp2_with fail
  clear c5_0 c5_1 f5_0 f5_1 l5
  first | refine calls_w ?_ | refine name_world ?_ | refine list_world ?_ | refine post_world ?_
  intro V7 hV7
  clear HY HB6
  clear k2
  have D16 := Lib.hid k3.lt
  have D17 := Lib.hid k4.lt
  have D18 := Lib.hid k5.lt
  have D19 := Lib.hid hb0.size
  have nk3 : Blk V7 U2.heap.size #[.bool bn1, .slice ba1 bl1 bc1] 28 := by rw [hV7]; exact (blk_setL k3 (by have := D12.out; have := D15.out; omega) 0 [.bool bn7, .slice ba7 bl7 bc7])
  have nk4 : Blk V7 q4 #[.bool bn5, .slice ba5 bl5 bc5] 28 := by rw [hV7]; exact (blk_setL k4 (by have := D13.out; have := D15.out; omega) 0 [.bool bn7, .slice ba7 bl7 bc7])
  have nk5 : Blk V7 q5 #[.bool bn7, .slice ba7 bl7 bc7] 28 := by rw [hV7]; exact (blk_full _ [.bool bn7, .slice ba7 bl7 bc7] k5 rfl)
  have nhb0 : Below w.heap.size w V7 := by rw [hV7]; exact (blw_setL hb0 (by have := D14.out; have := D15.out; omega) 0 [.bool bn7, .slice ba7 bl7 bc7])
  replace HB1 : Hid (Big V7 (.agg #[.bool bn1, .slice ba1 bl1 bc1]) r1 19) := Lib.hid (by rw [hV7]; exact (big_setL HB1.out (Blk.cell k5 0) (fun _ h => by cases h) 0 [.bool bn7, .slice ba7 bl7 bc7]))
  replace HB5 : Hid (Big V7 (.agg #[.bool bn5, .slice ba5 bl5 bc5]) r4 28) := Lib.hid (by rw [hV7]; exact (big_setL HB5.out (Blk.cell k5 0) (fun _ h => by cases h) 0 [.bool bn7, .slice ba7 bl7 bc7]))
  replace HB7 : Hid (Big V7 (.agg #[.bool bn7, .slice ba7 bl7 bc7]) r5 23) := Lib.hid (by rw [hV7]; exact (big_setL HB7.out (Blk.cell k5 0) (fun _ h => by cases h) 0 [.bool bn7, .slice ba7 bl7 bc7]))
  clear k3 k4 k5
  clear hb0
  clear hV7
  have k3 := nk3
  clear nk3
  have k4 := nk4
  clear nk4
  have k5 := nk5
  clear nk5
  have hb0 := nhb0
  clear nhb0
  obtain ⟨r6, hr6⟩ : ∃ o_o : Int, r4 - r5 = o_o := ⟨_, rfl⟩
  have Hr6 := Lib.hid hr6
  clear hr6
  obtain ⟨r7, hr7⟩ : ∃ o_o : Int, cmpI r1 r6 = o_o := ⟨_, rfl⟩
  have Hr7 := Lib.hid hr7
  clear hr7
  obtain ⟨z8, hz8⟩ : ∃ o_o : Bool, decide (0 ≤ r7) = o_o := ⟨_, rfl⟩
  cases z8
  · have c3_0 : V7.cell? ⟨U2.heap.size, 0, none⟩ = some (.bool bn1) := k3.cell 0
    have c3_1 : V7.cell? ⟨U2.heap.size, 1, none⟩ = some (.slice ba1 bl1 bc1) := k3.cell 1
    have l3 := k3.lt
    have c4_0 : V7.cell? ⟨q4, 0, none⟩ = some (.bool bn5) := k4.cell 0
    have c4_1 : V7.cell? ⟨q4, 1, none⟩ = some (.slice ba5 bl5 bc5) := k4.cell 1
    have l4 := k4.lt
    have c5_0 : V7.cell? ⟨q5, 0, none⟩ = some (.bool bn7) := k5.cell 0
    have c5_1 : V7.cell? ⟨q5, 1, none⟩ = some (.slice ba7 bl7 bc7) := k5.cell 1
    have l5 := k5.lt
    have Kk3 := Lib.hid k3
    clear k3
    have Kk4 := Lib.hid k4
    clear k4
    have Kk5 := Lib.hid k5
    clear k5
    refine wp_region_up V7.heap.size 11 [(true, 0), (true, 1), (true, 2), (false, 3), (false, 4), (true, 5), (true, 6), (true, 7), (true, 8), (true, 9), (false, 10)] (by kernel_rfl) (by kernel_rfl) (fun _ _ d _ _ h => by cases d <;> exact h) ?_
    have hb : Below V7.heap.size V7 V7.drew := (Below.refl _ _).drew
    iterate 3
      refine wpS_takeL rfl rfl ?_
      go_big_quiet_step (rfl)
      refine wpQuiet_nil ?_
    refine wpS_doL rfl ?_
    intro K hK
    go_wp2_with ((go_at_call 68; (with_reducible refine (bigSub_v (.agg #[.bool bn5, .slice ba5 bl5 bc5]) (.agg #[.bool bn7, .slice ba7 bl7 bc7]) r4 r5 r6 28 Hr6.out _ (HB5.out.of hb) ((HB7.out.of hb).mono (by decide)) (by decide)).mono ?_); rintro e w2 ⟨v_, rfl, hbm, hn⟩; have HB9 := Lib.hid hbm; have hvm := hbm.shape; clear hbm; obtain ⟨bn9, ba9, bl9, bc9, rfl⟩ := hvm))
    replace hb := hb.trans (hn.mono hb.size)
    refine hK.out _ _ (up_iff.2 hb) ?_
    clear hK K
    clear hn
    refine wpS_doL rfl ?_
    intro K hK
    go_wp2_with ((go_at_call 23; (with_reducible refine (bigCmp_v (.agg #[.bool bn1, .slice ba1 bl1 bc1]) (.agg #[.bool bn9, .slice ba9 bl9 bc9]) r1 r6 19 29 r7 Hr7.out _ (HB1.out.of hb) HB9.out).mono ?_); rintro e w2 ⟨rfl, hn⟩; replace HB9 := Lib.hid (HB9.out.of hn)))
    replace hb := hb.trans (hn.mono hb.size)
    refine hK.out _ _ (up_iff.2 hb) ?_
    clear hK K
    clear hn
    iterate 5
      refine wpS_takeL rfl rfl ?_
      go_big_quiet_step (rfl)
      refine wpQuiet_nil ?_
    refine wpS_doL rfl ?_
    intro K hK
    go_wp2_with ((first | (go_at_call 68; (with_reducible refine (bigSub_v (.agg #[.bool bn5, .slice ba5 bl5 bc5]) (.agg #[.bool bn7, .slice ba7 bl7 bc7]) r4 r5 r6 28 Hr6.out _ (HB5.out.of hb) ((HB7.out.of hb).mono (by decide)) (by decide)).mono ?_); rintro e w2 ⟨v_, rfl, hbm, hn⟩; have HB9 := Lib.hid hbm; have hvm := hbm.shape; clear hbm; obtain ⟨bn9, ba9, bl9, bc9, rfl⟩ := hvm) | (go_at_call 23; (with_reducible refine (bigCmp_v (.agg #[.bool bn1, .slice ba1 bl1 bc1]) (.agg #[.bool bn9, .slice ba9 bl9 bc9]) r1 r6 19 29 r7 Hr7.out _ (HB1.out.of hb) HB9.out).mono ?_); rintro e w2 ⟨rfl, hn⟩; replace HB9 := Lib.hid (HB9.out.of hn))))
    try replace hb := hb.trans (hn.mono hb.size)
    refine hK.out _ _ (up_iff.2 hb) ?_
    clear hK K
    try clear hn
    refine wpS_nil ?_
    simp only [List.drop_succ_cons, List.drop_zero]
    first | refine calls_w ?_ | refine name_world ?_ | refine list_world ?_ | refine post_world ?_
    intro U8 hU8
    first | (subst hU8; have u_ := U8; clear u_) | (rw [← hU8] at hb; clear hU8)
    clear c3_0 c3_1 l3 c4_0 c4_1 l4 c5_0 c5_1 l5
    have k3 := Kk3.out.of hb
    clear Kk3
    have k4 := Kk4.out.of hb
    clear Kk4
    have k5 := Kk5.out.of hb
    clear Kk5
    replace HB1 := Lib.hid (HB1.out.of hb)
    replace HB5 := Lib.hid (HB5.out.of hb)
    replace HB7 := Lib.hid (HB7.out.of hb)
    replace hb0 := hb0.trans (hb.mono hb0.size)
    clear hb
    have e0 : false = R0 := by rw [← HR0.out]; unfold rins; (try rw [Hr1.out]); (try rw [Hr2.out]); (try rw [Hr3.out]); (try rw [Hr4.out]); (try rw [Hr5.out]); (try rw [Hr6.out]); (try rw [Hr7.out]); (try rw [hz8]); all_goals first | rfl | simp
    subst e0
    go_wp2
    first | go_ret | go_ret2
    exact ⟨by first | rfl | simp, hb0⟩
  · obtain ⟨r9, hr9⟩ : ∃ o_o : Int, r4 + r5 = o_o := ⟨_, rfl⟩
    have Hr9 := Lib.hid hr9
    clear hr9
    have c3_0 : V7.cell? ⟨U2.heap.size, 0, none⟩ = some (.bool bn1) := k3.cell 0
    have c3_1 : V7.cell? ⟨U2.heap.size, 1, none⟩ = some (.slice ba1 bl1 bc1) := k3.cell 1
    have l3 := k3.lt
    have c4_0 : V7.cell? ⟨q4, 0, none⟩ = some (.bool bn5) := k4.cell 0
    have c4_1 : V7.cell? ⟨q4, 1, none⟩ = some (.slice ba5 bl5 bc5) := k4.cell 1
    have l4 := k4.lt
    have c5_0 : V7.cell? ⟨q5, 0, none⟩ = some (.bool bn7) := k5.cell 0
    have c5_1 : V7.cell? ⟨q5, 1, none⟩ = some (.slice ba7 bl7 bc7) := k5.cell 1
    have l5 := k5.lt
    have Kk3 := Lib.hid k3
    clear k3
    have Kk4 := Lib.hid k4
    clear k4
    have Kk5 := Lib.hid k5
    clear k5
    refine wp_region_up V7.heap.size 11 [(true, 0), (true, 1), (true, 2), (false, 3), (false, 4), (true, 5), (true, 6), (true, 7), (true, 8), (true, 9), (false, 10)] (by kernel_rfl) (by kernel_rfl) (fun _ _ d _ _ h => by cases d <;> exact h) ?_
    have hb : Below V7.heap.size V7 V7.drew := (Below.refl _ _).drew
    iterate 3
      refine wpS_takeL rfl rfl ?_
      go_big_quiet_step (rfl)
      refine wpQuiet_nil ?_
    refine wpS_doL rfl ?_
    intro K hK
    go_wp2_with ((go_at_call 68; (with_reducible refine (bigSub_v (.agg #[.bool bn5, .slice ba5 bl5 bc5]) (.agg #[.bool bn7, .slice ba7 bl7 bc7]) r4 r5 r6 28 Hr6.out _ (HB5.out.of hb) ((HB7.out.of hb).mono (by decide)) (by decide)).mono ?_); rintro e w2 ⟨v_, rfl, hbm, hn⟩; have HB10 := Lib.hid hbm; have hvm := hbm.shape; clear hbm; obtain ⟨bn10, ba10, bl10, bc10, rfl⟩ := hvm))
    replace hb := hb.trans (hn.mono hb.size)
    refine hK.out _ _ (up_iff.2 hb) ?_
    clear hK K
    clear hn
    refine wpS_doL rfl ?_
    intro K hK
    go_wp2_with ((go_at_call 23; (with_reducible refine (bigCmp_v (.agg #[.bool bn1, .slice ba1 bl1 bc1]) (.agg #[.bool bn10, .slice ba10 bl10 bc10]) r1 r6 19 29 r7 Hr7.out _ (HB1.out.of hb) HB10.out).mono ?_); rintro e w2 ⟨rfl, hn⟩; replace HB10 := Lib.hid (HB10.out.of hn)))
    replace hb := hb.trans (hn.mono hb.size)
    refine hK.out _ _ (up_iff.2 hb) ?_
    clear hK K
    clear hn
    iterate 5
      refine wpS_takeL rfl rfl ?_
      go_big_quiet_step (rfl)
      refine wpQuiet_nil ?_
    refine wpS_doL rfl ?_
    intro K hK
    go_wp2_with ((go_at_call 18; (with_reducible refine (bigAdd_v (.agg #[.bool bn5, .slice ba5 bl5 bc5]) (.agg #[.bool bn7, .slice ba7 bl7 bc7]) r4 r5 r9 28 Hr9.out _ (HB5.out.of hb) ((HB7.out.of hb).mono (by decide)) (by decide)).mono ?_); rintro e w2 ⟨v_, rfl, hbm, hn⟩; replace HB10 := Lib.hid (HB10.out.of hn); have HB11 := Lib.hid hbm; have hvm := hbm.shape; clear hbm; obtain ⟨bn11, ba11, bl11, bc11, rfl⟩ := hvm))
    try replace hb := hb.trans (hn.mono hb.size)
    refine hK.out _ _ (up_iff.2 hb) ?_
    clear hK K
    try clear hn
    refine wpS_nil ?_
    simp only [List.drop_succ_cons, List.drop_zero]
    first | refine calls_w ?_ | refine name_world ?_ | refine list_world ?_ | refine post_world ?_
    intro U9 hU9
    first | (subst hU9; have u_ := U9; clear u_) | (rw [← hU9] at hb; clear hU9)
    clear c3_0 c3_1 l3 c4_0 c4_1 l4 c5_0 c5_1 l5
    have k3 := Kk3.out.of hb
    clear Kk3
    have k4 := Kk4.out.of hb
    clear Kk4
    have k5 := Kk5.out.of hb
    clear Kk5
    replace HB1 := Lib.hid (HB1.out.of hb)
    replace HB5 := Lib.hid (HB5.out.of hb)
    replace HB7 := Lib.hid (HB7.out.of hb)
    replace hb0 := hb0.trans (hb.mono hb0.size)
    clear hb
    go_wp2_with fail
    obtain ⟨r10, hr10⟩ : ∃ o_o : Int, cmpI r1 r9 = o_o := ⟨_, rfl⟩
    have Hr10 := Lib.hid hr10
    clear hr10
    refine (bigCmp_v (.agg #[.bool bn1, .slice ba1 bl1 bc1]) (.agg #[.bool bn11, .slice ba11 bl11 bc11]) r1 r9 19 29 r10 Hr10.out _ HB1.out HB11.out).mono ?_
    rintro e U10 ⟨rfl, hn⟩
    clear HB1 HB5 HB7 HB10 HB11
    clear k3 k4 k5
    replace hb0 := hb0.trans (hn.mono hb0.size)
    clear hn
    have e0 : decide (r10 < 0) = R0 := by rw [← HR0.out]; unfold rins; (try rw [Hr1.out]); (try rw [Hr2.out]); (try rw [Hr3.out]); (try rw [Hr4.out]); (try rw [Hr5.out]); (try rw [Hr6.out]); (try rw [Hr7.out]); (try rw [hz8]); (try rw [Hr9.out]); (try rw [Hr10.out]); all_goals first | rfl | simp
    subst e0
    go_wp2
    first | go_ret | go_ret2
    exact ⟨by first | rfl | simp, hb0⟩

def rin15 (X : Int) (Y : Int) (Z : Int) (cx : Int) (cy : Int) (n : Int) : Bool := (bif (rins X Z cx n) then (rins Y Z cy n) else false)

set_option maxRecDepth 100000 in
set_option maxHeartbeats 4000000 in

theorem rIn15_is (X : Int) (Y : Int) (Z : Int) (cx : Int) (cy : Int) (n : Int)  (R0 : Bool) (hR0 : rin15 X Y Z cx cy n = R0) (_icx : In64 cx) (_icy : In64 cy) (_in : In64 n) (nX : Bool) (aX : Option Addr) (lX cX : Nat) (nY : Bool) (aY : Option Addr) (lY cY : Nat) (nZ : Bool) (aZ : Option Addr) (lZ cZ : Nat) (w : World) (hX : Big w (.agg #[.bool nX, .slice aX lX cX]) X 18) (hY : Big w (.agg #[.bool nY, .slice aY lY cY]) Y 18) (hZ : Big w (.agg #[.bool nZ, .slice aZ lZ cZ]) Z 18) :
    Calls Try.prog 44 #[.agg #[.bool nX, .slice aX lX cX, .bool nY, .slice aY lY cY, .bool nZ, .slice aZ lZ cZ], .agg #[.int .i64 cx, .int .i64 cy], .int .i64 n] w fun e w' => e = .returned (.bool R0) ∧ Below w.heap.size w w' := by

  have HX := Lib.hid hX
  clear hX
  have HY := Lib.hid hY
  clear hY
  have HZ := Lib.hid hZ
  clear hZ
  have HR0 := Lib.hid hR0
  clear hR0
  go_enter Try.func44, Try.ntmps44
  go_wp2_with fail
  first | refine calls_w ?_ | refine name_world ?_ | refine list_world ?_ | refine post_world ?_
  intro V1 hV1
  have hn : Below w.heap.size w V1 := by rw [hV1]; exact below_a2 _ _ _
  replace HX := Lib.hid (HX.out.of hn)
  replace HY := Lib.hid (HY.out.of hn)
  replace HZ := Lib.hid (HZ.out.of hn)
  have nhb0 := hn
  have k1 : Blk V1 w.heap.size #[.bool nX, .slice aX lX cX, .bool nY, .slice aY lY cY, .bool nZ, .slice aZ lZ cZ] 72 := by rw [hV1]; exact ((Blk.new _ _ _).alloc _)
  have k2 : Blk V1 (w.heap.size + 1) #[.int .i64 cx, .int .i64 cy] 31 := by rw [hV1]; exact (Blk.new1 _ _ _ _)
  clear hV1
  have hb0 := nhb0
  clear nhb0
  obtain ⟨z1, hz1⟩ : ∃ o_o : Bool, rins X Z cx n = o_o := ⟨_, rfl⟩
  have Hz1 := Lib.hid hz1
  clear hz1
  refine (rins_is X Z cx n z1 Hz1.out _icx _in nX aX lX cX nZ aZ lZ cZ _ HX.out HZ.out).mono ?_
  rintro e U2 ⟨rfl, hn⟩
  replace k1 := k1.of hn
  replace k2 := k2.of hn
  replace HX := Lib.hid (HX.out.of hn)
  replace HY := Lib.hid (HY.out.of hn)
  replace HZ := Lib.hid (HZ.out.of hn)
  replace hb0 := hb0.trans (hn.mono hb0.size)
  clear hn
  cases z1
  · have e0 : false = R0 := by rw [← HR0.out]; unfold rin15; (try rw [Hz1.out]); all_goals first | rfl | simp
    subst e0
    go_wp2
    first | go_ret | go_ret2
    exact ⟨by first | rfl | simp, hb0⟩
  · have c1_2 : U2.cell? ⟨w.heap.size, 2, none⟩ = some (.bool nY) := k1.cell 2
    have c1_3 : U2.cell? ⟨w.heap.size, 3, none⟩ = some (.slice aY lY cY) := k1.cell 3
    have c1_4 : U2.cell? ⟨w.heap.size, 4, none⟩ = some (.bool nZ) := k1.cell 4
    have c1_5 : U2.cell? ⟨w.heap.size, 5, none⟩ = some (.slice aZ lZ cZ) := k1.cell 5
    have l1 := k1.lt
    have c2_1 : U2.cell? ⟨(w.heap.size + 1), 1, none⟩ = some (.int .i64 cy) := k2.cell 1
    have l2 := k2.lt
    go_wp2_with fail
    clear c1_2 c1_3 c1_4 c1_5 l1 c2_1 l2
    obtain ⟨z2, hz2⟩ : ∃ o_o : Bool, rins Y Z cy n = o_o := ⟨_, rfl⟩
    have Hz2 := Lib.hid hz2
    clear hz2
    refine (rins_is Y Z cy n z2 Hz2.out _icy _in nY aY lY cY nZ aZ lZ cZ _ HY.out HZ.out).mono ?_
    rintro e U3 ⟨rfl, hn⟩
    clear HX HY HZ
    clear k1 k2
    replace hb0 := hb0.trans (hn.mono hb0.size)
    clear hn
    have e0 : z2 = R0 := by rw [← HR0.out]; unfold rin15; (try rw [Hz1.out]); (try rw [Hz2.out]); all_goals first | rfl | simp
    subst e0
    go_wp2
    first | go_ret | go_ret2
    exact ⟨by first | rfl | simp, hb0⟩
end Go.Proofs.Ytlcbomjdbdgbmaa

namespace Go.Proofs.Ytlcbomjdbdgbmaa
open Go.RowKit

/-- within a fraction two numbers are held against one another one step deeper -/
@[go_sem] theorem run_eqI9 (a0 a1 a2 a3 b0 b1 b2 b3 : Int) (w : World) :
    (Op.equalIn 9999 35 (.agg #[.int .u64 a0, .int .u64 a1, .int .u64 a2, .int .u64 a3]) (.agg #[.int .u64 b0, .int .u64 b1, .int .u64 b2, .int .u64 b3])).run Try.prog w = .ok (eq4 a0 a1 a2 a3 b0 b1 b2 b3) w := by
  have hu : Try.prog.underlying 35 = some (.array 4 33) := by kernel_rfl
  have hs : ∀ w, (sizeOf 33).run Try.prog w = .ok 1 w := fun w => by kernel_rfl
  have he : ∀ (a b : Int) w, (Op.equalIn 9998 33 (.int .u64 a) (.int .u64 b)).run Try.prog w = .ok (a == b) w := fun a b w => run_equalIn_int w 9997 _ .u64 .u64 a b (by kernel_rfl)
  have hp : ∀ (c : Array Value) (i : Nat) (v : Value) w, c[i]? = some v → (part 33 c i).run Try.prog w = .ok v w := by
    intro c i v w h
    have ha : (isAgg 33).run Try.prog w = .ok false w := by kernel_rfl
    unfold part
    simp [Sem.run_bind, ha, h]
  show (Op.equalIn (9998 + 1) _ _ _).run _ _ = _
  unfold Op.equalIn
  simp only [Sem.run_bind, run_underlying hu, Result.andThen_ok, hs]
  simp [List.range', he, hp, Sem.run_bind]
  unfold eq4
  by_cases h0 : a0 = b0 <;> by_cases h1 : a1 = b1 <;> by_cases h2 : a2 = b2 <;> by_cases h3 : a3 = b3 <;> simp [h0, h1, h2, h3]

@[go_sem] theorem eqP_self (a b : Int) : eqP a b a b = true := by unfold eqP; simp
@[go_sem] theorem eqP_ne {a b c d : Int} (h : ¬ a = c) : eqP a b c d = false := by unfold eqP; simp [h]
@[go_sem] theorem eqP_ne' {a b c d : Int} (h : ¬ c = a) : eqP a b c d = false := eqP_ne fun e => h e.symm
@[go_sem] theorem eqP_me {a b c d : Int} (h : ¬ b = d) : eqP a b c d = false := by unfold eqP; simp [h]
@[go_sem] theorem eqP_me' {a b c d : Int} (h : ¬ d = b) : eqP a b c d = false := eqP_me fun e => h e.symm
end Go.Proofs.Ytlcbomjdbdgbmaa

namespace Go.Proofs.Ytlcbomjdbdgbmaa
open Go.RowKit

set_option maxRecDepth 100000 in
set_option maxHeartbeats 4000000 in

theorem POf_1 (x : Int) (y : Int) (v : Int) (n : Int) (cx : Int) (cy : Int)    (hP0 : pspx x y v = x) (hP1 : pspy x y v = y) (hP2 : pspv x y v = v) (hP3 : pxOx x y v n = 0) (hP4 : pxOy x y v n = 0) (hP5 : pxOe x y v n = 11) (hP6 : pxI x y v cx cy n = false) (hP7 : psz n = false) (hP8 : pxS n = false) (_ix : InI x) (_iy : InI y) (_iv : InI v) (_in : In64 n) (_icx : In64 cx) (_icy : In64 cy)  (w : World)  :
    Calls Try.prog 6 #[.agg #[.int .u64 (wd0 x), .int .u64 (wd1 x), .int .u64 (wd2 x), .int .u64 (wd3 x), .int .u64 (wd0 y), .int .u64 (wd1 y), .int .u64 (wd2 y), .int .u64 (wd3 y), .int .u64 (wd0 v), .int .u64 (wd1 v), .int .u64 (wd2 v), .int .u64 (wd3 v)], .int .i64 n, .agg #[.int .i64 cx, .int .i64 cy]] w fun e w' => e = .returned (.bool true) ∧ Below w.heap.size w w' := by

  have HP0 := Lib.hid hP0
  clear hP0
  have HP1 := Lib.hid hP1
  clear hP1
  have HP2 := Lib.hid hP2
  clear hP2
  have HP3 := Lib.hid hP3
  clear hP3
  have HP4 := Lib.hid hP4
  clear hP4
  have HP5 := Lib.hid hP5
  clear hP5
  have HP6 := Lib.hid hP6
  clear hP6
  have HP7 := Lib.hid hP7
  clear hP7
  have HP8 := Lib.hid hP8
  clear hP8
  go_enter Try.func6, Try.ntmps6
  go_wp2_with fail
  first | refine calls_w ?_ | refine name_world ?_ | refine list_world ?_ | refine post_world ?_
  intro V1 hV1
  have hn : Below w.heap.size w V1 := by rw [hV1]; exact below_a2 _ _ _
  have nhb0 := hn
  have k1 : Blk V1 w.heap.size #[.int .u64 (wd0 x), .int .u64 (wd1 x), .int .u64 (wd2 x), .int .u64 (wd3 x), .int .u64 (wd0 y), .int .u64 (wd1 y), .int .u64 (wd2 y), .int .u64 (wd3 y), .int .u64 (wd0 v), .int .u64 (wd1 v), .int .u64 (wd2 v), .int .u64 (wd3 v)] 67 := by rw [hV1]; exact ((Blk.new _ _ _).alloc _)
  have k2 : Blk V1 (w.heap.size + 1) #[.int .i64 cx, .int .i64 cy] 24 := by rw [hV1]; exact (Blk.new1 _ _ _ _)
  clear hV1
  have hb0 := nhb0
  clear nhb0
  refine (pxOf_is x y v n 0 0 11 HP3.out HP4.out HP5.out _ix _iy _iv _in  _).mono ?_
  rintro e U2 ⟨rfl, hn⟩
  replace k1 := k1.of hn
  replace k2 := k2.of hn
  replace hb0 := hb0.trans (hn.mono hb0.size)
  clear hn
  have c1_0 : U2.cell? ⟨w.heap.size, 0, none⟩ = some (.int .u64 (wd0 x)) := k1.cell 0
  have c1_1 : U2.cell? ⟨w.heap.size, 1, none⟩ = some (.int .u64 (wd1 x)) := k1.cell 1
  have c1_2 : U2.cell? ⟨w.heap.size, 2, none⟩ = some (.int .u64 (wd2 x)) := k1.cell 2
  have c1_3 : U2.cell? ⟨w.heap.size, 3, none⟩ = some (.int .u64 (wd3 x)) := k1.cell 3
  have c1_4 : U2.cell? ⟨w.heap.size, 4, none⟩ = some (.int .u64 (wd0 y)) := k1.cell 4
  have c1_5 : U2.cell? ⟨w.heap.size, 5, none⟩ = some (.int .u64 (wd1 y)) := k1.cell 5
  have c1_6 : U2.cell? ⟨w.heap.size, 6, none⟩ = some (.int .u64 (wd2 y)) := k1.cell 6
  have c1_7 : U2.cell? ⟨w.heap.size, 7, none⟩ = some (.int .u64 (wd3 y)) := k1.cell 7
  have c1_8 : U2.cell? ⟨w.heap.size, 8, none⟩ = some (.int .u64 (wd0 v)) := k1.cell 8
  have c1_9 : U2.cell? ⟨w.heap.size, 9, none⟩ = some (.int .u64 (wd1 v)) := k1.cell 9
  have c1_10 : U2.cell? ⟨w.heap.size, 10, none⟩ = some (.int .u64 (wd2 v)) := k1.cell 10
  have c1_11 : U2.cell? ⟨w.heap.size, 11, none⟩ = some (.int .u64 (wd3 v)) := k1.cell 11
  have l1 := k1.lt
  go_wp2_with fail
  clear c1_0 c1_1 c1_2 c1_3 c1_4 c1_5 c1_6 c1_7 c1_8 c1_9 c1_10 c1_11 l1
  first | refine calls_w ?_ | refine name_world ?_ | refine list_world ?_ | refine post_world ?_
  intro V3 hV3
  have D1 := Lib.hid k1.lt
  have D2 := Lib.hid k2.lt
  have D3 := Lib.hid hb0.size
  have hn : Below U2.heap.size U2 V3 := by rw [hV3]; exact below_a1 _ _
  have nk1 := k1.of hn
  have nk2 := k2.of hn
  have nhb0 := hb0.trans (hn.mono hb0.size)
  clear hn
  have k3 : Blk V3 U2.heap.size #[.int .i64 0, .int .i64 0] 24 := by rw [hV3]; exact (Blk.new _ _ _)
  clear k1 k2
  clear hb0
  clear hV3
  have k1 := nk1
  clear nk1
  have k2 := nk2
  clear nk2
  have hb0 := nhb0
  clear nhb0
  refine (p15spot_is x y v x y v HP0.out HP1.out HP2.out _ix _iy _iv  _).mono ?_
  rintro e U4 ⟨bn1, ba1, bl1, bc1, bn2, ba2, bl2, bc2, bn3, ba3, bl3, bc3, rfl, hbm1, hbm2, hbm3, hn⟩
  replace k1 := k1.of hn
  replace k2 := k2.of hn
  replace k3 := k3.of hn
  replace hb0 := hb0.trans (hn.mono hb0.size)
  clear hn
  have HB1 := Lib.hid hbm1
  have HB2 := Lib.hid hbm2
  have HB3 := Lib.hid hbm3
  clear hbm1 hbm2 hbm3
  go_wp2_with fail
  first | refine calls_w ?_ | refine name_world ?_ | refine list_world ?_ | refine post_world ?_
  intro V5 hV5
  have D4 := Lib.hid k1.lt
  have D5 := Lib.hid k2.lt
  have D6 := Lib.hid k3.lt
  have D7 := Lib.hid hb0.size
  have hn : Below U4.heap.size U4 V5 := by rw [hV5]; exact below_a1 _ _
  have nk1 := k1.of hn
  have nk2 := k2.of hn
  have nk3 := k3.of hn
  replace HB1 := Lib.hid (HB1.out.of hn)
  replace HB2 := Lib.hid (HB2.out.of hn)
  replace HB3 := Lib.hid (HB3.out.of hn)
  have nhb0 := hb0.trans (hn.mono hb0.size)
  clear hn
  have k4 : Blk V5 U4.heap.size #[.bool bn1, .slice ba1 bl1 bc1, .bool bn2, .slice ba2 bl2 bc2, .bool bn3, .slice ba3 bl3 bc3] 72 := by rw [hV5]; exact (Blk.new _ _ _)
  clear k1 k2 k3
  clear hb0
  clear hV5
  have k1 := nk1
  clear nk1
  have k2 := nk2
  clear nk2
  have k3 := nk3
  clear nk3
  have hb0 := nhb0
  clear nhb0
  refine (p15size_is n false HP7.out _in  _).mono ?_
  rintro e U6 ⟨rfl, hn⟩
  replace k1 := k1.of hn
  replace k2 := k2.of hn
  replace k3 := k3.of hn
  replace k4 := k4.of hn
  replace HB1 := Lib.hid (HB1.out.of hn)
  replace HB2 := Lib.hid (HB2.out.of hn)
  replace HB3 := Lib.hid (HB3.out.of hn)
  replace hb0 := hb0.trans (hn.mono hb0.size)
  clear hn
  have c1_0 : U6.cell? ⟨w.heap.size, 0, none⟩ = some (.int .u64 (wd0 x)) := k1.cell 0
  have c1_1 : U6.cell? ⟨w.heap.size, 1, none⟩ = some (.int .u64 (wd1 x)) := k1.cell 1
  have c1_2 : U6.cell? ⟨w.heap.size, 2, none⟩ = some (.int .u64 (wd2 x)) := k1.cell 2
  have c1_3 : U6.cell? ⟨w.heap.size, 3, none⟩ = some (.int .u64 (wd3 x)) := k1.cell 3
  have c1_4 : U6.cell? ⟨w.heap.size, 4, none⟩ = some (.int .u64 (wd0 y)) := k1.cell 4
  have c1_5 : U6.cell? ⟨w.heap.size, 5, none⟩ = some (.int .u64 (wd1 y)) := k1.cell 5
  have c1_6 : U6.cell? ⟨w.heap.size, 6, none⟩ = some (.int .u64 (wd2 y)) := k1.cell 6
  have c1_7 : U6.cell? ⟨w.heap.size, 7, none⟩ = some (.int .u64 (wd3 y)) := k1.cell 7
  have c1_8 : U6.cell? ⟨w.heap.size, 8, none⟩ = some (.int .u64 (wd0 v)) := k1.cell 8
  have c1_9 : U6.cell? ⟨w.heap.size, 9, none⟩ = some (.int .u64 (wd1 v)) := k1.cell 9
  have c1_10 : U6.cell? ⟨w.heap.size, 10, none⟩ = some (.int .u64 (wd2 v)) := k1.cell 10
  have c1_11 : U6.cell? ⟨w.heap.size, 11, none⟩ = some (.int .u64 (wd3 v)) := k1.cell 11
  have l1 := k1.lt
  have c2_0 : U6.cell? ⟨(w.heap.size + 1), 0, none⟩ = some (.int .i64 cx) := k2.cell 0
  have c2_1 : U6.cell? ⟨(w.heap.size + 1), 1, none⟩ = some (.int .i64 cy) := k2.cell 1
  have l2 := k2.lt
  have c3_0 : U6.cell? ⟨U2.heap.size, 0, none⟩ = some (.int .i64 0) := k3.cell 0
  have c3_1 : U6.cell? ⟨U2.heap.size, 1, none⟩ = some (.int .i64 0) := k3.cell 1
  have l3 := k3.lt
  go_wp2_with fail
  clear c1_0 c1_1 c1_2 c1_3 c1_4 c1_5 c1_6 c1_7 c1_8 c1_9 c1_10 c1_11 l1 c2_0 c2_1 l2 c3_0 c3_1 l3
  refine (pxIn_is x y v cx cy n false HP6.out _ix _iy _iv _icx _icy _in  _).mono ?_
  rintro e U7 ⟨rfl, hn⟩
  replace k1 := k1.of hn
  replace k2 := k2.of hn
  replace k3 := k3.of hn
  replace k4 := k4.of hn
  replace HB1 := Lib.hid (HB1.out.of hn)
  replace HB2 := Lib.hid (HB2.out.of hn)
  replace HB3 := Lib.hid (HB3.out.of hn)
  replace hb0 := hb0.trans (hn.mono hb0.size)
  clear hn
  go_wp2_with fail
  refine (pxSize_is n false HP8.out _in  _).mono ?_
  rintro e U8 ⟨rfl, hn⟩
  replace k1 := k1.of hn
  replace k2 := k2.of hn
  replace k3 := k3.of hn
  replace k4 := k4.of hn
  replace HB1 := Lib.hid (HB1.out.of hn)
  replace HB2 := Lib.hid (HB2.out.of hn)
  replace HB3 := Lib.hid (HB3.out.of hn)
  replace hb0 := hb0.trans (hn.mono hb0.size)
  clear hn
  go_wp2_with fail
  refine (p15size_is n false HP7.out _in  _).mono ?_
  rintro e U9 ⟨rfl, hn⟩
  replace k1 := k1.of hn
  replace k2 := k2.of hn
  replace k3 := k3.of hn
  replace k4 := k4.of hn
  replace HB1 := Lib.hid (HB1.out.of hn)
  replace HB2 := Lib.hid (HB2.out.of hn)
  replace HB3 := Lib.hid (HB3.out.of hn)
  replace hb0 := hb0.trans (hn.mono hb0.size)
  clear hn
  go_wp2_with fail
  refine (p15awake_any _).mono ?_
  rintro e U10 ⟨rfl, hn⟩
  replace k1 := k1.of hn
  replace k2 := k2.of hn
  replace k3 := k3.of hn
  replace k4 := k4.of hn
  replace HB1 := Lib.hid (HB1.out.of hn)
  replace HB2 := Lib.hid (HB2.out.of hn)
  replace HB3 := Lib.hid (HB3.out.of hn)
  replace hb0 := hb0.trans (hn.mono hb0.size)
  clear hn
  go_wp2
  first | go_ret | go_ret2
  exact ⟨by first | rfl | (simp; done) | (simp; assumption), hb0⟩

set_option maxRecDepth 100000 in
set_option maxHeartbeats 4000000 in

theorem POf_2 (x : Int) (y : Int) (v : Int) (n : Int) (cx : Int) (cy : Int)    (hP0 : pspx x y v = x) (hP1 : pspy x y v = y) (hP2 : pspv x y v = v) (hP3 : pxOx x y v n = 0) (hP4 : pxOy x y v n = 0) (hP5 : pxOe x y v n = 11) (hP6 : pxI x y v cx cy n = false) (hP7 : psz n = true) (hP8 : pxS n = true) (hP9 : rspR x y v = false) (_ix : InI x) (_iy : InI y) (_iv : InI v) (_in : In64 n) (_icx : In64 cx) (_icy : In64 cy)  (w : World)  :
    Calls Try.prog 6 #[.agg #[.int .u64 (wd0 x), .int .u64 (wd1 x), .int .u64 (wd2 x), .int .u64 (wd3 x), .int .u64 (wd0 y), .int .u64 (wd1 y), .int .u64 (wd2 y), .int .u64 (wd3 y), .int .u64 (wd0 v), .int .u64 (wd1 v), .int .u64 (wd2 v), .int .u64 (wd3 v)], .int .i64 n, .agg #[.int .i64 cx, .int .i64 cy]] w fun e w' => e = .returned (.bool true) ∧ Below w.heap.size w w' := by

  have HP0 := Lib.hid hP0
  clear hP0
  have HP1 := Lib.hid hP1
  clear hP1
  have HP2 := Lib.hid hP2
  clear hP2
  have HP3 := Lib.hid hP3
  clear hP3
  have HP4 := Lib.hid hP4
  clear hP4
  have HP5 := Lib.hid hP5
  clear hP5
  have HP6 := Lib.hid hP6
  clear hP6
  have HP7 := Lib.hid hP7
  clear hP7
  have HP8 := Lib.hid hP8
  clear hP8
  have HP9 := Lib.hid hP9
  clear hP9
  go_enter Try.func6, Try.ntmps6
  go_wp2_with fail
  first | refine calls_w ?_ | refine name_world ?_ | refine list_world ?_ | refine post_world ?_
  intro V1 hV1
  have hn : Below w.heap.size w V1 := by rw [hV1]; exact below_a2 _ _ _
  have nhb0 := hn
  have k1 : Blk V1 w.heap.size #[.int .u64 (wd0 x), .int .u64 (wd1 x), .int .u64 (wd2 x), .int .u64 (wd3 x), .int .u64 (wd0 y), .int .u64 (wd1 y), .int .u64 (wd2 y), .int .u64 (wd3 y), .int .u64 (wd0 v), .int .u64 (wd1 v), .int .u64 (wd2 v), .int .u64 (wd3 v)] 67 := by rw [hV1]; exact ((Blk.new _ _ _).alloc _)
  have k2 : Blk V1 (w.heap.size + 1) #[.int .i64 cx, .int .i64 cy] 24 := by rw [hV1]; exact (Blk.new1 _ _ _ _)
  clear hV1
  have hb0 := nhb0
  clear nhb0
  refine (pxOf_is x y v n 0 0 11 HP3.out HP4.out HP5.out _ix _iy _iv _in  _).mono ?_
  rintro e U2 ⟨rfl, hn⟩
  replace k1 := k1.of hn
  replace k2 := k2.of hn
  replace hb0 := hb0.trans (hn.mono hb0.size)
  clear hn
  have c1_0 : U2.cell? ⟨w.heap.size, 0, none⟩ = some (.int .u64 (wd0 x)) := k1.cell 0
  have c1_1 : U2.cell? ⟨w.heap.size, 1, none⟩ = some (.int .u64 (wd1 x)) := k1.cell 1
  have c1_2 : U2.cell? ⟨w.heap.size, 2, none⟩ = some (.int .u64 (wd2 x)) := k1.cell 2
  have c1_3 : U2.cell? ⟨w.heap.size, 3, none⟩ = some (.int .u64 (wd3 x)) := k1.cell 3
  have c1_4 : U2.cell? ⟨w.heap.size, 4, none⟩ = some (.int .u64 (wd0 y)) := k1.cell 4
  have c1_5 : U2.cell? ⟨w.heap.size, 5, none⟩ = some (.int .u64 (wd1 y)) := k1.cell 5
  have c1_6 : U2.cell? ⟨w.heap.size, 6, none⟩ = some (.int .u64 (wd2 y)) := k1.cell 6
  have c1_7 : U2.cell? ⟨w.heap.size, 7, none⟩ = some (.int .u64 (wd3 y)) := k1.cell 7
  have c1_8 : U2.cell? ⟨w.heap.size, 8, none⟩ = some (.int .u64 (wd0 v)) := k1.cell 8
  have c1_9 : U2.cell? ⟨w.heap.size, 9, none⟩ = some (.int .u64 (wd1 v)) := k1.cell 9
  have c1_10 : U2.cell? ⟨w.heap.size, 10, none⟩ = some (.int .u64 (wd2 v)) := k1.cell 10
  have c1_11 : U2.cell? ⟨w.heap.size, 11, none⟩ = some (.int .u64 (wd3 v)) := k1.cell 11
  have l1 := k1.lt
  go_wp2_with fail
  clear c1_0 c1_1 c1_2 c1_3 c1_4 c1_5 c1_6 c1_7 c1_8 c1_9 c1_10 c1_11 l1
  first | refine calls_w ?_ | refine name_world ?_ | refine list_world ?_ | refine post_world ?_
  intro V3 hV3
  have D1 := Lib.hid k1.lt
  have D2 := Lib.hid k2.lt
  have D3 := Lib.hid hb0.size
  have hn : Below U2.heap.size U2 V3 := by rw [hV3]; exact below_a1 _ _
  have nk1 := k1.of hn
  have nk2 := k2.of hn
  have nhb0 := hb0.trans (hn.mono hb0.size)
  clear hn
  have k3 : Blk V3 U2.heap.size #[.int .i64 0, .int .i64 0] 24 := by rw [hV3]; exact (Blk.new _ _ _)
  clear k1 k2
  clear hb0
  clear hV3
  have k1 := nk1
  clear nk1
  have k2 := nk2
  clear nk2
  have hb0 := nhb0
  clear nhb0
  refine (p15spot_is x y v x y v HP0.out HP1.out HP2.out _ix _iy _iv  _).mono ?_
  rintro e U4 ⟨bn1, ba1, bl1, bc1, bn2, ba2, bl2, bc2, bn3, ba3, bl3, bc3, rfl, hbm1, hbm2, hbm3, hn⟩
  replace k1 := k1.of hn
  replace k2 := k2.of hn
  replace k3 := k3.of hn
  replace hb0 := hb0.trans (hn.mono hb0.size)
  clear hn
  have HB1 := Lib.hid hbm1
  have HB2 := Lib.hid hbm2
  have HB3 := Lib.hid hbm3
  clear hbm1 hbm2 hbm3
  go_wp2_with fail
  first | refine calls_w ?_ | refine name_world ?_ | refine list_world ?_ | refine post_world ?_
  intro V5 hV5
  have D4 := Lib.hid k1.lt
  have D5 := Lib.hid k2.lt
  have D6 := Lib.hid k3.lt
  have D7 := Lib.hid hb0.size
  have hn : Below U4.heap.size U4 V5 := by rw [hV5]; exact below_a1 _ _
  have nk1 := k1.of hn
  have nk2 := k2.of hn
  have nk3 := k3.of hn
  replace HB1 := Lib.hid (HB1.out.of hn)
  replace HB2 := Lib.hid (HB2.out.of hn)
  replace HB3 := Lib.hid (HB3.out.of hn)
  have nhb0 := hb0.trans (hn.mono hb0.size)
  clear hn
  have k4 : Blk V5 U4.heap.size #[.bool bn1, .slice ba1 bl1 bc1, .bool bn2, .slice ba2 bl2 bc2, .bool bn3, .slice ba3 bl3 bc3] 72 := by rw [hV5]; exact (Blk.new _ _ _)
  clear k1 k2 k3
  clear hb0
  clear hV5
  have k1 := nk1
  clear nk1
  have k2 := nk2
  clear nk2
  have k3 := nk3
  clear nk3
  have hb0 := nhb0
  clear nhb0
  refine (p15size_is n true HP7.out _in  _).mono ?_
  rintro e U6 ⟨rfl, hn⟩
  replace k1 := k1.of hn
  replace k2 := k2.of hn
  replace k3 := k3.of hn
  replace k4 := k4.of hn
  replace HB1 := Lib.hid (HB1.out.of hn)
  replace HB2 := Lib.hid (HB2.out.of hn)
  replace HB3 := Lib.hid (HB3.out.of hn)
  replace hb0 := hb0.trans (hn.mono hb0.size)
  clear hn
  have c4_0 : U6.cell? ⟨U4.heap.size, 0, none⟩ = some (.bool bn1) := k4.cell 0
  have c4_1 : U6.cell? ⟨U4.heap.size, 1, none⟩ = some (.slice ba1 bl1 bc1) := k4.cell 1
  have c4_2 : U6.cell? ⟨U4.heap.size, 2, none⟩ = some (.bool bn2) := k4.cell 2
  have c4_3 : U6.cell? ⟨U4.heap.size, 3, none⟩ = some (.slice ba2 bl2 bc2) := k4.cell 3
  have c4_4 : U6.cell? ⟨U4.heap.size, 4, none⟩ = some (.bool bn3) := k4.cell 4
  have c4_5 : U6.cell? ⟨U4.heap.size, 5, none⟩ = some (.slice ba3 bl3 bc3) := k4.cell 5
  have l4 := k4.lt
  go_wp2_with fail
  clear c4_0 c4_1 c4_2 c4_3 c4_4 c4_5 l4
  refine (rSpR_is x y v false HP9.out  bn1 ba1 bl1 bc1 bn2 ba2 bl2 bc2 bn3 ba3 bl3 bc3 _ HB1.out HB2.out HB3.out).mono ?_
  rintro e U7 ⟨rfl, hn⟩
  replace k1 := k1.of hn
  replace k2 := k2.of hn
  replace k3 := k3.of hn
  replace k4 := k4.of hn
  replace HB1 := Lib.hid (HB1.out.of hn)
  replace HB2 := Lib.hid (HB2.out.of hn)
  replace HB3 := Lib.hid (HB3.out.of hn)
  replace hb0 := hb0.trans (hn.mono hb0.size)
  clear hn
  have c1_0 : U7.cell? ⟨w.heap.size, 0, none⟩ = some (.int .u64 (wd0 x)) := k1.cell 0
  have c1_1 : U7.cell? ⟨w.heap.size, 1, none⟩ = some (.int .u64 (wd1 x)) := k1.cell 1
  have c1_2 : U7.cell? ⟨w.heap.size, 2, none⟩ = some (.int .u64 (wd2 x)) := k1.cell 2
  have c1_3 : U7.cell? ⟨w.heap.size, 3, none⟩ = some (.int .u64 (wd3 x)) := k1.cell 3
  have c1_4 : U7.cell? ⟨w.heap.size, 4, none⟩ = some (.int .u64 (wd0 y)) := k1.cell 4
  have c1_5 : U7.cell? ⟨w.heap.size, 5, none⟩ = some (.int .u64 (wd1 y)) := k1.cell 5
  have c1_6 : U7.cell? ⟨w.heap.size, 6, none⟩ = some (.int .u64 (wd2 y)) := k1.cell 6
  have c1_7 : U7.cell? ⟨w.heap.size, 7, none⟩ = some (.int .u64 (wd3 y)) := k1.cell 7
  have c1_8 : U7.cell? ⟨w.heap.size, 8, none⟩ = some (.int .u64 (wd0 v)) := k1.cell 8
  have c1_9 : U7.cell? ⟨w.heap.size, 9, none⟩ = some (.int .u64 (wd1 v)) := k1.cell 9
  have c1_10 : U7.cell? ⟨w.heap.size, 10, none⟩ = some (.int .u64 (wd2 v)) := k1.cell 10
  have c1_11 : U7.cell? ⟨w.heap.size, 11, none⟩ = some (.int .u64 (wd3 v)) := k1.cell 11
  have l1 := k1.lt
  have c2_0 : U7.cell? ⟨(w.heap.size + 1), 0, none⟩ = some (.int .i64 cx) := k2.cell 0
  have c2_1 : U7.cell? ⟨(w.heap.size + 1), 1, none⟩ = some (.int .i64 cy) := k2.cell 1
  have l2 := k2.lt
  have c3_0 : U7.cell? ⟨U2.heap.size, 0, none⟩ = some (.int .i64 0) := k3.cell 0
  have c3_1 : U7.cell? ⟨U2.heap.size, 1, none⟩ = some (.int .i64 0) := k3.cell 1
  have l3 := k3.lt
  go_wp2_with fail
  clear c1_0 c1_1 c1_2 c1_3 c1_4 c1_5 c1_6 c1_7 c1_8 c1_9 c1_10 c1_11 l1 c2_0 c2_1 l2 c3_0 c3_1 l3
  refine (pxIn_is x y v cx cy n false HP6.out _ix _iy _iv _icx _icy _in  _).mono ?_
  rintro e U8 ⟨rfl, hn⟩
  replace k1 := k1.of hn
  replace k2 := k2.of hn
  replace k3 := k3.of hn
  replace k4 := k4.of hn
  replace HB1 := Lib.hid (HB1.out.of hn)
  replace HB2 := Lib.hid (HB2.out.of hn)
  replace HB3 := Lib.hid (HB3.out.of hn)
  replace hb0 := hb0.trans (hn.mono hb0.size)
  clear hn
  go_wp2_with fail
  refine (pxSize_is n true HP8.out _in  _).mono ?_
  rintro e U9 ⟨rfl, hn⟩
  replace k1 := k1.of hn
  replace k2 := k2.of hn
  replace k3 := k3.of hn
  replace k4 := k4.of hn
  replace HB1 := Lib.hid (HB1.out.of hn)
  replace HB2 := Lib.hid (HB2.out.of hn)
  replace HB3 := Lib.hid (HB3.out.of hn)
  replace hb0 := hb0.trans (hn.mono hb0.size)
  clear hn
  go_wp2_with fail
  refine (p15size_is n true HP7.out _in  _).mono ?_
  rintro e U10 ⟨rfl, hn⟩
  replace k1 := k1.of hn
  replace k2 := k2.of hn
  replace k3 := k3.of hn
  replace k4 := k4.of hn
  replace HB1 := Lib.hid (HB1.out.of hn)
  replace HB2 := Lib.hid (HB2.out.of hn)
  replace HB3 := Lib.hid (HB3.out.of hn)
  replace hb0 := hb0.trans (hn.mono hb0.size)
  clear hn
  go_wp2_with fail
  refine (p15awake_any _).mono ?_
  rintro e U11 ⟨rfl, hn⟩
  replace k1 := k1.of hn
  replace k2 := k2.of hn
  replace k3 := k3.of hn
  replace k4 := k4.of hn
  replace HB1 := Lib.hid (HB1.out.of hn)
  replace HB2 := Lib.hid (HB2.out.of hn)
  replace HB3 := Lib.hid (HB3.out.of hn)
  replace hb0 := hb0.trans (hn.mono hb0.size)
  clear hn
  go_wp2
  first | go_ret | go_ret2
  exact ⟨by first | rfl | (simp; done) | (simp; assumption), hb0⟩

set_option maxRecDepth 100000 in
set_option maxHeartbeats 4000000 in

theorem POf_3 (x : Int) (y : Int) (v : Int) (n : Int) (cx : Int) (cy : Int)    (hP0 : pspx x y v = x) (hP1 : pspy x y v = y) (hP2 : pspv x y v = v) (hP3 : psz n = true) (hP4 : rspR x y v = true) (hP5 : pxOx x y v n = cx) (hP6 : pxOy x y v n = cy) (hP7 : pxOe x y v n = 0) (hP8 : rp cx cy = true) (hP9 : prfx cx cy = cx) (hP10 : prfy cx cy = cy) (hP11 : rin15 x y v cx cy n = true) (hP12 : pxI x y v cx cy n = true) (_ix : InI x) (_iy : InI y) (_iv : InI v) (_in : In64 n) (_icx : In64 cx) (_icy : In64 cy)  (w : World)  :
    Calls Try.prog 6 #[.agg #[.int .u64 (wd0 x), .int .u64 (wd1 x), .int .u64 (wd2 x), .int .u64 (wd3 x), .int .u64 (wd0 y), .int .u64 (wd1 y), .int .u64 (wd2 y), .int .u64 (wd3 y), .int .u64 (wd0 v), .int .u64 (wd1 v), .int .u64 (wd2 v), .int .u64 (wd3 v)], .int .i64 n, .agg #[.int .i64 cx, .int .i64 cy]] w fun e w' => e = .returned (.bool true) ∧ Below w.heap.size w w' := by

  have HP0 := Lib.hid hP0
  clear hP0
  have HP1 := Lib.hid hP1
  clear hP1
  have HP2 := Lib.hid hP2
  clear hP2
  have HP3 := Lib.hid hP3
  clear hP3
  have HP4 := Lib.hid hP4
  clear hP4
  have HP5 := Lib.hid hP5
  clear hP5
  have HP6 := Lib.hid hP6
  clear hP6
  have HP7 := Lib.hid hP7
  clear hP7
  have HP8 := Lib.hid hP8
  clear hP8
  have HP9 := Lib.hid hP9
  clear hP9
  have HP10 := Lib.hid hP10
  clear hP10
  have HP11 := Lib.hid hP11
  clear hP11
  have HP12 := Lib.hid hP12
  clear hP12
  go_enter Try.func6, Try.ntmps6
  go_wp2_with fail
  first | refine calls_w ?_ | refine name_world ?_ | refine list_world ?_ | refine post_world ?_
  intro V1 hV1
  have hn : Below w.heap.size w V1 := by rw [hV1]; exact below_a2 _ _ _
  have nhb0 := hn
  have k1 : Blk V1 w.heap.size #[.int .u64 (wd0 x), .int .u64 (wd1 x), .int .u64 (wd2 x), .int .u64 (wd3 x), .int .u64 (wd0 y), .int .u64 (wd1 y), .int .u64 (wd2 y), .int .u64 (wd3 y), .int .u64 (wd0 v), .int .u64 (wd1 v), .int .u64 (wd2 v), .int .u64 (wd3 v)] 67 := by rw [hV1]; exact ((Blk.new _ _ _).alloc _)
  have k2 : Blk V1 (w.heap.size + 1) #[.int .i64 cx, .int .i64 cy] 24 := by rw [hV1]; exact (Blk.new1 _ _ _ _)
  clear hV1
  have hb0 := nhb0
  clear nhb0
  refine (pxOf_is x y v n cx cy 0 HP5.out HP6.out HP7.out _ix _iy _iv _in  _).mono ?_
  rintro e U2 ⟨rfl, hn⟩
  replace k1 := k1.of hn
  replace k2 := k2.of hn
  replace hb0 := hb0.trans (hn.mono hb0.size)
  clear hn
  have c1_0 : U2.cell? ⟨w.heap.size, 0, none⟩ = some (.int .u64 (wd0 x)) := k1.cell 0
  have c1_1 : U2.cell? ⟨w.heap.size, 1, none⟩ = some (.int .u64 (wd1 x)) := k1.cell 1
  have c1_2 : U2.cell? ⟨w.heap.size, 2, none⟩ = some (.int .u64 (wd2 x)) := k1.cell 2
  have c1_3 : U2.cell? ⟨w.heap.size, 3, none⟩ = some (.int .u64 (wd3 x)) := k1.cell 3
  have c1_4 : U2.cell? ⟨w.heap.size, 4, none⟩ = some (.int .u64 (wd0 y)) := k1.cell 4
  have c1_5 : U2.cell? ⟨w.heap.size, 5, none⟩ = some (.int .u64 (wd1 y)) := k1.cell 5
  have c1_6 : U2.cell? ⟨w.heap.size, 6, none⟩ = some (.int .u64 (wd2 y)) := k1.cell 6
  have c1_7 : U2.cell? ⟨w.heap.size, 7, none⟩ = some (.int .u64 (wd3 y)) := k1.cell 7
  have c1_8 : U2.cell? ⟨w.heap.size, 8, none⟩ = some (.int .u64 (wd0 v)) := k1.cell 8
  have c1_9 : U2.cell? ⟨w.heap.size, 9, none⟩ = some (.int .u64 (wd1 v)) := k1.cell 9
  have c1_10 : U2.cell? ⟨w.heap.size, 10, none⟩ = some (.int .u64 (wd2 v)) := k1.cell 10
  have c1_11 : U2.cell? ⟨w.heap.size, 11, none⟩ = some (.int .u64 (wd3 v)) := k1.cell 11
  have l1 := k1.lt
  go_wp2_with fail
  clear c1_0 c1_1 c1_2 c1_3 c1_4 c1_5 c1_6 c1_7 c1_8 c1_9 c1_10 c1_11 l1
  first | refine calls_w ?_ | refine name_world ?_ | refine list_world ?_ | refine post_world ?_
  intro V3 hV3
  have D1 := Lib.hid k1.lt
  have D2 := Lib.hid k2.lt
  have D3 := Lib.hid hb0.size
  have hn : Below U2.heap.size U2 V3 := by rw [hV3]; exact below_a1 _ _
  have nk1 := k1.of hn
  have nk2 := k2.of hn
  have nhb0 := hb0.trans (hn.mono hb0.size)
  clear hn
  have k3 : Blk V3 U2.heap.size #[.int .i64 cx, .int .i64 cy] 24 := by rw [hV3]; exact (Blk.new _ _ _)
  clear k1 k2
  clear hb0
  clear hV3
  have k1 := nk1
  clear nk1
  have k2 := nk2
  clear nk2
  have hb0 := nhb0
  clear nhb0
  refine (p15spot_is x y v x y v HP0.out HP1.out HP2.out _ix _iy _iv  _).mono ?_
  rintro e U4 ⟨bn1, ba1, bl1, bc1, bn2, ba2, bl2, bc2, bn3, ba3, bl3, bc3, rfl, hbm1, hbm2, hbm3, hn⟩
  replace k1 := k1.of hn
  replace k2 := k2.of hn
  replace k3 := k3.of hn
  replace hb0 := hb0.trans (hn.mono hb0.size)
  clear hn
  have HB1 := Lib.hid hbm1
  have HB2 := Lib.hid hbm2
  have HB3 := Lib.hid hbm3
  clear hbm1 hbm2 hbm3
  go_wp2_with fail
  first | refine calls_w ?_ | refine name_world ?_ | refine list_world ?_ | refine post_world ?_
  intro V5 hV5
  have D4 := Lib.hid k1.lt
  have D5 := Lib.hid k2.lt
  have D6 := Lib.hid k3.lt
  have D7 := Lib.hid hb0.size
  have hn : Below U4.heap.size U4 V5 := by rw [hV5]; exact below_a1 _ _
  have nk1 := k1.of hn
  have nk2 := k2.of hn
  have nk3 := k3.of hn
  replace HB1 := Lib.hid (HB1.out.of hn)
  replace HB2 := Lib.hid (HB2.out.of hn)
  replace HB3 := Lib.hid (HB3.out.of hn)
  have nhb0 := hb0.trans (hn.mono hb0.size)
  clear hn
  have k4 : Blk V5 U4.heap.size #[.bool bn1, .slice ba1 bl1 bc1, .bool bn2, .slice ba2 bl2 bc2, .bool bn3, .slice ba3 bl3 bc3] 72 := by rw [hV5]; exact (Blk.new _ _ _)
  clear k1 k2 k3
  clear hb0
  clear hV5
  have k1 := nk1
  clear nk1
  have k2 := nk2
  clear nk2
  have k3 := nk3
  clear nk3
  have hb0 := nhb0
  clear nhb0
  refine (p15size_is n true HP3.out _in  _).mono ?_
  rintro e U6 ⟨rfl, hn⟩
  replace k1 := k1.of hn
  replace k2 := k2.of hn
  replace k3 := k3.of hn
  replace k4 := k4.of hn
  replace HB1 := Lib.hid (HB1.out.of hn)
  replace HB2 := Lib.hid (HB2.out.of hn)
  replace HB3 := Lib.hid (HB3.out.of hn)
  replace hb0 := hb0.trans (hn.mono hb0.size)
  clear hn
  have c4_0 : U6.cell? ⟨U4.heap.size, 0, none⟩ = some (.bool bn1) := k4.cell 0
  have c4_1 : U6.cell? ⟨U4.heap.size, 1, none⟩ = some (.slice ba1 bl1 bc1) := k4.cell 1
  have c4_2 : U6.cell? ⟨U4.heap.size, 2, none⟩ = some (.bool bn2) := k4.cell 2
  have c4_3 : U6.cell? ⟨U4.heap.size, 3, none⟩ = some (.slice ba2 bl2 bc2) := k4.cell 3
  have c4_4 : U6.cell? ⟨U4.heap.size, 4, none⟩ = some (.bool bn3) := k4.cell 4
  have c4_5 : U6.cell? ⟨U4.heap.size, 5, none⟩ = some (.slice ba3 bl3 bc3) := k4.cell 5
  have l4 := k4.lt
  go_wp2_with fail
  clear c4_0 c4_1 c4_2 c4_3 c4_4 c4_5 l4
  refine (rSpR_is x y v true HP4.out  bn1 ba1 bl1 bc1 bn2 ba2 bl2 bc2 bn3 ba3 bl3 bc3 _ HB1.out HB2.out HB3.out).mono ?_
  rintro e U7 ⟨rfl, hn⟩
  replace k1 := k1.of hn
  replace k2 := k2.of hn
  replace k3 := k3.of hn
  replace k4 := k4.of hn
  replace HB1 := Lib.hid (HB1.out.of hn)
  replace HB2 := Lib.hid (HB2.out.of hn)
  replace HB3 := Lib.hid (HB3.out.of hn)
  replace hb0 := hb0.trans (hn.mono hb0.size)
  clear hn
  go_wp2_with fail
  have c1_0 : U7.cell? ⟨w.heap.size, 0, none⟩ = some (.int .u64 (wd0 x)) := k1.cell 0
  have c1_1 : U7.cell? ⟨w.heap.size, 1, none⟩ = some (.int .u64 (wd1 x)) := k1.cell 1
  have c1_2 : U7.cell? ⟨w.heap.size, 2, none⟩ = some (.int .u64 (wd2 x)) := k1.cell 2
  have c1_3 : U7.cell? ⟨w.heap.size, 3, none⟩ = some (.int .u64 (wd3 x)) := k1.cell 3
  have c1_4 : U7.cell? ⟨w.heap.size, 4, none⟩ = some (.int .u64 (wd0 y)) := k1.cell 4
  have c1_5 : U7.cell? ⟨w.heap.size, 5, none⟩ = some (.int .u64 (wd1 y)) := k1.cell 5
  have c1_6 : U7.cell? ⟨w.heap.size, 6, none⟩ = some (.int .u64 (wd2 y)) := k1.cell 6
  have c1_7 : U7.cell? ⟨w.heap.size, 7, none⟩ = some (.int .u64 (wd3 y)) := k1.cell 7
  have c1_8 : U7.cell? ⟨w.heap.size, 8, none⟩ = some (.int .u64 (wd0 v)) := k1.cell 8
  have c1_9 : U7.cell? ⟨w.heap.size, 9, none⟩ = some (.int .u64 (wd1 v)) := k1.cell 9
  have c1_10 : U7.cell? ⟨w.heap.size, 10, none⟩ = some (.int .u64 (wd2 v)) := k1.cell 10
  have c1_11 : U7.cell? ⟨w.heap.size, 11, none⟩ = some (.int .u64 (wd3 v)) := k1.cell 11
  have l1 := k1.lt
  have c3_0 : U7.cell? ⟨U2.heap.size, 0, none⟩ = some (.int .i64 cx) := k3.cell 0
  have c3_1 : U7.cell? ⟨U2.heap.size, 1, none⟩ = some (.int .i64 cy) := k3.cell 1
  have l3 := k3.lt
  have c4_0 : U7.cell? ⟨U4.heap.size, 0, none⟩ = some (.bool bn1) := k4.cell 0
  have c4_1 : U7.cell? ⟨U4.heap.size, 1, none⟩ = some (.slice ba1 bl1 bc1) := k4.cell 1
  have c4_2 : U7.cell? ⟨U4.heap.size, 2, none⟩ = some (.bool bn2) := k4.cell 2
  have c4_3 : U7.cell? ⟨U4.heap.size, 3, none⟩ = some (.slice ba2 bl2 bc2) := k4.cell 3
  have c4_4 : U7.cell? ⟨U4.heap.size, 4, none⟩ = some (.bool bn3) := k4.cell 4
  have c4_5 : U7.cell? ⟨U4.heap.size, 5, none⟩ = some (.slice ba3 bl3 bc3) := k4.cell 5
  have l4 := k4.lt
  have Kk1 := Lib.hid k1
  clear k1
  have Kk2 := Lib.hid k2
  clear k2
  have Kk3 := Lib.hid k3
  clear k3
  have Kk4 := Lib.hid k4
  clear k4
  refine wp_region_up U7.heap.size 19 [(true, 0), (true, 1), (true, 2), (true, 3), (false, 4), (true, 5), (true, 6), (true, 7), (true, 8), (true, 9), (true, 11), (false, 10), (false, 12), (true, 13), (true, 14), (true, 15), (true, 16), (true, 17), (true, 18)] (by kernel_rfl) (by kernel_rfl) (fun _ _ d _ _ h => by cases d <;> exact h) ?_
  have hb : Below U7.heap.size U7 U7.drew := (Below.refl _ _).drew
  iterate 4
    refine wpS_takeL rfl rfl ?_
    go_big_quiet_step (rfl)
    refine wpQuiet_nil ?_
  refine wpS_doL rfl ?_
  intro K hK
  go_wp2_with ((go_at_call 17; (with_reducible refine (PtRight_v cx cy true HP8.out _).mono ?_); rintro e w2 ⟨rfl, hn⟩))
  try replace hb := hb.trans (hn.mono hb.size)
  refine hK.out _ _ (up_iff.2 hb) ?_
  clear hK K
  try clear hn
  iterate 6
    refine wpS_takeL rfl rfl ?_
    go_big_quiet_step (rfl)
    refine wpQuiet_nil ?_
  refine wpS_doL rfl ?_
  intro K hK
  go_wp2_with ((go_at_call 32; (with_reducible refine (p15ref_is cx cy cx cy HP9.out HP10.out _icx _icy  _).mono ?_); rintro e w2 ⟨rfl, hn⟩))
  try replace hb := hb.trans (hn.mono hb.size)
  refine hK.out _ _ (up_iff.2 hb) ?_
  clear hK K
  try clear hn
  refine wpS_doL rfl ?_
  intro K hK
  go_wp2_with ((go_at_call 44; (with_reducible refine (rIn15_is x y v cx cy n true HP11.out _icx _icy _in bn1 ba1 bl1 bc1 bn2 ba2 bl2 bc2 bn3 ba3 bl3 bc3 _ (HB1.out.of hb) (HB2.out.of hb) (HB3.out.of hb)).mono ?_); rintro e w2 ⟨rfl, hn⟩))
  try replace hb := hb.trans (hn.mono hb.size)
  refine hK.out _ _ (up_iff.2 hb) ?_
  clear hK K
  try clear hn
  iterate 6
    refine wpS_takeL rfl rfl ?_
    go_big_quiet_step (rfl)
    refine wpQuiet_nil ?_
  refine wpS_nil ?_
  simp only [List.drop_succ_cons, List.drop_zero]
  first | refine calls_w ?_ | refine name_world ?_ | refine list_world ?_ | refine post_world ?_
  intro U8 hU8
  first | (subst hU8; have u_ := U8; clear u_) | (rw [← hU8] at hb; clear hU8)
  clear c1_0 c1_1 c1_2 c1_3 c1_4 c1_5 c1_6 c1_7 c1_8 c1_9 c1_10 c1_11 l1 c3_0 c3_1 l3 c4_0 c4_1 c4_2 c4_3 c4_4 c4_5 l4
  have k1 := Kk1.out.of hb
  clear Kk1
  have k2 := Kk2.out.of hb
  clear Kk2
  have k3 := Kk3.out.of hb
  clear Kk3
  have k4 := Kk4.out.of hb
  clear Kk4
  replace HB1 := Lib.hid (HB1.out.of hb)
  replace HB2 := Lib.hid (HB2.out.of hb)
  replace HB3 := Lib.hid (HB3.out.of hb)
  replace hb0 := hb0.trans (hb.mono hb0.size)
  clear hb
  go_wp2_with fail
  refine (pxIn_is x y v cx cy n true HP12.out _ix _iy _iv _icx _icy _in  _).mono ?_
  rintro e U9 ⟨rfl, hn⟩
  clear HB1 HB2 HB3
  clear k4
  replace k1 := k1.of hn
  replace k2 := k2.of hn
  replace k3 := k3.of hn
  replace hb0 := hb0.trans (hn.mono hb0.size)
  clear hn
  go_wp2_with fail
  have c1_0 : U9.cell? ⟨w.heap.size, 0, none⟩ = some (.int .u64 (wd0 x)) := k1.cell 0
  have c1_1 : U9.cell? ⟨w.heap.size, 1, none⟩ = some (.int .u64 (wd1 x)) := k1.cell 1
  have c1_2 : U9.cell? ⟨w.heap.size, 2, none⟩ = some (.int .u64 (wd2 x)) := k1.cell 2
  have c1_3 : U9.cell? ⟨w.heap.size, 3, none⟩ = some (.int .u64 (wd3 x)) := k1.cell 3
  have c1_4 : U9.cell? ⟨w.heap.size, 4, none⟩ = some (.int .u64 (wd0 y)) := k1.cell 4
  have c1_5 : U9.cell? ⟨w.heap.size, 5, none⟩ = some (.int .u64 (wd1 y)) := k1.cell 5
  have c1_6 : U9.cell? ⟨w.heap.size, 6, none⟩ = some (.int .u64 (wd2 y)) := k1.cell 6
  have c1_7 : U9.cell? ⟨w.heap.size, 7, none⟩ = some (.int .u64 (wd3 y)) := k1.cell 7
  have c1_8 : U9.cell? ⟨w.heap.size, 8, none⟩ = some (.int .u64 (wd0 v)) := k1.cell 8
  have c1_9 : U9.cell? ⟨w.heap.size, 9, none⟩ = some (.int .u64 (wd1 v)) := k1.cell 9
  have c1_10 : U9.cell? ⟨w.heap.size, 10, none⟩ = some (.int .u64 (wd2 v)) := k1.cell 10
  have c1_11 : U9.cell? ⟨w.heap.size, 11, none⟩ = some (.int .u64 (wd3 v)) := k1.cell 11
  have l1 := k1.lt
  have c2_0 : U9.cell? ⟨(w.heap.size + 1), 0, none⟩ = some (.int .i64 cx) := k2.cell 0
  have c2_1 : U9.cell? ⟨(w.heap.size + 1), 1, none⟩ = some (.int .i64 cy) := k2.cell 1
  have l2 := k2.lt
  have c3_0 : U9.cell? ⟨U2.heap.size, 0, none⟩ = some (.int .i64 cx) := k3.cell 0
  have c3_1 : U9.cell? ⟨U2.heap.size, 1, none⟩ = some (.int .i64 cy) := k3.cell 1
  have l3 := k3.lt
  have Kk1 := Lib.hid k1
  clear k1
  have Kk2 := Lib.hid k2
  clear k2
  have Kk3 := Lib.hid k3
  clear k3
  refine wp_region_up U9.heap.size 7 [(true, 0), (true, 1), (true, 2), (true, 4), (true, 5), (true, 6), (false, 3)] (by kernel_rfl) (by kernel_rfl) (fun _ _ d _ _ h => by cases d <;> exact h) ?_
  have hb : Below U9.heap.size U9 U9.drew := (Below.refl _ _).drew
  iterate 6
    refine wpS_takeL rfl rfl ?_
    go_big_quiet_step (rfl)
    refine wpQuiet_nil ?_
  refine wpS_doL rfl ?_
  intro K hK
  go_wp2_with ((go_at_call 42; (with_reducible refine (pxIn_is x y v cx cy n true HP12.out _ix _iy _iv _icx _icy _in  _).mono ?_); rintro e w2 ⟨rfl, hn⟩))
  replace hb := hb.trans (hn.mono hb.size)
  refine hK.out _ _ (up_iff.2 hb) ?_
  clear hK K
  clear hn
  refine wpS_nil ?_
  simp only [List.drop_succ_cons, List.drop_zero]
  first | refine calls_w ?_ | refine name_world ?_ | refine list_world ?_ | refine post_world ?_
  intro U10 hU10
  first | (subst hU10; have u_ := U10; clear u_) | (rw [← hU10] at hb; clear hU10)
  clear c1_0 c1_1 c1_2 c1_3 c1_4 c1_5 c1_6 c1_7 c1_8 c1_9 c1_10 c1_11 l1 c2_0 c2_1 l2 c3_0 c3_1 l3
  have k1 := Kk1.out.of hb
  clear Kk1
  have k2 := Kk2.out.of hb
  clear Kk2
  have k3 := Kk3.out.of hb
  clear Kk3
  replace hb0 := hb0.trans (hb.mono hb0.size)
  clear hb
  go_wp2_with fail
  refine (p15awake_any _).mono ?_
  rintro e U11 ⟨rfl, hn⟩
  clear k1 k2 k3
  replace hb0 := hb0.trans (hn.mono hb0.size)
  clear hn
  go_wp2
  first | go_ret | go_ret2
  exact ⟨by first | rfl | (simp; done) | (simp; assumption), hb0⟩

set_option maxRecDepth 100000 in
set_option maxHeartbeats 4000000 in

theorem POf_4 (x : Int) (y : Int) (v : Int) (n : Int) (cx : Int) (cy : Int) (kx : Int) (ky : Int)   (hP0 : pspx x y v = x) (hP1 : pspy x y v = y) (hP2 : pspv x y v = v) (hP3 : psz n = true) (hP4 : rspR x y v = true) (hP5 : pxOx x y v n = kx) (hP6 : pxOy x y v n = ky) (hP7 : pxOe x y v n = 0) (hP8 : rp kx ky = true) (hP9 : prfx kx ky = kx) (hP10 : prfy kx ky = ky) (hP11 : rin15 x y v kx ky n = true) (hP12 : pxI x y v kx ky n = true) (hP13 : pxI x y v cx cy n = false) (hP14 : (cx == kx) = false) (_ikx : In64 kx) (_iky : In64 ky) (_ix : InI x) (_iy : InI y) (_iv : InI v) (_in : In64 n) (_icx : In64 cx) (_icy : In64 cy)  (w : World)  :
    Calls Try.prog 6 #[.agg #[.int .u64 (wd0 x), .int .u64 (wd1 x), .int .u64 (wd2 x), .int .u64 (wd3 x), .int .u64 (wd0 y), .int .u64 (wd1 y), .int .u64 (wd2 y), .int .u64 (wd3 y), .int .u64 (wd0 v), .int .u64 (wd1 v), .int .u64 (wd2 v), .int .u64 (wd3 v)], .int .i64 n, .agg #[.int .i64 cx, .int .i64 cy]] w fun e w' => e = .returned (.bool true) ∧ Below w.heap.size w w' := by

  have HP0 := Lib.hid hP0
  clear hP0
  have HP1 := Lib.hid hP1
  clear hP1
  have HP2 := Lib.hid hP2
  clear hP2
  have HP3 := Lib.hid hP3
  clear hP3
  have HP4 := Lib.hid hP4
  clear hP4
  have HP5 := Lib.hid hP5
  clear hP5
  have HP6 := Lib.hid hP6
  clear hP6
  have HP7 := Lib.hid hP7
  clear hP7
  have HP8 := Lib.hid hP8
  clear hP8
  have HP9 := Lib.hid hP9
  clear hP9
  have HP10 := Lib.hid hP10
  clear hP10
  have HP11 := Lib.hid hP11
  clear hP11
  have HP12 := Lib.hid hP12
  clear hP12
  have HP13 := Lib.hid hP13
  clear hP13
  have nP14 : ¬ cx = kx := by simpa using hP14
  go_enter Try.func6, Try.ntmps6
  go_wp2_with fail
  first | refine calls_w ?_ | refine name_world ?_ | refine list_world ?_ | refine post_world ?_
  intro V1 hV1
  have hn : Below w.heap.size w V1 := by rw [hV1]; exact below_a2 _ _ _
  have nhb0 := hn
  have k1 : Blk V1 w.heap.size #[.int .u64 (wd0 x), .int .u64 (wd1 x), .int .u64 (wd2 x), .int .u64 (wd3 x), .int .u64 (wd0 y), .int .u64 (wd1 y), .int .u64 (wd2 y), .int .u64 (wd3 y), .int .u64 (wd0 v), .int .u64 (wd1 v), .int .u64 (wd2 v), .int .u64 (wd3 v)] 67 := by rw [hV1]; exact ((Blk.new _ _ _).alloc _)
  have k2 : Blk V1 (w.heap.size + 1) #[.int .i64 cx, .int .i64 cy] 24 := by rw [hV1]; exact (Blk.new1 _ _ _ _)
  clear hV1
  have hb0 := nhb0
  clear nhb0
  refine (pxOf_is x y v n kx ky 0 HP5.out HP6.out HP7.out _ix _iy _iv _in  _).mono ?_
  rintro e U2 ⟨rfl, hn⟩
  replace k1 := k1.of hn
  replace k2 := k2.of hn
  replace hb0 := hb0.trans (hn.mono hb0.size)
  clear hn
  have c1_0 : U2.cell? ⟨w.heap.size, 0, none⟩ = some (.int .u64 (wd0 x)) := k1.cell 0
  have c1_1 : U2.cell? ⟨w.heap.size, 1, none⟩ = some (.int .u64 (wd1 x)) := k1.cell 1
  have c1_2 : U2.cell? ⟨w.heap.size, 2, none⟩ = some (.int .u64 (wd2 x)) := k1.cell 2
  have c1_3 : U2.cell? ⟨w.heap.size, 3, none⟩ = some (.int .u64 (wd3 x)) := k1.cell 3
  have c1_4 : U2.cell? ⟨w.heap.size, 4, none⟩ = some (.int .u64 (wd0 y)) := k1.cell 4
  have c1_5 : U2.cell? ⟨w.heap.size, 5, none⟩ = some (.int .u64 (wd1 y)) := k1.cell 5
  have c1_6 : U2.cell? ⟨w.heap.size, 6, none⟩ = some (.int .u64 (wd2 y)) := k1.cell 6
  have c1_7 : U2.cell? ⟨w.heap.size, 7, none⟩ = some (.int .u64 (wd3 y)) := k1.cell 7
  have c1_8 : U2.cell? ⟨w.heap.size, 8, none⟩ = some (.int .u64 (wd0 v)) := k1.cell 8
  have c1_9 : U2.cell? ⟨w.heap.size, 9, none⟩ = some (.int .u64 (wd1 v)) := k1.cell 9
  have c1_10 : U2.cell? ⟨w.heap.size, 10, none⟩ = some (.int .u64 (wd2 v)) := k1.cell 10
  have c1_11 : U2.cell? ⟨w.heap.size, 11, none⟩ = some (.int .u64 (wd3 v)) := k1.cell 11
  have l1 := k1.lt
  go_wp2_with fail
  clear c1_0 c1_1 c1_2 c1_3 c1_4 c1_5 c1_6 c1_7 c1_8 c1_9 c1_10 c1_11 l1
  first | refine calls_w ?_ | refine name_world ?_ | refine list_world ?_ | refine post_world ?_
  intro V3 hV3
  have D1 := Lib.hid k1.lt
  have D2 := Lib.hid k2.lt
  have D3 := Lib.hid hb0.size
  have hn : Below U2.heap.size U2 V3 := by rw [hV3]; exact below_a1 _ _
  have nk1 := k1.of hn
  have nk2 := k2.of hn
  have nhb0 := hb0.trans (hn.mono hb0.size)
  clear hn
  have k3 : Blk V3 U2.heap.size #[.int .i64 kx, .int .i64 ky] 24 := by rw [hV3]; exact (Blk.new _ _ _)
  clear k1 k2
  clear hb0
  clear hV3
  have k1 := nk1
  clear nk1
  have k2 := nk2
  clear nk2
  have hb0 := nhb0
  clear nhb0
  refine (p15spot_is x y v x y v HP0.out HP1.out HP2.out _ix _iy _iv  _).mono ?_
  rintro e U4 ⟨bn1, ba1, bl1, bc1, bn2, ba2, bl2, bc2, bn3, ba3, bl3, bc3, rfl, hbm1, hbm2, hbm3, hn⟩
  replace k1 := k1.of hn
  replace k2 := k2.of hn
  replace k3 := k3.of hn
  replace hb0 := hb0.trans (hn.mono hb0.size)
  clear hn
  have HB1 := Lib.hid hbm1
  have HB2 := Lib.hid hbm2
  have HB3 := Lib.hid hbm3
  clear hbm1 hbm2 hbm3
  go_wp2_with fail
  first | refine calls_w ?_ | refine name_world ?_ | refine list_world ?_ | refine post_world ?_
  intro V5 hV5
  have D4 := Lib.hid k1.lt
  have D5 := Lib.hid k2.lt
  have D6 := Lib.hid k3.lt
  have D7 := Lib.hid hb0.size
  have hn : Below U4.heap.size U4 V5 := by rw [hV5]; exact below_a1 _ _
  have nk1 := k1.of hn
  have nk2 := k2.of hn
  have nk3 := k3.of hn
  replace HB1 := Lib.hid (HB1.out.of hn)
  replace HB2 := Lib.hid (HB2.out.of hn)
  replace HB3 := Lib.hid (HB3.out.of hn)
  have nhb0 := hb0.trans (hn.mono hb0.size)
  clear hn
  have k4 : Blk V5 U4.heap.size #[.bool bn1, .slice ba1 bl1 bc1, .bool bn2, .slice ba2 bl2 bc2, .bool bn3, .slice ba3 bl3 bc3] 72 := by rw [hV5]; exact (Blk.new _ _ _)
  clear k1 k2 k3
  clear hb0
  clear hV5
  have k1 := nk1
  clear nk1
  have k2 := nk2
  clear nk2
  have k3 := nk3
  clear nk3
  have hb0 := nhb0
  clear nhb0
  refine (p15size_is n true HP3.out _in  _).mono ?_
  rintro e U6 ⟨rfl, hn⟩
  replace k1 := k1.of hn
  replace k2 := k2.of hn
  replace k3 := k3.of hn
  replace k4 := k4.of hn
  replace HB1 := Lib.hid (HB1.out.of hn)
  replace HB2 := Lib.hid (HB2.out.of hn)
  replace HB3 := Lib.hid (HB3.out.of hn)
  replace hb0 := hb0.trans (hn.mono hb0.size)
  clear hn
  have c4_0 : U6.cell? ⟨U4.heap.size, 0, none⟩ = some (.bool bn1) := k4.cell 0
  have c4_1 : U6.cell? ⟨U4.heap.size, 1, none⟩ = some (.slice ba1 bl1 bc1) := k4.cell 1
  have c4_2 : U6.cell? ⟨U4.heap.size, 2, none⟩ = some (.bool bn2) := k4.cell 2
  have c4_3 : U6.cell? ⟨U4.heap.size, 3, none⟩ = some (.slice ba2 bl2 bc2) := k4.cell 3
  have c4_4 : U6.cell? ⟨U4.heap.size, 4, none⟩ = some (.bool bn3) := k4.cell 4
  have c4_5 : U6.cell? ⟨U4.heap.size, 5, none⟩ = some (.slice ba3 bl3 bc3) := k4.cell 5
  have l4 := k4.lt
  go_wp2_with fail
  clear c4_0 c4_1 c4_2 c4_3 c4_4 c4_5 l4
  refine (rSpR_is x y v true HP4.out  bn1 ba1 bl1 bc1 bn2 ba2 bl2 bc2 bn3 ba3 bl3 bc3 _ HB1.out HB2.out HB3.out).mono ?_
  rintro e U7 ⟨rfl, hn⟩
  replace k1 := k1.of hn
  replace k2 := k2.of hn
  replace k3 := k3.of hn
  replace k4 := k4.of hn
  replace HB1 := Lib.hid (HB1.out.of hn)
  replace HB2 := Lib.hid (HB2.out.of hn)
  replace HB3 := Lib.hid (HB3.out.of hn)
  replace hb0 := hb0.trans (hn.mono hb0.size)
  clear hn
  go_wp2_with fail
  have c1_0 : U7.cell? ⟨w.heap.size, 0, none⟩ = some (.int .u64 (wd0 x)) := k1.cell 0
  have c1_1 : U7.cell? ⟨w.heap.size, 1, none⟩ = some (.int .u64 (wd1 x)) := k1.cell 1
  have c1_2 : U7.cell? ⟨w.heap.size, 2, none⟩ = some (.int .u64 (wd2 x)) := k1.cell 2
  have c1_3 : U7.cell? ⟨w.heap.size, 3, none⟩ = some (.int .u64 (wd3 x)) := k1.cell 3
  have c1_4 : U7.cell? ⟨w.heap.size, 4, none⟩ = some (.int .u64 (wd0 y)) := k1.cell 4
  have c1_5 : U7.cell? ⟨w.heap.size, 5, none⟩ = some (.int .u64 (wd1 y)) := k1.cell 5
  have c1_6 : U7.cell? ⟨w.heap.size, 6, none⟩ = some (.int .u64 (wd2 y)) := k1.cell 6
  have c1_7 : U7.cell? ⟨w.heap.size, 7, none⟩ = some (.int .u64 (wd3 y)) := k1.cell 7
  have c1_8 : U7.cell? ⟨w.heap.size, 8, none⟩ = some (.int .u64 (wd0 v)) := k1.cell 8
  have c1_9 : U7.cell? ⟨w.heap.size, 9, none⟩ = some (.int .u64 (wd1 v)) := k1.cell 9
  have c1_10 : U7.cell? ⟨w.heap.size, 10, none⟩ = some (.int .u64 (wd2 v)) := k1.cell 10
  have c1_11 : U7.cell? ⟨w.heap.size, 11, none⟩ = some (.int .u64 (wd3 v)) := k1.cell 11
  have l1 := k1.lt
  have c3_0 : U7.cell? ⟨U2.heap.size, 0, none⟩ = some (.int .i64 kx) := k3.cell 0
  have c3_1 : U7.cell? ⟨U2.heap.size, 1, none⟩ = some (.int .i64 ky) := k3.cell 1
  have l3 := k3.lt
  have c4_0 : U7.cell? ⟨U4.heap.size, 0, none⟩ = some (.bool bn1) := k4.cell 0
  have c4_1 : U7.cell? ⟨U4.heap.size, 1, none⟩ = some (.slice ba1 bl1 bc1) := k4.cell 1
  have c4_2 : U7.cell? ⟨U4.heap.size, 2, none⟩ = some (.bool bn2) := k4.cell 2
  have c4_3 : U7.cell? ⟨U4.heap.size, 3, none⟩ = some (.slice ba2 bl2 bc2) := k4.cell 3
  have c4_4 : U7.cell? ⟨U4.heap.size, 4, none⟩ = some (.bool bn3) := k4.cell 4
  have c4_5 : U7.cell? ⟨U4.heap.size, 5, none⟩ = some (.slice ba3 bl3 bc3) := k4.cell 5
  have l4 := k4.lt
  have Kk1 := Lib.hid k1
  clear k1
  have Kk2 := Lib.hid k2
  clear k2
  have Kk3 := Lib.hid k3
  clear k3
  have Kk4 := Lib.hid k4
  clear k4
  refine wp_region_up U7.heap.size 19 [(true, 0), (true, 1), (true, 2), (true, 3), (false, 4), (true, 5), (true, 6), (true, 7), (true, 8), (true, 9), (true, 11), (false, 10), (false, 12), (true, 13), (true, 14), (true, 15), (true, 16), (true, 17), (true, 18)] (by kernel_rfl) (by kernel_rfl) (fun _ _ d _ _ h => by cases d <;> exact h) ?_
  have hb : Below U7.heap.size U7 U7.drew := (Below.refl _ _).drew
  iterate 4
    refine wpS_takeL rfl rfl ?_
    go_big_quiet_step (rfl)
    refine wpQuiet_nil ?_
  refine wpS_doL rfl ?_
  intro K hK
  go_wp2_with ((go_at_call 17; (with_reducible refine (PtRight_v kx ky true HP8.out _).mono ?_); rintro e w2 ⟨rfl, hn⟩))
  try replace hb := hb.trans (hn.mono hb.size)
  refine hK.out _ _ (up_iff.2 hb) ?_
  clear hK K
  try clear hn
  iterate 6
    refine wpS_takeL rfl rfl ?_
    go_big_quiet_step (rfl)
    refine wpQuiet_nil ?_
  refine wpS_doL rfl ?_
  intro K hK
  go_wp2_with ((go_at_call 32; (with_reducible refine (p15ref_is kx ky kx ky HP9.out HP10.out _ikx _iky  _).mono ?_); rintro e w2 ⟨rfl, hn⟩))
  try replace hb := hb.trans (hn.mono hb.size)
  refine hK.out _ _ (up_iff.2 hb) ?_
  clear hK K
  try clear hn
  refine wpS_doL rfl ?_
  intro K hK
  go_wp2_with ((go_at_call 44; (with_reducible refine (rIn15_is x y v kx ky n true HP11.out _ikx _iky _in bn1 ba1 bl1 bc1 bn2 ba2 bl2 bc2 bn3 ba3 bl3 bc3 _ (HB1.out.of hb) (HB2.out.of hb) (HB3.out.of hb)).mono ?_); rintro e w2 ⟨rfl, hn⟩))
  try replace hb := hb.trans (hn.mono hb.size)
  refine hK.out _ _ (up_iff.2 hb) ?_
  clear hK K
  try clear hn
  iterate 6
    refine wpS_takeL rfl rfl ?_
    go_big_quiet_step (rfl)
    refine wpQuiet_nil ?_
  refine wpS_nil ?_
  simp only [List.drop_succ_cons, List.drop_zero]
  first | refine calls_w ?_ | refine name_world ?_ | refine list_world ?_ | refine post_world ?_
  intro U8 hU8
  first | (subst hU8; have u_ := U8; clear u_) | (rw [← hU8] at hb; clear hU8)
  clear c1_0 c1_1 c1_2 c1_3 c1_4 c1_5 c1_6 c1_7 c1_8 c1_9 c1_10 c1_11 l1 c3_0 c3_1 l3 c4_0 c4_1 c4_2 c4_3 c4_4 c4_5 l4
  have k1 := Kk1.out.of hb
  clear Kk1
  have k2 := Kk2.out.of hb
  clear Kk2
  have k3 := Kk3.out.of hb
  clear Kk3
  have k4 := Kk4.out.of hb
  clear Kk4
  replace HB1 := Lib.hid (HB1.out.of hb)
  replace HB2 := Lib.hid (HB2.out.of hb)
  replace HB3 := Lib.hid (HB3.out.of hb)
  replace hb0 := hb0.trans (hb.mono hb0.size)
  clear hb
  go_wp2_with fail
  refine (pxIn_is x y v kx ky n true HP12.out _ix _iy _iv _ikx _iky _in  _).mono ?_
  rintro e U9 ⟨rfl, hn⟩
  clear HB1 HB2 HB3
  clear k4
  replace k1 := k1.of hn
  replace k2 := k2.of hn
  replace k3 := k3.of hn
  replace hb0 := hb0.trans (hn.mono hb0.size)
  clear hn
  go_wp2_with fail
  have c1_0 : U9.cell? ⟨w.heap.size, 0, none⟩ = some (.int .u64 (wd0 x)) := k1.cell 0
  have c1_1 : U9.cell? ⟨w.heap.size, 1, none⟩ = some (.int .u64 (wd1 x)) := k1.cell 1
  have c1_2 : U9.cell? ⟨w.heap.size, 2, none⟩ = some (.int .u64 (wd2 x)) := k1.cell 2
  have c1_3 : U9.cell? ⟨w.heap.size, 3, none⟩ = some (.int .u64 (wd3 x)) := k1.cell 3
  have c1_4 : U9.cell? ⟨w.heap.size, 4, none⟩ = some (.int .u64 (wd0 y)) := k1.cell 4
  have c1_5 : U9.cell? ⟨w.heap.size, 5, none⟩ = some (.int .u64 (wd1 y)) := k1.cell 5
  have c1_6 : U9.cell? ⟨w.heap.size, 6, none⟩ = some (.int .u64 (wd2 y)) := k1.cell 6
  have c1_7 : U9.cell? ⟨w.heap.size, 7, none⟩ = some (.int .u64 (wd3 y)) := k1.cell 7
  have c1_8 : U9.cell? ⟨w.heap.size, 8, none⟩ = some (.int .u64 (wd0 v)) := k1.cell 8
  have c1_9 : U9.cell? ⟨w.heap.size, 9, none⟩ = some (.int .u64 (wd1 v)) := k1.cell 9
  have c1_10 : U9.cell? ⟨w.heap.size, 10, none⟩ = some (.int .u64 (wd2 v)) := k1.cell 10
  have c1_11 : U9.cell? ⟨w.heap.size, 11, none⟩ = some (.int .u64 (wd3 v)) := k1.cell 11
  have l1 := k1.lt
  have c2_0 : U9.cell? ⟨(w.heap.size + 1), 0, none⟩ = some (.int .i64 cx) := k2.cell 0
  have c2_1 : U9.cell? ⟨(w.heap.size + 1), 1, none⟩ = some (.int .i64 cy) := k2.cell 1
  have l2 := k2.lt
  have c3_0 : U9.cell? ⟨U2.heap.size, 0, none⟩ = some (.int .i64 kx) := k3.cell 0
  have c3_1 : U9.cell? ⟨U2.heap.size, 1, none⟩ = some (.int .i64 ky) := k3.cell 1
  have l3 := k3.lt
  have Kk1 := Lib.hid k1
  clear k1
  have Kk2 := Lib.hid k2
  clear k2
  have Kk3 := Lib.hid k3
  clear k3
  refine wp_region_up U9.heap.size 7 [(true, 0), (true, 1), (true, 2), (true, 4), (true, 5), (true, 6), (false, 3)] (by kernel_rfl) (by kernel_rfl) (fun _ _ d _ _ h => by cases d <;> exact h) ?_
  have hb : Below U9.heap.size U9 U9.drew := (Below.refl _ _).drew
  iterate 6
    refine wpS_takeL rfl rfl ?_
    go_big_quiet_step (rfl)
    refine wpQuiet_nil ?_
  refine wpS_doL rfl ?_
  intro K hK
  go_wp2_with ((go_at_call 42; (with_reducible refine (pxIn_is x y v cx cy n false HP13.out _ix _iy _iv _icx _icy _in  _).mono ?_); rintro e w2 ⟨rfl, hn⟩))
  replace hb := hb.trans (hn.mono hb.size)
  refine hK.out _ _ (up_iff.2 hb) ?_
  clear hK K
  clear hn
  refine wpS_nil ?_
  simp only [List.drop_succ_cons, List.drop_zero]
  first | refine calls_w ?_ | refine name_world ?_ | refine list_world ?_ | refine post_world ?_
  intro U10 hU10
  first | (subst hU10; have u_ := U10; clear u_) | (rw [← hU10] at hb; clear hU10)
  clear c1_0 c1_1 c1_2 c1_3 c1_4 c1_5 c1_6 c1_7 c1_8 c1_9 c1_10 c1_11 l1 c2_0 c2_1 l2 c3_0 c3_1 l3
  have k1 := Kk1.out.of hb
  clear Kk1
  have k2 := Kk2.out.of hb
  clear Kk2
  have k3 := Kk3.out.of hb
  clear Kk3
  replace hb0 := hb0.trans (hb.mono hb0.size)
  clear hb
  go_wp2_with fail
  refine (p15awake_any _).mono ?_
  rintro e U11 ⟨rfl, hn⟩
  clear k1 k2 k3
  replace hb0 := hb0.trans (hn.mono hb0.size)
  clear hn
  go_wp2
  first | go_ret | go_ret2
  exact ⟨by first | rfl | (simp; done) | (simp; assumption), hb0⟩

set_option maxRecDepth 100000 in
set_option maxHeartbeats 4000000 in

theorem POf_5 (x : Int) (y : Int) (v : Int) (n : Int) (cx : Int) (cy : Int) (ky : Int)   (hP0 : pspx x y v = x) (hP1 : pspy x y v = y) (hP2 : pspv x y v = v) (hP3 : psz n = true) (hP4 : rspR x y v = true) (hP5 : pxOx x y v n = cx) (hP6 : pxOy x y v n = ky) (hP7 : pxOe x y v n = 0) (hP8 : rp cx ky = true) (hP9 : prfx cx ky = cx) (hP10 : prfy cx ky = ky) (hP11 : rin15 x y v cx ky n = true) (hP12 : pxI x y v cx ky n = true) (hP13 : pxI x y v cx cy n = false) (hP14 : (cy == ky) = false) (_iky : In64 ky) (_ix : InI x) (_iy : InI y) (_iv : InI v) (_in : In64 n) (_icx : In64 cx) (_icy : In64 cy)  (w : World)  :
    Calls Try.prog 6 #[.agg #[.int .u64 (wd0 x), .int .u64 (wd1 x), .int .u64 (wd2 x), .int .u64 (wd3 x), .int .u64 (wd0 y), .int .u64 (wd1 y), .int .u64 (wd2 y), .int .u64 (wd3 y), .int .u64 (wd0 v), .int .u64 (wd1 v), .int .u64 (wd2 v), .int .u64 (wd3 v)], .int .i64 n, .agg #[.int .i64 cx, .int .i64 cy]] w fun e w' => e = .returned (.bool true) ∧ Below w.heap.size w w' := by

  have HP0 := Lib.hid hP0
  clear hP0
  have HP1 := Lib.hid hP1
  clear hP1
  have HP2 := Lib.hid hP2
  clear hP2
  have HP3 := Lib.hid hP3
  clear hP3
  have HP4 := Lib.hid hP4
  clear hP4
  have HP5 := Lib.hid hP5
  clear hP5
  have HP6 := Lib.hid hP6
  clear hP6
  have HP7 := Lib.hid hP7
  clear hP7
  have HP8 := Lib.hid hP8
  clear hP8
  have HP9 := Lib.hid hP9
  clear hP9
  have HP10 := Lib.hid hP10
  clear hP10
  have HP11 := Lib.hid hP11
  clear hP11
  have HP12 := Lib.hid hP12
  clear hP12
  have HP13 := Lib.hid hP13
  clear hP13
  have nP14 : ¬ cy = ky := by simpa using hP14
  go_enter Try.func6, Try.ntmps6
  go_wp2_with fail
  first | refine calls_w ?_ | refine name_world ?_ | refine list_world ?_ | refine post_world ?_
  intro V1 hV1
  have hn : Below w.heap.size w V1 := by rw [hV1]; exact below_a2 _ _ _
  have nhb0 := hn
  have k1 : Blk V1 w.heap.size #[.int .u64 (wd0 x), .int .u64 (wd1 x), .int .u64 (wd2 x), .int .u64 (wd3 x), .int .u64 (wd0 y), .int .u64 (wd1 y), .int .u64 (wd2 y), .int .u64 (wd3 y), .int .u64 (wd0 v), .int .u64 (wd1 v), .int .u64 (wd2 v), .int .u64 (wd3 v)] 67 := by rw [hV1]; exact ((Blk.new _ _ _).alloc _)
  have k2 : Blk V1 (w.heap.size + 1) #[.int .i64 cx, .int .i64 cy] 24 := by rw [hV1]; exact (Blk.new1 _ _ _ _)
  clear hV1
  have hb0 := nhb0
  clear nhb0
  refine (pxOf_is x y v n cx ky 0 HP5.out HP6.out HP7.out _ix _iy _iv _in  _).mono ?_
  rintro e U2 ⟨rfl, hn⟩
  replace k1 := k1.of hn
  replace k2 := k2.of hn
  replace hb0 := hb0.trans (hn.mono hb0.size)
  clear hn
  have c1_0 : U2.cell? ⟨w.heap.size, 0, none⟩ = some (.int .u64 (wd0 x)) := k1.cell 0
  have c1_1 : U2.cell? ⟨w.heap.size, 1, none⟩ = some (.int .u64 (wd1 x)) := k1.cell 1
  have c1_2 : U2.cell? ⟨w.heap.size, 2, none⟩ = some (.int .u64 (wd2 x)) := k1.cell 2
  have c1_3 : U2.cell? ⟨w.heap.size, 3, none⟩ = some (.int .u64 (wd3 x)) := k1.cell 3
  have c1_4 : U2.cell? ⟨w.heap.size, 4, none⟩ = some (.int .u64 (wd0 y)) := k1.cell 4
  have c1_5 : U2.cell? ⟨w.heap.size, 5, none⟩ = some (.int .u64 (wd1 y)) := k1.cell 5
  have c1_6 : U2.cell? ⟨w.heap.size, 6, none⟩ = some (.int .u64 (wd2 y)) := k1.cell 6
  have c1_7 : U2.cell? ⟨w.heap.size, 7, none⟩ = some (.int .u64 (wd3 y)) := k1.cell 7
  have c1_8 : U2.cell? ⟨w.heap.size, 8, none⟩ = some (.int .u64 (wd0 v)) := k1.cell 8
  have c1_9 : U2.cell? ⟨w.heap.size, 9, none⟩ = some (.int .u64 (wd1 v)) := k1.cell 9
  have c1_10 : U2.cell? ⟨w.heap.size, 10, none⟩ = some (.int .u64 (wd2 v)) := k1.cell 10
  have c1_11 : U2.cell? ⟨w.heap.size, 11, none⟩ = some (.int .u64 (wd3 v)) := k1.cell 11
  have l1 := k1.lt
  go_wp2_with fail
  clear c1_0 c1_1 c1_2 c1_3 c1_4 c1_5 c1_6 c1_7 c1_8 c1_9 c1_10 c1_11 l1
  first | refine calls_w ?_ | refine name_world ?_ | refine list_world ?_ | refine post_world ?_
  intro V3 hV3
  have D1 := Lib.hid k1.lt
  have D2 := Lib.hid k2.lt
  have D3 := Lib.hid hb0.size
  have hn : Below U2.heap.size U2 V3 := by rw [hV3]; exact below_a1 _ _
  have nk1 := k1.of hn
  have nk2 := k2.of hn
  have nhb0 := hb0.trans (hn.mono hb0.size)
  clear hn
  have k3 : Blk V3 U2.heap.size #[.int .i64 cx, .int .i64 ky] 24 := by rw [hV3]; exact (Blk.new _ _ _)
  clear k1 k2
  clear hb0
  clear hV3
  have k1 := nk1
  clear nk1
  have k2 := nk2
  clear nk2
  have hb0 := nhb0
  clear nhb0
  refine (p15spot_is x y v x y v HP0.out HP1.out HP2.out _ix _iy _iv  _).mono ?_
  rintro e U4 ⟨bn1, ba1, bl1, bc1, bn2, ba2, bl2, bc2, bn3, ba3, bl3, bc3, rfl, hbm1, hbm2, hbm3, hn⟩
  replace k1 := k1.of hn
  replace k2 := k2.of hn
  replace k3 := k3.of hn
  replace hb0 := hb0.trans (hn.mono hb0.size)
  clear hn
  have HB1 := Lib.hid hbm1
  have HB2 := Lib.hid hbm2
  have HB3 := Lib.hid hbm3
  clear hbm1 hbm2 hbm3
  go_wp2_with fail
  first | refine calls_w ?_ | refine name_world ?_ | refine list_world ?_ | refine post_world ?_
  intro V5 hV5
  have D4 := Lib.hid k1.lt
  have D5 := Lib.hid k2.lt
  have D6 := Lib.hid k3.lt
  have D7 := Lib.hid hb0.size
  have hn : Below U4.heap.size U4 V5 := by rw [hV5]; exact below_a1 _ _
  have nk1 := k1.of hn
  have nk2 := k2.of hn
  have nk3 := k3.of hn
  replace HB1 := Lib.hid (HB1.out.of hn)
  replace HB2 := Lib.hid (HB2.out.of hn)
  replace HB3 := Lib.hid (HB3.out.of hn)
  have nhb0 := hb0.trans (hn.mono hb0.size)
  clear hn
  have k4 : Blk V5 U4.heap.size #[.bool bn1, .slice ba1 bl1 bc1, .bool bn2, .slice ba2 bl2 bc2, .bool bn3, .slice ba3 bl3 bc3] 72 := by rw [hV5]; exact (Blk.new _ _ _)
  clear k1 k2 k3
  clear hb0
  clear hV5
  have k1 := nk1
  clear nk1
  have k2 := nk2
  clear nk2
  have k3 := nk3
  clear nk3
  have hb0 := nhb0
  clear nhb0
  refine (p15size_is n true HP3.out _in  _).mono ?_
  rintro e U6 ⟨rfl, hn⟩
  replace k1 := k1.of hn
  replace k2 := k2.of hn
  replace k3 := k3.of hn
  replace k4 := k4.of hn
  replace HB1 := Lib.hid (HB1.out.of hn)
  replace HB2 := Lib.hid (HB2.out.of hn)
  replace HB3 := Lib.hid (HB3.out.of hn)
  replace hb0 := hb0.trans (hn.mono hb0.size)
  clear hn
  have c4_0 : U6.cell? ⟨U4.heap.size, 0, none⟩ = some (.bool bn1) := k4.cell 0
  have c4_1 : U6.cell? ⟨U4.heap.size, 1, none⟩ = some (.slice ba1 bl1 bc1) := k4.cell 1
  have c4_2 : U6.cell? ⟨U4.heap.size, 2, none⟩ = some (.bool bn2) := k4.cell 2
  have c4_3 : U6.cell? ⟨U4.heap.size, 3, none⟩ = some (.slice ba2 bl2 bc2) := k4.cell 3
  have c4_4 : U6.cell? ⟨U4.heap.size, 4, none⟩ = some (.bool bn3) := k4.cell 4
  have c4_5 : U6.cell? ⟨U4.heap.size, 5, none⟩ = some (.slice ba3 bl3 bc3) := k4.cell 5
  have l4 := k4.lt
  go_wp2_with fail
  clear c4_0 c4_1 c4_2 c4_3 c4_4 c4_5 l4
  refine (rSpR_is x y v true HP4.out  bn1 ba1 bl1 bc1 bn2 ba2 bl2 bc2 bn3 ba3 bl3 bc3 _ HB1.out HB2.out HB3.out).mono ?_
  rintro e U7 ⟨rfl, hn⟩
  replace k1 := k1.of hn
  replace k2 := k2.of hn
  replace k3 := k3.of hn
  replace k4 := k4.of hn
  replace HB1 := Lib.hid (HB1.out.of hn)
  replace HB2 := Lib.hid (HB2.out.of hn)
  replace HB3 := Lib.hid (HB3.out.of hn)
  replace hb0 := hb0.trans (hn.mono hb0.size)
  clear hn
  go_wp2_with fail
  have c1_0 : U7.cell? ⟨w.heap.size, 0, none⟩ = some (.int .u64 (wd0 x)) := k1.cell 0
  have c1_1 : U7.cell? ⟨w.heap.size, 1, none⟩ = some (.int .u64 (wd1 x)) := k1.cell 1
  have c1_2 : U7.cell? ⟨w.heap.size, 2, none⟩ = some (.int .u64 (wd2 x)) := k1.cell 2
  have c1_3 : U7.cell? ⟨w.heap.size, 3, none⟩ = some (.int .u64 (wd3 x)) := k1.cell 3
  have c1_4 : U7.cell? ⟨w.heap.size, 4, none⟩ = some (.int .u64 (wd0 y)) := k1.cell 4
  have c1_5 : U7.cell? ⟨w.heap.size, 5, none⟩ = some (.int .u64 (wd1 y)) := k1.cell 5
  have c1_6 : U7.cell? ⟨w.heap.size, 6, none⟩ = some (.int .u64 (wd2 y)) := k1.cell 6
  have c1_7 : U7.cell? ⟨w.heap.size, 7, none⟩ = some (.int .u64 (wd3 y)) := k1.cell 7
  have c1_8 : U7.cell? ⟨w.heap.size, 8, none⟩ = some (.int .u64 (wd0 v)) := k1.cell 8
  have c1_9 : U7.cell? ⟨w.heap.size, 9, none⟩ = some (.int .u64 (wd1 v)) := k1.cell 9
  have c1_10 : U7.cell? ⟨w.heap.size, 10, none⟩ = some (.int .u64 (wd2 v)) := k1.cell 10
  have c1_11 : U7.cell? ⟨w.heap.size, 11, none⟩ = some (.int .u64 (wd3 v)) := k1.cell 11
  have l1 := k1.lt
  have c3_0 : U7.cell? ⟨U2.heap.size, 0, none⟩ = some (.int .i64 cx) := k3.cell 0
  have c3_1 : U7.cell? ⟨U2.heap.size, 1, none⟩ = some (.int .i64 ky) := k3.cell 1
  have l3 := k3.lt
  have c4_0 : U7.cell? ⟨U4.heap.size, 0, none⟩ = some (.bool bn1) := k4.cell 0
  have c4_1 : U7.cell? ⟨U4.heap.size, 1, none⟩ = some (.slice ba1 bl1 bc1) := k4.cell 1
  have c4_2 : U7.cell? ⟨U4.heap.size, 2, none⟩ = some (.bool bn2) := k4.cell 2
  have c4_3 : U7.cell? ⟨U4.heap.size, 3, none⟩ = some (.slice ba2 bl2 bc2) := k4.cell 3
  have c4_4 : U7.cell? ⟨U4.heap.size, 4, none⟩ = some (.bool bn3) := k4.cell 4
  have c4_5 : U7.cell? ⟨U4.heap.size, 5, none⟩ = some (.slice ba3 bl3 bc3) := k4.cell 5
  have l4 := k4.lt
  have Kk1 := Lib.hid k1
  clear k1
  have Kk2 := Lib.hid k2
  clear k2
  have Kk3 := Lib.hid k3
  clear k3
  have Kk4 := Lib.hid k4
  clear k4
  refine wp_region_up U7.heap.size 19 [(true, 0), (true, 1), (true, 2), (true, 3), (false, 4), (true, 5), (true, 6), (true, 7), (true, 8), (true, 9), (true, 11), (false, 10), (false, 12), (true, 13), (true, 14), (true, 15), (true, 16), (true, 17), (true, 18)] (by kernel_rfl) (by kernel_rfl) (fun _ _ d _ _ h => by cases d <;> exact h) ?_
  have hb : Below U7.heap.size U7 U7.drew := (Below.refl _ _).drew
  iterate 4
    refine wpS_takeL rfl rfl ?_
    go_big_quiet_step (rfl)
    refine wpQuiet_nil ?_
  refine wpS_doL rfl ?_
  intro K hK
  go_wp2_with ((go_at_call 17; (with_reducible refine (PtRight_v cx ky true HP8.out _).mono ?_); rintro e w2 ⟨rfl, hn⟩))
  try replace hb := hb.trans (hn.mono hb.size)
  refine hK.out _ _ (up_iff.2 hb) ?_
  clear hK K
  try clear hn
  iterate 6
    refine wpS_takeL rfl rfl ?_
    go_big_quiet_step (rfl)
    refine wpQuiet_nil ?_
  refine wpS_doL rfl ?_
  intro K hK
  go_wp2_with ((go_at_call 32; (with_reducible refine (p15ref_is cx ky cx ky HP9.out HP10.out _icx _iky  _).mono ?_); rintro e w2 ⟨rfl, hn⟩))
  try replace hb := hb.trans (hn.mono hb.size)
  refine hK.out _ _ (up_iff.2 hb) ?_
  clear hK K
  try clear hn
  refine wpS_doL rfl ?_
  intro K hK
  go_wp2_with ((go_at_call 44; (with_reducible refine (rIn15_is x y v cx ky n true HP11.out _icx _iky _in bn1 ba1 bl1 bc1 bn2 ba2 bl2 bc2 bn3 ba3 bl3 bc3 _ (HB1.out.of hb) (HB2.out.of hb) (HB3.out.of hb)).mono ?_); rintro e w2 ⟨rfl, hn⟩))
  try replace hb := hb.trans (hn.mono hb.size)
  refine hK.out _ _ (up_iff.2 hb) ?_
  clear hK K
  try clear hn
  iterate 6
    refine wpS_takeL rfl rfl ?_
    go_big_quiet_step (rfl)
    refine wpQuiet_nil ?_
  refine wpS_nil ?_
  simp only [List.drop_succ_cons, List.drop_zero]
  first | refine calls_w ?_ | refine name_world ?_ | refine list_world ?_ | refine post_world ?_
  intro U8 hU8
  first | (subst hU8; have u_ := U8; clear u_) | (rw [← hU8] at hb; clear hU8)
  clear c1_0 c1_1 c1_2 c1_3 c1_4 c1_5 c1_6 c1_7 c1_8 c1_9 c1_10 c1_11 l1 c3_0 c3_1 l3 c4_0 c4_1 c4_2 c4_3 c4_4 c4_5 l4
  have k1 := Kk1.out.of hb
  clear Kk1
  have k2 := Kk2.out.of hb
  clear Kk2
  have k3 := Kk3.out.of hb
  clear Kk3
  have k4 := Kk4.out.of hb
  clear Kk4
  replace HB1 := Lib.hid (HB1.out.of hb)
  replace HB2 := Lib.hid (HB2.out.of hb)
  replace HB3 := Lib.hid (HB3.out.of hb)
  replace hb0 := hb0.trans (hb.mono hb0.size)
  clear hb
  go_wp2_with fail
  refine (pxIn_is x y v cx ky n true HP12.out _ix _iy _iv _icx _iky _in  _).mono ?_
  rintro e U9 ⟨rfl, hn⟩
  clear HB1 HB2 HB3
  clear k4
  replace k1 := k1.of hn
  replace k2 := k2.of hn
  replace k3 := k3.of hn
  replace hb0 := hb0.trans (hn.mono hb0.size)
  clear hn
  go_wp2_with fail
  have c1_0 : U9.cell? ⟨w.heap.size, 0, none⟩ = some (.int .u64 (wd0 x)) := k1.cell 0
  have c1_1 : U9.cell? ⟨w.heap.size, 1, none⟩ = some (.int .u64 (wd1 x)) := k1.cell 1
  have c1_2 : U9.cell? ⟨w.heap.size, 2, none⟩ = some (.int .u64 (wd2 x)) := k1.cell 2
  have c1_3 : U9.cell? ⟨w.heap.size, 3, none⟩ = some (.int .u64 (wd3 x)) := k1.cell 3
  have c1_4 : U9.cell? ⟨w.heap.size, 4, none⟩ = some (.int .u64 (wd0 y)) := k1.cell 4
  have c1_5 : U9.cell? ⟨w.heap.size, 5, none⟩ = some (.int .u64 (wd1 y)) := k1.cell 5
  have c1_6 : U9.cell? ⟨w.heap.size, 6, none⟩ = some (.int .u64 (wd2 y)) := k1.cell 6
  have c1_7 : U9.cell? ⟨w.heap.size, 7, none⟩ = some (.int .u64 (wd3 y)) := k1.cell 7
  have c1_8 : U9.cell? ⟨w.heap.size, 8, none⟩ = some (.int .u64 (wd0 v)) := k1.cell 8
  have c1_9 : U9.cell? ⟨w.heap.size, 9, none⟩ = some (.int .u64 (wd1 v)) := k1.cell 9
  have c1_10 : U9.cell? ⟨w.heap.size, 10, none⟩ = some (.int .u64 (wd2 v)) := k1.cell 10
  have c1_11 : U9.cell? ⟨w.heap.size, 11, none⟩ = some (.int .u64 (wd3 v)) := k1.cell 11
  have l1 := k1.lt
  have c2_0 : U9.cell? ⟨(w.heap.size + 1), 0, none⟩ = some (.int .i64 cx) := k2.cell 0
  have c2_1 : U9.cell? ⟨(w.heap.size + 1), 1, none⟩ = some (.int .i64 cy) := k2.cell 1
  have l2 := k2.lt
  have c3_0 : U9.cell? ⟨U2.heap.size, 0, none⟩ = some (.int .i64 cx) := k3.cell 0
  have c3_1 : U9.cell? ⟨U2.heap.size, 1, none⟩ = some (.int .i64 ky) := k3.cell 1
  have l3 := k3.lt
  have Kk1 := Lib.hid k1
  clear k1
  have Kk2 := Lib.hid k2
  clear k2
  have Kk3 := Lib.hid k3
  clear k3
  refine wp_region_up U9.heap.size 7 [(true, 0), (true, 1), (true, 2), (true, 4), (true, 5), (true, 6), (false, 3)] (by kernel_rfl) (by kernel_rfl) (fun _ _ d _ _ h => by cases d <;> exact h) ?_
  have hb : Below U9.heap.size U9 U9.drew := (Below.refl _ _).drew
  iterate 6
    refine wpS_takeL rfl rfl ?_
    go_big_quiet_step (rfl)
    refine wpQuiet_nil ?_
  refine wpS_doL rfl ?_
  intro K hK
  go_wp2_with ((go_at_call 42; (with_reducible refine (pxIn_is x y v cx cy n false HP13.out _ix _iy _iv _icx _icy _in  _).mono ?_); rintro e w2 ⟨rfl, hn⟩))
  replace hb := hb.trans (hn.mono hb.size)
  refine hK.out _ _ (up_iff.2 hb) ?_
  clear hK K
  clear hn
  refine wpS_nil ?_
  simp only [List.drop_succ_cons, List.drop_zero]
  first | refine calls_w ?_ | refine name_world ?_ | refine list_world ?_ | refine post_world ?_
  intro U10 hU10
  first | (subst hU10; have u_ := U10; clear u_) | (rw [← hU10] at hb; clear hU10)
  clear c1_0 c1_1 c1_2 c1_3 c1_4 c1_5 c1_6 c1_7 c1_8 c1_9 c1_10 c1_11 l1 c2_0 c2_1 l2 c3_0 c3_1 l3
  have k1 := Kk1.out.of hb
  clear Kk1
  have k2 := Kk2.out.of hb
  clear Kk2
  have k3 := Kk3.out.of hb
  clear Kk3
  replace hb0 := hb0.trans (hb.mono hb0.size)
  clear hb
  go_wp2_with fail
  refine (p15awake_any _).mono ?_
  rintro e U11 ⟨rfl, hn⟩
  clear k1 k2 k3
  replace hb0 := hb0.trans (hn.mono hb0.size)
  clear hn
  go_wp2
  first | go_ret | go_ret2
  exact ⟨by first | rfl | (simp; done) | (simp; assumption), hb0⟩
end Go.Proofs.Ytlcbomjdbdgbmaa

namespace Go.Proofs.Ytlcbomjdbdgbmaa
open Go.RowKit

/-- the spots that are right, in numbers -/
theorem sp_most {v : Int} (h0 : 0 < v) (h1 : v ≤ 1237940039285380274899124224) : mulv v 2199023255552 = 2199023255552 * v ∧ subv 0 (2199023255552 * v) = -(2199023255552 * v) := by
  refine ⟨?_, ?_⟩
  · rw [mulv_id (by unfold InI b255; omega)]; omega
  · rw [subv_id (by unfold InI b255; omega)]; omega
theorem most90 : mulv 35184372088832 35184372088832 = 1237940039285380274899124224 := by decide
theorem spR_eq (x y v : Int) : spR x y v = rspR x y v := by
  unfold spR rspR
  rw [most90]
  by_cases h0 : v.sign ≤ 0
  · rw [decide_eq_true h0]; rfl
  · rw [decide_eq_false h0]
    by_cases h1 : 0 < cmpI v 1237940039285380274899124224
    · rw [decide_eq_true h1]; rfl
    · rw [decide_eq_false h1]
      have p0 : 0 < v := by
        rcases Int.lt_trichotomy v 0 with h | h | h
        · exact absurd (by rw [Int.sign_eq_neg_one_of_neg h]; decide) h0
        · exact absurd (by rw [h]; decide) h0
        · exact h
      have p1 : v ≤ 1237940039285380274899124224 := by
        rcases Int.lt_trichotomy v 1237940039285380274899124224 with h | h | h
        · omega
        · omega
        · exact absurd (by rw [cmpI_gt h]; decide) h1
      obtain ⟨e1, e2⟩ := sp_most p0 p1
      rw [e1, e2]
theorem cmp_le0 {a b : Int} : decide (cmpI a b ≤ 0) = decide (a ≤ b) := by
  rcases Int.lt_trichotomy a b with h | h | h
  · rw [cmpI_lt h, decide_eq_true (show a ≤ b by omega)]; rfl
  · subst h; rw [cmpI_eq, decide_eq_true (Int.le_refl a)]; rfl
  · rw [cmpI_gt h, decide_eq_false (show ¬ a ≤ b by omega)]; rfl
theorem cmp_ge0 {a b : Int} : decide (0 ≤ cmpI a b) = decide (b ≤ a) := by
  rcases Int.lt_trichotomy a b with h | h | h
  · rw [cmpI_lt h, decide_eq_false (show ¬ b ≤ a by omega)]; rfl
  · subst h; rw [cmpI_eq, decide_eq_true (Int.le_refl a)]; rfl
  · rw [cmpI_gt h, decide_eq_true (show b ≤ a by omega)]; rfl
theorem cmp_gt0 {a b : Int} : decide (0 < cmpI a b) = decide (b < a) := by
  rcases Int.lt_trichotomy a b with h | h | h
  · rw [cmpI_lt h, decide_eq_false (show ¬ b < a by omega)]; rfl
  · subst h; rw [cmpI_eq, decide_eq_false (show ¬ a < a by omega)]; rfl
  · rw [cmpI_gt h, decide_eq_true h]; rfl
theorem cmp_lt0 {a b : Int} : decide (cmpI a b < 0) = decide (a < b) := by
  rcases Int.lt_trichotomy a b with h | h | h
  · rw [cmpI_lt h, decide_eq_true h]; rfl
  · subst h; rw [cmpI_eq, decide_eq_false (show ¬ a < a by omega)]; rfl
  · rw [cmpI_gt h, decide_eq_false (show ¬ a < b by omega)]; rfl
theorem sign_le0 {x : Int} : decide (x.sign ≤ 0) = decide (x ≤ 0) := by rw [← cmpI_sign, cmp_le0]
structure SpOk (x y v : Int) : Prop where
  v0 : 0 < v
  v1 : v ≤ 1237940039285380274899124224
  x0 : -(2199023255552 * v) ≤ x
  x1 : x ≤ 2199023255552 * v
  y0 : -(2199023255552 * v) ≤ y
  y1 : y ≤ 2199023255552 * v
theorem sp_ok {x y v : Int} (h : rspR x y v = true) : SpOk x y v := by
  unfold rspR at h
  rw [sign_le0, cmp_gt0, cmp_ge0, cmp_le0, cmp_ge0, cmp_le0] at h
  by_cases h0 : v ≤ 0
  · rw [decide_eq_true h0] at h; cases h
  · rw [decide_eq_false h0] at h
    by_cases h1 : 1237940039285380274899124224 < v
    · rw [decide_eq_true h1] at h; cases h
    · rw [decide_eq_false h1] at h
      by_cases h2 : -(2199023255552 * v) ≤ x
      · by_cases h3 : x ≤ 2199023255552 * v
        · by_cases h4 : -(2199023255552 * v) ≤ y
          · rw [decide_eq_true h2, decide_eq_true h3, decide_eq_true h4] at h
            exact ⟨by omega, by omega, h2, h3, h4, of_decide_eq_true h⟩
          · rw [decide_eq_true h2, decide_eq_true h3, decide_eq_false h4] at h; cases h
        · rw [decide_eq_true h2, decide_eq_false h3] at h; cases h
      · rw [decide_eq_false h2] at h; cases h
end Go.Proofs.Ytlcbomjdbdgbmaa

