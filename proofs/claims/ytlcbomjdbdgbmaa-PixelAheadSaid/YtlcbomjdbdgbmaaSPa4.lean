/- My texts Px5, Px7, Px8, PxC, Px9, Bs8, AwC, PxW, PxX, AwE, PxG, BsG, RegI, AwU, PxL5, joined: what the last one needs of them. Conditions: as each lemma says. -/
import Derived.Test.YtlcbomjdbdgbmaaSPa3
import Derived.KernelRfl
import Derived.StillTail
import Derived.OrdersHeld
import Derived.Deep.Quiet
import Derived.Below
import Derived.WalkKit
import Derived.Test.YtlcbomjdbdgbmaaProg
import Derived.WalkSpells
import Derived.StillTactics
import Derived.Laws.Pointers
import Derived.Deep.RegionHeld3
import Derived.RowKit3
import Derived.Deep.QuietTactic
import Derived.BigQuiet
import Derived.BigRegion
import Derived.Lib.Hide
import Derived.WalkSmall
import Derived.Laws.BitsAllLaws
import Derived.IntWalk
import Derived.Deep.OwnRows
import Derived.Deep.LoopGhost
import Derived.Shelf.Bits.Mul64
import Derived.Deep.WholeRow
import Derived.Laws.Rows
import Derived.ProofKit
import Derived.OpenShut
import Derived.ShutString
import Derived.ChangeOld
import Derived.Lib.SmallJoins
import Derived.Laws.IdiomArrays
namespace Go.Proofs.Ytlcbomjdbdgbmaa
open Go.RowKit

set_option maxRecDepth 100000 in
set_option maxHeartbeats 4000000 in

theorem pxCut_0 (ax : Int) (ay : Int) (bx : Int) (b_y : Int) (cx : Int) (cy : Int) (n : Int)  (R0 : Int) (R1 : Int) (R2 : Int) (R3 : Int) (R4 : Bool) (R5 : Bool) (R6 : Bool) (hR0 : (fun (_ : Int) (_ : Int) (_ : Int) (_ : Int) (_ : Int) (_ : Int) (_ : Int) => 0) ax ay bx b_y cx cy n = R0) (hR1 : (fun (_ : Int) (_ : Int) (_ : Int) (_ : Int) (_ : Int) (_ : Int) (_ : Int) => 0) ax ay bx b_y cx cy n = R1) (hR2 : (fun (_ : Int) (_ : Int) (_ : Int) (_ : Int) (_ : Int) (_ : Int) (_ : Int) => 0) ax ay bx b_y cx cy n = R2) (hR3 : (fun (_ : Int) (_ : Int) (_ : Int) (_ : Int) (_ : Int) (_ : Int) (_ : Int) => 0) ax ay bx b_y cx cy n = R3) (hR4 : (fun (_ : Int) (_ : Int) (_ : Int) (_ : Int) (_ : Int) (_ : Int) (_ : Int) => false) ax ay bx b_y cx cy n = R4) (hR5 : (fun (_ : Int) (_ : Int) (_ : Int) (_ : Int) (_ : Int) (_ : Int) (_ : Int) => false) ax ay bx b_y cx cy n = R5) (hR6 : (fun (_ : Int) (_ : Int) (_ : Int) (_ : Int) (_ : Int) (_ : Int) (_ : Int) => false) ax ay bx b_y cx cy n = R6) (hP0 : pxS n = false) (_iax : In64 ax) (_iay : In64 ay) (_ibx : In64 bx) (_ib_y : In64 b_y) (_icx : In64 cx) (_icy : In64 cy) (_in : In64 n)  (w : World)  :
    Calls Try.prog 30 #[.agg #[.int .i64 ax, .int .i64 ay, .int .i64 bx, .int .i64 b_y], .agg #[.int .i64 cx, .int .i64 cy], .int .i64 n] w fun e w' => e = .returned (.tuple #[.agg #[.int .u64 (wd0 R0), .int .u64 (wd1 R0), .int .u64 (wd2 R0), .int .u64 (wd3 R0), .int .u64 (wd0 R1), .int .u64 (wd1 R1), .int .u64 (wd2 R1), .int .u64 (wd3 R1), .int .u64 (wd0 R2), .int .u64 (wd1 R2), .int .u64 (wd2 R2), .int .u64 (wd3 R2), .int .u64 (wd0 R3), .int .u64 (wd1 R3), .int .u64 (wd2 R3), .int .u64 (wd3 R3), .bool R4, .bool R5], .bool R6]) ∧ Below w.heap.size w w' := by

  have HP0 := Lib.hid hP0
  clear hP0
  have HR0 := Lib.hid hR0
  clear hR0
  have HR1 := Lib.hid hR1
  clear hR1
  have HR2 := Lib.hid hR2
  clear hR2
  have HR3 := Lib.hid hR3
  clear hR3
  have HR4 := Lib.hid hR4
  clear hR4
  have HR5 := Lib.hid hR5
  clear hR5
  have HR6 := Lib.hid hR6
  clear hR6
  go_enter Try.func30, Try.ntmps30
  go_wp2_with fail
  first | refine calls_w ?_ | refine name_world ?_ | refine list_world ?_ | refine post_world ?_
  intro V1 hV1
  have hn : Below w.heap.size w V1 := by rw [hV1]; exact below_a3 _ _ _ _
  have nhb0 := hn
  have k1 : Blk V1 w.heap.size #[.int .i64 ax, .int .i64 ay, .int .i64 bx, .int .i64 b_y] 50 := by rw [hV1]; exact (((Blk.new _ _ _).alloc _).alloc _)
  have k2 : Blk V1 (w.heap.size + 1) #[.int .i64 cx, .int .i64 cy] 24 := by rw [hV1]; exact ((Blk.new1 _ _ _ _).alloc _)
  have k3 : Blk V1 (w.heap.size + 1 + 1) #[.int .u64 0, .int .u64 0, .int .u64 0, .int .u64 0, .int .u64 0, .int .u64 0, .int .u64 0, .int .u64 0, .int .u64 0, .int .u64 0, .int .u64 0, .int .u64 0, .int .u64 0, .int .u64 0, .int .u64 0, .int .u64 0, .bool false, .bool false] 54 := by rw [hV1]; exact (Blk.new2 _ _ _ _ _)
  clear hV1
  have hb0 := nhb0
  clear nhb0
  refine (pxSize_is n false HP0.out _in  _).mono ?_
  rintro e U2 ⟨rfl, hn⟩
  replace k1 := k1.of hn
  replace k2 := k2.of hn
  replace k3 := k3.of hn
  replace hb0 := hb0.trans (hn.mono hb0.size)
  clear hn
  have e0 : 0 = R0 := by rw [← HR0.out]; (try rw [HP0.out]); all_goals first | rfl | simp
  have e1 : 0 = R1 := by rw [← HR1.out]; (try rw [HP0.out]); all_goals first | rfl | simp
  have e2 : 0 = R2 := by rw [← HR2.out]; (try rw [HP0.out]); all_goals first | rfl | simp
  have e3 : 0 = R3 := by rw [← HR3.out]; (try rw [HP0.out]); all_goals first | rfl | simp
  have e4 : false = R4 := by rw [← HR4.out]; (try rw [HP0.out]); all_goals first | rfl | simp
  have e5 : false = R5 := by rw [← HR5.out]; (try rw [HP0.out]); all_goals first | rfl | simp
  have e6 : false = R6 := by rw [← HR6.out]; (try rw [HP0.out]); all_goals first | rfl | simp
  subst e0
  subst e1
  subst e2
  subst e3
  subst e4
  subst e5
  subst e6
  go_wp2_with (first | ((with_reducible refine stRow (w.heap.size + 1 + 1) #[.int .u64 0, .int .u64 0, .int .u64 0, .int .u64 0, .int .u64 0, .int .u64 0, .int .u64 0, .int .u64 0, .int .u64 0, .int .u64 0, .int .u64 0, .int .u64 0, .int .u64 0, .int .u64 0, .int .u64 0, .int .u64 0, .bool false, .bool false] _ _ k3 ?_ ?_ ?_ ?_ ?_ ?_); rfl; rfl; (as_aux_lemma => kernel_rfl); rfl; (as_aux_lemma => kernel_rfl); simp only [Act.put]))
  first | refine post_world ?_
  intro V3 hV3
  have D1 := Lib.hid k1.lt
  have D2 := Lib.hid k2.lt
  have D3 := Lib.hid k3.lt
  have D4 := Lib.hid hb0.size
  clear k1 k2
  have nk3 : Blk V3 (w.heap.size + 1 + 1) #[.int .u64 0, .int .u64 0, .int .u64 0, .int .u64 0, .int .u64 0, .int .u64 0, .int .u64 0, .int .u64 0, .int .u64 0, .int .u64 0, .int .u64 0, .int .u64 0, .int .u64 0, .int .u64 0, .int .u64 0, .int .u64 0, .bool false, .bool false] 54 := by rw [hV3]; exact blk_row k3 _
  have nhb0 : Below w.heap.size w V3 := by rw [hV3]; exact blw_row hb0 (by omega) _
  clear k3
  clear hb0
  clear hV3
  have k3 := nk3
  clear nk3
  have hb0 := nhb0
  clear nhb0
  refine ⟨rfl, _, results_row_tmp rfl _ _ _ _ _ _ _ rfl k3 rfl rfl (by as_aux_lemma => kernel_rfl), ?_, hb0⟩
  first | rfl | kernel_rfl

set_option maxRecDepth 100000 in
set_option maxHeartbeats 4000000 in

theorem pxCut_1 (ax : Int) (ay : Int) (bx : Int) (b_y : Int) (cx : Int) (cy : Int) (n : Int)  (R0 : Int) (R1 : Int) (R2 : Int) (R3 : Int) (R4 : Bool) (R5 : Bool) (R6 : Bool) (hR0 : (fun (_ : Int) (_ : Int) (_ : Int) (_ : Int) (_ : Int) (_ : Int) (_ : Int) => 0) ax ay bx b_y cx cy n = R0) (hR1 : (fun (_ : Int) (_ : Int) (_ : Int) (_ : Int) (_ : Int) (_ : Int) (_ : Int) => 0) ax ay bx b_y cx cy n = R1) (hR2 : (fun (_ : Int) (_ : Int) (_ : Int) (_ : Int) (_ : Int) (_ : Int) (_ : Int) => 0) ax ay bx b_y cx cy n = R2) (hR3 : (fun (_ : Int) (_ : Int) (_ : Int) (_ : Int) (_ : Int) (_ : Int) (_ : Int) => 0) ax ay bx b_y cx cy n = R3) (hR4 : (fun (_ : Int) (_ : Int) (_ : Int) (_ : Int) (_ : Int) (_ : Int) (_ : Int) => false) ax ay bx b_y cx cy n = R4) (hR5 : (fun (_ : Int) (_ : Int) (_ : Int) (_ : Int) (_ : Int) (_ : Int) (_ : Int) => false) ax ay bx b_y cx cy n = R5) (hR6 : (fun (_ : Int) (_ : Int) (_ : Int) (_ : Int) (_ : Int) (_ : Int) (_ : Int) => false) ax ay bx b_y cx cy n = R6) (hP0 : pxS n = true) (hP1 : sgR ax ay bx b_y = false) (_iax : In64 ax) (_iay : In64 ay) (_ibx : In64 bx) (_ib_y : In64 b_y) (_icx : In64 cx) (_icy : In64 cy) (_in : In64 n)  (w : World)  :
    Calls Try.prog 30 #[.agg #[.int .i64 ax, .int .i64 ay, .int .i64 bx, .int .i64 b_y], .agg #[.int .i64 cx, .int .i64 cy], .int .i64 n] w fun e w' => e = .returned (.tuple #[.agg #[.int .u64 (wd0 R0), .int .u64 (wd1 R0), .int .u64 (wd2 R0), .int .u64 (wd3 R0), .int .u64 (wd0 R1), .int .u64 (wd1 R1), .int .u64 (wd2 R1), .int .u64 (wd3 R1), .int .u64 (wd0 R2), .int .u64 (wd1 R2), .int .u64 (wd2 R2), .int .u64 (wd3 R2), .int .u64 (wd0 R3), .int .u64 (wd1 R3), .int .u64 (wd2 R3), .int .u64 (wd3 R3), .bool R4, .bool R5], .bool R6]) ∧ Below w.heap.size w w' := by

  have HP0 := Lib.hid hP0
  clear hP0
  have HP1 := Lib.hid hP1
  clear hP1
  have HR0 := Lib.hid hR0
  clear hR0
  have HR1 := Lib.hid hR1
  clear hR1
  have HR2 := Lib.hid hR2
  clear hR2
  have HR3 := Lib.hid hR3
  clear hR3
  have HR4 := Lib.hid hR4
  clear hR4
  have HR5 := Lib.hid hR5
  clear hR5
  have HR6 := Lib.hid hR6
  clear hR6
  go_enter Try.func30, Try.ntmps30
  go_wp2_with fail
  first | refine calls_w ?_ | refine name_world ?_ | refine list_world ?_ | refine post_world ?_
  intro V1 hV1
  have hn : Below w.heap.size w V1 := by rw [hV1]; exact below_a3 _ _ _ _
  have nhb0 := hn
  have k1 : Blk V1 w.heap.size #[.int .i64 ax, .int .i64 ay, .int .i64 bx, .int .i64 b_y] 50 := by rw [hV1]; exact (((Blk.new _ _ _).alloc _).alloc _)
  have k2 : Blk V1 (w.heap.size + 1) #[.int .i64 cx, .int .i64 cy] 24 := by rw [hV1]; exact ((Blk.new1 _ _ _ _).alloc _)
  have k3 : Blk V1 (w.heap.size + 1 + 1) #[.int .u64 0, .int .u64 0, .int .u64 0, .int .u64 0, .int .u64 0, .int .u64 0, .int .u64 0, .int .u64 0, .int .u64 0, .int .u64 0, .int .u64 0, .int .u64 0, .int .u64 0, .int .u64 0, .int .u64 0, .int .u64 0, .bool false, .bool false] 54 := by rw [hV1]; exact (Blk.new2 _ _ _ _ _)
  clear hV1
  have hb0 := nhb0
  clear nhb0
  refine (pxSize_is n true HP0.out _in  _).mono ?_
  rintro e U2 ⟨rfl, hn⟩
  replace k1 := k1.of hn
  replace k2 := k2.of hn
  replace k3 := k3.of hn
  replace hb0 := hb0.trans (hn.mono hb0.size)
  clear hn
  have c1_0 : U2.cell? ⟨w.heap.size, 0, none⟩ = some (.int .i64 ax) := k1.cell 0
  have c1_1 : U2.cell? ⟨w.heap.size, 1, none⟩ = some (.int .i64 ay) := k1.cell 1
  have c1_2 : U2.cell? ⟨w.heap.size, 2, none⟩ = some (.int .i64 bx) := k1.cell 2
  have c1_3 : U2.cell? ⟨w.heap.size, 3, none⟩ = some (.int .i64 b_y) := k1.cell 3
  have l1 := k1.lt
  go_wp2_with fail
  clear c1_0 c1_1 c1_2 c1_3 l1
  refine (SegRight_is ax ay bx b_y false HP1.out _iax _iay _ibx _ib_y  _).mono ?_
  rintro e U3 ⟨rfl, hn⟩
  replace k1 := k1.of hn
  replace k2 := k2.of hn
  replace k3 := k3.of hn
  replace hb0 := hb0.trans (hn.mono hb0.size)
  clear hn
  have e0 : 0 = R0 := by rw [← HR0.out]; (try rw [HP0.out]); (try rw [HP1.out]); all_goals first | rfl | simp
  have e1 : 0 = R1 := by rw [← HR1.out]; (try rw [HP0.out]); (try rw [HP1.out]); all_goals first | rfl | simp
  have e2 : 0 = R2 := by rw [← HR2.out]; (try rw [HP0.out]); (try rw [HP1.out]); all_goals first | rfl | simp
  have e3 : 0 = R3 := by rw [← HR3.out]; (try rw [HP0.out]); (try rw [HP1.out]); all_goals first | rfl | simp
  have e4 : false = R4 := by rw [← HR4.out]; (try rw [HP0.out]); (try rw [HP1.out]); all_goals first | rfl | simp
  have e5 : false = R5 := by rw [← HR5.out]; (try rw [HP0.out]); (try rw [HP1.out]); all_goals first | rfl | simp
  have e6 : false = R6 := by rw [← HR6.out]; (try rw [HP0.out]); (try rw [HP1.out]); all_goals first | rfl | simp
  subst e0
  subst e1
  subst e2
  subst e3
  subst e4
  subst e5
  subst e6
  go_wp2_with (first | ((with_reducible refine stRow (w.heap.size + 1 + 1) #[.int .u64 0, .int .u64 0, .int .u64 0, .int .u64 0, .int .u64 0, .int .u64 0, .int .u64 0, .int .u64 0, .int .u64 0, .int .u64 0, .int .u64 0, .int .u64 0, .int .u64 0, .int .u64 0, .int .u64 0, .int .u64 0, .bool false, .bool false] _ _ k3 ?_ ?_ ?_ ?_ ?_ ?_); rfl; rfl; (as_aux_lemma => kernel_rfl); rfl; (as_aux_lemma => kernel_rfl); simp only [Act.put]))
  first | refine post_world ?_
  intro V4 hV4
  have D1 := Lib.hid k1.lt
  have D2 := Lib.hid k2.lt
  have D3 := Lib.hid k3.lt
  have D4 := Lib.hid hb0.size
  clear k1 k2
  have nk3 : Blk V4 (w.heap.size + 1 + 1) #[.int .u64 0, .int .u64 0, .int .u64 0, .int .u64 0, .int .u64 0, .int .u64 0, .int .u64 0, .int .u64 0, .int .u64 0, .int .u64 0, .int .u64 0, .int .u64 0, .int .u64 0, .int .u64 0, .int .u64 0, .int .u64 0, .bool false, .bool false] 54 := by rw [hV4]; exact blk_row k3 _
  have nhb0 : Below w.heap.size w V4 := by rw [hV4]; exact blw_row hb0 (by omega) _
  clear k3
  clear hb0
  clear hV4
  have k3 := nk3
  clear nk3
  have hb0 := nhb0
  clear nhb0
  refine ⟨rfl, _, results_row_tmp rfl _ _ _ _ _ _ _ rfl k3 rfl rfl (by as_aux_lemma => kernel_rfl), ?_, hb0⟩
  first | rfl | kernel_rfl

set_option maxRecDepth 100000 in
set_option maxHeartbeats 4000000 in

theorem pxCut_2 (ax : Int) (ay : Int) (bx : Int) (b_y : Int) (cx : Int) (cy : Int) (n : Int)  (R0 : Int) (R1 : Int) (R2 : Int) (R3 : Int) (R4 : Bool) (R5 : Bool) (R6 : Bool) (hR0 : (fun (_ : Int) (_ : Int) (_ : Int) (_ : Int) (_ : Int) (_ : Int) (_ : Int) => 0) ax ay bx b_y cx cy n = R0) (hR1 : (fun (_ : Int) (_ : Int) (_ : Int) (_ : Int) (_ : Int) (_ : Int) (_ : Int) => 0) ax ay bx b_y cx cy n = R1) (hR2 : (fun (_ : Int) (_ : Int) (_ : Int) (_ : Int) (_ : Int) (_ : Int) (_ : Int) => 0) ax ay bx b_y cx cy n = R2) (hR3 : (fun (_ : Int) (_ : Int) (_ : Int) (_ : Int) (_ : Int) (_ : Int) (_ : Int) => 0) ax ay bx b_y cx cy n = R3) (hR4 : (fun (_ : Int) (_ : Int) (_ : Int) (_ : Int) (_ : Int) (_ : Int) (_ : Int) => false) ax ay bx b_y cx cy n = R4) (hR5 : (fun (_ : Int) (_ : Int) (_ : Int) (_ : Int) (_ : Int) (_ : Int) (_ : Int) => false) ax ay bx b_y cx cy n = R5) (hR6 : (fun (_ : Int) (_ : Int) (_ : Int) (_ : Int) (_ : Int) (_ : Int) (_ : Int) => false) ax ay bx b_y cx cy n = R6) (hP0 : pxS n = true) (hP1 : sgR ax ay bx b_y = true) (hP2 : rp cx cy = false) (_iax : In64 ax) (_iay : In64 ay) (_ibx : In64 bx) (_ib_y : In64 b_y) (_icx : In64 cx) (_icy : In64 cy) (_in : In64 n)  (w : World)  :
    Calls Try.prog 30 #[.agg #[.int .i64 ax, .int .i64 ay, .int .i64 bx, .int .i64 b_y], .agg #[.int .i64 cx, .int .i64 cy], .int .i64 n] w fun e w' => e = .returned (.tuple #[.agg #[.int .u64 (wd0 R0), .int .u64 (wd1 R0), .int .u64 (wd2 R0), .int .u64 (wd3 R0), .int .u64 (wd0 R1), .int .u64 (wd1 R1), .int .u64 (wd2 R1), .int .u64 (wd3 R1), .int .u64 (wd0 R2), .int .u64 (wd1 R2), .int .u64 (wd2 R2), .int .u64 (wd3 R2), .int .u64 (wd0 R3), .int .u64 (wd1 R3), .int .u64 (wd2 R3), .int .u64 (wd3 R3), .bool R4, .bool R5], .bool R6]) ∧ Below w.heap.size w w' := by

  have HP0 := Lib.hid hP0
  clear hP0
  have HP1 := Lib.hid hP1
  clear hP1
  have HP2 := Lib.hid hP2
  clear hP2
  have HR0 := Lib.hid hR0
  clear hR0
  have HR1 := Lib.hid hR1
  clear hR1
  have HR2 := Lib.hid hR2
  clear hR2
  have HR3 := Lib.hid hR3
  clear hR3
  have HR4 := Lib.hid hR4
  clear hR4
  have HR5 := Lib.hid hR5
  clear hR5
  have HR6 := Lib.hid hR6
  clear hR6
  go_enter Try.func30, Try.ntmps30
  go_wp2_with fail
  first | refine calls_w ?_ | refine name_world ?_ | refine list_world ?_ | refine post_world ?_
  intro V1 hV1
  have hn : Below w.heap.size w V1 := by rw [hV1]; exact below_a3 _ _ _ _
  have nhb0 := hn
  have k1 : Blk V1 w.heap.size #[.int .i64 ax, .int .i64 ay, .int .i64 bx, .int .i64 b_y] 50 := by rw [hV1]; exact (((Blk.new _ _ _).alloc _).alloc _)
  have k2 : Blk V1 (w.heap.size + 1) #[.int .i64 cx, .int .i64 cy] 24 := by rw [hV1]; exact ((Blk.new1 _ _ _ _).alloc _)
  have k3 : Blk V1 (w.heap.size + 1 + 1) #[.int .u64 0, .int .u64 0, .int .u64 0, .int .u64 0, .int .u64 0, .int .u64 0, .int .u64 0, .int .u64 0, .int .u64 0, .int .u64 0, .int .u64 0, .int .u64 0, .int .u64 0, .int .u64 0, .int .u64 0, .int .u64 0, .bool false, .bool false] 54 := by rw [hV1]; exact (Blk.new2 _ _ _ _ _)
  clear hV1
  have hb0 := nhb0
  clear nhb0
  refine (pxSize_is n true HP0.out _in  _).mono ?_
  rintro e U2 ⟨rfl, hn⟩
  replace k1 := k1.of hn
  replace k2 := k2.of hn
  replace k3 := k3.of hn
  replace hb0 := hb0.trans (hn.mono hb0.size)
  clear hn
  have c1_0 : U2.cell? ⟨w.heap.size, 0, none⟩ = some (.int .i64 ax) := k1.cell 0
  have c1_1 : U2.cell? ⟨w.heap.size, 1, none⟩ = some (.int .i64 ay) := k1.cell 1
  have c1_2 : U2.cell? ⟨w.heap.size, 2, none⟩ = some (.int .i64 bx) := k1.cell 2
  have c1_3 : U2.cell? ⟨w.heap.size, 3, none⟩ = some (.int .i64 b_y) := k1.cell 3
  have l1 := k1.lt
  go_wp2_with fail
  clear c1_0 c1_1 c1_2 c1_3 l1
  refine (SegRight_is ax ay bx b_y true HP1.out _iax _iay _ibx _ib_y  _).mono ?_
  rintro e U3 ⟨rfl, hn⟩
  replace k1 := k1.of hn
  replace k2 := k2.of hn
  replace k3 := k3.of hn
  replace hb0 := hb0.trans (hn.mono hb0.size)
  clear hn
  have c2_0 : U3.cell? ⟨(w.heap.size + 1), 0, none⟩ = some (.int .i64 cx) := k2.cell 0
  have c2_1 : U3.cell? ⟨(w.heap.size + 1), 1, none⟩ = some (.int .i64 cy) := k2.cell 1
  have l2 := k2.lt
  go_wp2_with fail
  clear c2_0 c2_1 l2
  refine (PtRight_v cx cy false HP2.out _).mono ?_
  rintro e U4 ⟨rfl, hn⟩
  replace k1 := k1.of hn
  replace k2 := k2.of hn
  replace k3 := k3.of hn
  replace hb0 := hb0.trans (hn.mono hb0.size)
  clear hn
  have e0 : 0 = R0 := by rw [← HR0.out]; (try rw [HP0.out]); (try rw [HP1.out]); (try rw [HP2.out]); all_goals first | rfl | simp
  have e1 : 0 = R1 := by rw [← HR1.out]; (try rw [HP0.out]); (try rw [HP1.out]); (try rw [HP2.out]); all_goals first | rfl | simp
  have e2 : 0 = R2 := by rw [← HR2.out]; (try rw [HP0.out]); (try rw [HP1.out]); (try rw [HP2.out]); all_goals first | rfl | simp
  have e3 : 0 = R3 := by rw [← HR3.out]; (try rw [HP0.out]); (try rw [HP1.out]); (try rw [HP2.out]); all_goals first | rfl | simp
  have e4 : false = R4 := by rw [← HR4.out]; (try rw [HP0.out]); (try rw [HP1.out]); (try rw [HP2.out]); all_goals first | rfl | simp
  have e5 : false = R5 := by rw [← HR5.out]; (try rw [HP0.out]); (try rw [HP1.out]); (try rw [HP2.out]); all_goals first | rfl | simp
  have e6 : false = R6 := by rw [← HR6.out]; (try rw [HP0.out]); (try rw [HP1.out]); (try rw [HP2.out]); all_goals first | rfl | simp
  subst e0
  subst e1
  subst e2
  subst e3
  subst e4
  subst e5
  subst e6
  go_wp2_with (first | ((with_reducible refine stRow (w.heap.size + 1 + 1) #[.int .u64 0, .int .u64 0, .int .u64 0, .int .u64 0, .int .u64 0, .int .u64 0, .int .u64 0, .int .u64 0, .int .u64 0, .int .u64 0, .int .u64 0, .int .u64 0, .int .u64 0, .int .u64 0, .int .u64 0, .int .u64 0, .bool false, .bool false] _ _ k3 ?_ ?_ ?_ ?_ ?_ ?_); rfl; rfl; (as_aux_lemma => kernel_rfl); rfl; (as_aux_lemma => kernel_rfl); simp only [Act.put]))
  first | refine post_world ?_
  intro V5 hV5
  have D1 := Lib.hid k1.lt
  have D2 := Lib.hid k2.lt
  have D3 := Lib.hid k3.lt
  have D4 := Lib.hid hb0.size
  clear k1 k2
  have nk3 : Blk V5 (w.heap.size + 1 + 1) #[.int .u64 0, .int .u64 0, .int .u64 0, .int .u64 0, .int .u64 0, .int .u64 0, .int .u64 0, .int .u64 0, .int .u64 0, .int .u64 0, .int .u64 0, .int .u64 0, .int .u64 0, .int .u64 0, .int .u64 0, .int .u64 0, .bool false, .bool false] 54 := by rw [hV5]; exact blk_row k3 _
  have nhb0 : Below w.heap.size w V5 := by rw [hV5]; exact blw_row hb0 (by omega) _
  clear k3
  clear hb0
  clear hV5
  have k3 := nk3
  clear nk3
  have hb0 := nhb0
  clear nhb0
  refine ⟨rfl, _, results_row_tmp rfl _ _ _ _ _ _ _ rfl k3 rfl rfl (by as_aux_lemma => kernel_rfl), ?_, hb0⟩
  first | rfl | kernel_rfl
end Go.Proofs.Ytlcbomjdbdgbmaa

namespace Go.Proofs.Ytlcbomjdbdgbmaa
open Go.RowKit

set_option maxRecDepth 100000 in
set_option maxHeartbeats 4000000 in

theorem pxCut_3 (ax : Int) (ay : Int) (bx : Int) (b_y : Int) (cx : Int) (cy : Int) (n : Int) (pfn : Int) (pfd : Int) (ptn : Int) (ptd : Int) (pfo : Bool) (pto : Bool) (R0 : Int) (R1 : Int) (R2 : Int) (R3 : Int) (R4 : Bool) (R5 : Bool) (R6 : Bool) (hR0 : (fun (_ : Int) (_ : Int) (_ : Int) (_ : Int) (_ : Int) (_ : Int) (_ : Int) => 0) ax ay bx b_y cx cy n = R0) (hR1 : (fun (_ : Int) (_ : Int) (_ : Int) (_ : Int) (_ : Int) (_ : Int) (_ : Int) => 0) ax ay bx b_y cx cy n = R1) (hR2 : (fun (_ : Int) (_ : Int) (_ : Int) (_ : Int) (_ : Int) (_ : Int) (_ : Int) => 0) ax ay bx b_y cx cy n = R2) (hR3 : (fun (_ : Int) (_ : Int) (_ : Int) (_ : Int) (_ : Int) (_ : Int) (_ : Int) => 0) ax ay bx b_y cx cy n = R3) (hR4 : (fun (_ : Int) (_ : Int) (_ : Int) (_ : Int) (_ : Int) (_ : Int) (_ : Int) => false) ax ay bx b_y cx cy n = R4) (hR5 : (fun (_ : Int) (_ : Int) (_ : Int) (_ : Int) (_ : Int) (_ : Int) (_ : Int) => false) ax ay bx b_y cx cy n = R5) (hR6 : (fun (_ : Int) (_ : Int) (_ : Int) (_ : Int) (_ : Int) (_ : Int) (_ : Int) => false) ax ay bx b_y cx cy n = R6) (hP0 : pxS n = true) (hP1 : sgR ax ay bx b_y = true) (hP2 : rp cx cy = true) (hP3 : rtOn 0 = 0) (hP4 : rtOd 0 = 1) (hP5 : rtOn 1 = 1) (hP6 : rtOd 1 = 1) (hP7 : bak 0 1 1 1 false false ax (wrap64 (bx - ax)) (wrap64 ((wrap64 ((wrap64 (2 * cx)) * n)) - n)) (wrap64 ((wrap64 ((wrap64 (2 * cx)) * n)) + n)) = false) (hP8 : bafn 0 1 1 1 false false ax (wrap64 (bx - ax)) (wrap64 ((wrap64 ((wrap64 (2 * cx)) * n)) - n)) (wrap64 ((wrap64 ((wrap64 (2 * cx)) * n)) + n)) = pfn) (hP9 : bafd 0 1 1 1 false false ax (wrap64 (bx - ax)) (wrap64 ((wrap64 ((wrap64 (2 * cx)) * n)) - n)) (wrap64 ((wrap64 ((wrap64 (2 * cx)) * n)) + n)) = pfd) (hP10 : batn 0 1 1 1 false false ax (wrap64 (bx - ax)) (wrap64 ((wrap64 ((wrap64 (2 * cx)) * n)) - n)) (wrap64 ((wrap64 ((wrap64 (2 * cx)) * n)) + n)) = ptn) (hP11 : batd 0 1 1 1 false false ax (wrap64 (bx - ax)) (wrap64 ((wrap64 ((wrap64 (2 * cx)) * n)) - n)) (wrap64 ((wrap64 ((wrap64 (2 * cx)) * n)) + n)) = ptd) (hP12 : bafo 0 1 1 1 false false ax (wrap64 (bx - ax)) (wrap64 ((wrap64 ((wrap64 (2 * cx)) * n)) - n)) (wrap64 ((wrap64 ((wrap64 (2 * cx)) * n)) + n)) = pfo) (hP13 : bato 0 1 1 1 false false ax (wrap64 (bx - ax)) (wrap64 ((wrap64 ((wrap64 (2 * cx)) * n)) - n)) (wrap64 ((wrap64 ((wrap64 (2 * cx)) * n)) + n)) = pto) (_ipfn : InI pfn) (_ipfd : InI pfd) (_iptn : InI ptn) (_iptd : InI ptd) (_iax : In64 ax) (_iay : In64 ay) (_ibx : In64 bx) (_ib_y : In64 b_y) (_icx : In64 cx) (_icy : In64 cy) (_in : In64 n)  (w : World)  :
    Calls Try.prog 30 #[.agg #[.int .i64 ax, .int .i64 ay, .int .i64 bx, .int .i64 b_y], .agg #[.int .i64 cx, .int .i64 cy], .int .i64 n] w fun e w' => e = .returned (.tuple #[.agg #[.int .u64 (wd0 R0), .int .u64 (wd1 R0), .int .u64 (wd2 R0), .int .u64 (wd3 R0), .int .u64 (wd0 R1), .int .u64 (wd1 R1), .int .u64 (wd2 R1), .int .u64 (wd3 R1), .int .u64 (wd0 R2), .int .u64 (wd1 R2), .int .u64 (wd2 R2), .int .u64 (wd3 R2), .int .u64 (wd0 R3), .int .u64 (wd1 R3), .int .u64 (wd2 R3), .int .u64 (wd3 R3), .bool R4, .bool R5], .bool R6]) ∧ Below w.heap.size w w' := by

  have HP0 := Lib.hid hP0
  clear hP0
  have HP1 := Lib.hid hP1
  clear hP1
  have HP2 := Lib.hid hP2
  clear hP2
  have HP3 := Lib.hid hP3
  clear hP3
  have HP4 := Lib.hid hP4
  clear hP4
  have HP5 := Lib.hid hP5
  clear hP5
  have HP6 := Lib.hid hP6
  clear hP6
  have HP7 := Lib.hid hP7
  clear hP7
  have HP8 := Lib.hid hP8
  clear hP8
  have HP9 := Lib.hid hP9
  clear hP9
  have HP10 := Lib.hid hP10
  clear hP10
  have HP11 := Lib.hid hP11
  clear hP11
  have HP12 := Lib.hid hP12
  clear hP12
  have HP13 := Lib.hid hP13
  clear hP13
  have HR0 := Lib.hid hR0
  clear hR0
  have HR1 := Lib.hid hR1
  clear hR1
  have HR2 := Lib.hid hR2
  clear hR2
  have HR3 := Lib.hid hR3
  clear hR3
  have HR4 := Lib.hid hR4
  clear hR4
  have HR5 := Lib.hid hR5
  clear hR5
  have HR6 := Lib.hid hR6
  clear hR6
  go_enter Try.func30, Try.ntmps30
  go_wp2_with fail
  first | refine calls_w ?_ | refine name_world ?_ | refine list_world ?_ | refine post_world ?_
  intro V1 hV1
  have hn : Below w.heap.size w V1 := by rw [hV1]; exact below_a3 _ _ _ _
  have nhb0 := hn
  have k1 : Blk V1 w.heap.size #[.int .i64 ax, .int .i64 ay, .int .i64 bx, .int .i64 b_y] 50 := by rw [hV1]; exact (((Blk.new _ _ _).alloc _).alloc _)
  have k2 : Blk V1 (w.heap.size + 1) #[.int .i64 cx, .int .i64 cy] 24 := by rw [hV1]; exact ((Blk.new1 _ _ _ _).alloc _)
  have k3 : Blk V1 (w.heap.size + 1 + 1) #[.int .u64 0, .int .u64 0, .int .u64 0, .int .u64 0, .int .u64 0, .int .u64 0, .int .u64 0, .int .u64 0, .int .u64 0, .int .u64 0, .int .u64 0, .int .u64 0, .int .u64 0, .int .u64 0, .int .u64 0, .int .u64 0, .bool false, .bool false] 54 := by rw [hV1]; exact (Blk.new2 _ _ _ _ _)
  clear hV1
  have hb0 := nhb0
  clear nhb0
  refine (pxSize_is n true HP0.out _in  _).mono ?_
  rintro e U2 ⟨rfl, hn⟩
  replace k1 := k1.of hn
  replace k2 := k2.of hn
  replace k3 := k3.of hn
  replace hb0 := hb0.trans (hn.mono hb0.size)
  clear hn
  have c1_0 : U2.cell? ⟨w.heap.size, 0, none⟩ = some (.int .i64 ax) := k1.cell 0
  have c1_1 : U2.cell? ⟨w.heap.size, 1, none⟩ = some (.int .i64 ay) := k1.cell 1
  have c1_2 : U2.cell? ⟨w.heap.size, 2, none⟩ = some (.int .i64 bx) := k1.cell 2
  have c1_3 : U2.cell? ⟨w.heap.size, 3, none⟩ = some (.int .i64 b_y) := k1.cell 3
  have l1 := k1.lt
  go_wp2_with fail
  clear c1_0 c1_1 c1_2 c1_3 l1
  refine (SegRight_is ax ay bx b_y true HP1.out _iax _iay _ibx _ib_y  _).mono ?_
  rintro e U3 ⟨rfl, hn⟩
  replace k1 := k1.of hn
  replace k2 := k2.of hn
  replace k3 := k3.of hn
  replace hb0 := hb0.trans (hn.mono hb0.size)
  clear hn
  have c2_0 : U3.cell? ⟨(w.heap.size + 1), 0, none⟩ = some (.int .i64 cx) := k2.cell 0
  have c2_1 : U3.cell? ⟨(w.heap.size + 1), 1, none⟩ = some (.int .i64 cy) := k2.cell 1
  have l2 := k2.lt
  go_wp2_with fail
  clear c2_0 c2_1 l2
  refine (PtRight_v cx cy true HP2.out _).mono ?_
  rintro e U4 ⟨rfl, hn⟩
  replace k1 := k1.of hn
  replace k2 := k2.of hn
  replace k3 := k3.of hn
  replace hb0 := hb0.trans (hn.mono hb0.size)
  clear hn
  go_wp2_with fail
  refine (rtOf_is 0 0 1 HP3.out HP4.out (by unfold In64; omega)  _).mono ?_
  rintro e U5 ⟨rfl, hn⟩
  replace k1 := k1.of hn
  replace k2 := k2.of hn
  replace k3 := k3.of hn
  replace hb0 := hb0.trans (hn.mono hb0.size)
  clear hn
  go_wp2_with fail
  refine (rtOf_is 1 1 1 HP5.out HP6.out (by unfold In64; omega)  _).mono ?_
  rintro e U6 ⟨rfl, hn⟩
  replace k1 := k1.of hn
  replace k2 := k2.of hn
  replace k3 := k3.of hn
  replace hb0 := hb0.trans (hn.mono hb0.size)
  clear hn
  go_wp2_with (first | ((with_reducible refine stRow (U6.heap.size) #[.int .u64 (wd0 0), .int .u64 (wd1 0), .int .u64 (wd2 0), .int .u64 (wd3 0), .int .u64 (wd0 1), .int .u64 (wd1 1), .int .u64 (wd2 1), .int .u64 (wd3 1), .int .u64 (wd0 1), .int .u64 (wd1 1), .int .u64 (wd2 1), .int .u64 (wd3 1), .int .u64 (wd0 1), .int .u64 (wd1 1), .int .u64 (wd2 1), .int .u64 (wd3 1), .bool false, .bool false] _ _ (Blk.new _ _ _) ?_ ?_ ?_ ?_ ?_ ?_); rfl; rfl; (as_aux_lemma => kernel_rfl); rfl; (as_aux_lemma => kernel_rfl); simp only [Act.put]))
  first | refine calls_w ?_ | refine name_world ?_ | refine list_world ?_ | refine post_world ?_
  intro V7 hV7
  rw [World.setRow_alloc_new] at hV7
  have D1 := Lib.hid k1.lt
  have D2 := Lib.hid k2.lt
  have D3 := Lib.hid k3.lt
  have D4 := Lib.hid hb0.size
  have hn : Below U6.heap.size U6 V7 := by rw [hV7]; exact below_a1 _ _
  have nk1 := k1.of hn
  have nk2 := k2.of hn
  have nk3 := k3.of hn
  have nhb0 := hb0.trans (hn.mono hb0.size)
  clear hn
  have k4 : Blk V7 U6.heap.size #[.int .u64 (wd0 0), .int .u64 (wd1 0), .int .u64 (wd2 0), .int .u64 (wd3 0), .int .u64 (wd0 1), .int .u64 (wd1 1), .int .u64 (wd2 1), .int .u64 (wd3 1), .int .u64 (wd0 1), .int .u64 (wd1 1), .int .u64 (wd2 1), .int .u64 (wd3 1), .int .u64 (wd0 1), .int .u64 (wd1 1), .int .u64 (wd2 1), .int .u64 (wd3 1), .bool false, .bool false] 54 := by rw [hV7]; exact (Blk.new _ _ _)
  clear k1 k2 k3
  clear hb0
  clear hV7
  have k1 := nk1
  clear nk1
  have k2 := nk2
  clear nk2
  have k3 := nk3
  clear nk3
  have hb0 := nhb0
  clear nhb0
  have c2_0 : V7.cell? ⟨(w.heap.size + 1), 0, none⟩ = some (.int .i64 cx) := k2.cell 0
  have c2_1 : V7.cell? ⟨(w.heap.size + 1), 1, none⟩ = some (.int .i64 cy) := k2.cell 1
  have l2 := k2.lt
  have Kk1 := Lib.hid k1
  clear k1
  have Kk2 := Lib.hid k2
  clear k2
  have Kk3 := Lib.hid k3
  clear k3
  have Kk4 := Lib.hid k4
  clear k4
  refine wp_region_up V7.heap.size 11 [(true, 0), (true, 1), (true, 2), (true, 3), (true, 4), (true, 5), (true, 6), (true, 7), (true, 8), (true, 9), (true, 10)] (by kernel_rfl) (by kernel_rfl) (fun _ _ d _ _ h => by cases d <;> exact h) ?_
  have hb : Below V7.heap.size V7 V7.drew := (Below.refl _ _).drew
  iterate 11
    refine wpS_takeL rfl rfl ?_
    go_big_quiet_step (rfl)
    refine wpQuiet_nil ?_
  refine wpS_nil ?_
  simp only [List.drop_succ_cons, List.drop_zero]
  first | refine calls_w ?_ | refine name_world ?_ | refine list_world ?_ | refine post_world ?_
  intro U8 hU8
  first | (subst hU8; have u_ := U8; clear u_) | (rw [← hU8] at hb; clear hU8)
  clear c2_0 c2_1 l2
  have k1 := Kk1.out.of hb
  clear Kk1
  have k2 := Kk2.out.of hb
  clear Kk2
  have k3 := Kk3.out.of hb
  clear Kk3
  have k4 := Kk4.out.of hb
  clear Kk4
  replace hb0 := hb0.trans (hb.mono hb0.size)
  clear hb
  have c1_0 : U8.cell? ⟨w.heap.size, 0, none⟩ = some (.int .i64 ax) := k1.cell 0
  have c1_2 : U8.cell? ⟨w.heap.size, 2, none⟩ = some (.int .i64 bx) := k1.cell 2
  have l1 := k1.lt
  go_wp2_with fail
  clear c1_0 c1_2 l1
  refine (pxba_is 0 1 1 1 false false ax (wrap64 (bx - ax)) (wrap64 ((wrap64 ((wrap64 (2 * cx)) * n)) - n)) (wrap64 ((wrap64 ((wrap64 (2 * cx)) * n)) + n)) false pfn pfd ptn ptd pfo pto HP7.out HP8.out HP9.out HP10.out HP11.out HP12.out HP13.out (by unfold InI b255; omega) (by unfold InI b255; omega) (by unfold InI b255; omega) (by unfold InI b255; omega) _iax (wrap64_in _) (wrap64_in _) (wrap64_in _) (U6.heap.size) _ k4).mono ?_
  rintro e U9 ⟨rfl, hk_, hn⟩
  clear k2
  replace k1 := k1.below hn (by have := D1.out; omega)
  replace k3 := k3.below hn (by have := D3.out; omega)
  replace k4 := hk_
  clear hk_
  replace hb0 := hb0.trans (hn.mono (by have := D4.out; omega))
  clear hn
  have e0 : 0 = R0 := by rw [← HR0.out]; (try rw [HP0.out]); (try rw [HP1.out]); (try rw [HP2.out]); (try rw [HP3.out]); (try rw [HP4.out]); (try rw [HP5.out]); (try rw [HP6.out]); (try rw [HP7.out]); (try rw [HP8.out]); (try rw [HP9.out]); (try rw [HP10.out]); (try rw [HP11.out]); (try rw [HP12.out]); (try rw [HP13.out]); all_goals first | rfl | simp
  have e1 : 0 = R1 := by rw [← HR1.out]; (try rw [HP0.out]); (try rw [HP1.out]); (try rw [HP2.out]); (try rw [HP3.out]); (try rw [HP4.out]); (try rw [HP5.out]); (try rw [HP6.out]); (try rw [HP7.out]); (try rw [HP8.out]); (try rw [HP9.out]); (try rw [HP10.out]); (try rw [HP11.out]); (try rw [HP12.out]); (try rw [HP13.out]); all_goals first | rfl | simp
  have e2 : 0 = R2 := by rw [← HR2.out]; (try rw [HP0.out]); (try rw [HP1.out]); (try rw [HP2.out]); (try rw [HP3.out]); (try rw [HP4.out]); (try rw [HP5.out]); (try rw [HP6.out]); (try rw [HP7.out]); (try rw [HP8.out]); (try rw [HP9.out]); (try rw [HP10.out]); (try rw [HP11.out]); (try rw [HP12.out]); (try rw [HP13.out]); all_goals first | rfl | simp
  have e3 : 0 = R3 := by rw [← HR3.out]; (try rw [HP0.out]); (try rw [HP1.out]); (try rw [HP2.out]); (try rw [HP3.out]); (try rw [HP4.out]); (try rw [HP5.out]); (try rw [HP6.out]); (try rw [HP7.out]); (try rw [HP8.out]); (try rw [HP9.out]); (try rw [HP10.out]); (try rw [HP11.out]); (try rw [HP12.out]); (try rw [HP13.out]); all_goals first | rfl | simp
  have e4 : false = R4 := by rw [← HR4.out]; (try rw [HP0.out]); (try rw [HP1.out]); (try rw [HP2.out]); (try rw [HP3.out]); (try rw [HP4.out]); (try rw [HP5.out]); (try rw [HP6.out]); (try rw [HP7.out]); (try rw [HP8.out]); (try rw [HP9.out]); (try rw [HP10.out]); (try rw [HP11.out]); (try rw [HP12.out]); (try rw [HP13.out]); all_goals first | rfl | simp
  have e5 : false = R5 := by rw [← HR5.out]; (try rw [HP0.out]); (try rw [HP1.out]); (try rw [HP2.out]); (try rw [HP3.out]); (try rw [HP4.out]); (try rw [HP5.out]); (try rw [HP6.out]); (try rw [HP7.out]); (try rw [HP8.out]); (try rw [HP9.out]); (try rw [HP10.out]); (try rw [HP11.out]); (try rw [HP12.out]); (try rw [HP13.out]); all_goals first | rfl | simp
  have e6 : false = R6 := by rw [← HR6.out]; (try rw [HP0.out]); (try rw [HP1.out]); (try rw [HP2.out]); (try rw [HP3.out]); (try rw [HP4.out]); (try rw [HP5.out]); (try rw [HP6.out]); (try rw [HP7.out]); (try rw [HP8.out]); (try rw [HP9.out]); (try rw [HP10.out]); (try rw [HP11.out]); (try rw [HP12.out]); (try rw [HP13.out]); all_goals first | rfl | simp
  subst e0
  subst e1
  subst e2
  subst e3
  subst e4
  subst e5
  subst e6
  go_wp2_with (first | ((with_reducible refine stRow (w.heap.size + 1 + 1) #[.int .u64 0, .int .u64 0, .int .u64 0, .int .u64 0, .int .u64 0, .int .u64 0, .int .u64 0, .int .u64 0, .int .u64 0, .int .u64 0, .int .u64 0, .int .u64 0, .int .u64 0, .int .u64 0, .int .u64 0, .int .u64 0, .bool false, .bool false] _ _ k3 ?_ ?_ ?_ ?_ ?_ ?_); rfl; rfl; (as_aux_lemma => kernel_rfl); rfl; (as_aux_lemma => kernel_rfl); simp only [Act.put]))
  first | refine post_world ?_
  intro V10 hV10
  clear k1
  have D5 := Lib.hid k3.lt
  have D6 := Lib.hid k4.lt
  have D7 := Lib.hid hb0.size
  clear k4
  have nk3 : Blk V10 (w.heap.size + 1 + 1) #[.int .u64 0, .int .u64 0, .int .u64 0, .int .u64 0, .int .u64 0, .int .u64 0, .int .u64 0, .int .u64 0, .int .u64 0, .int .u64 0, .int .u64 0, .int .u64 0, .int .u64 0, .int .u64 0, .int .u64 0, .int .u64 0, .bool false, .bool false] 54 := by rw [hV10]; exact blk_row k3 _
  have nhb0 : Below w.heap.size w V10 := by rw [hV10]; exact blw_row hb0 (by omega) _
  clear k3
  clear hb0
  clear hV10
  have k3 := nk3
  clear nk3
  have hb0 := nhb0
  clear nhb0
  refine ⟨rfl, _, results_row_tmp rfl _ _ _ _ _ _ _ rfl k3 rfl rfl (by as_aux_lemma => kernel_rfl), ?_, hb0⟩
  first | rfl | kernel_rfl

set_option maxRecDepth 100000 in
set_option maxHeartbeats 4000000 in

theorem pxCut_4 (ax : Int) (ay : Int) (bx : Int) (b_y : Int) (cx : Int) (cy : Int) (n : Int) (pfn : Int) (pfd : Int) (ptn : Int) (ptd : Int) (pfo : Bool) (pto : Bool) (qfn : Int) (qfd : Int) (qtn : Int) (qtd : Int) (qfo : Bool) (qto : Bool) (R0 : Int) (R1 : Int) (R2 : Int) (R3 : Int) (R4 : Bool) (R5 : Bool) (R6 : Bool) (hR0 : (fun (_ : Int) (_ : Int) (_ : Int) (_ : Int) (_ : Int) (_ : Int) (_ : Int) => 0) ax ay bx b_y cx cy n = R0) (hR1 : (fun (_ : Int) (_ : Int) (_ : Int) (_ : Int) (_ : Int) (_ : Int) (_ : Int) => 0) ax ay bx b_y cx cy n = R1) (hR2 : (fun (_ : Int) (_ : Int) (_ : Int) (_ : Int) (_ : Int) (_ : Int) (_ : Int) => 0) ax ay bx b_y cx cy n = R2) (hR3 : (fun (_ : Int) (_ : Int) (_ : Int) (_ : Int) (_ : Int) (_ : Int) (_ : Int) => 0) ax ay bx b_y cx cy n = R3) (hR4 : (fun (_ : Int) (_ : Int) (_ : Int) (_ : Int) (_ : Int) (_ : Int) (_ : Int) => false) ax ay bx b_y cx cy n = R4) (hR5 : (fun (_ : Int) (_ : Int) (_ : Int) (_ : Int) (_ : Int) (_ : Int) (_ : Int) => false) ax ay bx b_y cx cy n = R5) (hR6 : (fun (_ : Int) (_ : Int) (_ : Int) (_ : Int) (_ : Int) (_ : Int) (_ : Int) => false) ax ay bx b_y cx cy n = R6) (hP0 : pxS n = true) (hP1 : sgR ax ay bx b_y = true) (hP2 : rp cx cy = true) (hP3 : rtOn 0 = 0) (hP4 : rtOd 0 = 1) (hP5 : rtOn 1 = 1) (hP6 : rtOd 1 = 1) (hP7 : bak 0 1 1 1 false false ax (wrap64 (bx - ax)) (wrap64 ((wrap64 ((wrap64 (2 * cx)) * n)) - n)) (wrap64 ((wrap64 ((wrap64 (2 * cx)) * n)) + n)) = true) (hP8 : bafn 0 1 1 1 false false ax (wrap64 (bx - ax)) (wrap64 ((wrap64 ((wrap64 (2 * cx)) * n)) - n)) (wrap64 ((wrap64 ((wrap64 (2 * cx)) * n)) + n)) = pfn) (hP9 : bafd 0 1 1 1 false false ax (wrap64 (bx - ax)) (wrap64 ((wrap64 ((wrap64 (2 * cx)) * n)) - n)) (wrap64 ((wrap64 ((wrap64 (2 * cx)) * n)) + n)) = pfd) (hP10 : batn 0 1 1 1 false false ax (wrap64 (bx - ax)) (wrap64 ((wrap64 ((wrap64 (2 * cx)) * n)) - n)) (wrap64 ((wrap64 ((wrap64 (2 * cx)) * n)) + n)) = ptn) (hP11 : batd 0 1 1 1 false false ax (wrap64 (bx - ax)) (wrap64 ((wrap64 ((wrap64 (2 * cx)) * n)) - n)) (wrap64 ((wrap64 ((wrap64 (2 * cx)) * n)) + n)) = ptd) (hP12 : bafo 0 1 1 1 false false ax (wrap64 (bx - ax)) (wrap64 ((wrap64 ((wrap64 (2 * cx)) * n)) - n)) (wrap64 ((wrap64 ((wrap64 (2 * cx)) * n)) + n)) = pfo) (hP13 : bato 0 1 1 1 false false ax (wrap64 (bx - ax)) (wrap64 ((wrap64 ((wrap64 (2 * cx)) * n)) - n)) (wrap64 ((wrap64 ((wrap64 (2 * cx)) * n)) + n)) = pto) (hP14 : bak pfn pfd ptn ptd pfo pto ay (wrap64 (b_y - ay)) (wrap64 ((wrap64 ((wrap64 (2 * cy)) * n)) - n)) (wrap64 ((wrap64 ((wrap64 (2 * cy)) * n)) + n)) = false) (hP15 : bafn pfn pfd ptn ptd pfo pto ay (wrap64 (b_y - ay)) (wrap64 ((wrap64 ((wrap64 (2 * cy)) * n)) - n)) (wrap64 ((wrap64 ((wrap64 (2 * cy)) * n)) + n)) = qfn) (hP16 : bafd pfn pfd ptn ptd pfo pto ay (wrap64 (b_y - ay)) (wrap64 ((wrap64 ((wrap64 (2 * cy)) * n)) - n)) (wrap64 ((wrap64 ((wrap64 (2 * cy)) * n)) + n)) = qfd) (hP17 : batn pfn pfd ptn ptd pfo pto ay (wrap64 (b_y - ay)) (wrap64 ((wrap64 ((wrap64 (2 * cy)) * n)) - n)) (wrap64 ((wrap64 ((wrap64 (2 * cy)) * n)) + n)) = qtn) (hP18 : batd pfn pfd ptn ptd pfo pto ay (wrap64 (b_y - ay)) (wrap64 ((wrap64 ((wrap64 (2 * cy)) * n)) - n)) (wrap64 ((wrap64 ((wrap64 (2 * cy)) * n)) + n)) = qtd) (hP19 : bafo pfn pfd ptn ptd pfo pto ay (wrap64 (b_y - ay)) (wrap64 ((wrap64 ((wrap64 (2 * cy)) * n)) - n)) (wrap64 ((wrap64 ((wrap64 (2 * cy)) * n)) + n)) = qfo) (hP20 : bato pfn pfd ptn ptd pfo pto ay (wrap64 (b_y - ay)) (wrap64 ((wrap64 ((wrap64 (2 * cy)) * n)) - n)) (wrap64 ((wrap64 ((wrap64 (2 * cy)) * n)) + n)) = qto) (_ipfn : InI pfn) (_ipfd : InI pfd) (_iptn : InI ptn) (_iptd : InI ptd) (_iqfn : InI qfn) (_iqfd : InI qfd) (_iqtn : InI qtn) (_iqtd : InI qtd) (_iax : In64 ax) (_iay : In64 ay) (_ibx : In64 bx) (_ib_y : In64 b_y) (_icx : In64 cx) (_icy : In64 cy) (_in : In64 n)  (w : World)  :
    Calls Try.prog 30 #[.agg #[.int .i64 ax, .int .i64 ay, .int .i64 bx, .int .i64 b_y], .agg #[.int .i64 cx, .int .i64 cy], .int .i64 n] w fun e w' => e = .returned (.tuple #[.agg #[.int .u64 (wd0 R0), .int .u64 (wd1 R0), .int .u64 (wd2 R0), .int .u64 (wd3 R0), .int .u64 (wd0 R1), .int .u64 (wd1 R1), .int .u64 (wd2 R1), .int .u64 (wd3 R1), .int .u64 (wd0 R2), .int .u64 (wd1 R2), .int .u64 (wd2 R2), .int .u64 (wd3 R2), .int .u64 (wd0 R3), .int .u64 (wd1 R3), .int .u64 (wd2 R3), .int .u64 (wd3 R3), .bool R4, .bool R5], .bool R6]) ∧ Below w.heap.size w w' := by

  have HP0 := Lib.hid hP0
  clear hP0
  have HP1 := Lib.hid hP1
  clear hP1
  have HP2 := Lib.hid hP2
  clear hP2
  have HP3 := Lib.hid hP3
  clear hP3
  have HP4 := Lib.hid hP4
  clear hP4
  have HP5 := Lib.hid hP5
  clear hP5
  have HP6 := Lib.hid hP6
  clear hP6
  have HP7 := Lib.hid hP7
  clear hP7
  have HP8 := Lib.hid hP8
  clear hP8
  have HP9 := Lib.hid hP9
  clear hP9
  have HP10 := Lib.hid hP10
  clear hP10
  have HP11 := Lib.hid hP11
  clear hP11
  have HP12 := Lib.hid hP12
  clear hP12
  have HP13 := Lib.hid hP13
  clear hP13
  have HP14 := Lib.hid hP14
  clear hP14
  have HP15 := Lib.hid hP15
  clear hP15
  have HP16 := Lib.hid hP16
  clear hP16
  have HP17 := Lib.hid hP17
  clear hP17
  have HP18 := Lib.hid hP18
  clear hP18
  have HP19 := Lib.hid hP19
  clear hP19
  have HP20 := Lib.hid hP20
  clear hP20
  have HR0 := Lib.hid hR0
  clear hR0
  have HR1 := Lib.hid hR1
  clear hR1
  have HR2 := Lib.hid hR2
  clear hR2
  have HR3 := Lib.hid hR3
  clear hR3
  have HR4 := Lib.hid hR4
  clear hR4
  have HR5 := Lib.hid hR5
  clear hR5
  have HR6 := Lib.hid hR6
  clear hR6
  go_enter Try.func30, Try.ntmps30
  go_wp2_with fail
  first | refine calls_w ?_ | refine name_world ?_ | refine list_world ?_ | refine post_world ?_
  intro V1 hV1
  have hn : Below w.heap.size w V1 := by rw [hV1]; exact below_a3 _ _ _ _
  have nhb0 := hn
  have k1 : Blk V1 w.heap.size #[.int .i64 ax, .int .i64 ay, .int .i64 bx, .int .i64 b_y] 50 := by rw [hV1]; exact (((Blk.new _ _ _).alloc _).alloc _)
  have k2 : Blk V1 (w.heap.size + 1) #[.int .i64 cx, .int .i64 cy] 24 := by rw [hV1]; exact ((Blk.new1 _ _ _ _).alloc _)
  have k3 : Blk V1 (w.heap.size + 1 + 1) #[.int .u64 0, .int .u64 0, .int .u64 0, .int .u64 0, .int .u64 0, .int .u64 0, .int .u64 0, .int .u64 0, .int .u64 0, .int .u64 0, .int .u64 0, .int .u64 0, .int .u64 0, .int .u64 0, .int .u64 0, .int .u64 0, .bool false, .bool false] 54 := by rw [hV1]; exact (Blk.new2 _ _ _ _ _)
  clear hV1
  have hb0 := nhb0
  clear nhb0
  refine (pxSize_is n true HP0.out _in  _).mono ?_
  rintro e U2 ⟨rfl, hn⟩
  replace k1 := k1.of hn
  replace k2 := k2.of hn
  replace k3 := k3.of hn
  replace hb0 := hb0.trans (hn.mono hb0.size)
  clear hn
  have c1_0 : U2.cell? ⟨w.heap.size, 0, none⟩ = some (.int .i64 ax) := k1.cell 0
  have c1_1 : U2.cell? ⟨w.heap.size, 1, none⟩ = some (.int .i64 ay) := k1.cell 1
  have c1_2 : U2.cell? ⟨w.heap.size, 2, none⟩ = some (.int .i64 bx) := k1.cell 2
  have c1_3 : U2.cell? ⟨w.heap.size, 3, none⟩ = some (.int .i64 b_y) := k1.cell 3
  have l1 := k1.lt
  go_wp2_with fail
  clear c1_0 c1_1 c1_2 c1_3 l1
  refine (SegRight_is ax ay bx b_y true HP1.out _iax _iay _ibx _ib_y  _).mono ?_
  rintro e U3 ⟨rfl, hn⟩
  replace k1 := k1.of hn
  replace k2 := k2.of hn
  replace k3 := k3.of hn
  replace hb0 := hb0.trans (hn.mono hb0.size)
  clear hn
  have c2_0 : U3.cell? ⟨(w.heap.size + 1), 0, none⟩ = some (.int .i64 cx) := k2.cell 0
  have c2_1 : U3.cell? ⟨(w.heap.size + 1), 1, none⟩ = some (.int .i64 cy) := k2.cell 1
  have l2 := k2.lt
  go_wp2_with fail
  clear c2_0 c2_1 l2
  refine (PtRight_v cx cy true HP2.out _).mono ?_
  rintro e U4 ⟨rfl, hn⟩
  replace k1 := k1.of hn
  replace k2 := k2.of hn
  replace k3 := k3.of hn
  replace hb0 := hb0.trans (hn.mono hb0.size)
  clear hn
  go_wp2_with fail
  refine (rtOf_is 0 0 1 HP3.out HP4.out (by unfold In64; omega)  _).mono ?_
  rintro e U5 ⟨rfl, hn⟩
  replace k1 := k1.of hn
  replace k2 := k2.of hn
  replace k3 := k3.of hn
  replace hb0 := hb0.trans (hn.mono hb0.size)
  clear hn
  go_wp2_with fail
  refine (rtOf_is 1 1 1 HP5.out HP6.out (by unfold In64; omega)  _).mono ?_
  rintro e U6 ⟨rfl, hn⟩
  replace k1 := k1.of hn
  replace k2 := k2.of hn
  replace k3 := k3.of hn
  replace hb0 := hb0.trans (hn.mono hb0.size)
  clear hn
  go_wp2_with (first | ((with_reducible refine stRow (U6.heap.size) #[.int .u64 (wd0 0), .int .u64 (wd1 0), .int .u64 (wd2 0), .int .u64 (wd3 0), .int .u64 (wd0 1), .int .u64 (wd1 1), .int .u64 (wd2 1), .int .u64 (wd3 1), .int .u64 (wd0 1), .int .u64 (wd1 1), .int .u64 (wd2 1), .int .u64 (wd3 1), .int .u64 (wd0 1), .int .u64 (wd1 1), .int .u64 (wd2 1), .int .u64 (wd3 1), .bool false, .bool false] _ _ (Blk.new _ _ _) ?_ ?_ ?_ ?_ ?_ ?_); rfl; rfl; (as_aux_lemma => kernel_rfl); rfl; (as_aux_lemma => kernel_rfl); simp only [Act.put]))
  first | refine calls_w ?_ | refine name_world ?_ | refine list_world ?_ | refine post_world ?_
  intro V7 hV7
  rw [World.setRow_alloc_new] at hV7
  have D1 := Lib.hid k1.lt
  have D2 := Lib.hid k2.lt
  have D3 := Lib.hid k3.lt
  have D4 := Lib.hid hb0.size
  have hn : Below U6.heap.size U6 V7 := by rw [hV7]; exact below_a1 _ _
  have nk1 := k1.of hn
  have nk2 := k2.of hn
  have nk3 := k3.of hn
  have nhb0 := hb0.trans (hn.mono hb0.size)
  clear hn
  have k4 : Blk V7 U6.heap.size #[.int .u64 (wd0 0), .int .u64 (wd1 0), .int .u64 (wd2 0), .int .u64 (wd3 0), .int .u64 (wd0 1), .int .u64 (wd1 1), .int .u64 (wd2 1), .int .u64 (wd3 1), .int .u64 (wd0 1), .int .u64 (wd1 1), .int .u64 (wd2 1), .int .u64 (wd3 1), .int .u64 (wd0 1), .int .u64 (wd1 1), .int .u64 (wd2 1), .int .u64 (wd3 1), .bool false, .bool false] 54 := by rw [hV7]; exact (Blk.new _ _ _)
  clear k1 k2 k3
  clear hb0
  clear hV7
  have k1 := nk1
  clear nk1
  have k2 := nk2
  clear nk2
  have k3 := nk3
  clear nk3
  have hb0 := nhb0
  clear nhb0
  have c2_0 : V7.cell? ⟨(w.heap.size + 1), 0, none⟩ = some (.int .i64 cx) := k2.cell 0
  have c2_1 : V7.cell? ⟨(w.heap.size + 1), 1, none⟩ = some (.int .i64 cy) := k2.cell 1
  have l2 := k2.lt
  have Kk1 := Lib.hid k1
  clear k1
  have Kk2 := Lib.hid k2
  clear k2
  have Kk3 := Lib.hid k3
  clear k3
  have Kk4 := Lib.hid k4
  clear k4
  refine wp_region_up V7.heap.size 11 [(true, 0), (true, 1), (true, 2), (true, 3), (true, 4), (true, 5), (true, 6), (true, 7), (true, 8), (true, 9), (true, 10)] (by kernel_rfl) (by kernel_rfl) (fun _ _ d _ _ h => by cases d <;> exact h) ?_
  have hb : Below V7.heap.size V7 V7.drew := (Below.refl _ _).drew
  iterate 11
    refine wpS_takeL rfl rfl ?_
    go_big_quiet_step (rfl)
    refine wpQuiet_nil ?_
  refine wpS_nil ?_
  simp only [List.drop_succ_cons, List.drop_zero]
  first | refine calls_w ?_ | refine name_world ?_ | refine list_world ?_ | refine post_world ?_
  intro U8 hU8
  first | (subst hU8; have u_ := U8; clear u_) | (rw [← hU8] at hb; clear hU8)
  clear c2_0 c2_1 l2
  have k1 := Kk1.out.of hb
  clear Kk1
  have k2 := Kk2.out.of hb
  clear Kk2
  have k3 := Kk3.out.of hb
  clear Kk3
  have k4 := Kk4.out.of hb
  clear Kk4
  replace hb0 := hb0.trans (hb.mono hb0.size)
  clear hb
  have c1_0 : U8.cell? ⟨w.heap.size, 0, none⟩ = some (.int .i64 ax) := k1.cell 0
  have c1_2 : U8.cell? ⟨w.heap.size, 2, none⟩ = some (.int .i64 bx) := k1.cell 2
  have l1 := k1.lt
  go_wp2_with fail
  clear c1_0 c1_2 l1
  refine (pxba_is 0 1 1 1 false false ax (wrap64 (bx - ax)) (wrap64 ((wrap64 ((wrap64 (2 * cx)) * n)) - n)) (wrap64 ((wrap64 ((wrap64 (2 * cx)) * n)) + n)) true pfn pfd ptn ptd pfo pto HP7.out HP8.out HP9.out HP10.out HP11.out HP12.out HP13.out (by unfold InI b255; omega) (by unfold InI b255; omega) (by unfold InI b255; omega) (by unfold InI b255; omega) _iax (wrap64_in _) (wrap64_in _) (wrap64_in _) (U6.heap.size) _ k4).mono ?_
  rintro e U9 ⟨rfl, hk_, hn⟩
  clear k2
  replace k1 := k1.below hn (by have := D1.out; omega)
  replace k3 := k3.below hn (by have := D3.out; omega)
  replace k4 := hk_
  clear hk_
  replace hb0 := hb0.trans (hn.mono (by have := D4.out; omega))
  clear hn
  have c1_1 : U9.cell? ⟨w.heap.size, 1, none⟩ = some (.int .i64 ay) := k1.cell 1
  have c1_3 : U9.cell? ⟨w.heap.size, 3, none⟩ = some (.int .i64 b_y) := k1.cell 3
  have l1 := k1.lt
  go_wp2_with fail
  clear c1_1 c1_3 l1
  refine (pxba_is pfn pfd ptn ptd pfo pto ay (wrap64 (b_y - ay)) (wrap64 ((wrap64 ((wrap64 (2 * cy)) * n)) - n)) (wrap64 ((wrap64 ((wrap64 (2 * cy)) * n)) + n)) false qfn qfd qtn qtd qfo qto HP14.out HP15.out HP16.out HP17.out HP18.out HP19.out HP20.out _ipfn _ipfd _iptn _iptd _iay (wrap64_in _) (wrap64_in _) (wrap64_in _) (U6.heap.size) _ k4).mono ?_
  rintro e U10 ⟨rfl, hk_, hn⟩
  clear k1
  replace k3 := k3.below hn (by have := D3.out; omega)
  replace k4 := hk_
  clear hk_
  replace hb0 := hb0.trans (hn.mono (by have := D4.out; omega))
  clear hn
  have e0 : 0 = R0 := by rw [← HR0.out]; (try rw [HP0.out]); (try rw [HP1.out]); (try rw [HP2.out]); (try rw [HP3.out]); (try rw [HP4.out]); (try rw [HP5.out]); (try rw [HP6.out]); (try rw [HP7.out]); (try rw [HP8.out]); (try rw [HP9.out]); (try rw [HP10.out]); (try rw [HP11.out]); (try rw [HP12.out]); (try rw [HP13.out]); (try rw [HP14.out]); (try rw [HP15.out]); (try rw [HP16.out]); (try rw [HP17.out]); (try rw [HP18.out]); (try rw [HP19.out]); (try rw [HP20.out]); all_goals first | rfl | simp
  have e1 : 0 = R1 := by rw [← HR1.out]; (try rw [HP0.out]); (try rw [HP1.out]); (try rw [HP2.out]); (try rw [HP3.out]); (try rw [HP4.out]); (try rw [HP5.out]); (try rw [HP6.out]); (try rw [HP7.out]); (try rw [HP8.out]); (try rw [HP9.out]); (try rw [HP10.out]); (try rw [HP11.out]); (try rw [HP12.out]); (try rw [HP13.out]); (try rw [HP14.out]); (try rw [HP15.out]); (try rw [HP16.out]); (try rw [HP17.out]); (try rw [HP18.out]); (try rw [HP19.out]); (try rw [HP20.out]); all_goals first | rfl | simp
  have e2 : 0 = R2 := by rw [← HR2.out]; (try rw [HP0.out]); (try rw [HP1.out]); (try rw [HP2.out]); (try rw [HP3.out]); (try rw [HP4.out]); (try rw [HP5.out]); (try rw [HP6.out]); (try rw [HP7.out]); (try rw [HP8.out]); (try rw [HP9.out]); (try rw [HP10.out]); (try rw [HP11.out]); (try rw [HP12.out]); (try rw [HP13.out]); (try rw [HP14.out]); (try rw [HP15.out]); (try rw [HP16.out]); (try rw [HP17.out]); (try rw [HP18.out]); (try rw [HP19.out]); (try rw [HP20.out]); all_goals first | rfl | simp
  have e3 : 0 = R3 := by rw [← HR3.out]; (try rw [HP0.out]); (try rw [HP1.out]); (try rw [HP2.out]); (try rw [HP3.out]); (try rw [HP4.out]); (try rw [HP5.out]); (try rw [HP6.out]); (try rw [HP7.out]); (try rw [HP8.out]); (try rw [HP9.out]); (try rw [HP10.out]); (try rw [HP11.out]); (try rw [HP12.out]); (try rw [HP13.out]); (try rw [HP14.out]); (try rw [HP15.out]); (try rw [HP16.out]); (try rw [HP17.out]); (try rw [HP18.out]); (try rw [HP19.out]); (try rw [HP20.out]); all_goals first | rfl | simp
  have e4 : false = R4 := by rw [← HR4.out]; (try rw [HP0.out]); (try rw [HP1.out]); (try rw [HP2.out]); (try rw [HP3.out]); (try rw [HP4.out]); (try rw [HP5.out]); (try rw [HP6.out]); (try rw [HP7.out]); (try rw [HP8.out]); (try rw [HP9.out]); (try rw [HP10.out]); (try rw [HP11.out]); (try rw [HP12.out]); (try rw [HP13.out]); (try rw [HP14.out]); (try rw [HP15.out]); (try rw [HP16.out]); (try rw [HP17.out]); (try rw [HP18.out]); (try rw [HP19.out]); (try rw [HP20.out]); all_goals first | rfl | simp
  have e5 : false = R5 := by rw [← HR5.out]; (try rw [HP0.out]); (try rw [HP1.out]); (try rw [HP2.out]); (try rw [HP3.out]); (try rw [HP4.out]); (try rw [HP5.out]); (try rw [HP6.out]); (try rw [HP7.out]); (try rw [HP8.out]); (try rw [HP9.out]); (try rw [HP10.out]); (try rw [HP11.out]); (try rw [HP12.out]); (try rw [HP13.out]); (try rw [HP14.out]); (try rw [HP15.out]); (try rw [HP16.out]); (try rw [HP17.out]); (try rw [HP18.out]); (try rw [HP19.out]); (try rw [HP20.out]); all_goals first | rfl | simp
  have e6 : false = R6 := by rw [← HR6.out]; (try rw [HP0.out]); (try rw [HP1.out]); (try rw [HP2.out]); (try rw [HP3.out]); (try rw [HP4.out]); (try rw [HP5.out]); (try rw [HP6.out]); (try rw [HP7.out]); (try rw [HP8.out]); (try rw [HP9.out]); (try rw [HP10.out]); (try rw [HP11.out]); (try rw [HP12.out]); (try rw [HP13.out]); (try rw [HP14.out]); (try rw [HP15.out]); (try rw [HP16.out]); (try rw [HP17.out]); (try rw [HP18.out]); (try rw [HP19.out]); (try rw [HP20.out]); all_goals first | rfl | simp
  subst e0
  subst e1
  subst e2
  subst e3
  subst e4
  subst e5
  subst e6
  go_wp2_with (first | ((with_reducible refine stRow (w.heap.size + 1 + 1) #[.int .u64 0, .int .u64 0, .int .u64 0, .int .u64 0, .int .u64 0, .int .u64 0, .int .u64 0, .int .u64 0, .int .u64 0, .int .u64 0, .int .u64 0, .int .u64 0, .int .u64 0, .int .u64 0, .int .u64 0, .int .u64 0, .bool false, .bool false] _ _ k3 ?_ ?_ ?_ ?_ ?_ ?_); rfl; rfl; (as_aux_lemma => kernel_rfl); rfl; (as_aux_lemma => kernel_rfl); simp only [Act.put]))
  first | refine post_world ?_
  intro V11 hV11
  have D5 := Lib.hid k3.lt
  have D6 := Lib.hid k4.lt
  have D7 := Lib.hid hb0.size
  clear k4
  have nk3 : Blk V11 (w.heap.size + 1 + 1) #[.int .u64 0, .int .u64 0, .int .u64 0, .int .u64 0, .int .u64 0, .int .u64 0, .int .u64 0, .int .u64 0, .int .u64 0, .int .u64 0, .int .u64 0, .int .u64 0, .int .u64 0, .int .u64 0, .int .u64 0, .int .u64 0, .bool false, .bool false] 54 := by rw [hV11]; exact blk_row k3 _
  have nhb0 : Below w.heap.size w V11 := by rw [hV11]; exact blw_row hb0 (by omega) _
  clear k3
  clear hb0
  clear hV11
  have k3 := nk3
  clear nk3
  have hb0 := nhb0
  clear nhb0
  refine ⟨rfl, _, results_row_tmp rfl _ _ _ _ _ _ _ rfl k3 rfl rfl (by as_aux_lemma => kernel_rfl), ?_, hb0⟩
  first | rfl | kernel_rfl
end Go.Proofs.Ytlcbomjdbdgbmaa

namespace Go.Proofs.Ytlcbomjdbdgbmaa
open Go.RowKit

set_option maxRecDepth 100000 in
set_option maxHeartbeats 4000000 in

theorem pxCut_5 (ax : Int) (ay : Int) (bx : Int) (b_y : Int) (cx : Int) (cy : Int) (n : Int) (pfn : Int) (pfd : Int) (ptn : Int) (ptd : Int) (pfo : Bool) (pto : Bool) (qfn : Int) (qfd : Int) (qtn : Int) (qtd : Int) (qfo : Bool) (qto : Bool) (R0 : Int) (R1 : Int) (R2 : Int) (R3 : Int) (R4 : Bool) (R5 : Bool) (R6 : Bool) (hR0 : (fun (_ : Int) (_ : Int) (_ : Int) (_ : Int) (_ : Int) (_ : Int) (_ : Int) => 0) ax ay bx b_y cx cy n = R0) (hR1 : (fun (_ : Int) (_ : Int) (_ : Int) (_ : Int) (_ : Int) (_ : Int) (_ : Int) => 0) ax ay bx b_y cx cy n = R1) (hR2 : (fun (_ : Int) (_ : Int) (_ : Int) (_ : Int) (_ : Int) (_ : Int) (_ : Int) => 0) ax ay bx b_y cx cy n = R2) (hR3 : (fun (_ : Int) (_ : Int) (_ : Int) (_ : Int) (_ : Int) (_ : Int) (_ : Int) => 0) ax ay bx b_y cx cy n = R3) (hR4 : (fun (_ : Int) (_ : Int) (_ : Int) (_ : Int) (_ : Int) (_ : Int) (_ : Int) => false) ax ay bx b_y cx cy n = R4) (hR5 : (fun (_ : Int) (_ : Int) (_ : Int) (_ : Int) (_ : Int) (_ : Int) (_ : Int) => false) ax ay bx b_y cx cy n = R5) (hR6 : (fun (_ : Int) (_ : Int) (_ : Int) (_ : Int) (_ : Int) (_ : Int) (_ : Int) => false) ax ay bx b_y cx cy n = R6) (hP0 : pxS n = true) (hP1 : sgR ax ay bx b_y = true) (hP2 : rp cx cy = true) (hP3 : rtOn 0 = 0) (hP4 : rtOd 0 = 1) (hP5 : rtOn 1 = 1) (hP6 : rtOd 1 = 1) (hP7 : bak 0 1 1 1 false false ax (wrap64 (bx - ax)) (wrap64 ((wrap64 ((wrap64 (2 * cx)) * n)) - n)) (wrap64 ((wrap64 ((wrap64 (2 * cx)) * n)) + n)) = true) (hP8 : bafn 0 1 1 1 false false ax (wrap64 (bx - ax)) (wrap64 ((wrap64 ((wrap64 (2 * cx)) * n)) - n)) (wrap64 ((wrap64 ((wrap64 (2 * cx)) * n)) + n)) = pfn) (hP9 : bafd 0 1 1 1 false false ax (wrap64 (bx - ax)) (wrap64 ((wrap64 ((wrap64 (2 * cx)) * n)) - n)) (wrap64 ((wrap64 ((wrap64 (2 * cx)) * n)) + n)) = pfd) (hP10 : batn 0 1 1 1 false false ax (wrap64 (bx - ax)) (wrap64 ((wrap64 ((wrap64 (2 * cx)) * n)) - n)) (wrap64 ((wrap64 ((wrap64 (2 * cx)) * n)) + n)) = ptn) (hP11 : batd 0 1 1 1 false false ax (wrap64 (bx - ax)) (wrap64 ((wrap64 ((wrap64 (2 * cx)) * n)) - n)) (wrap64 ((wrap64 ((wrap64 (2 * cx)) * n)) + n)) = ptd) (hP12 : bafo 0 1 1 1 false false ax (wrap64 (bx - ax)) (wrap64 ((wrap64 ((wrap64 (2 * cx)) * n)) - n)) (wrap64 ((wrap64 ((wrap64 (2 * cx)) * n)) + n)) = pfo) (hP13 : bato 0 1 1 1 false false ax (wrap64 (bx - ax)) (wrap64 ((wrap64 ((wrap64 (2 * cx)) * n)) - n)) (wrap64 ((wrap64 ((wrap64 (2 * cx)) * n)) + n)) = pto) (hP14 : bak pfn pfd ptn ptd pfo pto ay (wrap64 (b_y - ay)) (wrap64 ((wrap64 ((wrap64 (2 * cy)) * n)) - n)) (wrap64 ((wrap64 ((wrap64 (2 * cy)) * n)) + n)) = true) (hP15 : bafn pfn pfd ptn ptd pfo pto ay (wrap64 (b_y - ay)) (wrap64 ((wrap64 ((wrap64 (2 * cy)) * n)) - n)) (wrap64 ((wrap64 ((wrap64 (2 * cy)) * n)) + n)) = qfn) (hP16 : bafd pfn pfd ptn ptd pfo pto ay (wrap64 (b_y - ay)) (wrap64 ((wrap64 ((wrap64 (2 * cy)) * n)) - n)) (wrap64 ((wrap64 ((wrap64 (2 * cy)) * n)) + n)) = qfd) (hP17 : batn pfn pfd ptn ptd pfo pto ay (wrap64 (b_y - ay)) (wrap64 ((wrap64 ((wrap64 (2 * cy)) * n)) - n)) (wrap64 ((wrap64 ((wrap64 (2 * cy)) * n)) + n)) = qtn) (hP18 : batd pfn pfd ptn ptd pfo pto ay (wrap64 (b_y - ay)) (wrap64 ((wrap64 ((wrap64 (2 * cy)) * n)) - n)) (wrap64 ((wrap64 ((wrap64 (2 * cy)) * n)) + n)) = qtd) (hP19 : bafo pfn pfd ptn ptd pfo pto ay (wrap64 (b_y - ay)) (wrap64 ((wrap64 ((wrap64 (2 * cy)) * n)) - n)) (wrap64 ((wrap64 ((wrap64 (2 * cy)) * n)) + n)) = qfo) (hP20 : bato pfn pfd ptn ptd pfo pto ay (wrap64 (b_y - ay)) (wrap64 ((wrap64 ((wrap64 (2 * cy)) * n)) - n)) (wrap64 ((wrap64 ((wrap64 (2 * cy)) * n)) + n)) = qto) (hP21 : smk_ qfn qfd qtn qtd qfo qto = false) (hP22 : smfn qfn qfd qtn qtd qfo qto = qfn) (hP23 : smfd qfn qfd qtn qtd qfo qto = qfd) (hP24 : smtn qfn qfd qtn qtd qfo qto = qtn) (hP25 : smtd qfn qfd qtn qtd qfo qto = qtd) (hP26 : smfo qfn qfd qtn qtd qfo qto = qfo) (hP27 : smto qfn qfd qtn qtd qfo qto = qto) (_ipfn : InI pfn) (_ipfd : InI pfd) (_iptn : InI ptn) (_iptd : InI ptd) (_iqfn : InI qfn) (_iqfd : InI qfd) (_iqtn : InI qtn) (_iqtd : InI qtd) (_iax : In64 ax) (_iay : In64 ay) (_ibx : In64 bx) (_ib_y : In64 b_y) (_icx : In64 cx) (_icy : In64 cy) (_in : In64 n)  (w : World)  :
    Calls Try.prog 30 #[.agg #[.int .i64 ax, .int .i64 ay, .int .i64 bx, .int .i64 b_y], .agg #[.int .i64 cx, .int .i64 cy], .int .i64 n] w fun e w' => e = .returned (.tuple #[.agg #[.int .u64 (wd0 R0), .int .u64 (wd1 R0), .int .u64 (wd2 R0), .int .u64 (wd3 R0), .int .u64 (wd0 R1), .int .u64 (wd1 R1), .int .u64 (wd2 R1), .int .u64 (wd3 R1), .int .u64 (wd0 R2), .int .u64 (wd1 R2), .int .u64 (wd2 R2), .int .u64 (wd3 R2), .int .u64 (wd0 R3), .int .u64 (wd1 R3), .int .u64 (wd2 R3), .int .u64 (wd3 R3), .bool R4, .bool R5], .bool R6]) ∧ Below w.heap.size w w' := by

  have HP0 := Lib.hid hP0
  clear hP0
  have HP1 := Lib.hid hP1
  clear hP1
  have HP2 := Lib.hid hP2
  clear hP2
  have HP3 := Lib.hid hP3
  clear hP3
  have HP4 := Lib.hid hP4
  clear hP4
  have HP5 := Lib.hid hP5
  clear hP5
  have HP6 := Lib.hid hP6
  clear hP6
  have HP7 := Lib.hid hP7
  clear hP7
  have HP8 := Lib.hid hP8
  clear hP8
  have HP9 := Lib.hid hP9
  clear hP9
  have HP10 := Lib.hid hP10
  clear hP10
  have HP11 := Lib.hid hP11
  clear hP11
  have HP12 := Lib.hid hP12
  clear hP12
  have HP13 := Lib.hid hP13
  clear hP13
  have HP14 := Lib.hid hP14
  clear hP14
  have HP15 := Lib.hid hP15
  clear hP15
  have HP16 := Lib.hid hP16
  clear hP16
  have HP17 := Lib.hid hP17
  clear hP17
  have HP18 := Lib.hid hP18
  clear hP18
  have HP19 := Lib.hid hP19
  clear hP19
  have HP20 := Lib.hid hP20
  clear hP20
  have HP21 := Lib.hid hP21
  clear hP21
  have HP22 := Lib.hid hP22
  clear hP22
  have HP23 := Lib.hid hP23
  clear hP23
  have HP24 := Lib.hid hP24
  clear hP24
  have HP25 := Lib.hid hP25
  clear hP25
  have HP26 := Lib.hid hP26
  clear hP26
  have HP27 := Lib.hid hP27
  clear hP27
  have HR0 := Lib.hid hR0
  clear hR0
  have HR1 := Lib.hid hR1
  clear hR1
  have HR2 := Lib.hid hR2
  clear hR2
  have HR3 := Lib.hid hR3
  clear hR3
  have HR4 := Lib.hid hR4
  clear hR4
  have HR5 := Lib.hid hR5
  clear hR5
  have HR6 := Lib.hid hR6
  clear hR6
  go_enter Try.func30, Try.ntmps30
  go_wp2_with fail
  first | refine calls_w ?_ | refine name_world ?_ | refine list_world ?_ | refine post_world ?_
  intro V1 hV1
  have hn : Below w.heap.size w V1 := by rw [hV1]; exact below_a3 _ _ _ _
  have nhb0 := hn
  have k1 : Blk V1 w.heap.size #[.int .i64 ax, .int .i64 ay, .int .i64 bx, .int .i64 b_y] 50 := by rw [hV1]; exact (((Blk.new _ _ _).alloc _).alloc _)
  have k2 : Blk V1 (w.heap.size + 1) #[.int .i64 cx, .int .i64 cy] 24 := by rw [hV1]; exact ((Blk.new1 _ _ _ _).alloc _)
  have k3 : Blk V1 (w.heap.size + 1 + 1) #[.int .u64 0, .int .u64 0, .int .u64 0, .int .u64 0, .int .u64 0, .int .u64 0, .int .u64 0, .int .u64 0, .int .u64 0, .int .u64 0, .int .u64 0, .int .u64 0, .int .u64 0, .int .u64 0, .int .u64 0, .int .u64 0, .bool false, .bool false] 54 := by rw [hV1]; exact (Blk.new2 _ _ _ _ _)
  clear hV1
  have hb0 := nhb0
  clear nhb0
  refine (pxSize_is n true HP0.out _in  _).mono ?_
  rintro e U2 ⟨rfl, hn⟩
  replace k1 := k1.of hn
  replace k2 := k2.of hn
  replace k3 := k3.of hn
  replace hb0 := hb0.trans (hn.mono hb0.size)
  clear hn
  have c1_0 : U2.cell? ⟨w.heap.size, 0, none⟩ = some (.int .i64 ax) := k1.cell 0
  have c1_1 : U2.cell? ⟨w.heap.size, 1, none⟩ = some (.int .i64 ay) := k1.cell 1
  have c1_2 : U2.cell? ⟨w.heap.size, 2, none⟩ = some (.int .i64 bx) := k1.cell 2
  have c1_3 : U2.cell? ⟨w.heap.size, 3, none⟩ = some (.int .i64 b_y) := k1.cell 3
  have l1 := k1.lt
  go_wp2_with fail
  clear c1_0 c1_1 c1_2 c1_3 l1
  refine (SegRight_is ax ay bx b_y true HP1.out _iax _iay _ibx _ib_y  _).mono ?_
  rintro e U3 ⟨rfl, hn⟩
  replace k1 := k1.of hn
  replace k2 := k2.of hn
  replace k3 := k3.of hn
  replace hb0 := hb0.trans (hn.mono hb0.size)
  clear hn
  have c2_0 : U3.cell? ⟨(w.heap.size + 1), 0, none⟩ = some (.int .i64 cx) := k2.cell 0
  have c2_1 : U3.cell? ⟨(w.heap.size + 1), 1, none⟩ = some (.int .i64 cy) := k2.cell 1
  have l2 := k2.lt
  go_wp2_with fail
  clear c2_0 c2_1 l2
  refine (PtRight_v cx cy true HP2.out _).mono ?_
  rintro e U4 ⟨rfl, hn⟩
  replace k1 := k1.of hn
  replace k2 := k2.of hn
  replace k3 := k3.of hn
  replace hb0 := hb0.trans (hn.mono hb0.size)
  clear hn
  go_wp2_with fail
  refine (rtOf_is 0 0 1 HP3.out HP4.out (by unfold In64; omega)  _).mono ?_
  rintro e U5 ⟨rfl, hn⟩
  replace k1 := k1.of hn
  replace k2 := k2.of hn
  replace k3 := k3.of hn
  replace hb0 := hb0.trans (hn.mono hb0.size)
  clear hn
  go_wp2_with fail
  refine (rtOf_is 1 1 1 HP5.out HP6.out (by unfold In64; omega)  _).mono ?_
  rintro e U6 ⟨rfl, hn⟩
  replace k1 := k1.of hn
  replace k2 := k2.of hn
  replace k3 := k3.of hn
  replace hb0 := hb0.trans (hn.mono hb0.size)
  clear hn
  go_wp2_with (first | ((with_reducible refine stRow (U6.heap.size) #[.int .u64 (wd0 0), .int .u64 (wd1 0), .int .u64 (wd2 0), .int .u64 (wd3 0), .int .u64 (wd0 1), .int .u64 (wd1 1), .int .u64 (wd2 1), .int .u64 (wd3 1), .int .u64 (wd0 1), .int .u64 (wd1 1), .int .u64 (wd2 1), .int .u64 (wd3 1), .int .u64 (wd0 1), .int .u64 (wd1 1), .int .u64 (wd2 1), .int .u64 (wd3 1), .bool false, .bool false] _ _ (Blk.new _ _ _) ?_ ?_ ?_ ?_ ?_ ?_); rfl; rfl; (as_aux_lemma => kernel_rfl); rfl; (as_aux_lemma => kernel_rfl); simp only [Act.put]))
  first | refine calls_w ?_ | refine name_world ?_ | refine list_world ?_ | refine post_world ?_
  intro V7 hV7
  rw [World.setRow_alloc_new] at hV7
  have D1 := Lib.hid k1.lt
  have D2 := Lib.hid k2.lt
  have D3 := Lib.hid k3.lt
  have D4 := Lib.hid hb0.size
  have hn : Below U6.heap.size U6 V7 := by rw [hV7]; exact below_a1 _ _
  have nk1 := k1.of hn
  have nk2 := k2.of hn
  have nk3 := k3.of hn
  have nhb0 := hb0.trans (hn.mono hb0.size)
  clear hn
  have k4 : Blk V7 U6.heap.size #[.int .u64 (wd0 0), .int .u64 (wd1 0), .int .u64 (wd2 0), .int .u64 (wd3 0), .int .u64 (wd0 1), .int .u64 (wd1 1), .int .u64 (wd2 1), .int .u64 (wd3 1), .int .u64 (wd0 1), .int .u64 (wd1 1), .int .u64 (wd2 1), .int .u64 (wd3 1), .int .u64 (wd0 1), .int .u64 (wd1 1), .int .u64 (wd2 1), .int .u64 (wd3 1), .bool false, .bool false] 54 := by rw [hV7]; exact (Blk.new _ _ _)
  clear k1 k2 k3
  clear hb0
  clear hV7
  have k1 := nk1
  clear nk1
  have k2 := nk2
  clear nk2
  have k3 := nk3
  clear nk3
  have hb0 := nhb0
  clear nhb0
  have c2_0 : V7.cell? ⟨(w.heap.size + 1), 0, none⟩ = some (.int .i64 cx) := k2.cell 0
  have c2_1 : V7.cell? ⟨(w.heap.size + 1), 1, none⟩ = some (.int .i64 cy) := k2.cell 1
  have l2 := k2.lt
  have Kk1 := Lib.hid k1
  clear k1
  have Kk2 := Lib.hid k2
  clear k2
  have Kk3 := Lib.hid k3
  clear k3
  have Kk4 := Lib.hid k4
  clear k4
  refine wp_region_up V7.heap.size 11 [(true, 0), (true, 1), (true, 2), (true, 3), (true, 4), (true, 5), (true, 6), (true, 7), (true, 8), (true, 9), (true, 10)] (by kernel_rfl) (by kernel_rfl) (fun _ _ d _ _ h => by cases d <;> exact h) ?_
  have hb : Below V7.heap.size V7 V7.drew := (Below.refl _ _).drew
  iterate 11
    refine wpS_takeL rfl rfl ?_
    go_big_quiet_step (rfl)
    refine wpQuiet_nil ?_
  refine wpS_nil ?_
  simp only [List.drop_succ_cons, List.drop_zero]
  first | refine calls_w ?_ | refine name_world ?_ | refine list_world ?_ | refine post_world ?_
  intro U8 hU8
  first | (subst hU8; have u_ := U8; clear u_) | (rw [← hU8] at hb; clear hU8)
  clear c2_0 c2_1 l2
  have k1 := Kk1.out.of hb
  clear Kk1
  have k2 := Kk2.out.of hb
  clear Kk2
  have k3 := Kk3.out.of hb
  clear Kk3
  have k4 := Kk4.out.of hb
  clear Kk4
  replace hb0 := hb0.trans (hb.mono hb0.size)
  clear hb
  have c1_0 : U8.cell? ⟨w.heap.size, 0, none⟩ = some (.int .i64 ax) := k1.cell 0
  have c1_2 : U8.cell? ⟨w.heap.size, 2, none⟩ = some (.int .i64 bx) := k1.cell 2
  have l1 := k1.lt
  go_wp2_with fail
  clear c1_0 c1_2 l1
  refine (pxba_is 0 1 1 1 false false ax (wrap64 (bx - ax)) (wrap64 ((wrap64 ((wrap64 (2 * cx)) * n)) - n)) (wrap64 ((wrap64 ((wrap64 (2 * cx)) * n)) + n)) true pfn pfd ptn ptd pfo pto HP7.out HP8.out HP9.out HP10.out HP11.out HP12.out HP13.out (by unfold InI b255; omega) (by unfold InI b255; omega) (by unfold InI b255; omega) (by unfold InI b255; omega) _iax (wrap64_in _) (wrap64_in _) (wrap64_in _) (U6.heap.size) _ k4).mono ?_
  rintro e U9 ⟨rfl, hk_, hn⟩
  clear k2
  replace k1 := k1.below hn (by have := D1.out; omega)
  replace k3 := k3.below hn (by have := D3.out; omega)
  replace k4 := hk_
  clear hk_
  replace hb0 := hb0.trans (hn.mono (by have := D4.out; omega))
  clear hn
  have c1_1 : U9.cell? ⟨w.heap.size, 1, none⟩ = some (.int .i64 ay) := k1.cell 1
  have c1_3 : U9.cell? ⟨w.heap.size, 3, none⟩ = some (.int .i64 b_y) := k1.cell 3
  have l1 := k1.lt
  go_wp2_with fail
  clear c1_1 c1_3 l1
  refine (pxba_is pfn pfd ptn ptd pfo pto ay (wrap64 (b_y - ay)) (wrap64 ((wrap64 ((wrap64 (2 * cy)) * n)) - n)) (wrap64 ((wrap64 ((wrap64 (2 * cy)) * n)) + n)) true qfn qfd qtn qtd qfo qto HP14.out HP15.out HP16.out HP17.out HP18.out HP19.out HP20.out _ipfn _ipfd _iptn _iptd _iay (wrap64_in _) (wrap64_in _) (wrap64_in _) (U6.heap.size) _ k4).mono ?_
  rintro e U10 ⟨rfl, hk_, hn⟩
  clear k1
  replace k3 := k3.below hn (by have := D3.out; omega)
  replace k4 := hk_
  clear hk_
  replace hb0 := hb0.trans (hn.mono (by have := D4.out; omega))
  clear hn
  go_wp2_with fail
  refine (pxsm_is qfn qfd qtn qtd qfo qto false qfn qfd qtn qtd qfo qto HP21.out HP22.out HP23.out HP24.out HP25.out HP26.out HP27.out _iqfn _iqfd _iqtn _iqtd (U6.heap.size) _ k4).mono ?_
  rintro e U11 ⟨rfl, hk_, hn⟩
  replace k3 := k3.below hn (by have := D3.out; omega)
  replace k4 := hk_
  clear hk_
  replace hb0 := hb0.trans (hn.mono (by have := D4.out; omega))
  clear hn
  have e0 : 0 = R0 := by rw [← HR0.out]; (try rw [HP0.out]); (try rw [HP1.out]); (try rw [HP2.out]); (try rw [HP3.out]); (try rw [HP4.out]); (try rw [HP5.out]); (try rw [HP6.out]); (try rw [HP7.out]); (try rw [HP8.out]); (try rw [HP9.out]); (try rw [HP10.out]); (try rw [HP11.out]); (try rw [HP12.out]); (try rw [HP13.out]); (try rw [HP14.out]); (try rw [HP15.out]); (try rw [HP16.out]); (try rw [HP17.out]); (try rw [HP18.out]); (try rw [HP19.out]); (try rw [HP20.out]); (try rw [HP21.out]); (try rw [HP22.out]); (try rw [HP23.out]); (try rw [HP24.out]); (try rw [HP25.out]); (try rw [HP26.out]); (try rw [HP27.out]); all_goals first | rfl | simp
  have e1 : 0 = R1 := by rw [← HR1.out]; (try rw [HP0.out]); (try rw [HP1.out]); (try rw [HP2.out]); (try rw [HP3.out]); (try rw [HP4.out]); (try rw [HP5.out]); (try rw [HP6.out]); (try rw [HP7.out]); (try rw [HP8.out]); (try rw [HP9.out]); (try rw [HP10.out]); (try rw [HP11.out]); (try rw [HP12.out]); (try rw [HP13.out]); (try rw [HP14.out]); (try rw [HP15.out]); (try rw [HP16.out]); (try rw [HP17.out]); (try rw [HP18.out]); (try rw [HP19.out]); (try rw [HP20.out]); (try rw [HP21.out]); (try rw [HP22.out]); (try rw [HP23.out]); (try rw [HP24.out]); (try rw [HP25.out]); (try rw [HP26.out]); (try rw [HP27.out]); all_goals first | rfl | simp
  have e2 : 0 = R2 := by rw [← HR2.out]; (try rw [HP0.out]); (try rw [HP1.out]); (try rw [HP2.out]); (try rw [HP3.out]); (try rw [HP4.out]); (try rw [HP5.out]); (try rw [HP6.out]); (try rw [HP7.out]); (try rw [HP8.out]); (try rw [HP9.out]); (try rw [HP10.out]); (try rw [HP11.out]); (try rw [HP12.out]); (try rw [HP13.out]); (try rw [HP14.out]); (try rw [HP15.out]); (try rw [HP16.out]); (try rw [HP17.out]); (try rw [HP18.out]); (try rw [HP19.out]); (try rw [HP20.out]); (try rw [HP21.out]); (try rw [HP22.out]); (try rw [HP23.out]); (try rw [HP24.out]); (try rw [HP25.out]); (try rw [HP26.out]); (try rw [HP27.out]); all_goals first | rfl | simp
  have e3 : 0 = R3 := by rw [← HR3.out]; (try rw [HP0.out]); (try rw [HP1.out]); (try rw [HP2.out]); (try rw [HP3.out]); (try rw [HP4.out]); (try rw [HP5.out]); (try rw [HP6.out]); (try rw [HP7.out]); (try rw [HP8.out]); (try rw [HP9.out]); (try rw [HP10.out]); (try rw [HP11.out]); (try rw [HP12.out]); (try rw [HP13.out]); (try rw [HP14.out]); (try rw [HP15.out]); (try rw [HP16.out]); (try rw [HP17.out]); (try rw [HP18.out]); (try rw [HP19.out]); (try rw [HP20.out]); (try rw [HP21.out]); (try rw [HP22.out]); (try rw [HP23.out]); (try rw [HP24.out]); (try rw [HP25.out]); (try rw [HP26.out]); (try rw [HP27.out]); all_goals first | rfl | simp
  have e4 : false = R4 := by rw [← HR4.out]; (try rw [HP0.out]); (try rw [HP1.out]); (try rw [HP2.out]); (try rw [HP3.out]); (try rw [HP4.out]); (try rw [HP5.out]); (try rw [HP6.out]); (try rw [HP7.out]); (try rw [HP8.out]); (try rw [HP9.out]); (try rw [HP10.out]); (try rw [HP11.out]); (try rw [HP12.out]); (try rw [HP13.out]); (try rw [HP14.out]); (try rw [HP15.out]); (try rw [HP16.out]); (try rw [HP17.out]); (try rw [HP18.out]); (try rw [HP19.out]); (try rw [HP20.out]); (try rw [HP21.out]); (try rw [HP22.out]); (try rw [HP23.out]); (try rw [HP24.out]); (try rw [HP25.out]); (try rw [HP26.out]); (try rw [HP27.out]); all_goals first | rfl | simp
  have e5 : false = R5 := by rw [← HR5.out]; (try rw [HP0.out]); (try rw [HP1.out]); (try rw [HP2.out]); (try rw [HP3.out]); (try rw [HP4.out]); (try rw [HP5.out]); (try rw [HP6.out]); (try rw [HP7.out]); (try rw [HP8.out]); (try rw [HP9.out]); (try rw [HP10.out]); (try rw [HP11.out]); (try rw [HP12.out]); (try rw [HP13.out]); (try rw [HP14.out]); (try rw [HP15.out]); (try rw [HP16.out]); (try rw [HP17.out]); (try rw [HP18.out]); (try rw [HP19.out]); (try rw [HP20.out]); (try rw [HP21.out]); (try rw [HP22.out]); (try rw [HP23.out]); (try rw [HP24.out]); (try rw [HP25.out]); (try rw [HP26.out]); (try rw [HP27.out]); all_goals first | rfl | simp
  have e6 : false = R6 := by rw [← HR6.out]; (try rw [HP0.out]); (try rw [HP1.out]); (try rw [HP2.out]); (try rw [HP3.out]); (try rw [HP4.out]); (try rw [HP5.out]); (try rw [HP6.out]); (try rw [HP7.out]); (try rw [HP8.out]); (try rw [HP9.out]); (try rw [HP10.out]); (try rw [HP11.out]); (try rw [HP12.out]); (try rw [HP13.out]); (try rw [HP14.out]); (try rw [HP15.out]); (try rw [HP16.out]); (try rw [HP17.out]); (try rw [HP18.out]); (try rw [HP19.out]); (try rw [HP20.out]); (try rw [HP21.out]); (try rw [HP22.out]); (try rw [HP23.out]); (try rw [HP24.out]); (try rw [HP25.out]); (try rw [HP26.out]); (try rw [HP27.out]); all_goals first | rfl | simp
  subst e0
  subst e1
  subst e2
  subst e3
  subst e4
  subst e5
  subst e6
  go_wp2_with (first | ((with_reducible refine stRow (w.heap.size + 1 + 1) #[.int .u64 0, .int .u64 0, .int .u64 0, .int .u64 0, .int .u64 0, .int .u64 0, .int .u64 0, .int .u64 0, .int .u64 0, .int .u64 0, .int .u64 0, .int .u64 0, .int .u64 0, .int .u64 0, .int .u64 0, .int .u64 0, .bool false, .bool false] _ _ k3 ?_ ?_ ?_ ?_ ?_ ?_); rfl; rfl; (as_aux_lemma => kernel_rfl); rfl; (as_aux_lemma => kernel_rfl); simp only [Act.put]))
  first | refine post_world ?_
  intro V12 hV12
  have D5 := Lib.hid k3.lt
  have D6 := Lib.hid k4.lt
  have D7 := Lib.hid hb0.size
  clear k4
  have nk3 : Blk V12 (w.heap.size + 1 + 1) #[.int .u64 0, .int .u64 0, .int .u64 0, .int .u64 0, .int .u64 0, .int .u64 0, .int .u64 0, .int .u64 0, .int .u64 0, .int .u64 0, .int .u64 0, .int .u64 0, .int .u64 0, .int .u64 0, .int .u64 0, .int .u64 0, .bool false, .bool false] 54 := by rw [hV12]; exact blk_row k3 _
  have nhb0 : Below w.heap.size w V12 := by rw [hV12]; exact blw_row hb0 (by omega) _
  clear k3
  clear hb0
  clear hV12
  have k3 := nk3
  clear nk3
  have hb0 := nhb0
  clear nhb0
  refine ⟨rfl, _, results_row_tmp rfl _ _ _ _ _ _ _ rfl k3 rfl rfl (by as_aux_lemma => kernel_rfl), ?_, hb0⟩
  first | rfl | kernel_rfl

set_option maxRecDepth 100000 in
set_option maxHeartbeats 4000000 in

theorem pxCut_6 (ax : Int) (ay : Int) (bx : Int) (b_y : Int) (cx : Int) (cy : Int) (n : Int) (pfn : Int) (pfd : Int) (ptn : Int) (ptd : Int) (pfo : Bool) (pto : Bool) (qfn : Int) (qfd : Int) (qtn : Int) (qtd : Int) (qfo : Bool) (qto : Bool) (R0 : Int) (R1 : Int) (R2 : Int) (R3 : Int) (R4 : Bool) (R5 : Bool) (R6 : Bool) (hR0 : (fun (_ : Int) (_ : Int) (_ : Int) (_ : Int) (_ : Int) (_ : Int) (_ : Int) => qfn) ax ay bx b_y cx cy n = R0) (hR1 : (fun (_ : Int) (_ : Int) (_ : Int) (_ : Int) (_ : Int) (_ : Int) (_ : Int) => qfd) ax ay bx b_y cx cy n = R1) (hR2 : (fun (_ : Int) (_ : Int) (_ : Int) (_ : Int) (_ : Int) (_ : Int) (_ : Int) => qtn) ax ay bx b_y cx cy n = R2) (hR3 : (fun (_ : Int) (_ : Int) (_ : Int) (_ : Int) (_ : Int) (_ : Int) (_ : Int) => qtd) ax ay bx b_y cx cy n = R3) (hR4 : (fun (_ : Int) (_ : Int) (_ : Int) (_ : Int) (_ : Int) (_ : Int) (_ : Int) => qfo) ax ay bx b_y cx cy n = R4) (hR5 : (fun (_ : Int) (_ : Int) (_ : Int) (_ : Int) (_ : Int) (_ : Int) (_ : Int) => qto) ax ay bx b_y cx cy n = R5) (hR6 : (fun (_ : Int) (_ : Int) (_ : Int) (_ : Int) (_ : Int) (_ : Int) (_ : Int) => true) ax ay bx b_y cx cy n = R6) (hP0 : pxS n = true) (hP1 : sgR ax ay bx b_y = true) (hP2 : rp cx cy = true) (hP3 : rtOn 0 = 0) (hP4 : rtOd 0 = 1) (hP5 : rtOn 1 = 1) (hP6 : rtOd 1 = 1) (hP7 : bak 0 1 1 1 false false ax (wrap64 (bx - ax)) (wrap64 ((wrap64 ((wrap64 (2 * cx)) * n)) - n)) (wrap64 ((wrap64 ((wrap64 (2 * cx)) * n)) + n)) = true) (hP8 : bafn 0 1 1 1 false false ax (wrap64 (bx - ax)) (wrap64 ((wrap64 ((wrap64 (2 * cx)) * n)) - n)) (wrap64 ((wrap64 ((wrap64 (2 * cx)) * n)) + n)) = pfn) (hP9 : bafd 0 1 1 1 false false ax (wrap64 (bx - ax)) (wrap64 ((wrap64 ((wrap64 (2 * cx)) * n)) - n)) (wrap64 ((wrap64 ((wrap64 (2 * cx)) * n)) + n)) = pfd) (hP10 : batn 0 1 1 1 false false ax (wrap64 (bx - ax)) (wrap64 ((wrap64 ((wrap64 (2 * cx)) * n)) - n)) (wrap64 ((wrap64 ((wrap64 (2 * cx)) * n)) + n)) = ptn) (hP11 : batd 0 1 1 1 false false ax (wrap64 (bx - ax)) (wrap64 ((wrap64 ((wrap64 (2 * cx)) * n)) - n)) (wrap64 ((wrap64 ((wrap64 (2 * cx)) * n)) + n)) = ptd) (hP12 : bafo 0 1 1 1 false false ax (wrap64 (bx - ax)) (wrap64 ((wrap64 ((wrap64 (2 * cx)) * n)) - n)) (wrap64 ((wrap64 ((wrap64 (2 * cx)) * n)) + n)) = pfo) (hP13 : bato 0 1 1 1 false false ax (wrap64 (bx - ax)) (wrap64 ((wrap64 ((wrap64 (2 * cx)) * n)) - n)) (wrap64 ((wrap64 ((wrap64 (2 * cx)) * n)) + n)) = pto) (hP14 : bak pfn pfd ptn ptd pfo pto ay (wrap64 (b_y - ay)) (wrap64 ((wrap64 ((wrap64 (2 * cy)) * n)) - n)) (wrap64 ((wrap64 ((wrap64 (2 * cy)) * n)) + n)) = true) (hP15 : bafn pfn pfd ptn ptd pfo pto ay (wrap64 (b_y - ay)) (wrap64 ((wrap64 ((wrap64 (2 * cy)) * n)) - n)) (wrap64 ((wrap64 ((wrap64 (2 * cy)) * n)) + n)) = qfn) (hP16 : bafd pfn pfd ptn ptd pfo pto ay (wrap64 (b_y - ay)) (wrap64 ((wrap64 ((wrap64 (2 * cy)) * n)) - n)) (wrap64 ((wrap64 ((wrap64 (2 * cy)) * n)) + n)) = qfd) (hP17 : batn pfn pfd ptn ptd pfo pto ay (wrap64 (b_y - ay)) (wrap64 ((wrap64 ((wrap64 (2 * cy)) * n)) - n)) (wrap64 ((wrap64 ((wrap64 (2 * cy)) * n)) + n)) = qtn) (hP18 : batd pfn pfd ptn ptd pfo pto ay (wrap64 (b_y - ay)) (wrap64 ((wrap64 ((wrap64 (2 * cy)) * n)) - n)) (wrap64 ((wrap64 ((wrap64 (2 * cy)) * n)) + n)) = qtd) (hP19 : bafo pfn pfd ptn ptd pfo pto ay (wrap64 (b_y - ay)) (wrap64 ((wrap64 ((wrap64 (2 * cy)) * n)) - n)) (wrap64 ((wrap64 ((wrap64 (2 * cy)) * n)) + n)) = qfo) (hP20 : bato pfn pfd ptn ptd pfo pto ay (wrap64 (b_y - ay)) (wrap64 ((wrap64 ((wrap64 (2 * cy)) * n)) - n)) (wrap64 ((wrap64 ((wrap64 (2 * cy)) * n)) + n)) = qto) (hP21 : smk_ qfn qfd qtn qtd qfo qto = true) (hP22 : smfn qfn qfd qtn qtd qfo qto = qfn) (hP23 : smfd qfn qfd qtn qtd qfo qto = qfd) (hP24 : smtn qfn qfd qtn qtd qfo qto = qtn) (hP25 : smtd qfn qfd qtn qtd qfo qto = qtd) (hP26 : smfo qfn qfd qtn qtd qfo qto = qfo) (hP27 : smto qfn qfd qtn qtd qfo qto = qto) (_ipfn : InI pfn) (_ipfd : InI pfd) (_iptn : InI ptn) (_iptd : InI ptd) (_iqfn : InI qfn) (_iqfd : InI qfd) (_iqtn : InI qtn) (_iqtd : InI qtd) (_iax : In64 ax) (_iay : In64 ay) (_ibx : In64 bx) (_ib_y : In64 b_y) (_icx : In64 cx) (_icy : In64 cy) (_in : In64 n)  (w : World)  :
    Calls Try.prog 30 #[.agg #[.int .i64 ax, .int .i64 ay, .int .i64 bx, .int .i64 b_y], .agg #[.int .i64 cx, .int .i64 cy], .int .i64 n] w fun e w' => e = .returned (.tuple #[.agg #[.int .u64 (wd0 R0), .int .u64 (wd1 R0), .int .u64 (wd2 R0), .int .u64 (wd3 R0), .int .u64 (wd0 R1), .int .u64 (wd1 R1), .int .u64 (wd2 R1), .int .u64 (wd3 R1), .int .u64 (wd0 R2), .int .u64 (wd1 R2), .int .u64 (wd2 R2), .int .u64 (wd3 R2), .int .u64 (wd0 R3), .int .u64 (wd1 R3), .int .u64 (wd2 R3), .int .u64 (wd3 R3), .bool R4, .bool R5], .bool R6]) ∧ Below w.heap.size w w' := by

  have HP0 := Lib.hid hP0
  clear hP0
  have HP1 := Lib.hid hP1
  clear hP1
  have HP2 := Lib.hid hP2
  clear hP2
  have HP3 := Lib.hid hP3
  clear hP3
  have HP4 := Lib.hid hP4
  clear hP4
  have HP5 := Lib.hid hP5
  clear hP5
  have HP6 := Lib.hid hP6
  clear hP6
  have HP7 := Lib.hid hP7
  clear hP7
  have HP8 := Lib.hid hP8
  clear hP8
  have HP9 := Lib.hid hP9
  clear hP9
  have HP10 := Lib.hid hP10
  clear hP10
  have HP11 := Lib.hid hP11
  clear hP11
  have HP12 := Lib.hid hP12
  clear hP12
  have HP13 := Lib.hid hP13
  clear hP13
  have HP14 := Lib.hid hP14
  clear hP14
  have HP15 := Lib.hid hP15
  clear hP15
  have HP16 := Lib.hid hP16
  clear hP16
  have HP17 := Lib.hid hP17
  clear hP17
  have HP18 := Lib.hid hP18
  clear hP18
  have HP19 := Lib.hid hP19
  clear hP19
  have HP20 := Lib.hid hP20
  clear hP20
  have HP21 := Lib.hid hP21
  clear hP21
  have HP22 := Lib.hid hP22
  clear hP22
  have HP23 := Lib.hid hP23
  clear hP23
  have HP24 := Lib.hid hP24
  clear hP24
  have HP25 := Lib.hid hP25
  clear hP25
  have HP26 := Lib.hid hP26
  clear hP26
  have HP27 := Lib.hid hP27
  clear hP27
  have HR0 := Lib.hid hR0
  clear hR0
  have HR1 := Lib.hid hR1
  clear hR1
  have HR2 := Lib.hid hR2
  clear hR2
  have HR3 := Lib.hid hR3
  clear hR3
  have HR4 := Lib.hid hR4
  clear hR4
  have HR5 := Lib.hid hR5
  clear hR5
  have HR6 := Lib.hid hR6
  clear hR6
  go_enter Try.func30, Try.ntmps30
  go_wp2_with fail
  first | refine calls_w ?_ | refine name_world ?_ | refine list_world ?_ | refine post_world ?_
  intro V1 hV1
  have hn : Below w.heap.size w V1 := by rw [hV1]; exact below_a3 _ _ _ _
  have nhb0 := hn
  have k1 : Blk V1 w.heap.size #[.int .i64 ax, .int .i64 ay, .int .i64 bx, .int .i64 b_y] 50 := by rw [hV1]; exact (((Blk.new _ _ _).alloc _).alloc _)
  have k2 : Blk V1 (w.heap.size + 1) #[.int .i64 cx, .int .i64 cy] 24 := by rw [hV1]; exact ((Blk.new1 _ _ _ _).alloc _)
  have k3 : Blk V1 (w.heap.size + 1 + 1) #[.int .u64 0, .int .u64 0, .int .u64 0, .int .u64 0, .int .u64 0, .int .u64 0, .int .u64 0, .int .u64 0, .int .u64 0, .int .u64 0, .int .u64 0, .int .u64 0, .int .u64 0, .int .u64 0, .int .u64 0, .int .u64 0, .bool false, .bool false] 54 := by rw [hV1]; exact (Blk.new2 _ _ _ _ _)
  clear hV1
  have hb0 := nhb0
  clear nhb0
  refine (pxSize_is n true HP0.out _in  _).mono ?_
  rintro e U2 ⟨rfl, hn⟩
  replace k1 := k1.of hn
  replace k2 := k2.of hn
  replace k3 := k3.of hn
  replace hb0 := hb0.trans (hn.mono hb0.size)
  clear hn
  have c1_0 : U2.cell? ⟨w.heap.size, 0, none⟩ = some (.int .i64 ax) := k1.cell 0
  have c1_1 : U2.cell? ⟨w.heap.size, 1, none⟩ = some (.int .i64 ay) := k1.cell 1
  have c1_2 : U2.cell? ⟨w.heap.size, 2, none⟩ = some (.int .i64 bx) := k1.cell 2
  have c1_3 : U2.cell? ⟨w.heap.size, 3, none⟩ = some (.int .i64 b_y) := k1.cell 3
  have l1 := k1.lt
  go_wp2_with fail
  clear c1_0 c1_1 c1_2 c1_3 l1
  refine (SegRight_is ax ay bx b_y true HP1.out _iax _iay _ibx _ib_y  _).mono ?_
  rintro e U3 ⟨rfl, hn⟩
  replace k1 := k1.of hn
  replace k2 := k2.of hn
  replace k3 := k3.of hn
  replace hb0 := hb0.trans (hn.mono hb0.size)
  clear hn
  have c2_0 : U3.cell? ⟨(w.heap.size + 1), 0, none⟩ = some (.int .i64 cx) := k2.cell 0
  have c2_1 : U3.cell? ⟨(w.heap.size + 1), 1, none⟩ = some (.int .i64 cy) := k2.cell 1
  have l2 := k2.lt
  go_wp2_with fail
  clear c2_0 c2_1 l2
  refine (PtRight_v cx cy true HP2.out _).mono ?_
  rintro e U4 ⟨rfl, hn⟩
  replace k1 := k1.of hn
  replace k2 := k2.of hn
  replace k3 := k3.of hn
  replace hb0 := hb0.trans (hn.mono hb0.size)
  clear hn
  go_wp2_with fail
  refine (rtOf_is 0 0 1 HP3.out HP4.out (by unfold In64; omega)  _).mono ?_
  rintro e U5 ⟨rfl, hn⟩
  replace k1 := k1.of hn
  replace k2 := k2.of hn
  replace k3 := k3.of hn
  replace hb0 := hb0.trans (hn.mono hb0.size)
  clear hn
  go_wp2_with fail
  refine (rtOf_is 1 1 1 HP5.out HP6.out (by unfold In64; omega)  _).mono ?_
  rintro e U6 ⟨rfl, hn⟩
  replace k1 := k1.of hn
  replace k2 := k2.of hn
  replace k3 := k3.of hn
  replace hb0 := hb0.trans (hn.mono hb0.size)
  clear hn
  go_wp2_with (first | ((with_reducible refine stRow (U6.heap.size) #[.int .u64 (wd0 0), .int .u64 (wd1 0), .int .u64 (wd2 0), .int .u64 (wd3 0), .int .u64 (wd0 1), .int .u64 (wd1 1), .int .u64 (wd2 1), .int .u64 (wd3 1), .int .u64 (wd0 1), .int .u64 (wd1 1), .int .u64 (wd2 1), .int .u64 (wd3 1), .int .u64 (wd0 1), .int .u64 (wd1 1), .int .u64 (wd2 1), .int .u64 (wd3 1), .bool false, .bool false] _ _ (Blk.new _ _ _) ?_ ?_ ?_ ?_ ?_ ?_); rfl; rfl; (as_aux_lemma => kernel_rfl); rfl; (as_aux_lemma => kernel_rfl); simp only [Act.put]))
  first | refine calls_w ?_ | refine name_world ?_ | refine list_world ?_ | refine post_world ?_
  intro V7 hV7
  rw [World.setRow_alloc_new] at hV7
  have D1 := Lib.hid k1.lt
  have D2 := Lib.hid k2.lt
  have D3 := Lib.hid k3.lt
  have D4 := Lib.hid hb0.size
  have hn : Below U6.heap.size U6 V7 := by rw [hV7]; exact below_a1 _ _
  have nk1 := k1.of hn
  have nk2 := k2.of hn
  have nk3 := k3.of hn
  have nhb0 := hb0.trans (hn.mono hb0.size)
  clear hn
  have k4 : Blk V7 U6.heap.size #[.int .u64 (wd0 0), .int .u64 (wd1 0), .int .u64 (wd2 0), .int .u64 (wd3 0), .int .u64 (wd0 1), .int .u64 (wd1 1), .int .u64 (wd2 1), .int .u64 (wd3 1), .int .u64 (wd0 1), .int .u64 (wd1 1), .int .u64 (wd2 1), .int .u64 (wd3 1), .int .u64 (wd0 1), .int .u64 (wd1 1), .int .u64 (wd2 1), .int .u64 (wd3 1), .bool false, .bool false] 54 := by rw [hV7]; exact (Blk.new _ _ _)
  clear k1 k2 k3
  clear hb0
  clear hV7
  have k1 := nk1
  clear nk1
  have k2 := nk2
  clear nk2
  have k3 := nk3
  clear nk3
  have hb0 := nhb0
  clear nhb0
  have c2_0 : V7.cell? ⟨(w.heap.size + 1), 0, none⟩ = some (.int .i64 cx) := k2.cell 0
  have c2_1 : V7.cell? ⟨(w.heap.size + 1), 1, none⟩ = some (.int .i64 cy) := k2.cell 1
  have l2 := k2.lt
  have Kk1 := Lib.hid k1
  clear k1
  have Kk2 := Lib.hid k2
  clear k2
  have Kk3 := Lib.hid k3
  clear k3
  have Kk4 := Lib.hid k4
  clear k4
  refine wp_region_up V7.heap.size 11 [(true, 0), (true, 1), (true, 2), (true, 3), (true, 4), (true, 5), (true, 6), (true, 7), (true, 8), (true, 9), (true, 10)] (by kernel_rfl) (by kernel_rfl) (fun _ _ d _ _ h => by cases d <;> exact h) ?_
  have hb : Below V7.heap.size V7 V7.drew := (Below.refl _ _).drew
  iterate 11
    refine wpS_takeL rfl rfl ?_
    go_big_quiet_step (rfl)
    refine wpQuiet_nil ?_
  refine wpS_nil ?_
  simp only [List.drop_succ_cons, List.drop_zero]
  first | refine calls_w ?_ | refine name_world ?_ | refine list_world ?_ | refine post_world ?_
  intro U8 hU8
  first | (subst hU8; have u_ := U8; clear u_) | (rw [← hU8] at hb; clear hU8)
  clear c2_0 c2_1 l2
  have k1 := Kk1.out.of hb
  clear Kk1
  have k2 := Kk2.out.of hb
  clear Kk2
  have k3 := Kk3.out.of hb
  clear Kk3
  have k4 := Kk4.out.of hb
  clear Kk4
  replace hb0 := hb0.trans (hb.mono hb0.size)
  clear hb
  have c1_0 : U8.cell? ⟨w.heap.size, 0, none⟩ = some (.int .i64 ax) := k1.cell 0
  have c1_2 : U8.cell? ⟨w.heap.size, 2, none⟩ = some (.int .i64 bx) := k1.cell 2
  have l1 := k1.lt
  go_wp2_with fail
  clear c1_0 c1_2 l1
  refine (pxba_is 0 1 1 1 false false ax (wrap64 (bx - ax)) (wrap64 ((wrap64 ((wrap64 (2 * cx)) * n)) - n)) (wrap64 ((wrap64 ((wrap64 (2 * cx)) * n)) + n)) true pfn pfd ptn ptd pfo pto HP7.out HP8.out HP9.out HP10.out HP11.out HP12.out HP13.out (by unfold InI b255; omega) (by unfold InI b255; omega) (by unfold InI b255; omega) (by unfold InI b255; omega) _iax (wrap64_in _) (wrap64_in _) (wrap64_in _) (U6.heap.size) _ k4).mono ?_
  rintro e U9 ⟨rfl, hk_, hn⟩
  clear k2
  replace k1 := k1.below hn (by have := D1.out; omega)
  replace k3 := k3.below hn (by have := D3.out; omega)
  replace k4 := hk_
  clear hk_
  replace hb0 := hb0.trans (hn.mono (by have := D4.out; omega))
  clear hn
  have c1_1 : U9.cell? ⟨w.heap.size, 1, none⟩ = some (.int .i64 ay) := k1.cell 1
  have c1_3 : U9.cell? ⟨w.heap.size, 3, none⟩ = some (.int .i64 b_y) := k1.cell 3
  have l1 := k1.lt
  go_wp2_with fail
  clear c1_1 c1_3 l1
  refine (pxba_is pfn pfd ptn ptd pfo pto ay (wrap64 (b_y - ay)) (wrap64 ((wrap64 ((wrap64 (2 * cy)) * n)) - n)) (wrap64 ((wrap64 ((wrap64 (2 * cy)) * n)) + n)) true qfn qfd qtn qtd qfo qto HP14.out HP15.out HP16.out HP17.out HP18.out HP19.out HP20.out _ipfn _ipfd _iptn _iptd _iay (wrap64_in _) (wrap64_in _) (wrap64_in _) (U6.heap.size) _ k4).mono ?_
  rintro e U10 ⟨rfl, hk_, hn⟩
  clear k1
  replace k3 := k3.below hn (by have := D3.out; omega)
  replace k4 := hk_
  clear hk_
  replace hb0 := hb0.trans (hn.mono (by have := D4.out; omega))
  clear hn
  go_wp2_with fail
  refine (pxsm_is qfn qfd qtn qtd qfo qto true qfn qfd qtn qtd qfo qto HP21.out HP22.out HP23.out HP24.out HP25.out HP26.out HP27.out _iqfn _iqfd _iqtn _iqtd (U6.heap.size) _ k4).mono ?_
  rintro e U11 ⟨rfl, hk_, hn⟩
  replace k3 := k3.below hn (by have := D3.out; omega)
  replace k4 := hk_
  clear hk_
  replace hb0 := hb0.trans (hn.mono (by have := D4.out; omega))
  clear hn
  have e0 : qfn = R0 := by rw [← HR0.out]; (try rw [HP0.out]); (try rw [HP1.out]); (try rw [HP2.out]); (try rw [HP3.out]); (try rw [HP4.out]); (try rw [HP5.out]); (try rw [HP6.out]); (try rw [HP7.out]); (try rw [HP8.out]); (try rw [HP9.out]); (try rw [HP10.out]); (try rw [HP11.out]); (try rw [HP12.out]); (try rw [HP13.out]); (try rw [HP14.out]); (try rw [HP15.out]); (try rw [HP16.out]); (try rw [HP17.out]); (try rw [HP18.out]); (try rw [HP19.out]); (try rw [HP20.out]); (try rw [HP21.out]); (try rw [HP22.out]); (try rw [HP23.out]); (try rw [HP24.out]); (try rw [HP25.out]); (try rw [HP26.out]); (try rw [HP27.out]); all_goals first | rfl | simp
  have e1 : qfd = R1 := by rw [← HR1.out]; (try rw [HP0.out]); (try rw [HP1.out]); (try rw [HP2.out]); (try rw [HP3.out]); (try rw [HP4.out]); (try rw [HP5.out]); (try rw [HP6.out]); (try rw [HP7.out]); (try rw [HP8.out]); (try rw [HP9.out]); (try rw [HP10.out]); (try rw [HP11.out]); (try rw [HP12.out]); (try rw [HP13.out]); (try rw [HP14.out]); (try rw [HP15.out]); (try rw [HP16.out]); (try rw [HP17.out]); (try rw [HP18.out]); (try rw [HP19.out]); (try rw [HP20.out]); (try rw [HP21.out]); (try rw [HP22.out]); (try rw [HP23.out]); (try rw [HP24.out]); (try rw [HP25.out]); (try rw [HP26.out]); (try rw [HP27.out]); all_goals first | rfl | simp
  have e2 : qtn = R2 := by rw [← HR2.out]; (try rw [HP0.out]); (try rw [HP1.out]); (try rw [HP2.out]); (try rw [HP3.out]); (try rw [HP4.out]); (try rw [HP5.out]); (try rw [HP6.out]); (try rw [HP7.out]); (try rw [HP8.out]); (try rw [HP9.out]); (try rw [HP10.out]); (try rw [HP11.out]); (try rw [HP12.out]); (try rw [HP13.out]); (try rw [HP14.out]); (try rw [HP15.out]); (try rw [HP16.out]); (try rw [HP17.out]); (try rw [HP18.out]); (try rw [HP19.out]); (try rw [HP20.out]); (try rw [HP21.out]); (try rw [HP22.out]); (try rw [HP23.out]); (try rw [HP24.out]); (try rw [HP25.out]); (try rw [HP26.out]); (try rw [HP27.out]); all_goals first | rfl | simp
  have e3 : qtd = R3 := by rw [← HR3.out]; (try rw [HP0.out]); (try rw [HP1.out]); (try rw [HP2.out]); (try rw [HP3.out]); (try rw [HP4.out]); (try rw [HP5.out]); (try rw [HP6.out]); (try rw [HP7.out]); (try rw [HP8.out]); (try rw [HP9.out]); (try rw [HP10.out]); (try rw [HP11.out]); (try rw [HP12.out]); (try rw [HP13.out]); (try rw [HP14.out]); (try rw [HP15.out]); (try rw [HP16.out]); (try rw [HP17.out]); (try rw [HP18.out]); (try rw [HP19.out]); (try rw [HP20.out]); (try rw [HP21.out]); (try rw [HP22.out]); (try rw [HP23.out]); (try rw [HP24.out]); (try rw [HP25.out]); (try rw [HP26.out]); (try rw [HP27.out]); all_goals first | rfl | simp
  have e4 : qfo = R4 := by rw [← HR4.out]; (try rw [HP0.out]); (try rw [HP1.out]); (try rw [HP2.out]); (try rw [HP3.out]); (try rw [HP4.out]); (try rw [HP5.out]); (try rw [HP6.out]); (try rw [HP7.out]); (try rw [HP8.out]); (try rw [HP9.out]); (try rw [HP10.out]); (try rw [HP11.out]); (try rw [HP12.out]); (try rw [HP13.out]); (try rw [HP14.out]); (try rw [HP15.out]); (try rw [HP16.out]); (try rw [HP17.out]); (try rw [HP18.out]); (try rw [HP19.out]); (try rw [HP20.out]); (try rw [HP21.out]); (try rw [HP22.out]); (try rw [HP23.out]); (try rw [HP24.out]); (try rw [HP25.out]); (try rw [HP26.out]); (try rw [HP27.out]); all_goals first | rfl | simp
  have e5 : qto = R5 := by rw [← HR5.out]; (try rw [HP0.out]); (try rw [HP1.out]); (try rw [HP2.out]); (try rw [HP3.out]); (try rw [HP4.out]); (try rw [HP5.out]); (try rw [HP6.out]); (try rw [HP7.out]); (try rw [HP8.out]); (try rw [HP9.out]); (try rw [HP10.out]); (try rw [HP11.out]); (try rw [HP12.out]); (try rw [HP13.out]); (try rw [HP14.out]); (try rw [HP15.out]); (try rw [HP16.out]); (try rw [HP17.out]); (try rw [HP18.out]); (try rw [HP19.out]); (try rw [HP20.out]); (try rw [HP21.out]); (try rw [HP22.out]); (try rw [HP23.out]); (try rw [HP24.out]); (try rw [HP25.out]); (try rw [HP26.out]); (try rw [HP27.out]); all_goals first | rfl | simp
  have e6 : true = R6 := by rw [← HR6.out]; (try rw [HP0.out]); (try rw [HP1.out]); (try rw [HP2.out]); (try rw [HP3.out]); (try rw [HP4.out]); (try rw [HP5.out]); (try rw [HP6.out]); (try rw [HP7.out]); (try rw [HP8.out]); (try rw [HP9.out]); (try rw [HP10.out]); (try rw [HP11.out]); (try rw [HP12.out]); (try rw [HP13.out]); (try rw [HP14.out]); (try rw [HP15.out]); (try rw [HP16.out]); (try rw [HP17.out]); (try rw [HP18.out]); (try rw [HP19.out]); (try rw [HP20.out]); (try rw [HP21.out]); (try rw [HP22.out]); (try rw [HP23.out]); (try rw [HP24.out]); (try rw [HP25.out]); (try rw [HP26.out]); (try rw [HP27.out]); all_goals first | rfl | simp
  subst e0
  subst e1
  subst e2
  subst e3
  subst e4
  subst e5
  subst e6
  go_wp2_with (first | ((with_reducible refine ldRow (U6.heap.size) #[.int .u64 (wd0 qfn), .int .u64 (wd1 qfn), .int .u64 (wd2 qfn), .int .u64 (wd3 qfn), .int .u64 (wd0 qfd), .int .u64 (wd1 qfd), .int .u64 (wd2 qfd), .int .u64 (wd3 qfd), .int .u64 (wd0 qtn), .int .u64 (wd1 qtn), .int .u64 (wd2 qtn), .int .u64 (wd3 qtn), .int .u64 (wd0 qtd), .int .u64 (wd1 qtd), .int .u64 (wd2 qtd), .int .u64 (wd3 qtd), .bool qfo, .bool qto] _ k4 ?_ ?_ ?_ ?_); rfl; exact ⟨_, rfl, rfl⟩; (as_aux_lemma => kernel_rfl); simp only [Act.put, List.setIfInBounds_toArray, List.set_cons_succ, List.set_cons_zero]) | ((with_reducible refine stRow (w.heap.size + 1 + 1) #[.int .u64 (wd0 qfn), .int .u64 (wd1 qfn), .int .u64 (wd2 qfn), .int .u64 (wd3 qfn), .int .u64 (wd0 qfd), .int .u64 (wd1 qfd), .int .u64 (wd2 qfd), .int .u64 (wd3 qfd), .int .u64 (wd0 qtn), .int .u64 (wd1 qtn), .int .u64 (wd2 qtn), .int .u64 (wd3 qtn), .int .u64 (wd0 qtd), .int .u64 (wd1 qtd), .int .u64 (wd2 qtd), .int .u64 (wd3 qtd), .bool qfo, .bool qto] _ _ k3 ?_ ?_ ?_ ?_ ?_ ?_); rfl; rfl; (as_aux_lemma => kernel_rfl); rfl; (as_aux_lemma => kernel_rfl); simp only [Act.put]))
  first | refine post_world ?_
  intro V12 hV12
  clear k4
  have D5 := Lib.hid k3.lt
  have D6 := Lib.hid hb0.size
  have nk3 : Blk V12 (w.heap.size + 1 + 1) #[.int .u64 (wd0 qfn), .int .u64 (wd1 qfn), .int .u64 (wd2 qfn), .int .u64 (wd3 qfn), .int .u64 (wd0 qfd), .int .u64 (wd1 qfd), .int .u64 (wd2 qfd), .int .u64 (wd3 qfd), .int .u64 (wd0 qtn), .int .u64 (wd1 qtn), .int .u64 (wd2 qtn), .int .u64 (wd3 qtn), .int .u64 (wd0 qtd), .int .u64 (wd1 qtd), .int .u64 (wd2 qtd), .int .u64 (wd3 qtd), .bool qfo, .bool qto] 54 := by rw [hV12]; exact blk_row k3 _
  have nhb0 : Below w.heap.size w V12 := by rw [hV12]; exact blw_row hb0 (by omega) _
  clear k3
  clear hb0
  clear hV12
  have k3 := nk3
  clear nk3
  have hb0 := nhb0
  clear nhb0
  refine ⟨rfl, _, results_row_tmp rfl _ _ _ _ _ _ _ rfl k3 rfl rfl (by as_aux_lemma => kernel_rfl), ?_, hb0⟩
  first | rfl | kernel_rfl
end Go.Proofs.Ytlcbomjdbdgbmaa

namespace Go.Proofs.Ytlcbomjdbdgbmaa
open Go.RowKit

theorem in_1 : InI 1 := by unfold InI b255; omega
theorem c1fn_in {ax : Int} (bx cx n : Int) (h : In64 ax) : InI (c1fn ax bx cx n) := bafn_in _ _ _ _ _ _ _ _ _ _ in_0 in_1 in_1 in_1 h (wrap64_in _) (wrap64_in _) (wrap64_in _)
theorem c1fd_in {ax : Int} (bx cx n : Int) (h : In64 ax) : InI (c1fd ax bx cx n) := bafd_in _ _ _ _ _ _ _ _ _ _ in_0 in_1 in_1 in_1 h (wrap64_in _) (wrap64_in _) (wrap64_in _)
theorem c1tn_in {ax : Int} (bx cx n : Int) (h : In64 ax) : InI (c1tn ax bx cx n) := batn_in _ _ _ _ _ _ _ _ _ _ in_0 in_1 in_1 in_1 h (wrap64_in _) (wrap64_in _) (wrap64_in _)
theorem c1td_in {ax : Int} (bx cx n : Int) (h : In64 ax) : InI (c1td ax bx cx n) := batd_in _ _ _ _ _ _ _ _ _ _ in_0 in_1 in_1 in_1 h (wrap64_in _) (wrap64_in _) (wrap64_in _)
theorem c2fn_in {ax ay : Int} (bx b_y cx cy n : Int) (h : In64 ax) (k : In64 ay) : InI (c2fn ax ay bx b_y cx cy n) := bafn_in _ _ _ _ _ _ _ _ _ _ (c1fn_in _ _ _ h) (c1fd_in _ _ _ h) (c1tn_in _ _ _ h) (c1td_in _ _ _ h) k (wrap64_in _) (wrap64_in _) (wrap64_in _)
theorem c2fd_in {ax ay : Int} (bx b_y cx cy n : Int) (h : In64 ax) (k : In64 ay) : InI (c2fd ax ay bx b_y cx cy n) := bafd_in _ _ _ _ _ _ _ _ _ _ (c1fn_in _ _ _ h) (c1fd_in _ _ _ h) (c1tn_in _ _ _ h) (c1td_in _ _ _ h) k (wrap64_in _) (wrap64_in _) (wrap64_in _)
theorem c2tn_in {ax ay : Int} (bx b_y cx cy n : Int) (h : In64 ax) (k : In64 ay) : InI (c2tn ax ay bx b_y cx cy n) := batn_in _ _ _ _ _ _ _ _ _ _ (c1fn_in _ _ _ h) (c1fd_in _ _ _ h) (c1tn_in _ _ _ h) (c1td_in _ _ _ h) k (wrap64_in _) (wrap64_in _) (wrap64_in _)
theorem c2td_in {ax ay : Int} (bx b_y cx cy n : Int) (h : In64 ax) (k : In64 ay) : InI (c2td ax ay bx b_y cx cy n) := batd_in _ _ _ _ _ _ _ _ _ _ (c1fn_in _ _ _ h) (c1fd_in _ _ _ h) (c1tn_in _ _ _ h) (c1td_in _ _ _ h) k (wrap64_in _) (wrap64_in _) (wrap64_in _)
theorem cufn_in (ax : Int) (ay : Int) (bx : Int) (b_y : Int) (cx : Int) (cy : Int) (n : Int) (_iax : In64 ax) (_iay : In64 ay) (_ibx : In64 bx) (_ib_y : In64 b_y) (_icx : In64 cx) (_icy : In64 cy) (_in : In64 n) : InI (cufn ax ay bx b_y cx cy n) := by
  unfold cufn
  exact cond_in (c2fn_in _ _ _ _ _ _iax _iay) in_0
theorem cufd_in (ax : Int) (ay : Int) (bx : Int) (b_y : Int) (cx : Int) (cy : Int) (n : Int) (_iax : In64 ax) (_iay : In64 ay) (_ibx : In64 bx) (_ib_y : In64 b_y) (_icx : In64 cx) (_icy : In64 cy) (_in : In64 n) : InI (cufd ax ay bx b_y cx cy n) := by
  unfold cufd
  exact cond_in (c2fd_in _ _ _ _ _ _iax _iay) in_0
theorem cutn_in (ax : Int) (ay : Int) (bx : Int) (b_y : Int) (cx : Int) (cy : Int) (n : Int) (_iax : In64 ax) (_iay : In64 ay) (_ibx : In64 bx) (_ib_y : In64 b_y) (_icx : In64 cx) (_icy : In64 cy) (_in : In64 n) : InI (cutn ax ay bx b_y cx cy n) := by
  unfold cutn
  exact cond_in (c2tn_in _ _ _ _ _ _iax _iay) in_0
theorem cutd_in (ax : Int) (ay : Int) (bx : Int) (b_y : Int) (cx : Int) (cy : Int) (n : Int) (_iax : In64 ax) (_iay : In64 ay) (_ibx : In64 bx) (_ib_y : In64 b_y) (_icx : In64 cx) (_icy : In64 cy) (_in : In64 n) : InI (cutd ax ay bx b_y cx cy n) := by
  unfold cutd
  exact cond_in (c2td_in _ _ _ _ _ _iax _iay) in_0
theorem cut_v (ax : Int) (ay : Int) (bx : Int) (b_y : Int) (cx : Int) (cy : Int) (n : Int) (R0 : Int) (R1 : Int) (R2 : Int) (R3 : Int) (R4 : Bool) (R5 : Bool) (R6 : Bool) (h0 : cufn ax ay bx b_y cx cy n = R0) (h1 : cufd ax ay bx b_y cx cy n = R1) (h2 : cutn ax ay bx b_y cx cy n = R2) (h3 : cutd ax ay bx b_y cx cy n = R3) (h4 : cufo ax ay bx b_y cx cy n = R4) (h5 : cuto ax ay bx b_y cx cy n = R5) (h6 : cuk ax ay bx b_y cx cy n = R6) (_iax : In64 ax) (_iay : In64 ay) (_ibx : In64 bx) (_ib_y : In64 b_y) (_icx : In64 cx) (_icy : In64 cy) (_in : In64 n) (w : World) :
    Calls Try.prog 30 #[.agg #[.int .i64 ax, .int .i64 ay, .int .i64 bx, .int .i64 b_y], .agg #[.int .i64 cx, .int .i64 cy], .int .i64 n] w fun e w' => e = .returned (.tuple #[.agg #[.int .u64 (wd0 R0), .int .u64 (wd1 R0), .int .u64 (wd2 R0), .int .u64 (wd3 R0), .int .u64 (wd0 R1), .int .u64 (wd1 R1), .int .u64 (wd2 R1), .int .u64 (wd3 R1), .int .u64 (wd0 R2), .int .u64 (wd1 R2), .int .u64 (wd2 R2), .int .u64 (wd3 R2), .int .u64 (wd0 R3), .int .u64 (wd1 R3), .int .u64 (wd2 R3), .int .u64 (wd3 R3), .bool R4, .bool R5], .bool R6]) ∧ Below w.heap.size w w' := by
  rw [← h0, ← h1, ← h2, ← h3, ← h4, ← h5, ← h6]
  clear h0 h1 h2 h3 h4 h5 h6
  cases hS : pxS n
  · have k : cuk ax ay bx b_y cx cy n = false := by unfold cuk; rw [hS]; rfl
    have e0 : cufn ax ay bx b_y cx cy n = 0 := by unfold cufn; rw [k]; rfl
    have e1 : cufd ax ay bx b_y cx cy n = 0 := by unfold cufd; rw [k]; rfl
    have e2 : cutn ax ay bx b_y cx cy n = 0 := by unfold cutn; rw [k]; rfl
    have e3 : cutd ax ay bx b_y cx cy n = 0 := by unfold cutd; rw [k]; rfl
    have e4 : cufo ax ay bx b_y cx cy n = false := by unfold cufo; rw [k]; rfl
    have e5 : cuto ax ay bx b_y cx cy n = false := by unfold cuto; rw [k]; rfl
    rw [e0, e1, e2, e3, e4, e5, k]
    exact pxCut_0 ax ay bx b_y cx cy n _ _ _ _ _ _ _ rfl rfl rfl rfl rfl rfl rfl hS _iax _iay _ibx _ib_y _icx _icy _in w
  cases hG : sgR ax ay bx b_y
  · have k : cuk ax ay bx b_y cx cy n = false := by unfold cuk; rw [hS, hG]; rfl
    have e0 : cufn ax ay bx b_y cx cy n = 0 := by unfold cufn; rw [k]; rfl
    have e1 : cufd ax ay bx b_y cx cy n = 0 := by unfold cufd; rw [k]; rfl
    have e2 : cutn ax ay bx b_y cx cy n = 0 := by unfold cutn; rw [k]; rfl
    have e3 : cutd ax ay bx b_y cx cy n = 0 := by unfold cutd; rw [k]; rfl
    have e4 : cufo ax ay bx b_y cx cy n = false := by unfold cufo; rw [k]; rfl
    have e5 : cuto ax ay bx b_y cx cy n = false := by unfold cuto; rw [k]; rfl
    rw [e0, e1, e2, e3, e4, e5, k]
    exact pxCut_1 ax ay bx b_y cx cy n _ _ _ _ _ _ _ rfl rfl rfl rfl rfl rfl rfl hS hG _iax _iay _ibx _ib_y _icx _icy _in w
  cases hC : rp cx cy
  · have k : cuk ax ay bx b_y cx cy n = false := by unfold cuk; rw [hS, hG, hC]; rfl
    have e0 : cufn ax ay bx b_y cx cy n = 0 := by unfold cufn; rw [k]; rfl
    have e1 : cufd ax ay bx b_y cx cy n = 0 := by unfold cufd; rw [k]; rfl
    have e2 : cutn ax ay bx b_y cx cy n = 0 := by unfold cutn; rw [k]; rfl
    have e3 : cutd ax ay bx b_y cx cy n = 0 := by unfold cutd; rw [k]; rfl
    have e4 : cufo ax ay bx b_y cx cy n = false := by unfold cufo; rw [k]; rfl
    have e5 : cuto ax ay bx b_y cx cy n = false := by unfold cuto; rw [k]; rfl
    rw [e0, e1, e2, e3, e4, e5, k]
    exact pxCut_2 ax ay bx b_y cx cy n _ _ _ _ _ _ _ rfl rfl rfl rfl rfl rfl rfl hS hG hC _iax _iay _ibx _ib_y _icx _icy _in w
  cases h1 : c1k ax bx cx n
  · have k : cuk ax ay bx b_y cx cy n = false := by unfold cuk; rw [hS, hG, hC, h1]; rfl
    have e0 : cufn ax ay bx b_y cx cy n = 0 := by unfold cufn; rw [k]; rfl
    have e1 : cufd ax ay bx b_y cx cy n = 0 := by unfold cufd; rw [k]; rfl
    have e2 : cutn ax ay bx b_y cx cy n = 0 := by unfold cutn; rw [k]; rfl
    have e3 : cutd ax ay bx b_y cx cy n = 0 := by unfold cutd; rw [k]; rfl
    have e4 : cufo ax ay bx b_y cx cy n = false := by unfold cufo; rw [k]; rfl
    have e5 : cuto ax ay bx b_y cx cy n = false := by unfold cuto; rw [k]; rfl
    rw [e0, e1, e2, e3, e4, e5, k]
    exact pxCut_3 ax ay bx b_y cx cy n (c1fn ax bx cx n) (c1fd ax bx cx n) (c1tn ax bx cx n) (c1td ax bx cx n) (c1fo ax bx cx n) (c1to ax bx cx n) _ _ _ _ _ _ _ rfl rfl rfl rfl rfl rfl rfl hS hG hC rfl rfl rfl rfl h1 rfl rfl rfl rfl rfl rfl (c1fn_in _ _ _ _iax) (c1fd_in _ _ _ _iax) (c1tn_in _ _ _ _iax) (c1td_in _ _ _ _iax) _iax _iay _ibx _ib_y _icx _icy _in w
  cases h2 : c2k ax ay bx b_y cx cy n
  · have k : cuk ax ay bx b_y cx cy n = false := by unfold cuk; rw [hS, hG, hC, h1, h2]; rfl
    have e0 : cufn ax ay bx b_y cx cy n = 0 := by unfold cufn; rw [k]; rfl
    have e1 : cufd ax ay bx b_y cx cy n = 0 := by unfold cufd; rw [k]; rfl
    have e2 : cutn ax ay bx b_y cx cy n = 0 := by unfold cutn; rw [k]; rfl
    have e3 : cutd ax ay bx b_y cx cy n = 0 := by unfold cutd; rw [k]; rfl
    have e4 : cufo ax ay bx b_y cx cy n = false := by unfold cufo; rw [k]; rfl
    have e5 : cuto ax ay bx b_y cx cy n = false := by unfold cuto; rw [k]; rfl
    rw [e0, e1, e2, e3, e4, e5, k]
    exact pxCut_4 ax ay bx b_y cx cy n (c1fn ax bx cx n) (c1fd ax bx cx n) (c1tn ax bx cx n) (c1td ax bx cx n) (c1fo ax bx cx n) (c1to ax bx cx n) (c2fn ax ay bx b_y cx cy n) (c2fd ax ay bx b_y cx cy n) (c2tn ax ay bx b_y cx cy n) (c2td ax ay bx b_y cx cy n) (c2fo ax ay bx b_y cx cy n) (c2to ax ay bx b_y cx cy n) _ _ _ _ _ _ _ rfl rfl rfl rfl rfl rfl rfl hS hG hC rfl rfl rfl rfl h1 rfl rfl rfl rfl rfl rfl h2 rfl rfl rfl rfl rfl rfl (c1fn_in _ _ _ _iax) (c1fd_in _ _ _ _iax) (c1tn_in _ _ _ _iax) (c1td_in _ _ _ _iax) (c2fn_in _ _ _ _ _ _iax _iay) (c2fd_in _ _ _ _ _ _iax _iay) (c2tn_in _ _ _ _ _ _iax _iay) (c2td_in _ _ _ _ _ _iax _iay) _iax _iay _ibx _ib_y _icx _icy _in w
  cases h3 : smk_ (c2fn ax ay bx b_y cx cy n) (c2fd ax ay bx b_y cx cy n) (c2tn ax ay bx b_y cx cy n) (c2td ax ay bx b_y cx cy n) (c2fo ax ay bx b_y cx cy n) (c2to ax ay bx b_y cx cy n)
  · have k : cuk ax ay bx b_y cx cy n = false := by unfold cuk; rw [hS, hG, hC, h1, h2, h3]; rfl
    have e0 : cufn ax ay bx b_y cx cy n = 0 := by unfold cufn; rw [k]; rfl
    have e1 : cufd ax ay bx b_y cx cy n = 0 := by unfold cufd; rw [k]; rfl
    have e2 : cutn ax ay bx b_y cx cy n = 0 := by unfold cutn; rw [k]; rfl
    have e3 : cutd ax ay bx b_y cx cy n = 0 := by unfold cutd; rw [k]; rfl
    have e4 : cufo ax ay bx b_y cx cy n = false := by unfold cufo; rw [k]; rfl
    have e5 : cuto ax ay bx b_y cx cy n = false := by unfold cuto; rw [k]; rfl
    rw [e0, e1, e2, e3, e4, e5, k]
    exact pxCut_5 ax ay bx b_y cx cy n (c1fn ax bx cx n) (c1fd ax bx cx n) (c1tn ax bx cx n) (c1td ax bx cx n) (c1fo ax bx cx n) (c1to ax bx cx n) (c2fn ax ay bx b_y cx cy n) (c2fd ax ay bx b_y cx cy n) (c2tn ax ay bx b_y cx cy n) (c2td ax ay bx b_y cx cy n) (c2fo ax ay bx b_y cx cy n) (c2to ax ay bx b_y cx cy n) _ _ _ _ _ _ _ rfl rfl rfl rfl rfl rfl rfl hS hG hC rfl rfl rfl rfl h1 rfl rfl rfl rfl rfl rfl h2 rfl rfl rfl rfl rfl rfl h3 rfl rfl rfl rfl (smfo_eq (c2fn ax ay bx b_y cx cy n) (c2fd ax ay bx b_y cx cy n) (c2tn ax ay bx b_y cx cy n) (c2td ax ay bx b_y cx cy n) (c2fo ax ay bx b_y cx cy n) (c2to ax ay bx b_y cx cy n)) rfl (c1fn_in _ _ _ _iax) (c1fd_in _ _ _ _iax) (c1tn_in _ _ _ _iax) (c1td_in _ _ _ _iax) (c2fn_in _ _ _ _ _ _iax _iay) (c2fd_in _ _ _ _ _ _iax _iay) (c2tn_in _ _ _ _ _ _iax _iay) (c2td_in _ _ _ _ _ _iax _iay) _iax _iay _ibx _ib_y _icx _icy _in w
  have k : cuk ax ay bx b_y cx cy n = true := by unfold cuk; rw [hS, hG, hC, h1, h2, h3]; rfl
  have e0 : cufn ax ay bx b_y cx cy n = c2fn ax ay bx b_y cx cy n := by unfold cufn; rw [k]; exact rfl
  have e1 : cufd ax ay bx b_y cx cy n = c2fd ax ay bx b_y cx cy n := by unfold cufd; rw [k]; exact rfl
  have e2 : cutn ax ay bx b_y cx cy n = c2tn ax ay bx b_y cx cy n := by unfold cutn; rw [k]; exact rfl
  have e3 : cutd ax ay bx b_y cx cy n = c2td ax ay bx b_y cx cy n := by unfold cutd; rw [k]; exact rfl
  have e4 : cufo ax ay bx b_y cx cy n = c2fo ax ay bx b_y cx cy n := by unfold cufo; rw [k]; exact smfo_eq (c2fn ax ay bx b_y cx cy n) (c2fd ax ay bx b_y cx cy n) (c2tn ax ay bx b_y cx cy n) (c2td ax ay bx b_y cx cy n) (c2fo ax ay bx b_y cx cy n) (c2to ax ay bx b_y cx cy n)
  have e5 : cuto ax ay bx b_y cx cy n = c2to ax ay bx b_y cx cy n := by unfold cuto; rw [k]; exact rfl
  rw [e0, e1, e2, e3, e4, e5, k]
  exact pxCut_6 ax ay bx b_y cx cy n (c1fn ax bx cx n) (c1fd ax bx cx n) (c1tn ax bx cx n) (c1td ax bx cx n) (c1fo ax bx cx n) (c1to ax bx cx n) (c2fn ax ay bx b_y cx cy n) (c2fd ax ay bx b_y cx cy n) (c2tn ax ay bx b_y cx cy n) (c2td ax ay bx b_y cx cy n) (c2fo ax ay bx b_y cx cy n) (c2to ax ay bx b_y cx cy n) _ _ _ _ _ _ _ rfl rfl rfl rfl rfl rfl rfl hS hG hC rfl rfl rfl rfl h1 rfl rfl rfl rfl rfl rfl h2 rfl rfl rfl rfl rfl rfl h3 rfl rfl rfl rfl (smfo_eq (c2fn ax ay bx b_y cx cy n) (c2fd ax ay bx b_y cx cy n) (c2tn ax ay bx b_y cx cy n) (c2td ax ay bx b_y cx cy n) (c2fo ax ay bx b_y cx cy n) (c2to ax ay bx b_y cx cy n)) rfl (c1fn_in _ _ _ _iax) (c1fd_in _ _ _ _iax) (c1tn_in _ _ _ _iax) (c1td_in _ _ _ _iax) (c2fn_in _ _ _ _ _ _iax _iay) (c2fd_in _ _ _ _ _ _iax _iay) (c2tn_in _ _ _ _ _ _iax _iay) (c2td_in _ _ _ _ _ _iax _iay) _iax _iay _ibx _ib_y _icx _icy _in w
end Go.Proofs.Ytlcbomjdbdgbmaa

namespace Go.Proofs.Ytlcbomjdbdgbmaa
open Go.RowKit

def pxM (ax : Int) (ay : Int) (bx : Int) (b_y : Int) (cx : Int) (cy : Int) (n : Int) : Bool := (cuk ax ay bx b_y cx cy n)

set_option maxRecDepth 100000 in
set_option maxHeartbeats 4000000 in

theorem pxMt_is (ax : Int) (ay : Int) (bx : Int) (b_y : Int) (cx : Int) (cy : Int) (n : Int)  (R0 : Bool) (hR0 : pxM ax ay bx b_y cx cy n = R0) (_iax : In64 ax) (_iay : In64 ay) (_ibx : In64 bx) (_ib_y : In64 b_y) (_icx : In64 cx) (_icy : In64 cy) (_in : In64 n)  (w : World)  :
    Calls Try.prog 33 #[.agg #[.int .i64 ax, .int .i64 ay, .int .i64 bx, .int .i64 b_y], .agg #[.int .i64 cx, .int .i64 cy], .int .i64 n] w fun e w' => e = .returned (.bool R0) ∧ Below w.heap.size w w' := by

  have HR0 := Lib.hid hR0
  clear hR0
  go_enter Try.func33, Try.ntmps33
  go_wp2_with fail
  first | refine calls_w ?_ | refine name_world ?_ | refine list_world ?_ | refine post_world ?_
  intro V1 hV1
  have hn : Below w.heap.size w V1 := by rw [hV1]; exact below_a2 _ _ _
  have nhb0 := hn
  have k1 : Blk V1 w.heap.size #[.int .i64 ax, .int .i64 ay, .int .i64 bx, .int .i64 b_y] 50 := by rw [hV1]; exact ((Blk.new _ _ _).alloc _)
  have k2 : Blk V1 (w.heap.size + 1) #[.int .i64 cx, .int .i64 cy] 24 := by rw [hV1]; exact (Blk.new1 _ _ _ _)
  clear hV1
  have hb0 := nhb0
  clear nhb0
  obtain ⟨r1, hr1⟩ : ∃ o_o : Int, cufn ax ay bx b_y cx cy n = o_o := ⟨_, rfl⟩
  have Hr1 := Lib.hid hr1
  clear hr1
  obtain ⟨r2, hr2⟩ : ∃ o_o : Int, cufd ax ay bx b_y cx cy n = o_o := ⟨_, rfl⟩
  have Hr2 := Lib.hid hr2
  clear hr2
  obtain ⟨r3, hr3⟩ : ∃ o_o : Int, cutn ax ay bx b_y cx cy n = o_o := ⟨_, rfl⟩
  have Hr3 := Lib.hid hr3
  clear hr3
  obtain ⟨r4, hr4⟩ : ∃ o_o : Int, cutd ax ay bx b_y cx cy n = o_o := ⟨_, rfl⟩
  have Hr4 := Lib.hid hr4
  clear hr4
  obtain ⟨z5, hz5⟩ : ∃ o_o : Bool, cufo ax ay bx b_y cx cy n = o_o := ⟨_, rfl⟩
  have Hz5 := Lib.hid hz5
  clear hz5
  obtain ⟨z6, hz6⟩ : ∃ o_o : Bool, cuto ax ay bx b_y cx cy n = o_o := ⟨_, rfl⟩
  have Hz6 := Lib.hid hz6
  clear hz6
  obtain ⟨z7, hz7⟩ : ∃ o_o : Bool, cuk ax ay bx b_y cx cy n = o_o := ⟨_, rfl⟩
  have Hz7 := Lib.hid hz7
  clear hz7
  refine (cut_v ax ay bx b_y cx cy n r1 r2 r3 r4 z5 z6 z7 Hr1.out Hr2.out Hr3.out Hr4.out Hz5.out Hz6.out Hz7.out _iax _iay _ibx _ib_y _icx _icy _in _).mono ?_
  rintro e U2 ⟨rfl, hn⟩
  clear k1 k2
  replace hb0 := hb0.trans (hn.mono hb0.size)
  clear hn
  have e0 : z7 = R0 := by rw [← HR0.out]; unfold pxM; (try rw [Hr1.out]); (try rw [Hr2.out]); (try rw [Hr3.out]); (try rw [Hr4.out]); (try rw [Hz5.out]); (try rw [Hz6.out]); (try rw [Hz7.out]); all_goals first | rfl | simp
  subst e0
  go_wp2_with (first | ((with_reducible refine stRow (U2.heap.size) #[.int .u64 (wd0 r1), .int .u64 (wd1 r1), .int .u64 (wd2 r1), .int .u64 (wd3 r1), .int .u64 (wd0 r2), .int .u64 (wd1 r2), .int .u64 (wd2 r2), .int .u64 (wd3 r2), .int .u64 (wd0 r3), .int .u64 (wd1 r3), .int .u64 (wd2 r3), .int .u64 (wd3 r3), .int .u64 (wd0 r4), .int .u64 (wd1 r4), .int .u64 (wd2 r4), .int .u64 (wd3 r4), .bool z5, .bool z6] _ _ (Blk.new _ _ _) ?_ ?_ ?_ ?_ ?_ ?_); rfl; rfl; (as_aux_lemma => kernel_rfl); rfl; (as_aux_lemma => kernel_rfl); simp only [Act.put]))
  first | refine post_world ?_
  intro V3 hV3
  rw [World.setRow_alloc_new] at hV3
  have D1 := Lib.hid hb0.size
  have hn : Below U2.heap.size U2 V3 := by rw [hV3]; exact below_a1 _ _
  have nhb0 := hb0.trans (hn.mono hb0.size)
  clear hn
  clear hb0
  clear hV3
  have hb0 := nhb0
  clear nhb0
  simp [bodyPost, results, Try.results33, go_sem]
  first | exact hb0 | exact ⟨rfl, hb0⟩
end Go.Proofs.Ytlcbomjdbdgbmaa

namespace Go.Proofs.Ytlcbomjdbdgbmaa
open Go.RowKit

end Go.Proofs.Ytlcbomjdbdgbmaa
namespace Go.Proofs.Ytlcbomjdbdgbmaa
open Go.ChangeShapes Go.WideShapes Go.ChangeAt Go.RowKit Go.Joins

theorem own : ownKnob Try.prog.godebug = none := by kernel_rfl
theorem laidOut : laidOutB Try.prog = true := by kernel_rfl

theorem in64_wf {x : Int} (h : (Lit.int .i64 x).wf = true) : In64 x := by
  simp [Lit.wf, IntKind.min, IntKind.max, IntKind.signed, IntKind.bits] at h
  unfold In64; omega

section
variable {H : Type} {enc : TypeId × Value → H} {w : World} {base : Nat} {spare : Nat → Bool} {held : Bool}

end
end Go.Proofs.Ytlcbomjdbdgbmaa
namespace Go.Proofs.Ytlcbomjdbdgbmaa
open Go.ChangeShapes Go.WideShapes Go.ChangeAt Go.RowKit Go.Joins
section
variable {H : Type} {enc : TypeId × Value → H} {w : World} {base : Nat} {spare : Nat → Bool} {held : Bool}
theorem open_pt2 {fuel : Nat} {c0 c1 : Value} {x : DataW H × List MemPlace} (h : DataW.trod enc Try.prog w base spare held fuel 24 [c0, c1] = some x) :
    ∃ a b, In64 a ∧ In64 b ∧ c0 = .int .i64 a ∧ c1 = .int .i64 b := by
  obtain ⟨xs, k, _, hx, _, hlen, hg⟩ := DataW.trod_struct Try.underlying24 h
  have hC1 : Try.prog.cellsOf 3 = 1 := by kernel_rfl
  match xs, hlen with
  | [y0, y1], _ =>
    have g0 := hg 0 _ rfl
    have g1 := hg 1 _ rfl
    simp [hC1] at g0 g1
    obtain ⟨a0, e0, _, k0⟩ := DataW.trod_int Try.underlying3 g0
    obtain ⟨a1, e1, _, k1⟩ := DataW.trod_int Try.underlying3 g1
    simp at e0 e1
    exact ⟨a0, a1, in64_wf k0, in64_wf k1, e0, e1⟩
end
end Go.Proofs.Ytlcbomjdbdgbmaa
namespace Go.Proofs.Ytlcbomjdbdgbmaa
open Go.RowKit

end Go.Proofs.Ytlcbomjdbdgbmaa
namespace Go.Proofs.Ytlcbomjdbdgbmaa
open Go.RowKit

end Go.Proofs.Ytlcbomjdbdgbmaa
namespace Go.Proofs.Ytlcbomjdbdgbmaa
open Go.RowKit

/-- a variable that holds a point of the document's answer -/
abbrev QVar (w : World) (b : Nat) (x y : Int) : Prop := Blk w b (pC x y) 31
theorem QVar.c {w : World} {b : Nat} {x y : Int} (h : QVar w b x y) : w.cell? ⟨b, 0, none⟩ = some (.int .i64 x) ∧ w.cell? ⟨b, 1, none⟩ = some (.int .i64 y) := ⟨h.cell 0, h.cell 1⟩
end Go.Proofs.Ytlcbomjdbdgbmaa
namespace Go.Proofs.Ytlcbomjdbdgbmaa
open Go.RowKit

end Go.Proofs.Ytlcbomjdbdgbmaa
namespace Go.Proofs.Ytlcbomjdbdgbmaa
open Go.RowKit

end Go.Proofs.Ytlcbomjdbdgbmaa

namespace Go.Proofs.Ytlcbomjdbdgbmaa
open Go.RowKit

theorem heap_setL (w : World) (b o : Nat) (l : List Value) (k : Nat) (hk : k ≠ b) : (setL w b o l).heap[k]? = w.heap[k]? := by
  induction l generalizing w o with
  | nil => rfl
  | cons v l ih => unfold setL; rw [ih, Below.heap_setCell _ _ _ _ hk]
theorem big_setL {w : World} {v : Value} {n : Int} {L b : Nat} (h : Big w v n L) {x : Value} (hd : w.cell? ⟨b, 0, none⟩ = some x) (hx : ∀ i, x ≠ .int .i64 i) (o : Nat) (l : List Value) : Big (setL w b o l) v n L := by
  obtain ⟨neg, ao, b3, cap, ds, h1, h2, h3⟩ := h
  have hne : 0 < ds.length → b3 ≠ b := by
    intro h0 e
    have := h2.cell 0 h0
    rw [e, hd] at this
    exact hx _ (Option.some.inj this)
  refine ⟨neg, ao, b3, cap, ds, h1, ⟨h2.ptr, h2.nil, h2.capl, h2.len, h2.capb, fun i hi => ?_, fun hl => ?_⟩, h3⟩
  · have e := h2.cell i hi
    unfold World.cell? at e ⊢
    rw [heap_setL _ _ _ _ _ (hne (by omega))]; exact e
  · rw [size_setL]; exact h2.blk hl
theorem bigMul_v (v v' : Value) (n m p : Int) (L L' : Nat) (hp : n * m = p) (w : World) (h : Big w v n L) (h' : Big w v' m L') (hL : L + L' < 268435456) :
    Calls Try.prog 65 #[v, v'] w (GivesBig w p (L + L')) := hp ▸ bigMul_any v v' n m L L' w h h' hL
theorem bigCmp_v (v v' : Value) (n m : Int) (L L' : Nat) (c : Int) (hc : cmpI n m = c) (w : World) (h : Big w v n L) (h' : Big w v' m L') :
    Calls Try.prog 23 #[v, v'] w fun e w' => e = .returned (.int .i64 c) ∧ Below w.heap.size w w' := hc ▸ bigCmp_any v v' n m L L' w h h'
theorem Read_v (x d : Int) (h : x = d) (ix : InI x) (w : World) : Calls Try.prog 24 #[wI x] w (GivesBig w d 18) := by
  have := Read_any x w
  have e : sg x = d := (sg_id ix).trans h
  rw [e] at this
  exact this
end Go.Proofs.Ytlcbomjdbdgbmaa

namespace Go.Proofs.Ytlcbomjdbdgbmaa
open Go.RowKit

set_option maxRecDepth 100000 in
set_option maxHeartbeats 4000000 in

theorem p15awake_is     (hP0 : pxM (-20) 0 20 0 0 0 10 = true) (hP1 : pxM (-20) 0 20 0 0 1 10 = false) (hP2 : atx 5 0 = 5) (hP3 : aty 5 0 = 0) (hP4 : atw 5 0 = 1) (hP5 : pxOx 5 0 1 10 = 1) (hP6 : pxOy 5 0 1 10 = 0) (hP7 : pxOe 5 0 1 10 = 0) (hP8 : atx (-5) 0 = (-5)) (hP9 : aty (-5) 0 = 0) (hP10 : atw (-5) 0 = 1) (hP11 : pxOx (-5) 0 1 10 = 0) (hP12 : pxOy (-5) 0 1 10 = 0) (hP13 : pxOe (-5) 0 1 10 = 0) (hP14 : pxOx 0 0 0 10 = 0) (hP15 : pxOy 0 0 0 10 = 0) (hP16 : pxOe 0 0 0 10 = 11)  (w : World)  :
    Calls Try.prog 34 #[] w fun e w' => e = .returned (.bool true) ∧ Below w.heap.size w w' := by

  have HP0 := Lib.hid hP0
  clear hP0
  have HP1 := Lib.hid hP1
  clear hP1
  have HP2 := Lib.hid hP2
  clear hP2
  have HP3 := Lib.hid hP3
  clear hP3
  have HP4 := Lib.hid hP4
  clear hP4
  have HP5 := Lib.hid hP5
  clear hP5
  have HP6 := Lib.hid hP6
  clear hP6
  have HP7 := Lib.hid hP7
  clear hP7
  have HP8 := Lib.hid hP8
  clear hP8
  have HP9 := Lib.hid hP9
  clear hP9
  have HP10 := Lib.hid hP10
  clear hP10
  have HP11 := Lib.hid hP11
  clear hP11
  have HP12 := Lib.hid hP12
  clear hP12
  have HP13 := Lib.hid hP13
  clear hP13
  have HP14 := Lib.hid hP14
  clear hP14
  have HP15 := Lib.hid hP15
  clear hP15
  have HP16 := Lib.hid hP16
  clear hP16
  go_enter Try.func34, Try.ntmps34
  go_wp2_with fail
  refine (crAt_is 5 0 5 0 1 HP2.out HP3.out HP4.out (by unfold In64; omega) (by unfold In64; omega)  _).mono ?_
  rintro e U1 ⟨rfl, hn⟩
  have hb0 := hn
  clear hn
  go_wp2_with fail
  refine (pxOf_is 5 0 1 10 1 0 0 HP5.out HP6.out HP7.out (by unfold InI b255; omega) (by unfold InI b255; omega) (by unfold InI b255; omega) (by unfold In64; omega)  _).mono ?_
  rintro e U2 ⟨rfl, hn⟩
  replace hb0 := hb0.trans (hn.mono hb0.size)
  clear hn
  go_wp2_with fail
  first | refine calls_w ?_ | refine name_world ?_ | refine list_world ?_ | refine post_world ?_
  intro V3 hV3
  have D1 := Lib.hid hb0.size
  have hn : Below U2.heap.size U2 V3 := by rw [hV3]; exact below_a1 _ _
  have nhb0 := hb0.trans (hn.mono hb0.size)
  clear hn
  have k1 : Blk V3 U2.heap.size #[.int .i64 1, .int .i64 0] 24 := by rw [hV3]; exact (Blk.new _ _ _)
  clear hb0
  clear hV3
  have hb0 := nhb0
  clear nhb0
  refine (crAt_is (-5) 0 (-5) 0 1 HP8.out HP9.out HP10.out (by unfold In64; omega) (by unfold In64; omega)  _).mono ?_
  rintro e U4 ⟨rfl, hn⟩
  replace k1 := k1.of hn
  replace hb0 := hb0.trans (hn.mono hb0.size)
  clear hn
  go_wp2_with fail
  refine (pxOf_is (-5) 0 1 10 0 0 0 HP11.out HP12.out HP13.out (by unfold InI b255; omega) (by unfold InI b255; omega) (by unfold InI b255; omega) (by unfold In64; omega)  _).mono ?_
  rintro e U5 ⟨rfl, hn⟩
  replace k1 := k1.of hn
  replace hb0 := hb0.trans (hn.mono hb0.size)
  clear hn
  go_wp2_with fail
  first | refine calls_w ?_ | refine name_world ?_ | refine list_world ?_ | refine post_world ?_
  intro V6 hV6
  have D2 := Lib.hid k1.lt
  have D3 := Lib.hid hb0.size
  have hn : Below U5.heap.size U5 V6 := by rw [hV6]; exact below_a1 _ _
  have nk1 := k1.of hn
  have nhb0 := hb0.trans (hn.mono hb0.size)
  clear hn
  have k2 : Blk V6 U5.heap.size #[.int .i64 0, .int .i64 0] 24 := by rw [hV6]; exact (Blk.new _ _ _)
  clear k1
  clear hb0
  clear hV6
  have k1 := nk1
  clear nk1
  have hb0 := nhb0
  clear nhb0
  refine (args_eq (a' := #[.agg #[.int .u64 0, .int .u64 0, .int .u64 0, .int .u64 0, .int .u64 0, .int .u64 0, .int .u64 0, .int .u64 0, .int .u64 0, .int .u64 0, .int .u64 0, .int .u64 0], .int .i64 10]) (pxOf_is 0 0 0 10 0 0 11 HP14.out HP15.out HP16.out (by unfold InI b255; omega) (by unfold InI b255; omega) (by unfold InI b255; omega) (by unfold In64; omega)  _) (by kernel_rfl)).mono ?_
  rintro e U7 ⟨rfl, hn⟩
  replace k1 := k1.of hn
  replace k2 := k2.of hn
  replace hb0 := hb0.trans (hn.mono hb0.size)
  clear hn
  have c1_0 : U7.cell? ⟨U2.heap.size, 0, none⟩ = some (.int .i64 1) := k1.cell 0
  have c1_1 : U7.cell? ⟨U2.heap.size, 1, none⟩ = some (.int .i64 0) := k1.cell 1
  have l1 := k1.lt
  have c2_0 : U7.cell? ⟨U5.heap.size, 0, none⟩ = some (.int .i64 0) := k2.cell 0
  have c2_1 : U7.cell? ⟨U5.heap.size, 1, none⟩ = some (.int .i64 0) := k2.cell 1
  have l2 := k2.lt
  go_wp2_with fail
  clear c1_0 c1_1 l1 c2_0 c2_1 l2
  first | refine calls_w ?_ | refine name_world ?_ | refine list_world ?_ | refine post_world ?_
  intro V8 hV8
  clear k1 k2
  have D4 := Lib.hid hb0.size
  have hn : Below U7.heap.size U7 V8 := by rw [hV8]; exact below_a2 _ _ _
  have nhb0 := hb0.trans (hn.mono hb0.size)
  clear hn
  have k3 : Blk V8 U7.heap.size #[.int .i64 0, .int .i64 0] 24 := by rw [hV8]; exact ((Blk.new _ _ _).alloc _)
  have k4 : Blk V8 (U7.heap.size + 1) #[.int .i64 ((-20)), .int .i64 0, .int .i64 20, .int .i64 0] 50 := by rw [hV8]; exact (Blk.new1 _ _ _ _)
  clear hb0
  clear hV8
  have hb0 := nhb0
  clear nhb0
  refine (pxMt_is (-20) 0 20 0 0 0 10 true HP0.out (by unfold In64; omega) (by unfold In64; omega) (by unfold In64; omega) (by unfold In64; omega) (by unfold In64; omega) (by unfold In64; omega) (by unfold In64; omega)  _).mono ?_
  rintro e U9 ⟨rfl, hn⟩
  clear k3
  replace k4 := k4.of hn
  replace hb0 := hb0.trans (hn.mono hb0.size)
  clear hn
  have c4_0 : U9.cell? ⟨(U7.heap.size + 1), 0, none⟩ = some (.int .i64 ((-20))) := k4.cell 0
  have c4_1 : U9.cell? ⟨(U7.heap.size + 1), 1, none⟩ = some (.int .i64 0) := k4.cell 1
  have c4_2 : U9.cell? ⟨(U7.heap.size + 1), 2, none⟩ = some (.int .i64 20) := k4.cell 2
  have c4_3 : U9.cell? ⟨(U7.heap.size + 1), 3, none⟩ = some (.int .i64 0) := k4.cell 3
  have l4 := k4.lt
  go_wp2_with fail
  clear c4_0 c4_1 c4_2 c4_3 l4
  refine (pxMt_is (-20) 0 20 0 0 1 10 false HP1.out (by unfold In64; omega) (by unfold In64; omega) (by unfold In64; omega) (by unfold In64; omega) (by unfold In64; omega) (by unfold In64; omega) (by unfold In64; omega)  _).mono ?_
  rintro e U10 ⟨rfl, hn⟩
  clear k4
  replace hb0 := hb0.trans (hn.mono hb0.size)
  clear hn
  go_wp2
  first | go_ret | go_ret2
  exact ⟨by first | rfl | (simp; done) | (simp; assumption), hb0⟩
end Go.Proofs.Ytlcbomjdbdgbmaa

namespace Go.Proofs.Ytlcbomjdbdgbmaa
open Go.RowKit

set_option maxRecDepth 100000 in
theorem p15awake_any (w : World) : Calls Try.prog 34 #[] w fun e w' => e = .returned (.bool true) ∧ Below w.heap.size w w' :=
  p15awake_is (by kernel_rfl) (by kernel_rfl) (by kernel_rfl) (by kernel_rfl) (by kernel_rfl) (by kernel_rfl) (by kernel_rfl) (by kernel_rfl) (by kernel_rfl) (by kernel_rfl) (by kernel_rfl) (by kernel_rfl) (by kernel_rfl) (by kernel_rfl) (by kernel_rfl) (by kernel_rfl) (by kernel_rfl) w
end Go.Proofs.Ytlcbomjdbdgbmaa

namespace Go.Proofs.Ytlcbomjdbdgbmaa
open Go.RowKit

/-- within a fraction two numbers are held against one another one step deeper -/
@[go_sem] theorem run_eqI9 (a0 a1 a2 a3 b0 b1 b2 b3 : Int) (w : World) :
    (Op.equalIn 9999 35 (.agg #[.int .u64 a0, .int .u64 a1, .int .u64 a2, .int .u64 a3]) (.agg #[.int .u64 b0, .int .u64 b1, .int .u64 b2, .int .u64 b3])).run Try.prog w = .ok (eq4 a0 a1 a2 a3 b0 b1 b2 b3) w := by
  have hu : Try.prog.underlying 35 = some (.array 4 33) := by kernel_rfl
  have hs : ∀ w, (sizeOf 33).run Try.prog w = .ok 1 w := fun w => by kernel_rfl
  have he : ∀ (a b : Int) w, (Op.equalIn 9998 33 (.int .u64 a) (.int .u64 b)).run Try.prog w = .ok (a == b) w := fun a b w => run_equalIn_int w 9997 _ .u64 .u64 a b (by kernel_rfl)
  have hp : ∀ (c : Array Value) (i : Nat) (v : Value) w, c[i]? = some v → (part 33 c i).run Try.prog w = .ok v w := by
    intro c i v w h
    have ha : (isAgg 33).run Try.prog w = .ok false w := by kernel_rfl
    unfold part
    simp [Sem.run_bind, ha, h]
  show (Op.equalIn (9998 + 1) _ _ _).run _ _ = _
  unfold Op.equalIn
  simp only [Sem.run_bind, run_underlying hu, Result.andThen_ok, hs]
  simp [List.range', he, hp, Sem.run_bind]
  unfold eq4
  by_cases h0 : a0 = b0 <;> by_cases h1 : a1 = b1 <;> by_cases h2 : a2 = b2 <;> by_cases h3 : a3 = b3 <;> simp [h0, h1, h2, h3]

@[go_sem] theorem eqP_self (a b : Int) : eqP a b a b = true := by unfold eqP; simp
@[go_sem] theorem eqP_ne {a b c d : Int} (h : ¬ a = c) : eqP a b c d = false := by unfold eqP; simp [h]
@[go_sem] theorem eqP_ne' {a b c d : Int} (h : ¬ c = a) : eqP a b c d = false := eqP_ne fun e => h e.symm
@[go_sem] theorem eqP_me {a b c d : Int} (h : ¬ b = d) : eqP a b c d = false := by unfold eqP; simp [h]
@[go_sem] theorem eqP_me' {a b c d : Int} (h : ¬ d = b) : eqP a b c d = false := eqP_me fun e => h e.symm
end Go.Proofs.Ytlcbomjdbdgbmaa

namespace Go.Proofs.Ytlcbomjdbdgbmaa
open Go.RowKit

def rrC (X : Int) (Y : Int) (X2 : Int) (Y2 : Int) : Int := (cmpI (X * Y2) (X2 * Y))

set_option maxRecDepth 100000 in
set_option maxHeartbeats 4000000 in

theorem rrC_is (X : Int) (Y : Int) (X2 : Int) (Y2 : Int)  (R0 : Int) (hR0 : rrC X Y X2 Y2 = R0)  (nX : Bool) (aX : Option Addr) (lX cX : Nat) (nY : Bool) (aY : Option Addr) (lY cY : Nat) (nX2 : Bool) (aX2 : Option Addr) (lX2 cX2 : Nat) (nY2 : Bool) (aY2 : Option Addr) (lY2 cY2 : Nat) (w : World) (hX : Big w (.agg #[.bool nX, .slice aX lX cX]) X 18) (hY : Big w (.agg #[.bool nY, .slice aY lY cY]) Y 18) (hX2 : Big w (.agg #[.bool nX2, .slice aX2 lX2 cX2]) X2 18) (hY2 : Big w (.agg #[.bool nY2, .slice aY2 lY2 cY2]) Y2 18) :
    Calls Try.prog 37 #[.agg #[.bool nX, .slice aX lX cX, .bool nY, .slice aY lY cY], .agg #[.bool nX2, .slice aX2 lX2 cX2, .bool nY2, .slice aY2 lY2 cY2]] w fun e w' => e = .returned (.int .i64 R0) ∧ Below w.heap.size w w' := by

  have HX := Lib.hid hX
  clear hX
  have HY := Lib.hid hY
  clear hY
  have HX2 := Lib.hid hX2
  clear hX2
  have HY2 := Lib.hid hY2
  clear hY2
  have HR0 := Lib.hid hR0
  clear hR0
  go_enter Try.func37, Try.ntmps37
  go_wp2_with fail
  first | refine calls_w ?_ | refine name_world ?_ | refine list_world ?_ | refine post_world ?_
  intro V1 hV1
  have hn : Below w.heap.size w V1 := by rw [hV1]; exact below_a2 _ _ _
  replace HX := Lib.hid (HX.out.of hn)
  replace HY := Lib.hid (HY.out.of hn)
  replace HX2 := Lib.hid (HX2.out.of hn)
  replace HY2 := Lib.hid (HY2.out.of hn)
  have nhb0 := hn
  have k1 : Blk V1 w.heap.size #[.bool nX, .slice aX lX cX, .bool nY, .slice aY lY cY] 60 := by rw [hV1]; exact ((Blk.new _ _ _).alloc _)
  have k2 : Blk V1 (w.heap.size + 1) #[.bool nX2, .slice aX2 lX2 cX2, .bool nY2, .slice aY2 lY2 cY2] 60 := by rw [hV1]; exact (Blk.new1 _ _ _ _)
  clear hV1
  have hb0 := nhb0
  clear nhb0
  obtain ⟨r1, hr1⟩ : ∃ o_o : Int, X * Y2 = o_o := ⟨_, rfl⟩
  have Hr1 := Lib.hid hr1
  clear hr1
  have c1_0 : V1.cell? ⟨w.heap.size, 0, none⟩ = some (.bool nX) := k1.cell 0
  have c1_1 : V1.cell? ⟨w.heap.size, 1, none⟩ = some (.slice aX lX cX) := k1.cell 1
  have c1_2 : V1.cell? ⟨w.heap.size, 2, none⟩ = some (.bool nY) := k1.cell 2
  have c1_3 : V1.cell? ⟨w.heap.size, 3, none⟩ = some (.slice aY lY cY) := k1.cell 3
  have l1 := k1.lt
  have c2_0 : V1.cell? ⟨(w.heap.size + 1), 0, none⟩ = some (.bool nX2) := k2.cell 0
  have c2_1 : V1.cell? ⟨(w.heap.size + 1), 1, none⟩ = some (.slice aX2 lX2 cX2) := k2.cell 1
  have c2_2 : V1.cell? ⟨(w.heap.size + 1), 2, none⟩ = some (.bool nY2) := k2.cell 2
  have c2_3 : V1.cell? ⟨(w.heap.size + 1), 3, none⟩ = some (.slice aY2 lY2 cY2) := k2.cell 3
  have l2 := k2.lt
  have Kk1 := Lib.hid k1
  clear k1
  have Kk2 := Lib.hid k2
  clear k2
  refine wp_region_up V1.heap.size 9 [(true, 0), (true, 1), (true, 2), (true, 3), (true, 5), (true, 6), (true, 7), (true, 8), (false, 4)] (by kernel_rfl) (by kernel_rfl) (fun _ _ d _ _ h => by cases d <;> exact h) ?_
  have hb : Below V1.heap.size V1 V1.drew := (Below.refl _ _).drew
  iterate 8
    refine wpS_takeL rfl rfl ?_
    go_big_quiet_step (rfl)
    refine wpQuiet_nil ?_
  refine wpS_doL rfl ?_
  intro K hK
  go_wp2_with ((go_at_call 65; (with_reducible refine (bigMul_v (.agg #[.bool nX, .slice aX lX cX]) (.agg #[.bool nY2, .slice aY2 lY2 cY2]) X Y2 r1 18 18 Hr1.out _ (HX.out.of hb) (HY2.out.of hb) (by decide)).mono ?_); rintro e w2 ⟨v_, rfl, hbm, hn⟩; have HB1 := Lib.hid hbm; have hvm := hbm.shape; clear hbm; obtain ⟨bn1, ba1, bl1, bc1, rfl⟩ := hvm))
  replace hb := hb.trans (hn.mono hb.size)
  refine hK.out _ _ (up_iff.2 hb) ?_
  clear hK K
  clear hn
  refine wpS_nil ?_
  simp only [List.drop_succ_cons, List.drop_zero]
  first | refine calls_w ?_ | refine name_world ?_ | refine list_world ?_ | refine post_world ?_
  intro U2 hU2
  first | (subst hU2; have u_ := U2; clear u_) | (rw [← hU2] at hb; clear hU2)
  clear c1_0 c1_1 c1_2 c1_3 l1 c2_0 c2_1 c2_2 c2_3 l2
  have k1 := Kk1.out.of hb
  clear Kk1
  have k2 := Kk2.out.of hb
  clear Kk2
  replace HX := Lib.hid (HX.out.of hb)
  replace HY := Lib.hid (HY.out.of hb)
  replace HX2 := Lib.hid (HX2.out.of hb)
  replace HY2 := Lib.hid (HY2.out.of hb)
  replace hb0 := hb0.trans (hb.mono hb0.size)
  clear hb
  go_wp2_with fail
  obtain ⟨r2, hr2⟩ : ∃ o_o : Int, X2 * Y = o_o := ⟨_, rfl⟩
  have Hr2 := Lib.hid hr2
  clear hr2
  refine (bigMul_v (.agg #[.bool nX2, .slice aX2 lX2 cX2]) (.agg #[.bool nY, .slice aY lY cY]) X2 Y r2 18 18 Hr2.out _ HX2.out HY.out (by decide)).mono ?_
  rintro e U3 ⟨v_, rfl, hbm, hn⟩
  clear HX HY HX2 HY2
  clear k1 k2
  replace HB1 := Lib.hid (HB1.out.of hn)
  replace hb0 := hb0.trans (hn.mono hb0.size)
  clear hn
  have HB2 := Lib.hid hbm
  have hvm := hbm.shape
  clear hbm
  obtain ⟨bn2, ba2, bl2, bc2, rfl⟩ := hvm
  go_wp2_with fail
  obtain ⟨r3, hr3⟩ : ∃ o_o : Int, cmpI r1 r2 = o_o := ⟨_, rfl⟩
  have Hr3 := Lib.hid hr3
  clear hr3
  refine (bigCmp_v (.agg #[.bool bn1, .slice ba1 bl1 bc1]) (.agg #[.bool bn2, .slice ba2 bl2 bc2]) r1 r2 36 36 r3 Hr3.out _ HB1.out HB2.out).mono ?_
  rintro e U4 ⟨rfl, hn⟩
  clear HB1 HB2
  replace hb0 := hb0.trans (hn.mono hb0.size)
  clear hn
  have e0 : r3 = R0 := by rw [← HR0.out]; unfold rrC; (try rw [Hr1.out]); (try rw [Hr2.out]); (try rw [Hr3.out]); all_goals first | rfl | simp
  subst e0
  go_wp2
  first | go_ret | go_ret2
  exact ⟨by first | rfl | simp, hb0⟩

def p15n (x : Int) (_y : Int) : Int := (x)

def p15d (_x : Int) (y : Int) : Int := (y)

def p15rat_is_post (w : World) (R0 : Int) (R1 : Int) (e : Ending) (w' : World) : Prop := ∃ (m0 : Bool) (p0 : Option Addr) (q0 t0 : Nat) (m1 : Bool) (p1 : Option Addr) (q1 t1 : Nat), e = .returned (.agg #[.bool m0, .slice p0 q0 t0, .bool m1, .slice p1 q1 t1]) ∧ Big w' (.agg #[.bool m0, .slice p0 q0 t0]) R0 18 ∧ Big w' (.agg #[.bool m1, .slice p1 q1 t1]) R1 18 ∧ Below w.heap.size w w'

set_option maxRecDepth 100000 in
set_option maxHeartbeats 4000000 in

theorem p15rat_is (x : Int) (y : Int)  (R0 : Int) (R1 : Int) (hR0 : p15n x y = R0) (hR1 : p15d x y = R1) (_ix : InI x) (_iy : InI y)  (w : World)  :
    Calls Try.prog 38 #[.agg #[.int .u64 (wd0 x), .int .u64 (wd1 x), .int .u64 (wd2 x), .int .u64 (wd3 x), .int .u64 (wd0 y), .int .u64 (wd1 y), .int .u64 (wd2 y), .int .u64 (wd3 y)]] w (p15rat_is_post w R0 R1) := by

  have HR0 := Lib.hid hR0
  clear hR0
  have HR1 := Lib.hid hR1
  clear hR1
  go_enter Try.func38, Try.ntmps38
  go_wp2_with fail
  first | refine calls_w ?_ | refine name_world ?_ | refine list_world ?_ | refine post_world ?_
  intro V1 hV1
  have hn : Below w.heap.size w V1 := by rw [hV1]; exact below_a2 _ _ _
  have nhb0 := hn
  have k1 : Blk V1 w.heap.size #[.int .u64 (wd0 x), .int .u64 (wd1 x), .int .u64 (wd2 x), .int .u64 (wd3 x), .int .u64 (wd0 y), .int .u64 (wd1 y), .int .u64 (wd2 y), .int .u64 (wd3 y)] 52 := by rw [hV1]; exact ((Blk.new _ _ _).alloc _)
  have k2 : Blk V1 (w.heap.size + 1) #[.bool false, .slice none 0 0, .bool false, .slice none 0 0] 60 := by rw [hV1]; exact (Blk.new1 _ _ _ _)
  clear hV1
  have hb0 := nhb0
  clear nhb0
  obtain ⟨r1, hr1⟩ : ∃ o_o : Int, x = o_o := ⟨_, rfl⟩
  have Hr1 := Lib.hid hr1
  clear hr1
  have c1_0 : V1.cell? ⟨w.heap.size, 0, none⟩ = some (.int .u64 (wd0 x)) := k1.cell 0
  have c1_1 : V1.cell? ⟨w.heap.size, 1, none⟩ = some (.int .u64 (wd1 x)) := k1.cell 1
  have c1_2 : V1.cell? ⟨w.heap.size, 2, none⟩ = some (.int .u64 (wd2 x)) := k1.cell 2
  have c1_3 : V1.cell? ⟨w.heap.size, 3, none⟩ = some (.int .u64 (wd3 x)) := k1.cell 3
  have c1_4 : V1.cell? ⟨w.heap.size, 4, none⟩ = some (.int .u64 (wd0 y)) := k1.cell 4
  have c1_5 : V1.cell? ⟨w.heap.size, 5, none⟩ = some (.int .u64 (wd1 y)) := k1.cell 5
  have c1_6 : V1.cell? ⟨w.heap.size, 6, none⟩ = some (.int .u64 (wd2 y)) := k1.cell 6
  have c1_7 : V1.cell? ⟨w.heap.size, 7, none⟩ = some (.int .u64 (wd3 y)) := k1.cell 7
  have l1 := k1.lt
  have Kk1 := Lib.hid k1
  clear k1
  have Kk2 := Lib.hid k2
  clear k2
  refine wp_region_up V1.heap.size 5 [(true, 0), (true, 1), (true, 3), (true, 4), (false, 2)] (by kernel_rfl) (by kernel_rfl) (fun _ _ d _ _ h => by cases d <;> exact h) ?_
  have hb : Below V1.heap.size V1 V1.drew := (Below.refl _ _).drew
  iterate 4
    refine wpS_takeL rfl rfl ?_
    go_big_quiet_step (rfl)
    refine wpQuiet_nil ?_
  refine wpS_doL rfl ?_
  intro K hK
  go_wp2_with ((go_at_call 24; (with_reducible refine (Read_v x r1 Hr1.out _ix _).mono ?_); rintro e w2 ⟨v_, rfl, hbm, hn⟩; have HB1 := Lib.hid hbm; have hvm := hbm.shape; clear hbm; obtain ⟨bn1, ba1, bl1, bc1, rfl⟩ := hvm))
  replace hb := hb.trans (hn.mono hb.size)
  refine hK.out _ _ (up_iff.2 hb) ?_
  clear hK K
  clear hn
  refine wpS_nil ?_
  simp only [List.drop_succ_cons, List.drop_zero]
  first | refine calls_w ?_ | refine name_world ?_ | refine list_world ?_ | refine post_world ?_
  intro U2 hU2
  first | (subst hU2; have u_ := U2; clear u_) | (rw [← hU2] at hb; clear hU2)
  clear c1_0 c1_1 c1_2 c1_3 c1_4 c1_5 c1_6 c1_7 l1
  have k1 := Kk1.out.of hb
  clear Kk1
  have k2 := Kk2.out.of hb
  clear Kk2
  replace hb0 := hb0.trans (hb.mono hb0.size)
  clear hb
  go_wp2_with fail
  obtain ⟨r2, hr2⟩ : ∃ o_o : Int, y = o_o := ⟨_, rfl⟩
  have Hr2 := Lib.hid hr2
  clear hr2
  refine (Read_v y r2 Hr2.out _iy _).mono ?_
  rintro e U3 ⟨v_, rfl, hbm, hn⟩
  clear k1
  replace k2 := k2.of hn
  replace HB1 := Lib.hid (HB1.out.of hn)
  replace hb0 := hb0.trans (hn.mono hb0.size)
  clear hn
  have HB2 := Lib.hid hbm
  have hvm := hbm.shape
  clear hbm
  obtain ⟨bn2, ba2, bl2, bc2, rfl⟩ := hvm
  have c2_0 : U3.cell? ⟨(w.heap.size + 1), 0, none⟩ = some (.bool false) := k2.cell 0
  have c2_1 : U3.cell? ⟨(w.heap.size + 1), 1, none⟩ = some (.slice none 0 0) := k2.cell 1
  have c2_2 : U3.cell? ⟨(w.heap.size + 1), 2, none⟩ = some (.bool false) := k2.cell 2
  have c2_3 : U3.cell? ⟨(w.heap.size + 1), 3, none⟩ = some (.slice none 0 0) := k2.cell 3
  have f2_0 := k2.free 0
  have f2_1 := k2.free 1
  have f2_2 := k2.free 2
  have f2_3 := k2.free 3
  have l2 := k2.lt
  have e0 : r1 = R0 := by rw [← HR0.out]; unfold p15n; (try rw [Hr1.out]); (try rw [Hr2.out]); all_goals first | rfl | simp
  have e1 : r2 = R1 := by rw [← HR1.out]; unfold p15d; (try rw [Hr1.out]); (try rw [Hr2.out]); all_goals first | rfl | simp
  subst e0
  subst e1
  go_wp2
  clear c2_0 c2_1 c2_2 c2_3 f2_0 f2_1 f2_2 f2_3 l2
  first | refine post_world ?_
  intro V4 hV4
  have D1 := Lib.hid k2.lt
  have D2 := Lib.hid hb0.size
  have nk2 : Blk V4 (w.heap.size + 1) #[.bool bn1, .slice ba1 bl1 bc1, .bool bn2, .slice ba2 bl2 bc2] 60 := by rw [hV4]; exact (blk_full _ [.bool bn1, .slice ba1 bl1 bc1, .bool bn2, .slice ba2 bl2 bc2] k2 rfl)
  have nhb0 : Below w.heap.size w V4 := by rw [hV4]; exact (blw_setL hb0 (by omega) 0 [.bool bn1, .slice ba1 bl1 bc1, .bool bn2, .slice ba2 bl2 bc2])
  replace HB1 : Hid (Big V4 (.agg #[.bool bn1, .slice ba1 bl1 bc1]) r1 18) := Lib.hid (by rw [hV4]; exact (big_setL HB1.out (Blk.cell k2 0) (fun _ h => by cases h) 0 [.bool bn1, .slice ba1 bl1 bc1, .bool bn2, .slice ba2 bl2 bc2]))
  replace HB2 : Hid (Big V4 (.agg #[.bool bn2, .slice ba2 bl2 bc2]) r2 18) := Lib.hid (by rw [hV4]; exact (big_setL HB2.out (Blk.cell k2 0) (fun _ h => by cases h) 0 [.bool bn1, .slice ba1 bl1 bc1, .bool bn2, .slice ba2 bl2 bc2]))
  clear k2
  clear hb0
  clear hV4
  have k2 := nk2
  clear nk2
  have hb0 := nhb0
  clear nhb0
  have g2_0 : V4.cell? ⟨(w.heap.size + 1), 0, none⟩ = some (.bool bn1) := k2.cell 0
  have g2_1 : V4.cell? ⟨(w.heap.size + 1), 1, none⟩ = some (.slice ba1 bl1 bc1) := k2.cell 1
  have g2_2 : V4.cell? ⟨(w.heap.size + 1), 2, none⟩ = some (.bool bn2) := k2.cell 2
  have g2_3 : V4.cell? ⟨(w.heap.size + 1), 3, none⟩ = some (.slice ba2 bl2 bc2) := k2.cell 3
  clear k2
  simp [bodyPost, results, Try.results38, go_sem, g2_0, g2_1, g2_2, g2_3]
  exact ⟨_, _, _, _, _, _, _, _, rfl, (HB1.out.mono (by decide)), (HB2.out.mono (by decide)), hb0⟩
end Go.Proofs.Ytlcbomjdbdgbmaa

namespace Go.Proofs.Ytlcbomjdbdgbmaa
open Go.RowKit

def S3 (x : Int) : Prop := x = -1 ∨ x = 0 ∨ x = 1
theorem S3.wrap {x : Int} (hx : S3 x) : wrap64 x = x := by
  unfold S3 at *
  rcases hx with rfl | rfl | rfl <;> unfold wrap64 <;> omega
end Go.Proofs.Ytlcbomjdbdgbmaa

namespace Go.Proofs.Ytlcbomjdbdgbmaa
namespace Stay
open Go Go.RowKit

section
variable {P : Program} {ops : Array Oper} {Q : Exit → Act → World → Prop} {md : Region.Mode} {W : World}

/-- the first part of a schedule: its items lie below j0, and none of them is number j0 or comes behind it -/
def schedFG (md : Region.Mode) (ops : Array Oper) (j0 jc : Nat) (τ : List (Nat × Nat)) : List (Nat × Nat) → Array Bool → Bool
  | [], listed => decide (Region.ready md ops listed = [j0]) && schedG md ops jc τ listed
  | (k, i) :: σ, listed => decide (i < j0) && (k == 0 || k == 1 || k == 2) && itemB md ops jc k i listed && schedFG md ops j0 jc τ σ (listed.setIfInBounds i true)

theorem floatG_main {j0 jc : Nat} {A : List Nat} {z : Nat → Obj} {τ : List (Nat × Nat)} (hsel : Region.noSelect ops = true) (hQ : ∀ c a d v w, Q (.panic c) (Act.put a d v) w ↔ Q (.panic c) a w) (hj0 : j0 < ops.size)
    (ok : FloatOk ops j0 A) (hAw : ∀ i ∈ A, Region.waitsFor md ops j0 i = true) (hAl : ∀ i ∈ A, ∀ oi, ops[i]? = some oi → ∀ ρ w, (execOp ρ oi).run P w = .ok (.value (ptrTo w.heap.size)) (w.alloc (z i))) :
    ∀ (f : Nat) (σ : List (Nat × Nat)) (D : List Nat) (β : Nat → Nat) (a0 : Act) (w0 w : World) (ls listed : Array Bool), σ.length + (A.length - D.length) = f → FlSt md ops ops.size A W z ls listed D β w →
      schedFG md ops j0 jc τ σ ls = true → Below w0.heap.size w0 w → wpFG P ops W Q (fun a w => ∀ w1, Below w.heap.size w w1 → Below W.heap.size W w1 → ∀ β, Good W z β A w1 → wpG P ops (fun w' => ∃ u : UpTo W.heap.size W, w' = u.w) Q τ (puts ops β A a) w1) σ a0 w0 →
      wpAnyHS P md ops Q (fun w' => ∃ u : UpTo W.heap.size W, w' = u.w) jc (fun listed' a' w' => Region.ready md ops listed' = [] ∧ Q .normal a' w') (f + τ.length) listed (puts ops β D a0) w := by
  intro f
  have fin : ∀ (D : List Nat) (β : Nat → Nat) (a0 : Act) (w0 w : World) (ls listed : Array Bool), A.length ≤ D.length → FlSt md ops ops.size A W z ls listed D β w → schedG md ops jc τ ls = true → Below w0.heap.size w0 w →
      (∀ w1, Below w0.heap.size w0 w1 → Below W.heap.size W w1 → ∀ β, Good W z β A w1 → wpG P ops (fun w' => ∃ u : UpTo W.heap.size W, w' = u.w) Q τ (puts ops β A a0) w1) →
      wpAnyHS P md ops Q (fun w' => ∃ u : UpTo W.heap.size W, w' = u.w) jc (fun listed' a' w' => Region.ready md ops listed' = [] ∧ Q .normal a' w') τ.length listed (puts ops β D a0) w := by
    intro D β a0 w0 w ls listed hlen s hB hb h
    have hp : D.Perm A := nodup_perm s.dn s.da hlen
    have e : listed = ls := by
      refine Array.ext (s.size.trans s.lsz.symm) fun i h1 h2 => ?_
      have e1 : listed.getD i false = listed[i] := by simp [h1]
      have e2 : ls.getD i false = ls[i] := by simp [h2]
      rw [← e1, ← e2, Bool.eq_iff_iff]
      refine ⟨s.sub i, fun hi => ?_⟩
      by_cases hA : i ∈ A
      · exact (s.flo i hA).2 (hp.mem_iff.2 hA)
      · exact s.sup i hi hA
    rw [puts_perm ok β a0 s.da hp, e]
    exact wpAnyHS_of_G hsel (fun c a d v w => (hQ c a d v w).1) τ ls _ w (e ▸ s.inv) hB (.inl (up_iff.2 s.cw)) (h w hb s.cw β ⟨fun i hi => s.good.1 i (hp.mem_iff.2 hi), fun i hi j hj => s.good.2 i (hp.mem_iff.2 hi) j (hp.mem_iff.2 hj)⟩)
  induction f with
  | zero =>
    intro σ D β a0 w0 w ls listed hf s hB hb h
    have hσ : σ = [] := List.length_eq_zero_iff.1 (by omega)
    subst hσ
    simp only [schedFG, Bool.and_eq_true] at hB
    rw [Nat.zero_add]
    exact fin D β a0 w0 w ls listed (by simp only [List.length_nil] at hf; omega) s hB.2 hb h
  | succ f ih =>
    intro σ D β a0 w0 w ls listed hf s hB hb h
    rw [show f + 1 + τ.length = (f + τ.length) + 1 by omega]
    have allocs : ∀ i, i ∈ A → i ∉ D → wpOp P ops Q i (fun a' w' => ClsAt (fun w' => ∃ u : UpTo W.heap.size W, w' = u.w) jc (listed.setIfInBounds i true) w' ∧ wpAnyHS P md ops Q (fun w' => ∃ u : UpTo W.heap.size W, w' = u.w) jc (fun listed' a' w' => Region.ready md ops listed' = [] ∧ Q .normal a' w') (f + τ.length) (listed.setIfInBounds i true) a' w') (puts ops β D a0) w := by
      intro i hA hD
      refine made_step ok hAl hA hD ?_
      have s' := s.made ok (Nat.le_of_lt hj0) hA hD
      refine ⟨.inl (up_iff.2 s'.cw), ih σ (i :: D) _ a0 w0 (w.alloc (z i)) ls _ ?_ s' hB (hb.alloc hb.size _) h⟩
      have hle : (i :: D).length ≤ A.length := nodup_le (List.nodup_cons.2 ⟨hD, s.dn⟩) s'.da
      simp only [List.length_cons] at hle ⊢
      omega
    match σ, hf, hB, h with
    | [], hf, hB, h =>
      simp only [schedFG, Bool.and_eq_true, decide_eq_true_eq] at hB
      have hpend : ∃ i, i ∈ A ∧ i ∉ D := by
        refine Classical.byContradiction fun hno => ?_
        have hsub : ∀ i ∈ A, i ∈ D := fun i hi => Classical.byContradiction fun h' => hno ⟨i, hi, h'⟩
        have := nodup_le ok.nodup hsub
        simp only [List.length_nil] at hf; omega
      obtain ⟨i, hA, hD⟩ := hpend
      have hri := s.pending ok hA hD
      refine ⟨fun h0 => (by rw [h0] at hri; cases hri), fun j hj => ?_⟩
      rcases s.ready hj with ⟨h1, h2⟩ | ⟨_, h2⟩
      · exact allocs j h1 h2
      · rw [hB.1] at h2
        have hjj : j = j0 := by simpa using h2
        subst hjj
        obtain ⟨o, ho, e, he, hbd, hon⟩ := Region.waitsFor_spec (hAw i hA)
        obtain ⟨_, o', ho', hall⟩ := mem_ready.1 hj
        obtain rfl : o = o' := Option.some.inj (ho.symm.trans ho')
        have h3 := hall e he hbd
        rw [hon] at h3
        exact absurd ((s.flo i hA).1 h3) hD
    | (0, i) :: σ, hf, hB, h =>
      simp only [schedFG, itemB, Bool.and_eq_true, decide_eq_true_eq, bne_iff_ne] at hB
      obtain ⟨⟨⟨hin, _⟩, ⟨⟨hij, hw⟩, hr⟩, hfr⟩, hB'⟩ := hB
      obtain ⟨o, v, ho, hy, hK⟩ := h
      have hr' : i ∈ Region.ready md ops ls := by simpa using hr
      obtain ⟨hiA, hrl⟩ := s.ready_of ok hin hr'
      have hsj := Region.noSelect_spec hsel i o
      refine wpAnyHS_first ho (Region.noSelect_spec hsel) (fun c a d v w => (hQ c a d v w).1) hij (fun l w il hu hc => cls_of hw il hu hc) (fun l a w hL => hL.1) _ listed _ w s.inv
        (free_of s ok hin ho hfr) hrl (puts_yields ok β ho hin hiA (fun cs b => hsj cs b ho) a0 hy D s.da) (.inl (up_iff.2 s.cw)) ?_
      rw [puts_put ok β ho hin hiA v a0 D s.da]
      exact ih σ D β _ w0 w _ _ (by simp only [List.length_cons] at hf; omega) (s.step (Nat.lt_trans hin hj0) hiA hrl (Below.refl _ _)) hB' hb hK
    | (2, i) :: σ, hf, hB, h =>
      simp only [schedFG, itemB, Bool.and_eq_true, decide_eq_true_eq, bne_iff_ne] at hB
      obtain ⟨⟨⟨hin, _⟩, ⟨hij, hr⟩, hfr⟩, hB'⟩ := hB
      obtain ⟨o, v, ho, hy, hK⟩ := h
      have hr' : i ∈ Region.ready md ops ls := by simpa using hr
      obtain ⟨hiA, hrl⟩ := s.ready_of ok hin hr'
      have hsj := Region.noSelect_spec hsel i o
      refine wpAnyHS_first ho (Region.noSelect_spec hsel) (fun c a d v w => (hQ c a d v w).1) hij (fun _ _ _ _ _ => trivial) (fun l a w hL => hL.1) _ listed _ w s.inv
        (free_of s ok hin ho hfr) hrl (puts_yields ok β ho hin hiA (fun cs b => hsj cs b ho) a0 hy D s.da) (.inl (up_iff.2 s.cw)) ?_
      rw [puts_put ok β ho hin hiA v a0 D s.da]
      exact ih σ D β _ w0 w _ _ (by simp only [List.length_cons] at hf; omega) (s.step (Nat.lt_trans hin hj0) hiA hrl (Below.refl _ _)) hB' hb hK
    | (1, i) :: σ, hf, hB, h =>
      simp only [schedFG, itemB, Bool.and_eq_true, decide_eq_true_eq, bne_iff_ne] at hB
      obtain ⟨⟨⟨hin, _⟩, hij, hr⟩, hB'⟩ := hB
      obtain ⟨hiA, hrl⟩ := s.ready_of ok hin (by rw [hr]; simp : i ∈ Region.ready md ops ls)
      refine ⟨fun h0 => (by rw [h0] at hrl; cases hrl), fun j hj => ?_⟩
      rcases s.ready hj with ⟨h1, h2⟩ | ⟨_, h2⟩
      · exact allocs j h1 h2
      · have hji : j = i := by rw [hr] at h2; simpa using h2
        subst hji
        obtain ⟨_, o, ho, _⟩ := mem_ready.1 hrl
        have hsj := Region.noSelect_spec hsel j o
        refine wpOp_mono (fun a' w' h' => ?_) (wpOp_at_puts ok β ho hin hiA (fun cs b => hsj cs b ho) hQ D s.da (h w hb))
        obtain ⟨a1, rfl, hb1, hK⟩ := h'
        have s' := s.step (Nat.lt_trans hin hj0) hiA hrl hb1
        exact ⟨.inl (up_iff.2 s'.cw), ih σ D β a1 w' w' _ _ (by simp only [List.length_cons] at hf; omega) s' hB' (Below.refl _ _) hK⟩
    | (k + 3, i) :: σ, hf, hB, h =>
      simp only [schedFG, Bool.and_eq_true] at hB
      obtain ⟨⟨⟨_, hk⟩, _⟩, _⟩ := hB
      simp at hk


theorem wpFG_mono {T T' : Act → World → Prop} (h : ∀ a w, T a w → T' a w) : ∀ (σ : List (Nat × Nat)) (a : Act) (w : World), wpFG P ops W Q T σ a w → wpFG P ops W Q T' σ a w
  | [], _, _, hh => h _ _ hh
  | (0, _) :: σ, _, _, ⟨o, v, h1, h2, h3⟩ => ⟨o, v, h1, h2, wpFG_mono h σ _ _ h3⟩
  | (2, _) :: σ, _, _, ⟨o, v, h1, h2, h3⟩ => ⟨o, v, h1, h2, wpFG_mono h σ _ _ h3⟩
  | (1, _) :: σ, _, _, hh => fun w1 hb => wpOp_mono (fun _ _ h' => ⟨h'.1, wpFG_mono h σ _ _ h'.2⟩) (hh w1 hb)
  | (_ + 3, _) :: σ, _, _, hh => fun w1 hb => wpOp_mono (fun _ _ h' => ⟨h'.1, wpFG_mono h σ _ _ h'.2⟩) (hh w1 hb)

/-- THE LAW: new variables A, and several stores. -/
theorem wp_region_FG {id : Nat} {a : Act} {w : World} {l : List Oper} (j0 : Nat) (A : List Nat) (z : Nat → Obj) (σ τ : List (Nat × Nat)) (hm : P.follows .mixedOrders = true)
    (hB : (Region.noSelect l.toArray && decide (σ.length + A.length + τ.length = l.length) && decide (j0 < l.length) && floatB l.toArray j0 A && (A.all fun i => Region.waitsFor .any l.toArray j0 i) &&
      schedFG .any l.toArray j0 l.length τ σ ((List.range l.length).map (fun i => A.contains i)).toArray) = true)
    (hQ : ∀ c a d v w, Q (.panic c) (Act.put a d v) w ↔ Q (.panic c) a w)
    (hAl : ∀ i ∈ A, ∀ oi, l[i]? = some oi → ∀ ρ w, (execOp ρ oi).run P w = .ok (.value (ptrTo w.heap.size)) (w.alloc (z i)))
    (h : wpFG P l.toArray w Q (fun a w' => ∀ w1, Below w'.heap.size w' w1 → Below w.heap.size w w1 → ∀ β, Good w z β A w1 → wpG P l.toArray (fun w' => ∃ u : UpTo w.heap.size w, w' = u.w) Q τ (puts l.toArray β A a) w1) σ a w.drew) : (Code.region id l.toArray true).wp P Q a w := by
  simp only [Bool.and_eq_true, decide_eq_true_eq] at hB
  obtain ⟨⟨⟨⟨⟨hsel, hlen⟩, hj⟩, hfl⟩, hw⟩, hs⟩ := hB
  have ok := floatB_ok hfl
  have hls : ∀ j, ((List.range l.length).map (fun i => A.contains i)).toArray.getD j false = true ↔ j ∈ A ∧ j < l.length := by
    intro j
    by_cases hj : j < l.length
    · simp [hj]
    · simp [hj]
  have s0 : FlSt .any l.toArray l.toArray.size A w z ((List.range l.length).map (fun i => A.contains i)).toArray (Array.replicate l.toArray.size false) [] (fun _ => 0) w.drew := by
    refine ⟨by simp, by simp, fun j hj => (by rw [getD_replicate_false] at hj; cases hj), fun j hj hA => absurd ((hls j).1 hj).1 hA, fun j _ => ?_, fun i hi => ?_, HeadInv.none, List.nodup_nil, fun i hi => (by cases hi), (Below.refl _ _).drew, fun i hi => (by cases hi), fun i hi => (by cases hi)⟩
    · rw [getD_replicate_false]; simp
    · obtain ⟨_, oi, hoi, _⟩ := ok.at_ i hi
      have := (Array.getElem?_eq_some_iff.1 hoi).1
      exact (hls i).2 ⟨hi, by simpa using this⟩
  have H := floatG_main (τ := τ) hsel hQ (by simpa using hj) ok (fun i hi => List.all_eq_true.1 hw i hi) (fun i hi oi ho => hAl i hi oi (by simpa using ho)) _ σ [] (fun _ => 0) a w.drew w.drew _ _ rfl s0 hs (Below.refl _ _) h
  refine wp_region_any hm ?_
  have := wpAny_of_HS (g := 0) (fun listed a' w' hL => (⟨hL.1, hL.2⟩ : wpAny P .any l.toArray Q 0 listed a' w')) _ _ _ _ H
  have e : σ.length + (A.length - ([] : List Nat).length) + τ.length + 0 = l.toArray.size := by simp; omega
  rw [e] at this
  exact this

/-- two new variables, several stores -/
theorem wp_region_FG2 {id : Nat} {a : Act} {w : World} {l : List Oper} (j0 i j : Nat) (σ τ : List (Nat × Nat)) {o o' : Oper} {d d' : Tmp} {t t' : TypeId} {c c' : Array Value} (hm : P.follows .mixedOrders = true)
    (hB : (Region.noSelect l.toArray && decide (σ.length + [i, j].length + τ.length = l.length) && decide (j0 < l.length) && floatB l.toArray j0 [i, j] && ([i, j].all fun i => Region.waitsFor .any l.toArray j0 i) &&
      schedFG .any l.toArray j0 l.length τ σ ((List.range l.length).map (fun k => [i, j].contains k)).toArray) = true)
    (hQ : ∀ c a d v w, Q (.panic c) (Act.put a d v) w ↔ Q (.panic c) a w) (ho : l[i]? = some o) (hop : o.op = .alloc t) (hd : o.dst = some d) (hr : AllocRuns P t c)
    (ho' : l[j]? = some o') (hop' : o'.op = .alloc t') (hd' : o'.dst = some d') (hr' : AllocRuns P t' c') (hij : (i == j) = false)
    (h : wpFG P l.toArray w Q (fun a w' => ∀ w1, Below w'.heap.size w' w1 → Below w.heap.size w w1 → ∀ b b', b ≠ b' → w.heap.size ≤ b → w1.heap[b]? = some (.cells c t) → w.heap.size ≤ b' → w1.heap[b']? = some (.cells c' t') →
      wpG P l.toArray (fun w' => ∃ u : UpTo w.heap.size w, w' = u.w) Q τ ((a.put (some d') (ptrTo b')).put (some d) (ptrTo b)) w1) σ a w.drew) :
    (Code.region id l.toArray true).wp P Q a w := by
  have hij : i ≠ j := by simpa using hij
  refine wp_region_FG j0 [i, j] (fun k => if k = i then .cells c t else .cells c' t') σ τ hm hB hQ (fun k hk oi hoi ρ w => ?_) (wpFG_mono (fun a w' h' w1 hb1 hb2 β hg => ?_) _ _ _ h)
  · rcases List.mem_cons.1 hk with rfl | hk
    · obtain rfl : o = oi := Option.some.inj (ho.symm.trans hoi)
      rw [if_pos rfl]; exact alloc_of hr o hop ρ w
    · obtain rfl : k = j := by simpa using hk
      obtain rfl : o' = oi := Option.some.inj (ho'.symm.trans hoi)
      rw [if_neg (Ne.symm hij)]; exact alloc_of hr' o' hop' ρ w
  · have h1 := hg.1 i (by simp)
    have h2 := hg.1 j (by simp)
    simp only [if_pos] at h1
    simp only [if_neg (Ne.symm hij)] at h2
    have e : puts l.toArray β [i, j] a = (a.put (some d') (ptrTo (β j))).put (some d) (ptrTo (β i)) := by
      show (a.put (dstOf l.toArray j) _).put (dstOf l.toArray i) _ = _
      simp [dstOf, ho, hd, ho', hd']
    rw [e]
    exact h' w1 hb1 hb2 _ _ (hg.2 i (by simp) j (by simp) hij) h1.1 h1.2 h2.1 h2.2

/-- three new variables, several stores -/
theorem wp_region_FG3 {id : Nat} {a : Act} {w : World} {l : List Oper} (j0 i j k : Nat) (σ τ : List (Nat × Nat)) {o1 o2 o3 : Oper} {d1 d2 d3 : Tmp} {t1 t2 t3 : TypeId} {c1 c2 c3 : Array Value} (hm : P.follows .mixedOrders = true)
    (hB : (Region.noSelect l.toArray && decide (σ.length + [i, j, k].length + τ.length = l.length) && decide (j0 < l.length) && floatB l.toArray j0 [i, j, k] && ([i, j, k].all fun i => Region.waitsFor .any l.toArray j0 i) &&
      schedFG .any l.toArray j0 l.length τ σ ((List.range l.length).map (fun n => [i, j, k].contains n)).toArray) = true)
    (hQ : ∀ c a d v w, Q (.panic c) (Act.put a d v) w ↔ Q (.panic c) a w) (hdist : (i == j || i == k || j == k) = false)
    (h1 : l[i]? = some o1) (p1 : o1.op = .alloc t1) (e1 : o1.dst = some d1) (r1 : AllocRuns P t1 c1)
    (h2 : l[j]? = some o2) (p2 : o2.op = .alloc t2) (e2 : o2.dst = some d2) (r2 : AllocRuns P t2 c2)
    (h3 : l[k]? = some o3) (p3 : o3.op = .alloc t3) (e3 : o3.dst = some d3) (r3 : AllocRuns P t3 c3)
    (h : wpFG P l.toArray w Q (fun a w' => ∀ w1, Below w'.heap.size w' w1 → Below w.heap.size w w1 → ∀ b1 b2 b3, (b1 ≠ b2 ∧ b1 ≠ b3 ∧ b2 ≠ b3) →
      (w.heap.size ≤ b1 ∧ w1.heap[b1]? = some (.cells c1 t1)) → (w.heap.size ≤ b2 ∧ w1.heap[b2]? = some (.cells c2 t2)) → (w.heap.size ≤ b3 ∧ w1.heap[b3]? = some (.cells c3 t3)) →
      wpG P l.toArray (fun w' => ∃ u : UpTo w.heap.size w, w' = u.w) Q τ (((a.put (some d3) (ptrTo b3)).put (some d2) (ptrTo b2)).put (some d1) (ptrTo b1)) w1) σ a w.drew) :
    (Code.region id l.toArray true).wp P Q a w := by
  simp only [Bool.or_eq_false_iff, beq_eq_false_iff_ne] at hdist
  obtain ⟨⟨n12, n13⟩, n23⟩ := hdist
  refine wp_region_FG j0 [i, j, k] (fun n => if n = i then .cells c1 t1 else if n = j then .cells c2 t2 else .cells c3 t3) σ τ hm hB hQ (fun n hn oi hoi ρ w => ?_) (wpFG_mono (fun a w' h' w1 hb1 hb2 β hg => ?_) _ _ _ h)
  · rcases List.mem_cons.1 hn with rfl | hn
    · obtain rfl : o1 = oi := Option.some.inj (h1.symm.trans hoi)
      rw [if_pos rfl]; exact alloc_of r1 o1 p1 ρ w
    · rcases List.mem_cons.1 hn with rfl | hn
      · obtain rfl : o2 = oi := Option.some.inj (h2.symm.trans hoi)
        rw [if_neg (Ne.symm n12), if_pos rfl]; exact alloc_of r2 o2 p2 ρ w
      · obtain rfl : n = k := by simpa using hn
        obtain rfl : o3 = oi := Option.some.inj (h3.symm.trans hoi)
        rw [if_neg (Ne.symm n13), if_neg (Ne.symm n23)]; exact alloc_of r3 o3 p3 ρ w
  · have g1 := hg.1 i (by simp)
    have g2 := hg.1 j (by simp)
    have g3 := hg.1 k (by simp)
    simp only [if_pos] at g1
    simp only [if_neg (Ne.symm n12), if_pos] at g2
    simp only [if_neg (Ne.symm n13), if_neg (Ne.symm n23)] at g3
    have e : puts l.toArray β [i, j, k] a = ((a.put (some d3) (ptrTo (β k))).put (some d2) (ptrTo (β j))).put (some d1) (ptrTo (β i)) := by
      show ((a.put (dstOf l.toArray k) _).put (dstOf l.toArray j) _).put (dstOf l.toArray i) _ = _
      simp [dstOf, h1, e1, h2, e2, h3, e3]
    rw [e]
    exact h' w1 hb1 hb2 _ _ _ ⟨hg.2 i (by simp) j (by simp) n12, hg.2 i (by simp) k (by simp) n13, hg.2 j (by simp) k (by simp) n23⟩ g1 g2 g3

end
end Stay
end Go.Proofs.Ytlcbomjdbdgbmaa

namespace Go.Proofs.Ytlcbomjdbdgbmaa
open Go.RowKit

structure OutL (l : List Nat) (W w' : World) : Prop where
  os : w'.os = W.os
  tape : w'.tape = W.tape
  output : w'.output = W.output
  size : W.heap.size ≤ w'.heap.size
  block : ∀ k, k < W.heap.size → k ∉ l → w'.heap[k]? = W.heap[k]?
theorem OutL.refl (l : List Nat) (W : World) : OutL l W W := ⟨rfl, rfl, rfl, Nat.le_refl _, fun _ _ _ => rfl⟩
theorem OutL.ofBelow {l : List Nat} {w w' : World} (h : Below w.heap.size w w') : OutL l w w' := ⟨h.os, h.tape, h.output, h.size, fun k hk _ => h.block k hk⟩
theorem OutL.trans {l : List Nat} {W w w' : World} (h : OutL l W w) (h' : OutL l w w') : OutL l W w' :=
  ⟨h'.os.trans h.os, h'.tape.trans h.tape, h'.output.trans h.output, Nat.le_trans h.size h'.size, fun k hk hc => (h'.block k (Nat.lt_of_lt_of_le hk h.size) hc).trans (h.block k hk hc)⟩
theorem OutL.mono {l l' : List Nat} {W w : World} (h : OutL l W w) (hl : ∀ k, k < W.heap.size → k ∈ l → k ∈ l') : OutL l' W w :=
  ⟨h.os, h.tape, h.output, h.size, fun k hk hc => h.block k hk fun hm => hc (hl k hk hm)⟩
theorem OutL.set {l : List Nat} {W w : World} (h : OutL l W w) {b : Nat} (hb : b ∈ l) (o : Nat) (s : Option Nat) (v : Value) : OutL l W (w.setCell ⟨b, o, s⟩ v) :=
  ⟨h.os, h.tape, h.output, by simpa [World.setCell] using h.size, fun k hk hc => (Below.heap_setCell _ _ _ _ (fun e => hc (by have : k = b := e; rw [this]; exact hb))).trans (h.block k hk hc)⟩
theorem OutL.alloc {l : List Nat} {W w : World} (h : OutL l W w) (o : Obj) : OutL l W (w.alloc o) := h.trans (.ofBelow ((Below.refl _ _).alloc (Nat.le_refl _) o))
theorem OutL.drew {l : List Nat} {W w : World} (h : OutL l W w) : OutL l W w.drew := h.trans (.ofBelow (Below.refl _ _).drew)
theorem OutL.below {l : List Nat} {B : Nat} {W w : World} (h : OutL l W w) (hB : B ≤ W.heap.size) (hl : ∀ k ∈ l, B ≤ k) : Below B W w :=
  ⟨h.os, h.tape, h.output, h.size, fun k hk => h.block k (by omega) fun hm => by have := hl k hm; omega⟩
def UpL (l : List Nat) (W : World) : Type := { w' : World // OutL l W w' }
def UpL.w {l : List Nat} {W : World} (u : UpL l W) : World := u.1
@[go_sem] theorem UpL.cell {l : List Nat} {W : World} (u : UpL l W) (b o : Nat) (h : b < W.heap.size) (hc : b ∉ l) : u.w.cell? ⟨b, o, none⟩ = W.cell? ⟨b, o, none⟩ :=
  World.cell?_of_block (w := W) (u.2.block b h hc)
end Go.Proofs.Ytlcbomjdbdgbmaa

namespace Go.Proofs.Ytlcbomjdbdgbmaa
open Go.RowKit

theorem alPxL4_0 : AllocRuns Try.prog 50 #[.int .i64 0, .int .i64 0, .int .i64 0, .int .i64 0] := fun w => by kernel_rfl

theorem alPxL4_1 : AllocRuns Try.prog 24 #[.int .i64 0, .int .i64 0] := fun w => by kernel_rfl

set_option maxRecDepth 100000 in
set_option maxHeartbeats 4000000 in

theorem PAh_N1 (ax : Int) (ay : Int) (bx : Int) (b_y : Int) (cx : Int) (cy : Int) (dx : Int) (dy : Int) (n : Int) (xfn : Int) (xfd : Int) (xtn : Int) (xtd : Int) (xfo : Bool) (xto : Bool) (yfn : Int) (yfd : Int) (ytn : Int) (ytd : Int) (yfo : Bool) (yto : Bool) (ky : Bool)   (hP0 : cufn ax ay bx b_y cx cy n = xfn) (hP1 : cufd ax ay bx b_y cx cy n = xfd) (hP2 : cutn ax ay bx b_y cx cy n = xtn) (hP3 : cutd ax ay bx b_y cx cy n = xtd) (hP4 : cufo ax ay bx b_y cx cy n = xfo) (hP5 : cuto ax ay bx b_y cx cy n = xto) (hP6 : cufn ax ay bx b_y dx dy n = yfn) (hP7 : cufd ax ay bx b_y dx dy n = yfd) (hP8 : cutn ax ay bx b_y dx dy n = ytn) (hP9 : cutd ax ay bx b_y dx dy n = ytd) (hP10 : cufo ax ay bx b_y dx dy n = yfo) (hP11 : cuto ax ay bx b_y dx dy n = yto) (hP12 : cuk ax ay bx b_y cx cy n = false) (hP13 : cuk ax ay bx b_y dx dy n = ky) (hP14 : pxA xfn xfd xtn xtd xfo xto yfn yfd ytn ytd yfo yto = 0) (hP15 : pxA yfn yfd ytn ytd yfo yto xfn xfd xtn xtd xfo xto = 0) (hP16 : p15n xtn xtd = xtn) (hP17 : p15d xtn xtd = xtd) (hP18 : p15n ytn ytd = ytn) (hP19 : p15d ytn ytd = ytd) (hP20 : p15n xfn xfd = xfn) (hP21 : p15d xfn xfd = xfd) (hP22 : p15n yfn yfd = yfn) (hP23 : p15d yfn yfd = yfd) (_ixfn : InI xfn) (_ixfd : InI xfd) (_ixtn : InI xtn) (_ixtd : InI xtd) (_iyfn : InI yfn) (_iyfd : InI yfd) (_iytn : InI ytn) (_iytd : InI ytd) (_iax : In64 ax) (_iay : In64 ay) (_ibx : In64 bx) (_ib_y : In64 b_y) (_icx : In64 cx) (_icy : In64 cy) (_idx : In64 dx) (_idy : In64 dy) (_in : In64 n)  (w : World)  :
    Calls Try.prog 7 #[.agg #[.int .i64 ax, .int .i64 ay, .int .i64 bx, .int .i64 b_y, .int .i64 cx, .int .i64 cy, .int .i64 dx, .int .i64 dy, .int .i64 n]] w fun e w' => e = .returned (.bool true) ∧ Below w.heap.size w w' := by

  have HP0 := Lib.hid hP0
  clear hP0
  have HP1 := Lib.hid hP1
  clear hP1
  have HP2 := Lib.hid hP2
  clear hP2
  have HP3 := Lib.hid hP3
  clear hP3
  have HP4 := Lib.hid hP4
  clear hP4
  have HP5 := Lib.hid hP5
  clear hP5
  have HP6 := Lib.hid hP6
  clear hP6
  have HP7 := Lib.hid hP7
  clear hP7
  have HP8 := Lib.hid hP8
  clear hP8
  have HP9 := Lib.hid hP9
  clear hP9
  have HP10 := Lib.hid hP10
  clear hP10
  have HP11 := Lib.hid hP11
  clear hP11
  have HP12 := Lib.hid hP12
  clear hP12
  have HP13 := Lib.hid hP13
  clear hP13
  have HP14 := Lib.hid hP14
  clear hP14
  have HP15 := Lib.hid hP15
  clear hP15
  have HP16 := Lib.hid hP16
  clear hP16
  have HP17 := Lib.hid hP17
  clear hP17
  have HP18 := Lib.hid hP18
  clear hP18
  have HP19 := Lib.hid hP19
  clear hP19
  have HP20 := Lib.hid hP20
  clear hP20
  have HP21 := Lib.hid hP21
  clear hP21
  have HP22 := Lib.hid hP22
  clear hP22
  have HP23 := Lib.hid hP23
  clear hP23
  go_enter Try.func7, Try.ntmps7
  go_wp2_with fail
  first | refine calls_w ?_ | refine name_world ?_ | refine list_world ?_ | refine post_world ?_
  intro V1 hV1
  have hn : Below w.heap.size w V1 := by rw [hV1]; exact below_a1 _ _
  have nhb0 := hn
  have k1 : Blk V1 w.heap.size #[.int .i64 ax, .int .i64 ay, .int .i64 bx, .int .i64 b_y, .int .i64 cx, .int .i64 cy, .int .i64 dx, .int .i64 dy, .int .i64 n] 79 := by rw [hV1]; exact (Blk.new _ _ _)
  clear hV1
  have hb0 := nhb0
  clear nhb0
  have c1_0 : V1.cell? ⟨w.heap.size, 0, none⟩ = some (.int .i64 ax) := k1.cell 0
  have c1_1 : V1.cell? ⟨w.heap.size, 1, none⟩ = some (.int .i64 ay) := k1.cell 1
  have c1_2 : V1.cell? ⟨w.heap.size, 2, none⟩ = some (.int .i64 bx) := k1.cell 2
  have c1_3 : V1.cell? ⟨w.heap.size, 3, none⟩ = some (.int .i64 b_y) := k1.cell 3
  have c1_4 : V1.cell? ⟨w.heap.size, 4, none⟩ = some (.int .i64 cx) := k1.cell 4
  have c1_5 : V1.cell? ⟨w.heap.size, 5, none⟩ = some (.int .i64 cy) := k1.cell 5
  have c1_6 : V1.cell? ⟨w.heap.size, 6, none⟩ = some (.int .i64 dx) := k1.cell 6
  have c1_7 : V1.cell? ⟨w.heap.size, 7, none⟩ = some (.int .i64 dy) := k1.cell 7
  have c1_8 : V1.cell? ⟨w.heap.size, 8, none⟩ = some (.int .i64 n) := k1.cell 8
  have l1 := k1.lt
  have Kk1 := Lib.hid k1
  clear k1
  refine Stay.wp_region_FG3 11 8 9 10 [(0, 0), (0, 1), (0, 2), (0, 3), (0, 4), (0, 5), (0, 6), (0, 7)] [(1, 11), (1, 12), (1, 13), (0, 14)] (by kernel_rfl) (by kernel_rfl) (fun _ _ d _ _ => by cases d <;> exact Iff.rfl) rfl rfl rfl rfl alPxL4_0 rfl rfl rfl alPxL4_1 rfl rfl rfl alPxL4_1 ?_
  have hb : Below V1.heap.size V1 V1.drew := (Below.refl _ _).drew
  iterate 8
    refine wpFG_take0 rfl rfl ?_
    go_big_quiet_step (rfl)
    refine wpQuiet_nil ?_
  refine wpFG_nil ?_
  clear hb
  rintro w1 hg hb b1 b2 b3 hne ⟨lb1, nb1⟩ ⟨lb2, nb2⟩ ⟨lb3, nb3⟩
  clear hg
  simp only [Act.put, ptrTo, List.setIfInBounds_toArray, List.set_cons_succ, List.set_cons_zero]
  have m1 : Blk w1 b1 #[.int .i64 0, .int .i64 0, .int .i64 0, .int .i64 0] 50 := nb1
  have mc1_0 : w1.cell? ⟨b1, 0, none⟩ = some (.int .i64 0) := m1.cell 0
  have mf1_0 := m1.free 0
  have mc1_1 : w1.cell? ⟨b1, 1, none⟩ = some (.int .i64 0) := m1.cell 1
  have mf1_1 := m1.free 1
  have mc1_2 : w1.cell? ⟨b1, 2, none⟩ = some (.int .i64 0) := m1.cell 2
  have mf1_2 := m1.free 2
  have mc1_3 : w1.cell? ⟨b1, 3, none⟩ = some (.int .i64 0) := m1.cell 3
  have mf1_3 := m1.free 3
  have m2 : Blk w1 b2 #[.int .i64 0, .int .i64 0] 24 := nb2
  have mc2_0 : w1.cell? ⟨b2, 0, none⟩ = some (.int .i64 0) := m2.cell 0
  have mf2_0 := m2.free 0
  have mc2_1 : w1.cell? ⟨b2, 1, none⟩ = some (.int .i64 0) := m2.cell 1
  have mf2_1 := m2.free 1
  have m3 : Blk w1 b3 #[.int .i64 0, .int .i64 0] 24 := nb3
  have mc3_0 : w1.cell? ⟨b3, 0, none⟩ = some (.int .i64 0) := m3.cell 0
  have mf3_0 := m3.free 0
  have mc3_1 : w1.cell? ⟨b3, 1, none⟩ = some (.int .i64 0) := m3.cell 1
  have mf3_1 := m3.free 1
  refine wpG_do1 rfl ?_
  intro K hK
  go_wp2_with fail
  refine hK.out _ _ (up_iff.2 (by repeat' (first | with_reducible refine Below.setCell ?_ ?_ _ | with_reducible exact hb | with_reducible exact lb1 | with_reducible exact lb2 | with_reducible exact lb3))) ?_
  clear hK K
  refine wpG_do1 rfl ?_
  intro K hK
  go_wp2_with fail
  refine hK.out _ _ (up_iff.2 (by repeat' (first | with_reducible refine Below.setCell ?_ ?_ _ | with_reducible exact hb | with_reducible exact lb1 | with_reducible exact lb2 | with_reducible exact lb3))) ?_
  clear hK K
  refine wpG_do1 rfl ?_
  intro K hK
  go_wp2_with fail
  refine hK.out _ _ (up_iff.2 (by repeat' (first | with_reducible refine Below.setCell ?_ ?_ _ | with_reducible exact hb | with_reducible exact lb1 | with_reducible exact lb2 | with_reducible exact lb3))) ?_
  clear hK K
  refine wpG_take0 rfl rfl ?_
  go_big_quiet_step (rfl)
  refine wpQuiet_nil ?_
  refine wpG_nil ?_
  refine list_world ?_
  intro U2 hU2
  clear c1_0 c1_1 c1_2 c1_3 c1_4 c1_5 c1_6 c1_7 c1_8 l1
  have D1 := Lib.hid Kk1.out.lt
  have D2 := Lib.hid hb0.size
  have D3 := Lib.hid lb1
  have D4 := Lib.hid lb2
  have D5 := Lib.hid lb3
  have D6 := Lib.hid hne
  have k1 : Blk U2 w.heap.size #[.int .i64 ax, .int .i64 ay, .int .i64 bx, .int .i64 b_y, .int .i64 cx, .int .i64 cy, .int .i64 dx, .int .i64 dy, .int .i64 n] 79 := by rw [hU2]; exact (blk_setL (blk_setL (blk_setL (Kk1.out.of hb) (by have := D1.out; have := D3.out; omega) 0 [.int .i64 ax, .int .i64 ay, .int .i64 bx, .int .i64 b_y]) (by have := D1.out; have := D4.out; omega) 0 [.int .i64 cx, .int .i64 cy]) (by have := D1.out; have := D5.out; omega) 0 [.int .i64 dx, .int .i64 dy])
  have k2 : Blk U2 b1 #[.int .i64 ax, .int .i64 ay, .int .i64 bx, .int .i64 b_y] 50 := by rw [hU2]; exact (blk_setL (blk_setL (blk_full _ [.int .i64 ax, .int .i64 ay, .int .i64 bx, .int .i64 b_y] m1 rfl) (by have := D6.out; omega) 0 [.int .i64 cx, .int .i64 cy]) (by have := D6.out; omega) 0 [.int .i64 dx, .int .i64 dy])
  have k3 : Blk U2 b2 #[.int .i64 cx, .int .i64 cy] 24 := by rw [hU2]; exact (blk_setL (blk_full _ [.int .i64 cx, .int .i64 cy] (blk_setL m2 (by have := D6.out; omega) 0 [.int .i64 ax, .int .i64 ay, .int .i64 bx, .int .i64 b_y]) rfl) (by have := D6.out; omega) 0 [.int .i64 dx, .int .i64 dy])
  have k4 : Blk U2 b3 #[.int .i64 dx, .int .i64 dy] 24 := by rw [hU2]; exact (blk_full _ [.int .i64 dx, .int .i64 dy] (blk_setL (blk_setL m3 (by have := D6.out; omega) 0 [.int .i64 ax, .int .i64 ay, .int .i64 bx, .int .i64 b_y]) (by have := D6.out; omega) 0 [.int .i64 cx, .int .i64 cy]) rfl)
  replace hb0 : Below w.heap.size w U2 := by rw [hU2]; exact (blw_setL (blw_setL (blw_setL (hb0.trans (hb.mono hb0.size)) (by have := D2.out; have := D3.out; omega) 0 [.int .i64 ax, .int .i64 ay, .int .i64 bx, .int .i64 b_y]) (by have := D2.out; have := D4.out; omega) 0 [.int .i64 cx, .int .i64 cy]) (by have := D2.out; have := D5.out; omega) 0 [.int .i64 dx, .int .i64 dy])
  clear hU2 hb Kk1 m1 nb1 lb1 mc1_0 mf1_0 mc1_1 mf1_1 mc1_2 mf1_2 mc1_3 mf1_3 m2 nb2 lb2 mc2_0 mf2_0 mc2_1 mf2_1 m3 nb3 lb3 mc3_0 mf3_0 mc3_1 mf3_1 hne
  generalize b1 = q2 at *
  generalize b2 = q3 at *
  generalize b3 = q4 at *
  have c2_0 : U2.cell? ⟨q2, 0, none⟩ = some (.int .i64 ax) := k2.cell 0
  have c2_1 : U2.cell? ⟨q2, 1, none⟩ = some (.int .i64 ay) := k2.cell 1
  have c2_2 : U2.cell? ⟨q2, 2, none⟩ = some (.int .i64 bx) := k2.cell 2
  have c2_3 : U2.cell? ⟨q2, 3, none⟩ = some (.int .i64 b_y) := k2.cell 3
  have l2 := k2.lt
  have c3_0 : U2.cell? ⟨q3, 0, none⟩ = some (.int .i64 cx) := k3.cell 0
  have c3_1 : U2.cell? ⟨q3, 1, none⟩ = some (.int .i64 cy) := k3.cell 1
  have l3 := k3.lt
  go_wp2_with fail
  clear c2_0 c2_1 c2_2 c2_3 l2 c3_0 c3_1 l3
  refine (cut_v ax ay bx b_y cx cy n xfn xfd xtn xtd xfo xto false HP0.out HP1.out HP2.out HP3.out HP4.out HP5.out HP12.out _iax _iay _ibx _ib_y _icx _icy _in _).mono ?_
  rintro e U3 ⟨rfl, hn⟩
  clear k1
  replace k2 := k2.of hn
  replace k3 := k3.of hn
  replace k4 := k4.of hn
  replace hb0 := hb0.trans (hn.mono hb0.size)
  clear hn
  have c2_0 : U3.cell? ⟨q2, 0, none⟩ = some (.int .i64 ax) := k2.cell 0
  have c2_1 : U3.cell? ⟨q2, 1, none⟩ = some (.int .i64 ay) := k2.cell 1
  have c2_2 : U3.cell? ⟨q2, 2, none⟩ = some (.int .i64 bx) := k2.cell 2
  have c2_3 : U3.cell? ⟨q2, 3, none⟩ = some (.int .i64 b_y) := k2.cell 3
  have l2 := k2.lt
  have c4_0 : U3.cell? ⟨q4, 0, none⟩ = some (.int .i64 dx) := k4.cell 0
  have c4_1 : U3.cell? ⟨q4, 1, none⟩ = some (.int .i64 dy) := k4.cell 1
  have l4 := k4.lt
  have pr2_5 : q2 ≠ U3.heap.size := (by have := k2.lt; omega)
  have pr4_5 : q4 ≠ U3.heap.size := (by have := k4.lt; omega)
  go_wp2_with (first | ((with_reducible refine stRow (U3.heap.size) #[.int .u64 (wd0 xfn), .int .u64 (wd1 xfn), .int .u64 (wd2 xfn), .int .u64 (wd3 xfn), .int .u64 (wd0 xfd), .int .u64 (wd1 xfd), .int .u64 (wd2 xfd), .int .u64 (wd3 xfd), .int .u64 (wd0 xtn), .int .u64 (wd1 xtn), .int .u64 (wd2 xtn), .int .u64 (wd3 xtn), .int .u64 (wd0 xtd), .int .u64 (wd1 xtd), .int .u64 (wd2 xtd), .int .u64 (wd3 xtd), .bool xfo, .bool xto] _ _ (Blk.new _ _ _) ?_ ?_ ?_ ?_ ?_ ?_); rfl; rfl; (as_aux_lemma => kernel_rfl); rfl; (as_aux_lemma => kernel_rfl); simp only [Act.put]))
  clear c2_0 c2_1 c2_2 c2_3 l2 c4_0 c4_1 l4 pr2_5 pr4_5
  first | refine calls_w ?_ | refine name_world ?_ | refine list_world ?_ | refine post_world ?_
  intro V4 hV4
  rw [World.setRow_alloc_new] at hV4
  have D7 := Lib.hid k2.lt
  have D8 := Lib.hid k3.lt
  have D9 := Lib.hid k4.lt
  have D10 := Lib.hid hb0.size
  have hn : Below U3.heap.size U3 V4 := by rw [hV4]; exact below_a1 _ _
  have nk2 := k2.of hn
  have nk3 := k3.of hn
  have nk4 := k4.of hn
  have nhb0 := hb0.trans (hn.mono hb0.size)
  clear hn
  have k5 : Blk V4 U3.heap.size #[.int .u64 (wd0 xfn), .int .u64 (wd1 xfn), .int .u64 (wd2 xfn), .int .u64 (wd3 xfn), .int .u64 (wd0 xfd), .int .u64 (wd1 xfd), .int .u64 (wd2 xfd), .int .u64 (wd3 xfd), .int .u64 (wd0 xtn), .int .u64 (wd1 xtn), .int .u64 (wd2 xtn), .int .u64 (wd3 xtn), .int .u64 (wd0 xtd), .int .u64 (wd1 xtd), .int .u64 (wd2 xtd), .int .u64 (wd3 xtd), .bool xfo, .bool xto] 54 := by rw [hV4]; exact (Blk.new _ _ _)
  clear k2 k3 k4
  clear hb0
  clear hV4
  have k2 := nk2
  clear nk2
  have k3 := nk3
  clear nk3
  have k4 := nk4
  clear nk4
  have hb0 := nhb0
  clear nhb0
  refine (cut_v ax ay bx b_y dx dy n yfn yfd ytn ytd yfo yto ky HP6.out HP7.out HP8.out HP9.out HP10.out HP11.out HP13.out _iax _iay _ibx _ib_y _idx _idy _in _).mono ?_
  rintro e U5 ⟨rfl, hn⟩
  replace k2 := k2.of hn
  replace k3 := k3.of hn
  replace k4 := k4.of hn
  replace k5 := k5.of hn
  replace hb0 := hb0.trans (hn.mono hb0.size)
  clear hn
  go_wp2_with (first | ((with_reducible refine stRow (U5.heap.size) #[.int .u64 (wd0 yfn), .int .u64 (wd1 yfn), .int .u64 (wd2 yfn), .int .u64 (wd3 yfn), .int .u64 (wd0 yfd), .int .u64 (wd1 yfd), .int .u64 (wd2 yfd), .int .u64 (wd3 yfd), .int .u64 (wd0 ytn), .int .u64 (wd1 ytn), .int .u64 (wd2 ytn), .int .u64 (wd3 ytn), .int .u64 (wd0 ytd), .int .u64 (wd1 ytd), .int .u64 (wd2 ytd), .int .u64 (wd3 ytd), .bool yfo, .bool yto] _ _ (Blk.new _ _ _) ?_ ?_ ?_ ?_ ?_ ?_); rfl; rfl; (as_aux_lemma => kernel_rfl); rfl; (as_aux_lemma => kernel_rfl); simp only [Act.put]) | ((with_reducible refine ldRow (U3.heap.size) #[.int .u64 (wd0 xfn), .int .u64 (wd1 xfn), .int .u64 (wd2 xfn), .int .u64 (wd3 xfn), .int .u64 (wd0 xfd), .int .u64 (wd1 xfd), .int .u64 (wd2 xfd), .int .u64 (wd3 xfd), .int .u64 (wd0 xtn), .int .u64 (wd1 xtn), .int .u64 (wd2 xtn), .int .u64 (wd3 xtn), .int .u64 (wd0 xtd), .int .u64 (wd1 xtd), .int .u64 (wd2 xtd), .int .u64 (wd3 xtd), .bool xfo, .bool xto] _ (blk_rowo (k5.alloc _) (by have := k5.lt; omega) _) ?_ ?_ ?_ ?_); rfl; exact ⟨_, rfl, rfl⟩; (as_aux_lemma => kernel_rfl); simp only [Act.put, List.setIfInBounds_toArray, List.set_cons_succ, List.set_cons_zero]) | ((with_reducible refine ldRow (U5.heap.size) #[.int .u64 (wd0 yfn), .int .u64 (wd1 yfn), .int .u64 (wd2 yfn), .int .u64 (wd3 yfn), .int .u64 (wd0 yfd), .int .u64 (wd1 yfd), .int .u64 (wd2 yfd), .int .u64 (wd3 yfd), .int .u64 (wd0 ytn), .int .u64 (wd1 ytn), .int .u64 (wd2 ytn), .int .u64 (wd3 ytn), .int .u64 (wd0 ytd), .int .u64 (wd1 ytd), .int .u64 (wd2 ytd), .int .u64 (wd3 ytd), .bool yfo, .bool yto] _ (blk_row (Blk.new _ _ _) _) ?_ ?_ ?_ ?_); rfl; exact ⟨_, rfl, rfl⟩; (as_aux_lemma => kernel_rfl); simp only [Act.put, List.setIfInBounds_toArray, List.set_cons_succ, List.set_cons_zero]))
  first | refine calls_w ?_ | refine name_world ?_ | refine list_world ?_ | refine post_world ?_
  intro V6 hV6
  rw [World.setRow_alloc_new] at hV6
  have D11 := Lib.hid k2.lt
  have D12 := Lib.hid k3.lt
  have D13 := Lib.hid k4.lt
  have D14 := Lib.hid k5.lt
  have D15 := Lib.hid hb0.size
  have hn : Below U5.heap.size U5 V6 := by rw [hV6]; exact below_a1 _ _
  have nk2 := k2.of hn
  have nk3 := k3.of hn
  have nk4 := k4.of hn
  have nk5 := k5.of hn
  have nhb0 := hb0.trans (hn.mono hb0.size)
  clear hn
  have k6 : Blk V6 U5.heap.size #[.int .u64 (wd0 yfn), .int .u64 (wd1 yfn), .int .u64 (wd2 yfn), .int .u64 (wd3 yfn), .int .u64 (wd0 yfd), .int .u64 (wd1 yfd), .int .u64 (wd2 yfd), .int .u64 (wd3 yfd), .int .u64 (wd0 ytn), .int .u64 (wd1 ytn), .int .u64 (wd2 ytn), .int .u64 (wd3 ytn), .int .u64 (wd0 ytd), .int .u64 (wd1 ytd), .int .u64 (wd2 ytd), .int .u64 (wd3 ytd), .bool yfo, .bool yto] 54 := by rw [hV6]; exact (Blk.new _ _ _)
  clear k2 k3 k4 k5
  clear hb0
  clear hV6
  have k2 := nk2
  clear nk2
  have k3 := nk3
  clear nk3
  have k4 := nk4
  clear nk4
  have k5 := nk5
  clear nk5
  have hb0 := nhb0
  clear nhb0
  refine (pxAh_is xfn xfd xtn xtd xfo xto yfn yfd ytn ytd yfo yto 0 HP14.out _ixfn _ixfd _ixtn _ixtd _iyfn _iyfd _iytn _iytd  _).mono ?_
  rintro e U7 ⟨rfl, hn⟩
  replace k2 := k2.of hn
  replace k3 := k3.of hn
  replace k4 := k4.of hn
  replace k5 := k5.of hn
  replace k6 := k6.of hn
  replace hb0 := hb0.trans (hn.mono hb0.size)
  clear hn
  go_wp2_with (first | ((with_reducible refine ldRow (U5.heap.size) #[.int .u64 (wd0 yfn), .int .u64 (wd1 yfn), .int .u64 (wd2 yfn), .int .u64 (wd3 yfn), .int .u64 (wd0 yfd), .int .u64 (wd1 yfd), .int .u64 (wd2 yfd), .int .u64 (wd3 yfd), .int .u64 (wd0 ytn), .int .u64 (wd1 ytn), .int .u64 (wd2 ytn), .int .u64 (wd3 ytn), .int .u64 (wd0 ytd), .int .u64 (wd1 ytd), .int .u64 (wd2 ytd), .int .u64 (wd3 ytd), .bool yfo, .bool yto] _ k6 ?_ ?_ ?_ ?_); rfl; exact ⟨_, rfl, rfl⟩; (as_aux_lemma => kernel_rfl); simp only [Act.put, List.setIfInBounds_toArray, List.set_cons_succ, List.set_cons_zero]) | ((with_reducible refine ldRow (U3.heap.size) #[.int .u64 (wd0 xfn), .int .u64 (wd1 xfn), .int .u64 (wd2 xfn), .int .u64 (wd3 xfn), .int .u64 (wd0 xfd), .int .u64 (wd1 xfd), .int .u64 (wd2 xfd), .int .u64 (wd3 xfd), .int .u64 (wd0 xtn), .int .u64 (wd1 xtn), .int .u64 (wd2 xtn), .int .u64 (wd3 xtn), .int .u64 (wd0 xtd), .int .u64 (wd1 xtd), .int .u64 (wd2 xtd), .int .u64 (wd3 xtd), .bool xfo, .bool xto] _ k5 ?_ ?_ ?_ ?_); rfl; exact ⟨_, rfl, rfl⟩; (as_aux_lemma => kernel_rfl); simp only [Act.put, List.setIfInBounds_toArray, List.set_cons_succ, List.set_cons_zero]))
  refine (pxAh_is yfn yfd ytn ytd yfo yto xfn xfd xtn xtd xfo xto 0 HP15.out _iyfn _iyfd _iytn _iytd _ixfn _ixfd _ixtn _ixtd  _).mono ?_
  rintro e U8 ⟨rfl, hn⟩
  replace k2 := k2.of hn
  replace k3 := k3.of hn
  replace k4 := k4.of hn
  replace k5 := k5.of hn
  replace k6 := k6.of hn
  replace hb0 := hb0.trans (hn.mono hb0.size)
  clear hn
  go_wp2_with fail
  refine (p15awake_any _).mono ?_
  rintro e U9 ⟨rfl, hn⟩
  clear k2
  replace k3 := k3.of hn
  replace k4 := k4.of hn
  replace k5 := k5.of hn
  replace k6 := k6.of hn
  replace hb0 := hb0.trans (hn.mono hb0.size)
  clear hn
  go_wp2
  first | go_ret | go_ret2
  exact ⟨by first | rfl | (simp; done) | (simp; assumption), hb0⟩

set_option maxRecDepth 100000 in
set_option maxHeartbeats 4000000 in

theorem PAh_N2 (ax : Int) (ay : Int) (bx : Int) (b_y : Int) (cx : Int) (cy : Int) (dx : Int) (dy : Int) (n : Int) (xfn : Int) (xfd : Int) (xtn : Int) (xtd : Int) (xfo : Bool) (xto : Bool) (yfn : Int) (yfd : Int) (ytn : Int) (ytd : Int) (yfo : Bool) (yto : Bool)   (hP0 : cufn ax ay bx b_y cx cy n = xfn) (hP1 : cufd ax ay bx b_y cx cy n = xfd) (hP2 : cutn ax ay bx b_y cx cy n = xtn) (hP3 : cutd ax ay bx b_y cx cy n = xtd) (hP4 : cufo ax ay bx b_y cx cy n = xfo) (hP5 : cuto ax ay bx b_y cx cy n = xto) (hP6 : cufn ax ay bx b_y dx dy n = yfn) (hP7 : cufd ax ay bx b_y dx dy n = yfd) (hP8 : cutn ax ay bx b_y dx dy n = ytn) (hP9 : cutd ax ay bx b_y dx dy n = ytd) (hP10 : cufo ax ay bx b_y dx dy n = yfo) (hP11 : cuto ax ay bx b_y dx dy n = yto) (hP12 : cuk ax ay bx b_y cx cy n = true) (hP13 : cuk ax ay bx b_y dx dy n = false) (hP14 : pxA xfn xfd xtn xtd xfo xto yfn yfd ytn ytd yfo yto = 0) (hP15 : pxA yfn yfd ytn ytd yfo yto xfn xfd xtn xtd xfo xto = 0) (hP16 : p15n xtn xtd = xtn) (hP17 : p15d xtn xtd = xtd) (hP18 : p15n ytn ytd = ytn) (hP19 : p15d ytn ytd = ytd) (hP20 : p15n xfn xfd = xfn) (hP21 : p15d xfn xfd = xfd) (hP22 : p15n yfn yfd = yfn) (hP23 : p15d yfn yfd = yfd) (_ixfn : InI xfn) (_ixfd : InI xfd) (_ixtn : InI xtn) (_ixtd : InI xtd) (_iyfn : InI yfn) (_iyfd : InI yfd) (_iytn : InI ytn) (_iytd : InI ytd) (_iax : In64 ax) (_iay : In64 ay) (_ibx : In64 bx) (_ib_y : In64 b_y) (_icx : In64 cx) (_icy : In64 cy) (_idx : In64 dx) (_idy : In64 dy) (_in : In64 n)  (w : World)  :
    Calls Try.prog 7 #[.agg #[.int .i64 ax, .int .i64 ay, .int .i64 bx, .int .i64 b_y, .int .i64 cx, .int .i64 cy, .int .i64 dx, .int .i64 dy, .int .i64 n]] w fun e w' => e = .returned (.bool true) ∧ Below w.heap.size w w' := by

  have HP0 := Lib.hid hP0
  clear hP0
  have HP1 := Lib.hid hP1
  clear hP1
  have HP2 := Lib.hid hP2
  clear hP2
  have HP3 := Lib.hid hP3
  clear hP3
  have HP4 := Lib.hid hP4
  clear hP4
  have HP5 := Lib.hid hP5
  clear hP5
  have HP6 := Lib.hid hP6
  clear hP6
  have HP7 := Lib.hid hP7
  clear hP7
  have HP8 := Lib.hid hP8
  clear hP8
  have HP9 := Lib.hid hP9
  clear hP9
  have HP10 := Lib.hid hP10
  clear hP10
  have HP11 := Lib.hid hP11
  clear hP11
  have HP12 := Lib.hid hP12
  clear hP12
  have HP13 := Lib.hid hP13
  clear hP13
  have HP14 := Lib.hid hP14
  clear hP14
  have HP15 := Lib.hid hP15
  clear hP15
  have HP16 := Lib.hid hP16
  clear hP16
  have HP17 := Lib.hid hP17
  clear hP17
  have HP18 := Lib.hid hP18
  clear hP18
  have HP19 := Lib.hid hP19
  clear hP19
  have HP20 := Lib.hid hP20
  clear hP20
  have HP21 := Lib.hid hP21
  clear hP21
  have HP22 := Lib.hid hP22
  clear hP22
  have HP23 := Lib.hid hP23
  clear hP23
  go_enter Try.func7, Try.ntmps7
  go_wp2_with fail
  first | refine calls_w ?_ | refine name_world ?_ | refine list_world ?_ | refine post_world ?_
  intro V1 hV1
  have hn : Below w.heap.size w V1 := by rw [hV1]; exact below_a1 _ _
  have nhb0 := hn
  have k1 : Blk V1 w.heap.size #[.int .i64 ax, .int .i64 ay, .int .i64 bx, .int .i64 b_y, .int .i64 cx, .int .i64 cy, .int .i64 dx, .int .i64 dy, .int .i64 n] 79 := by rw [hV1]; exact (Blk.new _ _ _)
  clear hV1
  have hb0 := nhb0
  clear nhb0
  have c1_0 : V1.cell? ⟨w.heap.size, 0, none⟩ = some (.int .i64 ax) := k1.cell 0
  have c1_1 : V1.cell? ⟨w.heap.size, 1, none⟩ = some (.int .i64 ay) := k1.cell 1
  have c1_2 : V1.cell? ⟨w.heap.size, 2, none⟩ = some (.int .i64 bx) := k1.cell 2
  have c1_3 : V1.cell? ⟨w.heap.size, 3, none⟩ = some (.int .i64 b_y) := k1.cell 3
  have c1_4 : V1.cell? ⟨w.heap.size, 4, none⟩ = some (.int .i64 cx) := k1.cell 4
  have c1_5 : V1.cell? ⟨w.heap.size, 5, none⟩ = some (.int .i64 cy) := k1.cell 5
  have c1_6 : V1.cell? ⟨w.heap.size, 6, none⟩ = some (.int .i64 dx) := k1.cell 6
  have c1_7 : V1.cell? ⟨w.heap.size, 7, none⟩ = some (.int .i64 dy) := k1.cell 7
  have c1_8 : V1.cell? ⟨w.heap.size, 8, none⟩ = some (.int .i64 n) := k1.cell 8
  have l1 := k1.lt
  have Kk1 := Lib.hid k1
  clear k1
  refine Stay.wp_region_FG3 11 8 9 10 [(0, 0), (0, 1), (0, 2), (0, 3), (0, 4), (0, 5), (0, 6), (0, 7)] [(1, 11), (1, 12), (1, 13), (0, 14)] (by kernel_rfl) (by kernel_rfl) (fun _ _ d _ _ => by cases d <;> exact Iff.rfl) rfl rfl rfl rfl alPxL4_0 rfl rfl rfl alPxL4_1 rfl rfl rfl alPxL4_1 ?_
  have hb : Below V1.heap.size V1 V1.drew := (Below.refl _ _).drew
  iterate 8
    refine wpFG_take0 rfl rfl ?_
    go_big_quiet_step (rfl)
    refine wpQuiet_nil ?_
  refine wpFG_nil ?_
  clear hb
  rintro w1 hg hb b1 b2 b3 hne ⟨lb1, nb1⟩ ⟨lb2, nb2⟩ ⟨lb3, nb3⟩
  clear hg
  simp only [Act.put, ptrTo, List.setIfInBounds_toArray, List.set_cons_succ, List.set_cons_zero]
  have m1 : Blk w1 b1 #[.int .i64 0, .int .i64 0, .int .i64 0, .int .i64 0] 50 := nb1
  have mc1_0 : w1.cell? ⟨b1, 0, none⟩ = some (.int .i64 0) := m1.cell 0
  have mf1_0 := m1.free 0
  have mc1_1 : w1.cell? ⟨b1, 1, none⟩ = some (.int .i64 0) := m1.cell 1
  have mf1_1 := m1.free 1
  have mc1_2 : w1.cell? ⟨b1, 2, none⟩ = some (.int .i64 0) := m1.cell 2
  have mf1_2 := m1.free 2
  have mc1_3 : w1.cell? ⟨b1, 3, none⟩ = some (.int .i64 0) := m1.cell 3
  have mf1_3 := m1.free 3
  have m2 : Blk w1 b2 #[.int .i64 0, .int .i64 0] 24 := nb2
  have mc2_0 : w1.cell? ⟨b2, 0, none⟩ = some (.int .i64 0) := m2.cell 0
  have mf2_0 := m2.free 0
  have mc2_1 : w1.cell? ⟨b2, 1, none⟩ = some (.int .i64 0) := m2.cell 1
  have mf2_1 := m2.free 1
  have m3 : Blk w1 b3 #[.int .i64 0, .int .i64 0] 24 := nb3
  have mc3_0 : w1.cell? ⟨b3, 0, none⟩ = some (.int .i64 0) := m3.cell 0
  have mf3_0 := m3.free 0
  have mc3_1 : w1.cell? ⟨b3, 1, none⟩ = some (.int .i64 0) := m3.cell 1
  have mf3_1 := m3.free 1
  refine wpG_do1 rfl ?_
  intro K hK
  go_wp2_with fail
  refine hK.out _ _ (up_iff.2 (by repeat' (first | with_reducible refine Below.setCell ?_ ?_ _ | with_reducible exact hb | with_reducible exact lb1 | with_reducible exact lb2 | with_reducible exact lb3))) ?_
  clear hK K
  refine wpG_do1 rfl ?_
  intro K hK
  go_wp2_with fail
  refine hK.out _ _ (up_iff.2 (by repeat' (first | with_reducible refine Below.setCell ?_ ?_ _ | with_reducible exact hb | with_reducible exact lb1 | with_reducible exact lb2 | with_reducible exact lb3))) ?_
  clear hK K
  refine wpG_do1 rfl ?_
  intro K hK
  go_wp2_with fail
  refine hK.out _ _ (up_iff.2 (by repeat' (first | with_reducible refine Below.setCell ?_ ?_ _ | with_reducible exact hb | with_reducible exact lb1 | with_reducible exact lb2 | with_reducible exact lb3))) ?_
  clear hK K
  refine wpG_take0 rfl rfl ?_
  go_big_quiet_step (rfl)
  refine wpQuiet_nil ?_
  refine wpG_nil ?_
  refine list_world ?_
  intro U2 hU2
  clear c1_0 c1_1 c1_2 c1_3 c1_4 c1_5 c1_6 c1_7 c1_8 l1
  have D1 := Lib.hid Kk1.out.lt
  have D2 := Lib.hid hb0.size
  have D3 := Lib.hid lb1
  have D4 := Lib.hid lb2
  have D5 := Lib.hid lb3
  have D6 := Lib.hid hne
  have k1 : Blk U2 w.heap.size #[.int .i64 ax, .int .i64 ay, .int .i64 bx, .int .i64 b_y, .int .i64 cx, .int .i64 cy, .int .i64 dx, .int .i64 dy, .int .i64 n] 79 := by rw [hU2]; exact (blk_setL (blk_setL (blk_setL (Kk1.out.of hb) (by have := D1.out; have := D3.out; omega) 0 [.int .i64 ax, .int .i64 ay, .int .i64 bx, .int .i64 b_y]) (by have := D1.out; have := D4.out; omega) 0 [.int .i64 cx, .int .i64 cy]) (by have := D1.out; have := D5.out; omega) 0 [.int .i64 dx, .int .i64 dy])
  have k2 : Blk U2 b1 #[.int .i64 ax, .int .i64 ay, .int .i64 bx, .int .i64 b_y] 50 := by rw [hU2]; exact (blk_setL (blk_setL (blk_full _ [.int .i64 ax, .int .i64 ay, .int .i64 bx, .int .i64 b_y] m1 rfl) (by have := D6.out; omega) 0 [.int .i64 cx, .int .i64 cy]) (by have := D6.out; omega) 0 [.int .i64 dx, .int .i64 dy])
  have k3 : Blk U2 b2 #[.int .i64 cx, .int .i64 cy] 24 := by rw [hU2]; exact (blk_setL (blk_full _ [.int .i64 cx, .int .i64 cy] (blk_setL m2 (by have := D6.out; omega) 0 [.int .i64 ax, .int .i64 ay, .int .i64 bx, .int .i64 b_y]) rfl) (by have := D6.out; omega) 0 [.int .i64 dx, .int .i64 dy])
  have k4 : Blk U2 b3 #[.int .i64 dx, .int .i64 dy] 24 := by rw [hU2]; exact (blk_full _ [.int .i64 dx, .int .i64 dy] (blk_setL (blk_setL m3 (by have := D6.out; omega) 0 [.int .i64 ax, .int .i64 ay, .int .i64 bx, .int .i64 b_y]) (by have := D6.out; omega) 0 [.int .i64 cx, .int .i64 cy]) rfl)
  replace hb0 : Below w.heap.size w U2 := by rw [hU2]; exact (blw_setL (blw_setL (blw_setL (hb0.trans (hb.mono hb0.size)) (by have := D2.out; have := D3.out; omega) 0 [.int .i64 ax, .int .i64 ay, .int .i64 bx, .int .i64 b_y]) (by have := D2.out; have := D4.out; omega) 0 [.int .i64 cx, .int .i64 cy]) (by have := D2.out; have := D5.out; omega) 0 [.int .i64 dx, .int .i64 dy])
  clear hU2 hb Kk1 m1 nb1 lb1 mc1_0 mf1_0 mc1_1 mf1_1 mc1_2 mf1_2 mc1_3 mf1_3 m2 nb2 lb2 mc2_0 mf2_0 mc2_1 mf2_1 m3 nb3 lb3 mc3_0 mf3_0 mc3_1 mf3_1 hne
  generalize b1 = q2 at *
  generalize b2 = q3 at *
  generalize b3 = q4 at *
  have c2_0 : U2.cell? ⟨q2, 0, none⟩ = some (.int .i64 ax) := k2.cell 0
  have c2_1 : U2.cell? ⟨q2, 1, none⟩ = some (.int .i64 ay) := k2.cell 1
  have c2_2 : U2.cell? ⟨q2, 2, none⟩ = some (.int .i64 bx) := k2.cell 2
  have c2_3 : U2.cell? ⟨q2, 3, none⟩ = some (.int .i64 b_y) := k2.cell 3
  have l2 := k2.lt
  have c3_0 : U2.cell? ⟨q3, 0, none⟩ = some (.int .i64 cx) := k3.cell 0
  have c3_1 : U2.cell? ⟨q3, 1, none⟩ = some (.int .i64 cy) := k3.cell 1
  have l3 := k3.lt
  go_wp2_with fail
  clear c2_0 c2_1 c2_2 c2_3 l2 c3_0 c3_1 l3
  refine (cut_v ax ay bx b_y cx cy n xfn xfd xtn xtd xfo xto true HP0.out HP1.out HP2.out HP3.out HP4.out HP5.out HP12.out _iax _iay _ibx _ib_y _icx _icy _in _).mono ?_
  rintro e U3 ⟨rfl, hn⟩
  clear k1
  replace k2 := k2.of hn
  replace k3 := k3.of hn
  replace k4 := k4.of hn
  replace hb0 := hb0.trans (hn.mono hb0.size)
  clear hn
  have c2_0 : U3.cell? ⟨q2, 0, none⟩ = some (.int .i64 ax) := k2.cell 0
  have c2_1 : U3.cell? ⟨q2, 1, none⟩ = some (.int .i64 ay) := k2.cell 1
  have c2_2 : U3.cell? ⟨q2, 2, none⟩ = some (.int .i64 bx) := k2.cell 2
  have c2_3 : U3.cell? ⟨q2, 3, none⟩ = some (.int .i64 b_y) := k2.cell 3
  have l2 := k2.lt
  have c4_0 : U3.cell? ⟨q4, 0, none⟩ = some (.int .i64 dx) := k4.cell 0
  have c4_1 : U3.cell? ⟨q4, 1, none⟩ = some (.int .i64 dy) := k4.cell 1
  have l4 := k4.lt
  have pr2_5 : q2 ≠ U3.heap.size := (by have := k2.lt; omega)
  have pr4_5 : q4 ≠ U3.heap.size := (by have := k4.lt; omega)
  go_wp2_with (first | ((with_reducible refine stRow (U3.heap.size) #[.int .u64 (wd0 xfn), .int .u64 (wd1 xfn), .int .u64 (wd2 xfn), .int .u64 (wd3 xfn), .int .u64 (wd0 xfd), .int .u64 (wd1 xfd), .int .u64 (wd2 xfd), .int .u64 (wd3 xfd), .int .u64 (wd0 xtn), .int .u64 (wd1 xtn), .int .u64 (wd2 xtn), .int .u64 (wd3 xtn), .int .u64 (wd0 xtd), .int .u64 (wd1 xtd), .int .u64 (wd2 xtd), .int .u64 (wd3 xtd), .bool xfo, .bool xto] _ _ (Blk.new _ _ _) ?_ ?_ ?_ ?_ ?_ ?_); rfl; rfl; (as_aux_lemma => kernel_rfl); rfl; (as_aux_lemma => kernel_rfl); simp only [Act.put]))
  clear c2_0 c2_1 c2_2 c2_3 l2 c4_0 c4_1 l4 pr2_5 pr4_5
  first | refine calls_w ?_ | refine name_world ?_ | refine list_world ?_ | refine post_world ?_
  intro V4 hV4
  rw [World.setRow_alloc_new] at hV4
  have D7 := Lib.hid k2.lt
  have D8 := Lib.hid k3.lt
  have D9 := Lib.hid k4.lt
  have D10 := Lib.hid hb0.size
  have hn : Below U3.heap.size U3 V4 := by rw [hV4]; exact below_a1 _ _
  have nk2 := k2.of hn
  have nk3 := k3.of hn
  have nk4 := k4.of hn
  have nhb0 := hb0.trans (hn.mono hb0.size)
  clear hn
  have k5 : Blk V4 U3.heap.size #[.int .u64 (wd0 xfn), .int .u64 (wd1 xfn), .int .u64 (wd2 xfn), .int .u64 (wd3 xfn), .int .u64 (wd0 xfd), .int .u64 (wd1 xfd), .int .u64 (wd2 xfd), .int .u64 (wd3 xfd), .int .u64 (wd0 xtn), .int .u64 (wd1 xtn), .int .u64 (wd2 xtn), .int .u64 (wd3 xtn), .int .u64 (wd0 xtd), .int .u64 (wd1 xtd), .int .u64 (wd2 xtd), .int .u64 (wd3 xtd), .bool xfo, .bool xto] 54 := by rw [hV4]; exact (Blk.new _ _ _)
  clear k2 k3 k4
  clear hb0
  clear hV4
  have k2 := nk2
  clear nk2
  have k3 := nk3
  clear nk3
  have k4 := nk4
  clear nk4
  have hb0 := nhb0
  clear nhb0
  refine (cut_v ax ay bx b_y dx dy n yfn yfd ytn ytd yfo yto false HP6.out HP7.out HP8.out HP9.out HP10.out HP11.out HP13.out _iax _iay _ibx _ib_y _idx _idy _in _).mono ?_
  rintro e U5 ⟨rfl, hn⟩
  replace k2 := k2.of hn
  replace k3 := k3.of hn
  replace k4 := k4.of hn
  replace k5 := k5.of hn
  replace hb0 := hb0.trans (hn.mono hb0.size)
  clear hn
  go_wp2_with (first | ((with_reducible refine stRow (U5.heap.size) #[.int .u64 (wd0 yfn), .int .u64 (wd1 yfn), .int .u64 (wd2 yfn), .int .u64 (wd3 yfn), .int .u64 (wd0 yfd), .int .u64 (wd1 yfd), .int .u64 (wd2 yfd), .int .u64 (wd3 yfd), .int .u64 (wd0 ytn), .int .u64 (wd1 ytn), .int .u64 (wd2 ytn), .int .u64 (wd3 ytn), .int .u64 (wd0 ytd), .int .u64 (wd1 ytd), .int .u64 (wd2 ytd), .int .u64 (wd3 ytd), .bool yfo, .bool yto] _ _ (Blk.new _ _ _) ?_ ?_ ?_ ?_ ?_ ?_); rfl; rfl; (as_aux_lemma => kernel_rfl); rfl; (as_aux_lemma => kernel_rfl); simp only [Act.put]) | ((with_reducible refine ldRow (U3.heap.size) #[.int .u64 (wd0 xfn), .int .u64 (wd1 xfn), .int .u64 (wd2 xfn), .int .u64 (wd3 xfn), .int .u64 (wd0 xfd), .int .u64 (wd1 xfd), .int .u64 (wd2 xfd), .int .u64 (wd3 xfd), .int .u64 (wd0 xtn), .int .u64 (wd1 xtn), .int .u64 (wd2 xtn), .int .u64 (wd3 xtn), .int .u64 (wd0 xtd), .int .u64 (wd1 xtd), .int .u64 (wd2 xtd), .int .u64 (wd3 xtd), .bool xfo, .bool xto] _ (blk_rowo (k5.alloc _) (by have := k5.lt; omega) _) ?_ ?_ ?_ ?_); rfl; exact ⟨_, rfl, rfl⟩; (as_aux_lemma => kernel_rfl); simp only [Act.put, List.setIfInBounds_toArray, List.set_cons_succ, List.set_cons_zero]) | ((with_reducible refine ldRow (U5.heap.size) #[.int .u64 (wd0 yfn), .int .u64 (wd1 yfn), .int .u64 (wd2 yfn), .int .u64 (wd3 yfn), .int .u64 (wd0 yfd), .int .u64 (wd1 yfd), .int .u64 (wd2 yfd), .int .u64 (wd3 yfd), .int .u64 (wd0 ytn), .int .u64 (wd1 ytn), .int .u64 (wd2 ytn), .int .u64 (wd3 ytn), .int .u64 (wd0 ytd), .int .u64 (wd1 ytd), .int .u64 (wd2 ytd), .int .u64 (wd3 ytd), .bool yfo, .bool yto] _ (blk_row (Blk.new _ _ _) _) ?_ ?_ ?_ ?_); rfl; exact ⟨_, rfl, rfl⟩; (as_aux_lemma => kernel_rfl); simp only [Act.put, List.setIfInBounds_toArray, List.set_cons_succ, List.set_cons_zero]))
  first | refine calls_w ?_ | refine name_world ?_ | refine list_world ?_ | refine post_world ?_
  intro V6 hV6
  rw [World.setRow_alloc_new] at hV6
  have D11 := Lib.hid k2.lt
  have D12 := Lib.hid k3.lt
  have D13 := Lib.hid k4.lt
  have D14 := Lib.hid k5.lt
  have D15 := Lib.hid hb0.size
  have hn : Below U5.heap.size U5 V6 := by rw [hV6]; exact below_a1 _ _
  have nk2 := k2.of hn
  have nk3 := k3.of hn
  have nk4 := k4.of hn
  have nk5 := k5.of hn
  have nhb0 := hb0.trans (hn.mono hb0.size)
  clear hn
  have k6 : Blk V6 U5.heap.size #[.int .u64 (wd0 yfn), .int .u64 (wd1 yfn), .int .u64 (wd2 yfn), .int .u64 (wd3 yfn), .int .u64 (wd0 yfd), .int .u64 (wd1 yfd), .int .u64 (wd2 yfd), .int .u64 (wd3 yfd), .int .u64 (wd0 ytn), .int .u64 (wd1 ytn), .int .u64 (wd2 ytn), .int .u64 (wd3 ytn), .int .u64 (wd0 ytd), .int .u64 (wd1 ytd), .int .u64 (wd2 ytd), .int .u64 (wd3 ytd), .bool yfo, .bool yto] 54 := by rw [hV6]; exact (Blk.new _ _ _)
  clear k2 k3 k4 k5
  clear hb0
  clear hV6
  have k2 := nk2
  clear nk2
  have k3 := nk3
  clear nk3
  have k4 := nk4
  clear nk4
  have k5 := nk5
  clear nk5
  have hb0 := nhb0
  clear nhb0
  refine (pxAh_is xfn xfd xtn xtd xfo xto yfn yfd ytn ytd yfo yto 0 HP14.out _ixfn _ixfd _ixtn _ixtd _iyfn _iyfd _iytn _iytd  _).mono ?_
  rintro e U7 ⟨rfl, hn⟩
  replace k2 := k2.of hn
  replace k3 := k3.of hn
  replace k4 := k4.of hn
  replace k5 := k5.of hn
  replace k6 := k6.of hn
  replace hb0 := hb0.trans (hn.mono hb0.size)
  clear hn
  go_wp2_with (first | ((with_reducible refine ldRow (U5.heap.size) #[.int .u64 (wd0 yfn), .int .u64 (wd1 yfn), .int .u64 (wd2 yfn), .int .u64 (wd3 yfn), .int .u64 (wd0 yfd), .int .u64 (wd1 yfd), .int .u64 (wd2 yfd), .int .u64 (wd3 yfd), .int .u64 (wd0 ytn), .int .u64 (wd1 ytn), .int .u64 (wd2 ytn), .int .u64 (wd3 ytn), .int .u64 (wd0 ytd), .int .u64 (wd1 ytd), .int .u64 (wd2 ytd), .int .u64 (wd3 ytd), .bool yfo, .bool yto] _ k6 ?_ ?_ ?_ ?_); rfl; exact ⟨_, rfl, rfl⟩; (as_aux_lemma => kernel_rfl); simp only [Act.put, List.setIfInBounds_toArray, List.set_cons_succ, List.set_cons_zero]) | ((with_reducible refine ldRow (U3.heap.size) #[.int .u64 (wd0 xfn), .int .u64 (wd1 xfn), .int .u64 (wd2 xfn), .int .u64 (wd3 xfn), .int .u64 (wd0 xfd), .int .u64 (wd1 xfd), .int .u64 (wd2 xfd), .int .u64 (wd3 xfd), .int .u64 (wd0 xtn), .int .u64 (wd1 xtn), .int .u64 (wd2 xtn), .int .u64 (wd3 xtn), .int .u64 (wd0 xtd), .int .u64 (wd1 xtd), .int .u64 (wd2 xtd), .int .u64 (wd3 xtd), .bool xfo, .bool xto] _ k5 ?_ ?_ ?_ ?_); rfl; exact ⟨_, rfl, rfl⟩; (as_aux_lemma => kernel_rfl); simp only [Act.put, List.setIfInBounds_toArray, List.set_cons_succ, List.set_cons_zero]))
  refine (pxAh_is yfn yfd ytn ytd yfo yto xfn xfd xtn xtd xfo xto 0 HP15.out _iyfn _iyfd _iytn _iytd _ixfn _ixfd _ixtn _ixtd  _).mono ?_
  rintro e U8 ⟨rfl, hn⟩
  replace k2 := k2.of hn
  replace k3 := k3.of hn
  replace k4 := k4.of hn
  replace k5 := k5.of hn
  replace k6 := k6.of hn
  replace hb0 := hb0.trans (hn.mono hb0.size)
  clear hn
  go_wp2_with fail
  refine (p15awake_any _).mono ?_
  rintro e U9 ⟨rfl, hn⟩
  clear k2
  replace k3 := k3.of hn
  replace k4 := k4.of hn
  replace k5 := k5.of hn
  replace k6 := k6.of hn
  replace hb0 := hb0.trans (hn.mono hb0.size)
  clear hn
  go_wp2
  first | go_ret | go_ret2
  exact ⟨by first | rfl | (simp; done) | (simp; assumption), hb0⟩

set_option maxRecDepth 100000 in
set_option maxHeartbeats 4000000 in

theorem PAh_E (ax : Int) (ay : Int) (bx : Int) (b_y : Int) (cx : Int) (cy : Int) (n : Int) (xfn : Int) (xfd : Int) (xtn : Int) (xtd : Int) (xfo : Bool) (xto : Bool)   (hP0 : cufn ax ay bx b_y cx cy n = xfn) (hP1 : cufd ax ay bx b_y cx cy n = xfd) (hP2 : cutn ax ay bx b_y cx cy n = xtn) (hP3 : cutd ax ay bx b_y cx cy n = xtd) (hP4 : cufo ax ay bx b_y cx cy n = xfo) (hP5 : cuto ax ay bx b_y cx cy n = xto) (hP6 : cuk ax ay bx b_y cx cy n = true) (hP7 : pxA xfn xfd xtn xtd xfo xto xfn xfd xtn xtd xfo xto = 0) (hP8 : p15n xtn xtd = xtn) (hP9 : p15d xtn xtd = xtd) (hP10 : p15n xfn xfd = xfn) (hP11 : p15d xfn xfd = xfd) (_ixfn : InI xfn) (_ixfd : InI xfd) (_ixtn : InI xtn) (_ixtd : InI xtd) (_iax : In64 ax) (_iay : In64 ay) (_ibx : In64 bx) (_ib_y : In64 b_y) (_icx : In64 cx) (_icy : In64 cy) (_in : In64 n)  (w : World)  :
    Calls Try.prog 7 #[.agg #[.int .i64 ax, .int .i64 ay, .int .i64 bx, .int .i64 b_y, .int .i64 cx, .int .i64 cy, .int .i64 cx, .int .i64 cy, .int .i64 n]] w fun e w' => e = .returned (.bool true) ∧ Below w.heap.size w w' := by

  have HP0 := Lib.hid hP0
  clear hP0
  have HP1 := Lib.hid hP1
  clear hP1
  have HP2 := Lib.hid hP2
  clear hP2
  have HP3 := Lib.hid hP3
  clear hP3
  have HP4 := Lib.hid hP4
  clear hP4
  have HP5 := Lib.hid hP5
  clear hP5
  have HP6 := Lib.hid hP6
  clear hP6
  have HP7 := Lib.hid hP7
  clear hP7
  have HP8 := Lib.hid hP8
  clear hP8
  have HP9 := Lib.hid hP9
  clear hP9
  have HP10 := Lib.hid hP10
  clear hP10
  have HP11 := Lib.hid hP11
  clear hP11
  go_enter Try.func7, Try.ntmps7
  go_wp2_with fail
  first | refine calls_w ?_ | refine name_world ?_ | refine list_world ?_ | refine post_world ?_
  intro V1 hV1
  have hn : Below w.heap.size w V1 := by rw [hV1]; exact below_a1 _ _
  have nhb0 := hn
  have k1 : Blk V1 w.heap.size #[.int .i64 ax, .int .i64 ay, .int .i64 bx, .int .i64 b_y, .int .i64 cx, .int .i64 cy, .int .i64 cx, .int .i64 cy, .int .i64 n] 79 := by rw [hV1]; exact (Blk.new _ _ _)
  clear hV1
  have hb0 := nhb0
  clear nhb0
  have c1_0 : V1.cell? ⟨w.heap.size, 0, none⟩ = some (.int .i64 ax) := k1.cell 0
  have c1_1 : V1.cell? ⟨w.heap.size, 1, none⟩ = some (.int .i64 ay) := k1.cell 1
  have c1_2 : V1.cell? ⟨w.heap.size, 2, none⟩ = some (.int .i64 bx) := k1.cell 2
  have c1_3 : V1.cell? ⟨w.heap.size, 3, none⟩ = some (.int .i64 b_y) := k1.cell 3
  have c1_4 : V1.cell? ⟨w.heap.size, 4, none⟩ = some (.int .i64 cx) := k1.cell 4
  have c1_5 : V1.cell? ⟨w.heap.size, 5, none⟩ = some (.int .i64 cy) := k1.cell 5
  have c1_6 : V1.cell? ⟨w.heap.size, 6, none⟩ = some (.int .i64 cx) := k1.cell 6
  have c1_7 : V1.cell? ⟨w.heap.size, 7, none⟩ = some (.int .i64 cy) := k1.cell 7
  have c1_8 : V1.cell? ⟨w.heap.size, 8, none⟩ = some (.int .i64 n) := k1.cell 8
  have l1 := k1.lt
  have Kk1 := Lib.hid k1
  clear k1
  refine Stay.wp_region_FG3 11 8 9 10 [(0, 0), (0, 1), (0, 2), (0, 3), (0, 4), (0, 5), (0, 6), (0, 7)] [(1, 11), (1, 12), (1, 13), (0, 14)] (by kernel_rfl) (by kernel_rfl) (fun _ _ d _ _ => by cases d <;> exact Iff.rfl) rfl rfl rfl rfl alPxL4_0 rfl rfl rfl alPxL4_1 rfl rfl rfl alPxL4_1 ?_
  have hb : Below V1.heap.size V1 V1.drew := (Below.refl _ _).drew
  iterate 8
    refine wpFG_take0 rfl rfl ?_
    go_big_quiet_step (rfl)
    refine wpQuiet_nil ?_
  refine wpFG_nil ?_
  clear hb
  rintro w1 hg hb b1 b2 b3 hne ⟨lb1, nb1⟩ ⟨lb2, nb2⟩ ⟨lb3, nb3⟩
  clear hg
  simp only [Act.put, ptrTo, List.setIfInBounds_toArray, List.set_cons_succ, List.set_cons_zero]
  have m1 : Blk w1 b1 #[.int .i64 0, .int .i64 0, .int .i64 0, .int .i64 0] 50 := nb1
  have mc1_0 : w1.cell? ⟨b1, 0, none⟩ = some (.int .i64 0) := m1.cell 0
  have mf1_0 := m1.free 0
  have mc1_1 : w1.cell? ⟨b1, 1, none⟩ = some (.int .i64 0) := m1.cell 1
  have mf1_1 := m1.free 1
  have mc1_2 : w1.cell? ⟨b1, 2, none⟩ = some (.int .i64 0) := m1.cell 2
  have mf1_2 := m1.free 2
  have mc1_3 : w1.cell? ⟨b1, 3, none⟩ = some (.int .i64 0) := m1.cell 3
  have mf1_3 := m1.free 3
  have m2 : Blk w1 b2 #[.int .i64 0, .int .i64 0] 24 := nb2
  have mc2_0 : w1.cell? ⟨b2, 0, none⟩ = some (.int .i64 0) := m2.cell 0
  have mf2_0 := m2.free 0
  have mc2_1 : w1.cell? ⟨b2, 1, none⟩ = some (.int .i64 0) := m2.cell 1
  have mf2_1 := m2.free 1
  have m3 : Blk w1 b3 #[.int .i64 0, .int .i64 0] 24 := nb3
  have mc3_0 : w1.cell? ⟨b3, 0, none⟩ = some (.int .i64 0) := m3.cell 0
  have mf3_0 := m3.free 0
  have mc3_1 : w1.cell? ⟨b3, 1, none⟩ = some (.int .i64 0) := m3.cell 1
  have mf3_1 := m3.free 1
  refine wpG_do1 rfl ?_
  intro K hK
  go_wp2_with fail
  refine hK.out _ _ (up_iff.2 (by repeat' (first | with_reducible refine Below.setCell ?_ ?_ _ | with_reducible exact hb | with_reducible exact lb1 | with_reducible exact lb2 | with_reducible exact lb3))) ?_
  clear hK K
  refine wpG_do1 rfl ?_
  intro K hK
  go_wp2_with fail
  refine hK.out _ _ (up_iff.2 (by repeat' (first | with_reducible refine Below.setCell ?_ ?_ _ | with_reducible exact hb | with_reducible exact lb1 | with_reducible exact lb2 | with_reducible exact lb3))) ?_
  clear hK K
  refine wpG_do1 rfl ?_
  intro K hK
  go_wp2_with fail
  refine hK.out _ _ (up_iff.2 (by repeat' (first | with_reducible refine Below.setCell ?_ ?_ _ | with_reducible exact hb | with_reducible exact lb1 | with_reducible exact lb2 | with_reducible exact lb3))) ?_
  clear hK K
  refine wpG_take0 rfl rfl ?_
  go_big_quiet_step (rfl)
  refine wpQuiet_nil ?_
  refine wpG_nil ?_
  refine list_world ?_
  intro U2 hU2
  clear c1_0 c1_1 c1_2 c1_3 c1_4 c1_5 c1_6 c1_7 c1_8 l1
  have D1 := Lib.hid Kk1.out.lt
  have D2 := Lib.hid hb0.size
  have D3 := Lib.hid lb1
  have D4 := Lib.hid lb2
  have D5 := Lib.hid lb3
  have D6 := Lib.hid hne
  have k1 : Blk U2 w.heap.size #[.int .i64 ax, .int .i64 ay, .int .i64 bx, .int .i64 b_y, .int .i64 cx, .int .i64 cy, .int .i64 cx, .int .i64 cy, .int .i64 n] 79 := by rw [hU2]; exact (blk_setL (blk_setL (blk_setL (Kk1.out.of hb) (by have := D1.out; have := D3.out; omega) 0 [.int .i64 ax, .int .i64 ay, .int .i64 bx, .int .i64 b_y]) (by have := D1.out; have := D4.out; omega) 0 [.int .i64 cx, .int .i64 cy]) (by have := D1.out; have := D5.out; omega) 0 [.int .i64 cx, .int .i64 cy])
  have k2 : Blk U2 b1 #[.int .i64 ax, .int .i64 ay, .int .i64 bx, .int .i64 b_y] 50 := by rw [hU2]; exact (blk_setL (blk_setL (blk_full _ [.int .i64 ax, .int .i64 ay, .int .i64 bx, .int .i64 b_y] m1 rfl) (by have := D6.out; omega) 0 [.int .i64 cx, .int .i64 cy]) (by have := D6.out; omega) 0 [.int .i64 cx, .int .i64 cy])
  have k3 : Blk U2 b2 #[.int .i64 cx, .int .i64 cy] 24 := by rw [hU2]; exact (blk_setL (blk_full _ [.int .i64 cx, .int .i64 cy] (blk_setL m2 (by have := D6.out; omega) 0 [.int .i64 ax, .int .i64 ay, .int .i64 bx, .int .i64 b_y]) rfl) (by have := D6.out; omega) 0 [.int .i64 cx, .int .i64 cy])
  have k4 : Blk U2 b3 #[.int .i64 cx, .int .i64 cy] 24 := by rw [hU2]; exact (blk_full _ [.int .i64 cx, .int .i64 cy] (blk_setL (blk_setL m3 (by have := D6.out; omega) 0 [.int .i64 ax, .int .i64 ay, .int .i64 bx, .int .i64 b_y]) (by have := D6.out; omega) 0 [.int .i64 cx, .int .i64 cy]) rfl)
  replace hb0 : Below w.heap.size w U2 := by rw [hU2]; exact (blw_setL (blw_setL (blw_setL (hb0.trans (hb.mono hb0.size)) (by have := D2.out; have := D3.out; omega) 0 [.int .i64 ax, .int .i64 ay, .int .i64 bx, .int .i64 b_y]) (by have := D2.out; have := D4.out; omega) 0 [.int .i64 cx, .int .i64 cy]) (by have := D2.out; have := D5.out; omega) 0 [.int .i64 cx, .int .i64 cy])
  clear hU2 hb Kk1 m1 nb1 lb1 mc1_0 mf1_0 mc1_1 mf1_1 mc1_2 mf1_2 mc1_3 mf1_3 m2 nb2 lb2 mc2_0 mf2_0 mc2_1 mf2_1 m3 nb3 lb3 mc3_0 mf3_0 mc3_1 mf3_1 hne
  generalize b1 = q2 at *
  generalize b2 = q3 at *
  generalize b3 = q4 at *
  have c2_0 : U2.cell? ⟨q2, 0, none⟩ = some (.int .i64 ax) := k2.cell 0
  have c2_1 : U2.cell? ⟨q2, 1, none⟩ = some (.int .i64 ay) := k2.cell 1
  have c2_2 : U2.cell? ⟨q2, 2, none⟩ = some (.int .i64 bx) := k2.cell 2
  have c2_3 : U2.cell? ⟨q2, 3, none⟩ = some (.int .i64 b_y) := k2.cell 3
  have l2 := k2.lt
  have c3_0 : U2.cell? ⟨q3, 0, none⟩ = some (.int .i64 cx) := k3.cell 0
  have c3_1 : U2.cell? ⟨q3, 1, none⟩ = some (.int .i64 cy) := k3.cell 1
  have l3 := k3.lt
  go_wp2_with fail
  clear c2_0 c2_1 c2_2 c2_3 l2 c3_0 c3_1 l3
  refine (cut_v ax ay bx b_y cx cy n xfn xfd xtn xtd xfo xto true HP0.out HP1.out HP2.out HP3.out HP4.out HP5.out HP6.out _iax _iay _ibx _ib_y _icx _icy _in _).mono ?_
  rintro e U3 ⟨rfl, hn⟩
  clear k1
  replace k2 := k2.of hn
  replace k3 := k3.of hn
  replace k4 := k4.of hn
  replace hb0 := hb0.trans (hn.mono hb0.size)
  clear hn
  have c2_0 : U3.cell? ⟨q2, 0, none⟩ = some (.int .i64 ax) := k2.cell 0
  have c2_1 : U3.cell? ⟨q2, 1, none⟩ = some (.int .i64 ay) := k2.cell 1
  have c2_2 : U3.cell? ⟨q2, 2, none⟩ = some (.int .i64 bx) := k2.cell 2
  have c2_3 : U3.cell? ⟨q2, 3, none⟩ = some (.int .i64 b_y) := k2.cell 3
  have l2 := k2.lt
  have c4_0 : U3.cell? ⟨q4, 0, none⟩ = some (.int .i64 cx) := k4.cell 0
  have c4_1 : U3.cell? ⟨q4, 1, none⟩ = some (.int .i64 cy) := k4.cell 1
  have l4 := k4.lt
  have pr2_5 : q2 ≠ U3.heap.size := (by have := k2.lt; omega)
  have pr4_5 : q4 ≠ U3.heap.size := (by have := k4.lt; omega)
  go_wp2_with (first | ((with_reducible refine stRow (U3.heap.size) #[.int .u64 (wd0 xfn), .int .u64 (wd1 xfn), .int .u64 (wd2 xfn), .int .u64 (wd3 xfn), .int .u64 (wd0 xfd), .int .u64 (wd1 xfd), .int .u64 (wd2 xfd), .int .u64 (wd3 xfd), .int .u64 (wd0 xtn), .int .u64 (wd1 xtn), .int .u64 (wd2 xtn), .int .u64 (wd3 xtn), .int .u64 (wd0 xtd), .int .u64 (wd1 xtd), .int .u64 (wd2 xtd), .int .u64 (wd3 xtd), .bool xfo, .bool xto] _ _ (Blk.new _ _ _) ?_ ?_ ?_ ?_ ?_ ?_); rfl; rfl; (as_aux_lemma => kernel_rfl); rfl; (as_aux_lemma => kernel_rfl); simp only [Act.put]))
  clear c2_0 c2_1 c2_2 c2_3 l2 c4_0 c4_1 l4 pr2_5 pr4_5
  first | refine calls_w ?_ | refine name_world ?_ | refine list_world ?_ | refine post_world ?_
  intro V4 hV4
  rw [World.setRow_alloc_new] at hV4
  have D7 := Lib.hid k2.lt
  have D8 := Lib.hid k3.lt
  have D9 := Lib.hid k4.lt
  have D10 := Lib.hid hb0.size
  have hn : Below U3.heap.size U3 V4 := by rw [hV4]; exact below_a1 _ _
  have nk2 := k2.of hn
  have nk3 := k3.of hn
  have nk4 := k4.of hn
  have nhb0 := hb0.trans (hn.mono hb0.size)
  clear hn
  have k5 : Blk V4 U3.heap.size #[.int .u64 (wd0 xfn), .int .u64 (wd1 xfn), .int .u64 (wd2 xfn), .int .u64 (wd3 xfn), .int .u64 (wd0 xfd), .int .u64 (wd1 xfd), .int .u64 (wd2 xfd), .int .u64 (wd3 xfd), .int .u64 (wd0 xtn), .int .u64 (wd1 xtn), .int .u64 (wd2 xtn), .int .u64 (wd3 xtn), .int .u64 (wd0 xtd), .int .u64 (wd1 xtd), .int .u64 (wd2 xtd), .int .u64 (wd3 xtd), .bool xfo, .bool xto] 54 := by rw [hV4]; exact (Blk.new _ _ _)
  clear k2 k3 k4
  clear hb0
  clear hV4
  have k2 := nk2
  clear nk2
  have k3 := nk3
  clear nk3
  have k4 := nk4
  clear nk4
  have hb0 := nhb0
  clear nhb0
  refine (cut_v ax ay bx b_y cx cy n xfn xfd xtn xtd xfo xto true HP0.out HP1.out HP2.out HP3.out HP4.out HP5.out HP6.out _iax _iay _ibx _ib_y _icx _icy _in _).mono ?_
  rintro e U5 ⟨rfl, hn⟩
  replace k2 := k2.of hn
  replace k3 := k3.of hn
  replace k4 := k4.of hn
  replace k5 := k5.of hn
  replace hb0 := hb0.trans (hn.mono hb0.size)
  clear hn
  go_wp2_with (first | ((with_reducible refine stRow (U5.heap.size) #[.int .u64 (wd0 xfn), .int .u64 (wd1 xfn), .int .u64 (wd2 xfn), .int .u64 (wd3 xfn), .int .u64 (wd0 xfd), .int .u64 (wd1 xfd), .int .u64 (wd2 xfd), .int .u64 (wd3 xfd), .int .u64 (wd0 xtn), .int .u64 (wd1 xtn), .int .u64 (wd2 xtn), .int .u64 (wd3 xtn), .int .u64 (wd0 xtd), .int .u64 (wd1 xtd), .int .u64 (wd2 xtd), .int .u64 (wd3 xtd), .bool xfo, .bool xto] _ _ (Blk.new _ _ _) ?_ ?_ ?_ ?_ ?_ ?_); rfl; rfl; (as_aux_lemma => kernel_rfl); rfl; (as_aux_lemma => kernel_rfl); simp only [Act.put]) | ((with_reducible refine ldRow (U3.heap.size) #[.int .u64 (wd0 xfn), .int .u64 (wd1 xfn), .int .u64 (wd2 xfn), .int .u64 (wd3 xfn), .int .u64 (wd0 xfd), .int .u64 (wd1 xfd), .int .u64 (wd2 xfd), .int .u64 (wd3 xfd), .int .u64 (wd0 xtn), .int .u64 (wd1 xtn), .int .u64 (wd2 xtn), .int .u64 (wd3 xtn), .int .u64 (wd0 xtd), .int .u64 (wd1 xtd), .int .u64 (wd2 xtd), .int .u64 (wd3 xtd), .bool xfo, .bool xto] _ (blk_rowo (k5.alloc _) (by have := k5.lt; omega) _) ?_ ?_ ?_ ?_); rfl; exact ⟨_, rfl, rfl⟩; (as_aux_lemma => kernel_rfl); simp only [Act.put, List.setIfInBounds_toArray, List.set_cons_succ, List.set_cons_zero]) | ((with_reducible refine ldRow (U5.heap.size) #[.int .u64 (wd0 xfn), .int .u64 (wd1 xfn), .int .u64 (wd2 xfn), .int .u64 (wd3 xfn), .int .u64 (wd0 xfd), .int .u64 (wd1 xfd), .int .u64 (wd2 xfd), .int .u64 (wd3 xfd), .int .u64 (wd0 xtn), .int .u64 (wd1 xtn), .int .u64 (wd2 xtn), .int .u64 (wd3 xtn), .int .u64 (wd0 xtd), .int .u64 (wd1 xtd), .int .u64 (wd2 xtd), .int .u64 (wd3 xtd), .bool xfo, .bool xto] _ (blk_row (Blk.new _ _ _) _) ?_ ?_ ?_ ?_); rfl; exact ⟨_, rfl, rfl⟩; (as_aux_lemma => kernel_rfl); simp only [Act.put, List.setIfInBounds_toArray, List.set_cons_succ, List.set_cons_zero]))
  first | refine calls_w ?_ | refine name_world ?_ | refine list_world ?_ | refine post_world ?_
  intro V6 hV6
  rw [World.setRow_alloc_new] at hV6
  have D11 := Lib.hid k2.lt
  have D12 := Lib.hid k3.lt
  have D13 := Lib.hid k4.lt
  have D14 := Lib.hid k5.lt
  have D15 := Lib.hid hb0.size
  have hn : Below U5.heap.size U5 V6 := by rw [hV6]; exact below_a1 _ _
  have nk2 := k2.of hn
  have nk3 := k3.of hn
  have nk4 := k4.of hn
  have nk5 := k5.of hn
  have nhb0 := hb0.trans (hn.mono hb0.size)
  clear hn
  have k6 : Blk V6 U5.heap.size #[.int .u64 (wd0 xfn), .int .u64 (wd1 xfn), .int .u64 (wd2 xfn), .int .u64 (wd3 xfn), .int .u64 (wd0 xfd), .int .u64 (wd1 xfd), .int .u64 (wd2 xfd), .int .u64 (wd3 xfd), .int .u64 (wd0 xtn), .int .u64 (wd1 xtn), .int .u64 (wd2 xtn), .int .u64 (wd3 xtn), .int .u64 (wd0 xtd), .int .u64 (wd1 xtd), .int .u64 (wd2 xtd), .int .u64 (wd3 xtd), .bool xfo, .bool xto] 54 := by rw [hV6]; exact (Blk.new _ _ _)
  clear k2 k3 k4 k5
  clear hb0
  clear hV6
  have k2 := nk2
  clear nk2
  have k3 := nk3
  clear nk3
  have k4 := nk4
  clear nk4
  have k5 := nk5
  clear nk5
  have hb0 := nhb0
  clear nhb0
  refine (pxAh_is xfn xfd xtn xtd xfo xto xfn xfd xtn xtd xfo xto 0 HP7.out _ixfn _ixfd _ixtn _ixtd _ixfn _ixfd _ixtn _ixtd  _).mono ?_
  rintro e U7 ⟨rfl, hn⟩
  replace k2 := k2.of hn
  replace k3 := k3.of hn
  replace k4 := k4.of hn
  replace k5 := k5.of hn
  replace k6 := k6.of hn
  replace hb0 := hb0.trans (hn.mono hb0.size)
  clear hn
  go_wp2_with (first | ((with_reducible refine ldRow (U5.heap.size) #[.int .u64 (wd0 xfn), .int .u64 (wd1 xfn), .int .u64 (wd2 xfn), .int .u64 (wd3 xfn), .int .u64 (wd0 xfd), .int .u64 (wd1 xfd), .int .u64 (wd2 xfd), .int .u64 (wd3 xfd), .int .u64 (wd0 xtn), .int .u64 (wd1 xtn), .int .u64 (wd2 xtn), .int .u64 (wd3 xtn), .int .u64 (wd0 xtd), .int .u64 (wd1 xtd), .int .u64 (wd2 xtd), .int .u64 (wd3 xtd), .bool xfo, .bool xto] _ k6 ?_ ?_ ?_ ?_); rfl; exact ⟨_, rfl, rfl⟩; (as_aux_lemma => kernel_rfl); simp only [Act.put, List.setIfInBounds_toArray, List.set_cons_succ, List.set_cons_zero]) | ((with_reducible refine ldRow (U3.heap.size) #[.int .u64 (wd0 xfn), .int .u64 (wd1 xfn), .int .u64 (wd2 xfn), .int .u64 (wd3 xfn), .int .u64 (wd0 xfd), .int .u64 (wd1 xfd), .int .u64 (wd2 xfd), .int .u64 (wd3 xfd), .int .u64 (wd0 xtn), .int .u64 (wd1 xtn), .int .u64 (wd2 xtn), .int .u64 (wd3 xtn), .int .u64 (wd0 xtd), .int .u64 (wd1 xtd), .int .u64 (wd2 xtd), .int .u64 (wd3 xtd), .bool xfo, .bool xto] _ k5 ?_ ?_ ?_ ?_); rfl; exact ⟨_, rfl, rfl⟩; (as_aux_lemma => kernel_rfl); simp only [Act.put, List.setIfInBounds_toArray, List.set_cons_succ, List.set_cons_zero]))
  refine (pxAh_is xfn xfd xtn xtd xfo xto xfn xfd xtn xtd xfo xto 0 HP7.out _ixfn _ixfd _ixtn _ixtd _ixfn _ixfd _ixtn _ixtd  _).mono ?_
  rintro e U8 ⟨rfl, hn⟩
  replace k2 := k2.of hn
  replace k3 := k3.of hn
  replace k4 := k4.of hn
  replace k5 := k5.of hn
  replace k6 := k6.of hn
  replace hb0 := hb0.trans (hn.mono hb0.size)
  clear hn
  obtain ⟨z1, hz1⟩ : ∃ o_o : Bool, (ax == bx) = o_o := ⟨_, rfl⟩
  cases z1
  · have nz1 : ¬ ax = bx := by simpa using hz1
    have nz1_ : ¬ bx = ax := fun e_ => nz1 e_.symm
    have c2_0 : U8.cell? ⟨q2, 0, none⟩ = some (.int .i64 ax) := k2.cell 0
    have c2_1 : U8.cell? ⟨q2, 1, none⟩ = some (.int .i64 ay) := k2.cell 1
    have c2_2 : U8.cell? ⟨q2, 2, none⟩ = some (.int .i64 bx) := k2.cell 2
    have c2_3 : U8.cell? ⟨q2, 3, none⟩ = some (.int .i64 b_y) := k2.cell 3
    have l2 := k2.lt
    have c3_0 : U8.cell? ⟨q3, 0, none⟩ = some (.int .i64 cx) := k3.cell 0
    have c3_1 : U8.cell? ⟨q3, 1, none⟩ = some (.int .i64 cy) := k3.cell 1
    have l3 := k3.lt
    have c4_0 : U8.cell? ⟨q4, 0, none⟩ = some (.int .i64 cx) := k4.cell 0
    have c4_1 : U8.cell? ⟨q4, 1, none⟩ = some (.int .i64 cy) := k4.cell 1
    have l4 := k4.lt
    go_wp2_with fail
    clear c2_0 c2_1 c2_2 c2_3 l2 c3_0 c3_1 l3 c4_0 c4_1 l4
    refine (p15awake_any _).mono ?_
    rintro e U9 ⟨rfl, hn⟩
    clear k2 k3 k4
    replace k5 := k5.of hn
    replace k6 := k6.of hn
    replace hb0 := hb0.trans (hn.mono hb0.size)
    clear hn
    go_wp2
    first | go_ret | go_ret2
    exact ⟨by first | rfl | (simp; done) | (simp; assumption), hb0⟩
  · have qz1 : ax = bx := by simpa using hz1
    clear hz1
    subst qz1
    obtain ⟨z2, hz2⟩ : ∃ o_o : Bool, (ay == b_y) = o_o := ⟨_, rfl⟩
    cases z2
    · have nz2 : ¬ ay = b_y := by simpa using hz2
      have nz2_ : ¬ b_y = ay := fun e_ => nz2 e_.symm
      have c2_0 : U8.cell? ⟨q2, 0, none⟩ = some (.int .i64 ax) := k2.cell 0
      have c2_1 : U8.cell? ⟨q2, 1, none⟩ = some (.int .i64 ay) := k2.cell 1
      have c2_2 : U8.cell? ⟨q2, 2, none⟩ = some (.int .i64 ax) := k2.cell 2
      have c2_3 : U8.cell? ⟨q2, 3, none⟩ = some (.int .i64 b_y) := k2.cell 3
      have l2 := k2.lt
      have c3_0 : U8.cell? ⟨q3, 0, none⟩ = some (.int .i64 cx) := k3.cell 0
      have c3_1 : U8.cell? ⟨q3, 1, none⟩ = some (.int .i64 cy) := k3.cell 1
      have l3 := k3.lt
      have c4_0 : U8.cell? ⟨q4, 0, none⟩ = some (.int .i64 cx) := k4.cell 0
      have c4_1 : U8.cell? ⟨q4, 1, none⟩ = some (.int .i64 cy) := k4.cell 1
      have l4 := k4.lt
      go_wp2_with fail
      clear c2_0 c2_1 c2_2 c2_3 l2 c3_0 c3_1 l3 c4_0 c4_1 l4
      refine (p15awake_any _).mono ?_
      rintro e U10 ⟨rfl, hn⟩
      clear k2 k3 k4
      replace k5 := k5.of hn
      replace k6 := k6.of hn
      replace hb0 := hb0.trans (hn.mono hb0.size)
      clear hn
      go_wp2
      first | go_ret | go_ret2
      exact ⟨by first | rfl | (simp; done) | (simp; assumption), hb0⟩
    · have qz2 : ay = b_y := by simpa using hz2
      clear hz2
      subst qz2
      have c2_0 : U8.cell? ⟨q2, 0, none⟩ = some (.int .i64 ax) := k2.cell 0
      have c2_1 : U8.cell? ⟨q2, 1, none⟩ = some (.int .i64 ay) := k2.cell 1
      have c2_2 : U8.cell? ⟨q2, 2, none⟩ = some (.int .i64 ax) := k2.cell 2
      have c2_3 : U8.cell? ⟨q2, 3, none⟩ = some (.int .i64 ay) := k2.cell 3
      have l2 := k2.lt
      go_wp2_with fail
      clear c2_0 c2_1 c2_2 c2_3 l2
      refine (p15awake_any _).mono ?_
      rintro e U11 ⟨rfl, hn⟩
      clear k2
      replace k3 := k3.of hn
      replace k4 := k4.of hn
      replace k5 := k5.of hn
      replace k6 := k6.of hn
      replace hb0 := hb0.trans (hn.mono hb0.size)
      clear hn
      go_wp2
      first | go_ret | go_ret2
      exact ⟨by first | rfl | (simp; done) | (simp; assumption), hb0⟩
end Go.Proofs.Ytlcbomjdbdgbmaa

