/- My texts PxL6, joined: what the last one needs of them. Conditions: as each lemma says. -/
import Derived.Test.YtlcbomjdbdgbmaaSPa4
import Derived.KernelRfl
import Derived.StillTail
import Derived.OrdersHeld
import Derived.Deep.Quiet
import Derived.Below
import Derived.WalkKit
import Derived.Test.YtlcbomjdbdgbmaaProg
import Derived.WalkSpells
import Derived.StillTactics
import Derived.Laws.Pointers
import Derived.Deep.RegionHeld3
import Derived.RowKit3
import Derived.Deep.QuietTactic
import Derived.BigQuiet
import Derived.BigRegion
import Derived.Lib.Hide
import Derived.WalkSmall
import Derived.Laws.BitsAllLaws
import Derived.IntWalk
import Derived.Deep.OwnRows
import Derived.Deep.LoopGhost
import Derived.Shelf.Bits.Mul64
import Derived.Deep.WholeRow
import Derived.Laws.Rows
import Derived.ProofKit
import Derived.OpenShut
import Derived.ShutString
import Derived.ChangeOld
import Derived.Lib.SmallJoins
import Derived.Laws.IdiomArrays
namespace Go.Proofs.Ytlcbomjdbdgbmaa
open Go.RowKit

theorem alPxL5_0 : AllocRuns Try.prog 50 #[.int .i64 0, .int .i64 0, .int .i64 0, .int .i64 0] := fun w => by kernel_rfl

theorem alPxL5_1 : AllocRuns Try.prog 24 #[.int .i64 0, .int .i64 0] := fun w => by kernel_rfl

set_option maxRecDepth 100000 in
set_option maxHeartbeats 4000000 in

theorem PAh_000 (ax : Int) (ay : Int) (bx : Int) (b_y : Int) (cx : Int) (cy : Int) (dx : Int) (dy : Int) (n : Int) (xfn : Int) (xfd : Int) (xtn : Int) (xtd : Int) (xfo : Bool) (xto : Bool) (yfn : Int) (yfd : Int) (ytn : Int) (ytd : Int) (yfo : Bool) (yto : Bool)   (hP0 : cufn ax ay bx b_y cx cy n = xfn) (hP1 : cufd ax ay bx b_y cx cy n = xfd) (hP2 : cutn ax ay bx b_y cx cy n = xtn) (hP3 : cutd ax ay bx b_y cx cy n = xtd) (hP4 : cufo ax ay bx b_y cx cy n = xfo) (hP5 : cuto ax ay bx b_y cx cy n = xto) (hP6 : cufn ax ay bx b_y dx dy n = yfn) (hP7 : cufd ax ay bx b_y dx dy n = yfd) (hP8 : cutn ax ay bx b_y dx dy n = ytn) (hP9 : cutd ax ay bx b_y dx dy n = ytd) (hP10 : cufo ax ay bx b_y dx dy n = yfo) (hP11 : cuto ax ay bx b_y dx dy n = yto) (hP12 : cuk ax ay bx b_y cx cy n = true) (hP13 : cuk ax ay bx b_y dx dy n = true) (hP14 : pxA xfn xfd xtn xtd xfo xto yfn yfd ytn ytd yfo yto = (-1)) (hP15 : pxA yfn yfd ytn ytd yfo yto xfn xfd xtn xtd xfo xto = 1) (hP16 : p15n xtn xtd = xtn) (hP17 : p15d xtn xtd = xtd) (hP18 : p15n ytn ytd = ytn) (hP19 : p15d ytn ytd = ytd) (hP20 : p15n xfn xfd = xfn) (hP21 : p15d xfn xfd = xfd) (hP22 : p15n yfn yfd = yfn) (hP23 : p15d yfn yfd = yfd) (hP24 : (cx == dx) = false) (hP25 : rrC xtn xtd yfn yfd = (-1)) (_ixfn : InI xfn) (_ixfd : InI xfd) (_ixtn : InI xtn) (_ixtd : InI xtd) (_iyfn : InI yfn) (_iyfd : InI yfd) (_iytn : InI ytn) (_iytd : InI ytd) (_iax : In64 ax) (_iay : In64 ay) (_ibx : In64 bx) (_ib_y : In64 b_y) (_icx : In64 cx) (_icy : In64 cy) (_idx : In64 dx) (_idy : In64 dy) (_in : In64 n)  (w : World)  :
    Calls Try.prog 7 #[.agg #[.int .i64 ax, .int .i64 ay, .int .i64 bx, .int .i64 b_y, .int .i64 cx, .int .i64 cy, .int .i64 dx, .int .i64 dy, .int .i64 n]] w fun e w' => e = .returned (.bool true) ∧ Below w.heap.size w w' := by

  have HP0 := Lib.hid hP0
  clear hP0
  have HP1 := Lib.hid hP1
  clear hP1
  have HP2 := Lib.hid hP2
  clear hP2
  have HP3 := Lib.hid hP3
  clear hP3
  have HP4 := Lib.hid hP4
  clear hP4
  have HP5 := Lib.hid hP5
  clear hP5
  have HP6 := Lib.hid hP6
  clear hP6
  have HP7 := Lib.hid hP7
  clear hP7
  have HP8 := Lib.hid hP8
  clear hP8
  have HP9 := Lib.hid hP9
  clear hP9
  have HP10 := Lib.hid hP10
  clear hP10
  have HP11 := Lib.hid hP11
  clear hP11
  have HP12 := Lib.hid hP12
  clear hP12
  have HP13 := Lib.hid hP13
  clear hP13
  have HP14 := Lib.hid hP14
  clear hP14
  have HP15 := Lib.hid hP15
  clear hP15
  have HP16 := Lib.hid hP16
  clear hP16
  have HP17 := Lib.hid hP17
  clear hP17
  have HP18 := Lib.hid hP18
  clear hP18
  have HP19 := Lib.hid hP19
  clear hP19
  have HP20 := Lib.hid hP20
  clear hP20
  have HP21 := Lib.hid hP21
  clear hP21
  have HP22 := Lib.hid hP22
  clear hP22
  have HP23 := Lib.hid hP23
  clear hP23
  have nP24 : ¬ cx = dx := by simpa using hP24
  have HP25 := Lib.hid hP25
  clear hP25
  go_enter Try.func7, Try.ntmps7
  go_wp2_with fail
  first | refine calls_w ?_ | refine name_world ?_ | refine list_world ?_ | refine post_world ?_
  intro V1 hV1
  have hn : Below w.heap.size w V1 := by rw [hV1]; exact below_a1 _ _
  have nhb0 := hn
  have k1 : Blk V1 w.heap.size #[.int .i64 ax, .int .i64 ay, .int .i64 bx, .int .i64 b_y, .int .i64 cx, .int .i64 cy, .int .i64 dx, .int .i64 dy, .int .i64 n] 79 := by rw [hV1]; exact (Blk.new _ _ _)
  clear hV1
  have hb0 := nhb0
  clear nhb0
  have c1_0 : V1.cell? ⟨w.heap.size, 0, none⟩ = some (.int .i64 ax) := k1.cell 0
  have c1_1 : V1.cell? ⟨w.heap.size, 1, none⟩ = some (.int .i64 ay) := k1.cell 1
  have c1_2 : V1.cell? ⟨w.heap.size, 2, none⟩ = some (.int .i64 bx) := k1.cell 2
  have c1_3 : V1.cell? ⟨w.heap.size, 3, none⟩ = some (.int .i64 b_y) := k1.cell 3
  have c1_4 : V1.cell? ⟨w.heap.size, 4, none⟩ = some (.int .i64 cx) := k1.cell 4
  have c1_5 : V1.cell? ⟨w.heap.size, 5, none⟩ = some (.int .i64 cy) := k1.cell 5
  have c1_6 : V1.cell? ⟨w.heap.size, 6, none⟩ = some (.int .i64 dx) := k1.cell 6
  have c1_7 : V1.cell? ⟨w.heap.size, 7, none⟩ = some (.int .i64 dy) := k1.cell 7
  have c1_8 : V1.cell? ⟨w.heap.size, 8, none⟩ = some (.int .i64 n) := k1.cell 8
  have l1 := k1.lt
  have Kk1 := Lib.hid k1
  clear k1
  refine Stay.wp_region_FG3 11 8 9 10 [(0, 0), (0, 1), (0, 2), (0, 3), (0, 4), (0, 5), (0, 6), (0, 7)] [(1, 11), (1, 12), (1, 13), (0, 14)] (by kernel_rfl) (by kernel_rfl) (fun _ _ d _ _ => by cases d <;> exact Iff.rfl) rfl rfl rfl rfl alPxL5_0 rfl rfl rfl alPxL5_1 rfl rfl rfl alPxL5_1 ?_
  have hb : Below V1.heap.size V1 V1.drew := (Below.refl _ _).drew
  iterate 8
    refine wpFG_take0 rfl rfl ?_
    go_big_quiet_step (rfl)
    refine wpQuiet_nil ?_
  refine wpFG_nil ?_
  clear hb
  rintro w1 hg hb b1 b2 b3 hne ⟨lb1, nb1⟩ ⟨lb2, nb2⟩ ⟨lb3, nb3⟩
  clear hg
  simp only [Act.put, ptrTo, List.setIfInBounds_toArray, List.set_cons_succ, List.set_cons_zero]
  have m1 : Blk w1 b1 #[.int .i64 0, .int .i64 0, .int .i64 0, .int .i64 0] 50 := nb1
  have mc1_0 : w1.cell? ⟨b1, 0, none⟩ = some (.int .i64 0) := m1.cell 0
  have mf1_0 := m1.free 0
  have mc1_1 : w1.cell? ⟨b1, 1, none⟩ = some (.int .i64 0) := m1.cell 1
  have mf1_1 := m1.free 1
  have mc1_2 : w1.cell? ⟨b1, 2, none⟩ = some (.int .i64 0) := m1.cell 2
  have mf1_2 := m1.free 2
  have mc1_3 : w1.cell? ⟨b1, 3, none⟩ = some (.int .i64 0) := m1.cell 3
  have mf1_3 := m1.free 3
  have m2 : Blk w1 b2 #[.int .i64 0, .int .i64 0] 24 := nb2
  have mc2_0 : w1.cell? ⟨b2, 0, none⟩ = some (.int .i64 0) := m2.cell 0
  have mf2_0 := m2.free 0
  have mc2_1 : w1.cell? ⟨b2, 1, none⟩ = some (.int .i64 0) := m2.cell 1
  have mf2_1 := m2.free 1
  have m3 : Blk w1 b3 #[.int .i64 0, .int .i64 0] 24 := nb3
  have mc3_0 : w1.cell? ⟨b3, 0, none⟩ = some (.int .i64 0) := m3.cell 0
  have mf3_0 := m3.free 0
  have mc3_1 : w1.cell? ⟨b3, 1, none⟩ = some (.int .i64 0) := m3.cell 1
  have mf3_1 := m3.free 1
  refine wpG_do1 rfl ?_
  intro K hK
  go_wp2_with fail
  refine hK.out _ _ (up_iff.2 (by repeat' (first | with_reducible refine Below.setCell ?_ ?_ _ | with_reducible exact hb | with_reducible exact lb1 | with_reducible exact lb2 | with_reducible exact lb3))) ?_
  clear hK K
  refine wpG_do1 rfl ?_
  intro K hK
  go_wp2_with fail
  refine hK.out _ _ (up_iff.2 (by repeat' (first | with_reducible refine Below.setCell ?_ ?_ _ | with_reducible exact hb | with_reducible exact lb1 | with_reducible exact lb2 | with_reducible exact lb3))) ?_
  clear hK K
  refine wpG_do1 rfl ?_
  intro K hK
  go_wp2_with fail
  refine hK.out _ _ (up_iff.2 (by repeat' (first | with_reducible refine Below.setCell ?_ ?_ _ | with_reducible exact hb | with_reducible exact lb1 | with_reducible exact lb2 | with_reducible exact lb3))) ?_
  clear hK K
  refine wpG_take0 rfl rfl ?_
  go_big_quiet_step (rfl)
  refine wpQuiet_nil ?_
  refine wpG_nil ?_
  refine list_world ?_
  intro U2 hU2
  clear c1_0 c1_1 c1_2 c1_3 c1_4 c1_5 c1_6 c1_7 c1_8 l1
  have D1 := Lib.hid Kk1.out.lt
  have D2 := Lib.hid hb0.size
  have D3 := Lib.hid lb1
  have D4 := Lib.hid lb2
  have D5 := Lib.hid lb3
  have D6 := Lib.hid hne
  have k1 : Blk U2 w.heap.size #[.int .i64 ax, .int .i64 ay, .int .i64 bx, .int .i64 b_y, .int .i64 cx, .int .i64 cy, .int .i64 dx, .int .i64 dy, .int .i64 n] 79 := by rw [hU2]; exact (blk_setL (blk_setL (blk_setL (Kk1.out.of hb) (by have := D1.out; have := D3.out; omega) 0 [.int .i64 ax, .int .i64 ay, .int .i64 bx, .int .i64 b_y]) (by have := D1.out; have := D4.out; omega) 0 [.int .i64 cx, .int .i64 cy]) (by have := D1.out; have := D5.out; omega) 0 [.int .i64 dx, .int .i64 dy])
  have k2 : Blk U2 b1 #[.int .i64 ax, .int .i64 ay, .int .i64 bx, .int .i64 b_y] 50 := by rw [hU2]; exact (blk_setL (blk_setL (blk_full _ [.int .i64 ax, .int .i64 ay, .int .i64 bx, .int .i64 b_y] m1 rfl) (by have := D6.out; omega) 0 [.int .i64 cx, .int .i64 cy]) (by have := D6.out; omega) 0 [.int .i64 dx, .int .i64 dy])
  have k3 : Blk U2 b2 #[.int .i64 cx, .int .i64 cy] 24 := by rw [hU2]; exact (blk_setL (blk_full _ [.int .i64 cx, .int .i64 cy] (blk_setL m2 (by have := D6.out; omega) 0 [.int .i64 ax, .int .i64 ay, .int .i64 bx, .int .i64 b_y]) rfl) (by have := D6.out; omega) 0 [.int .i64 dx, .int .i64 dy])
  have k4 : Blk U2 b3 #[.int .i64 dx, .int .i64 dy] 24 := by rw [hU2]; exact (blk_full _ [.int .i64 dx, .int .i64 dy] (blk_setL (blk_setL m3 (by have := D6.out; omega) 0 [.int .i64 ax, .int .i64 ay, .int .i64 bx, .int .i64 b_y]) (by have := D6.out; omega) 0 [.int .i64 cx, .int .i64 cy]) rfl)
  replace hb0 : Below w.heap.size w U2 := by rw [hU2]; exact (blw_setL (blw_setL (blw_setL (hb0.trans (hb.mono hb0.size)) (by have := D2.out; have := D3.out; omega) 0 [.int .i64 ax, .int .i64 ay, .int .i64 bx, .int .i64 b_y]) (by have := D2.out; have := D4.out; omega) 0 [.int .i64 cx, .int .i64 cy]) (by have := D2.out; have := D5.out; omega) 0 [.int .i64 dx, .int .i64 dy])
  clear hU2 hb Kk1 m1 nb1 lb1 mc1_0 mf1_0 mc1_1 mf1_1 mc1_2 mf1_2 mc1_3 mf1_3 m2 nb2 lb2 mc2_0 mf2_0 mc2_1 mf2_1 m3 nb3 lb3 mc3_0 mf3_0 mc3_1 mf3_1 hne
  generalize b1 = q2 at *
  generalize b2 = q3 at *
  generalize b3 = q4 at *
  have c2_0 : U2.cell? ⟨q2, 0, none⟩ = some (.int .i64 ax) := k2.cell 0
  have c2_1 : U2.cell? ⟨q2, 1, none⟩ = some (.int .i64 ay) := k2.cell 1
  have c2_2 : U2.cell? ⟨q2, 2, none⟩ = some (.int .i64 bx) := k2.cell 2
  have c2_3 : U2.cell? ⟨q2, 3, none⟩ = some (.int .i64 b_y) := k2.cell 3
  have l2 := k2.lt
  have c3_0 : U2.cell? ⟨q3, 0, none⟩ = some (.int .i64 cx) := k3.cell 0
  have c3_1 : U2.cell? ⟨q3, 1, none⟩ = some (.int .i64 cy) := k3.cell 1
  have l3 := k3.lt
  go_wp2_with fail
  clear c2_0 c2_1 c2_2 c2_3 l2 c3_0 c3_1 l3
  refine (cut_v ax ay bx b_y cx cy n xfn xfd xtn xtd xfo xto true HP0.out HP1.out HP2.out HP3.out HP4.out HP5.out HP12.out _iax _iay _ibx _ib_y _icx _icy _in _).mono ?_
  rintro e U3 ⟨rfl, hn⟩
  clear k1
  replace k2 := k2.of hn
  replace k3 := k3.of hn
  replace k4 := k4.of hn
  replace hb0 := hb0.trans (hn.mono hb0.size)
  clear hn
  have c2_0 : U3.cell? ⟨q2, 0, none⟩ = some (.int .i64 ax) := k2.cell 0
  have c2_1 : U3.cell? ⟨q2, 1, none⟩ = some (.int .i64 ay) := k2.cell 1
  have c2_2 : U3.cell? ⟨q2, 2, none⟩ = some (.int .i64 bx) := k2.cell 2
  have c2_3 : U3.cell? ⟨q2, 3, none⟩ = some (.int .i64 b_y) := k2.cell 3
  have l2 := k2.lt
  have c4_0 : U3.cell? ⟨q4, 0, none⟩ = some (.int .i64 dx) := k4.cell 0
  have c4_1 : U3.cell? ⟨q4, 1, none⟩ = some (.int .i64 dy) := k4.cell 1
  have l4 := k4.lt
  have pr2_5 : q2 ≠ U3.heap.size := (by have := k2.lt; omega)
  have pr4_5 : q4 ≠ U3.heap.size := (by have := k4.lt; omega)
  go_wp2_with (first | ((with_reducible refine stRow (U3.heap.size) #[.int .u64 (wd0 xfn), .int .u64 (wd1 xfn), .int .u64 (wd2 xfn), .int .u64 (wd3 xfn), .int .u64 (wd0 xfd), .int .u64 (wd1 xfd), .int .u64 (wd2 xfd), .int .u64 (wd3 xfd), .int .u64 (wd0 xtn), .int .u64 (wd1 xtn), .int .u64 (wd2 xtn), .int .u64 (wd3 xtn), .int .u64 (wd0 xtd), .int .u64 (wd1 xtd), .int .u64 (wd2 xtd), .int .u64 (wd3 xtd), .bool xfo, .bool xto] _ _ (Blk.new _ _ _) ?_ ?_ ?_ ?_ ?_ ?_); rfl; rfl; (as_aux_lemma => kernel_rfl); rfl; (as_aux_lemma => kernel_rfl); simp only [Act.put]))
  clear c2_0 c2_1 c2_2 c2_3 l2 c4_0 c4_1 l4 pr2_5 pr4_5
  first | refine calls_w ?_ | refine name_world ?_ | refine list_world ?_ | refine post_world ?_
  intro V4 hV4
  rw [World.setRow_alloc_new] at hV4
  have D7 := Lib.hid k2.lt
  have D8 := Lib.hid k3.lt
  have D9 := Lib.hid k4.lt
  have D10 := Lib.hid hb0.size
  have hn : Below U3.heap.size U3 V4 := by rw [hV4]; exact below_a1 _ _
  have nk2 := k2.of hn
  have nk3 := k3.of hn
  have nk4 := k4.of hn
  have nhb0 := hb0.trans (hn.mono hb0.size)
  clear hn
  have k5 : Blk V4 U3.heap.size #[.int .u64 (wd0 xfn), .int .u64 (wd1 xfn), .int .u64 (wd2 xfn), .int .u64 (wd3 xfn), .int .u64 (wd0 xfd), .int .u64 (wd1 xfd), .int .u64 (wd2 xfd), .int .u64 (wd3 xfd), .int .u64 (wd0 xtn), .int .u64 (wd1 xtn), .int .u64 (wd2 xtn), .int .u64 (wd3 xtn), .int .u64 (wd0 xtd), .int .u64 (wd1 xtd), .int .u64 (wd2 xtd), .int .u64 (wd3 xtd), .bool xfo, .bool xto] 54 := by rw [hV4]; exact (Blk.new _ _ _)
  clear k2 k3 k4
  clear hb0
  clear hV4
  have k2 := nk2
  clear nk2
  have k3 := nk3
  clear nk3
  have k4 := nk4
  clear nk4
  have hb0 := nhb0
  clear nhb0
  refine (cut_v ax ay bx b_y dx dy n yfn yfd ytn ytd yfo yto true HP6.out HP7.out HP8.out HP9.out HP10.out HP11.out HP13.out _iax _iay _ibx _ib_y _idx _idy _in _).mono ?_
  rintro e U5 ⟨rfl, hn⟩
  replace k2 := k2.of hn
  replace k3 := k3.of hn
  replace k4 := k4.of hn
  replace k5 := k5.of hn
  replace hb0 := hb0.trans (hn.mono hb0.size)
  clear hn
  go_wp2_with (first | ((with_reducible refine stRow (U5.heap.size) #[.int .u64 (wd0 yfn), .int .u64 (wd1 yfn), .int .u64 (wd2 yfn), .int .u64 (wd3 yfn), .int .u64 (wd0 yfd), .int .u64 (wd1 yfd), .int .u64 (wd2 yfd), .int .u64 (wd3 yfd), .int .u64 (wd0 ytn), .int .u64 (wd1 ytn), .int .u64 (wd2 ytn), .int .u64 (wd3 ytn), .int .u64 (wd0 ytd), .int .u64 (wd1 ytd), .int .u64 (wd2 ytd), .int .u64 (wd3 ytd), .bool yfo, .bool yto] _ _ (Blk.new _ _ _) ?_ ?_ ?_ ?_ ?_ ?_); rfl; rfl; (as_aux_lemma => kernel_rfl); rfl; (as_aux_lemma => kernel_rfl); simp only [Act.put]) | ((with_reducible refine ldRow (U3.heap.size) #[.int .u64 (wd0 xfn), .int .u64 (wd1 xfn), .int .u64 (wd2 xfn), .int .u64 (wd3 xfn), .int .u64 (wd0 xfd), .int .u64 (wd1 xfd), .int .u64 (wd2 xfd), .int .u64 (wd3 xfd), .int .u64 (wd0 xtn), .int .u64 (wd1 xtn), .int .u64 (wd2 xtn), .int .u64 (wd3 xtn), .int .u64 (wd0 xtd), .int .u64 (wd1 xtd), .int .u64 (wd2 xtd), .int .u64 (wd3 xtd), .bool xfo, .bool xto] _ (blk_rowo (k5.alloc _) (by have := k5.lt; omega) _) ?_ ?_ ?_ ?_); rfl; exact ⟨_, rfl, rfl⟩; (as_aux_lemma => kernel_rfl); simp only [Act.put, List.setIfInBounds_toArray, List.set_cons_succ, List.set_cons_zero]) | ((with_reducible refine ldRow (U5.heap.size) #[.int .u64 (wd0 yfn), .int .u64 (wd1 yfn), .int .u64 (wd2 yfn), .int .u64 (wd3 yfn), .int .u64 (wd0 yfd), .int .u64 (wd1 yfd), .int .u64 (wd2 yfd), .int .u64 (wd3 yfd), .int .u64 (wd0 ytn), .int .u64 (wd1 ytn), .int .u64 (wd2 ytn), .int .u64 (wd3 ytn), .int .u64 (wd0 ytd), .int .u64 (wd1 ytd), .int .u64 (wd2 ytd), .int .u64 (wd3 ytd), .bool yfo, .bool yto] _ (blk_row (Blk.new _ _ _) _) ?_ ?_ ?_ ?_); rfl; exact ⟨_, rfl, rfl⟩; (as_aux_lemma => kernel_rfl); simp only [Act.put, List.setIfInBounds_toArray, List.set_cons_succ, List.set_cons_zero]))
  first | refine calls_w ?_ | refine name_world ?_ | refine list_world ?_ | refine post_world ?_
  intro V6 hV6
  rw [World.setRow_alloc_new] at hV6
  have D11 := Lib.hid k2.lt
  have D12 := Lib.hid k3.lt
  have D13 := Lib.hid k4.lt
  have D14 := Lib.hid k5.lt
  have D15 := Lib.hid hb0.size
  have hn : Below U5.heap.size U5 V6 := by rw [hV6]; exact below_a1 _ _
  have nk2 := k2.of hn
  have nk3 := k3.of hn
  have nk4 := k4.of hn
  have nk5 := k5.of hn
  have nhb0 := hb0.trans (hn.mono hb0.size)
  clear hn
  have k6 : Blk V6 U5.heap.size #[.int .u64 (wd0 yfn), .int .u64 (wd1 yfn), .int .u64 (wd2 yfn), .int .u64 (wd3 yfn), .int .u64 (wd0 yfd), .int .u64 (wd1 yfd), .int .u64 (wd2 yfd), .int .u64 (wd3 yfd), .int .u64 (wd0 ytn), .int .u64 (wd1 ytn), .int .u64 (wd2 ytn), .int .u64 (wd3 ytn), .int .u64 (wd0 ytd), .int .u64 (wd1 ytd), .int .u64 (wd2 ytd), .int .u64 (wd3 ytd), .bool yfo, .bool yto] 54 := by rw [hV6]; exact (Blk.new _ _ _)
  clear k2 k3 k4 k5
  clear hb0
  clear hV6
  have k2 := nk2
  clear nk2
  have k3 := nk3
  clear nk3
  have k4 := nk4
  clear nk4
  have k5 := nk5
  clear nk5
  have hb0 := nhb0
  clear nhb0
  refine (pxAh_is xfn xfd xtn xtd xfo xto yfn yfd ytn ytd yfo yto (-1) HP14.out _ixfn _ixfd _ixtn _ixtd _iyfn _iyfd _iytn _iytd  _).mono ?_
  rintro e U7 ⟨rfl, hn⟩
  replace k2 := k2.of hn
  replace k3 := k3.of hn
  replace k4 := k4.of hn
  replace k5 := k5.of hn
  replace k6 := k6.of hn
  replace hb0 := hb0.trans (hn.mono hb0.size)
  clear hn
  go_wp2_with (first | ((with_reducible refine ldRow (U5.heap.size) #[.int .u64 (wd0 yfn), .int .u64 (wd1 yfn), .int .u64 (wd2 yfn), .int .u64 (wd3 yfn), .int .u64 (wd0 yfd), .int .u64 (wd1 yfd), .int .u64 (wd2 yfd), .int .u64 (wd3 yfd), .int .u64 (wd0 ytn), .int .u64 (wd1 ytn), .int .u64 (wd2 ytn), .int .u64 (wd3 ytn), .int .u64 (wd0 ytd), .int .u64 (wd1 ytd), .int .u64 (wd2 ytd), .int .u64 (wd3 ytd), .bool yfo, .bool yto] _ k6 ?_ ?_ ?_ ?_); rfl; exact ⟨_, rfl, rfl⟩; (as_aux_lemma => kernel_rfl); simp only [Act.put, List.setIfInBounds_toArray, List.set_cons_succ, List.set_cons_zero]) | ((with_reducible refine ldRow (U3.heap.size) #[.int .u64 (wd0 xfn), .int .u64 (wd1 xfn), .int .u64 (wd2 xfn), .int .u64 (wd3 xfn), .int .u64 (wd0 xfd), .int .u64 (wd1 xfd), .int .u64 (wd2 xfd), .int .u64 (wd3 xfd), .int .u64 (wd0 xtn), .int .u64 (wd1 xtn), .int .u64 (wd2 xtn), .int .u64 (wd3 xtn), .int .u64 (wd0 xtd), .int .u64 (wd1 xtd), .int .u64 (wd2 xtd), .int .u64 (wd3 xtd), .bool xfo, .bool xto] _ k5 ?_ ?_ ?_ ?_); rfl; exact ⟨_, rfl, rfl⟩; (as_aux_lemma => kernel_rfl); simp only [Act.put, List.setIfInBounds_toArray, List.set_cons_succ, List.set_cons_zero]))
  refine (pxAh_is yfn yfd ytn ytd yfo yto xfn xfd xtn xtd xfo xto 1 HP15.out _iyfn _iyfd _iytn _iytd _ixfn _ixfd _ixtn _ixtd  _).mono ?_
  rintro e U8 ⟨rfl, hn⟩
  replace k2 := k2.of hn
  replace k3 := k3.of hn
  replace k4 := k4.of hn
  replace k5 := k5.of hn
  replace k6 := k6.of hn
  replace hb0 := hb0.trans (hn.mono hb0.size)
  clear hn
  obtain ⟨z1, hz1⟩ : ∃ o_o : Bool, (ax == bx) = o_o := ⟨_, rfl⟩
  cases z1
  · have nz1 : ¬ ax = bx := by simpa using hz1
    have nz1_ : ¬ bx = ax := fun e_ => nz1 e_.symm
    have c2_0 : U8.cell? ⟨q2, 0, none⟩ = some (.int .i64 ax) := k2.cell 0
    have c2_1 : U8.cell? ⟨q2, 1, none⟩ = some (.int .i64 ay) := k2.cell 1
    have c2_2 : U8.cell? ⟨q2, 2, none⟩ = some (.int .i64 bx) := k2.cell 2
    have c2_3 : U8.cell? ⟨q2, 3, none⟩ = some (.int .i64 b_y) := k2.cell 3
    have l2 := k2.lt
    have c3_0 : U8.cell? ⟨q3, 0, none⟩ = some (.int .i64 cx) := k3.cell 0
    have c3_1 : U8.cell? ⟨q3, 1, none⟩ = some (.int .i64 cy) := k3.cell 1
    have l3 := k3.lt
    have c4_0 : U8.cell? ⟨q4, 0, none⟩ = some (.int .i64 dx) := k4.cell 0
    have c4_1 : U8.cell? ⟨q4, 1, none⟩ = some (.int .i64 dy) := k4.cell 1
    have l4 := k4.lt
    go_wp2_with fail
    clear c2_0 c2_1 c2_2 c2_3 l2 c3_0 c3_1 l3 c4_0 c4_1 l4
    clear k2 k3 k4
    have c5_8 : U8.cell? ⟨U3.heap.size, 8, none⟩ = some (.int .u64 (wd0 xtn)) := k5.cell 8
    have c5_9 : U8.cell? ⟨U3.heap.size, 9, none⟩ = some (.int .u64 (wd1 xtn)) := k5.cell 9
    have c5_10 : U8.cell? ⟨U3.heap.size, 10, none⟩ = some (.int .u64 (wd2 xtn)) := k5.cell 10
    have c5_11 : U8.cell? ⟨U3.heap.size, 11, none⟩ = some (.int .u64 (wd3 xtn)) := k5.cell 11
    have c5_12 : U8.cell? ⟨U3.heap.size, 12, none⟩ = some (.int .u64 (wd0 xtd)) := k5.cell 12
    have c5_13 : U8.cell? ⟨U3.heap.size, 13, none⟩ = some (.int .u64 (wd1 xtd)) := k5.cell 13
    have c5_14 : U8.cell? ⟨U3.heap.size, 14, none⟩ = some (.int .u64 (wd2 xtd)) := k5.cell 14
    have c5_15 : U8.cell? ⟨U3.heap.size, 15, none⟩ = some (.int .u64 (wd3 xtd)) := k5.cell 15
    have l5 := k5.lt
    have c6_0 : U8.cell? ⟨U5.heap.size, 0, none⟩ = some (.int .u64 (wd0 yfn)) := k6.cell 0
    have c6_1 : U8.cell? ⟨U5.heap.size, 1, none⟩ = some (.int .u64 (wd1 yfn)) := k6.cell 1
    have c6_2 : U8.cell? ⟨U5.heap.size, 2, none⟩ = some (.int .u64 (wd2 yfn)) := k6.cell 2
    have c6_3 : U8.cell? ⟨U5.heap.size, 3, none⟩ = some (.int .u64 (wd3 yfn)) := k6.cell 3
    have c6_4 : U8.cell? ⟨U5.heap.size, 4, none⟩ = some (.int .u64 (wd0 yfd)) := k6.cell 4
    have c6_5 : U8.cell? ⟨U5.heap.size, 5, none⟩ = some (.int .u64 (wd1 yfd)) := k6.cell 5
    have c6_6 : U8.cell? ⟨U5.heap.size, 6, none⟩ = some (.int .u64 (wd2 yfd)) := k6.cell 6
    have c6_7 : U8.cell? ⟨U5.heap.size, 7, none⟩ = some (.int .u64 (wd3 yfd)) := k6.cell 7
    have l6 := k6.lt
    have Kk5 := Lib.hid k5
    clear k5
    have Kk6 := Lib.hid k6
    clear k6
    refine wp_region_up U8.heap.size 5 [(true, 0), (true, 1), (true, 3), (true, 4), (false, 2)] (by kernel_rfl) (by kernel_rfl) (fun _ _ d _ _ h => by cases d <;> exact h) ?_
    have hb : Below U8.heap.size U8 U8.drew := (Below.refl _ _).drew
    iterate 4
      refine wpS_takeL rfl rfl ?_
      go_big_quiet_step (rfl)
      refine wpQuiet_nil ?_
    refine wpS_doL rfl ?_
    intro K hK
    go_wp2_with ((go_at_call 38; (with_reducible refine (p15rat_is xtn xtd xtn xtd HP16.out HP17.out _ixtn _ixtd  _).mono ?_); rintro e w2 ⟨bn1, ba1, bl1, bc1, bn2, ba2, bl2, bc2, rfl, hbm1, hbm2, hn⟩; have HB1 := Lib.hid hbm1; have HB2 := Lib.hid hbm2; clear hbm1 hbm2))
    replace hb := hb.trans (hn.mono hb.size)
    refine hK.out _ _ (up_iff.2 hb) ?_
    clear hK K
    clear hn
    refine wpS_nil ?_
    simp only [List.drop_succ_cons, List.drop_zero]
    first | refine calls_w ?_ | refine name_world ?_ | refine list_world ?_ | refine post_world ?_
    intro U9 hU9
    first | (subst hU9; have u_ := U9; clear u_) | (rw [← hU9] at hb; clear hU9)
    clear c5_8 c5_9 c5_10 c5_11 c5_12 c5_13 c5_14 c5_15 l5 c6_0 c6_1 c6_2 c6_3 c6_4 c6_5 c6_6 c6_7 l6
    have k5 := Kk5.out.of hb
    clear Kk5
    have k6 := Kk6.out.of hb
    clear Kk6
    replace hb0 := hb0.trans (hb.mono hb0.size)
    clear hb
    go_wp2_with fail
    refine (p15rat_is yfn yfd yfn yfd HP22.out HP23.out _iyfn _iyfd  _).mono ?_
    rintro e U10 ⟨bn3, ba3, bl3, bc3, bn4, ba4, bl4, bc4, rfl, hbm3, hbm4, hn⟩
    replace k5 := k5.of hn
    replace k6 := k6.of hn
    replace HB1 := Lib.hid (HB1.out.of hn)
    replace HB2 := Lib.hid (HB2.out.of hn)
    replace hb0 := hb0.trans (hn.mono hb0.size)
    clear hn
    have HB3 := Lib.hid hbm3
    have HB4 := Lib.hid hbm4
    clear hbm3 hbm4
    go_wp2_with fail
    refine (rrC_is xtn xtd yfn yfd (-1) HP25.out  bn1 ba1 bl1 bc1 bn2 ba2 bl2 bc2 bn3 ba3 bl3 bc3 bn4 ba4 bl4 bc4 _ HB1.out HB2.out HB3.out HB4.out).mono ?_
    rintro e U11 ⟨rfl, hn⟩
    clear HB1 HB2 HB3 HB4
    replace k5 := k5.of hn
    replace k6 := k6.of hn
    replace hb0 := hb0.trans (hn.mono hb0.size)
    clear hn
    go_wp2_with fail
    refine (p15awake_any _).mono ?_
    rintro e U12 ⟨rfl, hn⟩
    clear k5 k6
    replace hb0 := hb0.trans (hn.mono hb0.size)
    clear hn
    go_wp2
    first | go_ret | go_ret2
    exact ⟨by first | rfl | (simp; done) | (simp; assumption), hb0⟩
  · have qz1 : ax = bx := by simpa using hz1
    clear hz1
    subst qz1
    obtain ⟨z2, hz2⟩ : ∃ o_o : Bool, (ay == b_y) = o_o := ⟨_, rfl⟩
    cases z2
    · have nz2 : ¬ ay = b_y := by simpa using hz2
      have nz2_ : ¬ b_y = ay := fun e_ => nz2 e_.symm
      have c2_0 : U8.cell? ⟨q2, 0, none⟩ = some (.int .i64 ax) := k2.cell 0
      have c2_1 : U8.cell? ⟨q2, 1, none⟩ = some (.int .i64 ay) := k2.cell 1
      have c2_2 : U8.cell? ⟨q2, 2, none⟩ = some (.int .i64 ax) := k2.cell 2
      have c2_3 : U8.cell? ⟨q2, 3, none⟩ = some (.int .i64 b_y) := k2.cell 3
      have l2 := k2.lt
      have c3_0 : U8.cell? ⟨q3, 0, none⟩ = some (.int .i64 cx) := k3.cell 0
      have c3_1 : U8.cell? ⟨q3, 1, none⟩ = some (.int .i64 cy) := k3.cell 1
      have l3 := k3.lt
      have c4_0 : U8.cell? ⟨q4, 0, none⟩ = some (.int .i64 dx) := k4.cell 0
      have c4_1 : U8.cell? ⟨q4, 1, none⟩ = some (.int .i64 dy) := k4.cell 1
      have l4 := k4.lt
      go_wp2_with fail
      clear c2_0 c2_1 c2_2 c2_3 l2 c3_0 c3_1 l3 c4_0 c4_1 l4
      clear k2 k3 k4
      have c5_8 : U8.cell? ⟨U3.heap.size, 8, none⟩ = some (.int .u64 (wd0 xtn)) := k5.cell 8
      have c5_9 : U8.cell? ⟨U3.heap.size, 9, none⟩ = some (.int .u64 (wd1 xtn)) := k5.cell 9
      have c5_10 : U8.cell? ⟨U3.heap.size, 10, none⟩ = some (.int .u64 (wd2 xtn)) := k5.cell 10
      have c5_11 : U8.cell? ⟨U3.heap.size, 11, none⟩ = some (.int .u64 (wd3 xtn)) := k5.cell 11
      have c5_12 : U8.cell? ⟨U3.heap.size, 12, none⟩ = some (.int .u64 (wd0 xtd)) := k5.cell 12
      have c5_13 : U8.cell? ⟨U3.heap.size, 13, none⟩ = some (.int .u64 (wd1 xtd)) := k5.cell 13
      have c5_14 : U8.cell? ⟨U3.heap.size, 14, none⟩ = some (.int .u64 (wd2 xtd)) := k5.cell 14
      have c5_15 : U8.cell? ⟨U3.heap.size, 15, none⟩ = some (.int .u64 (wd3 xtd)) := k5.cell 15
      have l5 := k5.lt
      have c6_0 : U8.cell? ⟨U5.heap.size, 0, none⟩ = some (.int .u64 (wd0 yfn)) := k6.cell 0
      have c6_1 : U8.cell? ⟨U5.heap.size, 1, none⟩ = some (.int .u64 (wd1 yfn)) := k6.cell 1
      have c6_2 : U8.cell? ⟨U5.heap.size, 2, none⟩ = some (.int .u64 (wd2 yfn)) := k6.cell 2
      have c6_3 : U8.cell? ⟨U5.heap.size, 3, none⟩ = some (.int .u64 (wd3 yfn)) := k6.cell 3
      have c6_4 : U8.cell? ⟨U5.heap.size, 4, none⟩ = some (.int .u64 (wd0 yfd)) := k6.cell 4
      have c6_5 : U8.cell? ⟨U5.heap.size, 5, none⟩ = some (.int .u64 (wd1 yfd)) := k6.cell 5
      have c6_6 : U8.cell? ⟨U5.heap.size, 6, none⟩ = some (.int .u64 (wd2 yfd)) := k6.cell 6
      have c6_7 : U8.cell? ⟨U5.heap.size, 7, none⟩ = some (.int .u64 (wd3 yfd)) := k6.cell 7
      have l6 := k6.lt
      have Kk5 := Lib.hid k5
      clear k5
      have Kk6 := Lib.hid k6
      clear k6
      refine wp_region_up U8.heap.size 5 [(true, 0), (true, 1), (true, 3), (true, 4), (false, 2)] (by kernel_rfl) (by kernel_rfl) (fun _ _ d _ _ h => by cases d <;> exact h) ?_
      have hb : Below U8.heap.size U8 U8.drew := (Below.refl _ _).drew
      iterate 4
        refine wpS_takeL rfl rfl ?_
        go_big_quiet_step (rfl)
        refine wpQuiet_nil ?_
      refine wpS_doL rfl ?_
      intro K hK
      go_wp2_with ((go_at_call 38; (with_reducible refine (p15rat_is xtn xtd xtn xtd HP16.out HP17.out _ixtn _ixtd  _).mono ?_); rintro e w2 ⟨bn5, ba5, bl5, bc5, bn6, ba6, bl6, bc6, rfl, hbm5, hbm6, hn⟩; have HB5 := Lib.hid hbm5; have HB6 := Lib.hid hbm6; clear hbm5 hbm6))
      replace hb := hb.trans (hn.mono hb.size)
      refine hK.out _ _ (up_iff.2 hb) ?_
      clear hK K
      clear hn
      refine wpS_nil ?_
      simp only [List.drop_succ_cons, List.drop_zero]
      first | refine calls_w ?_ | refine name_world ?_ | refine list_world ?_ | refine post_world ?_
      intro U13 hU13
      first | (subst hU13; have u_ := U13; clear u_) | (rw [← hU13] at hb; clear hU13)
      clear c5_8 c5_9 c5_10 c5_11 c5_12 c5_13 c5_14 c5_15 l5 c6_0 c6_1 c6_2 c6_3 c6_4 c6_5 c6_6 c6_7 l6
      have k5 := Kk5.out.of hb
      clear Kk5
      have k6 := Kk6.out.of hb
      clear Kk6
      replace hb0 := hb0.trans (hb.mono hb0.size)
      clear hb
      go_wp2_with fail
      refine (p15rat_is yfn yfd yfn yfd HP22.out HP23.out _iyfn _iyfd  _).mono ?_
      rintro e U14 ⟨bn7, ba7, bl7, bc7, bn8, ba8, bl8, bc8, rfl, hbm7, hbm8, hn⟩
      replace k5 := k5.of hn
      replace k6 := k6.of hn
      replace HB5 := Lib.hid (HB5.out.of hn)
      replace HB6 := Lib.hid (HB6.out.of hn)
      replace hb0 := hb0.trans (hn.mono hb0.size)
      clear hn
      have HB7 := Lib.hid hbm7
      have HB8 := Lib.hid hbm8
      clear hbm7 hbm8
      go_wp2_with fail
      refine (rrC_is xtn xtd yfn yfd (-1) HP25.out  bn5 ba5 bl5 bc5 bn6 ba6 bl6 bc6 bn7 ba7 bl7 bc7 bn8 ba8 bl8 bc8 _ HB5.out HB6.out HB7.out HB8.out).mono ?_
      rintro e U15 ⟨rfl, hn⟩
      clear HB5 HB6 HB7 HB8
      replace k5 := k5.of hn
      replace k6 := k6.of hn
      replace hb0 := hb0.trans (hn.mono hb0.size)
      clear hn
      go_wp2_with fail
      refine (p15awake_any _).mono ?_
      rintro e U16 ⟨rfl, hn⟩
      clear k5 k6
      replace hb0 := hb0.trans (hn.mono hb0.size)
      clear hn
      go_wp2
      first | go_ret | go_ret2
      exact ⟨by first | rfl | (simp; done) | (simp; assumption), hb0⟩
    · have qz2 : ay = b_y := by simpa using hz2
      clear hz2
      subst qz2
      have c2_0 : U8.cell? ⟨q2, 0, none⟩ = some (.int .i64 ax) := k2.cell 0
      have c2_1 : U8.cell? ⟨q2, 1, none⟩ = some (.int .i64 ay) := k2.cell 1
      have c2_2 : U8.cell? ⟨q2, 2, none⟩ = some (.int .i64 ax) := k2.cell 2
      have c2_3 : U8.cell? ⟨q2, 3, none⟩ = some (.int .i64 ay) := k2.cell 3
      have l2 := k2.lt
      go_wp2_with fail
      clear c2_0 c2_1 c2_2 c2_3 l2
      refine (p15awake_any _).mono ?_
      rintro e U17 ⟨rfl, hn⟩
      clear k2
      replace k3 := k3.of hn
      replace k4 := k4.of hn
      replace k5 := k5.of hn
      replace k6 := k6.of hn
      replace hb0 := hb0.trans (hn.mono hb0.size)
      clear hn
      go_wp2
      first | go_ret | go_ret2
      exact ⟨by first | rfl | (simp; done) | (simp; assumption), hb0⟩

set_option maxRecDepth 100000 in
set_option maxHeartbeats 4000000 in

theorem PAh_001 (ax : Int) (ay : Int) (bx : Int) (b_y : Int) (cx : Int) (cy : Int) (dx : Int) (dy : Int) (n : Int) (xfn : Int) (xfd : Int) (xtn : Int) (xtd : Int) (xfo : Bool) (yfn : Int) (yfd : Int) (ytn : Int) (ytd : Int) (yfo : Bool) (yto : Bool)   (hP0 : cufn ax ay bx b_y cx cy n = xfn) (hP1 : cufd ax ay bx b_y cx cy n = xfd) (hP2 : cutn ax ay bx b_y cx cy n = xtn) (hP3 : cutd ax ay bx b_y cx cy n = xtd) (hP4 : cufo ax ay bx b_y cx cy n = xfo) (hP5 : cuto ax ay bx b_y cx cy n = true) (hP6 : cufn ax ay bx b_y dx dy n = yfn) (hP7 : cufd ax ay bx b_y dx dy n = yfd) (hP8 : cutn ax ay bx b_y dx dy n = ytn) (hP9 : cutd ax ay bx b_y dx dy n = ytd) (hP10 : cufo ax ay bx b_y dx dy n = yfo) (hP11 : cuto ax ay bx b_y dx dy n = yto) (hP12 : cuk ax ay bx b_y cx cy n = true) (hP13 : cuk ax ay bx b_y dx dy n = true) (hP14 : pxA xfn xfd xtn xtd xfo true yfn yfd ytn ytd yfo yto = (-1)) (hP15 : pxA yfn yfd ytn ytd yfo yto xfn xfd xtn xtd xfo true = 1) (hP16 : p15n xtn xtd = xtn) (hP17 : p15d xtn xtd = xtd) (hP18 : p15n ytn ytd = ytn) (hP19 : p15d ytn ytd = ytd) (hP20 : p15n xfn xfd = xfn) (hP21 : p15d xfn xfd = xfd) (hP22 : p15n yfn yfd = yfn) (hP23 : p15d yfn yfd = yfd) (hP24 : (cx == dx) = false) (hP25 : rrC xtn xtd yfn yfd = 0) (_ixfn : InI xfn) (_ixfd : InI xfd) (_ixtn : InI xtn) (_ixtd : InI xtd) (_iyfn : InI yfn) (_iyfd : InI yfd) (_iytn : InI ytn) (_iytd : InI ytd) (_iax : In64 ax) (_iay : In64 ay) (_ibx : In64 bx) (_ib_y : In64 b_y) (_icx : In64 cx) (_icy : In64 cy) (_idx : In64 dx) (_idy : In64 dy) (_in : In64 n)  (w : World)  :
    Calls Try.prog 7 #[.agg #[.int .i64 ax, .int .i64 ay, .int .i64 bx, .int .i64 b_y, .int .i64 cx, .int .i64 cy, .int .i64 dx, .int .i64 dy, .int .i64 n]] w fun e w' => e = .returned (.bool true) ∧ Below w.heap.size w w' := by

  have HP0 := Lib.hid hP0
  clear hP0
  have HP1 := Lib.hid hP1
  clear hP1
  have HP2 := Lib.hid hP2
  clear hP2
  have HP3 := Lib.hid hP3
  clear hP3
  have HP4 := Lib.hid hP4
  clear hP4
  have HP5 := Lib.hid hP5
  clear hP5
  have HP6 := Lib.hid hP6
  clear hP6
  have HP7 := Lib.hid hP7
  clear hP7
  have HP8 := Lib.hid hP8
  clear hP8
  have HP9 := Lib.hid hP9
  clear hP9
  have HP10 := Lib.hid hP10
  clear hP10
  have HP11 := Lib.hid hP11
  clear hP11
  have HP12 := Lib.hid hP12
  clear hP12
  have HP13 := Lib.hid hP13
  clear hP13
  have HP14 := Lib.hid hP14
  clear hP14
  have HP15 := Lib.hid hP15
  clear hP15
  have HP16 := Lib.hid hP16
  clear hP16
  have HP17 := Lib.hid hP17
  clear hP17
  have HP18 := Lib.hid hP18
  clear hP18
  have HP19 := Lib.hid hP19
  clear hP19
  have HP20 := Lib.hid hP20
  clear hP20
  have HP21 := Lib.hid hP21
  clear hP21
  have HP22 := Lib.hid hP22
  clear hP22
  have HP23 := Lib.hid hP23
  clear hP23
  have nP24 : ¬ cx = dx := by simpa using hP24
  have HP25 := Lib.hid hP25
  clear hP25
  go_enter Try.func7, Try.ntmps7
  go_wp2_with fail
  first | refine calls_w ?_ | refine name_world ?_ | refine list_world ?_ | refine post_world ?_
  intro V1 hV1
  have hn : Below w.heap.size w V1 := by rw [hV1]; exact below_a1 _ _
  have nhb0 := hn
  have k1 : Blk V1 w.heap.size #[.int .i64 ax, .int .i64 ay, .int .i64 bx, .int .i64 b_y, .int .i64 cx, .int .i64 cy, .int .i64 dx, .int .i64 dy, .int .i64 n] 79 := by rw [hV1]; exact (Blk.new _ _ _)
  clear hV1
  have hb0 := nhb0
  clear nhb0
  have c1_0 : V1.cell? ⟨w.heap.size, 0, none⟩ = some (.int .i64 ax) := k1.cell 0
  have c1_1 : V1.cell? ⟨w.heap.size, 1, none⟩ = some (.int .i64 ay) := k1.cell 1
  have c1_2 : V1.cell? ⟨w.heap.size, 2, none⟩ = some (.int .i64 bx) := k1.cell 2
  have c1_3 : V1.cell? ⟨w.heap.size, 3, none⟩ = some (.int .i64 b_y) := k1.cell 3
  have c1_4 : V1.cell? ⟨w.heap.size, 4, none⟩ = some (.int .i64 cx) := k1.cell 4
  have c1_5 : V1.cell? ⟨w.heap.size, 5, none⟩ = some (.int .i64 cy) := k1.cell 5
  have c1_6 : V1.cell? ⟨w.heap.size, 6, none⟩ = some (.int .i64 dx) := k1.cell 6
  have c1_7 : V1.cell? ⟨w.heap.size, 7, none⟩ = some (.int .i64 dy) := k1.cell 7
  have c1_8 : V1.cell? ⟨w.heap.size, 8, none⟩ = some (.int .i64 n) := k1.cell 8
  have l1 := k1.lt
  have Kk1 := Lib.hid k1
  clear k1
  refine Stay.wp_region_FG3 11 8 9 10 [(0, 0), (0, 1), (0, 2), (0, 3), (0, 4), (0, 5), (0, 6), (0, 7)] [(1, 11), (1, 12), (1, 13), (0, 14)] (by kernel_rfl) (by kernel_rfl) (fun _ _ d _ _ => by cases d <;> exact Iff.rfl) rfl rfl rfl rfl alPxL5_0 rfl rfl rfl alPxL5_1 rfl rfl rfl alPxL5_1 ?_
  have hb : Below V1.heap.size V1 V1.drew := (Below.refl _ _).drew
  iterate 8
    refine wpFG_take0 rfl rfl ?_
    go_big_quiet_step (rfl)
    refine wpQuiet_nil ?_
  refine wpFG_nil ?_
  clear hb
  rintro w1 hg hb b1 b2 b3 hne ⟨lb1, nb1⟩ ⟨lb2, nb2⟩ ⟨lb3, nb3⟩
  clear hg
  simp only [Act.put, ptrTo, List.setIfInBounds_toArray, List.set_cons_succ, List.set_cons_zero]
  have m1 : Blk w1 b1 #[.int .i64 0, .int .i64 0, .int .i64 0, .int .i64 0] 50 := nb1
  have mc1_0 : w1.cell? ⟨b1, 0, none⟩ = some (.int .i64 0) := m1.cell 0
  have mf1_0 := m1.free 0
  have mc1_1 : w1.cell? ⟨b1, 1, none⟩ = some (.int .i64 0) := m1.cell 1
  have mf1_1 := m1.free 1
  have mc1_2 : w1.cell? ⟨b1, 2, none⟩ = some (.int .i64 0) := m1.cell 2
  have mf1_2 := m1.free 2
  have mc1_3 : w1.cell? ⟨b1, 3, none⟩ = some (.int .i64 0) := m1.cell 3
  have mf1_3 := m1.free 3
  have m2 : Blk w1 b2 #[.int .i64 0, .int .i64 0] 24 := nb2
  have mc2_0 : w1.cell? ⟨b2, 0, none⟩ = some (.int .i64 0) := m2.cell 0
  have mf2_0 := m2.free 0
  have mc2_1 : w1.cell? ⟨b2, 1, none⟩ = some (.int .i64 0) := m2.cell 1
  have mf2_1 := m2.free 1
  have m3 : Blk w1 b3 #[.int .i64 0, .int .i64 0] 24 := nb3
  have mc3_0 : w1.cell? ⟨b3, 0, none⟩ = some (.int .i64 0) := m3.cell 0
  have mf3_0 := m3.free 0
  have mc3_1 : w1.cell? ⟨b3, 1, none⟩ = some (.int .i64 0) := m3.cell 1
  have mf3_1 := m3.free 1
  refine wpG_do1 rfl ?_
  intro K hK
  go_wp2_with fail
  refine hK.out _ _ (up_iff.2 (by repeat' (first | with_reducible refine Below.setCell ?_ ?_ _ | with_reducible exact hb | with_reducible exact lb1 | with_reducible exact lb2 | with_reducible exact lb3))) ?_
  clear hK K
  refine wpG_do1 rfl ?_
  intro K hK
  go_wp2_with fail
  refine hK.out _ _ (up_iff.2 (by repeat' (first | with_reducible refine Below.setCell ?_ ?_ _ | with_reducible exact hb | with_reducible exact lb1 | with_reducible exact lb2 | with_reducible exact lb3))) ?_
  clear hK K
  refine wpG_do1 rfl ?_
  intro K hK
  go_wp2_with fail
  refine hK.out _ _ (up_iff.2 (by repeat' (first | with_reducible refine Below.setCell ?_ ?_ _ | with_reducible exact hb | with_reducible exact lb1 | with_reducible exact lb2 | with_reducible exact lb3))) ?_
  clear hK K
  refine wpG_take0 rfl rfl ?_
  go_big_quiet_step (rfl)
  refine wpQuiet_nil ?_
  refine wpG_nil ?_
  refine list_world ?_
  intro U2 hU2
  clear c1_0 c1_1 c1_2 c1_3 c1_4 c1_5 c1_6 c1_7 c1_8 l1
  have D1 := Lib.hid Kk1.out.lt
  have D2 := Lib.hid hb0.size
  have D3 := Lib.hid lb1
  have D4 := Lib.hid lb2
  have D5 := Lib.hid lb3
  have D6 := Lib.hid hne
  have k1 : Blk U2 w.heap.size #[.int .i64 ax, .int .i64 ay, .int .i64 bx, .int .i64 b_y, .int .i64 cx, .int .i64 cy, .int .i64 dx, .int .i64 dy, .int .i64 n] 79 := by rw [hU2]; exact (blk_setL (blk_setL (blk_setL (Kk1.out.of hb) (by have := D1.out; have := D3.out; omega) 0 [.int .i64 ax, .int .i64 ay, .int .i64 bx, .int .i64 b_y]) (by have := D1.out; have := D4.out; omega) 0 [.int .i64 cx, .int .i64 cy]) (by have := D1.out; have := D5.out; omega) 0 [.int .i64 dx, .int .i64 dy])
  have k2 : Blk U2 b1 #[.int .i64 ax, .int .i64 ay, .int .i64 bx, .int .i64 b_y] 50 := by rw [hU2]; exact (blk_setL (blk_setL (blk_full _ [.int .i64 ax, .int .i64 ay, .int .i64 bx, .int .i64 b_y] m1 rfl) (by have := D6.out; omega) 0 [.int .i64 cx, .int .i64 cy]) (by have := D6.out; omega) 0 [.int .i64 dx, .int .i64 dy])
  have k3 : Blk U2 b2 #[.int .i64 cx, .int .i64 cy] 24 := by rw [hU2]; exact (blk_setL (blk_full _ [.int .i64 cx, .int .i64 cy] (blk_setL m2 (by have := D6.out; omega) 0 [.int .i64 ax, .int .i64 ay, .int .i64 bx, .int .i64 b_y]) rfl) (by have := D6.out; omega) 0 [.int .i64 dx, .int .i64 dy])
  have k4 : Blk U2 b3 #[.int .i64 dx, .int .i64 dy] 24 := by rw [hU2]; exact (blk_full _ [.int .i64 dx, .int .i64 dy] (blk_setL (blk_setL m3 (by have := D6.out; omega) 0 [.int .i64 ax, .int .i64 ay, .int .i64 bx, .int .i64 b_y]) (by have := D6.out; omega) 0 [.int .i64 cx, .int .i64 cy]) rfl)
  replace hb0 : Below w.heap.size w U2 := by rw [hU2]; exact (blw_setL (blw_setL (blw_setL (hb0.trans (hb.mono hb0.size)) (by have := D2.out; have := D3.out; omega) 0 [.int .i64 ax, .int .i64 ay, .int .i64 bx, .int .i64 b_y]) (by have := D2.out; have := D4.out; omega) 0 [.int .i64 cx, .int .i64 cy]) (by have := D2.out; have := D5.out; omega) 0 [.int .i64 dx, .int .i64 dy])
  clear hU2 hb Kk1 m1 nb1 lb1 mc1_0 mf1_0 mc1_1 mf1_1 mc1_2 mf1_2 mc1_3 mf1_3 m2 nb2 lb2 mc2_0 mf2_0 mc2_1 mf2_1 m3 nb3 lb3 mc3_0 mf3_0 mc3_1 mf3_1 hne
  generalize b1 = q2 at *
  generalize b2 = q3 at *
  generalize b3 = q4 at *
  have c2_0 : U2.cell? ⟨q2, 0, none⟩ = some (.int .i64 ax) := k2.cell 0
  have c2_1 : U2.cell? ⟨q2, 1, none⟩ = some (.int .i64 ay) := k2.cell 1
  have c2_2 : U2.cell? ⟨q2, 2, none⟩ = some (.int .i64 bx) := k2.cell 2
  have c2_3 : U2.cell? ⟨q2, 3, none⟩ = some (.int .i64 b_y) := k2.cell 3
  have l2 := k2.lt
  have c3_0 : U2.cell? ⟨q3, 0, none⟩ = some (.int .i64 cx) := k3.cell 0
  have c3_1 : U2.cell? ⟨q3, 1, none⟩ = some (.int .i64 cy) := k3.cell 1
  have l3 := k3.lt
  go_wp2_with fail
  clear c2_0 c2_1 c2_2 c2_3 l2 c3_0 c3_1 l3
  refine (cut_v ax ay bx b_y cx cy n xfn xfd xtn xtd xfo true true HP0.out HP1.out HP2.out HP3.out HP4.out HP5.out HP12.out _iax _iay _ibx _ib_y _icx _icy _in _).mono ?_
  rintro e U3 ⟨rfl, hn⟩
  clear k1
  replace k2 := k2.of hn
  replace k3 := k3.of hn
  replace k4 := k4.of hn
  replace hb0 := hb0.trans (hn.mono hb0.size)
  clear hn
  have c2_0 : U3.cell? ⟨q2, 0, none⟩ = some (.int .i64 ax) := k2.cell 0
  have c2_1 : U3.cell? ⟨q2, 1, none⟩ = some (.int .i64 ay) := k2.cell 1
  have c2_2 : U3.cell? ⟨q2, 2, none⟩ = some (.int .i64 bx) := k2.cell 2
  have c2_3 : U3.cell? ⟨q2, 3, none⟩ = some (.int .i64 b_y) := k2.cell 3
  have l2 := k2.lt
  have c4_0 : U3.cell? ⟨q4, 0, none⟩ = some (.int .i64 dx) := k4.cell 0
  have c4_1 : U3.cell? ⟨q4, 1, none⟩ = some (.int .i64 dy) := k4.cell 1
  have l4 := k4.lt
  have pr2_5 : q2 ≠ U3.heap.size := (by have := k2.lt; omega)
  have pr4_5 : q4 ≠ U3.heap.size := (by have := k4.lt; omega)
  go_wp2_with (first | ((with_reducible refine stRow (U3.heap.size) #[.int .u64 (wd0 xfn), .int .u64 (wd1 xfn), .int .u64 (wd2 xfn), .int .u64 (wd3 xfn), .int .u64 (wd0 xfd), .int .u64 (wd1 xfd), .int .u64 (wd2 xfd), .int .u64 (wd3 xfd), .int .u64 (wd0 xtn), .int .u64 (wd1 xtn), .int .u64 (wd2 xtn), .int .u64 (wd3 xtn), .int .u64 (wd0 xtd), .int .u64 (wd1 xtd), .int .u64 (wd2 xtd), .int .u64 (wd3 xtd), .bool xfo, .bool true] _ _ (Blk.new _ _ _) ?_ ?_ ?_ ?_ ?_ ?_); rfl; rfl; (as_aux_lemma => kernel_rfl); rfl; (as_aux_lemma => kernel_rfl); simp only [Act.put]))
  clear c2_0 c2_1 c2_2 c2_3 l2 c4_0 c4_1 l4 pr2_5 pr4_5
  first | refine calls_w ?_ | refine name_world ?_ | refine list_world ?_ | refine post_world ?_
  intro V4 hV4
  rw [World.setRow_alloc_new] at hV4
  have D7 := Lib.hid k2.lt
  have D8 := Lib.hid k3.lt
  have D9 := Lib.hid k4.lt
  have D10 := Lib.hid hb0.size
  have hn : Below U3.heap.size U3 V4 := by rw [hV4]; exact below_a1 _ _
  have nk2 := k2.of hn
  have nk3 := k3.of hn
  have nk4 := k4.of hn
  have nhb0 := hb0.trans (hn.mono hb0.size)
  clear hn
  have k5 : Blk V4 U3.heap.size #[.int .u64 (wd0 xfn), .int .u64 (wd1 xfn), .int .u64 (wd2 xfn), .int .u64 (wd3 xfn), .int .u64 (wd0 xfd), .int .u64 (wd1 xfd), .int .u64 (wd2 xfd), .int .u64 (wd3 xfd), .int .u64 (wd0 xtn), .int .u64 (wd1 xtn), .int .u64 (wd2 xtn), .int .u64 (wd3 xtn), .int .u64 (wd0 xtd), .int .u64 (wd1 xtd), .int .u64 (wd2 xtd), .int .u64 (wd3 xtd), .bool xfo, .bool true] 54 := by rw [hV4]; exact (Blk.new _ _ _)
  clear k2 k3 k4
  clear hb0
  clear hV4
  have k2 := nk2
  clear nk2
  have k3 := nk3
  clear nk3
  have k4 := nk4
  clear nk4
  have hb0 := nhb0
  clear nhb0
  refine (cut_v ax ay bx b_y dx dy n yfn yfd ytn ytd yfo yto true HP6.out HP7.out HP8.out HP9.out HP10.out HP11.out HP13.out _iax _iay _ibx _ib_y _idx _idy _in _).mono ?_
  rintro e U5 ⟨rfl, hn⟩
  replace k2 := k2.of hn
  replace k3 := k3.of hn
  replace k4 := k4.of hn
  replace k5 := k5.of hn
  replace hb0 := hb0.trans (hn.mono hb0.size)
  clear hn
  go_wp2_with (first | ((with_reducible refine stRow (U5.heap.size) #[.int .u64 (wd0 yfn), .int .u64 (wd1 yfn), .int .u64 (wd2 yfn), .int .u64 (wd3 yfn), .int .u64 (wd0 yfd), .int .u64 (wd1 yfd), .int .u64 (wd2 yfd), .int .u64 (wd3 yfd), .int .u64 (wd0 ytn), .int .u64 (wd1 ytn), .int .u64 (wd2 ytn), .int .u64 (wd3 ytn), .int .u64 (wd0 ytd), .int .u64 (wd1 ytd), .int .u64 (wd2 ytd), .int .u64 (wd3 ytd), .bool yfo, .bool yto] _ _ (Blk.new _ _ _) ?_ ?_ ?_ ?_ ?_ ?_); rfl; rfl; (as_aux_lemma => kernel_rfl); rfl; (as_aux_lemma => kernel_rfl); simp only [Act.put]) | ((with_reducible refine ldRow (U3.heap.size) #[.int .u64 (wd0 xfn), .int .u64 (wd1 xfn), .int .u64 (wd2 xfn), .int .u64 (wd3 xfn), .int .u64 (wd0 xfd), .int .u64 (wd1 xfd), .int .u64 (wd2 xfd), .int .u64 (wd3 xfd), .int .u64 (wd0 xtn), .int .u64 (wd1 xtn), .int .u64 (wd2 xtn), .int .u64 (wd3 xtn), .int .u64 (wd0 xtd), .int .u64 (wd1 xtd), .int .u64 (wd2 xtd), .int .u64 (wd3 xtd), .bool xfo, .bool true] _ (blk_rowo (k5.alloc _) (by have := k5.lt; omega) _) ?_ ?_ ?_ ?_); rfl; exact ⟨_, rfl, rfl⟩; (as_aux_lemma => kernel_rfl); simp only [Act.put, List.setIfInBounds_toArray, List.set_cons_succ, List.set_cons_zero]) | ((with_reducible refine ldRow (U5.heap.size) #[.int .u64 (wd0 yfn), .int .u64 (wd1 yfn), .int .u64 (wd2 yfn), .int .u64 (wd3 yfn), .int .u64 (wd0 yfd), .int .u64 (wd1 yfd), .int .u64 (wd2 yfd), .int .u64 (wd3 yfd), .int .u64 (wd0 ytn), .int .u64 (wd1 ytn), .int .u64 (wd2 ytn), .int .u64 (wd3 ytn), .int .u64 (wd0 ytd), .int .u64 (wd1 ytd), .int .u64 (wd2 ytd), .int .u64 (wd3 ytd), .bool yfo, .bool yto] _ (blk_row (Blk.new _ _ _) _) ?_ ?_ ?_ ?_); rfl; exact ⟨_, rfl, rfl⟩; (as_aux_lemma => kernel_rfl); simp only [Act.put, List.setIfInBounds_toArray, List.set_cons_succ, List.set_cons_zero]))
  first | refine calls_w ?_ | refine name_world ?_ | refine list_world ?_ | refine post_world ?_
  intro V6 hV6
  rw [World.setRow_alloc_new] at hV6
  have D11 := Lib.hid k2.lt
  have D12 := Lib.hid k3.lt
  have D13 := Lib.hid k4.lt
  have D14 := Lib.hid k5.lt
  have D15 := Lib.hid hb0.size
  have hn : Below U5.heap.size U5 V6 := by rw [hV6]; exact below_a1 _ _
  have nk2 := k2.of hn
  have nk3 := k3.of hn
  have nk4 := k4.of hn
  have nk5 := k5.of hn
  have nhb0 := hb0.trans (hn.mono hb0.size)
  clear hn
  have k6 : Blk V6 U5.heap.size #[.int .u64 (wd0 yfn), .int .u64 (wd1 yfn), .int .u64 (wd2 yfn), .int .u64 (wd3 yfn), .int .u64 (wd0 yfd), .int .u64 (wd1 yfd), .int .u64 (wd2 yfd), .int .u64 (wd3 yfd), .int .u64 (wd0 ytn), .int .u64 (wd1 ytn), .int .u64 (wd2 ytn), .int .u64 (wd3 ytn), .int .u64 (wd0 ytd), .int .u64 (wd1 ytd), .int .u64 (wd2 ytd), .int .u64 (wd3 ytd), .bool yfo, .bool yto] 54 := by rw [hV6]; exact (Blk.new _ _ _)
  clear k2 k3 k4 k5
  clear hb0
  clear hV6
  have k2 := nk2
  clear nk2
  have k3 := nk3
  clear nk3
  have k4 := nk4
  clear nk4
  have k5 := nk5
  clear nk5
  have hb0 := nhb0
  clear nhb0
  refine (pxAh_is xfn xfd xtn xtd xfo true yfn yfd ytn ytd yfo yto (-1) HP14.out _ixfn _ixfd _ixtn _ixtd _iyfn _iyfd _iytn _iytd  _).mono ?_
  rintro e U7 ⟨rfl, hn⟩
  replace k2 := k2.of hn
  replace k3 := k3.of hn
  replace k4 := k4.of hn
  replace k5 := k5.of hn
  replace k6 := k6.of hn
  replace hb0 := hb0.trans (hn.mono hb0.size)
  clear hn
  go_wp2_with (first | ((with_reducible refine ldRow (U5.heap.size) #[.int .u64 (wd0 yfn), .int .u64 (wd1 yfn), .int .u64 (wd2 yfn), .int .u64 (wd3 yfn), .int .u64 (wd0 yfd), .int .u64 (wd1 yfd), .int .u64 (wd2 yfd), .int .u64 (wd3 yfd), .int .u64 (wd0 ytn), .int .u64 (wd1 ytn), .int .u64 (wd2 ytn), .int .u64 (wd3 ytn), .int .u64 (wd0 ytd), .int .u64 (wd1 ytd), .int .u64 (wd2 ytd), .int .u64 (wd3 ytd), .bool yfo, .bool yto] _ k6 ?_ ?_ ?_ ?_); rfl; exact ⟨_, rfl, rfl⟩; (as_aux_lemma => kernel_rfl); simp only [Act.put, List.setIfInBounds_toArray, List.set_cons_succ, List.set_cons_zero]) | ((with_reducible refine ldRow (U3.heap.size) #[.int .u64 (wd0 xfn), .int .u64 (wd1 xfn), .int .u64 (wd2 xfn), .int .u64 (wd3 xfn), .int .u64 (wd0 xfd), .int .u64 (wd1 xfd), .int .u64 (wd2 xfd), .int .u64 (wd3 xfd), .int .u64 (wd0 xtn), .int .u64 (wd1 xtn), .int .u64 (wd2 xtn), .int .u64 (wd3 xtn), .int .u64 (wd0 xtd), .int .u64 (wd1 xtd), .int .u64 (wd2 xtd), .int .u64 (wd3 xtd), .bool xfo, .bool true] _ k5 ?_ ?_ ?_ ?_); rfl; exact ⟨_, rfl, rfl⟩; (as_aux_lemma => kernel_rfl); simp only [Act.put, List.setIfInBounds_toArray, List.set_cons_succ, List.set_cons_zero]))
  refine (pxAh_is yfn yfd ytn ytd yfo yto xfn xfd xtn xtd xfo true 1 HP15.out _iyfn _iyfd _iytn _iytd _ixfn _ixfd _ixtn _ixtd  _).mono ?_
  rintro e U8 ⟨rfl, hn⟩
  replace k2 := k2.of hn
  replace k3 := k3.of hn
  replace k4 := k4.of hn
  replace k5 := k5.of hn
  replace k6 := k6.of hn
  replace hb0 := hb0.trans (hn.mono hb0.size)
  clear hn
  obtain ⟨z1, hz1⟩ : ∃ o_o : Bool, (ax == bx) = o_o := ⟨_, rfl⟩
  cases z1
  · have nz1 : ¬ ax = bx := by simpa using hz1
    have nz1_ : ¬ bx = ax := fun e_ => nz1 e_.symm
    have c2_0 : U8.cell? ⟨q2, 0, none⟩ = some (.int .i64 ax) := k2.cell 0
    have c2_1 : U8.cell? ⟨q2, 1, none⟩ = some (.int .i64 ay) := k2.cell 1
    have c2_2 : U8.cell? ⟨q2, 2, none⟩ = some (.int .i64 bx) := k2.cell 2
    have c2_3 : U8.cell? ⟨q2, 3, none⟩ = some (.int .i64 b_y) := k2.cell 3
    have l2 := k2.lt
    have c3_0 : U8.cell? ⟨q3, 0, none⟩ = some (.int .i64 cx) := k3.cell 0
    have c3_1 : U8.cell? ⟨q3, 1, none⟩ = some (.int .i64 cy) := k3.cell 1
    have l3 := k3.lt
    have c4_0 : U8.cell? ⟨q4, 0, none⟩ = some (.int .i64 dx) := k4.cell 0
    have c4_1 : U8.cell? ⟨q4, 1, none⟩ = some (.int .i64 dy) := k4.cell 1
    have l4 := k4.lt
    go_wp2_with fail
    clear c2_0 c2_1 c2_2 c2_3 l2 c3_0 c3_1 l3 c4_0 c4_1 l4
    clear k2 k3 k4
    have c5_8 : U8.cell? ⟨U3.heap.size, 8, none⟩ = some (.int .u64 (wd0 xtn)) := k5.cell 8
    have c5_9 : U8.cell? ⟨U3.heap.size, 9, none⟩ = some (.int .u64 (wd1 xtn)) := k5.cell 9
    have c5_10 : U8.cell? ⟨U3.heap.size, 10, none⟩ = some (.int .u64 (wd2 xtn)) := k5.cell 10
    have c5_11 : U8.cell? ⟨U3.heap.size, 11, none⟩ = some (.int .u64 (wd3 xtn)) := k5.cell 11
    have c5_12 : U8.cell? ⟨U3.heap.size, 12, none⟩ = some (.int .u64 (wd0 xtd)) := k5.cell 12
    have c5_13 : U8.cell? ⟨U3.heap.size, 13, none⟩ = some (.int .u64 (wd1 xtd)) := k5.cell 13
    have c5_14 : U8.cell? ⟨U3.heap.size, 14, none⟩ = some (.int .u64 (wd2 xtd)) := k5.cell 14
    have c5_15 : U8.cell? ⟨U3.heap.size, 15, none⟩ = some (.int .u64 (wd3 xtd)) := k5.cell 15
    have l5 := k5.lt
    have c6_0 : U8.cell? ⟨U5.heap.size, 0, none⟩ = some (.int .u64 (wd0 yfn)) := k6.cell 0
    have c6_1 : U8.cell? ⟨U5.heap.size, 1, none⟩ = some (.int .u64 (wd1 yfn)) := k6.cell 1
    have c6_2 : U8.cell? ⟨U5.heap.size, 2, none⟩ = some (.int .u64 (wd2 yfn)) := k6.cell 2
    have c6_3 : U8.cell? ⟨U5.heap.size, 3, none⟩ = some (.int .u64 (wd3 yfn)) := k6.cell 3
    have c6_4 : U8.cell? ⟨U5.heap.size, 4, none⟩ = some (.int .u64 (wd0 yfd)) := k6.cell 4
    have c6_5 : U8.cell? ⟨U5.heap.size, 5, none⟩ = some (.int .u64 (wd1 yfd)) := k6.cell 5
    have c6_6 : U8.cell? ⟨U5.heap.size, 6, none⟩ = some (.int .u64 (wd2 yfd)) := k6.cell 6
    have c6_7 : U8.cell? ⟨U5.heap.size, 7, none⟩ = some (.int .u64 (wd3 yfd)) := k6.cell 7
    have l6 := k6.lt
    have Kk5 := Lib.hid k5
    clear k5
    have Kk6 := Lib.hid k6
    clear k6
    refine wp_region_up U8.heap.size 5 [(true, 0), (true, 1), (true, 3), (true, 4), (false, 2)] (by kernel_rfl) (by kernel_rfl) (fun _ _ d _ _ h => by cases d <;> exact h) ?_
    have hb : Below U8.heap.size U8 U8.drew := (Below.refl _ _).drew
    iterate 4
      refine wpS_takeL rfl rfl ?_
      go_big_quiet_step (rfl)
      refine wpQuiet_nil ?_
    refine wpS_doL rfl ?_
    intro K hK
    go_wp2_with ((go_at_call 38; (with_reducible refine (p15rat_is xtn xtd xtn xtd HP16.out HP17.out _ixtn _ixtd  _).mono ?_); rintro e w2 ⟨bn1, ba1, bl1, bc1, bn2, ba2, bl2, bc2, rfl, hbm1, hbm2, hn⟩; have HB1 := Lib.hid hbm1; have HB2 := Lib.hid hbm2; clear hbm1 hbm2))
    replace hb := hb.trans (hn.mono hb.size)
    refine hK.out _ _ (up_iff.2 hb) ?_
    clear hK K
    clear hn
    refine wpS_nil ?_
    simp only [List.drop_succ_cons, List.drop_zero]
    first | refine calls_w ?_ | refine name_world ?_ | refine list_world ?_ | refine post_world ?_
    intro U9 hU9
    first | (subst hU9; have u_ := U9; clear u_) | (rw [← hU9] at hb; clear hU9)
    clear c5_8 c5_9 c5_10 c5_11 c5_12 c5_13 c5_14 c5_15 l5 c6_0 c6_1 c6_2 c6_3 c6_4 c6_5 c6_6 c6_7 l6
    have k5 := Kk5.out.of hb
    clear Kk5
    have k6 := Kk6.out.of hb
    clear Kk6
    replace hb0 := hb0.trans (hb.mono hb0.size)
    clear hb
    go_wp2_with fail
    refine (p15rat_is yfn yfd yfn yfd HP22.out HP23.out _iyfn _iyfd  _).mono ?_
    rintro e U10 ⟨bn3, ba3, bl3, bc3, bn4, ba4, bl4, bc4, rfl, hbm3, hbm4, hn⟩
    replace k5 := k5.of hn
    replace k6 := k6.of hn
    replace HB1 := Lib.hid (HB1.out.of hn)
    replace HB2 := Lib.hid (HB2.out.of hn)
    replace hb0 := hb0.trans (hn.mono hb0.size)
    clear hn
    have HB3 := Lib.hid hbm3
    have HB4 := Lib.hid hbm4
    clear hbm3 hbm4
    go_wp2_with fail
    refine (rrC_is xtn xtd yfn yfd 0 HP25.out  bn1 ba1 bl1 bc1 bn2 ba2 bl2 bc2 bn3 ba3 bl3 bc3 bn4 ba4 bl4 bc4 _ HB1.out HB2.out HB3.out HB4.out).mono ?_
    rintro e U11 ⟨rfl, hn⟩
    clear HB1 HB2 HB3 HB4
    replace k5 := k5.of hn
    replace k6 := k6.of hn
    replace hb0 := hb0.trans (hn.mono hb0.size)
    clear hn
    have c5_17 : U11.cell? ⟨U3.heap.size, 17, none⟩ = some (.bool true) := k5.cell 17
    have l5 := k5.lt
    go_wp2_with fail
    clear c5_17 l5
    refine (p15awake_any _).mono ?_
    rintro e U12 ⟨rfl, hn⟩
    clear k5 k6
    replace hb0 := hb0.trans (hn.mono hb0.size)
    clear hn
    go_wp2
    first | go_ret | go_ret2
    exact ⟨by first | rfl | (simp; done) | (simp; assumption), hb0⟩
  · have qz1 : ax = bx := by simpa using hz1
    clear hz1
    subst qz1
    obtain ⟨z2, hz2⟩ : ∃ o_o : Bool, (ay == b_y) = o_o := ⟨_, rfl⟩
    cases z2
    · have nz2 : ¬ ay = b_y := by simpa using hz2
      have nz2_ : ¬ b_y = ay := fun e_ => nz2 e_.symm
      have c2_0 : U8.cell? ⟨q2, 0, none⟩ = some (.int .i64 ax) := k2.cell 0
      have c2_1 : U8.cell? ⟨q2, 1, none⟩ = some (.int .i64 ay) := k2.cell 1
      have c2_2 : U8.cell? ⟨q2, 2, none⟩ = some (.int .i64 ax) := k2.cell 2
      have c2_3 : U8.cell? ⟨q2, 3, none⟩ = some (.int .i64 b_y) := k2.cell 3
      have l2 := k2.lt
      have c3_0 : U8.cell? ⟨q3, 0, none⟩ = some (.int .i64 cx) := k3.cell 0
      have c3_1 : U8.cell? ⟨q3, 1, none⟩ = some (.int .i64 cy) := k3.cell 1
      have l3 := k3.lt
      have c4_0 : U8.cell? ⟨q4, 0, none⟩ = some (.int .i64 dx) := k4.cell 0
      have c4_1 : U8.cell? ⟨q4, 1, none⟩ = some (.int .i64 dy) := k4.cell 1
      have l4 := k4.lt
      go_wp2_with fail
      clear c2_0 c2_1 c2_2 c2_3 l2 c3_0 c3_1 l3 c4_0 c4_1 l4
      clear k2 k3 k4
      have c5_8 : U8.cell? ⟨U3.heap.size, 8, none⟩ = some (.int .u64 (wd0 xtn)) := k5.cell 8
      have c5_9 : U8.cell? ⟨U3.heap.size, 9, none⟩ = some (.int .u64 (wd1 xtn)) := k5.cell 9
      have c5_10 : U8.cell? ⟨U3.heap.size, 10, none⟩ = some (.int .u64 (wd2 xtn)) := k5.cell 10
      have c5_11 : U8.cell? ⟨U3.heap.size, 11, none⟩ = some (.int .u64 (wd3 xtn)) := k5.cell 11
      have c5_12 : U8.cell? ⟨U3.heap.size, 12, none⟩ = some (.int .u64 (wd0 xtd)) := k5.cell 12
      have c5_13 : U8.cell? ⟨U3.heap.size, 13, none⟩ = some (.int .u64 (wd1 xtd)) := k5.cell 13
      have c5_14 : U8.cell? ⟨U3.heap.size, 14, none⟩ = some (.int .u64 (wd2 xtd)) := k5.cell 14
      have c5_15 : U8.cell? ⟨U3.heap.size, 15, none⟩ = some (.int .u64 (wd3 xtd)) := k5.cell 15
      have l5 := k5.lt
      have c6_0 : U8.cell? ⟨U5.heap.size, 0, none⟩ = some (.int .u64 (wd0 yfn)) := k6.cell 0
      have c6_1 : U8.cell? ⟨U5.heap.size, 1, none⟩ = some (.int .u64 (wd1 yfn)) := k6.cell 1
      have c6_2 : U8.cell? ⟨U5.heap.size, 2, none⟩ = some (.int .u64 (wd2 yfn)) := k6.cell 2
      have c6_3 : U8.cell? ⟨U5.heap.size, 3, none⟩ = some (.int .u64 (wd3 yfn)) := k6.cell 3
      have c6_4 : U8.cell? ⟨U5.heap.size, 4, none⟩ = some (.int .u64 (wd0 yfd)) := k6.cell 4
      have c6_5 : U8.cell? ⟨U5.heap.size, 5, none⟩ = some (.int .u64 (wd1 yfd)) := k6.cell 5
      have c6_6 : U8.cell? ⟨U5.heap.size, 6, none⟩ = some (.int .u64 (wd2 yfd)) := k6.cell 6
      have c6_7 : U8.cell? ⟨U5.heap.size, 7, none⟩ = some (.int .u64 (wd3 yfd)) := k6.cell 7
      have l6 := k6.lt
      have Kk5 := Lib.hid k5
      clear k5
      have Kk6 := Lib.hid k6
      clear k6
      refine wp_region_up U8.heap.size 5 [(true, 0), (true, 1), (true, 3), (true, 4), (false, 2)] (by kernel_rfl) (by kernel_rfl) (fun _ _ d _ _ h => by cases d <;> exact h) ?_
      have hb : Below U8.heap.size U8 U8.drew := (Below.refl _ _).drew
      iterate 4
        refine wpS_takeL rfl rfl ?_
        go_big_quiet_step (rfl)
        refine wpQuiet_nil ?_
      refine wpS_doL rfl ?_
      intro K hK
      go_wp2_with ((go_at_call 38; (with_reducible refine (p15rat_is xtn xtd xtn xtd HP16.out HP17.out _ixtn _ixtd  _).mono ?_); rintro e w2 ⟨bn5, ba5, bl5, bc5, bn6, ba6, bl6, bc6, rfl, hbm5, hbm6, hn⟩; have HB5 := Lib.hid hbm5; have HB6 := Lib.hid hbm6; clear hbm5 hbm6))
      replace hb := hb.trans (hn.mono hb.size)
      refine hK.out _ _ (up_iff.2 hb) ?_
      clear hK K
      clear hn
      refine wpS_nil ?_
      simp only [List.drop_succ_cons, List.drop_zero]
      first | refine calls_w ?_ | refine name_world ?_ | refine list_world ?_ | refine post_world ?_
      intro U13 hU13
      first | (subst hU13; have u_ := U13; clear u_) | (rw [← hU13] at hb; clear hU13)
      clear c5_8 c5_9 c5_10 c5_11 c5_12 c5_13 c5_14 c5_15 l5 c6_0 c6_1 c6_2 c6_3 c6_4 c6_5 c6_6 c6_7 l6
      have k5 := Kk5.out.of hb
      clear Kk5
      have k6 := Kk6.out.of hb
      clear Kk6
      replace hb0 := hb0.trans (hb.mono hb0.size)
      clear hb
      go_wp2_with fail
      refine (p15rat_is yfn yfd yfn yfd HP22.out HP23.out _iyfn _iyfd  _).mono ?_
      rintro e U14 ⟨bn7, ba7, bl7, bc7, bn8, ba8, bl8, bc8, rfl, hbm7, hbm8, hn⟩
      replace k5 := k5.of hn
      replace k6 := k6.of hn
      replace HB5 := Lib.hid (HB5.out.of hn)
      replace HB6 := Lib.hid (HB6.out.of hn)
      replace hb0 := hb0.trans (hn.mono hb0.size)
      clear hn
      have HB7 := Lib.hid hbm7
      have HB8 := Lib.hid hbm8
      clear hbm7 hbm8
      go_wp2_with fail
      refine (rrC_is xtn xtd yfn yfd 0 HP25.out  bn5 ba5 bl5 bc5 bn6 ba6 bl6 bc6 bn7 ba7 bl7 bc7 bn8 ba8 bl8 bc8 _ HB5.out HB6.out HB7.out HB8.out).mono ?_
      rintro e U15 ⟨rfl, hn⟩
      clear HB5 HB6 HB7 HB8
      replace k5 := k5.of hn
      replace k6 := k6.of hn
      replace hb0 := hb0.trans (hn.mono hb0.size)
      clear hn
      have c5_17 : U15.cell? ⟨U3.heap.size, 17, none⟩ = some (.bool true) := k5.cell 17
      have l5 := k5.lt
      go_wp2_with fail
      clear c5_17 l5
      refine (p15awake_any _).mono ?_
      rintro e U16 ⟨rfl, hn⟩
      clear k5 k6
      replace hb0 := hb0.trans (hn.mono hb0.size)
      clear hn
      go_wp2
      first | go_ret | go_ret2
      exact ⟨by first | rfl | (simp; done) | (simp; assumption), hb0⟩
    · have qz2 : ay = b_y := by simpa using hz2
      clear hz2
      subst qz2
      have c2_0 : U8.cell? ⟨q2, 0, none⟩ = some (.int .i64 ax) := k2.cell 0
      have c2_1 : U8.cell? ⟨q2, 1, none⟩ = some (.int .i64 ay) := k2.cell 1
      have c2_2 : U8.cell? ⟨q2, 2, none⟩ = some (.int .i64 ax) := k2.cell 2
      have c2_3 : U8.cell? ⟨q2, 3, none⟩ = some (.int .i64 ay) := k2.cell 3
      have l2 := k2.lt
      go_wp2_with fail
      clear c2_0 c2_1 c2_2 c2_3 l2
      refine (p15awake_any _).mono ?_
      rintro e U17 ⟨rfl, hn⟩
      clear k2
      replace k3 := k3.of hn
      replace k4 := k4.of hn
      replace k5 := k5.of hn
      replace k6 := k6.of hn
      replace hb0 := hb0.trans (hn.mono hb0.size)
      clear hn
      go_wp2
      first | go_ret | go_ret2
      exact ⟨by first | rfl | (simp; done) | (simp; assumption), hb0⟩

set_option maxRecDepth 100000 in
set_option maxHeartbeats 4000000 in

theorem PAh_002 (ax : Int) (ay : Int) (bx : Int) (b_y : Int) (cx : Int) (cy : Int) (dx : Int) (dy : Int) (n : Int) (xfn : Int) (xfd : Int) (xtn : Int) (xtd : Int) (xfo : Bool) (xto : Bool) (yfn : Int) (yfd : Int) (ytn : Int) (ytd : Int) (yto : Bool)   (hP0 : cufn ax ay bx b_y cx cy n = xfn) (hP1 : cufd ax ay bx b_y cx cy n = xfd) (hP2 : cutn ax ay bx b_y cx cy n = xtn) (hP3 : cutd ax ay bx b_y cx cy n = xtd) (hP4 : cufo ax ay bx b_y cx cy n = xfo) (hP5 : cuto ax ay bx b_y cx cy n = xto) (hP6 : cufn ax ay bx b_y dx dy n = yfn) (hP7 : cufd ax ay bx b_y dx dy n = yfd) (hP8 : cutn ax ay bx b_y dx dy n = ytn) (hP9 : cutd ax ay bx b_y dx dy n = ytd) (hP10 : cufo ax ay bx b_y dx dy n = true) (hP11 : cuto ax ay bx b_y dx dy n = yto) (hP12 : cuk ax ay bx b_y cx cy n = true) (hP13 : cuk ax ay bx b_y dx dy n = true) (hP14 : pxA xfn xfd xtn xtd xfo xto yfn yfd ytn ytd true yto = (-1)) (hP15 : pxA yfn yfd ytn ytd true yto xfn xfd xtn xtd xfo xto = 1) (hP16 : p15n xtn xtd = xtn) (hP17 : p15d xtn xtd = xtd) (hP18 : p15n ytn ytd = ytn) (hP19 : p15d ytn ytd = ytd) (hP20 : p15n xfn xfd = xfn) (hP21 : p15d xfn xfd = xfd) (hP22 : p15n yfn yfd = yfn) (hP23 : p15d yfn yfd = yfd) (hP24 : (cx == dx) = false) (hP25 : rrC xtn xtd yfn yfd = 0) (_ixfn : InI xfn) (_ixfd : InI xfd) (_ixtn : InI xtn) (_ixtd : InI xtd) (_iyfn : InI yfn) (_iyfd : InI yfd) (_iytn : InI ytn) (_iytd : InI ytd) (_iax : In64 ax) (_iay : In64 ay) (_ibx : In64 bx) (_ib_y : In64 b_y) (_icx : In64 cx) (_icy : In64 cy) (_idx : In64 dx) (_idy : In64 dy) (_in : In64 n)  (w : World)  :
    Calls Try.prog 7 #[.agg #[.int .i64 ax, .int .i64 ay, .int .i64 bx, .int .i64 b_y, .int .i64 cx, .int .i64 cy, .int .i64 dx, .int .i64 dy, .int .i64 n]] w fun e w' => e = .returned (.bool true) ∧ Below w.heap.size w w' := by

  have HP0 := Lib.hid hP0
  clear hP0
  have HP1 := Lib.hid hP1
  clear hP1
  have HP2 := Lib.hid hP2
  clear hP2
  have HP3 := Lib.hid hP3
  clear hP3
  have HP4 := Lib.hid hP4
  clear hP4
  have HP5 := Lib.hid hP5
  clear hP5
  have HP6 := Lib.hid hP6
  clear hP6
  have HP7 := Lib.hid hP7
  clear hP7
  have HP8 := Lib.hid hP8
  clear hP8
  have HP9 := Lib.hid hP9
  clear hP9
  have HP10 := Lib.hid hP10
  clear hP10
  have HP11 := Lib.hid hP11
  clear hP11
  have HP12 := Lib.hid hP12
  clear hP12
  have HP13 := Lib.hid hP13
  clear hP13
  have HP14 := Lib.hid hP14
  clear hP14
  have HP15 := Lib.hid hP15
  clear hP15
  have HP16 := Lib.hid hP16
  clear hP16
  have HP17 := Lib.hid hP17
  clear hP17
  have HP18 := Lib.hid hP18
  clear hP18
  have HP19 := Lib.hid hP19
  clear hP19
  have HP20 := Lib.hid hP20
  clear hP20
  have HP21 := Lib.hid hP21
  clear hP21
  have HP22 := Lib.hid hP22
  clear hP22
  have HP23 := Lib.hid hP23
  clear hP23
  have nP24 : ¬ cx = dx := by simpa using hP24
  have HP25 := Lib.hid hP25
  clear hP25
  go_enter Try.func7, Try.ntmps7
  go_wp2_with fail
  first | refine calls_w ?_ | refine name_world ?_ | refine list_world ?_ | refine post_world ?_
  intro V1 hV1
  have hn : Below w.heap.size w V1 := by rw [hV1]; exact below_a1 _ _
  have nhb0 := hn
  have k1 : Blk V1 w.heap.size #[.int .i64 ax, .int .i64 ay, .int .i64 bx, .int .i64 b_y, .int .i64 cx, .int .i64 cy, .int .i64 dx, .int .i64 dy, .int .i64 n] 79 := by rw [hV1]; exact (Blk.new _ _ _)
  clear hV1
  have hb0 := nhb0
  clear nhb0
  have c1_0 : V1.cell? ⟨w.heap.size, 0, none⟩ = some (.int .i64 ax) := k1.cell 0
  have c1_1 : V1.cell? ⟨w.heap.size, 1, none⟩ = some (.int .i64 ay) := k1.cell 1
  have c1_2 : V1.cell? ⟨w.heap.size, 2, none⟩ = some (.int .i64 bx) := k1.cell 2
  have c1_3 : V1.cell? ⟨w.heap.size, 3, none⟩ = some (.int .i64 b_y) := k1.cell 3
  have c1_4 : V1.cell? ⟨w.heap.size, 4, none⟩ = some (.int .i64 cx) := k1.cell 4
  have c1_5 : V1.cell? ⟨w.heap.size, 5, none⟩ = some (.int .i64 cy) := k1.cell 5
  have c1_6 : V1.cell? ⟨w.heap.size, 6, none⟩ = some (.int .i64 dx) := k1.cell 6
  have c1_7 : V1.cell? ⟨w.heap.size, 7, none⟩ = some (.int .i64 dy) := k1.cell 7
  have c1_8 : V1.cell? ⟨w.heap.size, 8, none⟩ = some (.int .i64 n) := k1.cell 8
  have l1 := k1.lt
  have Kk1 := Lib.hid k1
  clear k1
  refine Stay.wp_region_FG3 11 8 9 10 [(0, 0), (0, 1), (0, 2), (0, 3), (0, 4), (0, 5), (0, 6), (0, 7)] [(1, 11), (1, 12), (1, 13), (0, 14)] (by kernel_rfl) (by kernel_rfl) (fun _ _ d _ _ => by cases d <;> exact Iff.rfl) rfl rfl rfl rfl alPxL5_0 rfl rfl rfl alPxL5_1 rfl rfl rfl alPxL5_1 ?_
  have hb : Below V1.heap.size V1 V1.drew := (Below.refl _ _).drew
  iterate 8
    refine wpFG_take0 rfl rfl ?_
    go_big_quiet_step (rfl)
    refine wpQuiet_nil ?_
  refine wpFG_nil ?_
  clear hb
  rintro w1 hg hb b1 b2 b3 hne ⟨lb1, nb1⟩ ⟨lb2, nb2⟩ ⟨lb3, nb3⟩
  clear hg
  simp only [Act.put, ptrTo, List.setIfInBounds_toArray, List.set_cons_succ, List.set_cons_zero]
  have m1 : Blk w1 b1 #[.int .i64 0, .int .i64 0, .int .i64 0, .int .i64 0] 50 := nb1
  have mc1_0 : w1.cell? ⟨b1, 0, none⟩ = some (.int .i64 0) := m1.cell 0
  have mf1_0 := m1.free 0
  have mc1_1 : w1.cell? ⟨b1, 1, none⟩ = some (.int .i64 0) := m1.cell 1
  have mf1_1 := m1.free 1
  have mc1_2 : w1.cell? ⟨b1, 2, none⟩ = some (.int .i64 0) := m1.cell 2
  have mf1_2 := m1.free 2
  have mc1_3 : w1.cell? ⟨b1, 3, none⟩ = some (.int .i64 0) := m1.cell 3
  have mf1_3 := m1.free 3
  have m2 : Blk w1 b2 #[.int .i64 0, .int .i64 0] 24 := nb2
  have mc2_0 : w1.cell? ⟨b2, 0, none⟩ = some (.int .i64 0) := m2.cell 0
  have mf2_0 := m2.free 0
  have mc2_1 : w1.cell? ⟨b2, 1, none⟩ = some (.int .i64 0) := m2.cell 1
  have mf2_1 := m2.free 1
  have m3 : Blk w1 b3 #[.int .i64 0, .int .i64 0] 24 := nb3
  have mc3_0 : w1.cell? ⟨b3, 0, none⟩ = some (.int .i64 0) := m3.cell 0
  have mf3_0 := m3.free 0
  have mc3_1 : w1.cell? ⟨b3, 1, none⟩ = some (.int .i64 0) := m3.cell 1
  have mf3_1 := m3.free 1
  refine wpG_do1 rfl ?_
  intro K hK
  go_wp2_with fail
  refine hK.out _ _ (up_iff.2 (by repeat' (first | with_reducible refine Below.setCell ?_ ?_ _ | with_reducible exact hb | with_reducible exact lb1 | with_reducible exact lb2 | with_reducible exact lb3))) ?_
  clear hK K
  refine wpG_do1 rfl ?_
  intro K hK
  go_wp2_with fail
  refine hK.out _ _ (up_iff.2 (by repeat' (first | with_reducible refine Below.setCell ?_ ?_ _ | with_reducible exact hb | with_reducible exact lb1 | with_reducible exact lb2 | with_reducible exact lb3))) ?_
  clear hK K
  refine wpG_do1 rfl ?_
  intro K hK
  go_wp2_with fail
  refine hK.out _ _ (up_iff.2 (by repeat' (first | with_reducible refine Below.setCell ?_ ?_ _ | with_reducible exact hb | with_reducible exact lb1 | with_reducible exact lb2 | with_reducible exact lb3))) ?_
  clear hK K
  refine wpG_take0 rfl rfl ?_
  go_big_quiet_step (rfl)
  refine wpQuiet_nil ?_
  refine wpG_nil ?_
  refine list_world ?_
  intro U2 hU2
  clear c1_0 c1_1 c1_2 c1_3 c1_4 c1_5 c1_6 c1_7 c1_8 l1
  have D1 := Lib.hid Kk1.out.lt
  have D2 := Lib.hid hb0.size
  have D3 := Lib.hid lb1
  have D4 := Lib.hid lb2
  have D5 := Lib.hid lb3
  have D6 := Lib.hid hne
  have k1 : Blk U2 w.heap.size #[.int .i64 ax, .int .i64 ay, .int .i64 bx, .int .i64 b_y, .int .i64 cx, .int .i64 cy, .int .i64 dx, .int .i64 dy, .int .i64 n] 79 := by rw [hU2]; exact (blk_setL (blk_setL (blk_setL (Kk1.out.of hb) (by have := D1.out; have := D3.out; omega) 0 [.int .i64 ax, .int .i64 ay, .int .i64 bx, .int .i64 b_y]) (by have := D1.out; have := D4.out; omega) 0 [.int .i64 cx, .int .i64 cy]) (by have := D1.out; have := D5.out; omega) 0 [.int .i64 dx, .int .i64 dy])
  have k2 : Blk U2 b1 #[.int .i64 ax, .int .i64 ay, .int .i64 bx, .int .i64 b_y] 50 := by rw [hU2]; exact (blk_setL (blk_setL (blk_full _ [.int .i64 ax, .int .i64 ay, .int .i64 bx, .int .i64 b_y] m1 rfl) (by have := D6.out; omega) 0 [.int .i64 cx, .int .i64 cy]) (by have := D6.out; omega) 0 [.int .i64 dx, .int .i64 dy])
  have k3 : Blk U2 b2 #[.int .i64 cx, .int .i64 cy] 24 := by rw [hU2]; exact (blk_setL (blk_full _ [.int .i64 cx, .int .i64 cy] (blk_setL m2 (by have := D6.out; omega) 0 [.int .i64 ax, .int .i64 ay, .int .i64 bx, .int .i64 b_y]) rfl) (by have := D6.out; omega) 0 [.int .i64 dx, .int .i64 dy])
  have k4 : Blk U2 b3 #[.int .i64 dx, .int .i64 dy] 24 := by rw [hU2]; exact (blk_full _ [.int .i64 dx, .int .i64 dy] (blk_setL (blk_setL m3 (by have := D6.out; omega) 0 [.int .i64 ax, .int .i64 ay, .int .i64 bx, .int .i64 b_y]) (by have := D6.out; omega) 0 [.int .i64 cx, .int .i64 cy]) rfl)
  replace hb0 : Below w.heap.size w U2 := by rw [hU2]; exact (blw_setL (blw_setL (blw_setL (hb0.trans (hb.mono hb0.size)) (by have := D2.out; have := D3.out; omega) 0 [.int .i64 ax, .int .i64 ay, .int .i64 bx, .int .i64 b_y]) (by have := D2.out; have := D4.out; omega) 0 [.int .i64 cx, .int .i64 cy]) (by have := D2.out; have := D5.out; omega) 0 [.int .i64 dx, .int .i64 dy])
  clear hU2 hb Kk1 m1 nb1 lb1 mc1_0 mf1_0 mc1_1 mf1_1 mc1_2 mf1_2 mc1_3 mf1_3 m2 nb2 lb2 mc2_0 mf2_0 mc2_1 mf2_1 m3 nb3 lb3 mc3_0 mf3_0 mc3_1 mf3_1 hne
  generalize b1 = q2 at *
  generalize b2 = q3 at *
  generalize b3 = q4 at *
  have c2_0 : U2.cell? ⟨q2, 0, none⟩ = some (.int .i64 ax) := k2.cell 0
  have c2_1 : U2.cell? ⟨q2, 1, none⟩ = some (.int .i64 ay) := k2.cell 1
  have c2_2 : U2.cell? ⟨q2, 2, none⟩ = some (.int .i64 bx) := k2.cell 2
  have c2_3 : U2.cell? ⟨q2, 3, none⟩ = some (.int .i64 b_y) := k2.cell 3
  have l2 := k2.lt
  have c3_0 : U2.cell? ⟨q3, 0, none⟩ = some (.int .i64 cx) := k3.cell 0
  have c3_1 : U2.cell? ⟨q3, 1, none⟩ = some (.int .i64 cy) := k3.cell 1
  have l3 := k3.lt
  go_wp2_with fail
  clear c2_0 c2_1 c2_2 c2_3 l2 c3_0 c3_1 l3
  refine (cut_v ax ay bx b_y cx cy n xfn xfd xtn xtd xfo xto true HP0.out HP1.out HP2.out HP3.out HP4.out HP5.out HP12.out _iax _iay _ibx _ib_y _icx _icy _in _).mono ?_
  rintro e U3 ⟨rfl, hn⟩
  clear k1
  replace k2 := k2.of hn
  replace k3 := k3.of hn
  replace k4 := k4.of hn
  replace hb0 := hb0.trans (hn.mono hb0.size)
  clear hn
  have c2_0 : U3.cell? ⟨q2, 0, none⟩ = some (.int .i64 ax) := k2.cell 0
  have c2_1 : U3.cell? ⟨q2, 1, none⟩ = some (.int .i64 ay) := k2.cell 1
  have c2_2 : U3.cell? ⟨q2, 2, none⟩ = some (.int .i64 bx) := k2.cell 2
  have c2_3 : U3.cell? ⟨q2, 3, none⟩ = some (.int .i64 b_y) := k2.cell 3
  have l2 := k2.lt
  have c4_0 : U3.cell? ⟨q4, 0, none⟩ = some (.int .i64 dx) := k4.cell 0
  have c4_1 : U3.cell? ⟨q4, 1, none⟩ = some (.int .i64 dy) := k4.cell 1
  have l4 := k4.lt
  have pr2_5 : q2 ≠ U3.heap.size := (by have := k2.lt; omega)
  have pr4_5 : q4 ≠ U3.heap.size := (by have := k4.lt; omega)
  go_wp2_with (first | ((with_reducible refine stRow (U3.heap.size) #[.int .u64 (wd0 xfn), .int .u64 (wd1 xfn), .int .u64 (wd2 xfn), .int .u64 (wd3 xfn), .int .u64 (wd0 xfd), .int .u64 (wd1 xfd), .int .u64 (wd2 xfd), .int .u64 (wd3 xfd), .int .u64 (wd0 xtn), .int .u64 (wd1 xtn), .int .u64 (wd2 xtn), .int .u64 (wd3 xtn), .int .u64 (wd0 xtd), .int .u64 (wd1 xtd), .int .u64 (wd2 xtd), .int .u64 (wd3 xtd), .bool xfo, .bool xto] _ _ (Blk.new _ _ _) ?_ ?_ ?_ ?_ ?_ ?_); rfl; rfl; (as_aux_lemma => kernel_rfl); rfl; (as_aux_lemma => kernel_rfl); simp only [Act.put]))
  clear c2_0 c2_1 c2_2 c2_3 l2 c4_0 c4_1 l4 pr2_5 pr4_5
  first | refine calls_w ?_ | refine name_world ?_ | refine list_world ?_ | refine post_world ?_
  intro V4 hV4
  rw [World.setRow_alloc_new] at hV4
  have D7 := Lib.hid k2.lt
  have D8 := Lib.hid k3.lt
  have D9 := Lib.hid k4.lt
  have D10 := Lib.hid hb0.size
  have hn : Below U3.heap.size U3 V4 := by rw [hV4]; exact below_a1 _ _
  have nk2 := k2.of hn
  have nk3 := k3.of hn
  have nk4 := k4.of hn
  have nhb0 := hb0.trans (hn.mono hb0.size)
  clear hn
  have k5 : Blk V4 U3.heap.size #[.int .u64 (wd0 xfn), .int .u64 (wd1 xfn), .int .u64 (wd2 xfn), .int .u64 (wd3 xfn), .int .u64 (wd0 xfd), .int .u64 (wd1 xfd), .int .u64 (wd2 xfd), .int .u64 (wd3 xfd), .int .u64 (wd0 xtn), .int .u64 (wd1 xtn), .int .u64 (wd2 xtn), .int .u64 (wd3 xtn), .int .u64 (wd0 xtd), .int .u64 (wd1 xtd), .int .u64 (wd2 xtd), .int .u64 (wd3 xtd), .bool xfo, .bool xto] 54 := by rw [hV4]; exact (Blk.new _ _ _)
  clear k2 k3 k4
  clear hb0
  clear hV4
  have k2 := nk2
  clear nk2
  have k3 := nk3
  clear nk3
  have k4 := nk4
  clear nk4
  have hb0 := nhb0
  clear nhb0
  refine (cut_v ax ay bx b_y dx dy n yfn yfd ytn ytd true yto true HP6.out HP7.out HP8.out HP9.out HP10.out HP11.out HP13.out _iax _iay _ibx _ib_y _idx _idy _in _).mono ?_
  rintro e U5 ⟨rfl, hn⟩
  replace k2 := k2.of hn
  replace k3 := k3.of hn
  replace k4 := k4.of hn
  replace k5 := k5.of hn
  replace hb0 := hb0.trans (hn.mono hb0.size)
  clear hn
  go_wp2_with (first | ((with_reducible refine stRow (U5.heap.size) #[.int .u64 (wd0 yfn), .int .u64 (wd1 yfn), .int .u64 (wd2 yfn), .int .u64 (wd3 yfn), .int .u64 (wd0 yfd), .int .u64 (wd1 yfd), .int .u64 (wd2 yfd), .int .u64 (wd3 yfd), .int .u64 (wd0 ytn), .int .u64 (wd1 ytn), .int .u64 (wd2 ytn), .int .u64 (wd3 ytn), .int .u64 (wd0 ytd), .int .u64 (wd1 ytd), .int .u64 (wd2 ytd), .int .u64 (wd3 ytd), .bool true, .bool yto] _ _ (Blk.new _ _ _) ?_ ?_ ?_ ?_ ?_ ?_); rfl; rfl; (as_aux_lemma => kernel_rfl); rfl; (as_aux_lemma => kernel_rfl); simp only [Act.put]) | ((with_reducible refine ldRow (U3.heap.size) #[.int .u64 (wd0 xfn), .int .u64 (wd1 xfn), .int .u64 (wd2 xfn), .int .u64 (wd3 xfn), .int .u64 (wd0 xfd), .int .u64 (wd1 xfd), .int .u64 (wd2 xfd), .int .u64 (wd3 xfd), .int .u64 (wd0 xtn), .int .u64 (wd1 xtn), .int .u64 (wd2 xtn), .int .u64 (wd3 xtn), .int .u64 (wd0 xtd), .int .u64 (wd1 xtd), .int .u64 (wd2 xtd), .int .u64 (wd3 xtd), .bool xfo, .bool xto] _ (blk_rowo (k5.alloc _) (by have := k5.lt; omega) _) ?_ ?_ ?_ ?_); rfl; exact ⟨_, rfl, rfl⟩; (as_aux_lemma => kernel_rfl); simp only [Act.put, List.setIfInBounds_toArray, List.set_cons_succ, List.set_cons_zero]) | ((with_reducible refine ldRow (U5.heap.size) #[.int .u64 (wd0 yfn), .int .u64 (wd1 yfn), .int .u64 (wd2 yfn), .int .u64 (wd3 yfn), .int .u64 (wd0 yfd), .int .u64 (wd1 yfd), .int .u64 (wd2 yfd), .int .u64 (wd3 yfd), .int .u64 (wd0 ytn), .int .u64 (wd1 ytn), .int .u64 (wd2 ytn), .int .u64 (wd3 ytn), .int .u64 (wd0 ytd), .int .u64 (wd1 ytd), .int .u64 (wd2 ytd), .int .u64 (wd3 ytd), .bool true, .bool yto] _ (blk_row (Blk.new _ _ _) _) ?_ ?_ ?_ ?_); rfl; exact ⟨_, rfl, rfl⟩; (as_aux_lemma => kernel_rfl); simp only [Act.put, List.setIfInBounds_toArray, List.set_cons_succ, List.set_cons_zero]))
  first | refine calls_w ?_ | refine name_world ?_ | refine list_world ?_ | refine post_world ?_
  intro V6 hV6
  rw [World.setRow_alloc_new] at hV6
  have D11 := Lib.hid k2.lt
  have D12 := Lib.hid k3.lt
  have D13 := Lib.hid k4.lt
  have D14 := Lib.hid k5.lt
  have D15 := Lib.hid hb0.size
  have hn : Below U5.heap.size U5 V6 := by rw [hV6]; exact below_a1 _ _
  have nk2 := k2.of hn
  have nk3 := k3.of hn
  have nk4 := k4.of hn
  have nk5 := k5.of hn
  have nhb0 := hb0.trans (hn.mono hb0.size)
  clear hn
  have k6 : Blk V6 U5.heap.size #[.int .u64 (wd0 yfn), .int .u64 (wd1 yfn), .int .u64 (wd2 yfn), .int .u64 (wd3 yfn), .int .u64 (wd0 yfd), .int .u64 (wd1 yfd), .int .u64 (wd2 yfd), .int .u64 (wd3 yfd), .int .u64 (wd0 ytn), .int .u64 (wd1 ytn), .int .u64 (wd2 ytn), .int .u64 (wd3 ytn), .int .u64 (wd0 ytd), .int .u64 (wd1 ytd), .int .u64 (wd2 ytd), .int .u64 (wd3 ytd), .bool true, .bool yto] 54 := by rw [hV6]; exact (Blk.new _ _ _)
  clear k2 k3 k4 k5
  clear hb0
  clear hV6
  have k2 := nk2
  clear nk2
  have k3 := nk3
  clear nk3
  have k4 := nk4
  clear nk4
  have k5 := nk5
  clear nk5
  have hb0 := nhb0
  clear nhb0
  refine (pxAh_is xfn xfd xtn xtd xfo xto yfn yfd ytn ytd true yto (-1) HP14.out _ixfn _ixfd _ixtn _ixtd _iyfn _iyfd _iytn _iytd  _).mono ?_
  rintro e U7 ⟨rfl, hn⟩
  replace k2 := k2.of hn
  replace k3 := k3.of hn
  replace k4 := k4.of hn
  replace k5 := k5.of hn
  replace k6 := k6.of hn
  replace hb0 := hb0.trans (hn.mono hb0.size)
  clear hn
  go_wp2_with (first | ((with_reducible refine ldRow (U5.heap.size) #[.int .u64 (wd0 yfn), .int .u64 (wd1 yfn), .int .u64 (wd2 yfn), .int .u64 (wd3 yfn), .int .u64 (wd0 yfd), .int .u64 (wd1 yfd), .int .u64 (wd2 yfd), .int .u64 (wd3 yfd), .int .u64 (wd0 ytn), .int .u64 (wd1 ytn), .int .u64 (wd2 ytn), .int .u64 (wd3 ytn), .int .u64 (wd0 ytd), .int .u64 (wd1 ytd), .int .u64 (wd2 ytd), .int .u64 (wd3 ytd), .bool true, .bool yto] _ k6 ?_ ?_ ?_ ?_); rfl; exact ⟨_, rfl, rfl⟩; (as_aux_lemma => kernel_rfl); simp only [Act.put, List.setIfInBounds_toArray, List.set_cons_succ, List.set_cons_zero]) | ((with_reducible refine ldRow (U3.heap.size) #[.int .u64 (wd0 xfn), .int .u64 (wd1 xfn), .int .u64 (wd2 xfn), .int .u64 (wd3 xfn), .int .u64 (wd0 xfd), .int .u64 (wd1 xfd), .int .u64 (wd2 xfd), .int .u64 (wd3 xfd), .int .u64 (wd0 xtn), .int .u64 (wd1 xtn), .int .u64 (wd2 xtn), .int .u64 (wd3 xtn), .int .u64 (wd0 xtd), .int .u64 (wd1 xtd), .int .u64 (wd2 xtd), .int .u64 (wd3 xtd), .bool xfo, .bool xto] _ k5 ?_ ?_ ?_ ?_); rfl; exact ⟨_, rfl, rfl⟩; (as_aux_lemma => kernel_rfl); simp only [Act.put, List.setIfInBounds_toArray, List.set_cons_succ, List.set_cons_zero]))
  refine (pxAh_is yfn yfd ytn ytd true yto xfn xfd xtn xtd xfo xto 1 HP15.out _iyfn _iyfd _iytn _iytd _ixfn _ixfd _ixtn _ixtd  _).mono ?_
  rintro e U8 ⟨rfl, hn⟩
  replace k2 := k2.of hn
  replace k3 := k3.of hn
  replace k4 := k4.of hn
  replace k5 := k5.of hn
  replace k6 := k6.of hn
  replace hb0 := hb0.trans (hn.mono hb0.size)
  clear hn
  obtain ⟨z1, hz1⟩ : ∃ o_o : Bool, (ax == bx) = o_o := ⟨_, rfl⟩
  cases z1
  · have nz1 : ¬ ax = bx := by simpa using hz1
    have nz1_ : ¬ bx = ax := fun e_ => nz1 e_.symm
    have c2_0 : U8.cell? ⟨q2, 0, none⟩ = some (.int .i64 ax) := k2.cell 0
    have c2_1 : U8.cell? ⟨q2, 1, none⟩ = some (.int .i64 ay) := k2.cell 1
    have c2_2 : U8.cell? ⟨q2, 2, none⟩ = some (.int .i64 bx) := k2.cell 2
    have c2_3 : U8.cell? ⟨q2, 3, none⟩ = some (.int .i64 b_y) := k2.cell 3
    have l2 := k2.lt
    have c3_0 : U8.cell? ⟨q3, 0, none⟩ = some (.int .i64 cx) := k3.cell 0
    have c3_1 : U8.cell? ⟨q3, 1, none⟩ = some (.int .i64 cy) := k3.cell 1
    have l3 := k3.lt
    have c4_0 : U8.cell? ⟨q4, 0, none⟩ = some (.int .i64 dx) := k4.cell 0
    have c4_1 : U8.cell? ⟨q4, 1, none⟩ = some (.int .i64 dy) := k4.cell 1
    have l4 := k4.lt
    go_wp2_with fail
    clear c2_0 c2_1 c2_2 c2_3 l2 c3_0 c3_1 l3 c4_0 c4_1 l4
    clear k2 k3 k4
    have c5_8 : U8.cell? ⟨U3.heap.size, 8, none⟩ = some (.int .u64 (wd0 xtn)) := k5.cell 8
    have c5_9 : U8.cell? ⟨U3.heap.size, 9, none⟩ = some (.int .u64 (wd1 xtn)) := k5.cell 9
    have c5_10 : U8.cell? ⟨U3.heap.size, 10, none⟩ = some (.int .u64 (wd2 xtn)) := k5.cell 10
    have c5_11 : U8.cell? ⟨U3.heap.size, 11, none⟩ = some (.int .u64 (wd3 xtn)) := k5.cell 11
    have c5_12 : U8.cell? ⟨U3.heap.size, 12, none⟩ = some (.int .u64 (wd0 xtd)) := k5.cell 12
    have c5_13 : U8.cell? ⟨U3.heap.size, 13, none⟩ = some (.int .u64 (wd1 xtd)) := k5.cell 13
    have c5_14 : U8.cell? ⟨U3.heap.size, 14, none⟩ = some (.int .u64 (wd2 xtd)) := k5.cell 14
    have c5_15 : U8.cell? ⟨U3.heap.size, 15, none⟩ = some (.int .u64 (wd3 xtd)) := k5.cell 15
    have l5 := k5.lt
    have c6_0 : U8.cell? ⟨U5.heap.size, 0, none⟩ = some (.int .u64 (wd0 yfn)) := k6.cell 0
    have c6_1 : U8.cell? ⟨U5.heap.size, 1, none⟩ = some (.int .u64 (wd1 yfn)) := k6.cell 1
    have c6_2 : U8.cell? ⟨U5.heap.size, 2, none⟩ = some (.int .u64 (wd2 yfn)) := k6.cell 2
    have c6_3 : U8.cell? ⟨U5.heap.size, 3, none⟩ = some (.int .u64 (wd3 yfn)) := k6.cell 3
    have c6_4 : U8.cell? ⟨U5.heap.size, 4, none⟩ = some (.int .u64 (wd0 yfd)) := k6.cell 4
    have c6_5 : U8.cell? ⟨U5.heap.size, 5, none⟩ = some (.int .u64 (wd1 yfd)) := k6.cell 5
    have c6_6 : U8.cell? ⟨U5.heap.size, 6, none⟩ = some (.int .u64 (wd2 yfd)) := k6.cell 6
    have c6_7 : U8.cell? ⟨U5.heap.size, 7, none⟩ = some (.int .u64 (wd3 yfd)) := k6.cell 7
    have l6 := k6.lt
    have Kk5 := Lib.hid k5
    clear k5
    have Kk6 := Lib.hid k6
    clear k6
    refine wp_region_up U8.heap.size 5 [(true, 0), (true, 1), (true, 3), (true, 4), (false, 2)] (by kernel_rfl) (by kernel_rfl) (fun _ _ d _ _ h => by cases d <;> exact h) ?_
    have hb : Below U8.heap.size U8 U8.drew := (Below.refl _ _).drew
    iterate 4
      refine wpS_takeL rfl rfl ?_
      go_big_quiet_step (rfl)
      refine wpQuiet_nil ?_
    refine wpS_doL rfl ?_
    intro K hK
    go_wp2_with ((go_at_call 38; (with_reducible refine (p15rat_is xtn xtd xtn xtd HP16.out HP17.out _ixtn _ixtd  _).mono ?_); rintro e w2 ⟨bn1, ba1, bl1, bc1, bn2, ba2, bl2, bc2, rfl, hbm1, hbm2, hn⟩; have HB1 := Lib.hid hbm1; have HB2 := Lib.hid hbm2; clear hbm1 hbm2))
    replace hb := hb.trans (hn.mono hb.size)
    refine hK.out _ _ (up_iff.2 hb) ?_
    clear hK K
    clear hn
    refine wpS_nil ?_
    simp only [List.drop_succ_cons, List.drop_zero]
    first | refine calls_w ?_ | refine name_world ?_ | refine list_world ?_ | refine post_world ?_
    intro U9 hU9
    first | (subst hU9; have u_ := U9; clear u_) | (rw [← hU9] at hb; clear hU9)
    clear c5_8 c5_9 c5_10 c5_11 c5_12 c5_13 c5_14 c5_15 l5 c6_0 c6_1 c6_2 c6_3 c6_4 c6_5 c6_6 c6_7 l6
    have k5 := Kk5.out.of hb
    clear Kk5
    have k6 := Kk6.out.of hb
    clear Kk6
    replace hb0 := hb0.trans (hb.mono hb0.size)
    clear hb
    go_wp2_with fail
    refine (p15rat_is yfn yfd yfn yfd HP22.out HP23.out _iyfn _iyfd  _).mono ?_
    rintro e U10 ⟨bn3, ba3, bl3, bc3, bn4, ba4, bl4, bc4, rfl, hbm3, hbm4, hn⟩
    replace k5 := k5.of hn
    replace k6 := k6.of hn
    replace HB1 := Lib.hid (HB1.out.of hn)
    replace HB2 := Lib.hid (HB2.out.of hn)
    replace hb0 := hb0.trans (hn.mono hb0.size)
    clear hn
    have HB3 := Lib.hid hbm3
    have HB4 := Lib.hid hbm4
    clear hbm3 hbm4
    go_wp2_with fail
    refine (rrC_is xtn xtd yfn yfd 0 HP25.out  bn1 ba1 bl1 bc1 bn2 ba2 bl2 bc2 bn3 ba3 bl3 bc3 bn4 ba4 bl4 bc4 _ HB1.out HB2.out HB3.out HB4.out).mono ?_
    rintro e U11 ⟨rfl, hn⟩
    clear HB1 HB2 HB3 HB4
    replace k5 := k5.of hn
    replace k6 := k6.of hn
    replace hb0 := hb0.trans (hn.mono hb0.size)
    clear hn
    cases xto
    · have c5_17 : U11.cell? ⟨U3.heap.size, 17, none⟩ = some (.bool false) := k5.cell 17
      have l5 := k5.lt
      have c6_16 : U11.cell? ⟨U5.heap.size, 16, none⟩ = some (.bool true) := k6.cell 16
      have l6 := k6.lt
      go_wp2_with fail
      clear c5_17 l5 c6_16 l6
      refine (p15awake_any _).mono ?_
      rintro e U12 ⟨rfl, hn⟩
      clear k5 k6
      replace hb0 := hb0.trans (hn.mono hb0.size)
      clear hn
      go_wp2
      first | go_ret | go_ret2
      exact ⟨by first | rfl | (simp; done) | (simp; assumption), hb0⟩
    · have c5_17 : U11.cell? ⟨U3.heap.size, 17, none⟩ = some (.bool true) := k5.cell 17
      have l5 := k5.lt
      go_wp2_with fail
      clear c5_17 l5
      refine (p15awake_any _).mono ?_
      rintro e U13 ⟨rfl, hn⟩
      clear k5 k6
      replace hb0 := hb0.trans (hn.mono hb0.size)
      clear hn
      go_wp2
      first | go_ret | go_ret2
      exact ⟨by first | rfl | (simp; done) | (simp; assumption), hb0⟩
  · have qz1 : ax = bx := by simpa using hz1
    clear hz1
    subst qz1
    obtain ⟨z2, hz2⟩ : ∃ o_o : Bool, (ay == b_y) = o_o := ⟨_, rfl⟩
    cases z2
    · have nz2 : ¬ ay = b_y := by simpa using hz2
      have nz2_ : ¬ b_y = ay := fun e_ => nz2 e_.symm
      have c2_0 : U8.cell? ⟨q2, 0, none⟩ = some (.int .i64 ax) := k2.cell 0
      have c2_1 : U8.cell? ⟨q2, 1, none⟩ = some (.int .i64 ay) := k2.cell 1
      have c2_2 : U8.cell? ⟨q2, 2, none⟩ = some (.int .i64 ax) := k2.cell 2
      have c2_3 : U8.cell? ⟨q2, 3, none⟩ = some (.int .i64 b_y) := k2.cell 3
      have l2 := k2.lt
      have c3_0 : U8.cell? ⟨q3, 0, none⟩ = some (.int .i64 cx) := k3.cell 0
      have c3_1 : U8.cell? ⟨q3, 1, none⟩ = some (.int .i64 cy) := k3.cell 1
      have l3 := k3.lt
      have c4_0 : U8.cell? ⟨q4, 0, none⟩ = some (.int .i64 dx) := k4.cell 0
      have c4_1 : U8.cell? ⟨q4, 1, none⟩ = some (.int .i64 dy) := k4.cell 1
      have l4 := k4.lt
      go_wp2_with fail
      clear c2_0 c2_1 c2_2 c2_3 l2 c3_0 c3_1 l3 c4_0 c4_1 l4
      clear k2 k3 k4
      have c5_8 : U8.cell? ⟨U3.heap.size, 8, none⟩ = some (.int .u64 (wd0 xtn)) := k5.cell 8
      have c5_9 : U8.cell? ⟨U3.heap.size, 9, none⟩ = some (.int .u64 (wd1 xtn)) := k5.cell 9
      have c5_10 : U8.cell? ⟨U3.heap.size, 10, none⟩ = some (.int .u64 (wd2 xtn)) := k5.cell 10
      have c5_11 : U8.cell? ⟨U3.heap.size, 11, none⟩ = some (.int .u64 (wd3 xtn)) := k5.cell 11
      have c5_12 : U8.cell? ⟨U3.heap.size, 12, none⟩ = some (.int .u64 (wd0 xtd)) := k5.cell 12
      have c5_13 : U8.cell? ⟨U3.heap.size, 13, none⟩ = some (.int .u64 (wd1 xtd)) := k5.cell 13
      have c5_14 : U8.cell? ⟨U3.heap.size, 14, none⟩ = some (.int .u64 (wd2 xtd)) := k5.cell 14
      have c5_15 : U8.cell? ⟨U3.heap.size, 15, none⟩ = some (.int .u64 (wd3 xtd)) := k5.cell 15
      have l5 := k5.lt
      have c6_0 : U8.cell? ⟨U5.heap.size, 0, none⟩ = some (.int .u64 (wd0 yfn)) := k6.cell 0
      have c6_1 : U8.cell? ⟨U5.heap.size, 1, none⟩ = some (.int .u64 (wd1 yfn)) := k6.cell 1
      have c6_2 : U8.cell? ⟨U5.heap.size, 2, none⟩ = some (.int .u64 (wd2 yfn)) := k6.cell 2
      have c6_3 : U8.cell? ⟨U5.heap.size, 3, none⟩ = some (.int .u64 (wd3 yfn)) := k6.cell 3
      have c6_4 : U8.cell? ⟨U5.heap.size, 4, none⟩ = some (.int .u64 (wd0 yfd)) := k6.cell 4
      have c6_5 : U8.cell? ⟨U5.heap.size, 5, none⟩ = some (.int .u64 (wd1 yfd)) := k6.cell 5
      have c6_6 : U8.cell? ⟨U5.heap.size, 6, none⟩ = some (.int .u64 (wd2 yfd)) := k6.cell 6
      have c6_7 : U8.cell? ⟨U5.heap.size, 7, none⟩ = some (.int .u64 (wd3 yfd)) := k6.cell 7
      have l6 := k6.lt
      have Kk5 := Lib.hid k5
      clear k5
      have Kk6 := Lib.hid k6
      clear k6
      refine wp_region_up U8.heap.size 5 [(true, 0), (true, 1), (true, 3), (true, 4), (false, 2)] (by kernel_rfl) (by kernel_rfl) (fun _ _ d _ _ h => by cases d <;> exact h) ?_
      have hb : Below U8.heap.size U8 U8.drew := (Below.refl _ _).drew
      iterate 4
        refine wpS_takeL rfl rfl ?_
        go_big_quiet_step (rfl)
        refine wpQuiet_nil ?_
      refine wpS_doL rfl ?_
      intro K hK
      go_wp2_with ((go_at_call 38; (with_reducible refine (p15rat_is xtn xtd xtn xtd HP16.out HP17.out _ixtn _ixtd  _).mono ?_); rintro e w2 ⟨bn5, ba5, bl5, bc5, bn6, ba6, bl6, bc6, rfl, hbm5, hbm6, hn⟩; have HB5 := Lib.hid hbm5; have HB6 := Lib.hid hbm6; clear hbm5 hbm6))
      replace hb := hb.trans (hn.mono hb.size)
      refine hK.out _ _ (up_iff.2 hb) ?_
      clear hK K
      clear hn
      refine wpS_nil ?_
      simp only [List.drop_succ_cons, List.drop_zero]
      first | refine calls_w ?_ | refine name_world ?_ | refine list_world ?_ | refine post_world ?_
      intro U14 hU14
      first | (subst hU14; have u_ := U14; clear u_) | (rw [← hU14] at hb; clear hU14)
      clear c5_8 c5_9 c5_10 c5_11 c5_12 c5_13 c5_14 c5_15 l5 c6_0 c6_1 c6_2 c6_3 c6_4 c6_5 c6_6 c6_7 l6
      have k5 := Kk5.out.of hb
      clear Kk5
      have k6 := Kk6.out.of hb
      clear Kk6
      replace hb0 := hb0.trans (hb.mono hb0.size)
      clear hb
      go_wp2_with fail
      refine (p15rat_is yfn yfd yfn yfd HP22.out HP23.out _iyfn _iyfd  _).mono ?_
      rintro e U15 ⟨bn7, ba7, bl7, bc7, bn8, ba8, bl8, bc8, rfl, hbm7, hbm8, hn⟩
      replace k5 := k5.of hn
      replace k6 := k6.of hn
      replace HB5 := Lib.hid (HB5.out.of hn)
      replace HB6 := Lib.hid (HB6.out.of hn)
      replace hb0 := hb0.trans (hn.mono hb0.size)
      clear hn
      have HB7 := Lib.hid hbm7
      have HB8 := Lib.hid hbm8
      clear hbm7 hbm8
      go_wp2_with fail
      refine (rrC_is xtn xtd yfn yfd 0 HP25.out  bn5 ba5 bl5 bc5 bn6 ba6 bl6 bc6 bn7 ba7 bl7 bc7 bn8 ba8 bl8 bc8 _ HB5.out HB6.out HB7.out HB8.out).mono ?_
      rintro e U16 ⟨rfl, hn⟩
      clear HB5 HB6 HB7 HB8
      replace k5 := k5.of hn
      replace k6 := k6.of hn
      replace hb0 := hb0.trans (hn.mono hb0.size)
      clear hn
      cases xto
      · have c5_17 : U16.cell? ⟨U3.heap.size, 17, none⟩ = some (.bool false) := k5.cell 17
        have l5 := k5.lt
        have c6_16 : U16.cell? ⟨U5.heap.size, 16, none⟩ = some (.bool true) := k6.cell 16
        have l6 := k6.lt
        go_wp2_with fail
        clear c5_17 l5 c6_16 l6
        refine (p15awake_any _).mono ?_
        rintro e U17 ⟨rfl, hn⟩
        clear k5 k6
        replace hb0 := hb0.trans (hn.mono hb0.size)
        clear hn
        go_wp2
        first | go_ret | go_ret2
        exact ⟨by first | rfl | (simp; done) | (simp; assumption), hb0⟩
      · have c5_17 : U16.cell? ⟨U3.heap.size, 17, none⟩ = some (.bool true) := k5.cell 17
        have l5 := k5.lt
        go_wp2_with fail
        clear c5_17 l5
        refine (p15awake_any _).mono ?_
        rintro e U18 ⟨rfl, hn⟩
        clear k5 k6
        replace hb0 := hb0.trans (hn.mono hb0.size)
        clear hn
        go_wp2
        first | go_ret | go_ret2
        exact ⟨by first | rfl | (simp; done) | (simp; assumption), hb0⟩
    · have qz2 : ay = b_y := by simpa using hz2
      clear hz2
      subst qz2
      have c2_0 : U8.cell? ⟨q2, 0, none⟩ = some (.int .i64 ax) := k2.cell 0
      have c2_1 : U8.cell? ⟨q2, 1, none⟩ = some (.int .i64 ay) := k2.cell 1
      have c2_2 : U8.cell? ⟨q2, 2, none⟩ = some (.int .i64 ax) := k2.cell 2
      have c2_3 : U8.cell? ⟨q2, 3, none⟩ = some (.int .i64 ay) := k2.cell 3
      have l2 := k2.lt
      go_wp2_with fail
      clear c2_0 c2_1 c2_2 c2_3 l2
      refine (p15awake_any _).mono ?_
      rintro e U19 ⟨rfl, hn⟩
      clear k2
      replace k3 := k3.of hn
      replace k4 := k4.of hn
      replace k5 := k5.of hn
      replace k6 := k6.of hn
      replace hb0 := hb0.trans (hn.mono hb0.size)
      clear hn
      go_wp2
      first | go_ret | go_ret2
      exact ⟨by first | rfl | (simp; done) | (simp; assumption), hb0⟩

set_option maxRecDepth 100000 in
set_option maxHeartbeats 4000000 in

theorem PAh_010 (ax : Int) (ay : Int) (bx : Int) (b_y : Int) (cx : Int) (cy : Int) (dx : Int) (dy : Int) (n : Int) (xfn : Int) (xfd : Int) (xtn : Int) (xtd : Int) (xfo : Bool) (xto : Bool) (yfn : Int) (yfd : Int) (ytn : Int) (ytd : Int) (yfo : Bool) (yto : Bool)   (hP0 : cufn ax ay bx b_y cx cy n = xfn) (hP1 : cufd ax ay bx b_y cx cy n = xfd) (hP2 : cutn ax ay bx b_y cx cy n = xtn) (hP3 : cutd ax ay bx b_y cx cy n = xtd) (hP4 : cufo ax ay bx b_y cx cy n = xfo) (hP5 : cuto ax ay bx b_y cx cy n = xto) (hP6 : cufn ax ay bx b_y dx dy n = yfn) (hP7 : cufd ax ay bx b_y dx dy n = yfd) (hP8 : cutn ax ay bx b_y dx dy n = ytn) (hP9 : cutd ax ay bx b_y dx dy n = ytd) (hP10 : cufo ax ay bx b_y dx dy n = yfo) (hP11 : cuto ax ay bx b_y dx dy n = yto) (hP12 : cuk ax ay bx b_y cx cy n = true) (hP13 : cuk ax ay bx b_y dx dy n = true) (hP14 : pxA xfn xfd xtn xtd xfo xto yfn yfd ytn ytd yfo yto = 1) (hP15 : pxA yfn yfd ytn ytd yfo yto xfn xfd xtn xtd xfo xto = (-1)) (hP16 : p15n xtn xtd = xtn) (hP17 : p15d xtn xtd = xtd) (hP18 : p15n ytn ytd = ytn) (hP19 : p15d ytn ytd = ytd) (hP20 : p15n xfn xfd = xfn) (hP21 : p15d xfn xfd = xfd) (hP22 : p15n yfn yfd = yfn) (hP23 : p15d yfn yfd = yfd) (hP24 : (cx == dx) = false) (hP25 : rrC ytn ytd xfn xfd = (-1)) (_ixfn : InI xfn) (_ixfd : InI xfd) (_ixtn : InI xtn) (_ixtd : InI xtd) (_iyfn : InI yfn) (_iyfd : InI yfd) (_iytn : InI ytn) (_iytd : InI ytd) (_iax : In64 ax) (_iay : In64 ay) (_ibx : In64 bx) (_ib_y : In64 b_y) (_icx : In64 cx) (_icy : In64 cy) (_idx : In64 dx) (_idy : In64 dy) (_in : In64 n)  (w : World)  :
    Calls Try.prog 7 #[.agg #[.int .i64 ax, .int .i64 ay, .int .i64 bx, .int .i64 b_y, .int .i64 cx, .int .i64 cy, .int .i64 dx, .int .i64 dy, .int .i64 n]] w fun e w' => e = .returned (.bool true) ∧ Below w.heap.size w w' := by

  have HP0 := Lib.hid hP0
  clear hP0
  have HP1 := Lib.hid hP1
  clear hP1
  have HP2 := Lib.hid hP2
  clear hP2
  have HP3 := Lib.hid hP3
  clear hP3
  have HP4 := Lib.hid hP4
  clear hP4
  have HP5 := Lib.hid hP5
  clear hP5
  have HP6 := Lib.hid hP6
  clear hP6
  have HP7 := Lib.hid hP7
  clear hP7
  have HP8 := Lib.hid hP8
  clear hP8
  have HP9 := Lib.hid hP9
  clear hP9
  have HP10 := Lib.hid hP10
  clear hP10
  have HP11 := Lib.hid hP11
  clear hP11
  have HP12 := Lib.hid hP12
  clear hP12
  have HP13 := Lib.hid hP13
  clear hP13
  have HP14 := Lib.hid hP14
  clear hP14
  have HP15 := Lib.hid hP15
  clear hP15
  have HP16 := Lib.hid hP16
  clear hP16
  have HP17 := Lib.hid hP17
  clear hP17
  have HP18 := Lib.hid hP18
  clear hP18
  have HP19 := Lib.hid hP19
  clear hP19
  have HP20 := Lib.hid hP20
  clear hP20
  have HP21 := Lib.hid hP21
  clear hP21
  have HP22 := Lib.hid hP22
  clear hP22
  have HP23 := Lib.hid hP23
  clear hP23
  have nP24 : ¬ cx = dx := by simpa using hP24
  have HP25 := Lib.hid hP25
  clear hP25
  go_enter Try.func7, Try.ntmps7
  go_wp2_with fail
  first | refine calls_w ?_ | refine name_world ?_ | refine list_world ?_ | refine post_world ?_
  intro V1 hV1
  have hn : Below w.heap.size w V1 := by rw [hV1]; exact below_a1 _ _
  have nhb0 := hn
  have k1 : Blk V1 w.heap.size #[.int .i64 ax, .int .i64 ay, .int .i64 bx, .int .i64 b_y, .int .i64 cx, .int .i64 cy, .int .i64 dx, .int .i64 dy, .int .i64 n] 79 := by rw [hV1]; exact (Blk.new _ _ _)
  clear hV1
  have hb0 := nhb0
  clear nhb0
  have c1_0 : V1.cell? ⟨w.heap.size, 0, none⟩ = some (.int .i64 ax) := k1.cell 0
  have c1_1 : V1.cell? ⟨w.heap.size, 1, none⟩ = some (.int .i64 ay) := k1.cell 1
  have c1_2 : V1.cell? ⟨w.heap.size, 2, none⟩ = some (.int .i64 bx) := k1.cell 2
  have c1_3 : V1.cell? ⟨w.heap.size, 3, none⟩ = some (.int .i64 b_y) := k1.cell 3
  have c1_4 : V1.cell? ⟨w.heap.size, 4, none⟩ = some (.int .i64 cx) := k1.cell 4
  have c1_5 : V1.cell? ⟨w.heap.size, 5, none⟩ = some (.int .i64 cy) := k1.cell 5
  have c1_6 : V1.cell? ⟨w.heap.size, 6, none⟩ = some (.int .i64 dx) := k1.cell 6
  have c1_7 : V1.cell? ⟨w.heap.size, 7, none⟩ = some (.int .i64 dy) := k1.cell 7
  have c1_8 : V1.cell? ⟨w.heap.size, 8, none⟩ = some (.int .i64 n) := k1.cell 8
  have l1 := k1.lt
  have Kk1 := Lib.hid k1
  clear k1
  refine Stay.wp_region_FG3 11 8 9 10 [(0, 0), (0, 1), (0, 2), (0, 3), (0, 4), (0, 5), (0, 6), (0, 7)] [(1, 11), (1, 12), (1, 13), (0, 14)] (by kernel_rfl) (by kernel_rfl) (fun _ _ d _ _ => by cases d <;> exact Iff.rfl) rfl rfl rfl rfl alPxL5_0 rfl rfl rfl alPxL5_1 rfl rfl rfl alPxL5_1 ?_
  have hb : Below V1.heap.size V1 V1.drew := (Below.refl _ _).drew
  iterate 8
    refine wpFG_take0 rfl rfl ?_
    go_big_quiet_step (rfl)
    refine wpQuiet_nil ?_
  refine wpFG_nil ?_
  clear hb
  rintro w1 hg hb b1 b2 b3 hne ⟨lb1, nb1⟩ ⟨lb2, nb2⟩ ⟨lb3, nb3⟩
  clear hg
  simp only [Act.put, ptrTo, List.setIfInBounds_toArray, List.set_cons_succ, List.set_cons_zero]
  have m1 : Blk w1 b1 #[.int .i64 0, .int .i64 0, .int .i64 0, .int .i64 0] 50 := nb1
  have mc1_0 : w1.cell? ⟨b1, 0, none⟩ = some (.int .i64 0) := m1.cell 0
  have mf1_0 := m1.free 0
  have mc1_1 : w1.cell? ⟨b1, 1, none⟩ = some (.int .i64 0) := m1.cell 1
  have mf1_1 := m1.free 1
  have mc1_2 : w1.cell? ⟨b1, 2, none⟩ = some (.int .i64 0) := m1.cell 2
  have mf1_2 := m1.free 2
  have mc1_3 : w1.cell? ⟨b1, 3, none⟩ = some (.int .i64 0) := m1.cell 3
  have mf1_3 := m1.free 3
  have m2 : Blk w1 b2 #[.int .i64 0, .int .i64 0] 24 := nb2
  have mc2_0 : w1.cell? ⟨b2, 0, none⟩ = some (.int .i64 0) := m2.cell 0
  have mf2_0 := m2.free 0
  have mc2_1 : w1.cell? ⟨b2, 1, none⟩ = some (.int .i64 0) := m2.cell 1
  have mf2_1 := m2.free 1
  have m3 : Blk w1 b3 #[.int .i64 0, .int .i64 0] 24 := nb3
  have mc3_0 : w1.cell? ⟨b3, 0, none⟩ = some (.int .i64 0) := m3.cell 0
  have mf3_0 := m3.free 0
  have mc3_1 : w1.cell? ⟨b3, 1, none⟩ = some (.int .i64 0) := m3.cell 1
  have mf3_1 := m3.free 1
  refine wpG_do1 rfl ?_
  intro K hK
  go_wp2_with fail
  refine hK.out _ _ (up_iff.2 (by repeat' (first | with_reducible refine Below.setCell ?_ ?_ _ | with_reducible exact hb | with_reducible exact lb1 | with_reducible exact lb2 | with_reducible exact lb3))) ?_
  clear hK K
  refine wpG_do1 rfl ?_
  intro K hK
  go_wp2_with fail
  refine hK.out _ _ (up_iff.2 (by repeat' (first | with_reducible refine Below.setCell ?_ ?_ _ | with_reducible exact hb | with_reducible exact lb1 | with_reducible exact lb2 | with_reducible exact lb3))) ?_
  clear hK K
  refine wpG_do1 rfl ?_
  intro K hK
  go_wp2_with fail
  refine hK.out _ _ (up_iff.2 (by repeat' (first | with_reducible refine Below.setCell ?_ ?_ _ | with_reducible exact hb | with_reducible exact lb1 | with_reducible exact lb2 | with_reducible exact lb3))) ?_
  clear hK K
  refine wpG_take0 rfl rfl ?_
  go_big_quiet_step (rfl)
  refine wpQuiet_nil ?_
  refine wpG_nil ?_
  refine list_world ?_
  intro U2 hU2
  clear c1_0 c1_1 c1_2 c1_3 c1_4 c1_5 c1_6 c1_7 c1_8 l1
  have D1 := Lib.hid Kk1.out.lt
  have D2 := Lib.hid hb0.size
  have D3 := Lib.hid lb1
  have D4 := Lib.hid lb2
  have D5 := Lib.hid lb3
  have D6 := Lib.hid hne
  have k1 : Blk U2 w.heap.size #[.int .i64 ax, .int .i64 ay, .int .i64 bx, .int .i64 b_y, .int .i64 cx, .int .i64 cy, .int .i64 dx, .int .i64 dy, .int .i64 n] 79 := by rw [hU2]; exact (blk_setL (blk_setL (blk_setL (Kk1.out.of hb) (by have := D1.out; have := D3.out; omega) 0 [.int .i64 ax, .int .i64 ay, .int .i64 bx, .int .i64 b_y]) (by have := D1.out; have := D4.out; omega) 0 [.int .i64 cx, .int .i64 cy]) (by have := D1.out; have := D5.out; omega) 0 [.int .i64 dx, .int .i64 dy])
  have k2 : Blk U2 b1 #[.int .i64 ax, .int .i64 ay, .int .i64 bx, .int .i64 b_y] 50 := by rw [hU2]; exact (blk_setL (blk_setL (blk_full _ [.int .i64 ax, .int .i64 ay, .int .i64 bx, .int .i64 b_y] m1 rfl) (by have := D6.out; omega) 0 [.int .i64 cx, .int .i64 cy]) (by have := D6.out; omega) 0 [.int .i64 dx, .int .i64 dy])
  have k3 : Blk U2 b2 #[.int .i64 cx, .int .i64 cy] 24 := by rw [hU2]; exact (blk_setL (blk_full _ [.int .i64 cx, .int .i64 cy] (blk_setL m2 (by have := D6.out; omega) 0 [.int .i64 ax, .int .i64 ay, .int .i64 bx, .int .i64 b_y]) rfl) (by have := D6.out; omega) 0 [.int .i64 dx, .int .i64 dy])
  have k4 : Blk U2 b3 #[.int .i64 dx, .int .i64 dy] 24 := by rw [hU2]; exact (blk_full _ [.int .i64 dx, .int .i64 dy] (blk_setL (blk_setL m3 (by have := D6.out; omega) 0 [.int .i64 ax, .int .i64 ay, .int .i64 bx, .int .i64 b_y]) (by have := D6.out; omega) 0 [.int .i64 cx, .int .i64 cy]) rfl)
  replace hb0 : Below w.heap.size w U2 := by rw [hU2]; exact (blw_setL (blw_setL (blw_setL (hb0.trans (hb.mono hb0.size)) (by have := D2.out; have := D3.out; omega) 0 [.int .i64 ax, .int .i64 ay, .int .i64 bx, .int .i64 b_y]) (by have := D2.out; have := D4.out; omega) 0 [.int .i64 cx, .int .i64 cy]) (by have := D2.out; have := D5.out; omega) 0 [.int .i64 dx, .int .i64 dy])
  clear hU2 hb Kk1 m1 nb1 lb1 mc1_0 mf1_0 mc1_1 mf1_1 mc1_2 mf1_2 mc1_3 mf1_3 m2 nb2 lb2 mc2_0 mf2_0 mc2_1 mf2_1 m3 nb3 lb3 mc3_0 mf3_0 mc3_1 mf3_1 hne
  generalize b1 = q2 at *
  generalize b2 = q3 at *
  generalize b3 = q4 at *
  have c2_0 : U2.cell? ⟨q2, 0, none⟩ = some (.int .i64 ax) := k2.cell 0
  have c2_1 : U2.cell? ⟨q2, 1, none⟩ = some (.int .i64 ay) := k2.cell 1
  have c2_2 : U2.cell? ⟨q2, 2, none⟩ = some (.int .i64 bx) := k2.cell 2
  have c2_3 : U2.cell? ⟨q2, 3, none⟩ = some (.int .i64 b_y) := k2.cell 3
  have l2 := k2.lt
  have c3_0 : U2.cell? ⟨q3, 0, none⟩ = some (.int .i64 cx) := k3.cell 0
  have c3_1 : U2.cell? ⟨q3, 1, none⟩ = some (.int .i64 cy) := k3.cell 1
  have l3 := k3.lt
  go_wp2_with fail
  clear c2_0 c2_1 c2_2 c2_3 l2 c3_0 c3_1 l3
  refine (cut_v ax ay bx b_y cx cy n xfn xfd xtn xtd xfo xto true HP0.out HP1.out HP2.out HP3.out HP4.out HP5.out HP12.out _iax _iay _ibx _ib_y _icx _icy _in _).mono ?_
  rintro e U3 ⟨rfl, hn⟩
  clear k1
  replace k2 := k2.of hn
  replace k3 := k3.of hn
  replace k4 := k4.of hn
  replace hb0 := hb0.trans (hn.mono hb0.size)
  clear hn
  have c2_0 : U3.cell? ⟨q2, 0, none⟩ = some (.int .i64 ax) := k2.cell 0
  have c2_1 : U3.cell? ⟨q2, 1, none⟩ = some (.int .i64 ay) := k2.cell 1
  have c2_2 : U3.cell? ⟨q2, 2, none⟩ = some (.int .i64 bx) := k2.cell 2
  have c2_3 : U3.cell? ⟨q2, 3, none⟩ = some (.int .i64 b_y) := k2.cell 3
  have l2 := k2.lt
  have c4_0 : U3.cell? ⟨q4, 0, none⟩ = some (.int .i64 dx) := k4.cell 0
  have c4_1 : U3.cell? ⟨q4, 1, none⟩ = some (.int .i64 dy) := k4.cell 1
  have l4 := k4.lt
  have pr2_5 : q2 ≠ U3.heap.size := (by have := k2.lt; omega)
  have pr4_5 : q4 ≠ U3.heap.size := (by have := k4.lt; omega)
  go_wp2_with (first | ((with_reducible refine stRow (U3.heap.size) #[.int .u64 (wd0 xfn), .int .u64 (wd1 xfn), .int .u64 (wd2 xfn), .int .u64 (wd3 xfn), .int .u64 (wd0 xfd), .int .u64 (wd1 xfd), .int .u64 (wd2 xfd), .int .u64 (wd3 xfd), .int .u64 (wd0 xtn), .int .u64 (wd1 xtn), .int .u64 (wd2 xtn), .int .u64 (wd3 xtn), .int .u64 (wd0 xtd), .int .u64 (wd1 xtd), .int .u64 (wd2 xtd), .int .u64 (wd3 xtd), .bool xfo, .bool xto] _ _ (Blk.new _ _ _) ?_ ?_ ?_ ?_ ?_ ?_); rfl; rfl; (as_aux_lemma => kernel_rfl); rfl; (as_aux_lemma => kernel_rfl); simp only [Act.put]))
  clear c2_0 c2_1 c2_2 c2_3 l2 c4_0 c4_1 l4 pr2_5 pr4_5
  first | refine calls_w ?_ | refine name_world ?_ | refine list_world ?_ | refine post_world ?_
  intro V4 hV4
  rw [World.setRow_alloc_new] at hV4
  have D7 := Lib.hid k2.lt
  have D8 := Lib.hid k3.lt
  have D9 := Lib.hid k4.lt
  have D10 := Lib.hid hb0.size
  have hn : Below U3.heap.size U3 V4 := by rw [hV4]; exact below_a1 _ _
  have nk2 := k2.of hn
  have nk3 := k3.of hn
  have nk4 := k4.of hn
  have nhb0 := hb0.trans (hn.mono hb0.size)
  clear hn
  have k5 : Blk V4 U3.heap.size #[.int .u64 (wd0 xfn), .int .u64 (wd1 xfn), .int .u64 (wd2 xfn), .int .u64 (wd3 xfn), .int .u64 (wd0 xfd), .int .u64 (wd1 xfd), .int .u64 (wd2 xfd), .int .u64 (wd3 xfd), .int .u64 (wd0 xtn), .int .u64 (wd1 xtn), .int .u64 (wd2 xtn), .int .u64 (wd3 xtn), .int .u64 (wd0 xtd), .int .u64 (wd1 xtd), .int .u64 (wd2 xtd), .int .u64 (wd3 xtd), .bool xfo, .bool xto] 54 := by rw [hV4]; exact (Blk.new _ _ _)
  clear k2 k3 k4
  clear hb0
  clear hV4
  have k2 := nk2
  clear nk2
  have k3 := nk3
  clear nk3
  have k4 := nk4
  clear nk4
  have hb0 := nhb0
  clear nhb0
  refine (cut_v ax ay bx b_y dx dy n yfn yfd ytn ytd yfo yto true HP6.out HP7.out HP8.out HP9.out HP10.out HP11.out HP13.out _iax _iay _ibx _ib_y _idx _idy _in _).mono ?_
  rintro e U5 ⟨rfl, hn⟩
  replace k2 := k2.of hn
  replace k3 := k3.of hn
  replace k4 := k4.of hn
  replace k5 := k5.of hn
  replace hb0 := hb0.trans (hn.mono hb0.size)
  clear hn
  go_wp2_with (first | ((with_reducible refine stRow (U5.heap.size) #[.int .u64 (wd0 yfn), .int .u64 (wd1 yfn), .int .u64 (wd2 yfn), .int .u64 (wd3 yfn), .int .u64 (wd0 yfd), .int .u64 (wd1 yfd), .int .u64 (wd2 yfd), .int .u64 (wd3 yfd), .int .u64 (wd0 ytn), .int .u64 (wd1 ytn), .int .u64 (wd2 ytn), .int .u64 (wd3 ytn), .int .u64 (wd0 ytd), .int .u64 (wd1 ytd), .int .u64 (wd2 ytd), .int .u64 (wd3 ytd), .bool yfo, .bool yto] _ _ (Blk.new _ _ _) ?_ ?_ ?_ ?_ ?_ ?_); rfl; rfl; (as_aux_lemma => kernel_rfl); rfl; (as_aux_lemma => kernel_rfl); simp only [Act.put]) | ((with_reducible refine ldRow (U3.heap.size) #[.int .u64 (wd0 xfn), .int .u64 (wd1 xfn), .int .u64 (wd2 xfn), .int .u64 (wd3 xfn), .int .u64 (wd0 xfd), .int .u64 (wd1 xfd), .int .u64 (wd2 xfd), .int .u64 (wd3 xfd), .int .u64 (wd0 xtn), .int .u64 (wd1 xtn), .int .u64 (wd2 xtn), .int .u64 (wd3 xtn), .int .u64 (wd0 xtd), .int .u64 (wd1 xtd), .int .u64 (wd2 xtd), .int .u64 (wd3 xtd), .bool xfo, .bool xto] _ (blk_rowo (k5.alloc _) (by have := k5.lt; omega) _) ?_ ?_ ?_ ?_); rfl; exact ⟨_, rfl, rfl⟩; (as_aux_lemma => kernel_rfl); simp only [Act.put, List.setIfInBounds_toArray, List.set_cons_succ, List.set_cons_zero]) | ((with_reducible refine ldRow (U5.heap.size) #[.int .u64 (wd0 yfn), .int .u64 (wd1 yfn), .int .u64 (wd2 yfn), .int .u64 (wd3 yfn), .int .u64 (wd0 yfd), .int .u64 (wd1 yfd), .int .u64 (wd2 yfd), .int .u64 (wd3 yfd), .int .u64 (wd0 ytn), .int .u64 (wd1 ytn), .int .u64 (wd2 ytn), .int .u64 (wd3 ytn), .int .u64 (wd0 ytd), .int .u64 (wd1 ytd), .int .u64 (wd2 ytd), .int .u64 (wd3 ytd), .bool yfo, .bool yto] _ (blk_row (Blk.new _ _ _) _) ?_ ?_ ?_ ?_); rfl; exact ⟨_, rfl, rfl⟩; (as_aux_lemma => kernel_rfl); simp only [Act.put, List.setIfInBounds_toArray, List.set_cons_succ, List.set_cons_zero]))
  first | refine calls_w ?_ | refine name_world ?_ | refine list_world ?_ | refine post_world ?_
  intro V6 hV6
  rw [World.setRow_alloc_new] at hV6
  have D11 := Lib.hid k2.lt
  have D12 := Lib.hid k3.lt
  have D13 := Lib.hid k4.lt
  have D14 := Lib.hid k5.lt
  have D15 := Lib.hid hb0.size
  have hn : Below U5.heap.size U5 V6 := by rw [hV6]; exact below_a1 _ _
  have nk2 := k2.of hn
  have nk3 := k3.of hn
  have nk4 := k4.of hn
  have nk5 := k5.of hn
  have nhb0 := hb0.trans (hn.mono hb0.size)
  clear hn
  have k6 : Blk V6 U5.heap.size #[.int .u64 (wd0 yfn), .int .u64 (wd1 yfn), .int .u64 (wd2 yfn), .int .u64 (wd3 yfn), .int .u64 (wd0 yfd), .int .u64 (wd1 yfd), .int .u64 (wd2 yfd), .int .u64 (wd3 yfd), .int .u64 (wd0 ytn), .int .u64 (wd1 ytn), .int .u64 (wd2 ytn), .int .u64 (wd3 ytn), .int .u64 (wd0 ytd), .int .u64 (wd1 ytd), .int .u64 (wd2 ytd), .int .u64 (wd3 ytd), .bool yfo, .bool yto] 54 := by rw [hV6]; exact (Blk.new _ _ _)
  clear k2 k3 k4 k5
  clear hb0
  clear hV6
  have k2 := nk2
  clear nk2
  have k3 := nk3
  clear nk3
  have k4 := nk4
  clear nk4
  have k5 := nk5
  clear nk5
  have hb0 := nhb0
  clear nhb0
  refine (pxAh_is xfn xfd xtn xtd xfo xto yfn yfd ytn ytd yfo yto 1 HP14.out _ixfn _ixfd _ixtn _ixtd _iyfn _iyfd _iytn _iytd  _).mono ?_
  rintro e U7 ⟨rfl, hn⟩
  replace k2 := k2.of hn
  replace k3 := k3.of hn
  replace k4 := k4.of hn
  replace k5 := k5.of hn
  replace k6 := k6.of hn
  replace hb0 := hb0.trans (hn.mono hb0.size)
  clear hn
  go_wp2_with (first | ((with_reducible refine ldRow (U5.heap.size) #[.int .u64 (wd0 yfn), .int .u64 (wd1 yfn), .int .u64 (wd2 yfn), .int .u64 (wd3 yfn), .int .u64 (wd0 yfd), .int .u64 (wd1 yfd), .int .u64 (wd2 yfd), .int .u64 (wd3 yfd), .int .u64 (wd0 ytn), .int .u64 (wd1 ytn), .int .u64 (wd2 ytn), .int .u64 (wd3 ytn), .int .u64 (wd0 ytd), .int .u64 (wd1 ytd), .int .u64 (wd2 ytd), .int .u64 (wd3 ytd), .bool yfo, .bool yto] _ k6 ?_ ?_ ?_ ?_); rfl; exact ⟨_, rfl, rfl⟩; (as_aux_lemma => kernel_rfl); simp only [Act.put, List.setIfInBounds_toArray, List.set_cons_succ, List.set_cons_zero]) | ((with_reducible refine ldRow (U3.heap.size) #[.int .u64 (wd0 xfn), .int .u64 (wd1 xfn), .int .u64 (wd2 xfn), .int .u64 (wd3 xfn), .int .u64 (wd0 xfd), .int .u64 (wd1 xfd), .int .u64 (wd2 xfd), .int .u64 (wd3 xfd), .int .u64 (wd0 xtn), .int .u64 (wd1 xtn), .int .u64 (wd2 xtn), .int .u64 (wd3 xtn), .int .u64 (wd0 xtd), .int .u64 (wd1 xtd), .int .u64 (wd2 xtd), .int .u64 (wd3 xtd), .bool xfo, .bool xto] _ k5 ?_ ?_ ?_ ?_); rfl; exact ⟨_, rfl, rfl⟩; (as_aux_lemma => kernel_rfl); simp only [Act.put, List.setIfInBounds_toArray, List.set_cons_succ, List.set_cons_zero]))
  refine (pxAh_is yfn yfd ytn ytd yfo yto xfn xfd xtn xtd xfo xto (-1) HP15.out _iyfn _iyfd _iytn _iytd _ixfn _ixfd _ixtn _ixtd  _).mono ?_
  rintro e U8 ⟨rfl, hn⟩
  replace k2 := k2.of hn
  replace k3 := k3.of hn
  replace k4 := k4.of hn
  replace k5 := k5.of hn
  replace k6 := k6.of hn
  replace hb0 := hb0.trans (hn.mono hb0.size)
  clear hn
  obtain ⟨z1, hz1⟩ : ∃ o_o : Bool, (ax == bx) = o_o := ⟨_, rfl⟩
  cases z1
  · have nz1 : ¬ ax = bx := by simpa using hz1
    have nz1_ : ¬ bx = ax := fun e_ => nz1 e_.symm
    have c2_0 : U8.cell? ⟨q2, 0, none⟩ = some (.int .i64 ax) := k2.cell 0
    have c2_1 : U8.cell? ⟨q2, 1, none⟩ = some (.int .i64 ay) := k2.cell 1
    have c2_2 : U8.cell? ⟨q2, 2, none⟩ = some (.int .i64 bx) := k2.cell 2
    have c2_3 : U8.cell? ⟨q2, 3, none⟩ = some (.int .i64 b_y) := k2.cell 3
    have l2 := k2.lt
    have c3_0 : U8.cell? ⟨q3, 0, none⟩ = some (.int .i64 cx) := k3.cell 0
    have c3_1 : U8.cell? ⟨q3, 1, none⟩ = some (.int .i64 cy) := k3.cell 1
    have l3 := k3.lt
    have c4_0 : U8.cell? ⟨q4, 0, none⟩ = some (.int .i64 dx) := k4.cell 0
    have c4_1 : U8.cell? ⟨q4, 1, none⟩ = some (.int .i64 dy) := k4.cell 1
    have l4 := k4.lt
    have pr2_5 : q2 ≠ U3.heap.size := (by have := D7.out; omega)
    have pr3_5 : q3 ≠ U3.heap.size := (by have := D8.out; omega)
    have pr4_5 : q4 ≠ U3.heap.size := (by have := D9.out; omega)
    have pr2_6 : q2 ≠ U5.heap.size := (by have := D11.out; omega)
    have pr3_6 : q3 ≠ U5.heap.size := (by have := D12.out; omega)
    have pr4_6 : q4 ≠ U5.heap.size := (by have := D13.out; omega)
    go_wp2_with (first | ((with_reducible refine ldRow (U5.heap.size) #[.int .u64 (wd0 yfn), .int .u64 (wd1 yfn), .int .u64 (wd2 yfn), .int .u64 (wd3 yfn), .int .u64 (wd0 yfd), .int .u64 (wd1 yfd), .int .u64 (wd2 yfd), .int .u64 (wd3 yfd), .int .u64 (wd0 ytn), .int .u64 (wd1 ytn), .int .u64 (wd2 ytn), .int .u64 (wd3 ytn), .int .u64 (wd0 ytd), .int .u64 (wd1 ytd), .int .u64 (wd2 ytd), .int .u64 (wd3 ytd), .bool yfo, .bool yto] _ k6 ?_ ?_ ?_ ?_); rfl; exact ⟨_, rfl, rfl⟩; (as_aux_lemma => kernel_rfl); simp only [Act.put, List.setIfInBounds_toArray, List.set_cons_succ, List.set_cons_zero]) | ((with_reducible refine ldRow (U3.heap.size) #[.int .u64 (wd0 xfn), .int .u64 (wd1 xfn), .int .u64 (wd2 xfn), .int .u64 (wd3 xfn), .int .u64 (wd0 xfd), .int .u64 (wd1 xfd), .int .u64 (wd2 xfd), .int .u64 (wd3 xfd), .int .u64 (wd0 xtn), .int .u64 (wd1 xtn), .int .u64 (wd2 xtn), .int .u64 (wd3 xtn), .int .u64 (wd0 xtd), .int .u64 (wd1 xtd), .int .u64 (wd2 xtd), .int .u64 (wd3 xtd), .bool xfo, .bool xto] _ k5 ?_ ?_ ?_ ?_); rfl; exact ⟨_, rfl, rfl⟩; (as_aux_lemma => kernel_rfl); simp only [Act.put, List.setIfInBounds_toArray, List.set_cons_succ, List.set_cons_zero]) | ((with_reducible refine stRow (U3.heap.size) #[.int .u64 (wd0 yfn), .int .u64 (wd1 yfn), .int .u64 (wd2 yfn), .int .u64 (wd3 yfn), .int .u64 (wd0 yfd), .int .u64 (wd1 yfd), .int .u64 (wd2 yfd), .int .u64 (wd3 yfd), .int .u64 (wd0 ytn), .int .u64 (wd1 ytn), .int .u64 (wd2 ytn), .int .u64 (wd3 ytn), .int .u64 (wd0 ytd), .int .u64 (wd1 ytd), .int .u64 (wd2 ytd), .int .u64 (wd3 ytd), .bool yfo, .bool yto] _ _ k5 ?_ ?_ ?_ ?_ ?_ ?_); rfl; rfl; (as_aux_lemma => kernel_rfl); rfl; (as_aux_lemma => kernel_rfl); simp only [Act.put]) | ((with_reducible refine stRow (U5.heap.size) #[.int .u64 (wd0 xfn), .int .u64 (wd1 xfn), .int .u64 (wd2 xfn), .int .u64 (wd3 xfn), .int .u64 (wd0 xfd), .int .u64 (wd1 xfd), .int .u64 (wd2 xfd), .int .u64 (wd3 xfd), .int .u64 (wd0 xtn), .int .u64 (wd1 xtn), .int .u64 (wd2 xtn), .int .u64 (wd3 xtn), .int .u64 (wd0 xtd), .int .u64 (wd1 xtd), .int .u64 (wd2 xtd), .int .u64 (wd3 xtd), .bool xfo, .bool xto] _ _ (blk_rowo k6 (by have := D14.out; omega) _) ?_ ?_ ?_ ?_ ?_ ?_); rfl; rfl; (as_aux_lemma => kernel_rfl); rfl; (as_aux_lemma => kernel_rfl); simp only [Act.put]))
    clear c2_0 c2_1 c2_2 c2_3 l2 c3_0 c3_1 l3 c4_0 c4_1 l4 pr2_5 pr3_5 pr4_5 pr2_6 pr3_6 pr4_6
    first | refine calls_w ?_ | refine name_world ?_ | refine list_world ?_ | refine post_world ?_
    intro V9 hV9
    clear k2 k3 k4
    have D16 := Lib.hid k5.lt
    have D17 := Lib.hid k6.lt
    have D18 := Lib.hid hb0.size
    have nk5 : Blk V9 U3.heap.size #[.int .u64 (wd0 yfn), .int .u64 (wd1 yfn), .int .u64 (wd2 yfn), .int .u64 (wd3 yfn), .int .u64 (wd0 yfd), .int .u64 (wd1 yfd), .int .u64 (wd2 yfd), .int .u64 (wd3 yfd), .int .u64 (wd0 ytn), .int .u64 (wd1 ytn), .int .u64 (wd2 ytn), .int .u64 (wd3 ytn), .int .u64 (wd0 ytd), .int .u64 (wd1 ytd), .int .u64 (wd2 ytd), .int .u64 (wd3 ytd), .bool yfo, .bool yto] 54 := by rw [hV9]; exact (blk_rowo (blk_row k5 _) (by have := D14.out; omega) _)
    have nk6 : Blk V9 U5.heap.size #[.int .u64 (wd0 xfn), .int .u64 (wd1 xfn), .int .u64 (wd2 xfn), .int .u64 (wd3 xfn), .int .u64 (wd0 xfd), .int .u64 (wd1 xfd), .int .u64 (wd2 xfd), .int .u64 (wd3 xfd), .int .u64 (wd0 xtn), .int .u64 (wd1 xtn), .int .u64 (wd2 xtn), .int .u64 (wd3 xtn), .int .u64 (wd0 xtd), .int .u64 (wd1 xtd), .int .u64 (wd2 xtd), .int .u64 (wd3 xtd), .bool xfo, .bool xto] 54 := by rw [hV9]; exact (blk_row (blk_rowo k6 (by have := D14.out; omega) _) _)
    have nhb0 : Below w.heap.size w V9 := by rw [hV9]; exact (blw_row (blw_row hb0 (by have := D10.out; omega) _) (by have := D15.out; omega) _)
    clear k5 k6
    clear hb0
    clear hV9
    have k5 := nk5
    clear nk5
    have k6 := nk6
    clear nk6
    have hb0 := nhb0
    clear nhb0
    have c5_8 : V9.cell? ⟨U3.heap.size, 8, none⟩ = some (.int .u64 (wd0 ytn)) := k5.cell 8
    have c5_9 : V9.cell? ⟨U3.heap.size, 9, none⟩ = some (.int .u64 (wd1 ytn)) := k5.cell 9
    have c5_10 : V9.cell? ⟨U3.heap.size, 10, none⟩ = some (.int .u64 (wd2 ytn)) := k5.cell 10
    have c5_11 : V9.cell? ⟨U3.heap.size, 11, none⟩ = some (.int .u64 (wd3 ytn)) := k5.cell 11
    have c5_12 : V9.cell? ⟨U3.heap.size, 12, none⟩ = some (.int .u64 (wd0 ytd)) := k5.cell 12
    have c5_13 : V9.cell? ⟨U3.heap.size, 13, none⟩ = some (.int .u64 (wd1 ytd)) := k5.cell 13
    have c5_14 : V9.cell? ⟨U3.heap.size, 14, none⟩ = some (.int .u64 (wd2 ytd)) := k5.cell 14
    have c5_15 : V9.cell? ⟨U3.heap.size, 15, none⟩ = some (.int .u64 (wd3 ytd)) := k5.cell 15
    have l5 := k5.lt
    have c6_0 : V9.cell? ⟨U5.heap.size, 0, none⟩ = some (.int .u64 (wd0 xfn)) := k6.cell 0
    have c6_1 : V9.cell? ⟨U5.heap.size, 1, none⟩ = some (.int .u64 (wd1 xfn)) := k6.cell 1
    have c6_2 : V9.cell? ⟨U5.heap.size, 2, none⟩ = some (.int .u64 (wd2 xfn)) := k6.cell 2
    have c6_3 : V9.cell? ⟨U5.heap.size, 3, none⟩ = some (.int .u64 (wd3 xfn)) := k6.cell 3
    have c6_4 : V9.cell? ⟨U5.heap.size, 4, none⟩ = some (.int .u64 (wd0 xfd)) := k6.cell 4
    have c6_5 : V9.cell? ⟨U5.heap.size, 5, none⟩ = some (.int .u64 (wd1 xfd)) := k6.cell 5
    have c6_6 : V9.cell? ⟨U5.heap.size, 6, none⟩ = some (.int .u64 (wd2 xfd)) := k6.cell 6
    have c6_7 : V9.cell? ⟨U5.heap.size, 7, none⟩ = some (.int .u64 (wd3 xfd)) := k6.cell 7
    have l6 := k6.lt
    have Kk5 := Lib.hid k5
    clear k5
    have Kk6 := Lib.hid k6
    clear k6
    refine wp_region_up V9.heap.size 5 [(true, 0), (true, 1), (true, 3), (true, 4), (false, 2)] (by kernel_rfl) (by kernel_rfl) (fun _ _ d _ _ h => by cases d <;> exact h) ?_
    have hb : Below V9.heap.size V9 V9.drew := (Below.refl _ _).drew
    iterate 4
      refine wpS_takeL rfl rfl ?_
      go_big_quiet_step (rfl)
      refine wpQuiet_nil ?_
    refine wpS_doL rfl ?_
    intro K hK
    go_wp2_with ((go_at_call 38; (with_reducible refine (p15rat_is ytn ytd ytn ytd HP18.out HP19.out _iytn _iytd  _).mono ?_); rintro e w2 ⟨bn1, ba1, bl1, bc1, bn2, ba2, bl2, bc2, rfl, hbm1, hbm2, hn⟩; have HB1 := Lib.hid hbm1; have HB2 := Lib.hid hbm2; clear hbm1 hbm2))
    replace hb := hb.trans (hn.mono hb.size)
    refine hK.out _ _ (up_iff.2 hb) ?_
    clear hK K
    clear hn
    refine wpS_nil ?_
    simp only [List.drop_succ_cons, List.drop_zero]
    first | refine calls_w ?_ | refine name_world ?_ | refine list_world ?_ | refine post_world ?_
    intro U10 hU10
    first | (subst hU10; have u_ := U10; clear u_) | (rw [← hU10] at hb; clear hU10)
    clear c5_8 c5_9 c5_10 c5_11 c5_12 c5_13 c5_14 c5_15 l5 c6_0 c6_1 c6_2 c6_3 c6_4 c6_5 c6_6 c6_7 l6
    have k5 := Kk5.out.of hb
    clear Kk5
    have k6 := Kk6.out.of hb
    clear Kk6
    replace hb0 := hb0.trans (hb.mono hb0.size)
    clear hb
    go_wp2_with fail
    refine (p15rat_is xfn xfd xfn xfd HP20.out HP21.out _ixfn _ixfd  _).mono ?_
    rintro e U11 ⟨bn3, ba3, bl3, bc3, bn4, ba4, bl4, bc4, rfl, hbm3, hbm4, hn⟩
    replace k5 := k5.of hn
    replace k6 := k6.of hn
    replace HB1 := Lib.hid (HB1.out.of hn)
    replace HB2 := Lib.hid (HB2.out.of hn)
    replace hb0 := hb0.trans (hn.mono hb0.size)
    clear hn
    have HB3 := Lib.hid hbm3
    have HB4 := Lib.hid hbm4
    clear hbm3 hbm4
    go_wp2_with fail
    refine (rrC_is ytn ytd xfn xfd (-1) HP25.out  bn1 ba1 bl1 bc1 bn2 ba2 bl2 bc2 bn3 ba3 bl3 bc3 bn4 ba4 bl4 bc4 _ HB1.out HB2.out HB3.out HB4.out).mono ?_
    rintro e U12 ⟨rfl, hn⟩
    clear HB1 HB2 HB3 HB4
    replace k5 := k5.of hn
    replace k6 := k6.of hn
    replace hb0 := hb0.trans (hn.mono hb0.size)
    clear hn
    go_wp2_with fail
    refine (p15awake_any _).mono ?_
    rintro e U13 ⟨rfl, hn⟩
    clear k5 k6
    replace hb0 := hb0.trans (hn.mono hb0.size)
    clear hn
    go_wp2
    first | go_ret | go_ret2
    exact ⟨by first | rfl | (simp; done) | (simp; assumption), hb0⟩
  · have qz1 : ax = bx := by simpa using hz1
    clear hz1
    subst qz1
    obtain ⟨z2, hz2⟩ : ∃ o_o : Bool, (ay == b_y) = o_o := ⟨_, rfl⟩
    cases z2
    · have nz2 : ¬ ay = b_y := by simpa using hz2
      have nz2_ : ¬ b_y = ay := fun e_ => nz2 e_.symm
      have c2_0 : U8.cell? ⟨q2, 0, none⟩ = some (.int .i64 ax) := k2.cell 0
      have c2_1 : U8.cell? ⟨q2, 1, none⟩ = some (.int .i64 ay) := k2.cell 1
      have c2_2 : U8.cell? ⟨q2, 2, none⟩ = some (.int .i64 ax) := k2.cell 2
      have c2_3 : U8.cell? ⟨q2, 3, none⟩ = some (.int .i64 b_y) := k2.cell 3
      have l2 := k2.lt
      have c3_0 : U8.cell? ⟨q3, 0, none⟩ = some (.int .i64 cx) := k3.cell 0
      have c3_1 : U8.cell? ⟨q3, 1, none⟩ = some (.int .i64 cy) := k3.cell 1
      have l3 := k3.lt
      have c4_0 : U8.cell? ⟨q4, 0, none⟩ = some (.int .i64 dx) := k4.cell 0
      have c4_1 : U8.cell? ⟨q4, 1, none⟩ = some (.int .i64 dy) := k4.cell 1
      have l4 := k4.lt
      have pr2_5 : q2 ≠ U3.heap.size := (by have := D7.out; omega)
      have pr3_5 : q3 ≠ U3.heap.size := (by have := D8.out; omega)
      have pr4_5 : q4 ≠ U3.heap.size := (by have := D9.out; omega)
      have pr2_6 : q2 ≠ U5.heap.size := (by have := D11.out; omega)
      have pr3_6 : q3 ≠ U5.heap.size := (by have := D12.out; omega)
      have pr4_6 : q4 ≠ U5.heap.size := (by have := D13.out; omega)
      go_wp2_with (first | ((with_reducible refine ldRow (U5.heap.size) #[.int .u64 (wd0 yfn), .int .u64 (wd1 yfn), .int .u64 (wd2 yfn), .int .u64 (wd3 yfn), .int .u64 (wd0 yfd), .int .u64 (wd1 yfd), .int .u64 (wd2 yfd), .int .u64 (wd3 yfd), .int .u64 (wd0 ytn), .int .u64 (wd1 ytn), .int .u64 (wd2 ytn), .int .u64 (wd3 ytn), .int .u64 (wd0 ytd), .int .u64 (wd1 ytd), .int .u64 (wd2 ytd), .int .u64 (wd3 ytd), .bool yfo, .bool yto] _ k6 ?_ ?_ ?_ ?_); rfl; exact ⟨_, rfl, rfl⟩; (as_aux_lemma => kernel_rfl); simp only [Act.put, List.setIfInBounds_toArray, List.set_cons_succ, List.set_cons_zero]) | ((with_reducible refine ldRow (U3.heap.size) #[.int .u64 (wd0 xfn), .int .u64 (wd1 xfn), .int .u64 (wd2 xfn), .int .u64 (wd3 xfn), .int .u64 (wd0 xfd), .int .u64 (wd1 xfd), .int .u64 (wd2 xfd), .int .u64 (wd3 xfd), .int .u64 (wd0 xtn), .int .u64 (wd1 xtn), .int .u64 (wd2 xtn), .int .u64 (wd3 xtn), .int .u64 (wd0 xtd), .int .u64 (wd1 xtd), .int .u64 (wd2 xtd), .int .u64 (wd3 xtd), .bool xfo, .bool xto] _ k5 ?_ ?_ ?_ ?_); rfl; exact ⟨_, rfl, rfl⟩; (as_aux_lemma => kernel_rfl); simp only [Act.put, List.setIfInBounds_toArray, List.set_cons_succ, List.set_cons_zero]) | ((with_reducible refine stRow (U3.heap.size) #[.int .u64 (wd0 yfn), .int .u64 (wd1 yfn), .int .u64 (wd2 yfn), .int .u64 (wd3 yfn), .int .u64 (wd0 yfd), .int .u64 (wd1 yfd), .int .u64 (wd2 yfd), .int .u64 (wd3 yfd), .int .u64 (wd0 ytn), .int .u64 (wd1 ytn), .int .u64 (wd2 ytn), .int .u64 (wd3 ytn), .int .u64 (wd0 ytd), .int .u64 (wd1 ytd), .int .u64 (wd2 ytd), .int .u64 (wd3 ytd), .bool yfo, .bool yto] _ _ k5 ?_ ?_ ?_ ?_ ?_ ?_); rfl; rfl; (as_aux_lemma => kernel_rfl); rfl; (as_aux_lemma => kernel_rfl); simp only [Act.put]) | ((with_reducible refine stRow (U5.heap.size) #[.int .u64 (wd0 xfn), .int .u64 (wd1 xfn), .int .u64 (wd2 xfn), .int .u64 (wd3 xfn), .int .u64 (wd0 xfd), .int .u64 (wd1 xfd), .int .u64 (wd2 xfd), .int .u64 (wd3 xfd), .int .u64 (wd0 xtn), .int .u64 (wd1 xtn), .int .u64 (wd2 xtn), .int .u64 (wd3 xtn), .int .u64 (wd0 xtd), .int .u64 (wd1 xtd), .int .u64 (wd2 xtd), .int .u64 (wd3 xtd), .bool xfo, .bool xto] _ _ (blk_rowo k6 (by have := D14.out; omega) _) ?_ ?_ ?_ ?_ ?_ ?_); rfl; rfl; (as_aux_lemma => kernel_rfl); rfl; (as_aux_lemma => kernel_rfl); simp only [Act.put]))
      clear c2_0 c2_1 c2_2 c2_3 l2 c3_0 c3_1 l3 c4_0 c4_1 l4 pr2_5 pr3_5 pr4_5 pr2_6 pr3_6 pr4_6
      first | refine calls_w ?_ | refine name_world ?_ | refine list_world ?_ | refine post_world ?_
      intro V14 hV14
      clear k2 k3 k4
      have D19 := Lib.hid k5.lt
      have D20 := Lib.hid k6.lt
      have D21 := Lib.hid hb0.size
      have nk5 : Blk V14 U3.heap.size #[.int .u64 (wd0 yfn), .int .u64 (wd1 yfn), .int .u64 (wd2 yfn), .int .u64 (wd3 yfn), .int .u64 (wd0 yfd), .int .u64 (wd1 yfd), .int .u64 (wd2 yfd), .int .u64 (wd3 yfd), .int .u64 (wd0 ytn), .int .u64 (wd1 ytn), .int .u64 (wd2 ytn), .int .u64 (wd3 ytn), .int .u64 (wd0 ytd), .int .u64 (wd1 ytd), .int .u64 (wd2 ytd), .int .u64 (wd3 ytd), .bool yfo, .bool yto] 54 := by rw [hV14]; exact (blk_rowo (blk_row k5 _) (by have := D14.out; omega) _)
      have nk6 : Blk V14 U5.heap.size #[.int .u64 (wd0 xfn), .int .u64 (wd1 xfn), .int .u64 (wd2 xfn), .int .u64 (wd3 xfn), .int .u64 (wd0 xfd), .int .u64 (wd1 xfd), .int .u64 (wd2 xfd), .int .u64 (wd3 xfd), .int .u64 (wd0 xtn), .int .u64 (wd1 xtn), .int .u64 (wd2 xtn), .int .u64 (wd3 xtn), .int .u64 (wd0 xtd), .int .u64 (wd1 xtd), .int .u64 (wd2 xtd), .int .u64 (wd3 xtd), .bool xfo, .bool xto] 54 := by rw [hV14]; exact (blk_row (blk_rowo k6 (by have := D14.out; omega) _) _)
      have nhb0 : Below w.heap.size w V14 := by rw [hV14]; exact (blw_row (blw_row hb0 (by have := D10.out; omega) _) (by have := D15.out; omega) _)
      clear k5 k6
      clear hb0
      clear hV14
      have k5 := nk5
      clear nk5
      have k6 := nk6
      clear nk6
      have hb0 := nhb0
      clear nhb0
      have c5_8 : V14.cell? ⟨U3.heap.size, 8, none⟩ = some (.int .u64 (wd0 ytn)) := k5.cell 8
      have c5_9 : V14.cell? ⟨U3.heap.size, 9, none⟩ = some (.int .u64 (wd1 ytn)) := k5.cell 9
      have c5_10 : V14.cell? ⟨U3.heap.size, 10, none⟩ = some (.int .u64 (wd2 ytn)) := k5.cell 10
      have c5_11 : V14.cell? ⟨U3.heap.size, 11, none⟩ = some (.int .u64 (wd3 ytn)) := k5.cell 11
      have c5_12 : V14.cell? ⟨U3.heap.size, 12, none⟩ = some (.int .u64 (wd0 ytd)) := k5.cell 12
      have c5_13 : V14.cell? ⟨U3.heap.size, 13, none⟩ = some (.int .u64 (wd1 ytd)) := k5.cell 13
      have c5_14 : V14.cell? ⟨U3.heap.size, 14, none⟩ = some (.int .u64 (wd2 ytd)) := k5.cell 14
      have c5_15 : V14.cell? ⟨U3.heap.size, 15, none⟩ = some (.int .u64 (wd3 ytd)) := k5.cell 15
      have l5 := k5.lt
      have c6_0 : V14.cell? ⟨U5.heap.size, 0, none⟩ = some (.int .u64 (wd0 xfn)) := k6.cell 0
      have c6_1 : V14.cell? ⟨U5.heap.size, 1, none⟩ = some (.int .u64 (wd1 xfn)) := k6.cell 1
      have c6_2 : V14.cell? ⟨U5.heap.size, 2, none⟩ = some (.int .u64 (wd2 xfn)) := k6.cell 2
      have c6_3 : V14.cell? ⟨U5.heap.size, 3, none⟩ = some (.int .u64 (wd3 xfn)) := k6.cell 3
      have c6_4 : V14.cell? ⟨U5.heap.size, 4, none⟩ = some (.int .u64 (wd0 xfd)) := k6.cell 4
      have c6_5 : V14.cell? ⟨U5.heap.size, 5, none⟩ = some (.int .u64 (wd1 xfd)) := k6.cell 5
      have c6_6 : V14.cell? ⟨U5.heap.size, 6, none⟩ = some (.int .u64 (wd2 xfd)) := k6.cell 6
      have c6_7 : V14.cell? ⟨U5.heap.size, 7, none⟩ = some (.int .u64 (wd3 xfd)) := k6.cell 7
      have l6 := k6.lt
      have Kk5 := Lib.hid k5
      clear k5
      have Kk6 := Lib.hid k6
      clear k6
      refine wp_region_up V14.heap.size 5 [(true, 0), (true, 1), (true, 3), (true, 4), (false, 2)] (by kernel_rfl) (by kernel_rfl) (fun _ _ d _ _ h => by cases d <;> exact h) ?_
      have hb : Below V14.heap.size V14 V14.drew := (Below.refl _ _).drew
      iterate 4
        refine wpS_takeL rfl rfl ?_
        go_big_quiet_step (rfl)
        refine wpQuiet_nil ?_
      refine wpS_doL rfl ?_
      intro K hK
      go_wp2_with ((go_at_call 38; (with_reducible refine (p15rat_is ytn ytd ytn ytd HP18.out HP19.out _iytn _iytd  _).mono ?_); rintro e w2 ⟨bn5, ba5, bl5, bc5, bn6, ba6, bl6, bc6, rfl, hbm5, hbm6, hn⟩; have HB5 := Lib.hid hbm5; have HB6 := Lib.hid hbm6; clear hbm5 hbm6))
      replace hb := hb.trans (hn.mono hb.size)
      refine hK.out _ _ (up_iff.2 hb) ?_
      clear hK K
      clear hn
      refine wpS_nil ?_
      simp only [List.drop_succ_cons, List.drop_zero]
      first | refine calls_w ?_ | refine name_world ?_ | refine list_world ?_ | refine post_world ?_
      intro U15 hU15
      first | (subst hU15; have u_ := U15; clear u_) | (rw [← hU15] at hb; clear hU15)
      clear c5_8 c5_9 c5_10 c5_11 c5_12 c5_13 c5_14 c5_15 l5 c6_0 c6_1 c6_2 c6_3 c6_4 c6_5 c6_6 c6_7 l6
      have k5 := Kk5.out.of hb
      clear Kk5
      have k6 := Kk6.out.of hb
      clear Kk6
      replace hb0 := hb0.trans (hb.mono hb0.size)
      clear hb
      go_wp2_with fail
      refine (p15rat_is xfn xfd xfn xfd HP20.out HP21.out _ixfn _ixfd  _).mono ?_
      rintro e U16 ⟨bn7, ba7, bl7, bc7, bn8, ba8, bl8, bc8, rfl, hbm7, hbm8, hn⟩
      replace k5 := k5.of hn
      replace k6 := k6.of hn
      replace HB5 := Lib.hid (HB5.out.of hn)
      replace HB6 := Lib.hid (HB6.out.of hn)
      replace hb0 := hb0.trans (hn.mono hb0.size)
      clear hn
      have HB7 := Lib.hid hbm7
      have HB8 := Lib.hid hbm8
      clear hbm7 hbm8
      go_wp2_with fail
      refine (rrC_is ytn ytd xfn xfd (-1) HP25.out  bn5 ba5 bl5 bc5 bn6 ba6 bl6 bc6 bn7 ba7 bl7 bc7 bn8 ba8 bl8 bc8 _ HB5.out HB6.out HB7.out HB8.out).mono ?_
      rintro e U17 ⟨rfl, hn⟩
      clear HB5 HB6 HB7 HB8
      replace k5 := k5.of hn
      replace k6 := k6.of hn
      replace hb0 := hb0.trans (hn.mono hb0.size)
      clear hn
      go_wp2_with fail
      refine (p15awake_any _).mono ?_
      rintro e U18 ⟨rfl, hn⟩
      clear k5 k6
      replace hb0 := hb0.trans (hn.mono hb0.size)
      clear hn
      go_wp2
      first | go_ret | go_ret2
      exact ⟨by first | rfl | (simp; done) | (simp; assumption), hb0⟩
    · have qz2 : ay = b_y := by simpa using hz2
      clear hz2
      subst qz2
      have c2_0 : U8.cell? ⟨q2, 0, none⟩ = some (.int .i64 ax) := k2.cell 0
      have c2_1 : U8.cell? ⟨q2, 1, none⟩ = some (.int .i64 ay) := k2.cell 1
      have c2_2 : U8.cell? ⟨q2, 2, none⟩ = some (.int .i64 ax) := k2.cell 2
      have c2_3 : U8.cell? ⟨q2, 3, none⟩ = some (.int .i64 ay) := k2.cell 3
      have l2 := k2.lt
      go_wp2_with fail
      clear c2_0 c2_1 c2_2 c2_3 l2
      refine (p15awake_any _).mono ?_
      rintro e U19 ⟨rfl, hn⟩
      clear k2
      replace k3 := k3.of hn
      replace k4 := k4.of hn
      replace k5 := k5.of hn
      replace k6 := k6.of hn
      replace hb0 := hb0.trans (hn.mono hb0.size)
      clear hn
      go_wp2
      first | go_ret | go_ret2
      exact ⟨by first | rfl | (simp; done) | (simp; assumption), hb0⟩

set_option maxRecDepth 100000 in
set_option maxHeartbeats 4000000 in

theorem PAh_011 (ax : Int) (ay : Int) (bx : Int) (b_y : Int) (cx : Int) (cy : Int) (dx : Int) (dy : Int) (n : Int) (xfn : Int) (xfd : Int) (xtn : Int) (xtd : Int) (xfo : Bool) (xto : Bool) (yfn : Int) (yfd : Int) (ytn : Int) (ytd : Int) (yfo : Bool)   (hP0 : cufn ax ay bx b_y cx cy n = xfn) (hP1 : cufd ax ay bx b_y cx cy n = xfd) (hP2 : cutn ax ay bx b_y cx cy n = xtn) (hP3 : cutd ax ay bx b_y cx cy n = xtd) (hP4 : cufo ax ay bx b_y cx cy n = xfo) (hP5 : cuto ax ay bx b_y cx cy n = xto) (hP6 : cufn ax ay bx b_y dx dy n = yfn) (hP7 : cufd ax ay bx b_y dx dy n = yfd) (hP8 : cutn ax ay bx b_y dx dy n = ytn) (hP9 : cutd ax ay bx b_y dx dy n = ytd) (hP10 : cufo ax ay bx b_y dx dy n = yfo) (hP11 : cuto ax ay bx b_y dx dy n = true) (hP12 : cuk ax ay bx b_y cx cy n = true) (hP13 : cuk ax ay bx b_y dx dy n = true) (hP14 : pxA xfn xfd xtn xtd xfo xto yfn yfd ytn ytd yfo true = 1) (hP15 : pxA yfn yfd ytn ytd yfo true xfn xfd xtn xtd xfo xto = (-1)) (hP16 : p15n xtn xtd = xtn) (hP17 : p15d xtn xtd = xtd) (hP18 : p15n ytn ytd = ytn) (hP19 : p15d ytn ytd = ytd) (hP20 : p15n xfn xfd = xfn) (hP21 : p15d xfn xfd = xfd) (hP22 : p15n yfn yfd = yfn) (hP23 : p15d yfn yfd = yfd) (hP24 : (cx == dx) = false) (hP25 : rrC ytn ytd xfn xfd = 0) (_ixfn : InI xfn) (_ixfd : InI xfd) (_ixtn : InI xtn) (_ixtd : InI xtd) (_iyfn : InI yfn) (_iyfd : InI yfd) (_iytn : InI ytn) (_iytd : InI ytd) (_iax : In64 ax) (_iay : In64 ay) (_ibx : In64 bx) (_ib_y : In64 b_y) (_icx : In64 cx) (_icy : In64 cy) (_idx : In64 dx) (_idy : In64 dy) (_in : In64 n)  (w : World)  :
    Calls Try.prog 7 #[.agg #[.int .i64 ax, .int .i64 ay, .int .i64 bx, .int .i64 b_y, .int .i64 cx, .int .i64 cy, .int .i64 dx, .int .i64 dy, .int .i64 n]] w fun e w' => e = .returned (.bool true) ∧ Below w.heap.size w w' := by

  have HP0 := Lib.hid hP0
  clear hP0
  have HP1 := Lib.hid hP1
  clear hP1
  have HP2 := Lib.hid hP2
  clear hP2
  have HP3 := Lib.hid hP3
  clear hP3
  have HP4 := Lib.hid hP4
  clear hP4
  have HP5 := Lib.hid hP5
  clear hP5
  have HP6 := Lib.hid hP6
  clear hP6
  have HP7 := Lib.hid hP7
  clear hP7
  have HP8 := Lib.hid hP8
  clear hP8
  have HP9 := Lib.hid hP9
  clear hP9
  have HP10 := Lib.hid hP10
  clear hP10
  have HP11 := Lib.hid hP11
  clear hP11
  have HP12 := Lib.hid hP12
  clear hP12
  have HP13 := Lib.hid hP13
  clear hP13
  have HP14 := Lib.hid hP14
  clear hP14
  have HP15 := Lib.hid hP15
  clear hP15
  have HP16 := Lib.hid hP16
  clear hP16
  have HP17 := Lib.hid hP17
  clear hP17
  have HP18 := Lib.hid hP18
  clear hP18
  have HP19 := Lib.hid hP19
  clear hP19
  have HP20 := Lib.hid hP20
  clear hP20
  have HP21 := Lib.hid hP21
  clear hP21
  have HP22 := Lib.hid hP22
  clear hP22
  have HP23 := Lib.hid hP23
  clear hP23
  have nP24 : ¬ cx = dx := by simpa using hP24
  have HP25 := Lib.hid hP25
  clear hP25
  go_enter Try.func7, Try.ntmps7
  go_wp2_with fail
  first | refine calls_w ?_ | refine name_world ?_ | refine list_world ?_ | refine post_world ?_
  intro V1 hV1
  have hn : Below w.heap.size w V1 := by rw [hV1]; exact below_a1 _ _
  have nhb0 := hn
  have k1 : Blk V1 w.heap.size #[.int .i64 ax, .int .i64 ay, .int .i64 bx, .int .i64 b_y, .int .i64 cx, .int .i64 cy, .int .i64 dx, .int .i64 dy, .int .i64 n] 79 := by rw [hV1]; exact (Blk.new _ _ _)
  clear hV1
  have hb0 := nhb0
  clear nhb0
  have c1_0 : V1.cell? ⟨w.heap.size, 0, none⟩ = some (.int .i64 ax) := k1.cell 0
  have c1_1 : V1.cell? ⟨w.heap.size, 1, none⟩ = some (.int .i64 ay) := k1.cell 1
  have c1_2 : V1.cell? ⟨w.heap.size, 2, none⟩ = some (.int .i64 bx) := k1.cell 2
  have c1_3 : V1.cell? ⟨w.heap.size, 3, none⟩ = some (.int .i64 b_y) := k1.cell 3
  have c1_4 : V1.cell? ⟨w.heap.size, 4, none⟩ = some (.int .i64 cx) := k1.cell 4
  have c1_5 : V1.cell? ⟨w.heap.size, 5, none⟩ = some (.int .i64 cy) := k1.cell 5
  have c1_6 : V1.cell? ⟨w.heap.size, 6, none⟩ = some (.int .i64 dx) := k1.cell 6
  have c1_7 : V1.cell? ⟨w.heap.size, 7, none⟩ = some (.int .i64 dy) := k1.cell 7
  have c1_8 : V1.cell? ⟨w.heap.size, 8, none⟩ = some (.int .i64 n) := k1.cell 8
  have l1 := k1.lt
  have Kk1 := Lib.hid k1
  clear k1
  refine Stay.wp_region_FG3 11 8 9 10 [(0, 0), (0, 1), (0, 2), (0, 3), (0, 4), (0, 5), (0, 6), (0, 7)] [(1, 11), (1, 12), (1, 13), (0, 14)] (by kernel_rfl) (by kernel_rfl) (fun _ _ d _ _ => by cases d <;> exact Iff.rfl) rfl rfl rfl rfl alPxL5_0 rfl rfl rfl alPxL5_1 rfl rfl rfl alPxL5_1 ?_
  have hb : Below V1.heap.size V1 V1.drew := (Below.refl _ _).drew
  iterate 8
    refine wpFG_take0 rfl rfl ?_
    go_big_quiet_step (rfl)
    refine wpQuiet_nil ?_
  refine wpFG_nil ?_
  clear hb
  rintro w1 hg hb b1 b2 b3 hne ⟨lb1, nb1⟩ ⟨lb2, nb2⟩ ⟨lb3, nb3⟩
  clear hg
  simp only [Act.put, ptrTo, List.setIfInBounds_toArray, List.set_cons_succ, List.set_cons_zero]
  have m1 : Blk w1 b1 #[.int .i64 0, .int .i64 0, .int .i64 0, .int .i64 0] 50 := nb1
  have mc1_0 : w1.cell? ⟨b1, 0, none⟩ = some (.int .i64 0) := m1.cell 0
  have mf1_0 := m1.free 0
  have mc1_1 : w1.cell? ⟨b1, 1, none⟩ = some (.int .i64 0) := m1.cell 1
  have mf1_1 := m1.free 1
  have mc1_2 : w1.cell? ⟨b1, 2, none⟩ = some (.int .i64 0) := m1.cell 2
  have mf1_2 := m1.free 2
  have mc1_3 : w1.cell? ⟨b1, 3, none⟩ = some (.int .i64 0) := m1.cell 3
  have mf1_3 := m1.free 3
  have m2 : Blk w1 b2 #[.int .i64 0, .int .i64 0] 24 := nb2
  have mc2_0 : w1.cell? ⟨b2, 0, none⟩ = some (.int .i64 0) := m2.cell 0
  have mf2_0 := m2.free 0
  have mc2_1 : w1.cell? ⟨b2, 1, none⟩ = some (.int .i64 0) := m2.cell 1
  have mf2_1 := m2.free 1
  have m3 : Blk w1 b3 #[.int .i64 0, .int .i64 0] 24 := nb3
  have mc3_0 : w1.cell? ⟨b3, 0, none⟩ = some (.int .i64 0) := m3.cell 0
  have mf3_0 := m3.free 0
  have mc3_1 : w1.cell? ⟨b3, 1, none⟩ = some (.int .i64 0) := m3.cell 1
  have mf3_1 := m3.free 1
  refine wpG_do1 rfl ?_
  intro K hK
  go_wp2_with fail
  refine hK.out _ _ (up_iff.2 (by repeat' (first | with_reducible refine Below.setCell ?_ ?_ _ | with_reducible exact hb | with_reducible exact lb1 | with_reducible exact lb2 | with_reducible exact lb3))) ?_
  clear hK K
  refine wpG_do1 rfl ?_
  intro K hK
  go_wp2_with fail
  refine hK.out _ _ (up_iff.2 (by repeat' (first | with_reducible refine Below.setCell ?_ ?_ _ | with_reducible exact hb | with_reducible exact lb1 | with_reducible exact lb2 | with_reducible exact lb3))) ?_
  clear hK K
  refine wpG_do1 rfl ?_
  intro K hK
  go_wp2_with fail
  refine hK.out _ _ (up_iff.2 (by repeat' (first | with_reducible refine Below.setCell ?_ ?_ _ | with_reducible exact hb | with_reducible exact lb1 | with_reducible exact lb2 | with_reducible exact lb3))) ?_
  clear hK K
  refine wpG_take0 rfl rfl ?_
  go_big_quiet_step (rfl)
  refine wpQuiet_nil ?_
  refine wpG_nil ?_
  refine list_world ?_
  intro U2 hU2
  clear c1_0 c1_1 c1_2 c1_3 c1_4 c1_5 c1_6 c1_7 c1_8 l1
  have D1 := Lib.hid Kk1.out.lt
  have D2 := Lib.hid hb0.size
  have D3 := Lib.hid lb1
  have D4 := Lib.hid lb2
  have D5 := Lib.hid lb3
  have D6 := Lib.hid hne
  have k1 : Blk U2 w.heap.size #[.int .i64 ax, .int .i64 ay, .int .i64 bx, .int .i64 b_y, .int .i64 cx, .int .i64 cy, .int .i64 dx, .int .i64 dy, .int .i64 n] 79 := by rw [hU2]; exact (blk_setL (blk_setL (blk_setL (Kk1.out.of hb) (by have := D1.out; have := D3.out; omega) 0 [.int .i64 ax, .int .i64 ay, .int .i64 bx, .int .i64 b_y]) (by have := D1.out; have := D4.out; omega) 0 [.int .i64 cx, .int .i64 cy]) (by have := D1.out; have := D5.out; omega) 0 [.int .i64 dx, .int .i64 dy])
  have k2 : Blk U2 b1 #[.int .i64 ax, .int .i64 ay, .int .i64 bx, .int .i64 b_y] 50 := by rw [hU2]; exact (blk_setL (blk_setL (blk_full _ [.int .i64 ax, .int .i64 ay, .int .i64 bx, .int .i64 b_y] m1 rfl) (by have := D6.out; omega) 0 [.int .i64 cx, .int .i64 cy]) (by have := D6.out; omega) 0 [.int .i64 dx, .int .i64 dy])
  have k3 : Blk U2 b2 #[.int .i64 cx, .int .i64 cy] 24 := by rw [hU2]; exact (blk_setL (blk_full _ [.int .i64 cx, .int .i64 cy] (blk_setL m2 (by have := D6.out; omega) 0 [.int .i64 ax, .int .i64 ay, .int .i64 bx, .int .i64 b_y]) rfl) (by have := D6.out; omega) 0 [.int .i64 dx, .int .i64 dy])
  have k4 : Blk U2 b3 #[.int .i64 dx, .int .i64 dy] 24 := by rw [hU2]; exact (blk_full _ [.int .i64 dx, .int .i64 dy] (blk_setL (blk_setL m3 (by have := D6.out; omega) 0 [.int .i64 ax, .int .i64 ay, .int .i64 bx, .int .i64 b_y]) (by have := D6.out; omega) 0 [.int .i64 cx, .int .i64 cy]) rfl)
  replace hb0 : Below w.heap.size w U2 := by rw [hU2]; exact (blw_setL (blw_setL (blw_setL (hb0.trans (hb.mono hb0.size)) (by have := D2.out; have := D3.out; omega) 0 [.int .i64 ax, .int .i64 ay, .int .i64 bx, .int .i64 b_y]) (by have := D2.out; have := D4.out; omega) 0 [.int .i64 cx, .int .i64 cy]) (by have := D2.out; have := D5.out; omega) 0 [.int .i64 dx, .int .i64 dy])
  clear hU2 hb Kk1 m1 nb1 lb1 mc1_0 mf1_0 mc1_1 mf1_1 mc1_2 mf1_2 mc1_3 mf1_3 m2 nb2 lb2 mc2_0 mf2_0 mc2_1 mf2_1 m3 nb3 lb3 mc3_0 mf3_0 mc3_1 mf3_1 hne
  generalize b1 = q2 at *
  generalize b2 = q3 at *
  generalize b3 = q4 at *
  have c2_0 : U2.cell? ⟨q2, 0, none⟩ = some (.int .i64 ax) := k2.cell 0
  have c2_1 : U2.cell? ⟨q2, 1, none⟩ = some (.int .i64 ay) := k2.cell 1
  have c2_2 : U2.cell? ⟨q2, 2, none⟩ = some (.int .i64 bx) := k2.cell 2
  have c2_3 : U2.cell? ⟨q2, 3, none⟩ = some (.int .i64 b_y) := k2.cell 3
  have l2 := k2.lt
  have c3_0 : U2.cell? ⟨q3, 0, none⟩ = some (.int .i64 cx) := k3.cell 0
  have c3_1 : U2.cell? ⟨q3, 1, none⟩ = some (.int .i64 cy) := k3.cell 1
  have l3 := k3.lt
  go_wp2_with fail
  clear c2_0 c2_1 c2_2 c2_3 l2 c3_0 c3_1 l3
  refine (cut_v ax ay bx b_y cx cy n xfn xfd xtn xtd xfo xto true HP0.out HP1.out HP2.out HP3.out HP4.out HP5.out HP12.out _iax _iay _ibx _ib_y _icx _icy _in _).mono ?_
  rintro e U3 ⟨rfl, hn⟩
  clear k1
  replace k2 := k2.of hn
  replace k3 := k3.of hn
  replace k4 := k4.of hn
  replace hb0 := hb0.trans (hn.mono hb0.size)
  clear hn
  have c2_0 : U3.cell? ⟨q2, 0, none⟩ = some (.int .i64 ax) := k2.cell 0
  have c2_1 : U3.cell? ⟨q2, 1, none⟩ = some (.int .i64 ay) := k2.cell 1
  have c2_2 : U3.cell? ⟨q2, 2, none⟩ = some (.int .i64 bx) := k2.cell 2
  have c2_3 : U3.cell? ⟨q2, 3, none⟩ = some (.int .i64 b_y) := k2.cell 3
  have l2 := k2.lt
  have c4_0 : U3.cell? ⟨q4, 0, none⟩ = some (.int .i64 dx) := k4.cell 0
  have c4_1 : U3.cell? ⟨q4, 1, none⟩ = some (.int .i64 dy) := k4.cell 1
  have l4 := k4.lt
  have pr2_5 : q2 ≠ U3.heap.size := (by have := k2.lt; omega)
  have pr4_5 : q4 ≠ U3.heap.size := (by have := k4.lt; omega)
  go_wp2_with (first | ((with_reducible refine stRow (U3.heap.size) #[.int .u64 (wd0 xfn), .int .u64 (wd1 xfn), .int .u64 (wd2 xfn), .int .u64 (wd3 xfn), .int .u64 (wd0 xfd), .int .u64 (wd1 xfd), .int .u64 (wd2 xfd), .int .u64 (wd3 xfd), .int .u64 (wd0 xtn), .int .u64 (wd1 xtn), .int .u64 (wd2 xtn), .int .u64 (wd3 xtn), .int .u64 (wd0 xtd), .int .u64 (wd1 xtd), .int .u64 (wd2 xtd), .int .u64 (wd3 xtd), .bool xfo, .bool xto] _ _ (Blk.new _ _ _) ?_ ?_ ?_ ?_ ?_ ?_); rfl; rfl; (as_aux_lemma => kernel_rfl); rfl; (as_aux_lemma => kernel_rfl); simp only [Act.put]))
  clear c2_0 c2_1 c2_2 c2_3 l2 c4_0 c4_1 l4 pr2_5 pr4_5
  first | refine calls_w ?_ | refine name_world ?_ | refine list_world ?_ | refine post_world ?_
  intro V4 hV4
  rw [World.setRow_alloc_new] at hV4
  have D7 := Lib.hid k2.lt
  have D8 := Lib.hid k3.lt
  have D9 := Lib.hid k4.lt
  have D10 := Lib.hid hb0.size
  have hn : Below U3.heap.size U3 V4 := by rw [hV4]; exact below_a1 _ _
  have nk2 := k2.of hn
  have nk3 := k3.of hn
  have nk4 := k4.of hn
  have nhb0 := hb0.trans (hn.mono hb0.size)
  clear hn
  have k5 : Blk V4 U3.heap.size #[.int .u64 (wd0 xfn), .int .u64 (wd1 xfn), .int .u64 (wd2 xfn), .int .u64 (wd3 xfn), .int .u64 (wd0 xfd), .int .u64 (wd1 xfd), .int .u64 (wd2 xfd), .int .u64 (wd3 xfd), .int .u64 (wd0 xtn), .int .u64 (wd1 xtn), .int .u64 (wd2 xtn), .int .u64 (wd3 xtn), .int .u64 (wd0 xtd), .int .u64 (wd1 xtd), .int .u64 (wd2 xtd), .int .u64 (wd3 xtd), .bool xfo, .bool xto] 54 := by rw [hV4]; exact (Blk.new _ _ _)
  clear k2 k3 k4
  clear hb0
  clear hV4
  have k2 := nk2
  clear nk2
  have k3 := nk3
  clear nk3
  have k4 := nk4
  clear nk4
  have hb0 := nhb0
  clear nhb0
  refine (cut_v ax ay bx b_y dx dy n yfn yfd ytn ytd yfo true true HP6.out HP7.out HP8.out HP9.out HP10.out HP11.out HP13.out _iax _iay _ibx _ib_y _idx _idy _in _).mono ?_
  rintro e U5 ⟨rfl, hn⟩
  replace k2 := k2.of hn
  replace k3 := k3.of hn
  replace k4 := k4.of hn
  replace k5 := k5.of hn
  replace hb0 := hb0.trans (hn.mono hb0.size)
  clear hn
  go_wp2_with (first | ((with_reducible refine stRow (U5.heap.size) #[.int .u64 (wd0 yfn), .int .u64 (wd1 yfn), .int .u64 (wd2 yfn), .int .u64 (wd3 yfn), .int .u64 (wd0 yfd), .int .u64 (wd1 yfd), .int .u64 (wd2 yfd), .int .u64 (wd3 yfd), .int .u64 (wd0 ytn), .int .u64 (wd1 ytn), .int .u64 (wd2 ytn), .int .u64 (wd3 ytn), .int .u64 (wd0 ytd), .int .u64 (wd1 ytd), .int .u64 (wd2 ytd), .int .u64 (wd3 ytd), .bool yfo, .bool true] _ _ (Blk.new _ _ _) ?_ ?_ ?_ ?_ ?_ ?_); rfl; rfl; (as_aux_lemma => kernel_rfl); rfl; (as_aux_lemma => kernel_rfl); simp only [Act.put]) | ((with_reducible refine ldRow (U3.heap.size) #[.int .u64 (wd0 xfn), .int .u64 (wd1 xfn), .int .u64 (wd2 xfn), .int .u64 (wd3 xfn), .int .u64 (wd0 xfd), .int .u64 (wd1 xfd), .int .u64 (wd2 xfd), .int .u64 (wd3 xfd), .int .u64 (wd0 xtn), .int .u64 (wd1 xtn), .int .u64 (wd2 xtn), .int .u64 (wd3 xtn), .int .u64 (wd0 xtd), .int .u64 (wd1 xtd), .int .u64 (wd2 xtd), .int .u64 (wd3 xtd), .bool xfo, .bool xto] _ (blk_rowo (k5.alloc _) (by have := k5.lt; omega) _) ?_ ?_ ?_ ?_); rfl; exact ⟨_, rfl, rfl⟩; (as_aux_lemma => kernel_rfl); simp only [Act.put, List.setIfInBounds_toArray, List.set_cons_succ, List.set_cons_zero]) | ((with_reducible refine ldRow (U5.heap.size) #[.int .u64 (wd0 yfn), .int .u64 (wd1 yfn), .int .u64 (wd2 yfn), .int .u64 (wd3 yfn), .int .u64 (wd0 yfd), .int .u64 (wd1 yfd), .int .u64 (wd2 yfd), .int .u64 (wd3 yfd), .int .u64 (wd0 ytn), .int .u64 (wd1 ytn), .int .u64 (wd2 ytn), .int .u64 (wd3 ytn), .int .u64 (wd0 ytd), .int .u64 (wd1 ytd), .int .u64 (wd2 ytd), .int .u64 (wd3 ytd), .bool yfo, .bool true] _ (blk_row (Blk.new _ _ _) _) ?_ ?_ ?_ ?_); rfl; exact ⟨_, rfl, rfl⟩; (as_aux_lemma => kernel_rfl); simp only [Act.put, List.setIfInBounds_toArray, List.set_cons_succ, List.set_cons_zero]))
  first | refine calls_w ?_ | refine name_world ?_ | refine list_world ?_ | refine post_world ?_
  intro V6 hV6
  rw [World.setRow_alloc_new] at hV6
  have D11 := Lib.hid k2.lt
  have D12 := Lib.hid k3.lt
  have D13 := Lib.hid k4.lt
  have D14 := Lib.hid k5.lt
  have D15 := Lib.hid hb0.size
  have hn : Below U5.heap.size U5 V6 := by rw [hV6]; exact below_a1 _ _
  have nk2 := k2.of hn
  have nk3 := k3.of hn
  have nk4 := k4.of hn
  have nk5 := k5.of hn
  have nhb0 := hb0.trans (hn.mono hb0.size)
  clear hn
  have k6 : Blk V6 U5.heap.size #[.int .u64 (wd0 yfn), .int .u64 (wd1 yfn), .int .u64 (wd2 yfn), .int .u64 (wd3 yfn), .int .u64 (wd0 yfd), .int .u64 (wd1 yfd), .int .u64 (wd2 yfd), .int .u64 (wd3 yfd), .int .u64 (wd0 ytn), .int .u64 (wd1 ytn), .int .u64 (wd2 ytn), .int .u64 (wd3 ytn), .int .u64 (wd0 ytd), .int .u64 (wd1 ytd), .int .u64 (wd2 ytd), .int .u64 (wd3 ytd), .bool yfo, .bool true] 54 := by rw [hV6]; exact (Blk.new _ _ _)
  clear k2 k3 k4 k5
  clear hb0
  clear hV6
  have k2 := nk2
  clear nk2
  have k3 := nk3
  clear nk3
  have k4 := nk4
  clear nk4
  have k5 := nk5
  clear nk5
  have hb0 := nhb0
  clear nhb0
  refine (pxAh_is xfn xfd xtn xtd xfo xto yfn yfd ytn ytd yfo true 1 HP14.out _ixfn _ixfd _ixtn _ixtd _iyfn _iyfd _iytn _iytd  _).mono ?_
  rintro e U7 ⟨rfl, hn⟩
  replace k2 := k2.of hn
  replace k3 := k3.of hn
  replace k4 := k4.of hn
  replace k5 := k5.of hn
  replace k6 := k6.of hn
  replace hb0 := hb0.trans (hn.mono hb0.size)
  clear hn
  go_wp2_with (first | ((with_reducible refine ldRow (U5.heap.size) #[.int .u64 (wd0 yfn), .int .u64 (wd1 yfn), .int .u64 (wd2 yfn), .int .u64 (wd3 yfn), .int .u64 (wd0 yfd), .int .u64 (wd1 yfd), .int .u64 (wd2 yfd), .int .u64 (wd3 yfd), .int .u64 (wd0 ytn), .int .u64 (wd1 ytn), .int .u64 (wd2 ytn), .int .u64 (wd3 ytn), .int .u64 (wd0 ytd), .int .u64 (wd1 ytd), .int .u64 (wd2 ytd), .int .u64 (wd3 ytd), .bool yfo, .bool true] _ k6 ?_ ?_ ?_ ?_); rfl; exact ⟨_, rfl, rfl⟩; (as_aux_lemma => kernel_rfl); simp only [Act.put, List.setIfInBounds_toArray, List.set_cons_succ, List.set_cons_zero]) | ((with_reducible refine ldRow (U3.heap.size) #[.int .u64 (wd0 xfn), .int .u64 (wd1 xfn), .int .u64 (wd2 xfn), .int .u64 (wd3 xfn), .int .u64 (wd0 xfd), .int .u64 (wd1 xfd), .int .u64 (wd2 xfd), .int .u64 (wd3 xfd), .int .u64 (wd0 xtn), .int .u64 (wd1 xtn), .int .u64 (wd2 xtn), .int .u64 (wd3 xtn), .int .u64 (wd0 xtd), .int .u64 (wd1 xtd), .int .u64 (wd2 xtd), .int .u64 (wd3 xtd), .bool xfo, .bool xto] _ k5 ?_ ?_ ?_ ?_); rfl; exact ⟨_, rfl, rfl⟩; (as_aux_lemma => kernel_rfl); simp only [Act.put, List.setIfInBounds_toArray, List.set_cons_succ, List.set_cons_zero]))
  refine (pxAh_is yfn yfd ytn ytd yfo true xfn xfd xtn xtd xfo xto (-1) HP15.out _iyfn _iyfd _iytn _iytd _ixfn _ixfd _ixtn _ixtd  _).mono ?_
  rintro e U8 ⟨rfl, hn⟩
  replace k2 := k2.of hn
  replace k3 := k3.of hn
  replace k4 := k4.of hn
  replace k5 := k5.of hn
  replace k6 := k6.of hn
  replace hb0 := hb0.trans (hn.mono hb0.size)
  clear hn
  obtain ⟨z1, hz1⟩ : ∃ o_o : Bool, (ax == bx) = o_o := ⟨_, rfl⟩
  cases z1
  · have nz1 : ¬ ax = bx := by simpa using hz1
    have nz1_ : ¬ bx = ax := fun e_ => nz1 e_.symm
    have c2_0 : U8.cell? ⟨q2, 0, none⟩ = some (.int .i64 ax) := k2.cell 0
    have c2_1 : U8.cell? ⟨q2, 1, none⟩ = some (.int .i64 ay) := k2.cell 1
    have c2_2 : U8.cell? ⟨q2, 2, none⟩ = some (.int .i64 bx) := k2.cell 2
    have c2_3 : U8.cell? ⟨q2, 3, none⟩ = some (.int .i64 b_y) := k2.cell 3
    have l2 := k2.lt
    have c3_0 : U8.cell? ⟨q3, 0, none⟩ = some (.int .i64 cx) := k3.cell 0
    have c3_1 : U8.cell? ⟨q3, 1, none⟩ = some (.int .i64 cy) := k3.cell 1
    have l3 := k3.lt
    have c4_0 : U8.cell? ⟨q4, 0, none⟩ = some (.int .i64 dx) := k4.cell 0
    have c4_1 : U8.cell? ⟨q4, 1, none⟩ = some (.int .i64 dy) := k4.cell 1
    have l4 := k4.lt
    have pr2_5 : q2 ≠ U3.heap.size := (by have := D7.out; omega)
    have pr3_5 : q3 ≠ U3.heap.size := (by have := D8.out; omega)
    have pr4_5 : q4 ≠ U3.heap.size := (by have := D9.out; omega)
    have pr2_6 : q2 ≠ U5.heap.size := (by have := D11.out; omega)
    have pr3_6 : q3 ≠ U5.heap.size := (by have := D12.out; omega)
    have pr4_6 : q4 ≠ U5.heap.size := (by have := D13.out; omega)
    go_wp2_with (first | ((with_reducible refine ldRow (U5.heap.size) #[.int .u64 (wd0 yfn), .int .u64 (wd1 yfn), .int .u64 (wd2 yfn), .int .u64 (wd3 yfn), .int .u64 (wd0 yfd), .int .u64 (wd1 yfd), .int .u64 (wd2 yfd), .int .u64 (wd3 yfd), .int .u64 (wd0 ytn), .int .u64 (wd1 ytn), .int .u64 (wd2 ytn), .int .u64 (wd3 ytn), .int .u64 (wd0 ytd), .int .u64 (wd1 ytd), .int .u64 (wd2 ytd), .int .u64 (wd3 ytd), .bool yfo, .bool true] _ k6 ?_ ?_ ?_ ?_); rfl; exact ⟨_, rfl, rfl⟩; (as_aux_lemma => kernel_rfl); simp only [Act.put, List.setIfInBounds_toArray, List.set_cons_succ, List.set_cons_zero]) | ((with_reducible refine ldRow (U3.heap.size) #[.int .u64 (wd0 xfn), .int .u64 (wd1 xfn), .int .u64 (wd2 xfn), .int .u64 (wd3 xfn), .int .u64 (wd0 xfd), .int .u64 (wd1 xfd), .int .u64 (wd2 xfd), .int .u64 (wd3 xfd), .int .u64 (wd0 xtn), .int .u64 (wd1 xtn), .int .u64 (wd2 xtn), .int .u64 (wd3 xtn), .int .u64 (wd0 xtd), .int .u64 (wd1 xtd), .int .u64 (wd2 xtd), .int .u64 (wd3 xtd), .bool xfo, .bool xto] _ k5 ?_ ?_ ?_ ?_); rfl; exact ⟨_, rfl, rfl⟩; (as_aux_lemma => kernel_rfl); simp only [Act.put, List.setIfInBounds_toArray, List.set_cons_succ, List.set_cons_zero]) | ((with_reducible refine stRow (U3.heap.size) #[.int .u64 (wd0 yfn), .int .u64 (wd1 yfn), .int .u64 (wd2 yfn), .int .u64 (wd3 yfn), .int .u64 (wd0 yfd), .int .u64 (wd1 yfd), .int .u64 (wd2 yfd), .int .u64 (wd3 yfd), .int .u64 (wd0 ytn), .int .u64 (wd1 ytn), .int .u64 (wd2 ytn), .int .u64 (wd3 ytn), .int .u64 (wd0 ytd), .int .u64 (wd1 ytd), .int .u64 (wd2 ytd), .int .u64 (wd3 ytd), .bool yfo, .bool true] _ _ k5 ?_ ?_ ?_ ?_ ?_ ?_); rfl; rfl; (as_aux_lemma => kernel_rfl); rfl; (as_aux_lemma => kernel_rfl); simp only [Act.put]) | ((with_reducible refine stRow (U5.heap.size) #[.int .u64 (wd0 xfn), .int .u64 (wd1 xfn), .int .u64 (wd2 xfn), .int .u64 (wd3 xfn), .int .u64 (wd0 xfd), .int .u64 (wd1 xfd), .int .u64 (wd2 xfd), .int .u64 (wd3 xfd), .int .u64 (wd0 xtn), .int .u64 (wd1 xtn), .int .u64 (wd2 xtn), .int .u64 (wd3 xtn), .int .u64 (wd0 xtd), .int .u64 (wd1 xtd), .int .u64 (wd2 xtd), .int .u64 (wd3 xtd), .bool xfo, .bool xto] _ _ (blk_rowo k6 (by have := D14.out; omega) _) ?_ ?_ ?_ ?_ ?_ ?_); rfl; rfl; (as_aux_lemma => kernel_rfl); rfl; (as_aux_lemma => kernel_rfl); simp only [Act.put]))
    clear c2_0 c2_1 c2_2 c2_3 l2 c3_0 c3_1 l3 c4_0 c4_1 l4 pr2_5 pr3_5 pr4_5 pr2_6 pr3_6 pr4_6
    first | refine calls_w ?_ | refine name_world ?_ | refine list_world ?_ | refine post_world ?_
    intro V9 hV9
    clear k2 k3 k4
    have D16 := Lib.hid k5.lt
    have D17 := Lib.hid k6.lt
    have D18 := Lib.hid hb0.size
    have nk5 : Blk V9 U3.heap.size #[.int .u64 (wd0 yfn), .int .u64 (wd1 yfn), .int .u64 (wd2 yfn), .int .u64 (wd3 yfn), .int .u64 (wd0 yfd), .int .u64 (wd1 yfd), .int .u64 (wd2 yfd), .int .u64 (wd3 yfd), .int .u64 (wd0 ytn), .int .u64 (wd1 ytn), .int .u64 (wd2 ytn), .int .u64 (wd3 ytn), .int .u64 (wd0 ytd), .int .u64 (wd1 ytd), .int .u64 (wd2 ytd), .int .u64 (wd3 ytd), .bool yfo, .bool true] 54 := by rw [hV9]; exact (blk_rowo (blk_row k5 _) (by have := D14.out; omega) _)
    have nk6 : Blk V9 U5.heap.size #[.int .u64 (wd0 xfn), .int .u64 (wd1 xfn), .int .u64 (wd2 xfn), .int .u64 (wd3 xfn), .int .u64 (wd0 xfd), .int .u64 (wd1 xfd), .int .u64 (wd2 xfd), .int .u64 (wd3 xfd), .int .u64 (wd0 xtn), .int .u64 (wd1 xtn), .int .u64 (wd2 xtn), .int .u64 (wd3 xtn), .int .u64 (wd0 xtd), .int .u64 (wd1 xtd), .int .u64 (wd2 xtd), .int .u64 (wd3 xtd), .bool xfo, .bool xto] 54 := by rw [hV9]; exact (blk_row (blk_rowo k6 (by have := D14.out; omega) _) _)
    have nhb0 : Below w.heap.size w V9 := by rw [hV9]; exact (blw_row (blw_row hb0 (by have := D10.out; omega) _) (by have := D15.out; omega) _)
    clear k5 k6
    clear hb0
    clear hV9
    have k5 := nk5
    clear nk5
    have k6 := nk6
    clear nk6
    have hb0 := nhb0
    clear nhb0
    have c5_8 : V9.cell? ⟨U3.heap.size, 8, none⟩ = some (.int .u64 (wd0 ytn)) := k5.cell 8
    have c5_9 : V9.cell? ⟨U3.heap.size, 9, none⟩ = some (.int .u64 (wd1 ytn)) := k5.cell 9
    have c5_10 : V9.cell? ⟨U3.heap.size, 10, none⟩ = some (.int .u64 (wd2 ytn)) := k5.cell 10
    have c5_11 : V9.cell? ⟨U3.heap.size, 11, none⟩ = some (.int .u64 (wd3 ytn)) := k5.cell 11
    have c5_12 : V9.cell? ⟨U3.heap.size, 12, none⟩ = some (.int .u64 (wd0 ytd)) := k5.cell 12
    have c5_13 : V9.cell? ⟨U3.heap.size, 13, none⟩ = some (.int .u64 (wd1 ytd)) := k5.cell 13
    have c5_14 : V9.cell? ⟨U3.heap.size, 14, none⟩ = some (.int .u64 (wd2 ytd)) := k5.cell 14
    have c5_15 : V9.cell? ⟨U3.heap.size, 15, none⟩ = some (.int .u64 (wd3 ytd)) := k5.cell 15
    have l5 := k5.lt
    have c6_0 : V9.cell? ⟨U5.heap.size, 0, none⟩ = some (.int .u64 (wd0 xfn)) := k6.cell 0
    have c6_1 : V9.cell? ⟨U5.heap.size, 1, none⟩ = some (.int .u64 (wd1 xfn)) := k6.cell 1
    have c6_2 : V9.cell? ⟨U5.heap.size, 2, none⟩ = some (.int .u64 (wd2 xfn)) := k6.cell 2
    have c6_3 : V9.cell? ⟨U5.heap.size, 3, none⟩ = some (.int .u64 (wd3 xfn)) := k6.cell 3
    have c6_4 : V9.cell? ⟨U5.heap.size, 4, none⟩ = some (.int .u64 (wd0 xfd)) := k6.cell 4
    have c6_5 : V9.cell? ⟨U5.heap.size, 5, none⟩ = some (.int .u64 (wd1 xfd)) := k6.cell 5
    have c6_6 : V9.cell? ⟨U5.heap.size, 6, none⟩ = some (.int .u64 (wd2 xfd)) := k6.cell 6
    have c6_7 : V9.cell? ⟨U5.heap.size, 7, none⟩ = some (.int .u64 (wd3 xfd)) := k6.cell 7
    have l6 := k6.lt
    have Kk5 := Lib.hid k5
    clear k5
    have Kk6 := Lib.hid k6
    clear k6
    refine wp_region_up V9.heap.size 5 [(true, 0), (true, 1), (true, 3), (true, 4), (false, 2)] (by kernel_rfl) (by kernel_rfl) (fun _ _ d _ _ h => by cases d <;> exact h) ?_
    have hb : Below V9.heap.size V9 V9.drew := (Below.refl _ _).drew
    iterate 4
      refine wpS_takeL rfl rfl ?_
      go_big_quiet_step (rfl)
      refine wpQuiet_nil ?_
    refine wpS_doL rfl ?_
    intro K hK
    go_wp2_with ((go_at_call 38; (with_reducible refine (p15rat_is ytn ytd ytn ytd HP18.out HP19.out _iytn _iytd  _).mono ?_); rintro e w2 ⟨bn1, ba1, bl1, bc1, bn2, ba2, bl2, bc2, rfl, hbm1, hbm2, hn⟩; have HB1 := Lib.hid hbm1; have HB2 := Lib.hid hbm2; clear hbm1 hbm2))
    replace hb := hb.trans (hn.mono hb.size)
    refine hK.out _ _ (up_iff.2 hb) ?_
    clear hK K
    clear hn
    refine wpS_nil ?_
    simp only [List.drop_succ_cons, List.drop_zero]
    first | refine calls_w ?_ | refine name_world ?_ | refine list_world ?_ | refine post_world ?_
    intro U10 hU10
    first | (subst hU10; have u_ := U10; clear u_) | (rw [← hU10] at hb; clear hU10)
    clear c5_8 c5_9 c5_10 c5_11 c5_12 c5_13 c5_14 c5_15 l5 c6_0 c6_1 c6_2 c6_3 c6_4 c6_5 c6_6 c6_7 l6
    have k5 := Kk5.out.of hb
    clear Kk5
    have k6 := Kk6.out.of hb
    clear Kk6
    replace hb0 := hb0.trans (hb.mono hb0.size)
    clear hb
    go_wp2_with fail
    refine (p15rat_is xfn xfd xfn xfd HP20.out HP21.out _ixfn _ixfd  _).mono ?_
    rintro e U11 ⟨bn3, ba3, bl3, bc3, bn4, ba4, bl4, bc4, rfl, hbm3, hbm4, hn⟩
    replace k5 := k5.of hn
    replace k6 := k6.of hn
    replace HB1 := Lib.hid (HB1.out.of hn)
    replace HB2 := Lib.hid (HB2.out.of hn)
    replace hb0 := hb0.trans (hn.mono hb0.size)
    clear hn
    have HB3 := Lib.hid hbm3
    have HB4 := Lib.hid hbm4
    clear hbm3 hbm4
    go_wp2_with fail
    refine (rrC_is ytn ytd xfn xfd 0 HP25.out  bn1 ba1 bl1 bc1 bn2 ba2 bl2 bc2 bn3 ba3 bl3 bc3 bn4 ba4 bl4 bc4 _ HB1.out HB2.out HB3.out HB4.out).mono ?_
    rintro e U12 ⟨rfl, hn⟩
    clear HB1 HB2 HB3 HB4
    replace k5 := k5.of hn
    replace k6 := k6.of hn
    replace hb0 := hb0.trans (hn.mono hb0.size)
    clear hn
    have c5_17 : U12.cell? ⟨U3.heap.size, 17, none⟩ = some (.bool true) := k5.cell 17
    have l5 := k5.lt
    go_wp2_with fail
    clear c5_17 l5
    refine (p15awake_any _).mono ?_
    rintro e U13 ⟨rfl, hn⟩
    clear k5 k6
    replace hb0 := hb0.trans (hn.mono hb0.size)
    clear hn
    go_wp2
    first | go_ret | go_ret2
    exact ⟨by first | rfl | (simp; done) | (simp; assumption), hb0⟩
  · have qz1 : ax = bx := by simpa using hz1
    clear hz1
    subst qz1
    obtain ⟨z2, hz2⟩ : ∃ o_o : Bool, (ay == b_y) = o_o := ⟨_, rfl⟩
    cases z2
    · have nz2 : ¬ ay = b_y := by simpa using hz2
      have nz2_ : ¬ b_y = ay := fun e_ => nz2 e_.symm
      have c2_0 : U8.cell? ⟨q2, 0, none⟩ = some (.int .i64 ax) := k2.cell 0
      have c2_1 : U8.cell? ⟨q2, 1, none⟩ = some (.int .i64 ay) := k2.cell 1
      have c2_2 : U8.cell? ⟨q2, 2, none⟩ = some (.int .i64 ax) := k2.cell 2
      have c2_3 : U8.cell? ⟨q2, 3, none⟩ = some (.int .i64 b_y) := k2.cell 3
      have l2 := k2.lt
      have c3_0 : U8.cell? ⟨q3, 0, none⟩ = some (.int .i64 cx) := k3.cell 0
      have c3_1 : U8.cell? ⟨q3, 1, none⟩ = some (.int .i64 cy) := k3.cell 1
      have l3 := k3.lt
      have c4_0 : U8.cell? ⟨q4, 0, none⟩ = some (.int .i64 dx) := k4.cell 0
      have c4_1 : U8.cell? ⟨q4, 1, none⟩ = some (.int .i64 dy) := k4.cell 1
      have l4 := k4.lt
      have pr2_5 : q2 ≠ U3.heap.size := (by have := D7.out; omega)
      have pr3_5 : q3 ≠ U3.heap.size := (by have := D8.out; omega)
      have pr4_5 : q4 ≠ U3.heap.size := (by have := D9.out; omega)
      have pr2_6 : q2 ≠ U5.heap.size := (by have := D11.out; omega)
      have pr3_6 : q3 ≠ U5.heap.size := (by have := D12.out; omega)
      have pr4_6 : q4 ≠ U5.heap.size := (by have := D13.out; omega)
      go_wp2_with (first | ((with_reducible refine ldRow (U5.heap.size) #[.int .u64 (wd0 yfn), .int .u64 (wd1 yfn), .int .u64 (wd2 yfn), .int .u64 (wd3 yfn), .int .u64 (wd0 yfd), .int .u64 (wd1 yfd), .int .u64 (wd2 yfd), .int .u64 (wd3 yfd), .int .u64 (wd0 ytn), .int .u64 (wd1 ytn), .int .u64 (wd2 ytn), .int .u64 (wd3 ytn), .int .u64 (wd0 ytd), .int .u64 (wd1 ytd), .int .u64 (wd2 ytd), .int .u64 (wd3 ytd), .bool yfo, .bool true] _ k6 ?_ ?_ ?_ ?_); rfl; exact ⟨_, rfl, rfl⟩; (as_aux_lemma => kernel_rfl); simp only [Act.put, List.setIfInBounds_toArray, List.set_cons_succ, List.set_cons_zero]) | ((with_reducible refine ldRow (U3.heap.size) #[.int .u64 (wd0 xfn), .int .u64 (wd1 xfn), .int .u64 (wd2 xfn), .int .u64 (wd3 xfn), .int .u64 (wd0 xfd), .int .u64 (wd1 xfd), .int .u64 (wd2 xfd), .int .u64 (wd3 xfd), .int .u64 (wd0 xtn), .int .u64 (wd1 xtn), .int .u64 (wd2 xtn), .int .u64 (wd3 xtn), .int .u64 (wd0 xtd), .int .u64 (wd1 xtd), .int .u64 (wd2 xtd), .int .u64 (wd3 xtd), .bool xfo, .bool xto] _ k5 ?_ ?_ ?_ ?_); rfl; exact ⟨_, rfl, rfl⟩; (as_aux_lemma => kernel_rfl); simp only [Act.put, List.setIfInBounds_toArray, List.set_cons_succ, List.set_cons_zero]) | ((with_reducible refine stRow (U3.heap.size) #[.int .u64 (wd0 yfn), .int .u64 (wd1 yfn), .int .u64 (wd2 yfn), .int .u64 (wd3 yfn), .int .u64 (wd0 yfd), .int .u64 (wd1 yfd), .int .u64 (wd2 yfd), .int .u64 (wd3 yfd), .int .u64 (wd0 ytn), .int .u64 (wd1 ytn), .int .u64 (wd2 ytn), .int .u64 (wd3 ytn), .int .u64 (wd0 ytd), .int .u64 (wd1 ytd), .int .u64 (wd2 ytd), .int .u64 (wd3 ytd), .bool yfo, .bool true] _ _ k5 ?_ ?_ ?_ ?_ ?_ ?_); rfl; rfl; (as_aux_lemma => kernel_rfl); rfl; (as_aux_lemma => kernel_rfl); simp only [Act.put]) | ((with_reducible refine stRow (U5.heap.size) #[.int .u64 (wd0 xfn), .int .u64 (wd1 xfn), .int .u64 (wd2 xfn), .int .u64 (wd3 xfn), .int .u64 (wd0 xfd), .int .u64 (wd1 xfd), .int .u64 (wd2 xfd), .int .u64 (wd3 xfd), .int .u64 (wd0 xtn), .int .u64 (wd1 xtn), .int .u64 (wd2 xtn), .int .u64 (wd3 xtn), .int .u64 (wd0 xtd), .int .u64 (wd1 xtd), .int .u64 (wd2 xtd), .int .u64 (wd3 xtd), .bool xfo, .bool xto] _ _ (blk_rowo k6 (by have := D14.out; omega) _) ?_ ?_ ?_ ?_ ?_ ?_); rfl; rfl; (as_aux_lemma => kernel_rfl); rfl; (as_aux_lemma => kernel_rfl); simp only [Act.put]))
      clear c2_0 c2_1 c2_2 c2_3 l2 c3_0 c3_1 l3 c4_0 c4_1 l4 pr2_5 pr3_5 pr4_5 pr2_6 pr3_6 pr4_6
      first | refine calls_w ?_ | refine name_world ?_ | refine list_world ?_ | refine post_world ?_
      intro V14 hV14
      clear k2 k3 k4
      have D19 := Lib.hid k5.lt
      have D20 := Lib.hid k6.lt
      have D21 := Lib.hid hb0.size
      have nk5 : Blk V14 U3.heap.size #[.int .u64 (wd0 yfn), .int .u64 (wd1 yfn), .int .u64 (wd2 yfn), .int .u64 (wd3 yfn), .int .u64 (wd0 yfd), .int .u64 (wd1 yfd), .int .u64 (wd2 yfd), .int .u64 (wd3 yfd), .int .u64 (wd0 ytn), .int .u64 (wd1 ytn), .int .u64 (wd2 ytn), .int .u64 (wd3 ytn), .int .u64 (wd0 ytd), .int .u64 (wd1 ytd), .int .u64 (wd2 ytd), .int .u64 (wd3 ytd), .bool yfo, .bool true] 54 := by rw [hV14]; exact (blk_rowo (blk_row k5 _) (by have := D14.out; omega) _)
      have nk6 : Blk V14 U5.heap.size #[.int .u64 (wd0 xfn), .int .u64 (wd1 xfn), .int .u64 (wd2 xfn), .int .u64 (wd3 xfn), .int .u64 (wd0 xfd), .int .u64 (wd1 xfd), .int .u64 (wd2 xfd), .int .u64 (wd3 xfd), .int .u64 (wd0 xtn), .int .u64 (wd1 xtn), .int .u64 (wd2 xtn), .int .u64 (wd3 xtn), .int .u64 (wd0 xtd), .int .u64 (wd1 xtd), .int .u64 (wd2 xtd), .int .u64 (wd3 xtd), .bool xfo, .bool xto] 54 := by rw [hV14]; exact (blk_row (blk_rowo k6 (by have := D14.out; omega) _) _)
      have nhb0 : Below w.heap.size w V14 := by rw [hV14]; exact (blw_row (blw_row hb0 (by have := D10.out; omega) _) (by have := D15.out; omega) _)
      clear k5 k6
      clear hb0
      clear hV14
      have k5 := nk5
      clear nk5
      have k6 := nk6
      clear nk6
      have hb0 := nhb0
      clear nhb0
      have c5_8 : V14.cell? ⟨U3.heap.size, 8, none⟩ = some (.int .u64 (wd0 ytn)) := k5.cell 8
      have c5_9 : V14.cell? ⟨U3.heap.size, 9, none⟩ = some (.int .u64 (wd1 ytn)) := k5.cell 9
      have c5_10 : V14.cell? ⟨U3.heap.size, 10, none⟩ = some (.int .u64 (wd2 ytn)) := k5.cell 10
      have c5_11 : V14.cell? ⟨U3.heap.size, 11, none⟩ = some (.int .u64 (wd3 ytn)) := k5.cell 11
      have c5_12 : V14.cell? ⟨U3.heap.size, 12, none⟩ = some (.int .u64 (wd0 ytd)) := k5.cell 12
      have c5_13 : V14.cell? ⟨U3.heap.size, 13, none⟩ = some (.int .u64 (wd1 ytd)) := k5.cell 13
      have c5_14 : V14.cell? ⟨U3.heap.size, 14, none⟩ = some (.int .u64 (wd2 ytd)) := k5.cell 14
      have c5_15 : V14.cell? ⟨U3.heap.size, 15, none⟩ = some (.int .u64 (wd3 ytd)) := k5.cell 15
      have l5 := k5.lt
      have c6_0 : V14.cell? ⟨U5.heap.size, 0, none⟩ = some (.int .u64 (wd0 xfn)) := k6.cell 0
      have c6_1 : V14.cell? ⟨U5.heap.size, 1, none⟩ = some (.int .u64 (wd1 xfn)) := k6.cell 1
      have c6_2 : V14.cell? ⟨U5.heap.size, 2, none⟩ = some (.int .u64 (wd2 xfn)) := k6.cell 2
      have c6_3 : V14.cell? ⟨U5.heap.size, 3, none⟩ = some (.int .u64 (wd3 xfn)) := k6.cell 3
      have c6_4 : V14.cell? ⟨U5.heap.size, 4, none⟩ = some (.int .u64 (wd0 xfd)) := k6.cell 4
      have c6_5 : V14.cell? ⟨U5.heap.size, 5, none⟩ = some (.int .u64 (wd1 xfd)) := k6.cell 5
      have c6_6 : V14.cell? ⟨U5.heap.size, 6, none⟩ = some (.int .u64 (wd2 xfd)) := k6.cell 6
      have c6_7 : V14.cell? ⟨U5.heap.size, 7, none⟩ = some (.int .u64 (wd3 xfd)) := k6.cell 7
      have l6 := k6.lt
      have Kk5 := Lib.hid k5
      clear k5
      have Kk6 := Lib.hid k6
      clear k6
      refine wp_region_up V14.heap.size 5 [(true, 0), (true, 1), (true, 3), (true, 4), (false, 2)] (by kernel_rfl) (by kernel_rfl) (fun _ _ d _ _ h => by cases d <;> exact h) ?_
      have hb : Below V14.heap.size V14 V14.drew := (Below.refl _ _).drew
      iterate 4
        refine wpS_takeL rfl rfl ?_
        go_big_quiet_step (rfl)
        refine wpQuiet_nil ?_
      refine wpS_doL rfl ?_
      intro K hK
      go_wp2_with ((go_at_call 38; (with_reducible refine (p15rat_is ytn ytd ytn ytd HP18.out HP19.out _iytn _iytd  _).mono ?_); rintro e w2 ⟨bn5, ba5, bl5, bc5, bn6, ba6, bl6, bc6, rfl, hbm5, hbm6, hn⟩; have HB5 := Lib.hid hbm5; have HB6 := Lib.hid hbm6; clear hbm5 hbm6))
      replace hb := hb.trans (hn.mono hb.size)
      refine hK.out _ _ (up_iff.2 hb) ?_
      clear hK K
      clear hn
      refine wpS_nil ?_
      simp only [List.drop_succ_cons, List.drop_zero]
      first | refine calls_w ?_ | refine name_world ?_ | refine list_world ?_ | refine post_world ?_
      intro U15 hU15
      first | (subst hU15; have u_ := U15; clear u_) | (rw [← hU15] at hb; clear hU15)
      clear c5_8 c5_9 c5_10 c5_11 c5_12 c5_13 c5_14 c5_15 l5 c6_0 c6_1 c6_2 c6_3 c6_4 c6_5 c6_6 c6_7 l6
      have k5 := Kk5.out.of hb
      clear Kk5
      have k6 := Kk6.out.of hb
      clear Kk6
      replace hb0 := hb0.trans (hb.mono hb0.size)
      clear hb
      go_wp2_with fail
      refine (p15rat_is xfn xfd xfn xfd HP20.out HP21.out _ixfn _ixfd  _).mono ?_
      rintro e U16 ⟨bn7, ba7, bl7, bc7, bn8, ba8, bl8, bc8, rfl, hbm7, hbm8, hn⟩
      replace k5 := k5.of hn
      replace k6 := k6.of hn
      replace HB5 := Lib.hid (HB5.out.of hn)
      replace HB6 := Lib.hid (HB6.out.of hn)
      replace hb0 := hb0.trans (hn.mono hb0.size)
      clear hn
      have HB7 := Lib.hid hbm7
      have HB8 := Lib.hid hbm8
      clear hbm7 hbm8
      go_wp2_with fail
      refine (rrC_is ytn ytd xfn xfd 0 HP25.out  bn5 ba5 bl5 bc5 bn6 ba6 bl6 bc6 bn7 ba7 bl7 bc7 bn8 ba8 bl8 bc8 _ HB5.out HB6.out HB7.out HB8.out).mono ?_
      rintro e U17 ⟨rfl, hn⟩
      clear HB5 HB6 HB7 HB8
      replace k5 := k5.of hn
      replace k6 := k6.of hn
      replace hb0 := hb0.trans (hn.mono hb0.size)
      clear hn
      have c5_17 : U17.cell? ⟨U3.heap.size, 17, none⟩ = some (.bool true) := k5.cell 17
      have l5 := k5.lt
      go_wp2_with fail
      clear c5_17 l5
      refine (p15awake_any _).mono ?_
      rintro e U18 ⟨rfl, hn⟩
      clear k5 k6
      replace hb0 := hb0.trans (hn.mono hb0.size)
      clear hn
      go_wp2
      first | go_ret | go_ret2
      exact ⟨by first | rfl | (simp; done) | (simp; assumption), hb0⟩
    · have qz2 : ay = b_y := by simpa using hz2
      clear hz2
      subst qz2
      have c2_0 : U8.cell? ⟨q2, 0, none⟩ = some (.int .i64 ax) := k2.cell 0
      have c2_1 : U8.cell? ⟨q2, 1, none⟩ = some (.int .i64 ay) := k2.cell 1
      have c2_2 : U8.cell? ⟨q2, 2, none⟩ = some (.int .i64 ax) := k2.cell 2
      have c2_3 : U8.cell? ⟨q2, 3, none⟩ = some (.int .i64 ay) := k2.cell 3
      have l2 := k2.lt
      go_wp2_with fail
      clear c2_0 c2_1 c2_2 c2_3 l2
      refine (p15awake_any _).mono ?_
      rintro e U19 ⟨rfl, hn⟩
      clear k2
      replace k3 := k3.of hn
      replace k4 := k4.of hn
      replace k5 := k5.of hn
      replace k6 := k6.of hn
      replace hb0 := hb0.trans (hn.mono hb0.size)
      clear hn
      go_wp2
      first | go_ret | go_ret2
      exact ⟨by first | rfl | (simp; done) | (simp; assumption), hb0⟩

set_option maxRecDepth 100000 in
set_option maxHeartbeats 4000000 in

theorem PAh_012 (ax : Int) (ay : Int) (bx : Int) (b_y : Int) (cx : Int) (cy : Int) (dx : Int) (dy : Int) (n : Int) (xfn : Int) (xfd : Int) (xtn : Int) (xtd : Int) (xto : Bool) (yfn : Int) (yfd : Int) (ytn : Int) (ytd : Int) (yfo : Bool) (yto : Bool)   (hP0 : cufn ax ay bx b_y cx cy n = xfn) (hP1 : cufd ax ay bx b_y cx cy n = xfd) (hP2 : cutn ax ay bx b_y cx cy n = xtn) (hP3 : cutd ax ay bx b_y cx cy n = xtd) (hP4 : cufo ax ay bx b_y cx cy n = true) (hP5 : cuto ax ay bx b_y cx cy n = xto) (hP6 : cufn ax ay bx b_y dx dy n = yfn) (hP7 : cufd ax ay bx b_y dx dy n = yfd) (hP8 : cutn ax ay bx b_y dx dy n = ytn) (hP9 : cutd ax ay bx b_y dx dy n = ytd) (hP10 : cufo ax ay bx b_y dx dy n = yfo) (hP11 : cuto ax ay bx b_y dx dy n = yto) (hP12 : cuk ax ay bx b_y cx cy n = true) (hP13 : cuk ax ay bx b_y dx dy n = true) (hP14 : pxA xfn xfd xtn xtd true xto yfn yfd ytn ytd yfo yto = 1) (hP15 : pxA yfn yfd ytn ytd yfo yto xfn xfd xtn xtd true xto = (-1)) (hP16 : p15n xtn xtd = xtn) (hP17 : p15d xtn xtd = xtd) (hP18 : p15n ytn ytd = ytn) (hP19 : p15d ytn ytd = ytd) (hP20 : p15n xfn xfd = xfn) (hP21 : p15d xfn xfd = xfd) (hP22 : p15n yfn yfd = yfn) (hP23 : p15d yfn yfd = yfd) (hP24 : (cx == dx) = false) (hP25 : rrC ytn ytd xfn xfd = 0) (_ixfn : InI xfn) (_ixfd : InI xfd) (_ixtn : InI xtn) (_ixtd : InI xtd) (_iyfn : InI yfn) (_iyfd : InI yfd) (_iytn : InI ytn) (_iytd : InI ytd) (_iax : In64 ax) (_iay : In64 ay) (_ibx : In64 bx) (_ib_y : In64 b_y) (_icx : In64 cx) (_icy : In64 cy) (_idx : In64 dx) (_idy : In64 dy) (_in : In64 n)  (w : World)  :
    Calls Try.prog 7 #[.agg #[.int .i64 ax, .int .i64 ay, .int .i64 bx, .int .i64 b_y, .int .i64 cx, .int .i64 cy, .int .i64 dx, .int .i64 dy, .int .i64 n]] w fun e w' => e = .returned (.bool true) ∧ Below w.heap.size w w' := by

  have HP0 := Lib.hid hP0
  clear hP0
  have HP1 := Lib.hid hP1
  clear hP1
  have HP2 := Lib.hid hP2
  clear hP2
  have HP3 := Lib.hid hP3
  clear hP3
  have HP4 := Lib.hid hP4
  clear hP4
  have HP5 := Lib.hid hP5
  clear hP5
  have HP6 := Lib.hid hP6
  clear hP6
  have HP7 := Lib.hid hP7
  clear hP7
  have HP8 := Lib.hid hP8
  clear hP8
  have HP9 := Lib.hid hP9
  clear hP9
  have HP10 := Lib.hid hP10
  clear hP10
  have HP11 := Lib.hid hP11
  clear hP11
  have HP12 := Lib.hid hP12
  clear hP12
  have HP13 := Lib.hid hP13
  clear hP13
  have HP14 := Lib.hid hP14
  clear hP14
  have HP15 := Lib.hid hP15
  clear hP15
  have HP16 := Lib.hid hP16
  clear hP16
  have HP17 := Lib.hid hP17
  clear hP17
  have HP18 := Lib.hid hP18
  clear hP18
  have HP19 := Lib.hid hP19
  clear hP19
  have HP20 := Lib.hid hP20
  clear hP20
  have HP21 := Lib.hid hP21
  clear hP21
  have HP22 := Lib.hid hP22
  clear hP22
  have HP23 := Lib.hid hP23
  clear hP23
  have nP24 : ¬ cx = dx := by simpa using hP24
  have HP25 := Lib.hid hP25
  clear hP25
  go_enter Try.func7, Try.ntmps7
  go_wp2_with fail
  first | refine calls_w ?_ | refine name_world ?_ | refine list_world ?_ | refine post_world ?_
  intro V1 hV1
  have hn : Below w.heap.size w V1 := by rw [hV1]; exact below_a1 _ _
  have nhb0 := hn
  have k1 : Blk V1 w.heap.size #[.int .i64 ax, .int .i64 ay, .int .i64 bx, .int .i64 b_y, .int .i64 cx, .int .i64 cy, .int .i64 dx, .int .i64 dy, .int .i64 n] 79 := by rw [hV1]; exact (Blk.new _ _ _)
  clear hV1
  have hb0 := nhb0
  clear nhb0
  have c1_0 : V1.cell? ⟨w.heap.size, 0, none⟩ = some (.int .i64 ax) := k1.cell 0
  have c1_1 : V1.cell? ⟨w.heap.size, 1, none⟩ = some (.int .i64 ay) := k1.cell 1
  have c1_2 : V1.cell? ⟨w.heap.size, 2, none⟩ = some (.int .i64 bx) := k1.cell 2
  have c1_3 : V1.cell? ⟨w.heap.size, 3, none⟩ = some (.int .i64 b_y) := k1.cell 3
  have c1_4 : V1.cell? ⟨w.heap.size, 4, none⟩ = some (.int .i64 cx) := k1.cell 4
  have c1_5 : V1.cell? ⟨w.heap.size, 5, none⟩ = some (.int .i64 cy) := k1.cell 5
  have c1_6 : V1.cell? ⟨w.heap.size, 6, none⟩ = some (.int .i64 dx) := k1.cell 6
  have c1_7 : V1.cell? ⟨w.heap.size, 7, none⟩ = some (.int .i64 dy) := k1.cell 7
  have c1_8 : V1.cell? ⟨w.heap.size, 8, none⟩ = some (.int .i64 n) := k1.cell 8
  have l1 := k1.lt
  have Kk1 := Lib.hid k1
  clear k1
  refine Stay.wp_region_FG3 11 8 9 10 [(0, 0), (0, 1), (0, 2), (0, 3), (0, 4), (0, 5), (0, 6), (0, 7)] [(1, 11), (1, 12), (1, 13), (0, 14)] (by kernel_rfl) (by kernel_rfl) (fun _ _ d _ _ => by cases d <;> exact Iff.rfl) rfl rfl rfl rfl alPxL5_0 rfl rfl rfl alPxL5_1 rfl rfl rfl alPxL5_1 ?_
  have hb : Below V1.heap.size V1 V1.drew := (Below.refl _ _).drew
  iterate 8
    refine wpFG_take0 rfl rfl ?_
    go_big_quiet_step (rfl)
    refine wpQuiet_nil ?_
  refine wpFG_nil ?_
  clear hb
  rintro w1 hg hb b1 b2 b3 hne ⟨lb1, nb1⟩ ⟨lb2, nb2⟩ ⟨lb3, nb3⟩
  clear hg
  simp only [Act.put, ptrTo, List.setIfInBounds_toArray, List.set_cons_succ, List.set_cons_zero]
  have m1 : Blk w1 b1 #[.int .i64 0, .int .i64 0, .int .i64 0, .int .i64 0] 50 := nb1
  have mc1_0 : w1.cell? ⟨b1, 0, none⟩ = some (.int .i64 0) := m1.cell 0
  have mf1_0 := m1.free 0
  have mc1_1 : w1.cell? ⟨b1, 1, none⟩ = some (.int .i64 0) := m1.cell 1
  have mf1_1 := m1.free 1
  have mc1_2 : w1.cell? ⟨b1, 2, none⟩ = some (.int .i64 0) := m1.cell 2
  have mf1_2 := m1.free 2
  have mc1_3 : w1.cell? ⟨b1, 3, none⟩ = some (.int .i64 0) := m1.cell 3
  have mf1_3 := m1.free 3
  have m2 : Blk w1 b2 #[.int .i64 0, .int .i64 0] 24 := nb2
  have mc2_0 : w1.cell? ⟨b2, 0, none⟩ = some (.int .i64 0) := m2.cell 0
  have mf2_0 := m2.free 0
  have mc2_1 : w1.cell? ⟨b2, 1, none⟩ = some (.int .i64 0) := m2.cell 1
  have mf2_1 := m2.free 1
  have m3 : Blk w1 b3 #[.int .i64 0, .int .i64 0] 24 := nb3
  have mc3_0 : w1.cell? ⟨b3, 0, none⟩ = some (.int .i64 0) := m3.cell 0
  have mf3_0 := m3.free 0
  have mc3_1 : w1.cell? ⟨b3, 1, none⟩ = some (.int .i64 0) := m3.cell 1
  have mf3_1 := m3.free 1
  refine wpG_do1 rfl ?_
  intro K hK
  go_wp2_with fail
  refine hK.out _ _ (up_iff.2 (by repeat' (first | with_reducible refine Below.setCell ?_ ?_ _ | with_reducible exact hb | with_reducible exact lb1 | with_reducible exact lb2 | with_reducible exact lb3))) ?_
  clear hK K
  refine wpG_do1 rfl ?_
  intro K hK
  go_wp2_with fail
  refine hK.out _ _ (up_iff.2 (by repeat' (first | with_reducible refine Below.setCell ?_ ?_ _ | with_reducible exact hb | with_reducible exact lb1 | with_reducible exact lb2 | with_reducible exact lb3))) ?_
  clear hK K
  refine wpG_do1 rfl ?_
  intro K hK
  go_wp2_with fail
  refine hK.out _ _ (up_iff.2 (by repeat' (first | with_reducible refine Below.setCell ?_ ?_ _ | with_reducible exact hb | with_reducible exact lb1 | with_reducible exact lb2 | with_reducible exact lb3))) ?_
  clear hK K
  refine wpG_take0 rfl rfl ?_
  go_big_quiet_step (rfl)
  refine wpQuiet_nil ?_
  refine wpG_nil ?_
  refine list_world ?_
  intro U2 hU2
  clear c1_0 c1_1 c1_2 c1_3 c1_4 c1_5 c1_6 c1_7 c1_8 l1
  have D1 := Lib.hid Kk1.out.lt
  have D2 := Lib.hid hb0.size
  have D3 := Lib.hid lb1
  have D4 := Lib.hid lb2
  have D5 := Lib.hid lb3
  have D6 := Lib.hid hne
  have k1 : Blk U2 w.heap.size #[.int .i64 ax, .int .i64 ay, .int .i64 bx, .int .i64 b_y, .int .i64 cx, .int .i64 cy, .int .i64 dx, .int .i64 dy, .int .i64 n] 79 := by rw [hU2]; exact (blk_setL (blk_setL (blk_setL (Kk1.out.of hb) (by have := D1.out; have := D3.out; omega) 0 [.int .i64 ax, .int .i64 ay, .int .i64 bx, .int .i64 b_y]) (by have := D1.out; have := D4.out; omega) 0 [.int .i64 cx, .int .i64 cy]) (by have := D1.out; have := D5.out; omega) 0 [.int .i64 dx, .int .i64 dy])
  have k2 : Blk U2 b1 #[.int .i64 ax, .int .i64 ay, .int .i64 bx, .int .i64 b_y] 50 := by rw [hU2]; exact (blk_setL (blk_setL (blk_full _ [.int .i64 ax, .int .i64 ay, .int .i64 bx, .int .i64 b_y] m1 rfl) (by have := D6.out; omega) 0 [.int .i64 cx, .int .i64 cy]) (by have := D6.out; omega) 0 [.int .i64 dx, .int .i64 dy])
  have k3 : Blk U2 b2 #[.int .i64 cx, .int .i64 cy] 24 := by rw [hU2]; exact (blk_setL (blk_full _ [.int .i64 cx, .int .i64 cy] (blk_setL m2 (by have := D6.out; omega) 0 [.int .i64 ax, .int .i64 ay, .int .i64 bx, .int .i64 b_y]) rfl) (by have := D6.out; omega) 0 [.int .i64 dx, .int .i64 dy])
  have k4 : Blk U2 b3 #[.int .i64 dx, .int .i64 dy] 24 := by rw [hU2]; exact (blk_full _ [.int .i64 dx, .int .i64 dy] (blk_setL (blk_setL m3 (by have := D6.out; omega) 0 [.int .i64 ax, .int .i64 ay, .int .i64 bx, .int .i64 b_y]) (by have := D6.out; omega) 0 [.int .i64 cx, .int .i64 cy]) rfl)
  replace hb0 : Below w.heap.size w U2 := by rw [hU2]; exact (blw_setL (blw_setL (blw_setL (hb0.trans (hb.mono hb0.size)) (by have := D2.out; have := D3.out; omega) 0 [.int .i64 ax, .int .i64 ay, .int .i64 bx, .int .i64 b_y]) (by have := D2.out; have := D4.out; omega) 0 [.int .i64 cx, .int .i64 cy]) (by have := D2.out; have := D5.out; omega) 0 [.int .i64 dx, .int .i64 dy])
  clear hU2 hb Kk1 m1 nb1 lb1 mc1_0 mf1_0 mc1_1 mf1_1 mc1_2 mf1_2 mc1_3 mf1_3 m2 nb2 lb2 mc2_0 mf2_0 mc2_1 mf2_1 m3 nb3 lb3 mc3_0 mf3_0 mc3_1 mf3_1 hne
  generalize b1 = q2 at *
  generalize b2 = q3 at *
  generalize b3 = q4 at *
  have c2_0 : U2.cell? ⟨q2, 0, none⟩ = some (.int .i64 ax) := k2.cell 0
  have c2_1 : U2.cell? ⟨q2, 1, none⟩ = some (.int .i64 ay) := k2.cell 1
  have c2_2 : U2.cell? ⟨q2, 2, none⟩ = some (.int .i64 bx) := k2.cell 2
  have c2_3 : U2.cell? ⟨q2, 3, none⟩ = some (.int .i64 b_y) := k2.cell 3
  have l2 := k2.lt
  have c3_0 : U2.cell? ⟨q3, 0, none⟩ = some (.int .i64 cx) := k3.cell 0
  have c3_1 : U2.cell? ⟨q3, 1, none⟩ = some (.int .i64 cy) := k3.cell 1
  have l3 := k3.lt
  go_wp2_with fail
  clear c2_0 c2_1 c2_2 c2_3 l2 c3_0 c3_1 l3
  refine (cut_v ax ay bx b_y cx cy n xfn xfd xtn xtd true xto true HP0.out HP1.out HP2.out HP3.out HP4.out HP5.out HP12.out _iax _iay _ibx _ib_y _icx _icy _in _).mono ?_
  rintro e U3 ⟨rfl, hn⟩
  clear k1
  replace k2 := k2.of hn
  replace k3 := k3.of hn
  replace k4 := k4.of hn
  replace hb0 := hb0.trans (hn.mono hb0.size)
  clear hn
  have c2_0 : U3.cell? ⟨q2, 0, none⟩ = some (.int .i64 ax) := k2.cell 0
  have c2_1 : U3.cell? ⟨q2, 1, none⟩ = some (.int .i64 ay) := k2.cell 1
  have c2_2 : U3.cell? ⟨q2, 2, none⟩ = some (.int .i64 bx) := k2.cell 2
  have c2_3 : U3.cell? ⟨q2, 3, none⟩ = some (.int .i64 b_y) := k2.cell 3
  have l2 := k2.lt
  have c4_0 : U3.cell? ⟨q4, 0, none⟩ = some (.int .i64 dx) := k4.cell 0
  have c4_1 : U3.cell? ⟨q4, 1, none⟩ = some (.int .i64 dy) := k4.cell 1
  have l4 := k4.lt
  have pr2_5 : q2 ≠ U3.heap.size := (by have := k2.lt; omega)
  have pr4_5 : q4 ≠ U3.heap.size := (by have := k4.lt; omega)
  go_wp2_with (first | ((with_reducible refine stRow (U3.heap.size) #[.int .u64 (wd0 xfn), .int .u64 (wd1 xfn), .int .u64 (wd2 xfn), .int .u64 (wd3 xfn), .int .u64 (wd0 xfd), .int .u64 (wd1 xfd), .int .u64 (wd2 xfd), .int .u64 (wd3 xfd), .int .u64 (wd0 xtn), .int .u64 (wd1 xtn), .int .u64 (wd2 xtn), .int .u64 (wd3 xtn), .int .u64 (wd0 xtd), .int .u64 (wd1 xtd), .int .u64 (wd2 xtd), .int .u64 (wd3 xtd), .bool true, .bool xto] _ _ (Blk.new _ _ _) ?_ ?_ ?_ ?_ ?_ ?_); rfl; rfl; (as_aux_lemma => kernel_rfl); rfl; (as_aux_lemma => kernel_rfl); simp only [Act.put]))
  clear c2_0 c2_1 c2_2 c2_3 l2 c4_0 c4_1 l4 pr2_5 pr4_5
  first | refine calls_w ?_ | refine name_world ?_ | refine list_world ?_ | refine post_world ?_
  intro V4 hV4
  rw [World.setRow_alloc_new] at hV4
  have D7 := Lib.hid k2.lt
  have D8 := Lib.hid k3.lt
  have D9 := Lib.hid k4.lt
  have D10 := Lib.hid hb0.size
  have hn : Below U3.heap.size U3 V4 := by rw [hV4]; exact below_a1 _ _
  have nk2 := k2.of hn
  have nk3 := k3.of hn
  have nk4 := k4.of hn
  have nhb0 := hb0.trans (hn.mono hb0.size)
  clear hn
  have k5 : Blk V4 U3.heap.size #[.int .u64 (wd0 xfn), .int .u64 (wd1 xfn), .int .u64 (wd2 xfn), .int .u64 (wd3 xfn), .int .u64 (wd0 xfd), .int .u64 (wd1 xfd), .int .u64 (wd2 xfd), .int .u64 (wd3 xfd), .int .u64 (wd0 xtn), .int .u64 (wd1 xtn), .int .u64 (wd2 xtn), .int .u64 (wd3 xtn), .int .u64 (wd0 xtd), .int .u64 (wd1 xtd), .int .u64 (wd2 xtd), .int .u64 (wd3 xtd), .bool true, .bool xto] 54 := by rw [hV4]; exact (Blk.new _ _ _)
  clear k2 k3 k4
  clear hb0
  clear hV4
  have k2 := nk2
  clear nk2
  have k3 := nk3
  clear nk3
  have k4 := nk4
  clear nk4
  have hb0 := nhb0
  clear nhb0
  refine (cut_v ax ay bx b_y dx dy n yfn yfd ytn ytd yfo yto true HP6.out HP7.out HP8.out HP9.out HP10.out HP11.out HP13.out _iax _iay _ibx _ib_y _idx _idy _in _).mono ?_
  rintro e U5 ⟨rfl, hn⟩
  replace k2 := k2.of hn
  replace k3 := k3.of hn
  replace k4 := k4.of hn
  replace k5 := k5.of hn
  replace hb0 := hb0.trans (hn.mono hb0.size)
  clear hn
  go_wp2_with (first | ((with_reducible refine stRow (U5.heap.size) #[.int .u64 (wd0 yfn), .int .u64 (wd1 yfn), .int .u64 (wd2 yfn), .int .u64 (wd3 yfn), .int .u64 (wd0 yfd), .int .u64 (wd1 yfd), .int .u64 (wd2 yfd), .int .u64 (wd3 yfd), .int .u64 (wd0 ytn), .int .u64 (wd1 ytn), .int .u64 (wd2 ytn), .int .u64 (wd3 ytn), .int .u64 (wd0 ytd), .int .u64 (wd1 ytd), .int .u64 (wd2 ytd), .int .u64 (wd3 ytd), .bool yfo, .bool yto] _ _ (Blk.new _ _ _) ?_ ?_ ?_ ?_ ?_ ?_); rfl; rfl; (as_aux_lemma => kernel_rfl); rfl; (as_aux_lemma => kernel_rfl); simp only [Act.put]) | ((with_reducible refine ldRow (U3.heap.size) #[.int .u64 (wd0 xfn), .int .u64 (wd1 xfn), .int .u64 (wd2 xfn), .int .u64 (wd3 xfn), .int .u64 (wd0 xfd), .int .u64 (wd1 xfd), .int .u64 (wd2 xfd), .int .u64 (wd3 xfd), .int .u64 (wd0 xtn), .int .u64 (wd1 xtn), .int .u64 (wd2 xtn), .int .u64 (wd3 xtn), .int .u64 (wd0 xtd), .int .u64 (wd1 xtd), .int .u64 (wd2 xtd), .int .u64 (wd3 xtd), .bool true, .bool xto] _ (blk_rowo (k5.alloc _) (by have := k5.lt; omega) _) ?_ ?_ ?_ ?_); rfl; exact ⟨_, rfl, rfl⟩; (as_aux_lemma => kernel_rfl); simp only [Act.put, List.setIfInBounds_toArray, List.set_cons_succ, List.set_cons_zero]) | ((with_reducible refine ldRow (U5.heap.size) #[.int .u64 (wd0 yfn), .int .u64 (wd1 yfn), .int .u64 (wd2 yfn), .int .u64 (wd3 yfn), .int .u64 (wd0 yfd), .int .u64 (wd1 yfd), .int .u64 (wd2 yfd), .int .u64 (wd3 yfd), .int .u64 (wd0 ytn), .int .u64 (wd1 ytn), .int .u64 (wd2 ytn), .int .u64 (wd3 ytn), .int .u64 (wd0 ytd), .int .u64 (wd1 ytd), .int .u64 (wd2 ytd), .int .u64 (wd3 ytd), .bool yfo, .bool yto] _ (blk_row (Blk.new _ _ _) _) ?_ ?_ ?_ ?_); rfl; exact ⟨_, rfl, rfl⟩; (as_aux_lemma => kernel_rfl); simp only [Act.put, List.setIfInBounds_toArray, List.set_cons_succ, List.set_cons_zero]))
  first | refine calls_w ?_ | refine name_world ?_ | refine list_world ?_ | refine post_world ?_
  intro V6 hV6
  rw [World.setRow_alloc_new] at hV6
  have D11 := Lib.hid k2.lt
  have D12 := Lib.hid k3.lt
  have D13 := Lib.hid k4.lt
  have D14 := Lib.hid k5.lt
  have D15 := Lib.hid hb0.size
  have hn : Below U5.heap.size U5 V6 := by rw [hV6]; exact below_a1 _ _
  have nk2 := k2.of hn
  have nk3 := k3.of hn
  have nk4 := k4.of hn
  have nk5 := k5.of hn
  have nhb0 := hb0.trans (hn.mono hb0.size)
  clear hn
  have k6 : Blk V6 U5.heap.size #[.int .u64 (wd0 yfn), .int .u64 (wd1 yfn), .int .u64 (wd2 yfn), .int .u64 (wd3 yfn), .int .u64 (wd0 yfd), .int .u64 (wd1 yfd), .int .u64 (wd2 yfd), .int .u64 (wd3 yfd), .int .u64 (wd0 ytn), .int .u64 (wd1 ytn), .int .u64 (wd2 ytn), .int .u64 (wd3 ytn), .int .u64 (wd0 ytd), .int .u64 (wd1 ytd), .int .u64 (wd2 ytd), .int .u64 (wd3 ytd), .bool yfo, .bool yto] 54 := by rw [hV6]; exact (Blk.new _ _ _)
  clear k2 k3 k4 k5
  clear hb0
  clear hV6
  have k2 := nk2
  clear nk2
  have k3 := nk3
  clear nk3
  have k4 := nk4
  clear nk4
  have k5 := nk5
  clear nk5
  have hb0 := nhb0
  clear nhb0
  refine (pxAh_is xfn xfd xtn xtd true xto yfn yfd ytn ytd yfo yto 1 HP14.out _ixfn _ixfd _ixtn _ixtd _iyfn _iyfd _iytn _iytd  _).mono ?_
  rintro e U7 ⟨rfl, hn⟩
  replace k2 := k2.of hn
  replace k3 := k3.of hn
  replace k4 := k4.of hn
  replace k5 := k5.of hn
  replace k6 := k6.of hn
  replace hb0 := hb0.trans (hn.mono hb0.size)
  clear hn
  go_wp2_with (first | ((with_reducible refine ldRow (U5.heap.size) #[.int .u64 (wd0 yfn), .int .u64 (wd1 yfn), .int .u64 (wd2 yfn), .int .u64 (wd3 yfn), .int .u64 (wd0 yfd), .int .u64 (wd1 yfd), .int .u64 (wd2 yfd), .int .u64 (wd3 yfd), .int .u64 (wd0 ytn), .int .u64 (wd1 ytn), .int .u64 (wd2 ytn), .int .u64 (wd3 ytn), .int .u64 (wd0 ytd), .int .u64 (wd1 ytd), .int .u64 (wd2 ytd), .int .u64 (wd3 ytd), .bool yfo, .bool yto] _ k6 ?_ ?_ ?_ ?_); rfl; exact ⟨_, rfl, rfl⟩; (as_aux_lemma => kernel_rfl); simp only [Act.put, List.setIfInBounds_toArray, List.set_cons_succ, List.set_cons_zero]) | ((with_reducible refine ldRow (U3.heap.size) #[.int .u64 (wd0 xfn), .int .u64 (wd1 xfn), .int .u64 (wd2 xfn), .int .u64 (wd3 xfn), .int .u64 (wd0 xfd), .int .u64 (wd1 xfd), .int .u64 (wd2 xfd), .int .u64 (wd3 xfd), .int .u64 (wd0 xtn), .int .u64 (wd1 xtn), .int .u64 (wd2 xtn), .int .u64 (wd3 xtn), .int .u64 (wd0 xtd), .int .u64 (wd1 xtd), .int .u64 (wd2 xtd), .int .u64 (wd3 xtd), .bool true, .bool xto] _ k5 ?_ ?_ ?_ ?_); rfl; exact ⟨_, rfl, rfl⟩; (as_aux_lemma => kernel_rfl); simp only [Act.put, List.setIfInBounds_toArray, List.set_cons_succ, List.set_cons_zero]))
  refine (pxAh_is yfn yfd ytn ytd yfo yto xfn xfd xtn xtd true xto (-1) HP15.out _iyfn _iyfd _iytn _iytd _ixfn _ixfd _ixtn _ixtd  _).mono ?_
  rintro e U8 ⟨rfl, hn⟩
  replace k2 := k2.of hn
  replace k3 := k3.of hn
  replace k4 := k4.of hn
  replace k5 := k5.of hn
  replace k6 := k6.of hn
  replace hb0 := hb0.trans (hn.mono hb0.size)
  clear hn
  obtain ⟨z1, hz1⟩ : ∃ o_o : Bool, (ax == bx) = o_o := ⟨_, rfl⟩
  cases z1
  · have nz1 : ¬ ax = bx := by simpa using hz1
    have nz1_ : ¬ bx = ax := fun e_ => nz1 e_.symm
    have c2_0 : U8.cell? ⟨q2, 0, none⟩ = some (.int .i64 ax) := k2.cell 0
    have c2_1 : U8.cell? ⟨q2, 1, none⟩ = some (.int .i64 ay) := k2.cell 1
    have c2_2 : U8.cell? ⟨q2, 2, none⟩ = some (.int .i64 bx) := k2.cell 2
    have c2_3 : U8.cell? ⟨q2, 3, none⟩ = some (.int .i64 b_y) := k2.cell 3
    have l2 := k2.lt
    have c3_0 : U8.cell? ⟨q3, 0, none⟩ = some (.int .i64 cx) := k3.cell 0
    have c3_1 : U8.cell? ⟨q3, 1, none⟩ = some (.int .i64 cy) := k3.cell 1
    have l3 := k3.lt
    have c4_0 : U8.cell? ⟨q4, 0, none⟩ = some (.int .i64 dx) := k4.cell 0
    have c4_1 : U8.cell? ⟨q4, 1, none⟩ = some (.int .i64 dy) := k4.cell 1
    have l4 := k4.lt
    have pr2_5 : q2 ≠ U3.heap.size := (by have := D7.out; omega)
    have pr3_5 : q3 ≠ U3.heap.size := (by have := D8.out; omega)
    have pr4_5 : q4 ≠ U3.heap.size := (by have := D9.out; omega)
    have pr2_6 : q2 ≠ U5.heap.size := (by have := D11.out; omega)
    have pr3_6 : q3 ≠ U5.heap.size := (by have := D12.out; omega)
    have pr4_6 : q4 ≠ U5.heap.size := (by have := D13.out; omega)
    go_wp2_with (first | ((with_reducible refine ldRow (U5.heap.size) #[.int .u64 (wd0 yfn), .int .u64 (wd1 yfn), .int .u64 (wd2 yfn), .int .u64 (wd3 yfn), .int .u64 (wd0 yfd), .int .u64 (wd1 yfd), .int .u64 (wd2 yfd), .int .u64 (wd3 yfd), .int .u64 (wd0 ytn), .int .u64 (wd1 ytn), .int .u64 (wd2 ytn), .int .u64 (wd3 ytn), .int .u64 (wd0 ytd), .int .u64 (wd1 ytd), .int .u64 (wd2 ytd), .int .u64 (wd3 ytd), .bool yfo, .bool yto] _ k6 ?_ ?_ ?_ ?_); rfl; exact ⟨_, rfl, rfl⟩; (as_aux_lemma => kernel_rfl); simp only [Act.put, List.setIfInBounds_toArray, List.set_cons_succ, List.set_cons_zero]) | ((with_reducible refine ldRow (U3.heap.size) #[.int .u64 (wd0 xfn), .int .u64 (wd1 xfn), .int .u64 (wd2 xfn), .int .u64 (wd3 xfn), .int .u64 (wd0 xfd), .int .u64 (wd1 xfd), .int .u64 (wd2 xfd), .int .u64 (wd3 xfd), .int .u64 (wd0 xtn), .int .u64 (wd1 xtn), .int .u64 (wd2 xtn), .int .u64 (wd3 xtn), .int .u64 (wd0 xtd), .int .u64 (wd1 xtd), .int .u64 (wd2 xtd), .int .u64 (wd3 xtd), .bool true, .bool xto] _ k5 ?_ ?_ ?_ ?_); rfl; exact ⟨_, rfl, rfl⟩; (as_aux_lemma => kernel_rfl); simp only [Act.put, List.setIfInBounds_toArray, List.set_cons_succ, List.set_cons_zero]) | ((with_reducible refine stRow (U3.heap.size) #[.int .u64 (wd0 yfn), .int .u64 (wd1 yfn), .int .u64 (wd2 yfn), .int .u64 (wd3 yfn), .int .u64 (wd0 yfd), .int .u64 (wd1 yfd), .int .u64 (wd2 yfd), .int .u64 (wd3 yfd), .int .u64 (wd0 ytn), .int .u64 (wd1 ytn), .int .u64 (wd2 ytn), .int .u64 (wd3 ytn), .int .u64 (wd0 ytd), .int .u64 (wd1 ytd), .int .u64 (wd2 ytd), .int .u64 (wd3 ytd), .bool yfo, .bool yto] _ _ k5 ?_ ?_ ?_ ?_ ?_ ?_); rfl; rfl; (as_aux_lemma => kernel_rfl); rfl; (as_aux_lemma => kernel_rfl); simp only [Act.put]) | ((with_reducible refine stRow (U5.heap.size) #[.int .u64 (wd0 xfn), .int .u64 (wd1 xfn), .int .u64 (wd2 xfn), .int .u64 (wd3 xfn), .int .u64 (wd0 xfd), .int .u64 (wd1 xfd), .int .u64 (wd2 xfd), .int .u64 (wd3 xfd), .int .u64 (wd0 xtn), .int .u64 (wd1 xtn), .int .u64 (wd2 xtn), .int .u64 (wd3 xtn), .int .u64 (wd0 xtd), .int .u64 (wd1 xtd), .int .u64 (wd2 xtd), .int .u64 (wd3 xtd), .bool true, .bool xto] _ _ (blk_rowo k6 (by have := D14.out; omega) _) ?_ ?_ ?_ ?_ ?_ ?_); rfl; rfl; (as_aux_lemma => kernel_rfl); rfl; (as_aux_lemma => kernel_rfl); simp only [Act.put]))
    clear c2_0 c2_1 c2_2 c2_3 l2 c3_0 c3_1 l3 c4_0 c4_1 l4 pr2_5 pr3_5 pr4_5 pr2_6 pr3_6 pr4_6
    first | refine calls_w ?_ | refine name_world ?_ | refine list_world ?_ | refine post_world ?_
    intro V9 hV9
    clear k2 k3 k4
    have D16 := Lib.hid k5.lt
    have D17 := Lib.hid k6.lt
    have D18 := Lib.hid hb0.size
    have nk5 : Blk V9 U3.heap.size #[.int .u64 (wd0 yfn), .int .u64 (wd1 yfn), .int .u64 (wd2 yfn), .int .u64 (wd3 yfn), .int .u64 (wd0 yfd), .int .u64 (wd1 yfd), .int .u64 (wd2 yfd), .int .u64 (wd3 yfd), .int .u64 (wd0 ytn), .int .u64 (wd1 ytn), .int .u64 (wd2 ytn), .int .u64 (wd3 ytn), .int .u64 (wd0 ytd), .int .u64 (wd1 ytd), .int .u64 (wd2 ytd), .int .u64 (wd3 ytd), .bool yfo, .bool yto] 54 := by rw [hV9]; exact (blk_rowo (blk_row k5 _) (by have := D14.out; omega) _)
    have nk6 : Blk V9 U5.heap.size #[.int .u64 (wd0 xfn), .int .u64 (wd1 xfn), .int .u64 (wd2 xfn), .int .u64 (wd3 xfn), .int .u64 (wd0 xfd), .int .u64 (wd1 xfd), .int .u64 (wd2 xfd), .int .u64 (wd3 xfd), .int .u64 (wd0 xtn), .int .u64 (wd1 xtn), .int .u64 (wd2 xtn), .int .u64 (wd3 xtn), .int .u64 (wd0 xtd), .int .u64 (wd1 xtd), .int .u64 (wd2 xtd), .int .u64 (wd3 xtd), .bool true, .bool xto] 54 := by rw [hV9]; exact (blk_row (blk_rowo k6 (by have := D14.out; omega) _) _)
    have nhb0 : Below w.heap.size w V9 := by rw [hV9]; exact (blw_row (blw_row hb0 (by have := D10.out; omega) _) (by have := D15.out; omega) _)
    clear k5 k6
    clear hb0
    clear hV9
    have k5 := nk5
    clear nk5
    have k6 := nk6
    clear nk6
    have hb0 := nhb0
    clear nhb0
    have c5_8 : V9.cell? ⟨U3.heap.size, 8, none⟩ = some (.int .u64 (wd0 ytn)) := k5.cell 8
    have c5_9 : V9.cell? ⟨U3.heap.size, 9, none⟩ = some (.int .u64 (wd1 ytn)) := k5.cell 9
    have c5_10 : V9.cell? ⟨U3.heap.size, 10, none⟩ = some (.int .u64 (wd2 ytn)) := k5.cell 10
    have c5_11 : V9.cell? ⟨U3.heap.size, 11, none⟩ = some (.int .u64 (wd3 ytn)) := k5.cell 11
    have c5_12 : V9.cell? ⟨U3.heap.size, 12, none⟩ = some (.int .u64 (wd0 ytd)) := k5.cell 12
    have c5_13 : V9.cell? ⟨U3.heap.size, 13, none⟩ = some (.int .u64 (wd1 ytd)) := k5.cell 13
    have c5_14 : V9.cell? ⟨U3.heap.size, 14, none⟩ = some (.int .u64 (wd2 ytd)) := k5.cell 14
    have c5_15 : V9.cell? ⟨U3.heap.size, 15, none⟩ = some (.int .u64 (wd3 ytd)) := k5.cell 15
    have l5 := k5.lt
    have c6_0 : V9.cell? ⟨U5.heap.size, 0, none⟩ = some (.int .u64 (wd0 xfn)) := k6.cell 0
    have c6_1 : V9.cell? ⟨U5.heap.size, 1, none⟩ = some (.int .u64 (wd1 xfn)) := k6.cell 1
    have c6_2 : V9.cell? ⟨U5.heap.size, 2, none⟩ = some (.int .u64 (wd2 xfn)) := k6.cell 2
    have c6_3 : V9.cell? ⟨U5.heap.size, 3, none⟩ = some (.int .u64 (wd3 xfn)) := k6.cell 3
    have c6_4 : V9.cell? ⟨U5.heap.size, 4, none⟩ = some (.int .u64 (wd0 xfd)) := k6.cell 4
    have c6_5 : V9.cell? ⟨U5.heap.size, 5, none⟩ = some (.int .u64 (wd1 xfd)) := k6.cell 5
    have c6_6 : V9.cell? ⟨U5.heap.size, 6, none⟩ = some (.int .u64 (wd2 xfd)) := k6.cell 6
    have c6_7 : V9.cell? ⟨U5.heap.size, 7, none⟩ = some (.int .u64 (wd3 xfd)) := k6.cell 7
    have l6 := k6.lt
    have Kk5 := Lib.hid k5
    clear k5
    have Kk6 := Lib.hid k6
    clear k6
    refine wp_region_up V9.heap.size 5 [(true, 0), (true, 1), (true, 3), (true, 4), (false, 2)] (by kernel_rfl) (by kernel_rfl) (fun _ _ d _ _ h => by cases d <;> exact h) ?_
    have hb : Below V9.heap.size V9 V9.drew := (Below.refl _ _).drew
    iterate 4
      refine wpS_takeL rfl rfl ?_
      go_big_quiet_step (rfl)
      refine wpQuiet_nil ?_
    refine wpS_doL rfl ?_
    intro K hK
    go_wp2_with ((go_at_call 38; (with_reducible refine (p15rat_is ytn ytd ytn ytd HP18.out HP19.out _iytn _iytd  _).mono ?_); rintro e w2 ⟨bn1, ba1, bl1, bc1, bn2, ba2, bl2, bc2, rfl, hbm1, hbm2, hn⟩; have HB1 := Lib.hid hbm1; have HB2 := Lib.hid hbm2; clear hbm1 hbm2))
    replace hb := hb.trans (hn.mono hb.size)
    refine hK.out _ _ (up_iff.2 hb) ?_
    clear hK K
    clear hn
    refine wpS_nil ?_
    simp only [List.drop_succ_cons, List.drop_zero]
    first | refine calls_w ?_ | refine name_world ?_ | refine list_world ?_ | refine post_world ?_
    intro U10 hU10
    first | (subst hU10; have u_ := U10; clear u_) | (rw [← hU10] at hb; clear hU10)
    clear c5_8 c5_9 c5_10 c5_11 c5_12 c5_13 c5_14 c5_15 l5 c6_0 c6_1 c6_2 c6_3 c6_4 c6_5 c6_6 c6_7 l6
    have k5 := Kk5.out.of hb
    clear Kk5
    have k6 := Kk6.out.of hb
    clear Kk6
    replace hb0 := hb0.trans (hb.mono hb0.size)
    clear hb
    go_wp2_with fail
    refine (p15rat_is xfn xfd xfn xfd HP20.out HP21.out _ixfn _ixfd  _).mono ?_
    rintro e U11 ⟨bn3, ba3, bl3, bc3, bn4, ba4, bl4, bc4, rfl, hbm3, hbm4, hn⟩
    replace k5 := k5.of hn
    replace k6 := k6.of hn
    replace HB1 := Lib.hid (HB1.out.of hn)
    replace HB2 := Lib.hid (HB2.out.of hn)
    replace hb0 := hb0.trans (hn.mono hb0.size)
    clear hn
    have HB3 := Lib.hid hbm3
    have HB4 := Lib.hid hbm4
    clear hbm3 hbm4
    go_wp2_with fail
    refine (rrC_is ytn ytd xfn xfd 0 HP25.out  bn1 ba1 bl1 bc1 bn2 ba2 bl2 bc2 bn3 ba3 bl3 bc3 bn4 ba4 bl4 bc4 _ HB1.out HB2.out HB3.out HB4.out).mono ?_
    rintro e U12 ⟨rfl, hn⟩
    clear HB1 HB2 HB3 HB4
    replace k5 := k5.of hn
    replace k6 := k6.of hn
    replace hb0 := hb0.trans (hn.mono hb0.size)
    clear hn
    cases yto
    · have c5_17 : U12.cell? ⟨U3.heap.size, 17, none⟩ = some (.bool false) := k5.cell 17
      have l5 := k5.lt
      have c6_16 : U12.cell? ⟨U5.heap.size, 16, none⟩ = some (.bool true) := k6.cell 16
      have l6 := k6.lt
      go_wp2_with fail
      clear c5_17 l5 c6_16 l6
      refine (p15awake_any _).mono ?_
      rintro e U13 ⟨rfl, hn⟩
      clear k5 k6
      replace hb0 := hb0.trans (hn.mono hb0.size)
      clear hn
      go_wp2
      first | go_ret | go_ret2
      exact ⟨by first | rfl | (simp; done) | (simp; assumption), hb0⟩
    · have c5_17 : U12.cell? ⟨U3.heap.size, 17, none⟩ = some (.bool true) := k5.cell 17
      have l5 := k5.lt
      go_wp2_with fail
      clear c5_17 l5
      refine (p15awake_any _).mono ?_
      rintro e U14 ⟨rfl, hn⟩
      clear k5 k6
      replace hb0 := hb0.trans (hn.mono hb0.size)
      clear hn
      go_wp2
      first | go_ret | go_ret2
      exact ⟨by first | rfl | (simp; done) | (simp; assumption), hb0⟩
  · have qz1 : ax = bx := by simpa using hz1
    clear hz1
    subst qz1
    obtain ⟨z2, hz2⟩ : ∃ o_o : Bool, (ay == b_y) = o_o := ⟨_, rfl⟩
    cases z2
    · have nz2 : ¬ ay = b_y := by simpa using hz2
      have nz2_ : ¬ b_y = ay := fun e_ => nz2 e_.symm
      have c2_0 : U8.cell? ⟨q2, 0, none⟩ = some (.int .i64 ax) := k2.cell 0
      have c2_1 : U8.cell? ⟨q2, 1, none⟩ = some (.int .i64 ay) := k2.cell 1
      have c2_2 : U8.cell? ⟨q2, 2, none⟩ = some (.int .i64 ax) := k2.cell 2
      have c2_3 : U8.cell? ⟨q2, 3, none⟩ = some (.int .i64 b_y) := k2.cell 3
      have l2 := k2.lt
      have c3_0 : U8.cell? ⟨q3, 0, none⟩ = some (.int .i64 cx) := k3.cell 0
      have c3_1 : U8.cell? ⟨q3, 1, none⟩ = some (.int .i64 cy) := k3.cell 1
      have l3 := k3.lt
      have c4_0 : U8.cell? ⟨q4, 0, none⟩ = some (.int .i64 dx) := k4.cell 0
      have c4_1 : U8.cell? ⟨q4, 1, none⟩ = some (.int .i64 dy) := k4.cell 1
      have l4 := k4.lt
      have pr2_5 : q2 ≠ U3.heap.size := (by have := D7.out; omega)
      have pr3_5 : q3 ≠ U3.heap.size := (by have := D8.out; omega)
      have pr4_5 : q4 ≠ U3.heap.size := (by have := D9.out; omega)
      have pr2_6 : q2 ≠ U5.heap.size := (by have := D11.out; omega)
      have pr3_6 : q3 ≠ U5.heap.size := (by have := D12.out; omega)
      have pr4_6 : q4 ≠ U5.heap.size := (by have := D13.out; omega)
      go_wp2_with (first | ((with_reducible refine ldRow (U5.heap.size) #[.int .u64 (wd0 yfn), .int .u64 (wd1 yfn), .int .u64 (wd2 yfn), .int .u64 (wd3 yfn), .int .u64 (wd0 yfd), .int .u64 (wd1 yfd), .int .u64 (wd2 yfd), .int .u64 (wd3 yfd), .int .u64 (wd0 ytn), .int .u64 (wd1 ytn), .int .u64 (wd2 ytn), .int .u64 (wd3 ytn), .int .u64 (wd0 ytd), .int .u64 (wd1 ytd), .int .u64 (wd2 ytd), .int .u64 (wd3 ytd), .bool yfo, .bool yto] _ k6 ?_ ?_ ?_ ?_); rfl; exact ⟨_, rfl, rfl⟩; (as_aux_lemma => kernel_rfl); simp only [Act.put, List.setIfInBounds_toArray, List.set_cons_succ, List.set_cons_zero]) | ((with_reducible refine ldRow (U3.heap.size) #[.int .u64 (wd0 xfn), .int .u64 (wd1 xfn), .int .u64 (wd2 xfn), .int .u64 (wd3 xfn), .int .u64 (wd0 xfd), .int .u64 (wd1 xfd), .int .u64 (wd2 xfd), .int .u64 (wd3 xfd), .int .u64 (wd0 xtn), .int .u64 (wd1 xtn), .int .u64 (wd2 xtn), .int .u64 (wd3 xtn), .int .u64 (wd0 xtd), .int .u64 (wd1 xtd), .int .u64 (wd2 xtd), .int .u64 (wd3 xtd), .bool true, .bool xto] _ k5 ?_ ?_ ?_ ?_); rfl; exact ⟨_, rfl, rfl⟩; (as_aux_lemma => kernel_rfl); simp only [Act.put, List.setIfInBounds_toArray, List.set_cons_succ, List.set_cons_zero]) | ((with_reducible refine stRow (U3.heap.size) #[.int .u64 (wd0 yfn), .int .u64 (wd1 yfn), .int .u64 (wd2 yfn), .int .u64 (wd3 yfn), .int .u64 (wd0 yfd), .int .u64 (wd1 yfd), .int .u64 (wd2 yfd), .int .u64 (wd3 yfd), .int .u64 (wd0 ytn), .int .u64 (wd1 ytn), .int .u64 (wd2 ytn), .int .u64 (wd3 ytn), .int .u64 (wd0 ytd), .int .u64 (wd1 ytd), .int .u64 (wd2 ytd), .int .u64 (wd3 ytd), .bool yfo, .bool yto] _ _ k5 ?_ ?_ ?_ ?_ ?_ ?_); rfl; rfl; (as_aux_lemma => kernel_rfl); rfl; (as_aux_lemma => kernel_rfl); simp only [Act.put]) | ((with_reducible refine stRow (U5.heap.size) #[.int .u64 (wd0 xfn), .int .u64 (wd1 xfn), .int .u64 (wd2 xfn), .int .u64 (wd3 xfn), .int .u64 (wd0 xfd), .int .u64 (wd1 xfd), .int .u64 (wd2 xfd), .int .u64 (wd3 xfd), .int .u64 (wd0 xtn), .int .u64 (wd1 xtn), .int .u64 (wd2 xtn), .int .u64 (wd3 xtn), .int .u64 (wd0 xtd), .int .u64 (wd1 xtd), .int .u64 (wd2 xtd), .int .u64 (wd3 xtd), .bool true, .bool xto] _ _ (blk_rowo k6 (by have := D14.out; omega) _) ?_ ?_ ?_ ?_ ?_ ?_); rfl; rfl; (as_aux_lemma => kernel_rfl); rfl; (as_aux_lemma => kernel_rfl); simp only [Act.put]))
      clear c2_0 c2_1 c2_2 c2_3 l2 c3_0 c3_1 l3 c4_0 c4_1 l4 pr2_5 pr3_5 pr4_5 pr2_6 pr3_6 pr4_6
      first | refine calls_w ?_ | refine name_world ?_ | refine list_world ?_ | refine post_world ?_
      intro V15 hV15
      clear k2 k3 k4
      have D19 := Lib.hid k5.lt
      have D20 := Lib.hid k6.lt
      have D21 := Lib.hid hb0.size
      have nk5 : Blk V15 U3.heap.size #[.int .u64 (wd0 yfn), .int .u64 (wd1 yfn), .int .u64 (wd2 yfn), .int .u64 (wd3 yfn), .int .u64 (wd0 yfd), .int .u64 (wd1 yfd), .int .u64 (wd2 yfd), .int .u64 (wd3 yfd), .int .u64 (wd0 ytn), .int .u64 (wd1 ytn), .int .u64 (wd2 ytn), .int .u64 (wd3 ytn), .int .u64 (wd0 ytd), .int .u64 (wd1 ytd), .int .u64 (wd2 ytd), .int .u64 (wd3 ytd), .bool yfo, .bool yto] 54 := by rw [hV15]; exact (blk_rowo (blk_row k5 _) (by have := D14.out; omega) _)
      have nk6 : Blk V15 U5.heap.size #[.int .u64 (wd0 xfn), .int .u64 (wd1 xfn), .int .u64 (wd2 xfn), .int .u64 (wd3 xfn), .int .u64 (wd0 xfd), .int .u64 (wd1 xfd), .int .u64 (wd2 xfd), .int .u64 (wd3 xfd), .int .u64 (wd0 xtn), .int .u64 (wd1 xtn), .int .u64 (wd2 xtn), .int .u64 (wd3 xtn), .int .u64 (wd0 xtd), .int .u64 (wd1 xtd), .int .u64 (wd2 xtd), .int .u64 (wd3 xtd), .bool true, .bool xto] 54 := by rw [hV15]; exact (blk_row (blk_rowo k6 (by have := D14.out; omega) _) _)
      have nhb0 : Below w.heap.size w V15 := by rw [hV15]; exact (blw_row (blw_row hb0 (by have := D10.out; omega) _) (by have := D15.out; omega) _)
      clear k5 k6
      clear hb0
      clear hV15
      have k5 := nk5
      clear nk5
      have k6 := nk6
      clear nk6
      have hb0 := nhb0
      clear nhb0
      have c5_8 : V15.cell? ⟨U3.heap.size, 8, none⟩ = some (.int .u64 (wd0 ytn)) := k5.cell 8
      have c5_9 : V15.cell? ⟨U3.heap.size, 9, none⟩ = some (.int .u64 (wd1 ytn)) := k5.cell 9
      have c5_10 : V15.cell? ⟨U3.heap.size, 10, none⟩ = some (.int .u64 (wd2 ytn)) := k5.cell 10
      have c5_11 : V15.cell? ⟨U3.heap.size, 11, none⟩ = some (.int .u64 (wd3 ytn)) := k5.cell 11
      have c5_12 : V15.cell? ⟨U3.heap.size, 12, none⟩ = some (.int .u64 (wd0 ytd)) := k5.cell 12
      have c5_13 : V15.cell? ⟨U3.heap.size, 13, none⟩ = some (.int .u64 (wd1 ytd)) := k5.cell 13
      have c5_14 : V15.cell? ⟨U3.heap.size, 14, none⟩ = some (.int .u64 (wd2 ytd)) := k5.cell 14
      have c5_15 : V15.cell? ⟨U3.heap.size, 15, none⟩ = some (.int .u64 (wd3 ytd)) := k5.cell 15
      have l5 := k5.lt
      have c6_0 : V15.cell? ⟨U5.heap.size, 0, none⟩ = some (.int .u64 (wd0 xfn)) := k6.cell 0
      have c6_1 : V15.cell? ⟨U5.heap.size, 1, none⟩ = some (.int .u64 (wd1 xfn)) := k6.cell 1
      have c6_2 : V15.cell? ⟨U5.heap.size, 2, none⟩ = some (.int .u64 (wd2 xfn)) := k6.cell 2
      have c6_3 : V15.cell? ⟨U5.heap.size, 3, none⟩ = some (.int .u64 (wd3 xfn)) := k6.cell 3
      have c6_4 : V15.cell? ⟨U5.heap.size, 4, none⟩ = some (.int .u64 (wd0 xfd)) := k6.cell 4
      have c6_5 : V15.cell? ⟨U5.heap.size, 5, none⟩ = some (.int .u64 (wd1 xfd)) := k6.cell 5
      have c6_6 : V15.cell? ⟨U5.heap.size, 6, none⟩ = some (.int .u64 (wd2 xfd)) := k6.cell 6
      have c6_7 : V15.cell? ⟨U5.heap.size, 7, none⟩ = some (.int .u64 (wd3 xfd)) := k6.cell 7
      have l6 := k6.lt
      have Kk5 := Lib.hid k5
      clear k5
      have Kk6 := Lib.hid k6
      clear k6
      refine wp_region_up V15.heap.size 5 [(true, 0), (true, 1), (true, 3), (true, 4), (false, 2)] (by kernel_rfl) (by kernel_rfl) (fun _ _ d _ _ h => by cases d <;> exact h) ?_
      have hb : Below V15.heap.size V15 V15.drew := (Below.refl _ _).drew
      iterate 4
        refine wpS_takeL rfl rfl ?_
        go_big_quiet_step (rfl)
        refine wpQuiet_nil ?_
      refine wpS_doL rfl ?_
      intro K hK
      go_wp2_with ((go_at_call 38; (with_reducible refine (p15rat_is ytn ytd ytn ytd HP18.out HP19.out _iytn _iytd  _).mono ?_); rintro e w2 ⟨bn5, ba5, bl5, bc5, bn6, ba6, bl6, bc6, rfl, hbm5, hbm6, hn⟩; have HB5 := Lib.hid hbm5; have HB6 := Lib.hid hbm6; clear hbm5 hbm6))
      replace hb := hb.trans (hn.mono hb.size)
      refine hK.out _ _ (up_iff.2 hb) ?_
      clear hK K
      clear hn
      refine wpS_nil ?_
      simp only [List.drop_succ_cons, List.drop_zero]
      first | refine calls_w ?_ | refine name_world ?_ | refine list_world ?_ | refine post_world ?_
      intro U16 hU16
      first | (subst hU16; have u_ := U16; clear u_) | (rw [← hU16] at hb; clear hU16)
      clear c5_8 c5_9 c5_10 c5_11 c5_12 c5_13 c5_14 c5_15 l5 c6_0 c6_1 c6_2 c6_3 c6_4 c6_5 c6_6 c6_7 l6
      have k5 := Kk5.out.of hb
      clear Kk5
      have k6 := Kk6.out.of hb
      clear Kk6
      replace hb0 := hb0.trans (hb.mono hb0.size)
      clear hb
      go_wp2_with fail
      refine (p15rat_is xfn xfd xfn xfd HP20.out HP21.out _ixfn _ixfd  _).mono ?_
      rintro e U17 ⟨bn7, ba7, bl7, bc7, bn8, ba8, bl8, bc8, rfl, hbm7, hbm8, hn⟩
      replace k5 := k5.of hn
      replace k6 := k6.of hn
      replace HB5 := Lib.hid (HB5.out.of hn)
      replace HB6 := Lib.hid (HB6.out.of hn)
      replace hb0 := hb0.trans (hn.mono hb0.size)
      clear hn
      have HB7 := Lib.hid hbm7
      have HB8 := Lib.hid hbm8
      clear hbm7 hbm8
      go_wp2_with fail
      refine (rrC_is ytn ytd xfn xfd 0 HP25.out  bn5 ba5 bl5 bc5 bn6 ba6 bl6 bc6 bn7 ba7 bl7 bc7 bn8 ba8 bl8 bc8 _ HB5.out HB6.out HB7.out HB8.out).mono ?_
      rintro e U18 ⟨rfl, hn⟩
      clear HB5 HB6 HB7 HB8
      replace k5 := k5.of hn
      replace k6 := k6.of hn
      replace hb0 := hb0.trans (hn.mono hb0.size)
      clear hn
      cases yto
      · have c5_17 : U18.cell? ⟨U3.heap.size, 17, none⟩ = some (.bool false) := k5.cell 17
        have l5 := k5.lt
        have c6_16 : U18.cell? ⟨U5.heap.size, 16, none⟩ = some (.bool true) := k6.cell 16
        have l6 := k6.lt
        go_wp2_with fail
        clear c5_17 l5 c6_16 l6
        refine (p15awake_any _).mono ?_
        rintro e U19 ⟨rfl, hn⟩
        clear k5 k6
        replace hb0 := hb0.trans (hn.mono hb0.size)
        clear hn
        go_wp2
        first | go_ret | go_ret2
        exact ⟨by first | rfl | (simp; done) | (simp; assumption), hb0⟩
      · have c5_17 : U18.cell? ⟨U3.heap.size, 17, none⟩ = some (.bool true) := k5.cell 17
        have l5 := k5.lt
        go_wp2_with fail
        clear c5_17 l5
        refine (p15awake_any _).mono ?_
        rintro e U20 ⟨rfl, hn⟩
        clear k5 k6
        replace hb0 := hb0.trans (hn.mono hb0.size)
        clear hn
        go_wp2
        first | go_ret | go_ret2
        exact ⟨by first | rfl | (simp; done) | (simp; assumption), hb0⟩
    · have qz2 : ay = b_y := by simpa using hz2
      clear hz2
      subst qz2
      have c2_0 : U8.cell? ⟨q2, 0, none⟩ = some (.int .i64 ax) := k2.cell 0
      have c2_1 : U8.cell? ⟨q2, 1, none⟩ = some (.int .i64 ay) := k2.cell 1
      have c2_2 : U8.cell? ⟨q2, 2, none⟩ = some (.int .i64 ax) := k2.cell 2
      have c2_3 : U8.cell? ⟨q2, 3, none⟩ = some (.int .i64 ay) := k2.cell 3
      have l2 := k2.lt
      go_wp2_with fail
      clear c2_0 c2_1 c2_2 c2_3 l2
      refine (p15awake_any _).mono ?_
      rintro e U21 ⟨rfl, hn⟩
      clear k2
      replace k3 := k3.of hn
      replace k4 := k4.of hn
      replace k5 := k5.of hn
      replace k6 := k6.of hn
      replace hb0 := hb0.trans (hn.mono hb0.size)
      clear hn
      go_wp2
      first | go_ret | go_ret2
      exact ⟨by first | rfl | (simp; done) | (simp; assumption), hb0⟩
end Go.Proofs.Ytlcbomjdbdgbmaa

