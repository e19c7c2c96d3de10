/- The walk of gromalaw04.CrossSides. Conditions: the numbers are ints and numbers of 256 bits. -/
import Derived.Test.YtlcbomjdbdgbmaaCrX
import Derived.Test.YtlcbomjdbdgbmaaCr8
import Derived.Test.YtlcbomjdbdgbmaaAwE
namespace Go.Proofs.Ytlcbomjdbdgbmaa
open Go.RowKit

set_option maxRecDepth 100000 in
set_option maxHeartbeats 4000000 in

theorem CSides_1 (ax : Int) (ay : Int) (bx : Int) (b_y : Int) (x : Int) (y : Int) (v : Int) (b : Bool)   (hP0 : cspx x y v = x) (hP1 : cspy x y v = y) (hP2 : cspv x y v = v) (hP3 : crR ax ay bx b_y = false) (hP4 : Sde ax ay bx b_y x y v = 0) (hP5 : hldB ax ay bx b_y x y v = false) (hP6 : spR x y v = b) (hP7 : rspR x y v = b) (_iax : In64 ax) (_iay : In64 ay) (_ibx : In64 bx) (_ib_y : In64 b_y) (_ix : InI x) (_iy : InI y) (_iv : InI v)  (w : World)  :
    Calls Try.prog 14 #[.agg #[.int .i64 ax, .int .i64 ay, .int .i64 bx, .int .i64 b_y], .agg #[.int .u64 (wd0 x), .int .u64 (wd1 x), .int .u64 (wd2 x), .int .u64 (wd3 x), .int .u64 (wd0 y), .int .u64 (wd1 y), .int .u64 (wd2 y), .int .u64 (wd3 y), .int .u64 (wd0 v), .int .u64 (wd1 v), .int .u64 (wd2 v), .int .u64 (wd3 v)]] w fun e w' => e = .returned (.bool true) ∧ Below w.heap.size w w' := by

  have HP0 := Lib.hid hP0
  clear hP0
  have HP1 := Lib.hid hP1
  clear hP1
  have HP2 := Lib.hid hP2
  clear hP2
  have HP3 := Lib.hid hP3
  clear hP3
  have HP4 := Lib.hid hP4
  clear hP4
  have HP5 := Lib.hid hP5
  clear hP5
  have HP6 := Lib.hid hP6
  clear hP6
  have HP7 := Lib.hid hP7
  clear hP7
  go_enter Try.func14, Try.ntmps14
  go_wp2_with fail
  first | refine calls_w ?_ | refine name_world ?_ | refine list_world ?_ | refine post_world ?_
  intro V1 hV1
  have hn : Below w.heap.size w V1 := by rw [hV1]; exact below_a2 _ _ _
  have nhb0 := hn
  have k1 : Blk V1 w.heap.size #[.int .i64 ax, .int .i64 ay, .int .i64 bx, .int .i64 b_y] 50 := by rw [hV1]; exact ((Blk.new _ _ _).alloc _)
  have k2 : Blk V1 (w.heap.size + 1) #[.int .u64 (wd0 x), .int .u64 (wd1 x), .int .u64 (wd2 x), .int .u64 (wd3 x), .int .u64 (wd0 y), .int .u64 (wd1 y), .int .u64 (wd2 y), .int .u64 (wd3 y), .int .u64 (wd0 v), .int .u64 (wd1 v), .int .u64 (wd2 v), .int .u64 (wd3 v)] 67 := by rw [hV1]; exact (Blk.new1 _ _ _ _)
  clear hV1
  have hb0 := nhb0
  clear nhb0
  refine (cspot_is x y v x y v HP0.out HP1.out HP2.out _ix _iy _iv  _).mono ?_
  rintro e U2 ⟨bn1, ba1, bl1, bc1, bn2, ba2, bl2, bc2, bn3, ba3, bl3, bc3, rfl, hbm1, hbm2, hbm3, hn⟩
  replace k1 := k1.of hn
  replace k2 := k2.of hn
  replace hb0 := hb0.trans (hn.mono hb0.size)
  clear hn
  have HB1 := Lib.hid hbm1
  have HB2 := Lib.hid hbm2
  have HB3 := Lib.hid hbm3
  clear hbm1 hbm2 hbm3
  have c1_0 : U2.cell? ⟨w.heap.size, 0, none⟩ = some (.int .i64 ax) := k1.cell 0
  have c1_1 : U2.cell? ⟨w.heap.size, 1, none⟩ = some (.int .i64 ay) := k1.cell 1
  have c1_2 : U2.cell? ⟨w.heap.size, 2, none⟩ = some (.int .i64 bx) := k1.cell 2
  have c1_3 : U2.cell? ⟨w.heap.size, 3, none⟩ = some (.int .i64 b_y) := k1.cell 3
  have l1 := k1.lt
  go_wp2_with fail
  clear c1_0 c1_1 c1_2 c1_3 l1
  first | refine calls_w ?_ | refine name_world ?_ | refine list_world ?_ | refine post_world ?_
  intro V3 hV3
  have D1 := Lib.hid k1.lt
  have D2 := Lib.hid k2.lt
  have D3 := Lib.hid hb0.size
  have hn : Below U2.heap.size U2 V3 := by rw [hV3]; exact below_a1 _ _
  have nk1 := k1.of hn
  have nk2 := k2.of hn
  replace HB1 := Lib.hid (HB1.out.of hn)
  replace HB2 := Lib.hid (HB2.out.of hn)
  replace HB3 := Lib.hid (HB3.out.of hn)
  have nhb0 := hb0.trans (hn.mono hb0.size)
  clear hn
  have k3 : Blk V3 U2.heap.size #[.bool bn1, .slice ba1 bl1 bc1, .bool bn2, .slice ba2 bl2 bc2, .bool bn3, .slice ba3 bl3 bc3] 72 := by rw [hV3]; exact (Blk.new _ _ _)
  clear k1 k2
  clear hb0
  clear hV3
  have k1 := nk1
  clear nk1
  have k2 := nk2
  clear nk2
  have hb0 := nhb0
  clear nhb0
  refine (cright_is ax ay bx b_y false HP3.out _iax _iay _ibx _ib_y  _).mono ?_
  rintro e U4 ⟨rfl, hn⟩
  replace k1 := k1.of hn
  replace k2 := k2.of hn
  replace k3 := k3.of hn
  replace HB1 := Lib.hid (HB1.out.of hn)
  replace HB2 := Lib.hid (HB2.out.of hn)
  replace HB3 := Lib.hid (HB3.out.of hn)
  replace hb0 := hb0.trans (hn.mono hb0.size)
  clear hn
  go_wp2_with fail
  have c1_0 : U4.cell? ⟨w.heap.size, 0, none⟩ = some (.int .i64 ax) := k1.cell 0
  have c1_1 : U4.cell? ⟨w.heap.size, 1, none⟩ = some (.int .i64 ay) := k1.cell 1
  have c1_2 : U4.cell? ⟨w.heap.size, 2, none⟩ = some (.int .i64 bx) := k1.cell 2
  have c1_3 : U4.cell? ⟨w.heap.size, 3, none⟩ = some (.int .i64 b_y) := k1.cell 3
  have l1 := k1.lt
  have c2_0 : U4.cell? ⟨(w.heap.size + 1), 0, none⟩ = some (.int .u64 (wd0 x)) := k2.cell 0
  have c2_1 : U4.cell? ⟨(w.heap.size + 1), 1, none⟩ = some (.int .u64 (wd1 x)) := k2.cell 1
  have c2_2 : U4.cell? ⟨(w.heap.size + 1), 2, none⟩ = some (.int .u64 (wd2 x)) := k2.cell 2
  have c2_3 : U4.cell? ⟨(w.heap.size + 1), 3, none⟩ = some (.int .u64 (wd3 x)) := k2.cell 3
  have c2_4 : U4.cell? ⟨(w.heap.size + 1), 4, none⟩ = some (.int .u64 (wd0 y)) := k2.cell 4
  have c2_5 : U4.cell? ⟨(w.heap.size + 1), 5, none⟩ = some (.int .u64 (wd1 y)) := k2.cell 5
  have c2_6 : U4.cell? ⟨(w.heap.size + 1), 6, none⟩ = some (.int .u64 (wd2 y)) := k2.cell 6
  have c2_7 : U4.cell? ⟨(w.heap.size + 1), 7, none⟩ = some (.int .u64 (wd3 y)) := k2.cell 7
  have c2_8 : U4.cell? ⟨(w.heap.size + 1), 8, none⟩ = some (.int .u64 (wd0 v)) := k2.cell 8
  have c2_9 : U4.cell? ⟨(w.heap.size + 1), 9, none⟩ = some (.int .u64 (wd1 v)) := k2.cell 9
  have c2_10 : U4.cell? ⟨(w.heap.size + 1), 10, none⟩ = some (.int .u64 (wd2 v)) := k2.cell 10
  have c2_11 : U4.cell? ⟨(w.heap.size + 1), 11, none⟩ = some (.int .u64 (wd3 v)) := k2.cell 11
  have l2 := k2.lt
  have c3_0 : U4.cell? ⟨U2.heap.size, 0, none⟩ = some (.bool bn1) := k3.cell 0
  have c3_1 : U4.cell? ⟨U2.heap.size, 1, none⟩ = some (.slice ba1 bl1 bc1) := k3.cell 1
  have c3_2 : U4.cell? ⟨U2.heap.size, 2, none⟩ = some (.bool bn2) := k3.cell 2
  have c3_3 : U4.cell? ⟨U2.heap.size, 3, none⟩ = some (.slice ba2 bl2 bc2) := k3.cell 3
  have c3_4 : U4.cell? ⟨U2.heap.size, 4, none⟩ = some (.bool bn3) := k3.cell 4
  have c3_5 : U4.cell? ⟨U2.heap.size, 5, none⟩ = some (.slice ba3 bl3 bc3) := k3.cell 5
  have l3 := k3.lt
  have Kk1 := Lib.hid k1
  clear k1
  have Kk2 := Lib.hid k2
  clear k2
  have Kk3 := Lib.hid k3
  clear k3
  refine wp_region_up U4.heap.size 14 [(true, 0), (true, 1), (false, 2), (true, 3), (true, 4), (true, 5), (true, 6), (false, 7), (true, 8), (true, 9), (true, 10), (true, 11), (true, 13), (false, 12)] (by kernel_rfl) (by kernel_rfl) (fun _ _ d _ _ h => by cases d <;> exact h) ?_
  have hb : Below U4.heap.size U4 U4.drew := (Below.refl _ _).drew
  iterate 2
    refine wpS_takeL rfl rfl ?_
    go_big_quiet_step (rfl)
    refine wpQuiet_nil ?_
  refine wpS_doL rfl ?_
  intro K hK
  go_wp2_with ((first | (go_at_call 69; (with_reducible refine (SegSide_is ax ay bx b_y x y v 0 HP4.out _iax _iay _ibx _ib_y _ix _iy _iv  _).mono ?_); rintro e w2 ⟨rfl, hn⟩) | (go_at_call 70; (with_reducible refine (SegHolds_is ax ay bx b_y x y v false HP5.out _iax _iay _ibx _ib_y _ix _iy _iv  _).mono ?_); rintro e w2 ⟨rfl, hn⟩) | (go_at_call 59; (with_reducible refine (SpRight_is x y v b HP6.out _ix _iy _iv  _).mono ?_); rintro e w2 ⟨rfl, hn⟩)))
  replace hb := hb.trans (hn.mono hb.size)
  refine hK.out _ _ (up_iff.2 hb) ?_
  clear hK K
  clear hn
  iterate 4
    refine wpS_takeL rfl rfl ?_
    go_big_quiet_step (rfl)
    refine wpQuiet_nil ?_
  refine wpS_doL rfl ?_
  intro K hK
  go_wp2_with ((first | (go_at_call 69; (with_reducible refine (SegSide_is ax ay bx b_y x y v 0 HP4.out _iax _iay _ibx _ib_y _ix _iy _iv  _).mono ?_); rintro e w2 ⟨rfl, hn⟩) | (go_at_call 70; (with_reducible refine (SegHolds_is ax ay bx b_y x y v false HP5.out _iax _iay _ibx _ib_y _ix _iy _iv  _).mono ?_); rintro e w2 ⟨rfl, hn⟩) | (go_at_call 59; (with_reducible refine (SpRight_is x y v b HP6.out _ix _iy _iv  _).mono ?_); rintro e w2 ⟨rfl, hn⟩)))
  try replace hb := hb.trans (hn.mono hb.size)
  refine hK.out _ _ (up_iff.2 hb) ?_
  clear hK K
  try clear hn
  iterate 5
    refine wpS_takeL rfl rfl ?_
    go_big_quiet_step (rfl)
    refine wpQuiet_nil ?_
  refine wpS_doL rfl ?_
  intro K hK
  go_wp2_with ((first | (go_at_call 69; (with_reducible refine (SegSide_is ax ay bx b_y x y v 0 HP4.out _iax _iay _ibx _ib_y _ix _iy _iv  _).mono ?_); rintro e w2 ⟨rfl, hn⟩) | (go_at_call 70; (with_reducible refine (SegHolds_is ax ay bx b_y x y v false HP5.out _iax _iay _ibx _ib_y _ix _iy _iv  _).mono ?_); rintro e w2 ⟨rfl, hn⟩) | (go_at_call 59; (with_reducible refine (SpRight_is x y v b HP6.out _ix _iy _iv  _).mono ?_); rintro e w2 ⟨rfl, hn⟩)))
  try replace hb := hb.trans (hn.mono hb.size)
  refine hK.out _ _ (up_iff.2 hb) ?_
  clear hK K
  try clear hn
  refine wpS_nil ?_
  simp only [List.drop_succ_cons, List.drop_zero]
  first | refine calls_w ?_ | refine name_world ?_ | refine list_world ?_ | refine post_world ?_
  intro U5 hU5
  first | (subst hU5; have u_ := U5; clear u_) | (rw [← hU5] at hb; clear hU5)
  clear c1_0 c1_1 c1_2 c1_3 l1 c2_0 c2_1 c2_2 c2_3 c2_4 c2_5 c2_6 c2_7 c2_8 c2_9 c2_10 c2_11 l2 c3_0 c3_1 c3_2 c3_3 c3_4 c3_5 l3
  have k1 := Kk1.out.of hb
  clear Kk1
  have k2 := Kk2.out.of hb
  clear Kk2
  have k3 := Kk3.out.of hb
  clear Kk3
  replace HB1 := Lib.hid (HB1.out.of hb)
  replace HB2 := Lib.hid (HB2.out.of hb)
  replace HB3 := Lib.hid (HB3.out.of hb)
  replace hb0 := hb0.trans (hb.mono hb0.size)
  clear hb
  go_wp2_with fail
  refine (rSpR_is x y v b HP7.out  bn1 ba1 bl1 bc1 bn2 ba2 bl2 bc2 bn3 ba3 bl3 bc3 _ HB1.out HB2.out HB3.out).mono ?_
  rintro e U6 ⟨rfl, hn⟩
  replace k1 := k1.of hn
  replace k2 := k2.of hn
  replace k3 := k3.of hn
  replace HB1 := Lib.hid (HB1.out.of hn)
  replace HB2 := Lib.hid (HB2.out.of hn)
  replace HB3 := Lib.hid (HB3.out.of hn)
  replace hb0 := hb0.trans (hn.mono hb0.size)
  clear hn
  go_wp2_with fail
  refine (cawake_any _).mono ?_
  rintro e U7 ⟨rfl, hn⟩
  replace k1 := k1.of hn
  replace k2 := k2.of hn
  replace k3 := k3.of hn
  replace HB1 := Lib.hid (HB1.out.of hn)
  replace HB2 := Lib.hid (HB2.out.of hn)
  replace HB3 := Lib.hid (HB3.out.of hn)
  replace hb0 := hb0.trans (hn.mono hb0.size)
  clear hn
  go_wp2
  first | go_ret | go_ret2
  exact ⟨by first | rfl | (simp; done) | (simp; assumption), hb0⟩

set_option maxRecDepth 100000 in
set_option maxHeartbeats 4000000 in

theorem CSides_2 (ax : Int) (ay : Int) (bx : Int) (b_y : Int) (x : Int) (y : Int) (v : Int)    (hP0 : cspx x y v = x) (hP1 : cspy x y v = y) (hP2 : cspv x y v = v) (hP3 : crR ax ay bx b_y = true) (hP4 : Sde ax ay bx b_y x y v = 0) (hP5 : hldB ax ay bx b_y x y v = false) (hP6 : spR x y v = false) (hP7 : rspR x y v = false) (_iax : In64 ax) (_iay : In64 ay) (_ibx : In64 bx) (_ib_y : In64 b_y) (_ix : InI x) (_iy : InI y) (_iv : InI v)  (w : World)  :
    Calls Try.prog 14 #[.agg #[.int .i64 ax, .int .i64 ay, .int .i64 bx, .int .i64 b_y], .agg #[.int .u64 (wd0 x), .int .u64 (wd1 x), .int .u64 (wd2 x), .int .u64 (wd3 x), .int .u64 (wd0 y), .int .u64 (wd1 y), .int .u64 (wd2 y), .int .u64 (wd3 y), .int .u64 (wd0 v), .int .u64 (wd1 v), .int .u64 (wd2 v), .int .u64 (wd3 v)]] w fun e w' => e = .returned (.bool true) ∧ Below w.heap.size w w' := by

  have HP0 := Lib.hid hP0
  clear hP0
  have HP1 := Lib.hid hP1
  clear hP1
  have HP2 := Lib.hid hP2
  clear hP2
  have HP3 := Lib.hid hP3
  clear hP3
  have HP4 := Lib.hid hP4
  clear hP4
  have HP5 := Lib.hid hP5
  clear hP5
  have HP6 := Lib.hid hP6
  clear hP6
  have HP7 := Lib.hid hP7
  clear hP7
  go_enter Try.func14, Try.ntmps14
  go_wp2_with fail
  first | refine calls_w ?_ | refine name_world ?_ | refine list_world ?_ | refine post_world ?_
  intro V1 hV1
  have hn : Below w.heap.size w V1 := by rw [hV1]; exact below_a2 _ _ _
  have nhb0 := hn
  have k1 : Blk V1 w.heap.size #[.int .i64 ax, .int .i64 ay, .int .i64 bx, .int .i64 b_y] 50 := by rw [hV1]; exact ((Blk.new _ _ _).alloc _)
  have k2 : Blk V1 (w.heap.size + 1) #[.int .u64 (wd0 x), .int .u64 (wd1 x), .int .u64 (wd2 x), .int .u64 (wd3 x), .int .u64 (wd0 y), .int .u64 (wd1 y), .int .u64 (wd2 y), .int .u64 (wd3 y), .int .u64 (wd0 v), .int .u64 (wd1 v), .int .u64 (wd2 v), .int .u64 (wd3 v)] 67 := by rw [hV1]; exact (Blk.new1 _ _ _ _)
  clear hV1
  have hb0 := nhb0
  clear nhb0
  refine (cspot_is x y v x y v HP0.out HP1.out HP2.out _ix _iy _iv  _).mono ?_
  rintro e U2 ⟨bn1, ba1, bl1, bc1, bn2, ba2, bl2, bc2, bn3, ba3, bl3, bc3, rfl, hbm1, hbm2, hbm3, hn⟩
  replace k1 := k1.of hn
  replace k2 := k2.of hn
  replace hb0 := hb0.trans (hn.mono hb0.size)
  clear hn
  have HB1 := Lib.hid hbm1
  have HB2 := Lib.hid hbm2
  have HB3 := Lib.hid hbm3
  clear hbm1 hbm2 hbm3
  have c1_0 : U2.cell? ⟨w.heap.size, 0, none⟩ = some (.int .i64 ax) := k1.cell 0
  have c1_1 : U2.cell? ⟨w.heap.size, 1, none⟩ = some (.int .i64 ay) := k1.cell 1
  have c1_2 : U2.cell? ⟨w.heap.size, 2, none⟩ = some (.int .i64 bx) := k1.cell 2
  have c1_3 : U2.cell? ⟨w.heap.size, 3, none⟩ = some (.int .i64 b_y) := k1.cell 3
  have l1 := k1.lt
  go_wp2_with fail
  clear c1_0 c1_1 c1_2 c1_3 l1
  first | refine calls_w ?_ | refine name_world ?_ | refine list_world ?_ | refine post_world ?_
  intro V3 hV3
  have D1 := Lib.hid k1.lt
  have D2 := Lib.hid k2.lt
  have D3 := Lib.hid hb0.size
  have hn : Below U2.heap.size U2 V3 := by rw [hV3]; exact below_a1 _ _
  have nk1 := k1.of hn
  have nk2 := k2.of hn
  replace HB1 := Lib.hid (HB1.out.of hn)
  replace HB2 := Lib.hid (HB2.out.of hn)
  replace HB3 := Lib.hid (HB3.out.of hn)
  have nhb0 := hb0.trans (hn.mono hb0.size)
  clear hn
  have k3 : Blk V3 U2.heap.size #[.bool bn1, .slice ba1 bl1 bc1, .bool bn2, .slice ba2 bl2 bc2, .bool bn3, .slice ba3 bl3 bc3] 72 := by rw [hV3]; exact (Blk.new _ _ _)
  clear k1 k2
  clear hb0
  clear hV3
  have k1 := nk1
  clear nk1
  have k2 := nk2
  clear nk2
  have hb0 := nhb0
  clear nhb0
  refine (cright_is ax ay bx b_y true HP3.out _iax _iay _ibx _ib_y  _).mono ?_
  rintro e U4 ⟨rfl, hn⟩
  replace k1 := k1.of hn
  replace k2 := k2.of hn
  replace k3 := k3.of hn
  replace HB1 := Lib.hid (HB1.out.of hn)
  replace HB2 := Lib.hid (HB2.out.of hn)
  replace HB3 := Lib.hid (HB3.out.of hn)
  replace hb0 := hb0.trans (hn.mono hb0.size)
  clear hn
  have c3_0 : U4.cell? ⟨U2.heap.size, 0, none⟩ = some (.bool bn1) := k3.cell 0
  have c3_1 : U4.cell? ⟨U2.heap.size, 1, none⟩ = some (.slice ba1 bl1 bc1) := k3.cell 1
  have c3_2 : U4.cell? ⟨U2.heap.size, 2, none⟩ = some (.bool bn2) := k3.cell 2
  have c3_3 : U4.cell? ⟨U2.heap.size, 3, none⟩ = some (.slice ba2 bl2 bc2) := k3.cell 3
  have c3_4 : U4.cell? ⟨U2.heap.size, 4, none⟩ = some (.bool bn3) := k3.cell 4
  have c3_5 : U4.cell? ⟨U2.heap.size, 5, none⟩ = some (.slice ba3 bl3 bc3) := k3.cell 5
  have l3 := k3.lt
  go_wp2_with fail
  clear c3_0 c3_1 c3_2 c3_3 c3_4 c3_5 l3
  refine (rSpR_is x y v false HP7.out  bn1 ba1 bl1 bc1 bn2 ba2 bl2 bc2 bn3 ba3 bl3 bc3 _ HB1.out HB2.out HB3.out).mono ?_
  rintro e U5 ⟨rfl, hn⟩
  replace k1 := k1.of hn
  replace k2 := k2.of hn
  replace k3 := k3.of hn
  replace HB1 := Lib.hid (HB1.out.of hn)
  replace HB2 := Lib.hid (HB2.out.of hn)
  replace HB3 := Lib.hid (HB3.out.of hn)
  replace hb0 := hb0.trans (hn.mono hb0.size)
  clear hn
  go_wp2_with fail
  have c1_0 : U5.cell? ⟨w.heap.size, 0, none⟩ = some (.int .i64 ax) := k1.cell 0
  have c1_1 : U5.cell? ⟨w.heap.size, 1, none⟩ = some (.int .i64 ay) := k1.cell 1
  have c1_2 : U5.cell? ⟨w.heap.size, 2, none⟩ = some (.int .i64 bx) := k1.cell 2
  have c1_3 : U5.cell? ⟨w.heap.size, 3, none⟩ = some (.int .i64 b_y) := k1.cell 3
  have l1 := k1.lt
  have c2_0 : U5.cell? ⟨(w.heap.size + 1), 0, none⟩ = some (.int .u64 (wd0 x)) := k2.cell 0
  have c2_1 : U5.cell? ⟨(w.heap.size + 1), 1, none⟩ = some (.int .u64 (wd1 x)) := k2.cell 1
  have c2_2 : U5.cell? ⟨(w.heap.size + 1), 2, none⟩ = some (.int .u64 (wd2 x)) := k2.cell 2
  have c2_3 : U5.cell? ⟨(w.heap.size + 1), 3, none⟩ = some (.int .u64 (wd3 x)) := k2.cell 3
  have c2_4 : U5.cell? ⟨(w.heap.size + 1), 4, none⟩ = some (.int .u64 (wd0 y)) := k2.cell 4
  have c2_5 : U5.cell? ⟨(w.heap.size + 1), 5, none⟩ = some (.int .u64 (wd1 y)) := k2.cell 5
  have c2_6 : U5.cell? ⟨(w.heap.size + 1), 6, none⟩ = some (.int .u64 (wd2 y)) := k2.cell 6
  have c2_7 : U5.cell? ⟨(w.heap.size + 1), 7, none⟩ = some (.int .u64 (wd3 y)) := k2.cell 7
  have c2_8 : U5.cell? ⟨(w.heap.size + 1), 8, none⟩ = some (.int .u64 (wd0 v)) := k2.cell 8
  have c2_9 : U5.cell? ⟨(w.heap.size + 1), 9, none⟩ = some (.int .u64 (wd1 v)) := k2.cell 9
  have c2_10 : U5.cell? ⟨(w.heap.size + 1), 10, none⟩ = some (.int .u64 (wd2 v)) := k2.cell 10
  have c2_11 : U5.cell? ⟨(w.heap.size + 1), 11, none⟩ = some (.int .u64 (wd3 v)) := k2.cell 11
  have l2 := k2.lt
  have c3_0 : U5.cell? ⟨U2.heap.size, 0, none⟩ = some (.bool bn1) := k3.cell 0
  have c3_1 : U5.cell? ⟨U2.heap.size, 1, none⟩ = some (.slice ba1 bl1 bc1) := k3.cell 1
  have c3_2 : U5.cell? ⟨U2.heap.size, 2, none⟩ = some (.bool bn2) := k3.cell 2
  have c3_3 : U5.cell? ⟨U2.heap.size, 3, none⟩ = some (.slice ba2 bl2 bc2) := k3.cell 3
  have c3_4 : U5.cell? ⟨U2.heap.size, 4, none⟩ = some (.bool bn3) := k3.cell 4
  have c3_5 : U5.cell? ⟨U2.heap.size, 5, none⟩ = some (.slice ba3 bl3 bc3) := k3.cell 5
  have l3 := k3.lt
  have Kk1 := Lib.hid k1
  clear k1
  have Kk2 := Lib.hid k2
  clear k2
  have Kk3 := Lib.hid k3
  clear k3
  refine wp_region_up U5.heap.size 14 [(true, 0), (true, 1), (false, 2), (true, 3), (true, 4), (true, 5), (true, 6), (false, 7), (true, 8), (true, 9), (true, 10), (true, 11), (true, 13), (false, 12)] (by kernel_rfl) (by kernel_rfl) (fun _ _ d _ _ h => by cases d <;> exact h) ?_
  have hb : Below U5.heap.size U5 U5.drew := (Below.refl _ _).drew
  iterate 2
    refine wpS_takeL rfl rfl ?_
    go_big_quiet_step (rfl)
    refine wpQuiet_nil ?_
  refine wpS_doL rfl ?_
  intro K hK
  go_wp2_with ((first | (go_at_call 69; (with_reducible refine (SegSide_is ax ay bx b_y x y v 0 HP4.out _iax _iay _ibx _ib_y _ix _iy _iv  _).mono ?_); rintro e w2 ⟨rfl, hn⟩) | (go_at_call 70; (with_reducible refine (SegHolds_is ax ay bx b_y x y v false HP5.out _iax _iay _ibx _ib_y _ix _iy _iv  _).mono ?_); rintro e w2 ⟨rfl, hn⟩) | (go_at_call 59; (with_reducible refine (SpRight_is x y v false HP6.out _ix _iy _iv  _).mono ?_); rintro e w2 ⟨rfl, hn⟩)))
  replace hb := hb.trans (hn.mono hb.size)
  refine hK.out _ _ (up_iff.2 hb) ?_
  clear hK K
  clear hn
  iterate 4
    refine wpS_takeL rfl rfl ?_
    go_big_quiet_step (rfl)
    refine wpQuiet_nil ?_
  refine wpS_doL rfl ?_
  intro K hK
  go_wp2_with ((first | (go_at_call 69; (with_reducible refine (SegSide_is ax ay bx b_y x y v 0 HP4.out _iax _iay _ibx _ib_y _ix _iy _iv  _).mono ?_); rintro e w2 ⟨rfl, hn⟩) | (go_at_call 70; (with_reducible refine (SegHolds_is ax ay bx b_y x y v false HP5.out _iax _iay _ibx _ib_y _ix _iy _iv  _).mono ?_); rintro e w2 ⟨rfl, hn⟩) | (go_at_call 59; (with_reducible refine (SpRight_is x y v false HP6.out _ix _iy _iv  _).mono ?_); rintro e w2 ⟨rfl, hn⟩)))
  try replace hb := hb.trans (hn.mono hb.size)
  refine hK.out _ _ (up_iff.2 hb) ?_
  clear hK K
  try clear hn
  iterate 5
    refine wpS_takeL rfl rfl ?_
    go_big_quiet_step (rfl)
    refine wpQuiet_nil ?_
  refine wpS_doL rfl ?_
  intro K hK
  go_wp2_with ((first | (go_at_call 69; (with_reducible refine (SegSide_is ax ay bx b_y x y v 0 HP4.out _iax _iay _ibx _ib_y _ix _iy _iv  _).mono ?_); rintro e w2 ⟨rfl, hn⟩) | (go_at_call 70; (with_reducible refine (SegHolds_is ax ay bx b_y x y v false HP5.out _iax _iay _ibx _ib_y _ix _iy _iv  _).mono ?_); rintro e w2 ⟨rfl, hn⟩) | (go_at_call 59; (with_reducible refine (SpRight_is x y v false HP6.out _ix _iy _iv  _).mono ?_); rintro e w2 ⟨rfl, hn⟩)))
  try replace hb := hb.trans (hn.mono hb.size)
  refine hK.out _ _ (up_iff.2 hb) ?_
  clear hK K
  try clear hn
  refine wpS_nil ?_
  simp only [List.drop_succ_cons, List.drop_zero]
  first | refine calls_w ?_ | refine name_world ?_ | refine list_world ?_ | refine post_world ?_
  intro U6 hU6
  first | (subst hU6; have u_ := U6; clear u_) | (rw [← hU6] at hb; clear hU6)
  clear c1_0 c1_1 c1_2 c1_3 l1 c2_0 c2_1 c2_2 c2_3 c2_4 c2_5 c2_6 c2_7 c2_8 c2_9 c2_10 c2_11 l2 c3_0 c3_1 c3_2 c3_3 c3_4 c3_5 l3
  have k1 := Kk1.out.of hb
  clear Kk1
  have k2 := Kk2.out.of hb
  clear Kk2
  have k3 := Kk3.out.of hb
  clear Kk3
  replace HB1 := Lib.hid (HB1.out.of hb)
  replace HB2 := Lib.hid (HB2.out.of hb)
  replace HB3 := Lib.hid (HB3.out.of hb)
  replace hb0 := hb0.trans (hb.mono hb0.size)
  clear hb
  go_wp2_with fail
  refine (rSpR_is x y v false HP7.out  bn1 ba1 bl1 bc1 bn2 ba2 bl2 bc2 bn3 ba3 bl3 bc3 _ HB1.out HB2.out HB3.out).mono ?_
  rintro e U7 ⟨rfl, hn⟩
  replace k1 := k1.of hn
  replace k2 := k2.of hn
  replace k3 := k3.of hn
  replace HB1 := Lib.hid (HB1.out.of hn)
  replace HB2 := Lib.hid (HB2.out.of hn)
  replace HB3 := Lib.hid (HB3.out.of hn)
  replace hb0 := hb0.trans (hn.mono hb0.size)
  clear hn
  go_wp2_with fail
  refine (cawake_any _).mono ?_
  rintro e U8 ⟨rfl, hn⟩
  replace k1 := k1.of hn
  replace k2 := k2.of hn
  replace k3 := k3.of hn
  replace HB1 := Lib.hid (HB1.out.of hn)
  replace HB2 := Lib.hid (HB2.out.of hn)
  replace HB3 := Lib.hid (HB3.out.of hn)
  replace hb0 := hb0.trans (hn.mono hb0.size)
  clear hn
  go_wp2
  first | go_ret | go_ret2
  exact ⟨by first | rfl | (simp; done) | (simp; assumption), hb0⟩

set_option maxRecDepth 100000 in
set_option maxHeartbeats 4000000 in

theorem CSides_3 (ax : Int) (ay : Int) (bx : Int) (b_y : Int) (x : Int) (y : Int) (v : Int) (s : Int) (h : Bool)   (hP0 : cspx x y v = x) (hP1 : cspy x y v = y) (hP2 : cspv x y v = v) (hP3 : crR ax ay bx b_y = true) (hP4 : spR x y v = true) (hP5 : rspR x y v = true) (hP6 : lwx ax ay bx b_y = ax) (hP7 : lwy ax ay bx b_y = ay) (hP8 : hgx ax ay bx b_y = bx) (hP9 : hgy ax ay bx b_y = b_y) (hP10 : crfx ax ay = ax) (hP11 : crfy ax ay = ay) (hP12 : crfx bx b_y = bx) (hP13 : crfy bx b_y = b_y) (hP14 : ahd bx b_y ax ay = false) (hP15 : Sde ax ay bx b_y x y v = s) (hP16 : rsde ax ay bx b_y x y v = s) (hP17 : hldB ax ay bx b_y x y v = h) (hP18 : rhld ax ay bx b_y x y v = h) (_iax : In64 ax) (_iay : In64 ay) (_ibx : In64 bx) (_ib_y : In64 b_y) (_ix : InI x) (_iy : InI y) (_iv : InI v)  (w : World)  :
    Calls Try.prog 14 #[.agg #[.int .i64 ax, .int .i64 ay, .int .i64 bx, .int .i64 b_y], .agg #[.int .u64 (wd0 x), .int .u64 (wd1 x), .int .u64 (wd2 x), .int .u64 (wd3 x), .int .u64 (wd0 y), .int .u64 (wd1 y), .int .u64 (wd2 y), .int .u64 (wd3 y), .int .u64 (wd0 v), .int .u64 (wd1 v), .int .u64 (wd2 v), .int .u64 (wd3 v)]] w fun e w' => e = .returned (.bool true) ∧ Below w.heap.size w w' := by

  have HP0 := Lib.hid hP0
  clear hP0
  have HP1 := Lib.hid hP1
  clear hP1
  have HP2 := Lib.hid hP2
  clear hP2
  have HP3 := Lib.hid hP3
  clear hP3
  have HP4 := Lib.hid hP4
  clear hP4
  have HP5 := Lib.hid hP5
  clear hP5
  have HP6 := Lib.hid hP6
  clear hP6
  have HP7 := Lib.hid hP7
  clear hP7
  have HP8 := Lib.hid hP8
  clear hP8
  have HP9 := Lib.hid hP9
  clear hP9
  have HP10 := Lib.hid hP10
  clear hP10
  have HP11 := Lib.hid hP11
  clear hP11
  have HP12 := Lib.hid hP12
  clear hP12
  have HP13 := Lib.hid hP13
  clear hP13
  have HP14 := Lib.hid hP14
  clear hP14
  have HP15 := Lib.hid hP15
  clear hP15
  have HP16 := Lib.hid hP16
  clear hP16
  have HP17 := Lib.hid hP17
  clear hP17
  have HP18 := Lib.hid hP18
  clear hP18
  go_enter Try.func14, Try.ntmps14
  go_wp2_with fail
  first | refine calls_w ?_ | refine name_world ?_ | refine list_world ?_ | refine post_world ?_
  intro V1 hV1
  have hn : Below w.heap.size w V1 := by rw [hV1]; exact below_a2 _ _ _
  have nhb0 := hn
  have k1 : Blk V1 w.heap.size #[.int .i64 ax, .int .i64 ay, .int .i64 bx, .int .i64 b_y] 50 := by rw [hV1]; exact ((Blk.new _ _ _).alloc _)
  have k2 : Blk V1 (w.heap.size + 1) #[.int .u64 (wd0 x), .int .u64 (wd1 x), .int .u64 (wd2 x), .int .u64 (wd3 x), .int .u64 (wd0 y), .int .u64 (wd1 y), .int .u64 (wd2 y), .int .u64 (wd3 y), .int .u64 (wd0 v), .int .u64 (wd1 v), .int .u64 (wd2 v), .int .u64 (wd3 v)] 67 := by rw [hV1]; exact (Blk.new1 _ _ _ _)
  clear hV1
  have hb0 := nhb0
  clear nhb0
  refine (cspot_is x y v x y v HP0.out HP1.out HP2.out _ix _iy _iv  _).mono ?_
  rintro e U2 ⟨bn1, ba1, bl1, bc1, bn2, ba2, bl2, bc2, bn3, ba3, bl3, bc3, rfl, hbm1, hbm2, hbm3, hn⟩
  replace k1 := k1.of hn
  replace k2 := k2.of hn
  replace hb0 := hb0.trans (hn.mono hb0.size)
  clear hn
  have HB1 := Lib.hid hbm1
  have HB2 := Lib.hid hbm2
  have HB3 := Lib.hid hbm3
  clear hbm1 hbm2 hbm3
  have c1_0 : U2.cell? ⟨w.heap.size, 0, none⟩ = some (.int .i64 ax) := k1.cell 0
  have c1_1 : U2.cell? ⟨w.heap.size, 1, none⟩ = some (.int .i64 ay) := k1.cell 1
  have c1_2 : U2.cell? ⟨w.heap.size, 2, none⟩ = some (.int .i64 bx) := k1.cell 2
  have c1_3 : U2.cell? ⟨w.heap.size, 3, none⟩ = some (.int .i64 b_y) := k1.cell 3
  have l1 := k1.lt
  go_wp2_with fail
  clear c1_0 c1_1 c1_2 c1_3 l1
  first | refine calls_w ?_ | refine name_world ?_ | refine list_world ?_ | refine post_world ?_
  intro V3 hV3
  have D1 := Lib.hid k1.lt
  have D2 := Lib.hid k2.lt
  have D3 := Lib.hid hb0.size
  have hn : Below U2.heap.size U2 V3 := by rw [hV3]; exact below_a1 _ _
  have nk1 := k1.of hn
  have nk2 := k2.of hn
  replace HB1 := Lib.hid (HB1.out.of hn)
  replace HB2 := Lib.hid (HB2.out.of hn)
  replace HB3 := Lib.hid (HB3.out.of hn)
  have nhb0 := hb0.trans (hn.mono hb0.size)
  clear hn
  have k3 : Blk V3 U2.heap.size #[.bool bn1, .slice ba1 bl1 bc1, .bool bn2, .slice ba2 bl2 bc2, .bool bn3, .slice ba3 bl3 bc3] 72 := by rw [hV3]; exact (Blk.new _ _ _)
  clear k1 k2
  clear hb0
  clear hV3
  have k1 := nk1
  clear nk1
  have k2 := nk2
  clear nk2
  have hb0 := nhb0
  clear nhb0
  refine (cright_is ax ay bx b_y true HP3.out _iax _iay _ibx _ib_y  _).mono ?_
  rintro e U4 ⟨rfl, hn⟩
  replace k1 := k1.of hn
  replace k2 := k2.of hn
  replace k3 := k3.of hn
  replace HB1 := Lib.hid (HB1.out.of hn)
  replace HB2 := Lib.hid (HB2.out.of hn)
  replace HB3 := Lib.hid (HB3.out.of hn)
  replace hb0 := hb0.trans (hn.mono hb0.size)
  clear hn
  have c3_0 : U4.cell? ⟨U2.heap.size, 0, none⟩ = some (.bool bn1) := k3.cell 0
  have c3_1 : U4.cell? ⟨U2.heap.size, 1, none⟩ = some (.slice ba1 bl1 bc1) := k3.cell 1
  have c3_2 : U4.cell? ⟨U2.heap.size, 2, none⟩ = some (.bool bn2) := k3.cell 2
  have c3_3 : U4.cell? ⟨U2.heap.size, 3, none⟩ = some (.slice ba2 bl2 bc2) := k3.cell 3
  have c3_4 : U4.cell? ⟨U2.heap.size, 4, none⟩ = some (.bool bn3) := k3.cell 4
  have c3_5 : U4.cell? ⟨U2.heap.size, 5, none⟩ = some (.slice ba3 bl3 bc3) := k3.cell 5
  have l3 := k3.lt
  go_wp2_with fail
  clear c3_0 c3_1 c3_2 c3_3 c3_4 c3_5 l3
  refine (rSpR_is x y v true HP5.out  bn1 ba1 bl1 bc1 bn2 ba2 bl2 bc2 bn3 ba3 bl3 bc3 _ HB1.out HB2.out HB3.out).mono ?_
  rintro e U5 ⟨rfl, hn⟩
  replace k1 := k1.of hn
  replace k2 := k2.of hn
  replace k3 := k3.of hn
  replace HB1 := Lib.hid (HB1.out.of hn)
  replace HB2 := Lib.hid (HB2.out.of hn)
  replace HB3 := Lib.hid (HB3.out.of hn)
  replace hb0 := hb0.trans (hn.mono hb0.size)
  clear hn
  have c1_0 : U5.cell? ⟨w.heap.size, 0, none⟩ = some (.int .i64 ax) := k1.cell 0
  have c1_1 : U5.cell? ⟨w.heap.size, 1, none⟩ = some (.int .i64 ay) := k1.cell 1
  have c1_2 : U5.cell? ⟨w.heap.size, 2, none⟩ = some (.int .i64 bx) := k1.cell 2
  have c1_3 : U5.cell? ⟨w.heap.size, 3, none⟩ = some (.int .i64 b_y) := k1.cell 3
  have l1 := k1.lt
  go_wp2_with fail
  clear c1_0 c1_1 c1_2 c1_3 l1
  refine (Ends_is ax ay bx b_y ax ay bx b_y HP6.out HP7.out HP8.out HP9.out _iax _iay _ibx _ib_y  _).mono ?_
  rintro e U6 ⟨rfl, hn⟩
  replace k1 := k1.of hn
  replace k2 := k2.of hn
  replace k3 := k3.of hn
  replace HB1 := Lib.hid (HB1.out.of hn)
  replace HB2 := Lib.hid (HB2.out.of hn)
  replace HB3 := Lib.hid (HB3.out.of hn)
  replace hb0 := hb0.trans (hn.mono hb0.size)
  clear hn
  go_wp2_with fail
  first | refine calls_w ?_ | refine name_world ?_ | refine list_world ?_ | refine post_world ?_
  intro V7 hV7
  have D4 := Lib.hid k1.lt
  have D5 := Lib.hid k2.lt
  have D6 := Lib.hid k3.lt
  have D7 := Lib.hid hb0.size
  have hn : Below U6.heap.size U6 V7 := by rw [hV7]; exact below_a2 _ _ _
  have nk1 := k1.of hn
  have nk2 := k2.of hn
  have nk3 := k3.of hn
  replace HB1 := Lib.hid (HB1.out.of hn)
  replace HB2 := Lib.hid (HB2.out.of hn)
  replace HB3 := Lib.hid (HB3.out.of hn)
  have nhb0 := hb0.trans (hn.mono hb0.size)
  clear hn
  have k4 : Blk V7 U6.heap.size #[.int .i64 ax, .int .i64 ay] 24 := by rw [hV7]; exact ((Blk.new _ _ _).alloc _)
  have k5 : Blk V7 (U6.heap.size + 1) #[.int .i64 bx, .int .i64 b_y] 24 := by rw [hV7]; exact (Blk.new1 _ _ _ _)
  clear k1 k2 k3
  clear hb0
  clear hV7
  have k1 := nk1
  clear nk1
  have k2 := nk2
  clear nk2
  have k3 := nk3
  clear nk3
  have hb0 := nhb0
  clear nhb0
  obtain ⟨z1, hz1⟩ : ∃ o_o : Bool, (bx == ax) = o_o := ⟨_, rfl⟩
  cases z1
  · have nz1 : ¬ bx = ax := by simpa using hz1
    have nz1_ : ¬ ax = bx := fun e_ => nz1 e_.symm
    have c1_0 : V7.cell? ⟨w.heap.size, 0, none⟩ = some (.int .i64 ax) := k1.cell 0
    have c1_1 : V7.cell? ⟨w.heap.size, 1, none⟩ = some (.int .i64 ay) := k1.cell 1
    have c1_2 : V7.cell? ⟨w.heap.size, 2, none⟩ = some (.int .i64 bx) := k1.cell 2
    have c1_3 : V7.cell? ⟨w.heap.size, 3, none⟩ = some (.int .i64 b_y) := k1.cell 3
    have l1 := k1.lt
    have c4_0 : V7.cell? ⟨U6.heap.size, 0, none⟩ = some (.int .i64 ax) := k4.cell 0
    have c4_1 : V7.cell? ⟨U6.heap.size, 1, none⟩ = some (.int .i64 ay) := k4.cell 1
    have l4 := k4.lt
    have c5_0 : V7.cell? ⟨(U6.heap.size + 1), 0, none⟩ = some (.int .i64 bx) := k5.cell 0
    have c5_1 : V7.cell? ⟨(U6.heap.size + 1), 1, none⟩ = some (.int .i64 b_y) := k5.cell 1
    have l5 := k5.lt
    have Kk1 := Lib.hid k1
    clear k1
    have Kk2 := Lib.hid k2
    clear k2
    have Kk3 := Lib.hid k3
    clear k3
    have Kk4 := Lib.hid k4
    clear k4
    have Kk5 := Lib.hid k5
    clear k5
    refine wp_region_up V7.heap.size 38 [(true, 0), (true, 2), (false, 1), (false, 3), (false, 4), (true, 5), (true, 6), (true, 7), (true, 8), (true, 9), (true, 10), (true, 11), (true, 12), (true, 13), (true, 14), (true, 15), (true, 16), (true, 17), (true, 18), (true, 19), (true, 20), (true, 21), (true, 22), (true, 23), (true, 24), (true, 25), (true, 26), (true, 27), (true, 28), (true, 29), (true, 30), (true, 31), (true, 32), (true, 33), (true, 34), (true, 35), (true, 36), (true, 37)] (by kernel_rfl) (by kernel_rfl) (fun _ _ d _ _ h => by cases d <;> exact h) ?_
    have hb : Below V7.heap.size V7 V7.drew := (Below.refl _ _).drew
    iterate 2
      refine wpS_takeL rfl rfl ?_
      go_big_quiet_step (rfl)
      refine wpQuiet_nil ?_
    refine wpS_doL rfl ?_
    intro K hK
    go_wp2_with ((first | (go_at_call 52; (with_reducible refine (cref_is bx b_y bx b_y HP12.out HP13.out _ibx _ib_y  _).mono ?_); rintro e w2 ⟨rfl, hn⟩) | (go_at_call 52; (with_reducible refine (cref_is ax ay ax ay HP10.out HP11.out _iax _iay  _).mono ?_); rintro e w2 ⟨rfl, hn⟩) | (go_at_call 71; (with_reducible refine (rAhead_v bx b_y ax ay false HP14.out _).mono ?_); rintro e w2 ⟨rfl, hn⟩)))
    replace hb := hb.trans (hn.mono hb.size)
    refine hK.out _ _ (up_iff.2 hb) ?_
    clear hK K
    clear hn
    refine wpS_doL rfl ?_
    intro K hK
    go_wp2_with ((first | (go_at_call 52; (with_reducible refine (cref_is bx b_y bx b_y HP12.out HP13.out _ibx _ib_y  _).mono ?_); rintro e w2 ⟨rfl, hn⟩) | (go_at_call 52; (with_reducible refine (cref_is ax ay ax ay HP10.out HP11.out _iax _iay  _).mono ?_); rintro e w2 ⟨rfl, hn⟩) | (go_at_call 71; (with_reducible refine (rAhead_v bx b_y ax ay false HP14.out _).mono ?_); rintro e w2 ⟨rfl, hn⟩)))
    replace hb := hb.trans (hn.mono hb.size)
    refine hK.out _ _ (up_iff.2 hb) ?_
    clear hK K
    clear hn
    refine wpS_doL rfl ?_
    intro K hK
    go_wp2_with ((first | (go_at_call 52; (with_reducible refine (cref_is bx b_y bx b_y HP12.out HP13.out _ibx _ib_y  _).mono ?_); rintro e w2 ⟨rfl, hn⟩) | (go_at_call 52; (with_reducible refine (cref_is ax ay ax ay HP10.out HP11.out _iax _iay  _).mono ?_); rintro e w2 ⟨rfl, hn⟩) | (go_at_call 71; (with_reducible refine (rAhead_v bx b_y ax ay false HP14.out _).mono ?_); rintro e w2 ⟨rfl, hn⟩)))
    replace hb := hb.trans (hn.mono hb.size)
    refine hK.out _ _ (up_iff.2 hb) ?_
    clear hK K
    clear hn
    iterate 33
      refine wpS_takeL rfl rfl ?_
      go_big_quiet_step (rfl)
      refine wpQuiet_nil ?_
    refine wpS_nil ?_
    simp only [List.drop_succ_cons, List.drop_zero]
    first | refine calls_w ?_ | refine name_world ?_ | refine list_world ?_ | refine post_world ?_
    intro U8 hU8
    first | (subst hU8; have u_ := U8; clear u_) | (rw [← hU8] at hb; clear hU8)
    clear c1_0 c1_1 c1_2 c1_3 l1 c4_0 c4_1 l4 c5_0 c5_1 l5
    have k1 := Kk1.out.of hb
    clear Kk1
    have k2 := Kk2.out.of hb
    clear Kk2
    have k3 := Kk3.out.of hb
    clear Kk3
    have k4 := Kk4.out.of hb
    clear Kk4
    have k5 := Kk5.out.of hb
    clear Kk5
    replace HB1 := Lib.hid (HB1.out.of hb)
    replace HB2 := Lib.hid (HB2.out.of hb)
    replace HB3 := Lib.hid (HB3.out.of hb)
    replace hb0 := hb0.trans (hb.mono hb0.size)
    clear hb
    go_wp2_with fail
    have c1_0 : U8.cell? ⟨w.heap.size, 0, none⟩ = some (.int .i64 ax) := k1.cell 0
    have c1_1 : U8.cell? ⟨w.heap.size, 1, none⟩ = some (.int .i64 ay) := k1.cell 1
    have c1_2 : U8.cell? ⟨w.heap.size, 2, none⟩ = some (.int .i64 bx) := k1.cell 2
    have c1_3 : U8.cell? ⟨w.heap.size, 3, none⟩ = some (.int .i64 b_y) := k1.cell 3
    have l1 := k1.lt
    have c2_0 : U8.cell? ⟨(w.heap.size + 1), 0, none⟩ = some (.int .u64 (wd0 x)) := k2.cell 0
    have c2_1 : U8.cell? ⟨(w.heap.size + 1), 1, none⟩ = some (.int .u64 (wd1 x)) := k2.cell 1
    have c2_2 : U8.cell? ⟨(w.heap.size + 1), 2, none⟩ = some (.int .u64 (wd2 x)) := k2.cell 2
    have c2_3 : U8.cell? ⟨(w.heap.size + 1), 3, none⟩ = some (.int .u64 (wd3 x)) := k2.cell 3
    have c2_4 : U8.cell? ⟨(w.heap.size + 1), 4, none⟩ = some (.int .u64 (wd0 y)) := k2.cell 4
    have c2_5 : U8.cell? ⟨(w.heap.size + 1), 5, none⟩ = some (.int .u64 (wd1 y)) := k2.cell 5
    have c2_6 : U8.cell? ⟨(w.heap.size + 1), 6, none⟩ = some (.int .u64 (wd2 y)) := k2.cell 6
    have c2_7 : U8.cell? ⟨(w.heap.size + 1), 7, none⟩ = some (.int .u64 (wd3 y)) := k2.cell 7
    have c2_8 : U8.cell? ⟨(w.heap.size + 1), 8, none⟩ = some (.int .u64 (wd0 v)) := k2.cell 8
    have c2_9 : U8.cell? ⟨(w.heap.size + 1), 9, none⟩ = some (.int .u64 (wd1 v)) := k2.cell 9
    have c2_10 : U8.cell? ⟨(w.heap.size + 1), 10, none⟩ = some (.int .u64 (wd2 v)) := k2.cell 10
    have c2_11 : U8.cell? ⟨(w.heap.size + 1), 11, none⟩ = some (.int .u64 (wd3 v)) := k2.cell 11
    have l2 := k2.lt
    have c3_0 : U8.cell? ⟨U2.heap.size, 0, none⟩ = some (.bool bn1) := k3.cell 0
    have c3_1 : U8.cell? ⟨U2.heap.size, 1, none⟩ = some (.slice ba1 bl1 bc1) := k3.cell 1
    have c3_2 : U8.cell? ⟨U2.heap.size, 2, none⟩ = some (.bool bn2) := k3.cell 2
    have c3_3 : U8.cell? ⟨U2.heap.size, 3, none⟩ = some (.slice ba2 bl2 bc2) := k3.cell 3
    have c3_4 : U8.cell? ⟨U2.heap.size, 4, none⟩ = some (.bool bn3) := k3.cell 4
    have c3_5 : U8.cell? ⟨U2.heap.size, 5, none⟩ = some (.slice ba3 bl3 bc3) := k3.cell 5
    have l3 := k3.lt
    have c4_0 : U8.cell? ⟨U6.heap.size, 0, none⟩ = some (.int .i64 ax) := k4.cell 0
    have c4_1 : U8.cell? ⟨U6.heap.size, 1, none⟩ = some (.int .i64 ay) := k4.cell 1
    have l4 := k4.lt
    have c5_0 : U8.cell? ⟨(U6.heap.size + 1), 0, none⟩ = some (.int .i64 bx) := k5.cell 0
    have c5_1 : U8.cell? ⟨(U6.heap.size + 1), 1, none⟩ = some (.int .i64 b_y) := k5.cell 1
    have l5 := k5.lt
    have Kk1 := Lib.hid k1
    clear k1
    have Kk2 := Lib.hid k2
    clear k2
    have Kk3 := Lib.hid k3
    clear k3
    have Kk4 := Lib.hid k4
    clear k4
    have Kk5 := Lib.hid k5
    clear k5
    refine wp_region_up U8.heap.size 25 [(true, 0), (false, 1), (true, 2), (true, 3), (true, 4), (true, 6), (true, 8), (true, 10), (false, 5), (false, 7), (false, 9), (false, 11), (true, 12), (true, 13), (true, 14), (true, 15), (true, 16), (true, 18), (true, 19), (true, 21), (true, 22), (true, 24), (false, 17), (false, 20), (false, 23)] (by kernel_rfl) (by kernel_rfl) (fun _ _ d _ _ h => by cases d <;> exact h) ?_
    have hb : Below U8.heap.size U8 U8.drew := (Below.refl _ _).drew
    refine wpS_takeL rfl rfl ?_
    go_big_quiet_step (rfl)
    refine wpQuiet_nil ?_
    refine wpS_doL rfl ?_
    intro K hK
    go_wp2_with ((first | (go_at_call 59; (with_reducible refine (SpRight_is x y v true HP4.out _ix _iy _iv  _).mono ?_); rintro e w2 ⟨rfl, hn⟩) | (go_at_call 69; (with_reducible refine (SegSide_is ax ay bx b_y x y v s HP15.out _iax _iay _ibx _ib_y _ix _iy _iv  _).mono ?_); rintro e w2 ⟨rfl, hn⟩) | (go_at_call 52; (with_reducible refine (cref_is ax ay ax ay HP10.out HP11.out _iax _iay  _).mono ?_); rintro e w2 ⟨rfl, hn⟩) | (go_at_call 52; (with_reducible refine (cref_is bx b_y bx b_y HP12.out HP13.out _ibx _ib_y  _).mono ?_); rintro e w2 ⟨rfl, hn⟩) | (go_at_call 72; (with_reducible refine (rSide_is ax ay bx b_y x y v s HP16.out _iax _iay _ibx _ib_y bn1 ba1 bl1 bc1 bn2 ba2 bl2 bc2 bn3 ba3 bl3 bc3 _ (HB1.out.of hb) (HB2.out.of hb) (HB3.out.of hb)).mono ?_); rintro e w2 ⟨rfl, hn⟩) | (go_at_call 70; (with_reducible refine (SegHolds_is ax ay bx b_y x y v h HP17.out _iax _iay _ibx _ib_y _ix _iy _iv  _).mono ?_); rintro e w2 ⟨rfl, hn⟩)))
    replace hb := hb.trans (hn.mono hb.size)
    refine hK.out _ _ (up_iff.2 hb) ?_
    clear hK K
    clear hn
    iterate 6
      refine wpS_takeL rfl rfl ?_
      go_big_quiet_step (rfl)
      refine wpQuiet_nil ?_
    refine wpS_doL rfl ?_
    intro K hK
    go_wp2_with ((first | (go_at_call 59; (with_reducible refine (SpRight_is x y v true HP4.out _ix _iy _iv  _).mono ?_); rintro e w2 ⟨rfl, hn⟩) | (go_at_call 69; (with_reducible refine (SegSide_is ax ay bx b_y x y v s HP15.out _iax _iay _ibx _ib_y _ix _iy _iv  _).mono ?_); rintro e w2 ⟨rfl, hn⟩) | (go_at_call 52; (with_reducible refine (cref_is ax ay ax ay HP10.out HP11.out _iax _iay  _).mono ?_); rintro e w2 ⟨rfl, hn⟩) | (go_at_call 52; (with_reducible refine (cref_is bx b_y bx b_y HP12.out HP13.out _ibx _ib_y  _).mono ?_); rintro e w2 ⟨rfl, hn⟩) | (go_at_call 72; (with_reducible refine (rSide_is ax ay bx b_y x y v s HP16.out _iax _iay _ibx _ib_y bn1 ba1 bl1 bc1 bn2 ba2 bl2 bc2 bn3 ba3 bl3 bc3 _ (HB1.out.of hb) (HB2.out.of hb) (HB3.out.of hb)).mono ?_); rintro e w2 ⟨rfl, hn⟩) | (go_at_call 70; (with_reducible refine (SegHolds_is ax ay bx b_y x y v h HP17.out _iax _iay _ibx _ib_y _ix _iy _iv  _).mono ?_); rintro e w2 ⟨rfl, hn⟩)))
    try replace hb := hb.trans (hn.mono hb.size)
    refine hK.out _ _ (up_iff.2 hb) ?_
    clear hK K
    try clear hn
    refine wpS_doL rfl ?_
    intro K hK
    go_wp2_with ((first | (go_at_call 59; (with_reducible refine (SpRight_is x y v true HP4.out _ix _iy _iv  _).mono ?_); rintro e w2 ⟨rfl, hn⟩) | (go_at_call 69; (with_reducible refine (SegSide_is ax ay bx b_y x y v s HP15.out _iax _iay _ibx _ib_y _ix _iy _iv  _).mono ?_); rintro e w2 ⟨rfl, hn⟩) | (go_at_call 52; (with_reducible refine (cref_is ax ay ax ay HP10.out HP11.out _iax _iay  _).mono ?_); rintro e w2 ⟨rfl, hn⟩) | (go_at_call 52; (with_reducible refine (cref_is bx b_y bx b_y HP12.out HP13.out _ibx _ib_y  _).mono ?_); rintro e w2 ⟨rfl, hn⟩) | (go_at_call 72; (with_reducible refine (rSide_is ax ay bx b_y x y v s HP16.out _iax _iay _ibx _ib_y bn1 ba1 bl1 bc1 bn2 ba2 bl2 bc2 bn3 ba3 bl3 bc3 _ (HB1.out.of hb) (HB2.out.of hb) (HB3.out.of hb)).mono ?_); rintro e w2 ⟨rfl, hn⟩) | (go_at_call 70; (with_reducible refine (SegHolds_is ax ay bx b_y x y v h HP17.out _iax _iay _ibx _ib_y _ix _iy _iv  _).mono ?_); rintro e w2 ⟨rfl, hn⟩)))
    try replace hb := hb.trans (hn.mono hb.size)
    refine hK.out _ _ (up_iff.2 hb) ?_
    clear hK K
    try clear hn
    refine wpS_doL rfl ?_
    intro K hK
    go_wp2_with ((first | (go_at_call 59; (with_reducible refine (SpRight_is x y v true HP4.out _ix _iy _iv  _).mono ?_); rintro e w2 ⟨rfl, hn⟩) | (go_at_call 69; (with_reducible refine (SegSide_is ax ay bx b_y x y v s HP15.out _iax _iay _ibx _ib_y _ix _iy _iv  _).mono ?_); rintro e w2 ⟨rfl, hn⟩) | (go_at_call 52; (with_reducible refine (cref_is ax ay ax ay HP10.out HP11.out _iax _iay  _).mono ?_); rintro e w2 ⟨rfl, hn⟩) | (go_at_call 52; (with_reducible refine (cref_is bx b_y bx b_y HP12.out HP13.out _ibx _ib_y  _).mono ?_); rintro e w2 ⟨rfl, hn⟩) | (go_at_call 72; (with_reducible refine (rSide_is ax ay bx b_y x y v s HP16.out _iax _iay _ibx _ib_y bn1 ba1 bl1 bc1 bn2 ba2 bl2 bc2 bn3 ba3 bl3 bc3 _ (HB1.out.of hb) (HB2.out.of hb) (HB3.out.of hb)).mono ?_); rintro e w2 ⟨rfl, hn⟩) | (go_at_call 70; (with_reducible refine (SegHolds_is ax ay bx b_y x y v h HP17.out _iax _iay _ibx _ib_y _ix _iy _iv  _).mono ?_); rintro e w2 ⟨rfl, hn⟩)))
    try replace hb := hb.trans (hn.mono hb.size)
    refine hK.out _ _ (up_iff.2 hb) ?_
    clear hK K
    try clear hn
    refine wpS_doL rfl ?_
    intro K hK
    go_wp2_with ((first | (go_at_call 59; (with_reducible refine (SpRight_is x y v true HP4.out _ix _iy _iv  _).mono ?_); rintro e w2 ⟨rfl, hn⟩) | (go_at_call 69; (with_reducible refine (SegSide_is ax ay bx b_y x y v s HP15.out _iax _iay _ibx _ib_y _ix _iy _iv  _).mono ?_); rintro e w2 ⟨rfl, hn⟩) | (go_at_call 52; (with_reducible refine (cref_is ax ay ax ay HP10.out HP11.out _iax _iay  _).mono ?_); rintro e w2 ⟨rfl, hn⟩) | (go_at_call 52; (with_reducible refine (cref_is bx b_y bx b_y HP12.out HP13.out _ibx _ib_y  _).mono ?_); rintro e w2 ⟨rfl, hn⟩) | (go_at_call 72; (with_reducible refine (rSide_is ax ay bx b_y x y v s HP16.out _iax _iay _ibx _ib_y bn1 ba1 bl1 bc1 bn2 ba2 bl2 bc2 bn3 ba3 bl3 bc3 _ (HB1.out.of hb) (HB2.out.of hb) (HB3.out.of hb)).mono ?_); rintro e w2 ⟨rfl, hn⟩) | (go_at_call 70; (with_reducible refine (SegHolds_is ax ay bx b_y x y v h HP17.out _iax _iay _ibx _ib_y _ix _iy _iv  _).mono ?_); rintro e w2 ⟨rfl, hn⟩)))
    try replace hb := hb.trans (hn.mono hb.size)
    refine hK.out _ _ (up_iff.2 hb) ?_
    clear hK K
    try clear hn
    iterate 10
      refine wpS_takeL rfl rfl ?_
      go_big_quiet_step (rfl)
      refine wpQuiet_nil ?_
    refine wpS_doL rfl ?_
    intro K hK
    go_wp2_with ((first | (go_at_call 59; (with_reducible refine (SpRight_is x y v true HP4.out _ix _iy _iv  _).mono ?_); rintro e w2 ⟨rfl, hn⟩) | (go_at_call 69; (with_reducible refine (SegSide_is ax ay bx b_y x y v s HP15.out _iax _iay _ibx _ib_y _ix _iy _iv  _).mono ?_); rintro e w2 ⟨rfl, hn⟩) | (go_at_call 52; (with_reducible refine (cref_is ax ay ax ay HP10.out HP11.out _iax _iay  _).mono ?_); rintro e w2 ⟨rfl, hn⟩) | (go_at_call 52; (with_reducible refine (cref_is bx b_y bx b_y HP12.out HP13.out _ibx _ib_y  _).mono ?_); rintro e w2 ⟨rfl, hn⟩) | (go_at_call 72; (with_reducible refine (rSide_is ax ay bx b_y x y v s HP16.out _iax _iay _ibx _ib_y bn1 ba1 bl1 bc1 bn2 ba2 bl2 bc2 bn3 ba3 bl3 bc3 _ (HB1.out.of hb) (HB2.out.of hb) (HB3.out.of hb)).mono ?_); rintro e w2 ⟨rfl, hn⟩) | (go_at_call 70; (with_reducible refine (SegHolds_is ax ay bx b_y x y v h HP17.out _iax _iay _ibx _ib_y _ix _iy _iv  _).mono ?_); rintro e w2 ⟨rfl, hn⟩)))
    try replace hb := hb.trans (hn.mono hb.size)
    refine hK.out _ _ (up_iff.2 hb) ?_
    clear hK K
    try clear hn
    refine wpS_doL rfl ?_
    intro K hK
    go_wp2_with ((first | (go_at_call 59; (with_reducible refine (SpRight_is x y v true HP4.out _ix _iy _iv  _).mono ?_); rintro e w2 ⟨rfl, hn⟩) | (go_at_call 69; (with_reducible refine (SegSide_is ax ay bx b_y x y v s HP15.out _iax _iay _ibx _ib_y _ix _iy _iv  _).mono ?_); rintro e w2 ⟨rfl, hn⟩) | (go_at_call 52; (with_reducible refine (cref_is ax ay ax ay HP10.out HP11.out _iax _iay  _).mono ?_); rintro e w2 ⟨rfl, hn⟩) | (go_at_call 52; (with_reducible refine (cref_is bx b_y bx b_y HP12.out HP13.out _ibx _ib_y  _).mono ?_); rintro e w2 ⟨rfl, hn⟩) | (go_at_call 72; (with_reducible refine (rSide_is ax ay bx b_y x y v s HP16.out _iax _iay _ibx _ib_y bn1 ba1 bl1 bc1 bn2 ba2 bl2 bc2 bn3 ba3 bl3 bc3 _ (HB1.out.of hb) (HB2.out.of hb) (HB3.out.of hb)).mono ?_); rintro e w2 ⟨rfl, hn⟩) | (go_at_call 70; (with_reducible refine (SegHolds_is ax ay bx b_y x y v h HP17.out _iax _iay _ibx _ib_y _ix _iy _iv  _).mono ?_); rintro e w2 ⟨rfl, hn⟩)))
    try replace hb := hb.trans (hn.mono hb.size)
    refine hK.out _ _ (up_iff.2 hb) ?_
    clear hK K
    try clear hn
    refine wpS_doL rfl ?_
    intro K hK
    go_wp2_with ((first | (go_at_call 59; (with_reducible refine (SpRight_is x y v true HP4.out _ix _iy _iv  _).mono ?_); rintro e w2 ⟨rfl, hn⟩) | (go_at_call 69; (with_reducible refine (SegSide_is ax ay bx b_y x y v s HP15.out _iax _iay _ibx _ib_y _ix _iy _iv  _).mono ?_); rintro e w2 ⟨rfl, hn⟩) | (go_at_call 52; (with_reducible refine (cref_is ax ay ax ay HP10.out HP11.out _iax _iay  _).mono ?_); rintro e w2 ⟨rfl, hn⟩) | (go_at_call 52; (with_reducible refine (cref_is bx b_y bx b_y HP12.out HP13.out _ibx _ib_y  _).mono ?_); rintro e w2 ⟨rfl, hn⟩) | (go_at_call 72; (with_reducible refine (rSide_is ax ay bx b_y x y v s HP16.out _iax _iay _ibx _ib_y bn1 ba1 bl1 bc1 bn2 ba2 bl2 bc2 bn3 ba3 bl3 bc3 _ (HB1.out.of hb) (HB2.out.of hb) (HB3.out.of hb)).mono ?_); rintro e w2 ⟨rfl, hn⟩) | (go_at_call 70; (with_reducible refine (SegHolds_is ax ay bx b_y x y v h HP17.out _iax _iay _ibx _ib_y _ix _iy _iv  _).mono ?_); rintro e w2 ⟨rfl, hn⟩)))
    try replace hb := hb.trans (hn.mono hb.size)
    refine hK.out _ _ (up_iff.2 hb) ?_
    clear hK K
    try clear hn
    refine wpS_nil ?_
    simp only [List.drop_succ_cons, List.drop_zero]
    first | refine calls_w ?_ | refine name_world ?_ | refine list_world ?_ | refine post_world ?_
    intro U9 hU9
    first | (subst hU9; have u_ := U9; clear u_) | (rw [← hU9] at hb; clear hU9)
    clear c1_0 c1_1 c1_2 c1_3 l1 c2_0 c2_1 c2_2 c2_3 c2_4 c2_5 c2_6 c2_7 c2_8 c2_9 c2_10 c2_11 l2 c3_0 c3_1 c3_2 c3_3 c3_4 c3_5 l3 c4_0 c4_1 l4 c5_0 c5_1 l5
    have k1 := Kk1.out.of hb
    clear Kk1
    have k2 := Kk2.out.of hb
    clear Kk2
    have k3 := Kk3.out.of hb
    clear Kk3
    have k4 := Kk4.out.of hb
    clear Kk4
    have k5 := Kk5.out.of hb
    clear Kk5
    replace HB1 := Lib.hid (HB1.out.of hb)
    replace HB2 := Lib.hid (HB2.out.of hb)
    replace HB3 := Lib.hid (HB3.out.of hb)
    replace hb0 := hb0.trans (hb.mono hb0.size)
    clear hb
    go_wp2_with fail
    refine (rHolds_is ax ay bx b_y x y v h HP18.out _iax _iay _ibx _ib_y bn1 ba1 bl1 bc1 bn2 ba2 bl2 bc2 bn3 ba3 bl3 bc3 _ HB1.out HB2.out HB3.out).mono ?_
    rintro e U10 ⟨rfl, hn⟩
    clear HB1 HB2 HB3
    clear k1 k2 k3 k4 k5
    replace hb0 := hb0.trans (hn.mono hb0.size)
    clear hn
    go_wp2_with fail
    refine (cawake_any _).mono ?_
    rintro e U11 ⟨rfl, hn⟩
    replace hb0 := hb0.trans (hn.mono hb0.size)
    clear hn
    go_wp2
    first | go_ret | go_ret2
    exact ⟨by first | rfl | (simp; done) | (simp; assumption), hb0⟩
  · have qz1 : bx = ax := by simpa using hz1
    clear hz1
    subst qz1
    obtain ⟨z2, hz2⟩ : ∃ o_o : Bool, (b_y == ay) = o_o := ⟨_, rfl⟩
    cases z2
    · have nz2 : ¬ b_y = ay := by simpa using hz2
      have nz2_ : ¬ ay = b_y := fun e_ => nz2 e_.symm
      have c1_0 : V7.cell? ⟨w.heap.size, 0, none⟩ = some (.int .i64 bx) := k1.cell 0
      have c1_1 : V7.cell? ⟨w.heap.size, 1, none⟩ = some (.int .i64 ay) := k1.cell 1
      have c1_2 : V7.cell? ⟨w.heap.size, 2, none⟩ = some (.int .i64 bx) := k1.cell 2
      have c1_3 : V7.cell? ⟨w.heap.size, 3, none⟩ = some (.int .i64 b_y) := k1.cell 3
      have l1 := k1.lt
      have c4_0 : V7.cell? ⟨U6.heap.size, 0, none⟩ = some (.int .i64 bx) := k4.cell 0
      have c4_1 : V7.cell? ⟨U6.heap.size, 1, none⟩ = some (.int .i64 ay) := k4.cell 1
      have l4 := k4.lt
      have c5_0 : V7.cell? ⟨(U6.heap.size + 1), 0, none⟩ = some (.int .i64 bx) := k5.cell 0
      have c5_1 : V7.cell? ⟨(U6.heap.size + 1), 1, none⟩ = some (.int .i64 b_y) := k5.cell 1
      have l5 := k5.lt
      have Kk1 := Lib.hid k1
      clear k1
      have Kk2 := Lib.hid k2
      clear k2
      have Kk3 := Lib.hid k3
      clear k3
      have Kk4 := Lib.hid k4
      clear k4
      have Kk5 := Lib.hid k5
      clear k5
      refine wp_region_up V7.heap.size 38 [(true, 0), (true, 2), (false, 1), (false, 3), (false, 4), (true, 5), (true, 6), (true, 7), (true, 8), (true, 9), (true, 10), (true, 11), (true, 12), (true, 13), (true, 14), (true, 15), (true, 16), (true, 17), (true, 18), (true, 19), (true, 20), (true, 21), (true, 22), (true, 23), (true, 24), (true, 25), (true, 26), (true, 27), (true, 28), (true, 29), (true, 30), (true, 31), (true, 32), (true, 33), (true, 34), (true, 35), (true, 36), (true, 37)] (by kernel_rfl) (by kernel_rfl) (fun _ _ d _ _ h => by cases d <;> exact h) ?_
      have hb : Below V7.heap.size V7 V7.drew := (Below.refl _ _).drew
      iterate 2
        refine wpS_takeL rfl rfl ?_
        go_big_quiet_step (rfl)
        refine wpQuiet_nil ?_
      refine wpS_doL rfl ?_
      intro K hK
      go_wp2_with ((first | (go_at_call 52; (with_reducible refine (cref_is bx b_y bx b_y HP12.out HP13.out _ibx _ib_y  _).mono ?_); rintro e w2 ⟨rfl, hn⟩) | (go_at_call 52; (with_reducible refine (cref_is bx ay bx ay HP10.out HP11.out _ibx _iay  _).mono ?_); rintro e w2 ⟨rfl, hn⟩) | (go_at_call 71; (with_reducible refine (rAhead_v bx b_y bx ay false HP14.out _).mono ?_); rintro e w2 ⟨rfl, hn⟩)))
      replace hb := hb.trans (hn.mono hb.size)
      refine hK.out _ _ (up_iff.2 hb) ?_
      clear hK K
      clear hn
      refine wpS_doL rfl ?_
      intro K hK
      go_wp2_with ((first | (go_at_call 52; (with_reducible refine (cref_is bx b_y bx b_y HP12.out HP13.out _ibx _ib_y  _).mono ?_); rintro e w2 ⟨rfl, hn⟩) | (go_at_call 52; (with_reducible refine (cref_is bx ay bx ay HP10.out HP11.out _ibx _iay  _).mono ?_); rintro e w2 ⟨rfl, hn⟩) | (go_at_call 71; (with_reducible refine (rAhead_v bx b_y bx ay false HP14.out _).mono ?_); rintro e w2 ⟨rfl, hn⟩)))
      replace hb := hb.trans (hn.mono hb.size)
      refine hK.out _ _ (up_iff.2 hb) ?_
      clear hK K
      clear hn
      refine wpS_doL rfl ?_
      intro K hK
      go_wp2_with ((first | (go_at_call 52; (with_reducible refine (cref_is bx b_y bx b_y HP12.out HP13.out _ibx _ib_y  _).mono ?_); rintro e w2 ⟨rfl, hn⟩) | (go_at_call 52; (with_reducible refine (cref_is bx ay bx ay HP10.out HP11.out _ibx _iay  _).mono ?_); rintro e w2 ⟨rfl, hn⟩) | (go_at_call 71; (with_reducible refine (rAhead_v bx b_y bx ay false HP14.out _).mono ?_); rintro e w2 ⟨rfl, hn⟩)))
      replace hb := hb.trans (hn.mono hb.size)
      refine hK.out _ _ (up_iff.2 hb) ?_
      clear hK K
      clear hn
      iterate 33
        refine wpS_takeL rfl rfl ?_
        go_big_quiet_step (rfl)
        refine wpQuiet_nil ?_
      refine wpS_nil ?_
      simp only [List.drop_succ_cons, List.drop_zero]
      first | refine calls_w ?_ | refine name_world ?_ | refine list_world ?_ | refine post_world ?_
      intro U12 hU12
      first | (subst hU12; have u_ := U12; clear u_) | (rw [← hU12] at hb; clear hU12)
      clear c1_0 c1_1 c1_2 c1_3 l1 c4_0 c4_1 l4 c5_0 c5_1 l5
      have k1 := Kk1.out.of hb
      clear Kk1
      have k2 := Kk2.out.of hb
      clear Kk2
      have k3 := Kk3.out.of hb
      clear Kk3
      have k4 := Kk4.out.of hb
      clear Kk4
      have k5 := Kk5.out.of hb
      clear Kk5
      replace HB1 := Lib.hid (HB1.out.of hb)
      replace HB2 := Lib.hid (HB2.out.of hb)
      replace HB3 := Lib.hid (HB3.out.of hb)
      replace hb0 := hb0.trans (hb.mono hb0.size)
      clear hb
      go_wp2_with fail
      have c1_0 : U12.cell? ⟨w.heap.size, 0, none⟩ = some (.int .i64 bx) := k1.cell 0
      have c1_1 : U12.cell? ⟨w.heap.size, 1, none⟩ = some (.int .i64 ay) := k1.cell 1
      have c1_2 : U12.cell? ⟨w.heap.size, 2, none⟩ = some (.int .i64 bx) := k1.cell 2
      have c1_3 : U12.cell? ⟨w.heap.size, 3, none⟩ = some (.int .i64 b_y) := k1.cell 3
      have l1 := k1.lt
      have c2_0 : U12.cell? ⟨(w.heap.size + 1), 0, none⟩ = some (.int .u64 (wd0 x)) := k2.cell 0
      have c2_1 : U12.cell? ⟨(w.heap.size + 1), 1, none⟩ = some (.int .u64 (wd1 x)) := k2.cell 1
      have c2_2 : U12.cell? ⟨(w.heap.size + 1), 2, none⟩ = some (.int .u64 (wd2 x)) := k2.cell 2
      have c2_3 : U12.cell? ⟨(w.heap.size + 1), 3, none⟩ = some (.int .u64 (wd3 x)) := k2.cell 3
      have c2_4 : U12.cell? ⟨(w.heap.size + 1), 4, none⟩ = some (.int .u64 (wd0 y)) := k2.cell 4
      have c2_5 : U12.cell? ⟨(w.heap.size + 1), 5, none⟩ = some (.int .u64 (wd1 y)) := k2.cell 5
      have c2_6 : U12.cell? ⟨(w.heap.size + 1), 6, none⟩ = some (.int .u64 (wd2 y)) := k2.cell 6
      have c2_7 : U12.cell? ⟨(w.heap.size + 1), 7, none⟩ = some (.int .u64 (wd3 y)) := k2.cell 7
      have c2_8 : U12.cell? ⟨(w.heap.size + 1), 8, none⟩ = some (.int .u64 (wd0 v)) := k2.cell 8
      have c2_9 : U12.cell? ⟨(w.heap.size + 1), 9, none⟩ = some (.int .u64 (wd1 v)) := k2.cell 9
      have c2_10 : U12.cell? ⟨(w.heap.size + 1), 10, none⟩ = some (.int .u64 (wd2 v)) := k2.cell 10
      have c2_11 : U12.cell? ⟨(w.heap.size + 1), 11, none⟩ = some (.int .u64 (wd3 v)) := k2.cell 11
      have l2 := k2.lt
      have c3_0 : U12.cell? ⟨U2.heap.size, 0, none⟩ = some (.bool bn1) := k3.cell 0
      have c3_1 : U12.cell? ⟨U2.heap.size, 1, none⟩ = some (.slice ba1 bl1 bc1) := k3.cell 1
      have c3_2 : U12.cell? ⟨U2.heap.size, 2, none⟩ = some (.bool bn2) := k3.cell 2
      have c3_3 : U12.cell? ⟨U2.heap.size, 3, none⟩ = some (.slice ba2 bl2 bc2) := k3.cell 3
      have c3_4 : U12.cell? ⟨U2.heap.size, 4, none⟩ = some (.bool bn3) := k3.cell 4
      have c3_5 : U12.cell? ⟨U2.heap.size, 5, none⟩ = some (.slice ba3 bl3 bc3) := k3.cell 5
      have l3 := k3.lt
      have c4_0 : U12.cell? ⟨U6.heap.size, 0, none⟩ = some (.int .i64 bx) := k4.cell 0
      have c4_1 : U12.cell? ⟨U6.heap.size, 1, none⟩ = some (.int .i64 ay) := k4.cell 1
      have l4 := k4.lt
      have c5_0 : U12.cell? ⟨(U6.heap.size + 1), 0, none⟩ = some (.int .i64 bx) := k5.cell 0
      have c5_1 : U12.cell? ⟨(U6.heap.size + 1), 1, none⟩ = some (.int .i64 b_y) := k5.cell 1
      have l5 := k5.lt
      have Kk1 := Lib.hid k1
      clear k1
      have Kk2 := Lib.hid k2
      clear k2
      have Kk3 := Lib.hid k3
      clear k3
      have Kk4 := Lib.hid k4
      clear k4
      have Kk5 := Lib.hid k5
      clear k5
      refine wp_region_up U12.heap.size 25 [(true, 0), (false, 1), (true, 2), (true, 3), (true, 4), (true, 6), (true, 8), (true, 10), (false, 5), (false, 7), (false, 9), (false, 11), (true, 12), (true, 13), (true, 14), (true, 15), (true, 16), (true, 18), (true, 19), (true, 21), (true, 22), (true, 24), (false, 17), (false, 20), (false, 23)] (by kernel_rfl) (by kernel_rfl) (fun _ _ d _ _ h => by cases d <;> exact h) ?_
      have hb : Below U12.heap.size U12 U12.drew := (Below.refl _ _).drew
      refine wpS_takeL rfl rfl ?_
      go_big_quiet_step (rfl)
      refine wpQuiet_nil ?_
      refine wpS_doL rfl ?_
      intro K hK
      go_wp2_with ((first | (go_at_call 59; (with_reducible refine (SpRight_is x y v true HP4.out _ix _iy _iv  _).mono ?_); rintro e w2 ⟨rfl, hn⟩) | (go_at_call 69; (with_reducible refine (SegSide_is bx ay bx b_y x y v s HP15.out _ibx _iay _ibx _ib_y _ix _iy _iv  _).mono ?_); rintro e w2 ⟨rfl, hn⟩) | (go_at_call 52; (with_reducible refine (cref_is bx ay bx ay HP10.out HP11.out _ibx _iay  _).mono ?_); rintro e w2 ⟨rfl, hn⟩) | (go_at_call 52; (with_reducible refine (cref_is bx b_y bx b_y HP12.out HP13.out _ibx _ib_y  _).mono ?_); rintro e w2 ⟨rfl, hn⟩) | (go_at_call 72; (with_reducible refine (rSide_is bx ay bx b_y x y v s HP16.out _ibx _iay _ibx _ib_y bn1 ba1 bl1 bc1 bn2 ba2 bl2 bc2 bn3 ba3 bl3 bc3 _ (HB1.out.of hb) (HB2.out.of hb) (HB3.out.of hb)).mono ?_); rintro e w2 ⟨rfl, hn⟩) | (go_at_call 70; (with_reducible refine (SegHolds_is bx ay bx b_y x y v h HP17.out _ibx _iay _ibx _ib_y _ix _iy _iv  _).mono ?_); rintro e w2 ⟨rfl, hn⟩)))
      replace hb := hb.trans (hn.mono hb.size)
      refine hK.out _ _ (up_iff.2 hb) ?_
      clear hK K
      clear hn
      iterate 6
        refine wpS_takeL rfl rfl ?_
        go_big_quiet_step (rfl)
        refine wpQuiet_nil ?_
      refine wpS_doL rfl ?_
      intro K hK
      go_wp2_with ((first | (go_at_call 59; (with_reducible refine (SpRight_is x y v true HP4.out _ix _iy _iv  _).mono ?_); rintro e w2 ⟨rfl, hn⟩) | (go_at_call 69; (with_reducible refine (SegSide_is bx ay bx b_y x y v s HP15.out _ibx _iay _ibx _ib_y _ix _iy _iv  _).mono ?_); rintro e w2 ⟨rfl, hn⟩) | (go_at_call 52; (with_reducible refine (cref_is bx ay bx ay HP10.out HP11.out _ibx _iay  _).mono ?_); rintro e w2 ⟨rfl, hn⟩) | (go_at_call 52; (with_reducible refine (cref_is bx b_y bx b_y HP12.out HP13.out _ibx _ib_y  _).mono ?_); rintro e w2 ⟨rfl, hn⟩) | (go_at_call 72; (with_reducible refine (rSide_is bx ay bx b_y x y v s HP16.out _ibx _iay _ibx _ib_y bn1 ba1 bl1 bc1 bn2 ba2 bl2 bc2 bn3 ba3 bl3 bc3 _ (HB1.out.of hb) (HB2.out.of hb) (HB3.out.of hb)).mono ?_); rintro e w2 ⟨rfl, hn⟩) | (go_at_call 70; (with_reducible refine (SegHolds_is bx ay bx b_y x y v h HP17.out _ibx _iay _ibx _ib_y _ix _iy _iv  _).mono ?_); rintro e w2 ⟨rfl, hn⟩)))
      try replace hb := hb.trans (hn.mono hb.size)
      refine hK.out _ _ (up_iff.2 hb) ?_
      clear hK K
      try clear hn
      refine wpS_doL rfl ?_
      intro K hK
      go_wp2_with ((first | (go_at_call 59; (with_reducible refine (SpRight_is x y v true HP4.out _ix _iy _iv  _).mono ?_); rintro e w2 ⟨rfl, hn⟩) | (go_at_call 69; (with_reducible refine (SegSide_is bx ay bx b_y x y v s HP15.out _ibx _iay _ibx _ib_y _ix _iy _iv  _).mono ?_); rintro e w2 ⟨rfl, hn⟩) | (go_at_call 52; (with_reducible refine (cref_is bx ay bx ay HP10.out HP11.out _ibx _iay  _).mono ?_); rintro e w2 ⟨rfl, hn⟩) | (go_at_call 52; (with_reducible refine (cref_is bx b_y bx b_y HP12.out HP13.out _ibx _ib_y  _).mono ?_); rintro e w2 ⟨rfl, hn⟩) | (go_at_call 72; (with_reducible refine (rSide_is bx ay bx b_y x y v s HP16.out _ibx _iay _ibx _ib_y bn1 ba1 bl1 bc1 bn2 ba2 bl2 bc2 bn3 ba3 bl3 bc3 _ (HB1.out.of hb) (HB2.out.of hb) (HB3.out.of hb)).mono ?_); rintro e w2 ⟨rfl, hn⟩) | (go_at_call 70; (with_reducible refine (SegHolds_is bx ay bx b_y x y v h HP17.out _ibx _iay _ibx _ib_y _ix _iy _iv  _).mono ?_); rintro e w2 ⟨rfl, hn⟩)))
      try replace hb := hb.trans (hn.mono hb.size)
      refine hK.out _ _ (up_iff.2 hb) ?_
      clear hK K
      try clear hn
      refine wpS_doL rfl ?_
      intro K hK
      go_wp2_with ((first | (go_at_call 59; (with_reducible refine (SpRight_is x y v true HP4.out _ix _iy _iv  _).mono ?_); rintro e w2 ⟨rfl, hn⟩) | (go_at_call 69; (with_reducible refine (SegSide_is bx ay bx b_y x y v s HP15.out _ibx _iay _ibx _ib_y _ix _iy _iv  _).mono ?_); rintro e w2 ⟨rfl, hn⟩) | (go_at_call 52; (with_reducible refine (cref_is bx ay bx ay HP10.out HP11.out _ibx _iay  _).mono ?_); rintro e w2 ⟨rfl, hn⟩) | (go_at_call 52; (with_reducible refine (cref_is bx b_y bx b_y HP12.out HP13.out _ibx _ib_y  _).mono ?_); rintro e w2 ⟨rfl, hn⟩) | (go_at_call 72; (with_reducible refine (rSide_is bx ay bx b_y x y v s HP16.out _ibx _iay _ibx _ib_y bn1 ba1 bl1 bc1 bn2 ba2 bl2 bc2 bn3 ba3 bl3 bc3 _ (HB1.out.of hb) (HB2.out.of hb) (HB3.out.of hb)).mono ?_); rintro e w2 ⟨rfl, hn⟩) | (go_at_call 70; (with_reducible refine (SegHolds_is bx ay bx b_y x y v h HP17.out _ibx _iay _ibx _ib_y _ix _iy _iv  _).mono ?_); rintro e w2 ⟨rfl, hn⟩)))
      try replace hb := hb.trans (hn.mono hb.size)
      refine hK.out _ _ (up_iff.2 hb) ?_
      clear hK K
      try clear hn
      refine wpS_doL rfl ?_
      intro K hK
      go_wp2_with ((first | (go_at_call 59; (with_reducible refine (SpRight_is x y v true HP4.out _ix _iy _iv  _).mono ?_); rintro e w2 ⟨rfl, hn⟩) | (go_at_call 69; (with_reducible refine (SegSide_is bx ay bx b_y x y v s HP15.out _ibx _iay _ibx _ib_y _ix _iy _iv  _).mono ?_); rintro e w2 ⟨rfl, hn⟩) | (go_at_call 52; (with_reducible refine (cref_is bx ay bx ay HP10.out HP11.out _ibx _iay  _).mono ?_); rintro e w2 ⟨rfl, hn⟩) | (go_at_call 52; (with_reducible refine (cref_is bx b_y bx b_y HP12.out HP13.out _ibx _ib_y  _).mono ?_); rintro e w2 ⟨rfl, hn⟩) | (go_at_call 72; (with_reducible refine (rSide_is bx ay bx b_y x y v s HP16.out _ibx _iay _ibx _ib_y bn1 ba1 bl1 bc1 bn2 ba2 bl2 bc2 bn3 ba3 bl3 bc3 _ (HB1.out.of hb) (HB2.out.of hb) (HB3.out.of hb)).mono ?_); rintro e w2 ⟨rfl, hn⟩) | (go_at_call 70; (with_reducible refine (SegHolds_is bx ay bx b_y x y v h HP17.out _ibx _iay _ibx _ib_y _ix _iy _iv  _).mono ?_); rintro e w2 ⟨rfl, hn⟩)))
      try replace hb := hb.trans (hn.mono hb.size)
      refine hK.out _ _ (up_iff.2 hb) ?_
      clear hK K
      try clear hn
      iterate 10
        refine wpS_takeL rfl rfl ?_
        go_big_quiet_step (rfl)
        refine wpQuiet_nil ?_
      refine wpS_doL rfl ?_
      intro K hK
      go_wp2_with ((first | (go_at_call 59; (with_reducible refine (SpRight_is x y v true HP4.out _ix _iy _iv  _).mono ?_); rintro e w2 ⟨rfl, hn⟩) | (go_at_call 69; (with_reducible refine (SegSide_is bx ay bx b_y x y v s HP15.out _ibx _iay _ibx _ib_y _ix _iy _iv  _).mono ?_); rintro e w2 ⟨rfl, hn⟩) | (go_at_call 52; (with_reducible refine (cref_is bx ay bx ay HP10.out HP11.out _ibx _iay  _).mono ?_); rintro e w2 ⟨rfl, hn⟩) | (go_at_call 52; (with_reducible refine (cref_is bx b_y bx b_y HP12.out HP13.out _ibx _ib_y  _).mono ?_); rintro e w2 ⟨rfl, hn⟩) | (go_at_call 72; (with_reducible refine (rSide_is bx ay bx b_y x y v s HP16.out _ibx _iay _ibx _ib_y bn1 ba1 bl1 bc1 bn2 ba2 bl2 bc2 bn3 ba3 bl3 bc3 _ (HB1.out.of hb) (HB2.out.of hb) (HB3.out.of hb)).mono ?_); rintro e w2 ⟨rfl, hn⟩) | (go_at_call 70; (with_reducible refine (SegHolds_is bx ay bx b_y x y v h HP17.out _ibx _iay _ibx _ib_y _ix _iy _iv  _).mono ?_); rintro e w2 ⟨rfl, hn⟩)))
      try replace hb := hb.trans (hn.mono hb.size)
      refine hK.out _ _ (up_iff.2 hb) ?_
      clear hK K
      try clear hn
      refine wpS_doL rfl ?_
      intro K hK
      go_wp2_with ((first | (go_at_call 59; (with_reducible refine (SpRight_is x y v true HP4.out _ix _iy _iv  _).mono ?_); rintro e w2 ⟨rfl, hn⟩) | (go_at_call 69; (with_reducible refine (SegSide_is bx ay bx b_y x y v s HP15.out _ibx _iay _ibx _ib_y _ix _iy _iv  _).mono ?_); rintro e w2 ⟨rfl, hn⟩) | (go_at_call 52; (with_reducible refine (cref_is bx ay bx ay HP10.out HP11.out _ibx _iay  _).mono ?_); rintro e w2 ⟨rfl, hn⟩) | (go_at_call 52; (with_reducible refine (cref_is bx b_y bx b_y HP12.out HP13.out _ibx _ib_y  _).mono ?_); rintro e w2 ⟨rfl, hn⟩) | (go_at_call 72; (with_reducible refine (rSide_is bx ay bx b_y x y v s HP16.out _ibx _iay _ibx _ib_y bn1 ba1 bl1 bc1 bn2 ba2 bl2 bc2 bn3 ba3 bl3 bc3 _ (HB1.out.of hb) (HB2.out.of hb) (HB3.out.of hb)).mono ?_); rintro e w2 ⟨rfl, hn⟩) | (go_at_call 70; (with_reducible refine (SegHolds_is bx ay bx b_y x y v h HP17.out _ibx _iay _ibx _ib_y _ix _iy _iv  _).mono ?_); rintro e w2 ⟨rfl, hn⟩)))
      try replace hb := hb.trans (hn.mono hb.size)
      refine hK.out _ _ (up_iff.2 hb) ?_
      clear hK K
      try clear hn
      refine wpS_doL rfl ?_
      intro K hK
      go_wp2_with ((first | (go_at_call 59; (with_reducible refine (SpRight_is x y v true HP4.out _ix _iy _iv  _).mono ?_); rintro e w2 ⟨rfl, hn⟩) | (go_at_call 69; (with_reducible refine (SegSide_is bx ay bx b_y x y v s HP15.out _ibx _iay _ibx _ib_y _ix _iy _iv  _).mono ?_); rintro e w2 ⟨rfl, hn⟩) | (go_at_call 52; (with_reducible refine (cref_is bx ay bx ay HP10.out HP11.out _ibx _iay  _).mono ?_); rintro e w2 ⟨rfl, hn⟩) | (go_at_call 52; (with_reducible refine (cref_is bx b_y bx b_y HP12.out HP13.out _ibx _ib_y  _).mono ?_); rintro e w2 ⟨rfl, hn⟩) | (go_at_call 72; (with_reducible refine (rSide_is bx ay bx b_y x y v s HP16.out _ibx _iay _ibx _ib_y bn1 ba1 bl1 bc1 bn2 ba2 bl2 bc2 bn3 ba3 bl3 bc3 _ (HB1.out.of hb) (HB2.out.of hb) (HB3.out.of hb)).mono ?_); rintro e w2 ⟨rfl, hn⟩) | (go_at_call 70; (with_reducible refine (SegHolds_is bx ay bx b_y x y v h HP17.out _ibx _iay _ibx _ib_y _ix _iy _iv  _).mono ?_); rintro e w2 ⟨rfl, hn⟩)))
      try replace hb := hb.trans (hn.mono hb.size)
      refine hK.out _ _ (up_iff.2 hb) ?_
      clear hK K
      try clear hn
      refine wpS_nil ?_
      simp only [List.drop_succ_cons, List.drop_zero]
      first | refine calls_w ?_ | refine name_world ?_ | refine list_world ?_ | refine post_world ?_
      intro U13 hU13
      first | (subst hU13; have u_ := U13; clear u_) | (rw [← hU13] at hb; clear hU13)
      clear c1_0 c1_1 c1_2 c1_3 l1 c2_0 c2_1 c2_2 c2_3 c2_4 c2_5 c2_6 c2_7 c2_8 c2_9 c2_10 c2_11 l2 c3_0 c3_1 c3_2 c3_3 c3_4 c3_5 l3 c4_0 c4_1 l4 c5_0 c5_1 l5
      have k1 := Kk1.out.of hb
      clear Kk1
      have k2 := Kk2.out.of hb
      clear Kk2
      have k3 := Kk3.out.of hb
      clear Kk3
      have k4 := Kk4.out.of hb
      clear Kk4
      have k5 := Kk5.out.of hb
      clear Kk5
      replace HB1 := Lib.hid (HB1.out.of hb)
      replace HB2 := Lib.hid (HB2.out.of hb)
      replace HB3 := Lib.hid (HB3.out.of hb)
      replace hb0 := hb0.trans (hb.mono hb0.size)
      clear hb
      go_wp2_with fail
      refine (rHolds_is bx ay bx b_y x y v h HP18.out _ibx _iay _ibx _ib_y bn1 ba1 bl1 bc1 bn2 ba2 bl2 bc2 bn3 ba3 bl3 bc3 _ HB1.out HB2.out HB3.out).mono ?_
      rintro e U14 ⟨rfl, hn⟩
      clear HB1 HB2 HB3
      clear k1 k2 k3 k4 k5
      replace hb0 := hb0.trans (hn.mono hb0.size)
      clear hn
      go_wp2_with fail
      refine (cawake_any _).mono ?_
      rintro e U15 ⟨rfl, hn⟩
      replace hb0 := hb0.trans (hn.mono hb0.size)
      clear hn
      go_wp2
      first | go_ret | go_ret2
      exact ⟨by first | rfl | (simp; done) | (simp; assumption), hb0⟩
    · have qz2 : b_y = ay := by simpa using hz2
      clear hz2
      subst qz2
      have c1_0 : V7.cell? ⟨w.heap.size, 0, none⟩ = some (.int .i64 bx) := k1.cell 0
      have c1_1 : V7.cell? ⟨w.heap.size, 1, none⟩ = some (.int .i64 b_y) := k1.cell 1
      have c1_2 : V7.cell? ⟨w.heap.size, 2, none⟩ = some (.int .i64 bx) := k1.cell 2
      have c1_3 : V7.cell? ⟨w.heap.size, 3, none⟩ = some (.int .i64 b_y) := k1.cell 3
      have l1 := k1.lt
      have c4_0 : V7.cell? ⟨U6.heap.size, 0, none⟩ = some (.int .i64 bx) := k4.cell 0
      have c4_1 : V7.cell? ⟨U6.heap.size, 1, none⟩ = some (.int .i64 b_y) := k4.cell 1
      have l4 := k4.lt
      have c5_0 : V7.cell? ⟨(U6.heap.size + 1), 0, none⟩ = some (.int .i64 bx) := k5.cell 0
      have c5_1 : V7.cell? ⟨(U6.heap.size + 1), 1, none⟩ = some (.int .i64 b_y) := k5.cell 1
      have l5 := k5.lt
      have Kk1 := Lib.hid k1
      clear k1
      have Kk2 := Lib.hid k2
      clear k2
      have Kk3 := Lib.hid k3
      clear k3
      have Kk4 := Lib.hid k4
      clear k4
      have Kk5 := Lib.hid k5
      clear k5
      refine wp_region_up V7.heap.size 38 [(true, 0), (true, 2), (false, 1), (false, 3), (false, 4), (true, 5), (true, 6), (true, 7), (true, 8), (true, 9), (true, 10), (true, 11), (true, 12), (true, 13), (true, 14), (true, 15), (true, 16), (true, 17), (true, 18), (true, 19), (true, 20), (true, 21), (true, 22), (true, 23), (true, 24), (true, 25), (true, 26), (true, 27), (true, 28), (true, 29), (true, 30), (true, 31), (true, 32), (true, 33), (true, 34), (true, 35), (true, 36), (true, 37)] (by kernel_rfl) (by kernel_rfl) (fun _ _ d _ _ h => by cases d <;> exact h) ?_
      have hb : Below V7.heap.size V7 V7.drew := (Below.refl _ _).drew
      iterate 2
        refine wpS_takeL rfl rfl ?_
        go_big_quiet_step (rfl)
        refine wpQuiet_nil ?_
      refine wpS_doL rfl ?_
      intro K hK
      go_wp2_with ((first | (go_at_call 52; (with_reducible refine (cref_is bx b_y bx b_y HP12.out HP13.out _ibx _ib_y  _).mono ?_); rintro e w2 ⟨rfl, hn⟩) | (go_at_call 71; (with_reducible refine (rAhead_v bx b_y bx b_y false HP14.out _).mono ?_); rintro e w2 ⟨rfl, hn⟩)))
      replace hb := hb.trans (hn.mono hb.size)
      refine hK.out _ _ (up_iff.2 hb) ?_
      clear hK K
      clear hn
      refine wpS_doL rfl ?_
      intro K hK
      go_wp2_with ((first | (go_at_call 52; (with_reducible refine (cref_is bx b_y bx b_y HP12.out HP13.out _ibx _ib_y  _).mono ?_); rintro e w2 ⟨rfl, hn⟩) | (go_at_call 71; (with_reducible refine (rAhead_v bx b_y bx b_y false HP14.out _).mono ?_); rintro e w2 ⟨rfl, hn⟩)))
      replace hb := hb.trans (hn.mono hb.size)
      refine hK.out _ _ (up_iff.2 hb) ?_
      clear hK K
      clear hn
      refine wpS_doL rfl ?_
      intro K hK
      go_wp2_with ((first | (go_at_call 52; (with_reducible refine (cref_is bx b_y bx b_y HP12.out HP13.out _ibx _ib_y  _).mono ?_); rintro e w2 ⟨rfl, hn⟩) | (go_at_call 71; (with_reducible refine (rAhead_v bx b_y bx b_y false HP14.out _).mono ?_); rintro e w2 ⟨rfl, hn⟩)))
      replace hb := hb.trans (hn.mono hb.size)
      refine hK.out _ _ (up_iff.2 hb) ?_
      clear hK K
      clear hn
      iterate 33
        refine wpS_takeL rfl rfl ?_
        go_big_quiet_step (rfl)
        refine wpQuiet_nil ?_
      refine wpS_nil ?_
      simp only [List.drop_succ_cons, List.drop_zero]
      first | refine calls_w ?_ | refine name_world ?_ | refine list_world ?_ | refine post_world ?_
      intro U16 hU16
      first | (subst hU16; have u_ := U16; clear u_) | (rw [← hU16] at hb; clear hU16)
      clear c1_0 c1_1 c1_2 c1_3 l1 c4_0 c4_1 l4 c5_0 c5_1 l5
      have k1 := Kk1.out.of hb
      clear Kk1
      have k2 := Kk2.out.of hb
      clear Kk2
      have k3 := Kk3.out.of hb
      clear Kk3
      have k4 := Kk4.out.of hb
      clear Kk4
      have k5 := Kk5.out.of hb
      clear Kk5
      replace HB1 := Lib.hid (HB1.out.of hb)
      replace HB2 := Lib.hid (HB2.out.of hb)
      replace HB3 := Lib.hid (HB3.out.of hb)
      replace hb0 := hb0.trans (hb.mono hb0.size)
      clear hb
      go_wp2_with fail
      have c1_0 : U16.cell? ⟨w.heap.size, 0, none⟩ = some (.int .i64 bx) := k1.cell 0
      have c1_1 : U16.cell? ⟨w.heap.size, 1, none⟩ = some (.int .i64 b_y) := k1.cell 1
      have c1_2 : U16.cell? ⟨w.heap.size, 2, none⟩ = some (.int .i64 bx) := k1.cell 2
      have c1_3 : U16.cell? ⟨w.heap.size, 3, none⟩ = some (.int .i64 b_y) := k1.cell 3
      have l1 := k1.lt
      have c2_0 : U16.cell? ⟨(w.heap.size + 1), 0, none⟩ = some (.int .u64 (wd0 x)) := k2.cell 0
      have c2_1 : U16.cell? ⟨(w.heap.size + 1), 1, none⟩ = some (.int .u64 (wd1 x)) := k2.cell 1
      have c2_2 : U16.cell? ⟨(w.heap.size + 1), 2, none⟩ = some (.int .u64 (wd2 x)) := k2.cell 2
      have c2_3 : U16.cell? ⟨(w.heap.size + 1), 3, none⟩ = some (.int .u64 (wd3 x)) := k2.cell 3
      have c2_4 : U16.cell? ⟨(w.heap.size + 1), 4, none⟩ = some (.int .u64 (wd0 y)) := k2.cell 4
      have c2_5 : U16.cell? ⟨(w.heap.size + 1), 5, none⟩ = some (.int .u64 (wd1 y)) := k2.cell 5
      have c2_6 : U16.cell? ⟨(w.heap.size + 1), 6, none⟩ = some (.int .u64 (wd2 y)) := k2.cell 6
      have c2_7 : U16.cell? ⟨(w.heap.size + 1), 7, none⟩ = some (.int .u64 (wd3 y)) := k2.cell 7
      have c2_8 : U16.cell? ⟨(w.heap.size + 1), 8, none⟩ = some (.int .u64 (wd0 v)) := k2.cell 8
      have c2_9 : U16.cell? ⟨(w.heap.size + 1), 9, none⟩ = some (.int .u64 (wd1 v)) := k2.cell 9
      have c2_10 : U16.cell? ⟨(w.heap.size + 1), 10, none⟩ = some (.int .u64 (wd2 v)) := k2.cell 10
      have c2_11 : U16.cell? ⟨(w.heap.size + 1), 11, none⟩ = some (.int .u64 (wd3 v)) := k2.cell 11
      have l2 := k2.lt
      have c3_0 : U16.cell? ⟨U2.heap.size, 0, none⟩ = some (.bool bn1) := k3.cell 0
      have c3_1 : U16.cell? ⟨U2.heap.size, 1, none⟩ = some (.slice ba1 bl1 bc1) := k3.cell 1
      have c3_2 : U16.cell? ⟨U2.heap.size, 2, none⟩ = some (.bool bn2) := k3.cell 2
      have c3_3 : U16.cell? ⟨U2.heap.size, 3, none⟩ = some (.slice ba2 bl2 bc2) := k3.cell 3
      have c3_4 : U16.cell? ⟨U2.heap.size, 4, none⟩ = some (.bool bn3) := k3.cell 4
      have c3_5 : U16.cell? ⟨U2.heap.size, 5, none⟩ = some (.slice ba3 bl3 bc3) := k3.cell 5
      have l3 := k3.lt
      have c4_0 : U16.cell? ⟨U6.heap.size, 0, none⟩ = some (.int .i64 bx) := k4.cell 0
      have c4_1 : U16.cell? ⟨U6.heap.size, 1, none⟩ = some (.int .i64 b_y) := k4.cell 1
      have l4 := k4.lt
      have c5_0 : U16.cell? ⟨(U6.heap.size + 1), 0, none⟩ = some (.int .i64 bx) := k5.cell 0
      have c5_1 : U16.cell? ⟨(U6.heap.size + 1), 1, none⟩ = some (.int .i64 b_y) := k5.cell 1
      have l5 := k5.lt
      have Kk1 := Lib.hid k1
      clear k1
      have Kk2 := Lib.hid k2
      clear k2
      have Kk3 := Lib.hid k3
      clear k3
      have Kk4 := Lib.hid k4
      clear k4
      have Kk5 := Lib.hid k5
      clear k5
      refine wp_region_up U16.heap.size 25 [(true, 0), (false, 1), (true, 2), (true, 3), (true, 4), (true, 6), (true, 8), (true, 10), (false, 5), (false, 7), (false, 9), (false, 11), (true, 12), (true, 13), (true, 14), (true, 15), (true, 16), (true, 18), (true, 19), (true, 21), (true, 22), (true, 24), (false, 17), (false, 20), (false, 23)] (by kernel_rfl) (by kernel_rfl) (fun _ _ d _ _ h => by cases d <;> exact h) ?_
      have hb : Below U16.heap.size U16 U16.drew := (Below.refl _ _).drew
      refine wpS_takeL rfl rfl ?_
      go_big_quiet_step (rfl)
      refine wpQuiet_nil ?_
      refine wpS_doL rfl ?_
      intro K hK
      go_wp2_with ((first | (go_at_call 59; (with_reducible refine (SpRight_is x y v true HP4.out _ix _iy _iv  _).mono ?_); rintro e w2 ⟨rfl, hn⟩) | (go_at_call 69; (with_reducible refine (SegSide_is bx b_y bx b_y x y v s HP15.out _ibx _ib_y _ibx _ib_y _ix _iy _iv  _).mono ?_); rintro e w2 ⟨rfl, hn⟩) | (go_at_call 52; (with_reducible refine (cref_is bx b_y bx b_y HP12.out HP13.out _ibx _ib_y  _).mono ?_); rintro e w2 ⟨rfl, hn⟩) | (go_at_call 72; (with_reducible refine (rSide_is bx b_y bx b_y x y v s HP16.out _ibx _ib_y _ibx _ib_y bn1 ba1 bl1 bc1 bn2 ba2 bl2 bc2 bn3 ba3 bl3 bc3 _ (HB1.out.of hb) (HB2.out.of hb) (HB3.out.of hb)).mono ?_); rintro e w2 ⟨rfl, hn⟩) | (go_at_call 70; (with_reducible refine (SegHolds_is bx b_y bx b_y x y v h HP17.out _ibx _ib_y _ibx _ib_y _ix _iy _iv  _).mono ?_); rintro e w2 ⟨rfl, hn⟩)))
      replace hb := hb.trans (hn.mono hb.size)
      refine hK.out _ _ (up_iff.2 hb) ?_
      clear hK K
      clear hn
      iterate 6
        refine wpS_takeL rfl rfl ?_
        go_big_quiet_step (rfl)
        refine wpQuiet_nil ?_
      refine wpS_doL rfl ?_
      intro K hK
      go_wp2_with ((first | (go_at_call 59; (with_reducible refine (SpRight_is x y v true HP4.out _ix _iy _iv  _).mono ?_); rintro e w2 ⟨rfl, hn⟩) | (go_at_call 69; (with_reducible refine (SegSide_is bx b_y bx b_y x y v s HP15.out _ibx _ib_y _ibx _ib_y _ix _iy _iv  _).mono ?_); rintro e w2 ⟨rfl, hn⟩) | (go_at_call 52; (with_reducible refine (cref_is bx b_y bx b_y HP12.out HP13.out _ibx _ib_y  _).mono ?_); rintro e w2 ⟨rfl, hn⟩) | (go_at_call 72; (with_reducible refine (rSide_is bx b_y bx b_y x y v s HP16.out _ibx _ib_y _ibx _ib_y bn1 ba1 bl1 bc1 bn2 ba2 bl2 bc2 bn3 ba3 bl3 bc3 _ (HB1.out.of hb) (HB2.out.of hb) (HB3.out.of hb)).mono ?_); rintro e w2 ⟨rfl, hn⟩) | (go_at_call 70; (with_reducible refine (SegHolds_is bx b_y bx b_y x y v h HP17.out _ibx _ib_y _ibx _ib_y _ix _iy _iv  _).mono ?_); rintro e w2 ⟨rfl, hn⟩)))
      try replace hb := hb.trans (hn.mono hb.size)
      refine hK.out _ _ (up_iff.2 hb) ?_
      clear hK K
      try clear hn
      refine wpS_doL rfl ?_
      intro K hK
      go_wp2_with ((first | (go_at_call 59; (with_reducible refine (SpRight_is x y v true HP4.out _ix _iy _iv  _).mono ?_); rintro e w2 ⟨rfl, hn⟩) | (go_at_call 69; (with_reducible refine (SegSide_is bx b_y bx b_y x y v s HP15.out _ibx _ib_y _ibx _ib_y _ix _iy _iv  _).mono ?_); rintro e w2 ⟨rfl, hn⟩) | (go_at_call 52; (with_reducible refine (cref_is bx b_y bx b_y HP12.out HP13.out _ibx _ib_y  _).mono ?_); rintro e w2 ⟨rfl, hn⟩) | (go_at_call 72; (with_reducible refine (rSide_is bx b_y bx b_y x y v s HP16.out _ibx _ib_y _ibx _ib_y bn1 ba1 bl1 bc1 bn2 ba2 bl2 bc2 bn3 ba3 bl3 bc3 _ (HB1.out.of hb) (HB2.out.of hb) (HB3.out.of hb)).mono ?_); rintro e w2 ⟨rfl, hn⟩) | (go_at_call 70; (with_reducible refine (SegHolds_is bx b_y bx b_y x y v h HP17.out _ibx _ib_y _ibx _ib_y _ix _iy _iv  _).mono ?_); rintro e w2 ⟨rfl, hn⟩)))
      try replace hb := hb.trans (hn.mono hb.size)
      refine hK.out _ _ (up_iff.2 hb) ?_
      clear hK K
      try clear hn
      refine wpS_doL rfl ?_
      intro K hK
      go_wp2_with ((first | (go_at_call 59; (with_reducible refine (SpRight_is x y v true HP4.out _ix _iy _iv  _).mono ?_); rintro e w2 ⟨rfl, hn⟩) | (go_at_call 69; (with_reducible refine (SegSide_is bx b_y bx b_y x y v s HP15.out _ibx _ib_y _ibx _ib_y _ix _iy _iv  _).mono ?_); rintro e w2 ⟨rfl, hn⟩) | (go_at_call 52; (with_reducible refine (cref_is bx b_y bx b_y HP12.out HP13.out _ibx _ib_y  _).mono ?_); rintro e w2 ⟨rfl, hn⟩) | (go_at_call 72; (with_reducible refine (rSide_is bx b_y bx b_y x y v s HP16.out _ibx _ib_y _ibx _ib_y bn1 ba1 bl1 bc1 bn2 ba2 bl2 bc2 bn3 ba3 bl3 bc3 _ (HB1.out.of hb) (HB2.out.of hb) (HB3.out.of hb)).mono ?_); rintro e w2 ⟨rfl, hn⟩) | (go_at_call 70; (with_reducible refine (SegHolds_is bx b_y bx b_y x y v h HP17.out _ibx _ib_y _ibx _ib_y _ix _iy _iv  _).mono ?_); rintro e w2 ⟨rfl, hn⟩)))
      try replace hb := hb.trans (hn.mono hb.size)
      refine hK.out _ _ (up_iff.2 hb) ?_
      clear hK K
      try clear hn
      refine wpS_doL rfl ?_
      intro K hK
      go_wp2_with ((first | (go_at_call 59; (with_reducible refine (SpRight_is x y v true HP4.out _ix _iy _iv  _).mono ?_); rintro e w2 ⟨rfl, hn⟩) | (go_at_call 69; (with_reducible refine (SegSide_is bx b_y bx b_y x y v s HP15.out _ibx _ib_y _ibx _ib_y _ix _iy _iv  _).mono ?_); rintro e w2 ⟨rfl, hn⟩) | (go_at_call 52; (with_reducible refine (cref_is bx b_y bx b_y HP12.out HP13.out _ibx _ib_y  _).mono ?_); rintro e w2 ⟨rfl, hn⟩) | (go_at_call 72; (with_reducible refine (rSide_is bx b_y bx b_y x y v s HP16.out _ibx _ib_y _ibx _ib_y bn1 ba1 bl1 bc1 bn2 ba2 bl2 bc2 bn3 ba3 bl3 bc3 _ (HB1.out.of hb) (HB2.out.of hb) (HB3.out.of hb)).mono ?_); rintro e w2 ⟨rfl, hn⟩) | (go_at_call 70; (with_reducible refine (SegHolds_is bx b_y bx b_y x y v h HP17.out _ibx _ib_y _ibx _ib_y _ix _iy _iv  _).mono ?_); rintro e w2 ⟨rfl, hn⟩)))
      try replace hb := hb.trans (hn.mono hb.size)
      refine hK.out _ _ (up_iff.2 hb) ?_
      clear hK K
      try clear hn
      iterate 10
        refine wpS_takeL rfl rfl ?_
        go_big_quiet_step (rfl)
        refine wpQuiet_nil ?_
      refine wpS_doL rfl ?_
      intro K hK
      go_wp2_with ((first | (go_at_call 59; (with_reducible refine (SpRight_is x y v true HP4.out _ix _iy _iv  _).mono ?_); rintro e w2 ⟨rfl, hn⟩) | (go_at_call 69; (with_reducible refine (SegSide_is bx b_y bx b_y x y v s HP15.out _ibx _ib_y _ibx _ib_y _ix _iy _iv  _).mono ?_); rintro e w2 ⟨rfl, hn⟩) | (go_at_call 52; (with_reducible refine (cref_is bx b_y bx b_y HP12.out HP13.out _ibx _ib_y  _).mono ?_); rintro e w2 ⟨rfl, hn⟩) | (go_at_call 72; (with_reducible refine (rSide_is bx b_y bx b_y x y v s HP16.out _ibx _ib_y _ibx _ib_y bn1 ba1 bl1 bc1 bn2 ba2 bl2 bc2 bn3 ba3 bl3 bc3 _ (HB1.out.of hb) (HB2.out.of hb) (HB3.out.of hb)).mono ?_); rintro e w2 ⟨rfl, hn⟩) | (go_at_call 70; (with_reducible refine (SegHolds_is bx b_y bx b_y x y v h HP17.out _ibx _ib_y _ibx _ib_y _ix _iy _iv  _).mono ?_); rintro e w2 ⟨rfl, hn⟩)))
      try replace hb := hb.trans (hn.mono hb.size)
      refine hK.out _ _ (up_iff.2 hb) ?_
      clear hK K
      try clear hn
      refine wpS_doL rfl ?_
      intro K hK
      go_wp2_with ((first | (go_at_call 59; (with_reducible refine (SpRight_is x y v true HP4.out _ix _iy _iv  _).mono ?_); rintro e w2 ⟨rfl, hn⟩) | (go_at_call 69; (with_reducible refine (SegSide_is bx b_y bx b_y x y v s HP15.out _ibx _ib_y _ibx _ib_y _ix _iy _iv  _).mono ?_); rintro e w2 ⟨rfl, hn⟩) | (go_at_call 52; (with_reducible refine (cref_is bx b_y bx b_y HP12.out HP13.out _ibx _ib_y  _).mono ?_); rintro e w2 ⟨rfl, hn⟩) | (go_at_call 72; (with_reducible refine (rSide_is bx b_y bx b_y x y v s HP16.out _ibx _ib_y _ibx _ib_y bn1 ba1 bl1 bc1 bn2 ba2 bl2 bc2 bn3 ba3 bl3 bc3 _ (HB1.out.of hb) (HB2.out.of hb) (HB3.out.of hb)).mono ?_); rintro e w2 ⟨rfl, hn⟩) | (go_at_call 70; (with_reducible refine (SegHolds_is bx b_y bx b_y x y v h HP17.out _ibx _ib_y _ibx _ib_y _ix _iy _iv  _).mono ?_); rintro e w2 ⟨rfl, hn⟩)))
      try replace hb := hb.trans (hn.mono hb.size)
      refine hK.out _ _ (up_iff.2 hb) ?_
      clear hK K
      try clear hn
      refine wpS_doL rfl ?_
      intro K hK
      go_wp2_with ((first | (go_at_call 59; (with_reducible refine (SpRight_is x y v true HP4.out _ix _iy _iv  _).mono ?_); rintro e w2 ⟨rfl, hn⟩) | (go_at_call 69; (with_reducible refine (SegSide_is bx b_y bx b_y x y v s HP15.out _ibx _ib_y _ibx _ib_y _ix _iy _iv  _).mono ?_); rintro e w2 ⟨rfl, hn⟩) | (go_at_call 52; (with_reducible refine (cref_is bx b_y bx b_y HP12.out HP13.out _ibx _ib_y  _).mono ?_); rintro e w2 ⟨rfl, hn⟩) | (go_at_call 72; (with_reducible refine (rSide_is bx b_y bx b_y x y v s HP16.out _ibx _ib_y _ibx _ib_y bn1 ba1 bl1 bc1 bn2 ba2 bl2 bc2 bn3 ba3 bl3 bc3 _ (HB1.out.of hb) (HB2.out.of hb) (HB3.out.of hb)).mono ?_); rintro e w2 ⟨rfl, hn⟩) | (go_at_call 70; (with_reducible refine (SegHolds_is bx b_y bx b_y x y v h HP17.out _ibx _ib_y _ibx _ib_y _ix _iy _iv  _).mono ?_); rintro e w2 ⟨rfl, hn⟩)))
      try replace hb := hb.trans (hn.mono hb.size)
      refine hK.out _ _ (up_iff.2 hb) ?_
      clear hK K
      try clear hn
      refine wpS_nil ?_
      simp only [List.drop_succ_cons, List.drop_zero]
      first | refine calls_w ?_ | refine name_world ?_ | refine list_world ?_ | refine post_world ?_
      intro U17 hU17
      first | (subst hU17; have u_ := U17; clear u_) | (rw [← hU17] at hb; clear hU17)
      clear c1_0 c1_1 c1_2 c1_3 l1 c2_0 c2_1 c2_2 c2_3 c2_4 c2_5 c2_6 c2_7 c2_8 c2_9 c2_10 c2_11 l2 c3_0 c3_1 c3_2 c3_3 c3_4 c3_5 l3 c4_0 c4_1 l4 c5_0 c5_1 l5
      have k1 := Kk1.out.of hb
      clear Kk1
      have k2 := Kk2.out.of hb
      clear Kk2
      have k3 := Kk3.out.of hb
      clear Kk3
      have k4 := Kk4.out.of hb
      clear Kk4
      have k5 := Kk5.out.of hb
      clear Kk5
      replace HB1 := Lib.hid (HB1.out.of hb)
      replace HB2 := Lib.hid (HB2.out.of hb)
      replace HB3 := Lib.hid (HB3.out.of hb)
      replace hb0 := hb0.trans (hb.mono hb0.size)
      clear hb
      go_wp2_with fail
      refine (rHolds_is bx b_y bx b_y x y v h HP18.out _ibx _ib_y _ibx _ib_y bn1 ba1 bl1 bc1 bn2 ba2 bl2 bc2 bn3 ba3 bl3 bc3 _ HB1.out HB2.out HB3.out).mono ?_
      rintro e U18 ⟨rfl, hn⟩
      clear HB1 HB2 HB3
      clear k1 k2 k3 k4 k5
      replace hb0 := hb0.trans (hn.mono hb0.size)
      clear hn
      go_wp2_with fail
      refine (cawake_any _).mono ?_
      rintro e U19 ⟨rfl, hn⟩
      replace hb0 := hb0.trans (hn.mono hb0.size)
      clear hn
      go_wp2
      first | go_ret | go_ret2
      exact ⟨by first | rfl | (simp; done) | (simp; assumption), hb0⟩

set_option maxRecDepth 100000 in
set_option maxHeartbeats 4000000 in

theorem CSides_4 (ax : Int) (ay : Int) (bx : Int) (b_y : Int) (x : Int) (y : Int) (v : Int) (s : Int) (h : Bool)   (hP0 : cspx x y v = x) (hP1 : cspy x y v = y) (hP2 : cspv x y v = v) (hP3 : crR ax ay bx b_y = true) (hP4 : spR x y v = true) (hP5 : rspR x y v = true) (hP6 : lwx ax ay bx b_y = bx) (hP7 : lwy ax ay bx b_y = b_y) (hP8 : hgx ax ay bx b_y = ax) (hP9 : hgy ax ay bx b_y = ay) (hP10 : crfx bx b_y = bx) (hP11 : crfy bx b_y = b_y) (hP12 : crfx ax ay = ax) (hP13 : crfy ax ay = ay) (hP14 : ahd ax ay bx b_y = false) (hP15 : Sde ax ay bx b_y x y v = s) (hP16 : rsde bx b_y ax ay x y v = s) (hP17 : hldB ax ay bx b_y x y v = h) (hP18 : rhld ax ay bx b_y x y v = h) (_iax : In64 ax) (_iay : In64 ay) (_ibx : In64 bx) (_ib_y : In64 b_y) (_ix : InI x) (_iy : InI y) (_iv : InI v)  (w : World)  :
    Calls Try.prog 14 #[.agg #[.int .i64 ax, .int .i64 ay, .int .i64 bx, .int .i64 b_y], .agg #[.int .u64 (wd0 x), .int .u64 (wd1 x), .int .u64 (wd2 x), .int .u64 (wd3 x), .int .u64 (wd0 y), .int .u64 (wd1 y), .int .u64 (wd2 y), .int .u64 (wd3 y), .int .u64 (wd0 v), .int .u64 (wd1 v), .int .u64 (wd2 v), .int .u64 (wd3 v)]] w fun e w' => e = .returned (.bool true) ∧ Below w.heap.size w w' := by

  have HP0 := Lib.hid hP0
  clear hP0
  have HP1 := Lib.hid hP1
  clear hP1
  have HP2 := Lib.hid hP2
  clear hP2
  have HP3 := Lib.hid hP3
  clear hP3
  have HP4 := Lib.hid hP4
  clear hP4
  have HP5 := Lib.hid hP5
  clear hP5
  have HP6 := Lib.hid hP6
  clear hP6
  have HP7 := Lib.hid hP7
  clear hP7
  have HP8 := Lib.hid hP8
  clear hP8
  have HP9 := Lib.hid hP9
  clear hP9
  have HP10 := Lib.hid hP10
  clear hP10
  have HP11 := Lib.hid hP11
  clear hP11
  have HP12 := Lib.hid hP12
  clear hP12
  have HP13 := Lib.hid hP13
  clear hP13
  have HP14 := Lib.hid hP14
  clear hP14
  have HP15 := Lib.hid hP15
  clear hP15
  have HP16 := Lib.hid hP16
  clear hP16
  have HP17 := Lib.hid hP17
  clear hP17
  have HP18 := Lib.hid hP18
  clear hP18
  go_enter Try.func14, Try.ntmps14
  go_wp2_with fail
  first | refine calls_w ?_ | refine name_world ?_ | refine list_world ?_ | refine post_world ?_
  intro V1 hV1
  have hn : Below w.heap.size w V1 := by rw [hV1]; exact below_a2 _ _ _
  have nhb0 := hn
  have k1 : Blk V1 w.heap.size #[.int .i64 ax, .int .i64 ay, .int .i64 bx, .int .i64 b_y] 50 := by rw [hV1]; exact ((Blk.new _ _ _).alloc _)
  have k2 : Blk V1 (w.heap.size + 1) #[.int .u64 (wd0 x), .int .u64 (wd1 x), .int .u64 (wd2 x), .int .u64 (wd3 x), .int .u64 (wd0 y), .int .u64 (wd1 y), .int .u64 (wd2 y), .int .u64 (wd3 y), .int .u64 (wd0 v), .int .u64 (wd1 v), .int .u64 (wd2 v), .int .u64 (wd3 v)] 67 := by rw [hV1]; exact (Blk.new1 _ _ _ _)
  clear hV1
  have hb0 := nhb0
  clear nhb0
  refine (cspot_is x y v x y v HP0.out HP1.out HP2.out _ix _iy _iv  _).mono ?_
  rintro e U2 ⟨bn1, ba1, bl1, bc1, bn2, ba2, bl2, bc2, bn3, ba3, bl3, bc3, rfl, hbm1, hbm2, hbm3, hn⟩
  replace k1 := k1.of hn
  replace k2 := k2.of hn
  replace hb0 := hb0.trans (hn.mono hb0.size)
  clear hn
  have HB1 := Lib.hid hbm1
  have HB2 := Lib.hid hbm2
  have HB3 := Lib.hid hbm3
  clear hbm1 hbm2 hbm3
  have c1_0 : U2.cell? ⟨w.heap.size, 0, none⟩ = some (.int .i64 ax) := k1.cell 0
  have c1_1 : U2.cell? ⟨w.heap.size, 1, none⟩ = some (.int .i64 ay) := k1.cell 1
  have c1_2 : U2.cell? ⟨w.heap.size, 2, none⟩ = some (.int .i64 bx) := k1.cell 2
  have c1_3 : U2.cell? ⟨w.heap.size, 3, none⟩ = some (.int .i64 b_y) := k1.cell 3
  have l1 := k1.lt
  go_wp2_with fail
  clear c1_0 c1_1 c1_2 c1_3 l1
  first | refine calls_w ?_ | refine name_world ?_ | refine list_world ?_ | refine post_world ?_
  intro V3 hV3
  have D1 := Lib.hid k1.lt
  have D2 := Lib.hid k2.lt
  have D3 := Lib.hid hb0.size
  have hn : Below U2.heap.size U2 V3 := by rw [hV3]; exact below_a1 _ _
  have nk1 := k1.of hn
  have nk2 := k2.of hn
  replace HB1 := Lib.hid (HB1.out.of hn)
  replace HB2 := Lib.hid (HB2.out.of hn)
  replace HB3 := Lib.hid (HB3.out.of hn)
  have nhb0 := hb0.trans (hn.mono hb0.size)
  clear hn
  have k3 : Blk V3 U2.heap.size #[.bool bn1, .slice ba1 bl1 bc1, .bool bn2, .slice ba2 bl2 bc2, .bool bn3, .slice ba3 bl3 bc3] 72 := by rw [hV3]; exact (Blk.new _ _ _)
  clear k1 k2
  clear hb0
  clear hV3
  have k1 := nk1
  clear nk1
  have k2 := nk2
  clear nk2
  have hb0 := nhb0
  clear nhb0
  refine (cright_is ax ay bx b_y true HP3.out _iax _iay _ibx _ib_y  _).mono ?_
  rintro e U4 ⟨rfl, hn⟩
  replace k1 := k1.of hn
  replace k2 := k2.of hn
  replace k3 := k3.of hn
  replace HB1 := Lib.hid (HB1.out.of hn)
  replace HB2 := Lib.hid (HB2.out.of hn)
  replace HB3 := Lib.hid (HB3.out.of hn)
  replace hb0 := hb0.trans (hn.mono hb0.size)
  clear hn
  have c3_0 : U4.cell? ⟨U2.heap.size, 0, none⟩ = some (.bool bn1) := k3.cell 0
  have c3_1 : U4.cell? ⟨U2.heap.size, 1, none⟩ = some (.slice ba1 bl1 bc1) := k3.cell 1
  have c3_2 : U4.cell? ⟨U2.heap.size, 2, none⟩ = some (.bool bn2) := k3.cell 2
  have c3_3 : U4.cell? ⟨U2.heap.size, 3, none⟩ = some (.slice ba2 bl2 bc2) := k3.cell 3
  have c3_4 : U4.cell? ⟨U2.heap.size, 4, none⟩ = some (.bool bn3) := k3.cell 4
  have c3_5 : U4.cell? ⟨U2.heap.size, 5, none⟩ = some (.slice ba3 bl3 bc3) := k3.cell 5
  have l3 := k3.lt
  go_wp2_with fail
  clear c3_0 c3_1 c3_2 c3_3 c3_4 c3_5 l3
  refine (rSpR_is x y v true HP5.out  bn1 ba1 bl1 bc1 bn2 ba2 bl2 bc2 bn3 ba3 bl3 bc3 _ HB1.out HB2.out HB3.out).mono ?_
  rintro e U5 ⟨rfl, hn⟩
  replace k1 := k1.of hn
  replace k2 := k2.of hn
  replace k3 := k3.of hn
  replace HB1 := Lib.hid (HB1.out.of hn)
  replace HB2 := Lib.hid (HB2.out.of hn)
  replace HB3 := Lib.hid (HB3.out.of hn)
  replace hb0 := hb0.trans (hn.mono hb0.size)
  clear hn
  have c1_0 : U5.cell? ⟨w.heap.size, 0, none⟩ = some (.int .i64 ax) := k1.cell 0
  have c1_1 : U5.cell? ⟨w.heap.size, 1, none⟩ = some (.int .i64 ay) := k1.cell 1
  have c1_2 : U5.cell? ⟨w.heap.size, 2, none⟩ = some (.int .i64 bx) := k1.cell 2
  have c1_3 : U5.cell? ⟨w.heap.size, 3, none⟩ = some (.int .i64 b_y) := k1.cell 3
  have l1 := k1.lt
  go_wp2_with fail
  clear c1_0 c1_1 c1_2 c1_3 l1
  refine (Ends_is ax ay bx b_y bx b_y ax ay HP6.out HP7.out HP8.out HP9.out _iax _iay _ibx _ib_y  _).mono ?_
  rintro e U6 ⟨rfl, hn⟩
  replace k1 := k1.of hn
  replace k2 := k2.of hn
  replace k3 := k3.of hn
  replace HB1 := Lib.hid (HB1.out.of hn)
  replace HB2 := Lib.hid (HB2.out.of hn)
  replace HB3 := Lib.hid (HB3.out.of hn)
  replace hb0 := hb0.trans (hn.mono hb0.size)
  clear hn
  go_wp2_with fail
  first | refine calls_w ?_ | refine name_world ?_ | refine list_world ?_ | refine post_world ?_
  intro V7 hV7
  have D4 := Lib.hid k1.lt
  have D5 := Lib.hid k2.lt
  have D6 := Lib.hid k3.lt
  have D7 := Lib.hid hb0.size
  have hn : Below U6.heap.size U6 V7 := by rw [hV7]; exact below_a2 _ _ _
  have nk1 := k1.of hn
  have nk2 := k2.of hn
  have nk3 := k3.of hn
  replace HB1 := Lib.hid (HB1.out.of hn)
  replace HB2 := Lib.hid (HB2.out.of hn)
  replace HB3 := Lib.hid (HB3.out.of hn)
  have nhb0 := hb0.trans (hn.mono hb0.size)
  clear hn
  have k4 : Blk V7 U6.heap.size #[.int .i64 bx, .int .i64 b_y] 24 := by rw [hV7]; exact ((Blk.new _ _ _).alloc _)
  have k5 : Blk V7 (U6.heap.size + 1) #[.int .i64 ax, .int .i64 ay] 24 := by rw [hV7]; exact (Blk.new1 _ _ _ _)
  clear k1 k2 k3
  clear hb0
  clear hV7
  have k1 := nk1
  clear nk1
  have k2 := nk2
  clear nk2
  have k3 := nk3
  clear nk3
  have hb0 := nhb0
  clear nhb0
  obtain ⟨z1, hz1⟩ : ∃ o_o : Bool, (bx == ax) = o_o := ⟨_, rfl⟩
  cases z1
  · have nz1 : ¬ bx = ax := by simpa using hz1
    have nz1_ : ¬ ax = bx := fun e_ => nz1 e_.symm
    have c1_0 : V7.cell? ⟨w.heap.size, 0, none⟩ = some (.int .i64 ax) := k1.cell 0
    have c1_1 : V7.cell? ⟨w.heap.size, 1, none⟩ = some (.int .i64 ay) := k1.cell 1
    have c1_2 : V7.cell? ⟨w.heap.size, 2, none⟩ = some (.int .i64 bx) := k1.cell 2
    have c1_3 : V7.cell? ⟨w.heap.size, 3, none⟩ = some (.int .i64 b_y) := k1.cell 3
    have l1 := k1.lt
    have c4_0 : V7.cell? ⟨U6.heap.size, 0, none⟩ = some (.int .i64 bx) := k4.cell 0
    have c4_1 : V7.cell? ⟨U6.heap.size, 1, none⟩ = some (.int .i64 b_y) := k4.cell 1
    have l4 := k4.lt
    have c5_0 : V7.cell? ⟨(U6.heap.size + 1), 0, none⟩ = some (.int .i64 ax) := k5.cell 0
    have c5_1 : V7.cell? ⟨(U6.heap.size + 1), 1, none⟩ = some (.int .i64 ay) := k5.cell 1
    have l5 := k5.lt
    have Kk1 := Lib.hid k1
    clear k1
    have Kk2 := Lib.hid k2
    clear k2
    have Kk3 := Lib.hid k3
    clear k3
    have Kk4 := Lib.hid k4
    clear k4
    have Kk5 := Lib.hid k5
    clear k5
    refine wp_region_up V7.heap.size 38 [(true, 0), (true, 2), (false, 1), (false, 3), (false, 4), (true, 5), (true, 6), (true, 7), (true, 8), (true, 9), (true, 10), (true, 11), (true, 12), (true, 13), (true, 14), (true, 15), (true, 16), (true, 17), (true, 18), (true, 19), (true, 20), (true, 21), (true, 22), (true, 23), (true, 24), (true, 25), (true, 26), (true, 27), (true, 28), (true, 29), (true, 30), (true, 31), (true, 32), (true, 33), (true, 34), (true, 35), (true, 36), (true, 37)] (by kernel_rfl) (by kernel_rfl) (fun _ _ d _ _ h => by cases d <;> exact h) ?_
    have hb : Below V7.heap.size V7 V7.drew := (Below.refl _ _).drew
    iterate 2
      refine wpS_takeL rfl rfl ?_
      go_big_quiet_step (rfl)
      refine wpQuiet_nil ?_
    refine wpS_doL rfl ?_
    intro K hK
    go_wp2_with ((first | (go_at_call 52; (with_reducible refine (cref_is ax ay ax ay HP12.out HP13.out _iax _iay  _).mono ?_); rintro e w2 ⟨rfl, hn⟩) | (go_at_call 52; (with_reducible refine (cref_is bx b_y bx b_y HP10.out HP11.out _ibx _ib_y  _).mono ?_); rintro e w2 ⟨rfl, hn⟩) | (go_at_call 71; (with_reducible refine (rAhead_v ax ay bx b_y false HP14.out _).mono ?_); rintro e w2 ⟨rfl, hn⟩)))
    replace hb := hb.trans (hn.mono hb.size)
    refine hK.out _ _ (up_iff.2 hb) ?_
    clear hK K
    clear hn
    refine wpS_doL rfl ?_
    intro K hK
    go_wp2_with ((first | (go_at_call 52; (with_reducible refine (cref_is ax ay ax ay HP12.out HP13.out _iax _iay  _).mono ?_); rintro e w2 ⟨rfl, hn⟩) | (go_at_call 52; (with_reducible refine (cref_is bx b_y bx b_y HP10.out HP11.out _ibx _ib_y  _).mono ?_); rintro e w2 ⟨rfl, hn⟩) | (go_at_call 71; (with_reducible refine (rAhead_v ax ay bx b_y false HP14.out _).mono ?_); rintro e w2 ⟨rfl, hn⟩)))
    replace hb := hb.trans (hn.mono hb.size)
    refine hK.out _ _ (up_iff.2 hb) ?_
    clear hK K
    clear hn
    refine wpS_doL rfl ?_
    intro K hK
    go_wp2_with ((first | (go_at_call 52; (with_reducible refine (cref_is ax ay ax ay HP12.out HP13.out _iax _iay  _).mono ?_); rintro e w2 ⟨rfl, hn⟩) | (go_at_call 52; (with_reducible refine (cref_is bx b_y bx b_y HP10.out HP11.out _ibx _ib_y  _).mono ?_); rintro e w2 ⟨rfl, hn⟩) | (go_at_call 71; (with_reducible refine (rAhead_v ax ay bx b_y false HP14.out _).mono ?_); rintro e w2 ⟨rfl, hn⟩)))
    replace hb := hb.trans (hn.mono hb.size)
    refine hK.out _ _ (up_iff.2 hb) ?_
    clear hK K
    clear hn
    iterate 33
      refine wpS_takeL rfl rfl ?_
      go_big_quiet_step (rfl)
      refine wpQuiet_nil ?_
    refine wpS_nil ?_
    simp only [List.drop_succ_cons, List.drop_zero]
    first | refine calls_w ?_ | refine name_world ?_ | refine list_world ?_ | refine post_world ?_
    intro U8 hU8
    first | (subst hU8; have u_ := U8; clear u_) | (rw [← hU8] at hb; clear hU8)
    clear c1_0 c1_1 c1_2 c1_3 l1 c4_0 c4_1 l4 c5_0 c5_1 l5
    have k1 := Kk1.out.of hb
    clear Kk1
    have k2 := Kk2.out.of hb
    clear Kk2
    have k3 := Kk3.out.of hb
    clear Kk3
    have k4 := Kk4.out.of hb
    clear Kk4
    have k5 := Kk5.out.of hb
    clear Kk5
    replace HB1 := Lib.hid (HB1.out.of hb)
    replace HB2 := Lib.hid (HB2.out.of hb)
    replace HB3 := Lib.hid (HB3.out.of hb)
    replace hb0 := hb0.trans (hb.mono hb0.size)
    clear hb
    go_wp2_with fail
    have c1_0 : U8.cell? ⟨w.heap.size, 0, none⟩ = some (.int .i64 ax) := k1.cell 0
    have c1_1 : U8.cell? ⟨w.heap.size, 1, none⟩ = some (.int .i64 ay) := k1.cell 1
    have c1_2 : U8.cell? ⟨w.heap.size, 2, none⟩ = some (.int .i64 bx) := k1.cell 2
    have c1_3 : U8.cell? ⟨w.heap.size, 3, none⟩ = some (.int .i64 b_y) := k1.cell 3
    have l1 := k1.lt
    have c2_0 : U8.cell? ⟨(w.heap.size + 1), 0, none⟩ = some (.int .u64 (wd0 x)) := k2.cell 0
    have c2_1 : U8.cell? ⟨(w.heap.size + 1), 1, none⟩ = some (.int .u64 (wd1 x)) := k2.cell 1
    have c2_2 : U8.cell? ⟨(w.heap.size + 1), 2, none⟩ = some (.int .u64 (wd2 x)) := k2.cell 2
    have c2_3 : U8.cell? ⟨(w.heap.size + 1), 3, none⟩ = some (.int .u64 (wd3 x)) := k2.cell 3
    have c2_4 : U8.cell? ⟨(w.heap.size + 1), 4, none⟩ = some (.int .u64 (wd0 y)) := k2.cell 4
    have c2_5 : U8.cell? ⟨(w.heap.size + 1), 5, none⟩ = some (.int .u64 (wd1 y)) := k2.cell 5
    have c2_6 : U8.cell? ⟨(w.heap.size + 1), 6, none⟩ = some (.int .u64 (wd2 y)) := k2.cell 6
    have c2_7 : U8.cell? ⟨(w.heap.size + 1), 7, none⟩ = some (.int .u64 (wd3 y)) := k2.cell 7
    have c2_8 : U8.cell? ⟨(w.heap.size + 1), 8, none⟩ = some (.int .u64 (wd0 v)) := k2.cell 8
    have c2_9 : U8.cell? ⟨(w.heap.size + 1), 9, none⟩ = some (.int .u64 (wd1 v)) := k2.cell 9
    have c2_10 : U8.cell? ⟨(w.heap.size + 1), 10, none⟩ = some (.int .u64 (wd2 v)) := k2.cell 10
    have c2_11 : U8.cell? ⟨(w.heap.size + 1), 11, none⟩ = some (.int .u64 (wd3 v)) := k2.cell 11
    have l2 := k2.lt
    have c3_0 : U8.cell? ⟨U2.heap.size, 0, none⟩ = some (.bool bn1) := k3.cell 0
    have c3_1 : U8.cell? ⟨U2.heap.size, 1, none⟩ = some (.slice ba1 bl1 bc1) := k3.cell 1
    have c3_2 : U8.cell? ⟨U2.heap.size, 2, none⟩ = some (.bool bn2) := k3.cell 2
    have c3_3 : U8.cell? ⟨U2.heap.size, 3, none⟩ = some (.slice ba2 bl2 bc2) := k3.cell 3
    have c3_4 : U8.cell? ⟨U2.heap.size, 4, none⟩ = some (.bool bn3) := k3.cell 4
    have c3_5 : U8.cell? ⟨U2.heap.size, 5, none⟩ = some (.slice ba3 bl3 bc3) := k3.cell 5
    have l3 := k3.lt
    have c4_0 : U8.cell? ⟨U6.heap.size, 0, none⟩ = some (.int .i64 bx) := k4.cell 0
    have c4_1 : U8.cell? ⟨U6.heap.size, 1, none⟩ = some (.int .i64 b_y) := k4.cell 1
    have l4 := k4.lt
    have c5_0 : U8.cell? ⟨(U6.heap.size + 1), 0, none⟩ = some (.int .i64 ax) := k5.cell 0
    have c5_1 : U8.cell? ⟨(U6.heap.size + 1), 1, none⟩ = some (.int .i64 ay) := k5.cell 1
    have l5 := k5.lt
    have Kk1 := Lib.hid k1
    clear k1
    have Kk2 := Lib.hid k2
    clear k2
    have Kk3 := Lib.hid k3
    clear k3
    have Kk4 := Lib.hid k4
    clear k4
    have Kk5 := Lib.hid k5
    clear k5
    refine wp_region_up U8.heap.size 25 [(true, 0), (false, 1), (true, 2), (true, 3), (true, 4), (true, 6), (true, 8), (true, 10), (false, 5), (false, 7), (false, 9), (false, 11), (true, 12), (true, 13), (true, 14), (true, 15), (true, 16), (true, 18), (true, 19), (true, 21), (true, 22), (true, 24), (false, 17), (false, 20), (false, 23)] (by kernel_rfl) (by kernel_rfl) (fun _ _ d _ _ h => by cases d <;> exact h) ?_
    have hb : Below U8.heap.size U8 U8.drew := (Below.refl _ _).drew
    refine wpS_takeL rfl rfl ?_
    go_big_quiet_step (rfl)
    refine wpQuiet_nil ?_
    refine wpS_doL rfl ?_
    intro K hK
    go_wp2_with ((first | (go_at_call 59; (with_reducible refine (SpRight_is x y v true HP4.out _ix _iy _iv  _).mono ?_); rintro e w2 ⟨rfl, hn⟩) | (go_at_call 69; (with_reducible refine (SegSide_is ax ay bx b_y x y v s HP15.out _iax _iay _ibx _ib_y _ix _iy _iv  _).mono ?_); rintro e w2 ⟨rfl, hn⟩) | (go_at_call 52; (with_reducible refine (cref_is bx b_y bx b_y HP10.out HP11.out _ibx _ib_y  _).mono ?_); rintro e w2 ⟨rfl, hn⟩) | (go_at_call 52; (with_reducible refine (cref_is ax ay ax ay HP12.out HP13.out _iax _iay  _).mono ?_); rintro e w2 ⟨rfl, hn⟩) | (go_at_call 72; (with_reducible refine (rSide_is bx b_y ax ay x y v s HP16.out _ibx _ib_y _iax _iay bn1 ba1 bl1 bc1 bn2 ba2 bl2 bc2 bn3 ba3 bl3 bc3 _ (HB1.out.of hb) (HB2.out.of hb) (HB3.out.of hb)).mono ?_); rintro e w2 ⟨rfl, hn⟩) | (go_at_call 70; (with_reducible refine (SegHolds_is ax ay bx b_y x y v h HP17.out _iax _iay _ibx _ib_y _ix _iy _iv  _).mono ?_); rintro e w2 ⟨rfl, hn⟩)))
    replace hb := hb.trans (hn.mono hb.size)
    refine hK.out _ _ (up_iff.2 hb) ?_
    clear hK K
    clear hn
    iterate 6
      refine wpS_takeL rfl rfl ?_
      go_big_quiet_step (rfl)
      refine wpQuiet_nil ?_
    refine wpS_doL rfl ?_
    intro K hK
    go_wp2_with ((first | (go_at_call 59; (with_reducible refine (SpRight_is x y v true HP4.out _ix _iy _iv  _).mono ?_); rintro e w2 ⟨rfl, hn⟩) | (go_at_call 69; (with_reducible refine (SegSide_is ax ay bx b_y x y v s HP15.out _iax _iay _ibx _ib_y _ix _iy _iv  _).mono ?_); rintro e w2 ⟨rfl, hn⟩) | (go_at_call 52; (with_reducible refine (cref_is bx b_y bx b_y HP10.out HP11.out _ibx _ib_y  _).mono ?_); rintro e w2 ⟨rfl, hn⟩) | (go_at_call 52; (with_reducible refine (cref_is ax ay ax ay HP12.out HP13.out _iax _iay  _).mono ?_); rintro e w2 ⟨rfl, hn⟩) | (go_at_call 72; (with_reducible refine (rSide_is bx b_y ax ay x y v s HP16.out _ibx _ib_y _iax _iay bn1 ba1 bl1 bc1 bn2 ba2 bl2 bc2 bn3 ba3 bl3 bc3 _ (HB1.out.of hb) (HB2.out.of hb) (HB3.out.of hb)).mono ?_); rintro e w2 ⟨rfl, hn⟩) | (go_at_call 70; (with_reducible refine (SegHolds_is ax ay bx b_y x y v h HP17.out _iax _iay _ibx _ib_y _ix _iy _iv  _).mono ?_); rintro e w2 ⟨rfl, hn⟩)))
    try replace hb := hb.trans (hn.mono hb.size)
    refine hK.out _ _ (up_iff.2 hb) ?_
    clear hK K
    try clear hn
    refine wpS_doL rfl ?_
    intro K hK
    go_wp2_with ((first | (go_at_call 59; (with_reducible refine (SpRight_is x y v true HP4.out _ix _iy _iv  _).mono ?_); rintro e w2 ⟨rfl, hn⟩) | (go_at_call 69; (with_reducible refine (SegSide_is ax ay bx b_y x y v s HP15.out _iax _iay _ibx _ib_y _ix _iy _iv  _).mono ?_); rintro e w2 ⟨rfl, hn⟩) | (go_at_call 52; (with_reducible refine (cref_is bx b_y bx b_y HP10.out HP11.out _ibx _ib_y  _).mono ?_); rintro e w2 ⟨rfl, hn⟩) | (go_at_call 52; (with_reducible refine (cref_is ax ay ax ay HP12.out HP13.out _iax _iay  _).mono ?_); rintro e w2 ⟨rfl, hn⟩) | (go_at_call 72; (with_reducible refine (rSide_is bx b_y ax ay x y v s HP16.out _ibx _ib_y _iax _iay bn1 ba1 bl1 bc1 bn2 ba2 bl2 bc2 bn3 ba3 bl3 bc3 _ (HB1.out.of hb) (HB2.out.of hb) (HB3.out.of hb)).mono ?_); rintro e w2 ⟨rfl, hn⟩) | (go_at_call 70; (with_reducible refine (SegHolds_is ax ay bx b_y x y v h HP17.out _iax _iay _ibx _ib_y _ix _iy _iv  _).mono ?_); rintro e w2 ⟨rfl, hn⟩)))
    try replace hb := hb.trans (hn.mono hb.size)
    refine hK.out _ _ (up_iff.2 hb) ?_
    clear hK K
    try clear hn
    refine wpS_doL rfl ?_
    intro K hK
    go_wp2_with ((first | (go_at_call 59; (with_reducible refine (SpRight_is x y v true HP4.out _ix _iy _iv  _).mono ?_); rintro e w2 ⟨rfl, hn⟩) | (go_at_call 69; (with_reducible refine (SegSide_is ax ay bx b_y x y v s HP15.out _iax _iay _ibx _ib_y _ix _iy _iv  _).mono ?_); rintro e w2 ⟨rfl, hn⟩) | (go_at_call 52; (with_reducible refine (cref_is bx b_y bx b_y HP10.out HP11.out _ibx _ib_y  _).mono ?_); rintro e w2 ⟨rfl, hn⟩) | (go_at_call 52; (with_reducible refine (cref_is ax ay ax ay HP12.out HP13.out _iax _iay  _).mono ?_); rintro e w2 ⟨rfl, hn⟩) | (go_at_call 72; (with_reducible refine (rSide_is bx b_y ax ay x y v s HP16.out _ibx _ib_y _iax _iay bn1 ba1 bl1 bc1 bn2 ba2 bl2 bc2 bn3 ba3 bl3 bc3 _ (HB1.out.of hb) (HB2.out.of hb) (HB3.out.of hb)).mono ?_); rintro e w2 ⟨rfl, hn⟩) | (go_at_call 70; (with_reducible refine (SegHolds_is ax ay bx b_y x y v h HP17.out _iax _iay _ibx _ib_y _ix _iy _iv  _).mono ?_); rintro e w2 ⟨rfl, hn⟩)))
    try replace hb := hb.trans (hn.mono hb.size)
    refine hK.out _ _ (up_iff.2 hb) ?_
    clear hK K
    try clear hn
    refine wpS_doL rfl ?_
    intro K hK
    go_wp2_with ((first | (go_at_call 59; (with_reducible refine (SpRight_is x y v true HP4.out _ix _iy _iv  _).mono ?_); rintro e w2 ⟨rfl, hn⟩) | (go_at_call 69; (with_reducible refine (SegSide_is ax ay bx b_y x y v s HP15.out _iax _iay _ibx _ib_y _ix _iy _iv  _).mono ?_); rintro e w2 ⟨rfl, hn⟩) | (go_at_call 52; (with_reducible refine (cref_is bx b_y bx b_y HP10.out HP11.out _ibx _ib_y  _).mono ?_); rintro e w2 ⟨rfl, hn⟩) | (go_at_call 52; (with_reducible refine (cref_is ax ay ax ay HP12.out HP13.out _iax _iay  _).mono ?_); rintro e w2 ⟨rfl, hn⟩) | (go_at_call 72; (with_reducible refine (rSide_is bx b_y ax ay x y v s HP16.out _ibx _ib_y _iax _iay bn1 ba1 bl1 bc1 bn2 ba2 bl2 bc2 bn3 ba3 bl3 bc3 _ (HB1.out.of hb) (HB2.out.of hb) (HB3.out.of hb)).mono ?_); rintro e w2 ⟨rfl, hn⟩) | (go_at_call 70; (with_reducible refine (SegHolds_is ax ay bx b_y x y v h HP17.out _iax _iay _ibx _ib_y _ix _iy _iv  _).mono ?_); rintro e w2 ⟨rfl, hn⟩)))
    try replace hb := hb.trans (hn.mono hb.size)
    refine hK.out _ _ (up_iff.2 hb) ?_
    clear hK K
    try clear hn
    iterate 10
      refine wpS_takeL rfl rfl ?_
      go_big_quiet_step (rfl)
      refine wpQuiet_nil ?_
    refine wpS_doL rfl ?_
    intro K hK
    go_wp2_with ((first | (go_at_call 59; (with_reducible refine (SpRight_is x y v true HP4.out _ix _iy _iv  _).mono ?_); rintro e w2 ⟨rfl, hn⟩) | (go_at_call 69; (with_reducible refine (SegSide_is ax ay bx b_y x y v s HP15.out _iax _iay _ibx _ib_y _ix _iy _iv  _).mono ?_); rintro e w2 ⟨rfl, hn⟩) | (go_at_call 52; (with_reducible refine (cref_is bx b_y bx b_y HP10.out HP11.out _ibx _ib_y  _).mono ?_); rintro e w2 ⟨rfl, hn⟩) | (go_at_call 52; (with_reducible refine (cref_is ax ay ax ay HP12.out HP13.out _iax _iay  _).mono ?_); rintro e w2 ⟨rfl, hn⟩) | (go_at_call 72; (with_reducible refine (rSide_is bx b_y ax ay x y v s HP16.out _ibx _ib_y _iax _iay bn1 ba1 bl1 bc1 bn2 ba2 bl2 bc2 bn3 ba3 bl3 bc3 _ (HB1.out.of hb) (HB2.out.of hb) (HB3.out.of hb)).mono ?_); rintro e w2 ⟨rfl, hn⟩) | (go_at_call 70; (with_reducible refine (SegHolds_is ax ay bx b_y x y v h HP17.out _iax _iay _ibx _ib_y _ix _iy _iv  _).mono ?_); rintro e w2 ⟨rfl, hn⟩)))
    try replace hb := hb.trans (hn.mono hb.size)
    refine hK.out _ _ (up_iff.2 hb) ?_
    clear hK K
    try clear hn
    refine wpS_doL rfl ?_
    intro K hK
    go_wp2_with ((first | (go_at_call 59; (with_reducible refine (SpRight_is x y v true HP4.out _ix _iy _iv  _).mono ?_); rintro e w2 ⟨rfl, hn⟩) | (go_at_call 69; (with_reducible refine (SegSide_is ax ay bx b_y x y v s HP15.out _iax _iay _ibx _ib_y _ix _iy _iv  _).mono ?_); rintro e w2 ⟨rfl, hn⟩) | (go_at_call 52; (with_reducible refine (cref_is bx b_y bx b_y HP10.out HP11.out _ibx _ib_y  _).mono ?_); rintro e w2 ⟨rfl, hn⟩) | (go_at_call 52; (with_reducible refine (cref_is ax ay ax ay HP12.out HP13.out _iax _iay  _).mono ?_); rintro e w2 ⟨rfl, hn⟩) | (go_at_call 72; (with_reducible refine (rSide_is bx b_y ax ay x y v s HP16.out _ibx _ib_y _iax _iay bn1 ba1 bl1 bc1 bn2 ba2 bl2 bc2 bn3 ba3 bl3 bc3 _ (HB1.out.of hb) (HB2.out.of hb) (HB3.out.of hb)).mono ?_); rintro e w2 ⟨rfl, hn⟩) | (go_at_call 70; (with_reducible refine (SegHolds_is ax ay bx b_y x y v h HP17.out _iax _iay _ibx _ib_y _ix _iy _iv  _).mono ?_); rintro e w2 ⟨rfl, hn⟩)))
    try replace hb := hb.trans (hn.mono hb.size)
    refine hK.out _ _ (up_iff.2 hb) ?_
    clear hK K
    try clear hn
    refine wpS_doL rfl ?_
    intro K hK
    go_wp2_with ((first | (go_at_call 59; (with_reducible refine (SpRight_is x y v true HP4.out _ix _iy _iv  _).mono ?_); rintro e w2 ⟨rfl, hn⟩) | (go_at_call 69; (with_reducible refine (SegSide_is ax ay bx b_y x y v s HP15.out _iax _iay _ibx _ib_y _ix _iy _iv  _).mono ?_); rintro e w2 ⟨rfl, hn⟩) | (go_at_call 52; (with_reducible refine (cref_is bx b_y bx b_y HP10.out HP11.out _ibx _ib_y  _).mono ?_); rintro e w2 ⟨rfl, hn⟩) | (go_at_call 52; (with_reducible refine (cref_is ax ay ax ay HP12.out HP13.out _iax _iay  _).mono ?_); rintro e w2 ⟨rfl, hn⟩) | (go_at_call 72; (with_reducible refine (rSide_is bx b_y ax ay x y v s HP16.out _ibx _ib_y _iax _iay bn1 ba1 bl1 bc1 bn2 ba2 bl2 bc2 bn3 ba3 bl3 bc3 _ (HB1.out.of hb) (HB2.out.of hb) (HB3.out.of hb)).mono ?_); rintro e w2 ⟨rfl, hn⟩) | (go_at_call 70; (with_reducible refine (SegHolds_is ax ay bx b_y x y v h HP17.out _iax _iay _ibx _ib_y _ix _iy _iv  _).mono ?_); rintro e w2 ⟨rfl, hn⟩)))
    try replace hb := hb.trans (hn.mono hb.size)
    refine hK.out _ _ (up_iff.2 hb) ?_
    clear hK K
    try clear hn
    refine wpS_nil ?_
    simp only [List.drop_succ_cons, List.drop_zero]
    first | refine calls_w ?_ | refine name_world ?_ | refine list_world ?_ | refine post_world ?_
    intro U9 hU9
    first | (subst hU9; have u_ := U9; clear u_) | (rw [← hU9] at hb; clear hU9)
    clear c1_0 c1_1 c1_2 c1_3 l1 c2_0 c2_1 c2_2 c2_3 c2_4 c2_5 c2_6 c2_7 c2_8 c2_9 c2_10 c2_11 l2 c3_0 c3_1 c3_2 c3_3 c3_4 c3_5 l3 c4_0 c4_1 l4 c5_0 c5_1 l5
    have k1 := Kk1.out.of hb
    clear Kk1
    have k2 := Kk2.out.of hb
    clear Kk2
    have k3 := Kk3.out.of hb
    clear Kk3
    have k4 := Kk4.out.of hb
    clear Kk4
    have k5 := Kk5.out.of hb
    clear Kk5
    replace HB1 := Lib.hid (HB1.out.of hb)
    replace HB2 := Lib.hid (HB2.out.of hb)
    replace HB3 := Lib.hid (HB3.out.of hb)
    replace hb0 := hb0.trans (hb.mono hb0.size)
    clear hb
    go_wp2_with fail
    refine (rHolds_is ax ay bx b_y x y v h HP18.out _iax _iay _ibx _ib_y bn1 ba1 bl1 bc1 bn2 ba2 bl2 bc2 bn3 ba3 bl3 bc3 _ HB1.out HB2.out HB3.out).mono ?_
    rintro e U10 ⟨rfl, hn⟩
    clear HB1 HB2 HB3
    clear k1 k2 k3 k4 k5
    replace hb0 := hb0.trans (hn.mono hb0.size)
    clear hn
    go_wp2_with fail
    refine (cawake_any _).mono ?_
    rintro e U11 ⟨rfl, hn⟩
    replace hb0 := hb0.trans (hn.mono hb0.size)
    clear hn
    go_wp2
    first | go_ret | go_ret2
    exact ⟨by first | rfl | (simp; done) | (simp; assumption), hb0⟩
  · have qz1 : bx = ax := by simpa using hz1
    clear hz1
    subst qz1
    obtain ⟨z2, hz2⟩ : ∃ o_o : Bool, (b_y == ay) = o_o := ⟨_, rfl⟩
    cases z2
    · have nz2 : ¬ b_y = ay := by simpa using hz2
      have nz2_ : ¬ ay = b_y := fun e_ => nz2 e_.symm
      have c1_0 : V7.cell? ⟨w.heap.size, 0, none⟩ = some (.int .i64 bx) := k1.cell 0
      have c1_1 : V7.cell? ⟨w.heap.size, 1, none⟩ = some (.int .i64 ay) := k1.cell 1
      have c1_2 : V7.cell? ⟨w.heap.size, 2, none⟩ = some (.int .i64 bx) := k1.cell 2
      have c1_3 : V7.cell? ⟨w.heap.size, 3, none⟩ = some (.int .i64 b_y) := k1.cell 3
      have l1 := k1.lt
      have c4_0 : V7.cell? ⟨U6.heap.size, 0, none⟩ = some (.int .i64 bx) := k4.cell 0
      have c4_1 : V7.cell? ⟨U6.heap.size, 1, none⟩ = some (.int .i64 b_y) := k4.cell 1
      have l4 := k4.lt
      have c5_0 : V7.cell? ⟨(U6.heap.size + 1), 0, none⟩ = some (.int .i64 bx) := k5.cell 0
      have c5_1 : V7.cell? ⟨(U6.heap.size + 1), 1, none⟩ = some (.int .i64 ay) := k5.cell 1
      have l5 := k5.lt
      have Kk1 := Lib.hid k1
      clear k1
      have Kk2 := Lib.hid k2
      clear k2
      have Kk3 := Lib.hid k3
      clear k3
      have Kk4 := Lib.hid k4
      clear k4
      have Kk5 := Lib.hid k5
      clear k5
      refine wp_region_up V7.heap.size 38 [(true, 0), (true, 2), (false, 1), (false, 3), (false, 4), (true, 5), (true, 6), (true, 7), (true, 8), (true, 9), (true, 10), (true, 11), (true, 12), (true, 13), (true, 14), (true, 15), (true, 16), (true, 17), (true, 18), (true, 19), (true, 20), (true, 21), (true, 22), (true, 23), (true, 24), (true, 25), (true, 26), (true, 27), (true, 28), (true, 29), (true, 30), (true, 31), (true, 32), (true, 33), (true, 34), (true, 35), (true, 36), (true, 37)] (by kernel_rfl) (by kernel_rfl) (fun _ _ d _ _ h => by cases d <;> exact h) ?_
      have hb : Below V7.heap.size V7 V7.drew := (Below.refl _ _).drew
      iterate 2
        refine wpS_takeL rfl rfl ?_
        go_big_quiet_step (rfl)
        refine wpQuiet_nil ?_
      refine wpS_doL rfl ?_
      intro K hK
      go_wp2_with ((first | (go_at_call 52; (with_reducible refine (cref_is bx ay bx ay HP12.out HP13.out _ibx _iay  _).mono ?_); rintro e w2 ⟨rfl, hn⟩) | (go_at_call 52; (with_reducible refine (cref_is bx b_y bx b_y HP10.out HP11.out _ibx _ib_y  _).mono ?_); rintro e w2 ⟨rfl, hn⟩) | (go_at_call 71; (with_reducible refine (rAhead_v bx ay bx b_y false HP14.out _).mono ?_); rintro e w2 ⟨rfl, hn⟩)))
      replace hb := hb.trans (hn.mono hb.size)
      refine hK.out _ _ (up_iff.2 hb) ?_
      clear hK K
      clear hn
      refine wpS_doL rfl ?_
      intro K hK
      go_wp2_with ((first | (go_at_call 52; (with_reducible refine (cref_is bx ay bx ay HP12.out HP13.out _ibx _iay  _).mono ?_); rintro e w2 ⟨rfl, hn⟩) | (go_at_call 52; (with_reducible refine (cref_is bx b_y bx b_y HP10.out HP11.out _ibx _ib_y  _).mono ?_); rintro e w2 ⟨rfl, hn⟩) | (go_at_call 71; (with_reducible refine (rAhead_v bx ay bx b_y false HP14.out _).mono ?_); rintro e w2 ⟨rfl, hn⟩)))
      replace hb := hb.trans (hn.mono hb.size)
      refine hK.out _ _ (up_iff.2 hb) ?_
      clear hK K
      clear hn
      refine wpS_doL rfl ?_
      intro K hK
      go_wp2_with ((first | (go_at_call 52; (with_reducible refine (cref_is bx ay bx ay HP12.out HP13.out _ibx _iay  _).mono ?_); rintro e w2 ⟨rfl, hn⟩) | (go_at_call 52; (with_reducible refine (cref_is bx b_y bx b_y HP10.out HP11.out _ibx _ib_y  _).mono ?_); rintro e w2 ⟨rfl, hn⟩) | (go_at_call 71; (with_reducible refine (rAhead_v bx ay bx b_y false HP14.out _).mono ?_); rintro e w2 ⟨rfl, hn⟩)))
      replace hb := hb.trans (hn.mono hb.size)
      refine hK.out _ _ (up_iff.2 hb) ?_
      clear hK K
      clear hn
      iterate 33
        refine wpS_takeL rfl rfl ?_
        go_big_quiet_step (rfl)
        refine wpQuiet_nil ?_
      refine wpS_nil ?_
      simp only [List.drop_succ_cons, List.drop_zero]
      first | refine calls_w ?_ | refine name_world ?_ | refine list_world ?_ | refine post_world ?_
      intro U12 hU12
      first | (subst hU12; have u_ := U12; clear u_) | (rw [← hU12] at hb; clear hU12)
      clear c1_0 c1_1 c1_2 c1_3 l1 c4_0 c4_1 l4 c5_0 c5_1 l5
      have k1 := Kk1.out.of hb
      clear Kk1
      have k2 := Kk2.out.of hb
      clear Kk2
      have k3 := Kk3.out.of hb
      clear Kk3
      have k4 := Kk4.out.of hb
      clear Kk4
      have k5 := Kk5.out.of hb
      clear Kk5
      replace HB1 := Lib.hid (HB1.out.of hb)
      replace HB2 := Lib.hid (HB2.out.of hb)
      replace HB3 := Lib.hid (HB3.out.of hb)
      replace hb0 := hb0.trans (hb.mono hb0.size)
      clear hb
      go_wp2_with fail
      have c1_0 : U12.cell? ⟨w.heap.size, 0, none⟩ = some (.int .i64 bx) := k1.cell 0
      have c1_1 : U12.cell? ⟨w.heap.size, 1, none⟩ = some (.int .i64 ay) := k1.cell 1
      have c1_2 : U12.cell? ⟨w.heap.size, 2, none⟩ = some (.int .i64 bx) := k1.cell 2
      have c1_3 : U12.cell? ⟨w.heap.size, 3, none⟩ = some (.int .i64 b_y) := k1.cell 3
      have l1 := k1.lt
      have c2_0 : U12.cell? ⟨(w.heap.size + 1), 0, none⟩ = some (.int .u64 (wd0 x)) := k2.cell 0
      have c2_1 : U12.cell? ⟨(w.heap.size + 1), 1, none⟩ = some (.int .u64 (wd1 x)) := k2.cell 1
      have c2_2 : U12.cell? ⟨(w.heap.size + 1), 2, none⟩ = some (.int .u64 (wd2 x)) := k2.cell 2
      have c2_3 : U12.cell? ⟨(w.heap.size + 1), 3, none⟩ = some (.int .u64 (wd3 x)) := k2.cell 3
      have c2_4 : U12.cell? ⟨(w.heap.size + 1), 4, none⟩ = some (.int .u64 (wd0 y)) := k2.cell 4
      have c2_5 : U12.cell? ⟨(w.heap.size + 1), 5, none⟩ = some (.int .u64 (wd1 y)) := k2.cell 5
      have c2_6 : U12.cell? ⟨(w.heap.size + 1), 6, none⟩ = some (.int .u64 (wd2 y)) := k2.cell 6
      have c2_7 : U12.cell? ⟨(w.heap.size + 1), 7, none⟩ = some (.int .u64 (wd3 y)) := k2.cell 7
      have c2_8 : U12.cell? ⟨(w.heap.size + 1), 8, none⟩ = some (.int .u64 (wd0 v)) := k2.cell 8
      have c2_9 : U12.cell? ⟨(w.heap.size + 1), 9, none⟩ = some (.int .u64 (wd1 v)) := k2.cell 9
      have c2_10 : U12.cell? ⟨(w.heap.size + 1), 10, none⟩ = some (.int .u64 (wd2 v)) := k2.cell 10
      have c2_11 : U12.cell? ⟨(w.heap.size + 1), 11, none⟩ = some (.int .u64 (wd3 v)) := k2.cell 11
      have l2 := k2.lt
      have c3_0 : U12.cell? ⟨U2.heap.size, 0, none⟩ = some (.bool bn1) := k3.cell 0
      have c3_1 : U12.cell? ⟨U2.heap.size, 1, none⟩ = some (.slice ba1 bl1 bc1) := k3.cell 1
      have c3_2 : U12.cell? ⟨U2.heap.size, 2, none⟩ = some (.bool bn2) := k3.cell 2
      have c3_3 : U12.cell? ⟨U2.heap.size, 3, none⟩ = some (.slice ba2 bl2 bc2) := k3.cell 3
      have c3_4 : U12.cell? ⟨U2.heap.size, 4, none⟩ = some (.bool bn3) := k3.cell 4
      have c3_5 : U12.cell? ⟨U2.heap.size, 5, none⟩ = some (.slice ba3 bl3 bc3) := k3.cell 5
      have l3 := k3.lt
      have c4_0 : U12.cell? ⟨U6.heap.size, 0, none⟩ = some (.int .i64 bx) := k4.cell 0
      have c4_1 : U12.cell? ⟨U6.heap.size, 1, none⟩ = some (.int .i64 b_y) := k4.cell 1
      have l4 := k4.lt
      have c5_0 : U12.cell? ⟨(U6.heap.size + 1), 0, none⟩ = some (.int .i64 bx) := k5.cell 0
      have c5_1 : U12.cell? ⟨(U6.heap.size + 1), 1, none⟩ = some (.int .i64 ay) := k5.cell 1
      have l5 := k5.lt
      have Kk1 := Lib.hid k1
      clear k1
      have Kk2 := Lib.hid k2
      clear k2
      have Kk3 := Lib.hid k3
      clear k3
      have Kk4 := Lib.hid k4
      clear k4
      have Kk5 := Lib.hid k5
      clear k5
      refine wp_region_up U12.heap.size 25 [(true, 0), (false, 1), (true, 2), (true, 3), (true, 4), (true, 6), (true, 8), (true, 10), (false, 5), (false, 7), (false, 9), (false, 11), (true, 12), (true, 13), (true, 14), (true, 15), (true, 16), (true, 18), (true, 19), (true, 21), (true, 22), (true, 24), (false, 17), (false, 20), (false, 23)] (by kernel_rfl) (by kernel_rfl) (fun _ _ d _ _ h => by cases d <;> exact h) ?_
      have hb : Below U12.heap.size U12 U12.drew := (Below.refl _ _).drew
      refine wpS_takeL rfl rfl ?_
      go_big_quiet_step (rfl)
      refine wpQuiet_nil ?_
      refine wpS_doL rfl ?_
      intro K hK
      go_wp2_with ((first | (go_at_call 59; (with_reducible refine (SpRight_is x y v true HP4.out _ix _iy _iv  _).mono ?_); rintro e w2 ⟨rfl, hn⟩) | (go_at_call 69; (with_reducible refine (SegSide_is bx ay bx b_y x y v s HP15.out _ibx _iay _ibx _ib_y _ix _iy _iv  _).mono ?_); rintro e w2 ⟨rfl, hn⟩) | (go_at_call 52; (with_reducible refine (cref_is bx b_y bx b_y HP10.out HP11.out _ibx _ib_y  _).mono ?_); rintro e w2 ⟨rfl, hn⟩) | (go_at_call 52; (with_reducible refine (cref_is bx ay bx ay HP12.out HP13.out _ibx _iay  _).mono ?_); rintro e w2 ⟨rfl, hn⟩) | (go_at_call 72; (with_reducible refine (rSide_is bx b_y bx ay x y v s HP16.out _ibx _ib_y _ibx _iay bn1 ba1 bl1 bc1 bn2 ba2 bl2 bc2 bn3 ba3 bl3 bc3 _ (HB1.out.of hb) (HB2.out.of hb) (HB3.out.of hb)).mono ?_); rintro e w2 ⟨rfl, hn⟩) | (go_at_call 70; (with_reducible refine (SegHolds_is bx ay bx b_y x y v h HP17.out _ibx _iay _ibx _ib_y _ix _iy _iv  _).mono ?_); rintro e w2 ⟨rfl, hn⟩)))
      replace hb := hb.trans (hn.mono hb.size)
      refine hK.out _ _ (up_iff.2 hb) ?_
      clear hK K
      clear hn
      iterate 6
        refine wpS_takeL rfl rfl ?_
        go_big_quiet_step (rfl)
        refine wpQuiet_nil ?_
      refine wpS_doL rfl ?_
      intro K hK
      go_wp2_with ((first | (go_at_call 59; (with_reducible refine (SpRight_is x y v true HP4.out _ix _iy _iv  _).mono ?_); rintro e w2 ⟨rfl, hn⟩) | (go_at_call 69; (with_reducible refine (SegSide_is bx ay bx b_y x y v s HP15.out _ibx _iay _ibx _ib_y _ix _iy _iv  _).mono ?_); rintro e w2 ⟨rfl, hn⟩) | (go_at_call 52; (with_reducible refine (cref_is bx b_y bx b_y HP10.out HP11.out _ibx _ib_y  _).mono ?_); rintro e w2 ⟨rfl, hn⟩) | (go_at_call 52; (with_reducible refine (cref_is bx ay bx ay HP12.out HP13.out _ibx _iay  _).mono ?_); rintro e w2 ⟨rfl, hn⟩) | (go_at_call 72; (with_reducible refine (rSide_is bx b_y bx ay x y v s HP16.out _ibx _ib_y _ibx _iay bn1 ba1 bl1 bc1 bn2 ba2 bl2 bc2 bn3 ba3 bl3 bc3 _ (HB1.out.of hb) (HB2.out.of hb) (HB3.out.of hb)).mono ?_); rintro e w2 ⟨rfl, hn⟩) | (go_at_call 70; (with_reducible refine (SegHolds_is bx ay bx b_y x y v h HP17.out _ibx _iay _ibx _ib_y _ix _iy _iv  _).mono ?_); rintro e w2 ⟨rfl, hn⟩)))
      try replace hb := hb.trans (hn.mono hb.size)
      refine hK.out _ _ (up_iff.2 hb) ?_
      clear hK K
      try clear hn
      refine wpS_doL rfl ?_
      intro K hK
      go_wp2_with ((first | (go_at_call 59; (with_reducible refine (SpRight_is x y v true HP4.out _ix _iy _iv  _).mono ?_); rintro e w2 ⟨rfl, hn⟩) | (go_at_call 69; (with_reducible refine (SegSide_is bx ay bx b_y x y v s HP15.out _ibx _iay _ibx _ib_y _ix _iy _iv  _).mono ?_); rintro e w2 ⟨rfl, hn⟩) | (go_at_call 52; (with_reducible refine (cref_is bx b_y bx b_y HP10.out HP11.out _ibx _ib_y  _).mono ?_); rintro e w2 ⟨rfl, hn⟩) | (go_at_call 52; (with_reducible refine (cref_is bx ay bx ay HP12.out HP13.out _ibx _iay  _).mono ?_); rintro e w2 ⟨rfl, hn⟩) | (go_at_call 72; (with_reducible refine (rSide_is bx b_y bx ay x y v s HP16.out _ibx _ib_y _ibx _iay bn1 ba1 bl1 bc1 bn2 ba2 bl2 bc2 bn3 ba3 bl3 bc3 _ (HB1.out.of hb) (HB2.out.of hb) (HB3.out.of hb)).mono ?_); rintro e w2 ⟨rfl, hn⟩) | (go_at_call 70; (with_reducible refine (SegHolds_is bx ay bx b_y x y v h HP17.out _ibx _iay _ibx _ib_y _ix _iy _iv  _).mono ?_); rintro e w2 ⟨rfl, hn⟩)))
      try replace hb := hb.trans (hn.mono hb.size)
      refine hK.out _ _ (up_iff.2 hb) ?_
      clear hK K
      try clear hn
      refine wpS_doL rfl ?_
      intro K hK
      go_wp2_with ((first | (go_at_call 59; (with_reducible refine (SpRight_is x y v true HP4.out _ix _iy _iv  _).mono ?_); rintro e w2 ⟨rfl, hn⟩) | (go_at_call 69; (with_reducible refine (SegSide_is bx ay bx b_y x y v s HP15.out _ibx _iay _ibx _ib_y _ix _iy _iv  _).mono ?_); rintro e w2 ⟨rfl, hn⟩) | (go_at_call 52; (with_reducible refine (cref_is bx b_y bx b_y HP10.out HP11.out _ibx _ib_y  _).mono ?_); rintro e w2 ⟨rfl, hn⟩) | (go_at_call 52; (with_reducible refine (cref_is bx ay bx ay HP12.out HP13.out _ibx _iay  _).mono ?_); rintro e w2 ⟨rfl, hn⟩) | (go_at_call 72; (with_reducible refine (rSide_is bx b_y bx ay x y v s HP16.out _ibx _ib_y _ibx _iay bn1 ba1 bl1 bc1 bn2 ba2 bl2 bc2 bn3 ba3 bl3 bc3 _ (HB1.out.of hb) (HB2.out.of hb) (HB3.out.of hb)).mono ?_); rintro e w2 ⟨rfl, hn⟩) | (go_at_call 70; (with_reducible refine (SegHolds_is bx ay bx b_y x y v h HP17.out _ibx _iay _ibx _ib_y _ix _iy _iv  _).mono ?_); rintro e w2 ⟨rfl, hn⟩)))
      try replace hb := hb.trans (hn.mono hb.size)
      refine hK.out _ _ (up_iff.2 hb) ?_
      clear hK K
      try clear hn
      refine wpS_doL rfl ?_
      intro K hK
      go_wp2_with ((first | (go_at_call 59; (with_reducible refine (SpRight_is x y v true HP4.out _ix _iy _iv  _).mono ?_); rintro e w2 ⟨rfl, hn⟩) | (go_at_call 69; (with_reducible refine (SegSide_is bx ay bx b_y x y v s HP15.out _ibx _iay _ibx _ib_y _ix _iy _iv  _).mono ?_); rintro e w2 ⟨rfl, hn⟩) | (go_at_call 52; (with_reducible refine (cref_is bx b_y bx b_y HP10.out HP11.out _ibx _ib_y  _).mono ?_); rintro e w2 ⟨rfl, hn⟩) | (go_at_call 52; (with_reducible refine (cref_is bx ay bx ay HP12.out HP13.out _ibx _iay  _).mono ?_); rintro e w2 ⟨rfl, hn⟩) | (go_at_call 72; (with_reducible refine (rSide_is bx b_y bx ay x y v s HP16.out _ibx _ib_y _ibx _iay bn1 ba1 bl1 bc1 bn2 ba2 bl2 bc2 bn3 ba3 bl3 bc3 _ (HB1.out.of hb) (HB2.out.of hb) (HB3.out.of hb)).mono ?_); rintro e w2 ⟨rfl, hn⟩) | (go_at_call 70; (with_reducible refine (SegHolds_is bx ay bx b_y x y v h HP17.out _ibx _iay _ibx _ib_y _ix _iy _iv  _).mono ?_); rintro e w2 ⟨rfl, hn⟩)))
      try replace hb := hb.trans (hn.mono hb.size)
      refine hK.out _ _ (up_iff.2 hb) ?_
      clear hK K
      try clear hn
      iterate 10
        refine wpS_takeL rfl rfl ?_
        go_big_quiet_step (rfl)
        refine wpQuiet_nil ?_
      refine wpS_doL rfl ?_
      intro K hK
      go_wp2_with ((first | (go_at_call 59; (with_reducible refine (SpRight_is x y v true HP4.out _ix _iy _iv  _).mono ?_); rintro e w2 ⟨rfl, hn⟩) | (go_at_call 69; (with_reducible refine (SegSide_is bx ay bx b_y x y v s HP15.out _ibx _iay _ibx _ib_y _ix _iy _iv  _).mono ?_); rintro e w2 ⟨rfl, hn⟩) | (go_at_call 52; (with_reducible refine (cref_is bx b_y bx b_y HP10.out HP11.out _ibx _ib_y  _).mono ?_); rintro e w2 ⟨rfl, hn⟩) | (go_at_call 52; (with_reducible refine (cref_is bx ay bx ay HP12.out HP13.out _ibx _iay  _).mono ?_); rintro e w2 ⟨rfl, hn⟩) | (go_at_call 72; (with_reducible refine (rSide_is bx b_y bx ay x y v s HP16.out _ibx _ib_y _ibx _iay bn1 ba1 bl1 bc1 bn2 ba2 bl2 bc2 bn3 ba3 bl3 bc3 _ (HB1.out.of hb) (HB2.out.of hb) (HB3.out.of hb)).mono ?_); rintro e w2 ⟨rfl, hn⟩) | (go_at_call 70; (with_reducible refine (SegHolds_is bx ay bx b_y x y v h HP17.out _ibx _iay _ibx _ib_y _ix _iy _iv  _).mono ?_); rintro e w2 ⟨rfl, hn⟩)))
      try replace hb := hb.trans (hn.mono hb.size)
      refine hK.out _ _ (up_iff.2 hb) ?_
      clear hK K
      try clear hn
      refine wpS_doL rfl ?_
      intro K hK
      go_wp2_with ((first | (go_at_call 59; (with_reducible refine (SpRight_is x y v true HP4.out _ix _iy _iv  _).mono ?_); rintro e w2 ⟨rfl, hn⟩) | (go_at_call 69; (with_reducible refine (SegSide_is bx ay bx b_y x y v s HP15.out _ibx _iay _ibx _ib_y _ix _iy _iv  _).mono ?_); rintro e w2 ⟨rfl, hn⟩) | (go_at_call 52; (with_reducible refine (cref_is bx b_y bx b_y HP10.out HP11.out _ibx _ib_y  _).mono ?_); rintro e w2 ⟨rfl, hn⟩) | (go_at_call 52; (with_reducible refine (cref_is bx ay bx ay HP12.out HP13.out _ibx _iay  _).mono ?_); rintro e w2 ⟨rfl, hn⟩) | (go_at_call 72; (with_reducible refine (rSide_is bx b_y bx ay x y v s HP16.out _ibx _ib_y _ibx _iay bn1 ba1 bl1 bc1 bn2 ba2 bl2 bc2 bn3 ba3 bl3 bc3 _ (HB1.out.of hb) (HB2.out.of hb) (HB3.out.of hb)).mono ?_); rintro e w2 ⟨rfl, hn⟩) | (go_at_call 70; (with_reducible refine (SegHolds_is bx ay bx b_y x y v h HP17.out _ibx _iay _ibx _ib_y _ix _iy _iv  _).mono ?_); rintro e w2 ⟨rfl, hn⟩)))
      try replace hb := hb.trans (hn.mono hb.size)
      refine hK.out _ _ (up_iff.2 hb) ?_
      clear hK K
      try clear hn
      refine wpS_doL rfl ?_
      intro K hK
      go_wp2_with ((first | (go_at_call 59; (with_reducible refine (SpRight_is x y v true HP4.out _ix _iy _iv  _).mono ?_); rintro e w2 ⟨rfl, hn⟩) | (go_at_call 69; (with_reducible refine (SegSide_is bx ay bx b_y x y v s HP15.out _ibx _iay _ibx _ib_y _ix _iy _iv  _).mono ?_); rintro e w2 ⟨rfl, hn⟩) | (go_at_call 52; (with_reducible refine (cref_is bx b_y bx b_y HP10.out HP11.out _ibx _ib_y  _).mono ?_); rintro e w2 ⟨rfl, hn⟩) | (go_at_call 52; (with_reducible refine (cref_is bx ay bx ay HP12.out HP13.out _ibx _iay  _).mono ?_); rintro e w2 ⟨rfl, hn⟩) | (go_at_call 72; (with_reducible refine (rSide_is bx b_y bx ay x y v s HP16.out _ibx _ib_y _ibx _iay bn1 ba1 bl1 bc1 bn2 ba2 bl2 bc2 bn3 ba3 bl3 bc3 _ (HB1.out.of hb) (HB2.out.of hb) (HB3.out.of hb)).mono ?_); rintro e w2 ⟨rfl, hn⟩) | (go_at_call 70; (with_reducible refine (SegHolds_is bx ay bx b_y x y v h HP17.out _ibx _iay _ibx _ib_y _ix _iy _iv  _).mono ?_); rintro e w2 ⟨rfl, hn⟩)))
      try replace hb := hb.trans (hn.mono hb.size)
      refine hK.out _ _ (up_iff.2 hb) ?_
      clear hK K
      try clear hn
      refine wpS_nil ?_
      simp only [List.drop_succ_cons, List.drop_zero]
      first | refine calls_w ?_ | refine name_world ?_ | refine list_world ?_ | refine post_world ?_
      intro U13 hU13
      first | (subst hU13; have u_ := U13; clear u_) | (rw [← hU13] at hb; clear hU13)
      clear c1_0 c1_1 c1_2 c1_3 l1 c2_0 c2_1 c2_2 c2_3 c2_4 c2_5 c2_6 c2_7 c2_8 c2_9 c2_10 c2_11 l2 c3_0 c3_1 c3_2 c3_3 c3_4 c3_5 l3 c4_0 c4_1 l4 c5_0 c5_1 l5
      have k1 := Kk1.out.of hb
      clear Kk1
      have k2 := Kk2.out.of hb
      clear Kk2
      have k3 := Kk3.out.of hb
      clear Kk3
      have k4 := Kk4.out.of hb
      clear Kk4
      have k5 := Kk5.out.of hb
      clear Kk5
      replace HB1 := Lib.hid (HB1.out.of hb)
      replace HB2 := Lib.hid (HB2.out.of hb)
      replace HB3 := Lib.hid (HB3.out.of hb)
      replace hb0 := hb0.trans (hb.mono hb0.size)
      clear hb
      go_wp2_with fail
      refine (rHolds_is bx ay bx b_y x y v h HP18.out _ibx _iay _ibx _ib_y bn1 ba1 bl1 bc1 bn2 ba2 bl2 bc2 bn3 ba3 bl3 bc3 _ HB1.out HB2.out HB3.out).mono ?_
      rintro e U14 ⟨rfl, hn⟩
      clear HB1 HB2 HB3
      clear k1 k2 k3 k4 k5
      replace hb0 := hb0.trans (hn.mono hb0.size)
      clear hn
      go_wp2_with fail
      refine (cawake_any _).mono ?_
      rintro e U15 ⟨rfl, hn⟩
      replace hb0 := hb0.trans (hn.mono hb0.size)
      clear hn
      go_wp2
      first | go_ret | go_ret2
      exact ⟨by first | rfl | (simp; done) | (simp; assumption), hb0⟩
    · have qz2 : b_y = ay := by simpa using hz2
      clear hz2
      subst qz2
      have c1_0 : V7.cell? ⟨w.heap.size, 0, none⟩ = some (.int .i64 bx) := k1.cell 0
      have c1_1 : V7.cell? ⟨w.heap.size, 1, none⟩ = some (.int .i64 b_y) := k1.cell 1
      have c1_2 : V7.cell? ⟨w.heap.size, 2, none⟩ = some (.int .i64 bx) := k1.cell 2
      have c1_3 : V7.cell? ⟨w.heap.size, 3, none⟩ = some (.int .i64 b_y) := k1.cell 3
      have l1 := k1.lt
      have c4_0 : V7.cell? ⟨U6.heap.size, 0, none⟩ = some (.int .i64 bx) := k4.cell 0
      have c4_1 : V7.cell? ⟨U6.heap.size, 1, none⟩ = some (.int .i64 b_y) := k4.cell 1
      have l4 := k4.lt
      have c5_0 : V7.cell? ⟨(U6.heap.size + 1), 0, none⟩ = some (.int .i64 bx) := k5.cell 0
      have c5_1 : V7.cell? ⟨(U6.heap.size + 1), 1, none⟩ = some (.int .i64 b_y) := k5.cell 1
      have l5 := k5.lt
      have Kk1 := Lib.hid k1
      clear k1
      have Kk2 := Lib.hid k2
      clear k2
      have Kk3 := Lib.hid k3
      clear k3
      have Kk4 := Lib.hid k4
      clear k4
      have Kk5 := Lib.hid k5
      clear k5
      refine wp_region_up V7.heap.size 38 [(true, 0), (true, 2), (false, 1), (false, 3), (false, 4), (true, 5), (true, 6), (true, 7), (true, 8), (true, 9), (true, 10), (true, 11), (true, 12), (true, 13), (true, 14), (true, 15), (true, 16), (true, 17), (true, 18), (true, 19), (true, 20), (true, 21), (true, 22), (true, 23), (true, 24), (true, 25), (true, 26), (true, 27), (true, 28), (true, 29), (true, 30), (true, 31), (true, 32), (true, 33), (true, 34), (true, 35), (true, 36), (true, 37)] (by kernel_rfl) (by kernel_rfl) (fun _ _ d _ _ h => by cases d <;> exact h) ?_
      have hb : Below V7.heap.size V7 V7.drew := (Below.refl _ _).drew
      iterate 2
        refine wpS_takeL rfl rfl ?_
        go_big_quiet_step (rfl)
        refine wpQuiet_nil ?_
      refine wpS_doL rfl ?_
      intro K hK
      go_wp2_with ((first | (go_at_call 52; (with_reducible refine (cref_is bx b_y bx b_y HP12.out HP13.out _ibx _ib_y  _).mono ?_); rintro e w2 ⟨rfl, hn⟩) | (go_at_call 71; (with_reducible refine (rAhead_v bx b_y bx b_y false HP14.out _).mono ?_); rintro e w2 ⟨rfl, hn⟩)))
      replace hb := hb.trans (hn.mono hb.size)
      refine hK.out _ _ (up_iff.2 hb) ?_
      clear hK K
      clear hn
      refine wpS_doL rfl ?_
      intro K hK
      go_wp2_with ((first | (go_at_call 52; (with_reducible refine (cref_is bx b_y bx b_y HP12.out HP13.out _ibx _ib_y  _).mono ?_); rintro e w2 ⟨rfl, hn⟩) | (go_at_call 71; (with_reducible refine (rAhead_v bx b_y bx b_y false HP14.out _).mono ?_); rintro e w2 ⟨rfl, hn⟩)))
      replace hb := hb.trans (hn.mono hb.size)
      refine hK.out _ _ (up_iff.2 hb) ?_
      clear hK K
      clear hn
      refine wpS_doL rfl ?_
      intro K hK
      go_wp2_with ((first | (go_at_call 52; (with_reducible refine (cref_is bx b_y bx b_y HP12.out HP13.out _ibx _ib_y  _).mono ?_); rintro e w2 ⟨rfl, hn⟩) | (go_at_call 71; (with_reducible refine (rAhead_v bx b_y bx b_y false HP14.out _).mono ?_); rintro e w2 ⟨rfl, hn⟩)))
      replace hb := hb.trans (hn.mono hb.size)
      refine hK.out _ _ (up_iff.2 hb) ?_
      clear hK K
      clear hn
      iterate 33
        refine wpS_takeL rfl rfl ?_
        go_big_quiet_step (rfl)
        refine wpQuiet_nil ?_
      refine wpS_nil ?_
      simp only [List.drop_succ_cons, List.drop_zero]
      first | refine calls_w ?_ | refine name_world ?_ | refine list_world ?_ | refine post_world ?_
      intro U16 hU16
      first | (subst hU16; have u_ := U16; clear u_) | (rw [← hU16] at hb; clear hU16)
      clear c1_0 c1_1 c1_2 c1_3 l1 c4_0 c4_1 l4 c5_0 c5_1 l5
      have k1 := Kk1.out.of hb
      clear Kk1
      have k2 := Kk2.out.of hb
      clear Kk2
      have k3 := Kk3.out.of hb
      clear Kk3
      have k4 := Kk4.out.of hb
      clear Kk4
      have k5 := Kk5.out.of hb
      clear Kk5
      replace HB1 := Lib.hid (HB1.out.of hb)
      replace HB2 := Lib.hid (HB2.out.of hb)
      replace HB3 := Lib.hid (HB3.out.of hb)
      replace hb0 := hb0.trans (hb.mono hb0.size)
      clear hb
      go_wp2_with fail
      have c1_0 : U16.cell? ⟨w.heap.size, 0, none⟩ = some (.int .i64 bx) := k1.cell 0
      have c1_1 : U16.cell? ⟨w.heap.size, 1, none⟩ = some (.int .i64 b_y) := k1.cell 1
      have c1_2 : U16.cell? ⟨w.heap.size, 2, none⟩ = some (.int .i64 bx) := k1.cell 2
      have c1_3 : U16.cell? ⟨w.heap.size, 3, none⟩ = some (.int .i64 b_y) := k1.cell 3
      have l1 := k1.lt
      have c2_0 : U16.cell? ⟨(w.heap.size + 1), 0, none⟩ = some (.int .u64 (wd0 x)) := k2.cell 0
      have c2_1 : U16.cell? ⟨(w.heap.size + 1), 1, none⟩ = some (.int .u64 (wd1 x)) := k2.cell 1
      have c2_2 : U16.cell? ⟨(w.heap.size + 1), 2, none⟩ = some (.int .u64 (wd2 x)) := k2.cell 2
      have c2_3 : U16.cell? ⟨(w.heap.size + 1), 3, none⟩ = some (.int .u64 (wd3 x)) := k2.cell 3
      have c2_4 : U16.cell? ⟨(w.heap.size + 1), 4, none⟩ = some (.int .u64 (wd0 y)) := k2.cell 4
      have c2_5 : U16.cell? ⟨(w.heap.size + 1), 5, none⟩ = some (.int .u64 (wd1 y)) := k2.cell 5
      have c2_6 : U16.cell? ⟨(w.heap.size + 1), 6, none⟩ = some (.int .u64 (wd2 y)) := k2.cell 6
      have c2_7 : U16.cell? ⟨(w.heap.size + 1), 7, none⟩ = some (.int .u64 (wd3 y)) := k2.cell 7
      have c2_8 : U16.cell? ⟨(w.heap.size + 1), 8, none⟩ = some (.int .u64 (wd0 v)) := k2.cell 8
      have c2_9 : U16.cell? ⟨(w.heap.size + 1), 9, none⟩ = some (.int .u64 (wd1 v)) := k2.cell 9
      have c2_10 : U16.cell? ⟨(w.heap.size + 1), 10, none⟩ = some (.int .u64 (wd2 v)) := k2.cell 10
      have c2_11 : U16.cell? ⟨(w.heap.size + 1), 11, none⟩ = some (.int .u64 (wd3 v)) := k2.cell 11
      have l2 := k2.lt
      have c3_0 : U16.cell? ⟨U2.heap.size, 0, none⟩ = some (.bool bn1) := k3.cell 0
      have c3_1 : U16.cell? ⟨U2.heap.size, 1, none⟩ = some (.slice ba1 bl1 bc1) := k3.cell 1
      have c3_2 : U16.cell? ⟨U2.heap.size, 2, none⟩ = some (.bool bn2) := k3.cell 2
      have c3_3 : U16.cell? ⟨U2.heap.size, 3, none⟩ = some (.slice ba2 bl2 bc2) := k3.cell 3
      have c3_4 : U16.cell? ⟨U2.heap.size, 4, none⟩ = some (.bool bn3) := k3.cell 4
      have c3_5 : U16.cell? ⟨U2.heap.size, 5, none⟩ = some (.slice ba3 bl3 bc3) := k3.cell 5
      have l3 := k3.lt
      have c4_0 : U16.cell? ⟨U6.heap.size, 0, none⟩ = some (.int .i64 bx) := k4.cell 0
      have c4_1 : U16.cell? ⟨U6.heap.size, 1, none⟩ = some (.int .i64 b_y) := k4.cell 1
      have l4 := k4.lt
      have c5_0 : U16.cell? ⟨(U6.heap.size + 1), 0, none⟩ = some (.int .i64 bx) := k5.cell 0
      have c5_1 : U16.cell? ⟨(U6.heap.size + 1), 1, none⟩ = some (.int .i64 b_y) := k5.cell 1
      have l5 := k5.lt
      have Kk1 := Lib.hid k1
      clear k1
      have Kk2 := Lib.hid k2
      clear k2
      have Kk3 := Lib.hid k3
      clear k3
      have Kk4 := Lib.hid k4
      clear k4
      have Kk5 := Lib.hid k5
      clear k5
      refine wp_region_up U16.heap.size 25 [(true, 0), (false, 1), (true, 2), (true, 3), (true, 4), (true, 6), (true, 8), (true, 10), (false, 5), (false, 7), (false, 9), (false, 11), (true, 12), (true, 13), (true, 14), (true, 15), (true, 16), (true, 18), (true, 19), (true, 21), (true, 22), (true, 24), (false, 17), (false, 20), (false, 23)] (by kernel_rfl) (by kernel_rfl) (fun _ _ d _ _ h => by cases d <;> exact h) ?_
      have hb : Below U16.heap.size U16 U16.drew := (Below.refl _ _).drew
      refine wpS_takeL rfl rfl ?_
      go_big_quiet_step (rfl)
      refine wpQuiet_nil ?_
      refine wpS_doL rfl ?_
      intro K hK
      go_wp2_with ((first | (go_at_call 59; (with_reducible refine (SpRight_is x y v true HP4.out _ix _iy _iv  _).mono ?_); rintro e w2 ⟨rfl, hn⟩) | (go_at_call 69; (with_reducible refine (SegSide_is bx b_y bx b_y x y v s HP15.out _ibx _ib_y _ibx _ib_y _ix _iy _iv  _).mono ?_); rintro e w2 ⟨rfl, hn⟩) | (go_at_call 52; (with_reducible refine (cref_is bx b_y bx b_y HP12.out HP13.out _ibx _ib_y  _).mono ?_); rintro e w2 ⟨rfl, hn⟩) | (go_at_call 72; (with_reducible refine (rSide_is bx b_y bx b_y x y v s HP16.out _ibx _ib_y _ibx _ib_y bn1 ba1 bl1 bc1 bn2 ba2 bl2 bc2 bn3 ba3 bl3 bc3 _ (HB1.out.of hb) (HB2.out.of hb) (HB3.out.of hb)).mono ?_); rintro e w2 ⟨rfl, hn⟩) | (go_at_call 70; (with_reducible refine (SegHolds_is bx b_y bx b_y x y v h HP17.out _ibx _ib_y _ibx _ib_y _ix _iy _iv  _).mono ?_); rintro e w2 ⟨rfl, hn⟩)))
      replace hb := hb.trans (hn.mono hb.size)
      refine hK.out _ _ (up_iff.2 hb) ?_
      clear hK K
      clear hn
      iterate 6
        refine wpS_takeL rfl rfl ?_
        go_big_quiet_step (rfl)
        refine wpQuiet_nil ?_
      refine wpS_doL rfl ?_
      intro K hK
      go_wp2_with ((first | (go_at_call 59; (with_reducible refine (SpRight_is x y v true HP4.out _ix _iy _iv  _).mono ?_); rintro e w2 ⟨rfl, hn⟩) | (go_at_call 69; (with_reducible refine (SegSide_is bx b_y bx b_y x y v s HP15.out _ibx _ib_y _ibx _ib_y _ix _iy _iv  _).mono ?_); rintro e w2 ⟨rfl, hn⟩) | (go_at_call 52; (with_reducible refine (cref_is bx b_y bx b_y HP12.out HP13.out _ibx _ib_y  _).mono ?_); rintro e w2 ⟨rfl, hn⟩) | (go_at_call 72; (with_reducible refine (rSide_is bx b_y bx b_y x y v s HP16.out _ibx _ib_y _ibx _ib_y bn1 ba1 bl1 bc1 bn2 ba2 bl2 bc2 bn3 ba3 bl3 bc3 _ (HB1.out.of hb) (HB2.out.of hb) (HB3.out.of hb)).mono ?_); rintro e w2 ⟨rfl, hn⟩) | (go_at_call 70; (with_reducible refine (SegHolds_is bx b_y bx b_y x y v h HP17.out _ibx _ib_y _ibx _ib_y _ix _iy _iv  _).mono ?_); rintro e w2 ⟨rfl, hn⟩)))
      try replace hb := hb.trans (hn.mono hb.size)
      refine hK.out _ _ (up_iff.2 hb) ?_
      clear hK K
      try clear hn
      refine wpS_doL rfl ?_
      intro K hK
      go_wp2_with ((first | (go_at_call 59; (with_reducible refine (SpRight_is x y v true HP4.out _ix _iy _iv  _).mono ?_); rintro e w2 ⟨rfl, hn⟩) | (go_at_call 69; (with_reducible refine (SegSide_is bx b_y bx b_y x y v s HP15.out _ibx _ib_y _ibx _ib_y _ix _iy _iv  _).mono ?_); rintro e w2 ⟨rfl, hn⟩) | (go_at_call 52; (with_reducible refine (cref_is bx b_y bx b_y HP12.out HP13.out _ibx _ib_y  _).mono ?_); rintro e w2 ⟨rfl, hn⟩) | (go_at_call 72; (with_reducible refine (rSide_is bx b_y bx b_y x y v s HP16.out _ibx _ib_y _ibx _ib_y bn1 ba1 bl1 bc1 bn2 ba2 bl2 bc2 bn3 ba3 bl3 bc3 _ (HB1.out.of hb) (HB2.out.of hb) (HB3.out.of hb)).mono ?_); rintro e w2 ⟨rfl, hn⟩) | (go_at_call 70; (with_reducible refine (SegHolds_is bx b_y bx b_y x y v h HP17.out _ibx _ib_y _ibx _ib_y _ix _iy _iv  _).mono ?_); rintro e w2 ⟨rfl, hn⟩)))
      try replace hb := hb.trans (hn.mono hb.size)
      refine hK.out _ _ (up_iff.2 hb) ?_
      clear hK K
      try clear hn
      refine wpS_doL rfl ?_
      intro K hK
      go_wp2_with ((first | (go_at_call 59; (with_reducible refine (SpRight_is x y v true HP4.out _ix _iy _iv  _).mono ?_); rintro e w2 ⟨rfl, hn⟩) | (go_at_call 69; (with_reducible refine (SegSide_is bx b_y bx b_y x y v s HP15.out _ibx _ib_y _ibx _ib_y _ix _iy _iv  _).mono ?_); rintro e w2 ⟨rfl, hn⟩) | (go_at_call 52; (with_reducible refine (cref_is bx b_y bx b_y HP12.out HP13.out _ibx _ib_y  _).mono ?_); rintro e w2 ⟨rfl, hn⟩) | (go_at_call 72; (with_reducible refine (rSide_is bx b_y bx b_y x y v s HP16.out _ibx _ib_y _ibx _ib_y bn1 ba1 bl1 bc1 bn2 ba2 bl2 bc2 bn3 ba3 bl3 bc3 _ (HB1.out.of hb) (HB2.out.of hb) (HB3.out.of hb)).mono ?_); rintro e w2 ⟨rfl, hn⟩) | (go_at_call 70; (with_reducible refine (SegHolds_is bx b_y bx b_y x y v h HP17.out _ibx _ib_y _ibx _ib_y _ix _iy _iv  _).mono ?_); rintro e w2 ⟨rfl, hn⟩)))
      try replace hb := hb.trans (hn.mono hb.size)
      refine hK.out _ _ (up_iff.2 hb) ?_
      clear hK K
      try clear hn
      refine wpS_doL rfl ?_
      intro K hK
      go_wp2_with ((first | (go_at_call 59; (with_reducible refine (SpRight_is x y v true HP4.out _ix _iy _iv  _).mono ?_); rintro e w2 ⟨rfl, hn⟩) | (go_at_call 69; (with_reducible refine (SegSide_is bx b_y bx b_y x y v s HP15.out _ibx _ib_y _ibx _ib_y _ix _iy _iv  _).mono ?_); rintro e w2 ⟨rfl, hn⟩) | (go_at_call 52; (with_reducible refine (cref_is bx b_y bx b_y HP12.out HP13.out _ibx _ib_y  _).mono ?_); rintro e w2 ⟨rfl, hn⟩) | (go_at_call 72; (with_reducible refine (rSide_is bx b_y bx b_y x y v s HP16.out _ibx _ib_y _ibx _ib_y bn1 ba1 bl1 bc1 bn2 ba2 bl2 bc2 bn3 ba3 bl3 bc3 _ (HB1.out.of hb) (HB2.out.of hb) (HB3.out.of hb)).mono ?_); rintro e w2 ⟨rfl, hn⟩) | (go_at_call 70; (with_reducible refine (SegHolds_is bx b_y bx b_y x y v h HP17.out _ibx _ib_y _ibx _ib_y _ix _iy _iv  _).mono ?_); rintro e w2 ⟨rfl, hn⟩)))
      try replace hb := hb.trans (hn.mono hb.size)
      refine hK.out _ _ (up_iff.2 hb) ?_
      clear hK K
      try clear hn
      iterate 10
        refine wpS_takeL rfl rfl ?_
        go_big_quiet_step (rfl)
        refine wpQuiet_nil ?_
      refine wpS_doL rfl ?_
      intro K hK
      go_wp2_with ((first | (go_at_call 59; (with_reducible refine (SpRight_is x y v true HP4.out _ix _iy _iv  _).mono ?_); rintro e w2 ⟨rfl, hn⟩) | (go_at_call 69; (with_reducible refine (SegSide_is bx b_y bx b_y x y v s HP15.out _ibx _ib_y _ibx _ib_y _ix _iy _iv  _).mono ?_); rintro e w2 ⟨rfl, hn⟩) | (go_at_call 52; (with_reducible refine (cref_is bx b_y bx b_y HP12.out HP13.out _ibx _ib_y  _).mono ?_); rintro e w2 ⟨rfl, hn⟩) | (go_at_call 72; (with_reducible refine (rSide_is bx b_y bx b_y x y v s HP16.out _ibx _ib_y _ibx _ib_y bn1 ba1 bl1 bc1 bn2 ba2 bl2 bc2 bn3 ba3 bl3 bc3 _ (HB1.out.of hb) (HB2.out.of hb) (HB3.out.of hb)).mono ?_); rintro e w2 ⟨rfl, hn⟩) | (go_at_call 70; (with_reducible refine (SegHolds_is bx b_y bx b_y x y v h HP17.out _ibx _ib_y _ibx _ib_y _ix _iy _iv  _).mono ?_); rintro e w2 ⟨rfl, hn⟩)))
      try replace hb := hb.trans (hn.mono hb.size)
      refine hK.out _ _ (up_iff.2 hb) ?_
      clear hK K
      try clear hn
      refine wpS_doL rfl ?_
      intro K hK
      go_wp2_with ((first | (go_at_call 59; (with_reducible refine (SpRight_is x y v true HP4.out _ix _iy _iv  _).mono ?_); rintro e w2 ⟨rfl, hn⟩) | (go_at_call 69; (with_reducible refine (SegSide_is bx b_y bx b_y x y v s HP15.out _ibx _ib_y _ibx _ib_y _ix _iy _iv  _).mono ?_); rintro e w2 ⟨rfl, hn⟩) | (go_at_call 52; (with_reducible refine (cref_is bx b_y bx b_y HP12.out HP13.out _ibx _ib_y  _).mono ?_); rintro e w2 ⟨rfl, hn⟩) | (go_at_call 72; (with_reducible refine (rSide_is bx b_y bx b_y x y v s HP16.out _ibx _ib_y _ibx _ib_y bn1 ba1 bl1 bc1 bn2 ba2 bl2 bc2 bn3 ba3 bl3 bc3 _ (HB1.out.of hb) (HB2.out.of hb) (HB3.out.of hb)).mono ?_); rintro e w2 ⟨rfl, hn⟩) | (go_at_call 70; (with_reducible refine (SegHolds_is bx b_y bx b_y x y v h HP17.out _ibx _ib_y _ibx _ib_y _ix _iy _iv  _).mono ?_); rintro e w2 ⟨rfl, hn⟩)))
      try replace hb := hb.trans (hn.mono hb.size)
      refine hK.out _ _ (up_iff.2 hb) ?_
      clear hK K
      try clear hn
      refine wpS_doL rfl ?_
      intro K hK
      go_wp2_with ((first | (go_at_call 59; (with_reducible refine (SpRight_is x y v true HP4.out _ix _iy _iv  _).mono ?_); rintro e w2 ⟨rfl, hn⟩) | (go_at_call 69; (with_reducible refine (SegSide_is bx b_y bx b_y x y v s HP15.out _ibx _ib_y _ibx _ib_y _ix _iy _iv  _).mono ?_); rintro e w2 ⟨rfl, hn⟩) | (go_at_call 52; (with_reducible refine (cref_is bx b_y bx b_y HP12.out HP13.out _ibx _ib_y  _).mono ?_); rintro e w2 ⟨rfl, hn⟩) | (go_at_call 72; (with_reducible refine (rSide_is bx b_y bx b_y x y v s HP16.out _ibx _ib_y _ibx _ib_y bn1 ba1 bl1 bc1 bn2 ba2 bl2 bc2 bn3 ba3 bl3 bc3 _ (HB1.out.of hb) (HB2.out.of hb) (HB3.out.of hb)).mono ?_); rintro e w2 ⟨rfl, hn⟩) | (go_at_call 70; (with_reducible refine (SegHolds_is bx b_y bx b_y x y v h HP17.out _ibx _ib_y _ibx _ib_y _ix _iy _iv  _).mono ?_); rintro e w2 ⟨rfl, hn⟩)))
      try replace hb := hb.trans (hn.mono hb.size)
      refine hK.out _ _ (up_iff.2 hb) ?_
      clear hK K
      try clear hn
      refine wpS_nil ?_
      simp only [List.drop_succ_cons, List.drop_zero]
      first | refine calls_w ?_ | refine name_world ?_ | refine list_world ?_ | refine post_world ?_
      intro U17 hU17
      first | (subst hU17; have u_ := U17; clear u_) | (rw [← hU17] at hb; clear hU17)
      clear c1_0 c1_1 c1_2 c1_3 l1 c2_0 c2_1 c2_2 c2_3 c2_4 c2_5 c2_6 c2_7 c2_8 c2_9 c2_10 c2_11 l2 c3_0 c3_1 c3_2 c3_3 c3_4 c3_5 l3 c4_0 c4_1 l4 c5_0 c5_1 l5
      have k1 := Kk1.out.of hb
      clear Kk1
      have k2 := Kk2.out.of hb
      clear Kk2
      have k3 := Kk3.out.of hb
      clear Kk3
      have k4 := Kk4.out.of hb
      clear Kk4
      have k5 := Kk5.out.of hb
      clear Kk5
      replace HB1 := Lib.hid (HB1.out.of hb)
      replace HB2 := Lib.hid (HB2.out.of hb)
      replace HB3 := Lib.hid (HB3.out.of hb)
      replace hb0 := hb0.trans (hb.mono hb0.size)
      clear hb
      go_wp2_with fail
      refine (rHolds_is bx b_y bx b_y x y v h HP18.out _ibx _ib_y _ibx _ib_y bn1 ba1 bl1 bc1 bn2 ba2 bl2 bc2 bn3 ba3 bl3 bc3 _ HB1.out HB2.out HB3.out).mono ?_
      rintro e U18 ⟨rfl, hn⟩
      clear HB1 HB2 HB3
      clear k1 k2 k3 k4 k5
      replace hb0 := hb0.trans (hn.mono hb0.size)
      clear hn
      go_wp2_with fail
      refine (cawake_any _).mono ?_
      rintro e U19 ⟨rfl, hn⟩
      replace hb0 := hb0.trans (hn.mono hb0.size)
      clear hn
      go_wp2
      first | go_ret | go_ret2
      exact ⟨by first | rfl | (simp; done) | (simp; assumption), hb0⟩
end Go.Proofs.Ytlcbomjdbdgbmaa
