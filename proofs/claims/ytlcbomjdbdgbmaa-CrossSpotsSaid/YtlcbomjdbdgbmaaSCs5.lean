/- My texts CrL3, joined: what the last one needs of them. Conditions: as each lemma says. -/
import Derived.Test.YtlcbomjdbdgbmaaSCs4
import Derived.KernelRfl
import Derived.StillTail
import Derived.OrdersHeld
import Derived.Deep.Quiet
import Derived.Below
import Derived.WalkKit
import Derived.Test.YtlcbomjdbdgbmaaProg
import Derived.WalkSpells
import Derived.StillTactics
import Derived.Laws.Pointers
import Derived.Deep.RegionHeld3
import Derived.RowKit3
import Derived.Deep.QuietTactic
import Derived.BigQuiet
import Derived.BigRegion
import Derived.Lib.Hide
import Derived.WalkSmall
import Derived.Laws.BitsAllLaws
import Derived.IntWalk
import Derived.Deep.OwnRows
import Derived.Deep.LoopGhost
import Derived.Shelf.Bits.Mul64
import Derived.ProofKit
import Derived.OpenShut
import Derived.ShutString
import Derived.ChangeOld
import Derived.Lib.SmallJoins
import Derived.Laws.IdiomArrays
namespace Go.Proofs.Ytlcbomjdbdgbmaa
open Go.RowKit

theorem alCrL2_0 : AllocRuns Try.prog 72 #[.bool false, .slice none 0 0, .bool false, .slice none 0 0, .bool false, .slice none 0 0] := fun w => by kernel_rfl

set_option maxRecDepth 100000 in
set_option maxHeartbeats 4000000 in

theorem CSpots_1na (x : Int) (y : Int) (v : Int) (x2 : Int) (y2 : Int) (v2 : Int) (ax : Int) (ay : Int)    (hP0 : cspx x y v = x) (hP1 : cspy x y v = y) (hP2 : cspv x y v = v) (hP3 : cspx x2 y2 v2 = x2) (hP4 : cspy x2 y2 v2 = y2) (hP5 : cspv x2 y2 v2 = v2) (hP6 : crfx ax ay = ax) (hP7 : crfy ax ay = ay) (hP8 : spC x y v x2 y2 v2 = 0) (hP9 : rspR x y v = false) (hP10 : spR x y v = false) (hP11 : whk x y v = false) (hP12 : whx x y v = 0) (hP13 : why x y v = 0) (hP14 : rp ax ay = true) (hP15 : atx ax ay = ax) (hP16 : aty ax ay = ay) (hP17 : atw ax ay = 1) (hP18 : whk ax ay 1 = true) (hP19 : whx ax ay 1 = ax) (hP20 : why ax ay 1 = ay) (hP21 : rAtx ax ay = ax) (hP22 : rAty ax ay = ay) (hP23 : rAtw ax ay = 1) (_ix : InI x) (_iy : InI y) (_iv : InI v) (_ix2 : InI x2) (_iy2 : InI y2) (_iv2 : InI v2) (_iax : In64 ax) (_iay : In64 ay)  (w : World)  :
    Calls Try.prog 11 #[.agg #[.int .u64 (wd0 x), .int .u64 (wd1 x), .int .u64 (wd2 x), .int .u64 (wd3 x), .int .u64 (wd0 y), .int .u64 (wd1 y), .int .u64 (wd2 y), .int .u64 (wd3 y), .int .u64 (wd0 v), .int .u64 (wd1 v), .int .u64 (wd2 v), .int .u64 (wd3 v)], .agg #[.int .u64 (wd0 x2), .int .u64 (wd1 x2), .int .u64 (wd2 x2), .int .u64 (wd3 x2), .int .u64 (wd0 y2), .int .u64 (wd1 y2), .int .u64 (wd2 y2), .int .u64 (wd3 y2), .int .u64 (wd0 v2), .int .u64 (wd1 v2), .int .u64 (wd2 v2), .int .u64 (wd3 v2)], .agg #[.int .i64 ax, .int .i64 ay]] w fun e w' => e = .returned (.bool true) ∧ Below w.heap.size w w' := by

  have HP0 := Lib.hid hP0
  clear hP0
  have HP1 := Lib.hid hP1
  clear hP1
  have HP2 := Lib.hid hP2
  clear hP2
  have HP3 := Lib.hid hP3
  clear hP3
  have HP4 := Lib.hid hP4
  clear hP4
  have HP5 := Lib.hid hP5
  clear hP5
  have HP6 := Lib.hid hP6
  clear hP6
  have HP7 := Lib.hid hP7
  clear hP7
  have HP8 := Lib.hid hP8
  clear hP8
  have HP9 := Lib.hid hP9
  clear hP9
  have HP10 := Lib.hid hP10
  clear hP10
  have HP11 := Lib.hid hP11
  clear hP11
  have HP12 := Lib.hid hP12
  clear hP12
  have HP13 := Lib.hid hP13
  clear hP13
  have HP14 := Lib.hid hP14
  clear hP14
  have HP15 := Lib.hid hP15
  clear hP15
  have HP16 := Lib.hid hP16
  clear hP16
  have HP17 := Lib.hid hP17
  clear hP17
  have HP18 := Lib.hid hP18
  clear hP18
  have HP19 := Lib.hid hP19
  clear hP19
  have HP20 := Lib.hid hP20
  clear hP20
  have HP21 := Lib.hid hP21
  clear hP21
  have HP22 := Lib.hid hP22
  clear hP22
  have HP23 := Lib.hid hP23
  clear hP23
  go_enter Try.func11, Try.ntmps11
  go_wp2_with fail
  first | refine calls_w ?_ | refine name_world ?_ | refine list_world ?_ | refine post_world ?_
  intro V1 hV1
  have hn : Below w.heap.size w V1 := by rw [hV1]; exact below_a3 _ _ _ _
  have nhb0 := hn
  have k1 : Blk V1 w.heap.size #[.int .u64 (wd0 x), .int .u64 (wd1 x), .int .u64 (wd2 x), .int .u64 (wd3 x), .int .u64 (wd0 y), .int .u64 (wd1 y), .int .u64 (wd2 y), .int .u64 (wd3 y), .int .u64 (wd0 v), .int .u64 (wd1 v), .int .u64 (wd2 v), .int .u64 (wd3 v)] 67 := by rw [hV1]; exact (((Blk.new _ _ _).alloc _).alloc _)
  have k2 : Blk V1 (w.heap.size + 1) #[.int .u64 (wd0 x2), .int .u64 (wd1 x2), .int .u64 (wd2 x2), .int .u64 (wd3 x2), .int .u64 (wd0 y2), .int .u64 (wd1 y2), .int .u64 (wd2 y2), .int .u64 (wd3 y2), .int .u64 (wd0 v2), .int .u64 (wd1 v2), .int .u64 (wd2 v2), .int .u64 (wd3 v2)] 67 := by rw [hV1]; exact ((Blk.new1 _ _ _ _).alloc _)
  have k3 : Blk V1 (w.heap.size + 1 + 1) #[.int .i64 ax, .int .i64 ay] 24 := by rw [hV1]; exact (Blk.new2 _ _ _ _ _)
  clear hV1
  have hb0 := nhb0
  clear nhb0
  have c1_0 : V1.cell? ⟨w.heap.size, 0, none⟩ = some (.int .u64 (wd0 x)) := k1.cell 0
  have c1_1 : V1.cell? ⟨w.heap.size, 1, none⟩ = some (.int .u64 (wd1 x)) := k1.cell 1
  have c1_2 : V1.cell? ⟨w.heap.size, 2, none⟩ = some (.int .u64 (wd2 x)) := k1.cell 2
  have c1_3 : V1.cell? ⟨w.heap.size, 3, none⟩ = some (.int .u64 (wd3 x)) := k1.cell 3
  have c1_4 : V1.cell? ⟨w.heap.size, 4, none⟩ = some (.int .u64 (wd0 y)) := k1.cell 4
  have c1_5 : V1.cell? ⟨w.heap.size, 5, none⟩ = some (.int .u64 (wd1 y)) := k1.cell 5
  have c1_6 : V1.cell? ⟨w.heap.size, 6, none⟩ = some (.int .u64 (wd2 y)) := k1.cell 6
  have c1_7 : V1.cell? ⟨w.heap.size, 7, none⟩ = some (.int .u64 (wd3 y)) := k1.cell 7
  have c1_8 : V1.cell? ⟨w.heap.size, 8, none⟩ = some (.int .u64 (wd0 v)) := k1.cell 8
  have c1_9 : V1.cell? ⟨w.heap.size, 9, none⟩ = some (.int .u64 (wd1 v)) := k1.cell 9
  have c1_10 : V1.cell? ⟨w.heap.size, 10, none⟩ = some (.int .u64 (wd2 v)) := k1.cell 10
  have c1_11 : V1.cell? ⟨w.heap.size, 11, none⟩ = some (.int .u64 (wd3 v)) := k1.cell 11
  have l1 := k1.lt
  have c2_0 : V1.cell? ⟨(w.heap.size + 1), 0, none⟩ = some (.int .u64 (wd0 x2)) := k2.cell 0
  have c2_1 : V1.cell? ⟨(w.heap.size + 1), 1, none⟩ = some (.int .u64 (wd1 x2)) := k2.cell 1
  have c2_2 : V1.cell? ⟨(w.heap.size + 1), 2, none⟩ = some (.int .u64 (wd2 x2)) := k2.cell 2
  have c2_3 : V1.cell? ⟨(w.heap.size + 1), 3, none⟩ = some (.int .u64 (wd3 x2)) := k2.cell 3
  have c2_4 : V1.cell? ⟨(w.heap.size + 1), 4, none⟩ = some (.int .u64 (wd0 y2)) := k2.cell 4
  have c2_5 : V1.cell? ⟨(w.heap.size + 1), 5, none⟩ = some (.int .u64 (wd1 y2)) := k2.cell 5
  have c2_6 : V1.cell? ⟨(w.heap.size + 1), 6, none⟩ = some (.int .u64 (wd2 y2)) := k2.cell 6
  have c2_7 : V1.cell? ⟨(w.heap.size + 1), 7, none⟩ = some (.int .u64 (wd3 y2)) := k2.cell 7
  have c2_8 : V1.cell? ⟨(w.heap.size + 1), 8, none⟩ = some (.int .u64 (wd0 v2)) := k2.cell 8
  have c2_9 : V1.cell? ⟨(w.heap.size + 1), 9, none⟩ = some (.int .u64 (wd1 v2)) := k2.cell 9
  have c2_10 : V1.cell? ⟨(w.heap.size + 1), 10, none⟩ = some (.int .u64 (wd2 v2)) := k2.cell 10
  have c2_11 : V1.cell? ⟨(w.heap.size + 1), 11, none⟩ = some (.int .u64 (wd3 v2)) := k2.cell 11
  have l2 := k2.lt
  have Kk1 := Lib.hid k1
  clear k1
  have Kk2 := Lib.hid k2
  clear k2
  have Kk3 := Lib.hid k3
  clear k3
  refine wp_region_FG2 6 4 5 [(0, 0), (0, 2), (1, 1), (1, 3)] [(3, 6), (3, 7)] (by kernel_rfl) (by kernel_rfl) (fun _ _ d _ _ => by cases d <;> exact Iff.rfl) rfl rfl rfl alCrL2_0 rfl rfl rfl alCrL2_0 rfl ?_
  have hb : Below V1.heap.size V1 V1.drew := (Below.refl _ _).drew
  iterate 2
    refine wpFG_take0 rfl rfl ?_
    go_big_quiet_step (rfl)
    refine wpQuiet_nil ?_
  refine wpFG_do rfl ?_
  intro w1 hg K hK
  replace hb := hb.trans (hg.mono hb.size)
  try replace HB1 := Lib.hid (HB1.out.of hg); try replace HB2 := Lib.hid (HB2.out.of hg); try replace HB3 := Lib.hid (HB3.out.of hg); try replace HB4 := Lib.hid (HB4.out.of hg); try replace HB5 := Lib.hid (HB5.out.of hg); try replace HB6 := Lib.hid (HB6.out.of hg)
  clear hg
  go_wp2_with ((first | (go_at_call 55; (with_reducible refine (cspot_is x y v x y v HP0.out HP1.out HP2.out _ix _iy _iv  _).mono ?_); rintro e w2 ⟨bn1, ba1, bl1, bc1, bn2, ba2, bl2, bc2, bn3, ba3, bl3, bc3, rfl, hbm1, hbm2, hbm3, hn⟩; have HB1 := Lib.hid hbm1; have HB2 := Lib.hid hbm2; have HB3 := Lib.hid hbm3; clear hbm1 hbm2 hbm3) | (go_at_call 55; (with_reducible refine (cspot_is x2 y2 v2 x2 y2 v2 HP3.out HP4.out HP5.out _ix2 _iy2 _iv2  _).mono ?_); rintro e w2 ⟨bn4, ba4, bl4, bc4, bn5, ba5, bl5, bc5, bn6, ba6, bl6, bc6, rfl, hbm4, hbm5, hbm6, hn⟩; replace HB1 := Lib.hid (HB1.out.of hn); replace HB2 := Lib.hid (HB2.out.of hn); replace HB3 := Lib.hid (HB3.out.of hn); have HB4 := Lib.hid hbm4; have HB5 := Lib.hid hbm5; have HB6 := Lib.hid hbm6; clear hbm4 hbm5 hbm6)))
  refine hK.out _ _ hn ?_
  replace hb := hb.trans (hn.mono hb.size)
  clear hK K
  clear hn
  refine wpFG_do rfl ?_
  intro w1 hg K hK
  replace hb := hb.trans (hg.mono hb.size)
  try replace HB1 := Lib.hid (HB1.out.of hg); try replace HB2 := Lib.hid (HB2.out.of hg); try replace HB3 := Lib.hid (HB3.out.of hg); try replace HB4 := Lib.hid (HB4.out.of hg); try replace HB5 := Lib.hid (HB5.out.of hg); try replace HB6 := Lib.hid (HB6.out.of hg)
  clear hg
  go_wp2_with ((first | (go_at_call 55; (with_reducible refine (cspot_is x y v x y v HP0.out HP1.out HP2.out _ix _iy _iv  _).mono ?_); rintro e w2 ⟨bn1, ba1, bl1, bc1, bn2, ba2, bl2, bc2, bn3, ba3, bl3, bc3, rfl, hbm1, hbm2, hbm3, hn⟩; have HB1 := Lib.hid hbm1; have HB2 := Lib.hid hbm2; have HB3 := Lib.hid hbm3; clear hbm1 hbm2 hbm3) | (go_at_call 55; (with_reducible refine (cspot_is x2 y2 v2 x2 y2 v2 HP3.out HP4.out HP5.out _ix2 _iy2 _iv2  _).mono ?_); rintro e w2 ⟨bn4, ba4, bl4, bc4, bn5, ba5, bl5, bc5, bn6, ba6, bl6, bc6, rfl, hbm4, hbm5, hbm6, hn⟩; replace HB1 := Lib.hid (HB1.out.of hn); replace HB2 := Lib.hid (HB2.out.of hn); replace HB3 := Lib.hid (HB3.out.of hn); have HB4 := Lib.hid hbm4; have HB5 := Lib.hid hbm5; have HB6 := Lib.hid hbm6; clear hbm4 hbm5 hbm6)))
  refine hK.out _ _ hn ?_
  replace hb := hb.trans (hn.mono hb.size)
  clear hK K
  clear hn
  refine wpFG_nil ?_
  clear hb
  intro w1 hg hb b1 b2 hne lb1 nb1 lb2 nb2
  replace HB1 := Lib.hid (HB1.out.of hg)
  replace HB2 := Lib.hid (HB2.out.of hg)
  replace HB3 := Lib.hid (HB3.out.of hg)
  replace HB4 := Lib.hid (HB4.out.of hg)
  replace HB5 := Lib.hid (HB5.out.of hg)
  replace HB6 := Lib.hid (HB6.out.of hg)
  clear hg
  simp only [Act.put, ptrTo, List.setIfInBounds_toArray, List.set_cons_succ, List.set_cons_zero]
  have m1 : Blk w1 b1 #[.bool false, .slice none 0 0, .bool false, .slice none 0 0, .bool false, .slice none 0 0] 72 := nb1
  have mc1_0 : w1.cell? ⟨b1, 0, none⟩ = some (.bool false) := m1.cell 0
  have mf1_0 := m1.free 0
  have mc1_1 : w1.cell? ⟨b1, 1, none⟩ = some (.slice none 0 0) := m1.cell 1
  have mf1_1 := m1.free 1
  have mc1_2 : w1.cell? ⟨b1, 2, none⟩ = some (.bool false) := m1.cell 2
  have mf1_2 := m1.free 2
  have mc1_3 : w1.cell? ⟨b1, 3, none⟩ = some (.slice none 0 0) := m1.cell 3
  have mf1_3 := m1.free 3
  have mc1_4 : w1.cell? ⟨b1, 4, none⟩ = some (.bool false) := m1.cell 4
  have mf1_4 := m1.free 4
  have mc1_5 : w1.cell? ⟨b1, 5, none⟩ = some (.slice none 0 0) := m1.cell 5
  have mf1_5 := m1.free 5
  have m2 : Blk w1 b2 #[.bool false, .slice none 0 0, .bool false, .slice none 0 0, .bool false, .slice none 0 0] 72 := nb2
  have mc2_0 : w1.cell? ⟨b2, 0, none⟩ = some (.bool false) := m2.cell 0
  have mf2_0 := m2.free 0
  have mc2_1 : w1.cell? ⟨b2, 1, none⟩ = some (.slice none 0 0) := m2.cell 1
  have mf2_1 := m2.free 1
  have mc2_2 : w1.cell? ⟨b2, 2, none⟩ = some (.bool false) := m2.cell 2
  have mf2_2 := m2.free 2
  have mc2_3 : w1.cell? ⟨b2, 3, none⟩ = some (.slice none 0 0) := m2.cell 3
  have mf2_3 := m2.free 3
  have mc2_4 : w1.cell? ⟨b2, 4, none⟩ = some (.bool false) := m2.cell 4
  have mf2_4 := m2.free 4
  have mc2_5 : w1.cell? ⟨b2, 5, none⟩ = some (.slice none 0 0) := m2.cell 5
  have mf2_5 := m2.free 5
  refine wpG_do3 rfl ?_
  intro K hK
  go_wp2_with (fail)
  refine hK.out _ _ ?_
  clear hK K
  refine wpG_do3 rfl ?_
  intro K hK
  go_wp2_with (fail)
  refine hK.out _ _ ?_
  clear hK K
  refine wpG_nil ?_
  refine list_world ?_
  intro U2 hU2
  clear c1_0 c1_1 c1_2 c1_3 c1_4 c1_5 c1_6 c1_7 c1_8 c1_9 c1_10 c1_11 l1 c2_0 c2_1 c2_2 c2_3 c2_4 c2_5 c2_6 c2_7 c2_8 c2_9 c2_10 c2_11 l2
  have D1 := Lib.hid Kk1.out.lt
  have D2 := Lib.hid Kk2.out.lt
  have D3 := Lib.hid Kk3.out.lt
  have D4 := Lib.hid hb0.size
  have D5 := Lib.hid lb1
  have D6 := Lib.hid lb2
  have D7 := Lib.hid (show b1 ≠ b2 from hne)
  have k1 : Blk U2 w.heap.size #[.int .u64 (wd0 x), .int .u64 (wd1 x), .int .u64 (wd2 x), .int .u64 (wd3 x), .int .u64 (wd0 y), .int .u64 (wd1 y), .int .u64 (wd2 y), .int .u64 (wd3 y), .int .u64 (wd0 v), .int .u64 (wd1 v), .int .u64 (wd2 v), .int .u64 (wd3 v)] 67 := by rw [hU2]; exact (blk_setL (blk_setL (Kk1.out.of hb) (by have := D1.out; have := D5.out; omega) 0 [.bool bn1, .slice ba1 bl1 bc1, .bool bn2, .slice ba2 bl2 bc2, .bool bn3, .slice ba3 bl3 bc3]) (by have := D1.out; have := D6.out; omega) 0 [.bool bn4, .slice ba4 bl4 bc4, .bool bn5, .slice ba5 bl5 bc5, .bool bn6, .slice ba6 bl6 bc6])
  have k2 : Blk U2 (w.heap.size + 1) #[.int .u64 (wd0 x2), .int .u64 (wd1 x2), .int .u64 (wd2 x2), .int .u64 (wd3 x2), .int .u64 (wd0 y2), .int .u64 (wd1 y2), .int .u64 (wd2 y2), .int .u64 (wd3 y2), .int .u64 (wd0 v2), .int .u64 (wd1 v2), .int .u64 (wd2 v2), .int .u64 (wd3 v2)] 67 := by rw [hU2]; exact (blk_setL (blk_setL (Kk2.out.of hb) (by have := D2.out; have := D5.out; omega) 0 [.bool bn1, .slice ba1 bl1 bc1, .bool bn2, .slice ba2 bl2 bc2, .bool bn3, .slice ba3 bl3 bc3]) (by have := D2.out; have := D6.out; omega) 0 [.bool bn4, .slice ba4 bl4 bc4, .bool bn5, .slice ba5 bl5 bc5, .bool bn6, .slice ba6 bl6 bc6])
  have k3 : Blk U2 (w.heap.size + 1 + 1) #[.int .i64 ax, .int .i64 ay] 24 := by rw [hU2]; exact (blk_setL (blk_setL (Kk3.out.of hb) (by have := D3.out; have := D5.out; omega) 0 [.bool bn1, .slice ba1 bl1 bc1, .bool bn2, .slice ba2 bl2 bc2, .bool bn3, .slice ba3 bl3 bc3]) (by have := D3.out; have := D6.out; omega) 0 [.bool bn4, .slice ba4 bl4 bc4, .bool bn5, .slice ba5 bl5 bc5, .bool bn6, .slice ba6 bl6 bc6])
  have k4 : Blk U2 b1 #[.bool bn1, .slice ba1 bl1 bc1, .bool bn2, .slice ba2 bl2 bc2, .bool bn3, .slice ba3 bl3 bc3] 72 := by rw [hU2]; exact (blk_setL (blk_full _ [.bool bn1, .slice ba1 bl1 bc1, .bool bn2, .slice ba2 bl2 bc2, .bool bn3, .slice ba3 bl3 bc3] m1 rfl) (by have := D7.out; omega) 0 [.bool bn4, .slice ba4 bl4 bc4, .bool bn5, .slice ba5 bl5 bc5, .bool bn6, .slice ba6 bl6 bc6])
  have k5 : Blk U2 b2 #[.bool bn4, .slice ba4 bl4 bc4, .bool bn5, .slice ba5 bl5 bc5, .bool bn6, .slice ba6 bl6 bc6] 72 := by rw [hU2]; exact (blk_full _ [.bool bn4, .slice ba4 bl4 bc4, .bool bn5, .slice ba5 bl5 bc5, .bool bn6, .slice ba6 bl6 bc6] (blk_setL m2 (by have := D7.out; omega) 0 [.bool bn1, .slice ba1 bl1 bc1, .bool bn2, .slice ba2 bl2 bc2, .bool bn3, .slice ba3 bl3 bc3]) rfl)
  replace HB1 : Hid (Big U2 (.agg #[.bool bn1, .slice ba1 bl1 bc1]) x 18) := Lib.hid (by rw [hU2]; exact (big_setL (big_setL HB1.out (Blk.cell m1 0) (fun _ h => by cases h) 0 [.bool bn1, .slice ba1 bl1 bc1, .bool bn2, .slice ba2 bl2 bc2, .bool bn3, .slice ba3 bl3 bc3]) (Blk.cell (blk_setL m2 (by have := D7.out; omega) 0 [.bool bn1, .slice ba1 bl1 bc1, .bool bn2, .slice ba2 bl2 bc2, .bool bn3, .slice ba3 bl3 bc3]) 0) (fun _ h => by cases h) 0 [.bool bn4, .slice ba4 bl4 bc4, .bool bn5, .slice ba5 bl5 bc5, .bool bn6, .slice ba6 bl6 bc6]))
  replace HB2 : Hid (Big U2 (.agg #[.bool bn2, .slice ba2 bl2 bc2]) y 18) := Lib.hid (by rw [hU2]; exact (big_setL (big_setL HB2.out (Blk.cell m1 0) (fun _ h => by cases h) 0 [.bool bn1, .slice ba1 bl1 bc1, .bool bn2, .slice ba2 bl2 bc2, .bool bn3, .slice ba3 bl3 bc3]) (Blk.cell (blk_setL m2 (by have := D7.out; omega) 0 [.bool bn1, .slice ba1 bl1 bc1, .bool bn2, .slice ba2 bl2 bc2, .bool bn3, .slice ba3 bl3 bc3]) 0) (fun _ h => by cases h) 0 [.bool bn4, .slice ba4 bl4 bc4, .bool bn5, .slice ba5 bl5 bc5, .bool bn6, .slice ba6 bl6 bc6]))
  replace HB3 : Hid (Big U2 (.agg #[.bool bn3, .slice ba3 bl3 bc3]) v 18) := Lib.hid (by rw [hU2]; exact (big_setL (big_setL HB3.out (Blk.cell m1 0) (fun _ h => by cases h) 0 [.bool bn1, .slice ba1 bl1 bc1, .bool bn2, .slice ba2 bl2 bc2, .bool bn3, .slice ba3 bl3 bc3]) (Blk.cell (blk_setL m2 (by have := D7.out; omega) 0 [.bool bn1, .slice ba1 bl1 bc1, .bool bn2, .slice ba2 bl2 bc2, .bool bn3, .slice ba3 bl3 bc3]) 0) (fun _ h => by cases h) 0 [.bool bn4, .slice ba4 bl4 bc4, .bool bn5, .slice ba5 bl5 bc5, .bool bn6, .slice ba6 bl6 bc6]))
  replace HB4 : Hid (Big U2 (.agg #[.bool bn4, .slice ba4 bl4 bc4]) x2 18) := Lib.hid (by rw [hU2]; exact (big_setL (big_setL HB4.out (Blk.cell m1 0) (fun _ h => by cases h) 0 [.bool bn1, .slice ba1 bl1 bc1, .bool bn2, .slice ba2 bl2 bc2, .bool bn3, .slice ba3 bl3 bc3]) (Blk.cell (blk_setL m2 (by have := D7.out; omega) 0 [.bool bn1, .slice ba1 bl1 bc1, .bool bn2, .slice ba2 bl2 bc2, .bool bn3, .slice ba3 bl3 bc3]) 0) (fun _ h => by cases h) 0 [.bool bn4, .slice ba4 bl4 bc4, .bool bn5, .slice ba5 bl5 bc5, .bool bn6, .slice ba6 bl6 bc6]))
  replace HB5 : Hid (Big U2 (.agg #[.bool bn5, .slice ba5 bl5 bc5]) y2 18) := Lib.hid (by rw [hU2]; exact (big_setL (big_setL HB5.out (Blk.cell m1 0) (fun _ h => by cases h) 0 [.bool bn1, .slice ba1 bl1 bc1, .bool bn2, .slice ba2 bl2 bc2, .bool bn3, .slice ba3 bl3 bc3]) (Blk.cell (blk_setL m2 (by have := D7.out; omega) 0 [.bool bn1, .slice ba1 bl1 bc1, .bool bn2, .slice ba2 bl2 bc2, .bool bn3, .slice ba3 bl3 bc3]) 0) (fun _ h => by cases h) 0 [.bool bn4, .slice ba4 bl4 bc4, .bool bn5, .slice ba5 bl5 bc5, .bool bn6, .slice ba6 bl6 bc6]))
  replace HB6 : Hid (Big U2 (.agg #[.bool bn6, .slice ba6 bl6 bc6]) v2 18) := Lib.hid (by rw [hU2]; exact (big_setL (big_setL HB6.out (Blk.cell m1 0) (fun _ h => by cases h) 0 [.bool bn1, .slice ba1 bl1 bc1, .bool bn2, .slice ba2 bl2 bc2, .bool bn3, .slice ba3 bl3 bc3]) (Blk.cell (blk_setL m2 (by have := D7.out; omega) 0 [.bool bn1, .slice ba1 bl1 bc1, .bool bn2, .slice ba2 bl2 bc2, .bool bn3, .slice ba3 bl3 bc3]) 0) (fun _ h => by cases h) 0 [.bool bn4, .slice ba4 bl4 bc4, .bool bn5, .slice ba5 bl5 bc5, .bool bn6, .slice ba6 bl6 bc6]))
  replace hb0 : Below w.heap.size w U2 := by rw [hU2]; exact (blw_setL (blw_setL (hb0.trans (hb.mono hb0.size)) (by have := D4.out; have := D5.out; omega) 0 [.bool bn1, .slice ba1 bl1 bc1, .bool bn2, .slice ba2 bl2 bc2, .bool bn3, .slice ba3 bl3 bc3]) (by have := D4.out; have := D6.out; omega) 0 [.bool bn4, .slice ba4 bl4 bc4, .bool bn5, .slice ba5 bl5 bc5, .bool bn6, .slice ba6 bl6 bc6])
  clear hU2 hb Kk1 Kk2 Kk3 m1 nb1 lb1 mc1_0 mf1_0 mc1_1 mf1_1 mc1_2 mf1_2 mc1_3 mf1_3 mc1_4 mf1_4 mc1_5 mf1_5 m2 nb2 lb2 mc2_0 mf2_0 mc2_1 mf2_1 mc2_2 mf2_2 mc2_3 mf2_3 mc2_4 mf2_4 mc2_5 mf2_5 hne
  generalize b1 = q4 at *
  generalize b2 = q5 at *
  have c1_0 : U2.cell? ⟨w.heap.size, 0, none⟩ = some (.int .u64 (wd0 x)) := k1.cell 0
  have c1_1 : U2.cell? ⟨w.heap.size, 1, none⟩ = some (.int .u64 (wd1 x)) := k1.cell 1
  have c1_2 : U2.cell? ⟨w.heap.size, 2, none⟩ = some (.int .u64 (wd2 x)) := k1.cell 2
  have c1_3 : U2.cell? ⟨w.heap.size, 3, none⟩ = some (.int .u64 (wd3 x)) := k1.cell 3
  have c1_4 : U2.cell? ⟨w.heap.size, 4, none⟩ = some (.int .u64 (wd0 y)) := k1.cell 4
  have c1_5 : U2.cell? ⟨w.heap.size, 5, none⟩ = some (.int .u64 (wd1 y)) := k1.cell 5
  have c1_6 : U2.cell? ⟨w.heap.size, 6, none⟩ = some (.int .u64 (wd2 y)) := k1.cell 6
  have c1_7 : U2.cell? ⟨w.heap.size, 7, none⟩ = some (.int .u64 (wd3 y)) := k1.cell 7
  have c1_8 : U2.cell? ⟨w.heap.size, 8, none⟩ = some (.int .u64 (wd0 v)) := k1.cell 8
  have c1_9 : U2.cell? ⟨w.heap.size, 9, none⟩ = some (.int .u64 (wd1 v)) := k1.cell 9
  have c1_10 : U2.cell? ⟨w.heap.size, 10, none⟩ = some (.int .u64 (wd2 v)) := k1.cell 10
  have c1_11 : U2.cell? ⟨w.heap.size, 11, none⟩ = some (.int .u64 (wd3 v)) := k1.cell 11
  have l1 := k1.lt
  have c2_0 : U2.cell? ⟨(w.heap.size + 1), 0, none⟩ = some (.int .u64 (wd0 x2)) := k2.cell 0
  have c2_1 : U2.cell? ⟨(w.heap.size + 1), 1, none⟩ = some (.int .u64 (wd1 x2)) := k2.cell 1
  have c2_2 : U2.cell? ⟨(w.heap.size + 1), 2, none⟩ = some (.int .u64 (wd2 x2)) := k2.cell 2
  have c2_3 : U2.cell? ⟨(w.heap.size + 1), 3, none⟩ = some (.int .u64 (wd3 x2)) := k2.cell 3
  have c2_4 : U2.cell? ⟨(w.heap.size + 1), 4, none⟩ = some (.int .u64 (wd0 y2)) := k2.cell 4
  have c2_5 : U2.cell? ⟨(w.heap.size + 1), 5, none⟩ = some (.int .u64 (wd1 y2)) := k2.cell 5
  have c2_6 : U2.cell? ⟨(w.heap.size + 1), 6, none⟩ = some (.int .u64 (wd2 y2)) := k2.cell 6
  have c2_7 : U2.cell? ⟨(w.heap.size + 1), 7, none⟩ = some (.int .u64 (wd3 y2)) := k2.cell 7
  have c2_8 : U2.cell? ⟨(w.heap.size + 1), 8, none⟩ = some (.int .u64 (wd0 v2)) := k2.cell 8
  have c2_9 : U2.cell? ⟨(w.heap.size + 1), 9, none⟩ = some (.int .u64 (wd1 v2)) := k2.cell 9
  have c2_10 : U2.cell? ⟨(w.heap.size + 1), 10, none⟩ = some (.int .u64 (wd2 v2)) := k2.cell 10
  have c2_11 : U2.cell? ⟨(w.heap.size + 1), 11, none⟩ = some (.int .u64 (wd3 v2)) := k2.cell 11
  have l2 := k2.lt
  go_wp2_with fail
  clear c1_0 c1_1 c1_2 c1_3 c1_4 c1_5 c1_6 c1_7 c1_8 c1_9 c1_10 c1_11 l1 c2_0 c2_1 c2_2 c2_3 c2_4 c2_5 c2_6 c2_7 c2_8 c2_9 c2_10 c2_11 l2
  refine (SpCmp_is x y v x2 y2 v2 0 HP8.out _ix _iy _iv _ix2 _iy2 _iv2  _).mono ?_
  rintro e U3 ⟨rfl, hn⟩
  replace k1 := k1.of hn
  replace k2 := k2.of hn
  replace k3 := k3.of hn
  replace k4 := k4.of hn
  replace k5 := k5.of hn
  replace HB1 := Lib.hid (HB1.out.of hn)
  replace HB2 := Lib.hid (HB2.out.of hn)
  replace HB3 := Lib.hid (HB3.out.of hn)
  replace HB4 := Lib.hid (HB4.out.of hn)
  replace HB5 := Lib.hid (HB5.out.of hn)
  replace HB6 := Lib.hid (HB6.out.of hn)
  replace hb0 := hb0.trans (hn.mono hb0.size)
  clear hn
  have c4_0 : U3.cell? ⟨q4, 0, none⟩ = some (.bool bn1) := k4.cell 0
  have c4_1 : U3.cell? ⟨q4, 1, none⟩ = some (.slice ba1 bl1 bc1) := k4.cell 1
  have c4_2 : U3.cell? ⟨q4, 2, none⟩ = some (.bool bn2) := k4.cell 2
  have c4_3 : U3.cell? ⟨q4, 3, none⟩ = some (.slice ba2 bl2 bc2) := k4.cell 3
  have c4_4 : U3.cell? ⟨q4, 4, none⟩ = some (.bool bn3) := k4.cell 4
  have c4_5 : U3.cell? ⟨q4, 5, none⟩ = some (.slice ba3 bl3 bc3) := k4.cell 5
  have l4 := k4.lt
  go_wp2_with fail
  clear c4_0 c4_1 c4_2 c4_3 c4_4 c4_5 l4
  refine (rSpR_is x y v false HP9.out  bn1 ba1 bl1 bc1 bn2 ba2 bl2 bc2 bn3 ba3 bl3 bc3 _ HB1.out HB2.out HB3.out).mono ?_
  rintro e U4 ⟨rfl, hn⟩
  replace k1 := k1.of hn
  replace k2 := k2.of hn
  replace k3 := k3.of hn
  replace k4 := k4.of hn
  replace k5 := k5.of hn
  replace HB1 := Lib.hid (HB1.out.of hn)
  replace HB2 := Lib.hid (HB2.out.of hn)
  replace HB3 := Lib.hid (HB3.out.of hn)
  replace HB4 := Lib.hid (HB4.out.of hn)
  replace HB5 := Lib.hid (HB5.out.of hn)
  replace HB6 := Lib.hid (HB6.out.of hn)
  replace hb0 := hb0.trans (hn.mono hb0.size)
  clear hn
  go_wp2_with fail
  clear HB4 HB5 HB6
  clear k2 k5
  have c1_0 : U4.cell? ⟨w.heap.size, 0, none⟩ = some (.int .u64 (wd0 x)) := k1.cell 0
  have c1_1 : U4.cell? ⟨w.heap.size, 1, none⟩ = some (.int .u64 (wd1 x)) := k1.cell 1
  have c1_2 : U4.cell? ⟨w.heap.size, 2, none⟩ = some (.int .u64 (wd2 x)) := k1.cell 2
  have c1_3 : U4.cell? ⟨w.heap.size, 3, none⟩ = some (.int .u64 (wd3 x)) := k1.cell 3
  have c1_4 : U4.cell? ⟨w.heap.size, 4, none⟩ = some (.int .u64 (wd0 y)) := k1.cell 4
  have c1_5 : U4.cell? ⟨w.heap.size, 5, none⟩ = some (.int .u64 (wd1 y)) := k1.cell 5
  have c1_6 : U4.cell? ⟨w.heap.size, 6, none⟩ = some (.int .u64 (wd2 y)) := k1.cell 6
  have c1_7 : U4.cell? ⟨w.heap.size, 7, none⟩ = some (.int .u64 (wd3 y)) := k1.cell 7
  have c1_8 : U4.cell? ⟨w.heap.size, 8, none⟩ = some (.int .u64 (wd0 v)) := k1.cell 8
  have c1_9 : U4.cell? ⟨w.heap.size, 9, none⟩ = some (.int .u64 (wd1 v)) := k1.cell 9
  have c1_10 : U4.cell? ⟨w.heap.size, 10, none⟩ = some (.int .u64 (wd2 v)) := k1.cell 10
  have c1_11 : U4.cell? ⟨w.heap.size, 11, none⟩ = some (.int .u64 (wd3 v)) := k1.cell 11
  have l1 := k1.lt
  have c4_0 : U4.cell? ⟨q4, 0, none⟩ = some (.bool bn1) := k4.cell 0
  have c4_1 : U4.cell? ⟨q4, 1, none⟩ = some (.slice ba1 bl1 bc1) := k4.cell 1
  have c4_2 : U4.cell? ⟨q4, 2, none⟩ = some (.bool bn2) := k4.cell 2
  have c4_3 : U4.cell? ⟨q4, 3, none⟩ = some (.slice ba2 bl2 bc2) := k4.cell 3
  have c4_4 : U4.cell? ⟨q4, 4, none⟩ = some (.bool bn3) := k4.cell 4
  have c4_5 : U4.cell? ⟨q4, 5, none⟩ = some (.slice ba3 bl3 bc3) := k4.cell 5
  have l4 := k4.lt
  have Kk1 := Lib.hid k1
  clear k1
  have Kk3 := Lib.hid k3
  clear k3
  have Kk4 := Lib.hid k4
  clear k4
  refine wp_region_up U4.heap.size 6 [(true, 0), (true, 1), (true, 2), (true, 3), (true, 5), (false, 4)] (by kernel_rfl) (by kernel_rfl) (fun _ _ d _ _ h => by cases d <;> exact h) ?_
  have hb : Below U4.heap.size U4 U4.drew := (Below.refl _ _).drew
  iterate 5
    refine wpS_takeL rfl rfl ?_
    go_big_quiet_step (rfl)
    refine wpQuiet_nil ?_
  refine wpS_doL rfl ?_
  intro K hK
  go_wp2_with ((go_at_call 59; (with_reducible refine (SpRight_is x y v false HP10.out _ix _iy _iv  _).mono ?_); rintro e w2 ⟨rfl, hn⟩))
  try replace hb := hb.trans (hn.mono hb.size)
  refine hK.out _ _ (up_iff.2 hb) ?_
  clear hK K
  try clear hn
  refine wpS_nil ?_
  simp only [List.drop_succ_cons, List.drop_zero]
  first | refine calls_w ?_ | refine name_world ?_ | refine list_world ?_ | refine post_world ?_
  intro U5 hU5
  first | (subst hU5; have u_ := U5; clear u_) | (rw [← hU5] at hb; clear hU5)
  clear c1_0 c1_1 c1_2 c1_3 c1_4 c1_5 c1_6 c1_7 c1_8 c1_9 c1_10 c1_11 l1 c4_0 c4_1 c4_2 c4_3 c4_4 c4_5 l4
  have k1 := Kk1.out.of hb
  clear Kk1
  have k3 := Kk3.out.of hb
  clear Kk3
  have k4 := Kk4.out.of hb
  clear Kk4
  replace HB1 := Lib.hid (HB1.out.of hb)
  replace HB2 := Lib.hid (HB2.out.of hb)
  replace HB3 := Lib.hid (HB3.out.of hb)
  replace hb0 := hb0.trans (hb.mono hb0.size)
  clear hb
  go_wp2_with fail
  refine (rSpR_is x y v false HP9.out  bn1 ba1 bl1 bc1 bn2 ba2 bl2 bc2 bn3 ba3 bl3 bc3 _ HB1.out HB2.out HB3.out).mono ?_
  rintro e U6 ⟨rfl, hn⟩
  replace k1 := k1.of hn
  replace k3 := k3.of hn
  replace k4 := k4.of hn
  replace HB1 := Lib.hid (HB1.out.of hn)
  replace HB2 := Lib.hid (HB2.out.of hn)
  replace HB3 := Lib.hid (HB3.out.of hn)
  replace hb0 := hb0.trans (hn.mono hb0.size)
  clear hn
  have c1_0 : U6.cell? ⟨w.heap.size, 0, none⟩ = some (.int .u64 (wd0 x)) := k1.cell 0
  have c1_1 : U6.cell? ⟨w.heap.size, 1, none⟩ = some (.int .u64 (wd1 x)) := k1.cell 1
  have c1_2 : U6.cell? ⟨w.heap.size, 2, none⟩ = some (.int .u64 (wd2 x)) := k1.cell 2
  have c1_3 : U6.cell? ⟨w.heap.size, 3, none⟩ = some (.int .u64 (wd3 x)) := k1.cell 3
  have c1_4 : U6.cell? ⟨w.heap.size, 4, none⟩ = some (.int .u64 (wd0 y)) := k1.cell 4
  have c1_5 : U6.cell? ⟨w.heap.size, 5, none⟩ = some (.int .u64 (wd1 y)) := k1.cell 5
  have c1_6 : U6.cell? ⟨w.heap.size, 6, none⟩ = some (.int .u64 (wd2 y)) := k1.cell 6
  have c1_7 : U6.cell? ⟨w.heap.size, 7, none⟩ = some (.int .u64 (wd3 y)) := k1.cell 7
  have c1_8 : U6.cell? ⟨w.heap.size, 8, none⟩ = some (.int .u64 (wd0 v)) := k1.cell 8
  have c1_9 : U6.cell? ⟨w.heap.size, 9, none⟩ = some (.int .u64 (wd1 v)) := k1.cell 9
  have c1_10 : U6.cell? ⟨w.heap.size, 10, none⟩ = some (.int .u64 (wd2 v)) := k1.cell 10
  have c1_11 : U6.cell? ⟨w.heap.size, 11, none⟩ = some (.int .u64 (wd3 v)) := k1.cell 11
  have l1 := k1.lt
  go_wp2_with fail
  clear c1_0 c1_1 c1_2 c1_3 c1_4 c1_5 c1_6 c1_7 c1_8 c1_9 c1_10 c1_11 l1
  refine (Whole_is x y v 0 0 false HP12.out HP13.out HP11.out _ix _iy _iv  _).mono ?_
  rintro e U7 ⟨rfl, hn⟩
  clear k1
  replace k3 := k3.of hn
  replace k4 := k4.of hn
  replace HB1 := Lib.hid (HB1.out.of hn)
  replace HB2 := Lib.hid (HB2.out.of hn)
  replace HB3 := Lib.hid (HB3.out.of hn)
  replace hb0 := hb0.trans (hn.mono hb0.size)
  clear hn
  go_wp2_with fail
  first | refine calls_w ?_ | refine name_world ?_ | refine list_world ?_ | refine post_world ?_
  intro V8 hV8
  have D8 := Lib.hid k3.lt
  have D9 := Lib.hid k4.lt
  have D10 := Lib.hid hb0.size
  have hn : Below U7.heap.size U7 V8 := by rw [hV8]; exact below_a1 _ _
  have nk3 := k3.of hn
  have nk4 := k4.of hn
  replace HB1 := Lib.hid (HB1.out.of hn)
  replace HB2 := Lib.hid (HB2.out.of hn)
  replace HB3 := Lib.hid (HB3.out.of hn)
  have nhb0 := hb0.trans (hn.mono hb0.size)
  clear hn
  have k6 : Blk V8 U7.heap.size #[.int .i64 0, .int .i64 0] 24 := by rw [hV8]; exact (Blk.new _ _ _)
  clear k3 k4
  clear hb0
  clear hV8
  have k3 := nk3
  clear nk3
  have k4 := nk4
  clear nk4
  have hb0 := nhb0
  clear nhb0
  have c6_0 : V8.cell? ⟨U7.heap.size, 0, none⟩ = some (.int .i64 0) := k6.cell 0
  have c6_1 : V8.cell? ⟨U7.heap.size, 1, none⟩ = some (.int .i64 0) := k6.cell 1
  have l6 := k6.lt
  have Kk3 := Lib.hid k3
  clear k3
  have Kk4 := Lib.hid k4
  clear k4
  have Kk6 := Lib.hid k6
  clear k6
  refine wp_region_up V8.heap.size 20 [(true, 0), (true, 1), (true, 2), (false, 3), (true, 4), (true, 5), (true, 6), (true, 9), (false, 7), (false, 8), (false, 10), (true, 11), (true, 12), (true, 13), (true, 14), (true, 15), (true, 16), (true, 17), (true, 18), (true, 19)] (by kernel_rfl) (by kernel_rfl) (fun _ _ d _ _ h => by cases d <;> exact h) ?_
  have hb : Below V8.heap.size V8 V8.drew := (Below.refl _ _).drew
  iterate 3
    refine wpS_takeL rfl rfl ?_
    go_big_quiet_step (rfl)
    refine wpQuiet_nil ?_
  refine wpS_doL rfl ?_
  intro K hK
  go_wp2_with (fail)
  try replace hb := hb.trans (hn.mono hb.size)
  refine hK.out _ _ (up_iff.2 hb) ?_
  clear hK K
  try clear hn
  iterate 4
    refine wpS_takeL rfl rfl ?_
    go_big_quiet_step (rfl)
    refine wpQuiet_nil ?_
  refine wpS_doL rfl ?_
  intro K hK
  go_wp2_with (fail)
  try replace hb := hb.trans (hn.mono hb.size)
  refine hK.out _ _ (up_iff.2 hb) ?_
  clear hK K
  try clear hn
  refine wpS_doL rfl ?_
  intro K hK
  go_wp2_with (fail)
  try replace hb := hb.trans (hn.mono hb.size)
  refine hK.out _ _ (up_iff.2 hb) ?_
  clear hK K
  try clear hn
  refine wpS_doL rfl ?_
  intro K hK
  go_wp2_with (fail)
  try replace hb := hb.trans (hn.mono hb.size)
  refine hK.out _ _ (up_iff.2 hb) ?_
  clear hK K
  try clear hn
  iterate 9
    refine wpS_takeL rfl rfl ?_
    go_big_quiet_step (rfl)
    refine wpQuiet_nil ?_
  refine wpS_nil ?_
  simp only [List.drop_succ_cons, List.drop_zero]
  first | refine calls_w ?_ | refine name_world ?_ | refine list_world ?_ | refine post_world ?_
  intro U9 hU9
  first | (subst hU9; have u_ := U9; clear u_) | (rw [← hU9] at hb; clear hU9)
  clear c6_0 c6_1 l6
  have k3 := Kk3.out.of hb
  clear Kk3
  have k4 := Kk4.out.of hb
  clear Kk4
  have k6 := Kk6.out.of hb
  clear Kk6
  replace HB1 := Lib.hid (HB1.out.of hb)
  replace HB2 := Lib.hid (HB2.out.of hb)
  replace HB3 := Lib.hid (HB3.out.of hb)
  replace hb0 := hb0.trans (hb.mono hb0.size)
  clear hb
  have c3_0 : U9.cell? ⟨(w.heap.size + 1 + 1), 0, none⟩ = some (.int .i64 ax) := k3.cell 0
  have c3_1 : U9.cell? ⟨(w.heap.size + 1 + 1), 1, none⟩ = some (.int .i64 ay) := k3.cell 1
  have l3 := k3.lt
  go_wp2_with fail
  clear c3_0 c3_1 l3
  refine (crAt_is ax ay ax ay 1 HP15.out HP16.out HP17.out _iax _iay  _).mono ?_
  rintro e U10 ⟨rfl, hn⟩
  clear k6
  replace k3 := k3.of hn
  replace k4 := k4.of hn
  replace HB1 := Lib.hid (HB1.out.of hn)
  replace HB2 := Lib.hid (HB2.out.of hn)
  replace HB3 := Lib.hid (HB3.out.of hn)
  replace hb0 := hb0.trans (hn.mono hb0.size)
  clear hn
  have c3_0 : U10.cell? ⟨(w.heap.size + 1 + 1), 0, none⟩ = some (.int .i64 ax) := k3.cell 0
  have c3_1 : U10.cell? ⟨(w.heap.size + 1 + 1), 1, none⟩ = some (.int .i64 ay) := k3.cell 1
  have l3 := k3.lt
  have l3_0 : w.heap.size < U10.heap.size := by have := k3.lt; omega
  have l3_1 : w.heap.size + 1 < U10.heap.size := by have := k3.lt; omega
  go_wp2_with fail
  clear c3_0 c3_1 l3 l3_0 l3_1
  first | refine calls_w ?_ | refine name_world ?_ | refine list_world ?_ | refine post_world ?_
  intro V11 hV11
  have D11 := Lib.hid k3.lt
  have D12 := Lib.hid k4.lt
  have D13 := Lib.hid hb0.size
  have hn : Below U10.heap.size U10 V11 := by rw [hV11]; exact below_a1 _ _
  have nk3 := k3.of hn
  have nk4 := k4.of hn
  replace HB1 := Lib.hid (HB1.out.of hn)
  replace HB2 := Lib.hid (HB2.out.of hn)
  replace HB3 := Lib.hid (HB3.out.of hn)
  have nhb0 := hb0.trans (hn.mono hb0.size)
  clear hn
  have k7 : Blk V11 U10.heap.size #[.int .u64 (wd0 ax), .int .u64 (wd1 ax), .int .u64 (wd2 ax), .int .u64 (wd3 ax), .int .u64 (wd0 ay), .int .u64 (wd1 ay), .int .u64 (wd2 ay), .int .u64 (wd3 ay), .int .u64 (wd0 1), .int .u64 (wd1 1), .int .u64 (wd2 1), .int .u64 (wd3 1)] 67 := by rw [hV11]; exact (Blk.new _ _ _)
  clear k3 k4
  clear hb0
  clear hV11
  have k3 := nk3
  clear nk3
  have k4 := nk4
  clear nk4
  have hb0 := nhb0
  clear nhb0
  refine (cref_is ax ay ax ay HP6.out HP7.out _iax _iay  _).mono ?_
  rintro e U12 ⟨rfl, hn⟩
  replace k3 := k3.of hn
  replace k4 := k4.of hn
  replace k7 := k7.of hn
  replace HB1 := Lib.hid (HB1.out.of hn)
  replace HB2 := Lib.hid (HB2.out.of hn)
  replace HB3 := Lib.hid (HB3.out.of hn)
  replace hb0 := hb0.trans (hn.mono hb0.size)
  clear hn
  go_wp2_with fail
  refine (rRight_v ax ay true HP14.out _).mono ?_
  rintro e U13 ⟨rfl, hn⟩
  replace k3 := k3.of hn
  replace k4 := k4.of hn
  replace k7 := k7.of hn
  replace HB1 := Lib.hid (HB1.out.of hn)
  replace HB2 := Lib.hid (HB2.out.of hn)
  replace HB3 := Lib.hid (HB3.out.of hn)
  replace hb0 := hb0.trans (hn.mono hb0.size)
  clear hn
  have c7_0 : U13.cell? ⟨U10.heap.size, 0, none⟩ = some (.int .u64 (wd0 ax)) := k7.cell 0
  have c7_1 : U13.cell? ⟨U10.heap.size, 1, none⟩ = some (.int .u64 (wd1 ax)) := k7.cell 1
  have c7_2 : U13.cell? ⟨U10.heap.size, 2, none⟩ = some (.int .u64 (wd2 ax)) := k7.cell 2
  have c7_3 : U13.cell? ⟨U10.heap.size, 3, none⟩ = some (.int .u64 (wd3 ax)) := k7.cell 3
  have c7_4 : U13.cell? ⟨U10.heap.size, 4, none⟩ = some (.int .u64 (wd0 ay)) := k7.cell 4
  have c7_5 : U13.cell? ⟨U10.heap.size, 5, none⟩ = some (.int .u64 (wd1 ay)) := k7.cell 5
  have c7_6 : U13.cell? ⟨U10.heap.size, 6, none⟩ = some (.int .u64 (wd2 ay)) := k7.cell 6
  have c7_7 : U13.cell? ⟨U10.heap.size, 7, none⟩ = some (.int .u64 (wd3 ay)) := k7.cell 7
  have c7_8 : U13.cell? ⟨U10.heap.size, 8, none⟩ = some (.int .u64 (wd0 1)) := k7.cell 8
  have c7_9 : U13.cell? ⟨U10.heap.size, 9, none⟩ = some (.int .u64 (wd1 1)) := k7.cell 9
  have c7_10 : U13.cell? ⟨U10.heap.size, 10, none⟩ = some (.int .u64 (wd2 1)) := k7.cell 10
  have c7_11 : U13.cell? ⟨U10.heap.size, 11, none⟩ = some (.int .u64 (wd3 1)) := k7.cell 11
  have l7 := k7.lt
  go_wp2_with fail
  clear c7_0 c7_1 c7_2 c7_3 c7_4 c7_5 c7_6 c7_7 c7_8 c7_9 c7_10 c7_11 l7
  refine (Whole_is ax ay 1 ax ay true HP19.out HP20.out HP18.out (in64_I' _iax) (in64_I' _iay) (by unfold InI b255; omega)  _).mono ?_
  rintro e U14 ⟨rfl, hn⟩
  replace k3 := k3.of hn
  replace k4 := k4.of hn
  replace k7 := k7.of hn
  replace HB1 := Lib.hid (HB1.out.of hn)
  replace HB2 := Lib.hid (HB2.out.of hn)
  replace HB3 := Lib.hid (HB3.out.of hn)
  replace hb0 := hb0.trans (hn.mono hb0.size)
  clear hn
  go_wp2_with fail
  first | refine calls_w ?_ | refine name_world ?_ | refine list_world ?_ | refine post_world ?_
  intro V15 hV15
  have D14 := Lib.hid k3.lt
  have D15 := Lib.hid k4.lt
  have D16 := Lib.hid k7.lt
  have D17 := Lib.hid hb0.size
  have hn : Below U14.heap.size U14 V15 := by rw [hV15]; exact below_a1 _ _
  have nk3 := k3.of hn
  have nk4 := k4.of hn
  have nk7 := k7.of hn
  replace HB1 := Lib.hid (HB1.out.of hn)
  replace HB2 := Lib.hid (HB2.out.of hn)
  replace HB3 := Lib.hid (HB3.out.of hn)
  have nhb0 := hb0.trans (hn.mono hb0.size)
  clear hn
  have k8 : Blk V15 U14.heap.size #[.int .i64 ax, .int .i64 ay] 24 := by rw [hV15]; exact (Blk.new _ _ _)
  clear k3 k4 k7
  clear hb0
  clear hV15
  have k3 := nk3
  clear nk3
  have k4 := nk4
  clear nk4
  have k7 := nk7
  clear nk7
  have hb0 := nhb0
  clear nhb0
  have c3_0 : V15.cell? ⟨(w.heap.size + 1 + 1), 0, none⟩ = some (.int .i64 ax) := k3.cell 0
  have c3_1 : V15.cell? ⟨(w.heap.size + 1 + 1), 1, none⟩ = some (.int .i64 ay) := k3.cell 1
  have l3 := k3.lt
  have c7_0 : V15.cell? ⟨U10.heap.size, 0, none⟩ = some (.int .u64 (wd0 ax)) := k7.cell 0
  have c7_1 : V15.cell? ⟨U10.heap.size, 1, none⟩ = some (.int .u64 (wd1 ax)) := k7.cell 1
  have c7_2 : V15.cell? ⟨U10.heap.size, 2, none⟩ = some (.int .u64 (wd2 ax)) := k7.cell 2
  have c7_3 : V15.cell? ⟨U10.heap.size, 3, none⟩ = some (.int .u64 (wd3 ax)) := k7.cell 3
  have c7_4 : V15.cell? ⟨U10.heap.size, 4, none⟩ = some (.int .u64 (wd0 ay)) := k7.cell 4
  have c7_5 : V15.cell? ⟨U10.heap.size, 5, none⟩ = some (.int .u64 (wd1 ay)) := k7.cell 5
  have c7_6 : V15.cell? ⟨U10.heap.size, 6, none⟩ = some (.int .u64 (wd2 ay)) := k7.cell 6
  have c7_7 : V15.cell? ⟨U10.heap.size, 7, none⟩ = some (.int .u64 (wd3 ay)) := k7.cell 7
  have c7_8 : V15.cell? ⟨U10.heap.size, 8, none⟩ = some (.int .u64 (wd0 1)) := k7.cell 8
  have c7_9 : V15.cell? ⟨U10.heap.size, 9, none⟩ = some (.int .u64 (wd1 1)) := k7.cell 9
  have c7_10 : V15.cell? ⟨U10.heap.size, 10, none⟩ = some (.int .u64 (wd2 1)) := k7.cell 10
  have c7_11 : V15.cell? ⟨U10.heap.size, 11, none⟩ = some (.int .u64 (wd3 1)) := k7.cell 11
  have l7 := k7.lt
  have c8_0 : V15.cell? ⟨U14.heap.size, 0, none⟩ = some (.int .i64 ax) := k8.cell 0
  have c8_1 : V15.cell? ⟨U14.heap.size, 1, none⟩ = some (.int .i64 ay) := k8.cell 1
  have l8 := k8.lt
  have Kk3 := Lib.hid k3
  clear k3
  have Kk4 := Lib.hid k4
  clear k4
  have Kk7 := Lib.hid k7
  clear k7
  have Kk8 := Lib.hid k8
  clear k8
  refine wp_region_up V15.heap.size 17 [(true, 0), (true, 1), (true, 2), (true, 3), (true, 4), (true, 5), (true, 6), (true, 7), (true, 8), (true, 9), (true, 10), (true, 12), (true, 13), (false, 11), (false, 14), (false, 15), (true, 16)] (by kernel_rfl) (by kernel_rfl) (fun _ _ d _ _ h => by cases d <;> exact h) ?_
  have hb : Below V15.heap.size V15 V15.drew := (Below.refl _ _).drew
  iterate 13
    refine wpS_takeL rfl rfl ?_
    go_big_quiet_step (rfl)
    refine wpQuiet_nil ?_
  refine wpS_doL rfl ?_
  intro K hK
  go_wp2_with ((first | (go_at_call 62; (with_reducible refine (Of_v ax ax rfl _iax _).mono ?_); rintro e w2 ⟨rfl, hn⟩) | (go_at_call 62; (with_reducible refine (Of_v ay ay rfl _iay _).mono ?_); rintro e w2 ⟨rfl, hn⟩) | (go_at_call 62; (with_reducible refine (Of_v 1 1 rfl (by unfold In64; omega) _).mono ?_); rintro e w2 ⟨rfl, hn⟩)))
  try replace hb := hb.trans (hn.mono hb.size)
  refine hK.out _ _ (up_iff.2 hb) ?_
  clear hK K
  try clear hn
  refine wpS_doL rfl ?_
  intro K hK
  go_wp2_with ((first | (go_at_call 62; (with_reducible refine (Of_v ax ax rfl _iax _).mono ?_); rintro e w2 ⟨rfl, hn⟩) | (go_at_call 62; (with_reducible refine (Of_v ay ay rfl _iay _).mono ?_); rintro e w2 ⟨rfl, hn⟩) | (go_at_call 62; (with_reducible refine (Of_v 1 1 rfl (by unfold In64; omega) _).mono ?_); rintro e w2 ⟨rfl, hn⟩)))
  try replace hb := hb.trans (hn.mono hb.size)
  refine hK.out _ _ (up_iff.2 hb) ?_
  clear hK K
  try clear hn
  refine wpS_doL rfl ?_
  intro K hK
  go_wp2_with ((first | (go_at_call 62; (with_reducible refine (Of_v ax ax rfl _iax _).mono ?_); rintro e w2 ⟨rfl, hn⟩) | (go_at_call 62; (with_reducible refine (Of_v ay ay rfl _iay _).mono ?_); rintro e w2 ⟨rfl, hn⟩) | (go_at_call 62; (with_reducible refine (Of_v 1 1 rfl (by unfold In64; omega) _).mono ?_); rintro e w2 ⟨rfl, hn⟩)))
  try replace hb := hb.trans (hn.mono hb.size)
  refine hK.out _ _ (up_iff.2 hb) ?_
  clear hK K
  try clear hn
  refine wpS_takeL rfl rfl ?_
  go_big_quiet_step (rfl)
  refine wpQuiet_nil ?_
  refine wpS_nil ?_
  simp only [List.drop_succ_cons, List.drop_zero]
  first | refine calls_w ?_ | refine name_world ?_ | refine list_world ?_ | refine post_world ?_
  intro U16 hU16
  first | (subst hU16; have u_ := U16; clear u_) | (rw [← hU16] at hb; clear hU16)
  clear c3_0 c3_1 l3 c7_0 c7_1 c7_2 c7_3 c7_4 c7_5 c7_6 c7_7 c7_8 c7_9 c7_10 c7_11 l7 c8_0 c8_1 l8
  have k3 := Kk3.out.of hb
  clear Kk3
  have k4 := Kk4.out.of hb
  clear Kk4
  have k7 := Kk7.out.of hb
  clear Kk7
  have k8 := Kk8.out.of hb
  clear Kk8
  replace HB1 := Lib.hid (HB1.out.of hb)
  replace HB2 := Lib.hid (HB2.out.of hb)
  replace HB3 := Lib.hid (HB3.out.of hb)
  replace hb0 := hb0.trans (hb.mono hb0.size)
  clear hb
  go_wp2_with fail
  clear k7 k8
  have c4_0 : U16.cell? ⟨q4, 0, none⟩ = some (.bool bn1) := k4.cell 0
  have c4_1 : U16.cell? ⟨q4, 1, none⟩ = some (.slice ba1 bl1 bc1) := k4.cell 1
  have c4_2 : U16.cell? ⟨q4, 2, none⟩ = some (.bool bn2) := k4.cell 2
  have c4_3 : U16.cell? ⟨q4, 3, none⟩ = some (.slice ba2 bl2 bc2) := k4.cell 3
  have c4_4 : U16.cell? ⟨q4, 4, none⟩ = some (.bool bn3) := k4.cell 4
  have c4_5 : U16.cell? ⟨q4, 5, none⟩ = some (.slice ba3 bl3 bc3) := k4.cell 5
  have l4 := k4.lt
  have Kk3 := Lib.hid k3
  clear k3
  have Kk4 := Lib.hid k4
  clear k4
  refine wp_region_up U16.heap.size 11 [(true, 0), (true, 1), (true, 2), (false, 3), (true, 4), (true, 5), (true, 6), (true, 7), (true, 10), (false, 8), (false, 9)] (by kernel_rfl) (by kernel_rfl) (fun _ _ d _ _ h => by cases d <;> exact h) ?_
  have hb : Below U16.heap.size U16 U16.drew := (Below.refl _ _).drew
  iterate 3
    refine wpS_takeL rfl rfl ?_
    go_big_quiet_step (rfl)
    refine wpQuiet_nil ?_
  refine wpS_doL rfl ?_
  intro K hK
  go_wp2_with ((go_at_call 41; (with_reducible refine (rSpR_is x y v false HP9.out  bn1 ba1 bl1 bc1 bn2 ba2 bl2 bc2 bn3 ba3 bl3 bc3 _ (HB1.out.of hb) (HB2.out.of hb) (HB3.out.of hb)).mono ?_); rintro e w2 ⟨rfl, hn⟩))
  try replace hb := hb.trans (hn.mono hb.size)
  refine hK.out _ _ (up_iff.2 hb) ?_
  clear hK K
  try clear hn
  iterate 5
    refine wpS_takeL rfl rfl ?_
    go_big_quiet_step (rfl)
    refine wpQuiet_nil ?_
  refine wpS_doL rfl ?_
  intro K hK
  go_wp2_with ((go_at_call 41; (with_reducible refine (rSpR_is x y v false HP9.out  bn1 ba1 bl1 bc1 bn2 ba2 bl2 bc2 bn3 ba3 bl3 bc3 _ (HB1.out.of hb) (HB2.out.of hb) (HB3.out.of hb)).mono ?_); rintro e w2 ⟨rfl, hn⟩))
  try replace hb := hb.trans (hn.mono hb.size)
  refine hK.out _ _ (up_iff.2 hb) ?_
  clear hK K
  try clear hn
  refine wpS_doL rfl ?_
  intro K hK
  go_wp2_with ((go_at_call 41; (with_reducible refine (rSpR_is x y v false HP9.out  bn1 ba1 bl1 bc1 bn2 ba2 bl2 bc2 bn3 ba3 bl3 bc3 _ (HB1.out.of hb) (HB2.out.of hb) (HB3.out.of hb)).mono ?_); rintro e w2 ⟨rfl, hn⟩))
  try replace hb := hb.trans (hn.mono hb.size)
  refine hK.out _ _ (up_iff.2 hb) ?_
  clear hK K
  try clear hn
  refine wpS_nil ?_
  simp only [List.drop_succ_cons, List.drop_zero]
  first | refine calls_w ?_ | refine name_world ?_ | refine list_world ?_ | refine post_world ?_
  intro U17 hU17
  first | (subst hU17; have u_ := U17; clear u_) | (rw [← hU17] at hb; clear hU17)
  clear c4_0 c4_1 c4_2 c4_3 c4_4 c4_5 l4
  have k3 := Kk3.out.of hb
  clear Kk3
  have k4 := Kk4.out.of hb
  clear Kk4
  replace HB1 := Lib.hid (HB1.out.of hb)
  replace HB2 := Lib.hid (HB2.out.of hb)
  replace HB3 := Lib.hid (HB3.out.of hb)
  replace hb0 := hb0.trans (hb.mono hb0.size)
  clear hb
  go_wp2_with fail
  refine (cawake_any _).mono ?_
  rintro e U18 ⟨rfl, hn⟩
  clear HB1 HB2 HB3
  clear k3 k4
  replace hb0 := hb0.trans (hn.mono hb0.size)
  clear hn
  go_wp2
  first | go_ret | go_ret2
  exact ⟨by first | rfl | (simp; done) | (simp; assumption), hb0⟩

set_option maxRecDepth 100000 in
set_option maxHeartbeats 4000000 in

theorem CSpots_1nz (x : Int) (y : Int) (v : Int) (x2 : Int) (y2 : Int) (v2 : Int) (ax : Int) (ay : Int)    (hP0 : cspx x y v = x) (hP1 : cspy x y v = y) (hP2 : cspv x y v = v) (hP3 : cspx x2 y2 v2 = x2) (hP4 : cspy x2 y2 v2 = y2) (hP5 : cspv x2 y2 v2 = v2) (hP6 : crfx ax ay = ax) (hP7 : crfy ax ay = ay) (hP8 : spC x y v x2 y2 v2 = 0) (hP9 : rspR x y v = false) (hP10 : spR x y v = false) (hP11 : whk x y v = false) (hP12 : whx x y v = 0) (hP13 : why x y v = 0) (hP14 : rp ax ay = false) (hP15 : atx ax ay = 0) (hP16 : aty ax ay = 0) (hP17 : atw ax ay = 0) (_ix : InI x) (_iy : InI y) (_iv : InI v) (_ix2 : InI x2) (_iy2 : InI y2) (_iv2 : InI v2) (_iax : In64 ax) (_iay : In64 ay)  (w : World)  :
    Calls Try.prog 11 #[.agg #[.int .u64 (wd0 x), .int .u64 (wd1 x), .int .u64 (wd2 x), .int .u64 (wd3 x), .int .u64 (wd0 y), .int .u64 (wd1 y), .int .u64 (wd2 y), .int .u64 (wd3 y), .int .u64 (wd0 v), .int .u64 (wd1 v), .int .u64 (wd2 v), .int .u64 (wd3 v)], .agg #[.int .u64 (wd0 x2), .int .u64 (wd1 x2), .int .u64 (wd2 x2), .int .u64 (wd3 x2), .int .u64 (wd0 y2), .int .u64 (wd1 y2), .int .u64 (wd2 y2), .int .u64 (wd3 y2), .int .u64 (wd0 v2), .int .u64 (wd1 v2), .int .u64 (wd2 v2), .int .u64 (wd3 v2)], .agg #[.int .i64 ax, .int .i64 ay]] w fun e w' => e = .returned (.bool true) ∧ Below w.heap.size w w' := by

  have HP0 := Lib.hid hP0
  clear hP0
  have HP1 := Lib.hid hP1
  clear hP1
  have HP2 := Lib.hid hP2
  clear hP2
  have HP3 := Lib.hid hP3
  clear hP3
  have HP4 := Lib.hid hP4
  clear hP4
  have HP5 := Lib.hid hP5
  clear hP5
  have HP6 := Lib.hid hP6
  clear hP6
  have HP7 := Lib.hid hP7
  clear hP7
  have HP8 := Lib.hid hP8
  clear hP8
  have HP9 := Lib.hid hP9
  clear hP9
  have HP10 := Lib.hid hP10
  clear hP10
  have HP11 := Lib.hid hP11
  clear hP11
  have HP12 := Lib.hid hP12
  clear hP12
  have HP13 := Lib.hid hP13
  clear hP13
  have HP14 := Lib.hid hP14
  clear hP14
  have HP15 := Lib.hid hP15
  clear hP15
  have HP16 := Lib.hid hP16
  clear hP16
  have HP17 := Lib.hid hP17
  clear hP17
  go_enter Try.func11, Try.ntmps11
  go_wp2_with fail
  first | refine calls_w ?_ | refine name_world ?_ | refine list_world ?_ | refine post_world ?_
  intro V1 hV1
  have hn : Below w.heap.size w V1 := by rw [hV1]; exact below_a3 _ _ _ _
  have nhb0 := hn
  have k1 : Blk V1 w.heap.size #[.int .u64 (wd0 x), .int .u64 (wd1 x), .int .u64 (wd2 x), .int .u64 (wd3 x), .int .u64 (wd0 y), .int .u64 (wd1 y), .int .u64 (wd2 y), .int .u64 (wd3 y), .int .u64 (wd0 v), .int .u64 (wd1 v), .int .u64 (wd2 v), .int .u64 (wd3 v)] 67 := by rw [hV1]; exact (((Blk.new _ _ _).alloc _).alloc _)
  have k2 : Blk V1 (w.heap.size + 1) #[.int .u64 (wd0 x2), .int .u64 (wd1 x2), .int .u64 (wd2 x2), .int .u64 (wd3 x2), .int .u64 (wd0 y2), .int .u64 (wd1 y2), .int .u64 (wd2 y2), .int .u64 (wd3 y2), .int .u64 (wd0 v2), .int .u64 (wd1 v2), .int .u64 (wd2 v2), .int .u64 (wd3 v2)] 67 := by rw [hV1]; exact ((Blk.new1 _ _ _ _).alloc _)
  have k3 : Blk V1 (w.heap.size + 1 + 1) #[.int .i64 ax, .int .i64 ay] 24 := by rw [hV1]; exact (Blk.new2 _ _ _ _ _)
  clear hV1
  have hb0 := nhb0
  clear nhb0
  have c1_0 : V1.cell? ⟨w.heap.size, 0, none⟩ = some (.int .u64 (wd0 x)) := k1.cell 0
  have c1_1 : V1.cell? ⟨w.heap.size, 1, none⟩ = some (.int .u64 (wd1 x)) := k1.cell 1
  have c1_2 : V1.cell? ⟨w.heap.size, 2, none⟩ = some (.int .u64 (wd2 x)) := k1.cell 2
  have c1_3 : V1.cell? ⟨w.heap.size, 3, none⟩ = some (.int .u64 (wd3 x)) := k1.cell 3
  have c1_4 : V1.cell? ⟨w.heap.size, 4, none⟩ = some (.int .u64 (wd0 y)) := k1.cell 4
  have c1_5 : V1.cell? ⟨w.heap.size, 5, none⟩ = some (.int .u64 (wd1 y)) := k1.cell 5
  have c1_6 : V1.cell? ⟨w.heap.size, 6, none⟩ = some (.int .u64 (wd2 y)) := k1.cell 6
  have c1_7 : V1.cell? ⟨w.heap.size, 7, none⟩ = some (.int .u64 (wd3 y)) := k1.cell 7
  have c1_8 : V1.cell? ⟨w.heap.size, 8, none⟩ = some (.int .u64 (wd0 v)) := k1.cell 8
  have c1_9 : V1.cell? ⟨w.heap.size, 9, none⟩ = some (.int .u64 (wd1 v)) := k1.cell 9
  have c1_10 : V1.cell? ⟨w.heap.size, 10, none⟩ = some (.int .u64 (wd2 v)) := k1.cell 10
  have c1_11 : V1.cell? ⟨w.heap.size, 11, none⟩ = some (.int .u64 (wd3 v)) := k1.cell 11
  have l1 := k1.lt
  have c2_0 : V1.cell? ⟨(w.heap.size + 1), 0, none⟩ = some (.int .u64 (wd0 x2)) := k2.cell 0
  have c2_1 : V1.cell? ⟨(w.heap.size + 1), 1, none⟩ = some (.int .u64 (wd1 x2)) := k2.cell 1
  have c2_2 : V1.cell? ⟨(w.heap.size + 1), 2, none⟩ = some (.int .u64 (wd2 x2)) := k2.cell 2
  have c2_3 : V1.cell? ⟨(w.heap.size + 1), 3, none⟩ = some (.int .u64 (wd3 x2)) := k2.cell 3
  have c2_4 : V1.cell? ⟨(w.heap.size + 1), 4, none⟩ = some (.int .u64 (wd0 y2)) := k2.cell 4
  have c2_5 : V1.cell? ⟨(w.heap.size + 1), 5, none⟩ = some (.int .u64 (wd1 y2)) := k2.cell 5
  have c2_6 : V1.cell? ⟨(w.heap.size + 1), 6, none⟩ = some (.int .u64 (wd2 y2)) := k2.cell 6
  have c2_7 : V1.cell? ⟨(w.heap.size + 1), 7, none⟩ = some (.int .u64 (wd3 y2)) := k2.cell 7
  have c2_8 : V1.cell? ⟨(w.heap.size + 1), 8, none⟩ = some (.int .u64 (wd0 v2)) := k2.cell 8
  have c2_9 : V1.cell? ⟨(w.heap.size + 1), 9, none⟩ = some (.int .u64 (wd1 v2)) := k2.cell 9
  have c2_10 : V1.cell? ⟨(w.heap.size + 1), 10, none⟩ = some (.int .u64 (wd2 v2)) := k2.cell 10
  have c2_11 : V1.cell? ⟨(w.heap.size + 1), 11, none⟩ = some (.int .u64 (wd3 v2)) := k2.cell 11
  have l2 := k2.lt
  have Kk1 := Lib.hid k1
  clear k1
  have Kk2 := Lib.hid k2
  clear k2
  have Kk3 := Lib.hid k3
  clear k3
  refine wp_region_FG2 6 4 5 [(0, 0), (0, 2), (1, 1), (1, 3)] [(3, 6), (3, 7)] (by kernel_rfl) (by kernel_rfl) (fun _ _ d _ _ => by cases d <;> exact Iff.rfl) rfl rfl rfl alCrL2_0 rfl rfl rfl alCrL2_0 rfl ?_
  have hb : Below V1.heap.size V1 V1.drew := (Below.refl _ _).drew
  iterate 2
    refine wpFG_take0 rfl rfl ?_
    go_big_quiet_step (rfl)
    refine wpQuiet_nil ?_
  refine wpFG_do rfl ?_
  intro w1 hg K hK
  replace hb := hb.trans (hg.mono hb.size)
  try replace HB1 := Lib.hid (HB1.out.of hg); try replace HB2 := Lib.hid (HB2.out.of hg); try replace HB3 := Lib.hid (HB3.out.of hg); try replace HB4 := Lib.hid (HB4.out.of hg); try replace HB5 := Lib.hid (HB5.out.of hg); try replace HB6 := Lib.hid (HB6.out.of hg)
  clear hg
  go_wp2_with ((first | (go_at_call 55; (with_reducible refine (cspot_is x y v x y v HP0.out HP1.out HP2.out _ix _iy _iv  _).mono ?_); rintro e w2 ⟨bn1, ba1, bl1, bc1, bn2, ba2, bl2, bc2, bn3, ba3, bl3, bc3, rfl, hbm1, hbm2, hbm3, hn⟩; have HB1 := Lib.hid hbm1; have HB2 := Lib.hid hbm2; have HB3 := Lib.hid hbm3; clear hbm1 hbm2 hbm3) | (go_at_call 55; (with_reducible refine (cspot_is x2 y2 v2 x2 y2 v2 HP3.out HP4.out HP5.out _ix2 _iy2 _iv2  _).mono ?_); rintro e w2 ⟨bn4, ba4, bl4, bc4, bn5, ba5, bl5, bc5, bn6, ba6, bl6, bc6, rfl, hbm4, hbm5, hbm6, hn⟩; replace HB1 := Lib.hid (HB1.out.of hn); replace HB2 := Lib.hid (HB2.out.of hn); replace HB3 := Lib.hid (HB3.out.of hn); have HB4 := Lib.hid hbm4; have HB5 := Lib.hid hbm5; have HB6 := Lib.hid hbm6; clear hbm4 hbm5 hbm6)))
  refine hK.out _ _ hn ?_
  replace hb := hb.trans (hn.mono hb.size)
  clear hK K
  clear hn
  refine wpFG_do rfl ?_
  intro w1 hg K hK
  replace hb := hb.trans (hg.mono hb.size)
  try replace HB1 := Lib.hid (HB1.out.of hg); try replace HB2 := Lib.hid (HB2.out.of hg); try replace HB3 := Lib.hid (HB3.out.of hg); try replace HB4 := Lib.hid (HB4.out.of hg); try replace HB5 := Lib.hid (HB5.out.of hg); try replace HB6 := Lib.hid (HB6.out.of hg)
  clear hg
  go_wp2_with ((first | (go_at_call 55; (with_reducible refine (cspot_is x y v x y v HP0.out HP1.out HP2.out _ix _iy _iv  _).mono ?_); rintro e w2 ⟨bn1, ba1, bl1, bc1, bn2, ba2, bl2, bc2, bn3, ba3, bl3, bc3, rfl, hbm1, hbm2, hbm3, hn⟩; have HB1 := Lib.hid hbm1; have HB2 := Lib.hid hbm2; have HB3 := Lib.hid hbm3; clear hbm1 hbm2 hbm3) | (go_at_call 55; (with_reducible refine (cspot_is x2 y2 v2 x2 y2 v2 HP3.out HP4.out HP5.out _ix2 _iy2 _iv2  _).mono ?_); rintro e w2 ⟨bn4, ba4, bl4, bc4, bn5, ba5, bl5, bc5, bn6, ba6, bl6, bc6, rfl, hbm4, hbm5, hbm6, hn⟩; replace HB1 := Lib.hid (HB1.out.of hn); replace HB2 := Lib.hid (HB2.out.of hn); replace HB3 := Lib.hid (HB3.out.of hn); have HB4 := Lib.hid hbm4; have HB5 := Lib.hid hbm5; have HB6 := Lib.hid hbm6; clear hbm4 hbm5 hbm6)))
  refine hK.out _ _ hn ?_
  replace hb := hb.trans (hn.mono hb.size)
  clear hK K
  clear hn
  refine wpFG_nil ?_
  clear hb
  intro w1 hg hb b1 b2 hne lb1 nb1 lb2 nb2
  replace HB1 := Lib.hid (HB1.out.of hg)
  replace HB2 := Lib.hid (HB2.out.of hg)
  replace HB3 := Lib.hid (HB3.out.of hg)
  replace HB4 := Lib.hid (HB4.out.of hg)
  replace HB5 := Lib.hid (HB5.out.of hg)
  replace HB6 := Lib.hid (HB6.out.of hg)
  clear hg
  simp only [Act.put, ptrTo, List.setIfInBounds_toArray, List.set_cons_succ, List.set_cons_zero]
  have m1 : Blk w1 b1 #[.bool false, .slice none 0 0, .bool false, .slice none 0 0, .bool false, .slice none 0 0] 72 := nb1
  have mc1_0 : w1.cell? ⟨b1, 0, none⟩ = some (.bool false) := m1.cell 0
  have mf1_0 := m1.free 0
  have mc1_1 : w1.cell? ⟨b1, 1, none⟩ = some (.slice none 0 0) := m1.cell 1
  have mf1_1 := m1.free 1
  have mc1_2 : w1.cell? ⟨b1, 2, none⟩ = some (.bool false) := m1.cell 2
  have mf1_2 := m1.free 2
  have mc1_3 : w1.cell? ⟨b1, 3, none⟩ = some (.slice none 0 0) := m1.cell 3
  have mf1_3 := m1.free 3
  have mc1_4 : w1.cell? ⟨b1, 4, none⟩ = some (.bool false) := m1.cell 4
  have mf1_4 := m1.free 4
  have mc1_5 : w1.cell? ⟨b1, 5, none⟩ = some (.slice none 0 0) := m1.cell 5
  have mf1_5 := m1.free 5
  have m2 : Blk w1 b2 #[.bool false, .slice none 0 0, .bool false, .slice none 0 0, .bool false, .slice none 0 0] 72 := nb2
  have mc2_0 : w1.cell? ⟨b2, 0, none⟩ = some (.bool false) := m2.cell 0
  have mf2_0 := m2.free 0
  have mc2_1 : w1.cell? ⟨b2, 1, none⟩ = some (.slice none 0 0) := m2.cell 1
  have mf2_1 := m2.free 1
  have mc2_2 : w1.cell? ⟨b2, 2, none⟩ = some (.bool false) := m2.cell 2
  have mf2_2 := m2.free 2
  have mc2_3 : w1.cell? ⟨b2, 3, none⟩ = some (.slice none 0 0) := m2.cell 3
  have mf2_3 := m2.free 3
  have mc2_4 : w1.cell? ⟨b2, 4, none⟩ = some (.bool false) := m2.cell 4
  have mf2_4 := m2.free 4
  have mc2_5 : w1.cell? ⟨b2, 5, none⟩ = some (.slice none 0 0) := m2.cell 5
  have mf2_5 := m2.free 5
  refine wpG_do3 rfl ?_
  intro K hK
  go_wp2_with (fail)
  refine hK.out _ _ ?_
  clear hK K
  refine wpG_do3 rfl ?_
  intro K hK
  go_wp2_with (fail)
  refine hK.out _ _ ?_
  clear hK K
  refine wpG_nil ?_
  refine list_world ?_
  intro U2 hU2
  clear c1_0 c1_1 c1_2 c1_3 c1_4 c1_5 c1_6 c1_7 c1_8 c1_9 c1_10 c1_11 l1 c2_0 c2_1 c2_2 c2_3 c2_4 c2_5 c2_6 c2_7 c2_8 c2_9 c2_10 c2_11 l2
  have D1 := Lib.hid Kk1.out.lt
  have D2 := Lib.hid Kk2.out.lt
  have D3 := Lib.hid Kk3.out.lt
  have D4 := Lib.hid hb0.size
  have D5 := Lib.hid lb1
  have D6 := Lib.hid lb2
  have D7 := Lib.hid (show b1 ≠ b2 from hne)
  have k1 : Blk U2 w.heap.size #[.int .u64 (wd0 x), .int .u64 (wd1 x), .int .u64 (wd2 x), .int .u64 (wd3 x), .int .u64 (wd0 y), .int .u64 (wd1 y), .int .u64 (wd2 y), .int .u64 (wd3 y), .int .u64 (wd0 v), .int .u64 (wd1 v), .int .u64 (wd2 v), .int .u64 (wd3 v)] 67 := by rw [hU2]; exact (blk_setL (blk_setL (Kk1.out.of hb) (by have := D1.out; have := D5.out; omega) 0 [.bool bn1, .slice ba1 bl1 bc1, .bool bn2, .slice ba2 bl2 bc2, .bool bn3, .slice ba3 bl3 bc3]) (by have := D1.out; have := D6.out; omega) 0 [.bool bn4, .slice ba4 bl4 bc4, .bool bn5, .slice ba5 bl5 bc5, .bool bn6, .slice ba6 bl6 bc6])
  have k2 : Blk U2 (w.heap.size + 1) #[.int .u64 (wd0 x2), .int .u64 (wd1 x2), .int .u64 (wd2 x2), .int .u64 (wd3 x2), .int .u64 (wd0 y2), .int .u64 (wd1 y2), .int .u64 (wd2 y2), .int .u64 (wd3 y2), .int .u64 (wd0 v2), .int .u64 (wd1 v2), .int .u64 (wd2 v2), .int .u64 (wd3 v2)] 67 := by rw [hU2]; exact (blk_setL (blk_setL (Kk2.out.of hb) (by have := D2.out; have := D5.out; omega) 0 [.bool bn1, .slice ba1 bl1 bc1, .bool bn2, .slice ba2 bl2 bc2, .bool bn3, .slice ba3 bl3 bc3]) (by have := D2.out; have := D6.out; omega) 0 [.bool bn4, .slice ba4 bl4 bc4, .bool bn5, .slice ba5 bl5 bc5, .bool bn6, .slice ba6 bl6 bc6])
  have k3 : Blk U2 (w.heap.size + 1 + 1) #[.int .i64 ax, .int .i64 ay] 24 := by rw [hU2]; exact (blk_setL (blk_setL (Kk3.out.of hb) (by have := D3.out; have := D5.out; omega) 0 [.bool bn1, .slice ba1 bl1 bc1, .bool bn2, .slice ba2 bl2 bc2, .bool bn3, .slice ba3 bl3 bc3]) (by have := D3.out; have := D6.out; omega) 0 [.bool bn4, .slice ba4 bl4 bc4, .bool bn5, .slice ba5 bl5 bc5, .bool bn6, .slice ba6 bl6 bc6])
  have k4 : Blk U2 b1 #[.bool bn1, .slice ba1 bl1 bc1, .bool bn2, .slice ba2 bl2 bc2, .bool bn3, .slice ba3 bl3 bc3] 72 := by rw [hU2]; exact (blk_setL (blk_full _ [.bool bn1, .slice ba1 bl1 bc1, .bool bn2, .slice ba2 bl2 bc2, .bool bn3, .slice ba3 bl3 bc3] m1 rfl) (by have := D7.out; omega) 0 [.bool bn4, .slice ba4 bl4 bc4, .bool bn5, .slice ba5 bl5 bc5, .bool bn6, .slice ba6 bl6 bc6])
  have k5 : Blk U2 b2 #[.bool bn4, .slice ba4 bl4 bc4, .bool bn5, .slice ba5 bl5 bc5, .bool bn6, .slice ba6 bl6 bc6] 72 := by rw [hU2]; exact (blk_full _ [.bool bn4, .slice ba4 bl4 bc4, .bool bn5, .slice ba5 bl5 bc5, .bool bn6, .slice ba6 bl6 bc6] (blk_setL m2 (by have := D7.out; omega) 0 [.bool bn1, .slice ba1 bl1 bc1, .bool bn2, .slice ba2 bl2 bc2, .bool bn3, .slice ba3 bl3 bc3]) rfl)
  replace HB1 : Hid (Big U2 (.agg #[.bool bn1, .slice ba1 bl1 bc1]) x 18) := Lib.hid (by rw [hU2]; exact (big_setL (big_setL HB1.out (Blk.cell m1 0) (fun _ h => by cases h) 0 [.bool bn1, .slice ba1 bl1 bc1, .bool bn2, .slice ba2 bl2 bc2, .bool bn3, .slice ba3 bl3 bc3]) (Blk.cell (blk_setL m2 (by have := D7.out; omega) 0 [.bool bn1, .slice ba1 bl1 bc1, .bool bn2, .slice ba2 bl2 bc2, .bool bn3, .slice ba3 bl3 bc3]) 0) (fun _ h => by cases h) 0 [.bool bn4, .slice ba4 bl4 bc4, .bool bn5, .slice ba5 bl5 bc5, .bool bn6, .slice ba6 bl6 bc6]))
  replace HB2 : Hid (Big U2 (.agg #[.bool bn2, .slice ba2 bl2 bc2]) y 18) := Lib.hid (by rw [hU2]; exact (big_setL (big_setL HB2.out (Blk.cell m1 0) (fun _ h => by cases h) 0 [.bool bn1, .slice ba1 bl1 bc1, .bool bn2, .slice ba2 bl2 bc2, .bool bn3, .slice ba3 bl3 bc3]) (Blk.cell (blk_setL m2 (by have := D7.out; omega) 0 [.bool bn1, .slice ba1 bl1 bc1, .bool bn2, .slice ba2 bl2 bc2, .bool bn3, .slice ba3 bl3 bc3]) 0) (fun _ h => by cases h) 0 [.bool bn4, .slice ba4 bl4 bc4, .bool bn5, .slice ba5 bl5 bc5, .bool bn6, .slice ba6 bl6 bc6]))
  replace HB3 : Hid (Big U2 (.agg #[.bool bn3, .slice ba3 bl3 bc3]) v 18) := Lib.hid (by rw [hU2]; exact (big_setL (big_setL HB3.out (Blk.cell m1 0) (fun _ h => by cases h) 0 [.bool bn1, .slice ba1 bl1 bc1, .bool bn2, .slice ba2 bl2 bc2, .bool bn3, .slice ba3 bl3 bc3]) (Blk.cell (blk_setL m2 (by have := D7.out; omega) 0 [.bool bn1, .slice ba1 bl1 bc1, .bool bn2, .slice ba2 bl2 bc2, .bool bn3, .slice ba3 bl3 bc3]) 0) (fun _ h => by cases h) 0 [.bool bn4, .slice ba4 bl4 bc4, .bool bn5, .slice ba5 bl5 bc5, .bool bn6, .slice ba6 bl6 bc6]))
  replace HB4 : Hid (Big U2 (.agg #[.bool bn4, .slice ba4 bl4 bc4]) x2 18) := Lib.hid (by rw [hU2]; exact (big_setL (big_setL HB4.out (Blk.cell m1 0) (fun _ h => by cases h) 0 [.bool bn1, .slice ba1 bl1 bc1, .bool bn2, .slice ba2 bl2 bc2, .bool bn3, .slice ba3 bl3 bc3]) (Blk.cell (blk_setL m2 (by have := D7.out; omega) 0 [.bool bn1, .slice ba1 bl1 bc1, .bool bn2, .slice ba2 bl2 bc2, .bool bn3, .slice ba3 bl3 bc3]) 0) (fun _ h => by cases h) 0 [.bool bn4, .slice ba4 bl4 bc4, .bool bn5, .slice ba5 bl5 bc5, .bool bn6, .slice ba6 bl6 bc6]))
  replace HB5 : Hid (Big U2 (.agg #[.bool bn5, .slice ba5 bl5 bc5]) y2 18) := Lib.hid (by rw [hU2]; exact (big_setL (big_setL HB5.out (Blk.cell m1 0) (fun _ h => by cases h) 0 [.bool bn1, .slice ba1 bl1 bc1, .bool bn2, .slice ba2 bl2 bc2, .bool bn3, .slice ba3 bl3 bc3]) (Blk.cell (blk_setL m2 (by have := D7.out; omega) 0 [.bool bn1, .slice ba1 bl1 bc1, .bool bn2, .slice ba2 bl2 bc2, .bool bn3, .slice ba3 bl3 bc3]) 0) (fun _ h => by cases h) 0 [.bool bn4, .slice ba4 bl4 bc4, .bool bn5, .slice ba5 bl5 bc5, .bool bn6, .slice ba6 bl6 bc6]))
  replace HB6 : Hid (Big U2 (.agg #[.bool bn6, .slice ba6 bl6 bc6]) v2 18) := Lib.hid (by rw [hU2]; exact (big_setL (big_setL HB6.out (Blk.cell m1 0) (fun _ h => by cases h) 0 [.bool bn1, .slice ba1 bl1 bc1, .bool bn2, .slice ba2 bl2 bc2, .bool bn3, .slice ba3 bl3 bc3]) (Blk.cell (blk_setL m2 (by have := D7.out; omega) 0 [.bool bn1, .slice ba1 bl1 bc1, .bool bn2, .slice ba2 bl2 bc2, .bool bn3, .slice ba3 bl3 bc3]) 0) (fun _ h => by cases h) 0 [.bool bn4, .slice ba4 bl4 bc4, .bool bn5, .slice ba5 bl5 bc5, .bool bn6, .slice ba6 bl6 bc6]))
  replace hb0 : Below w.heap.size w U2 := by rw [hU2]; exact (blw_setL (blw_setL (hb0.trans (hb.mono hb0.size)) (by have := D4.out; have := D5.out; omega) 0 [.bool bn1, .slice ba1 bl1 bc1, .bool bn2, .slice ba2 bl2 bc2, .bool bn3, .slice ba3 bl3 bc3]) (by have := D4.out; have := D6.out; omega) 0 [.bool bn4, .slice ba4 bl4 bc4, .bool bn5, .slice ba5 bl5 bc5, .bool bn6, .slice ba6 bl6 bc6])
  clear hU2 hb Kk1 Kk2 Kk3 m1 nb1 lb1 mc1_0 mf1_0 mc1_1 mf1_1 mc1_2 mf1_2 mc1_3 mf1_3 mc1_4 mf1_4 mc1_5 mf1_5 m2 nb2 lb2 mc2_0 mf2_0 mc2_1 mf2_1 mc2_2 mf2_2 mc2_3 mf2_3 mc2_4 mf2_4 mc2_5 mf2_5 hne
  generalize b1 = q4 at *
  generalize b2 = q5 at *
  have c1_0 : U2.cell? ⟨w.heap.size, 0, none⟩ = some (.int .u64 (wd0 x)) := k1.cell 0
  have c1_1 : U2.cell? ⟨w.heap.size, 1, none⟩ = some (.int .u64 (wd1 x)) := k1.cell 1
  have c1_2 : U2.cell? ⟨w.heap.size, 2, none⟩ = some (.int .u64 (wd2 x)) := k1.cell 2
  have c1_3 : U2.cell? ⟨w.heap.size, 3, none⟩ = some (.int .u64 (wd3 x)) := k1.cell 3
  have c1_4 : U2.cell? ⟨w.heap.size, 4, none⟩ = some (.int .u64 (wd0 y)) := k1.cell 4
  have c1_5 : U2.cell? ⟨w.heap.size, 5, none⟩ = some (.int .u64 (wd1 y)) := k1.cell 5
  have c1_6 : U2.cell? ⟨w.heap.size, 6, none⟩ = some (.int .u64 (wd2 y)) := k1.cell 6
  have c1_7 : U2.cell? ⟨w.heap.size, 7, none⟩ = some (.int .u64 (wd3 y)) := k1.cell 7
  have c1_8 : U2.cell? ⟨w.heap.size, 8, none⟩ = some (.int .u64 (wd0 v)) := k1.cell 8
  have c1_9 : U2.cell? ⟨w.heap.size, 9, none⟩ = some (.int .u64 (wd1 v)) := k1.cell 9
  have c1_10 : U2.cell? ⟨w.heap.size, 10, none⟩ = some (.int .u64 (wd2 v)) := k1.cell 10
  have c1_11 : U2.cell? ⟨w.heap.size, 11, none⟩ = some (.int .u64 (wd3 v)) := k1.cell 11
  have l1 := k1.lt
  have c2_0 : U2.cell? ⟨(w.heap.size + 1), 0, none⟩ = some (.int .u64 (wd0 x2)) := k2.cell 0
  have c2_1 : U2.cell? ⟨(w.heap.size + 1), 1, none⟩ = some (.int .u64 (wd1 x2)) := k2.cell 1
  have c2_2 : U2.cell? ⟨(w.heap.size + 1), 2, none⟩ = some (.int .u64 (wd2 x2)) := k2.cell 2
  have c2_3 : U2.cell? ⟨(w.heap.size + 1), 3, none⟩ = some (.int .u64 (wd3 x2)) := k2.cell 3
  have c2_4 : U2.cell? ⟨(w.heap.size + 1), 4, none⟩ = some (.int .u64 (wd0 y2)) := k2.cell 4
  have c2_5 : U2.cell? ⟨(w.heap.size + 1), 5, none⟩ = some (.int .u64 (wd1 y2)) := k2.cell 5
  have c2_6 : U2.cell? ⟨(w.heap.size + 1), 6, none⟩ = some (.int .u64 (wd2 y2)) := k2.cell 6
  have c2_7 : U2.cell? ⟨(w.heap.size + 1), 7, none⟩ = some (.int .u64 (wd3 y2)) := k2.cell 7
  have c2_8 : U2.cell? ⟨(w.heap.size + 1), 8, none⟩ = some (.int .u64 (wd0 v2)) := k2.cell 8
  have c2_9 : U2.cell? ⟨(w.heap.size + 1), 9, none⟩ = some (.int .u64 (wd1 v2)) := k2.cell 9
  have c2_10 : U2.cell? ⟨(w.heap.size + 1), 10, none⟩ = some (.int .u64 (wd2 v2)) := k2.cell 10
  have c2_11 : U2.cell? ⟨(w.heap.size + 1), 11, none⟩ = some (.int .u64 (wd3 v2)) := k2.cell 11
  have l2 := k2.lt
  go_wp2_with fail
  clear c1_0 c1_1 c1_2 c1_3 c1_4 c1_5 c1_6 c1_7 c1_8 c1_9 c1_10 c1_11 l1 c2_0 c2_1 c2_2 c2_3 c2_4 c2_5 c2_6 c2_7 c2_8 c2_9 c2_10 c2_11 l2
  refine (SpCmp_is x y v x2 y2 v2 0 HP8.out _ix _iy _iv _ix2 _iy2 _iv2  _).mono ?_
  rintro e U3 ⟨rfl, hn⟩
  replace k1 := k1.of hn
  replace k2 := k2.of hn
  replace k3 := k3.of hn
  replace k4 := k4.of hn
  replace k5 := k5.of hn
  replace HB1 := Lib.hid (HB1.out.of hn)
  replace HB2 := Lib.hid (HB2.out.of hn)
  replace HB3 := Lib.hid (HB3.out.of hn)
  replace HB4 := Lib.hid (HB4.out.of hn)
  replace HB5 := Lib.hid (HB5.out.of hn)
  replace HB6 := Lib.hid (HB6.out.of hn)
  replace hb0 := hb0.trans (hn.mono hb0.size)
  clear hn
  have c4_0 : U3.cell? ⟨q4, 0, none⟩ = some (.bool bn1) := k4.cell 0
  have c4_1 : U3.cell? ⟨q4, 1, none⟩ = some (.slice ba1 bl1 bc1) := k4.cell 1
  have c4_2 : U3.cell? ⟨q4, 2, none⟩ = some (.bool bn2) := k4.cell 2
  have c4_3 : U3.cell? ⟨q4, 3, none⟩ = some (.slice ba2 bl2 bc2) := k4.cell 3
  have c4_4 : U3.cell? ⟨q4, 4, none⟩ = some (.bool bn3) := k4.cell 4
  have c4_5 : U3.cell? ⟨q4, 5, none⟩ = some (.slice ba3 bl3 bc3) := k4.cell 5
  have l4 := k4.lt
  go_wp2_with fail
  clear c4_0 c4_1 c4_2 c4_3 c4_4 c4_5 l4
  refine (rSpR_is x y v false HP9.out  bn1 ba1 bl1 bc1 bn2 ba2 bl2 bc2 bn3 ba3 bl3 bc3 _ HB1.out HB2.out HB3.out).mono ?_
  rintro e U4 ⟨rfl, hn⟩
  replace k1 := k1.of hn
  replace k2 := k2.of hn
  replace k3 := k3.of hn
  replace k4 := k4.of hn
  replace k5 := k5.of hn
  replace HB1 := Lib.hid (HB1.out.of hn)
  replace HB2 := Lib.hid (HB2.out.of hn)
  replace HB3 := Lib.hid (HB3.out.of hn)
  replace HB4 := Lib.hid (HB4.out.of hn)
  replace HB5 := Lib.hid (HB5.out.of hn)
  replace HB6 := Lib.hid (HB6.out.of hn)
  replace hb0 := hb0.trans (hn.mono hb0.size)
  clear hn
  go_wp2_with fail
  clear HB4 HB5 HB6
  clear k2 k5
  have c1_0 : U4.cell? ⟨w.heap.size, 0, none⟩ = some (.int .u64 (wd0 x)) := k1.cell 0
  have c1_1 : U4.cell? ⟨w.heap.size, 1, none⟩ = some (.int .u64 (wd1 x)) := k1.cell 1
  have c1_2 : U4.cell? ⟨w.heap.size, 2, none⟩ = some (.int .u64 (wd2 x)) := k1.cell 2
  have c1_3 : U4.cell? ⟨w.heap.size, 3, none⟩ = some (.int .u64 (wd3 x)) := k1.cell 3
  have c1_4 : U4.cell? ⟨w.heap.size, 4, none⟩ = some (.int .u64 (wd0 y)) := k1.cell 4
  have c1_5 : U4.cell? ⟨w.heap.size, 5, none⟩ = some (.int .u64 (wd1 y)) := k1.cell 5
  have c1_6 : U4.cell? ⟨w.heap.size, 6, none⟩ = some (.int .u64 (wd2 y)) := k1.cell 6
  have c1_7 : U4.cell? ⟨w.heap.size, 7, none⟩ = some (.int .u64 (wd3 y)) := k1.cell 7
  have c1_8 : U4.cell? ⟨w.heap.size, 8, none⟩ = some (.int .u64 (wd0 v)) := k1.cell 8
  have c1_9 : U4.cell? ⟨w.heap.size, 9, none⟩ = some (.int .u64 (wd1 v)) := k1.cell 9
  have c1_10 : U4.cell? ⟨w.heap.size, 10, none⟩ = some (.int .u64 (wd2 v)) := k1.cell 10
  have c1_11 : U4.cell? ⟨w.heap.size, 11, none⟩ = some (.int .u64 (wd3 v)) := k1.cell 11
  have l1 := k1.lt
  have c4_0 : U4.cell? ⟨q4, 0, none⟩ = some (.bool bn1) := k4.cell 0
  have c4_1 : U4.cell? ⟨q4, 1, none⟩ = some (.slice ba1 bl1 bc1) := k4.cell 1
  have c4_2 : U4.cell? ⟨q4, 2, none⟩ = some (.bool bn2) := k4.cell 2
  have c4_3 : U4.cell? ⟨q4, 3, none⟩ = some (.slice ba2 bl2 bc2) := k4.cell 3
  have c4_4 : U4.cell? ⟨q4, 4, none⟩ = some (.bool bn3) := k4.cell 4
  have c4_5 : U4.cell? ⟨q4, 5, none⟩ = some (.slice ba3 bl3 bc3) := k4.cell 5
  have l4 := k4.lt
  have Kk1 := Lib.hid k1
  clear k1
  have Kk3 := Lib.hid k3
  clear k3
  have Kk4 := Lib.hid k4
  clear k4
  refine wp_region_up U4.heap.size 6 [(true, 0), (true, 1), (true, 2), (true, 3), (true, 5), (false, 4)] (by kernel_rfl) (by kernel_rfl) (fun _ _ d _ _ h => by cases d <;> exact h) ?_
  have hb : Below U4.heap.size U4 U4.drew := (Below.refl _ _).drew
  iterate 5
    refine wpS_takeL rfl rfl ?_
    go_big_quiet_step (rfl)
    refine wpQuiet_nil ?_
  refine wpS_doL rfl ?_
  intro K hK
  go_wp2_with ((go_at_call 59; (with_reducible refine (SpRight_is x y v false HP10.out _ix _iy _iv  _).mono ?_); rintro e w2 ⟨rfl, hn⟩))
  try replace hb := hb.trans (hn.mono hb.size)
  refine hK.out _ _ (up_iff.2 hb) ?_
  clear hK K
  try clear hn
  refine wpS_nil ?_
  simp only [List.drop_succ_cons, List.drop_zero]
  first | refine calls_w ?_ | refine name_world ?_ | refine list_world ?_ | refine post_world ?_
  intro U5 hU5
  first | (subst hU5; have u_ := U5; clear u_) | (rw [← hU5] at hb; clear hU5)
  clear c1_0 c1_1 c1_2 c1_3 c1_4 c1_5 c1_6 c1_7 c1_8 c1_9 c1_10 c1_11 l1 c4_0 c4_1 c4_2 c4_3 c4_4 c4_5 l4
  have k1 := Kk1.out.of hb
  clear Kk1
  have k3 := Kk3.out.of hb
  clear Kk3
  have k4 := Kk4.out.of hb
  clear Kk4
  replace HB1 := Lib.hid (HB1.out.of hb)
  replace HB2 := Lib.hid (HB2.out.of hb)
  replace HB3 := Lib.hid (HB3.out.of hb)
  replace hb0 := hb0.trans (hb.mono hb0.size)
  clear hb
  go_wp2_with fail
  refine (rSpR_is x y v false HP9.out  bn1 ba1 bl1 bc1 bn2 ba2 bl2 bc2 bn3 ba3 bl3 bc3 _ HB1.out HB2.out HB3.out).mono ?_
  rintro e U6 ⟨rfl, hn⟩
  replace k1 := k1.of hn
  replace k3 := k3.of hn
  replace k4 := k4.of hn
  replace HB1 := Lib.hid (HB1.out.of hn)
  replace HB2 := Lib.hid (HB2.out.of hn)
  replace HB3 := Lib.hid (HB3.out.of hn)
  replace hb0 := hb0.trans (hn.mono hb0.size)
  clear hn
  have c1_0 : U6.cell? ⟨w.heap.size, 0, none⟩ = some (.int .u64 (wd0 x)) := k1.cell 0
  have c1_1 : U6.cell? ⟨w.heap.size, 1, none⟩ = some (.int .u64 (wd1 x)) := k1.cell 1
  have c1_2 : U6.cell? ⟨w.heap.size, 2, none⟩ = some (.int .u64 (wd2 x)) := k1.cell 2
  have c1_3 : U6.cell? ⟨w.heap.size, 3, none⟩ = some (.int .u64 (wd3 x)) := k1.cell 3
  have c1_4 : U6.cell? ⟨w.heap.size, 4, none⟩ = some (.int .u64 (wd0 y)) := k1.cell 4
  have c1_5 : U6.cell? ⟨w.heap.size, 5, none⟩ = some (.int .u64 (wd1 y)) := k1.cell 5
  have c1_6 : U6.cell? ⟨w.heap.size, 6, none⟩ = some (.int .u64 (wd2 y)) := k1.cell 6
  have c1_7 : U6.cell? ⟨w.heap.size, 7, none⟩ = some (.int .u64 (wd3 y)) := k1.cell 7
  have c1_8 : U6.cell? ⟨w.heap.size, 8, none⟩ = some (.int .u64 (wd0 v)) := k1.cell 8
  have c1_9 : U6.cell? ⟨w.heap.size, 9, none⟩ = some (.int .u64 (wd1 v)) := k1.cell 9
  have c1_10 : U6.cell? ⟨w.heap.size, 10, none⟩ = some (.int .u64 (wd2 v)) := k1.cell 10
  have c1_11 : U6.cell? ⟨w.heap.size, 11, none⟩ = some (.int .u64 (wd3 v)) := k1.cell 11
  have l1 := k1.lt
  go_wp2_with fail
  clear c1_0 c1_1 c1_2 c1_3 c1_4 c1_5 c1_6 c1_7 c1_8 c1_9 c1_10 c1_11 l1
  refine (Whole_is x y v 0 0 false HP12.out HP13.out HP11.out _ix _iy _iv  _).mono ?_
  rintro e U7 ⟨rfl, hn⟩
  clear k1
  replace k3 := k3.of hn
  replace k4 := k4.of hn
  replace HB1 := Lib.hid (HB1.out.of hn)
  replace HB2 := Lib.hid (HB2.out.of hn)
  replace HB3 := Lib.hid (HB3.out.of hn)
  replace hb0 := hb0.trans (hn.mono hb0.size)
  clear hn
  go_wp2_with fail
  first | refine calls_w ?_ | refine name_world ?_ | refine list_world ?_ | refine post_world ?_
  intro V8 hV8
  have D8 := Lib.hid k3.lt
  have D9 := Lib.hid k4.lt
  have D10 := Lib.hid hb0.size
  have hn : Below U7.heap.size U7 V8 := by rw [hV8]; exact below_a1 _ _
  have nk3 := k3.of hn
  have nk4 := k4.of hn
  replace HB1 := Lib.hid (HB1.out.of hn)
  replace HB2 := Lib.hid (HB2.out.of hn)
  replace HB3 := Lib.hid (HB3.out.of hn)
  have nhb0 := hb0.trans (hn.mono hb0.size)
  clear hn
  have k6 : Blk V8 U7.heap.size #[.int .i64 0, .int .i64 0] 24 := by rw [hV8]; exact (Blk.new _ _ _)
  clear k3 k4
  clear hb0
  clear hV8
  have k3 := nk3
  clear nk3
  have k4 := nk4
  clear nk4
  have hb0 := nhb0
  clear nhb0
  have c6_0 : V8.cell? ⟨U7.heap.size, 0, none⟩ = some (.int .i64 0) := k6.cell 0
  have c6_1 : V8.cell? ⟨U7.heap.size, 1, none⟩ = some (.int .i64 0) := k6.cell 1
  have l6 := k6.lt
  have Kk3 := Lib.hid k3
  clear k3
  have Kk4 := Lib.hid k4
  clear k4
  have Kk6 := Lib.hid k6
  clear k6
  refine wp_region_up V8.heap.size 20 [(true, 0), (true, 1), (true, 2), (false, 3), (true, 4), (true, 5), (true, 6), (true, 9), (false, 7), (false, 8), (false, 10), (true, 11), (true, 12), (true, 13), (true, 14), (true, 15), (true, 16), (true, 17), (true, 18), (true, 19)] (by kernel_rfl) (by kernel_rfl) (fun _ _ d _ _ h => by cases d <;> exact h) ?_
  have hb : Below V8.heap.size V8 V8.drew := (Below.refl _ _).drew
  iterate 3
    refine wpS_takeL rfl rfl ?_
    go_big_quiet_step (rfl)
    refine wpQuiet_nil ?_
  refine wpS_doL rfl ?_
  intro K hK
  go_wp2_with (fail)
  try replace hb := hb.trans (hn.mono hb.size)
  refine hK.out _ _ (up_iff.2 hb) ?_
  clear hK K
  try clear hn
  iterate 4
    refine wpS_takeL rfl rfl ?_
    go_big_quiet_step (rfl)
    refine wpQuiet_nil ?_
  refine wpS_doL rfl ?_
  intro K hK
  go_wp2_with (fail)
  try replace hb := hb.trans (hn.mono hb.size)
  refine hK.out _ _ (up_iff.2 hb) ?_
  clear hK K
  try clear hn
  refine wpS_doL rfl ?_
  intro K hK
  go_wp2_with (fail)
  try replace hb := hb.trans (hn.mono hb.size)
  refine hK.out _ _ (up_iff.2 hb) ?_
  clear hK K
  try clear hn
  refine wpS_doL rfl ?_
  intro K hK
  go_wp2_with (fail)
  try replace hb := hb.trans (hn.mono hb.size)
  refine hK.out _ _ (up_iff.2 hb) ?_
  clear hK K
  try clear hn
  iterate 9
    refine wpS_takeL rfl rfl ?_
    go_big_quiet_step (rfl)
    refine wpQuiet_nil ?_
  refine wpS_nil ?_
  simp only [List.drop_succ_cons, List.drop_zero]
  first | refine calls_w ?_ | refine name_world ?_ | refine list_world ?_ | refine post_world ?_
  intro U9 hU9
  first | (subst hU9; have u_ := U9; clear u_) | (rw [← hU9] at hb; clear hU9)
  clear c6_0 c6_1 l6
  have k3 := Kk3.out.of hb
  clear Kk3
  have k4 := Kk4.out.of hb
  clear Kk4
  have k6 := Kk6.out.of hb
  clear Kk6
  replace HB1 := Lib.hid (HB1.out.of hb)
  replace HB2 := Lib.hid (HB2.out.of hb)
  replace HB3 := Lib.hid (HB3.out.of hb)
  replace hb0 := hb0.trans (hb.mono hb0.size)
  clear hb
  have c3_0 : U9.cell? ⟨(w.heap.size + 1 + 1), 0, none⟩ = some (.int .i64 ax) := k3.cell 0
  have c3_1 : U9.cell? ⟨(w.heap.size + 1 + 1), 1, none⟩ = some (.int .i64 ay) := k3.cell 1
  have l3 := k3.lt
  go_wp2_with fail
  clear c3_0 c3_1 l3
  refine (crAt_is ax ay 0 0 0 HP15.out HP16.out HP17.out _iax _iay  _).mono ?_
  rintro e U10 ⟨rfl, hn⟩
  clear k6
  replace k3 := k3.of hn
  replace k4 := k4.of hn
  replace HB1 := Lib.hid (HB1.out.of hn)
  replace HB2 := Lib.hid (HB2.out.of hn)
  replace HB3 := Lib.hid (HB3.out.of hn)
  replace hb0 := hb0.trans (hn.mono hb0.size)
  clear hn
  have c3_0 : U10.cell? ⟨(w.heap.size + 1 + 1), 0, none⟩ = some (.int .i64 ax) := k3.cell 0
  have c3_1 : U10.cell? ⟨(w.heap.size + 1 + 1), 1, none⟩ = some (.int .i64 ay) := k3.cell 1
  have l3 := k3.lt
  have l3_0 : w.heap.size < U10.heap.size := by have := k3.lt; omega
  have l3_1 : w.heap.size + 1 < U10.heap.size := by have := k3.lt; omega
  go_wp2_with fail
  clear c3_0 c3_1 l3 l3_0 l3_1
  first | refine calls_w ?_ | refine name_world ?_ | refine list_world ?_ | refine post_world ?_
  intro V11 hV11
  have D11 := Lib.hid k3.lt
  have D12 := Lib.hid k4.lt
  have D13 := Lib.hid hb0.size
  have hn : Below U10.heap.size U10 V11 := by rw [hV11]; exact below_a1 _ _
  have nk3 := k3.of hn
  have nk4 := k4.of hn
  replace HB1 := Lib.hid (HB1.out.of hn)
  replace HB2 := Lib.hid (HB2.out.of hn)
  replace HB3 := Lib.hid (HB3.out.of hn)
  have nhb0 := hb0.trans (hn.mono hb0.size)
  clear hn
  have k7 : Blk V11 U10.heap.size #[.int .u64 (wd0 0), .int .u64 (wd1 0), .int .u64 (wd2 0), .int .u64 (wd3 0), .int .u64 (wd0 0), .int .u64 (wd1 0), .int .u64 (wd2 0), .int .u64 (wd3 0), .int .u64 (wd0 0), .int .u64 (wd1 0), .int .u64 (wd2 0), .int .u64 (wd3 0)] 67 := by rw [hV11]; exact (Blk.new _ _ _)
  clear k3 k4
  clear hb0
  clear hV11
  have k3 := nk3
  clear nk3
  have k4 := nk4
  clear nk4
  have hb0 := nhb0
  clear nhb0
  refine (cref_is ax ay ax ay HP6.out HP7.out _iax _iay  _).mono ?_
  rintro e U12 ⟨rfl, hn⟩
  replace k3 := k3.of hn
  replace k4 := k4.of hn
  replace k7 := k7.of hn
  replace HB1 := Lib.hid (HB1.out.of hn)
  replace HB2 := Lib.hid (HB2.out.of hn)
  replace HB3 := Lib.hid (HB3.out.of hn)
  replace hb0 := hb0.trans (hn.mono hb0.size)
  clear hn
  go_wp2_with fail
  refine (rRight_v ax ay false HP14.out _).mono ?_
  rintro e U13 ⟨rfl, hn⟩
  replace k3 := k3.of hn
  replace k4 := k4.of hn
  replace k7 := k7.of hn
  replace HB1 := Lib.hid (HB1.out.of hn)
  replace HB2 := Lib.hid (HB2.out.of hn)
  replace HB3 := Lib.hid (HB3.out.of hn)
  replace hb0 := hb0.trans (hn.mono hb0.size)
  clear hn
  have c7_0 : U13.cell? ⟨U10.heap.size, 0, none⟩ = some (.int .u64 (wd0 0)) := k7.cell 0
  have c7_1 : U13.cell? ⟨U10.heap.size, 1, none⟩ = some (.int .u64 (wd1 0)) := k7.cell 1
  have c7_2 : U13.cell? ⟨U10.heap.size, 2, none⟩ = some (.int .u64 (wd2 0)) := k7.cell 2
  have c7_3 : U13.cell? ⟨U10.heap.size, 3, none⟩ = some (.int .u64 (wd3 0)) := k7.cell 3
  have c7_4 : U13.cell? ⟨U10.heap.size, 4, none⟩ = some (.int .u64 (wd0 0)) := k7.cell 4
  have c7_5 : U13.cell? ⟨U10.heap.size, 5, none⟩ = some (.int .u64 (wd1 0)) := k7.cell 5
  have c7_6 : U13.cell? ⟨U10.heap.size, 6, none⟩ = some (.int .u64 (wd2 0)) := k7.cell 6
  have c7_7 : U13.cell? ⟨U10.heap.size, 7, none⟩ = some (.int .u64 (wd3 0)) := k7.cell 7
  have c7_8 : U13.cell? ⟨U10.heap.size, 8, none⟩ = some (.int .u64 (wd0 0)) := k7.cell 8
  have c7_9 : U13.cell? ⟨U10.heap.size, 9, none⟩ = some (.int .u64 (wd1 0)) := k7.cell 9
  have c7_10 : U13.cell? ⟨U10.heap.size, 10, none⟩ = some (.int .u64 (wd2 0)) := k7.cell 10
  have c7_11 : U13.cell? ⟨U10.heap.size, 11, none⟩ = some (.int .u64 (wd3 0)) := k7.cell 11
  have l7 := k7.lt
  go_wp2_with fail
  clear c7_0 c7_1 c7_2 c7_3 c7_4 c7_5 c7_6 c7_7 c7_8 c7_9 c7_10 c7_11 l7
  refine (cawake_any _).mono ?_
  rintro e U14 ⟨rfl, hn⟩
  replace k3 := k3.of hn
  replace k4 := k4.of hn
  replace k7 := k7.of hn
  replace HB1 := Lib.hid (HB1.out.of hn)
  replace HB2 := Lib.hid (HB2.out.of hn)
  replace HB3 := Lib.hid (HB3.out.of hn)
  replace hb0 := hb0.trans (hn.mono hb0.size)
  clear hn
  go_wp2
  first | go_ret | go_ret2
  exact ⟨by first | rfl | (simp; done) | (simp; assumption), hb0⟩
end Go.Proofs.Ytlcbomjdbdgbmaa

