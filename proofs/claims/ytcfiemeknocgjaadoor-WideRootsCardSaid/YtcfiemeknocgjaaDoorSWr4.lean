/- The statement WideRootsCardSaid: for every input the law returns true, and its arguments read as before; the listed tables tied to the program. Conditions: none. -/
import Derived.Test.YtcfiemeknocgjaaDoorSWr3
import Derived.KernelRfl
import Derived.StillTail
import Derived.OrdersHeld
import Derived.Deep.Quiet
import Derived.Below
import Derived.WalkKit
import Derived.Test.YtcfiemeknocgjaaDoorProg
import Derived.WalkSpells
import Derived.StillTactics
import Derived.Laws.Pointers
import Derived.Deep.RegionHeld3
import Derived.RowKit3
import Derived.Deep.QuietTactic
import Derived.BigQuiet
import Derived.BigRegion
import Derived.Lib.Hide
import Derived.WalkSmall
import Derived.Laws.BitsAllLaws
import Derived.Shelf.Bits.Mul64
import Derived.Laws.Bits64b
import Derived.Shelf.Lays
import Derived.Shelf.Small.Bits
import Derived.Laws.MathBits
import Derived.IntWalk
import Derived.Deep.OwnRows
import Derived.Lib.BitFns
import Derived.Lib.ItoaNum
import Derived.Deep.LoopGhost
import Derived.RowKit
import Derived.Laws.BytesArg
import Derived.Test.YtcfiemeknocgjaaDoorRows
import Derived.ProofKit
import Derived.OpenShut
import Derived.ShutString
import Derived.ChangeOld
import Derived.Lib.SmallJoins
import Derived.Lib.LaidTab
import Derived.Laws.IdiomArrays
import Derived.LaidMore
import Derived.Stop.Joined
import Derived.Test.YtcfiemeknocgjaaDoorTie
import Derived.Test.YtcfiemeknocgjaaDoorCards
import Derived.SevenTiedAt
namespace Go.Proofs.YtcfiemeknocgjaaDoor
open Go.RowKit

theorem alWrL0_0 : AllocRuns Tryd.prog 34 #[.bool false, .slice none 0 0] := fun w => by kernel_rfl

set_option maxRecDepth 100000 in
set_option maxHeartbeats 4000000 in

theorem WRo_10 (a : Int) (n : Int) (s : Int) (k : Int) (q : Int) (c1 : Int) (r : Int) (t : Int) (rs : Int) (rr : Int) (c3 : Int) (tt : Int) (c4 : Int)   (hP0 : a.sign = s) (hP1 : decide (s < 0) = false) (hP2 : btn a = k) (hP3 : decide (k < 0) = false) (hP4 : decide (256 < k) = false) (hP5 : 2 ^ k.toNat = q) (hP6 : cmpI a q = c1) (hP7 : decide (0 ≤ c1) = false) (hP8 : decide (0 < k) = false) (hP9 : rtv a = r) (hP10 : rtk a = true) (hP11 : r + 1 = t) (hP12 : r.sign = rs) (hP13 : decide (rs < 0) = false) (hP14 : r * r = rr) (hP15 : cmpI rr a = c3) (hP16 : decide (0 < c3) = false) (hP17 : t * t = tt) (hP18 : cmpI tt a = c4) (hP19 : decide (c4 ≤ 0) = false) (hP20 : pwv a n = 0) (hP21 : pwk a n = false) (hP22 : decide (n < 0) = true) (_ik : Hid (0 ≤ k ∧ k ≤ 256)) (_ir : InI r) (_ia : InI a) (_in : In64 n)  (w : World) (hG : Tab w) :
    Calls Tryd.prog 6 #[.agg #[.int .u64 (wd0 a), .int .u64 (wd1 a), .int .u64 (wd2 a), .int .u64 (wd3 a)], .int .i64 n] w fun e w' => e = .returned (.bool true) ∧ Below w.heap.size w w' := by

  have HP0 := Lib.hid hP0
  clear hP0
  have HP2 := Lib.hid hP2
  clear hP2
  have HP5 := Lib.hid hP5
  clear hP5
  have HP6 := Lib.hid hP6
  clear hP6
  have HP9 := Lib.hid hP9
  clear hP9
  have HP10 := Lib.hid hP10
  clear hP10
  have HP11 := Lib.hid hP11
  clear hP11
  have HP12 := Lib.hid hP12
  clear hP12
  have HP14 := Lib.hid hP14
  clear hP14
  have HP15 := Lib.hid hP15
  clear hP15
  have HP17 := Lib.hid hP17
  clear hP17
  have HP18 := Lib.hid hP18
  clear hP18
  have HP20 := Lib.hid hP20
  clear hP20
  have HP21 := Lib.hid hP21
  clear hP21
  go_enter Tryd.func6, Tryd.ntmps6
  go_wp2_with fail
  first | refine calls_w ?_ | refine name_world ?_ | refine list_world ?_ | refine post_world ?_
  intro V1 hV1
  have hn : Below w.heap.size w V1 := by rw [hV1]; exact below_a1 _ _
  have nhb0 := hn
  have k1 : Blk V1 w.heap.size #[.int .u64 (wd0 a), .int .u64 (wd1 a), .int .u64 (wd2 a), .int .u64 (wd3 a)] 24 := by rw [hV1]; exact (Blk.new _ _ _)
  clear hV1
  have hb0 := nhb0
  clear nhb0
  refine (Read_v a a rfl _ia _).mono ?_
  rintro e U2 ⟨v_, rfl, hbm, hn⟩
  replace k1 := k1.of hn
  replace hb0 := hb0.trans (hn.mono hb0.size)
  clear hn
  have HB1 := Lib.hid hbm
  have hvm := hbm.shape
  clear hbm
  obtain ⟨bn1, ba1, bl1, bc1, rfl⟩ := hvm
  go_wp2_with fail
  first | refine calls_w ?_ | refine name_world ?_ | refine list_world ?_ | refine post_world ?_
  intro V3 hV3
  have D1 := Lib.hid k1.lt
  have D2 := Lib.hid hb0.size
  have hn : Below U2.heap.size U2 V3 := by rw [hV3]; exact below_a2 _ _ _
  have nk1 := k1.of hn
  replace HB1 := Lib.hid (HB1.out.of hn)
  have nhb0 := hb0.trans (hn.mono hb0.size)
  clear hn
  have k2 : Blk V3 U2.heap.size #[.bool bn1, .slice ba1 bl1 bc1] 34 := by rw [hV3]; exact ((Blk.new _ _ _).alloc _)
  have k3 : Blk V3 (U2.heap.size + 1) #[.bool bn1, .slice ba1 bl1 bc1] 34 := by rw [hV3]; exact (Blk.new1 _ _ _ _)
  clear k1
  clear hb0
  clear hV3
  have k1 := nk1
  clear nk1
  have hb0 := nhb0
  clear nhb0
  refine (bigSign_v (.agg #[.bool bn1, .slice ba1 bl1 bc1]) a 18 s HP0.out _ HB1.out).mono ?_
  rintro e U4 ⟨rfl, hn⟩
  replace k1 := k1.of hn
  replace k2 := k2.of hn
  replace k3 := k3.of hn
  replace HB1 := Lib.hid (HB1.out.of hn)
  replace hb0 := hb0.trans (hn.mono hb0.size)
  clear hn
  have c1_0 : U4.cell? ⟨w.heap.size, 0, none⟩ = some (.int .u64 (wd0 a)) := k1.cell 0
  have c1_1 : U4.cell? ⟨w.heap.size, 1, none⟩ = some (.int .u64 (wd1 a)) := k1.cell 1
  have c1_2 : U4.cell? ⟨w.heap.size, 2, none⟩ = some (.int .u64 (wd2 a)) := k1.cell 2
  have c1_3 : U4.cell? ⟨w.heap.size, 3, none⟩ = some (.int .u64 (wd3 a)) := k1.cell 3
  have l1 := k1.lt
  go_wp2_with fail
  clear c1_0 c1_1 c1_2 c1_3 l1
  refine (Bits_v a k HP2.out _ia _).mono ?_
  rintro e U5 ⟨rfl, hn⟩
  replace k1 := k1.of hn
  replace k2 := k2.of hn
  replace k3 := k3.of hn
  replace HB1 := Lib.hid (HB1.out.of hn)
  replace hb0 := hb0.trans (hn.mono hb0.size)
  clear hn
  go_wp2_with fail
  have c3_0 : U5.cell? ⟨(U2.heap.size + 1), 0, none⟩ = some (.bool bn1) := k3.cell 0
  have c3_1 : U5.cell? ⟨(U2.heap.size + 1), 1, none⟩ = some (.slice ba1 bl1 bc1) := k3.cell 1
  have l3 := k3.lt
  have Kk1 := Lib.hid k1
  clear k1
  have Kk2 := Lib.hid k2
  clear k2
  have Kk3 := Lib.hid k3
  clear k3
  refine wp_region_up U5.heap.size 21 [(true, 0), (true, 1), (true, 2), (true, 3), (true, 4), (true, 5), (true, 6), (true, 7), (true, 8), (false, 9), (false, 10), (true, 11), (true, 12), (true, 13), (true, 14), (true, 15), (true, 16), (true, 17), (true, 18), (true, 19), (false, 20)] (by kernel_rfl) (by kernel_rfl) (fun _ _ d _ _ h => by cases d <;> exact h) ?_
  have hb : Below U5.heap.size U5 U5.drew := (Below.refl _ _).drew
  iterate 9
    refine wpS_takeL rfl rfl ?_
    go_big_quiet_step (rfl)
    refine wpQuiet_nil ?_
  refine wpS_doL rfl ?_
  intro K hK
  go_wp2_with ((go_at_call 21; (with_reducible refine (powk_v k q _ik.out HP5.out _).mono ?_); rintro e w2 ⟨v_, rfl, hbm, hn⟩; have HB2 := Lib.hid hbm; have hvm := hbm.shape; clear hbm; obtain ⟨bn2, ba2, bl2, bc2, rfl⟩ := hvm))
  try replace hb := hb.trans (hn.mono hb.size)
  refine hK.out _ _ (up_iff.2 hb) ?_
  clear hK K
  try clear hn
  refine wpS_doL rfl ?_
  intro K hK
  go_wp2_with ((go_at_call 20; (with_reducible refine (bigCmp_v (.agg #[.bool bn1, .slice ba1 bl1 bc1]) (.agg #[.bool bn2, .slice ba2 bl2 bc2]) a q 18 18 c1 HP6.out _ (HB1.out.of hb) HB2.out).mono ?_); rintro e w2 ⟨rfl, hn⟩; replace HB2 := Lib.hid (HB2.out.of hn)))
  try replace hb := hb.trans (hn.mono hb.size)
  refine hK.out _ _ (up_iff.2 hb) ?_
  clear hK K
  try clear hn
  iterate 9
    refine wpS_takeL rfl rfl ?_
    go_big_quiet_step (rfl)
    refine wpQuiet_nil ?_
  refine wpS_doL rfl ?_
  intro K hK
  go_wp2_with ((go_at_call 21; (with_reducible refine (powk_v k q _ik.out HP5.out _).mono ?_); rintro e w2 ⟨v_, rfl, hbm, hn⟩; have HB2 := Lib.hid hbm; have hvm := hbm.shape; clear hbm; obtain ⟨bn2, ba2, bl2, bc2, rfl⟩ := hvm))
  try replace hb := hb.trans (hn.mono hb.size)
  refine hK.out _ _ (up_iff.2 hb) ?_
  clear hK K
  try clear hn
  refine wpS_nil ?_
  simp only [List.drop_succ_cons, List.drop_zero]
  first | refine calls_w ?_ | refine name_world ?_ | refine list_world ?_ | refine post_world ?_
  intro U6 hU6
  first | (subst hU6; have u_ := U6; clear u_) | (rw [← hU6] at hb; clear hU6)
  clear c3_0 c3_1 l3
  have k1 := Kk1.out.of hb
  clear Kk1
  have k2 := Kk2.out.of hb
  clear Kk2
  have k3 := Kk3.out.of hb
  clear Kk3
  replace HB1 := Lib.hid (HB1.out.of hb)
  replace hb0 := hb0.trans (hb.mono hb0.size)
  clear hb
  have c1_0 : U6.cell? ⟨w.heap.size, 0, none⟩ = some (.int .u64 (wd0 a)) := k1.cell 0
  have c1_1 : U6.cell? ⟨w.heap.size, 1, none⟩ = some (.int .u64 (wd1 a)) := k1.cell 1
  have c1_2 : U6.cell? ⟨w.heap.size, 2, none⟩ = some (.int .u64 (wd2 a)) := k1.cell 2
  have c1_3 : U6.cell? ⟨w.heap.size, 3, none⟩ = some (.int .u64 (wd3 a)) := k1.cell 3
  have l1 := k1.lt
  go_wp2_with fail
  clear c1_0 c1_1 c1_2 c1_3 l1
  refine (Root_v a r true HP9.out HP10.out _ia _).mono ?_
  rintro e U7 ⟨rfl, hn⟩
  clear HB2
  clear k3
  replace k1 := k1.of hn
  replace k2 := k2.of hn
  replace HB1 := Lib.hid (HB1.out.of hn)
  replace hb0 := hb0.trans (hn.mono hb0.size)
  clear hn
  have c2_0 : U7.cell? ⟨U2.heap.size, 0, none⟩ = some (.bool bn1) := k2.cell 0
  have c2_1 : U7.cell? ⟨U2.heap.size, 1, none⟩ = some (.slice ba1 bl1 bc1) := k2.cell 1
  have l2 := k2.lt
  go_wp2_with fail
  clear c2_0 c2_1 l2
  first | refine calls_w ?_ | refine name_world ?_ | refine list_world ?_ | refine post_world ?_
  intro V8 hV8
  have D3 := Lib.hid k1.lt
  have D4 := Lib.hid k2.lt
  have D5 := Lib.hid hb0.size
  have hn : Below U7.heap.size U7 V8 := by rw [hV8]; exact below_a1 _ _
  have nk1 := k1.of hn
  have nk2 := k2.of hn
  replace HB1 := Lib.hid (HB1.out.of hn)
  have nhb0 := hb0.trans (hn.mono hb0.size)
  clear hn
  have k4 : Blk V8 U7.heap.size #[.int .u64 (wd0 r), .int .u64 (wd1 r), .int .u64 (wd2 r), .int .u64 (wd3 r)] 24 := by rw [hV8]; exact (Blk.new _ _ _)
  clear k1 k2
  clear hb0
  clear hV8
  have k1 := nk1
  clear nk1
  have k2 := nk2
  clear nk2
  have hb0 := nhb0
  clear nhb0
  refine (bigSign_v (.agg #[.bool bn1, .slice ba1 bl1 bc1]) a 18 s HP0.out _ HB1.out).mono ?_
  rintro e U9 ⟨rfl, hn⟩
  replace k1 := k1.of hn
  replace k2 := k2.of hn
  replace k4 := k4.of hn
  replace HB1 := Lib.hid (HB1.out.of hn)
  replace hb0 := hb0.trans (hn.mono hb0.size)
  clear hn
  have c4_0 : U9.cell? ⟨U7.heap.size, 0, none⟩ = some (.int .u64 (wd0 r)) := k4.cell 0
  have c4_1 : U9.cell? ⟨U7.heap.size, 1, none⟩ = some (.int .u64 (wd1 r)) := k4.cell 1
  have c4_2 : U9.cell? ⟨U7.heap.size, 2, none⟩ = some (.int .u64 (wd2 r)) := k4.cell 2
  have c4_3 : U9.cell? ⟨U7.heap.size, 3, none⟩ = some (.int .u64 (wd3 r)) := k4.cell 3
  have l4 := k4.lt
  go_wp2_with fail
  clear c4_0 c4_1 c4_2 c4_3 l4
  refine (Read_v r r rfl _ir _).mono ?_
  rintro e U10 ⟨v_, rfl, hbm, hn⟩
  clear k4
  replace k1 := k1.of hn
  replace k2 := k2.of hn
  replace HB1 := Lib.hid (HB1.out.of hn)
  replace hb0 := hb0.trans (hn.mono hb0.size)
  clear hn
  have HB3 := Lib.hid hbm
  have hvm := hbm.shape
  clear hbm
  obtain ⟨bn3, ba3, bl3, bc3, rfl⟩ := hvm
  go_wp2_with fail
  first | refine calls_w ?_ | refine name_world ?_ | refine list_world ?_ | refine post_world ?_
  intro V11 hV11
  have D6 := Lib.hid k1.lt
  have D7 := Lib.hid k2.lt
  have D8 := Lib.hid hb0.size
  have hn : Below U10.heap.size U10 V11 := by rw [hV11]; exact below_a1 _ _
  have nk1 := k1.of hn
  have nk2 := k2.of hn
  replace HB1 := Lib.hid (HB1.out.of hn)
  replace HB3 := Lib.hid (HB3.out.of hn)
  have nhb0 := hb0.trans (hn.mono hb0.size)
  clear hn
  have k5 : Blk V11 U10.heap.size #[.bool bn3, .slice ba3 bl3 bc3] 34 := by rw [hV11]; exact (Blk.new _ _ _)
  clear k1 k2
  clear hb0
  clear hV11
  have k1 := nk1
  clear nk1
  have k2 := nk2
  clear nk2
  have hb0 := nhb0
  clear nhb0
  have c5_0 : V11.cell? ⟨U10.heap.size, 0, none⟩ = some (.bool bn3) := k5.cell 0
  have c5_1 : V11.cell? ⟨U10.heap.size, 1, none⟩ = some (.slice ba3 bl3 bc3) := k5.cell 1
  have l5 := k5.lt
  have Kk1 := Lib.hid k1
  clear k1
  have Kk2 := Lib.hid k2
  clear k2
  have Kk5 := Lib.hid k5
  clear k5
  refine wp_region_float1 4 3 [(true, 0), (false, 1), (false, 2)] (by kernel_rfl) (by kernel_rfl) (fun _ _ d _ _ => by cases d <;> exact Iff.rfl) rfl rfl rfl alWrL0_0 ?_
  have hb : Below V11.heap.size V11 V11.drew := (Below.refl _ _).drew
  refine wpF_take rfl rfl ?_
  go_big_quiet_step (rfl)
  refine wpQuiet_nil ?_
  refine wpF_do rfl ?_
  intro w1 hg K hK
  replace hb := hb.trans (hg.mono hb.size)
  try replace HB4 := Lib.hid (HB4.out.of hg); try replace HB5 := Lib.hid (HB5.out.of hg)
  clear hg
  go_wp2_with ((go_at_call 24; (with_reducible refine (bigOf_v 1 1 rfl (by unfold In64; omega) _).mono ?_); rintro e w2 ⟨v_, rfl, hbm, hn⟩; have HB4 := Lib.hid hbm; have hvm := hbm.shape; clear hbm; obtain ⟨bn4, ba4, bl4, bc4, rfl⟩ := hvm))
  refine hK.out _ _ hn ?_
  replace hb := hb.trans (hn.mono hb.size)
  clear hK K
  clear hn
  refine wpF_do rfl ?_
  intro w1 hg K hK
  replace hb := hb.trans (hg.mono hb.size)
  try replace HB4 := Lib.hid (HB4.out.of hg); try replace HB5 := Lib.hid (HB5.out.of hg)
  clear hg
  go_wp2_with ((go_at_call 23; (with_reducible refine (bigAdd_v (.agg #[.bool bn3, .slice ba3 bl3 bc3]) (.agg #[.bool bn4, .slice ba4 bl4 bc4]) r 1 t 18 HP11.out _ (HB3.out.of hb) (HB4.out.mono (by decide)) (by decide)).mono ?_); rintro e w2 ⟨v_, rfl, hbm, hn⟩; replace HB4 := Lib.hid (HB4.out.of hn); have HB5 := Lib.hid hbm; have hvm := hbm.shape; clear hbm; obtain ⟨bn5, ba5, bl5, bc5, rfl⟩ := hvm))
  refine hK.out _ _ hn ?_
  replace hb := hb.trans (hn.mono hb.size)
  clear hK K
  clear hn
  refine wpF_nil ?_
  clear hb
  intro w1 hg hb b1 lb1 nb1
  replace HB4 := Lib.hid (HB4.out.of hg)
  replace HB5 := Lib.hid (HB5.out.of hg)
  clear hg
  simp only [Act.put, ptrTo, List.setIfInBounds_toArray, List.set_cons_succ, List.set_cons_zero]
  simp only [List.drop_succ_cons, List.drop_zero]
  clear c5_0 c5_1 l5
  first | refine calls_w ?_ | refine name_world ?_ | refine list_world ?_ | refine post_world ?_
  intro U12 hU12
  subst hU12
  have D9 := Lib.hid Kk1.out.lt
  have D10 := Lib.hid Kk2.out.lt
  have D11 := Lib.hid Kk5.out.lt
  have D12 := Lib.hid hb0.size
  have k6 : Blk U12 b1 #[.bool false, .slice none 0 0] 34 := nb1
  have k1 := Kk1.out.of hb
  clear Kk1
  have k2 := Kk2.out.of hb
  clear Kk2
  have k5 := Kk5.out.of hb
  clear Kk5
  have D13 := Lib.hid lb1
  clear nb1 lb1
  replace HB1 := Lib.hid (HB1.out.of hb)
  replace HB3 := Lib.hid (HB3.out.of hb)
  replace hb0 := hb0.trans (hb.mono hb0.size)
  clear hb
  generalize b1 = q6 at *
  have c6_0 : U12.cell? ⟨q6, 0, none⟩ = some (.bool false) := k6.cell 0
  have c6_1 : U12.cell? ⟨q6, 1, none⟩ = some (.slice none 0 0) := k6.cell 1
  have f6_0 := k6.free 0
  have f6_1 := k6.free 1
  have l6 := k6.lt
  go_wp2_with fail
  clear c6_0 c6_1 f6_0 f6_1 l6
  first | refine calls_w ?_ | refine name_world ?_ | refine list_world ?_ | refine post_world ?_
  intro V13 hV13
  clear HB4
  have D14 := Lib.hid k1.lt
  have D15 := Lib.hid k2.lt
  have D16 := Lib.hid k5.lt
  have D17 := Lib.hid k6.lt
  have D18 := Lib.hid hb0.size
  have nk1 : Blk V13 w.heap.size #[.int .u64 (wd0 a), .int .u64 (wd1 a), .int .u64 (wd2 a), .int .u64 (wd3 a)] 24 := by rw [hV13]; exact (blk_setL k1 (by have := D9.out; have := D13.out; omega) 0 [.bool bn5, .slice ba5 bl5 bc5])
  have nk2 : Blk V13 U2.heap.size #[.bool bn1, .slice ba1 bl1 bc1] 34 := by rw [hV13]; exact (blk_setL k2 (by have := D10.out; have := D13.out; omega) 0 [.bool bn5, .slice ba5 bl5 bc5])
  have nk5 : Blk V13 U10.heap.size #[.bool bn3, .slice ba3 bl3 bc3] 34 := by rw [hV13]; exact (blk_setL k5 (by have := D11.out; have := D13.out; omega) 0 [.bool bn5, .slice ba5 bl5 bc5])
  have nk6 : Blk V13 q6 #[.bool bn5, .slice ba5 bl5 bc5] 34 := by rw [hV13]; exact (blk_full _ [.bool bn5, .slice ba5 bl5 bc5] k6 rfl)
  have nhb0 : Below w.heap.size w V13 := by rw [hV13]; exact (blw_setL hb0 (by have := D12.out; have := D13.out; omega) 0 [.bool bn5, .slice ba5 bl5 bc5])
  replace HB1 : Hid (Big V13 (.agg #[.bool bn1, .slice ba1 bl1 bc1]) a 18) := Lib.hid (by rw [hV13]; exact (big_setL HB1.out (Blk.cell k6 0) (fun _ h => by cases h) 0 [.bool bn5, .slice ba5 bl5 bc5]))
  replace HB3 : Hid (Big V13 (.agg #[.bool bn3, .slice ba3 bl3 bc3]) r 18) := Lib.hid (by rw [hV13]; exact (big_setL HB3.out (Blk.cell k6 0) (fun _ h => by cases h) 0 [.bool bn5, .slice ba5 bl5 bc5]))
  replace HB5 : Hid (Big V13 (.agg #[.bool bn5, .slice ba5 bl5 bc5]) t 19) := Lib.hid (by rw [hV13]; exact (big_setL HB5.out (Blk.cell k6 0) (fun _ h => by cases h) 0 [.bool bn5, .slice ba5 bl5 bc5]))
  clear k1 k2 k5 k6
  clear hb0
  clear hV13
  have k1 := nk1
  clear nk1
  have k2 := nk2
  clear nk2
  have k5 := nk5
  clear nk5
  have k6 := nk6
  clear nk6
  have hb0 := nhb0
  clear nhb0
  have c2_0 : V13.cell? ⟨U2.heap.size, 0, none⟩ = some (.bool bn1) := k2.cell 0
  have c2_1 : V13.cell? ⟨U2.heap.size, 1, none⟩ = some (.slice ba1 bl1 bc1) := k2.cell 1
  have l2 := k2.lt
  have c5_0 : V13.cell? ⟨U10.heap.size, 0, none⟩ = some (.bool bn3) := k5.cell 0
  have c5_1 : V13.cell? ⟨U10.heap.size, 1, none⟩ = some (.slice ba3 bl3 bc3) := k5.cell 1
  have l5 := k5.lt
  have c6_0 : V13.cell? ⟨q6, 0, none⟩ = some (.bool bn5) := k6.cell 0
  have c6_1 : V13.cell? ⟨q6, 1, none⟩ = some (.slice ba5 bl5 bc5) := k6.cell 1
  have l6 := k6.lt
  have Kk1 := Lib.hid k1
  clear k1
  have Kk2 := Lib.hid k2
  clear k2
  have Kk5 := Lib.hid k5
  clear k5
  have Kk6 := Lib.hid k6
  clear k6
  refine wp_region_up V13.heap.size 20 [(true, 0), (true, 1), (true, 2), (true, 3), (false, 4), (true, 5), (true, 6), (true, 7), (true, 8), (true, 9), (true, 11), (false, 10), (false, 12), (true, 13), (true, 14), (true, 15), (true, 16), (true, 17), (true, 19), (false, 18)] (by kernel_rfl) (by kernel_rfl) (fun _ _ d _ _ h => by cases d <;> exact h) ?_
  have hb : Below V13.heap.size V13 V13.drew := (Below.refl _ _).drew
  iterate 4
    refine wpS_takeL rfl rfl ?_
    go_big_quiet_step (rfl)
    refine wpQuiet_nil ?_
  refine wpS_doL rfl ?_
  intro K hK
  go_wp2_with ((go_at_call 17; (with_reducible refine (bigSign_v (.agg #[.bool bn3, .slice ba3 bl3 bc3]) r 18 rs HP12.out _ (HB3.out.of hb)).mono ?_); rintro e w2 ⟨rfl, hn⟩))
  try replace hb := hb.trans (hn.mono hb.size)
  refine hK.out _ _ (up_iff.2 hb) ?_
  clear hK K
  try clear hn
  iterate 6
    refine wpS_takeL rfl rfl ?_
    go_big_quiet_step (rfl)
    refine wpQuiet_nil ?_
  refine wpS_doL rfl ?_
  intro K hK
  go_wp2_with ((first | (go_at_call 25; (with_reducible refine (bigMul_v (.agg #[.bool bn3, .slice ba3 bl3 bc3]) (.agg #[.bool bn3, .slice ba3 bl3 bc3]) r r rr 18 18 HP14.out _ (HB3.out.of hb) (HB3.out.of hb) (by decide)).mono ?_); rintro e w2 ⟨v_, rfl, hbm, hn⟩; have HB6 := Lib.hid hbm; have hvm := hbm.shape; clear hbm; obtain ⟨bn6, ba6, bl6, bc6, rfl⟩ := hvm) | (go_at_call 25; (with_reducible refine (bigMul_v (.agg #[.bool bn5, .slice ba5 bl5 bc5]) (.agg #[.bool bn5, .slice ba5 bl5 bc5]) t t tt 19 19 HP17.out _ (HB5.out.of hb) (HB5.out.of hb) (by decide)).mono ?_); rintro e w2 ⟨v_, rfl, hbm, hn⟩; replace HB6 := Lib.hid (HB6.out.of hn); have HB7 := Lib.hid hbm; have hvm := hbm.shape; clear hbm; obtain ⟨bn7, ba7, bl7, bc7, rfl⟩ := hvm)))
  try replace hb := hb.trans (hn.mono hb.size)
  refine hK.out _ _ (up_iff.2 hb) ?_
  clear hK K
  try clear hn
  refine wpS_doL rfl ?_
  intro K hK
  go_wp2_with ((go_at_call 20; (with_reducible refine (bigCmp_v (.agg #[.bool bn6, .slice ba6 bl6 bc6]) (.agg #[.bool bn1, .slice ba1 bl1 bc1]) rr a 36 18 c3 HP15.out _ HB6.out (HB1.out.of hb)).mono ?_); rintro e w2 ⟨rfl, hn⟩; replace HB6 := Lib.hid (HB6.out.of hn)))
  try replace hb := hb.trans (hn.mono hb.size)
  refine hK.out _ _ (up_iff.2 hb) ?_
  clear hK K
  try clear hn
  iterate 6
    refine wpS_takeL rfl rfl ?_
    go_big_quiet_step (rfl)
    refine wpQuiet_nil ?_
  refine wpS_doL rfl ?_
  intro K hK
  go_wp2_with ((first | (go_at_call 25; (with_reducible refine (bigMul_v (.agg #[.bool bn3, .slice ba3 bl3 bc3]) (.agg #[.bool bn3, .slice ba3 bl3 bc3]) r r rr 18 18 HP14.out _ (HB3.out.of hb) (HB3.out.of hb) (by decide)).mono ?_); rintro e w2 ⟨v_, rfl, hbm, hn⟩; have HB6 := Lib.hid hbm; have hvm := hbm.shape; clear hbm; obtain ⟨bn6, ba6, bl6, bc6, rfl⟩ := hvm) | (go_at_call 25; (with_reducible refine (bigMul_v (.agg #[.bool bn5, .slice ba5 bl5 bc5]) (.agg #[.bool bn5, .slice ba5 bl5 bc5]) t t tt 19 19 HP17.out _ (HB5.out.of hb) (HB5.out.of hb) (by decide)).mono ?_); rintro e w2 ⟨v_, rfl, hbm, hn⟩; replace HB6 := Lib.hid (HB6.out.of hn); have HB7 := Lib.hid hbm; have hvm := hbm.shape; clear hbm; obtain ⟨bn7, ba7, bl7, bc7, rfl⟩ := hvm)))
  try replace hb := hb.trans (hn.mono hb.size)
  refine hK.out _ _ (up_iff.2 hb) ?_
  clear hK K
  try clear hn
  refine wpS_nil ?_
  simp only [List.drop_succ_cons, List.drop_zero]
  first | refine calls_w ?_ | refine name_world ?_ | refine list_world ?_ | refine post_world ?_
  intro U14 hU14
  first | (subst hU14; have u_ := U14; clear u_) | (rw [← hU14] at hb; clear hU14)
  clear c2_0 c2_1 l2 c5_0 c5_1 l5 c6_0 c6_1 l6
  have k1 := Kk1.out.of hb
  clear Kk1
  have k2 := Kk2.out.of hb
  clear Kk2
  have k5 := Kk5.out.of hb
  clear Kk5
  have k6 := Kk6.out.of hb
  clear Kk6
  replace HB1 := Lib.hid (HB1.out.of hb)
  replace HB3 := Lib.hid (HB3.out.of hb)
  replace HB5 := Lib.hid (HB5.out.of hb)
  replace hb0 := hb0.trans (hb.mono hb0.size)
  clear hb
  go_wp2_with fail
  refine (bigCmp_v (.agg #[.bool bn7, .slice ba7 bl7 bc7]) (.agg #[.bool bn1, .slice ba1 bl1 bc1]) tt a 38 18 c4 HP18.out _ HB7.out HB1.out).mono ?_
  rintro e U15 ⟨rfl, hn⟩
  clear HB3 HB5 HB6 HB7
  clear k5 k6
  replace k1 := k1.of hn
  replace k2 := k2.of hn
  replace HB1 := Lib.hid (HB1.out.of hn)
  replace hb0 := hb0.trans (hn.mono hb0.size)
  clear hn
  have c1_0 : U15.cell? ⟨w.heap.size, 0, none⟩ = some (.int .u64 (wd0 a)) := k1.cell 0
  have c1_1 : U15.cell? ⟨w.heap.size, 1, none⟩ = some (.int .u64 (wd1 a)) := k1.cell 1
  have c1_2 : U15.cell? ⟨w.heap.size, 2, none⟩ = some (.int .u64 (wd2 a)) := k1.cell 2
  have c1_3 : U15.cell? ⟨w.heap.size, 3, none⟩ = some (.int .u64 (wd3 a)) := k1.cell 3
  have l1 := k1.lt
  go_wp2_with fail
  clear c1_0 c1_1 c1_2 c1_3 l1
  refine (Power_v a n 0 false HP20.out HP21.out _ia _in _).mono ?_
  rintro e U16 ⟨rfl, hn⟩
  clear k1
  replace k2 := k2.of hn
  replace HB1 := Lib.hid (HB1.out.of hn)
  replace hb0 := hb0.trans (hn.mono hb0.size)
  clear hn
  go_wp2_with fail
  first | refine calls_w ?_ | refine name_world ?_ | refine list_world ?_ | refine post_world ?_
  intro V17 hV17
  have D19 := Lib.hid k2.lt
  have D20 := Lib.hid hb0.size
  have hn : Below U16.heap.size U16 V17 := by rw [hV17]; exact below_a1 _ _
  have nk2 := k2.of hn
  replace HB1 := Lib.hid (HB1.out.of hn)
  have nhb0 := hb0.trans (hn.mono hb0.size)
  clear hn
  have k7 : Blk V17 U16.heap.size #[.int .u64 (wd0 0), .int .u64 (wd1 0), .int .u64 (wd2 0), .int .u64 (wd3 0)] 24 := by rw [hV17]; exact (Blk.new _ _ _)
  clear k2
  clear hb0
  clear hV17
  have k2 := nk2
  clear nk2
  have hb0 := nhb0
  clear nhb0
  refine (wawake_any _ (hG.of hb0)).mono ?_
  rintro e U18 ⟨rfl, hn⟩
  replace k2 := k2.of hn
  replace k7 := k7.of hn
  replace HB1 := Lib.hid (HB1.out.of hn)
  replace hb0 := hb0.trans (hn.mono hb0.size)
  clear hn
  go_wp2
  first | go_ret | go_ret2
  exact ⟨by first | rfl | (simp; done) | (simp; assumption), hb0⟩

set_option maxRecDepth 100000 in
set_option maxHeartbeats 4000000 in

theorem WRo_11 (a : Int) (n : Int) (s : Int) (k : Int) (q : Int) (c1 : Int) (r : Int) (t : Int) (rs : Int) (rr : Int) (c3 : Int) (tt : Int) (c4 : Int)   (hP0 : a.sign = s) (hP1 : decide (s < 0) = false) (hP2 : btn a = k) (hP3 : decide (k < 0) = false) (hP4 : decide (256 < k) = false) (hP5 : 2 ^ k.toNat = q) (hP6 : cmpI a q = c1) (hP7 : decide (0 ≤ c1) = false) (hP8 : decide (0 < k) = false) (hP9 : rtv a = r) (hP10 : rtk a = true) (hP11 : r + 1 = t) (hP12 : r.sign = rs) (hP13 : decide (rs < 0) = false) (hP14 : r * r = rr) (hP15 : cmpI rr a = c3) (hP16 : decide (0 < c3) = false) (hP17 : t * t = tt) (hP18 : cmpI tt a = c4) (hP19 : decide (c4 ≤ 0) = false) (hP20 : pwv a n = 0) (hP21 : pwk a n = false) (hP22 : decide (n < 0) = false) (hP23 : decide (256 < n) = true) (_ik : Hid (0 ≤ k ∧ k ≤ 256)) (_ir : InI r) (_ia : InI a) (_in : In64 n)  (w : World) (hG : Tab w) :
    Calls Tryd.prog 6 #[.agg #[.int .u64 (wd0 a), .int .u64 (wd1 a), .int .u64 (wd2 a), .int .u64 (wd3 a)], .int .i64 n] w fun e w' => e = .returned (.bool true) ∧ Below w.heap.size w w' := by

  have HP0 := Lib.hid hP0
  clear hP0
  have HP2 := Lib.hid hP2
  clear hP2
  have HP5 := Lib.hid hP5
  clear hP5
  have HP6 := Lib.hid hP6
  clear hP6
  have HP9 := Lib.hid hP9
  clear hP9
  have HP10 := Lib.hid hP10
  clear hP10
  have HP11 := Lib.hid hP11
  clear hP11
  have HP12 := Lib.hid hP12
  clear hP12
  have HP14 := Lib.hid hP14
  clear hP14
  have HP15 := Lib.hid hP15
  clear hP15
  have HP17 := Lib.hid hP17
  clear hP17
  have HP18 := Lib.hid hP18
  clear hP18
  have HP20 := Lib.hid hP20
  clear hP20
  have HP21 := Lib.hid hP21
  clear hP21
  go_enter Tryd.func6, Tryd.ntmps6
  go_wp2_with fail
  first | refine calls_w ?_ | refine name_world ?_ | refine list_world ?_ | refine post_world ?_
  intro V1 hV1
  have hn : Below w.heap.size w V1 := by rw [hV1]; exact below_a1 _ _
  have nhb0 := hn
  have k1 : Blk V1 w.heap.size #[.int .u64 (wd0 a), .int .u64 (wd1 a), .int .u64 (wd2 a), .int .u64 (wd3 a)] 24 := by rw [hV1]; exact (Blk.new _ _ _)
  clear hV1
  have hb0 := nhb0
  clear nhb0
  refine (Read_v a a rfl _ia _).mono ?_
  rintro e U2 ⟨v_, rfl, hbm, hn⟩
  replace k1 := k1.of hn
  replace hb0 := hb0.trans (hn.mono hb0.size)
  clear hn
  have HB1 := Lib.hid hbm
  have hvm := hbm.shape
  clear hbm
  obtain ⟨bn1, ba1, bl1, bc1, rfl⟩ := hvm
  go_wp2_with fail
  first | refine calls_w ?_ | refine name_world ?_ | refine list_world ?_ | refine post_world ?_
  intro V3 hV3
  have D1 := Lib.hid k1.lt
  have D2 := Lib.hid hb0.size
  have hn : Below U2.heap.size U2 V3 := by rw [hV3]; exact below_a2 _ _ _
  have nk1 := k1.of hn
  replace HB1 := Lib.hid (HB1.out.of hn)
  have nhb0 := hb0.trans (hn.mono hb0.size)
  clear hn
  have k2 : Blk V3 U2.heap.size #[.bool bn1, .slice ba1 bl1 bc1] 34 := by rw [hV3]; exact ((Blk.new _ _ _).alloc _)
  have k3 : Blk V3 (U2.heap.size + 1) #[.bool bn1, .slice ba1 bl1 bc1] 34 := by rw [hV3]; exact (Blk.new1 _ _ _ _)
  clear k1
  clear hb0
  clear hV3
  have k1 := nk1
  clear nk1
  have hb0 := nhb0
  clear nhb0
  refine (bigSign_v (.agg #[.bool bn1, .slice ba1 bl1 bc1]) a 18 s HP0.out _ HB1.out).mono ?_
  rintro e U4 ⟨rfl, hn⟩
  replace k1 := k1.of hn
  replace k2 := k2.of hn
  replace k3 := k3.of hn
  replace HB1 := Lib.hid (HB1.out.of hn)
  replace hb0 := hb0.trans (hn.mono hb0.size)
  clear hn
  have c1_0 : U4.cell? ⟨w.heap.size, 0, none⟩ = some (.int .u64 (wd0 a)) := k1.cell 0
  have c1_1 : U4.cell? ⟨w.heap.size, 1, none⟩ = some (.int .u64 (wd1 a)) := k1.cell 1
  have c1_2 : U4.cell? ⟨w.heap.size, 2, none⟩ = some (.int .u64 (wd2 a)) := k1.cell 2
  have c1_3 : U4.cell? ⟨w.heap.size, 3, none⟩ = some (.int .u64 (wd3 a)) := k1.cell 3
  have l1 := k1.lt
  go_wp2_with fail
  clear c1_0 c1_1 c1_2 c1_3 l1
  refine (Bits_v a k HP2.out _ia _).mono ?_
  rintro e U5 ⟨rfl, hn⟩
  replace k1 := k1.of hn
  replace k2 := k2.of hn
  replace k3 := k3.of hn
  replace HB1 := Lib.hid (HB1.out.of hn)
  replace hb0 := hb0.trans (hn.mono hb0.size)
  clear hn
  go_wp2_with fail
  have c3_0 : U5.cell? ⟨(U2.heap.size + 1), 0, none⟩ = some (.bool bn1) := k3.cell 0
  have c3_1 : U5.cell? ⟨(U2.heap.size + 1), 1, none⟩ = some (.slice ba1 bl1 bc1) := k3.cell 1
  have l3 := k3.lt
  have Kk1 := Lib.hid k1
  clear k1
  have Kk2 := Lib.hid k2
  clear k2
  have Kk3 := Lib.hid k3
  clear k3
  refine wp_region_up U5.heap.size 21 [(true, 0), (true, 1), (true, 2), (true, 3), (true, 4), (true, 5), (true, 6), (true, 7), (true, 8), (false, 9), (false, 10), (true, 11), (true, 12), (true, 13), (true, 14), (true, 15), (true, 16), (true, 17), (true, 18), (true, 19), (false, 20)] (by kernel_rfl) (by kernel_rfl) (fun _ _ d _ _ h => by cases d <;> exact h) ?_
  have hb : Below U5.heap.size U5 U5.drew := (Below.refl _ _).drew
  iterate 9
    refine wpS_takeL rfl rfl ?_
    go_big_quiet_step (rfl)
    refine wpQuiet_nil ?_
  refine wpS_doL rfl ?_
  intro K hK
  go_wp2_with ((go_at_call 21; (with_reducible refine (powk_v k q _ik.out HP5.out _).mono ?_); rintro e w2 ⟨v_, rfl, hbm, hn⟩; have HB2 := Lib.hid hbm; have hvm := hbm.shape; clear hbm; obtain ⟨bn2, ba2, bl2, bc2, rfl⟩ := hvm))
  try replace hb := hb.trans (hn.mono hb.size)
  refine hK.out _ _ (up_iff.2 hb) ?_
  clear hK K
  try clear hn
  refine wpS_doL rfl ?_
  intro K hK
  go_wp2_with ((go_at_call 20; (with_reducible refine (bigCmp_v (.agg #[.bool bn1, .slice ba1 bl1 bc1]) (.agg #[.bool bn2, .slice ba2 bl2 bc2]) a q 18 18 c1 HP6.out _ (HB1.out.of hb) HB2.out).mono ?_); rintro e w2 ⟨rfl, hn⟩; replace HB2 := Lib.hid (HB2.out.of hn)))
  try replace hb := hb.trans (hn.mono hb.size)
  refine hK.out _ _ (up_iff.2 hb) ?_
  clear hK K
  try clear hn
  iterate 9
    refine wpS_takeL rfl rfl ?_
    go_big_quiet_step (rfl)
    refine wpQuiet_nil ?_
  refine wpS_doL rfl ?_
  intro K hK
  go_wp2_with ((go_at_call 21; (with_reducible refine (powk_v k q _ik.out HP5.out _).mono ?_); rintro e w2 ⟨v_, rfl, hbm, hn⟩; have HB2 := Lib.hid hbm; have hvm := hbm.shape; clear hbm; obtain ⟨bn2, ba2, bl2, bc2, rfl⟩ := hvm))
  try replace hb := hb.trans (hn.mono hb.size)
  refine hK.out _ _ (up_iff.2 hb) ?_
  clear hK K
  try clear hn
  refine wpS_nil ?_
  simp only [List.drop_succ_cons, List.drop_zero]
  first | refine calls_w ?_ | refine name_world ?_ | refine list_world ?_ | refine post_world ?_
  intro U6 hU6
  first | (subst hU6; have u_ := U6; clear u_) | (rw [← hU6] at hb; clear hU6)
  clear c3_0 c3_1 l3
  have k1 := Kk1.out.of hb
  clear Kk1
  have k2 := Kk2.out.of hb
  clear Kk2
  have k3 := Kk3.out.of hb
  clear Kk3
  replace HB1 := Lib.hid (HB1.out.of hb)
  replace hb0 := hb0.trans (hb.mono hb0.size)
  clear hb
  have c1_0 : U6.cell? ⟨w.heap.size, 0, none⟩ = some (.int .u64 (wd0 a)) := k1.cell 0
  have c1_1 : U6.cell? ⟨w.heap.size, 1, none⟩ = some (.int .u64 (wd1 a)) := k1.cell 1
  have c1_2 : U6.cell? ⟨w.heap.size, 2, none⟩ = some (.int .u64 (wd2 a)) := k1.cell 2
  have c1_3 : U6.cell? ⟨w.heap.size, 3, none⟩ = some (.int .u64 (wd3 a)) := k1.cell 3
  have l1 := k1.lt
  go_wp2_with fail
  clear c1_0 c1_1 c1_2 c1_3 l1
  refine (Root_v a r true HP9.out HP10.out _ia _).mono ?_
  rintro e U7 ⟨rfl, hn⟩
  clear HB2
  clear k3
  replace k1 := k1.of hn
  replace k2 := k2.of hn
  replace HB1 := Lib.hid (HB1.out.of hn)
  replace hb0 := hb0.trans (hn.mono hb0.size)
  clear hn
  have c2_0 : U7.cell? ⟨U2.heap.size, 0, none⟩ = some (.bool bn1) := k2.cell 0
  have c2_1 : U7.cell? ⟨U2.heap.size, 1, none⟩ = some (.slice ba1 bl1 bc1) := k2.cell 1
  have l2 := k2.lt
  go_wp2_with fail
  clear c2_0 c2_1 l2
  first | refine calls_w ?_ | refine name_world ?_ | refine list_world ?_ | refine post_world ?_
  intro V8 hV8
  have D3 := Lib.hid k1.lt
  have D4 := Lib.hid k2.lt
  have D5 := Lib.hid hb0.size
  have hn : Below U7.heap.size U7 V8 := by rw [hV8]; exact below_a1 _ _
  have nk1 := k1.of hn
  have nk2 := k2.of hn
  replace HB1 := Lib.hid (HB1.out.of hn)
  have nhb0 := hb0.trans (hn.mono hb0.size)
  clear hn
  have k4 : Blk V8 U7.heap.size #[.int .u64 (wd0 r), .int .u64 (wd1 r), .int .u64 (wd2 r), .int .u64 (wd3 r)] 24 := by rw [hV8]; exact (Blk.new _ _ _)
  clear k1 k2
  clear hb0
  clear hV8
  have k1 := nk1
  clear nk1
  have k2 := nk2
  clear nk2
  have hb0 := nhb0
  clear nhb0
  refine (bigSign_v (.agg #[.bool bn1, .slice ba1 bl1 bc1]) a 18 s HP0.out _ HB1.out).mono ?_
  rintro e U9 ⟨rfl, hn⟩
  replace k1 := k1.of hn
  replace k2 := k2.of hn
  replace k4 := k4.of hn
  replace HB1 := Lib.hid (HB1.out.of hn)
  replace hb0 := hb0.trans (hn.mono hb0.size)
  clear hn
  have c4_0 : U9.cell? ⟨U7.heap.size, 0, none⟩ = some (.int .u64 (wd0 r)) := k4.cell 0
  have c4_1 : U9.cell? ⟨U7.heap.size, 1, none⟩ = some (.int .u64 (wd1 r)) := k4.cell 1
  have c4_2 : U9.cell? ⟨U7.heap.size, 2, none⟩ = some (.int .u64 (wd2 r)) := k4.cell 2
  have c4_3 : U9.cell? ⟨U7.heap.size, 3, none⟩ = some (.int .u64 (wd3 r)) := k4.cell 3
  have l4 := k4.lt
  go_wp2_with fail
  clear c4_0 c4_1 c4_2 c4_3 l4
  refine (Read_v r r rfl _ir _).mono ?_
  rintro e U10 ⟨v_, rfl, hbm, hn⟩
  clear k4
  replace k1 := k1.of hn
  replace k2 := k2.of hn
  replace HB1 := Lib.hid (HB1.out.of hn)
  replace hb0 := hb0.trans (hn.mono hb0.size)
  clear hn
  have HB3 := Lib.hid hbm
  have hvm := hbm.shape
  clear hbm
  obtain ⟨bn3, ba3, bl3, bc3, rfl⟩ := hvm
  go_wp2_with fail
  first | refine calls_w ?_ | refine name_world ?_ | refine list_world ?_ | refine post_world ?_
  intro V11 hV11
  have D6 := Lib.hid k1.lt
  have D7 := Lib.hid k2.lt
  have D8 := Lib.hid hb0.size
  have hn : Below U10.heap.size U10 V11 := by rw [hV11]; exact below_a1 _ _
  have nk1 := k1.of hn
  have nk2 := k2.of hn
  replace HB1 := Lib.hid (HB1.out.of hn)
  replace HB3 := Lib.hid (HB3.out.of hn)
  have nhb0 := hb0.trans (hn.mono hb0.size)
  clear hn
  have k5 : Blk V11 U10.heap.size #[.bool bn3, .slice ba3 bl3 bc3] 34 := by rw [hV11]; exact (Blk.new _ _ _)
  clear k1 k2
  clear hb0
  clear hV11
  have k1 := nk1
  clear nk1
  have k2 := nk2
  clear nk2
  have hb0 := nhb0
  clear nhb0
  have c5_0 : V11.cell? ⟨U10.heap.size, 0, none⟩ = some (.bool bn3) := k5.cell 0
  have c5_1 : V11.cell? ⟨U10.heap.size, 1, none⟩ = some (.slice ba3 bl3 bc3) := k5.cell 1
  have l5 := k5.lt
  have Kk1 := Lib.hid k1
  clear k1
  have Kk2 := Lib.hid k2
  clear k2
  have Kk5 := Lib.hid k5
  clear k5
  refine wp_region_float1 4 3 [(true, 0), (false, 1), (false, 2)] (by kernel_rfl) (by kernel_rfl) (fun _ _ d _ _ => by cases d <;> exact Iff.rfl) rfl rfl rfl alWrL0_0 ?_
  have hb : Below V11.heap.size V11 V11.drew := (Below.refl _ _).drew
  refine wpF_take rfl rfl ?_
  go_big_quiet_step (rfl)
  refine wpQuiet_nil ?_
  refine wpF_do rfl ?_
  intro w1 hg K hK
  replace hb := hb.trans (hg.mono hb.size)
  try replace HB4 := Lib.hid (HB4.out.of hg); try replace HB5 := Lib.hid (HB5.out.of hg)
  clear hg
  go_wp2_with ((go_at_call 24; (with_reducible refine (bigOf_v 1 1 rfl (by unfold In64; omega) _).mono ?_); rintro e w2 ⟨v_, rfl, hbm, hn⟩; have HB4 := Lib.hid hbm; have hvm := hbm.shape; clear hbm; obtain ⟨bn4, ba4, bl4, bc4, rfl⟩ := hvm))
  refine hK.out _ _ hn ?_
  replace hb := hb.trans (hn.mono hb.size)
  clear hK K
  clear hn
  refine wpF_do rfl ?_
  intro w1 hg K hK
  replace hb := hb.trans (hg.mono hb.size)
  try replace HB4 := Lib.hid (HB4.out.of hg); try replace HB5 := Lib.hid (HB5.out.of hg)
  clear hg
  go_wp2_with ((go_at_call 23; (with_reducible refine (bigAdd_v (.agg #[.bool bn3, .slice ba3 bl3 bc3]) (.agg #[.bool bn4, .slice ba4 bl4 bc4]) r 1 t 18 HP11.out _ (HB3.out.of hb) (HB4.out.mono (by decide)) (by decide)).mono ?_); rintro e w2 ⟨v_, rfl, hbm, hn⟩; replace HB4 := Lib.hid (HB4.out.of hn); have HB5 := Lib.hid hbm; have hvm := hbm.shape; clear hbm; obtain ⟨bn5, ba5, bl5, bc5, rfl⟩ := hvm))
  refine hK.out _ _ hn ?_
  replace hb := hb.trans (hn.mono hb.size)
  clear hK K
  clear hn
  refine wpF_nil ?_
  clear hb
  intro w1 hg hb b1 lb1 nb1
  replace HB4 := Lib.hid (HB4.out.of hg)
  replace HB5 := Lib.hid (HB5.out.of hg)
  clear hg
  simp only [Act.put, ptrTo, List.setIfInBounds_toArray, List.set_cons_succ, List.set_cons_zero]
  simp only [List.drop_succ_cons, List.drop_zero]
  clear c5_0 c5_1 l5
  first | refine calls_w ?_ | refine name_world ?_ | refine list_world ?_ | refine post_world ?_
  intro U12 hU12
  subst hU12
  have D9 := Lib.hid Kk1.out.lt
  have D10 := Lib.hid Kk2.out.lt
  have D11 := Lib.hid Kk5.out.lt
  have D12 := Lib.hid hb0.size
  have k6 : Blk U12 b1 #[.bool false, .slice none 0 0] 34 := nb1
  have k1 := Kk1.out.of hb
  clear Kk1
  have k2 := Kk2.out.of hb
  clear Kk2
  have k5 := Kk5.out.of hb
  clear Kk5
  have D13 := Lib.hid lb1
  clear nb1 lb1
  replace HB1 := Lib.hid (HB1.out.of hb)
  replace HB3 := Lib.hid (HB3.out.of hb)
  replace hb0 := hb0.trans (hb.mono hb0.size)
  clear hb
  generalize b1 = q6 at *
  have c6_0 : U12.cell? ⟨q6, 0, none⟩ = some (.bool false) := k6.cell 0
  have c6_1 : U12.cell? ⟨q6, 1, none⟩ = some (.slice none 0 0) := k6.cell 1
  have f6_0 := k6.free 0
  have f6_1 := k6.free 1
  have l6 := k6.lt
  go_wp2_with fail
  clear c6_0 c6_1 f6_0 f6_1 l6
  first | refine calls_w ?_ | refine name_world ?_ | refine list_world ?_ | refine post_world ?_
  intro V13 hV13
  clear HB4
  have D14 := Lib.hid k1.lt
  have D15 := Lib.hid k2.lt
  have D16 := Lib.hid k5.lt
  have D17 := Lib.hid k6.lt
  have D18 := Lib.hid hb0.size
  have nk1 : Blk V13 w.heap.size #[.int .u64 (wd0 a), .int .u64 (wd1 a), .int .u64 (wd2 a), .int .u64 (wd3 a)] 24 := by rw [hV13]; exact (blk_setL k1 (by have := D9.out; have := D13.out; omega) 0 [.bool bn5, .slice ba5 bl5 bc5])
  have nk2 : Blk V13 U2.heap.size #[.bool bn1, .slice ba1 bl1 bc1] 34 := by rw [hV13]; exact (blk_setL k2 (by have := D10.out; have := D13.out; omega) 0 [.bool bn5, .slice ba5 bl5 bc5])
  have nk5 : Blk V13 U10.heap.size #[.bool bn3, .slice ba3 bl3 bc3] 34 := by rw [hV13]; exact (blk_setL k5 (by have := D11.out; have := D13.out; omega) 0 [.bool bn5, .slice ba5 bl5 bc5])
  have nk6 : Blk V13 q6 #[.bool bn5, .slice ba5 bl5 bc5] 34 := by rw [hV13]; exact (blk_full _ [.bool bn5, .slice ba5 bl5 bc5] k6 rfl)
  have nhb0 : Below w.heap.size w V13 := by rw [hV13]; exact (blw_setL hb0 (by have := D12.out; have := D13.out; omega) 0 [.bool bn5, .slice ba5 bl5 bc5])
  replace HB1 : Hid (Big V13 (.agg #[.bool bn1, .slice ba1 bl1 bc1]) a 18) := Lib.hid (by rw [hV13]; exact (big_setL HB1.out (Blk.cell k6 0) (fun _ h => by cases h) 0 [.bool bn5, .slice ba5 bl5 bc5]))
  replace HB3 : Hid (Big V13 (.agg #[.bool bn3, .slice ba3 bl3 bc3]) r 18) := Lib.hid (by rw [hV13]; exact (big_setL HB3.out (Blk.cell k6 0) (fun _ h => by cases h) 0 [.bool bn5, .slice ba5 bl5 bc5]))
  replace HB5 : Hid (Big V13 (.agg #[.bool bn5, .slice ba5 bl5 bc5]) t 19) := Lib.hid (by rw [hV13]; exact (big_setL HB5.out (Blk.cell k6 0) (fun _ h => by cases h) 0 [.bool bn5, .slice ba5 bl5 bc5]))
  clear k1 k2 k5 k6
  clear hb0
  clear hV13
  have k1 := nk1
  clear nk1
  have k2 := nk2
  clear nk2
  have k5 := nk5
  clear nk5
  have k6 := nk6
  clear nk6
  have hb0 := nhb0
  clear nhb0
  have c2_0 : V13.cell? ⟨U2.heap.size, 0, none⟩ = some (.bool bn1) := k2.cell 0
  have c2_1 : V13.cell? ⟨U2.heap.size, 1, none⟩ = some (.slice ba1 bl1 bc1) := k2.cell 1
  have l2 := k2.lt
  have c5_0 : V13.cell? ⟨U10.heap.size, 0, none⟩ = some (.bool bn3) := k5.cell 0
  have c5_1 : V13.cell? ⟨U10.heap.size, 1, none⟩ = some (.slice ba3 bl3 bc3) := k5.cell 1
  have l5 := k5.lt
  have c6_0 : V13.cell? ⟨q6, 0, none⟩ = some (.bool bn5) := k6.cell 0
  have c6_1 : V13.cell? ⟨q6, 1, none⟩ = some (.slice ba5 bl5 bc5) := k6.cell 1
  have l6 := k6.lt
  have Kk1 := Lib.hid k1
  clear k1
  have Kk2 := Lib.hid k2
  clear k2
  have Kk5 := Lib.hid k5
  clear k5
  have Kk6 := Lib.hid k6
  clear k6
  refine wp_region_up V13.heap.size 20 [(true, 0), (true, 1), (true, 2), (true, 3), (false, 4), (true, 5), (true, 6), (true, 7), (true, 8), (true, 9), (true, 11), (false, 10), (false, 12), (true, 13), (true, 14), (true, 15), (true, 16), (true, 17), (true, 19), (false, 18)] (by kernel_rfl) (by kernel_rfl) (fun _ _ d _ _ h => by cases d <;> exact h) ?_
  have hb : Below V13.heap.size V13 V13.drew := (Below.refl _ _).drew
  iterate 4
    refine wpS_takeL rfl rfl ?_
    go_big_quiet_step (rfl)
    refine wpQuiet_nil ?_
  refine wpS_doL rfl ?_
  intro K hK
  go_wp2_with ((go_at_call 17; (with_reducible refine (bigSign_v (.agg #[.bool bn3, .slice ba3 bl3 bc3]) r 18 rs HP12.out _ (HB3.out.of hb)).mono ?_); rintro e w2 ⟨rfl, hn⟩))
  try replace hb := hb.trans (hn.mono hb.size)
  refine hK.out _ _ (up_iff.2 hb) ?_
  clear hK K
  try clear hn
  iterate 6
    refine wpS_takeL rfl rfl ?_
    go_big_quiet_step (rfl)
    refine wpQuiet_nil ?_
  refine wpS_doL rfl ?_
  intro K hK
  go_wp2_with ((first | (go_at_call 25; (with_reducible refine (bigMul_v (.agg #[.bool bn3, .slice ba3 bl3 bc3]) (.agg #[.bool bn3, .slice ba3 bl3 bc3]) r r rr 18 18 HP14.out _ (HB3.out.of hb) (HB3.out.of hb) (by decide)).mono ?_); rintro e w2 ⟨v_, rfl, hbm, hn⟩; have HB6 := Lib.hid hbm; have hvm := hbm.shape; clear hbm; obtain ⟨bn6, ba6, bl6, bc6, rfl⟩ := hvm) | (go_at_call 25; (with_reducible refine (bigMul_v (.agg #[.bool bn5, .slice ba5 bl5 bc5]) (.agg #[.bool bn5, .slice ba5 bl5 bc5]) t t tt 19 19 HP17.out _ (HB5.out.of hb) (HB5.out.of hb) (by decide)).mono ?_); rintro e w2 ⟨v_, rfl, hbm, hn⟩; replace HB6 := Lib.hid (HB6.out.of hn); have HB7 := Lib.hid hbm; have hvm := hbm.shape; clear hbm; obtain ⟨bn7, ba7, bl7, bc7, rfl⟩ := hvm)))
  try replace hb := hb.trans (hn.mono hb.size)
  refine hK.out _ _ (up_iff.2 hb) ?_
  clear hK K
  try clear hn
  refine wpS_doL rfl ?_
  intro K hK
  go_wp2_with ((go_at_call 20; (with_reducible refine (bigCmp_v (.agg #[.bool bn6, .slice ba6 bl6 bc6]) (.agg #[.bool bn1, .slice ba1 bl1 bc1]) rr a 36 18 c3 HP15.out _ HB6.out (HB1.out.of hb)).mono ?_); rintro e w2 ⟨rfl, hn⟩; replace HB6 := Lib.hid (HB6.out.of hn)))
  try replace hb := hb.trans (hn.mono hb.size)
  refine hK.out _ _ (up_iff.2 hb) ?_
  clear hK K
  try clear hn
  iterate 6
    refine wpS_takeL rfl rfl ?_
    go_big_quiet_step (rfl)
    refine wpQuiet_nil ?_
  refine wpS_doL rfl ?_
  intro K hK
  go_wp2_with ((first | (go_at_call 25; (with_reducible refine (bigMul_v (.agg #[.bool bn3, .slice ba3 bl3 bc3]) (.agg #[.bool bn3, .slice ba3 bl3 bc3]) r r rr 18 18 HP14.out _ (HB3.out.of hb) (HB3.out.of hb) (by decide)).mono ?_); rintro e w2 ⟨v_, rfl, hbm, hn⟩; have HB6 := Lib.hid hbm; have hvm := hbm.shape; clear hbm; obtain ⟨bn6, ba6, bl6, bc6, rfl⟩ := hvm) | (go_at_call 25; (with_reducible refine (bigMul_v (.agg #[.bool bn5, .slice ba5 bl5 bc5]) (.agg #[.bool bn5, .slice ba5 bl5 bc5]) t t tt 19 19 HP17.out _ (HB5.out.of hb) (HB5.out.of hb) (by decide)).mono ?_); rintro e w2 ⟨v_, rfl, hbm, hn⟩; replace HB6 := Lib.hid (HB6.out.of hn); have HB7 := Lib.hid hbm; have hvm := hbm.shape; clear hbm; obtain ⟨bn7, ba7, bl7, bc7, rfl⟩ := hvm)))
  try replace hb := hb.trans (hn.mono hb.size)
  refine hK.out _ _ (up_iff.2 hb) ?_
  clear hK K
  try clear hn
  refine wpS_nil ?_
  simp only [List.drop_succ_cons, List.drop_zero]
  first | refine calls_w ?_ | refine name_world ?_ | refine list_world ?_ | refine post_world ?_
  intro U14 hU14
  first | (subst hU14; have u_ := U14; clear u_) | (rw [← hU14] at hb; clear hU14)
  clear c2_0 c2_1 l2 c5_0 c5_1 l5 c6_0 c6_1 l6
  have k1 := Kk1.out.of hb
  clear Kk1
  have k2 := Kk2.out.of hb
  clear Kk2
  have k5 := Kk5.out.of hb
  clear Kk5
  have k6 := Kk6.out.of hb
  clear Kk6
  replace HB1 := Lib.hid (HB1.out.of hb)
  replace HB3 := Lib.hid (HB3.out.of hb)
  replace HB5 := Lib.hid (HB5.out.of hb)
  replace hb0 := hb0.trans (hb.mono hb0.size)
  clear hb
  go_wp2_with fail
  refine (bigCmp_v (.agg #[.bool bn7, .slice ba7 bl7 bc7]) (.agg #[.bool bn1, .slice ba1 bl1 bc1]) tt a 38 18 c4 HP18.out _ HB7.out HB1.out).mono ?_
  rintro e U15 ⟨rfl, hn⟩
  clear HB3 HB5 HB6 HB7
  clear k5 k6
  replace k1 := k1.of hn
  replace k2 := k2.of hn
  replace HB1 := Lib.hid (HB1.out.of hn)
  replace hb0 := hb0.trans (hn.mono hb0.size)
  clear hn
  have c1_0 : U15.cell? ⟨w.heap.size, 0, none⟩ = some (.int .u64 (wd0 a)) := k1.cell 0
  have c1_1 : U15.cell? ⟨w.heap.size, 1, none⟩ = some (.int .u64 (wd1 a)) := k1.cell 1
  have c1_2 : U15.cell? ⟨w.heap.size, 2, none⟩ = some (.int .u64 (wd2 a)) := k1.cell 2
  have c1_3 : U15.cell? ⟨w.heap.size, 3, none⟩ = some (.int .u64 (wd3 a)) := k1.cell 3
  have l1 := k1.lt
  go_wp2_with fail
  clear c1_0 c1_1 c1_2 c1_3 l1
  refine (Power_v a n 0 false HP20.out HP21.out _ia _in _).mono ?_
  rintro e U16 ⟨rfl, hn⟩
  clear k1
  replace k2 := k2.of hn
  replace HB1 := Lib.hid (HB1.out.of hn)
  replace hb0 := hb0.trans (hn.mono hb0.size)
  clear hn
  go_wp2_with fail
  first | refine calls_w ?_ | refine name_world ?_ | refine list_world ?_ | refine post_world ?_
  intro V17 hV17
  have D19 := Lib.hid k2.lt
  have D20 := Lib.hid hb0.size
  have hn : Below U16.heap.size U16 V17 := by rw [hV17]; exact below_a1 _ _
  have nk2 := k2.of hn
  replace HB1 := Lib.hid (HB1.out.of hn)
  have nhb0 := hb0.trans (hn.mono hb0.size)
  clear hn
  have k7 : Blk V17 U16.heap.size #[.int .u64 (wd0 0), .int .u64 (wd1 0), .int .u64 (wd2 0), .int .u64 (wd3 0)] 24 := by rw [hV17]; exact (Blk.new _ _ _)
  clear k2
  clear hb0
  clear hV17
  have k2 := nk2
  clear nk2
  have hb0 := nhb0
  clear nhb0
  refine (wawake_any _ (hG.of hb0)).mono ?_
  rintro e U18 ⟨rfl, hn⟩
  replace k2 := k2.of hn
  replace k7 := k7.of hn
  replace HB1 := Lib.hid (HB1.out.of hn)
  replace hb0 := hb0.trans (hn.mono hb0.size)
  clear hn
  go_wp2
  first | go_ret | go_ret2
  exact ⟨by first | rfl | (simp; done) | (simp; assumption), hb0⟩

set_option maxRecDepth 100000 in
set_option maxHeartbeats 4000000 in

theorem WRo_12 (a : Int) (n : Int) (s : Int) (k : Int) (q : Int) (c1 : Int) (r : Int) (t : Int) (rs : Int) (rr : Int) (c3 : Int) (tt : Int) (c4 : Int) (p : Int)   (hP0 : a.sign = s) (hP1 : decide (s < 0) = false) (hP2 : btn a = k) (hP3 : decide (k < 0) = false) (hP4 : decide (256 < k) = false) (hP5 : 2 ^ k.toNat = q) (hP6 : cmpI a q = c1) (hP7 : decide (0 ≤ c1) = false) (hP8 : decide (0 < k) = false) (hP9 : rtv a = r) (hP10 : rtk a = true) (hP11 : r + 1 = t) (hP12 : r.sign = rs) (hP13 : decide (rs < 0) = false) (hP14 : r * r = rr) (hP15 : cmpI rr a = c3) (hP16 : decide (0 < c3) = false) (hP17 : t * t = tt) (hP18 : cmpI tt a = c4) (hP19 : decide (c4 ≤ 0) = false) (hP20 : pwv a n = p) (hP21 : pwk a n = true) (hP22 : decide (n < 0) = false) (hP23 : decide (256 < n) = false) (_ik : Hid (0 ≤ k ∧ k ≤ 256)) (_ir : InI r) (_ia : InI a) (_in : In64 n)  (w : World) (hG : Tab w) :
    Calls Tryd.prog 6 #[.agg #[.int .u64 (wd0 a), .int .u64 (wd1 a), .int .u64 (wd2 a), .int .u64 (wd3 a)], .int .i64 n] w fun e w' => e = .returned (.bool true) ∧ Below w.heap.size w w' := by

  have HP0 := Lib.hid hP0
  clear hP0
  have HP2 := Lib.hid hP2
  clear hP2
  have HP5 := Lib.hid hP5
  clear hP5
  have HP6 := Lib.hid hP6
  clear hP6
  have HP9 := Lib.hid hP9
  clear hP9
  have HP10 := Lib.hid hP10
  clear hP10
  have HP11 := Lib.hid hP11
  clear hP11
  have HP12 := Lib.hid hP12
  clear hP12
  have HP14 := Lib.hid hP14
  clear hP14
  have HP15 := Lib.hid hP15
  clear hP15
  have HP17 := Lib.hid hP17
  clear hP17
  have HP18 := Lib.hid hP18
  clear hP18
  have HP20 := Lib.hid hP20
  clear hP20
  have HP21 := Lib.hid hP21
  clear hP21
  go_enter Tryd.func6, Tryd.ntmps6
  go_wp2_with fail
  first | refine calls_w ?_ | refine name_world ?_ | refine list_world ?_ | refine post_world ?_
  intro V1 hV1
  have hn : Below w.heap.size w V1 := by rw [hV1]; exact below_a1 _ _
  have nhb0 := hn
  have k1 : Blk V1 w.heap.size #[.int .u64 (wd0 a), .int .u64 (wd1 a), .int .u64 (wd2 a), .int .u64 (wd3 a)] 24 := by rw [hV1]; exact (Blk.new _ _ _)
  clear hV1
  have hb0 := nhb0
  clear nhb0
  refine (Read_v a a rfl _ia _).mono ?_
  rintro e U2 ⟨v_, rfl, hbm, hn⟩
  replace k1 := k1.of hn
  replace hb0 := hb0.trans (hn.mono hb0.size)
  clear hn
  have HB1 := Lib.hid hbm
  have hvm := hbm.shape
  clear hbm
  obtain ⟨bn1, ba1, bl1, bc1, rfl⟩ := hvm
  go_wp2_with fail
  first | refine calls_w ?_ | refine name_world ?_ | refine list_world ?_ | refine post_world ?_
  intro V3 hV3
  have D1 := Lib.hid k1.lt
  have D2 := Lib.hid hb0.size
  have hn : Below U2.heap.size U2 V3 := by rw [hV3]; exact below_a2 _ _ _
  have nk1 := k1.of hn
  replace HB1 := Lib.hid (HB1.out.of hn)
  have nhb0 := hb0.trans (hn.mono hb0.size)
  clear hn
  have k2 : Blk V3 U2.heap.size #[.bool bn1, .slice ba1 bl1 bc1] 34 := by rw [hV3]; exact ((Blk.new _ _ _).alloc _)
  have k3 : Blk V3 (U2.heap.size + 1) #[.bool bn1, .slice ba1 bl1 bc1] 34 := by rw [hV3]; exact (Blk.new1 _ _ _ _)
  clear k1
  clear hb0
  clear hV3
  have k1 := nk1
  clear nk1
  have hb0 := nhb0
  clear nhb0
  refine (bigSign_v (.agg #[.bool bn1, .slice ba1 bl1 bc1]) a 18 s HP0.out _ HB1.out).mono ?_
  rintro e U4 ⟨rfl, hn⟩
  replace k1 := k1.of hn
  replace k2 := k2.of hn
  replace k3 := k3.of hn
  replace HB1 := Lib.hid (HB1.out.of hn)
  replace hb0 := hb0.trans (hn.mono hb0.size)
  clear hn
  have c1_0 : U4.cell? ⟨w.heap.size, 0, none⟩ = some (.int .u64 (wd0 a)) := k1.cell 0
  have c1_1 : U4.cell? ⟨w.heap.size, 1, none⟩ = some (.int .u64 (wd1 a)) := k1.cell 1
  have c1_2 : U4.cell? ⟨w.heap.size, 2, none⟩ = some (.int .u64 (wd2 a)) := k1.cell 2
  have c1_3 : U4.cell? ⟨w.heap.size, 3, none⟩ = some (.int .u64 (wd3 a)) := k1.cell 3
  have l1 := k1.lt
  go_wp2_with fail
  clear c1_0 c1_1 c1_2 c1_3 l1
  refine (Bits_v a k HP2.out _ia _).mono ?_
  rintro e U5 ⟨rfl, hn⟩
  replace k1 := k1.of hn
  replace k2 := k2.of hn
  replace k3 := k3.of hn
  replace HB1 := Lib.hid (HB1.out.of hn)
  replace hb0 := hb0.trans (hn.mono hb0.size)
  clear hn
  go_wp2_with fail
  have c3_0 : U5.cell? ⟨(U2.heap.size + 1), 0, none⟩ = some (.bool bn1) := k3.cell 0
  have c3_1 : U5.cell? ⟨(U2.heap.size + 1), 1, none⟩ = some (.slice ba1 bl1 bc1) := k3.cell 1
  have l3 := k3.lt
  have Kk1 := Lib.hid k1
  clear k1
  have Kk2 := Lib.hid k2
  clear k2
  have Kk3 := Lib.hid k3
  clear k3
  refine wp_region_up U5.heap.size 21 [(true, 0), (true, 1), (true, 2), (true, 3), (true, 4), (true, 5), (true, 6), (true, 7), (true, 8), (false, 9), (false, 10), (true, 11), (true, 12), (true, 13), (true, 14), (true, 15), (true, 16), (true, 17), (true, 18), (true, 19), (false, 20)] (by kernel_rfl) (by kernel_rfl) (fun _ _ d _ _ h => by cases d <;> exact h) ?_
  have hb : Below U5.heap.size U5 U5.drew := (Below.refl _ _).drew
  iterate 9
    refine wpS_takeL rfl rfl ?_
    go_big_quiet_step (rfl)
    refine wpQuiet_nil ?_
  refine wpS_doL rfl ?_
  intro K hK
  go_wp2_with ((go_at_call 21; (with_reducible refine (powk_v k q _ik.out HP5.out _).mono ?_); rintro e w2 ⟨v_, rfl, hbm, hn⟩; have HB2 := Lib.hid hbm; have hvm := hbm.shape; clear hbm; obtain ⟨bn2, ba2, bl2, bc2, rfl⟩ := hvm))
  try replace hb := hb.trans (hn.mono hb.size)
  refine hK.out _ _ (up_iff.2 hb) ?_
  clear hK K
  try clear hn
  refine wpS_doL rfl ?_
  intro K hK
  go_wp2_with ((go_at_call 20; (with_reducible refine (bigCmp_v (.agg #[.bool bn1, .slice ba1 bl1 bc1]) (.agg #[.bool bn2, .slice ba2 bl2 bc2]) a q 18 18 c1 HP6.out _ (HB1.out.of hb) HB2.out).mono ?_); rintro e w2 ⟨rfl, hn⟩; replace HB2 := Lib.hid (HB2.out.of hn)))
  try replace hb := hb.trans (hn.mono hb.size)
  refine hK.out _ _ (up_iff.2 hb) ?_
  clear hK K
  try clear hn
  iterate 9
    refine wpS_takeL rfl rfl ?_
    go_big_quiet_step (rfl)
    refine wpQuiet_nil ?_
  refine wpS_doL rfl ?_
  intro K hK
  go_wp2_with ((go_at_call 21; (with_reducible refine (powk_v k q _ik.out HP5.out _).mono ?_); rintro e w2 ⟨v_, rfl, hbm, hn⟩; have HB2 := Lib.hid hbm; have hvm := hbm.shape; clear hbm; obtain ⟨bn2, ba2, bl2, bc2, rfl⟩ := hvm))
  try replace hb := hb.trans (hn.mono hb.size)
  refine hK.out _ _ (up_iff.2 hb) ?_
  clear hK K
  try clear hn
  refine wpS_nil ?_
  simp only [List.drop_succ_cons, List.drop_zero]
  first | refine calls_w ?_ | refine name_world ?_ | refine list_world ?_ | refine post_world ?_
  intro U6 hU6
  first | (subst hU6; have u_ := U6; clear u_) | (rw [← hU6] at hb; clear hU6)
  clear c3_0 c3_1 l3
  have k1 := Kk1.out.of hb
  clear Kk1
  have k2 := Kk2.out.of hb
  clear Kk2
  have k3 := Kk3.out.of hb
  clear Kk3
  replace HB1 := Lib.hid (HB1.out.of hb)
  replace hb0 := hb0.trans (hb.mono hb0.size)
  clear hb
  have c1_0 : U6.cell? ⟨w.heap.size, 0, none⟩ = some (.int .u64 (wd0 a)) := k1.cell 0
  have c1_1 : U6.cell? ⟨w.heap.size, 1, none⟩ = some (.int .u64 (wd1 a)) := k1.cell 1
  have c1_2 : U6.cell? ⟨w.heap.size, 2, none⟩ = some (.int .u64 (wd2 a)) := k1.cell 2
  have c1_3 : U6.cell? ⟨w.heap.size, 3, none⟩ = some (.int .u64 (wd3 a)) := k1.cell 3
  have l1 := k1.lt
  go_wp2_with fail
  clear c1_0 c1_1 c1_2 c1_3 l1
  refine (Root_v a r true HP9.out HP10.out _ia _).mono ?_
  rintro e U7 ⟨rfl, hn⟩
  clear HB2
  clear k3
  replace k1 := k1.of hn
  replace k2 := k2.of hn
  replace HB1 := Lib.hid (HB1.out.of hn)
  replace hb0 := hb0.trans (hn.mono hb0.size)
  clear hn
  have c2_0 : U7.cell? ⟨U2.heap.size, 0, none⟩ = some (.bool bn1) := k2.cell 0
  have c2_1 : U7.cell? ⟨U2.heap.size, 1, none⟩ = some (.slice ba1 bl1 bc1) := k2.cell 1
  have l2 := k2.lt
  go_wp2_with fail
  clear c2_0 c2_1 l2
  first | refine calls_w ?_ | refine name_world ?_ | refine list_world ?_ | refine post_world ?_
  intro V8 hV8
  have D3 := Lib.hid k1.lt
  have D4 := Lib.hid k2.lt
  have D5 := Lib.hid hb0.size
  have hn : Below U7.heap.size U7 V8 := by rw [hV8]; exact below_a1 _ _
  have nk1 := k1.of hn
  have nk2 := k2.of hn
  replace HB1 := Lib.hid (HB1.out.of hn)
  have nhb0 := hb0.trans (hn.mono hb0.size)
  clear hn
  have k4 : Blk V8 U7.heap.size #[.int .u64 (wd0 r), .int .u64 (wd1 r), .int .u64 (wd2 r), .int .u64 (wd3 r)] 24 := by rw [hV8]; exact (Blk.new _ _ _)
  clear k1 k2
  clear hb0
  clear hV8
  have k1 := nk1
  clear nk1
  have k2 := nk2
  clear nk2
  have hb0 := nhb0
  clear nhb0
  refine (bigSign_v (.agg #[.bool bn1, .slice ba1 bl1 bc1]) a 18 s HP0.out _ HB1.out).mono ?_
  rintro e U9 ⟨rfl, hn⟩
  replace k1 := k1.of hn
  replace k2 := k2.of hn
  replace k4 := k4.of hn
  replace HB1 := Lib.hid (HB1.out.of hn)
  replace hb0 := hb0.trans (hn.mono hb0.size)
  clear hn
  have c4_0 : U9.cell? ⟨U7.heap.size, 0, none⟩ = some (.int .u64 (wd0 r)) := k4.cell 0
  have c4_1 : U9.cell? ⟨U7.heap.size, 1, none⟩ = some (.int .u64 (wd1 r)) := k4.cell 1
  have c4_2 : U9.cell? ⟨U7.heap.size, 2, none⟩ = some (.int .u64 (wd2 r)) := k4.cell 2
  have c4_3 : U9.cell? ⟨U7.heap.size, 3, none⟩ = some (.int .u64 (wd3 r)) := k4.cell 3
  have l4 := k4.lt
  go_wp2_with fail
  clear c4_0 c4_1 c4_2 c4_3 l4
  refine (Read_v r r rfl _ir _).mono ?_
  rintro e U10 ⟨v_, rfl, hbm, hn⟩
  clear k4
  replace k1 := k1.of hn
  replace k2 := k2.of hn
  replace HB1 := Lib.hid (HB1.out.of hn)
  replace hb0 := hb0.trans (hn.mono hb0.size)
  clear hn
  have HB3 := Lib.hid hbm
  have hvm := hbm.shape
  clear hbm
  obtain ⟨bn3, ba3, bl3, bc3, rfl⟩ := hvm
  go_wp2_with fail
  first | refine calls_w ?_ | refine name_world ?_ | refine list_world ?_ | refine post_world ?_
  intro V11 hV11
  have D6 := Lib.hid k1.lt
  have D7 := Lib.hid k2.lt
  have D8 := Lib.hid hb0.size
  have hn : Below U10.heap.size U10 V11 := by rw [hV11]; exact below_a1 _ _
  have nk1 := k1.of hn
  have nk2 := k2.of hn
  replace HB1 := Lib.hid (HB1.out.of hn)
  replace HB3 := Lib.hid (HB3.out.of hn)
  have nhb0 := hb0.trans (hn.mono hb0.size)
  clear hn
  have k5 : Blk V11 U10.heap.size #[.bool bn3, .slice ba3 bl3 bc3] 34 := by rw [hV11]; exact (Blk.new _ _ _)
  clear k1 k2
  clear hb0
  clear hV11
  have k1 := nk1
  clear nk1
  have k2 := nk2
  clear nk2
  have hb0 := nhb0
  clear nhb0
  have c5_0 : V11.cell? ⟨U10.heap.size, 0, none⟩ = some (.bool bn3) := k5.cell 0
  have c5_1 : V11.cell? ⟨U10.heap.size, 1, none⟩ = some (.slice ba3 bl3 bc3) := k5.cell 1
  have l5 := k5.lt
  have Kk1 := Lib.hid k1
  clear k1
  have Kk2 := Lib.hid k2
  clear k2
  have Kk5 := Lib.hid k5
  clear k5
  refine wp_region_float1 4 3 [(true, 0), (false, 1), (false, 2)] (by kernel_rfl) (by kernel_rfl) (fun _ _ d _ _ => by cases d <;> exact Iff.rfl) rfl rfl rfl alWrL0_0 ?_
  have hb : Below V11.heap.size V11 V11.drew := (Below.refl _ _).drew
  refine wpF_take rfl rfl ?_
  go_big_quiet_step (rfl)
  refine wpQuiet_nil ?_
  refine wpF_do rfl ?_
  intro w1 hg K hK
  replace hb := hb.trans (hg.mono hb.size)
  try replace HB4 := Lib.hid (HB4.out.of hg); try replace HB5 := Lib.hid (HB5.out.of hg)
  clear hg
  go_wp2_with ((go_at_call 24; (with_reducible refine (bigOf_v 1 1 rfl (by unfold In64; omega) _).mono ?_); rintro e w2 ⟨v_, rfl, hbm, hn⟩; have HB4 := Lib.hid hbm; have hvm := hbm.shape; clear hbm; obtain ⟨bn4, ba4, bl4, bc4, rfl⟩ := hvm))
  refine hK.out _ _ hn ?_
  replace hb := hb.trans (hn.mono hb.size)
  clear hK K
  clear hn
  refine wpF_do rfl ?_
  intro w1 hg K hK
  replace hb := hb.trans (hg.mono hb.size)
  try replace HB4 := Lib.hid (HB4.out.of hg); try replace HB5 := Lib.hid (HB5.out.of hg)
  clear hg
  go_wp2_with ((go_at_call 23; (with_reducible refine (bigAdd_v (.agg #[.bool bn3, .slice ba3 bl3 bc3]) (.agg #[.bool bn4, .slice ba4 bl4 bc4]) r 1 t 18 HP11.out _ (HB3.out.of hb) (HB4.out.mono (by decide)) (by decide)).mono ?_); rintro e w2 ⟨v_, rfl, hbm, hn⟩; replace HB4 := Lib.hid (HB4.out.of hn); have HB5 := Lib.hid hbm; have hvm := hbm.shape; clear hbm; obtain ⟨bn5, ba5, bl5, bc5, rfl⟩ := hvm))
  refine hK.out _ _ hn ?_
  replace hb := hb.trans (hn.mono hb.size)
  clear hK K
  clear hn
  refine wpF_nil ?_
  clear hb
  intro w1 hg hb b1 lb1 nb1
  replace HB4 := Lib.hid (HB4.out.of hg)
  replace HB5 := Lib.hid (HB5.out.of hg)
  clear hg
  simp only [Act.put, ptrTo, List.setIfInBounds_toArray, List.set_cons_succ, List.set_cons_zero]
  simp only [List.drop_succ_cons, List.drop_zero]
  clear c5_0 c5_1 l5
  first | refine calls_w ?_ | refine name_world ?_ | refine list_world ?_ | refine post_world ?_
  intro U12 hU12
  subst hU12
  have D9 := Lib.hid Kk1.out.lt
  have D10 := Lib.hid Kk2.out.lt
  have D11 := Lib.hid Kk5.out.lt
  have D12 := Lib.hid hb0.size
  have k6 : Blk U12 b1 #[.bool false, .slice none 0 0] 34 := nb1
  have k1 := Kk1.out.of hb
  clear Kk1
  have k2 := Kk2.out.of hb
  clear Kk2
  have k5 := Kk5.out.of hb
  clear Kk5
  have D13 := Lib.hid lb1
  clear nb1 lb1
  replace HB1 := Lib.hid (HB1.out.of hb)
  replace HB3 := Lib.hid (HB3.out.of hb)
  replace hb0 := hb0.trans (hb.mono hb0.size)
  clear hb
  generalize b1 = q6 at *
  have c6_0 : U12.cell? ⟨q6, 0, none⟩ = some (.bool false) := k6.cell 0
  have c6_1 : U12.cell? ⟨q6, 1, none⟩ = some (.slice none 0 0) := k6.cell 1
  have f6_0 := k6.free 0
  have f6_1 := k6.free 1
  have l6 := k6.lt
  go_wp2_with fail
  clear c6_0 c6_1 f6_0 f6_1 l6
  first | refine calls_w ?_ | refine name_world ?_ | refine list_world ?_ | refine post_world ?_
  intro V13 hV13
  clear HB4
  have D14 := Lib.hid k1.lt
  have D15 := Lib.hid k2.lt
  have D16 := Lib.hid k5.lt
  have D17 := Lib.hid k6.lt
  have D18 := Lib.hid hb0.size
  have nk1 : Blk V13 w.heap.size #[.int .u64 (wd0 a), .int .u64 (wd1 a), .int .u64 (wd2 a), .int .u64 (wd3 a)] 24 := by rw [hV13]; exact (blk_setL k1 (by have := D9.out; have := D13.out; omega) 0 [.bool bn5, .slice ba5 bl5 bc5])
  have nk2 : Blk V13 U2.heap.size #[.bool bn1, .slice ba1 bl1 bc1] 34 := by rw [hV13]; exact (blk_setL k2 (by have := D10.out; have := D13.out; omega) 0 [.bool bn5, .slice ba5 bl5 bc5])
  have nk5 : Blk V13 U10.heap.size #[.bool bn3, .slice ba3 bl3 bc3] 34 := by rw [hV13]; exact (blk_setL k5 (by have := D11.out; have := D13.out; omega) 0 [.bool bn5, .slice ba5 bl5 bc5])
  have nk6 : Blk V13 q6 #[.bool bn5, .slice ba5 bl5 bc5] 34 := by rw [hV13]; exact (blk_full _ [.bool bn5, .slice ba5 bl5 bc5] k6 rfl)
  have nhb0 : Below w.heap.size w V13 := by rw [hV13]; exact (blw_setL hb0 (by have := D12.out; have := D13.out; omega) 0 [.bool bn5, .slice ba5 bl5 bc5])
  replace HB1 : Hid (Big V13 (.agg #[.bool bn1, .slice ba1 bl1 bc1]) a 18) := Lib.hid (by rw [hV13]; exact (big_setL HB1.out (Blk.cell k6 0) (fun _ h => by cases h) 0 [.bool bn5, .slice ba5 bl5 bc5]))
  replace HB3 : Hid (Big V13 (.agg #[.bool bn3, .slice ba3 bl3 bc3]) r 18) := Lib.hid (by rw [hV13]; exact (big_setL HB3.out (Blk.cell k6 0) (fun _ h => by cases h) 0 [.bool bn5, .slice ba5 bl5 bc5]))
  replace HB5 : Hid (Big V13 (.agg #[.bool bn5, .slice ba5 bl5 bc5]) t 19) := Lib.hid (by rw [hV13]; exact (big_setL HB5.out (Blk.cell k6 0) (fun _ h => by cases h) 0 [.bool bn5, .slice ba5 bl5 bc5]))
  clear k1 k2 k5 k6
  clear hb0
  clear hV13
  have k1 := nk1
  clear nk1
  have k2 := nk2
  clear nk2
  have k5 := nk5
  clear nk5
  have k6 := nk6
  clear nk6
  have hb0 := nhb0
  clear nhb0
  have c2_0 : V13.cell? ⟨U2.heap.size, 0, none⟩ = some (.bool bn1) := k2.cell 0
  have c2_1 : V13.cell? ⟨U2.heap.size, 1, none⟩ = some (.slice ba1 bl1 bc1) := k2.cell 1
  have l2 := k2.lt
  have c5_0 : V13.cell? ⟨U10.heap.size, 0, none⟩ = some (.bool bn3) := k5.cell 0
  have c5_1 : V13.cell? ⟨U10.heap.size, 1, none⟩ = some (.slice ba3 bl3 bc3) := k5.cell 1
  have l5 := k5.lt
  have c6_0 : V13.cell? ⟨q6, 0, none⟩ = some (.bool bn5) := k6.cell 0
  have c6_1 : V13.cell? ⟨q6, 1, none⟩ = some (.slice ba5 bl5 bc5) := k6.cell 1
  have l6 := k6.lt
  have Kk1 := Lib.hid k1
  clear k1
  have Kk2 := Lib.hid k2
  clear k2
  have Kk5 := Lib.hid k5
  clear k5
  have Kk6 := Lib.hid k6
  clear k6
  refine wp_region_up V13.heap.size 20 [(true, 0), (true, 1), (true, 2), (true, 3), (false, 4), (true, 5), (true, 6), (true, 7), (true, 8), (true, 9), (true, 11), (false, 10), (false, 12), (true, 13), (true, 14), (true, 15), (true, 16), (true, 17), (true, 19), (false, 18)] (by kernel_rfl) (by kernel_rfl) (fun _ _ d _ _ h => by cases d <;> exact h) ?_
  have hb : Below V13.heap.size V13 V13.drew := (Below.refl _ _).drew
  iterate 4
    refine wpS_takeL rfl rfl ?_
    go_big_quiet_step (rfl)
    refine wpQuiet_nil ?_
  refine wpS_doL rfl ?_
  intro K hK
  go_wp2_with ((go_at_call 17; (with_reducible refine (bigSign_v (.agg #[.bool bn3, .slice ba3 bl3 bc3]) r 18 rs HP12.out _ (HB3.out.of hb)).mono ?_); rintro e w2 ⟨rfl, hn⟩))
  try replace hb := hb.trans (hn.mono hb.size)
  refine hK.out _ _ (up_iff.2 hb) ?_
  clear hK K
  try clear hn
  iterate 6
    refine wpS_takeL rfl rfl ?_
    go_big_quiet_step (rfl)
    refine wpQuiet_nil ?_
  refine wpS_doL rfl ?_
  intro K hK
  go_wp2_with ((first | (go_at_call 25; (with_reducible refine (bigMul_v (.agg #[.bool bn3, .slice ba3 bl3 bc3]) (.agg #[.bool bn3, .slice ba3 bl3 bc3]) r r rr 18 18 HP14.out _ (HB3.out.of hb) (HB3.out.of hb) (by decide)).mono ?_); rintro e w2 ⟨v_, rfl, hbm, hn⟩; have HB6 := Lib.hid hbm; have hvm := hbm.shape; clear hbm; obtain ⟨bn6, ba6, bl6, bc6, rfl⟩ := hvm) | (go_at_call 25; (with_reducible refine (bigMul_v (.agg #[.bool bn5, .slice ba5 bl5 bc5]) (.agg #[.bool bn5, .slice ba5 bl5 bc5]) t t tt 19 19 HP17.out _ (HB5.out.of hb) (HB5.out.of hb) (by decide)).mono ?_); rintro e w2 ⟨v_, rfl, hbm, hn⟩; replace HB6 := Lib.hid (HB6.out.of hn); have HB7 := Lib.hid hbm; have hvm := hbm.shape; clear hbm; obtain ⟨bn7, ba7, bl7, bc7, rfl⟩ := hvm)))
  try replace hb := hb.trans (hn.mono hb.size)
  refine hK.out _ _ (up_iff.2 hb) ?_
  clear hK K
  try clear hn
  refine wpS_doL rfl ?_
  intro K hK
  go_wp2_with ((go_at_call 20; (with_reducible refine (bigCmp_v (.agg #[.bool bn6, .slice ba6 bl6 bc6]) (.agg #[.bool bn1, .slice ba1 bl1 bc1]) rr a 36 18 c3 HP15.out _ HB6.out (HB1.out.of hb)).mono ?_); rintro e w2 ⟨rfl, hn⟩; replace HB6 := Lib.hid (HB6.out.of hn)))
  try replace hb := hb.trans (hn.mono hb.size)
  refine hK.out _ _ (up_iff.2 hb) ?_
  clear hK K
  try clear hn
  iterate 6
    refine wpS_takeL rfl rfl ?_
    go_big_quiet_step (rfl)
    refine wpQuiet_nil ?_
  refine wpS_doL rfl ?_
  intro K hK
  go_wp2_with ((first | (go_at_call 25; (with_reducible refine (bigMul_v (.agg #[.bool bn3, .slice ba3 bl3 bc3]) (.agg #[.bool bn3, .slice ba3 bl3 bc3]) r r rr 18 18 HP14.out _ (HB3.out.of hb) (HB3.out.of hb) (by decide)).mono ?_); rintro e w2 ⟨v_, rfl, hbm, hn⟩; have HB6 := Lib.hid hbm; have hvm := hbm.shape; clear hbm; obtain ⟨bn6, ba6, bl6, bc6, rfl⟩ := hvm) | (go_at_call 25; (with_reducible refine (bigMul_v (.agg #[.bool bn5, .slice ba5 bl5 bc5]) (.agg #[.bool bn5, .slice ba5 bl5 bc5]) t t tt 19 19 HP17.out _ (HB5.out.of hb) (HB5.out.of hb) (by decide)).mono ?_); rintro e w2 ⟨v_, rfl, hbm, hn⟩; replace HB6 := Lib.hid (HB6.out.of hn); have HB7 := Lib.hid hbm; have hvm := hbm.shape; clear hbm; obtain ⟨bn7, ba7, bl7, bc7, rfl⟩ := hvm)))
  try replace hb := hb.trans (hn.mono hb.size)
  refine hK.out _ _ (up_iff.2 hb) ?_
  clear hK K
  try clear hn
  refine wpS_nil ?_
  simp only [List.drop_succ_cons, List.drop_zero]
  first | refine calls_w ?_ | refine name_world ?_ | refine list_world ?_ | refine post_world ?_
  intro U14 hU14
  first | (subst hU14; have u_ := U14; clear u_) | (rw [← hU14] at hb; clear hU14)
  clear c2_0 c2_1 l2 c5_0 c5_1 l5 c6_0 c6_1 l6
  have k1 := Kk1.out.of hb
  clear Kk1
  have k2 := Kk2.out.of hb
  clear Kk2
  have k5 := Kk5.out.of hb
  clear Kk5
  have k6 := Kk6.out.of hb
  clear Kk6
  replace HB1 := Lib.hid (HB1.out.of hb)
  replace HB3 := Lib.hid (HB3.out.of hb)
  replace HB5 := Lib.hid (HB5.out.of hb)
  replace hb0 := hb0.trans (hb.mono hb0.size)
  clear hb
  go_wp2_with fail
  refine (bigCmp_v (.agg #[.bool bn7, .slice ba7 bl7 bc7]) (.agg #[.bool bn1, .slice ba1 bl1 bc1]) tt a 38 18 c4 HP18.out _ HB7.out HB1.out).mono ?_
  rintro e U15 ⟨rfl, hn⟩
  clear HB3 HB5 HB6 HB7
  clear k5 k6
  replace k1 := k1.of hn
  replace k2 := k2.of hn
  replace HB1 := Lib.hid (HB1.out.of hn)
  replace hb0 := hb0.trans (hn.mono hb0.size)
  clear hn
  have c1_0 : U15.cell? ⟨w.heap.size, 0, none⟩ = some (.int .u64 (wd0 a)) := k1.cell 0
  have c1_1 : U15.cell? ⟨w.heap.size, 1, none⟩ = some (.int .u64 (wd1 a)) := k1.cell 1
  have c1_2 : U15.cell? ⟨w.heap.size, 2, none⟩ = some (.int .u64 (wd2 a)) := k1.cell 2
  have c1_3 : U15.cell? ⟨w.heap.size, 3, none⟩ = some (.int .u64 (wd3 a)) := k1.cell 3
  have l1 := k1.lt
  go_wp2_with fail
  clear c1_0 c1_1 c1_2 c1_3 l1
  refine (Power_v a n p true HP20.out HP21.out _ia _in _).mono ?_
  rintro e U16 ⟨rfl, hn⟩
  clear k1
  replace k2 := k2.of hn
  replace HB1 := Lib.hid (HB1.out.of hn)
  replace hb0 := hb0.trans (hn.mono hb0.size)
  clear hn
  go_wp2_with fail
  first | refine calls_w ?_ | refine name_world ?_ | refine list_world ?_ | refine post_world ?_
  intro V17 hV17
  have D19 := Lib.hid k2.lt
  have D20 := Lib.hid hb0.size
  have hn : Below U16.heap.size U16 V17 := by rw [hV17]; exact below_a1 _ _
  have nk2 := k2.of hn
  replace HB1 := Lib.hid (HB1.out.of hn)
  have nhb0 := hb0.trans (hn.mono hb0.size)
  clear hn
  have k7 : Blk V17 U16.heap.size #[.int .u64 (wd0 p), .int .u64 (wd1 p), .int .u64 (wd2 p), .int .u64 (wd3 p)] 24 := by rw [hV17]; exact (Blk.new _ _ _)
  clear k2
  clear hb0
  clear hV17
  have k2 := nk2
  clear nk2
  have hb0 := nhb0
  clear nhb0
  refine (bigOf_v 1 1 rfl (by unfold In64; omega) _).mono ?_
  rintro e U18 ⟨v_, rfl, hbm, hn⟩
  replace k2 := k2.of hn
  replace k7 := k7.of hn
  replace HB1 := Lib.hid (HB1.out.of hn)
  replace hb0 := hb0.trans (hn.mono hb0.size)
  clear hn
  have HB8 := Lib.hid hbm
  have hvm := hbm.shape
  clear hbm
  obtain ⟨bn8, ba8, bl8, bc8, rfl⟩ := hvm
  go_wp2_with fail
  first | refine name_world ?_
  intro V19 hV19
  have D21 := Lib.hid k2.lt
  have D22 := Lib.hid k7.lt
  have D23 := Lib.hid hb0.size
  have hn : Below U18.heap.size U18 V19 := by rw [hV19]; exact below_a1 _ _
  have nk2 := k2.of hn
  have nk7 := k7.of hn
  replace HB1 := Lib.hid (HB1.out.of hn)
  replace HB8 := Lib.hid (HB8.out.of hn)
  have nhb0 := hb0.trans (hn.mono hb0.size)
  clear hn
  have k8 : Blk V19 U18.heap.size #[.bool bn8, .slice ba8 bl8 bc8] 34 := by rw [hV19]; exact (Blk.new _ _ _)
  clear k2 k7
  clear hb0
  clear hV19
  have k2 := nk2
  clear nk2
  have k7 := nk7
  clear nk7
  have hb0 := nhb0
  clear nhb0
  go_loopg [116] (n.toNat) (fun gk_ s1_0 wr => ∃ (o : Int) (k_ : Int) (wn : Bool) (wa : Option Addr) (wl wc : Nat), s1_0 = .int .i64 k_ ∧ Hid (PwI a n o k_ ∧ n - k_ ≤ (gk_ : Int)) ∧ Blk wr U2.heap.size #[.bool bn1, .slice ba1 bl1 bc1] 34 ∧ Blk wr U16.heap.size #[.int .u64 (wd0 p), .int .u64 (wd1 p), .int .u64 (wd2 p), .int .u64 (wd3 p)] 24 ∧ Blk wr U18.heap.size #[.bool wn, .slice wa wl wc] 34 ∧ Big wr (.agg #[.bool bn1, .slice ba1 bl1 bc1]) a 18 ∧ Big wr (.agg #[.bool wn, .slice wa wl wc]) o 18 ∧ Below w.heap.size w wr)
  case atStart =>
    have HIn : PwI a n 1 0 ∧ n - 0 ≤ ((n.toNat) : Int) := by
      exact ⟨PwI.begin (by simpa using hP22) (by simpa using hP23), by omega⟩
    exact ⟨1, 0, bn8, ba8, bl8, bc8, rfl, Lib.hid HIn, k2, k7, k8, HB1.out, (HB8.out.mono (by decide)), hb0⟩
  case round =>
    rename World => W1_
    rename Nat => gk1
    clear k2 k7 k8 HB1 HB8
    clear hb0
    obtain ⟨o, k_, wn, wa, wl, wc, rfl, HI1, k2, k7, k8, HB1_, HB9_, hb0⟩ := hrel
    have HB1 := Lib.hid HB1_
    clear HB1_
    have HB9 := Lib.hid HB9_
    clear HB9_
    obtain ⟨z1, hz1⟩ : ∃ o_o : Bool, decide (k_ < n) = o_o := ⟨_, rfl⟩
    cases z1
    · have c7_0 : W1_.cell? ⟨U16.heap.size, 0, none⟩ = some (.int .u64 (wd0 p)) := k7.cell 0
      have c7_1 : W1_.cell? ⟨U16.heap.size, 1, none⟩ = some (.int .u64 (wd1 p)) := k7.cell 1
      have c7_2 : W1_.cell? ⟨U16.heap.size, 2, none⟩ = some (.int .u64 (wd2 p)) := k7.cell 2
      have c7_3 : W1_.cell? ⟨U16.heap.size, 3, none⟩ = some (.int .u64 (wd3 p)) := k7.cell 3
      have l7 := k7.lt
      have c8_0 : W1_.cell? ⟨U18.heap.size, 0, none⟩ = some (.bool wn) := k8.cell 0
      have c8_1 : W1_.cell? ⟨U18.heap.size, 1, none⟩ = some (.slice wa wl wc) := k8.cell 1
      have l8 := k8.lt
      go_wp2_with fail
      clear c7_0 c7_1 c7_2 c7_3 l7 c8_0 c8_1 l8
      refine (told_is o p true (.agg #[.bool wn, .slice wa wl wc]) 18 (okI_t HI1.out.1.io) ((HI1.out.1.yes (of_decide_eq_false hz1)).2.symm.trans HP20.out) _ HB9.out).mono ?_
      rintro e U20 ⟨rfl, hn⟩
      clear HB1 HB9
      clear k2 k7 k8
      replace hb0 := hb0.trans (hn.mono hb0.size)
      clear hn
      go_wp2_with fail
      refine (wawake_any _ (hG.of hb0)).mono ?_
      rintro e U21 ⟨rfl, hn⟩
      replace hb0 := hb0.trans (hn.mono hb0.size)
      clear hn
      go_wp2
      first | go_ret | go_ret2
      exact ⟨by first | rfl | (simp; done) | (simp; assumption), hb0⟩
    · have c2_0 : W1_.cell? ⟨U2.heap.size, 0, none⟩ = some (.bool bn1) := k2.cell 0
      have c2_1 : W1_.cell? ⟨U2.heap.size, 1, none⟩ = some (.slice ba1 bl1 bc1) := k2.cell 1
      have l2 := k2.lt
      have c8_0 : W1_.cell? ⟨U18.heap.size, 0, none⟩ = some (.bool wn) := k8.cell 0
      have c8_1 : W1_.cell? ⟨U18.heap.size, 1, none⟩ = some (.slice wa wl wc) := k8.cell 1
      have l8 := k8.lt
      go_wp2_with fail
      clear c2_0 c2_1 l2 c8_0 c8_1 l8
      obtain ⟨r2, hr2⟩ : ∃ o_o : Int, o * a = o_o := ⟨_, rfl⟩
      have Hr2 := Lib.hid hr2
      clear hr2
      refine (bigMul_v (.agg #[.bool wn, .slice wa wl wc]) (.agg #[.bool bn1, .slice ba1 bl1 bc1]) o a r2 18 18 Hr2.out _ HB9.out HB1.out (by decide)).mono ?_
      rintro e U22 ⟨v_, rfl, hbm, hn⟩
      replace k2 := k2.of hn
      replace k7 := k7.of hn
      replace k8 := k8.of hn
      replace HB1 := Lib.hid (HB1.out.of hn)
      replace HB9 := Lib.hid (HB9.out.of hn)
      replace hb0 := hb0.trans (hn.mono hb0.size)
      clear hn
      have HB10 := Lib.hid hbm
      have hvm := hbm.shape
      clear hbm
      obtain ⟨bn10, ba10, bl10, bc10, rfl⟩ := hvm
      have c8_0 : U22.cell? ⟨U18.heap.size, 0, none⟩ = some (.bool wn) := k8.cell 0
      have c8_1 : U22.cell? ⟨U18.heap.size, 1, none⟩ = some (.slice wa wl wc) := k8.cell 1
      have f8_0 := k8.free 0
      have f8_1 := k8.free 1
      have l8 := k8.lt
      go_wp2_with fail
      clear c8_0 c8_1 f8_0 f8_1 l8
      first | refine calls_w ?_ | refine name_world ?_ | refine list_world ?_ | refine post_world ?_
      intro V23 hV23
      have D24 := Lib.hid k2.lt
      have D25 := Lib.hid k7.lt
      have D26 := Lib.hid k8.lt
      have D27 := Lib.hid hb0.size
      have nk2 : Blk V23 U2.heap.size #[.bool bn1, .slice ba1 bl1 bc1] 34 := by rw [hV23]; exact (blk_setL k2 (by have := D21.out; omega) 0 [.bool bn10, .slice ba10 bl10 bc10])
      have nk7 : Blk V23 U16.heap.size #[.int .u64 (wd0 p), .int .u64 (wd1 p), .int .u64 (wd2 p), .int .u64 (wd3 p)] 24 := by rw [hV23]; exact (blk_setL k7 (by have := D22.out; omega) 0 [.bool bn10, .slice ba10 bl10 bc10])
      have nk8 : Blk V23 U18.heap.size #[.bool bn10, .slice ba10 bl10 bc10] 34 := by rw [hV23]; exact (blk_full _ [.bool bn10, .slice ba10 bl10 bc10] k8 rfl)
      have nhb0 : Below w.heap.size w V23 := by rw [hV23]; exact (blw_setL hb0 (by have := D23.out; omega) 0 [.bool bn10, .slice ba10 bl10 bc10])
      replace HB1 : Hid (Big V23 (.agg #[.bool bn1, .slice ba1 bl1 bc1]) a 18) := Lib.hid (by rw [hV23]; exact (big_setL HB1.out (Blk.cell k8 0) (fun _ h => by cases h) 0 [.bool bn10, .slice ba10 bl10 bc10]))
      replace HB9 : Hid (Big V23 (.agg #[.bool wn, .slice wa wl wc]) o 18) := Lib.hid (by rw [hV23]; exact (big_setL HB9.out (Blk.cell k8 0) (fun _ h => by cases h) 0 [.bool bn10, .slice ba10 bl10 bc10]))
      replace HB10 : Hid (Big V23 (.agg #[.bool bn10, .slice ba10 bl10 bc10]) r2 36) := Lib.hid (by rw [hV23]; exact (big_setL HB10.out (Blk.cell k8 0) (fun _ h => by cases h) 0 [.bool bn10, .slice ba10 bl10 bc10]))
      clear k2 k7 k8
      clear hb0
      clear hV23
      have k2 := nk2
      clear nk2
      have k7 := nk7
      clear nk7
      have k8 := nk8
      clear nk8
      have hb0 := nhb0
      clear nhb0
      obtain ⟨z3, hz3⟩ : ∃ o_o : Bool, okI r2 = o_o := ⟨_, rfl⟩
      have Hz3 := Lib.hid hz3
      clear hz3
      refine (Fits_is (.agg #[.bool bn10, .slice ba10 bl10 bc10]) r2 36 z3 Hz3.out _ HB10.out).mono ?_
      rintro e U24 ⟨rfl, hn⟩
      replace k2 := k2.of hn
      replace k7 := k7.of hn
      replace k8 := k8.of hn
      replace HB1 := Lib.hid (HB1.out.of hn)
      replace HB9 := Lib.hid (HB9.out.of hn)
      replace HB10 := Lib.hid (HB10.out.of hn)
      replace hb0 := hb0.trans (hn.mono hb0.size)
      clear hn
      cases z3
      · exact absurd (HI1.out.1.no (of_decide_eq_true hz1) (by rw [Hr2.out]; exact Hz3.out)) (by rw [HP21.out]; decide)
      · go_wp2_with fail
        have HIn : PwI a n r2 (wrap64 (k_ + 1)) ∧ n - (wrap64 (k_ + 1)) ≤ (((n - (wrap64 (k_ + 1))).toNat) : Int) := by
          exact ⟨HI1.out.1.nextM (of_decide_eq_true hz1) Hr2.out (by rw [Hr2.out]; exact Hz3.out), by omega⟩
        go_roundg ((n - (wrap64 (k_ + 1))).toNat)
        case measure =>
          rw [HI1.out.1.w (of_decide_eq_true hz1)]
          have q_ := of_decide_eq_true hz1
          have q2_ := HI1.out.2
          omega
        case rel => exact ⟨r2, (wrap64 (k_ + 1)), bn10, ba10, bl10, bc10, rfl, Lib.hid HIn, k2, k7, k8, HB1.out, (fit_I HB10.out (by have := Hz3.out; unfold okI at this; exact of_decide_eq_true this)), hb0⟩

set_option maxRecDepth 100000 in
set_option maxHeartbeats 4000000 in

theorem WRo_13 (a : Int) (n : Int) (s : Int) (k : Int) (q : Int) (c1 : Int) (r : Int) (t : Int) (rs : Int) (rr : Int) (c3 : Int) (tt : Int) (c4 : Int)   (hP0 : a.sign = s) (hP1 : decide (s < 0) = false) (hP2 : btn a = k) (hP3 : decide (k < 0) = false) (hP4 : decide (256 < k) = false) (hP5 : 2 ^ k.toNat = q) (hP6 : cmpI a q = c1) (hP7 : decide (0 ≤ c1) = false) (hP8 : decide (0 < k) = false) (hP9 : rtv a = r) (hP10 : rtk a = true) (hP11 : r + 1 = t) (hP12 : r.sign = rs) (hP13 : decide (rs < 0) = false) (hP14 : r * r = rr) (hP15 : cmpI rr a = c3) (hP16 : decide (0 < c3) = false) (hP17 : t * t = tt) (hP18 : cmpI tt a = c4) (hP19 : decide (c4 ≤ 0) = false) (hP20 : pwv a n = 0) (hP21 : pwk a n = false) (hP22 : decide (n < 0) = false) (hP23 : decide (256 < n) = false) (_ik : Hid (0 ≤ k ∧ k ≤ 256)) (_ir : InI r) (_ia : InI a) (_in : In64 n)  (w : World) (hG : Tab w) :
    Calls Tryd.prog 6 #[.agg #[.int .u64 (wd0 a), .int .u64 (wd1 a), .int .u64 (wd2 a), .int .u64 (wd3 a)], .int .i64 n] w fun e w' => e = .returned (.bool true) ∧ Below w.heap.size w w' := by

  have HP0 := Lib.hid hP0
  clear hP0
  have HP2 := Lib.hid hP2
  clear hP2
  have HP5 := Lib.hid hP5
  clear hP5
  have HP6 := Lib.hid hP6
  clear hP6
  have HP9 := Lib.hid hP9
  clear hP9
  have HP10 := Lib.hid hP10
  clear hP10
  have HP11 := Lib.hid hP11
  clear hP11
  have HP12 := Lib.hid hP12
  clear hP12
  have HP14 := Lib.hid hP14
  clear hP14
  have HP15 := Lib.hid hP15
  clear hP15
  have HP17 := Lib.hid hP17
  clear hP17
  have HP18 := Lib.hid hP18
  clear hP18
  have HP20 := Lib.hid hP20
  clear hP20
  have HP21 := Lib.hid hP21
  clear hP21
  go_enter Tryd.func6, Tryd.ntmps6
  go_wp2_with fail
  first | refine calls_w ?_ | refine name_world ?_ | refine list_world ?_ | refine post_world ?_
  intro V1 hV1
  have hn : Below w.heap.size w V1 := by rw [hV1]; exact below_a1 _ _
  have nhb0 := hn
  have k1 : Blk V1 w.heap.size #[.int .u64 (wd0 a), .int .u64 (wd1 a), .int .u64 (wd2 a), .int .u64 (wd3 a)] 24 := by rw [hV1]; exact (Blk.new _ _ _)
  clear hV1
  have hb0 := nhb0
  clear nhb0
  refine (Read_v a a rfl _ia _).mono ?_
  rintro e U2 ⟨v_, rfl, hbm, hn⟩
  replace k1 := k1.of hn
  replace hb0 := hb0.trans (hn.mono hb0.size)
  clear hn
  have HB1 := Lib.hid hbm
  have hvm := hbm.shape
  clear hbm
  obtain ⟨bn1, ba1, bl1, bc1, rfl⟩ := hvm
  go_wp2_with fail
  first | refine calls_w ?_ | refine name_world ?_ | refine list_world ?_ | refine post_world ?_
  intro V3 hV3
  have D1 := Lib.hid k1.lt
  have D2 := Lib.hid hb0.size
  have hn : Below U2.heap.size U2 V3 := by rw [hV3]; exact below_a2 _ _ _
  have nk1 := k1.of hn
  replace HB1 := Lib.hid (HB1.out.of hn)
  have nhb0 := hb0.trans (hn.mono hb0.size)
  clear hn
  have k2 : Blk V3 U2.heap.size #[.bool bn1, .slice ba1 bl1 bc1] 34 := by rw [hV3]; exact ((Blk.new _ _ _).alloc _)
  have k3 : Blk V3 (U2.heap.size + 1) #[.bool bn1, .slice ba1 bl1 bc1] 34 := by rw [hV3]; exact (Blk.new1 _ _ _ _)
  clear k1
  clear hb0
  clear hV3
  have k1 := nk1
  clear nk1
  have hb0 := nhb0
  clear nhb0
  refine (bigSign_v (.agg #[.bool bn1, .slice ba1 bl1 bc1]) a 18 s HP0.out _ HB1.out).mono ?_
  rintro e U4 ⟨rfl, hn⟩
  replace k1 := k1.of hn
  replace k2 := k2.of hn
  replace k3 := k3.of hn
  replace HB1 := Lib.hid (HB1.out.of hn)
  replace hb0 := hb0.trans (hn.mono hb0.size)
  clear hn
  have c1_0 : U4.cell? ⟨w.heap.size, 0, none⟩ = some (.int .u64 (wd0 a)) := k1.cell 0
  have c1_1 : U4.cell? ⟨w.heap.size, 1, none⟩ = some (.int .u64 (wd1 a)) := k1.cell 1
  have c1_2 : U4.cell? ⟨w.heap.size, 2, none⟩ = some (.int .u64 (wd2 a)) := k1.cell 2
  have c1_3 : U4.cell? ⟨w.heap.size, 3, none⟩ = some (.int .u64 (wd3 a)) := k1.cell 3
  have l1 := k1.lt
  go_wp2_with fail
  clear c1_0 c1_1 c1_2 c1_3 l1
  refine (Bits_v a k HP2.out _ia _).mono ?_
  rintro e U5 ⟨rfl, hn⟩
  replace k1 := k1.of hn
  replace k2 := k2.of hn
  replace k3 := k3.of hn
  replace HB1 := Lib.hid (HB1.out.of hn)
  replace hb0 := hb0.trans (hn.mono hb0.size)
  clear hn
  go_wp2_with fail
  have c3_0 : U5.cell? ⟨(U2.heap.size + 1), 0, none⟩ = some (.bool bn1) := k3.cell 0
  have c3_1 : U5.cell? ⟨(U2.heap.size + 1), 1, none⟩ = some (.slice ba1 bl1 bc1) := k3.cell 1
  have l3 := k3.lt
  have Kk1 := Lib.hid k1
  clear k1
  have Kk2 := Lib.hid k2
  clear k2
  have Kk3 := Lib.hid k3
  clear k3
  refine wp_region_up U5.heap.size 21 [(true, 0), (true, 1), (true, 2), (true, 3), (true, 4), (true, 5), (true, 6), (true, 7), (true, 8), (false, 9), (false, 10), (true, 11), (true, 12), (true, 13), (true, 14), (true, 15), (true, 16), (true, 17), (true, 18), (true, 19), (false, 20)] (by kernel_rfl) (by kernel_rfl) (fun _ _ d _ _ h => by cases d <;> exact h) ?_
  have hb : Below U5.heap.size U5 U5.drew := (Below.refl _ _).drew
  iterate 9
    refine wpS_takeL rfl rfl ?_
    go_big_quiet_step (rfl)
    refine wpQuiet_nil ?_
  refine wpS_doL rfl ?_
  intro K hK
  go_wp2_with ((go_at_call 21; (with_reducible refine (powk_v k q _ik.out HP5.out _).mono ?_); rintro e w2 ⟨v_, rfl, hbm, hn⟩; have HB2 := Lib.hid hbm; have hvm := hbm.shape; clear hbm; obtain ⟨bn2, ba2, bl2, bc2, rfl⟩ := hvm))
  try replace hb := hb.trans (hn.mono hb.size)
  refine hK.out _ _ (up_iff.2 hb) ?_
  clear hK K
  try clear hn
  refine wpS_doL rfl ?_
  intro K hK
  go_wp2_with ((go_at_call 20; (with_reducible refine (bigCmp_v (.agg #[.bool bn1, .slice ba1 bl1 bc1]) (.agg #[.bool bn2, .slice ba2 bl2 bc2]) a q 18 18 c1 HP6.out _ (HB1.out.of hb) HB2.out).mono ?_); rintro e w2 ⟨rfl, hn⟩; replace HB2 := Lib.hid (HB2.out.of hn)))
  try replace hb := hb.trans (hn.mono hb.size)
  refine hK.out _ _ (up_iff.2 hb) ?_
  clear hK K
  try clear hn
  iterate 9
    refine wpS_takeL rfl rfl ?_
    go_big_quiet_step (rfl)
    refine wpQuiet_nil ?_
  refine wpS_doL rfl ?_
  intro K hK
  go_wp2_with ((go_at_call 21; (with_reducible refine (powk_v k q _ik.out HP5.out _).mono ?_); rintro e w2 ⟨v_, rfl, hbm, hn⟩; have HB2 := Lib.hid hbm; have hvm := hbm.shape; clear hbm; obtain ⟨bn2, ba2, bl2, bc2, rfl⟩ := hvm))
  try replace hb := hb.trans (hn.mono hb.size)
  refine hK.out _ _ (up_iff.2 hb) ?_
  clear hK K
  try clear hn
  refine wpS_nil ?_
  simp only [List.drop_succ_cons, List.drop_zero]
  first | refine calls_w ?_ | refine name_world ?_ | refine list_world ?_ | refine post_world ?_
  intro U6 hU6
  first | (subst hU6; have u_ := U6; clear u_) | (rw [← hU6] at hb; clear hU6)
  clear c3_0 c3_1 l3
  have k1 := Kk1.out.of hb
  clear Kk1
  have k2 := Kk2.out.of hb
  clear Kk2
  have k3 := Kk3.out.of hb
  clear Kk3
  replace HB1 := Lib.hid (HB1.out.of hb)
  replace hb0 := hb0.trans (hb.mono hb0.size)
  clear hb
  have c1_0 : U6.cell? ⟨w.heap.size, 0, none⟩ = some (.int .u64 (wd0 a)) := k1.cell 0
  have c1_1 : U6.cell? ⟨w.heap.size, 1, none⟩ = some (.int .u64 (wd1 a)) := k1.cell 1
  have c1_2 : U6.cell? ⟨w.heap.size, 2, none⟩ = some (.int .u64 (wd2 a)) := k1.cell 2
  have c1_3 : U6.cell? ⟨w.heap.size, 3, none⟩ = some (.int .u64 (wd3 a)) := k1.cell 3
  have l1 := k1.lt
  go_wp2_with fail
  clear c1_0 c1_1 c1_2 c1_3 l1
  refine (Root_v a r true HP9.out HP10.out _ia _).mono ?_
  rintro e U7 ⟨rfl, hn⟩
  clear HB2
  clear k3
  replace k1 := k1.of hn
  replace k2 := k2.of hn
  replace HB1 := Lib.hid (HB1.out.of hn)
  replace hb0 := hb0.trans (hn.mono hb0.size)
  clear hn
  have c2_0 : U7.cell? ⟨U2.heap.size, 0, none⟩ = some (.bool bn1) := k2.cell 0
  have c2_1 : U7.cell? ⟨U2.heap.size, 1, none⟩ = some (.slice ba1 bl1 bc1) := k2.cell 1
  have l2 := k2.lt
  go_wp2_with fail
  clear c2_0 c2_1 l2
  first | refine calls_w ?_ | refine name_world ?_ | refine list_world ?_ | refine post_world ?_
  intro V8 hV8
  have D3 := Lib.hid k1.lt
  have D4 := Lib.hid k2.lt
  have D5 := Lib.hid hb0.size
  have hn : Below U7.heap.size U7 V8 := by rw [hV8]; exact below_a1 _ _
  have nk1 := k1.of hn
  have nk2 := k2.of hn
  replace HB1 := Lib.hid (HB1.out.of hn)
  have nhb0 := hb0.trans (hn.mono hb0.size)
  clear hn
  have k4 : Blk V8 U7.heap.size #[.int .u64 (wd0 r), .int .u64 (wd1 r), .int .u64 (wd2 r), .int .u64 (wd3 r)] 24 := by rw [hV8]; exact (Blk.new _ _ _)
  clear k1 k2
  clear hb0
  clear hV8
  have k1 := nk1
  clear nk1
  have k2 := nk2
  clear nk2
  have hb0 := nhb0
  clear nhb0
  refine (bigSign_v (.agg #[.bool bn1, .slice ba1 bl1 bc1]) a 18 s HP0.out _ HB1.out).mono ?_
  rintro e U9 ⟨rfl, hn⟩
  replace k1 := k1.of hn
  replace k2 := k2.of hn
  replace k4 := k4.of hn
  replace HB1 := Lib.hid (HB1.out.of hn)
  replace hb0 := hb0.trans (hn.mono hb0.size)
  clear hn
  have c4_0 : U9.cell? ⟨U7.heap.size, 0, none⟩ = some (.int .u64 (wd0 r)) := k4.cell 0
  have c4_1 : U9.cell? ⟨U7.heap.size, 1, none⟩ = some (.int .u64 (wd1 r)) := k4.cell 1
  have c4_2 : U9.cell? ⟨U7.heap.size, 2, none⟩ = some (.int .u64 (wd2 r)) := k4.cell 2
  have c4_3 : U9.cell? ⟨U7.heap.size, 3, none⟩ = some (.int .u64 (wd3 r)) := k4.cell 3
  have l4 := k4.lt
  go_wp2_with fail
  clear c4_0 c4_1 c4_2 c4_3 l4
  refine (Read_v r r rfl _ir _).mono ?_
  rintro e U10 ⟨v_, rfl, hbm, hn⟩
  clear k4
  replace k1 := k1.of hn
  replace k2 := k2.of hn
  replace HB1 := Lib.hid (HB1.out.of hn)
  replace hb0 := hb0.trans (hn.mono hb0.size)
  clear hn
  have HB3 := Lib.hid hbm
  have hvm := hbm.shape
  clear hbm
  obtain ⟨bn3, ba3, bl3, bc3, rfl⟩ := hvm
  go_wp2_with fail
  first | refine calls_w ?_ | refine name_world ?_ | refine list_world ?_ | refine post_world ?_
  intro V11 hV11
  have D6 := Lib.hid k1.lt
  have D7 := Lib.hid k2.lt
  have D8 := Lib.hid hb0.size
  have hn : Below U10.heap.size U10 V11 := by rw [hV11]; exact below_a1 _ _
  have nk1 := k1.of hn
  have nk2 := k2.of hn
  replace HB1 := Lib.hid (HB1.out.of hn)
  replace HB3 := Lib.hid (HB3.out.of hn)
  have nhb0 := hb0.trans (hn.mono hb0.size)
  clear hn
  have k5 : Blk V11 U10.heap.size #[.bool bn3, .slice ba3 bl3 bc3] 34 := by rw [hV11]; exact (Blk.new _ _ _)
  clear k1 k2
  clear hb0
  clear hV11
  have k1 := nk1
  clear nk1
  have k2 := nk2
  clear nk2
  have hb0 := nhb0
  clear nhb0
  have c5_0 : V11.cell? ⟨U10.heap.size, 0, none⟩ = some (.bool bn3) := k5.cell 0
  have c5_1 : V11.cell? ⟨U10.heap.size, 1, none⟩ = some (.slice ba3 bl3 bc3) := k5.cell 1
  have l5 := k5.lt
  have Kk1 := Lib.hid k1
  clear k1
  have Kk2 := Lib.hid k2
  clear k2
  have Kk5 := Lib.hid k5
  clear k5
  refine wp_region_float1 4 3 [(true, 0), (false, 1), (false, 2)] (by kernel_rfl) (by kernel_rfl) (fun _ _ d _ _ => by cases d <;> exact Iff.rfl) rfl rfl rfl alWrL0_0 ?_
  have hb : Below V11.heap.size V11 V11.drew := (Below.refl _ _).drew
  refine wpF_take rfl rfl ?_
  go_big_quiet_step (rfl)
  refine wpQuiet_nil ?_
  refine wpF_do rfl ?_
  intro w1 hg K hK
  replace hb := hb.trans (hg.mono hb.size)
  try replace HB4 := Lib.hid (HB4.out.of hg); try replace HB5 := Lib.hid (HB5.out.of hg)
  clear hg
  go_wp2_with ((go_at_call 24; (with_reducible refine (bigOf_v 1 1 rfl (by unfold In64; omega) _).mono ?_); rintro e w2 ⟨v_, rfl, hbm, hn⟩; have HB4 := Lib.hid hbm; have hvm := hbm.shape; clear hbm; obtain ⟨bn4, ba4, bl4, bc4, rfl⟩ := hvm))
  refine hK.out _ _ hn ?_
  replace hb := hb.trans (hn.mono hb.size)
  clear hK K
  clear hn
  refine wpF_do rfl ?_
  intro w1 hg K hK
  replace hb := hb.trans (hg.mono hb.size)
  try replace HB4 := Lib.hid (HB4.out.of hg); try replace HB5 := Lib.hid (HB5.out.of hg)
  clear hg
  go_wp2_with ((go_at_call 23; (with_reducible refine (bigAdd_v (.agg #[.bool bn3, .slice ba3 bl3 bc3]) (.agg #[.bool bn4, .slice ba4 bl4 bc4]) r 1 t 18 HP11.out _ (HB3.out.of hb) (HB4.out.mono (by decide)) (by decide)).mono ?_); rintro e w2 ⟨v_, rfl, hbm, hn⟩; replace HB4 := Lib.hid (HB4.out.of hn); have HB5 := Lib.hid hbm; have hvm := hbm.shape; clear hbm; obtain ⟨bn5, ba5, bl5, bc5, rfl⟩ := hvm))
  refine hK.out _ _ hn ?_
  replace hb := hb.trans (hn.mono hb.size)
  clear hK K
  clear hn
  refine wpF_nil ?_
  clear hb
  intro w1 hg hb b1 lb1 nb1
  replace HB4 := Lib.hid (HB4.out.of hg)
  replace HB5 := Lib.hid (HB5.out.of hg)
  clear hg
  simp only [Act.put, ptrTo, List.setIfInBounds_toArray, List.set_cons_succ, List.set_cons_zero]
  simp only [List.drop_succ_cons, List.drop_zero]
  clear c5_0 c5_1 l5
  first | refine calls_w ?_ | refine name_world ?_ | refine list_world ?_ | refine post_world ?_
  intro U12 hU12
  subst hU12
  have D9 := Lib.hid Kk1.out.lt
  have D10 := Lib.hid Kk2.out.lt
  have D11 := Lib.hid Kk5.out.lt
  have D12 := Lib.hid hb0.size
  have k6 : Blk U12 b1 #[.bool false, .slice none 0 0] 34 := nb1
  have k1 := Kk1.out.of hb
  clear Kk1
  have k2 := Kk2.out.of hb
  clear Kk2
  have k5 := Kk5.out.of hb
  clear Kk5
  have D13 := Lib.hid lb1
  clear nb1 lb1
  replace HB1 := Lib.hid (HB1.out.of hb)
  replace HB3 := Lib.hid (HB3.out.of hb)
  replace hb0 := hb0.trans (hb.mono hb0.size)
  clear hb
  generalize b1 = q6 at *
  have c6_0 : U12.cell? ⟨q6, 0, none⟩ = some (.bool false) := k6.cell 0
  have c6_1 : U12.cell? ⟨q6, 1, none⟩ = some (.slice none 0 0) := k6.cell 1
  have f6_0 := k6.free 0
  have f6_1 := k6.free 1
  have l6 := k6.lt
  go_wp2_with fail
  clear c6_0 c6_1 f6_0 f6_1 l6
  first | refine calls_w ?_ | refine name_world ?_ | refine list_world ?_ | refine post_world ?_
  intro V13 hV13
  clear HB4
  have D14 := Lib.hid k1.lt
  have D15 := Lib.hid k2.lt
  have D16 := Lib.hid k5.lt
  have D17 := Lib.hid k6.lt
  have D18 := Lib.hid hb0.size
  have nk1 : Blk V13 w.heap.size #[.int .u64 (wd0 a), .int .u64 (wd1 a), .int .u64 (wd2 a), .int .u64 (wd3 a)] 24 := by rw [hV13]; exact (blk_setL k1 (by have := D9.out; have := D13.out; omega) 0 [.bool bn5, .slice ba5 bl5 bc5])
  have nk2 : Blk V13 U2.heap.size #[.bool bn1, .slice ba1 bl1 bc1] 34 := by rw [hV13]; exact (blk_setL k2 (by have := D10.out; have := D13.out; omega) 0 [.bool bn5, .slice ba5 bl5 bc5])
  have nk5 : Blk V13 U10.heap.size #[.bool bn3, .slice ba3 bl3 bc3] 34 := by rw [hV13]; exact (blk_setL k5 (by have := D11.out; have := D13.out; omega) 0 [.bool bn5, .slice ba5 bl5 bc5])
  have nk6 : Blk V13 q6 #[.bool bn5, .slice ba5 bl5 bc5] 34 := by rw [hV13]; exact (blk_full _ [.bool bn5, .slice ba5 bl5 bc5] k6 rfl)
  have nhb0 : Below w.heap.size w V13 := by rw [hV13]; exact (blw_setL hb0 (by have := D12.out; have := D13.out; omega) 0 [.bool bn5, .slice ba5 bl5 bc5])
  replace HB1 : Hid (Big V13 (.agg #[.bool bn1, .slice ba1 bl1 bc1]) a 18) := Lib.hid (by rw [hV13]; exact (big_setL HB1.out (Blk.cell k6 0) (fun _ h => by cases h) 0 [.bool bn5, .slice ba5 bl5 bc5]))
  replace HB3 : Hid (Big V13 (.agg #[.bool bn3, .slice ba3 bl3 bc3]) r 18) := Lib.hid (by rw [hV13]; exact (big_setL HB3.out (Blk.cell k6 0) (fun _ h => by cases h) 0 [.bool bn5, .slice ba5 bl5 bc5]))
  replace HB5 : Hid (Big V13 (.agg #[.bool bn5, .slice ba5 bl5 bc5]) t 19) := Lib.hid (by rw [hV13]; exact (big_setL HB5.out (Blk.cell k6 0) (fun _ h => by cases h) 0 [.bool bn5, .slice ba5 bl5 bc5]))
  clear k1 k2 k5 k6
  clear hb0
  clear hV13
  have k1 := nk1
  clear nk1
  have k2 := nk2
  clear nk2
  have k5 := nk5
  clear nk5
  have k6 := nk6
  clear nk6
  have hb0 := nhb0
  clear nhb0
  have c2_0 : V13.cell? ⟨U2.heap.size, 0, none⟩ = some (.bool bn1) := k2.cell 0
  have c2_1 : V13.cell? ⟨U2.heap.size, 1, none⟩ = some (.slice ba1 bl1 bc1) := k2.cell 1
  have l2 := k2.lt
  have c5_0 : V13.cell? ⟨U10.heap.size, 0, none⟩ = some (.bool bn3) := k5.cell 0
  have c5_1 : V13.cell? ⟨U10.heap.size, 1, none⟩ = some (.slice ba3 bl3 bc3) := k5.cell 1
  have l5 := k5.lt
  have c6_0 : V13.cell? ⟨q6, 0, none⟩ = some (.bool bn5) := k6.cell 0
  have c6_1 : V13.cell? ⟨q6, 1, none⟩ = some (.slice ba5 bl5 bc5) := k6.cell 1
  have l6 := k6.lt
  have Kk1 := Lib.hid k1
  clear k1
  have Kk2 := Lib.hid k2
  clear k2
  have Kk5 := Lib.hid k5
  clear k5
  have Kk6 := Lib.hid k6
  clear k6
  refine wp_region_up V13.heap.size 20 [(true, 0), (true, 1), (true, 2), (true, 3), (false, 4), (true, 5), (true, 6), (true, 7), (true, 8), (true, 9), (true, 11), (false, 10), (false, 12), (true, 13), (true, 14), (true, 15), (true, 16), (true, 17), (true, 19), (false, 18)] (by kernel_rfl) (by kernel_rfl) (fun _ _ d _ _ h => by cases d <;> exact h) ?_
  have hb : Below V13.heap.size V13 V13.drew := (Below.refl _ _).drew
  iterate 4
    refine wpS_takeL rfl rfl ?_
    go_big_quiet_step (rfl)
    refine wpQuiet_nil ?_
  refine wpS_doL rfl ?_
  intro K hK
  go_wp2_with ((go_at_call 17; (with_reducible refine (bigSign_v (.agg #[.bool bn3, .slice ba3 bl3 bc3]) r 18 rs HP12.out _ (HB3.out.of hb)).mono ?_); rintro e w2 ⟨rfl, hn⟩))
  try replace hb := hb.trans (hn.mono hb.size)
  refine hK.out _ _ (up_iff.2 hb) ?_
  clear hK K
  try clear hn
  iterate 6
    refine wpS_takeL rfl rfl ?_
    go_big_quiet_step (rfl)
    refine wpQuiet_nil ?_
  refine wpS_doL rfl ?_
  intro K hK
  go_wp2_with ((first | (go_at_call 25; (with_reducible refine (bigMul_v (.agg #[.bool bn3, .slice ba3 bl3 bc3]) (.agg #[.bool bn3, .slice ba3 bl3 bc3]) r r rr 18 18 HP14.out _ (HB3.out.of hb) (HB3.out.of hb) (by decide)).mono ?_); rintro e w2 ⟨v_, rfl, hbm, hn⟩; have HB6 := Lib.hid hbm; have hvm := hbm.shape; clear hbm; obtain ⟨bn6, ba6, bl6, bc6, rfl⟩ := hvm) | (go_at_call 25; (with_reducible refine (bigMul_v (.agg #[.bool bn5, .slice ba5 bl5 bc5]) (.agg #[.bool bn5, .slice ba5 bl5 bc5]) t t tt 19 19 HP17.out _ (HB5.out.of hb) (HB5.out.of hb) (by decide)).mono ?_); rintro e w2 ⟨v_, rfl, hbm, hn⟩; replace HB6 := Lib.hid (HB6.out.of hn); have HB7 := Lib.hid hbm; have hvm := hbm.shape; clear hbm; obtain ⟨bn7, ba7, bl7, bc7, rfl⟩ := hvm)))
  try replace hb := hb.trans (hn.mono hb.size)
  refine hK.out _ _ (up_iff.2 hb) ?_
  clear hK K
  try clear hn
  refine wpS_doL rfl ?_
  intro K hK
  go_wp2_with ((go_at_call 20; (with_reducible refine (bigCmp_v (.agg #[.bool bn6, .slice ba6 bl6 bc6]) (.agg #[.bool bn1, .slice ba1 bl1 bc1]) rr a 36 18 c3 HP15.out _ HB6.out (HB1.out.of hb)).mono ?_); rintro e w2 ⟨rfl, hn⟩; replace HB6 := Lib.hid (HB6.out.of hn)))
  try replace hb := hb.trans (hn.mono hb.size)
  refine hK.out _ _ (up_iff.2 hb) ?_
  clear hK K
  try clear hn
  iterate 6
    refine wpS_takeL rfl rfl ?_
    go_big_quiet_step (rfl)
    refine wpQuiet_nil ?_
  refine wpS_doL rfl ?_
  intro K hK
  go_wp2_with ((first | (go_at_call 25; (with_reducible refine (bigMul_v (.agg #[.bool bn3, .slice ba3 bl3 bc3]) (.agg #[.bool bn3, .slice ba3 bl3 bc3]) r r rr 18 18 HP14.out _ (HB3.out.of hb) (HB3.out.of hb) (by decide)).mono ?_); rintro e w2 ⟨v_, rfl, hbm, hn⟩; have HB6 := Lib.hid hbm; have hvm := hbm.shape; clear hbm; obtain ⟨bn6, ba6, bl6, bc6, rfl⟩ := hvm) | (go_at_call 25; (with_reducible refine (bigMul_v (.agg #[.bool bn5, .slice ba5 bl5 bc5]) (.agg #[.bool bn5, .slice ba5 bl5 bc5]) t t tt 19 19 HP17.out _ (HB5.out.of hb) (HB5.out.of hb) (by decide)).mono ?_); rintro e w2 ⟨v_, rfl, hbm, hn⟩; replace HB6 := Lib.hid (HB6.out.of hn); have HB7 := Lib.hid hbm; have hvm := hbm.shape; clear hbm; obtain ⟨bn7, ba7, bl7, bc7, rfl⟩ := hvm)))
  try replace hb := hb.trans (hn.mono hb.size)
  refine hK.out _ _ (up_iff.2 hb) ?_
  clear hK K
  try clear hn
  refine wpS_nil ?_
  simp only [List.drop_succ_cons, List.drop_zero]
  first | refine calls_w ?_ | refine name_world ?_ | refine list_world ?_ | refine post_world ?_
  intro U14 hU14
  first | (subst hU14; have u_ := U14; clear u_) | (rw [← hU14] at hb; clear hU14)
  clear c2_0 c2_1 l2 c5_0 c5_1 l5 c6_0 c6_1 l6
  have k1 := Kk1.out.of hb
  clear Kk1
  have k2 := Kk2.out.of hb
  clear Kk2
  have k5 := Kk5.out.of hb
  clear Kk5
  have k6 := Kk6.out.of hb
  clear Kk6
  replace HB1 := Lib.hid (HB1.out.of hb)
  replace HB3 := Lib.hid (HB3.out.of hb)
  replace HB5 := Lib.hid (HB5.out.of hb)
  replace hb0 := hb0.trans (hb.mono hb0.size)
  clear hb
  go_wp2_with fail
  refine (bigCmp_v (.agg #[.bool bn7, .slice ba7 bl7 bc7]) (.agg #[.bool bn1, .slice ba1 bl1 bc1]) tt a 38 18 c4 HP18.out _ HB7.out HB1.out).mono ?_
  rintro e U15 ⟨rfl, hn⟩
  clear HB3 HB5 HB6 HB7
  clear k5 k6
  replace k1 := k1.of hn
  replace k2 := k2.of hn
  replace HB1 := Lib.hid (HB1.out.of hn)
  replace hb0 := hb0.trans (hn.mono hb0.size)
  clear hn
  have c1_0 : U15.cell? ⟨w.heap.size, 0, none⟩ = some (.int .u64 (wd0 a)) := k1.cell 0
  have c1_1 : U15.cell? ⟨w.heap.size, 1, none⟩ = some (.int .u64 (wd1 a)) := k1.cell 1
  have c1_2 : U15.cell? ⟨w.heap.size, 2, none⟩ = some (.int .u64 (wd2 a)) := k1.cell 2
  have c1_3 : U15.cell? ⟨w.heap.size, 3, none⟩ = some (.int .u64 (wd3 a)) := k1.cell 3
  have l1 := k1.lt
  go_wp2_with fail
  clear c1_0 c1_1 c1_2 c1_3 l1
  refine (Power_v a n 0 false HP20.out HP21.out _ia _in _).mono ?_
  rintro e U16 ⟨rfl, hn⟩
  clear k1
  replace k2 := k2.of hn
  replace HB1 := Lib.hid (HB1.out.of hn)
  replace hb0 := hb0.trans (hn.mono hb0.size)
  clear hn
  go_wp2_with fail
  first | refine calls_w ?_ | refine name_world ?_ | refine list_world ?_ | refine post_world ?_
  intro V17 hV17
  have D19 := Lib.hid k2.lt
  have D20 := Lib.hid hb0.size
  have hn : Below U16.heap.size U16 V17 := by rw [hV17]; exact below_a1 _ _
  have nk2 := k2.of hn
  replace HB1 := Lib.hid (HB1.out.of hn)
  have nhb0 := hb0.trans (hn.mono hb0.size)
  clear hn
  have k7 : Blk V17 U16.heap.size #[.int .u64 (wd0 0), .int .u64 (wd1 0), .int .u64 (wd2 0), .int .u64 (wd3 0)] 24 := by rw [hV17]; exact (Blk.new _ _ _)
  clear k2
  clear hb0
  clear hV17
  have k2 := nk2
  clear nk2
  have hb0 := nhb0
  clear nhb0
  refine (bigOf_v 1 1 rfl (by unfold In64; omega) _).mono ?_
  rintro e U18 ⟨v_, rfl, hbm, hn⟩
  replace k2 := k2.of hn
  replace k7 := k7.of hn
  replace HB1 := Lib.hid (HB1.out.of hn)
  replace hb0 := hb0.trans (hn.mono hb0.size)
  clear hn
  have HB8 := Lib.hid hbm
  have hvm := hbm.shape
  clear hbm
  obtain ⟨bn8, ba8, bl8, bc8, rfl⟩ := hvm
  go_wp2_with fail
  first | refine name_world ?_
  intro V19 hV19
  have D21 := Lib.hid k2.lt
  have D22 := Lib.hid k7.lt
  have D23 := Lib.hid hb0.size
  have hn : Below U18.heap.size U18 V19 := by rw [hV19]; exact below_a1 _ _
  have nk2 := k2.of hn
  have nk7 := k7.of hn
  replace HB1 := Lib.hid (HB1.out.of hn)
  replace HB8 := Lib.hid (HB8.out.of hn)
  have nhb0 := hb0.trans (hn.mono hb0.size)
  clear hn
  have k8 : Blk V19 U18.heap.size #[.bool bn8, .slice ba8 bl8 bc8] 34 := by rw [hV19]; exact (Blk.new _ _ _)
  clear k2 k7
  clear hb0
  clear hV19
  have k2 := nk2
  clear nk2
  have k7 := nk7
  clear nk7
  have hb0 := nhb0
  clear nhb0
  go_loopg [116] (n.toNat) (fun gk_ s1_0 wr => ∃ (o : Int) (k_ : Int) (wn : Bool) (wa : Option Addr) (wl wc : Nat), s1_0 = .int .i64 k_ ∧ Hid (PwI a n o k_ ∧ n - k_ ≤ (gk_ : Int)) ∧ Blk wr U2.heap.size #[.bool bn1, .slice ba1 bl1 bc1] 34 ∧ Blk wr U16.heap.size #[.int .u64 (wd0 0), .int .u64 (wd1 0), .int .u64 (wd2 0), .int .u64 (wd3 0)] 24 ∧ Blk wr U18.heap.size #[.bool wn, .slice wa wl wc] 34 ∧ Big wr (.agg #[.bool bn1, .slice ba1 bl1 bc1]) a 18 ∧ Big wr (.agg #[.bool wn, .slice wa wl wc]) o 18 ∧ Below w.heap.size w wr)
  case atStart =>
    have HIn : PwI a n 1 0 ∧ n - 0 ≤ ((n.toNat) : Int) := by
      exact ⟨PwI.begin (by simpa using hP22) (by simpa using hP23), by omega⟩
    exact ⟨1, 0, bn8, ba8, bl8, bc8, rfl, Lib.hid HIn, k2, k7, k8, HB1.out, (HB8.out.mono (by decide)), hb0⟩
  case round =>
    rename World => W1_
    rename Nat => gk1
    clear k2 k7 k8 HB1 HB8
    clear hb0
    obtain ⟨o, k_, wn, wa, wl, wc, rfl, HI1, k2, k7, k8, HB1_, HB9_, hb0⟩ := hrel
    have HB1 := Lib.hid HB1_
    clear HB1_
    have HB9 := Lib.hid HB9_
    clear HB9_
    obtain ⟨z1, hz1⟩ : ∃ o_o : Bool, decide (k_ < n) = o_o := ⟨_, rfl⟩
    cases z1
    · exact absurd (HI1.out.1.yes (of_decide_eq_false hz1)).1 (by rw [HP21.out]; decide)
    · have c2_0 : W1_.cell? ⟨U2.heap.size, 0, none⟩ = some (.bool bn1) := k2.cell 0
      have c2_1 : W1_.cell? ⟨U2.heap.size, 1, none⟩ = some (.slice ba1 bl1 bc1) := k2.cell 1
      have l2 := k2.lt
      have c8_0 : W1_.cell? ⟨U18.heap.size, 0, none⟩ = some (.bool wn) := k8.cell 0
      have c8_1 : W1_.cell? ⟨U18.heap.size, 1, none⟩ = some (.slice wa wl wc) := k8.cell 1
      have l8 := k8.lt
      go_wp2_with fail
      clear c2_0 c2_1 l2 c8_0 c8_1 l8
      obtain ⟨r2, hr2⟩ : ∃ o_o : Int, o * a = o_o := ⟨_, rfl⟩
      have Hr2 := Lib.hid hr2
      clear hr2
      refine (bigMul_v (.agg #[.bool wn, .slice wa wl wc]) (.agg #[.bool bn1, .slice ba1 bl1 bc1]) o a r2 18 18 Hr2.out _ HB9.out HB1.out (by decide)).mono ?_
      rintro e U20 ⟨v_, rfl, hbm, hn⟩
      replace k2 := k2.of hn
      replace k7 := k7.of hn
      replace k8 := k8.of hn
      replace HB1 := Lib.hid (HB1.out.of hn)
      replace HB9 := Lib.hid (HB9.out.of hn)
      replace hb0 := hb0.trans (hn.mono hb0.size)
      clear hn
      have HB10 := Lib.hid hbm
      have hvm := hbm.shape
      clear hbm
      obtain ⟨bn10, ba10, bl10, bc10, rfl⟩ := hvm
      have c8_0 : U20.cell? ⟨U18.heap.size, 0, none⟩ = some (.bool wn) := k8.cell 0
      have c8_1 : U20.cell? ⟨U18.heap.size, 1, none⟩ = some (.slice wa wl wc) := k8.cell 1
      have f8_0 := k8.free 0
      have f8_1 := k8.free 1
      have l8 := k8.lt
      go_wp2_with fail
      clear c8_0 c8_1 f8_0 f8_1 l8
      first | refine calls_w ?_ | refine name_world ?_ | refine list_world ?_ | refine post_world ?_
      intro V21 hV21
      have D24 := Lib.hid k2.lt
      have D25 := Lib.hid k7.lt
      have D26 := Lib.hid k8.lt
      have D27 := Lib.hid hb0.size
      have nk2 : Blk V21 U2.heap.size #[.bool bn1, .slice ba1 bl1 bc1] 34 := by rw [hV21]; exact (blk_setL k2 (by have := D21.out; omega) 0 [.bool bn10, .slice ba10 bl10 bc10])
      have nk7 : Blk V21 U16.heap.size #[.int .u64 (wd0 0), .int .u64 (wd1 0), .int .u64 (wd2 0), .int .u64 (wd3 0)] 24 := by rw [hV21]; exact (blk_setL k7 (by have := D22.out; omega) 0 [.bool bn10, .slice ba10 bl10 bc10])
      have nk8 : Blk V21 U18.heap.size #[.bool bn10, .slice ba10 bl10 bc10] 34 := by rw [hV21]; exact (blk_full _ [.bool bn10, .slice ba10 bl10 bc10] k8 rfl)
      have nhb0 : Below w.heap.size w V21 := by rw [hV21]; exact (blw_setL hb0 (by have := D23.out; omega) 0 [.bool bn10, .slice ba10 bl10 bc10])
      replace HB1 : Hid (Big V21 (.agg #[.bool bn1, .slice ba1 bl1 bc1]) a 18) := Lib.hid (by rw [hV21]; exact (big_setL HB1.out (Blk.cell k8 0) (fun _ h => by cases h) 0 [.bool bn10, .slice ba10 bl10 bc10]))
      replace HB9 : Hid (Big V21 (.agg #[.bool wn, .slice wa wl wc]) o 18) := Lib.hid (by rw [hV21]; exact (big_setL HB9.out (Blk.cell k8 0) (fun _ h => by cases h) 0 [.bool bn10, .slice ba10 bl10 bc10]))
      replace HB10 : Hid (Big V21 (.agg #[.bool bn10, .slice ba10 bl10 bc10]) r2 36) := Lib.hid (by rw [hV21]; exact (big_setL HB10.out (Blk.cell k8 0) (fun _ h => by cases h) 0 [.bool bn10, .slice ba10 bl10 bc10]))
      clear k2 k7 k8
      clear hb0
      clear hV21
      have k2 := nk2
      clear nk2
      have k7 := nk7
      clear nk7
      have k8 := nk8
      clear nk8
      have hb0 := nhb0
      clear nhb0
      obtain ⟨z3, hz3⟩ : ∃ o_o : Bool, okI r2 = o_o := ⟨_, rfl⟩
      have Hz3 := Lib.hid hz3
      clear hz3
      refine (Fits_is (.agg #[.bool bn10, .slice ba10 bl10 bc10]) r2 36 z3 Hz3.out _ HB10.out).mono ?_
      rintro e U22 ⟨rfl, hn⟩
      replace k2 := k2.of hn
      replace k7 := k7.of hn
      replace k8 := k8.of hn
      replace HB1 := Lib.hid (HB1.out.of hn)
      replace HB9 := Lib.hid (HB9.out.of hn)
      replace HB10 := Lib.hid (HB10.out.of hn)
      replace hb0 := hb0.trans (hn.mono hb0.size)
      clear hn
      cases z3
      · have c7_0 : U22.cell? ⟨U16.heap.size, 0, none⟩ = some (.int .u64 (wd0 0)) := k7.cell 0
        have c7_1 : U22.cell? ⟨U16.heap.size, 1, none⟩ = some (.int .u64 (wd1 0)) := k7.cell 1
        have c7_2 : U22.cell? ⟨U16.heap.size, 2, none⟩ = some (.int .u64 (wd2 0)) := k7.cell 2
        have c7_3 : U22.cell? ⟨U16.heap.size, 3, none⟩ = some (.int .u64 (wd3 0)) := k7.cell 3
        have l7 := k7.lt
        go_wp2_with fail
        clear c7_0 c7_1 c7_2 c7_3 l7
        refine (wawake_any _ (hG.of hb0)).mono ?_
        rintro e U23 ⟨rfl, hn⟩
        replace k2 := k2.of hn
        replace k7 := k7.of hn
        replace k8 := k8.of hn
        replace HB1 := Lib.hid (HB1.out.of hn)
        replace HB9 := Lib.hid (HB9.out.of hn)
        replace HB10 := Lib.hid (HB10.out.of hn)
        replace hb0 := hb0.trans (hn.mono hb0.size)
        clear hn
        go_wp2
        first | go_ret | go_ret2
        exact ⟨by first | rfl | (simp; done) | (simp; assumption), hb0⟩
      · go_wp2_with fail
        have HIn : PwI a n r2 (wrap64 (k_ + 1)) ∧ n - (wrap64 (k_ + 1)) ≤ (((n - (wrap64 (k_ + 1))).toNat) : Int) := by
          exact ⟨HI1.out.1.nextM (of_decide_eq_true hz1) Hr2.out (by rw [Hr2.out]; exact Hz3.out), by omega⟩
        go_roundg ((n - (wrap64 (k_ + 1))).toNat)
        case measure =>
          rw [HI1.out.1.w (of_decide_eq_true hz1)]
          have q_ := of_decide_eq_true hz1
          have q2_ := HI1.out.2
          omega
        case rel => exact ⟨r2, (wrap64 (k_ + 1)), bn10, ba10, bl10, bc10, rfl, Lib.hid HIn, k2, k7, k8, HB1.out, (fit_I HB10.out (by have := Hz3.out; unfold okI at this; exact of_decide_eq_true this)), hb0⟩
end Go.Proofs.YtcfiemeknocgjaaDoor

namespace Go.Proofs.YtcfiemeknocgjaaDoor
open Go.RowKit

theorem alWrL1_0 : AllocRuns Tryd.prog 34 #[.bool false, .slice none 0 0] := fun w => by kernel_rfl

set_option maxRecDepth 100000 in
set_option maxHeartbeats 4000000 in

theorem WRo_20 (a : Int) (n : Int) (s : Int) (k : Int) (q : Int) (c1 : Int) (q2 : Int) (c2 : Int) (r : Int) (t : Int) (rs : Int) (rr : Int) (c3 : Int) (tt : Int) (c4 : Int)   (hP0 : a.sign = s) (hP1 : decide (s < 0) = false) (hP2 : btn a = k) (hP3 : decide (k < 0) = false) (hP4 : decide (256 < k) = false) (hP5 : 2 ^ k.toNat = q) (hP6 : cmpI a q = c1) (hP7 : decide (0 ≤ c1) = false) (hP8 : decide (0 < k) = true) (hP9 : 2 ^ (wrap64 (k - 1)).toNat = q2) (hP10 : cmpI a q2 = c2) (hP11 : decide (c2 < 0) = false) (hP12 : rtv a = r) (hP13 : rtk a = true) (hP14 : r + 1 = t) (hP15 : r.sign = rs) (hP16 : decide (rs < 0) = false) (hP17 : r * r = rr) (hP18 : cmpI rr a = c3) (hP19 : decide (0 < c3) = false) (hP20 : t * t = tt) (hP21 : cmpI tt a = c4) (hP22 : decide (c4 ≤ 0) = false) (hP23 : pwv a n = 0) (hP24 : pwk a n = false) (hP25 : decide (n < 0) = true) (_ik : Hid (0 ≤ k ∧ k ≤ 256)) (_ir : InI r) (_ia : InI a) (_in : In64 n)  (w : World) (hG : Tab w) :
    Calls Tryd.prog 6 #[.agg #[.int .u64 (wd0 a), .int .u64 (wd1 a), .int .u64 (wd2 a), .int .u64 (wd3 a)], .int .i64 n] w fun e w' => e = .returned (.bool true) ∧ Below w.heap.size w w' := by

  have HP0 := Lib.hid hP0
  clear hP0
  have HP2 := Lib.hid hP2
  clear hP2
  have HP5 := Lib.hid hP5
  clear hP5
  have HP6 := Lib.hid hP6
  clear hP6
  have HP9 := Lib.hid hP9
  clear hP9
  have HP10 := Lib.hid hP10
  clear hP10
  have HP12 := Lib.hid hP12
  clear hP12
  have HP13 := Lib.hid hP13
  clear hP13
  have HP14 := Lib.hid hP14
  clear hP14
  have HP15 := Lib.hid hP15
  clear hP15
  have HP17 := Lib.hid hP17
  clear hP17
  have HP18 := Lib.hid hP18
  clear hP18
  have HP20 := Lib.hid hP20
  clear hP20
  have HP21 := Lib.hid hP21
  clear hP21
  have HP23 := Lib.hid hP23
  clear hP23
  have HP24 := Lib.hid hP24
  clear hP24
  go_enter Tryd.func6, Tryd.ntmps6
  go_wp2_with fail
  first | refine calls_w ?_ | refine name_world ?_ | refine list_world ?_ | refine post_world ?_
  intro V1 hV1
  have hn : Below w.heap.size w V1 := by rw [hV1]; exact below_a1 _ _
  have nhb0 := hn
  have k1 : Blk V1 w.heap.size #[.int .u64 (wd0 a), .int .u64 (wd1 a), .int .u64 (wd2 a), .int .u64 (wd3 a)] 24 := by rw [hV1]; exact (Blk.new _ _ _)
  clear hV1
  have hb0 := nhb0
  clear nhb0
  refine (Read_v a a rfl _ia _).mono ?_
  rintro e U2 ⟨v_, rfl, hbm, hn⟩
  replace k1 := k1.of hn
  replace hb0 := hb0.trans (hn.mono hb0.size)
  clear hn
  have HB1 := Lib.hid hbm
  have hvm := hbm.shape
  clear hbm
  obtain ⟨bn1, ba1, bl1, bc1, rfl⟩ := hvm
  go_wp2_with fail
  first | refine calls_w ?_ | refine name_world ?_ | refine list_world ?_ | refine post_world ?_
  intro V3 hV3
  have D1 := Lib.hid k1.lt
  have D2 := Lib.hid hb0.size
  have hn : Below U2.heap.size U2 V3 := by rw [hV3]; exact below_a2 _ _ _
  have nk1 := k1.of hn
  replace HB1 := Lib.hid (HB1.out.of hn)
  have nhb0 := hb0.trans (hn.mono hb0.size)
  clear hn
  have k2 : Blk V3 U2.heap.size #[.bool bn1, .slice ba1 bl1 bc1] 34 := by rw [hV3]; exact ((Blk.new _ _ _).alloc _)
  have k3 : Blk V3 (U2.heap.size + 1) #[.bool bn1, .slice ba1 bl1 bc1] 34 := by rw [hV3]; exact (Blk.new1 _ _ _ _)
  clear k1
  clear hb0
  clear hV3
  have k1 := nk1
  clear nk1
  have hb0 := nhb0
  clear nhb0
  refine (bigSign_v (.agg #[.bool bn1, .slice ba1 bl1 bc1]) a 18 s HP0.out _ HB1.out).mono ?_
  rintro e U4 ⟨rfl, hn⟩
  replace k1 := k1.of hn
  replace k2 := k2.of hn
  replace k3 := k3.of hn
  replace HB1 := Lib.hid (HB1.out.of hn)
  replace hb0 := hb0.trans (hn.mono hb0.size)
  clear hn
  have c1_0 : U4.cell? ⟨w.heap.size, 0, none⟩ = some (.int .u64 (wd0 a)) := k1.cell 0
  have c1_1 : U4.cell? ⟨w.heap.size, 1, none⟩ = some (.int .u64 (wd1 a)) := k1.cell 1
  have c1_2 : U4.cell? ⟨w.heap.size, 2, none⟩ = some (.int .u64 (wd2 a)) := k1.cell 2
  have c1_3 : U4.cell? ⟨w.heap.size, 3, none⟩ = some (.int .u64 (wd3 a)) := k1.cell 3
  have l1 := k1.lt
  go_wp2_with fail
  clear c1_0 c1_1 c1_2 c1_3 l1
  refine (Bits_v a k HP2.out _ia _).mono ?_
  rintro e U5 ⟨rfl, hn⟩
  replace k1 := k1.of hn
  replace k2 := k2.of hn
  replace k3 := k3.of hn
  replace HB1 := Lib.hid (HB1.out.of hn)
  replace hb0 := hb0.trans (hn.mono hb0.size)
  clear hn
  go_wp2_with fail
  have c3_0 : U5.cell? ⟨(U2.heap.size + 1), 0, none⟩ = some (.bool bn1) := k3.cell 0
  have c3_1 : U5.cell? ⟨(U2.heap.size + 1), 1, none⟩ = some (.slice ba1 bl1 bc1) := k3.cell 1
  have l3 := k3.lt
  have Kk1 := Lib.hid k1
  clear k1
  have Kk2 := Lib.hid k2
  clear k2
  have Kk3 := Lib.hid k3
  clear k3
  refine wp_region_up U5.heap.size 21 [(true, 0), (true, 1), (true, 2), (true, 3), (true, 4), (true, 5), (true, 6), (true, 7), (true, 8), (false, 9), (false, 10), (true, 11), (true, 12), (true, 13), (true, 14), (true, 15), (true, 16), (true, 17), (true, 18), (true, 19), (false, 20)] (by kernel_rfl) (by kernel_rfl) (fun _ _ d _ _ h => by cases d <;> exact h) ?_
  have hb : Below U5.heap.size U5 U5.drew := (Below.refl _ _).drew
  iterate 9
    refine wpS_takeL rfl rfl ?_
    go_big_quiet_step (rfl)
    refine wpQuiet_nil ?_
  refine wpS_doL rfl ?_
  intro K hK
  go_wp2_with ((first | (go_at_call 21; (with_reducible refine (powk_v k q _ik.out HP5.out _).mono ?_); rintro e w2 ⟨v_, rfl, hbm, hn⟩; have HB2 := Lib.hid hbm; have hvm := hbm.shape; clear hbm; obtain ⟨bn2, ba2, bl2, bc2, rfl⟩ := hvm) | (go_at_call 21; (with_reducible refine (powk_v (wrap64 (k - 1)) q2 (pw_in1 _ik.out (of_decide_eq_true hP8)) HP9.out _).mono ?_); rintro e w2 ⟨v_, rfl, hbm, hn⟩; replace HB2 := Lib.hid (HB2.out.of hn); have HB3 := Lib.hid hbm; have hvm := hbm.shape; clear hbm; obtain ⟨bn3, ba3, bl3, bc3, rfl⟩ := hvm)))
  try replace hb := hb.trans (hn.mono hb.size)
  refine hK.out _ _ (up_iff.2 hb) ?_
  clear hK K
  try clear hn
  refine wpS_doL rfl ?_
  intro K hK
  go_wp2_with ((go_at_call 20; (with_reducible refine (bigCmp_v (.agg #[.bool bn1, .slice ba1 bl1 bc1]) (.agg #[.bool bn2, .slice ba2 bl2 bc2]) a q 18 18 c1 HP6.out _ (HB1.out.of hb) HB2.out).mono ?_); rintro e w2 ⟨rfl, hn⟩; replace HB2 := Lib.hid (HB2.out.of hn)))
  try replace hb := hb.trans (hn.mono hb.size)
  refine hK.out _ _ (up_iff.2 hb) ?_
  clear hK K
  try clear hn
  iterate 9
    refine wpS_takeL rfl rfl ?_
    go_big_quiet_step (rfl)
    refine wpQuiet_nil ?_
  refine wpS_doL rfl ?_
  intro K hK
  go_wp2_with ((first | (go_at_call 21; (with_reducible refine (powk_v k q _ik.out HP5.out _).mono ?_); rintro e w2 ⟨v_, rfl, hbm, hn⟩; have HB2 := Lib.hid hbm; have hvm := hbm.shape; clear hbm; obtain ⟨bn2, ba2, bl2, bc2, rfl⟩ := hvm) | (go_at_call 21; (with_reducible refine (powk_v (wrap64 (k - 1)) q2 (pw_in1 _ik.out (of_decide_eq_true hP8)) HP9.out _).mono ?_); rintro e w2 ⟨v_, rfl, hbm, hn⟩; replace HB2 := Lib.hid (HB2.out.of hn); have HB3 := Lib.hid hbm; have hvm := hbm.shape; clear hbm; obtain ⟨bn3, ba3, bl3, bc3, rfl⟩ := hvm)))
  try replace hb := hb.trans (hn.mono hb.size)
  refine hK.out _ _ (up_iff.2 hb) ?_
  clear hK K
  try clear hn
  refine wpS_nil ?_
  simp only [List.drop_succ_cons, List.drop_zero]
  first | refine calls_w ?_ | refine name_world ?_ | refine list_world ?_ | refine post_world ?_
  intro U6 hU6
  first | (subst hU6; have u_ := U6; clear u_) | (rw [← hU6] at hb; clear hU6)
  clear c3_0 c3_1 l3
  have k1 := Kk1.out.of hb
  clear Kk1
  have k2 := Kk2.out.of hb
  clear Kk2
  have k3 := Kk3.out.of hb
  clear Kk3
  replace HB1 := Lib.hid (HB1.out.of hb)
  replace hb0 := hb0.trans (hb.mono hb0.size)
  clear hb
  go_wp2_with fail
  refine (bigCmp_v (.agg #[.bool bn1, .slice ba1 bl1 bc1]) (.agg #[.bool bn3, .slice ba3 bl3 bc3]) a q2 18 18 c2 HP10.out _ HB1.out HB3.out).mono ?_
  rintro e U7 ⟨rfl, hn⟩
  clear HB2 HB3
  clear k3
  replace k1 := k1.of hn
  replace k2 := k2.of hn
  replace HB1 := Lib.hid (HB1.out.of hn)
  replace hb0 := hb0.trans (hn.mono hb0.size)
  clear hn
  have c1_0 : U7.cell? ⟨w.heap.size, 0, none⟩ = some (.int .u64 (wd0 a)) := k1.cell 0
  have c1_1 : U7.cell? ⟨w.heap.size, 1, none⟩ = some (.int .u64 (wd1 a)) := k1.cell 1
  have c1_2 : U7.cell? ⟨w.heap.size, 2, none⟩ = some (.int .u64 (wd2 a)) := k1.cell 2
  have c1_3 : U7.cell? ⟨w.heap.size, 3, none⟩ = some (.int .u64 (wd3 a)) := k1.cell 3
  have l1 := k1.lt
  go_wp2_with fail
  clear c1_0 c1_1 c1_2 c1_3 l1
  refine (Root_v a r true HP12.out HP13.out _ia _).mono ?_
  rintro e U8 ⟨rfl, hn⟩
  replace k1 := k1.of hn
  replace k2 := k2.of hn
  replace HB1 := Lib.hid (HB1.out.of hn)
  replace hb0 := hb0.trans (hn.mono hb0.size)
  clear hn
  have c2_0 : U8.cell? ⟨U2.heap.size, 0, none⟩ = some (.bool bn1) := k2.cell 0
  have c2_1 : U8.cell? ⟨U2.heap.size, 1, none⟩ = some (.slice ba1 bl1 bc1) := k2.cell 1
  have l2 := k2.lt
  go_wp2_with fail
  clear c2_0 c2_1 l2
  first | refine calls_w ?_ | refine name_world ?_ | refine list_world ?_ | refine post_world ?_
  intro V9 hV9
  have D3 := Lib.hid k1.lt
  have D4 := Lib.hid k2.lt
  have D5 := Lib.hid hb0.size
  have hn : Below U8.heap.size U8 V9 := by rw [hV9]; exact below_a1 _ _
  have nk1 := k1.of hn
  have nk2 := k2.of hn
  replace HB1 := Lib.hid (HB1.out.of hn)
  have nhb0 := hb0.trans (hn.mono hb0.size)
  clear hn
  have k4 : Blk V9 U8.heap.size #[.int .u64 (wd0 r), .int .u64 (wd1 r), .int .u64 (wd2 r), .int .u64 (wd3 r)] 24 := by rw [hV9]; exact (Blk.new _ _ _)
  clear k1 k2
  clear hb0
  clear hV9
  have k1 := nk1
  clear nk1
  have k2 := nk2
  clear nk2
  have hb0 := nhb0
  clear nhb0
  refine (bigSign_v (.agg #[.bool bn1, .slice ba1 bl1 bc1]) a 18 s HP0.out _ HB1.out).mono ?_
  rintro e U10 ⟨rfl, hn⟩
  replace k1 := k1.of hn
  replace k2 := k2.of hn
  replace k4 := k4.of hn
  replace HB1 := Lib.hid (HB1.out.of hn)
  replace hb0 := hb0.trans (hn.mono hb0.size)
  clear hn
  have c4_0 : U10.cell? ⟨U8.heap.size, 0, none⟩ = some (.int .u64 (wd0 r)) := k4.cell 0
  have c4_1 : U10.cell? ⟨U8.heap.size, 1, none⟩ = some (.int .u64 (wd1 r)) := k4.cell 1
  have c4_2 : U10.cell? ⟨U8.heap.size, 2, none⟩ = some (.int .u64 (wd2 r)) := k4.cell 2
  have c4_3 : U10.cell? ⟨U8.heap.size, 3, none⟩ = some (.int .u64 (wd3 r)) := k4.cell 3
  have l4 := k4.lt
  go_wp2_with fail
  clear c4_0 c4_1 c4_2 c4_3 l4
  refine (Read_v r r rfl _ir _).mono ?_
  rintro e U11 ⟨v_, rfl, hbm, hn⟩
  clear k4
  replace k1 := k1.of hn
  replace k2 := k2.of hn
  replace HB1 := Lib.hid (HB1.out.of hn)
  replace hb0 := hb0.trans (hn.mono hb0.size)
  clear hn
  have HB4 := Lib.hid hbm
  have hvm := hbm.shape
  clear hbm
  obtain ⟨bn4, ba4, bl4, bc4, rfl⟩ := hvm
  go_wp2_with fail
  first | refine calls_w ?_ | refine name_world ?_ | refine list_world ?_ | refine post_world ?_
  intro V12 hV12
  have D6 := Lib.hid k1.lt
  have D7 := Lib.hid k2.lt
  have D8 := Lib.hid hb0.size
  have hn : Below U11.heap.size U11 V12 := by rw [hV12]; exact below_a1 _ _
  have nk1 := k1.of hn
  have nk2 := k2.of hn
  replace HB1 := Lib.hid (HB1.out.of hn)
  replace HB4 := Lib.hid (HB4.out.of hn)
  have nhb0 := hb0.trans (hn.mono hb0.size)
  clear hn
  have k5 : Blk V12 U11.heap.size #[.bool bn4, .slice ba4 bl4 bc4] 34 := by rw [hV12]; exact (Blk.new _ _ _)
  clear k1 k2
  clear hb0
  clear hV12
  have k1 := nk1
  clear nk1
  have k2 := nk2
  clear nk2
  have hb0 := nhb0
  clear nhb0
  have c5_0 : V12.cell? ⟨U11.heap.size, 0, none⟩ = some (.bool bn4) := k5.cell 0
  have c5_1 : V12.cell? ⟨U11.heap.size, 1, none⟩ = some (.slice ba4 bl4 bc4) := k5.cell 1
  have l5 := k5.lt
  have Kk1 := Lib.hid k1
  clear k1
  have Kk2 := Lib.hid k2
  clear k2
  have Kk5 := Lib.hid k5
  clear k5
  refine wp_region_float1 4 3 [(true, 0), (false, 1), (false, 2)] (by kernel_rfl) (by kernel_rfl) (fun _ _ d _ _ => by cases d <;> exact Iff.rfl) rfl rfl rfl alWrL1_0 ?_
  have hb : Below V12.heap.size V12 V12.drew := (Below.refl _ _).drew
  refine wpF_take rfl rfl ?_
  go_big_quiet_step (rfl)
  refine wpQuiet_nil ?_
  refine wpF_do rfl ?_
  intro w1 hg K hK
  replace hb := hb.trans (hg.mono hb.size)
  try replace HB5 := Lib.hid (HB5.out.of hg); try replace HB6 := Lib.hid (HB6.out.of hg)
  clear hg
  go_wp2_with ((go_at_call 24; (with_reducible refine (bigOf_v 1 1 rfl (by unfold In64; omega) _).mono ?_); rintro e w2 ⟨v_, rfl, hbm, hn⟩; have HB5 := Lib.hid hbm; have hvm := hbm.shape; clear hbm; obtain ⟨bn5, ba5, bl5, bc5, rfl⟩ := hvm))
  refine hK.out _ _ hn ?_
  replace hb := hb.trans (hn.mono hb.size)
  clear hK K
  clear hn
  refine wpF_do rfl ?_
  intro w1 hg K hK
  replace hb := hb.trans (hg.mono hb.size)
  try replace HB5 := Lib.hid (HB5.out.of hg); try replace HB6 := Lib.hid (HB6.out.of hg)
  clear hg
  go_wp2_with ((go_at_call 23; (with_reducible refine (bigAdd_v (.agg #[.bool bn4, .slice ba4 bl4 bc4]) (.agg #[.bool bn5, .slice ba5 bl5 bc5]) r 1 t 18 HP14.out _ (HB4.out.of hb) (HB5.out.mono (by decide)) (by decide)).mono ?_); rintro e w2 ⟨v_, rfl, hbm, hn⟩; replace HB5 := Lib.hid (HB5.out.of hn); have HB6 := Lib.hid hbm; have hvm := hbm.shape; clear hbm; obtain ⟨bn6, ba6, bl6, bc6, rfl⟩ := hvm))
  refine hK.out _ _ hn ?_
  replace hb := hb.trans (hn.mono hb.size)
  clear hK K
  clear hn
  refine wpF_nil ?_
  clear hb
  intro w1 hg hb b1 lb1 nb1
  replace HB5 := Lib.hid (HB5.out.of hg)
  replace HB6 := Lib.hid (HB6.out.of hg)
  clear hg
  simp only [Act.put, ptrTo, List.setIfInBounds_toArray, List.set_cons_succ, List.set_cons_zero]
  simp only [List.drop_succ_cons, List.drop_zero]
  clear c5_0 c5_1 l5
  first | refine calls_w ?_ | refine name_world ?_ | refine list_world ?_ | refine post_world ?_
  intro U13 hU13
  subst hU13
  have D9 := Lib.hid Kk1.out.lt
  have D10 := Lib.hid Kk2.out.lt
  have D11 := Lib.hid Kk5.out.lt
  have D12 := Lib.hid hb0.size
  have k6 : Blk U13 b1 #[.bool false, .slice none 0 0] 34 := nb1
  have k1 := Kk1.out.of hb
  clear Kk1
  have k2 := Kk2.out.of hb
  clear Kk2
  have k5 := Kk5.out.of hb
  clear Kk5
  have D13 := Lib.hid lb1
  clear nb1 lb1
  replace HB1 := Lib.hid (HB1.out.of hb)
  replace HB4 := Lib.hid (HB4.out.of hb)
  replace hb0 := hb0.trans (hb.mono hb0.size)
  clear hb
  generalize b1 = q6 at *
  have c6_0 : U13.cell? ⟨q6, 0, none⟩ = some (.bool false) := k6.cell 0
  have c6_1 : U13.cell? ⟨q6, 1, none⟩ = some (.slice none 0 0) := k6.cell 1
  have f6_0 := k6.free 0
  have f6_1 := k6.free 1
  have l6 := k6.lt
  go_wp2_with fail
  clear c6_0 c6_1 f6_0 f6_1 l6
  first | refine calls_w ?_ | refine name_world ?_ | refine list_world ?_ | refine post_world ?_
  intro V14 hV14
  clear HB5
  have D14 := Lib.hid k1.lt
  have D15 := Lib.hid k2.lt
  have D16 := Lib.hid k5.lt
  have D17 := Lib.hid k6.lt
  have D18 := Lib.hid hb0.size
  have nk1 : Blk V14 w.heap.size #[.int .u64 (wd0 a), .int .u64 (wd1 a), .int .u64 (wd2 a), .int .u64 (wd3 a)] 24 := by rw [hV14]; exact (blk_setL k1 (by have := D9.out; have := D13.out; omega) 0 [.bool bn6, .slice ba6 bl6 bc6])
  have nk2 : Blk V14 U2.heap.size #[.bool bn1, .slice ba1 bl1 bc1] 34 := by rw [hV14]; exact (blk_setL k2 (by have := D10.out; have := D13.out; omega) 0 [.bool bn6, .slice ba6 bl6 bc6])
  have nk5 : Blk V14 U11.heap.size #[.bool bn4, .slice ba4 bl4 bc4] 34 := by rw [hV14]; exact (blk_setL k5 (by have := D11.out; have := D13.out; omega) 0 [.bool bn6, .slice ba6 bl6 bc6])
  have nk6 : Blk V14 q6 #[.bool bn6, .slice ba6 bl6 bc6] 34 := by rw [hV14]; exact (blk_full _ [.bool bn6, .slice ba6 bl6 bc6] k6 rfl)
  have nhb0 : Below w.heap.size w V14 := by rw [hV14]; exact (blw_setL hb0 (by have := D12.out; have := D13.out; omega) 0 [.bool bn6, .slice ba6 bl6 bc6])
  replace HB1 : Hid (Big V14 (.agg #[.bool bn1, .slice ba1 bl1 bc1]) a 18) := Lib.hid (by rw [hV14]; exact (big_setL HB1.out (Blk.cell k6 0) (fun _ h => by cases h) 0 [.bool bn6, .slice ba6 bl6 bc6]))
  replace HB4 : Hid (Big V14 (.agg #[.bool bn4, .slice ba4 bl4 bc4]) r 18) := Lib.hid (by rw [hV14]; exact (big_setL HB4.out (Blk.cell k6 0) (fun _ h => by cases h) 0 [.bool bn6, .slice ba6 bl6 bc6]))
  replace HB6 : Hid (Big V14 (.agg #[.bool bn6, .slice ba6 bl6 bc6]) t 19) := Lib.hid (by rw [hV14]; exact (big_setL HB6.out (Blk.cell k6 0) (fun _ h => by cases h) 0 [.bool bn6, .slice ba6 bl6 bc6]))
  clear k1 k2 k5 k6
  clear hb0
  clear hV14
  have k1 := nk1
  clear nk1
  have k2 := nk2
  clear nk2
  have k5 := nk5
  clear nk5
  have k6 := nk6
  clear nk6
  have hb0 := nhb0
  clear nhb0
  have c2_0 : V14.cell? ⟨U2.heap.size, 0, none⟩ = some (.bool bn1) := k2.cell 0
  have c2_1 : V14.cell? ⟨U2.heap.size, 1, none⟩ = some (.slice ba1 bl1 bc1) := k2.cell 1
  have l2 := k2.lt
  have c5_0 : V14.cell? ⟨U11.heap.size, 0, none⟩ = some (.bool bn4) := k5.cell 0
  have c5_1 : V14.cell? ⟨U11.heap.size, 1, none⟩ = some (.slice ba4 bl4 bc4) := k5.cell 1
  have l5 := k5.lt
  have c6_0 : V14.cell? ⟨q6, 0, none⟩ = some (.bool bn6) := k6.cell 0
  have c6_1 : V14.cell? ⟨q6, 1, none⟩ = some (.slice ba6 bl6 bc6) := k6.cell 1
  have l6 := k6.lt
  have Kk1 := Lib.hid k1
  clear k1
  have Kk2 := Lib.hid k2
  clear k2
  have Kk5 := Lib.hid k5
  clear k5
  have Kk6 := Lib.hid k6
  clear k6
  refine wp_region_up V14.heap.size 20 [(true, 0), (true, 1), (true, 2), (true, 3), (false, 4), (true, 5), (true, 6), (true, 7), (true, 8), (true, 9), (true, 11), (false, 10), (false, 12), (true, 13), (true, 14), (true, 15), (true, 16), (true, 17), (true, 19), (false, 18)] (by kernel_rfl) (by kernel_rfl) (fun _ _ d _ _ h => by cases d <;> exact h) ?_
  have hb : Below V14.heap.size V14 V14.drew := (Below.refl _ _).drew
  iterate 4
    refine wpS_takeL rfl rfl ?_
    go_big_quiet_step (rfl)
    refine wpQuiet_nil ?_
  refine wpS_doL rfl ?_
  intro K hK
  go_wp2_with ((go_at_call 17; (with_reducible refine (bigSign_v (.agg #[.bool bn4, .slice ba4 bl4 bc4]) r 18 rs HP15.out _ (HB4.out.of hb)).mono ?_); rintro e w2 ⟨rfl, hn⟩))
  try replace hb := hb.trans (hn.mono hb.size)
  refine hK.out _ _ (up_iff.2 hb) ?_
  clear hK K
  try clear hn
  iterate 6
    refine wpS_takeL rfl rfl ?_
    go_big_quiet_step (rfl)
    refine wpQuiet_nil ?_
  refine wpS_doL rfl ?_
  intro K hK
  go_wp2_with ((first | (go_at_call 25; (with_reducible refine (bigMul_v (.agg #[.bool bn4, .slice ba4 bl4 bc4]) (.agg #[.bool bn4, .slice ba4 bl4 bc4]) r r rr 18 18 HP17.out _ (HB4.out.of hb) (HB4.out.of hb) (by decide)).mono ?_); rintro e w2 ⟨v_, rfl, hbm, hn⟩; have HB7 := Lib.hid hbm; have hvm := hbm.shape; clear hbm; obtain ⟨bn7, ba7, bl7, bc7, rfl⟩ := hvm) | (go_at_call 25; (with_reducible refine (bigMul_v (.agg #[.bool bn6, .slice ba6 bl6 bc6]) (.agg #[.bool bn6, .slice ba6 bl6 bc6]) t t tt 19 19 HP20.out _ (HB6.out.of hb) (HB6.out.of hb) (by decide)).mono ?_); rintro e w2 ⟨v_, rfl, hbm, hn⟩; replace HB7 := Lib.hid (HB7.out.of hn); have HB8 := Lib.hid hbm; have hvm := hbm.shape; clear hbm; obtain ⟨bn8, ba8, bl8, bc8, rfl⟩ := hvm)))
  try replace hb := hb.trans (hn.mono hb.size)
  refine hK.out _ _ (up_iff.2 hb) ?_
  clear hK K
  try clear hn
  refine wpS_doL rfl ?_
  intro K hK
  go_wp2_with ((go_at_call 20; (with_reducible refine (bigCmp_v (.agg #[.bool bn7, .slice ba7 bl7 bc7]) (.agg #[.bool bn1, .slice ba1 bl1 bc1]) rr a 36 18 c3 HP18.out _ HB7.out (HB1.out.of hb)).mono ?_); rintro e w2 ⟨rfl, hn⟩; replace HB7 := Lib.hid (HB7.out.of hn)))
  try replace hb := hb.trans (hn.mono hb.size)
  refine hK.out _ _ (up_iff.2 hb) ?_
  clear hK K
  try clear hn
  iterate 6
    refine wpS_takeL rfl rfl ?_
    go_big_quiet_step (rfl)
    refine wpQuiet_nil ?_
  refine wpS_doL rfl ?_
  intro K hK
  go_wp2_with ((first | (go_at_call 25; (with_reducible refine (bigMul_v (.agg #[.bool bn4, .slice ba4 bl4 bc4]) (.agg #[.bool bn4, .slice ba4 bl4 bc4]) r r rr 18 18 HP17.out _ (HB4.out.of hb) (HB4.out.of hb) (by decide)).mono ?_); rintro e w2 ⟨v_, rfl, hbm, hn⟩; have HB7 := Lib.hid hbm; have hvm := hbm.shape; clear hbm; obtain ⟨bn7, ba7, bl7, bc7, rfl⟩ := hvm) | (go_at_call 25; (with_reducible refine (bigMul_v (.agg #[.bool bn6, .slice ba6 bl6 bc6]) (.agg #[.bool bn6, .slice ba6 bl6 bc6]) t t tt 19 19 HP20.out _ (HB6.out.of hb) (HB6.out.of hb) (by decide)).mono ?_); rintro e w2 ⟨v_, rfl, hbm, hn⟩; replace HB7 := Lib.hid (HB7.out.of hn); have HB8 := Lib.hid hbm; have hvm := hbm.shape; clear hbm; obtain ⟨bn8, ba8, bl8, bc8, rfl⟩ := hvm)))
  try replace hb := hb.trans (hn.mono hb.size)
  refine hK.out _ _ (up_iff.2 hb) ?_
  clear hK K
  try clear hn
  refine wpS_nil ?_
  simp only [List.drop_succ_cons, List.drop_zero]
  first | refine calls_w ?_ | refine name_world ?_ | refine list_world ?_ | refine post_world ?_
  intro U15 hU15
  first | (subst hU15; have u_ := U15; clear u_) | (rw [← hU15] at hb; clear hU15)
  clear c2_0 c2_1 l2 c5_0 c5_1 l5 c6_0 c6_1 l6
  have k1 := Kk1.out.of hb
  clear Kk1
  have k2 := Kk2.out.of hb
  clear Kk2
  have k5 := Kk5.out.of hb
  clear Kk5
  have k6 := Kk6.out.of hb
  clear Kk6
  replace HB1 := Lib.hid (HB1.out.of hb)
  replace HB4 := Lib.hid (HB4.out.of hb)
  replace HB6 := Lib.hid (HB6.out.of hb)
  replace hb0 := hb0.trans (hb.mono hb0.size)
  clear hb
  go_wp2_with fail
  refine (bigCmp_v (.agg #[.bool bn8, .slice ba8 bl8 bc8]) (.agg #[.bool bn1, .slice ba1 bl1 bc1]) tt a 38 18 c4 HP21.out _ HB8.out HB1.out).mono ?_
  rintro e U16 ⟨rfl, hn⟩
  clear HB4 HB6 HB7 HB8
  clear k5 k6
  replace k1 := k1.of hn
  replace k2 := k2.of hn
  replace HB1 := Lib.hid (HB1.out.of hn)
  replace hb0 := hb0.trans (hn.mono hb0.size)
  clear hn
  have c1_0 : U16.cell? ⟨w.heap.size, 0, none⟩ = some (.int .u64 (wd0 a)) := k1.cell 0
  have c1_1 : U16.cell? ⟨w.heap.size, 1, none⟩ = some (.int .u64 (wd1 a)) := k1.cell 1
  have c1_2 : U16.cell? ⟨w.heap.size, 2, none⟩ = some (.int .u64 (wd2 a)) := k1.cell 2
  have c1_3 : U16.cell? ⟨w.heap.size, 3, none⟩ = some (.int .u64 (wd3 a)) := k1.cell 3
  have l1 := k1.lt
  go_wp2_with fail
  clear c1_0 c1_1 c1_2 c1_3 l1
  refine (Power_v a n 0 false HP23.out HP24.out _ia _in _).mono ?_
  rintro e U17 ⟨rfl, hn⟩
  clear k1
  replace k2 := k2.of hn
  replace HB1 := Lib.hid (HB1.out.of hn)
  replace hb0 := hb0.trans (hn.mono hb0.size)
  clear hn
  go_wp2_with fail
  first | refine calls_w ?_ | refine name_world ?_ | refine list_world ?_ | refine post_world ?_
  intro V18 hV18
  have D19 := Lib.hid k2.lt
  have D20 := Lib.hid hb0.size
  have hn : Below U17.heap.size U17 V18 := by rw [hV18]; exact below_a1 _ _
  have nk2 := k2.of hn
  replace HB1 := Lib.hid (HB1.out.of hn)
  have nhb0 := hb0.trans (hn.mono hb0.size)
  clear hn
  have k7 : Blk V18 U17.heap.size #[.int .u64 (wd0 0), .int .u64 (wd1 0), .int .u64 (wd2 0), .int .u64 (wd3 0)] 24 := by rw [hV18]; exact (Blk.new _ _ _)
  clear k2
  clear hb0
  clear hV18
  have k2 := nk2
  clear nk2
  have hb0 := nhb0
  clear nhb0
  refine (wawake_any _ (hG.of hb0)).mono ?_
  rintro e U19 ⟨rfl, hn⟩
  replace k2 := k2.of hn
  replace k7 := k7.of hn
  replace HB1 := Lib.hid (HB1.out.of hn)
  replace hb0 := hb0.trans (hn.mono hb0.size)
  clear hn
  go_wp2
  first | go_ret | go_ret2
  exact ⟨by first | rfl | (simp; done) | (simp; assumption), hb0⟩

set_option maxRecDepth 100000 in
set_option maxHeartbeats 4000000 in

theorem WRo_21 (a : Int) (n : Int) (s : Int) (k : Int) (q : Int) (c1 : Int) (q2 : Int) (c2 : Int) (r : Int) (t : Int) (rs : Int) (rr : Int) (c3 : Int) (tt : Int) (c4 : Int)   (hP0 : a.sign = s) (hP1 : decide (s < 0) = false) (hP2 : btn a = k) (hP3 : decide (k < 0) = false) (hP4 : decide (256 < k) = false) (hP5 : 2 ^ k.toNat = q) (hP6 : cmpI a q = c1) (hP7 : decide (0 ≤ c1) = false) (hP8 : decide (0 < k) = true) (hP9 : 2 ^ (wrap64 (k - 1)).toNat = q2) (hP10 : cmpI a q2 = c2) (hP11 : decide (c2 < 0) = false) (hP12 : rtv a = r) (hP13 : rtk a = true) (hP14 : r + 1 = t) (hP15 : r.sign = rs) (hP16 : decide (rs < 0) = false) (hP17 : r * r = rr) (hP18 : cmpI rr a = c3) (hP19 : decide (0 < c3) = false) (hP20 : t * t = tt) (hP21 : cmpI tt a = c4) (hP22 : decide (c4 ≤ 0) = false) (hP23 : pwv a n = 0) (hP24 : pwk a n = false) (hP25 : decide (n < 0) = false) (hP26 : decide (256 < n) = true) (_ik : Hid (0 ≤ k ∧ k ≤ 256)) (_ir : InI r) (_ia : InI a) (_in : In64 n)  (w : World) (hG : Tab w) :
    Calls Tryd.prog 6 #[.agg #[.int .u64 (wd0 a), .int .u64 (wd1 a), .int .u64 (wd2 a), .int .u64 (wd3 a)], .int .i64 n] w fun e w' => e = .returned (.bool true) ∧ Below w.heap.size w w' := by

  have HP0 := Lib.hid hP0
  clear hP0
  have HP2 := Lib.hid hP2
  clear hP2
  have HP5 := Lib.hid hP5
  clear hP5
  have HP6 := Lib.hid hP6
  clear hP6
  have HP9 := Lib.hid hP9
  clear hP9
  have HP10 := Lib.hid hP10
  clear hP10
  have HP12 := Lib.hid hP12
  clear hP12
  have HP13 := Lib.hid hP13
  clear hP13
  have HP14 := Lib.hid hP14
  clear hP14
  have HP15 := Lib.hid hP15
  clear hP15
  have HP17 := Lib.hid hP17
  clear hP17
  have HP18 := Lib.hid hP18
  clear hP18
  have HP20 := Lib.hid hP20
  clear hP20
  have HP21 := Lib.hid hP21
  clear hP21
  have HP23 := Lib.hid hP23
  clear hP23
  have HP24 := Lib.hid hP24
  clear hP24
  go_enter Tryd.func6, Tryd.ntmps6
  go_wp2_with fail
  first | refine calls_w ?_ | refine name_world ?_ | refine list_world ?_ | refine post_world ?_
  intro V1 hV1
  have hn : Below w.heap.size w V1 := by rw [hV1]; exact below_a1 _ _
  have nhb0 := hn
  have k1 : Blk V1 w.heap.size #[.int .u64 (wd0 a), .int .u64 (wd1 a), .int .u64 (wd2 a), .int .u64 (wd3 a)] 24 := by rw [hV1]; exact (Blk.new _ _ _)
  clear hV1
  have hb0 := nhb0
  clear nhb0
  refine (Read_v a a rfl _ia _).mono ?_
  rintro e U2 ⟨v_, rfl, hbm, hn⟩
  replace k1 := k1.of hn
  replace hb0 := hb0.trans (hn.mono hb0.size)
  clear hn
  have HB1 := Lib.hid hbm
  have hvm := hbm.shape
  clear hbm
  obtain ⟨bn1, ba1, bl1, bc1, rfl⟩ := hvm
  go_wp2_with fail
  first | refine calls_w ?_ | refine name_world ?_ | refine list_world ?_ | refine post_world ?_
  intro V3 hV3
  have D1 := Lib.hid k1.lt
  have D2 := Lib.hid hb0.size
  have hn : Below U2.heap.size U2 V3 := by rw [hV3]; exact below_a2 _ _ _
  have nk1 := k1.of hn
  replace HB1 := Lib.hid (HB1.out.of hn)
  have nhb0 := hb0.trans (hn.mono hb0.size)
  clear hn
  have k2 : Blk V3 U2.heap.size #[.bool bn1, .slice ba1 bl1 bc1] 34 := by rw [hV3]; exact ((Blk.new _ _ _).alloc _)
  have k3 : Blk V3 (U2.heap.size + 1) #[.bool bn1, .slice ba1 bl1 bc1] 34 := by rw [hV3]; exact (Blk.new1 _ _ _ _)
  clear k1
  clear hb0
  clear hV3
  have k1 := nk1
  clear nk1
  have hb0 := nhb0
  clear nhb0
  refine (bigSign_v (.agg #[.bool bn1, .slice ba1 bl1 bc1]) a 18 s HP0.out _ HB1.out).mono ?_
  rintro e U4 ⟨rfl, hn⟩
  replace k1 := k1.of hn
  replace k2 := k2.of hn
  replace k3 := k3.of hn
  replace HB1 := Lib.hid (HB1.out.of hn)
  replace hb0 := hb0.trans (hn.mono hb0.size)
  clear hn
  have c1_0 : U4.cell? ⟨w.heap.size, 0, none⟩ = some (.int .u64 (wd0 a)) := k1.cell 0
  have c1_1 : U4.cell? ⟨w.heap.size, 1, none⟩ = some (.int .u64 (wd1 a)) := k1.cell 1
  have c1_2 : U4.cell? ⟨w.heap.size, 2, none⟩ = some (.int .u64 (wd2 a)) := k1.cell 2
  have c1_3 : U4.cell? ⟨w.heap.size, 3, none⟩ = some (.int .u64 (wd3 a)) := k1.cell 3
  have l1 := k1.lt
  go_wp2_with fail
  clear c1_0 c1_1 c1_2 c1_3 l1
  refine (Bits_v a k HP2.out _ia _).mono ?_
  rintro e U5 ⟨rfl, hn⟩
  replace k1 := k1.of hn
  replace k2 := k2.of hn
  replace k3 := k3.of hn
  replace HB1 := Lib.hid (HB1.out.of hn)
  replace hb0 := hb0.trans (hn.mono hb0.size)
  clear hn
  go_wp2_with fail
  have c3_0 : U5.cell? ⟨(U2.heap.size + 1), 0, none⟩ = some (.bool bn1) := k3.cell 0
  have c3_1 : U5.cell? ⟨(U2.heap.size + 1), 1, none⟩ = some (.slice ba1 bl1 bc1) := k3.cell 1
  have l3 := k3.lt
  have Kk1 := Lib.hid k1
  clear k1
  have Kk2 := Lib.hid k2
  clear k2
  have Kk3 := Lib.hid k3
  clear k3
  refine wp_region_up U5.heap.size 21 [(true, 0), (true, 1), (true, 2), (true, 3), (true, 4), (true, 5), (true, 6), (true, 7), (true, 8), (false, 9), (false, 10), (true, 11), (true, 12), (true, 13), (true, 14), (true, 15), (true, 16), (true, 17), (true, 18), (true, 19), (false, 20)] (by kernel_rfl) (by kernel_rfl) (fun _ _ d _ _ h => by cases d <;> exact h) ?_
  have hb : Below U5.heap.size U5 U5.drew := (Below.refl _ _).drew
  iterate 9
    refine wpS_takeL rfl rfl ?_
    go_big_quiet_step (rfl)
    refine wpQuiet_nil ?_
  refine wpS_doL rfl ?_
  intro K hK
  go_wp2_with ((first | (go_at_call 21; (with_reducible refine (powk_v k q _ik.out HP5.out _).mono ?_); rintro e w2 ⟨v_, rfl, hbm, hn⟩; have HB2 := Lib.hid hbm; have hvm := hbm.shape; clear hbm; obtain ⟨bn2, ba2, bl2, bc2, rfl⟩ := hvm) | (go_at_call 21; (with_reducible refine (powk_v (wrap64 (k - 1)) q2 (pw_in1 _ik.out (of_decide_eq_true hP8)) HP9.out _).mono ?_); rintro e w2 ⟨v_, rfl, hbm, hn⟩; replace HB2 := Lib.hid (HB2.out.of hn); have HB3 := Lib.hid hbm; have hvm := hbm.shape; clear hbm; obtain ⟨bn3, ba3, bl3, bc3, rfl⟩ := hvm)))
  try replace hb := hb.trans (hn.mono hb.size)
  refine hK.out _ _ (up_iff.2 hb) ?_
  clear hK K
  try clear hn
  refine wpS_doL rfl ?_
  intro K hK
  go_wp2_with ((go_at_call 20; (with_reducible refine (bigCmp_v (.agg #[.bool bn1, .slice ba1 bl1 bc1]) (.agg #[.bool bn2, .slice ba2 bl2 bc2]) a q 18 18 c1 HP6.out _ (HB1.out.of hb) HB2.out).mono ?_); rintro e w2 ⟨rfl, hn⟩; replace HB2 := Lib.hid (HB2.out.of hn)))
  try replace hb := hb.trans (hn.mono hb.size)
  refine hK.out _ _ (up_iff.2 hb) ?_
  clear hK K
  try clear hn
  iterate 9
    refine wpS_takeL rfl rfl ?_
    go_big_quiet_step (rfl)
    refine wpQuiet_nil ?_
  refine wpS_doL rfl ?_
  intro K hK
  go_wp2_with ((first | (go_at_call 21; (with_reducible refine (powk_v k q _ik.out HP5.out _).mono ?_); rintro e w2 ⟨v_, rfl, hbm, hn⟩; have HB2 := Lib.hid hbm; have hvm := hbm.shape; clear hbm; obtain ⟨bn2, ba2, bl2, bc2, rfl⟩ := hvm) | (go_at_call 21; (with_reducible refine (powk_v (wrap64 (k - 1)) q2 (pw_in1 _ik.out (of_decide_eq_true hP8)) HP9.out _).mono ?_); rintro e w2 ⟨v_, rfl, hbm, hn⟩; replace HB2 := Lib.hid (HB2.out.of hn); have HB3 := Lib.hid hbm; have hvm := hbm.shape; clear hbm; obtain ⟨bn3, ba3, bl3, bc3, rfl⟩ := hvm)))
  try replace hb := hb.trans (hn.mono hb.size)
  refine hK.out _ _ (up_iff.2 hb) ?_
  clear hK K
  try clear hn
  refine wpS_nil ?_
  simp only [List.drop_succ_cons, List.drop_zero]
  first | refine calls_w ?_ | refine name_world ?_ | refine list_world ?_ | refine post_world ?_
  intro U6 hU6
  first | (subst hU6; have u_ := U6; clear u_) | (rw [← hU6] at hb; clear hU6)
  clear c3_0 c3_1 l3
  have k1 := Kk1.out.of hb
  clear Kk1
  have k2 := Kk2.out.of hb
  clear Kk2
  have k3 := Kk3.out.of hb
  clear Kk3
  replace HB1 := Lib.hid (HB1.out.of hb)
  replace hb0 := hb0.trans (hb.mono hb0.size)
  clear hb
  go_wp2_with fail
  refine (bigCmp_v (.agg #[.bool bn1, .slice ba1 bl1 bc1]) (.agg #[.bool bn3, .slice ba3 bl3 bc3]) a q2 18 18 c2 HP10.out _ HB1.out HB3.out).mono ?_
  rintro e U7 ⟨rfl, hn⟩
  clear HB2 HB3
  clear k3
  replace k1 := k1.of hn
  replace k2 := k2.of hn
  replace HB1 := Lib.hid (HB1.out.of hn)
  replace hb0 := hb0.trans (hn.mono hb0.size)
  clear hn
  have c1_0 : U7.cell? ⟨w.heap.size, 0, none⟩ = some (.int .u64 (wd0 a)) := k1.cell 0
  have c1_1 : U7.cell? ⟨w.heap.size, 1, none⟩ = some (.int .u64 (wd1 a)) := k1.cell 1
  have c1_2 : U7.cell? ⟨w.heap.size, 2, none⟩ = some (.int .u64 (wd2 a)) := k1.cell 2
  have c1_3 : U7.cell? ⟨w.heap.size, 3, none⟩ = some (.int .u64 (wd3 a)) := k1.cell 3
  have l1 := k1.lt
  go_wp2_with fail
  clear c1_0 c1_1 c1_2 c1_3 l1
  refine (Root_v a r true HP12.out HP13.out _ia _).mono ?_
  rintro e U8 ⟨rfl, hn⟩
  replace k1 := k1.of hn
  replace k2 := k2.of hn
  replace HB1 := Lib.hid (HB1.out.of hn)
  replace hb0 := hb0.trans (hn.mono hb0.size)
  clear hn
  have c2_0 : U8.cell? ⟨U2.heap.size, 0, none⟩ = some (.bool bn1) := k2.cell 0
  have c2_1 : U8.cell? ⟨U2.heap.size, 1, none⟩ = some (.slice ba1 bl1 bc1) := k2.cell 1
  have l2 := k2.lt
  go_wp2_with fail
  clear c2_0 c2_1 l2
  first | refine calls_w ?_ | refine name_world ?_ | refine list_world ?_ | refine post_world ?_
  intro V9 hV9
  have D3 := Lib.hid k1.lt
  have D4 := Lib.hid k2.lt
  have D5 := Lib.hid hb0.size
  have hn : Below U8.heap.size U8 V9 := by rw [hV9]; exact below_a1 _ _
  have nk1 := k1.of hn
  have nk2 := k2.of hn
  replace HB1 := Lib.hid (HB1.out.of hn)
  have nhb0 := hb0.trans (hn.mono hb0.size)
  clear hn
  have k4 : Blk V9 U8.heap.size #[.int .u64 (wd0 r), .int .u64 (wd1 r), .int .u64 (wd2 r), .int .u64 (wd3 r)] 24 := by rw [hV9]; exact (Blk.new _ _ _)
  clear k1 k2
  clear hb0
  clear hV9
  have k1 := nk1
  clear nk1
  have k2 := nk2
  clear nk2
  have hb0 := nhb0
  clear nhb0
  refine (bigSign_v (.agg #[.bool bn1, .slice ba1 bl1 bc1]) a 18 s HP0.out _ HB1.out).mono ?_
  rintro e U10 ⟨rfl, hn⟩
  replace k1 := k1.of hn
  replace k2 := k2.of hn
  replace k4 := k4.of hn
  replace HB1 := Lib.hid (HB1.out.of hn)
  replace hb0 := hb0.trans (hn.mono hb0.size)
  clear hn
  have c4_0 : U10.cell? ⟨U8.heap.size, 0, none⟩ = some (.int .u64 (wd0 r)) := k4.cell 0
  have c4_1 : U10.cell? ⟨U8.heap.size, 1, none⟩ = some (.int .u64 (wd1 r)) := k4.cell 1
  have c4_2 : U10.cell? ⟨U8.heap.size, 2, none⟩ = some (.int .u64 (wd2 r)) := k4.cell 2
  have c4_3 : U10.cell? ⟨U8.heap.size, 3, none⟩ = some (.int .u64 (wd3 r)) := k4.cell 3
  have l4 := k4.lt
  go_wp2_with fail
  clear c4_0 c4_1 c4_2 c4_3 l4
  refine (Read_v r r rfl _ir _).mono ?_
  rintro e U11 ⟨v_, rfl, hbm, hn⟩
  clear k4
  replace k1 := k1.of hn
  replace k2 := k2.of hn
  replace HB1 := Lib.hid (HB1.out.of hn)
  replace hb0 := hb0.trans (hn.mono hb0.size)
  clear hn
  have HB4 := Lib.hid hbm
  have hvm := hbm.shape
  clear hbm
  obtain ⟨bn4, ba4, bl4, bc4, rfl⟩ := hvm
  go_wp2_with fail
  first | refine calls_w ?_ | refine name_world ?_ | refine list_world ?_ | refine post_world ?_
  intro V12 hV12
  have D6 := Lib.hid k1.lt
  have D7 := Lib.hid k2.lt
  have D8 := Lib.hid hb0.size
  have hn : Below U11.heap.size U11 V12 := by rw [hV12]; exact below_a1 _ _
  have nk1 := k1.of hn
  have nk2 := k2.of hn
  replace HB1 := Lib.hid (HB1.out.of hn)
  replace HB4 := Lib.hid (HB4.out.of hn)
  have nhb0 := hb0.trans (hn.mono hb0.size)
  clear hn
  have k5 : Blk V12 U11.heap.size #[.bool bn4, .slice ba4 bl4 bc4] 34 := by rw [hV12]; exact (Blk.new _ _ _)
  clear k1 k2
  clear hb0
  clear hV12
  have k1 := nk1
  clear nk1
  have k2 := nk2
  clear nk2
  have hb0 := nhb0
  clear nhb0
  have c5_0 : V12.cell? ⟨U11.heap.size, 0, none⟩ = some (.bool bn4) := k5.cell 0
  have c5_1 : V12.cell? ⟨U11.heap.size, 1, none⟩ = some (.slice ba4 bl4 bc4) := k5.cell 1
  have l5 := k5.lt
  have Kk1 := Lib.hid k1
  clear k1
  have Kk2 := Lib.hid k2
  clear k2
  have Kk5 := Lib.hid k5
  clear k5
  refine wp_region_float1 4 3 [(true, 0), (false, 1), (false, 2)] (by kernel_rfl) (by kernel_rfl) (fun _ _ d _ _ => by cases d <;> exact Iff.rfl) rfl rfl rfl alWrL1_0 ?_
  have hb : Below V12.heap.size V12 V12.drew := (Below.refl _ _).drew
  refine wpF_take rfl rfl ?_
  go_big_quiet_step (rfl)
  refine wpQuiet_nil ?_
  refine wpF_do rfl ?_
  intro w1 hg K hK
  replace hb := hb.trans (hg.mono hb.size)
  try replace HB5 := Lib.hid (HB5.out.of hg); try replace HB6 := Lib.hid (HB6.out.of hg)
  clear hg
  go_wp2_with ((go_at_call 24; (with_reducible refine (bigOf_v 1 1 rfl (by unfold In64; omega) _).mono ?_); rintro e w2 ⟨v_, rfl, hbm, hn⟩; have HB5 := Lib.hid hbm; have hvm := hbm.shape; clear hbm; obtain ⟨bn5, ba5, bl5, bc5, rfl⟩ := hvm))
  refine hK.out _ _ hn ?_
  replace hb := hb.trans (hn.mono hb.size)
  clear hK K
  clear hn
  refine wpF_do rfl ?_
  intro w1 hg K hK
  replace hb := hb.trans (hg.mono hb.size)
  try replace HB5 := Lib.hid (HB5.out.of hg); try replace HB6 := Lib.hid (HB6.out.of hg)
  clear hg
  go_wp2_with ((go_at_call 23; (with_reducible refine (bigAdd_v (.agg #[.bool bn4, .slice ba4 bl4 bc4]) (.agg #[.bool bn5, .slice ba5 bl5 bc5]) r 1 t 18 HP14.out _ (HB4.out.of hb) (HB5.out.mono (by decide)) (by decide)).mono ?_); rintro e w2 ⟨v_, rfl, hbm, hn⟩; replace HB5 := Lib.hid (HB5.out.of hn); have HB6 := Lib.hid hbm; have hvm := hbm.shape; clear hbm; obtain ⟨bn6, ba6, bl6, bc6, rfl⟩ := hvm))
  refine hK.out _ _ hn ?_
  replace hb := hb.trans (hn.mono hb.size)
  clear hK K
  clear hn
  refine wpF_nil ?_
  clear hb
  intro w1 hg hb b1 lb1 nb1
  replace HB5 := Lib.hid (HB5.out.of hg)
  replace HB6 := Lib.hid (HB6.out.of hg)
  clear hg
  simp only [Act.put, ptrTo, List.setIfInBounds_toArray, List.set_cons_succ, List.set_cons_zero]
  simp only [List.drop_succ_cons, List.drop_zero]
  clear c5_0 c5_1 l5
  first | refine calls_w ?_ | refine name_world ?_ | refine list_world ?_ | refine post_world ?_
  intro U13 hU13
  subst hU13
  have D9 := Lib.hid Kk1.out.lt
  have D10 := Lib.hid Kk2.out.lt
  have D11 := Lib.hid Kk5.out.lt
  have D12 := Lib.hid hb0.size
  have k6 : Blk U13 b1 #[.bool false, .slice none 0 0] 34 := nb1
  have k1 := Kk1.out.of hb
  clear Kk1
  have k2 := Kk2.out.of hb
  clear Kk2
  have k5 := Kk5.out.of hb
  clear Kk5
  have D13 := Lib.hid lb1
  clear nb1 lb1
  replace HB1 := Lib.hid (HB1.out.of hb)
  replace HB4 := Lib.hid (HB4.out.of hb)
  replace hb0 := hb0.trans (hb.mono hb0.size)
  clear hb
  generalize b1 = q6 at *
  have c6_0 : U13.cell? ⟨q6, 0, none⟩ = some (.bool false) := k6.cell 0
  have c6_1 : U13.cell? ⟨q6, 1, none⟩ = some (.slice none 0 0) := k6.cell 1
  have f6_0 := k6.free 0
  have f6_1 := k6.free 1
  have l6 := k6.lt
  go_wp2_with fail
  clear c6_0 c6_1 f6_0 f6_1 l6
  first | refine calls_w ?_ | refine name_world ?_ | refine list_world ?_ | refine post_world ?_
  intro V14 hV14
  clear HB5
  have D14 := Lib.hid k1.lt
  have D15 := Lib.hid k2.lt
  have D16 := Lib.hid k5.lt
  have D17 := Lib.hid k6.lt
  have D18 := Lib.hid hb0.size
  have nk1 : Blk V14 w.heap.size #[.int .u64 (wd0 a), .int .u64 (wd1 a), .int .u64 (wd2 a), .int .u64 (wd3 a)] 24 := by rw [hV14]; exact (blk_setL k1 (by have := D9.out; have := D13.out; omega) 0 [.bool bn6, .slice ba6 bl6 bc6])
  have nk2 : Blk V14 U2.heap.size #[.bool bn1, .slice ba1 bl1 bc1] 34 := by rw [hV14]; exact (blk_setL k2 (by have := D10.out; have := D13.out; omega) 0 [.bool bn6, .slice ba6 bl6 bc6])
  have nk5 : Blk V14 U11.heap.size #[.bool bn4, .slice ba4 bl4 bc4] 34 := by rw [hV14]; exact (blk_setL k5 (by have := D11.out; have := D13.out; omega) 0 [.bool bn6, .slice ba6 bl6 bc6])
  have nk6 : Blk V14 q6 #[.bool bn6, .slice ba6 bl6 bc6] 34 := by rw [hV14]; exact (blk_full _ [.bool bn6, .slice ba6 bl6 bc6] k6 rfl)
  have nhb0 : Below w.heap.size w V14 := by rw [hV14]; exact (blw_setL hb0 (by have := D12.out; have := D13.out; omega) 0 [.bool bn6, .slice ba6 bl6 bc6])
  replace HB1 : Hid (Big V14 (.agg #[.bool bn1, .slice ba1 bl1 bc1]) a 18) := Lib.hid (by rw [hV14]; exact (big_setL HB1.out (Blk.cell k6 0) (fun _ h => by cases h) 0 [.bool bn6, .slice ba6 bl6 bc6]))
  replace HB4 : Hid (Big V14 (.agg #[.bool bn4, .slice ba4 bl4 bc4]) r 18) := Lib.hid (by rw [hV14]; exact (big_setL HB4.out (Blk.cell k6 0) (fun _ h => by cases h) 0 [.bool bn6, .slice ba6 bl6 bc6]))
  replace HB6 : Hid (Big V14 (.agg #[.bool bn6, .slice ba6 bl6 bc6]) t 19) := Lib.hid (by rw [hV14]; exact (big_setL HB6.out (Blk.cell k6 0) (fun _ h => by cases h) 0 [.bool bn6, .slice ba6 bl6 bc6]))
  clear k1 k2 k5 k6
  clear hb0
  clear hV14
  have k1 := nk1
  clear nk1
  have k2 := nk2
  clear nk2
  have k5 := nk5
  clear nk5
  have k6 := nk6
  clear nk6
  have hb0 := nhb0
  clear nhb0
  have c2_0 : V14.cell? ⟨U2.heap.size, 0, none⟩ = some (.bool bn1) := k2.cell 0
  have c2_1 : V14.cell? ⟨U2.heap.size, 1, none⟩ = some (.slice ba1 bl1 bc1) := k2.cell 1
  have l2 := k2.lt
  have c5_0 : V14.cell? ⟨U11.heap.size, 0, none⟩ = some (.bool bn4) := k5.cell 0
  have c5_1 : V14.cell? ⟨U11.heap.size, 1, none⟩ = some (.slice ba4 bl4 bc4) := k5.cell 1
  have l5 := k5.lt
  have c6_0 : V14.cell? ⟨q6, 0, none⟩ = some (.bool bn6) := k6.cell 0
  have c6_1 : V14.cell? ⟨q6, 1, none⟩ = some (.slice ba6 bl6 bc6) := k6.cell 1
  have l6 := k6.lt
  have Kk1 := Lib.hid k1
  clear k1
  have Kk2 := Lib.hid k2
  clear k2
  have Kk5 := Lib.hid k5
  clear k5
  have Kk6 := Lib.hid k6
  clear k6
  refine wp_region_up V14.heap.size 20 [(true, 0), (true, 1), (true, 2), (true, 3), (false, 4), (true, 5), (true, 6), (true, 7), (true, 8), (true, 9), (true, 11), (false, 10), (false, 12), (true, 13), (true, 14), (true, 15), (true, 16), (true, 17), (true, 19), (false, 18)] (by kernel_rfl) (by kernel_rfl) (fun _ _ d _ _ h => by cases d <;> exact h) ?_
  have hb : Below V14.heap.size V14 V14.drew := (Below.refl _ _).drew
  iterate 4
    refine wpS_takeL rfl rfl ?_
    go_big_quiet_step (rfl)
    refine wpQuiet_nil ?_
  refine wpS_doL rfl ?_
  intro K hK
  go_wp2_with ((go_at_call 17; (with_reducible refine (bigSign_v (.agg #[.bool bn4, .slice ba4 bl4 bc4]) r 18 rs HP15.out _ (HB4.out.of hb)).mono ?_); rintro e w2 ⟨rfl, hn⟩))
  try replace hb := hb.trans (hn.mono hb.size)
  refine hK.out _ _ (up_iff.2 hb) ?_
  clear hK K
  try clear hn
  iterate 6
    refine wpS_takeL rfl rfl ?_
    go_big_quiet_step (rfl)
    refine wpQuiet_nil ?_
  refine wpS_doL rfl ?_
  intro K hK
  go_wp2_with ((first | (go_at_call 25; (with_reducible refine (bigMul_v (.agg #[.bool bn4, .slice ba4 bl4 bc4]) (.agg #[.bool bn4, .slice ba4 bl4 bc4]) r r rr 18 18 HP17.out _ (HB4.out.of hb) (HB4.out.of hb) (by decide)).mono ?_); rintro e w2 ⟨v_, rfl, hbm, hn⟩; have HB7 := Lib.hid hbm; have hvm := hbm.shape; clear hbm; obtain ⟨bn7, ba7, bl7, bc7, rfl⟩ := hvm) | (go_at_call 25; (with_reducible refine (bigMul_v (.agg #[.bool bn6, .slice ba6 bl6 bc6]) (.agg #[.bool bn6, .slice ba6 bl6 bc6]) t t tt 19 19 HP20.out _ (HB6.out.of hb) (HB6.out.of hb) (by decide)).mono ?_); rintro e w2 ⟨v_, rfl, hbm, hn⟩; replace HB7 := Lib.hid (HB7.out.of hn); have HB8 := Lib.hid hbm; have hvm := hbm.shape; clear hbm; obtain ⟨bn8, ba8, bl8, bc8, rfl⟩ := hvm)))
  try replace hb := hb.trans (hn.mono hb.size)
  refine hK.out _ _ (up_iff.2 hb) ?_
  clear hK K
  try clear hn
  refine wpS_doL rfl ?_
  intro K hK
  go_wp2_with ((go_at_call 20; (with_reducible refine (bigCmp_v (.agg #[.bool bn7, .slice ba7 bl7 bc7]) (.agg #[.bool bn1, .slice ba1 bl1 bc1]) rr a 36 18 c3 HP18.out _ HB7.out (HB1.out.of hb)).mono ?_); rintro e w2 ⟨rfl, hn⟩; replace HB7 := Lib.hid (HB7.out.of hn)))
  try replace hb := hb.trans (hn.mono hb.size)
  refine hK.out _ _ (up_iff.2 hb) ?_
  clear hK K
  try clear hn
  iterate 6
    refine wpS_takeL rfl rfl ?_
    go_big_quiet_step (rfl)
    refine wpQuiet_nil ?_
  refine wpS_doL rfl ?_
  intro K hK
  go_wp2_with ((first | (go_at_call 25; (with_reducible refine (bigMul_v (.agg #[.bool bn4, .slice ba4 bl4 bc4]) (.agg #[.bool bn4, .slice ba4 bl4 bc4]) r r rr 18 18 HP17.out _ (HB4.out.of hb) (HB4.out.of hb) (by decide)).mono ?_); rintro e w2 ⟨v_, rfl, hbm, hn⟩; have HB7 := Lib.hid hbm; have hvm := hbm.shape; clear hbm; obtain ⟨bn7, ba7, bl7, bc7, rfl⟩ := hvm) | (go_at_call 25; (with_reducible refine (bigMul_v (.agg #[.bool bn6, .slice ba6 bl6 bc6]) (.agg #[.bool bn6, .slice ba6 bl6 bc6]) t t tt 19 19 HP20.out _ (HB6.out.of hb) (HB6.out.of hb) (by decide)).mono ?_); rintro e w2 ⟨v_, rfl, hbm, hn⟩; replace HB7 := Lib.hid (HB7.out.of hn); have HB8 := Lib.hid hbm; have hvm := hbm.shape; clear hbm; obtain ⟨bn8, ba8, bl8, bc8, rfl⟩ := hvm)))
  try replace hb := hb.trans (hn.mono hb.size)
  refine hK.out _ _ (up_iff.2 hb) ?_
  clear hK K
  try clear hn
  refine wpS_nil ?_
  simp only [List.drop_succ_cons, List.drop_zero]
  first | refine calls_w ?_ | refine name_world ?_ | refine list_world ?_ | refine post_world ?_
  intro U15 hU15
  first | (subst hU15; have u_ := U15; clear u_) | (rw [← hU15] at hb; clear hU15)
  clear c2_0 c2_1 l2 c5_0 c5_1 l5 c6_0 c6_1 l6
  have k1 := Kk1.out.of hb
  clear Kk1
  have k2 := Kk2.out.of hb
  clear Kk2
  have k5 := Kk5.out.of hb
  clear Kk5
  have k6 := Kk6.out.of hb
  clear Kk6
  replace HB1 := Lib.hid (HB1.out.of hb)
  replace HB4 := Lib.hid (HB4.out.of hb)
  replace HB6 := Lib.hid (HB6.out.of hb)
  replace hb0 := hb0.trans (hb.mono hb0.size)
  clear hb
  go_wp2_with fail
  refine (bigCmp_v (.agg #[.bool bn8, .slice ba8 bl8 bc8]) (.agg #[.bool bn1, .slice ba1 bl1 bc1]) tt a 38 18 c4 HP21.out _ HB8.out HB1.out).mono ?_
  rintro e U16 ⟨rfl, hn⟩
  clear HB4 HB6 HB7 HB8
  clear k5 k6
  replace k1 := k1.of hn
  replace k2 := k2.of hn
  replace HB1 := Lib.hid (HB1.out.of hn)
  replace hb0 := hb0.trans (hn.mono hb0.size)
  clear hn
  have c1_0 : U16.cell? ⟨w.heap.size, 0, none⟩ = some (.int .u64 (wd0 a)) := k1.cell 0
  have c1_1 : U16.cell? ⟨w.heap.size, 1, none⟩ = some (.int .u64 (wd1 a)) := k1.cell 1
  have c1_2 : U16.cell? ⟨w.heap.size, 2, none⟩ = some (.int .u64 (wd2 a)) := k1.cell 2
  have c1_3 : U16.cell? ⟨w.heap.size, 3, none⟩ = some (.int .u64 (wd3 a)) := k1.cell 3
  have l1 := k1.lt
  go_wp2_with fail
  clear c1_0 c1_1 c1_2 c1_3 l1
  refine (Power_v a n 0 false HP23.out HP24.out _ia _in _).mono ?_
  rintro e U17 ⟨rfl, hn⟩
  clear k1
  replace k2 := k2.of hn
  replace HB1 := Lib.hid (HB1.out.of hn)
  replace hb0 := hb0.trans (hn.mono hb0.size)
  clear hn
  go_wp2_with fail
  first | refine calls_w ?_ | refine name_world ?_ | refine list_world ?_ | refine post_world ?_
  intro V18 hV18
  have D19 := Lib.hid k2.lt
  have D20 := Lib.hid hb0.size
  have hn : Below U17.heap.size U17 V18 := by rw [hV18]; exact below_a1 _ _
  have nk2 := k2.of hn
  replace HB1 := Lib.hid (HB1.out.of hn)
  have nhb0 := hb0.trans (hn.mono hb0.size)
  clear hn
  have k7 : Blk V18 U17.heap.size #[.int .u64 (wd0 0), .int .u64 (wd1 0), .int .u64 (wd2 0), .int .u64 (wd3 0)] 24 := by rw [hV18]; exact (Blk.new _ _ _)
  clear k2
  clear hb0
  clear hV18
  have k2 := nk2
  clear nk2
  have hb0 := nhb0
  clear nhb0
  refine (wawake_any _ (hG.of hb0)).mono ?_
  rintro e U19 ⟨rfl, hn⟩
  replace k2 := k2.of hn
  replace k7 := k7.of hn
  replace HB1 := Lib.hid (HB1.out.of hn)
  replace hb0 := hb0.trans (hn.mono hb0.size)
  clear hn
  go_wp2
  first | go_ret | go_ret2
  exact ⟨by first | rfl | (simp; done) | (simp; assumption), hb0⟩

set_option maxRecDepth 100000 in
set_option maxHeartbeats 4000000 in

theorem WRo_22 (a : Int) (n : Int) (s : Int) (k : Int) (q : Int) (c1 : Int) (q2 : Int) (c2 : Int) (r : Int) (t : Int) (rs : Int) (rr : Int) (c3 : Int) (tt : Int) (c4 : Int) (p : Int)   (hP0 : a.sign = s) (hP1 : decide (s < 0) = false) (hP2 : btn a = k) (hP3 : decide (k < 0) = false) (hP4 : decide (256 < k) = false) (hP5 : 2 ^ k.toNat = q) (hP6 : cmpI a q = c1) (hP7 : decide (0 ≤ c1) = false) (hP8 : decide (0 < k) = true) (hP9 : 2 ^ (wrap64 (k - 1)).toNat = q2) (hP10 : cmpI a q2 = c2) (hP11 : decide (c2 < 0) = false) (hP12 : rtv a = r) (hP13 : rtk a = true) (hP14 : r + 1 = t) (hP15 : r.sign = rs) (hP16 : decide (rs < 0) = false) (hP17 : r * r = rr) (hP18 : cmpI rr a = c3) (hP19 : decide (0 < c3) = false) (hP20 : t * t = tt) (hP21 : cmpI tt a = c4) (hP22 : decide (c4 ≤ 0) = false) (hP23 : pwv a n = p) (hP24 : pwk a n = true) (hP25 : decide (n < 0) = false) (hP26 : decide (256 < n) = false) (_ik : Hid (0 ≤ k ∧ k ≤ 256)) (_ir : InI r) (_ia : InI a) (_in : In64 n)  (w : World) (hG : Tab w) :
    Calls Tryd.prog 6 #[.agg #[.int .u64 (wd0 a), .int .u64 (wd1 a), .int .u64 (wd2 a), .int .u64 (wd3 a)], .int .i64 n] w fun e w' => e = .returned (.bool true) ∧ Below w.heap.size w w' := by

  have HP0 := Lib.hid hP0
  clear hP0
  have HP2 := Lib.hid hP2
  clear hP2
  have HP5 := Lib.hid hP5
  clear hP5
  have HP6 := Lib.hid hP6
  clear hP6
  have HP9 := Lib.hid hP9
  clear hP9
  have HP10 := Lib.hid hP10
  clear hP10
  have HP12 := Lib.hid hP12
  clear hP12
  have HP13 := Lib.hid hP13
  clear hP13
  have HP14 := Lib.hid hP14
  clear hP14
  have HP15 := Lib.hid hP15
  clear hP15
  have HP17 := Lib.hid hP17
  clear hP17
  have HP18 := Lib.hid hP18
  clear hP18
  have HP20 := Lib.hid hP20
  clear hP20
  have HP21 := Lib.hid hP21
  clear hP21
  have HP23 := Lib.hid hP23
  clear hP23
  have HP24 := Lib.hid hP24
  clear hP24
  go_enter Tryd.func6, Tryd.ntmps6
  go_wp2_with fail
  first | refine calls_w ?_ | refine name_world ?_ | refine list_world ?_ | refine post_world ?_
  intro V1 hV1
  have hn : Below w.heap.size w V1 := by rw [hV1]; exact below_a1 _ _
  have nhb0 := hn
  have k1 : Blk V1 w.heap.size #[.int .u64 (wd0 a), .int .u64 (wd1 a), .int .u64 (wd2 a), .int .u64 (wd3 a)] 24 := by rw [hV1]; exact (Blk.new _ _ _)
  clear hV1
  have hb0 := nhb0
  clear nhb0
  refine (Read_v a a rfl _ia _).mono ?_
  rintro e U2 ⟨v_, rfl, hbm, hn⟩
  replace k1 := k1.of hn
  replace hb0 := hb0.trans (hn.mono hb0.size)
  clear hn
  have HB1 := Lib.hid hbm
  have hvm := hbm.shape
  clear hbm
  obtain ⟨bn1, ba1, bl1, bc1, rfl⟩ := hvm
  go_wp2_with fail
  first | refine calls_w ?_ | refine name_world ?_ | refine list_world ?_ | refine post_world ?_
  intro V3 hV3
  have D1 := Lib.hid k1.lt
  have D2 := Lib.hid hb0.size
  have hn : Below U2.heap.size U2 V3 := by rw [hV3]; exact below_a2 _ _ _
  have nk1 := k1.of hn
  replace HB1 := Lib.hid (HB1.out.of hn)
  have nhb0 := hb0.trans (hn.mono hb0.size)
  clear hn
  have k2 : Blk V3 U2.heap.size #[.bool bn1, .slice ba1 bl1 bc1] 34 := by rw [hV3]; exact ((Blk.new _ _ _).alloc _)
  have k3 : Blk V3 (U2.heap.size + 1) #[.bool bn1, .slice ba1 bl1 bc1] 34 := by rw [hV3]; exact (Blk.new1 _ _ _ _)
  clear k1
  clear hb0
  clear hV3
  have k1 := nk1
  clear nk1
  have hb0 := nhb0
  clear nhb0
  refine (bigSign_v (.agg #[.bool bn1, .slice ba1 bl1 bc1]) a 18 s HP0.out _ HB1.out).mono ?_
  rintro e U4 ⟨rfl, hn⟩
  replace k1 := k1.of hn
  replace k2 := k2.of hn
  replace k3 := k3.of hn
  replace HB1 := Lib.hid (HB1.out.of hn)
  replace hb0 := hb0.trans (hn.mono hb0.size)
  clear hn
  have c1_0 : U4.cell? ⟨w.heap.size, 0, none⟩ = some (.int .u64 (wd0 a)) := k1.cell 0
  have c1_1 : U4.cell? ⟨w.heap.size, 1, none⟩ = some (.int .u64 (wd1 a)) := k1.cell 1
  have c1_2 : U4.cell? ⟨w.heap.size, 2, none⟩ = some (.int .u64 (wd2 a)) := k1.cell 2
  have c1_3 : U4.cell? ⟨w.heap.size, 3, none⟩ = some (.int .u64 (wd3 a)) := k1.cell 3
  have l1 := k1.lt
  go_wp2_with fail
  clear c1_0 c1_1 c1_2 c1_3 l1
  refine (Bits_v a k HP2.out _ia _).mono ?_
  rintro e U5 ⟨rfl, hn⟩
  replace k1 := k1.of hn
  replace k2 := k2.of hn
  replace k3 := k3.of hn
  replace HB1 := Lib.hid (HB1.out.of hn)
  replace hb0 := hb0.trans (hn.mono hb0.size)
  clear hn
  go_wp2_with fail
  have c3_0 : U5.cell? ⟨(U2.heap.size + 1), 0, none⟩ = some (.bool bn1) := k3.cell 0
  have c3_1 : U5.cell? ⟨(U2.heap.size + 1), 1, none⟩ = some (.slice ba1 bl1 bc1) := k3.cell 1
  have l3 := k3.lt
  have Kk1 := Lib.hid k1
  clear k1
  have Kk2 := Lib.hid k2
  clear k2
  have Kk3 := Lib.hid k3
  clear k3
  refine wp_region_up U5.heap.size 21 [(true, 0), (true, 1), (true, 2), (true, 3), (true, 4), (true, 5), (true, 6), (true, 7), (true, 8), (false, 9), (false, 10), (true, 11), (true, 12), (true, 13), (true, 14), (true, 15), (true, 16), (true, 17), (true, 18), (true, 19), (false, 20)] (by kernel_rfl) (by kernel_rfl) (fun _ _ d _ _ h => by cases d <;> exact h) ?_
  have hb : Below U5.heap.size U5 U5.drew := (Below.refl _ _).drew
  iterate 9
    refine wpS_takeL rfl rfl ?_
    go_big_quiet_step (rfl)
    refine wpQuiet_nil ?_
  refine wpS_doL rfl ?_
  intro K hK
  go_wp2_with ((first | (go_at_call 21; (with_reducible refine (powk_v k q _ik.out HP5.out _).mono ?_); rintro e w2 ⟨v_, rfl, hbm, hn⟩; have HB2 := Lib.hid hbm; have hvm := hbm.shape; clear hbm; obtain ⟨bn2, ba2, bl2, bc2, rfl⟩ := hvm) | (go_at_call 21; (with_reducible refine (powk_v (wrap64 (k - 1)) q2 (pw_in1 _ik.out (of_decide_eq_true hP8)) HP9.out _).mono ?_); rintro e w2 ⟨v_, rfl, hbm, hn⟩; replace HB2 := Lib.hid (HB2.out.of hn); have HB3 := Lib.hid hbm; have hvm := hbm.shape; clear hbm; obtain ⟨bn3, ba3, bl3, bc3, rfl⟩ := hvm)))
  try replace hb := hb.trans (hn.mono hb.size)
  refine hK.out _ _ (up_iff.2 hb) ?_
  clear hK K
  try clear hn
  refine wpS_doL rfl ?_
  intro K hK
  go_wp2_with ((go_at_call 20; (with_reducible refine (bigCmp_v (.agg #[.bool bn1, .slice ba1 bl1 bc1]) (.agg #[.bool bn2, .slice ba2 bl2 bc2]) a q 18 18 c1 HP6.out _ (HB1.out.of hb) HB2.out).mono ?_); rintro e w2 ⟨rfl, hn⟩; replace HB2 := Lib.hid (HB2.out.of hn)))
  try replace hb := hb.trans (hn.mono hb.size)
  refine hK.out _ _ (up_iff.2 hb) ?_
  clear hK K
  try clear hn
  iterate 9
    refine wpS_takeL rfl rfl ?_
    go_big_quiet_step (rfl)
    refine wpQuiet_nil ?_
  refine wpS_doL rfl ?_
  intro K hK
  go_wp2_with ((first | (go_at_call 21; (with_reducible refine (powk_v k q _ik.out HP5.out _).mono ?_); rintro e w2 ⟨v_, rfl, hbm, hn⟩; have HB2 := Lib.hid hbm; have hvm := hbm.shape; clear hbm; obtain ⟨bn2, ba2, bl2, bc2, rfl⟩ := hvm) | (go_at_call 21; (with_reducible refine (powk_v (wrap64 (k - 1)) q2 (pw_in1 _ik.out (of_decide_eq_true hP8)) HP9.out _).mono ?_); rintro e w2 ⟨v_, rfl, hbm, hn⟩; replace HB2 := Lib.hid (HB2.out.of hn); have HB3 := Lib.hid hbm; have hvm := hbm.shape; clear hbm; obtain ⟨bn3, ba3, bl3, bc3, rfl⟩ := hvm)))
  try replace hb := hb.trans (hn.mono hb.size)
  refine hK.out _ _ (up_iff.2 hb) ?_
  clear hK K
  try clear hn
  refine wpS_nil ?_
  simp only [List.drop_succ_cons, List.drop_zero]
  first | refine calls_w ?_ | refine name_world ?_ | refine list_world ?_ | refine post_world ?_
  intro U6 hU6
  first | (subst hU6; have u_ := U6; clear u_) | (rw [← hU6] at hb; clear hU6)
  clear c3_0 c3_1 l3
  have k1 := Kk1.out.of hb
  clear Kk1
  have k2 := Kk2.out.of hb
  clear Kk2
  have k3 := Kk3.out.of hb
  clear Kk3
  replace HB1 := Lib.hid (HB1.out.of hb)
  replace hb0 := hb0.trans (hb.mono hb0.size)
  clear hb
  go_wp2_with fail
  refine (bigCmp_v (.agg #[.bool bn1, .slice ba1 bl1 bc1]) (.agg #[.bool bn3, .slice ba3 bl3 bc3]) a q2 18 18 c2 HP10.out _ HB1.out HB3.out).mono ?_
  rintro e U7 ⟨rfl, hn⟩
  clear HB2 HB3
  clear k3
  replace k1 := k1.of hn
  replace k2 := k2.of hn
  replace HB1 := Lib.hid (HB1.out.of hn)
  replace hb0 := hb0.trans (hn.mono hb0.size)
  clear hn
  have c1_0 : U7.cell? ⟨w.heap.size, 0, none⟩ = some (.int .u64 (wd0 a)) := k1.cell 0
  have c1_1 : U7.cell? ⟨w.heap.size, 1, none⟩ = some (.int .u64 (wd1 a)) := k1.cell 1
  have c1_2 : U7.cell? ⟨w.heap.size, 2, none⟩ = some (.int .u64 (wd2 a)) := k1.cell 2
  have c1_3 : U7.cell? ⟨w.heap.size, 3, none⟩ = some (.int .u64 (wd3 a)) := k1.cell 3
  have l1 := k1.lt
  go_wp2_with fail
  clear c1_0 c1_1 c1_2 c1_3 l1
  refine (Root_v a r true HP12.out HP13.out _ia _).mono ?_
  rintro e U8 ⟨rfl, hn⟩
  replace k1 := k1.of hn
  replace k2 := k2.of hn
  replace HB1 := Lib.hid (HB1.out.of hn)
  replace hb0 := hb0.trans (hn.mono hb0.size)
  clear hn
  have c2_0 : U8.cell? ⟨U2.heap.size, 0, none⟩ = some (.bool bn1) := k2.cell 0
  have c2_1 : U8.cell? ⟨U2.heap.size, 1, none⟩ = some (.slice ba1 bl1 bc1) := k2.cell 1
  have l2 := k2.lt
  go_wp2_with fail
  clear c2_0 c2_1 l2
  first | refine calls_w ?_ | refine name_world ?_ | refine list_world ?_ | refine post_world ?_
  intro V9 hV9
  have D3 := Lib.hid k1.lt
  have D4 := Lib.hid k2.lt
  have D5 := Lib.hid hb0.size
  have hn : Below U8.heap.size U8 V9 := by rw [hV9]; exact below_a1 _ _
  have nk1 := k1.of hn
  have nk2 := k2.of hn
  replace HB1 := Lib.hid (HB1.out.of hn)
  have nhb0 := hb0.trans (hn.mono hb0.size)
  clear hn
  have k4 : Blk V9 U8.heap.size #[.int .u64 (wd0 r), .int .u64 (wd1 r), .int .u64 (wd2 r), .int .u64 (wd3 r)] 24 := by rw [hV9]; exact (Blk.new _ _ _)
  clear k1 k2
  clear hb0
  clear hV9
  have k1 := nk1
  clear nk1
  have k2 := nk2
  clear nk2
  have hb0 := nhb0
  clear nhb0
  refine (bigSign_v (.agg #[.bool bn1, .slice ba1 bl1 bc1]) a 18 s HP0.out _ HB1.out).mono ?_
  rintro e U10 ⟨rfl, hn⟩
  replace k1 := k1.of hn
  replace k2 := k2.of hn
  replace k4 := k4.of hn
  replace HB1 := Lib.hid (HB1.out.of hn)
  replace hb0 := hb0.trans (hn.mono hb0.size)
  clear hn
  have c4_0 : U10.cell? ⟨U8.heap.size, 0, none⟩ = some (.int .u64 (wd0 r)) := k4.cell 0
  have c4_1 : U10.cell? ⟨U8.heap.size, 1, none⟩ = some (.int .u64 (wd1 r)) := k4.cell 1
  have c4_2 : U10.cell? ⟨U8.heap.size, 2, none⟩ = some (.int .u64 (wd2 r)) := k4.cell 2
  have c4_3 : U10.cell? ⟨U8.heap.size, 3, none⟩ = some (.int .u64 (wd3 r)) := k4.cell 3
  have l4 := k4.lt
  go_wp2_with fail
  clear c4_0 c4_1 c4_2 c4_3 l4
  refine (Read_v r r rfl _ir _).mono ?_
  rintro e U11 ⟨v_, rfl, hbm, hn⟩
  clear k4
  replace k1 := k1.of hn
  replace k2 := k2.of hn
  replace HB1 := Lib.hid (HB1.out.of hn)
  replace hb0 := hb0.trans (hn.mono hb0.size)
  clear hn
  have HB4 := Lib.hid hbm
  have hvm := hbm.shape
  clear hbm
  obtain ⟨bn4, ba4, bl4, bc4, rfl⟩ := hvm
  go_wp2_with fail
  first | refine calls_w ?_ | refine name_world ?_ | refine list_world ?_ | refine post_world ?_
  intro V12 hV12
  have D6 := Lib.hid k1.lt
  have D7 := Lib.hid k2.lt
  have D8 := Lib.hid hb0.size
  have hn : Below U11.heap.size U11 V12 := by rw [hV12]; exact below_a1 _ _
  have nk1 := k1.of hn
  have nk2 := k2.of hn
  replace HB1 := Lib.hid (HB1.out.of hn)
  replace HB4 := Lib.hid (HB4.out.of hn)
  have nhb0 := hb0.trans (hn.mono hb0.size)
  clear hn
  have k5 : Blk V12 U11.heap.size #[.bool bn4, .slice ba4 bl4 bc4] 34 := by rw [hV12]; exact (Blk.new _ _ _)
  clear k1 k2
  clear hb0
  clear hV12
  have k1 := nk1
  clear nk1
  have k2 := nk2
  clear nk2
  have hb0 := nhb0
  clear nhb0
  have c5_0 : V12.cell? ⟨U11.heap.size, 0, none⟩ = some (.bool bn4) := k5.cell 0
  have c5_1 : V12.cell? ⟨U11.heap.size, 1, none⟩ = some (.slice ba4 bl4 bc4) := k5.cell 1
  have l5 := k5.lt
  have Kk1 := Lib.hid k1
  clear k1
  have Kk2 := Lib.hid k2
  clear k2
  have Kk5 := Lib.hid k5
  clear k5
  refine wp_region_float1 4 3 [(true, 0), (false, 1), (false, 2)] (by kernel_rfl) (by kernel_rfl) (fun _ _ d _ _ => by cases d <;> exact Iff.rfl) rfl rfl rfl alWrL1_0 ?_
  have hb : Below V12.heap.size V12 V12.drew := (Below.refl _ _).drew
  refine wpF_take rfl rfl ?_
  go_big_quiet_step (rfl)
  refine wpQuiet_nil ?_
  refine wpF_do rfl ?_
  intro w1 hg K hK
  replace hb := hb.trans (hg.mono hb.size)
  try replace HB5 := Lib.hid (HB5.out.of hg); try replace HB6 := Lib.hid (HB6.out.of hg)
  clear hg
  go_wp2_with ((go_at_call 24; (with_reducible refine (bigOf_v 1 1 rfl (by unfold In64; omega) _).mono ?_); rintro e w2 ⟨v_, rfl, hbm, hn⟩; have HB5 := Lib.hid hbm; have hvm := hbm.shape; clear hbm; obtain ⟨bn5, ba5, bl5, bc5, rfl⟩ := hvm))
  refine hK.out _ _ hn ?_
  replace hb := hb.trans (hn.mono hb.size)
  clear hK K
  clear hn
  refine wpF_do rfl ?_
  intro w1 hg K hK
  replace hb := hb.trans (hg.mono hb.size)
  try replace HB5 := Lib.hid (HB5.out.of hg); try replace HB6 := Lib.hid (HB6.out.of hg)
  clear hg
  go_wp2_with ((go_at_call 23; (with_reducible refine (bigAdd_v (.agg #[.bool bn4, .slice ba4 bl4 bc4]) (.agg #[.bool bn5, .slice ba5 bl5 bc5]) r 1 t 18 HP14.out _ (HB4.out.of hb) (HB5.out.mono (by decide)) (by decide)).mono ?_); rintro e w2 ⟨v_, rfl, hbm, hn⟩; replace HB5 := Lib.hid (HB5.out.of hn); have HB6 := Lib.hid hbm; have hvm := hbm.shape; clear hbm; obtain ⟨bn6, ba6, bl6, bc6, rfl⟩ := hvm))
  refine hK.out _ _ hn ?_
  replace hb := hb.trans (hn.mono hb.size)
  clear hK K
  clear hn
  refine wpF_nil ?_
  clear hb
  intro w1 hg hb b1 lb1 nb1
  replace HB5 := Lib.hid (HB5.out.of hg)
  replace HB6 := Lib.hid (HB6.out.of hg)
  clear hg
  simp only [Act.put, ptrTo, List.setIfInBounds_toArray, List.set_cons_succ, List.set_cons_zero]
  simp only [List.drop_succ_cons, List.drop_zero]
  clear c5_0 c5_1 l5
  first | refine calls_w ?_ | refine name_world ?_ | refine list_world ?_ | refine post_world ?_
  intro U13 hU13
  subst hU13
  have D9 := Lib.hid Kk1.out.lt
  have D10 := Lib.hid Kk2.out.lt
  have D11 := Lib.hid Kk5.out.lt
  have D12 := Lib.hid hb0.size
  have k6 : Blk U13 b1 #[.bool false, .slice none 0 0] 34 := nb1
  have k1 := Kk1.out.of hb
  clear Kk1
  have k2 := Kk2.out.of hb
  clear Kk2
  have k5 := Kk5.out.of hb
  clear Kk5
  have D13 := Lib.hid lb1
  clear nb1 lb1
  replace HB1 := Lib.hid (HB1.out.of hb)
  replace HB4 := Lib.hid (HB4.out.of hb)
  replace hb0 := hb0.trans (hb.mono hb0.size)
  clear hb
  generalize b1 = q6 at *
  have c6_0 : U13.cell? ⟨q6, 0, none⟩ = some (.bool false) := k6.cell 0
  have c6_1 : U13.cell? ⟨q6, 1, none⟩ = some (.slice none 0 0) := k6.cell 1
  have f6_0 := k6.free 0
  have f6_1 := k6.free 1
  have l6 := k6.lt
  go_wp2_with fail
  clear c6_0 c6_1 f6_0 f6_1 l6
  first | refine calls_w ?_ | refine name_world ?_ | refine list_world ?_ | refine post_world ?_
  intro V14 hV14
  clear HB5
  have D14 := Lib.hid k1.lt
  have D15 := Lib.hid k2.lt
  have D16 := Lib.hid k5.lt
  have D17 := Lib.hid k6.lt
  have D18 := Lib.hid hb0.size
  have nk1 : Blk V14 w.heap.size #[.int .u64 (wd0 a), .int .u64 (wd1 a), .int .u64 (wd2 a), .int .u64 (wd3 a)] 24 := by rw [hV14]; exact (blk_setL k1 (by have := D9.out; have := D13.out; omega) 0 [.bool bn6, .slice ba6 bl6 bc6])
  have nk2 : Blk V14 U2.heap.size #[.bool bn1, .slice ba1 bl1 bc1] 34 := by rw [hV14]; exact (blk_setL k2 (by have := D10.out; have := D13.out; omega) 0 [.bool bn6, .slice ba6 bl6 bc6])
  have nk5 : Blk V14 U11.heap.size #[.bool bn4, .slice ba4 bl4 bc4] 34 := by rw [hV14]; exact (blk_setL k5 (by have := D11.out; have := D13.out; omega) 0 [.bool bn6, .slice ba6 bl6 bc6])
  have nk6 : Blk V14 q6 #[.bool bn6, .slice ba6 bl6 bc6] 34 := by rw [hV14]; exact (blk_full _ [.bool bn6, .slice ba6 bl6 bc6] k6 rfl)
  have nhb0 : Below w.heap.size w V14 := by rw [hV14]; exact (blw_setL hb0 (by have := D12.out; have := D13.out; omega) 0 [.bool bn6, .slice ba6 bl6 bc6])
  replace HB1 : Hid (Big V14 (.agg #[.bool bn1, .slice ba1 bl1 bc1]) a 18) := Lib.hid (by rw [hV14]; exact (big_setL HB1.out (Blk.cell k6 0) (fun _ h => by cases h) 0 [.bool bn6, .slice ba6 bl6 bc6]))
  replace HB4 : Hid (Big V14 (.agg #[.bool bn4, .slice ba4 bl4 bc4]) r 18) := Lib.hid (by rw [hV14]; exact (big_setL HB4.out (Blk.cell k6 0) (fun _ h => by cases h) 0 [.bool bn6, .slice ba6 bl6 bc6]))
  replace HB6 : Hid (Big V14 (.agg #[.bool bn6, .slice ba6 bl6 bc6]) t 19) := Lib.hid (by rw [hV14]; exact (big_setL HB6.out (Blk.cell k6 0) (fun _ h => by cases h) 0 [.bool bn6, .slice ba6 bl6 bc6]))
  clear k1 k2 k5 k6
  clear hb0
  clear hV14
  have k1 := nk1
  clear nk1
  have k2 := nk2
  clear nk2
  have k5 := nk5
  clear nk5
  have k6 := nk6
  clear nk6
  have hb0 := nhb0
  clear nhb0
  have c2_0 : V14.cell? ⟨U2.heap.size, 0, none⟩ = some (.bool bn1) := k2.cell 0
  have c2_1 : V14.cell? ⟨U2.heap.size, 1, none⟩ = some (.slice ba1 bl1 bc1) := k2.cell 1
  have l2 := k2.lt
  have c5_0 : V14.cell? ⟨U11.heap.size, 0, none⟩ = some (.bool bn4) := k5.cell 0
  have c5_1 : V14.cell? ⟨U11.heap.size, 1, none⟩ = some (.slice ba4 bl4 bc4) := k5.cell 1
  have l5 := k5.lt
  have c6_0 : V14.cell? ⟨q6, 0, none⟩ = some (.bool bn6) := k6.cell 0
  have c6_1 : V14.cell? ⟨q6, 1, none⟩ = some (.slice ba6 bl6 bc6) := k6.cell 1
  have l6 := k6.lt
  have Kk1 := Lib.hid k1
  clear k1
  have Kk2 := Lib.hid k2
  clear k2
  have Kk5 := Lib.hid k5
  clear k5
  have Kk6 := Lib.hid k6
  clear k6
  refine wp_region_up V14.heap.size 20 [(true, 0), (true, 1), (true, 2), (true, 3), (false, 4), (true, 5), (true, 6), (true, 7), (true, 8), (true, 9), (true, 11), (false, 10), (false, 12), (true, 13), (true, 14), (true, 15), (true, 16), (true, 17), (true, 19), (false, 18)] (by kernel_rfl) (by kernel_rfl) (fun _ _ d _ _ h => by cases d <;> exact h) ?_
  have hb : Below V14.heap.size V14 V14.drew := (Below.refl _ _).drew
  iterate 4
    refine wpS_takeL rfl rfl ?_
    go_big_quiet_step (rfl)
    refine wpQuiet_nil ?_
  refine wpS_doL rfl ?_
  intro K hK
  go_wp2_with ((go_at_call 17; (with_reducible refine (bigSign_v (.agg #[.bool bn4, .slice ba4 bl4 bc4]) r 18 rs HP15.out _ (HB4.out.of hb)).mono ?_); rintro e w2 ⟨rfl, hn⟩))
  try replace hb := hb.trans (hn.mono hb.size)
  refine hK.out _ _ (up_iff.2 hb) ?_
  clear hK K
  try clear hn
  iterate 6
    refine wpS_takeL rfl rfl ?_
    go_big_quiet_step (rfl)
    refine wpQuiet_nil ?_
  refine wpS_doL rfl ?_
  intro K hK
  go_wp2_with ((first | (go_at_call 25; (with_reducible refine (bigMul_v (.agg #[.bool bn4, .slice ba4 bl4 bc4]) (.agg #[.bool bn4, .slice ba4 bl4 bc4]) r r rr 18 18 HP17.out _ (HB4.out.of hb) (HB4.out.of hb) (by decide)).mono ?_); rintro e w2 ⟨v_, rfl, hbm, hn⟩; have HB7 := Lib.hid hbm; have hvm := hbm.shape; clear hbm; obtain ⟨bn7, ba7, bl7, bc7, rfl⟩ := hvm) | (go_at_call 25; (with_reducible refine (bigMul_v (.agg #[.bool bn6, .slice ba6 bl6 bc6]) (.agg #[.bool bn6, .slice ba6 bl6 bc6]) t t tt 19 19 HP20.out _ (HB6.out.of hb) (HB6.out.of hb) (by decide)).mono ?_); rintro e w2 ⟨v_, rfl, hbm, hn⟩; replace HB7 := Lib.hid (HB7.out.of hn); have HB8 := Lib.hid hbm; have hvm := hbm.shape; clear hbm; obtain ⟨bn8, ba8, bl8, bc8, rfl⟩ := hvm)))
  try replace hb := hb.trans (hn.mono hb.size)
  refine hK.out _ _ (up_iff.2 hb) ?_
  clear hK K
  try clear hn
  refine wpS_doL rfl ?_
  intro K hK
  go_wp2_with ((go_at_call 20; (with_reducible refine (bigCmp_v (.agg #[.bool bn7, .slice ba7 bl7 bc7]) (.agg #[.bool bn1, .slice ba1 bl1 bc1]) rr a 36 18 c3 HP18.out _ HB7.out (HB1.out.of hb)).mono ?_); rintro e w2 ⟨rfl, hn⟩; replace HB7 := Lib.hid (HB7.out.of hn)))
  try replace hb := hb.trans (hn.mono hb.size)
  refine hK.out _ _ (up_iff.2 hb) ?_
  clear hK K
  try clear hn
  iterate 6
    refine wpS_takeL rfl rfl ?_
    go_big_quiet_step (rfl)
    refine wpQuiet_nil ?_
  refine wpS_doL rfl ?_
  intro K hK
  go_wp2_with ((first | (go_at_call 25; (with_reducible refine (bigMul_v (.agg #[.bool bn4, .slice ba4 bl4 bc4]) (.agg #[.bool bn4, .slice ba4 bl4 bc4]) r r rr 18 18 HP17.out _ (HB4.out.of hb) (HB4.out.of hb) (by decide)).mono ?_); rintro e w2 ⟨v_, rfl, hbm, hn⟩; have HB7 := Lib.hid hbm; have hvm := hbm.shape; clear hbm; obtain ⟨bn7, ba7, bl7, bc7, rfl⟩ := hvm) | (go_at_call 25; (with_reducible refine (bigMul_v (.agg #[.bool bn6, .slice ba6 bl6 bc6]) (.agg #[.bool bn6, .slice ba6 bl6 bc6]) t t tt 19 19 HP20.out _ (HB6.out.of hb) (HB6.out.of hb) (by decide)).mono ?_); rintro e w2 ⟨v_, rfl, hbm, hn⟩; replace HB7 := Lib.hid (HB7.out.of hn); have HB8 := Lib.hid hbm; have hvm := hbm.shape; clear hbm; obtain ⟨bn8, ba8, bl8, bc8, rfl⟩ := hvm)))
  try replace hb := hb.trans (hn.mono hb.size)
  refine hK.out _ _ (up_iff.2 hb) ?_
  clear hK K
  try clear hn
  refine wpS_nil ?_
  simp only [List.drop_succ_cons, List.drop_zero]
  first | refine calls_w ?_ | refine name_world ?_ | refine list_world ?_ | refine post_world ?_
  intro U15 hU15
  first | (subst hU15; have u_ := U15; clear u_) | (rw [← hU15] at hb; clear hU15)
  clear c2_0 c2_1 l2 c5_0 c5_1 l5 c6_0 c6_1 l6
  have k1 := Kk1.out.of hb
  clear Kk1
  have k2 := Kk2.out.of hb
  clear Kk2
  have k5 := Kk5.out.of hb
  clear Kk5
  have k6 := Kk6.out.of hb
  clear Kk6
  replace HB1 := Lib.hid (HB1.out.of hb)
  replace HB4 := Lib.hid (HB4.out.of hb)
  replace HB6 := Lib.hid (HB6.out.of hb)
  replace hb0 := hb0.trans (hb.mono hb0.size)
  clear hb
  go_wp2_with fail
  refine (bigCmp_v (.agg #[.bool bn8, .slice ba8 bl8 bc8]) (.agg #[.bool bn1, .slice ba1 bl1 bc1]) tt a 38 18 c4 HP21.out _ HB8.out HB1.out).mono ?_
  rintro e U16 ⟨rfl, hn⟩
  clear HB4 HB6 HB7 HB8
  clear k5 k6
  replace k1 := k1.of hn
  replace k2 := k2.of hn
  replace HB1 := Lib.hid (HB1.out.of hn)
  replace hb0 := hb0.trans (hn.mono hb0.size)
  clear hn
  have c1_0 : U16.cell? ⟨w.heap.size, 0, none⟩ = some (.int .u64 (wd0 a)) := k1.cell 0
  have c1_1 : U16.cell? ⟨w.heap.size, 1, none⟩ = some (.int .u64 (wd1 a)) := k1.cell 1
  have c1_2 : U16.cell? ⟨w.heap.size, 2, none⟩ = some (.int .u64 (wd2 a)) := k1.cell 2
  have c1_3 : U16.cell? ⟨w.heap.size, 3, none⟩ = some (.int .u64 (wd3 a)) := k1.cell 3
  have l1 := k1.lt
  go_wp2_with fail
  clear c1_0 c1_1 c1_2 c1_3 l1
  refine (Power_v a n p true HP23.out HP24.out _ia _in _).mono ?_
  rintro e U17 ⟨rfl, hn⟩
  clear k1
  replace k2 := k2.of hn
  replace HB1 := Lib.hid (HB1.out.of hn)
  replace hb0 := hb0.trans (hn.mono hb0.size)
  clear hn
  go_wp2_with fail
  first | refine calls_w ?_ | refine name_world ?_ | refine list_world ?_ | refine post_world ?_
  intro V18 hV18
  have D19 := Lib.hid k2.lt
  have D20 := Lib.hid hb0.size
  have hn : Below U17.heap.size U17 V18 := by rw [hV18]; exact below_a1 _ _
  have nk2 := k2.of hn
  replace HB1 := Lib.hid (HB1.out.of hn)
  have nhb0 := hb0.trans (hn.mono hb0.size)
  clear hn
  have k7 : Blk V18 U17.heap.size #[.int .u64 (wd0 p), .int .u64 (wd1 p), .int .u64 (wd2 p), .int .u64 (wd3 p)] 24 := by rw [hV18]; exact (Blk.new _ _ _)
  clear k2
  clear hb0
  clear hV18
  have k2 := nk2
  clear nk2
  have hb0 := nhb0
  clear nhb0
  refine (bigOf_v 1 1 rfl (by unfold In64; omega) _).mono ?_
  rintro e U19 ⟨v_, rfl, hbm, hn⟩
  replace k2 := k2.of hn
  replace k7 := k7.of hn
  replace HB1 := Lib.hid (HB1.out.of hn)
  replace hb0 := hb0.trans (hn.mono hb0.size)
  clear hn
  have HB9 := Lib.hid hbm
  have hvm := hbm.shape
  clear hbm
  obtain ⟨bn9, ba9, bl9, bc9, rfl⟩ := hvm
  go_wp2_with fail
  first | refine name_world ?_
  intro V20 hV20
  have D21 := Lib.hid k2.lt
  have D22 := Lib.hid k7.lt
  have D23 := Lib.hid hb0.size
  have hn : Below U19.heap.size U19 V20 := by rw [hV20]; exact below_a1 _ _
  have nk2 := k2.of hn
  have nk7 := k7.of hn
  replace HB1 := Lib.hid (HB1.out.of hn)
  replace HB9 := Lib.hid (HB9.out.of hn)
  have nhb0 := hb0.trans (hn.mono hb0.size)
  clear hn
  have k8 : Blk V20 U19.heap.size #[.bool bn9, .slice ba9 bl9 bc9] 34 := by rw [hV20]; exact (Blk.new _ _ _)
  clear k2 k7
  clear hb0
  clear hV20
  have k2 := nk2
  clear nk2
  have k7 := nk7
  clear nk7
  have hb0 := nhb0
  clear nhb0
  go_loopg [116] (n.toNat) (fun gk_ s1_0 wr => ∃ (o : Int) (k_ : Int) (wn : Bool) (wa : Option Addr) (wl wc : Nat), s1_0 = .int .i64 k_ ∧ Hid (PwI a n o k_ ∧ n - k_ ≤ (gk_ : Int)) ∧ Blk wr U2.heap.size #[.bool bn1, .slice ba1 bl1 bc1] 34 ∧ Blk wr U17.heap.size #[.int .u64 (wd0 p), .int .u64 (wd1 p), .int .u64 (wd2 p), .int .u64 (wd3 p)] 24 ∧ Blk wr U19.heap.size #[.bool wn, .slice wa wl wc] 34 ∧ Big wr (.agg #[.bool bn1, .slice ba1 bl1 bc1]) a 18 ∧ Big wr (.agg #[.bool wn, .slice wa wl wc]) o 18 ∧ Below w.heap.size w wr)
  case atStart =>
    have HIn : PwI a n 1 0 ∧ n - 0 ≤ ((n.toNat) : Int) := by
      exact ⟨PwI.begin (by simpa using hP25) (by simpa using hP26), by omega⟩
    exact ⟨1, 0, bn9, ba9, bl9, bc9, rfl, Lib.hid HIn, k2, k7, k8, HB1.out, (HB9.out.mono (by decide)), hb0⟩
  case round =>
    rename World => W1_
    rename Nat => gk1
    clear k2 k7 k8 HB1 HB9
    clear hb0
    obtain ⟨o, k_, wn, wa, wl, wc, rfl, HI1, k2, k7, k8, HB1_, HB10_, hb0⟩ := hrel
    have HB1 := Lib.hid HB1_
    clear HB1_
    have HB10 := Lib.hid HB10_
    clear HB10_
    obtain ⟨z1, hz1⟩ : ∃ o_o : Bool, decide (k_ < n) = o_o := ⟨_, rfl⟩
    cases z1
    · have c7_0 : W1_.cell? ⟨U17.heap.size, 0, none⟩ = some (.int .u64 (wd0 p)) := k7.cell 0
      have c7_1 : W1_.cell? ⟨U17.heap.size, 1, none⟩ = some (.int .u64 (wd1 p)) := k7.cell 1
      have c7_2 : W1_.cell? ⟨U17.heap.size, 2, none⟩ = some (.int .u64 (wd2 p)) := k7.cell 2
      have c7_3 : W1_.cell? ⟨U17.heap.size, 3, none⟩ = some (.int .u64 (wd3 p)) := k7.cell 3
      have l7 := k7.lt
      have c8_0 : W1_.cell? ⟨U19.heap.size, 0, none⟩ = some (.bool wn) := k8.cell 0
      have c8_1 : W1_.cell? ⟨U19.heap.size, 1, none⟩ = some (.slice wa wl wc) := k8.cell 1
      have l8 := k8.lt
      go_wp2_with fail
      clear c7_0 c7_1 c7_2 c7_3 l7 c8_0 c8_1 l8
      refine (told_is o p true (.agg #[.bool wn, .slice wa wl wc]) 18 (okI_t HI1.out.1.io) ((HI1.out.1.yes (of_decide_eq_false hz1)).2.symm.trans HP23.out) _ HB10.out).mono ?_
      rintro e U21 ⟨rfl, hn⟩
      clear HB1 HB10
      clear k2 k7 k8
      replace hb0 := hb0.trans (hn.mono hb0.size)
      clear hn
      go_wp2_with fail
      refine (wawake_any _ (hG.of hb0)).mono ?_
      rintro e U22 ⟨rfl, hn⟩
      replace hb0 := hb0.trans (hn.mono hb0.size)
      clear hn
      go_wp2
      first | go_ret | go_ret2
      exact ⟨by first | rfl | (simp; done) | (simp; assumption), hb0⟩
    · have c2_0 : W1_.cell? ⟨U2.heap.size, 0, none⟩ = some (.bool bn1) := k2.cell 0
      have c2_1 : W1_.cell? ⟨U2.heap.size, 1, none⟩ = some (.slice ba1 bl1 bc1) := k2.cell 1
      have l2 := k2.lt
      have c8_0 : W1_.cell? ⟨U19.heap.size, 0, none⟩ = some (.bool wn) := k8.cell 0
      have c8_1 : W1_.cell? ⟨U19.heap.size, 1, none⟩ = some (.slice wa wl wc) := k8.cell 1
      have l8 := k8.lt
      go_wp2_with fail
      clear c2_0 c2_1 l2 c8_0 c8_1 l8
      obtain ⟨r2, hr2⟩ : ∃ o_o : Int, o * a = o_o := ⟨_, rfl⟩
      have Hr2 := Lib.hid hr2
      clear hr2
      refine (bigMul_v (.agg #[.bool wn, .slice wa wl wc]) (.agg #[.bool bn1, .slice ba1 bl1 bc1]) o a r2 18 18 Hr2.out _ HB10.out HB1.out (by decide)).mono ?_
      rintro e U23 ⟨v_, rfl, hbm, hn⟩
      replace k2 := k2.of hn
      replace k7 := k7.of hn
      replace k8 := k8.of hn
      replace HB1 := Lib.hid (HB1.out.of hn)
      replace HB10 := Lib.hid (HB10.out.of hn)
      replace hb0 := hb0.trans (hn.mono hb0.size)
      clear hn
      have HB11 := Lib.hid hbm
      have hvm := hbm.shape
      clear hbm
      obtain ⟨bn11, ba11, bl11, bc11, rfl⟩ := hvm
      have c8_0 : U23.cell? ⟨U19.heap.size, 0, none⟩ = some (.bool wn) := k8.cell 0
      have c8_1 : U23.cell? ⟨U19.heap.size, 1, none⟩ = some (.slice wa wl wc) := k8.cell 1
      have f8_0 := k8.free 0
      have f8_1 := k8.free 1
      have l8 := k8.lt
      go_wp2_with fail
      clear c8_0 c8_1 f8_0 f8_1 l8
      first | refine calls_w ?_ | refine name_world ?_ | refine list_world ?_ | refine post_world ?_
      intro V24 hV24
      have D24 := Lib.hid k2.lt
      have D25 := Lib.hid k7.lt
      have D26 := Lib.hid k8.lt
      have D27 := Lib.hid hb0.size
      have nk2 : Blk V24 U2.heap.size #[.bool bn1, .slice ba1 bl1 bc1] 34 := by rw [hV24]; exact (blk_setL k2 (by have := D21.out; omega) 0 [.bool bn11, .slice ba11 bl11 bc11])
      have nk7 : Blk V24 U17.heap.size #[.int .u64 (wd0 p), .int .u64 (wd1 p), .int .u64 (wd2 p), .int .u64 (wd3 p)] 24 := by rw [hV24]; exact (blk_setL k7 (by have := D22.out; omega) 0 [.bool bn11, .slice ba11 bl11 bc11])
      have nk8 : Blk V24 U19.heap.size #[.bool bn11, .slice ba11 bl11 bc11] 34 := by rw [hV24]; exact (blk_full _ [.bool bn11, .slice ba11 bl11 bc11] k8 rfl)
      have nhb0 : Below w.heap.size w V24 := by rw [hV24]; exact (blw_setL hb0 (by have := D23.out; omega) 0 [.bool bn11, .slice ba11 bl11 bc11])
      replace HB1 : Hid (Big V24 (.agg #[.bool bn1, .slice ba1 bl1 bc1]) a 18) := Lib.hid (by rw [hV24]; exact (big_setL HB1.out (Blk.cell k8 0) (fun _ h => by cases h) 0 [.bool bn11, .slice ba11 bl11 bc11]))
      replace HB10 : Hid (Big V24 (.agg #[.bool wn, .slice wa wl wc]) o 18) := Lib.hid (by rw [hV24]; exact (big_setL HB10.out (Blk.cell k8 0) (fun _ h => by cases h) 0 [.bool bn11, .slice ba11 bl11 bc11]))
      replace HB11 : Hid (Big V24 (.agg #[.bool bn11, .slice ba11 bl11 bc11]) r2 36) := Lib.hid (by rw [hV24]; exact (big_setL HB11.out (Blk.cell k8 0) (fun _ h => by cases h) 0 [.bool bn11, .slice ba11 bl11 bc11]))
      clear k2 k7 k8
      clear hb0
      clear hV24
      have k2 := nk2
      clear nk2
      have k7 := nk7
      clear nk7
      have k8 := nk8
      clear nk8
      have hb0 := nhb0
      clear nhb0
      obtain ⟨z3, hz3⟩ : ∃ o_o : Bool, okI r2 = o_o := ⟨_, rfl⟩
      have Hz3 := Lib.hid hz3
      clear hz3
      refine (Fits_is (.agg #[.bool bn11, .slice ba11 bl11 bc11]) r2 36 z3 Hz3.out _ HB11.out).mono ?_
      rintro e U25 ⟨rfl, hn⟩
      replace k2 := k2.of hn
      replace k7 := k7.of hn
      replace k8 := k8.of hn
      replace HB1 := Lib.hid (HB1.out.of hn)
      replace HB10 := Lib.hid (HB10.out.of hn)
      replace HB11 := Lib.hid (HB11.out.of hn)
      replace hb0 := hb0.trans (hn.mono hb0.size)
      clear hn
      cases z3
      · exact absurd (HI1.out.1.no (of_decide_eq_true hz1) (by rw [Hr2.out]; exact Hz3.out)) (by rw [HP24.out]; decide)
      · go_wp2_with fail
        have HIn : PwI a n r2 (wrap64 (k_ + 1)) ∧ n - (wrap64 (k_ + 1)) ≤ (((n - (wrap64 (k_ + 1))).toNat) : Int) := by
          exact ⟨HI1.out.1.nextM (of_decide_eq_true hz1) Hr2.out (by rw [Hr2.out]; exact Hz3.out), by omega⟩
        go_roundg ((n - (wrap64 (k_ + 1))).toNat)
        case measure =>
          rw [HI1.out.1.w (of_decide_eq_true hz1)]
          have q_ := of_decide_eq_true hz1
          have q2_ := HI1.out.2
          omega
        case rel => exact ⟨r2, (wrap64 (k_ + 1)), bn11, ba11, bl11, bc11, rfl, Lib.hid HIn, k2, k7, k8, HB1.out, (fit_I HB11.out (by have := Hz3.out; unfold okI at this; exact of_decide_eq_true this)), hb0⟩

set_option maxRecDepth 100000 in
set_option maxHeartbeats 4000000 in

theorem WRo_23 (a : Int) (n : Int) (s : Int) (k : Int) (q : Int) (c1 : Int) (q2 : Int) (c2 : Int) (r : Int) (t : Int) (rs : Int) (rr : Int) (c3 : Int) (tt : Int) (c4 : Int)   (hP0 : a.sign = s) (hP1 : decide (s < 0) = false) (hP2 : btn a = k) (hP3 : decide (k < 0) = false) (hP4 : decide (256 < k) = false) (hP5 : 2 ^ k.toNat = q) (hP6 : cmpI a q = c1) (hP7 : decide (0 ≤ c1) = false) (hP8 : decide (0 < k) = true) (hP9 : 2 ^ (wrap64 (k - 1)).toNat = q2) (hP10 : cmpI a q2 = c2) (hP11 : decide (c2 < 0) = false) (hP12 : rtv a = r) (hP13 : rtk a = true) (hP14 : r + 1 = t) (hP15 : r.sign = rs) (hP16 : decide (rs < 0) = false) (hP17 : r * r = rr) (hP18 : cmpI rr a = c3) (hP19 : decide (0 < c3) = false) (hP20 : t * t = tt) (hP21 : cmpI tt a = c4) (hP22 : decide (c4 ≤ 0) = false) (hP23 : pwv a n = 0) (hP24 : pwk a n = false) (hP25 : decide (n < 0) = false) (hP26 : decide (256 < n) = false) (_ik : Hid (0 ≤ k ∧ k ≤ 256)) (_ir : InI r) (_ia : InI a) (_in : In64 n)  (w : World) (hG : Tab w) :
    Calls Tryd.prog 6 #[.agg #[.int .u64 (wd0 a), .int .u64 (wd1 a), .int .u64 (wd2 a), .int .u64 (wd3 a)], .int .i64 n] w fun e w' => e = .returned (.bool true) ∧ Below w.heap.size w w' := by

  have HP0 := Lib.hid hP0
  clear hP0
  have HP2 := Lib.hid hP2
  clear hP2
  have HP5 := Lib.hid hP5
  clear hP5
  have HP6 := Lib.hid hP6
  clear hP6
  have HP9 := Lib.hid hP9
  clear hP9
  have HP10 := Lib.hid hP10
  clear hP10
  have HP12 := Lib.hid hP12
  clear hP12
  have HP13 := Lib.hid hP13
  clear hP13
  have HP14 := Lib.hid hP14
  clear hP14
  have HP15 := Lib.hid hP15
  clear hP15
  have HP17 := Lib.hid hP17
  clear hP17
  have HP18 := Lib.hid hP18
  clear hP18
  have HP20 := Lib.hid hP20
  clear hP20
  have HP21 := Lib.hid hP21
  clear hP21
  have HP23 := Lib.hid hP23
  clear hP23
  have HP24 := Lib.hid hP24
  clear hP24
  go_enter Tryd.func6, Tryd.ntmps6
  go_wp2_with fail
  first | refine calls_w ?_ | refine name_world ?_ | refine list_world ?_ | refine post_world ?_
  intro V1 hV1
  have hn : Below w.heap.size w V1 := by rw [hV1]; exact below_a1 _ _
  have nhb0 := hn
  have k1 : Blk V1 w.heap.size #[.int .u64 (wd0 a), .int .u64 (wd1 a), .int .u64 (wd2 a), .int .u64 (wd3 a)] 24 := by rw [hV1]; exact (Blk.new _ _ _)
  clear hV1
  have hb0 := nhb0
  clear nhb0
  refine (Read_v a a rfl _ia _).mono ?_
  rintro e U2 ⟨v_, rfl, hbm, hn⟩
  replace k1 := k1.of hn
  replace hb0 := hb0.trans (hn.mono hb0.size)
  clear hn
  have HB1 := Lib.hid hbm
  have hvm := hbm.shape
  clear hbm
  obtain ⟨bn1, ba1, bl1, bc1, rfl⟩ := hvm
  go_wp2_with fail
  first | refine calls_w ?_ | refine name_world ?_ | refine list_world ?_ | refine post_world ?_
  intro V3 hV3
  have D1 := Lib.hid k1.lt
  have D2 := Lib.hid hb0.size
  have hn : Below U2.heap.size U2 V3 := by rw [hV3]; exact below_a2 _ _ _
  have nk1 := k1.of hn
  replace HB1 := Lib.hid (HB1.out.of hn)
  have nhb0 := hb0.trans (hn.mono hb0.size)
  clear hn
  have k2 : Blk V3 U2.heap.size #[.bool bn1, .slice ba1 bl1 bc1] 34 := by rw [hV3]; exact ((Blk.new _ _ _).alloc _)
  have k3 : Blk V3 (U2.heap.size + 1) #[.bool bn1, .slice ba1 bl1 bc1] 34 := by rw [hV3]; exact (Blk.new1 _ _ _ _)
  clear k1
  clear hb0
  clear hV3
  have k1 := nk1
  clear nk1
  have hb0 := nhb0
  clear nhb0
  refine (bigSign_v (.agg #[.bool bn1, .slice ba1 bl1 bc1]) a 18 s HP0.out _ HB1.out).mono ?_
  rintro e U4 ⟨rfl, hn⟩
  replace k1 := k1.of hn
  replace k2 := k2.of hn
  replace k3 := k3.of hn
  replace HB1 := Lib.hid (HB1.out.of hn)
  replace hb0 := hb0.trans (hn.mono hb0.size)
  clear hn
  have c1_0 : U4.cell? ⟨w.heap.size, 0, none⟩ = some (.int .u64 (wd0 a)) := k1.cell 0
  have c1_1 : U4.cell? ⟨w.heap.size, 1, none⟩ = some (.int .u64 (wd1 a)) := k1.cell 1
  have c1_2 : U4.cell? ⟨w.heap.size, 2, none⟩ = some (.int .u64 (wd2 a)) := k1.cell 2
  have c1_3 : U4.cell? ⟨w.heap.size, 3, none⟩ = some (.int .u64 (wd3 a)) := k1.cell 3
  have l1 := k1.lt
  go_wp2_with fail
  clear c1_0 c1_1 c1_2 c1_3 l1
  refine (Bits_v a k HP2.out _ia _).mono ?_
  rintro e U5 ⟨rfl, hn⟩
  replace k1 := k1.of hn
  replace k2 := k2.of hn
  replace k3 := k3.of hn
  replace HB1 := Lib.hid (HB1.out.of hn)
  replace hb0 := hb0.trans (hn.mono hb0.size)
  clear hn
  go_wp2_with fail
  have c3_0 : U5.cell? ⟨(U2.heap.size + 1), 0, none⟩ = some (.bool bn1) := k3.cell 0
  have c3_1 : U5.cell? ⟨(U2.heap.size + 1), 1, none⟩ = some (.slice ba1 bl1 bc1) := k3.cell 1
  have l3 := k3.lt
  have Kk1 := Lib.hid k1
  clear k1
  have Kk2 := Lib.hid k2
  clear k2
  have Kk3 := Lib.hid k3
  clear k3
  refine wp_region_up U5.heap.size 21 [(true, 0), (true, 1), (true, 2), (true, 3), (true, 4), (true, 5), (true, 6), (true, 7), (true, 8), (false, 9), (false, 10), (true, 11), (true, 12), (true, 13), (true, 14), (true, 15), (true, 16), (true, 17), (true, 18), (true, 19), (false, 20)] (by kernel_rfl) (by kernel_rfl) (fun _ _ d _ _ h => by cases d <;> exact h) ?_
  have hb : Below U5.heap.size U5 U5.drew := (Below.refl _ _).drew
  iterate 9
    refine wpS_takeL rfl rfl ?_
    go_big_quiet_step (rfl)
    refine wpQuiet_nil ?_
  refine wpS_doL rfl ?_
  intro K hK
  go_wp2_with ((first | (go_at_call 21; (with_reducible refine (powk_v k q _ik.out HP5.out _).mono ?_); rintro e w2 ⟨v_, rfl, hbm, hn⟩; have HB2 := Lib.hid hbm; have hvm := hbm.shape; clear hbm; obtain ⟨bn2, ba2, bl2, bc2, rfl⟩ := hvm) | (go_at_call 21; (with_reducible refine (powk_v (wrap64 (k - 1)) q2 (pw_in1 _ik.out (of_decide_eq_true hP8)) HP9.out _).mono ?_); rintro e w2 ⟨v_, rfl, hbm, hn⟩; replace HB2 := Lib.hid (HB2.out.of hn); have HB3 := Lib.hid hbm; have hvm := hbm.shape; clear hbm; obtain ⟨bn3, ba3, bl3, bc3, rfl⟩ := hvm)))
  try replace hb := hb.trans (hn.mono hb.size)
  refine hK.out _ _ (up_iff.2 hb) ?_
  clear hK K
  try clear hn
  refine wpS_doL rfl ?_
  intro K hK
  go_wp2_with ((go_at_call 20; (with_reducible refine (bigCmp_v (.agg #[.bool bn1, .slice ba1 bl1 bc1]) (.agg #[.bool bn2, .slice ba2 bl2 bc2]) a q 18 18 c1 HP6.out _ (HB1.out.of hb) HB2.out).mono ?_); rintro e w2 ⟨rfl, hn⟩; replace HB2 := Lib.hid (HB2.out.of hn)))
  try replace hb := hb.trans (hn.mono hb.size)
  refine hK.out _ _ (up_iff.2 hb) ?_
  clear hK K
  try clear hn
  iterate 9
    refine wpS_takeL rfl rfl ?_
    go_big_quiet_step (rfl)
    refine wpQuiet_nil ?_
  refine wpS_doL rfl ?_
  intro K hK
  go_wp2_with ((first | (go_at_call 21; (with_reducible refine (powk_v k q _ik.out HP5.out _).mono ?_); rintro e w2 ⟨v_, rfl, hbm, hn⟩; have HB2 := Lib.hid hbm; have hvm := hbm.shape; clear hbm; obtain ⟨bn2, ba2, bl2, bc2, rfl⟩ := hvm) | (go_at_call 21; (with_reducible refine (powk_v (wrap64 (k - 1)) q2 (pw_in1 _ik.out (of_decide_eq_true hP8)) HP9.out _).mono ?_); rintro e w2 ⟨v_, rfl, hbm, hn⟩; replace HB2 := Lib.hid (HB2.out.of hn); have HB3 := Lib.hid hbm; have hvm := hbm.shape; clear hbm; obtain ⟨bn3, ba3, bl3, bc3, rfl⟩ := hvm)))
  try replace hb := hb.trans (hn.mono hb.size)
  refine hK.out _ _ (up_iff.2 hb) ?_
  clear hK K
  try clear hn
  refine wpS_nil ?_
  simp only [List.drop_succ_cons, List.drop_zero]
  first | refine calls_w ?_ | refine name_world ?_ | refine list_world ?_ | refine post_world ?_
  intro U6 hU6
  first | (subst hU6; have u_ := U6; clear u_) | (rw [← hU6] at hb; clear hU6)
  clear c3_0 c3_1 l3
  have k1 := Kk1.out.of hb
  clear Kk1
  have k2 := Kk2.out.of hb
  clear Kk2
  have k3 := Kk3.out.of hb
  clear Kk3
  replace HB1 := Lib.hid (HB1.out.of hb)
  replace hb0 := hb0.trans (hb.mono hb0.size)
  clear hb
  go_wp2_with fail
  refine (bigCmp_v (.agg #[.bool bn1, .slice ba1 bl1 bc1]) (.agg #[.bool bn3, .slice ba3 bl3 bc3]) a q2 18 18 c2 HP10.out _ HB1.out HB3.out).mono ?_
  rintro e U7 ⟨rfl, hn⟩
  clear HB2 HB3
  clear k3
  replace k1 := k1.of hn
  replace k2 := k2.of hn
  replace HB1 := Lib.hid (HB1.out.of hn)
  replace hb0 := hb0.trans (hn.mono hb0.size)
  clear hn
  have c1_0 : U7.cell? ⟨w.heap.size, 0, none⟩ = some (.int .u64 (wd0 a)) := k1.cell 0
  have c1_1 : U7.cell? ⟨w.heap.size, 1, none⟩ = some (.int .u64 (wd1 a)) := k1.cell 1
  have c1_2 : U7.cell? ⟨w.heap.size, 2, none⟩ = some (.int .u64 (wd2 a)) := k1.cell 2
  have c1_3 : U7.cell? ⟨w.heap.size, 3, none⟩ = some (.int .u64 (wd3 a)) := k1.cell 3
  have l1 := k1.lt
  go_wp2_with fail
  clear c1_0 c1_1 c1_2 c1_3 l1
  refine (Root_v a r true HP12.out HP13.out _ia _).mono ?_
  rintro e U8 ⟨rfl, hn⟩
  replace k1 := k1.of hn
  replace k2 := k2.of hn
  replace HB1 := Lib.hid (HB1.out.of hn)
  replace hb0 := hb0.trans (hn.mono hb0.size)
  clear hn
  have c2_0 : U8.cell? ⟨U2.heap.size, 0, none⟩ = some (.bool bn1) := k2.cell 0
  have c2_1 : U8.cell? ⟨U2.heap.size, 1, none⟩ = some (.slice ba1 bl1 bc1) := k2.cell 1
  have l2 := k2.lt
  go_wp2_with fail
  clear c2_0 c2_1 l2
  first | refine calls_w ?_ | refine name_world ?_ | refine list_world ?_ | refine post_world ?_
  intro V9 hV9
  have D3 := Lib.hid k1.lt
  have D4 := Lib.hid k2.lt
  have D5 := Lib.hid hb0.size
  have hn : Below U8.heap.size U8 V9 := by rw [hV9]; exact below_a1 _ _
  have nk1 := k1.of hn
  have nk2 := k2.of hn
  replace HB1 := Lib.hid (HB1.out.of hn)
  have nhb0 := hb0.trans (hn.mono hb0.size)
  clear hn
  have k4 : Blk V9 U8.heap.size #[.int .u64 (wd0 r), .int .u64 (wd1 r), .int .u64 (wd2 r), .int .u64 (wd3 r)] 24 := by rw [hV9]; exact (Blk.new _ _ _)
  clear k1 k2
  clear hb0
  clear hV9
  have k1 := nk1
  clear nk1
  have k2 := nk2
  clear nk2
  have hb0 := nhb0
  clear nhb0
  refine (bigSign_v (.agg #[.bool bn1, .slice ba1 bl1 bc1]) a 18 s HP0.out _ HB1.out).mono ?_
  rintro e U10 ⟨rfl, hn⟩
  replace k1 := k1.of hn
  replace k2 := k2.of hn
  replace k4 := k4.of hn
  replace HB1 := Lib.hid (HB1.out.of hn)
  replace hb0 := hb0.trans (hn.mono hb0.size)
  clear hn
  have c4_0 : U10.cell? ⟨U8.heap.size, 0, none⟩ = some (.int .u64 (wd0 r)) := k4.cell 0
  have c4_1 : U10.cell? ⟨U8.heap.size, 1, none⟩ = some (.int .u64 (wd1 r)) := k4.cell 1
  have c4_2 : U10.cell? ⟨U8.heap.size, 2, none⟩ = some (.int .u64 (wd2 r)) := k4.cell 2
  have c4_3 : U10.cell? ⟨U8.heap.size, 3, none⟩ = some (.int .u64 (wd3 r)) := k4.cell 3
  have l4 := k4.lt
  go_wp2_with fail
  clear c4_0 c4_1 c4_2 c4_3 l4
  refine (Read_v r r rfl _ir _).mono ?_
  rintro e U11 ⟨v_, rfl, hbm, hn⟩
  clear k4
  replace k1 := k1.of hn
  replace k2 := k2.of hn
  replace HB1 := Lib.hid (HB1.out.of hn)
  replace hb0 := hb0.trans (hn.mono hb0.size)
  clear hn
  have HB4 := Lib.hid hbm
  have hvm := hbm.shape
  clear hbm
  obtain ⟨bn4, ba4, bl4, bc4, rfl⟩ := hvm
  go_wp2_with fail
  first | refine calls_w ?_ | refine name_world ?_ | refine list_world ?_ | refine post_world ?_
  intro V12 hV12
  have D6 := Lib.hid k1.lt
  have D7 := Lib.hid k2.lt
  have D8 := Lib.hid hb0.size
  have hn : Below U11.heap.size U11 V12 := by rw [hV12]; exact below_a1 _ _
  have nk1 := k1.of hn
  have nk2 := k2.of hn
  replace HB1 := Lib.hid (HB1.out.of hn)
  replace HB4 := Lib.hid (HB4.out.of hn)
  have nhb0 := hb0.trans (hn.mono hb0.size)
  clear hn
  have k5 : Blk V12 U11.heap.size #[.bool bn4, .slice ba4 bl4 bc4] 34 := by rw [hV12]; exact (Blk.new _ _ _)
  clear k1 k2
  clear hb0
  clear hV12
  have k1 := nk1
  clear nk1
  have k2 := nk2
  clear nk2
  have hb0 := nhb0
  clear nhb0
  have c5_0 : V12.cell? ⟨U11.heap.size, 0, none⟩ = some (.bool bn4) := k5.cell 0
  have c5_1 : V12.cell? ⟨U11.heap.size, 1, none⟩ = some (.slice ba4 bl4 bc4) := k5.cell 1
  have l5 := k5.lt
  have Kk1 := Lib.hid k1
  clear k1
  have Kk2 := Lib.hid k2
  clear k2
  have Kk5 := Lib.hid k5
  clear k5
  refine wp_region_float1 4 3 [(true, 0), (false, 1), (false, 2)] (by kernel_rfl) (by kernel_rfl) (fun _ _ d _ _ => by cases d <;> exact Iff.rfl) rfl rfl rfl alWrL1_0 ?_
  have hb : Below V12.heap.size V12 V12.drew := (Below.refl _ _).drew
  refine wpF_take rfl rfl ?_
  go_big_quiet_step (rfl)
  refine wpQuiet_nil ?_
  refine wpF_do rfl ?_
  intro w1 hg K hK
  replace hb := hb.trans (hg.mono hb.size)
  try replace HB5 := Lib.hid (HB5.out.of hg); try replace HB6 := Lib.hid (HB6.out.of hg)
  clear hg
  go_wp2_with ((go_at_call 24; (with_reducible refine (bigOf_v 1 1 rfl (by unfold In64; omega) _).mono ?_); rintro e w2 ⟨v_, rfl, hbm, hn⟩; have HB5 := Lib.hid hbm; have hvm := hbm.shape; clear hbm; obtain ⟨bn5, ba5, bl5, bc5, rfl⟩ := hvm))
  refine hK.out _ _ hn ?_
  replace hb := hb.trans (hn.mono hb.size)
  clear hK K
  clear hn
  refine wpF_do rfl ?_
  intro w1 hg K hK
  replace hb := hb.trans (hg.mono hb.size)
  try replace HB5 := Lib.hid (HB5.out.of hg); try replace HB6 := Lib.hid (HB6.out.of hg)
  clear hg
  go_wp2_with ((go_at_call 23; (with_reducible refine (bigAdd_v (.agg #[.bool bn4, .slice ba4 bl4 bc4]) (.agg #[.bool bn5, .slice ba5 bl5 bc5]) r 1 t 18 HP14.out _ (HB4.out.of hb) (HB5.out.mono (by decide)) (by decide)).mono ?_); rintro e w2 ⟨v_, rfl, hbm, hn⟩; replace HB5 := Lib.hid (HB5.out.of hn); have HB6 := Lib.hid hbm; have hvm := hbm.shape; clear hbm; obtain ⟨bn6, ba6, bl6, bc6, rfl⟩ := hvm))
  refine hK.out _ _ hn ?_
  replace hb := hb.trans (hn.mono hb.size)
  clear hK K
  clear hn
  refine wpF_nil ?_
  clear hb
  intro w1 hg hb b1 lb1 nb1
  replace HB5 := Lib.hid (HB5.out.of hg)
  replace HB6 := Lib.hid (HB6.out.of hg)
  clear hg
  simp only [Act.put, ptrTo, List.setIfInBounds_toArray, List.set_cons_succ, List.set_cons_zero]
  simp only [List.drop_succ_cons, List.drop_zero]
  clear c5_0 c5_1 l5
  first | refine calls_w ?_ | refine name_world ?_ | refine list_world ?_ | refine post_world ?_
  intro U13 hU13
  subst hU13
  have D9 := Lib.hid Kk1.out.lt
  have D10 := Lib.hid Kk2.out.lt
  have D11 := Lib.hid Kk5.out.lt
  have D12 := Lib.hid hb0.size
  have k6 : Blk U13 b1 #[.bool false, .slice none 0 0] 34 := nb1
  have k1 := Kk1.out.of hb
  clear Kk1
  have k2 := Kk2.out.of hb
  clear Kk2
  have k5 := Kk5.out.of hb
  clear Kk5
  have D13 := Lib.hid lb1
  clear nb1 lb1
  replace HB1 := Lib.hid (HB1.out.of hb)
  replace HB4 := Lib.hid (HB4.out.of hb)
  replace hb0 := hb0.trans (hb.mono hb0.size)
  clear hb
  generalize b1 = q6 at *
  have c6_0 : U13.cell? ⟨q6, 0, none⟩ = some (.bool false) := k6.cell 0
  have c6_1 : U13.cell? ⟨q6, 1, none⟩ = some (.slice none 0 0) := k6.cell 1
  have f6_0 := k6.free 0
  have f6_1 := k6.free 1
  have l6 := k6.lt
  go_wp2_with fail
  clear c6_0 c6_1 f6_0 f6_1 l6
  first | refine calls_w ?_ | refine name_world ?_ | refine list_world ?_ | refine post_world ?_
  intro V14 hV14
  clear HB5
  have D14 := Lib.hid k1.lt
  have D15 := Lib.hid k2.lt
  have D16 := Lib.hid k5.lt
  have D17 := Lib.hid k6.lt
  have D18 := Lib.hid hb0.size
  have nk1 : Blk V14 w.heap.size #[.int .u64 (wd0 a), .int .u64 (wd1 a), .int .u64 (wd2 a), .int .u64 (wd3 a)] 24 := by rw [hV14]; exact (blk_setL k1 (by have := D9.out; have := D13.out; omega) 0 [.bool bn6, .slice ba6 bl6 bc6])
  have nk2 : Blk V14 U2.heap.size #[.bool bn1, .slice ba1 bl1 bc1] 34 := by rw [hV14]; exact (blk_setL k2 (by have := D10.out; have := D13.out; omega) 0 [.bool bn6, .slice ba6 bl6 bc6])
  have nk5 : Blk V14 U11.heap.size #[.bool bn4, .slice ba4 bl4 bc4] 34 := by rw [hV14]; exact (blk_setL k5 (by have := D11.out; have := D13.out; omega) 0 [.bool bn6, .slice ba6 bl6 bc6])
  have nk6 : Blk V14 q6 #[.bool bn6, .slice ba6 bl6 bc6] 34 := by rw [hV14]; exact (blk_full _ [.bool bn6, .slice ba6 bl6 bc6] k6 rfl)
  have nhb0 : Below w.heap.size w V14 := by rw [hV14]; exact (blw_setL hb0 (by have := D12.out; have := D13.out; omega) 0 [.bool bn6, .slice ba6 bl6 bc6])
  replace HB1 : Hid (Big V14 (.agg #[.bool bn1, .slice ba1 bl1 bc1]) a 18) := Lib.hid (by rw [hV14]; exact (big_setL HB1.out (Blk.cell k6 0) (fun _ h => by cases h) 0 [.bool bn6, .slice ba6 bl6 bc6]))
  replace HB4 : Hid (Big V14 (.agg #[.bool bn4, .slice ba4 bl4 bc4]) r 18) := Lib.hid (by rw [hV14]; exact (big_setL HB4.out (Blk.cell k6 0) (fun _ h => by cases h) 0 [.bool bn6, .slice ba6 bl6 bc6]))
  replace HB6 : Hid (Big V14 (.agg #[.bool bn6, .slice ba6 bl6 bc6]) t 19) := Lib.hid (by rw [hV14]; exact (big_setL HB6.out (Blk.cell k6 0) (fun _ h => by cases h) 0 [.bool bn6, .slice ba6 bl6 bc6]))
  clear k1 k2 k5 k6
  clear hb0
  clear hV14
  have k1 := nk1
  clear nk1
  have k2 := nk2
  clear nk2
  have k5 := nk5
  clear nk5
  have k6 := nk6
  clear nk6
  have hb0 := nhb0
  clear nhb0
  have c2_0 : V14.cell? ⟨U2.heap.size, 0, none⟩ = some (.bool bn1) := k2.cell 0
  have c2_1 : V14.cell? ⟨U2.heap.size, 1, none⟩ = some (.slice ba1 bl1 bc1) := k2.cell 1
  have l2 := k2.lt
  have c5_0 : V14.cell? ⟨U11.heap.size, 0, none⟩ = some (.bool bn4) := k5.cell 0
  have c5_1 : V14.cell? ⟨U11.heap.size, 1, none⟩ = some (.slice ba4 bl4 bc4) := k5.cell 1
  have l5 := k5.lt
  have c6_0 : V14.cell? ⟨q6, 0, none⟩ = some (.bool bn6) := k6.cell 0
  have c6_1 : V14.cell? ⟨q6, 1, none⟩ = some (.slice ba6 bl6 bc6) := k6.cell 1
  have l6 := k6.lt
  have Kk1 := Lib.hid k1
  clear k1
  have Kk2 := Lib.hid k2
  clear k2
  have Kk5 := Lib.hid k5
  clear k5
  have Kk6 := Lib.hid k6
  clear k6
  refine wp_region_up V14.heap.size 20 [(true, 0), (true, 1), (true, 2), (true, 3), (false, 4), (true, 5), (true, 6), (true, 7), (true, 8), (true, 9), (true, 11), (false, 10), (false, 12), (true, 13), (true, 14), (true, 15), (true, 16), (true, 17), (true, 19), (false, 18)] (by kernel_rfl) (by kernel_rfl) (fun _ _ d _ _ h => by cases d <;> exact h) ?_
  have hb : Below V14.heap.size V14 V14.drew := (Below.refl _ _).drew
  iterate 4
    refine wpS_takeL rfl rfl ?_
    go_big_quiet_step (rfl)
    refine wpQuiet_nil ?_
  refine wpS_doL rfl ?_
  intro K hK
  go_wp2_with ((go_at_call 17; (with_reducible refine (bigSign_v (.agg #[.bool bn4, .slice ba4 bl4 bc4]) r 18 rs HP15.out _ (HB4.out.of hb)).mono ?_); rintro e w2 ⟨rfl, hn⟩))
  try replace hb := hb.trans (hn.mono hb.size)
  refine hK.out _ _ (up_iff.2 hb) ?_
  clear hK K
  try clear hn
  iterate 6
    refine wpS_takeL rfl rfl ?_
    go_big_quiet_step (rfl)
    refine wpQuiet_nil ?_
  refine wpS_doL rfl ?_
  intro K hK
  go_wp2_with ((first | (go_at_call 25; (with_reducible refine (bigMul_v (.agg #[.bool bn4, .slice ba4 bl4 bc4]) (.agg #[.bool bn4, .slice ba4 bl4 bc4]) r r rr 18 18 HP17.out _ (HB4.out.of hb) (HB4.out.of hb) (by decide)).mono ?_); rintro e w2 ⟨v_, rfl, hbm, hn⟩; have HB7 := Lib.hid hbm; have hvm := hbm.shape; clear hbm; obtain ⟨bn7, ba7, bl7, bc7, rfl⟩ := hvm) | (go_at_call 25; (with_reducible refine (bigMul_v (.agg #[.bool bn6, .slice ba6 bl6 bc6]) (.agg #[.bool bn6, .slice ba6 bl6 bc6]) t t tt 19 19 HP20.out _ (HB6.out.of hb) (HB6.out.of hb) (by decide)).mono ?_); rintro e w2 ⟨v_, rfl, hbm, hn⟩; replace HB7 := Lib.hid (HB7.out.of hn); have HB8 := Lib.hid hbm; have hvm := hbm.shape; clear hbm; obtain ⟨bn8, ba8, bl8, bc8, rfl⟩ := hvm)))
  try replace hb := hb.trans (hn.mono hb.size)
  refine hK.out _ _ (up_iff.2 hb) ?_
  clear hK K
  try clear hn
  refine wpS_doL rfl ?_
  intro K hK
  go_wp2_with ((go_at_call 20; (with_reducible refine (bigCmp_v (.agg #[.bool bn7, .slice ba7 bl7 bc7]) (.agg #[.bool bn1, .slice ba1 bl1 bc1]) rr a 36 18 c3 HP18.out _ HB7.out (HB1.out.of hb)).mono ?_); rintro e w2 ⟨rfl, hn⟩; replace HB7 := Lib.hid (HB7.out.of hn)))
  try replace hb := hb.trans (hn.mono hb.size)
  refine hK.out _ _ (up_iff.2 hb) ?_
  clear hK K
  try clear hn
  iterate 6
    refine wpS_takeL rfl rfl ?_
    go_big_quiet_step (rfl)
    refine wpQuiet_nil ?_
  refine wpS_doL rfl ?_
  intro K hK
  go_wp2_with ((first | (go_at_call 25; (with_reducible refine (bigMul_v (.agg #[.bool bn4, .slice ba4 bl4 bc4]) (.agg #[.bool bn4, .slice ba4 bl4 bc4]) r r rr 18 18 HP17.out _ (HB4.out.of hb) (HB4.out.of hb) (by decide)).mono ?_); rintro e w2 ⟨v_, rfl, hbm, hn⟩; have HB7 := Lib.hid hbm; have hvm := hbm.shape; clear hbm; obtain ⟨bn7, ba7, bl7, bc7, rfl⟩ := hvm) | (go_at_call 25; (with_reducible refine (bigMul_v (.agg #[.bool bn6, .slice ba6 bl6 bc6]) (.agg #[.bool bn6, .slice ba6 bl6 bc6]) t t tt 19 19 HP20.out _ (HB6.out.of hb) (HB6.out.of hb) (by decide)).mono ?_); rintro e w2 ⟨v_, rfl, hbm, hn⟩; replace HB7 := Lib.hid (HB7.out.of hn); have HB8 := Lib.hid hbm; have hvm := hbm.shape; clear hbm; obtain ⟨bn8, ba8, bl8, bc8, rfl⟩ := hvm)))
  try replace hb := hb.trans (hn.mono hb.size)
  refine hK.out _ _ (up_iff.2 hb) ?_
  clear hK K
  try clear hn
  refine wpS_nil ?_
  simp only [List.drop_succ_cons, List.drop_zero]
  first | refine calls_w ?_ | refine name_world ?_ | refine list_world ?_ | refine post_world ?_
  intro U15 hU15
  first | (subst hU15; have u_ := U15; clear u_) | (rw [← hU15] at hb; clear hU15)
  clear c2_0 c2_1 l2 c5_0 c5_1 l5 c6_0 c6_1 l6
  have k1 := Kk1.out.of hb
  clear Kk1
  have k2 := Kk2.out.of hb
  clear Kk2
  have k5 := Kk5.out.of hb
  clear Kk5
  have k6 := Kk6.out.of hb
  clear Kk6
  replace HB1 := Lib.hid (HB1.out.of hb)
  replace HB4 := Lib.hid (HB4.out.of hb)
  replace HB6 := Lib.hid (HB6.out.of hb)
  replace hb0 := hb0.trans (hb.mono hb0.size)
  clear hb
  go_wp2_with fail
  refine (bigCmp_v (.agg #[.bool bn8, .slice ba8 bl8 bc8]) (.agg #[.bool bn1, .slice ba1 bl1 bc1]) tt a 38 18 c4 HP21.out _ HB8.out HB1.out).mono ?_
  rintro e U16 ⟨rfl, hn⟩
  clear HB4 HB6 HB7 HB8
  clear k5 k6
  replace k1 := k1.of hn
  replace k2 := k2.of hn
  replace HB1 := Lib.hid (HB1.out.of hn)
  replace hb0 := hb0.trans (hn.mono hb0.size)
  clear hn
  have c1_0 : U16.cell? ⟨w.heap.size, 0, none⟩ = some (.int .u64 (wd0 a)) := k1.cell 0
  have c1_1 : U16.cell? ⟨w.heap.size, 1, none⟩ = some (.int .u64 (wd1 a)) := k1.cell 1
  have c1_2 : U16.cell? ⟨w.heap.size, 2, none⟩ = some (.int .u64 (wd2 a)) := k1.cell 2
  have c1_3 : U16.cell? ⟨w.heap.size, 3, none⟩ = some (.int .u64 (wd3 a)) := k1.cell 3
  have l1 := k1.lt
  go_wp2_with fail
  clear c1_0 c1_1 c1_2 c1_3 l1
  refine (Power_v a n 0 false HP23.out HP24.out _ia _in _).mono ?_
  rintro e U17 ⟨rfl, hn⟩
  clear k1
  replace k2 := k2.of hn
  replace HB1 := Lib.hid (HB1.out.of hn)
  replace hb0 := hb0.trans (hn.mono hb0.size)
  clear hn
  go_wp2_with fail
  first | refine calls_w ?_ | refine name_world ?_ | refine list_world ?_ | refine post_world ?_
  intro V18 hV18
  have D19 := Lib.hid k2.lt
  have D20 := Lib.hid hb0.size
  have hn : Below U17.heap.size U17 V18 := by rw [hV18]; exact below_a1 _ _
  have nk2 := k2.of hn
  replace HB1 := Lib.hid (HB1.out.of hn)
  have nhb0 := hb0.trans (hn.mono hb0.size)
  clear hn
  have k7 : Blk V18 U17.heap.size #[.int .u64 (wd0 0), .int .u64 (wd1 0), .int .u64 (wd2 0), .int .u64 (wd3 0)] 24 := by rw [hV18]; exact (Blk.new _ _ _)
  clear k2
  clear hb0
  clear hV18
  have k2 := nk2
  clear nk2
  have hb0 := nhb0
  clear nhb0
  refine (bigOf_v 1 1 rfl (by unfold In64; omega) _).mono ?_
  rintro e U19 ⟨v_, rfl, hbm, hn⟩
  replace k2 := k2.of hn
  replace k7 := k7.of hn
  replace HB1 := Lib.hid (HB1.out.of hn)
  replace hb0 := hb0.trans (hn.mono hb0.size)
  clear hn
  have HB9 := Lib.hid hbm
  have hvm := hbm.shape
  clear hbm
  obtain ⟨bn9, ba9, bl9, bc9, rfl⟩ := hvm
  go_wp2_with fail
  first | refine name_world ?_
  intro V20 hV20
  have D21 := Lib.hid k2.lt
  have D22 := Lib.hid k7.lt
  have D23 := Lib.hid hb0.size
  have hn : Below U19.heap.size U19 V20 := by rw [hV20]; exact below_a1 _ _
  have nk2 := k2.of hn
  have nk7 := k7.of hn
  replace HB1 := Lib.hid (HB1.out.of hn)
  replace HB9 := Lib.hid (HB9.out.of hn)
  have nhb0 := hb0.trans (hn.mono hb0.size)
  clear hn
  have k8 : Blk V20 U19.heap.size #[.bool bn9, .slice ba9 bl9 bc9] 34 := by rw [hV20]; exact (Blk.new _ _ _)
  clear k2 k7
  clear hb0
  clear hV20
  have k2 := nk2
  clear nk2
  have k7 := nk7
  clear nk7
  have hb0 := nhb0
  clear nhb0
  go_loopg [116] (n.toNat) (fun gk_ s1_0 wr => ∃ (o : Int) (k_ : Int) (wn : Bool) (wa : Option Addr) (wl wc : Nat), s1_0 = .int .i64 k_ ∧ Hid (PwI a n o k_ ∧ n - k_ ≤ (gk_ : Int)) ∧ Blk wr U2.heap.size #[.bool bn1, .slice ba1 bl1 bc1] 34 ∧ Blk wr U17.heap.size #[.int .u64 (wd0 0), .int .u64 (wd1 0), .int .u64 (wd2 0), .int .u64 (wd3 0)] 24 ∧ Blk wr U19.heap.size #[.bool wn, .slice wa wl wc] 34 ∧ Big wr (.agg #[.bool bn1, .slice ba1 bl1 bc1]) a 18 ∧ Big wr (.agg #[.bool wn, .slice wa wl wc]) o 18 ∧ Below w.heap.size w wr)
  case atStart =>
    have HIn : PwI a n 1 0 ∧ n - 0 ≤ ((n.toNat) : Int) := by
      exact ⟨PwI.begin (by simpa using hP25) (by simpa using hP26), by omega⟩
    exact ⟨1, 0, bn9, ba9, bl9, bc9, rfl, Lib.hid HIn, k2, k7, k8, HB1.out, (HB9.out.mono (by decide)), hb0⟩
  case round =>
    rename World => W1_
    rename Nat => gk1
    clear k2 k7 k8 HB1 HB9
    clear hb0
    obtain ⟨o, k_, wn, wa, wl, wc, rfl, HI1, k2, k7, k8, HB1_, HB10_, hb0⟩ := hrel
    have HB1 := Lib.hid HB1_
    clear HB1_
    have HB10 := Lib.hid HB10_
    clear HB10_
    obtain ⟨z1, hz1⟩ : ∃ o_o : Bool, decide (k_ < n) = o_o := ⟨_, rfl⟩
    cases z1
    · exact absurd (HI1.out.1.yes (of_decide_eq_false hz1)).1 (by rw [HP24.out]; decide)
    · have c2_0 : W1_.cell? ⟨U2.heap.size, 0, none⟩ = some (.bool bn1) := k2.cell 0
      have c2_1 : W1_.cell? ⟨U2.heap.size, 1, none⟩ = some (.slice ba1 bl1 bc1) := k2.cell 1
      have l2 := k2.lt
      have c8_0 : W1_.cell? ⟨U19.heap.size, 0, none⟩ = some (.bool wn) := k8.cell 0
      have c8_1 : W1_.cell? ⟨U19.heap.size, 1, none⟩ = some (.slice wa wl wc) := k8.cell 1
      have l8 := k8.lt
      go_wp2_with fail
      clear c2_0 c2_1 l2 c8_0 c8_1 l8
      obtain ⟨r2, hr2⟩ : ∃ o_o : Int, o * a = o_o := ⟨_, rfl⟩
      have Hr2 := Lib.hid hr2
      clear hr2
      refine (bigMul_v (.agg #[.bool wn, .slice wa wl wc]) (.agg #[.bool bn1, .slice ba1 bl1 bc1]) o a r2 18 18 Hr2.out _ HB10.out HB1.out (by decide)).mono ?_
      rintro e U21 ⟨v_, rfl, hbm, hn⟩
      replace k2 := k2.of hn
      replace k7 := k7.of hn
      replace k8 := k8.of hn
      replace HB1 := Lib.hid (HB1.out.of hn)
      replace HB10 := Lib.hid (HB10.out.of hn)
      replace hb0 := hb0.trans (hn.mono hb0.size)
      clear hn
      have HB11 := Lib.hid hbm
      have hvm := hbm.shape
      clear hbm
      obtain ⟨bn11, ba11, bl11, bc11, rfl⟩ := hvm
      have c8_0 : U21.cell? ⟨U19.heap.size, 0, none⟩ = some (.bool wn) := k8.cell 0
      have c8_1 : U21.cell? ⟨U19.heap.size, 1, none⟩ = some (.slice wa wl wc) := k8.cell 1
      have f8_0 := k8.free 0
      have f8_1 := k8.free 1
      have l8 := k8.lt
      go_wp2_with fail
      clear c8_0 c8_1 f8_0 f8_1 l8
      first | refine calls_w ?_ | refine name_world ?_ | refine list_world ?_ | refine post_world ?_
      intro V22 hV22
      have D24 := Lib.hid k2.lt
      have D25 := Lib.hid k7.lt
      have D26 := Lib.hid k8.lt
      have D27 := Lib.hid hb0.size
      have nk2 : Blk V22 U2.heap.size #[.bool bn1, .slice ba1 bl1 bc1] 34 := by rw [hV22]; exact (blk_setL k2 (by have := D21.out; omega) 0 [.bool bn11, .slice ba11 bl11 bc11])
      have nk7 : Blk V22 U17.heap.size #[.int .u64 (wd0 0), .int .u64 (wd1 0), .int .u64 (wd2 0), .int .u64 (wd3 0)] 24 := by rw [hV22]; exact (blk_setL k7 (by have := D22.out; omega) 0 [.bool bn11, .slice ba11 bl11 bc11])
      have nk8 : Blk V22 U19.heap.size #[.bool bn11, .slice ba11 bl11 bc11] 34 := by rw [hV22]; exact (blk_full _ [.bool bn11, .slice ba11 bl11 bc11] k8 rfl)
      have nhb0 : Below w.heap.size w V22 := by rw [hV22]; exact (blw_setL hb0 (by have := D23.out; omega) 0 [.bool bn11, .slice ba11 bl11 bc11])
      replace HB1 : Hid (Big V22 (.agg #[.bool bn1, .slice ba1 bl1 bc1]) a 18) := Lib.hid (by rw [hV22]; exact (big_setL HB1.out (Blk.cell k8 0) (fun _ h => by cases h) 0 [.bool bn11, .slice ba11 bl11 bc11]))
      replace HB10 : Hid (Big V22 (.agg #[.bool wn, .slice wa wl wc]) o 18) := Lib.hid (by rw [hV22]; exact (big_setL HB10.out (Blk.cell k8 0) (fun _ h => by cases h) 0 [.bool bn11, .slice ba11 bl11 bc11]))
      replace HB11 : Hid (Big V22 (.agg #[.bool bn11, .slice ba11 bl11 bc11]) r2 36) := Lib.hid (by rw [hV22]; exact (big_setL HB11.out (Blk.cell k8 0) (fun _ h => by cases h) 0 [.bool bn11, .slice ba11 bl11 bc11]))
      clear k2 k7 k8
      clear hb0
      clear hV22
      have k2 := nk2
      clear nk2
      have k7 := nk7
      clear nk7
      have k8 := nk8
      clear nk8
      have hb0 := nhb0
      clear nhb0
      obtain ⟨z3, hz3⟩ : ∃ o_o : Bool, okI r2 = o_o := ⟨_, rfl⟩
      have Hz3 := Lib.hid hz3
      clear hz3
      refine (Fits_is (.agg #[.bool bn11, .slice ba11 bl11 bc11]) r2 36 z3 Hz3.out _ HB11.out).mono ?_
      rintro e U23 ⟨rfl, hn⟩
      replace k2 := k2.of hn
      replace k7 := k7.of hn
      replace k8 := k8.of hn
      replace HB1 := Lib.hid (HB1.out.of hn)
      replace HB10 := Lib.hid (HB10.out.of hn)
      replace HB11 := Lib.hid (HB11.out.of hn)
      replace hb0 := hb0.trans (hn.mono hb0.size)
      clear hn
      cases z3
      · have c7_0 : U23.cell? ⟨U17.heap.size, 0, none⟩ = some (.int .u64 (wd0 0)) := k7.cell 0
        have c7_1 : U23.cell? ⟨U17.heap.size, 1, none⟩ = some (.int .u64 (wd1 0)) := k7.cell 1
        have c7_2 : U23.cell? ⟨U17.heap.size, 2, none⟩ = some (.int .u64 (wd2 0)) := k7.cell 2
        have c7_3 : U23.cell? ⟨U17.heap.size, 3, none⟩ = some (.int .u64 (wd3 0)) := k7.cell 3
        have l7 := k7.lt
        go_wp2_with fail
        clear c7_0 c7_1 c7_2 c7_3 l7
        refine (wawake_any _ (hG.of hb0)).mono ?_
        rintro e U24 ⟨rfl, hn⟩
        replace k2 := k2.of hn
        replace k7 := k7.of hn
        replace k8 := k8.of hn
        replace HB1 := Lib.hid (HB1.out.of hn)
        replace HB10 := Lib.hid (HB10.out.of hn)
        replace HB11 := Lib.hid (HB11.out.of hn)
        replace hb0 := hb0.trans (hn.mono hb0.size)
        clear hn
        go_wp2
        first | go_ret | go_ret2
        exact ⟨by first | rfl | (simp; done) | (simp; assumption), hb0⟩
      · go_wp2_with fail
        have HIn : PwI a n r2 (wrap64 (k_ + 1)) ∧ n - (wrap64 (k_ + 1)) ≤ (((n - (wrap64 (k_ + 1))).toNat) : Int) := by
          exact ⟨HI1.out.1.nextM (of_decide_eq_true hz1) Hr2.out (by rw [Hr2.out]; exact Hz3.out), by omega⟩
        go_roundg ((n - (wrap64 (k_ + 1))).toNat)
        case measure =>
          rw [HI1.out.1.w (of_decide_eq_true hz1)]
          have q_ := of_decide_eq_true hz1
          have q2_ := HI1.out.2
          omega
        case rel => exact ⟨r2, (wrap64 (k_ + 1)), bn11, ba11, bl11, bc11, rfl, Lib.hid HIn, k2, k7, k8, HB1.out, (fit_I HB11.out (by have := Hz3.out; unfold okI at this; exact of_decide_eq_true this)), hb0⟩
end Go.Proofs.YtcfiemeknocgjaaDoor

namespace Go.Proofs.YtcfiemeknocgjaaDoor
open Go.RowKit

theorem sz_val {a : Int} (ia : InI a) : (a < 0 → sz a = -a) ∧ (¬ a < 0 → sz a = a) := by
  unfold sz; rw [ng_in ia]
  constructor
  · intro h; rw [decide_eq_true h]; rfl
  · intro h; rw [decide_eq_false h]; rfl
structure BtS (a : Int) : Prop where
  k0 : 0 ≤ btn a
  k1 : btn a ≤ 256
  lt : sz a < 2 ^ (btn a).toNat
  le : 0 < btn a → 2 ^ (wrap64 (btn a - 1)).toNat ≤ sz a
  pos : sz a ≠ 0 → 0 < btn a
theorem bt_sp {a : Int} (ia : InI a) : BtS a := by
  obtain ⟨s0, s1⟩ := sz_in2 ia
  obtain ⟨z, hz⟩ := Int.eq_ofNat_of_zero_le s0
  have sp := Go.bitLen_spec z
  have e : btn a = (Go.bitLen z : Int) := by unfold btn; rw [hz]; rfl
  have hle : Go.bitLen z ≤ 256 := by
    by_cases h : z = 0
    · subst h; decide
    · have h2 := sp.2 h
      have h3 : z < 2 ^ 256 := by
        have e2 : ((2 ^ 256 : Nat) : Int) = 115792089237316195423570985008687907853269984665640564039457584007913129639936 := by decide
        unfold b255 at s1; omega
      have := (Nat.pow_lt_pow_iff_right (by decide : 1 < 2)).1 (Nat.lt_of_le_of_lt h2 h3)
      omega
  have nz : z ≠ 0 → 0 < Go.bitLen z := fun h => by
    have h2 := sp.1
    rcases Nat.eq_zero_or_pos (Go.bitLen z) with g | g
    · rw [g] at h2; simp at h2; exact absurd h2 h
    · exact g
  refine ⟨by omega, by omega, ?_, fun h => ?_, fun h => by have := nz (by omega); omega⟩
  · rw [hz, e]
    have : ((2 ^ Go.bitLen z : Nat) : Int) = 2 ^ (Go.bitLen z : Int).toNat := by rw [Int.toNat_natCast]; exact Int.natCast_pow 2 _
    rw [← this]; exact Int.ofNat_lt.2 sp.1
  · have hw : (wrap64 (btn a - 1)).toNat = Go.bitLen z - 1 := by
      rw [show wrap64 (btn a - 1) = btn a - 1 from wrap64_id (by unfold In64; omega), e]; omega
    rw [hz, hw]
    have hzn : z ≠ 0 := fun g => by
      subst g
      have : Go.bitLen 0 = 0 := by decide
      omega
    have : ((2 ^ (Go.bitLen z - 1) : Nat) : Int) = 2 ^ (Go.bitLen z - 1) := Int.natCast_pow 2 _
    rw [← this]; exact Int.ofNat_le.2 (sp.2 hzn)
theorem c_lt {x y : Int} (h : x < y) : decide (0 ≤ cmpI x y) = false := by rw [cmpI_lt h]; decide
theorem c_ge {x y : Int} (h : y ≤ x) : decide (cmpI x y < 0) = false := by
  rcases Int.lt_or_eq_of_le h with g | g
  · rw [cmpI_gt g]; decide
  · rw [g, cmpI_eq]; decide
theorem c_le {x y : Int} (h : x ≤ y) : decide (0 < cmpI x y) = false := by
  rcases Int.lt_or_eq_of_le h with g | g
  · rw [cmpI_lt g]; decide
  · rw [g, cmpI_eq]; decide
theorem c_gt {x y : Int} (h : y < x) : decide (cmpI x y ≤ 0) = false := by rw [cmpI_gt h]; decide
theorem pwk_neg {a n : Int} (h : n < 0) : pwk a n = false ∧ pwv a n = 0 := by
  have : pwk a n = false := by unfold pwk; rw [decide_eq_true h]; rfl
  exact ⟨this, pw_zero this⟩
theorem pwk_big {a n : Int} (h : ¬ n < 0) (g : 256 < n) : pwk a n = false ∧ pwv a n = 0 := by
  have : pwk a n = false := by unfold pwk; rw [decide_eq_false h, decide_eq_true g]; rfl
  exact ⟨this, pw_zero this⟩
theorem WRo_any (a n : Int) (w : World) (hG : Tab w) (ia : InI a) (i_n : In64 n) :
    Calls Tryd.prog 6 #[wI a, .int .i64 n] w fun e w' => e = .returned (.bool true) ∧ Below w.heap.size w w' := by
  have B := bt_sp ia
  obtain ⟨zn, zp⟩ := sz_val ia
  have k0 : decide (btn a < 0) = false := decide_eq_false (by have := B.k0; omega)
  have k1 : decide (256 < btn a) = false := decide_eq_false (by have := B.k1; omega)
  have ik : Hid (0 ≤ btn a ∧ btn a ≤ 256) := Lib.hid ⟨B.k0, B.k1⟩
  by_cases h : a < 0
  · have z := zn h
    have hs : decide (a.sign < 0) = true := by rw [Int.sign_eq_neg_one_of_neg h]; decide
    have r0 : rtv a = 0 := by unfold rtv; rw [decide_eq_true h]; rfl
    have rk : rtk a = false := by unfold rtk; rw [decide_eq_true h]; rfl
    have kp := B.pos (by omega)
    have cq : decide (0 ≤ cmpI (-a) (2 ^ (btn a).toNat)) = false := c_lt (by have b := B.lt; rw [z] at b; exact b)
    have cq2 : decide (cmpI (-a) (2 ^ (wrap64 (btn a - 1)).toNat) < 0) = false := c_ge (by have b := B.le kp; rw [z] at b; exact b)
    by_cases n0 : n < 0
    · have N := pwk_neg (a := a) n0
      exact WRo_00 a n _ _ _ _ _ _ _ rfl hs rfl k0 k1 rfl rfl rfl cq (decide_eq_true kp) rfl rfl cq2 r0 rk N.2 N.1 (decide_eq_true n0) ik ia i_n w hG
    by_cases n1 : 256 < n
    · have N := pwk_big (a := a) n0 n1
      exact WRo_01 a n _ _ _ _ _ _ _ rfl hs rfl k0 k1 rfl rfl rfl cq (decide_eq_true kp) rfl rfl cq2 r0 rk N.2 N.1 (decide_eq_false n0) (decide_eq_true n1) ik ia i_n w hG
    cases N : pwk a n
    · exact WRo_03 a n _ _ _ _ _ _ _ rfl hs rfl k0 k1 rfl rfl rfl cq (decide_eq_true kp) rfl rfl cq2 r0 rk (pw_zero N) N (decide_eq_false n0) (decide_eq_false n1) ik ia i_n w hG
    · exact WRo_02 a n _ _ _ _ _ _ _ _ rfl hs rfl k0 k1 rfl rfl rfl cq (decide_eq_true kp) rfl rfl cq2 r0 rk rfl N (decide_eq_false n0) (decide_eq_false n1) ik ia i_n w hG
  · have z := zp h
    have hs : decide (a.sign < 0) = false := decide_eq_false (by have := Int.sign_nonneg_iff.2 (show 0 ≤ a by omega); omega)
    have rk : rtk a = true := by unfold rtk; rw [decide_eq_false h]; rfl
    obtain ⟨R0, R1, R2⟩ := rtv_is ia (by omega)
    have ir := rtk_in a ia (by omega)
    have rs0 : decide ((rtv a).sign < 0) = false := decide_eq_false (by have := Int.sign_nonneg_iff.2 R0; omega)
    have c3 := c_le R1
    have c4 := c_gt R2
    by_cases kp : 0 < btn a
    · have cq : decide (0 ≤ cmpI a (2 ^ (btn a).toNat)) = false := c_lt (by have b := B.lt; rw [z] at b; exact b)
      have cq2 : decide (cmpI a (2 ^ (wrap64 (btn a - 1)).toNat) < 0) = false := c_ge (by have b := B.le kp; rw [z] at b; exact b)
      by_cases n0 : n < 0
      · have N := pwk_neg (a := a) n0
        exact WRo_20 a n _ _ _ _ _ _ _ _ _ _ _ _ _ rfl hs rfl k0 k1 rfl rfl cq (decide_eq_true kp) rfl rfl cq2 rfl rk rfl rfl rs0 rfl rfl c3 rfl rfl c4 N.2 N.1 (decide_eq_true n0) ik ir ia i_n w hG
      by_cases n1 : 256 < n
      · have N := pwk_big (a := a) n0 n1
        exact WRo_21 a n _ _ _ _ _ _ _ _ _ _ _ _ _ rfl hs rfl k0 k1 rfl rfl cq (decide_eq_true kp) rfl rfl cq2 rfl rk rfl rfl rs0 rfl rfl c3 rfl rfl c4 N.2 N.1 (decide_eq_false n0) (decide_eq_true n1) ik ir ia i_n w hG
      cases N : pwk a n
      · exact WRo_23 a n _ _ _ _ _ _ _ _ _ _ _ _ _ rfl hs rfl k0 k1 rfl rfl cq (decide_eq_true kp) rfl rfl cq2 rfl rk rfl rfl rs0 rfl rfl c3 rfl rfl c4 (pw_zero N) N (decide_eq_false n0) (decide_eq_false n1) ik ir ia i_n w hG
      · exact WRo_22 a n _ _ _ _ _ _ _ _ _ _ _ _ _ _ rfl hs rfl k0 k1 rfl rfl cq (decide_eq_true kp) rfl rfl cq2 rfl rk rfl rfl rs0 rfl rfl c3 rfl rfl c4 rfl N (decide_eq_false n0) (decide_eq_false n1) ik ir ia i_n w hG
    · have cq : decide (0 ≤ cmpI a (2 ^ (btn a).toNat)) = false := c_lt (by have b := B.lt; rw [z] at b; exact b)
      by_cases n0 : n < 0
      · have N := pwk_neg (a := a) n0
        exact WRo_10 a n _ _ _ _ _ _ _ _ _ _ _ rfl hs rfl k0 k1 rfl rfl cq (decide_eq_false kp) rfl rk rfl rfl rs0 rfl rfl c3 rfl rfl c4 N.2 N.1 (decide_eq_true n0) ik ir ia i_n w hG
      by_cases n1 : 256 < n
      · have N := pwk_big (a := a) n0 n1
        exact WRo_11 a n _ _ _ _ _ _ _ _ _ _ _ rfl hs rfl k0 k1 rfl rfl cq (decide_eq_false kp) rfl rk rfl rfl rs0 rfl rfl c3 rfl rfl c4 N.2 N.1 (decide_eq_false n0) (decide_eq_true n1) ik ir ia i_n w hG
      cases N : pwk a n
      · exact WRo_13 a n _ _ _ _ _ _ _ _ _ _ _ rfl hs rfl k0 k1 rfl rfl cq (decide_eq_false kp) rfl rk rfl rfl rs0 rfl rfl c3 rfl rfl c4 (pw_zero N) N (decide_eq_false n0) (decide_eq_false n1) ik ir ia i_n w hG
      · exact WRo_12 a n _ _ _ _ _ _ _ _ _ _ _ _ rfl hs rfl k0 k1 rfl rfl cq (decide_eq_false kp) rfl rk rfl rfl rs0 rfl rfl c3 rfl rfl c4 rfl N (decide_eq_false n0) (decide_eq_false n1) ik ir ia i_n w hG
end Go.Proofs.YtcfiemeknocgjaaDoor

namespace Go.Proofs.YtcfiemeknocgjaaDoor
open Go.ChangeShapes Go.WideShapes Go.ChangeAt Go.RowKit Go.Joins

/-- the listed variables -/
def laids : List (String × DataW Unit) := [("math/bits.deBruijn32tab", Rows.laid_math_bits_deBruijn32tab), ("math/bits.deBruijn64tab", Rows.laid_math_bits_deBruijn64tab), ("internal/strconv.uint64pow10", Rows.laid_internal_strconv_uint64pow10)]
/-- the powers of ten -/
def pows : List Int := [1, 10, 100, 1000, 10000, 100000, 1000000, 10000000, 100000000, 1000000000, 10000000000, 100000000000, 1000000000000, 10000000000000, 100000000000000, 1000000000000000, 10000000000000000, 100000000000000000, 1000000000000000000, 10000000000000000000]
theorem pows_at : ∀ i, i < 20 → pows[i]? = some (10 ^ i) := by decide +kernel
theorem gPow : Tryd.prog.globalNamed "internal/strconv.uint64pow10" = some 0 := by kernel_rfl
theorem tPow : (Tryd.prog.globals[0]?).map (·.type) = some 85 := by kernel_rfl
theorem door_met (os : Os) (args : Array Value) : laidMetH Tryd.prog laids ((World.doorLaid Tryd.prog 24 os).forCall (fun _ _ => 0) ⟨#[], args, []⟩).memory :=
  laidMetH_of_parts3 (fuel := 8) (laidMet_of_run' 8 (by kernel_rfl) (by kernel_rfl)) (by kernel_rfl) (by kernel_rfl)
theorem tab_of_laid {W : World} (h : laidMetH Tryd.prog laids W) : Tab W := by
  rw [MakeChecks.laidMetH_plain _ _ _ (by kernel_rfl)] at h
  obtain ⟨ps, ⟨g0, t0, cs0, f0, p0, q0, hg0, ht0, hv0, hd0, ⟨g1, t1, cs1, f1, p1, q1, hg1, ht1, hv1, hd1, ⟨g2, t2, cs2, f2, p2, q2, hg2, ht2, hv2, hd2, _, _⟩, _⟩, _⟩, _, _⟩ := h
  obtain rfl := Option.some.inj (gPow.symm.trans hg2)
  obtain rfl := Option.some.inj (tPow.symm.trans ht2)
  have hc : cs2.toList = pows.map fun z => Value.int .u64 z :=
    Lib.cells_of_tab (P := Tryd.prog) Tryd.underlying85 Tryd.underlying22 (by kernel_rfl) (by kernel_rfl) (show DataW.trod _ Tryd.prog W 0 _ false f2 85 cs2.toList = some (Lib.tabData .u64 pows, p2) from hd2)
  have hall : ∀ i, i < 20 → W.cell? ⟨0, i, none⟩ = some (.int .u64 (10 ^ i)) := fun i hi => by
    have := World.var?_cell hg2 hv2 i
    rw [this, ← Array.getElem?_toList, hc, List.getElem?_map, pows_at i hi]; rfl
  refine ⟨?_, hall⟩
  have h0 := hall 0 (by decide)
  unfold World.cell? at h0
  rcases Nat.eq_zero_or_pos W.heap.size with hz | hz
  · rw [Array.getElem?_eq_none (by simp [hz])] at h0; cases h0
  · exact hz

theorem own : ownKnob Tryd.prog.godebug = none := by kernel_rfl
theorem laidOut : laidOutB Tryd.prog = true := by kernel_rfl

/-- any four words are those of a number of 256 bits -/
theorem words_in {a b c d : Int} (ha : Wd a) (hb : Wd b) (hc : Wd c) (hd : Wd d) : ∃ x, InI x ∧ wd0 x = a ∧ wd1 x = b ∧ wd2 x = c ∧ wd3 x = d :=
  ⟨sg (un4 a b c d), sg_bd _, by rw [wd0_sg]; exact wd0_un4 ha, by rw [wd1_sg]; exact wd1_un4 ha hb, by rw [wd2_sg]; exact wd2_un4 ha hb hc, by rw [wd3_sg]; exact wd3_un4 ha hb hc hd⟩

theorem in64_wf {x : Int} (h : (Lit.int .i64 x).wf = true) : In64 x := by
  simp [Lit.wf, IntKind.min, IntKind.max, IntKind.signed, IntKind.bits] at h
  unfold In64; omega

section
variable {H : Type} {enc : TypeId × Value → H} {w : World} {base : Nat} {spare : Nat → Bool} {held : Bool}

theorem wd_of {a : Int} (h : (Lit.int .u64 a).wf = true) : Wd a := by
  simp [Lit.wf, IntKind.min, IntKind.max, IntKind.signed, IntKind.bits] at h
  exact ⟨by omega, by omega⟩

theorem open_four {fuel : Nat} {c0 c1 c2 c3 : Value} {x : DataW H × List MemPlace} (h : DataW.trod enc Tryd.prog w base spare held fuel 24 [c0, c1, c2, c3] = some x) :
    ∃ n, InI n ∧ c0 = .int .u64 (wd0 n) ∧ c1 = .int .u64 (wd1 n) ∧ c2 = .int .u64 (wd2 n) ∧ c3 = .int .u64 (wd3 n) := by
  obtain ⟨y0, y1, y2, y3, m, _, h0, h1, h2, h3⟩ := trod_array4 Tryd.underlying24 (by kernel_rfl) h
  obtain ⟨a0, e0, _, g0⟩ := DataW.trod_int Tryd.underlying22 h0
  obtain ⟨a1, e1, _, g1⟩ := DataW.trod_int Tryd.underlying22 h1
  obtain ⟨a2, e2, _, g2⟩ := DataW.trod_int Tryd.underlying22 h2
  obtain ⟨a3, e3, _, g3⟩ := DataW.trod_int Tryd.underlying22 h3
  obtain ⟨n, hn, w0, w1, w2, w3⟩ := words_in (wd_of g0) (wd_of g1) (wd_of g2) (wd_of g3)
  simp at e0 e1 e2 e3
  exact ⟨n, hn, by rw [e0, w0], by rw [e1, w1], by rw [e2, w2], by rw [e3, w3]⟩

set_option maxRecDepth 100000 in
theorem open_wide {r : Reach} {b0 : Nat} {v : Value} {d : DataW H} {p : List MemPlace} (hv : Value.okWide Tryd.prog w r b0 24 v) (h : DataW.Trod enc Tryd.prog w base spare held 24 v d p) :
    ∃ n, InI n ∧ v = wI n := by
  simp only [Value.okWide, Tryd.underlying24] at hv
  obtain ⟨cs, rfl, hsz, _⟩ := hv
  have hC : Tryd.prog.cellsOf 24 = 4 := by kernel_rfl
  obtain ⟨l⟩ := cs
  match l, hsz.trans hC with
  | [c0, c1, c2, c3], _ =>
    obtain ⟨fuel, hf⟩ := h
    obtain ⟨n, hn, rfl, rfl, rfl, rfl⟩ := open_four hf
    exact ⟨n, hn, rfl⟩

end
end Go.Proofs.YtcfiemeknocgjaaDoor

namespace Go.Proofs.YtcfiemeknocgjaaDoor
open Go.ChangeShapes Go.WideShapes Go.ChangeAt Go.RowKit

set_option maxRecDepth 100000 in
set_option maxHeartbeats 1000000 in
theorem wideRoots_lifted (os : Os) (started : os.Started) (H : Type) (enc : TypeId × Value → H) :
    ReturnsInHanded {} Tryd.checked os 6 .any (fun w args => (Rows.wideRootsSpec.pre enc Tryd.prog Tryd.f6 [] false w args ∧ laidMetH Tryd.prog laids w) ∧ sizedMet enc Tryd.prog Tryd.f6 (OpenSpec.ofChange Rows.wideRootsSpec) false w args) (Rows.wideRootsSpec.post enc Tryd.prog Tryd.f6 false true false false) := by
  refine returnsInHanded_of_change_and (C := Tryd.checked) (X := fun w _ => laidMetH Tryd.prog laids w) (fun _ _ _ hh h => h.of_heap hh) own started (by kernel_rfl) Tryd.func6
    (ChangeSpec.witness_shaped (enc := enc) (C := Tryd.checked) (os := os) (X := fun w _ => laidMetH Tryd.prog laids w) false (World.doorLaid Tryd.prog 24 os) #[wI 0, .int .i64 0] 8 rfl (World.shaped_of_RefB (by kernel_rfl) (by kernel_rfl)) (by kernel_rfl) (by kernel_rfl) (by kernel_rfl) (door_met os _)) ?_
  intro W base args ds gs before hval0 hW _ _ hL _
  have hval : ∀ (j : Nat) t v, Tryd.f6.params[j]? = some t → args[j]? = some v → Value.okWide Tryd.prog W .any base t v := hval0
  have hW' := hW
  obtain ⟨p, q, hA0, hV, rfl, hfz, hnd⟩ := hW
  have hA : DataW.TrodAll enc Tryd.prog W 0 (fun _ => true) true Tryd.f6.params.toList args.toList ds p := hA0
  rw [Tryd.params6] at hA hval
  obtain ⟨v0, vs0, d0, ds0, p0, q0, hargs, rfl, rfl, h0, r0⟩ := trodAll_cons hA
  obtain ⟨v1, vs1, d1, ds1, p1, q1, rfl, rfl, rfl, h1, r1⟩ := trodAll_cons r0
  obtain ⟨rfl, rfl, rfl⟩ := trodAll_nil r1
  obtain rfl : args = #[v0, v1] := by cases args; simp_all
  obtain ⟨rfl, rfl⟩ := trodVars_none hV
  have k0 := h0
  have lt0 : ∀ x ∈ p0, x.block < W.heap.size := by obtain ⟨m, hm⟩ := k0; exact DataW.trod_lt m _ _ _ hm
  obtain ⟨x0, ix0, rfl⟩ := open_wide (hval 0 24 v0 rfl rfl) h0
  obtain ⟨x1, rfl, rfl, rfl, wx1⟩ := open_int Tryd.underlying3 (hval 1 3 v1 rfl rfl) h1
  have ix1 := in64_wf wx1
  clear hA0 hval0
  refine (WRo_any x0 x1 W (tab_of_laid hL) ix0 ix1).mono fun e W' ⟨he, bel⟩ => ?_
  subst he
  exact ⟨_, rfl, _, _, _, [], _, [], hW', trodAll_mk1 (shut_bool Tryd.underlying4 _), (trodAll_cons_mk (Below.trod laidOut (by kernel_rfl) (of_decide_eq_true (by kernel_rfl)) k0 bel lt0) (trodAll_cons_mk (shut_int Tryd.underlying3 wx1) trodAll_mk0)), rfl, bel.frame _, fun h => by cases h⟩

theorem wideRoots_holds : Rows.WideRootsSaid :=
  OpenClaim.holds_of_wide 6 Tryd.f6 rfl rfl rfl rfl rfl rfl rfl ⟨rfl, rfl, rfl, rfl, rfl⟩ rfl rfl rfl rfl rfl (by kernel_rfl) Tryd.func6 (by kernel_rfl)
    (of_decide_eq_true (by kernel_rfl)) (by unfold Func.isWrapper; rw [if_neg (by decide +kernel)]; exact ⟨rfl, rfl⟩)
    (fun os started H enc _ => wideRoots_lifted os started H enc)
theorem wideRoots_card : Rows.WideRootsCardSaid :=
  Claim7.holds_tied_plain_at .later [] [.data, .data, .data] true (true, "4ed2527afac2d7ec0dcbcf78eea59b09af1b3151fa01c10099263eb9a408d09b") false
    wideRoots_holds (fun _ h => by cases h) (by kernel_rfl) (fun _ h => by cases h) wideRoots_row_tie rfl ⟨rfl, rfl⟩ (by kernel_rfl) rfl
    (fun f fn hf hfn => by
      obtain rfl : f = 6 := Option.some.inj ((show Tryd.prog.funcNamed "groma/gromalaw01.WideRoots" = some 6 by kernel_rfl).symm.trans hf) |>.symm
      obtain rfl : fn = Tryd.f6 := (Option.some.inj (Tryd.func6.symm.trans hfn)).symm
      exact ⟨by kernel_rfl, fun j t ht => by
        rw [Tryd.params6] at ht
        have hm : t ∈ [24, 3] := by simpa using Array.mem_of_getElem? ht
        have hall : ([24, 3].all fun u => !Tryd.prog.wantsStandIn u) = true := by kernel_rfl
        exact (show Tryd.prog.wantsStandIn t = false by simpa using List.all_eq_true.1 hall t hm)⟩)
    (by kernel_rfl)
#print axioms wideRoots_card
end Go.Proofs.YtcfiemeknocgjaaDoor

