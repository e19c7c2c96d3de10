/- The walk of gromalaw01.WideRoots (part 2). Conditions: the numbers are ints and numbers of 256 bits. -/
import Derived.Test.YtcfiemeknocgjaaDoorWrL0
namespace Go.Proofs.YtcfiemeknocgjaaDoor
open Go.RowKit

theorem alWrL0_0 : AllocRuns Tryd.prog 34 #[.bool false, .slice none 0 0] := fun w => by kernel_rfl

set_option maxRecDepth 100000 in
set_option maxHeartbeats 4000000 in

theorem WRo_10 (a : Int) (n : Int) (s : Int) (k : Int) (q : Int) (c1 : Int) (r : Int) (t : Int) (rs : Int) (rr : Int) (c3 : Int) (tt : Int) (c4 : Int)   (hP0 : a.sign = s) (hP1 : decide (s < 0) = false) (hP2 : btn a = k) (hP3 : decide (k < 0) = false) (hP4 : decide (256 < k) = false) (hP5 : 2 ^ k.toNat = q) (hP6 : cmpI a q = c1) (hP7 : decide (0 ≤ c1) = false) (hP8 : decide (0 < k) = false) (hP9 : rtv a = r) (hP10 : rtk a = true) (hP11 : r + 1 = t) (hP12 : r.sign = rs) (hP13 : decide (rs < 0) = false) (hP14 : r * r = rr) (hP15 : cmpI rr a = c3) (hP16 : decide (0 < c3) = false) (hP17 : t * t = tt) (hP18 : cmpI tt a = c4) (hP19 : decide (c4 ≤ 0) = false) (hP20 : pwv a n = 0) (hP21 : pwk a n = false) (hP22 : decide (n < 0) = true) (_ik : Hid (0 ≤ k ∧ k ≤ 256)) (_ir : InI r) (_ia : InI a) (_in : In64 n)  (w : World) (hG : Tab w) :
    Calls Tryd.prog 6 #[.agg #[.int .u64 (wd0 a), .int .u64 (wd1 a), .int .u64 (wd2 a), .int .u64 (wd3 a)], .int .i64 n] w fun e w' => e = .returned (.bool true) ∧ Below w.heap.size w w' := by

  have HP0 := Lib.hid hP0
  clear hP0
  have HP2 := Lib.hid hP2
  clear hP2
  have HP5 := Lib.hid hP5
  clear hP5
  have HP6 := Lib.hid hP6
  clear hP6
  have HP9 := Lib.hid hP9
  clear hP9
  have HP10 := Lib.hid hP10
  clear hP10
  have HP11 := Lib.hid hP11
  clear hP11
  have HP12 := Lib.hid hP12
  clear hP12
  have HP14 := Lib.hid hP14
  clear hP14
  have HP15 := Lib.hid hP15
  clear hP15
  have HP17 := Lib.hid hP17
  clear hP17
  have HP18 := Lib.hid hP18
  clear hP18
  have HP20 := Lib.hid hP20
  clear hP20
  have HP21 := Lib.hid hP21
  clear hP21
  go_enter Tryd.func6, Tryd.ntmps6
  go_wp2_with fail
  first | refine calls_w ?_ | refine name_world ?_ | refine list_world ?_ | refine post_world ?_
  intro V1 hV1
  have hn : Below w.heap.size w V1 := by rw [hV1]; exact below_a1 _ _
  have nhb0 := hn
  have k1 : Blk V1 w.heap.size #[.int .u64 (wd0 a), .int .u64 (wd1 a), .int .u64 (wd2 a), .int .u64 (wd3 a)] 24 := by rw [hV1]; exact (Blk.new _ _ _)
  clear hV1
  have hb0 := nhb0
  clear nhb0
  refine (Read_v a a rfl _ia _).mono ?_
  rintro e U2 ⟨v_, rfl, hbm, hn⟩
  replace k1 := k1.of hn
  replace hb0 := hb0.trans (hn.mono hb0.size)
  clear hn
  have HB1 := Lib.hid hbm
  have hvm := hbm.shape
  clear hbm
  obtain ⟨bn1, ba1, bl1, bc1, rfl⟩ := hvm
  go_wp2_with fail
  first | refine calls_w ?_ | refine name_world ?_ | refine list_world ?_ | refine post_world ?_
  intro V3 hV3
  have D1 := Lib.hid k1.lt
  have D2 := Lib.hid hb0.size
  have hn : Below U2.heap.size U2 V3 := by rw [hV3]; exact below_a2 _ _ _
  have nk1 := k1.of hn
  replace HB1 := Lib.hid (HB1.out.of hn)
  have nhb0 := hb0.trans (hn.mono hb0.size)
  clear hn
  have k2 : Blk V3 U2.heap.size #[.bool bn1, .slice ba1 bl1 bc1] 34 := by rw [hV3]; exact ((Blk.new _ _ _).alloc _)
  have k3 : Blk V3 (U2.heap.size + 1) #[.bool bn1, .slice ba1 bl1 bc1] 34 := by rw [hV3]; exact (Blk.new1 _ _ _ _)
  clear k1
  clear hb0
  clear hV3
  have k1 := nk1
  clear nk1
  have hb0 := nhb0
  clear nhb0
  refine (bigSign_v (.agg #[.bool bn1, .slice ba1 bl1 bc1]) a 18 s HP0.out _ HB1.out).mono ?_
  rintro e U4 ⟨rfl, hn⟩
  replace k1 := k1.of hn
  replace k2 := k2.of hn
  replace k3 := k3.of hn
  replace HB1 := Lib.hid (HB1.out.of hn)
  replace hb0 := hb0.trans (hn.mono hb0.size)
  clear hn
  have c1_0 : U4.cell? ⟨w.heap.size, 0, none⟩ = some (.int .u64 (wd0 a)) := k1.cell 0
  have c1_1 : U4.cell? ⟨w.heap.size, 1, none⟩ = some (.int .u64 (wd1 a)) := k1.cell 1
  have c1_2 : U4.cell? ⟨w.heap.size, 2, none⟩ = some (.int .u64 (wd2 a)) := k1.cell 2
  have c1_3 : U4.cell? ⟨w.heap.size, 3, none⟩ = some (.int .u64 (wd3 a)) := k1.cell 3
  have l1 := k1.lt
  go_wp2_with fail
  clear c1_0 c1_1 c1_2 c1_3 l1
  refine (Bits_v a k HP2.out _ia _).mono ?_
  rintro e U5 ⟨rfl, hn⟩
  replace k1 := k1.of hn
  replace k2 := k2.of hn
  replace k3 := k3.of hn
  replace HB1 := Lib.hid (HB1.out.of hn)
  replace hb0 := hb0.trans (hn.mono hb0.size)
  clear hn
  go_wp2_with fail
  have c3_0 : U5.cell? ⟨(U2.heap.size + 1), 0, none⟩ = some (.bool bn1) := k3.cell 0
  have c3_1 : U5.cell? ⟨(U2.heap.size + 1), 1, none⟩ = some (.slice ba1 bl1 bc1) := k3.cell 1
  have l3 := k3.lt
  have Kk1 := Lib.hid k1
  clear k1
  have Kk2 := Lib.hid k2
  clear k2
  have Kk3 := Lib.hid k3
  clear k3
  refine wp_region_up U5.heap.size 21 [(true, 0), (true, 1), (true, 2), (true, 3), (true, 4), (true, 5), (true, 6), (true, 7), (true, 8), (false, 9), (false, 10), (true, 11), (true, 12), (true, 13), (true, 14), (true, 15), (true, 16), (true, 17), (true, 18), (true, 19), (false, 20)] (by kernel_rfl) (by kernel_rfl) (fun _ _ d _ _ h => by cases d <;> exact h) ?_
  have hb : Below U5.heap.size U5 U5.drew := (Below.refl _ _).drew
  iterate 9
    refine wpS_takeL rfl rfl ?_
    go_big_quiet_step (rfl)
    refine wpQuiet_nil ?_
  refine wpS_doL rfl ?_
  intro K hK
  go_wp2_with ((go_at_call 21; (with_reducible refine (powk_v k q _ik.out HP5.out _).mono ?_); rintro e w2 ⟨v_, rfl, hbm, hn⟩; have HB2 := Lib.hid hbm; have hvm := hbm.shape; clear hbm; obtain ⟨bn2, ba2, bl2, bc2, rfl⟩ := hvm))
  try replace hb := hb.trans (hn.mono hb.size)
  refine hK.out _ _ (up_iff.2 hb) ?_
  clear hK K
  try clear hn
  refine wpS_doL rfl ?_
  intro K hK
  go_wp2_with ((go_at_call 20; (with_reducible refine (bigCmp_v (.agg #[.bool bn1, .slice ba1 bl1 bc1]) (.agg #[.bool bn2, .slice ba2 bl2 bc2]) a q 18 18 c1 HP6.out _ (HB1.out.of hb) HB2.out).mono ?_); rintro e w2 ⟨rfl, hn⟩; replace HB2 := Lib.hid (HB2.out.of hn)))
  try replace hb := hb.trans (hn.mono hb.size)
  refine hK.out _ _ (up_iff.2 hb) ?_
  clear hK K
  try clear hn
  iterate 9
    refine wpS_takeL rfl rfl ?_
    go_big_quiet_step (rfl)
    refine wpQuiet_nil ?_
  refine wpS_doL rfl ?_
  intro K hK
  go_wp2_with ((go_at_call 21; (with_reducible refine (powk_v k q _ik.out HP5.out _).mono ?_); rintro e w2 ⟨v_, rfl, hbm, hn⟩; have HB2 := Lib.hid hbm; have hvm := hbm.shape; clear hbm; obtain ⟨bn2, ba2, bl2, bc2, rfl⟩ := hvm))
  try replace hb := hb.trans (hn.mono hb.size)
  refine hK.out _ _ (up_iff.2 hb) ?_
  clear hK K
  try clear hn
  refine wpS_nil ?_
  simp only [List.drop_succ_cons, List.drop_zero]
  first | refine calls_w ?_ | refine name_world ?_ | refine list_world ?_ | refine post_world ?_
  intro U6 hU6
  first | (subst hU6; have u_ := U6; clear u_) | (rw [← hU6] at hb; clear hU6)
  clear c3_0 c3_1 l3
  have k1 := Kk1.out.of hb
  clear Kk1
  have k2 := Kk2.out.of hb
  clear Kk2
  have k3 := Kk3.out.of hb
  clear Kk3
  replace HB1 := Lib.hid (HB1.out.of hb)
  replace hb0 := hb0.trans (hb.mono hb0.size)
  clear hb
  have c1_0 : U6.cell? ⟨w.heap.size, 0, none⟩ = some (.int .u64 (wd0 a)) := k1.cell 0
  have c1_1 : U6.cell? ⟨w.heap.size, 1, none⟩ = some (.int .u64 (wd1 a)) := k1.cell 1
  have c1_2 : U6.cell? ⟨w.heap.size, 2, none⟩ = some (.int .u64 (wd2 a)) := k1.cell 2
  have c1_3 : U6.cell? ⟨w.heap.size, 3, none⟩ = some (.int .u64 (wd3 a)) := k1.cell 3
  have l1 := k1.lt
  go_wp2_with fail
  clear c1_0 c1_1 c1_2 c1_3 l1
  refine (Root_v a r true HP9.out HP10.out _ia _).mono ?_
  rintro e U7 ⟨rfl, hn⟩
  clear HB2
  clear k3
  replace k1 := k1.of hn
  replace k2 := k2.of hn
  replace HB1 := Lib.hid (HB1.out.of hn)
  replace hb0 := hb0.trans (hn.mono hb0.size)
  clear hn
  have c2_0 : U7.cell? ⟨U2.heap.size, 0, none⟩ = some (.bool bn1) := k2.cell 0
  have c2_1 : U7.cell? ⟨U2.heap.size, 1, none⟩ = some (.slice ba1 bl1 bc1) := k2.cell 1
  have l2 := k2.lt
  go_wp2_with fail
  clear c2_0 c2_1 l2
  first | refine calls_w ?_ | refine name_world ?_ | refine list_world ?_ | refine post_world ?_
  intro V8 hV8
  have D3 := Lib.hid k1.lt
  have D4 := Lib.hid k2.lt
  have D5 := Lib.hid hb0.size
  have hn : Below U7.heap.size U7 V8 := by rw [hV8]; exact below_a1 _ _
  have nk1 := k1.of hn
  have nk2 := k2.of hn
  replace HB1 := Lib.hid (HB1.out.of hn)
  have nhb0 := hb0.trans (hn.mono hb0.size)
  clear hn
  have k4 : Blk V8 U7.heap.size #[.int .u64 (wd0 r), .int .u64 (wd1 r), .int .u64 (wd2 r), .int .u64 (wd3 r)] 24 := by rw [hV8]; exact (Blk.new _ _ _)
  clear k1 k2
  clear hb0
  clear hV8
  have k1 := nk1
  clear nk1
  have k2 := nk2
  clear nk2
  have hb0 := nhb0
  clear nhb0
  refine (bigSign_v (.agg #[.bool bn1, .slice ba1 bl1 bc1]) a 18 s HP0.out _ HB1.out).mono ?_
  rintro e U9 ⟨rfl, hn⟩
  replace k1 := k1.of hn
  replace k2 := k2.of hn
  replace k4 := k4.of hn
  replace HB1 := Lib.hid (HB1.out.of hn)
  replace hb0 := hb0.trans (hn.mono hb0.size)
  clear hn
  have c4_0 : U9.cell? ⟨U7.heap.size, 0, none⟩ = some (.int .u64 (wd0 r)) := k4.cell 0
  have c4_1 : U9.cell? ⟨U7.heap.size, 1, none⟩ = some (.int .u64 (wd1 r)) := k4.cell 1
  have c4_2 : U9.cell? ⟨U7.heap.size, 2, none⟩ = some (.int .u64 (wd2 r)) := k4.cell 2
  have c4_3 : U9.cell? ⟨U7.heap.size, 3, none⟩ = some (.int .u64 (wd3 r)) := k4.cell 3
  have l4 := k4.lt
  go_wp2_with fail
  clear c4_0 c4_1 c4_2 c4_3 l4
  refine (Read_v r r rfl _ir _).mono ?_
  rintro e U10 ⟨v_, rfl, hbm, hn⟩
  clear k4
  replace k1 := k1.of hn
  replace k2 := k2.of hn
  replace HB1 := Lib.hid (HB1.out.of hn)
  replace hb0 := hb0.trans (hn.mono hb0.size)
  clear hn
  have HB3 := Lib.hid hbm
  have hvm := hbm.shape
  clear hbm
  obtain ⟨bn3, ba3, bl3, bc3, rfl⟩ := hvm
  go_wp2_with fail
  first | refine calls_w ?_ | refine name_world ?_ | refine list_world ?_ | refine post_world ?_
  intro V11 hV11
  have D6 := Lib.hid k1.lt
  have D7 := Lib.hid k2.lt
  have D8 := Lib.hid hb0.size
  have hn : Below U10.heap.size U10 V11 := by rw [hV11]; exact below_a1 _ _
  have nk1 := k1.of hn
  have nk2 := k2.of hn
  replace HB1 := Lib.hid (HB1.out.of hn)
  replace HB3 := Lib.hid (HB3.out.of hn)
  have nhb0 := hb0.trans (hn.mono hb0.size)
  clear hn
  have k5 : Blk V11 U10.heap.size #[.bool bn3, .slice ba3 bl3 bc3] 34 := by rw [hV11]; exact (Blk.new _ _ _)
  clear k1 k2
  clear hb0
  clear hV11
  have k1 := nk1
  clear nk1
  have k2 := nk2
  clear nk2
  have hb0 := nhb0
  clear nhb0
  have c5_0 : V11.cell? ⟨U10.heap.size, 0, none⟩ = some (.bool bn3) := k5.cell 0
  have c5_1 : V11.cell? ⟨U10.heap.size, 1, none⟩ = some (.slice ba3 bl3 bc3) := k5.cell 1
  have l5 := k5.lt
  have Kk1 := Lib.hid k1
  clear k1
  have Kk2 := Lib.hid k2
  clear k2
  have Kk5 := Lib.hid k5
  clear k5
  refine wp_region_float1 4 3 [(true, 0), (false, 1), (false, 2)] (by kernel_rfl) (by kernel_rfl) (fun _ _ d _ _ => by cases d <;> exact Iff.rfl) rfl rfl rfl alWrL0_0 ?_
  have hb : Below V11.heap.size V11 V11.drew := (Below.refl _ _).drew
  refine wpF_take rfl rfl ?_
  go_big_quiet_step (rfl)
  refine wpQuiet_nil ?_
  refine wpF_do rfl ?_
  intro w1 hg K hK
  replace hb := hb.trans (hg.mono hb.size)
  try replace HB4 := Lib.hid (HB4.out.of hg); try replace HB5 := Lib.hid (HB5.out.of hg)
  clear hg
  go_wp2_with ((go_at_call 24; (with_reducible refine (bigOf_v 1 1 rfl (by unfold In64; omega) _).mono ?_); rintro e w2 ⟨v_, rfl, hbm, hn⟩; have HB4 := Lib.hid hbm; have hvm := hbm.shape; clear hbm; obtain ⟨bn4, ba4, bl4, bc4, rfl⟩ := hvm))
  refine hK.out _ _ hn ?_
  replace hb := hb.trans (hn.mono hb.size)
  clear hK K
  clear hn
  refine wpF_do rfl ?_
  intro w1 hg K hK
  replace hb := hb.trans (hg.mono hb.size)
  try replace HB4 := Lib.hid (HB4.out.of hg); try replace HB5 := Lib.hid (HB5.out.of hg)
  clear hg
  go_wp2_with ((go_at_call 23; (with_reducible refine (bigAdd_v (.agg #[.bool bn3, .slice ba3 bl3 bc3]) (.agg #[.bool bn4, .slice ba4 bl4 bc4]) r 1 t 18 HP11.out _ (HB3.out.of hb) (HB4.out.mono (by decide)) (by decide)).mono ?_); rintro e w2 ⟨v_, rfl, hbm, hn⟩; replace HB4 := Lib.hid (HB4.out.of hn); have HB5 := Lib.hid hbm; have hvm := hbm.shape; clear hbm; obtain ⟨bn5, ba5, bl5, bc5, rfl⟩ := hvm))
  refine hK.out _ _ hn ?_
  replace hb := hb.trans (hn.mono hb.size)
  clear hK K
  clear hn
  refine wpF_nil ?_
  clear hb
  intro w1 hg hb b1 lb1 nb1
  replace HB4 := Lib.hid (HB4.out.of hg)
  replace HB5 := Lib.hid (HB5.out.of hg)
  clear hg
  simp only [Act.put, ptrTo, List.setIfInBounds_toArray, List.set_cons_succ, List.set_cons_zero]
  simp only [List.drop_succ_cons, List.drop_zero]
  clear c5_0 c5_1 l5
  first | refine calls_w ?_ | refine name_world ?_ | refine list_world ?_ | refine post_world ?_
  intro U12 hU12
  subst hU12
  have D9 := Lib.hid Kk1.out.lt
  have D10 := Lib.hid Kk2.out.lt
  have D11 := Lib.hid Kk5.out.lt
  have D12 := Lib.hid hb0.size
  have k6 : Blk U12 b1 #[.bool false, .slice none 0 0] 34 := nb1
  have k1 := Kk1.out.of hb
  clear Kk1
  have k2 := Kk2.out.of hb
  clear Kk2
  have k5 := Kk5.out.of hb
  clear Kk5
  have D13 := Lib.hid lb1
  clear nb1 lb1
  replace HB1 := Lib.hid (HB1.out.of hb)
  replace HB3 := Lib.hid (HB3.out.of hb)
  replace hb0 := hb0.trans (hb.mono hb0.size)
  clear hb
  generalize b1 = q6 at *
  have c6_0 : U12.cell? ⟨q6, 0, none⟩ = some (.bool false) := k6.cell 0
  have c6_1 : U12.cell? ⟨q6, 1, none⟩ = some (.slice none 0 0) := k6.cell 1
  have f6_0 := k6.free 0
  have f6_1 := k6.free 1
  have l6 := k6.lt
  go_wp2_with fail
  clear c6_0 c6_1 f6_0 f6_1 l6
  first | refine calls_w ?_ | refine name_world ?_ | refine list_world ?_ | refine post_world ?_
  intro V13 hV13
  clear HB4
  have D14 := Lib.hid k1.lt
  have D15 := Lib.hid k2.lt
  have D16 := Lib.hid k5.lt
  have D17 := Lib.hid k6.lt
  have D18 := Lib.hid hb0.size
  have nk1 : Blk V13 w.heap.size #[.int .u64 (wd0 a), .int .u64 (wd1 a), .int .u64 (wd2 a), .int .u64 (wd3 a)] 24 := by rw [hV13]; exact (blk_setL k1 (by have := D9.out; have := D13.out; omega) 0 [.bool bn5, .slice ba5 bl5 bc5])
  have nk2 : Blk V13 U2.heap.size #[.bool bn1, .slice ba1 bl1 bc1] 34 := by rw [hV13]; exact (blk_setL k2 (by have := D10.out; have := D13.out; omega) 0 [.bool bn5, .slice ba5 bl5 bc5])
  have nk5 : Blk V13 U10.heap.size #[.bool bn3, .slice ba3 bl3 bc3] 34 := by rw [hV13]; exact (blk_setL k5 (by have := D11.out; have := D13.out; omega) 0 [.bool bn5, .slice ba5 bl5 bc5])
  have nk6 : Blk V13 q6 #[.bool bn5, .slice ba5 bl5 bc5] 34 := by rw [hV13]; exact (blk_full _ [.bool bn5, .slice ba5 bl5 bc5] k6 rfl)
  have nhb0 : Below w.heap.size w V13 := by rw [hV13]; exact (blw_setL hb0 (by have := D12.out; have := D13.out; omega) 0 [.bool bn5, .slice ba5 bl5 bc5])
  replace HB1 : Hid (Big V13 (.agg #[.bool bn1, .slice ba1 bl1 bc1]) a 18) := Lib.hid (by rw [hV13]; exact (big_setL HB1.out (Blk.cell k6 0) (fun _ h => by cases h) 0 [.bool bn5, .slice ba5 bl5 bc5]))
  replace HB3 : Hid (Big V13 (.agg #[.bool bn3, .slice ba3 bl3 bc3]) r 18) := Lib.hid (by rw [hV13]; exact (big_setL HB3.out (Blk.cell k6 0) (fun _ h => by cases h) 0 [.bool bn5, .slice ba5 bl5 bc5]))
  replace HB5 : Hid (Big V13 (.agg #[.bool bn5, .slice ba5 bl5 bc5]) t 19) := Lib.hid (by rw [hV13]; exact (big_setL HB5.out (Blk.cell k6 0) (fun _ h => by cases h) 0 [.bool bn5, .slice ba5 bl5 bc5]))
  clear k1 k2 k5 k6
  clear hb0
  clear hV13
  have k1 := nk1
  clear nk1
  have k2 := nk2
  clear nk2
  have k5 := nk5
  clear nk5
  have k6 := nk6
  clear nk6
  have hb0 := nhb0
  clear nhb0
  have c2_0 : V13.cell? ⟨U2.heap.size, 0, none⟩ = some (.bool bn1) := k2.cell 0
  have c2_1 : V13.cell? ⟨U2.heap.size, 1, none⟩ = some (.slice ba1 bl1 bc1) := k2.cell 1
  have l2 := k2.lt
  have c5_0 : V13.cell? ⟨U10.heap.size, 0, none⟩ = some (.bool bn3) := k5.cell 0
  have c5_1 : V13.cell? ⟨U10.heap.size, 1, none⟩ = some (.slice ba3 bl3 bc3) := k5.cell 1
  have l5 := k5.lt
  have c6_0 : V13.cell? ⟨q6, 0, none⟩ = some (.bool bn5) := k6.cell 0
  have c6_1 : V13.cell? ⟨q6, 1, none⟩ = some (.slice ba5 bl5 bc5) := k6.cell 1
  have l6 := k6.lt
  have Kk1 := Lib.hid k1
  clear k1
  have Kk2 := Lib.hid k2
  clear k2
  have Kk5 := Lib.hid k5
  clear k5
  have Kk6 := Lib.hid k6
  clear k6
  refine wp_region_up V13.heap.size 20 [(true, 0), (true, 1), (true, 2), (true, 3), (false, 4), (true, 5), (true, 6), (true, 7), (true, 8), (true, 9), (true, 11), (false, 10), (false, 12), (true, 13), (true, 14), (true, 15), (true, 16), (true, 17), (true, 19), (false, 18)] (by kernel_rfl) (by kernel_rfl) (fun _ _ d _ _ h => by cases d <;> exact h) ?_
  have hb : Below V13.heap.size V13 V13.drew := (Below.refl _ _).drew
  iterate 4
    refine wpS_takeL rfl rfl ?_
    go_big_quiet_step (rfl)
    refine wpQuiet_nil ?_
  refine wpS_doL rfl ?_
  intro K hK
  go_wp2_with ((go_at_call 17; (with_reducible refine (bigSign_v (.agg #[.bool bn3, .slice ba3 bl3 bc3]) r 18 rs HP12.out _ (HB3.out.of hb)).mono ?_); rintro e w2 ⟨rfl, hn⟩))
  try replace hb := hb.trans (hn.mono hb.size)
  refine hK.out _ _ (up_iff.2 hb) ?_
  clear hK K
  try clear hn
  iterate 6
    refine wpS_takeL rfl rfl ?_
    go_big_quiet_step (rfl)
    refine wpQuiet_nil ?_
  refine wpS_doL rfl ?_
  intro K hK
  go_wp2_with ((first | (go_at_call 25; (with_reducible refine (bigMul_v (.agg #[.bool bn3, .slice ba3 bl3 bc3]) (.agg #[.bool bn3, .slice ba3 bl3 bc3]) r r rr 18 18 HP14.out _ (HB3.out.of hb) (HB3.out.of hb) (by decide)).mono ?_); rintro e w2 ⟨v_, rfl, hbm, hn⟩; have HB6 := Lib.hid hbm; have hvm := hbm.shape; clear hbm; obtain ⟨bn6, ba6, bl6, bc6, rfl⟩ := hvm) | (go_at_call 25; (with_reducible refine (bigMul_v (.agg #[.bool bn5, .slice ba5 bl5 bc5]) (.agg #[.bool bn5, .slice ba5 bl5 bc5]) t t tt 19 19 HP17.out _ (HB5.out.of hb) (HB5.out.of hb) (by decide)).mono ?_); rintro e w2 ⟨v_, rfl, hbm, hn⟩; replace HB6 := Lib.hid (HB6.out.of hn); have HB7 := Lib.hid hbm; have hvm := hbm.shape; clear hbm; obtain ⟨bn7, ba7, bl7, bc7, rfl⟩ := hvm)))
  try replace hb := hb.trans (hn.mono hb.size)
  refine hK.out _ _ (up_iff.2 hb) ?_
  clear hK K
  try clear hn
  refine wpS_doL rfl ?_
  intro K hK
  go_wp2_with ((go_at_call 20; (with_reducible refine (bigCmp_v (.agg #[.bool bn6, .slice ba6 bl6 bc6]) (.agg #[.bool bn1, .slice ba1 bl1 bc1]) rr a 36 18 c3 HP15.out _ HB6.out (HB1.out.of hb)).mono ?_); rintro e w2 ⟨rfl, hn⟩; replace HB6 := Lib.hid (HB6.out.of hn)))
  try replace hb := hb.trans (hn.mono hb.size)
  refine hK.out _ _ (up_iff.2 hb) ?_
  clear hK K
  try clear hn
  iterate 6
    refine wpS_takeL rfl rfl ?_
    go_big_quiet_step (rfl)
    refine wpQuiet_nil ?_
  refine wpS_doL rfl ?_
  intro K hK
  go_wp2_with ((first | (go_at_call 25; (with_reducible refine (bigMul_v (.agg #[.bool bn3, .slice ba3 bl3 bc3]) (.agg #[.bool bn3, .slice ba3 bl3 bc3]) r r rr 18 18 HP14.out _ (HB3.out.of hb) (HB3.out.of hb) (by decide)).mono ?_); rintro e w2 ⟨v_, rfl, hbm, hn⟩; have HB6 := Lib.hid hbm; have hvm := hbm.shape; clear hbm; obtain ⟨bn6, ba6, bl6, bc6, rfl⟩ := hvm) | (go_at_call 25; (with_reducible refine (bigMul_v (.agg #[.bool bn5, .slice ba5 bl5 bc5]) (.agg #[.bool bn5, .slice ba5 bl5 bc5]) t t tt 19 19 HP17.out _ (HB5.out.of hb) (HB5.out.of hb) (by decide)).mono ?_); rintro e w2 ⟨v_, rfl, hbm, hn⟩; replace HB6 := Lib.hid (HB6.out.of hn); have HB7 := Lib.hid hbm; have hvm := hbm.shape; clear hbm; obtain ⟨bn7, ba7, bl7, bc7, rfl⟩ := hvm)))
  try replace hb := hb.trans (hn.mono hb.size)
  refine hK.out _ _ (up_iff.2 hb) ?_
  clear hK K
  try clear hn
  refine wpS_nil ?_
  simp only [List.drop_succ_cons, List.drop_zero]
  first | refine calls_w ?_ | refine name_world ?_ | refine list_world ?_ | refine post_world ?_
  intro U14 hU14
  first | (subst hU14; have u_ := U14; clear u_) | (rw [← hU14] at hb; clear hU14)
  clear c2_0 c2_1 l2 c5_0 c5_1 l5 c6_0 c6_1 l6
  have k1 := Kk1.out.of hb
  clear Kk1
  have k2 := Kk2.out.of hb
  clear Kk2
  have k5 := Kk5.out.of hb
  clear Kk5
  have k6 := Kk6.out.of hb
  clear Kk6
  replace HB1 := Lib.hid (HB1.out.of hb)
  replace HB3 := Lib.hid (HB3.out.of hb)
  replace HB5 := Lib.hid (HB5.out.of hb)
  replace hb0 := hb0.trans (hb.mono hb0.size)
  clear hb
  go_wp2_with fail
  refine (bigCmp_v (.agg #[.bool bn7, .slice ba7 bl7 bc7]) (.agg #[.bool bn1, .slice ba1 bl1 bc1]) tt a 38 18 c4 HP18.out _ HB7.out HB1.out).mono ?_
  rintro e U15 ⟨rfl, hn⟩
  clear HB3 HB5 HB6 HB7
  clear k5 k6
  replace k1 := k1.of hn
  replace k2 := k2.of hn
  replace HB1 := Lib.hid (HB1.out.of hn)
  replace hb0 := hb0.trans (hn.mono hb0.size)
  clear hn
  have c1_0 : U15.cell? ⟨w.heap.size, 0, none⟩ = some (.int .u64 (wd0 a)) := k1.cell 0
  have c1_1 : U15.cell? ⟨w.heap.size, 1, none⟩ = some (.int .u64 (wd1 a)) := k1.cell 1
  have c1_2 : U15.cell? ⟨w.heap.size, 2, none⟩ = some (.int .u64 (wd2 a)) := k1.cell 2
  have c1_3 : U15.cell? ⟨w.heap.size, 3, none⟩ = some (.int .u64 (wd3 a)) := k1.cell 3
  have l1 := k1.lt
  go_wp2_with fail
  clear c1_0 c1_1 c1_2 c1_3 l1
  refine (Power_v a n 0 false HP20.out HP21.out _ia _in _).mono ?_
  rintro e U16 ⟨rfl, hn⟩
  clear k1
  replace k2 := k2.of hn
  replace HB1 := Lib.hid (HB1.out.of hn)
  replace hb0 := hb0.trans (hn.mono hb0.size)
  clear hn
  go_wp2_with fail
  first | refine calls_w ?_ | refine name_world ?_ | refine list_world ?_ | refine post_world ?_
  intro V17 hV17
  have D19 := Lib.hid k2.lt
  have D20 := Lib.hid hb0.size
  have hn : Below U16.heap.size U16 V17 := by rw [hV17]; exact below_a1 _ _
  have nk2 := k2.of hn
  replace HB1 := Lib.hid (HB1.out.of hn)
  have nhb0 := hb0.trans (hn.mono hb0.size)
  clear hn
  have k7 : Blk V17 U16.heap.size #[.int .u64 (wd0 0), .int .u64 (wd1 0), .int .u64 (wd2 0), .int .u64 (wd3 0)] 24 := by rw [hV17]; exact (Blk.new _ _ _)
  clear k2
  clear hb0
  clear hV17
  have k2 := nk2
  clear nk2
  have hb0 := nhb0
  clear nhb0
  refine (wawake_any _ (hG.of hb0)).mono ?_
  rintro e U18 ⟨rfl, hn⟩
  replace k2 := k2.of hn
  replace k7 := k7.of hn
  replace HB1 := Lib.hid (HB1.out.of hn)
  replace hb0 := hb0.trans (hn.mono hb0.size)
  clear hn
  go_wp2
  first | go_ret | go_ret2
  exact ⟨by first | rfl | (simp; done) | (simp; assumption), hb0⟩

set_option maxRecDepth 100000 in
set_option maxHeartbeats 4000000 in

theorem WRo_11 (a : Int) (n : Int) (s : Int) (k : Int) (q : Int) (c1 : Int) (r : Int) (t : Int) (rs : Int) (rr : Int) (c3 : Int) (tt : Int) (c4 : Int)   (hP0 : a.sign = s) (hP1 : decide (s < 0) = false) (hP2 : btn a = k) (hP3 : decide (k < 0) = false) (hP4 : decide (256 < k) = false) (hP5 : 2 ^ k.toNat = q) (hP6 : cmpI a q = c1) (hP7 : decide (0 ≤ c1) = false) (hP8 : decide (0 < k) = false) (hP9 : rtv a = r) (hP10 : rtk a = true) (hP11 : r + 1 = t) (hP12 : r.sign = rs) (hP13 : decide (rs < 0) = false) (hP14 : r * r = rr) (hP15 : cmpI rr a = c3) (hP16 : decide (0 < c3) = false) (hP17 : t * t = tt) (hP18 : cmpI tt a = c4) (hP19 : decide (c4 ≤ 0) = false) (hP20 : pwv a n = 0) (hP21 : pwk a n = false) (hP22 : decide (n < 0) = false) (hP23 : decide (256 < n) = true) (_ik : Hid (0 ≤ k ∧ k ≤ 256)) (_ir : InI r) (_ia : InI a) (_in : In64 n)  (w : World) (hG : Tab w) :
    Calls Tryd.prog 6 #[.agg #[.int .u64 (wd0 a), .int .u64 (wd1 a), .int .u64 (wd2 a), .int .u64 (wd3 a)], .int .i64 n] w fun e w' => e = .returned (.bool true) ∧ Below w.heap.size w w' := by

  have HP0 := Lib.hid hP0
  clear hP0
  have HP2 := Lib.hid hP2
  clear hP2
  have HP5 := Lib.hid hP5
  clear hP5
  have HP6 := Lib.hid hP6
  clear hP6
  have HP9 := Lib.hid hP9
  clear hP9
  have HP10 := Lib.hid hP10
  clear hP10
  have HP11 := Lib.hid hP11
  clear hP11
  have HP12 := Lib.hid hP12
  clear hP12
  have HP14 := Lib.hid hP14
  clear hP14
  have HP15 := Lib.hid hP15
  clear hP15
  have HP17 := Lib.hid hP17
  clear hP17
  have HP18 := Lib.hid hP18
  clear hP18
  have HP20 := Lib.hid hP20
  clear hP20
  have HP21 := Lib.hid hP21
  clear hP21
  go_enter Tryd.func6, Tryd.ntmps6
  go_wp2_with fail
  first | refine calls_w ?_ | refine name_world ?_ | refine list_world ?_ | refine post_world ?_
  intro V1 hV1
  have hn : Below w.heap.size w V1 := by rw [hV1]; exact below_a1 _ _
  have nhb0 := hn
  have k1 : Blk V1 w.heap.size #[.int .u64 (wd0 a), .int .u64 (wd1 a), .int .u64 (wd2 a), .int .u64 (wd3 a)] 24 := by rw [hV1]; exact (Blk.new _ _ _)
  clear hV1
  have hb0 := nhb0
  clear nhb0
  refine (Read_v a a rfl _ia _).mono ?_
  rintro e U2 ⟨v_, rfl, hbm, hn⟩
  replace k1 := k1.of hn
  replace hb0 := hb0.trans (hn.mono hb0.size)
  clear hn
  have HB1 := Lib.hid hbm
  have hvm := hbm.shape
  clear hbm
  obtain ⟨bn1, ba1, bl1, bc1, rfl⟩ := hvm
  go_wp2_with fail
  first | refine calls_w ?_ | refine name_world ?_ | refine list_world ?_ | refine post_world ?_
  intro V3 hV3
  have D1 := Lib.hid k1.lt
  have D2 := Lib.hid hb0.size
  have hn : Below U2.heap.size U2 V3 := by rw [hV3]; exact below_a2 _ _ _
  have nk1 := k1.of hn
  replace HB1 := Lib.hid (HB1.out.of hn)
  have nhb0 := hb0.trans (hn.mono hb0.size)
  clear hn
  have k2 : Blk V3 U2.heap.size #[.bool bn1, .slice ba1 bl1 bc1] 34 := by rw [hV3]; exact ((Blk.new _ _ _).alloc _)
  have k3 : Blk V3 (U2.heap.size + 1) #[.bool bn1, .slice ba1 bl1 bc1] 34 := by rw [hV3]; exact (Blk.new1 _ _ _ _)
  clear k1
  clear hb0
  clear hV3
  have k1 := nk1
  clear nk1
  have hb0 := nhb0
  clear nhb0
  refine (bigSign_v (.agg #[.bool bn1, .slice ba1 bl1 bc1]) a 18 s HP0.out _ HB1.out).mono ?_
  rintro e U4 ⟨rfl, hn⟩
  replace k1 := k1.of hn
  replace k2 := k2.of hn
  replace k3 := k3.of hn
  replace HB1 := Lib.hid (HB1.out.of hn)
  replace hb0 := hb0.trans (hn.mono hb0.size)
  clear hn
  have c1_0 : U4.cell? ⟨w.heap.size, 0, none⟩ = some (.int .u64 (wd0 a)) := k1.cell 0
  have c1_1 : U4.cell? ⟨w.heap.size, 1, none⟩ = some (.int .u64 (wd1 a)) := k1.cell 1
  have c1_2 : U4.cell? ⟨w.heap.size, 2, none⟩ = some (.int .u64 (wd2 a)) := k1.cell 2
  have c1_3 : U4.cell? ⟨w.heap.size, 3, none⟩ = some (.int .u64 (wd3 a)) := k1.cell 3
  have l1 := k1.lt
  go_wp2_with fail
  clear c1_0 c1_1 c1_2 c1_3 l1
  refine (Bits_v a k HP2.out _ia _).mono ?_
  rintro e U5 ⟨rfl, hn⟩
  replace k1 := k1.of hn
  replace k2 := k2.of hn
  replace k3 := k3.of hn
  replace HB1 := Lib.hid (HB1.out.of hn)
  replace hb0 := hb0.trans (hn.mono hb0.size)
  clear hn
  go_wp2_with fail
  have c3_0 : U5.cell? ⟨(U2.heap.size + 1), 0, none⟩ = some (.bool bn1) := k3.cell 0
  have c3_1 : U5.cell? ⟨(U2.heap.size + 1), 1, none⟩ = some (.slice ba1 bl1 bc1) := k3.cell 1
  have l3 := k3.lt
  have Kk1 := Lib.hid k1
  clear k1
  have Kk2 := Lib.hid k2
  clear k2
  have Kk3 := Lib.hid k3
  clear k3
  refine wp_region_up U5.heap.size 21 [(true, 0), (true, 1), (true, 2), (true, 3), (true, 4), (true, 5), (true, 6), (true, 7), (true, 8), (false, 9), (false, 10), (true, 11), (true, 12), (true, 13), (true, 14), (true, 15), (true, 16), (true, 17), (true, 18), (true, 19), (false, 20)] (by kernel_rfl) (by kernel_rfl) (fun _ _ d _ _ h => by cases d <;> exact h) ?_
  have hb : Below U5.heap.size U5 U5.drew := (Below.refl _ _).drew
  iterate 9
    refine wpS_takeL rfl rfl ?_
    go_big_quiet_step (rfl)
    refine wpQuiet_nil ?_
  refine wpS_doL rfl ?_
  intro K hK
  go_wp2_with ((go_at_call 21; (with_reducible refine (powk_v k q _ik.out HP5.out _).mono ?_); rintro e w2 ⟨v_, rfl, hbm, hn⟩; have HB2 := Lib.hid hbm; have hvm := hbm.shape; clear hbm; obtain ⟨bn2, ba2, bl2, bc2, rfl⟩ := hvm))
  try replace hb := hb.trans (hn.mono hb.size)
  refine hK.out _ _ (up_iff.2 hb) ?_
  clear hK K
  try clear hn
  refine wpS_doL rfl ?_
  intro K hK
  go_wp2_with ((go_at_call 20; (with_reducible refine (bigCmp_v (.agg #[.bool bn1, .slice ba1 bl1 bc1]) (.agg #[.bool bn2, .slice ba2 bl2 bc2]) a q 18 18 c1 HP6.out _ (HB1.out.of hb) HB2.out).mono ?_); rintro e w2 ⟨rfl, hn⟩; replace HB2 := Lib.hid (HB2.out.of hn)))
  try replace hb := hb.trans (hn.mono hb.size)
  refine hK.out _ _ (up_iff.2 hb) ?_
  clear hK K
  try clear hn
  iterate 9
    refine wpS_takeL rfl rfl ?_
    go_big_quiet_step (rfl)
    refine wpQuiet_nil ?_
  refine wpS_doL rfl ?_
  intro K hK
  go_wp2_with ((go_at_call 21; (with_reducible refine (powk_v k q _ik.out HP5.out _).mono ?_); rintro e w2 ⟨v_, rfl, hbm, hn⟩; have HB2 := Lib.hid hbm; have hvm := hbm.shape; clear hbm; obtain ⟨bn2, ba2, bl2, bc2, rfl⟩ := hvm))
  try replace hb := hb.trans (hn.mono hb.size)
  refine hK.out _ _ (up_iff.2 hb) ?_
  clear hK K
  try clear hn
  refine wpS_nil ?_
  simp only [List.drop_succ_cons, List.drop_zero]
  first | refine calls_w ?_ | refine name_world ?_ | refine list_world ?_ | refine post_world ?_
  intro U6 hU6
  first | (subst hU6; have u_ := U6; clear u_) | (rw [← hU6] at hb; clear hU6)
  clear c3_0 c3_1 l3
  have k1 := Kk1.out.of hb
  clear Kk1
  have k2 := Kk2.out.of hb
  clear Kk2
  have k3 := Kk3.out.of hb
  clear Kk3
  replace HB1 := Lib.hid (HB1.out.of hb)
  replace hb0 := hb0.trans (hb.mono hb0.size)
  clear hb
  have c1_0 : U6.cell? ⟨w.heap.size, 0, none⟩ = some (.int .u64 (wd0 a)) := k1.cell 0
  have c1_1 : U6.cell? ⟨w.heap.size, 1, none⟩ = some (.int .u64 (wd1 a)) := k1.cell 1
  have c1_2 : U6.cell? ⟨w.heap.size, 2, none⟩ = some (.int .u64 (wd2 a)) := k1.cell 2
  have c1_3 : U6.cell? ⟨w.heap.size, 3, none⟩ = some (.int .u64 (wd3 a)) := k1.cell 3
  have l1 := k1.lt
  go_wp2_with fail
  clear c1_0 c1_1 c1_2 c1_3 l1
  refine (Root_v a r true HP9.out HP10.out _ia _).mono ?_
  rintro e U7 ⟨rfl, hn⟩
  clear HB2
  clear k3
  replace k1 := k1.of hn
  replace k2 := k2.of hn
  replace HB1 := Lib.hid (HB1.out.of hn)
  replace hb0 := hb0.trans (hn.mono hb0.size)
  clear hn
  have c2_0 : U7.cell? ⟨U2.heap.size, 0, none⟩ = some (.bool bn1) := k2.cell 0
  have c2_1 : U7.cell? ⟨U2.heap.size, 1, none⟩ = some (.slice ba1 bl1 bc1) := k2.cell 1
  have l2 := k2.lt
  go_wp2_with fail
  clear c2_0 c2_1 l2
  first | refine calls_w ?_ | refine name_world ?_ | refine list_world ?_ | refine post_world ?_
  intro V8 hV8
  have D3 := Lib.hid k1.lt
  have D4 := Lib.hid k2.lt
  have D5 := Lib.hid hb0.size
  have hn : Below U7.heap.size U7 V8 := by rw [hV8]; exact below_a1 _ _
  have nk1 := k1.of hn
  have nk2 := k2.of hn
  replace HB1 := Lib.hid (HB1.out.of hn)
  have nhb0 := hb0.trans (hn.mono hb0.size)
  clear hn
  have k4 : Blk V8 U7.heap.size #[.int .u64 (wd0 r), .int .u64 (wd1 r), .int .u64 (wd2 r), .int .u64 (wd3 r)] 24 := by rw [hV8]; exact (Blk.new _ _ _)
  clear k1 k2
  clear hb0
  clear hV8
  have k1 := nk1
  clear nk1
  have k2 := nk2
  clear nk2
  have hb0 := nhb0
  clear nhb0
  refine (bigSign_v (.agg #[.bool bn1, .slice ba1 bl1 bc1]) a 18 s HP0.out _ HB1.out).mono ?_
  rintro e U9 ⟨rfl, hn⟩
  replace k1 := k1.of hn
  replace k2 := k2.of hn
  replace k4 := k4.of hn
  replace HB1 := Lib.hid (HB1.out.of hn)
  replace hb0 := hb0.trans (hn.mono hb0.size)
  clear hn
  have c4_0 : U9.cell? ⟨U7.heap.size, 0, none⟩ = some (.int .u64 (wd0 r)) := k4.cell 0
  have c4_1 : U9.cell? ⟨U7.heap.size, 1, none⟩ = some (.int .u64 (wd1 r)) := k4.cell 1
  have c4_2 : U9.cell? ⟨U7.heap.size, 2, none⟩ = some (.int .u64 (wd2 r)) := k4.cell 2
  have c4_3 : U9.cell? ⟨U7.heap.size, 3, none⟩ = some (.int .u64 (wd3 r)) := k4.cell 3
  have l4 := k4.lt
  go_wp2_with fail
  clear c4_0 c4_1 c4_2 c4_3 l4
  refine (Read_v r r rfl _ir _).mono ?_
  rintro e U10 ⟨v_, rfl, hbm, hn⟩
  clear k4
  replace k1 := k1.of hn
  replace k2 := k2.of hn
  replace HB1 := Lib.hid (HB1.out.of hn)
  replace hb0 := hb0.trans (hn.mono hb0.size)
  clear hn
  have HB3 := Lib.hid hbm
  have hvm := hbm.shape
  clear hbm
  obtain ⟨bn3, ba3, bl3, bc3, rfl⟩ := hvm
  go_wp2_with fail
  first | refine calls_w ?_ | refine name_world ?_ | refine list_world ?_ | refine post_world ?_
  intro V11 hV11
  have D6 := Lib.hid k1.lt
  have D7 := Lib.hid k2.lt
  have D8 := Lib.hid hb0.size
  have hn : Below U10.heap.size U10 V11 := by rw [hV11]; exact below_a1 _ _
  have nk1 := k1.of hn
  have nk2 := k2.of hn
  replace HB1 := Lib.hid (HB1.out.of hn)
  replace HB3 := Lib.hid (HB3.out.of hn)
  have nhb0 := hb0.trans (hn.mono hb0.size)
  clear hn
  have k5 : Blk V11 U10.heap.size #[.bool bn3, .slice ba3 bl3 bc3] 34 := by rw [hV11]; exact (Blk.new _ _ _)
  clear k1 k2
  clear hb0
  clear hV11
  have k1 := nk1
  clear nk1
  have k2 := nk2
  clear nk2
  have hb0 := nhb0
  clear nhb0
  have c5_0 : V11.cell? ⟨U10.heap.size, 0, none⟩ = some (.bool bn3) := k5.cell 0
  have c5_1 : V11.cell? ⟨U10.heap.size, 1, none⟩ = some (.slice ba3 bl3 bc3) := k5.cell 1
  have l5 := k5.lt
  have Kk1 := Lib.hid k1
  clear k1
  have Kk2 := Lib.hid k2
  clear k2
  have Kk5 := Lib.hid k5
  clear k5
  refine wp_region_float1 4 3 [(true, 0), (false, 1), (false, 2)] (by kernel_rfl) (by kernel_rfl) (fun _ _ d _ _ => by cases d <;> exact Iff.rfl) rfl rfl rfl alWrL0_0 ?_
  have hb : Below V11.heap.size V11 V11.drew := (Below.refl _ _).drew
  refine wpF_take rfl rfl ?_
  go_big_quiet_step (rfl)
  refine wpQuiet_nil ?_
  refine wpF_do rfl ?_
  intro w1 hg K hK
  replace hb := hb.trans (hg.mono hb.size)
  try replace HB4 := Lib.hid (HB4.out.of hg); try replace HB5 := Lib.hid (HB5.out.of hg)
  clear hg
  go_wp2_with ((go_at_call 24; (with_reducible refine (bigOf_v 1 1 rfl (by unfold In64; omega) _).mono ?_); rintro e w2 ⟨v_, rfl, hbm, hn⟩; have HB4 := Lib.hid hbm; have hvm := hbm.shape; clear hbm; obtain ⟨bn4, ba4, bl4, bc4, rfl⟩ := hvm))
  refine hK.out _ _ hn ?_
  replace hb := hb.trans (hn.mono hb.size)
  clear hK K
  clear hn
  refine wpF_do rfl ?_
  intro w1 hg K hK
  replace hb := hb.trans (hg.mono hb.size)
  try replace HB4 := Lib.hid (HB4.out.of hg); try replace HB5 := Lib.hid (HB5.out.of hg)
  clear hg
  go_wp2_with ((go_at_call 23; (with_reducible refine (bigAdd_v (.agg #[.bool bn3, .slice ba3 bl3 bc3]) (.agg #[.bool bn4, .slice ba4 bl4 bc4]) r 1 t 18 HP11.out _ (HB3.out.of hb) (HB4.out.mono (by decide)) (by decide)).mono ?_); rintro e w2 ⟨v_, rfl, hbm, hn⟩; replace HB4 := Lib.hid (HB4.out.of hn); have HB5 := Lib.hid hbm; have hvm := hbm.shape; clear hbm; obtain ⟨bn5, ba5, bl5, bc5, rfl⟩ := hvm))
  refine hK.out _ _ hn ?_
  replace hb := hb.trans (hn.mono hb.size)
  clear hK K
  clear hn
  refine wpF_nil ?_
  clear hb
  intro w1 hg hb b1 lb1 nb1
  replace HB4 := Lib.hid (HB4.out.of hg)
  replace HB5 := Lib.hid (HB5.out.of hg)
  clear hg
  simp only [Act.put, ptrTo, List.setIfInBounds_toArray, List.set_cons_succ, List.set_cons_zero]
  simp only [List.drop_succ_cons, List.drop_zero]
  clear c5_0 c5_1 l5
  first | refine calls_w ?_ | refine name_world ?_ | refine list_world ?_ | refine post_world ?_
  intro U12 hU12
  subst hU12
  have D9 := Lib.hid Kk1.out.lt
  have D10 := Lib.hid Kk2.out.lt
  have D11 := Lib.hid Kk5.out.lt
  have D12 := Lib.hid hb0.size
  have k6 : Blk U12 b1 #[.bool false, .slice none 0 0] 34 := nb1
  have k1 := Kk1.out.of hb
  clear Kk1
  have k2 := Kk2.out.of hb
  clear Kk2
  have k5 := Kk5.out.of hb
  clear Kk5
  have D13 := Lib.hid lb1
  clear nb1 lb1
  replace HB1 := Lib.hid (HB1.out.of hb)
  replace HB3 := Lib.hid (HB3.out.of hb)
  replace hb0 := hb0.trans (hb.mono hb0.size)
  clear hb
  generalize b1 = q6 at *
  have c6_0 : U12.cell? ⟨q6, 0, none⟩ = some (.bool false) := k6.cell 0
  have c6_1 : U12.cell? ⟨q6, 1, none⟩ = some (.slice none 0 0) := k6.cell 1
  have f6_0 := k6.free 0
  have f6_1 := k6.free 1
  have l6 := k6.lt
  go_wp2_with fail
  clear c6_0 c6_1 f6_0 f6_1 l6
  first | refine calls_w ?_ | refine name_world ?_ | refine list_world ?_ | refine post_world ?_
  intro V13 hV13
  clear HB4
  have D14 := Lib.hid k1.lt
  have D15 := Lib.hid k2.lt
  have D16 := Lib.hid k5.lt
  have D17 := Lib.hid k6.lt
  have D18 := Lib.hid hb0.size
  have nk1 : Blk V13 w.heap.size #[.int .u64 (wd0 a), .int .u64 (wd1 a), .int .u64 (wd2 a), .int .u64 (wd3 a)] 24 := by rw [hV13]; exact (blk_setL k1 (by have := D9.out; have := D13.out; omega) 0 [.bool bn5, .slice ba5 bl5 bc5])
  have nk2 : Blk V13 U2.heap.size #[.bool bn1, .slice ba1 bl1 bc1] 34 := by rw [hV13]; exact (blk_setL k2 (by have := D10.out; have := D13.out; omega) 0 [.bool bn5, .slice ba5 bl5 bc5])
  have nk5 : Blk V13 U10.heap.size #[.bool bn3, .slice ba3 bl3 bc3] 34 := by rw [hV13]; exact (blk_setL k5 (by have := D11.out; have := D13.out; omega) 0 [.bool bn5, .slice ba5 bl5 bc5])
  have nk6 : Blk V13 q6 #[.bool bn5, .slice ba5 bl5 bc5] 34 := by rw [hV13]; exact (blk_full _ [.bool bn5, .slice ba5 bl5 bc5] k6 rfl)
  have nhb0 : Below w.heap.size w V13 := by rw [hV13]; exact (blw_setL hb0 (by have := D12.out; have := D13.out; omega) 0 [.bool bn5, .slice ba5 bl5 bc5])
  replace HB1 : Hid (Big V13 (.agg #[.bool bn1, .slice ba1 bl1 bc1]) a 18) := Lib.hid (by rw [hV13]; exact (big_setL HB1.out (Blk.cell k6 0) (fun _ h => by cases h) 0 [.bool bn5, .slice ba5 bl5 bc5]))
  replace HB3 : Hid (Big V13 (.agg #[.bool bn3, .slice ba3 bl3 bc3]) r 18) := Lib.hid (by rw [hV13]; exact (big_setL HB3.out (Blk.cell k6 0) (fun _ h => by cases h) 0 [.bool bn5, .slice ba5 bl5 bc5]))
  replace HB5 : Hid (Big V13 (.agg #[.bool bn5, .slice ba5 bl5 bc5]) t 19) := Lib.hid (by rw [hV13]; exact (big_setL HB5.out (Blk.cell k6 0) (fun _ h => by cases h) 0 [.bool bn5, .slice ba5 bl5 bc5]))
  clear k1 k2 k5 k6
  clear hb0
  clear hV13
  have k1 := nk1
  clear nk1
  have k2 := nk2
  clear nk2
  have k5 := nk5
  clear nk5
  have k6 := nk6
  clear nk6
  have hb0 := nhb0
  clear nhb0
  have c2_0 : V13.cell? ⟨U2.heap.size, 0, none⟩ = some (.bool bn1) := k2.cell 0
  have c2_1 : V13.cell? ⟨U2.heap.size, 1, none⟩ = some (.slice ba1 bl1 bc1) := k2.cell 1
  have l2 := k2.lt
  have c5_0 : V13.cell? ⟨U10.heap.size, 0, none⟩ = some (.bool bn3) := k5.cell 0
  have c5_1 : V13.cell? ⟨U10.heap.size, 1, none⟩ = some (.slice ba3 bl3 bc3) := k5.cell 1
  have l5 := k5.lt
  have c6_0 : V13.cell? ⟨q6, 0, none⟩ = some (.bool bn5) := k6.cell 0
  have c6_1 : V13.cell? ⟨q6, 1, none⟩ = some (.slice ba5 bl5 bc5) := k6.cell 1
  have l6 := k6.lt
  have Kk1 := Lib.hid k1
  clear k1
  have Kk2 := Lib.hid k2
  clear k2
  have Kk5 := Lib.hid k5
  clear k5
  have Kk6 := Lib.hid k6
  clear k6
  refine wp_region_up V13.heap.size 20 [(true, 0), (true, 1), (true, 2), (true, 3), (false, 4), (true, 5), (true, 6), (true, 7), (true, 8), (true, 9), (true, 11), (false, 10), (false, 12), (true, 13), (true, 14), (true, 15), (true, 16), (true, 17), (true, 19), (false, 18)] (by kernel_rfl) (by kernel_rfl) (fun _ _ d _ _ h => by cases d <;> exact h) ?_
  have hb : Below V13.heap.size V13 V13.drew := (Below.refl _ _).drew
  iterate 4
    refine wpS_takeL rfl rfl ?_
    go_big_quiet_step (rfl)
    refine wpQuiet_nil ?_
  refine wpS_doL rfl ?_
  intro K hK
  go_wp2_with ((go_at_call 17; (with_reducible refine (bigSign_v (.agg #[.bool bn3, .slice ba3 bl3 bc3]) r 18 rs HP12.out _ (HB3.out.of hb)).mono ?_); rintro e w2 ⟨rfl, hn⟩))
  try replace hb := hb.trans (hn.mono hb.size)
  refine hK.out _ _ (up_iff.2 hb) ?_
  clear hK K
  try clear hn
  iterate 6
    refine wpS_takeL rfl rfl ?_
    go_big_quiet_step (rfl)
    refine wpQuiet_nil ?_
  refine wpS_doL rfl ?_
  intro K hK
  go_wp2_with ((first | (go_at_call 25; (with_reducible refine (bigMul_v (.agg #[.bool bn3, .slice ba3 bl3 bc3]) (.agg #[.bool bn3, .slice ba3 bl3 bc3]) r r rr 18 18 HP14.out _ (HB3.out.of hb) (HB3.out.of hb) (by decide)).mono ?_); rintro e w2 ⟨v_, rfl, hbm, hn⟩; have HB6 := Lib.hid hbm; have hvm := hbm.shape; clear hbm; obtain ⟨bn6, ba6, bl6, bc6, rfl⟩ := hvm) | (go_at_call 25; (with_reducible refine (bigMul_v (.agg #[.bool bn5, .slice ba5 bl5 bc5]) (.agg #[.bool bn5, .slice ba5 bl5 bc5]) t t tt 19 19 HP17.out _ (HB5.out.of hb) (HB5.out.of hb) (by decide)).mono ?_); rintro e w2 ⟨v_, rfl, hbm, hn⟩; replace HB6 := Lib.hid (HB6.out.of hn); have HB7 := Lib.hid hbm; have hvm := hbm.shape; clear hbm; obtain ⟨bn7, ba7, bl7, bc7, rfl⟩ := hvm)))
  try replace hb := hb.trans (hn.mono hb.size)
  refine hK.out _ _ (up_iff.2 hb) ?_
  clear hK K
  try clear hn
  refine wpS_doL rfl ?_
  intro K hK
  go_wp2_with ((go_at_call 20; (with_reducible refine (bigCmp_v (.agg #[.bool bn6, .slice ba6 bl6 bc6]) (.agg #[.bool bn1, .slice ba1 bl1 bc1]) rr a 36 18 c3 HP15.out _ HB6.out (HB1.out.of hb)).mono ?_); rintro e w2 ⟨rfl, hn⟩; replace HB6 := Lib.hid (HB6.out.of hn)))
  try replace hb := hb.trans (hn.mono hb.size)
  refine hK.out _ _ (up_iff.2 hb) ?_
  clear hK K
  try clear hn
  iterate 6
    refine wpS_takeL rfl rfl ?_
    go_big_quiet_step (rfl)
    refine wpQuiet_nil ?_
  refine wpS_doL rfl ?_
  intro K hK
  go_wp2_with ((first | (go_at_call 25; (with_reducible refine (bigMul_v (.agg #[.bool bn3, .slice ba3 bl3 bc3]) (.agg #[.bool bn3, .slice ba3 bl3 bc3]) r r rr 18 18 HP14.out _ (HB3.out.of hb) (HB3.out.of hb) (by decide)).mono ?_); rintro e w2 ⟨v_, rfl, hbm, hn⟩; have HB6 := Lib.hid hbm; have hvm := hbm.shape; clear hbm; obtain ⟨bn6, ba6, bl6, bc6, rfl⟩ := hvm) | (go_at_call 25; (with_reducible refine (bigMul_v (.agg #[.bool bn5, .slice ba5 bl5 bc5]) (.agg #[.bool bn5, .slice ba5 bl5 bc5]) t t tt 19 19 HP17.out _ (HB5.out.of hb) (HB5.out.of hb) (by decide)).mono ?_); rintro e w2 ⟨v_, rfl, hbm, hn⟩; replace HB6 := Lib.hid (HB6.out.of hn); have HB7 := Lib.hid hbm; have hvm := hbm.shape; clear hbm; obtain ⟨bn7, ba7, bl7, bc7, rfl⟩ := hvm)))
  try replace hb := hb.trans (hn.mono hb.size)
  refine hK.out _ _ (up_iff.2 hb) ?_
  clear hK K
  try clear hn
  refine wpS_nil ?_
  simp only [List.drop_succ_cons, List.drop_zero]
  first | refine calls_w ?_ | refine name_world ?_ | refine list_world ?_ | refine post_world ?_
  intro U14 hU14
  first | (subst hU14; have u_ := U14; clear u_) | (rw [← hU14] at hb; clear hU14)
  clear c2_0 c2_1 l2 c5_0 c5_1 l5 c6_0 c6_1 l6
  have k1 := Kk1.out.of hb
  clear Kk1
  have k2 := Kk2.out.of hb
  clear Kk2
  have k5 := Kk5.out.of hb
  clear Kk5
  have k6 := Kk6.out.of hb
  clear Kk6
  replace HB1 := Lib.hid (HB1.out.of hb)
  replace HB3 := Lib.hid (HB3.out.of hb)
  replace HB5 := Lib.hid (HB5.out.of hb)
  replace hb0 := hb0.trans (hb.mono hb0.size)
  clear hb
  go_wp2_with fail
  refine (bigCmp_v (.agg #[.bool bn7, .slice ba7 bl7 bc7]) (.agg #[.bool bn1, .slice ba1 bl1 bc1]) tt a 38 18 c4 HP18.out _ HB7.out HB1.out).mono ?_
  rintro e U15 ⟨rfl, hn⟩
  clear HB3 HB5 HB6 HB7
  clear k5 k6
  replace k1 := k1.of hn
  replace k2 := k2.of hn
  replace HB1 := Lib.hid (HB1.out.of hn)
  replace hb0 := hb0.trans (hn.mono hb0.size)
  clear hn
  have c1_0 : U15.cell? ⟨w.heap.size, 0, none⟩ = some (.int .u64 (wd0 a)) := k1.cell 0
  have c1_1 : U15.cell? ⟨w.heap.size, 1, none⟩ = some (.int .u64 (wd1 a)) := k1.cell 1
  have c1_2 : U15.cell? ⟨w.heap.size, 2, none⟩ = some (.int .u64 (wd2 a)) := k1.cell 2
  have c1_3 : U15.cell? ⟨w.heap.size, 3, none⟩ = some (.int .u64 (wd3 a)) := k1.cell 3
  have l1 := k1.lt
  go_wp2_with fail
  clear c1_0 c1_1 c1_2 c1_3 l1
  refine (Power_v a n 0 false HP20.out HP21.out _ia _in _).mono ?_
  rintro e U16 ⟨rfl, hn⟩
  clear k1
  replace k2 := k2.of hn
  replace HB1 := Lib.hid (HB1.out.of hn)
  replace hb0 := hb0.trans (hn.mono hb0.size)
  clear hn
  go_wp2_with fail
  first | refine calls_w ?_ | refine name_world ?_ | refine list_world ?_ | refine post_world ?_
  intro V17 hV17
  have D19 := Lib.hid k2.lt
  have D20 := Lib.hid hb0.size
  have hn : Below U16.heap.size U16 V17 := by rw [hV17]; exact below_a1 _ _
  have nk2 := k2.of hn
  replace HB1 := Lib.hid (HB1.out.of hn)
  have nhb0 := hb0.trans (hn.mono hb0.size)
  clear hn
  have k7 : Blk V17 U16.heap.size #[.int .u64 (wd0 0), .int .u64 (wd1 0), .int .u64 (wd2 0), .int .u64 (wd3 0)] 24 := by rw [hV17]; exact (Blk.new _ _ _)
  clear k2
  clear hb0
  clear hV17
  have k2 := nk2
  clear nk2
  have hb0 := nhb0
  clear nhb0
  refine (wawake_any _ (hG.of hb0)).mono ?_
  rintro e U18 ⟨rfl, hn⟩
  replace k2 := k2.of hn
  replace k7 := k7.of hn
  replace HB1 := Lib.hid (HB1.out.of hn)
  replace hb0 := hb0.trans (hn.mono hb0.size)
  clear hn
  go_wp2
  first | go_ret | go_ret2
  exact ⟨by first | rfl | (simp; done) | (simp; assumption), hb0⟩

set_option maxRecDepth 100000 in
set_option maxHeartbeats 4000000 in

theorem WRo_12 (a : Int) (n : Int) (s : Int) (k : Int) (q : Int) (c1 : Int) (r : Int) (t : Int) (rs : Int) (rr : Int) (c3 : Int) (tt : Int) (c4 : Int) (p : Int)   (hP0 : a.sign = s) (hP1 : decide (s < 0) = false) (hP2 : btn a = k) (hP3 : decide (k < 0) = false) (hP4 : decide (256 < k) = false) (hP5 : 2 ^ k.toNat = q) (hP6 : cmpI a q = c1) (hP7 : decide (0 ≤ c1) = false) (hP8 : decide (0 < k) = false) (hP9 : rtv a = r) (hP10 : rtk a = true) (hP11 : r + 1 = t) (hP12 : r.sign = rs) (hP13 : decide (rs < 0) = false) (hP14 : r * r = rr) (hP15 : cmpI rr a = c3) (hP16 : decide (0 < c3) = false) (hP17 : t * t = tt) (hP18 : cmpI tt a = c4) (hP19 : decide (c4 ≤ 0) = false) (hP20 : pwv a n = p) (hP21 : pwk a n = true) (hP22 : decide (n < 0) = false) (hP23 : decide (256 < n) = false) (_ik : Hid (0 ≤ k ∧ k ≤ 256)) (_ir : InI r) (_ia : InI a) (_in : In64 n)  (w : World) (hG : Tab w) :
    Calls Tryd.prog 6 #[.agg #[.int .u64 (wd0 a), .int .u64 (wd1 a), .int .u64 (wd2 a), .int .u64 (wd3 a)], .int .i64 n] w fun e w' => e = .returned (.bool true) ∧ Below w.heap.size w w' := by

  have HP0 := Lib.hid hP0
  clear hP0
  have HP2 := Lib.hid hP2
  clear hP2
  have HP5 := Lib.hid hP5
  clear hP5
  have HP6 := Lib.hid hP6
  clear hP6
  have HP9 := Lib.hid hP9
  clear hP9
  have HP10 := Lib.hid hP10
  clear hP10
  have HP11 := Lib.hid hP11
  clear hP11
  have HP12 := Lib.hid hP12
  clear hP12
  have HP14 := Lib.hid hP14
  clear hP14
  have HP15 := Lib.hid hP15
  clear hP15
  have HP17 := Lib.hid hP17
  clear hP17
  have HP18 := Lib.hid hP18
  clear hP18
  have HP20 := Lib.hid hP20
  clear hP20
  have HP21 := Lib.hid hP21
  clear hP21
  go_enter Tryd.func6, Tryd.ntmps6
  go_wp2_with fail
  first | refine calls_w ?_ | refine name_world ?_ | refine list_world ?_ | refine post_world ?_
  intro V1 hV1
  have hn : Below w.heap.size w V1 := by rw [hV1]; exact below_a1 _ _
  have nhb0 := hn
  have k1 : Blk V1 w.heap.size #[.int .u64 (wd0 a), .int .u64 (wd1 a), .int .u64 (wd2 a), .int .u64 (wd3 a)] 24 := by rw [hV1]; exact (Blk.new _ _ _)
  clear hV1
  have hb0 := nhb0
  clear nhb0
  refine (Read_v a a rfl _ia _).mono ?_
  rintro e U2 ⟨v_, rfl, hbm, hn⟩
  replace k1 := k1.of hn
  replace hb0 := hb0.trans (hn.mono hb0.size)
  clear hn
  have HB1 := Lib.hid hbm
  have hvm := hbm.shape
  clear hbm
  obtain ⟨bn1, ba1, bl1, bc1, rfl⟩ := hvm
  go_wp2_with fail
  first | refine calls_w ?_ | refine name_world ?_ | refine list_world ?_ | refine post_world ?_
  intro V3 hV3
  have D1 := Lib.hid k1.lt
  have D2 := Lib.hid hb0.size
  have hn : Below U2.heap.size U2 V3 := by rw [hV3]; exact below_a2 _ _ _
  have nk1 := k1.of hn
  replace HB1 := Lib.hid (HB1.out.of hn)
  have nhb0 := hb0.trans (hn.mono hb0.size)
  clear hn
  have k2 : Blk V3 U2.heap.size #[.bool bn1, .slice ba1 bl1 bc1] 34 := by rw [hV3]; exact ((Blk.new _ _ _).alloc _)
  have k3 : Blk V3 (U2.heap.size + 1) #[.bool bn1, .slice ba1 bl1 bc1] 34 := by rw [hV3]; exact (Blk.new1 _ _ _ _)
  clear k1
  clear hb0
  clear hV3
  have k1 := nk1
  clear nk1
  have hb0 := nhb0
  clear nhb0
  refine (bigSign_v (.agg #[.bool bn1, .slice ba1 bl1 bc1]) a 18 s HP0.out _ HB1.out).mono ?_
  rintro e U4 ⟨rfl, hn⟩
  replace k1 := k1.of hn
  replace k2 := k2.of hn
  replace k3 := k3.of hn
  replace HB1 := Lib.hid (HB1.out.of hn)
  replace hb0 := hb0.trans (hn.mono hb0.size)
  clear hn
  have c1_0 : U4.cell? ⟨w.heap.size, 0, none⟩ = some (.int .u64 (wd0 a)) := k1.cell 0
  have c1_1 : U4.cell? ⟨w.heap.size, 1, none⟩ = some (.int .u64 (wd1 a)) := k1.cell 1
  have c1_2 : U4.cell? ⟨w.heap.size, 2, none⟩ = some (.int .u64 (wd2 a)) := k1.cell 2
  have c1_3 : U4.cell? ⟨w.heap.size, 3, none⟩ = some (.int .u64 (wd3 a)) := k1.cell 3
  have l1 := k1.lt
  go_wp2_with fail
  clear c1_0 c1_1 c1_2 c1_3 l1
  refine (Bits_v a k HP2.out _ia _).mono ?_
  rintro e U5 ⟨rfl, hn⟩
  replace k1 := k1.of hn
  replace k2 := k2.of hn
  replace k3 := k3.of hn
  replace HB1 := Lib.hid (HB1.out.of hn)
  replace hb0 := hb0.trans (hn.mono hb0.size)
  clear hn
  go_wp2_with fail
  have c3_0 : U5.cell? ⟨(U2.heap.size + 1), 0, none⟩ = some (.bool bn1) := k3.cell 0
  have c3_1 : U5.cell? ⟨(U2.heap.size + 1), 1, none⟩ = some (.slice ba1 bl1 bc1) := k3.cell 1
  have l3 := k3.lt
  have Kk1 := Lib.hid k1
  clear k1
  have Kk2 := Lib.hid k2
  clear k2
  have Kk3 := Lib.hid k3
  clear k3
  refine wp_region_up U5.heap.size 21 [(true, 0), (true, 1), (true, 2), (true, 3), (true, 4), (true, 5), (true, 6), (true, 7), (true, 8), (false, 9), (false, 10), (true, 11), (true, 12), (true, 13), (true, 14), (true, 15), (true, 16), (true, 17), (true, 18), (true, 19), (false, 20)] (by kernel_rfl) (by kernel_rfl) (fun _ _ d _ _ h => by cases d <;> exact h) ?_
  have hb : Below U5.heap.size U5 U5.drew := (Below.refl _ _).drew
  iterate 9
    refine wpS_takeL rfl rfl ?_
    go_big_quiet_step (rfl)
    refine wpQuiet_nil ?_
  refine wpS_doL rfl ?_
  intro K hK
  go_wp2_with ((go_at_call 21; (with_reducible refine (powk_v k q _ik.out HP5.out _).mono ?_); rintro e w2 ⟨v_, rfl, hbm, hn⟩; have HB2 := Lib.hid hbm; have hvm := hbm.shape; clear hbm; obtain ⟨bn2, ba2, bl2, bc2, rfl⟩ := hvm))
  try replace hb := hb.trans (hn.mono hb.size)
  refine hK.out _ _ (up_iff.2 hb) ?_
  clear hK K
  try clear hn
  refine wpS_doL rfl ?_
  intro K hK
  go_wp2_with ((go_at_call 20; (with_reducible refine (bigCmp_v (.agg #[.bool bn1, .slice ba1 bl1 bc1]) (.agg #[.bool bn2, .slice ba2 bl2 bc2]) a q 18 18 c1 HP6.out _ (HB1.out.of hb) HB2.out).mono ?_); rintro e w2 ⟨rfl, hn⟩; replace HB2 := Lib.hid (HB2.out.of hn)))
  try replace hb := hb.trans (hn.mono hb.size)
  refine hK.out _ _ (up_iff.2 hb) ?_
  clear hK K
  try clear hn
  iterate 9
    refine wpS_takeL rfl rfl ?_
    go_big_quiet_step (rfl)
    refine wpQuiet_nil ?_
  refine wpS_doL rfl ?_
  intro K hK
  go_wp2_with ((go_at_call 21; (with_reducible refine (powk_v k q _ik.out HP5.out _).mono ?_); rintro e w2 ⟨v_, rfl, hbm, hn⟩; have HB2 := Lib.hid hbm; have hvm := hbm.shape; clear hbm; obtain ⟨bn2, ba2, bl2, bc2, rfl⟩ := hvm))
  try replace hb := hb.trans (hn.mono hb.size)
  refine hK.out _ _ (up_iff.2 hb) ?_
  clear hK K
  try clear hn
  refine wpS_nil ?_
  simp only [List.drop_succ_cons, List.drop_zero]
  first | refine calls_w ?_ | refine name_world ?_ | refine list_world ?_ | refine post_world ?_
  intro U6 hU6
  first | (subst hU6; have u_ := U6; clear u_) | (rw [← hU6] at hb; clear hU6)
  clear c3_0 c3_1 l3
  have k1 := Kk1.out.of hb
  clear Kk1
  have k2 := Kk2.out.of hb
  clear Kk2
  have k3 := Kk3.out.of hb
  clear Kk3
  replace HB1 := Lib.hid (HB1.out.of hb)
  replace hb0 := hb0.trans (hb.mono hb0.size)
  clear hb
  have c1_0 : U6.cell? ⟨w.heap.size, 0, none⟩ = some (.int .u64 (wd0 a)) := k1.cell 0
  have c1_1 : U6.cell? ⟨w.heap.size, 1, none⟩ = some (.int .u64 (wd1 a)) := k1.cell 1
  have c1_2 : U6.cell? ⟨w.heap.size, 2, none⟩ = some (.int .u64 (wd2 a)) := k1.cell 2
  have c1_3 : U6.cell? ⟨w.heap.size, 3, none⟩ = some (.int .u64 (wd3 a)) := k1.cell 3
  have l1 := k1.lt
  go_wp2_with fail
  clear c1_0 c1_1 c1_2 c1_3 l1
  refine (Root_v a r true HP9.out HP10.out _ia _).mono ?_
  rintro e U7 ⟨rfl, hn⟩
  clear HB2
  clear k3
  replace k1 := k1.of hn
  replace k2 := k2.of hn
  replace HB1 := Lib.hid (HB1.out.of hn)
  replace hb0 := hb0.trans (hn.mono hb0.size)
  clear hn
  have c2_0 : U7.cell? ⟨U2.heap.size, 0, none⟩ = some (.bool bn1) := k2.cell 0
  have c2_1 : U7.cell? ⟨U2.heap.size, 1, none⟩ = some (.slice ba1 bl1 bc1) := k2.cell 1
  have l2 := k2.lt
  go_wp2_with fail
  clear c2_0 c2_1 l2
  first | refine calls_w ?_ | refine name_world ?_ | refine list_world ?_ | refine post_world ?_
  intro V8 hV8
  have D3 := Lib.hid k1.lt
  have D4 := Lib.hid k2.lt
  have D5 := Lib.hid hb0.size
  have hn : Below U7.heap.size U7 V8 := by rw [hV8]; exact below_a1 _ _
  have nk1 := k1.of hn
  have nk2 := k2.of hn
  replace HB1 := Lib.hid (HB1.out.of hn)
  have nhb0 := hb0.trans (hn.mono hb0.size)
  clear hn
  have k4 : Blk V8 U7.heap.size #[.int .u64 (wd0 r), .int .u64 (wd1 r), .int .u64 (wd2 r), .int .u64 (wd3 r)] 24 := by rw [hV8]; exact (Blk.new _ _ _)
  clear k1 k2
  clear hb0
  clear hV8
  have k1 := nk1
  clear nk1
  have k2 := nk2
  clear nk2
  have hb0 := nhb0
  clear nhb0
  refine (bigSign_v (.agg #[.bool bn1, .slice ba1 bl1 bc1]) a 18 s HP0.out _ HB1.out).mono ?_
  rintro e U9 ⟨rfl, hn⟩
  replace k1 := k1.of hn
  replace k2 := k2.of hn
  replace k4 := k4.of hn
  replace HB1 := Lib.hid (HB1.out.of hn)
  replace hb0 := hb0.trans (hn.mono hb0.size)
  clear hn
  have c4_0 : U9.cell? ⟨U7.heap.size, 0, none⟩ = some (.int .u64 (wd0 r)) := k4.cell 0
  have c4_1 : U9.cell? ⟨U7.heap.size, 1, none⟩ = some (.int .u64 (wd1 r)) := k4.cell 1
  have c4_2 : U9.cell? ⟨U7.heap.size, 2, none⟩ = some (.int .u64 (wd2 r)) := k4.cell 2
  have c4_3 : U9.cell? ⟨U7.heap.size, 3, none⟩ = some (.int .u64 (wd3 r)) := k4.cell 3
  have l4 := k4.lt
  go_wp2_with fail
  clear c4_0 c4_1 c4_2 c4_3 l4
  refine (Read_v r r rfl _ir _).mono ?_
  rintro e U10 ⟨v_, rfl, hbm, hn⟩
  clear k4
  replace k1 := k1.of hn
  replace k2 := k2.of hn
  replace HB1 := Lib.hid (HB1.out.of hn)
  replace hb0 := hb0.trans (hn.mono hb0.size)
  clear hn
  have HB3 := Lib.hid hbm
  have hvm := hbm.shape
  clear hbm
  obtain ⟨bn3, ba3, bl3, bc3, rfl⟩ := hvm
  go_wp2_with fail
  first | refine calls_w ?_ | refine name_world ?_ | refine list_world ?_ | refine post_world ?_
  intro V11 hV11
  have D6 := Lib.hid k1.lt
  have D7 := Lib.hid k2.lt
  have D8 := Lib.hid hb0.size
  have hn : Below U10.heap.size U10 V11 := by rw [hV11]; exact below_a1 _ _
  have nk1 := k1.of hn
  have nk2 := k2.of hn
  replace HB1 := Lib.hid (HB1.out.of hn)
  replace HB3 := Lib.hid (HB3.out.of hn)
  have nhb0 := hb0.trans (hn.mono hb0.size)
  clear hn
  have k5 : Blk V11 U10.heap.size #[.bool bn3, .slice ba3 bl3 bc3] 34 := by rw [hV11]; exact (Blk.new _ _ _)
  clear k1 k2
  clear hb0
  clear hV11
  have k1 := nk1
  clear nk1
  have k2 := nk2
  clear nk2
  have hb0 := nhb0
  clear nhb0
  have c5_0 : V11.cell? ⟨U10.heap.size, 0, none⟩ = some (.bool bn3) := k5.cell 0
  have c5_1 : V11.cell? ⟨U10.heap.size, 1, none⟩ = some (.slice ba3 bl3 bc3) := k5.cell 1
  have l5 := k5.lt
  have Kk1 := Lib.hid k1
  clear k1
  have Kk2 := Lib.hid k2
  clear k2
  have Kk5 := Lib.hid k5
  clear k5
  refine wp_region_float1 4 3 [(true, 0), (false, 1), (false, 2)] (by kernel_rfl) (by kernel_rfl) (fun _ _ d _ _ => by cases d <;> exact Iff.rfl) rfl rfl rfl alWrL0_0 ?_
  have hb : Below V11.heap.size V11 V11.drew := (Below.refl _ _).drew
  refine wpF_take rfl rfl ?_
  go_big_quiet_step (rfl)
  refine wpQuiet_nil ?_
  refine wpF_do rfl ?_
  intro w1 hg K hK
  replace hb := hb.trans (hg.mono hb.size)
  try replace HB4 := Lib.hid (HB4.out.of hg); try replace HB5 := Lib.hid (HB5.out.of hg)
  clear hg
  go_wp2_with ((go_at_call 24; (with_reducible refine (bigOf_v 1 1 rfl (by unfold In64; omega) _).mono ?_); rintro e w2 ⟨v_, rfl, hbm, hn⟩; have HB4 := Lib.hid hbm; have hvm := hbm.shape; clear hbm; obtain ⟨bn4, ba4, bl4, bc4, rfl⟩ := hvm))
  refine hK.out _ _ hn ?_
  replace hb := hb.trans (hn.mono hb.size)
  clear hK K
  clear hn
  refine wpF_do rfl ?_
  intro w1 hg K hK
  replace hb := hb.trans (hg.mono hb.size)
  try replace HB4 := Lib.hid (HB4.out.of hg); try replace HB5 := Lib.hid (HB5.out.of hg)
  clear hg
  go_wp2_with ((go_at_call 23; (with_reducible refine (bigAdd_v (.agg #[.bool bn3, .slice ba3 bl3 bc3]) (.agg #[.bool bn4, .slice ba4 bl4 bc4]) r 1 t 18 HP11.out _ (HB3.out.of hb) (HB4.out.mono (by decide)) (by decide)).mono ?_); rintro e w2 ⟨v_, rfl, hbm, hn⟩; replace HB4 := Lib.hid (HB4.out.of hn); have HB5 := Lib.hid hbm; have hvm := hbm.shape; clear hbm; obtain ⟨bn5, ba5, bl5, bc5, rfl⟩ := hvm))
  refine hK.out _ _ hn ?_
  replace hb := hb.trans (hn.mono hb.size)
  clear hK K
  clear hn
  refine wpF_nil ?_
  clear hb
  intro w1 hg hb b1 lb1 nb1
  replace HB4 := Lib.hid (HB4.out.of hg)
  replace HB5 := Lib.hid (HB5.out.of hg)
  clear hg
  simp only [Act.put, ptrTo, List.setIfInBounds_toArray, List.set_cons_succ, List.set_cons_zero]
  simp only [List.drop_succ_cons, List.drop_zero]
  clear c5_0 c5_1 l5
  first | refine calls_w ?_ | refine name_world ?_ | refine list_world ?_ | refine post_world ?_
  intro U12 hU12
  subst hU12
  have D9 := Lib.hid Kk1.out.lt
  have D10 := Lib.hid Kk2.out.lt
  have D11 := Lib.hid Kk5.out.lt
  have D12 := Lib.hid hb0.size
  have k6 : Blk U12 b1 #[.bool false, .slice none 0 0] 34 := nb1
  have k1 := Kk1.out.of hb
  clear Kk1
  have k2 := Kk2.out.of hb
  clear Kk2
  have k5 := Kk5.out.of hb
  clear Kk5
  have D13 := Lib.hid lb1
  clear nb1 lb1
  replace HB1 := Lib.hid (HB1.out.of hb)
  replace HB3 := Lib.hid (HB3.out.of hb)
  replace hb0 := hb0.trans (hb.mono hb0.size)
  clear hb
  generalize b1 = q6 at *
  have c6_0 : U12.cell? ⟨q6, 0, none⟩ = some (.bool false) := k6.cell 0
  have c6_1 : U12.cell? ⟨q6, 1, none⟩ = some (.slice none 0 0) := k6.cell 1
  have f6_0 := k6.free 0
  have f6_1 := k6.free 1
  have l6 := k6.lt
  go_wp2_with fail
  clear c6_0 c6_1 f6_0 f6_1 l6
  first | refine calls_w ?_ | refine name_world ?_ | refine list_world ?_ | refine post_world ?_
  intro V13 hV13
  clear HB4
  have D14 := Lib.hid k1.lt
  have D15 := Lib.hid k2.lt
  have D16 := Lib.hid k5.lt
  have D17 := Lib.hid k6.lt
  have D18 := Lib.hid hb0.size
  have nk1 : Blk V13 w.heap.size #[.int .u64 (wd0 a), .int .u64 (wd1 a), .int .u64 (wd2 a), .int .u64 (wd3 a)] 24 := by rw [hV13]; exact (blk_setL k1 (by have := D9.out; have := D13.out; omega) 0 [.bool bn5, .slice ba5 bl5 bc5])
  have nk2 : Blk V13 U2.heap.size #[.bool bn1, .slice ba1 bl1 bc1] 34 := by rw [hV13]; exact (blk_setL k2 (by have := D10.out; have := D13.out; omega) 0 [.bool bn5, .slice ba5 bl5 bc5])
  have nk5 : Blk V13 U10.heap.size #[.bool bn3, .slice ba3 bl3 bc3] 34 := by rw [hV13]; exact (blk_setL k5 (by have := D11.out; have := D13.out; omega) 0 [.bool bn5, .slice ba5 bl5 bc5])
  have nk6 : Blk V13 q6 #[.bool bn5, .slice ba5 bl5 bc5] 34 := by rw [hV13]; exact (blk_full _ [.bool bn5, .slice ba5 bl5 bc5] k6 rfl)
  have nhb0 : Below w.heap.size w V13 := by rw [hV13]; exact (blw_setL hb0 (by have := D12.out; have := D13.out; omega) 0 [.bool bn5, .slice ba5 bl5 bc5])
  replace HB1 : Hid (Big V13 (.agg #[.bool bn1, .slice ba1 bl1 bc1]) a 18) := Lib.hid (by rw [hV13]; exact (big_setL HB1.out (Blk.cell k6 0) (fun _ h => by cases h) 0 [.bool bn5, .slice ba5 bl5 bc5]))
  replace HB3 : Hid (Big V13 (.agg #[.bool bn3, .slice ba3 bl3 bc3]) r 18) := Lib.hid (by rw [hV13]; exact (big_setL HB3.out (Blk.cell k6 0) (fun _ h => by cases h) 0 [.bool bn5, .slice ba5 bl5 bc5]))
  replace HB5 : Hid (Big V13 (.agg #[.bool bn5, .slice ba5 bl5 bc5]) t 19) := Lib.hid (by rw [hV13]; exact (big_setL HB5.out (Blk.cell k6 0) (fun _ h => by cases h) 0 [.bool bn5, .slice ba5 bl5 bc5]))
  clear k1 k2 k5 k6
  clear hb0
  clear hV13
  have k1 := nk1
  clear nk1
  have k2 := nk2
  clear nk2
  have k5 := nk5
  clear nk5
  have k6 := nk6
  clear nk6
  have hb0 := nhb0
  clear nhb0
  have c2_0 : V13.cell? ⟨U2.heap.size, 0, none⟩ = some (.bool bn1) := k2.cell 0
  have c2_1 : V13.cell? ⟨U2.heap.size, 1, none⟩ = some (.slice ba1 bl1 bc1) := k2.cell 1
  have l2 := k2.lt
  have c5_0 : V13.cell? ⟨U10.heap.size, 0, none⟩ = some (.bool bn3) := k5.cell 0
  have c5_1 : V13.cell? ⟨U10.heap.size, 1, none⟩ = some (.slice ba3 bl3 bc3) := k5.cell 1
  have l5 := k5.lt
  have c6_0 : V13.cell? ⟨q6, 0, none⟩ = some (.bool bn5) := k6.cell 0
  have c6_1 : V13.cell? ⟨q6, 1, none⟩ = some (.slice ba5 bl5 bc5) := k6.cell 1
  have l6 := k6.lt
  have Kk1 := Lib.hid k1
  clear k1
  have Kk2 := Lib.hid k2
  clear k2
  have Kk5 := Lib.hid k5
  clear k5
  have Kk6 := Lib.hid k6
  clear k6
  refine wp_region_up V13.heap.size 20 [(true, 0), (true, 1), (true, 2), (true, 3), (false, 4), (true, 5), (true, 6), (true, 7), (true, 8), (true, 9), (true, 11), (false, 10), (false, 12), (true, 13), (true, 14), (true, 15), (true, 16), (true, 17), (true, 19), (false, 18)] (by kernel_rfl) (by kernel_rfl) (fun _ _ d _ _ h => by cases d <;> exact h) ?_
  have hb : Below V13.heap.size V13 V13.drew := (Below.refl _ _).drew
  iterate 4
    refine wpS_takeL rfl rfl ?_
    go_big_quiet_step (rfl)
    refine wpQuiet_nil ?_
  refine wpS_doL rfl ?_
  intro K hK
  go_wp2_with ((go_at_call 17; (with_reducible refine (bigSign_v (.agg #[.bool bn3, .slice ba3 bl3 bc3]) r 18 rs HP12.out _ (HB3.out.of hb)).mono ?_); rintro e w2 ⟨rfl, hn⟩))
  try replace hb := hb.trans (hn.mono hb.size)
  refine hK.out _ _ (up_iff.2 hb) ?_
  clear hK K
  try clear hn
  iterate 6
    refine wpS_takeL rfl rfl ?_
    go_big_quiet_step (rfl)
    refine wpQuiet_nil ?_
  refine wpS_doL rfl ?_
  intro K hK
  go_wp2_with ((first | (go_at_call 25; (with_reducible refine (bigMul_v (.agg #[.bool bn3, .slice ba3 bl3 bc3]) (.agg #[.bool bn3, .slice ba3 bl3 bc3]) r r rr 18 18 HP14.out _ (HB3.out.of hb) (HB3.out.of hb) (by decide)).mono ?_); rintro e w2 ⟨v_, rfl, hbm, hn⟩; have HB6 := Lib.hid hbm; have hvm := hbm.shape; clear hbm; obtain ⟨bn6, ba6, bl6, bc6, rfl⟩ := hvm) | (go_at_call 25; (with_reducible refine (bigMul_v (.agg #[.bool bn5, .slice ba5 bl5 bc5]) (.agg #[.bool bn5, .slice ba5 bl5 bc5]) t t tt 19 19 HP17.out _ (HB5.out.of hb) (HB5.out.of hb) (by decide)).mono ?_); rintro e w2 ⟨v_, rfl, hbm, hn⟩; replace HB6 := Lib.hid (HB6.out.of hn); have HB7 := Lib.hid hbm; have hvm := hbm.shape; clear hbm; obtain ⟨bn7, ba7, bl7, bc7, rfl⟩ := hvm)))
  try replace hb := hb.trans (hn.mono hb.size)
  refine hK.out _ _ (up_iff.2 hb) ?_
  clear hK K
  try clear hn
  refine wpS_doL rfl ?_
  intro K hK
  go_wp2_with ((go_at_call 20; (with_reducible refine (bigCmp_v (.agg #[.bool bn6, .slice ba6 bl6 bc6]) (.agg #[.bool bn1, .slice ba1 bl1 bc1]) rr a 36 18 c3 HP15.out _ HB6.out (HB1.out.of hb)).mono ?_); rintro e w2 ⟨rfl, hn⟩; replace HB6 := Lib.hid (HB6.out.of hn)))
  try replace hb := hb.trans (hn.mono hb.size)
  refine hK.out _ _ (up_iff.2 hb) ?_
  clear hK K
  try clear hn
  iterate 6
    refine wpS_takeL rfl rfl ?_
    go_big_quiet_step (rfl)
    refine wpQuiet_nil ?_
  refine wpS_doL rfl ?_
  intro K hK
  go_wp2_with ((first | (go_at_call 25; (with_reducible refine (bigMul_v (.agg #[.bool bn3, .slice ba3 bl3 bc3]) (.agg #[.bool bn3, .slice ba3 bl3 bc3]) r r rr 18 18 HP14.out _ (HB3.out.of hb) (HB3.out.of hb) (by decide)).mono ?_); rintro e w2 ⟨v_, rfl, hbm, hn⟩; have HB6 := Lib.hid hbm; have hvm := hbm.shape; clear hbm; obtain ⟨bn6, ba6, bl6, bc6, rfl⟩ := hvm) | (go_at_call 25; (with_reducible refine (bigMul_v (.agg #[.bool bn5, .slice ba5 bl5 bc5]) (.agg #[.bool bn5, .slice ba5 bl5 bc5]) t t tt 19 19 HP17.out _ (HB5.out.of hb) (HB5.out.of hb) (by decide)).mono ?_); rintro e w2 ⟨v_, rfl, hbm, hn⟩; replace HB6 := Lib.hid (HB6.out.of hn); have HB7 := Lib.hid hbm; have hvm := hbm.shape; clear hbm; obtain ⟨bn7, ba7, bl7, bc7, rfl⟩ := hvm)))
  try replace hb := hb.trans (hn.mono hb.size)
  refine hK.out _ _ (up_iff.2 hb) ?_
  clear hK K
  try clear hn
  refine wpS_nil ?_
  simp only [List.drop_succ_cons, List.drop_zero]
  first | refine calls_w ?_ | refine name_world ?_ | refine list_world ?_ | refine post_world ?_
  intro U14 hU14
  first | (subst hU14; have u_ := U14; clear u_) | (rw [← hU14] at hb; clear hU14)
  clear c2_0 c2_1 l2 c5_0 c5_1 l5 c6_0 c6_1 l6
  have k1 := Kk1.out.of hb
  clear Kk1
  have k2 := Kk2.out.of hb
  clear Kk2
  have k5 := Kk5.out.of hb
  clear Kk5
  have k6 := Kk6.out.of hb
  clear Kk6
  replace HB1 := Lib.hid (HB1.out.of hb)
  replace HB3 := Lib.hid (HB3.out.of hb)
  replace HB5 := Lib.hid (HB5.out.of hb)
  replace hb0 := hb0.trans (hb.mono hb0.size)
  clear hb
  go_wp2_with fail
  refine (bigCmp_v (.agg #[.bool bn7, .slice ba7 bl7 bc7]) (.agg #[.bool bn1, .slice ba1 bl1 bc1]) tt a 38 18 c4 HP18.out _ HB7.out HB1.out).mono ?_
  rintro e U15 ⟨rfl, hn⟩
  clear HB3 HB5 HB6 HB7
  clear k5 k6
  replace k1 := k1.of hn
  replace k2 := k2.of hn
  replace HB1 := Lib.hid (HB1.out.of hn)
  replace hb0 := hb0.trans (hn.mono hb0.size)
  clear hn
  have c1_0 : U15.cell? ⟨w.heap.size, 0, none⟩ = some (.int .u64 (wd0 a)) := k1.cell 0
  have c1_1 : U15.cell? ⟨w.heap.size, 1, none⟩ = some (.int .u64 (wd1 a)) := k1.cell 1
  have c1_2 : U15.cell? ⟨w.heap.size, 2, none⟩ = some (.int .u64 (wd2 a)) := k1.cell 2
  have c1_3 : U15.cell? ⟨w.heap.size, 3, none⟩ = some (.int .u64 (wd3 a)) := k1.cell 3
  have l1 := k1.lt
  go_wp2_with fail
  clear c1_0 c1_1 c1_2 c1_3 l1
  refine (Power_v a n p true HP20.out HP21.out _ia _in _).mono ?_
  rintro e U16 ⟨rfl, hn⟩
  clear k1
  replace k2 := k2.of hn
  replace HB1 := Lib.hid (HB1.out.of hn)
  replace hb0 := hb0.trans (hn.mono hb0.size)
  clear hn
  go_wp2_with fail
  first | refine calls_w ?_ | refine name_world ?_ | refine list_world ?_ | refine post_world ?_
  intro V17 hV17
  have D19 := Lib.hid k2.lt
  have D20 := Lib.hid hb0.size
  have hn : Below U16.heap.size U16 V17 := by rw [hV17]; exact below_a1 _ _
  have nk2 := k2.of hn
  replace HB1 := Lib.hid (HB1.out.of hn)
  have nhb0 := hb0.trans (hn.mono hb0.size)
  clear hn
  have k7 : Blk V17 U16.heap.size #[.int .u64 (wd0 p), .int .u64 (wd1 p), .int .u64 (wd2 p), .int .u64 (wd3 p)] 24 := by rw [hV17]; exact (Blk.new _ _ _)
  clear k2
  clear hb0
  clear hV17
  have k2 := nk2
  clear nk2
  have hb0 := nhb0
  clear nhb0
  refine (bigOf_v 1 1 rfl (by unfold In64; omega) _).mono ?_
  rintro e U18 ⟨v_, rfl, hbm, hn⟩
  replace k2 := k2.of hn
  replace k7 := k7.of hn
  replace HB1 := Lib.hid (HB1.out.of hn)
  replace hb0 := hb0.trans (hn.mono hb0.size)
  clear hn
  have HB8 := Lib.hid hbm
  have hvm := hbm.shape
  clear hbm
  obtain ⟨bn8, ba8, bl8, bc8, rfl⟩ := hvm
  go_wp2_with fail
  first | refine name_world ?_
  intro V19 hV19
  have D21 := Lib.hid k2.lt
  have D22 := Lib.hid k7.lt
  have D23 := Lib.hid hb0.size
  have hn : Below U18.heap.size U18 V19 := by rw [hV19]; exact below_a1 _ _
  have nk2 := k2.of hn
  have nk7 := k7.of hn
  replace HB1 := Lib.hid (HB1.out.of hn)
  replace HB8 := Lib.hid (HB8.out.of hn)
  have nhb0 := hb0.trans (hn.mono hb0.size)
  clear hn
  have k8 : Blk V19 U18.heap.size #[.bool bn8, .slice ba8 bl8 bc8] 34 := by rw [hV19]; exact (Blk.new _ _ _)
  clear k2 k7
  clear hb0
  clear hV19
  have k2 := nk2
  clear nk2
  have k7 := nk7
  clear nk7
  have hb0 := nhb0
  clear nhb0
  go_loopg [116] (n.toNat) (fun gk_ s1_0 wr => ∃ (o : Int) (k_ : Int) (wn : Bool) (wa : Option Addr) (wl wc : Nat), s1_0 = .int .i64 k_ ∧ Hid (PwI a n o k_ ∧ n - k_ ≤ (gk_ : Int)) ∧ Blk wr U2.heap.size #[.bool bn1, .slice ba1 bl1 bc1] 34 ∧ Blk wr U16.heap.size #[.int .u64 (wd0 p), .int .u64 (wd1 p), .int .u64 (wd2 p), .int .u64 (wd3 p)] 24 ∧ Blk wr U18.heap.size #[.bool wn, .slice wa wl wc] 34 ∧ Big wr (.agg #[.bool bn1, .slice ba1 bl1 bc1]) a 18 ∧ Big wr (.agg #[.bool wn, .slice wa wl wc]) o 18 ∧ Below w.heap.size w wr)
  case atStart =>
    have HIn : PwI a n 1 0 ∧ n - 0 ≤ ((n.toNat) : Int) := by
      exact ⟨PwI.begin (by simpa using hP22) (by simpa using hP23), by omega⟩
    exact ⟨1, 0, bn8, ba8, bl8, bc8, rfl, Lib.hid HIn, k2, k7, k8, HB1.out, (HB8.out.mono (by decide)), hb0⟩
  case round =>
    rename World => W1_
    rename Nat => gk1
    clear k2 k7 k8 HB1 HB8
    clear hb0
    obtain ⟨o, k_, wn, wa, wl, wc, rfl, HI1, k2, k7, k8, HB1_, HB9_, hb0⟩ := hrel
    have HB1 := Lib.hid HB1_
    clear HB1_
    have HB9 := Lib.hid HB9_
    clear HB9_
    obtain ⟨z1, hz1⟩ : ∃ o_o : Bool, decide (k_ < n) = o_o := ⟨_, rfl⟩
    cases z1
    · have c7_0 : W1_.cell? ⟨U16.heap.size, 0, none⟩ = some (.int .u64 (wd0 p)) := k7.cell 0
      have c7_1 : W1_.cell? ⟨U16.heap.size, 1, none⟩ = some (.int .u64 (wd1 p)) := k7.cell 1
      have c7_2 : W1_.cell? ⟨U16.heap.size, 2, none⟩ = some (.int .u64 (wd2 p)) := k7.cell 2
      have c7_3 : W1_.cell? ⟨U16.heap.size, 3, none⟩ = some (.int .u64 (wd3 p)) := k7.cell 3
      have l7 := k7.lt
      have c8_0 : W1_.cell? ⟨U18.heap.size, 0, none⟩ = some (.bool wn) := k8.cell 0
      have c8_1 : W1_.cell? ⟨U18.heap.size, 1, none⟩ = some (.slice wa wl wc) := k8.cell 1
      have l8 := k8.lt
      go_wp2_with fail
      clear c7_0 c7_1 c7_2 c7_3 l7 c8_0 c8_1 l8
      refine (told_is o p true (.agg #[.bool wn, .slice wa wl wc]) 18 (okI_t HI1.out.1.io) ((HI1.out.1.yes (of_decide_eq_false hz1)).2.symm.trans HP20.out) _ HB9.out).mono ?_
      rintro e U20 ⟨rfl, hn⟩
      clear HB1 HB9
      clear k2 k7 k8
      replace hb0 := hb0.trans (hn.mono hb0.size)
      clear hn
      go_wp2_with fail
      refine (wawake_any _ (hG.of hb0)).mono ?_
      rintro e U21 ⟨rfl, hn⟩
      replace hb0 := hb0.trans (hn.mono hb0.size)
      clear hn
      go_wp2
      first | go_ret | go_ret2
      exact ⟨by first | rfl | (simp; done) | (simp; assumption), hb0⟩
    · have c2_0 : W1_.cell? ⟨U2.heap.size, 0, none⟩ = some (.bool bn1) := k2.cell 0
      have c2_1 : W1_.cell? ⟨U2.heap.size, 1, none⟩ = some (.slice ba1 bl1 bc1) := k2.cell 1
      have l2 := k2.lt
      have c8_0 : W1_.cell? ⟨U18.heap.size, 0, none⟩ = some (.bool wn) := k8.cell 0
      have c8_1 : W1_.cell? ⟨U18.heap.size, 1, none⟩ = some (.slice wa wl wc) := k8.cell 1
      have l8 := k8.lt
      go_wp2_with fail
      clear c2_0 c2_1 l2 c8_0 c8_1 l8
      obtain ⟨r2, hr2⟩ : ∃ o_o : Int, o * a = o_o := ⟨_, rfl⟩
      have Hr2 := Lib.hid hr2
      clear hr2
      refine (bigMul_v (.agg #[.bool wn, .slice wa wl wc]) (.agg #[.bool bn1, .slice ba1 bl1 bc1]) o a r2 18 18 Hr2.out _ HB9.out HB1.out (by decide)).mono ?_
      rintro e U22 ⟨v_, rfl, hbm, hn⟩
      replace k2 := k2.of hn
      replace k7 := k7.of hn
      replace k8 := k8.of hn
      replace HB1 := Lib.hid (HB1.out.of hn)
      replace HB9 := Lib.hid (HB9.out.of hn)
      replace hb0 := hb0.trans (hn.mono hb0.size)
      clear hn
      have HB10 := Lib.hid hbm
      have hvm := hbm.shape
      clear hbm
      obtain ⟨bn10, ba10, bl10, bc10, rfl⟩ := hvm
      have c8_0 : U22.cell? ⟨U18.heap.size, 0, none⟩ = some (.bool wn) := k8.cell 0
      have c8_1 : U22.cell? ⟨U18.heap.size, 1, none⟩ = some (.slice wa wl wc) := k8.cell 1
      have f8_0 := k8.free 0
      have f8_1 := k8.free 1
      have l8 := k8.lt
      go_wp2_with fail
      clear c8_0 c8_1 f8_0 f8_1 l8
      first | refine calls_w ?_ | refine name_world ?_ | refine list_world ?_ | refine post_world ?_
      intro V23 hV23
      have D24 := Lib.hid k2.lt
      have D25 := Lib.hid k7.lt
      have D26 := Lib.hid k8.lt
      have D27 := Lib.hid hb0.size
      have nk2 : Blk V23 U2.heap.size #[.bool bn1, .slice ba1 bl1 bc1] 34 := by rw [hV23]; exact (blk_setL k2 (by have := D21.out; omega) 0 [.bool bn10, .slice ba10 bl10 bc10])
      have nk7 : Blk V23 U16.heap.size #[.int .u64 (wd0 p), .int .u64 (wd1 p), .int .u64 (wd2 p), .int .u64 (wd3 p)] 24 := by rw [hV23]; exact (blk_setL k7 (by have := D22.out; omega) 0 [.bool bn10, .slice ba10 bl10 bc10])
      have nk8 : Blk V23 U18.heap.size #[.bool bn10, .slice ba10 bl10 bc10] 34 := by rw [hV23]; exact (blk_full _ [.bool bn10, .slice ba10 bl10 bc10] k8 rfl)
      have nhb0 : Below w.heap.size w V23 := by rw [hV23]; exact (blw_setL hb0 (by have := D23.out; omega) 0 [.bool bn10, .slice ba10 bl10 bc10])
      replace HB1 : Hid (Big V23 (.agg #[.bool bn1, .slice ba1 bl1 bc1]) a 18) := Lib.hid (by rw [hV23]; exact (big_setL HB1.out (Blk.cell k8 0) (fun _ h => by cases h) 0 [.bool bn10, .slice ba10 bl10 bc10]))
      replace HB9 : Hid (Big V23 (.agg #[.bool wn, .slice wa wl wc]) o 18) := Lib.hid (by rw [hV23]; exact (big_setL HB9.out (Blk.cell k8 0) (fun _ h => by cases h) 0 [.bool bn10, .slice ba10 bl10 bc10]))
      replace HB10 : Hid (Big V23 (.agg #[.bool bn10, .slice ba10 bl10 bc10]) r2 36) := Lib.hid (by rw [hV23]; exact (big_setL HB10.out (Blk.cell k8 0) (fun _ h => by cases h) 0 [.bool bn10, .slice ba10 bl10 bc10]))
      clear k2 k7 k8
      clear hb0
      clear hV23
      have k2 := nk2
      clear nk2
      have k7 := nk7
      clear nk7
      have k8 := nk8
      clear nk8
      have hb0 := nhb0
      clear nhb0
      obtain ⟨z3, hz3⟩ : ∃ o_o : Bool, okI r2 = o_o := ⟨_, rfl⟩
      have Hz3 := Lib.hid hz3
      clear hz3
      refine (Fits_is (.agg #[.bool bn10, .slice ba10 bl10 bc10]) r2 36 z3 Hz3.out _ HB10.out).mono ?_
      rintro e U24 ⟨rfl, hn⟩
      replace k2 := k2.of hn
      replace k7 := k7.of hn
      replace k8 := k8.of hn
      replace HB1 := Lib.hid (HB1.out.of hn)
      replace HB9 := Lib.hid (HB9.out.of hn)
      replace HB10 := Lib.hid (HB10.out.of hn)
      replace hb0 := hb0.trans (hn.mono hb0.size)
      clear hn
      cases z3
      · exact absurd (HI1.out.1.no (of_decide_eq_true hz1) (by rw [Hr2.out]; exact Hz3.out)) (by rw [HP21.out]; decide)
      · go_wp2_with fail
        have HIn : PwI a n r2 (wrap64 (k_ + 1)) ∧ n - (wrap64 (k_ + 1)) ≤ (((n - (wrap64 (k_ + 1))).toNat) : Int) := by
          exact ⟨HI1.out.1.nextM (of_decide_eq_true hz1) Hr2.out (by rw [Hr2.out]; exact Hz3.out), by omega⟩
        go_roundg ((n - (wrap64 (k_ + 1))).toNat)
        case measure =>
          rw [HI1.out.1.w (of_decide_eq_true hz1)]
          have q_ := of_decide_eq_true hz1
          have q2_ := HI1.out.2
          omega
        case rel => exact ⟨r2, (wrap64 (k_ + 1)), bn10, ba10, bl10, bc10, rfl, Lib.hid HIn, k2, k7, k8, HB1.out, (fit_I HB10.out (by have := Hz3.out; unfold okI at this; exact of_decide_eq_true this)), hb0⟩

set_option maxRecDepth 100000 in
set_option maxHeartbeats 4000000 in

theorem WRo_13 (a : Int) (n : Int) (s : Int) (k : Int) (q : Int) (c1 : Int) (r : Int) (t : Int) (rs : Int) (rr : Int) (c3 : Int) (tt : Int) (c4 : Int)   (hP0 : a.sign = s) (hP1 : decide (s < 0) = false) (hP2 : btn a = k) (hP3 : decide (k < 0) = false) (hP4 : decide (256 < k) = false) (hP5 : 2 ^ k.toNat = q) (hP6 : cmpI a q = c1) (hP7 : decide (0 ≤ c1) = false) (hP8 : decide (0 < k) = false) (hP9 : rtv a = r) (hP10 : rtk a = true) (hP11 : r + 1 = t) (hP12 : r.sign = rs) (hP13 : decide (rs < 0) = false) (hP14 : r * r = rr) (hP15 : cmpI rr a = c3) (hP16 : decide (0 < c3) = false) (hP17 : t * t = tt) (hP18 : cmpI tt a = c4) (hP19 : decide (c4 ≤ 0) = false) (hP20 : pwv a n = 0) (hP21 : pwk a n = false) (hP22 : decide (n < 0) = false) (hP23 : decide (256 < n) = false) (_ik : Hid (0 ≤ k ∧ k ≤ 256)) (_ir : InI r) (_ia : InI a) (_in : In64 n)  (w : World) (hG : Tab w) :
    Calls Tryd.prog 6 #[.agg #[.int .u64 (wd0 a), .int .u64 (wd1 a), .int .u64 (wd2 a), .int .u64 (wd3 a)], .int .i64 n] w fun e w' => e = .returned (.bool true) ∧ Below w.heap.size w w' := by

  have HP0 := Lib.hid hP0
  clear hP0
  have HP2 := Lib.hid hP2
  clear hP2
  have HP5 := Lib.hid hP5
  clear hP5
  have HP6 := Lib.hid hP6
  clear hP6
  have HP9 := Lib.hid hP9
  clear hP9
  have HP10 := Lib.hid hP10
  clear hP10
  have HP11 := Lib.hid hP11
  clear hP11
  have HP12 := Lib.hid hP12
  clear hP12
  have HP14 := Lib.hid hP14
  clear hP14
  have HP15 := Lib.hid hP15
  clear hP15
  have HP17 := Lib.hid hP17
  clear hP17
  have HP18 := Lib.hid hP18
  clear hP18
  have HP20 := Lib.hid hP20
  clear hP20
  have HP21 := Lib.hid hP21
  clear hP21
  go_enter Tryd.func6, Tryd.ntmps6
  go_wp2_with fail
  first | refine calls_w ?_ | refine name_world ?_ | refine list_world ?_ | refine post_world ?_
  intro V1 hV1
  have hn : Below w.heap.size w V1 := by rw [hV1]; exact below_a1 _ _
  have nhb0 := hn
  have k1 : Blk V1 w.heap.size #[.int .u64 (wd0 a), .int .u64 (wd1 a), .int .u64 (wd2 a), .int .u64 (wd3 a)] 24 := by rw [hV1]; exact (Blk.new _ _ _)
  clear hV1
  have hb0 := nhb0
  clear nhb0
  refine (Read_v a a rfl _ia _).mono ?_
  rintro e U2 ⟨v_, rfl, hbm, hn⟩
  replace k1 := k1.of hn
  replace hb0 := hb0.trans (hn.mono hb0.size)
  clear hn
  have HB1 := Lib.hid hbm
  have hvm := hbm.shape
  clear hbm
  obtain ⟨bn1, ba1, bl1, bc1, rfl⟩ := hvm
  go_wp2_with fail
  first | refine calls_w ?_ | refine name_world ?_ | refine list_world ?_ | refine post_world ?_
  intro V3 hV3
  have D1 := Lib.hid k1.lt
  have D2 := Lib.hid hb0.size
  have hn : Below U2.heap.size U2 V3 := by rw [hV3]; exact below_a2 _ _ _
  have nk1 := k1.of hn
  replace HB1 := Lib.hid (HB1.out.of hn)
  have nhb0 := hb0.trans (hn.mono hb0.size)
  clear hn
  have k2 : Blk V3 U2.heap.size #[.bool bn1, .slice ba1 bl1 bc1] 34 := by rw [hV3]; exact ((Blk.new _ _ _).alloc _)
  have k3 : Blk V3 (U2.heap.size + 1) #[.bool bn1, .slice ba1 bl1 bc1] 34 := by rw [hV3]; exact (Blk.new1 _ _ _ _)
  clear k1
  clear hb0
  clear hV3
  have k1 := nk1
  clear nk1
  have hb0 := nhb0
  clear nhb0
  refine (bigSign_v (.agg #[.bool bn1, .slice ba1 bl1 bc1]) a 18 s HP0.out _ HB1.out).mono ?_
  rintro e U4 ⟨rfl, hn⟩
  replace k1 := k1.of hn
  replace k2 := k2.of hn
  replace k3 := k3.of hn
  replace HB1 := Lib.hid (HB1.out.of hn)
  replace hb0 := hb0.trans (hn.mono hb0.size)
  clear hn
  have c1_0 : U4.cell? ⟨w.heap.size, 0, none⟩ = some (.int .u64 (wd0 a)) := k1.cell 0
  have c1_1 : U4.cell? ⟨w.heap.size, 1, none⟩ = some (.int .u64 (wd1 a)) := k1.cell 1
  have c1_2 : U4.cell? ⟨w.heap.size, 2, none⟩ = some (.int .u64 (wd2 a)) := k1.cell 2
  have c1_3 : U4.cell? ⟨w.heap.size, 3, none⟩ = some (.int .u64 (wd3 a)) := k1.cell 3
  have l1 := k1.lt
  go_wp2_with fail
  clear c1_0 c1_1 c1_2 c1_3 l1
  refine (Bits_v a k HP2.out _ia _).mono ?_
  rintro e U5 ⟨rfl, hn⟩
  replace k1 := k1.of hn
  replace k2 := k2.of hn
  replace k3 := k3.of hn
  replace HB1 := Lib.hid (HB1.out.of hn)
  replace hb0 := hb0.trans (hn.mono hb0.size)
  clear hn
  go_wp2_with fail
  have c3_0 : U5.cell? ⟨(U2.heap.size + 1), 0, none⟩ = some (.bool bn1) := k3.cell 0
  have c3_1 : U5.cell? ⟨(U2.heap.size + 1), 1, none⟩ = some (.slice ba1 bl1 bc1) := k3.cell 1
  have l3 := k3.lt
  have Kk1 := Lib.hid k1
  clear k1
  have Kk2 := Lib.hid k2
  clear k2
  have Kk3 := Lib.hid k3
  clear k3
  refine wp_region_up U5.heap.size 21 [(true, 0), (true, 1), (true, 2), (true, 3), (true, 4), (true, 5), (true, 6), (true, 7), (true, 8), (false, 9), (false, 10), (true, 11), (true, 12), (true, 13), (true, 14), (true, 15), (true, 16), (true, 17), (true, 18), (true, 19), (false, 20)] (by kernel_rfl) (by kernel_rfl) (fun _ _ d _ _ h => by cases d <;> exact h) ?_
  have hb : Below U5.heap.size U5 U5.drew := (Below.refl _ _).drew
  iterate 9
    refine wpS_takeL rfl rfl ?_
    go_big_quiet_step (rfl)
    refine wpQuiet_nil ?_
  refine wpS_doL rfl ?_
  intro K hK
  go_wp2_with ((go_at_call 21; (with_reducible refine (powk_v k q _ik.out HP5.out _).mono ?_); rintro e w2 ⟨v_, rfl, hbm, hn⟩; have HB2 := Lib.hid hbm; have hvm := hbm.shape; clear hbm; obtain ⟨bn2, ba2, bl2, bc2, rfl⟩ := hvm))
  try replace hb := hb.trans (hn.mono hb.size)
  refine hK.out _ _ (up_iff.2 hb) ?_
  clear hK K
  try clear hn
  refine wpS_doL rfl ?_
  intro K hK
  go_wp2_with ((go_at_call 20; (with_reducible refine (bigCmp_v (.agg #[.bool bn1, .slice ba1 bl1 bc1]) (.agg #[.bool bn2, .slice ba2 bl2 bc2]) a q 18 18 c1 HP6.out _ (HB1.out.of hb) HB2.out).mono ?_); rintro e w2 ⟨rfl, hn⟩; replace HB2 := Lib.hid (HB2.out.of hn)))
  try replace hb := hb.trans (hn.mono hb.size)
  refine hK.out _ _ (up_iff.2 hb) ?_
  clear hK K
  try clear hn
  iterate 9
    refine wpS_takeL rfl rfl ?_
    go_big_quiet_step (rfl)
    refine wpQuiet_nil ?_
  refine wpS_doL rfl ?_
  intro K hK
  go_wp2_with ((go_at_call 21; (with_reducible refine (powk_v k q _ik.out HP5.out _).mono ?_); rintro e w2 ⟨v_, rfl, hbm, hn⟩; have HB2 := Lib.hid hbm; have hvm := hbm.shape; clear hbm; obtain ⟨bn2, ba2, bl2, bc2, rfl⟩ := hvm))
  try replace hb := hb.trans (hn.mono hb.size)
  refine hK.out _ _ (up_iff.2 hb) ?_
  clear hK K
  try clear hn
  refine wpS_nil ?_
  simp only [List.drop_succ_cons, List.drop_zero]
  first | refine calls_w ?_ | refine name_world ?_ | refine list_world ?_ | refine post_world ?_
  intro U6 hU6
  first | (subst hU6; have u_ := U6; clear u_) | (rw [← hU6] at hb; clear hU6)
  clear c3_0 c3_1 l3
  have k1 := Kk1.out.of hb
  clear Kk1
  have k2 := Kk2.out.of hb
  clear Kk2
  have k3 := Kk3.out.of hb
  clear Kk3
  replace HB1 := Lib.hid (HB1.out.of hb)
  replace hb0 := hb0.trans (hb.mono hb0.size)
  clear hb
  have c1_0 : U6.cell? ⟨w.heap.size, 0, none⟩ = some (.int .u64 (wd0 a)) := k1.cell 0
  have c1_1 : U6.cell? ⟨w.heap.size, 1, none⟩ = some (.int .u64 (wd1 a)) := k1.cell 1
  have c1_2 : U6.cell? ⟨w.heap.size, 2, none⟩ = some (.int .u64 (wd2 a)) := k1.cell 2
  have c1_3 : U6.cell? ⟨w.heap.size, 3, none⟩ = some (.int .u64 (wd3 a)) := k1.cell 3
  have l1 := k1.lt
  go_wp2_with fail
  clear c1_0 c1_1 c1_2 c1_3 l1
  refine (Root_v a r true HP9.out HP10.out _ia _).mono ?_
  rintro e U7 ⟨rfl, hn⟩
  clear HB2
  clear k3
  replace k1 := k1.of hn
  replace k2 := k2.of hn
  replace HB1 := Lib.hid (HB1.out.of hn)
  replace hb0 := hb0.trans (hn.mono hb0.size)
  clear hn
  have c2_0 : U7.cell? ⟨U2.heap.size, 0, none⟩ = some (.bool bn1) := k2.cell 0
  have c2_1 : U7.cell? ⟨U2.heap.size, 1, none⟩ = some (.slice ba1 bl1 bc1) := k2.cell 1
  have l2 := k2.lt
  go_wp2_with fail
  clear c2_0 c2_1 l2
  first | refine calls_w ?_ | refine name_world ?_ | refine list_world ?_ | refine post_world ?_
  intro V8 hV8
  have D3 := Lib.hid k1.lt
  have D4 := Lib.hid k2.lt
  have D5 := Lib.hid hb0.size
  have hn : Below U7.heap.size U7 V8 := by rw [hV8]; exact below_a1 _ _
  have nk1 := k1.of hn
  have nk2 := k2.of hn
  replace HB1 := Lib.hid (HB1.out.of hn)
  have nhb0 := hb0.trans (hn.mono hb0.size)
  clear hn
  have k4 : Blk V8 U7.heap.size #[.int .u64 (wd0 r), .int .u64 (wd1 r), .int .u64 (wd2 r), .int .u64 (wd3 r)] 24 := by rw [hV8]; exact (Blk.new _ _ _)
  clear k1 k2
  clear hb0
  clear hV8
  have k1 := nk1
  clear nk1
  have k2 := nk2
  clear nk2
  have hb0 := nhb0
  clear nhb0
  refine (bigSign_v (.agg #[.bool bn1, .slice ba1 bl1 bc1]) a 18 s HP0.out _ HB1.out).mono ?_
  rintro e U9 ⟨rfl, hn⟩
  replace k1 := k1.of hn
  replace k2 := k2.of hn
  replace k4 := k4.of hn
  replace HB1 := Lib.hid (HB1.out.of hn)
  replace hb0 := hb0.trans (hn.mono hb0.size)
  clear hn
  have c4_0 : U9.cell? ⟨U7.heap.size, 0, none⟩ = some (.int .u64 (wd0 r)) := k4.cell 0
  have c4_1 : U9.cell? ⟨U7.heap.size, 1, none⟩ = some (.int .u64 (wd1 r)) := k4.cell 1
  have c4_2 : U9.cell? ⟨U7.heap.size, 2, none⟩ = some (.int .u64 (wd2 r)) := k4.cell 2
  have c4_3 : U9.cell? ⟨U7.heap.size, 3, none⟩ = some (.int .u64 (wd3 r)) := k4.cell 3
  have l4 := k4.lt
  go_wp2_with fail
  clear c4_0 c4_1 c4_2 c4_3 l4
  refine (Read_v r r rfl _ir _).mono ?_
  rintro e U10 ⟨v_, rfl, hbm, hn⟩
  clear k4
  replace k1 := k1.of hn
  replace k2 := k2.of hn
  replace HB1 := Lib.hid (HB1.out.of hn)
  replace hb0 := hb0.trans (hn.mono hb0.size)
  clear hn
  have HB3 := Lib.hid hbm
  have hvm := hbm.shape
  clear hbm
  obtain ⟨bn3, ba3, bl3, bc3, rfl⟩ := hvm
  go_wp2_with fail
  first | refine calls_w ?_ | refine name_world ?_ | refine list_world ?_ | refine post_world ?_
  intro V11 hV11
  have D6 := Lib.hid k1.lt
  have D7 := Lib.hid k2.lt
  have D8 := Lib.hid hb0.size
  have hn : Below U10.heap.size U10 V11 := by rw [hV11]; exact below_a1 _ _
  have nk1 := k1.of hn
  have nk2 := k2.of hn
  replace HB1 := Lib.hid (HB1.out.of hn)
  replace HB3 := Lib.hid (HB3.out.of hn)
  have nhb0 := hb0.trans (hn.mono hb0.size)
  clear hn
  have k5 : Blk V11 U10.heap.size #[.bool bn3, .slice ba3 bl3 bc3] 34 := by rw [hV11]; exact (Blk.new _ _ _)
  clear k1 k2
  clear hb0
  clear hV11
  have k1 := nk1
  clear nk1
  have k2 := nk2
  clear nk2
  have hb0 := nhb0
  clear nhb0
  have c5_0 : V11.cell? ⟨U10.heap.size, 0, none⟩ = some (.bool bn3) := k5.cell 0
  have c5_1 : V11.cell? ⟨U10.heap.size, 1, none⟩ = some (.slice ba3 bl3 bc3) := k5.cell 1
  have l5 := k5.lt
  have Kk1 := Lib.hid k1
  clear k1
  have Kk2 := Lib.hid k2
  clear k2
  have Kk5 := Lib.hid k5
  clear k5
  refine wp_region_float1 4 3 [(true, 0), (false, 1), (false, 2)] (by kernel_rfl) (by kernel_rfl) (fun _ _ d _ _ => by cases d <;> exact Iff.rfl) rfl rfl rfl alWrL0_0 ?_
  have hb : Below V11.heap.size V11 V11.drew := (Below.refl _ _).drew
  refine wpF_take rfl rfl ?_
  go_big_quiet_step (rfl)
  refine wpQuiet_nil ?_
  refine wpF_do rfl ?_
  intro w1 hg K hK
  replace hb := hb.trans (hg.mono hb.size)
  try replace HB4 := Lib.hid (HB4.out.of hg); try replace HB5 := Lib.hid (HB5.out.of hg)
  clear hg
  go_wp2_with ((go_at_call 24; (with_reducible refine (bigOf_v 1 1 rfl (by unfold In64; omega) _).mono ?_); rintro e w2 ⟨v_, rfl, hbm, hn⟩; have HB4 := Lib.hid hbm; have hvm := hbm.shape; clear hbm; obtain ⟨bn4, ba4, bl4, bc4, rfl⟩ := hvm))
  refine hK.out _ _ hn ?_
  replace hb := hb.trans (hn.mono hb.size)
  clear hK K
  clear hn
  refine wpF_do rfl ?_
  intro w1 hg K hK
  replace hb := hb.trans (hg.mono hb.size)
  try replace HB4 := Lib.hid (HB4.out.of hg); try replace HB5 := Lib.hid (HB5.out.of hg)
  clear hg
  go_wp2_with ((go_at_call 23; (with_reducible refine (bigAdd_v (.agg #[.bool bn3, .slice ba3 bl3 bc3]) (.agg #[.bool bn4, .slice ba4 bl4 bc4]) r 1 t 18 HP11.out _ (HB3.out.of hb) (HB4.out.mono (by decide)) (by decide)).mono ?_); rintro e w2 ⟨v_, rfl, hbm, hn⟩; replace HB4 := Lib.hid (HB4.out.of hn); have HB5 := Lib.hid hbm; have hvm := hbm.shape; clear hbm; obtain ⟨bn5, ba5, bl5, bc5, rfl⟩ := hvm))
  refine hK.out _ _ hn ?_
  replace hb := hb.trans (hn.mono hb.size)
  clear hK K
  clear hn
  refine wpF_nil ?_
  clear hb
  intro w1 hg hb b1 lb1 nb1
  replace HB4 := Lib.hid (HB4.out.of hg)
  replace HB5 := Lib.hid (HB5.out.of hg)
  clear hg
  simp only [Act.put, ptrTo, List.setIfInBounds_toArray, List.set_cons_succ, List.set_cons_zero]
  simp only [List.drop_succ_cons, List.drop_zero]
  clear c5_0 c5_1 l5
  first | refine calls_w ?_ | refine name_world ?_ | refine list_world ?_ | refine post_world ?_
  intro U12 hU12
  subst hU12
  have D9 := Lib.hid Kk1.out.lt
  have D10 := Lib.hid Kk2.out.lt
  have D11 := Lib.hid Kk5.out.lt
  have D12 := Lib.hid hb0.size
  have k6 : Blk U12 b1 #[.bool false, .slice none 0 0] 34 := nb1
  have k1 := Kk1.out.of hb
  clear Kk1
  have k2 := Kk2.out.of hb
  clear Kk2
  have k5 := Kk5.out.of hb
  clear Kk5
  have D13 := Lib.hid lb1
  clear nb1 lb1
  replace HB1 := Lib.hid (HB1.out.of hb)
  replace HB3 := Lib.hid (HB3.out.of hb)
  replace hb0 := hb0.trans (hb.mono hb0.size)
  clear hb
  generalize b1 = q6 at *
  have c6_0 : U12.cell? ⟨q6, 0, none⟩ = some (.bool false) := k6.cell 0
  have c6_1 : U12.cell? ⟨q6, 1, none⟩ = some (.slice none 0 0) := k6.cell 1
  have f6_0 := k6.free 0
  have f6_1 := k6.free 1
  have l6 := k6.lt
  go_wp2_with fail
  clear c6_0 c6_1 f6_0 f6_1 l6
  first | refine calls_w ?_ | refine name_world ?_ | refine list_world ?_ | refine post_world ?_
  intro V13 hV13
  clear HB4
  have D14 := Lib.hid k1.lt
  have D15 := Lib.hid k2.lt
  have D16 := Lib.hid k5.lt
  have D17 := Lib.hid k6.lt
  have D18 := Lib.hid hb0.size
  have nk1 : Blk V13 w.heap.size #[.int .u64 (wd0 a), .int .u64 (wd1 a), .int .u64 (wd2 a), .int .u64 (wd3 a)] 24 := by rw [hV13]; exact (blk_setL k1 (by have := D9.out; have := D13.out; omega) 0 [.bool bn5, .slice ba5 bl5 bc5])
  have nk2 : Blk V13 U2.heap.size #[.bool bn1, .slice ba1 bl1 bc1] 34 := by rw [hV13]; exact (blk_setL k2 (by have := D10.out; have := D13.out; omega) 0 [.bool bn5, .slice ba5 bl5 bc5])
  have nk5 : Blk V13 U10.heap.size #[.bool bn3, .slice ba3 bl3 bc3] 34 := by rw [hV13]; exact (blk_setL k5 (by have := D11.out; have := D13.out; omega) 0 [.bool bn5, .slice ba5 bl5 bc5])
  have nk6 : Blk V13 q6 #[.bool bn5, .slice ba5 bl5 bc5] 34 := by rw [hV13]; exact (blk_full _ [.bool bn5, .slice ba5 bl5 bc5] k6 rfl)
  have nhb0 : Below w.heap.size w V13 := by rw [hV13]; exact (blw_setL hb0 (by have := D12.out; have := D13.out; omega) 0 [.bool bn5, .slice ba5 bl5 bc5])
  replace HB1 : Hid (Big V13 (.agg #[.bool bn1, .slice ba1 bl1 bc1]) a 18) := Lib.hid (by rw [hV13]; exact (big_setL HB1.out (Blk.cell k6 0) (fun _ h => by cases h) 0 [.bool bn5, .slice ba5 bl5 bc5]))
  replace HB3 : Hid (Big V13 (.agg #[.bool bn3, .slice ba3 bl3 bc3]) r 18) := Lib.hid (by rw [hV13]; exact (big_setL HB3.out (Blk.cell k6 0) (fun _ h => by cases h) 0 [.bool bn5, .slice ba5 bl5 bc5]))
  replace HB5 : Hid (Big V13 (.agg #[.bool bn5, .slice ba5 bl5 bc5]) t 19) := Lib.hid (by rw [hV13]; exact (big_setL HB5.out (Blk.cell k6 0) (fun _ h => by cases h) 0 [.bool bn5, .slice ba5 bl5 bc5]))
  clear k1 k2 k5 k6
  clear hb0
  clear hV13
  have k1 := nk1
  clear nk1
  have k2 := nk2
  clear nk2
  have k5 := nk5
  clear nk5
  have k6 := nk6
  clear nk6
  have hb0 := nhb0
  clear nhb0
  have c2_0 : V13.cell? ⟨U2.heap.size, 0, none⟩ = some (.bool bn1) := k2.cell 0
  have c2_1 : V13.cell? ⟨U2.heap.size, 1, none⟩ = some (.slice ba1 bl1 bc1) := k2.cell 1
  have l2 := k2.lt
  have c5_0 : V13.cell? ⟨U10.heap.size, 0, none⟩ = some (.bool bn3) := k5.cell 0
  have c5_1 : V13.cell? ⟨U10.heap.size, 1, none⟩ = some (.slice ba3 bl3 bc3) := k5.cell 1
  have l5 := k5.lt
  have c6_0 : V13.cell? ⟨q6, 0, none⟩ = some (.bool bn5) := k6.cell 0
  have c6_1 : V13.cell? ⟨q6, 1, none⟩ = some (.slice ba5 bl5 bc5) := k6.cell 1
  have l6 := k6.lt
  have Kk1 := Lib.hid k1
  clear k1
  have Kk2 := Lib.hid k2
  clear k2
  have Kk5 := Lib.hid k5
  clear k5
  have Kk6 := Lib.hid k6
  clear k6
  refine wp_region_up V13.heap.size 20 [(true, 0), (true, 1), (true, 2), (true, 3), (false, 4), (true, 5), (true, 6), (true, 7), (true, 8), (true, 9), (true, 11), (false, 10), (false, 12), (true, 13), (true, 14), (true, 15), (true, 16), (true, 17), (true, 19), (false, 18)] (by kernel_rfl) (by kernel_rfl) (fun _ _ d _ _ h => by cases d <;> exact h) ?_
  have hb : Below V13.heap.size V13 V13.drew := (Below.refl _ _).drew
  iterate 4
    refine wpS_takeL rfl rfl ?_
    go_big_quiet_step (rfl)
    refine wpQuiet_nil ?_
  refine wpS_doL rfl ?_
  intro K hK
  go_wp2_with ((go_at_call 17; (with_reducible refine (bigSign_v (.agg #[.bool bn3, .slice ba3 bl3 bc3]) r 18 rs HP12.out _ (HB3.out.of hb)).mono ?_); rintro e w2 ⟨rfl, hn⟩))
  try replace hb := hb.trans (hn.mono hb.size)
  refine hK.out _ _ (up_iff.2 hb) ?_
  clear hK K
  try clear hn
  iterate 6
    refine wpS_takeL rfl rfl ?_
    go_big_quiet_step (rfl)
    refine wpQuiet_nil ?_
  refine wpS_doL rfl ?_
  intro K hK
  go_wp2_with ((first | (go_at_call 25; (with_reducible refine (bigMul_v (.agg #[.bool bn3, .slice ba3 bl3 bc3]) (.agg #[.bool bn3, .slice ba3 bl3 bc3]) r r rr 18 18 HP14.out _ (HB3.out.of hb) (HB3.out.of hb) (by decide)).mono ?_); rintro e w2 ⟨v_, rfl, hbm, hn⟩; have HB6 := Lib.hid hbm; have hvm := hbm.shape; clear hbm; obtain ⟨bn6, ba6, bl6, bc6, rfl⟩ := hvm) | (go_at_call 25; (with_reducible refine (bigMul_v (.agg #[.bool bn5, .slice ba5 bl5 bc5]) (.agg #[.bool bn5, .slice ba5 bl5 bc5]) t t tt 19 19 HP17.out _ (HB5.out.of hb) (HB5.out.of hb) (by decide)).mono ?_); rintro e w2 ⟨v_, rfl, hbm, hn⟩; replace HB6 := Lib.hid (HB6.out.of hn); have HB7 := Lib.hid hbm; have hvm := hbm.shape; clear hbm; obtain ⟨bn7, ba7, bl7, bc7, rfl⟩ := hvm)))
  try replace hb := hb.trans (hn.mono hb.size)
  refine hK.out _ _ (up_iff.2 hb) ?_
  clear hK K
  try clear hn
  refine wpS_doL rfl ?_
  intro K hK
  go_wp2_with ((go_at_call 20; (with_reducible refine (bigCmp_v (.agg #[.bool bn6, .slice ba6 bl6 bc6]) (.agg #[.bool bn1, .slice ba1 bl1 bc1]) rr a 36 18 c3 HP15.out _ HB6.out (HB1.out.of hb)).mono ?_); rintro e w2 ⟨rfl, hn⟩; replace HB6 := Lib.hid (HB6.out.of hn)))
  try replace hb := hb.trans (hn.mono hb.size)
  refine hK.out _ _ (up_iff.2 hb) ?_
  clear hK K
  try clear hn
  iterate 6
    refine wpS_takeL rfl rfl ?_
    go_big_quiet_step (rfl)
    refine wpQuiet_nil ?_
  refine wpS_doL rfl ?_
  intro K hK
  go_wp2_with ((first | (go_at_call 25; (with_reducible refine (bigMul_v (.agg #[.bool bn3, .slice ba3 bl3 bc3]) (.agg #[.bool bn3, .slice ba3 bl3 bc3]) r r rr 18 18 HP14.out _ (HB3.out.of hb) (HB3.out.of hb) (by decide)).mono ?_); rintro e w2 ⟨v_, rfl, hbm, hn⟩; have HB6 := Lib.hid hbm; have hvm := hbm.shape; clear hbm; obtain ⟨bn6, ba6, bl6, bc6, rfl⟩ := hvm) | (go_at_call 25; (with_reducible refine (bigMul_v (.agg #[.bool bn5, .slice ba5 bl5 bc5]) (.agg #[.bool bn5, .slice ba5 bl5 bc5]) t t tt 19 19 HP17.out _ (HB5.out.of hb) (HB5.out.of hb) (by decide)).mono ?_); rintro e w2 ⟨v_, rfl, hbm, hn⟩; replace HB6 := Lib.hid (HB6.out.of hn); have HB7 := Lib.hid hbm; have hvm := hbm.shape; clear hbm; obtain ⟨bn7, ba7, bl7, bc7, rfl⟩ := hvm)))
  try replace hb := hb.trans (hn.mono hb.size)
  refine hK.out _ _ (up_iff.2 hb) ?_
  clear hK K
  try clear hn
  refine wpS_nil ?_
  simp only [List.drop_succ_cons, List.drop_zero]
  first | refine calls_w ?_ | refine name_world ?_ | refine list_world ?_ | refine post_world ?_
  intro U14 hU14
  first | (subst hU14; have u_ := U14; clear u_) | (rw [← hU14] at hb; clear hU14)
  clear c2_0 c2_1 l2 c5_0 c5_1 l5 c6_0 c6_1 l6
  have k1 := Kk1.out.of hb
  clear Kk1
  have k2 := Kk2.out.of hb
  clear Kk2
  have k5 := Kk5.out.of hb
  clear Kk5
  have k6 := Kk6.out.of hb
  clear Kk6
  replace HB1 := Lib.hid (HB1.out.of hb)
  replace HB3 := Lib.hid (HB3.out.of hb)
  replace HB5 := Lib.hid (HB5.out.of hb)
  replace hb0 := hb0.trans (hb.mono hb0.size)
  clear hb
  go_wp2_with fail
  refine (bigCmp_v (.agg #[.bool bn7, .slice ba7 bl7 bc7]) (.agg #[.bool bn1, .slice ba1 bl1 bc1]) tt a 38 18 c4 HP18.out _ HB7.out HB1.out).mono ?_
  rintro e U15 ⟨rfl, hn⟩
  clear HB3 HB5 HB6 HB7
  clear k5 k6
  replace k1 := k1.of hn
  replace k2 := k2.of hn
  replace HB1 := Lib.hid (HB1.out.of hn)
  replace hb0 := hb0.trans (hn.mono hb0.size)
  clear hn
  have c1_0 : U15.cell? ⟨w.heap.size, 0, none⟩ = some (.int .u64 (wd0 a)) := k1.cell 0
  have c1_1 : U15.cell? ⟨w.heap.size, 1, none⟩ = some (.int .u64 (wd1 a)) := k1.cell 1
  have c1_2 : U15.cell? ⟨w.heap.size, 2, none⟩ = some (.int .u64 (wd2 a)) := k1.cell 2
  have c1_3 : U15.cell? ⟨w.heap.size, 3, none⟩ = some (.int .u64 (wd3 a)) := k1.cell 3
  have l1 := k1.lt
  go_wp2_with fail
  clear c1_0 c1_1 c1_2 c1_3 l1
  refine (Power_v a n 0 false HP20.out HP21.out _ia _in _).mono ?_
  rintro e U16 ⟨rfl, hn⟩
  clear k1
  replace k2 := k2.of hn
  replace HB1 := Lib.hid (HB1.out.of hn)
  replace hb0 := hb0.trans (hn.mono hb0.size)
  clear hn
  go_wp2_with fail
  first | refine calls_w ?_ | refine name_world ?_ | refine list_world ?_ | refine post_world ?_
  intro V17 hV17
  have D19 := Lib.hid k2.lt
  have D20 := Lib.hid hb0.size
  have hn : Below U16.heap.size U16 V17 := by rw [hV17]; exact below_a1 _ _
  have nk2 := k2.of hn
  replace HB1 := Lib.hid (HB1.out.of hn)
  have nhb0 := hb0.trans (hn.mono hb0.size)
  clear hn
  have k7 : Blk V17 U16.heap.size #[.int .u64 (wd0 0), .int .u64 (wd1 0), .int .u64 (wd2 0), .int .u64 (wd3 0)] 24 := by rw [hV17]; exact (Blk.new _ _ _)
  clear k2
  clear hb0
  clear hV17
  have k2 := nk2
  clear nk2
  have hb0 := nhb0
  clear nhb0
  refine (bigOf_v 1 1 rfl (by unfold In64; omega) _).mono ?_
  rintro e U18 ⟨v_, rfl, hbm, hn⟩
  replace k2 := k2.of hn
  replace k7 := k7.of hn
  replace HB1 := Lib.hid (HB1.out.of hn)
  replace hb0 := hb0.trans (hn.mono hb0.size)
  clear hn
  have HB8 := Lib.hid hbm
  have hvm := hbm.shape
  clear hbm
  obtain ⟨bn8, ba8, bl8, bc8, rfl⟩ := hvm
  go_wp2_with fail
  first | refine name_world ?_
  intro V19 hV19
  have D21 := Lib.hid k2.lt
  have D22 := Lib.hid k7.lt
  have D23 := Lib.hid hb0.size
  have hn : Below U18.heap.size U18 V19 := by rw [hV19]; exact below_a1 _ _
  have nk2 := k2.of hn
  have nk7 := k7.of hn
  replace HB1 := Lib.hid (HB1.out.of hn)
  replace HB8 := Lib.hid (HB8.out.of hn)
  have nhb0 := hb0.trans (hn.mono hb0.size)
  clear hn
  have k8 : Blk V19 U18.heap.size #[.bool bn8, .slice ba8 bl8 bc8] 34 := by rw [hV19]; exact (Blk.new _ _ _)
  clear k2 k7
  clear hb0
  clear hV19
  have k2 := nk2
  clear nk2
  have k7 := nk7
  clear nk7
  have hb0 := nhb0
  clear nhb0
  go_loopg [116] (n.toNat) (fun gk_ s1_0 wr => ∃ (o : Int) (k_ : Int) (wn : Bool) (wa : Option Addr) (wl wc : Nat), s1_0 = .int .i64 k_ ∧ Hid (PwI a n o k_ ∧ n - k_ ≤ (gk_ : Int)) ∧ Blk wr U2.heap.size #[.bool bn1, .slice ba1 bl1 bc1] 34 ∧ Blk wr U16.heap.size #[.int .u64 (wd0 0), .int .u64 (wd1 0), .int .u64 (wd2 0), .int .u64 (wd3 0)] 24 ∧ Blk wr U18.heap.size #[.bool wn, .slice wa wl wc] 34 ∧ Big wr (.agg #[.bool bn1, .slice ba1 bl1 bc1]) a 18 ∧ Big wr (.agg #[.bool wn, .slice wa wl wc]) o 18 ∧ Below w.heap.size w wr)
  case atStart =>
    have HIn : PwI a n 1 0 ∧ n - 0 ≤ ((n.toNat) : Int) := by
      exact ⟨PwI.begin (by simpa using hP22) (by simpa using hP23), by omega⟩
    exact ⟨1, 0, bn8, ba8, bl8, bc8, rfl, Lib.hid HIn, k2, k7, k8, HB1.out, (HB8.out.mono (by decide)), hb0⟩
  case round =>
    rename World => W1_
    rename Nat => gk1
    clear k2 k7 k8 HB1 HB8
    clear hb0
    obtain ⟨o, k_, wn, wa, wl, wc, rfl, HI1, k2, k7, k8, HB1_, HB9_, hb0⟩ := hrel
    have HB1 := Lib.hid HB1_
    clear HB1_
    have HB9 := Lib.hid HB9_
    clear HB9_
    obtain ⟨z1, hz1⟩ : ∃ o_o : Bool, decide (k_ < n) = o_o := ⟨_, rfl⟩
    cases z1
    · exact absurd (HI1.out.1.yes (of_decide_eq_false hz1)).1 (by rw [HP21.out]; decide)
    · have c2_0 : W1_.cell? ⟨U2.heap.size, 0, none⟩ = some (.bool bn1) := k2.cell 0
      have c2_1 : W1_.cell? ⟨U2.heap.size, 1, none⟩ = some (.slice ba1 bl1 bc1) := k2.cell 1
      have l2 := k2.lt
      have c8_0 : W1_.cell? ⟨U18.heap.size, 0, none⟩ = some (.bool wn) := k8.cell 0
      have c8_1 : W1_.cell? ⟨U18.heap.size, 1, none⟩ = some (.slice wa wl wc) := k8.cell 1
      have l8 := k8.lt
      go_wp2_with fail
      clear c2_0 c2_1 l2 c8_0 c8_1 l8
      obtain ⟨r2, hr2⟩ : ∃ o_o : Int, o * a = o_o := ⟨_, rfl⟩
      have Hr2 := Lib.hid hr2
      clear hr2
      refine (bigMul_v (.agg #[.bool wn, .slice wa wl wc]) (.agg #[.bool bn1, .slice ba1 bl1 bc1]) o a r2 18 18 Hr2.out _ HB9.out HB1.out (by decide)).mono ?_
      rintro e U20 ⟨v_, rfl, hbm, hn⟩
      replace k2 := k2.of hn
      replace k7 := k7.of hn
      replace k8 := k8.of hn
      replace HB1 := Lib.hid (HB1.out.of hn)
      replace HB9 := Lib.hid (HB9.out.of hn)
      replace hb0 := hb0.trans (hn.mono hb0.size)
      clear hn
      have HB10 := Lib.hid hbm
      have hvm := hbm.shape
      clear hbm
      obtain ⟨bn10, ba10, bl10, bc10, rfl⟩ := hvm
      have c8_0 : U20.cell? ⟨U18.heap.size, 0, none⟩ = some (.bool wn) := k8.cell 0
      have c8_1 : U20.cell? ⟨U18.heap.size, 1, none⟩ = some (.slice wa wl wc) := k8.cell 1
      have f8_0 := k8.free 0
      have f8_1 := k8.free 1
      have l8 := k8.lt
      go_wp2_with fail
      clear c8_0 c8_1 f8_0 f8_1 l8
      first | refine calls_w ?_ | refine name_world ?_ | refine list_world ?_ | refine post_world ?_
      intro V21 hV21
      have D24 := Lib.hid k2.lt
      have D25 := Lib.hid k7.lt
      have D26 := Lib.hid k8.lt
      have D27 := Lib.hid hb0.size
      have nk2 : Blk V21 U2.heap.size #[.bool bn1, .slice ba1 bl1 bc1] 34 := by rw [hV21]; exact (blk_setL k2 (by have := D21.out; omega) 0 [.bool bn10, .slice ba10 bl10 bc10])
      have nk7 : Blk V21 U16.heap.size #[.int .u64 (wd0 0), .int .u64 (wd1 0), .int .u64 (wd2 0), .int .u64 (wd3 0)] 24 := by rw [hV21]; exact (blk_setL k7 (by have := D22.out; omega) 0 [.bool bn10, .slice ba10 bl10 bc10])
      have nk8 : Blk V21 U18.heap.size #[.bool bn10, .slice ba10 bl10 bc10] 34 := by rw [hV21]; exact (blk_full _ [.bool bn10, .slice ba10 bl10 bc10] k8 rfl)
      have nhb0 : Below w.heap.size w V21 := by rw [hV21]; exact (blw_setL hb0 (by have := D23.out; omega) 0 [.bool bn10, .slice ba10 bl10 bc10])
      replace HB1 : Hid (Big V21 (.agg #[.bool bn1, .slice ba1 bl1 bc1]) a 18) := Lib.hid (by rw [hV21]; exact (big_setL HB1.out (Blk.cell k8 0) (fun _ h => by cases h) 0 [.bool bn10, .slice ba10 bl10 bc10]))
      replace HB9 : Hid (Big V21 (.agg #[.bool wn, .slice wa wl wc]) o 18) := Lib.hid (by rw [hV21]; exact (big_setL HB9.out (Blk.cell k8 0) (fun _ h => by cases h) 0 [.bool bn10, .slice ba10 bl10 bc10]))
      replace HB10 : Hid (Big V21 (.agg #[.bool bn10, .slice ba10 bl10 bc10]) r2 36) := Lib.hid (by rw [hV21]; exact (big_setL HB10.out (Blk.cell k8 0) (fun _ h => by cases h) 0 [.bool bn10, .slice ba10 bl10 bc10]))
      clear k2 k7 k8
      clear hb0
      clear hV21
      have k2 := nk2
      clear nk2
      have k7 := nk7
      clear nk7
      have k8 := nk8
      clear nk8
      have hb0 := nhb0
      clear nhb0
      obtain ⟨z3, hz3⟩ : ∃ o_o : Bool, okI r2 = o_o := ⟨_, rfl⟩
      have Hz3 := Lib.hid hz3
      clear hz3
      refine (Fits_is (.agg #[.bool bn10, .slice ba10 bl10 bc10]) r2 36 z3 Hz3.out _ HB10.out).mono ?_
      rintro e U22 ⟨rfl, hn⟩
      replace k2 := k2.of hn
      replace k7 := k7.of hn
      replace k8 := k8.of hn
      replace HB1 := Lib.hid (HB1.out.of hn)
      replace HB9 := Lib.hid (HB9.out.of hn)
      replace HB10 := Lib.hid (HB10.out.of hn)
      replace hb0 := hb0.trans (hn.mono hb0.size)
      clear hn
      cases z3
      · have c7_0 : U22.cell? ⟨U16.heap.size, 0, none⟩ = some (.int .u64 (wd0 0)) := k7.cell 0
        have c7_1 : U22.cell? ⟨U16.heap.size, 1, none⟩ = some (.int .u64 (wd1 0)) := k7.cell 1
        have c7_2 : U22.cell? ⟨U16.heap.size, 2, none⟩ = some (.int .u64 (wd2 0)) := k7.cell 2
        have c7_3 : U22.cell? ⟨U16.heap.size, 3, none⟩ = some (.int .u64 (wd3 0)) := k7.cell 3
        have l7 := k7.lt
        go_wp2_with fail
        clear c7_0 c7_1 c7_2 c7_3 l7
        refine (wawake_any _ (hG.of hb0)).mono ?_
        rintro e U23 ⟨rfl, hn⟩
        replace k2 := k2.of hn
        replace k7 := k7.of hn
        replace k8 := k8.of hn
        replace HB1 := Lib.hid (HB1.out.of hn)
        replace HB9 := Lib.hid (HB9.out.of hn)
        replace HB10 := Lib.hid (HB10.out.of hn)
        replace hb0 := hb0.trans (hn.mono hb0.size)
        clear hn
        go_wp2
        first | go_ret | go_ret2
        exact ⟨by first | rfl | (simp; done) | (simp; assumption), hb0⟩
      · go_wp2_with fail
        have HIn : PwI a n r2 (wrap64 (k_ + 1)) ∧ n - (wrap64 (k_ + 1)) ≤ (((n - (wrap64 (k_ + 1))).toNat) : Int) := by
          exact ⟨HI1.out.1.nextM (of_decide_eq_true hz1) Hr2.out (by rw [Hr2.out]; exact Hz3.out), by omega⟩
        go_roundg ((n - (wrap64 (k_ + 1))).toNat)
        case measure =>
          rw [HI1.out.1.w (of_decide_eq_true hz1)]
          have q_ := of_decide_eq_true hz1
          have q2_ := HI1.out.2
          omega
        case rel => exact ⟨r2, (wrap64 (k_ + 1)), bn10, ba10, bl10, bc10, rfl, Lib.hid HIn, k2, k7, k8, HB1.out, (fit_I HB10.out (by have := Hz3.out; unfold okI at this; exact of_decide_eq_true this)), hb0⟩
end Go.Proofs.YtcfiemeknocgjaaDoor
