/- The walk of gromalaw01.WideRoots (part 1). Conditions: the numbers are ints and numbers of 256 bits. -/
import Derived.Test.YtcfiemeknocgjaaDoorWrE
import Derived.Test.YtcfiemeknocgjaaDoorFmt4
import Derived.Test.YtcfiemeknocgjaaDoorWdB
import Derived.Test.YtcfiemeknocgjaaDoorAwCD
namespace Go.Proofs.YtcfiemeknocgjaaDoor
open Go.RowKit

theorem powk_v (k q : Int) (h : 0 ≤ k ∧ k ≤ 256) (e : 2 ^ k.toNat = q) (w : World) : Calls Tryd.prog 21 #[.int .i64 k] w (GivesBig w q 18) := by
  obtain ⟨n, rfl⟩ := Int.eq_ofNat_of_zero_le h.1
  have hn : n ≤ 256 := by omega
  have T := Power_any n w hn
  rw [show (2 : Int) ^ n = q from e] at T
  exact T.mono fun e w' ⟨v, h1, h2, h3⟩ => ⟨v, h1, h2.mono (by omega), h3⟩
theorem fit_I {w : World} {v : Value} {n : Int} {L : Nat} (h : Big w v n L) (hn : InI n) : Big w v n 18 := h.fit (by
  have : P15 18 = 1897137590064188545819787018382342682267975428761855001222473056385648716020711424 := by decide
  unfold InI b255 at hn; omega)
theorem pw_in1 {k : Int} (h : 0 ≤ k ∧ k ≤ 256) (g : 0 < k) : 0 ≤ wrap64 (k - 1) ∧ wrap64 (k - 1) ≤ 256 := by
  rw [show wrap64 (k - 1) = k - 1 from wrap64_id (by unfold In64; omega)]; omega
theorem okI_t {o : Int} (h : InI o) : okI o = true := decide_eq_true h

theorem PwI.nextM {x n o k p : Int} (h : PwI x n o k) (hk : k < n) (e : o * x = p) (ok : okI (o * x) = true) : PwI x n p (wrap64 (k + 1)) := h.next hk (by unfold mulv; rw [ok]; exact e) ok

set_option maxRecDepth 100000 in
set_option maxHeartbeats 4000000 in

theorem WRo_00 (a : Int) (n : Int) (s : Int) (k : Int) (q : Int) (m : Int) (c1 : Int) (q2 : Int) (c2 : Int)   (hP0 : a.sign = s) (hP1 : decide (s < 0) = true) (hP2 : btn a = k) (hP3 : decide (k < 0) = false) (hP4 : decide (256 < k) = false) (hP5 : 2 ^ k.toNat = q) (hP6 : -a = m) (hP7 : cmpI m q = c1) (hP8 : decide (0 ≤ c1) = false) (hP9 : decide (0 < k) = true) (hP10 : 2 ^ (wrap64 (k - 1)).toNat = q2) (hP11 : cmpI m q2 = c2) (hP12 : decide (c2 < 0) = false) (hP13 : rtv a = 0) (hP14 : rtk a = false) (hP15 : pwv a n = 0) (hP16 : pwk a n = false) (hP17 : decide (n < 0) = true) (_ik : Hid (0 ≤ k ∧ k ≤ 256)) (_ia : InI a) (_in : In64 n)  (w : World) (hG : Tab w) :
    Calls Tryd.prog 6 #[.agg #[.int .u64 (wd0 a), .int .u64 (wd1 a), .int .u64 (wd2 a), .int .u64 (wd3 a)], .int .i64 n] w fun e w' => e = .returned (.bool true) ∧ Below w.heap.size w w' := by

  have HP0 := Lib.hid hP0
  clear hP0
  have HP2 := Lib.hid hP2
  clear hP2
  have HP5 := Lib.hid hP5
  clear hP5
  have HP6 := Lib.hid hP6
  clear hP6
  have HP7 := Lib.hid hP7
  clear hP7
  have HP10 := Lib.hid hP10
  clear hP10
  have HP11 := Lib.hid hP11
  clear hP11
  have HP13 := Lib.hid hP13
  clear hP13
  have HP14 := Lib.hid hP14
  clear hP14
  have HP15 := Lib.hid hP15
  clear hP15
  have HP16 := Lib.hid hP16
  clear hP16
  go_enter Tryd.func6, Tryd.ntmps6
  go_wp2_with fail
  first | refine calls_w ?_ | refine name_world ?_ | refine list_world ?_ | refine post_world ?_
  intro V1 hV1
  have hn : Below w.heap.size w V1 := by rw [hV1]; exact below_a1 _ _
  have nhb0 := hn
  have k1 : Blk V1 w.heap.size #[.int .u64 (wd0 a), .int .u64 (wd1 a), .int .u64 (wd2 a), .int .u64 (wd3 a)] 24 := by rw [hV1]; exact (Blk.new _ _ _)
  clear hV1
  have hb0 := nhb0
  clear nhb0
  refine (Read_v a a rfl _ia _).mono ?_
  rintro e U2 ⟨v_, rfl, hbm, hn⟩
  replace k1 := k1.of hn
  replace hb0 := hb0.trans (hn.mono hb0.size)
  clear hn
  have HB1 := Lib.hid hbm
  have hvm := hbm.shape
  clear hbm
  obtain ⟨bn1, ba1, bl1, bc1, rfl⟩ := hvm
  go_wp2_with fail
  first | refine calls_w ?_ | refine name_world ?_ | refine list_world ?_ | refine post_world ?_
  intro V3 hV3
  have D1 := Lib.hid k1.lt
  have D2 := Lib.hid hb0.size
  have hn : Below U2.heap.size U2 V3 := by rw [hV3]; exact below_a2 _ _ _
  have nk1 := k1.of hn
  replace HB1 := Lib.hid (HB1.out.of hn)
  have nhb0 := hb0.trans (hn.mono hb0.size)
  clear hn
  have k2 : Blk V3 U2.heap.size #[.bool bn1, .slice ba1 bl1 bc1] 34 := by rw [hV3]; exact ((Blk.new _ _ _).alloc _)
  have k3 : Blk V3 (U2.heap.size + 1) #[.bool bn1, .slice ba1 bl1 bc1] 34 := by rw [hV3]; exact (Blk.new1 _ _ _ _)
  clear k1
  clear hb0
  clear hV3
  have k1 := nk1
  clear nk1
  have hb0 := nhb0
  clear nhb0
  refine (bigSign_v (.agg #[.bool bn1, .slice ba1 bl1 bc1]) a 18 s HP0.out _ HB1.out).mono ?_
  rintro e U4 ⟨rfl, hn⟩
  replace k1 := k1.of hn
  replace k2 := k2.of hn
  replace k3 := k3.of hn
  replace HB1 := Lib.hid (HB1.out.of hn)
  replace hb0 := hb0.trans (hn.mono hb0.size)
  clear hn
  have c2_0 : U4.cell? ⟨U2.heap.size, 0, none⟩ = some (.bool bn1) := k2.cell 0
  have c2_1 : U4.cell? ⟨U2.heap.size, 1, none⟩ = some (.slice ba1 bl1 bc1) := k2.cell 1
  have l2 := k2.lt
  go_wp2_with fail
  clear c2_0 c2_1 l2
  refine (bigMinus_v (.agg #[.bool bn1, .slice ba1 bl1 bc1]) a m 18 HP6.out _ HB1.out).mono ?_
  rintro e U5 ⟨v_, rfl, hbm, hn⟩
  replace k1 := k1.of hn
  replace k2 := k2.of hn
  replace k3 := k3.of hn
  replace HB1 := Lib.hid (HB1.out.of hn)
  replace hb0 := hb0.trans (hn.mono hb0.size)
  clear hn
  have HB2 := Lib.hid hbm
  have hvm := hbm.shape
  clear hbm
  obtain ⟨bn2, ba2, bl2, bc2, rfl⟩ := hvm
  have c1_0 : U5.cell? ⟨w.heap.size, 0, none⟩ = some (.int .u64 (wd0 a)) := k1.cell 0
  have c1_1 : U5.cell? ⟨w.heap.size, 1, none⟩ = some (.int .u64 (wd1 a)) := k1.cell 1
  have c1_2 : U5.cell? ⟨w.heap.size, 2, none⟩ = some (.int .u64 (wd2 a)) := k1.cell 2
  have c1_3 : U5.cell? ⟨w.heap.size, 3, none⟩ = some (.int .u64 (wd3 a)) := k1.cell 3
  have l1 := k1.lt
  have c3_0 : U5.cell? ⟨(U2.heap.size + 1), 0, none⟩ = some (.bool bn1) := k3.cell 0
  have c3_1 : U5.cell? ⟨(U2.heap.size + 1), 1, none⟩ = some (.slice ba1 bl1 bc1) := k3.cell 1
  have f3_0 := k3.free 0
  have f3_1 := k3.free 1
  have l3 := k3.lt
  have p1_3 : w.heap.size ≠ (U2.heap.size + 1) := (by have := D1.out; omega)
  go_wp2_with fail
  clear c1_0 c1_1 c1_2 c1_3 l1 c3_0 c3_1 f3_0 f3_1 l3 p1_3
  first | refine calls_w ?_ | refine name_world ?_ | refine list_world ?_ | refine post_world ?_
  intro V6 hV6
  have D3 := Lib.hid k1.lt
  have D4 := Lib.hid k2.lt
  have D5 := Lib.hid k3.lt
  have D6 := Lib.hid hb0.size
  have nk1 : Blk V6 w.heap.size #[.int .u64 (wd0 a), .int .u64 (wd1 a), .int .u64 (wd2 a), .int .u64 (wd3 a)] 24 := by rw [hV6]; exact (blk_setL k1 (by have := D1.out; omega) 0 [.bool bn2, .slice ba2 bl2 bc2])
  have nk2 : Blk V6 U2.heap.size #[.bool bn1, .slice ba1 bl1 bc1] 34 := by rw [hV6]; exact (blk_setL k2 (by omega) 0 [.bool bn2, .slice ba2 bl2 bc2])
  have nk3 : Blk V6 (U2.heap.size + 1) #[.bool bn2, .slice ba2 bl2 bc2] 34 := by rw [hV6]; exact (blk_full _ [.bool bn2, .slice ba2 bl2 bc2] k3 rfl)
  have nhb0 : Below w.heap.size w V6 := by rw [hV6]; exact (blw_setL hb0 (by have := D2.out; omega) 0 [.bool bn2, .slice ba2 bl2 bc2])
  replace HB1 : Hid (Big V6 (.agg #[.bool bn1, .slice ba1 bl1 bc1]) a 18) := Lib.hid (by rw [hV6]; exact (big_setL HB1.out (Blk.cell k3 0) (fun _ h => by cases h) 0 [.bool bn2, .slice ba2 bl2 bc2]))
  replace HB2 : Hid (Big V6 (.agg #[.bool bn2, .slice ba2 bl2 bc2]) m 18) := Lib.hid (by rw [hV6]; exact (big_setL HB2.out (Blk.cell k3 0) (fun _ h => by cases h) 0 [.bool bn2, .slice ba2 bl2 bc2]))
  clear k1 k2 k3
  clear hb0
  clear hV6
  have k1 := nk1
  clear nk1
  have k2 := nk2
  clear nk2
  have k3 := nk3
  clear nk3
  have hb0 := nhb0
  clear nhb0
  refine (Bits_v a k HP2.out _ia _).mono ?_
  rintro e U7 ⟨rfl, hn⟩
  replace k1 := k1.of hn
  replace k2 := k2.of hn
  replace k3 := k3.of hn
  replace HB1 := Lib.hid (HB1.out.of hn)
  replace HB2 := Lib.hid (HB2.out.of hn)
  replace hb0 := hb0.trans (hn.mono hb0.size)
  clear hn
  go_wp2_with fail
  have c3_0 : U7.cell? ⟨(U2.heap.size + 1), 0, none⟩ = some (.bool bn2) := k3.cell 0
  have c3_1 : U7.cell? ⟨(U2.heap.size + 1), 1, none⟩ = some (.slice ba2 bl2 bc2) := k3.cell 1
  have l3 := k3.lt
  have Kk1 := Lib.hid k1
  clear k1
  have Kk2 := Lib.hid k2
  clear k2
  have Kk3 := Lib.hid k3
  clear k3
  refine wp_region_up U7.heap.size 21 [(true, 0), (true, 1), (true, 2), (true, 3), (true, 4), (true, 5), (true, 6), (true, 7), (true, 8), (false, 9), (false, 10), (true, 11), (true, 12), (true, 13), (true, 14), (true, 15), (true, 16), (true, 17), (true, 18), (true, 19), (false, 20)] (by kernel_rfl) (by kernel_rfl) (fun _ _ d _ _ h => by cases d <;> exact h) ?_
  have hb : Below U7.heap.size U7 U7.drew := (Below.refl _ _).drew
  iterate 9
    refine wpS_takeL rfl rfl ?_
    go_big_quiet_step (rfl)
    refine wpQuiet_nil ?_
  refine wpS_doL rfl ?_
  intro K hK
  go_wp2_with ((first | (go_at_call 21; (with_reducible refine (powk_v k q _ik.out HP5.out _).mono ?_); rintro e w2 ⟨v_, rfl, hbm, hn⟩; have HB3 := Lib.hid hbm; have hvm := hbm.shape; clear hbm; obtain ⟨bn3, ba3, bl3, bc3, rfl⟩ := hvm) | (go_at_call 21; (with_reducible refine (powk_v (wrap64 (k - 1)) q2 (pw_in1 _ik.out (of_decide_eq_true hP9)) HP10.out _).mono ?_); rintro e w2 ⟨v_, rfl, hbm, hn⟩; replace HB3 := Lib.hid (HB3.out.of hn); have HB4 := Lib.hid hbm; have hvm := hbm.shape; clear hbm; obtain ⟨bn4, ba4, bl4, bc4, rfl⟩ := hvm)))
  try replace hb := hb.trans (hn.mono hb.size)
  refine hK.out _ _ (up_iff.2 hb) ?_
  clear hK K
  try clear hn
  refine wpS_doL rfl ?_
  intro K hK
  go_wp2_with ((go_at_call 20; (with_reducible refine (bigCmp_v (.agg #[.bool bn2, .slice ba2 bl2 bc2]) (.agg #[.bool bn3, .slice ba3 bl3 bc3]) m q 18 18 c1 HP7.out _ (HB2.out.of hb) HB3.out).mono ?_); rintro e w2 ⟨rfl, hn⟩; replace HB3 := Lib.hid (HB3.out.of hn)))
  try replace hb := hb.trans (hn.mono hb.size)
  refine hK.out _ _ (up_iff.2 hb) ?_
  clear hK K
  try clear hn
  iterate 9
    refine wpS_takeL rfl rfl ?_
    go_big_quiet_step (rfl)
    refine wpQuiet_nil ?_
  refine wpS_doL rfl ?_
  intro K hK
  go_wp2_with ((first | (go_at_call 21; (with_reducible refine (powk_v k q _ik.out HP5.out _).mono ?_); rintro e w2 ⟨v_, rfl, hbm, hn⟩; have HB3 := Lib.hid hbm; have hvm := hbm.shape; clear hbm; obtain ⟨bn3, ba3, bl3, bc3, rfl⟩ := hvm) | (go_at_call 21; (with_reducible refine (powk_v (wrap64 (k - 1)) q2 (pw_in1 _ik.out (of_decide_eq_true hP9)) HP10.out _).mono ?_); rintro e w2 ⟨v_, rfl, hbm, hn⟩; replace HB3 := Lib.hid (HB3.out.of hn); have HB4 := Lib.hid hbm; have hvm := hbm.shape; clear hbm; obtain ⟨bn4, ba4, bl4, bc4, rfl⟩ := hvm)))
  try replace hb := hb.trans (hn.mono hb.size)
  refine hK.out _ _ (up_iff.2 hb) ?_
  clear hK K
  try clear hn
  refine wpS_nil ?_
  simp only [List.drop_succ_cons, List.drop_zero]
  first | refine calls_w ?_ | refine name_world ?_ | refine list_world ?_ | refine post_world ?_
  intro U8 hU8
  first | (subst hU8; have u_ := U8; clear u_) | (rw [← hU8] at hb; clear hU8)
  clear c3_0 c3_1 l3
  have k1 := Kk1.out.of hb
  clear Kk1
  have k2 := Kk2.out.of hb
  clear Kk2
  have k3 := Kk3.out.of hb
  clear Kk3
  replace HB1 := Lib.hid (HB1.out.of hb)
  replace HB2 := Lib.hid (HB2.out.of hb)
  replace hb0 := hb0.trans (hb.mono hb0.size)
  clear hb
  go_wp2_with fail
  refine (bigCmp_v (.agg #[.bool bn2, .slice ba2 bl2 bc2]) (.agg #[.bool bn4, .slice ba4 bl4 bc4]) m q2 18 18 c2 HP11.out _ HB2.out HB4.out).mono ?_
  rintro e U9 ⟨rfl, hn⟩
  clear HB2 HB3 HB4
  clear k3
  replace k1 := k1.of hn
  replace k2 := k2.of hn
  replace HB1 := Lib.hid (HB1.out.of hn)
  replace hb0 := hb0.trans (hn.mono hb0.size)
  clear hn
  have c1_0 : U9.cell? ⟨w.heap.size, 0, none⟩ = some (.int .u64 (wd0 a)) := k1.cell 0
  have c1_1 : U9.cell? ⟨w.heap.size, 1, none⟩ = some (.int .u64 (wd1 a)) := k1.cell 1
  have c1_2 : U9.cell? ⟨w.heap.size, 2, none⟩ = some (.int .u64 (wd2 a)) := k1.cell 2
  have c1_3 : U9.cell? ⟨w.heap.size, 3, none⟩ = some (.int .u64 (wd3 a)) := k1.cell 3
  have l1 := k1.lt
  go_wp2_with fail
  clear c1_0 c1_1 c1_2 c1_3 l1
  refine (Root_v a 0 false HP13.out HP14.out _ia _).mono ?_
  rintro e U10 ⟨rfl, hn⟩
  replace k1 := k1.of hn
  replace k2 := k2.of hn
  replace HB1 := Lib.hid (HB1.out.of hn)
  replace hb0 := hb0.trans (hn.mono hb0.size)
  clear hn
  have c2_0 : U10.cell? ⟨U2.heap.size, 0, none⟩ = some (.bool bn1) := k2.cell 0
  have c2_1 : U10.cell? ⟨U2.heap.size, 1, none⟩ = some (.slice ba1 bl1 bc1) := k2.cell 1
  have l2 := k2.lt
  go_wp2_with fail
  clear c2_0 c2_1 l2
  first | refine calls_w ?_ | refine name_world ?_ | refine list_world ?_ | refine post_world ?_
  intro V11 hV11
  have D7 := Lib.hid k1.lt
  have D8 := Lib.hid k2.lt
  have D9 := Lib.hid hb0.size
  have hn : Below U10.heap.size U10 V11 := by rw [hV11]; exact below_a1 _ _
  have nk1 := k1.of hn
  have nk2 := k2.of hn
  replace HB1 := Lib.hid (HB1.out.of hn)
  have nhb0 := hb0.trans (hn.mono hb0.size)
  clear hn
  have k4 : Blk V11 U10.heap.size #[.int .u64 (wd0 0), .int .u64 (wd1 0), .int .u64 (wd2 0), .int .u64 (wd3 0)] 24 := by rw [hV11]; exact (Blk.new _ _ _)
  clear k1 k2
  clear hb0
  clear hV11
  have k1 := nk1
  clear nk1
  have k2 := nk2
  clear nk2
  have hb0 := nhb0
  clear nhb0
  refine (bigSign_v (.agg #[.bool bn1, .slice ba1 bl1 bc1]) a 18 s HP0.out _ HB1.out).mono ?_
  rintro e U12 ⟨rfl, hn⟩
  replace k1 := k1.of hn
  replace k2 := k2.of hn
  replace k4 := k4.of hn
  replace HB1 := Lib.hid (HB1.out.of hn)
  replace hb0 := hb0.trans (hn.mono hb0.size)
  clear hn
  have c1_0 : U12.cell? ⟨w.heap.size, 0, none⟩ = some (.int .u64 (wd0 a)) := k1.cell 0
  have c1_1 : U12.cell? ⟨w.heap.size, 1, none⟩ = some (.int .u64 (wd1 a)) := k1.cell 1
  have c1_2 : U12.cell? ⟨w.heap.size, 2, none⟩ = some (.int .u64 (wd2 a)) := k1.cell 2
  have c1_3 : U12.cell? ⟨w.heap.size, 3, none⟩ = some (.int .u64 (wd3 a)) := k1.cell 3
  have l1 := k1.lt
  have c4_0 : U12.cell? ⟨U10.heap.size, 0, none⟩ = some (.int .u64 (wd0 0)) := k4.cell 0
  have c4_1 : U12.cell? ⟨U10.heap.size, 1, none⟩ = some (.int .u64 (wd1 0)) := k4.cell 1
  have c4_2 : U12.cell? ⟨U10.heap.size, 2, none⟩ = some (.int .u64 (wd2 0)) := k4.cell 2
  have c4_3 : U12.cell? ⟨U10.heap.size, 3, none⟩ = some (.int .u64 (wd3 0)) := k4.cell 3
  have l4 := k4.lt
  go_wp2_with fail
  clear c1_0 c1_1 c1_2 c1_3 l1 c4_0 c4_1 c4_2 c4_3 l4
  refine (Power_v a n 0 false HP15.out HP16.out _ia _in _).mono ?_
  rintro e U13 ⟨rfl, hn⟩
  clear k1 k4
  replace k2 := k2.of hn
  replace HB1 := Lib.hid (HB1.out.of hn)
  replace hb0 := hb0.trans (hn.mono hb0.size)
  clear hn
  go_wp2_with fail
  first | refine calls_w ?_ | refine name_world ?_ | refine list_world ?_ | refine post_world ?_
  intro V14 hV14
  have D10 := Lib.hid k2.lt
  have D11 := Lib.hid hb0.size
  have hn : Below U13.heap.size U13 V14 := by rw [hV14]; exact below_a1 _ _
  have nk2 := k2.of hn
  replace HB1 := Lib.hid (HB1.out.of hn)
  have nhb0 := hb0.trans (hn.mono hb0.size)
  clear hn
  have k5 : Blk V14 U13.heap.size #[.int .u64 (wd0 0), .int .u64 (wd1 0), .int .u64 (wd2 0), .int .u64 (wd3 0)] 24 := by rw [hV14]; exact (Blk.new _ _ _)
  clear k2
  clear hb0
  clear hV14
  have k2 := nk2
  clear nk2
  have hb0 := nhb0
  clear nhb0
  refine (wawake_any _ (hG.of hb0)).mono ?_
  rintro e U15 ⟨rfl, hn⟩
  replace k2 := k2.of hn
  replace k5 := k5.of hn
  replace HB1 := Lib.hid (HB1.out.of hn)
  replace hb0 := hb0.trans (hn.mono hb0.size)
  clear hn
  go_wp2
  first | go_ret | go_ret2
  exact ⟨by first | rfl | (simp; done) | (simp; assumption), hb0⟩

set_option maxRecDepth 100000 in
set_option maxHeartbeats 4000000 in

theorem WRo_01 (a : Int) (n : Int) (s : Int) (k : Int) (q : Int) (m : Int) (c1 : Int) (q2 : Int) (c2 : Int)   (hP0 : a.sign = s) (hP1 : decide (s < 0) = true) (hP2 : btn a = k) (hP3 : decide (k < 0) = false) (hP4 : decide (256 < k) = false) (hP5 : 2 ^ k.toNat = q) (hP6 : -a = m) (hP7 : cmpI m q = c1) (hP8 : decide (0 ≤ c1) = false) (hP9 : decide (0 < k) = true) (hP10 : 2 ^ (wrap64 (k - 1)).toNat = q2) (hP11 : cmpI m q2 = c2) (hP12 : decide (c2 < 0) = false) (hP13 : rtv a = 0) (hP14 : rtk a = false) (hP15 : pwv a n = 0) (hP16 : pwk a n = false) (hP17 : decide (n < 0) = false) (hP18 : decide (256 < n) = true) (_ik : Hid (0 ≤ k ∧ k ≤ 256)) (_ia : InI a) (_in : In64 n)  (w : World) (hG : Tab w) :
    Calls Tryd.prog 6 #[.agg #[.int .u64 (wd0 a), .int .u64 (wd1 a), .int .u64 (wd2 a), .int .u64 (wd3 a)], .int .i64 n] w fun e w' => e = .returned (.bool true) ∧ Below w.heap.size w w' := by

  have HP0 := Lib.hid hP0
  clear hP0
  have HP2 := Lib.hid hP2
  clear hP2
  have HP5 := Lib.hid hP5
  clear hP5
  have HP6 := Lib.hid hP6
  clear hP6
  have HP7 := Lib.hid hP7
  clear hP7
  have HP10 := Lib.hid hP10
  clear hP10
  have HP11 := Lib.hid hP11
  clear hP11
  have HP13 := Lib.hid hP13
  clear hP13
  have HP14 := Lib.hid hP14
  clear hP14
  have HP15 := Lib.hid hP15
  clear hP15
  have HP16 := Lib.hid hP16
  clear hP16
  go_enter Tryd.func6, Tryd.ntmps6
  go_wp2_with fail
  first | refine calls_w ?_ | refine name_world ?_ | refine list_world ?_ | refine post_world ?_
  intro V1 hV1
  have hn : Below w.heap.size w V1 := by rw [hV1]; exact below_a1 _ _
  have nhb0 := hn
  have k1 : Blk V1 w.heap.size #[.int .u64 (wd0 a), .int .u64 (wd1 a), .int .u64 (wd2 a), .int .u64 (wd3 a)] 24 := by rw [hV1]; exact (Blk.new _ _ _)
  clear hV1
  have hb0 := nhb0
  clear nhb0
  refine (Read_v a a rfl _ia _).mono ?_
  rintro e U2 ⟨v_, rfl, hbm, hn⟩
  replace k1 := k1.of hn
  replace hb0 := hb0.trans (hn.mono hb0.size)
  clear hn
  have HB1 := Lib.hid hbm
  have hvm := hbm.shape
  clear hbm
  obtain ⟨bn1, ba1, bl1, bc1, rfl⟩ := hvm
  go_wp2_with fail
  first | refine calls_w ?_ | refine name_world ?_ | refine list_world ?_ | refine post_world ?_
  intro V3 hV3
  have D1 := Lib.hid k1.lt
  have D2 := Lib.hid hb0.size
  have hn : Below U2.heap.size U2 V3 := by rw [hV3]; exact below_a2 _ _ _
  have nk1 := k1.of hn
  replace HB1 := Lib.hid (HB1.out.of hn)
  have nhb0 := hb0.trans (hn.mono hb0.size)
  clear hn
  have k2 : Blk V3 U2.heap.size #[.bool bn1, .slice ba1 bl1 bc1] 34 := by rw [hV3]; exact ((Blk.new _ _ _).alloc _)
  have k3 : Blk V3 (U2.heap.size + 1) #[.bool bn1, .slice ba1 bl1 bc1] 34 := by rw [hV3]; exact (Blk.new1 _ _ _ _)
  clear k1
  clear hb0
  clear hV3
  have k1 := nk1
  clear nk1
  have hb0 := nhb0
  clear nhb0
  refine (bigSign_v (.agg #[.bool bn1, .slice ba1 bl1 bc1]) a 18 s HP0.out _ HB1.out).mono ?_
  rintro e U4 ⟨rfl, hn⟩
  replace k1 := k1.of hn
  replace k2 := k2.of hn
  replace k3 := k3.of hn
  replace HB1 := Lib.hid (HB1.out.of hn)
  replace hb0 := hb0.trans (hn.mono hb0.size)
  clear hn
  have c2_0 : U4.cell? ⟨U2.heap.size, 0, none⟩ = some (.bool bn1) := k2.cell 0
  have c2_1 : U4.cell? ⟨U2.heap.size, 1, none⟩ = some (.slice ba1 bl1 bc1) := k2.cell 1
  have l2 := k2.lt
  go_wp2_with fail
  clear c2_0 c2_1 l2
  refine (bigMinus_v (.agg #[.bool bn1, .slice ba1 bl1 bc1]) a m 18 HP6.out _ HB1.out).mono ?_
  rintro e U5 ⟨v_, rfl, hbm, hn⟩
  replace k1 := k1.of hn
  replace k2 := k2.of hn
  replace k3 := k3.of hn
  replace HB1 := Lib.hid (HB1.out.of hn)
  replace hb0 := hb0.trans (hn.mono hb0.size)
  clear hn
  have HB2 := Lib.hid hbm
  have hvm := hbm.shape
  clear hbm
  obtain ⟨bn2, ba2, bl2, bc2, rfl⟩ := hvm
  have c1_0 : U5.cell? ⟨w.heap.size, 0, none⟩ = some (.int .u64 (wd0 a)) := k1.cell 0
  have c1_1 : U5.cell? ⟨w.heap.size, 1, none⟩ = some (.int .u64 (wd1 a)) := k1.cell 1
  have c1_2 : U5.cell? ⟨w.heap.size, 2, none⟩ = some (.int .u64 (wd2 a)) := k1.cell 2
  have c1_3 : U5.cell? ⟨w.heap.size, 3, none⟩ = some (.int .u64 (wd3 a)) := k1.cell 3
  have l1 := k1.lt
  have c3_0 : U5.cell? ⟨(U2.heap.size + 1), 0, none⟩ = some (.bool bn1) := k3.cell 0
  have c3_1 : U5.cell? ⟨(U2.heap.size + 1), 1, none⟩ = some (.slice ba1 bl1 bc1) := k3.cell 1
  have f3_0 := k3.free 0
  have f3_1 := k3.free 1
  have l3 := k3.lt
  have p1_3 : w.heap.size ≠ (U2.heap.size + 1) := (by have := D1.out; omega)
  go_wp2_with fail
  clear c1_0 c1_1 c1_2 c1_3 l1 c3_0 c3_1 f3_0 f3_1 l3 p1_3
  first | refine calls_w ?_ | refine name_world ?_ | refine list_world ?_ | refine post_world ?_
  intro V6 hV6
  have D3 := Lib.hid k1.lt
  have D4 := Lib.hid k2.lt
  have D5 := Lib.hid k3.lt
  have D6 := Lib.hid hb0.size
  have nk1 : Blk V6 w.heap.size #[.int .u64 (wd0 a), .int .u64 (wd1 a), .int .u64 (wd2 a), .int .u64 (wd3 a)] 24 := by rw [hV6]; exact (blk_setL k1 (by have := D1.out; omega) 0 [.bool bn2, .slice ba2 bl2 bc2])
  have nk2 : Blk V6 U2.heap.size #[.bool bn1, .slice ba1 bl1 bc1] 34 := by rw [hV6]; exact (blk_setL k2 (by omega) 0 [.bool bn2, .slice ba2 bl2 bc2])
  have nk3 : Blk V6 (U2.heap.size + 1) #[.bool bn2, .slice ba2 bl2 bc2] 34 := by rw [hV6]; exact (blk_full _ [.bool bn2, .slice ba2 bl2 bc2] k3 rfl)
  have nhb0 : Below w.heap.size w V6 := by rw [hV6]; exact (blw_setL hb0 (by have := D2.out; omega) 0 [.bool bn2, .slice ba2 bl2 bc2])
  replace HB1 : Hid (Big V6 (.agg #[.bool bn1, .slice ba1 bl1 bc1]) a 18) := Lib.hid (by rw [hV6]; exact (big_setL HB1.out (Blk.cell k3 0) (fun _ h => by cases h) 0 [.bool bn2, .slice ba2 bl2 bc2]))
  replace HB2 : Hid (Big V6 (.agg #[.bool bn2, .slice ba2 bl2 bc2]) m 18) := Lib.hid (by rw [hV6]; exact (big_setL HB2.out (Blk.cell k3 0) (fun _ h => by cases h) 0 [.bool bn2, .slice ba2 bl2 bc2]))
  clear k1 k2 k3
  clear hb0
  clear hV6
  have k1 := nk1
  clear nk1
  have k2 := nk2
  clear nk2
  have k3 := nk3
  clear nk3
  have hb0 := nhb0
  clear nhb0
  refine (Bits_v a k HP2.out _ia _).mono ?_
  rintro e U7 ⟨rfl, hn⟩
  replace k1 := k1.of hn
  replace k2 := k2.of hn
  replace k3 := k3.of hn
  replace HB1 := Lib.hid (HB1.out.of hn)
  replace HB2 := Lib.hid (HB2.out.of hn)
  replace hb0 := hb0.trans (hn.mono hb0.size)
  clear hn
  go_wp2_with fail
  have c3_0 : U7.cell? ⟨(U2.heap.size + 1), 0, none⟩ = some (.bool bn2) := k3.cell 0
  have c3_1 : U7.cell? ⟨(U2.heap.size + 1), 1, none⟩ = some (.slice ba2 bl2 bc2) := k3.cell 1
  have l3 := k3.lt
  have Kk1 := Lib.hid k1
  clear k1
  have Kk2 := Lib.hid k2
  clear k2
  have Kk3 := Lib.hid k3
  clear k3
  refine wp_region_up U7.heap.size 21 [(true, 0), (true, 1), (true, 2), (true, 3), (true, 4), (true, 5), (true, 6), (true, 7), (true, 8), (false, 9), (false, 10), (true, 11), (true, 12), (true, 13), (true, 14), (true, 15), (true, 16), (true, 17), (true, 18), (true, 19), (false, 20)] (by kernel_rfl) (by kernel_rfl) (fun _ _ d _ _ h => by cases d <;> exact h) ?_
  have hb : Below U7.heap.size U7 U7.drew := (Below.refl _ _).drew
  iterate 9
    refine wpS_takeL rfl rfl ?_
    go_big_quiet_step (rfl)
    refine wpQuiet_nil ?_
  refine wpS_doL rfl ?_
  intro K hK
  go_wp2_with ((first | (go_at_call 21; (with_reducible refine (powk_v k q _ik.out HP5.out _).mono ?_); rintro e w2 ⟨v_, rfl, hbm, hn⟩; have HB3 := Lib.hid hbm; have hvm := hbm.shape; clear hbm; obtain ⟨bn3, ba3, bl3, bc3, rfl⟩ := hvm) | (go_at_call 21; (with_reducible refine (powk_v (wrap64 (k - 1)) q2 (pw_in1 _ik.out (of_decide_eq_true hP9)) HP10.out _).mono ?_); rintro e w2 ⟨v_, rfl, hbm, hn⟩; replace HB3 := Lib.hid (HB3.out.of hn); have HB4 := Lib.hid hbm; have hvm := hbm.shape; clear hbm; obtain ⟨bn4, ba4, bl4, bc4, rfl⟩ := hvm)))
  try replace hb := hb.trans (hn.mono hb.size)
  refine hK.out _ _ (up_iff.2 hb) ?_
  clear hK K
  try clear hn
  refine wpS_doL rfl ?_
  intro K hK
  go_wp2_with ((go_at_call 20; (with_reducible refine (bigCmp_v (.agg #[.bool bn2, .slice ba2 bl2 bc2]) (.agg #[.bool bn3, .slice ba3 bl3 bc3]) m q 18 18 c1 HP7.out _ (HB2.out.of hb) HB3.out).mono ?_); rintro e w2 ⟨rfl, hn⟩; replace HB3 := Lib.hid (HB3.out.of hn)))
  try replace hb := hb.trans (hn.mono hb.size)
  refine hK.out _ _ (up_iff.2 hb) ?_
  clear hK K
  try clear hn
  iterate 9
    refine wpS_takeL rfl rfl ?_
    go_big_quiet_step (rfl)
    refine wpQuiet_nil ?_
  refine wpS_doL rfl ?_
  intro K hK
  go_wp2_with ((first | (go_at_call 21; (with_reducible refine (powk_v k q _ik.out HP5.out _).mono ?_); rintro e w2 ⟨v_, rfl, hbm, hn⟩; have HB3 := Lib.hid hbm; have hvm := hbm.shape; clear hbm; obtain ⟨bn3, ba3, bl3, bc3, rfl⟩ := hvm) | (go_at_call 21; (with_reducible refine (powk_v (wrap64 (k - 1)) q2 (pw_in1 _ik.out (of_decide_eq_true hP9)) HP10.out _).mono ?_); rintro e w2 ⟨v_, rfl, hbm, hn⟩; replace HB3 := Lib.hid (HB3.out.of hn); have HB4 := Lib.hid hbm; have hvm := hbm.shape; clear hbm; obtain ⟨bn4, ba4, bl4, bc4, rfl⟩ := hvm)))
  try replace hb := hb.trans (hn.mono hb.size)
  refine hK.out _ _ (up_iff.2 hb) ?_
  clear hK K
  try clear hn
  refine wpS_nil ?_
  simp only [List.drop_succ_cons, List.drop_zero]
  first | refine calls_w ?_ | refine name_world ?_ | refine list_world ?_ | refine post_world ?_
  intro U8 hU8
  first | (subst hU8; have u_ := U8; clear u_) | (rw [← hU8] at hb; clear hU8)
  clear c3_0 c3_1 l3
  have k1 := Kk1.out.of hb
  clear Kk1
  have k2 := Kk2.out.of hb
  clear Kk2
  have k3 := Kk3.out.of hb
  clear Kk3
  replace HB1 := Lib.hid (HB1.out.of hb)
  replace HB2 := Lib.hid (HB2.out.of hb)
  replace hb0 := hb0.trans (hb.mono hb0.size)
  clear hb
  go_wp2_with fail
  refine (bigCmp_v (.agg #[.bool bn2, .slice ba2 bl2 bc2]) (.agg #[.bool bn4, .slice ba4 bl4 bc4]) m q2 18 18 c2 HP11.out _ HB2.out HB4.out).mono ?_
  rintro e U9 ⟨rfl, hn⟩
  clear HB2 HB3 HB4
  clear k3
  replace k1 := k1.of hn
  replace k2 := k2.of hn
  replace HB1 := Lib.hid (HB1.out.of hn)
  replace hb0 := hb0.trans (hn.mono hb0.size)
  clear hn
  have c1_0 : U9.cell? ⟨w.heap.size, 0, none⟩ = some (.int .u64 (wd0 a)) := k1.cell 0
  have c1_1 : U9.cell? ⟨w.heap.size, 1, none⟩ = some (.int .u64 (wd1 a)) := k1.cell 1
  have c1_2 : U9.cell? ⟨w.heap.size, 2, none⟩ = some (.int .u64 (wd2 a)) := k1.cell 2
  have c1_3 : U9.cell? ⟨w.heap.size, 3, none⟩ = some (.int .u64 (wd3 a)) := k1.cell 3
  have l1 := k1.lt
  go_wp2_with fail
  clear c1_0 c1_1 c1_2 c1_3 l1
  refine (Root_v a 0 false HP13.out HP14.out _ia _).mono ?_
  rintro e U10 ⟨rfl, hn⟩
  replace k1 := k1.of hn
  replace k2 := k2.of hn
  replace HB1 := Lib.hid (HB1.out.of hn)
  replace hb0 := hb0.trans (hn.mono hb0.size)
  clear hn
  have c2_0 : U10.cell? ⟨U2.heap.size, 0, none⟩ = some (.bool bn1) := k2.cell 0
  have c2_1 : U10.cell? ⟨U2.heap.size, 1, none⟩ = some (.slice ba1 bl1 bc1) := k2.cell 1
  have l2 := k2.lt
  go_wp2_with fail
  clear c2_0 c2_1 l2
  first | refine calls_w ?_ | refine name_world ?_ | refine list_world ?_ | refine post_world ?_
  intro V11 hV11
  have D7 := Lib.hid k1.lt
  have D8 := Lib.hid k2.lt
  have D9 := Lib.hid hb0.size
  have hn : Below U10.heap.size U10 V11 := by rw [hV11]; exact below_a1 _ _
  have nk1 := k1.of hn
  have nk2 := k2.of hn
  replace HB1 := Lib.hid (HB1.out.of hn)
  have nhb0 := hb0.trans (hn.mono hb0.size)
  clear hn
  have k4 : Blk V11 U10.heap.size #[.int .u64 (wd0 0), .int .u64 (wd1 0), .int .u64 (wd2 0), .int .u64 (wd3 0)] 24 := by rw [hV11]; exact (Blk.new _ _ _)
  clear k1 k2
  clear hb0
  clear hV11
  have k1 := nk1
  clear nk1
  have k2 := nk2
  clear nk2
  have hb0 := nhb0
  clear nhb0
  refine (bigSign_v (.agg #[.bool bn1, .slice ba1 bl1 bc1]) a 18 s HP0.out _ HB1.out).mono ?_
  rintro e U12 ⟨rfl, hn⟩
  replace k1 := k1.of hn
  replace k2 := k2.of hn
  replace k4 := k4.of hn
  replace HB1 := Lib.hid (HB1.out.of hn)
  replace hb0 := hb0.trans (hn.mono hb0.size)
  clear hn
  have c1_0 : U12.cell? ⟨w.heap.size, 0, none⟩ = some (.int .u64 (wd0 a)) := k1.cell 0
  have c1_1 : U12.cell? ⟨w.heap.size, 1, none⟩ = some (.int .u64 (wd1 a)) := k1.cell 1
  have c1_2 : U12.cell? ⟨w.heap.size, 2, none⟩ = some (.int .u64 (wd2 a)) := k1.cell 2
  have c1_3 : U12.cell? ⟨w.heap.size, 3, none⟩ = some (.int .u64 (wd3 a)) := k1.cell 3
  have l1 := k1.lt
  have c4_0 : U12.cell? ⟨U10.heap.size, 0, none⟩ = some (.int .u64 (wd0 0)) := k4.cell 0
  have c4_1 : U12.cell? ⟨U10.heap.size, 1, none⟩ = some (.int .u64 (wd1 0)) := k4.cell 1
  have c4_2 : U12.cell? ⟨U10.heap.size, 2, none⟩ = some (.int .u64 (wd2 0)) := k4.cell 2
  have c4_3 : U12.cell? ⟨U10.heap.size, 3, none⟩ = some (.int .u64 (wd3 0)) := k4.cell 3
  have l4 := k4.lt
  go_wp2_with fail
  clear c1_0 c1_1 c1_2 c1_3 l1 c4_0 c4_1 c4_2 c4_3 l4
  refine (Power_v a n 0 false HP15.out HP16.out _ia _in _).mono ?_
  rintro e U13 ⟨rfl, hn⟩
  clear k1 k4
  replace k2 := k2.of hn
  replace HB1 := Lib.hid (HB1.out.of hn)
  replace hb0 := hb0.trans (hn.mono hb0.size)
  clear hn
  go_wp2_with fail
  first | refine calls_w ?_ | refine name_world ?_ | refine list_world ?_ | refine post_world ?_
  intro V14 hV14
  have D10 := Lib.hid k2.lt
  have D11 := Lib.hid hb0.size
  have hn : Below U13.heap.size U13 V14 := by rw [hV14]; exact below_a1 _ _
  have nk2 := k2.of hn
  replace HB1 := Lib.hid (HB1.out.of hn)
  have nhb0 := hb0.trans (hn.mono hb0.size)
  clear hn
  have k5 : Blk V14 U13.heap.size #[.int .u64 (wd0 0), .int .u64 (wd1 0), .int .u64 (wd2 0), .int .u64 (wd3 0)] 24 := by rw [hV14]; exact (Blk.new _ _ _)
  clear k2
  clear hb0
  clear hV14
  have k2 := nk2
  clear nk2
  have hb0 := nhb0
  clear nhb0
  refine (wawake_any _ (hG.of hb0)).mono ?_
  rintro e U15 ⟨rfl, hn⟩
  replace k2 := k2.of hn
  replace k5 := k5.of hn
  replace HB1 := Lib.hid (HB1.out.of hn)
  replace hb0 := hb0.trans (hn.mono hb0.size)
  clear hn
  go_wp2
  first | go_ret | go_ret2
  exact ⟨by first | rfl | (simp; done) | (simp; assumption), hb0⟩

set_option maxRecDepth 100000 in
set_option maxHeartbeats 4000000 in

theorem WRo_02 (a : Int) (n : Int) (s : Int) (k : Int) (q : Int) (m : Int) (c1 : Int) (q2 : Int) (c2 : Int) (p : Int)   (hP0 : a.sign = s) (hP1 : decide (s < 0) = true) (hP2 : btn a = k) (hP3 : decide (k < 0) = false) (hP4 : decide (256 < k) = false) (hP5 : 2 ^ k.toNat = q) (hP6 : -a = m) (hP7 : cmpI m q = c1) (hP8 : decide (0 ≤ c1) = false) (hP9 : decide (0 < k) = true) (hP10 : 2 ^ (wrap64 (k - 1)).toNat = q2) (hP11 : cmpI m q2 = c2) (hP12 : decide (c2 < 0) = false) (hP13 : rtv a = 0) (hP14 : rtk a = false) (hP15 : pwv a n = p) (hP16 : pwk a n = true) (hP17 : decide (n < 0) = false) (hP18 : decide (256 < n) = false) (_ik : Hid (0 ≤ k ∧ k ≤ 256)) (_ia : InI a) (_in : In64 n)  (w : World) (hG : Tab w) :
    Calls Tryd.prog 6 #[.agg #[.int .u64 (wd0 a), .int .u64 (wd1 a), .int .u64 (wd2 a), .int .u64 (wd3 a)], .int .i64 n] w fun e w' => e = .returned (.bool true) ∧ Below w.heap.size w w' := by

  have HP0 := Lib.hid hP0
  clear hP0
  have HP2 := Lib.hid hP2
  clear hP2
  have HP5 := Lib.hid hP5
  clear hP5
  have HP6 := Lib.hid hP6
  clear hP6
  have HP7 := Lib.hid hP7
  clear hP7
  have HP10 := Lib.hid hP10
  clear hP10
  have HP11 := Lib.hid hP11
  clear hP11
  have HP13 := Lib.hid hP13
  clear hP13
  have HP14 := Lib.hid hP14
  clear hP14
  have HP15 := Lib.hid hP15
  clear hP15
  have HP16 := Lib.hid hP16
  clear hP16
  go_enter Tryd.func6, Tryd.ntmps6
  go_wp2_with fail
  first | refine calls_w ?_ | refine name_world ?_ | refine list_world ?_ | refine post_world ?_
  intro V1 hV1
  have hn : Below w.heap.size w V1 := by rw [hV1]; exact below_a1 _ _
  have nhb0 := hn
  have k1 : Blk V1 w.heap.size #[.int .u64 (wd0 a), .int .u64 (wd1 a), .int .u64 (wd2 a), .int .u64 (wd3 a)] 24 := by rw [hV1]; exact (Blk.new _ _ _)
  clear hV1
  have hb0 := nhb0
  clear nhb0
  refine (Read_v a a rfl _ia _).mono ?_
  rintro e U2 ⟨v_, rfl, hbm, hn⟩
  replace k1 := k1.of hn
  replace hb0 := hb0.trans (hn.mono hb0.size)
  clear hn
  have HB1 := Lib.hid hbm
  have hvm := hbm.shape
  clear hbm
  obtain ⟨bn1, ba1, bl1, bc1, rfl⟩ := hvm
  go_wp2_with fail
  first | refine calls_w ?_ | refine name_world ?_ | refine list_world ?_ | refine post_world ?_
  intro V3 hV3
  have D1 := Lib.hid k1.lt
  have D2 := Lib.hid hb0.size
  have hn : Below U2.heap.size U2 V3 := by rw [hV3]; exact below_a2 _ _ _
  have nk1 := k1.of hn
  replace HB1 := Lib.hid (HB1.out.of hn)
  have nhb0 := hb0.trans (hn.mono hb0.size)
  clear hn
  have k2 : Blk V3 U2.heap.size #[.bool bn1, .slice ba1 bl1 bc1] 34 := by rw [hV3]; exact ((Blk.new _ _ _).alloc _)
  have k3 : Blk V3 (U2.heap.size + 1) #[.bool bn1, .slice ba1 bl1 bc1] 34 := by rw [hV3]; exact (Blk.new1 _ _ _ _)
  clear k1
  clear hb0
  clear hV3
  have k1 := nk1
  clear nk1
  have hb0 := nhb0
  clear nhb0
  refine (bigSign_v (.agg #[.bool bn1, .slice ba1 bl1 bc1]) a 18 s HP0.out _ HB1.out).mono ?_
  rintro e U4 ⟨rfl, hn⟩
  replace k1 := k1.of hn
  replace k2 := k2.of hn
  replace k3 := k3.of hn
  replace HB1 := Lib.hid (HB1.out.of hn)
  replace hb0 := hb0.trans (hn.mono hb0.size)
  clear hn
  have c2_0 : U4.cell? ⟨U2.heap.size, 0, none⟩ = some (.bool bn1) := k2.cell 0
  have c2_1 : U4.cell? ⟨U2.heap.size, 1, none⟩ = some (.slice ba1 bl1 bc1) := k2.cell 1
  have l2 := k2.lt
  go_wp2_with fail
  clear c2_0 c2_1 l2
  refine (bigMinus_v (.agg #[.bool bn1, .slice ba1 bl1 bc1]) a m 18 HP6.out _ HB1.out).mono ?_
  rintro e U5 ⟨v_, rfl, hbm, hn⟩
  replace k1 := k1.of hn
  replace k2 := k2.of hn
  replace k3 := k3.of hn
  replace HB1 := Lib.hid (HB1.out.of hn)
  replace hb0 := hb0.trans (hn.mono hb0.size)
  clear hn
  have HB2 := Lib.hid hbm
  have hvm := hbm.shape
  clear hbm
  obtain ⟨bn2, ba2, bl2, bc2, rfl⟩ := hvm
  have c1_0 : U5.cell? ⟨w.heap.size, 0, none⟩ = some (.int .u64 (wd0 a)) := k1.cell 0
  have c1_1 : U5.cell? ⟨w.heap.size, 1, none⟩ = some (.int .u64 (wd1 a)) := k1.cell 1
  have c1_2 : U5.cell? ⟨w.heap.size, 2, none⟩ = some (.int .u64 (wd2 a)) := k1.cell 2
  have c1_3 : U5.cell? ⟨w.heap.size, 3, none⟩ = some (.int .u64 (wd3 a)) := k1.cell 3
  have l1 := k1.lt
  have c3_0 : U5.cell? ⟨(U2.heap.size + 1), 0, none⟩ = some (.bool bn1) := k3.cell 0
  have c3_1 : U5.cell? ⟨(U2.heap.size + 1), 1, none⟩ = some (.slice ba1 bl1 bc1) := k3.cell 1
  have f3_0 := k3.free 0
  have f3_1 := k3.free 1
  have l3 := k3.lt
  have p1_3 : w.heap.size ≠ (U2.heap.size + 1) := (by have := D1.out; omega)
  go_wp2_with fail
  clear c1_0 c1_1 c1_2 c1_3 l1 c3_0 c3_1 f3_0 f3_1 l3 p1_3
  first | refine calls_w ?_ | refine name_world ?_ | refine list_world ?_ | refine post_world ?_
  intro V6 hV6
  have D3 := Lib.hid k1.lt
  have D4 := Lib.hid k2.lt
  have D5 := Lib.hid k3.lt
  have D6 := Lib.hid hb0.size
  have nk1 : Blk V6 w.heap.size #[.int .u64 (wd0 a), .int .u64 (wd1 a), .int .u64 (wd2 a), .int .u64 (wd3 a)] 24 := by rw [hV6]; exact (blk_setL k1 (by have := D1.out; omega) 0 [.bool bn2, .slice ba2 bl2 bc2])
  have nk2 : Blk V6 U2.heap.size #[.bool bn1, .slice ba1 bl1 bc1] 34 := by rw [hV6]; exact (blk_setL k2 (by omega) 0 [.bool bn2, .slice ba2 bl2 bc2])
  have nk3 : Blk V6 (U2.heap.size + 1) #[.bool bn2, .slice ba2 bl2 bc2] 34 := by rw [hV6]; exact (blk_full _ [.bool bn2, .slice ba2 bl2 bc2] k3 rfl)
  have nhb0 : Below w.heap.size w V6 := by rw [hV6]; exact (blw_setL hb0 (by have := D2.out; omega) 0 [.bool bn2, .slice ba2 bl2 bc2])
  replace HB1 : Hid (Big V6 (.agg #[.bool bn1, .slice ba1 bl1 bc1]) a 18) := Lib.hid (by rw [hV6]; exact (big_setL HB1.out (Blk.cell k3 0) (fun _ h => by cases h) 0 [.bool bn2, .slice ba2 bl2 bc2]))
  replace HB2 : Hid (Big V6 (.agg #[.bool bn2, .slice ba2 bl2 bc2]) m 18) := Lib.hid (by rw [hV6]; exact (big_setL HB2.out (Blk.cell k3 0) (fun _ h => by cases h) 0 [.bool bn2, .slice ba2 bl2 bc2]))
  clear k1 k2 k3
  clear hb0
  clear hV6
  have k1 := nk1
  clear nk1
  have k2 := nk2
  clear nk2
  have k3 := nk3
  clear nk3
  have hb0 := nhb0
  clear nhb0
  refine (Bits_v a k HP2.out _ia _).mono ?_
  rintro e U7 ⟨rfl, hn⟩
  replace k1 := k1.of hn
  replace k2 := k2.of hn
  replace k3 := k3.of hn
  replace HB1 := Lib.hid (HB1.out.of hn)
  replace HB2 := Lib.hid (HB2.out.of hn)
  replace hb0 := hb0.trans (hn.mono hb0.size)
  clear hn
  go_wp2_with fail
  have c3_0 : U7.cell? ⟨(U2.heap.size + 1), 0, none⟩ = some (.bool bn2) := k3.cell 0
  have c3_1 : U7.cell? ⟨(U2.heap.size + 1), 1, none⟩ = some (.slice ba2 bl2 bc2) := k3.cell 1
  have l3 := k3.lt
  have Kk1 := Lib.hid k1
  clear k1
  have Kk2 := Lib.hid k2
  clear k2
  have Kk3 := Lib.hid k3
  clear k3
  refine wp_region_up U7.heap.size 21 [(true, 0), (true, 1), (true, 2), (true, 3), (true, 4), (true, 5), (true, 6), (true, 7), (true, 8), (false, 9), (false, 10), (true, 11), (true, 12), (true, 13), (true, 14), (true, 15), (true, 16), (true, 17), (true, 18), (true, 19), (false, 20)] (by kernel_rfl) (by kernel_rfl) (fun _ _ d _ _ h => by cases d <;> exact h) ?_
  have hb : Below U7.heap.size U7 U7.drew := (Below.refl _ _).drew
  iterate 9
    refine wpS_takeL rfl rfl ?_
    go_big_quiet_step (rfl)
    refine wpQuiet_nil ?_
  refine wpS_doL rfl ?_
  intro K hK
  go_wp2_with ((first | (go_at_call 21; (with_reducible refine (powk_v k q _ik.out HP5.out _).mono ?_); rintro e w2 ⟨v_, rfl, hbm, hn⟩; have HB3 := Lib.hid hbm; have hvm := hbm.shape; clear hbm; obtain ⟨bn3, ba3, bl3, bc3, rfl⟩ := hvm) | (go_at_call 21; (with_reducible refine (powk_v (wrap64 (k - 1)) q2 (pw_in1 _ik.out (of_decide_eq_true hP9)) HP10.out _).mono ?_); rintro e w2 ⟨v_, rfl, hbm, hn⟩; replace HB3 := Lib.hid (HB3.out.of hn); have HB4 := Lib.hid hbm; have hvm := hbm.shape; clear hbm; obtain ⟨bn4, ba4, bl4, bc4, rfl⟩ := hvm)))
  try replace hb := hb.trans (hn.mono hb.size)
  refine hK.out _ _ (up_iff.2 hb) ?_
  clear hK K
  try clear hn
  refine wpS_doL rfl ?_
  intro K hK
  go_wp2_with ((go_at_call 20; (with_reducible refine (bigCmp_v (.agg #[.bool bn2, .slice ba2 bl2 bc2]) (.agg #[.bool bn3, .slice ba3 bl3 bc3]) m q 18 18 c1 HP7.out _ (HB2.out.of hb) HB3.out).mono ?_); rintro e w2 ⟨rfl, hn⟩; replace HB3 := Lib.hid (HB3.out.of hn)))
  try replace hb := hb.trans (hn.mono hb.size)
  refine hK.out _ _ (up_iff.2 hb) ?_
  clear hK K
  try clear hn
  iterate 9
    refine wpS_takeL rfl rfl ?_
    go_big_quiet_step (rfl)
    refine wpQuiet_nil ?_
  refine wpS_doL rfl ?_
  intro K hK
  go_wp2_with ((first | (go_at_call 21; (with_reducible refine (powk_v k q _ik.out HP5.out _).mono ?_); rintro e w2 ⟨v_, rfl, hbm, hn⟩; have HB3 := Lib.hid hbm; have hvm := hbm.shape; clear hbm; obtain ⟨bn3, ba3, bl3, bc3, rfl⟩ := hvm) | (go_at_call 21; (with_reducible refine (powk_v (wrap64 (k - 1)) q2 (pw_in1 _ik.out (of_decide_eq_true hP9)) HP10.out _).mono ?_); rintro e w2 ⟨v_, rfl, hbm, hn⟩; replace HB3 := Lib.hid (HB3.out.of hn); have HB4 := Lib.hid hbm; have hvm := hbm.shape; clear hbm; obtain ⟨bn4, ba4, bl4, bc4, rfl⟩ := hvm)))
  try replace hb := hb.trans (hn.mono hb.size)
  refine hK.out _ _ (up_iff.2 hb) ?_
  clear hK K
  try clear hn
  refine wpS_nil ?_
  simp only [List.drop_succ_cons, List.drop_zero]
  first | refine calls_w ?_ | refine name_world ?_ | refine list_world ?_ | refine post_world ?_
  intro U8 hU8
  first | (subst hU8; have u_ := U8; clear u_) | (rw [← hU8] at hb; clear hU8)
  clear c3_0 c3_1 l3
  have k1 := Kk1.out.of hb
  clear Kk1
  have k2 := Kk2.out.of hb
  clear Kk2
  have k3 := Kk3.out.of hb
  clear Kk3
  replace HB1 := Lib.hid (HB1.out.of hb)
  replace HB2 := Lib.hid (HB2.out.of hb)
  replace hb0 := hb0.trans (hb.mono hb0.size)
  clear hb
  go_wp2_with fail
  refine (bigCmp_v (.agg #[.bool bn2, .slice ba2 bl2 bc2]) (.agg #[.bool bn4, .slice ba4 bl4 bc4]) m q2 18 18 c2 HP11.out _ HB2.out HB4.out).mono ?_
  rintro e U9 ⟨rfl, hn⟩
  clear HB2 HB3 HB4
  clear k3
  replace k1 := k1.of hn
  replace k2 := k2.of hn
  replace HB1 := Lib.hid (HB1.out.of hn)
  replace hb0 := hb0.trans (hn.mono hb0.size)
  clear hn
  have c1_0 : U9.cell? ⟨w.heap.size, 0, none⟩ = some (.int .u64 (wd0 a)) := k1.cell 0
  have c1_1 : U9.cell? ⟨w.heap.size, 1, none⟩ = some (.int .u64 (wd1 a)) := k1.cell 1
  have c1_2 : U9.cell? ⟨w.heap.size, 2, none⟩ = some (.int .u64 (wd2 a)) := k1.cell 2
  have c1_3 : U9.cell? ⟨w.heap.size, 3, none⟩ = some (.int .u64 (wd3 a)) := k1.cell 3
  have l1 := k1.lt
  go_wp2_with fail
  clear c1_0 c1_1 c1_2 c1_3 l1
  refine (Root_v a 0 false HP13.out HP14.out _ia _).mono ?_
  rintro e U10 ⟨rfl, hn⟩
  replace k1 := k1.of hn
  replace k2 := k2.of hn
  replace HB1 := Lib.hid (HB1.out.of hn)
  replace hb0 := hb0.trans (hn.mono hb0.size)
  clear hn
  have c2_0 : U10.cell? ⟨U2.heap.size, 0, none⟩ = some (.bool bn1) := k2.cell 0
  have c2_1 : U10.cell? ⟨U2.heap.size, 1, none⟩ = some (.slice ba1 bl1 bc1) := k2.cell 1
  have l2 := k2.lt
  go_wp2_with fail
  clear c2_0 c2_1 l2
  first | refine calls_w ?_ | refine name_world ?_ | refine list_world ?_ | refine post_world ?_
  intro V11 hV11
  have D7 := Lib.hid k1.lt
  have D8 := Lib.hid k2.lt
  have D9 := Lib.hid hb0.size
  have hn : Below U10.heap.size U10 V11 := by rw [hV11]; exact below_a1 _ _
  have nk1 := k1.of hn
  have nk2 := k2.of hn
  replace HB1 := Lib.hid (HB1.out.of hn)
  have nhb0 := hb0.trans (hn.mono hb0.size)
  clear hn
  have k4 : Blk V11 U10.heap.size #[.int .u64 (wd0 0), .int .u64 (wd1 0), .int .u64 (wd2 0), .int .u64 (wd3 0)] 24 := by rw [hV11]; exact (Blk.new _ _ _)
  clear k1 k2
  clear hb0
  clear hV11
  have k1 := nk1
  clear nk1
  have k2 := nk2
  clear nk2
  have hb0 := nhb0
  clear nhb0
  refine (bigSign_v (.agg #[.bool bn1, .slice ba1 bl1 bc1]) a 18 s HP0.out _ HB1.out).mono ?_
  rintro e U12 ⟨rfl, hn⟩
  replace k1 := k1.of hn
  replace k2 := k2.of hn
  replace k4 := k4.of hn
  replace HB1 := Lib.hid (HB1.out.of hn)
  replace hb0 := hb0.trans (hn.mono hb0.size)
  clear hn
  have c1_0 : U12.cell? ⟨w.heap.size, 0, none⟩ = some (.int .u64 (wd0 a)) := k1.cell 0
  have c1_1 : U12.cell? ⟨w.heap.size, 1, none⟩ = some (.int .u64 (wd1 a)) := k1.cell 1
  have c1_2 : U12.cell? ⟨w.heap.size, 2, none⟩ = some (.int .u64 (wd2 a)) := k1.cell 2
  have c1_3 : U12.cell? ⟨w.heap.size, 3, none⟩ = some (.int .u64 (wd3 a)) := k1.cell 3
  have l1 := k1.lt
  have c4_0 : U12.cell? ⟨U10.heap.size, 0, none⟩ = some (.int .u64 (wd0 0)) := k4.cell 0
  have c4_1 : U12.cell? ⟨U10.heap.size, 1, none⟩ = some (.int .u64 (wd1 0)) := k4.cell 1
  have c4_2 : U12.cell? ⟨U10.heap.size, 2, none⟩ = some (.int .u64 (wd2 0)) := k4.cell 2
  have c4_3 : U12.cell? ⟨U10.heap.size, 3, none⟩ = some (.int .u64 (wd3 0)) := k4.cell 3
  have l4 := k4.lt
  go_wp2_with fail
  clear c1_0 c1_1 c1_2 c1_3 l1 c4_0 c4_1 c4_2 c4_3 l4
  refine (Power_v a n p true HP15.out HP16.out _ia _in _).mono ?_
  rintro e U13 ⟨rfl, hn⟩
  clear k1 k4
  replace k2 := k2.of hn
  replace HB1 := Lib.hid (HB1.out.of hn)
  replace hb0 := hb0.trans (hn.mono hb0.size)
  clear hn
  go_wp2_with fail
  first | refine calls_w ?_ | refine name_world ?_ | refine list_world ?_ | refine post_world ?_
  intro V14 hV14
  have D10 := Lib.hid k2.lt
  have D11 := Lib.hid hb0.size
  have hn : Below U13.heap.size U13 V14 := by rw [hV14]; exact below_a1 _ _
  have nk2 := k2.of hn
  replace HB1 := Lib.hid (HB1.out.of hn)
  have nhb0 := hb0.trans (hn.mono hb0.size)
  clear hn
  have k5 : Blk V14 U13.heap.size #[.int .u64 (wd0 p), .int .u64 (wd1 p), .int .u64 (wd2 p), .int .u64 (wd3 p)] 24 := by rw [hV14]; exact (Blk.new _ _ _)
  clear k2
  clear hb0
  clear hV14
  have k2 := nk2
  clear nk2
  have hb0 := nhb0
  clear nhb0
  refine (bigOf_v 1 1 rfl (by unfold In64; omega) _).mono ?_
  rintro e U15 ⟨v_, rfl, hbm, hn⟩
  replace k2 := k2.of hn
  replace k5 := k5.of hn
  replace HB1 := Lib.hid (HB1.out.of hn)
  replace hb0 := hb0.trans (hn.mono hb0.size)
  clear hn
  have HB5 := Lib.hid hbm
  have hvm := hbm.shape
  clear hbm
  obtain ⟨bn5, ba5, bl5, bc5, rfl⟩ := hvm
  go_wp2_with fail
  first | refine name_world ?_
  intro V16 hV16
  have D12 := Lib.hid k2.lt
  have D13 := Lib.hid k5.lt
  have D14 := Lib.hid hb0.size
  have hn : Below U15.heap.size U15 V16 := by rw [hV16]; exact below_a1 _ _
  have nk2 := k2.of hn
  have nk5 := k5.of hn
  replace HB1 := Lib.hid (HB1.out.of hn)
  replace HB5 := Lib.hid (HB5.out.of hn)
  have nhb0 := hb0.trans (hn.mono hb0.size)
  clear hn
  have k6 : Blk V16 U15.heap.size #[.bool bn5, .slice ba5 bl5 bc5] 34 := by rw [hV16]; exact (Blk.new _ _ _)
  clear k2 k5
  clear hb0
  clear hV16
  have k2 := nk2
  clear nk2
  have k5 := nk5
  clear nk5
  have hb0 := nhb0
  clear nhb0
  go_loopg [116] (n.toNat) (fun gk_ s1_0 wr => ∃ (o : Int) (k_ : Int) (wn : Bool) (wa : Option Addr) (wl wc : Nat), s1_0 = .int .i64 k_ ∧ Hid (PwI a n o k_ ∧ n - k_ ≤ (gk_ : Int)) ∧ Blk wr U2.heap.size #[.bool bn1, .slice ba1 bl1 bc1] 34 ∧ Blk wr U13.heap.size #[.int .u64 (wd0 p), .int .u64 (wd1 p), .int .u64 (wd2 p), .int .u64 (wd3 p)] 24 ∧ Blk wr U15.heap.size #[.bool wn, .slice wa wl wc] 34 ∧ Big wr (.agg #[.bool bn1, .slice ba1 bl1 bc1]) a 18 ∧ Big wr (.agg #[.bool wn, .slice wa wl wc]) o 18 ∧ Below w.heap.size w wr)
  case atStart =>
    have HIn : PwI a n 1 0 ∧ n - 0 ≤ ((n.toNat) : Int) := by
      exact ⟨PwI.begin (by simpa using hP17) (by simpa using hP18), by omega⟩
    exact ⟨1, 0, bn5, ba5, bl5, bc5, rfl, Lib.hid HIn, k2, k5, k6, HB1.out, (HB5.out.mono (by decide)), hb0⟩
  case round =>
    rename World => W1_
    rename Nat => gk1
    clear k2 k5 k6 HB1 HB5
    clear hb0
    obtain ⟨o, k_, wn, wa, wl, wc, rfl, HI1, k2, k5, k6, HB1_, HB6_, hb0⟩ := hrel
    have HB1 := Lib.hid HB1_
    clear HB1_
    have HB6 := Lib.hid HB6_
    clear HB6_
    obtain ⟨z1, hz1⟩ : ∃ o_o : Bool, decide (k_ < n) = o_o := ⟨_, rfl⟩
    cases z1
    · have c5_0 : W1_.cell? ⟨U13.heap.size, 0, none⟩ = some (.int .u64 (wd0 p)) := k5.cell 0
      have c5_1 : W1_.cell? ⟨U13.heap.size, 1, none⟩ = some (.int .u64 (wd1 p)) := k5.cell 1
      have c5_2 : W1_.cell? ⟨U13.heap.size, 2, none⟩ = some (.int .u64 (wd2 p)) := k5.cell 2
      have c5_3 : W1_.cell? ⟨U13.heap.size, 3, none⟩ = some (.int .u64 (wd3 p)) := k5.cell 3
      have l5 := k5.lt
      have c6_0 : W1_.cell? ⟨U15.heap.size, 0, none⟩ = some (.bool wn) := k6.cell 0
      have c6_1 : W1_.cell? ⟨U15.heap.size, 1, none⟩ = some (.slice wa wl wc) := k6.cell 1
      have l6 := k6.lt
      go_wp2_with fail
      clear c5_0 c5_1 c5_2 c5_3 l5 c6_0 c6_1 l6
      refine (told_is o p true (.agg #[.bool wn, .slice wa wl wc]) 18 (okI_t HI1.out.1.io) ((HI1.out.1.yes (of_decide_eq_false hz1)).2.symm.trans HP15.out) _ HB6.out).mono ?_
      rintro e U17 ⟨rfl, hn⟩
      clear HB1 HB6
      clear k2 k5 k6
      replace hb0 := hb0.trans (hn.mono hb0.size)
      clear hn
      go_wp2_with fail
      refine (wawake_any _ (hG.of hb0)).mono ?_
      rintro e U18 ⟨rfl, hn⟩
      replace hb0 := hb0.trans (hn.mono hb0.size)
      clear hn
      go_wp2
      first | go_ret | go_ret2
      exact ⟨by first | rfl | (simp; done) | (simp; assumption), hb0⟩
    · have c2_0 : W1_.cell? ⟨U2.heap.size, 0, none⟩ = some (.bool bn1) := k2.cell 0
      have c2_1 : W1_.cell? ⟨U2.heap.size, 1, none⟩ = some (.slice ba1 bl1 bc1) := k2.cell 1
      have l2 := k2.lt
      have c6_0 : W1_.cell? ⟨U15.heap.size, 0, none⟩ = some (.bool wn) := k6.cell 0
      have c6_1 : W1_.cell? ⟨U15.heap.size, 1, none⟩ = some (.slice wa wl wc) := k6.cell 1
      have l6 := k6.lt
      go_wp2_with fail
      clear c2_0 c2_1 l2 c6_0 c6_1 l6
      obtain ⟨r2, hr2⟩ : ∃ o_o : Int, o * a = o_o := ⟨_, rfl⟩
      have Hr2 := Lib.hid hr2
      clear hr2
      refine (bigMul_v (.agg #[.bool wn, .slice wa wl wc]) (.agg #[.bool bn1, .slice ba1 bl1 bc1]) o a r2 18 18 Hr2.out _ HB6.out HB1.out (by decide)).mono ?_
      rintro e U19 ⟨v_, rfl, hbm, hn⟩
      replace k2 := k2.of hn
      replace k5 := k5.of hn
      replace k6 := k6.of hn
      replace HB1 := Lib.hid (HB1.out.of hn)
      replace HB6 := Lib.hid (HB6.out.of hn)
      replace hb0 := hb0.trans (hn.mono hb0.size)
      clear hn
      have HB7 := Lib.hid hbm
      have hvm := hbm.shape
      clear hbm
      obtain ⟨bn7, ba7, bl7, bc7, rfl⟩ := hvm
      have c6_0 : U19.cell? ⟨U15.heap.size, 0, none⟩ = some (.bool wn) := k6.cell 0
      have c6_1 : U19.cell? ⟨U15.heap.size, 1, none⟩ = some (.slice wa wl wc) := k6.cell 1
      have f6_0 := k6.free 0
      have f6_1 := k6.free 1
      have l6 := k6.lt
      go_wp2_with fail
      clear c6_0 c6_1 f6_0 f6_1 l6
      first | refine calls_w ?_ | refine name_world ?_ | refine list_world ?_ | refine post_world ?_
      intro V20 hV20
      have D15 := Lib.hid k2.lt
      have D16 := Lib.hid k5.lt
      have D17 := Lib.hid k6.lt
      have D18 := Lib.hid hb0.size
      have nk2 : Blk V20 U2.heap.size #[.bool bn1, .slice ba1 bl1 bc1] 34 := by rw [hV20]; exact (blk_setL k2 (by have := D12.out; omega) 0 [.bool bn7, .slice ba7 bl7 bc7])
      have nk5 : Blk V20 U13.heap.size #[.int .u64 (wd0 p), .int .u64 (wd1 p), .int .u64 (wd2 p), .int .u64 (wd3 p)] 24 := by rw [hV20]; exact (blk_setL k5 (by have := D13.out; omega) 0 [.bool bn7, .slice ba7 bl7 bc7])
      have nk6 : Blk V20 U15.heap.size #[.bool bn7, .slice ba7 bl7 bc7] 34 := by rw [hV20]; exact (blk_full _ [.bool bn7, .slice ba7 bl7 bc7] k6 rfl)
      have nhb0 : Below w.heap.size w V20 := by rw [hV20]; exact (blw_setL hb0 (by have := D14.out; omega) 0 [.bool bn7, .slice ba7 bl7 bc7])
      replace HB1 : Hid (Big V20 (.agg #[.bool bn1, .slice ba1 bl1 bc1]) a 18) := Lib.hid (by rw [hV20]; exact (big_setL HB1.out (Blk.cell k6 0) (fun _ h => by cases h) 0 [.bool bn7, .slice ba7 bl7 bc7]))
      replace HB6 : Hid (Big V20 (.agg #[.bool wn, .slice wa wl wc]) o 18) := Lib.hid (by rw [hV20]; exact (big_setL HB6.out (Blk.cell k6 0) (fun _ h => by cases h) 0 [.bool bn7, .slice ba7 bl7 bc7]))
      replace HB7 : Hid (Big V20 (.agg #[.bool bn7, .slice ba7 bl7 bc7]) r2 36) := Lib.hid (by rw [hV20]; exact (big_setL HB7.out (Blk.cell k6 0) (fun _ h => by cases h) 0 [.bool bn7, .slice ba7 bl7 bc7]))
      clear k2 k5 k6
      clear hb0
      clear hV20
      have k2 := nk2
      clear nk2
      have k5 := nk5
      clear nk5
      have k6 := nk6
      clear nk6
      have hb0 := nhb0
      clear nhb0
      obtain ⟨z3, hz3⟩ : ∃ o_o : Bool, okI r2 = o_o := ⟨_, rfl⟩
      have Hz3 := Lib.hid hz3
      clear hz3
      refine (Fits_is (.agg #[.bool bn7, .slice ba7 bl7 bc7]) r2 36 z3 Hz3.out _ HB7.out).mono ?_
      rintro e U21 ⟨rfl, hn⟩
      replace k2 := k2.of hn
      replace k5 := k5.of hn
      replace k6 := k6.of hn
      replace HB1 := Lib.hid (HB1.out.of hn)
      replace HB6 := Lib.hid (HB6.out.of hn)
      replace HB7 := Lib.hid (HB7.out.of hn)
      replace hb0 := hb0.trans (hn.mono hb0.size)
      clear hn
      cases z3
      · exact absurd (HI1.out.1.no (of_decide_eq_true hz1) (by rw [Hr2.out]; exact Hz3.out)) (by rw [HP16.out]; decide)
      · go_wp2_with fail
        have HIn : PwI a n r2 (wrap64 (k_ + 1)) ∧ n - (wrap64 (k_ + 1)) ≤ (((n - (wrap64 (k_ + 1))).toNat) : Int) := by
          exact ⟨HI1.out.1.nextM (of_decide_eq_true hz1) Hr2.out (by rw [Hr2.out]; exact Hz3.out), by omega⟩
        go_roundg ((n - (wrap64 (k_ + 1))).toNat)
        case measure =>
          rw [HI1.out.1.w (of_decide_eq_true hz1)]
          have q_ := of_decide_eq_true hz1
          have q2_ := HI1.out.2
          omega
        case rel => exact ⟨r2, (wrap64 (k_ + 1)), bn7, ba7, bl7, bc7, rfl, Lib.hid HIn, k2, k5, k6, HB1.out, (fit_I HB7.out (by have := Hz3.out; unfold okI at this; exact of_decide_eq_true this)), hb0⟩

set_option maxRecDepth 100000 in
set_option maxHeartbeats 4000000 in

theorem WRo_03 (a : Int) (n : Int) (s : Int) (k : Int) (q : Int) (m : Int) (c1 : Int) (q2 : Int) (c2 : Int)   (hP0 : a.sign = s) (hP1 : decide (s < 0) = true) (hP2 : btn a = k) (hP3 : decide (k < 0) = false) (hP4 : decide (256 < k) = false) (hP5 : 2 ^ k.toNat = q) (hP6 : -a = m) (hP7 : cmpI m q = c1) (hP8 : decide (0 ≤ c1) = false) (hP9 : decide (0 < k) = true) (hP10 : 2 ^ (wrap64 (k - 1)).toNat = q2) (hP11 : cmpI m q2 = c2) (hP12 : decide (c2 < 0) = false) (hP13 : rtv a = 0) (hP14 : rtk a = false) (hP15 : pwv a n = 0) (hP16 : pwk a n = false) (hP17 : decide (n < 0) = false) (hP18 : decide (256 < n) = false) (_ik : Hid (0 ≤ k ∧ k ≤ 256)) (_ia : InI a) (_in : In64 n)  (w : World) (hG : Tab w) :
    Calls Tryd.prog 6 #[.agg #[.int .u64 (wd0 a), .int .u64 (wd1 a), .int .u64 (wd2 a), .int .u64 (wd3 a)], .int .i64 n] w fun e w' => e = .returned (.bool true) ∧ Below w.heap.size w w' := by

  have HP0 := Lib.hid hP0
  clear hP0
  have HP2 := Lib.hid hP2
  clear hP2
  have HP5 := Lib.hid hP5
  clear hP5
  have HP6 := Lib.hid hP6
  clear hP6
  have HP7 := Lib.hid hP7
  clear hP7
  have HP10 := Lib.hid hP10
  clear hP10
  have HP11 := Lib.hid hP11
  clear hP11
  have HP13 := Lib.hid hP13
  clear hP13
  have HP14 := Lib.hid hP14
  clear hP14
  have HP15 := Lib.hid hP15
  clear hP15
  have HP16 := Lib.hid hP16
  clear hP16
  go_enter Tryd.func6, Tryd.ntmps6
  go_wp2_with fail
  first | refine calls_w ?_ | refine name_world ?_ | refine list_world ?_ | refine post_world ?_
  intro V1 hV1
  have hn : Below w.heap.size w V1 := by rw [hV1]; exact below_a1 _ _
  have nhb0 := hn
  have k1 : Blk V1 w.heap.size #[.int .u64 (wd0 a), .int .u64 (wd1 a), .int .u64 (wd2 a), .int .u64 (wd3 a)] 24 := by rw [hV1]; exact (Blk.new _ _ _)
  clear hV1
  have hb0 := nhb0
  clear nhb0
  refine (Read_v a a rfl _ia _).mono ?_
  rintro e U2 ⟨v_, rfl, hbm, hn⟩
  replace k1 := k1.of hn
  replace hb0 := hb0.trans (hn.mono hb0.size)
  clear hn
  have HB1 := Lib.hid hbm
  have hvm := hbm.shape
  clear hbm
  obtain ⟨bn1, ba1, bl1, bc1, rfl⟩ := hvm
  go_wp2_with fail
  first | refine calls_w ?_ | refine name_world ?_ | refine list_world ?_ | refine post_world ?_
  intro V3 hV3
  have D1 := Lib.hid k1.lt
  have D2 := Lib.hid hb0.size
  have hn : Below U2.heap.size U2 V3 := by rw [hV3]; exact below_a2 _ _ _
  have nk1 := k1.of hn
  replace HB1 := Lib.hid (HB1.out.of hn)
  have nhb0 := hb0.trans (hn.mono hb0.size)
  clear hn
  have k2 : Blk V3 U2.heap.size #[.bool bn1, .slice ba1 bl1 bc1] 34 := by rw [hV3]; exact ((Blk.new _ _ _).alloc _)
  have k3 : Blk V3 (U2.heap.size + 1) #[.bool bn1, .slice ba1 bl1 bc1] 34 := by rw [hV3]; exact (Blk.new1 _ _ _ _)
  clear k1
  clear hb0
  clear hV3
  have k1 := nk1
  clear nk1
  have hb0 := nhb0
  clear nhb0
  refine (bigSign_v (.agg #[.bool bn1, .slice ba1 bl1 bc1]) a 18 s HP0.out _ HB1.out).mono ?_
  rintro e U4 ⟨rfl, hn⟩
  replace k1 := k1.of hn
  replace k2 := k2.of hn
  replace k3 := k3.of hn
  replace HB1 := Lib.hid (HB1.out.of hn)
  replace hb0 := hb0.trans (hn.mono hb0.size)
  clear hn
  have c2_0 : U4.cell? ⟨U2.heap.size, 0, none⟩ = some (.bool bn1) := k2.cell 0
  have c2_1 : U4.cell? ⟨U2.heap.size, 1, none⟩ = some (.slice ba1 bl1 bc1) := k2.cell 1
  have l2 := k2.lt
  go_wp2_with fail
  clear c2_0 c2_1 l2
  refine (bigMinus_v (.agg #[.bool bn1, .slice ba1 bl1 bc1]) a m 18 HP6.out _ HB1.out).mono ?_
  rintro e U5 ⟨v_, rfl, hbm, hn⟩
  replace k1 := k1.of hn
  replace k2 := k2.of hn
  replace k3 := k3.of hn
  replace HB1 := Lib.hid (HB1.out.of hn)
  replace hb0 := hb0.trans (hn.mono hb0.size)
  clear hn
  have HB2 := Lib.hid hbm
  have hvm := hbm.shape
  clear hbm
  obtain ⟨bn2, ba2, bl2, bc2, rfl⟩ := hvm
  have c1_0 : U5.cell? ⟨w.heap.size, 0, none⟩ = some (.int .u64 (wd0 a)) := k1.cell 0
  have c1_1 : U5.cell? ⟨w.heap.size, 1, none⟩ = some (.int .u64 (wd1 a)) := k1.cell 1
  have c1_2 : U5.cell? ⟨w.heap.size, 2, none⟩ = some (.int .u64 (wd2 a)) := k1.cell 2
  have c1_3 : U5.cell? ⟨w.heap.size, 3, none⟩ = some (.int .u64 (wd3 a)) := k1.cell 3
  have l1 := k1.lt
  have c3_0 : U5.cell? ⟨(U2.heap.size + 1), 0, none⟩ = some (.bool bn1) := k3.cell 0
  have c3_1 : U5.cell? ⟨(U2.heap.size + 1), 1, none⟩ = some (.slice ba1 bl1 bc1) := k3.cell 1
  have f3_0 := k3.free 0
  have f3_1 := k3.free 1
  have l3 := k3.lt
  have p1_3 : w.heap.size ≠ (U2.heap.size + 1) := (by have := D1.out; omega)
  go_wp2_with fail
  clear c1_0 c1_1 c1_2 c1_3 l1 c3_0 c3_1 f3_0 f3_1 l3 p1_3
  first | refine calls_w ?_ | refine name_world ?_ | refine list_world ?_ | refine post_world ?_
  intro V6 hV6
  have D3 := Lib.hid k1.lt
  have D4 := Lib.hid k2.lt
  have D5 := Lib.hid k3.lt
  have D6 := Lib.hid hb0.size
  have nk1 : Blk V6 w.heap.size #[.int .u64 (wd0 a), .int .u64 (wd1 a), .int .u64 (wd2 a), .int .u64 (wd3 a)] 24 := by rw [hV6]; exact (blk_setL k1 (by have := D1.out; omega) 0 [.bool bn2, .slice ba2 bl2 bc2])
  have nk2 : Blk V6 U2.heap.size #[.bool bn1, .slice ba1 bl1 bc1] 34 := by rw [hV6]; exact (blk_setL k2 (by omega) 0 [.bool bn2, .slice ba2 bl2 bc2])
  have nk3 : Blk V6 (U2.heap.size + 1) #[.bool bn2, .slice ba2 bl2 bc2] 34 := by rw [hV6]; exact (blk_full _ [.bool bn2, .slice ba2 bl2 bc2] k3 rfl)
  have nhb0 : Below w.heap.size w V6 := by rw [hV6]; exact (blw_setL hb0 (by have := D2.out; omega) 0 [.bool bn2, .slice ba2 bl2 bc2])
  replace HB1 : Hid (Big V6 (.agg #[.bool bn1, .slice ba1 bl1 bc1]) a 18) := Lib.hid (by rw [hV6]; exact (big_setL HB1.out (Blk.cell k3 0) (fun _ h => by cases h) 0 [.bool bn2, .slice ba2 bl2 bc2]))
  replace HB2 : Hid (Big V6 (.agg #[.bool bn2, .slice ba2 bl2 bc2]) m 18) := Lib.hid (by rw [hV6]; exact (big_setL HB2.out (Blk.cell k3 0) (fun _ h => by cases h) 0 [.bool bn2, .slice ba2 bl2 bc2]))
  clear k1 k2 k3
  clear hb0
  clear hV6
  have k1 := nk1
  clear nk1
  have k2 := nk2
  clear nk2
  have k3 := nk3
  clear nk3
  have hb0 := nhb0
  clear nhb0
  refine (Bits_v a k HP2.out _ia _).mono ?_
  rintro e U7 ⟨rfl, hn⟩
  replace k1 := k1.of hn
  replace k2 := k2.of hn
  replace k3 := k3.of hn
  replace HB1 := Lib.hid (HB1.out.of hn)
  replace HB2 := Lib.hid (HB2.out.of hn)
  replace hb0 := hb0.trans (hn.mono hb0.size)
  clear hn
  go_wp2_with fail
  have c3_0 : U7.cell? ⟨(U2.heap.size + 1), 0, none⟩ = some (.bool bn2) := k3.cell 0
  have c3_1 : U7.cell? ⟨(U2.heap.size + 1), 1, none⟩ = some (.slice ba2 bl2 bc2) := k3.cell 1
  have l3 := k3.lt
  have Kk1 := Lib.hid k1
  clear k1
  have Kk2 := Lib.hid k2
  clear k2
  have Kk3 := Lib.hid k3
  clear k3
  refine wp_region_up U7.heap.size 21 [(true, 0), (true, 1), (true, 2), (true, 3), (true, 4), (true, 5), (true, 6), (true, 7), (true, 8), (false, 9), (false, 10), (true, 11), (true, 12), (true, 13), (true, 14), (true, 15), (true, 16), (true, 17), (true, 18), (true, 19), (false, 20)] (by kernel_rfl) (by kernel_rfl) (fun _ _ d _ _ h => by cases d <;> exact h) ?_
  have hb : Below U7.heap.size U7 U7.drew := (Below.refl _ _).drew
  iterate 9
    refine wpS_takeL rfl rfl ?_
    go_big_quiet_step (rfl)
    refine wpQuiet_nil ?_
  refine wpS_doL rfl ?_
  intro K hK
  go_wp2_with ((first | (go_at_call 21; (with_reducible refine (powk_v k q _ik.out HP5.out _).mono ?_); rintro e w2 ⟨v_, rfl, hbm, hn⟩; have HB3 := Lib.hid hbm; have hvm := hbm.shape; clear hbm; obtain ⟨bn3, ba3, bl3, bc3, rfl⟩ := hvm) | (go_at_call 21; (with_reducible refine (powk_v (wrap64 (k - 1)) q2 (pw_in1 _ik.out (of_decide_eq_true hP9)) HP10.out _).mono ?_); rintro e w2 ⟨v_, rfl, hbm, hn⟩; replace HB3 := Lib.hid (HB3.out.of hn); have HB4 := Lib.hid hbm; have hvm := hbm.shape; clear hbm; obtain ⟨bn4, ba4, bl4, bc4, rfl⟩ := hvm)))
  try replace hb := hb.trans (hn.mono hb.size)
  refine hK.out _ _ (up_iff.2 hb) ?_
  clear hK K
  try clear hn
  refine wpS_doL rfl ?_
  intro K hK
  go_wp2_with ((go_at_call 20; (with_reducible refine (bigCmp_v (.agg #[.bool bn2, .slice ba2 bl2 bc2]) (.agg #[.bool bn3, .slice ba3 bl3 bc3]) m q 18 18 c1 HP7.out _ (HB2.out.of hb) HB3.out).mono ?_); rintro e w2 ⟨rfl, hn⟩; replace HB3 := Lib.hid (HB3.out.of hn)))
  try replace hb := hb.trans (hn.mono hb.size)
  refine hK.out _ _ (up_iff.2 hb) ?_
  clear hK K
  try clear hn
  iterate 9
    refine wpS_takeL rfl rfl ?_
    go_big_quiet_step (rfl)
    refine wpQuiet_nil ?_
  refine wpS_doL rfl ?_
  intro K hK
  go_wp2_with ((first | (go_at_call 21; (with_reducible refine (powk_v k q _ik.out HP5.out _).mono ?_); rintro e w2 ⟨v_, rfl, hbm, hn⟩; have HB3 := Lib.hid hbm; have hvm := hbm.shape; clear hbm; obtain ⟨bn3, ba3, bl3, bc3, rfl⟩ := hvm) | (go_at_call 21; (with_reducible refine (powk_v (wrap64 (k - 1)) q2 (pw_in1 _ik.out (of_decide_eq_true hP9)) HP10.out _).mono ?_); rintro e w2 ⟨v_, rfl, hbm, hn⟩; replace HB3 := Lib.hid (HB3.out.of hn); have HB4 := Lib.hid hbm; have hvm := hbm.shape; clear hbm; obtain ⟨bn4, ba4, bl4, bc4, rfl⟩ := hvm)))
  try replace hb := hb.trans (hn.mono hb.size)
  refine hK.out _ _ (up_iff.2 hb) ?_
  clear hK K
  try clear hn
  refine wpS_nil ?_
  simp only [List.drop_succ_cons, List.drop_zero]
  first | refine calls_w ?_ | refine name_world ?_ | refine list_world ?_ | refine post_world ?_
  intro U8 hU8
  first | (subst hU8; have u_ := U8; clear u_) | (rw [← hU8] at hb; clear hU8)
  clear c3_0 c3_1 l3
  have k1 := Kk1.out.of hb
  clear Kk1
  have k2 := Kk2.out.of hb
  clear Kk2
  have k3 := Kk3.out.of hb
  clear Kk3
  replace HB1 := Lib.hid (HB1.out.of hb)
  replace HB2 := Lib.hid (HB2.out.of hb)
  replace hb0 := hb0.trans (hb.mono hb0.size)
  clear hb
  go_wp2_with fail
  refine (bigCmp_v (.agg #[.bool bn2, .slice ba2 bl2 bc2]) (.agg #[.bool bn4, .slice ba4 bl4 bc4]) m q2 18 18 c2 HP11.out _ HB2.out HB4.out).mono ?_
  rintro e U9 ⟨rfl, hn⟩
  clear HB2 HB3 HB4
  clear k3
  replace k1 := k1.of hn
  replace k2 := k2.of hn
  replace HB1 := Lib.hid (HB1.out.of hn)
  replace hb0 := hb0.trans (hn.mono hb0.size)
  clear hn
  have c1_0 : U9.cell? ⟨w.heap.size, 0, none⟩ = some (.int .u64 (wd0 a)) := k1.cell 0
  have c1_1 : U9.cell? ⟨w.heap.size, 1, none⟩ = some (.int .u64 (wd1 a)) := k1.cell 1
  have c1_2 : U9.cell? ⟨w.heap.size, 2, none⟩ = some (.int .u64 (wd2 a)) := k1.cell 2
  have c1_3 : U9.cell? ⟨w.heap.size, 3, none⟩ = some (.int .u64 (wd3 a)) := k1.cell 3
  have l1 := k1.lt
  go_wp2_with fail
  clear c1_0 c1_1 c1_2 c1_3 l1
  refine (Root_v a 0 false HP13.out HP14.out _ia _).mono ?_
  rintro e U10 ⟨rfl, hn⟩
  replace k1 := k1.of hn
  replace k2 := k2.of hn
  replace HB1 := Lib.hid (HB1.out.of hn)
  replace hb0 := hb0.trans (hn.mono hb0.size)
  clear hn
  have c2_0 : U10.cell? ⟨U2.heap.size, 0, none⟩ = some (.bool bn1) := k2.cell 0
  have c2_1 : U10.cell? ⟨U2.heap.size, 1, none⟩ = some (.slice ba1 bl1 bc1) := k2.cell 1
  have l2 := k2.lt
  go_wp2_with fail
  clear c2_0 c2_1 l2
  first | refine calls_w ?_ | refine name_world ?_ | refine list_world ?_ | refine post_world ?_
  intro V11 hV11
  have D7 := Lib.hid k1.lt
  have D8 := Lib.hid k2.lt
  have D9 := Lib.hid hb0.size
  have hn : Below U10.heap.size U10 V11 := by rw [hV11]; exact below_a1 _ _
  have nk1 := k1.of hn
  have nk2 := k2.of hn
  replace HB1 := Lib.hid (HB1.out.of hn)
  have nhb0 := hb0.trans (hn.mono hb0.size)
  clear hn
  have k4 : Blk V11 U10.heap.size #[.int .u64 (wd0 0), .int .u64 (wd1 0), .int .u64 (wd2 0), .int .u64 (wd3 0)] 24 := by rw [hV11]; exact (Blk.new _ _ _)
  clear k1 k2
  clear hb0
  clear hV11
  have k1 := nk1
  clear nk1
  have k2 := nk2
  clear nk2
  have hb0 := nhb0
  clear nhb0
  refine (bigSign_v (.agg #[.bool bn1, .slice ba1 bl1 bc1]) a 18 s HP0.out _ HB1.out).mono ?_
  rintro e U12 ⟨rfl, hn⟩
  replace k1 := k1.of hn
  replace k2 := k2.of hn
  replace k4 := k4.of hn
  replace HB1 := Lib.hid (HB1.out.of hn)
  replace hb0 := hb0.trans (hn.mono hb0.size)
  clear hn
  have c1_0 : U12.cell? ⟨w.heap.size, 0, none⟩ = some (.int .u64 (wd0 a)) := k1.cell 0
  have c1_1 : U12.cell? ⟨w.heap.size, 1, none⟩ = some (.int .u64 (wd1 a)) := k1.cell 1
  have c1_2 : U12.cell? ⟨w.heap.size, 2, none⟩ = some (.int .u64 (wd2 a)) := k1.cell 2
  have c1_3 : U12.cell? ⟨w.heap.size, 3, none⟩ = some (.int .u64 (wd3 a)) := k1.cell 3
  have l1 := k1.lt
  have c4_0 : U12.cell? ⟨U10.heap.size, 0, none⟩ = some (.int .u64 (wd0 0)) := k4.cell 0
  have c4_1 : U12.cell? ⟨U10.heap.size, 1, none⟩ = some (.int .u64 (wd1 0)) := k4.cell 1
  have c4_2 : U12.cell? ⟨U10.heap.size, 2, none⟩ = some (.int .u64 (wd2 0)) := k4.cell 2
  have c4_3 : U12.cell? ⟨U10.heap.size, 3, none⟩ = some (.int .u64 (wd3 0)) := k4.cell 3
  have l4 := k4.lt
  go_wp2_with fail
  clear c1_0 c1_1 c1_2 c1_3 l1 c4_0 c4_1 c4_2 c4_3 l4
  refine (Power_v a n 0 false HP15.out HP16.out _ia _in _).mono ?_
  rintro e U13 ⟨rfl, hn⟩
  clear k1 k4
  replace k2 := k2.of hn
  replace HB1 := Lib.hid (HB1.out.of hn)
  replace hb0 := hb0.trans (hn.mono hb0.size)
  clear hn
  go_wp2_with fail
  first | refine calls_w ?_ | refine name_world ?_ | refine list_world ?_ | refine post_world ?_
  intro V14 hV14
  have D10 := Lib.hid k2.lt
  have D11 := Lib.hid hb0.size
  have hn : Below U13.heap.size U13 V14 := by rw [hV14]; exact below_a1 _ _
  have nk2 := k2.of hn
  replace HB1 := Lib.hid (HB1.out.of hn)
  have nhb0 := hb0.trans (hn.mono hb0.size)
  clear hn
  have k5 : Blk V14 U13.heap.size #[.int .u64 (wd0 0), .int .u64 (wd1 0), .int .u64 (wd2 0), .int .u64 (wd3 0)] 24 := by rw [hV14]; exact (Blk.new _ _ _)
  clear k2
  clear hb0
  clear hV14
  have k2 := nk2
  clear nk2
  have hb0 := nhb0
  clear nhb0
  refine (bigOf_v 1 1 rfl (by unfold In64; omega) _).mono ?_
  rintro e U15 ⟨v_, rfl, hbm, hn⟩
  replace k2 := k2.of hn
  replace k5 := k5.of hn
  replace HB1 := Lib.hid (HB1.out.of hn)
  replace hb0 := hb0.trans (hn.mono hb0.size)
  clear hn
  have HB5 := Lib.hid hbm
  have hvm := hbm.shape
  clear hbm
  obtain ⟨bn5, ba5, bl5, bc5, rfl⟩ := hvm
  go_wp2_with fail
  first | refine name_world ?_
  intro V16 hV16
  have D12 := Lib.hid k2.lt
  have D13 := Lib.hid k5.lt
  have D14 := Lib.hid hb0.size
  have hn : Below U15.heap.size U15 V16 := by rw [hV16]; exact below_a1 _ _
  have nk2 := k2.of hn
  have nk5 := k5.of hn
  replace HB1 := Lib.hid (HB1.out.of hn)
  replace HB5 := Lib.hid (HB5.out.of hn)
  have nhb0 := hb0.trans (hn.mono hb0.size)
  clear hn
  have k6 : Blk V16 U15.heap.size #[.bool bn5, .slice ba5 bl5 bc5] 34 := by rw [hV16]; exact (Blk.new _ _ _)
  clear k2 k5
  clear hb0
  clear hV16
  have k2 := nk2
  clear nk2
  have k5 := nk5
  clear nk5
  have hb0 := nhb0
  clear nhb0
  go_loopg [116] (n.toNat) (fun gk_ s1_0 wr => ∃ (o : Int) (k_ : Int) (wn : Bool) (wa : Option Addr) (wl wc : Nat), s1_0 = .int .i64 k_ ∧ Hid (PwI a n o k_ ∧ n - k_ ≤ (gk_ : Int)) ∧ Blk wr U2.heap.size #[.bool bn1, .slice ba1 bl1 bc1] 34 ∧ Blk wr U13.heap.size #[.int .u64 (wd0 0), .int .u64 (wd1 0), .int .u64 (wd2 0), .int .u64 (wd3 0)] 24 ∧ Blk wr U15.heap.size #[.bool wn, .slice wa wl wc] 34 ∧ Big wr (.agg #[.bool bn1, .slice ba1 bl1 bc1]) a 18 ∧ Big wr (.agg #[.bool wn, .slice wa wl wc]) o 18 ∧ Below w.heap.size w wr)
  case atStart =>
    have HIn : PwI a n 1 0 ∧ n - 0 ≤ ((n.toNat) : Int) := by
      exact ⟨PwI.begin (by simpa using hP17) (by simpa using hP18), by omega⟩
    exact ⟨1, 0, bn5, ba5, bl5, bc5, rfl, Lib.hid HIn, k2, k5, k6, HB1.out, (HB5.out.mono (by decide)), hb0⟩
  case round =>
    rename World => W1_
    rename Nat => gk1
    clear k2 k5 k6 HB1 HB5
    clear hb0
    obtain ⟨o, k_, wn, wa, wl, wc, rfl, HI1, k2, k5, k6, HB1_, HB6_, hb0⟩ := hrel
    have HB1 := Lib.hid HB1_
    clear HB1_
    have HB6 := Lib.hid HB6_
    clear HB6_
    obtain ⟨z1, hz1⟩ : ∃ o_o : Bool, decide (k_ < n) = o_o := ⟨_, rfl⟩
    cases z1
    · exact absurd (HI1.out.1.yes (of_decide_eq_false hz1)).1 (by rw [HP16.out]; decide)
    · have c2_0 : W1_.cell? ⟨U2.heap.size, 0, none⟩ = some (.bool bn1) := k2.cell 0
      have c2_1 : W1_.cell? ⟨U2.heap.size, 1, none⟩ = some (.slice ba1 bl1 bc1) := k2.cell 1
      have l2 := k2.lt
      have c6_0 : W1_.cell? ⟨U15.heap.size, 0, none⟩ = some (.bool wn) := k6.cell 0
      have c6_1 : W1_.cell? ⟨U15.heap.size, 1, none⟩ = some (.slice wa wl wc) := k6.cell 1
      have l6 := k6.lt
      go_wp2_with fail
      clear c2_0 c2_1 l2 c6_0 c6_1 l6
      obtain ⟨r2, hr2⟩ : ∃ o_o : Int, o * a = o_o := ⟨_, rfl⟩
      have Hr2 := Lib.hid hr2
      clear hr2
      refine (bigMul_v (.agg #[.bool wn, .slice wa wl wc]) (.agg #[.bool bn1, .slice ba1 bl1 bc1]) o a r2 18 18 Hr2.out _ HB6.out HB1.out (by decide)).mono ?_
      rintro e U17 ⟨v_, rfl, hbm, hn⟩
      replace k2 := k2.of hn
      replace k5 := k5.of hn
      replace k6 := k6.of hn
      replace HB1 := Lib.hid (HB1.out.of hn)
      replace HB6 := Lib.hid (HB6.out.of hn)
      replace hb0 := hb0.trans (hn.mono hb0.size)
      clear hn
      have HB7 := Lib.hid hbm
      have hvm := hbm.shape
      clear hbm
      obtain ⟨bn7, ba7, bl7, bc7, rfl⟩ := hvm
      have c6_0 : U17.cell? ⟨U15.heap.size, 0, none⟩ = some (.bool wn) := k6.cell 0
      have c6_1 : U17.cell? ⟨U15.heap.size, 1, none⟩ = some (.slice wa wl wc) := k6.cell 1
      have f6_0 := k6.free 0
      have f6_1 := k6.free 1
      have l6 := k6.lt
      go_wp2_with fail
      clear c6_0 c6_1 f6_0 f6_1 l6
      first | refine calls_w ?_ | refine name_world ?_ | refine list_world ?_ | refine post_world ?_
      intro V18 hV18
      have D15 := Lib.hid k2.lt
      have D16 := Lib.hid k5.lt
      have D17 := Lib.hid k6.lt
      have D18 := Lib.hid hb0.size
      have nk2 : Blk V18 U2.heap.size #[.bool bn1, .slice ba1 bl1 bc1] 34 := by rw [hV18]; exact (blk_setL k2 (by have := D12.out; omega) 0 [.bool bn7, .slice ba7 bl7 bc7])
      have nk5 : Blk V18 U13.heap.size #[.int .u64 (wd0 0), .int .u64 (wd1 0), .int .u64 (wd2 0), .int .u64 (wd3 0)] 24 := by rw [hV18]; exact (blk_setL k5 (by have := D13.out; omega) 0 [.bool bn7, .slice ba7 bl7 bc7])
      have nk6 : Blk V18 U15.heap.size #[.bool bn7, .slice ba7 bl7 bc7] 34 := by rw [hV18]; exact (blk_full _ [.bool bn7, .slice ba7 bl7 bc7] k6 rfl)
      have nhb0 : Below w.heap.size w V18 := by rw [hV18]; exact (blw_setL hb0 (by have := D14.out; omega) 0 [.bool bn7, .slice ba7 bl7 bc7])
      replace HB1 : Hid (Big V18 (.agg #[.bool bn1, .slice ba1 bl1 bc1]) a 18) := Lib.hid (by rw [hV18]; exact (big_setL HB1.out (Blk.cell k6 0) (fun _ h => by cases h) 0 [.bool bn7, .slice ba7 bl7 bc7]))
      replace HB6 : Hid (Big V18 (.agg #[.bool wn, .slice wa wl wc]) o 18) := Lib.hid (by rw [hV18]; exact (big_setL HB6.out (Blk.cell k6 0) (fun _ h => by cases h) 0 [.bool bn7, .slice ba7 bl7 bc7]))
      replace HB7 : Hid (Big V18 (.agg #[.bool bn7, .slice ba7 bl7 bc7]) r2 36) := Lib.hid (by rw [hV18]; exact (big_setL HB7.out (Blk.cell k6 0) (fun _ h => by cases h) 0 [.bool bn7, .slice ba7 bl7 bc7]))
      clear k2 k5 k6
      clear hb0
      clear hV18
      have k2 := nk2
      clear nk2
      have k5 := nk5
      clear nk5
      have k6 := nk6
      clear nk6
      have hb0 := nhb0
      clear nhb0
      obtain ⟨z3, hz3⟩ : ∃ o_o : Bool, okI r2 = o_o := ⟨_, rfl⟩
      have Hz3 := Lib.hid hz3
      clear hz3
      refine (Fits_is (.agg #[.bool bn7, .slice ba7 bl7 bc7]) r2 36 z3 Hz3.out _ HB7.out).mono ?_
      rintro e U19 ⟨rfl, hn⟩
      replace k2 := k2.of hn
      replace k5 := k5.of hn
      replace k6 := k6.of hn
      replace HB1 := Lib.hid (HB1.out.of hn)
      replace HB6 := Lib.hid (HB6.out.of hn)
      replace HB7 := Lib.hid (HB7.out.of hn)
      replace hb0 := hb0.trans (hn.mono hb0.size)
      clear hn
      cases z3
      · have c5_0 : U19.cell? ⟨U13.heap.size, 0, none⟩ = some (.int .u64 (wd0 0)) := k5.cell 0
        have c5_1 : U19.cell? ⟨U13.heap.size, 1, none⟩ = some (.int .u64 (wd1 0)) := k5.cell 1
        have c5_2 : U19.cell? ⟨U13.heap.size, 2, none⟩ = some (.int .u64 (wd2 0)) := k5.cell 2
        have c5_3 : U19.cell? ⟨U13.heap.size, 3, none⟩ = some (.int .u64 (wd3 0)) := k5.cell 3
        have l5 := k5.lt
        go_wp2_with fail
        clear c5_0 c5_1 c5_2 c5_3 l5
        refine (wawake_any _ (hG.of hb0)).mono ?_
        rintro e U20 ⟨rfl, hn⟩
        replace k2 := k2.of hn
        replace k5 := k5.of hn
        replace k6 := k6.of hn
        replace HB1 := Lib.hid (HB1.out.of hn)
        replace HB6 := Lib.hid (HB6.out.of hn)
        replace HB7 := Lib.hid (HB7.out.of hn)
        replace hb0 := hb0.trans (hn.mono hb0.size)
        clear hn
        go_wp2
        first | go_ret | go_ret2
        exact ⟨by first | rfl | (simp; done) | (simp; assumption), hb0⟩
      · go_wp2_with fail
        have HIn : PwI a n r2 (wrap64 (k_ + 1)) ∧ n - (wrap64 (k_ + 1)) ≤ (((n - (wrap64 (k_ + 1))).toNat) : Int) := by
          exact ⟨HI1.out.1.nextM (of_decide_eq_true hz1) Hr2.out (by rw [Hr2.out]; exact Hz3.out), by omega⟩
        go_roundg ((n - (wrap64 (k_ + 1))).toNat)
        case measure =>
          rw [HI1.out.1.w (of_decide_eq_true hz1)]
          have q_ := of_decide_eq_true hz1
          have q2_ := HI1.out.2
          omega
        case rel => exact ⟨r2, (wrap64 (k_ + 1)), bn7, ba7, bl7, bc7, rfl, Lib.hid HIn, k2, k5, k6, HB1.out, (fit_I HB7.out (by have := Hz3.out; unfold okI at this; exact of_decide_eq_true this)), hb0⟩
end Go.Proofs.YtcfiemeknocgjaaDoor
