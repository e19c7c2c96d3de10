/- The walk of gromalaw04.awake. Conditions: the numbers are ints and numbers of 256 bits. -/
import Derived.Test.YtlcbomjdbdgbmaaCr4
import Derived.Test.YtlcbomjdbdgbmaaCr6
namespace Go.Proofs.Ytlcbomjdbdgbmaa
open Go.RowKit

def mck  : Int := 1

def mcx  : Int := 12

def mcy  : Int := 12

def mcw  : Int := 12

theorem mck_in   : In64 (mck ) := by
  unfold mck
  exact (by unfold In64; omega)

theorem mcx_in   : InI (mcx ) := by
  unfold mcx
  exact (by unfold InI b255; omega)

theorem mcy_in   : InI (mcy ) := by
  unfold mcy
  exact (by unfold InI b255; omega)

theorem mcw_in   : InI (mcw ) := by
  unfold mcw
  exact (by unfold InI b255; omega)

set_option maxRecDepth 100000 in
set_option maxHeartbeats 4000000 in

theorem Meetc_is   (R0 : Int) (R1 : Int) (R2 : Int) (R3 : Int) (hR0 : mck  = R0) (hR1 : mcx  = R1) (hR2 : mcy  = R2) (hR3 : mcw  = R3) (hP0 : sgR 0 0 3 3 = true) (hP1 : sgR 0 2 2 0 = true) (hP2 : dotB 0 0 3 3 = false) (hP3 : dotB 0 2 2 0 = false) (hP4 : slp 0 0 3 3 0 2 2 0 = 1) (hP5 : cgx 0 0 3 3 0 2 2 0 = 12) (hP6 : cgy 0 0 3 3 0 2 2 0 = 12) (hP7 : cgw 0 0 3 3 0 2 2 0 = 12) (hP8 : spR 12 12 12 = true) (hP9 : hldB 0 0 3 3 12 12 12 = true) (hP10 : hldB 0 2 2 0 12 12 12 = true)  (w : World)  :
    Calls Try.prog 49 #[.agg #[.int .i64 0, .int .i64 0, .int .i64 3, .int .i64 3], .agg #[.int .i64 0, .int .i64 2, .int .i64 2, .int .i64 0]] w fun e w' => e = .returned (.tuple #[.int .i64 R0, .agg #[.int .u64 (wd0 R1), .int .u64 (wd1 R1), .int .u64 (wd2 R1), .int .u64 (wd3 R1), .int .u64 (wd0 R2), .int .u64 (wd1 R2), .int .u64 (wd2 R2), .int .u64 (wd3 R2), .int .u64 (wd0 R3), .int .u64 (wd1 R3), .int .u64 (wd2 R3), .int .u64 (wd3 R3)]]) ∧ Below w.heap.size w w' := by

  have HP0 := Lib.hid hP0
  clear hP0
  have HP1 := Lib.hid hP1
  clear hP1
  have HP2 := Lib.hid hP2
  clear hP2
  have HP3 := Lib.hid hP3
  clear hP3
  have HP4 := Lib.hid hP4
  clear hP4
  have HP5 := Lib.hid hP5
  clear hP5
  have HP6 := Lib.hid hP6
  clear hP6
  have HP7 := Lib.hid hP7
  clear hP7
  have HP8 := Lib.hid hP8
  clear hP8
  have HP9 := Lib.hid hP9
  clear hP9
  have HP10 := Lib.hid hP10
  clear hP10
  have HR0 := Lib.hid hR0
  clear hR0
  have HR1 := Lib.hid hR1
  clear hR1
  have HR2 := Lib.hid hR2
  clear hR2
  have HR3 := Lib.hid hR3
  clear hR3
  go_enter Try.func49, Try.ntmps49
  go_wp2_with fail
  first | refine calls_w ?_ | refine name_world ?_ | refine list_world ?_ | refine post_world ?_
  intro V1 hV1
  have hn : Below w.heap.size w V1 := by rw [hV1]; exact below_a3 _ _ _ _
  have nhb0 := hn
  have k1 : Blk V1 w.heap.size #[.int .i64 0, .int .i64 0, .int .i64 3, .int .i64 3] 50 := by rw [hV1]; exact (((Blk.new _ _ _).alloc _).alloc _)
  have k2 : Blk V1 (w.heap.size + 1) #[.int .i64 0, .int .i64 2, .int .i64 2, .int .i64 0] 50 := by rw [hV1]; exact ((Blk.new1 _ _ _ _).alloc _)
  have k3 : Blk V1 (w.heap.size + 1 + 1) #[.int .u64 0, .int .u64 0, .int .u64 0, .int .u64 0, .int .u64 0, .int .u64 0, .int .u64 0, .int .u64 0, .int .u64 0, .int .u64 0, .int .u64 0, .int .u64 0] 67 := by rw [hV1]; exact (Blk.new2 _ _ _ _ _)
  clear hV1
  have hb0 := nhb0
  clear nhb0
  refine (SegRight_is 0 0 3 3 true HP0.out (by unfold In64; omega) (by unfold In64; omega) (by unfold In64; omega) (by unfold In64; omega)  _).mono ?_
  rintro e U2 ⟨rfl, hn⟩
  replace k1 := k1.of hn
  replace k2 := k2.of hn
  replace k3 := k3.of hn
  replace hb0 := hb0.trans (hn.mono hb0.size)
  clear hn
  have c2_0 : U2.cell? ⟨(w.heap.size + 1), 0, none⟩ = some (.int .i64 0) := k2.cell 0
  have c2_1 : U2.cell? ⟨(w.heap.size + 1), 1, none⟩ = some (.int .i64 2) := k2.cell 1
  have c2_2 : U2.cell? ⟨(w.heap.size + 1), 2, none⟩ = some (.int .i64 2) := k2.cell 2
  have c2_3 : U2.cell? ⟨(w.heap.size + 1), 3, none⟩ = some (.int .i64 0) := k2.cell 3
  have l2 := k2.lt
  go_wp2_with fail
  clear c2_0 c2_1 c2_2 c2_3 l2
  refine (SegRight_is 0 2 2 0 true HP1.out (by unfold In64; omega) (by unfold In64; omega) (by unfold In64; omega) (by unfold In64; omega)  _).mono ?_
  rintro e U3 ⟨rfl, hn⟩
  replace k1 := k1.of hn
  replace k2 := k2.of hn
  replace k3 := k3.of hn
  replace hb0 := hb0.trans (hn.mono hb0.size)
  clear hn
  go_wp2_with fail
  have c1_0 : U3.cell? ⟨w.heap.size, 0, none⟩ = some (.int .i64 0) := k1.cell 0
  have c1_1 : U3.cell? ⟨w.heap.size, 1, none⟩ = some (.int .i64 0) := k1.cell 1
  have c1_2 : U3.cell? ⟨w.heap.size, 2, none⟩ = some (.int .i64 3) := k1.cell 2
  have c1_3 : U3.cell? ⟨w.heap.size, 3, none⟩ = some (.int .i64 3) := k1.cell 3
  have l1 := k1.lt
  have Kk1 := Lib.hid k1
  clear k1
  have Kk2 := Lib.hid k2
  clear k2
  have Kk3 := Lib.hid k3
  clear k3
  refine wp_region_up U3.heap.size 7 [(true, 0), (false, 1), (true, 2), (true, 3), (true, 4), (true, 5), (false, 6)] (by kernel_rfl) (by kernel_rfl) (fun _ _ d _ _ h => by cases d <;> exact h) ?_
  have hb : Below U3.heap.size U3 U3.drew := (Below.refl _ _).drew
  refine wpS_takeL rfl rfl ?_
  go_big_quiet_step (rfl)
  refine wpQuiet_nil ?_
  refine wpS_doL rfl ?_
  intro K hK
  go_wp2_with ((go_at_call 101; (with_reducible refine (dot_is 0 0 3 3 false HP2.out (by unfold In64; omega) (by unfold In64; omega) (by unfold In64; omega) (by unfold In64; omega)  _).mono ?_); rintro e w2 ⟨rfl, hn⟩))
  replace hb := hb.trans (hn.mono hb.size)
  refine hK.out _ _ (up_iff.2 hb) ?_
  clear hK K
  clear hn
  iterate 4
    refine wpS_takeL rfl rfl ?_
    go_big_quiet_step (rfl)
    refine wpQuiet_nil ?_
  refine wpS_doL rfl ?_
  intro K hK
  go_wp2_with ((go_at_call 101; (with_reducible refine (dot_is 0 0 3 3 false HP2.out (by unfold In64; omega) (by unfold In64; omega) (by unfold In64; omega) (by unfold In64; omega)  _).mono ?_); rintro e w2 ⟨rfl, hn⟩))
  try replace hb := hb.trans (hn.mono hb.size)
  refine hK.out _ _ (up_iff.2 hb) ?_
  clear hK K
  try clear hn
  refine wpS_nil ?_
  simp only [List.drop_succ_cons, List.drop_zero]
  first | refine calls_w ?_ | refine name_world ?_ | refine list_world ?_ | refine post_world ?_
  intro U4 hU4
  first | subst hU4 | (rw [← hU4] at hb; clear hU4)
  clear c1_0 c1_1 c1_2 c1_3 l1
  have k1 := Kk1.out.of hb
  clear Kk1
  have k2 := Kk2.out.of hb
  clear Kk2
  have k3 := Kk3.out.of hb
  clear Kk3
  replace hb0 := hb0.trans (hb.mono hb0.size)
  clear hb
  go_wp2_with fail
  have c2_0 : U4.cell? ⟨(w.heap.size + 1), 0, none⟩ = some (.int .i64 0) := k2.cell 0
  have c2_1 : U4.cell? ⟨(w.heap.size + 1), 1, none⟩ = some (.int .i64 2) := k2.cell 1
  have c2_2 : U4.cell? ⟨(w.heap.size + 1), 2, none⟩ = some (.int .i64 2) := k2.cell 2
  have c2_3 : U4.cell? ⟨(w.heap.size + 1), 3, none⟩ = some (.int .i64 0) := k2.cell 3
  have l2 := k2.lt
  have Kk1 := Lib.hid k1
  clear k1
  have Kk2 := Lib.hid k2
  clear k2
  have Kk3 := Lib.hid k3
  clear k3
  refine wp_region_up U4.heap.size 7 [(true, 0), (false, 1), (true, 2), (true, 3), (true, 4), (true, 5), (false, 6)] (by kernel_rfl) (by kernel_rfl) (fun _ _ d _ _ h => by cases d <;> exact h) ?_
  have hb : Below U4.heap.size U4 U4.drew := (Below.refl _ _).drew
  refine wpS_takeL rfl rfl ?_
  go_big_quiet_step (rfl)
  refine wpQuiet_nil ?_
  refine wpS_doL rfl ?_
  intro K hK
  go_wp2_with ((go_at_call 101; (with_reducible refine (dot_is 0 2 2 0 false HP3.out (by unfold In64; omega) (by unfold In64; omega) (by unfold In64; omega) (by unfold In64; omega)  _).mono ?_); rintro e w2 ⟨rfl, hn⟩))
  replace hb := hb.trans (hn.mono hb.size)
  refine hK.out _ _ (up_iff.2 hb) ?_
  clear hK K
  clear hn
  iterate 4
    refine wpS_takeL rfl rfl ?_
    go_big_quiet_step (rfl)
    refine wpQuiet_nil ?_
  refine wpS_doL rfl ?_
  intro K hK
  go_wp2_with ((go_at_call 101; (with_reducible refine (dot_is 0 2 2 0 false HP3.out (by unfold In64; omega) (by unfold In64; omega) (by unfold In64; omega) (by unfold In64; omega)  _).mono ?_); rintro e w2 ⟨rfl, hn⟩))
  try replace hb := hb.trans (hn.mono hb.size)
  refine hK.out _ _ (up_iff.2 hb) ?_
  clear hK K
  try clear hn
  refine wpS_nil ?_
  simp only [List.drop_succ_cons, List.drop_zero]
  first | refine calls_w ?_ | refine name_world ?_ | refine list_world ?_ | refine post_world ?_
  intro U5 hU5
  first | subst hU5 | (rw [← hU5] at hb; clear hU5)
  clear c2_0 c2_1 c2_2 c2_3 l2
  have k1 := Kk1.out.of hb
  clear Kk1
  have k2 := Kk2.out.of hb
  clear Kk2
  have k3 := Kk3.out.of hb
  clear Kk3
  replace hb0 := hb0.trans (hb.mono hb0.size)
  clear hb
  have c1_0 : U5.cell? ⟨w.heap.size, 0, none⟩ = some (.int .i64 0) := k1.cell 0
  have c1_1 : U5.cell? ⟨w.heap.size, 1, none⟩ = some (.int .i64 0) := k1.cell 1
  have c1_2 : U5.cell? ⟨w.heap.size, 2, none⟩ = some (.int .i64 3) := k1.cell 2
  have c1_3 : U5.cell? ⟨w.heap.size, 3, none⟩ = some (.int .i64 3) := k1.cell 3
  have l1 := k1.lt
  go_wp2_with fail
  clear c1_0 c1_1 c1_2 c1_3 l1
  refine (dot_is 0 0 3 3 false HP2.out (by unfold In64; omega) (by unfold In64; omega) (by unfold In64; omega) (by unfold In64; omega)  _).mono ?_
  rintro e U6 ⟨rfl, hn⟩
  replace k1 := k1.of hn
  replace k2 := k2.of hn
  replace k3 := k3.of hn
  replace hb0 := hb0.trans (hn.mono hb0.size)
  clear hn
  have c2_0 : U6.cell? ⟨(w.heap.size + 1), 0, none⟩ = some (.int .i64 0) := k2.cell 0
  have c2_1 : U6.cell? ⟨(w.heap.size + 1), 1, none⟩ = some (.int .i64 2) := k2.cell 1
  have c2_2 : U6.cell? ⟨(w.heap.size + 1), 2, none⟩ = some (.int .i64 2) := k2.cell 2
  have c2_3 : U6.cell? ⟨(w.heap.size + 1), 3, none⟩ = some (.int .i64 0) := k2.cell 3
  have l2 := k2.lt
  go_wp2_with fail
  clear c2_0 c2_1 c2_2 c2_3 l2
  refine (dot_is 0 2 2 0 false HP3.out (by unfold In64; omega) (by unfold In64; omega) (by unfold In64; omega) (by unfold In64; omega)  _).mono ?_
  rintro e U7 ⟨rfl, hn⟩
  replace k1 := k1.of hn
  replace k2 := k2.of hn
  replace k3 := k3.of hn
  replace hb0 := hb0.trans (hn.mono hb0.size)
  clear hn
  have c1_0 : U7.cell? ⟨w.heap.size, 0, none⟩ = some (.int .i64 0) := k1.cell 0
  have c1_1 : U7.cell? ⟨w.heap.size, 1, none⟩ = some (.int .i64 0) := k1.cell 1
  have c1_2 : U7.cell? ⟨w.heap.size, 2, none⟩ = some (.int .i64 3) := k1.cell 2
  have c1_3 : U7.cell? ⟨w.heap.size, 3, none⟩ = some (.int .i64 3) := k1.cell 3
  have l1 := k1.lt
  have c2_0 : U7.cell? ⟨(w.heap.size + 1), 0, none⟩ = some (.int .i64 0) := k2.cell 0
  have c2_1 : U7.cell? ⟨(w.heap.size + 1), 1, none⟩ = some (.int .i64 2) := k2.cell 1
  have c2_2 : U7.cell? ⟨(w.heap.size + 1), 2, none⟩ = some (.int .i64 2) := k2.cell 2
  have c2_3 : U7.cell? ⟨(w.heap.size + 1), 3, none⟩ = some (.int .i64 0) := k2.cell 3
  have l2 := k2.lt
  go_wp2_with fail
  clear c1_0 c1_1 c1_2 c1_3 l1 c2_0 c2_1 c2_2 c2_3 l2
  refine (Slope_is 0 0 3 3 0 2 2 0 1 HP4.out (by unfold In64; omega) (by unfold In64; omega) (by unfold In64; omega) (by unfold In64; omega) (by unfold In64; omega) (by unfold In64; omega) (by unfold In64; omega) (by unfold In64; omega)  _).mono ?_
  rintro e U8 ⟨rfl, hn⟩
  replace k1 := k1.of hn
  replace k2 := k2.of hn
  replace k3 := k3.of hn
  replace hb0 := hb0.trans (hn.mono hb0.size)
  clear hn
  have c1_0 : U8.cell? ⟨w.heap.size, 0, none⟩ = some (.int .i64 0) := k1.cell 0
  have c1_1 : U8.cell? ⟨w.heap.size, 1, none⟩ = some (.int .i64 0) := k1.cell 1
  have c1_2 : U8.cell? ⟨w.heap.size, 2, none⟩ = some (.int .i64 3) := k1.cell 2
  have c1_3 : U8.cell? ⟨w.heap.size, 3, none⟩ = some (.int .i64 3) := k1.cell 3
  have l1 := k1.lt
  have c2_0 : U8.cell? ⟨(w.heap.size + 1), 0, none⟩ = some (.int .i64 0) := k2.cell 0
  have c2_1 : U8.cell? ⟨(w.heap.size + 1), 1, none⟩ = some (.int .i64 2) := k2.cell 1
  have c2_2 : U8.cell? ⟨(w.heap.size + 1), 2, none⟩ = some (.int .i64 2) := k2.cell 2
  have c2_3 : U8.cell? ⟨(w.heap.size + 1), 3, none⟩ = some (.int .i64 0) := k2.cell 3
  have l2 := k2.lt
  go_wp2_with fail
  clear c1_0 c1_1 c1_2 c1_3 l1 c2_0 c2_1 c2_2 c2_3 l2
  refine (Slope_is 0 0 3 3 0 2 2 0 1 HP4.out (by unfold In64; omega) (by unfold In64; omega) (by unfold In64; omega) (by unfold In64; omega) (by unfold In64; omega) (by unfold In64; omega) (by unfold In64; omega) (by unfold In64; omega)  _).mono ?_
  rintro e U9 ⟨rfl, hn⟩
  replace k1 := k1.of hn
  replace k2 := k2.of hn
  replace k3 := k3.of hn
  replace hb0 := hb0.trans (hn.mono hb0.size)
  clear hn
  have c1_0 : U9.cell? ⟨w.heap.size, 0, none⟩ = some (.int .i64 0) := k1.cell 0
  have c1_1 : U9.cell? ⟨w.heap.size, 1, none⟩ = some (.int .i64 0) := k1.cell 1
  have c1_2 : U9.cell? ⟨w.heap.size, 2, none⟩ = some (.int .i64 3) := k1.cell 2
  have c1_3 : U9.cell? ⟨w.heap.size, 3, none⟩ = some (.int .i64 3) := k1.cell 3
  have l1 := k1.lt
  have c2_0 : U9.cell? ⟨(w.heap.size + 1), 0, none⟩ = some (.int .i64 0) := k2.cell 0
  have c2_1 : U9.cell? ⟨(w.heap.size + 1), 1, none⟩ = some (.int .i64 2) := k2.cell 1
  have c2_2 : U9.cell? ⟨(w.heap.size + 1), 2, none⟩ = some (.int .i64 2) := k2.cell 2
  have c2_3 : U9.cell? ⟨(w.heap.size + 1), 3, none⟩ = some (.int .i64 0) := k2.cell 3
  have l2 := k2.lt
  go_wp2_with fail
  clear c1_0 c1_1 c1_2 c1_3 l1 c2_0 c2_1 c2_2 c2_3 l2
  refine (crossing_is 0 0 3 3 0 2 2 0 12 12 12 HP5.out HP6.out HP7.out (by unfold In64; omega) (by unfold In64; omega) (by unfold In64; omega) (by unfold In64; omega) (by unfold In64; omega) (by unfold In64; omega) (by unfold In64; omega) (by unfold In64; omega)  _).mono ?_
  rintro e U10 ⟨rfl, hn⟩
  replace k1 := k1.of hn
  replace k2 := k2.of hn
  replace k3 := k3.of hn
  replace hb0 := hb0.trans (hn.mono hb0.size)
  clear hn
  go_wp2_with fail
  first | refine calls_w ?_ | refine name_world ?_ | refine list_world ?_ | refine post_world ?_
  intro V11 hV11
  have D1 := Lib.hid k1.lt
  have D2 := Lib.hid k2.lt
  have D3 := Lib.hid k3.lt
  have D4 := Lib.hid hb0.size
  have hn : Below U10.heap.size U10 V11 := by rw [hV11]; exact below_a1 _ _
  have nk1 := k1.of hn
  have nk2 := k2.of hn
  have nk3 := k3.of hn
  have nhb0 := hb0.trans (hn.mono hb0.size)
  clear hn
  have k4 : Blk V11 U10.heap.size #[.int .u64 (wd0 12), .int .u64 (wd1 12), .int .u64 (wd2 12), .int .u64 (wd3 12), .int .u64 (wd0 12), .int .u64 (wd1 12), .int .u64 (wd2 12), .int .u64 (wd3 12), .int .u64 (wd0 12), .int .u64 (wd1 12), .int .u64 (wd2 12), .int .u64 (wd3 12)] 67 := by rw [hV11]; exact (Blk.new _ _ _)
  clear k1 k2 k3
  clear hb0
  clear hV11
  have k1 := nk1
  clear nk1
  have k2 := nk2
  clear nk2
  have k3 := nk3
  clear nk3
  have hb0 := nhb0
  clear nhb0
  refine (SpRight_is 12 12 12 true HP8.out (by unfold InI b255; omega) (by unfold InI b255; omega) (by unfold InI b255; omega)  _).mono ?_
  rintro e U12 ⟨rfl, hn⟩
  replace k1 := k1.of hn
  replace k2 := k2.of hn
  replace k3 := k3.of hn
  replace k4 := k4.of hn
  replace hb0 := hb0.trans (hn.mono hb0.size)
  clear hn
  have c1_0 : U12.cell? ⟨w.heap.size, 0, none⟩ = some (.int .i64 0) := k1.cell 0
  have c1_1 : U12.cell? ⟨w.heap.size, 1, none⟩ = some (.int .i64 0) := k1.cell 1
  have c1_2 : U12.cell? ⟨w.heap.size, 2, none⟩ = some (.int .i64 3) := k1.cell 2
  have c1_3 : U12.cell? ⟨w.heap.size, 3, none⟩ = some (.int .i64 3) := k1.cell 3
  have l1 := k1.lt
  have c4_0 : U12.cell? ⟨U10.heap.size, 0, none⟩ = some (.int .u64 (wd0 12)) := k4.cell 0
  have c4_1 : U12.cell? ⟨U10.heap.size, 1, none⟩ = some (.int .u64 (wd1 12)) := k4.cell 1
  have c4_2 : U12.cell? ⟨U10.heap.size, 2, none⟩ = some (.int .u64 (wd2 12)) := k4.cell 2
  have c4_3 : U12.cell? ⟨U10.heap.size, 3, none⟩ = some (.int .u64 (wd3 12)) := k4.cell 3
  have c4_4 : U12.cell? ⟨U10.heap.size, 4, none⟩ = some (.int .u64 (wd0 12)) := k4.cell 4
  have c4_5 : U12.cell? ⟨U10.heap.size, 5, none⟩ = some (.int .u64 (wd1 12)) := k4.cell 5
  have c4_6 : U12.cell? ⟨U10.heap.size, 6, none⟩ = some (.int .u64 (wd2 12)) := k4.cell 6
  have c4_7 : U12.cell? ⟨U10.heap.size, 7, none⟩ = some (.int .u64 (wd3 12)) := k4.cell 7
  have c4_8 : U12.cell? ⟨U10.heap.size, 8, none⟩ = some (.int .u64 (wd0 12)) := k4.cell 8
  have c4_9 : U12.cell? ⟨U10.heap.size, 9, none⟩ = some (.int .u64 (wd1 12)) := k4.cell 9
  have c4_10 : U12.cell? ⟨U10.heap.size, 10, none⟩ = some (.int .u64 (wd2 12)) := k4.cell 10
  have c4_11 : U12.cell? ⟨U10.heap.size, 11, none⟩ = some (.int .u64 (wd3 12)) := k4.cell 11
  have l4 := k4.lt
  go_wp2_with fail
  clear c1_0 c1_1 c1_2 c1_3 l1 c4_0 c4_1 c4_2 c4_3 c4_4 c4_5 c4_6 c4_7 c4_8 c4_9 c4_10 c4_11 l4
  refine (SegHolds_is 0 0 3 3 12 12 12 true HP9.out (by unfold In64; omega) (by unfold In64; omega) (by unfold In64; omega) (by unfold In64; omega) (by unfold InI b255; omega) (by unfold InI b255; omega) (by unfold InI b255; omega)  _).mono ?_
  rintro e U13 ⟨rfl, hn⟩
  clear k1
  replace k2 := k2.of hn
  replace k3 := k3.of hn
  replace k4 := k4.of hn
  replace hb0 := hb0.trans (hn.mono hb0.size)
  clear hn
  have c2_0 : U13.cell? ⟨(w.heap.size + 1), 0, none⟩ = some (.int .i64 0) := k2.cell 0
  have c2_1 : U13.cell? ⟨(w.heap.size + 1), 1, none⟩ = some (.int .i64 2) := k2.cell 1
  have c2_2 : U13.cell? ⟨(w.heap.size + 1), 2, none⟩ = some (.int .i64 2) := k2.cell 2
  have c2_3 : U13.cell? ⟨(w.heap.size + 1), 3, none⟩ = some (.int .i64 0) := k2.cell 3
  have l2 := k2.lt
  have c4_0 : U13.cell? ⟨U10.heap.size, 0, none⟩ = some (.int .u64 (wd0 12)) := k4.cell 0
  have c4_1 : U13.cell? ⟨U10.heap.size, 1, none⟩ = some (.int .u64 (wd1 12)) := k4.cell 1
  have c4_2 : U13.cell? ⟨U10.heap.size, 2, none⟩ = some (.int .u64 (wd2 12)) := k4.cell 2
  have c4_3 : U13.cell? ⟨U10.heap.size, 3, none⟩ = some (.int .u64 (wd3 12)) := k4.cell 3
  have c4_4 : U13.cell? ⟨U10.heap.size, 4, none⟩ = some (.int .u64 (wd0 12)) := k4.cell 4
  have c4_5 : U13.cell? ⟨U10.heap.size, 5, none⟩ = some (.int .u64 (wd1 12)) := k4.cell 5
  have c4_6 : U13.cell? ⟨U10.heap.size, 6, none⟩ = some (.int .u64 (wd2 12)) := k4.cell 6
  have c4_7 : U13.cell? ⟨U10.heap.size, 7, none⟩ = some (.int .u64 (wd3 12)) := k4.cell 7
  have c4_8 : U13.cell? ⟨U10.heap.size, 8, none⟩ = some (.int .u64 (wd0 12)) := k4.cell 8
  have c4_9 : U13.cell? ⟨U10.heap.size, 9, none⟩ = some (.int .u64 (wd1 12)) := k4.cell 9
  have c4_10 : U13.cell? ⟨U10.heap.size, 10, none⟩ = some (.int .u64 (wd2 12)) := k4.cell 10
  have c4_11 : U13.cell? ⟨U10.heap.size, 11, none⟩ = some (.int .u64 (wd3 12)) := k4.cell 11
  have l4 := k4.lt
  go_wp2_with fail
  clear c2_0 c2_1 c2_2 c2_3 l2 c4_0 c4_1 c4_2 c4_3 c4_4 c4_5 c4_6 c4_7 c4_8 c4_9 c4_10 c4_11 l4
  refine (SegHolds_is 0 2 2 0 12 12 12 true HP10.out (by unfold In64; omega) (by unfold In64; omega) (by unfold In64; omega) (by unfold In64; omega) (by unfold InI b255; omega) (by unfold InI b255; omega) (by unfold InI b255; omega)  _).mono ?_
  rintro e U14 ⟨rfl, hn⟩
  clear k2
  replace k3 := k3.of hn
  replace k4 := k4.of hn
  replace hb0 := hb0.trans (hn.mono hb0.size)
  clear hn
  go_wp2_with fail
  have c3_0 : U14.cell? ⟨(w.heap.size + 1 + 1), 0, none⟩ = some (.int .u64 0) := k3.cell 0
  have c3_1 : U14.cell? ⟨(w.heap.size + 1 + 1), 1, none⟩ = some (.int .u64 0) := k3.cell 1
  have c3_2 : U14.cell? ⟨(w.heap.size + 1 + 1), 2, none⟩ = some (.int .u64 0) := k3.cell 2
  have c3_3 : U14.cell? ⟨(w.heap.size + 1 + 1), 3, none⟩ = some (.int .u64 0) := k3.cell 3
  have c3_4 : U14.cell? ⟨(w.heap.size + 1 + 1), 4, none⟩ = some (.int .u64 0) := k3.cell 4
  have c3_5 : U14.cell? ⟨(w.heap.size + 1 + 1), 5, none⟩ = some (.int .u64 0) := k3.cell 5
  have c3_6 : U14.cell? ⟨(w.heap.size + 1 + 1), 6, none⟩ = some (.int .u64 0) := k3.cell 6
  have c3_7 : U14.cell? ⟨(w.heap.size + 1 + 1), 7, none⟩ = some (.int .u64 0) := k3.cell 7
  have c3_8 : U14.cell? ⟨(w.heap.size + 1 + 1), 8, none⟩ = some (.int .u64 0) := k3.cell 8
  have c3_9 : U14.cell? ⟨(w.heap.size + 1 + 1), 9, none⟩ = some (.int .u64 0) := k3.cell 9
  have c3_10 : U14.cell? ⟨(w.heap.size + 1 + 1), 10, none⟩ = some (.int .u64 0) := k3.cell 10
  have c3_11 : U14.cell? ⟨(w.heap.size + 1 + 1), 11, none⟩ = some (.int .u64 0) := k3.cell 11
  have f3_0 := k3.free 0
  have f3_1 := k3.free 1
  have f3_2 := k3.free 2
  have f3_3 := k3.free 3
  have f3_4 := k3.free 4
  have f3_5 := k3.free 5
  have f3_6 := k3.free 6
  have f3_7 := k3.free 7
  have f3_8 := k3.free 8
  have f3_9 := k3.free 9
  have f3_10 := k3.free 10
  have f3_11 := k3.free 11
  have l3 := k3.lt
  have c4_0 : U14.cell? ⟨U10.heap.size, 0, none⟩ = some (.int .u64 (wd0 12)) := k4.cell 0
  have c4_1 : U14.cell? ⟨U10.heap.size, 1, none⟩ = some (.int .u64 (wd1 12)) := k4.cell 1
  have c4_2 : U14.cell? ⟨U10.heap.size, 2, none⟩ = some (.int .u64 (wd2 12)) := k4.cell 2
  have c4_3 : U14.cell? ⟨U10.heap.size, 3, none⟩ = some (.int .u64 (wd3 12)) := k4.cell 3
  have c4_4 : U14.cell? ⟨U10.heap.size, 4, none⟩ = some (.int .u64 (wd0 12)) := k4.cell 4
  have c4_5 : U14.cell? ⟨U10.heap.size, 5, none⟩ = some (.int .u64 (wd1 12)) := k4.cell 5
  have c4_6 : U14.cell? ⟨U10.heap.size, 6, none⟩ = some (.int .u64 (wd2 12)) := k4.cell 6
  have c4_7 : U14.cell? ⟨U10.heap.size, 7, none⟩ = some (.int .u64 (wd3 12)) := k4.cell 7
  have c4_8 : U14.cell? ⟨U10.heap.size, 8, none⟩ = some (.int .u64 (wd0 12)) := k4.cell 8
  have c4_9 : U14.cell? ⟨U10.heap.size, 9, none⟩ = some (.int .u64 (wd1 12)) := k4.cell 9
  have c4_10 : U14.cell? ⟨U10.heap.size, 10, none⟩ = some (.int .u64 (wd2 12)) := k4.cell 10
  have c4_11 : U14.cell? ⟨U10.heap.size, 11, none⟩ = some (.int .u64 (wd3 12)) := k4.cell 11
  have l4 := k4.lt
  have p4_3 : U10.heap.size ≠ (w.heap.size + 1 + 1) := (by have := D3.out; omega)
  have Kk3 := Lib.hid k3
  clear k3
  have Kk4 := Lib.hid k4
  clear k4
  go_region
  first | refine name_q ?_ | refine calls_w ?_ | refine name_world ?_ | refine list_world ?_ | refine post_world ?_
  intro U15 hU15
  clear c3_0 c3_1 c3_2 c3_3 c3_4 c3_5 c3_6 c3_7 c3_8 c3_9 c3_10 c3_11 f3_0 f3_1 f3_2 f3_3 f3_4 f3_5 f3_6 f3_7 f3_8 f3_9 f3_10 f3_11 l3 c4_0 c4_1 c4_2 c4_3 c4_4 c4_5 c4_6 c4_7 c4_8 c4_9 c4_10 c4_11 l4 p4_3
  have k3 : Blk U15 (w.heap.size + 1 + 1) #[.int .u64 (wd0 12), .int .u64 (wd1 12), .int .u64 (wd2 12), .int .u64 (wd3 12), .int .u64 (wd0 12), .int .u64 (wd1 12), .int .u64 (wd2 12), .int .u64 (wd3 12), .int .u64 (wd0 12), .int .u64 (wd1 12), .int .u64 (wd2 12), .int .u64 (wd3 12)] 67 := by rw [hU15]; exact Blk.drew (blk_full _ [.int .u64 (wd0 12), .int .u64 (wd1 12), .int .u64 (wd2 12), .int .u64 (wd3 12), .int .u64 (wd0 12), .int .u64 (wd1 12), .int .u64 (wd2 12), .int .u64 (wd3 12), .int .u64 (wd0 12), .int .u64 (wd1 12), .int .u64 (wd2 12), .int .u64 (wd3 12)] Kk3.out rfl)
  clear Kk3
  have k4 : Blk U15 U10.heap.size #[.int .u64 (wd0 12), .int .u64 (wd1 12), .int .u64 (wd2 12), .int .u64 (wd3 12), .int .u64 (wd0 12), .int .u64 (wd1 12), .int .u64 (wd2 12), .int .u64 (wd3 12), .int .u64 (wd0 12), .int .u64 (wd1 12), .int .u64 (wd2 12), .int .u64 (wd3 12)] 67 := by rw [hU15]; exact Blk.drew (blk_setL Kk4.out (by have := D3.out; omega) 0 [.int .u64 (wd0 12), .int .u64 (wd1 12), .int .u64 (wd2 12), .int .u64 (wd3 12), .int .u64 (wd0 12), .int .u64 (wd1 12), .int .u64 (wd2 12), .int .u64 (wd3 12), .int .u64 (wd0 12), .int .u64 (wd1 12), .int .u64 (wd2 12), .int .u64 (wd3 12)])
  clear Kk4
  replace hb0 : Below w.heap.size w U15 := by rw [hU15]; exact Below.drew (blw_setL hb0 (by omega) 0 [.int .u64 (wd0 12), .int .u64 (wd1 12), .int .u64 (wd2 12), .int .u64 (wd3 12), .int .u64 (wd0 12), .int .u64 (wd1 12), .int .u64 (wd2 12), .int .u64 (wd3 12), .int .u64 (wd0 12), .int .u64 (wd1 12), .int .u64 (wd2 12), .int .u64 (wd3 12)])
  clear hU15
  have e0 : 1 = R0 := by rw [← HR0.out]; unfold mck; (try rw [HP0.out]); (try rw [HP1.out]); (try rw [HP2.out]); (try rw [HP3.out]); (try rw [HP4.out]); (try rw [HP5.out]); (try rw [HP6.out]); (try rw [HP7.out]); (try rw [HP8.out]); (try rw [HP9.out]); (try rw [HP10.out]); all_goals first | rfl | simp
  have e1 : 12 = R1 := by rw [← HR1.out]; unfold mcx; (try rw [HP0.out]); (try rw [HP1.out]); (try rw [HP2.out]); (try rw [HP3.out]); (try rw [HP4.out]); (try rw [HP5.out]); (try rw [HP6.out]); (try rw [HP7.out]); (try rw [HP8.out]); (try rw [HP9.out]); (try rw [HP10.out]); all_goals first | rfl | simp
  have e2 : 12 = R2 := by rw [← HR2.out]; unfold mcy; (try rw [HP0.out]); (try rw [HP1.out]); (try rw [HP2.out]); (try rw [HP3.out]); (try rw [HP4.out]); (try rw [HP5.out]); (try rw [HP6.out]); (try rw [HP7.out]); (try rw [HP8.out]); (try rw [HP9.out]); (try rw [HP10.out]); all_goals first | rfl | simp
  have e3 : 12 = R3 := by rw [← HR3.out]; unfold mcw; (try rw [HP0.out]); (try rw [HP1.out]); (try rw [HP2.out]); (try rw [HP3.out]); (try rw [HP4.out]); (try rw [HP5.out]); (try rw [HP6.out]); (try rw [HP7.out]); (try rw [HP8.out]); (try rw [HP9.out]); (try rw [HP10.out]); all_goals first | rfl | simp
  subst e0
  subst e1
  subst e2
  subst e3
  go_wp2
  have g3_0 : U15.cell? ⟨(w.heap.size + 1 + 1), 0, none⟩ = some (.int .u64 (wd0 12)) := k3.cell 0
  have g3_1 : U15.cell? ⟨(w.heap.size + 1 + 1), 1, none⟩ = some (.int .u64 (wd1 12)) := k3.cell 1
  have g3_2 : U15.cell? ⟨(w.heap.size + 1 + 1), 2, none⟩ = some (.int .u64 (wd2 12)) := k3.cell 2
  have g3_3 : U15.cell? ⟨(w.heap.size + 1 + 1), 3, none⟩ = some (.int .u64 (wd3 12)) := k3.cell 3
  have g3_4 : U15.cell? ⟨(w.heap.size + 1 + 1), 4, none⟩ = some (.int .u64 (wd0 12)) := k3.cell 4
  have g3_5 : U15.cell? ⟨(w.heap.size + 1 + 1), 5, none⟩ = some (.int .u64 (wd1 12)) := k3.cell 5
  have g3_6 : U15.cell? ⟨(w.heap.size + 1 + 1), 6, none⟩ = some (.int .u64 (wd2 12)) := k3.cell 6
  have g3_7 : U15.cell? ⟨(w.heap.size + 1 + 1), 7, none⟩ = some (.int .u64 (wd3 12)) := k3.cell 7
  have g3_8 : U15.cell? ⟨(w.heap.size + 1 + 1), 8, none⟩ = some (.int .u64 (wd0 12)) := k3.cell 8
  have g3_9 : U15.cell? ⟨(w.heap.size + 1 + 1), 9, none⟩ = some (.int .u64 (wd1 12)) := k3.cell 9
  have g3_10 : U15.cell? ⟨(w.heap.size + 1 + 1), 10, none⟩ = some (.int .u64 (wd2 12)) := k3.cell 10
  have g3_11 : U15.cell? ⟨(w.heap.size + 1 + 1), 11, none⟩ = some (.int .u64 (wd3 12)) := k3.cell 11
  clear k3 k4
  simp [bodyPost, results, Try.results49, go_sem, g3_0, g3_1, g3_2, g3_3, g3_4, g3_5, g3_6, g3_7, g3_8, g3_9, g3_10, g3_11]
  first | exact hb0 | exact ⟨rfl, hb0⟩

def cawk  : Bool := (bif ((mck ) == 1) then (bif (whk (mcx ) (mcy ) (mcw )) then (bif ((whx (mcx ) (mcy ) (mcw )) == 1) then (bif ((why (mcx ) (mcy ) (mcw )) == 1) then (bif ((spC (mcx ) (mcy ) (mcw ) (atx 1 1) (aty 1 1) (atw 1 1)) == 0) then (bif (hldB 0 0 1 1 (atx 1 1) (aty 1 1) (atw 1 1)) then (!(hldB 0 0 1 1 (atx 2 2) (aty 2 2) (atw 2 2))) else false) else false) else false) else false) else false) else false)

set_option maxRecDepth 100000 in
set_option maxHeartbeats 4000000 in

theorem cawake_is   (R0 : Bool) (hR0 : cawk  = R0)   (w : World)  :
    Calls Try.prog 54 #[] w fun e w' => e = .returned (.bool R0) ∧ Below w.heap.size w w' := by

  have HR0 := Lib.hid hR0
  clear hR0
  go_enter Try.func54, Try.ntmps54
  go_wp2_with fail
  obtain ⟨r1, hr1⟩ : ∃ o_o : Int, mck  = o_o := ⟨_, rfl⟩
  have Hr1 := Lib.hid hr1
  clear hr1
  obtain ⟨r2, hr2⟩ : ∃ o_o : Int, mcx  = o_o := ⟨_, rfl⟩
  have Hr2 := Lib.hid hr2
  clear hr2
  obtain ⟨r3, hr3⟩ : ∃ o_o : Int, mcy  = o_o := ⟨_, rfl⟩
  have Hr3 := Lib.hid hr3
  clear hr3
  obtain ⟨r4, hr4⟩ : ∃ o_o : Int, mcw  = o_o := ⟨_, rfl⟩
  have Hr4 := Lib.hid hr4
  clear hr4
  refine (Meetc_is  r1 r2 r3 r4 Hr1.out Hr2.out Hr3.out Hr4.out (by kernel_rfl) (by kernel_rfl) (by kernel_rfl) (by kernel_rfl) (by kernel_rfl) (by kernel_rfl) (by kernel_rfl) (by kernel_rfl) (by kernel_rfl) (by kernel_rfl) (by kernel_rfl)   _).mono ?_
  rintro e U1 ⟨rfl, hn⟩
  have hb0 := hn
  clear hn
  go_wp2_with fail
  first | refine calls_w ?_ | refine name_world ?_ | refine list_world ?_ | refine post_world ?_
  intro V2 hV2
  have D1 := Lib.hid hb0.size
  have hn : Below U1.heap.size U1 V2 := by rw [hV2]; exact below_a1 _ _
  have nhb0 := hb0.trans (hn.mono hb0.size)
  clear hn
  have k1 : Blk V2 U1.heap.size #[.int .u64 (wd0 r2), .int .u64 (wd1 r2), .int .u64 (wd2 r2), .int .u64 (wd3 r2), .int .u64 (wd0 r3), .int .u64 (wd1 r3), .int .u64 (wd2 r3), .int .u64 (wd3 r3), .int .u64 (wd0 r4), .int .u64 (wd1 r4), .int .u64 (wd2 r4), .int .u64 (wd3 r4)] 67 := by rw [hV2]; exact (Blk.new _ _ _)
  clear hb0
  clear hV2
  have hb0 := nhb0
  clear nhb0
  obtain ⟨r5, hr5⟩ : ∃ o_o : Int, whx r2 r3 r4 = o_o := ⟨_, rfl⟩
  have Hr5 := Lib.hid hr5
  clear hr5
  obtain ⟨r6, hr6⟩ : ∃ o_o : Int, why r2 r3 r4 = o_o := ⟨_, rfl⟩
  have Hr6 := Lib.hid hr6
  clear hr6
  obtain ⟨z7, hz7⟩ : ∃ o_o : Bool, whk r2 r3 r4 = o_o := ⟨_, rfl⟩
  have Hz7 := Lib.hid hz7
  clear hz7
  refine (Whole_is r2 r3 r4 r5 r6 z7 Hr5.out Hr6.out Hz7.out (Hr2.out ▸ mcx_in  ) (Hr3.out ▸ mcy_in  ) (Hr4.out ▸ mcw_in  )  _).mono ?_
  rintro e U3 ⟨rfl, hn⟩
  replace k1 := k1.of hn
  replace hb0 := hb0.trans (hn.mono hb0.size)
  clear hn
  go_wp2_with fail
  first | refine calls_w ?_ | refine name_world ?_ | refine list_world ?_ | refine post_world ?_
  intro V4 hV4
  have D2 := Lib.hid k1.lt
  have D3 := Lib.hid hb0.size
  have hn : Below U3.heap.size U3 V4 := by rw [hV4]; exact below_a1 _ _
  have nk1 := k1.of hn
  have nhb0 := hb0.trans (hn.mono hb0.size)
  clear hn
  have k2 : Blk V4 U3.heap.size #[.int .i64 r5, .int .i64 r6] 24 := by rw [hV4]; exact (Blk.new _ _ _)
  clear k1
  clear hb0
  clear hV4
  have k1 := nk1
  clear nk1
  have hb0 := nhb0
  clear nhb0
  obtain ⟨z8, hz8⟩ : ∃ o_o : Bool, (r1 == 1) = o_o := ⟨_, rfl⟩
  cases z8
  · have nz8 : ¬ r1 = 1 := by simpa using hz8
    have Kk1 := Lib.hid k1
    clear k1
    have Kk2 := Lib.hid k2
    clear k2
    refine wp_region_up V4.heap.size 29 [(true, 0), (true, 1), (true, 2), (true, 3), (true, 4), (true, 5), (true, 6), (true, 7), (true, 8), (true, 9), (true, 10), (true, 11), (true, 12), (false, 13), (false, 14), (true, 15), (true, 16), (true, 17), (true, 18), (true, 19), (true, 20), (false, 21), (false, 22), (true, 23), (true, 24), (true, 25), (true, 26), (true, 27), (false, 28)] (by kernel_rfl) (by kernel_rfl) (fun _ _ d _ _ h => by cases d <;> exact h) ?_
    have hb : Below V4.heap.size V4 V4.drew := (Below.refl _ _).drew
    iterate 13
      refine wpS_takeL rfl rfl ?_
      go_big_quiet_step (rfl)
      refine wpQuiet_nil ?_
    refine wpS_doL rfl ?_
    intro K hK
    go_wp2_with (fail)
    try replace hb := hb.trans (hn.mono hb.size)
    refine hK.out _ _ (up_iff.2 hb) ?_
    clear hK K
    try clear hn
    refine wpS_doL rfl ?_
    intro K hK
    go_wp2_with (fail)
    try replace hb := hb.trans (hn.mono hb.size)
    refine hK.out _ _ (up_iff.2 hb) ?_
    clear hK K
    try clear hn
    iterate 6
      refine wpS_takeL rfl rfl ?_
      go_big_quiet_step (rfl)
      refine wpQuiet_nil ?_
    refine wpS_doL rfl ?_
    intro K hK
    go_wp2_with (fail)
    try replace hb := hb.trans (hn.mono hb.size)
    refine hK.out _ _ (up_iff.2 hb) ?_
    clear hK K
    try clear hn
    refine wpS_doL rfl ?_
    intro K hK
    go_wp2_with (fail)
    try replace hb := hb.trans (hn.mono hb.size)
    refine hK.out _ _ (up_iff.2 hb) ?_
    clear hK K
    try clear hn
    iterate 5
      refine wpS_takeL rfl rfl ?_
      go_big_quiet_step (rfl)
      refine wpQuiet_nil ?_
    refine wpS_doL rfl ?_
    intro K hK
    go_wp2_with (fail)
    try replace hb := hb.trans (hn.mono hb.size)
    refine hK.out _ _ (up_iff.2 hb) ?_
    clear hK K
    try clear hn
    refine wpS_nil ?_
    simp only [List.drop_succ_cons, List.drop_zero]
    first | refine calls_w ?_ | refine name_world ?_ | refine list_world ?_ | refine post_world ?_
    intro U5 hU5
    first | subst hU5 | (rw [← hU5] at hb; clear hU5)
    have k1 := Kk1.out.of hb
    clear Kk1
    have k2 := Kk2.out.of hb
    clear Kk2
    replace hb0 := hb0.trans (hb.mono hb0.size)
    clear hb
    have e0 : false = R0 := by rw [← HR0.out]; unfold cawk; (try rw [Hr1.out]); (try rw [Hr2.out]); (try rw [Hr3.out]); (try rw [Hr4.out]); (try rw [Hr5.out]); (try rw [Hr6.out]); (try rw [Hz7.out]); (try rw [hz8]); all_goals first | rfl | simp
    subst e0
    go_wp2
    first | go_ret | go_ret2
    exact ⟨by first | rfl | simp, hb0⟩
  · obtain rfl : r1 = 1 := by simpa using hz8
    clear hz8
    cases z7
    · have Kk1 := Lib.hid k1
      clear k1
      have Kk2 := Lib.hid k2
      clear k2
      refine wp_region_up V4.heap.size 29 [(true, 0), (true, 1), (true, 2), (true, 3), (true, 4), (true, 5), (true, 6), (true, 7), (true, 8), (true, 9), (true, 10), (true, 11), (true, 12), (false, 13), (false, 14), (true, 15), (true, 16), (true, 17), (true, 18), (true, 19), (true, 20), (false, 21), (false, 22), (true, 23), (true, 24), (true, 25), (true, 26), (true, 27), (false, 28)] (by kernel_rfl) (by kernel_rfl) (fun _ _ d _ _ h => by cases d <;> exact h) ?_
      have hb : Below V4.heap.size V4 V4.drew := (Below.refl _ _).drew
      iterate 13
        refine wpS_takeL rfl rfl ?_
        go_big_quiet_step (rfl)
        refine wpQuiet_nil ?_
      refine wpS_doL rfl ?_
      intro K hK
      go_wp2_with (fail)
      try replace hb := hb.trans (hn.mono hb.size)
      refine hK.out _ _ (up_iff.2 hb) ?_
      clear hK K
      try clear hn
      refine wpS_doL rfl ?_
      intro K hK
      go_wp2_with (fail)
      try replace hb := hb.trans (hn.mono hb.size)
      refine hK.out _ _ (up_iff.2 hb) ?_
      clear hK K
      try clear hn
      iterate 6
        refine wpS_takeL rfl rfl ?_
        go_big_quiet_step (rfl)
        refine wpQuiet_nil ?_
      refine wpS_doL rfl ?_
      intro K hK
      go_wp2_with (fail)
      try replace hb := hb.trans (hn.mono hb.size)
      refine hK.out _ _ (up_iff.2 hb) ?_
      clear hK K
      try clear hn
      refine wpS_doL rfl ?_
      intro K hK
      go_wp2_with (fail)
      try replace hb := hb.trans (hn.mono hb.size)
      refine hK.out _ _ (up_iff.2 hb) ?_
      clear hK K
      try clear hn
      iterate 5
        refine wpS_takeL rfl rfl ?_
        go_big_quiet_step (rfl)
        refine wpQuiet_nil ?_
      refine wpS_doL rfl ?_
      intro K hK
      go_wp2_with (fail)
      try replace hb := hb.trans (hn.mono hb.size)
      refine hK.out _ _ (up_iff.2 hb) ?_
      clear hK K
      try clear hn
      refine wpS_nil ?_
      simp only [List.drop_succ_cons, List.drop_zero]
      first | refine calls_w ?_ | refine name_world ?_ | refine list_world ?_ | refine post_world ?_
      intro U6 hU6
      first | subst hU6 | (rw [← hU6] at hb; clear hU6)
      have k1 := Kk1.out.of hb
      clear Kk1
      have k2 := Kk2.out.of hb
      clear Kk2
      replace hb0 := hb0.trans (hb.mono hb0.size)
      clear hb
      have e0 : false = R0 := by rw [← HR0.out]; unfold cawk; (try rw [Hr1.out]); (try rw [Hr2.out]); (try rw [Hr3.out]); (try rw [Hr4.out]); (try rw [Hr5.out]); (try rw [Hr6.out]); (try rw [Hz7.out]); all_goals first | rfl | simp
      subst e0
      go_wp2
      first | go_ret | go_ret2
      exact ⟨by first | rfl | simp, hb0⟩
    · obtain ⟨z9, hz9⟩ : ∃ o_o : Bool, (r5 == 1) = o_o := ⟨_, rfl⟩
      cases z9
      · have nz9 : ¬ r5 = 1 := by simpa using hz9
        have c2_0 : V4.cell? ⟨U3.heap.size, 0, none⟩ = some (.int .i64 r5) := k2.cell 0
        have c2_1 : V4.cell? ⟨U3.heap.size, 1, none⟩ = some (.int .i64 r6) := k2.cell 1
        have l2 := k2.lt
        have Kk1 := Lib.hid k1
        clear k1
        have Kk2 := Lib.hid k2
        clear k2
        refine wp_region_up V4.heap.size 29 [(true, 0), (true, 1), (true, 2), (true, 3), (true, 4), (true, 5), (true, 6), (true, 7), (true, 8), (true, 9), (true, 10), (true, 11), (true, 12), (false, 13), (false, 14), (true, 15), (true, 16), (true, 17), (true, 18), (true, 19), (true, 20), (false, 21), (false, 22), (true, 23), (true, 24), (true, 25), (true, 26), (true, 27), (false, 28)] (by kernel_rfl) (by kernel_rfl) (fun _ _ d _ _ h => by cases d <;> exact h) ?_
        have hb : Below V4.heap.size V4 V4.drew := (Below.refl _ _).drew
        iterate 13
          refine wpS_takeL rfl rfl ?_
          go_big_quiet_step (rfl)
          refine wpQuiet_nil ?_
        refine wpS_doL rfl ?_
        intro K hK
        go_wp2_with (fail)
        try replace hb := hb.trans (hn.mono hb.size)
        refine hK.out _ _ (up_iff.2 hb) ?_
        clear hK K
        try clear hn
        refine wpS_doL rfl ?_
        intro K hK
        go_wp2_with (fail)
        try replace hb := hb.trans (hn.mono hb.size)
        refine hK.out _ _ (up_iff.2 hb) ?_
        clear hK K
        try clear hn
        iterate 6
          refine wpS_takeL rfl rfl ?_
          go_big_quiet_step (rfl)
          refine wpQuiet_nil ?_
        refine wpS_doL rfl ?_
        intro K hK
        go_wp2_with (fail)
        try replace hb := hb.trans (hn.mono hb.size)
        refine hK.out _ _ (up_iff.2 hb) ?_
        clear hK K
        try clear hn
        refine wpS_doL rfl ?_
        intro K hK
        go_wp2_with (fail)
        try replace hb := hb.trans (hn.mono hb.size)
        refine hK.out _ _ (up_iff.2 hb) ?_
        clear hK K
        try clear hn
        iterate 5
          refine wpS_takeL rfl rfl ?_
          go_big_quiet_step (rfl)
          refine wpQuiet_nil ?_
        refine wpS_doL rfl ?_
        intro K hK
        go_wp2_with (fail)
        try replace hb := hb.trans (hn.mono hb.size)
        refine hK.out _ _ (up_iff.2 hb) ?_
        clear hK K
        try clear hn
        refine wpS_nil ?_
        simp only [List.drop_succ_cons, List.drop_zero]
        first | refine calls_w ?_ | refine name_world ?_ | refine list_world ?_ | refine post_world ?_
        intro U7 hU7
        first | subst hU7 | (rw [← hU7] at hb; clear hU7)
        clear c2_0 c2_1 l2
        have k1 := Kk1.out.of hb
        clear Kk1
        have k2 := Kk2.out.of hb
        clear Kk2
        replace hb0 := hb0.trans (hb.mono hb0.size)
        clear hb
        have e0 : false = R0 := by rw [← HR0.out]; unfold cawk; (try rw [Hr1.out]); (try rw [Hr2.out]); (try rw [Hr3.out]); (try rw [Hr4.out]); (try rw [Hr5.out]); (try rw [Hr6.out]); (try rw [Hz7.out]); (try rw [hz9]); all_goals first | rfl | simp
        subst e0
        go_wp2
        first | go_ret | go_ret2
        exact ⟨by first | rfl | simp, hb0⟩
      · obtain rfl : r5 = 1 := by simpa using hz9
        clear hz9
        obtain ⟨z10, hz10⟩ : ∃ o_o : Bool, (r6 == 1) = o_o := ⟨_, rfl⟩
        cases z10
        · have nz10 : ¬ r6 = 1 := by simpa using hz10
          have c2_0 : V4.cell? ⟨U3.heap.size, 0, none⟩ = some (.int .i64 1) := k2.cell 0
          have c2_1 : V4.cell? ⟨U3.heap.size, 1, none⟩ = some (.int .i64 r6) := k2.cell 1
          have l2 := k2.lt
          have Kk1 := Lib.hid k1
          clear k1
          have Kk2 := Lib.hid k2
          clear k2
          refine wp_region_up V4.heap.size 29 [(true, 0), (true, 1), (true, 2), (true, 3), (true, 4), (true, 5), (true, 6), (true, 7), (true, 8), (true, 9), (true, 10), (true, 11), (true, 12), (false, 13), (false, 14), (true, 15), (true, 16), (true, 17), (true, 18), (true, 19), (true, 20), (false, 21), (false, 22), (true, 23), (true, 24), (true, 25), (true, 26), (true, 27), (false, 28)] (by kernel_rfl) (by kernel_rfl) (fun _ _ d _ _ h => by cases d <;> exact h) ?_
          have hb : Below V4.heap.size V4 V4.drew := (Below.refl _ _).drew
          iterate 13
            refine wpS_takeL rfl rfl ?_
            go_big_quiet_step (rfl)
            refine wpQuiet_nil ?_
          refine wpS_doL rfl ?_
          intro K hK
          go_wp2_with (fail)
          try replace hb := hb.trans (hn.mono hb.size)
          refine hK.out _ _ (up_iff.2 hb) ?_
          clear hK K
          try clear hn
          refine wpS_doL rfl ?_
          intro K hK
          go_wp2_with (fail)
          try replace hb := hb.trans (hn.mono hb.size)
          refine hK.out _ _ (up_iff.2 hb) ?_
          clear hK K
          try clear hn
          iterate 6
            refine wpS_takeL rfl rfl ?_
            go_big_quiet_step (rfl)
            refine wpQuiet_nil ?_
          refine wpS_doL rfl ?_
          intro K hK
          go_wp2_with (fail)
          try replace hb := hb.trans (hn.mono hb.size)
          refine hK.out _ _ (up_iff.2 hb) ?_
          clear hK K
          try clear hn
          refine wpS_doL rfl ?_
          intro K hK
          go_wp2_with (fail)
          try replace hb := hb.trans (hn.mono hb.size)
          refine hK.out _ _ (up_iff.2 hb) ?_
          clear hK K
          try clear hn
          iterate 5
            refine wpS_takeL rfl rfl ?_
            go_big_quiet_step (rfl)
            refine wpQuiet_nil ?_
          refine wpS_doL rfl ?_
          intro K hK
          go_wp2_with (fail)
          try replace hb := hb.trans (hn.mono hb.size)
          refine hK.out _ _ (up_iff.2 hb) ?_
          clear hK K
          try clear hn
          refine wpS_nil ?_
          simp only [List.drop_succ_cons, List.drop_zero]
          first | refine calls_w ?_ | refine name_world ?_ | refine list_world ?_ | refine post_world ?_
          intro U8 hU8
          first | subst hU8 | (rw [← hU8] at hb; clear hU8)
          clear c2_0 c2_1 l2
          have k1 := Kk1.out.of hb
          clear Kk1
          have k2 := Kk2.out.of hb
          clear Kk2
          replace hb0 := hb0.trans (hb.mono hb0.size)
          clear hb
          have e0 : false = R0 := by rw [← HR0.out]; unfold cawk; (try rw [Hr1.out]); (try rw [Hr2.out]); (try rw [Hr3.out]); (try rw [Hr4.out]); (try rw [Hr5.out]); (try rw [Hr6.out]); (try rw [Hz7.out]); (try rw [hz10]); all_goals first | rfl | simp
          subst e0
          go_wp2
          first | go_ret | go_ret2
          exact ⟨by first | rfl | simp, hb0⟩
        · obtain rfl : r6 = 1 := by simpa using hz10
          clear hz10
          obtain ⟨r11, hr11⟩ : ∃ o_o : Int, atx 1 1 = o_o := ⟨_, rfl⟩
          have Hr11 := Lib.hid hr11
          clear hr11
          obtain ⟨r12, hr12⟩ : ∃ o_o : Int, aty 1 1 = o_o := ⟨_, rfl⟩
          have Hr12 := Lib.hid hr12
          clear hr12
          obtain ⟨r13, hr13⟩ : ∃ o_o : Int, atw 1 1 = o_o := ⟨_, rfl⟩
          have Hr13 := Lib.hid hr13
          clear hr13
          obtain ⟨r14, hr14⟩ : ∃ o_o : Int, spC r2 r3 r4 r11 r12 r13 = o_o := ⟨_, rfl⟩
          have Hr14 := Lib.hid hr14
          clear hr14
          obtain ⟨z15, hz15⟩ : ∃ o_o : Bool, (r14 == 0) = o_o := ⟨_, rfl⟩
          cases z15
          · have nz15 : ¬ r14 = 0 := by simpa using hz15
            have c1_0 : V4.cell? ⟨U1.heap.size, 0, none⟩ = some (.int .u64 (wd0 r2)) := k1.cell 0
            have c1_1 : V4.cell? ⟨U1.heap.size, 1, none⟩ = some (.int .u64 (wd1 r2)) := k1.cell 1
            have c1_2 : V4.cell? ⟨U1.heap.size, 2, none⟩ = some (.int .u64 (wd2 r2)) := k1.cell 2
            have c1_3 : V4.cell? ⟨U1.heap.size, 3, none⟩ = some (.int .u64 (wd3 r2)) := k1.cell 3
            have c1_4 : V4.cell? ⟨U1.heap.size, 4, none⟩ = some (.int .u64 (wd0 r3)) := k1.cell 4
            have c1_5 : V4.cell? ⟨U1.heap.size, 5, none⟩ = some (.int .u64 (wd1 r3)) := k1.cell 5
            have c1_6 : V4.cell? ⟨U1.heap.size, 6, none⟩ = some (.int .u64 (wd2 r3)) := k1.cell 6
            have c1_7 : V4.cell? ⟨U1.heap.size, 7, none⟩ = some (.int .u64 (wd3 r3)) := k1.cell 7
            have c1_8 : V4.cell? ⟨U1.heap.size, 8, none⟩ = some (.int .u64 (wd0 r4)) := k1.cell 8
            have c1_9 : V4.cell? ⟨U1.heap.size, 9, none⟩ = some (.int .u64 (wd1 r4)) := k1.cell 9
            have c1_10 : V4.cell? ⟨U1.heap.size, 10, none⟩ = some (.int .u64 (wd2 r4)) := k1.cell 10
            have c1_11 : V4.cell? ⟨U1.heap.size, 11, none⟩ = some (.int .u64 (wd3 r4)) := k1.cell 11
            have l1 := k1.lt
            have c2_0 : V4.cell? ⟨U3.heap.size, 0, none⟩ = some (.int .i64 1) := k2.cell 0
            have c2_1 : V4.cell? ⟨U3.heap.size, 1, none⟩ = some (.int .i64 1) := k2.cell 1
            have l2 := k2.lt
            have Kk1 := Lib.hid k1
            clear k1
            have Kk2 := Lib.hid k2
            clear k2
            refine wp_region_up V4.heap.size 29 [(true, 0), (true, 1), (true, 2), (true, 3), (true, 4), (true, 5), (true, 6), (true, 7), (true, 8), (true, 9), (true, 10), (true, 11), (true, 12), (false, 13), (false, 14), (true, 15), (true, 16), (true, 17), (true, 18), (true, 19), (true, 20), (false, 21), (false, 22), (true, 23), (true, 24), (true, 25), (true, 26), (true, 27), (false, 28)] (by kernel_rfl) (by kernel_rfl) (fun _ _ d _ _ h => by cases d <;> exact h) ?_
            have hb : Below V4.heap.size V4 V4.drew := (Below.refl _ _).drew
            iterate 13
              refine wpS_takeL rfl rfl ?_
              go_big_quiet_step (rfl)
              refine wpQuiet_nil ?_
            refine wpS_doL rfl ?_
            intro K hK
            go_wp2_with ((first | (go_at_call 47; (with_reducible refine (crAt_is 1 1 r11 r12 r13 Hr11.out Hr12.out Hr13.out (by unfold In64; omega) (by unfold In64; omega)  _).mono ?_); rintro e w2 ⟨rfl, hn⟩) | (go_at_call 58; (with_reducible refine (SpCmp_is r2 r3 r4 r11 r12 r13 r14 Hr14.out (Hr2.out ▸ mcx_in  ) (Hr3.out ▸ mcy_in  ) (Hr4.out ▸ mcw_in  ) (Hr11.out ▸ atx_in 1 1 (by unfold In64; omega) (by unfold In64; omega)) (Hr12.out ▸ aty_in 1 1 (by unfold In64; omega) (by unfold In64; omega)) (Hr13.out ▸ atw_in 1 1 (by unfold In64; omega) (by unfold In64; omega))  _).mono ?_); rintro e w2 ⟨rfl, hn⟩)))
            try replace hb := hb.trans (hn.mono hb.size)
            refine hK.out _ _ (up_iff.2 hb) ?_
            clear hK K
            try clear hn
            refine wpS_doL rfl ?_
            intro K hK
            go_wp2_with ((first | (go_at_call 47; (with_reducible refine (crAt_is 1 1 r11 r12 r13 Hr11.out Hr12.out Hr13.out (by unfold In64; omega) (by unfold In64; omega)  _).mono ?_); rintro e w2 ⟨rfl, hn⟩) | (go_at_call 58; (with_reducible refine (SpCmp_is r2 r3 r4 r11 r12 r13 r14 Hr14.out (Hr2.out ▸ mcx_in  ) (Hr3.out ▸ mcy_in  ) (Hr4.out ▸ mcw_in  ) (Hr11.out ▸ atx_in 1 1 (by unfold In64; omega) (by unfold In64; omega)) (Hr12.out ▸ aty_in 1 1 (by unfold In64; omega) (by unfold In64; omega)) (Hr13.out ▸ atw_in 1 1 (by unfold In64; omega) (by unfold In64; omega))  _).mono ?_); rintro e w2 ⟨rfl, hn⟩)))
            try replace hb := hb.trans (hn.mono hb.size)
            refine hK.out _ _ (up_iff.2 hb) ?_
            clear hK K
            try clear hn
            iterate 6
              refine wpS_takeL rfl rfl ?_
              go_big_quiet_step (rfl)
              refine wpQuiet_nil ?_
            refine wpS_doL rfl ?_
            intro K hK
            go_wp2_with ((first | (go_at_call 47; (with_reducible refine (crAt_is 1 1 r11 r12 r13 Hr11.out Hr12.out Hr13.out (by unfold In64; omega) (by unfold In64; omega)  _).mono ?_); rintro e w2 ⟨rfl, hn⟩) | (go_at_call 58; (with_reducible refine (SpCmp_is r2 r3 r4 r11 r12 r13 r14 Hr14.out (Hr2.out ▸ mcx_in  ) (Hr3.out ▸ mcy_in  ) (Hr4.out ▸ mcw_in  ) (Hr11.out ▸ atx_in 1 1 (by unfold In64; omega) (by unfold In64; omega)) (Hr12.out ▸ aty_in 1 1 (by unfold In64; omega) (by unfold In64; omega)) (Hr13.out ▸ atw_in 1 1 (by unfold In64; omega) (by unfold In64; omega))  _).mono ?_); rintro e w2 ⟨rfl, hn⟩)))
            try replace hb := hb.trans (hn.mono hb.size)
            refine hK.out _ _ (up_iff.2 hb) ?_
            clear hK K
            try clear hn
            refine wpS_doL rfl ?_
            intro K hK
            go_wp2_with ((first | (go_at_call 47; (with_reducible refine (crAt_is 1 1 r11 r12 r13 Hr11.out Hr12.out Hr13.out (by unfold In64; omega) (by unfold In64; omega)  _).mono ?_); rintro e w2 ⟨rfl, hn⟩) | (go_at_call 58; (with_reducible refine (SpCmp_is r2 r3 r4 r11 r12 r13 r14 Hr14.out (Hr2.out ▸ mcx_in  ) (Hr3.out ▸ mcy_in  ) (Hr4.out ▸ mcw_in  ) (Hr11.out ▸ atx_in 1 1 (by unfold In64; omega) (by unfold In64; omega)) (Hr12.out ▸ aty_in 1 1 (by unfold In64; omega) (by unfold In64; omega)) (Hr13.out ▸ atw_in 1 1 (by unfold In64; omega) (by unfold In64; omega))  _).mono ?_); rintro e w2 ⟨rfl, hn⟩)))
            try replace hb := hb.trans (hn.mono hb.size)
            refine hK.out _ _ (up_iff.2 hb) ?_
            clear hK K
            try clear hn
            iterate 5
              refine wpS_takeL rfl rfl ?_
              go_big_quiet_step (rfl)
              refine wpQuiet_nil ?_
            refine wpS_doL rfl ?_
            intro K hK
            go_wp2_with ((first | (go_at_call 47; (with_reducible refine (crAt_is 1 1 r11 r12 r13 Hr11.out Hr12.out Hr13.out (by unfold In64; omega) (by unfold In64; omega)  _).mono ?_); rintro e w2 ⟨rfl, hn⟩) | (go_at_call 58; (with_reducible refine (SpCmp_is r2 r3 r4 r11 r12 r13 r14 Hr14.out (Hr2.out ▸ mcx_in  ) (Hr3.out ▸ mcy_in  ) (Hr4.out ▸ mcw_in  ) (Hr11.out ▸ atx_in 1 1 (by unfold In64; omega) (by unfold In64; omega)) (Hr12.out ▸ aty_in 1 1 (by unfold In64; omega) (by unfold In64; omega)) (Hr13.out ▸ atw_in 1 1 (by unfold In64; omega) (by unfold In64; omega))  _).mono ?_); rintro e w2 ⟨rfl, hn⟩)))
            try replace hb := hb.trans (hn.mono hb.size)
            refine hK.out _ _ (up_iff.2 hb) ?_
            clear hK K
            try clear hn
            refine wpS_nil ?_
            simp only [List.drop_succ_cons, List.drop_zero]
            first | refine calls_w ?_ | refine name_world ?_ | refine list_world ?_ | refine post_world ?_
            intro U9 hU9
            first | subst hU9 | (rw [← hU9] at hb; clear hU9)
            clear c1_0 c1_1 c1_2 c1_3 c1_4 c1_5 c1_6 c1_7 c1_8 c1_9 c1_10 c1_11 l1 c2_0 c2_1 l2
            have k1 := Kk1.out.of hb
            clear Kk1
            have k2 := Kk2.out.of hb
            clear Kk2
            replace hb0 := hb0.trans (hb.mono hb0.size)
            clear hb
            have e0 : false = R0 := by rw [← HR0.out]; unfold cawk; (try rw [Hr1.out]); (try rw [Hr2.out]); (try rw [Hr3.out]); (try rw [Hr4.out]); (try rw [Hr5.out]); (try rw [Hr6.out]); (try rw [Hz7.out]); (try rw [Hr11.out]); (try rw [Hr12.out]); (try rw [Hr13.out]); (try rw [Hr14.out]); (try rw [hz15]); all_goals first | rfl | simp
            subst e0
            go_wp2
            first | go_ret | go_ret2
            exact ⟨by first | rfl | simp, hb0⟩
          · obtain rfl : r14 = 0 := by simpa using hz15
            clear hz15
            obtain ⟨z16, hz16⟩ : ∃ o_o : Bool, hldB 0 0 1 1 r11 r12 r13 = o_o := ⟨_, rfl⟩
            have Hz16 := Lib.hid hz16
            clear hz16
            cases z16
            · have c1_0 : V4.cell? ⟨U1.heap.size, 0, none⟩ = some (.int .u64 (wd0 r2)) := k1.cell 0
              have c1_1 : V4.cell? ⟨U1.heap.size, 1, none⟩ = some (.int .u64 (wd1 r2)) := k1.cell 1
              have c1_2 : V4.cell? ⟨U1.heap.size, 2, none⟩ = some (.int .u64 (wd2 r2)) := k1.cell 2
              have c1_3 : V4.cell? ⟨U1.heap.size, 3, none⟩ = some (.int .u64 (wd3 r2)) := k1.cell 3
              have c1_4 : V4.cell? ⟨U1.heap.size, 4, none⟩ = some (.int .u64 (wd0 r3)) := k1.cell 4
              have c1_5 : V4.cell? ⟨U1.heap.size, 5, none⟩ = some (.int .u64 (wd1 r3)) := k1.cell 5
              have c1_6 : V4.cell? ⟨U1.heap.size, 6, none⟩ = some (.int .u64 (wd2 r3)) := k1.cell 6
              have c1_7 : V4.cell? ⟨U1.heap.size, 7, none⟩ = some (.int .u64 (wd3 r3)) := k1.cell 7
              have c1_8 : V4.cell? ⟨U1.heap.size, 8, none⟩ = some (.int .u64 (wd0 r4)) := k1.cell 8
              have c1_9 : V4.cell? ⟨U1.heap.size, 9, none⟩ = some (.int .u64 (wd1 r4)) := k1.cell 9
              have c1_10 : V4.cell? ⟨U1.heap.size, 10, none⟩ = some (.int .u64 (wd2 r4)) := k1.cell 10
              have c1_11 : V4.cell? ⟨U1.heap.size, 11, none⟩ = some (.int .u64 (wd3 r4)) := k1.cell 11
              have l1 := k1.lt
              have c2_0 : V4.cell? ⟨U3.heap.size, 0, none⟩ = some (.int .i64 1) := k2.cell 0
              have c2_1 : V4.cell? ⟨U3.heap.size, 1, none⟩ = some (.int .i64 1) := k2.cell 1
              have l2 := k2.lt
              have Kk1 := Lib.hid k1
              clear k1
              have Kk2 := Lib.hid k2
              clear k2
              refine wp_region_up V4.heap.size 29 [(true, 0), (true, 1), (true, 2), (true, 3), (true, 4), (true, 5), (true, 6), (true, 7), (true, 8), (true, 9), (true, 10), (true, 11), (true, 12), (false, 13), (false, 14), (true, 15), (true, 16), (true, 17), (true, 18), (true, 19), (true, 20), (false, 21), (false, 22), (true, 23), (true, 24), (true, 25), (true, 26), (true, 27), (false, 28)] (by kernel_rfl) (by kernel_rfl) (fun _ _ d _ _ h => by cases d <;> exact h) ?_
              have hb : Below V4.heap.size V4 V4.drew := (Below.refl _ _).drew
              iterate 13
                refine wpS_takeL rfl rfl ?_
                go_big_quiet_step (rfl)
                refine wpQuiet_nil ?_
              refine wpS_doL rfl ?_
              intro K hK
              go_wp2_with ((first | (go_at_call 47; (with_reducible refine (crAt_is 1 1 r11 r12 r13 Hr11.out Hr12.out Hr13.out (by unfold In64; omega) (by unfold In64; omega)  _).mono ?_); rintro e w2 ⟨rfl, hn⟩) | (go_at_call 58; (with_reducible refine (SpCmp_is r2 r3 r4 r11 r12 r13 0 Hr14.out (Hr2.out ▸ mcx_in  ) (Hr3.out ▸ mcy_in  ) (Hr4.out ▸ mcw_in  ) (Hr11.out ▸ atx_in 1 1 (by unfold In64; omega) (by unfold In64; omega)) (Hr12.out ▸ aty_in 1 1 (by unfold In64; omega) (by unfold In64; omega)) (Hr13.out ▸ atw_in 1 1 (by unfold In64; omega) (by unfold In64; omega))  _).mono ?_); rintro e w2 ⟨rfl, hn⟩) | (go_at_call 70; (with_reducible refine (SegHolds_is 0 0 1 1 r11 r12 r13 false Hz16.out (by unfold In64; omega) (by unfold In64; omega) (by unfold In64; omega) (by unfold In64; omega) (Hr11.out ▸ atx_in 1 1 (by unfold In64; omega) (by unfold In64; omega)) (Hr12.out ▸ aty_in 1 1 (by unfold In64; omega) (by unfold In64; omega)) (Hr13.out ▸ atw_in 1 1 (by unfold In64; omega) (by unfold In64; omega))  _).mono ?_); rintro e w2 ⟨rfl, hn⟩)))
              try replace hb := hb.trans (hn.mono hb.size)
              refine hK.out _ _ (up_iff.2 hb) ?_
              clear hK K
              try clear hn
              refine wpS_doL rfl ?_
              intro K hK
              go_wp2_with ((first | (go_at_call 47; (with_reducible refine (crAt_is 1 1 r11 r12 r13 Hr11.out Hr12.out Hr13.out (by unfold In64; omega) (by unfold In64; omega)  _).mono ?_); rintro e w2 ⟨rfl, hn⟩) | (go_at_call 58; (with_reducible refine (SpCmp_is r2 r3 r4 r11 r12 r13 0 Hr14.out (Hr2.out ▸ mcx_in  ) (Hr3.out ▸ mcy_in  ) (Hr4.out ▸ mcw_in  ) (Hr11.out ▸ atx_in 1 1 (by unfold In64; omega) (by unfold In64; omega)) (Hr12.out ▸ aty_in 1 1 (by unfold In64; omega) (by unfold In64; omega)) (Hr13.out ▸ atw_in 1 1 (by unfold In64; omega) (by unfold In64; omega))  _).mono ?_); rintro e w2 ⟨rfl, hn⟩) | (go_at_call 70; (with_reducible refine (SegHolds_is 0 0 1 1 r11 r12 r13 false Hz16.out (by unfold In64; omega) (by unfold In64; omega) (by unfold In64; omega) (by unfold In64; omega) (Hr11.out ▸ atx_in 1 1 (by unfold In64; omega) (by unfold In64; omega)) (Hr12.out ▸ aty_in 1 1 (by unfold In64; omega) (by unfold In64; omega)) (Hr13.out ▸ atw_in 1 1 (by unfold In64; omega) (by unfold In64; omega))  _).mono ?_); rintro e w2 ⟨rfl, hn⟩)))
              try replace hb := hb.trans (hn.mono hb.size)
              refine hK.out _ _ (up_iff.2 hb) ?_
              clear hK K
              try clear hn
              iterate 6
                refine wpS_takeL rfl rfl ?_
                go_big_quiet_step (rfl)
                refine wpQuiet_nil ?_
              refine wpS_doL rfl ?_
              intro K hK
              go_wp2_with ((first | (go_at_call 47; (with_reducible refine (crAt_is 1 1 r11 r12 r13 Hr11.out Hr12.out Hr13.out (by unfold In64; omega) (by unfold In64; omega)  _).mono ?_); rintro e w2 ⟨rfl, hn⟩) | (go_at_call 58; (with_reducible refine (SpCmp_is r2 r3 r4 r11 r12 r13 0 Hr14.out (Hr2.out ▸ mcx_in  ) (Hr3.out ▸ mcy_in  ) (Hr4.out ▸ mcw_in  ) (Hr11.out ▸ atx_in 1 1 (by unfold In64; omega) (by unfold In64; omega)) (Hr12.out ▸ aty_in 1 1 (by unfold In64; omega) (by unfold In64; omega)) (Hr13.out ▸ atw_in 1 1 (by unfold In64; omega) (by unfold In64; omega))  _).mono ?_); rintro e w2 ⟨rfl, hn⟩) | (go_at_call 70; (with_reducible refine (SegHolds_is 0 0 1 1 r11 r12 r13 false Hz16.out (by unfold In64; omega) (by unfold In64; omega) (by unfold In64; omega) (by unfold In64; omega) (Hr11.out ▸ atx_in 1 1 (by unfold In64; omega) (by unfold In64; omega)) (Hr12.out ▸ aty_in 1 1 (by unfold In64; omega) (by unfold In64; omega)) (Hr13.out ▸ atw_in 1 1 (by unfold In64; omega) (by unfold In64; omega))  _).mono ?_); rintro e w2 ⟨rfl, hn⟩)))
              try replace hb := hb.trans (hn.mono hb.size)
              refine hK.out _ _ (up_iff.2 hb) ?_
              clear hK K
              try clear hn
              refine wpS_doL rfl ?_
              intro K hK
              go_wp2_with ((first | (go_at_call 47; (with_reducible refine (crAt_is 1 1 r11 r12 r13 Hr11.out Hr12.out Hr13.out (by unfold In64; omega) (by unfold In64; omega)  _).mono ?_); rintro e w2 ⟨rfl, hn⟩) | (go_at_call 58; (with_reducible refine (SpCmp_is r2 r3 r4 r11 r12 r13 0 Hr14.out (Hr2.out ▸ mcx_in  ) (Hr3.out ▸ mcy_in  ) (Hr4.out ▸ mcw_in  ) (Hr11.out ▸ atx_in 1 1 (by unfold In64; omega) (by unfold In64; omega)) (Hr12.out ▸ aty_in 1 1 (by unfold In64; omega) (by unfold In64; omega)) (Hr13.out ▸ atw_in 1 1 (by unfold In64; omega) (by unfold In64; omega))  _).mono ?_); rintro e w2 ⟨rfl, hn⟩) | (go_at_call 70; (with_reducible refine (SegHolds_is 0 0 1 1 r11 r12 r13 false Hz16.out (by unfold In64; omega) (by unfold In64; omega) (by unfold In64; omega) (by unfold In64; omega) (Hr11.out ▸ atx_in 1 1 (by unfold In64; omega) (by unfold In64; omega)) (Hr12.out ▸ aty_in 1 1 (by unfold In64; omega) (by unfold In64; omega)) (Hr13.out ▸ atw_in 1 1 (by unfold In64; omega) (by unfold In64; omega))  _).mono ?_); rintro e w2 ⟨rfl, hn⟩)))
              try replace hb := hb.trans (hn.mono hb.size)
              refine hK.out _ _ (up_iff.2 hb) ?_
              clear hK K
              try clear hn
              iterate 5
                refine wpS_takeL rfl rfl ?_
                go_big_quiet_step (rfl)
                refine wpQuiet_nil ?_
              refine wpS_doL rfl ?_
              intro K hK
              go_wp2_with ((first | (go_at_call 47; (with_reducible refine (crAt_is 1 1 r11 r12 r13 Hr11.out Hr12.out Hr13.out (by unfold In64; omega) (by unfold In64; omega)  _).mono ?_); rintro e w2 ⟨rfl, hn⟩) | (go_at_call 58; (with_reducible refine (SpCmp_is r2 r3 r4 r11 r12 r13 0 Hr14.out (Hr2.out ▸ mcx_in  ) (Hr3.out ▸ mcy_in  ) (Hr4.out ▸ mcw_in  ) (Hr11.out ▸ atx_in 1 1 (by unfold In64; omega) (by unfold In64; omega)) (Hr12.out ▸ aty_in 1 1 (by unfold In64; omega) (by unfold In64; omega)) (Hr13.out ▸ atw_in 1 1 (by unfold In64; omega) (by unfold In64; omega))  _).mono ?_); rintro e w2 ⟨rfl, hn⟩) | (go_at_call 70; (with_reducible refine (SegHolds_is 0 0 1 1 r11 r12 r13 false Hz16.out (by unfold In64; omega) (by unfold In64; omega) (by unfold In64; omega) (by unfold In64; omega) (Hr11.out ▸ atx_in 1 1 (by unfold In64; omega) (by unfold In64; omega)) (Hr12.out ▸ aty_in 1 1 (by unfold In64; omega) (by unfold In64; omega)) (Hr13.out ▸ atw_in 1 1 (by unfold In64; omega) (by unfold In64; omega))  _).mono ?_); rintro e w2 ⟨rfl, hn⟩)))
              try replace hb := hb.trans (hn.mono hb.size)
              refine hK.out _ _ (up_iff.2 hb) ?_
              clear hK K
              try clear hn
              refine wpS_nil ?_
              simp only [List.drop_succ_cons, List.drop_zero]
              first | refine calls_w ?_ | refine name_world ?_ | refine list_world ?_ | refine post_world ?_
              intro U10 hU10
              first | subst hU10 | (rw [← hU10] at hb; clear hU10)
              clear c1_0 c1_1 c1_2 c1_3 c1_4 c1_5 c1_6 c1_7 c1_8 c1_9 c1_10 c1_11 l1 c2_0 c2_1 l2
              have k1 := Kk1.out.of hb
              clear Kk1
              have k2 := Kk2.out.of hb
              clear Kk2
              replace hb0 := hb0.trans (hb.mono hb0.size)
              clear hb
              have e0 : false = R0 := by rw [← HR0.out]; unfold cawk; (try rw [Hr1.out]); (try rw [Hr2.out]); (try rw [Hr3.out]); (try rw [Hr4.out]); (try rw [Hr5.out]); (try rw [Hr6.out]); (try rw [Hz7.out]); (try rw [Hr11.out]); (try rw [Hr12.out]); (try rw [Hr13.out]); (try rw [Hr14.out]); (try rw [Hz16.out]); all_goals first | rfl | simp
              subst e0
              go_wp2
              first | go_ret | go_ret2
              exact ⟨by first | rfl | simp, hb0⟩
            · obtain ⟨r17, hr17⟩ : ∃ o_o : Int, atx 2 2 = o_o := ⟨_, rfl⟩
              have Hr17 := Lib.hid hr17
              clear hr17
              obtain ⟨r18, hr18⟩ : ∃ o_o : Int, aty 2 2 = o_o := ⟨_, rfl⟩
              have Hr18 := Lib.hid hr18
              clear hr18
              obtain ⟨r19, hr19⟩ : ∃ o_o : Int, atw 2 2 = o_o := ⟨_, rfl⟩
              have Hr19 := Lib.hid hr19
              clear hr19
              have c1_0 : V4.cell? ⟨U1.heap.size, 0, none⟩ = some (.int .u64 (wd0 r2)) := k1.cell 0
              have c1_1 : V4.cell? ⟨U1.heap.size, 1, none⟩ = some (.int .u64 (wd1 r2)) := k1.cell 1
              have c1_2 : V4.cell? ⟨U1.heap.size, 2, none⟩ = some (.int .u64 (wd2 r2)) := k1.cell 2
              have c1_3 : V4.cell? ⟨U1.heap.size, 3, none⟩ = some (.int .u64 (wd3 r2)) := k1.cell 3
              have c1_4 : V4.cell? ⟨U1.heap.size, 4, none⟩ = some (.int .u64 (wd0 r3)) := k1.cell 4
              have c1_5 : V4.cell? ⟨U1.heap.size, 5, none⟩ = some (.int .u64 (wd1 r3)) := k1.cell 5
              have c1_6 : V4.cell? ⟨U1.heap.size, 6, none⟩ = some (.int .u64 (wd2 r3)) := k1.cell 6
              have c1_7 : V4.cell? ⟨U1.heap.size, 7, none⟩ = some (.int .u64 (wd3 r3)) := k1.cell 7
              have c1_8 : V4.cell? ⟨U1.heap.size, 8, none⟩ = some (.int .u64 (wd0 r4)) := k1.cell 8
              have c1_9 : V4.cell? ⟨U1.heap.size, 9, none⟩ = some (.int .u64 (wd1 r4)) := k1.cell 9
              have c1_10 : V4.cell? ⟨U1.heap.size, 10, none⟩ = some (.int .u64 (wd2 r4)) := k1.cell 10
              have c1_11 : V4.cell? ⟨U1.heap.size, 11, none⟩ = some (.int .u64 (wd3 r4)) := k1.cell 11
              have l1 := k1.lt
              have c2_0 : V4.cell? ⟨U3.heap.size, 0, none⟩ = some (.int .i64 1) := k2.cell 0
              have c2_1 : V4.cell? ⟨U3.heap.size, 1, none⟩ = some (.int .i64 1) := k2.cell 1
              have l2 := k2.lt
              have Kk1 := Lib.hid k1
              clear k1
              have Kk2 := Lib.hid k2
              clear k2
              refine wp_region_up V4.heap.size 29 [(true, 0), (true, 1), (true, 2), (true, 3), (true, 4), (true, 5), (true, 6), (true, 7), (true, 8), (true, 9), (true, 10), (true, 11), (true, 12), (false, 13), (false, 14), (true, 15), (true, 16), (true, 17), (true, 18), (true, 19), (true, 20), (false, 21), (false, 22), (true, 23), (true, 24), (true, 25), (true, 26), (true, 27), (false, 28)] (by kernel_rfl) (by kernel_rfl) (fun _ _ d _ _ h => by cases d <;> exact h) ?_
              have hb : Below V4.heap.size V4 V4.drew := (Below.refl _ _).drew
              iterate 13
                refine wpS_takeL rfl rfl ?_
                go_big_quiet_step (rfl)
                refine wpQuiet_nil ?_
              refine wpS_doL rfl ?_
              intro K hK
              go_wp2_with ((first | (go_at_call 47; (with_reducible refine (crAt_is 1 1 r11 r12 r13 Hr11.out Hr12.out Hr13.out (by unfold In64; omega) (by unfold In64; omega)  _).mono ?_); rintro e w2 ⟨rfl, hn⟩) | (go_at_call 58; (with_reducible refine (SpCmp_is r2 r3 r4 r11 r12 r13 0 Hr14.out (Hr2.out ▸ mcx_in  ) (Hr3.out ▸ mcy_in  ) (Hr4.out ▸ mcw_in  ) (Hr11.out ▸ atx_in 1 1 (by unfold In64; omega) (by unfold In64; omega)) (Hr12.out ▸ aty_in 1 1 (by unfold In64; omega) (by unfold In64; omega)) (Hr13.out ▸ atw_in 1 1 (by unfold In64; omega) (by unfold In64; omega))  _).mono ?_); rintro e w2 ⟨rfl, hn⟩) | (go_at_call 70; (with_reducible refine (SegHolds_is 0 0 1 1 r11 r12 r13 true Hz16.out (by unfold In64; omega) (by unfold In64; omega) (by unfold In64; omega) (by unfold In64; omega) (Hr11.out ▸ atx_in 1 1 (by unfold In64; omega) (by unfold In64; omega)) (Hr12.out ▸ aty_in 1 1 (by unfold In64; omega) (by unfold In64; omega)) (Hr13.out ▸ atw_in 1 1 (by unfold In64; omega) (by unfold In64; omega))  _).mono ?_); rintro e w2 ⟨rfl, hn⟩) | (go_at_call 47; (with_reducible refine (crAt_is 2 2 r17 r18 r19 Hr17.out Hr18.out Hr19.out (by unfold In64; omega) (by unfold In64; omega)  _).mono ?_); rintro e w2 ⟨rfl, hn⟩)))
              try replace hb := hb.trans (hn.mono hb.size)
              refine hK.out _ _ (up_iff.2 hb) ?_
              clear hK K
              try clear hn
              refine wpS_doL rfl ?_
              intro K hK
              go_wp2_with ((first | (go_at_call 47; (with_reducible refine (crAt_is 1 1 r11 r12 r13 Hr11.out Hr12.out Hr13.out (by unfold In64; omega) (by unfold In64; omega)  _).mono ?_); rintro e w2 ⟨rfl, hn⟩) | (go_at_call 58; (with_reducible refine (SpCmp_is r2 r3 r4 r11 r12 r13 0 Hr14.out (Hr2.out ▸ mcx_in  ) (Hr3.out ▸ mcy_in  ) (Hr4.out ▸ mcw_in  ) (Hr11.out ▸ atx_in 1 1 (by unfold In64; omega) (by unfold In64; omega)) (Hr12.out ▸ aty_in 1 1 (by unfold In64; omega) (by unfold In64; omega)) (Hr13.out ▸ atw_in 1 1 (by unfold In64; omega) (by unfold In64; omega))  _).mono ?_); rintro e w2 ⟨rfl, hn⟩) | (go_at_call 70; (with_reducible refine (SegHolds_is 0 0 1 1 r11 r12 r13 true Hz16.out (by unfold In64; omega) (by unfold In64; omega) (by unfold In64; omega) (by unfold In64; omega) (Hr11.out ▸ atx_in 1 1 (by unfold In64; omega) (by unfold In64; omega)) (Hr12.out ▸ aty_in 1 1 (by unfold In64; omega) (by unfold In64; omega)) (Hr13.out ▸ atw_in 1 1 (by unfold In64; omega) (by unfold In64; omega))  _).mono ?_); rintro e w2 ⟨rfl, hn⟩) | (go_at_call 47; (with_reducible refine (crAt_is 2 2 r17 r18 r19 Hr17.out Hr18.out Hr19.out (by unfold In64; omega) (by unfold In64; omega)  _).mono ?_); rintro e w2 ⟨rfl, hn⟩)))
              try replace hb := hb.trans (hn.mono hb.size)
              refine hK.out _ _ (up_iff.2 hb) ?_
              clear hK K
              try clear hn
              iterate 6
                refine wpS_takeL rfl rfl ?_
                go_big_quiet_step (rfl)
                refine wpQuiet_nil ?_
              refine wpS_doL rfl ?_
              intro K hK
              go_wp2_with ((first | (go_at_call 47; (with_reducible refine (crAt_is 1 1 r11 r12 r13 Hr11.out Hr12.out Hr13.out (by unfold In64; omega) (by unfold In64; omega)  _).mono ?_); rintro e w2 ⟨rfl, hn⟩) | (go_at_call 58; (with_reducible refine (SpCmp_is r2 r3 r4 r11 r12 r13 0 Hr14.out (Hr2.out ▸ mcx_in  ) (Hr3.out ▸ mcy_in  ) (Hr4.out ▸ mcw_in  ) (Hr11.out ▸ atx_in 1 1 (by unfold In64; omega) (by unfold In64; omega)) (Hr12.out ▸ aty_in 1 1 (by unfold In64; omega) (by unfold In64; omega)) (Hr13.out ▸ atw_in 1 1 (by unfold In64; omega) (by unfold In64; omega))  _).mono ?_); rintro e w2 ⟨rfl, hn⟩) | (go_at_call 70; (with_reducible refine (SegHolds_is 0 0 1 1 r11 r12 r13 true Hz16.out (by unfold In64; omega) (by unfold In64; omega) (by unfold In64; omega) (by unfold In64; omega) (Hr11.out ▸ atx_in 1 1 (by unfold In64; omega) (by unfold In64; omega)) (Hr12.out ▸ aty_in 1 1 (by unfold In64; omega) (by unfold In64; omega)) (Hr13.out ▸ atw_in 1 1 (by unfold In64; omega) (by unfold In64; omega))  _).mono ?_); rintro e w2 ⟨rfl, hn⟩) | (go_at_call 47; (with_reducible refine (crAt_is 2 2 r17 r18 r19 Hr17.out Hr18.out Hr19.out (by unfold In64; omega) (by unfold In64; omega)  _).mono ?_); rintro e w2 ⟨rfl, hn⟩)))
              try replace hb := hb.trans (hn.mono hb.size)
              refine hK.out _ _ (up_iff.2 hb) ?_
              clear hK K
              try clear hn
              refine wpS_doL rfl ?_
              intro K hK
              go_wp2_with ((first | (go_at_call 47; (with_reducible refine (crAt_is 1 1 r11 r12 r13 Hr11.out Hr12.out Hr13.out (by unfold In64; omega) (by unfold In64; omega)  _).mono ?_); rintro e w2 ⟨rfl, hn⟩) | (go_at_call 58; (with_reducible refine (SpCmp_is r2 r3 r4 r11 r12 r13 0 Hr14.out (Hr2.out ▸ mcx_in  ) (Hr3.out ▸ mcy_in  ) (Hr4.out ▸ mcw_in  ) (Hr11.out ▸ atx_in 1 1 (by unfold In64; omega) (by unfold In64; omega)) (Hr12.out ▸ aty_in 1 1 (by unfold In64; omega) (by unfold In64; omega)) (Hr13.out ▸ atw_in 1 1 (by unfold In64; omega) (by unfold In64; omega))  _).mono ?_); rintro e w2 ⟨rfl, hn⟩) | (go_at_call 70; (with_reducible refine (SegHolds_is 0 0 1 1 r11 r12 r13 true Hz16.out (by unfold In64; omega) (by unfold In64; omega) (by unfold In64; omega) (by unfold In64; omega) (Hr11.out ▸ atx_in 1 1 (by unfold In64; omega) (by unfold In64; omega)) (Hr12.out ▸ aty_in 1 1 (by unfold In64; omega) (by unfold In64; omega)) (Hr13.out ▸ atw_in 1 1 (by unfold In64; omega) (by unfold In64; omega))  _).mono ?_); rintro e w2 ⟨rfl, hn⟩) | (go_at_call 47; (with_reducible refine (crAt_is 2 2 r17 r18 r19 Hr17.out Hr18.out Hr19.out (by unfold In64; omega) (by unfold In64; omega)  _).mono ?_); rintro e w2 ⟨rfl, hn⟩)))
              try replace hb := hb.trans (hn.mono hb.size)
              refine hK.out _ _ (up_iff.2 hb) ?_
              clear hK K
              try clear hn
              iterate 5
                refine wpS_takeL rfl rfl ?_
                go_big_quiet_step (rfl)
                refine wpQuiet_nil ?_
              refine wpS_doL rfl ?_
              intro K hK
              go_wp2_with ((first | (go_at_call 47; (with_reducible refine (crAt_is 1 1 r11 r12 r13 Hr11.out Hr12.out Hr13.out (by unfold In64; omega) (by unfold In64; omega)  _).mono ?_); rintro e w2 ⟨rfl, hn⟩) | (go_at_call 58; (with_reducible refine (SpCmp_is r2 r3 r4 r11 r12 r13 0 Hr14.out (Hr2.out ▸ mcx_in  ) (Hr3.out ▸ mcy_in  ) (Hr4.out ▸ mcw_in  ) (Hr11.out ▸ atx_in 1 1 (by unfold In64; omega) (by unfold In64; omega)) (Hr12.out ▸ aty_in 1 1 (by unfold In64; omega) (by unfold In64; omega)) (Hr13.out ▸ atw_in 1 1 (by unfold In64; omega) (by unfold In64; omega))  _).mono ?_); rintro e w2 ⟨rfl, hn⟩) | (go_at_call 70; (with_reducible refine (SegHolds_is 0 0 1 1 r11 r12 r13 true Hz16.out (by unfold In64; omega) (by unfold In64; omega) (by unfold In64; omega) (by unfold In64; omega) (Hr11.out ▸ atx_in 1 1 (by unfold In64; omega) (by unfold In64; omega)) (Hr12.out ▸ aty_in 1 1 (by unfold In64; omega) (by unfold In64; omega)) (Hr13.out ▸ atw_in 1 1 (by unfold In64; omega) (by unfold In64; omega))  _).mono ?_); rintro e w2 ⟨rfl, hn⟩) | (go_at_call 47; (with_reducible refine (crAt_is 2 2 r17 r18 r19 Hr17.out Hr18.out Hr19.out (by unfold In64; omega) (by unfold In64; omega)  _).mono ?_); rintro e w2 ⟨rfl, hn⟩)))
              try replace hb := hb.trans (hn.mono hb.size)
              refine hK.out _ _ (up_iff.2 hb) ?_
              clear hK K
              try clear hn
              refine wpS_nil ?_
              simp only [List.drop_succ_cons, List.drop_zero]
              first | refine calls_w ?_ | refine name_world ?_ | refine list_world ?_ | refine post_world ?_
              intro U11 hU11
              first | subst hU11 | (rw [← hU11] at hb; clear hU11)
              clear c1_0 c1_1 c1_2 c1_3 c1_4 c1_5 c1_6 c1_7 c1_8 c1_9 c1_10 c1_11 l1 c2_0 c2_1 l2
              have k1 := Kk1.out.of hb
              clear Kk1
              have k2 := Kk2.out.of hb
              clear Kk2
              replace hb0 := hb0.trans (hb.mono hb0.size)
              clear hb
              go_wp2_with fail
              obtain ⟨z20, hz20⟩ : ∃ o_o : Bool, hldB 0 0 1 1 r17 r18 r19 = o_o := ⟨_, rfl⟩
              have Hz20 := Lib.hid hz20
              clear hz20
              refine (SegHolds_is 0 0 1 1 r17 r18 r19 z20 Hz20.out (by unfold In64; omega) (by unfold In64; omega) (by unfold In64; omega) (by unfold In64; omega) (Hr17.out ▸ atx_in 2 2 (by unfold In64; omega) (by unfold In64; omega)) (Hr18.out ▸ aty_in 2 2 (by unfold In64; omega) (by unfold In64; omega)) (Hr19.out ▸ atw_in 2 2 (by unfold In64; omega) (by unfold In64; omega))  _).mono ?_
              rintro e U12 ⟨rfl, hn⟩
              clear k1 k2
              replace hb0 := hb0.trans (hn.mono hb0.size)
              clear hn
              have e0 : (!z20) = R0 := by rw [← HR0.out]; unfold cawk; (try rw [Hr1.out]); (try rw [Hr2.out]); (try rw [Hr3.out]); (try rw [Hr4.out]); (try rw [Hr5.out]); (try rw [Hr6.out]); (try rw [Hz7.out]); (try rw [Hr11.out]); (try rw [Hr12.out]); (try rw [Hr13.out]); (try rw [Hr14.out]); (try rw [Hz16.out]); (try rw [Hr17.out]); (try rw [Hr18.out]); (try rw [Hr19.out]); (try rw [Hz20.out]); all_goals first | rfl | simp
              subst e0
              go_wp2
              first | go_ret | go_ret2
              exact ⟨by first | rfl | simp, hb0⟩
end Go.Proofs.Ytlcbomjdbdgbmaa
