/- The walk of gromalaw01.WideCommon. Conditions: the numbers are ints and numbers of 256 bits. -/
import Derived.Test.YtcfiemeknocgjaaDoorAwBD
import Derived.Test.YtcfiemeknocgjaaDoorWcA
import Derived.Test.YtcfiemeknocgjaaDoorFmt4
import Derived.Test.YtcfiemeknocgjaaDoorWdA
namespace Go.Proofs.YtcfiemeknocgjaaDoor
open Go.RowKit

set_option maxRecDepth 100000 in
set_option maxHeartbeats 4000000 in

theorem WCom_LL (a : Int) (b : Int) (e : Int)    (hP0 : cmk a b = false) (hP1 : cmv a b = 0) (hP2 : eq4 (wd0 a) (wd1 a) (wd2 a) (wd3 a) 0 0 0 9223372036854775808 = true) (hP3 : eq4 (wd0 b) (wd1 b) (wd2 b) (wd3 b) 0 0 0 9223372036854775808 = true) (_ia : InI a) (_ib : InI b) (_ie : InI e)  (w : World) (hG : Tab w) :
    Calls Tryd.prog 3 #[.agg #[.int .u64 (wd0 a), .int .u64 (wd1 a), .int .u64 (wd2 a), .int .u64 (wd3 a)], .agg #[.int .u64 (wd0 b), .int .u64 (wd1 b), .int .u64 (wd2 b), .int .u64 (wd3 b)], .agg #[.int .u64 (wd0 e), .int .u64 (wd1 e), .int .u64 (wd2 e), .int .u64 (wd3 e)]] w fun e w' => e = .returned (.bool true) ∧ Below w.heap.size w w' := by

  have HP0 := Lib.hid hP0
  clear hP0
  have HP1 := Lib.hid hP1
  clear hP1
  go_enter Tryd.func3, Tryd.ntmps3
  go_wp2_with fail
  first | refine calls_w ?_ | refine name_world ?_ | refine list_world ?_ | refine post_world ?_
  intro V1 hV1
  have hn : Below w.heap.size w V1 := by rw [hV1]; exact below_a3 _ _ _ _
  have nhb0 := hn
  have k1 : Blk V1 w.heap.size #[.int .u64 (wd0 a), .int .u64 (wd1 a), .int .u64 (wd2 a), .int .u64 (wd3 a)] 24 := by rw [hV1]; exact (((Blk.new _ _ _).alloc _).alloc _)
  have k2 : Blk V1 (w.heap.size + 1) #[.int .u64 (wd0 b), .int .u64 (wd1 b), .int .u64 (wd2 b), .int .u64 (wd3 b)] 24 := by rw [hV1]; exact ((Blk.new1 _ _ _ _).alloc _)
  have k3 : Blk V1 (w.heap.size + 1 + 1) #[.int .u64 (wd0 e), .int .u64 (wd1 e), .int .u64 (wd2 e), .int .u64 (wd3 e)] 24 := by rw [hV1]; exact (Blk.new2 _ _ _ _ _)
  clear hV1
  have hb0 := nhb0
  clear nhb0
  refine (Common_v a b 0 false HP1.out HP0.out _ia _ib _).mono ?_
  rintro e U2 ⟨rfl, hn⟩
  replace k1 := k1.of hn
  replace k2 := k2.of hn
  replace k3 := k3.of hn
  replace hb0 := hb0.trans (hn.mono hb0.size)
  clear hn
  have c1_0 : U2.cell? ⟨w.heap.size, 0, none⟩ = some (.int .u64 (wd0 a)) := k1.cell 0
  have c1_1 : U2.cell? ⟨w.heap.size, 1, none⟩ = some (.int .u64 (wd1 a)) := k1.cell 1
  have c1_2 : U2.cell? ⟨w.heap.size, 2, none⟩ = some (.int .u64 (wd2 a)) := k1.cell 2
  have c1_3 : U2.cell? ⟨w.heap.size, 3, none⟩ = some (.int .u64 (wd3 a)) := k1.cell 3
  have l1 := k1.lt
  have c2_0 : U2.cell? ⟨(w.heap.size + 1), 0, none⟩ = some (.int .u64 (wd0 b)) := k2.cell 0
  have c2_1 : U2.cell? ⟨(w.heap.size + 1), 1, none⟩ = some (.int .u64 (wd1 b)) := k2.cell 1
  have c2_2 : U2.cell? ⟨(w.heap.size + 1), 2, none⟩ = some (.int .u64 (wd2 b)) := k2.cell 2
  have c2_3 : U2.cell? ⟨(w.heap.size + 1), 3, none⟩ = some (.int .u64 (wd3 b)) := k2.cell 3
  have l2 := k2.lt
  have l2_0 : w.heap.size < U2.heap.size := by have := k2.lt; omega
  go_wp2_with fail
  clear c1_0 c1_1 c1_2 c1_3 l1 c2_0 c2_1 c2_2 c2_3 l2 l2_0
  first | refine calls_w ?_ | refine name_world ?_ | refine list_world ?_ | refine post_world ?_
  intro V3 hV3
  have D1 := Lib.hid k1.lt
  have D2 := Lib.hid k2.lt
  have D3 := Lib.hid k3.lt
  have D4 := Lib.hid hb0.size
  have hn : Below U2.heap.size U2 V3 := by rw [hV3]; exact below_a2 _ _ _
  have nk1 := k1.of hn
  have nk2 := k2.of hn
  have nk3 := k3.of hn
  have nhb0 := hb0.trans (hn.mono hb0.size)
  clear hn
  have k4 : Blk V3 U2.heap.size #[.int .u64 (wd0 0), .int .u64 (wd1 0), .int .u64 (wd2 0), .int .u64 (wd3 0)] 24 := by rw [hV3]; exact ((Blk.new _ _ _).alloc _)
  have k5 : Blk V3 (U2.heap.size + 1) #[.int .u64 0, .int .u64 0, .int .u64 0, .int .u64 9223372036854775808] 24 := by rw [hV3]; exact (Blk.new1 _ _ _ _)
  clear k1 k2 k3
  clear hb0
  clear hV3
  have k1 := nk1
  clear nk1
  have k2 := nk2
  clear nk2
  have k3 := nk3
  clear nk3
  have hb0 := nhb0
  clear nhb0
  refine (wawake_any _ (hG.of hb0)).mono ?_
  rintro e U4 ⟨rfl, hn⟩
  clear k5
  replace k1 := k1.of hn
  replace k2 := k2.of hn
  replace k3 := k3.of hn
  replace k4 := k4.of hn
  replace hb0 := hb0.trans (hn.mono hb0.size)
  clear hn
  go_wp2
  first | go_ret | go_ret2
  exact ⟨by first | rfl | (simp; done) | (simp; assumption), hb0⟩

set_option maxRecDepth 100000 in
set_option maxHeartbeats 4000000 in

theorem WCom_LZ (a : Int) (b : Int) (e : Int)    (hP0 : cmk a b = false) (hP1 : cmv a b = 0) (hP2 : eq4 (wd0 a) (wd1 a) (wd2 a) (wd3 a) 0 0 0 9223372036854775808 = true) (hP3 : eq4 (wd0 b) (wd1 b) (wd2 b) (wd3 b) 0 0 0 9223372036854775808 = false) (hP4 : eq4 (wd0 b) (wd1 b) (wd2 b) (wd3 b) 0 0 0 0 = true) (_ia : InI a) (_ib : InI b) (_ie : InI e)  (w : World) (hG : Tab w) :
    Calls Tryd.prog 3 #[.agg #[.int .u64 (wd0 a), .int .u64 (wd1 a), .int .u64 (wd2 a), .int .u64 (wd3 a)], .agg #[.int .u64 (wd0 b), .int .u64 (wd1 b), .int .u64 (wd2 b), .int .u64 (wd3 b)], .agg #[.int .u64 (wd0 e), .int .u64 (wd1 e), .int .u64 (wd2 e), .int .u64 (wd3 e)]] w fun e w' => e = .returned (.bool true) ∧ Below w.heap.size w w' := by

  have HP0 := Lib.hid hP0
  clear hP0
  have HP1 := Lib.hid hP1
  clear hP1
  go_enter Tryd.func3, Tryd.ntmps3
  go_wp2_with fail
  first | refine calls_w ?_ | refine name_world ?_ | refine list_world ?_ | refine post_world ?_
  intro V1 hV1
  have hn : Below w.heap.size w V1 := by rw [hV1]; exact below_a3 _ _ _ _
  have nhb0 := hn
  have k1 : Blk V1 w.heap.size #[.int .u64 (wd0 a), .int .u64 (wd1 a), .int .u64 (wd2 a), .int .u64 (wd3 a)] 24 := by rw [hV1]; exact (((Blk.new _ _ _).alloc _).alloc _)
  have k2 : Blk V1 (w.heap.size + 1) #[.int .u64 (wd0 b), .int .u64 (wd1 b), .int .u64 (wd2 b), .int .u64 (wd3 b)] 24 := by rw [hV1]; exact ((Blk.new1 _ _ _ _).alloc _)
  have k3 : Blk V1 (w.heap.size + 1 + 1) #[.int .u64 (wd0 e), .int .u64 (wd1 e), .int .u64 (wd2 e), .int .u64 (wd3 e)] 24 := by rw [hV1]; exact (Blk.new2 _ _ _ _ _)
  clear hV1
  have hb0 := nhb0
  clear nhb0
  refine (Common_v a b 0 false HP1.out HP0.out _ia _ib _).mono ?_
  rintro e U2 ⟨rfl, hn⟩
  replace k1 := k1.of hn
  replace k2 := k2.of hn
  replace k3 := k3.of hn
  replace hb0 := hb0.trans (hn.mono hb0.size)
  clear hn
  have c1_0 : U2.cell? ⟨w.heap.size, 0, none⟩ = some (.int .u64 (wd0 a)) := k1.cell 0
  have c1_1 : U2.cell? ⟨w.heap.size, 1, none⟩ = some (.int .u64 (wd1 a)) := k1.cell 1
  have c1_2 : U2.cell? ⟨w.heap.size, 2, none⟩ = some (.int .u64 (wd2 a)) := k1.cell 2
  have c1_3 : U2.cell? ⟨w.heap.size, 3, none⟩ = some (.int .u64 (wd3 a)) := k1.cell 3
  have l1 := k1.lt
  have c2_0 : U2.cell? ⟨(w.heap.size + 1), 0, none⟩ = some (.int .u64 (wd0 b)) := k2.cell 0
  have c2_1 : U2.cell? ⟨(w.heap.size + 1), 1, none⟩ = some (.int .u64 (wd1 b)) := k2.cell 1
  have c2_2 : U2.cell? ⟨(w.heap.size + 1), 2, none⟩ = some (.int .u64 (wd2 b)) := k2.cell 2
  have c2_3 : U2.cell? ⟨(w.heap.size + 1), 3, none⟩ = some (.int .u64 (wd3 b)) := k2.cell 3
  have l2 := k2.lt
  have l2_0 : w.heap.size < U2.heap.size := by have := k2.lt; omega
  go_wp2_with fail
  clear c1_0 c1_1 c1_2 c1_3 l1 c2_0 c2_1 c2_2 c2_3 l2 l2_0
  first | refine calls_w ?_ | refine name_world ?_ | refine list_world ?_ | refine post_world ?_
  intro V3 hV3
  have D1 := Lib.hid k1.lt
  have D2 := Lib.hid k2.lt
  have D3 := Lib.hid k3.lt
  have D4 := Lib.hid hb0.size
  have hn : Below U2.heap.size U2 V3 := by rw [hV3]; exact below_a2 _ _ _
  have nk1 := k1.of hn
  have nk2 := k2.of hn
  have nk3 := k3.of hn
  have nhb0 := hb0.trans (hn.mono hb0.size)
  clear hn
  have k4 : Blk V3 U2.heap.size #[.int .u64 (wd0 0), .int .u64 (wd1 0), .int .u64 (wd2 0), .int .u64 (wd3 0)] 24 := by rw [hV3]; exact ((Blk.new _ _ _).alloc _)
  have k5 : Blk V3 (U2.heap.size + 1) #[.int .u64 0, .int .u64 0, .int .u64 0, .int .u64 9223372036854775808] 24 := by rw [hV3]; exact (Blk.new1 _ _ _ _)
  clear k1 k2 k3
  clear hb0
  clear hV3
  have k1 := nk1
  clear nk1
  have k2 := nk2
  clear nk2
  have k3 := nk3
  clear nk3
  have hb0 := nhb0
  clear nhb0
  refine (wawake_any _ (hG.of hb0)).mono ?_
  rintro e U4 ⟨rfl, hn⟩
  clear k5
  replace k1 := k1.of hn
  replace k2 := k2.of hn
  replace k3 := k3.of hn
  replace k4 := k4.of hn
  replace hb0 := hb0.trans (hn.mono hb0.size)
  clear hn
  go_wp2
  first | go_ret | go_ret2
  exact ⟨by first | rfl | (simp; done) | (simp; assumption), hb0⟩

set_option maxRecDepth 100000 in
set_option maxHeartbeats 4000000 in

theorem WCom_ZL (a : Int) (b : Int) (e : Int)    (hP0 : cmk a b = false) (hP1 : cmv a b = 0) (hP2 : eq4 (wd0 a) (wd1 a) (wd2 a) (wd3 a) 0 0 0 9223372036854775808 = false) (hP3 : eq4 (wd0 a) (wd1 a) (wd2 a) (wd3 a) 0 0 0 0 = true) (hP4 : eq4 (wd0 b) (wd1 b) (wd2 b) (wd3 b) 0 0 0 9223372036854775808 = true) (_ia : InI a) (_ib : InI b) (_ie : InI e)  (w : World) (hG : Tab w) :
    Calls Tryd.prog 3 #[.agg #[.int .u64 (wd0 a), .int .u64 (wd1 a), .int .u64 (wd2 a), .int .u64 (wd3 a)], .agg #[.int .u64 (wd0 b), .int .u64 (wd1 b), .int .u64 (wd2 b), .int .u64 (wd3 b)], .agg #[.int .u64 (wd0 e), .int .u64 (wd1 e), .int .u64 (wd2 e), .int .u64 (wd3 e)]] w fun e w' => e = .returned (.bool true) ∧ Below w.heap.size w w' := by

  have HP0 := Lib.hid hP0
  clear hP0
  have HP1 := Lib.hid hP1
  clear hP1
  go_enter Tryd.func3, Tryd.ntmps3
  go_wp2_with fail
  first | refine calls_w ?_ | refine name_world ?_ | refine list_world ?_ | refine post_world ?_
  intro V1 hV1
  have hn : Below w.heap.size w V1 := by rw [hV1]; exact below_a3 _ _ _ _
  have nhb0 := hn
  have k1 : Blk V1 w.heap.size #[.int .u64 (wd0 a), .int .u64 (wd1 a), .int .u64 (wd2 a), .int .u64 (wd3 a)] 24 := by rw [hV1]; exact (((Blk.new _ _ _).alloc _).alloc _)
  have k2 : Blk V1 (w.heap.size + 1) #[.int .u64 (wd0 b), .int .u64 (wd1 b), .int .u64 (wd2 b), .int .u64 (wd3 b)] 24 := by rw [hV1]; exact ((Blk.new1 _ _ _ _).alloc _)
  have k3 : Blk V1 (w.heap.size + 1 + 1) #[.int .u64 (wd0 e), .int .u64 (wd1 e), .int .u64 (wd2 e), .int .u64 (wd3 e)] 24 := by rw [hV1]; exact (Blk.new2 _ _ _ _ _)
  clear hV1
  have hb0 := nhb0
  clear nhb0
  refine (Common_v a b 0 false HP1.out HP0.out _ia _ib _).mono ?_
  rintro e U2 ⟨rfl, hn⟩
  replace k1 := k1.of hn
  replace k2 := k2.of hn
  replace k3 := k3.of hn
  replace hb0 := hb0.trans (hn.mono hb0.size)
  clear hn
  have c1_0 : U2.cell? ⟨w.heap.size, 0, none⟩ = some (.int .u64 (wd0 a)) := k1.cell 0
  have c1_1 : U2.cell? ⟨w.heap.size, 1, none⟩ = some (.int .u64 (wd1 a)) := k1.cell 1
  have c1_2 : U2.cell? ⟨w.heap.size, 2, none⟩ = some (.int .u64 (wd2 a)) := k1.cell 2
  have c1_3 : U2.cell? ⟨w.heap.size, 3, none⟩ = some (.int .u64 (wd3 a)) := k1.cell 3
  have l1 := k1.lt
  have c2_0 : U2.cell? ⟨(w.heap.size + 1), 0, none⟩ = some (.int .u64 (wd0 b)) := k2.cell 0
  have c2_1 : U2.cell? ⟨(w.heap.size + 1), 1, none⟩ = some (.int .u64 (wd1 b)) := k2.cell 1
  have c2_2 : U2.cell? ⟨(w.heap.size + 1), 2, none⟩ = some (.int .u64 (wd2 b)) := k2.cell 2
  have c2_3 : U2.cell? ⟨(w.heap.size + 1), 3, none⟩ = some (.int .u64 (wd3 b)) := k2.cell 3
  have l2 := k2.lt
  have l2_0 : w.heap.size < U2.heap.size := by have := k2.lt; omega
  go_wp2_with fail
  clear c1_0 c1_1 c1_2 c1_3 l1 c2_0 c2_1 c2_2 c2_3 l2 l2_0
  first | refine calls_w ?_ | refine name_world ?_ | refine list_world ?_ | refine post_world ?_
  intro V3 hV3
  have D1 := Lib.hid k1.lt
  have D2 := Lib.hid k2.lt
  have D3 := Lib.hid k3.lt
  have D4 := Lib.hid hb0.size
  have hn : Below U2.heap.size U2 V3 := by rw [hV3]; exact below_a2 _ _ _
  have nk1 := k1.of hn
  have nk2 := k2.of hn
  have nk3 := k3.of hn
  have nhb0 := hb0.trans (hn.mono hb0.size)
  clear hn
  have k4 : Blk V3 U2.heap.size #[.int .u64 (wd0 0), .int .u64 (wd1 0), .int .u64 (wd2 0), .int .u64 (wd3 0)] 24 := by rw [hV3]; exact ((Blk.new _ _ _).alloc _)
  have k5 : Blk V3 (U2.heap.size + 1) #[.int .u64 0, .int .u64 0, .int .u64 0, .int .u64 9223372036854775808] 24 := by rw [hV3]; exact (Blk.new1 _ _ _ _)
  clear k1 k2 k3
  clear hb0
  clear hV3
  have k1 := nk1
  clear nk1
  have k2 := nk2
  clear nk2
  have k3 := nk3
  clear nk3
  have hb0 := nhb0
  clear nhb0
  refine (wawake_any _ (hG.of hb0)).mono ?_
  rintro e U4 ⟨rfl, hn⟩
  clear k5
  replace k1 := k1.of hn
  replace k2 := k2.of hn
  replace k3 := k3.of hn
  replace k4 := k4.of hn
  replace hb0 := hb0.trans (hn.mono hb0.size)
  clear hn
  go_wp2
  first | go_ret | go_ret2
  exact ⟨by first | rfl | (simp; done) | (simp; assumption), hb0⟩

set_option maxRecDepth 100000 in
set_option maxHeartbeats 4000000 in

theorem WCom_ZZ (a : Int) (b : Int) (e : Int)    (hP0 : cmk a b = false) (hP1 : cmv a b = 0) (hP2 : eq4 (wd0 a) (wd1 a) (wd2 a) (wd3 a) 0 0 0 9223372036854775808 = false) (hP3 : eq4 (wd0 a) (wd1 a) (wd2 a) (wd3 a) 0 0 0 0 = true) (hP4 : eq4 (wd0 b) (wd1 b) (wd2 b) (wd3 b) 0 0 0 9223372036854775808 = false) (hP5 : eq4 (wd0 b) (wd1 b) (wd2 b) (wd3 b) 0 0 0 0 = true) (_ia : InI a) (_ib : InI b) (_ie : InI e)  (w : World) (hG : Tab w) :
    Calls Tryd.prog 3 #[.agg #[.int .u64 (wd0 a), .int .u64 (wd1 a), .int .u64 (wd2 a), .int .u64 (wd3 a)], .agg #[.int .u64 (wd0 b), .int .u64 (wd1 b), .int .u64 (wd2 b), .int .u64 (wd3 b)], .agg #[.int .u64 (wd0 e), .int .u64 (wd1 e), .int .u64 (wd2 e), .int .u64 (wd3 e)]] w fun e w' => e = .returned (.bool true) ∧ Below w.heap.size w w' := by

  have HP0 := Lib.hid hP0
  clear hP0
  have HP1 := Lib.hid hP1
  clear hP1
  go_enter Tryd.func3, Tryd.ntmps3
  go_wp2_with fail
  first | refine calls_w ?_ | refine name_world ?_ | refine list_world ?_ | refine post_world ?_
  intro V1 hV1
  have hn : Below w.heap.size w V1 := by rw [hV1]; exact below_a3 _ _ _ _
  have nhb0 := hn
  have k1 : Blk V1 w.heap.size #[.int .u64 (wd0 a), .int .u64 (wd1 a), .int .u64 (wd2 a), .int .u64 (wd3 a)] 24 := by rw [hV1]; exact (((Blk.new _ _ _).alloc _).alloc _)
  have k2 : Blk V1 (w.heap.size + 1) #[.int .u64 (wd0 b), .int .u64 (wd1 b), .int .u64 (wd2 b), .int .u64 (wd3 b)] 24 := by rw [hV1]; exact ((Blk.new1 _ _ _ _).alloc _)
  have k3 : Blk V1 (w.heap.size + 1 + 1) #[.int .u64 (wd0 e), .int .u64 (wd1 e), .int .u64 (wd2 e), .int .u64 (wd3 e)] 24 := by rw [hV1]; exact (Blk.new2 _ _ _ _ _)
  clear hV1
  have hb0 := nhb0
  clear nhb0
  refine (Common_v a b 0 false HP1.out HP0.out _ia _ib _).mono ?_
  rintro e U2 ⟨rfl, hn⟩
  replace k1 := k1.of hn
  replace k2 := k2.of hn
  replace k3 := k3.of hn
  replace hb0 := hb0.trans (hn.mono hb0.size)
  clear hn
  have c1_0 : U2.cell? ⟨w.heap.size, 0, none⟩ = some (.int .u64 (wd0 a)) := k1.cell 0
  have c1_1 : U2.cell? ⟨w.heap.size, 1, none⟩ = some (.int .u64 (wd1 a)) := k1.cell 1
  have c1_2 : U2.cell? ⟨w.heap.size, 2, none⟩ = some (.int .u64 (wd2 a)) := k1.cell 2
  have c1_3 : U2.cell? ⟨w.heap.size, 3, none⟩ = some (.int .u64 (wd3 a)) := k1.cell 3
  have l1 := k1.lt
  have c2_0 : U2.cell? ⟨(w.heap.size + 1), 0, none⟩ = some (.int .u64 (wd0 b)) := k2.cell 0
  have c2_1 : U2.cell? ⟨(w.heap.size + 1), 1, none⟩ = some (.int .u64 (wd1 b)) := k2.cell 1
  have c2_2 : U2.cell? ⟨(w.heap.size + 1), 2, none⟩ = some (.int .u64 (wd2 b)) := k2.cell 2
  have c2_3 : U2.cell? ⟨(w.heap.size + 1), 3, none⟩ = some (.int .u64 (wd3 b)) := k2.cell 3
  have l2 := k2.lt
  have l2_0 : w.heap.size < U2.heap.size := by have := k2.lt; omega
  go_wp2_with fail
  clear c1_0 c1_1 c1_2 c1_3 l1 c2_0 c2_1 c2_2 c2_3 l2 l2_0
  first | refine calls_w ?_ | refine name_world ?_ | refine list_world ?_ | refine post_world ?_
  intro V3 hV3
  have D1 := Lib.hid k1.lt
  have D2 := Lib.hid k2.lt
  have D3 := Lib.hid k3.lt
  have D4 := Lib.hid hb0.size
  have hn : Below U2.heap.size U2 V3 := by rw [hV3]; exact below_a2 _ _ _
  have nk1 := k1.of hn
  have nk2 := k2.of hn
  have nk3 := k3.of hn
  have nhb0 := hb0.trans (hn.mono hb0.size)
  clear hn
  have k4 : Blk V3 U2.heap.size #[.int .u64 (wd0 0), .int .u64 (wd1 0), .int .u64 (wd2 0), .int .u64 (wd3 0)] 24 := by rw [hV3]; exact ((Blk.new _ _ _).alloc _)
  have k5 : Blk V3 (U2.heap.size + 1) #[.int .u64 0, .int .u64 0, .int .u64 0, .int .u64 9223372036854775808] 24 := by rw [hV3]; exact (Blk.new1 _ _ _ _)
  clear k1 k2 k3
  clear hb0
  clear hV3
  have k1 := nk1
  clear nk1
  have k2 := nk2
  clear nk2
  have k3 := nk3
  clear nk3
  have hb0 := nhb0
  clear nhb0
  refine (wawake_any _ (hG.of hb0)).mono ?_
  rintro e U4 ⟨rfl, hn⟩
  clear k5
  replace k1 := k1.of hn
  replace k2 := k2.of hn
  replace k3 := k3.of hn
  replace k4 := k4.of hn
  replace hb0 := hb0.trans (hn.mono hb0.size)
  clear hn
  go_wp2
  first | go_ret | go_ret2
  exact ⟨by first | rfl | (simp; done) | (simp; assumption), hb0⟩

set_option maxRecDepth 100000 in
set_option maxHeartbeats 4000000 in

theorem WCom_0 (a : Int) (b : Int) (e : Int)    (hP0 : cmk a b = true) (hP1 : cmv a b = 0) (hP2 : eq4 (wd0 a) (wd1 a) (wd2 a) (wd3 a) 0 0 0 0 = true) (hP3 : eq4 (wd0 b) (wd1 b) (wd2 b) (wd3 b) 0 0 0 0 = true) (_ia : InI a) (_ib : InI b) (_ie : InI e)  (w : World) (hG : Tab w) :
    Calls Tryd.prog 3 #[.agg #[.int .u64 (wd0 a), .int .u64 (wd1 a), .int .u64 (wd2 a), .int .u64 (wd3 a)], .agg #[.int .u64 (wd0 b), .int .u64 (wd1 b), .int .u64 (wd2 b), .int .u64 (wd3 b)], .agg #[.int .u64 (wd0 e), .int .u64 (wd1 e), .int .u64 (wd2 e), .int .u64 (wd3 e)]] w fun e w' => e = .returned (.bool true) ∧ Below w.heap.size w w' := by

  have HP0 := Lib.hid hP0
  clear hP0
  have HP1 := Lib.hid hP1
  clear hP1
  go_enter Tryd.func3, Tryd.ntmps3
  go_wp2_with fail
  first | refine calls_w ?_ | refine name_world ?_ | refine list_world ?_ | refine post_world ?_
  intro V1 hV1
  have hn : Below w.heap.size w V1 := by rw [hV1]; exact below_a3 _ _ _ _
  have nhb0 := hn
  have k1 : Blk V1 w.heap.size #[.int .u64 (wd0 a), .int .u64 (wd1 a), .int .u64 (wd2 a), .int .u64 (wd3 a)] 24 := by rw [hV1]; exact (((Blk.new _ _ _).alloc _).alloc _)
  have k2 : Blk V1 (w.heap.size + 1) #[.int .u64 (wd0 b), .int .u64 (wd1 b), .int .u64 (wd2 b), .int .u64 (wd3 b)] 24 := by rw [hV1]; exact ((Blk.new1 _ _ _ _).alloc _)
  have k3 : Blk V1 (w.heap.size + 1 + 1) #[.int .u64 (wd0 e), .int .u64 (wd1 e), .int .u64 (wd2 e), .int .u64 (wd3 e)] 24 := by rw [hV1]; exact (Blk.new2 _ _ _ _ _)
  clear hV1
  have hb0 := nhb0
  clear nhb0
  refine (Common_v a b 0 true HP1.out HP0.out _ia _ib _).mono ?_
  rintro e U2 ⟨rfl, hn⟩
  replace k1 := k1.of hn
  replace k2 := k2.of hn
  replace k3 := k3.of hn
  replace hb0 := hb0.trans (hn.mono hb0.size)
  clear hn
  have c1_0 : U2.cell? ⟨w.heap.size, 0, none⟩ = some (.int .u64 (wd0 a)) := k1.cell 0
  have c1_1 : U2.cell? ⟨w.heap.size, 1, none⟩ = some (.int .u64 (wd1 a)) := k1.cell 1
  have c1_2 : U2.cell? ⟨w.heap.size, 2, none⟩ = some (.int .u64 (wd2 a)) := k1.cell 2
  have c1_3 : U2.cell? ⟨w.heap.size, 3, none⟩ = some (.int .u64 (wd3 a)) := k1.cell 3
  have l1 := k1.lt
  have c2_0 : U2.cell? ⟨(w.heap.size + 1), 0, none⟩ = some (.int .u64 (wd0 b)) := k2.cell 0
  have c2_1 : U2.cell? ⟨(w.heap.size + 1), 1, none⟩ = some (.int .u64 (wd1 b)) := k2.cell 1
  have c2_2 : U2.cell? ⟨(w.heap.size + 1), 2, none⟩ = some (.int .u64 (wd2 b)) := k2.cell 2
  have c2_3 : U2.cell? ⟨(w.heap.size + 1), 3, none⟩ = some (.int .u64 (wd3 b)) := k2.cell 3
  have l2 := k2.lt
  have l2_0 : w.heap.size < U2.heap.size := by have := k2.lt; omega
  go_wp2_with fail
  clear c1_0 c1_1 c1_2 c1_3 l1 c2_0 c2_1 c2_2 c2_3 l2 l2_0
  first | refine calls_w ?_ | refine name_world ?_ | refine list_world ?_ | refine post_world ?_
  intro V3 hV3
  have D1 := Lib.hid k1.lt
  have D2 := Lib.hid k2.lt
  have D3 := Lib.hid k3.lt
  have D4 := Lib.hid hb0.size
  have hn : Below U2.heap.size U2 V3 := by rw [hV3]; exact below_a1 _ _
  have nk1 := k1.of hn
  have nk2 := k2.of hn
  have nk3 := k3.of hn
  have nhb0 := hb0.trans (hn.mono hb0.size)
  clear hn
  have k4 : Blk V3 U2.heap.size #[.int .u64 (wd0 0), .int .u64 (wd1 0), .int .u64 (wd2 0), .int .u64 (wd3 0)] 24 := by rw [hV3]; exact (Blk.new _ _ _)
  clear k1 k2 k3
  clear hb0
  clear hV3
  have k1 := nk1
  clear nk1
  have k2 := nk2
  clear nk2
  have k3 := nk3
  clear nk3
  have hb0 := nhb0
  clear nhb0
  refine (wawake_any _ (hG.of hb0)).mono ?_
  rintro e U4 ⟨rfl, hn⟩
  replace k1 := k1.of hn
  replace k2 := k2.of hn
  replace k3 := k3.of hn
  replace k4 := k4.of hn
  replace hb0 := hb0.trans (hn.mono hb0.size)
  clear hn
  go_wp2
  first | go_ret | go_ret2
  exact ⟨by first | rfl | (simp; done) | (simp; assumption), hb0⟩

set_option maxRecDepth 100000 in
set_option maxHeartbeats 4000000 in

theorem WCom_f1 (a : Int) (b : Int) (e : Int) (c : Int) (r : Int) (s : Int)   (hP0 : cmk a b = true) (hP1 : cmv a b = c) (hP2 : eq4 (wd0 c) (wd1 c) (wd2 c) (wd3 c) 0 0 0 0 = false) (hP3 : dvOk a c = true) (hP4 : dvOk b c = true) (hP5 : dvr a c = r) (hP6 : r.sign = 0) (hP7 : dvr b c = s) (hP8 : s.sign = 0) (hP9 : c.sign = 1) (hP10 : dvOk a e = false) (_ic : InI c) (_ir : InI r) (_is : InI s) (_ia : InI a) (_ib : InI b) (_ie : InI e)  (w : World) (hG : Tab w) :
    Calls Tryd.prog 3 #[.agg #[.int .u64 (wd0 a), .int .u64 (wd1 a), .int .u64 (wd2 a), .int .u64 (wd3 a)], .agg #[.int .u64 (wd0 b), .int .u64 (wd1 b), .int .u64 (wd2 b), .int .u64 (wd3 b)], .agg #[.int .u64 (wd0 e), .int .u64 (wd1 e), .int .u64 (wd2 e), .int .u64 (wd3 e)]] w fun e w' => e = .returned (.bool true) ∧ Below w.heap.size w w' := by

  have HP0 := Lib.hid hP0
  clear hP0
  have HP1 := Lib.hid hP1
  clear hP1
  have HP3 := Lib.hid hP3
  clear hP3
  have HP4 := Lib.hid hP4
  clear hP4
  have HP5 := Lib.hid hP5
  clear hP5
  have HP6 := Lib.hid hP6
  clear hP6
  have HP7 := Lib.hid hP7
  clear hP7
  have HP8 := Lib.hid hP8
  clear hP8
  have HP9 := Lib.hid hP9
  clear hP9
  have HP10 := Lib.hid hP10
  clear hP10
  go_enter Tryd.func3, Tryd.ntmps3
  go_wp2_with fail
  first | refine calls_w ?_ | refine name_world ?_ | refine list_world ?_ | refine post_world ?_
  intro V1 hV1
  have hn : Below w.heap.size w V1 := by rw [hV1]; exact below_a3 _ _ _ _
  have nhb0 := hn
  have k1 : Blk V1 w.heap.size #[.int .u64 (wd0 a), .int .u64 (wd1 a), .int .u64 (wd2 a), .int .u64 (wd3 a)] 24 := by rw [hV1]; exact (((Blk.new _ _ _).alloc _).alloc _)
  have k2 : Blk V1 (w.heap.size + 1) #[.int .u64 (wd0 b), .int .u64 (wd1 b), .int .u64 (wd2 b), .int .u64 (wd3 b)] 24 := by rw [hV1]; exact ((Blk.new1 _ _ _ _).alloc _)
  have k3 : Blk V1 (w.heap.size + 1 + 1) #[.int .u64 (wd0 e), .int .u64 (wd1 e), .int .u64 (wd2 e), .int .u64 (wd3 e)] 24 := by rw [hV1]; exact (Blk.new2 _ _ _ _ _)
  clear hV1
  have hb0 := nhb0
  clear nhb0
  refine (Common_v a b c true HP1.out HP0.out _ia _ib _).mono ?_
  rintro e U2 ⟨rfl, hn⟩
  replace k1 := k1.of hn
  replace k2 := k2.of hn
  replace k3 := k3.of hn
  replace hb0 := hb0.trans (hn.mono hb0.size)
  clear hn
  have c1_0 : U2.cell? ⟨w.heap.size, 0, none⟩ = some (.int .u64 (wd0 a)) := k1.cell 0
  have c1_1 : U2.cell? ⟨w.heap.size, 1, none⟩ = some (.int .u64 (wd1 a)) := k1.cell 1
  have c1_2 : U2.cell? ⟨w.heap.size, 2, none⟩ = some (.int .u64 (wd2 a)) := k1.cell 2
  have c1_3 : U2.cell? ⟨w.heap.size, 3, none⟩ = some (.int .u64 (wd3 a)) := k1.cell 3
  have l1 := k1.lt
  go_wp2_with fail
  clear c1_0 c1_1 c1_2 c1_3 l1
  first | refine calls_w ?_ | refine name_world ?_ | refine list_world ?_ | refine post_world ?_
  intro V3 hV3
  have D1 := Lib.hid k1.lt
  have D2 := Lib.hid k2.lt
  have D3 := Lib.hid k3.lt
  have D4 := Lib.hid hb0.size
  have hn : Below U2.heap.size U2 V3 := by rw [hV3]; exact below_a1 _ _
  have nk1 := k1.of hn
  have nk2 := k2.of hn
  have nk3 := k3.of hn
  have nhb0 := hb0.trans (hn.mono hb0.size)
  clear hn
  have k4 : Blk V3 U2.heap.size #[.int .u64 (wd0 c), .int .u64 (wd1 c), .int .u64 (wd2 c), .int .u64 (wd3 c)] 24 := by rw [hV3]; exact (Blk.new _ _ _)
  clear k1 k2 k3
  clear hb0
  clear hV3
  have k1 := nk1
  clear nk1
  have k2 := nk2
  clear nk2
  have k3 := nk3
  clear nk3
  have hb0 := nhb0
  clear nhb0
  obtain ⟨r1, hr1⟩ : ∃ o_o : Int, dvq a c = o_o := ⟨_, rfl⟩
  have Hr1 := Lib.hid hr1
  clear hr1
  refine (Div_v a c r1 r true Hr1.out HP5.out HP3.out _ia _ic _).mono ?_
  rintro e U4 ⟨rfl, hn⟩
  replace k1 := k1.of hn
  replace k2 := k2.of hn
  replace k3 := k3.of hn
  replace k4 := k4.of hn
  replace hb0 := hb0.trans (hn.mono hb0.size)
  clear hn
  have c2_0 : U4.cell? ⟨(w.heap.size + 1), 0, none⟩ = some (.int .u64 (wd0 b)) := k2.cell 0
  have c2_1 : U4.cell? ⟨(w.heap.size + 1), 1, none⟩ = some (.int .u64 (wd1 b)) := k2.cell 1
  have c2_2 : U4.cell? ⟨(w.heap.size + 1), 2, none⟩ = some (.int .u64 (wd2 b)) := k2.cell 2
  have c2_3 : U4.cell? ⟨(w.heap.size + 1), 3, none⟩ = some (.int .u64 (wd3 b)) := k2.cell 3
  have l2 := k2.lt
  have l2_0 : w.heap.size < U4.heap.size := by have := k2.lt; omega
  have c4_0 : U4.cell? ⟨U2.heap.size, 0, none⟩ = some (.int .u64 (wd0 c)) := k4.cell 0
  have c4_1 : U4.cell? ⟨U2.heap.size, 1, none⟩ = some (.int .u64 (wd1 c)) := k4.cell 1
  have c4_2 : U4.cell? ⟨U2.heap.size, 2, none⟩ = some (.int .u64 (wd2 c)) := k4.cell 2
  have c4_3 : U4.cell? ⟨U2.heap.size, 3, none⟩ = some (.int .u64 (wd3 c)) := k4.cell 3
  have l4 := k4.lt
  go_wp2_with fail
  clear c2_0 c2_1 c2_2 c2_3 l2 l2_0 c4_0 c4_1 c4_2 c4_3 l4
  first | refine calls_w ?_ | refine name_world ?_ | refine list_world ?_ | refine post_world ?_
  intro V5 hV5
  have D5 := Lib.hid k1.lt
  have D6 := Lib.hid k2.lt
  have D7 := Lib.hid k3.lt
  have D8 := Lib.hid k4.lt
  have D9 := Lib.hid hb0.size
  have hn : Below U4.heap.size U4 V5 := by rw [hV5]; exact below_a2 _ _ _
  have nk1 := k1.of hn
  have nk2 := k2.of hn
  have nk3 := k3.of hn
  have nk4 := k4.of hn
  have nhb0 := hb0.trans (hn.mono hb0.size)
  clear hn
  have k5 : Blk V5 U4.heap.size #[.int .u64 (wd0 r1), .int .u64 (wd1 r1), .int .u64 (wd2 r1), .int .u64 (wd3 r1)] 24 := by rw [hV5]; exact ((Blk.new _ _ _).alloc _)
  have k6 : Blk V5 (U4.heap.size + 1) #[.int .u64 (wd0 r), .int .u64 (wd1 r), .int .u64 (wd2 r), .int .u64 (wd3 r)] 24 := by rw [hV5]; exact (Blk.new1 _ _ _ _)
  clear k1 k2 k3 k4
  clear hb0
  clear hV5
  have k1 := nk1
  clear nk1
  have k2 := nk2
  clear nk2
  have k3 := nk3
  clear nk3
  have k4 := nk4
  clear nk4
  have hb0 := nhb0
  clear nhb0
  obtain ⟨r2, hr2⟩ : ∃ o_o : Int, dvq b c = o_o := ⟨_, rfl⟩
  have Hr2 := Lib.hid hr2
  clear hr2
  refine (Div_v b c r2 s true Hr2.out HP7.out HP4.out _ib _ic _).mono ?_
  rintro e U6 ⟨rfl, hn⟩
  clear k5
  replace k1 := k1.of hn
  replace k2 := k2.of hn
  replace k3 := k3.of hn
  replace k4 := k4.of hn
  replace k6 := k6.of hn
  replace hb0 := hb0.trans (hn.mono hb0.size)
  clear hn
  have c6_0 : U6.cell? ⟨(U4.heap.size + 1), 0, none⟩ = some (.int .u64 (wd0 r)) := k6.cell 0
  have c6_1 : U6.cell? ⟨(U4.heap.size + 1), 1, none⟩ = some (.int .u64 (wd1 r)) := k6.cell 1
  have c6_2 : U6.cell? ⟨(U4.heap.size + 1), 2, none⟩ = some (.int .u64 (wd2 r)) := k6.cell 2
  have c6_3 : U6.cell? ⟨(U4.heap.size + 1), 3, none⟩ = some (.int .u64 (wd3 r)) := k6.cell 3
  have l6 := k6.lt
  have l6_0 : U4.heap.size < U6.heap.size := by have := k6.lt; omega
  go_wp2_with fail
  clear c6_0 c6_1 c6_2 c6_3 l6 l6_0
  first | refine calls_w ?_ | refine name_world ?_ | refine list_world ?_ | refine post_world ?_
  intro V7 hV7
  have D10 := Lib.hid k1.lt
  have D11 := Lib.hid k2.lt
  have D12 := Lib.hid k3.lt
  have D13 := Lib.hid k4.lt
  have D14 := Lib.hid k6.lt
  have D15 := Lib.hid hb0.size
  have hn : Below U6.heap.size U6 V7 := by rw [hV7]; exact below_a2 _ _ _
  have nk1 := k1.of hn
  have nk2 := k2.of hn
  have nk3 := k3.of hn
  have nk4 := k4.of hn
  have nk6 := k6.of hn
  have nhb0 := hb0.trans (hn.mono hb0.size)
  clear hn
  have k7 : Blk V7 U6.heap.size #[.int .u64 (wd0 r2), .int .u64 (wd1 r2), .int .u64 (wd2 r2), .int .u64 (wd3 r2)] 24 := by rw [hV7]; exact ((Blk.new _ _ _).alloc _)
  have k8 : Blk V7 (U6.heap.size + 1) #[.int .u64 (wd0 s), .int .u64 (wd1 s), .int .u64 (wd2 s), .int .u64 (wd3 s)] 24 := by rw [hV7]; exact (Blk.new1 _ _ _ _)
  clear k1 k2 k3 k4 k6
  clear hb0
  clear hV7
  have k1 := nk1
  clear nk1
  have k2 := nk2
  clear nk2
  have k3 := nk3
  clear nk3
  have k4 := nk4
  clear nk4
  have k6 := nk6
  clear nk6
  have hb0 := nhb0
  clear nhb0
  refine (Sign_v r 0 HP6.out _ir _).mono ?_
  rintro e U8 ⟨rfl, hn⟩
  clear k7
  replace k1 := k1.of hn
  replace k2 := k2.of hn
  replace k3 := k3.of hn
  replace k4 := k4.of hn
  replace k6 := k6.of hn
  replace k8 := k8.of hn
  replace hb0 := hb0.trans (hn.mono hb0.size)
  clear hn
  have c8_0 : U8.cell? ⟨(U6.heap.size + 1), 0, none⟩ = some (.int .u64 (wd0 s)) := k8.cell 0
  have c8_1 : U8.cell? ⟨(U6.heap.size + 1), 1, none⟩ = some (.int .u64 (wd1 s)) := k8.cell 1
  have c8_2 : U8.cell? ⟨(U6.heap.size + 1), 2, none⟩ = some (.int .u64 (wd2 s)) := k8.cell 2
  have c8_3 : U8.cell? ⟨(U6.heap.size + 1), 3, none⟩ = some (.int .u64 (wd3 s)) := k8.cell 3
  have l8 := k8.lt
  go_wp2_with fail
  clear c8_0 c8_1 c8_2 c8_3 l8
  refine (Sign_v s 0 HP8.out _is _).mono ?_
  rintro e U9 ⟨rfl, hn⟩
  replace k1 := k1.of hn
  replace k2 := k2.of hn
  replace k3 := k3.of hn
  replace k4 := k4.of hn
  replace k6 := k6.of hn
  replace k8 := k8.of hn
  replace hb0 := hb0.trans (hn.mono hb0.size)
  clear hn
  have c4_0 : U9.cell? ⟨U2.heap.size, 0, none⟩ = some (.int .u64 (wd0 c)) := k4.cell 0
  have c4_1 : U9.cell? ⟨U2.heap.size, 1, none⟩ = some (.int .u64 (wd1 c)) := k4.cell 1
  have c4_2 : U9.cell? ⟨U2.heap.size, 2, none⟩ = some (.int .u64 (wd2 c)) := k4.cell 2
  have c4_3 : U9.cell? ⟨U2.heap.size, 3, none⟩ = some (.int .u64 (wd3 c)) := k4.cell 3
  have l4 := k4.lt
  go_wp2_with fail
  clear c4_0 c4_1 c4_2 c4_3 l4
  refine (Sign_v c 1 HP9.out _ic _).mono ?_
  rintro e U10 ⟨rfl, hn⟩
  replace k1 := k1.of hn
  replace k2 := k2.of hn
  replace k3 := k3.of hn
  replace k4 := k4.of hn
  replace k6 := k6.of hn
  replace k8 := k8.of hn
  replace hb0 := hb0.trans (hn.mono hb0.size)
  clear hn
  have c1_0 : U10.cell? ⟨w.heap.size, 0, none⟩ = some (.int .u64 (wd0 a)) := k1.cell 0
  have c1_1 : U10.cell? ⟨w.heap.size, 1, none⟩ = some (.int .u64 (wd1 a)) := k1.cell 1
  have c1_2 : U10.cell? ⟨w.heap.size, 2, none⟩ = some (.int .u64 (wd2 a)) := k1.cell 2
  have c1_3 : U10.cell? ⟨w.heap.size, 3, none⟩ = some (.int .u64 (wd3 a)) := k1.cell 3
  have l1 := k1.lt
  have c3_0 : U10.cell? ⟨(w.heap.size + 1 + 1), 0, none⟩ = some (.int .u64 (wd0 e)) := k3.cell 0
  have c3_1 : U10.cell? ⟨(w.heap.size + 1 + 1), 1, none⟩ = some (.int .u64 (wd1 e)) := k3.cell 1
  have c3_2 : U10.cell? ⟨(w.heap.size + 1 + 1), 2, none⟩ = some (.int .u64 (wd2 e)) := k3.cell 2
  have c3_3 : U10.cell? ⟨(w.heap.size + 1 + 1), 3, none⟩ = some (.int .u64 (wd3 e)) := k3.cell 3
  have l3 := k3.lt
  go_wp2_with fail
  clear c1_0 c1_1 c1_2 c1_3 l1 c3_0 c3_1 c3_2 c3_3 l3
  obtain ⟨r3, hr3⟩ : ∃ o_o : Int, dvq a e = o_o := ⟨_, rfl⟩
  have Hr3 := Lib.hid hr3
  clear hr3
  obtain ⟨r4, hr4⟩ : ∃ o_o : Int, dvr a e = o_o := ⟨_, rfl⟩
  have Hr4 := Lib.hid hr4
  clear hr4
  refine (Div_v a e r3 r4 false Hr3.out Hr4.out HP10.out _ia _ie _).mono ?_
  rintro e U11 ⟨rfl, hn⟩
  clear k1
  replace k2 := k2.of hn
  replace k3 := k3.of hn
  replace k4 := k4.of hn
  replace k6 := k6.of hn
  replace k8 := k8.of hn
  replace hb0 := hb0.trans (hn.mono hb0.size)
  clear hn
  have c2_0 : U11.cell? ⟨(w.heap.size + 1), 0, none⟩ = some (.int .u64 (wd0 b)) := k2.cell 0
  have c2_1 : U11.cell? ⟨(w.heap.size + 1), 1, none⟩ = some (.int .u64 (wd1 b)) := k2.cell 1
  have c2_2 : U11.cell? ⟨(w.heap.size + 1), 2, none⟩ = some (.int .u64 (wd2 b)) := k2.cell 2
  have c2_3 : U11.cell? ⟨(w.heap.size + 1), 3, none⟩ = some (.int .u64 (wd3 b)) := k2.cell 3
  have l2 := k2.lt
  have c3_0 : U11.cell? ⟨(w.heap.size + 1 + 1), 0, none⟩ = some (.int .u64 (wd0 e)) := k3.cell 0
  have c3_1 : U11.cell? ⟨(w.heap.size + 1 + 1), 1, none⟩ = some (.int .u64 (wd1 e)) := k3.cell 1
  have c3_2 : U11.cell? ⟨(w.heap.size + 1 + 1), 2, none⟩ = some (.int .u64 (wd2 e)) := k3.cell 2
  have c3_3 : U11.cell? ⟨(w.heap.size + 1 + 1), 3, none⟩ = some (.int .u64 (wd3 e)) := k3.cell 3
  have l3 := k3.lt
  have c6_0 : U11.cell? ⟨(U4.heap.size + 1), 0, none⟩ = some (.int .u64 (wd0 r)) := k6.cell 0
  have c6_1 : U11.cell? ⟨(U4.heap.size + 1), 1, none⟩ = some (.int .u64 (wd1 r)) := k6.cell 1
  have c6_2 : U11.cell? ⟨(U4.heap.size + 1), 2, none⟩ = some (.int .u64 (wd2 r)) := k6.cell 2
  have c6_3 : U11.cell? ⟨(U4.heap.size + 1), 3, none⟩ = some (.int .u64 (wd3 r)) := k6.cell 3
  have f6_0 := k6.free 0
  have f6_1 := k6.free 1
  have f6_2 := k6.free 2
  have f6_3 := k6.free 3
  have l6 := k6.lt
  have p2_6 : (w.heap.size + 1) ≠ (U4.heap.size + 1) := (by have := D6.out; omega)
  have p3_6 : (w.heap.size + 1 + 1) ≠ (U4.heap.size + 1) := (by have := D7.out; omega)
  go_wp2_with fail
  clear c2_0 c2_1 c2_2 c2_3 l2 c3_0 c3_1 c3_2 c3_3 l3 c6_0 c6_1 c6_2 c6_3 f6_0 f6_1 f6_2 f6_3 l6 p2_6 p3_6
  first | refine calls_w ?_ | refine name_world ?_ | refine list_world ?_ | refine post_world ?_
  intro V12 hV12
  clear k2
  have D16 := Lib.hid k3.lt
  have D17 := Lib.hid k4.lt
  have D18 := Lib.hid k6.lt
  have D19 := Lib.hid k8.lt
  have D20 := Lib.hid hb0.size
  have nk3 : Blk V12 (w.heap.size + 1 + 1) #[.int .u64 (wd0 e), .int .u64 (wd1 e), .int .u64 (wd2 e), .int .u64 (wd3 e)] 24 := by rw [hV12]; exact (blk_setL k3 (by have := D7.out; omega) 0 [.int .u64 (wd0 r4), .int .u64 (wd1 r4), .int .u64 (wd2 r4), .int .u64 (wd3 r4)])
  have nk4 : Blk V12 U2.heap.size #[.int .u64 (wd0 c), .int .u64 (wd1 c), .int .u64 (wd2 c), .int .u64 (wd3 c)] 24 := by rw [hV12]; exact (blk_setL k4 (by have := D8.out; omega) 0 [.int .u64 (wd0 r4), .int .u64 (wd1 r4), .int .u64 (wd2 r4), .int .u64 (wd3 r4)])
  have nk6 : Blk V12 (U4.heap.size + 1) #[.int .u64 (wd0 r4), .int .u64 (wd1 r4), .int .u64 (wd2 r4), .int .u64 (wd3 r4)] 24 := by rw [hV12]; exact (blk_full _ [.int .u64 (wd0 r4), .int .u64 (wd1 r4), .int .u64 (wd2 r4), .int .u64 (wd3 r4)] k6 rfl)
  have nk8 : Blk V12 (U6.heap.size + 1) #[.int .u64 (wd0 s), .int .u64 (wd1 s), .int .u64 (wd2 s), .int .u64 (wd3 s)] 24 := by rw [hV12]; exact (blk_setL k8 (by have := D14.out; omega) 0 [.int .u64 (wd0 r4), .int .u64 (wd1 r4), .int .u64 (wd2 r4), .int .u64 (wd3 r4)])
  have nhb0 : Below w.heap.size w V12 := by rw [hV12]; exact (blw_setL hb0 (by have := D9.out; omega) 0 [.int .u64 (wd0 r4), .int .u64 (wd1 r4), .int .u64 (wd2 r4), .int .u64 (wd3 r4)])
  clear k3 k4 k6 k8
  clear hb0
  clear hV12
  have k3 := nk3
  clear nk3
  have k4 := nk4
  clear nk4
  have k6 := nk6
  clear nk6
  have k8 := nk8
  clear nk8
  have hb0 := nhb0
  clear nhb0
  obtain ⟨r5, hr5⟩ : ∃ o_o : Int, dvq b e = o_o := ⟨_, rfl⟩
  have Hr5 := Lib.hid hr5
  clear hr5
  obtain ⟨r6, hr6⟩ : ∃ o_o : Int, dvr b e = o_o := ⟨_, rfl⟩
  have Hr6 := Lib.hid hr6
  clear hr6
  obtain ⟨z7, hz7⟩ : ∃ o_o : Bool, dvOk b e = o_o := ⟨_, rfl⟩
  have Hz7 := Lib.hid hz7
  clear hz7
  refine (Div_v b e r5 r6 z7 Hr5.out Hr6.out Hz7.out _ib _ie _).mono ?_
  rintro e U13 ⟨rfl, hn⟩
  replace k3 := k3.of hn
  replace k4 := k4.of hn
  replace k6 := k6.of hn
  replace k8 := k8.of hn
  replace hb0 := hb0.trans (hn.mono hb0.size)
  clear hn
  have c8_0 : U13.cell? ⟨(U6.heap.size + 1), 0, none⟩ = some (.int .u64 (wd0 s)) := k8.cell 0
  have c8_1 : U13.cell? ⟨(U6.heap.size + 1), 1, none⟩ = some (.int .u64 (wd1 s)) := k8.cell 1
  have c8_2 : U13.cell? ⟨(U6.heap.size + 1), 2, none⟩ = some (.int .u64 (wd2 s)) := k8.cell 2
  have c8_3 : U13.cell? ⟨(U6.heap.size + 1), 3, none⟩ = some (.int .u64 (wd3 s)) := k8.cell 3
  have f8_0 := k8.free 0
  have f8_1 := k8.free 1
  have f8_2 := k8.free 2
  have f8_3 := k8.free 3
  have l8 := k8.lt
  go_wp2_with fail
  clear c8_0 c8_1 c8_2 c8_3 f8_0 f8_1 f8_2 f8_3 l8
  first | refine calls_w ?_ | refine name_world ?_ | refine list_world ?_ | refine post_world ?_
  intro V14 hV14
  clear k6
  have D21 := Lib.hid k3.lt
  have D22 := Lib.hid k4.lt
  have D23 := Lib.hid k8.lt
  have D24 := Lib.hid hb0.size
  have nk3 : Blk V14 (w.heap.size + 1 + 1) #[.int .u64 (wd0 e), .int .u64 (wd1 e), .int .u64 (wd2 e), .int .u64 (wd3 e)] 24 := by rw [hV14]; exact (blk_setL k3 (by have := D12.out; omega) 0 [.int .u64 (wd0 r6), .int .u64 (wd1 r6), .int .u64 (wd2 r6), .int .u64 (wd3 r6)])
  have nk4 : Blk V14 U2.heap.size #[.int .u64 (wd0 c), .int .u64 (wd1 c), .int .u64 (wd2 c), .int .u64 (wd3 c)] 24 := by rw [hV14]; exact (blk_setL k4 (by have := D13.out; omega) 0 [.int .u64 (wd0 r6), .int .u64 (wd1 r6), .int .u64 (wd2 r6), .int .u64 (wd3 r6)])
  have nk8 : Blk V14 (U6.heap.size + 1) #[.int .u64 (wd0 r6), .int .u64 (wd1 r6), .int .u64 (wd2 r6), .int .u64 (wd3 r6)] 24 := by rw [hV14]; exact (blk_full _ [.int .u64 (wd0 r6), .int .u64 (wd1 r6), .int .u64 (wd2 r6), .int .u64 (wd3 r6)] k8 rfl)
  have nhb0 : Below w.heap.size w V14 := by rw [hV14]; exact (blw_setL hb0 (by have := D15.out; omega) 0 [.int .u64 (wd0 r6), .int .u64 (wd1 r6), .int .u64 (wd2 r6), .int .u64 (wd3 r6)])
  clear k3 k4 k8
  clear hb0
  clear hV14
  have k3 := nk3
  clear nk3
  have k4 := nk4
  clear nk4
  have k8 := nk8
  clear nk8
  have hb0 := nhb0
  clear nhb0
  refine (wawake_any _ (hG.of hb0)).mono ?_
  rintro e U15 ⟨rfl, hn⟩
  clear k8
  replace k3 := k3.of hn
  replace k4 := k4.of hn
  replace hb0 := hb0.trans (hn.mono hb0.size)
  clear hn
  go_wp2
  first | go_ret | go_ret2
  exact ⟨by first | rfl | (simp; done) | (simp; assumption), hb0⟩

set_option maxRecDepth 100000 in
set_option maxHeartbeats 4000000 in

theorem WCom_f2 (a : Int) (b : Int) (e : Int) (c : Int) (r : Int) (s : Int)   (hP0 : cmk a b = true) (hP1 : cmv a b = c) (hP2 : eq4 (wd0 c) (wd1 c) (wd2 c) (wd3 c) 0 0 0 0 = false) (hP3 : dvOk a c = true) (hP4 : dvOk b c = true) (hP5 : dvr a c = r) (hP6 : r.sign = 0) (hP7 : dvr b c = s) (hP8 : s.sign = 0) (hP9 : c.sign = 1) (hP10 : dvOk a e = true) (hP11 : dvOk b e = false) (_ic : InI c) (_ir : InI r) (_is : InI s) (_ia : InI a) (_ib : InI b) (_ie : InI e)  (w : World) (hG : Tab w) :
    Calls Tryd.prog 3 #[.agg #[.int .u64 (wd0 a), .int .u64 (wd1 a), .int .u64 (wd2 a), .int .u64 (wd3 a)], .agg #[.int .u64 (wd0 b), .int .u64 (wd1 b), .int .u64 (wd2 b), .int .u64 (wd3 b)], .agg #[.int .u64 (wd0 e), .int .u64 (wd1 e), .int .u64 (wd2 e), .int .u64 (wd3 e)]] w fun e w' => e = .returned (.bool true) ∧ Below w.heap.size w w' := by

  have HP0 := Lib.hid hP0
  clear hP0
  have HP1 := Lib.hid hP1
  clear hP1
  have HP3 := Lib.hid hP3
  clear hP3
  have HP4 := Lib.hid hP4
  clear hP4
  have HP5 := Lib.hid hP5
  clear hP5
  have HP6 := Lib.hid hP6
  clear hP6
  have HP7 := Lib.hid hP7
  clear hP7
  have HP8 := Lib.hid hP8
  clear hP8
  have HP9 := Lib.hid hP9
  clear hP9
  have HP10 := Lib.hid hP10
  clear hP10
  have HP11 := Lib.hid hP11
  clear hP11
  go_enter Tryd.func3, Tryd.ntmps3
  go_wp2_with fail
  first | refine calls_w ?_ | refine name_world ?_ | refine list_world ?_ | refine post_world ?_
  intro V1 hV1
  have hn : Below w.heap.size w V1 := by rw [hV1]; exact below_a3 _ _ _ _
  have nhb0 := hn
  have k1 : Blk V1 w.heap.size #[.int .u64 (wd0 a), .int .u64 (wd1 a), .int .u64 (wd2 a), .int .u64 (wd3 a)] 24 := by rw [hV1]; exact (((Blk.new _ _ _).alloc _).alloc _)
  have k2 : Blk V1 (w.heap.size + 1) #[.int .u64 (wd0 b), .int .u64 (wd1 b), .int .u64 (wd2 b), .int .u64 (wd3 b)] 24 := by rw [hV1]; exact ((Blk.new1 _ _ _ _).alloc _)
  have k3 : Blk V1 (w.heap.size + 1 + 1) #[.int .u64 (wd0 e), .int .u64 (wd1 e), .int .u64 (wd2 e), .int .u64 (wd3 e)] 24 := by rw [hV1]; exact (Blk.new2 _ _ _ _ _)
  clear hV1
  have hb0 := nhb0
  clear nhb0
  refine (Common_v a b c true HP1.out HP0.out _ia _ib _).mono ?_
  rintro e U2 ⟨rfl, hn⟩
  replace k1 := k1.of hn
  replace k2 := k2.of hn
  replace k3 := k3.of hn
  replace hb0 := hb0.trans (hn.mono hb0.size)
  clear hn
  have c1_0 : U2.cell? ⟨w.heap.size, 0, none⟩ = some (.int .u64 (wd0 a)) := k1.cell 0
  have c1_1 : U2.cell? ⟨w.heap.size, 1, none⟩ = some (.int .u64 (wd1 a)) := k1.cell 1
  have c1_2 : U2.cell? ⟨w.heap.size, 2, none⟩ = some (.int .u64 (wd2 a)) := k1.cell 2
  have c1_3 : U2.cell? ⟨w.heap.size, 3, none⟩ = some (.int .u64 (wd3 a)) := k1.cell 3
  have l1 := k1.lt
  go_wp2_with fail
  clear c1_0 c1_1 c1_2 c1_3 l1
  first | refine calls_w ?_ | refine name_world ?_ | refine list_world ?_ | refine post_world ?_
  intro V3 hV3
  have D1 := Lib.hid k1.lt
  have D2 := Lib.hid k2.lt
  have D3 := Lib.hid k3.lt
  have D4 := Lib.hid hb0.size
  have hn : Below U2.heap.size U2 V3 := by rw [hV3]; exact below_a1 _ _
  have nk1 := k1.of hn
  have nk2 := k2.of hn
  have nk3 := k3.of hn
  have nhb0 := hb0.trans (hn.mono hb0.size)
  clear hn
  have k4 : Blk V3 U2.heap.size #[.int .u64 (wd0 c), .int .u64 (wd1 c), .int .u64 (wd2 c), .int .u64 (wd3 c)] 24 := by rw [hV3]; exact (Blk.new _ _ _)
  clear k1 k2 k3
  clear hb0
  clear hV3
  have k1 := nk1
  clear nk1
  have k2 := nk2
  clear nk2
  have k3 := nk3
  clear nk3
  have hb0 := nhb0
  clear nhb0
  obtain ⟨r1, hr1⟩ : ∃ o_o : Int, dvq a c = o_o := ⟨_, rfl⟩
  have Hr1 := Lib.hid hr1
  clear hr1
  refine (Div_v a c r1 r true Hr1.out HP5.out HP3.out _ia _ic _).mono ?_
  rintro e U4 ⟨rfl, hn⟩
  replace k1 := k1.of hn
  replace k2 := k2.of hn
  replace k3 := k3.of hn
  replace k4 := k4.of hn
  replace hb0 := hb0.trans (hn.mono hb0.size)
  clear hn
  have c2_0 : U4.cell? ⟨(w.heap.size + 1), 0, none⟩ = some (.int .u64 (wd0 b)) := k2.cell 0
  have c2_1 : U4.cell? ⟨(w.heap.size + 1), 1, none⟩ = some (.int .u64 (wd1 b)) := k2.cell 1
  have c2_2 : U4.cell? ⟨(w.heap.size + 1), 2, none⟩ = some (.int .u64 (wd2 b)) := k2.cell 2
  have c2_3 : U4.cell? ⟨(w.heap.size + 1), 3, none⟩ = some (.int .u64 (wd3 b)) := k2.cell 3
  have l2 := k2.lt
  have l2_0 : w.heap.size < U4.heap.size := by have := k2.lt; omega
  have c4_0 : U4.cell? ⟨U2.heap.size, 0, none⟩ = some (.int .u64 (wd0 c)) := k4.cell 0
  have c4_1 : U4.cell? ⟨U2.heap.size, 1, none⟩ = some (.int .u64 (wd1 c)) := k4.cell 1
  have c4_2 : U4.cell? ⟨U2.heap.size, 2, none⟩ = some (.int .u64 (wd2 c)) := k4.cell 2
  have c4_3 : U4.cell? ⟨U2.heap.size, 3, none⟩ = some (.int .u64 (wd3 c)) := k4.cell 3
  have l4 := k4.lt
  go_wp2_with fail
  clear c2_0 c2_1 c2_2 c2_3 l2 l2_0 c4_0 c4_1 c4_2 c4_3 l4
  first | refine calls_w ?_ | refine name_world ?_ | refine list_world ?_ | refine post_world ?_
  intro V5 hV5
  have D5 := Lib.hid k1.lt
  have D6 := Lib.hid k2.lt
  have D7 := Lib.hid k3.lt
  have D8 := Lib.hid k4.lt
  have D9 := Lib.hid hb0.size
  have hn : Below U4.heap.size U4 V5 := by rw [hV5]; exact below_a2 _ _ _
  have nk1 := k1.of hn
  have nk2 := k2.of hn
  have nk3 := k3.of hn
  have nk4 := k4.of hn
  have nhb0 := hb0.trans (hn.mono hb0.size)
  clear hn
  have k5 : Blk V5 U4.heap.size #[.int .u64 (wd0 r1), .int .u64 (wd1 r1), .int .u64 (wd2 r1), .int .u64 (wd3 r1)] 24 := by rw [hV5]; exact ((Blk.new _ _ _).alloc _)
  have k6 : Blk V5 (U4.heap.size + 1) #[.int .u64 (wd0 r), .int .u64 (wd1 r), .int .u64 (wd2 r), .int .u64 (wd3 r)] 24 := by rw [hV5]; exact (Blk.new1 _ _ _ _)
  clear k1 k2 k3 k4
  clear hb0
  clear hV5
  have k1 := nk1
  clear nk1
  have k2 := nk2
  clear nk2
  have k3 := nk3
  clear nk3
  have k4 := nk4
  clear nk4
  have hb0 := nhb0
  clear nhb0
  obtain ⟨r2, hr2⟩ : ∃ o_o : Int, dvq b c = o_o := ⟨_, rfl⟩
  have Hr2 := Lib.hid hr2
  clear hr2
  refine (Div_v b c r2 s true Hr2.out HP7.out HP4.out _ib _ic _).mono ?_
  rintro e U6 ⟨rfl, hn⟩
  clear k5
  replace k1 := k1.of hn
  replace k2 := k2.of hn
  replace k3 := k3.of hn
  replace k4 := k4.of hn
  replace k6 := k6.of hn
  replace hb0 := hb0.trans (hn.mono hb0.size)
  clear hn
  have c6_0 : U6.cell? ⟨(U4.heap.size + 1), 0, none⟩ = some (.int .u64 (wd0 r)) := k6.cell 0
  have c6_1 : U6.cell? ⟨(U4.heap.size + 1), 1, none⟩ = some (.int .u64 (wd1 r)) := k6.cell 1
  have c6_2 : U6.cell? ⟨(U4.heap.size + 1), 2, none⟩ = some (.int .u64 (wd2 r)) := k6.cell 2
  have c6_3 : U6.cell? ⟨(U4.heap.size + 1), 3, none⟩ = some (.int .u64 (wd3 r)) := k6.cell 3
  have l6 := k6.lt
  have l6_0 : U4.heap.size < U6.heap.size := by have := k6.lt; omega
  go_wp2_with fail
  clear c6_0 c6_1 c6_2 c6_3 l6 l6_0
  first | refine calls_w ?_ | refine name_world ?_ | refine list_world ?_ | refine post_world ?_
  intro V7 hV7
  have D10 := Lib.hid k1.lt
  have D11 := Lib.hid k2.lt
  have D12 := Lib.hid k3.lt
  have D13 := Lib.hid k4.lt
  have D14 := Lib.hid k6.lt
  have D15 := Lib.hid hb0.size
  have hn : Below U6.heap.size U6 V7 := by rw [hV7]; exact below_a2 _ _ _
  have nk1 := k1.of hn
  have nk2 := k2.of hn
  have nk3 := k3.of hn
  have nk4 := k4.of hn
  have nk6 := k6.of hn
  have nhb0 := hb0.trans (hn.mono hb0.size)
  clear hn
  have k7 : Blk V7 U6.heap.size #[.int .u64 (wd0 r2), .int .u64 (wd1 r2), .int .u64 (wd2 r2), .int .u64 (wd3 r2)] 24 := by rw [hV7]; exact ((Blk.new _ _ _).alloc _)
  have k8 : Blk V7 (U6.heap.size + 1) #[.int .u64 (wd0 s), .int .u64 (wd1 s), .int .u64 (wd2 s), .int .u64 (wd3 s)] 24 := by rw [hV7]; exact (Blk.new1 _ _ _ _)
  clear k1 k2 k3 k4 k6
  clear hb0
  clear hV7
  have k1 := nk1
  clear nk1
  have k2 := nk2
  clear nk2
  have k3 := nk3
  clear nk3
  have k4 := nk4
  clear nk4
  have k6 := nk6
  clear nk6
  have hb0 := nhb0
  clear nhb0
  refine (Sign_v r 0 HP6.out _ir _).mono ?_
  rintro e U8 ⟨rfl, hn⟩
  clear k7
  replace k1 := k1.of hn
  replace k2 := k2.of hn
  replace k3 := k3.of hn
  replace k4 := k4.of hn
  replace k6 := k6.of hn
  replace k8 := k8.of hn
  replace hb0 := hb0.trans (hn.mono hb0.size)
  clear hn
  have c8_0 : U8.cell? ⟨(U6.heap.size + 1), 0, none⟩ = some (.int .u64 (wd0 s)) := k8.cell 0
  have c8_1 : U8.cell? ⟨(U6.heap.size + 1), 1, none⟩ = some (.int .u64 (wd1 s)) := k8.cell 1
  have c8_2 : U8.cell? ⟨(U6.heap.size + 1), 2, none⟩ = some (.int .u64 (wd2 s)) := k8.cell 2
  have c8_3 : U8.cell? ⟨(U6.heap.size + 1), 3, none⟩ = some (.int .u64 (wd3 s)) := k8.cell 3
  have l8 := k8.lt
  go_wp2_with fail
  clear c8_0 c8_1 c8_2 c8_3 l8
  refine (Sign_v s 0 HP8.out _is _).mono ?_
  rintro e U9 ⟨rfl, hn⟩
  replace k1 := k1.of hn
  replace k2 := k2.of hn
  replace k3 := k3.of hn
  replace k4 := k4.of hn
  replace k6 := k6.of hn
  replace k8 := k8.of hn
  replace hb0 := hb0.trans (hn.mono hb0.size)
  clear hn
  have c4_0 : U9.cell? ⟨U2.heap.size, 0, none⟩ = some (.int .u64 (wd0 c)) := k4.cell 0
  have c4_1 : U9.cell? ⟨U2.heap.size, 1, none⟩ = some (.int .u64 (wd1 c)) := k4.cell 1
  have c4_2 : U9.cell? ⟨U2.heap.size, 2, none⟩ = some (.int .u64 (wd2 c)) := k4.cell 2
  have c4_3 : U9.cell? ⟨U2.heap.size, 3, none⟩ = some (.int .u64 (wd3 c)) := k4.cell 3
  have l4 := k4.lt
  go_wp2_with fail
  clear c4_0 c4_1 c4_2 c4_3 l4
  refine (Sign_v c 1 HP9.out _ic _).mono ?_
  rintro e U10 ⟨rfl, hn⟩
  replace k1 := k1.of hn
  replace k2 := k2.of hn
  replace k3 := k3.of hn
  replace k4 := k4.of hn
  replace k6 := k6.of hn
  replace k8 := k8.of hn
  replace hb0 := hb0.trans (hn.mono hb0.size)
  clear hn
  have c1_0 : U10.cell? ⟨w.heap.size, 0, none⟩ = some (.int .u64 (wd0 a)) := k1.cell 0
  have c1_1 : U10.cell? ⟨w.heap.size, 1, none⟩ = some (.int .u64 (wd1 a)) := k1.cell 1
  have c1_2 : U10.cell? ⟨w.heap.size, 2, none⟩ = some (.int .u64 (wd2 a)) := k1.cell 2
  have c1_3 : U10.cell? ⟨w.heap.size, 3, none⟩ = some (.int .u64 (wd3 a)) := k1.cell 3
  have l1 := k1.lt
  have c3_0 : U10.cell? ⟨(w.heap.size + 1 + 1), 0, none⟩ = some (.int .u64 (wd0 e)) := k3.cell 0
  have c3_1 : U10.cell? ⟨(w.heap.size + 1 + 1), 1, none⟩ = some (.int .u64 (wd1 e)) := k3.cell 1
  have c3_2 : U10.cell? ⟨(w.heap.size + 1 + 1), 2, none⟩ = some (.int .u64 (wd2 e)) := k3.cell 2
  have c3_3 : U10.cell? ⟨(w.heap.size + 1 + 1), 3, none⟩ = some (.int .u64 (wd3 e)) := k3.cell 3
  have l3 := k3.lt
  go_wp2_with fail
  clear c1_0 c1_1 c1_2 c1_3 l1 c3_0 c3_1 c3_2 c3_3 l3
  obtain ⟨r3, hr3⟩ : ∃ o_o : Int, dvq a e = o_o := ⟨_, rfl⟩
  have Hr3 := Lib.hid hr3
  clear hr3
  obtain ⟨r4, hr4⟩ : ∃ o_o : Int, dvr a e = o_o := ⟨_, rfl⟩
  have Hr4 := Lib.hid hr4
  clear hr4
  refine (Div_v a e r3 r4 true Hr3.out Hr4.out HP10.out _ia _ie _).mono ?_
  rintro e U11 ⟨rfl, hn⟩
  clear k1
  replace k2 := k2.of hn
  replace k3 := k3.of hn
  replace k4 := k4.of hn
  replace k6 := k6.of hn
  replace k8 := k8.of hn
  replace hb0 := hb0.trans (hn.mono hb0.size)
  clear hn
  have c2_0 : U11.cell? ⟨(w.heap.size + 1), 0, none⟩ = some (.int .u64 (wd0 b)) := k2.cell 0
  have c2_1 : U11.cell? ⟨(w.heap.size + 1), 1, none⟩ = some (.int .u64 (wd1 b)) := k2.cell 1
  have c2_2 : U11.cell? ⟨(w.heap.size + 1), 2, none⟩ = some (.int .u64 (wd2 b)) := k2.cell 2
  have c2_3 : U11.cell? ⟨(w.heap.size + 1), 3, none⟩ = some (.int .u64 (wd3 b)) := k2.cell 3
  have l2 := k2.lt
  have c3_0 : U11.cell? ⟨(w.heap.size + 1 + 1), 0, none⟩ = some (.int .u64 (wd0 e)) := k3.cell 0
  have c3_1 : U11.cell? ⟨(w.heap.size + 1 + 1), 1, none⟩ = some (.int .u64 (wd1 e)) := k3.cell 1
  have c3_2 : U11.cell? ⟨(w.heap.size + 1 + 1), 2, none⟩ = some (.int .u64 (wd2 e)) := k3.cell 2
  have c3_3 : U11.cell? ⟨(w.heap.size + 1 + 1), 3, none⟩ = some (.int .u64 (wd3 e)) := k3.cell 3
  have l3 := k3.lt
  have c6_0 : U11.cell? ⟨(U4.heap.size + 1), 0, none⟩ = some (.int .u64 (wd0 r)) := k6.cell 0
  have c6_1 : U11.cell? ⟨(U4.heap.size + 1), 1, none⟩ = some (.int .u64 (wd1 r)) := k6.cell 1
  have c6_2 : U11.cell? ⟨(U4.heap.size + 1), 2, none⟩ = some (.int .u64 (wd2 r)) := k6.cell 2
  have c6_3 : U11.cell? ⟨(U4.heap.size + 1), 3, none⟩ = some (.int .u64 (wd3 r)) := k6.cell 3
  have f6_0 := k6.free 0
  have f6_1 := k6.free 1
  have f6_2 := k6.free 2
  have f6_3 := k6.free 3
  have l6 := k6.lt
  have p2_6 : (w.heap.size + 1) ≠ (U4.heap.size + 1) := (by have := D6.out; omega)
  have p3_6 : (w.heap.size + 1 + 1) ≠ (U4.heap.size + 1) := (by have := D7.out; omega)
  go_wp2_with fail
  clear c2_0 c2_1 c2_2 c2_3 l2 c3_0 c3_1 c3_2 c3_3 l3 c6_0 c6_1 c6_2 c6_3 f6_0 f6_1 f6_2 f6_3 l6 p2_6 p3_6
  first | refine calls_w ?_ | refine name_world ?_ | refine list_world ?_ | refine post_world ?_
  intro V12 hV12
  clear k2
  have D16 := Lib.hid k3.lt
  have D17 := Lib.hid k4.lt
  have D18 := Lib.hid k6.lt
  have D19 := Lib.hid k8.lt
  have D20 := Lib.hid hb0.size
  have nk3 : Blk V12 (w.heap.size + 1 + 1) #[.int .u64 (wd0 e), .int .u64 (wd1 e), .int .u64 (wd2 e), .int .u64 (wd3 e)] 24 := by rw [hV12]; exact (blk_setL k3 (by have := D7.out; omega) 0 [.int .u64 (wd0 r4), .int .u64 (wd1 r4), .int .u64 (wd2 r4), .int .u64 (wd3 r4)])
  have nk4 : Blk V12 U2.heap.size #[.int .u64 (wd0 c), .int .u64 (wd1 c), .int .u64 (wd2 c), .int .u64 (wd3 c)] 24 := by rw [hV12]; exact (blk_setL k4 (by have := D8.out; omega) 0 [.int .u64 (wd0 r4), .int .u64 (wd1 r4), .int .u64 (wd2 r4), .int .u64 (wd3 r4)])
  have nk6 : Blk V12 (U4.heap.size + 1) #[.int .u64 (wd0 r4), .int .u64 (wd1 r4), .int .u64 (wd2 r4), .int .u64 (wd3 r4)] 24 := by rw [hV12]; exact (blk_full _ [.int .u64 (wd0 r4), .int .u64 (wd1 r4), .int .u64 (wd2 r4), .int .u64 (wd3 r4)] k6 rfl)
  have nk8 : Blk V12 (U6.heap.size + 1) #[.int .u64 (wd0 s), .int .u64 (wd1 s), .int .u64 (wd2 s), .int .u64 (wd3 s)] 24 := by rw [hV12]; exact (blk_setL k8 (by have := D14.out; omega) 0 [.int .u64 (wd0 r4), .int .u64 (wd1 r4), .int .u64 (wd2 r4), .int .u64 (wd3 r4)])
  have nhb0 : Below w.heap.size w V12 := by rw [hV12]; exact (blw_setL hb0 (by have := D9.out; omega) 0 [.int .u64 (wd0 r4), .int .u64 (wd1 r4), .int .u64 (wd2 r4), .int .u64 (wd3 r4)])
  clear k3 k4 k6 k8
  clear hb0
  clear hV12
  have k3 := nk3
  clear nk3
  have k4 := nk4
  clear nk4
  have k6 := nk6
  clear nk6
  have k8 := nk8
  clear nk8
  have hb0 := nhb0
  clear nhb0
  obtain ⟨r5, hr5⟩ : ∃ o_o : Int, dvq b e = o_o := ⟨_, rfl⟩
  have Hr5 := Lib.hid hr5
  clear hr5
  obtain ⟨r6, hr6⟩ : ∃ o_o : Int, dvr b e = o_o := ⟨_, rfl⟩
  have Hr6 := Lib.hid hr6
  clear hr6
  refine (Div_v b e r5 r6 false Hr5.out Hr6.out HP11.out _ib _ie _).mono ?_
  rintro e U13 ⟨rfl, hn⟩
  replace k3 := k3.of hn
  replace k4 := k4.of hn
  replace k6 := k6.of hn
  replace k8 := k8.of hn
  replace hb0 := hb0.trans (hn.mono hb0.size)
  clear hn
  have c8_0 : U13.cell? ⟨(U6.heap.size + 1), 0, none⟩ = some (.int .u64 (wd0 s)) := k8.cell 0
  have c8_1 : U13.cell? ⟨(U6.heap.size + 1), 1, none⟩ = some (.int .u64 (wd1 s)) := k8.cell 1
  have c8_2 : U13.cell? ⟨(U6.heap.size + 1), 2, none⟩ = some (.int .u64 (wd2 s)) := k8.cell 2
  have c8_3 : U13.cell? ⟨(U6.heap.size + 1), 3, none⟩ = some (.int .u64 (wd3 s)) := k8.cell 3
  have f8_0 := k8.free 0
  have f8_1 := k8.free 1
  have f8_2 := k8.free 2
  have f8_3 := k8.free 3
  have l8 := k8.lt
  go_wp2_with fail
  clear c8_0 c8_1 c8_2 c8_3 f8_0 f8_1 f8_2 f8_3 l8
  first | refine calls_w ?_ | refine name_world ?_ | refine list_world ?_ | refine post_world ?_
  intro V14 hV14
  clear k6
  have D21 := Lib.hid k3.lt
  have D22 := Lib.hid k4.lt
  have D23 := Lib.hid k8.lt
  have D24 := Lib.hid hb0.size
  have nk3 : Blk V14 (w.heap.size + 1 + 1) #[.int .u64 (wd0 e), .int .u64 (wd1 e), .int .u64 (wd2 e), .int .u64 (wd3 e)] 24 := by rw [hV14]; exact (blk_setL k3 (by have := D12.out; omega) 0 [.int .u64 (wd0 r6), .int .u64 (wd1 r6), .int .u64 (wd2 r6), .int .u64 (wd3 r6)])
  have nk4 : Blk V14 U2.heap.size #[.int .u64 (wd0 c), .int .u64 (wd1 c), .int .u64 (wd2 c), .int .u64 (wd3 c)] 24 := by rw [hV14]; exact (blk_setL k4 (by have := D13.out; omega) 0 [.int .u64 (wd0 r6), .int .u64 (wd1 r6), .int .u64 (wd2 r6), .int .u64 (wd3 r6)])
  have nk8 : Blk V14 (U6.heap.size + 1) #[.int .u64 (wd0 r6), .int .u64 (wd1 r6), .int .u64 (wd2 r6), .int .u64 (wd3 r6)] 24 := by rw [hV14]; exact (blk_full _ [.int .u64 (wd0 r6), .int .u64 (wd1 r6), .int .u64 (wd2 r6), .int .u64 (wd3 r6)] k8 rfl)
  have nhb0 : Below w.heap.size w V14 := by rw [hV14]; exact (blw_setL hb0 (by have := D15.out; omega) 0 [.int .u64 (wd0 r6), .int .u64 (wd1 r6), .int .u64 (wd2 r6), .int .u64 (wd3 r6)])
  clear k3 k4 k8
  clear hb0
  clear hV14
  have k3 := nk3
  clear nk3
  have k4 := nk4
  clear nk4
  have k8 := nk8
  clear nk8
  have hb0 := nhb0
  clear nhb0
  refine (wawake_any _ (hG.of hb0)).mono ?_
  rintro e U15 ⟨rfl, hn⟩
  clear k8
  replace k3 := k3.of hn
  replace k4 := k4.of hn
  replace hb0 := hb0.trans (hn.mono hb0.size)
  clear hn
  go_wp2
  first | go_ret | go_ret2
  exact ⟨by first | rfl | (simp; done) | (simp; assumption), hb0⟩

set_option maxRecDepth 100000 in
set_option maxHeartbeats 4000000 in

theorem WCom_f3 (a : Int) (b : Int) (e : Int) (c : Int) (r : Int) (s : Int) (u : Int) (z : Int) (v : Int)   (hP0 : cmk a b = true) (hP1 : cmv a b = c) (hP2 : eq4 (wd0 c) (wd1 c) (wd2 c) (wd3 c) 0 0 0 0 = false) (hP3 : dvOk a c = true) (hP4 : dvOk b c = true) (hP5 : dvr a c = r) (hP6 : r.sign = 0) (hP7 : dvr b c = s) (hP8 : s.sign = 0) (hP9 : c.sign = 1) (hP10 : dvOk a e = true) (hP11 : dvOk b e = true) (hP12 : dvr a e = u) (hP13 : u.sign = z) (hP14 : (z == 0) = false) (hP15 : dvr b e = v) (_ic : InI c) (_ir : InI r) (_is : InI s) (_iu : InI u) (_iv : InI v) (_ia : InI a) (_ib : InI b) (_ie : InI e)  (w : World) (hG : Tab w) :
    Calls Tryd.prog 3 #[.agg #[.int .u64 (wd0 a), .int .u64 (wd1 a), .int .u64 (wd2 a), .int .u64 (wd3 a)], .agg #[.int .u64 (wd0 b), .int .u64 (wd1 b), .int .u64 (wd2 b), .int .u64 (wd3 b)], .agg #[.int .u64 (wd0 e), .int .u64 (wd1 e), .int .u64 (wd2 e), .int .u64 (wd3 e)]] w fun e w' => e = .returned (.bool true) ∧ Below w.heap.size w w' := by

  have HP0 := Lib.hid hP0
  clear hP0
  have HP1 := Lib.hid hP1
  clear hP1
  have HP3 := Lib.hid hP3
  clear hP3
  have HP4 := Lib.hid hP4
  clear hP4
  have HP5 := Lib.hid hP5
  clear hP5
  have HP6 := Lib.hid hP6
  clear hP6
  have HP7 := Lib.hid hP7
  clear hP7
  have HP8 := Lib.hid hP8
  clear hP8
  have HP9 := Lib.hid hP9
  clear hP9
  have HP10 := Lib.hid hP10
  clear hP10
  have HP11 := Lib.hid hP11
  clear hP11
  have HP12 := Lib.hid hP12
  clear hP12
  have HP13 := Lib.hid hP13
  clear hP13
  have nP14 : ¬ z = 0 := by simpa using hP14
  have HP15 := Lib.hid hP15
  clear hP15
  go_enter Tryd.func3, Tryd.ntmps3
  go_wp2_with fail
  first | refine calls_w ?_ | refine name_world ?_ | refine list_world ?_ | refine post_world ?_
  intro V1 hV1
  have hn : Below w.heap.size w V1 := by rw [hV1]; exact below_a3 _ _ _ _
  have nhb0 := hn
  have k1 : Blk V1 w.heap.size #[.int .u64 (wd0 a), .int .u64 (wd1 a), .int .u64 (wd2 a), .int .u64 (wd3 a)] 24 := by rw [hV1]; exact (((Blk.new _ _ _).alloc _).alloc _)
  have k2 : Blk V1 (w.heap.size + 1) #[.int .u64 (wd0 b), .int .u64 (wd1 b), .int .u64 (wd2 b), .int .u64 (wd3 b)] 24 := by rw [hV1]; exact ((Blk.new1 _ _ _ _).alloc _)
  have k3 : Blk V1 (w.heap.size + 1 + 1) #[.int .u64 (wd0 e), .int .u64 (wd1 e), .int .u64 (wd2 e), .int .u64 (wd3 e)] 24 := by rw [hV1]; exact (Blk.new2 _ _ _ _ _)
  clear hV1
  have hb0 := nhb0
  clear nhb0
  refine (Common_v a b c true HP1.out HP0.out _ia _ib _).mono ?_
  rintro e U2 ⟨rfl, hn⟩
  replace k1 := k1.of hn
  replace k2 := k2.of hn
  replace k3 := k3.of hn
  replace hb0 := hb0.trans (hn.mono hb0.size)
  clear hn
  have c1_0 : U2.cell? ⟨w.heap.size, 0, none⟩ = some (.int .u64 (wd0 a)) := k1.cell 0
  have c1_1 : U2.cell? ⟨w.heap.size, 1, none⟩ = some (.int .u64 (wd1 a)) := k1.cell 1
  have c1_2 : U2.cell? ⟨w.heap.size, 2, none⟩ = some (.int .u64 (wd2 a)) := k1.cell 2
  have c1_3 : U2.cell? ⟨w.heap.size, 3, none⟩ = some (.int .u64 (wd3 a)) := k1.cell 3
  have l1 := k1.lt
  go_wp2_with fail
  clear c1_0 c1_1 c1_2 c1_3 l1
  first | refine calls_w ?_ | refine name_world ?_ | refine list_world ?_ | refine post_world ?_
  intro V3 hV3
  have D1 := Lib.hid k1.lt
  have D2 := Lib.hid k2.lt
  have D3 := Lib.hid k3.lt
  have D4 := Lib.hid hb0.size
  have hn : Below U2.heap.size U2 V3 := by rw [hV3]; exact below_a1 _ _
  have nk1 := k1.of hn
  have nk2 := k2.of hn
  have nk3 := k3.of hn
  have nhb0 := hb0.trans (hn.mono hb0.size)
  clear hn
  have k4 : Blk V3 U2.heap.size #[.int .u64 (wd0 c), .int .u64 (wd1 c), .int .u64 (wd2 c), .int .u64 (wd3 c)] 24 := by rw [hV3]; exact (Blk.new _ _ _)
  clear k1 k2 k3
  clear hb0
  clear hV3
  have k1 := nk1
  clear nk1
  have k2 := nk2
  clear nk2
  have k3 := nk3
  clear nk3
  have hb0 := nhb0
  clear nhb0
  obtain ⟨r1, hr1⟩ : ∃ o_o : Int, dvq a c = o_o := ⟨_, rfl⟩
  have Hr1 := Lib.hid hr1
  clear hr1
  refine (Div_v a c r1 r true Hr1.out HP5.out HP3.out _ia _ic _).mono ?_
  rintro e U4 ⟨rfl, hn⟩
  replace k1 := k1.of hn
  replace k2 := k2.of hn
  replace k3 := k3.of hn
  replace k4 := k4.of hn
  replace hb0 := hb0.trans (hn.mono hb0.size)
  clear hn
  have c2_0 : U4.cell? ⟨(w.heap.size + 1), 0, none⟩ = some (.int .u64 (wd0 b)) := k2.cell 0
  have c2_1 : U4.cell? ⟨(w.heap.size + 1), 1, none⟩ = some (.int .u64 (wd1 b)) := k2.cell 1
  have c2_2 : U4.cell? ⟨(w.heap.size + 1), 2, none⟩ = some (.int .u64 (wd2 b)) := k2.cell 2
  have c2_3 : U4.cell? ⟨(w.heap.size + 1), 3, none⟩ = some (.int .u64 (wd3 b)) := k2.cell 3
  have l2 := k2.lt
  have l2_0 : w.heap.size < U4.heap.size := by have := k2.lt; omega
  have c4_0 : U4.cell? ⟨U2.heap.size, 0, none⟩ = some (.int .u64 (wd0 c)) := k4.cell 0
  have c4_1 : U4.cell? ⟨U2.heap.size, 1, none⟩ = some (.int .u64 (wd1 c)) := k4.cell 1
  have c4_2 : U4.cell? ⟨U2.heap.size, 2, none⟩ = some (.int .u64 (wd2 c)) := k4.cell 2
  have c4_3 : U4.cell? ⟨U2.heap.size, 3, none⟩ = some (.int .u64 (wd3 c)) := k4.cell 3
  have l4 := k4.lt
  go_wp2_with fail
  clear c2_0 c2_1 c2_2 c2_3 l2 l2_0 c4_0 c4_1 c4_2 c4_3 l4
  first | refine calls_w ?_ | refine name_world ?_ | refine list_world ?_ | refine post_world ?_
  intro V5 hV5
  have D5 := Lib.hid k1.lt
  have D6 := Lib.hid k2.lt
  have D7 := Lib.hid k3.lt
  have D8 := Lib.hid k4.lt
  have D9 := Lib.hid hb0.size
  have hn : Below U4.heap.size U4 V5 := by rw [hV5]; exact below_a2 _ _ _
  have nk1 := k1.of hn
  have nk2 := k2.of hn
  have nk3 := k3.of hn
  have nk4 := k4.of hn
  have nhb0 := hb0.trans (hn.mono hb0.size)
  clear hn
  have k5 : Blk V5 U4.heap.size #[.int .u64 (wd0 r1), .int .u64 (wd1 r1), .int .u64 (wd2 r1), .int .u64 (wd3 r1)] 24 := by rw [hV5]; exact ((Blk.new _ _ _).alloc _)
  have k6 : Blk V5 (U4.heap.size + 1) #[.int .u64 (wd0 r), .int .u64 (wd1 r), .int .u64 (wd2 r), .int .u64 (wd3 r)] 24 := by rw [hV5]; exact (Blk.new1 _ _ _ _)
  clear k1 k2 k3 k4
  clear hb0
  clear hV5
  have k1 := nk1
  clear nk1
  have k2 := nk2
  clear nk2
  have k3 := nk3
  clear nk3
  have k4 := nk4
  clear nk4
  have hb0 := nhb0
  clear nhb0
  obtain ⟨r2, hr2⟩ : ∃ o_o : Int, dvq b c = o_o := ⟨_, rfl⟩
  have Hr2 := Lib.hid hr2
  clear hr2
  refine (Div_v b c r2 s true Hr2.out HP7.out HP4.out _ib _ic _).mono ?_
  rintro e U6 ⟨rfl, hn⟩
  clear k5
  replace k1 := k1.of hn
  replace k2 := k2.of hn
  replace k3 := k3.of hn
  replace k4 := k4.of hn
  replace k6 := k6.of hn
  replace hb0 := hb0.trans (hn.mono hb0.size)
  clear hn
  have c6_0 : U6.cell? ⟨(U4.heap.size + 1), 0, none⟩ = some (.int .u64 (wd0 r)) := k6.cell 0
  have c6_1 : U6.cell? ⟨(U4.heap.size + 1), 1, none⟩ = some (.int .u64 (wd1 r)) := k6.cell 1
  have c6_2 : U6.cell? ⟨(U4.heap.size + 1), 2, none⟩ = some (.int .u64 (wd2 r)) := k6.cell 2
  have c6_3 : U6.cell? ⟨(U4.heap.size + 1), 3, none⟩ = some (.int .u64 (wd3 r)) := k6.cell 3
  have l6 := k6.lt
  have l6_0 : U4.heap.size < U6.heap.size := by have := k6.lt; omega
  go_wp2_with fail
  clear c6_0 c6_1 c6_2 c6_3 l6 l6_0
  first | refine calls_w ?_ | refine name_world ?_ | refine list_world ?_ | refine post_world ?_
  intro V7 hV7
  have D10 := Lib.hid k1.lt
  have D11 := Lib.hid k2.lt
  have D12 := Lib.hid k3.lt
  have D13 := Lib.hid k4.lt
  have D14 := Lib.hid k6.lt
  have D15 := Lib.hid hb0.size
  have hn : Below U6.heap.size U6 V7 := by rw [hV7]; exact below_a2 _ _ _
  have nk1 := k1.of hn
  have nk2 := k2.of hn
  have nk3 := k3.of hn
  have nk4 := k4.of hn
  have nk6 := k6.of hn
  have nhb0 := hb0.trans (hn.mono hb0.size)
  clear hn
  have k7 : Blk V7 U6.heap.size #[.int .u64 (wd0 r2), .int .u64 (wd1 r2), .int .u64 (wd2 r2), .int .u64 (wd3 r2)] 24 := by rw [hV7]; exact ((Blk.new _ _ _).alloc _)
  have k8 : Blk V7 (U6.heap.size + 1) #[.int .u64 (wd0 s), .int .u64 (wd1 s), .int .u64 (wd2 s), .int .u64 (wd3 s)] 24 := by rw [hV7]; exact (Blk.new1 _ _ _ _)
  clear k1 k2 k3 k4 k6
  clear hb0
  clear hV7
  have k1 := nk1
  clear nk1
  have k2 := nk2
  clear nk2
  have k3 := nk3
  clear nk3
  have k4 := nk4
  clear nk4
  have k6 := nk6
  clear nk6
  have hb0 := nhb0
  clear nhb0
  refine (Sign_v r 0 HP6.out _ir _).mono ?_
  rintro e U8 ⟨rfl, hn⟩
  clear k7
  replace k1 := k1.of hn
  replace k2 := k2.of hn
  replace k3 := k3.of hn
  replace k4 := k4.of hn
  replace k6 := k6.of hn
  replace k8 := k8.of hn
  replace hb0 := hb0.trans (hn.mono hb0.size)
  clear hn
  have c8_0 : U8.cell? ⟨(U6.heap.size + 1), 0, none⟩ = some (.int .u64 (wd0 s)) := k8.cell 0
  have c8_1 : U8.cell? ⟨(U6.heap.size + 1), 1, none⟩ = some (.int .u64 (wd1 s)) := k8.cell 1
  have c8_2 : U8.cell? ⟨(U6.heap.size + 1), 2, none⟩ = some (.int .u64 (wd2 s)) := k8.cell 2
  have c8_3 : U8.cell? ⟨(U6.heap.size + 1), 3, none⟩ = some (.int .u64 (wd3 s)) := k8.cell 3
  have l8 := k8.lt
  go_wp2_with fail
  clear c8_0 c8_1 c8_2 c8_3 l8
  refine (Sign_v s 0 HP8.out _is _).mono ?_
  rintro e U9 ⟨rfl, hn⟩
  replace k1 := k1.of hn
  replace k2 := k2.of hn
  replace k3 := k3.of hn
  replace k4 := k4.of hn
  replace k6 := k6.of hn
  replace k8 := k8.of hn
  replace hb0 := hb0.trans (hn.mono hb0.size)
  clear hn
  have c4_0 : U9.cell? ⟨U2.heap.size, 0, none⟩ = some (.int .u64 (wd0 c)) := k4.cell 0
  have c4_1 : U9.cell? ⟨U2.heap.size, 1, none⟩ = some (.int .u64 (wd1 c)) := k4.cell 1
  have c4_2 : U9.cell? ⟨U2.heap.size, 2, none⟩ = some (.int .u64 (wd2 c)) := k4.cell 2
  have c4_3 : U9.cell? ⟨U2.heap.size, 3, none⟩ = some (.int .u64 (wd3 c)) := k4.cell 3
  have l4 := k4.lt
  go_wp2_with fail
  clear c4_0 c4_1 c4_2 c4_3 l4
  refine (Sign_v c 1 HP9.out _ic _).mono ?_
  rintro e U10 ⟨rfl, hn⟩
  replace k1 := k1.of hn
  replace k2 := k2.of hn
  replace k3 := k3.of hn
  replace k4 := k4.of hn
  replace k6 := k6.of hn
  replace k8 := k8.of hn
  replace hb0 := hb0.trans (hn.mono hb0.size)
  clear hn
  have c1_0 : U10.cell? ⟨w.heap.size, 0, none⟩ = some (.int .u64 (wd0 a)) := k1.cell 0
  have c1_1 : U10.cell? ⟨w.heap.size, 1, none⟩ = some (.int .u64 (wd1 a)) := k1.cell 1
  have c1_2 : U10.cell? ⟨w.heap.size, 2, none⟩ = some (.int .u64 (wd2 a)) := k1.cell 2
  have c1_3 : U10.cell? ⟨w.heap.size, 3, none⟩ = some (.int .u64 (wd3 a)) := k1.cell 3
  have l1 := k1.lt
  have c3_0 : U10.cell? ⟨(w.heap.size + 1 + 1), 0, none⟩ = some (.int .u64 (wd0 e)) := k3.cell 0
  have c3_1 : U10.cell? ⟨(w.heap.size + 1 + 1), 1, none⟩ = some (.int .u64 (wd1 e)) := k3.cell 1
  have c3_2 : U10.cell? ⟨(w.heap.size + 1 + 1), 2, none⟩ = some (.int .u64 (wd2 e)) := k3.cell 2
  have c3_3 : U10.cell? ⟨(w.heap.size + 1 + 1), 3, none⟩ = some (.int .u64 (wd3 e)) := k3.cell 3
  have l3 := k3.lt
  go_wp2_with fail
  clear c1_0 c1_1 c1_2 c1_3 l1 c3_0 c3_1 c3_2 c3_3 l3
  obtain ⟨r3, hr3⟩ : ∃ o_o : Int, dvq a e = o_o := ⟨_, rfl⟩
  have Hr3 := Lib.hid hr3
  clear hr3
  refine (Div_v a e r3 u true Hr3.out HP12.out HP10.out _ia _ie _).mono ?_
  rintro e U11 ⟨rfl, hn⟩
  clear k1
  replace k2 := k2.of hn
  replace k3 := k3.of hn
  replace k4 := k4.of hn
  replace k6 := k6.of hn
  replace k8 := k8.of hn
  replace hb0 := hb0.trans (hn.mono hb0.size)
  clear hn
  have c2_0 : U11.cell? ⟨(w.heap.size + 1), 0, none⟩ = some (.int .u64 (wd0 b)) := k2.cell 0
  have c2_1 : U11.cell? ⟨(w.heap.size + 1), 1, none⟩ = some (.int .u64 (wd1 b)) := k2.cell 1
  have c2_2 : U11.cell? ⟨(w.heap.size + 1), 2, none⟩ = some (.int .u64 (wd2 b)) := k2.cell 2
  have c2_3 : U11.cell? ⟨(w.heap.size + 1), 3, none⟩ = some (.int .u64 (wd3 b)) := k2.cell 3
  have l2 := k2.lt
  have c3_0 : U11.cell? ⟨(w.heap.size + 1 + 1), 0, none⟩ = some (.int .u64 (wd0 e)) := k3.cell 0
  have c3_1 : U11.cell? ⟨(w.heap.size + 1 + 1), 1, none⟩ = some (.int .u64 (wd1 e)) := k3.cell 1
  have c3_2 : U11.cell? ⟨(w.heap.size + 1 + 1), 2, none⟩ = some (.int .u64 (wd2 e)) := k3.cell 2
  have c3_3 : U11.cell? ⟨(w.heap.size + 1 + 1), 3, none⟩ = some (.int .u64 (wd3 e)) := k3.cell 3
  have l3 := k3.lt
  have c6_0 : U11.cell? ⟨(U4.heap.size + 1), 0, none⟩ = some (.int .u64 (wd0 r)) := k6.cell 0
  have c6_1 : U11.cell? ⟨(U4.heap.size + 1), 1, none⟩ = some (.int .u64 (wd1 r)) := k6.cell 1
  have c6_2 : U11.cell? ⟨(U4.heap.size + 1), 2, none⟩ = some (.int .u64 (wd2 r)) := k6.cell 2
  have c6_3 : U11.cell? ⟨(U4.heap.size + 1), 3, none⟩ = some (.int .u64 (wd3 r)) := k6.cell 3
  have f6_0 := k6.free 0
  have f6_1 := k6.free 1
  have f6_2 := k6.free 2
  have f6_3 := k6.free 3
  have l6 := k6.lt
  have p2_6 : (w.heap.size + 1) ≠ (U4.heap.size + 1) := (by have := D6.out; omega)
  have p3_6 : (w.heap.size + 1 + 1) ≠ (U4.heap.size + 1) := (by have := D7.out; omega)
  go_wp2_with fail
  clear c2_0 c2_1 c2_2 c2_3 l2 c3_0 c3_1 c3_2 c3_3 l3 c6_0 c6_1 c6_2 c6_3 f6_0 f6_1 f6_2 f6_3 l6 p2_6 p3_6
  first | refine calls_w ?_ | refine name_world ?_ | refine list_world ?_ | refine post_world ?_
  intro V12 hV12
  clear k2
  have D16 := Lib.hid k3.lt
  have D17 := Lib.hid k4.lt
  have D18 := Lib.hid k6.lt
  have D19 := Lib.hid k8.lt
  have D20 := Lib.hid hb0.size
  have nk3 : Blk V12 (w.heap.size + 1 + 1) #[.int .u64 (wd0 e), .int .u64 (wd1 e), .int .u64 (wd2 e), .int .u64 (wd3 e)] 24 := by rw [hV12]; exact (blk_setL k3 (by have := D7.out; omega) 0 [.int .u64 (wd0 u), .int .u64 (wd1 u), .int .u64 (wd2 u), .int .u64 (wd3 u)])
  have nk4 : Blk V12 U2.heap.size #[.int .u64 (wd0 c), .int .u64 (wd1 c), .int .u64 (wd2 c), .int .u64 (wd3 c)] 24 := by rw [hV12]; exact (blk_setL k4 (by have := D8.out; omega) 0 [.int .u64 (wd0 u), .int .u64 (wd1 u), .int .u64 (wd2 u), .int .u64 (wd3 u)])
  have nk6 : Blk V12 (U4.heap.size + 1) #[.int .u64 (wd0 u), .int .u64 (wd1 u), .int .u64 (wd2 u), .int .u64 (wd3 u)] 24 := by rw [hV12]; exact (blk_full _ [.int .u64 (wd0 u), .int .u64 (wd1 u), .int .u64 (wd2 u), .int .u64 (wd3 u)] k6 rfl)
  have nk8 : Blk V12 (U6.heap.size + 1) #[.int .u64 (wd0 s), .int .u64 (wd1 s), .int .u64 (wd2 s), .int .u64 (wd3 s)] 24 := by rw [hV12]; exact (blk_setL k8 (by have := D14.out; omega) 0 [.int .u64 (wd0 u), .int .u64 (wd1 u), .int .u64 (wd2 u), .int .u64 (wd3 u)])
  have nhb0 : Below w.heap.size w V12 := by rw [hV12]; exact (blw_setL hb0 (by have := D9.out; omega) 0 [.int .u64 (wd0 u), .int .u64 (wd1 u), .int .u64 (wd2 u), .int .u64 (wd3 u)])
  clear k3 k4 k6 k8
  clear hb0
  clear hV12
  have k3 := nk3
  clear nk3
  have k4 := nk4
  clear nk4
  have k6 := nk6
  clear nk6
  have k8 := nk8
  clear nk8
  have hb0 := nhb0
  clear nhb0
  obtain ⟨r4, hr4⟩ : ∃ o_o : Int, dvq b e = o_o := ⟨_, rfl⟩
  have Hr4 := Lib.hid hr4
  clear hr4
  refine (Div_v b e r4 v true Hr4.out HP15.out HP11.out _ib _ie _).mono ?_
  rintro e U13 ⟨rfl, hn⟩
  replace k3 := k3.of hn
  replace k4 := k4.of hn
  replace k6 := k6.of hn
  replace k8 := k8.of hn
  replace hb0 := hb0.trans (hn.mono hb0.size)
  clear hn
  have c6_0 : U13.cell? ⟨(U4.heap.size + 1), 0, none⟩ = some (.int .u64 (wd0 u)) := k6.cell 0
  have c6_1 : U13.cell? ⟨(U4.heap.size + 1), 1, none⟩ = some (.int .u64 (wd1 u)) := k6.cell 1
  have c6_2 : U13.cell? ⟨(U4.heap.size + 1), 2, none⟩ = some (.int .u64 (wd2 u)) := k6.cell 2
  have c6_3 : U13.cell? ⟨(U4.heap.size + 1), 3, none⟩ = some (.int .u64 (wd3 u)) := k6.cell 3
  have l6 := k6.lt
  have c8_0 : U13.cell? ⟨(U6.heap.size + 1), 0, none⟩ = some (.int .u64 (wd0 s)) := k8.cell 0
  have c8_1 : U13.cell? ⟨(U6.heap.size + 1), 1, none⟩ = some (.int .u64 (wd1 s)) := k8.cell 1
  have c8_2 : U13.cell? ⟨(U6.heap.size + 1), 2, none⟩ = some (.int .u64 (wd2 s)) := k8.cell 2
  have c8_3 : U13.cell? ⟨(U6.heap.size + 1), 3, none⟩ = some (.int .u64 (wd3 s)) := k8.cell 3
  have f8_0 := k8.free 0
  have f8_1 := k8.free 1
  have f8_2 := k8.free 2
  have f8_3 := k8.free 3
  have l8 := k8.lt
  have p6_8 : (U4.heap.size + 1) ≠ (U6.heap.size + 1) := (by have := D14.out; omega)
  go_wp2_with fail
  clear c6_0 c6_1 c6_2 c6_3 l6 c8_0 c8_1 c8_2 c8_3 f8_0 f8_1 f8_2 f8_3 l8 p6_8
  first | refine calls_w ?_ | refine name_world ?_ | refine list_world ?_ | refine post_world ?_
  intro V14 hV14
  clear k6
  have D21 := Lib.hid k3.lt
  have D22 := Lib.hid k4.lt
  have D23 := Lib.hid k8.lt
  have D24 := Lib.hid hb0.size
  have nk3 : Blk V14 (w.heap.size + 1 + 1) #[.int .u64 (wd0 e), .int .u64 (wd1 e), .int .u64 (wd2 e), .int .u64 (wd3 e)] 24 := by rw [hV14]; exact (blk_setL k3 (by have := D12.out; omega) 0 [.int .u64 (wd0 v), .int .u64 (wd1 v), .int .u64 (wd2 v), .int .u64 (wd3 v)])
  have nk4 : Blk V14 U2.heap.size #[.int .u64 (wd0 c), .int .u64 (wd1 c), .int .u64 (wd2 c), .int .u64 (wd3 c)] 24 := by rw [hV14]; exact (blk_setL k4 (by have := D13.out; omega) 0 [.int .u64 (wd0 v), .int .u64 (wd1 v), .int .u64 (wd2 v), .int .u64 (wd3 v)])
  have nk8 : Blk V14 (U6.heap.size + 1) #[.int .u64 (wd0 v), .int .u64 (wd1 v), .int .u64 (wd2 v), .int .u64 (wd3 v)] 24 := by rw [hV14]; exact (blk_full _ [.int .u64 (wd0 v), .int .u64 (wd1 v), .int .u64 (wd2 v), .int .u64 (wd3 v)] k8 rfl)
  have nhb0 : Below w.heap.size w V14 := by rw [hV14]; exact (blw_setL hb0 (by have := D15.out; omega) 0 [.int .u64 (wd0 v), .int .u64 (wd1 v), .int .u64 (wd2 v), .int .u64 (wd3 v)])
  clear k3 k4 k8
  clear hb0
  clear hV14
  have k3 := nk3
  clear nk3
  have k4 := nk4
  clear nk4
  have k8 := nk8
  clear nk8
  have hb0 := nhb0
  clear nhb0
  refine (Sign_v u z HP13.out _iu _).mono ?_
  rintro e U15 ⟨rfl, hn⟩
  replace k3 := k3.of hn
  replace k4 := k4.of hn
  replace k8 := k8.of hn
  replace hb0 := hb0.trans (hn.mono hb0.size)
  clear hn
  go_wp2_with fail
  refine (wawake_any _ (hG.of hb0)).mono ?_
  rintro e U16 ⟨rfl, hn⟩
  clear k8
  replace k3 := k3.of hn
  replace k4 := k4.of hn
  replace hb0 := hb0.trans (hn.mono hb0.size)
  clear hn
  go_wp2
  first | go_ret | go_ret2
  exact ⟨by first | rfl | (simp; done) | (simp; assumption), hb0⟩

set_option maxRecDepth 100000 in
set_option maxHeartbeats 4000000 in

theorem WCom_f4p (a : Int) (b : Int) (e : Int) (c : Int) (r : Int) (s : Int) (u : Int) (v : Int)   (hP0 : cmk a b = true) (hP1 : cmv a b = c) (hP2 : eq4 (wd0 c) (wd1 c) (wd2 c) (wd3 c) 0 0 0 0 = false) (hP3 : dvOk a c = true) (hP4 : dvOk b c = true) (hP5 : dvr a c = r) (hP6 : r.sign = 0) (hP7 : dvr b c = s) (hP8 : s.sign = 0) (hP9 : c.sign = 1) (hP10 : dvOk a e = true) (hP11 : dvOk b e = true) (hP12 : dvr a e = u) (hP13 : u.sign = 0) (hP14 : dvr b e = v) (hP15 : v.sign = 1) (_ic : InI c) (_ir : InI r) (_is : InI s) (_iu : InI u) (_iv : InI v) (_ia : InI a) (_ib : InI b) (_ie : InI e)  (w : World) (hG : Tab w) :
    Calls Tryd.prog 3 #[.agg #[.int .u64 (wd0 a), .int .u64 (wd1 a), .int .u64 (wd2 a), .int .u64 (wd3 a)], .agg #[.int .u64 (wd0 b), .int .u64 (wd1 b), .int .u64 (wd2 b), .int .u64 (wd3 b)], .agg #[.int .u64 (wd0 e), .int .u64 (wd1 e), .int .u64 (wd2 e), .int .u64 (wd3 e)]] w fun e w' => e = .returned (.bool true) ∧ Below w.heap.size w w' := by

  have HP0 := Lib.hid hP0
  clear hP0
  have HP1 := Lib.hid hP1
  clear hP1
  have HP3 := Lib.hid hP3
  clear hP3
  have HP4 := Lib.hid hP4
  clear hP4
  have HP5 := Lib.hid hP5
  clear hP5
  have HP6 := Lib.hid hP6
  clear hP6
  have HP7 := Lib.hid hP7
  clear hP7
  have HP8 := Lib.hid hP8
  clear hP8
  have HP9 := Lib.hid hP9
  clear hP9
  have HP10 := Lib.hid hP10
  clear hP10
  have HP11 := Lib.hid hP11
  clear hP11
  have HP12 := Lib.hid hP12
  clear hP12
  have HP13 := Lib.hid hP13
  clear hP13
  have HP14 := Lib.hid hP14
  clear hP14
  have HP15 := Lib.hid hP15
  clear hP15
  go_enter Tryd.func3, Tryd.ntmps3
  go_wp2_with fail
  first | refine calls_w ?_ | refine name_world ?_ | refine list_world ?_ | refine post_world ?_
  intro V1 hV1
  have hn : Below w.heap.size w V1 := by rw [hV1]; exact below_a3 _ _ _ _
  have nhb0 := hn
  have k1 : Blk V1 w.heap.size #[.int .u64 (wd0 a), .int .u64 (wd1 a), .int .u64 (wd2 a), .int .u64 (wd3 a)] 24 := by rw [hV1]; exact (((Blk.new _ _ _).alloc _).alloc _)
  have k2 : Blk V1 (w.heap.size + 1) #[.int .u64 (wd0 b), .int .u64 (wd1 b), .int .u64 (wd2 b), .int .u64 (wd3 b)] 24 := by rw [hV1]; exact ((Blk.new1 _ _ _ _).alloc _)
  have k3 : Blk V1 (w.heap.size + 1 + 1) #[.int .u64 (wd0 e), .int .u64 (wd1 e), .int .u64 (wd2 e), .int .u64 (wd3 e)] 24 := by rw [hV1]; exact (Blk.new2 _ _ _ _ _)
  clear hV1
  have hb0 := nhb0
  clear nhb0
  refine (Common_v a b c true HP1.out HP0.out _ia _ib _).mono ?_
  rintro e U2 ⟨rfl, hn⟩
  replace k1 := k1.of hn
  replace k2 := k2.of hn
  replace k3 := k3.of hn
  replace hb0 := hb0.trans (hn.mono hb0.size)
  clear hn
  have c1_0 : U2.cell? ⟨w.heap.size, 0, none⟩ = some (.int .u64 (wd0 a)) := k1.cell 0
  have c1_1 : U2.cell? ⟨w.heap.size, 1, none⟩ = some (.int .u64 (wd1 a)) := k1.cell 1
  have c1_2 : U2.cell? ⟨w.heap.size, 2, none⟩ = some (.int .u64 (wd2 a)) := k1.cell 2
  have c1_3 : U2.cell? ⟨w.heap.size, 3, none⟩ = some (.int .u64 (wd3 a)) := k1.cell 3
  have l1 := k1.lt
  go_wp2_with fail
  clear c1_0 c1_1 c1_2 c1_3 l1
  first | refine calls_w ?_ | refine name_world ?_ | refine list_world ?_ | refine post_world ?_
  intro V3 hV3
  have D1 := Lib.hid k1.lt
  have D2 := Lib.hid k2.lt
  have D3 := Lib.hid k3.lt
  have D4 := Lib.hid hb0.size
  have hn : Below U2.heap.size U2 V3 := by rw [hV3]; exact below_a1 _ _
  have nk1 := k1.of hn
  have nk2 := k2.of hn
  have nk3 := k3.of hn
  have nhb0 := hb0.trans (hn.mono hb0.size)
  clear hn
  have k4 : Blk V3 U2.heap.size #[.int .u64 (wd0 c), .int .u64 (wd1 c), .int .u64 (wd2 c), .int .u64 (wd3 c)] 24 := by rw [hV3]; exact (Blk.new _ _ _)
  clear k1 k2 k3
  clear hb0
  clear hV3
  have k1 := nk1
  clear nk1
  have k2 := nk2
  clear nk2
  have k3 := nk3
  clear nk3
  have hb0 := nhb0
  clear nhb0
  obtain ⟨r1, hr1⟩ : ∃ o_o : Int, dvq a c = o_o := ⟨_, rfl⟩
  have Hr1 := Lib.hid hr1
  clear hr1
  refine (Div_v a c r1 r true Hr1.out HP5.out HP3.out _ia _ic _).mono ?_
  rintro e U4 ⟨rfl, hn⟩
  replace k1 := k1.of hn
  replace k2 := k2.of hn
  replace k3 := k3.of hn
  replace k4 := k4.of hn
  replace hb0 := hb0.trans (hn.mono hb0.size)
  clear hn
  have c2_0 : U4.cell? ⟨(w.heap.size + 1), 0, none⟩ = some (.int .u64 (wd0 b)) := k2.cell 0
  have c2_1 : U4.cell? ⟨(w.heap.size + 1), 1, none⟩ = some (.int .u64 (wd1 b)) := k2.cell 1
  have c2_2 : U4.cell? ⟨(w.heap.size + 1), 2, none⟩ = some (.int .u64 (wd2 b)) := k2.cell 2
  have c2_3 : U4.cell? ⟨(w.heap.size + 1), 3, none⟩ = some (.int .u64 (wd3 b)) := k2.cell 3
  have l2 := k2.lt
  have l2_0 : w.heap.size < U4.heap.size := by have := k2.lt; omega
  have c4_0 : U4.cell? ⟨U2.heap.size, 0, none⟩ = some (.int .u64 (wd0 c)) := k4.cell 0
  have c4_1 : U4.cell? ⟨U2.heap.size, 1, none⟩ = some (.int .u64 (wd1 c)) := k4.cell 1
  have c4_2 : U4.cell? ⟨U2.heap.size, 2, none⟩ = some (.int .u64 (wd2 c)) := k4.cell 2
  have c4_3 : U4.cell? ⟨U2.heap.size, 3, none⟩ = some (.int .u64 (wd3 c)) := k4.cell 3
  have l4 := k4.lt
  go_wp2_with fail
  clear c2_0 c2_1 c2_2 c2_3 l2 l2_0 c4_0 c4_1 c4_2 c4_3 l4
  first | refine calls_w ?_ | refine name_world ?_ | refine list_world ?_ | refine post_world ?_
  intro V5 hV5
  have D5 := Lib.hid k1.lt
  have D6 := Lib.hid k2.lt
  have D7 := Lib.hid k3.lt
  have D8 := Lib.hid k4.lt
  have D9 := Lib.hid hb0.size
  have hn : Below U4.heap.size U4 V5 := by rw [hV5]; exact below_a2 _ _ _
  have nk1 := k1.of hn
  have nk2 := k2.of hn
  have nk3 := k3.of hn
  have nk4 := k4.of hn
  have nhb0 := hb0.trans (hn.mono hb0.size)
  clear hn
  have k5 : Blk V5 U4.heap.size #[.int .u64 (wd0 r1), .int .u64 (wd1 r1), .int .u64 (wd2 r1), .int .u64 (wd3 r1)] 24 := by rw [hV5]; exact ((Blk.new _ _ _).alloc _)
  have k6 : Blk V5 (U4.heap.size + 1) #[.int .u64 (wd0 r), .int .u64 (wd1 r), .int .u64 (wd2 r), .int .u64 (wd3 r)] 24 := by rw [hV5]; exact (Blk.new1 _ _ _ _)
  clear k1 k2 k3 k4
  clear hb0
  clear hV5
  have k1 := nk1
  clear nk1
  have k2 := nk2
  clear nk2
  have k3 := nk3
  clear nk3
  have k4 := nk4
  clear nk4
  have hb0 := nhb0
  clear nhb0
  obtain ⟨r2, hr2⟩ : ∃ o_o : Int, dvq b c = o_o := ⟨_, rfl⟩
  have Hr2 := Lib.hid hr2
  clear hr2
  refine (Div_v b c r2 s true Hr2.out HP7.out HP4.out _ib _ic _).mono ?_
  rintro e U6 ⟨rfl, hn⟩
  clear k5
  replace k1 := k1.of hn
  replace k2 := k2.of hn
  replace k3 := k3.of hn
  replace k4 := k4.of hn
  replace k6 := k6.of hn
  replace hb0 := hb0.trans (hn.mono hb0.size)
  clear hn
  have c6_0 : U6.cell? ⟨(U4.heap.size + 1), 0, none⟩ = some (.int .u64 (wd0 r)) := k6.cell 0
  have c6_1 : U6.cell? ⟨(U4.heap.size + 1), 1, none⟩ = some (.int .u64 (wd1 r)) := k6.cell 1
  have c6_2 : U6.cell? ⟨(U4.heap.size + 1), 2, none⟩ = some (.int .u64 (wd2 r)) := k6.cell 2
  have c6_3 : U6.cell? ⟨(U4.heap.size + 1), 3, none⟩ = some (.int .u64 (wd3 r)) := k6.cell 3
  have l6 := k6.lt
  have l6_0 : U4.heap.size < U6.heap.size := by have := k6.lt; omega
  go_wp2_with fail
  clear c6_0 c6_1 c6_2 c6_3 l6 l6_0
  first | refine calls_w ?_ | refine name_world ?_ | refine list_world ?_ | refine post_world ?_
  intro V7 hV7
  have D10 := Lib.hid k1.lt
  have D11 := Lib.hid k2.lt
  have D12 := Lib.hid k3.lt
  have D13 := Lib.hid k4.lt
  have D14 := Lib.hid k6.lt
  have D15 := Lib.hid hb0.size
  have hn : Below U6.heap.size U6 V7 := by rw [hV7]; exact below_a2 _ _ _
  have nk1 := k1.of hn
  have nk2 := k2.of hn
  have nk3 := k3.of hn
  have nk4 := k4.of hn
  have nk6 := k6.of hn
  have nhb0 := hb0.trans (hn.mono hb0.size)
  clear hn
  have k7 : Blk V7 U6.heap.size #[.int .u64 (wd0 r2), .int .u64 (wd1 r2), .int .u64 (wd2 r2), .int .u64 (wd3 r2)] 24 := by rw [hV7]; exact ((Blk.new _ _ _).alloc _)
  have k8 : Blk V7 (U6.heap.size + 1) #[.int .u64 (wd0 s), .int .u64 (wd1 s), .int .u64 (wd2 s), .int .u64 (wd3 s)] 24 := by rw [hV7]; exact (Blk.new1 _ _ _ _)
  clear k1 k2 k3 k4 k6
  clear hb0
  clear hV7
  have k1 := nk1
  clear nk1
  have k2 := nk2
  clear nk2
  have k3 := nk3
  clear nk3
  have k4 := nk4
  clear nk4
  have k6 := nk6
  clear nk6
  have hb0 := nhb0
  clear nhb0
  refine (Sign_v r 0 HP6.out _ir _).mono ?_
  rintro e U8 ⟨rfl, hn⟩
  clear k7
  replace k1 := k1.of hn
  replace k2 := k2.of hn
  replace k3 := k3.of hn
  replace k4 := k4.of hn
  replace k6 := k6.of hn
  replace k8 := k8.of hn
  replace hb0 := hb0.trans (hn.mono hb0.size)
  clear hn
  have c8_0 : U8.cell? ⟨(U6.heap.size + 1), 0, none⟩ = some (.int .u64 (wd0 s)) := k8.cell 0
  have c8_1 : U8.cell? ⟨(U6.heap.size + 1), 1, none⟩ = some (.int .u64 (wd1 s)) := k8.cell 1
  have c8_2 : U8.cell? ⟨(U6.heap.size + 1), 2, none⟩ = some (.int .u64 (wd2 s)) := k8.cell 2
  have c8_3 : U8.cell? ⟨(U6.heap.size + 1), 3, none⟩ = some (.int .u64 (wd3 s)) := k8.cell 3
  have l8 := k8.lt
  go_wp2_with fail
  clear c8_0 c8_1 c8_2 c8_3 l8
  refine (Sign_v s 0 HP8.out _is _).mono ?_
  rintro e U9 ⟨rfl, hn⟩
  replace k1 := k1.of hn
  replace k2 := k2.of hn
  replace k3 := k3.of hn
  replace k4 := k4.of hn
  replace k6 := k6.of hn
  replace k8 := k8.of hn
  replace hb0 := hb0.trans (hn.mono hb0.size)
  clear hn
  have c4_0 : U9.cell? ⟨U2.heap.size, 0, none⟩ = some (.int .u64 (wd0 c)) := k4.cell 0
  have c4_1 : U9.cell? ⟨U2.heap.size, 1, none⟩ = some (.int .u64 (wd1 c)) := k4.cell 1
  have c4_2 : U9.cell? ⟨U2.heap.size, 2, none⟩ = some (.int .u64 (wd2 c)) := k4.cell 2
  have c4_3 : U9.cell? ⟨U2.heap.size, 3, none⟩ = some (.int .u64 (wd3 c)) := k4.cell 3
  have l4 := k4.lt
  go_wp2_with fail
  clear c4_0 c4_1 c4_2 c4_3 l4
  refine (Sign_v c 1 HP9.out _ic _).mono ?_
  rintro e U10 ⟨rfl, hn⟩
  replace k1 := k1.of hn
  replace k2 := k2.of hn
  replace k3 := k3.of hn
  replace k4 := k4.of hn
  replace k6 := k6.of hn
  replace k8 := k8.of hn
  replace hb0 := hb0.trans (hn.mono hb0.size)
  clear hn
  have c1_0 : U10.cell? ⟨w.heap.size, 0, none⟩ = some (.int .u64 (wd0 a)) := k1.cell 0
  have c1_1 : U10.cell? ⟨w.heap.size, 1, none⟩ = some (.int .u64 (wd1 a)) := k1.cell 1
  have c1_2 : U10.cell? ⟨w.heap.size, 2, none⟩ = some (.int .u64 (wd2 a)) := k1.cell 2
  have c1_3 : U10.cell? ⟨w.heap.size, 3, none⟩ = some (.int .u64 (wd3 a)) := k1.cell 3
  have l1 := k1.lt
  have c3_0 : U10.cell? ⟨(w.heap.size + 1 + 1), 0, none⟩ = some (.int .u64 (wd0 e)) := k3.cell 0
  have c3_1 : U10.cell? ⟨(w.heap.size + 1 + 1), 1, none⟩ = some (.int .u64 (wd1 e)) := k3.cell 1
  have c3_2 : U10.cell? ⟨(w.heap.size + 1 + 1), 2, none⟩ = some (.int .u64 (wd2 e)) := k3.cell 2
  have c3_3 : U10.cell? ⟨(w.heap.size + 1 + 1), 3, none⟩ = some (.int .u64 (wd3 e)) := k3.cell 3
  have l3 := k3.lt
  go_wp2_with fail
  clear c1_0 c1_1 c1_2 c1_3 l1 c3_0 c3_1 c3_2 c3_3 l3
  obtain ⟨r3, hr3⟩ : ∃ o_o : Int, dvq a e = o_o := ⟨_, rfl⟩
  have Hr3 := Lib.hid hr3
  clear hr3
  refine (Div_v a e r3 u true Hr3.out HP12.out HP10.out _ia _ie _).mono ?_
  rintro e U11 ⟨rfl, hn⟩
  clear k1
  replace k2 := k2.of hn
  replace k3 := k3.of hn
  replace k4 := k4.of hn
  replace k6 := k6.of hn
  replace k8 := k8.of hn
  replace hb0 := hb0.trans (hn.mono hb0.size)
  clear hn
  have c2_0 : U11.cell? ⟨(w.heap.size + 1), 0, none⟩ = some (.int .u64 (wd0 b)) := k2.cell 0
  have c2_1 : U11.cell? ⟨(w.heap.size + 1), 1, none⟩ = some (.int .u64 (wd1 b)) := k2.cell 1
  have c2_2 : U11.cell? ⟨(w.heap.size + 1), 2, none⟩ = some (.int .u64 (wd2 b)) := k2.cell 2
  have c2_3 : U11.cell? ⟨(w.heap.size + 1), 3, none⟩ = some (.int .u64 (wd3 b)) := k2.cell 3
  have l2 := k2.lt
  have c3_0 : U11.cell? ⟨(w.heap.size + 1 + 1), 0, none⟩ = some (.int .u64 (wd0 e)) := k3.cell 0
  have c3_1 : U11.cell? ⟨(w.heap.size + 1 + 1), 1, none⟩ = some (.int .u64 (wd1 e)) := k3.cell 1
  have c3_2 : U11.cell? ⟨(w.heap.size + 1 + 1), 2, none⟩ = some (.int .u64 (wd2 e)) := k3.cell 2
  have c3_3 : U11.cell? ⟨(w.heap.size + 1 + 1), 3, none⟩ = some (.int .u64 (wd3 e)) := k3.cell 3
  have l3 := k3.lt
  have c6_0 : U11.cell? ⟨(U4.heap.size + 1), 0, none⟩ = some (.int .u64 (wd0 r)) := k6.cell 0
  have c6_1 : U11.cell? ⟨(U4.heap.size + 1), 1, none⟩ = some (.int .u64 (wd1 r)) := k6.cell 1
  have c6_2 : U11.cell? ⟨(U4.heap.size + 1), 2, none⟩ = some (.int .u64 (wd2 r)) := k6.cell 2
  have c6_3 : U11.cell? ⟨(U4.heap.size + 1), 3, none⟩ = some (.int .u64 (wd3 r)) := k6.cell 3
  have f6_0 := k6.free 0
  have f6_1 := k6.free 1
  have f6_2 := k6.free 2
  have f6_3 := k6.free 3
  have l6 := k6.lt
  have p2_6 : (w.heap.size + 1) ≠ (U4.heap.size + 1) := (by have := D6.out; omega)
  have p3_6 : (w.heap.size + 1 + 1) ≠ (U4.heap.size + 1) := (by have := D7.out; omega)
  go_wp2_with fail
  clear c2_0 c2_1 c2_2 c2_3 l2 c3_0 c3_1 c3_2 c3_3 l3 c6_0 c6_1 c6_2 c6_3 f6_0 f6_1 f6_2 f6_3 l6 p2_6 p3_6
  first | refine calls_w ?_ | refine name_world ?_ | refine list_world ?_ | refine post_world ?_
  intro V12 hV12
  clear k2
  have D16 := Lib.hid k3.lt
  have D17 := Lib.hid k4.lt
  have D18 := Lib.hid k6.lt
  have D19 := Lib.hid k8.lt
  have D20 := Lib.hid hb0.size
  have nk3 : Blk V12 (w.heap.size + 1 + 1) #[.int .u64 (wd0 e), .int .u64 (wd1 e), .int .u64 (wd2 e), .int .u64 (wd3 e)] 24 := by rw [hV12]; exact (blk_setL k3 (by have := D7.out; omega) 0 [.int .u64 (wd0 u), .int .u64 (wd1 u), .int .u64 (wd2 u), .int .u64 (wd3 u)])
  have nk4 : Blk V12 U2.heap.size #[.int .u64 (wd0 c), .int .u64 (wd1 c), .int .u64 (wd2 c), .int .u64 (wd3 c)] 24 := by rw [hV12]; exact (blk_setL k4 (by have := D8.out; omega) 0 [.int .u64 (wd0 u), .int .u64 (wd1 u), .int .u64 (wd2 u), .int .u64 (wd3 u)])
  have nk6 : Blk V12 (U4.heap.size + 1) #[.int .u64 (wd0 u), .int .u64 (wd1 u), .int .u64 (wd2 u), .int .u64 (wd3 u)] 24 := by rw [hV12]; exact (blk_full _ [.int .u64 (wd0 u), .int .u64 (wd1 u), .int .u64 (wd2 u), .int .u64 (wd3 u)] k6 rfl)
  have nk8 : Blk V12 (U6.heap.size + 1) #[.int .u64 (wd0 s), .int .u64 (wd1 s), .int .u64 (wd2 s), .int .u64 (wd3 s)] 24 := by rw [hV12]; exact (blk_setL k8 (by have := D14.out; omega) 0 [.int .u64 (wd0 u), .int .u64 (wd1 u), .int .u64 (wd2 u), .int .u64 (wd3 u)])
  have nhb0 : Below w.heap.size w V12 := by rw [hV12]; exact (blw_setL hb0 (by have := D9.out; omega) 0 [.int .u64 (wd0 u), .int .u64 (wd1 u), .int .u64 (wd2 u), .int .u64 (wd3 u)])
  clear k3 k4 k6 k8
  clear hb0
  clear hV12
  have k3 := nk3
  clear nk3
  have k4 := nk4
  clear nk4
  have k6 := nk6
  clear nk6
  have k8 := nk8
  clear nk8
  have hb0 := nhb0
  clear nhb0
  obtain ⟨r4, hr4⟩ : ∃ o_o : Int, dvq b e = o_o := ⟨_, rfl⟩
  have Hr4 := Lib.hid hr4
  clear hr4
  refine (Div_v b e r4 v true Hr4.out HP14.out HP11.out _ib _ie _).mono ?_
  rintro e U13 ⟨rfl, hn⟩
  replace k3 := k3.of hn
  replace k4 := k4.of hn
  replace k6 := k6.of hn
  replace k8 := k8.of hn
  replace hb0 := hb0.trans (hn.mono hb0.size)
  clear hn
  have c6_0 : U13.cell? ⟨(U4.heap.size + 1), 0, none⟩ = some (.int .u64 (wd0 u)) := k6.cell 0
  have c6_1 : U13.cell? ⟨(U4.heap.size + 1), 1, none⟩ = some (.int .u64 (wd1 u)) := k6.cell 1
  have c6_2 : U13.cell? ⟨(U4.heap.size + 1), 2, none⟩ = some (.int .u64 (wd2 u)) := k6.cell 2
  have c6_3 : U13.cell? ⟨(U4.heap.size + 1), 3, none⟩ = some (.int .u64 (wd3 u)) := k6.cell 3
  have l6 := k6.lt
  have c8_0 : U13.cell? ⟨(U6.heap.size + 1), 0, none⟩ = some (.int .u64 (wd0 s)) := k8.cell 0
  have c8_1 : U13.cell? ⟨(U6.heap.size + 1), 1, none⟩ = some (.int .u64 (wd1 s)) := k8.cell 1
  have c8_2 : U13.cell? ⟨(U6.heap.size + 1), 2, none⟩ = some (.int .u64 (wd2 s)) := k8.cell 2
  have c8_3 : U13.cell? ⟨(U6.heap.size + 1), 3, none⟩ = some (.int .u64 (wd3 s)) := k8.cell 3
  have f8_0 := k8.free 0
  have f8_1 := k8.free 1
  have f8_2 := k8.free 2
  have f8_3 := k8.free 3
  have l8 := k8.lt
  have p6_8 : (U4.heap.size + 1) ≠ (U6.heap.size + 1) := (by have := D14.out; omega)
  go_wp2_with fail
  clear c6_0 c6_1 c6_2 c6_3 l6 c8_0 c8_1 c8_2 c8_3 f8_0 f8_1 f8_2 f8_3 l8 p6_8
  first | refine calls_w ?_ | refine name_world ?_ | refine list_world ?_ | refine post_world ?_
  intro V14 hV14
  clear k6
  have D21 := Lib.hid k3.lt
  have D22 := Lib.hid k4.lt
  have D23 := Lib.hid k8.lt
  have D24 := Lib.hid hb0.size
  have nk3 : Blk V14 (w.heap.size + 1 + 1) #[.int .u64 (wd0 e), .int .u64 (wd1 e), .int .u64 (wd2 e), .int .u64 (wd3 e)] 24 := by rw [hV14]; exact (blk_setL k3 (by have := D12.out; omega) 0 [.int .u64 (wd0 v), .int .u64 (wd1 v), .int .u64 (wd2 v), .int .u64 (wd3 v)])
  have nk4 : Blk V14 U2.heap.size #[.int .u64 (wd0 c), .int .u64 (wd1 c), .int .u64 (wd2 c), .int .u64 (wd3 c)] 24 := by rw [hV14]; exact (blk_setL k4 (by have := D13.out; omega) 0 [.int .u64 (wd0 v), .int .u64 (wd1 v), .int .u64 (wd2 v), .int .u64 (wd3 v)])
  have nk8 : Blk V14 (U6.heap.size + 1) #[.int .u64 (wd0 v), .int .u64 (wd1 v), .int .u64 (wd2 v), .int .u64 (wd3 v)] 24 := by rw [hV14]; exact (blk_full _ [.int .u64 (wd0 v), .int .u64 (wd1 v), .int .u64 (wd2 v), .int .u64 (wd3 v)] k8 rfl)
  have nhb0 : Below w.heap.size w V14 := by rw [hV14]; exact (blw_setL hb0 (by have := D15.out; omega) 0 [.int .u64 (wd0 v), .int .u64 (wd1 v), .int .u64 (wd2 v), .int .u64 (wd3 v)])
  clear k3 k4 k8
  clear hb0
  clear hV14
  have k3 := nk3
  clear nk3
  have k4 := nk4
  clear nk4
  have k8 := nk8
  clear nk8
  have hb0 := nhb0
  clear nhb0
  refine (Sign_v u 0 HP13.out _iu _).mono ?_
  rintro e U15 ⟨rfl, hn⟩
  replace k3 := k3.of hn
  replace k4 := k4.of hn
  replace k8 := k8.of hn
  replace hb0 := hb0.trans (hn.mono hb0.size)
  clear hn
  have c8_0 : U15.cell? ⟨(U6.heap.size + 1), 0, none⟩ = some (.int .u64 (wd0 v)) := k8.cell 0
  have c8_1 : U15.cell? ⟨(U6.heap.size + 1), 1, none⟩ = some (.int .u64 (wd1 v)) := k8.cell 1
  have c8_2 : U15.cell? ⟨(U6.heap.size + 1), 2, none⟩ = some (.int .u64 (wd2 v)) := k8.cell 2
  have c8_3 : U15.cell? ⟨(U6.heap.size + 1), 3, none⟩ = some (.int .u64 (wd3 v)) := k8.cell 3
  have l8 := k8.lt
  go_wp2_with fail
  clear c8_0 c8_1 c8_2 c8_3 l8
  refine (Sign_v v 1 HP15.out _iv _).mono ?_
  rintro e U16 ⟨rfl, hn⟩
  clear k8
  replace k3 := k3.of hn
  replace k4 := k4.of hn
  replace hb0 := hb0.trans (hn.mono hb0.size)
  clear hn
  go_wp2_with fail
  refine (wawake_any _ (hG.of hb0)).mono ?_
  rintro e U17 ⟨rfl, hn⟩
  replace k3 := k3.of hn
  replace k4 := k4.of hn
  replace hb0 := hb0.trans (hn.mono hb0.size)
  clear hn
  go_wp2
  first | go_ret | go_ret2
  exact ⟨by first | rfl | (simp; done) | (simp; assumption), hb0⟩

set_option maxRecDepth 100000 in
set_option maxHeartbeats 4000000 in

theorem WCom_f4n (a : Int) (b : Int) (e : Int) (c : Int) (r : Int) (s : Int) (u : Int) (v : Int)   (hP0 : cmk a b = true) (hP1 : cmv a b = c) (hP2 : eq4 (wd0 c) (wd1 c) (wd2 c) (wd3 c) 0 0 0 0 = false) (hP3 : dvOk a c = true) (hP4 : dvOk b c = true) (hP5 : dvr a c = r) (hP6 : r.sign = 0) (hP7 : dvr b c = s) (hP8 : s.sign = 0) (hP9 : c.sign = 1) (hP10 : dvOk a e = true) (hP11 : dvOk b e = true) (hP12 : dvr a e = u) (hP13 : u.sign = 0) (hP14 : dvr b e = v) (hP15 : v.sign = (-1)) (_ic : InI c) (_ir : InI r) (_is : InI s) (_iu : InI u) (_iv : InI v) (_ia : InI a) (_ib : InI b) (_ie : InI e)  (w : World) (hG : Tab w) :
    Calls Tryd.prog 3 #[.agg #[.int .u64 (wd0 a), .int .u64 (wd1 a), .int .u64 (wd2 a), .int .u64 (wd3 a)], .agg #[.int .u64 (wd0 b), .int .u64 (wd1 b), .int .u64 (wd2 b), .int .u64 (wd3 b)], .agg #[.int .u64 (wd0 e), .int .u64 (wd1 e), .int .u64 (wd2 e), .int .u64 (wd3 e)]] w fun e w' => e = .returned (.bool true) ∧ Below w.heap.size w w' := by

  have HP0 := Lib.hid hP0
  clear hP0
  have HP1 := Lib.hid hP1
  clear hP1
  have HP3 := Lib.hid hP3
  clear hP3
  have HP4 := Lib.hid hP4
  clear hP4
  have HP5 := Lib.hid hP5
  clear hP5
  have HP6 := Lib.hid hP6
  clear hP6
  have HP7 := Lib.hid hP7
  clear hP7
  have HP8 := Lib.hid hP8
  clear hP8
  have HP9 := Lib.hid hP9
  clear hP9
  have HP10 := Lib.hid hP10
  clear hP10
  have HP11 := Lib.hid hP11
  clear hP11
  have HP12 := Lib.hid hP12
  clear hP12
  have HP13 := Lib.hid hP13
  clear hP13
  have HP14 := Lib.hid hP14
  clear hP14
  have HP15 := Lib.hid hP15
  clear hP15
  go_enter Tryd.func3, Tryd.ntmps3
  go_wp2_with fail
  first | refine calls_w ?_ | refine name_world ?_ | refine list_world ?_ | refine post_world ?_
  intro V1 hV1
  have hn : Below w.heap.size w V1 := by rw [hV1]; exact below_a3 _ _ _ _
  have nhb0 := hn
  have k1 : Blk V1 w.heap.size #[.int .u64 (wd0 a), .int .u64 (wd1 a), .int .u64 (wd2 a), .int .u64 (wd3 a)] 24 := by rw [hV1]; exact (((Blk.new _ _ _).alloc _).alloc _)
  have k2 : Blk V1 (w.heap.size + 1) #[.int .u64 (wd0 b), .int .u64 (wd1 b), .int .u64 (wd2 b), .int .u64 (wd3 b)] 24 := by rw [hV1]; exact ((Blk.new1 _ _ _ _).alloc _)
  have k3 : Blk V1 (w.heap.size + 1 + 1) #[.int .u64 (wd0 e), .int .u64 (wd1 e), .int .u64 (wd2 e), .int .u64 (wd3 e)] 24 := by rw [hV1]; exact (Blk.new2 _ _ _ _ _)
  clear hV1
  have hb0 := nhb0
  clear nhb0
  refine (Common_v a b c true HP1.out HP0.out _ia _ib _).mono ?_
  rintro e U2 ⟨rfl, hn⟩
  replace k1 := k1.of hn
  replace k2 := k2.of hn
  replace k3 := k3.of hn
  replace hb0 := hb0.trans (hn.mono hb0.size)
  clear hn
  have c1_0 : U2.cell? ⟨w.heap.size, 0, none⟩ = some (.int .u64 (wd0 a)) := k1.cell 0
  have c1_1 : U2.cell? ⟨w.heap.size, 1, none⟩ = some (.int .u64 (wd1 a)) := k1.cell 1
  have c1_2 : U2.cell? ⟨w.heap.size, 2, none⟩ = some (.int .u64 (wd2 a)) := k1.cell 2
  have c1_3 : U2.cell? ⟨w.heap.size, 3, none⟩ = some (.int .u64 (wd3 a)) := k1.cell 3
  have l1 := k1.lt
  go_wp2_with fail
  clear c1_0 c1_1 c1_2 c1_3 l1
  first | refine calls_w ?_ | refine name_world ?_ | refine list_world ?_ | refine post_world ?_
  intro V3 hV3
  have D1 := Lib.hid k1.lt
  have D2 := Lib.hid k2.lt
  have D3 := Lib.hid k3.lt
  have D4 := Lib.hid hb0.size
  have hn : Below U2.heap.size U2 V3 := by rw [hV3]; exact below_a1 _ _
  have nk1 := k1.of hn
  have nk2 := k2.of hn
  have nk3 := k3.of hn
  have nhb0 := hb0.trans (hn.mono hb0.size)
  clear hn
  have k4 : Blk V3 U2.heap.size #[.int .u64 (wd0 c), .int .u64 (wd1 c), .int .u64 (wd2 c), .int .u64 (wd3 c)] 24 := by rw [hV3]; exact (Blk.new _ _ _)
  clear k1 k2 k3
  clear hb0
  clear hV3
  have k1 := nk1
  clear nk1
  have k2 := nk2
  clear nk2
  have k3 := nk3
  clear nk3
  have hb0 := nhb0
  clear nhb0
  obtain ⟨r1, hr1⟩ : ∃ o_o : Int, dvq a c = o_o := ⟨_, rfl⟩
  have Hr1 := Lib.hid hr1
  clear hr1
  refine (Div_v a c r1 r true Hr1.out HP5.out HP3.out _ia _ic _).mono ?_
  rintro e U4 ⟨rfl, hn⟩
  replace k1 := k1.of hn
  replace k2 := k2.of hn
  replace k3 := k3.of hn
  replace k4 := k4.of hn
  replace hb0 := hb0.trans (hn.mono hb0.size)
  clear hn
  have c2_0 : U4.cell? ⟨(w.heap.size + 1), 0, none⟩ = some (.int .u64 (wd0 b)) := k2.cell 0
  have c2_1 : U4.cell? ⟨(w.heap.size + 1), 1, none⟩ = some (.int .u64 (wd1 b)) := k2.cell 1
  have c2_2 : U4.cell? ⟨(w.heap.size + 1), 2, none⟩ = some (.int .u64 (wd2 b)) := k2.cell 2
  have c2_3 : U4.cell? ⟨(w.heap.size + 1), 3, none⟩ = some (.int .u64 (wd3 b)) := k2.cell 3
  have l2 := k2.lt
  have l2_0 : w.heap.size < U4.heap.size := by have := k2.lt; omega
  have c4_0 : U4.cell? ⟨U2.heap.size, 0, none⟩ = some (.int .u64 (wd0 c)) := k4.cell 0
  have c4_1 : U4.cell? ⟨U2.heap.size, 1, none⟩ = some (.int .u64 (wd1 c)) := k4.cell 1
  have c4_2 : U4.cell? ⟨U2.heap.size, 2, none⟩ = some (.int .u64 (wd2 c)) := k4.cell 2
  have c4_3 : U4.cell? ⟨U2.heap.size, 3, none⟩ = some (.int .u64 (wd3 c)) := k4.cell 3
  have l4 := k4.lt
  go_wp2_with fail
  clear c2_0 c2_1 c2_2 c2_3 l2 l2_0 c4_0 c4_1 c4_2 c4_3 l4
  first | refine calls_w ?_ | refine name_world ?_ | refine list_world ?_ | refine post_world ?_
  intro V5 hV5
  have D5 := Lib.hid k1.lt
  have D6 := Lib.hid k2.lt
  have D7 := Lib.hid k3.lt
  have D8 := Lib.hid k4.lt
  have D9 := Lib.hid hb0.size
  have hn : Below U4.heap.size U4 V5 := by rw [hV5]; exact below_a2 _ _ _
  have nk1 := k1.of hn
  have nk2 := k2.of hn
  have nk3 := k3.of hn
  have nk4 := k4.of hn
  have nhb0 := hb0.trans (hn.mono hb0.size)
  clear hn
  have k5 : Blk V5 U4.heap.size #[.int .u64 (wd0 r1), .int .u64 (wd1 r1), .int .u64 (wd2 r1), .int .u64 (wd3 r1)] 24 := by rw [hV5]; exact ((Blk.new _ _ _).alloc _)
  have k6 : Blk V5 (U4.heap.size + 1) #[.int .u64 (wd0 r), .int .u64 (wd1 r), .int .u64 (wd2 r), .int .u64 (wd3 r)] 24 := by rw [hV5]; exact (Blk.new1 _ _ _ _)
  clear k1 k2 k3 k4
  clear hb0
  clear hV5
  have k1 := nk1
  clear nk1
  have k2 := nk2
  clear nk2
  have k3 := nk3
  clear nk3
  have k4 := nk4
  clear nk4
  have hb0 := nhb0
  clear nhb0
  obtain ⟨r2, hr2⟩ : ∃ o_o : Int, dvq b c = o_o := ⟨_, rfl⟩
  have Hr2 := Lib.hid hr2
  clear hr2
  refine (Div_v b c r2 s true Hr2.out HP7.out HP4.out _ib _ic _).mono ?_
  rintro e U6 ⟨rfl, hn⟩
  clear k5
  replace k1 := k1.of hn
  replace k2 := k2.of hn
  replace k3 := k3.of hn
  replace k4 := k4.of hn
  replace k6 := k6.of hn
  replace hb0 := hb0.trans (hn.mono hb0.size)
  clear hn
  have c6_0 : U6.cell? ⟨(U4.heap.size + 1), 0, none⟩ = some (.int .u64 (wd0 r)) := k6.cell 0
  have c6_1 : U6.cell? ⟨(U4.heap.size + 1), 1, none⟩ = some (.int .u64 (wd1 r)) := k6.cell 1
  have c6_2 : U6.cell? ⟨(U4.heap.size + 1), 2, none⟩ = some (.int .u64 (wd2 r)) := k6.cell 2
  have c6_3 : U6.cell? ⟨(U4.heap.size + 1), 3, none⟩ = some (.int .u64 (wd3 r)) := k6.cell 3
  have l6 := k6.lt
  have l6_0 : U4.heap.size < U6.heap.size := by have := k6.lt; omega
  go_wp2_with fail
  clear c6_0 c6_1 c6_2 c6_3 l6 l6_0
  first | refine calls_w ?_ | refine name_world ?_ | refine list_world ?_ | refine post_world ?_
  intro V7 hV7
  have D10 := Lib.hid k1.lt
  have D11 := Lib.hid k2.lt
  have D12 := Lib.hid k3.lt
  have D13 := Lib.hid k4.lt
  have D14 := Lib.hid k6.lt
  have D15 := Lib.hid hb0.size
  have hn : Below U6.heap.size U6 V7 := by rw [hV7]; exact below_a2 _ _ _
  have nk1 := k1.of hn
  have nk2 := k2.of hn
  have nk3 := k3.of hn
  have nk4 := k4.of hn
  have nk6 := k6.of hn
  have nhb0 := hb0.trans (hn.mono hb0.size)
  clear hn
  have k7 : Blk V7 U6.heap.size #[.int .u64 (wd0 r2), .int .u64 (wd1 r2), .int .u64 (wd2 r2), .int .u64 (wd3 r2)] 24 := by rw [hV7]; exact ((Blk.new _ _ _).alloc _)
  have k8 : Blk V7 (U6.heap.size + 1) #[.int .u64 (wd0 s), .int .u64 (wd1 s), .int .u64 (wd2 s), .int .u64 (wd3 s)] 24 := by rw [hV7]; exact (Blk.new1 _ _ _ _)
  clear k1 k2 k3 k4 k6
  clear hb0
  clear hV7
  have k1 := nk1
  clear nk1
  have k2 := nk2
  clear nk2
  have k3 := nk3
  clear nk3
  have k4 := nk4
  clear nk4
  have k6 := nk6
  clear nk6
  have hb0 := nhb0
  clear nhb0
  refine (Sign_v r 0 HP6.out _ir _).mono ?_
  rintro e U8 ⟨rfl, hn⟩
  clear k7
  replace k1 := k1.of hn
  replace k2 := k2.of hn
  replace k3 := k3.of hn
  replace k4 := k4.of hn
  replace k6 := k6.of hn
  replace k8 := k8.of hn
  replace hb0 := hb0.trans (hn.mono hb0.size)
  clear hn
  have c8_0 : U8.cell? ⟨(U6.heap.size + 1), 0, none⟩ = some (.int .u64 (wd0 s)) := k8.cell 0
  have c8_1 : U8.cell? ⟨(U6.heap.size + 1), 1, none⟩ = some (.int .u64 (wd1 s)) := k8.cell 1
  have c8_2 : U8.cell? ⟨(U6.heap.size + 1), 2, none⟩ = some (.int .u64 (wd2 s)) := k8.cell 2
  have c8_3 : U8.cell? ⟨(U6.heap.size + 1), 3, none⟩ = some (.int .u64 (wd3 s)) := k8.cell 3
  have l8 := k8.lt
  go_wp2_with fail
  clear c8_0 c8_1 c8_2 c8_3 l8
  refine (Sign_v s 0 HP8.out _is _).mono ?_
  rintro e U9 ⟨rfl, hn⟩
  replace k1 := k1.of hn
  replace k2 := k2.of hn
  replace k3 := k3.of hn
  replace k4 := k4.of hn
  replace k6 := k6.of hn
  replace k8 := k8.of hn
  replace hb0 := hb0.trans (hn.mono hb0.size)
  clear hn
  have c4_0 : U9.cell? ⟨U2.heap.size, 0, none⟩ = some (.int .u64 (wd0 c)) := k4.cell 0
  have c4_1 : U9.cell? ⟨U2.heap.size, 1, none⟩ = some (.int .u64 (wd1 c)) := k4.cell 1
  have c4_2 : U9.cell? ⟨U2.heap.size, 2, none⟩ = some (.int .u64 (wd2 c)) := k4.cell 2
  have c4_3 : U9.cell? ⟨U2.heap.size, 3, none⟩ = some (.int .u64 (wd3 c)) := k4.cell 3
  have l4 := k4.lt
  go_wp2_with fail
  clear c4_0 c4_1 c4_2 c4_3 l4
  refine (Sign_v c 1 HP9.out _ic _).mono ?_
  rintro e U10 ⟨rfl, hn⟩
  replace k1 := k1.of hn
  replace k2 := k2.of hn
  replace k3 := k3.of hn
  replace k4 := k4.of hn
  replace k6 := k6.of hn
  replace k8 := k8.of hn
  replace hb0 := hb0.trans (hn.mono hb0.size)
  clear hn
  have c1_0 : U10.cell? ⟨w.heap.size, 0, none⟩ = some (.int .u64 (wd0 a)) := k1.cell 0
  have c1_1 : U10.cell? ⟨w.heap.size, 1, none⟩ = some (.int .u64 (wd1 a)) := k1.cell 1
  have c1_2 : U10.cell? ⟨w.heap.size, 2, none⟩ = some (.int .u64 (wd2 a)) := k1.cell 2
  have c1_3 : U10.cell? ⟨w.heap.size, 3, none⟩ = some (.int .u64 (wd3 a)) := k1.cell 3
  have l1 := k1.lt
  have c3_0 : U10.cell? ⟨(w.heap.size + 1 + 1), 0, none⟩ = some (.int .u64 (wd0 e)) := k3.cell 0
  have c3_1 : U10.cell? ⟨(w.heap.size + 1 + 1), 1, none⟩ = some (.int .u64 (wd1 e)) := k3.cell 1
  have c3_2 : U10.cell? ⟨(w.heap.size + 1 + 1), 2, none⟩ = some (.int .u64 (wd2 e)) := k3.cell 2
  have c3_3 : U10.cell? ⟨(w.heap.size + 1 + 1), 3, none⟩ = some (.int .u64 (wd3 e)) := k3.cell 3
  have l3 := k3.lt
  go_wp2_with fail
  clear c1_0 c1_1 c1_2 c1_3 l1 c3_0 c3_1 c3_2 c3_3 l3
  obtain ⟨r3, hr3⟩ : ∃ o_o : Int, dvq a e = o_o := ⟨_, rfl⟩
  have Hr3 := Lib.hid hr3
  clear hr3
  refine (Div_v a e r3 u true Hr3.out HP12.out HP10.out _ia _ie _).mono ?_
  rintro e U11 ⟨rfl, hn⟩
  clear k1
  replace k2 := k2.of hn
  replace k3 := k3.of hn
  replace k4 := k4.of hn
  replace k6 := k6.of hn
  replace k8 := k8.of hn
  replace hb0 := hb0.trans (hn.mono hb0.size)
  clear hn
  have c2_0 : U11.cell? ⟨(w.heap.size + 1), 0, none⟩ = some (.int .u64 (wd0 b)) := k2.cell 0
  have c2_1 : U11.cell? ⟨(w.heap.size + 1), 1, none⟩ = some (.int .u64 (wd1 b)) := k2.cell 1
  have c2_2 : U11.cell? ⟨(w.heap.size + 1), 2, none⟩ = some (.int .u64 (wd2 b)) := k2.cell 2
  have c2_3 : U11.cell? ⟨(w.heap.size + 1), 3, none⟩ = some (.int .u64 (wd3 b)) := k2.cell 3
  have l2 := k2.lt
  have c3_0 : U11.cell? ⟨(w.heap.size + 1 + 1), 0, none⟩ = some (.int .u64 (wd0 e)) := k3.cell 0
  have c3_1 : U11.cell? ⟨(w.heap.size + 1 + 1), 1, none⟩ = some (.int .u64 (wd1 e)) := k3.cell 1
  have c3_2 : U11.cell? ⟨(w.heap.size + 1 + 1), 2, none⟩ = some (.int .u64 (wd2 e)) := k3.cell 2
  have c3_3 : U11.cell? ⟨(w.heap.size + 1 + 1), 3, none⟩ = some (.int .u64 (wd3 e)) := k3.cell 3
  have l3 := k3.lt
  have c6_0 : U11.cell? ⟨(U4.heap.size + 1), 0, none⟩ = some (.int .u64 (wd0 r)) := k6.cell 0
  have c6_1 : U11.cell? ⟨(U4.heap.size + 1), 1, none⟩ = some (.int .u64 (wd1 r)) := k6.cell 1
  have c6_2 : U11.cell? ⟨(U4.heap.size + 1), 2, none⟩ = some (.int .u64 (wd2 r)) := k6.cell 2
  have c6_3 : U11.cell? ⟨(U4.heap.size + 1), 3, none⟩ = some (.int .u64 (wd3 r)) := k6.cell 3
  have f6_0 := k6.free 0
  have f6_1 := k6.free 1
  have f6_2 := k6.free 2
  have f6_3 := k6.free 3
  have l6 := k6.lt
  have p2_6 : (w.heap.size + 1) ≠ (U4.heap.size + 1) := (by have := D6.out; omega)
  have p3_6 : (w.heap.size + 1 + 1) ≠ (U4.heap.size + 1) := (by have := D7.out; omega)
  go_wp2_with fail
  clear c2_0 c2_1 c2_2 c2_3 l2 c3_0 c3_1 c3_2 c3_3 l3 c6_0 c6_1 c6_2 c6_3 f6_0 f6_1 f6_2 f6_3 l6 p2_6 p3_6
  first | refine calls_w ?_ | refine name_world ?_ | refine list_world ?_ | refine post_world ?_
  intro V12 hV12
  clear k2
  have D16 := Lib.hid k3.lt
  have D17 := Lib.hid k4.lt
  have D18 := Lib.hid k6.lt
  have D19 := Lib.hid k8.lt
  have D20 := Lib.hid hb0.size
  have nk3 : Blk V12 (w.heap.size + 1 + 1) #[.int .u64 (wd0 e), .int .u64 (wd1 e), .int .u64 (wd2 e), .int .u64 (wd3 e)] 24 := by rw [hV12]; exact (blk_setL k3 (by have := D7.out; omega) 0 [.int .u64 (wd0 u), .int .u64 (wd1 u), .int .u64 (wd2 u), .int .u64 (wd3 u)])
  have nk4 : Blk V12 U2.heap.size #[.int .u64 (wd0 c), .int .u64 (wd1 c), .int .u64 (wd2 c), .int .u64 (wd3 c)] 24 := by rw [hV12]; exact (blk_setL k4 (by have := D8.out; omega) 0 [.int .u64 (wd0 u), .int .u64 (wd1 u), .int .u64 (wd2 u), .int .u64 (wd3 u)])
  have nk6 : Blk V12 (U4.heap.size + 1) #[.int .u64 (wd0 u), .int .u64 (wd1 u), .int .u64 (wd2 u), .int .u64 (wd3 u)] 24 := by rw [hV12]; exact (blk_full _ [.int .u64 (wd0 u), .int .u64 (wd1 u), .int .u64 (wd2 u), .int .u64 (wd3 u)] k6 rfl)
  have nk8 : Blk V12 (U6.heap.size + 1) #[.int .u64 (wd0 s), .int .u64 (wd1 s), .int .u64 (wd2 s), .int .u64 (wd3 s)] 24 := by rw [hV12]; exact (blk_setL k8 (by have := D14.out; omega) 0 [.int .u64 (wd0 u), .int .u64 (wd1 u), .int .u64 (wd2 u), .int .u64 (wd3 u)])
  have nhb0 : Below w.heap.size w V12 := by rw [hV12]; exact (blw_setL hb0 (by have := D9.out; omega) 0 [.int .u64 (wd0 u), .int .u64 (wd1 u), .int .u64 (wd2 u), .int .u64 (wd3 u)])
  clear k3 k4 k6 k8
  clear hb0
  clear hV12
  have k3 := nk3
  clear nk3
  have k4 := nk4
  clear nk4
  have k6 := nk6
  clear nk6
  have k8 := nk8
  clear nk8
  have hb0 := nhb0
  clear nhb0
  obtain ⟨r4, hr4⟩ : ∃ o_o : Int, dvq b e = o_o := ⟨_, rfl⟩
  have Hr4 := Lib.hid hr4
  clear hr4
  refine (Div_v b e r4 v true Hr4.out HP14.out HP11.out _ib _ie _).mono ?_
  rintro e U13 ⟨rfl, hn⟩
  replace k3 := k3.of hn
  replace k4 := k4.of hn
  replace k6 := k6.of hn
  replace k8 := k8.of hn
  replace hb0 := hb0.trans (hn.mono hb0.size)
  clear hn
  have c6_0 : U13.cell? ⟨(U4.heap.size + 1), 0, none⟩ = some (.int .u64 (wd0 u)) := k6.cell 0
  have c6_1 : U13.cell? ⟨(U4.heap.size + 1), 1, none⟩ = some (.int .u64 (wd1 u)) := k6.cell 1
  have c6_2 : U13.cell? ⟨(U4.heap.size + 1), 2, none⟩ = some (.int .u64 (wd2 u)) := k6.cell 2
  have c6_3 : U13.cell? ⟨(U4.heap.size + 1), 3, none⟩ = some (.int .u64 (wd3 u)) := k6.cell 3
  have l6 := k6.lt
  have c8_0 : U13.cell? ⟨(U6.heap.size + 1), 0, none⟩ = some (.int .u64 (wd0 s)) := k8.cell 0
  have c8_1 : U13.cell? ⟨(U6.heap.size + 1), 1, none⟩ = some (.int .u64 (wd1 s)) := k8.cell 1
  have c8_2 : U13.cell? ⟨(U6.heap.size + 1), 2, none⟩ = some (.int .u64 (wd2 s)) := k8.cell 2
  have c8_3 : U13.cell? ⟨(U6.heap.size + 1), 3, none⟩ = some (.int .u64 (wd3 s)) := k8.cell 3
  have f8_0 := k8.free 0
  have f8_1 := k8.free 1
  have f8_2 := k8.free 2
  have f8_3 := k8.free 3
  have l8 := k8.lt
  have p6_8 : (U4.heap.size + 1) ≠ (U6.heap.size + 1) := (by have := D14.out; omega)
  go_wp2_with fail
  clear c6_0 c6_1 c6_2 c6_3 l6 c8_0 c8_1 c8_2 c8_3 f8_0 f8_1 f8_2 f8_3 l8 p6_8
  first | refine calls_w ?_ | refine name_world ?_ | refine list_world ?_ | refine post_world ?_
  intro V14 hV14
  clear k6
  have D21 := Lib.hid k3.lt
  have D22 := Lib.hid k4.lt
  have D23 := Lib.hid k8.lt
  have D24 := Lib.hid hb0.size
  have nk3 : Blk V14 (w.heap.size + 1 + 1) #[.int .u64 (wd0 e), .int .u64 (wd1 e), .int .u64 (wd2 e), .int .u64 (wd3 e)] 24 := by rw [hV14]; exact (blk_setL k3 (by have := D12.out; omega) 0 [.int .u64 (wd0 v), .int .u64 (wd1 v), .int .u64 (wd2 v), .int .u64 (wd3 v)])
  have nk4 : Blk V14 U2.heap.size #[.int .u64 (wd0 c), .int .u64 (wd1 c), .int .u64 (wd2 c), .int .u64 (wd3 c)] 24 := by rw [hV14]; exact (blk_setL k4 (by have := D13.out; omega) 0 [.int .u64 (wd0 v), .int .u64 (wd1 v), .int .u64 (wd2 v), .int .u64 (wd3 v)])
  have nk8 : Blk V14 (U6.heap.size + 1) #[.int .u64 (wd0 v), .int .u64 (wd1 v), .int .u64 (wd2 v), .int .u64 (wd3 v)] 24 := by rw [hV14]; exact (blk_full _ [.int .u64 (wd0 v), .int .u64 (wd1 v), .int .u64 (wd2 v), .int .u64 (wd3 v)] k8 rfl)
  have nhb0 : Below w.heap.size w V14 := by rw [hV14]; exact (blw_setL hb0 (by have := D15.out; omega) 0 [.int .u64 (wd0 v), .int .u64 (wd1 v), .int .u64 (wd2 v), .int .u64 (wd3 v)])
  clear k3 k4 k8
  clear hb0
  clear hV14
  have k3 := nk3
  clear nk3
  have k4 := nk4
  clear nk4
  have k8 := nk8
  clear nk8
  have hb0 := nhb0
  clear nhb0
  refine (Sign_v u 0 HP13.out _iu _).mono ?_
  rintro e U15 ⟨rfl, hn⟩
  replace k3 := k3.of hn
  replace k4 := k4.of hn
  replace k8 := k8.of hn
  replace hb0 := hb0.trans (hn.mono hb0.size)
  clear hn
  have c8_0 : U15.cell? ⟨(U6.heap.size + 1), 0, none⟩ = some (.int .u64 (wd0 v)) := k8.cell 0
  have c8_1 : U15.cell? ⟨(U6.heap.size + 1), 1, none⟩ = some (.int .u64 (wd1 v)) := k8.cell 1
  have c8_2 : U15.cell? ⟨(U6.heap.size + 1), 2, none⟩ = some (.int .u64 (wd2 v)) := k8.cell 2
  have c8_3 : U15.cell? ⟨(U6.heap.size + 1), 3, none⟩ = some (.int .u64 (wd3 v)) := k8.cell 3
  have l8 := k8.lt
  go_wp2_with fail
  clear c8_0 c8_1 c8_2 c8_3 l8
  refine (Sign_v v (-1) HP15.out _iv _).mono ?_
  rintro e U16 ⟨rfl, hn⟩
  clear k8
  replace k3 := k3.of hn
  replace k4 := k4.of hn
  replace hb0 := hb0.trans (hn.mono hb0.size)
  clear hn
  go_wp2_with fail
  refine (wawake_any _ (hG.of hb0)).mono ?_
  rintro e U17 ⟨rfl, hn⟩
  replace k3 := k3.of hn
  replace k4 := k4.of hn
  replace hb0 := hb0.trans (hn.mono hb0.size)
  clear hn
  go_wp2
  first | go_ret | go_ret2
  exact ⟨by first | rfl | (simp; done) | (simp; assumption), hb0⟩

set_option maxRecDepth 100000 in
set_option maxHeartbeats 4000000 in

theorem WCom_t (a : Int) (b : Int) (e : Int) (c : Int) (r : Int) (s : Int) (u : Int) (v : Int) (t : Int)   (hP0 : cmk a b = true) (hP1 : cmv a b = c) (hP2 : eq4 (wd0 c) (wd1 c) (wd2 c) (wd3 c) 0 0 0 0 = false) (hP3 : dvOk a c = true) (hP4 : dvOk b c = true) (hP5 : dvr a c = r) (hP6 : r.sign = 0) (hP7 : dvr b c = s) (hP8 : s.sign = 0) (hP9 : c.sign = 1) (hP10 : dvOk a e = true) (hP11 : dvOk b e = true) (hP12 : dvr a e = u) (hP13 : u.sign = 0) (hP14 : dvr b e = v) (hP15 : v.sign = 0) (hP16 : dvOk c e = true) (hP17 : dvr c e = t) (hP18 : t.sign = 0) (_ic : InI c) (_ir : InI r) (_is : InI s) (_iu : InI u) (_iv : InI v) (_it : InI t) (_ia : InI a) (_ib : InI b) (_ie : InI e)  (w : World) (hG : Tab w) :
    Calls Tryd.prog 3 #[.agg #[.int .u64 (wd0 a), .int .u64 (wd1 a), .int .u64 (wd2 a), .int .u64 (wd3 a)], .agg #[.int .u64 (wd0 b), .int .u64 (wd1 b), .int .u64 (wd2 b), .int .u64 (wd3 b)], .agg #[.int .u64 (wd0 e), .int .u64 (wd1 e), .int .u64 (wd2 e), .int .u64 (wd3 e)]] w fun e w' => e = .returned (.bool true) ∧ Below w.heap.size w w' := by

  have HP0 := Lib.hid hP0
  clear hP0
  have HP1 := Lib.hid hP1
  clear hP1
  have HP3 := Lib.hid hP3
  clear hP3
  have HP4 := Lib.hid hP4
  clear hP4
  have HP5 := Lib.hid hP5
  clear hP5
  have HP6 := Lib.hid hP6
  clear hP6
  have HP7 := Lib.hid hP7
  clear hP7
  have HP8 := Lib.hid hP8
  clear hP8
  have HP9 := Lib.hid hP9
  clear hP9
  have HP10 := Lib.hid hP10
  clear hP10
  have HP11 := Lib.hid hP11
  clear hP11
  have HP12 := Lib.hid hP12
  clear hP12
  have HP13 := Lib.hid hP13
  clear hP13
  have HP14 := Lib.hid hP14
  clear hP14
  have HP15 := Lib.hid hP15
  clear hP15
  have HP16 := Lib.hid hP16
  clear hP16
  have HP17 := Lib.hid hP17
  clear hP17
  have HP18 := Lib.hid hP18
  clear hP18
  go_enter Tryd.func3, Tryd.ntmps3
  go_wp2_with fail
  first | refine calls_w ?_ | refine name_world ?_ | refine list_world ?_ | refine post_world ?_
  intro V1 hV1
  have hn : Below w.heap.size w V1 := by rw [hV1]; exact below_a3 _ _ _ _
  have nhb0 := hn
  have k1 : Blk V1 w.heap.size #[.int .u64 (wd0 a), .int .u64 (wd1 a), .int .u64 (wd2 a), .int .u64 (wd3 a)] 24 := by rw [hV1]; exact (((Blk.new _ _ _).alloc _).alloc _)
  have k2 : Blk V1 (w.heap.size + 1) #[.int .u64 (wd0 b), .int .u64 (wd1 b), .int .u64 (wd2 b), .int .u64 (wd3 b)] 24 := by rw [hV1]; exact ((Blk.new1 _ _ _ _).alloc _)
  have k3 : Blk V1 (w.heap.size + 1 + 1) #[.int .u64 (wd0 e), .int .u64 (wd1 e), .int .u64 (wd2 e), .int .u64 (wd3 e)] 24 := by rw [hV1]; exact (Blk.new2 _ _ _ _ _)
  clear hV1
  have hb0 := nhb0
  clear nhb0
  refine (Common_v a b c true HP1.out HP0.out _ia _ib _).mono ?_
  rintro e U2 ⟨rfl, hn⟩
  replace k1 := k1.of hn
  replace k2 := k2.of hn
  replace k3 := k3.of hn
  replace hb0 := hb0.trans (hn.mono hb0.size)
  clear hn
  have c1_0 : U2.cell? ⟨w.heap.size, 0, none⟩ = some (.int .u64 (wd0 a)) := k1.cell 0
  have c1_1 : U2.cell? ⟨w.heap.size, 1, none⟩ = some (.int .u64 (wd1 a)) := k1.cell 1
  have c1_2 : U2.cell? ⟨w.heap.size, 2, none⟩ = some (.int .u64 (wd2 a)) := k1.cell 2
  have c1_3 : U2.cell? ⟨w.heap.size, 3, none⟩ = some (.int .u64 (wd3 a)) := k1.cell 3
  have l1 := k1.lt
  go_wp2_with fail
  clear c1_0 c1_1 c1_2 c1_3 l1
  first | refine calls_w ?_ | refine name_world ?_ | refine list_world ?_ | refine post_world ?_
  intro V3 hV3
  have D1 := Lib.hid k1.lt
  have D2 := Lib.hid k2.lt
  have D3 := Lib.hid k3.lt
  have D4 := Lib.hid hb0.size
  have hn : Below U2.heap.size U2 V3 := by rw [hV3]; exact below_a1 _ _
  have nk1 := k1.of hn
  have nk2 := k2.of hn
  have nk3 := k3.of hn
  have nhb0 := hb0.trans (hn.mono hb0.size)
  clear hn
  have k4 : Blk V3 U2.heap.size #[.int .u64 (wd0 c), .int .u64 (wd1 c), .int .u64 (wd2 c), .int .u64 (wd3 c)] 24 := by rw [hV3]; exact (Blk.new _ _ _)
  clear k1 k2 k3
  clear hb0
  clear hV3
  have k1 := nk1
  clear nk1
  have k2 := nk2
  clear nk2
  have k3 := nk3
  clear nk3
  have hb0 := nhb0
  clear nhb0
  obtain ⟨r1, hr1⟩ : ∃ o_o : Int, dvq a c = o_o := ⟨_, rfl⟩
  have Hr1 := Lib.hid hr1
  clear hr1
  refine (Div_v a c r1 r true Hr1.out HP5.out HP3.out _ia _ic _).mono ?_
  rintro e U4 ⟨rfl, hn⟩
  replace k1 := k1.of hn
  replace k2 := k2.of hn
  replace k3 := k3.of hn
  replace k4 := k4.of hn
  replace hb0 := hb0.trans (hn.mono hb0.size)
  clear hn
  have c2_0 : U4.cell? ⟨(w.heap.size + 1), 0, none⟩ = some (.int .u64 (wd0 b)) := k2.cell 0
  have c2_1 : U4.cell? ⟨(w.heap.size + 1), 1, none⟩ = some (.int .u64 (wd1 b)) := k2.cell 1
  have c2_2 : U4.cell? ⟨(w.heap.size + 1), 2, none⟩ = some (.int .u64 (wd2 b)) := k2.cell 2
  have c2_3 : U4.cell? ⟨(w.heap.size + 1), 3, none⟩ = some (.int .u64 (wd3 b)) := k2.cell 3
  have l2 := k2.lt
  have l2_0 : w.heap.size < U4.heap.size := by have := k2.lt; omega
  have c4_0 : U4.cell? ⟨U2.heap.size, 0, none⟩ = some (.int .u64 (wd0 c)) := k4.cell 0
  have c4_1 : U4.cell? ⟨U2.heap.size, 1, none⟩ = some (.int .u64 (wd1 c)) := k4.cell 1
  have c4_2 : U4.cell? ⟨U2.heap.size, 2, none⟩ = some (.int .u64 (wd2 c)) := k4.cell 2
  have c4_3 : U4.cell? ⟨U2.heap.size, 3, none⟩ = some (.int .u64 (wd3 c)) := k4.cell 3
  have l4 := k4.lt
  go_wp2_with fail
  clear c2_0 c2_1 c2_2 c2_3 l2 l2_0 c4_0 c4_1 c4_2 c4_3 l4
  first | refine calls_w ?_ | refine name_world ?_ | refine list_world ?_ | refine post_world ?_
  intro V5 hV5
  have D5 := Lib.hid k1.lt
  have D6 := Lib.hid k2.lt
  have D7 := Lib.hid k3.lt
  have D8 := Lib.hid k4.lt
  have D9 := Lib.hid hb0.size
  have hn : Below U4.heap.size U4 V5 := by rw [hV5]; exact below_a2 _ _ _
  have nk1 := k1.of hn
  have nk2 := k2.of hn
  have nk3 := k3.of hn
  have nk4 := k4.of hn
  have nhb0 := hb0.trans (hn.mono hb0.size)
  clear hn
  have k5 : Blk V5 U4.heap.size #[.int .u64 (wd0 r1), .int .u64 (wd1 r1), .int .u64 (wd2 r1), .int .u64 (wd3 r1)] 24 := by rw [hV5]; exact ((Blk.new _ _ _).alloc _)
  have k6 : Blk V5 (U4.heap.size + 1) #[.int .u64 (wd0 r), .int .u64 (wd1 r), .int .u64 (wd2 r), .int .u64 (wd3 r)] 24 := by rw [hV5]; exact (Blk.new1 _ _ _ _)
  clear k1 k2 k3 k4
  clear hb0
  clear hV5
  have k1 := nk1
  clear nk1
  have k2 := nk2
  clear nk2
  have k3 := nk3
  clear nk3
  have k4 := nk4
  clear nk4
  have hb0 := nhb0
  clear nhb0
  obtain ⟨r2, hr2⟩ : ∃ o_o : Int, dvq b c = o_o := ⟨_, rfl⟩
  have Hr2 := Lib.hid hr2
  clear hr2
  refine (Div_v b c r2 s true Hr2.out HP7.out HP4.out _ib _ic _).mono ?_
  rintro e U6 ⟨rfl, hn⟩
  clear k5
  replace k1 := k1.of hn
  replace k2 := k2.of hn
  replace k3 := k3.of hn
  replace k4 := k4.of hn
  replace k6 := k6.of hn
  replace hb0 := hb0.trans (hn.mono hb0.size)
  clear hn
  have c6_0 : U6.cell? ⟨(U4.heap.size + 1), 0, none⟩ = some (.int .u64 (wd0 r)) := k6.cell 0
  have c6_1 : U6.cell? ⟨(U4.heap.size + 1), 1, none⟩ = some (.int .u64 (wd1 r)) := k6.cell 1
  have c6_2 : U6.cell? ⟨(U4.heap.size + 1), 2, none⟩ = some (.int .u64 (wd2 r)) := k6.cell 2
  have c6_3 : U6.cell? ⟨(U4.heap.size + 1), 3, none⟩ = some (.int .u64 (wd3 r)) := k6.cell 3
  have l6 := k6.lt
  have l6_0 : U4.heap.size < U6.heap.size := by have := k6.lt; omega
  go_wp2_with fail
  clear c6_0 c6_1 c6_2 c6_3 l6 l6_0
  first | refine calls_w ?_ | refine name_world ?_ | refine list_world ?_ | refine post_world ?_
  intro V7 hV7
  have D10 := Lib.hid k1.lt
  have D11 := Lib.hid k2.lt
  have D12 := Lib.hid k3.lt
  have D13 := Lib.hid k4.lt
  have D14 := Lib.hid k6.lt
  have D15 := Lib.hid hb0.size
  have hn : Below U6.heap.size U6 V7 := by rw [hV7]; exact below_a2 _ _ _
  have nk1 := k1.of hn
  have nk2 := k2.of hn
  have nk3 := k3.of hn
  have nk4 := k4.of hn
  have nk6 := k6.of hn
  have nhb0 := hb0.trans (hn.mono hb0.size)
  clear hn
  have k7 : Blk V7 U6.heap.size #[.int .u64 (wd0 r2), .int .u64 (wd1 r2), .int .u64 (wd2 r2), .int .u64 (wd3 r2)] 24 := by rw [hV7]; exact ((Blk.new _ _ _).alloc _)
  have k8 : Blk V7 (U6.heap.size + 1) #[.int .u64 (wd0 s), .int .u64 (wd1 s), .int .u64 (wd2 s), .int .u64 (wd3 s)] 24 := by rw [hV7]; exact (Blk.new1 _ _ _ _)
  clear k1 k2 k3 k4 k6
  clear hb0
  clear hV7
  have k1 := nk1
  clear nk1
  have k2 := nk2
  clear nk2
  have k3 := nk3
  clear nk3
  have k4 := nk4
  clear nk4
  have k6 := nk6
  clear nk6
  have hb0 := nhb0
  clear nhb0
  refine (Sign_v r 0 HP6.out _ir _).mono ?_
  rintro e U8 ⟨rfl, hn⟩
  clear k7
  replace k1 := k1.of hn
  replace k2 := k2.of hn
  replace k3 := k3.of hn
  replace k4 := k4.of hn
  replace k6 := k6.of hn
  replace k8 := k8.of hn
  replace hb0 := hb0.trans (hn.mono hb0.size)
  clear hn
  have c8_0 : U8.cell? ⟨(U6.heap.size + 1), 0, none⟩ = some (.int .u64 (wd0 s)) := k8.cell 0
  have c8_1 : U8.cell? ⟨(U6.heap.size + 1), 1, none⟩ = some (.int .u64 (wd1 s)) := k8.cell 1
  have c8_2 : U8.cell? ⟨(U6.heap.size + 1), 2, none⟩ = some (.int .u64 (wd2 s)) := k8.cell 2
  have c8_3 : U8.cell? ⟨(U6.heap.size + 1), 3, none⟩ = some (.int .u64 (wd3 s)) := k8.cell 3
  have l8 := k8.lt
  go_wp2_with fail
  clear c8_0 c8_1 c8_2 c8_3 l8
  refine (Sign_v s 0 HP8.out _is _).mono ?_
  rintro e U9 ⟨rfl, hn⟩
  replace k1 := k1.of hn
  replace k2 := k2.of hn
  replace k3 := k3.of hn
  replace k4 := k4.of hn
  replace k6 := k6.of hn
  replace k8 := k8.of hn
  replace hb0 := hb0.trans (hn.mono hb0.size)
  clear hn
  have c4_0 : U9.cell? ⟨U2.heap.size, 0, none⟩ = some (.int .u64 (wd0 c)) := k4.cell 0
  have c4_1 : U9.cell? ⟨U2.heap.size, 1, none⟩ = some (.int .u64 (wd1 c)) := k4.cell 1
  have c4_2 : U9.cell? ⟨U2.heap.size, 2, none⟩ = some (.int .u64 (wd2 c)) := k4.cell 2
  have c4_3 : U9.cell? ⟨U2.heap.size, 3, none⟩ = some (.int .u64 (wd3 c)) := k4.cell 3
  have l4 := k4.lt
  go_wp2_with fail
  clear c4_0 c4_1 c4_2 c4_3 l4
  refine (Sign_v c 1 HP9.out _ic _).mono ?_
  rintro e U10 ⟨rfl, hn⟩
  replace k1 := k1.of hn
  replace k2 := k2.of hn
  replace k3 := k3.of hn
  replace k4 := k4.of hn
  replace k6 := k6.of hn
  replace k8 := k8.of hn
  replace hb0 := hb0.trans (hn.mono hb0.size)
  clear hn
  have c1_0 : U10.cell? ⟨w.heap.size, 0, none⟩ = some (.int .u64 (wd0 a)) := k1.cell 0
  have c1_1 : U10.cell? ⟨w.heap.size, 1, none⟩ = some (.int .u64 (wd1 a)) := k1.cell 1
  have c1_2 : U10.cell? ⟨w.heap.size, 2, none⟩ = some (.int .u64 (wd2 a)) := k1.cell 2
  have c1_3 : U10.cell? ⟨w.heap.size, 3, none⟩ = some (.int .u64 (wd3 a)) := k1.cell 3
  have l1 := k1.lt
  have c3_0 : U10.cell? ⟨(w.heap.size + 1 + 1), 0, none⟩ = some (.int .u64 (wd0 e)) := k3.cell 0
  have c3_1 : U10.cell? ⟨(w.heap.size + 1 + 1), 1, none⟩ = some (.int .u64 (wd1 e)) := k3.cell 1
  have c3_2 : U10.cell? ⟨(w.heap.size + 1 + 1), 2, none⟩ = some (.int .u64 (wd2 e)) := k3.cell 2
  have c3_3 : U10.cell? ⟨(w.heap.size + 1 + 1), 3, none⟩ = some (.int .u64 (wd3 e)) := k3.cell 3
  have l3 := k3.lt
  go_wp2_with fail
  clear c1_0 c1_1 c1_2 c1_3 l1 c3_0 c3_1 c3_2 c3_3 l3
  obtain ⟨r3, hr3⟩ : ∃ o_o : Int, dvq a e = o_o := ⟨_, rfl⟩
  have Hr3 := Lib.hid hr3
  clear hr3
  refine (Div_v a e r3 u true Hr3.out HP12.out HP10.out _ia _ie _).mono ?_
  rintro e U11 ⟨rfl, hn⟩
  clear k1
  replace k2 := k2.of hn
  replace k3 := k3.of hn
  replace k4 := k4.of hn
  replace k6 := k6.of hn
  replace k8 := k8.of hn
  replace hb0 := hb0.trans (hn.mono hb0.size)
  clear hn
  have c2_0 : U11.cell? ⟨(w.heap.size + 1), 0, none⟩ = some (.int .u64 (wd0 b)) := k2.cell 0
  have c2_1 : U11.cell? ⟨(w.heap.size + 1), 1, none⟩ = some (.int .u64 (wd1 b)) := k2.cell 1
  have c2_2 : U11.cell? ⟨(w.heap.size + 1), 2, none⟩ = some (.int .u64 (wd2 b)) := k2.cell 2
  have c2_3 : U11.cell? ⟨(w.heap.size + 1), 3, none⟩ = some (.int .u64 (wd3 b)) := k2.cell 3
  have l2 := k2.lt
  have c3_0 : U11.cell? ⟨(w.heap.size + 1 + 1), 0, none⟩ = some (.int .u64 (wd0 e)) := k3.cell 0
  have c3_1 : U11.cell? ⟨(w.heap.size + 1 + 1), 1, none⟩ = some (.int .u64 (wd1 e)) := k3.cell 1
  have c3_2 : U11.cell? ⟨(w.heap.size + 1 + 1), 2, none⟩ = some (.int .u64 (wd2 e)) := k3.cell 2
  have c3_3 : U11.cell? ⟨(w.heap.size + 1 + 1), 3, none⟩ = some (.int .u64 (wd3 e)) := k3.cell 3
  have l3 := k3.lt
  have c6_0 : U11.cell? ⟨(U4.heap.size + 1), 0, none⟩ = some (.int .u64 (wd0 r)) := k6.cell 0
  have c6_1 : U11.cell? ⟨(U4.heap.size + 1), 1, none⟩ = some (.int .u64 (wd1 r)) := k6.cell 1
  have c6_2 : U11.cell? ⟨(U4.heap.size + 1), 2, none⟩ = some (.int .u64 (wd2 r)) := k6.cell 2
  have c6_3 : U11.cell? ⟨(U4.heap.size + 1), 3, none⟩ = some (.int .u64 (wd3 r)) := k6.cell 3
  have f6_0 := k6.free 0
  have f6_1 := k6.free 1
  have f6_2 := k6.free 2
  have f6_3 := k6.free 3
  have l6 := k6.lt
  have p2_6 : (w.heap.size + 1) ≠ (U4.heap.size + 1) := (by have := D6.out; omega)
  have p3_6 : (w.heap.size + 1 + 1) ≠ (U4.heap.size + 1) := (by have := D7.out; omega)
  go_wp2_with fail
  clear c2_0 c2_1 c2_2 c2_3 l2 c3_0 c3_1 c3_2 c3_3 l3 c6_0 c6_1 c6_2 c6_3 f6_0 f6_1 f6_2 f6_3 l6 p2_6 p3_6
  first | refine calls_w ?_ | refine name_world ?_ | refine list_world ?_ | refine post_world ?_
  intro V12 hV12
  clear k2
  have D16 := Lib.hid k3.lt
  have D17 := Lib.hid k4.lt
  have D18 := Lib.hid k6.lt
  have D19 := Lib.hid k8.lt
  have D20 := Lib.hid hb0.size
  have nk3 : Blk V12 (w.heap.size + 1 + 1) #[.int .u64 (wd0 e), .int .u64 (wd1 e), .int .u64 (wd2 e), .int .u64 (wd3 e)] 24 := by rw [hV12]; exact (blk_setL k3 (by have := D7.out; omega) 0 [.int .u64 (wd0 u), .int .u64 (wd1 u), .int .u64 (wd2 u), .int .u64 (wd3 u)])
  have nk4 : Blk V12 U2.heap.size #[.int .u64 (wd0 c), .int .u64 (wd1 c), .int .u64 (wd2 c), .int .u64 (wd3 c)] 24 := by rw [hV12]; exact (blk_setL k4 (by have := D8.out; omega) 0 [.int .u64 (wd0 u), .int .u64 (wd1 u), .int .u64 (wd2 u), .int .u64 (wd3 u)])
  have nk6 : Blk V12 (U4.heap.size + 1) #[.int .u64 (wd0 u), .int .u64 (wd1 u), .int .u64 (wd2 u), .int .u64 (wd3 u)] 24 := by rw [hV12]; exact (blk_full _ [.int .u64 (wd0 u), .int .u64 (wd1 u), .int .u64 (wd2 u), .int .u64 (wd3 u)] k6 rfl)
  have nk8 : Blk V12 (U6.heap.size + 1) #[.int .u64 (wd0 s), .int .u64 (wd1 s), .int .u64 (wd2 s), .int .u64 (wd3 s)] 24 := by rw [hV12]; exact (blk_setL k8 (by have := D14.out; omega) 0 [.int .u64 (wd0 u), .int .u64 (wd1 u), .int .u64 (wd2 u), .int .u64 (wd3 u)])
  have nhb0 : Below w.heap.size w V12 := by rw [hV12]; exact (blw_setL hb0 (by have := D9.out; omega) 0 [.int .u64 (wd0 u), .int .u64 (wd1 u), .int .u64 (wd2 u), .int .u64 (wd3 u)])
  clear k3 k4 k6 k8
  clear hb0
  clear hV12
  have k3 := nk3
  clear nk3
  have k4 := nk4
  clear nk4
  have k6 := nk6
  clear nk6
  have k8 := nk8
  clear nk8
  have hb0 := nhb0
  clear nhb0
  obtain ⟨r4, hr4⟩ : ∃ o_o : Int, dvq b e = o_o := ⟨_, rfl⟩
  have Hr4 := Lib.hid hr4
  clear hr4
  refine (Div_v b e r4 v true Hr4.out HP14.out HP11.out _ib _ie _).mono ?_
  rintro e U13 ⟨rfl, hn⟩
  replace k3 := k3.of hn
  replace k4 := k4.of hn
  replace k6 := k6.of hn
  replace k8 := k8.of hn
  replace hb0 := hb0.trans (hn.mono hb0.size)
  clear hn
  have c6_0 : U13.cell? ⟨(U4.heap.size + 1), 0, none⟩ = some (.int .u64 (wd0 u)) := k6.cell 0
  have c6_1 : U13.cell? ⟨(U4.heap.size + 1), 1, none⟩ = some (.int .u64 (wd1 u)) := k6.cell 1
  have c6_2 : U13.cell? ⟨(U4.heap.size + 1), 2, none⟩ = some (.int .u64 (wd2 u)) := k6.cell 2
  have c6_3 : U13.cell? ⟨(U4.heap.size + 1), 3, none⟩ = some (.int .u64 (wd3 u)) := k6.cell 3
  have l6 := k6.lt
  have c8_0 : U13.cell? ⟨(U6.heap.size + 1), 0, none⟩ = some (.int .u64 (wd0 s)) := k8.cell 0
  have c8_1 : U13.cell? ⟨(U6.heap.size + 1), 1, none⟩ = some (.int .u64 (wd1 s)) := k8.cell 1
  have c8_2 : U13.cell? ⟨(U6.heap.size + 1), 2, none⟩ = some (.int .u64 (wd2 s)) := k8.cell 2
  have c8_3 : U13.cell? ⟨(U6.heap.size + 1), 3, none⟩ = some (.int .u64 (wd3 s)) := k8.cell 3
  have f8_0 := k8.free 0
  have f8_1 := k8.free 1
  have f8_2 := k8.free 2
  have f8_3 := k8.free 3
  have l8 := k8.lt
  have p6_8 : (U4.heap.size + 1) ≠ (U6.heap.size + 1) := (by have := D14.out; omega)
  go_wp2_with fail
  clear c6_0 c6_1 c6_2 c6_3 l6 c8_0 c8_1 c8_2 c8_3 f8_0 f8_1 f8_2 f8_3 l8 p6_8
  first | refine calls_w ?_ | refine name_world ?_ | refine list_world ?_ | refine post_world ?_
  intro V14 hV14
  clear k6
  have D21 := Lib.hid k3.lt
  have D22 := Lib.hid k4.lt
  have D23 := Lib.hid k8.lt
  have D24 := Lib.hid hb0.size
  have nk3 : Blk V14 (w.heap.size + 1 + 1) #[.int .u64 (wd0 e), .int .u64 (wd1 e), .int .u64 (wd2 e), .int .u64 (wd3 e)] 24 := by rw [hV14]; exact (blk_setL k3 (by have := D12.out; omega) 0 [.int .u64 (wd0 v), .int .u64 (wd1 v), .int .u64 (wd2 v), .int .u64 (wd3 v)])
  have nk4 : Blk V14 U2.heap.size #[.int .u64 (wd0 c), .int .u64 (wd1 c), .int .u64 (wd2 c), .int .u64 (wd3 c)] 24 := by rw [hV14]; exact (blk_setL k4 (by have := D13.out; omega) 0 [.int .u64 (wd0 v), .int .u64 (wd1 v), .int .u64 (wd2 v), .int .u64 (wd3 v)])
  have nk8 : Blk V14 (U6.heap.size + 1) #[.int .u64 (wd0 v), .int .u64 (wd1 v), .int .u64 (wd2 v), .int .u64 (wd3 v)] 24 := by rw [hV14]; exact (blk_full _ [.int .u64 (wd0 v), .int .u64 (wd1 v), .int .u64 (wd2 v), .int .u64 (wd3 v)] k8 rfl)
  have nhb0 : Below w.heap.size w V14 := by rw [hV14]; exact (blw_setL hb0 (by have := D15.out; omega) 0 [.int .u64 (wd0 v), .int .u64 (wd1 v), .int .u64 (wd2 v), .int .u64 (wd3 v)])
  clear k3 k4 k8
  clear hb0
  clear hV14
  have k3 := nk3
  clear nk3
  have k4 := nk4
  clear nk4
  have k8 := nk8
  clear nk8
  have hb0 := nhb0
  clear nhb0
  refine (Sign_v u 0 HP13.out _iu _).mono ?_
  rintro e U15 ⟨rfl, hn⟩
  replace k3 := k3.of hn
  replace k4 := k4.of hn
  replace k8 := k8.of hn
  replace hb0 := hb0.trans (hn.mono hb0.size)
  clear hn
  have c8_0 : U15.cell? ⟨(U6.heap.size + 1), 0, none⟩ = some (.int .u64 (wd0 v)) := k8.cell 0
  have c8_1 : U15.cell? ⟨(U6.heap.size + 1), 1, none⟩ = some (.int .u64 (wd1 v)) := k8.cell 1
  have c8_2 : U15.cell? ⟨(U6.heap.size + 1), 2, none⟩ = some (.int .u64 (wd2 v)) := k8.cell 2
  have c8_3 : U15.cell? ⟨(U6.heap.size + 1), 3, none⟩ = some (.int .u64 (wd3 v)) := k8.cell 3
  have l8 := k8.lt
  go_wp2_with fail
  clear c8_0 c8_1 c8_2 c8_3 l8
  refine (Sign_v v 0 HP15.out _iv _).mono ?_
  rintro e U16 ⟨rfl, hn⟩
  clear k8
  replace k3 := k3.of hn
  replace k4 := k4.of hn
  replace hb0 := hb0.trans (hn.mono hb0.size)
  clear hn
  have c3_0 : U16.cell? ⟨(w.heap.size + 1 + 1), 0, none⟩ = some (.int .u64 (wd0 e)) := k3.cell 0
  have c3_1 : U16.cell? ⟨(w.heap.size + 1 + 1), 1, none⟩ = some (.int .u64 (wd1 e)) := k3.cell 1
  have c3_2 : U16.cell? ⟨(w.heap.size + 1 + 1), 2, none⟩ = some (.int .u64 (wd2 e)) := k3.cell 2
  have c3_3 : U16.cell? ⟨(w.heap.size + 1 + 1), 3, none⟩ = some (.int .u64 (wd3 e)) := k3.cell 3
  have l3 := k3.lt
  have c4_0 : U16.cell? ⟨U2.heap.size, 0, none⟩ = some (.int .u64 (wd0 c)) := k4.cell 0
  have c4_1 : U16.cell? ⟨U2.heap.size, 1, none⟩ = some (.int .u64 (wd1 c)) := k4.cell 1
  have c4_2 : U16.cell? ⟨U2.heap.size, 2, none⟩ = some (.int .u64 (wd2 c)) := k4.cell 2
  have c4_3 : U16.cell? ⟨U2.heap.size, 3, none⟩ = some (.int .u64 (wd3 c)) := k4.cell 3
  have l4 := k4.lt
  go_wp2_with fail
  clear c3_0 c3_1 c3_2 c3_3 l3 c4_0 c4_1 c4_2 c4_3 l4
  obtain ⟨r5, hr5⟩ : ∃ o_o : Int, dvq c e = o_o := ⟨_, rfl⟩
  have Hr5 := Lib.hid hr5
  clear hr5
  refine (Div_v c e r5 t true Hr5.out HP17.out HP16.out _ic _ie _).mono ?_
  rintro e U17 ⟨rfl, hn⟩
  clear k3 k4
  replace hb0 := hb0.trans (hn.mono hb0.size)
  clear hn
  go_wp2_with fail
  first | refine calls_w ?_ | refine name_world ?_ | refine list_world ?_ | refine post_world ?_
  intro V18 hV18
  have D25 := Lib.hid hb0.size
  have hn : Below U17.heap.size U17 V18 := by rw [hV18]; exact below_a2 _ _ _
  have nhb0 := hb0.trans (hn.mono hb0.size)
  clear hn
  have k9 : Blk V18 U17.heap.size #[.int .u64 (wd0 r5), .int .u64 (wd1 r5), .int .u64 (wd2 r5), .int .u64 (wd3 r5)] 24 := by rw [hV18]; exact ((Blk.new _ _ _).alloc _)
  have k10 : Blk V18 (U17.heap.size + 1) #[.int .u64 (wd0 t), .int .u64 (wd1 t), .int .u64 (wd2 t), .int .u64 (wd3 t)] 24 := by rw [hV18]; exact (Blk.new1 _ _ _ _)
  clear hb0
  clear hV18
  have hb0 := nhb0
  clear nhb0
  refine (Sign_v t 0 HP18.out _it _).mono ?_
  rintro e U19 ⟨rfl, hn⟩
  clear k9 k10
  replace hb0 := hb0.trans (hn.mono hb0.size)
  clear hn
  go_wp2_with fail
  refine (wawake_any _ (hG.of hb0)).mono ?_
  rintro e U20 ⟨rfl, hn⟩
  replace hb0 := hb0.trans (hn.mono hb0.size)
  clear hn
  go_wp2
  first | go_ret | go_ret2
  exact ⟨by first | rfl | (simp; done) | (simp; assumption), hb0⟩
end Go.Proofs.YtcfiemeknocgjaaDoor
