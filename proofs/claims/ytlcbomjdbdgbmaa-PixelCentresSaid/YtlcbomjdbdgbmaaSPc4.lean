/- The statement PixelCentresSaid: for every input the law returns true, and its arguments read as before. Conditions: none. -/
import Derived.Test.YtlcbomjdbdgbmaaSPc3
import Derived.KernelRfl
import Derived.StillTail
import Derived.OrdersHeld
import Derived.Deep.Quiet
import Derived.Below
import Derived.WalkKit
import Derived.Test.YtlcbomjdbdgbmaaProg
import Derived.WalkSpells
import Derived.StillTactics
import Derived.Laws.Pointers
import Derived.Deep.RegionHeld3
import Derived.RowKit3
import Derived.Deep.QuietTactic
import Derived.BigQuiet
import Derived.BigRegion
import Derived.Lib.Hide
import Derived.WalkSmall
import Derived.Laws.BitsAllLaws
import Derived.IntWalk
import Derived.Deep.OwnRows
import Derived.Deep.LoopGhost
import Derived.Shelf.Bits.Mul64
import Derived.Deep.WholeRow
import Derived.Laws.Rows
import Derived.Test.YtlcbomjdbdgbmaaRows
import Derived.ProofKit
import Derived.OpenShut
import Derived.ShutString
import Derived.ChangeOld
import Derived.Lib.SmallJoins
import Derived.Laws.IdiomArrays
namespace Go.Proofs.Ytlcbomjdbdgbmaa
open Go.RowKit

theorem alPxL2_0 : AllocRuns Try.prog 24 #[.int .i64 0, .int .i64 0] := fun w => by kernel_rfl

set_option maxRecDepth 100000 in
set_option maxHeartbeats 4000000 in

theorem PCe_4 (cx : Int) (cy : Int) (n : Int)    (hP0 : prfx cx cy = cx) (hP1 : prfy cx cy = cy) (hP2 : pxCx cx cy n = (wrap64 (cx * n))) (hP3 : pxCy cx cy n = (wrap64 (cy * n))) (hP4 : pxCe cx cy n = 0) (hP5 : psz n = true) (hP6 : rp cx cy = true) (hP7 : rp (wrap64 (cx * n)) (wrap64 (cy * n)) = true) (hP8 : atx (wrap64 (cx * n)) (wrap64 (cy * n)) = (wrap64 (cx * n))) (hP9 : aty (wrap64 (cx * n)) (wrap64 (cy * n)) = (wrap64 (cy * n))) (hP10 : atw (wrap64 (cx * n)) (wrap64 (cy * n)) = 1) (hP11 : pxI (wrap64 (cx * n)) (wrap64 (cy * n)) 1 cx cy n = true) (hP12 : rp (wrap64 ((wrap64 (cx * n)) - (wrap64 (Int.tdiv n 2)))) (wrap64 (cy * n)) = false) (hP13 : rp (wrap64 ((wrap64 (cx * n)) + (wrap64 (Int.tdiv (wrap64 (n + 1)) 2)))) (wrap64 (cy * n)) = false) (_icx : In64 cx) (_icy : In64 cy) (_in : In64 n)  (w : World)  :
    Calls Try.prog 8 #[.agg #[.int .i64 cx, .int .i64 cy], .int .i64 n] w fun e w' => e = .returned (.bool true) ∧ Below w.heap.size w w' := by

  have HP0 := Lib.hid hP0
  clear hP0
  have HP1 := Lib.hid hP1
  clear hP1
  have HP2 := Lib.hid hP2
  clear hP2
  have HP3 := Lib.hid hP3
  clear hP3
  have HP4 := Lib.hid hP4
  clear hP4
  have HP5 := Lib.hid hP5
  clear hP5
  have HP6 := Lib.hid hP6
  clear hP6
  have HP7 := Lib.hid hP7
  clear hP7
  have HP8 := Lib.hid hP8
  clear hP8
  have HP9 := Lib.hid hP9
  clear hP9
  have HP10 := Lib.hid hP10
  clear hP10
  have HP11 := Lib.hid hP11
  clear hP11
  have HP12 := Lib.hid hP12
  clear hP12
  have HP13 := Lib.hid hP13
  clear hP13
  go_enter Try.func8, Try.ntmps8
  go_wp2_with fail
  first | refine calls_w ?_ | refine name_world ?_ | refine list_world ?_ | refine post_world ?_
  intro V1 hV1
  have hn : Below w.heap.size w V1 := by rw [hV1]; exact below_a1 _ _
  have nhb0 := hn
  have k1 : Blk V1 w.heap.size #[.int .i64 cx, .int .i64 cy] 24 := by rw [hV1]; exact (Blk.new _ _ _)
  clear hV1
  have hb0 := nhb0
  clear nhb0
  refine (pxCe_is cx cy n (wrap64 (cx * n)) (wrap64 (cy * n)) 0 HP2.out HP3.out HP4.out _icx _icy _in  _).mono ?_
  rintro e U2 ⟨rfl, hn⟩
  replace k1 := k1.of hn
  replace hb0 := hb0.trans (hn.mono hb0.size)
  clear hn
  go_wp2_with fail
  first | refine calls_w ?_ | refine name_world ?_ | refine list_world ?_ | refine post_world ?_
  intro V3 hV3
  have D1 := Lib.hid k1.lt
  have D2 := Lib.hid hb0.size
  have hn : Below U2.heap.size U2 V3 := by rw [hV3]; exact below_a1 _ _
  have nk1 := k1.of hn
  have nhb0 := hb0.trans (hn.mono hb0.size)
  clear hn
  have k2 : Blk V3 U2.heap.size #[.int .i64 ((wrap64 (cx * n))), .int .i64 ((wrap64 (cy * n)))] 24 := by rw [hV3]; exact (Blk.new _ _ _)
  clear k1
  clear hb0
  clear hV3
  have k1 := nk1
  clear nk1
  have hb0 := nhb0
  clear nhb0
  refine (p15size_is n true HP5.out _in  _).mono ?_
  rintro e U4 ⟨rfl, hn⟩
  replace k1 := k1.of hn
  replace k2 := k2.of hn
  replace hb0 := hb0.trans (hn.mono hb0.size)
  clear hn
  have c1_0 : U4.cell? ⟨w.heap.size, 0, none⟩ = some (.int .i64 cx) := k1.cell 0
  have c1_1 : U4.cell? ⟨w.heap.size, 1, none⟩ = some (.int .i64 cy) := k1.cell 1
  have l1 := k1.lt
  go_wp2_with fail
  clear c1_0 c1_1 l1
  refine (p15ref_is cx cy cx cy HP0.out HP1.out _icx _icy  _).mono ?_
  rintro e U5 ⟨rfl, hn⟩
  replace k1 := k1.of hn
  replace k2 := k2.of hn
  replace hb0 := hb0.trans (hn.mono hb0.size)
  clear hn
  go_wp2_with fail
  refine (rRight_v cx cy true HP6.out _).mono ?_
  rintro e U6 ⟨rfl, hn⟩
  replace k1 := k1.of hn
  replace k2 := k2.of hn
  replace hb0 := hb0.trans (hn.mono hb0.size)
  clear hn
  have c1_0 : U6.cell? ⟨w.heap.size, 0, none⟩ = some (.int .i64 cx) := k1.cell 0
  have c1_1 : U6.cell? ⟨w.heap.size, 1, none⟩ = some (.int .i64 cy) := k1.cell 1
  have l1 := k1.lt
  go_wp2_with fail
  clear c1_0 c1_1 l1
  refine (rRight_v (wrap64 (cx * n)) (wrap64 (cy * n)) true HP7.out _).mono ?_
  rintro e U7 ⟨rfl, hn⟩
  replace k1 := k1.of hn
  replace k2 := k2.of hn
  replace hb0 := hb0.trans (hn.mono hb0.size)
  clear hn
  go_wp2_with fail
  have c1_0 : U7.cell? ⟨w.heap.size, 0, none⟩ = some (.int .i64 cx) := k1.cell 0
  have c1_1 : U7.cell? ⟨w.heap.size, 1, none⟩ = some (.int .i64 cy) := k1.cell 1
  have l1 := k1.lt
  have c2_0 : U7.cell? ⟨U2.heap.size, 0, none⟩ = some (.int .i64 ((wrap64 (cx * n)))) := k2.cell 0
  have c2_1 : U7.cell? ⟨U2.heap.size, 1, none⟩ = some (.int .i64 ((wrap64 (cy * n)))) := k2.cell 1
  have l2 := k2.lt
  have Kk1 := Lib.hid k1
  clear k1
  have Kk2 := Lib.hid k2
  clear k2
  refine wp_region_up U7.heap.size 20 [(true, 0), (true, 1), (true, 2), (true, 3), (true, 4), (true, 5), (true, 6), (true, 7), (true, 8), (true, 9), (true, 10), (true, 11), (true, 12), (true, 13), (true, 14), (true, 15), (true, 16), (true, 18), (true, 19), (false, 17)] (by kernel_rfl) (by kernel_rfl) (fun _ _ d _ _ h => by cases d <;> exact h) ?_
  have hb : Below U7.heap.size U7 U7.drew := (Below.refl _ _).drew
  iterate 19
    refine wpS_takeL rfl rfl ?_
    go_big_quiet_step (rfl)
    refine wpQuiet_nil ?_
  refine wpS_doL rfl ?_
  intro K hK
  go_wp2_with ((go_at_call 47; (with_reducible refine (crAt_is (wrap64 (cx * n)) (wrap64 (cy * n)) (wrap64 (cx * n)) (wrap64 (cy * n)) 1 HP8.out HP9.out HP10.out (wrap64_in _) (wrap64_in _)  _).mono ?_); rintro e w2 ⟨rfl, hn⟩))
  try replace hb := hb.trans (hn.mono hb.size)
  refine hK.out _ _ (up_iff.2 hb) ?_
  clear hK K
  try clear hn
  refine wpS_nil ?_
  simp only [List.drop_succ_cons, List.drop_zero]
  first | refine calls_w ?_ | refine name_world ?_ | refine list_world ?_ | refine post_world ?_
  intro U8 hU8
  first | (subst hU8; have u_ := U8; clear u_) | (rw [← hU8] at hb; clear hU8)
  clear c1_0 c1_1 l1 c2_0 c2_1 l2
  have k1 := Kk1.out.of hb
  clear Kk1
  have k2 := Kk2.out.of hb
  clear Kk2
  replace hb0 := hb0.trans (hb.mono hb0.size)
  clear hb
  go_wp2_with fail
  refine (pxIn_is (wrap64 (cx * n)) (wrap64 (cy * n)) 1 cx cy n true HP11.out (in64_I' (wrap64_in _)) (in64_I' (wrap64_in _)) (by unfold InI b255; omega) _icx _icy _in  _).mono ?_
  rintro e U9 ⟨rfl, hn⟩
  replace k1 := k1.of hn
  replace k2 := k2.of hn
  replace hb0 := hb0.trans (hn.mono hb0.size)
  clear hn
  go_wp2_with fail
  have c2_0 : U9.cell? ⟨U2.heap.size, 0, none⟩ = some (.int .i64 ((wrap64 (cx * n)))) := k2.cell 0
  have c2_1 : U9.cell? ⟨U2.heap.size, 1, none⟩ = some (.int .i64 ((wrap64 (cy * n)))) := k2.cell 1
  have l2 := k2.lt
  have Kk1 := Lib.hid k1
  clear k1
  have Kk2 := Lib.hid k2
  clear k2
  refine Stay.wp_region_FG2 19 17 18 [(0, 0), (0, 1), (0, 2), (0, 3), (0, 4), (0, 5), (0, 6), (0, 7), (0, 8), (0, 9), (0, 10), (0, 11), (0, 12), (0, 13), (0, 14), (0, 15), (0, 16)] [(1, 19), (1, 20)] (by kernel_rfl) (by kernel_rfl) (fun _ _ d _ _ => by cases d <;> exact Iff.rfl) rfl rfl rfl alPxL2_0 rfl rfl rfl alPxL2_0 rfl ?_
  have hb : Below U9.heap.size U9 U9.drew := (Below.refl _ _).drew
  iterate 17
    refine wpFG_take0 rfl rfl ?_
    go_big_quiet_step (rfl)
    refine wpQuiet_nil ?_
  refine wpFG_nil ?_
  clear hb
  intro w1 hg hb b1 b2 hne lb1 nb1 lb2 nb2
  clear hg
  simp only [Act.put, ptrTo, List.setIfInBounds_toArray, List.set_cons_succ, List.set_cons_zero]
  have m1 : Blk w1 b1 #[.int .i64 0, .int .i64 0] 24 := nb1
  have mc1_0 : w1.cell? ⟨b1, 0, none⟩ = some (.int .i64 0) := m1.cell 0
  have mf1_0 := m1.free 0
  have mc1_1 : w1.cell? ⟨b1, 1, none⟩ = some (.int .i64 0) := m1.cell 1
  have mf1_1 := m1.free 1
  have m2 : Blk w1 b2 #[.int .i64 0, .int .i64 0] 24 := nb2
  have mc2_0 : w1.cell? ⟨b2, 0, none⟩ = some (.int .i64 0) := m2.cell 0
  have mf2_0 := m2.free 0
  have mc2_1 : w1.cell? ⟨b2, 1, none⟩ = some (.int .i64 0) := m2.cell 1
  have mf2_1 := m2.free 1
  refine wpG_do1 rfl ?_
  intro K hK
  go_wp2_with fail
  refine hK.out _ _ (up_iff.2 (by repeat' (first | exact hb | exact lb1 | exact lb2 | refine Below.setCell ?_ ?_ _))) ?_
  clear hK K
  refine wpG_do1 rfl ?_
  intro K hK
  go_wp2_with fail
  refine hK.out _ _ (up_iff.2 (by repeat' (first | exact hb | exact lb1 | exact lb2 | refine Below.setCell ?_ ?_ _))) ?_
  clear hK K
  refine wpG_nil ?_
  refine list_world ?_
  intro U10 hU10
  clear c2_0 c2_1 l2
  have D3 := Lib.hid Kk1.out.lt
  have D4 := Lib.hid Kk2.out.lt
  have D5 := Lib.hid hb0.size
  have D6 := Lib.hid lb1
  have D7 := Lib.hid lb2
  have D8 := Lib.hid (show b1 ≠ b2 from hne)
  have k1 : Blk U10 w.heap.size #[.int .i64 cx, .int .i64 cy] 24 := by rw [hU10]; exact (blk_setL (blk_setL (Kk1.out.of hb) (by have := D3.out; have := D6.out; omega) 0 [.int .i64 ((wrap64 ((wrap64 (cx * n)) - (wrap64 (Int.tdiv n 2))))), .int .i64 ((wrap64 (cy * n)))]) (by have := D3.out; have := D7.out; omega) 0 [.int .i64 ((wrap64 ((wrap64 (cx * n)) + (wrap64 (Int.tdiv (wrap64 (n + 1)) 2))))), .int .i64 ((wrap64 (cy * n)))])
  have k2 : Blk U10 U2.heap.size #[.int .i64 ((wrap64 (cx * n))), .int .i64 ((wrap64 (cy * n)))] 24 := by rw [hU10]; exact (blk_setL (blk_setL (Kk2.out.of hb) (by have := D4.out; have := D6.out; omega) 0 [.int .i64 ((wrap64 ((wrap64 (cx * n)) - (wrap64 (Int.tdiv n 2))))), .int .i64 ((wrap64 (cy * n)))]) (by have := D4.out; have := D7.out; omega) 0 [.int .i64 ((wrap64 ((wrap64 (cx * n)) + (wrap64 (Int.tdiv (wrap64 (n + 1)) 2))))), .int .i64 ((wrap64 (cy * n)))])
  have k3 : Blk U10 b1 #[.int .i64 ((wrap64 ((wrap64 (cx * n)) - (wrap64 (Int.tdiv n 2))))), .int .i64 ((wrap64 (cy * n)))] 24 := by rw [hU10]; exact (blk_setL (blk_full _ [.int .i64 ((wrap64 ((wrap64 (cx * n)) - (wrap64 (Int.tdiv n 2))))), .int .i64 ((wrap64 (cy * n)))] m1 rfl) (by have := D8.out; omega) 0 [.int .i64 ((wrap64 ((wrap64 (cx * n)) + (wrap64 (Int.tdiv (wrap64 (n + 1)) 2))))), .int .i64 ((wrap64 (cy * n)))])
  have k4 : Blk U10 b2 #[.int .i64 ((wrap64 ((wrap64 (cx * n)) + (wrap64 (Int.tdiv (wrap64 (n + 1)) 2))))), .int .i64 ((wrap64 (cy * n)))] 24 := by rw [hU10]; exact (blk_full _ [.int .i64 ((wrap64 ((wrap64 (cx * n)) + (wrap64 (Int.tdiv (wrap64 (n + 1)) 2))))), .int .i64 ((wrap64 (cy * n)))] (blk_setL m2 (by have := D8.out; omega) 0 [.int .i64 ((wrap64 ((wrap64 (cx * n)) - (wrap64 (Int.tdiv n 2))))), .int .i64 ((wrap64 (cy * n)))]) rfl)
  replace hb0 : Below w.heap.size w U10 := by rw [hU10]; exact (blw_setL (blw_setL (hb0.trans (hb.mono hb0.size)) (by have := D5.out; have := D6.out; omega) 0 [.int .i64 ((wrap64 ((wrap64 (cx * n)) - (wrap64 (Int.tdiv n 2))))), .int .i64 ((wrap64 (cy * n)))]) (by have := D5.out; have := D7.out; omega) 0 [.int .i64 ((wrap64 ((wrap64 (cx * n)) + (wrap64 (Int.tdiv (wrap64 (n + 1)) 2))))), .int .i64 ((wrap64 (cy * n)))])
  clear hU10 hb Kk1 Kk2 m1 nb1 lb1 mc1_0 mf1_0 mc1_1 mf1_1 m2 nb2 lb2 mc2_0 mf2_0 mc2_1 mf2_1 hne
  generalize b1 = q3 at *
  generalize b2 = q4 at *
  go_wp2_with fail
  clear k2
  have c3_0 : U10.cell? ⟨q3, 0, none⟩ = some (.int .i64 ((wrap64 ((wrap64 (cx * n)) - (wrap64 (Int.tdiv n 2)))))) := k3.cell 0
  have c3_1 : U10.cell? ⟨q3, 1, none⟩ = some (.int .i64 ((wrap64 (cy * n)))) := k3.cell 1
  have l3 := k3.lt
  have c4_0 : U10.cell? ⟨q4, 0, none⟩ = some (.int .i64 ((wrap64 ((wrap64 (cx * n)) + (wrap64 (Int.tdiv (wrap64 (n + 1)) 2)))))) := k4.cell 0
  have c4_1 : U10.cell? ⟨q4, 1, none⟩ = some (.int .i64 ((wrap64 (cy * n)))) := k4.cell 1
  have l4 := k4.lt
  have Kk1 := Lib.hid k1
  clear k1
  have Kk3 := Lib.hid k3
  clear k3
  have Kk4 := Lib.hid k4
  clear k4
  refine wp_region_up U10.heap.size 19 [(true, 0), (false, 1), (true, 2), (true, 3), (true, 4), (true, 6), (true, 7), (false, 5), (false, 8), (true, 9), (true, 10), (true, 11), (false, 12), (true, 13), (true, 14), (true, 15), (true, 17), (true, 18), (false, 16)] (by kernel_rfl) (by kernel_rfl) (fun _ _ d _ _ h => by cases d <;> exact h) ?_
  have hb : Below U10.heap.size U10 U10.drew := (Below.refl _ _).drew
  refine wpS_takeL rfl rfl ?_
  go_big_quiet_step (rfl)
  refine wpQuiet_nil ?_
  refine wpS_doL rfl ?_
  intro K hK
  go_wp2_with ((first | (go_at_call 17; (with_reducible refine (PtRight_v (wrap64 ((wrap64 (cx * n)) - (wrap64 (Int.tdiv n 2)))) (wrap64 (cy * n)) false HP12.out _).mono ?_); rintro e w2 ⟨rfl, hn⟩) | (go_at_call 17; (with_reducible refine (PtRight_v (wrap64 ((wrap64 (cx * n)) + (wrap64 (Int.tdiv (wrap64 (n + 1)) 2)))) (wrap64 (cy * n)) false HP13.out _).mono ?_); rintro e w2 ⟨rfl, hn⟩)))
  replace hb := hb.trans (hn.mono hb.size)
  refine hK.out _ _ (up_iff.2 hb) ?_
  clear hK K
  clear hn
  iterate 5
    refine wpS_takeL rfl rfl ?_
    go_big_quiet_step (rfl)
    refine wpQuiet_nil ?_
  refine wpS_doL rfl ?_
  intro K hK
  go_wp2_with ((first | (go_at_call 17; (with_reducible refine (PtRight_v (wrap64 ((wrap64 (cx * n)) - (wrap64 (Int.tdiv n 2)))) (wrap64 (cy * n)) false HP12.out _).mono ?_); rintro e w2 ⟨rfl, hn⟩) | (go_at_call 17; (with_reducible refine (PtRight_v (wrap64 ((wrap64 (cx * n)) + (wrap64 (Int.tdiv (wrap64 (n + 1)) 2)))) (wrap64 (cy * n)) false HP13.out _).mono ?_); rintro e w2 ⟨rfl, hn⟩)))
  try replace hb := hb.trans (hn.mono hb.size)
  refine hK.out _ _ (up_iff.2 hb) ?_
  clear hK K
  try clear hn
  refine wpS_doL rfl ?_
  intro K hK
  go_wp2_with ((first | (go_at_call 17; (with_reducible refine (PtRight_v (wrap64 ((wrap64 (cx * n)) - (wrap64 (Int.tdiv n 2)))) (wrap64 (cy * n)) false HP12.out _).mono ?_); rintro e w2 ⟨rfl, hn⟩) | (go_at_call 17; (with_reducible refine (PtRight_v (wrap64 ((wrap64 (cx * n)) + (wrap64 (Int.tdiv (wrap64 (n + 1)) 2)))) (wrap64 (cy * n)) false HP13.out _).mono ?_); rintro e w2 ⟨rfl, hn⟩)))
  try replace hb := hb.trans (hn.mono hb.size)
  refine hK.out _ _ (up_iff.2 hb) ?_
  clear hK K
  try clear hn
  iterate 3
    refine wpS_takeL rfl rfl ?_
    go_big_quiet_step (rfl)
    refine wpQuiet_nil ?_
  refine wpS_doL rfl ?_
  intro K hK
  go_wp2_with ((first | (go_at_call 17; (with_reducible refine (PtRight_v (wrap64 ((wrap64 (cx * n)) - (wrap64 (Int.tdiv n 2)))) (wrap64 (cy * n)) false HP12.out _).mono ?_); rintro e w2 ⟨rfl, hn⟩) | (go_at_call 17; (with_reducible refine (PtRight_v (wrap64 ((wrap64 (cx * n)) + (wrap64 (Int.tdiv (wrap64 (n + 1)) 2)))) (wrap64 (cy * n)) false HP13.out _).mono ?_); rintro e w2 ⟨rfl, hn⟩)))
  try replace hb := hb.trans (hn.mono hb.size)
  refine hK.out _ _ (up_iff.2 hb) ?_
  clear hK K
  try clear hn
  iterate 5
    refine wpS_takeL rfl rfl ?_
    go_big_quiet_step (rfl)
    refine wpQuiet_nil ?_
  refine wpS_doL rfl ?_
  intro K hK
  go_wp2_with ((first | (go_at_call 17; (with_reducible refine (PtRight_v (wrap64 ((wrap64 (cx * n)) - (wrap64 (Int.tdiv n 2)))) (wrap64 (cy * n)) false HP12.out _).mono ?_); rintro e w2 ⟨rfl, hn⟩) | (go_at_call 17; (with_reducible refine (PtRight_v (wrap64 ((wrap64 (cx * n)) + (wrap64 (Int.tdiv (wrap64 (n + 1)) 2)))) (wrap64 (cy * n)) false HP13.out _).mono ?_); rintro e w2 ⟨rfl, hn⟩)))
  try replace hb := hb.trans (hn.mono hb.size)
  refine hK.out _ _ (up_iff.2 hb) ?_
  clear hK K
  try clear hn
  refine wpS_nil ?_
  simp only [List.drop_succ_cons, List.drop_zero]
  first | refine calls_w ?_ | refine name_world ?_ | refine list_world ?_ | refine post_world ?_
  intro U11 hU11
  first | (subst hU11; have u_ := U11; clear u_) | (rw [← hU11] at hb; clear hU11)
  clear c3_0 c3_1 l3 c4_0 c4_1 l4
  have k1 := Kk1.out.of hb
  clear Kk1
  have k3 := Kk3.out.of hb
  clear Kk3
  have k4 := Kk4.out.of hb
  clear Kk4
  replace hb0 := hb0.trans (hb.mono hb0.size)
  clear hb
  go_wp2_with fail
  refine (p15awake_any _).mono ?_
  rintro e U12 ⟨rfl, hn⟩
  clear k1 k3 k4
  replace hb0 := hb0.trans (hn.mono hb0.size)
  clear hn
  go_wp2
  first | go_ret | go_ret2
  exact ⟨by first | rfl | (simp; done) | (simp; assumption), hb0⟩

set_option maxRecDepth 100000 in
set_option maxHeartbeats 4000000 in

theorem PCe_5 (cx : Int) (cy : Int) (n : Int)    (hP0 : prfx cx cy = cx) (hP1 : prfy cx cy = cy) (hP2 : pxCx cx cy n = (wrap64 (cx * n))) (hP3 : pxCy cx cy n = (wrap64 (cy * n))) (hP4 : pxCe cx cy n = 0) (hP5 : psz n = true) (hP6 : rp cx cy = true) (hP7 : rp (wrap64 (cx * n)) (wrap64 (cy * n)) = true) (hP8 : atx (wrap64 (cx * n)) (wrap64 (cy * n)) = (wrap64 (cx * n))) (hP9 : aty (wrap64 (cx * n)) (wrap64 (cy * n)) = (wrap64 (cy * n))) (hP10 : atw (wrap64 (cx * n)) (wrap64 (cy * n)) = 1) (hP11 : pxI (wrap64 (cx * n)) (wrap64 (cy * n)) 1 cx cy n = true) (hP12 : rp (wrap64 ((wrap64 (cx * n)) - (wrap64 (Int.tdiv n 2)))) (wrap64 (cy * n)) = false) (hP13 : rp (wrap64 ((wrap64 (cx * n)) + (wrap64 (Int.tdiv (wrap64 (n + 1)) 2)))) (wrap64 (cy * n)) = true) (hP14 : atx (wrap64 ((wrap64 (cx * n)) + (wrap64 (Int.tdiv (wrap64 (n + 1)) 2)))) (wrap64 (cy * n)) = (wrap64 ((wrap64 (cx * n)) + (wrap64 (Int.tdiv (wrap64 (n + 1)) 2))))) (hP15 : aty (wrap64 ((wrap64 (cx * n)) + (wrap64 (Int.tdiv (wrap64 (n + 1)) 2)))) (wrap64 (cy * n)) = (wrap64 (cy * n))) (hP16 : atw (wrap64 ((wrap64 (cx * n)) + (wrap64 (Int.tdiv (wrap64 (n + 1)) 2)))) (wrap64 (cy * n)) = 1) (hP17 : pxI (wrap64 ((wrap64 (cx * n)) + (wrap64 (Int.tdiv (wrap64 (n + 1)) 2)))) (wrap64 (cy * n)) 1 cx cy n = false) (_icx : In64 cx) (_icy : In64 cy) (_in : In64 n)  (w : World)  :
    Calls Try.prog 8 #[.agg #[.int .i64 cx, .int .i64 cy], .int .i64 n] w fun e w' => e = .returned (.bool true) ∧ Below w.heap.size w w' := by

  have HP0 := Lib.hid hP0
  clear hP0
  have HP1 := Lib.hid hP1
  clear hP1
  have HP2 := Lib.hid hP2
  clear hP2
  have HP3 := Lib.hid hP3
  clear hP3
  have HP4 := Lib.hid hP4
  clear hP4
  have HP5 := Lib.hid hP5
  clear hP5
  have HP6 := Lib.hid hP6
  clear hP6
  have HP7 := Lib.hid hP7
  clear hP7
  have HP8 := Lib.hid hP8
  clear hP8
  have HP9 := Lib.hid hP9
  clear hP9
  have HP10 := Lib.hid hP10
  clear hP10
  have HP11 := Lib.hid hP11
  clear hP11
  have HP12 := Lib.hid hP12
  clear hP12
  have HP13 := Lib.hid hP13
  clear hP13
  have HP14 := Lib.hid hP14
  clear hP14
  have HP15 := Lib.hid hP15
  clear hP15
  have HP16 := Lib.hid hP16
  clear hP16
  have HP17 := Lib.hid hP17
  clear hP17
  go_enter Try.func8, Try.ntmps8
  go_wp2_with fail
  first | refine calls_w ?_ | refine name_world ?_ | refine list_world ?_ | refine post_world ?_
  intro V1 hV1
  have hn : Below w.heap.size w V1 := by rw [hV1]; exact below_a1 _ _
  have nhb0 := hn
  have k1 : Blk V1 w.heap.size #[.int .i64 cx, .int .i64 cy] 24 := by rw [hV1]; exact (Blk.new _ _ _)
  clear hV1
  have hb0 := nhb0
  clear nhb0
  refine (pxCe_is cx cy n (wrap64 (cx * n)) (wrap64 (cy * n)) 0 HP2.out HP3.out HP4.out _icx _icy _in  _).mono ?_
  rintro e U2 ⟨rfl, hn⟩
  replace k1 := k1.of hn
  replace hb0 := hb0.trans (hn.mono hb0.size)
  clear hn
  go_wp2_with fail
  first | refine calls_w ?_ | refine name_world ?_ | refine list_world ?_ | refine post_world ?_
  intro V3 hV3
  have D1 := Lib.hid k1.lt
  have D2 := Lib.hid hb0.size
  have hn : Below U2.heap.size U2 V3 := by rw [hV3]; exact below_a1 _ _
  have nk1 := k1.of hn
  have nhb0 := hb0.trans (hn.mono hb0.size)
  clear hn
  have k2 : Blk V3 U2.heap.size #[.int .i64 ((wrap64 (cx * n))), .int .i64 ((wrap64 (cy * n)))] 24 := by rw [hV3]; exact (Blk.new _ _ _)
  clear k1
  clear hb0
  clear hV3
  have k1 := nk1
  clear nk1
  have hb0 := nhb0
  clear nhb0
  refine (p15size_is n true HP5.out _in  _).mono ?_
  rintro e U4 ⟨rfl, hn⟩
  replace k1 := k1.of hn
  replace k2 := k2.of hn
  replace hb0 := hb0.trans (hn.mono hb0.size)
  clear hn
  have c1_0 : U4.cell? ⟨w.heap.size, 0, none⟩ = some (.int .i64 cx) := k1.cell 0
  have c1_1 : U4.cell? ⟨w.heap.size, 1, none⟩ = some (.int .i64 cy) := k1.cell 1
  have l1 := k1.lt
  go_wp2_with fail
  clear c1_0 c1_1 l1
  refine (p15ref_is cx cy cx cy HP0.out HP1.out _icx _icy  _).mono ?_
  rintro e U5 ⟨rfl, hn⟩
  replace k1 := k1.of hn
  replace k2 := k2.of hn
  replace hb0 := hb0.trans (hn.mono hb0.size)
  clear hn
  go_wp2_with fail
  refine (rRight_v cx cy true HP6.out _).mono ?_
  rintro e U6 ⟨rfl, hn⟩
  replace k1 := k1.of hn
  replace k2 := k2.of hn
  replace hb0 := hb0.trans (hn.mono hb0.size)
  clear hn
  have c1_0 : U6.cell? ⟨w.heap.size, 0, none⟩ = some (.int .i64 cx) := k1.cell 0
  have c1_1 : U6.cell? ⟨w.heap.size, 1, none⟩ = some (.int .i64 cy) := k1.cell 1
  have l1 := k1.lt
  go_wp2_with fail
  clear c1_0 c1_1 l1
  refine (rRight_v (wrap64 (cx * n)) (wrap64 (cy * n)) true HP7.out _).mono ?_
  rintro e U7 ⟨rfl, hn⟩
  replace k1 := k1.of hn
  replace k2 := k2.of hn
  replace hb0 := hb0.trans (hn.mono hb0.size)
  clear hn
  go_wp2_with fail
  have c1_0 : U7.cell? ⟨w.heap.size, 0, none⟩ = some (.int .i64 cx) := k1.cell 0
  have c1_1 : U7.cell? ⟨w.heap.size, 1, none⟩ = some (.int .i64 cy) := k1.cell 1
  have l1 := k1.lt
  have c2_0 : U7.cell? ⟨U2.heap.size, 0, none⟩ = some (.int .i64 ((wrap64 (cx * n)))) := k2.cell 0
  have c2_1 : U7.cell? ⟨U2.heap.size, 1, none⟩ = some (.int .i64 ((wrap64 (cy * n)))) := k2.cell 1
  have l2 := k2.lt
  have Kk1 := Lib.hid k1
  clear k1
  have Kk2 := Lib.hid k2
  clear k2
  refine wp_region_up U7.heap.size 20 [(true, 0), (true, 1), (true, 2), (true, 3), (true, 4), (true, 5), (true, 6), (true, 7), (true, 8), (true, 9), (true, 10), (true, 11), (true, 12), (true, 13), (true, 14), (true, 15), (true, 16), (true, 18), (true, 19), (false, 17)] (by kernel_rfl) (by kernel_rfl) (fun _ _ d _ _ h => by cases d <;> exact h) ?_
  have hb : Below U7.heap.size U7 U7.drew := (Below.refl _ _).drew
  iterate 19
    refine wpS_takeL rfl rfl ?_
    go_big_quiet_step (rfl)
    refine wpQuiet_nil ?_
  refine wpS_doL rfl ?_
  intro K hK
  go_wp2_with ((go_at_call 47; (with_reducible refine (crAt_is (wrap64 (cx * n)) (wrap64 (cy * n)) (wrap64 (cx * n)) (wrap64 (cy * n)) 1 HP8.out HP9.out HP10.out (wrap64_in _) (wrap64_in _)  _).mono ?_); rintro e w2 ⟨rfl, hn⟩))
  try replace hb := hb.trans (hn.mono hb.size)
  refine hK.out _ _ (up_iff.2 hb) ?_
  clear hK K
  try clear hn
  refine wpS_nil ?_
  simp only [List.drop_succ_cons, List.drop_zero]
  first | refine calls_w ?_ | refine name_world ?_ | refine list_world ?_ | refine post_world ?_
  intro U8 hU8
  first | (subst hU8; have u_ := U8; clear u_) | (rw [← hU8] at hb; clear hU8)
  clear c1_0 c1_1 l1 c2_0 c2_1 l2
  have k1 := Kk1.out.of hb
  clear Kk1
  have k2 := Kk2.out.of hb
  clear Kk2
  replace hb0 := hb0.trans (hb.mono hb0.size)
  clear hb
  go_wp2_with fail
  refine (pxIn_is (wrap64 (cx * n)) (wrap64 (cy * n)) 1 cx cy n true HP11.out (in64_I' (wrap64_in _)) (in64_I' (wrap64_in _)) (by unfold InI b255; omega) _icx _icy _in  _).mono ?_
  rintro e U9 ⟨rfl, hn⟩
  replace k1 := k1.of hn
  replace k2 := k2.of hn
  replace hb0 := hb0.trans (hn.mono hb0.size)
  clear hn
  go_wp2_with fail
  have c2_0 : U9.cell? ⟨U2.heap.size, 0, none⟩ = some (.int .i64 ((wrap64 (cx * n)))) := k2.cell 0
  have c2_1 : U9.cell? ⟨U2.heap.size, 1, none⟩ = some (.int .i64 ((wrap64 (cy * n)))) := k2.cell 1
  have l2 := k2.lt
  have Kk1 := Lib.hid k1
  clear k1
  have Kk2 := Lib.hid k2
  clear k2
  refine Stay.wp_region_FG2 19 17 18 [(0, 0), (0, 1), (0, 2), (0, 3), (0, 4), (0, 5), (0, 6), (0, 7), (0, 8), (0, 9), (0, 10), (0, 11), (0, 12), (0, 13), (0, 14), (0, 15), (0, 16)] [(1, 19), (1, 20)] (by kernel_rfl) (by kernel_rfl) (fun _ _ d _ _ => by cases d <;> exact Iff.rfl) rfl rfl rfl alPxL2_0 rfl rfl rfl alPxL2_0 rfl ?_
  have hb : Below U9.heap.size U9 U9.drew := (Below.refl _ _).drew
  iterate 17
    refine wpFG_take0 rfl rfl ?_
    go_big_quiet_step (rfl)
    refine wpQuiet_nil ?_
  refine wpFG_nil ?_
  clear hb
  intro w1 hg hb b1 b2 hne lb1 nb1 lb2 nb2
  clear hg
  simp only [Act.put, ptrTo, List.setIfInBounds_toArray, List.set_cons_succ, List.set_cons_zero]
  have m1 : Blk w1 b1 #[.int .i64 0, .int .i64 0] 24 := nb1
  have mc1_0 : w1.cell? ⟨b1, 0, none⟩ = some (.int .i64 0) := m1.cell 0
  have mf1_0 := m1.free 0
  have mc1_1 : w1.cell? ⟨b1, 1, none⟩ = some (.int .i64 0) := m1.cell 1
  have mf1_1 := m1.free 1
  have m2 : Blk w1 b2 #[.int .i64 0, .int .i64 0] 24 := nb2
  have mc2_0 : w1.cell? ⟨b2, 0, none⟩ = some (.int .i64 0) := m2.cell 0
  have mf2_0 := m2.free 0
  have mc2_1 : w1.cell? ⟨b2, 1, none⟩ = some (.int .i64 0) := m2.cell 1
  have mf2_1 := m2.free 1
  refine wpG_do1 rfl ?_
  intro K hK
  go_wp2_with fail
  refine hK.out _ _ (up_iff.2 (by repeat' (first | exact hb | exact lb1 | exact lb2 | refine Below.setCell ?_ ?_ _))) ?_
  clear hK K
  refine wpG_do1 rfl ?_
  intro K hK
  go_wp2_with fail
  refine hK.out _ _ (up_iff.2 (by repeat' (first | exact hb | exact lb1 | exact lb2 | refine Below.setCell ?_ ?_ _))) ?_
  clear hK K
  refine wpG_nil ?_
  refine list_world ?_
  intro U10 hU10
  clear c2_0 c2_1 l2
  have D3 := Lib.hid Kk1.out.lt
  have D4 := Lib.hid Kk2.out.lt
  have D5 := Lib.hid hb0.size
  have D6 := Lib.hid lb1
  have D7 := Lib.hid lb2
  have D8 := Lib.hid (show b1 ≠ b2 from hne)
  have k1 : Blk U10 w.heap.size #[.int .i64 cx, .int .i64 cy] 24 := by rw [hU10]; exact (blk_setL (blk_setL (Kk1.out.of hb) (by have := D3.out; have := D6.out; omega) 0 [.int .i64 ((wrap64 ((wrap64 (cx * n)) - (wrap64 (Int.tdiv n 2))))), .int .i64 ((wrap64 (cy * n)))]) (by have := D3.out; have := D7.out; omega) 0 [.int .i64 ((wrap64 ((wrap64 (cx * n)) + (wrap64 (Int.tdiv (wrap64 (n + 1)) 2))))), .int .i64 ((wrap64 (cy * n)))])
  have k2 : Blk U10 U2.heap.size #[.int .i64 ((wrap64 (cx * n))), .int .i64 ((wrap64 (cy * n)))] 24 := by rw [hU10]; exact (blk_setL (blk_setL (Kk2.out.of hb) (by have := D4.out; have := D6.out; omega) 0 [.int .i64 ((wrap64 ((wrap64 (cx * n)) - (wrap64 (Int.tdiv n 2))))), .int .i64 ((wrap64 (cy * n)))]) (by have := D4.out; have := D7.out; omega) 0 [.int .i64 ((wrap64 ((wrap64 (cx * n)) + (wrap64 (Int.tdiv (wrap64 (n + 1)) 2))))), .int .i64 ((wrap64 (cy * n)))])
  have k3 : Blk U10 b1 #[.int .i64 ((wrap64 ((wrap64 (cx * n)) - (wrap64 (Int.tdiv n 2))))), .int .i64 ((wrap64 (cy * n)))] 24 := by rw [hU10]; exact (blk_setL (blk_full _ [.int .i64 ((wrap64 ((wrap64 (cx * n)) - (wrap64 (Int.tdiv n 2))))), .int .i64 ((wrap64 (cy * n)))] m1 rfl) (by have := D8.out; omega) 0 [.int .i64 ((wrap64 ((wrap64 (cx * n)) + (wrap64 (Int.tdiv (wrap64 (n + 1)) 2))))), .int .i64 ((wrap64 (cy * n)))])
  have k4 : Blk U10 b2 #[.int .i64 ((wrap64 ((wrap64 (cx * n)) + (wrap64 (Int.tdiv (wrap64 (n + 1)) 2))))), .int .i64 ((wrap64 (cy * n)))] 24 := by rw [hU10]; exact (blk_full _ [.int .i64 ((wrap64 ((wrap64 (cx * n)) + (wrap64 (Int.tdiv (wrap64 (n + 1)) 2))))), .int .i64 ((wrap64 (cy * n)))] (blk_setL m2 (by have := D8.out; omega) 0 [.int .i64 ((wrap64 ((wrap64 (cx * n)) - (wrap64 (Int.tdiv n 2))))), .int .i64 ((wrap64 (cy * n)))]) rfl)
  replace hb0 : Below w.heap.size w U10 := by rw [hU10]; exact (blw_setL (blw_setL (hb0.trans (hb.mono hb0.size)) (by have := D5.out; have := D6.out; omega) 0 [.int .i64 ((wrap64 ((wrap64 (cx * n)) - (wrap64 (Int.tdiv n 2))))), .int .i64 ((wrap64 (cy * n)))]) (by have := D5.out; have := D7.out; omega) 0 [.int .i64 ((wrap64 ((wrap64 (cx * n)) + (wrap64 (Int.tdiv (wrap64 (n + 1)) 2))))), .int .i64 ((wrap64 (cy * n)))])
  clear hU10 hb Kk1 Kk2 m1 nb1 lb1 mc1_0 mf1_0 mc1_1 mf1_1 m2 nb2 lb2 mc2_0 mf2_0 mc2_1 mf2_1 hne
  generalize b1 = q3 at *
  generalize b2 = q4 at *
  go_wp2_with fail
  clear k2
  have c1_0 : U10.cell? ⟨w.heap.size, 0, none⟩ = some (.int .i64 cx) := k1.cell 0
  have c1_1 : U10.cell? ⟨w.heap.size, 1, none⟩ = some (.int .i64 cy) := k1.cell 1
  have l1 := k1.lt
  have c3_0 : U10.cell? ⟨q3, 0, none⟩ = some (.int .i64 ((wrap64 ((wrap64 (cx * n)) - (wrap64 (Int.tdiv n 2)))))) := k3.cell 0
  have c3_1 : U10.cell? ⟨q3, 1, none⟩ = some (.int .i64 ((wrap64 (cy * n)))) := k3.cell 1
  have l3 := k3.lt
  have c4_0 : U10.cell? ⟨q4, 0, none⟩ = some (.int .i64 ((wrap64 ((wrap64 (cx * n)) + (wrap64 (Int.tdiv (wrap64 (n + 1)) 2)))))) := k4.cell 0
  have c4_1 : U10.cell? ⟨q4, 1, none⟩ = some (.int .i64 ((wrap64 (cy * n)))) := k4.cell 1
  have l4 := k4.lt
  have Kk1 := Lib.hid k1
  clear k1
  have Kk3 := Lib.hid k3
  clear k3
  have Kk4 := Lib.hid k4
  clear k4
  refine wp_region_up U10.heap.size 19 [(true, 0), (false, 1), (true, 2), (true, 3), (true, 4), (true, 6), (true, 7), (false, 5), (false, 8), (true, 9), (true, 10), (true, 11), (false, 12), (true, 13), (true, 14), (true, 15), (true, 17), (true, 18), (false, 16)] (by kernel_rfl) (by kernel_rfl) (fun _ _ d _ _ h => by cases d <;> exact h) ?_
  have hb : Below U10.heap.size U10 U10.drew := (Below.refl _ _).drew
  refine wpS_takeL rfl rfl ?_
  go_big_quiet_step (rfl)
  refine wpQuiet_nil ?_
  refine wpS_doL rfl ?_
  intro K hK
  go_wp2_with ((first | (go_at_call 17; (with_reducible refine (PtRight_v (wrap64 ((wrap64 (cx * n)) - (wrap64 (Int.tdiv n 2)))) (wrap64 (cy * n)) false HP12.out _).mono ?_); rintro e w2 ⟨rfl, hn⟩) | (go_at_call 17; (with_reducible refine (PtRight_v (wrap64 ((wrap64 (cx * n)) + (wrap64 (Int.tdiv (wrap64 (n + 1)) 2)))) (wrap64 (cy * n)) true HP13.out _).mono ?_); rintro e w2 ⟨rfl, hn⟩)))
  replace hb := hb.trans (hn.mono hb.size)
  refine hK.out _ _ (up_iff.2 hb) ?_
  clear hK K
  clear hn
  iterate 5
    refine wpS_takeL rfl rfl ?_
    go_big_quiet_step (rfl)
    refine wpQuiet_nil ?_
  refine wpS_doL rfl ?_
  intro K hK
  go_wp2_with ((go_at_call 47; (with_reducible refine (crAt_is (wrap64 ((wrap64 (cx * n)) + (wrap64 (Int.tdiv (wrap64 (n + 1)) 2)))) (wrap64 (cy * n)) (wrap64 ((wrap64 (cx * n)) + (wrap64 (Int.tdiv (wrap64 (n + 1)) 2)))) (wrap64 (cy * n)) 1 HP14.out HP15.out HP16.out (wrap64_in _) (wrap64_in _)  _).mono ?_); rintro e w2 ⟨rfl, hn⟩))
  try replace hb := hb.trans (hn.mono hb.size)
  refine hK.out _ _ (up_iff.2 hb) ?_
  clear hK K
  try clear hn
  refine wpS_doL rfl ?_
  intro K hK
  go_wp2_with ((first | (go_at_call 17; (with_reducible refine (PtRight_v (wrap64 ((wrap64 (cx * n)) - (wrap64 (Int.tdiv n 2)))) (wrap64 (cy * n)) false HP12.out _).mono ?_); rintro e w2 ⟨rfl, hn⟩) | (go_at_call 17; (with_reducible refine (PtRight_v (wrap64 ((wrap64 (cx * n)) + (wrap64 (Int.tdiv (wrap64 (n + 1)) 2)))) (wrap64 (cy * n)) true HP13.out _).mono ?_); rintro e w2 ⟨rfl, hn⟩) | (go_at_call 47; (with_reducible refine (crAt_is (wrap64 ((wrap64 (cx * n)) + (wrap64 (Int.tdiv (wrap64 (n + 1)) 2)))) (wrap64 (cy * n)) (wrap64 ((wrap64 (cx * n)) + (wrap64 (Int.tdiv (wrap64 (n + 1)) 2)))) (wrap64 (cy * n)) 1 HP14.out HP15.out HP16.out (wrap64_in _) (wrap64_in _)  _).mono ?_); rintro e w2 ⟨rfl, hn⟩)))
  try replace hb := hb.trans (hn.mono hb.size)
  refine hK.out _ _ (up_iff.2 hb) ?_
  clear hK K
  try clear hn
  iterate 3
    refine wpS_takeL rfl rfl ?_
    go_big_quiet_step (rfl)
    refine wpQuiet_nil ?_
  refine wpS_doL rfl ?_
  intro K hK
  go_wp2_with ((first | (go_at_call 17; (with_reducible refine (PtRight_v (wrap64 ((wrap64 (cx * n)) - (wrap64 (Int.tdiv n 2)))) (wrap64 (cy * n)) false HP12.out _).mono ?_); rintro e w2 ⟨rfl, hn⟩) | (go_at_call 17; (with_reducible refine (PtRight_v (wrap64 ((wrap64 (cx * n)) + (wrap64 (Int.tdiv (wrap64 (n + 1)) 2)))) (wrap64 (cy * n)) true HP13.out _).mono ?_); rintro e w2 ⟨rfl, hn⟩)))
  try replace hb := hb.trans (hn.mono hb.size)
  refine hK.out _ _ (up_iff.2 hb) ?_
  clear hK K
  try clear hn
  iterate 5
    refine wpS_takeL rfl rfl ?_
    go_big_quiet_step (rfl)
    refine wpQuiet_nil ?_
  refine wpS_doL rfl ?_
  intro K hK
  go_wp2_with ((go_at_call 47; (with_reducible refine (crAt_is (wrap64 ((wrap64 (cx * n)) + (wrap64 (Int.tdiv (wrap64 (n + 1)) 2)))) (wrap64 (cy * n)) (wrap64 ((wrap64 (cx * n)) + (wrap64 (Int.tdiv (wrap64 (n + 1)) 2)))) (wrap64 (cy * n)) 1 HP14.out HP15.out HP16.out (wrap64_in _) (wrap64_in _)  _).mono ?_); rintro e w2 ⟨rfl, hn⟩))
  try replace hb := hb.trans (hn.mono hb.size)
  refine hK.out _ _ (up_iff.2 hb) ?_
  clear hK K
  try clear hn
  refine wpS_nil ?_
  simp only [List.drop_succ_cons, List.drop_zero]
  first | refine calls_w ?_ | refine name_world ?_ | refine list_world ?_ | refine post_world ?_
  intro U11 hU11
  first | (subst hU11; have u_ := U11; clear u_) | (rw [← hU11] at hb; clear hU11)
  clear c1_0 c1_1 l1 c3_0 c3_1 l3 c4_0 c4_1 l4
  have k1 := Kk1.out.of hb
  clear Kk1
  have k3 := Kk3.out.of hb
  clear Kk3
  have k4 := Kk4.out.of hb
  clear Kk4
  replace hb0 := hb0.trans (hb.mono hb0.size)
  clear hb
  go_wp2_with fail
  refine (pxIn_is (wrap64 ((wrap64 (cx * n)) + (wrap64 (Int.tdiv (wrap64 (n + 1)) 2)))) (wrap64 (cy * n)) 1 cx cy n false HP17.out (in64_I' (wrap64_in _)) (in64_I' (wrap64_in _)) (by unfold InI b255; omega) _icx _icy _in  _).mono ?_
  rintro e U12 ⟨rfl, hn⟩
  clear k1 k3 k4
  replace hb0 := hb0.trans (hn.mono hb0.size)
  clear hn
  go_wp2_with fail
  refine (p15awake_any _).mono ?_
  rintro e U13 ⟨rfl, hn⟩
  replace hb0 := hb0.trans (hn.mono hb0.size)
  clear hn
  go_wp2
  first | go_ret | go_ret2
  exact ⟨by first | rfl | (simp; done) | (simp; assumption), hb0⟩

set_option maxRecDepth 100000 in
set_option maxHeartbeats 4000000 in

theorem PCe_6 (cx : Int) (cy : Int) (n : Int)    (hP0 : prfx cx cy = cx) (hP1 : prfy cx cy = cy) (hP2 : pxCx cx cy n = (wrap64 (cx * n))) (hP3 : pxCy cx cy n = (wrap64 (cy * n))) (hP4 : pxCe cx cy n = 0) (hP5 : psz n = true) (hP6 : rp cx cy = true) (hP7 : rp (wrap64 (cx * n)) (wrap64 (cy * n)) = true) (hP8 : atx (wrap64 (cx * n)) (wrap64 (cy * n)) = (wrap64 (cx * n))) (hP9 : aty (wrap64 (cx * n)) (wrap64 (cy * n)) = (wrap64 (cy * n))) (hP10 : atw (wrap64 (cx * n)) (wrap64 (cy * n)) = 1) (hP11 : pxI (wrap64 (cx * n)) (wrap64 (cy * n)) 1 cx cy n = true) (hP12 : rp (wrap64 ((wrap64 (cx * n)) - (wrap64 (Int.tdiv n 2)))) (wrap64 (cy * n)) = true) (hP13 : rp (wrap64 ((wrap64 (cx * n)) + (wrap64 (Int.tdiv (wrap64 (n + 1)) 2)))) (wrap64 (cy * n)) = false) (hP14 : atx (wrap64 ((wrap64 (cx * n)) - (wrap64 (Int.tdiv n 2)))) (wrap64 (cy * n)) = (wrap64 ((wrap64 (cx * n)) - (wrap64 (Int.tdiv n 2))))) (hP15 : aty (wrap64 ((wrap64 (cx * n)) - (wrap64 (Int.tdiv n 2)))) (wrap64 (cy * n)) = (wrap64 (cy * n))) (hP16 : atw (wrap64 ((wrap64 (cx * n)) - (wrap64 (Int.tdiv n 2)))) (wrap64 (cy * n)) = 1) (hP17 : pxI (wrap64 ((wrap64 (cx * n)) - (wrap64 (Int.tdiv n 2)))) (wrap64 (cy * n)) 1 cx cy n = true) (_icx : In64 cx) (_icy : In64 cy) (_in : In64 n)  (w : World)  :
    Calls Try.prog 8 #[.agg #[.int .i64 cx, .int .i64 cy], .int .i64 n] w fun e w' => e = .returned (.bool true) ∧ Below w.heap.size w w' := by

  have HP0 := Lib.hid hP0
  clear hP0
  have HP1 := Lib.hid hP1
  clear hP1
  have HP2 := Lib.hid hP2
  clear hP2
  have HP3 := Lib.hid hP3
  clear hP3
  have HP4 := Lib.hid hP4
  clear hP4
  have HP5 := Lib.hid hP5
  clear hP5
  have HP6 := Lib.hid hP6
  clear hP6
  have HP7 := Lib.hid hP7
  clear hP7
  have HP8 := Lib.hid hP8
  clear hP8
  have HP9 := Lib.hid hP9
  clear hP9
  have HP10 := Lib.hid hP10
  clear hP10
  have HP11 := Lib.hid hP11
  clear hP11
  have HP12 := Lib.hid hP12
  clear hP12
  have HP13 := Lib.hid hP13
  clear hP13
  have HP14 := Lib.hid hP14
  clear hP14
  have HP15 := Lib.hid hP15
  clear hP15
  have HP16 := Lib.hid hP16
  clear hP16
  have HP17 := Lib.hid hP17
  clear hP17
  go_enter Try.func8, Try.ntmps8
  go_wp2_with fail
  first | refine calls_w ?_ | refine name_world ?_ | refine list_world ?_ | refine post_world ?_
  intro V1 hV1
  have hn : Below w.heap.size w V1 := by rw [hV1]; exact below_a1 _ _
  have nhb0 := hn
  have k1 : Blk V1 w.heap.size #[.int .i64 cx, .int .i64 cy] 24 := by rw [hV1]; exact (Blk.new _ _ _)
  clear hV1
  have hb0 := nhb0
  clear nhb0
  refine (pxCe_is cx cy n (wrap64 (cx * n)) (wrap64 (cy * n)) 0 HP2.out HP3.out HP4.out _icx _icy _in  _).mono ?_
  rintro e U2 ⟨rfl, hn⟩
  replace k1 := k1.of hn
  replace hb0 := hb0.trans (hn.mono hb0.size)
  clear hn
  go_wp2_with fail
  first | refine calls_w ?_ | refine name_world ?_ | refine list_world ?_ | refine post_world ?_
  intro V3 hV3
  have D1 := Lib.hid k1.lt
  have D2 := Lib.hid hb0.size
  have hn : Below U2.heap.size U2 V3 := by rw [hV3]; exact below_a1 _ _
  have nk1 := k1.of hn
  have nhb0 := hb0.trans (hn.mono hb0.size)
  clear hn
  have k2 : Blk V3 U2.heap.size #[.int .i64 ((wrap64 (cx * n))), .int .i64 ((wrap64 (cy * n)))] 24 := by rw [hV3]; exact (Blk.new _ _ _)
  clear k1
  clear hb0
  clear hV3
  have k1 := nk1
  clear nk1
  have hb0 := nhb0
  clear nhb0
  refine (p15size_is n true HP5.out _in  _).mono ?_
  rintro e U4 ⟨rfl, hn⟩
  replace k1 := k1.of hn
  replace k2 := k2.of hn
  replace hb0 := hb0.trans (hn.mono hb0.size)
  clear hn
  have c1_0 : U4.cell? ⟨w.heap.size, 0, none⟩ = some (.int .i64 cx) := k1.cell 0
  have c1_1 : U4.cell? ⟨w.heap.size, 1, none⟩ = some (.int .i64 cy) := k1.cell 1
  have l1 := k1.lt
  go_wp2_with fail
  clear c1_0 c1_1 l1
  refine (p15ref_is cx cy cx cy HP0.out HP1.out _icx _icy  _).mono ?_
  rintro e U5 ⟨rfl, hn⟩
  replace k1 := k1.of hn
  replace k2 := k2.of hn
  replace hb0 := hb0.trans (hn.mono hb0.size)
  clear hn
  go_wp2_with fail
  refine (rRight_v cx cy true HP6.out _).mono ?_
  rintro e U6 ⟨rfl, hn⟩
  replace k1 := k1.of hn
  replace k2 := k2.of hn
  replace hb0 := hb0.trans (hn.mono hb0.size)
  clear hn
  have c1_0 : U6.cell? ⟨w.heap.size, 0, none⟩ = some (.int .i64 cx) := k1.cell 0
  have c1_1 : U6.cell? ⟨w.heap.size, 1, none⟩ = some (.int .i64 cy) := k1.cell 1
  have l1 := k1.lt
  go_wp2_with fail
  clear c1_0 c1_1 l1
  refine (rRight_v (wrap64 (cx * n)) (wrap64 (cy * n)) true HP7.out _).mono ?_
  rintro e U7 ⟨rfl, hn⟩
  replace k1 := k1.of hn
  replace k2 := k2.of hn
  replace hb0 := hb0.trans (hn.mono hb0.size)
  clear hn
  go_wp2_with fail
  have c1_0 : U7.cell? ⟨w.heap.size, 0, none⟩ = some (.int .i64 cx) := k1.cell 0
  have c1_1 : U7.cell? ⟨w.heap.size, 1, none⟩ = some (.int .i64 cy) := k1.cell 1
  have l1 := k1.lt
  have c2_0 : U7.cell? ⟨U2.heap.size, 0, none⟩ = some (.int .i64 ((wrap64 (cx * n)))) := k2.cell 0
  have c2_1 : U7.cell? ⟨U2.heap.size, 1, none⟩ = some (.int .i64 ((wrap64 (cy * n)))) := k2.cell 1
  have l2 := k2.lt
  have Kk1 := Lib.hid k1
  clear k1
  have Kk2 := Lib.hid k2
  clear k2
  refine wp_region_up U7.heap.size 20 [(true, 0), (true, 1), (true, 2), (true, 3), (true, 4), (true, 5), (true, 6), (true, 7), (true, 8), (true, 9), (true, 10), (true, 11), (true, 12), (true, 13), (true, 14), (true, 15), (true, 16), (true, 18), (true, 19), (false, 17)] (by kernel_rfl) (by kernel_rfl) (fun _ _ d _ _ h => by cases d <;> exact h) ?_
  have hb : Below U7.heap.size U7 U7.drew := (Below.refl _ _).drew
  iterate 19
    refine wpS_takeL rfl rfl ?_
    go_big_quiet_step (rfl)
    refine wpQuiet_nil ?_
  refine wpS_doL rfl ?_
  intro K hK
  go_wp2_with ((go_at_call 47; (with_reducible refine (crAt_is (wrap64 (cx * n)) (wrap64 (cy * n)) (wrap64 (cx * n)) (wrap64 (cy * n)) 1 HP8.out HP9.out HP10.out (wrap64_in _) (wrap64_in _)  _).mono ?_); rintro e w2 ⟨rfl, hn⟩))
  try replace hb := hb.trans (hn.mono hb.size)
  refine hK.out _ _ (up_iff.2 hb) ?_
  clear hK K
  try clear hn
  refine wpS_nil ?_
  simp only [List.drop_succ_cons, List.drop_zero]
  first | refine calls_w ?_ | refine name_world ?_ | refine list_world ?_ | refine post_world ?_
  intro U8 hU8
  first | (subst hU8; have u_ := U8; clear u_) | (rw [← hU8] at hb; clear hU8)
  clear c1_0 c1_1 l1 c2_0 c2_1 l2
  have k1 := Kk1.out.of hb
  clear Kk1
  have k2 := Kk2.out.of hb
  clear Kk2
  replace hb0 := hb0.trans (hb.mono hb0.size)
  clear hb
  go_wp2_with fail
  refine (pxIn_is (wrap64 (cx * n)) (wrap64 (cy * n)) 1 cx cy n true HP11.out (in64_I' (wrap64_in _)) (in64_I' (wrap64_in _)) (by unfold InI b255; omega) _icx _icy _in  _).mono ?_
  rintro e U9 ⟨rfl, hn⟩
  replace k1 := k1.of hn
  replace k2 := k2.of hn
  replace hb0 := hb0.trans (hn.mono hb0.size)
  clear hn
  go_wp2_with fail
  have c2_0 : U9.cell? ⟨U2.heap.size, 0, none⟩ = some (.int .i64 ((wrap64 (cx * n)))) := k2.cell 0
  have c2_1 : U9.cell? ⟨U2.heap.size, 1, none⟩ = some (.int .i64 ((wrap64 (cy * n)))) := k2.cell 1
  have l2 := k2.lt
  have Kk1 := Lib.hid k1
  clear k1
  have Kk2 := Lib.hid k2
  clear k2
  refine Stay.wp_region_FG2 19 17 18 [(0, 0), (0, 1), (0, 2), (0, 3), (0, 4), (0, 5), (0, 6), (0, 7), (0, 8), (0, 9), (0, 10), (0, 11), (0, 12), (0, 13), (0, 14), (0, 15), (0, 16)] [(1, 19), (1, 20)] (by kernel_rfl) (by kernel_rfl) (fun _ _ d _ _ => by cases d <;> exact Iff.rfl) rfl rfl rfl alPxL2_0 rfl rfl rfl alPxL2_0 rfl ?_
  have hb : Below U9.heap.size U9 U9.drew := (Below.refl _ _).drew
  iterate 17
    refine wpFG_take0 rfl rfl ?_
    go_big_quiet_step (rfl)
    refine wpQuiet_nil ?_
  refine wpFG_nil ?_
  clear hb
  intro w1 hg hb b1 b2 hne lb1 nb1 lb2 nb2
  clear hg
  simp only [Act.put, ptrTo, List.setIfInBounds_toArray, List.set_cons_succ, List.set_cons_zero]
  have m1 : Blk w1 b1 #[.int .i64 0, .int .i64 0] 24 := nb1
  have mc1_0 : w1.cell? ⟨b1, 0, none⟩ = some (.int .i64 0) := m1.cell 0
  have mf1_0 := m1.free 0
  have mc1_1 : w1.cell? ⟨b1, 1, none⟩ = some (.int .i64 0) := m1.cell 1
  have mf1_1 := m1.free 1
  have m2 : Blk w1 b2 #[.int .i64 0, .int .i64 0] 24 := nb2
  have mc2_0 : w1.cell? ⟨b2, 0, none⟩ = some (.int .i64 0) := m2.cell 0
  have mf2_0 := m2.free 0
  have mc2_1 : w1.cell? ⟨b2, 1, none⟩ = some (.int .i64 0) := m2.cell 1
  have mf2_1 := m2.free 1
  refine wpG_do1 rfl ?_
  intro K hK
  go_wp2_with fail
  refine hK.out _ _ (up_iff.2 (by repeat' (first | exact hb | exact lb1 | exact lb2 | refine Below.setCell ?_ ?_ _))) ?_
  clear hK K
  refine wpG_do1 rfl ?_
  intro K hK
  go_wp2_with fail
  refine hK.out _ _ (up_iff.2 (by repeat' (first | exact hb | exact lb1 | exact lb2 | refine Below.setCell ?_ ?_ _))) ?_
  clear hK K
  refine wpG_nil ?_
  refine list_world ?_
  intro U10 hU10
  clear c2_0 c2_1 l2
  have D3 := Lib.hid Kk1.out.lt
  have D4 := Lib.hid Kk2.out.lt
  have D5 := Lib.hid hb0.size
  have D6 := Lib.hid lb1
  have D7 := Lib.hid lb2
  have D8 := Lib.hid (show b1 ≠ b2 from hne)
  have k1 : Blk U10 w.heap.size #[.int .i64 cx, .int .i64 cy] 24 := by rw [hU10]; exact (blk_setL (blk_setL (Kk1.out.of hb) (by have := D3.out; have := D6.out; omega) 0 [.int .i64 ((wrap64 ((wrap64 (cx * n)) - (wrap64 (Int.tdiv n 2))))), .int .i64 ((wrap64 (cy * n)))]) (by have := D3.out; have := D7.out; omega) 0 [.int .i64 ((wrap64 ((wrap64 (cx * n)) + (wrap64 (Int.tdiv (wrap64 (n + 1)) 2))))), .int .i64 ((wrap64 (cy * n)))])
  have k2 : Blk U10 U2.heap.size #[.int .i64 ((wrap64 (cx * n))), .int .i64 ((wrap64 (cy * n)))] 24 := by rw [hU10]; exact (blk_setL (blk_setL (Kk2.out.of hb) (by have := D4.out; have := D6.out; omega) 0 [.int .i64 ((wrap64 ((wrap64 (cx * n)) - (wrap64 (Int.tdiv n 2))))), .int .i64 ((wrap64 (cy * n)))]) (by have := D4.out; have := D7.out; omega) 0 [.int .i64 ((wrap64 ((wrap64 (cx * n)) + (wrap64 (Int.tdiv (wrap64 (n + 1)) 2))))), .int .i64 ((wrap64 (cy * n)))])
  have k3 : Blk U10 b1 #[.int .i64 ((wrap64 ((wrap64 (cx * n)) - (wrap64 (Int.tdiv n 2))))), .int .i64 ((wrap64 (cy * n)))] 24 := by rw [hU10]; exact (blk_setL (blk_full _ [.int .i64 ((wrap64 ((wrap64 (cx * n)) - (wrap64 (Int.tdiv n 2))))), .int .i64 ((wrap64 (cy * n)))] m1 rfl) (by have := D8.out; omega) 0 [.int .i64 ((wrap64 ((wrap64 (cx * n)) + (wrap64 (Int.tdiv (wrap64 (n + 1)) 2))))), .int .i64 ((wrap64 (cy * n)))])
  have k4 : Blk U10 b2 #[.int .i64 ((wrap64 ((wrap64 (cx * n)) + (wrap64 (Int.tdiv (wrap64 (n + 1)) 2))))), .int .i64 ((wrap64 (cy * n)))] 24 := by rw [hU10]; exact (blk_full _ [.int .i64 ((wrap64 ((wrap64 (cx * n)) + (wrap64 (Int.tdiv (wrap64 (n + 1)) 2))))), .int .i64 ((wrap64 (cy * n)))] (blk_setL m2 (by have := D8.out; omega) 0 [.int .i64 ((wrap64 ((wrap64 (cx * n)) - (wrap64 (Int.tdiv n 2))))), .int .i64 ((wrap64 (cy * n)))]) rfl)
  replace hb0 : Below w.heap.size w U10 := by rw [hU10]; exact (blw_setL (blw_setL (hb0.trans (hb.mono hb0.size)) (by have := D5.out; have := D6.out; omega) 0 [.int .i64 ((wrap64 ((wrap64 (cx * n)) - (wrap64 (Int.tdiv n 2))))), .int .i64 ((wrap64 (cy * n)))]) (by have := D5.out; have := D7.out; omega) 0 [.int .i64 ((wrap64 ((wrap64 (cx * n)) + (wrap64 (Int.tdiv (wrap64 (n + 1)) 2))))), .int .i64 ((wrap64 (cy * n)))])
  clear hU10 hb Kk1 Kk2 m1 nb1 lb1 mc1_0 mf1_0 mc1_1 mf1_1 m2 nb2 lb2 mc2_0 mf2_0 mc2_1 mf2_1 hne
  generalize b1 = q3 at *
  generalize b2 = q4 at *
  go_wp2_with fail
  clear k2
  have c1_0 : U10.cell? ⟨w.heap.size, 0, none⟩ = some (.int .i64 cx) := k1.cell 0
  have c1_1 : U10.cell? ⟨w.heap.size, 1, none⟩ = some (.int .i64 cy) := k1.cell 1
  have l1 := k1.lt
  have c3_0 : U10.cell? ⟨q3, 0, none⟩ = some (.int .i64 ((wrap64 ((wrap64 (cx * n)) - (wrap64 (Int.tdiv n 2)))))) := k3.cell 0
  have c3_1 : U10.cell? ⟨q3, 1, none⟩ = some (.int .i64 ((wrap64 (cy * n)))) := k3.cell 1
  have l3 := k3.lt
  have c4_0 : U10.cell? ⟨q4, 0, none⟩ = some (.int .i64 ((wrap64 ((wrap64 (cx * n)) + (wrap64 (Int.tdiv (wrap64 (n + 1)) 2)))))) := k4.cell 0
  have c4_1 : U10.cell? ⟨q4, 1, none⟩ = some (.int .i64 ((wrap64 (cy * n)))) := k4.cell 1
  have l4 := k4.lt
  have Kk1 := Lib.hid k1
  clear k1
  have Kk3 := Lib.hid k3
  clear k3
  have Kk4 := Lib.hid k4
  clear k4
  refine wp_region_up U10.heap.size 19 [(true, 0), (false, 1), (true, 2), (true, 3), (true, 4), (true, 6), (true, 7), (false, 5), (false, 8), (true, 9), (true, 10), (true, 11), (false, 12), (true, 13), (true, 14), (true, 15), (true, 17), (true, 18), (false, 16)] (by kernel_rfl) (by kernel_rfl) (fun _ _ d _ _ h => by cases d <;> exact h) ?_
  have hb : Below U10.heap.size U10 U10.drew := (Below.refl _ _).drew
  refine wpS_takeL rfl rfl ?_
  go_big_quiet_step (rfl)
  refine wpQuiet_nil ?_
  refine wpS_doL rfl ?_
  intro K hK
  go_wp2_with ((first | (go_at_call 17; (with_reducible refine (PtRight_v (wrap64 ((wrap64 (cx * n)) - (wrap64 (Int.tdiv n 2)))) (wrap64 (cy * n)) true HP12.out _).mono ?_); rintro e w2 ⟨rfl, hn⟩) | (go_at_call 17; (with_reducible refine (PtRight_v (wrap64 ((wrap64 (cx * n)) + (wrap64 (Int.tdiv (wrap64 (n + 1)) 2)))) (wrap64 (cy * n)) false HP13.out _).mono ?_); rintro e w2 ⟨rfl, hn⟩)))
  replace hb := hb.trans (hn.mono hb.size)
  refine hK.out _ _ (up_iff.2 hb) ?_
  clear hK K
  clear hn
  iterate 5
    refine wpS_takeL rfl rfl ?_
    go_big_quiet_step (rfl)
    refine wpQuiet_nil ?_
  refine wpS_doL rfl ?_
  intro K hK
  go_wp2_with ((go_at_call 47; (with_reducible refine (crAt_is (wrap64 ((wrap64 (cx * n)) - (wrap64 (Int.tdiv n 2)))) (wrap64 (cy * n)) (wrap64 ((wrap64 (cx * n)) - (wrap64 (Int.tdiv n 2)))) (wrap64 (cy * n)) 1 HP14.out HP15.out HP16.out (wrap64_in _) (wrap64_in _)  _).mono ?_); rintro e w2 ⟨rfl, hn⟩))
  try replace hb := hb.trans (hn.mono hb.size)
  refine hK.out _ _ (up_iff.2 hb) ?_
  clear hK K
  try clear hn
  refine wpS_doL rfl ?_
  intro K hK
  go_wp2_with ((go_at_call 42; (with_reducible refine (pxIn_is (wrap64 ((wrap64 (cx * n)) - (wrap64 (Int.tdiv n 2)))) (wrap64 (cy * n)) 1 cx cy n true HP17.out (in64_I' (wrap64_in _)) (in64_I' (wrap64_in _)) (by unfold InI b255; omega) _icx _icy _in  _).mono ?_); rintro e w2 ⟨rfl, hn⟩))
  try replace hb := hb.trans (hn.mono hb.size)
  refine hK.out _ _ (up_iff.2 hb) ?_
  clear hK K
  try clear hn
  iterate 3
    refine wpS_takeL rfl rfl ?_
    go_big_quiet_step (rfl)
    refine wpQuiet_nil ?_
  refine wpS_doL rfl ?_
  intro K hK
  go_wp2_with ((first | (go_at_call 17; (with_reducible refine (PtRight_v (wrap64 ((wrap64 (cx * n)) - (wrap64 (Int.tdiv n 2)))) (wrap64 (cy * n)) true HP12.out _).mono ?_); rintro e w2 ⟨rfl, hn⟩) | (go_at_call 17; (with_reducible refine (PtRight_v (wrap64 ((wrap64 (cx * n)) + (wrap64 (Int.tdiv (wrap64 (n + 1)) 2)))) (wrap64 (cy * n)) false HP13.out _).mono ?_); rintro e w2 ⟨rfl, hn⟩)))
  try replace hb := hb.trans (hn.mono hb.size)
  refine hK.out _ _ (up_iff.2 hb) ?_
  clear hK K
  try clear hn
  iterate 5
    refine wpS_takeL rfl rfl ?_
    go_big_quiet_step (rfl)
    refine wpQuiet_nil ?_
  refine wpS_doL rfl ?_
  intro K hK
  go_wp2_with ((go_at_call 47; (with_reducible refine (crAt_is (wrap64 ((wrap64 (cx * n)) - (wrap64 (Int.tdiv n 2)))) (wrap64 (cy * n)) (wrap64 ((wrap64 (cx * n)) - (wrap64 (Int.tdiv n 2)))) (wrap64 (cy * n)) 1 HP14.out HP15.out HP16.out (wrap64_in _) (wrap64_in _)  _).mono ?_); rintro e w2 ⟨rfl, hn⟩))
  try replace hb := hb.trans (hn.mono hb.size)
  refine hK.out _ _ (up_iff.2 hb) ?_
  clear hK K
  try clear hn
  refine wpS_nil ?_
  simp only [List.drop_succ_cons, List.drop_zero]
  first | refine calls_w ?_ | refine name_world ?_ | refine list_world ?_ | refine post_world ?_
  intro U11 hU11
  first | (subst hU11; have u_ := U11; clear u_) | (rw [← hU11] at hb; clear hU11)
  clear c1_0 c1_1 l1 c3_0 c3_1 l3 c4_0 c4_1 l4
  have k1 := Kk1.out.of hb
  clear Kk1
  have k3 := Kk3.out.of hb
  clear Kk3
  have k4 := Kk4.out.of hb
  clear Kk4
  replace hb0 := hb0.trans (hb.mono hb0.size)
  clear hb
  go_wp2_with fail
  refine (p15awake_any _).mono ?_
  rintro e U12 ⟨rfl, hn⟩
  clear k1 k3 k4
  replace hb0 := hb0.trans (hn.mono hb0.size)
  clear hn
  go_wp2
  first | go_ret | go_ret2
  exact ⟨by first | rfl | (simp; done) | (simp; assumption), hb0⟩

set_option maxRecDepth 100000 in
set_option maxHeartbeats 4000000 in

theorem PCe_7 (cx : Int) (cy : Int) (n : Int)    (hP0 : prfx cx cy = cx) (hP1 : prfy cx cy = cy) (hP2 : pxCx cx cy n = (wrap64 (cx * n))) (hP3 : pxCy cx cy n = (wrap64 (cy * n))) (hP4 : pxCe cx cy n = 0) (hP5 : psz n = true) (hP6 : rp cx cy = true) (hP7 : rp (wrap64 (cx * n)) (wrap64 (cy * n)) = true) (hP8 : atx (wrap64 (cx * n)) (wrap64 (cy * n)) = (wrap64 (cx * n))) (hP9 : aty (wrap64 (cx * n)) (wrap64 (cy * n)) = (wrap64 (cy * n))) (hP10 : atw (wrap64 (cx * n)) (wrap64 (cy * n)) = 1) (hP11 : pxI (wrap64 (cx * n)) (wrap64 (cy * n)) 1 cx cy n = true) (hP12 : rp (wrap64 ((wrap64 (cx * n)) - (wrap64 (Int.tdiv n 2)))) (wrap64 (cy * n)) = true) (hP13 : rp (wrap64 ((wrap64 (cx * n)) + (wrap64 (Int.tdiv (wrap64 (n + 1)) 2)))) (wrap64 (cy * n)) = true) (hP14 : atx (wrap64 ((wrap64 (cx * n)) - (wrap64 (Int.tdiv n 2)))) (wrap64 (cy * n)) = (wrap64 ((wrap64 (cx * n)) - (wrap64 (Int.tdiv n 2))))) (hP15 : aty (wrap64 ((wrap64 (cx * n)) - (wrap64 (Int.tdiv n 2)))) (wrap64 (cy * n)) = (wrap64 (cy * n))) (hP16 : atw (wrap64 ((wrap64 (cx * n)) - (wrap64 (Int.tdiv n 2)))) (wrap64 (cy * n)) = 1) (hP17 : pxI (wrap64 ((wrap64 (cx * n)) - (wrap64 (Int.tdiv n 2)))) (wrap64 (cy * n)) 1 cx cy n = true) (hP18 : atx (wrap64 ((wrap64 (cx * n)) + (wrap64 (Int.tdiv (wrap64 (n + 1)) 2)))) (wrap64 (cy * n)) = (wrap64 ((wrap64 (cx * n)) + (wrap64 (Int.tdiv (wrap64 (n + 1)) 2))))) (hP19 : aty (wrap64 ((wrap64 (cx * n)) + (wrap64 (Int.tdiv (wrap64 (n + 1)) 2)))) (wrap64 (cy * n)) = (wrap64 (cy * n))) (hP20 : atw (wrap64 ((wrap64 (cx * n)) + (wrap64 (Int.tdiv (wrap64 (n + 1)) 2)))) (wrap64 (cy * n)) = 1) (hP21 : pxI (wrap64 ((wrap64 (cx * n)) + (wrap64 (Int.tdiv (wrap64 (n + 1)) 2)))) (wrap64 (cy * n)) 1 cx cy n = false) (_icx : In64 cx) (_icy : In64 cy) (_in : In64 n)  (w : World)  :
    Calls Try.prog 8 #[.agg #[.int .i64 cx, .int .i64 cy], .int .i64 n] w fun e w' => e = .returned (.bool true) ∧ Below w.heap.size w w' := by

  have HP0 := Lib.hid hP0
  clear hP0
  have HP1 := Lib.hid hP1
  clear hP1
  have HP2 := Lib.hid hP2
  clear hP2
  have HP3 := Lib.hid hP3
  clear hP3
  have HP4 := Lib.hid hP4
  clear hP4
  have HP5 := Lib.hid hP5
  clear hP5
  have HP6 := Lib.hid hP6
  clear hP6
  have HP7 := Lib.hid hP7
  clear hP7
  have HP8 := Lib.hid hP8
  clear hP8
  have HP9 := Lib.hid hP9
  clear hP9
  have HP10 := Lib.hid hP10
  clear hP10
  have HP11 := Lib.hid hP11
  clear hP11
  have HP12 := Lib.hid hP12
  clear hP12
  have HP13 := Lib.hid hP13
  clear hP13
  have HP14 := Lib.hid hP14
  clear hP14
  have HP15 := Lib.hid hP15
  clear hP15
  have HP16 := Lib.hid hP16
  clear hP16
  have HP17 := Lib.hid hP17
  clear hP17
  have HP18 := Lib.hid hP18
  clear hP18
  have HP19 := Lib.hid hP19
  clear hP19
  have HP20 := Lib.hid hP20
  clear hP20
  have HP21 := Lib.hid hP21
  clear hP21
  go_enter Try.func8, Try.ntmps8
  go_wp2_with fail
  first | refine calls_w ?_ | refine name_world ?_ | refine list_world ?_ | refine post_world ?_
  intro V1 hV1
  have hn : Below w.heap.size w V1 := by rw [hV1]; exact below_a1 _ _
  have nhb0 := hn
  have k1 : Blk V1 w.heap.size #[.int .i64 cx, .int .i64 cy] 24 := by rw [hV1]; exact (Blk.new _ _ _)
  clear hV1
  have hb0 := nhb0
  clear nhb0
  refine (pxCe_is cx cy n (wrap64 (cx * n)) (wrap64 (cy * n)) 0 HP2.out HP3.out HP4.out _icx _icy _in  _).mono ?_
  rintro e U2 ⟨rfl, hn⟩
  replace k1 := k1.of hn
  replace hb0 := hb0.trans (hn.mono hb0.size)
  clear hn
  go_wp2_with fail
  first | refine calls_w ?_ | refine name_world ?_ | refine list_world ?_ | refine post_world ?_
  intro V3 hV3
  have D1 := Lib.hid k1.lt
  have D2 := Lib.hid hb0.size
  have hn : Below U2.heap.size U2 V3 := by rw [hV3]; exact below_a1 _ _
  have nk1 := k1.of hn
  have nhb0 := hb0.trans (hn.mono hb0.size)
  clear hn
  have k2 : Blk V3 U2.heap.size #[.int .i64 ((wrap64 (cx * n))), .int .i64 ((wrap64 (cy * n)))] 24 := by rw [hV3]; exact (Blk.new _ _ _)
  clear k1
  clear hb0
  clear hV3
  have k1 := nk1
  clear nk1
  have hb0 := nhb0
  clear nhb0
  refine (p15size_is n true HP5.out _in  _).mono ?_
  rintro e U4 ⟨rfl, hn⟩
  replace k1 := k1.of hn
  replace k2 := k2.of hn
  replace hb0 := hb0.trans (hn.mono hb0.size)
  clear hn
  have c1_0 : U4.cell? ⟨w.heap.size, 0, none⟩ = some (.int .i64 cx) := k1.cell 0
  have c1_1 : U4.cell? ⟨w.heap.size, 1, none⟩ = some (.int .i64 cy) := k1.cell 1
  have l1 := k1.lt
  go_wp2_with fail
  clear c1_0 c1_1 l1
  refine (p15ref_is cx cy cx cy HP0.out HP1.out _icx _icy  _).mono ?_
  rintro e U5 ⟨rfl, hn⟩
  replace k1 := k1.of hn
  replace k2 := k2.of hn
  replace hb0 := hb0.trans (hn.mono hb0.size)
  clear hn
  go_wp2_with fail
  refine (rRight_v cx cy true HP6.out _).mono ?_
  rintro e U6 ⟨rfl, hn⟩
  replace k1 := k1.of hn
  replace k2 := k2.of hn
  replace hb0 := hb0.trans (hn.mono hb0.size)
  clear hn
  have c1_0 : U6.cell? ⟨w.heap.size, 0, none⟩ = some (.int .i64 cx) := k1.cell 0
  have c1_1 : U6.cell? ⟨w.heap.size, 1, none⟩ = some (.int .i64 cy) := k1.cell 1
  have l1 := k1.lt
  go_wp2_with fail
  clear c1_0 c1_1 l1
  refine (rRight_v (wrap64 (cx * n)) (wrap64 (cy * n)) true HP7.out _).mono ?_
  rintro e U7 ⟨rfl, hn⟩
  replace k1 := k1.of hn
  replace k2 := k2.of hn
  replace hb0 := hb0.trans (hn.mono hb0.size)
  clear hn
  go_wp2_with fail
  have c1_0 : U7.cell? ⟨w.heap.size, 0, none⟩ = some (.int .i64 cx) := k1.cell 0
  have c1_1 : U7.cell? ⟨w.heap.size, 1, none⟩ = some (.int .i64 cy) := k1.cell 1
  have l1 := k1.lt
  have c2_0 : U7.cell? ⟨U2.heap.size, 0, none⟩ = some (.int .i64 ((wrap64 (cx * n)))) := k2.cell 0
  have c2_1 : U7.cell? ⟨U2.heap.size, 1, none⟩ = some (.int .i64 ((wrap64 (cy * n)))) := k2.cell 1
  have l2 := k2.lt
  have Kk1 := Lib.hid k1
  clear k1
  have Kk2 := Lib.hid k2
  clear k2
  refine wp_region_up U7.heap.size 20 [(true, 0), (true, 1), (true, 2), (true, 3), (true, 4), (true, 5), (true, 6), (true, 7), (true, 8), (true, 9), (true, 10), (true, 11), (true, 12), (true, 13), (true, 14), (true, 15), (true, 16), (true, 18), (true, 19), (false, 17)] (by kernel_rfl) (by kernel_rfl) (fun _ _ d _ _ h => by cases d <;> exact h) ?_
  have hb : Below U7.heap.size U7 U7.drew := (Below.refl _ _).drew
  iterate 19
    refine wpS_takeL rfl rfl ?_
    go_big_quiet_step (rfl)
    refine wpQuiet_nil ?_
  refine wpS_doL rfl ?_
  intro K hK
  go_wp2_with ((go_at_call 47; (with_reducible refine (crAt_is (wrap64 (cx * n)) (wrap64 (cy * n)) (wrap64 (cx * n)) (wrap64 (cy * n)) 1 HP8.out HP9.out HP10.out (wrap64_in _) (wrap64_in _)  _).mono ?_); rintro e w2 ⟨rfl, hn⟩))
  try replace hb := hb.trans (hn.mono hb.size)
  refine hK.out _ _ (up_iff.2 hb) ?_
  clear hK K
  try clear hn
  refine wpS_nil ?_
  simp only [List.drop_succ_cons, List.drop_zero]
  first | refine calls_w ?_ | refine name_world ?_ | refine list_world ?_ | refine post_world ?_
  intro U8 hU8
  first | (subst hU8; have u_ := U8; clear u_) | (rw [← hU8] at hb; clear hU8)
  clear c1_0 c1_1 l1 c2_0 c2_1 l2
  have k1 := Kk1.out.of hb
  clear Kk1
  have k2 := Kk2.out.of hb
  clear Kk2
  replace hb0 := hb0.trans (hb.mono hb0.size)
  clear hb
  go_wp2_with fail
  refine (pxIn_is (wrap64 (cx * n)) (wrap64 (cy * n)) 1 cx cy n true HP11.out (in64_I' (wrap64_in _)) (in64_I' (wrap64_in _)) (by unfold InI b255; omega) _icx _icy _in  _).mono ?_
  rintro e U9 ⟨rfl, hn⟩
  replace k1 := k1.of hn
  replace k2 := k2.of hn
  replace hb0 := hb0.trans (hn.mono hb0.size)
  clear hn
  go_wp2_with fail
  have c2_0 : U9.cell? ⟨U2.heap.size, 0, none⟩ = some (.int .i64 ((wrap64 (cx * n)))) := k2.cell 0
  have c2_1 : U9.cell? ⟨U2.heap.size, 1, none⟩ = some (.int .i64 ((wrap64 (cy * n)))) := k2.cell 1
  have l2 := k2.lt
  have Kk1 := Lib.hid k1
  clear k1
  have Kk2 := Lib.hid k2
  clear k2
  refine Stay.wp_region_FG2 19 17 18 [(0, 0), (0, 1), (0, 2), (0, 3), (0, 4), (0, 5), (0, 6), (0, 7), (0, 8), (0, 9), (0, 10), (0, 11), (0, 12), (0, 13), (0, 14), (0, 15), (0, 16)] [(1, 19), (1, 20)] (by kernel_rfl) (by kernel_rfl) (fun _ _ d _ _ => by cases d <;> exact Iff.rfl) rfl rfl rfl alPxL2_0 rfl rfl rfl alPxL2_0 rfl ?_
  have hb : Below U9.heap.size U9 U9.drew := (Below.refl _ _).drew
  iterate 17
    refine wpFG_take0 rfl rfl ?_
    go_big_quiet_step (rfl)
    refine wpQuiet_nil ?_
  refine wpFG_nil ?_
  clear hb
  intro w1 hg hb b1 b2 hne lb1 nb1 lb2 nb2
  clear hg
  simp only [Act.put, ptrTo, List.setIfInBounds_toArray, List.set_cons_succ, List.set_cons_zero]
  have m1 : Blk w1 b1 #[.int .i64 0, .int .i64 0] 24 := nb1
  have mc1_0 : w1.cell? ⟨b1, 0, none⟩ = some (.int .i64 0) := m1.cell 0
  have mf1_0 := m1.free 0
  have mc1_1 : w1.cell? ⟨b1, 1, none⟩ = some (.int .i64 0) := m1.cell 1
  have mf1_1 := m1.free 1
  have m2 : Blk w1 b2 #[.int .i64 0, .int .i64 0] 24 := nb2
  have mc2_0 : w1.cell? ⟨b2, 0, none⟩ = some (.int .i64 0) := m2.cell 0
  have mf2_0 := m2.free 0
  have mc2_1 : w1.cell? ⟨b2, 1, none⟩ = some (.int .i64 0) := m2.cell 1
  have mf2_1 := m2.free 1
  refine wpG_do1 rfl ?_
  intro K hK
  go_wp2_with fail
  refine hK.out _ _ (up_iff.2 (by repeat' (first | exact hb | exact lb1 | exact lb2 | refine Below.setCell ?_ ?_ _))) ?_
  clear hK K
  refine wpG_do1 rfl ?_
  intro K hK
  go_wp2_with fail
  refine hK.out _ _ (up_iff.2 (by repeat' (first | exact hb | exact lb1 | exact lb2 | refine Below.setCell ?_ ?_ _))) ?_
  clear hK K
  refine wpG_nil ?_
  refine list_world ?_
  intro U10 hU10
  clear c2_0 c2_1 l2
  have D3 := Lib.hid Kk1.out.lt
  have D4 := Lib.hid Kk2.out.lt
  have D5 := Lib.hid hb0.size
  have D6 := Lib.hid lb1
  have D7 := Lib.hid lb2
  have D8 := Lib.hid (show b1 ≠ b2 from hne)
  have k1 : Blk U10 w.heap.size #[.int .i64 cx, .int .i64 cy] 24 := by rw [hU10]; exact (blk_setL (blk_setL (Kk1.out.of hb) (by have := D3.out; have := D6.out; omega) 0 [.int .i64 ((wrap64 ((wrap64 (cx * n)) - (wrap64 (Int.tdiv n 2))))), .int .i64 ((wrap64 (cy * n)))]) (by have := D3.out; have := D7.out; omega) 0 [.int .i64 ((wrap64 ((wrap64 (cx * n)) + (wrap64 (Int.tdiv (wrap64 (n + 1)) 2))))), .int .i64 ((wrap64 (cy * n)))])
  have k2 : Blk U10 U2.heap.size #[.int .i64 ((wrap64 (cx * n))), .int .i64 ((wrap64 (cy * n)))] 24 := by rw [hU10]; exact (blk_setL (blk_setL (Kk2.out.of hb) (by have := D4.out; have := D6.out; omega) 0 [.int .i64 ((wrap64 ((wrap64 (cx * n)) - (wrap64 (Int.tdiv n 2))))), .int .i64 ((wrap64 (cy * n)))]) (by have := D4.out; have := D7.out; omega) 0 [.int .i64 ((wrap64 ((wrap64 (cx * n)) + (wrap64 (Int.tdiv (wrap64 (n + 1)) 2))))), .int .i64 ((wrap64 (cy * n)))])
  have k3 : Blk U10 b1 #[.int .i64 ((wrap64 ((wrap64 (cx * n)) - (wrap64 (Int.tdiv n 2))))), .int .i64 ((wrap64 (cy * n)))] 24 := by rw [hU10]; exact (blk_setL (blk_full _ [.int .i64 ((wrap64 ((wrap64 (cx * n)) - (wrap64 (Int.tdiv n 2))))), .int .i64 ((wrap64 (cy * n)))] m1 rfl) (by have := D8.out; omega) 0 [.int .i64 ((wrap64 ((wrap64 (cx * n)) + (wrap64 (Int.tdiv (wrap64 (n + 1)) 2))))), .int .i64 ((wrap64 (cy * n)))])
  have k4 : Blk U10 b2 #[.int .i64 ((wrap64 ((wrap64 (cx * n)) + (wrap64 (Int.tdiv (wrap64 (n + 1)) 2))))), .int .i64 ((wrap64 (cy * n)))] 24 := by rw [hU10]; exact (blk_full _ [.int .i64 ((wrap64 ((wrap64 (cx * n)) + (wrap64 (Int.tdiv (wrap64 (n + 1)) 2))))), .int .i64 ((wrap64 (cy * n)))] (blk_setL m2 (by have := D8.out; omega) 0 [.int .i64 ((wrap64 ((wrap64 (cx * n)) - (wrap64 (Int.tdiv n 2))))), .int .i64 ((wrap64 (cy * n)))]) rfl)
  replace hb0 : Below w.heap.size w U10 := by rw [hU10]; exact (blw_setL (blw_setL (hb0.trans (hb.mono hb0.size)) (by have := D5.out; have := D6.out; omega) 0 [.int .i64 ((wrap64 ((wrap64 (cx * n)) - (wrap64 (Int.tdiv n 2))))), .int .i64 ((wrap64 (cy * n)))]) (by have := D5.out; have := D7.out; omega) 0 [.int .i64 ((wrap64 ((wrap64 (cx * n)) + (wrap64 (Int.tdiv (wrap64 (n + 1)) 2))))), .int .i64 ((wrap64 (cy * n)))])
  clear hU10 hb Kk1 Kk2 m1 nb1 lb1 mc1_0 mf1_0 mc1_1 mf1_1 m2 nb2 lb2 mc2_0 mf2_0 mc2_1 mf2_1 hne
  generalize b1 = q3 at *
  generalize b2 = q4 at *
  go_wp2_with fail
  clear k2
  have c1_0 : U10.cell? ⟨w.heap.size, 0, none⟩ = some (.int .i64 cx) := k1.cell 0
  have c1_1 : U10.cell? ⟨w.heap.size, 1, none⟩ = some (.int .i64 cy) := k1.cell 1
  have l1 := k1.lt
  have c3_0 : U10.cell? ⟨q3, 0, none⟩ = some (.int .i64 ((wrap64 ((wrap64 (cx * n)) - (wrap64 (Int.tdiv n 2)))))) := k3.cell 0
  have c3_1 : U10.cell? ⟨q3, 1, none⟩ = some (.int .i64 ((wrap64 (cy * n)))) := k3.cell 1
  have l3 := k3.lt
  have c4_0 : U10.cell? ⟨q4, 0, none⟩ = some (.int .i64 ((wrap64 ((wrap64 (cx * n)) + (wrap64 (Int.tdiv (wrap64 (n + 1)) 2)))))) := k4.cell 0
  have c4_1 : U10.cell? ⟨q4, 1, none⟩ = some (.int .i64 ((wrap64 (cy * n)))) := k4.cell 1
  have l4 := k4.lt
  have Kk1 := Lib.hid k1
  clear k1
  have Kk3 := Lib.hid k3
  clear k3
  have Kk4 := Lib.hid k4
  clear k4
  refine wp_region_up U10.heap.size 19 [(true, 0), (false, 1), (true, 2), (true, 3), (true, 4), (true, 6), (true, 7), (false, 5), (false, 8), (true, 9), (true, 10), (true, 11), (false, 12), (true, 13), (true, 14), (true, 15), (true, 17), (true, 18), (false, 16)] (by kernel_rfl) (by kernel_rfl) (fun _ _ d _ _ h => by cases d <;> exact h) ?_
  have hb : Below U10.heap.size U10 U10.drew := (Below.refl _ _).drew
  refine wpS_takeL rfl rfl ?_
  go_big_quiet_step (rfl)
  refine wpQuiet_nil ?_
  refine wpS_doL rfl ?_
  intro K hK
  go_wp2_with ((first | (go_at_call 17; (with_reducible refine (PtRight_v (wrap64 ((wrap64 (cx * n)) - (wrap64 (Int.tdiv n 2)))) (wrap64 (cy * n)) true HP12.out _).mono ?_); rintro e w2 ⟨rfl, hn⟩) | (go_at_call 17; (with_reducible refine (PtRight_v (wrap64 ((wrap64 (cx * n)) + (wrap64 (Int.tdiv (wrap64 (n + 1)) 2)))) (wrap64 (cy * n)) true HP13.out _).mono ?_); rintro e w2 ⟨rfl, hn⟩)))
  replace hb := hb.trans (hn.mono hb.size)
  refine hK.out _ _ (up_iff.2 hb) ?_
  clear hK K
  clear hn
  iterate 5
    refine wpS_takeL rfl rfl ?_
    go_big_quiet_step (rfl)
    refine wpQuiet_nil ?_
  refine wpS_doL rfl ?_
  intro K hK
  go_wp2_with ((first | (go_at_call 47; (with_reducible refine (crAt_is (wrap64 ((wrap64 (cx * n)) - (wrap64 (Int.tdiv n 2)))) (wrap64 (cy * n)) (wrap64 ((wrap64 (cx * n)) - (wrap64 (Int.tdiv n 2)))) (wrap64 (cy * n)) 1 HP14.out HP15.out HP16.out (wrap64_in _) (wrap64_in _)  _).mono ?_); rintro e w2 ⟨rfl, hn⟩) | (go_at_call 47; (with_reducible refine (crAt_is (wrap64 ((wrap64 (cx * n)) + (wrap64 (Int.tdiv (wrap64 (n + 1)) 2)))) (wrap64 (cy * n)) (wrap64 ((wrap64 (cx * n)) + (wrap64 (Int.tdiv (wrap64 (n + 1)) 2)))) (wrap64 (cy * n)) 1 HP18.out HP19.out HP20.out (wrap64_in _) (wrap64_in _)  _).mono ?_); rintro e w2 ⟨rfl, hn⟩)))
  try replace hb := hb.trans (hn.mono hb.size)
  refine hK.out _ _ (up_iff.2 hb) ?_
  clear hK K
  try clear hn
  refine wpS_doL rfl ?_
  intro K hK
  go_wp2_with ((go_at_call 42; (with_reducible refine (pxIn_is (wrap64 ((wrap64 (cx * n)) - (wrap64 (Int.tdiv n 2)))) (wrap64 (cy * n)) 1 cx cy n true HP17.out (in64_I' (wrap64_in _)) (in64_I' (wrap64_in _)) (by unfold InI b255; omega) _icx _icy _in  _).mono ?_); rintro e w2 ⟨rfl, hn⟩))
  try replace hb := hb.trans (hn.mono hb.size)
  refine hK.out _ _ (up_iff.2 hb) ?_
  clear hK K
  try clear hn
  iterate 3
    refine wpS_takeL rfl rfl ?_
    go_big_quiet_step (rfl)
    refine wpQuiet_nil ?_
  refine wpS_doL rfl ?_
  intro K hK
  go_wp2_with ((first | (go_at_call 17; (with_reducible refine (PtRight_v (wrap64 ((wrap64 (cx * n)) - (wrap64 (Int.tdiv n 2)))) (wrap64 (cy * n)) true HP12.out _).mono ?_); rintro e w2 ⟨rfl, hn⟩) | (go_at_call 17; (with_reducible refine (PtRight_v (wrap64 ((wrap64 (cx * n)) + (wrap64 (Int.tdiv (wrap64 (n + 1)) 2)))) (wrap64 (cy * n)) true HP13.out _).mono ?_); rintro e w2 ⟨rfl, hn⟩)))
  try replace hb := hb.trans (hn.mono hb.size)
  refine hK.out _ _ (up_iff.2 hb) ?_
  clear hK K
  try clear hn
  iterate 5
    refine wpS_takeL rfl rfl ?_
    go_big_quiet_step (rfl)
    refine wpQuiet_nil ?_
  refine wpS_doL rfl ?_
  intro K hK
  go_wp2_with ((first | (go_at_call 47; (with_reducible refine (crAt_is (wrap64 ((wrap64 (cx * n)) - (wrap64 (Int.tdiv n 2)))) (wrap64 (cy * n)) (wrap64 ((wrap64 (cx * n)) - (wrap64 (Int.tdiv n 2)))) (wrap64 (cy * n)) 1 HP14.out HP15.out HP16.out (wrap64_in _) (wrap64_in _)  _).mono ?_); rintro e w2 ⟨rfl, hn⟩) | (go_at_call 47; (with_reducible refine (crAt_is (wrap64 ((wrap64 (cx * n)) + (wrap64 (Int.tdiv (wrap64 (n + 1)) 2)))) (wrap64 (cy * n)) (wrap64 ((wrap64 (cx * n)) + (wrap64 (Int.tdiv (wrap64 (n + 1)) 2)))) (wrap64 (cy * n)) 1 HP18.out HP19.out HP20.out (wrap64_in _) (wrap64_in _)  _).mono ?_); rintro e w2 ⟨rfl, hn⟩)))
  try replace hb := hb.trans (hn.mono hb.size)
  refine hK.out _ _ (up_iff.2 hb) ?_
  clear hK K
  try clear hn
  refine wpS_nil ?_
  simp only [List.drop_succ_cons, List.drop_zero]
  first | refine calls_w ?_ | refine name_world ?_ | refine list_world ?_ | refine post_world ?_
  intro U11 hU11
  first | (subst hU11; have u_ := U11; clear u_) | (rw [← hU11] at hb; clear hU11)
  clear c1_0 c1_1 l1 c3_0 c3_1 l3 c4_0 c4_1 l4
  have k1 := Kk1.out.of hb
  clear Kk1
  have k3 := Kk3.out.of hb
  clear Kk3
  have k4 := Kk4.out.of hb
  clear Kk4
  replace hb0 := hb0.trans (hb.mono hb0.size)
  clear hb
  go_wp2_with fail
  refine (pxIn_is (wrap64 ((wrap64 (cx * n)) + (wrap64 (Int.tdiv (wrap64 (n + 1)) 2)))) (wrap64 (cy * n)) 1 cx cy n false HP21.out (in64_I' (wrap64_in _)) (in64_I' (wrap64_in _)) (by unfold InI b255; omega) _icx _icy _in  _).mono ?_
  rintro e U12 ⟨rfl, hn⟩
  clear k1 k3 k4
  replace hb0 := hb0.trans (hn.mono hb0.size)
  clear hn
  go_wp2_with fail
  refine (p15awake_any _).mono ?_
  rintro e U13 ⟨rfl, hn⟩
  replace hb0 := hb0.trans (hn.mono hb0.size)
  clear hn
  go_wp2
  first | go_ret | go_ret2
  exact ⟨by first | rfl | (simp; done) | (simp; assumption), hb0⟩
end Go.Proofs.Ytlcbomjdbdgbmaa

namespace Go.Proofs.Ytlcbomjdbdgbmaa
open Go.RowKit

theorem rsp_one {x y : Int} (h : rp x y = true) : rspR x y 1 = true := by
  have k := (rp_iff x y).1 h
  unfold rspR
  rw [sign_le0, cmp_gt0, cmp_ge0, cmp_le0, cmp_ge0, cmp_le0, decide_eq_true (show -(2199023255552 * 1) ≤ x by omega), decide_eq_true (show x ≤ 2199023255552 * 1 by omega), decide_eq_true (show -(2199023255552 * 1) ≤ y by omega), decide_eq_true (show y ≤ 2199023255552 * 1 by omega)]
  rfl
theorem pat_ok {x y : Int} (h : rp x y = true) : atx x y = x ∧ aty x y = y ∧ atw x y = 1 := by
  unfold atx aty atw; rw [h]; exact ⟨rfl, rfl, rfl⟩
structure PtCell (x y n : Int) : Prop where
  e0 : pxOe x y 1 n = 0
  ex : pxOx x y 1 n = pxc x 1 n
  ey : pxOy x y 1 n = pxc y 1 n
  cx : inCell n 1 (pxc x 1 n) x
  cy : inCell n 1 (pxc y 1 n) y
  rr : rp (pxc x 1 n) (pxc y 1 n) = true
theorem pt_cell {x y n : Int} (h : rp x y = true) (hS : pxS n = true) : PtCell x y n := by
  have k := (rp_iff x y).1 h
  have hn := (pxS_iff n).1 hS
  obtain ⟨e1, e2, e3⟩ := pxO_of hS ((spR_eq x y 1).trans (rsp_one h))
  obtain ⟨k1, k2, k3⟩ := @pxc_sp x 1 n (by omega) (by omega) (by omega) (by omega) hn
  obtain ⟨m1, m2, m3⟩ := @pxc_sp y 1 n (by omega) (by omega) (by omega) (by omega) hn
  exact ⟨e3, e1, e2, k1, m1, (rp_iff _ _).2 ⟨⟨k2, k3⟩, m2, m3⟩⟩
theorem pxI_pt {x y n : Int} (h : rp x y = true) (hS : pxS n = true) (cx cy : Int) : pxI x y 1 cx cy n = (rp cx cy && (pxc x 1 n == cx) && (pxc y 1 n == cy)) := by
  have p := pt_cell h hS
  rw [pxI_eq p.e0, p.ex, p.ey]
theorem pxC_no {x y n : Int} (h : pxS n = false ∨ rp x y = false ∨ rp (wrap64 (x * n)) (wrap64 (y * n)) = false) : pxCx x y n = 0 ∧ pxCy x y n = 0 ∧ pxCe x y n = 11 := by
  unfold pxCx pxCy pxCe
  cases h1 : pxS n
  · exact ⟨rfl, rfl, rfl⟩
  cases h2 : rp x y
  · exact ⟨rfl, rfl, rfl⟩
  cases h3 : rp (wrap64 (x * n)) (wrap64 (y * n))
  · exact ⟨rfl, rfl, rfl⟩
  rw [h1, h2, h3] at h
  simp at h
theorem pxC_of {x y n : Int} (h1 : pxS n = true) (h2 : rp x y = true) (h3 : rp (wrap64 (x * n)) (wrap64 (y * n)) = true) : pxCx x y n = wrap64 (x * n) ∧ pxCy x y n = wrap64 (y * n) ∧ pxCe x y n = 0 := by
  unfold pxCx pxCy pxCe
  rw [h1, h2, h3]
  exact ⟨rfl, rfl, rfl⟩
theorem wr_mul {c n : Int} (hc : -2199023255552 ≤ c ∧ c ≤ 2199023255552) (hn : 1 ≤ n ∧ n ≤ 1048576) : wrap64 (c * n) = c * n ∧ -2305843009213693952 ≤ c * n ∧ c * n ≤ 2305843009213693952 := by
  have b := @mulb c n 2199023255552 1048576 (by omega) (by omega) (by omega) (by omega) (by omega)
  exact ⟨w64_id (by omega) (by omega), by omega, by omega⟩
theorem PCe_any (cx cy n : Int) (icx : In64 cx) (icy : In64 cy) (i_n : In64 n) (w : World) :
    Calls Try.prog 8 #[.agg #[.int .i64 cx, .int .i64 cy], .int .i64 n] w fun e w' => e = .returned (.bool true) ∧ Below w.heap.size w w' := by
  cases hs : psz n
  · obtain ⟨e1, e2, e3⟩ := @pxC_no cx cy n (.inl hs)
    exact PCe_1 cx cy n rfl rfl e1 e2 e3 hs icx icy i_n w
  cases hc : rp cx cy
  · obtain ⟨e1, e2, e3⟩ := @pxC_no cx cy n (.inr (.inl hc))
    exact PCe_2 cx cy n rfl rfl e1 e2 e3 hs hc icx icy i_n w
  cases hp : rp (wrap64 (cx * n)) (wrap64 (cy * n))
  · obtain ⟨e1, e2, e3⟩ := @pxC_no cx cy n (.inr (.inr hp))
    exact PCe_3 cx cy n rfl rfl e1 e2 e3 hs hc hp icx icy i_n w
  have hS : pxS n = true := hs
  obtain ⟨e1, e2, e3⟩ := pxC_of hS hc hp
  have hn := (pxS_iff n).1 hS
  have kc := (rp_iff _ _).1 hc
  obtain ⟨wx, bx1, bx2⟩ := wr_mul kc.1 hn
  obtain ⟨wy, by1, by2⟩ := wr_mul kc.2 hn
  have as1 : 2 * cx * n = 2 * (cx * n) := Int.mul_assoc _ _ _
  have as2 : 2 * cy * n = 2 * (cy * n) := Int.mul_assoc _ _ _
  have inn : ∀ x, cx * n - n / 2 ≤ x → x ≤ cx * n → inCell n 1 cx x := fun x h1 h2 => by unfold inCell; omega
  have iny : inCell n 1 cy (wrap64 (cy * n)) := by rw [wy]; unfold inCell; omega
  have yes : ∀ x, cx * n - n / 2 ≤ x → x ≤ cx * n → rp x (wrap64 (cy * n)) = true → pxI x (wrap64 (cy * n)) 1 cx cy n = true := fun x h1 h2 h3 => by
    have p := pt_cell h3 hS
    rw [pxI_pt h3 hS, hc, cell_eq (by omega) (by omega) p.cx (inn x h1 h2), cell_eq (by omega) (by omega) p.cy iny]
    simp
  have no : ∀ x, cx * n + (n + 1) / 2 = x → rp x (wrap64 (cy * n)) = true → pxI x (wrap64 (cy * n)) 1 cx cy n = false := fun x h1 h3 => by
    have p := pt_cell h3 hS
    have hne : ¬ pxc x 1 n = cx := fun e => by
      have := p.cx
      rw [e] at this
      have := this.2
      omega
    rw [pxI_pt h3 hS]
    simp [hne]
  have t1 : Int.tdiv n 2 = n / 2 := Int.tdiv_eq_ediv_of_nonneg (by omega)
  have t2 : wrap64 (n + 1) = n + 1 := w64_id (by omega) (by omega)
  have t3 : Int.tdiv (n + 1) 2 = (n + 1) / 2 := Int.tdiv_eq_ediv_of_nonneg (by omega)
  have t4 : wrap64 (n / 2) = n / 2 := w64_id (by omega) (by omega)
  have t5 : wrap64 ((n + 1) / 2) = (n + 1) / 2 := w64_id (by omega) (by omega)
  have eL : wrap64 ((wrap64 (cx * n)) - (wrap64 (Int.tdiv n 2))) = cx * n - n / 2 := by rw [wx, t1, t4]; exact w64_id (by omega) (by omega)
  have eH : wrap64 ((wrap64 (cx * n)) + (wrap64 (Int.tdiv (wrap64 (n + 1)) 2))) = cx * n + (n + 1) / 2 := by rw [wx, t2, t3, t5]; exact w64_id (by omega) (by omega)
  obtain ⟨a1, a2, a3⟩ := pat_ok hp
  have hI := yes (wrap64 (cx * n)) (by omega) (by omega) hp
  have hL := yes (wrap64 ((wrap64 (cx * n)) - (wrap64 (Int.tdiv n 2)))) (by omega) (by omega)
  have hH := no (wrap64 ((wrap64 (cx * n)) + (wrap64 (Int.tdiv (wrap64 (n + 1)) 2)))) eH.symm
  cases h1 : rp (wrap64 ((wrap64 (cx * n)) - (wrap64 (Int.tdiv n 2)))) (wrap64 (cy * n))
  · cases h2 : rp (wrap64 ((wrap64 (cx * n)) + (wrap64 (Int.tdiv (wrap64 (n + 1)) 2)))) (wrap64 (cy * n))
    · exact PCe_4 cx cy n rfl rfl e1 e2 e3 hs hc hp a1 a2 a3 hI h1 h2 icx icy i_n w
    · obtain ⟨d1, d2, d3⟩ := pat_ok h2
      exact PCe_5 cx cy n rfl rfl e1 e2 e3 hs hc hp a1 a2 a3 hI h1 h2 d1 d2 d3 (hH h2) icx icy i_n w
  · obtain ⟨c1, c2, c3⟩ := pat_ok h1
    cases h2 : rp (wrap64 ((wrap64 (cx * n)) + (wrap64 (Int.tdiv (wrap64 (n + 1)) 2)))) (wrap64 (cy * n))
    · exact PCe_6 cx cy n rfl rfl e1 e2 e3 hs hc hp a1 a2 a3 hI h1 h2 c1 c2 c3 (hL h1) icx icy i_n w
    · obtain ⟨d1, d2, d3⟩ := pat_ok h2
      exact PCe_7 cx cy n rfl rfl e1 e2 e3 hs hc hp a1 a2 a3 hI h1 h2 c1 c2 c3 (hL h1) d1 d2 d3 (hH h2) icx icy i_n w
end Go.Proofs.Ytlcbomjdbdgbmaa

namespace Go.Proofs.Ytlcbomjdbdgbmaa
open Go.ChangeShapes Go.WideShapes Go.ChangeAt Go.RowKit

set_option maxRecDepth 100000 in
set_option maxHeartbeats 1000000 in
theorem pixelCentres_lifted (os : Os) (started : os.Started) (H : Type) (enc : TypeId × Value → H) :
    ReturnsInHanded {} Try.checked os 8 .any (Rows.pixelCentresSpec.pre6 enc Try.prog Try.f8 Rows.pixelCentresRow.domain false) (Rows.pixelCentresSpec.post enc Try.prog Try.f8 false true false false) := by
  refine returnsInHanded_of_change (C := Try.checked) own started (by kernel_rfl) Try.func8
    (ChangeSpec.witness6 (enc := enc) (C := Try.checked) false ⟨#[], #[pI 0 0, .int .i64 0], []⟩ 8 (by kernel_rfl) (by kernel_rfl) (by kernel_rfl) (by kernel_rfl)) ?_
  intro W base args ds gs before hval0 hW hcnd _
  have hval : ∀ (j : Nat) t v, Try.f8.params[j]? = some t → args[j]? = some v → Value.okWide Try.prog W .any base t v := hval0
  have hW' := hW
  obtain ⟨p, q, hA0, hV, rfl, hfz, hnd⟩ := hW
  have hA : DataW.TrodAll enc Try.prog W 0 (fun _ => true) true Try.f8.params.toList args.toList ds p := hA0
  rw [Try.params8] at hA hval
  obtain ⟨v0, vs0, d0, ds0, p0, q0, hargs, rfl, rfl, h0, r0⟩ := trodAll_cons hA
  obtain ⟨v1, vs1, d1, ds1, p1, q1, rfl, rfl, rfl, h1, r1⟩ := trodAll_cons r0
  obtain ⟨rfl, rfl, rfl⟩ := trodAll_nil r1
  obtain rfl : args = #[v0, v1] := by cases args; simp_all
  obtain ⟨rfl, rfl⟩ := trodVars_none hV
  have k0 := h0
  have lt0 : ∀ x ∈ p0, x.block < W.heap.size := by obtain ⟨m, hm⟩ := k0; exact DataW.trod_lt m _ _ _ hm
  obtain ⟨x0, y0, ix0, iy0, rfl⟩ := open_point (hval 0 24 v0 rfl rfl) h0
  obtain ⟨x1, rfl, rfl, rfl, wx1⟩ := open_int Try.underlying3 (hval 1 3 v1 rfl rfl) h1
  have ix1 := in64_wf wx1
  clear hA0 hval0
  refine (PCe_any x0 y0 x1 ix0 iy0 ix1 W).mono fun e W' ⟨he, bel⟩ => ?_
  subst he
  exact ⟨_, rfl, _, _, _, [], _, [], hW', trodAll_mk1 (shut_bool Try.underlying4 _), (trodAll_cons_mk (Below.trod laidOut (by kernel_rfl) (of_decide_eq_true (by kernel_rfl)) k0 bel lt0) (trodAll_cons_mk (shut_int Try.underlying3 wx1) trodAll_mk0)), rfl, bel.frame _, fun h => by cases h⟩

theorem pixelCentres_holds : Rows.PixelCentresSaid :=
  OpenClaim.holds_of_wide 8 Try.f8 rfl rfl rfl rfl rfl rfl rfl ⟨rfl, rfl, rfl, rfl, rfl⟩ rfl rfl rfl rfl rfl (by kernel_rfl) Try.func8 (by kernel_rfl)
    (of_decide_eq_true (by kernel_rfl)) (by unfold Func.isWrapper; rw [if_neg (by decide +kernel)]; exact ⟨rfl, rfl⟩)
    (fun os started H enc _ => pixelCentres_lifted os started H enc)
#print axioms pixelCentres_holds
end Go.Proofs.Ytlcbomjdbdgbmaa

