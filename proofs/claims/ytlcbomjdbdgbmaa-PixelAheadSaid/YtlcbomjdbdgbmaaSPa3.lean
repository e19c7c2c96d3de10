/- My texts Cr2, Px2, AwN, Px3, Px4, Px6, PxM, AwT, joined: what the last one needs of them. Conditions: as each lemma says. -/
import Derived.Test.YtlcbomjdbdgbmaaSPa2
import Derived.KernelRfl
import Derived.StillTail
import Derived.OrdersHeld
import Derived.Deep.Quiet
import Derived.Below
import Derived.WalkKit
import Derived.Test.YtlcbomjdbdgbmaaProg
import Derived.WalkSpells
import Derived.StillTactics
import Derived.Laws.Pointers
import Derived.Deep.RegionHeld3
import Derived.RowKit3
import Derived.Deep.QuietTactic
import Derived.BigQuiet
import Derived.BigRegion
import Derived.Lib.Hide
import Derived.WalkSmall
import Derived.Laws.BitsAllLaws
import Derived.IntWalk
import Derived.Deep.OwnRows
import Derived.Deep.LoopGhost
import Derived.Shelf.Bits.Mul64
import Derived.Deep.WholeRow
import Derived.Laws.Rows
import Derived.ProofKit
import Derived.OpenShut
import Derived.ShutString
import Derived.ChangeOld
import Derived.Lib.SmallJoins
import Derived.Laws.IdiomArrays
namespace Go.Proofs.Ytlcbomjdbdgbmaa
open Go.RowKit

def atx (x : Int) (y : Int) : Int := (bif (rp x y) then x else 0)

def aty (x : Int) (y : Int) : Int := (bif (rp x y) then y else 0)

def atw (x : Int) (y : Int) : Int := (bif (rp x y) then 1 else 0)

set_option maxRecDepth 100000 in
set_option maxHeartbeats 4000000 in

theorem crAt_is (x : Int) (y : Int)  (R0 : Int) (R1 : Int) (R2 : Int) (hR0 : atx x y = R0) (hR1 : aty x y = R1) (hR2 : atw x y = R2) (_ix : In64 x) (_iy : In64 y)  (w : World)  :
    Calls Try.prog 47 #[.agg #[.int .i64 x, .int .i64 y]] w fun e w' => e = .returned (.agg #[.int .u64 (wd0 R0), .int .u64 (wd1 R0), .int .u64 (wd2 R0), .int .u64 (wd3 R0), .int .u64 (wd0 R1), .int .u64 (wd1 R1), .int .u64 (wd2 R1), .int .u64 (wd3 R1), .int .u64 (wd0 R2), .int .u64 (wd1 R2), .int .u64 (wd2 R2), .int .u64 (wd3 R2)]) ∧ Below w.heap.size w w' := by

  have HR0 := Lib.hid hR0
  clear hR0
  have HR1 := Lib.hid hR1
  clear hR1
  have HR2 := Lib.hid hR2
  clear hR2
  go_enter Try.func47, Try.ntmps47
  go_wp2_with fail
  first | refine calls_w ?_ | refine name_world ?_ | refine list_world ?_ | refine post_world ?_
  intro V1 hV1
  have hn : Below w.heap.size w V1 := by rw [hV1]; exact below_a2 _ _ _
  have nhb0 := hn
  have k1 : Blk V1 w.heap.size #[.int .i64 x, .int .i64 y] 24 := by rw [hV1]; exact ((Blk.new _ _ _).alloc _)
  have k2 : Blk V1 (w.heap.size + 1) #[.int .u64 0, .int .u64 0, .int .u64 0, .int .u64 0, .int .u64 0, .int .u64 0, .int .u64 0, .int .u64 0, .int .u64 0, .int .u64 0, .int .u64 0, .int .u64 0] 67 := by rw [hV1]; exact (Blk.new1 _ _ _ _)
  clear hV1
  have hb0 := nhb0
  clear nhb0
  obtain ⟨z1, hz1⟩ : ∃ o_o : Bool, rp x y = o_o := ⟨_, rfl⟩
  have Hz1 := Lib.hid hz1
  clear hz1
  refine (PtRight_v x y z1 Hz1.out _).mono ?_
  rintro e U2 ⟨rfl, hn⟩
  replace k1 := k1.of hn
  replace k2 := k2.of hn
  replace hb0 := hb0.trans (hn.mono hb0.size)
  clear hn
  cases z1
  · have c2_0 : U2.cell? ⟨(w.heap.size + 1), 0, none⟩ = some (.int .u64 0) := k2.cell 0
    have c2_1 : U2.cell? ⟨(w.heap.size + 1), 1, none⟩ = some (.int .u64 0) := k2.cell 1
    have c2_2 : U2.cell? ⟨(w.heap.size + 1), 2, none⟩ = some (.int .u64 0) := k2.cell 2
    have c2_3 : U2.cell? ⟨(w.heap.size + 1), 3, none⟩ = some (.int .u64 0) := k2.cell 3
    have c2_4 : U2.cell? ⟨(w.heap.size + 1), 4, none⟩ = some (.int .u64 0) := k2.cell 4
    have c2_5 : U2.cell? ⟨(w.heap.size + 1), 5, none⟩ = some (.int .u64 0) := k2.cell 5
    have c2_6 : U2.cell? ⟨(w.heap.size + 1), 6, none⟩ = some (.int .u64 0) := k2.cell 6
    have c2_7 : U2.cell? ⟨(w.heap.size + 1), 7, none⟩ = some (.int .u64 0) := k2.cell 7
    have c2_8 : U2.cell? ⟨(w.heap.size + 1), 8, none⟩ = some (.int .u64 0) := k2.cell 8
    have c2_9 : U2.cell? ⟨(w.heap.size + 1), 9, none⟩ = some (.int .u64 0) := k2.cell 9
    have c2_10 : U2.cell? ⟨(w.heap.size + 1), 10, none⟩ = some (.int .u64 0) := k2.cell 10
    have c2_11 : U2.cell? ⟨(w.heap.size + 1), 11, none⟩ = some (.int .u64 0) := k2.cell 11
    have f2_0 := k2.free 0
    have f2_1 := k2.free 1
    have f2_2 := k2.free 2
    have f2_3 := k2.free 3
    have f2_4 := k2.free 4
    have f2_5 := k2.free 5
    have f2_6 := k2.free 6
    have f2_7 := k2.free 7
    have f2_8 := k2.free 8
    have f2_9 := k2.free 9
    have f2_10 := k2.free 10
    have f2_11 := k2.free 11
    have l2 := k2.lt
    have e0 : 0 = R0 := by rw [← HR0.out]; unfold atx; (try rw [Hz1.out]); all_goals first | rfl | simp
    have e1 : 0 = R1 := by rw [← HR1.out]; unfold aty; (try rw [Hz1.out]); all_goals first | rfl | simp
    have e2 : 0 = R2 := by rw [← HR2.out]; unfold atw; (try rw [Hz1.out]); all_goals first | rfl | simp
    subst e0
    subst e1
    subst e2
    go_wp2
    clear c2_0 c2_1 c2_2 c2_3 c2_4 c2_5 c2_6 c2_7 c2_8 c2_9 c2_10 c2_11 f2_0 f2_1 f2_2 f2_3 f2_4 f2_5 f2_6 f2_7 f2_8 f2_9 f2_10 f2_11 l2
    first | refine post_world ?_
    intro V3 hV3
    have D1 := Lib.hid k1.lt
    have D2 := Lib.hid k2.lt
    have D3 := Lib.hid hb0.size
    clear k1
    have nk2 : Blk V3 (w.heap.size + 1) #[.int .u64 0, .int .u64 0, .int .u64 0, .int .u64 0, .int .u64 0, .int .u64 0, .int .u64 0, .int .u64 0, .int .u64 0, .int .u64 0, .int .u64 0, .int .u64 0] 67 := by rw [hV3]; exact (blk_full _ [.int .u64 0, .int .u64 0, .int .u64 0, .int .u64 0, .int .u64 0, .int .u64 0, .int .u64 0, .int .u64 0, .int .u64 0, .int .u64 0, .int .u64 0, .int .u64 0] k2 rfl)
    have nhb0 : Below w.heap.size w V3 := by rw [hV3]; exact (blw_setL hb0 (by omega) 0 [.int .u64 0, .int .u64 0, .int .u64 0, .int .u64 0, .int .u64 0, .int .u64 0, .int .u64 0, .int .u64 0, .int .u64 0, .int .u64 0, .int .u64 0, .int .u64 0])
    clear k2
    clear hb0
    clear hV3
    have k2 := nk2
    clear nk2
    have hb0 := nhb0
    clear nhb0
    have g2_0 : V3.cell? ⟨(w.heap.size + 1), 0, none⟩ = some (.int .u64 0) := k2.cell 0
    have g2_1 : V3.cell? ⟨(w.heap.size + 1), 1, none⟩ = some (.int .u64 0) := k2.cell 1
    have g2_2 : V3.cell? ⟨(w.heap.size + 1), 2, none⟩ = some (.int .u64 0) := k2.cell 2
    have g2_3 : V3.cell? ⟨(w.heap.size + 1), 3, none⟩ = some (.int .u64 0) := k2.cell 3
    have g2_4 : V3.cell? ⟨(w.heap.size + 1), 4, none⟩ = some (.int .u64 0) := k2.cell 4
    have g2_5 : V3.cell? ⟨(w.heap.size + 1), 5, none⟩ = some (.int .u64 0) := k2.cell 5
    have g2_6 : V3.cell? ⟨(w.heap.size + 1), 6, none⟩ = some (.int .u64 0) := k2.cell 6
    have g2_7 : V3.cell? ⟨(w.heap.size + 1), 7, none⟩ = some (.int .u64 0) := k2.cell 7
    have g2_8 : V3.cell? ⟨(w.heap.size + 1), 8, none⟩ = some (.int .u64 0) := k2.cell 8
    have g2_9 : V3.cell? ⟨(w.heap.size + 1), 9, none⟩ = some (.int .u64 0) := k2.cell 9
    have g2_10 : V3.cell? ⟨(w.heap.size + 1), 10, none⟩ = some (.int .u64 0) := k2.cell 10
    have g2_11 : V3.cell? ⟨(w.heap.size + 1), 11, none⟩ = some (.int .u64 0) := k2.cell 11
    clear k2
    simp [bodyPost, results, Try.results47, go_sem, g2_0, g2_1, g2_2, g2_3, g2_4, g2_5, g2_6, g2_7, g2_8, g2_9, g2_10, g2_11, wd0_0, wd1_0, wd2_0, wd3_0]
    first | exact hb0 | exact ⟨rfl, hb0⟩
  · go_wp2_with fail
    have c1_0 : U2.cell? ⟨w.heap.size, 0, none⟩ = some (.int .i64 x) := k1.cell 0
    have c1_1 : U2.cell? ⟨w.heap.size, 1, none⟩ = some (.int .i64 y) := k1.cell 1
    have l1 := k1.lt
    have Kk1 := Lib.hid k1
    clear k1
    have Kk2 := Lib.hid k2
    clear k2
    refine wp_region_up U2.heap.size 5 [(true, 0), (true, 1), (true, 3), (true, 4), (false, 2)] (by kernel_rfl) (by kernel_rfl) (fun _ _ d _ _ h => by cases d <;> exact h) ?_
    have hb : Below U2.heap.size U2 U2.drew := (Below.refl _ _).drew
    iterate 4
      refine wpS_takeL rfl rfl ?_
      go_big_quiet_step (rfl)
      refine wpQuiet_nil ?_
    refine wpS_doL rfl ?_
    intro K hK
    go_wp2_with ((go_at_call 62; (with_reducible refine (Of_v x x rfl _ix _).mono ?_); rintro e w2 ⟨rfl, hn⟩))
    replace hb := hb.trans (hn.mono hb.size)
    refine hK.out _ _ (up_iff.2 hb) ?_
    clear hK K
    clear hn
    refine wpS_nil ?_
    simp only [List.drop_succ_cons, List.drop_zero]
    first | refine calls_w ?_ | refine name_world ?_ | refine list_world ?_ | refine post_world ?_
    intro U4 hU4
    first | subst hU4 | (rw [← hU4] at hb; clear hU4)
    clear c1_0 c1_1 l1
    have k1 := Kk1.out.of hb
    clear Kk1
    have k2 := Kk2.out.of hb
    clear Kk2
    replace hb0 := hb0.trans (hb.mono hb0.size)
    clear hb
    go_wp2_with fail
    refine (Of_v y y rfl _iy _).mono ?_
    rintro e U5 ⟨rfl, hn⟩
    clear k1
    replace k2 := k2.of hn
    replace hb0 := hb0.trans (hn.mono hb0.size)
    clear hn
    go_wp2_with fail
    refine (Of_v 1 1 rfl (by unfold In64; omega) _).mono ?_
    rintro e U6 ⟨rfl, hn⟩
    replace k2 := k2.of hn
    replace hb0 := hb0.trans (hn.mono hb0.size)
    clear hn
    have c2_0 : U6.cell? ⟨(w.heap.size + 1), 0, none⟩ = some (.int .u64 0) := k2.cell 0
    have c2_1 : U6.cell? ⟨(w.heap.size + 1), 1, none⟩ = some (.int .u64 0) := k2.cell 1
    have c2_2 : U6.cell? ⟨(w.heap.size + 1), 2, none⟩ = some (.int .u64 0) := k2.cell 2
    have c2_3 : U6.cell? ⟨(w.heap.size + 1), 3, none⟩ = some (.int .u64 0) := k2.cell 3
    have c2_4 : U6.cell? ⟨(w.heap.size + 1), 4, none⟩ = some (.int .u64 0) := k2.cell 4
    have c2_5 : U6.cell? ⟨(w.heap.size + 1), 5, none⟩ = some (.int .u64 0) := k2.cell 5
    have c2_6 : U6.cell? ⟨(w.heap.size + 1), 6, none⟩ = some (.int .u64 0) := k2.cell 6
    have c2_7 : U6.cell? ⟨(w.heap.size + 1), 7, none⟩ = some (.int .u64 0) := k2.cell 7
    have c2_8 : U6.cell? ⟨(w.heap.size + 1), 8, none⟩ = some (.int .u64 0) := k2.cell 8
    have c2_9 : U6.cell? ⟨(w.heap.size + 1), 9, none⟩ = some (.int .u64 0) := k2.cell 9
    have c2_10 : U6.cell? ⟨(w.heap.size + 1), 10, none⟩ = some (.int .u64 0) := k2.cell 10
    have c2_11 : U6.cell? ⟨(w.heap.size + 1), 11, none⟩ = some (.int .u64 0) := k2.cell 11
    have f2_0 := k2.free 0
    have f2_1 := k2.free 1
    have f2_2 := k2.free 2
    have f2_3 := k2.free 3
    have f2_4 := k2.free 4
    have f2_5 := k2.free 5
    have f2_6 := k2.free 6
    have f2_7 := k2.free 7
    have f2_8 := k2.free 8
    have f2_9 := k2.free 9
    have f2_10 := k2.free 10
    have f2_11 := k2.free 11
    have l2 := k2.lt
    have e0 : x = R0 := by rw [← HR0.out]; unfold atx; (try rw [Hz1.out]); all_goals first | rfl | simp
    have e1 : y = R1 := by rw [← HR1.out]; unfold aty; (try rw [Hz1.out]); all_goals first | rfl | simp
    have e2 : 1 = R2 := by rw [← HR2.out]; unfold atw; (try rw [Hz1.out]); all_goals first | rfl | simp
    subst e0
    subst e1
    subst e2
    go_wp2
    clear c2_0 c2_1 c2_2 c2_3 c2_4 c2_5 c2_6 c2_7 c2_8 c2_9 c2_10 c2_11 f2_0 f2_1 f2_2 f2_3 f2_4 f2_5 f2_6 f2_7 f2_8 f2_9 f2_10 f2_11 l2
    first | refine post_world ?_
    intro V7 hV7
    have D4 := Lib.hid k2.lt
    have D5 := Lib.hid hb0.size
    have nk2 : Blk V7 (w.heap.size + 1) #[.int .u64 (wd0 x), .int .u64 (wd1 x), .int .u64 (wd2 x), .int .u64 (wd3 x), .int .u64 (wd0 y), .int .u64 (wd1 y), .int .u64 (wd2 y), .int .u64 (wd3 y), .int .u64 (wd0 1), .int .u64 (wd1 1), .int .u64 (wd2 1), .int .u64 (wd3 1)] 67 := by rw [hV7]; exact (blk_full _ [.int .u64 (wd0 x), .int .u64 (wd1 x), .int .u64 (wd2 x), .int .u64 (wd3 x), .int .u64 (wd0 y), .int .u64 (wd1 y), .int .u64 (wd2 y), .int .u64 (wd3 y), .int .u64 (wd0 1), .int .u64 (wd1 1), .int .u64 (wd2 1), .int .u64 (wd3 1)] k2 rfl)
    have nhb0 : Below w.heap.size w V7 := by rw [hV7]; exact (blw_setL hb0 (by omega) 0 [.int .u64 (wd0 x), .int .u64 (wd1 x), .int .u64 (wd2 x), .int .u64 (wd3 x), .int .u64 (wd0 y), .int .u64 (wd1 y), .int .u64 (wd2 y), .int .u64 (wd3 y), .int .u64 (wd0 1), .int .u64 (wd1 1), .int .u64 (wd2 1), .int .u64 (wd3 1)])
    clear k2
    clear hb0
    clear hV7
    have k2 := nk2
    clear nk2
    have hb0 := nhb0
    clear nhb0
    have g2_0 : V7.cell? ⟨(w.heap.size + 1), 0, none⟩ = some (.int .u64 (wd0 x)) := k2.cell 0
    have g2_1 : V7.cell? ⟨(w.heap.size + 1), 1, none⟩ = some (.int .u64 (wd1 x)) := k2.cell 1
    have g2_2 : V7.cell? ⟨(w.heap.size + 1), 2, none⟩ = some (.int .u64 (wd2 x)) := k2.cell 2
    have g2_3 : V7.cell? ⟨(w.heap.size + 1), 3, none⟩ = some (.int .u64 (wd3 x)) := k2.cell 3
    have g2_4 : V7.cell? ⟨(w.heap.size + 1), 4, none⟩ = some (.int .u64 (wd0 y)) := k2.cell 4
    have g2_5 : V7.cell? ⟨(w.heap.size + 1), 5, none⟩ = some (.int .u64 (wd1 y)) := k2.cell 5
    have g2_6 : V7.cell? ⟨(w.heap.size + 1), 6, none⟩ = some (.int .u64 (wd2 y)) := k2.cell 6
    have g2_7 : V7.cell? ⟨(w.heap.size + 1), 7, none⟩ = some (.int .u64 (wd3 y)) := k2.cell 7
    have g2_8 : V7.cell? ⟨(w.heap.size + 1), 8, none⟩ = some (.int .u64 (wd0 1)) := k2.cell 8
    have g2_9 : V7.cell? ⟨(w.heap.size + 1), 9, none⟩ = some (.int .u64 (wd1 1)) := k2.cell 9
    have g2_10 : V7.cell? ⟨(w.heap.size + 1), 10, none⟩ = some (.int .u64 (wd2 1)) := k2.cell 10
    have g2_11 : V7.cell? ⟨(w.heap.size + 1), 11, none⟩ = some (.int .u64 (wd3 1)) := k2.cell 11
    clear k2
    simp [bodyPost, results, Try.results47, go_sem, g2_0, g2_1, g2_2, g2_3, g2_4, g2_5, g2_6, g2_7, g2_8, g2_9, g2_10, g2_11]
    first | exact hb0 | exact ⟨rfl, hb0⟩

theorem alCr1_0 : AllocRuns Try.prog 35 #[.int .u64 0, .int .u64 0, .int .u64 0, .int .u64 0] := fun w => by kernel_rfl

def spR (x : Int) (y : Int) (v : Int) : Bool := (bif decide ((v.sign) ≤ 0) then false else (bif decide (0 < (cmpI v (mulv 35184372088832 35184372088832))) then false else (bif decide (0 ≤ (cmpI x (subv 0 (mulv v 2199023255552)))) then (bif decide ((cmpI x (mulv v 2199023255552)) ≤ 0) then (bif decide (0 ≤ (cmpI y (subv 0 (mulv v 2199023255552)))) then decide ((cmpI y (mulv v 2199023255552)) ≤ 0) else false) else false) else false)))

set_option maxRecDepth 100000 in
set_option maxHeartbeats 4000000 in

theorem SpRight_is (x : Int) (y : Int) (v : Int)  (R0 : Bool) (hR0 : spR x y v = R0) (_ix : InI x) (_iy : InI y) (_iv : InI v)  (w : World)  :
    Calls Try.prog 59 #[.agg #[.int .u64 (wd0 x), .int .u64 (wd1 x), .int .u64 (wd2 x), .int .u64 (wd3 x), .int .u64 (wd0 y), .int .u64 (wd1 y), .int .u64 (wd2 y), .int .u64 (wd3 y), .int .u64 (wd0 v), .int .u64 (wd1 v), .int .u64 (wd2 v), .int .u64 (wd3 v)]] w fun e w' => e = .returned (.bool R0) ∧ Below w.heap.size w w' := by

  have HR0 := Lib.hid hR0
  clear hR0
  go_enter Try.func59, Try.ntmps59
  go_wp2_with fail
  first | refine calls_w ?_ | refine name_world ?_ | refine list_world ?_ | refine post_world ?_
  intro V1 hV1
  have hn : Below w.heap.size w V1 := by rw [hV1]; exact below_a1 _ _
  have nhb0 := hn
  have k1 : Blk V1 w.heap.size #[.int .u64 (wd0 x), .int .u64 (wd1 x), .int .u64 (wd2 x), .int .u64 (wd3 x), .int .u64 (wd0 y), .int .u64 (wd1 y), .int .u64 (wd2 y), .int .u64 (wd3 y), .int .u64 (wd0 v), .int .u64 (wd1 v), .int .u64 (wd2 v), .int .u64 (wd3 v)] 67 := by rw [hV1]; exact (Blk.new _ _ _)
  clear hV1
  have hb0 := nhb0
  clear nhb0
  obtain ⟨r1, hr1⟩ : ∃ o_o : Int, v.sign = o_o := ⟨_, rfl⟩
  have Hr1 := Lib.hid hr1
  clear hr1
  obtain ⟨z2, hz2⟩ : ∃ o_o : Bool, decide (r1 ≤ 0) = o_o := ⟨_, rfl⟩
  cases z2
  · obtain ⟨r3, hr3⟩ : ∃ o_o : Int, mulv 35184372088832 35184372088832 = o_o := ⟨_, rfl⟩
    have Hr3 := Lib.hid hr3
    clear hr3
    have c1_8 : V1.cell? ⟨w.heap.size, 8, none⟩ = some (.int .u64 (wd0 v)) := k1.cell 8
    have c1_9 : V1.cell? ⟨w.heap.size, 9, none⟩ = some (.int .u64 (wd1 v)) := k1.cell 9
    have c1_10 : V1.cell? ⟨w.heap.size, 10, none⟩ = some (.int .u64 (wd2 v)) := k1.cell 10
    have c1_11 : V1.cell? ⟨w.heap.size, 11, none⟩ = some (.int .u64 (wd3 v)) := k1.cell 11
    have l1 := k1.lt
    have Kk1 := Lib.hid k1
    clear k1
    refine wp_region_up V1.heap.size 10 [(true, 0), (true, 1), (false, 2), (true, 3), (true, 4), (true, 5), (true, 6), (false, 7), (false, 8), (false, 9)] (by kernel_rfl) (by kernel_rfl) (fun _ _ d _ _ h => by cases d <;> exact h) ?_
    have hb : Below V1.heap.size V1 V1.drew := (Below.refl _ _).drew
    iterate 2
      refine wpS_takeL rfl rfl ?_
      go_big_quiet_step (rfl)
      refine wpQuiet_nil ?_
    refine wpS_doL rfl ?_
    intro K hK
    go_wp2_with ((go_at_call 22; (with_reducible refine (Sign_v v r1 Hr1.out _iv _).mono ?_); rintro e w2 ⟨rfl, hn⟩))
    replace hb := hb.trans (hn.mono hb.size)
    refine hK.out _ _ (up_iff.2 hb) ?_
    clear hK K
    clear hn
    iterate 4
      refine wpS_takeL rfl rfl ?_
      go_big_quiet_step (rfl)
      refine wpQuiet_nil ?_
    refine wpS_doL rfl ?_
    intro K hK
    go_wp2_with ((go_at_call 62; (with_reducible refine (Of_v 35184372088832 35184372088832 rfl (by unfold In64; omega) _).mono ?_); rintro e w2 ⟨rfl, hn⟩))
    try replace hb := hb.trans (hn.mono hb.size)
    refine hK.out _ _ (up_iff.2 hb) ?_
    clear hK K
    try clear hn
    refine wpS_doL rfl ?_
    intro K hK
    go_wp2_with ((go_at_call 62; (with_reducible refine (Of_v 35184372088832 35184372088832 rfl (by unfold In64; omega) _).mono ?_); rintro e w2 ⟨rfl, hn⟩))
    try replace hb := hb.trans (hn.mono hb.size)
    refine hK.out _ _ (up_iff.2 hb) ?_
    clear hK K
    try clear hn
    refine wpS_doL rfl ?_
    intro K hK
    go_wp2_with ((go_at_call 106; (with_reducible refine (crtimes_is 35184372088832 35184372088832 r3 Hr3.out (by unfold InI b255; omega) (by unfold InI b255; omega)  _).mono ?_); rintro e w2 ⟨rfl, hn⟩))
    try replace hb := hb.trans (hn.mono hb.size)
    refine hK.out _ _ (up_iff.2 hb) ?_
    clear hK K
    try clear hn
    refine wpS_nil ?_
    simp only [List.drop_succ_cons, List.drop_zero]
    first | refine calls_w ?_ | refine name_world ?_ | refine list_world ?_ | refine post_world ?_
    intro U2 hU2
    first | subst hU2 | (rw [← hU2] at hb; clear hU2)
    clear c1_8 c1_9 c1_10 c1_11 l1
    have k1 := Kk1.out.of hb
    clear Kk1
    replace hb0 := hb0.trans (hb.mono hb0.size)
    clear hb
    go_wp2_with fail
    obtain ⟨r4, hr4⟩ : ∃ o_o : Int, cmpI v r3 = o_o := ⟨_, rfl⟩
    have Hr4 := Lib.hid hr4
    clear hr4
    refine (Cmp_v v r3 r4 Hr4.out _iv (Hr3.out ▸ mulv_in 35184372088832 35184372088832) _).mono ?_
    rintro e U3 ⟨rfl, hn⟩
    replace k1 := k1.of hn
    replace hb0 := hb0.trans (hn.mono hb0.size)
    clear hn
    obtain ⟨z5, hz5⟩ : ∃ o_o : Bool, decide (0 < r4) = o_o := ⟨_, rfl⟩
    cases z5
    · go_wp2_with fail
      obtain ⟨r6, hr6⟩ : ∃ o_o : Int, mulv v 2199023255552 = o_o := ⟨_, rfl⟩
      have Hr6 := Lib.hid hr6
      clear hr6
      have c1_8 : U3.cell? ⟨w.heap.size, 8, none⟩ = some (.int .u64 (wd0 v)) := k1.cell 8
      have c1_9 : U3.cell? ⟨w.heap.size, 9, none⟩ = some (.int .u64 (wd1 v)) := k1.cell 9
      have c1_10 : U3.cell? ⟨w.heap.size, 10, none⟩ = some (.int .u64 (wd2 v)) := k1.cell 10
      have c1_11 : U3.cell? ⟨w.heap.size, 11, none⟩ = some (.int .u64 (wd3 v)) := k1.cell 11
      have l1 := k1.lt
      have Kk1 := Lib.hid k1
      clear k1
      refine wp_region_float1 5 4 [(true, 0), (true, 1), (false, 2), (false, 3)] (by kernel_rfl) (by kernel_rfl) (fun _ _ d _ _ => by cases d <;> exact Iff.rfl) rfl rfl rfl alCr1_0 ?_
      have hb : Below U3.heap.size U3 U3.drew := (Below.refl _ _).drew
      iterate 2
        refine wpF_take rfl rfl ?_
        go_big_quiet_step (rfl)
        refine wpQuiet_nil ?_
      refine wpF_do rfl ?_
      intro w1 hg K hK
      replace hb := hb.trans (hg.mono hb.size)
      clear hg
      go_wp2_with ((go_at_call 62; (with_reducible refine (Of_v 2199023255552 2199023255552 rfl (by unfold In64; omega) _).mono ?_); rintro e w2 ⟨rfl, hn⟩))
      refine hK.out _ _ hn ?_
      replace hb := hb.trans (hn.mono hb.size)
      clear hK K
      clear hn
      refine wpF_do rfl ?_
      intro w1 hg K hK
      replace hb := hb.trans (hg.mono hb.size)
      clear hg
      go_wp2_with ((go_at_call 106; (with_reducible refine (crtimes_is v 2199023255552 r6 Hr6.out _iv (by unfold InI b255; omega)  _).mono ?_); rintro e w2 ⟨rfl, hn⟩))
      refine hK.out _ _ hn ?_
      replace hb := hb.trans (hn.mono hb.size)
      clear hK K
      clear hn
      refine wpF_nil ?_
      clear hb
      intro w1 hg hb b1 lb1 nb1
      clear hg
      simp only [Act.put, ptrTo, List.setIfInBounds_toArray, List.set_cons_succ, List.set_cons_zero]
      simp only [List.drop_succ_cons, List.drop_zero]
      clear c1_8 c1_9 c1_10 c1_11 l1
      first | refine calls_w ?_ | refine name_world ?_ | refine list_world ?_ | refine post_world ?_
      intro U4 hU4
      subst hU4
      have D1 := Lib.hid Kk1.out.lt
      have D2 := Lib.hid hb0.size
      have k2 : Blk U4 b1 #[.int .u64 0, .int .u64 0, .int .u64 0, .int .u64 0] 35 := nb1
      have k1 := Kk1.out.of hb
      clear Kk1
      have D3 := Lib.hid lb1
      clear nb1 lb1
      replace hb0 := hb0.trans (hb.mono hb0.size)
      clear hb
      generalize b1 = q2 at *
      have c2_0 : U4.cell? ⟨q2, 0, none⟩ = some (.int .u64 0) := k2.cell 0
      have c2_1 : U4.cell? ⟨q2, 1, none⟩ = some (.int .u64 0) := k2.cell 1
      have c2_2 : U4.cell? ⟨q2, 2, none⟩ = some (.int .u64 0) := k2.cell 2
      have c2_3 : U4.cell? ⟨q2, 3, none⟩ = some (.int .u64 0) := k2.cell 3
      have f2_0 := k2.free 0
      have f2_1 := k2.free 1
      have f2_2 := k2.free 2
      have f2_3 := k2.free 3
      have l2 := k2.lt
      go_wp2_with fail
      clear c2_0 c2_1 c2_2 c2_3 f2_0 f2_1 f2_2 f2_3 l2
      first | refine calls_w ?_ | refine name_world ?_ | refine list_world ?_ | refine post_world ?_
      intro V5 hV5
      have D4 := Lib.hid k1.lt
      have D5 := Lib.hid k2.lt
      have D6 := Lib.hid hb0.size
      have nk1 : Blk V5 w.heap.size #[.int .u64 (wd0 x), .int .u64 (wd1 x), .int .u64 (wd2 x), .int .u64 (wd3 x), .int .u64 (wd0 y), .int .u64 (wd1 y), .int .u64 (wd2 y), .int .u64 (wd3 y), .int .u64 (wd0 v), .int .u64 (wd1 v), .int .u64 (wd2 v), .int .u64 (wd3 v)] 67 := by rw [hV5]; exact (blk_setL k1 (by have := D1.out; have := D3.out; omega) 0 [.int .u64 (wd0 r6), .int .u64 (wd1 r6), .int .u64 (wd2 r6), .int .u64 (wd3 r6)])
      have nk2 : Blk V5 q2 #[.int .u64 (wd0 r6), .int .u64 (wd1 r6), .int .u64 (wd2 r6), .int .u64 (wd3 r6)] 35 := by rw [hV5]; exact (blk_full _ [.int .u64 (wd0 r6), .int .u64 (wd1 r6), .int .u64 (wd2 r6), .int .u64 (wd3 r6)] k2 rfl)
      have nhb0 : Below w.heap.size w V5 := by rw [hV5]; exact (blw_setL hb0 (by have := D2.out; have := D3.out; omega) 0 [.int .u64 (wd0 r6), .int .u64 (wd1 r6), .int .u64 (wd2 r6), .int .u64 (wd3 r6)])
      clear k1 k2
      clear hb0
      clear hV5
      have k1 := nk1
      clear nk1
      have k2 := nk2
      clear nk2
      have hb0 := nhb0
      clear nhb0
      obtain ⟨r7, hr7⟩ : ∃ o_o : Int, subv 0 r6 = o_o := ⟨_, rfl⟩
      have Hr7 := Lib.hid hr7
      clear hr7
      refine (args_eq (a' := #[.agg #[.int .u64 0, .int .u64 0, .int .u64 0, .int .u64 0], .agg #[.int .u64 (wd0 r6), .int .u64 (wd1 r6), .int .u64 (wd2 r6), .int .u64 (wd3 r6)]]) (crless_is 0 r6 r7 Hr7.out (by unfold InI b255; omega) (Hr6.out ▸ mulv_in v 2199023255552)  _) (by kernel_rfl)).mono ?_
      rintro e U6 ⟨rfl, hn⟩
      replace k1 := k1.of hn
      replace k2 := k2.of hn
      replace hb0 := hb0.trans (hn.mono hb0.size)
      clear hn
      have c1_0 : U6.cell? ⟨w.heap.size, 0, none⟩ = some (.int .u64 (wd0 x)) := k1.cell 0
      have c1_1 : U6.cell? ⟨w.heap.size, 1, none⟩ = some (.int .u64 (wd1 x)) := k1.cell 1
      have c1_2 : U6.cell? ⟨w.heap.size, 2, none⟩ = some (.int .u64 (wd2 x)) := k1.cell 2
      have c1_3 : U6.cell? ⟨w.heap.size, 3, none⟩ = some (.int .u64 (wd3 x)) := k1.cell 3
      have l1 := k1.lt
      go_wp2_with fail
      clear c1_0 c1_1 c1_2 c1_3 l1
      first | refine calls_w ?_ | refine name_world ?_ | refine list_world ?_ | refine post_world ?_
      intro V7 hV7
      have D7 := Lib.hid k1.lt
      have D8 := Lib.hid k2.lt
      have D9 := Lib.hid hb0.size
      have hn : Below U6.heap.size U6 V7 := by rw [hV7]; exact below_a1 _ _
      have nk1 := k1.of hn
      have nk2 := k2.of hn
      have nhb0 := hb0.trans (hn.mono hb0.size)
      clear hn
      have k3 : Blk V7 U6.heap.size #[.int .u64 (wd0 r7), .int .u64 (wd1 r7), .int .u64 (wd2 r7), .int .u64 (wd3 r7)] 35 := by rw [hV7]; exact (Blk.new _ _ _)
      clear k1 k2
      clear hb0
      clear hV7
      have k1 := nk1
      clear nk1
      have k2 := nk2
      clear nk2
      have hb0 := nhb0
      clear nhb0
      obtain ⟨r8, hr8⟩ : ∃ o_o : Int, cmpI x r7 = o_o := ⟨_, rfl⟩
      have Hr8 := Lib.hid hr8
      clear hr8
      refine (Cmp_v x r7 r8 Hr8.out _ix (Hr7.out ▸ subv_in 0 r6) _).mono ?_
      rintro e U8 ⟨rfl, hn⟩
      replace k1 := k1.of hn
      replace k2 := k2.of hn
      replace k3 := k3.of hn
      replace hb0 := hb0.trans (hn.mono hb0.size)
      clear hn
      obtain ⟨z9, hz9⟩ : ∃ o_o : Bool, decide (0 ≤ r8) = o_o := ⟨_, rfl⟩
      cases z9
      · have e0 : false = R0 := by rw [← HR0.out]; unfold spR; (try rw [Hr1.out]); (try rw [hz2]); (try rw [Hr3.out]); (try rw [Hr4.out]); (try rw [hz5]); (try rw [Hr6.out]); (try rw [Hr7.out]); (try rw [Hr8.out]); (try rw [hz9]); all_goals first | rfl | simp
        subst e0
        go_wp2
        first | go_ret | go_ret2
        exact ⟨by first | rfl | simp, hb0⟩
      · have c1_0 : U8.cell? ⟨w.heap.size, 0, none⟩ = some (.int .u64 (wd0 x)) := k1.cell 0
        have c1_1 : U8.cell? ⟨w.heap.size, 1, none⟩ = some (.int .u64 (wd1 x)) := k1.cell 1
        have c1_2 : U8.cell? ⟨w.heap.size, 2, none⟩ = some (.int .u64 (wd2 x)) := k1.cell 2
        have c1_3 : U8.cell? ⟨w.heap.size, 3, none⟩ = some (.int .u64 (wd3 x)) := k1.cell 3
        have l1 := k1.lt
        have c2_0 : U8.cell? ⟨q2, 0, none⟩ = some (.int .u64 (wd0 r6)) := k2.cell 0
        have c2_1 : U8.cell? ⟨q2, 1, none⟩ = some (.int .u64 (wd1 r6)) := k2.cell 1
        have c2_2 : U8.cell? ⟨q2, 2, none⟩ = some (.int .u64 (wd2 r6)) := k2.cell 2
        have c2_3 : U8.cell? ⟨q2, 3, none⟩ = some (.int .u64 (wd3 r6)) := k2.cell 3
        have l2 := k2.lt
        go_wp2_with fail
        clear c1_0 c1_1 c1_2 c1_3 l1 c2_0 c2_1 c2_2 c2_3 l2
        obtain ⟨r10, hr10⟩ : ∃ o_o : Int, cmpI x r6 = o_o := ⟨_, rfl⟩
        have Hr10 := Lib.hid hr10
        clear hr10
        refine (Cmp_v x r6 r10 Hr10.out _ix (Hr6.out ▸ mulv_in v 2199023255552) _).mono ?_
        rintro e U9 ⟨rfl, hn⟩
        replace k1 := k1.of hn
        replace k2 := k2.of hn
        replace k3 := k3.of hn
        replace hb0 := hb0.trans (hn.mono hb0.size)
        clear hn
        obtain ⟨z11, hz11⟩ : ∃ o_o : Bool, decide (r10 ≤ 0) = o_o := ⟨_, rfl⟩
        cases z11
        · have e0 : false = R0 := by rw [← HR0.out]; unfold spR; (try rw [Hr1.out]); (try rw [hz2]); (try rw [Hr3.out]); (try rw [Hr4.out]); (try rw [hz5]); (try rw [Hr6.out]); (try rw [Hr7.out]); (try rw [Hr8.out]); (try rw [hz9]); (try rw [Hr10.out]); (try rw [hz11]); all_goals first | rfl | simp
          subst e0
          go_wp2
          first | go_ret | go_ret2
          exact ⟨by first | rfl | simp, hb0⟩
        · have c1_4 : U9.cell? ⟨w.heap.size, 4, none⟩ = some (.int .u64 (wd0 y)) := k1.cell 4
          have c1_5 : U9.cell? ⟨w.heap.size, 5, none⟩ = some (.int .u64 (wd1 y)) := k1.cell 5
          have c1_6 : U9.cell? ⟨w.heap.size, 6, none⟩ = some (.int .u64 (wd2 y)) := k1.cell 6
          have c1_7 : U9.cell? ⟨w.heap.size, 7, none⟩ = some (.int .u64 (wd3 y)) := k1.cell 7
          have l1 := k1.lt
          have c3_0 : U9.cell? ⟨U6.heap.size, 0, none⟩ = some (.int .u64 (wd0 r7)) := k3.cell 0
          have c3_1 : U9.cell? ⟨U6.heap.size, 1, none⟩ = some (.int .u64 (wd1 r7)) := k3.cell 1
          have c3_2 : U9.cell? ⟨U6.heap.size, 2, none⟩ = some (.int .u64 (wd2 r7)) := k3.cell 2
          have c3_3 : U9.cell? ⟨U6.heap.size, 3, none⟩ = some (.int .u64 (wd3 r7)) := k3.cell 3
          have l3 := k3.lt
          go_wp2_with fail
          clear c1_4 c1_5 c1_6 c1_7 l1 c3_0 c3_1 c3_2 c3_3 l3
          obtain ⟨r12, hr12⟩ : ∃ o_o : Int, cmpI y r7 = o_o := ⟨_, rfl⟩
          have Hr12 := Lib.hid hr12
          clear hr12
          refine (Cmp_v y r7 r12 Hr12.out _iy (Hr7.out ▸ subv_in 0 r6) _).mono ?_
          rintro e U10 ⟨rfl, hn⟩
          clear k3
          replace k1 := k1.of hn
          replace k2 := k2.of hn
          replace hb0 := hb0.trans (hn.mono hb0.size)
          clear hn
          obtain ⟨z13, hz13⟩ : ∃ o_o : Bool, decide (0 ≤ r12) = o_o := ⟨_, rfl⟩
          cases z13
          · have e0 : false = R0 := by rw [← HR0.out]; unfold spR; (try rw [Hr1.out]); (try rw [hz2]); (try rw [Hr3.out]); (try rw [Hr4.out]); (try rw [hz5]); (try rw [Hr6.out]); (try rw [Hr7.out]); (try rw [Hr8.out]); (try rw [hz9]); (try rw [Hr10.out]); (try rw [hz11]); (try rw [Hr12.out]); (try rw [hz13]); all_goals first | rfl | simp
            subst e0
            go_wp2
            first | go_ret | go_ret2
            exact ⟨by first | rfl | simp, hb0⟩
          · have c1_4 : U10.cell? ⟨w.heap.size, 4, none⟩ = some (.int .u64 (wd0 y)) := k1.cell 4
            have c1_5 : U10.cell? ⟨w.heap.size, 5, none⟩ = some (.int .u64 (wd1 y)) := k1.cell 5
            have c1_6 : U10.cell? ⟨w.heap.size, 6, none⟩ = some (.int .u64 (wd2 y)) := k1.cell 6
            have c1_7 : U10.cell? ⟨w.heap.size, 7, none⟩ = some (.int .u64 (wd3 y)) := k1.cell 7
            have l1 := k1.lt
            have c2_0 : U10.cell? ⟨q2, 0, none⟩ = some (.int .u64 (wd0 r6)) := k2.cell 0
            have c2_1 : U10.cell? ⟨q2, 1, none⟩ = some (.int .u64 (wd1 r6)) := k2.cell 1
            have c2_2 : U10.cell? ⟨q2, 2, none⟩ = some (.int .u64 (wd2 r6)) := k2.cell 2
            have c2_3 : U10.cell? ⟨q2, 3, none⟩ = some (.int .u64 (wd3 r6)) := k2.cell 3
            have l2 := k2.lt
            go_wp2_with fail
            clear c1_4 c1_5 c1_6 c1_7 l1 c2_0 c2_1 c2_2 c2_3 l2
            obtain ⟨r14, hr14⟩ : ∃ o_o : Int, cmpI y r6 = o_o := ⟨_, rfl⟩
            have Hr14 := Lib.hid hr14
            clear hr14
            refine (Cmp_v y r6 r14 Hr14.out _iy (Hr6.out ▸ mulv_in v 2199023255552) _).mono ?_
            rintro e U11 ⟨rfl, hn⟩
            clear k1 k2
            replace hb0 := hb0.trans (hn.mono hb0.size)
            clear hn
            have e0 : decide (r14 ≤ 0) = R0 := by rw [← HR0.out]; unfold spR; (try rw [Hr1.out]); (try rw [hz2]); (try rw [Hr3.out]); (try rw [Hr4.out]); (try rw [hz5]); (try rw [Hr6.out]); (try rw [Hr7.out]); (try rw [Hr8.out]); (try rw [hz9]); (try rw [Hr10.out]); (try rw [hz11]); (try rw [Hr12.out]); (try rw [hz13]); (try rw [Hr14.out]); all_goals first | rfl | simp
            subst e0
            go_wp2
            first | go_ret | go_ret2
            exact ⟨by first | rfl | simp, hb0⟩
    · have e0 : false = R0 := by rw [← HR0.out]; unfold spR; (try rw [Hr1.out]); (try rw [hz2]); (try rw [Hr3.out]); (try rw [Hr4.out]); (try rw [hz5]); all_goals first | rfl | simp
      subst e0
      go_wp2
      first | go_ret | go_ret2
      exact ⟨by first | rfl | simp, hb0⟩
  · have c1_8 : V1.cell? ⟨w.heap.size, 8, none⟩ = some (.int .u64 (wd0 v)) := k1.cell 8
    have c1_9 : V1.cell? ⟨w.heap.size, 9, none⟩ = some (.int .u64 (wd1 v)) := k1.cell 9
    have c1_10 : V1.cell? ⟨w.heap.size, 10, none⟩ = some (.int .u64 (wd2 v)) := k1.cell 10
    have c1_11 : V1.cell? ⟨w.heap.size, 11, none⟩ = some (.int .u64 (wd3 v)) := k1.cell 11
    have l1 := k1.lt
    have Kk1 := Lib.hid k1
    clear k1
    refine wp_region_up V1.heap.size 10 [(true, 0), (true, 1), (false, 2), (true, 3), (true, 4), (true, 5), (true, 6), (false, 7), (false, 8), (false, 9)] (by kernel_rfl) (by kernel_rfl) (fun _ _ d _ _ h => by cases d <;> exact h) ?_
    have hb : Below V1.heap.size V1 V1.drew := (Below.refl _ _).drew
    iterate 2
      refine wpS_takeL rfl rfl ?_
      go_big_quiet_step (rfl)
      refine wpQuiet_nil ?_
    refine wpS_doL rfl ?_
    intro K hK
    go_wp2_with ((go_at_call 22; (with_reducible refine (Sign_v v r1 Hr1.out _iv _).mono ?_); rintro e w2 ⟨rfl, hn⟩))
    replace hb := hb.trans (hn.mono hb.size)
    refine hK.out _ _ (up_iff.2 hb) ?_
    clear hK K
    clear hn
    iterate 4
      refine wpS_takeL rfl rfl ?_
      go_big_quiet_step (rfl)
      refine wpQuiet_nil ?_
    refine wpS_doL rfl ?_
    intro K hK
    go_wp2_with ((go_at_call 22; (with_reducible refine (Sign_v v r1 Hr1.out _iv _).mono ?_); rintro e w2 ⟨rfl, hn⟩))
    try replace hb := hb.trans (hn.mono hb.size)
    refine hK.out _ _ (up_iff.2 hb) ?_
    clear hK K
    try clear hn
    refine wpS_doL rfl ?_
    intro K hK
    go_wp2_with ((go_at_call 22; (with_reducible refine (Sign_v v r1 Hr1.out _iv _).mono ?_); rintro e w2 ⟨rfl, hn⟩))
    try replace hb := hb.trans (hn.mono hb.size)
    refine hK.out _ _ (up_iff.2 hb) ?_
    clear hK K
    try clear hn
    refine wpS_doL rfl ?_
    intro K hK
    go_wp2_with ((go_at_call 22; (with_reducible refine (Sign_v v r1 Hr1.out _iv _).mono ?_); rintro e w2 ⟨rfl, hn⟩))
    try replace hb := hb.trans (hn.mono hb.size)
    refine hK.out _ _ (up_iff.2 hb) ?_
    clear hK K
    try clear hn
    refine wpS_nil ?_
    simp only [List.drop_succ_cons, List.drop_zero]
    first | refine calls_w ?_ | refine name_world ?_ | refine list_world ?_ | refine post_world ?_
    intro U12 hU12
    first | subst hU12 | (rw [← hU12] at hb; clear hU12)
    clear c1_8 c1_9 c1_10 c1_11 l1
    have k1 := Kk1.out.of hb
    clear Kk1
    replace hb0 := hb0.trans (hb.mono hb0.size)
    clear hb
    have e0 : false = R0 := by rw [← HR0.out]; unfold spR; (try rw [Hr1.out]); (try rw [hz2]); all_goals first | rfl | simp
    subst e0
    go_wp2
    first | go_ret | go_ret2
    exact ⟨by first | rfl | simp, hb0⟩

end Go.Proofs.Ytlcbomjdbdgbmaa

namespace Go.Proofs.Ytlcbomjdbdgbmaa
open Go.RowKit

def pxS (n : Int) : Bool := (bif decide (1 ≤ n) then decide (n ≤ 1048576) else false)

set_option maxRecDepth 100000 in
set_option maxHeartbeats 4000000 in

theorem pxSize_is (n : Int)  (R0 : Bool) (hR0 : pxS n = R0) (_in : In64 n)  (w : World)  :
    Calls Try.prog 43 #[.int .i64 n] w fun e w' => e = .returned (.bool R0) ∧ Below w.heap.size w w' := by

  have HR0 := Lib.hid hR0
  clear hR0
  obtain ⟨z1, hz1⟩ : ∃ o_o : Bool, decide (1 ≤ n) = o_o := ⟨_, rfl⟩
  cases z1
  · go_enter Try.func43, Try.ntmps43
    have e0 : false = R0 := by rw [← HR0.out]; unfold pxS; (try rw [hz1]); all_goals first | rfl | simp
    subst e0
    go_wp2
    first | go_ret | go_ret2
    exact ⟨by first | rfl | simp, Below.refl _ _⟩
  · go_enter Try.func43, Try.ntmps43
    have e0 : decide (n ≤ 1048576) = R0 := by rw [← HR0.out]; unfold pxS; (try rw [hz1]); all_goals first | rfl | simp
    subst e0
    go_wp2
    first | go_ret | go_ret2
    exact ⟨by first | rfl | simp, Below.refl _ _⟩

set_option maxRecDepth 100000 in
set_option maxHeartbeats 4000000 in

theorem pxtimes_is (x : Int) (y : Int)  (R0 : Int) (hR0 : mulv x y = R0) (_ix : InI x) (_iy : InI y)  (w : World)  :
    Calls Try.prog 130 #[.agg #[.int .u64 (wd0 x), .int .u64 (wd1 x), .int .u64 (wd2 x), .int .u64 (wd3 x)], .agg #[.int .u64 (wd0 y), .int .u64 (wd1 y), .int .u64 (wd2 y), .int .u64 (wd3 y)]] w fun e w' => e = .returned (.agg #[.int .u64 (wd0 R0), .int .u64 (wd1 R0), .int .u64 (wd2 R0), .int .u64 (wd3 R0)]) ∧ Below w.heap.size w w' := by

  have HR0 := Lib.hid hR0
  clear hR0
  go_enter Try.func130, Try.ntmps130
  go_wp2_with fail
  first | refine calls_w ?_ | refine name_world ?_ | refine list_world ?_ | refine post_world ?_
  intro V1 hV1
  have hn : Below w.heap.size w V1 := by rw [hV1]; exact below_a3 _ _ _ _
  have nhb0 := hn
  have k1 : Blk V1 w.heap.size #[.int .u64 (wd0 x), .int .u64 (wd1 x), .int .u64 (wd2 x), .int .u64 (wd3 x)] 35 := by rw [hV1]; exact (((Blk.new _ _ _).alloc _).alloc _)
  have k2 : Blk V1 (w.heap.size + 1) #[.int .u64 (wd0 y), .int .u64 (wd1 y), .int .u64 (wd2 y), .int .u64 (wd3 y)] 35 := by rw [hV1]; exact ((Blk.new1 _ _ _ _).alloc _)
  have k3 : Blk V1 (w.heap.size + 1 + 1) #[.int .u64 0, .int .u64 0, .int .u64 0, .int .u64 0] 35 := by rw [hV1]; exact (Blk.new2 _ _ _ _ _)
  clear hV1
  have hb0 := nhb0
  clear nhb0
  obtain ⟨r1, hr1⟩ : ∃ o_o : Int, mulv x y = o_o := ⟨_, rfl⟩
  have Hr1 := Lib.hid hr1
  clear hr1
  obtain ⟨z2, hz2⟩ : ∃ o_o : Bool, okI (x * y) = o_o := ⟨_, rfl⟩
  have Hz2 := Lib.hid hz2
  clear hz2
  refine (Mul_v x y r1 z2 Hr1.out Hz2.out _ix _iy _).mono ?_
  rintro e U2 ⟨rfl, hn⟩
  clear k1 k2
  replace k3 := k3.of hn
  replace hb0 := hb0.trans (hn.mono hb0.size)
  clear hn
  have c3_0 : U2.cell? ⟨(w.heap.size + 1 + 1), 0, none⟩ = some (.int .u64 0) := k3.cell 0
  have c3_1 : U2.cell? ⟨(w.heap.size + 1 + 1), 1, none⟩ = some (.int .u64 0) := k3.cell 1
  have c3_2 : U2.cell? ⟨(w.heap.size + 1 + 1), 2, none⟩ = some (.int .u64 0) := k3.cell 2
  have c3_3 : U2.cell? ⟨(w.heap.size + 1 + 1), 3, none⟩ = some (.int .u64 0) := k3.cell 3
  have f3_0 := k3.free 0
  have f3_1 := k3.free 1
  have f3_2 := k3.free 2
  have f3_3 := k3.free 3
  have l3 := k3.lt
  have l3_0 : w.heap.size < U2.heap.size := by have := k3.lt; omega
  have l3_1 : w.heap.size + 1 < U2.heap.size := by have := k3.lt; omega
  have e0 : r1 = R0 := by rw [← HR0.out]; (try rw [Hr1.out]); (try rw [Hz2.out]); all_goals first | rfl | simp
  subst e0
  go_wp2
  clear c3_0 c3_1 c3_2 c3_3 f3_0 f3_1 f3_2 f3_3 l3 l3_0 l3_1
  first | refine post_world ?_
  intro V3 hV3
  have D1 := Lib.hid k3.lt
  have D2 := Lib.hid hb0.size
  have nk3 : Blk V3 (w.heap.size + 1 + 1) #[.int .u64 (wd0 r1), .int .u64 (wd1 r1), .int .u64 (wd2 r1), .int .u64 (wd3 r1)] 35 := by rw [hV3]; exact ((blk_full _ [.int .u64 (wd0 r1), .int .u64 (wd1 r1), .int .u64 (wd2 r1), .int .u64 (wd3 r1)] k3 rfl).alloc _)
  have nhb0 : Below w.heap.size w V3 := by rw [hV3]; exact (blw_al (blw_setL hb0 (by omega) 0 [.int .u64 (wd0 r1), .int .u64 (wd1 r1), .int .u64 (wd2 r1), .int .u64 (wd3 r1)]) _)
  clear k3
  clear hb0
  clear hV3
  have k3 := nk3
  clear nk3
  have hb0 := nhb0
  clear nhb0
  have g3_0 : V3.cell? ⟨(w.heap.size + 1 + 1), 0, none⟩ = some (.int .u64 (wd0 r1)) := k3.cell 0
  have g3_1 : V3.cell? ⟨(w.heap.size + 1 + 1), 1, none⟩ = some (.int .u64 (wd1 r1)) := k3.cell 1
  have g3_2 : V3.cell? ⟨(w.heap.size + 1 + 1), 2, none⟩ = some (.int .u64 (wd2 r1)) := k3.cell 2
  have g3_3 : V3.cell? ⟨(w.heap.size + 1 + 1), 3, none⟩ = some (.int .u64 (wd3 r1)) := k3.cell 3
  clear k3
  simp [bodyPost, results, Try.results130, go_sem, g3_0, g3_1, g3_2, g3_3]
  first | exact hb0 | exact ⟨rfl, hb0⟩

set_option maxRecDepth 100000 in
set_option maxHeartbeats 4000000 in

theorem pxplus_is (x : Int) (y : Int)  (R0 : Int) (hR0 : addv x y = R0) (_ix : InI x) (_iy : InI y)  (w : World)  :
    Calls Try.prog 131 #[.agg #[.int .u64 (wd0 x), .int .u64 (wd1 x), .int .u64 (wd2 x), .int .u64 (wd3 x)], .agg #[.int .u64 (wd0 y), .int .u64 (wd1 y), .int .u64 (wd2 y), .int .u64 (wd3 y)]] w fun e w' => e = .returned (.agg #[.int .u64 (wd0 R0), .int .u64 (wd1 R0), .int .u64 (wd2 R0), .int .u64 (wd3 R0)]) ∧ Below w.heap.size w w' := by

  have HR0 := Lib.hid hR0
  clear hR0
  go_enter Try.func131, Try.ntmps131
  go_wp2_with fail
  first | refine calls_w ?_ | refine name_world ?_ | refine list_world ?_ | refine post_world ?_
  intro V1 hV1
  have hn : Below w.heap.size w V1 := by rw [hV1]; exact below_a3 _ _ _ _
  have nhb0 := hn
  have k1 : Blk V1 w.heap.size #[.int .u64 (wd0 x), .int .u64 (wd1 x), .int .u64 (wd2 x), .int .u64 (wd3 x)] 35 := by rw [hV1]; exact (((Blk.new _ _ _).alloc _).alloc _)
  have k2 : Blk V1 (w.heap.size + 1) #[.int .u64 (wd0 y), .int .u64 (wd1 y), .int .u64 (wd2 y), .int .u64 (wd3 y)] 35 := by rw [hV1]; exact ((Blk.new1 _ _ _ _).alloc _)
  have k3 : Blk V1 (w.heap.size + 1 + 1) #[.int .u64 0, .int .u64 0, .int .u64 0, .int .u64 0] 35 := by rw [hV1]; exact (Blk.new2 _ _ _ _ _)
  clear hV1
  have hb0 := nhb0
  clear nhb0
  obtain ⟨r1, hr1⟩ : ∃ o_o : Int, addv x y = o_o := ⟨_, rfl⟩
  have Hr1 := Lib.hid hr1
  clear hr1
  obtain ⟨z2, hz2⟩ : ∃ o_o : Bool, okI (x + y) = o_o := ⟨_, rfl⟩
  have Hz2 := Lib.hid hz2
  clear hz2
  refine (Add_v x y r1 z2 Hr1.out Hz2.out _ix _iy _).mono ?_
  rintro e U2 ⟨rfl, hn⟩
  clear k1 k2
  replace k3 := k3.of hn
  replace hb0 := hb0.trans (hn.mono hb0.size)
  clear hn
  have c3_0 : U2.cell? ⟨(w.heap.size + 1 + 1), 0, none⟩ = some (.int .u64 0) := k3.cell 0
  have c3_1 : U2.cell? ⟨(w.heap.size + 1 + 1), 1, none⟩ = some (.int .u64 0) := k3.cell 1
  have c3_2 : U2.cell? ⟨(w.heap.size + 1 + 1), 2, none⟩ = some (.int .u64 0) := k3.cell 2
  have c3_3 : U2.cell? ⟨(w.heap.size + 1 + 1), 3, none⟩ = some (.int .u64 0) := k3.cell 3
  have f3_0 := k3.free 0
  have f3_1 := k3.free 1
  have f3_2 := k3.free 2
  have f3_3 := k3.free 3
  have l3 := k3.lt
  have l3_0 : w.heap.size < U2.heap.size := by have := k3.lt; omega
  have l3_1 : w.heap.size + 1 < U2.heap.size := by have := k3.lt; omega
  have e0 : r1 = R0 := by rw [← HR0.out]; (try rw [Hr1.out]); (try rw [Hz2.out]); all_goals first | rfl | simp
  subst e0
  go_wp2
  clear c3_0 c3_1 c3_2 c3_3 f3_0 f3_1 f3_2 f3_3 l3 l3_0 l3_1
  first | refine post_world ?_
  intro V3 hV3
  have D1 := Lib.hid k3.lt
  have D2 := Lib.hid hb0.size
  have nk3 : Blk V3 (w.heap.size + 1 + 1) #[.int .u64 (wd0 r1), .int .u64 (wd1 r1), .int .u64 (wd2 r1), .int .u64 (wd3 r1)] 35 := by rw [hV3]; exact ((blk_full _ [.int .u64 (wd0 r1), .int .u64 (wd1 r1), .int .u64 (wd2 r1), .int .u64 (wd3 r1)] k3 rfl).alloc _)
  have nhb0 : Below w.heap.size w V3 := by rw [hV3]; exact (blw_al (blw_setL hb0 (by omega) 0 [.int .u64 (wd0 r1), .int .u64 (wd1 r1), .int .u64 (wd2 r1), .int .u64 (wd3 r1)]) _)
  clear k3
  clear hb0
  clear hV3
  have k3 := nk3
  clear nk3
  have hb0 := nhb0
  clear nhb0
  have g3_0 : V3.cell? ⟨(w.heap.size + 1 + 1), 0, none⟩ = some (.int .u64 (wd0 r1)) := k3.cell 0
  have g3_1 : V3.cell? ⟨(w.heap.size + 1 + 1), 1, none⟩ = some (.int .u64 (wd1 r1)) := k3.cell 1
  have g3_2 : V3.cell? ⟨(w.heap.size + 1 + 1), 2, none⟩ = some (.int .u64 (wd2 r1)) := k3.cell 2
  have g3_3 : V3.cell? ⟨(w.heap.size + 1 + 1), 3, none⟩ = some (.int .u64 (wd3 r1)) := k3.cell 3
  clear k3
  simp [bodyPost, results, Try.results131, go_sem, g3_0, g3_1, g3_2, g3_3]
  first | exact hb0 | exact ⟨rfl, hb0⟩

theorem alPx1_0 : AllocRuns Try.prog 35 #[.int .u64 0, .int .u64 0, .int .u64 0, .int .u64 0] := fun w => by kernel_rfl

def pxc (x : Int) (y : Int) (n : Int) : Int := (smk (dvq (addv (addv x x) (mulv y n)) (addv (mulv y n) (mulv y n))))

set_option maxRecDepth 100000 in
set_option maxHeartbeats 4000000 in

theorem pxcell_is (x : Int) (y : Int) (n : Int)  (R0 : Int) (hR0 : pxc x y n = R0) (_ix : InI x) (_iy : InI y) (_in : In64 n)  (w : World)  :
    Calls Try.prog 98 #[.agg #[.int .u64 (wd0 x), .int .u64 (wd1 x), .int .u64 (wd2 x), .int .u64 (wd3 x)], .agg #[.int .u64 (wd0 y), .int .u64 (wd1 y), .int .u64 (wd2 y), .int .u64 (wd3 y)], .int .i64 n] w fun e w' => e = .returned (.int .i64 R0) ∧ Below w.heap.size w w' := by

  have HR0 := Lib.hid hR0
  clear hR0
  go_enter Try.func98, Try.ntmps98
  go_wp2_with fail
  first | refine calls_w ?_ | refine name_world ?_ | refine list_world ?_ | refine post_world ?_
  intro V1 hV1
  have hn : Below w.heap.size w V1 := by rw [hV1]; exact below_a2 _ _ _
  have nhb0 := hn
  have k1 : Blk V1 w.heap.size #[.int .u64 (wd0 x), .int .u64 (wd1 x), .int .u64 (wd2 x), .int .u64 (wd3 x)] 35 := by rw [hV1]; exact ((Blk.new _ _ _).alloc _)
  have k2 : Blk V1 (w.heap.size + 1) #[.int .u64 (wd0 y), .int .u64 (wd1 y), .int .u64 (wd2 y), .int .u64 (wd3 y)] 35 := by rw [hV1]; exact (Blk.new1 _ _ _ _)
  clear hV1
  have hb0 := nhb0
  clear nhb0
  obtain ⟨r1, hr1⟩ : ∃ o_o : Int, mulv y n = o_o := ⟨_, rfl⟩
  have Hr1 := Lib.hid hr1
  clear hr1
  have c2_0 : V1.cell? ⟨(w.heap.size + 1), 0, none⟩ = some (.int .u64 (wd0 y)) := k2.cell 0
  have c2_1 : V1.cell? ⟨(w.heap.size + 1), 1, none⟩ = some (.int .u64 (wd1 y)) := k2.cell 1
  have c2_2 : V1.cell? ⟨(w.heap.size + 1), 2, none⟩ = some (.int .u64 (wd2 y)) := k2.cell 2
  have c2_3 : V1.cell? ⟨(w.heap.size + 1), 3, none⟩ = some (.int .u64 (wd3 y)) := k2.cell 3
  have l2 := k2.lt
  have Kk1 := Lib.hid k1
  clear k1
  have Kk2 := Lib.hid k2
  clear k2
  refine wp_region_float1 5 4 [(true, 0), (true, 1), (false, 2), (false, 3)] (by kernel_rfl) (by kernel_rfl) (fun _ _ d _ _ => by cases d <;> exact Iff.rfl) rfl rfl rfl alPx1_0 ?_
  have hb : Below V1.heap.size V1 V1.drew := (Below.refl _ _).drew
  iterate 2
    refine wpF_take rfl rfl ?_
    go_big_quiet_step (rfl)
    refine wpQuiet_nil ?_
  refine wpF_do rfl ?_
  intro w1 hg K hK
  replace hb := hb.trans (hg.mono hb.size)
  clear hg
  go_wp2_with ((go_at_call 62; (with_reducible refine (Of_v n n rfl _in _).mono ?_); rintro e w2 ⟨rfl, hn⟩))
  refine hK.out _ _ hn ?_
  replace hb := hb.trans (hn.mono hb.size)
  clear hK K
  clear hn
  refine wpF_do rfl ?_
  intro w1 hg K hK
  replace hb := hb.trans (hg.mono hb.size)
  clear hg
  go_wp2_with ((go_at_call 130; (with_reducible refine (pxtimes_is y n r1 Hr1.out _iy (in64_I' _in)  _).mono ?_); rintro e w2 ⟨rfl, hn⟩))
  refine hK.out _ _ hn ?_
  replace hb := hb.trans (hn.mono hb.size)
  clear hK K
  clear hn
  refine wpF_nil ?_
  clear hb
  intro w1 hg hb b1 lb1 nb1
  clear hg
  simp only [Act.put, ptrTo, List.setIfInBounds_toArray, List.set_cons_succ, List.set_cons_zero]
  simp only [List.drop_succ_cons, List.drop_zero]
  clear c2_0 c2_1 c2_2 c2_3 l2
  first | refine calls_w ?_ | refine name_world ?_ | refine list_world ?_ | refine post_world ?_
  intro U2 hU2
  subst hU2
  have D1 := Lib.hid Kk1.out.lt
  have D2 := Lib.hid Kk2.out.lt
  have D3 := Lib.hid hb0.size
  have k3 : Blk U2 b1 #[.int .u64 0, .int .u64 0, .int .u64 0, .int .u64 0] 35 := nb1
  have k1 := Kk1.out.of hb
  clear Kk1
  have k2 := Kk2.out.of hb
  clear Kk2
  have D4 := Lib.hid lb1
  clear nb1 lb1
  replace hb0 := hb0.trans (hb.mono hb0.size)
  clear hb
  generalize b1 = q3 at *
  have c3_0 : U2.cell? ⟨q3, 0, none⟩ = some (.int .u64 0) := k3.cell 0
  have c3_1 : U2.cell? ⟨q3, 1, none⟩ = some (.int .u64 0) := k3.cell 1
  have c3_2 : U2.cell? ⟨q3, 2, none⟩ = some (.int .u64 0) := k3.cell 2
  have c3_3 : U2.cell? ⟨q3, 3, none⟩ = some (.int .u64 0) := k3.cell 3
  have f3_0 := k3.free 0
  have f3_1 := k3.free 1
  have f3_2 := k3.free 2
  have f3_3 := k3.free 3
  have l3 := k3.lt
  go_wp2_with fail
  clear c3_0 c3_1 c3_2 c3_3 f3_0 f3_1 f3_2 f3_3 l3
  first | refine calls_w ?_ | refine name_world ?_ | refine list_world ?_ | refine post_world ?_
  intro V3 hV3
  clear k2
  have D5 := Lib.hid k1.lt
  have D6 := Lib.hid k3.lt
  have D7 := Lib.hid hb0.size
  have nk1 : Blk V3 w.heap.size #[.int .u64 (wd0 x), .int .u64 (wd1 x), .int .u64 (wd2 x), .int .u64 (wd3 x)] 35 := by rw [hV3]; exact (blk_setL k1 (by have := D1.out; have := D4.out; omega) 0 [.int .u64 (wd0 r1), .int .u64 (wd1 r1), .int .u64 (wd2 r1), .int .u64 (wd3 r1)])
  have nk3 : Blk V3 q3 #[.int .u64 (wd0 r1), .int .u64 (wd1 r1), .int .u64 (wd2 r1), .int .u64 (wd3 r1)] 35 := by rw [hV3]; exact (blk_full _ [.int .u64 (wd0 r1), .int .u64 (wd1 r1), .int .u64 (wd2 r1), .int .u64 (wd3 r1)] k3 rfl)
  have nhb0 : Below w.heap.size w V3 := by rw [hV3]; exact (blw_setL hb0 (by have := D3.out; have := D4.out; omega) 0 [.int .u64 (wd0 r1), .int .u64 (wd1 r1), .int .u64 (wd2 r1), .int .u64 (wd3 r1)])
  clear k1 k3
  clear hb0
  clear hV3
  have k1 := nk1
  clear nk1
  have k3 := nk3
  clear nk3
  have hb0 := nhb0
  clear nhb0
  obtain ⟨r2, hr2⟩ : ∃ o_o : Int, addv x x = o_o := ⟨_, rfl⟩
  have Hr2 := Lib.hid hr2
  clear hr2
  obtain ⟨r3, hr3⟩ : ∃ o_o : Int, addv r2 r1 = o_o := ⟨_, rfl⟩
  have Hr3 := Lib.hid hr3
  clear hr3
  obtain ⟨r4, hr4⟩ : ∃ o_o : Int, addv r1 r1 = o_o := ⟨_, rfl⟩
  have Hr4 := Lib.hid hr4
  clear hr4
  obtain ⟨r5, hr5⟩ : ∃ o_o : Int, dvq r3 r4 = o_o := ⟨_, rfl⟩
  have Hr5 := Lib.hid hr5
  clear hr5
  obtain ⟨r6, hr6⟩ : ∃ o_o : Int, dvr r3 r4 = o_o := ⟨_, rfl⟩
  have Hr6 := Lib.hid hr6
  clear hr6
  obtain ⟨z7, hz7⟩ : ∃ o_o : Bool, dvOk r3 r4 = o_o := ⟨_, rfl⟩
  have Hz7 := Lib.hid hz7
  clear hz7
  have c1_0 : V3.cell? ⟨w.heap.size, 0, none⟩ = some (.int .u64 (wd0 x)) := k1.cell 0
  have c1_1 : V3.cell? ⟨w.heap.size, 1, none⟩ = some (.int .u64 (wd1 x)) := k1.cell 1
  have c1_2 : V3.cell? ⟨w.heap.size, 2, none⟩ = some (.int .u64 (wd2 x)) := k1.cell 2
  have c1_3 : V3.cell? ⟨w.heap.size, 3, none⟩ = some (.int .u64 (wd3 x)) := k1.cell 3
  have l1 := k1.lt
  have c3_0 : V3.cell? ⟨q3, 0, none⟩ = some (.int .u64 (wd0 r1)) := k3.cell 0
  have c3_1 : V3.cell? ⟨q3, 1, none⟩ = some (.int .u64 (wd1 r1)) := k3.cell 1
  have c3_2 : V3.cell? ⟨q3, 2, none⟩ = some (.int .u64 (wd2 r1)) := k3.cell 2
  have c3_3 : V3.cell? ⟨q3, 3, none⟩ = some (.int .u64 (wd3 r1)) := k3.cell 3
  have l3 := k3.lt
  have Kk1 := Lib.hid k1
  clear k1
  have Kk3 := Lib.hid k3
  clear k3
  refine wp_region_FG2 15 13 14 [(0, 0), (0, 1), (0, 3), (0, 5), (0, 6), (1, 2), (1, 4), (1, 7), (1, 8), (0, 9), (0, 10), (2, 11), (2, 12)] [(3, 15), (3, 16), (2, 17)] (by kernel_rfl) (by kernel_rfl) (fun _ _ d _ _ => by cases d <;> exact Iff.rfl) rfl rfl rfl alPx1_0 rfl rfl rfl alPx1_0 rfl ?_
  have hb : Below V3.heap.size V3 V3.drew := (Below.refl _ _).drew
  iterate 5
    refine wpFG_take0 rfl rfl ?_
    go_big_quiet_step (rfl)
    refine wpQuiet_nil ?_
  refine wpFG_do rfl ?_
  intro w1 hg K hK
  replace hb := hb.trans (hg.mono hb.size)
  clear hg
  go_wp2_with ((first | (go_at_call 131; (with_reducible refine (pxplus_is x x r2 Hr2.out _ix _ix  _).mono ?_); rintro e w2 ⟨rfl, hn⟩) | (go_at_call 131; (with_reducible refine (pxplus_is r2 r1 r3 Hr3.out (Hr2.out ▸ addv_in x x) (Hr1.out ▸ mulv_in y n)  _).mono ?_); rintro e w2 ⟨rfl, hn⟩) | (go_at_call 131; (with_reducible refine (pxplus_is r1 r1 r4 Hr4.out (Hr1.out ▸ mulv_in y n) (Hr1.out ▸ mulv_in y n)  _).mono ?_); rintro e w2 ⟨rfl, hn⟩)))
  refine hK.out _ _ hn ?_
  replace hb := hb.trans (hn.mono hb.size)
  clear hK K
  clear hn
  refine wpFG_do rfl ?_
  intro w1 hg K hK
  replace hb := hb.trans (hg.mono hb.size)
  clear hg
  go_wp2_with ((first | (go_at_call 131; (with_reducible refine (pxplus_is x x r2 Hr2.out _ix _ix  _).mono ?_); rintro e w2 ⟨rfl, hn⟩) | (go_at_call 131; (with_reducible refine (pxplus_is r2 r1 r3 Hr3.out (Hr2.out ▸ addv_in x x) (Hr1.out ▸ mulv_in y n)  _).mono ?_); rintro e w2 ⟨rfl, hn⟩) | (go_at_call 131; (with_reducible refine (pxplus_is r1 r1 r4 Hr4.out (Hr1.out ▸ mulv_in y n) (Hr1.out ▸ mulv_in y n)  _).mono ?_); rintro e w2 ⟨rfl, hn⟩)))
  refine hK.out _ _ hn ?_
  replace hb := hb.trans (hn.mono hb.size)
  clear hK K
  clear hn
  refine wpFG_do rfl ?_
  intro w1 hg K hK
  replace hb := hb.trans (hg.mono hb.size)
  clear hg
  go_wp2_with ((first | (go_at_call 131; (with_reducible refine (pxplus_is x x r2 Hr2.out _ix _ix  _).mono ?_); rintro e w2 ⟨rfl, hn⟩) | (go_at_call 131; (with_reducible refine (pxplus_is r2 r1 r3 Hr3.out (Hr2.out ▸ addv_in x x) (Hr1.out ▸ mulv_in y n)  _).mono ?_); rintro e w2 ⟨rfl, hn⟩) | (go_at_call 131; (with_reducible refine (pxplus_is r1 r1 r4 Hr4.out (Hr1.out ▸ mulv_in y n) (Hr1.out ▸ mulv_in y n)  _).mono ?_); rintro e w2 ⟨rfl, hn⟩)))
  refine hK.out _ _ hn ?_
  replace hb := hb.trans (hn.mono hb.size)
  clear hK K
  clear hn
  refine wpFG_do rfl ?_
  intro w1 hg K hK
  replace hb := hb.trans (hg.mono hb.size)
  clear hg
  go_wp2_with ((go_at_call 109; (with_reducible refine (Div_v r3 r4 r5 r6 z7 Hr5.out Hr6.out Hz7.out (Hr3.out ▸ addv_in r2 r1) (Hr4.out ▸ addv_in r1 r1) _).mono ?_); rintro e w2 ⟨rfl, hn⟩))
  refine hK.out _ _ hn ?_
  replace hb := hb.trans (hn.mono hb.size)
  clear hK K
  clear hn
  iterate 2
    refine wpFG_take0 rfl rfl ?_
    go_big_quiet_step (rfl)
    refine wpQuiet_nil ?_
  iterate 2
    refine wpFG_take2 rfl rfl ?_
    go_big_quiet_step (rfl)
    refine wpQuiet_nil ?_
  refine wpFG_nil ?_
  clear hb
  intro w1 hg hb b1 b2 hne lb1 nb1 lb2 nb2
  clear hg
  simp only [Act.put, ptrTo, List.setIfInBounds_toArray, List.set_cons_succ, List.set_cons_zero]
  have m1 : Blk w1 b1 #[.int .u64 0, .int .u64 0, .int .u64 0, .int .u64 0] 35 := nb1
  have mc1_0 : w1.cell? ⟨b1, 0, none⟩ = some (.int .u64 0) := m1.cell 0
  have mf1_0 := m1.free 0
  have mc1_1 : w1.cell? ⟨b1, 1, none⟩ = some (.int .u64 0) := m1.cell 1
  have mf1_1 := m1.free 1
  have mc1_2 : w1.cell? ⟨b1, 2, none⟩ = some (.int .u64 0) := m1.cell 2
  have mf1_2 := m1.free 2
  have mc1_3 : w1.cell? ⟨b1, 3, none⟩ = some (.int .u64 0) := m1.cell 3
  have mf1_3 := m1.free 3
  have m2 : Blk w1 b2 #[.int .u64 0, .int .u64 0, .int .u64 0, .int .u64 0] 35 := nb2
  have mc2_0 : w1.cell? ⟨b2, 0, none⟩ = some (.int .u64 0) := m2.cell 0
  have mf2_0 := m2.free 0
  have mc2_1 : w1.cell? ⟨b2, 1, none⟩ = some (.int .u64 0) := m2.cell 1
  have mf2_1 := m2.free 1
  have mc2_2 : w1.cell? ⟨b2, 2, none⟩ = some (.int .u64 0) := m2.cell 2
  have mf2_2 := m2.free 2
  have mc2_3 : w1.cell? ⟨b2, 3, none⟩ = some (.int .u64 0) := m2.cell 3
  have mf2_3 := m2.free 3
  refine wpG_do3 rfl ?_
  intro K hK
  go_wp2_with (fail)
  refine hK.out _ _ ?_
  clear hK K
  refine wpG_do3 rfl ?_
  intro K hK
  go_wp2_with (fail)
  refine hK.out _ _ ?_
  clear hK K
  refine wpG_take2 rfl rfl ?_
  go_big_quiet_step (rfl)
  refine wpQuiet_nil ?_
  refine wpG_nil ?_
  refine list_world ?_
  intro U4 hU4
  clear c1_0 c1_1 c1_2 c1_3 l1 c3_0 c3_1 c3_2 c3_3 l3
  have D8 := Lib.hid Kk1.out.lt
  have D9 := Lib.hid Kk3.out.lt
  have D10 := Lib.hid hb0.size
  have D11 := Lib.hid lb1
  have D12 := Lib.hid lb2
  have D13 := Lib.hid (show b1 ≠ b2 from hne)
  have k1 : Blk U4 w.heap.size #[.int .u64 (wd0 x), .int .u64 (wd1 x), .int .u64 (wd2 x), .int .u64 (wd3 x)] 35 := by rw [hU4]; exact (blk_setL (blk_setL (Kk1.out.of hb) (by have := D8.out; have := D11.out; omega) 0 [.int .u64 (wd0 r5), .int .u64 (wd1 r5), .int .u64 (wd2 r5), .int .u64 (wd3 r5)]) (by have := D8.out; have := D12.out; omega) 0 [.int .u64 (wd0 r6), .int .u64 (wd1 r6), .int .u64 (wd2 r6), .int .u64 (wd3 r6)])
  have k3 : Blk U4 q3 #[.int .u64 (wd0 r1), .int .u64 (wd1 r1), .int .u64 (wd2 r1), .int .u64 (wd3 r1)] 35 := by rw [hU4]; exact (blk_setL (blk_setL (Kk3.out.of hb) (by have := D9.out; have := D11.out; omega) 0 [.int .u64 (wd0 r5), .int .u64 (wd1 r5), .int .u64 (wd2 r5), .int .u64 (wd3 r5)]) (by have := D9.out; have := D12.out; omega) 0 [.int .u64 (wd0 r6), .int .u64 (wd1 r6), .int .u64 (wd2 r6), .int .u64 (wd3 r6)])
  have k4 : Blk U4 b1 #[.int .u64 (wd0 r5), .int .u64 (wd1 r5), .int .u64 (wd2 r5), .int .u64 (wd3 r5)] 35 := by rw [hU4]; exact (blk_setL (blk_full _ [.int .u64 (wd0 r5), .int .u64 (wd1 r5), .int .u64 (wd2 r5), .int .u64 (wd3 r5)] m1 rfl) (by have := D13.out; omega) 0 [.int .u64 (wd0 r6), .int .u64 (wd1 r6), .int .u64 (wd2 r6), .int .u64 (wd3 r6)])
  have k5 : Blk U4 b2 #[.int .u64 (wd0 r6), .int .u64 (wd1 r6), .int .u64 (wd2 r6), .int .u64 (wd3 r6)] 35 := by rw [hU4]; exact (blk_full _ [.int .u64 (wd0 r6), .int .u64 (wd1 r6), .int .u64 (wd2 r6), .int .u64 (wd3 r6)] (blk_setL m2 (by have := D13.out; omega) 0 [.int .u64 (wd0 r5), .int .u64 (wd1 r5), .int .u64 (wd2 r5), .int .u64 (wd3 r5)]) rfl)
  replace hb0 : Below w.heap.size w U4 := by rw [hU4]; exact (blw_setL (blw_setL (hb0.trans (hb.mono hb0.size)) (by have := D10.out; have := D11.out; omega) 0 [.int .u64 (wd0 r5), .int .u64 (wd1 r5), .int .u64 (wd2 r5), .int .u64 (wd3 r5)]) (by have := D10.out; have := D12.out; omega) 0 [.int .u64 (wd0 r6), .int .u64 (wd1 r6), .int .u64 (wd2 r6), .int .u64 (wd3 r6)])
  clear hU4 hb Kk1 Kk3 m1 nb1 lb1 mc1_0 mf1_0 mc1_1 mf1_1 mc1_2 mf1_2 mc1_3 mf1_3 m2 nb2 lb2 mc2_0 mf2_0 mc2_1 mf2_1 mc2_2 mf2_2 mc2_3 mf2_3 hne
  generalize b1 = q4 at *
  generalize b2 = q5 at *
  have c4_0 : U4.cell? ⟨q4, 0, none⟩ = some (.int .u64 (wd0 r5)) := k4.cell 0
  have c4_1 : U4.cell? ⟨q4, 1, none⟩ = some (.int .u64 (wd1 r5)) := k4.cell 1
  have c4_2 : U4.cell? ⟨q4, 2, none⟩ = some (.int .u64 (wd2 r5)) := k4.cell 2
  have c4_3 : U4.cell? ⟨q4, 3, none⟩ = some (.int .u64 (wd3 r5)) := k4.cell 3
  have l4 := k4.lt
  go_wp2_with fail
  clear c4_0 c4_1 c4_2 c4_3 l4
  obtain ⟨r8, hr8⟩ : ∃ o_o : Int, smk r5 = o_o := ⟨_, rfl⟩
  have Hr8 := Lib.hid hr8
  clear hr8
  obtain ⟨z9, hz9⟩ : ∃ o_o : Bool, decide (In64 r5) = o_o := ⟨_, rfl⟩
  have Hz9 := Lib.hid hz9
  clear hz9
  refine (Small_v r5 r8 z9 Hr8.out Hz9.out (Hr5.out ▸ dvq_in (Hr3.out ▸ addv_in r2 r1) (Hr4.out ▸ addv_in r1 r1)) _).mono ?_
  rintro e U5 ⟨rfl, hn⟩
  clear k1 k3 k4 k5
  replace hb0 := hb0.trans (hn.mono hb0.size)
  clear hn
  have e0 : r8 = R0 := by rw [← HR0.out]; unfold pxc; (try rw [Hr1.out]); (try rw [Hr2.out]); (try rw [Hr3.out]); (try rw [Hr4.out]); (try rw [Hr5.out]); (try rw [Hr6.out]); (try rw [Hz7.out]); (try rw [Hr8.out]); (try rw [Hz9.out]); all_goals first | rfl | simp
  subst e0
  go_wp2
  first | go_ret | go_ret2
  exact ⟨by first | rfl | simp, hb0⟩

def pxOx (x : Int) (y : Int) (v : Int) (n : Int) : Int := (bif (pxS n) then (bif (spR x y v) then (pxc x v n) else 0) else 0)

def pxOy (x : Int) (y : Int) (v : Int) (n : Int) : Int := (bif (pxS n) then (bif (spR x y v) then (pxc y v n) else 0) else 0)

def pxOe (x : Int) (y : Int) (v : Int) (n : Int) : Int := (bif (pxS n) then (bif (spR x y v) then 0 else 11) else 11)

set_option maxRecDepth 100000 in
set_option maxHeartbeats 4000000 in

theorem pxOf_is (x : Int) (y : Int) (v : Int) (n : Int)  (R0 : Int) (R1 : Int) (R2 : Int) (hR0 : pxOx x y v n = R0) (hR1 : pxOy x y v n = R1) (hR2 : pxOe x y v n = R2) (_ix : InI x) (_iy : InI y) (_iv : InI v) (_in : In64 n)  (w : World)  :
    Calls Try.prog 39 #[.agg #[.int .u64 (wd0 x), .int .u64 (wd1 x), .int .u64 (wd2 x), .int .u64 (wd3 x), .int .u64 (wd0 y), .int .u64 (wd1 y), .int .u64 (wd2 y), .int .u64 (wd3 y), .int .u64 (wd0 v), .int .u64 (wd1 v), .int .u64 (wd2 v), .int .u64 (wd3 v)], .int .i64 n] w fun e w' => e = .returned (.tuple #[.agg #[.int .i64 R0, .int .i64 R1], .int .i64 R2]) ∧ Below w.heap.size w w' := by

  have HR0 := Lib.hid hR0
  clear hR0
  have HR1 := Lib.hid hR1
  clear hR1
  have HR2 := Lib.hid hR2
  clear hR2
  go_enter Try.func39, Try.ntmps39
  go_wp2_with fail
  first | refine calls_w ?_ | refine name_world ?_ | refine list_world ?_ | refine post_world ?_
  intro V1 hV1
  have hn : Below w.heap.size w V1 := by rw [hV1]; exact below_a2 _ _ _
  have nhb0 := hn
  have k1 : Blk V1 w.heap.size #[.int .u64 (wd0 x), .int .u64 (wd1 x), .int .u64 (wd2 x), .int .u64 (wd3 x), .int .u64 (wd0 y), .int .u64 (wd1 y), .int .u64 (wd2 y), .int .u64 (wd3 y), .int .u64 (wd0 v), .int .u64 (wd1 v), .int .u64 (wd2 v), .int .u64 (wd3 v)] 67 := by rw [hV1]; exact ((Blk.new _ _ _).alloc _)
  have k2 : Blk V1 (w.heap.size + 1) #[.int .i64 0, .int .i64 0] 24 := by rw [hV1]; exact (Blk.new1 _ _ _ _)
  clear hV1
  have hb0 := nhb0
  clear nhb0
  obtain ⟨z1, hz1⟩ : ∃ o_o : Bool, pxS n = o_o := ⟨_, rfl⟩
  have Hz1 := Lib.hid hz1
  clear hz1
  refine (pxSize_is n z1 Hz1.out _in  _).mono ?_
  rintro e U2 ⟨rfl, hn⟩
  replace k1 := k1.of hn
  replace k2 := k2.of hn
  replace hb0 := hb0.trans (hn.mono hb0.size)
  clear hn
  cases z1
  · have c2_0 : U2.cell? ⟨(w.heap.size + 1), 0, none⟩ = some (.int .i64 0) := k2.cell 0
    have c2_1 : U2.cell? ⟨(w.heap.size + 1), 1, none⟩ = some (.int .i64 0) := k2.cell 1
    have f2_0 := k2.free 0
    have f2_1 := k2.free 1
    have l2 := k2.lt
    have e0 : 0 = R0 := by rw [← HR0.out]; unfold pxOx; (try rw [Hz1.out]); all_goals first | rfl | simp
    have e1 : 0 = R1 := by rw [← HR1.out]; unfold pxOy; (try rw [Hz1.out]); all_goals first | rfl | simp
    have e2 : 11 = R2 := by rw [← HR2.out]; unfold pxOe; (try rw [Hz1.out]); all_goals first | rfl | simp
    subst e0
    subst e1
    subst e2
    go_wp2
    clear c2_0 c2_1 f2_0 f2_1 l2
    first | refine post_world ?_
    intro V3 hV3
    have D1 := Lib.hid k1.lt
    have D2 := Lib.hid k2.lt
    have D3 := Lib.hid hb0.size
    clear k1
    have nk2 : Blk V3 (w.heap.size + 1) #[.int .i64 0, .int .i64 0] 24 := by rw [hV3]; exact (blk_full _ [.int .i64 0, .int .i64 0] k2 rfl)
    have nhb0 : Below w.heap.size w V3 := by rw [hV3]; exact (blw_setL hb0 (by omega) 0 [.int .i64 0, .int .i64 0])
    clear k2
    clear hb0
    clear hV3
    have k2 := nk2
    clear nk2
    have hb0 := nhb0
    clear nhb0
    have g2_0 : V3.cell? ⟨(w.heap.size + 1), 0, none⟩ = some (.int .i64 0) := k2.cell 0
    have g2_1 : V3.cell? ⟨(w.heap.size + 1), 1, none⟩ = some (.int .i64 0) := k2.cell 1
    clear k2
    simp [bodyPost, results, Try.results39, go_sem, g2_0, g2_1]
    first | exact hb0 | exact ⟨rfl, hb0⟩
  · have c1_0 : U2.cell? ⟨w.heap.size, 0, none⟩ = some (.int .u64 (wd0 x)) := k1.cell 0
    have c1_1 : U2.cell? ⟨w.heap.size, 1, none⟩ = some (.int .u64 (wd1 x)) := k1.cell 1
    have c1_2 : U2.cell? ⟨w.heap.size, 2, none⟩ = some (.int .u64 (wd2 x)) := k1.cell 2
    have c1_3 : U2.cell? ⟨w.heap.size, 3, none⟩ = some (.int .u64 (wd3 x)) := k1.cell 3
    have c1_4 : U2.cell? ⟨w.heap.size, 4, none⟩ = some (.int .u64 (wd0 y)) := k1.cell 4
    have c1_5 : U2.cell? ⟨w.heap.size, 5, none⟩ = some (.int .u64 (wd1 y)) := k1.cell 5
    have c1_6 : U2.cell? ⟨w.heap.size, 6, none⟩ = some (.int .u64 (wd2 y)) := k1.cell 6
    have c1_7 : U2.cell? ⟨w.heap.size, 7, none⟩ = some (.int .u64 (wd3 y)) := k1.cell 7
    have c1_8 : U2.cell? ⟨w.heap.size, 8, none⟩ = some (.int .u64 (wd0 v)) := k1.cell 8
    have c1_9 : U2.cell? ⟨w.heap.size, 9, none⟩ = some (.int .u64 (wd1 v)) := k1.cell 9
    have c1_10 : U2.cell? ⟨w.heap.size, 10, none⟩ = some (.int .u64 (wd2 v)) := k1.cell 10
    have c1_11 : U2.cell? ⟨w.heap.size, 11, none⟩ = some (.int .u64 (wd3 v)) := k1.cell 11
    have l1 := k1.lt
    go_wp2_with fail
    clear c1_0 c1_1 c1_2 c1_3 c1_4 c1_5 c1_6 c1_7 c1_8 c1_9 c1_10 c1_11 l1
    obtain ⟨z2, hz2⟩ : ∃ o_o : Bool, spR x y v = o_o := ⟨_, rfl⟩
    have Hz2 := Lib.hid hz2
    clear hz2
    refine (SpRight_is x y v z2 Hz2.out _ix _iy _iv  _).mono ?_
    rintro e U4 ⟨rfl, hn⟩
    replace k1 := k1.of hn
    replace k2 := k2.of hn
    replace hb0 := hb0.trans (hn.mono hb0.size)
    clear hn
    cases z2
    · have c2_0 : U4.cell? ⟨(w.heap.size + 1), 0, none⟩ = some (.int .i64 0) := k2.cell 0
      have c2_1 : U4.cell? ⟨(w.heap.size + 1), 1, none⟩ = some (.int .i64 0) := k2.cell 1
      have f2_0 := k2.free 0
      have f2_1 := k2.free 1
      have l2 := k2.lt
      have e0 : 0 = R0 := by rw [← HR0.out]; unfold pxOx; (try rw [Hz1.out]); (try rw [Hz2.out]); all_goals first | rfl | simp
      have e1 : 0 = R1 := by rw [← HR1.out]; unfold pxOy; (try rw [Hz1.out]); (try rw [Hz2.out]); all_goals first | rfl | simp
      have e2 : 11 = R2 := by rw [← HR2.out]; unfold pxOe; (try rw [Hz1.out]); (try rw [Hz2.out]); all_goals first | rfl | simp
      subst e0
      subst e1
      subst e2
      go_wp2
      clear c2_0 c2_1 f2_0 f2_1 l2
      first | refine post_world ?_
      intro V5 hV5
      have D4 := Lib.hid k1.lt
      have D5 := Lib.hid k2.lt
      have D6 := Lib.hid hb0.size
      clear k1
      have nk2 : Blk V5 (w.heap.size + 1) #[.int .i64 0, .int .i64 0] 24 := by rw [hV5]; exact (blk_full _ [.int .i64 0, .int .i64 0] k2 rfl)
      have nhb0 : Below w.heap.size w V5 := by rw [hV5]; exact (blw_setL hb0 (by omega) 0 [.int .i64 0, .int .i64 0])
      clear k2
      clear hb0
      clear hV5
      have k2 := nk2
      clear nk2
      have hb0 := nhb0
      clear nhb0
      have g2_0 : V5.cell? ⟨(w.heap.size + 1), 0, none⟩ = some (.int .i64 0) := k2.cell 0
      have g2_1 : V5.cell? ⟨(w.heap.size + 1), 1, none⟩ = some (.int .i64 0) := k2.cell 1
      clear k2
      simp [bodyPost, results, Try.results39, go_sem, g2_0, g2_1]
      first | exact hb0 | exact ⟨rfl, hb0⟩
    · go_wp2_with fail
      obtain ⟨r3, hr3⟩ : ∃ o_o : Int, pxc x v n = o_o := ⟨_, rfl⟩
      have Hr3 := Lib.hid hr3
      clear hr3
      have c1_0 : U4.cell? ⟨w.heap.size, 0, none⟩ = some (.int .u64 (wd0 x)) := k1.cell 0
      have c1_1 : U4.cell? ⟨w.heap.size, 1, none⟩ = some (.int .u64 (wd1 x)) := k1.cell 1
      have c1_2 : U4.cell? ⟨w.heap.size, 2, none⟩ = some (.int .u64 (wd2 x)) := k1.cell 2
      have c1_3 : U4.cell? ⟨w.heap.size, 3, none⟩ = some (.int .u64 (wd3 x)) := k1.cell 3
      have c1_4 : U4.cell? ⟨w.heap.size, 4, none⟩ = some (.int .u64 (wd0 y)) := k1.cell 4
      have c1_5 : U4.cell? ⟨w.heap.size, 5, none⟩ = some (.int .u64 (wd1 y)) := k1.cell 5
      have c1_6 : U4.cell? ⟨w.heap.size, 6, none⟩ = some (.int .u64 (wd2 y)) := k1.cell 6
      have c1_7 : U4.cell? ⟨w.heap.size, 7, none⟩ = some (.int .u64 (wd3 y)) := k1.cell 7
      have c1_8 : U4.cell? ⟨w.heap.size, 8, none⟩ = some (.int .u64 (wd0 v)) := k1.cell 8
      have c1_9 : U4.cell? ⟨w.heap.size, 9, none⟩ = some (.int .u64 (wd1 v)) := k1.cell 9
      have c1_10 : U4.cell? ⟨w.heap.size, 10, none⟩ = some (.int .u64 (wd2 v)) := k1.cell 10
      have c1_11 : U4.cell? ⟨w.heap.size, 11, none⟩ = some (.int .u64 (wd3 v)) := k1.cell 11
      have l1 := k1.lt
      have Kk1 := Lib.hid k1
      clear k1
      have Kk2 := Lib.hid k2
      clear k2
      refine wp_region_up U4.heap.size 11 [(true, 0), (true, 1), (true, 2), (true, 3), (true, 4), (true, 6), (true, 7), (true, 8), (true, 9), (true, 10), (false, 5)] (by kernel_rfl) (by kernel_rfl) (fun _ _ d _ _ h => by cases d <;> exact h) ?_
      have hb : Below U4.heap.size U4 U4.drew := (Below.refl _ _).drew
      iterate 10
        refine wpS_takeL rfl rfl ?_
        go_big_quiet_step (rfl)
        refine wpQuiet_nil ?_
      refine wpS_doL rfl ?_
      intro K hK
      go_wp2_with ((go_at_call 98; (with_reducible refine (pxcell_is x v n r3 Hr3.out _ix _iv _in  _).mono ?_); rintro e w2 ⟨rfl, hn⟩))
      replace hb := hb.trans (hn.mono hb.size)
      refine hK.out _ _ (up_iff.2 hb) ?_
      clear hK K
      clear hn
      refine wpS_nil ?_
      simp only [List.drop_succ_cons, List.drop_zero]
      first | refine calls_w ?_ | refine name_world ?_ | refine list_world ?_ | refine post_world ?_
      intro U6 hU6
      first | (subst hU6; have u_ := U6; clear u_) | (rw [← hU6] at hb; clear hU6)
      clear c1_0 c1_1 c1_2 c1_3 c1_4 c1_5 c1_6 c1_7 c1_8 c1_9 c1_10 c1_11 l1
      have k1 := Kk1.out.of hb
      clear Kk1
      have k2 := Kk2.out.of hb
      clear Kk2
      replace hb0 := hb0.trans (hb.mono hb0.size)
      clear hb
      go_wp2_with fail
      obtain ⟨r4, hr4⟩ : ∃ o_o : Int, pxc y v n = o_o := ⟨_, rfl⟩
      have Hr4 := Lib.hid hr4
      clear hr4
      refine (pxcell_is y v n r4 Hr4.out _iy _iv _in  _).mono ?_
      rintro e U7 ⟨rfl, hn⟩
      clear k1
      replace k2 := k2.of hn
      replace hb0 := hb0.trans (hn.mono hb0.size)
      clear hn
      have c2_0 : U7.cell? ⟨(w.heap.size + 1), 0, none⟩ = some (.int .i64 0) := k2.cell 0
      have c2_1 : U7.cell? ⟨(w.heap.size + 1), 1, none⟩ = some (.int .i64 0) := k2.cell 1
      have f2_0 := k2.free 0
      have f2_1 := k2.free 1
      have l2 := k2.lt
      have e0 : r3 = R0 := by rw [← HR0.out]; unfold pxOx; (try rw [Hz1.out]); (try rw [Hz2.out]); (try rw [Hr3.out]); (try rw [Hr4.out]); all_goals first | rfl | simp
      have e1 : r4 = R1 := by rw [← HR1.out]; unfold pxOy; (try rw [Hz1.out]); (try rw [Hz2.out]); (try rw [Hr3.out]); (try rw [Hr4.out]); all_goals first | rfl | simp
      have e2 : 0 = R2 := by rw [← HR2.out]; unfold pxOe; (try rw [Hz1.out]); (try rw [Hz2.out]); (try rw [Hr3.out]); (try rw [Hr4.out]); all_goals first | rfl | simp
      subst e0
      subst e1
      subst e2
      go_wp2
      clear c2_0 c2_1 f2_0 f2_1 l2
      first | refine post_world ?_
      intro V8 hV8
      have D7 := Lib.hid k2.lt
      have D8 := Lib.hid hb0.size
      have nk2 : Blk V8 (w.heap.size + 1) #[.int .i64 r3, .int .i64 r4] 24 := by rw [hV8]; exact (blk_full _ [.int .i64 r3, .int .i64 r4] k2 rfl)
      have nhb0 : Below w.heap.size w V8 := by rw [hV8]; exact (blw_setL hb0 (by omega) 0 [.int .i64 r3, .int .i64 r4])
      clear k2
      clear hb0
      clear hV8
      have k2 := nk2
      clear nk2
      have hb0 := nhb0
      clear nhb0
      have g2_0 : V8.cell? ⟨(w.heap.size + 1), 0, none⟩ = some (.int .i64 r3) := k2.cell 0
      have g2_1 : V8.cell? ⟨(w.heap.size + 1), 1, none⟩ = some (.int .i64 r4) := k2.cell 1
      clear k2
      simp [bodyPost, results, Try.results39, go_sem, g2_0, g2_1]
      first | exact hb0 | exact ⟨rfl, hb0⟩

def pxbn (n : Int) (_m : Int) : Int := n

def pxbd (_n : Int) (m : Int) : Int := m

theorem pxbn_in (n : Int) (m : Int) (_in : In64 n) (_im : In64 m) : InI (pxbn n m) := by
  unfold pxbn
  exact (in64_I' _in)

theorem pxbd_in (n : Int) (m : Int) (_in : In64 n) (_im : In64 m) : InI (pxbd n m) := by
  unfold pxbd
  exact (in64_I' _im)

set_option maxRecDepth 100000 in
set_option maxHeartbeats 4000000 in

theorem pxbd_is (n : Int) (m : Int)  (R0 : Int) (R1 : Int) (hR0 : pxbn n m = R0) (hR1 : pxbd n m = R1) (_in : In64 n) (_im : In64 m)  (w : World)  :
    Calls Try.prog 126 #[.int .i64 n, .int .i64 m] w fun e w' => e = .returned (.agg #[.int .u64 (wd0 R0), .int .u64 (wd1 R0), .int .u64 (wd2 R0), .int .u64 (wd3 R0), .int .u64 (wd0 R1), .int .u64 (wd1 R1), .int .u64 (wd2 R1), .int .u64 (wd3 R1)]) ∧ Below w.heap.size w w' := by

  have HR0 := Lib.hid hR0
  clear hR0
  have HR1 := Lib.hid hR1
  clear hR1
  go_enter Try.func126, Try.ntmps126
  go_wp2_with fail
  first | refine calls_w ?_ | refine name_world ?_ | refine list_world ?_ | refine post_world ?_
  intro V1 hV1
  have hn : Below w.heap.size w V1 := by rw [hV1]; exact below_a1 _ _
  have nhb0 := hn
  have k1 : Blk V1 w.heap.size #[.int .u64 0, .int .u64 0, .int .u64 0, .int .u64 0, .int .u64 0, .int .u64 0, .int .u64 0, .int .u64 0] 52 := by rw [hV1]; exact (Blk.new _ _ _)
  clear hV1
  have hb0 := nhb0
  clear nhb0
  refine (Of_v n n rfl _in _).mono ?_
  rintro e U2 ⟨rfl, hn⟩
  replace k1 := k1.of hn
  replace hb0 := hb0.trans (hn.mono hb0.size)
  clear hn
  go_wp2_with fail
  refine (Of_v m m rfl _im _).mono ?_
  rintro e U3 ⟨rfl, hn⟩
  replace k1 := k1.of hn
  replace hb0 := hb0.trans (hn.mono hb0.size)
  clear hn
  have c1_0 : U3.cell? ⟨w.heap.size, 0, none⟩ = some (.int .u64 0) := k1.cell 0
  have c1_1 : U3.cell? ⟨w.heap.size, 1, none⟩ = some (.int .u64 0) := k1.cell 1
  have c1_2 : U3.cell? ⟨w.heap.size, 2, none⟩ = some (.int .u64 0) := k1.cell 2
  have c1_3 : U3.cell? ⟨w.heap.size, 3, none⟩ = some (.int .u64 0) := k1.cell 3
  have c1_4 : U3.cell? ⟨w.heap.size, 4, none⟩ = some (.int .u64 0) := k1.cell 4
  have c1_5 : U3.cell? ⟨w.heap.size, 5, none⟩ = some (.int .u64 0) := k1.cell 5
  have c1_6 : U3.cell? ⟨w.heap.size, 6, none⟩ = some (.int .u64 0) := k1.cell 6
  have c1_7 : U3.cell? ⟨w.heap.size, 7, none⟩ = some (.int .u64 0) := k1.cell 7
  have f1_0 := k1.free 0
  have f1_1 := k1.free 1
  have f1_2 := k1.free 2
  have f1_3 := k1.free 3
  have f1_4 := k1.free 4
  have f1_5 := k1.free 5
  have f1_6 := k1.free 6
  have f1_7 := k1.free 7
  have l1 := k1.lt
  have e0 : n = R0 := by rw [← HR0.out]; unfold pxbn; all_goals first | rfl | simp
  have e1 : m = R1 := by rw [← HR1.out]; unfold pxbd; all_goals first | rfl | simp
  subst e0
  subst e1
  go_wp2
  clear c1_0 c1_1 c1_2 c1_3 c1_4 c1_5 c1_6 c1_7 f1_0 f1_1 f1_2 f1_3 f1_4 f1_5 f1_6 f1_7 l1
  first | refine post_world ?_
  intro V4 hV4
  have D1 := Lib.hid k1.lt
  have D2 := Lib.hid hb0.size
  have nk1 : Blk V4 w.heap.size #[.int .u64 (wd0 n), .int .u64 (wd1 n), .int .u64 (wd2 n), .int .u64 (wd3 n), .int .u64 (wd0 m), .int .u64 (wd1 m), .int .u64 (wd2 m), .int .u64 (wd3 m)] 52 := by rw [hV4]; exact (blk_full _ [.int .u64 (wd0 n), .int .u64 (wd1 n), .int .u64 (wd2 n), .int .u64 (wd3 n), .int .u64 (wd0 m), .int .u64 (wd1 m), .int .u64 (wd2 m), .int .u64 (wd3 m)] k1 rfl)
  have nhb0 : Below w.heap.size w V4 := by rw [hV4]; exact (blw_setL hb0 (by omega) 0 [.int .u64 (wd0 n), .int .u64 (wd1 n), .int .u64 (wd2 n), .int .u64 (wd3 n), .int .u64 (wd0 m), .int .u64 (wd1 m), .int .u64 (wd2 m), .int .u64 (wd3 m)])
  clear k1
  clear hb0
  clear hV4
  have k1 := nk1
  clear nk1
  have hb0 := nhb0
  clear nhb0
  have g1_0 : V4.cell? ⟨w.heap.size, 0, none⟩ = some (.int .u64 (wd0 n)) := k1.cell 0
  have g1_1 : V4.cell? ⟨w.heap.size, 1, none⟩ = some (.int .u64 (wd1 n)) := k1.cell 1
  have g1_2 : V4.cell? ⟨w.heap.size, 2, none⟩ = some (.int .u64 (wd2 n)) := k1.cell 2
  have g1_3 : V4.cell? ⟨w.heap.size, 3, none⟩ = some (.int .u64 (wd3 n)) := k1.cell 3
  have g1_4 : V4.cell? ⟨w.heap.size, 4, none⟩ = some (.int .u64 (wd0 m)) := k1.cell 4
  have g1_5 : V4.cell? ⟨w.heap.size, 5, none⟩ = some (.int .u64 (wd1 m)) := k1.cell 5
  have g1_6 : V4.cell? ⟨w.heap.size, 6, none⟩ = some (.int .u64 (wd2 m)) := k1.cell 6
  have g1_7 : V4.cell? ⟨w.heap.size, 7, none⟩ = some (.int .u64 (wd3 m)) := k1.cell 7
  clear k1
  simp [bodyPost, results, Try.results126, go_sem, g1_0, g1_1, g1_2, g1_3, g1_4, g1_5, g1_6, g1_7]
  first | exact hb0 | exact ⟨rfl, hb0⟩

def pxl (x : Int) (y : Int) (x2 : Int) (y2 : Int) : Int := (rtC x y x2 y2)

set_option maxRecDepth 100000 in
set_option maxHeartbeats 4000000 in

theorem pxls_is (x : Int) (y : Int) (x2 : Int) (y2 : Int)  (R0 : Int) (hR0 : pxl x y x2 y2 = R0) (_ix : InI x) (_iy : InI y) (_ix2 : InI x2) (_iy2 : InI y2)  (w : World)  :
    Calls Try.prog 128 #[.agg #[.int .u64 (wd0 x), .int .u64 (wd1 x), .int .u64 (wd2 x), .int .u64 (wd3 x), .int .u64 (wd0 y), .int .u64 (wd1 y), .int .u64 (wd2 y), .int .u64 (wd3 y)], .agg #[.int .u64 (wd0 x2), .int .u64 (wd1 x2), .int .u64 (wd2 x2), .int .u64 (wd3 x2), .int .u64 (wd0 y2), .int .u64 (wd1 y2), .int .u64 (wd2 y2), .int .u64 (wd3 y2)]] w fun e w' => e = .returned (.int .i64 R0) ∧ Below w.heap.size w w' := by

  have HR0 := Lib.hid hR0
  clear hR0
  go_enter Try.func128, Try.ntmps128
  go_wp2_with fail
  first | refine calls_w ?_ | refine name_world ?_ | refine list_world ?_ | refine post_world ?_
  intro V1 hV1
  have hn : Below w.heap.size w V1 := by rw [hV1]; exact below_a2 _ _ _
  have nhb0 := hn
  have k1 : Blk V1 w.heap.size #[.int .u64 (wd0 x), .int .u64 (wd1 x), .int .u64 (wd2 x), .int .u64 (wd3 x), .int .u64 (wd0 y), .int .u64 (wd1 y), .int .u64 (wd2 y), .int .u64 (wd3 y)] 52 := by rw [hV1]; exact ((Blk.new _ _ _).alloc _)
  have k2 : Blk V1 (w.heap.size + 1) #[.int .u64 (wd0 x2), .int .u64 (wd1 x2), .int .u64 (wd2 x2), .int .u64 (wd3 x2), .int .u64 (wd0 y2), .int .u64 (wd1 y2), .int .u64 (wd2 y2), .int .u64 (wd3 y2)] 52 := by rw [hV1]; exact (Blk.new1 _ _ _ _)
  clear hV1
  have hb0 := nhb0
  clear nhb0
  obtain ⟨r1, hr1⟩ : ∃ o_o : Int, rtC x y x2 y2 = o_o := ⟨_, rfl⟩
  have Hr1 := Lib.hid hr1
  clear hr1
  obtain ⟨z2, hz2⟩ : ∃ o_o : Bool, rtCk x y x2 y2 = o_o := ⟨_, rfl⟩
  have Hz2 := Lib.hid hz2
  clear hz2
  refine (rtC_v x y x2 y2 r1 z2 Hr1.out Hz2.out _ix _iy _ix2 _iy2 _).mono ?_
  rintro e U2 ⟨rfl, hn⟩
  clear k1 k2
  replace hb0 := hb0.trans (hn.mono hb0.size)
  clear hn
  have e0 : r1 = R0 := by rw [← HR0.out]; unfold pxl; (try rw [Hr1.out]); (try rw [Hz2.out]); all_goals first | rfl | simp
  subst e0
  go_wp2
  first | go_ret | go_ret2
  exact ⟨by first | rfl | simp, hb0⟩
end Go.Proofs.Ytlcbomjdbdgbmaa

namespace Go.Proofs.Ytlcbomjdbdgbmaa
open Go.RowKit

theorem blk_eq {w : World} {b : Nat} {c c' : Array Value} {t : TypeId} (h : Blk w b c t) (e : c = c') : Blk w b c' t := e ▸ h
section
variable {P : Program} {ops : Array Oper} {C : World → Prop} {Q : Exit → Act → World → Prop}
theorem nil_value {o : Oper} {x : Operand} {ρ : Operand → Value} {w w' : World} {n : Next} (hp : o.op = .nilCheck x) (h : (execOp ρ o).run P w = .ok n w') : ∃ v, n = .value v := by
  unfold execOp at h
  rw [hp] at h
  dsimp only at h
  split at h
  · simp [runtimePanic] at h
  · simp [runtimePanic] at h
  · simp [runtimePanic] at h
  · split at h
    · simp [runtimePanic] at h
    · simp only [Sem.run_bind] at h
      cases h1 : Sem.run P program w with
      | halt y w1 => rw [h1] at h; simp [Result.andThen] at h
      | ok p w1 =>
        rw [h1] at h
        simp only [Result.andThen] at h
        cases h2 : Sem.run P (nilAhead (p.types.size + Made.depth) _ _ _) w1 with
        | halt y w2 => rw [h2] at h; simp at h
        | ok b w2 =>
          rw [h2] at h
          simp only at h
          split at h
          · simp [unsupported, Result.andThen] at h
          · exact ⟨_, ((Result.ok.inj h).1).symm⟩
    · exact ⟨_, ((Result.ok.inj h).1).symm⟩
  · exact ⟨_, ((Result.ok.inj h).1).symm⟩
theorem nil_yields {o : Oper} {x : Operand} {a : Act} {v : Value} (hp : o.op = .nilCheck x) (h : ∀ w, C w → o.quietAt P a C w v) : ∀ w, C w → (execOp a.eval o).run P w = .ok (.value v) w := by
  intro w hw
  have h3 := h w hw
  unfold Oper.quietAt at h3
  cases hr : (execOp a.eval o).run P w with
  | ok n w' =>
    rw [hr] at h3
    obtain ⟨u, rfl⟩ := nil_value hp hr
    simp only [Oper.quietUpon] at h3
    rw [h3.1, h3.2]
  | halt x w' => rw [hr] at h3; simp only [Oper.quietUpon] at h3
theorem wpS_takeN {l : List Oper} {T : Act → World → Prop} {σ : List (Bool × Nat)} {i : Nat} {o : Oper} {a : Act} {w : World} (ho : l[i]? = some o) (hp : ∃ x, o.op = .nilCheck x)
    (h : wpQuiet P l.toArray C (fun a' => wpS P l.toArray C Q T σ a' w) [o] a) : wpS P l.toArray C Q T ((true, i) :: σ) a w := by
  obtain ⟨x, hx⟩ := hp
  have ho' : l.toArray[i]? = some o := by simpa using ho
  unfold wpQuiet at h
  by_cases hw : Region.wanted o (yielded l.toArray a.tmps) = true
  · rw [if_pos hw] at h
    obtain ⟨v, h1, h2⟩ := h
    exact ⟨o, v, ho', .inl ⟨hw, nil_yields hx h1⟩, h2⟩
  · rw [if_neg hw] at h
    exact ⟨o, undef, ho', .inr ⟨by simpa using hw, rfl⟩, h⟩
end
end Go.Proofs.Ytlcbomjdbdgbmaa

namespace Go.Proofs.Ytlcbomjdbdgbmaa
open Go.RowKit

def frfn (fn : Int) (fd : Int) (_tn : Int) (_td : Int) (_fo : Bool) (_to : Bool) (x : Int) (y : Int) (_o : Bool) : Int := (bif decide (0 < (pxl x y fn fd)) then x else fn)

def frfd (fn : Int) (fd : Int) (_tn : Int) (_td : Int) (_fo : Bool) (_to : Bool) (x : Int) (y : Int) (_o : Bool) : Int := (bif decide (0 < (pxl x y fn fd)) then y else fd)

def frtn (_fn : Int) (_fd : Int) (tn : Int) (_td : Int) (_fo : Bool) (_to : Bool) (_x : Int) (_y : Int) (_o : Bool) : Int := tn

def frtd (_fn : Int) (_fd : Int) (_tn : Int) (td : Int) (_fo : Bool) (_to : Bool) (_x : Int) (_y : Int) (_o : Bool) : Int := td

def frfo (fn : Int) (fd : Int) (_tn : Int) (_td : Int) (fo : Bool) (_to : Bool) (x : Int) (y : Int) (o : Bool) : Bool := (bif decide (0 < (pxl x y fn fd)) then o else (bif ((pxl x y fn fd) == 0) then (bif fo then true else o) else fo))

def frto (_fn : Int) (_fd : Int) (_tn : Int) (_td : Int) (_fo : Bool) (to : Bool) (_x : Int) (_y : Int) (_o : Bool) : Bool := to

theorem frfn_in (fn : Int) (fd : Int) (tn : Int) (td : Int) (fo : Bool) (to : Bool) (x : Int) (y : Int) (o : Bool) (_ifn : InI fn) (_ifd : InI fd) (_itn : InI tn) (_itd : InI td) (_ix : InI x) (_iy : InI y) : InI (frfn fn fd tn td fo to x y o) := by
  unfold frfn
  exact (cond_in _ix _ifn)

theorem frfd_in (fn : Int) (fd : Int) (tn : Int) (td : Int) (fo : Bool) (to : Bool) (x : Int) (y : Int) (o : Bool) (_ifn : InI fn) (_ifd : InI fd) (_itn : InI tn) (_itd : InI td) (_ix : InI x) (_iy : InI y) : InI (frfd fn fd tn td fo to x y o) := by
  unfold frfd
  exact (cond_in _iy _ifd)

theorem frtn_in (fn : Int) (fd : Int) (tn : Int) (td : Int) (fo : Bool) (to : Bool) (x : Int) (y : Int) (o : Bool) (_ifn : InI fn) (_ifd : InI fd) (_itn : InI tn) (_itd : InI td) (_ix : InI x) (_iy : InI y) : InI (frtn fn fd tn td fo to x y o) := by
  unfold frtn
  exact _itn

theorem frtd_in (fn : Int) (fd : Int) (tn : Int) (td : Int) (fo : Bool) (to : Bool) (x : Int) (y : Int) (o : Bool) (_ifn : InI fn) (_ifd : InI fd) (_itn : InI tn) (_itd : InI td) (_ix : InI x) (_iy : InI y) : InI (frtd fn fd tn td fo to x y o) := by
  unfold frtd
  exact _itd

set_option maxRecDepth 100000 in
set_option maxHeartbeats 4000000 in

theorem pxfr_is (fn : Int) (fd : Int) (tn : Int) (td : Int) (fo : Bool) (to : Bool) (x : Int) (y : Int) (o : Bool)  (R0 : Int) (R1 : Int) (R2 : Int) (R3 : Int) (R4 : Bool) (R5 : Bool) (hR0 : frfn fn fd tn td fo to x y o = R0) (hR1 : frfd fn fd tn td fo to x y o = R1) (hR2 : frtn fn fd tn td fo to x y o = R2) (hR3 : frtd fn fd tn td fo to x y o = R3) (hR4 : frfo fn fd tn td fo to x y o = R4) (hR5 : frto fn fd tn td fo to x y o = R5) (_ifn : InI fn) (_ifd : InI fd) (_itn : InI tn) (_itd : InI td) (_ix : InI x) (_iy : InI y) (bp : Nat) (w : World) (hkp : Blk w bp #[.int .u64 (wd0 fn), .int .u64 (wd1 fn), .int .u64 (wd2 fn), .int .u64 (wd3 fn), .int .u64 (wd0 fd), .int .u64 (wd1 fd), .int .u64 (wd2 fd), .int .u64 (wd3 fd), .int .u64 (wd0 tn), .int .u64 (wd1 tn), .int .u64 (wd2 tn), .int .u64 (wd3 tn), .int .u64 (wd0 td), .int .u64 (wd1 td), .int .u64 (wd2 td), .int .u64 (wd3 td), .bool fo, .bool to] 54) :
    Calls Try.prog 125 #[.pointer (some ⟨bp, 0, none⟩), .agg #[.int .u64 (wd0 x), .int .u64 (wd1 x), .int .u64 (wd2 x), .int .u64 (wd3 x), .int .u64 (wd0 y), .int .u64 (wd1 y), .int .u64 (wd2 y), .int .u64 (wd3 y)], .bool o] w fun e w' => e = .returned (.tuple #[]) ∧ Blk w' bp #[.int .u64 (wd0 R0), .int .u64 (wd1 R0), .int .u64 (wd2 R0), .int .u64 (wd3 R0), .int .u64 (wd0 R1), .int .u64 (wd1 R1), .int .u64 (wd2 R1), .int .u64 (wd3 R1), .int .u64 (wd0 R2), .int .u64 (wd1 R2), .int .u64 (wd2 R2), .int .u64 (wd3 R2), .int .u64 (wd0 R3), .int .u64 (wd1 R3), .int .u64 (wd2 R3), .int .u64 (wd3 R3), .bool R4, .bool R5] 54 ∧ Below bp w w' := by

  have HBL := Lib.hid hkp.lt
  have k1 := hkp
  clear hkp
  have HR0 := Lib.hid hR0
  clear hR0
  have HR1 := Lib.hid hR1
  clear hR1
  have HR2 := Lib.hid hR2
  clear hR2
  have HR3 := Lib.hid hR3
  clear hR3
  have HR4 := Lib.hid hR4
  clear hR4
  have HR5 := Lib.hid hR5
  clear hR5
  go_enter Try.func125, Try.ntmps125
  go_wp2_with fail
  first | refine calls_w ?_ | refine name_world ?_ | refine list_world ?_ | refine post_world ?_
  intro V1 hV1
  have hn : Below w.heap.size w V1 := by rw [hV1]; exact below_a1 _ _
  have nk1 := k1.of hn
  have nhb0 := hn.mono (Nat.le_of_lt HBL.out)
  have k2 : Blk V1 w.heap.size #[.int .u64 (wd0 x), .int .u64 (wd1 x), .int .u64 (wd2 x), .int .u64 (wd3 x), .int .u64 (wd0 y), .int .u64 (wd1 y), .int .u64 (wd2 y), .int .u64 (wd3 y)] 52 := by rw [hV1]; exact (Blk.new _ _ _)
  clear k1
  clear hV1
  have k1 := nk1
  clear nk1
  have hb0 := nhb0
  clear nhb0
  have c1_0 : V1.cell? ⟨bp, 0, none⟩ = some (.int .u64 (wd0 fn)) := k1.cell 0
  have c1_1 : V1.cell? ⟨bp, 1, none⟩ = some (.int .u64 (wd1 fn)) := k1.cell 1
  have c1_2 : V1.cell? ⟨bp, 2, none⟩ = some (.int .u64 (wd2 fn)) := k1.cell 2
  have c1_3 : V1.cell? ⟨bp, 3, none⟩ = some (.int .u64 (wd3 fn)) := k1.cell 3
  have c1_4 : V1.cell? ⟨bp, 4, none⟩ = some (.int .u64 (wd0 fd)) := k1.cell 4
  have c1_5 : V1.cell? ⟨bp, 5, none⟩ = some (.int .u64 (wd1 fd)) := k1.cell 5
  have c1_6 : V1.cell? ⟨bp, 6, none⟩ = some (.int .u64 (wd2 fd)) := k1.cell 6
  have c1_7 : V1.cell? ⟨bp, 7, none⟩ = some (.int .u64 (wd3 fd)) := k1.cell 7
  have l1 := k1.lt
  have c2_0 : V1.cell? ⟨w.heap.size, 0, none⟩ = some (.int .u64 (wd0 x)) := k2.cell 0
  have c2_1 : V1.cell? ⟨w.heap.size, 1, none⟩ = some (.int .u64 (wd1 x)) := k2.cell 1
  have c2_2 : V1.cell? ⟨w.heap.size, 2, none⟩ = some (.int .u64 (wd2 x)) := k2.cell 2
  have c2_3 : V1.cell? ⟨w.heap.size, 3, none⟩ = some (.int .u64 (wd3 x)) := k2.cell 3
  have c2_4 : V1.cell? ⟨w.heap.size, 4, none⟩ = some (.int .u64 (wd0 y)) := k2.cell 4
  have c2_5 : V1.cell? ⟨w.heap.size, 5, none⟩ = some (.int .u64 (wd1 y)) := k2.cell 5
  have c2_6 : V1.cell? ⟨w.heap.size, 6, none⟩ = some (.int .u64 (wd2 y)) := k2.cell 6
  have c2_7 : V1.cell? ⟨w.heap.size, 7, none⟩ = some (.int .u64 (wd3 y)) := k2.cell 7
  have l2 := k2.lt
  have Kk1 := Lib.hid k1
  clear k1
  have Kk2 := Lib.hid k2
  clear k2
  refine wp_region_up V1.heap.size 5 [(true, 0), (true, 1), (true, 2), (true, 3), (true, 4)] (by kernel_rfl) (by kernel_rfl) (fun _ _ d _ _ h => by cases d <;> exact h) ?_
  have hb : Below V1.heap.size V1 V1.drew := (Below.refl _ _).drew
  iterate 5
    first | refine wpS_takeL rfl rfl ?_ | refine wpS_takeN rfl ⟨_, rfl⟩ ?_
    go_big_quiet_step (rfl)
    refine wpQuiet_nil ?_
  refine wpS_nil ?_
  simp only [List.drop_succ_cons, List.drop_zero]
  first | refine calls_w ?_ | refine name_world ?_ | refine list_world ?_ | refine post_world ?_
  intro U2 hU2
  first | (subst hU2; have u_ := U2; clear u_) | (rw [← hU2] at hb; clear hU2)
  clear c1_0 c1_1 c1_2 c1_3 c1_4 c1_5 c1_6 c1_7 l1 c2_0 c2_1 c2_2 c2_3 c2_4 c2_5 c2_6 c2_7 l2
  have k1 := Kk1.out.of hb
  clear Kk1
  have k2 := Kk2.out.of hb
  clear Kk2
  replace hb0 := hb0.trans (hb.mono (Nat.le_trans (Nat.le_of_lt HBL.out) hb0.size))
  clear hb
  go_wp2_with fail
  obtain ⟨r1, hr1⟩ : ∃ o_o : Int, pxl x y fn fd = o_o := ⟨_, rfl⟩
  have Hr1 := Lib.hid hr1
  clear hr1
  refine (pxls_is x y fn fd r1 Hr1.out _ix _iy _ifn _ifd  _).mono ?_
  rintro e U3 ⟨rfl, hn⟩
  replace k1 := k1.of hn
  replace k2 := k2.of hn
  replace hb0 := hb0.trans (hn.mono (Nat.le_trans (Nat.le_of_lt HBL.out) hb0.size))
  clear hn
  obtain ⟨z2, hz2⟩ : ∃ o_o : Bool, decide (0 < r1) = o_o := ⟨_, rfl⟩
  cases z2
  · obtain ⟨z3, hz3⟩ : ∃ o_o : Bool, (r1 == 0) = o_o := ⟨_, rfl⟩
    cases z3
    · have nz3 : ¬ r1 = 0 := by simpa using hz3
      have e0 : fn = R0 := by rw [← HR0.out]; unfold frfn; (try rw [Hr1.out]); (try rw [hz2]); (try rw [hz3]); all_goals first | rfl | simp
      have e1 : fd = R1 := by rw [← HR1.out]; unfold frfd; (try rw [Hr1.out]); (try rw [hz2]); (try rw [hz3]); all_goals first | rfl | simp
      have e2 : tn = R2 := by rw [← HR2.out]; unfold frtn; (try rw [Hr1.out]); (try rw [hz2]); (try rw [hz3]); all_goals first | rfl | simp
      have e3 : td = R3 := by rw [← HR3.out]; unfold frtd; (try rw [Hr1.out]); (try rw [hz2]); (try rw [hz3]); all_goals first | rfl | simp
      have e4 : fo = R4 := by rw [← HR4.out]; unfold frfo; (try rw [Hr1.out]); (try rw [hz2]); (try rw [hz3]); all_goals first | rfl | simp
      have e5 : to = R5 := by rw [← HR5.out]; unfold frto; (try rw [Hr1.out]); (try rw [hz2]); (try rw [hz3]); all_goals first | rfl | simp
      subst e0
      subst e1
      subst e2
      subst e3
      subst e4
      subst e5
      go_wp2
      go_end0
      exact ⟨by first | rfl | simp, k1, hb0⟩
    · obtain rfl : r1 = 0 := by simpa using hz3
      clear hz3
      cases fo
      · have c1_16 : U3.cell? ⟨bp, 16, none⟩ = some (.bool false) := k1.cell 16
        have f1_16 := k1.free 16
        have l1 := k1.lt
        have e0 : fn = R0 := by rw [← HR0.out]; unfold frfn; (try rw [Hr1.out]); (try rw [hz2]); all_goals first | rfl | simp
        have e1 : fd = R1 := by rw [← HR1.out]; unfold frfd; (try rw [Hr1.out]); (try rw [hz2]); all_goals first | rfl | simp
        have e2 : tn = R2 := by rw [← HR2.out]; unfold frtn; (try rw [Hr1.out]); (try rw [hz2]); all_goals first | rfl | simp
        have e3 : td = R3 := by rw [← HR3.out]; unfold frtd; (try rw [Hr1.out]); (try rw [hz2]); all_goals first | rfl | simp
        have e4 : o = R4 := by rw [← HR4.out]; unfold frfo; (try rw [Hr1.out]); (try rw [hz2]); all_goals first | rfl | simp
        have e5 : to = R5 := by rw [← HR5.out]; unfold frto; (try rw [Hr1.out]); (try rw [hz2]); all_goals first | rfl | simp
        subst e0
        subst e1
        subst e2
        subst e3
        subst e4
        subst e5
        go_wp2
        clear c1_16 f1_16 l1
        first | refine post_world ?_
        intro V4 hV4
        clear k2
        have D1 := Lib.hid k1.lt
        have D2 := Lib.hid hb0.size
        have nk1 : Blk V4 bp #[.int .u64 (wd0 fn), .int .u64 (wd1 fn), .int .u64 (wd2 fn), .int .u64 (wd3 fn), .int .u64 (wd0 fd), .int .u64 (wd1 fd), .int .u64 (wd2 fd), .int .u64 (wd3 fd), .int .u64 (wd0 tn), .int .u64 (wd1 tn), .int .u64 (wd2 tn), .int .u64 (wd3 tn), .int .u64 (wd0 td), .int .u64 (wd1 td), .int .u64 (wd2 td), .int .u64 (wd3 td), .bool o, .bool to] 54 := by rw [hV4]; exact blk_eq ((blk_putL k1 16 [.bool o])) (by kernel_rfl)
        have nhb0 : Below bp w V4 := by rw [hV4]; exact (blw_setL hb0 (by have := HBL.out; omega) 16 [.bool o])
        clear k1
        clear hb0
        clear hV4
        have k1 := nk1
        clear nk1
        have hb0 := nhb0
        clear nhb0
        go_end0
        first | exact ⟨k1, hb0⟩ | exact ⟨rfl, k1, hb0⟩
      · have c1_16 : U3.cell? ⟨bp, 16, none⟩ = some (.bool true) := k1.cell 16
        have f1_16 := k1.free 16
        have l1 := k1.lt
        have e0 : fn = R0 := by rw [← HR0.out]; unfold frfn; (try rw [Hr1.out]); (try rw [hz2]); all_goals first | rfl | simp
        have e1 : fd = R1 := by rw [← HR1.out]; unfold frfd; (try rw [Hr1.out]); (try rw [hz2]); all_goals first | rfl | simp
        have e2 : tn = R2 := by rw [← HR2.out]; unfold frtn; (try rw [Hr1.out]); (try rw [hz2]); all_goals first | rfl | simp
        have e3 : td = R3 := by rw [← HR3.out]; unfold frtd; (try rw [Hr1.out]); (try rw [hz2]); all_goals first | rfl | simp
        have e4 : true = R4 := by rw [← HR4.out]; unfold frfo; (try rw [Hr1.out]); (try rw [hz2]); all_goals first | rfl | simp
        have e5 : to = R5 := by rw [← HR5.out]; unfold frto; (try rw [Hr1.out]); (try rw [hz2]); all_goals first | rfl | simp
        subst e0
        subst e1
        subst e2
        subst e3
        subst e4
        subst e5
        go_wp2
        clear c1_16 f1_16 l1
        first | refine post_world ?_
        intro V5 hV5
        clear k2
        have D3 := Lib.hid k1.lt
        have D4 := Lib.hid hb0.size
        have nk1 : Blk V5 bp #[.int .u64 (wd0 fn), .int .u64 (wd1 fn), .int .u64 (wd2 fn), .int .u64 (wd3 fn), .int .u64 (wd0 fd), .int .u64 (wd1 fd), .int .u64 (wd2 fd), .int .u64 (wd3 fd), .int .u64 (wd0 tn), .int .u64 (wd1 tn), .int .u64 (wd2 tn), .int .u64 (wd3 tn), .int .u64 (wd0 td), .int .u64 (wd1 td), .int .u64 (wd2 td), .int .u64 (wd3 td), .bool true, .bool to] 54 := by rw [hV5]; exact blk_eq ((blk_putL k1 16 [.bool true])) (by kernel_rfl)
        have nhb0 : Below bp w V5 := by rw [hV5]; exact (blw_setL hb0 (by have := HBL.out; omega) 16 [.bool true])
        clear k1
        clear hb0
        clear hV5
        have k1 := nk1
        clear nk1
        have hb0 := nhb0
        clear nhb0
        go_end0
        first | exact ⟨k1, hb0⟩ | exact ⟨rfl, k1, hb0⟩
  · have c1_0 : U3.cell? ⟨bp, 0, none⟩ = some (.int .u64 (wd0 fn)) := k1.cell 0
    have c1_1 : U3.cell? ⟨bp, 1, none⟩ = some (.int .u64 (wd1 fn)) := k1.cell 1
    have c1_2 : U3.cell? ⟨bp, 2, none⟩ = some (.int .u64 (wd2 fn)) := k1.cell 2
    have c1_3 : U3.cell? ⟨bp, 3, none⟩ = some (.int .u64 (wd3 fn)) := k1.cell 3
    have c1_4 : U3.cell? ⟨bp, 4, none⟩ = some (.int .u64 (wd0 fd)) := k1.cell 4
    have c1_5 : U3.cell? ⟨bp, 5, none⟩ = some (.int .u64 (wd1 fd)) := k1.cell 5
    have c1_6 : U3.cell? ⟨bp, 6, none⟩ = some (.int .u64 (wd2 fd)) := k1.cell 6
    have c1_7 : U3.cell? ⟨bp, 7, none⟩ = some (.int .u64 (wd3 fd)) := k1.cell 7
    have c1_16 : U3.cell? ⟨bp, 16, none⟩ = some (.bool fo) := k1.cell 16
    have f1_0 := k1.free 0
    have f1_1 := k1.free 1
    have f1_2 := k1.free 2
    have f1_3 := k1.free 3
    have f1_4 := k1.free 4
    have f1_5 := k1.free 5
    have f1_6 := k1.free 6
    have f1_7 := k1.free 7
    have f1_16 := k1.free 16
    have l1 := k1.lt
    have c2_0 : U3.cell? ⟨w.heap.size, 0, none⟩ = some (.int .u64 (wd0 x)) := k2.cell 0
    have c2_1 : U3.cell? ⟨w.heap.size, 1, none⟩ = some (.int .u64 (wd1 x)) := k2.cell 1
    have c2_2 : U3.cell? ⟨w.heap.size, 2, none⟩ = some (.int .u64 (wd2 x)) := k2.cell 2
    have c2_3 : U3.cell? ⟨w.heap.size, 3, none⟩ = some (.int .u64 (wd3 x)) := k2.cell 3
    have c2_4 : U3.cell? ⟨w.heap.size, 4, none⟩ = some (.int .u64 (wd0 y)) := k2.cell 4
    have c2_5 : U3.cell? ⟨w.heap.size, 5, none⟩ = some (.int .u64 (wd1 y)) := k2.cell 5
    have c2_6 : U3.cell? ⟨w.heap.size, 6, none⟩ = some (.int .u64 (wd2 y)) := k2.cell 6
    have c2_7 : U3.cell? ⟨w.heap.size, 7, none⟩ = some (.int .u64 (wd3 y)) := k2.cell 7
    have l2 := k2.lt
    have p2_1 : w.heap.size ≠ bp := (by have := HBL.out; omega)
    have e0 : x = R0 := by rw [← HR0.out]; unfold frfn; (try rw [Hr1.out]); (try rw [hz2]); all_goals first | rfl | simp
    have e1 : y = R1 := by rw [← HR1.out]; unfold frfd; (try rw [Hr1.out]); (try rw [hz2]); all_goals first | rfl | simp
    have e2 : tn = R2 := by rw [← HR2.out]; unfold frtn; (try rw [Hr1.out]); (try rw [hz2]); all_goals first | rfl | simp
    have e3 : td = R3 := by rw [← HR3.out]; unfold frtd; (try rw [Hr1.out]); (try rw [hz2]); all_goals first | rfl | simp
    have e4 : o = R4 := by rw [← HR4.out]; unfold frfo; (try rw [Hr1.out]); (try rw [hz2]); all_goals first | rfl | simp
    have e5 : to = R5 := by rw [← HR5.out]; unfold frto; (try rw [Hr1.out]); (try rw [hz2]); all_goals first | rfl | simp
    subst e0
    subst e1
    subst e2
    subst e3
    subst e4
    subst e5
    go_wp2
    clear c1_0 c1_1 c1_2 c1_3 c1_4 c1_5 c1_6 c1_7 c1_16 f1_0 f1_1 f1_2 f1_3 f1_4 f1_5 f1_6 f1_7 f1_16 l1 c2_0 c2_1 c2_2 c2_3 c2_4 c2_5 c2_6 c2_7 l2 p2_1
    first | refine post_world ?_
    intro V6 hV6
    clear k2
    have D5 := Lib.hid k1.lt
    have D6 := Lib.hid hb0.size
    have nk1 : Blk V6 bp #[.int .u64 (wd0 x), .int .u64 (wd1 x), .int .u64 (wd2 x), .int .u64 (wd3 x), .int .u64 (wd0 y), .int .u64 (wd1 y), .int .u64 (wd2 y), .int .u64 (wd3 y), .int .u64 (wd0 tn), .int .u64 (wd1 tn), .int .u64 (wd2 tn), .int .u64 (wd3 tn), .int .u64 (wd0 td), .int .u64 (wd1 td), .int .u64 (wd2 td), .int .u64 (wd3 td), .bool o, .bool to] 54 := by rw [hV6]; exact blk_eq ((blk_putL (blk_putL k1 0 [.int .u64 (wd0 x), .int .u64 (wd1 x), .int .u64 (wd2 x), .int .u64 (wd3 x), .int .u64 (wd0 y), .int .u64 (wd1 y), .int .u64 (wd2 y), .int .u64 (wd3 y)]) 16 [.bool o])) (by kernel_rfl)
    have nhb0 : Below bp w V6 := by rw [hV6]; exact (blw_setL (blw_setL hb0 (by have := HBL.out; omega) 0 [.int .u64 (wd0 x), .int .u64 (wd1 x), .int .u64 (wd2 x), .int .u64 (wd3 x), .int .u64 (wd0 y), .int .u64 (wd1 y), .int .u64 (wd2 y), .int .u64 (wd3 y)]) (by have := HBL.out; omega) 16 [.bool o])
    clear k1
    clear hb0
    clear hV6
    have k1 := nk1
    clear nk1
    have hb0 := nhb0
    clear nhb0
    go_end0
    first | exact ⟨k1, hb0⟩ | exact ⟨rfl, k1, hb0⟩

def tofn (fn : Int) (_fd : Int) (_tn : Int) (_td : Int) (_fo : Bool) (_to : Bool) (_x : Int) (_y : Int) (_o : Bool) : Int := fn

def tofd (_fn : Int) (fd : Int) (_tn : Int) (_td : Int) (_fo : Bool) (_to : Bool) (_x : Int) (_y : Int) (_o : Bool) : Int := fd

def totn (_fn : Int) (_fd : Int) (tn : Int) (td : Int) (_fo : Bool) (_to : Bool) (x : Int) (y : Int) (_o : Bool) : Int := (bif decide ((pxl x y tn td) < 0) then x else tn)

def totd (_fn : Int) (_fd : Int) (tn : Int) (td : Int) (_fo : Bool) (_to : Bool) (x : Int) (y : Int) (_o : Bool) : Int := (bif decide ((pxl x y tn td) < 0) then y else td)

def tofo (_fn : Int) (_fd : Int) (_tn : Int) (_td : Int) (fo : Bool) (_to : Bool) (_x : Int) (_y : Int) (_o : Bool) : Bool := fo

def toto (_fn : Int) (_fd : Int) (tn : Int) (td : Int) (_fo : Bool) (to : Bool) (x : Int) (y : Int) (o : Bool) : Bool := (bif decide ((pxl x y tn td) < 0) then o else (bif ((pxl x y tn td) == 0) then (bif to then true else o) else to))

theorem tofn_in (fn : Int) (fd : Int) (tn : Int) (td : Int) (fo : Bool) (to : Bool) (x : Int) (y : Int) (o : Bool) (_ifn : InI fn) (_ifd : InI fd) (_itn : InI tn) (_itd : InI td) (_ix : InI x) (_iy : InI y) : InI (tofn fn fd tn td fo to x y o) := by
  unfold tofn
  exact _ifn

theorem tofd_in (fn : Int) (fd : Int) (tn : Int) (td : Int) (fo : Bool) (to : Bool) (x : Int) (y : Int) (o : Bool) (_ifn : InI fn) (_ifd : InI fd) (_itn : InI tn) (_itd : InI td) (_ix : InI x) (_iy : InI y) : InI (tofd fn fd tn td fo to x y o) := by
  unfold tofd
  exact _ifd

theorem totn_in (fn : Int) (fd : Int) (tn : Int) (td : Int) (fo : Bool) (to : Bool) (x : Int) (y : Int) (o : Bool) (_ifn : InI fn) (_ifd : InI fd) (_itn : InI tn) (_itd : InI td) (_ix : InI x) (_iy : InI y) : InI (totn fn fd tn td fo to x y o) := by
  unfold totn
  exact (cond_in _ix _itn)

theorem totd_in (fn : Int) (fd : Int) (tn : Int) (td : Int) (fo : Bool) (to : Bool) (x : Int) (y : Int) (o : Bool) (_ifn : InI fn) (_ifd : InI fd) (_itn : InI tn) (_itd : InI td) (_ix : InI x) (_iy : InI y) : InI (totd fn fd tn td fo to x y o) := by
  unfold totd
  exact (cond_in _iy _itd)

set_option maxRecDepth 100000 in
set_option maxHeartbeats 4000000 in

theorem pxto_is (fn : Int) (fd : Int) (tn : Int) (td : Int) (fo : Bool) (to : Bool) (x : Int) (y : Int) (o : Bool)  (R0 : Int) (R1 : Int) (R2 : Int) (R3 : Int) (R4 : Bool) (R5 : Bool) (hR0 : tofn fn fd tn td fo to x y o = R0) (hR1 : tofd fn fd tn td fo to x y o = R1) (hR2 : totn fn fd tn td fo to x y o = R2) (hR3 : totd fn fd tn td fo to x y o = R3) (hR4 : tofo fn fd tn td fo to x y o = R4) (hR5 : toto fn fd tn td fo to x y o = R5) (_ifn : InI fn) (_ifd : InI fd) (_itn : InI tn) (_itd : InI td) (_ix : InI x) (_iy : InI y) (bp : Nat) (w : World) (hkp : Blk w bp #[.int .u64 (wd0 fn), .int .u64 (wd1 fn), .int .u64 (wd2 fn), .int .u64 (wd3 fn), .int .u64 (wd0 fd), .int .u64 (wd1 fd), .int .u64 (wd2 fd), .int .u64 (wd3 fd), .int .u64 (wd0 tn), .int .u64 (wd1 tn), .int .u64 (wd2 tn), .int .u64 (wd3 tn), .int .u64 (wd0 td), .int .u64 (wd1 td), .int .u64 (wd2 td), .int .u64 (wd3 td), .bool fo, .bool to] 54) :
    Calls Try.prog 127 #[.pointer (some ⟨bp, 0, none⟩), .agg #[.int .u64 (wd0 x), .int .u64 (wd1 x), .int .u64 (wd2 x), .int .u64 (wd3 x), .int .u64 (wd0 y), .int .u64 (wd1 y), .int .u64 (wd2 y), .int .u64 (wd3 y)], .bool o] w fun e w' => e = .returned (.tuple #[]) ∧ Blk w' bp #[.int .u64 (wd0 R0), .int .u64 (wd1 R0), .int .u64 (wd2 R0), .int .u64 (wd3 R0), .int .u64 (wd0 R1), .int .u64 (wd1 R1), .int .u64 (wd2 R1), .int .u64 (wd3 R1), .int .u64 (wd0 R2), .int .u64 (wd1 R2), .int .u64 (wd2 R2), .int .u64 (wd3 R2), .int .u64 (wd0 R3), .int .u64 (wd1 R3), .int .u64 (wd2 R3), .int .u64 (wd3 R3), .bool R4, .bool R5] 54 ∧ Below bp w w' := by

  have HBL := Lib.hid hkp.lt
  have k1 := hkp
  clear hkp
  have HR0 := Lib.hid hR0
  clear hR0
  have HR1 := Lib.hid hR1
  clear hR1
  have HR2 := Lib.hid hR2
  clear hR2
  have HR3 := Lib.hid hR3
  clear hR3
  have HR4 := Lib.hid hR4
  clear hR4
  have HR5 := Lib.hid hR5
  clear hR5
  go_enter Try.func127, Try.ntmps127
  go_wp2_with fail
  first | refine calls_w ?_ | refine name_world ?_ | refine list_world ?_ | refine post_world ?_
  intro V1 hV1
  have hn : Below w.heap.size w V1 := by rw [hV1]; exact below_a1 _ _
  have nk1 := k1.of hn
  have nhb0 := hn.mono (Nat.le_of_lt HBL.out)
  have k2 : Blk V1 w.heap.size #[.int .u64 (wd0 x), .int .u64 (wd1 x), .int .u64 (wd2 x), .int .u64 (wd3 x), .int .u64 (wd0 y), .int .u64 (wd1 y), .int .u64 (wd2 y), .int .u64 (wd3 y)] 52 := by rw [hV1]; exact (Blk.new _ _ _)
  clear k1
  clear hV1
  have k1 := nk1
  clear nk1
  have hb0 := nhb0
  clear nhb0
  have c1_8 : V1.cell? ⟨bp, 8, none⟩ = some (.int .u64 (wd0 tn)) := k1.cell 8
  have c1_9 : V1.cell? ⟨bp, 9, none⟩ = some (.int .u64 (wd1 tn)) := k1.cell 9
  have c1_10 : V1.cell? ⟨bp, 10, none⟩ = some (.int .u64 (wd2 tn)) := k1.cell 10
  have c1_11 : V1.cell? ⟨bp, 11, none⟩ = some (.int .u64 (wd3 tn)) := k1.cell 11
  have c1_12 : V1.cell? ⟨bp, 12, none⟩ = some (.int .u64 (wd0 td)) := k1.cell 12
  have c1_13 : V1.cell? ⟨bp, 13, none⟩ = some (.int .u64 (wd1 td)) := k1.cell 13
  have c1_14 : V1.cell? ⟨bp, 14, none⟩ = some (.int .u64 (wd2 td)) := k1.cell 14
  have c1_15 : V1.cell? ⟨bp, 15, none⟩ = some (.int .u64 (wd3 td)) := k1.cell 15
  have l1 := k1.lt
  have c2_0 : V1.cell? ⟨w.heap.size, 0, none⟩ = some (.int .u64 (wd0 x)) := k2.cell 0
  have c2_1 : V1.cell? ⟨w.heap.size, 1, none⟩ = some (.int .u64 (wd1 x)) := k2.cell 1
  have c2_2 : V1.cell? ⟨w.heap.size, 2, none⟩ = some (.int .u64 (wd2 x)) := k2.cell 2
  have c2_3 : V1.cell? ⟨w.heap.size, 3, none⟩ = some (.int .u64 (wd3 x)) := k2.cell 3
  have c2_4 : V1.cell? ⟨w.heap.size, 4, none⟩ = some (.int .u64 (wd0 y)) := k2.cell 4
  have c2_5 : V1.cell? ⟨w.heap.size, 5, none⟩ = some (.int .u64 (wd1 y)) := k2.cell 5
  have c2_6 : V1.cell? ⟨w.heap.size, 6, none⟩ = some (.int .u64 (wd2 y)) := k2.cell 6
  have c2_7 : V1.cell? ⟨w.heap.size, 7, none⟩ = some (.int .u64 (wd3 y)) := k2.cell 7
  have l2 := k2.lt
  have Kk1 := Lib.hid k1
  clear k1
  have Kk2 := Lib.hid k2
  clear k2
  refine wp_region_up V1.heap.size 5 [(true, 0), (true, 1), (true, 2), (true, 3), (true, 4)] (by kernel_rfl) (by kernel_rfl) (fun _ _ d _ _ h => by cases d <;> exact h) ?_
  have hb : Below V1.heap.size V1 V1.drew := (Below.refl _ _).drew
  iterate 5
    first | refine wpS_takeL rfl rfl ?_ | refine wpS_takeN rfl ⟨_, rfl⟩ ?_
    go_big_quiet_step (rfl)
    refine wpQuiet_nil ?_
  refine wpS_nil ?_
  simp only [List.drop_succ_cons, List.drop_zero]
  first | refine calls_w ?_ | refine name_world ?_ | refine list_world ?_ | refine post_world ?_
  intro U2 hU2
  first | (subst hU2; have u_ := U2; clear u_) | (rw [← hU2] at hb; clear hU2)
  clear c1_8 c1_9 c1_10 c1_11 c1_12 c1_13 c1_14 c1_15 l1 c2_0 c2_1 c2_2 c2_3 c2_4 c2_5 c2_6 c2_7 l2
  have k1 := Kk1.out.of hb
  clear Kk1
  have k2 := Kk2.out.of hb
  clear Kk2
  replace hb0 := hb0.trans (hb.mono (Nat.le_trans (Nat.le_of_lt HBL.out) hb0.size))
  clear hb
  go_wp2_with fail
  obtain ⟨r1, hr1⟩ : ∃ o_o : Int, pxl x y tn td = o_o := ⟨_, rfl⟩
  have Hr1 := Lib.hid hr1
  clear hr1
  refine (pxls_is x y tn td r1 Hr1.out _ix _iy _itn _itd  _).mono ?_
  rintro e U3 ⟨rfl, hn⟩
  replace k1 := k1.of hn
  replace k2 := k2.of hn
  replace hb0 := hb0.trans (hn.mono (Nat.le_trans (Nat.le_of_lt HBL.out) hb0.size))
  clear hn
  obtain ⟨z2, hz2⟩ : ∃ o_o : Bool, decide (r1 < 0) = o_o := ⟨_, rfl⟩
  cases z2
  · obtain ⟨z3, hz3⟩ : ∃ o_o : Bool, (r1 == 0) = o_o := ⟨_, rfl⟩
    cases z3
    · have nz3 : ¬ r1 = 0 := by simpa using hz3
      have e0 : fn = R0 := by rw [← HR0.out]; unfold tofn; (try rw [Hr1.out]); (try rw [hz2]); (try rw [hz3]); all_goals first | rfl | simp
      have e1 : fd = R1 := by rw [← HR1.out]; unfold tofd; (try rw [Hr1.out]); (try rw [hz2]); (try rw [hz3]); all_goals first | rfl | simp
      have e2 : tn = R2 := by rw [← HR2.out]; unfold totn; (try rw [Hr1.out]); (try rw [hz2]); (try rw [hz3]); all_goals first | rfl | simp
      have e3 : td = R3 := by rw [← HR3.out]; unfold totd; (try rw [Hr1.out]); (try rw [hz2]); (try rw [hz3]); all_goals first | rfl | simp
      have e4 : fo = R4 := by rw [← HR4.out]; unfold tofo; (try rw [Hr1.out]); (try rw [hz2]); (try rw [hz3]); all_goals first | rfl | simp
      have e5 : to = R5 := by rw [← HR5.out]; unfold toto; (try rw [Hr1.out]); (try rw [hz2]); (try rw [hz3]); all_goals first | rfl | simp
      subst e0
      subst e1
      subst e2
      subst e3
      subst e4
      subst e5
      go_wp2
      go_end0
      exact ⟨by first | rfl | simp, k1, hb0⟩
    · obtain rfl : r1 = 0 := by simpa using hz3
      clear hz3
      cases to
      · have c1_17 : U3.cell? ⟨bp, 17, none⟩ = some (.bool false) := k1.cell 17
        have f1_17 := k1.free 17
        have l1 := k1.lt
        have e0 : fn = R0 := by rw [← HR0.out]; unfold tofn; (try rw [Hr1.out]); (try rw [hz2]); all_goals first | rfl | simp
        have e1 : fd = R1 := by rw [← HR1.out]; unfold tofd; (try rw [Hr1.out]); (try rw [hz2]); all_goals first | rfl | simp
        have e2 : tn = R2 := by rw [← HR2.out]; unfold totn; (try rw [Hr1.out]); (try rw [hz2]); all_goals first | rfl | simp
        have e3 : td = R3 := by rw [← HR3.out]; unfold totd; (try rw [Hr1.out]); (try rw [hz2]); all_goals first | rfl | simp
        have e4 : fo = R4 := by rw [← HR4.out]; unfold tofo; (try rw [Hr1.out]); (try rw [hz2]); all_goals first | rfl | simp
        have e5 : o = R5 := by rw [← HR5.out]; unfold toto; (try rw [Hr1.out]); (try rw [hz2]); all_goals first | rfl | simp
        subst e0
        subst e1
        subst e2
        subst e3
        subst e4
        subst e5
        go_wp2
        clear c1_17 f1_17 l1
        first | refine post_world ?_
        intro V4 hV4
        clear k2
        have D1 := Lib.hid k1.lt
        have D2 := Lib.hid hb0.size
        have nk1 : Blk V4 bp #[.int .u64 (wd0 fn), .int .u64 (wd1 fn), .int .u64 (wd2 fn), .int .u64 (wd3 fn), .int .u64 (wd0 fd), .int .u64 (wd1 fd), .int .u64 (wd2 fd), .int .u64 (wd3 fd), .int .u64 (wd0 tn), .int .u64 (wd1 tn), .int .u64 (wd2 tn), .int .u64 (wd3 tn), .int .u64 (wd0 td), .int .u64 (wd1 td), .int .u64 (wd2 td), .int .u64 (wd3 td), .bool fo, .bool o] 54 := by rw [hV4]; exact blk_eq ((blk_putL k1 17 [.bool o])) (by kernel_rfl)
        have nhb0 : Below bp w V4 := by rw [hV4]; exact (blw_setL hb0 (by have := HBL.out; omega) 17 [.bool o])
        clear k1
        clear hb0
        clear hV4
        have k1 := nk1
        clear nk1
        have hb0 := nhb0
        clear nhb0
        go_end0
        first | exact ⟨k1, hb0⟩ | exact ⟨rfl, k1, hb0⟩
      · have c1_17 : U3.cell? ⟨bp, 17, none⟩ = some (.bool true) := k1.cell 17
        have f1_17 := k1.free 17
        have l1 := k1.lt
        have e0 : fn = R0 := by rw [← HR0.out]; unfold tofn; (try rw [Hr1.out]); (try rw [hz2]); all_goals first | rfl | simp
        have e1 : fd = R1 := by rw [← HR1.out]; unfold tofd; (try rw [Hr1.out]); (try rw [hz2]); all_goals first | rfl | simp
        have e2 : tn = R2 := by rw [← HR2.out]; unfold totn; (try rw [Hr1.out]); (try rw [hz2]); all_goals first | rfl | simp
        have e3 : td = R3 := by rw [← HR3.out]; unfold totd; (try rw [Hr1.out]); (try rw [hz2]); all_goals first | rfl | simp
        have e4 : fo = R4 := by rw [← HR4.out]; unfold tofo; (try rw [Hr1.out]); (try rw [hz2]); all_goals first | rfl | simp
        have e5 : true = R5 := by rw [← HR5.out]; unfold toto; (try rw [Hr1.out]); (try rw [hz2]); all_goals first | rfl | simp
        subst e0
        subst e1
        subst e2
        subst e3
        subst e4
        subst e5
        go_wp2
        clear c1_17 f1_17 l1
        first | refine post_world ?_
        intro V5 hV5
        clear k2
        have D3 := Lib.hid k1.lt
        have D4 := Lib.hid hb0.size
        have nk1 : Blk V5 bp #[.int .u64 (wd0 fn), .int .u64 (wd1 fn), .int .u64 (wd2 fn), .int .u64 (wd3 fn), .int .u64 (wd0 fd), .int .u64 (wd1 fd), .int .u64 (wd2 fd), .int .u64 (wd3 fd), .int .u64 (wd0 tn), .int .u64 (wd1 tn), .int .u64 (wd2 tn), .int .u64 (wd3 tn), .int .u64 (wd0 td), .int .u64 (wd1 td), .int .u64 (wd2 td), .int .u64 (wd3 td), .bool fo, .bool true] 54 := by rw [hV5]; exact blk_eq ((blk_putL k1 17 [.bool true])) (by kernel_rfl)
        have nhb0 : Below bp w V5 := by rw [hV5]; exact (blw_setL hb0 (by have := HBL.out; omega) 17 [.bool true])
        clear k1
        clear hb0
        clear hV5
        have k1 := nk1
        clear nk1
        have hb0 := nhb0
        clear nhb0
        go_end0
        first | exact ⟨k1, hb0⟩ | exact ⟨rfl, k1, hb0⟩
  · have c1_8 : U3.cell? ⟨bp, 8, none⟩ = some (.int .u64 (wd0 tn)) := k1.cell 8
    have c1_9 : U3.cell? ⟨bp, 9, none⟩ = some (.int .u64 (wd1 tn)) := k1.cell 9
    have c1_10 : U3.cell? ⟨bp, 10, none⟩ = some (.int .u64 (wd2 tn)) := k1.cell 10
    have c1_11 : U3.cell? ⟨bp, 11, none⟩ = some (.int .u64 (wd3 tn)) := k1.cell 11
    have c1_12 : U3.cell? ⟨bp, 12, none⟩ = some (.int .u64 (wd0 td)) := k1.cell 12
    have c1_13 : U3.cell? ⟨bp, 13, none⟩ = some (.int .u64 (wd1 td)) := k1.cell 13
    have c1_14 : U3.cell? ⟨bp, 14, none⟩ = some (.int .u64 (wd2 td)) := k1.cell 14
    have c1_15 : U3.cell? ⟨bp, 15, none⟩ = some (.int .u64 (wd3 td)) := k1.cell 15
    have c1_17 : U3.cell? ⟨bp, 17, none⟩ = some (.bool to) := k1.cell 17
    have f1_8 := k1.free 8
    have f1_9 := k1.free 9
    have f1_10 := k1.free 10
    have f1_11 := k1.free 11
    have f1_12 := k1.free 12
    have f1_13 := k1.free 13
    have f1_14 := k1.free 14
    have f1_15 := k1.free 15
    have f1_17 := k1.free 17
    have l1 := k1.lt
    have c2_0 : U3.cell? ⟨w.heap.size, 0, none⟩ = some (.int .u64 (wd0 x)) := k2.cell 0
    have c2_1 : U3.cell? ⟨w.heap.size, 1, none⟩ = some (.int .u64 (wd1 x)) := k2.cell 1
    have c2_2 : U3.cell? ⟨w.heap.size, 2, none⟩ = some (.int .u64 (wd2 x)) := k2.cell 2
    have c2_3 : U3.cell? ⟨w.heap.size, 3, none⟩ = some (.int .u64 (wd3 x)) := k2.cell 3
    have c2_4 : U3.cell? ⟨w.heap.size, 4, none⟩ = some (.int .u64 (wd0 y)) := k2.cell 4
    have c2_5 : U3.cell? ⟨w.heap.size, 5, none⟩ = some (.int .u64 (wd1 y)) := k2.cell 5
    have c2_6 : U3.cell? ⟨w.heap.size, 6, none⟩ = some (.int .u64 (wd2 y)) := k2.cell 6
    have c2_7 : U3.cell? ⟨w.heap.size, 7, none⟩ = some (.int .u64 (wd3 y)) := k2.cell 7
    have l2 := k2.lt
    have p2_1 : w.heap.size ≠ bp := (by have := HBL.out; omega)
    have e0 : fn = R0 := by rw [← HR0.out]; unfold tofn; (try rw [Hr1.out]); (try rw [hz2]); all_goals first | rfl | simp
    have e1 : fd = R1 := by rw [← HR1.out]; unfold tofd; (try rw [Hr1.out]); (try rw [hz2]); all_goals first | rfl | simp
    have e2 : x = R2 := by rw [← HR2.out]; unfold totn; (try rw [Hr1.out]); (try rw [hz2]); all_goals first | rfl | simp
    have e3 : y = R3 := by rw [← HR3.out]; unfold totd; (try rw [Hr1.out]); (try rw [hz2]); all_goals first | rfl | simp
    have e4 : fo = R4 := by rw [← HR4.out]; unfold tofo; (try rw [Hr1.out]); (try rw [hz2]); all_goals first | rfl | simp
    have e5 : o = R5 := by rw [← HR5.out]; unfold toto; (try rw [Hr1.out]); (try rw [hz2]); all_goals first | rfl | simp
    subst e0
    subst e1
    subst e2
    subst e3
    subst e4
    subst e5
    go_wp2
    clear c1_8 c1_9 c1_10 c1_11 c1_12 c1_13 c1_14 c1_15 c1_17 f1_8 f1_9 f1_10 f1_11 f1_12 f1_13 f1_14 f1_15 f1_17 l1 c2_0 c2_1 c2_2 c2_3 c2_4 c2_5 c2_6 c2_7 l2 p2_1
    first | refine post_world ?_
    intro V6 hV6
    clear k2
    have D5 := Lib.hid k1.lt
    have D6 := Lib.hid hb0.size
    have nk1 : Blk V6 bp #[.int .u64 (wd0 fn), .int .u64 (wd1 fn), .int .u64 (wd2 fn), .int .u64 (wd3 fn), .int .u64 (wd0 fd), .int .u64 (wd1 fd), .int .u64 (wd2 fd), .int .u64 (wd3 fd), .int .u64 (wd0 x), .int .u64 (wd1 x), .int .u64 (wd2 x), .int .u64 (wd3 x), .int .u64 (wd0 y), .int .u64 (wd1 y), .int .u64 (wd2 y), .int .u64 (wd3 y), .bool fo, .bool o] 54 := by rw [hV6]; exact blk_eq ((blk_putL (blk_putL k1 8 [.int .u64 (wd0 x), .int .u64 (wd1 x), .int .u64 (wd2 x), .int .u64 (wd3 x), .int .u64 (wd0 y), .int .u64 (wd1 y), .int .u64 (wd2 y), .int .u64 (wd3 y)]) 17 [.bool o])) (by kernel_rfl)
    have nhb0 : Below bp w V6 := by rw [hV6]; exact (blw_setL (blw_setL hb0 (by have := HBL.out; omega) 8 [.int .u64 (wd0 x), .int .u64 (wd1 x), .int .u64 (wd2 x), .int .u64 (wd3 x), .int .u64 (wd0 y), .int .u64 (wd1 y), .int .u64 (wd2 y), .int .u64 (wd3 y)]) (by have := HBL.out; omega) 17 [.bool o])
    clear k1
    clear hb0
    clear hV6
    have k1 := nk1
    clear nk1
    have hb0 := nhb0
    clear nhb0
    go_end0
    first | exact ⟨k1, hb0⟩ | exact ⟨rfl, k1, hb0⟩

def smk_ (fn : Int) (fd : Int) (tn : Int) (td : Int) (fo : Bool) (to : Bool) : Bool := (bif decide ((pxl fn fd tn td) < 0) then true else (bif ((pxl fn fd tn td) == 0) then (bif fo then false else (!to)) else false))

def smfn (fn : Int) (_fd : Int) (_tn : Int) (_td : Int) (_fo : Bool) (_to : Bool) : Int := fn

def smfd (_fn : Int) (fd : Int) (_tn : Int) (_td : Int) (_fo : Bool) (_to : Bool) : Int := fd

def smtn (_fn : Int) (_fd : Int) (tn : Int) (_td : Int) (_fo : Bool) (_to : Bool) : Int := tn

def smtd (_fn : Int) (_fd : Int) (_tn : Int) (td : Int) (_fo : Bool) (_to : Bool) : Int := td

def smfo (fn : Int) (fd : Int) (tn : Int) (td : Int) (fo : Bool) (_to : Bool) : Bool := (bif decide ((pxl fn fd tn td) < 0) then fo else (bif ((pxl fn fd tn td) == 0) then (bif fo then true else false) else fo))

def smto (_fn : Int) (_fd : Int) (_tn : Int) (_td : Int) (_fo : Bool) (to : Bool) : Bool := to

set_option maxRecDepth 100000 in
set_option maxHeartbeats 4000000 in

theorem pxsm_is (fn : Int) (fd : Int) (tn : Int) (td : Int) (fo : Bool) (to : Bool)  (R0 : Bool) (R1 : Int) (R2 : Int) (R3 : Int) (R4 : Int) (R5 : Bool) (R6 : Bool) (hR0 : smk_ fn fd tn td fo to = R0) (hR1 : smfn fn fd tn td fo to = R1) (hR2 : smfd fn fd tn td fo to = R2) (hR3 : smtn fn fd tn td fo to = R3) (hR4 : smtd fn fd tn td fo to = R4) (hR5 : smfo fn fd tn td fo to = R5) (hR6 : smto fn fd tn td fo to = R6) (_ifn : InI fn) (_ifd : InI fd) (_itn : InI tn) (_itd : InI td) (bp : Nat) (w : World) (hkp : Blk w bp #[.int .u64 (wd0 fn), .int .u64 (wd1 fn), .int .u64 (wd2 fn), .int .u64 (wd3 fn), .int .u64 (wd0 fd), .int .u64 (wd1 fd), .int .u64 (wd2 fd), .int .u64 (wd3 fd), .int .u64 (wd0 tn), .int .u64 (wd1 tn), .int .u64 (wd2 tn), .int .u64 (wd3 tn), .int .u64 (wd0 td), .int .u64 (wd1 td), .int .u64 (wd2 td), .int .u64 (wd3 td), .bool fo, .bool to] 54) :
    Calls Try.prog 94 #[.pointer (some ⟨bp, 0, none⟩)] w fun e w' => e = .returned (.bool R0) ∧ Blk w' bp #[.int .u64 (wd0 R1), .int .u64 (wd1 R1), .int .u64 (wd2 R1), .int .u64 (wd3 R1), .int .u64 (wd0 R2), .int .u64 (wd1 R2), .int .u64 (wd2 R2), .int .u64 (wd3 R2), .int .u64 (wd0 R3), .int .u64 (wd1 R3), .int .u64 (wd2 R3), .int .u64 (wd3 R3), .int .u64 (wd0 R4), .int .u64 (wd1 R4), .int .u64 (wd2 R4), .int .u64 (wd3 R4), .bool R5, .bool R6] 54 ∧ Below bp w w' := by

  have HBL := Lib.hid hkp.lt
  have k1 := hkp
  clear hkp
  have HR0 := Lib.hid hR0
  clear hR0
  have HR1 := Lib.hid hR1
  clear hR1
  have HR2 := Lib.hid hR2
  clear hR2
  have HR3 := Lib.hid hR3
  clear hR3
  have HR4 := Lib.hid hR4
  clear hR4
  have HR5 := Lib.hid hR5
  clear hR5
  have HR6 := Lib.hid hR6
  clear hR6
  go_enter Try.func94, Try.ntmps94
  go_wp2_with fail
  have c1_0 : w.cell? ⟨bp, 0, none⟩ = some (.int .u64 (wd0 fn)) := k1.cell 0
  have c1_1 : w.cell? ⟨bp, 1, none⟩ = some (.int .u64 (wd1 fn)) := k1.cell 1
  have c1_2 : w.cell? ⟨bp, 2, none⟩ = some (.int .u64 (wd2 fn)) := k1.cell 2
  have c1_3 : w.cell? ⟨bp, 3, none⟩ = some (.int .u64 (wd3 fn)) := k1.cell 3
  have c1_4 : w.cell? ⟨bp, 4, none⟩ = some (.int .u64 (wd0 fd)) := k1.cell 4
  have c1_5 : w.cell? ⟨bp, 5, none⟩ = some (.int .u64 (wd1 fd)) := k1.cell 5
  have c1_6 : w.cell? ⟨bp, 6, none⟩ = some (.int .u64 (wd2 fd)) := k1.cell 6
  have c1_7 : w.cell? ⟨bp, 7, none⟩ = some (.int .u64 (wd3 fd)) := k1.cell 7
  have c1_8 : w.cell? ⟨bp, 8, none⟩ = some (.int .u64 (wd0 tn)) := k1.cell 8
  have c1_9 : w.cell? ⟨bp, 9, none⟩ = some (.int .u64 (wd1 tn)) := k1.cell 9
  have c1_10 : w.cell? ⟨bp, 10, none⟩ = some (.int .u64 (wd2 tn)) := k1.cell 10
  have c1_11 : w.cell? ⟨bp, 11, none⟩ = some (.int .u64 (wd3 tn)) := k1.cell 11
  have c1_12 : w.cell? ⟨bp, 12, none⟩ = some (.int .u64 (wd0 td)) := k1.cell 12
  have c1_13 : w.cell? ⟨bp, 13, none⟩ = some (.int .u64 (wd1 td)) := k1.cell 13
  have c1_14 : w.cell? ⟨bp, 14, none⟩ = some (.int .u64 (wd2 td)) := k1.cell 14
  have c1_15 : w.cell? ⟨bp, 15, none⟩ = some (.int .u64 (wd3 td)) := k1.cell 15
  have l1 := k1.lt
  have Kk1 := Lib.hid k1
  clear k1
  refine wp_region_up w.heap.size 8 [(true, 0), (true, 1), (true, 2), (true, 3), (true, 4), (true, 5), (true, 6), (true, 7)] (by kernel_rfl) (by kernel_rfl) (fun _ _ d _ _ h => by cases d <;> exact h) ?_
  have hb : Below w.heap.size w w.drew := (Below.refl _ _).drew
  iterate 8
    first | refine wpS_takeL rfl rfl ?_ | refine wpS_takeN rfl ⟨_, rfl⟩ ?_
    go_big_quiet_step (rfl)
    refine wpQuiet_nil ?_
  refine wpS_nil ?_
  simp only [List.drop_succ_cons, List.drop_zero]
  first | refine calls_w ?_ | refine name_world ?_ | refine list_world ?_ | refine post_world ?_
  intro U1 hU1
  first | (subst hU1; have u_ := U1; clear u_) | (rw [← hU1] at hb; clear hU1)
  clear c1_0 c1_1 c1_2 c1_3 c1_4 c1_5 c1_6 c1_7 c1_8 c1_9 c1_10 c1_11 c1_12 c1_13 c1_14 c1_15 l1
  have k1 := Kk1.out.of hb
  clear Kk1
  have hb0 := hb.mono (Nat.le_of_lt HBL.out)
  clear hb
  go_wp2_with fail
  obtain ⟨r1, hr1⟩ : ∃ o_o : Int, pxl fn fd tn td = o_o := ⟨_, rfl⟩
  have Hr1 := Lib.hid hr1
  clear hr1
  refine (pxls_is fn fd tn td r1 Hr1.out _ifn _ifd _itn _itd  _).mono ?_
  rintro e U2 ⟨rfl, hn⟩
  replace k1 := k1.of hn
  replace hb0 := hb0.trans (hn.mono (Nat.le_trans (Nat.le_of_lt HBL.out) hb0.size))
  clear hn
  obtain ⟨z2, hz2⟩ : ∃ o_o : Bool, decide (r1 < 0) = o_o := ⟨_, rfl⟩
  cases z2
  · obtain ⟨z3, hz3⟩ : ∃ o_o : Bool, (r1 == 0) = o_o := ⟨_, rfl⟩
    cases z3
    · have nz3 : ¬ r1 = 0 := by simpa using hz3
      have e0 : false = R0 := by rw [← HR0.out]; unfold smk_; (try rw [Hr1.out]); (try rw [hz2]); (try rw [hz3]); all_goals first | rfl | simp
      have e1 : fn = R1 := by rw [← HR1.out]; unfold smfn; (try rw [Hr1.out]); (try rw [hz2]); (try rw [hz3]); all_goals first | rfl | simp
      have e2 : fd = R2 := by rw [← HR2.out]; unfold smfd; (try rw [Hr1.out]); (try rw [hz2]); (try rw [hz3]); all_goals first | rfl | simp
      have e3 : tn = R3 := by rw [← HR3.out]; unfold smtn; (try rw [Hr1.out]); (try rw [hz2]); (try rw [hz3]); all_goals first | rfl | simp
      have e4 : td = R4 := by rw [← HR4.out]; unfold smtd; (try rw [Hr1.out]); (try rw [hz2]); (try rw [hz3]); all_goals first | rfl | simp
      have e5 : fo = R5 := by rw [← HR5.out]; unfold smfo; (try rw [Hr1.out]); (try rw [hz2]); (try rw [hz3]); all_goals first | rfl | simp
      have e6 : to = R6 := by rw [← HR6.out]; unfold smto; (try rw [Hr1.out]); (try rw [hz2]); (try rw [hz3]); all_goals first | rfl | simp
      subst e0
      subst e1
      subst e2
      subst e3
      subst e4
      subst e5
      subst e6
      go_wp2
      first | go_ret | go_ret2
      exact ⟨by first | rfl | simp, k1, hb0⟩
    · obtain rfl : r1 = 0 := by simpa using hz3
      clear hz3
      cases fo
      · have c1_16 : U2.cell? ⟨bp, 16, none⟩ = some (.bool false) := k1.cell 16
        have c1_17 : U2.cell? ⟨bp, 17, none⟩ = some (.bool to) := k1.cell 17
        have l1 := k1.lt
        have e0 : (!to) = R0 := by rw [← HR0.out]; unfold smk_; (try rw [Hr1.out]); (try rw [hz2]); all_goals first | rfl | simp
        have e1 : fn = R1 := by rw [← HR1.out]; unfold smfn; (try rw [Hr1.out]); (try rw [hz2]); all_goals first | rfl | simp
        have e2 : fd = R2 := by rw [← HR2.out]; unfold smfd; (try rw [Hr1.out]); (try rw [hz2]); all_goals first | rfl | simp
        have e3 : tn = R3 := by rw [← HR3.out]; unfold smtn; (try rw [Hr1.out]); (try rw [hz2]); all_goals first | rfl | simp
        have e4 : td = R4 := by rw [← HR4.out]; unfold smtd; (try rw [Hr1.out]); (try rw [hz2]); all_goals first | rfl | simp
        have e5 : false = R5 := by rw [← HR5.out]; unfold smfo; (try rw [Hr1.out]); (try rw [hz2]); all_goals first | rfl | simp
        have e6 : to = R6 := by rw [← HR6.out]; unfold smto; (try rw [Hr1.out]); (try rw [hz2]); all_goals first | rfl | simp
        subst e0
        subst e1
        subst e2
        subst e3
        subst e4
        subst e5
        subst e6
        go_wp2
        clear c1_16 c1_17 l1
        first | go_ret | go_ret2
        exact ⟨by first | rfl | simp, k1, hb0⟩
      · have c1_16 : U2.cell? ⟨bp, 16, none⟩ = some (.bool true) := k1.cell 16
        have l1 := k1.lt
        have e0 : false = R0 := by rw [← HR0.out]; unfold smk_; (try rw [Hr1.out]); (try rw [hz2]); all_goals first | rfl | simp
        have e1 : fn = R1 := by rw [← HR1.out]; unfold smfn; (try rw [Hr1.out]); (try rw [hz2]); all_goals first | rfl | simp
        have e2 : fd = R2 := by rw [← HR2.out]; unfold smfd; (try rw [Hr1.out]); (try rw [hz2]); all_goals first | rfl | simp
        have e3 : tn = R3 := by rw [← HR3.out]; unfold smtn; (try rw [Hr1.out]); (try rw [hz2]); all_goals first | rfl | simp
        have e4 : td = R4 := by rw [← HR4.out]; unfold smtd; (try rw [Hr1.out]); (try rw [hz2]); all_goals first | rfl | simp
        have e5 : true = R5 := by rw [← HR5.out]; unfold smfo; (try rw [Hr1.out]); (try rw [hz2]); all_goals first | rfl | simp
        have e6 : to = R6 := by rw [← HR6.out]; unfold smto; (try rw [Hr1.out]); (try rw [hz2]); all_goals first | rfl | simp
        subst e0
        subst e1
        subst e2
        subst e3
        subst e4
        subst e5
        subst e6
        go_wp2
        clear c1_16 l1
        first | go_ret | go_ret2
        exact ⟨by first | rfl | simp, k1, hb0⟩
  · have e0 : true = R0 := by rw [← HR0.out]; unfold smk_; (try rw [Hr1.out]); (try rw [hz2]); all_goals first | rfl | simp
    have e1 : fn = R1 := by rw [← HR1.out]; unfold smfn; (try rw [Hr1.out]); (try rw [hz2]); all_goals first | rfl | simp
    have e2 : fd = R2 := by rw [← HR2.out]; unfold smfd; (try rw [Hr1.out]); (try rw [hz2]); all_goals first | rfl | simp
    have e3 : tn = R3 := by rw [← HR3.out]; unfold smtn; (try rw [Hr1.out]); (try rw [hz2]); all_goals first | rfl | simp
    have e4 : td = R4 := by rw [← HR4.out]; unfold smtd; (try rw [Hr1.out]); (try rw [hz2]); all_goals first | rfl | simp
    have e5 : fo = R5 := by rw [← HR5.out]; unfold smfo; (try rw [Hr1.out]); (try rw [hz2]); all_goals first | rfl | simp
    have e6 : to = R6 := by rw [← HR6.out]; unfold smto; (try rw [Hr1.out]); (try rw [hz2]); all_goals first | rfl | simp
    subst e0
    subst e1
    subst e2
    subst e3
    subst e4
    subst e5
    subst e6
    go_wp2
    first | go_ret | go_ret2
    exact ⟨by first | rfl | simp, k1, hb0⟩
end Go.Proofs.Ytlcbomjdbdgbmaa

namespace Go.Proofs.Ytlcbomjdbdgbmaa
open Go.RowKit

def bak (_fn : Int) (_fd : Int) (_tn : Int) (_td : Int) (_fo : Bool) (_to : Bool) (a : Int) (b : Int) (c : Int) (d : Int) : Bool := (bif decide (0 < (wrap64 (2 * b))) then true else (bif decide ((wrap64 (2 * b)) < 0) then true else (bif decide (c ≤ (wrap64 (2 * a))) then decide ((wrap64 (2 * a)) < d) else false)))

def bafn (fn : Int) (fd : Int) (tn : Int) (td : Int) (fo : Bool) (to : Bool) (a : Int) (b : Int) (c : Int) (d : Int) : Int := (bif decide (0 < (wrap64 (2 * b))) then (tofn (frfn fn fd tn td fo to (pxbn (wrap64 (c - (wrap64 (2 * a)))) (wrap64 (2 * b))) (pxbd (wrap64 (c - (wrap64 (2 * a)))) (wrap64 (2 * b))) false) (frfd fn fd tn td fo to (pxbn (wrap64 (c - (wrap64 (2 * a)))) (wrap64 (2 * b))) (pxbd (wrap64 (c - (wrap64 (2 * a)))) (wrap64 (2 * b))) false) (frtn fn fd tn td fo to (pxbn (wrap64 (c - (wrap64 (2 * a)))) (wrap64 (2 * b))) (pxbd (wrap64 (c - (wrap64 (2 * a)))) (wrap64 (2 * b))) false) (frtd fn fd tn td fo to (pxbn (wrap64 (c - (wrap64 (2 * a)))) (wrap64 (2 * b))) (pxbd (wrap64 (c - (wrap64 (2 * a)))) (wrap64 (2 * b))) false) (frfo fn fd tn td fo to (pxbn (wrap64 (c - (wrap64 (2 * a)))) (wrap64 (2 * b))) (pxbd (wrap64 (c - (wrap64 (2 * a)))) (wrap64 (2 * b))) false) (frto fn fd tn td fo to (pxbn (wrap64 (c - (wrap64 (2 * a)))) (wrap64 (2 * b))) (pxbd (wrap64 (c - (wrap64 (2 * a)))) (wrap64 (2 * b))) false) (pxbn (wrap64 (d - (wrap64 (2 * a)))) (wrap64 (2 * b))) (pxbd (wrap64 (d - (wrap64 (2 * a)))) (wrap64 (2 * b))) true) else (bif decide ((wrap64 (2 * b)) < 0) then (tofn (frfn fn fd tn td fo to (pxbn (wrap64 ((wrap64 (2 * a)) - d)) (wrap64 (-(wrap64 (2 * b))))) (pxbd (wrap64 ((wrap64 (2 * a)) - d)) (wrap64 (-(wrap64 (2 * b))))) true) (frfd fn fd tn td fo to (pxbn (wrap64 ((wrap64 (2 * a)) - d)) (wrap64 (-(wrap64 (2 * b))))) (pxbd (wrap64 ((wrap64 (2 * a)) - d)) (wrap64 (-(wrap64 (2 * b))))) true) (frtn fn fd tn td fo to (pxbn (wrap64 ((wrap64 (2 * a)) - d)) (wrap64 (-(wrap64 (2 * b))))) (pxbd (wrap64 ((wrap64 (2 * a)) - d)) (wrap64 (-(wrap64 (2 * b))))) true) (frtd fn fd tn td fo to (pxbn (wrap64 ((wrap64 (2 * a)) - d)) (wrap64 (-(wrap64 (2 * b))))) (pxbd (wrap64 ((wrap64 (2 * a)) - d)) (wrap64 (-(wrap64 (2 * b))))) true) (frfo fn fd tn td fo to (pxbn (wrap64 ((wrap64 (2 * a)) - d)) (wrap64 (-(wrap64 (2 * b))))) (pxbd (wrap64 ((wrap64 (2 * a)) - d)) (wrap64 (-(wrap64 (2 * b))))) true) (frto fn fd tn td fo to (pxbn (wrap64 ((wrap64 (2 * a)) - d)) (wrap64 (-(wrap64 (2 * b))))) (pxbd (wrap64 ((wrap64 (2 * a)) - d)) (wrap64 (-(wrap64 (2 * b))))) true) (pxbn (wrap64 ((wrap64 (2 * a)) - c)) (wrap64 (-(wrap64 (2 * b))))) (pxbd (wrap64 ((wrap64 (2 * a)) - c)) (wrap64 (-(wrap64 (2 * b))))) false) else fn))

def bafd (fn : Int) (fd : Int) (tn : Int) (td : Int) (fo : Bool) (to : Bool) (a : Int) (b : Int) (c : Int) (d : Int) : Int := (bif decide (0 < (wrap64 (2 * b))) then (tofd (frfn fn fd tn td fo to (pxbn (wrap64 (c - (wrap64 (2 * a)))) (wrap64 (2 * b))) (pxbd (wrap64 (c - (wrap64 (2 * a)))) (wrap64 (2 * b))) false) (frfd fn fd tn td fo to (pxbn (wrap64 (c - (wrap64 (2 * a)))) (wrap64 (2 * b))) (pxbd (wrap64 (c - (wrap64 (2 * a)))) (wrap64 (2 * b))) false) (frtn fn fd tn td fo to (pxbn (wrap64 (c - (wrap64 (2 * a)))) (wrap64 (2 * b))) (pxbd (wrap64 (c - (wrap64 (2 * a)))) (wrap64 (2 * b))) false) (frtd fn fd tn td fo to (pxbn (wrap64 (c - (wrap64 (2 * a)))) (wrap64 (2 * b))) (pxbd (wrap64 (c - (wrap64 (2 * a)))) (wrap64 (2 * b))) false) (frfo fn fd tn td fo to (pxbn (wrap64 (c - (wrap64 (2 * a)))) (wrap64 (2 * b))) (pxbd (wrap64 (c - (wrap64 (2 * a)))) (wrap64 (2 * b))) false) (frto fn fd tn td fo to (pxbn (wrap64 (c - (wrap64 (2 * a)))) (wrap64 (2 * b))) (pxbd (wrap64 (c - (wrap64 (2 * a)))) (wrap64 (2 * b))) false) (pxbn (wrap64 (d - (wrap64 (2 * a)))) (wrap64 (2 * b))) (pxbd (wrap64 (d - (wrap64 (2 * a)))) (wrap64 (2 * b))) true) else (bif decide ((wrap64 (2 * b)) < 0) then (tofd (frfn fn fd tn td fo to (pxbn (wrap64 ((wrap64 (2 * a)) - d)) (wrap64 (-(wrap64 (2 * b))))) (pxbd (wrap64 ((wrap64 (2 * a)) - d)) (wrap64 (-(wrap64 (2 * b))))) true) (frfd fn fd tn td fo to (pxbn (wrap64 ((wrap64 (2 * a)) - d)) (wrap64 (-(wrap64 (2 * b))))) (pxbd (wrap64 ((wrap64 (2 * a)) - d)) (wrap64 (-(wrap64 (2 * b))))) true) (frtn fn fd tn td fo to (pxbn (wrap64 ((wrap64 (2 * a)) - d)) (wrap64 (-(wrap64 (2 * b))))) (pxbd (wrap64 ((wrap64 (2 * a)) - d)) (wrap64 (-(wrap64 (2 * b))))) true) (frtd fn fd tn td fo to (pxbn (wrap64 ((wrap64 (2 * a)) - d)) (wrap64 (-(wrap64 (2 * b))))) (pxbd (wrap64 ((wrap64 (2 * a)) - d)) (wrap64 (-(wrap64 (2 * b))))) true) (frfo fn fd tn td fo to (pxbn (wrap64 ((wrap64 (2 * a)) - d)) (wrap64 (-(wrap64 (2 * b))))) (pxbd (wrap64 ((wrap64 (2 * a)) - d)) (wrap64 (-(wrap64 (2 * b))))) true) (frto fn fd tn td fo to (pxbn (wrap64 ((wrap64 (2 * a)) - d)) (wrap64 (-(wrap64 (2 * b))))) (pxbd (wrap64 ((wrap64 (2 * a)) - d)) (wrap64 (-(wrap64 (2 * b))))) true) (pxbn (wrap64 ((wrap64 (2 * a)) - c)) (wrap64 (-(wrap64 (2 * b))))) (pxbd (wrap64 ((wrap64 (2 * a)) - c)) (wrap64 (-(wrap64 (2 * b))))) false) else fd))

def batn (fn : Int) (fd : Int) (tn : Int) (td : Int) (fo : Bool) (to : Bool) (a : Int) (b : Int) (c : Int) (d : Int) : Int := (bif decide (0 < (wrap64 (2 * b))) then (totn (frfn fn fd tn td fo to (pxbn (wrap64 (c - (wrap64 (2 * a)))) (wrap64 (2 * b))) (pxbd (wrap64 (c - (wrap64 (2 * a)))) (wrap64 (2 * b))) false) (frfd fn fd tn td fo to (pxbn (wrap64 (c - (wrap64 (2 * a)))) (wrap64 (2 * b))) (pxbd (wrap64 (c - (wrap64 (2 * a)))) (wrap64 (2 * b))) false) (frtn fn fd tn td fo to (pxbn (wrap64 (c - (wrap64 (2 * a)))) (wrap64 (2 * b))) (pxbd (wrap64 (c - (wrap64 (2 * a)))) (wrap64 (2 * b))) false) (frtd fn fd tn td fo to (pxbn (wrap64 (c - (wrap64 (2 * a)))) (wrap64 (2 * b))) (pxbd (wrap64 (c - (wrap64 (2 * a)))) (wrap64 (2 * b))) false) (frfo fn fd tn td fo to (pxbn (wrap64 (c - (wrap64 (2 * a)))) (wrap64 (2 * b))) (pxbd (wrap64 (c - (wrap64 (2 * a)))) (wrap64 (2 * b))) false) (frto fn fd tn td fo to (pxbn (wrap64 (c - (wrap64 (2 * a)))) (wrap64 (2 * b))) (pxbd (wrap64 (c - (wrap64 (2 * a)))) (wrap64 (2 * b))) false) (pxbn (wrap64 (d - (wrap64 (2 * a)))) (wrap64 (2 * b))) (pxbd (wrap64 (d - (wrap64 (2 * a)))) (wrap64 (2 * b))) true) else (bif decide ((wrap64 (2 * b)) < 0) then (totn (frfn fn fd tn td fo to (pxbn (wrap64 ((wrap64 (2 * a)) - d)) (wrap64 (-(wrap64 (2 * b))))) (pxbd (wrap64 ((wrap64 (2 * a)) - d)) (wrap64 (-(wrap64 (2 * b))))) true) (frfd fn fd tn td fo to (pxbn (wrap64 ((wrap64 (2 * a)) - d)) (wrap64 (-(wrap64 (2 * b))))) (pxbd (wrap64 ((wrap64 (2 * a)) - d)) (wrap64 (-(wrap64 (2 * b))))) true) (frtn fn fd tn td fo to (pxbn (wrap64 ((wrap64 (2 * a)) - d)) (wrap64 (-(wrap64 (2 * b))))) (pxbd (wrap64 ((wrap64 (2 * a)) - d)) (wrap64 (-(wrap64 (2 * b))))) true) (frtd fn fd tn td fo to (pxbn (wrap64 ((wrap64 (2 * a)) - d)) (wrap64 (-(wrap64 (2 * b))))) (pxbd (wrap64 ((wrap64 (2 * a)) - d)) (wrap64 (-(wrap64 (2 * b))))) true) (frfo fn fd tn td fo to (pxbn (wrap64 ((wrap64 (2 * a)) - d)) (wrap64 (-(wrap64 (2 * b))))) (pxbd (wrap64 ((wrap64 (2 * a)) - d)) (wrap64 (-(wrap64 (2 * b))))) true) (frto fn fd tn td fo to (pxbn (wrap64 ((wrap64 (2 * a)) - d)) (wrap64 (-(wrap64 (2 * b))))) (pxbd (wrap64 ((wrap64 (2 * a)) - d)) (wrap64 (-(wrap64 (2 * b))))) true) (pxbn (wrap64 ((wrap64 (2 * a)) - c)) (wrap64 (-(wrap64 (2 * b))))) (pxbd (wrap64 ((wrap64 (2 * a)) - c)) (wrap64 (-(wrap64 (2 * b))))) false) else tn))

def batd (fn : Int) (fd : Int) (tn : Int) (td : Int) (fo : Bool) (to : Bool) (a : Int) (b : Int) (c : Int) (d : Int) : Int := (bif decide (0 < (wrap64 (2 * b))) then (totd (frfn fn fd tn td fo to (pxbn (wrap64 (c - (wrap64 (2 * a)))) (wrap64 (2 * b))) (pxbd (wrap64 (c - (wrap64 (2 * a)))) (wrap64 (2 * b))) false) (frfd fn fd tn td fo to (pxbn (wrap64 (c - (wrap64 (2 * a)))) (wrap64 (2 * b))) (pxbd (wrap64 (c - (wrap64 (2 * a)))) (wrap64 (2 * b))) false) (frtn fn fd tn td fo to (pxbn (wrap64 (c - (wrap64 (2 * a)))) (wrap64 (2 * b))) (pxbd (wrap64 (c - (wrap64 (2 * a)))) (wrap64 (2 * b))) false) (frtd fn fd tn td fo to (pxbn (wrap64 (c - (wrap64 (2 * a)))) (wrap64 (2 * b))) (pxbd (wrap64 (c - (wrap64 (2 * a)))) (wrap64 (2 * b))) false) (frfo fn fd tn td fo to (pxbn (wrap64 (c - (wrap64 (2 * a)))) (wrap64 (2 * b))) (pxbd (wrap64 (c - (wrap64 (2 * a)))) (wrap64 (2 * b))) false) (frto fn fd tn td fo to (pxbn (wrap64 (c - (wrap64 (2 * a)))) (wrap64 (2 * b))) (pxbd (wrap64 (c - (wrap64 (2 * a)))) (wrap64 (2 * b))) false) (pxbn (wrap64 (d - (wrap64 (2 * a)))) (wrap64 (2 * b))) (pxbd (wrap64 (d - (wrap64 (2 * a)))) (wrap64 (2 * b))) true) else (bif decide ((wrap64 (2 * b)) < 0) then (totd (frfn fn fd tn td fo to (pxbn (wrap64 ((wrap64 (2 * a)) - d)) (wrap64 (-(wrap64 (2 * b))))) (pxbd (wrap64 ((wrap64 (2 * a)) - d)) (wrap64 (-(wrap64 (2 * b))))) true) (frfd fn fd tn td fo to (pxbn (wrap64 ((wrap64 (2 * a)) - d)) (wrap64 (-(wrap64 (2 * b))))) (pxbd (wrap64 ((wrap64 (2 * a)) - d)) (wrap64 (-(wrap64 (2 * b))))) true) (frtn fn fd tn td fo to (pxbn (wrap64 ((wrap64 (2 * a)) - d)) (wrap64 (-(wrap64 (2 * b))))) (pxbd (wrap64 ((wrap64 (2 * a)) - d)) (wrap64 (-(wrap64 (2 * b))))) true) (frtd fn fd tn td fo to (pxbn (wrap64 ((wrap64 (2 * a)) - d)) (wrap64 (-(wrap64 (2 * b))))) (pxbd (wrap64 ((wrap64 (2 * a)) - d)) (wrap64 (-(wrap64 (2 * b))))) true) (frfo fn fd tn td fo to (pxbn (wrap64 ((wrap64 (2 * a)) - d)) (wrap64 (-(wrap64 (2 * b))))) (pxbd (wrap64 ((wrap64 (2 * a)) - d)) (wrap64 (-(wrap64 (2 * b))))) true) (frto fn fd tn td fo to (pxbn (wrap64 ((wrap64 (2 * a)) - d)) (wrap64 (-(wrap64 (2 * b))))) (pxbd (wrap64 ((wrap64 (2 * a)) - d)) (wrap64 (-(wrap64 (2 * b))))) true) (pxbn (wrap64 ((wrap64 (2 * a)) - c)) (wrap64 (-(wrap64 (2 * b))))) (pxbd (wrap64 ((wrap64 (2 * a)) - c)) (wrap64 (-(wrap64 (2 * b))))) false) else td))

def bafo (fn : Int) (fd : Int) (tn : Int) (td : Int) (fo : Bool) (to : Bool) (a : Int) (b : Int) (c : Int) (d : Int) : Bool := (bif decide (0 < (wrap64 (2 * b))) then (tofo (frfn fn fd tn td fo to (pxbn (wrap64 (c - (wrap64 (2 * a)))) (wrap64 (2 * b))) (pxbd (wrap64 (c - (wrap64 (2 * a)))) (wrap64 (2 * b))) false) (frfd fn fd tn td fo to (pxbn (wrap64 (c - (wrap64 (2 * a)))) (wrap64 (2 * b))) (pxbd (wrap64 (c - (wrap64 (2 * a)))) (wrap64 (2 * b))) false) (frtn fn fd tn td fo to (pxbn (wrap64 (c - (wrap64 (2 * a)))) (wrap64 (2 * b))) (pxbd (wrap64 (c - (wrap64 (2 * a)))) (wrap64 (2 * b))) false) (frtd fn fd tn td fo to (pxbn (wrap64 (c - (wrap64 (2 * a)))) (wrap64 (2 * b))) (pxbd (wrap64 (c - (wrap64 (2 * a)))) (wrap64 (2 * b))) false) (frfo fn fd tn td fo to (pxbn (wrap64 (c - (wrap64 (2 * a)))) (wrap64 (2 * b))) (pxbd (wrap64 (c - (wrap64 (2 * a)))) (wrap64 (2 * b))) false) (frto fn fd tn td fo to (pxbn (wrap64 (c - (wrap64 (2 * a)))) (wrap64 (2 * b))) (pxbd (wrap64 (c - (wrap64 (2 * a)))) (wrap64 (2 * b))) false) (pxbn (wrap64 (d - (wrap64 (2 * a)))) (wrap64 (2 * b))) (pxbd (wrap64 (d - (wrap64 (2 * a)))) (wrap64 (2 * b))) true) else (bif decide ((wrap64 (2 * b)) < 0) then (tofo (frfn fn fd tn td fo to (pxbn (wrap64 ((wrap64 (2 * a)) - d)) (wrap64 (-(wrap64 (2 * b))))) (pxbd (wrap64 ((wrap64 (2 * a)) - d)) (wrap64 (-(wrap64 (2 * b))))) true) (frfd fn fd tn td fo to (pxbn (wrap64 ((wrap64 (2 * a)) - d)) (wrap64 (-(wrap64 (2 * b))))) (pxbd (wrap64 ((wrap64 (2 * a)) - d)) (wrap64 (-(wrap64 (2 * b))))) true) (frtn fn fd tn td fo to (pxbn (wrap64 ((wrap64 (2 * a)) - d)) (wrap64 (-(wrap64 (2 * b))))) (pxbd (wrap64 ((wrap64 (2 * a)) - d)) (wrap64 (-(wrap64 (2 * b))))) true) (frtd fn fd tn td fo to (pxbn (wrap64 ((wrap64 (2 * a)) - d)) (wrap64 (-(wrap64 (2 * b))))) (pxbd (wrap64 ((wrap64 (2 * a)) - d)) (wrap64 (-(wrap64 (2 * b))))) true) (frfo fn fd tn td fo to (pxbn (wrap64 ((wrap64 (2 * a)) - d)) (wrap64 (-(wrap64 (2 * b))))) (pxbd (wrap64 ((wrap64 (2 * a)) - d)) (wrap64 (-(wrap64 (2 * b))))) true) (frto fn fd tn td fo to (pxbn (wrap64 ((wrap64 (2 * a)) - d)) (wrap64 (-(wrap64 (2 * b))))) (pxbd (wrap64 ((wrap64 (2 * a)) - d)) (wrap64 (-(wrap64 (2 * b))))) true) (pxbn (wrap64 ((wrap64 (2 * a)) - c)) (wrap64 (-(wrap64 (2 * b))))) (pxbd (wrap64 ((wrap64 (2 * a)) - c)) (wrap64 (-(wrap64 (2 * b))))) false) else fo))

def bato (fn : Int) (fd : Int) (tn : Int) (td : Int) (fo : Bool) (to : Bool) (a : Int) (b : Int) (c : Int) (d : Int) : Bool := (bif decide (0 < (wrap64 (2 * b))) then (toto (frfn fn fd tn td fo to (pxbn (wrap64 (c - (wrap64 (2 * a)))) (wrap64 (2 * b))) (pxbd (wrap64 (c - (wrap64 (2 * a)))) (wrap64 (2 * b))) false) (frfd fn fd tn td fo to (pxbn (wrap64 (c - (wrap64 (2 * a)))) (wrap64 (2 * b))) (pxbd (wrap64 (c - (wrap64 (2 * a)))) (wrap64 (2 * b))) false) (frtn fn fd tn td fo to (pxbn (wrap64 (c - (wrap64 (2 * a)))) (wrap64 (2 * b))) (pxbd (wrap64 (c - (wrap64 (2 * a)))) (wrap64 (2 * b))) false) (frtd fn fd tn td fo to (pxbn (wrap64 (c - (wrap64 (2 * a)))) (wrap64 (2 * b))) (pxbd (wrap64 (c - (wrap64 (2 * a)))) (wrap64 (2 * b))) false) (frfo fn fd tn td fo to (pxbn (wrap64 (c - (wrap64 (2 * a)))) (wrap64 (2 * b))) (pxbd (wrap64 (c - (wrap64 (2 * a)))) (wrap64 (2 * b))) false) (frto fn fd tn td fo to (pxbn (wrap64 (c - (wrap64 (2 * a)))) (wrap64 (2 * b))) (pxbd (wrap64 (c - (wrap64 (2 * a)))) (wrap64 (2 * b))) false) (pxbn (wrap64 (d - (wrap64 (2 * a)))) (wrap64 (2 * b))) (pxbd (wrap64 (d - (wrap64 (2 * a)))) (wrap64 (2 * b))) true) else (bif decide ((wrap64 (2 * b)) < 0) then (toto (frfn fn fd tn td fo to (pxbn (wrap64 ((wrap64 (2 * a)) - d)) (wrap64 (-(wrap64 (2 * b))))) (pxbd (wrap64 ((wrap64 (2 * a)) - d)) (wrap64 (-(wrap64 (2 * b))))) true) (frfd fn fd tn td fo to (pxbn (wrap64 ((wrap64 (2 * a)) - d)) (wrap64 (-(wrap64 (2 * b))))) (pxbd (wrap64 ((wrap64 (2 * a)) - d)) (wrap64 (-(wrap64 (2 * b))))) true) (frtn fn fd tn td fo to (pxbn (wrap64 ((wrap64 (2 * a)) - d)) (wrap64 (-(wrap64 (2 * b))))) (pxbd (wrap64 ((wrap64 (2 * a)) - d)) (wrap64 (-(wrap64 (2 * b))))) true) (frtd fn fd tn td fo to (pxbn (wrap64 ((wrap64 (2 * a)) - d)) (wrap64 (-(wrap64 (2 * b))))) (pxbd (wrap64 ((wrap64 (2 * a)) - d)) (wrap64 (-(wrap64 (2 * b))))) true) (frfo fn fd tn td fo to (pxbn (wrap64 ((wrap64 (2 * a)) - d)) (wrap64 (-(wrap64 (2 * b))))) (pxbd (wrap64 ((wrap64 (2 * a)) - d)) (wrap64 (-(wrap64 (2 * b))))) true) (frto fn fd tn td fo to (pxbn (wrap64 ((wrap64 (2 * a)) - d)) (wrap64 (-(wrap64 (2 * b))))) (pxbd (wrap64 ((wrap64 (2 * a)) - d)) (wrap64 (-(wrap64 (2 * b))))) true) (pxbn (wrap64 ((wrap64 (2 * a)) - c)) (wrap64 (-(wrap64 (2 * b))))) (pxbd (wrap64 ((wrap64 (2 * a)) - c)) (wrap64 (-(wrap64 (2 * b))))) false) else to))

theorem bafn_in (fn : Int) (fd : Int) (tn : Int) (td : Int) (fo : Bool) (to : Bool) (a : Int) (b : Int) (c : Int) (d : Int) (_ifn : InI fn) (_ifd : InI fd) (_itn : InI tn) (_itd : InI td) (_ia : In64 a) (_ib : In64 b) (_ic : In64 c) (_id : In64 d) : InI (bafn fn fd tn td fo to a b c d) := by
  unfold bafn
  exact (cond_in (tofn_in (frfn fn fd tn td fo to (pxbn (wrap64 (c - (wrap64 (2 * a)))) (wrap64 (2 * b))) (pxbd (wrap64 (c - (wrap64 (2 * a)))) (wrap64 (2 * b))) false) (frfd fn fd tn td fo to (pxbn (wrap64 (c - (wrap64 (2 * a)))) (wrap64 (2 * b))) (pxbd (wrap64 (c - (wrap64 (2 * a)))) (wrap64 (2 * b))) false) (frtn fn fd tn td fo to (pxbn (wrap64 (c - (wrap64 (2 * a)))) (wrap64 (2 * b))) (pxbd (wrap64 (c - (wrap64 (2 * a)))) (wrap64 (2 * b))) false) (frtd fn fd tn td fo to (pxbn (wrap64 (c - (wrap64 (2 * a)))) (wrap64 (2 * b))) (pxbd (wrap64 (c - (wrap64 (2 * a)))) (wrap64 (2 * b))) false) (frfo fn fd tn td fo to (pxbn (wrap64 (c - (wrap64 (2 * a)))) (wrap64 (2 * b))) (pxbd (wrap64 (c - (wrap64 (2 * a)))) (wrap64 (2 * b))) false) (frto fn fd tn td fo to (pxbn (wrap64 (c - (wrap64 (2 * a)))) (wrap64 (2 * b))) (pxbd (wrap64 (c - (wrap64 (2 * a)))) (wrap64 (2 * b))) false) (pxbn (wrap64 (d - (wrap64 (2 * a)))) (wrap64 (2 * b))) (pxbd (wrap64 (d - (wrap64 (2 * a)))) (wrap64 (2 * b))) true (frfn_in fn fd tn td fo to (pxbn (wrap64 (c - (wrap64 (2 * a)))) (wrap64 (2 * b))) (pxbd (wrap64 (c - (wrap64 (2 * a)))) (wrap64 (2 * b))) false _ifn _ifd _itn _itd (pxbn_in (wrap64 (c - (wrap64 (2 * a)))) (wrap64 (2 * b)) (wrap64_in _) (wrap64_in _)) (pxbd_in (wrap64 (c - (wrap64 (2 * a)))) (wrap64 (2 * b)) (wrap64_in _) (wrap64_in _))) (frfd_in fn fd tn td fo to (pxbn (wrap64 (c - (wrap64 (2 * a)))) (wrap64 (2 * b))) (pxbd (wrap64 (c - (wrap64 (2 * a)))) (wrap64 (2 * b))) false _ifn _ifd _itn _itd (pxbn_in (wrap64 (c - (wrap64 (2 * a)))) (wrap64 (2 * b)) (wrap64_in _) (wrap64_in _)) (pxbd_in (wrap64 (c - (wrap64 (2 * a)))) (wrap64 (2 * b)) (wrap64_in _) (wrap64_in _))) (frtn_in fn fd tn td fo to (pxbn (wrap64 (c - (wrap64 (2 * a)))) (wrap64 (2 * b))) (pxbd (wrap64 (c - (wrap64 (2 * a)))) (wrap64 (2 * b))) false _ifn _ifd _itn _itd (pxbn_in (wrap64 (c - (wrap64 (2 * a)))) (wrap64 (2 * b)) (wrap64_in _) (wrap64_in _)) (pxbd_in (wrap64 (c - (wrap64 (2 * a)))) (wrap64 (2 * b)) (wrap64_in _) (wrap64_in _))) (frtd_in fn fd tn td fo to (pxbn (wrap64 (c - (wrap64 (2 * a)))) (wrap64 (2 * b))) (pxbd (wrap64 (c - (wrap64 (2 * a)))) (wrap64 (2 * b))) false _ifn _ifd _itn _itd (pxbn_in (wrap64 (c - (wrap64 (2 * a)))) (wrap64 (2 * b)) (wrap64_in _) (wrap64_in _)) (pxbd_in (wrap64 (c - (wrap64 (2 * a)))) (wrap64 (2 * b)) (wrap64_in _) (wrap64_in _))) (pxbn_in (wrap64 (d - (wrap64 (2 * a)))) (wrap64 (2 * b)) (wrap64_in _) (wrap64_in _)) (pxbd_in (wrap64 (d - (wrap64 (2 * a)))) (wrap64 (2 * b)) (wrap64_in _) (wrap64_in _))) (cond_in (tofn_in (frfn fn fd tn td fo to (pxbn (wrap64 ((wrap64 (2 * a)) - d)) (wrap64 (-(wrap64 (2 * b))))) (pxbd (wrap64 ((wrap64 (2 * a)) - d)) (wrap64 (-(wrap64 (2 * b))))) true) (frfd fn fd tn td fo to (pxbn (wrap64 ((wrap64 (2 * a)) - d)) (wrap64 (-(wrap64 (2 * b))))) (pxbd (wrap64 ((wrap64 (2 * a)) - d)) (wrap64 (-(wrap64 (2 * b))))) true) (frtn fn fd tn td fo to (pxbn (wrap64 ((wrap64 (2 * a)) - d)) (wrap64 (-(wrap64 (2 * b))))) (pxbd (wrap64 ((wrap64 (2 * a)) - d)) (wrap64 (-(wrap64 (2 * b))))) true) (frtd fn fd tn td fo to (pxbn (wrap64 ((wrap64 (2 * a)) - d)) (wrap64 (-(wrap64 (2 * b))))) (pxbd (wrap64 ((wrap64 (2 * a)) - d)) (wrap64 (-(wrap64 (2 * b))))) true) (frfo fn fd tn td fo to (pxbn (wrap64 ((wrap64 (2 * a)) - d)) (wrap64 (-(wrap64 (2 * b))))) (pxbd (wrap64 ((wrap64 (2 * a)) - d)) (wrap64 (-(wrap64 (2 * b))))) true) (frto fn fd tn td fo to (pxbn (wrap64 ((wrap64 (2 * a)) - d)) (wrap64 (-(wrap64 (2 * b))))) (pxbd (wrap64 ((wrap64 (2 * a)) - d)) (wrap64 (-(wrap64 (2 * b))))) true) (pxbn (wrap64 ((wrap64 (2 * a)) - c)) (wrap64 (-(wrap64 (2 * b))))) (pxbd (wrap64 ((wrap64 (2 * a)) - c)) (wrap64 (-(wrap64 (2 * b))))) false (frfn_in fn fd tn td fo to (pxbn (wrap64 ((wrap64 (2 * a)) - d)) (wrap64 (-(wrap64 (2 * b))))) (pxbd (wrap64 ((wrap64 (2 * a)) - d)) (wrap64 (-(wrap64 (2 * b))))) true _ifn _ifd _itn _itd (pxbn_in (wrap64 ((wrap64 (2 * a)) - d)) (wrap64 (-(wrap64 (2 * b)))) (wrap64_in _) (wrap64_in _)) (pxbd_in (wrap64 ((wrap64 (2 * a)) - d)) (wrap64 (-(wrap64 (2 * b)))) (wrap64_in _) (wrap64_in _))) (frfd_in fn fd tn td fo to (pxbn (wrap64 ((wrap64 (2 * a)) - d)) (wrap64 (-(wrap64 (2 * b))))) (pxbd (wrap64 ((wrap64 (2 * a)) - d)) (wrap64 (-(wrap64 (2 * b))))) true _ifn _ifd _itn _itd (pxbn_in (wrap64 ((wrap64 (2 * a)) - d)) (wrap64 (-(wrap64 (2 * b)))) (wrap64_in _) (wrap64_in _)) (pxbd_in (wrap64 ((wrap64 (2 * a)) - d)) (wrap64 (-(wrap64 (2 * b)))) (wrap64_in _) (wrap64_in _))) (frtn_in fn fd tn td fo to (pxbn (wrap64 ((wrap64 (2 * a)) - d)) (wrap64 (-(wrap64 (2 * b))))) (pxbd (wrap64 ((wrap64 (2 * a)) - d)) (wrap64 (-(wrap64 (2 * b))))) true _ifn _ifd _itn _itd (pxbn_in (wrap64 ((wrap64 (2 * a)) - d)) (wrap64 (-(wrap64 (2 * b)))) (wrap64_in _) (wrap64_in _)) (pxbd_in (wrap64 ((wrap64 (2 * a)) - d)) (wrap64 (-(wrap64 (2 * b)))) (wrap64_in _) (wrap64_in _))) (frtd_in fn fd tn td fo to (pxbn (wrap64 ((wrap64 (2 * a)) - d)) (wrap64 (-(wrap64 (2 * b))))) (pxbd (wrap64 ((wrap64 (2 * a)) - d)) (wrap64 (-(wrap64 (2 * b))))) true _ifn _ifd _itn _itd (pxbn_in (wrap64 ((wrap64 (2 * a)) - d)) (wrap64 (-(wrap64 (2 * b)))) (wrap64_in _) (wrap64_in _)) (pxbd_in (wrap64 ((wrap64 (2 * a)) - d)) (wrap64 (-(wrap64 (2 * b)))) (wrap64_in _) (wrap64_in _))) (pxbn_in (wrap64 ((wrap64 (2 * a)) - c)) (wrap64 (-(wrap64 (2 * b)))) (wrap64_in _) (wrap64_in _)) (pxbd_in (wrap64 ((wrap64 (2 * a)) - c)) (wrap64 (-(wrap64 (2 * b)))) (wrap64_in _) (wrap64_in _))) _ifn))

theorem bafd_in (fn : Int) (fd : Int) (tn : Int) (td : Int) (fo : Bool) (to : Bool) (a : Int) (b : Int) (c : Int) (d : Int) (_ifn : InI fn) (_ifd : InI fd) (_itn : InI tn) (_itd : InI td) (_ia : In64 a) (_ib : In64 b) (_ic : In64 c) (_id : In64 d) : InI (bafd fn fd tn td fo to a b c d) := by
  unfold bafd
  exact (cond_in (tofd_in (frfn fn fd tn td fo to (pxbn (wrap64 (c - (wrap64 (2 * a)))) (wrap64 (2 * b))) (pxbd (wrap64 (c - (wrap64 (2 * a)))) (wrap64 (2 * b))) false) (frfd fn fd tn td fo to (pxbn (wrap64 (c - (wrap64 (2 * a)))) (wrap64 (2 * b))) (pxbd (wrap64 (c - (wrap64 (2 * a)))) (wrap64 (2 * b))) false) (frtn fn fd tn td fo to (pxbn (wrap64 (c - (wrap64 (2 * a)))) (wrap64 (2 * b))) (pxbd (wrap64 (c - (wrap64 (2 * a)))) (wrap64 (2 * b))) false) (frtd fn fd tn td fo to (pxbn (wrap64 (c - (wrap64 (2 * a)))) (wrap64 (2 * b))) (pxbd (wrap64 (c - (wrap64 (2 * a)))) (wrap64 (2 * b))) false) (frfo fn fd tn td fo to (pxbn (wrap64 (c - (wrap64 (2 * a)))) (wrap64 (2 * b))) (pxbd (wrap64 (c - (wrap64 (2 * a)))) (wrap64 (2 * b))) false) (frto fn fd tn td fo to (pxbn (wrap64 (c - (wrap64 (2 * a)))) (wrap64 (2 * b))) (pxbd (wrap64 (c - (wrap64 (2 * a)))) (wrap64 (2 * b))) false) (pxbn (wrap64 (d - (wrap64 (2 * a)))) (wrap64 (2 * b))) (pxbd (wrap64 (d - (wrap64 (2 * a)))) (wrap64 (2 * b))) true (frfn_in fn fd tn td fo to (pxbn (wrap64 (c - (wrap64 (2 * a)))) (wrap64 (2 * b))) (pxbd (wrap64 (c - (wrap64 (2 * a)))) (wrap64 (2 * b))) false _ifn _ifd _itn _itd (pxbn_in (wrap64 (c - (wrap64 (2 * a)))) (wrap64 (2 * b)) (wrap64_in _) (wrap64_in _)) (pxbd_in (wrap64 (c - (wrap64 (2 * a)))) (wrap64 (2 * b)) (wrap64_in _) (wrap64_in _))) (frfd_in fn fd tn td fo to (pxbn (wrap64 (c - (wrap64 (2 * a)))) (wrap64 (2 * b))) (pxbd (wrap64 (c - (wrap64 (2 * a)))) (wrap64 (2 * b))) false _ifn _ifd _itn _itd (pxbn_in (wrap64 (c - (wrap64 (2 * a)))) (wrap64 (2 * b)) (wrap64_in _) (wrap64_in _)) (pxbd_in (wrap64 (c - (wrap64 (2 * a)))) (wrap64 (2 * b)) (wrap64_in _) (wrap64_in _))) (frtn_in fn fd tn td fo to (pxbn (wrap64 (c - (wrap64 (2 * a)))) (wrap64 (2 * b))) (pxbd (wrap64 (c - (wrap64 (2 * a)))) (wrap64 (2 * b))) false _ifn _ifd _itn _itd (pxbn_in (wrap64 (c - (wrap64 (2 * a)))) (wrap64 (2 * b)) (wrap64_in _) (wrap64_in _)) (pxbd_in (wrap64 (c - (wrap64 (2 * a)))) (wrap64 (2 * b)) (wrap64_in _) (wrap64_in _))) (frtd_in fn fd tn td fo to (pxbn (wrap64 (c - (wrap64 (2 * a)))) (wrap64 (2 * b))) (pxbd (wrap64 (c - (wrap64 (2 * a)))) (wrap64 (2 * b))) false _ifn _ifd _itn _itd (pxbn_in (wrap64 (c - (wrap64 (2 * a)))) (wrap64 (2 * b)) (wrap64_in _) (wrap64_in _)) (pxbd_in (wrap64 (c - (wrap64 (2 * a)))) (wrap64 (2 * b)) (wrap64_in _) (wrap64_in _))) (pxbn_in (wrap64 (d - (wrap64 (2 * a)))) (wrap64 (2 * b)) (wrap64_in _) (wrap64_in _)) (pxbd_in (wrap64 (d - (wrap64 (2 * a)))) (wrap64 (2 * b)) (wrap64_in _) (wrap64_in _))) (cond_in (tofd_in (frfn fn fd tn td fo to (pxbn (wrap64 ((wrap64 (2 * a)) - d)) (wrap64 (-(wrap64 (2 * b))))) (pxbd (wrap64 ((wrap64 (2 * a)) - d)) (wrap64 (-(wrap64 (2 * b))))) true) (frfd fn fd tn td fo to (pxbn (wrap64 ((wrap64 (2 * a)) - d)) (wrap64 (-(wrap64 (2 * b))))) (pxbd (wrap64 ((wrap64 (2 * a)) - d)) (wrap64 (-(wrap64 (2 * b))))) true) (frtn fn fd tn td fo to (pxbn (wrap64 ((wrap64 (2 * a)) - d)) (wrap64 (-(wrap64 (2 * b))))) (pxbd (wrap64 ((wrap64 (2 * a)) - d)) (wrap64 (-(wrap64 (2 * b))))) true) (frtd fn fd tn td fo to (pxbn (wrap64 ((wrap64 (2 * a)) - d)) (wrap64 (-(wrap64 (2 * b))))) (pxbd (wrap64 ((wrap64 (2 * a)) - d)) (wrap64 (-(wrap64 (2 * b))))) true) (frfo fn fd tn td fo to (pxbn (wrap64 ((wrap64 (2 * a)) - d)) (wrap64 (-(wrap64 (2 * b))))) (pxbd (wrap64 ((wrap64 (2 * a)) - d)) (wrap64 (-(wrap64 (2 * b))))) true) (frto fn fd tn td fo to (pxbn (wrap64 ((wrap64 (2 * a)) - d)) (wrap64 (-(wrap64 (2 * b))))) (pxbd (wrap64 ((wrap64 (2 * a)) - d)) (wrap64 (-(wrap64 (2 * b))))) true) (pxbn (wrap64 ((wrap64 (2 * a)) - c)) (wrap64 (-(wrap64 (2 * b))))) (pxbd (wrap64 ((wrap64 (2 * a)) - c)) (wrap64 (-(wrap64 (2 * b))))) false (frfn_in fn fd tn td fo to (pxbn (wrap64 ((wrap64 (2 * a)) - d)) (wrap64 (-(wrap64 (2 * b))))) (pxbd (wrap64 ((wrap64 (2 * a)) - d)) (wrap64 (-(wrap64 (2 * b))))) true _ifn _ifd _itn _itd (pxbn_in (wrap64 ((wrap64 (2 * a)) - d)) (wrap64 (-(wrap64 (2 * b)))) (wrap64_in _) (wrap64_in _)) (pxbd_in (wrap64 ((wrap64 (2 * a)) - d)) (wrap64 (-(wrap64 (2 * b)))) (wrap64_in _) (wrap64_in _))) (frfd_in fn fd tn td fo to (pxbn (wrap64 ((wrap64 (2 * a)) - d)) (wrap64 (-(wrap64 (2 * b))))) (pxbd (wrap64 ((wrap64 (2 * a)) - d)) (wrap64 (-(wrap64 (2 * b))))) true _ifn _ifd _itn _itd (pxbn_in (wrap64 ((wrap64 (2 * a)) - d)) (wrap64 (-(wrap64 (2 * b)))) (wrap64_in _) (wrap64_in _)) (pxbd_in (wrap64 ((wrap64 (2 * a)) - d)) (wrap64 (-(wrap64 (2 * b)))) (wrap64_in _) (wrap64_in _))) (frtn_in fn fd tn td fo to (pxbn (wrap64 ((wrap64 (2 * a)) - d)) (wrap64 (-(wrap64 (2 * b))))) (pxbd (wrap64 ((wrap64 (2 * a)) - d)) (wrap64 (-(wrap64 (2 * b))))) true _ifn _ifd _itn _itd (pxbn_in (wrap64 ((wrap64 (2 * a)) - d)) (wrap64 (-(wrap64 (2 * b)))) (wrap64_in _) (wrap64_in _)) (pxbd_in (wrap64 ((wrap64 (2 * a)) - d)) (wrap64 (-(wrap64 (2 * b)))) (wrap64_in _) (wrap64_in _))) (frtd_in fn fd tn td fo to (pxbn (wrap64 ((wrap64 (2 * a)) - d)) (wrap64 (-(wrap64 (2 * b))))) (pxbd (wrap64 ((wrap64 (2 * a)) - d)) (wrap64 (-(wrap64 (2 * b))))) true _ifn _ifd _itn _itd (pxbn_in (wrap64 ((wrap64 (2 * a)) - d)) (wrap64 (-(wrap64 (2 * b)))) (wrap64_in _) (wrap64_in _)) (pxbd_in (wrap64 ((wrap64 (2 * a)) - d)) (wrap64 (-(wrap64 (2 * b)))) (wrap64_in _) (wrap64_in _))) (pxbn_in (wrap64 ((wrap64 (2 * a)) - c)) (wrap64 (-(wrap64 (2 * b)))) (wrap64_in _) (wrap64_in _)) (pxbd_in (wrap64 ((wrap64 (2 * a)) - c)) (wrap64 (-(wrap64 (2 * b)))) (wrap64_in _) (wrap64_in _))) _ifd))

theorem batn_in (fn : Int) (fd : Int) (tn : Int) (td : Int) (fo : Bool) (to : Bool) (a : Int) (b : Int) (c : Int) (d : Int) (_ifn : InI fn) (_ifd : InI fd) (_itn : InI tn) (_itd : InI td) (_ia : In64 a) (_ib : In64 b) (_ic : In64 c) (_id : In64 d) : InI (batn fn fd tn td fo to a b c d) := by
  unfold batn
  exact (cond_in (totn_in (frfn fn fd tn td fo to (pxbn (wrap64 (c - (wrap64 (2 * a)))) (wrap64 (2 * b))) (pxbd (wrap64 (c - (wrap64 (2 * a)))) (wrap64 (2 * b))) false) (frfd fn fd tn td fo to (pxbn (wrap64 (c - (wrap64 (2 * a)))) (wrap64 (2 * b))) (pxbd (wrap64 (c - (wrap64 (2 * a)))) (wrap64 (2 * b))) false) (frtn fn fd tn td fo to (pxbn (wrap64 (c - (wrap64 (2 * a)))) (wrap64 (2 * b))) (pxbd (wrap64 (c - (wrap64 (2 * a)))) (wrap64 (2 * b))) false) (frtd fn fd tn td fo to (pxbn (wrap64 (c - (wrap64 (2 * a)))) (wrap64 (2 * b))) (pxbd (wrap64 (c - (wrap64 (2 * a)))) (wrap64 (2 * b))) false) (frfo fn fd tn td fo to (pxbn (wrap64 (c - (wrap64 (2 * a)))) (wrap64 (2 * b))) (pxbd (wrap64 (c - (wrap64 (2 * a)))) (wrap64 (2 * b))) false) (frto fn fd tn td fo to (pxbn (wrap64 (c - (wrap64 (2 * a)))) (wrap64 (2 * b))) (pxbd (wrap64 (c - (wrap64 (2 * a)))) (wrap64 (2 * b))) false) (pxbn (wrap64 (d - (wrap64 (2 * a)))) (wrap64 (2 * b))) (pxbd (wrap64 (d - (wrap64 (2 * a)))) (wrap64 (2 * b))) true (frfn_in fn fd tn td fo to (pxbn (wrap64 (c - (wrap64 (2 * a)))) (wrap64 (2 * b))) (pxbd (wrap64 (c - (wrap64 (2 * a)))) (wrap64 (2 * b))) false _ifn _ifd _itn _itd (pxbn_in (wrap64 (c - (wrap64 (2 * a)))) (wrap64 (2 * b)) (wrap64_in _) (wrap64_in _)) (pxbd_in (wrap64 (c - (wrap64 (2 * a)))) (wrap64 (2 * b)) (wrap64_in _) (wrap64_in _))) (frfd_in fn fd tn td fo to (pxbn (wrap64 (c - (wrap64 (2 * a)))) (wrap64 (2 * b))) (pxbd (wrap64 (c - (wrap64 (2 * a)))) (wrap64 (2 * b))) false _ifn _ifd _itn _itd (pxbn_in (wrap64 (c - (wrap64 (2 * a)))) (wrap64 (2 * b)) (wrap64_in _) (wrap64_in _)) (pxbd_in (wrap64 (c - (wrap64 (2 * a)))) (wrap64 (2 * b)) (wrap64_in _) (wrap64_in _))) (frtn_in fn fd tn td fo to (pxbn (wrap64 (c - (wrap64 (2 * a)))) (wrap64 (2 * b))) (pxbd (wrap64 (c - (wrap64 (2 * a)))) (wrap64 (2 * b))) false _ifn _ifd _itn _itd (pxbn_in (wrap64 (c - (wrap64 (2 * a)))) (wrap64 (2 * b)) (wrap64_in _) (wrap64_in _)) (pxbd_in (wrap64 (c - (wrap64 (2 * a)))) (wrap64 (2 * b)) (wrap64_in _) (wrap64_in _))) (frtd_in fn fd tn td fo to (pxbn (wrap64 (c - (wrap64 (2 * a)))) (wrap64 (2 * b))) (pxbd (wrap64 (c - (wrap64 (2 * a)))) (wrap64 (2 * b))) false _ifn _ifd _itn _itd (pxbn_in (wrap64 (c - (wrap64 (2 * a)))) (wrap64 (2 * b)) (wrap64_in _) (wrap64_in _)) (pxbd_in (wrap64 (c - (wrap64 (2 * a)))) (wrap64 (2 * b)) (wrap64_in _) (wrap64_in _))) (pxbn_in (wrap64 (d - (wrap64 (2 * a)))) (wrap64 (2 * b)) (wrap64_in _) (wrap64_in _)) (pxbd_in (wrap64 (d - (wrap64 (2 * a)))) (wrap64 (2 * b)) (wrap64_in _) (wrap64_in _))) (cond_in (totn_in (frfn fn fd tn td fo to (pxbn (wrap64 ((wrap64 (2 * a)) - d)) (wrap64 (-(wrap64 (2 * b))))) (pxbd (wrap64 ((wrap64 (2 * a)) - d)) (wrap64 (-(wrap64 (2 * b))))) true) (frfd fn fd tn td fo to (pxbn (wrap64 ((wrap64 (2 * a)) - d)) (wrap64 (-(wrap64 (2 * b))))) (pxbd (wrap64 ((wrap64 (2 * a)) - d)) (wrap64 (-(wrap64 (2 * b))))) true) (frtn fn fd tn td fo to (pxbn (wrap64 ((wrap64 (2 * a)) - d)) (wrap64 (-(wrap64 (2 * b))))) (pxbd (wrap64 ((wrap64 (2 * a)) - d)) (wrap64 (-(wrap64 (2 * b))))) true) (frtd fn fd tn td fo to (pxbn (wrap64 ((wrap64 (2 * a)) - d)) (wrap64 (-(wrap64 (2 * b))))) (pxbd (wrap64 ((wrap64 (2 * a)) - d)) (wrap64 (-(wrap64 (2 * b))))) true) (frfo fn fd tn td fo to (pxbn (wrap64 ((wrap64 (2 * a)) - d)) (wrap64 (-(wrap64 (2 * b))))) (pxbd (wrap64 ((wrap64 (2 * a)) - d)) (wrap64 (-(wrap64 (2 * b))))) true) (frto fn fd tn td fo to (pxbn (wrap64 ((wrap64 (2 * a)) - d)) (wrap64 (-(wrap64 (2 * b))))) (pxbd (wrap64 ((wrap64 (2 * a)) - d)) (wrap64 (-(wrap64 (2 * b))))) true) (pxbn (wrap64 ((wrap64 (2 * a)) - c)) (wrap64 (-(wrap64 (2 * b))))) (pxbd (wrap64 ((wrap64 (2 * a)) - c)) (wrap64 (-(wrap64 (2 * b))))) false (frfn_in fn fd tn td fo to (pxbn (wrap64 ((wrap64 (2 * a)) - d)) (wrap64 (-(wrap64 (2 * b))))) (pxbd (wrap64 ((wrap64 (2 * a)) - d)) (wrap64 (-(wrap64 (2 * b))))) true _ifn _ifd _itn _itd (pxbn_in (wrap64 ((wrap64 (2 * a)) - d)) (wrap64 (-(wrap64 (2 * b)))) (wrap64_in _) (wrap64_in _)) (pxbd_in (wrap64 ((wrap64 (2 * a)) - d)) (wrap64 (-(wrap64 (2 * b)))) (wrap64_in _) (wrap64_in _))) (frfd_in fn fd tn td fo to (pxbn (wrap64 ((wrap64 (2 * a)) - d)) (wrap64 (-(wrap64 (2 * b))))) (pxbd (wrap64 ((wrap64 (2 * a)) - d)) (wrap64 (-(wrap64 (2 * b))))) true _ifn _ifd _itn _itd (pxbn_in (wrap64 ((wrap64 (2 * a)) - d)) (wrap64 (-(wrap64 (2 * b)))) (wrap64_in _) (wrap64_in _)) (pxbd_in (wrap64 ((wrap64 (2 * a)) - d)) (wrap64 (-(wrap64 (2 * b)))) (wrap64_in _) (wrap64_in _))) (frtn_in fn fd tn td fo to (pxbn (wrap64 ((wrap64 (2 * a)) - d)) (wrap64 (-(wrap64 (2 * b))))) (pxbd (wrap64 ((wrap64 (2 * a)) - d)) (wrap64 (-(wrap64 (2 * b))))) true _ifn _ifd _itn _itd (pxbn_in (wrap64 ((wrap64 (2 * a)) - d)) (wrap64 (-(wrap64 (2 * b)))) (wrap64_in _) (wrap64_in _)) (pxbd_in (wrap64 ((wrap64 (2 * a)) - d)) (wrap64 (-(wrap64 (2 * b)))) (wrap64_in _) (wrap64_in _))) (frtd_in fn fd tn td fo to (pxbn (wrap64 ((wrap64 (2 * a)) - d)) (wrap64 (-(wrap64 (2 * b))))) (pxbd (wrap64 ((wrap64 (2 * a)) - d)) (wrap64 (-(wrap64 (2 * b))))) true _ifn _ifd _itn _itd (pxbn_in (wrap64 ((wrap64 (2 * a)) - d)) (wrap64 (-(wrap64 (2 * b)))) (wrap64_in _) (wrap64_in _)) (pxbd_in (wrap64 ((wrap64 (2 * a)) - d)) (wrap64 (-(wrap64 (2 * b)))) (wrap64_in _) (wrap64_in _))) (pxbn_in (wrap64 ((wrap64 (2 * a)) - c)) (wrap64 (-(wrap64 (2 * b)))) (wrap64_in _) (wrap64_in _)) (pxbd_in (wrap64 ((wrap64 (2 * a)) - c)) (wrap64 (-(wrap64 (2 * b)))) (wrap64_in _) (wrap64_in _))) _itn))

theorem batd_in (fn : Int) (fd : Int) (tn : Int) (td : Int) (fo : Bool) (to : Bool) (a : Int) (b : Int) (c : Int) (d : Int) (_ifn : InI fn) (_ifd : InI fd) (_itn : InI tn) (_itd : InI td) (_ia : In64 a) (_ib : In64 b) (_ic : In64 c) (_id : In64 d) : InI (batd fn fd tn td fo to a b c d) := by
  unfold batd
  exact (cond_in (totd_in (frfn fn fd tn td fo to (pxbn (wrap64 (c - (wrap64 (2 * a)))) (wrap64 (2 * b))) (pxbd (wrap64 (c - (wrap64 (2 * a)))) (wrap64 (2 * b))) false) (frfd fn fd tn td fo to (pxbn (wrap64 (c - (wrap64 (2 * a)))) (wrap64 (2 * b))) (pxbd (wrap64 (c - (wrap64 (2 * a)))) (wrap64 (2 * b))) false) (frtn fn fd tn td fo to (pxbn (wrap64 (c - (wrap64 (2 * a)))) (wrap64 (2 * b))) (pxbd (wrap64 (c - (wrap64 (2 * a)))) (wrap64 (2 * b))) false) (frtd fn fd tn td fo to (pxbn (wrap64 (c - (wrap64 (2 * a)))) (wrap64 (2 * b))) (pxbd (wrap64 (c - (wrap64 (2 * a)))) (wrap64 (2 * b))) false) (frfo fn fd tn td fo to (pxbn (wrap64 (c - (wrap64 (2 * a)))) (wrap64 (2 * b))) (pxbd (wrap64 (c - (wrap64 (2 * a)))) (wrap64 (2 * b))) false) (frto fn fd tn td fo to (pxbn (wrap64 (c - (wrap64 (2 * a)))) (wrap64 (2 * b))) (pxbd (wrap64 (c - (wrap64 (2 * a)))) (wrap64 (2 * b))) false) (pxbn (wrap64 (d - (wrap64 (2 * a)))) (wrap64 (2 * b))) (pxbd (wrap64 (d - (wrap64 (2 * a)))) (wrap64 (2 * b))) true (frfn_in fn fd tn td fo to (pxbn (wrap64 (c - (wrap64 (2 * a)))) (wrap64 (2 * b))) (pxbd (wrap64 (c - (wrap64 (2 * a)))) (wrap64 (2 * b))) false _ifn _ifd _itn _itd (pxbn_in (wrap64 (c - (wrap64 (2 * a)))) (wrap64 (2 * b)) (wrap64_in _) (wrap64_in _)) (pxbd_in (wrap64 (c - (wrap64 (2 * a)))) (wrap64 (2 * b)) (wrap64_in _) (wrap64_in _))) (frfd_in fn fd tn td fo to (pxbn (wrap64 (c - (wrap64 (2 * a)))) (wrap64 (2 * b))) (pxbd (wrap64 (c - (wrap64 (2 * a)))) (wrap64 (2 * b))) false _ifn _ifd _itn _itd (pxbn_in (wrap64 (c - (wrap64 (2 * a)))) (wrap64 (2 * b)) (wrap64_in _) (wrap64_in _)) (pxbd_in (wrap64 (c - (wrap64 (2 * a)))) (wrap64 (2 * b)) (wrap64_in _) (wrap64_in _))) (frtn_in fn fd tn td fo to (pxbn (wrap64 (c - (wrap64 (2 * a)))) (wrap64 (2 * b))) (pxbd (wrap64 (c - (wrap64 (2 * a)))) (wrap64 (2 * b))) false _ifn _ifd _itn _itd (pxbn_in (wrap64 (c - (wrap64 (2 * a)))) (wrap64 (2 * b)) (wrap64_in _) (wrap64_in _)) (pxbd_in (wrap64 (c - (wrap64 (2 * a)))) (wrap64 (2 * b)) (wrap64_in _) (wrap64_in _))) (frtd_in fn fd tn td fo to (pxbn (wrap64 (c - (wrap64 (2 * a)))) (wrap64 (2 * b))) (pxbd (wrap64 (c - (wrap64 (2 * a)))) (wrap64 (2 * b))) false _ifn _ifd _itn _itd (pxbn_in (wrap64 (c - (wrap64 (2 * a)))) (wrap64 (2 * b)) (wrap64_in _) (wrap64_in _)) (pxbd_in (wrap64 (c - (wrap64 (2 * a)))) (wrap64 (2 * b)) (wrap64_in _) (wrap64_in _))) (pxbn_in (wrap64 (d - (wrap64 (2 * a)))) (wrap64 (2 * b)) (wrap64_in _) (wrap64_in _)) (pxbd_in (wrap64 (d - (wrap64 (2 * a)))) (wrap64 (2 * b)) (wrap64_in _) (wrap64_in _))) (cond_in (totd_in (frfn fn fd tn td fo to (pxbn (wrap64 ((wrap64 (2 * a)) - d)) (wrap64 (-(wrap64 (2 * b))))) (pxbd (wrap64 ((wrap64 (2 * a)) - d)) (wrap64 (-(wrap64 (2 * b))))) true) (frfd fn fd tn td fo to (pxbn (wrap64 ((wrap64 (2 * a)) - d)) (wrap64 (-(wrap64 (2 * b))))) (pxbd (wrap64 ((wrap64 (2 * a)) - d)) (wrap64 (-(wrap64 (2 * b))))) true) (frtn fn fd tn td fo to (pxbn (wrap64 ((wrap64 (2 * a)) - d)) (wrap64 (-(wrap64 (2 * b))))) (pxbd (wrap64 ((wrap64 (2 * a)) - d)) (wrap64 (-(wrap64 (2 * b))))) true) (frtd fn fd tn td fo to (pxbn (wrap64 ((wrap64 (2 * a)) - d)) (wrap64 (-(wrap64 (2 * b))))) (pxbd (wrap64 ((wrap64 (2 * a)) - d)) (wrap64 (-(wrap64 (2 * b))))) true) (frfo fn fd tn td fo to (pxbn (wrap64 ((wrap64 (2 * a)) - d)) (wrap64 (-(wrap64 (2 * b))))) (pxbd (wrap64 ((wrap64 (2 * a)) - d)) (wrap64 (-(wrap64 (2 * b))))) true) (frto fn fd tn td fo to (pxbn (wrap64 ((wrap64 (2 * a)) - d)) (wrap64 (-(wrap64 (2 * b))))) (pxbd (wrap64 ((wrap64 (2 * a)) - d)) (wrap64 (-(wrap64 (2 * b))))) true) (pxbn (wrap64 ((wrap64 (2 * a)) - c)) (wrap64 (-(wrap64 (2 * b))))) (pxbd (wrap64 ((wrap64 (2 * a)) - c)) (wrap64 (-(wrap64 (2 * b))))) false (frfn_in fn fd tn td fo to (pxbn (wrap64 ((wrap64 (2 * a)) - d)) (wrap64 (-(wrap64 (2 * b))))) (pxbd (wrap64 ((wrap64 (2 * a)) - d)) (wrap64 (-(wrap64 (2 * b))))) true _ifn _ifd _itn _itd (pxbn_in (wrap64 ((wrap64 (2 * a)) - d)) (wrap64 (-(wrap64 (2 * b)))) (wrap64_in _) (wrap64_in _)) (pxbd_in (wrap64 ((wrap64 (2 * a)) - d)) (wrap64 (-(wrap64 (2 * b)))) (wrap64_in _) (wrap64_in _))) (frfd_in fn fd tn td fo to (pxbn (wrap64 ((wrap64 (2 * a)) - d)) (wrap64 (-(wrap64 (2 * b))))) (pxbd (wrap64 ((wrap64 (2 * a)) - d)) (wrap64 (-(wrap64 (2 * b))))) true _ifn _ifd _itn _itd (pxbn_in (wrap64 ((wrap64 (2 * a)) - d)) (wrap64 (-(wrap64 (2 * b)))) (wrap64_in _) (wrap64_in _)) (pxbd_in (wrap64 ((wrap64 (2 * a)) - d)) (wrap64 (-(wrap64 (2 * b)))) (wrap64_in _) (wrap64_in _))) (frtn_in fn fd tn td fo to (pxbn (wrap64 ((wrap64 (2 * a)) - d)) (wrap64 (-(wrap64 (2 * b))))) (pxbd (wrap64 ((wrap64 (2 * a)) - d)) (wrap64 (-(wrap64 (2 * b))))) true _ifn _ifd _itn _itd (pxbn_in (wrap64 ((wrap64 (2 * a)) - d)) (wrap64 (-(wrap64 (2 * b)))) (wrap64_in _) (wrap64_in _)) (pxbd_in (wrap64 ((wrap64 (2 * a)) - d)) (wrap64 (-(wrap64 (2 * b)))) (wrap64_in _) (wrap64_in _))) (frtd_in fn fd tn td fo to (pxbn (wrap64 ((wrap64 (2 * a)) - d)) (wrap64 (-(wrap64 (2 * b))))) (pxbd (wrap64 ((wrap64 (2 * a)) - d)) (wrap64 (-(wrap64 (2 * b))))) true _ifn _ifd _itn _itd (pxbn_in (wrap64 ((wrap64 (2 * a)) - d)) (wrap64 (-(wrap64 (2 * b)))) (wrap64_in _) (wrap64_in _)) (pxbd_in (wrap64 ((wrap64 (2 * a)) - d)) (wrap64 (-(wrap64 (2 * b)))) (wrap64_in _) (wrap64_in _))) (pxbn_in (wrap64 ((wrap64 (2 * a)) - c)) (wrap64 (-(wrap64 (2 * b)))) (wrap64_in _) (wrap64_in _)) (pxbd_in (wrap64 ((wrap64 (2 * a)) - c)) (wrap64 (-(wrap64 (2 * b)))) (wrap64_in _) (wrap64_in _))) _itd))

set_option maxRecDepth 100000 in
set_option maxHeartbeats 4000000 in

theorem pxba_is (fn : Int) (fd : Int) (tn : Int) (td : Int) (fo : Bool) (to : Bool) (a : Int) (b : Int) (c : Int) (d : Int)  (R0 : Bool) (R1 : Int) (R2 : Int) (R3 : Int) (R4 : Int) (R5 : Bool) (R6 : Bool) (hR0 : bak fn fd tn td fo to a b c d = R0) (hR1 : bafn fn fd tn td fo to a b c d = R1) (hR2 : bafd fn fd tn td fo to a b c d = R2) (hR3 : batn fn fd tn td fo to a b c d = R3) (hR4 : batd fn fd tn td fo to a b c d = R4) (hR5 : bafo fn fd tn td fo to a b c d = R5) (hR6 : bato fn fd tn td fo to a b c d = R6) (_ifn : InI fn) (_ifd : InI fd) (_itn : InI tn) (_itd : InI td) (_ia : In64 a) (_ib : In64 b) (_ic : In64 c) (_id : In64 d) (bp : Nat) (w : World) (hkp : Blk w bp #[.int .u64 (wd0 fn), .int .u64 (wd1 fn), .int .u64 (wd2 fn), .int .u64 (wd3 fn), .int .u64 (wd0 fd), .int .u64 (wd1 fd), .int .u64 (wd2 fd), .int .u64 (wd3 fd), .int .u64 (wd0 tn), .int .u64 (wd1 tn), .int .u64 (wd2 tn), .int .u64 (wd3 tn), .int .u64 (wd0 td), .int .u64 (wd1 td), .int .u64 (wd2 td), .int .u64 (wd3 td), .bool fo, .bool to] 54) :
    Calls Try.prog 93 #[.pointer (some ⟨bp, 0, none⟩), .int .i64 a, .int .i64 b, .int .i64 c, .int .i64 d] w fun e w' => e = .returned (.bool R0) ∧ Blk w' bp #[.int .u64 (wd0 R1), .int .u64 (wd1 R1), .int .u64 (wd2 R1), .int .u64 (wd3 R1), .int .u64 (wd0 R2), .int .u64 (wd1 R2), .int .u64 (wd2 R2), .int .u64 (wd3 R2), .int .u64 (wd0 R3), .int .u64 (wd1 R3), .int .u64 (wd2 R3), .int .u64 (wd3 R3), .int .u64 (wd0 R4), .int .u64 (wd1 R4), .int .u64 (wd2 R4), .int .u64 (wd3 R4), .bool R5, .bool R6] 54 ∧ Below bp w w' := by

  have HBL := Lib.hid hkp.lt
  have k1 := hkp
  clear hkp
  have HR0 := Lib.hid hR0
  clear hR0
  have HR1 := Lib.hid hR1
  clear hR1
  have HR2 := Lib.hid hR2
  clear hR2
  have HR3 := Lib.hid hR3
  clear hR3
  have HR4 := Lib.hid hR4
  clear hR4
  have HR5 := Lib.hid hR5
  clear hR5
  have HR6 := Lib.hid hR6
  clear hR6
  obtain ⟨z1, hz1⟩ : ∃ o_o : Bool, decide (0 < (wrap64 (2 * b))) = o_o := ⟨_, rfl⟩
  cases z1
  · obtain ⟨z2, hz2⟩ : ∃ o_o : Bool, decide ((wrap64 (2 * b)) < 0) = o_o := ⟨_, rfl⟩
    cases z2
    · obtain ⟨z3, hz3⟩ : ∃ o_o : Bool, decide (c ≤ (wrap64 (2 * a))) = o_o := ⟨_, rfl⟩
      cases z3
      · go_enter Try.func93, Try.ntmps93
        have e0 : false = R0 := by rw [← HR0.out]; unfold bak; (try rw [hz1]); (try rw [hz2]); (try rw [hz3]); all_goals first | rfl | simp
        have e1 : fn = R1 := by rw [← HR1.out]; unfold bafn; (try rw [hz1]); (try rw [hz2]); (try rw [hz3]); all_goals first | rfl | simp
        have e2 : fd = R2 := by rw [← HR2.out]; unfold bafd; (try rw [hz1]); (try rw [hz2]); (try rw [hz3]); all_goals first | rfl | simp
        have e3 : tn = R3 := by rw [← HR3.out]; unfold batn; (try rw [hz1]); (try rw [hz2]); (try rw [hz3]); all_goals first | rfl | simp
        have e4 : td = R4 := by rw [← HR4.out]; unfold batd; (try rw [hz1]); (try rw [hz2]); (try rw [hz3]); all_goals first | rfl | simp
        have e5 : fo = R5 := by rw [← HR5.out]; unfold bafo; (try rw [hz1]); (try rw [hz2]); (try rw [hz3]); all_goals first | rfl | simp
        have e6 : to = R6 := by rw [← HR6.out]; unfold bato; (try rw [hz1]); (try rw [hz2]); (try rw [hz3]); all_goals first | rfl | simp
        subst e0
        subst e1
        subst e2
        subst e3
        subst e4
        subst e5
        subst e6
        go_wp2
        first | go_ret | go_ret2
        exact ⟨by first | rfl | simp, k1, Below.refl _ _⟩
      · go_enter Try.func93, Try.ntmps93
        have e0 : decide ((wrap64 (2 * a)) < d) = R0 := by rw [← HR0.out]; unfold bak; (try rw [hz1]); (try rw [hz2]); (try rw [hz3]); all_goals first | rfl | simp
        have e1 : fn = R1 := by rw [← HR1.out]; unfold bafn; (try rw [hz1]); (try rw [hz2]); (try rw [hz3]); all_goals first | rfl | simp
        have e2 : fd = R2 := by rw [← HR2.out]; unfold bafd; (try rw [hz1]); (try rw [hz2]); (try rw [hz3]); all_goals first | rfl | simp
        have e3 : tn = R3 := by rw [← HR3.out]; unfold batn; (try rw [hz1]); (try rw [hz2]); (try rw [hz3]); all_goals first | rfl | simp
        have e4 : td = R4 := by rw [← HR4.out]; unfold batd; (try rw [hz1]); (try rw [hz2]); (try rw [hz3]); all_goals first | rfl | simp
        have e5 : fo = R5 := by rw [← HR5.out]; unfold bafo; (try rw [hz1]); (try rw [hz2]); (try rw [hz3]); all_goals first | rfl | simp
        have e6 : to = R6 := by rw [← HR6.out]; unfold bato; (try rw [hz1]); (try rw [hz2]); (try rw [hz3]); all_goals first | rfl | simp
        subst e0
        subst e1
        subst e2
        subst e3
        subst e4
        subst e5
        subst e6
        go_wp2
        first | go_ret | go_ret2
        exact ⟨by first | rfl | simp, k1, Below.refl _ _⟩
    · go_enter Try.func93, Try.ntmps93
      go_wp2_with fail
      obtain ⟨r4, hr4⟩ : ∃ o_o : Int, pxbn (wrap64 ((wrap64 (2 * a)) - d)) (wrap64 (-(wrap64 (2 * b)))) = o_o := ⟨_, rfl⟩
      have Hr4 := Lib.hid hr4
      clear hr4
      obtain ⟨r5, hr5⟩ : ∃ o_o : Int, pxbd (wrap64 ((wrap64 (2 * a)) - d)) (wrap64 (-(wrap64 (2 * b)))) = o_o := ⟨_, rfl⟩
      have Hr5 := Lib.hid hr5
      clear hr5
      refine (pxbd_is (wrap64 ((wrap64 (2 * a)) - d)) (wrap64 (-(wrap64 (2 * b)))) r4 r5 Hr4.out Hr5.out (wrap64_in _) (wrap64_in _)  _).mono ?_
      rintro e U1 ⟨rfl, hn⟩
      replace k1 := k1.of hn
      have hb0 := hn.mono (Nat.le_of_lt HBL.out)
      clear hn
      go_wp2_with fail
      obtain ⟨r6, hr6⟩ : ∃ o_o : Int, frfn fn fd tn td fo to r4 r5 true = o_o := ⟨_, rfl⟩
      have Hr6 := Lib.hid hr6
      clear hr6
      obtain ⟨r7, hr7⟩ : ∃ o_o : Int, frfd fn fd tn td fo to r4 r5 true = o_o := ⟨_, rfl⟩
      have Hr7 := Lib.hid hr7
      clear hr7
      obtain ⟨r8, hr8⟩ : ∃ o_o : Int, frtn fn fd tn td fo to r4 r5 true = o_o := ⟨_, rfl⟩
      have Hr8 := Lib.hid hr8
      clear hr8
      obtain ⟨r9, hr9⟩ : ∃ o_o : Int, frtd fn fd tn td fo to r4 r5 true = o_o := ⟨_, rfl⟩
      have Hr9 := Lib.hid hr9
      clear hr9
      obtain ⟨z10, hz10⟩ : ∃ o_o : Bool, frfo fn fd tn td fo to r4 r5 true = o_o := ⟨_, rfl⟩
      have Hz10 := Lib.hid hz10
      clear hz10
      obtain ⟨z11, hz11⟩ : ∃ o_o : Bool, frto fn fd tn td fo to r4 r5 true = o_o := ⟨_, rfl⟩
      have Hz11 := Lib.hid hz11
      clear hz11
      refine (pxfr_is fn fd tn td fo to r4 r5 true r6 r7 r8 r9 z10 z11 Hr6.out Hr7.out Hr8.out Hr9.out Hz10.out Hz11.out _ifn _ifd _itn _itd (Hr4.out ▸ pxbn_in (wrap64 ((wrap64 (2 * a)) - d)) (wrap64 (-(wrap64 (2 * b)))) (wrap64_in _) (wrap64_in _)) (Hr5.out ▸ pxbd_in (wrap64 ((wrap64 (2 * a)) - d)) (wrap64 (-(wrap64 (2 * b)))) (wrap64_in _) (wrap64_in _)) bp _ k1).mono ?_
      rintro e U2 ⟨rfl, hk_, hn⟩
      replace k1 := hk_
      clear hk_
      replace hb0 := hb0.trans hn
      clear hn
      go_wp2_with fail
      obtain ⟨r12, hr12⟩ : ∃ o_o : Int, pxbn (wrap64 ((wrap64 (2 * a)) - c)) (wrap64 (-(wrap64 (2 * b)))) = o_o := ⟨_, rfl⟩
      have Hr12 := Lib.hid hr12
      clear hr12
      obtain ⟨r13, hr13⟩ : ∃ o_o : Int, pxbd (wrap64 ((wrap64 (2 * a)) - c)) (wrap64 (-(wrap64 (2 * b)))) = o_o := ⟨_, rfl⟩
      have Hr13 := Lib.hid hr13
      clear hr13
      refine (pxbd_is (wrap64 ((wrap64 (2 * a)) - c)) (wrap64 (-(wrap64 (2 * b)))) r12 r13 Hr12.out Hr13.out (wrap64_in _) (wrap64_in _)  _).mono ?_
      rintro e U3 ⟨rfl, hn⟩
      replace k1 := k1.of hn
      replace hb0 := hb0.trans (hn.mono (Nat.le_trans (Nat.le_of_lt HBL.out) hb0.size))
      clear hn
      go_wp2_with fail
      obtain ⟨r14, hr14⟩ : ∃ o_o : Int, tofn r6 r7 r8 r9 z10 z11 r12 r13 false = o_o := ⟨_, rfl⟩
      have Hr14 := Lib.hid hr14
      clear hr14
      obtain ⟨r15, hr15⟩ : ∃ o_o : Int, tofd r6 r7 r8 r9 z10 z11 r12 r13 false = o_o := ⟨_, rfl⟩
      have Hr15 := Lib.hid hr15
      clear hr15
      obtain ⟨r16, hr16⟩ : ∃ o_o : Int, totn r6 r7 r8 r9 z10 z11 r12 r13 false = o_o := ⟨_, rfl⟩
      have Hr16 := Lib.hid hr16
      clear hr16
      obtain ⟨r17, hr17⟩ : ∃ o_o : Int, totd r6 r7 r8 r9 z10 z11 r12 r13 false = o_o := ⟨_, rfl⟩
      have Hr17 := Lib.hid hr17
      clear hr17
      obtain ⟨z18, hz18⟩ : ∃ o_o : Bool, tofo r6 r7 r8 r9 z10 z11 r12 r13 false = o_o := ⟨_, rfl⟩
      have Hz18 := Lib.hid hz18
      clear hz18
      obtain ⟨z19, hz19⟩ : ∃ o_o : Bool, toto r6 r7 r8 r9 z10 z11 r12 r13 false = o_o := ⟨_, rfl⟩
      have Hz19 := Lib.hid hz19
      clear hz19
      refine (pxto_is r6 r7 r8 r9 z10 z11 r12 r13 false r14 r15 r16 r17 z18 z19 Hr14.out Hr15.out Hr16.out Hr17.out Hz18.out Hz19.out (Hr6.out ▸ frfn_in fn fd tn td fo to r4 r5 true _ifn _ifd _itn _itd (Hr4.out ▸ pxbn_in (wrap64 ((wrap64 (2 * a)) - d)) (wrap64 (-(wrap64 (2 * b)))) (wrap64_in _) (wrap64_in _)) (Hr5.out ▸ pxbd_in (wrap64 ((wrap64 (2 * a)) - d)) (wrap64 (-(wrap64 (2 * b)))) (wrap64_in _) (wrap64_in _))) (Hr7.out ▸ frfd_in fn fd tn td fo to r4 r5 true _ifn _ifd _itn _itd (Hr4.out ▸ pxbn_in (wrap64 ((wrap64 (2 * a)) - d)) (wrap64 (-(wrap64 (2 * b)))) (wrap64_in _) (wrap64_in _)) (Hr5.out ▸ pxbd_in (wrap64 ((wrap64 (2 * a)) - d)) (wrap64 (-(wrap64 (2 * b)))) (wrap64_in _) (wrap64_in _))) (Hr8.out ▸ frtn_in fn fd tn td fo to r4 r5 true _ifn _ifd _itn _itd (Hr4.out ▸ pxbn_in (wrap64 ((wrap64 (2 * a)) - d)) (wrap64 (-(wrap64 (2 * b)))) (wrap64_in _) (wrap64_in _)) (Hr5.out ▸ pxbd_in (wrap64 ((wrap64 (2 * a)) - d)) (wrap64 (-(wrap64 (2 * b)))) (wrap64_in _) (wrap64_in _))) (Hr9.out ▸ frtd_in fn fd tn td fo to r4 r5 true _ifn _ifd _itn _itd (Hr4.out ▸ pxbn_in (wrap64 ((wrap64 (2 * a)) - d)) (wrap64 (-(wrap64 (2 * b)))) (wrap64_in _) (wrap64_in _)) (Hr5.out ▸ pxbd_in (wrap64 ((wrap64 (2 * a)) - d)) (wrap64 (-(wrap64 (2 * b)))) (wrap64_in _) (wrap64_in _))) (Hr12.out ▸ pxbn_in (wrap64 ((wrap64 (2 * a)) - c)) (wrap64 (-(wrap64 (2 * b)))) (wrap64_in _) (wrap64_in _)) (Hr13.out ▸ pxbd_in (wrap64 ((wrap64 (2 * a)) - c)) (wrap64 (-(wrap64 (2 * b)))) (wrap64_in _) (wrap64_in _)) bp _ k1).mono ?_
      rintro e U4 ⟨rfl, hk_, hn⟩
      replace k1 := hk_
      clear hk_
      replace hb0 := hb0.trans hn
      clear hn
      have e0 : true = R0 := by rw [← HR0.out]; unfold bak; (try rw [hz1]); (try rw [hz2]); (try rw [Hr4.out]); (try rw [Hr5.out]); (try rw [Hr6.out]); (try rw [Hr7.out]); (try rw [Hr8.out]); (try rw [Hr9.out]); (try rw [Hz10.out]); (try rw [Hz11.out]); (try rw [Hr12.out]); (try rw [Hr13.out]); (try rw [Hr14.out]); (try rw [Hr15.out]); (try rw [Hr16.out]); (try rw [Hr17.out]); (try rw [Hz18.out]); (try rw [Hz19.out]); all_goals first | rfl | simp
      have e1 : r14 = R1 := by rw [← HR1.out]; unfold bafn; (try rw [hz1]); (try rw [hz2]); (try rw [Hr4.out]); (try rw [Hr5.out]); (try rw [Hr6.out]); (try rw [Hr7.out]); (try rw [Hr8.out]); (try rw [Hr9.out]); (try rw [Hz10.out]); (try rw [Hz11.out]); (try rw [Hr12.out]); (try rw [Hr13.out]); (try rw [Hr14.out]); (try rw [Hr15.out]); (try rw [Hr16.out]); (try rw [Hr17.out]); (try rw [Hz18.out]); (try rw [Hz19.out]); all_goals first | rfl | simp
      have e2 : r15 = R2 := by rw [← HR2.out]; unfold bafd; (try rw [hz1]); (try rw [hz2]); (try rw [Hr4.out]); (try rw [Hr5.out]); (try rw [Hr6.out]); (try rw [Hr7.out]); (try rw [Hr8.out]); (try rw [Hr9.out]); (try rw [Hz10.out]); (try rw [Hz11.out]); (try rw [Hr12.out]); (try rw [Hr13.out]); (try rw [Hr14.out]); (try rw [Hr15.out]); (try rw [Hr16.out]); (try rw [Hr17.out]); (try rw [Hz18.out]); (try rw [Hz19.out]); all_goals first | rfl | simp
      have e3 : r16 = R3 := by rw [← HR3.out]; unfold batn; (try rw [hz1]); (try rw [hz2]); (try rw [Hr4.out]); (try rw [Hr5.out]); (try rw [Hr6.out]); (try rw [Hr7.out]); (try rw [Hr8.out]); (try rw [Hr9.out]); (try rw [Hz10.out]); (try rw [Hz11.out]); (try rw [Hr12.out]); (try rw [Hr13.out]); (try rw [Hr14.out]); (try rw [Hr15.out]); (try rw [Hr16.out]); (try rw [Hr17.out]); (try rw [Hz18.out]); (try rw [Hz19.out]); all_goals first | rfl | simp
      have e4 : r17 = R4 := by rw [← HR4.out]; unfold batd; (try rw [hz1]); (try rw [hz2]); (try rw [Hr4.out]); (try rw [Hr5.out]); (try rw [Hr6.out]); (try rw [Hr7.out]); (try rw [Hr8.out]); (try rw [Hr9.out]); (try rw [Hz10.out]); (try rw [Hz11.out]); (try rw [Hr12.out]); (try rw [Hr13.out]); (try rw [Hr14.out]); (try rw [Hr15.out]); (try rw [Hr16.out]); (try rw [Hr17.out]); (try rw [Hz18.out]); (try rw [Hz19.out]); all_goals first | rfl | simp
      have e5 : z18 = R5 := by rw [← HR5.out]; unfold bafo; (try rw [hz1]); (try rw [hz2]); (try rw [Hr4.out]); (try rw [Hr5.out]); (try rw [Hr6.out]); (try rw [Hr7.out]); (try rw [Hr8.out]); (try rw [Hr9.out]); (try rw [Hz10.out]); (try rw [Hz11.out]); (try rw [Hr12.out]); (try rw [Hr13.out]); (try rw [Hr14.out]); (try rw [Hr15.out]); (try rw [Hr16.out]); (try rw [Hr17.out]); (try rw [Hz18.out]); (try rw [Hz19.out]); all_goals first | rfl | simp
      have e6 : z19 = R6 := by rw [← HR6.out]; unfold bato; (try rw [hz1]); (try rw [hz2]); (try rw [Hr4.out]); (try rw [Hr5.out]); (try rw [Hr6.out]); (try rw [Hr7.out]); (try rw [Hr8.out]); (try rw [Hr9.out]); (try rw [Hz10.out]); (try rw [Hz11.out]); (try rw [Hr12.out]); (try rw [Hr13.out]); (try rw [Hr14.out]); (try rw [Hr15.out]); (try rw [Hr16.out]); (try rw [Hr17.out]); (try rw [Hz18.out]); (try rw [Hz19.out]); all_goals first | rfl | simp
      subst e0
      subst e1
      subst e2
      subst e3
      subst e4
      subst e5
      subst e6
      go_wp2
      first | go_ret | go_ret2
      exact ⟨by first | rfl | simp, k1, hb0⟩
  · go_enter Try.func93, Try.ntmps93
    go_wp2_with fail
    obtain ⟨r20, hr20⟩ : ∃ o_o : Int, pxbn (wrap64 (c - (wrap64 (2 * a)))) (wrap64 (2 * b)) = o_o := ⟨_, rfl⟩
    have Hr20 := Lib.hid hr20
    clear hr20
    obtain ⟨r21, hr21⟩ : ∃ o_o : Int, pxbd (wrap64 (c - (wrap64 (2 * a)))) (wrap64 (2 * b)) = o_o := ⟨_, rfl⟩
    have Hr21 := Lib.hid hr21
    clear hr21
    refine (pxbd_is (wrap64 (c - (wrap64 (2 * a)))) (wrap64 (2 * b)) r20 r21 Hr20.out Hr21.out (wrap64_in _) (wrap64_in _)  _).mono ?_
    rintro e U5 ⟨rfl, hn⟩
    replace k1 := k1.of hn
    have hb0 := hn.mono (Nat.le_of_lt HBL.out)
    clear hn
    go_wp2_with fail
    obtain ⟨r22, hr22⟩ : ∃ o_o : Int, frfn fn fd tn td fo to r20 r21 false = o_o := ⟨_, rfl⟩
    have Hr22 := Lib.hid hr22
    clear hr22
    obtain ⟨r23, hr23⟩ : ∃ o_o : Int, frfd fn fd tn td fo to r20 r21 false = o_o := ⟨_, rfl⟩
    have Hr23 := Lib.hid hr23
    clear hr23
    obtain ⟨r24, hr24⟩ : ∃ o_o : Int, frtn fn fd tn td fo to r20 r21 false = o_o := ⟨_, rfl⟩
    have Hr24 := Lib.hid hr24
    clear hr24
    obtain ⟨r25, hr25⟩ : ∃ o_o : Int, frtd fn fd tn td fo to r20 r21 false = o_o := ⟨_, rfl⟩
    have Hr25 := Lib.hid hr25
    clear hr25
    obtain ⟨z26, hz26⟩ : ∃ o_o : Bool, frfo fn fd tn td fo to r20 r21 false = o_o := ⟨_, rfl⟩
    have Hz26 := Lib.hid hz26
    clear hz26
    obtain ⟨z27, hz27⟩ : ∃ o_o : Bool, frto fn fd tn td fo to r20 r21 false = o_o := ⟨_, rfl⟩
    have Hz27 := Lib.hid hz27
    clear hz27
    refine (pxfr_is fn fd tn td fo to r20 r21 false r22 r23 r24 r25 z26 z27 Hr22.out Hr23.out Hr24.out Hr25.out Hz26.out Hz27.out _ifn _ifd _itn _itd (Hr20.out ▸ pxbn_in (wrap64 (c - (wrap64 (2 * a)))) (wrap64 (2 * b)) (wrap64_in _) (wrap64_in _)) (Hr21.out ▸ pxbd_in (wrap64 (c - (wrap64 (2 * a)))) (wrap64 (2 * b)) (wrap64_in _) (wrap64_in _)) bp _ k1).mono ?_
    rintro e U6 ⟨rfl, hk_, hn⟩
    replace k1 := hk_
    clear hk_
    replace hb0 := hb0.trans hn
    clear hn
    go_wp2_with fail
    obtain ⟨r28, hr28⟩ : ∃ o_o : Int, pxbn (wrap64 (d - (wrap64 (2 * a)))) (wrap64 (2 * b)) = o_o := ⟨_, rfl⟩
    have Hr28 := Lib.hid hr28
    clear hr28
    obtain ⟨r29, hr29⟩ : ∃ o_o : Int, pxbd (wrap64 (d - (wrap64 (2 * a)))) (wrap64 (2 * b)) = o_o := ⟨_, rfl⟩
    have Hr29 := Lib.hid hr29
    clear hr29
    refine (pxbd_is (wrap64 (d - (wrap64 (2 * a)))) (wrap64 (2 * b)) r28 r29 Hr28.out Hr29.out (wrap64_in _) (wrap64_in _)  _).mono ?_
    rintro e U7 ⟨rfl, hn⟩
    replace k1 := k1.of hn
    replace hb0 := hb0.trans (hn.mono (Nat.le_trans (Nat.le_of_lt HBL.out) hb0.size))
    clear hn
    go_wp2_with fail
    obtain ⟨r30, hr30⟩ : ∃ o_o : Int, tofn r22 r23 r24 r25 z26 z27 r28 r29 true = o_o := ⟨_, rfl⟩
    have Hr30 := Lib.hid hr30
    clear hr30
    obtain ⟨r31, hr31⟩ : ∃ o_o : Int, tofd r22 r23 r24 r25 z26 z27 r28 r29 true = o_o := ⟨_, rfl⟩
    have Hr31 := Lib.hid hr31
    clear hr31
    obtain ⟨r32, hr32⟩ : ∃ o_o : Int, totn r22 r23 r24 r25 z26 z27 r28 r29 true = o_o := ⟨_, rfl⟩
    have Hr32 := Lib.hid hr32
    clear hr32
    obtain ⟨r33, hr33⟩ : ∃ o_o : Int, totd r22 r23 r24 r25 z26 z27 r28 r29 true = o_o := ⟨_, rfl⟩
    have Hr33 := Lib.hid hr33
    clear hr33
    obtain ⟨z34, hz34⟩ : ∃ o_o : Bool, tofo r22 r23 r24 r25 z26 z27 r28 r29 true = o_o := ⟨_, rfl⟩
    have Hz34 := Lib.hid hz34
    clear hz34
    obtain ⟨z35, hz35⟩ : ∃ o_o : Bool, toto r22 r23 r24 r25 z26 z27 r28 r29 true = o_o := ⟨_, rfl⟩
    have Hz35 := Lib.hid hz35
    clear hz35
    refine (pxto_is r22 r23 r24 r25 z26 z27 r28 r29 true r30 r31 r32 r33 z34 z35 Hr30.out Hr31.out Hr32.out Hr33.out Hz34.out Hz35.out (Hr22.out ▸ frfn_in fn fd tn td fo to r20 r21 false _ifn _ifd _itn _itd (Hr20.out ▸ pxbn_in (wrap64 (c - (wrap64 (2 * a)))) (wrap64 (2 * b)) (wrap64_in _) (wrap64_in _)) (Hr21.out ▸ pxbd_in (wrap64 (c - (wrap64 (2 * a)))) (wrap64 (2 * b)) (wrap64_in _) (wrap64_in _))) (Hr23.out ▸ frfd_in fn fd tn td fo to r20 r21 false _ifn _ifd _itn _itd (Hr20.out ▸ pxbn_in (wrap64 (c - (wrap64 (2 * a)))) (wrap64 (2 * b)) (wrap64_in _) (wrap64_in _)) (Hr21.out ▸ pxbd_in (wrap64 (c - (wrap64 (2 * a)))) (wrap64 (2 * b)) (wrap64_in _) (wrap64_in _))) (Hr24.out ▸ frtn_in fn fd tn td fo to r20 r21 false _ifn _ifd _itn _itd (Hr20.out ▸ pxbn_in (wrap64 (c - (wrap64 (2 * a)))) (wrap64 (2 * b)) (wrap64_in _) (wrap64_in _)) (Hr21.out ▸ pxbd_in (wrap64 (c - (wrap64 (2 * a)))) (wrap64 (2 * b)) (wrap64_in _) (wrap64_in _))) (Hr25.out ▸ frtd_in fn fd tn td fo to r20 r21 false _ifn _ifd _itn _itd (Hr20.out ▸ pxbn_in (wrap64 (c - (wrap64 (2 * a)))) (wrap64 (2 * b)) (wrap64_in _) (wrap64_in _)) (Hr21.out ▸ pxbd_in (wrap64 (c - (wrap64 (2 * a)))) (wrap64 (2 * b)) (wrap64_in _) (wrap64_in _))) (Hr28.out ▸ pxbn_in (wrap64 (d - (wrap64 (2 * a)))) (wrap64 (2 * b)) (wrap64_in _) (wrap64_in _)) (Hr29.out ▸ pxbd_in (wrap64 (d - (wrap64 (2 * a)))) (wrap64 (2 * b)) (wrap64_in _) (wrap64_in _)) bp _ k1).mono ?_
    rintro e U8 ⟨rfl, hk_, hn⟩
    replace k1 := hk_
    clear hk_
    replace hb0 := hb0.trans hn
    clear hn
    have e0 : true = R0 := by rw [← HR0.out]; unfold bak; (try rw [hz1]); (try rw [Hr20.out]); (try rw [Hr21.out]); (try rw [Hr22.out]); (try rw [Hr23.out]); (try rw [Hr24.out]); (try rw [Hr25.out]); (try rw [Hz26.out]); (try rw [Hz27.out]); (try rw [Hr28.out]); (try rw [Hr29.out]); (try rw [Hr30.out]); (try rw [Hr31.out]); (try rw [Hr32.out]); (try rw [Hr33.out]); (try rw [Hz34.out]); (try rw [Hz35.out]); all_goals first | rfl | simp
    have e1 : r30 = R1 := by rw [← HR1.out]; unfold bafn; (try rw [hz1]); (try rw [Hr20.out]); (try rw [Hr21.out]); (try rw [Hr22.out]); (try rw [Hr23.out]); (try rw [Hr24.out]); (try rw [Hr25.out]); (try rw [Hz26.out]); (try rw [Hz27.out]); (try rw [Hr28.out]); (try rw [Hr29.out]); (try rw [Hr30.out]); (try rw [Hr31.out]); (try rw [Hr32.out]); (try rw [Hr33.out]); (try rw [Hz34.out]); (try rw [Hz35.out]); all_goals first | rfl | simp
    have e2 : r31 = R2 := by rw [← HR2.out]; unfold bafd; (try rw [hz1]); (try rw [Hr20.out]); (try rw [Hr21.out]); (try rw [Hr22.out]); (try rw [Hr23.out]); (try rw [Hr24.out]); (try rw [Hr25.out]); (try rw [Hz26.out]); (try rw [Hz27.out]); (try rw [Hr28.out]); (try rw [Hr29.out]); (try rw [Hr30.out]); (try rw [Hr31.out]); (try rw [Hr32.out]); (try rw [Hr33.out]); (try rw [Hz34.out]); (try rw [Hz35.out]); all_goals first | rfl | simp
    have e3 : r32 = R3 := by rw [← HR3.out]; unfold batn; (try rw [hz1]); (try rw [Hr20.out]); (try rw [Hr21.out]); (try rw [Hr22.out]); (try rw [Hr23.out]); (try rw [Hr24.out]); (try rw [Hr25.out]); (try rw [Hz26.out]); (try rw [Hz27.out]); (try rw [Hr28.out]); (try rw [Hr29.out]); (try rw [Hr30.out]); (try rw [Hr31.out]); (try rw [Hr32.out]); (try rw [Hr33.out]); (try rw [Hz34.out]); (try rw [Hz35.out]); all_goals first | rfl | simp
    have e4 : r33 = R4 := by rw [← HR4.out]; unfold batd; (try rw [hz1]); (try rw [Hr20.out]); (try rw [Hr21.out]); (try rw [Hr22.out]); (try rw [Hr23.out]); (try rw [Hr24.out]); (try rw [Hr25.out]); (try rw [Hz26.out]); (try rw [Hz27.out]); (try rw [Hr28.out]); (try rw [Hr29.out]); (try rw [Hr30.out]); (try rw [Hr31.out]); (try rw [Hr32.out]); (try rw [Hr33.out]); (try rw [Hz34.out]); (try rw [Hz35.out]); all_goals first | rfl | simp
    have e5 : z34 = R5 := by rw [← HR5.out]; unfold bafo; (try rw [hz1]); (try rw [Hr20.out]); (try rw [Hr21.out]); (try rw [Hr22.out]); (try rw [Hr23.out]); (try rw [Hr24.out]); (try rw [Hr25.out]); (try rw [Hz26.out]); (try rw [Hz27.out]); (try rw [Hr28.out]); (try rw [Hr29.out]); (try rw [Hr30.out]); (try rw [Hr31.out]); (try rw [Hr32.out]); (try rw [Hr33.out]); (try rw [Hz34.out]); (try rw [Hz35.out]); all_goals first | rfl | simp
    have e6 : z35 = R6 := by rw [← HR6.out]; unfold bato; (try rw [hz1]); (try rw [Hr20.out]); (try rw [Hr21.out]); (try rw [Hr22.out]); (try rw [Hr23.out]); (try rw [Hr24.out]); (try rw [Hr25.out]); (try rw [Hz26.out]); (try rw [Hz27.out]); (try rw [Hr28.out]); (try rw [Hr29.out]); (try rw [Hr30.out]); (try rw [Hr31.out]); (try rw [Hr32.out]); (try rw [Hr33.out]); (try rw [Hz34.out]); (try rw [Hz35.out]); all_goals first | rfl | simp
    subst e0
    subst e1
    subst e2
    subst e3
    subst e4
    subst e5
    subst e6
    go_wp2
    first | go_ret | go_ret2
    exact ⟨by first | rfl | simp, k1, hb0⟩
end Go.Proofs.Ytlcbomjdbdgbmaa

namespace Go.Proofs.Ytlcbomjdbdgbmaa
open Go.RowKit

def pxA (fn1 : Int) (fd1 : Int) (_tn1 : Int) (_td1 : Int) (fo1 : Bool) (_to1 : Bool) (fn2 : Int) (fd2 : Int) (_tn2 : Int) (_td2 : Int) (fo2 : Bool) (_to2 : Bool) : Int := (bif (rtCk fn1 fd1 fn2 fd2) then (bif ((rtC fn1 fd1 fn2 fd2) == 0) then (bif fo1 then (bif fo2 then 0 else 1) else (bif fo2 then (-1) else 0)) else (rtC fn1 fd1 fn2 fd2)) else (rtC fn1 fd1 fn2 fd2))

set_option maxRecDepth 100000 in
set_option maxHeartbeats 4000000 in

theorem pxAh_is (fn1 : Int) (fd1 : Int) (tn1 : Int) (td1 : Int) (fo1 : Bool) (to1 : Bool) (fn2 : Int) (fd2 : Int) (tn2 : Int) (td2 : Int) (fo2 : Bool) (to2 : Bool)  (R0 : Int) (hR0 : pxA fn1 fd1 tn1 td1 fo1 to1 fn2 fd2 tn2 td2 fo2 to2 = R0) (_ifn1 : InI fn1) (_ifd1 : InI fd1) (_itn1 : InI tn1) (_itd1 : InI td1) (_ifn2 : InI fn2) (_ifd2 : InI fd2) (_itn2 : InI tn2) (_itd2 : InI td2)  (w : World)  :
    Calls Try.prog 45 #[.agg #[.int .u64 (wd0 fn1), .int .u64 (wd1 fn1), .int .u64 (wd2 fn1), .int .u64 (wd3 fn1), .int .u64 (wd0 fd1), .int .u64 (wd1 fd1), .int .u64 (wd2 fd1), .int .u64 (wd3 fd1), .int .u64 (wd0 tn1), .int .u64 (wd1 tn1), .int .u64 (wd2 tn1), .int .u64 (wd3 tn1), .int .u64 (wd0 td1), .int .u64 (wd1 td1), .int .u64 (wd2 td1), .int .u64 (wd3 td1), .bool fo1, .bool to1], .agg #[.int .u64 (wd0 fn2), .int .u64 (wd1 fn2), .int .u64 (wd2 fn2), .int .u64 (wd3 fn2), .int .u64 (wd0 fd2), .int .u64 (wd1 fd2), .int .u64 (wd2 fd2), .int .u64 (wd3 fd2), .int .u64 (wd0 tn2), .int .u64 (wd1 tn2), .int .u64 (wd2 tn2), .int .u64 (wd3 tn2), .int .u64 (wd0 td2), .int .u64 (wd1 td2), .int .u64 (wd2 td2), .int .u64 (wd3 td2), .bool fo2, .bool to2]] w fun e w' => e = .returned (.int .i64 R0) ∧ Below w.heap.size w w' := by

  have HR0 := Lib.hid hR0
  clear hR0
  go_enter Try.func45, Try.ntmps45
  go_wp2_with fail
  first | refine calls_w ?_ | refine name_world ?_ | refine list_world ?_ | refine post_world ?_
  intro V1 hV1
  have hn : Below w.heap.size w V1 := by rw [hV1]; exact below_a2 _ _ _
  have nhb0 := hn
  have k1 : Blk V1 w.heap.size #[.int .u64 (wd0 fn1), .int .u64 (wd1 fn1), .int .u64 (wd2 fn1), .int .u64 (wd3 fn1), .int .u64 (wd0 fd1), .int .u64 (wd1 fd1), .int .u64 (wd2 fd1), .int .u64 (wd3 fd1), .int .u64 (wd0 tn1), .int .u64 (wd1 tn1), .int .u64 (wd2 tn1), .int .u64 (wd3 tn1), .int .u64 (wd0 td1), .int .u64 (wd1 td1), .int .u64 (wd2 td1), .int .u64 (wd3 td1), .bool fo1, .bool to1] 54 := by rw [hV1]; exact ((Blk.new _ _ _).alloc _)
  have k2 : Blk V1 (w.heap.size + 1) #[.int .u64 (wd0 fn2), .int .u64 (wd1 fn2), .int .u64 (wd2 fn2), .int .u64 (wd3 fn2), .int .u64 (wd0 fd2), .int .u64 (wd1 fd2), .int .u64 (wd2 fd2), .int .u64 (wd3 fd2), .int .u64 (wd0 tn2), .int .u64 (wd1 tn2), .int .u64 (wd2 tn2), .int .u64 (wd3 tn2), .int .u64 (wd0 td2), .int .u64 (wd1 td2), .int .u64 (wd2 td2), .int .u64 (wd3 td2), .bool fo2, .bool to2] 54 := by rw [hV1]; exact (Blk.new1 _ _ _ _)
  clear hV1
  have hb0 := nhb0
  clear nhb0
  obtain ⟨r1, hr1⟩ : ∃ o_o : Int, rtC fn1 fd1 fn2 fd2 = o_o := ⟨_, rfl⟩
  have Hr1 := Lib.hid hr1
  clear hr1
  obtain ⟨z2, hz2⟩ : ∃ o_o : Bool, rtCk fn1 fd1 fn2 fd2 = o_o := ⟨_, rfl⟩
  have Hz2 := Lib.hid hz2
  clear hz2
  refine (rtC_v fn1 fd1 fn2 fd2 r1 z2 Hr1.out Hz2.out _ifn1 _ifd1 _ifn2 _ifd2 _).mono ?_
  rintro e U2 ⟨rfl, hn⟩
  replace k1 := k1.of hn
  replace k2 := k2.of hn
  replace hb0 := hb0.trans (hn.mono hb0.size)
  clear hn
  cases z2
  · have e0 : r1 = R0 := by rw [← HR0.out]; unfold pxA; (try rw [Hr1.out]); (try rw [Hz2.out]); all_goals first | rfl | simp
    subst e0
    go_wp2
    first | go_ret | go_ret2
    exact ⟨by first | rfl | simp, hb0⟩
  · obtain ⟨z3, hz3⟩ : ∃ o_o : Bool, (r1 == 0) = o_o := ⟨_, rfl⟩
    cases z3
    · have nz3 : ¬ r1 = 0 := by simpa using hz3
      have e0 : r1 = R0 := by rw [← HR0.out]; unfold pxA; (try rw [Hr1.out]); (try rw [Hz2.out]); (try rw [hz3]); all_goals first | rfl | simp
      subst e0
      go_wp2
      first | go_ret | go_ret2
      exact ⟨by first | rfl | simp, hb0⟩
    · obtain rfl : r1 = 0 := by simpa using hz3
      clear hz3
      cases fo1
      · cases fo2
        · have c1_16 : U2.cell? ⟨w.heap.size, 16, none⟩ = some (.bool false) := k1.cell 16
          have l1 := k1.lt
          have c2_16 : U2.cell? ⟨(w.heap.size + 1), 16, none⟩ = some (.bool false) := k2.cell 16
          have l2 := k2.lt
          have e0 : 0 = R0 := by rw [← HR0.out]; unfold pxA; (try rw [Hr1.out]); (try rw [Hz2.out]); all_goals first | rfl | simp
          subst e0
          go_wp2
          clear c1_16 l1 c2_16 l2
          first | go_ret | go_ret2
          exact ⟨by first | rfl | simp, hb0⟩
        · have c1_16 : U2.cell? ⟨w.heap.size, 16, none⟩ = some (.bool false) := k1.cell 16
          have l1 := k1.lt
          have c2_16 : U2.cell? ⟨(w.heap.size + 1), 16, none⟩ = some (.bool true) := k2.cell 16
          have l2 := k2.lt
          have e0 : (-1) = R0 := by rw [← HR0.out]; unfold pxA; (try rw [Hr1.out]); (try rw [Hz2.out]); all_goals first | rfl | simp
          subst e0
          go_wp2
          clear c1_16 l1 c2_16 l2
          first | go_ret | go_ret2
          exact ⟨by first | rfl | simp, hb0⟩
      · cases fo2
        · have c1_16 : U2.cell? ⟨w.heap.size, 16, none⟩ = some (.bool true) := k1.cell 16
          have l1 := k1.lt
          have c2_16 : U2.cell? ⟨(w.heap.size + 1), 16, none⟩ = some (.bool false) := k2.cell 16
          have l2 := k2.lt
          have e0 : 1 = R0 := by rw [← HR0.out]; unfold pxA; (try rw [Hr1.out]); (try rw [Hz2.out]); all_goals first | rfl | simp
          subst e0
          go_wp2
          clear c1_16 l1 c2_16 l2
          first | go_ret | go_ret2
          exact ⟨by first | rfl | simp, hb0⟩
        · have c1_16 : U2.cell? ⟨w.heap.size, 16, none⟩ = some (.bool true) := k1.cell 16
          have l1 := k1.lt
          have c2_16 : U2.cell? ⟨(w.heap.size + 1), 16, none⟩ = some (.bool true) := k2.cell 16
          have l2 := k2.lt
          have e0 : 0 = R0 := by rw [← HR0.out]; unfold pxA; (try rw [Hr1.out]); (try rw [Hz2.out]); all_goals first | rfl | simp
          subst e0
          go_wp2
          clear c1_16 l1 c2_16 l2
          first | go_ret | go_ret2
          exact ⟨by first | rfl | simp, hb0⟩
end Go.Proofs.Ytlcbomjdbdgbmaa

namespace Go.Proofs.Ytlcbomjdbdgbmaa
open Go.RowKit


theorem L2 {a b c d p q : Int} (hd : 0 < d) (hb : 0 < b) (hq : 0 < q) (h : a * d ≤ c * b) (k : c * q ≤ p * d) : a * q ≤ p * b := by
  apply Int.le_of_mul_le_mul_right _ hd
  have h1 := Int.mul_le_mul_of_nonneg_right h (Int.le_of_lt hq)
  have h2 := Int.mul_le_mul_of_nonneg_right k (Int.le_of_lt hb)
  have e1 : a * d * q = a * q * d := by grind
  have e2 : c * b * q = c * q * b := by grind
  have e3 : p * d * b = p * b * d := by grind
  omega
theorem L1 {a b c d p q : Int} (hd : 0 < d) (hb : 0 < b) (hq : 0 < q) (h : a * d < c * b) (k : c * q ≤ p * d) : a * q < p * b := by
  apply Int.lt_of_mul_lt_mul_right _ (Int.le_of_lt hd)
  have h1 := Int.mul_lt_mul_of_pos_right h hq
  have h2 := Int.mul_le_mul_of_nonneg_right k (Int.le_of_lt hb)
  have e1 : a * d * q = a * q * d := by grind
  have e2 : c * b * q = c * q * b := by grind
  have e3 : p * d * b = p * b * d := by grind
  omega
theorem L3 {a b c d p q : Int} (hd : 0 < d) (hb : 0 < b) (hq : 0 < q) (h : a * d ≤ c * b) (k : c * q < p * d) : a * q < p * b := by
  apply Int.lt_of_mul_lt_mul_right _ (Int.le_of_lt hd)
  have h1 := Int.mul_le_mul_of_nonneg_right h (Int.le_of_lt hq)
  have h2 := Int.mul_lt_mul_of_pos_right k hb
  have e1 : a * d * q = a * q * d := by grind
  have e2 : c * b * q = c * q * b := by grind
  have e3 : p * d * b = p * b * d := by grind
  omega

/-- p / q isn't ahead of n / d; if that is open: it is behind it -/
def inF (n d : Int) (o : Bool) (p q : Int) : Prop := if o then n * q < p * d else n * q ≤ p * d
def inT (n d : Int) (o : Bool) (p q : Int) : Prop := if o then p * d < n * q else p * d ≤ n * q
theorem inF_le {n d p q : Int} {o : Bool} (h : inF n d o p q) : n * q ≤ p * d := by unfold inF at h; cases o <;> simp at h <;> omega
theorem inF_of {n d p q : Int} (o : Bool) (h : n * q < p * d) : inF n d o p q := by unfold inF; cases o <;> simp <;> omega
theorem inT_F (n d : Int) (o : Bool) (p q : Int) : inT n d o p q ↔ inF (-n) d o (-p) q := by
  unfold inT inF
  rw [Int.neg_mul, Int.neg_mul]
  cases o <;> simp <;> omega
theorem cmb_lt {n d x y p q : Int} {o u : Bool} (hd : 0 < d) (hy : 0 < y) (hq : 0 < q) (h : n * y < x * d) : (inF n d o p q ∧ inF x y u p q) ↔ inF x y u p q :=
  ⟨fun k => k.2, fun k => ⟨inF_of _ (L1 hy hd hq h (inF_le k)), k⟩⟩
theorem cmb_gt {n d x y p q : Int} {o u : Bool} (hd : 0 < d) (hy : 0 < y) (hq : 0 < q) (h : x * d < n * y) : (inF n d o p q ∧ inF x y u p q) ↔ inF n d o p q :=
  ⟨fun k => k.1, fun k => ⟨k, inF_of _ (L1 hd hy hq h (inF_le k))⟩⟩
theorem cmb_eq {n d x y p q : Int} {o u : Bool} (hd : 0 < d) (hy : 0 < y) (hq : 0 < q) (h : x * d = n * y) : (inF n d o p q ∧ inF x y u p q) ↔ inF n d (o || u) p q := by
  have h1 : n * q ≤ p * d ↔ x * q ≤ p * y := ⟨fun k => L2 hd hy hq (by omega) k, fun k => L2 hy hd hq (by omega) k⟩
  have h2 : n * q < p * d ↔ x * q < p * y := ⟨fun k => L3 hd hy hq (by omega) k, fun k => L3 hy hd hq (by omega) k⟩
  unfold inF
  cases o <;> cases u <;> simp <;> omega
theorem cmt_lt {n d x y p q : Int} {o u : Bool} (hd : 0 < d) (hy : 0 < y) (hq : 0 < q) (h : x * d < n * y) : (inT n d o p q ∧ inT x y u p q) ↔ inT x y u p q := by
  rw [inT_F, inT_F]; exact cmb_lt hd hy hq (by rw [Int.neg_mul, Int.neg_mul]; omega)
theorem cmt_gt {n d x y p q : Int} {o u : Bool} (hd : 0 < d) (hy : 0 < y) (hq : 0 < q) (h : n * y < x * d) : (inT n d o p q ∧ inT x y u p q) ↔ inT n d o p q := by
  rw [inT_F, inT_F]; exact cmb_gt hd hy hq (by rw [Int.neg_mul, Int.neg_mul]; omega)
theorem cmt_eq {n d x y p q : Int} {o u : Bool} (hd : 0 < d) (hy : 0 < y) (hq : 0 < q) (h : x * d = n * y) : (inT n d o p q ∧ inT x y u p q) ↔ inT n d (o || u) p q := by
  rw [inT_F, inT_F, inT_F]; exact cmb_eq hd hy hq (by rw [Int.neg_mul, Int.neg_mul]; omega)

/-- between two fractions, or at them -/
theorem mid_in {n d x y : Int} {o u : Bool} (hd : 0 < d) (hy : 0 < y) (h : n * y < x * d) : inF n d o (n * y + x * d) (2 * (d * y)) ∧ inT x y u (n * y + x * d) (2 * (d * y)) := by
  have k1 : n * (2 * (d * y)) < (n * y + x * d) * d := by
    have := Int.mul_lt_mul_of_pos_right h hd
    have e : n * (2 * (d * y)) = n * y * d + n * y * d := by grind
    have e2 : (n * y + x * d) * d = n * y * d + x * d * d := by grind
    omega
  have k2 : (n * y + x * d) * y < x * (2 * (d * y)) := by
    have := Int.mul_lt_mul_of_pos_right h hy
    have e : x * (2 * (d * y)) = x * d * y + x * d * y := by grind
    have e2 : (n * y + x * d) * y = n * y * y + x * d * y := by grind
    omega
  refine ⟨inF_of _ k1, ?_⟩
  unfold inT
  cases u <;> simp <;> omega
theorem at_in {n d x y : Int} (_hd : 0 < d) (_hy : 0 < y) (h : n * y = x * d) : inF n d false n d ∧ inT x y false n d := by
  unfold inF inT; simp; omega
/-- there is none -/
theorem none_in {n d x y p q : Int} {o u : Bool} (hd : 0 < d) (hy : 0 < y) (hq : 0 < q) (h : x * d < n * y ∨ (x * d = n * y ∧ (o = true ∨ u = true))) : ¬ (inF n d o p q ∧ inT x y u p q) := by
  rintro ⟨h1, h2⟩
  have k1 := inF_le h1
  have k2 : p * y ≤ x * q := by unfold inT at h2; cases u <;> simp at h2 <;> omega
  rcases h with h | ⟨h, h3⟩
  · have := L1 hd hy hq h k1
    omega
  · rcases h3 with rfl | rfl
    · have k1' : n * q < p * d := by simpa [inF] using h1
      have := L3 hd hy hq (by omega : x * d ≤ n * y) k1'
      omega
    · have k2' : p * y < x * q := by simpa [inT] using h2
      have := L2 hd hy hq (by omega : x * d ≤ n * y) k1
      omega
def Bd (n d : Int) : Prop := -1180591620717411303424 ≤ n ∧ n ≤ 1180591620717411303424 ∧ 0 < d ∧ d ≤ 1125899906842624
theorem mulb {n y A B : Int} (h1 : -A ≤ n) (h2 : n ≤ A) (h3 : 0 ≤ y) (h4 : y ≤ B) (hA : 0 ≤ A) : -(A * B) ≤ n * y ∧ n * y ≤ A * B := by
  have a1 := Int.mul_le_mul_of_nonneg_right h2 h3
  have a2 := Int.mul_le_mul_of_nonneg_left h4 hA
  have a3 := Int.mul_le_mul_of_nonneg_right h1 h3
  rw [Int.neg_mul] at a3; omega
theorem bd_ok {n d x y : Int} (h : Bd n d) (k : Bd x y) : okI (n * y) = true := by
  obtain ⟨h1, h2, h3, h4⟩ := h
  obtain ⟨k1, k2, k3, k4⟩ := k
  have := mulb h1 h2 (Int.le_of_lt k3) k4 (by omega)
  unfold okI
  apply decide_eq_true
  unfold InI b255
  omega
theorem pxl_bd {n d x y : Int} (h : Bd n d) (k : Bd x y) : pxl n d x y = cmpI (n * y) (x * d) := by
  unfold pxl rtC rtCk
  rw [bd_ok h k, bd_ok k h, decide_eq_true h.2.2.1, decide_eq_true k.2.2.1]
  rfl
def InS (fn fd tn td : Int) (fo to : Bool) (p q : Int) : Prop := inF fn fd fo p q ∧ inT tn td to p q
def BS (fn fd tn td : Int) : Prop := Bd fn fd ∧ Bd tn td
theorem cmpI_cases (x y : Int) : (x < y ∧ cmpI x y = -1) ∨ (x = y ∧ cmpI x y = 0) ∨ (y < x ∧ cmpI x y = 1) := by
  rcases Int.lt_trichotomy x y with h | h | h
  · exact .inl ⟨h, cmpI_lt h⟩
  · exact .inr (.inl ⟨h, by rw [h]; exact cmpI_eq _⟩)
  · exact .inr (.inr ⟨h, cmpI_gt h⟩)
theorem fr_sp {fn fd tn td x y : Int} (fo to o : Bool) (hS : BS fn fd tn td) (hx : Bd x y) :
    BS (frfn fn fd tn td fo to x y o) (frfd fn fd tn td fo to x y o) (frtn fn fd tn td fo to x y o) (frtd fn fd tn td fo to x y o) ∧
    ∀ p q, 0 < q → (InS (frfn fn fd tn td fo to x y o) (frfd fn fd tn td fo to x y o) (frtn fn fd tn td fo to x y o) (frtd fn fd tn td fo to x y o) (frfo fn fd tn td fo to x y o) (frto fn fd tn td fo to x y o) p q ↔ InS fn fd tn td fo to p q ∧ inF x y o p q) := by
  unfold frfn frfd frtn frtd frfo frto InS BS
  rw [pxl_bd hx hS.1]
  have hfd := hS.1.2.2.1
  have hy := hx.2.2.1
  have sw (p q : Int) : (inF fn fd fo p q ∧ inT tn td to p q) ∧ inF x y o p q ↔ (inF fn fd fo p q ∧ inF x y o p q) ∧ inT tn td to p q := by
    constructor <;> (intro h; simp only [h, and_self])
  rcases cmpI_cases (x * fd) (fn * y) with ⟨h, e⟩ | ⟨h, e⟩ | ⟨h, e⟩ <;> rw [e]
  · refine ⟨⟨hS.1, hS.2⟩, fun p q hq => ?_⟩
    rw [sw, cmb_gt hfd hy hq h]; exact Iff.rfl
  · refine ⟨⟨hS.1, hS.2⟩, fun p q hq => ?_⟩
    rw [sw, cmb_eq hfd hy hq h]
    cases fo <;> cases o <;> exact Iff.rfl
  · refine ⟨⟨hx, hS.2⟩, fun p q hq => ?_⟩
    rw [sw, cmb_lt hfd hy hq h]; exact Iff.rfl
theorem to_sp {fn fd tn td x y : Int} (fo to o : Bool) (hS : BS fn fd tn td) (hx : Bd x y) :
    BS (tofn fn fd tn td fo to x y o) (tofd fn fd tn td fo to x y o) (totn fn fd tn td fo to x y o) (totd fn fd tn td fo to x y o) ∧
    ∀ p q, 0 < q → (InS (tofn fn fd tn td fo to x y o) (tofd fn fd tn td fo to x y o) (totn fn fd tn td fo to x y o) (totd fn fd tn td fo to x y o) (tofo fn fd tn td fo to x y o) (toto fn fd tn td fo to x y o) p q ↔ InS fn fd tn td fo to p q ∧ inT x y o p q) := by
  unfold tofn tofd totn totd tofo toto InS BS
  rw [pxl_bd hx hS.2]
  have hfd := hS.2.2.2.1
  have hy := hx.2.2.1
  have sw (p q : Int) : (inF fn fd fo p q ∧ inT tn td to p q) ∧ inT x y o p q ↔ inF fn fd fo p q ∧ (inT tn td to p q ∧ inT x y o p q) := and_assoc
  rcases cmpI_cases (x * td) (tn * y) with ⟨h, e⟩ | ⟨h, e⟩ | ⟨h, e⟩ <;> rw [e]
  · refine ⟨⟨hS.1, hx⟩, fun p q hq => ?_⟩
    rw [sw, cmt_lt hfd hy hq h]; exact Iff.rfl
  · refine ⟨⟨hS.1, hS.2⟩, fun p q hq => ?_⟩
    rw [sw, cmt_eq hfd hy hq h]
    cases to <;> cases o <;> exact Iff.rfl
  · refine ⟨⟨hS.1, hS.2⟩, fun p q hq => ?_⟩
    rw [sw, cmt_gt hfd hy hq h]; exact Iff.rfl
/-- what a band asks -/
def inB (a b c d p q : Int) : Prop := c * q ≤ 2 * a * q + 2 * b * p ∧ 2 * a * q + 2 * b * p < d * q
def BdB (a b c d : Int) : Prop := -4398046511104 ≤ a ∧ a ≤ 4398046511104 ∧ -4398046511104 ≤ b ∧ b ≤ 4398046511104 ∧ -4611686018428436480 ≤ c ∧ c ≤ 4611686018428436480 ∧ -4611686018428436480 ≤ d ∧ d ≤ 4611686018428436480
theorem w64_id {x : Int} (h : -9223372036854775808 ≤ x) (k : x ≤ 9223372036854775807) : wrap64 x = x := wrap64_id (by unfold In64; omega)
theorem ba_sp {fn fd tn td a b c d : Int} (fo to : Bool) (hS : BS fn fd tn td) (hB : BdB a b c d) :
    (bak fn fd tn td fo to a b c d = true → BS (bafn fn fd tn td fo to a b c d) (bafd fn fd tn td fo to a b c d) (batn fn fd tn td fo to a b c d) (batd fn fd tn td fo to a b c d) ∧
      ∀ p q, 0 < q → (InS (bafn fn fd tn td fo to a b c d) (bafd fn fd tn td fo to a b c d) (batn fn fd tn td fo to a b c d) (batd fn fd tn td fo to a b c d) (bafo fn fd tn td fo to a b c d) (bato fn fd tn td fo to a b c d) p q ↔ InS fn fd tn td fo to p q ∧ inB a b c d p q)) ∧
    (bak fn fd tn td fo to a b c d = false → ∀ p q, 0 < q → ¬ inB a b c d p q) := by
  obtain ⟨h1, h2, h3, h4, h5, h6, h7, h8⟩ := hB
  have ea : wrap64 (2 * a) = 2 * a := w64_id (by omega) (by omega)
  have eb : wrap64 (2 * b) = 2 * b := w64_id (by omega) (by omega)
  have en : wrap64 (-(2 * b)) = -(2 * b) := w64_id (by omega) (by omega)
  have e1 : wrap64 (c - 2 * a) = c - 2 * a := w64_id (by omega) (by omega)
  have e2 : wrap64 (d - 2 * a) = d - 2 * a := w64_id (by omega) (by omega)
  have e3 : wrap64 (2 * a - c) = 2 * a - c := w64_id (by omega) (by omega)
  have e4 : wrap64 (2 * a - d) = 2 * a - d := w64_id (by omega) (by omega)
  unfold bak bafn bafd batn batd bafo bato pxbn pxbd
  rw [ea, eb, en, e1, e2, e3, e4]
  rcases Int.lt_trichotomy b 0 with hb | hb | hb
  · rw [decide_eq_false (by omega : ¬ 0 < 2 * b), decide_eq_true (by omega : 2 * b < 0)]
    simp only [cond_false, cond_true]
    refine ⟨fun _ => ?_, fun h => by simp at h⟩
    have x1 : Bd (2 * a - d) (-(2 * b)) := ⟨by omega, by omega, by omega, by omega⟩
    have x2 : Bd (2 * a - c) (-(2 * b)) := ⟨by omega, by omega, by omega, by omega⟩
    have s1 := fr_sp fo to true hS x1
    have s2 := to_sp (frfo fn fd tn td fo to (2 * a - d) (-(2 * b)) true) (frto fn fd tn td fo to (2 * a - d) (-(2 * b)) true) false s1.1 x2
    refine ⟨s2.1, fun p q hq => ?_⟩
    rw [s2.2 p q hq, s1.2 p q hq, and_assoc]
    have : inF (2 * a - d) (-(2 * b)) true p q ∧ inT (2 * a - c) (-(2 * b)) false p q ↔ inB a b c d p q := by
      unfold inF inT inB
      have g1 : (2 * a - d) * q = 2 * a * q - d * q := by grind
      have g2 : (2 * a - c) * q = 2 * a * q - c * q := by grind
      have g3 : p * (-(2 * b)) = -(2 * b * p) := by grind
      rw [g1, g2, g3]
      simp only [if_true, Bool.false_eq_true, if_false]
      omega
    rw [this]
  · subst hb
    simp only [Int.mul_zero, Int.lt_irrefl, decide_false, cond_false]
    have z (p q : Int) : inB a 0 c d p q ↔ c * q ≤ 2 * a * q ∧ 2 * a * q < d * q := by unfold inB; simp
    constructor
    · intro h
      refine ⟨hS, fun p q hq => ?_⟩
      have h' : c ≤ 2 * a ∧ 2 * a < d := by
        cases hc : decide (c ≤ 2 * a) <;> rw [hc] at h <;> simp at h hc
        exact ⟨hc, h⟩
      have t1 := Int.mul_le_mul_of_nonneg_right h'.1 (Int.le_of_lt hq)
      have t2 := Int.mul_lt_mul_of_pos_right h'.2 hq
      rw [z]
      exact ⟨fun k => ⟨k, t1, t2⟩, fun k => k.1⟩
    · intro h p q hq
      rw [z]
      rintro ⟨t1, t2⟩
      have t1' := Int.le_of_mul_le_mul_right t1 hq
      have t2' := Int.lt_of_mul_lt_mul_right t2 (Int.le_of_lt hq)
      rw [decide_eq_true t1', decide_eq_true t2'] at h
      simp at h
  · rw [decide_eq_true (by omega : 0 < 2 * b)]
    simp only [cond_true]
    refine ⟨fun _ => ?_, fun h => by simp at h⟩
    have x1 : Bd (c - 2 * a) (2 * b) := ⟨by omega, by omega, by omega, by omega⟩
    have x2 : Bd (d - 2 * a) (2 * b) := ⟨by omega, by omega, by omega, by omega⟩
    have s1 := fr_sp fo to false hS x1
    have s2 := to_sp (frfo fn fd tn td fo to (c - 2 * a) (2 * b) false) (frto fn fd tn td fo to (c - 2 * a) (2 * b) false) true s1.1 x2
    refine ⟨s2.1, fun p q hq => ?_⟩
    rw [s2.2 p q hq, s1.2 p q hq, and_assoc]
    have : inF (c - 2 * a) (2 * b) false p q ∧ inT (d - 2 * a) (2 * b) true p q ↔ inB a b c d p q := by
      unfold inF inT inB
      have g1 : (d - 2 * a) * q = d * q - 2 * a * q := by grind
      have g2 : (c - 2 * a) * q = c * q - 2 * a * q := by grind
      have g3 : p * (2 * b) = 2 * b * p := by grind
      rw [g1, g2, g3]
      simp only [if_true, Bool.false_eq_true, if_false]
      omega
    rw [this]
/-- is something of it left -/
theorem sm_sp {fn fd tn td : Int} (fo to : Bool) (hS : BS fn fd tn td) :
    (smk_ fn fd tn td fo to = true → ∃ p q, 0 < q ∧ InS fn fd tn td fo to p q) ∧ (smk_ fn fd tn td fo to = false → ∀ p q, 0 < q → ¬ InS fn fd tn td fo to p q) := by
  have h1 := hS.1.2.2.1
  have h2 := hS.2.2.2.1
  unfold smk_ InS
  rw [pxl_bd hS.1 hS.2]
  rcases cmpI_cases (fn * td) (tn * fd) with ⟨h, e⟩ | ⟨h, e⟩ | ⟨h, e⟩ <;> rw [e]
  · refine ⟨fun _ => ⟨_, _, ?_, mid_in h1 h2 h⟩, fun k => by simp at k⟩
    have := Int.mul_pos h1 h2
    omega
  · constructor
    · intro k
      cases fo <;> cases to <;> simp at k
      exact ⟨_, _, h1, at_in h1 h2 h⟩
    · intro k p q hq
      refine none_in h1 h2 hq (.inr ⟨h.symm, ?_⟩)
      cases fo <;> cases to <;> simp at k ⊢
  · refine ⟨fun k => by simp at k, fun _ p q hq => none_in h1 h2 hq (.inl h)⟩
theorem smfo_eq (fn fd tn td : Int) (fo to : Bool) : smfo fn fd tn td fo to = fo := by
  unfold smfo
  cases decide (pxl fn fd tn td < 0) <;> cases (pxl fn fd tn td == 0) <;> cases fo <;> rfl
def cuL (c n : Int) : Int := wrap64 ((wrap64 ((wrap64 (2 * c)) * n)) - n)
def cuH (c n : Int) : Int := wrap64 ((wrap64 ((wrap64 (2 * c)) * n)) + n)
def c1k (ax bx cx n : Int) : Bool := bak 0 1 1 1 false false ax (wrap64 (bx - ax)) (cuL cx n) (cuH cx n)
def c1fn (ax bx cx n : Int) : Int := bafn 0 1 1 1 false false ax (wrap64 (bx - ax)) (cuL cx n) (cuH cx n)
def c1fd (ax bx cx n : Int) : Int := bafd 0 1 1 1 false false ax (wrap64 (bx - ax)) (cuL cx n) (cuH cx n)
def c1tn (ax bx cx n : Int) : Int := batn 0 1 1 1 false false ax (wrap64 (bx - ax)) (cuL cx n) (cuH cx n)
def c1td (ax bx cx n : Int) : Int := batd 0 1 1 1 false false ax (wrap64 (bx - ax)) (cuL cx n) (cuH cx n)
def c1fo (ax bx cx n : Int) : Bool := bafo 0 1 1 1 false false ax (wrap64 (bx - ax)) (cuL cx n) (cuH cx n)
def c1to (ax bx cx n : Int) : Bool := bato 0 1 1 1 false false ax (wrap64 (bx - ax)) (cuL cx n) (cuH cx n)
def c2k (ax ay bx b_y cx cy n : Int) : Bool := bak (c1fn ax bx cx n) (c1fd ax bx cx n) (c1tn ax bx cx n) (c1td ax bx cx n) (c1fo ax bx cx n) (c1to ax bx cx n) ay (wrap64 (b_y - ay)) (cuL cy n) (cuH cy n)
def c2fn (ax ay bx b_y cx cy n : Int) : Int := bafn (c1fn ax bx cx n) (c1fd ax bx cx n) (c1tn ax bx cx n) (c1td ax bx cx n) (c1fo ax bx cx n) (c1to ax bx cx n) ay (wrap64 (b_y - ay)) (cuL cy n) (cuH cy n)
def c2fd (ax ay bx b_y cx cy n : Int) : Int := bafd (c1fn ax bx cx n) (c1fd ax bx cx n) (c1tn ax bx cx n) (c1td ax bx cx n) (c1fo ax bx cx n) (c1to ax bx cx n) ay (wrap64 (b_y - ay)) (cuL cy n) (cuH cy n)
def c2tn (ax ay bx b_y cx cy n : Int) : Int := batn (c1fn ax bx cx n) (c1fd ax bx cx n) (c1tn ax bx cx n) (c1td ax bx cx n) (c1fo ax bx cx n) (c1to ax bx cx n) ay (wrap64 (b_y - ay)) (cuL cy n) (cuH cy n)
def c2td (ax ay bx b_y cx cy n : Int) : Int := batd (c1fn ax bx cx n) (c1fd ax bx cx n) (c1tn ax bx cx n) (c1td ax bx cx n) (c1fo ax bx cx n) (c1to ax bx cx n) ay (wrap64 (b_y - ay)) (cuL cy n) (cuH cy n)
def c2fo (ax ay bx b_y cx cy n : Int) : Bool := bafo (c1fn ax bx cx n) (c1fd ax bx cx n) (c1tn ax bx cx n) (c1td ax bx cx n) (c1fo ax bx cx n) (c1to ax bx cx n) ay (wrap64 (b_y - ay)) (cuL cy n) (cuH cy n)
def c2to (ax ay bx b_y cx cy n : Int) : Bool := bato (c1fn ax bx cx n) (c1fd ax bx cx n) (c1tn ax bx cx n) (c1td ax bx cx n) (c1fo ax bx cx n) (c1to ax bx cx n) ay (wrap64 (b_y - ay)) (cuL cy n) (cuH cy n)
def cuk (ax ay bx b_y cx cy n : Int) : Bool := bif pxS n then (bif sgR ax ay bx b_y then (bif rp cx cy then (bif c1k ax bx cx n then (bif c2k ax ay bx b_y cx cy n then smk_ (c2fn ax ay bx b_y cx cy n) (c2fd ax ay bx b_y cx cy n) (c2tn ax ay bx b_y cx cy n) (c2td ax ay bx b_y cx cy n) (c2fo ax ay bx b_y cx cy n) (c2to ax ay bx b_y cx cy n) else false) else false) else false) else false) else false
def cufn (ax ay bx b_y cx cy n : Int) : Int := bif cuk ax ay bx b_y cx cy n then smfn (c2fn ax ay bx b_y cx cy n) (c2fd ax ay bx b_y cx cy n) (c2tn ax ay bx b_y cx cy n) (c2td ax ay bx b_y cx cy n) (c2fo ax ay bx b_y cx cy n) (c2to ax ay bx b_y cx cy n) else 0
def cufd (ax ay bx b_y cx cy n : Int) : Int := bif cuk ax ay bx b_y cx cy n then smfd (c2fn ax ay bx b_y cx cy n) (c2fd ax ay bx b_y cx cy n) (c2tn ax ay bx b_y cx cy n) (c2td ax ay bx b_y cx cy n) (c2fo ax ay bx b_y cx cy n) (c2to ax ay bx b_y cx cy n) else 0
def cutn (ax ay bx b_y cx cy n : Int) : Int := bif cuk ax ay bx b_y cx cy n then smtn (c2fn ax ay bx b_y cx cy n) (c2fd ax ay bx b_y cx cy n) (c2tn ax ay bx b_y cx cy n) (c2td ax ay bx b_y cx cy n) (c2fo ax ay bx b_y cx cy n) (c2to ax ay bx b_y cx cy n) else 0
def cutd (ax ay bx b_y cx cy n : Int) : Int := bif cuk ax ay bx b_y cx cy n then smtd (c2fn ax ay bx b_y cx cy n) (c2fd ax ay bx b_y cx cy n) (c2tn ax ay bx b_y cx cy n) (c2td ax ay bx b_y cx cy n) (c2fo ax ay bx b_y cx cy n) (c2to ax ay bx b_y cx cy n) else 0
def cufo (ax ay bx b_y cx cy n : Int) : Bool := bif cuk ax ay bx b_y cx cy n then smfo (c2fn ax ay bx b_y cx cy n) (c2fd ax ay bx b_y cx cy n) (c2tn ax ay bx b_y cx cy n) (c2td ax ay bx b_y cx cy n) (c2fo ax ay bx b_y cx cy n) (c2to ax ay bx b_y cx cy n) else false
def cuto (ax ay bx b_y cx cy n : Int) : Bool := bif cuk ax ay bx b_y cx cy n then smto (c2fn ax ay bx b_y cx cy n) (c2fd ax ay bx b_y cx cy n) (c2tn ax ay bx b_y cx cy n) (c2td ax ay bx b_y cx cy n) (c2fo ax ay bx b_y cx cy n) (c2to ax ay bx b_y cx cy n) else false
/-- the way is in the pixel at p / q -/
def inCC (ax ay bx b_y cx cy n p q : Int) : Prop := (0 ≤ p ∧ p ≤ q) ∧ inB ax (bx - ax) (2 * cx * n - n) (2 * cx * n + n) p q ∧ inB ay (b_y - ay) (2 * cy * n - n) (2 * cy * n + n) p q
theorem inC_iff (x : Int) : inC x = true ↔ -2199023255552 ≤ x ∧ x ≤ 2199023255552 := by unfold inC; simp
theorem rp_iff (x y : Int) : rp x y = true ↔ (-2199023255552 ≤ x ∧ x ≤ 2199023255552) ∧ (-2199023255552 ≤ y ∧ y ≤ 2199023255552) := by unfold rp; rw [Bool.and_eq_true, inC_iff, inC_iff]
theorem pxS_iff (n : Int) : pxS n = true ↔ 1 ≤ n ∧ n ≤ 1048576 := by
  unfold pxS
  cases h : decide (1 ≤ n) <;> simp at h ⊢ <;> omega
theorem sgR_iff (ax ay bx b_y : Int) : sgR ax ay bx b_y = true ↔ rp ax ay = true ∧ rp bx b_y = true := by
  unfold sgR
  cases rp ax ay <;> simp
theorem cuL_eq {c n : Int} (hc : -2199023255552 ≤ c ∧ c ≤ 2199023255552) (hn : 1 ≤ n ∧ n ≤ 1048576) :
    cuL c n = 2 * c * n - n ∧ cuH c n = 2 * c * n + n ∧ -4611686018427387904 ≤ 2 * c * n ∧ 2 * c * n ≤ 4611686018427387904 := by
  have e : wrap64 (2 * c) = 2 * c := w64_id (by omega) (by omega)
  have b := @mulb (2 * c) n 4398046511104 1048576 (by omega) (by omega) (by omega) (by omega) (by omega)
  have e2 : wrap64 (2 * c * n) = 2 * c * n := w64_id (by omega) (by omega)
  unfold cuL cuH
  rw [e, e2]
  exact ⟨w64_id (by omega) (by omega), w64_id (by omega) (by omega), by omega, by omega⟩
theorem InS_01 (p q : Int) : InS 0 1 1 1 false false p q ↔ 0 ≤ p ∧ p ≤ q := by unfold InS inF inT; simp
theorem cu_sp {ax ay bx b_y cx cy n : Int} (hn : pxS n = true) (hs : sgR ax ay bx b_y = true) (hc : rp cx cy = true) :
    (cuk ax ay bx b_y cx cy n = true → BS (cufn ax ay bx b_y cx cy n) (cufd ax ay bx b_y cx cy n) (cutn ax ay bx b_y cx cy n) (cutd ax ay bx b_y cx cy n) ∧ (∃ p q, 0 < q ∧ InS (cufn ax ay bx b_y cx cy n) (cufd ax ay bx b_y cx cy n) (cutn ax ay bx b_y cx cy n) (cutd ax ay bx b_y cx cy n) (cufo ax ay bx b_y cx cy n) (cuto ax ay bx b_y cx cy n) p q) ∧ ∀ p q, 0 < q → (InS (cufn ax ay bx b_y cx cy n) (cufd ax ay bx b_y cx cy n) (cutn ax ay bx b_y cx cy n) (cutd ax ay bx b_y cx cy n) (cufo ax ay bx b_y cx cy n) (cuto ax ay bx b_y cx cy n) p q ↔ inCC ax ay bx b_y cx cy n p q)) ∧
    (cuk ax ay bx b_y cx cy n = false → ∀ p q, 0 < q → ¬ inCC ax ay bx b_y cx cy n p q) := by
  have hn' := (pxS_iff n).1 hn
  have hs' := (sgR_iff _ _ _ _).1 hs
  have ha := (rp_iff _ _).1 hs'.1
  have hb := (rp_iff _ _).1 hs'.2
  have hc' := (rp_iff _ _).1 hc
  obtain ⟨x1, x2, x3, x4⟩ := cuL_eq hc'.1 hn'
  obtain ⟨y1, y2, y3, y4⟩ := cuL_eq hc'.2 hn'
  have wx : wrap64 (bx - ax) = bx - ax := w64_id (by omega) (by omega)
  have wy : wrap64 (b_y - ay) = b_y - ay := w64_id (by omega) (by omega)
  have B0 : BS 0 1 1 1 := ⟨⟨by omega, by omega, by omega, by omega⟩, by omega, by omega, by omega, by omega⟩
  have s1 := ba_sp false false B0 (a := ax) (b := bx - ax) (c := 2 * cx * n - n) (d := 2 * cx * n + n) ⟨by omega, by omega, by omega, by omega, by omega, by omega, by omega, by omega⟩
  rw [← wx, ← x1, ← x2] at s1
  have s1k : c1k ax bx cx n = true → _ := s1.1
  have s1n : c1k ax bx cx n = false → _ := s1.2
  have key : cuk ax ay bx b_y cx cy n = (bif c1k ax bx cx n then (bif c2k ax ay bx b_y cx cy n then smk_ (c2fn ax ay bx b_y cx cy n) (c2fd ax ay bx b_y cx cy n) (c2tn ax ay bx b_y cx cy n) (c2td ax ay bx b_y cx cy n) (c2fo ax ay bx b_y cx cy n) (c2to ax ay bx b_y cx cy n) else false) else false) := by
    unfold cuk; rw [hn, hs, hc]; rfl
  cases h1 : c1k ax bx cx n
  · rw [h1] at key
    refine ⟨fun h => by rw [h] at key; simp at key, fun _ p q hq k => s1n h1 p q hq ?_⟩
    have := k.2.1
    rw [← wx, ← x1, ← x2] at this
    exact this
  · obtain ⟨g1, g2⟩ := s1k h1
    have s2 := ba_sp (c1fo ax bx cx n) (c1to ax bx cx n) (show BS (c1fn ax bx cx n) (c1fd ax bx cx n) (c1tn ax bx cx n) (c1td ax bx cx n) from g1) (a := ay) (b := b_y - ay) (c := 2 * cy * n - n) (d := 2 * cy * n + n) ⟨by omega, by omega, by omega, by omega, by omega, by omega, by omega, by omega⟩
    rw [← wy, ← y1, ← y2] at s2
    have s2k : c2k ax ay bx b_y cx cy n = true → _ := s2.1
    have s2n : c2k ax ay bx b_y cx cy n = false → _ := s2.2
    rw [h1] at key
    cases h2 : c2k ax ay bx b_y cx cy n
    · rw [h2] at key
      refine ⟨fun h => by rw [h] at key; simp at key, fun _ p q hq k => s2n h2 p q hq ?_⟩
      have := k.2.2
      rw [← wy, ← y1, ← y2] at this
      exact this
    · obtain ⟨f1, f2⟩ := s2k h2
      rw [h2] at key
      have f1' : BS (c2fn ax ay bx b_y cx cy n) (c2fd ax ay bx b_y cx cy n) (c2tn ax ay bx b_y cx cy n) (c2td ax ay bx b_y cx cy n) := f1
      have eqv : ∀ p q, 0 < q → (InS (c2fn ax ay bx b_y cx cy n) (c2fd ax ay bx b_y cx cy n) (c2tn ax ay bx b_y cx cy n) (c2td ax ay bx b_y cx cy n) (c2fo ax ay bx b_y cx cy n) (c2to ax ay bx b_y cx cy n) p q ↔ inCC ax ay bx b_y cx cy n p q) := by
        intro p q hq
        have t2 : InS (c2fn ax ay bx b_y cx cy n) (c2fd ax ay bx b_y cx cy n) (c2tn ax ay bx b_y cx cy n) (c2td ax ay bx b_y cx cy n) (c2fo ax ay bx b_y cx cy n) (c2to ax ay bx b_y cx cy n) p q ↔ InS (c1fn ax bx cx n) (c1fd ax bx cx n) (c1tn ax bx cx n) (c1td ax bx cx n) (c1fo ax bx cx n) (c1to ax bx cx n) p q ∧ inB ay (wrap64 (b_y - ay)) (cuL cy n) (cuH cy n) p q := f2 p q hq
        have t1 : InS (c1fn ax bx cx n) (c1fd ax bx cx n) (c1tn ax bx cx n) (c1td ax bx cx n) (c1fo ax bx cx n) (c1to ax bx cx n) p q ↔ InS 0 1 1 1 false false p q ∧ inB ax (wrap64 (bx - ax)) (cuL cx n) (cuH cx n) p q := g2 p q hq
        rw [t2, t1, InS_01, wx, wy, x1, x2, y1, y2, and_assoc]
        exact Iff.rfl
      have s3 := sm_sp (c2fo ax ay bx b_y cx cy n) (c2to ax ay bx b_y cx cy n) f1'
      cases h3 : cuk ax ay bx b_y cx cy n
      · rw [h3] at key
        refine ⟨fun h => by simp at h, fun _ p q hq k => ?_⟩
        exact s3.2 key.symm p q hq ((eqv p q hq).2 k)
      · rw [h3] at key
        refine ⟨fun _ => ?_, fun h => by simp at h⟩
        unfold cufn cufd cutn cutd cufo cuto smfn smfd smtn smtd smto
        rw [h3, smfo_eq]
        exact ⟨f1', s3.1 key.symm, eqv⟩
/-- a coordinate x / v is in the row, or the column, of cell k -/
def inCell (n v k x : Int) : Prop := (2 * k * n - n) * v ≤ 2 * x ∧ 2 * x < (2 * k * n + n) * v
theorem cell_le {n v k c x y : Int} (hn : 0 < n) (hv : 0 < v) (hk : inCell n v k x) (hc : inCell n v c y) (h : x ≤ y) : k ≤ c := by
  have h1 := hk.1
  have h2 := hc.2
  have h3 : 2 * k * n - n < 2 * c * n + n := Int.lt_of_mul_lt_mul_right (a := v) (by omega) (Int.le_of_lt hv)
  have h4 : n * (2 * k) < n * (2 * c + 2) := by
    have e1 : n * (2 * k) = 2 * k * n := by grind
    have e2 : n * (2 * c + 2) = 2 * c * n + 2 * n := by grind
    omega
  have := Int.lt_of_mul_lt_mul_left h4 (Int.le_of_lt hn)
  omega
theorem cell_eq {n v k c x : Int} (hn : 0 < n) (hv : 0 < v) (hk : inCell n v k x) (hc : inCell n v c x) : k = c :=
  Int.le_antisymm (cell_le hn hv hk hc (Int.le_refl _)) (cell_le hn hv hc hk (Int.le_refl _))
/-- fractions with one denominator -/
theorem sc_F {n d F p M : Int} {o : Bool} (hd : 0 < d) (e : n * M = F * d) : inF n d o p M ↔ (if o then F < p else F ≤ p) := by
  have h1 : n * M < p * d ↔ F < p := by rw [e]; exact ⟨fun h => Int.lt_of_mul_lt_mul_right h (Int.le_of_lt hd), fun h => Int.mul_lt_mul_of_pos_right h hd⟩
  have h2 : n * M ≤ p * d ↔ F ≤ p := by rw [e]; exact ⟨fun h => Int.le_of_mul_le_mul_right h hd, fun h => Int.mul_le_mul_of_nonneg_right h (Int.le_of_lt hd)⟩
  unfold inF
  cases o <;> simp [h1, h2]
theorem sc_T {n d F p M : Int} {o : Bool} (hd : 0 < d) (e : n * M = F * d) : inT n d o p M ↔ (if o then p < F else p ≤ F) := by
  have h1 : p * d < n * M ↔ p < F := by rw [e]; exact ⟨fun h => Int.lt_of_mul_lt_mul_right h (Int.le_of_lt hd), fun h => Int.mul_lt_mul_of_pos_right h hd⟩
  have h2 : p * d ≤ n * M ↔ p ≤ F := by rw [e]; exact ⟨fun h => Int.le_of_mul_le_mul_right h hd, fun h => Int.mul_le_mul_of_nonneg_right h (Int.le_of_lt hd)⟩
  unfold inT
  cases o <;> simp [h1, h2]
theorem sc_lt {n d F x y X M : Int} (hM : 0 < M) (hd : 0 < d) (hy : 0 < y) (e : n * M = F * d) (k : x * M = X * y) (h : F < X) : n * y < x * d := by
  have h1 := Int.mul_lt_mul_of_pos_right h (Int.mul_pos hd hy)
  have e1 : F * (d * y) = n * y * M := by
    have : F * (d * y) = F * d * y := by grind
    rw [this, ← e]; grind
  have e2 : X * (d * y) = x * d * M := by
    have : X * (d * y) = X * y * d := by grind
    rw [this, ← k]; grind
  rw [e1, e2] at h1
  exact Int.lt_of_mul_lt_mul_right h1 (Int.le_of_lt hM)
theorem sc_eq {n d F x y X M : Int} (hM : 0 < M) (e : n * M = F * d) (k : x * M = X * y) (h : F = X) : n * y = x * d := by
  have e1 : F * (d * y) = n * y * M := by
    have : F * (d * y) = F * d * y := by grind
    rw [this, ← e]; grind
  have e2 : X * (d * y) = x * d * M := by
    have : X * (d * y) = X * y * d := by grind
    rw [this, ← k]; grind
  rw [h, e2] at e1
  exact (Int.eq_of_mul_eq_mul_right (Int.ne_of_gt hM) e1).symm
theorem sc_cmp {n d F x y X M : Int} (hM : 0 < M) (hd : 0 < d) (hy : 0 < y) (e : n * M = F * d) (k : x * M = X * y) : cmpI (n * y) (x * d) = cmpI F X := by
  rcases Int.lt_trichotomy F X with h | h | h
  · rw [cmpI_lt h, cmpI_lt (sc_lt hM hd hy e k h)]
  · rw [sc_eq hM e k h, h, cmpI_eq, cmpI_eq]
  · rw [cmpI_gt h, cmpI_gt (sc_lt hM hy hd k e h)]
/-- a stretch that has a point, in whole numbers -/
theorem sc_some {fn fd tn td F T M : Int} {fo to : Bool} (hM : 0 < M) (h1 : 0 < fd) (h2 : 0 < td) (e : fn * M = F * fd) (k : tn * M = T * td) (h : ∃ p q, 0 < q ∧ InS fn fd tn td fo to p q) :
    F < T ∨ (F = T ∧ fo = false ∧ to = false) := by
  obtain ⟨p, q, hq, hp⟩ := h
  rcases Int.lt_trichotomy F T with g | g | g
  · exact .inl g
  · refine .inr ⟨g, ?_⟩
    have := sc_eq hM e k g
    cases fo <;> cases to <;> first | exact ⟨rfl, rfl⟩ | exact absurd hp (none_in h1 h2 hq (.inr ⟨this.symm, by simp⟩))
  · exact absurd hp (none_in h1 h2 hq (.inl (sc_lt hM h2 h1 k e g)))
/-- two stretches that have no point in common -/
theorem apart {a b c d a2 b2 c2 d2 : Int} {o u o2 u2 : Bool} (hS : BS a b c d) (hS2 : BS a2 b2 c2 d2)
    (h1 : ∃ p q, 0 < q ∧ InS a b c d o u p q) (h2 : ∃ p q, 0 < q ∧ InS a2 b2 c2 d2 o2 u2 p q) (hd : ∀ p q, 0 < q → InS a b c d o u p q → InS a2 b2 c2 d2 o2 u2 p q → False) :
    (cmpI (a * b2) (a2 * b) = 0 → o ≠ o2) ∧
    (cmpI (a * b2) (a2 * b) = -1 ∨ (cmpI (a * b2) (a2 * b) = 0 ∧ o = false ∧ o2 = true) → cmpI (c * b2) (a2 * d) = -1 ∨ (cmpI (c * b2) (a2 * d) = 0 ∧ (u = true ∨ o2 = true))) := by
  have q1 := hS.1.2.2.1
  have q2 := hS.2.2.2.1
  have q3 := hS2.1.2.2.1
  have q4 := hS2.2.2.2.1
  have hM : 0 < 2 * (b * d * b2 * d2) := by
    have := Int.mul_pos (Int.mul_pos (Int.mul_pos q1 q2) q3) q4
    omega
  have e1 : a * (2 * (b * d * b2 * d2)) = 2 * (a * d * b2 * d2) * b := by grind
  have e2 : c * (2 * (b * d * b2 * d2)) = 2 * (c * b * b2 * d2) * d := by grind
  have e3 : a2 * (2 * (b * d * b2 * d2)) = 2 * (a2 * b * d * d2) * b2 := by grind
  have e4 : c2 * (2 * (b * d * b2 * d2)) = 2 * (c2 * b * d * b2) * d2 := by grind
  generalize 2 * (b * d * b2 * d2) = M at hM e1 e2 e3 e4
  generalize a * d * b2 * d2 = A at e1
  generalize c * b * b2 * d2 = C at e2
  generalize a2 * b * d * d2 = A2 at e3
  generalize c2 * b * d * b2 = C2 at e4
  have n1 := sc_some hM q1 q2 e1 e2 h1
  have n2 := sc_some hM q3 q4 e3 e4 h2
  rw [sc_cmp hM q1 q3 e1 e3, sc_cmp hM q2 q3 e2 e3]
  have D : ∀ p, (if o then 2 * A < p else 2 * A ≤ p) → (if u then p < 2 * C else p ≤ 2 * C) → (if o2 then 2 * A2 < p else 2 * A2 ≤ p) → (if u2 then p < 2 * C2 else p ≤ 2 * C2) → False := fun p k1 k2 k3 k4 =>
    hd p M hM ⟨(sc_F q1 e1).2 k1, (sc_T q2 e2).2 k2⟩ ⟨(sc_F q3 e3).2 k3, (sc_T q4 e4).2 k4⟩
  have D1 := D (2 * A)
  have D2 := D (2 * A + 1)
  have D3 := D (2 * A2)
  have D4 := D (2 * A2 + 1)
  clear D hd h1 h2 e1 e2 e3 e4
  have z1 := cmpI_cases (2 * A) (2 * A2)
  have z2 := cmpI_cases (2 * C) (2 * A2)
  generalize cmpI (2 * A) (2 * A2) = s at z1 ⊢
  generalize cmpI (2 * C) (2 * A2) = r at z2 ⊢
  cases o <;> cases u <;> cases o2 <;> cases u2 <;> simp at D1 D2 D3 D4 n1 n2 ⊢ <;> omega
theorem cmpI_ant2 (x y : Int) : cmpI x y = -cmpI y x := by
  rcases Int.lt_trichotomy x y with h | h | h
  · rw [cmpI_lt h, cmpI_gt h]
  · rw [h, cmpI_eq]; rfl
  · rw [cmpI_gt h, cmpI_lt h]; rfl
theorem rtC_anti (x y x2 y2 : Int) : rtC x y x2 y2 = -rtC x2 y2 x y := by
  unfold rtC
  have e : rtCk x y x2 y2 = rtCk x2 y2 x y := by unfold rtCk; cases okI (x * y2) <;> cases okI (x2 * y) <;> cases decide (0 < y) <;> cases decide (0 < y2) <;> rfl
  rw [e]
  cases rtCk x2 y2 x y
  · rfl
  · exact cmpI_ant2 _ _
theorem rtCk_sym (x y x2 y2 : Int) : rtCk x y x2 y2 = rtCk x2 y2 x y := by unfold rtCk; cases okI (x * y2) <;> cases okI (x2 * y) <;> cases decide (0 < y) <;> cases decide (0 < y2) <;> rfl
theorem rtC_abs (x y x2 y2 : Int) : rtC x y x2 y2 = -1 ∨ rtC x y x2 y2 = 0 ∨ rtC x y x2 y2 = 1 := by
  unfold rtC
  cases rtCk x y x2 y2
  · exact .inr (.inl rfl)
  · rcases cmpI_cases (x * y2) (x2 * y) with ⟨_, e⟩ | ⟨_, e⟩ | ⟨_, e⟩ <;> rw [cond_true, e] <;> omega
theorem pxA_anti (a b c d : Int) (o u : Bool) (a2 b2 c2 d2 : Int) (o2 u2 : Bool) : pxA a b c d o u a2 b2 c2 d2 o2 u2 = -pxA a2 b2 c2 d2 o2 u2 a b c d o u := by
  unfold pxA
  rw [rtCk_sym a2 b2 a b, rtC_anti a2 b2 a b]
  rcases rtC_abs a b a2 b2 with e | e | e <;> rw [e] <;> cases rtCk a b a2 b2 <;> cases o <;> cases o2 <;> rfl
end Go.Proofs.Ytlcbomjdbdgbmaa

namespace Go.Proofs.Ytlcbomjdbdgbmaa
open Go.RowKit

theorem blk_row {w : World} {b : Nat} {q : Array Value} {t : TypeId} (h : Blk w b q t) (cs : Array Value) : Blk (w.setRow b cs) b cs t := setRow_heap _ _ _ _ _ _ h
theorem blk_rowo {w : World} {b g : Nat} {q : Array Value} {t : TypeId} (h : Blk w b q t) (hne : b ≠ g) (cs : Array Value) : Blk (w.setRow g cs) b q t := by
  unfold Blk; rw [setRow_other _ _ _ _ hne]; exact h
theorem blw_row {B g : Nat} {w0 w : World} (hb : Below B w0 w) (hBg : B ≤ g) (cs : Array Value) : Below B w0 (w.setRow g cs) :=
  hb.trans ⟨rfl, rfl, rfl, by simp, fun k hk => setRow_other _ _ _ _ (by omega)⟩
@[go_sem] theorem cell_rowo (w : World) (g : Nat) (cs : Array Value) (b o : Nat) (h : b ≠ g) : (w.setRow g cs).cell? ⟨b, o, none⟩ = w.cell? ⟨b, o, none⟩ := cell_setRow_other w g cs ⟨b, o, none⟩ h
theorem stRow {P : Program} {ops : Array Oper} {rest : List Oper} {dst : Option Tmp} {ty tp : TypeId} {x y : Operand} {ps : String} {af} {a : Act} {w : World} {Q : Exit → Act → World → Prop}
    (g : Nat) (cells : Array Value) (t : TypeId) (old : Array Value) (hg : Blk w g old t) (hx : a.eval x = .pointer (some ⟨g, 0, none⟩)) (hy : a.eval y = .agg cells) (hi : (P.info? ty).map (·.size) = some cells.size)
    (hold : old.size = cells.size) (h1 : cells.all (·.oneCell') = true) (h : wpList P ops Q rest (a.put dst undef) (w.setRow g cells)) : wpList P ops Q ({ dst := dst, op := .store ty x y, type := tp, pos := ps, after := af, guard := none } :: rest) a w :=
  wpList_store_row rfl ty x y rfl g cells hx hy t old hg hi hold h1 h
theorem ldRow {P : Program} {ops : Array Oper} {rest : List Oper} {dst : Option Tmp} {ty tp : TypeId} {x : Operand} {ps : String} {af} {a : Act} {w : World} {Q : Exit → Act → World → Prop}
    (g : Nat) (cs : Array Value) (t : TypeId) (hg : Blk w g cs t) (hx : a.eval x = .pointer (some ⟨g, 0, none⟩)) (hu : ∃ d, P.underlying ty = some d ∧ (match d with | .struct _ | .array _ _ => true | _ => false) = true) (hi : (P.info? ty).map (·.size) = some cs.size)
    (h : wpList P ops Q rest (a.put dst (.agg cs)) w) : wpList P ops Q ({ dst := dst, op := .load ty x, type := tp, pos := ps, after := af, guard := none } :: rest) a w :=
  by
  obtain ⟨d, h1, h2⟩ := hu
  exact wpList_load_row rfl ty x rfl g hx t cs (0, 0) d hg h1 (by cases d <;> first | rfl | (simp at h2)) hi h
theorem results_row_tmp {P : Program} {fn : Func} {p u : Tmp} {ty : TypeId} (h : fn.results = #[.cell p ty, .tmp u]) (tmps : Array Value) (w : World) (g : Nat) (t : TypeId) (cs : Array Value) (fr : Nat × Nat) (d : TypeDesc)
    (hp : tmps.getD p undef = .pointer (some ⟨g, 0, none⟩)) (hg : w.heap[g]? = some (.cells cs t fr))
    (hu : P.underlying ty = some d) (hd : (match d with | .struct _ | .array _ _ => true | _ => false) = true) (hi : (P.info? ty).map (·.size) = some cs.size) :
    (results fn tmps).run P w = .ok (.tuple #[.agg cs, tmps.getD u undef]) w := by
  have hp' : tmps[p]?.getD undef = .pointer (some ⟨g, 0, none⟩) := by simpa using hp
  simp [results, h, hp', asAddr, run_loadVar_row w g t ty cs fr d hg hu hd hi]
end Go.Proofs.Ytlcbomjdbdgbmaa

