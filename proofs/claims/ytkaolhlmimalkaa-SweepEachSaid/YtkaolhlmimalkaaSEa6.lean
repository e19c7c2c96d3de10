/- My texts Cr6, Cr9, SwD, joined: what the last one needs of them. Conditions: as each lemma says. -/
import Derived.Test.YtkaolhlmimalkaaSEa5
import Derived.KernelRfl
import Derived.StillTail
import Derived.OrdersHeld
import Derived.Deep.Quiet
import Derived.Below
import Derived.WalkKit
import Derived.Test.YtkaolhlmimalkaaProg
import Derived.WalkSpells
import Derived.StillTactics
import Derived.Laws.Pointers
import Derived.Deep.RegionHeld3
import Derived.RowKit3
import Derived.Deep.QuietTactic
import Derived.BigQuiet
import Derived.BigRegion
import Derived.Lib.Hide
import Derived.WalkSmall
import Derived.Laws.BitsAllLaws
import Derived.IntWalk
import Derived.Deep.OwnRows
import Derived.Deep.LoopGhost
import Derived.Shelf.Bits.Mul64
import Derived.Deep.DeepFit
import Derived.Deep.DeepCutAuto
import Derived.OwnWalk
import Derived.RangeFuncNested
import Derived.RangeFuncBound
import Derived.RangeFuncCalls
import Derived.RangeFuncLeaves
import Derived.Shelf.Abstract
import Derived.Shelf.RegionOpen
import Derived.OwnWalkIn
import Derived.TacticsInMore
import Derived.LoopNIn
import Derived.LoopIn
import Derived.Sort.LoopGhostIn
import Derived.Deep.DeepAppendRoom
import Derived.Deep.MidRow
import Derived.Laws.CopyOwn
import Derived.Laws.AppendOwn
import Derived.Lib.AppendZerosOnto
import Derived.Lib.Overlaps
import Derived.Laws.AppendOwnNone
import Derived.Maps.OwnIn
import Derived.ProofKit
import Derived.OpenShut
import Derived.ShutString
import Derived.ChangeOld
import Derived.Lib.SmallJoins
import Derived.Laws.IdiomArrays
import Derived.Deep.SlicePairs
namespace Go.Proofs.Ytkaolhlmimalkaa
open Go.RowKit

theorem alCr5_0 : AllocRuns Try.prog 34 #[.int .u64 0, .int .u64 0, .int .u64 0, .int .u64 0] := fun w => by kernel_rfl

def cgx (ax : Int) (ay : Int) (bx : Int) (b_y : Int) (cx : Int) (cy : Int) (dx : Int) (dy : Int) : Int := (bif decide (((subv (mulv (wyx ax ay bx b_y) (wyy cx cy dx dy)) (mulv (wyy ax ay bx b_y) (wyx cx cy dx dy))).sign) < 0) then (addv (mulv (lwx ax ay bx b_y) (subv 0 (subv (mulv (wyx ax ay bx b_y) (wyy cx cy dx dy)) (mulv (wyy ax ay bx b_y) (wyx cx cy dx dy))))) (mulv (wyx ax ay bx b_y) (subv 0 (subv (mulv ((wrap64 ((lwx cx cy dx dy) - (lwx ax ay bx b_y)))) (wyy cx cy dx dy)) (mulv ((wrap64 ((lwy cx cy dx dy) - (lwy ax ay bx b_y)))) (wyx cx cy dx dy)))))) else (addv (mulv (lwx ax ay bx b_y) (subv (mulv (wyx ax ay bx b_y) (wyy cx cy dx dy)) (mulv (wyy ax ay bx b_y) (wyx cx cy dx dy)))) (mulv (wyx ax ay bx b_y) (subv (mulv ((wrap64 ((lwx cx cy dx dy) - (lwx ax ay bx b_y)))) (wyy cx cy dx dy)) (mulv ((wrap64 ((lwy cx cy dx dy) - (lwy ax ay bx b_y)))) (wyx cx cy dx dy))))))

def cgy (ax : Int) (ay : Int) (bx : Int) (b_y : Int) (cx : Int) (cy : Int) (dx : Int) (dy : Int) : Int := (bif decide (((subv (mulv (wyx ax ay bx b_y) (wyy cx cy dx dy)) (mulv (wyy ax ay bx b_y) (wyx cx cy dx dy))).sign) < 0) then (addv (mulv (lwy ax ay bx b_y) (subv 0 (subv (mulv (wyx ax ay bx b_y) (wyy cx cy dx dy)) (mulv (wyy ax ay bx b_y) (wyx cx cy dx dy))))) (mulv (wyy ax ay bx b_y) (subv 0 (subv (mulv ((wrap64 ((lwx cx cy dx dy) - (lwx ax ay bx b_y)))) (wyy cx cy dx dy)) (mulv ((wrap64 ((lwy cx cy dx dy) - (lwy ax ay bx b_y)))) (wyx cx cy dx dy)))))) else (addv (mulv (lwy ax ay bx b_y) (subv (mulv (wyx ax ay bx b_y) (wyy cx cy dx dy)) (mulv (wyy ax ay bx b_y) (wyx cx cy dx dy)))) (mulv (wyy ax ay bx b_y) (subv (mulv ((wrap64 ((lwx cx cy dx dy) - (lwx ax ay bx b_y)))) (wyy cx cy dx dy)) (mulv ((wrap64 ((lwy cx cy dx dy) - (lwy ax ay bx b_y)))) (wyx cx cy dx dy))))))

def cgw (ax : Int) (ay : Int) (bx : Int) (b_y : Int) (cx : Int) (cy : Int) (dx : Int) (dy : Int) : Int := (bif decide (((subv (mulv (wyx ax ay bx b_y) (wyy cx cy dx dy)) (mulv (wyy ax ay bx b_y) (wyx cx cy dx dy))).sign) < 0) then (subv 0 (subv (mulv (wyx ax ay bx b_y) (wyy cx cy dx dy)) (mulv (wyy ax ay bx b_y) (wyx cx cy dx dy)))) else (subv (mulv (wyx ax ay bx b_y) (wyy cx cy dx dy)) (mulv (wyy ax ay bx b_y) (wyx cx cy dx dy))))

theorem cgx_in (ax : Int) (ay : Int) (bx : Int) (b_y : Int) (cx : Int) (cy : Int) (dx : Int) (dy : Int) (_iax : In64 ax) (_iay : In64 ay) (_ibx : In64 bx) (_ib_y : In64 b_y) (_icx : In64 cx) (_icy : In64 cy) (_idx : In64 dx) (_idy : In64 dy) : InI (cgx ax ay bx b_y cx cy dx dy) := by
  unfold cgx
  exact (cond_in (addv_in (mulv (lwx ax ay bx b_y) (subv 0 (subv (mulv (wyx ax ay bx b_y) (wyy cx cy dx dy)) (mulv (wyy ax ay bx b_y) (wyx cx cy dx dy))))) (mulv (wyx ax ay bx b_y) (subv 0 (subv (mulv ((wrap64 ((lwx cx cy dx dy) - (lwx ax ay bx b_y)))) (wyy cx cy dx dy)) (mulv ((wrap64 ((lwy cx cy dx dy) - (lwy ax ay bx b_y)))) (wyx cx cy dx dy)))))) (addv_in (mulv (lwx ax ay bx b_y) (subv (mulv (wyx ax ay bx b_y) (wyy cx cy dx dy)) (mulv (wyy ax ay bx b_y) (wyx cx cy dx dy)))) (mulv (wyx ax ay bx b_y) (subv (mulv ((wrap64 ((lwx cx cy dx dy) - (lwx ax ay bx b_y)))) (wyy cx cy dx dy)) (mulv ((wrap64 ((lwy cx cy dx dy) - (lwy ax ay bx b_y)))) (wyx cx cy dx dy))))))

theorem cgy_in (ax : Int) (ay : Int) (bx : Int) (b_y : Int) (cx : Int) (cy : Int) (dx : Int) (dy : Int) (_iax : In64 ax) (_iay : In64 ay) (_ibx : In64 bx) (_ib_y : In64 b_y) (_icx : In64 cx) (_icy : In64 cy) (_idx : In64 dx) (_idy : In64 dy) : InI (cgy ax ay bx b_y cx cy dx dy) := by
  unfold cgy
  exact (cond_in (addv_in (mulv (lwy ax ay bx b_y) (subv 0 (subv (mulv (wyx ax ay bx b_y) (wyy cx cy dx dy)) (mulv (wyy ax ay bx b_y) (wyx cx cy dx dy))))) (mulv (wyy ax ay bx b_y) (subv 0 (subv (mulv ((wrap64 ((lwx cx cy dx dy) - (lwx ax ay bx b_y)))) (wyy cx cy dx dy)) (mulv ((wrap64 ((lwy cx cy dx dy) - (lwy ax ay bx b_y)))) (wyx cx cy dx dy)))))) (addv_in (mulv (lwy ax ay bx b_y) (subv (mulv (wyx ax ay bx b_y) (wyy cx cy dx dy)) (mulv (wyy ax ay bx b_y) (wyx cx cy dx dy)))) (mulv (wyy ax ay bx b_y) (subv (mulv ((wrap64 ((lwx cx cy dx dy) - (lwx ax ay bx b_y)))) (wyy cx cy dx dy)) (mulv ((wrap64 ((lwy cx cy dx dy) - (lwy ax ay bx b_y)))) (wyx cx cy dx dy))))))

theorem cgw_in (ax : Int) (ay : Int) (bx : Int) (b_y : Int) (cx : Int) (cy : Int) (dx : Int) (dy : Int) (_iax : In64 ax) (_iay : In64 ay) (_ibx : In64 bx) (_ib_y : In64 b_y) (_icx : In64 cx) (_icy : In64 cy) (_idx : In64 dx) (_idy : In64 dy) : InI (cgw ax ay bx b_y cx cy dx dy) := by
  unfold cgw
  exact (cond_in (subv_in 0 (subv (mulv (wyx ax ay bx b_y) (wyy cx cy dx dy)) (mulv (wyy ax ay bx b_y) (wyx cx cy dx dy)))) (subv_in (mulv (wyx ax ay bx b_y) (wyy cx cy dx dy)) (mulv (wyy ax ay bx b_y) (wyx cx cy dx dy))))

set_option maxRecDepth 100000 in
set_option maxHeartbeats 4000000 in

theorem crossing_is (ax : Int) (ay : Int) (bx : Int) (b_y : Int) (cx : Int) (cy : Int) (dx : Int) (dy : Int)  (R0 : Int) (R1 : Int) (R2 : Int) (hR0 : cgx ax ay bx b_y cx cy dx dy = R0) (hR1 : cgy ax ay bx b_y cx cy dx dy = R1) (hR2 : cgw ax ay bx b_y cx cy dx dy = R2) (_iax : In64 ax) (_iay : In64 ay) (_ibx : In64 bx) (_ib_y : In64 b_y) (_icx : In64 cx) (_icy : In64 cy) (_idx : In64 dx) (_idy : In64 dy)  (w : World)  :
    Calls Try.prog 91 #[.agg #[.int .i64 ax, .int .i64 ay, .int .i64 bx, .int .i64 b_y], .agg #[.int .i64 cx, .int .i64 cy, .int .i64 dx, .int .i64 dy]] w fun e w' => e = .returned (.agg #[.int .u64 (wd0 R0), .int .u64 (wd1 R0), .int .u64 (wd2 R0), .int .u64 (wd3 R0), .int .u64 (wd0 R1), .int .u64 (wd1 R1), .int .u64 (wd2 R1), .int .u64 (wd3 R1), .int .u64 (wd0 R2), .int .u64 (wd1 R2), .int .u64 (wd2 R2), .int .u64 (wd3 R2)]) ∧ Below w.heap.size w w' := by

  have HR0 := Lib.hid hR0; clear hR0; have HR1 := Lib.hid hR1; clear hR1; have HR2 := Lib.hid hR2; clear hR2
  go_enter Try.func91, Try.ntmps91
  go_wp2_with fail
  first | refine calls_w ?_ | refine name_world ?_ | refine list_world ?_ | refine post_world ?_
  intro V1 hV1
  have hn : Below w.heap.size w V1 := by rw [hV1]; exact below_a3 _ _ _ _
  have nhb0 := hn
  have k1 : Blk V1 w.heap.size #[.int .i64 ax, .int .i64 ay, .int .i64 bx, .int .i64 b_y] 46 := by rw [hV1]; exact (((Blk.new _ _ _).alloc _).alloc _)
  have k2 : Blk V1 (w.heap.size + 1) #[.int .i64 cx, .int .i64 cy, .int .i64 dx, .int .i64 dy] 46 := by rw [hV1]; exact ((Blk.new1 _ _ _ _).alloc _)
  have k3 : Blk V1 (w.heap.size + 1 + 1) #[.int .u64 0, .int .u64 0, .int .u64 0, .int .u64 0, .int .u64 0, .int .u64 0, .int .u64 0, .int .u64 0, .int .u64 0, .int .u64 0, .int .u64 0, .int .u64 0] 36 := by rw [hV1]; exact (Blk.new2 _ _ _ _ _)
  clear hV1; have hb0 := nhb0; clear nhb0
  obtain ⟨r1, hr1⟩ : ∃ o_o : Int, lwx ax ay bx b_y = o_o := ⟨_, rfl⟩
  have Hr1 := Lib.hid hr1; clear hr1
  obtain ⟨r2, hr2⟩ : ∃ o_o : Int, lwy ax ay bx b_y = o_o := ⟨_, rfl⟩
  have Hr2 := Lib.hid hr2; clear hr2
  obtain ⟨r3, hr3⟩ : ∃ o_o : Int, hgx ax ay bx b_y = o_o := ⟨_, rfl⟩
  have Hr3 := Lib.hid hr3; clear hr3
  obtain ⟨r4, hr4⟩ : ∃ o_o : Int, hgy ax ay bx b_y = o_o := ⟨_, rfl⟩
  have Hr4 := Lib.hid hr4; clear hr4
  refine (Ends_is ax ay bx b_y r1 r2 r3 r4 Hr1.out Hr2.out Hr3.out Hr4.out _iax _iay _ibx _ib_y  _).mono ?_
  rintro e U2 ⟨rfl, hn⟩
  replace k1 := k1.of hn; replace k2 := k2.of hn; replace k3 := k3.of hn
  replace hb0 := hb0.trans (hn.mono hb0.size)
  clear hn; have c2_0 : U2.cell? ⟨w.heap.size + 1, 0, none⟩ = some (.int .i64 cx) := k2.cell 0; have c2_1 : U2.cell? ⟨w.heap.size + 1, 1, none⟩ = some (.int .i64 cy) := k2.cell 1; have c2_2 : U2.cell? ⟨w.heap.size + 1, 2, none⟩ = some (.int .i64 dx) := k2.cell 2; have c2_3 : U2.cell? ⟨w.heap.size + 1, 3, none⟩ = some (.int .i64 dy) := k2.cell 3; have l2 := k2.lt
  have l2_0 : w.heap.size < U2.heap.size := by have := k2.lt; omega
  go_wp2_with fail
  clear c2_0 c2_1 c2_2 c2_3 l2 l2_0
  first | refine calls_w ?_ | refine name_world ?_ | refine list_world ?_ | refine post_world ?_
  intro V3 hV3
  have D1 := Lib.hid k1.lt; have D2 := Lib.hid k2.lt; have D3 := Lib.hid k3.lt; have D4 := Lib.hid hb0.size
  have hn : Below U2.heap.size U2 V3 := by rw [hV3]; exact below_a2 _ _ _
  have nk1 := k1.of hn; have nk2 := k2.of hn; have nk3 := k3.of hn
  have nhb0 := hb0.trans (hn.mono hb0.size)
  clear hn
  have k4 : Blk V3 U2.heap.size #[.int .i64 r1, .int .i64 r2] 44 := by rw [hV3]; exact ((Blk.new _ _ _).alloc _)
  have k5 : Blk V3 (U2.heap.size + 1) #[.int .i64 r3, .int .i64 r4] 44 := by rw [hV3]; exact (Blk.new1 _ _ _ _)
  clear k1 k2 k3; clear hb0; clear hV3; have k1 := nk1; clear nk1; have k2 := nk2; clear nk2; have k3 := nk3; clear nk3; have hb0 := nhb0; clear nhb0
  obtain ⟨r5, hr5⟩ : ∃ o_o : Int, lwx cx cy dx dy = o_o := ⟨_, rfl⟩
  have Hr5 := Lib.hid hr5; clear hr5
  obtain ⟨r6, hr6⟩ : ∃ o_o : Int, lwy cx cy dx dy = o_o := ⟨_, rfl⟩
  have Hr6 := Lib.hid hr6; clear hr6
  obtain ⟨r7, hr7⟩ : ∃ o_o : Int, hgx cx cy dx dy = o_o := ⟨_, rfl⟩
  have Hr7 := Lib.hid hr7; clear hr7
  obtain ⟨r8, hr8⟩ : ∃ o_o : Int, hgy cx cy dx dy = o_o := ⟨_, rfl⟩
  have Hr8 := Lib.hid hr8; clear hr8
  refine (Ends_is cx cy dx dy r5 r6 r7 r8 Hr5.out Hr6.out Hr7.out Hr8.out _icx _icy _idx _idy  _).mono ?_
  rintro e U4 ⟨rfl, hn⟩
  clear k5; replace k1 := k1.of hn; replace k2 := k2.of hn; replace k3 := k3.of hn; replace k4 := k4.of hn
  replace hb0 := hb0.trans (hn.mono hb0.size)
  clear hn; have c1_0 : U4.cell? ⟨w.heap.size, 0, none⟩ = some (.int .i64 ax) := k1.cell 0; have c1_1 : U4.cell? ⟨w.heap.size, 1, none⟩ = some (.int .i64 ay) := k1.cell 1; have c1_2 : U4.cell? ⟨w.heap.size, 2, none⟩ = some (.int .i64 bx) := k1.cell 2; have c1_3 : U4.cell? ⟨w.heap.size, 3, none⟩ = some (.int .i64 b_y) := k1.cell 3; have l1 := k1.lt
  go_wp2_with fail
  clear c1_0 c1_1 c1_2 c1_3 l1
  first | refine calls_w ?_ | refine name_world ?_ | refine list_world ?_ | refine post_world ?_
  intro V5 hV5
  clear k1; have D5 := Lib.hid k2.lt; have D6 := Lib.hid k3.lt; have D7 := Lib.hid k4.lt; have D8 := Lib.hid hb0.size
  have hn : Below U4.heap.size U4 V5 := by rw [hV5]; exact below_a2 _ _ _
  have nk2 := k2.of hn; have nk3 := k3.of hn; have nk4 := k4.of hn
  have nhb0 := hb0.trans (hn.mono hb0.size)
  clear hn
  have k6 : Blk V5 U4.heap.size #[.int .i64 r5, .int .i64 r6] 44 := by rw [hV5]; exact ((Blk.new _ _ _).alloc _)
  have k7 : Blk V5 (U4.heap.size + 1) #[.int .i64 r7, .int .i64 r8] 44 := by rw [hV5]; exact (Blk.new1 _ _ _ _)
  clear k2 k3 k4; clear hb0; clear hV5; have k2 := nk2; clear nk2; have k3 := nk3; clear nk3; have k4 := nk4; clear nk4; have hb0 := nhb0; clear nhb0
  obtain ⟨r9, hr9⟩ : ∃ o_o : Int, wyx ax ay bx b_y = o_o := ⟨_, rfl⟩
  have Hr9 := Lib.hid hr9; clear hr9
  obtain ⟨r10, hr10⟩ : ∃ o_o : Int, wyy ax ay bx b_y = o_o := ⟨_, rfl⟩
  have Hr10 := Lib.hid hr10; clear hr10
  refine (crway_is ax ay bx b_y r9 r10 Hr9.out Hr10.out _iax _iay _ibx _ib_y  _).mono ?_
  rintro e U6 ⟨rfl, hn⟩
  clear k7; replace k2 := k2.of hn; replace k3 := k3.of hn; replace k4 := k4.of hn; replace k6 := k6.of hn
  replace hb0 := hb0.trans (hn.mono hb0.size)
  clear hn; have c2_0 : U6.cell? ⟨w.heap.size + 1, 0, none⟩ = some (.int .i64 cx) := k2.cell 0; have c2_1 : U6.cell? ⟨w.heap.size + 1, 1, none⟩ = some (.int .i64 cy) := k2.cell 1; have c2_2 : U6.cell? ⟨w.heap.size + 1, 2, none⟩ = some (.int .i64 dx) := k2.cell 2; have c2_3 : U6.cell? ⟨w.heap.size + 1, 3, none⟩ = some (.int .i64 dy) := k2.cell 3; have l2 := k2.lt
  have l2_0 : w.heap.size < U6.heap.size := by have := k2.lt; omega
  go_wp2_with fail
  clear c2_0 c2_1 c2_2 c2_3 l2 l2_0
  first | refine calls_w ?_ | refine name_world ?_ | refine list_world ?_ | refine post_world ?_
  intro V7 hV7
  clear k2; have D9 := Lib.hid k3.lt; have D10 := Lib.hid k4.lt; have D11 := Lib.hid k6.lt; have D12 := Lib.hid hb0.size
  have hn : Below U6.heap.size U6 V7 := by rw [hV7]; exact below_a2 _ _ _
  have nk3 := k3.of hn; have nk4 := k4.of hn; have nk6 := k6.of hn
  have nhb0 := hb0.trans (hn.mono hb0.size)
  clear hn
  have k8 : Blk V7 U6.heap.size #[.int .u64 (wd0 r9), .int .u64 (wd1 r9), .int .u64 (wd2 r9), .int .u64 (wd3 r9)] 34 := by rw [hV7]; exact ((Blk.new _ _ _).alloc _)
  have k9 : Blk V7 (U6.heap.size + 1) #[.int .u64 (wd0 r10), .int .u64 (wd1 r10), .int .u64 (wd2 r10), .int .u64 (wd3 r10)] 34 := by rw [hV7]; exact (Blk.new1 _ _ _ _)
  clear k3 k4 k6; clear hb0; clear hV7; have k3 := nk3; clear nk3; have k4 := nk4; clear nk4; have k6 := nk6; clear nk6; have hb0 := nhb0; clear nhb0
  obtain ⟨r11, hr11⟩ : ∃ o_o : Int, wyx cx cy dx dy = o_o := ⟨_, rfl⟩
  have Hr11 := Lib.hid hr11; clear hr11
  obtain ⟨r12, hr12⟩ : ∃ o_o : Int, wyy cx cy dx dy = o_o := ⟨_, rfl⟩
  have Hr12 := Lib.hid hr12; clear hr12
  refine (crway_is cx cy dx dy r11 r12 Hr11.out Hr12.out _icx _icy _idx _idy  _).mono ?_
  rintro e U8 ⟨rfl, hn⟩
  replace k3 := k3.of hn; replace k4 := k4.of hn; replace k6 := k6.of hn; replace k8 := k8.of hn; replace k9 := k9.of hn
  replace hb0 := hb0.trans (hn.mono hb0.size)
  clear hn
  go_wp2_with fail
  first | refine calls_w ?_ | refine name_world ?_ | refine list_world ?_ | refine post_world ?_
  intro V9 hV9
  have D13 := Lib.hid k3.lt; have D14 := Lib.hid k4.lt; have D15 := Lib.hid k6.lt; have D16 := Lib.hid k8.lt; have D17 := Lib.hid k9.lt; have D18 := Lib.hid hb0.size
  have hn : Below U8.heap.size U8 V9 := by rw [hV9]; exact below_a2 _ _ _
  have nk3 := k3.of hn; have nk4 := k4.of hn; have nk6 := k6.of hn; have nk8 := k8.of hn; have nk9 := k9.of hn
  have nhb0 := hb0.trans (hn.mono hb0.size)
  clear hn
  have k10 : Blk V9 U8.heap.size #[.int .u64 (wd0 r11), .int .u64 (wd1 r11), .int .u64 (wd2 r11), .int .u64 (wd3 r11)] 34 := by rw [hV9]; exact ((Blk.new _ _ _).alloc _)
  have k11 : Blk V9 (U8.heap.size + 1) #[.int .u64 (wd0 r12), .int .u64 (wd1 r12), .int .u64 (wd2 r12), .int .u64 (wd3 r12)] 34 := by rw [hV9]; exact (Blk.new1 _ _ _ _)
  clear k3 k4 k6 k8 k9; clear hb0; clear hV9; have k3 := nk3; clear nk3; have k4 := nk4; clear nk4; have k6 := nk6; clear nk6; have k8 := nk8; clear nk8; have k9 := nk9; clear nk9; have hb0 := nhb0; clear nhb0
  obtain ⟨r13, hr13⟩ : ∃ o_o : Int, mulv r9 r12 = o_o := ⟨_, rfl⟩
  have Hr13 := Lib.hid hr13; clear hr13
  obtain ⟨r14, hr14⟩ : ∃ o_o : Int, mulv r10 r11 = o_o := ⟨_, rfl⟩
  have Hr14 := Lib.hid hr14; clear hr14
  obtain ⟨r15, hr15⟩ : ∃ o_o : Int, subv r13 r14 = o_o := ⟨_, rfl⟩
  have Hr15 := Lib.hid hr15; clear hr15; have c8_0 : V9.cell? ⟨U6.heap.size, 0, none⟩ = some (.int .u64 (wd0 r9)) := k8.cell 0; have c8_1 : V9.cell? ⟨U6.heap.size, 1, none⟩ = some (.int .u64 (wd1 r9)) := k8.cell 1; have c8_2 : V9.cell? ⟨U6.heap.size, 2, none⟩ = some (.int .u64 (wd2 r9)) := k8.cell 2; have c8_3 : V9.cell? ⟨U6.heap.size, 3, none⟩ = some (.int .u64 (wd3 r9)) := k8.cell 3; have l8 := k8.lt; have c9_0 : V9.cell? ⟨(U6.heap.size + 1), 0, none⟩ = some (.int .u64 (wd0 r10)) := k9.cell 0; have c9_1 : V9.cell? ⟨(U6.heap.size + 1), 1, none⟩ = some (.int .u64 (wd1 r10)) := k9.cell 1
  have c9_2 : V9.cell? ⟨(U6.heap.size + 1), 2, none⟩ = some (.int .u64 (wd2 r10)) := k9.cell 2; have c9_3 : V9.cell? ⟨(U6.heap.size + 1), 3, none⟩ = some (.int .u64 (wd3 r10)) := k9.cell 3; have l9 := k9.lt; have c10_0 : V9.cell? ⟨U8.heap.size, 0, none⟩ = some (.int .u64 (wd0 r11)) := k10.cell 0; have c10_1 : V9.cell? ⟨U8.heap.size, 1, none⟩ = some (.int .u64 (wd1 r11)) := k10.cell 1; have c10_2 : V9.cell? ⟨U8.heap.size, 2, none⟩ = some (.int .u64 (wd2 r11)) := k10.cell 2; have c10_3 : V9.cell? ⟨U8.heap.size, 3, none⟩ = some (.int .u64 (wd3 r11)) := k10.cell 3; have l10 := k10.lt
  have c11_0 : V9.cell? ⟨(U8.heap.size + 1), 0, none⟩ = some (.int .u64 (wd0 r12)) := k11.cell 0; have c11_1 : V9.cell? ⟨(U8.heap.size + 1), 1, none⟩ = some (.int .u64 (wd1 r12)) := k11.cell 1; have c11_2 : V9.cell? ⟨(U8.heap.size + 1), 2, none⟩ = some (.int .u64 (wd2 r12)) := k11.cell 2; have c11_3 : V9.cell? ⟨(U8.heap.size + 1), 3, none⟩ = some (.int .u64 (wd3 r12)) := k11.cell 3; have l11 := k11.lt; have Kk3 := Lib.hid k3; clear k3; have Kk4 := Lib.hid k4; clear k4; have Kk6 := Lib.hid k6; clear k6; have Kk8 := Lib.hid k8; clear k8; have Kk9 := Lib.hid k9; clear k9; have Kk10 := Lib.hid k10
  clear k10; have Kk11 := Lib.hid k11; clear k11
  refine wp_region_float1 8 7 [(true, 0), (true, 1), (true, 3), (true, 4), (false, 2), (false, 5), (false, 6)] (by kernel_rfl) (by kernel_rfl) (fun _ _ d _ _ => by cases d <;> exact Iff.rfl) rfl rfl rfl alCr5_0 ?_
  have hb : Below V9.heap.size V9 V9.drew := (Below.refl _ _).drew
  iterate 4
    refine wpF_take rfl rfl ?_
    go_big_quiet_step (rfl)
    refine wpQuiet_nil ?_
  refine wpF_do rfl ?_
  intro w1 hg K hK
  replace hb := hb.trans (hg.mono hb.size)
  clear hg
  go_wp2_with ((first | (go_at_call 22; (with_reducible refine (crtimes_is r9 r12 r13 Hr13.out (Hr9.out ▸ wyx_in ax ay bx b_y _iax _iay _ibx _ib_y) (Hr12.out ▸ wyy_in cx cy dx dy _icx _icy _idx _idy)  _).mono ?_); rintro e w2 ⟨rfl, hn⟩) | (go_at_call 22; (with_reducible refine (crtimes_is r10 r11 r14 Hr14.out (Hr10.out ▸ wyy_in ax ay bx b_y _iax _iay _ibx _ib_y) (Hr11.out ▸ wyx_in cx cy dx dy _icx _icy _idx _idy)  _).mono ?_); rintro e w2 ⟨rfl, hn⟩)))
  refine hK.out _ _ hn ?_
  replace hb := hb.trans (hn.mono hb.size)
  clear hK K; clear hn
  refine wpF_do rfl ?_
  intro w1 hg K hK
  replace hb := hb.trans (hg.mono hb.size)
  clear hg
  go_wp2_with ((first | (go_at_call 22; (with_reducible refine (crtimes_is r9 r12 r13 Hr13.out (Hr9.out ▸ wyx_in ax ay bx b_y _iax _iay _ibx _ib_y) (Hr12.out ▸ wyy_in cx cy dx dy _icx _icy _idx _idy)  _).mono ?_); rintro e w2 ⟨rfl, hn⟩) | (go_at_call 22; (with_reducible refine (crtimes_is r10 r11 r14 Hr14.out (Hr10.out ▸ wyy_in ax ay bx b_y _iax _iay _ibx _ib_y) (Hr11.out ▸ wyx_in cx cy dx dy _icx _icy _idx _idy)  _).mono ?_); rintro e w2 ⟨rfl, hn⟩)))
  refine hK.out _ _ hn ?_
  replace hb := hb.trans (hn.mono hb.size)
  clear hK K; clear hn
  refine wpF_do rfl ?_
  intro w1 hg K hK
  replace hb := hb.trans (hg.mono hb.size)
  clear hg
  go_wp2_with ((go_at_call 53; (with_reducible refine (crless_is r13 r14 r15 Hr15.out (Hr13.out ▸ mulv_in r9 r12) (Hr14.out ▸ mulv_in r10 r11)  _).mono ?_); rintro e w2 ⟨rfl, hn⟩))
  refine hK.out _ _ hn ?_
  replace hb := hb.trans (hn.mono hb.size)
  clear hK K; clear hn
  refine wpF_nil ?_
  clear hb
  intro w1 hg hb b1 lb1 nb1
  clear hg
  simp only [Act.put, ptrTo, List.setIfInBounds_toArray, List.set_cons_succ, List.set_cons_zero]
  simp only [List.drop_succ_cons, List.drop_zero]
  clear c8_0 c8_1 c8_2 c8_3 l8 c9_0 c9_1 c9_2 c9_3 l9 c10_0 c10_1 c10_2 c10_3 l10 c11_0 c11_1 c11_2 c11_3 l11
  first | refine calls_w ?_ | refine name_world ?_ | refine list_world ?_ | refine post_world ?_
  intro U10 hU10
  subst hU10; have D19 := Lib.hid Kk3.out.lt; have D20 := Lib.hid Kk4.out.lt; have D21 := Lib.hid Kk6.out.lt; have D22 := Lib.hid Kk8.out.lt; have D23 := Lib.hid Kk9.out.lt; have D24 := Lib.hid Kk10.out.lt; have D25 := Lib.hid Kk11.out.lt; have D26 := Lib.hid hb0.size; have k12 : Blk U10 b1 #[.int .u64 0, .int .u64 0, .int .u64 0, .int .u64 0] 34 := nb1; have k3 := Kk3.out.of hb; clear Kk3; have k4 := Kk4.out.of hb; clear Kk4; have k6 := Kk6.out.of hb; clear Kk6; have k8 := Kk8.out.of hb; clear Kk8; have k9 := Kk9.out.of hb; clear Kk9; have k10 := Kk10.out.of hb; clear Kk10
  have k11 := Kk11.out.of hb; clear Kk11; have D27 := Lib.hid lb1; clear nb1 lb1
  replace hb0 := hb0.trans (hb.mono hb0.size)
  clear hb
  generalize b1 = q12 at *
  have c12_0 : U10.cell? ⟨q12, 0, none⟩ = some (.int .u64 0) := k12.cell 0; have c12_1 : U10.cell? ⟨q12, 1, none⟩ = some (.int .u64 0) := k12.cell 1; have c12_2 : U10.cell? ⟨q12, 2, none⟩ = some (.int .u64 0) := k12.cell 2; have c12_3 : U10.cell? ⟨q12, 3, none⟩ = some (.int .u64 0) := k12.cell 3; obtain ⟨f12_0, f12_1, f12_2, f12_3⟩ := fre4 k12; have l12 := k12.lt
  go_wp2_with fail
  clear c12_0 c12_1 c12_2 c12_3 f12_0 f12_1 f12_2 f12_3 l12
  first | refine calls_w ?_ | refine name_world ?_ | refine list_world ?_ | refine post_world ?_
  intro V11 hV11
  have D28 := Lib.hid k3.lt; have D29 := Lib.hid k4.lt; have D30 := Lib.hid k6.lt; have D31 := Lib.hid k8.lt; have D32 := Lib.hid k9.lt; have D33 := Lib.hid k10.lt; have D34 := Lib.hid k11.lt; have D35 := Lib.hid k12.lt; have D36 := Lib.hid hb0.size
  have nk3 : Blk V11 (w.heap.size + 1 + 1) #[.int .u64 0, .int .u64 0, .int .u64 0, .int .u64 0, .int .u64 0, .int .u64 0, .int .u64 0, .int .u64 0, .int .u64 0, .int .u64 0, .int .u64 0, .int .u64 0] 36 := by rw [hV11]; exact (blk_setL k3 (by have := D19.out; have := D27.out; omega) 0 [.int .u64 (wd0 r15), .int .u64 (wd1 r15), .int .u64 (wd2 r15), .int .u64 (wd3 r15)])
  have nk4 : Blk V11 U2.heap.size #[.int .i64 r1, .int .i64 r2] 44 := by rw [hV11]; exact (blk_setL k4 (by have := D20.out; have := D27.out; omega) 0 [.int .u64 (wd0 r15), .int .u64 (wd1 r15), .int .u64 (wd2 r15), .int .u64 (wd3 r15)])
  have nk6 : Blk V11 U4.heap.size #[.int .i64 r5, .int .i64 r6] 44 := by rw [hV11]; exact (blk_setL k6 (by have := D21.out; have := D27.out; omega) 0 [.int .u64 (wd0 r15), .int .u64 (wd1 r15), .int .u64 (wd2 r15), .int .u64 (wd3 r15)])
  have nk8 : Blk V11 U6.heap.size #[.int .u64 (wd0 r9), .int .u64 (wd1 r9), .int .u64 (wd2 r9), .int .u64 (wd3 r9)] 34 := by rw [hV11]; exact (blk_setL k8 (by have := D22.out; have := D27.out; omega) 0 [.int .u64 (wd0 r15), .int .u64 (wd1 r15), .int .u64 (wd2 r15), .int .u64 (wd3 r15)])
  have nk9 : Blk V11 (U6.heap.size + 1) #[.int .u64 (wd0 r10), .int .u64 (wd1 r10), .int .u64 (wd2 r10), .int .u64 (wd3 r10)] 34 := by rw [hV11]; exact (blk_setL k9 (by have := D23.out; have := D27.out; omega) 0 [.int .u64 (wd0 r15), .int .u64 (wd1 r15), .int .u64 (wd2 r15), .int .u64 (wd3 r15)])
  have nk10 : Blk V11 U8.heap.size #[.int .u64 (wd0 r11), .int .u64 (wd1 r11), .int .u64 (wd2 r11), .int .u64 (wd3 r11)] 34 := by rw [hV11]; exact (blk_setL k10 (by have := D24.out; have := D27.out; omega) 0 [.int .u64 (wd0 r15), .int .u64 (wd1 r15), .int .u64 (wd2 r15), .int .u64 (wd3 r15)])
  have nk11 : Blk V11 (U8.heap.size + 1) #[.int .u64 (wd0 r12), .int .u64 (wd1 r12), .int .u64 (wd2 r12), .int .u64 (wd3 r12)] 34 := by rw [hV11]; exact (blk_setL k11 (by have := D25.out; have := D27.out; omega) 0 [.int .u64 (wd0 r15), .int .u64 (wd1 r15), .int .u64 (wd2 r15), .int .u64 (wd3 r15)])
  have nk12 : Blk V11 q12 #[.int .u64 (wd0 r15), .int .u64 (wd1 r15), .int .u64 (wd2 r15), .int .u64 (wd3 r15)] 34 := by rw [hV11]; exact (blk_full _ [.int .u64 (wd0 r15), .int .u64 (wd1 r15), .int .u64 (wd2 r15), .int .u64 (wd3 r15)] k12 rfl)
  have nhb0 : Below w.heap.size w V11 := by rw [hV11]; exact (blw_setL hb0 (by have := D26.out; have := D27.out; omega) 0 [.int .u64 (wd0 r15), .int .u64 (wd1 r15), .int .u64 (wd2 r15), .int .u64 (wd3 r15)])
  clear k3 k4 k6 k8 k9 k10 k11 k12; clear hb0; clear hV11; have k3 := nk3; clear nk3; have k4 := nk4; clear nk4; have k6 := nk6; clear nk6; have k8 := nk8; clear nk8; have k9 := nk9; clear nk9; have k10 := nk10; clear nk10; have k11 := nk11; clear nk11; have k12 := nk12; clear nk12; have hb0 := nhb0; clear nhb0
  obtain ⟨r16, hr16⟩ : ∃ o_o : Int, (wrap64 (r5 - r1)) = o_o := ⟨_, rfl⟩
  have Hr16 := Lib.hid hr16; clear hr16
  obtain ⟨r17, hr17⟩ : ∃ o_o : Int, (wrap64 (r6 - r2)) = o_o := ⟨_, rfl⟩
  have Hr17 := Lib.hid hr17; clear hr17; have c4_0 : V11.cell? ⟨U2.heap.size, 0, none⟩ = some (.int .i64 r1) := k4.cell 0; have c4_1 : V11.cell? ⟨U2.heap.size, 1, none⟩ = some (.int .i64 r2) := k4.cell 1; have l4 := k4.lt; have c6_0 : V11.cell? ⟨U4.heap.size, 0, none⟩ = some (.int .i64 r5) := k6.cell 0; have c6_1 : V11.cell? ⟨U4.heap.size, 1, none⟩ = some (.int .i64 r6) := k6.cell 1; have l6 := k6.lt; have Kk3 := Lib.hid k3; clear k3; have Kk4 := Lib.hid k4; clear k4; have Kk6 := Lib.hid k6; clear k6; have Kk8 := Lib.hid k8; clear k8; have Kk9 := Lib.hid k9; clear k9; have Kk10 := Lib.hid k10
  clear k10; have Kk11 := Lib.hid k11; clear k11; have Kk12 := Lib.hid k12; clear k12
  refine wp_region_FG2 14 12 13 [(0, 0), (0, 1), (0, 2), (0, 3), (0, 4), (2, 6), (0, 7), (2, 8), (0, 9), (0, 10), (1, 5), (1, 11)] [(3, 14), (3, 15)] (by kernel_rfl) (by kernel_rfl) (fun _ _ d _ _ => by cases d <;> exact Iff.rfl) rfl rfl rfl alCr5_0 rfl rfl rfl alCr5_0 rfl ?_
  have hb : Below V11.heap.size V11 V11.drew := (Below.refl _ _).drew
  iterate 5
    refine wpFG_take0 rfl rfl ?_
    go_big_quiet_step (rfl)
    refine wpQuiet_nil ?_
  refine wpFG_take2 rfl rfl ?_
  go_big_quiet_step (rfl)
  refine wpQuiet_nil ?_
  refine wpFG_take0 rfl rfl ?_
  go_big_quiet_step (rfl)
  refine wpQuiet_nil ?_
  refine wpFG_take2 rfl rfl ?_
  go_big_quiet_step (rfl)
  refine wpQuiet_nil ?_
  iterate 2
    refine wpFG_take0 rfl rfl ?_
    go_big_quiet_step (rfl)
    refine wpQuiet_nil ?_
  refine wpFG_do rfl ?_
  intro w1 hg K hK
  replace hb := hb.trans (hg.mono hb.size)
  clear hg
  go_wp2_with ((first | (go_at_call 27; (with_reducible refine (Of_v (wrap64 (r5 - r1)) r16 Hr16.out (wrap64_in _) _).mono ?_); rintro e w2 ⟨rfl, hn⟩) | (go_at_call 27; (with_reducible refine (Of_v (wrap64 (r6 - r2)) r17 Hr17.out (wrap64_in _) _).mono ?_); rintro e w2 ⟨rfl, hn⟩)))
  refine hK.out _ _ hn ?_
  replace hb := hb.trans (hn.mono hb.size)
  clear hK K; clear hn
  refine wpFG_do rfl ?_
  intro w1 hg K hK
  replace hb := hb.trans (hg.mono hb.size)
  clear hg
  go_wp2_with ((first | (go_at_call 27; (with_reducible refine (Of_v (wrap64 (r5 - r1)) r16 Hr16.out (wrap64_in _) _).mono ?_); rintro e w2 ⟨rfl, hn⟩) | (go_at_call 27; (with_reducible refine (Of_v (wrap64 (r6 - r2)) r17 Hr17.out (wrap64_in _) _).mono ?_); rintro e w2 ⟨rfl, hn⟩)))
  refine hK.out _ _ hn ?_
  replace hb := hb.trans (hn.mono hb.size)
  clear hK K; clear hn
  refine wpFG_nil ?_
  clear hb
  intro w1 hg hb b1 b2 hne lb1 nb1 lb2 nb2
  clear hg
  simp only [Act.put, ptrTo, List.setIfInBounds_toArray, List.set_cons_succ, List.set_cons_zero]
  have m1 : Blk w1 b1 #[.int .u64 0, .int .u64 0, .int .u64 0, .int .u64 0] 34 := nb1; have mc1_0 : w1.cell? ⟨b1, 0, none⟩ = some (.int .u64 0) := m1.cell 0; have mf1_0 := m1.free 0; have mc1_1 : w1.cell? ⟨b1, 1, none⟩ = some (.int .u64 0) := m1.cell 1; have mf1_1 := m1.free 1; have mc1_2 : w1.cell? ⟨b1, 2, none⟩ = some (.int .u64 0) := m1.cell 2; have mf1_2 := m1.free 2; have mc1_3 : w1.cell? ⟨b1, 3, none⟩ = some (.int .u64 0) := m1.cell 3; have mf1_3 := m1.free 3; have m2 : Blk w1 b2 #[.int .u64 0, .int .u64 0, .int .u64 0, .int .u64 0] 34 := nb2
  have mc2_0 : w1.cell? ⟨b2, 0, none⟩ = some (.int .u64 0) := m2.cell 0; have mf2_0 := m2.free 0; have mc2_1 : w1.cell? ⟨b2, 1, none⟩ = some (.int .u64 0) := m2.cell 1; have mf2_1 := m2.free 1; have mc2_2 : w1.cell? ⟨b2, 2, none⟩ = some (.int .u64 0) := m2.cell 2; have mf2_2 := m2.free 2; have mc2_3 : w1.cell? ⟨b2, 3, none⟩ = some (.int .u64 0) := m2.cell 3; have mf2_3 := m2.free 3
  refine wpG_do3 rfl ?_
  intro K hK
  go_wp2_with (fail)
  refine hK.out _ _ ?_
  clear hK K
  refine wpG_do3 rfl ?_
  intro K hK
  go_wp2_with (fail)
  refine hK.out _ _ ?_
  clear hK K
  refine wpG_nil ?_
  refine list_world ?_
  intro U12 hU12
  clear c4_0 c4_1 l4 c6_0 c6_1 l6; have D37 := Lib.hid Kk3.out.lt; have D38 := Lib.hid Kk4.out.lt; have D39 := Lib.hid Kk6.out.lt; have D40 := Lib.hid Kk8.out.lt; have D41 := Lib.hid Kk9.out.lt; have D42 := Lib.hid Kk10.out.lt; have D43 := Lib.hid Kk11.out.lt; have D44 := Lib.hid Kk12.out.lt; have D45 := Lib.hid hb0.size; have D46 := Lib.hid lb1; have D47 := Lib.hid lb2
  have D48 := Lib.hid (show b1 ≠ b2 from hne)
  have k3 : Blk U12 (w.heap.size + 1 + 1) #[.int .u64 0, .int .u64 0, .int .u64 0, .int .u64 0, .int .u64 0, .int .u64 0, .int .u64 0, .int .u64 0, .int .u64 0, .int .u64 0, .int .u64 0, .int .u64 0] 36 := by rw [hU12]; exact (blk_setL (blk_setL (Kk3.out.of hb) (by have := D37.out; have := D46.out; omega) 0 [.int .u64 (wd0 r16), .int .u64 (wd1 r16), .int .u64 (wd2 r16), .int .u64 (wd3 r16)]) (by have := D37.out; have := D47.out; omega) 0 [.int .u64 (wd0 r17), .int .u64 (wd1 r17), .int .u64 (wd2 r17), .int .u64 (wd3 r17)])
  have k4 : Blk U12 U2.heap.size #[.int .i64 r1, .int .i64 r2] 44 := by rw [hU12]; exact (blk_setL (blk_setL (Kk4.out.of hb) (by have := D38.out; have := D46.out; omega) 0 [.int .u64 (wd0 r16), .int .u64 (wd1 r16), .int .u64 (wd2 r16), .int .u64 (wd3 r16)]) (by have := D38.out; have := D47.out; omega) 0 [.int .u64 (wd0 r17), .int .u64 (wd1 r17), .int .u64 (wd2 r17), .int .u64 (wd3 r17)])
  have k6 : Blk U12 U4.heap.size #[.int .i64 r5, .int .i64 r6] 44 := by rw [hU12]; exact (blk_setL (blk_setL (Kk6.out.of hb) (by have := D39.out; have := D46.out; omega) 0 [.int .u64 (wd0 r16), .int .u64 (wd1 r16), .int .u64 (wd2 r16), .int .u64 (wd3 r16)]) (by have := D39.out; have := D47.out; omega) 0 [.int .u64 (wd0 r17), .int .u64 (wd1 r17), .int .u64 (wd2 r17), .int .u64 (wd3 r17)])
  have k8 : Blk U12 U6.heap.size #[.int .u64 (wd0 r9), .int .u64 (wd1 r9), .int .u64 (wd2 r9), .int .u64 (wd3 r9)] 34 := by rw [hU12]; exact (blk_setL (blk_setL (Kk8.out.of hb) (by have := D40.out; have := D46.out; omega) 0 [.int .u64 (wd0 r16), .int .u64 (wd1 r16), .int .u64 (wd2 r16), .int .u64 (wd3 r16)]) (by have := D40.out; have := D47.out; omega) 0 [.int .u64 (wd0 r17), .int .u64 (wd1 r17), .int .u64 (wd2 r17), .int .u64 (wd3 r17)])
  have k9 : Blk U12 (U6.heap.size + 1) #[.int .u64 (wd0 r10), .int .u64 (wd1 r10), .int .u64 (wd2 r10), .int .u64 (wd3 r10)] 34 := by rw [hU12]; exact (blk_setL (blk_setL (Kk9.out.of hb) (by have := D41.out; have := D46.out; omega) 0 [.int .u64 (wd0 r16), .int .u64 (wd1 r16), .int .u64 (wd2 r16), .int .u64 (wd3 r16)]) (by have := D41.out; have := D47.out; omega) 0 [.int .u64 (wd0 r17), .int .u64 (wd1 r17), .int .u64 (wd2 r17), .int .u64 (wd3 r17)])
  have k10 : Blk U12 U8.heap.size #[.int .u64 (wd0 r11), .int .u64 (wd1 r11), .int .u64 (wd2 r11), .int .u64 (wd3 r11)] 34 := by rw [hU12]; exact (blk_setL (blk_setL (Kk10.out.of hb) (by have := D42.out; have := D46.out; omega) 0 [.int .u64 (wd0 r16), .int .u64 (wd1 r16), .int .u64 (wd2 r16), .int .u64 (wd3 r16)]) (by have := D42.out; have := D47.out; omega) 0 [.int .u64 (wd0 r17), .int .u64 (wd1 r17), .int .u64 (wd2 r17), .int .u64 (wd3 r17)])
  have k11 : Blk U12 (U8.heap.size + 1) #[.int .u64 (wd0 r12), .int .u64 (wd1 r12), .int .u64 (wd2 r12), .int .u64 (wd3 r12)] 34 := by rw [hU12]; exact (blk_setL (blk_setL (Kk11.out.of hb) (by have := D43.out; have := D46.out; omega) 0 [.int .u64 (wd0 r16), .int .u64 (wd1 r16), .int .u64 (wd2 r16), .int .u64 (wd3 r16)]) (by have := D43.out; have := D47.out; omega) 0 [.int .u64 (wd0 r17), .int .u64 (wd1 r17), .int .u64 (wd2 r17), .int .u64 (wd3 r17)])
  have k12 : Blk U12 q12 #[.int .u64 (wd0 r15), .int .u64 (wd1 r15), .int .u64 (wd2 r15), .int .u64 (wd3 r15)] 34 := by rw [hU12]; exact (blk_setL (blk_setL (Kk12.out.of hb) (by have := D44.out; have := D46.out; omega) 0 [.int .u64 (wd0 r16), .int .u64 (wd1 r16), .int .u64 (wd2 r16), .int .u64 (wd3 r16)]) (by have := D44.out; have := D47.out; omega) 0 [.int .u64 (wd0 r17), .int .u64 (wd1 r17), .int .u64 (wd2 r17), .int .u64 (wd3 r17)])
  have k13 : Blk U12 b1 #[.int .u64 (wd0 r16), .int .u64 (wd1 r16), .int .u64 (wd2 r16), .int .u64 (wd3 r16)] 34 := by rw [hU12]; exact (blk_setL (blk_full _ [.int .u64 (wd0 r16), .int .u64 (wd1 r16), .int .u64 (wd2 r16), .int .u64 (wd3 r16)] m1 rfl) (by have := D48.out; omega) 0 [.int .u64 (wd0 r17), .int .u64 (wd1 r17), .int .u64 (wd2 r17), .int .u64 (wd3 r17)])
  have k14 : Blk U12 b2 #[.int .u64 (wd0 r17), .int .u64 (wd1 r17), .int .u64 (wd2 r17), .int .u64 (wd3 r17)] 34 := by rw [hU12]; exact (blk_full _ [.int .u64 (wd0 r17), .int .u64 (wd1 r17), .int .u64 (wd2 r17), .int .u64 (wd3 r17)] (blk_setL m2 (by have := D48.out; omega) 0 [.int .u64 (wd0 r16), .int .u64 (wd1 r16), .int .u64 (wd2 r16), .int .u64 (wd3 r16)]) rfl)
  replace hb0 : Below w.heap.size w U12 := by rw [hU12]; exact (blw_setL (blw_setL (hb0.trans (hb.mono hb0.size)) (by have := D45.out; have := D46.out; omega) 0 [.int .u64 (wd0 r16), .int .u64 (wd1 r16), .int .u64 (wd2 r16), .int .u64 (wd3 r16)]) (by have := D45.out; have := D47.out; omega) 0 [.int .u64 (wd0 r17), .int .u64 (wd1 r17), .int .u64 (wd2 r17), .int .u64 (wd3 r17)])
  clear hU12 hb Kk3 Kk4 Kk6 Kk8 Kk9 Kk10 Kk11 Kk12 m1 nb1 lb1 mc1_0 mf1_0 mc1_1 mf1_1 mc1_2 mf1_2 mc1_3 mf1_3 m2 nb2 lb2 mc2_0 mf2_0 mc2_1 mf2_1 mc2_2 mf2_2 mc2_3 mf2_3 hne
  generalize b1 = q13 at *
  generalize b2 = q14 at *
  go_wp2_with fail
  clear k6
  obtain ⟨r18, hr18⟩ : ∃ o_o : Int, mulv r16 r12 = o_o := ⟨_, rfl⟩
  have Hr18 := Lib.hid hr18; clear hr18
  obtain ⟨r19, hr19⟩ : ∃ o_o : Int, mulv r17 r11 = o_o := ⟨_, rfl⟩
  have Hr19 := Lib.hid hr19; clear hr19
  obtain ⟨r20, hr20⟩ : ∃ o_o : Int, subv r18 r19 = o_o := ⟨_, rfl⟩
  have Hr20 := Lib.hid hr20; clear hr20; have c10_0 : U12.cell? ⟨U8.heap.size, 0, none⟩ = some (.int .u64 (wd0 r11)) := k10.cell 0; have c10_1 : U12.cell? ⟨U8.heap.size, 1, none⟩ = some (.int .u64 (wd1 r11)) := k10.cell 1; have c10_2 : U12.cell? ⟨U8.heap.size, 2, none⟩ = some (.int .u64 (wd2 r11)) := k10.cell 2; have c10_3 : U12.cell? ⟨U8.heap.size, 3, none⟩ = some (.int .u64 (wd3 r11)) := k10.cell 3; have l10 := k10.lt; have c11_0 : U12.cell? ⟨(U8.heap.size + 1), 0, none⟩ = some (.int .u64 (wd0 r12)) := k11.cell 0
  have c11_1 : U12.cell? ⟨(U8.heap.size + 1), 1, none⟩ = some (.int .u64 (wd1 r12)) := k11.cell 1; have c11_2 : U12.cell? ⟨(U8.heap.size + 1), 2, none⟩ = some (.int .u64 (wd2 r12)) := k11.cell 2; have c11_3 : U12.cell? ⟨(U8.heap.size + 1), 3, none⟩ = some (.int .u64 (wd3 r12)) := k11.cell 3; have l11 := k11.lt; have c13_0 : U12.cell? ⟨q13, 0, none⟩ = some (.int .u64 (wd0 r16)) := k13.cell 0; have c13_1 : U12.cell? ⟨q13, 1, none⟩ = some (.int .u64 (wd1 r16)) := k13.cell 1; have c13_2 : U12.cell? ⟨q13, 2, none⟩ = some (.int .u64 (wd2 r16)) := k13.cell 2
  have c13_3 : U12.cell? ⟨q13, 3, none⟩ = some (.int .u64 (wd3 r16)) := k13.cell 3; have l13 := k13.lt; have c14_0 : U12.cell? ⟨q14, 0, none⟩ = some (.int .u64 (wd0 r17)) := k14.cell 0; have c14_1 : U12.cell? ⟨q14, 1, none⟩ = some (.int .u64 (wd1 r17)) := k14.cell 1; have c14_2 : U12.cell? ⟨q14, 2, none⟩ = some (.int .u64 (wd2 r17)) := k14.cell 2; have c14_3 : U12.cell? ⟨q14, 3, none⟩ = some (.int .u64 (wd3 r17)) := k14.cell 3; have l14 := k14.lt; have Kk3 := Lib.hid k3; clear k3; have Kk4 := Lib.hid k4; clear k4; have Kk8 := Lib.hid k8; clear k8; have Kk9 := Lib.hid k9; clear k9
  have Kk10 := Lib.hid k10; clear k10; have Kk11 := Lib.hid k11; clear k11; have Kk12 := Lib.hid k12; clear k12; have Kk13 := Lib.hid k13; clear k13; have Kk14 := Lib.hid k14; clear k14
  refine wp_region_float1 8 7 [(true, 0), (true, 1), (true, 3), (true, 4), (false, 2), (false, 5), (false, 6)] (by kernel_rfl) (by kernel_rfl) (fun _ _ d _ _ => by cases d <;> exact Iff.rfl) rfl rfl rfl alCr5_0 ?_
  have hb : Below U12.heap.size U12 U12.drew := (Below.refl _ _).drew
  iterate 4
    refine wpF_take rfl rfl ?_
    go_big_quiet_step (rfl)
    refine wpQuiet_nil ?_
  refine wpF_do rfl ?_
  intro w1 hg K hK
  replace hb := hb.trans (hg.mono hb.size)
  clear hg
  go_wp2_with ((first | (go_at_call 22; (with_reducible refine (crtimes_is r16 r12 r18 Hr18.out (Hr16.out ▸ in64_I' (wrap64_in _)) (Hr12.out ▸ wyy_in cx cy dx dy _icx _icy _idx _idy)  _).mono ?_); rintro e w2 ⟨rfl, hn⟩) | (go_at_call 22; (with_reducible refine (crtimes_is r17 r11 r19 Hr19.out (Hr17.out ▸ in64_I' (wrap64_in _)) (Hr11.out ▸ wyx_in cx cy dx dy _icx _icy _idx _idy)  _).mono ?_); rintro e w2 ⟨rfl, hn⟩)))
  refine hK.out _ _ hn ?_
  replace hb := hb.trans (hn.mono hb.size)
  clear hK K; clear hn
  refine wpF_do rfl ?_
  intro w1 hg K hK
  replace hb := hb.trans (hg.mono hb.size)
  clear hg
  go_wp2_with ((first | (go_at_call 22; (with_reducible refine (crtimes_is r16 r12 r18 Hr18.out (Hr16.out ▸ in64_I' (wrap64_in _)) (Hr12.out ▸ wyy_in cx cy dx dy _icx _icy _idx _idy)  _).mono ?_); rintro e w2 ⟨rfl, hn⟩) | (go_at_call 22; (with_reducible refine (crtimes_is r17 r11 r19 Hr19.out (Hr17.out ▸ in64_I' (wrap64_in _)) (Hr11.out ▸ wyx_in cx cy dx dy _icx _icy _idx _idy)  _).mono ?_); rintro e w2 ⟨rfl, hn⟩)))
  refine hK.out _ _ hn ?_
  replace hb := hb.trans (hn.mono hb.size)
  clear hK K; clear hn
  refine wpF_do rfl ?_
  intro w1 hg K hK
  replace hb := hb.trans (hg.mono hb.size)
  clear hg
  go_wp2_with ((go_at_call 53; (with_reducible refine (crless_is r18 r19 r20 Hr20.out (Hr18.out ▸ mulv_in r16 r12) (Hr19.out ▸ mulv_in r17 r11)  _).mono ?_); rintro e w2 ⟨rfl, hn⟩))
  refine hK.out _ _ hn ?_
  replace hb := hb.trans (hn.mono hb.size)
  clear hK K; clear hn
  refine wpF_nil ?_
  clear hb
  intro w1 hg hb b1 lb1 nb1
  clear hg
  simp only [Act.put, ptrTo, List.setIfInBounds_toArray, List.set_cons_succ, List.set_cons_zero]
  simp only [List.drop_succ_cons, List.drop_zero]
  clear c10_0 c10_1 c10_2 c10_3 l10 c11_0 c11_1 c11_2 c11_3 l11 c13_0 c13_1 c13_2 c13_3 l13 c14_0 c14_1 c14_2 c14_3 l14
  first | refine calls_w ?_ | refine name_world ?_ | refine list_world ?_ | refine post_world ?_
  intro U13 hU13
  subst hU13; have D49 := Lib.hid Kk3.out.lt; have D50 := Lib.hid Kk4.out.lt; have D51 := Lib.hid Kk8.out.lt; have D52 := Lib.hid Kk9.out.lt; have D53 := Lib.hid Kk10.out.lt; have D54 := Lib.hid Kk11.out.lt; have D55 := Lib.hid Kk12.out.lt; have D56 := Lib.hid Kk13.out.lt; have D57 := Lib.hid Kk14.out.lt; have D58 := Lib.hid hb0.size; have k15 : Blk U13 b1 #[.int .u64 0, .int .u64 0, .int .u64 0, .int .u64 0] 34 := nb1; have k3 := Kk3.out.of hb; clear Kk3; have k4 := Kk4.out.of hb; clear Kk4; have k8 := Kk8.out.of hb; clear Kk8; have k9 := Kk9.out.of hb; clear Kk9
  have k10 := Kk10.out.of hb; clear Kk10; have k11 := Kk11.out.of hb; clear Kk11; have k12 := Kk12.out.of hb; clear Kk12; have k13 := Kk13.out.of hb; clear Kk13; have k14 := Kk14.out.of hb; clear Kk14; have D59 := Lib.hid lb1; clear nb1 lb1
  replace hb0 := hb0.trans (hb.mono hb0.size)
  clear hb
  generalize b1 = q15 at *
  have c12_0 : U13.cell? ⟨q12, 0, none⟩ = some (.int .u64 (wd0 r15)) := k12.cell 0; have c12_1 : U13.cell? ⟨q12, 1, none⟩ = some (.int .u64 (wd1 r15)) := k12.cell 1; have c12_2 : U13.cell? ⟨q12, 2, none⟩ = some (.int .u64 (wd2 r15)) := k12.cell 2; have c12_3 : U13.cell? ⟨q12, 3, none⟩ = some (.int .u64 (wd3 r15)) := k12.cell 3; have l12 := k12.lt; have c15_0 : U13.cell? ⟨q15, 0, none⟩ = some (.int .u64 0) := k15.cell 0; have c15_1 : U13.cell? ⟨q15, 1, none⟩ = some (.int .u64 0) := k15.cell 1; have c15_2 : U13.cell? ⟨q15, 2, none⟩ = some (.int .u64 0) := k15.cell 2
  have c15_3 : U13.cell? ⟨q15, 3, none⟩ = some (.int .u64 0) := k15.cell 3; obtain ⟨f15_0, f15_1, f15_2, f15_3⟩ := fre4 k15; have l15 := k15.lt
  have p12_15 : q12 ≠ q15 := (by have := D55.out; have := D59.out; omega)
  go_wp2_with fail
  clear c12_0 c12_1 c12_2 c12_3 l12 c15_0 c15_1 c15_2 c15_3 f15_0 f15_1 f15_2 f15_3 l15 p12_15
  first | refine calls_w ?_ | refine name_world ?_ | refine list_world ?_ | refine post_world ?_
  intro V14 hV14
  clear k10 k11 k13 k14; have D60 := Lib.hid k3.lt; have D61 := Lib.hid k4.lt; have D62 := Lib.hid k8.lt; have D63 := Lib.hid k9.lt; have D64 := Lib.hid k12.lt; have D65 := Lib.hid k15.lt; have D66 := Lib.hid hb0.size
  have nk3 : Blk V14 (w.heap.size + 1 + 1) #[.int .u64 0, .int .u64 0, .int .u64 0, .int .u64 0, .int .u64 0, .int .u64 0, .int .u64 0, .int .u64 0, .int .u64 0, .int .u64 0, .int .u64 0, .int .u64 0] 36 := by rw [hV14]; exact (blk_setL k3 (by have := D49.out; have := D59.out; omega) 0 [.int .u64 (wd0 r20), .int .u64 (wd1 r20), .int .u64 (wd2 r20), .int .u64 (wd3 r20)])
  have nk4 : Blk V14 U2.heap.size #[.int .i64 r1, .int .i64 r2] 44 := by rw [hV14]; exact (blk_setL k4 (by have := D50.out; have := D59.out; omega) 0 [.int .u64 (wd0 r20), .int .u64 (wd1 r20), .int .u64 (wd2 r20), .int .u64 (wd3 r20)])
  have nk8 : Blk V14 U6.heap.size #[.int .u64 (wd0 r9), .int .u64 (wd1 r9), .int .u64 (wd2 r9), .int .u64 (wd3 r9)] 34 := by rw [hV14]; exact (blk_setL k8 (by have := D51.out; have := D59.out; omega) 0 [.int .u64 (wd0 r20), .int .u64 (wd1 r20), .int .u64 (wd2 r20), .int .u64 (wd3 r20)])
  have nk9 : Blk V14 (U6.heap.size + 1) #[.int .u64 (wd0 r10), .int .u64 (wd1 r10), .int .u64 (wd2 r10), .int .u64 (wd3 r10)] 34 := by rw [hV14]; exact (blk_setL k9 (by have := D52.out; have := D59.out; omega) 0 [.int .u64 (wd0 r20), .int .u64 (wd1 r20), .int .u64 (wd2 r20), .int .u64 (wd3 r20)])
  have nk12 : Blk V14 q12 #[.int .u64 (wd0 r15), .int .u64 (wd1 r15), .int .u64 (wd2 r15), .int .u64 (wd3 r15)] 34 := by rw [hV14]; exact (blk_setL k12 (by have := D55.out; have := D59.out; omega) 0 [.int .u64 (wd0 r20), .int .u64 (wd1 r20), .int .u64 (wd2 r20), .int .u64 (wd3 r20)])
  have nk15 : Blk V14 q15 #[.int .u64 (wd0 r20), .int .u64 (wd1 r20), .int .u64 (wd2 r20), .int .u64 (wd3 r20)] 34 := by rw [hV14]; exact (blk_full _ [.int .u64 (wd0 r20), .int .u64 (wd1 r20), .int .u64 (wd2 r20), .int .u64 (wd3 r20)] k15 rfl)
  have nhb0 : Below w.heap.size w V14 := by rw [hV14]; exact (blw_setL hb0 (by have := D58.out; have := D59.out; omega) 0 [.int .u64 (wd0 r20), .int .u64 (wd1 r20), .int .u64 (wd2 r20), .int .u64 (wd3 r20)])
  clear k3 k4 k8 k9 k12 k15; clear hb0; clear hV14; have k3 := nk3; clear nk3; have k4 := nk4; clear nk4; have k8 := nk8; clear nk8; have k9 := nk9; clear nk9; have k12 := nk12; clear nk12; have k15 := nk15; clear nk15; have hb0 := nhb0; clear nhb0
  obtain ⟨r21, hr21⟩ : ∃ o_o : Int, r15.sign = o_o := ⟨_, rfl⟩
  have Hr21 := Lib.hid hr21; clear hr21
  refine (Sign_v r15 r21 Hr21.out (Hr15.out ▸ subv_in r13 r14) _).mono ?_
  rintro e U15 ⟨rfl, hn⟩
  replace k3 := k3.of hn; replace k4 := k4.of hn; replace k8 := k8.of hn; replace k9 := k9.of hn; replace k12 := k12.of hn; replace k15 := k15.of hn
  replace hb0 := hb0.trans (hn.mono hb0.size)
  clear hn
  obtain ⟨z22, hz22⟩ : ∃ o_o : Bool, decide (r21 < 0) = o_o := ⟨_, rfl⟩
  cases z22
  · go_wp2_with fail
    obtain ⟨r23, hr23⟩ : ∃ o_o : Int, mulv r1 r15 = o_o := ⟨_, rfl⟩
    have Hr23 := Lib.hid hr23; clear hr23
    obtain ⟨r24, hr24⟩ : ∃ o_o : Int, mulv r9 r20 = o_o := ⟨_, rfl⟩
    have Hr24 := Lib.hid hr24; clear hr24
    obtain ⟨r25, hr25⟩ : ∃ o_o : Int, addv r23 r24 = o_o := ⟨_, rfl⟩
    have Hr25 := Lib.hid hr25; clear hr25
    obtain ⟨r26, hr26⟩ : ∃ o_o : Int, mulv r2 r15 = o_o := ⟨_, rfl⟩
    have Hr26 := Lib.hid hr26; clear hr26
    obtain ⟨r27, hr27⟩ : ∃ o_o : Int, mulv r10 r20 = o_o := ⟨_, rfl⟩
    have Hr27 := Lib.hid hr27; clear hr27
    obtain ⟨r28, hr28⟩ : ∃ o_o : Int, addv r26 r27 = o_o := ⟨_, rfl⟩
    have Hr28 := Lib.hid hr28; clear hr28; have c4_0 : U15.cell? ⟨U2.heap.size, 0, none⟩ = some (.int .i64 r1) := k4.cell 0; have c4_1 : U15.cell? ⟨U2.heap.size, 1, none⟩ = some (.int .i64 r2) := k4.cell 1; have l4 := k4.lt; have c8_0 : U15.cell? ⟨U6.heap.size, 0, none⟩ = some (.int .u64 (wd0 r9)) := k8.cell 0; have c8_1 : U15.cell? ⟨U6.heap.size, 1, none⟩ = some (.int .u64 (wd1 r9)) := k8.cell 1; have c8_2 : U15.cell? ⟨U6.heap.size, 2, none⟩ = some (.int .u64 (wd2 r9)) := k8.cell 2; have c8_3 : U15.cell? ⟨U6.heap.size, 3, none⟩ = some (.int .u64 (wd3 r9)) := k8.cell 3; have l8 := k8.lt
    have c9_0 : U15.cell? ⟨(U6.heap.size + 1), 0, none⟩ = some (.int .u64 (wd0 r10)) := k9.cell 0; have c9_1 : U15.cell? ⟨(U6.heap.size + 1), 1, none⟩ = some (.int .u64 (wd1 r10)) := k9.cell 1; have c9_2 : U15.cell? ⟨(U6.heap.size + 1), 2, none⟩ = some (.int .u64 (wd2 r10)) := k9.cell 2; have c9_3 : U15.cell? ⟨(U6.heap.size + 1), 3, none⟩ = some (.int .u64 (wd3 r10)) := k9.cell 3; have l9 := k9.lt; have c12_0 : U15.cell? ⟨q12, 0, none⟩ = some (.int .u64 (wd0 r15)) := k12.cell 0; have c12_1 : U15.cell? ⟨q12, 1, none⟩ = some (.int .u64 (wd1 r15)) := k12.cell 1
    have c12_2 : U15.cell? ⟨q12, 2, none⟩ = some (.int .u64 (wd2 r15)) := k12.cell 2; have c12_3 : U15.cell? ⟨q12, 3, none⟩ = some (.int .u64 (wd3 r15)) := k12.cell 3; have l12 := k12.lt; have c15_0 : U15.cell? ⟨q15, 0, none⟩ = some (.int .u64 (wd0 r20)) := k15.cell 0; have c15_1 : U15.cell? ⟨q15, 1, none⟩ = some (.int .u64 (wd1 r20)) := k15.cell 1; have c15_2 : U15.cell? ⟨q15, 2, none⟩ = some (.int .u64 (wd2 r20)) := k15.cell 2; have c15_3 : U15.cell? ⟨q15, 3, none⟩ = some (.int .u64 (wd3 r20)) := k15.cell 3; have l15 := k15.lt; have Kk3 := Lib.hid k3; clear k3; have Kk4 := Lib.hid k4; clear k4
    have Kk8 := Lib.hid k8; clear k8; have Kk9 := Lib.hid k9; clear k9; have Kk12 := Lib.hid k12; clear k12; have Kk15 := Lib.hid k15; clear k15
    refine wp_region_up U15.heap.size 19 [(true, 0), (true, 1), (true, 3), (true, 5), (true, 6), (true, 9), (true, 10), (true, 12), (true, 14), (true, 15), (true, 18), (false, 2), (false, 4), (false, 7), (false, 8), (false, 11), (false, 13), (false, 16), (false, 17)] (by kernel_rfl) (by kernel_rfl) (fun _ _ d _ _ h => by cases d <;> exact h) ?_
    have hb : Below U15.heap.size U15 U15.drew := (Below.refl _ _).drew
    iterate 11
      refine wpS_takeL rfl rfl ?_
      go_big_quiet_step (rfl)
      refine wpQuiet_nil ?_
    refine wpS_doL rfl ?_
    intro K hK
    go_wp2_with ((first | (go_at_call 27; (with_reducible refine (Of_v r1 r1 rfl (Hr1.out ▸ lwx_in ax ay bx b_y _iax _iay _ibx _ib_y) _).mono ?_); rintro e w2 ⟨rfl, hn⟩) | (go_at_call 27; (with_reducible refine (Of_v r2 r2 rfl (Hr2.out ▸ lwy_in ax ay bx b_y _iax _iay _ibx _ib_y) _).mono ?_); rintro e w2 ⟨rfl, hn⟩)))
    replace hb := hb.trans (hn.mono hb.size)
    refine hK.out _ _ (up_iff.2 hb) ?_
    clear hK K; clear hn
    refine wpS_doL rfl ?_
    intro K hK
    go_wp2_with ((first | (go_at_call 22; (with_reducible refine (crtimes_is r1 r15 r23 Hr23.out (in64_I' (Hr1.out ▸ lwx_in ax ay bx b_y _iax _iay _ibx _ib_y)) (Hr15.out ▸ subv_in r13 r14)  _).mono ?_); rintro e w2 ⟨rfl, hn⟩) | (go_at_call 22; (with_reducible refine (crtimes_is r9 r20 r24 Hr24.out (Hr9.out ▸ wyx_in ax ay bx b_y _iax _iay _ibx _ib_y) (Hr20.out ▸ subv_in r18 r19)  _).mono ?_); rintro e w2 ⟨rfl, hn⟩) | (go_at_call 22; (with_reducible refine (crtimes_is r2 r15 r26 Hr26.out (in64_I' (Hr2.out ▸ lwy_in ax ay bx b_y _iax _iay _ibx _ib_y)) (Hr15.out ▸ subv_in r13 r14)  _).mono ?_); rintro e w2 ⟨rfl, hn⟩) | (go_at_call 22; (with_reducible refine (crtimes_is r10 r20 r27 Hr27.out (Hr10.out ▸ wyy_in ax ay bx b_y _iax _iay _ibx _ib_y) (Hr20.out ▸ subv_in r18 r19)  _).mono ?_); rintro e w2 ⟨rfl, hn⟩)))
    replace hb := hb.trans (hn.mono hb.size)
    refine hK.out _ _ (up_iff.2 hb) ?_
    clear hK K; clear hn
    refine wpS_doL rfl ?_
    intro K hK
    go_wp2_with ((first | (go_at_call 22; (with_reducible refine (crtimes_is r1 r15 r23 Hr23.out (in64_I' (Hr1.out ▸ lwx_in ax ay bx b_y _iax _iay _ibx _ib_y)) (Hr15.out ▸ subv_in r13 r14)  _).mono ?_); rintro e w2 ⟨rfl, hn⟩) | (go_at_call 22; (with_reducible refine (crtimes_is r9 r20 r24 Hr24.out (Hr9.out ▸ wyx_in ax ay bx b_y _iax _iay _ibx _ib_y) (Hr20.out ▸ subv_in r18 r19)  _).mono ?_); rintro e w2 ⟨rfl, hn⟩) | (go_at_call 22; (with_reducible refine (crtimes_is r2 r15 r26 Hr26.out (in64_I' (Hr2.out ▸ lwy_in ax ay bx b_y _iax _iay _ibx _ib_y)) (Hr15.out ▸ subv_in r13 r14)  _).mono ?_); rintro e w2 ⟨rfl, hn⟩) | (go_at_call 22; (with_reducible refine (crtimes_is r10 r20 r27 Hr27.out (Hr10.out ▸ wyy_in ax ay bx b_y _iax _iay _ibx _ib_y) (Hr20.out ▸ subv_in r18 r19)  _).mono ?_); rintro e w2 ⟨rfl, hn⟩)))
    replace hb := hb.trans (hn.mono hb.size)
    refine hK.out _ _ (up_iff.2 hb) ?_
    clear hK K; clear hn
    refine wpS_doL rfl ?_
    intro K hK
    go_wp2_with ((first | (go_at_call 97; (with_reducible refine (crplus_is r23 r24 r25 Hr25.out (Hr23.out ▸ mulv_in r1 r15) (Hr24.out ▸ mulv_in r9 r20)  _).mono ?_); rintro e w2 ⟨rfl, hn⟩) | (go_at_call 97; (with_reducible refine (crplus_is r26 r27 r28 Hr28.out (Hr26.out ▸ mulv_in r2 r15) (Hr27.out ▸ mulv_in r10 r20)  _).mono ?_); rintro e w2 ⟨rfl, hn⟩)))
    replace hb := hb.trans (hn.mono hb.size)
    refine hK.out _ _ (up_iff.2 hb) ?_
    clear hK K; clear hn
    refine wpS_doL rfl ?_
    intro K hK
    go_wp2_with ((first | (go_at_call 27; (with_reducible refine (Of_v r1 r1 rfl (Hr1.out ▸ lwx_in ax ay bx b_y _iax _iay _ibx _ib_y) _).mono ?_); rintro e w2 ⟨rfl, hn⟩) | (go_at_call 27; (with_reducible refine (Of_v r2 r2 rfl (Hr2.out ▸ lwy_in ax ay bx b_y _iax _iay _ibx _ib_y) _).mono ?_); rintro e w2 ⟨rfl, hn⟩)))
    replace hb := hb.trans (hn.mono hb.size)
    refine hK.out _ _ (up_iff.2 hb) ?_
    clear hK K; clear hn
    refine wpS_doL rfl ?_
    intro K hK
    go_wp2_with ((first | (go_at_call 22; (with_reducible refine (crtimes_is r1 r15 r23 Hr23.out (in64_I' (Hr1.out ▸ lwx_in ax ay bx b_y _iax _iay _ibx _ib_y)) (Hr15.out ▸ subv_in r13 r14)  _).mono ?_); rintro e w2 ⟨rfl, hn⟩) | (go_at_call 22; (with_reducible refine (crtimes_is r9 r20 r24 Hr24.out (Hr9.out ▸ wyx_in ax ay bx b_y _iax _iay _ibx _ib_y) (Hr20.out ▸ subv_in r18 r19)  _).mono ?_); rintro e w2 ⟨rfl, hn⟩) | (go_at_call 22; (with_reducible refine (crtimes_is r2 r15 r26 Hr26.out (in64_I' (Hr2.out ▸ lwy_in ax ay bx b_y _iax _iay _ibx _ib_y)) (Hr15.out ▸ subv_in r13 r14)  _).mono ?_); rintro e w2 ⟨rfl, hn⟩) | (go_at_call 22; (with_reducible refine (crtimes_is r10 r20 r27 Hr27.out (Hr10.out ▸ wyy_in ax ay bx b_y _iax _iay _ibx _ib_y) (Hr20.out ▸ subv_in r18 r19)  _).mono ?_); rintro e w2 ⟨rfl, hn⟩)))
    replace hb := hb.trans (hn.mono hb.size)
    refine hK.out _ _ (up_iff.2 hb) ?_
    clear hK K; clear hn
    refine wpS_doL rfl ?_
    intro K hK
    go_wp2_with ((first | (go_at_call 22; (with_reducible refine (crtimes_is r1 r15 r23 Hr23.out (in64_I' (Hr1.out ▸ lwx_in ax ay bx b_y _iax _iay _ibx _ib_y)) (Hr15.out ▸ subv_in r13 r14)  _).mono ?_); rintro e w2 ⟨rfl, hn⟩) | (go_at_call 22; (with_reducible refine (crtimes_is r9 r20 r24 Hr24.out (Hr9.out ▸ wyx_in ax ay bx b_y _iax _iay _ibx _ib_y) (Hr20.out ▸ subv_in r18 r19)  _).mono ?_); rintro e w2 ⟨rfl, hn⟩) | (go_at_call 22; (with_reducible refine (crtimes_is r2 r15 r26 Hr26.out (in64_I' (Hr2.out ▸ lwy_in ax ay bx b_y _iax _iay _ibx _ib_y)) (Hr15.out ▸ subv_in r13 r14)  _).mono ?_); rintro e w2 ⟨rfl, hn⟩) | (go_at_call 22; (with_reducible refine (crtimes_is r10 r20 r27 Hr27.out (Hr10.out ▸ wyy_in ax ay bx b_y _iax _iay _ibx _ib_y) (Hr20.out ▸ subv_in r18 r19)  _).mono ?_); rintro e w2 ⟨rfl, hn⟩)))
    replace hb := hb.trans (hn.mono hb.size)
    refine hK.out _ _ (up_iff.2 hb) ?_
    clear hK K; clear hn
    refine wpS_doL rfl ?_
    intro K hK
    go_wp2_with ((first | (go_at_call 97; (with_reducible refine (crplus_is r23 r24 r25 Hr25.out (Hr23.out ▸ mulv_in r1 r15) (Hr24.out ▸ mulv_in r9 r20)  _).mono ?_); rintro e w2 ⟨rfl, hn⟩) | (go_at_call 97; (with_reducible refine (crplus_is r26 r27 r28 Hr28.out (Hr26.out ▸ mulv_in r2 r15) (Hr27.out ▸ mulv_in r10 r20)  _).mono ?_); rintro e w2 ⟨rfl, hn⟩)))
    replace hb := hb.trans (hn.mono hb.size)
    refine hK.out _ _ (up_iff.2 hb) ?_
    clear hK K; clear hn
    refine wpS_nil ?_
    simp only [List.drop_succ_cons, List.drop_zero]
    first | refine calls_w ?_ | refine name_world ?_ | refine list_world ?_ | refine post_world ?_
    intro U16 hU16
    first | subst hU16 | (rw [← hU16] at hb; clear hU16)
    clear c4_0 c4_1 l4 c8_0 c8_1 c8_2 c8_3 l8 c9_0 c9_1 c9_2 c9_3 l9 c12_0 c12_1 c12_2 c12_3 l12 c15_0 c15_1 c15_2 c15_3 l15; have k3 := Kk3.out.of hb; clear Kk3; have k4 := Kk4.out.of hb; clear Kk4; have k8 := Kk8.out.of hb; clear Kk8; have k9 := Kk9.out.of hb; clear Kk9; have k12 := Kk12.out.of hb; clear Kk12; have k15 := Kk15.out.of hb; clear Kk15
    replace hb0 := hb0.trans (hb.mono hb0.size)
    clear hb; obtain ⟨c3_0, c3_1, c3_2, c3_3, c3_4, c3_5, c3_6, c3_7, c3_8, c3_9, c3_10, c3_11⟩ := cel12 k3; obtain ⟨f3_0, f3_1, f3_2, f3_3, f3_4, f3_5, f3_6, f3_7, f3_8, f3_9, f3_10, f3_11⟩ := fre12 k3; have l3 := k3.lt
    have e0 : r25 = R0 := by rw [← HR0.out]; unfold cgx; (try rw [Hr1.out]); (try rw [Hr2.out]); (try rw [Hr3.out]); (try rw [Hr4.out]); (try rw [Hr5.out]); (try rw [Hr6.out]); (try rw [Hr7.out]); (try rw [Hr8.out]); (try rw [Hr9.out]); (try rw [Hr10.out]); (try rw [Hr11.out]); (try rw [Hr12.out]); (try rw [Hr13.out]); (try rw [Hr14.out]); (try rw [Hr15.out]); (try rw [Hr16.out]); (try rw [Hr17.out]); (try rw [Hr18.out]); (try rw [Hr19.out]); (try rw [Hr20.out]); (try rw [Hr21.out]); (try rw [hz22]); (try rw [Hr23.out]); (try rw [Hr24.out]); (try rw [Hr25.out]); (try rw [Hr26.out]); (try rw [Hr27.out]); (try rw [Hr28.out]); all_goals first | rfl | simp
    have e1 : r28 = R1 := by rw [← HR1.out]; unfold cgy; (try rw [Hr1.out]); (try rw [Hr2.out]); (try rw [Hr3.out]); (try rw [Hr4.out]); (try rw [Hr5.out]); (try rw [Hr6.out]); (try rw [Hr7.out]); (try rw [Hr8.out]); (try rw [Hr9.out]); (try rw [Hr10.out]); (try rw [Hr11.out]); (try rw [Hr12.out]); (try rw [Hr13.out]); (try rw [Hr14.out]); (try rw [Hr15.out]); (try rw [Hr16.out]); (try rw [Hr17.out]); (try rw [Hr18.out]); (try rw [Hr19.out]); (try rw [Hr20.out]); (try rw [Hr21.out]); (try rw [hz22]); (try rw [Hr23.out]); (try rw [Hr24.out]); (try rw [Hr25.out]); (try rw [Hr26.out]); (try rw [Hr27.out]); (try rw [Hr28.out]); all_goals first | rfl | simp
    have e2 : r15 = R2 := by rw [← HR2.out]; unfold cgw; (try rw [Hr1.out]); (try rw [Hr2.out]); (try rw [Hr3.out]); (try rw [Hr4.out]); (try rw [Hr5.out]); (try rw [Hr6.out]); (try rw [Hr7.out]); (try rw [Hr8.out]); (try rw [Hr9.out]); (try rw [Hr10.out]); (try rw [Hr11.out]); (try rw [Hr12.out]); (try rw [Hr13.out]); (try rw [Hr14.out]); (try rw [Hr15.out]); (try rw [Hr16.out]); (try rw [Hr17.out]); (try rw [Hr18.out]); (try rw [Hr19.out]); (try rw [Hr20.out]); (try rw [Hr21.out]); (try rw [hz22]); (try rw [Hr23.out]); (try rw [Hr24.out]); (try rw [Hr25.out]); (try rw [Hr26.out]); (try rw [Hr27.out]); (try rw [Hr28.out]); all_goals first | rfl | simp
    subst e0; subst e1; subst e2
    go_wp2
    clear c3_0 c3_1 c3_2 c3_3 c3_4 c3_5 c3_6 c3_7 c3_8 c3_9 c3_10 c3_11 f3_0 f3_1 f3_2 f3_3 f3_4 f3_5 f3_6 f3_7 f3_8 f3_9 f3_10 f3_11 l3
    first | refine post_world ?_
    intro V17 hV17
    clear k4 k8 k9 k12 k15; have D67 := Lib.hid k3.lt; have D68 := Lib.hid hb0.size
    have nk3 : Blk V17 (w.heap.size + 1 + 1) #[.int .u64 (wd0 r25), .int .u64 (wd1 r25), .int .u64 (wd2 r25), .int .u64 (wd3 r25), .int .u64 (wd0 r28), .int .u64 (wd1 r28), .int .u64 (wd2 r28), .int .u64 (wd3 r28), .int .u64 (wd0 r15), .int .u64 (wd1 r15), .int .u64 (wd2 r15), .int .u64 (wd3 r15)] 36 := by rw [hV17]; exact (blk_full _ [.int .u64 (wd0 r25), .int .u64 (wd1 r25), .int .u64 (wd2 r25), .int .u64 (wd3 r25), .int .u64 (wd0 r28), .int .u64 (wd1 r28), .int .u64 (wd2 r28), .int .u64 (wd3 r28), .int .u64 (wd0 r15), .int .u64 (wd1 r15), .int .u64 (wd2 r15), .int .u64 (wd3 r15)] k3 rfl)
    have nhb0 : Below w.heap.size w V17 := by rw [hV17]; exact (blw_setL hb0 (by omega) 0 [.int .u64 (wd0 r25), .int .u64 (wd1 r25), .int .u64 (wd2 r25), .int .u64 (wd3 r25), .int .u64 (wd0 r28), .int .u64 (wd1 r28), .int .u64 (wd2 r28), .int .u64 (wd3 r28), .int .u64 (wd0 r15), .int .u64 (wd1 r15), .int .u64 (wd2 r15), .int .u64 (wd3 r15)])
    clear k3; clear hb0; clear hV17; have k3 := nk3; clear nk3; have hb0 := nhb0; clear nhb0; obtain ⟨g3_0, g3_1, g3_2, g3_3, g3_4, g3_5, g3_6, g3_7, g3_8, g3_9, g3_10, g3_11⟩ := cel12 k3; clear k3
    simp [bodyPost, results, Try.results91, go_sem, g3_0, g3_1, g3_2, g3_3, g3_4, g3_5, g3_6, g3_7, g3_8, g3_9, g3_10, g3_11]
    first | exact hb0 | exact ⟨rfl, hb0⟩
  · go_wp2_with fail
    obtain ⟨r29, hr29⟩ : ∃ o_o : Int, subv 0 r15 = o_o := ⟨_, rfl⟩
    have Hr29 := Lib.hid hr29; clear hr29
    obtain ⟨r30, hr30⟩ : ∃ o_o : Int, subv 0 r20 = o_o := ⟨_, rfl⟩
    have Hr30 := Lib.hid hr30; clear hr30; have c12_0 : U15.cell? ⟨q12, 0, none⟩ = some (.int .u64 (wd0 r15)) := k12.cell 0; have c12_1 : U15.cell? ⟨q12, 1, none⟩ = some (.int .u64 (wd1 r15)) := k12.cell 1; have c12_2 : U15.cell? ⟨q12, 2, none⟩ = some (.int .u64 (wd2 r15)) := k12.cell 2; have c12_3 : U15.cell? ⟨q12, 3, none⟩ = some (.int .u64 (wd3 r15)) := k12.cell 3; obtain ⟨f12_0, f12_1, f12_2, f12_3⟩ := fre4 k12; have l12 := k12.lt; have c15_0 : U15.cell? ⟨q15, 0, none⟩ = some (.int .u64 (wd0 r20)) := k15.cell 0; have c15_1 : U15.cell? ⟨q15, 1, none⟩ = some (.int .u64 (wd1 r20)) := k15.cell 1
    have c15_2 : U15.cell? ⟨q15, 2, none⟩ = some (.int .u64 (wd2 r20)) := k15.cell 2; have c15_3 : U15.cell? ⟨q15, 3, none⟩ = some (.int .u64 (wd3 r20)) := k15.cell 3; obtain ⟨f15_0, f15_1, f15_2, f15_3⟩ := fre4 k15; have l15 := k15.lt
    have p12_15 : q12 ≠ q15 := (by have := D55.out; have := D59.out; omega)
    have Kk3 := Lib.hid k3; clear k3; have Kk4 := Lib.hid k4; clear k4; have Kk8 := Lib.hid k8; clear k8; have Kk9 := Lib.hid k9; clear k9; have Kk12 := Lib.hid k12; clear k12; have Kk15 := Lib.hid k15; clear k15
    refine wp_region_G 6 [(0, 0), (0, 1), (0, 3), (0, 4), (1, 2), (1, 5), (3, 6), (3, 7)] (by kernel_rfl) (by kernel_rfl) (fun _ _ d _ _ => by cases d <;> exact Iff.rfl) ?_
    have hb : Below U15.heap.size U15 U15.drew := (Below.refl _ _).drew
    iterate 4
      refine wpG_take0 rfl rfl ?_
      go_big_quiet_step (rfl)
      refine wpQuiet_nil ?_
    refine wpG_do1 rfl ?_
    intro K hK
    go_wp2_with ((first | (go_at_call 53; (with_reducible refine (args_eq (a' := #[.agg #[.int .u64 0, .int .u64 0, .int .u64 0, .int .u64 0], .agg #[.int .u64 (wd0 r15), .int .u64 (wd1 r15), .int .u64 (wd2 r15), .int .u64 (wd3 r15)]]) (crless_is 0 r15 r29 Hr29.out (by unfold InI b255; omega) (Hr15.out ▸ subv_in r13 r14)  _) (by kernel_rfl)).mono ?_); rintro e w2 ⟨rfl, hn⟩) | (go_at_call 53; (with_reducible refine (args_eq (a' := #[.agg #[.int .u64 0, .int .u64 0, .int .u64 0, .int .u64 0], .agg #[.int .u64 (wd0 r20), .int .u64 (wd1 r20), .int .u64 (wd2 r20), .int .u64 (wd3 r20)]]) (crless_is 0 r20 r30 Hr30.out (by unfold InI b255; omega) (Hr20.out ▸ subv_in r18 r19)  _) (by kernel_rfl)).mono ?_); rintro e w2 ⟨rfl, hn⟩)))
    replace hb := hb.trans (hn.mono hb.size)
    refine hK.out _ _ (up_iff.2 hb) ?_
    clear hK K; clear hn
    refine wpG_do1 rfl ?_
    intro K hK
    go_wp2_with ((first | (go_at_call 53; (with_reducible refine (args_eq (a' := #[.agg #[.int .u64 0, .int .u64 0, .int .u64 0, .int .u64 0], .agg #[.int .u64 (wd0 r15), .int .u64 (wd1 r15), .int .u64 (wd2 r15), .int .u64 (wd3 r15)]]) (crless_is 0 r15 r29 Hr29.out (by unfold InI b255; omega) (Hr15.out ▸ subv_in r13 r14)  _) (by kernel_rfl)).mono ?_); rintro e w2 ⟨rfl, hn⟩) | (go_at_call 53; (with_reducible refine (args_eq (a' := #[.agg #[.int .u64 0, .int .u64 0, .int .u64 0, .int .u64 0], .agg #[.int .u64 (wd0 r20), .int .u64 (wd1 r20), .int .u64 (wd2 r20), .int .u64 (wd3 r20)]]) (crless_is 0 r20 r30 Hr30.out (by unfold InI b255; omega) (Hr20.out ▸ subv_in r18 r19)  _) (by kernel_rfl)).mono ?_); rintro e w2 ⟨rfl, hn⟩)))
    replace hb := hb.trans (hn.mono hb.size)
    refine hK.out _ _ (up_iff.2 hb) ?_
    clear hK K; clear hn; have Mk12 := Kk12.out.of hb; have Mk12_0 := Mk12.cell 0; have Nk12_0 := Mk12.free 0; have Mk12_1 := Mk12.cell 1; have Nk12_1 := Mk12.free 1; have Mk12_2 := Mk12.cell 2; have Nk12_2 := Mk12.free 2; have Mk12_3 := Mk12.cell 3; have Nk12_3 := Mk12.free 3; have Mk15 := Kk15.out.of hb; have Mk15_0 := Mk15.cell 0; have Nk15_0 := Mk15.free 0; have Mk15_1 := Mk15.cell 1; have Nk15_1 := Mk15.free 1; have Mk15_2 := Mk15.cell 2; have Nk15_2 := Mk15.free 2; have Mk15_3 := Mk15.cell 3; have Nk15_3 := Mk15.free 3
    simp only [List.getElem?_toArray, List.getElem?_cons_zero, List.getElem?_cons_succ] at Mk12_0 Mk12_1 Mk12_2 Mk12_3 Mk15_0 Mk15_1 Mk15_2 Mk15_3
    refine wpG_do3 rfl ?_
    intro K hK
    go_wp2_with (fail)
    refine hK.out _ _ ?_
    clear hK K
    refine wpG_do3 rfl ?_
    intro K hK
    go_wp2_with (fail)
    refine hK.out _ _ ?_
    clear hK K
    refine wpG_nil ?_
    refine list_world ?_
    intro U18 hU18
    clear c12_0 c12_1 c12_2 c12_3 f12_0 f12_1 f12_2 f12_3 l12 c15_0 c15_1 c15_2 c15_3 f15_0 f15_1 f15_2 f15_3 l15 p12_15 Mk12 Mk12_0 Nk12_0 Mk12_1 Nk12_1 Mk12_2 Nk12_2 Mk12_3 Nk12_3 Mk15 Mk15_0 Nk15_0 Mk15_1 Nk15_1 Mk15_2 Nk15_2 Mk15_3 Nk15_3; have D69 := Lib.hid Kk3.out.lt; have D70 := Lib.hid Kk4.out.lt; have D71 := Lib.hid Kk8.out.lt; have D72 := Lib.hid Kk9.out.lt; have D73 := Lib.hid Kk12.out.lt; have D74 := Lib.hid Kk15.out.lt; have D75 := Lib.hid hb0.size
    have k3 : Blk U18 (w.heap.size + 1 + 1) #[.int .u64 0, .int .u64 0, .int .u64 0, .int .u64 0, .int .u64 0, .int .u64 0, .int .u64 0, .int .u64 0, .int .u64 0, .int .u64 0, .int .u64 0, .int .u64 0] 36 := by rw [hU18]; exact (blk_setL (blk_setL (Kk3.out.of hb) (by have := D19.out; have := D27.out; omega) 0 [.int .u64 (wd0 r29), .int .u64 (wd1 r29), .int .u64 (wd2 r29), .int .u64 (wd3 r29)]) (by have := D49.out; have := D59.out; omega) 0 [.int .u64 (wd0 r30), .int .u64 (wd1 r30), .int .u64 (wd2 r30), .int .u64 (wd3 r30)])
    have k4 : Blk U18 U2.heap.size #[.int .i64 r1, .int .i64 r2] 44 := by rw [hU18]; exact (blk_setL (blk_setL (Kk4.out.of hb) (by have := D20.out; have := D27.out; omega) 0 [.int .u64 (wd0 r29), .int .u64 (wd1 r29), .int .u64 (wd2 r29), .int .u64 (wd3 r29)]) (by have := D50.out; have := D59.out; omega) 0 [.int .u64 (wd0 r30), .int .u64 (wd1 r30), .int .u64 (wd2 r30), .int .u64 (wd3 r30)])
    have k8 : Blk U18 U6.heap.size #[.int .u64 (wd0 r9), .int .u64 (wd1 r9), .int .u64 (wd2 r9), .int .u64 (wd3 r9)] 34 := by rw [hU18]; exact (blk_setL (blk_setL (Kk8.out.of hb) (by have := D22.out; have := D27.out; omega) 0 [.int .u64 (wd0 r29), .int .u64 (wd1 r29), .int .u64 (wd2 r29), .int .u64 (wd3 r29)]) (by have := D51.out; have := D59.out; omega) 0 [.int .u64 (wd0 r30), .int .u64 (wd1 r30), .int .u64 (wd2 r30), .int .u64 (wd3 r30)])
    have k9 : Blk U18 (U6.heap.size + 1) #[.int .u64 (wd0 r10), .int .u64 (wd1 r10), .int .u64 (wd2 r10), .int .u64 (wd3 r10)] 34 := by rw [hU18]; exact (blk_setL (blk_setL (Kk9.out.of hb) (by have := D23.out; have := D27.out; omega) 0 [.int .u64 (wd0 r29), .int .u64 (wd1 r29), .int .u64 (wd2 r29), .int .u64 (wd3 r29)]) (by have := D52.out; have := D59.out; omega) 0 [.int .u64 (wd0 r30), .int .u64 (wd1 r30), .int .u64 (wd2 r30), .int .u64 (wd3 r30)])
    have k12 : Blk U18 q12 #[.int .u64 (wd0 r29), .int .u64 (wd1 r29), .int .u64 (wd2 r29), .int .u64 (wd3 r29)] 34 := by rw [hU18]; exact (blk_setL (blk_full _ [.int .u64 (wd0 r29), .int .u64 (wd1 r29), .int .u64 (wd2 r29), .int .u64 (wd3 r29)] (Kk12.out.of hb) rfl) (by have := D55.out; have := D59.out; omega) 0 [.int .u64 (wd0 r30), .int .u64 (wd1 r30), .int .u64 (wd2 r30), .int .u64 (wd3 r30)])
    have k15 : Blk U18 q15 #[.int .u64 (wd0 r30), .int .u64 (wd1 r30), .int .u64 (wd2 r30), .int .u64 (wd3 r30)] 34 := by rw [hU18]; exact (blk_full _ [.int .u64 (wd0 r30), .int .u64 (wd1 r30), .int .u64 (wd2 r30), .int .u64 (wd3 r30)] (blk_setL (Kk15.out.of hb) (by have := D55.out; have := D59.out; omega) 0 [.int .u64 (wd0 r29), .int .u64 (wd1 r29), .int .u64 (wd2 r29), .int .u64 (wd3 r29)]) rfl)
    replace hb0 : Below w.heap.size w U18 := by rw [hU18]; exact (blw_setL (blw_setL (hb0.trans (hb.mono hb0.size)) (by have := D26.out; have := D27.out; omega) 0 [.int .u64 (wd0 r29), .int .u64 (wd1 r29), .int .u64 (wd2 r29), .int .u64 (wd3 r29)]) (by have := D58.out; have := D59.out; omega) 0 [.int .u64 (wd0 r30), .int .u64 (wd1 r30), .int .u64 (wd2 r30), .int .u64 (wd3 r30)])
    clear hU18 hb Kk3 Kk4 Kk8 Kk9 Kk12 Kk15
    go_wp2_with fail
    obtain ⟨r31, hr31⟩ : ∃ o_o : Int, mulv r1 r29 = o_o := ⟨_, rfl⟩
    have Hr31 := Lib.hid hr31; clear hr31
    obtain ⟨r32, hr32⟩ : ∃ o_o : Int, mulv r9 r30 = o_o := ⟨_, rfl⟩
    have Hr32 := Lib.hid hr32; clear hr32
    obtain ⟨r33, hr33⟩ : ∃ o_o : Int, addv r31 r32 = o_o := ⟨_, rfl⟩
    have Hr33 := Lib.hid hr33; clear hr33
    obtain ⟨r34, hr34⟩ : ∃ o_o : Int, mulv r2 r29 = o_o := ⟨_, rfl⟩
    have Hr34 := Lib.hid hr34; clear hr34
    obtain ⟨r35, hr35⟩ : ∃ o_o : Int, mulv r10 r30 = o_o := ⟨_, rfl⟩
    have Hr35 := Lib.hid hr35; clear hr35
    obtain ⟨r36, hr36⟩ : ∃ o_o : Int, addv r34 r35 = o_o := ⟨_, rfl⟩
    have Hr36 := Lib.hid hr36; clear hr36; have c4_0 : U18.cell? ⟨U2.heap.size, 0, none⟩ = some (.int .i64 r1) := k4.cell 0; have c4_1 : U18.cell? ⟨U2.heap.size, 1, none⟩ = some (.int .i64 r2) := k4.cell 1; have l4 := k4.lt; have c8_0 : U18.cell? ⟨U6.heap.size, 0, none⟩ = some (.int .u64 (wd0 r9)) := k8.cell 0; have c8_1 : U18.cell? ⟨U6.heap.size, 1, none⟩ = some (.int .u64 (wd1 r9)) := k8.cell 1; have c8_2 : U18.cell? ⟨U6.heap.size, 2, none⟩ = some (.int .u64 (wd2 r9)) := k8.cell 2; have c8_3 : U18.cell? ⟨U6.heap.size, 3, none⟩ = some (.int .u64 (wd3 r9)) := k8.cell 3; have l8 := k8.lt
    have c9_0 : U18.cell? ⟨(U6.heap.size + 1), 0, none⟩ = some (.int .u64 (wd0 r10)) := k9.cell 0; have c9_1 : U18.cell? ⟨(U6.heap.size + 1), 1, none⟩ = some (.int .u64 (wd1 r10)) := k9.cell 1; have c9_2 : U18.cell? ⟨(U6.heap.size + 1), 2, none⟩ = some (.int .u64 (wd2 r10)) := k9.cell 2; have c9_3 : U18.cell? ⟨(U6.heap.size + 1), 3, none⟩ = some (.int .u64 (wd3 r10)) := k9.cell 3; have l9 := k9.lt; have c12_0 : U18.cell? ⟨q12, 0, none⟩ = some (.int .u64 (wd0 r29)) := k12.cell 0; have c12_1 : U18.cell? ⟨q12, 1, none⟩ = some (.int .u64 (wd1 r29)) := k12.cell 1
    have c12_2 : U18.cell? ⟨q12, 2, none⟩ = some (.int .u64 (wd2 r29)) := k12.cell 2; have c12_3 : U18.cell? ⟨q12, 3, none⟩ = some (.int .u64 (wd3 r29)) := k12.cell 3; have l12 := k12.lt; have c15_0 : U18.cell? ⟨q15, 0, none⟩ = some (.int .u64 (wd0 r30)) := k15.cell 0; have c15_1 : U18.cell? ⟨q15, 1, none⟩ = some (.int .u64 (wd1 r30)) := k15.cell 1; have c15_2 : U18.cell? ⟨q15, 2, none⟩ = some (.int .u64 (wd2 r30)) := k15.cell 2; have c15_3 : U18.cell? ⟨q15, 3, none⟩ = some (.int .u64 (wd3 r30)) := k15.cell 3; have l15 := k15.lt; have Kk3 := Lib.hid k3; clear k3; have Kk4 := Lib.hid k4; clear k4
    have Kk8 := Lib.hid k8; clear k8; have Kk9 := Lib.hid k9; clear k9; have Kk12 := Lib.hid k12; clear k12; have Kk15 := Lib.hid k15; clear k15
    refine wp_region_up U18.heap.size 19 [(true, 0), (true, 1), (true, 3), (true, 5), (true, 6), (true, 9), (true, 10), (true, 12), (true, 14), (true, 15), (true, 18), (false, 2), (false, 4), (false, 7), (false, 8), (false, 11), (false, 13), (false, 16), (false, 17)] (by kernel_rfl) (by kernel_rfl) (fun _ _ d _ _ h => by cases d <;> exact h) ?_
    have hb : Below U18.heap.size U18 U18.drew := (Below.refl _ _).drew
    iterate 11
      refine wpS_takeL rfl rfl ?_
      go_big_quiet_step (rfl)
      refine wpQuiet_nil ?_
    refine wpS_doL rfl ?_
    intro K hK
    go_wp2_with ((first | (go_at_call 27; (with_reducible refine (Of_v r1 r1 rfl (Hr1.out ▸ lwx_in ax ay bx b_y _iax _iay _ibx _ib_y) _).mono ?_); rintro e w2 ⟨rfl, hn⟩) | (go_at_call 27; (with_reducible refine (Of_v r2 r2 rfl (Hr2.out ▸ lwy_in ax ay bx b_y _iax _iay _ibx _ib_y) _).mono ?_); rintro e w2 ⟨rfl, hn⟩)))
    replace hb := hb.trans (hn.mono hb.size)
    refine hK.out _ _ (up_iff.2 hb) ?_
    clear hK K; clear hn
    refine wpS_doL rfl ?_
    intro K hK
    go_wp2_with ((first | (go_at_call 22; (with_reducible refine (crtimes_is r1 r29 r31 Hr31.out (in64_I' (Hr1.out ▸ lwx_in ax ay bx b_y _iax _iay _ibx _ib_y)) (Hr29.out ▸ subv_in 0 r15)  _).mono ?_); rintro e w2 ⟨rfl, hn⟩) | (go_at_call 22; (with_reducible refine (crtimes_is r9 r30 r32 Hr32.out (Hr9.out ▸ wyx_in ax ay bx b_y _iax _iay _ibx _ib_y) (Hr30.out ▸ subv_in 0 r20)  _).mono ?_); rintro e w2 ⟨rfl, hn⟩) | (go_at_call 22; (with_reducible refine (crtimes_is r2 r29 r34 Hr34.out (in64_I' (Hr2.out ▸ lwy_in ax ay bx b_y _iax _iay _ibx _ib_y)) (Hr29.out ▸ subv_in 0 r15)  _).mono ?_); rintro e w2 ⟨rfl, hn⟩) | (go_at_call 22; (with_reducible refine (crtimes_is r10 r30 r35 Hr35.out (Hr10.out ▸ wyy_in ax ay bx b_y _iax _iay _ibx _ib_y) (Hr30.out ▸ subv_in 0 r20)  _).mono ?_); rintro e w2 ⟨rfl, hn⟩)))
    replace hb := hb.trans (hn.mono hb.size)
    refine hK.out _ _ (up_iff.2 hb) ?_
    clear hK K; clear hn
    refine wpS_doL rfl ?_
    intro K hK
    go_wp2_with ((first | (go_at_call 22; (with_reducible refine (crtimes_is r1 r29 r31 Hr31.out (in64_I' (Hr1.out ▸ lwx_in ax ay bx b_y _iax _iay _ibx _ib_y)) (Hr29.out ▸ subv_in 0 r15)  _).mono ?_); rintro e w2 ⟨rfl, hn⟩) | (go_at_call 22; (with_reducible refine (crtimes_is r9 r30 r32 Hr32.out (Hr9.out ▸ wyx_in ax ay bx b_y _iax _iay _ibx _ib_y) (Hr30.out ▸ subv_in 0 r20)  _).mono ?_); rintro e w2 ⟨rfl, hn⟩) | (go_at_call 22; (with_reducible refine (crtimes_is r2 r29 r34 Hr34.out (in64_I' (Hr2.out ▸ lwy_in ax ay bx b_y _iax _iay _ibx _ib_y)) (Hr29.out ▸ subv_in 0 r15)  _).mono ?_); rintro e w2 ⟨rfl, hn⟩) | (go_at_call 22; (with_reducible refine (crtimes_is r10 r30 r35 Hr35.out (Hr10.out ▸ wyy_in ax ay bx b_y _iax _iay _ibx _ib_y) (Hr30.out ▸ subv_in 0 r20)  _).mono ?_); rintro e w2 ⟨rfl, hn⟩)))
    replace hb := hb.trans (hn.mono hb.size)
    refine hK.out _ _ (up_iff.2 hb) ?_
    clear hK K; clear hn
    refine wpS_doL rfl ?_
    intro K hK
    go_wp2_with ((first | (go_at_call 97; (with_reducible refine (crplus_is r31 r32 r33 Hr33.out (Hr31.out ▸ mulv_in r1 r29) (Hr32.out ▸ mulv_in r9 r30)  _).mono ?_); rintro e w2 ⟨rfl, hn⟩) | (go_at_call 97; (with_reducible refine (crplus_is r34 r35 r36 Hr36.out (Hr34.out ▸ mulv_in r2 r29) (Hr35.out ▸ mulv_in r10 r30)  _).mono ?_); rintro e w2 ⟨rfl, hn⟩)))
    replace hb := hb.trans (hn.mono hb.size)
    refine hK.out _ _ (up_iff.2 hb) ?_
    clear hK K; clear hn
    refine wpS_doL rfl ?_
    intro K hK
    go_wp2_with ((first | (go_at_call 27; (with_reducible refine (Of_v r1 r1 rfl (Hr1.out ▸ lwx_in ax ay bx b_y _iax _iay _ibx _ib_y) _).mono ?_); rintro e w2 ⟨rfl, hn⟩) | (go_at_call 27; (with_reducible refine (Of_v r2 r2 rfl (Hr2.out ▸ lwy_in ax ay bx b_y _iax _iay _ibx _ib_y) _).mono ?_); rintro e w2 ⟨rfl, hn⟩)))
    replace hb := hb.trans (hn.mono hb.size)
    refine hK.out _ _ (up_iff.2 hb) ?_
    clear hK K; clear hn
    refine wpS_doL rfl ?_
    intro K hK
    go_wp2_with ((first | (go_at_call 22; (with_reducible refine (crtimes_is r1 r29 r31 Hr31.out (in64_I' (Hr1.out ▸ lwx_in ax ay bx b_y _iax _iay _ibx _ib_y)) (Hr29.out ▸ subv_in 0 r15)  _).mono ?_); rintro e w2 ⟨rfl, hn⟩) | (go_at_call 22; (with_reducible refine (crtimes_is r9 r30 r32 Hr32.out (Hr9.out ▸ wyx_in ax ay bx b_y _iax _iay _ibx _ib_y) (Hr30.out ▸ subv_in 0 r20)  _).mono ?_); rintro e w2 ⟨rfl, hn⟩) | (go_at_call 22; (with_reducible refine (crtimes_is r2 r29 r34 Hr34.out (in64_I' (Hr2.out ▸ lwy_in ax ay bx b_y _iax _iay _ibx _ib_y)) (Hr29.out ▸ subv_in 0 r15)  _).mono ?_); rintro e w2 ⟨rfl, hn⟩) | (go_at_call 22; (with_reducible refine (crtimes_is r10 r30 r35 Hr35.out (Hr10.out ▸ wyy_in ax ay bx b_y _iax _iay _ibx _ib_y) (Hr30.out ▸ subv_in 0 r20)  _).mono ?_); rintro e w2 ⟨rfl, hn⟩)))
    replace hb := hb.trans (hn.mono hb.size)
    refine hK.out _ _ (up_iff.2 hb) ?_
    clear hK K; clear hn
    refine wpS_doL rfl ?_
    intro K hK
    go_wp2_with ((first | (go_at_call 22; (with_reducible refine (crtimes_is r1 r29 r31 Hr31.out (in64_I' (Hr1.out ▸ lwx_in ax ay bx b_y _iax _iay _ibx _ib_y)) (Hr29.out ▸ subv_in 0 r15)  _).mono ?_); rintro e w2 ⟨rfl, hn⟩) | (go_at_call 22; (with_reducible refine (crtimes_is r9 r30 r32 Hr32.out (Hr9.out ▸ wyx_in ax ay bx b_y _iax _iay _ibx _ib_y) (Hr30.out ▸ subv_in 0 r20)  _).mono ?_); rintro e w2 ⟨rfl, hn⟩) | (go_at_call 22; (with_reducible refine (crtimes_is r2 r29 r34 Hr34.out (in64_I' (Hr2.out ▸ lwy_in ax ay bx b_y _iax _iay _ibx _ib_y)) (Hr29.out ▸ subv_in 0 r15)  _).mono ?_); rintro e w2 ⟨rfl, hn⟩) | (go_at_call 22; (with_reducible refine (crtimes_is r10 r30 r35 Hr35.out (Hr10.out ▸ wyy_in ax ay bx b_y _iax _iay _ibx _ib_y) (Hr30.out ▸ subv_in 0 r20)  _).mono ?_); rintro e w2 ⟨rfl, hn⟩)))
    replace hb := hb.trans (hn.mono hb.size)
    refine hK.out _ _ (up_iff.2 hb) ?_
    clear hK K; clear hn
    refine wpS_doL rfl ?_
    intro K hK
    go_wp2_with ((first | (go_at_call 97; (with_reducible refine (crplus_is r31 r32 r33 Hr33.out (Hr31.out ▸ mulv_in r1 r29) (Hr32.out ▸ mulv_in r9 r30)  _).mono ?_); rintro e w2 ⟨rfl, hn⟩) | (go_at_call 97; (with_reducible refine (crplus_is r34 r35 r36 Hr36.out (Hr34.out ▸ mulv_in r2 r29) (Hr35.out ▸ mulv_in r10 r30)  _).mono ?_); rintro e w2 ⟨rfl, hn⟩)))
    replace hb := hb.trans (hn.mono hb.size)
    refine hK.out _ _ (up_iff.2 hb) ?_
    clear hK K; clear hn
    refine wpS_nil ?_
    simp only [List.drop_succ_cons, List.drop_zero]
    first | refine calls_w ?_ | refine name_world ?_ | refine list_world ?_ | refine post_world ?_
    intro U19 hU19
    first | subst hU19 | (rw [← hU19] at hb; clear hU19)
    clear c4_0 c4_1 l4 c8_0 c8_1 c8_2 c8_3 l8 c9_0 c9_1 c9_2 c9_3 l9 c12_0 c12_1 c12_2 c12_3 l12 c15_0 c15_1 c15_2 c15_3 l15; have k3 := Kk3.out.of hb; clear Kk3; have k4 := Kk4.out.of hb; clear Kk4; have k8 := Kk8.out.of hb; clear Kk8; have k9 := Kk9.out.of hb; clear Kk9; have k12 := Kk12.out.of hb; clear Kk12; have k15 := Kk15.out.of hb; clear Kk15
    replace hb0 := hb0.trans (hb.mono hb0.size)
    clear hb; obtain ⟨c3_0, c3_1, c3_2, c3_3, c3_4, c3_5, c3_6, c3_7, c3_8, c3_9, c3_10, c3_11⟩ := cel12 k3; obtain ⟨f3_0, f3_1, f3_2, f3_3, f3_4, f3_5, f3_6, f3_7, f3_8, f3_9, f3_10, f3_11⟩ := fre12 k3; have l3 := k3.lt
    have e0 : r33 = R0 := by rw [← HR0.out]; unfold cgx; (try rw [Hr1.out]); (try rw [Hr2.out]); (try rw [Hr3.out]); (try rw [Hr4.out]); (try rw [Hr5.out]); (try rw [Hr6.out]); (try rw [Hr7.out]); (try rw [Hr8.out]); (try rw [Hr9.out]); (try rw [Hr10.out]); (try rw [Hr11.out]); (try rw [Hr12.out]); (try rw [Hr13.out]); (try rw [Hr14.out]); (try rw [Hr15.out]); (try rw [Hr16.out]); (try rw [Hr17.out]); (try rw [Hr18.out]); (try rw [Hr19.out]); (try rw [Hr20.out]); (try rw [Hr21.out]); (try rw [hz22]); (try rw [Hr29.out]); (try rw [Hr30.out]); (try rw [Hr31.out]); (try rw [Hr32.out]); (try rw [Hr33.out]); (try rw [Hr34.out]); (try rw [Hr35.out]); (try rw [Hr36.out]); all_goals first | rfl | simp
    have e1 : r36 = R1 := by rw [← HR1.out]; unfold cgy; (try rw [Hr1.out]); (try rw [Hr2.out]); (try rw [Hr3.out]); (try rw [Hr4.out]); (try rw [Hr5.out]); (try rw [Hr6.out]); (try rw [Hr7.out]); (try rw [Hr8.out]); (try rw [Hr9.out]); (try rw [Hr10.out]); (try rw [Hr11.out]); (try rw [Hr12.out]); (try rw [Hr13.out]); (try rw [Hr14.out]); (try rw [Hr15.out]); (try rw [Hr16.out]); (try rw [Hr17.out]); (try rw [Hr18.out]); (try rw [Hr19.out]); (try rw [Hr20.out]); (try rw [Hr21.out]); (try rw [hz22]); (try rw [Hr29.out]); (try rw [Hr30.out]); (try rw [Hr31.out]); (try rw [Hr32.out]); (try rw [Hr33.out]); (try rw [Hr34.out]); (try rw [Hr35.out]); (try rw [Hr36.out]); all_goals first | rfl | simp
    have e2 : r29 = R2 := by rw [← HR2.out]; unfold cgw; (try rw [Hr1.out]); (try rw [Hr2.out]); (try rw [Hr3.out]); (try rw [Hr4.out]); (try rw [Hr5.out]); (try rw [Hr6.out]); (try rw [Hr7.out]); (try rw [Hr8.out]); (try rw [Hr9.out]); (try rw [Hr10.out]); (try rw [Hr11.out]); (try rw [Hr12.out]); (try rw [Hr13.out]); (try rw [Hr14.out]); (try rw [Hr15.out]); (try rw [Hr16.out]); (try rw [Hr17.out]); (try rw [Hr18.out]); (try rw [Hr19.out]); (try rw [Hr20.out]); (try rw [Hr21.out]); (try rw [hz22]); (try rw [Hr29.out]); (try rw [Hr30.out]); (try rw [Hr31.out]); (try rw [Hr32.out]); (try rw [Hr33.out]); (try rw [Hr34.out]); (try rw [Hr35.out]); (try rw [Hr36.out]); all_goals first | rfl | simp
    subst e0; subst e1; subst e2
    go_wp2
    clear c3_0 c3_1 c3_2 c3_3 c3_4 c3_5 c3_6 c3_7 c3_8 c3_9 c3_10 c3_11 f3_0 f3_1 f3_2 f3_3 f3_4 f3_5 f3_6 f3_7 f3_8 f3_9 f3_10 f3_11 l3
    first | refine post_world ?_
    intro V20 hV20
    clear k4 k8 k9 k12 k15; have D76 := Lib.hid k3.lt; have D77 := Lib.hid hb0.size
    have nk3 : Blk V20 (w.heap.size + 1 + 1) #[.int .u64 (wd0 r33), .int .u64 (wd1 r33), .int .u64 (wd2 r33), .int .u64 (wd3 r33), .int .u64 (wd0 r36), .int .u64 (wd1 r36), .int .u64 (wd2 r36), .int .u64 (wd3 r36), .int .u64 (wd0 r29), .int .u64 (wd1 r29), .int .u64 (wd2 r29), .int .u64 (wd3 r29)] 36 := by rw [hV20]; exact (blk_full _ [.int .u64 (wd0 r33), .int .u64 (wd1 r33), .int .u64 (wd2 r33), .int .u64 (wd3 r33), .int .u64 (wd0 r36), .int .u64 (wd1 r36), .int .u64 (wd2 r36), .int .u64 (wd3 r36), .int .u64 (wd0 r29), .int .u64 (wd1 r29), .int .u64 (wd2 r29), .int .u64 (wd3 r29)] k3 rfl)
    have nhb0 : Below w.heap.size w V20 := by rw [hV20]; exact (blw_setL hb0 (by omega) 0 [.int .u64 (wd0 r33), .int .u64 (wd1 r33), .int .u64 (wd2 r33), .int .u64 (wd3 r33), .int .u64 (wd0 r36), .int .u64 (wd1 r36), .int .u64 (wd2 r36), .int .u64 (wd3 r36), .int .u64 (wd0 r29), .int .u64 (wd1 r29), .int .u64 (wd2 r29), .int .u64 (wd3 r29)])
    clear k3; clear hb0; clear hV20; have k3 := nk3; clear nk3; have hb0 := nhb0; clear nhb0; obtain ⟨g3_0, g3_1, g3_2, g3_3, g3_4, g3_5, g3_6, g3_7, g3_8, g3_9, g3_10, g3_11⟩ := cel12 k3; clear k3
    simp [bodyPost, results, Try.results91, go_sem, g3_0, g3_1, g3_2, g3_3, g3_4, g3_5, g3_6, g3_7, g3_8, g3_9, g3_10, g3_11]
    first | exact hb0 | exact ⟨rfl, hb0⟩
end Go.Proofs.Ytkaolhlmimalkaa

namespace Go.Proofs.Ytkaolhlmimalkaa
open Go.RowKit

def mtk (ax : Int) (ay : Int) (bx : Int) (b_y : Int) (cx : Int) (cy : Int) (dx : Int) (dy : Int) : Int := (bif (sgR ax ay bx b_y) then (bif (sgR cx cy dx dy) then (bif (dotB ax ay bx b_y) then (bif (hldB cx cy dx dy (atx ax ay) (aty ax ay) (atw ax ay)) then 1 else (bif (dotB cx cy dx dy) then (bif (hldB ax ay bx b_y (atx cx cy) (aty cx cy) (atw cx cy)) then 1 else 0) else 0)) else (bif (dotB cx cy dx dy) then (bif (hldB ax ay bx b_y (atx cx cy) (aty cx cy) (atw cx cy)) then 1 else 0) else (bif ((slp ax ay bx b_y cx cy dx dy) == 0) then (bif ((way ax ay bx b_y cx cy) == 0) then (shk ax ay bx b_y cx cy dx dy) else 0) else (bif (spR (cgx ax ay bx b_y cx cy dx dy) (cgy ax ay bx b_y cx cy dx dy) (cgw ax ay bx b_y cx cy dx dy)) then (bif (hldB ax ay bx b_y (cgx ax ay bx b_y cx cy dx dy) (cgy ax ay bx b_y cx cy dx dy) (cgw ax ay bx b_y cx cy dx dy)) then (bif (hldB cx cy dx dy (cgx ax ay bx b_y cx cy dx dy) (cgy ax ay bx b_y cx cy dx dy) (cgw ax ay bx b_y cx cy dx dy)) then 1 else 0) else 0) else 0)))) else 0) else 0)

def mtx (ax : Int) (ay : Int) (bx : Int) (b_y : Int) (cx : Int) (cy : Int) (dx : Int) (dy : Int) : Int := (bif (sgR ax ay bx b_y) then (bif (sgR cx cy dx dy) then (bif (dotB ax ay bx b_y) then (bif (hldB cx cy dx dy (atx ax ay) (aty ax ay) (atw ax ay)) then (atx ax ay) else (bif (dotB cx cy dx dy) then (bif (hldB ax ay bx b_y (atx cx cy) (aty cx cy) (atw cx cy)) then (atx cx cy) else 0) else 0)) else (bif (dotB cx cy dx dy) then (bif (hldB ax ay bx b_y (atx cx cy) (aty cx cy) (atw cx cy)) then (atx cx cy) else 0) else (bif ((slp ax ay bx b_y cx cy dx dy) == 0) then (bif ((way ax ay bx b_y cx cy) == 0) then (shx ax ay bx b_y cx cy dx dy) else 0) else (bif (spR (cgx ax ay bx b_y cx cy dx dy) (cgy ax ay bx b_y cx cy dx dy) (cgw ax ay bx b_y cx cy dx dy)) then (bif (hldB ax ay bx b_y (cgx ax ay bx b_y cx cy dx dy) (cgy ax ay bx b_y cx cy dx dy) (cgw ax ay bx b_y cx cy dx dy)) then (bif (hldB cx cy dx dy (cgx ax ay bx b_y cx cy dx dy) (cgy ax ay bx b_y cx cy dx dy) (cgw ax ay bx b_y cx cy dx dy)) then (cgx ax ay bx b_y cx cy dx dy) else 0) else 0) else 0)))) else 0) else 0)

def mty (ax : Int) (ay : Int) (bx : Int) (b_y : Int) (cx : Int) (cy : Int) (dx : Int) (dy : Int) : Int := (bif (sgR ax ay bx b_y) then (bif (sgR cx cy dx dy) then (bif (dotB ax ay bx b_y) then (bif (hldB cx cy dx dy (atx ax ay) (aty ax ay) (atw ax ay)) then (aty ax ay) else (bif (dotB cx cy dx dy) then (bif (hldB ax ay bx b_y (atx cx cy) (aty cx cy) (atw cx cy)) then (aty cx cy) else 0) else 0)) else (bif (dotB cx cy dx dy) then (bif (hldB ax ay bx b_y (atx cx cy) (aty cx cy) (atw cx cy)) then (aty cx cy) else 0) else (bif ((slp ax ay bx b_y cx cy dx dy) == 0) then (bif ((way ax ay bx b_y cx cy) == 0) then (shy ax ay bx b_y cx cy dx dy) else 0) else (bif (spR (cgx ax ay bx b_y cx cy dx dy) (cgy ax ay bx b_y cx cy dx dy) (cgw ax ay bx b_y cx cy dx dy)) then (bif (hldB ax ay bx b_y (cgx ax ay bx b_y cx cy dx dy) (cgy ax ay bx b_y cx cy dx dy) (cgw ax ay bx b_y cx cy dx dy)) then (bif (hldB cx cy dx dy (cgx ax ay bx b_y cx cy dx dy) (cgy ax ay bx b_y cx cy dx dy) (cgw ax ay bx b_y cx cy dx dy)) then (cgy ax ay bx b_y cx cy dx dy) else 0) else 0) else 0)))) else 0) else 0)

def mtw (ax : Int) (ay : Int) (bx : Int) (b_y : Int) (cx : Int) (cy : Int) (dx : Int) (dy : Int) : Int := (bif (sgR ax ay bx b_y) then (bif (sgR cx cy dx dy) then (bif (dotB ax ay bx b_y) then (bif (hldB cx cy dx dy (atx ax ay) (aty ax ay) (atw ax ay)) then (atw ax ay) else (bif (dotB cx cy dx dy) then (bif (hldB ax ay bx b_y (atx cx cy) (aty cx cy) (atw cx cy)) then (atw cx cy) else 0) else 0)) else (bif (dotB cx cy dx dy) then (bif (hldB ax ay bx b_y (atx cx cy) (aty cx cy) (atw cx cy)) then (atw cx cy) else 0) else (bif ((slp ax ay bx b_y cx cy dx dy) == 0) then (bif ((way ax ay bx b_y cx cy) == 0) then (shw ax ay bx b_y cx cy dx dy) else 0) else (bif (spR (cgx ax ay bx b_y cx cy dx dy) (cgy ax ay bx b_y cx cy dx dy) (cgw ax ay bx b_y cx cy dx dy)) then (bif (hldB ax ay bx b_y (cgx ax ay bx b_y cx cy dx dy) (cgy ax ay bx b_y cx cy dx dy) (cgw ax ay bx b_y cx cy dx dy)) then (bif (hldB cx cy dx dy (cgx ax ay bx b_y cx cy dx dy) (cgy ax ay bx b_y cx cy dx dy) (cgw ax ay bx b_y cx cy dx dy)) then (cgw ax ay bx b_y cx cy dx dy) else 0) else 0) else 0)))) else 0) else 0)

theorem mtx_in (ax : Int) (ay : Int) (bx : Int) (b_y : Int) (cx : Int) (cy : Int) (dx : Int) (dy : Int) (_iax : In64 ax) (_iay : In64 ay) (_ibx : In64 bx) (_ib_y : In64 b_y) (_icx : In64 cx) (_icy : In64 cy) (_idx : In64 dx) (_idy : In64 dy) : InI (mtx ax ay bx b_y cx cy dx dy) := by
  unfold mtx
  exact (cond_in (cond_in (cond_in (cond_in (atx_in ax ay _iax _iay) (cond_in (cond_in (atx_in cx cy _icx _icy) in_0) in_0)) (cond_in (cond_in (atx_in cx cy _icx _icy) in_0) (cond_in (cond_in (shx_in ax ay bx b_y cx cy dx dy _iax _iay _ibx _ib_y _icx _icy _idx _idy) in_0) (cond_in (cond_in (cond_in (cgx_in ax ay bx b_y cx cy dx dy _iax _iay _ibx _ib_y _icx _icy _idx _idy) in_0) in_0) in_0)))) in_0) in_0)

theorem mty_in (ax : Int) (ay : Int) (bx : Int) (b_y : Int) (cx : Int) (cy : Int) (dx : Int) (dy : Int) (_iax : In64 ax) (_iay : In64 ay) (_ibx : In64 bx) (_ib_y : In64 b_y) (_icx : In64 cx) (_icy : In64 cy) (_idx : In64 dx) (_idy : In64 dy) : InI (mty ax ay bx b_y cx cy dx dy) := by
  unfold mty
  exact (cond_in (cond_in (cond_in (cond_in (aty_in ax ay _iax _iay) (cond_in (cond_in (aty_in cx cy _icx _icy) in_0) in_0)) (cond_in (cond_in (aty_in cx cy _icx _icy) in_0) (cond_in (cond_in (shy_in ax ay bx b_y cx cy dx dy _iax _iay _ibx _ib_y _icx _icy _idx _idy) in_0) (cond_in (cond_in (cond_in (cgy_in ax ay bx b_y cx cy dx dy _iax _iay _ibx _ib_y _icx _icy _idx _idy) in_0) in_0) in_0)))) in_0) in_0)

theorem mtw_in (ax : Int) (ay : Int) (bx : Int) (b_y : Int) (cx : Int) (cy : Int) (dx : Int) (dy : Int) (_iax : In64 ax) (_iay : In64 ay) (_ibx : In64 bx) (_ib_y : In64 b_y) (_icx : In64 cx) (_icy : In64 cy) (_idx : In64 dx) (_idy : In64 dy) : InI (mtw ax ay bx b_y cx cy dx dy) := by
  unfold mtw
  exact (cond_in (cond_in (cond_in (cond_in (atw_in ax ay _iax _iay) (cond_in (cond_in (atw_in cx cy _icx _icy) in_0) in_0)) (cond_in (cond_in (atw_in cx cy _icx _icy) in_0) (cond_in (cond_in (shw_in ax ay bx b_y cx cy dx dy _iax _iay _ibx _ib_y _icx _icy _idx _idy) in_0) (cond_in (cond_in (cond_in (cgw_in ax ay bx b_y cx cy dx dy _iax _iay _ibx _ib_y _icx _icy _idx _idy) in_0) in_0) in_0)))) in_0) in_0)

set_option maxRecDepth 100000 in
set_option maxHeartbeats 4000000 in

theorem Meet_is (ax : Int) (ay : Int) (bx : Int) (b_y : Int) (cx : Int) (cy : Int) (dx : Int) (dy : Int)  (R0 : Int) (R1 : Int) (R2 : Int) (R3 : Int) (hR0 : mtk ax ay bx b_y cx cy dx dy = R0) (hR1 : mtx ax ay bx b_y cx cy dx dy = R1) (hR2 : mty ax ay bx b_y cx cy dx dy = R2) (hR3 : mtw ax ay bx b_y cx cy dx dy = R3) (_iax : In64 ax) (_iay : In64 ay) (_ibx : In64 bx) (_ib_y : In64 b_y) (_icx : In64 cx) (_icy : In64 cy) (_idx : In64 dx) (_idy : In64 dy)  (w : World)  :
    Calls Try.prog 73 #[.agg #[.int .i64 ax, .int .i64 ay, .int .i64 bx, .int .i64 b_y], .agg #[.int .i64 cx, .int .i64 cy, .int .i64 dx, .int .i64 dy]] w fun e w' => e = .returned (.tuple #[.int .i64 R0, .agg #[.int .u64 (wd0 R1), .int .u64 (wd1 R1), .int .u64 (wd2 R1), .int .u64 (wd3 R1), .int .u64 (wd0 R2), .int .u64 (wd1 R2), .int .u64 (wd2 R2), .int .u64 (wd3 R2), .int .u64 (wd0 R3), .int .u64 (wd1 R3), .int .u64 (wd2 R3), .int .u64 (wd3 R3)]]) ∧ Below w.heap.size w w' := by

  have HR0 := Lib.hid hR0; clear hR0; have HR1 := Lib.hid hR1; clear hR1; have HR2 := Lib.hid hR2; clear hR2; have HR3 := Lib.hid hR3; clear hR3
  go_enter Try.func73, Try.ntmps73
  go_wp2_with fail
  first | refine calls_w ?_ | refine name_world ?_ | refine list_world ?_ | refine post_world ?_
  intro V1 hV1
  have hn : Below w.heap.size w V1 := by rw [hV1]; exact below_a3 _ _ _ _
  have nhb0 := hn
  have k1 : Blk V1 w.heap.size #[.int .i64 ax, .int .i64 ay, .int .i64 bx, .int .i64 b_y] 46 := by rw [hV1]; exact (((Blk.new _ _ _).alloc _).alloc _)
  have k2 : Blk V1 (w.heap.size + 1) #[.int .i64 cx, .int .i64 cy, .int .i64 dx, .int .i64 dy] 46 := by rw [hV1]; exact ((Blk.new1 _ _ _ _).alloc _)
  have k3 : Blk V1 (w.heap.size + 1 + 1) #[.int .u64 0, .int .u64 0, .int .u64 0, .int .u64 0, .int .u64 0, .int .u64 0, .int .u64 0, .int .u64 0, .int .u64 0, .int .u64 0, .int .u64 0, .int .u64 0] 36 := by rw [hV1]; exact (Blk.new2 _ _ _ _ _)
  clear hV1; have hb0 := nhb0; clear nhb0
  obtain ⟨z1, hz1⟩ : ∃ o_o : Bool, sgR ax ay bx b_y = o_o := ⟨_, rfl⟩
  have Hz1 := Lib.hid hz1; clear hz1
  refine (SegRight_is ax ay bx b_y z1 Hz1.out _iax _iay _ibx _ib_y  _).mono ?_
  rintro e U2 ⟨rfl, hn⟩
  replace k1 := k1.of hn; replace k2 := k2.of hn; replace k3 := k3.of hn
  replace hb0 := hb0.trans (hn.mono hb0.size)
  clear hn
  cases z1
  · have c3_0 : U2.cell? ⟨w.heap.size + 1 + 1, 0, none⟩ = some (.int .u64 0) := k3.cell 0
    have c3_1 : U2.cell? ⟨w.heap.size + 1 + 1, 1, none⟩ = some (.int .u64 0) := k3.cell 1; have c3_2 : U2.cell? ⟨w.heap.size + 1 + 1, 2, none⟩ = some (.int .u64 0) := k3.cell 2; have c3_3 : U2.cell? ⟨w.heap.size + 1 + 1, 3, none⟩ = some (.int .u64 0) := k3.cell 3; have c3_4 : U2.cell? ⟨w.heap.size + 1 + 1, 4, none⟩ = some (.int .u64 0) := k3.cell 4; have c3_5 : U2.cell? ⟨w.heap.size + 1 + 1, 5, none⟩ = some (.int .u64 0) := k3.cell 5; have c3_6 : U2.cell? ⟨w.heap.size + 1 + 1, 6, none⟩ = some (.int .u64 0) := k3.cell 6
    have c3_7 : U2.cell? ⟨w.heap.size + 1 + 1, 7, none⟩ = some (.int .u64 0) := k3.cell 7; have c3_8 : U2.cell? ⟨w.heap.size + 1 + 1, 8, none⟩ = some (.int .u64 0) := k3.cell 8; have c3_9 : U2.cell? ⟨w.heap.size + 1 + 1, 9, none⟩ = some (.int .u64 0) := k3.cell 9; have c3_10 : U2.cell? ⟨w.heap.size + 1 + 1, 10, none⟩ = some (.int .u64 0) := k3.cell 10; have c3_11 : U2.cell? ⟨w.heap.size + 1 + 1, 11, none⟩ = some (.int .u64 0) := k3.cell 11; obtain ⟨f3_0, f3_1, f3_2, f3_3, f3_4, f3_5, f3_6, f3_7, f3_8, f3_9, f3_10, f3_11⟩ := fre12 k3; have l3 := k3.lt
    have e0 : 0 = R0 := by rw [← HR0.out]; unfold mtk; (try rw [Hz1.out]); all_goals first | rfl | simp
    have e1 : 0 = R1 := by rw [← HR1.out]; unfold mtx; (try rw [Hz1.out]); all_goals first | rfl | simp
    have e2 : 0 = R2 := by rw [← HR2.out]; unfold mty; (try rw [Hz1.out]); all_goals first | rfl | simp
    have e3 : 0 = R3 := by rw [← HR3.out]; unfold mtw; (try rw [Hz1.out]); all_goals first | rfl | simp
    subst e0; subst e1; subst e2; subst e3
    go_wp2
    clear c3_0 c3_1 c3_2 c3_3 c3_4 c3_5 c3_6 c3_7 c3_8 c3_9 c3_10 c3_11 f3_0 f3_1 f3_2 f3_3 f3_4 f3_5 f3_6 f3_7 f3_8 f3_9 f3_10 f3_11 l3
    first | refine post_world ?_
    intro V3 hV3
    have D1 := Lib.hid k1.lt; have D2 := Lib.hid k2.lt; have D3 := Lib.hid k3.lt; have D4 := Lib.hid hb0.size; clear k1 k2
    have nk3 : Blk V3 (w.heap.size + 1 + 1) #[.int .u64 0, .int .u64 0, .int .u64 0, .int .u64 0, .int .u64 0, .int .u64 0, .int .u64 0, .int .u64 0, .int .u64 0, .int .u64 0, .int .u64 0, .int .u64 0] 36 := by rw [hV3]; exact (blk_full _ [.int .u64 0, .int .u64 0, .int .u64 0, .int .u64 0, .int .u64 0, .int .u64 0, .int .u64 0, .int .u64 0, .int .u64 0, .int .u64 0, .int .u64 0, .int .u64 0] k3 rfl)
    have nhb0 : Below w.heap.size w V3 := by rw [hV3]; exact (blw_setL hb0 (by omega) 0 [.int .u64 0, .int .u64 0, .int .u64 0, .int .u64 0, .int .u64 0, .int .u64 0, .int .u64 0, .int .u64 0, .int .u64 0, .int .u64 0, .int .u64 0, .int .u64 0])
    clear k3; clear hb0; clear hV3; have k3 := nk3; clear nk3; have hb0 := nhb0; clear nhb0; obtain ⟨g3_0, g3_1, g3_2, g3_3, g3_4, g3_5, g3_6, g3_7, g3_8, g3_9, g3_10, g3_11⟩ := cel12 k3; clear k3
    simp [bodyPost, results, Try.results73, go_sem, g3_0, g3_1, g3_2, g3_3, g3_4, g3_5, g3_6, g3_7, g3_8, g3_9, g3_10, g3_11, wd0_0, wd1_0, wd2_0, wd3_0]
    first | exact hb0 | exact ⟨rfl, hb0⟩
  · have c2_0 : U2.cell? ⟨w.heap.size + 1, 0, none⟩ = some (.int .i64 cx) := k2.cell 0
    have c2_1 : U2.cell? ⟨w.heap.size + 1, 1, none⟩ = some (.int .i64 cy) := k2.cell 1; have c2_2 : U2.cell? ⟨w.heap.size + 1, 2, none⟩ = some (.int .i64 dx) := k2.cell 2; have c2_3 : U2.cell? ⟨w.heap.size + 1, 3, none⟩ = some (.int .i64 dy) := k2.cell 3; have l2 := k2.lt
    go_wp2_with fail
    clear c2_0 c2_1 c2_2 c2_3 l2
    obtain ⟨z2, hz2⟩ : ∃ o_o : Bool, sgR cx cy dx dy = o_o := ⟨_, rfl⟩
    have Hz2 := Lib.hid hz2; clear hz2
    refine (SegRight_is cx cy dx dy z2 Hz2.out _icx _icy _idx _idy  _).mono ?_
    rintro e U4 ⟨rfl, hn⟩
    replace k1 := k1.of hn; replace k2 := k2.of hn; replace k3 := k3.of hn
    replace hb0 := hb0.trans (hn.mono hb0.size)
    clear hn
    cases z2
    · have c3_0 : U4.cell? ⟨w.heap.size + 1 + 1, 0, none⟩ = some (.int .u64 0) := k3.cell 0
      have c3_1 : U4.cell? ⟨w.heap.size + 1 + 1, 1, none⟩ = some (.int .u64 0) := k3.cell 1; have c3_2 : U4.cell? ⟨w.heap.size + 1 + 1, 2, none⟩ = some (.int .u64 0) := k3.cell 2; have c3_3 : U4.cell? ⟨w.heap.size + 1 + 1, 3, none⟩ = some (.int .u64 0) := k3.cell 3; have c3_4 : U4.cell? ⟨w.heap.size + 1 + 1, 4, none⟩ = some (.int .u64 0) := k3.cell 4; have c3_5 : U4.cell? ⟨w.heap.size + 1 + 1, 5, none⟩ = some (.int .u64 0) := k3.cell 5; have c3_6 : U4.cell? ⟨w.heap.size + 1 + 1, 6, none⟩ = some (.int .u64 0) := k3.cell 6
      have c3_7 : U4.cell? ⟨w.heap.size + 1 + 1, 7, none⟩ = some (.int .u64 0) := k3.cell 7; have c3_8 : U4.cell? ⟨w.heap.size + 1 + 1, 8, none⟩ = some (.int .u64 0) := k3.cell 8; have c3_9 : U4.cell? ⟨w.heap.size + 1 + 1, 9, none⟩ = some (.int .u64 0) := k3.cell 9; have c3_10 : U4.cell? ⟨w.heap.size + 1 + 1, 10, none⟩ = some (.int .u64 0) := k3.cell 10; have c3_11 : U4.cell? ⟨w.heap.size + 1 + 1, 11, none⟩ = some (.int .u64 0) := k3.cell 11; obtain ⟨f3_0, f3_1, f3_2, f3_3, f3_4, f3_5, f3_6, f3_7, f3_8, f3_9, f3_10, f3_11⟩ := fre12 k3; have l3 := k3.lt
      have e0 : 0 = R0 := by rw [← HR0.out]; unfold mtk; (try rw [Hz1.out]); (try rw [Hz2.out]); all_goals first | rfl | simp
      have e1 : 0 = R1 := by rw [← HR1.out]; unfold mtx; (try rw [Hz1.out]); (try rw [Hz2.out]); all_goals first | rfl | simp
      have e2 : 0 = R2 := by rw [← HR2.out]; unfold mty; (try rw [Hz1.out]); (try rw [Hz2.out]); all_goals first | rfl | simp
      have e3 : 0 = R3 := by rw [← HR3.out]; unfold mtw; (try rw [Hz1.out]); (try rw [Hz2.out]); all_goals first | rfl | simp
      subst e0; subst e1; subst e2; subst e3
      go_wp2
      clear c3_0 c3_1 c3_2 c3_3 c3_4 c3_5 c3_6 c3_7 c3_8 c3_9 c3_10 c3_11 f3_0 f3_1 f3_2 f3_3 f3_4 f3_5 f3_6 f3_7 f3_8 f3_9 f3_10 f3_11 l3
      first | refine post_world ?_
      intro V5 hV5
      have D5 := Lib.hid k1.lt; have D6 := Lib.hid k2.lt; have D7 := Lib.hid k3.lt; have D8 := Lib.hid hb0.size; clear k1 k2
      have nk3 : Blk V5 (w.heap.size + 1 + 1) #[.int .u64 0, .int .u64 0, .int .u64 0, .int .u64 0, .int .u64 0, .int .u64 0, .int .u64 0, .int .u64 0, .int .u64 0, .int .u64 0, .int .u64 0, .int .u64 0] 36 := by rw [hV5]; exact (blk_full _ [.int .u64 0, .int .u64 0, .int .u64 0, .int .u64 0, .int .u64 0, .int .u64 0, .int .u64 0, .int .u64 0, .int .u64 0, .int .u64 0, .int .u64 0, .int .u64 0] k3 rfl)
      have nhb0 : Below w.heap.size w V5 := by rw [hV5]; exact (blw_setL hb0 (by omega) 0 [.int .u64 0, .int .u64 0, .int .u64 0, .int .u64 0, .int .u64 0, .int .u64 0, .int .u64 0, .int .u64 0, .int .u64 0, .int .u64 0, .int .u64 0, .int .u64 0])
      clear k3; clear hb0; clear hV5; have k3 := nk3; clear nk3; have hb0 := nhb0; clear nhb0; obtain ⟨g3_0, g3_1, g3_2, g3_3, g3_4, g3_5, g3_6, g3_7, g3_8, g3_9, g3_10, g3_11⟩ := cel12 k3; clear k3
      simp [bodyPost, results, Try.results73, go_sem, g3_0, g3_1, g3_2, g3_3, g3_4, g3_5, g3_6, g3_7, g3_8, g3_9, g3_10, g3_11, wd0_0, wd1_0, wd2_0, wd3_0]
      first | exact hb0 | exact ⟨rfl, hb0⟩
    · go_wp2_with fail
      obtain ⟨z3, hz3⟩ : ∃ o_o : Bool, dotB ax ay bx b_y = o_o := ⟨_, rfl⟩
      have Hz3 := Lib.hid hz3; clear hz3
      cases z3
      · have c1_0 : U4.cell? ⟨w.heap.size, 0, none⟩ = some (.int .i64 ax) := k1.cell 0
        have c1_1 : U4.cell? ⟨w.heap.size, 1, none⟩ = some (.int .i64 ay) := k1.cell 1; have c1_2 : U4.cell? ⟨w.heap.size, 2, none⟩ = some (.int .i64 bx) := k1.cell 2; have c1_3 : U4.cell? ⟨w.heap.size, 3, none⟩ = some (.int .i64 b_y) := k1.cell 3; have l1 := k1.lt; have Kk1 := Lib.hid k1; clear k1; have Kk2 := Lib.hid k2; clear k2; have Kk3 := Lib.hid k3; clear k3
        refine wp_region_up U4.heap.size 7 [(true, 0), (false, 1), (true, 2), (true, 3), (true, 4), (true, 5), (false, 6)] (by kernel_rfl) (by kernel_rfl) (fun _ _ d _ _ h => by cases d <;> exact h) ?_
        have hb : Below U4.heap.size U4 U4.drew := (Below.refl _ _).drew
        refine wpS_takeL rfl rfl ?_
        go_big_quiet_step (rfl)
        refine wpQuiet_nil ?_
        refine wpS_doL rfl ?_
        intro K hK
        go_wp2_with ((go_at_call 87; (with_reducible refine (dot_is ax ay bx b_y false Hz3.out _iax _iay _ibx _ib_y  _).mono ?_); rintro e w2 ⟨rfl, hn⟩))
        replace hb := hb.trans (hn.mono hb.size)
        refine hK.out _ _ (up_iff.2 hb) ?_
        clear hK K; clear hn
        iterate 4
          refine wpS_takeL rfl rfl ?_
          go_big_quiet_step (rfl)
          refine wpQuiet_nil ?_
        refine wpS_doL rfl ?_
        intro K hK
        go_wp2_with ((go_at_call 87; (with_reducible refine (dot_is ax ay bx b_y false Hz3.out _iax _iay _ibx _ib_y  _).mono ?_); rintro e w2 ⟨rfl, hn⟩))
        try replace hb := hb.trans (hn.mono hb.size)
        refine hK.out _ _ (up_iff.2 hb) ?_
        clear hK K
        try clear hn
        refine wpS_nil ?_
        simp only [List.drop_succ_cons, List.drop_zero]
        first | refine calls_w ?_ | refine name_world ?_ | refine list_world ?_ | refine post_world ?_
        intro U6 hU6
        first | subst hU6 | (rw [← hU6] at hb; clear hU6)
        clear c1_0 c1_1 c1_2 c1_3 l1; have k1 := Kk1.out.of hb; clear Kk1; have k2 := Kk2.out.of hb; clear Kk2; have k3 := Kk3.out.of hb; clear Kk3
        replace hb0 := hb0.trans (hb.mono hb0.size)
        clear hb
        go_wp2_with fail
        obtain ⟨z4, hz4⟩ : ∃ o_o : Bool, dotB cx cy dx dy = o_o := ⟨_, rfl⟩
        have Hz4 := Lib.hid hz4; clear hz4
        cases z4
        · have c2_0 : U6.cell? ⟨w.heap.size + 1, 0, none⟩ = some (.int .i64 cx) := k2.cell 0
          have c2_1 : U6.cell? ⟨w.heap.size + 1, 1, none⟩ = some (.int .i64 cy) := k2.cell 1; have c2_2 : U6.cell? ⟨w.heap.size + 1, 2, none⟩ = some (.int .i64 dx) := k2.cell 2; have c2_3 : U6.cell? ⟨w.heap.size + 1, 3, none⟩ = some (.int .i64 dy) := k2.cell 3; have l2 := k2.lt; have Kk1 := Lib.hid k1; clear k1; have Kk2 := Lib.hid k2; clear k2; have Kk3 := Lib.hid k3; clear k3
          refine wp_region_up U6.heap.size 7 [(true, 0), (false, 1), (true, 2), (true, 3), (true, 4), (true, 5), (false, 6)] (by kernel_rfl) (by kernel_rfl) (fun _ _ d _ _ h => by cases d <;> exact h) ?_
          have hb : Below U6.heap.size U6 U6.drew := (Below.refl _ _).drew
          refine wpS_takeL rfl rfl ?_
          go_big_quiet_step (rfl)
          refine wpQuiet_nil ?_
          refine wpS_doL rfl ?_
          intro K hK
          go_wp2_with ((go_at_call 87; (with_reducible refine (dot_is cx cy dx dy false Hz4.out _icx _icy _idx _idy  _).mono ?_); rintro e w2 ⟨rfl, hn⟩))
          replace hb := hb.trans (hn.mono hb.size)
          refine hK.out _ _ (up_iff.2 hb) ?_
          clear hK K; clear hn
          iterate 4
            refine wpS_takeL rfl rfl ?_
            go_big_quiet_step (rfl)
            refine wpQuiet_nil ?_
          refine wpS_doL rfl ?_
          intro K hK
          go_wp2_with ((go_at_call 87; (with_reducible refine (dot_is cx cy dx dy false Hz4.out _icx _icy _idx _idy  _).mono ?_); rintro e w2 ⟨rfl, hn⟩))
          try replace hb := hb.trans (hn.mono hb.size)
          refine hK.out _ _ (up_iff.2 hb) ?_
          clear hK K
          try clear hn
          refine wpS_nil ?_
          simp only [List.drop_succ_cons, List.drop_zero]
          first | refine calls_w ?_ | refine name_world ?_ | refine list_world ?_ | refine post_world ?_
          intro U7 hU7
          first | subst hU7 | (rw [← hU7] at hb; clear hU7)
          clear c2_0 c2_1 c2_2 c2_3 l2; have k1 := Kk1.out.of hb; clear Kk1; have k2 := Kk2.out.of hb; clear Kk2; have k3 := Kk3.out.of hb; clear Kk3
          replace hb0 := hb0.trans (hb.mono hb0.size)
          clear hb; have c1_0 : U7.cell? ⟨w.heap.size, 0, none⟩ = some (.int .i64 ax) := k1.cell 0; have c1_1 : U7.cell? ⟨w.heap.size, 1, none⟩ = some (.int .i64 ay) := k1.cell 1; have c1_2 : U7.cell? ⟨w.heap.size, 2, none⟩ = some (.int .i64 bx) := k1.cell 2; have c1_3 : U7.cell? ⟨w.heap.size, 3, none⟩ = some (.int .i64 b_y) := k1.cell 3; have l1 := k1.lt
          go_wp2_with fail
          clear c1_0 c1_1 c1_2 c1_3 l1
          refine (dot_is ax ay bx b_y false Hz3.out _iax _iay _ibx _ib_y  _).mono ?_
          rintro e U8 ⟨rfl, hn⟩
          replace k1 := k1.of hn; replace k2 := k2.of hn; replace k3 := k3.of hn
          replace hb0 := hb0.trans (hn.mono hb0.size)
          clear hn; have c2_0 : U8.cell? ⟨w.heap.size + 1, 0, none⟩ = some (.int .i64 cx) := k2.cell 0; have c2_1 : U8.cell? ⟨w.heap.size + 1, 1, none⟩ = some (.int .i64 cy) := k2.cell 1; have c2_2 : U8.cell? ⟨w.heap.size + 1, 2, none⟩ = some (.int .i64 dx) := k2.cell 2; have c2_3 : U8.cell? ⟨w.heap.size + 1, 3, none⟩ = some (.int .i64 dy) := k2.cell 3; have l2 := k2.lt
          go_wp2_with fail
          clear c2_0 c2_1 c2_2 c2_3 l2
          refine (dot_is cx cy dx dy false Hz4.out _icx _icy _idx _idy  _).mono ?_
          rintro e U9 ⟨rfl, hn⟩
          replace k1 := k1.of hn; replace k2 := k2.of hn; replace k3 := k3.of hn
          replace hb0 := hb0.trans (hn.mono hb0.size)
          clear hn; have c1_0 : U9.cell? ⟨w.heap.size, 0, none⟩ = some (.int .i64 ax) := k1.cell 0; have c1_1 : U9.cell? ⟨w.heap.size, 1, none⟩ = some (.int .i64 ay) := k1.cell 1; have c1_2 : U9.cell? ⟨w.heap.size, 2, none⟩ = some (.int .i64 bx) := k1.cell 2; have c1_3 : U9.cell? ⟨w.heap.size, 3, none⟩ = some (.int .i64 b_y) := k1.cell 3; have l1 := k1.lt; have c2_0 : U9.cell? ⟨w.heap.size + 1, 0, none⟩ = some (.int .i64 cx) := k2.cell 0; have c2_1 : U9.cell? ⟨w.heap.size + 1, 1, none⟩ = some (.int .i64 cy) := k2.cell 1; have c2_2 : U9.cell? ⟨w.heap.size + 1, 2, none⟩ = some (.int .i64 dx) := k2.cell 2
          have c2_3 : U9.cell? ⟨w.heap.size + 1, 3, none⟩ = some (.int .i64 dy) := k2.cell 3; have l2 := k2.lt
          go_wp2_with fail
          clear c1_0 c1_1 c1_2 c1_3 l1 c2_0 c2_1 c2_2 c2_3 l2
          obtain ⟨r5, hr5⟩ : ∃ o_o : Int, slp ax ay bx b_y cx cy dx dy = o_o := ⟨_, rfl⟩
          have Hr5 := Lib.hid hr5; clear hr5
          refine (Slope_is ax ay bx b_y cx cy dx dy r5 Hr5.out _iax _iay _ibx _ib_y _icx _icy _idx _idy  _).mono ?_
          rintro e U10 ⟨rfl, hn⟩
          replace k1 := k1.of hn; replace k2 := k2.of hn; replace k3 := k3.of hn
          replace hb0 := hb0.trans (hn.mono hb0.size)
          clear hn
          obtain ⟨z6, hz6⟩ : ∃ o_o : Bool, (r5 == 0) = o_o := ⟨_, rfl⟩
          cases z6
          · have nz6 : ¬ r5 = 0 := by simpa using hz6
            have c1_0 : U10.cell? ⟨w.heap.size, 0, none⟩ = some (.int .i64 ax) := k1.cell 0; have c1_1 : U10.cell? ⟨w.heap.size, 1, none⟩ = some (.int .i64 ay) := k1.cell 1; have c1_2 : U10.cell? ⟨w.heap.size, 2, none⟩ = some (.int .i64 bx) := k1.cell 2; have c1_3 : U10.cell? ⟨w.heap.size, 3, none⟩ = some (.int .i64 b_y) := k1.cell 3; have l1 := k1.lt; have c2_0 : U10.cell? ⟨w.heap.size + 1, 0, none⟩ = some (.int .i64 cx) := k2.cell 0; have c2_1 : U10.cell? ⟨w.heap.size + 1, 1, none⟩ = some (.int .i64 cy) := k2.cell 1; have c2_2 : U10.cell? ⟨w.heap.size + 1, 2, none⟩ = some (.int .i64 dx) := k2.cell 2
            have c2_3 : U10.cell? ⟨w.heap.size + 1, 3, none⟩ = some (.int .i64 dy) := k2.cell 3; have l2 := k2.lt
            go_wp2_with fail
            clear c1_0 c1_1 c1_2 c1_3 l1 c2_0 c2_1 c2_2 c2_3 l2
            refine (Slope_is ax ay bx b_y cx cy dx dy r5 Hr5.out _iax _iay _ibx _ib_y _icx _icy _idx _idy  _).mono ?_
            rintro e U11 ⟨rfl, hn⟩
            replace k1 := k1.of hn; replace k2 := k2.of hn; replace k3 := k3.of hn
            replace hb0 := hb0.trans (hn.mono hb0.size)
            clear hn; have c1_0 : U11.cell? ⟨w.heap.size, 0, none⟩ = some (.int .i64 ax) := k1.cell 0; have c1_1 : U11.cell? ⟨w.heap.size, 1, none⟩ = some (.int .i64 ay) := k1.cell 1; have c1_2 : U11.cell? ⟨w.heap.size, 2, none⟩ = some (.int .i64 bx) := k1.cell 2; have c1_3 : U11.cell? ⟨w.heap.size, 3, none⟩ = some (.int .i64 b_y) := k1.cell 3; have l1 := k1.lt; have c2_0 : U11.cell? ⟨w.heap.size + 1, 0, none⟩ = some (.int .i64 cx) := k2.cell 0; have c2_1 : U11.cell? ⟨w.heap.size + 1, 1, none⟩ = some (.int .i64 cy) := k2.cell 1
            have c2_2 : U11.cell? ⟨w.heap.size + 1, 2, none⟩ = some (.int .i64 dx) := k2.cell 2; have c2_3 : U11.cell? ⟨w.heap.size + 1, 3, none⟩ = some (.int .i64 dy) := k2.cell 3; have l2 := k2.lt
            go_wp2_with fail
            clear c1_0 c1_1 c1_2 c1_3 l1 c2_0 c2_1 c2_2 c2_3 l2
            obtain ⟨r7, hr7⟩ : ∃ o_o : Int, cgx ax ay bx b_y cx cy dx dy = o_o := ⟨_, rfl⟩
            have Hr7 := Lib.hid hr7; clear hr7
            obtain ⟨r8, hr8⟩ : ∃ o_o : Int, cgy ax ay bx b_y cx cy dx dy = o_o := ⟨_, rfl⟩
            have Hr8 := Lib.hid hr8; clear hr8
            obtain ⟨r9, hr9⟩ : ∃ o_o : Int, cgw ax ay bx b_y cx cy dx dy = o_o := ⟨_, rfl⟩
            have Hr9 := Lib.hid hr9; clear hr9
            refine (crossing_is ax ay bx b_y cx cy dx dy r7 r8 r9 Hr7.out Hr8.out Hr9.out _iax _iay _ibx _ib_y _icx _icy _idx _idy  _).mono ?_
            rintro e U12 ⟨rfl, hn⟩
            replace k1 := k1.of hn; replace k2 := k2.of hn; replace k3 := k3.of hn
            replace hb0 := hb0.trans (hn.mono hb0.size)
            clear hn
            go_wp2_with fail
            first | refine calls_w ?_ | refine name_world ?_ | refine list_world ?_ | refine post_world ?_
            intro V13 hV13
            have D9 := Lib.hid k1.lt; have D10 := Lib.hid k2.lt; have D11 := Lib.hid k3.lt; have D12 := Lib.hid hb0.size
            have hn : Below U12.heap.size U12 V13 := by rw [hV13]; exact below_a1 _ _
            have nk1 := k1.of hn; have nk2 := k2.of hn; have nk3 := k3.of hn
            have nhb0 := hb0.trans (hn.mono hb0.size)
            clear hn
            have k4 : Blk V13 U12.heap.size #[.int .u64 (wd0 r7), .int .u64 (wd1 r7), .int .u64 (wd2 r7), .int .u64 (wd3 r7), .int .u64 (wd0 r8), .int .u64 (wd1 r8), .int .u64 (wd2 r8), .int .u64 (wd3 r8), .int .u64 (wd0 r9), .int .u64 (wd1 r9), .int .u64 (wd2 r9), .int .u64 (wd3 r9)] 36 := by rw [hV13]; exact (Blk.new _ _ _)
            clear k1 k2 k3; clear hb0; clear hV13; have k1 := nk1; clear nk1; have k2 := nk2; clear nk2; have k3 := nk3; clear nk3; have hb0 := nhb0; clear nhb0
            obtain ⟨z10, hz10⟩ : ∃ o_o : Bool, spR r7 r8 r9 = o_o := ⟨_, rfl⟩
            have Hz10 := Lib.hid hz10; clear hz10
            refine (SpRight_is r7 r8 r9 z10 Hz10.out (Hr7.out ▸ cgx_in ax ay bx b_y cx cy dx dy _iax _iay _ibx _ib_y _icx _icy _idx _idy) (Hr8.out ▸ cgy_in ax ay bx b_y cx cy dx dy _iax _iay _ibx _ib_y _icx _icy _idx _idy) (Hr9.out ▸ cgw_in ax ay bx b_y cx cy dx dy _iax _iay _ibx _ib_y _icx _icy _idx _idy)  _).mono ?_
            rintro e U14 ⟨rfl, hn⟩
            replace k1 := k1.of hn; replace k2 := k2.of hn; replace k3 := k3.of hn; replace k4 := k4.of hn
            replace hb0 := hb0.trans (hn.mono hb0.size)
            clear hn
            cases z10
            · have c3_0 : U14.cell? ⟨w.heap.size + 1 + 1, 0, none⟩ = some (.int .u64 0) := k3.cell 0
              have c3_1 : U14.cell? ⟨w.heap.size + 1 + 1, 1, none⟩ = some (.int .u64 0) := k3.cell 1; have c3_2 : U14.cell? ⟨w.heap.size + 1 + 1, 2, none⟩ = some (.int .u64 0) := k3.cell 2; have c3_3 : U14.cell? ⟨w.heap.size + 1 + 1, 3, none⟩ = some (.int .u64 0) := k3.cell 3; have c3_4 : U14.cell? ⟨w.heap.size + 1 + 1, 4, none⟩ = some (.int .u64 0) := k3.cell 4; have c3_5 : U14.cell? ⟨w.heap.size + 1 + 1, 5, none⟩ = some (.int .u64 0) := k3.cell 5; have c3_6 : U14.cell? ⟨w.heap.size + 1 + 1, 6, none⟩ = some (.int .u64 0) := k3.cell 6
              have c3_7 : U14.cell? ⟨w.heap.size + 1 + 1, 7, none⟩ = some (.int .u64 0) := k3.cell 7; have c3_8 : U14.cell? ⟨w.heap.size + 1 + 1, 8, none⟩ = some (.int .u64 0) := k3.cell 8; have c3_9 : U14.cell? ⟨w.heap.size + 1 + 1, 9, none⟩ = some (.int .u64 0) := k3.cell 9; have c3_10 : U14.cell? ⟨w.heap.size + 1 + 1, 10, none⟩ = some (.int .u64 0) := k3.cell 10; have c3_11 : U14.cell? ⟨w.heap.size + 1 + 1, 11, none⟩ = some (.int .u64 0) := k3.cell 11; obtain ⟨f3_0, f3_1, f3_2, f3_3, f3_4, f3_5, f3_6, f3_7, f3_8, f3_9, f3_10, f3_11⟩ := fre12 k3; have l3 := k3.lt
              have e0 : 0 = R0 := by rw [← HR0.out]; unfold mtk; (try rw [Hz1.out]); (try rw [Hz2.out]); (try rw [Hz3.out]); (try rw [Hz4.out]); (try rw [Hr5.out]); (try rw [hz6]); (try rw [Hr7.out]); (try rw [Hr8.out]); (try rw [Hr9.out]); (try rw [Hz10.out]); all_goals first | rfl | simp
              have e1 : 0 = R1 := by rw [← HR1.out]; unfold mtx; (try rw [Hz1.out]); (try rw [Hz2.out]); (try rw [Hz3.out]); (try rw [Hz4.out]); (try rw [Hr5.out]); (try rw [hz6]); (try rw [Hr7.out]); (try rw [Hr8.out]); (try rw [Hr9.out]); (try rw [Hz10.out]); all_goals first | rfl | simp
              have e2 : 0 = R2 := by rw [← HR2.out]; unfold mty; (try rw [Hz1.out]); (try rw [Hz2.out]); (try rw [Hz3.out]); (try rw [Hz4.out]); (try rw [Hr5.out]); (try rw [hz6]); (try rw [Hr7.out]); (try rw [Hr8.out]); (try rw [Hr9.out]); (try rw [Hz10.out]); all_goals first | rfl | simp
              have e3 : 0 = R3 := by rw [← HR3.out]; unfold mtw; (try rw [Hz1.out]); (try rw [Hz2.out]); (try rw [Hz3.out]); (try rw [Hz4.out]); (try rw [Hr5.out]); (try rw [hz6]); (try rw [Hr7.out]); (try rw [Hr8.out]); (try rw [Hr9.out]); (try rw [Hz10.out]); all_goals first | rfl | simp
              subst e0; subst e1; subst e2; subst e3
              go_wp2
              clear c3_0 c3_1 c3_2 c3_3 c3_4 c3_5 c3_6 c3_7 c3_8 c3_9 c3_10 c3_11 f3_0 f3_1 f3_2 f3_3 f3_4 f3_5 f3_6 f3_7 f3_8 f3_9 f3_10 f3_11 l3
              first | refine post_world ?_
              intro V15 hV15
              clear k1 k2; have D13 := Lib.hid k3.lt; have D14 := Lib.hid k4.lt; have D15 := Lib.hid hb0.size; clear k4
              have nk3 : Blk V15 (w.heap.size + 1 + 1) #[.int .u64 0, .int .u64 0, .int .u64 0, .int .u64 0, .int .u64 0, .int .u64 0, .int .u64 0, .int .u64 0, .int .u64 0, .int .u64 0, .int .u64 0, .int .u64 0] 36 := by rw [hV15]; exact (blk_full _ [.int .u64 0, .int .u64 0, .int .u64 0, .int .u64 0, .int .u64 0, .int .u64 0, .int .u64 0, .int .u64 0, .int .u64 0, .int .u64 0, .int .u64 0, .int .u64 0] k3 rfl)
              have nhb0 : Below w.heap.size w V15 := by rw [hV15]; exact (blw_setL hb0 (by omega) 0 [.int .u64 0, .int .u64 0, .int .u64 0, .int .u64 0, .int .u64 0, .int .u64 0, .int .u64 0, .int .u64 0, .int .u64 0, .int .u64 0, .int .u64 0, .int .u64 0])
              clear k3; clear hb0; clear hV15; have k3 := nk3; clear nk3; have hb0 := nhb0; clear nhb0; obtain ⟨g3_0, g3_1, g3_2, g3_3, g3_4, g3_5, g3_6, g3_7, g3_8, g3_9, g3_10, g3_11⟩ := cel12 k3; clear k3
              simp [bodyPost, results, Try.results73, go_sem, g3_0, g3_1, g3_2, g3_3, g3_4, g3_5, g3_6, g3_7, g3_8, g3_9, g3_10, g3_11, wd0_0, wd1_0, wd2_0, wd3_0]
              first | exact hb0 | exact ⟨rfl, hb0⟩
            · have c1_0 : U14.cell? ⟨w.heap.size, 0, none⟩ = some (.int .i64 ax) := k1.cell 0
              have c1_1 : U14.cell? ⟨w.heap.size, 1, none⟩ = some (.int .i64 ay) := k1.cell 1; have c1_2 : U14.cell? ⟨w.heap.size, 2, none⟩ = some (.int .i64 bx) := k1.cell 2; have c1_3 : U14.cell? ⟨w.heap.size, 3, none⟩ = some (.int .i64 b_y) := k1.cell 3; have l1 := k1.lt; obtain ⟨c4_0, c4_1, c4_2, c4_3, c4_4, c4_5, c4_6, c4_7, c4_8, c4_9, c4_10, c4_11⟩ := cel12 k4; have l4 := k4.lt
              go_wp2_with fail
              clear c1_0 c1_1 c1_2 c1_3 l1 c4_0 c4_1 c4_2 c4_3 c4_4 c4_5 c4_6 c4_7 c4_8 c4_9 c4_10 c4_11 l4
              obtain ⟨z11, hz11⟩ : ∃ o_o : Bool, hldB ax ay bx b_y r7 r8 r9 = o_o := ⟨_, rfl⟩
              have Hz11 := Lib.hid hz11; clear hz11
              refine (SegHolds_is ax ay bx b_y r7 r8 r9 z11 Hz11.out _iax _iay _ibx _ib_y (Hr7.out ▸ cgx_in ax ay bx b_y cx cy dx dy _iax _iay _ibx _ib_y _icx _icy _idx _idy) (Hr8.out ▸ cgy_in ax ay bx b_y cx cy dx dy _iax _iay _ibx _ib_y _icx _icy _idx _idy) (Hr9.out ▸ cgw_in ax ay bx b_y cx cy dx dy _iax _iay _ibx _ib_y _icx _icy _idx _idy)  _).mono ?_
              rintro e U16 ⟨rfl, hn⟩
              clear k1; replace k2 := k2.of hn; replace k3 := k3.of hn; replace k4 := k4.of hn
              replace hb0 := hb0.trans (hn.mono hb0.size)
              clear hn
              cases z11
              · have c3_0 : U16.cell? ⟨w.heap.size + 1 + 1, 0, none⟩ = some (.int .u64 0) := k3.cell 0
                have c3_1 : U16.cell? ⟨w.heap.size + 1 + 1, 1, none⟩ = some (.int .u64 0) := k3.cell 1; have c3_2 : U16.cell? ⟨w.heap.size + 1 + 1, 2, none⟩ = some (.int .u64 0) := k3.cell 2; have c3_3 : U16.cell? ⟨w.heap.size + 1 + 1, 3, none⟩ = some (.int .u64 0) := k3.cell 3; have c3_4 : U16.cell? ⟨w.heap.size + 1 + 1, 4, none⟩ = some (.int .u64 0) := k3.cell 4; have c3_5 : U16.cell? ⟨w.heap.size + 1 + 1, 5, none⟩ = some (.int .u64 0) := k3.cell 5; have c3_6 : U16.cell? ⟨w.heap.size + 1 + 1, 6, none⟩ = some (.int .u64 0) := k3.cell 6
                have c3_7 : U16.cell? ⟨w.heap.size + 1 + 1, 7, none⟩ = some (.int .u64 0) := k3.cell 7; have c3_8 : U16.cell? ⟨w.heap.size + 1 + 1, 8, none⟩ = some (.int .u64 0) := k3.cell 8; have c3_9 : U16.cell? ⟨w.heap.size + 1 + 1, 9, none⟩ = some (.int .u64 0) := k3.cell 9; have c3_10 : U16.cell? ⟨w.heap.size + 1 + 1, 10, none⟩ = some (.int .u64 0) := k3.cell 10; have c3_11 : U16.cell? ⟨w.heap.size + 1 + 1, 11, none⟩ = some (.int .u64 0) := k3.cell 11; obtain ⟨f3_0, f3_1, f3_2, f3_3, f3_4, f3_5, f3_6, f3_7, f3_8, f3_9, f3_10, f3_11⟩ := fre12 k3; have l3 := k3.lt
                have e0 : 0 = R0 := by rw [← HR0.out]; unfold mtk; (try rw [Hz1.out]); (try rw [Hz2.out]); (try rw [Hz3.out]); (try rw [Hz4.out]); (try rw [Hr5.out]); (try rw [hz6]); (try rw [Hr7.out]); (try rw [Hr8.out]); (try rw [Hr9.out]); (try rw [Hz10.out]); (try rw [Hz11.out]); all_goals first | rfl | simp
                have e1 : 0 = R1 := by rw [← HR1.out]; unfold mtx; (try rw [Hz1.out]); (try rw [Hz2.out]); (try rw [Hz3.out]); (try rw [Hz4.out]); (try rw [Hr5.out]); (try rw [hz6]); (try rw [Hr7.out]); (try rw [Hr8.out]); (try rw [Hr9.out]); (try rw [Hz10.out]); (try rw [Hz11.out]); all_goals first | rfl | simp
                have e2 : 0 = R2 := by rw [← HR2.out]; unfold mty; (try rw [Hz1.out]); (try rw [Hz2.out]); (try rw [Hz3.out]); (try rw [Hz4.out]); (try rw [Hr5.out]); (try rw [hz6]); (try rw [Hr7.out]); (try rw [Hr8.out]); (try rw [Hr9.out]); (try rw [Hz10.out]); (try rw [Hz11.out]); all_goals first | rfl | simp
                have e3 : 0 = R3 := by rw [← HR3.out]; unfold mtw; (try rw [Hz1.out]); (try rw [Hz2.out]); (try rw [Hz3.out]); (try rw [Hz4.out]); (try rw [Hr5.out]); (try rw [hz6]); (try rw [Hr7.out]); (try rw [Hr8.out]); (try rw [Hr9.out]); (try rw [Hz10.out]); (try rw [Hz11.out]); all_goals first | rfl | simp
                subst e0; subst e1; subst e2; subst e3
                go_wp2
                clear c3_0 c3_1 c3_2 c3_3 c3_4 c3_5 c3_6 c3_7 c3_8 c3_9 c3_10 c3_11 f3_0 f3_1 f3_2 f3_3 f3_4 f3_5 f3_6 f3_7 f3_8 f3_9 f3_10 f3_11 l3
                first | refine post_world ?_
                intro V17 hV17
                clear k2; have D16 := Lib.hid k3.lt; have D17 := Lib.hid k4.lt; have D18 := Lib.hid hb0.size; clear k4
                have nk3 : Blk V17 (w.heap.size + 1 + 1) #[.int .u64 0, .int .u64 0, .int .u64 0, .int .u64 0, .int .u64 0, .int .u64 0, .int .u64 0, .int .u64 0, .int .u64 0, .int .u64 0, .int .u64 0, .int .u64 0] 36 := by rw [hV17]; exact (blk_full _ [.int .u64 0, .int .u64 0, .int .u64 0, .int .u64 0, .int .u64 0, .int .u64 0, .int .u64 0, .int .u64 0, .int .u64 0, .int .u64 0, .int .u64 0, .int .u64 0] k3 rfl)
                have nhb0 : Below w.heap.size w V17 := by rw [hV17]; exact (blw_setL hb0 (by omega) 0 [.int .u64 0, .int .u64 0, .int .u64 0, .int .u64 0, .int .u64 0, .int .u64 0, .int .u64 0, .int .u64 0, .int .u64 0, .int .u64 0, .int .u64 0, .int .u64 0])
                clear k3; clear hb0; clear hV17; have k3 := nk3; clear nk3; have hb0 := nhb0; clear nhb0; obtain ⟨g3_0, g3_1, g3_2, g3_3, g3_4, g3_5, g3_6, g3_7, g3_8, g3_9, g3_10, g3_11⟩ := cel12 k3; clear k3
                simp [bodyPost, results, Try.results73, go_sem, g3_0, g3_1, g3_2, g3_3, g3_4, g3_5, g3_6, g3_7, g3_8, g3_9, g3_10, g3_11, wd0_0, wd1_0, wd2_0, wd3_0]
                first | exact hb0 | exact ⟨rfl, hb0⟩
              · have c2_0 : U16.cell? ⟨w.heap.size + 1, 0, none⟩ = some (.int .i64 cx) := k2.cell 0
                have c2_1 : U16.cell? ⟨w.heap.size + 1, 1, none⟩ = some (.int .i64 cy) := k2.cell 1; have c2_2 : U16.cell? ⟨w.heap.size + 1, 2, none⟩ = some (.int .i64 dx) := k2.cell 2; have c2_3 : U16.cell? ⟨w.heap.size + 1, 3, none⟩ = some (.int .i64 dy) := k2.cell 3; have l2 := k2.lt; obtain ⟨c4_0, c4_1, c4_2, c4_3, c4_4, c4_5, c4_6, c4_7, c4_8, c4_9, c4_10, c4_11⟩ := cel12 k4; have l4 := k4.lt
                go_wp2_with fail
                clear c2_0 c2_1 c2_2 c2_3 l2 c4_0 c4_1 c4_2 c4_3 c4_4 c4_5 c4_6 c4_7 c4_8 c4_9 c4_10 c4_11 l4
                obtain ⟨z12, hz12⟩ : ∃ o_o : Bool, hldB cx cy dx dy r7 r8 r9 = o_o := ⟨_, rfl⟩
                have Hz12 := Lib.hid hz12; clear hz12
                refine (SegHolds_is cx cy dx dy r7 r8 r9 z12 Hz12.out _icx _icy _idx _idy (Hr7.out ▸ cgx_in ax ay bx b_y cx cy dx dy _iax _iay _ibx _ib_y _icx _icy _idx _idy) (Hr8.out ▸ cgy_in ax ay bx b_y cx cy dx dy _iax _iay _ibx _ib_y _icx _icy _idx _idy) (Hr9.out ▸ cgw_in ax ay bx b_y cx cy dx dy _iax _iay _ibx _ib_y _icx _icy _idx _idy)  _).mono ?_
                rintro e U18 ⟨rfl, hn⟩
                clear k2; replace k3 := k3.of hn; replace k4 := k4.of hn
                replace hb0 := hb0.trans (hn.mono hb0.size)
                clear hn
                cases z12
                · have c3_0 : U18.cell? ⟨w.heap.size + 1 + 1, 0, none⟩ = some (.int .u64 0) := k3.cell 0
                  have c3_1 : U18.cell? ⟨w.heap.size + 1 + 1, 1, none⟩ = some (.int .u64 0) := k3.cell 1; have c3_2 : U18.cell? ⟨w.heap.size + 1 + 1, 2, none⟩ = some (.int .u64 0) := k3.cell 2; have c3_3 : U18.cell? ⟨w.heap.size + 1 + 1, 3, none⟩ = some (.int .u64 0) := k3.cell 3; have c3_4 : U18.cell? ⟨w.heap.size + 1 + 1, 4, none⟩ = some (.int .u64 0) := k3.cell 4; have c3_5 : U18.cell? ⟨w.heap.size + 1 + 1, 5, none⟩ = some (.int .u64 0) := k3.cell 5; have c3_6 : U18.cell? ⟨w.heap.size + 1 + 1, 6, none⟩ = some (.int .u64 0) := k3.cell 6
                  have c3_7 : U18.cell? ⟨w.heap.size + 1 + 1, 7, none⟩ = some (.int .u64 0) := k3.cell 7; have c3_8 : U18.cell? ⟨w.heap.size + 1 + 1, 8, none⟩ = some (.int .u64 0) := k3.cell 8; have c3_9 : U18.cell? ⟨w.heap.size + 1 + 1, 9, none⟩ = some (.int .u64 0) := k3.cell 9; have c3_10 : U18.cell? ⟨w.heap.size + 1 + 1, 10, none⟩ = some (.int .u64 0) := k3.cell 10; have c3_11 : U18.cell? ⟨w.heap.size + 1 + 1, 11, none⟩ = some (.int .u64 0) := k3.cell 11; obtain ⟨f3_0, f3_1, f3_2, f3_3, f3_4, f3_5, f3_6, f3_7, f3_8, f3_9, f3_10, f3_11⟩ := fre12 k3; have l3 := k3.lt
                  have e0 : 0 = R0 := by rw [← HR0.out]; unfold mtk; (try rw [Hz1.out]); (try rw [Hz2.out]); (try rw [Hz3.out]); (try rw [Hz4.out]); (try rw [Hr5.out]); (try rw [hz6]); (try rw [Hr7.out]); (try rw [Hr8.out]); (try rw [Hr9.out]); (try rw [Hz10.out]); (try rw [Hz11.out]); (try rw [Hz12.out]); all_goals first | rfl | simp
                  have e1 : 0 = R1 := by rw [← HR1.out]; unfold mtx; (try rw [Hz1.out]); (try rw [Hz2.out]); (try rw [Hz3.out]); (try rw [Hz4.out]); (try rw [Hr5.out]); (try rw [hz6]); (try rw [Hr7.out]); (try rw [Hr8.out]); (try rw [Hr9.out]); (try rw [Hz10.out]); (try rw [Hz11.out]); (try rw [Hz12.out]); all_goals first | rfl | simp
                  have e2 : 0 = R2 := by rw [← HR2.out]; unfold mty; (try rw [Hz1.out]); (try rw [Hz2.out]); (try rw [Hz3.out]); (try rw [Hz4.out]); (try rw [Hr5.out]); (try rw [hz6]); (try rw [Hr7.out]); (try rw [Hr8.out]); (try rw [Hr9.out]); (try rw [Hz10.out]); (try rw [Hz11.out]); (try rw [Hz12.out]); all_goals first | rfl | simp
                  have e3 : 0 = R3 := by rw [← HR3.out]; unfold mtw; (try rw [Hz1.out]); (try rw [Hz2.out]); (try rw [Hz3.out]); (try rw [Hz4.out]); (try rw [Hr5.out]); (try rw [hz6]); (try rw [Hr7.out]); (try rw [Hr8.out]); (try rw [Hr9.out]); (try rw [Hz10.out]); (try rw [Hz11.out]); (try rw [Hz12.out]); all_goals first | rfl | simp
                  subst e0; subst e1; subst e2; subst e3
                  go_wp2
                  clear c3_0 c3_1 c3_2 c3_3 c3_4 c3_5 c3_6 c3_7 c3_8 c3_9 c3_10 c3_11 f3_0 f3_1 f3_2 f3_3 f3_4 f3_5 f3_6 f3_7 f3_8 f3_9 f3_10 f3_11 l3
                  first | refine post_world ?_
                  intro V19 hV19
                  have D19 := Lib.hid k3.lt; have D20 := Lib.hid k4.lt; have D21 := Lib.hid hb0.size; clear k4
                  have nk3 : Blk V19 (w.heap.size + 1 + 1) #[.int .u64 0, .int .u64 0, .int .u64 0, .int .u64 0, .int .u64 0, .int .u64 0, .int .u64 0, .int .u64 0, .int .u64 0, .int .u64 0, .int .u64 0, .int .u64 0] 36 := by rw [hV19]; exact (blk_full _ [.int .u64 0, .int .u64 0, .int .u64 0, .int .u64 0, .int .u64 0, .int .u64 0, .int .u64 0, .int .u64 0, .int .u64 0, .int .u64 0, .int .u64 0, .int .u64 0] k3 rfl)
                  have nhb0 : Below w.heap.size w V19 := by rw [hV19]; exact (blw_setL hb0 (by omega) 0 [.int .u64 0, .int .u64 0, .int .u64 0, .int .u64 0, .int .u64 0, .int .u64 0, .int .u64 0, .int .u64 0, .int .u64 0, .int .u64 0, .int .u64 0, .int .u64 0])
                  clear k3; clear hb0; clear hV19; have k3 := nk3; clear nk3; have hb0 := nhb0; clear nhb0; obtain ⟨g3_0, g3_1, g3_2, g3_3, g3_4, g3_5, g3_6, g3_7, g3_8, g3_9, g3_10, g3_11⟩ := cel12 k3; clear k3
                  simp [bodyPost, results, Try.results73, go_sem, g3_0, g3_1, g3_2, g3_3, g3_4, g3_5, g3_6, g3_7, g3_8, g3_9, g3_10, g3_11, wd0_0, wd1_0, wd2_0, wd3_0]
                  first | exact hb0 | exact ⟨rfl, hb0⟩
                · go_wp2_with fail
                  obtain ⟨c3_0, c3_1, c3_2, c3_3, c3_4, c3_5, c3_6, c3_7, c3_8, c3_9, c3_10, c3_11⟩ := cel12 k3; obtain ⟨f3_0, f3_1, f3_2, f3_3, f3_4, f3_5, f3_6, f3_7, f3_8, f3_9, f3_10, f3_11⟩ := fre12 k3; have l3 := k3.lt; obtain ⟨c4_0, c4_1, c4_2, c4_3, c4_4, c4_5, c4_6, c4_7, c4_8, c4_9, c4_10, c4_11⟩ := cel12 k4; have l4 := k4.lt
                  have p4_3 : U12.heap.size ≠ (w.heap.size + 1 + 1) := (by have := D11.out; omega)
                  have Kk3 := Lib.hid k3; clear k3; have Kk4 := Lib.hid k4; clear k4
                  go_region
                  first | refine name_q ?_ | refine calls_w ?_ | refine name_world ?_ | refine list_world ?_ | refine post_world ?_
                  intro U20 hU20
                  clear c3_0 c3_1 c3_2 c3_3 c3_4 c3_5 c3_6 c3_7 c3_8 c3_9 c3_10 c3_11 f3_0 f3_1 f3_2 f3_3 f3_4 f3_5 f3_6 f3_7 f3_8 f3_9 f3_10 f3_11 l3 c4_0 c4_1 c4_2 c4_3 c4_4 c4_5 c4_6 c4_7 c4_8 c4_9 c4_10 c4_11 l4 p4_3
                  have k3 : Blk U20 (w.heap.size + 1 + 1) #[.int .u64 (wd0 r7), .int .u64 (wd1 r7), .int .u64 (wd2 r7), .int .u64 (wd3 r7), .int .u64 (wd0 r8), .int .u64 (wd1 r8), .int .u64 (wd2 r8), .int .u64 (wd3 r8), .int .u64 (wd0 r9), .int .u64 (wd1 r9), .int .u64 (wd2 r9), .int .u64 (wd3 r9)] 36 := by rw [hU20]; exact Blk.drew (blk_full _ [.int .u64 (wd0 r7), .int .u64 (wd1 r7), .int .u64 (wd2 r7), .int .u64 (wd3 r7), .int .u64 (wd0 r8), .int .u64 (wd1 r8), .int .u64 (wd2 r8), .int .u64 (wd3 r8), .int .u64 (wd0 r9), .int .u64 (wd1 r9), .int .u64 (wd2 r9), .int .u64 (wd3 r9)] Kk3.out rfl)
                  clear Kk3
                  have k4 : Blk U20 U12.heap.size #[.int .u64 (wd0 r7), .int .u64 (wd1 r7), .int .u64 (wd2 r7), .int .u64 (wd3 r7), .int .u64 (wd0 r8), .int .u64 (wd1 r8), .int .u64 (wd2 r8), .int .u64 (wd3 r8), .int .u64 (wd0 r9), .int .u64 (wd1 r9), .int .u64 (wd2 r9), .int .u64 (wd3 r9)] 36 := by rw [hU20]; exact Blk.drew (blk_setL Kk4.out (by have := D11.out; omega) 0 [.int .u64 (wd0 r7), .int .u64 (wd1 r7), .int .u64 (wd2 r7), .int .u64 (wd3 r7), .int .u64 (wd0 r8), .int .u64 (wd1 r8), .int .u64 (wd2 r8), .int .u64 (wd3 r8), .int .u64 (wd0 r9), .int .u64 (wd1 r9), .int .u64 (wd2 r9), .int .u64 (wd3 r9)])
                  clear Kk4
                  replace hb0 : Below w.heap.size w U20 := by rw [hU20]; exact Below.drew (blw_setL hb0 (by omega) 0 [.int .u64 (wd0 r7), .int .u64 (wd1 r7), .int .u64 (wd2 r7), .int .u64 (wd3 r7), .int .u64 (wd0 r8), .int .u64 (wd1 r8), .int .u64 (wd2 r8), .int .u64 (wd3 r8), .int .u64 (wd0 r9), .int .u64 (wd1 r9), .int .u64 (wd2 r9), .int .u64 (wd3 r9)])
                  clear hU20
                  have e0 : 1 = R0 := by rw [← HR0.out]; unfold mtk; (try rw [Hz1.out]); (try rw [Hz2.out]); (try rw [Hz3.out]); (try rw [Hz4.out]); (try rw [Hr5.out]); (try rw [hz6]); (try rw [Hr7.out]); (try rw [Hr8.out]); (try rw [Hr9.out]); (try rw [Hz10.out]); (try rw [Hz11.out]); (try rw [Hz12.out]); all_goals first | rfl | simp
                  have e1 : r7 = R1 := by rw [← HR1.out]; unfold mtx; (try rw [Hz1.out]); (try rw [Hz2.out]); (try rw [Hz3.out]); (try rw [Hz4.out]); (try rw [Hr5.out]); (try rw [hz6]); (try rw [Hr7.out]); (try rw [Hr8.out]); (try rw [Hr9.out]); (try rw [Hz10.out]); (try rw [Hz11.out]); (try rw [Hz12.out]); all_goals first | rfl | simp
                  have e2 : r8 = R2 := by rw [← HR2.out]; unfold mty; (try rw [Hz1.out]); (try rw [Hz2.out]); (try rw [Hz3.out]); (try rw [Hz4.out]); (try rw [Hr5.out]); (try rw [hz6]); (try rw [Hr7.out]); (try rw [Hr8.out]); (try rw [Hr9.out]); (try rw [Hz10.out]); (try rw [Hz11.out]); (try rw [Hz12.out]); all_goals first | rfl | simp
                  have e3 : r9 = R3 := by rw [← HR3.out]; unfold mtw; (try rw [Hz1.out]); (try rw [Hz2.out]); (try rw [Hz3.out]); (try rw [Hz4.out]); (try rw [Hr5.out]); (try rw [hz6]); (try rw [Hr7.out]); (try rw [Hr8.out]); (try rw [Hr9.out]); (try rw [Hz10.out]); (try rw [Hz11.out]); (try rw [Hz12.out]); all_goals first | rfl | simp
                  subst e0; subst e1; subst e2; subst e3
                  go_wp2
                  obtain ⟨g3_0, g3_1, g3_2, g3_3, g3_4, g3_5, g3_6, g3_7, g3_8, g3_9, g3_10, g3_11⟩ := cel12 k3; clear k3 k4
                  simp [bodyPost, results, Try.results73, go_sem, g3_0, g3_1, g3_2, g3_3, g3_4, g3_5, g3_6, g3_7, g3_8, g3_9, g3_10, g3_11]
                  first | exact hb0 | exact ⟨rfl, hb0⟩
          · obtain rfl : r5 = 0 := by simpa using hz6
            clear hz6; have c1_0 : U10.cell? ⟨w.heap.size, 0, none⟩ = some (.int .i64 ax) := k1.cell 0; have c1_1 : U10.cell? ⟨w.heap.size, 1, none⟩ = some (.int .i64 ay) := k1.cell 1; have c1_2 : U10.cell? ⟨w.heap.size, 2, none⟩ = some (.int .i64 bx) := k1.cell 2; have c1_3 : U10.cell? ⟨w.heap.size, 3, none⟩ = some (.int .i64 b_y) := k1.cell 3; have l1 := k1.lt; have c2_0 : U10.cell? ⟨w.heap.size + 1, 0, none⟩ = some (.int .i64 cx) := k2.cell 0; have c2_1 : U10.cell? ⟨w.heap.size + 1, 1, none⟩ = some (.int .i64 cy) := k2.cell 1; have l2 := k2.lt
            go_wp2_with fail
            clear c1_0 c1_1 c1_2 c1_3 l1 c2_0 c2_1 l2
            obtain ⟨r13, hr13⟩ : ∃ o_o : Int, way ax ay bx b_y cx cy = o_o := ⟨_, rfl⟩
            have Hr13 := Lib.hid hr13; clear hr13
            refine (Turn_v ax ay bx b_y cx cy r13 Hr13.out _).mono ?_
            rintro e U21 ⟨rfl, hn⟩
            replace k1 := k1.of hn; replace k2 := k2.of hn; replace k3 := k3.of hn
            replace hb0 := hb0.trans (hn.mono hb0.size)
            clear hn
            obtain ⟨z14, hz14⟩ : ∃ o_o : Bool, (r13 == 0) = o_o := ⟨_, rfl⟩
            cases z14
            · have nz14 : ¬ r13 = 0 := by simpa using hz14
              obtain ⟨c3_0, c3_1, c3_2, c3_3, c3_4, c3_5, c3_6, c3_7, c3_8, c3_9, c3_10, c3_11⟩ := cel12 k3; obtain ⟨f3_0, f3_1, f3_2, f3_3, f3_4, f3_5, f3_6, f3_7, f3_8, f3_9, f3_10, f3_11⟩ := fre12 k3; have l3 := k3.lt
              have e0 : 0 = R0 := by rw [← HR0.out]; unfold mtk; (try rw [Hz1.out]); (try rw [Hz2.out]); (try rw [Hz3.out]); (try rw [Hz4.out]); (try rw [Hr5.out]); (try rw [Hr13.out]); (try rw [hz14]); all_goals first | rfl | simp
              have e1 : 0 = R1 := by rw [← HR1.out]; unfold mtx; (try rw [Hz1.out]); (try rw [Hz2.out]); (try rw [Hz3.out]); (try rw [Hz4.out]); (try rw [Hr5.out]); (try rw [Hr13.out]); (try rw [hz14]); all_goals first | rfl | simp
              have e2 : 0 = R2 := by rw [← HR2.out]; unfold mty; (try rw [Hz1.out]); (try rw [Hz2.out]); (try rw [Hz3.out]); (try rw [Hz4.out]); (try rw [Hr5.out]); (try rw [Hr13.out]); (try rw [hz14]); all_goals first | rfl | simp
              have e3 : 0 = R3 := by rw [← HR3.out]; unfold mtw; (try rw [Hz1.out]); (try rw [Hz2.out]); (try rw [Hz3.out]); (try rw [Hz4.out]); (try rw [Hr5.out]); (try rw [Hr13.out]); (try rw [hz14]); all_goals first | rfl | simp
              subst e0; subst e1; subst e2; subst e3
              go_wp2
              clear c3_0 c3_1 c3_2 c3_3 c3_4 c3_5 c3_6 c3_7 c3_8 c3_9 c3_10 c3_11 f3_0 f3_1 f3_2 f3_3 f3_4 f3_5 f3_6 f3_7 f3_8 f3_9 f3_10 f3_11 l3
              first | refine post_world ?_
              intro V22 hV22
              have D22 := Lib.hid k1.lt; have D23 := Lib.hid k2.lt; have D24 := Lib.hid k3.lt; have D25 := Lib.hid hb0.size; clear k1 k2
              have nk3 : Blk V22 (w.heap.size + 1 + 1) #[.int .u64 0, .int .u64 0, .int .u64 0, .int .u64 0, .int .u64 0, .int .u64 0, .int .u64 0, .int .u64 0, .int .u64 0, .int .u64 0, .int .u64 0, .int .u64 0] 36 := by rw [hV22]; exact (blk_full _ [.int .u64 0, .int .u64 0, .int .u64 0, .int .u64 0, .int .u64 0, .int .u64 0, .int .u64 0, .int .u64 0, .int .u64 0, .int .u64 0, .int .u64 0, .int .u64 0] k3 rfl)
              have nhb0 : Below w.heap.size w V22 := by rw [hV22]; exact (blw_setL hb0 (by omega) 0 [.int .u64 0, .int .u64 0, .int .u64 0, .int .u64 0, .int .u64 0, .int .u64 0, .int .u64 0, .int .u64 0, .int .u64 0, .int .u64 0, .int .u64 0, .int .u64 0])
              clear k3; clear hb0; clear hV22; have k3 := nk3; clear nk3; have hb0 := nhb0; clear nhb0; obtain ⟨g3_0, g3_1, g3_2, g3_3, g3_4, g3_5, g3_6, g3_7, g3_8, g3_9, g3_10, g3_11⟩ := cel12 k3; clear k3
              simp [bodyPost, results, Try.results73, go_sem, g3_0, g3_1, g3_2, g3_3, g3_4, g3_5, g3_6, g3_7, g3_8, g3_9, g3_10, g3_11, wd0_0, wd1_0, wd2_0, wd3_0]
              first | exact hb0 | exact ⟨rfl, hb0⟩
            · obtain rfl : r13 = 0 := by simpa using hz14
              clear hz14; have c1_0 : U21.cell? ⟨w.heap.size, 0, none⟩ = some (.int .i64 ax) := k1.cell 0; have c1_1 : U21.cell? ⟨w.heap.size, 1, none⟩ = some (.int .i64 ay) := k1.cell 1; have c1_2 : U21.cell? ⟨w.heap.size, 2, none⟩ = some (.int .i64 bx) := k1.cell 2; have c1_3 : U21.cell? ⟨w.heap.size, 3, none⟩ = some (.int .i64 b_y) := k1.cell 3; have l1 := k1.lt; have c2_0 : U21.cell? ⟨w.heap.size + 1, 0, none⟩ = some (.int .i64 cx) := k2.cell 0; have c2_1 : U21.cell? ⟨w.heap.size + 1, 1, none⟩ = some (.int .i64 cy) := k2.cell 1
              have c2_2 : U21.cell? ⟨w.heap.size + 1, 2, none⟩ = some (.int .i64 dx) := k2.cell 2; have c2_3 : U21.cell? ⟨w.heap.size + 1, 3, none⟩ = some (.int .i64 dy) := k2.cell 3; have l2 := k2.lt
              go_wp2_with fail
              clear c1_0 c1_1 c1_2 c1_3 l1 c2_0 c2_1 c2_2 c2_3 l2
              refine (Slope_is ax ay bx b_y cx cy dx dy 0 Hr5.out _iax _iay _ibx _ib_y _icx _icy _idx _idy  _).mono ?_
              rintro e U23 ⟨rfl, hn⟩
              replace k1 := k1.of hn; replace k2 := k2.of hn; replace k3 := k3.of hn
              replace hb0 := hb0.trans (hn.mono hb0.size)
              clear hn; have c1_0 : U23.cell? ⟨w.heap.size, 0, none⟩ = some (.int .i64 ax) := k1.cell 0; have c1_1 : U23.cell? ⟨w.heap.size, 1, none⟩ = some (.int .i64 ay) := k1.cell 1; have c1_2 : U23.cell? ⟨w.heap.size, 2, none⟩ = some (.int .i64 bx) := k1.cell 2; have c1_3 : U23.cell? ⟨w.heap.size, 3, none⟩ = some (.int .i64 b_y) := k1.cell 3; have l1 := k1.lt; have c2_0 : U23.cell? ⟨w.heap.size + 1, 0, none⟩ = some (.int .i64 cx) := k2.cell 0; have c2_1 : U23.cell? ⟨w.heap.size + 1, 1, none⟩ = some (.int .i64 cy) := k2.cell 1
              have c2_2 : U23.cell? ⟨w.heap.size + 1, 2, none⟩ = some (.int .i64 dx) := k2.cell 2; have c2_3 : U23.cell? ⟨w.heap.size + 1, 3, none⟩ = some (.int .i64 dy) := k2.cell 3; have l2 := k2.lt
              go_wp2_with fail
              clear c1_0 c1_1 c1_2 c1_3 l1 c2_0 c2_1 c2_2 c2_3 l2
              obtain ⟨r15, hr15⟩ : ∃ o_o : Int, shk ax ay bx b_y cx cy dx dy = o_o := ⟨_, rfl⟩
              have Hr15 := Lib.hid hr15; clear hr15
              obtain ⟨r16, hr16⟩ : ∃ o_o : Int, shx ax ay bx b_y cx cy dx dy = o_o := ⟨_, rfl⟩
              have Hr16 := Lib.hid hr16; clear hr16
              obtain ⟨r17, hr17⟩ : ∃ o_o : Int, shy ax ay bx b_y cx cy dx dy = o_o := ⟨_, rfl⟩
              have Hr17 := Lib.hid hr17; clear hr17
              obtain ⟨r18, hr18⟩ : ∃ o_o : Int, shw ax ay bx b_y cx cy dx dy = o_o := ⟨_, rfl⟩
              have Hr18 := Lib.hid hr18; clear hr18
              refine (shared_is ax ay bx b_y cx cy dx dy r15 r16 r17 r18 Hr15.out Hr16.out Hr17.out Hr18.out _iax _iay _ibx _ib_y _icx _icy _idx _idy  _).mono ?_
              rintro e U24 ⟨rfl, hn⟩
              replace k1 := k1.of hn; replace k2 := k2.of hn; replace k3 := k3.of hn
              replace hb0 := hb0.trans (hn.mono hb0.size)
              clear hn; obtain ⟨c3_0, c3_1, c3_2, c3_3, c3_4, c3_5, c3_6, c3_7, c3_8, c3_9, c3_10, c3_11⟩ := cel12 k3; obtain ⟨f3_0, f3_1, f3_2, f3_3, f3_4, f3_5, f3_6, f3_7, f3_8, f3_9, f3_10, f3_11⟩ := fre12 k3; have l3 := k3.lt
              have e0 : r15 = R0 := by rw [← HR0.out]; unfold mtk; (try rw [Hz1.out]); (try rw [Hz2.out]); (try rw [Hz3.out]); (try rw [Hz4.out]); (try rw [Hr5.out]); (try rw [Hr13.out]); (try rw [Hr15.out]); (try rw [Hr16.out]); (try rw [Hr17.out]); (try rw [Hr18.out]); all_goals first | rfl | simp
              have e1 : r16 = R1 := by rw [← HR1.out]; unfold mtx; (try rw [Hz1.out]); (try rw [Hz2.out]); (try rw [Hz3.out]); (try rw [Hz4.out]); (try rw [Hr5.out]); (try rw [Hr13.out]); (try rw [Hr15.out]); (try rw [Hr16.out]); (try rw [Hr17.out]); (try rw [Hr18.out]); all_goals first | rfl | simp
              have e2 : r17 = R2 := by rw [← HR2.out]; unfold mty; (try rw [Hz1.out]); (try rw [Hz2.out]); (try rw [Hz3.out]); (try rw [Hz4.out]); (try rw [Hr5.out]); (try rw [Hr13.out]); (try rw [Hr15.out]); (try rw [Hr16.out]); (try rw [Hr17.out]); (try rw [Hr18.out]); all_goals first | rfl | simp
              have e3 : r18 = R3 := by rw [← HR3.out]; unfold mtw; (try rw [Hz1.out]); (try rw [Hz2.out]); (try rw [Hz3.out]); (try rw [Hz4.out]); (try rw [Hr5.out]); (try rw [Hr13.out]); (try rw [Hr15.out]); (try rw [Hr16.out]); (try rw [Hr17.out]); (try rw [Hr18.out]); all_goals first | rfl | simp
              subst e0; subst e1; subst e2; subst e3
              go_wp2
              clear c3_0 c3_1 c3_2 c3_3 c3_4 c3_5 c3_6 c3_7 c3_8 c3_9 c3_10 c3_11 f3_0 f3_1 f3_2 f3_3 f3_4 f3_5 f3_6 f3_7 f3_8 f3_9 f3_10 f3_11 l3
              first | refine post_world ?_
              intro V25 hV25
              have D26 := Lib.hid k1.lt; have D27 := Lib.hid k2.lt; have D28 := Lib.hid k3.lt; have D29 := Lib.hid hb0.size; clear k1 k2
              have nk3 : Blk V25 (w.heap.size + 1 + 1) #[.int .u64 (wd0 r16), .int .u64 (wd1 r16), .int .u64 (wd2 r16), .int .u64 (wd3 r16), .int .u64 (wd0 r17), .int .u64 (wd1 r17), .int .u64 (wd2 r17), .int .u64 (wd3 r17), .int .u64 (wd0 r18), .int .u64 (wd1 r18), .int .u64 (wd2 r18), .int .u64 (wd3 r18)] 36 := by rw [hV25]; exact (blk_full _ [.int .u64 (wd0 r16), .int .u64 (wd1 r16), .int .u64 (wd2 r16), .int .u64 (wd3 r16), .int .u64 (wd0 r17), .int .u64 (wd1 r17), .int .u64 (wd2 r17), .int .u64 (wd3 r17), .int .u64 (wd0 r18), .int .u64 (wd1 r18), .int .u64 (wd2 r18), .int .u64 (wd3 r18)] k3 rfl)
              have nhb0 : Below w.heap.size w V25 := by rw [hV25]; exact (blw_setL hb0 (by omega) 0 [.int .u64 (wd0 r16), .int .u64 (wd1 r16), .int .u64 (wd2 r16), .int .u64 (wd3 r16), .int .u64 (wd0 r17), .int .u64 (wd1 r17), .int .u64 (wd2 r17), .int .u64 (wd3 r17), .int .u64 (wd0 r18), .int .u64 (wd1 r18), .int .u64 (wd2 r18), .int .u64 (wd3 r18)])
              clear k3; clear hb0; clear hV25; have k3 := nk3; clear nk3; have hb0 := nhb0; clear nhb0; obtain ⟨g3_0, g3_1, g3_2, g3_3, g3_4, g3_5, g3_6, g3_7, g3_8, g3_9, g3_10, g3_11⟩ := cel12 k3; clear k3
              simp [bodyPost, results, Try.results73, go_sem, g3_0, g3_1, g3_2, g3_3, g3_4, g3_5, g3_6, g3_7, g3_8, g3_9, g3_10, g3_11]
              first | exact hb0 | exact ⟨rfl, hb0⟩
        · obtain ⟨r19, hr19⟩ : ∃ o_o : Int, atx cx cy = o_o := ⟨_, rfl⟩
          have Hr19 := Lib.hid hr19; clear hr19
          obtain ⟨r20, hr20⟩ : ∃ o_o : Int, aty cx cy = o_o := ⟨_, rfl⟩
          have Hr20 := Lib.hid hr20; clear hr20
          obtain ⟨r21, hr21⟩ : ∃ o_o : Int, atw cx cy = o_o := ⟨_, rfl⟩
          have Hr21 := Lib.hid hr21; clear hr21; have c1_0 : U6.cell? ⟨w.heap.size, 0, none⟩ = some (.int .i64 ax) := k1.cell 0; have c1_1 : U6.cell? ⟨w.heap.size, 1, none⟩ = some (.int .i64 ay) := k1.cell 1; have c1_2 : U6.cell? ⟨w.heap.size, 2, none⟩ = some (.int .i64 bx) := k1.cell 2; have c1_3 : U6.cell? ⟨w.heap.size, 3, none⟩ = some (.int .i64 b_y) := k1.cell 3; have l1 := k1.lt; have c2_0 : U6.cell? ⟨w.heap.size + 1, 0, none⟩ = some (.int .i64 cx) := k2.cell 0; have c2_1 : U6.cell? ⟨w.heap.size + 1, 1, none⟩ = some (.int .i64 cy) := k2.cell 1
          have c2_2 : U6.cell? ⟨w.heap.size + 1, 2, none⟩ = some (.int .i64 dx) := k2.cell 2; have c2_3 : U6.cell? ⟨w.heap.size + 1, 3, none⟩ = some (.int .i64 dy) := k2.cell 3; have l2 := k2.lt; have Kk1 := Lib.hid k1; clear k1; have Kk2 := Lib.hid k2; clear k2; have Kk3 := Lib.hid k3; clear k3
          refine wp_region_up U6.heap.size 7 [(true, 0), (false, 1), (true, 2), (true, 3), (true, 4), (true, 5), (false, 6)] (by kernel_rfl) (by kernel_rfl) (fun _ _ d _ _ h => by cases d <;> exact h) ?_
          have hb : Below U6.heap.size U6 U6.drew := (Below.refl _ _).drew
          refine wpS_takeL rfl rfl ?_
          go_big_quiet_step (rfl)
          refine wpQuiet_nil ?_
          refine wpS_doL rfl ?_
          intro K hK
          go_wp2_with ((go_at_call 87; (with_reducible refine (dot_is cx cy dx dy true Hz4.out _icx _icy _idx _idy  _).mono ?_); rintro e w2 ⟨rfl, hn⟩))
          replace hb := hb.trans (hn.mono hb.size)
          refine hK.out _ _ (up_iff.2 hb) ?_
          clear hK K; clear hn
          iterate 4
            refine wpS_takeL rfl rfl ?_
            go_big_quiet_step (rfl)
            refine wpQuiet_nil ?_
          refine wpS_doL rfl ?_
          intro K hK
          go_wp2_with ((go_at_call 11; (with_reducible refine (crAt_is cx cy r19 r20 r21 Hr19.out Hr20.out Hr21.out _icx _icy  _).mono ?_); rintro e w2 ⟨rfl, hn⟩))
          try replace hb := hb.trans (hn.mono hb.size)
          refine hK.out _ _ (up_iff.2 hb) ?_
          clear hK K
          try clear hn
          refine wpS_nil ?_
          simp only [List.drop_succ_cons, List.drop_zero]
          first | refine calls_w ?_ | refine name_world ?_ | refine list_world ?_ | refine post_world ?_
          intro U26 hU26
          first | subst hU26 | (rw [← hU26] at hb; clear hU26)
          clear c1_0 c1_1 c1_2 c1_3 l1 c2_0 c2_1 c2_2 c2_3 l2; have k1 := Kk1.out.of hb; clear Kk1; have k2 := Kk2.out.of hb; clear Kk2; have k3 := Kk3.out.of hb; clear Kk3
          replace hb0 := hb0.trans (hb.mono hb0.size)
          clear hb
          go_wp2_with fail
          obtain ⟨z22, hz22⟩ : ∃ o_o : Bool, hldB ax ay bx b_y r19 r20 r21 = o_o := ⟨_, rfl⟩
          have Hz22 := Lib.hid hz22; clear hz22
          refine (SegHolds_is ax ay bx b_y r19 r20 r21 z22 Hz22.out _iax _iay _ibx _ib_y (Hr19.out ▸ atx_in cx cy _icx _icy) (Hr20.out ▸ aty_in cx cy _icx _icy) (Hr21.out ▸ atw_in cx cy _icx _icy)  _).mono ?_
          rintro e U27 ⟨rfl, hn⟩
          replace k1 := k1.of hn; replace k2 := k2.of hn; replace k3 := k3.of hn
          replace hb0 := hb0.trans (hn.mono hb0.size)
          clear hn
          cases z22
          · have c1_0 : U27.cell? ⟨w.heap.size, 0, none⟩ = some (.int .i64 ax) := k1.cell 0
            have c1_1 : U27.cell? ⟨w.heap.size, 1, none⟩ = some (.int .i64 ay) := k1.cell 1; have c1_2 : U27.cell? ⟨w.heap.size, 2, none⟩ = some (.int .i64 bx) := k1.cell 2; have c1_3 : U27.cell? ⟨w.heap.size, 3, none⟩ = some (.int .i64 b_y) := k1.cell 3; have l1 := k1.lt
            go_wp2_with fail
            clear c1_0 c1_1 c1_2 c1_3 l1
            refine (dot_is ax ay bx b_y false Hz3.out _iax _iay _ibx _ib_y  _).mono ?_
            rintro e U28 ⟨rfl, hn⟩
            replace k1 := k1.of hn; replace k2 := k2.of hn; replace k3 := k3.of hn
            replace hb0 := hb0.trans (hn.mono hb0.size)
            clear hn; have c2_0 : U28.cell? ⟨w.heap.size + 1, 0, none⟩ = some (.int .i64 cx) := k2.cell 0; have c2_1 : U28.cell? ⟨w.heap.size + 1, 1, none⟩ = some (.int .i64 cy) := k2.cell 1; have c2_2 : U28.cell? ⟨w.heap.size + 1, 2, none⟩ = some (.int .i64 dx) := k2.cell 2; have c2_3 : U28.cell? ⟨w.heap.size + 1, 3, none⟩ = some (.int .i64 dy) := k2.cell 3; have l2 := k2.lt
            go_wp2_with fail
            clear c2_0 c2_1 c2_2 c2_3 l2
            refine (dot_is cx cy dx dy true Hz4.out _icx _icy _idx _idy  _).mono ?_
            rintro e U29 ⟨rfl, hn⟩
            replace k1 := k1.of hn; replace k2 := k2.of hn; replace k3 := k3.of hn
            replace hb0 := hb0.trans (hn.mono hb0.size)
            clear hn; obtain ⟨c3_0, c3_1, c3_2, c3_3, c3_4, c3_5, c3_6, c3_7, c3_8, c3_9, c3_10, c3_11⟩ := cel12 k3; obtain ⟨f3_0, f3_1, f3_2, f3_3, f3_4, f3_5, f3_6, f3_7, f3_8, f3_9, f3_10, f3_11⟩ := fre12 k3; have l3 := k3.lt
            have e0 : 0 = R0 := by rw [← HR0.out]; unfold mtk; (try rw [Hz1.out]); (try rw [Hz2.out]); (try rw [Hz3.out]); (try rw [Hz4.out]); (try rw [Hr19.out]); (try rw [Hr20.out]); (try rw [Hr21.out]); (try rw [Hz22.out]); all_goals first | rfl | simp
            have e1 : 0 = R1 := by rw [← HR1.out]; unfold mtx; (try rw [Hz1.out]); (try rw [Hz2.out]); (try rw [Hz3.out]); (try rw [Hz4.out]); (try rw [Hr19.out]); (try rw [Hr20.out]); (try rw [Hr21.out]); (try rw [Hz22.out]); all_goals first | rfl | simp
            have e2 : 0 = R2 := by rw [← HR2.out]; unfold mty; (try rw [Hz1.out]); (try rw [Hz2.out]); (try rw [Hz3.out]); (try rw [Hz4.out]); (try rw [Hr19.out]); (try rw [Hr20.out]); (try rw [Hr21.out]); (try rw [Hz22.out]); all_goals first | rfl | simp
            have e3 : 0 = R3 := by rw [← HR3.out]; unfold mtw; (try rw [Hz1.out]); (try rw [Hz2.out]); (try rw [Hz3.out]); (try rw [Hz4.out]); (try rw [Hr19.out]); (try rw [Hr20.out]); (try rw [Hr21.out]); (try rw [Hz22.out]); all_goals first | rfl | simp
            subst e0; subst e1; subst e2; subst e3
            go_wp2
            clear c3_0 c3_1 c3_2 c3_3 c3_4 c3_5 c3_6 c3_7 c3_8 c3_9 c3_10 c3_11 f3_0 f3_1 f3_2 f3_3 f3_4 f3_5 f3_6 f3_7 f3_8 f3_9 f3_10 f3_11 l3
            first | refine post_world ?_
            intro V30 hV30
            have D30 := Lib.hid k1.lt; have D31 := Lib.hid k2.lt; have D32 := Lib.hid k3.lt; have D33 := Lib.hid hb0.size; clear k1 k2
            have nk3 : Blk V30 (w.heap.size + 1 + 1) #[.int .u64 0, .int .u64 0, .int .u64 0, .int .u64 0, .int .u64 0, .int .u64 0, .int .u64 0, .int .u64 0, .int .u64 0, .int .u64 0, .int .u64 0, .int .u64 0] 36 := by rw [hV30]; exact (blk_full _ [.int .u64 0, .int .u64 0, .int .u64 0, .int .u64 0, .int .u64 0, .int .u64 0, .int .u64 0, .int .u64 0, .int .u64 0, .int .u64 0, .int .u64 0, .int .u64 0] k3 rfl)
            have nhb0 : Below w.heap.size w V30 := by rw [hV30]; exact (blw_setL hb0 (by omega) 0 [.int .u64 0, .int .u64 0, .int .u64 0, .int .u64 0, .int .u64 0, .int .u64 0, .int .u64 0, .int .u64 0, .int .u64 0, .int .u64 0, .int .u64 0, .int .u64 0])
            clear k3; clear hb0; clear hV30; have k3 := nk3; clear nk3; have hb0 := nhb0; clear nhb0; obtain ⟨g3_0, g3_1, g3_2, g3_3, g3_4, g3_5, g3_6, g3_7, g3_8, g3_9, g3_10, g3_11⟩ := cel12 k3; clear k3
            simp [bodyPost, results, Try.results73, go_sem, g3_0, g3_1, g3_2, g3_3, g3_4, g3_5, g3_6, g3_7, g3_8, g3_9, g3_10, g3_11, wd0_0, wd1_0, wd2_0, wd3_0]
            first | exact hb0 | exact ⟨rfl, hb0⟩
          · have c2_0 : U27.cell? ⟨w.heap.size + 1, 0, none⟩ = some (.int .i64 cx) := k2.cell 0
            have c2_1 : U27.cell? ⟨w.heap.size + 1, 1, none⟩ = some (.int .i64 cy) := k2.cell 1; have l2 := k2.lt
            go_wp2_with fail
            clear c2_0 c2_1 l2
            refine (crAt_is cx cy r19 r20 r21 Hr19.out Hr20.out Hr21.out _icx _icy  _).mono ?_
            rintro e U31 ⟨rfl, hn⟩
            replace k1 := k1.of hn; replace k2 := k2.of hn; replace k3 := k3.of hn
            replace hb0 := hb0.trans (hn.mono hb0.size)
            clear hn; obtain ⟨c3_0, c3_1, c3_2, c3_3, c3_4, c3_5, c3_6, c3_7, c3_8, c3_9, c3_10, c3_11⟩ := cel12 k3; obtain ⟨f3_0, f3_1, f3_2, f3_3, f3_4, f3_5, f3_6, f3_7, f3_8, f3_9, f3_10, f3_11⟩ := fre12 k3; have l3 := k3.lt
            have e0 : 1 = R0 := by rw [← HR0.out]; unfold mtk; (try rw [Hz1.out]); (try rw [Hz2.out]); (try rw [Hz3.out]); (try rw [Hz4.out]); (try rw [Hr19.out]); (try rw [Hr20.out]); (try rw [Hr21.out]); (try rw [Hz22.out]); all_goals first | rfl | simp
            have e1 : r19 = R1 := by rw [← HR1.out]; unfold mtx; (try rw [Hz1.out]); (try rw [Hz2.out]); (try rw [Hz3.out]); (try rw [Hz4.out]); (try rw [Hr19.out]); (try rw [Hr20.out]); (try rw [Hr21.out]); (try rw [Hz22.out]); all_goals first | rfl | simp
            have e2 : r20 = R2 := by rw [← HR2.out]; unfold mty; (try rw [Hz1.out]); (try rw [Hz2.out]); (try rw [Hz3.out]); (try rw [Hz4.out]); (try rw [Hr19.out]); (try rw [Hr20.out]); (try rw [Hr21.out]); (try rw [Hz22.out]); all_goals first | rfl | simp
            have e3 : r21 = R3 := by rw [← HR3.out]; unfold mtw; (try rw [Hz1.out]); (try rw [Hz2.out]); (try rw [Hz3.out]); (try rw [Hz4.out]); (try rw [Hr19.out]); (try rw [Hr20.out]); (try rw [Hr21.out]); (try rw [Hz22.out]); all_goals first | rfl | simp
            subst e0; subst e1; subst e2; subst e3
            go_wp2
            clear c3_0 c3_1 c3_2 c3_3 c3_4 c3_5 c3_6 c3_7 c3_8 c3_9 c3_10 c3_11 f3_0 f3_1 f3_2 f3_3 f3_4 f3_5 f3_6 f3_7 f3_8 f3_9 f3_10 f3_11 l3
            first | refine post_world ?_
            intro V32 hV32
            have D34 := Lib.hid k1.lt; have D35 := Lib.hid k2.lt; have D36 := Lib.hid k3.lt; have D37 := Lib.hid hb0.size; clear k1 k2
            have nk3 : Blk V32 (w.heap.size + 1 + 1) #[.int .u64 (wd0 r19), .int .u64 (wd1 r19), .int .u64 (wd2 r19), .int .u64 (wd3 r19), .int .u64 (wd0 r20), .int .u64 (wd1 r20), .int .u64 (wd2 r20), .int .u64 (wd3 r20), .int .u64 (wd0 r21), .int .u64 (wd1 r21), .int .u64 (wd2 r21), .int .u64 (wd3 r21)] 36 := by rw [hV32]; exact (blk_full _ [.int .u64 (wd0 r19), .int .u64 (wd1 r19), .int .u64 (wd2 r19), .int .u64 (wd3 r19), .int .u64 (wd0 r20), .int .u64 (wd1 r20), .int .u64 (wd2 r20), .int .u64 (wd3 r20), .int .u64 (wd0 r21), .int .u64 (wd1 r21), .int .u64 (wd2 r21), .int .u64 (wd3 r21)] k3 rfl)
            have nhb0 : Below w.heap.size w V32 := by rw [hV32]; exact (blw_setL hb0 (by omega) 0 [.int .u64 (wd0 r19), .int .u64 (wd1 r19), .int .u64 (wd2 r19), .int .u64 (wd3 r19), .int .u64 (wd0 r20), .int .u64 (wd1 r20), .int .u64 (wd2 r20), .int .u64 (wd3 r20), .int .u64 (wd0 r21), .int .u64 (wd1 r21), .int .u64 (wd2 r21), .int .u64 (wd3 r21)])
            clear k3; clear hb0; clear hV32; have k3 := nk3; clear nk3; have hb0 := nhb0; clear nhb0; obtain ⟨g3_0, g3_1, g3_2, g3_3, g3_4, g3_5, g3_6, g3_7, g3_8, g3_9, g3_10, g3_11⟩ := cel12 k3; clear k3
            simp [bodyPost, results, Try.results73, go_sem, g3_0, g3_1, g3_2, g3_3, g3_4, g3_5, g3_6, g3_7, g3_8, g3_9, g3_10, g3_11]
            first | exact hb0 | exact ⟨rfl, hb0⟩
      · obtain ⟨r23, hr23⟩ : ∃ o_o : Int, atx ax ay = o_o := ⟨_, rfl⟩
        have Hr23 := Lib.hid hr23; clear hr23
        obtain ⟨r24, hr24⟩ : ∃ o_o : Int, aty ax ay = o_o := ⟨_, rfl⟩
        have Hr24 := Lib.hid hr24; clear hr24
        obtain ⟨r25, hr25⟩ : ∃ o_o : Int, atw ax ay = o_o := ⟨_, rfl⟩
        have Hr25 := Lib.hid hr25; clear hr25; have c1_0 : U4.cell? ⟨w.heap.size, 0, none⟩ = some (.int .i64 ax) := k1.cell 0; have c1_1 : U4.cell? ⟨w.heap.size, 1, none⟩ = some (.int .i64 ay) := k1.cell 1; have c1_2 : U4.cell? ⟨w.heap.size, 2, none⟩ = some (.int .i64 bx) := k1.cell 2; have c1_3 : U4.cell? ⟨w.heap.size, 3, none⟩ = some (.int .i64 b_y) := k1.cell 3; have l1 := k1.lt; have c2_0 : U4.cell? ⟨w.heap.size + 1, 0, none⟩ = some (.int .i64 cx) := k2.cell 0; have c2_1 : U4.cell? ⟨w.heap.size + 1, 1, none⟩ = some (.int .i64 cy) := k2.cell 1
        have c2_2 : U4.cell? ⟨w.heap.size + 1, 2, none⟩ = some (.int .i64 dx) := k2.cell 2; have c2_3 : U4.cell? ⟨w.heap.size + 1, 3, none⟩ = some (.int .i64 dy) := k2.cell 3; have l2 := k2.lt; have Kk1 := Lib.hid k1; clear k1; have Kk2 := Lib.hid k2; clear k2; have Kk3 := Lib.hid k3; clear k3
        refine wp_region_up U4.heap.size 7 [(true, 0), (false, 1), (true, 2), (true, 3), (true, 4), (true, 5), (false, 6)] (by kernel_rfl) (by kernel_rfl) (fun _ _ d _ _ h => by cases d <;> exact h) ?_
        have hb : Below U4.heap.size U4 U4.drew := (Below.refl _ _).drew
        refine wpS_takeL rfl rfl ?_
        go_big_quiet_step (rfl)
        refine wpQuiet_nil ?_
        refine wpS_doL rfl ?_
        intro K hK
        go_wp2_with ((go_at_call 87; (with_reducible refine (dot_is ax ay bx b_y true Hz3.out _iax _iay _ibx _ib_y  _).mono ?_); rintro e w2 ⟨rfl, hn⟩))
        replace hb := hb.trans (hn.mono hb.size)
        refine hK.out _ _ (up_iff.2 hb) ?_
        clear hK K; clear hn
        iterate 4
          refine wpS_takeL rfl rfl ?_
          go_big_quiet_step (rfl)
          refine wpQuiet_nil ?_
        refine wpS_doL rfl ?_
        intro K hK
        go_wp2_with ((go_at_call 11; (with_reducible refine (crAt_is ax ay r23 r24 r25 Hr23.out Hr24.out Hr25.out _iax _iay  _).mono ?_); rintro e w2 ⟨rfl, hn⟩))
        try replace hb := hb.trans (hn.mono hb.size)
        refine hK.out _ _ (up_iff.2 hb) ?_
        clear hK K
        try clear hn
        refine wpS_nil ?_
        simp only [List.drop_succ_cons, List.drop_zero]
        first | refine calls_w ?_ | refine name_world ?_ | refine list_world ?_ | refine post_world ?_
        intro U33 hU33
        first | subst hU33 | (rw [← hU33] at hb; clear hU33)
        clear c1_0 c1_1 c1_2 c1_3 l1 c2_0 c2_1 c2_2 c2_3 l2; have k1 := Kk1.out.of hb; clear Kk1; have k2 := Kk2.out.of hb; clear Kk2; have k3 := Kk3.out.of hb; clear Kk3
        replace hb0 := hb0.trans (hb.mono hb0.size)
        clear hb
        go_wp2_with fail
        obtain ⟨z26, hz26⟩ : ∃ o_o : Bool, hldB cx cy dx dy r23 r24 r25 = o_o := ⟨_, rfl⟩
        have Hz26 := Lib.hid hz26; clear hz26
        refine (SegHolds_is cx cy dx dy r23 r24 r25 z26 Hz26.out _icx _icy _idx _idy (Hr23.out ▸ atx_in ax ay _iax _iay) (Hr24.out ▸ aty_in ax ay _iax _iay) (Hr25.out ▸ atw_in ax ay _iax _iay)  _).mono ?_
        rintro e U34 ⟨rfl, hn⟩
        replace k1 := k1.of hn; replace k2 := k2.of hn; replace k3 := k3.of hn
        replace hb0 := hb0.trans (hn.mono hb0.size)
        clear hn
        cases z26
        · go_wp2_with fail
          obtain ⟨z27, hz27⟩ : ∃ o_o : Bool, dotB cx cy dx dy = o_o := ⟨_, rfl⟩
          have Hz27 := Lib.hid hz27; clear hz27
          cases z27
          · have c2_0 : U34.cell? ⟨w.heap.size + 1, 0, none⟩ = some (.int .i64 cx) := k2.cell 0
            have c2_1 : U34.cell? ⟨w.heap.size + 1, 1, none⟩ = some (.int .i64 cy) := k2.cell 1; have c2_2 : U34.cell? ⟨w.heap.size + 1, 2, none⟩ = some (.int .i64 dx) := k2.cell 2; have c2_3 : U34.cell? ⟨w.heap.size + 1, 3, none⟩ = some (.int .i64 dy) := k2.cell 3; have l2 := k2.lt; have Kk1 := Lib.hid k1; clear k1; have Kk2 := Lib.hid k2; clear k2; have Kk3 := Lib.hid k3; clear k3
            refine wp_region_up U34.heap.size 7 [(true, 0), (false, 1), (true, 2), (true, 3), (true, 4), (true, 5), (false, 6)] (by kernel_rfl) (by kernel_rfl) (fun _ _ d _ _ h => by cases d <;> exact h) ?_
            have hb : Below U34.heap.size U34 U34.drew := (Below.refl _ _).drew
            refine wpS_takeL rfl rfl ?_
            go_big_quiet_step (rfl)
            refine wpQuiet_nil ?_
            refine wpS_doL rfl ?_
            intro K hK
            go_wp2_with ((go_at_call 87; (with_reducible refine (dot_is cx cy dx dy false Hz27.out _icx _icy _idx _idy  _).mono ?_); rintro e w2 ⟨rfl, hn⟩))
            replace hb := hb.trans (hn.mono hb.size)
            refine hK.out _ _ (up_iff.2 hb) ?_
            clear hK K; clear hn
            iterate 4
              refine wpS_takeL rfl rfl ?_
              go_big_quiet_step (rfl)
              refine wpQuiet_nil ?_
            refine wpS_doL rfl ?_
            intro K hK
            go_wp2_with ((go_at_call 87; (with_reducible refine (dot_is cx cy dx dy false Hz27.out _icx _icy _idx _idy  _).mono ?_); rintro e w2 ⟨rfl, hn⟩))
            try replace hb := hb.trans (hn.mono hb.size)
            refine hK.out _ _ (up_iff.2 hb) ?_
            clear hK K
            try clear hn
            refine wpS_nil ?_
            simp only [List.drop_succ_cons, List.drop_zero]
            first | refine calls_w ?_ | refine name_world ?_ | refine list_world ?_ | refine post_world ?_
            intro U35 hU35
            first | subst hU35 | (rw [← hU35] at hb; clear hU35)
            clear c2_0 c2_1 c2_2 c2_3 l2; have k1 := Kk1.out.of hb; clear Kk1; have k2 := Kk2.out.of hb; clear Kk2; have k3 := Kk3.out.of hb; clear Kk3
            replace hb0 := hb0.trans (hb.mono hb0.size)
            clear hb; have c1_0 : U35.cell? ⟨w.heap.size, 0, none⟩ = some (.int .i64 ax) := k1.cell 0; have c1_1 : U35.cell? ⟨w.heap.size, 1, none⟩ = some (.int .i64 ay) := k1.cell 1; have c1_2 : U35.cell? ⟨w.heap.size, 2, none⟩ = some (.int .i64 bx) := k1.cell 2; have c1_3 : U35.cell? ⟨w.heap.size, 3, none⟩ = some (.int .i64 b_y) := k1.cell 3; have l1 := k1.lt
            go_wp2_with fail
            clear c1_0 c1_1 c1_2 c1_3 l1
            refine (dot_is ax ay bx b_y true Hz3.out _iax _iay _ibx _ib_y  _).mono ?_
            rintro e U36 ⟨rfl, hn⟩
            replace k1 := k1.of hn; replace k2 := k2.of hn; replace k3 := k3.of hn
            replace hb0 := hb0.trans (hn.mono hb0.size)
            clear hn; obtain ⟨c3_0, c3_1, c3_2, c3_3, c3_4, c3_5, c3_6, c3_7, c3_8, c3_9, c3_10, c3_11⟩ := cel12 k3; obtain ⟨f3_0, f3_1, f3_2, f3_3, f3_4, f3_5, f3_6, f3_7, f3_8, f3_9, f3_10, f3_11⟩ := fre12 k3; have l3 := k3.lt
            have e0 : 0 = R0 := by rw [← HR0.out]; unfold mtk; (try rw [Hz1.out]); (try rw [Hz2.out]); (try rw [Hz3.out]); (try rw [Hr23.out]); (try rw [Hr24.out]); (try rw [Hr25.out]); (try rw [Hz26.out]); (try rw [Hz27.out]); all_goals first | rfl | simp
            have e1 : 0 = R1 := by rw [← HR1.out]; unfold mtx; (try rw [Hz1.out]); (try rw [Hz2.out]); (try rw [Hz3.out]); (try rw [Hr23.out]); (try rw [Hr24.out]); (try rw [Hr25.out]); (try rw [Hz26.out]); (try rw [Hz27.out]); all_goals first | rfl | simp
            have e2 : 0 = R2 := by rw [← HR2.out]; unfold mty; (try rw [Hz1.out]); (try rw [Hz2.out]); (try rw [Hz3.out]); (try rw [Hr23.out]); (try rw [Hr24.out]); (try rw [Hr25.out]); (try rw [Hz26.out]); (try rw [Hz27.out]); all_goals first | rfl | simp
            have e3 : 0 = R3 := by rw [← HR3.out]; unfold mtw; (try rw [Hz1.out]); (try rw [Hz2.out]); (try rw [Hz3.out]); (try rw [Hr23.out]); (try rw [Hr24.out]); (try rw [Hr25.out]); (try rw [Hz26.out]); (try rw [Hz27.out]); all_goals first | rfl | simp
            subst e0; subst e1; subst e2; subst e3
            go_wp2
            clear c3_0 c3_1 c3_2 c3_3 c3_4 c3_5 c3_6 c3_7 c3_8 c3_9 c3_10 c3_11 f3_0 f3_1 f3_2 f3_3 f3_4 f3_5 f3_6 f3_7 f3_8 f3_9 f3_10 f3_11 l3
            first | refine post_world ?_
            intro V37 hV37
            have D38 := Lib.hid k1.lt; have D39 := Lib.hid k2.lt; have D40 := Lib.hid k3.lt; have D41 := Lib.hid hb0.size; clear k1 k2
            have nk3 : Blk V37 (w.heap.size + 1 + 1) #[.int .u64 0, .int .u64 0, .int .u64 0, .int .u64 0, .int .u64 0, .int .u64 0, .int .u64 0, .int .u64 0, .int .u64 0, .int .u64 0, .int .u64 0, .int .u64 0] 36 := by rw [hV37]; exact (blk_full _ [.int .u64 0, .int .u64 0, .int .u64 0, .int .u64 0, .int .u64 0, .int .u64 0, .int .u64 0, .int .u64 0, .int .u64 0, .int .u64 0, .int .u64 0, .int .u64 0] k3 rfl)
            have nhb0 : Below w.heap.size w V37 := by rw [hV37]; exact (blw_setL hb0 (by omega) 0 [.int .u64 0, .int .u64 0, .int .u64 0, .int .u64 0, .int .u64 0, .int .u64 0, .int .u64 0, .int .u64 0, .int .u64 0, .int .u64 0, .int .u64 0, .int .u64 0])
            clear k3; clear hb0; clear hV37; have k3 := nk3; clear nk3; have hb0 := nhb0; clear nhb0; obtain ⟨g3_0, g3_1, g3_2, g3_3, g3_4, g3_5, g3_6, g3_7, g3_8, g3_9, g3_10, g3_11⟩ := cel12 k3; clear k3
            simp [bodyPost, results, Try.results73, go_sem, g3_0, g3_1, g3_2, g3_3, g3_4, g3_5, g3_6, g3_7, g3_8, g3_9, g3_10, g3_11, wd0_0, wd1_0, wd2_0, wd3_0]
            first | exact hb0 | exact ⟨rfl, hb0⟩
          · obtain ⟨r28, hr28⟩ : ∃ o_o : Int, atx cx cy = o_o := ⟨_, rfl⟩
            have Hr28 := Lib.hid hr28; clear hr28
            obtain ⟨r29, hr29⟩ : ∃ o_o : Int, aty cx cy = o_o := ⟨_, rfl⟩
            have Hr29 := Lib.hid hr29; clear hr29
            obtain ⟨r30, hr30⟩ : ∃ o_o : Int, atw cx cy = o_o := ⟨_, rfl⟩
            have Hr30 := Lib.hid hr30; clear hr30; have c1_0 : U34.cell? ⟨w.heap.size, 0, none⟩ = some (.int .i64 ax) := k1.cell 0; have c1_1 : U34.cell? ⟨w.heap.size, 1, none⟩ = some (.int .i64 ay) := k1.cell 1; have c1_2 : U34.cell? ⟨w.heap.size, 2, none⟩ = some (.int .i64 bx) := k1.cell 2; have c1_3 : U34.cell? ⟨w.heap.size, 3, none⟩ = some (.int .i64 b_y) := k1.cell 3; have l1 := k1.lt; have c2_0 : U34.cell? ⟨w.heap.size + 1, 0, none⟩ = some (.int .i64 cx) := k2.cell 0; have c2_1 : U34.cell? ⟨w.heap.size + 1, 1, none⟩ = some (.int .i64 cy) := k2.cell 1
            have c2_2 : U34.cell? ⟨w.heap.size + 1, 2, none⟩ = some (.int .i64 dx) := k2.cell 2; have c2_3 : U34.cell? ⟨w.heap.size + 1, 3, none⟩ = some (.int .i64 dy) := k2.cell 3; have l2 := k2.lt; have Kk1 := Lib.hid k1; clear k1; have Kk2 := Lib.hid k2; clear k2; have Kk3 := Lib.hid k3; clear k3
            refine wp_region_up U34.heap.size 7 [(true, 0), (false, 1), (true, 2), (true, 3), (true, 4), (true, 5), (false, 6)] (by kernel_rfl) (by kernel_rfl) (fun _ _ d _ _ h => by cases d <;> exact h) ?_
            have hb : Below U34.heap.size U34 U34.drew := (Below.refl _ _).drew
            refine wpS_takeL rfl rfl ?_
            go_big_quiet_step (rfl)
            refine wpQuiet_nil ?_
            refine wpS_doL rfl ?_
            intro K hK
            go_wp2_with ((go_at_call 87; (with_reducible refine (dot_is cx cy dx dy true Hz27.out _icx _icy _idx _idy  _).mono ?_); rintro e w2 ⟨rfl, hn⟩))
            replace hb := hb.trans (hn.mono hb.size)
            refine hK.out _ _ (up_iff.2 hb) ?_
            clear hK K; clear hn
            iterate 4
              refine wpS_takeL rfl rfl ?_
              go_big_quiet_step (rfl)
              refine wpQuiet_nil ?_
            refine wpS_doL rfl ?_
            intro K hK
            go_wp2_with ((go_at_call 11; (with_reducible refine (crAt_is cx cy r28 r29 r30 Hr28.out Hr29.out Hr30.out _icx _icy  _).mono ?_); rintro e w2 ⟨rfl, hn⟩))
            try replace hb := hb.trans (hn.mono hb.size)
            refine hK.out _ _ (up_iff.2 hb) ?_
            clear hK K
            try clear hn
            refine wpS_nil ?_
            simp only [List.drop_succ_cons, List.drop_zero]
            first | refine calls_w ?_ | refine name_world ?_ | refine list_world ?_ | refine post_world ?_
            intro U38 hU38
            first | subst hU38 | (rw [← hU38] at hb; clear hU38)
            clear c1_0 c1_1 c1_2 c1_3 l1 c2_0 c2_1 c2_2 c2_3 l2; have k1 := Kk1.out.of hb; clear Kk1; have k2 := Kk2.out.of hb; clear Kk2; have k3 := Kk3.out.of hb; clear Kk3
            replace hb0 := hb0.trans (hb.mono hb0.size)
            clear hb
            go_wp2_with fail
            obtain ⟨z31, hz31⟩ : ∃ o_o : Bool, hldB ax ay bx b_y r28 r29 r30 = o_o := ⟨_, rfl⟩
            have Hz31 := Lib.hid hz31; clear hz31
            refine (SegHolds_is ax ay bx b_y r28 r29 r30 z31 Hz31.out _iax _iay _ibx _ib_y (Hr28.out ▸ atx_in cx cy _icx _icy) (Hr29.out ▸ aty_in cx cy _icx _icy) (Hr30.out ▸ atw_in cx cy _icx _icy)  _).mono ?_
            rintro e U39 ⟨rfl, hn⟩
            replace k1 := k1.of hn; replace k2 := k2.of hn; replace k3 := k3.of hn
            replace hb0 := hb0.trans (hn.mono hb0.size)
            clear hn
            cases z31
            · have c1_0 : U39.cell? ⟨w.heap.size, 0, none⟩ = some (.int .i64 ax) := k1.cell 0
              have c1_1 : U39.cell? ⟨w.heap.size, 1, none⟩ = some (.int .i64 ay) := k1.cell 1; have c1_2 : U39.cell? ⟨w.heap.size, 2, none⟩ = some (.int .i64 bx) := k1.cell 2; have c1_3 : U39.cell? ⟨w.heap.size, 3, none⟩ = some (.int .i64 b_y) := k1.cell 3; have l1 := k1.lt
              go_wp2_with fail
              clear c1_0 c1_1 c1_2 c1_3 l1
              refine (dot_is ax ay bx b_y true Hz3.out _iax _iay _ibx _ib_y  _).mono ?_
              rintro e U40 ⟨rfl, hn⟩
              replace k1 := k1.of hn; replace k2 := k2.of hn; replace k3 := k3.of hn
              replace hb0 := hb0.trans (hn.mono hb0.size)
              clear hn; obtain ⟨c3_0, c3_1, c3_2, c3_3, c3_4, c3_5, c3_6, c3_7, c3_8, c3_9, c3_10, c3_11⟩ := cel12 k3; obtain ⟨f3_0, f3_1, f3_2, f3_3, f3_4, f3_5, f3_6, f3_7, f3_8, f3_9, f3_10, f3_11⟩ := fre12 k3; have l3 := k3.lt
              have e0 : 0 = R0 := by rw [← HR0.out]; unfold mtk; (try rw [Hz1.out]); (try rw [Hz2.out]); (try rw [Hz3.out]); (try rw [Hr23.out]); (try rw [Hr24.out]); (try rw [Hr25.out]); (try rw [Hz26.out]); (try rw [Hz27.out]); (try rw [Hr28.out]); (try rw [Hr29.out]); (try rw [Hr30.out]); (try rw [Hz31.out]); all_goals first | rfl | simp
              have e1 : 0 = R1 := by rw [← HR1.out]; unfold mtx; (try rw [Hz1.out]); (try rw [Hz2.out]); (try rw [Hz3.out]); (try rw [Hr23.out]); (try rw [Hr24.out]); (try rw [Hr25.out]); (try rw [Hz26.out]); (try rw [Hz27.out]); (try rw [Hr28.out]); (try rw [Hr29.out]); (try rw [Hr30.out]); (try rw [Hz31.out]); all_goals first | rfl | simp
              have e2 : 0 = R2 := by rw [← HR2.out]; unfold mty; (try rw [Hz1.out]); (try rw [Hz2.out]); (try rw [Hz3.out]); (try rw [Hr23.out]); (try rw [Hr24.out]); (try rw [Hr25.out]); (try rw [Hz26.out]); (try rw [Hz27.out]); (try rw [Hr28.out]); (try rw [Hr29.out]); (try rw [Hr30.out]); (try rw [Hz31.out]); all_goals first | rfl | simp
              have e3 : 0 = R3 := by rw [← HR3.out]; unfold mtw; (try rw [Hz1.out]); (try rw [Hz2.out]); (try rw [Hz3.out]); (try rw [Hr23.out]); (try rw [Hr24.out]); (try rw [Hr25.out]); (try rw [Hz26.out]); (try rw [Hz27.out]); (try rw [Hr28.out]); (try rw [Hr29.out]); (try rw [Hr30.out]); (try rw [Hz31.out]); all_goals first | rfl | simp
              subst e0; subst e1; subst e2; subst e3
              go_wp2
              clear c3_0 c3_1 c3_2 c3_3 c3_4 c3_5 c3_6 c3_7 c3_8 c3_9 c3_10 c3_11 f3_0 f3_1 f3_2 f3_3 f3_4 f3_5 f3_6 f3_7 f3_8 f3_9 f3_10 f3_11 l3
              first | refine post_world ?_
              intro V41 hV41
              have D42 := Lib.hid k1.lt; have D43 := Lib.hid k2.lt; have D44 := Lib.hid k3.lt; have D45 := Lib.hid hb0.size; clear k1 k2
              have nk3 : Blk V41 (w.heap.size + 1 + 1) #[.int .u64 0, .int .u64 0, .int .u64 0, .int .u64 0, .int .u64 0, .int .u64 0, .int .u64 0, .int .u64 0, .int .u64 0, .int .u64 0, .int .u64 0, .int .u64 0] 36 := by rw [hV41]; exact (blk_full _ [.int .u64 0, .int .u64 0, .int .u64 0, .int .u64 0, .int .u64 0, .int .u64 0, .int .u64 0, .int .u64 0, .int .u64 0, .int .u64 0, .int .u64 0, .int .u64 0] k3 rfl)
              have nhb0 : Below w.heap.size w V41 := by rw [hV41]; exact (blw_setL hb0 (by omega) 0 [.int .u64 0, .int .u64 0, .int .u64 0, .int .u64 0, .int .u64 0, .int .u64 0, .int .u64 0, .int .u64 0, .int .u64 0, .int .u64 0, .int .u64 0, .int .u64 0])
              clear k3; clear hb0; clear hV41; have k3 := nk3; clear nk3; have hb0 := nhb0; clear nhb0; obtain ⟨g3_0, g3_1, g3_2, g3_3, g3_4, g3_5, g3_6, g3_7, g3_8, g3_9, g3_10, g3_11⟩ := cel12 k3; clear k3
              simp [bodyPost, results, Try.results73, go_sem, g3_0, g3_1, g3_2, g3_3, g3_4, g3_5, g3_6, g3_7, g3_8, g3_9, g3_10, g3_11, wd0_0, wd1_0, wd2_0, wd3_0]
              first | exact hb0 | exact ⟨rfl, hb0⟩
            · have c2_0 : U39.cell? ⟨w.heap.size + 1, 0, none⟩ = some (.int .i64 cx) := k2.cell 0
              have c2_1 : U39.cell? ⟨w.heap.size + 1, 1, none⟩ = some (.int .i64 cy) := k2.cell 1; have l2 := k2.lt
              go_wp2_with fail
              clear c2_0 c2_1 l2
              refine (crAt_is cx cy r28 r29 r30 Hr28.out Hr29.out Hr30.out _icx _icy  _).mono ?_
              rintro e U42 ⟨rfl, hn⟩
              replace k1 := k1.of hn; replace k2 := k2.of hn; replace k3 := k3.of hn
              replace hb0 := hb0.trans (hn.mono hb0.size)
              clear hn; obtain ⟨c3_0, c3_1, c3_2, c3_3, c3_4, c3_5, c3_6, c3_7, c3_8, c3_9, c3_10, c3_11⟩ := cel12 k3; obtain ⟨f3_0, f3_1, f3_2, f3_3, f3_4, f3_5, f3_6, f3_7, f3_8, f3_9, f3_10, f3_11⟩ := fre12 k3; have l3 := k3.lt
              have e0 : 1 = R0 := by rw [← HR0.out]; unfold mtk; (try rw [Hz1.out]); (try rw [Hz2.out]); (try rw [Hz3.out]); (try rw [Hr23.out]); (try rw [Hr24.out]); (try rw [Hr25.out]); (try rw [Hz26.out]); (try rw [Hz27.out]); (try rw [Hr28.out]); (try rw [Hr29.out]); (try rw [Hr30.out]); (try rw [Hz31.out]); all_goals first | rfl | simp
              have e1 : r28 = R1 := by rw [← HR1.out]; unfold mtx; (try rw [Hz1.out]); (try rw [Hz2.out]); (try rw [Hz3.out]); (try rw [Hr23.out]); (try rw [Hr24.out]); (try rw [Hr25.out]); (try rw [Hz26.out]); (try rw [Hz27.out]); (try rw [Hr28.out]); (try rw [Hr29.out]); (try rw [Hr30.out]); (try rw [Hz31.out]); all_goals first | rfl | simp
              have e2 : r29 = R2 := by rw [← HR2.out]; unfold mty; (try rw [Hz1.out]); (try rw [Hz2.out]); (try rw [Hz3.out]); (try rw [Hr23.out]); (try rw [Hr24.out]); (try rw [Hr25.out]); (try rw [Hz26.out]); (try rw [Hz27.out]); (try rw [Hr28.out]); (try rw [Hr29.out]); (try rw [Hr30.out]); (try rw [Hz31.out]); all_goals first | rfl | simp
              have e3 : r30 = R3 := by rw [← HR3.out]; unfold mtw; (try rw [Hz1.out]); (try rw [Hz2.out]); (try rw [Hz3.out]); (try rw [Hr23.out]); (try rw [Hr24.out]); (try rw [Hr25.out]); (try rw [Hz26.out]); (try rw [Hz27.out]); (try rw [Hr28.out]); (try rw [Hr29.out]); (try rw [Hr30.out]); (try rw [Hz31.out]); all_goals first | rfl | simp
              subst e0; subst e1; subst e2; subst e3
              go_wp2
              clear c3_0 c3_1 c3_2 c3_3 c3_4 c3_5 c3_6 c3_7 c3_8 c3_9 c3_10 c3_11 f3_0 f3_1 f3_2 f3_3 f3_4 f3_5 f3_6 f3_7 f3_8 f3_9 f3_10 f3_11 l3
              first | refine post_world ?_
              intro V43 hV43
              have D46 := Lib.hid k1.lt; have D47 := Lib.hid k2.lt; have D48 := Lib.hid k3.lt; have D49 := Lib.hid hb0.size; clear k1 k2
              have nk3 : Blk V43 (w.heap.size + 1 + 1) #[.int .u64 (wd0 r28), .int .u64 (wd1 r28), .int .u64 (wd2 r28), .int .u64 (wd3 r28), .int .u64 (wd0 r29), .int .u64 (wd1 r29), .int .u64 (wd2 r29), .int .u64 (wd3 r29), .int .u64 (wd0 r30), .int .u64 (wd1 r30), .int .u64 (wd2 r30), .int .u64 (wd3 r30)] 36 := by rw [hV43]; exact (blk_full _ [.int .u64 (wd0 r28), .int .u64 (wd1 r28), .int .u64 (wd2 r28), .int .u64 (wd3 r28), .int .u64 (wd0 r29), .int .u64 (wd1 r29), .int .u64 (wd2 r29), .int .u64 (wd3 r29), .int .u64 (wd0 r30), .int .u64 (wd1 r30), .int .u64 (wd2 r30), .int .u64 (wd3 r30)] k3 rfl)
              have nhb0 : Below w.heap.size w V43 := by rw [hV43]; exact (blw_setL hb0 (by omega) 0 [.int .u64 (wd0 r28), .int .u64 (wd1 r28), .int .u64 (wd2 r28), .int .u64 (wd3 r28), .int .u64 (wd0 r29), .int .u64 (wd1 r29), .int .u64 (wd2 r29), .int .u64 (wd3 r29), .int .u64 (wd0 r30), .int .u64 (wd1 r30), .int .u64 (wd2 r30), .int .u64 (wd3 r30)])
              clear k3; clear hb0; clear hV43; have k3 := nk3; clear nk3; have hb0 := nhb0; clear nhb0; obtain ⟨g3_0, g3_1, g3_2, g3_3, g3_4, g3_5, g3_6, g3_7, g3_8, g3_9, g3_10, g3_11⟩ := cel12 k3; clear k3
              simp [bodyPost, results, Try.results73, go_sem, g3_0, g3_1, g3_2, g3_3, g3_4, g3_5, g3_6, g3_7, g3_8, g3_9, g3_10, g3_11]
              first | exact hb0 | exact ⟨rfl, hb0⟩
        · have c1_0 : U34.cell? ⟨w.heap.size, 0, none⟩ = some (.int .i64 ax) := k1.cell 0
          have c1_1 : U34.cell? ⟨w.heap.size, 1, none⟩ = some (.int .i64 ay) := k1.cell 1; have l1 := k1.lt
          go_wp2_with fail
          clear c1_0 c1_1 l1
          refine (crAt_is ax ay r23 r24 r25 Hr23.out Hr24.out Hr25.out _iax _iay  _).mono ?_
          rintro e U44 ⟨rfl, hn⟩
          replace k1 := k1.of hn; replace k2 := k2.of hn; replace k3 := k3.of hn
          replace hb0 := hb0.trans (hn.mono hb0.size)
          clear hn; obtain ⟨c3_0, c3_1, c3_2, c3_3, c3_4, c3_5, c3_6, c3_7, c3_8, c3_9, c3_10, c3_11⟩ := cel12 k3; obtain ⟨f3_0, f3_1, f3_2, f3_3, f3_4, f3_5, f3_6, f3_7, f3_8, f3_9, f3_10, f3_11⟩ := fre12 k3; have l3 := k3.lt
          have e0 : 1 = R0 := by rw [← HR0.out]; unfold mtk; (try rw [Hz1.out]); (try rw [Hz2.out]); (try rw [Hz3.out]); (try rw [Hr23.out]); (try rw [Hr24.out]); (try rw [Hr25.out]); (try rw [Hz26.out]); all_goals first | rfl | simp
          have e1 : r23 = R1 := by rw [← HR1.out]; unfold mtx; (try rw [Hz1.out]); (try rw [Hz2.out]); (try rw [Hz3.out]); (try rw [Hr23.out]); (try rw [Hr24.out]); (try rw [Hr25.out]); (try rw [Hz26.out]); all_goals first | rfl | simp
          have e2 : r24 = R2 := by rw [← HR2.out]; unfold mty; (try rw [Hz1.out]); (try rw [Hz2.out]); (try rw [Hz3.out]); (try rw [Hr23.out]); (try rw [Hr24.out]); (try rw [Hr25.out]); (try rw [Hz26.out]); all_goals first | rfl | simp
          have e3 : r25 = R3 := by rw [← HR3.out]; unfold mtw; (try rw [Hz1.out]); (try rw [Hz2.out]); (try rw [Hz3.out]); (try rw [Hr23.out]); (try rw [Hr24.out]); (try rw [Hr25.out]); (try rw [Hz26.out]); all_goals first | rfl | simp
          subst e0; subst e1; subst e2; subst e3
          go_wp2
          clear c3_0 c3_1 c3_2 c3_3 c3_4 c3_5 c3_6 c3_7 c3_8 c3_9 c3_10 c3_11 f3_0 f3_1 f3_2 f3_3 f3_4 f3_5 f3_6 f3_7 f3_8 f3_9 f3_10 f3_11 l3
          first | refine post_world ?_
          intro V45 hV45
          have D50 := Lib.hid k1.lt; have D51 := Lib.hid k2.lt; have D52 := Lib.hid k3.lt; have D53 := Lib.hid hb0.size; clear k1 k2
          have nk3 : Blk V45 (w.heap.size + 1 + 1) #[.int .u64 (wd0 r23), .int .u64 (wd1 r23), .int .u64 (wd2 r23), .int .u64 (wd3 r23), .int .u64 (wd0 r24), .int .u64 (wd1 r24), .int .u64 (wd2 r24), .int .u64 (wd3 r24), .int .u64 (wd0 r25), .int .u64 (wd1 r25), .int .u64 (wd2 r25), .int .u64 (wd3 r25)] 36 := by rw [hV45]; exact (blk_full _ [.int .u64 (wd0 r23), .int .u64 (wd1 r23), .int .u64 (wd2 r23), .int .u64 (wd3 r23), .int .u64 (wd0 r24), .int .u64 (wd1 r24), .int .u64 (wd2 r24), .int .u64 (wd3 r24), .int .u64 (wd0 r25), .int .u64 (wd1 r25), .int .u64 (wd2 r25), .int .u64 (wd3 r25)] k3 rfl)
          have nhb0 : Below w.heap.size w V45 := by rw [hV45]; exact (blw_setL hb0 (by omega) 0 [.int .u64 (wd0 r23), .int .u64 (wd1 r23), .int .u64 (wd2 r23), .int .u64 (wd3 r23), .int .u64 (wd0 r24), .int .u64 (wd1 r24), .int .u64 (wd2 r24), .int .u64 (wd3 r24), .int .u64 (wd0 r25), .int .u64 (wd1 r25), .int .u64 (wd2 r25), .int .u64 (wd3 r25)])
          clear k3; clear hb0; clear hV45; have k3 := nk3; clear nk3; have hb0 := nhb0; clear nhb0; obtain ⟨g3_0, g3_1, g3_2, g3_3, g3_4, g3_5, g3_6, g3_7, g3_8, g3_9, g3_10, g3_11⟩ := cel12 k3; clear k3
          simp [bodyPost, results, Try.results73, go_sem, g3_0, g3_1, g3_2, g3_3, g3_4, g3_5, g3_6, g3_7, g3_8, g3_9, g3_10, g3_11]
          first | exact hb0 | exact ⟨rfl, hb0⟩
end Go.Proofs.Ytkaolhlmimalkaa

namespace Go.Proofs.Ytkaolhlmimalkaa
open Go.RowKit

/-- segments to be read -/
structure Sgs (w : World) (ao : Option Addr) (n cap : Nat) (A : Nat → Nat → Int) : Prop where
  ptr : 0 < n → ∃ g o, ao = some ⟨g, o, none⟩ ∧ g < w.heap.size ∧ ∀ i, i < n → ∀ j, j < 4 → w.cell? ⟨g, o + i * 4 + j, none⟩ = some (.int .i64 (A i j))
  i64 : ∀ i j, In64 (A i j)
  capl : n ≤ cap
  capb : cap ≤ 9223372036854775807
theorem Sgs.of {w w' : World} {ao : Option Addr} {n cap : Nat} {A : Nat → Nat → Int} (h : Sgs w ao n cap A) (hb : Below w.heap.size w w') : Sgs w' ao n cap A := by
  refine ⟨fun h0 => ?_, h.i64, h.capl, h.capb⟩
  obtain ⟨g, o, e, hg, hc⟩ := h.ptr h0
  exact ⟨g, o, e, Nat.lt_of_lt_of_le hg hb.size, fun i hi j hj => (hb.cell (p := ⟨g, o + i * 4 + j, none⟩) hg).trans (hc i hi j hj)⟩
/-- points to be read -/
structure Pns (w : World) (ao : Option Addr) (n cap : Nat) (X Y : Nat → Int) : Prop where
  ptr : 0 < n → ∃ g o, ao = some ⟨g, o, none⟩ ∧ g < w.heap.size ∧ ∀ i, i < n → w.cell? ⟨g, o + i * 2, none⟩ = some (.int .i64 (X i)) ∧ w.cell? ⟨g, o + i * 2 + 1, none⟩ = some (.int .i64 (Y i))
  capl : n ≤ cap
  capb : cap ≤ 9223372036854775807
theorem Pns.of {w w' : World} {ao : Option Addr} {n cap : Nat} {X Y : Nat → Int} (h : Pns w ao n cap X Y) (hb : Below w.heap.size w w') : Pns w' ao n cap X Y := by
  refine ⟨fun h0 => ?_, h.capl, h.capb⟩
  obtain ⟨g, o, e, hg, hc⟩ := h.ptr h0
  exact ⟨g, o, e, Nat.lt_of_lt_of_le hg hb.size, fun i hi => ⟨(hb.cell (p := ⟨g, o + i * 2, none⟩) hg).trans (hc i hi).1, (hb.cell (p := ⟨g, o + i * 2 + 1, none⟩) hg).trans (hc i hi).2⟩⟩
theorem Pns.ofPts {w : World} {ao : Option Addr} {n cap : Nat} {X Y : Nat → Int} (h : Pts w ao n cap X Y) : Pns w ao n cap X Y := by
  refine ⟨fun h0 => ?_, h.capl, h.capb⟩
  obtain ⟨a, rfl, hl, hc⟩ := h.ptr h0
  obtain ⟨g, o, s⟩ := a
  have hs : s = none := by
    have h1 := (hc 0 h0).1
    rw [Nat.zero_mul] at h1
    unfold Addr.add at h1
    rw [if_pos rfl] at h1
    cases s with
    | none => rfl
    | some q => unfold World.cell? at h1; revert h1; cases w.heap[(⟨g, o, some q⟩ : Addr).block]? with
      | none => intro h1; cases h1
      | some b => cases b <;> intro h1 <;> cases h1
  subst hs
  refine ⟨g, o, rfl, hl, fun i hi => ?_⟩
  have e : ∀ (o k : Nat), (⟨g, o, none⟩ : Addr).add k = ⟨g, o + k, none⟩ := fun o k => by unfold Addr.add; split <;> simp_all
  have := hc i hi
  rw [e, e] at this
  exact this
/-- a segment's value -/
abbrev sgE (A : Nat → Nat → Int) (i : Nat) : Value := .agg #[.int .i64 (A i 0), .int .i64 (A i 1), .int .i64 (A i 2), .int .i64 (A i 3)]
/-- its ends, by their codes -/
def lowK (A : Nat → Nat → Int) (i : Nat) : Int := cd (lox (A i 0) (A i 1) (A i 2) (A i 3)) (loy (A i 0) (A i 1) (A i 2) (A i 3)) (lov (A i 0) (A i 1) (A i 2) (A i 3))
def highK (A : Nat → Nat → Int) (i : Nat) : Int := cd (hix (A i 0) (A i 1) (A i 2) (A i 3)) (hiy (A i 0) (A i 1) (A i 2) (A i 3)) (hiv (A i 0) (A i 1) (A i 2) (A i 3))
/-- to which side a place lies; which one is steeper; where two meet -/
def sideK (A : Nat → Nat → Int) (i : Nat) (p : Int) : Int := Sde (A i 0) (A i 1) (A i 2) (A i 3) (cmX p) (cmY p) (cmW p)
def slopeK (A : Nat → Nat → Int) (i k : Nat) : Int := slp (A i 0) (A i 1) (A i 2) (A i 3) (A k 0) (A k 1) (A k 2) (A k 3)
def meetK (A : Nat → Nat → Int) (i k : Nat) : Int := mtk (A i 0) (A i 1) (A i 2) (A i 3) (A k 0) (A k 1) (A k 2) (A k 3)
def meetP (A : Nat → Nat → Int) (i k : Nat) : Int := cd (mtx (A i 0) (A i 1) (A i 2) (A i 3) (A k 0) (A k 1) (A k 2) (A k 3)) (mty (A i 0) (A i 1) (A i 2) (A i 3) (A k 0) (A k 1) (A k 2) (A k 3)) (mtw (A i 0) (A i 1) (A i 2) (A i 3) (A k 0) (A k 1) (A k 2) (A k 3))
/-- a point's code -/
def atK (x y : Int) : Int := cd (atx x y) (aty x y) (atw x y)
section
variable {A : Nat → Nat → Int} (hA : ∀ i j, In64 (A i j))
include hA
set_option maxRecDepth 100000 in
theorem LowK_is (i : Nat) (r : Int) (hr : lowK A i = r) (w : World) : Calls Try.prog 37 #[sgE A i] w fun e w' => e = .returned (pK r) ∧ Below w.heap.size w w' := by
  have h0 := hA i 0; have h1 := hA i 1; have h2 := hA i 2; have h3 := hA i 3
  rw [← hr, lowK, pK_cd (lox_in _ _ _ _ h0 h1 h2 h3) (loy_in _ _ _ _ h0 h1 h2 h3) (lov_in _ _ _ _ h0 h1 h2 h3)]
  exact slow_is _ _ _ _ _ _ _ rfl rfl rfl h0 h1 h2 h3 w
set_option maxRecDepth 100000 in
theorem HighK_is (i : Nat) (r : Int) (hr : highK A i = r) (w : World) : Calls Try.prog 38 #[sgE A i] w fun e w' => e = .returned (pK r) ∧ Below w.heap.size w w' := by
  have h0 := hA i 0; have h1 := hA i 1; have h2 := hA i 2; have h3 := hA i 3
  rw [← hr, highK, pK_cd (hix_in _ _ _ _ h0 h1 h2 h3) (hiy_in _ _ _ _ h0 h1 h2 h3) (hiv_in _ _ _ _ h0 h1 h2 h3)]
  exact shigh_is _ _ _ _ _ _ _ rfl rfl rfl h0 h1 h2 h3 w
set_option maxRecDepth 100000 in
theorem SideK_is (i : Nat) (p : Int) (r : Int) (hr : sideK A i p = r) (w : World) : Calls Try.prog 70 #[sgE A i, pK p] w fun e w' => e = .returned (.int .i64 r) ∧ Below w.heap.size w w' := by
  rw [pK_cm p]
  obtain ⟨a, b, c⟩ := cm_in p
  exact SegSide_is _ _ _ _ _ _ _ r hr (hA i 0) (hA i 1) (hA i 2) (hA i 3) a b c w
set_option maxRecDepth 100000 in
theorem SlopeK_is (i k : Nat) (r : Int) (hr : slopeK A i k = r) (w : World) : Calls Try.prog 28 #[sgE A i, sgE A k] w fun e w' => e = .returned (.int .i64 r) ∧ Below w.heap.size w w' :=
  Slope_is _ _ _ _ _ _ _ _ r hr (hA i 0) (hA i 1) (hA i 2) (hA i 3) (hA k 0) (hA k 1) (hA k 2) (hA k 3) w
set_option maxRecDepth 100000 in
theorem MeetK_is (i k : Nat) (r p : Int) (hr : meetK A i k = r) (hp : meetP A i k = p) (w : World) : Calls Try.prog 73 #[sgE A i, sgE A k] w fun e w' => e = .returned (.tuple #[.int .i64 r, pK p]) ∧ Below w.heap.size w w' := by
  have h0 := hA i 0; have h1 := hA i 1; have h2 := hA i 2; have h3 := hA i 3
  have k0 := hA k 0; have k1 := hA k 1; have k2 := hA k 2; have k3 := hA k 3
  rw [← hp, meetP, pK_cd (mtx_in _ _ _ _ _ _ _ _ h0 h1 h2 h3 k0 k1 k2 k3) (mty_in _ _ _ _ _ _ _ _ h0 h1 h2 h3 k0 k1 k2 k3) (mtw_in _ _ _ _ _ _ _ _ h0 h1 h2 h3 k0 k1 k2 k3)]
  exact Meet_is _ _ _ _ _ _ _ _ r _ _ _ hr rfl rfl rfl h0 h1 h2 h3 k0 k1 k2 k3 w
end
set_option maxRecDepth 100000 in
theorem AtK_is (x y : Int) (hx : In64 x) (hy : In64 y) (r : Int) (hr : atK x y = r) (w : World) : Calls Try.prog 11 #[.agg #[.int .i64 x, .int .i64 y]] w fun e w' => e = .returned (pK r) ∧ Below w.heap.size w w' := by
  rw [← hr, atK, pK_cd (atx_in _ _ hx hy) (aty_in _ _ hx hy) (atw_in _ _ hx hy)]
  exact crAt_is x y _ _ _ rfl rfl rfl hx hy w
/-- does one of the first n pass? -/
def anyB (f : Nat → Bool) : Nat → Bool
  | 0 => false
  | n + 1 => anyB f n || f n
theorem anyB_hit {f : Nat → Bool} : ∀ {n k : Nat}, k < n → f k = true → anyB f n = true
  | n + 1, k, hk, hf => by
    show (anyB f n || f n) = true
    by_cases e : k = n
    · rw [← e, hf, Bool.or_true]
    · rw [anyB_hit (show k < n by omega) hf, Bool.true_or]
theorem anyB_no {f : Nat → Bool} : ∀ {n : Nat}, (∀ j, j < n → f j = false) → anyB f n = false
  | 0, _ => rfl
  | n + 1, h => by
    show (anyB f n || f n) = false
    rw [anyB_no (fun j hj => h j (by omega)), h n (by omega)]; rfl

set_option maxRecDepth 100000 in
set_option maxHeartbeats 1000000 in
theorem IndexP_is (ao : Option Addr) (n cap : Nat) (X Y : Nat → Int) (w : World) (h : Pns w ao n cap X Y) (f : Nat → Bool) (hf : f = fun i => ma1 (X i) (Y i)) (r : Bool) (hr : anyB f n = r) :
    Calls Try.prog 59 #[.slice ao n cap, .func (.func 30) #[] #[]] w fun e w' => ∃ k : Int, e = .returned (.int .i64 k) ∧ (decide (0 ≤ k) = r) ∧ Below w.heap.size w w' := by
 have hcl := h.capl; have hcb := h.capb; have HW := Lib.hid h; have HR := Lib.hid hr; have HF := Lib.hid hf; clear h hr hf
 go_enter Try.func59, Try.ntmps59
 go_wp2_with fail
 go_loopg [5, 8] n (fun gk _ s8 wr => ∃ k : Nat, k ≤ n ∧ n - k ≤ gk ∧ s8 = .int .i64 k ∧ Hid (∀ j, j < k → f j = false) ∧ Below w.heap.size w wr)
 case atStart => exact ⟨0, Nat.zero_le _, by omega, rfl, Lib.hid fun j hj => absurd hj (by omega), Below.refl _ _⟩
 case round =>
  obtain ⟨k, hk, hg, rfl, hall, hbl⟩ := hrel
  by_cases h1 : k < n
  ·obtain ⟨g, o, rfl, hgl, hc⟩ := HW.out.ptr (by omega)
   have e0 := (hbl.cell (p := ⟨g, o + k * 2, none⟩) hgl).trans (hc k h1).1
   have e1 := (hbl.cell (p := ⟨g, o + k * 2 + 1, none⟩) hgl).trans (hc k h1).2
   clear hc
   obtain ⟨b, hb⟩ : ∃ b, f k = b := ⟨_, rfl⟩
   have HB := Lib.hid hb; clear hb
   cases b
   ·go_wp2_with (go_at_call 30; refine (may1_is (X k) (Y k) false (by have hq := HB.out; rw [HF.out] at hq; exact hq) _).mono ?_; rintro e w2 ⟨rfl, hn⟩)
    go_roundg (n - (k + 1))
    case measure => omega
    case rel => exact ⟨k + 1, by omega, Nat.le_refl _, by norm_cast, Lib.hid fun j hj => by
     by_cases e : j = k
     ·rw [e]; exact HB.out
     ·exact hall.out j (by omega), hbl.trans (hn.mono hbl.size)⟩
   ·have ht : r = true := by rw [← HR.out]; exact anyB_hit h1 HB.out
    subst ht
    go_wp2_with (go_at_call 30; refine (may1_is (X k) (Y k) true (by have hq := HB.out; rw [HF.out] at hq; exact hq) _).mono ?_; rintro e w2 ⟨rfl, hn⟩)
    go_ret
    exact ⟨k, rfl, by simp, hbl.trans (hn.mono hbl.size)⟩
  ·have hkn : k = n := by omega
   have ht : r = false := by rw [← HR.out, ← hkn]; exact anyB_no hall.out
   subst ht
   go_wp2
   go_ret
   exact ⟨-1, rfl, by decide, hbl⟩
theorem ContainsP_is (ao : Option Addr) (n cap : Nat) (X Y : Nat → Int) (w : World) (h : Pns w ao n cap X Y) (f : Nat → Bool) (hf : f = fun i => ma1 (X i) (Y i)) (r : Bool) (hr : anyB f n = r) :
    Calls Try.prog 29 #[.slice ao n cap, .func (.func 30) #[] #[]] w fun e w' => e = .returned (.bool r) ∧ Below w.heap.size w w' := by
  have HC := Lib.hid (IndexP_is ao n cap X Y w h f hf r hr)
  clear h hr hf
  go_enter Try.func29, Try.ntmps29
  go_wp2_with fail
  refine HC.out.mono ?_
  rintro e w1 ⟨k, rfl, hk, hb⟩
  clear HC; subst hk
  go_wp2
  go_ret
  exact ⟨rfl, hb⟩

set_option maxRecDepth 100000 in
set_option maxHeartbeats 1000000 in
theorem IndexS_is (ao : Option Addr) (n cap : Nat) (A : Nat → Nat → Int) (w : World) (h : Sgs w ao n cap A) (f : Nat → Bool) (hf : f = fun i => ma2 (A i 0) (A i 1) (A i 2) (A i 3)) (r : Bool) (hr : anyB f n = r) :
    Calls Try.prog 60 #[.slice ao n cap, .func (.func 32) #[] #[]] w fun e w' => ∃ k : Int, e = .returned (.int .i64 k) ∧ (decide (0 ≤ k) = r) ∧ Below w.heap.size w w' := by
 have hcl := h.capl; have hcb := h.capb; have HW := Lib.hid h; have HR := Lib.hid hr; have HF := Lib.hid hf; clear h hr hf
 go_enter Try.func60, Try.ntmps60
 go_wp2_with fail
 go_loopg [5, 8] n (fun gk _ s8 wr => ∃ k : Nat, k ≤ n ∧ n - k ≤ gk ∧ s8 = .int .i64 k ∧ Hid (∀ j, j < k → f j = false) ∧ Below w.heap.size w wr)
 case atStart => exact ⟨0, Nat.zero_le _, by omega, rfl, Lib.hid fun j hj => absurd hj (by omega), Below.refl _ _⟩
 case round =>
  obtain ⟨k, hk, hg, rfl, hall, hbl⟩ := hrel
  by_cases h1 : k < n
  ·obtain ⟨g, o, rfl, hgl, hc⟩ := HW.out.ptr (by omega)
   have e0 := (hbl.cell (p := ⟨g, o + k * 4, none⟩) hgl).trans (hc k h1 0 (by decide))
   have e1 := (hbl.cell (p := ⟨g, o + k * 4 + 1, none⟩) hgl).trans (hc k h1 1 (by decide))
   have e2 := (hbl.cell (p := ⟨g, o + k * 4 + 2, none⟩) hgl).trans (hc k h1 2 (by decide))
   have e3 := (hbl.cell (p := ⟨g, o + k * 4 + 3, none⟩) hgl).trans (hc k h1 3 (by decide))
   have ha0 := HW.out.i64 k 0; have ha1 := HW.out.i64 k 1; have ha2 := HW.out.i64 k 2; have ha3 := HW.out.i64 k 3; clear hc
   obtain ⟨b, hb⟩ : ∃ b, f k = b := ⟨_, rfl⟩
   have HB := Lib.hid hb; clear hb
   cases b
   ·go_wp2_with (go_at_call 32; refine (may2_is (A k 0) (A k 1) (A k 2) (A k 3) false (by have hq := HB.out; rw [HF.out] at hq; exact hq) ha0 ha1 ha2 ha3 _).mono ?_; rintro e w2 ⟨rfl, hn⟩)
    go_roundg (n - (k + 1))
    case measure => omega
    case rel => exact ⟨k + 1, by omega, Nat.le_refl _, by norm_cast, Lib.hid fun j hj => by
     by_cases e : j = k
     ·rw [e]; exact HB.out
     ·exact hall.out j (by omega), hbl.trans (hn.mono hbl.size)⟩
   ·have ht : r = true := by rw [← HR.out]; exact anyB_hit h1 HB.out
    subst ht
    go_wp2_with (go_at_call 32; refine (may2_is (A k 0) (A k 1) (A k 2) (A k 3) true (by have hq := HB.out; rw [HF.out] at hq; exact hq) ha0 ha1 ha2 ha3 _).mono ?_; rintro e w2 ⟨rfl, hn⟩)
    go_ret
    exact ⟨k, rfl, by simp, hbl.trans (hn.mono hbl.size)⟩
  ·have hkn : k = n := by omega
   have ht : r = false := by rw [← HR.out, ← hkn]; exact anyB_no hall.out
   subst ht
   go_wp2
   go_ret
   exact ⟨-1, rfl, by decide, hbl⟩
theorem ContainsS_is (ao : Option Addr) (n cap : Nat) (A : Nat → Nat → Int) (w : World) (h : Sgs w ao n cap A) (f : Nat → Bool) (hf : f = fun i => ma2 (A i 0) (A i 1) (A i 2) (A i 3)) (r : Bool) (hr : anyB f n = r) :
    Calls Try.prog 31 #[.slice ao n cap, .func (.func 32) #[] #[]] w fun e w' => e = .returned (.bool r) ∧ Below w.heap.size w w' := by
  have HC := Lib.hid (IndexS_is ao n cap A w h f hf r hr)
  clear h hr hf
  go_enter Try.func31, Try.ntmps31
  go_wp2_with fail
  refine HC.out.mono ?_
  rintro e w1 ⟨k, rfl, hk, hb⟩
  clear HC; subst hk
  go_wp2
  go_ret
  exact ⟨rfl, hb⟩

set_option maxRecDepth 100000 in
set_option maxHeartbeats 1000000 in
/-- is one of the points or segments not right? -/
theorem may_is (pa : Option Addr) (n pc : Nat) (X Y : Nat → Int) (sa : Option Addr) (m sc : Nat) (A : Nat → Nat → Int) (w : World) (hp : Pns w pa n pc X Y) (hs : Sgs w sa m sc A) (hn : n ≤ 4096) (hm : m ≤ 4096)
    (r1 r2 : Bool) (h1 : anyB (fun i => ma1 (X i) (Y i)) n = r1) (h2 : anyB (fun i => ma2 (A i 0) (A i 1) (A i 2) (A i 3)) m = r2) :
    Calls Try.prog 13 #[.slice pa n pc, .slice sa m sc] w fun e w' => e = .returned (.int .i64 (bif r1 || r2 then 11 else 0)) ∧ Below w.heap.size w w' := by
  have HP := Lib.hid (ContainsP_is pa n pc X Y w hp _ rfl r1 h1)
  have HS := Lib.hid fun (W : World) (hW : Below w.heap.size w W) => ContainsS_is sa m sc A W (hs.of hW) _ rfl r2 h2
  have c1 := hp.capl; have c2 := hs.capl; clear hp hs h1 h2
  go_enter Try.func13, Try.ntmps13
  have hn' : ¬ ((n : Int) > 4096) := by omega
  have hm' : ¬ ((m : Int) > 4096) := by omega
  go_wp2_with fail
  refine HP.out.mono ?_
  rintro e w1 ⟨rfl, hb⟩
  clear HP
  cases r1
  · go_wp2_with fail
    refine (HS.out _ hb).mono ?_
    rintro e w2 ⟨rfl, hb2⟩
    clear HS
    have hb3 := hb.trans (hb2.mono hb.size)
    clear hb hb2
    cases r2
    · go_wp2
      go_ret
      exact ⟨rfl, hb3⟩
    · go_wp2
      go_ret
      exact ⟨rfl, hb3⟩
  · clear HS
    go_wp2
    go_ret
    exact ⟨rfl, hb⟩
end Go.Proofs.Ytkaolhlmimalkaa

