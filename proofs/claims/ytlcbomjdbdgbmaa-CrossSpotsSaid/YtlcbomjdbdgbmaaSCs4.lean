/- My texts Cr6, CrW, CrX, Bs8, AwC, Cr7, Cr8, AwE, joined: what the last one needs of them. Conditions: as each lemma says. -/
import Derived.Test.YtlcbomjdbdgbmaaSCs3
import Derived.KernelRfl
import Derived.StillTail
import Derived.OrdersHeld
import Derived.Deep.Quiet
import Derived.Below
import Derived.WalkKit
import Derived.Test.YtlcbomjdbdgbmaaProg
import Derived.WalkSpells
import Derived.StillTactics
import Derived.Laws.Pointers
import Derived.Deep.RegionHeld3
import Derived.RowKit3
import Derived.Deep.QuietTactic
import Derived.BigQuiet
import Derived.BigRegion
import Derived.Lib.Hide
import Derived.WalkSmall
import Derived.Laws.BitsAllLaws
import Derived.IntWalk
import Derived.Deep.OwnRows
import Derived.Deep.LoopGhost
import Derived.Shelf.Bits.Mul64
import Derived.ProofKit
import Derived.OpenShut
import Derived.ShutString
import Derived.ChangeOld
import Derived.Lib.SmallJoins
import Derived.Laws.IdiomArrays
namespace Go.Proofs.Ytlcbomjdbdgbmaa
open Go.RowKit

theorem alCr5_0 : AllocRuns Try.prog 35 #[.int .u64 0, .int .u64 0, .int .u64 0, .int .u64 0] := fun w => by kernel_rfl

def cgx (ax : Int) (ay : Int) (bx : Int) (b_y : Int) (cx : Int) (cy : Int) (dx : Int) (dy : Int) : Int := (bif decide (((subv (mulv (wyx ax ay bx b_y) (wyy cx cy dx dy)) (mulv (wyy ax ay bx b_y) (wyx cx cy dx dy))).sign) < 0) then (addv (mulv (lwx ax ay bx b_y) (subv 0 (subv (mulv (wyx ax ay bx b_y) (wyy cx cy dx dy)) (mulv (wyy ax ay bx b_y) (wyx cx cy dx dy))))) (mulv (wyx ax ay bx b_y) (subv 0 (subv (mulv ((wrap64 ((lwx cx cy dx dy) - (lwx ax ay bx b_y)))) (wyy cx cy dx dy)) (mulv ((wrap64 ((lwy cx cy dx dy) - (lwy ax ay bx b_y)))) (wyx cx cy dx dy)))))) else (addv (mulv (lwx ax ay bx b_y) (subv (mulv (wyx ax ay bx b_y) (wyy cx cy dx dy)) (mulv (wyy ax ay bx b_y) (wyx cx cy dx dy)))) (mulv (wyx ax ay bx b_y) (subv (mulv ((wrap64 ((lwx cx cy dx dy) - (lwx ax ay bx b_y)))) (wyy cx cy dx dy)) (mulv ((wrap64 ((lwy cx cy dx dy) - (lwy ax ay bx b_y)))) (wyx cx cy dx dy))))))

def cgy (ax : Int) (ay : Int) (bx : Int) (b_y : Int) (cx : Int) (cy : Int) (dx : Int) (dy : Int) : Int := (bif decide (((subv (mulv (wyx ax ay bx b_y) (wyy cx cy dx dy)) (mulv (wyy ax ay bx b_y) (wyx cx cy dx dy))).sign) < 0) then (addv (mulv (lwy ax ay bx b_y) (subv 0 (subv (mulv (wyx ax ay bx b_y) (wyy cx cy dx dy)) (mulv (wyy ax ay bx b_y) (wyx cx cy dx dy))))) (mulv (wyy ax ay bx b_y) (subv 0 (subv (mulv ((wrap64 ((lwx cx cy dx dy) - (lwx ax ay bx b_y)))) (wyy cx cy dx dy)) (mulv ((wrap64 ((lwy cx cy dx dy) - (lwy ax ay bx b_y)))) (wyx cx cy dx dy)))))) else (addv (mulv (lwy ax ay bx b_y) (subv (mulv (wyx ax ay bx b_y) (wyy cx cy dx dy)) (mulv (wyy ax ay bx b_y) (wyx cx cy dx dy)))) (mulv (wyy ax ay bx b_y) (subv (mulv ((wrap64 ((lwx cx cy dx dy) - (lwx ax ay bx b_y)))) (wyy cx cy dx dy)) (mulv ((wrap64 ((lwy cx cy dx dy) - (lwy ax ay bx b_y)))) (wyx cx cy dx dy))))))

def cgw (ax : Int) (ay : Int) (bx : Int) (b_y : Int) (cx : Int) (cy : Int) (dx : Int) (dy : Int) : Int := (bif decide (((subv (mulv (wyx ax ay bx b_y) (wyy cx cy dx dy)) (mulv (wyy ax ay bx b_y) (wyx cx cy dx dy))).sign) < 0) then (subv 0 (subv (mulv (wyx ax ay bx b_y) (wyy cx cy dx dy)) (mulv (wyy ax ay bx b_y) (wyx cx cy dx dy)))) else (subv (mulv (wyx ax ay bx b_y) (wyy cx cy dx dy)) (mulv (wyy ax ay bx b_y) (wyx cx cy dx dy))))

set_option maxRecDepth 100000 in
set_option maxHeartbeats 4000000 in

theorem crossing_is (ax : Int) (ay : Int) (bx : Int) (b_y : Int) (cx : Int) (cy : Int) (dx : Int) (dy : Int)  (R0 : Int) (R1 : Int) (R2 : Int) (hR0 : cgx ax ay bx b_y cx cy dx dy = R0) (hR1 : cgy ax ay bx b_y cx cy dx dy = R1) (hR2 : cgw ax ay bx b_y cx cy dx dy = R2) (_iax : In64 ax) (_iay : In64 ay) (_ibx : In64 bx) (_ib_y : In64 b_y) (_icx : In64 cx) (_icy : In64 cy) (_idx : In64 dx) (_idy : In64 dy)  (w : World)  :
    Calls Try.prog 103 #[.agg #[.int .i64 ax, .int .i64 ay, .int .i64 bx, .int .i64 b_y], .agg #[.int .i64 cx, .int .i64 cy, .int .i64 dx, .int .i64 dy]] w fun e w' => e = .returned (.agg #[.int .u64 (wd0 R0), .int .u64 (wd1 R0), .int .u64 (wd2 R0), .int .u64 (wd3 R0), .int .u64 (wd0 R1), .int .u64 (wd1 R1), .int .u64 (wd2 R1), .int .u64 (wd3 R1), .int .u64 (wd0 R2), .int .u64 (wd1 R2), .int .u64 (wd2 R2), .int .u64 (wd3 R2)]) ∧ Below w.heap.size w w' := by

  have HR0 := Lib.hid hR0
  clear hR0
  have HR1 := Lib.hid hR1
  clear hR1
  have HR2 := Lib.hid hR2
  clear hR2
  go_enter Try.func103, Try.ntmps103
  go_wp2_with fail
  first | refine calls_w ?_ | refine name_world ?_ | refine list_world ?_ | refine post_world ?_
  intro V1 hV1
  have hn : Below w.heap.size w V1 := by rw [hV1]; exact below_a3 _ _ _ _
  have nhb0 := hn
  have k1 : Blk V1 w.heap.size #[.int .i64 ax, .int .i64 ay, .int .i64 bx, .int .i64 b_y] 50 := by rw [hV1]; exact (((Blk.new _ _ _).alloc _).alloc _)
  have k2 : Blk V1 (w.heap.size + 1) #[.int .i64 cx, .int .i64 cy, .int .i64 dx, .int .i64 dy] 50 := by rw [hV1]; exact ((Blk.new1 _ _ _ _).alloc _)
  have k3 : Blk V1 (w.heap.size + 1 + 1) #[.int .u64 0, .int .u64 0, .int .u64 0, .int .u64 0, .int .u64 0, .int .u64 0, .int .u64 0, .int .u64 0, .int .u64 0, .int .u64 0, .int .u64 0, .int .u64 0] 67 := by rw [hV1]; exact (Blk.new2 _ _ _ _ _)
  clear hV1
  have hb0 := nhb0
  clear nhb0
  obtain ⟨r1, hr1⟩ : ∃ o_o : Int, lwx ax ay bx b_y = o_o := ⟨_, rfl⟩
  have Hr1 := Lib.hid hr1
  clear hr1
  obtain ⟨r2, hr2⟩ : ∃ o_o : Int, lwy ax ay bx b_y = o_o := ⟨_, rfl⟩
  have Hr2 := Lib.hid hr2
  clear hr2
  obtain ⟨r3, hr3⟩ : ∃ o_o : Int, hgx ax ay bx b_y = o_o := ⟨_, rfl⟩
  have Hr3 := Lib.hid hr3
  clear hr3
  obtain ⟨r4, hr4⟩ : ∃ o_o : Int, hgy ax ay bx b_y = o_o := ⟨_, rfl⟩
  have Hr4 := Lib.hid hr4
  clear hr4
  refine (Ends_is ax ay bx b_y r1 r2 r3 r4 Hr1.out Hr2.out Hr3.out Hr4.out _iax _iay _ibx _ib_y  _).mono ?_
  rintro e U2 ⟨rfl, hn⟩
  replace k1 := k1.of hn
  replace k2 := k2.of hn
  replace k3 := k3.of hn
  replace hb0 := hb0.trans (hn.mono hb0.size)
  clear hn
  have c2_0 : U2.cell? ⟨(w.heap.size + 1), 0, none⟩ = some (.int .i64 cx) := k2.cell 0
  have c2_1 : U2.cell? ⟨(w.heap.size + 1), 1, none⟩ = some (.int .i64 cy) := k2.cell 1
  have c2_2 : U2.cell? ⟨(w.heap.size + 1), 2, none⟩ = some (.int .i64 dx) := k2.cell 2
  have c2_3 : U2.cell? ⟨(w.heap.size + 1), 3, none⟩ = some (.int .i64 dy) := k2.cell 3
  have l2 := k2.lt
  have l2_0 : w.heap.size < U2.heap.size := by have := k2.lt; omega
  go_wp2_with fail
  clear c2_0 c2_1 c2_2 c2_3 l2 l2_0
  first | refine calls_w ?_ | refine name_world ?_ | refine list_world ?_ | refine post_world ?_
  intro V3 hV3
  have D1 := Lib.hid k1.lt
  have D2 := Lib.hid k2.lt
  have D3 := Lib.hid k3.lt
  have D4 := Lib.hid hb0.size
  have hn : Below U2.heap.size U2 V3 := by rw [hV3]; exact below_a2 _ _ _
  have nk1 := k1.of hn
  have nk2 := k2.of hn
  have nk3 := k3.of hn
  have nhb0 := hb0.trans (hn.mono hb0.size)
  clear hn
  have k4 : Blk V3 U2.heap.size #[.int .i64 r1, .int .i64 r2] 24 := by rw [hV3]; exact ((Blk.new _ _ _).alloc _)
  have k5 : Blk V3 (U2.heap.size + 1) #[.int .i64 r3, .int .i64 r4] 24 := by rw [hV3]; exact (Blk.new1 _ _ _ _)
  clear k1 k2 k3
  clear hb0
  clear hV3
  have k1 := nk1
  clear nk1
  have k2 := nk2
  clear nk2
  have k3 := nk3
  clear nk3
  have hb0 := nhb0
  clear nhb0
  obtain ⟨r5, hr5⟩ : ∃ o_o : Int, lwx cx cy dx dy = o_o := ⟨_, rfl⟩
  have Hr5 := Lib.hid hr5
  clear hr5
  obtain ⟨r6, hr6⟩ : ∃ o_o : Int, lwy cx cy dx dy = o_o := ⟨_, rfl⟩
  have Hr6 := Lib.hid hr6
  clear hr6
  obtain ⟨r7, hr7⟩ : ∃ o_o : Int, hgx cx cy dx dy = o_o := ⟨_, rfl⟩
  have Hr7 := Lib.hid hr7
  clear hr7
  obtain ⟨r8, hr8⟩ : ∃ o_o : Int, hgy cx cy dx dy = o_o := ⟨_, rfl⟩
  have Hr8 := Lib.hid hr8
  clear hr8
  refine (Ends_is cx cy dx dy r5 r6 r7 r8 Hr5.out Hr6.out Hr7.out Hr8.out _icx _icy _idx _idy  _).mono ?_
  rintro e U4 ⟨rfl, hn⟩
  clear k5
  replace k1 := k1.of hn
  replace k2 := k2.of hn
  replace k3 := k3.of hn
  replace k4 := k4.of hn
  replace hb0 := hb0.trans (hn.mono hb0.size)
  clear hn
  have c1_0 : U4.cell? ⟨w.heap.size, 0, none⟩ = some (.int .i64 ax) := k1.cell 0
  have c1_1 : U4.cell? ⟨w.heap.size, 1, none⟩ = some (.int .i64 ay) := k1.cell 1
  have c1_2 : U4.cell? ⟨w.heap.size, 2, none⟩ = some (.int .i64 bx) := k1.cell 2
  have c1_3 : U4.cell? ⟨w.heap.size, 3, none⟩ = some (.int .i64 b_y) := k1.cell 3
  have l1 := k1.lt
  go_wp2_with fail
  clear c1_0 c1_1 c1_2 c1_3 l1
  first | refine calls_w ?_ | refine name_world ?_ | refine list_world ?_ | refine post_world ?_
  intro V5 hV5
  clear k1
  have D5 := Lib.hid k2.lt
  have D6 := Lib.hid k3.lt
  have D7 := Lib.hid k4.lt
  have D8 := Lib.hid hb0.size
  have hn : Below U4.heap.size U4 V5 := by rw [hV5]; exact below_a2 _ _ _
  have nk2 := k2.of hn
  have nk3 := k3.of hn
  have nk4 := k4.of hn
  have nhb0 := hb0.trans (hn.mono hb0.size)
  clear hn
  have k6 : Blk V5 U4.heap.size #[.int .i64 r5, .int .i64 r6] 24 := by rw [hV5]; exact ((Blk.new _ _ _).alloc _)
  have k7 : Blk V5 (U4.heap.size + 1) #[.int .i64 r7, .int .i64 r8] 24 := by rw [hV5]; exact (Blk.new1 _ _ _ _)
  clear k2 k3 k4
  clear hb0
  clear hV5
  have k2 := nk2
  clear nk2
  have k3 := nk3
  clear nk3
  have k4 := nk4
  clear nk4
  have hb0 := nhb0
  clear nhb0
  obtain ⟨r9, hr9⟩ : ∃ o_o : Int, wyx ax ay bx b_y = o_o := ⟨_, rfl⟩
  have Hr9 := Lib.hid hr9
  clear hr9
  obtain ⟨r10, hr10⟩ : ∃ o_o : Int, wyy ax ay bx b_y = o_o := ⟨_, rfl⟩
  have Hr10 := Lib.hid hr10
  clear hr10
  refine (crway_is ax ay bx b_y r9 r10 Hr9.out Hr10.out _iax _iay _ibx _ib_y  _).mono ?_
  rintro e U6 ⟨rfl, hn⟩
  clear k7
  replace k2 := k2.of hn
  replace k3 := k3.of hn
  replace k4 := k4.of hn
  replace k6 := k6.of hn
  replace hb0 := hb0.trans (hn.mono hb0.size)
  clear hn
  have c2_0 : U6.cell? ⟨(w.heap.size + 1), 0, none⟩ = some (.int .i64 cx) := k2.cell 0
  have c2_1 : U6.cell? ⟨(w.heap.size + 1), 1, none⟩ = some (.int .i64 cy) := k2.cell 1
  have c2_2 : U6.cell? ⟨(w.heap.size + 1), 2, none⟩ = some (.int .i64 dx) := k2.cell 2
  have c2_3 : U6.cell? ⟨(w.heap.size + 1), 3, none⟩ = some (.int .i64 dy) := k2.cell 3
  have l2 := k2.lt
  have l2_0 : w.heap.size < U6.heap.size := by have := k2.lt; omega
  go_wp2_with fail
  clear c2_0 c2_1 c2_2 c2_3 l2 l2_0
  first | refine calls_w ?_ | refine name_world ?_ | refine list_world ?_ | refine post_world ?_
  intro V7 hV7
  clear k2
  have D9 := Lib.hid k3.lt
  have D10 := Lib.hid k4.lt
  have D11 := Lib.hid k6.lt
  have D12 := Lib.hid hb0.size
  have hn : Below U6.heap.size U6 V7 := by rw [hV7]; exact below_a2 _ _ _
  have nk3 := k3.of hn
  have nk4 := k4.of hn
  have nk6 := k6.of hn
  have nhb0 := hb0.trans (hn.mono hb0.size)
  clear hn
  have k8 : Blk V7 U6.heap.size #[.int .u64 (wd0 r9), .int .u64 (wd1 r9), .int .u64 (wd2 r9), .int .u64 (wd3 r9)] 35 := by rw [hV7]; exact ((Blk.new _ _ _).alloc _)
  have k9 : Blk V7 (U6.heap.size + 1) #[.int .u64 (wd0 r10), .int .u64 (wd1 r10), .int .u64 (wd2 r10), .int .u64 (wd3 r10)] 35 := by rw [hV7]; exact (Blk.new1 _ _ _ _)
  clear k3 k4 k6
  clear hb0
  clear hV7
  have k3 := nk3
  clear nk3
  have k4 := nk4
  clear nk4
  have k6 := nk6
  clear nk6
  have hb0 := nhb0
  clear nhb0
  obtain ⟨r11, hr11⟩ : ∃ o_o : Int, wyx cx cy dx dy = o_o := ⟨_, rfl⟩
  have Hr11 := Lib.hid hr11
  clear hr11
  obtain ⟨r12, hr12⟩ : ∃ o_o : Int, wyy cx cy dx dy = o_o := ⟨_, rfl⟩
  have Hr12 := Lib.hid hr12
  clear hr12
  refine (crway_is cx cy dx dy r11 r12 Hr11.out Hr12.out _icx _icy _idx _idy  _).mono ?_
  rintro e U8 ⟨rfl, hn⟩
  replace k3 := k3.of hn
  replace k4 := k4.of hn
  replace k6 := k6.of hn
  replace k8 := k8.of hn
  replace k9 := k9.of hn
  replace hb0 := hb0.trans (hn.mono hb0.size)
  clear hn
  go_wp2_with fail
  first | refine calls_w ?_ | refine name_world ?_ | refine list_world ?_ | refine post_world ?_
  intro V9 hV9
  have D13 := Lib.hid k3.lt
  have D14 := Lib.hid k4.lt
  have D15 := Lib.hid k6.lt
  have D16 := Lib.hid k8.lt
  have D17 := Lib.hid k9.lt
  have D18 := Lib.hid hb0.size
  have hn : Below U8.heap.size U8 V9 := by rw [hV9]; exact below_a2 _ _ _
  have nk3 := k3.of hn
  have nk4 := k4.of hn
  have nk6 := k6.of hn
  have nk8 := k8.of hn
  have nk9 := k9.of hn
  have nhb0 := hb0.trans (hn.mono hb0.size)
  clear hn
  have k10 : Blk V9 U8.heap.size #[.int .u64 (wd0 r11), .int .u64 (wd1 r11), .int .u64 (wd2 r11), .int .u64 (wd3 r11)] 35 := by rw [hV9]; exact ((Blk.new _ _ _).alloc _)
  have k11 : Blk V9 (U8.heap.size + 1) #[.int .u64 (wd0 r12), .int .u64 (wd1 r12), .int .u64 (wd2 r12), .int .u64 (wd3 r12)] 35 := by rw [hV9]; exact (Blk.new1 _ _ _ _)
  clear k3 k4 k6 k8 k9
  clear hb0
  clear hV9
  have k3 := nk3
  clear nk3
  have k4 := nk4
  clear nk4
  have k6 := nk6
  clear nk6
  have k8 := nk8
  clear nk8
  have k9 := nk9
  clear nk9
  have hb0 := nhb0
  clear nhb0
  obtain ⟨r13, hr13⟩ : ∃ o_o : Int, mulv r9 r12 = o_o := ⟨_, rfl⟩
  have Hr13 := Lib.hid hr13
  clear hr13
  obtain ⟨r14, hr14⟩ : ∃ o_o : Int, mulv r10 r11 = o_o := ⟨_, rfl⟩
  have Hr14 := Lib.hid hr14
  clear hr14
  obtain ⟨r15, hr15⟩ : ∃ o_o : Int, subv r13 r14 = o_o := ⟨_, rfl⟩
  have Hr15 := Lib.hid hr15
  clear hr15
  have c8_0 : V9.cell? ⟨U6.heap.size, 0, none⟩ = some (.int .u64 (wd0 r9)) := k8.cell 0
  have c8_1 : V9.cell? ⟨U6.heap.size, 1, none⟩ = some (.int .u64 (wd1 r9)) := k8.cell 1
  have c8_2 : V9.cell? ⟨U6.heap.size, 2, none⟩ = some (.int .u64 (wd2 r9)) := k8.cell 2
  have c8_3 : V9.cell? ⟨U6.heap.size, 3, none⟩ = some (.int .u64 (wd3 r9)) := k8.cell 3
  have l8 := k8.lt
  have c9_0 : V9.cell? ⟨(U6.heap.size + 1), 0, none⟩ = some (.int .u64 (wd0 r10)) := k9.cell 0
  have c9_1 : V9.cell? ⟨(U6.heap.size + 1), 1, none⟩ = some (.int .u64 (wd1 r10)) := k9.cell 1
  have c9_2 : V9.cell? ⟨(U6.heap.size + 1), 2, none⟩ = some (.int .u64 (wd2 r10)) := k9.cell 2
  have c9_3 : V9.cell? ⟨(U6.heap.size + 1), 3, none⟩ = some (.int .u64 (wd3 r10)) := k9.cell 3
  have l9 := k9.lt
  have c10_0 : V9.cell? ⟨U8.heap.size, 0, none⟩ = some (.int .u64 (wd0 r11)) := k10.cell 0
  have c10_1 : V9.cell? ⟨U8.heap.size, 1, none⟩ = some (.int .u64 (wd1 r11)) := k10.cell 1
  have c10_2 : V9.cell? ⟨U8.heap.size, 2, none⟩ = some (.int .u64 (wd2 r11)) := k10.cell 2
  have c10_3 : V9.cell? ⟨U8.heap.size, 3, none⟩ = some (.int .u64 (wd3 r11)) := k10.cell 3
  have l10 := k10.lt
  have c11_0 : V9.cell? ⟨(U8.heap.size + 1), 0, none⟩ = some (.int .u64 (wd0 r12)) := k11.cell 0
  have c11_1 : V9.cell? ⟨(U8.heap.size + 1), 1, none⟩ = some (.int .u64 (wd1 r12)) := k11.cell 1
  have c11_2 : V9.cell? ⟨(U8.heap.size + 1), 2, none⟩ = some (.int .u64 (wd2 r12)) := k11.cell 2
  have c11_3 : V9.cell? ⟨(U8.heap.size + 1), 3, none⟩ = some (.int .u64 (wd3 r12)) := k11.cell 3
  have l11 := k11.lt
  have Kk3 := Lib.hid k3
  clear k3
  have Kk4 := Lib.hid k4
  clear k4
  have Kk6 := Lib.hid k6
  clear k6
  have Kk8 := Lib.hid k8
  clear k8
  have Kk9 := Lib.hid k9
  clear k9
  have Kk10 := Lib.hid k10
  clear k10
  have Kk11 := Lib.hid k11
  clear k11
  refine wp_region_float1 8 7 [(true, 0), (true, 1), (true, 3), (true, 4), (false, 2), (false, 5), (false, 6)] (by kernel_rfl) (by kernel_rfl) (fun _ _ d _ _ => by cases d <;> exact Iff.rfl) rfl rfl rfl alCr5_0 ?_
  have hb : Below V9.heap.size V9 V9.drew := (Below.refl _ _).drew
  iterate 4
    refine wpF_take rfl rfl ?_
    go_big_quiet_step (rfl)
    refine wpQuiet_nil ?_
  refine wpF_do rfl ?_
  intro w1 hg K hK
  replace hb := hb.trans (hg.mono hb.size)
  clear hg
  go_wp2_with ((first | (go_at_call 106; (with_reducible refine (crtimes_is r9 r12 r13 Hr13.out (Hr9.out ▸ wyx_in ax ay bx b_y _iax _iay _ibx _ib_y) (Hr12.out ▸ wyy_in cx cy dx dy _icx _icy _idx _idy)  _).mono ?_); rintro e w2 ⟨rfl, hn⟩) | (go_at_call 106; (with_reducible refine (crtimes_is r10 r11 r14 Hr14.out (Hr10.out ▸ wyy_in ax ay bx b_y _iax _iay _ibx _ib_y) (Hr11.out ▸ wyx_in cx cy dx dy _icx _icy _idx _idy)  _).mono ?_); rintro e w2 ⟨rfl, hn⟩) | (go_at_call 108; (with_reducible refine (crless_is r13 r14 r15 Hr15.out (Hr13.out ▸ mulv_in r9 r12) (Hr14.out ▸ mulv_in r10 r11)  _).mono ?_); rintro e w2 ⟨rfl, hn⟩)))
  refine hK.out _ _ hn ?_
  replace hb := hb.trans (hn.mono hb.size)
  clear hK K
  clear hn
  refine wpF_do rfl ?_
  intro w1 hg K hK
  replace hb := hb.trans (hg.mono hb.size)
  clear hg
  go_wp2_with ((first | (go_at_call 106; (with_reducible refine (crtimes_is r9 r12 r13 Hr13.out (Hr9.out ▸ wyx_in ax ay bx b_y _iax _iay _ibx _ib_y) (Hr12.out ▸ wyy_in cx cy dx dy _icx _icy _idx _idy)  _).mono ?_); rintro e w2 ⟨rfl, hn⟩) | (go_at_call 106; (with_reducible refine (crtimes_is r10 r11 r14 Hr14.out (Hr10.out ▸ wyy_in ax ay bx b_y _iax _iay _ibx _ib_y) (Hr11.out ▸ wyx_in cx cy dx dy _icx _icy _idx _idy)  _).mono ?_); rintro e w2 ⟨rfl, hn⟩) | (go_at_call 108; (with_reducible refine (crless_is r13 r14 r15 Hr15.out (Hr13.out ▸ mulv_in r9 r12) (Hr14.out ▸ mulv_in r10 r11)  _).mono ?_); rintro e w2 ⟨rfl, hn⟩)))
  refine hK.out _ _ hn ?_
  replace hb := hb.trans (hn.mono hb.size)
  clear hK K
  clear hn
  refine wpF_do rfl ?_
  intro w1 hg K hK
  replace hb := hb.trans (hg.mono hb.size)
  clear hg
  go_wp2_with ((first | (go_at_call 106; (with_reducible refine (crtimes_is r9 r12 r13 Hr13.out (Hr9.out ▸ wyx_in ax ay bx b_y _iax _iay _ibx _ib_y) (Hr12.out ▸ wyy_in cx cy dx dy _icx _icy _idx _idy)  _).mono ?_); rintro e w2 ⟨rfl, hn⟩) | (go_at_call 106; (with_reducible refine (crtimes_is r10 r11 r14 Hr14.out (Hr10.out ▸ wyy_in ax ay bx b_y _iax _iay _ibx _ib_y) (Hr11.out ▸ wyx_in cx cy dx dy _icx _icy _idx _idy)  _).mono ?_); rintro e w2 ⟨rfl, hn⟩) | (go_at_call 108; (with_reducible refine (crless_is r13 r14 r15 Hr15.out (Hr13.out ▸ mulv_in r9 r12) (Hr14.out ▸ mulv_in r10 r11)  _).mono ?_); rintro e w2 ⟨rfl, hn⟩)))
  refine hK.out _ _ hn ?_
  replace hb := hb.trans (hn.mono hb.size)
  clear hK K
  clear hn
  refine wpF_nil ?_
  clear hb
  intro w1 hg hb b1 lb1 nb1
  clear hg
  simp only [Act.put, ptrTo, List.setIfInBounds_toArray, List.set_cons_succ, List.set_cons_zero]
  simp only [List.drop_succ_cons, List.drop_zero]
  clear c8_0 c8_1 c8_2 c8_3 l8 c9_0 c9_1 c9_2 c9_3 l9 c10_0 c10_1 c10_2 c10_3 l10 c11_0 c11_1 c11_2 c11_3 l11
  first | refine calls_w ?_ | refine name_world ?_ | refine list_world ?_ | refine post_world ?_
  intro U10 hU10
  subst hU10
  have D19 := Lib.hid Kk3.out.lt
  have D20 := Lib.hid Kk4.out.lt
  have D21 := Lib.hid Kk6.out.lt
  have D22 := Lib.hid Kk8.out.lt
  have D23 := Lib.hid Kk9.out.lt
  have D24 := Lib.hid Kk10.out.lt
  have D25 := Lib.hid Kk11.out.lt
  have D26 := Lib.hid hb0.size
  have k12 : Blk U10 b1 #[.int .u64 0, .int .u64 0, .int .u64 0, .int .u64 0] 35 := nb1
  have k3 := Kk3.out.of hb
  clear Kk3
  have k4 := Kk4.out.of hb
  clear Kk4
  have k6 := Kk6.out.of hb
  clear Kk6
  have k8 := Kk8.out.of hb
  clear Kk8
  have k9 := Kk9.out.of hb
  clear Kk9
  have k10 := Kk10.out.of hb
  clear Kk10
  have k11 := Kk11.out.of hb
  clear Kk11
  have D27 := Lib.hid lb1
  clear nb1 lb1
  replace hb0 := hb0.trans (hb.mono hb0.size)
  clear hb
  generalize b1 = q12 at *
  have c12_0 : U10.cell? ⟨q12, 0, none⟩ = some (.int .u64 0) := k12.cell 0
  have c12_1 : U10.cell? ⟨q12, 1, none⟩ = some (.int .u64 0) := k12.cell 1
  have c12_2 : U10.cell? ⟨q12, 2, none⟩ = some (.int .u64 0) := k12.cell 2
  have c12_3 : U10.cell? ⟨q12, 3, none⟩ = some (.int .u64 0) := k12.cell 3
  have f12_0 := k12.free 0
  have f12_1 := k12.free 1
  have f12_2 := k12.free 2
  have f12_3 := k12.free 3
  have l12 := k12.lt
  go_wp2_with fail
  clear c12_0 c12_1 c12_2 c12_3 f12_0 f12_1 f12_2 f12_3 l12
  first | refine calls_w ?_ | refine name_world ?_ | refine list_world ?_ | refine post_world ?_
  intro V11 hV11
  have D28 := Lib.hid k3.lt
  have D29 := Lib.hid k4.lt
  have D30 := Lib.hid k6.lt
  have D31 := Lib.hid k8.lt
  have D32 := Lib.hid k9.lt
  have D33 := Lib.hid k10.lt
  have D34 := Lib.hid k11.lt
  have D35 := Lib.hid k12.lt
  have D36 := Lib.hid hb0.size
  have nk3 : Blk V11 (w.heap.size + 1 + 1) #[.int .u64 0, .int .u64 0, .int .u64 0, .int .u64 0, .int .u64 0, .int .u64 0, .int .u64 0, .int .u64 0, .int .u64 0, .int .u64 0, .int .u64 0, .int .u64 0] 67 := by rw [hV11]; exact (blk_setL k3 (by have := D19.out; have := D27.out; omega) 0 [.int .u64 (wd0 r15), .int .u64 (wd1 r15), .int .u64 (wd2 r15), .int .u64 (wd3 r15)])
  have nk4 : Blk V11 U2.heap.size #[.int .i64 r1, .int .i64 r2] 24 := by rw [hV11]; exact (blk_setL k4 (by have := D20.out; have := D27.out; omega) 0 [.int .u64 (wd0 r15), .int .u64 (wd1 r15), .int .u64 (wd2 r15), .int .u64 (wd3 r15)])
  have nk6 : Blk V11 U4.heap.size #[.int .i64 r5, .int .i64 r6] 24 := by rw [hV11]; exact (blk_setL k6 (by have := D21.out; have := D27.out; omega) 0 [.int .u64 (wd0 r15), .int .u64 (wd1 r15), .int .u64 (wd2 r15), .int .u64 (wd3 r15)])
  have nk8 : Blk V11 U6.heap.size #[.int .u64 (wd0 r9), .int .u64 (wd1 r9), .int .u64 (wd2 r9), .int .u64 (wd3 r9)] 35 := by rw [hV11]; exact (blk_setL k8 (by have := D22.out; have := D27.out; omega) 0 [.int .u64 (wd0 r15), .int .u64 (wd1 r15), .int .u64 (wd2 r15), .int .u64 (wd3 r15)])
  have nk9 : Blk V11 (U6.heap.size + 1) #[.int .u64 (wd0 r10), .int .u64 (wd1 r10), .int .u64 (wd2 r10), .int .u64 (wd3 r10)] 35 := by rw [hV11]; exact (blk_setL k9 (by have := D23.out; have := D27.out; omega) 0 [.int .u64 (wd0 r15), .int .u64 (wd1 r15), .int .u64 (wd2 r15), .int .u64 (wd3 r15)])
  have nk10 : Blk V11 U8.heap.size #[.int .u64 (wd0 r11), .int .u64 (wd1 r11), .int .u64 (wd2 r11), .int .u64 (wd3 r11)] 35 := by rw [hV11]; exact (blk_setL k10 (by have := D24.out; have := D27.out; omega) 0 [.int .u64 (wd0 r15), .int .u64 (wd1 r15), .int .u64 (wd2 r15), .int .u64 (wd3 r15)])
  have nk11 : Blk V11 (U8.heap.size + 1) #[.int .u64 (wd0 r12), .int .u64 (wd1 r12), .int .u64 (wd2 r12), .int .u64 (wd3 r12)] 35 := by rw [hV11]; exact (blk_setL k11 (by have := D25.out; have := D27.out; omega) 0 [.int .u64 (wd0 r15), .int .u64 (wd1 r15), .int .u64 (wd2 r15), .int .u64 (wd3 r15)])
  have nk12 : Blk V11 q12 #[.int .u64 (wd0 r15), .int .u64 (wd1 r15), .int .u64 (wd2 r15), .int .u64 (wd3 r15)] 35 := by rw [hV11]; exact (blk_full _ [.int .u64 (wd0 r15), .int .u64 (wd1 r15), .int .u64 (wd2 r15), .int .u64 (wd3 r15)] k12 rfl)
  have nhb0 : Below w.heap.size w V11 := by rw [hV11]; exact (blw_setL hb0 (by have := D26.out; have := D27.out; omega) 0 [.int .u64 (wd0 r15), .int .u64 (wd1 r15), .int .u64 (wd2 r15), .int .u64 (wd3 r15)])
  clear k3 k4 k6 k8 k9 k10 k11 k12
  clear hb0
  clear hV11
  have k3 := nk3
  clear nk3
  have k4 := nk4
  clear nk4
  have k6 := nk6
  clear nk6
  have k8 := nk8
  clear nk8
  have k9 := nk9
  clear nk9
  have k10 := nk10
  clear nk10
  have k11 := nk11
  clear nk11
  have k12 := nk12
  clear nk12
  have hb0 := nhb0
  clear nhb0
  obtain ⟨r16, hr16⟩ : ∃ o_o : Int, (wrap64 (r5 - r1)) = o_o := ⟨_, rfl⟩
  have Hr16 := Lib.hid hr16
  clear hr16
  obtain ⟨r17, hr17⟩ : ∃ o_o : Int, (wrap64 (r6 - r2)) = o_o := ⟨_, rfl⟩
  have Hr17 := Lib.hid hr17
  clear hr17
  have c4_0 : V11.cell? ⟨U2.heap.size, 0, none⟩ = some (.int .i64 r1) := k4.cell 0
  have c4_1 : V11.cell? ⟨U2.heap.size, 1, none⟩ = some (.int .i64 r2) := k4.cell 1
  have l4 := k4.lt
  have c6_0 : V11.cell? ⟨U4.heap.size, 0, none⟩ = some (.int .i64 r5) := k6.cell 0
  have c6_1 : V11.cell? ⟨U4.heap.size, 1, none⟩ = some (.int .i64 r6) := k6.cell 1
  have l6 := k6.lt
  have Kk3 := Lib.hid k3
  clear k3
  have Kk4 := Lib.hid k4
  clear k4
  have Kk6 := Lib.hid k6
  clear k6
  have Kk8 := Lib.hid k8
  clear k8
  have Kk9 := Lib.hid k9
  clear k9
  have Kk10 := Lib.hid k10
  clear k10
  have Kk11 := Lib.hid k11
  clear k11
  have Kk12 := Lib.hid k12
  clear k12
  refine wp_region_FG2 14 12 13 [(0, 0), (0, 1), (0, 2), (0, 3), (0, 4), (2, 6), (0, 7), (2, 8), (0, 9), (0, 10), (1, 5), (1, 11)] [(3, 14), (3, 15)] (by kernel_rfl) (by kernel_rfl) (fun _ _ d _ _ => by cases d <;> exact Iff.rfl) rfl rfl rfl alCr5_0 rfl rfl rfl alCr5_0 rfl ?_
  have hb : Below V11.heap.size V11 V11.drew := (Below.refl _ _).drew
  iterate 5
    refine wpFG_take0 rfl rfl ?_
    go_big_quiet_step (rfl)
    refine wpQuiet_nil ?_
  refine wpFG_take2 rfl rfl ?_
  go_big_quiet_step (rfl)
  refine wpQuiet_nil ?_
  refine wpFG_take0 rfl rfl ?_
  go_big_quiet_step (rfl)
  refine wpQuiet_nil ?_
  refine wpFG_take2 rfl rfl ?_
  go_big_quiet_step (rfl)
  refine wpQuiet_nil ?_
  iterate 2
    refine wpFG_take0 rfl rfl ?_
    go_big_quiet_step (rfl)
    refine wpQuiet_nil ?_
  refine wpFG_do rfl ?_
  intro w1 hg K hK
  replace hb := hb.trans (hg.mono hb.size)
  clear hg
  go_wp2_with ((first | (go_at_call 62; (with_reducible refine (Of_v (wrap64 (r5 - r1)) r16 Hr16.out (wrap64_in _) _).mono ?_); rintro e w2 ⟨rfl, hn⟩) | (go_at_call 62; (with_reducible refine (Of_v (wrap64 (r6 - r2)) r17 Hr17.out (wrap64_in _) _).mono ?_); rintro e w2 ⟨rfl, hn⟩)))
  refine hK.out _ _ hn ?_
  replace hb := hb.trans (hn.mono hb.size)
  clear hK K
  clear hn
  refine wpFG_do rfl ?_
  intro w1 hg K hK
  replace hb := hb.trans (hg.mono hb.size)
  clear hg
  go_wp2_with ((first | (go_at_call 62; (with_reducible refine (Of_v (wrap64 (r5 - r1)) r16 Hr16.out (wrap64_in _) _).mono ?_); rintro e w2 ⟨rfl, hn⟩) | (go_at_call 62; (with_reducible refine (Of_v (wrap64 (r6 - r2)) r17 Hr17.out (wrap64_in _) _).mono ?_); rintro e w2 ⟨rfl, hn⟩)))
  refine hK.out _ _ hn ?_
  replace hb := hb.trans (hn.mono hb.size)
  clear hK K
  clear hn
  refine wpFG_nil ?_
  clear hb
  intro w1 hg hb b1 b2 hne lb1 nb1 lb2 nb2
  clear hg
  simp only [Act.put, ptrTo, List.setIfInBounds_toArray, List.set_cons_succ, List.set_cons_zero]
  have m1 : Blk w1 b1 #[.int .u64 0, .int .u64 0, .int .u64 0, .int .u64 0] 35 := nb1
  have mc1_0 : w1.cell? ⟨b1, 0, none⟩ = some (.int .u64 0) := m1.cell 0
  have mf1_0 := m1.free 0
  have mc1_1 : w1.cell? ⟨b1, 1, none⟩ = some (.int .u64 0) := m1.cell 1
  have mf1_1 := m1.free 1
  have mc1_2 : w1.cell? ⟨b1, 2, none⟩ = some (.int .u64 0) := m1.cell 2
  have mf1_2 := m1.free 2
  have mc1_3 : w1.cell? ⟨b1, 3, none⟩ = some (.int .u64 0) := m1.cell 3
  have mf1_3 := m1.free 3
  have m2 : Blk w1 b2 #[.int .u64 0, .int .u64 0, .int .u64 0, .int .u64 0] 35 := nb2
  have mc2_0 : w1.cell? ⟨b2, 0, none⟩ = some (.int .u64 0) := m2.cell 0
  have mf2_0 := m2.free 0
  have mc2_1 : w1.cell? ⟨b2, 1, none⟩ = some (.int .u64 0) := m2.cell 1
  have mf2_1 := m2.free 1
  have mc2_2 : w1.cell? ⟨b2, 2, none⟩ = some (.int .u64 0) := m2.cell 2
  have mf2_2 := m2.free 2
  have mc2_3 : w1.cell? ⟨b2, 3, none⟩ = some (.int .u64 0) := m2.cell 3
  have mf2_3 := m2.free 3
  refine wpG_do3 rfl ?_
  intro K hK
  go_wp2_with (fail)
  refine hK.out _ _ ?_
  clear hK K
  refine wpG_do3 rfl ?_
  intro K hK
  go_wp2_with (fail)
  refine hK.out _ _ ?_
  clear hK K
  refine wpG_nil ?_
  refine list_world ?_
  intro U12 hU12
  clear c4_0 c4_1 l4 c6_0 c6_1 l6
  have D37 := Lib.hid Kk3.out.lt
  have D38 := Lib.hid Kk4.out.lt
  have D39 := Lib.hid Kk6.out.lt
  have D40 := Lib.hid Kk8.out.lt
  have D41 := Lib.hid Kk9.out.lt
  have D42 := Lib.hid Kk10.out.lt
  have D43 := Lib.hid Kk11.out.lt
  have D44 := Lib.hid Kk12.out.lt
  have D45 := Lib.hid hb0.size
  have D46 := Lib.hid lb1
  have D47 := Lib.hid lb2
  have D48 := Lib.hid (show b1 ≠ b2 from hne)
  have k3 : Blk U12 (w.heap.size + 1 + 1) #[.int .u64 0, .int .u64 0, .int .u64 0, .int .u64 0, .int .u64 0, .int .u64 0, .int .u64 0, .int .u64 0, .int .u64 0, .int .u64 0, .int .u64 0, .int .u64 0] 67 := by rw [hU12]; exact (blk_setL (blk_setL (Kk3.out.of hb) (by have := D37.out; have := D46.out; omega) 0 [.int .u64 (wd0 r16), .int .u64 (wd1 r16), .int .u64 (wd2 r16), .int .u64 (wd3 r16)]) (by have := D37.out; have := D47.out; omega) 0 [.int .u64 (wd0 r17), .int .u64 (wd1 r17), .int .u64 (wd2 r17), .int .u64 (wd3 r17)])
  have k4 : Blk U12 U2.heap.size #[.int .i64 r1, .int .i64 r2] 24 := by rw [hU12]; exact (blk_setL (blk_setL (Kk4.out.of hb) (by have := D38.out; have := D46.out; omega) 0 [.int .u64 (wd0 r16), .int .u64 (wd1 r16), .int .u64 (wd2 r16), .int .u64 (wd3 r16)]) (by have := D38.out; have := D47.out; omega) 0 [.int .u64 (wd0 r17), .int .u64 (wd1 r17), .int .u64 (wd2 r17), .int .u64 (wd3 r17)])
  have k6 : Blk U12 U4.heap.size #[.int .i64 r5, .int .i64 r6] 24 := by rw [hU12]; exact (blk_setL (blk_setL (Kk6.out.of hb) (by have := D39.out; have := D46.out; omega) 0 [.int .u64 (wd0 r16), .int .u64 (wd1 r16), .int .u64 (wd2 r16), .int .u64 (wd3 r16)]) (by have := D39.out; have := D47.out; omega) 0 [.int .u64 (wd0 r17), .int .u64 (wd1 r17), .int .u64 (wd2 r17), .int .u64 (wd3 r17)])
  have k8 : Blk U12 U6.heap.size #[.int .u64 (wd0 r9), .int .u64 (wd1 r9), .int .u64 (wd2 r9), .int .u64 (wd3 r9)] 35 := by rw [hU12]; exact (blk_setL (blk_setL (Kk8.out.of hb) (by have := D40.out; have := D46.out; omega) 0 [.int .u64 (wd0 r16), .int .u64 (wd1 r16), .int .u64 (wd2 r16), .int .u64 (wd3 r16)]) (by have := D40.out; have := D47.out; omega) 0 [.int .u64 (wd0 r17), .int .u64 (wd1 r17), .int .u64 (wd2 r17), .int .u64 (wd3 r17)])
  have k9 : Blk U12 (U6.heap.size + 1) #[.int .u64 (wd0 r10), .int .u64 (wd1 r10), .int .u64 (wd2 r10), .int .u64 (wd3 r10)] 35 := by rw [hU12]; exact (blk_setL (blk_setL (Kk9.out.of hb) (by have := D41.out; have := D46.out; omega) 0 [.int .u64 (wd0 r16), .int .u64 (wd1 r16), .int .u64 (wd2 r16), .int .u64 (wd3 r16)]) (by have := D41.out; have := D47.out; omega) 0 [.int .u64 (wd0 r17), .int .u64 (wd1 r17), .int .u64 (wd2 r17), .int .u64 (wd3 r17)])
  have k10 : Blk U12 U8.heap.size #[.int .u64 (wd0 r11), .int .u64 (wd1 r11), .int .u64 (wd2 r11), .int .u64 (wd3 r11)] 35 := by rw [hU12]; exact (blk_setL (blk_setL (Kk10.out.of hb) (by have := D42.out; have := D46.out; omega) 0 [.int .u64 (wd0 r16), .int .u64 (wd1 r16), .int .u64 (wd2 r16), .int .u64 (wd3 r16)]) (by have := D42.out; have := D47.out; omega) 0 [.int .u64 (wd0 r17), .int .u64 (wd1 r17), .int .u64 (wd2 r17), .int .u64 (wd3 r17)])
  have k11 : Blk U12 (U8.heap.size + 1) #[.int .u64 (wd0 r12), .int .u64 (wd1 r12), .int .u64 (wd2 r12), .int .u64 (wd3 r12)] 35 := by rw [hU12]; exact (blk_setL (blk_setL (Kk11.out.of hb) (by have := D43.out; have := D46.out; omega) 0 [.int .u64 (wd0 r16), .int .u64 (wd1 r16), .int .u64 (wd2 r16), .int .u64 (wd3 r16)]) (by have := D43.out; have := D47.out; omega) 0 [.int .u64 (wd0 r17), .int .u64 (wd1 r17), .int .u64 (wd2 r17), .int .u64 (wd3 r17)])
  have k12 : Blk U12 q12 #[.int .u64 (wd0 r15), .int .u64 (wd1 r15), .int .u64 (wd2 r15), .int .u64 (wd3 r15)] 35 := by rw [hU12]; exact (blk_setL (blk_setL (Kk12.out.of hb) (by have := D44.out; have := D46.out; omega) 0 [.int .u64 (wd0 r16), .int .u64 (wd1 r16), .int .u64 (wd2 r16), .int .u64 (wd3 r16)]) (by have := D44.out; have := D47.out; omega) 0 [.int .u64 (wd0 r17), .int .u64 (wd1 r17), .int .u64 (wd2 r17), .int .u64 (wd3 r17)])
  have k13 : Blk U12 b1 #[.int .u64 (wd0 r16), .int .u64 (wd1 r16), .int .u64 (wd2 r16), .int .u64 (wd3 r16)] 35 := by rw [hU12]; exact (blk_setL (blk_full _ [.int .u64 (wd0 r16), .int .u64 (wd1 r16), .int .u64 (wd2 r16), .int .u64 (wd3 r16)] m1 rfl) (by have := D48.out; omega) 0 [.int .u64 (wd0 r17), .int .u64 (wd1 r17), .int .u64 (wd2 r17), .int .u64 (wd3 r17)])
  have k14 : Blk U12 b2 #[.int .u64 (wd0 r17), .int .u64 (wd1 r17), .int .u64 (wd2 r17), .int .u64 (wd3 r17)] 35 := by rw [hU12]; exact (blk_full _ [.int .u64 (wd0 r17), .int .u64 (wd1 r17), .int .u64 (wd2 r17), .int .u64 (wd3 r17)] (blk_setL m2 (by have := D48.out; omega) 0 [.int .u64 (wd0 r16), .int .u64 (wd1 r16), .int .u64 (wd2 r16), .int .u64 (wd3 r16)]) rfl)
  replace hb0 : Below w.heap.size w U12 := by rw [hU12]; exact (blw_setL (blw_setL (hb0.trans (hb.mono hb0.size)) (by have := D45.out; have := D46.out; omega) 0 [.int .u64 (wd0 r16), .int .u64 (wd1 r16), .int .u64 (wd2 r16), .int .u64 (wd3 r16)]) (by have := D45.out; have := D47.out; omega) 0 [.int .u64 (wd0 r17), .int .u64 (wd1 r17), .int .u64 (wd2 r17), .int .u64 (wd3 r17)])
  clear hU12 hb Kk3 Kk4 Kk6 Kk8 Kk9 Kk10 Kk11 Kk12 m1 nb1 lb1 mc1_0 mf1_0 mc1_1 mf1_1 mc1_2 mf1_2 mc1_3 mf1_3 m2 nb2 lb2 mc2_0 mf2_0 mc2_1 mf2_1 mc2_2 mf2_2 mc2_3 mf2_3 hne
  generalize b1 = q13 at *
  generalize b2 = q14 at *
  go_wp2_with fail
  clear k6
  obtain ⟨r18, hr18⟩ : ∃ o_o : Int, mulv r16 r12 = o_o := ⟨_, rfl⟩
  have Hr18 := Lib.hid hr18
  clear hr18
  obtain ⟨r19, hr19⟩ : ∃ o_o : Int, mulv r17 r11 = o_o := ⟨_, rfl⟩
  have Hr19 := Lib.hid hr19
  clear hr19
  obtain ⟨r20, hr20⟩ : ∃ o_o : Int, subv r18 r19 = o_o := ⟨_, rfl⟩
  have Hr20 := Lib.hid hr20
  clear hr20
  have c10_0 : U12.cell? ⟨U8.heap.size, 0, none⟩ = some (.int .u64 (wd0 r11)) := k10.cell 0
  have c10_1 : U12.cell? ⟨U8.heap.size, 1, none⟩ = some (.int .u64 (wd1 r11)) := k10.cell 1
  have c10_2 : U12.cell? ⟨U8.heap.size, 2, none⟩ = some (.int .u64 (wd2 r11)) := k10.cell 2
  have c10_3 : U12.cell? ⟨U8.heap.size, 3, none⟩ = some (.int .u64 (wd3 r11)) := k10.cell 3
  have l10 := k10.lt
  have c11_0 : U12.cell? ⟨(U8.heap.size + 1), 0, none⟩ = some (.int .u64 (wd0 r12)) := k11.cell 0
  have c11_1 : U12.cell? ⟨(U8.heap.size + 1), 1, none⟩ = some (.int .u64 (wd1 r12)) := k11.cell 1
  have c11_2 : U12.cell? ⟨(U8.heap.size + 1), 2, none⟩ = some (.int .u64 (wd2 r12)) := k11.cell 2
  have c11_3 : U12.cell? ⟨(U8.heap.size + 1), 3, none⟩ = some (.int .u64 (wd3 r12)) := k11.cell 3
  have l11 := k11.lt
  have c13_0 : U12.cell? ⟨q13, 0, none⟩ = some (.int .u64 (wd0 r16)) := k13.cell 0
  have c13_1 : U12.cell? ⟨q13, 1, none⟩ = some (.int .u64 (wd1 r16)) := k13.cell 1
  have c13_2 : U12.cell? ⟨q13, 2, none⟩ = some (.int .u64 (wd2 r16)) := k13.cell 2
  have c13_3 : U12.cell? ⟨q13, 3, none⟩ = some (.int .u64 (wd3 r16)) := k13.cell 3
  have l13 := k13.lt
  have c14_0 : U12.cell? ⟨q14, 0, none⟩ = some (.int .u64 (wd0 r17)) := k14.cell 0
  have c14_1 : U12.cell? ⟨q14, 1, none⟩ = some (.int .u64 (wd1 r17)) := k14.cell 1
  have c14_2 : U12.cell? ⟨q14, 2, none⟩ = some (.int .u64 (wd2 r17)) := k14.cell 2
  have c14_3 : U12.cell? ⟨q14, 3, none⟩ = some (.int .u64 (wd3 r17)) := k14.cell 3
  have l14 := k14.lt
  have Kk3 := Lib.hid k3
  clear k3
  have Kk4 := Lib.hid k4
  clear k4
  have Kk8 := Lib.hid k8
  clear k8
  have Kk9 := Lib.hid k9
  clear k9
  have Kk10 := Lib.hid k10
  clear k10
  have Kk11 := Lib.hid k11
  clear k11
  have Kk12 := Lib.hid k12
  clear k12
  have Kk13 := Lib.hid k13
  clear k13
  have Kk14 := Lib.hid k14
  clear k14
  refine wp_region_float1 8 7 [(true, 0), (true, 1), (true, 3), (true, 4), (false, 2), (false, 5), (false, 6)] (by kernel_rfl) (by kernel_rfl) (fun _ _ d _ _ => by cases d <;> exact Iff.rfl) rfl rfl rfl alCr5_0 ?_
  have hb : Below U12.heap.size U12 U12.drew := (Below.refl _ _).drew
  iterate 4
    refine wpF_take rfl rfl ?_
    go_big_quiet_step (rfl)
    refine wpQuiet_nil ?_
  refine wpF_do rfl ?_
  intro w1 hg K hK
  replace hb := hb.trans (hg.mono hb.size)
  clear hg
  go_wp2_with ((first | (go_at_call 106; (with_reducible refine (crtimes_is r16 r12 r18 Hr18.out (Hr16.out ▸ in64_I' (wrap64_in _)) (Hr12.out ▸ wyy_in cx cy dx dy _icx _icy _idx _idy)  _).mono ?_); rintro e w2 ⟨rfl, hn⟩) | (go_at_call 106; (with_reducible refine (crtimes_is r17 r11 r19 Hr19.out (Hr17.out ▸ in64_I' (wrap64_in _)) (Hr11.out ▸ wyx_in cx cy dx dy _icx _icy _idx _idy)  _).mono ?_); rintro e w2 ⟨rfl, hn⟩) | (go_at_call 108; (with_reducible refine (crless_is r18 r19 r20 Hr20.out (Hr18.out ▸ mulv_in r16 r12) (Hr19.out ▸ mulv_in r17 r11)  _).mono ?_); rintro e w2 ⟨rfl, hn⟩)))
  refine hK.out _ _ hn ?_
  replace hb := hb.trans (hn.mono hb.size)
  clear hK K
  clear hn
  refine wpF_do rfl ?_
  intro w1 hg K hK
  replace hb := hb.trans (hg.mono hb.size)
  clear hg
  go_wp2_with ((first | (go_at_call 106; (with_reducible refine (crtimes_is r16 r12 r18 Hr18.out (Hr16.out ▸ in64_I' (wrap64_in _)) (Hr12.out ▸ wyy_in cx cy dx dy _icx _icy _idx _idy)  _).mono ?_); rintro e w2 ⟨rfl, hn⟩) | (go_at_call 106; (with_reducible refine (crtimes_is r17 r11 r19 Hr19.out (Hr17.out ▸ in64_I' (wrap64_in _)) (Hr11.out ▸ wyx_in cx cy dx dy _icx _icy _idx _idy)  _).mono ?_); rintro e w2 ⟨rfl, hn⟩) | (go_at_call 108; (with_reducible refine (crless_is r18 r19 r20 Hr20.out (Hr18.out ▸ mulv_in r16 r12) (Hr19.out ▸ mulv_in r17 r11)  _).mono ?_); rintro e w2 ⟨rfl, hn⟩)))
  refine hK.out _ _ hn ?_
  replace hb := hb.trans (hn.mono hb.size)
  clear hK K
  clear hn
  refine wpF_do rfl ?_
  intro w1 hg K hK
  replace hb := hb.trans (hg.mono hb.size)
  clear hg
  go_wp2_with ((first | (go_at_call 106; (with_reducible refine (crtimes_is r16 r12 r18 Hr18.out (Hr16.out ▸ in64_I' (wrap64_in _)) (Hr12.out ▸ wyy_in cx cy dx dy _icx _icy _idx _idy)  _).mono ?_); rintro e w2 ⟨rfl, hn⟩) | (go_at_call 106; (with_reducible refine (crtimes_is r17 r11 r19 Hr19.out (Hr17.out ▸ in64_I' (wrap64_in _)) (Hr11.out ▸ wyx_in cx cy dx dy _icx _icy _idx _idy)  _).mono ?_); rintro e w2 ⟨rfl, hn⟩) | (go_at_call 108; (with_reducible refine (crless_is r18 r19 r20 Hr20.out (Hr18.out ▸ mulv_in r16 r12) (Hr19.out ▸ mulv_in r17 r11)  _).mono ?_); rintro e w2 ⟨rfl, hn⟩)))
  refine hK.out _ _ hn ?_
  replace hb := hb.trans (hn.mono hb.size)
  clear hK K
  clear hn
  refine wpF_nil ?_
  clear hb
  intro w1 hg hb b1 lb1 nb1
  clear hg
  simp only [Act.put, ptrTo, List.setIfInBounds_toArray, List.set_cons_succ, List.set_cons_zero]
  simp only [List.drop_succ_cons, List.drop_zero]
  clear c10_0 c10_1 c10_2 c10_3 l10 c11_0 c11_1 c11_2 c11_3 l11 c13_0 c13_1 c13_2 c13_3 l13 c14_0 c14_1 c14_2 c14_3 l14
  first | refine calls_w ?_ | refine name_world ?_ | refine list_world ?_ | refine post_world ?_
  intro U13 hU13
  subst hU13
  have D49 := Lib.hid Kk3.out.lt
  have D50 := Lib.hid Kk4.out.lt
  have D51 := Lib.hid Kk8.out.lt
  have D52 := Lib.hid Kk9.out.lt
  have D53 := Lib.hid Kk10.out.lt
  have D54 := Lib.hid Kk11.out.lt
  have D55 := Lib.hid Kk12.out.lt
  have D56 := Lib.hid Kk13.out.lt
  have D57 := Lib.hid Kk14.out.lt
  have D58 := Lib.hid hb0.size
  have k15 : Blk U13 b1 #[.int .u64 0, .int .u64 0, .int .u64 0, .int .u64 0] 35 := nb1
  have k3 := Kk3.out.of hb
  clear Kk3
  have k4 := Kk4.out.of hb
  clear Kk4
  have k8 := Kk8.out.of hb
  clear Kk8
  have k9 := Kk9.out.of hb
  clear Kk9
  have k10 := Kk10.out.of hb
  clear Kk10
  have k11 := Kk11.out.of hb
  clear Kk11
  have k12 := Kk12.out.of hb
  clear Kk12
  have k13 := Kk13.out.of hb
  clear Kk13
  have k14 := Kk14.out.of hb
  clear Kk14
  have D59 := Lib.hid lb1
  clear nb1 lb1
  replace hb0 := hb0.trans (hb.mono hb0.size)
  clear hb
  generalize b1 = q15 at *
  have c12_0 : U13.cell? ⟨q12, 0, none⟩ = some (.int .u64 (wd0 r15)) := k12.cell 0
  have c12_1 : U13.cell? ⟨q12, 1, none⟩ = some (.int .u64 (wd1 r15)) := k12.cell 1
  have c12_2 : U13.cell? ⟨q12, 2, none⟩ = some (.int .u64 (wd2 r15)) := k12.cell 2
  have c12_3 : U13.cell? ⟨q12, 3, none⟩ = some (.int .u64 (wd3 r15)) := k12.cell 3
  have l12 := k12.lt
  have c15_0 : U13.cell? ⟨q15, 0, none⟩ = some (.int .u64 0) := k15.cell 0
  have c15_1 : U13.cell? ⟨q15, 1, none⟩ = some (.int .u64 0) := k15.cell 1
  have c15_2 : U13.cell? ⟨q15, 2, none⟩ = some (.int .u64 0) := k15.cell 2
  have c15_3 : U13.cell? ⟨q15, 3, none⟩ = some (.int .u64 0) := k15.cell 3
  have f15_0 := k15.free 0
  have f15_1 := k15.free 1
  have f15_2 := k15.free 2
  have f15_3 := k15.free 3
  have l15 := k15.lt
  have p12_15 : q12 ≠ q15 := (by have := D55.out; have := D59.out; omega)
  go_wp2_with fail
  clear c12_0 c12_1 c12_2 c12_3 l12 c15_0 c15_1 c15_2 c15_3 f15_0 f15_1 f15_2 f15_3 l15 p12_15
  first | refine calls_w ?_ | refine name_world ?_ | refine list_world ?_ | refine post_world ?_
  intro V14 hV14
  clear k10 k11 k13 k14
  have D60 := Lib.hid k3.lt
  have D61 := Lib.hid k4.lt
  have D62 := Lib.hid k8.lt
  have D63 := Lib.hid k9.lt
  have D64 := Lib.hid k12.lt
  have D65 := Lib.hid k15.lt
  have D66 := Lib.hid hb0.size
  have nk3 : Blk V14 (w.heap.size + 1 + 1) #[.int .u64 0, .int .u64 0, .int .u64 0, .int .u64 0, .int .u64 0, .int .u64 0, .int .u64 0, .int .u64 0, .int .u64 0, .int .u64 0, .int .u64 0, .int .u64 0] 67 := by rw [hV14]; exact (blk_setL k3 (by have := D49.out; have := D59.out; omega) 0 [.int .u64 (wd0 r20), .int .u64 (wd1 r20), .int .u64 (wd2 r20), .int .u64 (wd3 r20)])
  have nk4 : Blk V14 U2.heap.size #[.int .i64 r1, .int .i64 r2] 24 := by rw [hV14]; exact (blk_setL k4 (by have := D50.out; have := D59.out; omega) 0 [.int .u64 (wd0 r20), .int .u64 (wd1 r20), .int .u64 (wd2 r20), .int .u64 (wd3 r20)])
  have nk8 : Blk V14 U6.heap.size #[.int .u64 (wd0 r9), .int .u64 (wd1 r9), .int .u64 (wd2 r9), .int .u64 (wd3 r9)] 35 := by rw [hV14]; exact (blk_setL k8 (by have := D51.out; have := D59.out; omega) 0 [.int .u64 (wd0 r20), .int .u64 (wd1 r20), .int .u64 (wd2 r20), .int .u64 (wd3 r20)])
  have nk9 : Blk V14 (U6.heap.size + 1) #[.int .u64 (wd0 r10), .int .u64 (wd1 r10), .int .u64 (wd2 r10), .int .u64 (wd3 r10)] 35 := by rw [hV14]; exact (blk_setL k9 (by have := D52.out; have := D59.out; omega) 0 [.int .u64 (wd0 r20), .int .u64 (wd1 r20), .int .u64 (wd2 r20), .int .u64 (wd3 r20)])
  have nk12 : Blk V14 q12 #[.int .u64 (wd0 r15), .int .u64 (wd1 r15), .int .u64 (wd2 r15), .int .u64 (wd3 r15)] 35 := by rw [hV14]; exact (blk_setL k12 (by have := D55.out; have := D59.out; omega) 0 [.int .u64 (wd0 r20), .int .u64 (wd1 r20), .int .u64 (wd2 r20), .int .u64 (wd3 r20)])
  have nk15 : Blk V14 q15 #[.int .u64 (wd0 r20), .int .u64 (wd1 r20), .int .u64 (wd2 r20), .int .u64 (wd3 r20)] 35 := by rw [hV14]; exact (blk_full _ [.int .u64 (wd0 r20), .int .u64 (wd1 r20), .int .u64 (wd2 r20), .int .u64 (wd3 r20)] k15 rfl)
  have nhb0 : Below w.heap.size w V14 := by rw [hV14]; exact (blw_setL hb0 (by have := D58.out; have := D59.out; omega) 0 [.int .u64 (wd0 r20), .int .u64 (wd1 r20), .int .u64 (wd2 r20), .int .u64 (wd3 r20)])
  clear k3 k4 k8 k9 k12 k15
  clear hb0
  clear hV14
  have k3 := nk3
  clear nk3
  have k4 := nk4
  clear nk4
  have k8 := nk8
  clear nk8
  have k9 := nk9
  clear nk9
  have k12 := nk12
  clear nk12
  have k15 := nk15
  clear nk15
  have hb0 := nhb0
  clear nhb0
  obtain ⟨r21, hr21⟩ : ∃ o_o : Int, r15.sign = o_o := ⟨_, rfl⟩
  have Hr21 := Lib.hid hr21
  clear hr21
  refine (Sign_v r15 r21 Hr21.out (Hr15.out ▸ subv_in r13 r14) _).mono ?_
  rintro e U15 ⟨rfl, hn⟩
  replace k3 := k3.of hn
  replace k4 := k4.of hn
  replace k8 := k8.of hn
  replace k9 := k9.of hn
  replace k12 := k12.of hn
  replace k15 := k15.of hn
  replace hb0 := hb0.trans (hn.mono hb0.size)
  clear hn
  obtain ⟨z22, hz22⟩ : ∃ o_o : Bool, decide (r21 < 0) = o_o := ⟨_, rfl⟩
  cases z22
  · go_wp2_with fail
    obtain ⟨r23, hr23⟩ : ∃ o_o : Int, mulv r1 r15 = o_o := ⟨_, rfl⟩
    have Hr23 := Lib.hid hr23
    clear hr23
    obtain ⟨r24, hr24⟩ : ∃ o_o : Int, mulv r9 r20 = o_o := ⟨_, rfl⟩
    have Hr24 := Lib.hid hr24
    clear hr24
    obtain ⟨r25, hr25⟩ : ∃ o_o : Int, addv r23 r24 = o_o := ⟨_, rfl⟩
    have Hr25 := Lib.hid hr25
    clear hr25
    obtain ⟨r26, hr26⟩ : ∃ o_o : Int, mulv r2 r15 = o_o := ⟨_, rfl⟩
    have Hr26 := Lib.hid hr26
    clear hr26
    obtain ⟨r27, hr27⟩ : ∃ o_o : Int, mulv r10 r20 = o_o := ⟨_, rfl⟩
    have Hr27 := Lib.hid hr27
    clear hr27
    obtain ⟨r28, hr28⟩ : ∃ o_o : Int, addv r26 r27 = o_o := ⟨_, rfl⟩
    have Hr28 := Lib.hid hr28
    clear hr28
    have c4_0 : U15.cell? ⟨U2.heap.size, 0, none⟩ = some (.int .i64 r1) := k4.cell 0
    have c4_1 : U15.cell? ⟨U2.heap.size, 1, none⟩ = some (.int .i64 r2) := k4.cell 1
    have l4 := k4.lt
    have c8_0 : U15.cell? ⟨U6.heap.size, 0, none⟩ = some (.int .u64 (wd0 r9)) := k8.cell 0
    have c8_1 : U15.cell? ⟨U6.heap.size, 1, none⟩ = some (.int .u64 (wd1 r9)) := k8.cell 1
    have c8_2 : U15.cell? ⟨U6.heap.size, 2, none⟩ = some (.int .u64 (wd2 r9)) := k8.cell 2
    have c8_3 : U15.cell? ⟨U6.heap.size, 3, none⟩ = some (.int .u64 (wd3 r9)) := k8.cell 3
    have l8 := k8.lt
    have c9_0 : U15.cell? ⟨(U6.heap.size + 1), 0, none⟩ = some (.int .u64 (wd0 r10)) := k9.cell 0
    have c9_1 : U15.cell? ⟨(U6.heap.size + 1), 1, none⟩ = some (.int .u64 (wd1 r10)) := k9.cell 1
    have c9_2 : U15.cell? ⟨(U6.heap.size + 1), 2, none⟩ = some (.int .u64 (wd2 r10)) := k9.cell 2
    have c9_3 : U15.cell? ⟨(U6.heap.size + 1), 3, none⟩ = some (.int .u64 (wd3 r10)) := k9.cell 3
    have l9 := k9.lt
    have c12_0 : U15.cell? ⟨q12, 0, none⟩ = some (.int .u64 (wd0 r15)) := k12.cell 0
    have c12_1 : U15.cell? ⟨q12, 1, none⟩ = some (.int .u64 (wd1 r15)) := k12.cell 1
    have c12_2 : U15.cell? ⟨q12, 2, none⟩ = some (.int .u64 (wd2 r15)) := k12.cell 2
    have c12_3 : U15.cell? ⟨q12, 3, none⟩ = some (.int .u64 (wd3 r15)) := k12.cell 3
    have l12 := k12.lt
    have c15_0 : U15.cell? ⟨q15, 0, none⟩ = some (.int .u64 (wd0 r20)) := k15.cell 0
    have c15_1 : U15.cell? ⟨q15, 1, none⟩ = some (.int .u64 (wd1 r20)) := k15.cell 1
    have c15_2 : U15.cell? ⟨q15, 2, none⟩ = some (.int .u64 (wd2 r20)) := k15.cell 2
    have c15_3 : U15.cell? ⟨q15, 3, none⟩ = some (.int .u64 (wd3 r20)) := k15.cell 3
    have l15 := k15.lt
    have Kk3 := Lib.hid k3
    clear k3
    have Kk4 := Lib.hid k4
    clear k4
    have Kk8 := Lib.hid k8
    clear k8
    have Kk9 := Lib.hid k9
    clear k9
    have Kk12 := Lib.hid k12
    clear k12
    have Kk15 := Lib.hid k15
    clear k15
    refine wp_region_up U15.heap.size 19 [(true, 0), (true, 1), (true, 3), (true, 5), (true, 6), (true, 9), (true, 10), (true, 12), (true, 14), (true, 15), (true, 18), (false, 2), (false, 4), (false, 7), (false, 8), (false, 11), (false, 13), (false, 16), (false, 17)] (by kernel_rfl) (by kernel_rfl) (fun _ _ d _ _ h => by cases d <;> exact h) ?_
    have hb : Below U15.heap.size U15 U15.drew := (Below.refl _ _).drew
    iterate 11
      refine wpS_takeL rfl rfl ?_
      go_big_quiet_step (rfl)
      refine wpQuiet_nil ?_
    refine wpS_doL rfl ?_
    intro K hK
    go_wp2_with ((first | (go_at_call 62; (with_reducible refine (Of_v r1 r1 rfl (Hr1.out ▸ lwx_in ax ay bx b_y _iax _iay _ibx _ib_y) _).mono ?_); rintro e w2 ⟨rfl, hn⟩) | (go_at_call 106; (with_reducible refine (crtimes_is r1 r15 r23 Hr23.out (in64_I' (Hr1.out ▸ lwx_in ax ay bx b_y _iax _iay _ibx _ib_y)) (Hr15.out ▸ subv_in r13 r14)  _).mono ?_); rintro e w2 ⟨rfl, hn⟩) | (go_at_call 106; (with_reducible refine (crtimes_is r9 r20 r24 Hr24.out (Hr9.out ▸ wyx_in ax ay bx b_y _iax _iay _ibx _ib_y) (Hr20.out ▸ subv_in r18 r19)  _).mono ?_); rintro e w2 ⟨rfl, hn⟩) | (go_at_call 133; (with_reducible refine (crplus_is r23 r24 r25 Hr25.out (Hr23.out ▸ mulv_in r1 r15) (Hr24.out ▸ mulv_in r9 r20)  _).mono ?_); rintro e w2 ⟨rfl, hn⟩) | (go_at_call 62; (with_reducible refine (Of_v r2 r2 rfl (Hr2.out ▸ lwy_in ax ay bx b_y _iax _iay _ibx _ib_y) _).mono ?_); rintro e w2 ⟨rfl, hn⟩) | (go_at_call 106; (with_reducible refine (crtimes_is r2 r15 r26 Hr26.out (in64_I' (Hr2.out ▸ lwy_in ax ay bx b_y _iax _iay _ibx _ib_y)) (Hr15.out ▸ subv_in r13 r14)  _).mono ?_); rintro e w2 ⟨rfl, hn⟩) | (go_at_call 106; (with_reducible refine (crtimes_is r10 r20 r27 Hr27.out (Hr10.out ▸ wyy_in ax ay bx b_y _iax _iay _ibx _ib_y) (Hr20.out ▸ subv_in r18 r19)  _).mono ?_); rintro e w2 ⟨rfl, hn⟩) | (go_at_call 133; (with_reducible refine (crplus_is r26 r27 r28 Hr28.out (Hr26.out ▸ mulv_in r2 r15) (Hr27.out ▸ mulv_in r10 r20)  _).mono ?_); rintro e w2 ⟨rfl, hn⟩)))
    replace hb := hb.trans (hn.mono hb.size)
    refine hK.out _ _ (up_iff.2 hb) ?_
    clear hK K
    clear hn
    refine wpS_doL rfl ?_
    intro K hK
    go_wp2_with ((first | (go_at_call 62; (with_reducible refine (Of_v r1 r1 rfl (Hr1.out ▸ lwx_in ax ay bx b_y _iax _iay _ibx _ib_y) _).mono ?_); rintro e w2 ⟨rfl, hn⟩) | (go_at_call 106; (with_reducible refine (crtimes_is r1 r15 r23 Hr23.out (in64_I' (Hr1.out ▸ lwx_in ax ay bx b_y _iax _iay _ibx _ib_y)) (Hr15.out ▸ subv_in r13 r14)  _).mono ?_); rintro e w2 ⟨rfl, hn⟩) | (go_at_call 106; (with_reducible refine (crtimes_is r9 r20 r24 Hr24.out (Hr9.out ▸ wyx_in ax ay bx b_y _iax _iay _ibx _ib_y) (Hr20.out ▸ subv_in r18 r19)  _).mono ?_); rintro e w2 ⟨rfl, hn⟩) | (go_at_call 133; (with_reducible refine (crplus_is r23 r24 r25 Hr25.out (Hr23.out ▸ mulv_in r1 r15) (Hr24.out ▸ mulv_in r9 r20)  _).mono ?_); rintro e w2 ⟨rfl, hn⟩) | (go_at_call 62; (with_reducible refine (Of_v r2 r2 rfl (Hr2.out ▸ lwy_in ax ay bx b_y _iax _iay _ibx _ib_y) _).mono ?_); rintro e w2 ⟨rfl, hn⟩) | (go_at_call 106; (with_reducible refine (crtimes_is r2 r15 r26 Hr26.out (in64_I' (Hr2.out ▸ lwy_in ax ay bx b_y _iax _iay _ibx _ib_y)) (Hr15.out ▸ subv_in r13 r14)  _).mono ?_); rintro e w2 ⟨rfl, hn⟩) | (go_at_call 106; (with_reducible refine (crtimes_is r10 r20 r27 Hr27.out (Hr10.out ▸ wyy_in ax ay bx b_y _iax _iay _ibx _ib_y) (Hr20.out ▸ subv_in r18 r19)  _).mono ?_); rintro e w2 ⟨rfl, hn⟩) | (go_at_call 133; (with_reducible refine (crplus_is r26 r27 r28 Hr28.out (Hr26.out ▸ mulv_in r2 r15) (Hr27.out ▸ mulv_in r10 r20)  _).mono ?_); rintro e w2 ⟨rfl, hn⟩)))
    replace hb := hb.trans (hn.mono hb.size)
    refine hK.out _ _ (up_iff.2 hb) ?_
    clear hK K
    clear hn
    refine wpS_doL rfl ?_
    intro K hK
    go_wp2_with ((first | (go_at_call 62; (with_reducible refine (Of_v r1 r1 rfl (Hr1.out ▸ lwx_in ax ay bx b_y _iax _iay _ibx _ib_y) _).mono ?_); rintro e w2 ⟨rfl, hn⟩) | (go_at_call 106; (with_reducible refine (crtimes_is r1 r15 r23 Hr23.out (in64_I' (Hr1.out ▸ lwx_in ax ay bx b_y _iax _iay _ibx _ib_y)) (Hr15.out ▸ subv_in r13 r14)  _).mono ?_); rintro e w2 ⟨rfl, hn⟩) | (go_at_call 106; (with_reducible refine (crtimes_is r9 r20 r24 Hr24.out (Hr9.out ▸ wyx_in ax ay bx b_y _iax _iay _ibx _ib_y) (Hr20.out ▸ subv_in r18 r19)  _).mono ?_); rintro e w2 ⟨rfl, hn⟩) | (go_at_call 133; (with_reducible refine (crplus_is r23 r24 r25 Hr25.out (Hr23.out ▸ mulv_in r1 r15) (Hr24.out ▸ mulv_in r9 r20)  _).mono ?_); rintro e w2 ⟨rfl, hn⟩) | (go_at_call 62; (with_reducible refine (Of_v r2 r2 rfl (Hr2.out ▸ lwy_in ax ay bx b_y _iax _iay _ibx _ib_y) _).mono ?_); rintro e w2 ⟨rfl, hn⟩) | (go_at_call 106; (with_reducible refine (crtimes_is r2 r15 r26 Hr26.out (in64_I' (Hr2.out ▸ lwy_in ax ay bx b_y _iax _iay _ibx _ib_y)) (Hr15.out ▸ subv_in r13 r14)  _).mono ?_); rintro e w2 ⟨rfl, hn⟩) | (go_at_call 106; (with_reducible refine (crtimes_is r10 r20 r27 Hr27.out (Hr10.out ▸ wyy_in ax ay bx b_y _iax _iay _ibx _ib_y) (Hr20.out ▸ subv_in r18 r19)  _).mono ?_); rintro e w2 ⟨rfl, hn⟩) | (go_at_call 133; (with_reducible refine (crplus_is r26 r27 r28 Hr28.out (Hr26.out ▸ mulv_in r2 r15) (Hr27.out ▸ mulv_in r10 r20)  _).mono ?_); rintro e w2 ⟨rfl, hn⟩)))
    replace hb := hb.trans (hn.mono hb.size)
    refine hK.out _ _ (up_iff.2 hb) ?_
    clear hK K
    clear hn
    refine wpS_doL rfl ?_
    intro K hK
    go_wp2_with ((first | (go_at_call 62; (with_reducible refine (Of_v r1 r1 rfl (Hr1.out ▸ lwx_in ax ay bx b_y _iax _iay _ibx _ib_y) _).mono ?_); rintro e w2 ⟨rfl, hn⟩) | (go_at_call 106; (with_reducible refine (crtimes_is r1 r15 r23 Hr23.out (in64_I' (Hr1.out ▸ lwx_in ax ay bx b_y _iax _iay _ibx _ib_y)) (Hr15.out ▸ subv_in r13 r14)  _).mono ?_); rintro e w2 ⟨rfl, hn⟩) | (go_at_call 106; (with_reducible refine (crtimes_is r9 r20 r24 Hr24.out (Hr9.out ▸ wyx_in ax ay bx b_y _iax _iay _ibx _ib_y) (Hr20.out ▸ subv_in r18 r19)  _).mono ?_); rintro e w2 ⟨rfl, hn⟩) | (go_at_call 133; (with_reducible refine (crplus_is r23 r24 r25 Hr25.out (Hr23.out ▸ mulv_in r1 r15) (Hr24.out ▸ mulv_in r9 r20)  _).mono ?_); rintro e w2 ⟨rfl, hn⟩) | (go_at_call 62; (with_reducible refine (Of_v r2 r2 rfl (Hr2.out ▸ lwy_in ax ay bx b_y _iax _iay _ibx _ib_y) _).mono ?_); rintro e w2 ⟨rfl, hn⟩) | (go_at_call 106; (with_reducible refine (crtimes_is r2 r15 r26 Hr26.out (in64_I' (Hr2.out ▸ lwy_in ax ay bx b_y _iax _iay _ibx _ib_y)) (Hr15.out ▸ subv_in r13 r14)  _).mono ?_); rintro e w2 ⟨rfl, hn⟩) | (go_at_call 106; (with_reducible refine (crtimes_is r10 r20 r27 Hr27.out (Hr10.out ▸ wyy_in ax ay bx b_y _iax _iay _ibx _ib_y) (Hr20.out ▸ subv_in r18 r19)  _).mono ?_); rintro e w2 ⟨rfl, hn⟩) | (go_at_call 133; (with_reducible refine (crplus_is r26 r27 r28 Hr28.out (Hr26.out ▸ mulv_in r2 r15) (Hr27.out ▸ mulv_in r10 r20)  _).mono ?_); rintro e w2 ⟨rfl, hn⟩)))
    replace hb := hb.trans (hn.mono hb.size)
    refine hK.out _ _ (up_iff.2 hb) ?_
    clear hK K
    clear hn
    refine wpS_doL rfl ?_
    intro K hK
    go_wp2_with ((first | (go_at_call 62; (with_reducible refine (Of_v r1 r1 rfl (Hr1.out ▸ lwx_in ax ay bx b_y _iax _iay _ibx _ib_y) _).mono ?_); rintro e w2 ⟨rfl, hn⟩) | (go_at_call 106; (with_reducible refine (crtimes_is r1 r15 r23 Hr23.out (in64_I' (Hr1.out ▸ lwx_in ax ay bx b_y _iax _iay _ibx _ib_y)) (Hr15.out ▸ subv_in r13 r14)  _).mono ?_); rintro e w2 ⟨rfl, hn⟩) | (go_at_call 106; (with_reducible refine (crtimes_is r9 r20 r24 Hr24.out (Hr9.out ▸ wyx_in ax ay bx b_y _iax _iay _ibx _ib_y) (Hr20.out ▸ subv_in r18 r19)  _).mono ?_); rintro e w2 ⟨rfl, hn⟩) | (go_at_call 133; (with_reducible refine (crplus_is r23 r24 r25 Hr25.out (Hr23.out ▸ mulv_in r1 r15) (Hr24.out ▸ mulv_in r9 r20)  _).mono ?_); rintro e w2 ⟨rfl, hn⟩) | (go_at_call 62; (with_reducible refine (Of_v r2 r2 rfl (Hr2.out ▸ lwy_in ax ay bx b_y _iax _iay _ibx _ib_y) _).mono ?_); rintro e w2 ⟨rfl, hn⟩) | (go_at_call 106; (with_reducible refine (crtimes_is r2 r15 r26 Hr26.out (in64_I' (Hr2.out ▸ lwy_in ax ay bx b_y _iax _iay _ibx _ib_y)) (Hr15.out ▸ subv_in r13 r14)  _).mono ?_); rintro e w2 ⟨rfl, hn⟩) | (go_at_call 106; (with_reducible refine (crtimes_is r10 r20 r27 Hr27.out (Hr10.out ▸ wyy_in ax ay bx b_y _iax _iay _ibx _ib_y) (Hr20.out ▸ subv_in r18 r19)  _).mono ?_); rintro e w2 ⟨rfl, hn⟩) | (go_at_call 133; (with_reducible refine (crplus_is r26 r27 r28 Hr28.out (Hr26.out ▸ mulv_in r2 r15) (Hr27.out ▸ mulv_in r10 r20)  _).mono ?_); rintro e w2 ⟨rfl, hn⟩)))
    replace hb := hb.trans (hn.mono hb.size)
    refine hK.out _ _ (up_iff.2 hb) ?_
    clear hK K
    clear hn
    refine wpS_doL rfl ?_
    intro K hK
    go_wp2_with ((first | (go_at_call 62; (with_reducible refine (Of_v r1 r1 rfl (Hr1.out ▸ lwx_in ax ay bx b_y _iax _iay _ibx _ib_y) _).mono ?_); rintro e w2 ⟨rfl, hn⟩) | (go_at_call 106; (with_reducible refine (crtimes_is r1 r15 r23 Hr23.out (in64_I' (Hr1.out ▸ lwx_in ax ay bx b_y _iax _iay _ibx _ib_y)) (Hr15.out ▸ subv_in r13 r14)  _).mono ?_); rintro e w2 ⟨rfl, hn⟩) | (go_at_call 106; (with_reducible refine (crtimes_is r9 r20 r24 Hr24.out (Hr9.out ▸ wyx_in ax ay bx b_y _iax _iay _ibx _ib_y) (Hr20.out ▸ subv_in r18 r19)  _).mono ?_); rintro e w2 ⟨rfl, hn⟩) | (go_at_call 133; (with_reducible refine (crplus_is r23 r24 r25 Hr25.out (Hr23.out ▸ mulv_in r1 r15) (Hr24.out ▸ mulv_in r9 r20)  _).mono ?_); rintro e w2 ⟨rfl, hn⟩) | (go_at_call 62; (with_reducible refine (Of_v r2 r2 rfl (Hr2.out ▸ lwy_in ax ay bx b_y _iax _iay _ibx _ib_y) _).mono ?_); rintro e w2 ⟨rfl, hn⟩) | (go_at_call 106; (with_reducible refine (crtimes_is r2 r15 r26 Hr26.out (in64_I' (Hr2.out ▸ lwy_in ax ay bx b_y _iax _iay _ibx _ib_y)) (Hr15.out ▸ subv_in r13 r14)  _).mono ?_); rintro e w2 ⟨rfl, hn⟩) | (go_at_call 106; (with_reducible refine (crtimes_is r10 r20 r27 Hr27.out (Hr10.out ▸ wyy_in ax ay bx b_y _iax _iay _ibx _ib_y) (Hr20.out ▸ subv_in r18 r19)  _).mono ?_); rintro e w2 ⟨rfl, hn⟩) | (go_at_call 133; (with_reducible refine (crplus_is r26 r27 r28 Hr28.out (Hr26.out ▸ mulv_in r2 r15) (Hr27.out ▸ mulv_in r10 r20)  _).mono ?_); rintro e w2 ⟨rfl, hn⟩)))
    replace hb := hb.trans (hn.mono hb.size)
    refine hK.out _ _ (up_iff.2 hb) ?_
    clear hK K
    clear hn
    refine wpS_doL rfl ?_
    intro K hK
    go_wp2_with ((first | (go_at_call 62; (with_reducible refine (Of_v r1 r1 rfl (Hr1.out ▸ lwx_in ax ay bx b_y _iax _iay _ibx _ib_y) _).mono ?_); rintro e w2 ⟨rfl, hn⟩) | (go_at_call 106; (with_reducible refine (crtimes_is r1 r15 r23 Hr23.out (in64_I' (Hr1.out ▸ lwx_in ax ay bx b_y _iax _iay _ibx _ib_y)) (Hr15.out ▸ subv_in r13 r14)  _).mono ?_); rintro e w2 ⟨rfl, hn⟩) | (go_at_call 106; (with_reducible refine (crtimes_is r9 r20 r24 Hr24.out (Hr9.out ▸ wyx_in ax ay bx b_y _iax _iay _ibx _ib_y) (Hr20.out ▸ subv_in r18 r19)  _).mono ?_); rintro e w2 ⟨rfl, hn⟩) | (go_at_call 133; (with_reducible refine (crplus_is r23 r24 r25 Hr25.out (Hr23.out ▸ mulv_in r1 r15) (Hr24.out ▸ mulv_in r9 r20)  _).mono ?_); rintro e w2 ⟨rfl, hn⟩) | (go_at_call 62; (with_reducible refine (Of_v r2 r2 rfl (Hr2.out ▸ lwy_in ax ay bx b_y _iax _iay _ibx _ib_y) _).mono ?_); rintro e w2 ⟨rfl, hn⟩) | (go_at_call 106; (with_reducible refine (crtimes_is r2 r15 r26 Hr26.out (in64_I' (Hr2.out ▸ lwy_in ax ay bx b_y _iax _iay _ibx _ib_y)) (Hr15.out ▸ subv_in r13 r14)  _).mono ?_); rintro e w2 ⟨rfl, hn⟩) | (go_at_call 106; (with_reducible refine (crtimes_is r10 r20 r27 Hr27.out (Hr10.out ▸ wyy_in ax ay bx b_y _iax _iay _ibx _ib_y) (Hr20.out ▸ subv_in r18 r19)  _).mono ?_); rintro e w2 ⟨rfl, hn⟩) | (go_at_call 133; (with_reducible refine (crplus_is r26 r27 r28 Hr28.out (Hr26.out ▸ mulv_in r2 r15) (Hr27.out ▸ mulv_in r10 r20)  _).mono ?_); rintro e w2 ⟨rfl, hn⟩)))
    replace hb := hb.trans (hn.mono hb.size)
    refine hK.out _ _ (up_iff.2 hb) ?_
    clear hK K
    clear hn
    refine wpS_doL rfl ?_
    intro K hK
    go_wp2_with ((first | (go_at_call 62; (with_reducible refine (Of_v r1 r1 rfl (Hr1.out ▸ lwx_in ax ay bx b_y _iax _iay _ibx _ib_y) _).mono ?_); rintro e w2 ⟨rfl, hn⟩) | (go_at_call 106; (with_reducible refine (crtimes_is r1 r15 r23 Hr23.out (in64_I' (Hr1.out ▸ lwx_in ax ay bx b_y _iax _iay _ibx _ib_y)) (Hr15.out ▸ subv_in r13 r14)  _).mono ?_); rintro e w2 ⟨rfl, hn⟩) | (go_at_call 106; (with_reducible refine (crtimes_is r9 r20 r24 Hr24.out (Hr9.out ▸ wyx_in ax ay bx b_y _iax _iay _ibx _ib_y) (Hr20.out ▸ subv_in r18 r19)  _).mono ?_); rintro e w2 ⟨rfl, hn⟩) | (go_at_call 133; (with_reducible refine (crplus_is r23 r24 r25 Hr25.out (Hr23.out ▸ mulv_in r1 r15) (Hr24.out ▸ mulv_in r9 r20)  _).mono ?_); rintro e w2 ⟨rfl, hn⟩) | (go_at_call 62; (with_reducible refine (Of_v r2 r2 rfl (Hr2.out ▸ lwy_in ax ay bx b_y _iax _iay _ibx _ib_y) _).mono ?_); rintro e w2 ⟨rfl, hn⟩) | (go_at_call 106; (with_reducible refine (crtimes_is r2 r15 r26 Hr26.out (in64_I' (Hr2.out ▸ lwy_in ax ay bx b_y _iax _iay _ibx _ib_y)) (Hr15.out ▸ subv_in r13 r14)  _).mono ?_); rintro e w2 ⟨rfl, hn⟩) | (go_at_call 106; (with_reducible refine (crtimes_is r10 r20 r27 Hr27.out (Hr10.out ▸ wyy_in ax ay bx b_y _iax _iay _ibx _ib_y) (Hr20.out ▸ subv_in r18 r19)  _).mono ?_); rintro e w2 ⟨rfl, hn⟩) | (go_at_call 133; (with_reducible refine (crplus_is r26 r27 r28 Hr28.out (Hr26.out ▸ mulv_in r2 r15) (Hr27.out ▸ mulv_in r10 r20)  _).mono ?_); rintro e w2 ⟨rfl, hn⟩)))
    replace hb := hb.trans (hn.mono hb.size)
    refine hK.out _ _ (up_iff.2 hb) ?_
    clear hK K
    clear hn
    refine wpS_nil ?_
    simp only [List.drop_succ_cons, List.drop_zero]
    first | refine calls_w ?_ | refine name_world ?_ | refine list_world ?_ | refine post_world ?_
    intro U16 hU16
    first | subst hU16 | (rw [← hU16] at hb; clear hU16)
    clear c4_0 c4_1 l4 c8_0 c8_1 c8_2 c8_3 l8 c9_0 c9_1 c9_2 c9_3 l9 c12_0 c12_1 c12_2 c12_3 l12 c15_0 c15_1 c15_2 c15_3 l15
    have k3 := Kk3.out.of hb
    clear Kk3
    have k4 := Kk4.out.of hb
    clear Kk4
    have k8 := Kk8.out.of hb
    clear Kk8
    have k9 := Kk9.out.of hb
    clear Kk9
    have k12 := Kk12.out.of hb
    clear Kk12
    have k15 := Kk15.out.of hb
    clear Kk15
    replace hb0 := hb0.trans (hb.mono hb0.size)
    clear hb
    have c3_0 : U16.cell? ⟨(w.heap.size + 1 + 1), 0, none⟩ = some (.int .u64 0) := k3.cell 0
    have c3_1 : U16.cell? ⟨(w.heap.size + 1 + 1), 1, none⟩ = some (.int .u64 0) := k3.cell 1
    have c3_2 : U16.cell? ⟨(w.heap.size + 1 + 1), 2, none⟩ = some (.int .u64 0) := k3.cell 2
    have c3_3 : U16.cell? ⟨(w.heap.size + 1 + 1), 3, none⟩ = some (.int .u64 0) := k3.cell 3
    have c3_4 : U16.cell? ⟨(w.heap.size + 1 + 1), 4, none⟩ = some (.int .u64 0) := k3.cell 4
    have c3_5 : U16.cell? ⟨(w.heap.size + 1 + 1), 5, none⟩ = some (.int .u64 0) := k3.cell 5
    have c3_6 : U16.cell? ⟨(w.heap.size + 1 + 1), 6, none⟩ = some (.int .u64 0) := k3.cell 6
    have c3_7 : U16.cell? ⟨(w.heap.size + 1 + 1), 7, none⟩ = some (.int .u64 0) := k3.cell 7
    have c3_8 : U16.cell? ⟨(w.heap.size + 1 + 1), 8, none⟩ = some (.int .u64 0) := k3.cell 8
    have c3_9 : U16.cell? ⟨(w.heap.size + 1 + 1), 9, none⟩ = some (.int .u64 0) := k3.cell 9
    have c3_10 : U16.cell? ⟨(w.heap.size + 1 + 1), 10, none⟩ = some (.int .u64 0) := k3.cell 10
    have c3_11 : U16.cell? ⟨(w.heap.size + 1 + 1), 11, none⟩ = some (.int .u64 0) := k3.cell 11
    have f3_0 := k3.free 0
    have f3_1 := k3.free 1
    have f3_2 := k3.free 2
    have f3_3 := k3.free 3
    have f3_4 := k3.free 4
    have f3_5 := k3.free 5
    have f3_6 := k3.free 6
    have f3_7 := k3.free 7
    have f3_8 := k3.free 8
    have f3_9 := k3.free 9
    have f3_10 := k3.free 10
    have f3_11 := k3.free 11
    have l3 := k3.lt
    have e0 : r25 = R0 := by rw [← HR0.out]; unfold cgx; (try rw [Hr1.out]); (try rw [Hr2.out]); (try rw [Hr3.out]); (try rw [Hr4.out]); (try rw [Hr5.out]); (try rw [Hr6.out]); (try rw [Hr7.out]); (try rw [Hr8.out]); (try rw [Hr9.out]); (try rw [Hr10.out]); (try rw [Hr11.out]); (try rw [Hr12.out]); (try rw [Hr13.out]); (try rw [Hr14.out]); (try rw [Hr15.out]); (try rw [Hr16.out]); (try rw [Hr17.out]); (try rw [Hr18.out]); (try rw [Hr19.out]); (try rw [Hr20.out]); (try rw [Hr21.out]); (try rw [hz22]); (try rw [Hr23.out]); (try rw [Hr24.out]); (try rw [Hr25.out]); (try rw [Hr26.out]); (try rw [Hr27.out]); (try rw [Hr28.out]); all_goals first | rfl | simp
    have e1 : r28 = R1 := by rw [← HR1.out]; unfold cgy; (try rw [Hr1.out]); (try rw [Hr2.out]); (try rw [Hr3.out]); (try rw [Hr4.out]); (try rw [Hr5.out]); (try rw [Hr6.out]); (try rw [Hr7.out]); (try rw [Hr8.out]); (try rw [Hr9.out]); (try rw [Hr10.out]); (try rw [Hr11.out]); (try rw [Hr12.out]); (try rw [Hr13.out]); (try rw [Hr14.out]); (try rw [Hr15.out]); (try rw [Hr16.out]); (try rw [Hr17.out]); (try rw [Hr18.out]); (try rw [Hr19.out]); (try rw [Hr20.out]); (try rw [Hr21.out]); (try rw [hz22]); (try rw [Hr23.out]); (try rw [Hr24.out]); (try rw [Hr25.out]); (try rw [Hr26.out]); (try rw [Hr27.out]); (try rw [Hr28.out]); all_goals first | rfl | simp
    have e2 : r15 = R2 := by rw [← HR2.out]; unfold cgw; (try rw [Hr1.out]); (try rw [Hr2.out]); (try rw [Hr3.out]); (try rw [Hr4.out]); (try rw [Hr5.out]); (try rw [Hr6.out]); (try rw [Hr7.out]); (try rw [Hr8.out]); (try rw [Hr9.out]); (try rw [Hr10.out]); (try rw [Hr11.out]); (try rw [Hr12.out]); (try rw [Hr13.out]); (try rw [Hr14.out]); (try rw [Hr15.out]); (try rw [Hr16.out]); (try rw [Hr17.out]); (try rw [Hr18.out]); (try rw [Hr19.out]); (try rw [Hr20.out]); (try rw [Hr21.out]); (try rw [hz22]); (try rw [Hr23.out]); (try rw [Hr24.out]); (try rw [Hr25.out]); (try rw [Hr26.out]); (try rw [Hr27.out]); (try rw [Hr28.out]); all_goals first | rfl | simp
    subst e0
    subst e1
    subst e2
    go_wp2
    clear c3_0 c3_1 c3_2 c3_3 c3_4 c3_5 c3_6 c3_7 c3_8 c3_9 c3_10 c3_11 f3_0 f3_1 f3_2 f3_3 f3_4 f3_5 f3_6 f3_7 f3_8 f3_9 f3_10 f3_11 l3
    first | refine post_world ?_
    intro V17 hV17
    clear k4 k8 k9 k12 k15
    have D67 := Lib.hid k3.lt
    have D68 := Lib.hid hb0.size
    have nk3 : Blk V17 (w.heap.size + 1 + 1) #[.int .u64 (wd0 r25), .int .u64 (wd1 r25), .int .u64 (wd2 r25), .int .u64 (wd3 r25), .int .u64 (wd0 r28), .int .u64 (wd1 r28), .int .u64 (wd2 r28), .int .u64 (wd3 r28), .int .u64 (wd0 r15), .int .u64 (wd1 r15), .int .u64 (wd2 r15), .int .u64 (wd3 r15)] 67 := by rw [hV17]; exact (blk_full _ [.int .u64 (wd0 r25), .int .u64 (wd1 r25), .int .u64 (wd2 r25), .int .u64 (wd3 r25), .int .u64 (wd0 r28), .int .u64 (wd1 r28), .int .u64 (wd2 r28), .int .u64 (wd3 r28), .int .u64 (wd0 r15), .int .u64 (wd1 r15), .int .u64 (wd2 r15), .int .u64 (wd3 r15)] k3 rfl)
    have nhb0 : Below w.heap.size w V17 := by rw [hV17]; exact (blw_setL hb0 (by omega) 0 [.int .u64 (wd0 r25), .int .u64 (wd1 r25), .int .u64 (wd2 r25), .int .u64 (wd3 r25), .int .u64 (wd0 r28), .int .u64 (wd1 r28), .int .u64 (wd2 r28), .int .u64 (wd3 r28), .int .u64 (wd0 r15), .int .u64 (wd1 r15), .int .u64 (wd2 r15), .int .u64 (wd3 r15)])
    clear k3
    clear hb0
    clear hV17
    have k3 := nk3
    clear nk3
    have hb0 := nhb0
    clear nhb0
    have g3_0 : V17.cell? ⟨(w.heap.size + 1 + 1), 0, none⟩ = some (.int .u64 (wd0 r25)) := k3.cell 0
    have g3_1 : V17.cell? ⟨(w.heap.size + 1 + 1), 1, none⟩ = some (.int .u64 (wd1 r25)) := k3.cell 1
    have g3_2 : V17.cell? ⟨(w.heap.size + 1 + 1), 2, none⟩ = some (.int .u64 (wd2 r25)) := k3.cell 2
    have g3_3 : V17.cell? ⟨(w.heap.size + 1 + 1), 3, none⟩ = some (.int .u64 (wd3 r25)) := k3.cell 3
    have g3_4 : V17.cell? ⟨(w.heap.size + 1 + 1), 4, none⟩ = some (.int .u64 (wd0 r28)) := k3.cell 4
    have g3_5 : V17.cell? ⟨(w.heap.size + 1 + 1), 5, none⟩ = some (.int .u64 (wd1 r28)) := k3.cell 5
    have g3_6 : V17.cell? ⟨(w.heap.size + 1 + 1), 6, none⟩ = some (.int .u64 (wd2 r28)) := k3.cell 6
    have g3_7 : V17.cell? ⟨(w.heap.size + 1 + 1), 7, none⟩ = some (.int .u64 (wd3 r28)) := k3.cell 7
    have g3_8 : V17.cell? ⟨(w.heap.size + 1 + 1), 8, none⟩ = some (.int .u64 (wd0 r15)) := k3.cell 8
    have g3_9 : V17.cell? ⟨(w.heap.size + 1 + 1), 9, none⟩ = some (.int .u64 (wd1 r15)) := k3.cell 9
    have g3_10 : V17.cell? ⟨(w.heap.size + 1 + 1), 10, none⟩ = some (.int .u64 (wd2 r15)) := k3.cell 10
    have g3_11 : V17.cell? ⟨(w.heap.size + 1 + 1), 11, none⟩ = some (.int .u64 (wd3 r15)) := k3.cell 11
    clear k3
    simp [bodyPost, results, Try.results103, go_sem, g3_0, g3_1, g3_2, g3_3, g3_4, g3_5, g3_6, g3_7, g3_8, g3_9, g3_10, g3_11]
    first | exact hb0 | exact ⟨rfl, hb0⟩
  · go_wp2_with fail
    obtain ⟨r29, hr29⟩ : ∃ o_o : Int, subv 0 r15 = o_o := ⟨_, rfl⟩
    have Hr29 := Lib.hid hr29
    clear hr29
    obtain ⟨r30, hr30⟩ : ∃ o_o : Int, subv 0 r20 = o_o := ⟨_, rfl⟩
    have Hr30 := Lib.hid hr30
    clear hr30
    have c12_0 : U15.cell? ⟨q12, 0, none⟩ = some (.int .u64 (wd0 r15)) := k12.cell 0
    have c12_1 : U15.cell? ⟨q12, 1, none⟩ = some (.int .u64 (wd1 r15)) := k12.cell 1
    have c12_2 : U15.cell? ⟨q12, 2, none⟩ = some (.int .u64 (wd2 r15)) := k12.cell 2
    have c12_3 : U15.cell? ⟨q12, 3, none⟩ = some (.int .u64 (wd3 r15)) := k12.cell 3
    have f12_0 := k12.free 0
    have f12_1 := k12.free 1
    have f12_2 := k12.free 2
    have f12_3 := k12.free 3
    have l12 := k12.lt
    have c15_0 : U15.cell? ⟨q15, 0, none⟩ = some (.int .u64 (wd0 r20)) := k15.cell 0
    have c15_1 : U15.cell? ⟨q15, 1, none⟩ = some (.int .u64 (wd1 r20)) := k15.cell 1
    have c15_2 : U15.cell? ⟨q15, 2, none⟩ = some (.int .u64 (wd2 r20)) := k15.cell 2
    have c15_3 : U15.cell? ⟨q15, 3, none⟩ = some (.int .u64 (wd3 r20)) := k15.cell 3
    have f15_0 := k15.free 0
    have f15_1 := k15.free 1
    have f15_2 := k15.free 2
    have f15_3 := k15.free 3
    have l15 := k15.lt
    have p12_15 : q12 ≠ q15 := (by have := D55.out; have := D59.out; omega)
    have Kk3 := Lib.hid k3
    clear k3
    have Kk4 := Lib.hid k4
    clear k4
    have Kk8 := Lib.hid k8
    clear k8
    have Kk9 := Lib.hid k9
    clear k9
    have Kk12 := Lib.hid k12
    clear k12
    have Kk15 := Lib.hid k15
    clear k15
    refine wp_region_G 6 [(0, 0), (0, 1), (0, 3), (0, 4), (1, 2), (1, 5), (3, 6), (3, 7)] (by kernel_rfl) (by kernel_rfl) (fun _ _ d _ _ => by cases d <;> exact Iff.rfl) ?_
    have hb : Below U15.heap.size U15 U15.drew := (Below.refl _ _).drew
    iterate 4
      refine wpG_take0 rfl rfl ?_
      go_big_quiet_step (rfl)
      refine wpQuiet_nil ?_
    refine wpG_do1 rfl ?_
    intro K hK
    go_wp2_with ((first | (go_at_call 108; (with_reducible refine (args_eq (a' := #[.agg #[.int .u64 0, .int .u64 0, .int .u64 0, .int .u64 0], .agg #[.int .u64 (wd0 r15), .int .u64 (wd1 r15), .int .u64 (wd2 r15), .int .u64 (wd3 r15)]]) (crless_is 0 r15 r29 Hr29.out (by unfold InI b255; omega) (Hr15.out ▸ subv_in r13 r14)  _) (by kernel_rfl)).mono ?_); rintro e w2 ⟨rfl, hn⟩) | (go_at_call 108; (with_reducible refine (args_eq (a' := #[.agg #[.int .u64 0, .int .u64 0, .int .u64 0, .int .u64 0], .agg #[.int .u64 (wd0 r20), .int .u64 (wd1 r20), .int .u64 (wd2 r20), .int .u64 (wd3 r20)]]) (crless_is 0 r20 r30 Hr30.out (by unfold InI b255; omega) (Hr20.out ▸ subv_in r18 r19)  _) (by kernel_rfl)).mono ?_); rintro e w2 ⟨rfl, hn⟩)))
    replace hb := hb.trans (hn.mono hb.size)
    refine hK.out _ _ (up_iff.2 hb) ?_
    clear hK K
    clear hn
    refine wpG_do1 rfl ?_
    intro K hK
    go_wp2_with ((first | (go_at_call 108; (with_reducible refine (args_eq (a' := #[.agg #[.int .u64 0, .int .u64 0, .int .u64 0, .int .u64 0], .agg #[.int .u64 (wd0 r15), .int .u64 (wd1 r15), .int .u64 (wd2 r15), .int .u64 (wd3 r15)]]) (crless_is 0 r15 r29 Hr29.out (by unfold InI b255; omega) (Hr15.out ▸ subv_in r13 r14)  _) (by kernel_rfl)).mono ?_); rintro e w2 ⟨rfl, hn⟩) | (go_at_call 108; (with_reducible refine (args_eq (a' := #[.agg #[.int .u64 0, .int .u64 0, .int .u64 0, .int .u64 0], .agg #[.int .u64 (wd0 r20), .int .u64 (wd1 r20), .int .u64 (wd2 r20), .int .u64 (wd3 r20)]]) (crless_is 0 r20 r30 Hr30.out (by unfold InI b255; omega) (Hr20.out ▸ subv_in r18 r19)  _) (by kernel_rfl)).mono ?_); rintro e w2 ⟨rfl, hn⟩)))
    replace hb := hb.trans (hn.mono hb.size)
    refine hK.out _ _ (up_iff.2 hb) ?_
    clear hK K
    clear hn
    have Mk12 := Kk12.out.of hb
    have Mk12_0 := Mk12.cell 0
    have Nk12_0 := Mk12.free 0
    have Mk12_1 := Mk12.cell 1
    have Nk12_1 := Mk12.free 1
    have Mk12_2 := Mk12.cell 2
    have Nk12_2 := Mk12.free 2
    have Mk12_3 := Mk12.cell 3
    have Nk12_3 := Mk12.free 3
    have Mk15 := Kk15.out.of hb
    have Mk15_0 := Mk15.cell 0
    have Nk15_0 := Mk15.free 0
    have Mk15_1 := Mk15.cell 1
    have Nk15_1 := Mk15.free 1
    have Mk15_2 := Mk15.cell 2
    have Nk15_2 := Mk15.free 2
    have Mk15_3 := Mk15.cell 3
    have Nk15_3 := Mk15.free 3
    simp only [List.getElem?_toArray, List.getElem?_cons_zero, List.getElem?_cons_succ] at Mk12_0 Mk12_1 Mk12_2 Mk12_3 Mk15_0 Mk15_1 Mk15_2 Mk15_3
    refine wpG_do3 rfl ?_
    intro K hK
    go_wp2_with (fail)
    refine hK.out _ _ ?_
    clear hK K
    refine wpG_do3 rfl ?_
    intro K hK
    go_wp2_with (fail)
    refine hK.out _ _ ?_
    clear hK K
    refine wpG_nil ?_
    refine list_world ?_
    intro U18 hU18
    clear c12_0 c12_1 c12_2 c12_3 f12_0 f12_1 f12_2 f12_3 l12 c15_0 c15_1 c15_2 c15_3 f15_0 f15_1 f15_2 f15_3 l15 p12_15 Mk12 Mk12_0 Nk12_0 Mk12_1 Nk12_1 Mk12_2 Nk12_2 Mk12_3 Nk12_3 Mk15 Mk15_0 Nk15_0 Mk15_1 Nk15_1 Mk15_2 Nk15_2 Mk15_3 Nk15_3
    have D69 := Lib.hid Kk3.out.lt
    have D70 := Lib.hid Kk4.out.lt
    have D71 := Lib.hid Kk8.out.lt
    have D72 := Lib.hid Kk9.out.lt
    have D73 := Lib.hid Kk12.out.lt
    have D74 := Lib.hid Kk15.out.lt
    have D75 := Lib.hid hb0.size
    have k3 : Blk U18 (w.heap.size + 1 + 1) #[.int .u64 0, .int .u64 0, .int .u64 0, .int .u64 0, .int .u64 0, .int .u64 0, .int .u64 0, .int .u64 0, .int .u64 0, .int .u64 0, .int .u64 0, .int .u64 0] 67 := by rw [hU18]; exact (blk_setL (blk_setL (Kk3.out.of hb) (by have := D19.out; have := D27.out; omega) 0 [.int .u64 (wd0 r29), .int .u64 (wd1 r29), .int .u64 (wd2 r29), .int .u64 (wd3 r29)]) (by have := D49.out; have := D59.out; omega) 0 [.int .u64 (wd0 r30), .int .u64 (wd1 r30), .int .u64 (wd2 r30), .int .u64 (wd3 r30)])
    have k4 : Blk U18 U2.heap.size #[.int .i64 r1, .int .i64 r2] 24 := by rw [hU18]; exact (blk_setL (blk_setL (Kk4.out.of hb) (by have := D20.out; have := D27.out; omega) 0 [.int .u64 (wd0 r29), .int .u64 (wd1 r29), .int .u64 (wd2 r29), .int .u64 (wd3 r29)]) (by have := D50.out; have := D59.out; omega) 0 [.int .u64 (wd0 r30), .int .u64 (wd1 r30), .int .u64 (wd2 r30), .int .u64 (wd3 r30)])
    have k8 : Blk U18 U6.heap.size #[.int .u64 (wd0 r9), .int .u64 (wd1 r9), .int .u64 (wd2 r9), .int .u64 (wd3 r9)] 35 := by rw [hU18]; exact (blk_setL (blk_setL (Kk8.out.of hb) (by have := D22.out; have := D27.out; omega) 0 [.int .u64 (wd0 r29), .int .u64 (wd1 r29), .int .u64 (wd2 r29), .int .u64 (wd3 r29)]) (by have := D51.out; have := D59.out; omega) 0 [.int .u64 (wd0 r30), .int .u64 (wd1 r30), .int .u64 (wd2 r30), .int .u64 (wd3 r30)])
    have k9 : Blk U18 (U6.heap.size + 1) #[.int .u64 (wd0 r10), .int .u64 (wd1 r10), .int .u64 (wd2 r10), .int .u64 (wd3 r10)] 35 := by rw [hU18]; exact (blk_setL (blk_setL (Kk9.out.of hb) (by have := D23.out; have := D27.out; omega) 0 [.int .u64 (wd0 r29), .int .u64 (wd1 r29), .int .u64 (wd2 r29), .int .u64 (wd3 r29)]) (by have := D52.out; have := D59.out; omega) 0 [.int .u64 (wd0 r30), .int .u64 (wd1 r30), .int .u64 (wd2 r30), .int .u64 (wd3 r30)])
    have k12 : Blk U18 q12 #[.int .u64 (wd0 r29), .int .u64 (wd1 r29), .int .u64 (wd2 r29), .int .u64 (wd3 r29)] 35 := by rw [hU18]; exact (blk_setL (blk_full _ [.int .u64 (wd0 r29), .int .u64 (wd1 r29), .int .u64 (wd2 r29), .int .u64 (wd3 r29)] (Kk12.out.of hb) rfl) (by have := D55.out; have := D59.out; omega) 0 [.int .u64 (wd0 r30), .int .u64 (wd1 r30), .int .u64 (wd2 r30), .int .u64 (wd3 r30)])
    have k15 : Blk U18 q15 #[.int .u64 (wd0 r30), .int .u64 (wd1 r30), .int .u64 (wd2 r30), .int .u64 (wd3 r30)] 35 := by rw [hU18]; exact (blk_full _ [.int .u64 (wd0 r30), .int .u64 (wd1 r30), .int .u64 (wd2 r30), .int .u64 (wd3 r30)] (blk_setL (Kk15.out.of hb) (by have := D55.out; have := D59.out; omega) 0 [.int .u64 (wd0 r29), .int .u64 (wd1 r29), .int .u64 (wd2 r29), .int .u64 (wd3 r29)]) rfl)
    replace hb0 : Below w.heap.size w U18 := by rw [hU18]; exact (blw_setL (blw_setL (hb0.trans (hb.mono hb0.size)) (by have := D26.out; have := D27.out; omega) 0 [.int .u64 (wd0 r29), .int .u64 (wd1 r29), .int .u64 (wd2 r29), .int .u64 (wd3 r29)]) (by have := D58.out; have := D59.out; omega) 0 [.int .u64 (wd0 r30), .int .u64 (wd1 r30), .int .u64 (wd2 r30), .int .u64 (wd3 r30)])
    clear hU18 hb Kk3 Kk4 Kk8 Kk9 Kk12 Kk15
    go_wp2_with fail
    obtain ⟨r31, hr31⟩ : ∃ o_o : Int, mulv r1 r29 = o_o := ⟨_, rfl⟩
    have Hr31 := Lib.hid hr31
    clear hr31
    obtain ⟨r32, hr32⟩ : ∃ o_o : Int, mulv r9 r30 = o_o := ⟨_, rfl⟩
    have Hr32 := Lib.hid hr32
    clear hr32
    obtain ⟨r33, hr33⟩ : ∃ o_o : Int, addv r31 r32 = o_o := ⟨_, rfl⟩
    have Hr33 := Lib.hid hr33
    clear hr33
    obtain ⟨r34, hr34⟩ : ∃ o_o : Int, mulv r2 r29 = o_o := ⟨_, rfl⟩
    have Hr34 := Lib.hid hr34
    clear hr34
    obtain ⟨r35, hr35⟩ : ∃ o_o : Int, mulv r10 r30 = o_o := ⟨_, rfl⟩
    have Hr35 := Lib.hid hr35
    clear hr35
    obtain ⟨r36, hr36⟩ : ∃ o_o : Int, addv r34 r35 = o_o := ⟨_, rfl⟩
    have Hr36 := Lib.hid hr36
    clear hr36
    have c4_0 : U18.cell? ⟨U2.heap.size, 0, none⟩ = some (.int .i64 r1) := k4.cell 0
    have c4_1 : U18.cell? ⟨U2.heap.size, 1, none⟩ = some (.int .i64 r2) := k4.cell 1
    have l4 := k4.lt
    have c8_0 : U18.cell? ⟨U6.heap.size, 0, none⟩ = some (.int .u64 (wd0 r9)) := k8.cell 0
    have c8_1 : U18.cell? ⟨U6.heap.size, 1, none⟩ = some (.int .u64 (wd1 r9)) := k8.cell 1
    have c8_2 : U18.cell? ⟨U6.heap.size, 2, none⟩ = some (.int .u64 (wd2 r9)) := k8.cell 2
    have c8_3 : U18.cell? ⟨U6.heap.size, 3, none⟩ = some (.int .u64 (wd3 r9)) := k8.cell 3
    have l8 := k8.lt
    have c9_0 : U18.cell? ⟨(U6.heap.size + 1), 0, none⟩ = some (.int .u64 (wd0 r10)) := k9.cell 0
    have c9_1 : U18.cell? ⟨(U6.heap.size + 1), 1, none⟩ = some (.int .u64 (wd1 r10)) := k9.cell 1
    have c9_2 : U18.cell? ⟨(U6.heap.size + 1), 2, none⟩ = some (.int .u64 (wd2 r10)) := k9.cell 2
    have c9_3 : U18.cell? ⟨(U6.heap.size + 1), 3, none⟩ = some (.int .u64 (wd3 r10)) := k9.cell 3
    have l9 := k9.lt
    have c12_0 : U18.cell? ⟨q12, 0, none⟩ = some (.int .u64 (wd0 r29)) := k12.cell 0
    have c12_1 : U18.cell? ⟨q12, 1, none⟩ = some (.int .u64 (wd1 r29)) := k12.cell 1
    have c12_2 : U18.cell? ⟨q12, 2, none⟩ = some (.int .u64 (wd2 r29)) := k12.cell 2
    have c12_3 : U18.cell? ⟨q12, 3, none⟩ = some (.int .u64 (wd3 r29)) := k12.cell 3
    have l12 := k12.lt
    have c15_0 : U18.cell? ⟨q15, 0, none⟩ = some (.int .u64 (wd0 r30)) := k15.cell 0
    have c15_1 : U18.cell? ⟨q15, 1, none⟩ = some (.int .u64 (wd1 r30)) := k15.cell 1
    have c15_2 : U18.cell? ⟨q15, 2, none⟩ = some (.int .u64 (wd2 r30)) := k15.cell 2
    have c15_3 : U18.cell? ⟨q15, 3, none⟩ = some (.int .u64 (wd3 r30)) := k15.cell 3
    have l15 := k15.lt
    have Kk3 := Lib.hid k3
    clear k3
    have Kk4 := Lib.hid k4
    clear k4
    have Kk8 := Lib.hid k8
    clear k8
    have Kk9 := Lib.hid k9
    clear k9
    have Kk12 := Lib.hid k12
    clear k12
    have Kk15 := Lib.hid k15
    clear k15
    refine wp_region_up U18.heap.size 19 [(true, 0), (true, 1), (true, 3), (true, 5), (true, 6), (true, 9), (true, 10), (true, 12), (true, 14), (true, 15), (true, 18), (false, 2), (false, 4), (false, 7), (false, 8), (false, 11), (false, 13), (false, 16), (false, 17)] (by kernel_rfl) (by kernel_rfl) (fun _ _ d _ _ h => by cases d <;> exact h) ?_
    have hb : Below U18.heap.size U18 U18.drew := (Below.refl _ _).drew
    iterate 11
      refine wpS_takeL rfl rfl ?_
      go_big_quiet_step (rfl)
      refine wpQuiet_nil ?_
    refine wpS_doL rfl ?_
    intro K hK
    go_wp2_with ((first | (go_at_call 62; (with_reducible refine (Of_v r1 r1 rfl (Hr1.out ▸ lwx_in ax ay bx b_y _iax _iay _ibx _ib_y) _).mono ?_); rintro e w2 ⟨rfl, hn⟩) | (go_at_call 106; (with_reducible refine (crtimes_is r1 r29 r31 Hr31.out (in64_I' (Hr1.out ▸ lwx_in ax ay bx b_y _iax _iay _ibx _ib_y)) (Hr29.out ▸ subv_in 0 r15)  _).mono ?_); rintro e w2 ⟨rfl, hn⟩) | (go_at_call 106; (with_reducible refine (crtimes_is r9 r30 r32 Hr32.out (Hr9.out ▸ wyx_in ax ay bx b_y _iax _iay _ibx _ib_y) (Hr30.out ▸ subv_in 0 r20)  _).mono ?_); rintro e w2 ⟨rfl, hn⟩) | (go_at_call 133; (with_reducible refine (crplus_is r31 r32 r33 Hr33.out (Hr31.out ▸ mulv_in r1 r29) (Hr32.out ▸ mulv_in r9 r30)  _).mono ?_); rintro e w2 ⟨rfl, hn⟩) | (go_at_call 62; (with_reducible refine (Of_v r2 r2 rfl (Hr2.out ▸ lwy_in ax ay bx b_y _iax _iay _ibx _ib_y) _).mono ?_); rintro e w2 ⟨rfl, hn⟩) | (go_at_call 106; (with_reducible refine (crtimes_is r2 r29 r34 Hr34.out (in64_I' (Hr2.out ▸ lwy_in ax ay bx b_y _iax _iay _ibx _ib_y)) (Hr29.out ▸ subv_in 0 r15)  _).mono ?_); rintro e w2 ⟨rfl, hn⟩) | (go_at_call 106; (with_reducible refine (crtimes_is r10 r30 r35 Hr35.out (Hr10.out ▸ wyy_in ax ay bx b_y _iax _iay _ibx _ib_y) (Hr30.out ▸ subv_in 0 r20)  _).mono ?_); rintro e w2 ⟨rfl, hn⟩) | (go_at_call 133; (with_reducible refine (crplus_is r34 r35 r36 Hr36.out (Hr34.out ▸ mulv_in r2 r29) (Hr35.out ▸ mulv_in r10 r30)  _).mono ?_); rintro e w2 ⟨rfl, hn⟩)))
    replace hb := hb.trans (hn.mono hb.size)
    refine hK.out _ _ (up_iff.2 hb) ?_
    clear hK K
    clear hn
    refine wpS_doL rfl ?_
    intro K hK
    go_wp2_with ((first | (go_at_call 62; (with_reducible refine (Of_v r1 r1 rfl (Hr1.out ▸ lwx_in ax ay bx b_y _iax _iay _ibx _ib_y) _).mono ?_); rintro e w2 ⟨rfl, hn⟩) | (go_at_call 106; (with_reducible refine (crtimes_is r1 r29 r31 Hr31.out (in64_I' (Hr1.out ▸ lwx_in ax ay bx b_y _iax _iay _ibx _ib_y)) (Hr29.out ▸ subv_in 0 r15)  _).mono ?_); rintro e w2 ⟨rfl, hn⟩) | (go_at_call 106; (with_reducible refine (crtimes_is r9 r30 r32 Hr32.out (Hr9.out ▸ wyx_in ax ay bx b_y _iax _iay _ibx _ib_y) (Hr30.out ▸ subv_in 0 r20)  _).mono ?_); rintro e w2 ⟨rfl, hn⟩) | (go_at_call 133; (with_reducible refine (crplus_is r31 r32 r33 Hr33.out (Hr31.out ▸ mulv_in r1 r29) (Hr32.out ▸ mulv_in r9 r30)  _).mono ?_); rintro e w2 ⟨rfl, hn⟩) | (go_at_call 62; (with_reducible refine (Of_v r2 r2 rfl (Hr2.out ▸ lwy_in ax ay bx b_y _iax _iay _ibx _ib_y) _).mono ?_); rintro e w2 ⟨rfl, hn⟩) | (go_at_call 106; (with_reducible refine (crtimes_is r2 r29 r34 Hr34.out (in64_I' (Hr2.out ▸ lwy_in ax ay bx b_y _iax _iay _ibx _ib_y)) (Hr29.out ▸ subv_in 0 r15)  _).mono ?_); rintro e w2 ⟨rfl, hn⟩) | (go_at_call 106; (with_reducible refine (crtimes_is r10 r30 r35 Hr35.out (Hr10.out ▸ wyy_in ax ay bx b_y _iax _iay _ibx _ib_y) (Hr30.out ▸ subv_in 0 r20)  _).mono ?_); rintro e w2 ⟨rfl, hn⟩) | (go_at_call 133; (with_reducible refine (crplus_is r34 r35 r36 Hr36.out (Hr34.out ▸ mulv_in r2 r29) (Hr35.out ▸ mulv_in r10 r30)  _).mono ?_); rintro e w2 ⟨rfl, hn⟩)))
    replace hb := hb.trans (hn.mono hb.size)
    refine hK.out _ _ (up_iff.2 hb) ?_
    clear hK K
    clear hn
    refine wpS_doL rfl ?_
    intro K hK
    go_wp2_with ((first | (go_at_call 62; (with_reducible refine (Of_v r1 r1 rfl (Hr1.out ▸ lwx_in ax ay bx b_y _iax _iay _ibx _ib_y) _).mono ?_); rintro e w2 ⟨rfl, hn⟩) | (go_at_call 106; (with_reducible refine (crtimes_is r1 r29 r31 Hr31.out (in64_I' (Hr1.out ▸ lwx_in ax ay bx b_y _iax _iay _ibx _ib_y)) (Hr29.out ▸ subv_in 0 r15)  _).mono ?_); rintro e w2 ⟨rfl, hn⟩) | (go_at_call 106; (with_reducible refine (crtimes_is r9 r30 r32 Hr32.out (Hr9.out ▸ wyx_in ax ay bx b_y _iax _iay _ibx _ib_y) (Hr30.out ▸ subv_in 0 r20)  _).mono ?_); rintro e w2 ⟨rfl, hn⟩) | (go_at_call 133; (with_reducible refine (crplus_is r31 r32 r33 Hr33.out (Hr31.out ▸ mulv_in r1 r29) (Hr32.out ▸ mulv_in r9 r30)  _).mono ?_); rintro e w2 ⟨rfl, hn⟩) | (go_at_call 62; (with_reducible refine (Of_v r2 r2 rfl (Hr2.out ▸ lwy_in ax ay bx b_y _iax _iay _ibx _ib_y) _).mono ?_); rintro e w2 ⟨rfl, hn⟩) | (go_at_call 106; (with_reducible refine (crtimes_is r2 r29 r34 Hr34.out (in64_I' (Hr2.out ▸ lwy_in ax ay bx b_y _iax _iay _ibx _ib_y)) (Hr29.out ▸ subv_in 0 r15)  _).mono ?_); rintro e w2 ⟨rfl, hn⟩) | (go_at_call 106; (with_reducible refine (crtimes_is r10 r30 r35 Hr35.out (Hr10.out ▸ wyy_in ax ay bx b_y _iax _iay _ibx _ib_y) (Hr30.out ▸ subv_in 0 r20)  _).mono ?_); rintro e w2 ⟨rfl, hn⟩) | (go_at_call 133; (with_reducible refine (crplus_is r34 r35 r36 Hr36.out (Hr34.out ▸ mulv_in r2 r29) (Hr35.out ▸ mulv_in r10 r30)  _).mono ?_); rintro e w2 ⟨rfl, hn⟩)))
    replace hb := hb.trans (hn.mono hb.size)
    refine hK.out _ _ (up_iff.2 hb) ?_
    clear hK K
    clear hn
    refine wpS_doL rfl ?_
    intro K hK
    go_wp2_with ((first | (go_at_call 62; (with_reducible refine (Of_v r1 r1 rfl (Hr1.out ▸ lwx_in ax ay bx b_y _iax _iay _ibx _ib_y) _).mono ?_); rintro e w2 ⟨rfl, hn⟩) | (go_at_call 106; (with_reducible refine (crtimes_is r1 r29 r31 Hr31.out (in64_I' (Hr1.out ▸ lwx_in ax ay bx b_y _iax _iay _ibx _ib_y)) (Hr29.out ▸ subv_in 0 r15)  _).mono ?_); rintro e w2 ⟨rfl, hn⟩) | (go_at_call 106; (with_reducible refine (crtimes_is r9 r30 r32 Hr32.out (Hr9.out ▸ wyx_in ax ay bx b_y _iax _iay _ibx _ib_y) (Hr30.out ▸ subv_in 0 r20)  _).mono ?_); rintro e w2 ⟨rfl, hn⟩) | (go_at_call 133; (with_reducible refine (crplus_is r31 r32 r33 Hr33.out (Hr31.out ▸ mulv_in r1 r29) (Hr32.out ▸ mulv_in r9 r30)  _).mono ?_); rintro e w2 ⟨rfl, hn⟩) | (go_at_call 62; (with_reducible refine (Of_v r2 r2 rfl (Hr2.out ▸ lwy_in ax ay bx b_y _iax _iay _ibx _ib_y) _).mono ?_); rintro e w2 ⟨rfl, hn⟩) | (go_at_call 106; (with_reducible refine (crtimes_is r2 r29 r34 Hr34.out (in64_I' (Hr2.out ▸ lwy_in ax ay bx b_y _iax _iay _ibx _ib_y)) (Hr29.out ▸ subv_in 0 r15)  _).mono ?_); rintro e w2 ⟨rfl, hn⟩) | (go_at_call 106; (with_reducible refine (crtimes_is r10 r30 r35 Hr35.out (Hr10.out ▸ wyy_in ax ay bx b_y _iax _iay _ibx _ib_y) (Hr30.out ▸ subv_in 0 r20)  _).mono ?_); rintro e w2 ⟨rfl, hn⟩) | (go_at_call 133; (with_reducible refine (crplus_is r34 r35 r36 Hr36.out (Hr34.out ▸ mulv_in r2 r29) (Hr35.out ▸ mulv_in r10 r30)  _).mono ?_); rintro e w2 ⟨rfl, hn⟩)))
    replace hb := hb.trans (hn.mono hb.size)
    refine hK.out _ _ (up_iff.2 hb) ?_
    clear hK K
    clear hn
    refine wpS_doL rfl ?_
    intro K hK
    go_wp2_with ((first | (go_at_call 62; (with_reducible refine (Of_v r1 r1 rfl (Hr1.out ▸ lwx_in ax ay bx b_y _iax _iay _ibx _ib_y) _).mono ?_); rintro e w2 ⟨rfl, hn⟩) | (go_at_call 106; (with_reducible refine (crtimes_is r1 r29 r31 Hr31.out (in64_I' (Hr1.out ▸ lwx_in ax ay bx b_y _iax _iay _ibx _ib_y)) (Hr29.out ▸ subv_in 0 r15)  _).mono ?_); rintro e w2 ⟨rfl, hn⟩) | (go_at_call 106; (with_reducible refine (crtimes_is r9 r30 r32 Hr32.out (Hr9.out ▸ wyx_in ax ay bx b_y _iax _iay _ibx _ib_y) (Hr30.out ▸ subv_in 0 r20)  _).mono ?_); rintro e w2 ⟨rfl, hn⟩) | (go_at_call 133; (with_reducible refine (crplus_is r31 r32 r33 Hr33.out (Hr31.out ▸ mulv_in r1 r29) (Hr32.out ▸ mulv_in r9 r30)  _).mono ?_); rintro e w2 ⟨rfl, hn⟩) | (go_at_call 62; (with_reducible refine (Of_v r2 r2 rfl (Hr2.out ▸ lwy_in ax ay bx b_y _iax _iay _ibx _ib_y) _).mono ?_); rintro e w2 ⟨rfl, hn⟩) | (go_at_call 106; (with_reducible refine (crtimes_is r2 r29 r34 Hr34.out (in64_I' (Hr2.out ▸ lwy_in ax ay bx b_y _iax _iay _ibx _ib_y)) (Hr29.out ▸ subv_in 0 r15)  _).mono ?_); rintro e w2 ⟨rfl, hn⟩) | (go_at_call 106; (with_reducible refine (crtimes_is r10 r30 r35 Hr35.out (Hr10.out ▸ wyy_in ax ay bx b_y _iax _iay _ibx _ib_y) (Hr30.out ▸ subv_in 0 r20)  _).mono ?_); rintro e w2 ⟨rfl, hn⟩) | (go_at_call 133; (with_reducible refine (crplus_is r34 r35 r36 Hr36.out (Hr34.out ▸ mulv_in r2 r29) (Hr35.out ▸ mulv_in r10 r30)  _).mono ?_); rintro e w2 ⟨rfl, hn⟩)))
    replace hb := hb.trans (hn.mono hb.size)
    refine hK.out _ _ (up_iff.2 hb) ?_
    clear hK K
    clear hn
    refine wpS_doL rfl ?_
    intro K hK
    go_wp2_with ((first | (go_at_call 62; (with_reducible refine (Of_v r1 r1 rfl (Hr1.out ▸ lwx_in ax ay bx b_y _iax _iay _ibx _ib_y) _).mono ?_); rintro e w2 ⟨rfl, hn⟩) | (go_at_call 106; (with_reducible refine (crtimes_is r1 r29 r31 Hr31.out (in64_I' (Hr1.out ▸ lwx_in ax ay bx b_y _iax _iay _ibx _ib_y)) (Hr29.out ▸ subv_in 0 r15)  _).mono ?_); rintro e w2 ⟨rfl, hn⟩) | (go_at_call 106; (with_reducible refine (crtimes_is r9 r30 r32 Hr32.out (Hr9.out ▸ wyx_in ax ay bx b_y _iax _iay _ibx _ib_y) (Hr30.out ▸ subv_in 0 r20)  _).mono ?_); rintro e w2 ⟨rfl, hn⟩) | (go_at_call 133; (with_reducible refine (crplus_is r31 r32 r33 Hr33.out (Hr31.out ▸ mulv_in r1 r29) (Hr32.out ▸ mulv_in r9 r30)  _).mono ?_); rintro e w2 ⟨rfl, hn⟩) | (go_at_call 62; (with_reducible refine (Of_v r2 r2 rfl (Hr2.out ▸ lwy_in ax ay bx b_y _iax _iay _ibx _ib_y) _).mono ?_); rintro e w2 ⟨rfl, hn⟩) | (go_at_call 106; (with_reducible refine (crtimes_is r2 r29 r34 Hr34.out (in64_I' (Hr2.out ▸ lwy_in ax ay bx b_y _iax _iay _ibx _ib_y)) (Hr29.out ▸ subv_in 0 r15)  _).mono ?_); rintro e w2 ⟨rfl, hn⟩) | (go_at_call 106; (with_reducible refine (crtimes_is r10 r30 r35 Hr35.out (Hr10.out ▸ wyy_in ax ay bx b_y _iax _iay _ibx _ib_y) (Hr30.out ▸ subv_in 0 r20)  _).mono ?_); rintro e w2 ⟨rfl, hn⟩) | (go_at_call 133; (with_reducible refine (crplus_is r34 r35 r36 Hr36.out (Hr34.out ▸ mulv_in r2 r29) (Hr35.out ▸ mulv_in r10 r30)  _).mono ?_); rintro e w2 ⟨rfl, hn⟩)))
    replace hb := hb.trans (hn.mono hb.size)
    refine hK.out _ _ (up_iff.2 hb) ?_
    clear hK K
    clear hn
    refine wpS_doL rfl ?_
    intro K hK
    go_wp2_with ((first | (go_at_call 62; (with_reducible refine (Of_v r1 r1 rfl (Hr1.out ▸ lwx_in ax ay bx b_y _iax _iay _ibx _ib_y) _).mono ?_); rintro e w2 ⟨rfl, hn⟩) | (go_at_call 106; (with_reducible refine (crtimes_is r1 r29 r31 Hr31.out (in64_I' (Hr1.out ▸ lwx_in ax ay bx b_y _iax _iay _ibx _ib_y)) (Hr29.out ▸ subv_in 0 r15)  _).mono ?_); rintro e w2 ⟨rfl, hn⟩) | (go_at_call 106; (with_reducible refine (crtimes_is r9 r30 r32 Hr32.out (Hr9.out ▸ wyx_in ax ay bx b_y _iax _iay _ibx _ib_y) (Hr30.out ▸ subv_in 0 r20)  _).mono ?_); rintro e w2 ⟨rfl, hn⟩) | (go_at_call 133; (with_reducible refine (crplus_is r31 r32 r33 Hr33.out (Hr31.out ▸ mulv_in r1 r29) (Hr32.out ▸ mulv_in r9 r30)  _).mono ?_); rintro e w2 ⟨rfl, hn⟩) | (go_at_call 62; (with_reducible refine (Of_v r2 r2 rfl (Hr2.out ▸ lwy_in ax ay bx b_y _iax _iay _ibx _ib_y) _).mono ?_); rintro e w2 ⟨rfl, hn⟩) | (go_at_call 106; (with_reducible refine (crtimes_is r2 r29 r34 Hr34.out (in64_I' (Hr2.out ▸ lwy_in ax ay bx b_y _iax _iay _ibx _ib_y)) (Hr29.out ▸ subv_in 0 r15)  _).mono ?_); rintro e w2 ⟨rfl, hn⟩) | (go_at_call 106; (with_reducible refine (crtimes_is r10 r30 r35 Hr35.out (Hr10.out ▸ wyy_in ax ay bx b_y _iax _iay _ibx _ib_y) (Hr30.out ▸ subv_in 0 r20)  _).mono ?_); rintro e w2 ⟨rfl, hn⟩) | (go_at_call 133; (with_reducible refine (crplus_is r34 r35 r36 Hr36.out (Hr34.out ▸ mulv_in r2 r29) (Hr35.out ▸ mulv_in r10 r30)  _).mono ?_); rintro e w2 ⟨rfl, hn⟩)))
    replace hb := hb.trans (hn.mono hb.size)
    refine hK.out _ _ (up_iff.2 hb) ?_
    clear hK K
    clear hn
    refine wpS_doL rfl ?_
    intro K hK
    go_wp2_with ((first | (go_at_call 62; (with_reducible refine (Of_v r1 r1 rfl (Hr1.out ▸ lwx_in ax ay bx b_y _iax _iay _ibx _ib_y) _).mono ?_); rintro e w2 ⟨rfl, hn⟩) | (go_at_call 106; (with_reducible refine (crtimes_is r1 r29 r31 Hr31.out (in64_I' (Hr1.out ▸ lwx_in ax ay bx b_y _iax _iay _ibx _ib_y)) (Hr29.out ▸ subv_in 0 r15)  _).mono ?_); rintro e w2 ⟨rfl, hn⟩) | (go_at_call 106; (with_reducible refine (crtimes_is r9 r30 r32 Hr32.out (Hr9.out ▸ wyx_in ax ay bx b_y _iax _iay _ibx _ib_y) (Hr30.out ▸ subv_in 0 r20)  _).mono ?_); rintro e w2 ⟨rfl, hn⟩) | (go_at_call 133; (with_reducible refine (crplus_is r31 r32 r33 Hr33.out (Hr31.out ▸ mulv_in r1 r29) (Hr32.out ▸ mulv_in r9 r30)  _).mono ?_); rintro e w2 ⟨rfl, hn⟩) | (go_at_call 62; (with_reducible refine (Of_v r2 r2 rfl (Hr2.out ▸ lwy_in ax ay bx b_y _iax _iay _ibx _ib_y) _).mono ?_); rintro e w2 ⟨rfl, hn⟩) | (go_at_call 106; (with_reducible refine (crtimes_is r2 r29 r34 Hr34.out (in64_I' (Hr2.out ▸ lwy_in ax ay bx b_y _iax _iay _ibx _ib_y)) (Hr29.out ▸ subv_in 0 r15)  _).mono ?_); rintro e w2 ⟨rfl, hn⟩) | (go_at_call 106; (with_reducible refine (crtimes_is r10 r30 r35 Hr35.out (Hr10.out ▸ wyy_in ax ay bx b_y _iax _iay _ibx _ib_y) (Hr30.out ▸ subv_in 0 r20)  _).mono ?_); rintro e w2 ⟨rfl, hn⟩) | (go_at_call 133; (with_reducible refine (crplus_is r34 r35 r36 Hr36.out (Hr34.out ▸ mulv_in r2 r29) (Hr35.out ▸ mulv_in r10 r30)  _).mono ?_); rintro e w2 ⟨rfl, hn⟩)))
    replace hb := hb.trans (hn.mono hb.size)
    refine hK.out _ _ (up_iff.2 hb) ?_
    clear hK K
    clear hn
    refine wpS_nil ?_
    simp only [List.drop_succ_cons, List.drop_zero]
    first | refine calls_w ?_ | refine name_world ?_ | refine list_world ?_ | refine post_world ?_
    intro U19 hU19
    first | subst hU19 | (rw [← hU19] at hb; clear hU19)
    clear c4_0 c4_1 l4 c8_0 c8_1 c8_2 c8_3 l8 c9_0 c9_1 c9_2 c9_3 l9 c12_0 c12_1 c12_2 c12_3 l12 c15_0 c15_1 c15_2 c15_3 l15
    have k3 := Kk3.out.of hb
    clear Kk3
    have k4 := Kk4.out.of hb
    clear Kk4
    have k8 := Kk8.out.of hb
    clear Kk8
    have k9 := Kk9.out.of hb
    clear Kk9
    have k12 := Kk12.out.of hb
    clear Kk12
    have k15 := Kk15.out.of hb
    clear Kk15
    replace hb0 := hb0.trans (hb.mono hb0.size)
    clear hb
    have c3_0 : U19.cell? ⟨(w.heap.size + 1 + 1), 0, none⟩ = some (.int .u64 0) := k3.cell 0
    have c3_1 : U19.cell? ⟨(w.heap.size + 1 + 1), 1, none⟩ = some (.int .u64 0) := k3.cell 1
    have c3_2 : U19.cell? ⟨(w.heap.size + 1 + 1), 2, none⟩ = some (.int .u64 0) := k3.cell 2
    have c3_3 : U19.cell? ⟨(w.heap.size + 1 + 1), 3, none⟩ = some (.int .u64 0) := k3.cell 3
    have c3_4 : U19.cell? ⟨(w.heap.size + 1 + 1), 4, none⟩ = some (.int .u64 0) := k3.cell 4
    have c3_5 : U19.cell? ⟨(w.heap.size + 1 + 1), 5, none⟩ = some (.int .u64 0) := k3.cell 5
    have c3_6 : U19.cell? ⟨(w.heap.size + 1 + 1), 6, none⟩ = some (.int .u64 0) := k3.cell 6
    have c3_7 : U19.cell? ⟨(w.heap.size + 1 + 1), 7, none⟩ = some (.int .u64 0) := k3.cell 7
    have c3_8 : U19.cell? ⟨(w.heap.size + 1 + 1), 8, none⟩ = some (.int .u64 0) := k3.cell 8
    have c3_9 : U19.cell? ⟨(w.heap.size + 1 + 1), 9, none⟩ = some (.int .u64 0) := k3.cell 9
    have c3_10 : U19.cell? ⟨(w.heap.size + 1 + 1), 10, none⟩ = some (.int .u64 0) := k3.cell 10
    have c3_11 : U19.cell? ⟨(w.heap.size + 1 + 1), 11, none⟩ = some (.int .u64 0) := k3.cell 11
    have f3_0 := k3.free 0
    have f3_1 := k3.free 1
    have f3_2 := k3.free 2
    have f3_3 := k3.free 3
    have f3_4 := k3.free 4
    have f3_5 := k3.free 5
    have f3_6 := k3.free 6
    have f3_7 := k3.free 7
    have f3_8 := k3.free 8
    have f3_9 := k3.free 9
    have f3_10 := k3.free 10
    have f3_11 := k3.free 11
    have l3 := k3.lt
    have e0 : r33 = R0 := by rw [← HR0.out]; unfold cgx; (try rw [Hr1.out]); (try rw [Hr2.out]); (try rw [Hr3.out]); (try rw [Hr4.out]); (try rw [Hr5.out]); (try rw [Hr6.out]); (try rw [Hr7.out]); (try rw [Hr8.out]); (try rw [Hr9.out]); (try rw [Hr10.out]); (try rw [Hr11.out]); (try rw [Hr12.out]); (try rw [Hr13.out]); (try rw [Hr14.out]); (try rw [Hr15.out]); (try rw [Hr16.out]); (try rw [Hr17.out]); (try rw [Hr18.out]); (try rw [Hr19.out]); (try rw [Hr20.out]); (try rw [Hr21.out]); (try rw [hz22]); (try rw [Hr29.out]); (try rw [Hr30.out]); (try rw [Hr31.out]); (try rw [Hr32.out]); (try rw [Hr33.out]); (try rw [Hr34.out]); (try rw [Hr35.out]); (try rw [Hr36.out]); all_goals first | rfl | simp
    have e1 : r36 = R1 := by rw [← HR1.out]; unfold cgy; (try rw [Hr1.out]); (try rw [Hr2.out]); (try rw [Hr3.out]); (try rw [Hr4.out]); (try rw [Hr5.out]); (try rw [Hr6.out]); (try rw [Hr7.out]); (try rw [Hr8.out]); (try rw [Hr9.out]); (try rw [Hr10.out]); (try rw [Hr11.out]); (try rw [Hr12.out]); (try rw [Hr13.out]); (try rw [Hr14.out]); (try rw [Hr15.out]); (try rw [Hr16.out]); (try rw [Hr17.out]); (try rw [Hr18.out]); (try rw [Hr19.out]); (try rw [Hr20.out]); (try rw [Hr21.out]); (try rw [hz22]); (try rw [Hr29.out]); (try rw [Hr30.out]); (try rw [Hr31.out]); (try rw [Hr32.out]); (try rw [Hr33.out]); (try rw [Hr34.out]); (try rw [Hr35.out]); (try rw [Hr36.out]); all_goals first | rfl | simp
    have e2 : r29 = R2 := by rw [← HR2.out]; unfold cgw; (try rw [Hr1.out]); (try rw [Hr2.out]); (try rw [Hr3.out]); (try rw [Hr4.out]); (try rw [Hr5.out]); (try rw [Hr6.out]); (try rw [Hr7.out]); (try rw [Hr8.out]); (try rw [Hr9.out]); (try rw [Hr10.out]); (try rw [Hr11.out]); (try rw [Hr12.out]); (try rw [Hr13.out]); (try rw [Hr14.out]); (try rw [Hr15.out]); (try rw [Hr16.out]); (try rw [Hr17.out]); (try rw [Hr18.out]); (try rw [Hr19.out]); (try rw [Hr20.out]); (try rw [Hr21.out]); (try rw [hz22]); (try rw [Hr29.out]); (try rw [Hr30.out]); (try rw [Hr31.out]); (try rw [Hr32.out]); (try rw [Hr33.out]); (try rw [Hr34.out]); (try rw [Hr35.out]); (try rw [Hr36.out]); all_goals first | rfl | simp
    subst e0
    subst e1
    subst e2
    go_wp2
    clear c3_0 c3_1 c3_2 c3_3 c3_4 c3_5 c3_6 c3_7 c3_8 c3_9 c3_10 c3_11 f3_0 f3_1 f3_2 f3_3 f3_4 f3_5 f3_6 f3_7 f3_8 f3_9 f3_10 f3_11 l3
    first | refine post_world ?_
    intro V20 hV20
    clear k4 k8 k9 k12 k15
    have D76 := Lib.hid k3.lt
    have D77 := Lib.hid hb0.size
    have nk3 : Blk V20 (w.heap.size + 1 + 1) #[.int .u64 (wd0 r33), .int .u64 (wd1 r33), .int .u64 (wd2 r33), .int .u64 (wd3 r33), .int .u64 (wd0 r36), .int .u64 (wd1 r36), .int .u64 (wd2 r36), .int .u64 (wd3 r36), .int .u64 (wd0 r29), .int .u64 (wd1 r29), .int .u64 (wd2 r29), .int .u64 (wd3 r29)] 67 := by rw [hV20]; exact (blk_full _ [.int .u64 (wd0 r33), .int .u64 (wd1 r33), .int .u64 (wd2 r33), .int .u64 (wd3 r33), .int .u64 (wd0 r36), .int .u64 (wd1 r36), .int .u64 (wd2 r36), .int .u64 (wd3 r36), .int .u64 (wd0 r29), .int .u64 (wd1 r29), .int .u64 (wd2 r29), .int .u64 (wd3 r29)] k3 rfl)
    have nhb0 : Below w.heap.size w V20 := by rw [hV20]; exact (blw_setL hb0 (by omega) 0 [.int .u64 (wd0 r33), .int .u64 (wd1 r33), .int .u64 (wd2 r33), .int .u64 (wd3 r33), .int .u64 (wd0 r36), .int .u64 (wd1 r36), .int .u64 (wd2 r36), .int .u64 (wd3 r36), .int .u64 (wd0 r29), .int .u64 (wd1 r29), .int .u64 (wd2 r29), .int .u64 (wd3 r29)])
    clear k3
    clear hb0
    clear hV20
    have k3 := nk3
    clear nk3
    have hb0 := nhb0
    clear nhb0
    have g3_0 : V20.cell? ⟨(w.heap.size + 1 + 1), 0, none⟩ = some (.int .u64 (wd0 r33)) := k3.cell 0
    have g3_1 : V20.cell? ⟨(w.heap.size + 1 + 1), 1, none⟩ = some (.int .u64 (wd1 r33)) := k3.cell 1
    have g3_2 : V20.cell? ⟨(w.heap.size + 1 + 1), 2, none⟩ = some (.int .u64 (wd2 r33)) := k3.cell 2
    have g3_3 : V20.cell? ⟨(w.heap.size + 1 + 1), 3, none⟩ = some (.int .u64 (wd3 r33)) := k3.cell 3
    have g3_4 : V20.cell? ⟨(w.heap.size + 1 + 1), 4, none⟩ = some (.int .u64 (wd0 r36)) := k3.cell 4
    have g3_5 : V20.cell? ⟨(w.heap.size + 1 + 1), 5, none⟩ = some (.int .u64 (wd1 r36)) := k3.cell 5
    have g3_6 : V20.cell? ⟨(w.heap.size + 1 + 1), 6, none⟩ = some (.int .u64 (wd2 r36)) := k3.cell 6
    have g3_7 : V20.cell? ⟨(w.heap.size + 1 + 1), 7, none⟩ = some (.int .u64 (wd3 r36)) := k3.cell 7
    have g3_8 : V20.cell? ⟨(w.heap.size + 1 + 1), 8, none⟩ = some (.int .u64 (wd0 r29)) := k3.cell 8
    have g3_9 : V20.cell? ⟨(w.heap.size + 1 + 1), 9, none⟩ = some (.int .u64 (wd1 r29)) := k3.cell 9
    have g3_10 : V20.cell? ⟨(w.heap.size + 1 + 1), 10, none⟩ = some (.int .u64 (wd2 r29)) := k3.cell 10
    have g3_11 : V20.cell? ⟨(w.heap.size + 1 + 1), 11, none⟩ = some (.int .u64 (wd3 r29)) := k3.cell 11
    clear k3
    simp [bodyPost, results, Try.results103, go_sem, g3_0, g3_1, g3_2, g3_3, g3_4, g3_5, g3_6, g3_7, g3_8, g3_9, g3_10, g3_11]
    first | exact hb0 | exact ⟨rfl, hb0⟩
end Go.Proofs.Ytlcbomjdbdgbmaa

namespace Go.Proofs.Ytlcbomjdbdgbmaa
open Go.RowKit

def mck  : Int := 1

def mcx  : Int := 12

def mcy  : Int := 12

def mcw  : Int := 12

theorem mcx_in   : InI (mcx ) := by
  unfold mcx
  exact (by unfold InI b255; omega)

theorem mcy_in   : InI (mcy ) := by
  unfold mcy
  exact (by unfold InI b255; omega)

theorem mcw_in   : InI (mcw ) := by
  unfold mcw
  exact (by unfold InI b255; omega)

set_option maxRecDepth 100000 in
set_option maxHeartbeats 4000000 in

theorem Meetc_is   (R0 : Int) (R1 : Int) (R2 : Int) (R3 : Int) (hR0 : mck  = R0) (hR1 : mcx  = R1) (hR2 : mcy  = R2) (hR3 : mcw  = R3) (hP0 : sgR 0 0 3 3 = true) (hP1 : sgR 0 2 2 0 = true) (hP2 : dotB 0 0 3 3 = false) (hP3 : dotB 0 2 2 0 = false) (hP4 : slp 0 0 3 3 0 2 2 0 = 1) (hP5 : cgx 0 0 3 3 0 2 2 0 = 12) (hP6 : cgy 0 0 3 3 0 2 2 0 = 12) (hP7 : cgw 0 0 3 3 0 2 2 0 = 12) (hP8 : spR 12 12 12 = true) (hP9 : hldB 0 0 3 3 12 12 12 = true) (hP10 : hldB 0 2 2 0 12 12 12 = true)  (w : World)  :
    Calls Try.prog 49 #[.agg #[.int .i64 0, .int .i64 0, .int .i64 3, .int .i64 3], .agg #[.int .i64 0, .int .i64 2, .int .i64 2, .int .i64 0]] w fun e w' => e = .returned (.tuple #[.int .i64 R0, .agg #[.int .u64 (wd0 R1), .int .u64 (wd1 R1), .int .u64 (wd2 R1), .int .u64 (wd3 R1), .int .u64 (wd0 R2), .int .u64 (wd1 R2), .int .u64 (wd2 R2), .int .u64 (wd3 R2), .int .u64 (wd0 R3), .int .u64 (wd1 R3), .int .u64 (wd2 R3), .int .u64 (wd3 R3)]]) ∧ Below w.heap.size w w' := by

  have HP0 := Lib.hid hP0
  clear hP0
  have HP1 := Lib.hid hP1
  clear hP1
  have HP2 := Lib.hid hP2
  clear hP2
  have HP3 := Lib.hid hP3
  clear hP3
  have HP4 := Lib.hid hP4
  clear hP4
  have HP5 := Lib.hid hP5
  clear hP5
  have HP6 := Lib.hid hP6
  clear hP6
  have HP7 := Lib.hid hP7
  clear hP7
  have HP8 := Lib.hid hP8
  clear hP8
  have HP9 := Lib.hid hP9
  clear hP9
  have HP10 := Lib.hid hP10
  clear hP10
  have HR0 := Lib.hid hR0
  clear hR0
  have HR1 := Lib.hid hR1
  clear hR1
  have HR2 := Lib.hid hR2
  clear hR2
  have HR3 := Lib.hid hR3
  clear hR3
  go_enter Try.func49, Try.ntmps49
  go_wp2_with fail
  first | refine calls_w ?_ | refine name_world ?_ | refine list_world ?_ | refine post_world ?_
  intro V1 hV1
  have hn : Below w.heap.size w V1 := by rw [hV1]; exact below_a3 _ _ _ _
  have nhb0 := hn
  have k1 : Blk V1 w.heap.size #[.int .i64 0, .int .i64 0, .int .i64 3, .int .i64 3] 50 := by rw [hV1]; exact (((Blk.new _ _ _).alloc _).alloc _)
  have k2 : Blk V1 (w.heap.size + 1) #[.int .i64 0, .int .i64 2, .int .i64 2, .int .i64 0] 50 := by rw [hV1]; exact ((Blk.new1 _ _ _ _).alloc _)
  have k3 : Blk V1 (w.heap.size + 1 + 1) #[.int .u64 0, .int .u64 0, .int .u64 0, .int .u64 0, .int .u64 0, .int .u64 0, .int .u64 0, .int .u64 0, .int .u64 0, .int .u64 0, .int .u64 0, .int .u64 0] 67 := by rw [hV1]; exact (Blk.new2 _ _ _ _ _)
  clear hV1
  have hb0 := nhb0
  clear nhb0
  refine (SegRight_is 0 0 3 3 true HP0.out (by unfold In64; omega) (by unfold In64; omega) (by unfold In64; omega) (by unfold In64; omega)  _).mono ?_
  rintro e U2 ⟨rfl, hn⟩
  replace k1 := k1.of hn
  replace k2 := k2.of hn
  replace k3 := k3.of hn
  replace hb0 := hb0.trans (hn.mono hb0.size)
  clear hn
  have c2_0 : U2.cell? ⟨(w.heap.size + 1), 0, none⟩ = some (.int .i64 0) := k2.cell 0
  have c2_1 : U2.cell? ⟨(w.heap.size + 1), 1, none⟩ = some (.int .i64 2) := k2.cell 1
  have c2_2 : U2.cell? ⟨(w.heap.size + 1), 2, none⟩ = some (.int .i64 2) := k2.cell 2
  have c2_3 : U2.cell? ⟨(w.heap.size + 1), 3, none⟩ = some (.int .i64 0) := k2.cell 3
  have l2 := k2.lt
  go_wp2_with fail
  clear c2_0 c2_1 c2_2 c2_3 l2
  refine (SegRight_is 0 2 2 0 true HP1.out (by unfold In64; omega) (by unfold In64; omega) (by unfold In64; omega) (by unfold In64; omega)  _).mono ?_
  rintro e U3 ⟨rfl, hn⟩
  replace k1 := k1.of hn
  replace k2 := k2.of hn
  replace k3 := k3.of hn
  replace hb0 := hb0.trans (hn.mono hb0.size)
  clear hn
  go_wp2_with fail
  have c1_0 : U3.cell? ⟨w.heap.size, 0, none⟩ = some (.int .i64 0) := k1.cell 0
  have c1_1 : U3.cell? ⟨w.heap.size, 1, none⟩ = some (.int .i64 0) := k1.cell 1
  have c1_2 : U3.cell? ⟨w.heap.size, 2, none⟩ = some (.int .i64 3) := k1.cell 2
  have c1_3 : U3.cell? ⟨w.heap.size, 3, none⟩ = some (.int .i64 3) := k1.cell 3
  have l1 := k1.lt
  have Kk1 := Lib.hid k1
  clear k1
  have Kk2 := Lib.hid k2
  clear k2
  have Kk3 := Lib.hid k3
  clear k3
  refine wp_region_up U3.heap.size 7 [(true, 0), (false, 1), (true, 2), (true, 3), (true, 4), (true, 5), (false, 6)] (by kernel_rfl) (by kernel_rfl) (fun _ _ d _ _ h => by cases d <;> exact h) ?_
  have hb : Below U3.heap.size U3 U3.drew := (Below.refl _ _).drew
  refine wpS_takeL rfl rfl ?_
  go_big_quiet_step (rfl)
  refine wpQuiet_nil ?_
  refine wpS_doL rfl ?_
  intro K hK
  go_wp2_with ((go_at_call 101; (with_reducible refine (dot_is 0 0 3 3 false HP2.out (by unfold In64; omega) (by unfold In64; omega) (by unfold In64; omega) (by unfold In64; omega)  _).mono ?_); rintro e w2 ⟨rfl, hn⟩))
  replace hb := hb.trans (hn.mono hb.size)
  refine hK.out _ _ (up_iff.2 hb) ?_
  clear hK K
  clear hn
  iterate 4
    refine wpS_takeL rfl rfl ?_
    go_big_quiet_step (rfl)
    refine wpQuiet_nil ?_
  refine wpS_doL rfl ?_
  intro K hK
  go_wp2_with ((go_at_call 101; (with_reducible refine (dot_is 0 0 3 3 false HP2.out (by unfold In64; omega) (by unfold In64; omega) (by unfold In64; omega) (by unfold In64; omega)  _).mono ?_); rintro e w2 ⟨rfl, hn⟩))
  try replace hb := hb.trans (hn.mono hb.size)
  refine hK.out _ _ (up_iff.2 hb) ?_
  clear hK K
  try clear hn
  refine wpS_nil ?_
  simp only [List.drop_succ_cons, List.drop_zero]
  first | refine calls_w ?_ | refine name_world ?_ | refine list_world ?_ | refine post_world ?_
  intro U4 hU4
  first | subst hU4 | (rw [← hU4] at hb; clear hU4)
  clear c1_0 c1_1 c1_2 c1_3 l1
  have k1 := Kk1.out.of hb
  clear Kk1
  have k2 := Kk2.out.of hb
  clear Kk2
  have k3 := Kk3.out.of hb
  clear Kk3
  replace hb0 := hb0.trans (hb.mono hb0.size)
  clear hb
  go_wp2_with fail
  have c2_0 : U4.cell? ⟨(w.heap.size + 1), 0, none⟩ = some (.int .i64 0) := k2.cell 0
  have c2_1 : U4.cell? ⟨(w.heap.size + 1), 1, none⟩ = some (.int .i64 2) := k2.cell 1
  have c2_2 : U4.cell? ⟨(w.heap.size + 1), 2, none⟩ = some (.int .i64 2) := k2.cell 2
  have c2_3 : U4.cell? ⟨(w.heap.size + 1), 3, none⟩ = some (.int .i64 0) := k2.cell 3
  have l2 := k2.lt
  have Kk1 := Lib.hid k1
  clear k1
  have Kk2 := Lib.hid k2
  clear k2
  have Kk3 := Lib.hid k3
  clear k3
  refine wp_region_up U4.heap.size 7 [(true, 0), (false, 1), (true, 2), (true, 3), (true, 4), (true, 5), (false, 6)] (by kernel_rfl) (by kernel_rfl) (fun _ _ d _ _ h => by cases d <;> exact h) ?_
  have hb : Below U4.heap.size U4 U4.drew := (Below.refl _ _).drew
  refine wpS_takeL rfl rfl ?_
  go_big_quiet_step (rfl)
  refine wpQuiet_nil ?_
  refine wpS_doL rfl ?_
  intro K hK
  go_wp2_with ((go_at_call 101; (with_reducible refine (dot_is 0 2 2 0 false HP3.out (by unfold In64; omega) (by unfold In64; omega) (by unfold In64; omega) (by unfold In64; omega)  _).mono ?_); rintro e w2 ⟨rfl, hn⟩))
  replace hb := hb.trans (hn.mono hb.size)
  refine hK.out _ _ (up_iff.2 hb) ?_
  clear hK K
  clear hn
  iterate 4
    refine wpS_takeL rfl rfl ?_
    go_big_quiet_step (rfl)
    refine wpQuiet_nil ?_
  refine wpS_doL rfl ?_
  intro K hK
  go_wp2_with ((go_at_call 101; (with_reducible refine (dot_is 0 2 2 0 false HP3.out (by unfold In64; omega) (by unfold In64; omega) (by unfold In64; omega) (by unfold In64; omega)  _).mono ?_); rintro e w2 ⟨rfl, hn⟩))
  try replace hb := hb.trans (hn.mono hb.size)
  refine hK.out _ _ (up_iff.2 hb) ?_
  clear hK K
  try clear hn
  refine wpS_nil ?_
  simp only [List.drop_succ_cons, List.drop_zero]
  first | refine calls_w ?_ | refine name_world ?_ | refine list_world ?_ | refine post_world ?_
  intro U5 hU5
  first | subst hU5 | (rw [← hU5] at hb; clear hU5)
  clear c2_0 c2_1 c2_2 c2_3 l2
  have k1 := Kk1.out.of hb
  clear Kk1
  have k2 := Kk2.out.of hb
  clear Kk2
  have k3 := Kk3.out.of hb
  clear Kk3
  replace hb0 := hb0.trans (hb.mono hb0.size)
  clear hb
  have c1_0 : U5.cell? ⟨w.heap.size, 0, none⟩ = some (.int .i64 0) := k1.cell 0
  have c1_1 : U5.cell? ⟨w.heap.size, 1, none⟩ = some (.int .i64 0) := k1.cell 1
  have c1_2 : U5.cell? ⟨w.heap.size, 2, none⟩ = some (.int .i64 3) := k1.cell 2
  have c1_3 : U5.cell? ⟨w.heap.size, 3, none⟩ = some (.int .i64 3) := k1.cell 3
  have l1 := k1.lt
  go_wp2_with fail
  clear c1_0 c1_1 c1_2 c1_3 l1
  refine (dot_is 0 0 3 3 false HP2.out (by unfold In64; omega) (by unfold In64; omega) (by unfold In64; omega) (by unfold In64; omega)  _).mono ?_
  rintro e U6 ⟨rfl, hn⟩
  replace k1 := k1.of hn
  replace k2 := k2.of hn
  replace k3 := k3.of hn
  replace hb0 := hb0.trans (hn.mono hb0.size)
  clear hn
  have c2_0 : U6.cell? ⟨(w.heap.size + 1), 0, none⟩ = some (.int .i64 0) := k2.cell 0
  have c2_1 : U6.cell? ⟨(w.heap.size + 1), 1, none⟩ = some (.int .i64 2) := k2.cell 1
  have c2_2 : U6.cell? ⟨(w.heap.size + 1), 2, none⟩ = some (.int .i64 2) := k2.cell 2
  have c2_3 : U6.cell? ⟨(w.heap.size + 1), 3, none⟩ = some (.int .i64 0) := k2.cell 3
  have l2 := k2.lt
  go_wp2_with fail
  clear c2_0 c2_1 c2_2 c2_3 l2
  refine (dot_is 0 2 2 0 false HP3.out (by unfold In64; omega) (by unfold In64; omega) (by unfold In64; omega) (by unfold In64; omega)  _).mono ?_
  rintro e U7 ⟨rfl, hn⟩
  replace k1 := k1.of hn
  replace k2 := k2.of hn
  replace k3 := k3.of hn
  replace hb0 := hb0.trans (hn.mono hb0.size)
  clear hn
  have c1_0 : U7.cell? ⟨w.heap.size, 0, none⟩ = some (.int .i64 0) := k1.cell 0
  have c1_1 : U7.cell? ⟨w.heap.size, 1, none⟩ = some (.int .i64 0) := k1.cell 1
  have c1_2 : U7.cell? ⟨w.heap.size, 2, none⟩ = some (.int .i64 3) := k1.cell 2
  have c1_3 : U7.cell? ⟨w.heap.size, 3, none⟩ = some (.int .i64 3) := k1.cell 3
  have l1 := k1.lt
  have c2_0 : U7.cell? ⟨(w.heap.size + 1), 0, none⟩ = some (.int .i64 0) := k2.cell 0
  have c2_1 : U7.cell? ⟨(w.heap.size + 1), 1, none⟩ = some (.int .i64 2) := k2.cell 1
  have c2_2 : U7.cell? ⟨(w.heap.size + 1), 2, none⟩ = some (.int .i64 2) := k2.cell 2
  have c2_3 : U7.cell? ⟨(w.heap.size + 1), 3, none⟩ = some (.int .i64 0) := k2.cell 3
  have l2 := k2.lt
  go_wp2_with fail
  clear c1_0 c1_1 c1_2 c1_3 l1 c2_0 c2_1 c2_2 c2_3 l2
  refine (Slope_is 0 0 3 3 0 2 2 0 1 HP4.out (by unfold In64; omega) (by unfold In64; omega) (by unfold In64; omega) (by unfold In64; omega) (by unfold In64; omega) (by unfold In64; omega) (by unfold In64; omega) (by unfold In64; omega)  _).mono ?_
  rintro e U8 ⟨rfl, hn⟩
  replace k1 := k1.of hn
  replace k2 := k2.of hn
  replace k3 := k3.of hn
  replace hb0 := hb0.trans (hn.mono hb0.size)
  clear hn
  have c1_0 : U8.cell? ⟨w.heap.size, 0, none⟩ = some (.int .i64 0) := k1.cell 0
  have c1_1 : U8.cell? ⟨w.heap.size, 1, none⟩ = some (.int .i64 0) := k1.cell 1
  have c1_2 : U8.cell? ⟨w.heap.size, 2, none⟩ = some (.int .i64 3) := k1.cell 2
  have c1_3 : U8.cell? ⟨w.heap.size, 3, none⟩ = some (.int .i64 3) := k1.cell 3
  have l1 := k1.lt
  have c2_0 : U8.cell? ⟨(w.heap.size + 1), 0, none⟩ = some (.int .i64 0) := k2.cell 0
  have c2_1 : U8.cell? ⟨(w.heap.size + 1), 1, none⟩ = some (.int .i64 2) := k2.cell 1
  have c2_2 : U8.cell? ⟨(w.heap.size + 1), 2, none⟩ = some (.int .i64 2) := k2.cell 2
  have c2_3 : U8.cell? ⟨(w.heap.size + 1), 3, none⟩ = some (.int .i64 0) := k2.cell 3
  have l2 := k2.lt
  go_wp2_with fail
  clear c1_0 c1_1 c1_2 c1_3 l1 c2_0 c2_1 c2_2 c2_3 l2
  refine (Slope_is 0 0 3 3 0 2 2 0 1 HP4.out (by unfold In64; omega) (by unfold In64; omega) (by unfold In64; omega) (by unfold In64; omega) (by unfold In64; omega) (by unfold In64; omega) (by unfold In64; omega) (by unfold In64; omega)  _).mono ?_
  rintro e U9 ⟨rfl, hn⟩
  replace k1 := k1.of hn
  replace k2 := k2.of hn
  replace k3 := k3.of hn
  replace hb0 := hb0.trans (hn.mono hb0.size)
  clear hn
  have c1_0 : U9.cell? ⟨w.heap.size, 0, none⟩ = some (.int .i64 0) := k1.cell 0
  have c1_1 : U9.cell? ⟨w.heap.size, 1, none⟩ = some (.int .i64 0) := k1.cell 1
  have c1_2 : U9.cell? ⟨w.heap.size, 2, none⟩ = some (.int .i64 3) := k1.cell 2
  have c1_3 : U9.cell? ⟨w.heap.size, 3, none⟩ = some (.int .i64 3) := k1.cell 3
  have l1 := k1.lt
  have c2_0 : U9.cell? ⟨(w.heap.size + 1), 0, none⟩ = some (.int .i64 0) := k2.cell 0
  have c2_1 : U9.cell? ⟨(w.heap.size + 1), 1, none⟩ = some (.int .i64 2) := k2.cell 1
  have c2_2 : U9.cell? ⟨(w.heap.size + 1), 2, none⟩ = some (.int .i64 2) := k2.cell 2
  have c2_3 : U9.cell? ⟨(w.heap.size + 1), 3, none⟩ = some (.int .i64 0) := k2.cell 3
  have l2 := k2.lt
  go_wp2_with fail
  clear c1_0 c1_1 c1_2 c1_3 l1 c2_0 c2_1 c2_2 c2_3 l2
  refine (crossing_is 0 0 3 3 0 2 2 0 12 12 12 HP5.out HP6.out HP7.out (by unfold In64; omega) (by unfold In64; omega) (by unfold In64; omega) (by unfold In64; omega) (by unfold In64; omega) (by unfold In64; omega) (by unfold In64; omega) (by unfold In64; omega)  _).mono ?_
  rintro e U10 ⟨rfl, hn⟩
  replace k1 := k1.of hn
  replace k2 := k2.of hn
  replace k3 := k3.of hn
  replace hb0 := hb0.trans (hn.mono hb0.size)
  clear hn
  go_wp2_with fail
  first | refine calls_w ?_ | refine name_world ?_ | refine list_world ?_ | refine post_world ?_
  intro V11 hV11
  have D1 := Lib.hid k1.lt
  have D2 := Lib.hid k2.lt
  have D3 := Lib.hid k3.lt
  have D4 := Lib.hid hb0.size
  have hn : Below U10.heap.size U10 V11 := by rw [hV11]; exact below_a1 _ _
  have nk1 := k1.of hn
  have nk2 := k2.of hn
  have nk3 := k3.of hn
  have nhb0 := hb0.trans (hn.mono hb0.size)
  clear hn
  have k4 : Blk V11 U10.heap.size #[.int .u64 (wd0 12), .int .u64 (wd1 12), .int .u64 (wd2 12), .int .u64 (wd3 12), .int .u64 (wd0 12), .int .u64 (wd1 12), .int .u64 (wd2 12), .int .u64 (wd3 12), .int .u64 (wd0 12), .int .u64 (wd1 12), .int .u64 (wd2 12), .int .u64 (wd3 12)] 67 := by rw [hV11]; exact (Blk.new _ _ _)
  clear k1 k2 k3
  clear hb0
  clear hV11
  have k1 := nk1
  clear nk1
  have k2 := nk2
  clear nk2
  have k3 := nk3
  clear nk3
  have hb0 := nhb0
  clear nhb0
  refine (SpRight_is 12 12 12 true HP8.out (by unfold InI b255; omega) (by unfold InI b255; omega) (by unfold InI b255; omega)  _).mono ?_
  rintro e U12 ⟨rfl, hn⟩
  replace k1 := k1.of hn
  replace k2 := k2.of hn
  replace k3 := k3.of hn
  replace k4 := k4.of hn
  replace hb0 := hb0.trans (hn.mono hb0.size)
  clear hn
  have c1_0 : U12.cell? ⟨w.heap.size, 0, none⟩ = some (.int .i64 0) := k1.cell 0
  have c1_1 : U12.cell? ⟨w.heap.size, 1, none⟩ = some (.int .i64 0) := k1.cell 1
  have c1_2 : U12.cell? ⟨w.heap.size, 2, none⟩ = some (.int .i64 3) := k1.cell 2
  have c1_3 : U12.cell? ⟨w.heap.size, 3, none⟩ = some (.int .i64 3) := k1.cell 3
  have l1 := k1.lt
  have c4_0 : U12.cell? ⟨U10.heap.size, 0, none⟩ = some (.int .u64 (wd0 12)) := k4.cell 0
  have c4_1 : U12.cell? ⟨U10.heap.size, 1, none⟩ = some (.int .u64 (wd1 12)) := k4.cell 1
  have c4_2 : U12.cell? ⟨U10.heap.size, 2, none⟩ = some (.int .u64 (wd2 12)) := k4.cell 2
  have c4_3 : U12.cell? ⟨U10.heap.size, 3, none⟩ = some (.int .u64 (wd3 12)) := k4.cell 3
  have c4_4 : U12.cell? ⟨U10.heap.size, 4, none⟩ = some (.int .u64 (wd0 12)) := k4.cell 4
  have c4_5 : U12.cell? ⟨U10.heap.size, 5, none⟩ = some (.int .u64 (wd1 12)) := k4.cell 5
  have c4_6 : U12.cell? ⟨U10.heap.size, 6, none⟩ = some (.int .u64 (wd2 12)) := k4.cell 6
  have c4_7 : U12.cell? ⟨U10.heap.size, 7, none⟩ = some (.int .u64 (wd3 12)) := k4.cell 7
  have c4_8 : U12.cell? ⟨U10.heap.size, 8, none⟩ = some (.int .u64 (wd0 12)) := k4.cell 8
  have c4_9 : U12.cell? ⟨U10.heap.size, 9, none⟩ = some (.int .u64 (wd1 12)) := k4.cell 9
  have c4_10 : U12.cell? ⟨U10.heap.size, 10, none⟩ = some (.int .u64 (wd2 12)) := k4.cell 10
  have c4_11 : U12.cell? ⟨U10.heap.size, 11, none⟩ = some (.int .u64 (wd3 12)) := k4.cell 11
  have l4 := k4.lt
  go_wp2_with fail
  clear c1_0 c1_1 c1_2 c1_3 l1 c4_0 c4_1 c4_2 c4_3 c4_4 c4_5 c4_6 c4_7 c4_8 c4_9 c4_10 c4_11 l4
  refine (SegHolds_is 0 0 3 3 12 12 12 true HP9.out (by unfold In64; omega) (by unfold In64; omega) (by unfold In64; omega) (by unfold In64; omega) (by unfold InI b255; omega) (by unfold InI b255; omega) (by unfold InI b255; omega)  _).mono ?_
  rintro e U13 ⟨rfl, hn⟩
  clear k1
  replace k2 := k2.of hn
  replace k3 := k3.of hn
  replace k4 := k4.of hn
  replace hb0 := hb0.trans (hn.mono hb0.size)
  clear hn
  have c2_0 : U13.cell? ⟨(w.heap.size + 1), 0, none⟩ = some (.int .i64 0) := k2.cell 0
  have c2_1 : U13.cell? ⟨(w.heap.size + 1), 1, none⟩ = some (.int .i64 2) := k2.cell 1
  have c2_2 : U13.cell? ⟨(w.heap.size + 1), 2, none⟩ = some (.int .i64 2) := k2.cell 2
  have c2_3 : U13.cell? ⟨(w.heap.size + 1), 3, none⟩ = some (.int .i64 0) := k2.cell 3
  have l2 := k2.lt
  have c4_0 : U13.cell? ⟨U10.heap.size, 0, none⟩ = some (.int .u64 (wd0 12)) := k4.cell 0
  have c4_1 : U13.cell? ⟨U10.heap.size, 1, none⟩ = some (.int .u64 (wd1 12)) := k4.cell 1
  have c4_2 : U13.cell? ⟨U10.heap.size, 2, none⟩ = some (.int .u64 (wd2 12)) := k4.cell 2
  have c4_3 : U13.cell? ⟨U10.heap.size, 3, none⟩ = some (.int .u64 (wd3 12)) := k4.cell 3
  have c4_4 : U13.cell? ⟨U10.heap.size, 4, none⟩ = some (.int .u64 (wd0 12)) := k4.cell 4
  have c4_5 : U13.cell? ⟨U10.heap.size, 5, none⟩ = some (.int .u64 (wd1 12)) := k4.cell 5
  have c4_6 : U13.cell? ⟨U10.heap.size, 6, none⟩ = some (.int .u64 (wd2 12)) := k4.cell 6
  have c4_7 : U13.cell? ⟨U10.heap.size, 7, none⟩ = some (.int .u64 (wd3 12)) := k4.cell 7
  have c4_8 : U13.cell? ⟨U10.heap.size, 8, none⟩ = some (.int .u64 (wd0 12)) := k4.cell 8
  have c4_9 : U13.cell? ⟨U10.heap.size, 9, none⟩ = some (.int .u64 (wd1 12)) := k4.cell 9
  have c4_10 : U13.cell? ⟨U10.heap.size, 10, none⟩ = some (.int .u64 (wd2 12)) := k4.cell 10
  have c4_11 : U13.cell? ⟨U10.heap.size, 11, none⟩ = some (.int .u64 (wd3 12)) := k4.cell 11
  have l4 := k4.lt
  go_wp2_with fail
  clear c2_0 c2_1 c2_2 c2_3 l2 c4_0 c4_1 c4_2 c4_3 c4_4 c4_5 c4_6 c4_7 c4_8 c4_9 c4_10 c4_11 l4
  refine (SegHolds_is 0 2 2 0 12 12 12 true HP10.out (by unfold In64; omega) (by unfold In64; omega) (by unfold In64; omega) (by unfold In64; omega) (by unfold InI b255; omega) (by unfold InI b255; omega) (by unfold InI b255; omega)  _).mono ?_
  rintro e U14 ⟨rfl, hn⟩
  clear k2
  replace k3 := k3.of hn
  replace k4 := k4.of hn
  replace hb0 := hb0.trans (hn.mono hb0.size)
  clear hn
  go_wp2_with fail
  have c3_0 : U14.cell? ⟨(w.heap.size + 1 + 1), 0, none⟩ = some (.int .u64 0) := k3.cell 0
  have c3_1 : U14.cell? ⟨(w.heap.size + 1 + 1), 1, none⟩ = some (.int .u64 0) := k3.cell 1
  have c3_2 : U14.cell? ⟨(w.heap.size + 1 + 1), 2, none⟩ = some (.int .u64 0) := k3.cell 2
  have c3_3 : U14.cell? ⟨(w.heap.size + 1 + 1), 3, none⟩ = some (.int .u64 0) := k3.cell 3
  have c3_4 : U14.cell? ⟨(w.heap.size + 1 + 1), 4, none⟩ = some (.int .u64 0) := k3.cell 4
  have c3_5 : U14.cell? ⟨(w.heap.size + 1 + 1), 5, none⟩ = some (.int .u64 0) := k3.cell 5
  have c3_6 : U14.cell? ⟨(w.heap.size + 1 + 1), 6, none⟩ = some (.int .u64 0) := k3.cell 6
  have c3_7 : U14.cell? ⟨(w.heap.size + 1 + 1), 7, none⟩ = some (.int .u64 0) := k3.cell 7
  have c3_8 : U14.cell? ⟨(w.heap.size + 1 + 1), 8, none⟩ = some (.int .u64 0) := k3.cell 8
  have c3_9 : U14.cell? ⟨(w.heap.size + 1 + 1), 9, none⟩ = some (.int .u64 0) := k3.cell 9
  have c3_10 : U14.cell? ⟨(w.heap.size + 1 + 1), 10, none⟩ = some (.int .u64 0) := k3.cell 10
  have c3_11 : U14.cell? ⟨(w.heap.size + 1 + 1), 11, none⟩ = some (.int .u64 0) := k3.cell 11
  have f3_0 := k3.free 0
  have f3_1 := k3.free 1
  have f3_2 := k3.free 2
  have f3_3 := k3.free 3
  have f3_4 := k3.free 4
  have f3_5 := k3.free 5
  have f3_6 := k3.free 6
  have f3_7 := k3.free 7
  have f3_8 := k3.free 8
  have f3_9 := k3.free 9
  have f3_10 := k3.free 10
  have f3_11 := k3.free 11
  have l3 := k3.lt
  have c4_0 : U14.cell? ⟨U10.heap.size, 0, none⟩ = some (.int .u64 (wd0 12)) := k4.cell 0
  have c4_1 : U14.cell? ⟨U10.heap.size, 1, none⟩ = some (.int .u64 (wd1 12)) := k4.cell 1
  have c4_2 : U14.cell? ⟨U10.heap.size, 2, none⟩ = some (.int .u64 (wd2 12)) := k4.cell 2
  have c4_3 : U14.cell? ⟨U10.heap.size, 3, none⟩ = some (.int .u64 (wd3 12)) := k4.cell 3
  have c4_4 : U14.cell? ⟨U10.heap.size, 4, none⟩ = some (.int .u64 (wd0 12)) := k4.cell 4
  have c4_5 : U14.cell? ⟨U10.heap.size, 5, none⟩ = some (.int .u64 (wd1 12)) := k4.cell 5
  have c4_6 : U14.cell? ⟨U10.heap.size, 6, none⟩ = some (.int .u64 (wd2 12)) := k4.cell 6
  have c4_7 : U14.cell? ⟨U10.heap.size, 7, none⟩ = some (.int .u64 (wd3 12)) := k4.cell 7
  have c4_8 : U14.cell? ⟨U10.heap.size, 8, none⟩ = some (.int .u64 (wd0 12)) := k4.cell 8
  have c4_9 : U14.cell? ⟨U10.heap.size, 9, none⟩ = some (.int .u64 (wd1 12)) := k4.cell 9
  have c4_10 : U14.cell? ⟨U10.heap.size, 10, none⟩ = some (.int .u64 (wd2 12)) := k4.cell 10
  have c4_11 : U14.cell? ⟨U10.heap.size, 11, none⟩ = some (.int .u64 (wd3 12)) := k4.cell 11
  have l4 := k4.lt
  have p4_3 : U10.heap.size ≠ (w.heap.size + 1 + 1) := (by have := D3.out; omega)
  have Kk3 := Lib.hid k3
  clear k3
  have Kk4 := Lib.hid k4
  clear k4
  go_region
  first | refine name_q ?_ | refine calls_w ?_ | refine name_world ?_ | refine list_world ?_ | refine post_world ?_
  intro U15 hU15
  clear c3_0 c3_1 c3_2 c3_3 c3_4 c3_5 c3_6 c3_7 c3_8 c3_9 c3_10 c3_11 f3_0 f3_1 f3_2 f3_3 f3_4 f3_5 f3_6 f3_7 f3_8 f3_9 f3_10 f3_11 l3 c4_0 c4_1 c4_2 c4_3 c4_4 c4_5 c4_6 c4_7 c4_8 c4_9 c4_10 c4_11 l4 p4_3
  have k3 : Blk U15 (w.heap.size + 1 + 1) #[.int .u64 (wd0 12), .int .u64 (wd1 12), .int .u64 (wd2 12), .int .u64 (wd3 12), .int .u64 (wd0 12), .int .u64 (wd1 12), .int .u64 (wd2 12), .int .u64 (wd3 12), .int .u64 (wd0 12), .int .u64 (wd1 12), .int .u64 (wd2 12), .int .u64 (wd3 12)] 67 := by rw [hU15]; exact Blk.drew (blk_full _ [.int .u64 (wd0 12), .int .u64 (wd1 12), .int .u64 (wd2 12), .int .u64 (wd3 12), .int .u64 (wd0 12), .int .u64 (wd1 12), .int .u64 (wd2 12), .int .u64 (wd3 12), .int .u64 (wd0 12), .int .u64 (wd1 12), .int .u64 (wd2 12), .int .u64 (wd3 12)] Kk3.out rfl)
  clear Kk3
  have k4 : Blk U15 U10.heap.size #[.int .u64 (wd0 12), .int .u64 (wd1 12), .int .u64 (wd2 12), .int .u64 (wd3 12), .int .u64 (wd0 12), .int .u64 (wd1 12), .int .u64 (wd2 12), .int .u64 (wd3 12), .int .u64 (wd0 12), .int .u64 (wd1 12), .int .u64 (wd2 12), .int .u64 (wd3 12)] 67 := by rw [hU15]; exact Blk.drew (blk_setL Kk4.out (by have := D3.out; omega) 0 [.int .u64 (wd0 12), .int .u64 (wd1 12), .int .u64 (wd2 12), .int .u64 (wd3 12), .int .u64 (wd0 12), .int .u64 (wd1 12), .int .u64 (wd2 12), .int .u64 (wd3 12), .int .u64 (wd0 12), .int .u64 (wd1 12), .int .u64 (wd2 12), .int .u64 (wd3 12)])
  clear Kk4
  replace hb0 : Below w.heap.size w U15 := by rw [hU15]; exact Below.drew (blw_setL hb0 (by omega) 0 [.int .u64 (wd0 12), .int .u64 (wd1 12), .int .u64 (wd2 12), .int .u64 (wd3 12), .int .u64 (wd0 12), .int .u64 (wd1 12), .int .u64 (wd2 12), .int .u64 (wd3 12), .int .u64 (wd0 12), .int .u64 (wd1 12), .int .u64 (wd2 12), .int .u64 (wd3 12)])
  clear hU15
  have e0 : 1 = R0 := by rw [← HR0.out]; unfold mck; (try rw [HP0.out]); (try rw [HP1.out]); (try rw [HP2.out]); (try rw [HP3.out]); (try rw [HP4.out]); (try rw [HP5.out]); (try rw [HP6.out]); (try rw [HP7.out]); (try rw [HP8.out]); (try rw [HP9.out]); (try rw [HP10.out]); all_goals first | rfl | simp
  have e1 : 12 = R1 := by rw [← HR1.out]; unfold mcx; (try rw [HP0.out]); (try rw [HP1.out]); (try rw [HP2.out]); (try rw [HP3.out]); (try rw [HP4.out]); (try rw [HP5.out]); (try rw [HP6.out]); (try rw [HP7.out]); (try rw [HP8.out]); (try rw [HP9.out]); (try rw [HP10.out]); all_goals first | rfl | simp
  have e2 : 12 = R2 := by rw [← HR2.out]; unfold mcy; (try rw [HP0.out]); (try rw [HP1.out]); (try rw [HP2.out]); (try rw [HP3.out]); (try rw [HP4.out]); (try rw [HP5.out]); (try rw [HP6.out]); (try rw [HP7.out]); (try rw [HP8.out]); (try rw [HP9.out]); (try rw [HP10.out]); all_goals first | rfl | simp
  have e3 : 12 = R3 := by rw [← HR3.out]; unfold mcw; (try rw [HP0.out]); (try rw [HP1.out]); (try rw [HP2.out]); (try rw [HP3.out]); (try rw [HP4.out]); (try rw [HP5.out]); (try rw [HP6.out]); (try rw [HP7.out]); (try rw [HP8.out]); (try rw [HP9.out]); (try rw [HP10.out]); all_goals first | rfl | simp
  subst e0
  subst e1
  subst e2
  subst e3
  go_wp2
  have g3_0 : U15.cell? ⟨(w.heap.size + 1 + 1), 0, none⟩ = some (.int .u64 (wd0 12)) := k3.cell 0
  have g3_1 : U15.cell? ⟨(w.heap.size + 1 + 1), 1, none⟩ = some (.int .u64 (wd1 12)) := k3.cell 1
  have g3_2 : U15.cell? ⟨(w.heap.size + 1 + 1), 2, none⟩ = some (.int .u64 (wd2 12)) := k3.cell 2
  have g3_3 : U15.cell? ⟨(w.heap.size + 1 + 1), 3, none⟩ = some (.int .u64 (wd3 12)) := k3.cell 3
  have g3_4 : U15.cell? ⟨(w.heap.size + 1 + 1), 4, none⟩ = some (.int .u64 (wd0 12)) := k3.cell 4
  have g3_5 : U15.cell? ⟨(w.heap.size + 1 + 1), 5, none⟩ = some (.int .u64 (wd1 12)) := k3.cell 5
  have g3_6 : U15.cell? ⟨(w.heap.size + 1 + 1), 6, none⟩ = some (.int .u64 (wd2 12)) := k3.cell 6
  have g3_7 : U15.cell? ⟨(w.heap.size + 1 + 1), 7, none⟩ = some (.int .u64 (wd3 12)) := k3.cell 7
  have g3_8 : U15.cell? ⟨(w.heap.size + 1 + 1), 8, none⟩ = some (.int .u64 (wd0 12)) := k3.cell 8
  have g3_9 : U15.cell? ⟨(w.heap.size + 1 + 1), 9, none⟩ = some (.int .u64 (wd1 12)) := k3.cell 9
  have g3_10 : U15.cell? ⟨(w.heap.size + 1 + 1), 10, none⟩ = some (.int .u64 (wd2 12)) := k3.cell 10
  have g3_11 : U15.cell? ⟨(w.heap.size + 1 + 1), 11, none⟩ = some (.int .u64 (wd3 12)) := k3.cell 11
  clear k3 k4
  simp [bodyPost, results, Try.results49, go_sem, g3_0, g3_1, g3_2, g3_3, g3_4, g3_5, g3_6, g3_7, g3_8, g3_9, g3_10, g3_11]
  first | exact hb0 | exact ⟨rfl, hb0⟩

def cawk  : Bool := (bif ((mck ) == 1) then (bif (whk (mcx ) (mcy ) (mcw )) then (bif ((whx (mcx ) (mcy ) (mcw )) == 1) then (bif ((why (mcx ) (mcy ) (mcw )) == 1) then (bif ((spC (mcx ) (mcy ) (mcw ) (atx 1 1) (aty 1 1) (atw 1 1)) == 0) then (bif (hldB 0 0 1 1 (atx 1 1) (aty 1 1) (atw 1 1)) then (!(hldB 0 0 1 1 (atx 2 2) (aty 2 2) (atw 2 2))) else false) else false) else false) else false) else false) else false)

set_option maxRecDepth 100000 in
set_option maxHeartbeats 4000000 in

theorem cawake_is   (R0 : Bool) (hR0 : cawk  = R0)   (w : World)  :
    Calls Try.prog 54 #[] w fun e w' => e = .returned (.bool R0) ∧ Below w.heap.size w w' := by

  have HR0 := Lib.hid hR0
  clear hR0
  go_enter Try.func54, Try.ntmps54
  go_wp2_with fail
  obtain ⟨r1, hr1⟩ : ∃ o_o : Int, mck  = o_o := ⟨_, rfl⟩
  have Hr1 := Lib.hid hr1
  clear hr1
  obtain ⟨r2, hr2⟩ : ∃ o_o : Int, mcx  = o_o := ⟨_, rfl⟩
  have Hr2 := Lib.hid hr2
  clear hr2
  obtain ⟨r3, hr3⟩ : ∃ o_o : Int, mcy  = o_o := ⟨_, rfl⟩
  have Hr3 := Lib.hid hr3
  clear hr3
  obtain ⟨r4, hr4⟩ : ∃ o_o : Int, mcw  = o_o := ⟨_, rfl⟩
  have Hr4 := Lib.hid hr4
  clear hr4
  refine (Meetc_is  r1 r2 r3 r4 Hr1.out Hr2.out Hr3.out Hr4.out (by kernel_rfl) (by kernel_rfl) (by kernel_rfl) (by kernel_rfl) (by kernel_rfl) (by kernel_rfl) (by kernel_rfl) (by kernel_rfl) (by kernel_rfl) (by kernel_rfl) (by kernel_rfl)   _).mono ?_
  rintro e U1 ⟨rfl, hn⟩
  have hb0 := hn
  clear hn
  go_wp2_with fail
  first | refine calls_w ?_ | refine name_world ?_ | refine list_world ?_ | refine post_world ?_
  intro V2 hV2
  have D1 := Lib.hid hb0.size
  have hn : Below U1.heap.size U1 V2 := by rw [hV2]; exact below_a1 _ _
  have nhb0 := hb0.trans (hn.mono hb0.size)
  clear hn
  have k1 : Blk V2 U1.heap.size #[.int .u64 (wd0 r2), .int .u64 (wd1 r2), .int .u64 (wd2 r2), .int .u64 (wd3 r2), .int .u64 (wd0 r3), .int .u64 (wd1 r3), .int .u64 (wd2 r3), .int .u64 (wd3 r3), .int .u64 (wd0 r4), .int .u64 (wd1 r4), .int .u64 (wd2 r4), .int .u64 (wd3 r4)] 67 := by rw [hV2]; exact (Blk.new _ _ _)
  clear hb0
  clear hV2
  have hb0 := nhb0
  clear nhb0
  obtain ⟨r5, hr5⟩ : ∃ o_o : Int, whx r2 r3 r4 = o_o := ⟨_, rfl⟩
  have Hr5 := Lib.hid hr5
  clear hr5
  obtain ⟨r6, hr6⟩ : ∃ o_o : Int, why r2 r3 r4 = o_o := ⟨_, rfl⟩
  have Hr6 := Lib.hid hr6
  clear hr6
  obtain ⟨z7, hz7⟩ : ∃ o_o : Bool, whk r2 r3 r4 = o_o := ⟨_, rfl⟩
  have Hz7 := Lib.hid hz7
  clear hz7
  refine (Whole_is r2 r3 r4 r5 r6 z7 Hr5.out Hr6.out Hz7.out (Hr2.out ▸ mcx_in  ) (Hr3.out ▸ mcy_in  ) (Hr4.out ▸ mcw_in  )  _).mono ?_
  rintro e U3 ⟨rfl, hn⟩
  replace k1 := k1.of hn
  replace hb0 := hb0.trans (hn.mono hb0.size)
  clear hn
  go_wp2_with fail
  first | refine calls_w ?_ | refine name_world ?_ | refine list_world ?_ | refine post_world ?_
  intro V4 hV4
  have D2 := Lib.hid k1.lt
  have D3 := Lib.hid hb0.size
  have hn : Below U3.heap.size U3 V4 := by rw [hV4]; exact below_a1 _ _
  have nk1 := k1.of hn
  have nhb0 := hb0.trans (hn.mono hb0.size)
  clear hn
  have k2 : Blk V4 U3.heap.size #[.int .i64 r5, .int .i64 r6] 24 := by rw [hV4]; exact (Blk.new _ _ _)
  clear k1
  clear hb0
  clear hV4
  have k1 := nk1
  clear nk1
  have hb0 := nhb0
  clear nhb0
  obtain ⟨z8, hz8⟩ : ∃ o_o : Bool, (r1 == 1) = o_o := ⟨_, rfl⟩
  cases z8
  · have nz8 : ¬ r1 = 1 := by simpa using hz8
    have Kk1 := Lib.hid k1
    clear k1
    have Kk2 := Lib.hid k2
    clear k2
    refine wp_region_up V4.heap.size 29 [(true, 0), (true, 1), (true, 2), (true, 3), (true, 4), (true, 5), (true, 6), (true, 7), (true, 8), (true, 9), (true, 10), (true, 11), (true, 12), (false, 13), (false, 14), (true, 15), (true, 16), (true, 17), (true, 18), (true, 19), (true, 20), (false, 21), (false, 22), (true, 23), (true, 24), (true, 25), (true, 26), (true, 27), (false, 28)] (by kernel_rfl) (by kernel_rfl) (fun _ _ d _ _ h => by cases d <;> exact h) ?_
    have hb : Below V4.heap.size V4 V4.drew := (Below.refl _ _).drew
    iterate 13
      refine wpS_takeL rfl rfl ?_
      go_big_quiet_step (rfl)
      refine wpQuiet_nil ?_
    refine wpS_doL rfl ?_
    intro K hK
    go_wp2_with (fail)
    try replace hb := hb.trans (hn.mono hb.size)
    refine hK.out _ _ (up_iff.2 hb) ?_
    clear hK K
    try clear hn
    refine wpS_doL rfl ?_
    intro K hK
    go_wp2_with (fail)
    try replace hb := hb.trans (hn.mono hb.size)
    refine hK.out _ _ (up_iff.2 hb) ?_
    clear hK K
    try clear hn
    iterate 6
      refine wpS_takeL rfl rfl ?_
      go_big_quiet_step (rfl)
      refine wpQuiet_nil ?_
    refine wpS_doL rfl ?_
    intro K hK
    go_wp2_with (fail)
    try replace hb := hb.trans (hn.mono hb.size)
    refine hK.out _ _ (up_iff.2 hb) ?_
    clear hK K
    try clear hn
    refine wpS_doL rfl ?_
    intro K hK
    go_wp2_with (fail)
    try replace hb := hb.trans (hn.mono hb.size)
    refine hK.out _ _ (up_iff.2 hb) ?_
    clear hK K
    try clear hn
    iterate 5
      refine wpS_takeL rfl rfl ?_
      go_big_quiet_step (rfl)
      refine wpQuiet_nil ?_
    refine wpS_doL rfl ?_
    intro K hK
    go_wp2_with (fail)
    try replace hb := hb.trans (hn.mono hb.size)
    refine hK.out _ _ (up_iff.2 hb) ?_
    clear hK K
    try clear hn
    refine wpS_nil ?_
    simp only [List.drop_succ_cons, List.drop_zero]
    first | refine calls_w ?_ | refine name_world ?_ | refine list_world ?_ | refine post_world ?_
    intro U5 hU5
    first | subst hU5 | (rw [← hU5] at hb; clear hU5)
    have k1 := Kk1.out.of hb
    clear Kk1
    have k2 := Kk2.out.of hb
    clear Kk2
    replace hb0 := hb0.trans (hb.mono hb0.size)
    clear hb
    have e0 : false = R0 := by rw [← HR0.out]; unfold cawk; (try rw [Hr1.out]); (try rw [Hr2.out]); (try rw [Hr3.out]); (try rw [Hr4.out]); (try rw [Hr5.out]); (try rw [Hr6.out]); (try rw [Hz7.out]); (try rw [hz8]); all_goals first | rfl | simp
    subst e0
    go_wp2
    first | go_ret | go_ret2
    exact ⟨by first | rfl | simp, hb0⟩
  · obtain rfl : r1 = 1 := by simpa using hz8
    clear hz8
    cases z7
    · have Kk1 := Lib.hid k1
      clear k1
      have Kk2 := Lib.hid k2
      clear k2
      refine wp_region_up V4.heap.size 29 [(true, 0), (true, 1), (true, 2), (true, 3), (true, 4), (true, 5), (true, 6), (true, 7), (true, 8), (true, 9), (true, 10), (true, 11), (true, 12), (false, 13), (false, 14), (true, 15), (true, 16), (true, 17), (true, 18), (true, 19), (true, 20), (false, 21), (false, 22), (true, 23), (true, 24), (true, 25), (true, 26), (true, 27), (false, 28)] (by kernel_rfl) (by kernel_rfl) (fun _ _ d _ _ h => by cases d <;> exact h) ?_
      have hb : Below V4.heap.size V4 V4.drew := (Below.refl _ _).drew
      iterate 13
        refine wpS_takeL rfl rfl ?_
        go_big_quiet_step (rfl)
        refine wpQuiet_nil ?_
      refine wpS_doL rfl ?_
      intro K hK
      go_wp2_with (fail)
      try replace hb := hb.trans (hn.mono hb.size)
      refine hK.out _ _ (up_iff.2 hb) ?_
      clear hK K
      try clear hn
      refine wpS_doL rfl ?_
      intro K hK
      go_wp2_with (fail)
      try replace hb := hb.trans (hn.mono hb.size)
      refine hK.out _ _ (up_iff.2 hb) ?_
      clear hK K
      try clear hn
      iterate 6
        refine wpS_takeL rfl rfl ?_
        go_big_quiet_step (rfl)
        refine wpQuiet_nil ?_
      refine wpS_doL rfl ?_
      intro K hK
      go_wp2_with (fail)
      try replace hb := hb.trans (hn.mono hb.size)
      refine hK.out _ _ (up_iff.2 hb) ?_
      clear hK K
      try clear hn
      refine wpS_doL rfl ?_
      intro K hK
      go_wp2_with (fail)
      try replace hb := hb.trans (hn.mono hb.size)
      refine hK.out _ _ (up_iff.2 hb) ?_
      clear hK K
      try clear hn
      iterate 5
        refine wpS_takeL rfl rfl ?_
        go_big_quiet_step (rfl)
        refine wpQuiet_nil ?_
      refine wpS_doL rfl ?_
      intro K hK
      go_wp2_with (fail)
      try replace hb := hb.trans (hn.mono hb.size)
      refine hK.out _ _ (up_iff.2 hb) ?_
      clear hK K
      try clear hn
      refine wpS_nil ?_
      simp only [List.drop_succ_cons, List.drop_zero]
      first | refine calls_w ?_ | refine name_world ?_ | refine list_world ?_ | refine post_world ?_
      intro U6 hU6
      first | subst hU6 | (rw [← hU6] at hb; clear hU6)
      have k1 := Kk1.out.of hb
      clear Kk1
      have k2 := Kk2.out.of hb
      clear Kk2
      replace hb0 := hb0.trans (hb.mono hb0.size)
      clear hb
      have e0 : false = R0 := by rw [← HR0.out]; unfold cawk; (try rw [Hr1.out]); (try rw [Hr2.out]); (try rw [Hr3.out]); (try rw [Hr4.out]); (try rw [Hr5.out]); (try rw [Hr6.out]); (try rw [Hz7.out]); all_goals first | rfl | simp
      subst e0
      go_wp2
      first | go_ret | go_ret2
      exact ⟨by first | rfl | simp, hb0⟩
    · obtain ⟨z9, hz9⟩ : ∃ o_o : Bool, (r5 == 1) = o_o := ⟨_, rfl⟩
      cases z9
      · have nz9 : ¬ r5 = 1 := by simpa using hz9
        have c2_0 : V4.cell? ⟨U3.heap.size, 0, none⟩ = some (.int .i64 r5) := k2.cell 0
        have c2_1 : V4.cell? ⟨U3.heap.size, 1, none⟩ = some (.int .i64 r6) := k2.cell 1
        have l2 := k2.lt
        have Kk1 := Lib.hid k1
        clear k1
        have Kk2 := Lib.hid k2
        clear k2
        refine wp_region_up V4.heap.size 29 [(true, 0), (true, 1), (true, 2), (true, 3), (true, 4), (true, 5), (true, 6), (true, 7), (true, 8), (true, 9), (true, 10), (true, 11), (true, 12), (false, 13), (false, 14), (true, 15), (true, 16), (true, 17), (true, 18), (true, 19), (true, 20), (false, 21), (false, 22), (true, 23), (true, 24), (true, 25), (true, 26), (true, 27), (false, 28)] (by kernel_rfl) (by kernel_rfl) (fun _ _ d _ _ h => by cases d <;> exact h) ?_
        have hb : Below V4.heap.size V4 V4.drew := (Below.refl _ _).drew
        iterate 13
          refine wpS_takeL rfl rfl ?_
          go_big_quiet_step (rfl)
          refine wpQuiet_nil ?_
        refine wpS_doL rfl ?_
        intro K hK
        go_wp2_with (fail)
        try replace hb := hb.trans (hn.mono hb.size)
        refine hK.out _ _ (up_iff.2 hb) ?_
        clear hK K
        try clear hn
        refine wpS_doL rfl ?_
        intro K hK
        go_wp2_with (fail)
        try replace hb := hb.trans (hn.mono hb.size)
        refine hK.out _ _ (up_iff.2 hb) ?_
        clear hK K
        try clear hn
        iterate 6
          refine wpS_takeL rfl rfl ?_
          go_big_quiet_step (rfl)
          refine wpQuiet_nil ?_
        refine wpS_doL rfl ?_
        intro K hK
        go_wp2_with (fail)
        try replace hb := hb.trans (hn.mono hb.size)
        refine hK.out _ _ (up_iff.2 hb) ?_
        clear hK K
        try clear hn
        refine wpS_doL rfl ?_
        intro K hK
        go_wp2_with (fail)
        try replace hb := hb.trans (hn.mono hb.size)
        refine hK.out _ _ (up_iff.2 hb) ?_
        clear hK K
        try clear hn
        iterate 5
          refine wpS_takeL rfl rfl ?_
          go_big_quiet_step (rfl)
          refine wpQuiet_nil ?_
        refine wpS_doL rfl ?_
        intro K hK
        go_wp2_with (fail)
        try replace hb := hb.trans (hn.mono hb.size)
        refine hK.out _ _ (up_iff.2 hb) ?_
        clear hK K
        try clear hn
        refine wpS_nil ?_
        simp only [List.drop_succ_cons, List.drop_zero]
        first | refine calls_w ?_ | refine name_world ?_ | refine list_world ?_ | refine post_world ?_
        intro U7 hU7
        first | subst hU7 | (rw [← hU7] at hb; clear hU7)
        clear c2_0 c2_1 l2
        have k1 := Kk1.out.of hb
        clear Kk1
        have k2 := Kk2.out.of hb
        clear Kk2
        replace hb0 := hb0.trans (hb.mono hb0.size)
        clear hb
        have e0 : false = R0 := by rw [← HR0.out]; unfold cawk; (try rw [Hr1.out]); (try rw [Hr2.out]); (try rw [Hr3.out]); (try rw [Hr4.out]); (try rw [Hr5.out]); (try rw [Hr6.out]); (try rw [Hz7.out]); (try rw [hz9]); all_goals first | rfl | simp
        subst e0
        go_wp2
        first | go_ret | go_ret2
        exact ⟨by first | rfl | simp, hb0⟩
      · obtain rfl : r5 = 1 := by simpa using hz9
        clear hz9
        obtain ⟨z10, hz10⟩ : ∃ o_o : Bool, (r6 == 1) = o_o := ⟨_, rfl⟩
        cases z10
        · have nz10 : ¬ r6 = 1 := by simpa using hz10
          have c2_0 : V4.cell? ⟨U3.heap.size, 0, none⟩ = some (.int .i64 1) := k2.cell 0
          have c2_1 : V4.cell? ⟨U3.heap.size, 1, none⟩ = some (.int .i64 r6) := k2.cell 1
          have l2 := k2.lt
          have Kk1 := Lib.hid k1
          clear k1
          have Kk2 := Lib.hid k2
          clear k2
          refine wp_region_up V4.heap.size 29 [(true, 0), (true, 1), (true, 2), (true, 3), (true, 4), (true, 5), (true, 6), (true, 7), (true, 8), (true, 9), (true, 10), (true, 11), (true, 12), (false, 13), (false, 14), (true, 15), (true, 16), (true, 17), (true, 18), (true, 19), (true, 20), (false, 21), (false, 22), (true, 23), (true, 24), (true, 25), (true, 26), (true, 27), (false, 28)] (by kernel_rfl) (by kernel_rfl) (fun _ _ d _ _ h => by cases d <;> exact h) ?_
          have hb : Below V4.heap.size V4 V4.drew := (Below.refl _ _).drew
          iterate 13
            refine wpS_takeL rfl rfl ?_
            go_big_quiet_step (rfl)
            refine wpQuiet_nil ?_
          refine wpS_doL rfl ?_
          intro K hK
          go_wp2_with (fail)
          try replace hb := hb.trans (hn.mono hb.size)
          refine hK.out _ _ (up_iff.2 hb) ?_
          clear hK K
          try clear hn
          refine wpS_doL rfl ?_
          intro K hK
          go_wp2_with (fail)
          try replace hb := hb.trans (hn.mono hb.size)
          refine hK.out _ _ (up_iff.2 hb) ?_
          clear hK K
          try clear hn
          iterate 6
            refine wpS_takeL rfl rfl ?_
            go_big_quiet_step (rfl)
            refine wpQuiet_nil ?_
          refine wpS_doL rfl ?_
          intro K hK
          go_wp2_with (fail)
          try replace hb := hb.trans (hn.mono hb.size)
          refine hK.out _ _ (up_iff.2 hb) ?_
          clear hK K
          try clear hn
          refine wpS_doL rfl ?_
          intro K hK
          go_wp2_with (fail)
          try replace hb := hb.trans (hn.mono hb.size)
          refine hK.out _ _ (up_iff.2 hb) ?_
          clear hK K
          try clear hn
          iterate 5
            refine wpS_takeL rfl rfl ?_
            go_big_quiet_step (rfl)
            refine wpQuiet_nil ?_
          refine wpS_doL rfl ?_
          intro K hK
          go_wp2_with (fail)
          try replace hb := hb.trans (hn.mono hb.size)
          refine hK.out _ _ (up_iff.2 hb) ?_
          clear hK K
          try clear hn
          refine wpS_nil ?_
          simp only [List.drop_succ_cons, List.drop_zero]
          first | refine calls_w ?_ | refine name_world ?_ | refine list_world ?_ | refine post_world ?_
          intro U8 hU8
          first | subst hU8 | (rw [← hU8] at hb; clear hU8)
          clear c2_0 c2_1 l2
          have k1 := Kk1.out.of hb
          clear Kk1
          have k2 := Kk2.out.of hb
          clear Kk2
          replace hb0 := hb0.trans (hb.mono hb0.size)
          clear hb
          have e0 : false = R0 := by rw [← HR0.out]; unfold cawk; (try rw [Hr1.out]); (try rw [Hr2.out]); (try rw [Hr3.out]); (try rw [Hr4.out]); (try rw [Hr5.out]); (try rw [Hr6.out]); (try rw [Hz7.out]); (try rw [hz10]); all_goals first | rfl | simp
          subst e0
          go_wp2
          first | go_ret | go_ret2
          exact ⟨by first | rfl | simp, hb0⟩
        · obtain rfl : r6 = 1 := by simpa using hz10
          clear hz10
          obtain ⟨r11, hr11⟩ : ∃ o_o : Int, atx 1 1 = o_o := ⟨_, rfl⟩
          have Hr11 := Lib.hid hr11
          clear hr11
          obtain ⟨r12, hr12⟩ : ∃ o_o : Int, aty 1 1 = o_o := ⟨_, rfl⟩
          have Hr12 := Lib.hid hr12
          clear hr12
          obtain ⟨r13, hr13⟩ : ∃ o_o : Int, atw 1 1 = o_o := ⟨_, rfl⟩
          have Hr13 := Lib.hid hr13
          clear hr13
          obtain ⟨r14, hr14⟩ : ∃ o_o : Int, spC r2 r3 r4 r11 r12 r13 = o_o := ⟨_, rfl⟩
          have Hr14 := Lib.hid hr14
          clear hr14
          obtain ⟨z15, hz15⟩ : ∃ o_o : Bool, (r14 == 0) = o_o := ⟨_, rfl⟩
          cases z15
          · have nz15 : ¬ r14 = 0 := by simpa using hz15
            have c1_0 : V4.cell? ⟨U1.heap.size, 0, none⟩ = some (.int .u64 (wd0 r2)) := k1.cell 0
            have c1_1 : V4.cell? ⟨U1.heap.size, 1, none⟩ = some (.int .u64 (wd1 r2)) := k1.cell 1
            have c1_2 : V4.cell? ⟨U1.heap.size, 2, none⟩ = some (.int .u64 (wd2 r2)) := k1.cell 2
            have c1_3 : V4.cell? ⟨U1.heap.size, 3, none⟩ = some (.int .u64 (wd3 r2)) := k1.cell 3
            have c1_4 : V4.cell? ⟨U1.heap.size, 4, none⟩ = some (.int .u64 (wd0 r3)) := k1.cell 4
            have c1_5 : V4.cell? ⟨U1.heap.size, 5, none⟩ = some (.int .u64 (wd1 r3)) := k1.cell 5
            have c1_6 : V4.cell? ⟨U1.heap.size, 6, none⟩ = some (.int .u64 (wd2 r3)) := k1.cell 6
            have c1_7 : V4.cell? ⟨U1.heap.size, 7, none⟩ = some (.int .u64 (wd3 r3)) := k1.cell 7
            have c1_8 : V4.cell? ⟨U1.heap.size, 8, none⟩ = some (.int .u64 (wd0 r4)) := k1.cell 8
            have c1_9 : V4.cell? ⟨U1.heap.size, 9, none⟩ = some (.int .u64 (wd1 r4)) := k1.cell 9
            have c1_10 : V4.cell? ⟨U1.heap.size, 10, none⟩ = some (.int .u64 (wd2 r4)) := k1.cell 10
            have c1_11 : V4.cell? ⟨U1.heap.size, 11, none⟩ = some (.int .u64 (wd3 r4)) := k1.cell 11
            have l1 := k1.lt
            have c2_0 : V4.cell? ⟨U3.heap.size, 0, none⟩ = some (.int .i64 1) := k2.cell 0
            have c2_1 : V4.cell? ⟨U3.heap.size, 1, none⟩ = some (.int .i64 1) := k2.cell 1
            have l2 := k2.lt
            have Kk1 := Lib.hid k1
            clear k1
            have Kk2 := Lib.hid k2
            clear k2
            refine wp_region_up V4.heap.size 29 [(true, 0), (true, 1), (true, 2), (true, 3), (true, 4), (true, 5), (true, 6), (true, 7), (true, 8), (true, 9), (true, 10), (true, 11), (true, 12), (false, 13), (false, 14), (true, 15), (true, 16), (true, 17), (true, 18), (true, 19), (true, 20), (false, 21), (false, 22), (true, 23), (true, 24), (true, 25), (true, 26), (true, 27), (false, 28)] (by kernel_rfl) (by kernel_rfl) (fun _ _ d _ _ h => by cases d <;> exact h) ?_
            have hb : Below V4.heap.size V4 V4.drew := (Below.refl _ _).drew
            iterate 13
              refine wpS_takeL rfl rfl ?_
              go_big_quiet_step (rfl)
              refine wpQuiet_nil ?_
            refine wpS_doL rfl ?_
            intro K hK
            go_wp2_with ((first | (go_at_call 47; (with_reducible refine (crAt_is 1 1 r11 r12 r13 Hr11.out Hr12.out Hr13.out (by unfold In64; omega) (by unfold In64; omega)  _).mono ?_); rintro e w2 ⟨rfl, hn⟩) | (go_at_call 58; (with_reducible refine (SpCmp_is r2 r3 r4 r11 r12 r13 r14 Hr14.out (Hr2.out ▸ mcx_in  ) (Hr3.out ▸ mcy_in  ) (Hr4.out ▸ mcw_in  ) (Hr11.out ▸ atx_in 1 1 (by unfold In64; omega) (by unfold In64; omega)) (Hr12.out ▸ aty_in 1 1 (by unfold In64; omega) (by unfold In64; omega)) (Hr13.out ▸ atw_in 1 1 (by unfold In64; omega) (by unfold In64; omega))  _).mono ?_); rintro e w2 ⟨rfl, hn⟩)))
            try replace hb := hb.trans (hn.mono hb.size)
            refine hK.out _ _ (up_iff.2 hb) ?_
            clear hK K
            try clear hn
            refine wpS_doL rfl ?_
            intro K hK
            go_wp2_with ((first | (go_at_call 47; (with_reducible refine (crAt_is 1 1 r11 r12 r13 Hr11.out Hr12.out Hr13.out (by unfold In64; omega) (by unfold In64; omega)  _).mono ?_); rintro e w2 ⟨rfl, hn⟩) | (go_at_call 58; (with_reducible refine (SpCmp_is r2 r3 r4 r11 r12 r13 r14 Hr14.out (Hr2.out ▸ mcx_in  ) (Hr3.out ▸ mcy_in  ) (Hr4.out ▸ mcw_in  ) (Hr11.out ▸ atx_in 1 1 (by unfold In64; omega) (by unfold In64; omega)) (Hr12.out ▸ aty_in 1 1 (by unfold In64; omega) (by unfold In64; omega)) (Hr13.out ▸ atw_in 1 1 (by unfold In64; omega) (by unfold In64; omega))  _).mono ?_); rintro e w2 ⟨rfl, hn⟩)))
            try replace hb := hb.trans (hn.mono hb.size)
            refine hK.out _ _ (up_iff.2 hb) ?_
            clear hK K
            try clear hn
            iterate 6
              refine wpS_takeL rfl rfl ?_
              go_big_quiet_step (rfl)
              refine wpQuiet_nil ?_
            refine wpS_doL rfl ?_
            intro K hK
            go_wp2_with ((first | (go_at_call 47; (with_reducible refine (crAt_is 1 1 r11 r12 r13 Hr11.out Hr12.out Hr13.out (by unfold In64; omega) (by unfold In64; omega)  _).mono ?_); rintro e w2 ⟨rfl, hn⟩) | (go_at_call 58; (with_reducible refine (SpCmp_is r2 r3 r4 r11 r12 r13 r14 Hr14.out (Hr2.out ▸ mcx_in  ) (Hr3.out ▸ mcy_in  ) (Hr4.out ▸ mcw_in  ) (Hr11.out ▸ atx_in 1 1 (by unfold In64; omega) (by unfold In64; omega)) (Hr12.out ▸ aty_in 1 1 (by unfold In64; omega) (by unfold In64; omega)) (Hr13.out ▸ atw_in 1 1 (by unfold In64; omega) (by unfold In64; omega))  _).mono ?_); rintro e w2 ⟨rfl, hn⟩)))
            try replace hb := hb.trans (hn.mono hb.size)
            refine hK.out _ _ (up_iff.2 hb) ?_
            clear hK K
            try clear hn
            refine wpS_doL rfl ?_
            intro K hK
            go_wp2_with ((first | (go_at_call 47; (with_reducible refine (crAt_is 1 1 r11 r12 r13 Hr11.out Hr12.out Hr13.out (by unfold In64; omega) (by unfold In64; omega)  _).mono ?_); rintro e w2 ⟨rfl, hn⟩) | (go_at_call 58; (with_reducible refine (SpCmp_is r2 r3 r4 r11 r12 r13 r14 Hr14.out (Hr2.out ▸ mcx_in  ) (Hr3.out ▸ mcy_in  ) (Hr4.out ▸ mcw_in  ) (Hr11.out ▸ atx_in 1 1 (by unfold In64; omega) (by unfold In64; omega)) (Hr12.out ▸ aty_in 1 1 (by unfold In64; omega) (by unfold In64; omega)) (Hr13.out ▸ atw_in 1 1 (by unfold In64; omega) (by unfold In64; omega))  _).mono ?_); rintro e w2 ⟨rfl, hn⟩)))
            try replace hb := hb.trans (hn.mono hb.size)
            refine hK.out _ _ (up_iff.2 hb) ?_
            clear hK K
            try clear hn
            iterate 5
              refine wpS_takeL rfl rfl ?_
              go_big_quiet_step (rfl)
              refine wpQuiet_nil ?_
            refine wpS_doL rfl ?_
            intro K hK
            go_wp2_with ((first | (go_at_call 47; (with_reducible refine (crAt_is 1 1 r11 r12 r13 Hr11.out Hr12.out Hr13.out (by unfold In64; omega) (by unfold In64; omega)  _).mono ?_); rintro e w2 ⟨rfl, hn⟩) | (go_at_call 58; (with_reducible refine (SpCmp_is r2 r3 r4 r11 r12 r13 r14 Hr14.out (Hr2.out ▸ mcx_in  ) (Hr3.out ▸ mcy_in  ) (Hr4.out ▸ mcw_in  ) (Hr11.out ▸ atx_in 1 1 (by unfold In64; omega) (by unfold In64; omega)) (Hr12.out ▸ aty_in 1 1 (by unfold In64; omega) (by unfold In64; omega)) (Hr13.out ▸ atw_in 1 1 (by unfold In64; omega) (by unfold In64; omega))  _).mono ?_); rintro e w2 ⟨rfl, hn⟩)))
            try replace hb := hb.trans (hn.mono hb.size)
            refine hK.out _ _ (up_iff.2 hb) ?_
            clear hK K
            try clear hn
            refine wpS_nil ?_
            simp only [List.drop_succ_cons, List.drop_zero]
            first | refine calls_w ?_ | refine name_world ?_ | refine list_world ?_ | refine post_world ?_
            intro U9 hU9
            first | subst hU9 | (rw [← hU9] at hb; clear hU9)
            clear c1_0 c1_1 c1_2 c1_3 c1_4 c1_5 c1_6 c1_7 c1_8 c1_9 c1_10 c1_11 l1 c2_0 c2_1 l2
            have k1 := Kk1.out.of hb
            clear Kk1
            have k2 := Kk2.out.of hb
            clear Kk2
            replace hb0 := hb0.trans (hb.mono hb0.size)
            clear hb
            have e0 : false = R0 := by rw [← HR0.out]; unfold cawk; (try rw [Hr1.out]); (try rw [Hr2.out]); (try rw [Hr3.out]); (try rw [Hr4.out]); (try rw [Hr5.out]); (try rw [Hr6.out]); (try rw [Hz7.out]); (try rw [Hr11.out]); (try rw [Hr12.out]); (try rw [Hr13.out]); (try rw [Hr14.out]); (try rw [hz15]); all_goals first | rfl | simp
            subst e0
            go_wp2
            first | go_ret | go_ret2
            exact ⟨by first | rfl | simp, hb0⟩
          · obtain rfl : r14 = 0 := by simpa using hz15
            clear hz15
            obtain ⟨z16, hz16⟩ : ∃ o_o : Bool, hldB 0 0 1 1 r11 r12 r13 = o_o := ⟨_, rfl⟩
            have Hz16 := Lib.hid hz16
            clear hz16
            cases z16
            · have c1_0 : V4.cell? ⟨U1.heap.size, 0, none⟩ = some (.int .u64 (wd0 r2)) := k1.cell 0
              have c1_1 : V4.cell? ⟨U1.heap.size, 1, none⟩ = some (.int .u64 (wd1 r2)) := k1.cell 1
              have c1_2 : V4.cell? ⟨U1.heap.size, 2, none⟩ = some (.int .u64 (wd2 r2)) := k1.cell 2
              have c1_3 : V4.cell? ⟨U1.heap.size, 3, none⟩ = some (.int .u64 (wd3 r2)) := k1.cell 3
              have c1_4 : V4.cell? ⟨U1.heap.size, 4, none⟩ = some (.int .u64 (wd0 r3)) := k1.cell 4
              have c1_5 : V4.cell? ⟨U1.heap.size, 5, none⟩ = some (.int .u64 (wd1 r3)) := k1.cell 5
              have c1_6 : V4.cell? ⟨U1.heap.size, 6, none⟩ = some (.int .u64 (wd2 r3)) := k1.cell 6
              have c1_7 : V4.cell? ⟨U1.heap.size, 7, none⟩ = some (.int .u64 (wd3 r3)) := k1.cell 7
              have c1_8 : V4.cell? ⟨U1.heap.size, 8, none⟩ = some (.int .u64 (wd0 r4)) := k1.cell 8
              have c1_9 : V4.cell? ⟨U1.heap.size, 9, none⟩ = some (.int .u64 (wd1 r4)) := k1.cell 9
              have c1_10 : V4.cell? ⟨U1.heap.size, 10, none⟩ = some (.int .u64 (wd2 r4)) := k1.cell 10
              have c1_11 : V4.cell? ⟨U1.heap.size, 11, none⟩ = some (.int .u64 (wd3 r4)) := k1.cell 11
              have l1 := k1.lt
              have c2_0 : V4.cell? ⟨U3.heap.size, 0, none⟩ = some (.int .i64 1) := k2.cell 0
              have c2_1 : V4.cell? ⟨U3.heap.size, 1, none⟩ = some (.int .i64 1) := k2.cell 1
              have l2 := k2.lt
              have Kk1 := Lib.hid k1
              clear k1
              have Kk2 := Lib.hid k2
              clear k2
              refine wp_region_up V4.heap.size 29 [(true, 0), (true, 1), (true, 2), (true, 3), (true, 4), (true, 5), (true, 6), (true, 7), (true, 8), (true, 9), (true, 10), (true, 11), (true, 12), (false, 13), (false, 14), (true, 15), (true, 16), (true, 17), (true, 18), (true, 19), (true, 20), (false, 21), (false, 22), (true, 23), (true, 24), (true, 25), (true, 26), (true, 27), (false, 28)] (by kernel_rfl) (by kernel_rfl) (fun _ _ d _ _ h => by cases d <;> exact h) ?_
              have hb : Below V4.heap.size V4 V4.drew := (Below.refl _ _).drew
              iterate 13
                refine wpS_takeL rfl rfl ?_
                go_big_quiet_step (rfl)
                refine wpQuiet_nil ?_
              refine wpS_doL rfl ?_
              intro K hK
              go_wp2_with ((first | (go_at_call 47; (with_reducible refine (crAt_is 1 1 r11 r12 r13 Hr11.out Hr12.out Hr13.out (by unfold In64; omega) (by unfold In64; omega)  _).mono ?_); rintro e w2 ⟨rfl, hn⟩) | (go_at_call 58; (with_reducible refine (SpCmp_is r2 r3 r4 r11 r12 r13 0 Hr14.out (Hr2.out ▸ mcx_in  ) (Hr3.out ▸ mcy_in  ) (Hr4.out ▸ mcw_in  ) (Hr11.out ▸ atx_in 1 1 (by unfold In64; omega) (by unfold In64; omega)) (Hr12.out ▸ aty_in 1 1 (by unfold In64; omega) (by unfold In64; omega)) (Hr13.out ▸ atw_in 1 1 (by unfold In64; omega) (by unfold In64; omega))  _).mono ?_); rintro e w2 ⟨rfl, hn⟩) | (go_at_call 70; (with_reducible refine (SegHolds_is 0 0 1 1 r11 r12 r13 false Hz16.out (by unfold In64; omega) (by unfold In64; omega) (by unfold In64; omega) (by unfold In64; omega) (Hr11.out ▸ atx_in 1 1 (by unfold In64; omega) (by unfold In64; omega)) (Hr12.out ▸ aty_in 1 1 (by unfold In64; omega) (by unfold In64; omega)) (Hr13.out ▸ atw_in 1 1 (by unfold In64; omega) (by unfold In64; omega))  _).mono ?_); rintro e w2 ⟨rfl, hn⟩)))
              try replace hb := hb.trans (hn.mono hb.size)
              refine hK.out _ _ (up_iff.2 hb) ?_
              clear hK K
              try clear hn
              refine wpS_doL rfl ?_
              intro K hK
              go_wp2_with ((first | (go_at_call 47; (with_reducible refine (crAt_is 1 1 r11 r12 r13 Hr11.out Hr12.out Hr13.out (by unfold In64; omega) (by unfold In64; omega)  _).mono ?_); rintro e w2 ⟨rfl, hn⟩) | (go_at_call 58; (with_reducible refine (SpCmp_is r2 r3 r4 r11 r12 r13 0 Hr14.out (Hr2.out ▸ mcx_in  ) (Hr3.out ▸ mcy_in  ) (Hr4.out ▸ mcw_in  ) (Hr11.out ▸ atx_in 1 1 (by unfold In64; omega) (by unfold In64; omega)) (Hr12.out ▸ aty_in 1 1 (by unfold In64; omega) (by unfold In64; omega)) (Hr13.out ▸ atw_in 1 1 (by unfold In64; omega) (by unfold In64; omega))  _).mono ?_); rintro e w2 ⟨rfl, hn⟩) | (go_at_call 70; (with_reducible refine (SegHolds_is 0 0 1 1 r11 r12 r13 false Hz16.out (by unfold In64; omega) (by unfold In64; omega) (by unfold In64; omega) (by unfold In64; omega) (Hr11.out ▸ atx_in 1 1 (by unfold In64; omega) (by unfold In64; omega)) (Hr12.out ▸ aty_in 1 1 (by unfold In64; omega) (by unfold In64; omega)) (Hr13.out ▸ atw_in 1 1 (by unfold In64; omega) (by unfold In64; omega))  _).mono ?_); rintro e w2 ⟨rfl, hn⟩)))
              try replace hb := hb.trans (hn.mono hb.size)
              refine hK.out _ _ (up_iff.2 hb) ?_
              clear hK K
              try clear hn
              iterate 6
                refine wpS_takeL rfl rfl ?_
                go_big_quiet_step (rfl)
                refine wpQuiet_nil ?_
              refine wpS_doL rfl ?_
              intro K hK
              go_wp2_with ((first | (go_at_call 47; (with_reducible refine (crAt_is 1 1 r11 r12 r13 Hr11.out Hr12.out Hr13.out (by unfold In64; omega) (by unfold In64; omega)  _).mono ?_); rintro e w2 ⟨rfl, hn⟩) | (go_at_call 58; (with_reducible refine (SpCmp_is r2 r3 r4 r11 r12 r13 0 Hr14.out (Hr2.out ▸ mcx_in  ) (Hr3.out ▸ mcy_in  ) (Hr4.out ▸ mcw_in  ) (Hr11.out ▸ atx_in 1 1 (by unfold In64; omega) (by unfold In64; omega)) (Hr12.out ▸ aty_in 1 1 (by unfold In64; omega) (by unfold In64; omega)) (Hr13.out ▸ atw_in 1 1 (by unfold In64; omega) (by unfold In64; omega))  _).mono ?_); rintro e w2 ⟨rfl, hn⟩) | (go_at_call 70; (with_reducible refine (SegHolds_is 0 0 1 1 r11 r12 r13 false Hz16.out (by unfold In64; omega) (by unfold In64; omega) (by unfold In64; omega) (by unfold In64; omega) (Hr11.out ▸ atx_in 1 1 (by unfold In64; omega) (by unfold In64; omega)) (Hr12.out ▸ aty_in 1 1 (by unfold In64; omega) (by unfold In64; omega)) (Hr13.out ▸ atw_in 1 1 (by unfold In64; omega) (by unfold In64; omega))  _).mono ?_); rintro e w2 ⟨rfl, hn⟩)))
              try replace hb := hb.trans (hn.mono hb.size)
              refine hK.out _ _ (up_iff.2 hb) ?_
              clear hK K
              try clear hn
              refine wpS_doL rfl ?_
              intro K hK
              go_wp2_with ((first | (go_at_call 47; (with_reducible refine (crAt_is 1 1 r11 r12 r13 Hr11.out Hr12.out Hr13.out (by unfold In64; omega) (by unfold In64; omega)  _).mono ?_); rintro e w2 ⟨rfl, hn⟩) | (go_at_call 58; (with_reducible refine (SpCmp_is r2 r3 r4 r11 r12 r13 0 Hr14.out (Hr2.out ▸ mcx_in  ) (Hr3.out ▸ mcy_in  ) (Hr4.out ▸ mcw_in  ) (Hr11.out ▸ atx_in 1 1 (by unfold In64; omega) (by unfold In64; omega)) (Hr12.out ▸ aty_in 1 1 (by unfold In64; omega) (by unfold In64; omega)) (Hr13.out ▸ atw_in 1 1 (by unfold In64; omega) (by unfold In64; omega))  _).mono ?_); rintro e w2 ⟨rfl, hn⟩) | (go_at_call 70; (with_reducible refine (SegHolds_is 0 0 1 1 r11 r12 r13 false Hz16.out (by unfold In64; omega) (by unfold In64; omega) (by unfold In64; omega) (by unfold In64; omega) (Hr11.out ▸ atx_in 1 1 (by unfold In64; omega) (by unfold In64; omega)) (Hr12.out ▸ aty_in 1 1 (by unfold In64; omega) (by unfold In64; omega)) (Hr13.out ▸ atw_in 1 1 (by unfold In64; omega) (by unfold In64; omega))  _).mono ?_); rintro e w2 ⟨rfl, hn⟩)))
              try replace hb := hb.trans (hn.mono hb.size)
              refine hK.out _ _ (up_iff.2 hb) ?_
              clear hK K
              try clear hn
              iterate 5
                refine wpS_takeL rfl rfl ?_
                go_big_quiet_step (rfl)
                refine wpQuiet_nil ?_
              refine wpS_doL rfl ?_
              intro K hK
              go_wp2_with ((first | (go_at_call 47; (with_reducible refine (crAt_is 1 1 r11 r12 r13 Hr11.out Hr12.out Hr13.out (by unfold In64; omega) (by unfold In64; omega)  _).mono ?_); rintro e w2 ⟨rfl, hn⟩) | (go_at_call 58; (with_reducible refine (SpCmp_is r2 r3 r4 r11 r12 r13 0 Hr14.out (Hr2.out ▸ mcx_in  ) (Hr3.out ▸ mcy_in  ) (Hr4.out ▸ mcw_in  ) (Hr11.out ▸ atx_in 1 1 (by unfold In64; omega) (by unfold In64; omega)) (Hr12.out ▸ aty_in 1 1 (by unfold In64; omega) (by unfold In64; omega)) (Hr13.out ▸ atw_in 1 1 (by unfold In64; omega) (by unfold In64; omega))  _).mono ?_); rintro e w2 ⟨rfl, hn⟩) | (go_at_call 70; (with_reducible refine (SegHolds_is 0 0 1 1 r11 r12 r13 false Hz16.out (by unfold In64; omega) (by unfold In64; omega) (by unfold In64; omega) (by unfold In64; omega) (Hr11.out ▸ atx_in 1 1 (by unfold In64; omega) (by unfold In64; omega)) (Hr12.out ▸ aty_in 1 1 (by unfold In64; omega) (by unfold In64; omega)) (Hr13.out ▸ atw_in 1 1 (by unfold In64; omega) (by unfold In64; omega))  _).mono ?_); rintro e w2 ⟨rfl, hn⟩)))
              try replace hb := hb.trans (hn.mono hb.size)
              refine hK.out _ _ (up_iff.2 hb) ?_
              clear hK K
              try clear hn
              refine wpS_nil ?_
              simp only [List.drop_succ_cons, List.drop_zero]
              first | refine calls_w ?_ | refine name_world ?_ | refine list_world ?_ | refine post_world ?_
              intro U10 hU10
              first | subst hU10 | (rw [← hU10] at hb; clear hU10)
              clear c1_0 c1_1 c1_2 c1_3 c1_4 c1_5 c1_6 c1_7 c1_8 c1_9 c1_10 c1_11 l1 c2_0 c2_1 l2
              have k1 := Kk1.out.of hb
              clear Kk1
              have k2 := Kk2.out.of hb
              clear Kk2
              replace hb0 := hb0.trans (hb.mono hb0.size)
              clear hb
              have e0 : false = R0 := by rw [← HR0.out]; unfold cawk; (try rw [Hr1.out]); (try rw [Hr2.out]); (try rw [Hr3.out]); (try rw [Hr4.out]); (try rw [Hr5.out]); (try rw [Hr6.out]); (try rw [Hz7.out]); (try rw [Hr11.out]); (try rw [Hr12.out]); (try rw [Hr13.out]); (try rw [Hr14.out]); (try rw [Hz16.out]); all_goals first | rfl | simp
              subst e0
              go_wp2
              first | go_ret | go_ret2
              exact ⟨by first | rfl | simp, hb0⟩
            · obtain ⟨r17, hr17⟩ : ∃ o_o : Int, atx 2 2 = o_o := ⟨_, rfl⟩
              have Hr17 := Lib.hid hr17
              clear hr17
              obtain ⟨r18, hr18⟩ : ∃ o_o : Int, aty 2 2 = o_o := ⟨_, rfl⟩
              have Hr18 := Lib.hid hr18
              clear hr18
              obtain ⟨r19, hr19⟩ : ∃ o_o : Int, atw 2 2 = o_o := ⟨_, rfl⟩
              have Hr19 := Lib.hid hr19
              clear hr19
              have c1_0 : V4.cell? ⟨U1.heap.size, 0, none⟩ = some (.int .u64 (wd0 r2)) := k1.cell 0
              have c1_1 : V4.cell? ⟨U1.heap.size, 1, none⟩ = some (.int .u64 (wd1 r2)) := k1.cell 1
              have c1_2 : V4.cell? ⟨U1.heap.size, 2, none⟩ = some (.int .u64 (wd2 r2)) := k1.cell 2
              have c1_3 : V4.cell? ⟨U1.heap.size, 3, none⟩ = some (.int .u64 (wd3 r2)) := k1.cell 3
              have c1_4 : V4.cell? ⟨U1.heap.size, 4, none⟩ = some (.int .u64 (wd0 r3)) := k1.cell 4
              have c1_5 : V4.cell? ⟨U1.heap.size, 5, none⟩ = some (.int .u64 (wd1 r3)) := k1.cell 5
              have c1_6 : V4.cell? ⟨U1.heap.size, 6, none⟩ = some (.int .u64 (wd2 r3)) := k1.cell 6
              have c1_7 : V4.cell? ⟨U1.heap.size, 7, none⟩ = some (.int .u64 (wd3 r3)) := k1.cell 7
              have c1_8 : V4.cell? ⟨U1.heap.size, 8, none⟩ = some (.int .u64 (wd0 r4)) := k1.cell 8
              have c1_9 : V4.cell? ⟨U1.heap.size, 9, none⟩ = some (.int .u64 (wd1 r4)) := k1.cell 9
              have c1_10 : V4.cell? ⟨U1.heap.size, 10, none⟩ = some (.int .u64 (wd2 r4)) := k1.cell 10
              have c1_11 : V4.cell? ⟨U1.heap.size, 11, none⟩ = some (.int .u64 (wd3 r4)) := k1.cell 11
              have l1 := k1.lt
              have c2_0 : V4.cell? ⟨U3.heap.size, 0, none⟩ = some (.int .i64 1) := k2.cell 0
              have c2_1 : V4.cell? ⟨U3.heap.size, 1, none⟩ = some (.int .i64 1) := k2.cell 1
              have l2 := k2.lt
              have Kk1 := Lib.hid k1
              clear k1
              have Kk2 := Lib.hid k2
              clear k2
              refine wp_region_up V4.heap.size 29 [(true, 0), (true, 1), (true, 2), (true, 3), (true, 4), (true, 5), (true, 6), (true, 7), (true, 8), (true, 9), (true, 10), (true, 11), (true, 12), (false, 13), (false, 14), (true, 15), (true, 16), (true, 17), (true, 18), (true, 19), (true, 20), (false, 21), (false, 22), (true, 23), (true, 24), (true, 25), (true, 26), (true, 27), (false, 28)] (by kernel_rfl) (by kernel_rfl) (fun _ _ d _ _ h => by cases d <;> exact h) ?_
              have hb : Below V4.heap.size V4 V4.drew := (Below.refl _ _).drew
              iterate 13
                refine wpS_takeL rfl rfl ?_
                go_big_quiet_step (rfl)
                refine wpQuiet_nil ?_
              refine wpS_doL rfl ?_
              intro K hK
              go_wp2_with ((first | (go_at_call 47; (with_reducible refine (crAt_is 1 1 r11 r12 r13 Hr11.out Hr12.out Hr13.out (by unfold In64; omega) (by unfold In64; omega)  _).mono ?_); rintro e w2 ⟨rfl, hn⟩) | (go_at_call 58; (with_reducible refine (SpCmp_is r2 r3 r4 r11 r12 r13 0 Hr14.out (Hr2.out ▸ mcx_in  ) (Hr3.out ▸ mcy_in  ) (Hr4.out ▸ mcw_in  ) (Hr11.out ▸ atx_in 1 1 (by unfold In64; omega) (by unfold In64; omega)) (Hr12.out ▸ aty_in 1 1 (by unfold In64; omega) (by unfold In64; omega)) (Hr13.out ▸ atw_in 1 1 (by unfold In64; omega) (by unfold In64; omega))  _).mono ?_); rintro e w2 ⟨rfl, hn⟩) | (go_at_call 70; (with_reducible refine (SegHolds_is 0 0 1 1 r11 r12 r13 true Hz16.out (by unfold In64; omega) (by unfold In64; omega) (by unfold In64; omega) (by unfold In64; omega) (Hr11.out ▸ atx_in 1 1 (by unfold In64; omega) (by unfold In64; omega)) (Hr12.out ▸ aty_in 1 1 (by unfold In64; omega) (by unfold In64; omega)) (Hr13.out ▸ atw_in 1 1 (by unfold In64; omega) (by unfold In64; omega))  _).mono ?_); rintro e w2 ⟨rfl, hn⟩) | (go_at_call 47; (with_reducible refine (crAt_is 2 2 r17 r18 r19 Hr17.out Hr18.out Hr19.out (by unfold In64; omega) (by unfold In64; omega)  _).mono ?_); rintro e w2 ⟨rfl, hn⟩)))
              try replace hb := hb.trans (hn.mono hb.size)
              refine hK.out _ _ (up_iff.2 hb) ?_
              clear hK K
              try clear hn
              refine wpS_doL rfl ?_
              intro K hK
              go_wp2_with ((first | (go_at_call 47; (with_reducible refine (crAt_is 1 1 r11 r12 r13 Hr11.out Hr12.out Hr13.out (by unfold In64; omega) (by unfold In64; omega)  _).mono ?_); rintro e w2 ⟨rfl, hn⟩) | (go_at_call 58; (with_reducible refine (SpCmp_is r2 r3 r4 r11 r12 r13 0 Hr14.out (Hr2.out ▸ mcx_in  ) (Hr3.out ▸ mcy_in  ) (Hr4.out ▸ mcw_in  ) (Hr11.out ▸ atx_in 1 1 (by unfold In64; omega) (by unfold In64; omega)) (Hr12.out ▸ aty_in 1 1 (by unfold In64; omega) (by unfold In64; omega)) (Hr13.out ▸ atw_in 1 1 (by unfold In64; omega) (by unfold In64; omega))  _).mono ?_); rintro e w2 ⟨rfl, hn⟩) | (go_at_call 70; (with_reducible refine (SegHolds_is 0 0 1 1 r11 r12 r13 true Hz16.out (by unfold In64; omega) (by unfold In64; omega) (by unfold In64; omega) (by unfold In64; omega) (Hr11.out ▸ atx_in 1 1 (by unfold In64; omega) (by unfold In64; omega)) (Hr12.out ▸ aty_in 1 1 (by unfold In64; omega) (by unfold In64; omega)) (Hr13.out ▸ atw_in 1 1 (by unfold In64; omega) (by unfold In64; omega))  _).mono ?_); rintro e w2 ⟨rfl, hn⟩) | (go_at_call 47; (with_reducible refine (crAt_is 2 2 r17 r18 r19 Hr17.out Hr18.out Hr19.out (by unfold In64; omega) (by unfold In64; omega)  _).mono ?_); rintro e w2 ⟨rfl, hn⟩)))
              try replace hb := hb.trans (hn.mono hb.size)
              refine hK.out _ _ (up_iff.2 hb) ?_
              clear hK K
              try clear hn
              iterate 6
                refine wpS_takeL rfl rfl ?_
                go_big_quiet_step (rfl)
                refine wpQuiet_nil ?_
              refine wpS_doL rfl ?_
              intro K hK
              go_wp2_with ((first | (go_at_call 47; (with_reducible refine (crAt_is 1 1 r11 r12 r13 Hr11.out Hr12.out Hr13.out (by unfold In64; omega) (by unfold In64; omega)  _).mono ?_); rintro e w2 ⟨rfl, hn⟩) | (go_at_call 58; (with_reducible refine (SpCmp_is r2 r3 r4 r11 r12 r13 0 Hr14.out (Hr2.out ▸ mcx_in  ) (Hr3.out ▸ mcy_in  ) (Hr4.out ▸ mcw_in  ) (Hr11.out ▸ atx_in 1 1 (by unfold In64; omega) (by unfold In64; omega)) (Hr12.out ▸ aty_in 1 1 (by unfold In64; omega) (by unfold In64; omega)) (Hr13.out ▸ atw_in 1 1 (by unfold In64; omega) (by unfold In64; omega))  _).mono ?_); rintro e w2 ⟨rfl, hn⟩) | (go_at_call 70; (with_reducible refine (SegHolds_is 0 0 1 1 r11 r12 r13 true Hz16.out (by unfold In64; omega) (by unfold In64; omega) (by unfold In64; omega) (by unfold In64; omega) (Hr11.out ▸ atx_in 1 1 (by unfold In64; omega) (by unfold In64; omega)) (Hr12.out ▸ aty_in 1 1 (by unfold In64; omega) (by unfold In64; omega)) (Hr13.out ▸ atw_in 1 1 (by unfold In64; omega) (by unfold In64; omega))  _).mono ?_); rintro e w2 ⟨rfl, hn⟩) | (go_at_call 47; (with_reducible refine (crAt_is 2 2 r17 r18 r19 Hr17.out Hr18.out Hr19.out (by unfold In64; omega) (by unfold In64; omega)  _).mono ?_); rintro e w2 ⟨rfl, hn⟩)))
              try replace hb := hb.trans (hn.mono hb.size)
              refine hK.out _ _ (up_iff.2 hb) ?_
              clear hK K
              try clear hn
              refine wpS_doL rfl ?_
              intro K hK
              go_wp2_with ((first | (go_at_call 47; (with_reducible refine (crAt_is 1 1 r11 r12 r13 Hr11.out Hr12.out Hr13.out (by unfold In64; omega) (by unfold In64; omega)  _).mono ?_); rintro e w2 ⟨rfl, hn⟩) | (go_at_call 58; (with_reducible refine (SpCmp_is r2 r3 r4 r11 r12 r13 0 Hr14.out (Hr2.out ▸ mcx_in  ) (Hr3.out ▸ mcy_in  ) (Hr4.out ▸ mcw_in  ) (Hr11.out ▸ atx_in 1 1 (by unfold In64; omega) (by unfold In64; omega)) (Hr12.out ▸ aty_in 1 1 (by unfold In64; omega) (by unfold In64; omega)) (Hr13.out ▸ atw_in 1 1 (by unfold In64; omega) (by unfold In64; omega))  _).mono ?_); rintro e w2 ⟨rfl, hn⟩) | (go_at_call 70; (with_reducible refine (SegHolds_is 0 0 1 1 r11 r12 r13 true Hz16.out (by unfold In64; omega) (by unfold In64; omega) (by unfold In64; omega) (by unfold In64; omega) (Hr11.out ▸ atx_in 1 1 (by unfold In64; omega) (by unfold In64; omega)) (Hr12.out ▸ aty_in 1 1 (by unfold In64; omega) (by unfold In64; omega)) (Hr13.out ▸ atw_in 1 1 (by unfold In64; omega) (by unfold In64; omega))  _).mono ?_); rintro e w2 ⟨rfl, hn⟩) | (go_at_call 47; (with_reducible refine (crAt_is 2 2 r17 r18 r19 Hr17.out Hr18.out Hr19.out (by unfold In64; omega) (by unfold In64; omega)  _).mono ?_); rintro e w2 ⟨rfl, hn⟩)))
              try replace hb := hb.trans (hn.mono hb.size)
              refine hK.out _ _ (up_iff.2 hb) ?_
              clear hK K
              try clear hn
              iterate 5
                refine wpS_takeL rfl rfl ?_
                go_big_quiet_step (rfl)
                refine wpQuiet_nil ?_
              refine wpS_doL rfl ?_
              intro K hK
              go_wp2_with ((first | (go_at_call 47; (with_reducible refine (crAt_is 1 1 r11 r12 r13 Hr11.out Hr12.out Hr13.out (by unfold In64; omega) (by unfold In64; omega)  _).mono ?_); rintro e w2 ⟨rfl, hn⟩) | (go_at_call 58; (with_reducible refine (SpCmp_is r2 r3 r4 r11 r12 r13 0 Hr14.out (Hr2.out ▸ mcx_in  ) (Hr3.out ▸ mcy_in  ) (Hr4.out ▸ mcw_in  ) (Hr11.out ▸ atx_in 1 1 (by unfold In64; omega) (by unfold In64; omega)) (Hr12.out ▸ aty_in 1 1 (by unfold In64; omega) (by unfold In64; omega)) (Hr13.out ▸ atw_in 1 1 (by unfold In64; omega) (by unfold In64; omega))  _).mono ?_); rintro e w2 ⟨rfl, hn⟩) | (go_at_call 70; (with_reducible refine (SegHolds_is 0 0 1 1 r11 r12 r13 true Hz16.out (by unfold In64; omega) (by unfold In64; omega) (by unfold In64; omega) (by unfold In64; omega) (Hr11.out ▸ atx_in 1 1 (by unfold In64; omega) (by unfold In64; omega)) (Hr12.out ▸ aty_in 1 1 (by unfold In64; omega) (by unfold In64; omega)) (Hr13.out ▸ atw_in 1 1 (by unfold In64; omega) (by unfold In64; omega))  _).mono ?_); rintro e w2 ⟨rfl, hn⟩) | (go_at_call 47; (with_reducible refine (crAt_is 2 2 r17 r18 r19 Hr17.out Hr18.out Hr19.out (by unfold In64; omega) (by unfold In64; omega)  _).mono ?_); rintro e w2 ⟨rfl, hn⟩)))
              try replace hb := hb.trans (hn.mono hb.size)
              refine hK.out _ _ (up_iff.2 hb) ?_
              clear hK K
              try clear hn
              refine wpS_nil ?_
              simp only [List.drop_succ_cons, List.drop_zero]
              first | refine calls_w ?_ | refine name_world ?_ | refine list_world ?_ | refine post_world ?_
              intro U11 hU11
              first | subst hU11 | (rw [← hU11] at hb; clear hU11)
              clear c1_0 c1_1 c1_2 c1_3 c1_4 c1_5 c1_6 c1_7 c1_8 c1_9 c1_10 c1_11 l1 c2_0 c2_1 l2
              have k1 := Kk1.out.of hb
              clear Kk1
              have k2 := Kk2.out.of hb
              clear Kk2
              replace hb0 := hb0.trans (hb.mono hb0.size)
              clear hb
              go_wp2_with fail
              obtain ⟨z20, hz20⟩ : ∃ o_o : Bool, hldB 0 0 1 1 r17 r18 r19 = o_o := ⟨_, rfl⟩
              have Hz20 := Lib.hid hz20
              clear hz20
              refine (SegHolds_is 0 0 1 1 r17 r18 r19 z20 Hz20.out (by unfold In64; omega) (by unfold In64; omega) (by unfold In64; omega) (by unfold In64; omega) (Hr17.out ▸ atx_in 2 2 (by unfold In64; omega) (by unfold In64; omega)) (Hr18.out ▸ aty_in 2 2 (by unfold In64; omega) (by unfold In64; omega)) (Hr19.out ▸ atw_in 2 2 (by unfold In64; omega) (by unfold In64; omega))  _).mono ?_
              rintro e U12 ⟨rfl, hn⟩
              clear k1 k2
              replace hb0 := hb0.trans (hn.mono hb0.size)
              clear hn
              have e0 : (!z20) = R0 := by rw [← HR0.out]; unfold cawk; (try rw [Hr1.out]); (try rw [Hr2.out]); (try rw [Hr3.out]); (try rw [Hr4.out]); (try rw [Hr5.out]); (try rw [Hr6.out]); (try rw [Hz7.out]); (try rw [Hr11.out]); (try rw [Hr12.out]); (try rw [Hr13.out]); (try rw [Hr14.out]); (try rw [Hz16.out]); (try rw [Hr17.out]); (try rw [Hr18.out]); (try rw [Hr19.out]); (try rw [Hz20.out]); all_goals first | rfl | simp
              subst e0
              go_wp2
              first | go_ret | go_ret2
              exact ⟨by first | rfl | simp, hb0⟩
end Go.Proofs.Ytlcbomjdbdgbmaa

namespace Go.Proofs.Ytlcbomjdbdgbmaa
open Go.RowKit

set_option maxRecDepth 100000 in
theorem cawk_true : cawk = true := by kernel_rfl
theorem cawake_any (w : World) : Calls Try.prog 54 #[] w fun e w' => e = .returned (.bool true) ∧ Below w.heap.size w w' := cawake_is true cawk_true w
end Go.Proofs.Ytlcbomjdbdgbmaa

namespace Go.Proofs.Ytlcbomjdbdgbmaa
open Go.RowKit

end Go.Proofs.Ytlcbomjdbdgbmaa
namespace Go.Proofs.Ytlcbomjdbdgbmaa
open Go.ChangeShapes Go.WideShapes Go.ChangeAt Go.RowKit Go.Joins

theorem own : ownKnob Try.prog.godebug = none := by kernel_rfl
theorem laidOut : laidOutB Try.prog = true := by kernel_rfl

/-- any four words are those of a number of 256 bits -/
theorem words_in {a b c d : Int} (ha : Wd a) (hb : Wd b) (hc : Wd c) (hd : Wd d) : ∃ x, InI x ∧ wd0 x = a ∧ wd1 x = b ∧ wd2 x = c ∧ wd3 x = d :=
  ⟨sg (un4 a b c d), sg_bd _, by rw [wd0_sg]; exact wd0_un4 ha, by rw [wd1_sg]; exact wd1_un4 ha hb, by rw [wd2_sg]; exact wd2_un4 ha hb hc, by rw [wd3_sg]; exact wd3_un4 ha hb hc hd⟩

theorem in64_wf {x : Int} (h : (Lit.int .i64 x).wf = true) : In64 x := by
  simp [Lit.wf, IntKind.min, IntKind.max, IntKind.signed, IntKind.bits] at h
  unfold In64; omega

section
variable {H : Type} {enc : TypeId × Value → H} {w : World} {base : Nat} {spare : Nat → Bool} {held : Bool}

theorem wd_of {a : Int} (h : (Lit.int .u64 a).wf = true) : Wd a := by
  simp [Lit.wf, IntKind.min, IntKind.max, IntKind.signed, IntKind.bits] at h
  exact ⟨by omega, by omega⟩

theorem open_four {fuel : Nat} {c0 c1 c2 c3 : Value} {x : DataW H × List MemPlace} (h : DataW.trod enc Try.prog w base spare held fuel 35 [c0, c1, c2, c3] = some x) :
    ∃ n, InI n ∧ c0 = .int .u64 (wd0 n) ∧ c1 = .int .u64 (wd1 n) ∧ c2 = .int .u64 (wd2 n) ∧ c3 = .int .u64 (wd3 n) := by
  obtain ⟨y0, y1, y2, y3, m, _, h0, h1, h2, h3⟩ := trod_array4 Try.underlying35 (by kernel_rfl) h
  obtain ⟨a0, e0, _, g0⟩ := DataW.trod_int Try.underlying33 h0
  obtain ⟨a1, e1, _, g1⟩ := DataW.trod_int Try.underlying33 h1
  obtain ⟨a2, e2, _, g2⟩ := DataW.trod_int Try.underlying33 h2
  obtain ⟨a3, e3, _, g3⟩ := DataW.trod_int Try.underlying33 h3
  obtain ⟨n, hn, w0, w1, w2, w3⟩ := words_in (wd_of g0) (wd_of g1) (wd_of g2) (wd_of g3)
  simp at e0 e1 e2 e3
  exact ⟨n, hn, by rw [e0, w0], by rw [e1, w1], by rw [e2, w2], by rw [e3, w3]⟩

end
end Go.Proofs.Ytlcbomjdbdgbmaa
namespace Go.Proofs.Ytlcbomjdbdgbmaa
open Go.ChangeShapes Go.WideShapes Go.ChangeAt Go.RowKit Go.Joins
section
variable {H : Type} {enc : TypeId × Value → H} {w : World} {base : Nat} {spare : Nat → Bool} {held : Bool}
set_option maxRecDepth 100000 in
theorem open_point {r : Reach} {b0 : Nat} {v : Value} {d : DataW H} {p : List MemPlace} (hv : Value.okWide Try.prog w r b0 24 v) (h : DataW.Trod enc Try.prog w base spare held 24 v d p) :
    ∃ x y, In64 x ∧ In64 y ∧ v = pI x y := by
  obtain ⟨v0, v1, y0, y1, n, rfl, _, _, t0, t1⟩ := open_agg2 Try.underlying24 (by kernel_rfl) (by kernel_rfl) hv h
  obtain ⟨a0, e0, _, g0⟩ := DataW.trod_int Try.underlying3 t0
  obtain ⟨a1, e1, _, g1⟩ := DataW.trod_int Try.underlying3 t1
  simp at e0 e1
  exact ⟨a0, a1, in64_wf g0, in64_wf g1, by rw [e0, e1]⟩
end
end Go.Proofs.Ytlcbomjdbdgbmaa
namespace Go.Proofs.Ytlcbomjdbdgbmaa
open Go.RowKit

theorem ws1 {W : World} {b : Nat} {u : Int} {t : TypeId} (hu : Wd u) (h : Blk W b #[.int .u64 u] t) : Ws W b [u] :=
  ⟨fun i hi => by
    match i, hi with
    | 0, _ => exact h.cell 0, h.lt, fun d hd => by rw [List.mem_singleton.1 hd]; exact hu, by simp⟩

set_option maxRecDepth 100000 in
set_option maxHeartbeats 1000000 in
theorem bigOf_pos (n : Int) (w : World) (h0 : 0 ≤ n) (h1 : n < 9223372036854775808) : Calls Try.prog 66 #[.int .i64 n] w (GivesBig w n 5) := by
  go_enter Try.func66, Try.ntmps66
  go_wp2_with fail
  refine calls_w ?_
  intro W hW
  have k0 : Blk W w.heap.size #[.bool false, .slice none 0 0] 28 := by rw [hW]; exact (Blk.new w _ _).alloc _
  have kl : Blk W (w.heap.size + 1) #[.int .u64 n] 33 := by rw [hW]; exact Blk.new1 w _ _ _
  have hb0 : Below w.heap.size w W := by rw [hW]; exact below_a2 _ _ _
  clear hW
  have T := Words_any (w.heap.size + 1) 1 1 [n] W (ws1 ⟨h0, by omega⟩ kl) rfl
  rw [show uval [n] = n by simp [uval]] at T
  refine T.mono ?_
  clear T
  rintro e u1 ⟨vm, rfl, hbm, hn⟩
  replace k0 := k0.of hn
  replace hb0 := hb0.trans (hn.mono hb0.size)
  have HBG := Lib.hid hbm
  have hvm := hbm.shape
  clear hbm hn kl
  obtain ⟨n5, a5, q5, c5, rfl⟩ := hvm
  have d0 := k0.cell 0
  have d1 := k0.cell 1
  have f0 := k0.free 0
  have f1 := k0.free 1
  simp only [List.getElem?_toArray, List.getElem?_cons_zero, List.getElem?_cons_succ] at d0 d1
  clear k0
  go_wp2
  simp [bodyPost, results, Try.results66, go_sem, d0, d1]
  exact ⟨_, rfl, HBG.out.set2 d0 (.bool n5) (.slice a5 q5 c5), set2_below hb0 (Nat.le_refl _) _ _⟩

set_option maxRecDepth 100000 in
set_option maxHeartbeats 1000000 in
theorem bigOf_neg (n : Int) (w : World) (h0 : n < 0) (h1 : -9223372036854775808 ≤ n) : Calls Try.prog 66 #[.int .i64 n] w (GivesBig w n 5) := by
  have hn0 : ¬ 0 ≤ n := by omega
  go_enter Try.func66, Try.ntmps66
  go_wp2_with fail
  refine calls_w ?_
  intro W hW
  have k0 : Blk W w.heap.size #[.bool false, .slice none 0 0] 28 := by rw [hW]; exact (Blk.new w _ _).alloc _
  have kl : Blk W (w.heap.size + 1) #[.int .u64 (-(n + 1) + 1)] 33 := by rw [hW]; exact Blk.new1 w _ _ _
  have hb0 : Below w.heap.size w W := by rw [hW]; exact below_a2 _ _ _
  clear hW
  have T := Words_any (w.heap.size + 1) 1 1 [-(n + 1) + 1] W (ws1 ⟨by omega, by omega⟩ kl) rfl
  rw [show uval [-(n + 1) + 1] = -n by simp [uval]; omega] at T
  refine T.mono ?_
  clear T
  rintro e u1 ⟨vm, rfl, hbm, hn⟩
  replace k0 := k0.of hn
  replace hb0 := hb0.trans (hn.mono hb0.size)
  have HB1 := Lib.hid hbm
  have hvm := hbm.shape
  clear hbm hn kl
  obtain ⟨n4, a4, q4, c4, rfl⟩ := hvm
  go_wp2_with fail
  have T := Minus_any _ _ _ _ HB1.out
  rw [Int.neg_neg] at T
  refine T.mono ?_
  clear T
  rintro e u2 ⟨vm, rfl, hbm, hn⟩
  replace k0 := k0.of hn
  replace hb0 := hb0.trans (hn.mono hb0.size)
  have HBG := Lib.hid hbm
  have hvm := hbm.shape
  clear hbm hn HB1
  obtain ⟨n5, a5, q5, c5, rfl⟩ := hvm
  have d0 := k0.cell 0
  have d1 := k0.cell 1
  have f0 := k0.free 0
  have f1 := k0.free 1
  simp only [List.getElem?_toArray, List.getElem?_cons_zero, List.getElem?_cons_succ] at d0 d1
  clear k0
  go_wp2
  simp [bodyPost, results, Try.results66, go_sem, d0, d1]
  exact ⟨_, rfl, HBG.out.set2 d0 (.bool n5) (.slice a5 q5 c5), set2_below hb0 (Nat.le_refl _) _ _⟩
theorem bigOf_any (n : Int) (w : World) (h : In64 n) : Calls Try.prog 66 #[.int .i64 n] w (GivesBig w n 5) := by
  by_cases h0 : 0 ≤ n
  · exact bigOf_pos n w h0 h.2
  · exact bigOf_neg n w (by omega) h.1
end Go.Proofs.Ytlcbomjdbdgbmaa
namespace Go.Proofs.Ytlcbomjdbdgbmaa
open Go.RowKit

end Go.Proofs.Ytlcbomjdbdgbmaa
namespace Go.Proofs.Ytlcbomjdbdgbmaa
open Go.RowKit

/-- a variable that holds a point of the document's answer -/
abbrev QVar (w : World) (b : Nat) (x y : Int) : Prop := Blk w b (pC x y) 31
theorem QVar.c {w : World} {b : Nat} {x y : Int} (h : QVar w b x y) : w.cell? ⟨b, 0, none⟩ = some (.int .i64 x) ∧ w.cell? ⟨b, 1, none⟩ = some (.int .i64 y) := ⟨h.cell 0, h.cell 1⟩
end Go.Proofs.Ytlcbomjdbdgbmaa
namespace Go.Proofs.Ytlcbomjdbdgbmaa
open Go.RowKit

end Go.Proofs.Ytlcbomjdbdgbmaa
namespace Go.Proofs.Ytlcbomjdbdgbmaa
open Go.RowKit

end Go.Proofs.Ytlcbomjdbdgbmaa

namespace Go.Proofs.Ytlcbomjdbdgbmaa
open Go.RowKit

theorem heap_setL (w : World) (b o : Nat) (l : List Value) (k : Nat) (hk : k ≠ b) : (setL w b o l).heap[k]? = w.heap[k]? := by
  induction l generalizing w o with
  | nil => rfl
  | cons v l ih => unfold setL; rw [ih, Below.heap_setCell _ _ _ _ hk]
theorem big_setL {w : World} {v : Value} {n : Int} {L b : Nat} (h : Big w v n L) {x : Value} (hd : w.cell? ⟨b, 0, none⟩ = some x) (hx : ∀ i, x ≠ .int .i64 i) (o : Nat) (l : List Value) : Big (setL w b o l) v n L := by
  obtain ⟨neg, ao, b3, cap, ds, h1, h2, h3⟩ := h
  have hne : 0 < ds.length → b3 ≠ b := by
    intro h0 e
    have := h2.cell 0 h0
    rw [e, hd] at this
    exact hx _ (Option.some.inj this)
  refine ⟨neg, ao, b3, cap, ds, h1, ⟨h2.ptr, h2.nil, h2.capl, h2.len, h2.capb, fun i hi => ?_, fun hl => ?_⟩, h3⟩
  · have e := h2.cell i hi
    unfold World.cell? at e ⊢
    rw [heap_setL _ _ _ _ _ (hne (by omega))]; exact e
  · rw [size_setL]; exact h2.blk hl
theorem bigOf_v (n d : Int) (h : n = d) (g : In64 n) (w : World) : Calls Try.prog 66 #[.int .i64 n] w (GivesBig w d 5) := h ▸ bigOf_any n w g
theorem bigMul_v (v v' : Value) (n m p : Int) (L L' : Nat) (hp : n * m = p) (w : World) (h : Big w v n L) (h' : Big w v' m L') (hL : L + L' < 268435456) :
    Calls Try.prog 65 #[v, v'] w (GivesBig w p (L + L')) := hp ▸ bigMul_any v v' n m L L' w h h' hL
theorem bigMinus_v (v : Value) (n p : Int) (L : Nat) (hp : -n = p) (w : World) (h : Big w v n L) : Calls Try.prog 25 #[v] w (GivesBig w p L) := hp ▸ Minus_any v n L w h
theorem bigCmp_v (v v' : Value) (n m : Int) (L L' : Nat) (c : Int) (hc : cmpI n m = c) (w : World) (h : Big w v n L) (h' : Big w v' m L') :
    Calls Try.prog 23 #[v, v'] w fun e w' => e = .returned (.int .i64 c) ∧ Below w.heap.size w w' := hc ▸ bigCmp_any v v' n m L L' w h h'
theorem bigSign_v (v : Value) (n : Int) (L : Nat) (s : Int) (hs : n.sign = s) (w : World) (h : Big w v n L) :
    Calls Try.prog 67 #[v] w fun e w' => e = .returned (.int .i64 s) ∧ Below w.heap.size w w' := hs ▸ bigSign_any v n L w h
theorem Read_v (x d : Int) (h : x = d) (ix : InI x) (w : World) : Calls Try.prog 24 #[wI x] w (GivesBig w d 18) := by
  have := Read_any x w
  have e : sg x = d := (sg_id ix).trans h
  rw [e] at this
  exact this
theorem rRight_v (ax ay : Int) (c : Bool) (h : rp ax ay = c) (w : World) : Calls Try.prog 26 #[pI ax ay] w fun e w' => e = .returned (.bool c) ∧ Below w.heap.size w w' := h ▸ rRight_any ax ay w
end Go.Proofs.Ytlcbomjdbdgbmaa

namespace Go.Proofs.Ytlcbomjdbdgbmaa
open Go.RowKit

def rAtx (x : Int) (y : Int) : Int := x

def rAty (x : Int) (y : Int) : Int := y

def rAtw (x : Int) (y : Int) : Int := 1

def rAt_is_post (w : World) (R0 : Int) (R1 : Int) (R2 : Int) (e : Ending) (w' : World) : Prop := ∃ (m0 : Bool) (p0 : Option Addr) (q0 t0 : Nat) (m1 : Bool) (p1 : Option Addr) (q1 t1 : Nat) (m2 : Bool) (p2 : Option Addr) (q2 t2 : Nat), e = .returned (.agg #[.bool m0, .slice p0 q0 t0, .bool m1, .slice p1 q1 t1, .bool m2, .slice p2 q2 t2]) ∧ Big w' (.agg #[.bool m0, .slice p0 q0 t0]) R0 5 ∧ Big w' (.agg #[.bool m1, .slice p1 q1 t1]) R1 5 ∧ Big w' (.agg #[.bool m2, .slice p2 q2 t2]) R2 5 ∧ Below w.heap.size w w'

set_option maxRecDepth 100000 in
set_option maxHeartbeats 4000000 in

theorem rAt_is (x : Int) (y : Int)  (R0 : Int) (R1 : Int) (R2 : Int) (hR0 : rAtx x y = R0) (hR1 : rAty x y = R1) (hR2 : rAtw x y = R2) (_ix : In64 x) (_iy : In64 y)  (w : World)  :
    Calls Try.prog 61 #[.agg #[.int .i64 x, .int .i64 y]] w (rAt_is_post w R0 R1 R2) := by

  have HR0 := Lib.hid hR0
  clear hR0
  have HR1 := Lib.hid hR1
  clear hR1
  have HR2 := Lib.hid hR2
  clear hR2
  go_enter Try.func61, Try.ntmps61
  go_wp2_with fail
  first | refine calls_w ?_ | refine name_world ?_ | refine list_world ?_ | refine post_world ?_
  intro V1 hV1
  have hn : Below w.heap.size w V1 := by rw [hV1]; exact below_a2 _ _ _
  have nhb0 := hn
  have k1 : Blk V1 w.heap.size #[.int .i64 x, .int .i64 y] 31 := by rw [hV1]; exact ((Blk.new _ _ _).alloc _)
  have k2 : Blk V1 (w.heap.size + 1) #[.bool false, .slice none 0 0, .bool false, .slice none 0 0, .bool false, .slice none 0 0] 72 := by rw [hV1]; exact (Blk.new1 _ _ _ _)
  clear hV1
  have hb0 := nhb0
  clear nhb0
  have c1_0 : V1.cell? ⟨w.heap.size, 0, none⟩ = some (.int .i64 x) := k1.cell 0
  have c1_1 : V1.cell? ⟨w.heap.size, 1, none⟩ = some (.int .i64 y) := k1.cell 1
  have l1 := k1.lt
  have Kk1 := Lib.hid k1
  clear k1
  have Kk2 := Lib.hid k2
  clear k2
  refine wp_region_up V1.heap.size 5 [(true, 0), (true, 1), (true, 3), (true, 4), (false, 2)] (by kernel_rfl) (by kernel_rfl) (fun _ _ d _ _ h => by cases d <;> exact h) ?_
  have hb : Below V1.heap.size V1 V1.drew := (Below.refl _ _).drew
  iterate 4
    refine wpS_takeL rfl rfl ?_
    go_big_quiet_step (rfl)
    refine wpQuiet_nil ?_
  refine wpS_doL rfl ?_
  intro K hK
  go_wp2_with ((go_at_call 66; (with_reducible refine (bigOf_v x x rfl _ix _).mono ?_); rintro e w2 ⟨v_, rfl, hbm, hn⟩; have HB1 := Lib.hid hbm; have hvm := hbm.shape; clear hbm; obtain ⟨bn1, ba1, bl1, bc1, rfl⟩ := hvm))
  replace hb := hb.trans (hn.mono hb.size)
  refine hK.out _ _ (up_iff.2 hb) ?_
  clear hK K
  clear hn
  refine wpS_nil ?_
  simp only [List.drop_succ_cons, List.drop_zero]
  first | refine calls_w ?_ | refine name_world ?_ | refine list_world ?_ | refine post_world ?_
  intro U2 hU2
  first | subst hU2 | (rw [← hU2] at hb; clear hU2)
  clear c1_0 c1_1 l1
  have k1 := Kk1.out.of hb
  clear Kk1
  have k2 := Kk2.out.of hb
  clear Kk2
  replace hb0 := hb0.trans (hb.mono hb0.size)
  clear hb
  go_wp2_with fail
  refine (bigOf_v y y rfl _iy _).mono ?_
  rintro e U3 ⟨v_, rfl, hbm, hn⟩
  clear k1
  replace k2 := k2.of hn
  replace HB1 := Lib.hid (HB1.out.of hn)
  replace hb0 := hb0.trans (hn.mono hb0.size)
  clear hn
  have HB2 := Lib.hid hbm
  have hvm := hbm.shape
  clear hbm
  obtain ⟨bn2, ba2, bl2, bc2, rfl⟩ := hvm
  go_wp2_with fail
  refine (bigOf_v 1 1 rfl (by unfold In64; omega) _).mono ?_
  rintro e U4 ⟨v_, rfl, hbm, hn⟩
  replace k2 := k2.of hn
  replace HB1 := Lib.hid (HB1.out.of hn)
  replace HB2 := Lib.hid (HB2.out.of hn)
  replace hb0 := hb0.trans (hn.mono hb0.size)
  clear hn
  have HB3 := Lib.hid hbm
  have hvm := hbm.shape
  clear hbm
  obtain ⟨bn3, ba3, bl3, bc3, rfl⟩ := hvm
  have c2_0 : U4.cell? ⟨(w.heap.size + 1), 0, none⟩ = some (.bool false) := k2.cell 0
  have c2_1 : U4.cell? ⟨(w.heap.size + 1), 1, none⟩ = some (.slice none 0 0) := k2.cell 1
  have c2_2 : U4.cell? ⟨(w.heap.size + 1), 2, none⟩ = some (.bool false) := k2.cell 2
  have c2_3 : U4.cell? ⟨(w.heap.size + 1), 3, none⟩ = some (.slice none 0 0) := k2.cell 3
  have c2_4 : U4.cell? ⟨(w.heap.size + 1), 4, none⟩ = some (.bool false) := k2.cell 4
  have c2_5 : U4.cell? ⟨(w.heap.size + 1), 5, none⟩ = some (.slice none 0 0) := k2.cell 5
  have f2_0 := k2.free 0
  have f2_1 := k2.free 1
  have f2_2 := k2.free 2
  have f2_3 := k2.free 3
  have f2_4 := k2.free 4
  have f2_5 := k2.free 5
  have l2 := k2.lt
  have e0 : x = R0 := by rw [← HR0.out]; unfold rAtx; all_goals first | rfl | simp
  have e1 : y = R1 := by rw [← HR1.out]; unfold rAty; all_goals first | rfl | simp
  have e2 : 1 = R2 := by rw [← HR2.out]; unfold rAtw; all_goals first | rfl | simp
  subst e0
  subst e1
  subst e2
  go_wp2
  clear c2_0 c2_1 c2_2 c2_3 c2_4 c2_5 f2_0 f2_1 f2_2 f2_3 f2_4 f2_5 l2
  first | refine post_world ?_
  intro V5 hV5
  have D1 := Lib.hid k2.lt
  have D2 := Lib.hid hb0.size
  have nk2 : Blk V5 (w.heap.size + 1) #[.bool bn1, .slice ba1 bl1 bc1, .bool bn2, .slice ba2 bl2 bc2, .bool bn3, .slice ba3 bl3 bc3] 72 := by rw [hV5]; exact (blk_full _ [.bool bn1, .slice ba1 bl1 bc1, .bool bn2, .slice ba2 bl2 bc2, .bool bn3, .slice ba3 bl3 bc3] k2 rfl)
  have nhb0 : Below w.heap.size w V5 := by rw [hV5]; exact (blw_setL hb0 (by omega) 0 [.bool bn1, .slice ba1 bl1 bc1, .bool bn2, .slice ba2 bl2 bc2, .bool bn3, .slice ba3 bl3 bc3])
  replace HB1 : Hid (Big V5 (.agg #[.bool bn1, .slice ba1 bl1 bc1]) x 5) := Lib.hid (by rw [hV5]; exact (big_setL HB1.out (Blk.cell k2 0) (fun _ h => by cases h) 0 [.bool bn1, .slice ba1 bl1 bc1, .bool bn2, .slice ba2 bl2 bc2, .bool bn3, .slice ba3 bl3 bc3]))
  replace HB2 : Hid (Big V5 (.agg #[.bool bn2, .slice ba2 bl2 bc2]) y 5) := Lib.hid (by rw [hV5]; exact (big_setL HB2.out (Blk.cell k2 0) (fun _ h => by cases h) 0 [.bool bn1, .slice ba1 bl1 bc1, .bool bn2, .slice ba2 bl2 bc2, .bool bn3, .slice ba3 bl3 bc3]))
  replace HB3 : Hid (Big V5 (.agg #[.bool bn3, .slice ba3 bl3 bc3]) 1 5) := Lib.hid (by rw [hV5]; exact (big_setL HB3.out (Blk.cell k2 0) (fun _ h => by cases h) 0 [.bool bn1, .slice ba1 bl1 bc1, .bool bn2, .slice ba2 bl2 bc2, .bool bn3, .slice ba3 bl3 bc3]))
  clear k2
  clear hb0
  clear hV5
  have k2 := nk2
  clear nk2
  have hb0 := nhb0
  clear nhb0
  have g2_0 : V5.cell? ⟨(w.heap.size + 1), 0, none⟩ = some (.bool bn1) := k2.cell 0
  have g2_1 : V5.cell? ⟨(w.heap.size + 1), 1, none⟩ = some (.slice ba1 bl1 bc1) := k2.cell 1
  have g2_2 : V5.cell? ⟨(w.heap.size + 1), 2, none⟩ = some (.bool bn2) := k2.cell 2
  have g2_3 : V5.cell? ⟨(w.heap.size + 1), 3, none⟩ = some (.slice ba2 bl2 bc2) := k2.cell 3
  have g2_4 : V5.cell? ⟨(w.heap.size + 1), 4, none⟩ = some (.bool bn3) := k2.cell 4
  have g2_5 : V5.cell? ⟨(w.heap.size + 1), 5, none⟩ = some (.slice ba3 bl3 bc3) := k2.cell 5
  clear k2
  simp [bodyPost, results, Try.results61, go_sem, g2_0, g2_1, g2_2, g2_3, g2_4, g2_5]
  exact ⟨_, _, _, _, _, _, _, _, _, _, _, _, rfl, (HB1.out.mono (by decide)), (HB2.out.mono (by decide)), (HB3.out.mono (by decide)), hb0⟩

theorem pow90_v (w : World) : Calls Try.prog 90 #[.int .i64 90] w (GivesBig w 1237940039285380274899124224 7) := by
  have h := Power_any 90 w (by decide)
  rw [show (2 : Int) ^ 90 = 1237940039285380274899124224 by decide] at h
  exact h

theorem pow41_v (w : World) : Calls Try.prog 90 #[.int .i64 41] w (GivesBig w 2199023255552 3) := by
  have h := Power_any 41 w (by decide)
  rw [show (2 : Int) ^ 41 = 2199023255552 by decide] at h
  exact h

theorem alCr9_0 : AllocRuns Try.prog 28 #[.bool false, .slice none 0 0] := fun w => by kernel_rfl

def rspR (X : Int) (Y : Int) (Z : Int) : Bool := (bif decide ((Z.sign) ≤ 0) then false else (bif decide (0 < (cmpI Z 1237940039285380274899124224)) then false else (bif decide (0 ≤ (cmpI X (-(2199023255552 * Z)))) then (bif decide ((cmpI X (2199023255552 * Z)) ≤ 0) then (bif decide (0 ≤ (cmpI Y (-(2199023255552 * Z)))) then decide ((cmpI Y (2199023255552 * Z)) ≤ 0) else false) else false) else false)))

set_option maxRecDepth 100000 in
set_option maxHeartbeats 4000000 in

theorem rSpR_is (X : Int) (Y : Int) (Z : Int)  (R0 : Bool) (hR0 : rspR X Y Z = R0)  (nX : Bool) (aX : Option Addr) (lX cX : Nat) (nY : Bool) (aY : Option Addr) (lY cY : Nat) (nZ : Bool) (aZ : Option Addr) (lZ cZ : Nat) (w : World) (hX : Big w (.agg #[.bool nX, .slice aX lX cX]) X 18) (hY : Big w (.agg #[.bool nY, .slice aY lY cY]) Y 18) (hZ : Big w (.agg #[.bool nZ, .slice aZ lZ cZ]) Z 18) :
    Calls Try.prog 41 #[.agg #[.bool nX, .slice aX lX cX, .bool nY, .slice aY lY cY, .bool nZ, .slice aZ lZ cZ]] w fun e w' => e = .returned (.bool R0) ∧ Below w.heap.size w w' := by

  have HX := Lib.hid hX
  clear hX
  have HY := Lib.hid hY
  clear hY
  have HZ := Lib.hid hZ
  clear hZ
  have HR0 := Lib.hid hR0
  clear hR0
  go_enter Try.func41, Try.ntmps41
  go_wp2_with fail
  first | refine calls_w ?_ | refine name_world ?_ | refine list_world ?_ | refine post_world ?_
  intro V1 hV1
  have hn : Below w.heap.size w V1 := by rw [hV1]; exact below_a1 _ _
  replace HX := Lib.hid (HX.out.of hn)
  replace HY := Lib.hid (HY.out.of hn)
  replace HZ := Lib.hid (HZ.out.of hn)
  have nhb0 := hn
  have k1 : Blk V1 w.heap.size #[.bool nX, .slice aX lX cX, .bool nY, .slice aY lY cY, .bool nZ, .slice aZ lZ cZ] 72 := by rw [hV1]; exact (Blk.new _ _ _)
  clear hV1
  have hb0 := nhb0
  clear nhb0
  obtain ⟨r1, hr1⟩ : ∃ o_o : Int, Z.sign = o_o := ⟨_, rfl⟩
  have Hr1 := Lib.hid hr1
  clear hr1
  obtain ⟨z2, hz2⟩ : ∃ o_o : Bool, decide (r1 ≤ 0) = o_o := ⟨_, rfl⟩
  cases z2
  · have c1_4 : V1.cell? ⟨w.heap.size, 4, none⟩ = some (.bool nZ) := k1.cell 4
    have c1_5 : V1.cell? ⟨w.heap.size, 5, none⟩ = some (.slice aZ lZ cZ) := k1.cell 5
    have l1 := k1.lt
    have Kk1 := Lib.hid k1
    clear k1
    refine wp_region_up V1.heap.size 8 [(true, 0), (true, 1), (false, 2), (true, 3), (true, 4), (true, 5), (true, 6), (false, 7)] (by kernel_rfl) (by kernel_rfl) (fun _ _ d _ _ h => by cases d <;> exact h) ?_
    have hb : Below V1.heap.size V1 V1.drew := (Below.refl _ _).drew
    iterate 2
      refine wpS_takeL rfl rfl ?_
      go_big_quiet_step (rfl)
      refine wpQuiet_nil ?_
    refine wpS_doL rfl ?_
    intro K hK
    go_wp2_with ((first | (go_at_call 67; (with_reducible refine (bigSign_v (.agg #[.bool nZ, .slice aZ lZ cZ]) Z 18 r1 Hr1.out _ (HZ.out.of hb)).mono ?_); rintro e w2 ⟨rfl, hn⟩) | (go_at_call 90; (with_reducible refine (pow90_v _).mono ?_); rintro e w2 ⟨v_, rfl, hbm, hn⟩; have HB1 := Lib.hid hbm; have hvm := hbm.shape; clear hbm; obtain ⟨bn1, ba1, bl1, bc1, rfl⟩ := hvm)))
    replace hb := hb.trans (hn.mono hb.size)
    refine hK.out _ _ (up_iff.2 hb) ?_
    clear hK K
    clear hn
    iterate 4
      refine wpS_takeL rfl rfl ?_
      go_big_quiet_step (rfl)
      refine wpQuiet_nil ?_
    refine wpS_doL rfl ?_
    intro K hK
    go_wp2_with ((first | (go_at_call 67; (with_reducible refine (bigSign_v (.agg #[.bool nZ, .slice aZ lZ cZ]) Z 18 r1 Hr1.out _ (HZ.out.of hb)).mono ?_); rintro e w2 ⟨rfl, hn⟩) | (go_at_call 90; (with_reducible refine (pow90_v _).mono ?_); rintro e w2 ⟨v_, rfl, hbm, hn⟩; have HB1 := Lib.hid hbm; have hvm := hbm.shape; clear hbm; obtain ⟨bn1, ba1, bl1, bc1, rfl⟩ := hvm)))
    try replace hb := hb.trans (hn.mono hb.size)
    refine hK.out _ _ (up_iff.2 hb) ?_
    clear hK K
    try clear hn
    refine wpS_nil ?_
    simp only [List.drop_succ_cons, List.drop_zero]
    first | refine calls_w ?_ | refine name_world ?_ | refine list_world ?_ | refine post_world ?_
    intro U2 hU2
    first | subst hU2 | (rw [← hU2] at hb; clear hU2)
    clear c1_4 c1_5 l1
    have k1 := Kk1.out.of hb
    clear Kk1
    replace HX := Lib.hid (HX.out.of hb)
    replace HY := Lib.hid (HY.out.of hb)
    replace HZ := Lib.hid (HZ.out.of hb)
    replace hb0 := hb0.trans (hb.mono hb0.size)
    clear hb
    go_wp2_with fail
    obtain ⟨r3, hr3⟩ : ∃ o_o : Int, cmpI Z 1237940039285380274899124224 = o_o := ⟨_, rfl⟩
    have Hr3 := Lib.hid hr3
    clear hr3
    refine (bigCmp_v (.agg #[.bool nZ, .slice aZ lZ cZ]) (.agg #[.bool bn1, .slice ba1 bl1 bc1]) Z 1237940039285380274899124224 18 7 r3 Hr3.out _ HZ.out HB1.out).mono ?_
    rintro e U3 ⟨rfl, hn⟩
    clear HB1
    replace k1 := k1.of hn
    replace HX := Lib.hid (HX.out.of hn)
    replace HY := Lib.hid (HY.out.of hn)
    replace HZ := Lib.hid (HZ.out.of hn)
    replace hb0 := hb0.trans (hn.mono hb0.size)
    clear hn
    obtain ⟨z4, hz4⟩ : ∃ o_o : Bool, decide (0 < r3) = o_o := ⟨_, rfl⟩
    cases z4
    · go_wp2_with fail
      obtain ⟨r5, hr5⟩ : ∃ o_o : Int, 2199023255552 * Z = o_o := ⟨_, rfl⟩
      have Hr5 := Lib.hid hr5
      clear hr5
      have c1_4 : U3.cell? ⟨w.heap.size, 4, none⟩ = some (.bool nZ) := k1.cell 4
      have c1_5 : U3.cell? ⟨w.heap.size, 5, none⟩ = some (.slice aZ lZ cZ) := k1.cell 5
      have l1 := k1.lt
      have Kk1 := Lib.hid k1
      clear k1
      refine wp_region_float1 5 4 [(true, 1), (true, 2), (false, 0), (false, 3)] (by kernel_rfl) (by kernel_rfl) (fun _ _ d _ _ => by cases d <;> exact Iff.rfl) rfl rfl rfl alCr9_0 ?_
      have hb : Below U3.heap.size U3 U3.drew := (Below.refl _ _).drew
      iterate 2
        refine wpF_take rfl rfl ?_
        go_big_quiet_step (rfl)
        refine wpQuiet_nil ?_
      refine wpF_do rfl ?_
      intro w1 hg K hK
      replace hb := hb.trans (hg.mono hb.size)
      try replace HB2 := Lib.hid (HB2.out.of hg); try replace HB3 := Lib.hid (HB3.out.of hg)
      clear hg
      go_wp2_with ((first | (go_at_call 90; (with_reducible refine (pow41_v _).mono ?_); rintro e w2 ⟨v_, rfl, hbm, hn⟩; have HB2 := Lib.hid hbm; have hvm := hbm.shape; clear hbm; obtain ⟨bn2, ba2, bl2, bc2, rfl⟩ := hvm) | (go_at_call 65; (with_reducible refine (bigMul_v (.agg #[.bool bn2, .slice ba2 bl2 bc2]) (.agg #[.bool nZ, .slice aZ lZ cZ]) 2199023255552 Z r5 3 18 Hr5.out _ HB2.out (HZ.out.of hb) (by decide)).mono ?_); rintro e w2 ⟨v_, rfl, hbm, hn⟩; replace HB2 := Lib.hid (HB2.out.of hn); have HB3 := Lib.hid hbm; have hvm := hbm.shape; clear hbm; obtain ⟨bn3, ba3, bl3, bc3, rfl⟩ := hvm)))
      refine hK.out _ _ hn ?_
      replace hb := hb.trans (hn.mono hb.size)
      clear hK K
      clear hn
      refine wpF_do rfl ?_
      intro w1 hg K hK
      replace hb := hb.trans (hg.mono hb.size)
      try replace HB2 := Lib.hid (HB2.out.of hg); try replace HB3 := Lib.hid (HB3.out.of hg)
      clear hg
      go_wp2_with ((first | (go_at_call 90; (with_reducible refine (pow41_v _).mono ?_); rintro e w2 ⟨v_, rfl, hbm, hn⟩; have HB2 := Lib.hid hbm; have hvm := hbm.shape; clear hbm; obtain ⟨bn2, ba2, bl2, bc2, rfl⟩ := hvm) | (go_at_call 65; (with_reducible refine (bigMul_v (.agg #[.bool bn2, .slice ba2 bl2 bc2]) (.agg #[.bool nZ, .slice aZ lZ cZ]) 2199023255552 Z r5 3 18 Hr5.out _ HB2.out (HZ.out.of hb) (by decide)).mono ?_); rintro e w2 ⟨v_, rfl, hbm, hn⟩; replace HB2 := Lib.hid (HB2.out.of hn); have HB3 := Lib.hid hbm; have hvm := hbm.shape; clear hbm; obtain ⟨bn3, ba3, bl3, bc3, rfl⟩ := hvm)))
      refine hK.out _ _ hn ?_
      replace hb := hb.trans (hn.mono hb.size)
      clear hK K
      clear hn
      refine wpF_nil ?_
      clear hb
      intro w1 hg hb b1 lb1 nb1
      replace HB2 := Lib.hid (HB2.out.of hg)
      replace HB3 := Lib.hid (HB3.out.of hg)
      clear hg
      simp only [Act.put, ptrTo, List.setIfInBounds_toArray, List.set_cons_succ, List.set_cons_zero]
      simp only [List.drop_succ_cons, List.drop_zero]
      clear c1_4 c1_5 l1
      first | refine calls_w ?_ | refine name_world ?_ | refine list_world ?_ | refine post_world ?_
      intro U4 hU4
      subst hU4
      have D1 := Lib.hid Kk1.out.lt
      have D2 := Lib.hid hb0.size
      have k2 : Blk U4 b1 #[.bool false, .slice none 0 0] 28 := nb1
      have k1 := Kk1.out.of hb
      clear Kk1
      have D3 := Lib.hid lb1
      clear nb1 lb1
      replace HX := Lib.hid (HX.out.of hb)
      replace HY := Lib.hid (HY.out.of hb)
      replace HZ := Lib.hid (HZ.out.of hb)
      replace hb0 := hb0.trans (hb.mono hb0.size)
      clear hb
      generalize b1 = q2 at *
      have c2_0 : U4.cell? ⟨q2, 0, none⟩ = some (.bool false) := k2.cell 0
      have c2_1 : U4.cell? ⟨q2, 1, none⟩ = some (.slice none 0 0) := k2.cell 1
      have f2_0 := k2.free 0
      have f2_1 := k2.free 1
      have l2 := k2.lt
      go_wp2_with fail
      clear c2_0 c2_1 f2_0 f2_1 l2
      first | refine calls_w ?_ | refine name_world ?_ | refine list_world ?_ | refine post_world ?_
      intro V5 hV5
      clear HB2
      have D4 := Lib.hid k1.lt
      have D5 := Lib.hid k2.lt
      have D6 := Lib.hid hb0.size
      have nk1 : Blk V5 w.heap.size #[.bool nX, .slice aX lX cX, .bool nY, .slice aY lY cY, .bool nZ, .slice aZ lZ cZ] 72 := by rw [hV5]; exact (blk_setL k1 (by have := D1.out; have := D3.out; omega) 0 [.bool bn3, .slice ba3 bl3 bc3])
      have nk2 : Blk V5 q2 #[.bool bn3, .slice ba3 bl3 bc3] 28 := by rw [hV5]; exact (blk_full _ [.bool bn3, .slice ba3 bl3 bc3] k2 rfl)
      have nhb0 : Below w.heap.size w V5 := by rw [hV5]; exact (blw_setL hb0 (by have := D2.out; have := D3.out; omega) 0 [.bool bn3, .slice ba3 bl3 bc3])
      replace HX : Hid (Big V5 (.agg #[.bool nX, .slice aX lX cX]) X 18) := Lib.hid (by rw [hV5]; exact (big_setL HX.out (Blk.cell k2 0) (fun _ h => by cases h) 0 [.bool bn3, .slice ba3 bl3 bc3]))
      replace HY : Hid (Big V5 (.agg #[.bool nY, .slice aY lY cY]) Y 18) := Lib.hid (by rw [hV5]; exact (big_setL HY.out (Blk.cell k2 0) (fun _ h => by cases h) 0 [.bool bn3, .slice ba3 bl3 bc3]))
      replace HZ : Hid (Big V5 (.agg #[.bool nZ, .slice aZ lZ cZ]) Z 18) := Lib.hid (by rw [hV5]; exact (big_setL HZ.out (Blk.cell k2 0) (fun _ h => by cases h) 0 [.bool bn3, .slice ba3 bl3 bc3]))
      replace HB3 : Hid (Big V5 (.agg #[.bool bn3, .slice ba3 bl3 bc3]) r5 21) := Lib.hid (by rw [hV5]; exact (big_setL HB3.out (Blk.cell k2 0) (fun _ h => by cases h) 0 [.bool bn3, .slice ba3 bl3 bc3]))
      clear k1 k2
      clear hb0
      clear hV5
      have k1 := nk1
      clear nk1
      have k2 := nk2
      clear nk2
      have hb0 := nhb0
      clear nhb0
      obtain ⟨r6, hr6⟩ : ∃ o_o : Int, -r5 = o_o := ⟨_, rfl⟩
      have Hr6 := Lib.hid hr6
      clear hr6
      refine (bigMinus_v (.agg #[.bool bn3, .slice ba3 bl3 bc3]) r5 r6 21 Hr6.out _ HB3.out).mono ?_
      rintro e U6 ⟨v_, rfl, hbm, hn⟩
      replace k1 := k1.of hn
      replace k2 := k2.of hn
      replace HX := Lib.hid (HX.out.of hn)
      replace HY := Lib.hid (HY.out.of hn)
      replace HZ := Lib.hid (HZ.out.of hn)
      replace HB3 := Lib.hid (HB3.out.of hn)
      replace hb0 := hb0.trans (hn.mono hb0.size)
      clear hn
      have HB4 := Lib.hid hbm
      have hvm := hbm.shape
      clear hbm
      obtain ⟨bn4, ba4, bl4, bc4, rfl⟩ := hvm
      have c1_0 : U6.cell? ⟨w.heap.size, 0, none⟩ = some (.bool nX) := k1.cell 0
      have c1_1 : U6.cell? ⟨w.heap.size, 1, none⟩ = some (.slice aX lX cX) := k1.cell 1
      have l1 := k1.lt
      go_wp2_with fail
      clear c1_0 c1_1 l1
      first | refine calls_w ?_ | refine name_world ?_ | refine list_world ?_ | refine post_world ?_
      intro V7 hV7
      have D7 := Lib.hid k1.lt
      have D8 := Lib.hid k2.lt
      have D9 := Lib.hid hb0.size
      have hn : Below U6.heap.size U6 V7 := by rw [hV7]; exact below_a1 _ _
      have nk1 := k1.of hn
      have nk2 := k2.of hn
      replace HX := Lib.hid (HX.out.of hn)
      replace HY := Lib.hid (HY.out.of hn)
      replace HZ := Lib.hid (HZ.out.of hn)
      replace HB3 := Lib.hid (HB3.out.of hn)
      replace HB4 := Lib.hid (HB4.out.of hn)
      have nhb0 := hb0.trans (hn.mono hb0.size)
      clear hn
      have k3 : Blk V7 U6.heap.size #[.bool bn4, .slice ba4 bl4 bc4] 28 := by rw [hV7]; exact (Blk.new _ _ _)
      clear k1 k2
      clear hb0
      clear hV7
      have k1 := nk1
      clear nk1
      have k2 := nk2
      clear nk2
      have hb0 := nhb0
      clear nhb0
      obtain ⟨r7, hr7⟩ : ∃ o_o : Int, cmpI X r6 = o_o := ⟨_, rfl⟩
      have Hr7 := Lib.hid hr7
      clear hr7
      refine (bigCmp_v (.agg #[.bool nX, .slice aX lX cX]) (.agg #[.bool bn4, .slice ba4 bl4 bc4]) X r6 18 21 r7 Hr7.out _ HX.out HB4.out).mono ?_
      rintro e U8 ⟨rfl, hn⟩
      replace k1 := k1.of hn
      replace k2 := k2.of hn
      replace k3 := k3.of hn
      replace HX := Lib.hid (HX.out.of hn)
      replace HY := Lib.hid (HY.out.of hn)
      replace HZ := Lib.hid (HZ.out.of hn)
      replace HB3 := Lib.hid (HB3.out.of hn)
      replace HB4 := Lib.hid (HB4.out.of hn)
      replace hb0 := hb0.trans (hn.mono hb0.size)
      clear hn
      obtain ⟨z8, hz8⟩ : ∃ o_o : Bool, decide (0 ≤ r7) = o_o := ⟨_, rfl⟩
      cases z8
      · have e0 : false = R0 := by rw [← HR0.out]; unfold rspR; (try rw [Hr1.out]); (try rw [hz2]); (try rw [Hr3.out]); (try rw [hz4]); (try rw [Hr5.out]); (try rw [Hr6.out]); (try rw [Hr7.out]); (try rw [hz8]); all_goals first | rfl | simp
        subst e0
        go_wp2
        first | go_ret | go_ret2
        exact ⟨by first | rfl | simp, hb0⟩
      · have c1_0 : U8.cell? ⟨w.heap.size, 0, none⟩ = some (.bool nX) := k1.cell 0
        have c1_1 : U8.cell? ⟨w.heap.size, 1, none⟩ = some (.slice aX lX cX) := k1.cell 1
        have l1 := k1.lt
        have c2_0 : U8.cell? ⟨q2, 0, none⟩ = some (.bool bn3) := k2.cell 0
        have c2_1 : U8.cell? ⟨q2, 1, none⟩ = some (.slice ba3 bl3 bc3) := k2.cell 1
        have l2 := k2.lt
        go_wp2_with fail
        clear c1_0 c1_1 l1 c2_0 c2_1 l2
        obtain ⟨r9, hr9⟩ : ∃ o_o : Int, cmpI X r5 = o_o := ⟨_, rfl⟩
        have Hr9 := Lib.hid hr9
        clear hr9
        refine (bigCmp_v (.agg #[.bool nX, .slice aX lX cX]) (.agg #[.bool bn3, .slice ba3 bl3 bc3]) X r5 18 21 r9 Hr9.out _ HX.out HB3.out).mono ?_
        rintro e U9 ⟨rfl, hn⟩
        replace k1 := k1.of hn
        replace k2 := k2.of hn
        replace k3 := k3.of hn
        replace HX := Lib.hid (HX.out.of hn)
        replace HY := Lib.hid (HY.out.of hn)
        replace HZ := Lib.hid (HZ.out.of hn)
        replace HB3 := Lib.hid (HB3.out.of hn)
        replace HB4 := Lib.hid (HB4.out.of hn)
        replace hb0 := hb0.trans (hn.mono hb0.size)
        clear hn
        obtain ⟨z10, hz10⟩ : ∃ o_o : Bool, decide (r9 ≤ 0) = o_o := ⟨_, rfl⟩
        cases z10
        · have e0 : false = R0 := by rw [← HR0.out]; unfold rspR; (try rw [Hr1.out]); (try rw [hz2]); (try rw [Hr3.out]); (try rw [hz4]); (try rw [Hr5.out]); (try rw [Hr6.out]); (try rw [Hr7.out]); (try rw [hz8]); (try rw [Hr9.out]); (try rw [hz10]); all_goals first | rfl | simp
          subst e0
          go_wp2
          first | go_ret | go_ret2
          exact ⟨by first | rfl | simp, hb0⟩
        · have c1_2 : U9.cell? ⟨w.heap.size, 2, none⟩ = some (.bool nY) := k1.cell 2
          have c1_3 : U9.cell? ⟨w.heap.size, 3, none⟩ = some (.slice aY lY cY) := k1.cell 3
          have l1 := k1.lt
          have c3_0 : U9.cell? ⟨U6.heap.size, 0, none⟩ = some (.bool bn4) := k3.cell 0
          have c3_1 : U9.cell? ⟨U6.heap.size, 1, none⟩ = some (.slice ba4 bl4 bc4) := k3.cell 1
          have l3 := k3.lt
          go_wp2_with fail
          clear c1_2 c1_3 l1 c3_0 c3_1 l3
          obtain ⟨r11, hr11⟩ : ∃ o_o : Int, cmpI Y r6 = o_o := ⟨_, rfl⟩
          have Hr11 := Lib.hid hr11
          clear hr11
          refine (bigCmp_v (.agg #[.bool nY, .slice aY lY cY]) (.agg #[.bool bn4, .slice ba4 bl4 bc4]) Y r6 18 21 r11 Hr11.out _ HY.out HB4.out).mono ?_
          rintro e U10 ⟨rfl, hn⟩
          clear HB4
          clear k3
          replace k1 := k1.of hn
          replace k2 := k2.of hn
          replace HX := Lib.hid (HX.out.of hn)
          replace HY := Lib.hid (HY.out.of hn)
          replace HZ := Lib.hid (HZ.out.of hn)
          replace HB3 := Lib.hid (HB3.out.of hn)
          replace hb0 := hb0.trans (hn.mono hb0.size)
          clear hn
          obtain ⟨z12, hz12⟩ : ∃ o_o : Bool, decide (0 ≤ r11) = o_o := ⟨_, rfl⟩
          cases z12
          · have e0 : false = R0 := by rw [← HR0.out]; unfold rspR; (try rw [Hr1.out]); (try rw [hz2]); (try rw [Hr3.out]); (try rw [hz4]); (try rw [Hr5.out]); (try rw [Hr6.out]); (try rw [Hr7.out]); (try rw [hz8]); (try rw [Hr9.out]); (try rw [hz10]); (try rw [Hr11.out]); (try rw [hz12]); all_goals first | rfl | simp
            subst e0
            go_wp2
            first | go_ret | go_ret2
            exact ⟨by first | rfl | simp, hb0⟩
          · have c1_2 : U10.cell? ⟨w.heap.size, 2, none⟩ = some (.bool nY) := k1.cell 2
            have c1_3 : U10.cell? ⟨w.heap.size, 3, none⟩ = some (.slice aY lY cY) := k1.cell 3
            have l1 := k1.lt
            have c2_0 : U10.cell? ⟨q2, 0, none⟩ = some (.bool bn3) := k2.cell 0
            have c2_1 : U10.cell? ⟨q2, 1, none⟩ = some (.slice ba3 bl3 bc3) := k2.cell 1
            have l2 := k2.lt
            go_wp2_with fail
            clear c1_2 c1_3 l1 c2_0 c2_1 l2
            obtain ⟨r13, hr13⟩ : ∃ o_o : Int, cmpI Y r5 = o_o := ⟨_, rfl⟩
            have Hr13 := Lib.hid hr13
            clear hr13
            refine (bigCmp_v (.agg #[.bool nY, .slice aY lY cY]) (.agg #[.bool bn3, .slice ba3 bl3 bc3]) Y r5 18 21 r13 Hr13.out _ HY.out HB3.out).mono ?_
            rintro e U11 ⟨rfl, hn⟩
            clear HX HY HZ HB3
            clear k1 k2
            replace hb0 := hb0.trans (hn.mono hb0.size)
            clear hn
            have e0 : decide (r13 ≤ 0) = R0 := by rw [← HR0.out]; unfold rspR; (try rw [Hr1.out]); (try rw [hz2]); (try rw [Hr3.out]); (try rw [hz4]); (try rw [Hr5.out]); (try rw [Hr6.out]); (try rw [Hr7.out]); (try rw [hz8]); (try rw [Hr9.out]); (try rw [hz10]); (try rw [Hr11.out]); (try rw [hz12]); (try rw [Hr13.out]); all_goals first | rfl | simp
            subst e0
            go_wp2
            first | go_ret | go_ret2
            exact ⟨by first | rfl | simp, hb0⟩
    · have e0 : false = R0 := by rw [← HR0.out]; unfold rspR; (try rw [Hr1.out]); (try rw [hz2]); (try rw [Hr3.out]); (try rw [hz4]); all_goals first | rfl | simp
      subst e0
      go_wp2
      first | go_ret | go_ret2
      exact ⟨by first | rfl | simp, hb0⟩
  · have c1_4 : V1.cell? ⟨w.heap.size, 4, none⟩ = some (.bool nZ) := k1.cell 4
    have c1_5 : V1.cell? ⟨w.heap.size, 5, none⟩ = some (.slice aZ lZ cZ) := k1.cell 5
    have l1 := k1.lt
    have Kk1 := Lib.hid k1
    clear k1
    refine wp_region_up V1.heap.size 8 [(true, 0), (true, 1), (false, 2), (true, 3), (true, 4), (true, 5), (true, 6), (false, 7)] (by kernel_rfl) (by kernel_rfl) (fun _ _ d _ _ h => by cases d <;> exact h) ?_
    have hb : Below V1.heap.size V1 V1.drew := (Below.refl _ _).drew
    iterate 2
      refine wpS_takeL rfl rfl ?_
      go_big_quiet_step (rfl)
      refine wpQuiet_nil ?_
    refine wpS_doL rfl ?_
    intro K hK
    go_wp2_with ((go_at_call 67; (with_reducible refine (bigSign_v (.agg #[.bool nZ, .slice aZ lZ cZ]) Z 18 r1 Hr1.out _ (HZ.out.of hb)).mono ?_); rintro e w2 ⟨rfl, hn⟩))
    replace hb := hb.trans (hn.mono hb.size)
    refine hK.out _ _ (up_iff.2 hb) ?_
    clear hK K
    clear hn
    iterate 4
      refine wpS_takeL rfl rfl ?_
      go_big_quiet_step (rfl)
      refine wpQuiet_nil ?_
    refine wpS_doL rfl ?_
    intro K hK
    go_wp2_with ((go_at_call 67; (with_reducible refine (bigSign_v (.agg #[.bool nZ, .slice aZ lZ cZ]) Z 18 r1 Hr1.out _ (HZ.out.of hb)).mono ?_); rintro e w2 ⟨rfl, hn⟩))
    try replace hb := hb.trans (hn.mono hb.size)
    refine hK.out _ _ (up_iff.2 hb) ?_
    clear hK K
    try clear hn
    refine wpS_nil ?_
    simp only [List.drop_succ_cons, List.drop_zero]
    first | refine calls_w ?_ | refine name_world ?_ | refine list_world ?_ | refine post_world ?_
    intro U12 hU12
    first | subst hU12 | (rw [← hU12] at hb; clear hU12)
    clear c1_4 c1_5 l1
    have k1 := Kk1.out.of hb
    clear Kk1
    replace HX := Lib.hid (HX.out.of hb)
    replace HY := Lib.hid (HY.out.of hb)
    replace HZ := Lib.hid (HZ.out.of hb)
    replace hb0 := hb0.trans (hb.mono hb0.size)
    clear hb
    have e0 : false = R0 := by rw [← HR0.out]; unfold rspR; (try rw [Hr1.out]); (try rw [hz2]); all_goals first | rfl | simp
    subst e0
    go_wp2
    first | go_ret | go_ret2
    exact ⟨by first | rfl | simp, hb0⟩

def rspC (X : Int) (Y : Int) (Z : Int) (X2 : Int) (Y2 : Int) (Z2 : Int) : Int := (bif ((cmpI (X * Z2) (X2 * Z)) == 0) then (cmpI (Y * Z2) (Y2 * Z)) else (cmpI (X * Z2) (X2 * Z)))

set_option maxRecDepth 100000 in
set_option maxHeartbeats 4000000 in

theorem rSpC_is (X : Int) (Y : Int) (Z : Int) (X2 : Int) (Y2 : Int) (Z2 : Int)  (R0 : Int) (hR0 : rspC X Y Z X2 Y2 Z2 = R0)  (nX : Bool) (aX : Option Addr) (lX cX : Nat) (nY : Bool) (aY : Option Addr) (lY cY : Nat) (nZ : Bool) (aZ : Option Addr) (lZ cZ : Nat) (nX2 : Bool) (aX2 : Option Addr) (lX2 cX2 : Nat) (nY2 : Bool) (aY2 : Option Addr) (lY2 cY2 : Nat) (nZ2 : Bool) (aZ2 : Option Addr) (lZ2 cZ2 : Nat) (w : World) (hX : Big w (.agg #[.bool nX, .slice aX lX cX]) X 18) (hY : Big w (.agg #[.bool nY, .slice aY lY cY]) Y 18) (hZ : Big w (.agg #[.bool nZ, .slice aZ lZ cZ]) Z 18) (hX2 : Big w (.agg #[.bool nX2, .slice aX2 lX2 cX2]) X2 18) (hY2 : Big w (.agg #[.bool nY2, .slice aY2 lY2 cY2]) Y2 18) (hZ2 : Big w (.agg #[.bool nZ2, .slice aZ2 lZ2 cZ2]) Z2 18) :
    Calls Try.prog 56 #[.agg #[.bool nX, .slice aX lX cX, .bool nY, .slice aY lY cY, .bool nZ, .slice aZ lZ cZ], .agg #[.bool nX2, .slice aX2 lX2 cX2, .bool nY2, .slice aY2 lY2 cY2, .bool nZ2, .slice aZ2 lZ2 cZ2]] w fun e w' => e = .returned (.int .i64 R0) ∧ Below w.heap.size w w' := by

  have HX := Lib.hid hX
  clear hX
  have HY := Lib.hid hY
  clear hY
  have HZ := Lib.hid hZ
  clear hZ
  have HX2 := Lib.hid hX2
  clear hX2
  have HY2 := Lib.hid hY2
  clear hY2
  have HZ2 := Lib.hid hZ2
  clear hZ2
  have HR0 := Lib.hid hR0
  clear hR0
  go_enter Try.func56, Try.ntmps56
  go_wp2_with fail
  first | refine calls_w ?_ | refine name_world ?_ | refine list_world ?_ | refine post_world ?_
  intro V1 hV1
  have hn : Below w.heap.size w V1 := by rw [hV1]; exact below_a2 _ _ _
  replace HX := Lib.hid (HX.out.of hn)
  replace HY := Lib.hid (HY.out.of hn)
  replace HZ := Lib.hid (HZ.out.of hn)
  replace HX2 := Lib.hid (HX2.out.of hn)
  replace HY2 := Lib.hid (HY2.out.of hn)
  replace HZ2 := Lib.hid (HZ2.out.of hn)
  have nhb0 := hn
  have k1 : Blk V1 w.heap.size #[.bool nX, .slice aX lX cX, .bool nY, .slice aY lY cY, .bool nZ, .slice aZ lZ cZ] 72 := by rw [hV1]; exact ((Blk.new _ _ _).alloc _)
  have k2 : Blk V1 (w.heap.size + 1) #[.bool nX2, .slice aX2 lX2 cX2, .bool nY2, .slice aY2 lY2 cY2, .bool nZ2, .slice aZ2 lZ2 cZ2] 72 := by rw [hV1]; exact (Blk.new1 _ _ _ _)
  clear hV1
  have hb0 := nhb0
  clear nhb0
  obtain ⟨r1, hr1⟩ : ∃ o_o : Int, X * Z2 = o_o := ⟨_, rfl⟩
  have Hr1 := Lib.hid hr1
  clear hr1
  have c1_0 : V1.cell? ⟨w.heap.size, 0, none⟩ = some (.bool nX) := k1.cell 0
  have c1_1 : V1.cell? ⟨w.heap.size, 1, none⟩ = some (.slice aX lX cX) := k1.cell 1
  have c1_4 : V1.cell? ⟨w.heap.size, 4, none⟩ = some (.bool nZ) := k1.cell 4
  have c1_5 : V1.cell? ⟨w.heap.size, 5, none⟩ = some (.slice aZ lZ cZ) := k1.cell 5
  have l1 := k1.lt
  have c2_0 : V1.cell? ⟨(w.heap.size + 1), 0, none⟩ = some (.bool nX2) := k2.cell 0
  have c2_1 : V1.cell? ⟨(w.heap.size + 1), 1, none⟩ = some (.slice aX2 lX2 cX2) := k2.cell 1
  have c2_4 : V1.cell? ⟨(w.heap.size + 1), 4, none⟩ = some (.bool nZ2) := k2.cell 4
  have c2_5 : V1.cell? ⟨(w.heap.size + 1), 5, none⟩ = some (.slice aZ2 lZ2 cZ2) := k2.cell 5
  have l2 := k2.lt
  have Kk1 := Lib.hid k1
  clear k1
  have Kk2 := Lib.hid k2
  clear k2
  refine wp_region_up V1.heap.size 9 [(true, 0), (true, 1), (true, 2), (true, 3), (true, 5), (true, 6), (true, 7), (true, 8), (false, 4)] (by kernel_rfl) (by kernel_rfl) (fun _ _ d _ _ h => by cases d <;> exact h) ?_
  have hb : Below V1.heap.size V1 V1.drew := (Below.refl _ _).drew
  iterate 8
    refine wpS_takeL rfl rfl ?_
    go_big_quiet_step (rfl)
    refine wpQuiet_nil ?_
  refine wpS_doL rfl ?_
  intro K hK
  go_wp2_with ((go_at_call 65; (with_reducible refine (bigMul_v (.agg #[.bool nX, .slice aX lX cX]) (.agg #[.bool nZ2, .slice aZ2 lZ2 cZ2]) X Z2 r1 18 18 Hr1.out _ (HX.out.of hb) (HZ2.out.of hb) (by decide)).mono ?_); rintro e w2 ⟨v_, rfl, hbm, hn⟩; have HB1 := Lib.hid hbm; have hvm := hbm.shape; clear hbm; obtain ⟨bn1, ba1, bl1, bc1, rfl⟩ := hvm))
  replace hb := hb.trans (hn.mono hb.size)
  refine hK.out _ _ (up_iff.2 hb) ?_
  clear hK K
  clear hn
  refine wpS_nil ?_
  simp only [List.drop_succ_cons, List.drop_zero]
  first | refine calls_w ?_ | refine name_world ?_ | refine list_world ?_ | refine post_world ?_
  intro U2 hU2
  first | subst hU2 | (rw [← hU2] at hb; clear hU2)
  clear c1_0 c1_1 c1_4 c1_5 l1 c2_0 c2_1 c2_4 c2_5 l2
  have k1 := Kk1.out.of hb
  clear Kk1
  have k2 := Kk2.out.of hb
  clear Kk2
  replace HX := Lib.hid (HX.out.of hb)
  replace HY := Lib.hid (HY.out.of hb)
  replace HZ := Lib.hid (HZ.out.of hb)
  replace HX2 := Lib.hid (HX2.out.of hb)
  replace HY2 := Lib.hid (HY2.out.of hb)
  replace HZ2 := Lib.hid (HZ2.out.of hb)
  replace hb0 := hb0.trans (hb.mono hb0.size)
  clear hb
  go_wp2_with fail
  obtain ⟨r2, hr2⟩ : ∃ o_o : Int, X2 * Z = o_o := ⟨_, rfl⟩
  have Hr2 := Lib.hid hr2
  clear hr2
  refine (bigMul_v (.agg #[.bool nX2, .slice aX2 lX2 cX2]) (.agg #[.bool nZ, .slice aZ lZ cZ]) X2 Z r2 18 18 Hr2.out _ HX2.out HZ.out (by decide)).mono ?_
  rintro e U3 ⟨v_, rfl, hbm, hn⟩
  replace k1 := k1.of hn
  replace k2 := k2.of hn
  replace HX := Lib.hid (HX.out.of hn)
  replace HY := Lib.hid (HY.out.of hn)
  replace HZ := Lib.hid (HZ.out.of hn)
  replace HX2 := Lib.hid (HX2.out.of hn)
  replace HY2 := Lib.hid (HY2.out.of hn)
  replace HZ2 := Lib.hid (HZ2.out.of hn)
  replace HB1 := Lib.hid (HB1.out.of hn)
  replace hb0 := hb0.trans (hn.mono hb0.size)
  clear hn
  have HB2 := Lib.hid hbm
  have hvm := hbm.shape
  clear hbm
  obtain ⟨bn2, ba2, bl2, bc2, rfl⟩ := hvm
  go_wp2_with fail
  obtain ⟨r3, hr3⟩ : ∃ o_o : Int, cmpI r1 r2 = o_o := ⟨_, rfl⟩
  have Hr3 := Lib.hid hr3
  clear hr3
  refine (bigCmp_v (.agg #[.bool bn1, .slice ba1 bl1 bc1]) (.agg #[.bool bn2, .slice ba2 bl2 bc2]) r1 r2 36 36 r3 Hr3.out _ HB1.out HB2.out).mono ?_
  rintro e U4 ⟨rfl, hn⟩
  clear HB1 HB2
  replace k1 := k1.of hn
  replace k2 := k2.of hn
  replace HX := Lib.hid (HX.out.of hn)
  replace HY := Lib.hid (HY.out.of hn)
  replace HZ := Lib.hid (HZ.out.of hn)
  replace HX2 := Lib.hid (HX2.out.of hn)
  replace HY2 := Lib.hid (HY2.out.of hn)
  replace HZ2 := Lib.hid (HZ2.out.of hn)
  replace hb0 := hb0.trans (hn.mono hb0.size)
  clear hn
  obtain ⟨z4, hz4⟩ : ∃ o_o : Bool, (r3 == 0) = o_o := ⟨_, rfl⟩
  cases z4
  · have nz4 : ¬ r3 = 0 := by simpa using hz4
    have e0 : r3 = R0 := by rw [← HR0.out]; unfold rspC; (try rw [Hr1.out]); (try rw [Hr2.out]); (try rw [Hr3.out]); (try rw [hz4]); all_goals first | rfl | simp
    subst e0
    go_wp2
    first | go_ret | go_ret2
    exact ⟨by first | rfl | simp, hb0⟩
  · obtain rfl : r3 = 0 := by simpa using hz4
    clear hz4
    go_wp2_with fail
    obtain ⟨r5, hr5⟩ : ∃ o_o : Int, Y * Z2 = o_o := ⟨_, rfl⟩
    have Hr5 := Lib.hid hr5
    clear hr5
    have c1_2 : U4.cell? ⟨w.heap.size, 2, none⟩ = some (.bool nY) := k1.cell 2
    have c1_3 : U4.cell? ⟨w.heap.size, 3, none⟩ = some (.slice aY lY cY) := k1.cell 3
    have c1_4 : U4.cell? ⟨w.heap.size, 4, none⟩ = some (.bool nZ) := k1.cell 4
    have c1_5 : U4.cell? ⟨w.heap.size, 5, none⟩ = some (.slice aZ lZ cZ) := k1.cell 5
    have l1 := k1.lt
    have c2_2 : U4.cell? ⟨(w.heap.size + 1), 2, none⟩ = some (.bool nY2) := k2.cell 2
    have c2_3 : U4.cell? ⟨(w.heap.size + 1), 3, none⟩ = some (.slice aY2 lY2 cY2) := k2.cell 3
    have c2_4 : U4.cell? ⟨(w.heap.size + 1), 4, none⟩ = some (.bool nZ2) := k2.cell 4
    have c2_5 : U4.cell? ⟨(w.heap.size + 1), 5, none⟩ = some (.slice aZ2 lZ2 cZ2) := k2.cell 5
    have l2 := k2.lt
    have Kk1 := Lib.hid k1
    clear k1
    have Kk2 := Lib.hid k2
    clear k2
    refine wp_region_up U4.heap.size 9 [(true, 0), (true, 1), (true, 2), (true, 3), (true, 5), (true, 6), (true, 7), (true, 8), (false, 4)] (by kernel_rfl) (by kernel_rfl) (fun _ _ d _ _ h => by cases d <;> exact h) ?_
    have hb : Below U4.heap.size U4 U4.drew := (Below.refl _ _).drew
    iterate 8
      refine wpS_takeL rfl rfl ?_
      go_big_quiet_step (rfl)
      refine wpQuiet_nil ?_
    refine wpS_doL rfl ?_
    intro K hK
    go_wp2_with ((go_at_call 65; (with_reducible refine (bigMul_v (.agg #[.bool nY, .slice aY lY cY]) (.agg #[.bool nZ2, .slice aZ2 lZ2 cZ2]) Y Z2 r5 18 18 Hr5.out _ (HY.out.of hb) (HZ2.out.of hb) (by decide)).mono ?_); rintro e w2 ⟨v_, rfl, hbm, hn⟩; have HB3 := Lib.hid hbm; have hvm := hbm.shape; clear hbm; obtain ⟨bn3, ba3, bl3, bc3, rfl⟩ := hvm))
    replace hb := hb.trans (hn.mono hb.size)
    refine hK.out _ _ (up_iff.2 hb) ?_
    clear hK K
    clear hn
    refine wpS_nil ?_
    simp only [List.drop_succ_cons, List.drop_zero]
    first | refine calls_w ?_ | refine name_world ?_ | refine list_world ?_ | refine post_world ?_
    intro U5 hU5
    first | subst hU5 | (rw [← hU5] at hb; clear hU5)
    clear c1_2 c1_3 c1_4 c1_5 l1 c2_2 c2_3 c2_4 c2_5 l2
    have k1 := Kk1.out.of hb
    clear Kk1
    have k2 := Kk2.out.of hb
    clear Kk2
    replace HX := Lib.hid (HX.out.of hb)
    replace HY := Lib.hid (HY.out.of hb)
    replace HZ := Lib.hid (HZ.out.of hb)
    replace HX2 := Lib.hid (HX2.out.of hb)
    replace HY2 := Lib.hid (HY2.out.of hb)
    replace HZ2 := Lib.hid (HZ2.out.of hb)
    replace hb0 := hb0.trans (hb.mono hb0.size)
    clear hb
    go_wp2_with fail
    obtain ⟨r6, hr6⟩ : ∃ o_o : Int, Y2 * Z = o_o := ⟨_, rfl⟩
    have Hr6 := Lib.hid hr6
    clear hr6
    refine (bigMul_v (.agg #[.bool nY2, .slice aY2 lY2 cY2]) (.agg #[.bool nZ, .slice aZ lZ cZ]) Y2 Z r6 18 18 Hr6.out _ HY2.out HZ.out (by decide)).mono ?_
    rintro e U6 ⟨v_, rfl, hbm, hn⟩
    clear HX HY HZ HX2 HY2 HZ2
    clear k1 k2
    replace HB3 := Lib.hid (HB3.out.of hn)
    replace hb0 := hb0.trans (hn.mono hb0.size)
    clear hn
    have HB4 := Lib.hid hbm
    have hvm := hbm.shape
    clear hbm
    obtain ⟨bn4, ba4, bl4, bc4, rfl⟩ := hvm
    go_wp2_with fail
    obtain ⟨r7, hr7⟩ : ∃ o_o : Int, cmpI r5 r6 = o_o := ⟨_, rfl⟩
    have Hr7 := Lib.hid hr7
    clear hr7
    refine (bigCmp_v (.agg #[.bool bn3, .slice ba3 bl3 bc3]) (.agg #[.bool bn4, .slice ba4 bl4 bc4]) r5 r6 36 36 r7 Hr7.out _ HB3.out HB4.out).mono ?_
    rintro e U7 ⟨rfl, hn⟩
    clear HB3 HB4
    replace hb0 := hb0.trans (hn.mono hb0.size)
    clear hn
    have e0 : r7 = R0 := by rw [← HR0.out]; unfold rspC; (try rw [Hr1.out]); (try rw [Hr2.out]); (try rw [Hr3.out]); (try rw [Hr5.out]); (try rw [Hr6.out]); (try rw [Hr7.out]); all_goals first | rfl | simp
    subst e0
    go_wp2
    first | go_ret | go_ret2
    exact ⟨by first | rfl | simp, hb0⟩

end Go.Proofs.Ytlcbomjdbdgbmaa

namespace Go.Proofs.Ytlcbomjdbdgbmaa
open Go.RowKit

def crfx (x : Int) (y : Int) : Int := x

def crfy (x : Int) (y : Int) : Int := y

set_option maxRecDepth 100000 in
set_option maxHeartbeats 4000000 in

theorem cref_is (x : Int) (y : Int)  (R0 : Int) (R1 : Int) (hR0 : crfx x y = R0) (hR1 : crfy x y = R1) (_ix : In64 x) (_iy : In64 y)  (w : World)  :
    Calls Try.prog 52 #[.agg #[.int .i64 x, .int .i64 y]] w fun e w' => e = .returned (.agg #[.int .i64 R0, .int .i64 R1]) ∧ Below w.heap.size w w' := by

  have HR0 := Lib.hid hR0
  clear hR0
  have HR1 := Lib.hid hR1
  clear hR1
  go_enter Try.func52, Try.ntmps52
  have e0 : x = R0 := by rw [← HR0.out]; unfold crfx; all_goals first | rfl | simp
  have e1 : y = R1 := by rw [← HR1.out]; unfold crfy; all_goals first | rfl | simp
  subst e0
  subst e1
  go_wp2
  first | refine post_world ?_
  intro V1 hV1
  have hn : Below w.heap.size w V1 := by rw [hV1]; exact below_a2 _ _ _
  have nhb0 := hn
  have k2 : Blk V1 (w.heap.size + 1) #[.int .i64 x, .int .i64 y] 31 := by rw [hV1]; exact (Blk.new1 _ _ _ _)
  clear hV1
  have hb0 := nhb0
  clear nhb0
  have g2_0 : V1.cell? ⟨(w.heap.size + 1), 0, none⟩ = some (.int .i64 x) := k2.cell 0
  have g2_1 : V1.cell? ⟨(w.heap.size + 1), 1, none⟩ = some (.int .i64 y) := k2.cell 1
  clear k2
  simp [bodyPost, results, Try.results52, go_sem, g2_0, g2_1]
  first | exact hb0 | exact ⟨rfl, hb0⟩

def cspx (x : Int) (y : Int) (v : Int) : Int := (x)

def cspy (x : Int) (y : Int) (v : Int) : Int := (y)

def cspv (x : Int) (y : Int) (v : Int) : Int := (v)

def cspot_is_post (w : World) (R0 : Int) (R1 : Int) (R2 : Int) (e : Ending) (w' : World) : Prop := ∃ (m0 : Bool) (p0 : Option Addr) (q0 t0 : Nat) (m1 : Bool) (p1 : Option Addr) (q1 t1 : Nat) (m2 : Bool) (p2 : Option Addr) (q2 t2 : Nat), e = .returned (.agg #[.bool m0, .slice p0 q0 t0, .bool m1, .slice p1 q1 t1, .bool m2, .slice p2 q2 t2]) ∧ Big w' (.agg #[.bool m0, .slice p0 q0 t0]) R0 18 ∧ Big w' (.agg #[.bool m1, .slice p1 q1 t1]) R1 18 ∧ Big w' (.agg #[.bool m2, .slice p2 q2 t2]) R2 18 ∧ Below w.heap.size w w'

set_option maxRecDepth 100000 in
set_option maxHeartbeats 4000000 in

theorem cspot_is (x : Int) (y : Int) (v : Int)  (R0 : Int) (R1 : Int) (R2 : Int) (hR0 : cspx x y v = R0) (hR1 : cspy x y v = R1) (hR2 : cspv x y v = R2) (_ix : InI x) (_iy : InI y) (_iv : InI v)  (w : World)  :
    Calls Try.prog 55 #[.agg #[.int .u64 (wd0 x), .int .u64 (wd1 x), .int .u64 (wd2 x), .int .u64 (wd3 x), .int .u64 (wd0 y), .int .u64 (wd1 y), .int .u64 (wd2 y), .int .u64 (wd3 y), .int .u64 (wd0 v), .int .u64 (wd1 v), .int .u64 (wd2 v), .int .u64 (wd3 v)]] w (cspot_is_post w R0 R1 R2) := by

  have HR0 := Lib.hid hR0
  clear hR0
  have HR1 := Lib.hid hR1
  clear hR1
  have HR2 := Lib.hid hR2
  clear hR2
  go_enter Try.func55, Try.ntmps55
  go_wp2_with fail
  first | refine calls_w ?_ | refine name_world ?_ | refine list_world ?_ | refine post_world ?_
  intro V1 hV1
  have hn : Below w.heap.size w V1 := by rw [hV1]; exact below_a2 _ _ _
  have nhb0 := hn
  have k1 : Blk V1 w.heap.size #[.int .u64 (wd0 x), .int .u64 (wd1 x), .int .u64 (wd2 x), .int .u64 (wd3 x), .int .u64 (wd0 y), .int .u64 (wd1 y), .int .u64 (wd2 y), .int .u64 (wd3 y), .int .u64 (wd0 v), .int .u64 (wd1 v), .int .u64 (wd2 v), .int .u64 (wd3 v)] 67 := by rw [hV1]; exact ((Blk.new _ _ _).alloc _)
  have k2 : Blk V1 (w.heap.size + 1) #[.bool false, .slice none 0 0, .bool false, .slice none 0 0, .bool false, .slice none 0 0] 72 := by rw [hV1]; exact (Blk.new1 _ _ _ _)
  clear hV1
  have hb0 := nhb0
  clear nhb0
  obtain ⟨r1, hr1⟩ : ∃ o_o : Int, x = o_o := ⟨_, rfl⟩
  have Hr1 := Lib.hid hr1
  clear hr1
  obtain ⟨r2, hr2⟩ : ∃ o_o : Int, y = o_o := ⟨_, rfl⟩
  have Hr2 := Lib.hid hr2
  clear hr2
  have c1_0 : V1.cell? ⟨w.heap.size, 0, none⟩ = some (.int .u64 (wd0 x)) := k1.cell 0
  have c1_1 : V1.cell? ⟨w.heap.size, 1, none⟩ = some (.int .u64 (wd1 x)) := k1.cell 1
  have c1_2 : V1.cell? ⟨w.heap.size, 2, none⟩ = some (.int .u64 (wd2 x)) := k1.cell 2
  have c1_3 : V1.cell? ⟨w.heap.size, 3, none⟩ = some (.int .u64 (wd3 x)) := k1.cell 3
  have c1_4 : V1.cell? ⟨w.heap.size, 4, none⟩ = some (.int .u64 (wd0 y)) := k1.cell 4
  have c1_5 : V1.cell? ⟨w.heap.size, 5, none⟩ = some (.int .u64 (wd1 y)) := k1.cell 5
  have c1_6 : V1.cell? ⟨w.heap.size, 6, none⟩ = some (.int .u64 (wd2 y)) := k1.cell 6
  have c1_7 : V1.cell? ⟨w.heap.size, 7, none⟩ = some (.int .u64 (wd3 y)) := k1.cell 7
  have c1_8 : V1.cell? ⟨w.heap.size, 8, none⟩ = some (.int .u64 (wd0 v)) := k1.cell 8
  have c1_9 : V1.cell? ⟨w.heap.size, 9, none⟩ = some (.int .u64 (wd1 v)) := k1.cell 9
  have c1_10 : V1.cell? ⟨w.heap.size, 10, none⟩ = some (.int .u64 (wd2 v)) := k1.cell 10
  have c1_11 : V1.cell? ⟨w.heap.size, 11, none⟩ = some (.int .u64 (wd3 v)) := k1.cell 11
  have l1 := k1.lt
  have Kk1 := Lib.hid k1
  clear k1
  have Kk2 := Lib.hid k2
  clear k2
  refine wp_region_up V1.heap.size 8 [(true, 0), (true, 1), (true, 3), (true, 4), (true, 6), (true, 7), (false, 2), (false, 5)] (by kernel_rfl) (by kernel_rfl) (fun _ _ d _ _ h => by cases d <;> exact h) ?_
  have hb : Below V1.heap.size V1 V1.drew := (Below.refl _ _).drew
  iterate 6
    refine wpS_takeL rfl rfl ?_
    go_big_quiet_step (rfl)
    refine wpQuiet_nil ?_
  refine wpS_doL rfl ?_
  intro K hK
  go_wp2_with ((first | (go_at_call 24; (with_reducible refine (Read_v x r1 Hr1.out _ix _).mono ?_); rintro e w2 ⟨v_, rfl, hbm, hn⟩; have HB1 := Lib.hid hbm; have hvm := hbm.shape; clear hbm; obtain ⟨bn1, ba1, bl1, bc1, rfl⟩ := hvm) | (go_at_call 24; (with_reducible refine (Read_v y r2 Hr2.out _iy _).mono ?_); rintro e w2 ⟨v_, rfl, hbm, hn⟩; replace HB1 := Lib.hid (HB1.out.of hn); have HB2 := Lib.hid hbm; have hvm := hbm.shape; clear hbm; obtain ⟨bn2, ba2, bl2, bc2, rfl⟩ := hvm)))
  replace hb := hb.trans (hn.mono hb.size)
  refine hK.out _ _ (up_iff.2 hb) ?_
  clear hK K
  clear hn
  refine wpS_doL rfl ?_
  intro K hK
  go_wp2_with ((first | (go_at_call 24; (with_reducible refine (Read_v x r1 Hr1.out _ix _).mono ?_); rintro e w2 ⟨v_, rfl, hbm, hn⟩; have HB1 := Lib.hid hbm; have hvm := hbm.shape; clear hbm; obtain ⟨bn1, ba1, bl1, bc1, rfl⟩ := hvm) | (go_at_call 24; (with_reducible refine (Read_v y r2 Hr2.out _iy _).mono ?_); rintro e w2 ⟨v_, rfl, hbm, hn⟩; replace HB1 := Lib.hid (HB1.out.of hn); have HB2 := Lib.hid hbm; have hvm := hbm.shape; clear hbm; obtain ⟨bn2, ba2, bl2, bc2, rfl⟩ := hvm)))
  replace hb := hb.trans (hn.mono hb.size)
  refine hK.out _ _ (up_iff.2 hb) ?_
  clear hK K
  clear hn
  refine wpS_nil ?_
  simp only [List.drop_succ_cons, List.drop_zero]
  first | refine calls_w ?_ | refine name_world ?_ | refine list_world ?_ | refine post_world ?_
  intro U2 hU2
  first | subst hU2 | (rw [← hU2] at hb; clear hU2)
  clear c1_0 c1_1 c1_2 c1_3 c1_4 c1_5 c1_6 c1_7 c1_8 c1_9 c1_10 c1_11 l1
  have k1 := Kk1.out.of hb
  clear Kk1
  have k2 := Kk2.out.of hb
  clear Kk2
  replace hb0 := hb0.trans (hb.mono hb0.size)
  clear hb
  go_wp2_with fail
  obtain ⟨r3, hr3⟩ : ∃ o_o : Int, v = o_o := ⟨_, rfl⟩
  have Hr3 := Lib.hid hr3
  clear hr3
  refine (Read_v v r3 Hr3.out _iv _).mono ?_
  rintro e U3 ⟨v_, rfl, hbm, hn⟩
  clear k1
  replace k2 := k2.of hn
  replace HB1 := Lib.hid (HB1.out.of hn)
  replace HB2 := Lib.hid (HB2.out.of hn)
  replace hb0 := hb0.trans (hn.mono hb0.size)
  clear hn
  have HB3 := Lib.hid hbm
  have hvm := hbm.shape
  clear hbm
  obtain ⟨bn3, ba3, bl3, bc3, rfl⟩ := hvm
  have c2_0 : U3.cell? ⟨(w.heap.size + 1), 0, none⟩ = some (.bool false) := k2.cell 0
  have c2_1 : U3.cell? ⟨(w.heap.size + 1), 1, none⟩ = some (.slice none 0 0) := k2.cell 1
  have c2_2 : U3.cell? ⟨(w.heap.size + 1), 2, none⟩ = some (.bool false) := k2.cell 2
  have c2_3 : U3.cell? ⟨(w.heap.size + 1), 3, none⟩ = some (.slice none 0 0) := k2.cell 3
  have c2_4 : U3.cell? ⟨(w.heap.size + 1), 4, none⟩ = some (.bool false) := k2.cell 4
  have c2_5 : U3.cell? ⟨(w.heap.size + 1), 5, none⟩ = some (.slice none 0 0) := k2.cell 5
  have f2_0 := k2.free 0
  have f2_1 := k2.free 1
  have f2_2 := k2.free 2
  have f2_3 := k2.free 3
  have f2_4 := k2.free 4
  have f2_5 := k2.free 5
  have l2 := k2.lt
  have e0 : r1 = R0 := by rw [← HR0.out]; unfold cspx; (try rw [Hr1.out]); (try rw [Hr2.out]); (try rw [Hr3.out]); all_goals first | rfl | simp
  have e1 : r2 = R1 := by rw [← HR1.out]; unfold cspy; (try rw [Hr1.out]); (try rw [Hr2.out]); (try rw [Hr3.out]); all_goals first | rfl | simp
  have e2 : r3 = R2 := by rw [← HR2.out]; unfold cspv; (try rw [Hr1.out]); (try rw [Hr2.out]); (try rw [Hr3.out]); all_goals first | rfl | simp
  subst e0
  subst e1
  subst e2
  go_wp2
  clear c2_0 c2_1 c2_2 c2_3 c2_4 c2_5 f2_0 f2_1 f2_2 f2_3 f2_4 f2_5 l2
  first | refine post_world ?_
  intro V4 hV4
  have D1 := Lib.hid k2.lt
  have D2 := Lib.hid hb0.size
  have nk2 : Blk V4 (w.heap.size + 1) #[.bool bn1, .slice ba1 bl1 bc1, .bool bn2, .slice ba2 bl2 bc2, .bool bn3, .slice ba3 bl3 bc3] 72 := by rw [hV4]; exact (blk_full _ [.bool bn1, .slice ba1 bl1 bc1, .bool bn2, .slice ba2 bl2 bc2, .bool bn3, .slice ba3 bl3 bc3] k2 rfl)
  have nhb0 : Below w.heap.size w V4 := by rw [hV4]; exact (blw_setL hb0 (by omega) 0 [.bool bn1, .slice ba1 bl1 bc1, .bool bn2, .slice ba2 bl2 bc2, .bool bn3, .slice ba3 bl3 bc3])
  replace HB1 : Hid (Big V4 (.agg #[.bool bn1, .slice ba1 bl1 bc1]) r1 18) := Lib.hid (by rw [hV4]; exact (big_setL HB1.out (Blk.cell k2 0) (fun _ h => by cases h) 0 [.bool bn1, .slice ba1 bl1 bc1, .bool bn2, .slice ba2 bl2 bc2, .bool bn3, .slice ba3 bl3 bc3]))
  replace HB2 : Hid (Big V4 (.agg #[.bool bn2, .slice ba2 bl2 bc2]) r2 18) := Lib.hid (by rw [hV4]; exact (big_setL HB2.out (Blk.cell k2 0) (fun _ h => by cases h) 0 [.bool bn1, .slice ba1 bl1 bc1, .bool bn2, .slice ba2 bl2 bc2, .bool bn3, .slice ba3 bl3 bc3]))
  replace HB3 : Hid (Big V4 (.agg #[.bool bn3, .slice ba3 bl3 bc3]) r3 18) := Lib.hid (by rw [hV4]; exact (big_setL HB3.out (Blk.cell k2 0) (fun _ h => by cases h) 0 [.bool bn1, .slice ba1 bl1 bc1, .bool bn2, .slice ba2 bl2 bc2, .bool bn3, .slice ba3 bl3 bc3]))
  clear k2
  clear hb0
  clear hV4
  have k2 := nk2
  clear nk2
  have hb0 := nhb0
  clear nhb0
  have g2_0 : V4.cell? ⟨(w.heap.size + 1), 0, none⟩ = some (.bool bn1) := k2.cell 0
  have g2_1 : V4.cell? ⟨(w.heap.size + 1), 1, none⟩ = some (.slice ba1 bl1 bc1) := k2.cell 1
  have g2_2 : V4.cell? ⟨(w.heap.size + 1), 2, none⟩ = some (.bool bn2) := k2.cell 2
  have g2_3 : V4.cell? ⟨(w.heap.size + 1), 3, none⟩ = some (.slice ba2 bl2 bc2) := k2.cell 3
  have g2_4 : V4.cell? ⟨(w.heap.size + 1), 4, none⟩ = some (.bool bn3) := k2.cell 4
  have g2_5 : V4.cell? ⟨(w.heap.size + 1), 5, none⟩ = some (.slice ba3 bl3 bc3) := k2.cell 5
  clear k2
  simp [bodyPost, results, Try.results55, go_sem, g2_0, g2_1, g2_2, g2_3, g2_4, g2_5]
  exact ⟨_, _, _, _, _, _, _, _, _, _, _, _, rfl, (HB1.out.mono (by decide)), (HB2.out.mono (by decide)), (HB3.out.mono (by decide)), hb0⟩

end Go.Proofs.Ytlcbomjdbdgbmaa

namespace Go.Proofs.Ytlcbomjdbdgbmaa
open Go.RowKit

/-- within a fraction two numbers are held against one another one step deeper -/
@[go_sem] theorem run_eqI9 (a0 a1 a2 a3 b0 b1 b2 b3 : Int) (w : World) :
    (Op.equalIn 9999 35 (.agg #[.int .u64 a0, .int .u64 a1, .int .u64 a2, .int .u64 a3]) (.agg #[.int .u64 b0, .int .u64 b1, .int .u64 b2, .int .u64 b3])).run Try.prog w = .ok (eq4 a0 a1 a2 a3 b0 b1 b2 b3) w := by
  have hu : Try.prog.underlying 35 = some (.array 4 33) := by kernel_rfl
  have hs : ∀ w, (sizeOf 33).run Try.prog w = .ok 1 w := fun w => by kernel_rfl
  have he : ∀ (a b : Int) w, (Op.equalIn 9998 33 (.int .u64 a) (.int .u64 b)).run Try.prog w = .ok (a == b) w := fun a b w => run_equalIn_int w 9997 _ .u64 .u64 a b (by kernel_rfl)
  have hp : ∀ (c : Array Value) (i : Nat) (v : Value) w, c[i]? = some v → (part 33 c i).run Try.prog w = .ok v w := by
    intro c i v w h
    have ha : (isAgg 33).run Try.prog w = .ok false w := by kernel_rfl
    unfold part
    simp [Sem.run_bind, ha, h]
  show (Op.equalIn (9998 + 1) _ _ _).run _ _ = _
  unfold Op.equalIn
  simp only [Sem.run_bind, run_underlying hu, Result.andThen_ok, hs]
  simp [List.range', he, hp, Sem.run_bind]
  unfold eq4
  by_cases h0 : a0 = b0 <;> by_cases h1 : a1 = b1 <;> by_cases h2 : a2 = b2 <;> by_cases h3 : a3 = b3 <;> simp [h0, h1, h2, h3]

@[go_sem] theorem eqP_self (a b : Int) : eqP a b a b = true := by unfold eqP; simp
@[go_sem] theorem eqP_ne {a b c d : Int} (h : ¬ a = c) : eqP a b c d = false := by unfold eqP; simp [h]
@[go_sem] theorem eqP_ne' {a b c d : Int} (h : ¬ c = a) : eqP a b c d = false := eqP_ne fun e => h e.symm
@[go_sem] theorem eqP_me {a b c d : Int} (h : ¬ b = d) : eqP a b c d = false := by unfold eqP; simp [h]
@[go_sem] theorem eqP_me' {a b c d : Int} (h : ¬ d = b) : eqP a b c d = false := eqP_me fun e => h e.symm
end Go.Proofs.Ytlcbomjdbdgbmaa

