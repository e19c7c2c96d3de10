/- My texts Cr5, joined: what the last one needs of them. Conditions: as each lemma says. -/
import Derived.Test.YtkaolhlmimalkaaSEa4
import Derived.KernelRfl
import Derived.StillTail
import Derived.OrdersHeld
import Derived.Deep.Quiet
import Derived.Below
import Derived.WalkKit
import Derived.Test.YtkaolhlmimalkaaProg
import Derived.WalkSpells
import Derived.StillTactics
import Derived.Laws.Pointers
import Derived.Deep.RegionHeld3
import Derived.RowKit3
import Derived.Deep.QuietTactic
import Derived.BigQuiet
import Derived.BigRegion
import Derived.Lib.Hide
import Derived.WalkSmall
import Derived.Laws.BitsAllLaws
import Derived.IntWalk
import Derived.Deep.OwnRows
import Derived.Deep.LoopGhost
import Derived.Shelf.Bits.Mul64
import Derived.Deep.DeepFit
import Derived.Deep.DeepCutAuto
import Derived.OwnWalk
import Derived.RangeFuncNested
import Derived.RangeFuncBound
import Derived.RangeFuncCalls
import Derived.RangeFuncLeaves
import Derived.Shelf.Abstract
import Derived.Shelf.RegionOpen
import Derived.OwnWalkIn
import Derived.TacticsInMore
import Derived.LoopNIn
import Derived.LoopIn
import Derived.Sort.LoopGhostIn
import Derived.Deep.DeepAppendRoom
import Derived.Deep.MidRow
import Derived.Laws.CopyOwn
import Derived.Laws.AppendOwn
import Derived.Lib.AppendZerosOnto
import Derived.Lib.Overlaps
import Derived.Laws.AppendOwnNone
import Derived.Maps.OwnIn
import Derived.ProofKit
import Derived.OpenShut
import Derived.ShutString
import Derived.ChangeOld
import Derived.Lib.SmallJoins
import Derived.Laws.IdiomArrays
import Derived.Deep.SlicePairs
namespace Go.Proofs.Ytkaolhlmimalkaa
open Go.RowKit

def shk (ax : Int) (ay : Int) (bx : Int) (b_y : Int) (cx : Int) (cy : Int) (dx : Int) (dy : Int) : Int := (bif decide (0 < (cmpP (lwx cx cy dx dy) (lwy cx cy dx dy) (lwx ax ay bx b_y) (lwy ax ay bx b_y))) then (bif decide ((cmpP (hgx cx cy dx dy) (hgy cx cy dx dy) (hgx ax ay bx b_y) (hgy ax ay bx b_y)) < 0) then (bif ((cmpP (lwx cx cy dx dy) (lwy cx cy dx dy) (hgx cx cy dx dy) (hgy cx cy dx dy)) == 0) then 1 else (bif ((cmpP (lwx cx cy dx dy) (lwy cx cy dx dy) (hgx cx cy dx dy) (hgy cx cy dx dy)) == (-1)) then 2 else 0)) else (bif ((cmpP (lwx cx cy dx dy) (lwy cx cy dx dy) (hgx ax ay bx b_y) (hgy ax ay bx b_y)) == 0) then 1 else (bif ((cmpP (lwx cx cy dx dy) (lwy cx cy dx dy) (hgx ax ay bx b_y) (hgy ax ay bx b_y)) == (-1)) then 2 else 0))) else (bif decide ((cmpP (hgx cx cy dx dy) (hgy cx cy dx dy) (hgx ax ay bx b_y) (hgy ax ay bx b_y)) < 0) then (bif ((cmpP (lwx ax ay bx b_y) (lwy ax ay bx b_y) (hgx cx cy dx dy) (hgy cx cy dx dy)) == 0) then 1 else (bif ((cmpP (lwx ax ay bx b_y) (lwy ax ay bx b_y) (hgx cx cy dx dy) (hgy cx cy dx dy)) == (-1)) then 2 else 0)) else (bif ((cmpP (lwx ax ay bx b_y) (lwy ax ay bx b_y) (hgx ax ay bx b_y) (hgy ax ay bx b_y)) == 0) then 1 else (bif ((cmpP (lwx ax ay bx b_y) (lwy ax ay bx b_y) (hgx ax ay bx b_y) (hgy ax ay bx b_y)) == (-1)) then 2 else 0))))

def shx (ax : Int) (ay : Int) (bx : Int) (b_y : Int) (cx : Int) (cy : Int) (dx : Int) (dy : Int) : Int := (bif decide (0 < (cmpP (lwx cx cy dx dy) (lwy cx cy dx dy) (lwx ax ay bx b_y) (lwy ax ay bx b_y))) then (bif decide ((cmpP (hgx cx cy dx dy) (hgy cx cy dx dy) (hgx ax ay bx b_y) (hgy ax ay bx b_y)) < 0) then (bif ((cmpP (lwx cx cy dx dy) (lwy cx cy dx dy) (hgx cx cy dx dy) (hgy cx cy dx dy)) == 0) then (atx (lwx cx cy dx dy) (lwy cx cy dx dy)) else 0) else (bif ((cmpP (lwx cx cy dx dy) (lwy cx cy dx dy) (hgx ax ay bx b_y) (hgy ax ay bx b_y)) == 0) then (atx (lwx cx cy dx dy) (lwy cx cy dx dy)) else 0)) else (bif decide ((cmpP (hgx cx cy dx dy) (hgy cx cy dx dy) (hgx ax ay bx b_y) (hgy ax ay bx b_y)) < 0) then (bif ((cmpP (lwx ax ay bx b_y) (lwy ax ay bx b_y) (hgx cx cy dx dy) (hgy cx cy dx dy)) == 0) then (atx (lwx ax ay bx b_y) (lwy ax ay bx b_y)) else 0) else (bif ((cmpP (lwx ax ay bx b_y) (lwy ax ay bx b_y) (hgx ax ay bx b_y) (hgy ax ay bx b_y)) == 0) then (atx (lwx ax ay bx b_y) (lwy ax ay bx b_y)) else 0)))

def shy (ax : Int) (ay : Int) (bx : Int) (b_y : Int) (cx : Int) (cy : Int) (dx : Int) (dy : Int) : Int := (bif decide (0 < (cmpP (lwx cx cy dx dy) (lwy cx cy dx dy) (lwx ax ay bx b_y) (lwy ax ay bx b_y))) then (bif decide ((cmpP (hgx cx cy dx dy) (hgy cx cy dx dy) (hgx ax ay bx b_y) (hgy ax ay bx b_y)) < 0) then (bif ((cmpP (lwx cx cy dx dy) (lwy cx cy dx dy) (hgx cx cy dx dy) (hgy cx cy dx dy)) == 0) then (aty (lwx cx cy dx dy) (lwy cx cy dx dy)) else 0) else (bif ((cmpP (lwx cx cy dx dy) (lwy cx cy dx dy) (hgx ax ay bx b_y) (hgy ax ay bx b_y)) == 0) then (aty (lwx cx cy dx dy) (lwy cx cy dx dy)) else 0)) else (bif decide ((cmpP (hgx cx cy dx dy) (hgy cx cy dx dy) (hgx ax ay bx b_y) (hgy ax ay bx b_y)) < 0) then (bif ((cmpP (lwx ax ay bx b_y) (lwy ax ay bx b_y) (hgx cx cy dx dy) (hgy cx cy dx dy)) == 0) then (aty (lwx ax ay bx b_y) (lwy ax ay bx b_y)) else 0) else (bif ((cmpP (lwx ax ay bx b_y) (lwy ax ay bx b_y) (hgx ax ay bx b_y) (hgy ax ay bx b_y)) == 0) then (aty (lwx ax ay bx b_y) (lwy ax ay bx b_y)) else 0)))

def shw (ax : Int) (ay : Int) (bx : Int) (b_y : Int) (cx : Int) (cy : Int) (dx : Int) (dy : Int) : Int := (bif decide (0 < (cmpP (lwx cx cy dx dy) (lwy cx cy dx dy) (lwx ax ay bx b_y) (lwy ax ay bx b_y))) then (bif decide ((cmpP (hgx cx cy dx dy) (hgy cx cy dx dy) (hgx ax ay bx b_y) (hgy ax ay bx b_y)) < 0) then (bif ((cmpP (lwx cx cy dx dy) (lwy cx cy dx dy) (hgx cx cy dx dy) (hgy cx cy dx dy)) == 0) then (atw (lwx cx cy dx dy) (lwy cx cy dx dy)) else 0) else (bif ((cmpP (lwx cx cy dx dy) (lwy cx cy dx dy) (hgx ax ay bx b_y) (hgy ax ay bx b_y)) == 0) then (atw (lwx cx cy dx dy) (lwy cx cy dx dy)) else 0)) else (bif decide ((cmpP (hgx cx cy dx dy) (hgy cx cy dx dy) (hgx ax ay bx b_y) (hgy ax ay bx b_y)) < 0) then (bif ((cmpP (lwx ax ay bx b_y) (lwy ax ay bx b_y) (hgx cx cy dx dy) (hgy cx cy dx dy)) == 0) then (atw (lwx ax ay bx b_y) (lwy ax ay bx b_y)) else 0) else (bif ((cmpP (lwx ax ay bx b_y) (lwy ax ay bx b_y) (hgx ax ay bx b_y) (hgy ax ay bx b_y)) == 0) then (atw (lwx ax ay bx b_y) (lwy ax ay bx b_y)) else 0)))

theorem shx_in (ax : Int) (ay : Int) (bx : Int) (b_y : Int) (cx : Int) (cy : Int) (dx : Int) (dy : Int) (_iax : In64 ax) (_iay : In64 ay) (_ibx : In64 bx) (_ib_y : In64 b_y) (_icx : In64 cx) (_icy : In64 cy) (_idx : In64 dx) (_idy : In64 dy) : InI (shx ax ay bx b_y cx cy dx dy) := by
  unfold shx
  exact (cond_in (cond_in (cond_in (atx_in (lwx cx cy dx dy) (lwy cx cy dx dy) (lwx_in cx cy dx dy _icx _icy _idx _idy) (lwy_in cx cy dx dy _icx _icy _idx _idy)) in_0) (cond_in (atx_in (lwx cx cy dx dy) (lwy cx cy dx dy) (lwx_in cx cy dx dy _icx _icy _idx _idy) (lwy_in cx cy dx dy _icx _icy _idx _idy)) in_0)) (cond_in (cond_in (atx_in (lwx ax ay bx b_y) (lwy ax ay bx b_y) (lwx_in ax ay bx b_y _iax _iay _ibx _ib_y) (lwy_in ax ay bx b_y _iax _iay _ibx _ib_y)) in_0) (cond_in (atx_in (lwx ax ay bx b_y) (lwy ax ay bx b_y) (lwx_in ax ay bx b_y _iax _iay _ibx _ib_y) (lwy_in ax ay bx b_y _iax _iay _ibx _ib_y)) in_0)))

theorem shy_in (ax : Int) (ay : Int) (bx : Int) (b_y : Int) (cx : Int) (cy : Int) (dx : Int) (dy : Int) (_iax : In64 ax) (_iay : In64 ay) (_ibx : In64 bx) (_ib_y : In64 b_y) (_icx : In64 cx) (_icy : In64 cy) (_idx : In64 dx) (_idy : In64 dy) : InI (shy ax ay bx b_y cx cy dx dy) := by
  unfold shy
  exact (cond_in (cond_in (cond_in (aty_in (lwx cx cy dx dy) (lwy cx cy dx dy) (lwx_in cx cy dx dy _icx _icy _idx _idy) (lwy_in cx cy dx dy _icx _icy _idx _idy)) in_0) (cond_in (aty_in (lwx cx cy dx dy) (lwy cx cy dx dy) (lwx_in cx cy dx dy _icx _icy _idx _idy) (lwy_in cx cy dx dy _icx _icy _idx _idy)) in_0)) (cond_in (cond_in (aty_in (lwx ax ay bx b_y) (lwy ax ay bx b_y) (lwx_in ax ay bx b_y _iax _iay _ibx _ib_y) (lwy_in ax ay bx b_y _iax _iay _ibx _ib_y)) in_0) (cond_in (aty_in (lwx ax ay bx b_y) (lwy ax ay bx b_y) (lwx_in ax ay bx b_y _iax _iay _ibx _ib_y) (lwy_in ax ay bx b_y _iax _iay _ibx _ib_y)) in_0)))

theorem shw_in (ax : Int) (ay : Int) (bx : Int) (b_y : Int) (cx : Int) (cy : Int) (dx : Int) (dy : Int) (_iax : In64 ax) (_iay : In64 ay) (_ibx : In64 bx) (_ib_y : In64 b_y) (_icx : In64 cx) (_icy : In64 cy) (_idx : In64 dx) (_idy : In64 dy) : InI (shw ax ay bx b_y cx cy dx dy) := by
  unfold shw
  exact (cond_in (cond_in (cond_in (atw_in (lwx cx cy dx dy) (lwy cx cy dx dy) (lwx_in cx cy dx dy _icx _icy _idx _idy) (lwy_in cx cy dx dy _icx _icy _idx _idy)) in_0) (cond_in (atw_in (lwx cx cy dx dy) (lwy cx cy dx dy) (lwx_in cx cy dx dy _icx _icy _idx _idy) (lwy_in cx cy dx dy _icx _icy _idx _idy)) in_0)) (cond_in (cond_in (atw_in (lwx ax ay bx b_y) (lwy ax ay bx b_y) (lwx_in ax ay bx b_y _iax _iay _ibx _ib_y) (lwy_in ax ay bx b_y _iax _iay _ibx _ib_y)) in_0) (cond_in (atw_in (lwx ax ay bx b_y) (lwy ax ay bx b_y) (lwx_in ax ay bx b_y _iax _iay _ibx _ib_y) (lwy_in ax ay bx b_y _iax _iay _ibx _ib_y)) in_0)))

set_option maxRecDepth 100000 in
set_option maxHeartbeats 4000000 in

theorem shared_is (ax : Int) (ay : Int) (bx : Int) (b_y : Int) (cx : Int) (cy : Int) (dx : Int) (dy : Int)  (R0 : Int) (R1 : Int) (R2 : Int) (R3 : Int) (hR0 : shk ax ay bx b_y cx cy dx dy = R0) (hR1 : shx ax ay bx b_y cx cy dx dy = R1) (hR2 : shy ax ay bx b_y cx cy dx dy = R2) (hR3 : shw ax ay bx b_y cx cy dx dy = R3) (_iax : In64 ax) (_iay : In64 ay) (_ibx : In64 bx) (_ib_y : In64 b_y) (_icx : In64 cx) (_icy : In64 cy) (_idx : In64 dx) (_idy : In64 dy)  (w : World)  :
    Calls Try.prog 90 #[.agg #[.int .i64 ax, .int .i64 ay, .int .i64 bx, .int .i64 b_y], .agg #[.int .i64 cx, .int .i64 cy, .int .i64 dx, .int .i64 dy]] w fun e w' => e = .returned (.tuple #[.int .i64 R0, .agg #[.int .u64 (wd0 R1), .int .u64 (wd1 R1), .int .u64 (wd2 R1), .int .u64 (wd3 R1), .int .u64 (wd0 R2), .int .u64 (wd1 R2), .int .u64 (wd2 R2), .int .u64 (wd3 R2), .int .u64 (wd0 R3), .int .u64 (wd1 R3), .int .u64 (wd2 R3), .int .u64 (wd3 R3)]]) ∧ Below w.heap.size w w' := by

  have HR0 := Lib.hid hR0; clear hR0; have HR1 := Lib.hid hR1; clear hR1; have HR2 := Lib.hid hR2; clear hR2; have HR3 := Lib.hid hR3; clear hR3
  go_enter Try.func90, Try.ntmps90
  go_wp2_with fail
  first | refine calls_w ?_ | refine name_world ?_ | refine list_world ?_ | refine post_world ?_
  intro V1 hV1
  have hn : Below w.heap.size w V1 := by rw [hV1]; exact below_a3 _ _ _ _
  have nhb0 := hn
  have k1 : Blk V1 w.heap.size #[.int .i64 ax, .int .i64 ay, .int .i64 bx, .int .i64 b_y] 46 := by rw [hV1]; exact (((Blk.new _ _ _).alloc _).alloc _)
  have k2 : Blk V1 (w.heap.size + 1) #[.int .i64 cx, .int .i64 cy, .int .i64 dx, .int .i64 dy] 46 := by rw [hV1]; exact ((Blk.new1 _ _ _ _).alloc _)
  have k3 : Blk V1 (w.heap.size + 1 + 1) #[.int .u64 0, .int .u64 0, .int .u64 0, .int .u64 0, .int .u64 0, .int .u64 0, .int .u64 0, .int .u64 0, .int .u64 0, .int .u64 0, .int .u64 0, .int .u64 0] 36 := by rw [hV1]; exact (Blk.new2 _ _ _ _ _)
  clear hV1; have hb0 := nhb0; clear nhb0
  obtain ⟨r1, hr1⟩ : ∃ o_o : Int, lwx ax ay bx b_y = o_o := ⟨_, rfl⟩
  have Hr1 := Lib.hid hr1; clear hr1
  obtain ⟨r2, hr2⟩ : ∃ o_o : Int, lwy ax ay bx b_y = o_o := ⟨_, rfl⟩
  have Hr2 := Lib.hid hr2; clear hr2
  obtain ⟨r3, hr3⟩ : ∃ o_o : Int, hgx ax ay bx b_y = o_o := ⟨_, rfl⟩
  have Hr3 := Lib.hid hr3; clear hr3
  obtain ⟨r4, hr4⟩ : ∃ o_o : Int, hgy ax ay bx b_y = o_o := ⟨_, rfl⟩
  have Hr4 := Lib.hid hr4; clear hr4
  refine (Ends_is ax ay bx b_y r1 r2 r3 r4 Hr1.out Hr2.out Hr3.out Hr4.out _iax _iay _ibx _ib_y  _).mono ?_
  rintro e U2 ⟨rfl, hn⟩
  clear k1; replace k2 := k2.of hn; replace k3 := k3.of hn
  replace hb0 := hb0.trans (hn.mono hb0.size)
  clear hn; have c2_0 : U2.cell? ⟨w.heap.size + 1, 0, none⟩ = some (.int .i64 cx) := k2.cell 0; have c2_1 : U2.cell? ⟨w.heap.size + 1, 1, none⟩ = some (.int .i64 cy) := k2.cell 1; have c2_2 : U2.cell? ⟨w.heap.size + 1, 2, none⟩ = some (.int .i64 dx) := k2.cell 2; have c2_3 : U2.cell? ⟨w.heap.size + 1, 3, none⟩ = some (.int .i64 dy) := k2.cell 3; have l2 := k2.lt
  have l2_0 : w.heap.size < U2.heap.size := by have := k2.lt; omega
  go_wp2_with fail
  clear c2_0 c2_1 c2_2 c2_3 l2 l2_0
  first | refine calls_w ?_ | refine name_world ?_ | refine list_world ?_ | refine post_world ?_
  intro V3 hV3
  clear k2; have D1 := Lib.hid k3.lt; have D2 := Lib.hid hb0.size
  have hn : Below U2.heap.size U2 V3 := by rw [hV3]; exact below_a2 _ _ _
  have nk3 := k3.of hn
  have nhb0 := hb0.trans (hn.mono hb0.size)
  clear hn
  have k4 : Blk V3 U2.heap.size #[.int .i64 r1, .int .i64 r2] 44 := by rw [hV3]; exact ((Blk.new _ _ _).alloc _)
  have k5 : Blk V3 (U2.heap.size + 1) #[.int .i64 r3, .int .i64 r4] 44 := by rw [hV3]; exact (Blk.new1 _ _ _ _)
  clear k3; clear hb0; clear hV3; have k3 := nk3; clear nk3; have hb0 := nhb0; clear nhb0
  obtain ⟨r5, hr5⟩ : ∃ o_o : Int, lwx cx cy dx dy = o_o := ⟨_, rfl⟩
  have Hr5 := Lib.hid hr5; clear hr5
  obtain ⟨r6, hr6⟩ : ∃ o_o : Int, lwy cx cy dx dy = o_o := ⟨_, rfl⟩
  have Hr6 := Lib.hid hr6; clear hr6
  obtain ⟨r7, hr7⟩ : ∃ o_o : Int, hgx cx cy dx dy = o_o := ⟨_, rfl⟩
  have Hr7 := Lib.hid hr7; clear hr7
  obtain ⟨r8, hr8⟩ : ∃ o_o : Int, hgy cx cy dx dy = o_o := ⟨_, rfl⟩
  have Hr8 := Lib.hid hr8; clear hr8
  refine (Ends_is cx cy dx dy r5 r6 r7 r8 Hr5.out Hr6.out Hr7.out Hr8.out _icx _icy _idx _idy  _).mono ?_
  rintro e U4 ⟨rfl, hn⟩
  replace k3 := k3.of hn; replace k4 := k4.of hn; replace k5 := k5.of hn
  replace hb0 := hb0.trans (hn.mono hb0.size)
  clear hn
  go_wp2_with fail
  first | refine calls_w ?_ | refine name_world ?_ | refine list_world ?_ | refine post_world ?_
  intro V5 hV5
  have D3 := Lib.hid k3.lt; have D4 := Lib.hid k4.lt; have D5 := Lib.hid k5.lt; have D6 := Lib.hid hb0.size
  have hn : Below U4.heap.size U4 V5 := by rw [hV5]; exact below_a2 _ _ _
  have nk3 := k3.of hn; have nk4 := k4.of hn; have nk5 := k5.of hn
  have nhb0 := hb0.trans (hn.mono hb0.size)
  clear hn
  have k6 : Blk V5 U4.heap.size #[.int .i64 r5, .int .i64 r6] 44 := by rw [hV5]; exact ((Blk.new _ _ _).alloc _)
  have k7 : Blk V5 (U4.heap.size + 1) #[.int .i64 r7, .int .i64 r8] 44 := by rw [hV5]; exact (Blk.new1 _ _ _ _)
  clear k3 k4 k5; clear hb0; clear hV5; have k3 := nk3; clear nk3; have k4 := nk4; clear nk4; have k5 := nk5; clear nk5; have hb0 := nhb0; clear nhb0; have c4_0 : V5.cell? ⟨U2.heap.size, 0, none⟩ = some (.int .i64 r1) := k4.cell 0; have c4_1 : V5.cell? ⟨U2.heap.size, 1, none⟩ = some (.int .i64 r2) := k4.cell 1; have l4 := k4.lt; have c5_0 : V5.cell? ⟨(U2.heap.size + 1), 0, none⟩ = some (.int .i64 r3) := k5.cell 0; have c5_1 : V5.cell? ⟨(U2.heap.size + 1), 1, none⟩ = some (.int .i64 r4) := k5.cell 1; have l5 := k5.lt
  have l5_0 : U2.heap.size < V5.heap.size := by have := k5.lt; omega
  have Kk3 := Lib.hid k3; clear k3; have Kk4 := Lib.hid k4; clear k4; have Kk5 := Lib.hid k5; clear k5; have Kk6 := Lib.hid k6; clear k6; have Kk7 := Lib.hid k7; clear k7
  go_region
  · first | refine name_q ?_ | refine calls_w ?_ | refine name_world ?_ | refine list_world ?_ | refine post_world ?_
    intro U6 hU6
    clear c4_0 c4_1 l4 c5_0 c5_1 l5 l5_0; have D7 := Lib.hid Kk3.out.lt; have D8 := Lib.hid Kk4.out.lt; have D9 := Lib.hid Kk5.out.lt; have D10 := Lib.hid Kk6.out.lt; have D11 := Lib.hid Kk7.out.lt; have D12 := Lib.hid hb0.size
    have hn : Below V5.heap.size V5 U6 := by rw [hU6]; exact (below_a2 _ _ _).drew
    have k3 := Kk3.out.of hn; clear Kk3; have k4 := Kk4.out.of hn; clear Kk4; have k5 := Kk5.out.of hn; clear Kk5; have k6 := Kk6.out.of hn; clear Kk6; have k7 := Kk7.out.of hn; clear Kk7
    have k8 : Blk U6 V5.heap.size #[.int .i64 r1, .int .i64 r2] 44 := by rw [hU6]; exact Blk.drew ((Blk.new _ _ _).alloc _)
    have k9 : Blk U6 (V5.heap.size + 1) #[.int .i64 r3, .int .i64 r4] 44 := by rw [hU6]; exact Blk.drew (Blk.new1 _ _ _ _)
    replace hb0 := hb0.trans (hn.mono hb0.size)
    clear hn hU6; have c4_0 : U6.cell? ⟨U2.heap.size, 0, none⟩ = some (.int .i64 r1) := k4.cell 0; have c4_1 : U6.cell? ⟨U2.heap.size, 1, none⟩ = some (.int .i64 r2) := k4.cell 1; have l4 := k4.lt; have c6_0 : U6.cell? ⟨U4.heap.size, 0, none⟩ = some (.int .i64 r5) := k6.cell 0; have c6_1 : U6.cell? ⟨U4.heap.size, 1, none⟩ = some (.int .i64 r6) := k6.cell 1; have l6 := k6.lt
    go_wp2_with fail
    clear c4_0 c4_1 l4 c6_0 c6_1 l6
    obtain ⟨r9, hr9⟩ : ∃ o_o : Int, cmpP r5 r6 r1 r2 = o_o := ⟨_, rfl⟩
    have Hr9 := Lib.hid hr9; clear hr9
    refine (PtCmp_v r5 r6 r1 r2 r9 Hr9.out _).mono ?_
    rintro e U8 ⟨rfl, hn⟩
    clear k4; replace k3 := k3.of hn; replace k5 := k5.of hn; replace k6 := k6.of hn; replace k7 := k7.of hn; replace k8 := k8.of hn; replace k9 := k9.of hn
    replace hb0 := hb0.trans (hn.mono hb0.size)
    clear hn
    obtain ⟨z10, hz10⟩ : ∃ o_o : Bool, decide (0 < r9) = o_o := ⟨_, rfl⟩
    cases z10
    · have c5_0 : U8.cell? ⟨(U2.heap.size + 1), 0, none⟩ = some (.int .i64 r3) := k5.cell 0
      have c5_1 : U8.cell? ⟨(U2.heap.size + 1), 1, none⟩ = some (.int .i64 r4) := k5.cell 1; have l5 := k5.lt; have c7_0 : U8.cell? ⟨(U4.heap.size + 1), 0, none⟩ = some (.int .i64 r7) := k7.cell 0; have c7_1 : U8.cell? ⟨(U4.heap.size + 1), 1, none⟩ = some (.int .i64 r8) := k7.cell 1; have l7 := k7.lt
      go_wp2_with fail
      clear c5_0 c5_1 l5 c7_0 c7_1 l7
      obtain ⟨r11, hr11⟩ : ∃ o_o : Int, cmpP r7 r8 r3 r4 = o_o := ⟨_, rfl⟩
      have Hr11 := Lib.hid hr11; clear hr11
      refine (PtCmp_v r7 r8 r3 r4 r11 Hr11.out _).mono ?_
      rintro e U9 ⟨rfl, hn⟩
      clear k5 k6; replace k3 := k3.of hn; replace k7 := k7.of hn; replace k8 := k8.of hn; replace k9 := k9.of hn
      replace hb0 := hb0.trans (hn.mono hb0.size)
      clear hn
      obtain ⟨z12, hz12⟩ : ∃ o_o : Bool, decide (r11 < 0) = o_o := ⟨_, rfl⟩
      cases z12
      · have c8_0 : U9.cell? ⟨V5.heap.size, 0, none⟩ = some (.int .i64 r1) := k8.cell 0
        have c8_1 : U9.cell? ⟨V5.heap.size, 1, none⟩ = some (.int .i64 r2) := k8.cell 1; have l8 := k8.lt; have c9_0 : U9.cell? ⟨(V5.heap.size + 1), 0, none⟩ = some (.int .i64 r3) := k9.cell 0; have c9_1 : U9.cell? ⟨(V5.heap.size + 1), 1, none⟩ = some (.int .i64 r4) := k9.cell 1; have l9 := k9.lt
        go_wp2_with fail
        clear c8_0 c8_1 l8 c9_0 c9_1 l9
        obtain ⟨r13, hr13⟩ : ∃ o_o : Int, cmpP r1 r2 r3 r4 = o_o := ⟨_, rfl⟩
        have Hr13 := Lib.hid hr13; clear hr13
        refine (PtCmp_v r1 r2 r3 r4 r13 Hr13.out _).mono ?_
        rintro e U10 ⟨rfl, hn⟩
        clear k7 k9; replace k3 := k3.of hn; replace k8 := k8.of hn
        replace hb0 := hb0.trans (hn.mono hb0.size)
        clear hn
        obtain ⟨z14, hz14⟩ : ∃ o_o : Bool, (r13 == 0) = o_o := ⟨_, rfl⟩
        cases z14
        · have nz14 : ¬ r13 = 0 := by simpa using hz14
          obtain ⟨z15, hz15⟩ : ∃ o_o : Bool, (r13 == (-1)) = o_o := ⟨_, rfl⟩
          cases z15
          · have nz15 : ¬ r13 = (-1) := by simpa using hz15
            obtain ⟨c3_0, c3_1, c3_2, c3_3, c3_4, c3_5, c3_6, c3_7, c3_8, c3_9, c3_10, c3_11⟩ := cel12 k3; obtain ⟨f3_0, f3_1, f3_2, f3_3, f3_4, f3_5, f3_6, f3_7, f3_8, f3_9, f3_10, f3_11⟩ := fre12 k3; have l3 := k3.lt
            have e0 : 0 = R0 := by rw [← HR0.out]; unfold shk; (try rw [Hr1.out]); (try rw [Hr2.out]); (try rw [Hr3.out]); (try rw [Hr4.out]); (try rw [Hr5.out]); (try rw [Hr6.out]); (try rw [Hr7.out]); (try rw [Hr8.out]); (try rw [Hr9.out]); (try rw [hz10]); (try rw [Hr11.out]); (try rw [hz12]); (try rw [Hr13.out]); (try rw [hz14]); (try rw [hz15]); all_goals first | rfl | simp
            have e1 : 0 = R1 := by rw [← HR1.out]; unfold shx; (try rw [Hr1.out]); (try rw [Hr2.out]); (try rw [Hr3.out]); (try rw [Hr4.out]); (try rw [Hr5.out]); (try rw [Hr6.out]); (try rw [Hr7.out]); (try rw [Hr8.out]); (try rw [Hr9.out]); (try rw [hz10]); (try rw [Hr11.out]); (try rw [hz12]); (try rw [Hr13.out]); (try rw [hz14]); (try rw [hz15]); all_goals first | rfl | simp
            have e2 : 0 = R2 := by rw [← HR2.out]; unfold shy; (try rw [Hr1.out]); (try rw [Hr2.out]); (try rw [Hr3.out]); (try rw [Hr4.out]); (try rw [Hr5.out]); (try rw [Hr6.out]); (try rw [Hr7.out]); (try rw [Hr8.out]); (try rw [Hr9.out]); (try rw [hz10]); (try rw [Hr11.out]); (try rw [hz12]); (try rw [Hr13.out]); (try rw [hz14]); (try rw [hz15]); all_goals first | rfl | simp
            have e3 : 0 = R3 := by rw [← HR3.out]; unfold shw; (try rw [Hr1.out]); (try rw [Hr2.out]); (try rw [Hr3.out]); (try rw [Hr4.out]); (try rw [Hr5.out]); (try rw [Hr6.out]); (try rw [Hr7.out]); (try rw [Hr8.out]); (try rw [Hr9.out]); (try rw [hz10]); (try rw [Hr11.out]); (try rw [hz12]); (try rw [Hr13.out]); (try rw [hz14]); (try rw [hz15]); all_goals first | rfl | simp
            subst e0; subst e1; subst e2; subst e3
            go_wp2
            clear c3_0 c3_1 c3_2 c3_3 c3_4 c3_5 c3_6 c3_7 c3_8 c3_9 c3_10 c3_11 f3_0 f3_1 f3_2 f3_3 f3_4 f3_5 f3_6 f3_7 f3_8 f3_9 f3_10 f3_11 l3
            first | refine post_world ?_
            intro V11 hV11
            clear k8; have D19 := Lib.hid k3.lt; have D20 := Lib.hid hb0.size
            have nk3 : Blk V11 (w.heap.size + 1 + 1) #[.int .u64 0, .int .u64 0, .int .u64 0, .int .u64 0, .int .u64 0, .int .u64 0, .int .u64 0, .int .u64 0, .int .u64 0, .int .u64 0, .int .u64 0, .int .u64 0] 36 := by rw [hV11]; exact (blk_full _ [.int .u64 0, .int .u64 0, .int .u64 0, .int .u64 0, .int .u64 0, .int .u64 0, .int .u64 0, .int .u64 0, .int .u64 0, .int .u64 0, .int .u64 0, .int .u64 0] k3 rfl)
            have nhb0 : Below w.heap.size w V11 := by rw [hV11]; exact (blw_setL hb0 (by omega) 0 [.int .u64 0, .int .u64 0, .int .u64 0, .int .u64 0, .int .u64 0, .int .u64 0, .int .u64 0, .int .u64 0, .int .u64 0, .int .u64 0, .int .u64 0, .int .u64 0])
            clear k3; clear hb0; clear hV11; have k3 := nk3; clear nk3; have hb0 := nhb0; clear nhb0; obtain ⟨g3_0, g3_1, g3_2, g3_3, g3_4, g3_5, g3_6, g3_7, g3_8, g3_9, g3_10, g3_11⟩ := cel12 k3; clear k3
            simp [bodyPost, results, Try.results90, go_sem, g3_0, g3_1, g3_2, g3_3, g3_4, g3_5, g3_6, g3_7, g3_8, g3_9, g3_10, g3_11, wd0_0, wd1_0, wd2_0, wd3_0]
            first | exact hb0 | exact ⟨rfl, hb0⟩
          · obtain rfl : r13 = (-1) := by simpa using hz15
            clear hz15; obtain ⟨c3_0, c3_1, c3_2, c3_3, c3_4, c3_5, c3_6, c3_7, c3_8, c3_9, c3_10, c3_11⟩ := cel12 k3; obtain ⟨f3_0, f3_1, f3_2, f3_3, f3_4, f3_5, f3_6, f3_7, f3_8, f3_9, f3_10, f3_11⟩ := fre12 k3; have l3 := k3.lt
            have e0 : 2 = R0 := by rw [← HR0.out]; unfold shk; (try rw [Hr1.out]); (try rw [Hr2.out]); (try rw [Hr3.out]); (try rw [Hr4.out]); (try rw [Hr5.out]); (try rw [Hr6.out]); (try rw [Hr7.out]); (try rw [Hr8.out]); (try rw [Hr9.out]); (try rw [hz10]); (try rw [Hr11.out]); (try rw [hz12]); (try rw [Hr13.out]); (try rw [hz14]); all_goals first | rfl | simp
            have e1 : 0 = R1 := by rw [← HR1.out]; unfold shx; (try rw [Hr1.out]); (try rw [Hr2.out]); (try rw [Hr3.out]); (try rw [Hr4.out]); (try rw [Hr5.out]); (try rw [Hr6.out]); (try rw [Hr7.out]); (try rw [Hr8.out]); (try rw [Hr9.out]); (try rw [hz10]); (try rw [Hr11.out]); (try rw [hz12]); (try rw [Hr13.out]); (try rw [hz14]); all_goals first | rfl | simp
            have e2 : 0 = R2 := by rw [← HR2.out]; unfold shy; (try rw [Hr1.out]); (try rw [Hr2.out]); (try rw [Hr3.out]); (try rw [Hr4.out]); (try rw [Hr5.out]); (try rw [Hr6.out]); (try rw [Hr7.out]); (try rw [Hr8.out]); (try rw [Hr9.out]); (try rw [hz10]); (try rw [Hr11.out]); (try rw [hz12]); (try rw [Hr13.out]); (try rw [hz14]); all_goals first | rfl | simp
            have e3 : 0 = R3 := by rw [← HR3.out]; unfold shw; (try rw [Hr1.out]); (try rw [Hr2.out]); (try rw [Hr3.out]); (try rw [Hr4.out]); (try rw [Hr5.out]); (try rw [Hr6.out]); (try rw [Hr7.out]); (try rw [Hr8.out]); (try rw [Hr9.out]); (try rw [hz10]); (try rw [Hr11.out]); (try rw [hz12]); (try rw [Hr13.out]); (try rw [hz14]); all_goals first | rfl | simp
            subst e0; subst e1; subst e2; subst e3
            go_wp2
            clear c3_0 c3_1 c3_2 c3_3 c3_4 c3_5 c3_6 c3_7 c3_8 c3_9 c3_10 c3_11 f3_0 f3_1 f3_2 f3_3 f3_4 f3_5 f3_6 f3_7 f3_8 f3_9 f3_10 f3_11 l3
            first | refine post_world ?_
            intro V12 hV12
            clear k8; have D21 := Lib.hid k3.lt; have D22 := Lib.hid hb0.size
            have nk3 : Blk V12 (w.heap.size + 1 + 1) #[.int .u64 0, .int .u64 0, .int .u64 0, .int .u64 0, .int .u64 0, .int .u64 0, .int .u64 0, .int .u64 0, .int .u64 0, .int .u64 0, .int .u64 0, .int .u64 0] 36 := by rw [hV12]; exact (blk_full _ [.int .u64 0, .int .u64 0, .int .u64 0, .int .u64 0, .int .u64 0, .int .u64 0, .int .u64 0, .int .u64 0, .int .u64 0, .int .u64 0, .int .u64 0, .int .u64 0] k3 rfl)
            have nhb0 : Below w.heap.size w V12 := by rw [hV12]; exact (blw_setL hb0 (by omega) 0 [.int .u64 0, .int .u64 0, .int .u64 0, .int .u64 0, .int .u64 0, .int .u64 0, .int .u64 0, .int .u64 0, .int .u64 0, .int .u64 0, .int .u64 0, .int .u64 0])
            clear k3; clear hb0; clear hV12; have k3 := nk3; clear nk3; have hb0 := nhb0; clear nhb0; obtain ⟨g3_0, g3_1, g3_2, g3_3, g3_4, g3_5, g3_6, g3_7, g3_8, g3_9, g3_10, g3_11⟩ := cel12 k3; clear k3
            simp [bodyPost, results, Try.results90, go_sem, g3_0, g3_1, g3_2, g3_3, g3_4, g3_5, g3_6, g3_7, g3_8, g3_9, g3_10, g3_11, wd0_0, wd1_0, wd2_0, wd3_0]
            first | exact hb0 | exact ⟨rfl, hb0⟩
        · obtain rfl : r13 = 0 := by simpa using hz14
          clear hz14; have c8_0 : U10.cell? ⟨V5.heap.size, 0, none⟩ = some (.int .i64 r1) := k8.cell 0; have c8_1 : U10.cell? ⟨V5.heap.size, 1, none⟩ = some (.int .i64 r2) := k8.cell 1; have l8 := k8.lt
          go_wp2_with fail
          clear c8_0 c8_1 l8
          obtain ⟨r16, hr16⟩ : ∃ o_o : Int, atx r1 r2 = o_o := ⟨_, rfl⟩
          have Hr16 := Lib.hid hr16; clear hr16
          obtain ⟨r17, hr17⟩ : ∃ o_o : Int, aty r1 r2 = o_o := ⟨_, rfl⟩
          have Hr17 := Lib.hid hr17; clear hr17
          obtain ⟨r18, hr18⟩ : ∃ o_o : Int, atw r1 r2 = o_o := ⟨_, rfl⟩
          have Hr18 := Lib.hid hr18; clear hr18
          refine (crAt_is r1 r2 r16 r17 r18 Hr16.out Hr17.out Hr18.out (Hr1.out ▸ lwx_in ax ay bx b_y _iax _iay _ibx _ib_y) (Hr2.out ▸ lwy_in ax ay bx b_y _iax _iay _ibx _ib_y)  _).mono ?_
          rintro e U13 ⟨rfl, hn⟩
          clear k8; replace k3 := k3.of hn
          replace hb0 := hb0.trans (hn.mono hb0.size)
          clear hn; obtain ⟨c3_0, c3_1, c3_2, c3_3, c3_4, c3_5, c3_6, c3_7, c3_8, c3_9, c3_10, c3_11⟩ := cel12 k3; obtain ⟨f3_0, f3_1, f3_2, f3_3, f3_4, f3_5, f3_6, f3_7, f3_8, f3_9, f3_10, f3_11⟩ := fre12 k3; have l3 := k3.lt
          have e0 : 1 = R0 := by rw [← HR0.out]; unfold shk; (try rw [Hr1.out]); (try rw [Hr2.out]); (try rw [Hr3.out]); (try rw [Hr4.out]); (try rw [Hr5.out]); (try rw [Hr6.out]); (try rw [Hr7.out]); (try rw [Hr8.out]); (try rw [Hr9.out]); (try rw [hz10]); (try rw [Hr11.out]); (try rw [hz12]); (try rw [Hr13.out]); (try rw [Hr16.out]); (try rw [Hr17.out]); (try rw [Hr18.out]); all_goals first | rfl | simp
          have e1 : r16 = R1 := by rw [← HR1.out]; unfold shx; (try rw [Hr1.out]); (try rw [Hr2.out]); (try rw [Hr3.out]); (try rw [Hr4.out]); (try rw [Hr5.out]); (try rw [Hr6.out]); (try rw [Hr7.out]); (try rw [Hr8.out]); (try rw [Hr9.out]); (try rw [hz10]); (try rw [Hr11.out]); (try rw [hz12]); (try rw [Hr13.out]); (try rw [Hr16.out]); (try rw [Hr17.out]); (try rw [Hr18.out]); all_goals first | rfl | simp
          have e2 : r17 = R2 := by rw [← HR2.out]; unfold shy; (try rw [Hr1.out]); (try rw [Hr2.out]); (try rw [Hr3.out]); (try rw [Hr4.out]); (try rw [Hr5.out]); (try rw [Hr6.out]); (try rw [Hr7.out]); (try rw [Hr8.out]); (try rw [Hr9.out]); (try rw [hz10]); (try rw [Hr11.out]); (try rw [hz12]); (try rw [Hr13.out]); (try rw [Hr16.out]); (try rw [Hr17.out]); (try rw [Hr18.out]); all_goals first | rfl | simp
          have e3 : r18 = R3 := by rw [← HR3.out]; unfold shw; (try rw [Hr1.out]); (try rw [Hr2.out]); (try rw [Hr3.out]); (try rw [Hr4.out]); (try rw [Hr5.out]); (try rw [Hr6.out]); (try rw [Hr7.out]); (try rw [Hr8.out]); (try rw [Hr9.out]); (try rw [hz10]); (try rw [Hr11.out]); (try rw [hz12]); (try rw [Hr13.out]); (try rw [Hr16.out]); (try rw [Hr17.out]); (try rw [Hr18.out]); all_goals first | rfl | simp
          subst e0; subst e1; subst e2; subst e3
          go_wp2
          clear c3_0 c3_1 c3_2 c3_3 c3_4 c3_5 c3_6 c3_7 c3_8 c3_9 c3_10 c3_11 f3_0 f3_1 f3_2 f3_3 f3_4 f3_5 f3_6 f3_7 f3_8 f3_9 f3_10 f3_11 l3
          first | refine post_world ?_
          intro V14 hV14
          have D23 := Lib.hid k3.lt; have D24 := Lib.hid hb0.size
          have nk3 : Blk V14 (w.heap.size + 1 + 1) #[.int .u64 (wd0 r16), .int .u64 (wd1 r16), .int .u64 (wd2 r16), .int .u64 (wd3 r16), .int .u64 (wd0 r17), .int .u64 (wd1 r17), .int .u64 (wd2 r17), .int .u64 (wd3 r17), .int .u64 (wd0 r18), .int .u64 (wd1 r18), .int .u64 (wd2 r18), .int .u64 (wd3 r18)] 36 := by rw [hV14]; exact (blk_full _ [.int .u64 (wd0 r16), .int .u64 (wd1 r16), .int .u64 (wd2 r16), .int .u64 (wd3 r16), .int .u64 (wd0 r17), .int .u64 (wd1 r17), .int .u64 (wd2 r17), .int .u64 (wd3 r17), .int .u64 (wd0 r18), .int .u64 (wd1 r18), .int .u64 (wd2 r18), .int .u64 (wd3 r18)] k3 rfl)
          have nhb0 : Below w.heap.size w V14 := by rw [hV14]; exact (blw_setL hb0 (by omega) 0 [.int .u64 (wd0 r16), .int .u64 (wd1 r16), .int .u64 (wd2 r16), .int .u64 (wd3 r16), .int .u64 (wd0 r17), .int .u64 (wd1 r17), .int .u64 (wd2 r17), .int .u64 (wd3 r17), .int .u64 (wd0 r18), .int .u64 (wd1 r18), .int .u64 (wd2 r18), .int .u64 (wd3 r18)])
          clear k3; clear hb0; clear hV14; have k3 := nk3; clear nk3; have hb0 := nhb0; clear nhb0; obtain ⟨g3_0, g3_1, g3_2, g3_3, g3_4, g3_5, g3_6, g3_7, g3_8, g3_9, g3_10, g3_11⟩ := cel12 k3; clear k3
          simp [bodyPost, results, Try.results90, go_sem, g3_0, g3_1, g3_2, g3_3, g3_4, g3_5, g3_6, g3_7, g3_8, g3_9, g3_10, g3_11]
          first | exact hb0 | exact ⟨rfl, hb0⟩
      · have c7_0 : U9.cell? ⟨(U4.heap.size + 1), 0, none⟩ = some (.int .i64 r7) := k7.cell 0
        have c7_1 : U9.cell? ⟨(U4.heap.size + 1), 1, none⟩ = some (.int .i64 r8) := k7.cell 1; have l7 := k7.lt; have c8_0 : U9.cell? ⟨V5.heap.size, 0, none⟩ = some (.int .i64 r1) := k8.cell 0; have c8_1 : U9.cell? ⟨V5.heap.size, 1, none⟩ = some (.int .i64 r2) := k8.cell 1; have l8 := k8.lt; have c9_0 : U9.cell? ⟨(V5.heap.size + 1), 0, none⟩ = some (.int .i64 r3) := k9.cell 0; have c9_1 : U9.cell? ⟨(V5.heap.size + 1), 1, none⟩ = some (.int .i64 r4) := k9.cell 1; have f9_0 := k9.free 0; have f9_1 := k9.free 1; have l9 := k9.lt
        have p7_9 : (U4.heap.size + 1) ≠ (V5.heap.size + 1) := (by have := D11.out; omega)
        have p8_9 : V5.heap.size ≠ (V5.heap.size + 1) := (by omega)
        go_wp2_with fail
        clear c7_0 c7_1 l7 c8_0 c8_1 l8 c9_0 c9_1 f9_0 f9_1 l9 p7_9 p8_9
        first | refine calls_w ?_ | refine name_world ?_ | refine list_world ?_ | refine post_world ?_
        intro V15 hV15
        clear k7; have D25 := Lib.hid k3.lt; have D26 := Lib.hid k8.lt; have D27 := Lib.hid k9.lt; have D28 := Lib.hid hb0.size
        have nk3 : Blk V15 (w.heap.size + 1 + 1) #[.int .u64 0, .int .u64 0, .int .u64 0, .int .u64 0, .int .u64 0, .int .u64 0, .int .u64 0, .int .u64 0, .int .u64 0, .int .u64 0, .int .u64 0, .int .u64 0] 36 := by rw [hV15]; exact (blk_setL k3 (by have := D7.out; omega) 0 [.int .i64 r7, .int .i64 r8])
        have nk8 : Blk V15 V5.heap.size #[.int .i64 r1, .int .i64 r2] 44 := by rw [hV15]; exact (blk_setL k8 (by omega) 0 [.int .i64 r7, .int .i64 r8])
        have nk9 : Blk V15 (V5.heap.size + 1) #[.int .i64 r7, .int .i64 r8] 44 := by rw [hV15]; exact (blk_full _ [.int .i64 r7, .int .i64 r8] k9 rfl)
        have nhb0 : Below w.heap.size w V15 := by rw [hV15]; exact (blw_setL hb0 (by have := D12.out; omega) 0 [.int .i64 r7, .int .i64 r8])
        clear k3 k8 k9; clear hb0; clear hV15; have k3 := nk3; clear nk3; have k8 := nk8; clear nk8; have k9 := nk9; clear nk9; have hb0 := nhb0; clear nhb0
        obtain ⟨r19, hr19⟩ : ∃ o_o : Int, cmpP r1 r2 r7 r8 = o_o := ⟨_, rfl⟩
        have Hr19 := Lib.hid hr19; clear hr19
        refine (PtCmp_v r1 r2 r7 r8 r19 Hr19.out _).mono ?_
        rintro e U16 ⟨rfl, hn⟩
        clear k9; replace k3 := k3.of hn; replace k8 := k8.of hn
        replace hb0 := hb0.trans (hn.mono hb0.size)
        clear hn
        obtain ⟨z20, hz20⟩ : ∃ o_o : Bool, (r19 == 0) = o_o := ⟨_, rfl⟩
        cases z20
        · have nz20 : ¬ r19 = 0 := by simpa using hz20
          obtain ⟨z21, hz21⟩ : ∃ o_o : Bool, (r19 == (-1)) = o_o := ⟨_, rfl⟩
          cases z21
          · have nz21 : ¬ r19 = (-1) := by simpa using hz21
            obtain ⟨c3_0, c3_1, c3_2, c3_3, c3_4, c3_5, c3_6, c3_7, c3_8, c3_9, c3_10, c3_11⟩ := cel12 k3; obtain ⟨f3_0, f3_1, f3_2, f3_3, f3_4, f3_5, f3_6, f3_7, f3_8, f3_9, f3_10, f3_11⟩ := fre12 k3; have l3 := k3.lt
            have e0 : 0 = R0 := by rw [← HR0.out]; unfold shk; (try rw [Hr1.out]); (try rw [Hr2.out]); (try rw [Hr3.out]); (try rw [Hr4.out]); (try rw [Hr5.out]); (try rw [Hr6.out]); (try rw [Hr7.out]); (try rw [Hr8.out]); (try rw [Hr9.out]); (try rw [hz10]); (try rw [Hr11.out]); (try rw [hz12]); (try rw [Hr19.out]); (try rw [hz20]); (try rw [hz21]); all_goals first | rfl | simp
            have e1 : 0 = R1 := by rw [← HR1.out]; unfold shx; (try rw [Hr1.out]); (try rw [Hr2.out]); (try rw [Hr3.out]); (try rw [Hr4.out]); (try rw [Hr5.out]); (try rw [Hr6.out]); (try rw [Hr7.out]); (try rw [Hr8.out]); (try rw [Hr9.out]); (try rw [hz10]); (try rw [Hr11.out]); (try rw [hz12]); (try rw [Hr19.out]); (try rw [hz20]); (try rw [hz21]); all_goals first | rfl | simp
            have e2 : 0 = R2 := by rw [← HR2.out]; unfold shy; (try rw [Hr1.out]); (try rw [Hr2.out]); (try rw [Hr3.out]); (try rw [Hr4.out]); (try rw [Hr5.out]); (try rw [Hr6.out]); (try rw [Hr7.out]); (try rw [Hr8.out]); (try rw [Hr9.out]); (try rw [hz10]); (try rw [Hr11.out]); (try rw [hz12]); (try rw [Hr19.out]); (try rw [hz20]); (try rw [hz21]); all_goals first | rfl | simp
            have e3 : 0 = R3 := by rw [← HR3.out]; unfold shw; (try rw [Hr1.out]); (try rw [Hr2.out]); (try rw [Hr3.out]); (try rw [Hr4.out]); (try rw [Hr5.out]); (try rw [Hr6.out]); (try rw [Hr7.out]); (try rw [Hr8.out]); (try rw [Hr9.out]); (try rw [hz10]); (try rw [Hr11.out]); (try rw [hz12]); (try rw [Hr19.out]); (try rw [hz20]); (try rw [hz21]); all_goals first | rfl | simp
            subst e0; subst e1; subst e2; subst e3
            go_wp2
            clear c3_0 c3_1 c3_2 c3_3 c3_4 c3_5 c3_6 c3_7 c3_8 c3_9 c3_10 c3_11 f3_0 f3_1 f3_2 f3_3 f3_4 f3_5 f3_6 f3_7 f3_8 f3_9 f3_10 f3_11 l3
            first | refine post_world ?_
            intro V17 hV17
            clear k8; have D29 := Lib.hid k3.lt; have D30 := Lib.hid hb0.size
            have nk3 : Blk V17 (w.heap.size + 1 + 1) #[.int .u64 0, .int .u64 0, .int .u64 0, .int .u64 0, .int .u64 0, .int .u64 0, .int .u64 0, .int .u64 0, .int .u64 0, .int .u64 0, .int .u64 0, .int .u64 0] 36 := by rw [hV17]; exact (blk_full _ [.int .u64 0, .int .u64 0, .int .u64 0, .int .u64 0, .int .u64 0, .int .u64 0, .int .u64 0, .int .u64 0, .int .u64 0, .int .u64 0, .int .u64 0, .int .u64 0] k3 rfl)
            have nhb0 : Below w.heap.size w V17 := by rw [hV17]; exact (blw_setL hb0 (by omega) 0 [.int .u64 0, .int .u64 0, .int .u64 0, .int .u64 0, .int .u64 0, .int .u64 0, .int .u64 0, .int .u64 0, .int .u64 0, .int .u64 0, .int .u64 0, .int .u64 0])
            clear k3; clear hb0; clear hV17; have k3 := nk3; clear nk3; have hb0 := nhb0; clear nhb0; obtain ⟨g3_0, g3_1, g3_2, g3_3, g3_4, g3_5, g3_6, g3_7, g3_8, g3_9, g3_10, g3_11⟩ := cel12 k3; clear k3
            simp [bodyPost, results, Try.results90, go_sem, g3_0, g3_1, g3_2, g3_3, g3_4, g3_5, g3_6, g3_7, g3_8, g3_9, g3_10, g3_11, wd0_0, wd1_0, wd2_0, wd3_0]
            first | exact hb0 | exact ⟨rfl, hb0⟩
          · obtain rfl : r19 = (-1) := by simpa using hz21
            clear hz21; obtain ⟨c3_0, c3_1, c3_2, c3_3, c3_4, c3_5, c3_6, c3_7, c3_8, c3_9, c3_10, c3_11⟩ := cel12 k3; obtain ⟨f3_0, f3_1, f3_2, f3_3, f3_4, f3_5, f3_6, f3_7, f3_8, f3_9, f3_10, f3_11⟩ := fre12 k3; have l3 := k3.lt
            have e0 : 2 = R0 := by rw [← HR0.out]; unfold shk; (try rw [Hr1.out]); (try rw [Hr2.out]); (try rw [Hr3.out]); (try rw [Hr4.out]); (try rw [Hr5.out]); (try rw [Hr6.out]); (try rw [Hr7.out]); (try rw [Hr8.out]); (try rw [Hr9.out]); (try rw [hz10]); (try rw [Hr11.out]); (try rw [hz12]); (try rw [Hr19.out]); (try rw [hz20]); all_goals first | rfl | simp
            have e1 : 0 = R1 := by rw [← HR1.out]; unfold shx; (try rw [Hr1.out]); (try rw [Hr2.out]); (try rw [Hr3.out]); (try rw [Hr4.out]); (try rw [Hr5.out]); (try rw [Hr6.out]); (try rw [Hr7.out]); (try rw [Hr8.out]); (try rw [Hr9.out]); (try rw [hz10]); (try rw [Hr11.out]); (try rw [hz12]); (try rw [Hr19.out]); (try rw [hz20]); all_goals first | rfl | simp
            have e2 : 0 = R2 := by rw [← HR2.out]; unfold shy; (try rw [Hr1.out]); (try rw [Hr2.out]); (try rw [Hr3.out]); (try rw [Hr4.out]); (try rw [Hr5.out]); (try rw [Hr6.out]); (try rw [Hr7.out]); (try rw [Hr8.out]); (try rw [Hr9.out]); (try rw [hz10]); (try rw [Hr11.out]); (try rw [hz12]); (try rw [Hr19.out]); (try rw [hz20]); all_goals first | rfl | simp
            have e3 : 0 = R3 := by rw [← HR3.out]; unfold shw; (try rw [Hr1.out]); (try rw [Hr2.out]); (try rw [Hr3.out]); (try rw [Hr4.out]); (try rw [Hr5.out]); (try rw [Hr6.out]); (try rw [Hr7.out]); (try rw [Hr8.out]); (try rw [Hr9.out]); (try rw [hz10]); (try rw [Hr11.out]); (try rw [hz12]); (try rw [Hr19.out]); (try rw [hz20]); all_goals first | rfl | simp
            subst e0; subst e1; subst e2; subst e3
            go_wp2
            clear c3_0 c3_1 c3_2 c3_3 c3_4 c3_5 c3_6 c3_7 c3_8 c3_9 c3_10 c3_11 f3_0 f3_1 f3_2 f3_3 f3_4 f3_5 f3_6 f3_7 f3_8 f3_9 f3_10 f3_11 l3
            first | refine post_world ?_
            intro V18 hV18
            clear k8; have D31 := Lib.hid k3.lt; have D32 := Lib.hid hb0.size
            have nk3 : Blk V18 (w.heap.size + 1 + 1) #[.int .u64 0, .int .u64 0, .int .u64 0, .int .u64 0, .int .u64 0, .int .u64 0, .int .u64 0, .int .u64 0, .int .u64 0, .int .u64 0, .int .u64 0, .int .u64 0] 36 := by rw [hV18]; exact (blk_full _ [.int .u64 0, .int .u64 0, .int .u64 0, .int .u64 0, .int .u64 0, .int .u64 0, .int .u64 0, .int .u64 0, .int .u64 0, .int .u64 0, .int .u64 0, .int .u64 0] k3 rfl)
            have nhb0 : Below w.heap.size w V18 := by rw [hV18]; exact (blw_setL hb0 (by omega) 0 [.int .u64 0, .int .u64 0, .int .u64 0, .int .u64 0, .int .u64 0, .int .u64 0, .int .u64 0, .int .u64 0, .int .u64 0, .int .u64 0, .int .u64 0, .int .u64 0])
            clear k3; clear hb0; clear hV18; have k3 := nk3; clear nk3; have hb0 := nhb0; clear nhb0; obtain ⟨g3_0, g3_1, g3_2, g3_3, g3_4, g3_5, g3_6, g3_7, g3_8, g3_9, g3_10, g3_11⟩ := cel12 k3; clear k3
            simp [bodyPost, results, Try.results90, go_sem, g3_0, g3_1, g3_2, g3_3, g3_4, g3_5, g3_6, g3_7, g3_8, g3_9, g3_10, g3_11, wd0_0, wd1_0, wd2_0, wd3_0]
            first | exact hb0 | exact ⟨rfl, hb0⟩
        · obtain rfl : r19 = 0 := by simpa using hz20
          clear hz20; have c8_0 : U16.cell? ⟨V5.heap.size, 0, none⟩ = some (.int .i64 r1) := k8.cell 0; have c8_1 : U16.cell? ⟨V5.heap.size, 1, none⟩ = some (.int .i64 r2) := k8.cell 1; have l8 := k8.lt
          go_wp2_with fail
          clear c8_0 c8_1 l8
          obtain ⟨r22, hr22⟩ : ∃ o_o : Int, atx r1 r2 = o_o := ⟨_, rfl⟩
          have Hr22 := Lib.hid hr22; clear hr22
          obtain ⟨r23, hr23⟩ : ∃ o_o : Int, aty r1 r2 = o_o := ⟨_, rfl⟩
          have Hr23 := Lib.hid hr23; clear hr23
          obtain ⟨r24, hr24⟩ : ∃ o_o : Int, atw r1 r2 = o_o := ⟨_, rfl⟩
          have Hr24 := Lib.hid hr24; clear hr24
          refine (crAt_is r1 r2 r22 r23 r24 Hr22.out Hr23.out Hr24.out (Hr1.out ▸ lwx_in ax ay bx b_y _iax _iay _ibx _ib_y) (Hr2.out ▸ lwy_in ax ay bx b_y _iax _iay _ibx _ib_y)  _).mono ?_
          rintro e U19 ⟨rfl, hn⟩
          clear k8; replace k3 := k3.of hn
          replace hb0 := hb0.trans (hn.mono hb0.size)
          clear hn; obtain ⟨c3_0, c3_1, c3_2, c3_3, c3_4, c3_5, c3_6, c3_7, c3_8, c3_9, c3_10, c3_11⟩ := cel12 k3; obtain ⟨f3_0, f3_1, f3_2, f3_3, f3_4, f3_5, f3_6, f3_7, f3_8, f3_9, f3_10, f3_11⟩ := fre12 k3; have l3 := k3.lt
          have e0 : 1 = R0 := by rw [← HR0.out]; unfold shk; (try rw [Hr1.out]); (try rw [Hr2.out]); (try rw [Hr3.out]); (try rw [Hr4.out]); (try rw [Hr5.out]); (try rw [Hr6.out]); (try rw [Hr7.out]); (try rw [Hr8.out]); (try rw [Hr9.out]); (try rw [hz10]); (try rw [Hr11.out]); (try rw [hz12]); (try rw [Hr19.out]); (try rw [Hr22.out]); (try rw [Hr23.out]); (try rw [Hr24.out]); all_goals first | rfl | simp
          have e1 : r22 = R1 := by rw [← HR1.out]; unfold shx; (try rw [Hr1.out]); (try rw [Hr2.out]); (try rw [Hr3.out]); (try rw [Hr4.out]); (try rw [Hr5.out]); (try rw [Hr6.out]); (try rw [Hr7.out]); (try rw [Hr8.out]); (try rw [Hr9.out]); (try rw [hz10]); (try rw [Hr11.out]); (try rw [hz12]); (try rw [Hr19.out]); (try rw [Hr22.out]); (try rw [Hr23.out]); (try rw [Hr24.out]); all_goals first | rfl | simp
          have e2 : r23 = R2 := by rw [← HR2.out]; unfold shy; (try rw [Hr1.out]); (try rw [Hr2.out]); (try rw [Hr3.out]); (try rw [Hr4.out]); (try rw [Hr5.out]); (try rw [Hr6.out]); (try rw [Hr7.out]); (try rw [Hr8.out]); (try rw [Hr9.out]); (try rw [hz10]); (try rw [Hr11.out]); (try rw [hz12]); (try rw [Hr19.out]); (try rw [Hr22.out]); (try rw [Hr23.out]); (try rw [Hr24.out]); all_goals first | rfl | simp
          have e3 : r24 = R3 := by rw [← HR3.out]; unfold shw; (try rw [Hr1.out]); (try rw [Hr2.out]); (try rw [Hr3.out]); (try rw [Hr4.out]); (try rw [Hr5.out]); (try rw [Hr6.out]); (try rw [Hr7.out]); (try rw [Hr8.out]); (try rw [Hr9.out]); (try rw [hz10]); (try rw [Hr11.out]); (try rw [hz12]); (try rw [Hr19.out]); (try rw [Hr22.out]); (try rw [Hr23.out]); (try rw [Hr24.out]); all_goals first | rfl | simp
          subst e0; subst e1; subst e2; subst e3
          go_wp2
          clear c3_0 c3_1 c3_2 c3_3 c3_4 c3_5 c3_6 c3_7 c3_8 c3_9 c3_10 c3_11 f3_0 f3_1 f3_2 f3_3 f3_4 f3_5 f3_6 f3_7 f3_8 f3_9 f3_10 f3_11 l3
          first | refine post_world ?_
          intro V20 hV20
          have D33 := Lib.hid k3.lt; have D34 := Lib.hid hb0.size
          have nk3 : Blk V20 (w.heap.size + 1 + 1) #[.int .u64 (wd0 r22), .int .u64 (wd1 r22), .int .u64 (wd2 r22), .int .u64 (wd3 r22), .int .u64 (wd0 r23), .int .u64 (wd1 r23), .int .u64 (wd2 r23), .int .u64 (wd3 r23), .int .u64 (wd0 r24), .int .u64 (wd1 r24), .int .u64 (wd2 r24), .int .u64 (wd3 r24)] 36 := by rw [hV20]; exact (blk_full _ [.int .u64 (wd0 r22), .int .u64 (wd1 r22), .int .u64 (wd2 r22), .int .u64 (wd3 r22), .int .u64 (wd0 r23), .int .u64 (wd1 r23), .int .u64 (wd2 r23), .int .u64 (wd3 r23), .int .u64 (wd0 r24), .int .u64 (wd1 r24), .int .u64 (wd2 r24), .int .u64 (wd3 r24)] k3 rfl)
          have nhb0 : Below w.heap.size w V20 := by rw [hV20]; exact (blw_setL hb0 (by omega) 0 [.int .u64 (wd0 r22), .int .u64 (wd1 r22), .int .u64 (wd2 r22), .int .u64 (wd3 r22), .int .u64 (wd0 r23), .int .u64 (wd1 r23), .int .u64 (wd2 r23), .int .u64 (wd3 r23), .int .u64 (wd0 r24), .int .u64 (wd1 r24), .int .u64 (wd2 r24), .int .u64 (wd3 r24)])
          clear k3; clear hb0; clear hV20; have k3 := nk3; clear nk3; have hb0 := nhb0; clear nhb0; obtain ⟨g3_0, g3_1, g3_2, g3_3, g3_4, g3_5, g3_6, g3_7, g3_8, g3_9, g3_10, g3_11⟩ := cel12 k3; clear k3
          simp [bodyPost, results, Try.results90, go_sem, g3_0, g3_1, g3_2, g3_3, g3_4, g3_5, g3_6, g3_7, g3_8, g3_9, g3_10, g3_11]
          first | exact hb0 | exact ⟨rfl, hb0⟩
    · have c5_0 : U8.cell? ⟨(U2.heap.size + 1), 0, none⟩ = some (.int .i64 r3) := k5.cell 0
      have c5_1 : U8.cell? ⟨(U2.heap.size + 1), 1, none⟩ = some (.int .i64 r4) := k5.cell 1; have l5 := k5.lt; have c6_0 : U8.cell? ⟨U4.heap.size, 0, none⟩ = some (.int .i64 r5) := k6.cell 0; have c6_1 : U8.cell? ⟨U4.heap.size, 1, none⟩ = some (.int .i64 r6) := k6.cell 1; have l6 := k6.lt; have c7_0 : U8.cell? ⟨(U4.heap.size + 1), 0, none⟩ = some (.int .i64 r7) := k7.cell 0; have c7_1 : U8.cell? ⟨(U4.heap.size + 1), 1, none⟩ = some (.int .i64 r8) := k7.cell 1; have l7 := k7.lt; have c8_0 : U8.cell? ⟨V5.heap.size, 0, none⟩ = some (.int .i64 r1) := k8.cell 0
      have c8_1 : U8.cell? ⟨V5.heap.size, 1, none⟩ = some (.int .i64 r2) := k8.cell 1; have f8_0 := k8.free 0; have f8_1 := k8.free 1; have l8 := k8.lt
      have p5_8 : (U2.heap.size + 1) ≠ V5.heap.size := (by have := D9.out; omega)
      have p6_8 : U4.heap.size ≠ V5.heap.size := (by have := D10.out; omega)
      have p7_8 : (U4.heap.size + 1) ≠ V5.heap.size := (by have := D11.out; omega)
      go_wp2_with fail
      clear c5_0 c5_1 l5 c6_0 c6_1 l6 c7_0 c7_1 l7 c8_0 c8_1 f8_0 f8_1 l8 p5_8 p6_8 p7_8
      first | refine calls_w ?_ | refine name_world ?_ | refine list_world ?_ | refine post_world ?_
      intro V21 hV21
      clear k5 k6; have D35 := Lib.hid k3.lt; have D36 := Lib.hid k7.lt; have D37 := Lib.hid k8.lt; have D38 := Lib.hid k9.lt; have D39 := Lib.hid hb0.size
      have nk3 : Blk V21 (w.heap.size + 1 + 1) #[.int .u64 0, .int .u64 0, .int .u64 0, .int .u64 0, .int .u64 0, .int .u64 0, .int .u64 0, .int .u64 0, .int .u64 0, .int .u64 0, .int .u64 0, .int .u64 0] 36 := by rw [hV21]; exact (blk_setL k3 (by have := D7.out; omega) 0 [.int .i64 r5, .int .i64 r6])
      have nk7 : Blk V21 (U4.heap.size + 1) #[.int .i64 r7, .int .i64 r8] 44 := by rw [hV21]; exact (blk_setL k7 (by have := D11.out; omega) 0 [.int .i64 r5, .int .i64 r6])
      have nk8 : Blk V21 V5.heap.size #[.int .i64 r5, .int .i64 r6] 44 := by rw [hV21]; exact (blk_full _ [.int .i64 r5, .int .i64 r6] k8 rfl)
      have nk9 : Blk V21 (V5.heap.size + 1) #[.int .i64 r3, .int .i64 r4] 44 := by rw [hV21]; exact (blk_setL k9 (by omega) 0 [.int .i64 r5, .int .i64 r6])
      have nhb0 : Below w.heap.size w V21 := by rw [hV21]; exact (blw_setL hb0 (by have := D12.out; omega) 0 [.int .i64 r5, .int .i64 r6])
      clear k3 k7 k8 k9; clear hb0; clear hV21; have k3 := nk3; clear nk3; have k7 := nk7; clear nk7; have k8 := nk8; clear nk8; have k9 := nk9; clear nk9; have hb0 := nhb0; clear nhb0
      obtain ⟨r25, hr25⟩ : ∃ o_o : Int, cmpP r7 r8 r3 r4 = o_o := ⟨_, rfl⟩
      have Hr25 := Lib.hid hr25; clear hr25
      refine (PtCmp_v r7 r8 r3 r4 r25 Hr25.out _).mono ?_
      rintro e U22 ⟨rfl, hn⟩
      replace k3 := k3.of hn; replace k7 := k7.of hn; replace k8 := k8.of hn; replace k9 := k9.of hn
      replace hb0 := hb0.trans (hn.mono hb0.size)
      clear hn
      obtain ⟨z26, hz26⟩ : ∃ o_o : Bool, decide (r25 < 0) = o_o := ⟨_, rfl⟩
      cases z26
      · have c8_0 : U22.cell? ⟨V5.heap.size, 0, none⟩ = some (.int .i64 r5) := k8.cell 0
        have c8_1 : U22.cell? ⟨V5.heap.size, 1, none⟩ = some (.int .i64 r6) := k8.cell 1; have l8 := k8.lt; have c9_0 : U22.cell? ⟨(V5.heap.size + 1), 0, none⟩ = some (.int .i64 r3) := k9.cell 0; have c9_1 : U22.cell? ⟨(V5.heap.size + 1), 1, none⟩ = some (.int .i64 r4) := k9.cell 1; have l9 := k9.lt
        go_wp2_with fail
        clear c8_0 c8_1 l8 c9_0 c9_1 l9
        obtain ⟨r27, hr27⟩ : ∃ o_o : Int, cmpP r5 r6 r3 r4 = o_o := ⟨_, rfl⟩
        have Hr27 := Lib.hid hr27; clear hr27
        refine (PtCmp_v r5 r6 r3 r4 r27 Hr27.out _).mono ?_
        rintro e U23 ⟨rfl, hn⟩
        clear k7 k9; replace k3 := k3.of hn; replace k8 := k8.of hn
        replace hb0 := hb0.trans (hn.mono hb0.size)
        clear hn
        obtain ⟨z28, hz28⟩ : ∃ o_o : Bool, (r27 == 0) = o_o := ⟨_, rfl⟩
        cases z28
        · have nz28 : ¬ r27 = 0 := by simpa using hz28
          obtain ⟨z29, hz29⟩ : ∃ o_o : Bool, (r27 == (-1)) = o_o := ⟨_, rfl⟩
          cases z29
          · have nz29 : ¬ r27 = (-1) := by simpa using hz29
            obtain ⟨c3_0, c3_1, c3_2, c3_3, c3_4, c3_5, c3_6, c3_7, c3_8, c3_9, c3_10, c3_11⟩ := cel12 k3; obtain ⟨f3_0, f3_1, f3_2, f3_3, f3_4, f3_5, f3_6, f3_7, f3_8, f3_9, f3_10, f3_11⟩ := fre12 k3; have l3 := k3.lt
            have e0 : 0 = R0 := by rw [← HR0.out]; unfold shk; (try rw [Hr1.out]); (try rw [Hr2.out]); (try rw [Hr3.out]); (try rw [Hr4.out]); (try rw [Hr5.out]); (try rw [Hr6.out]); (try rw [Hr7.out]); (try rw [Hr8.out]); (try rw [Hr9.out]); (try rw [hz10]); (try rw [Hr25.out]); (try rw [hz26]); (try rw [Hr27.out]); (try rw [hz28]); (try rw [hz29]); all_goals first | rfl | simp
            have e1 : 0 = R1 := by rw [← HR1.out]; unfold shx; (try rw [Hr1.out]); (try rw [Hr2.out]); (try rw [Hr3.out]); (try rw [Hr4.out]); (try rw [Hr5.out]); (try rw [Hr6.out]); (try rw [Hr7.out]); (try rw [Hr8.out]); (try rw [Hr9.out]); (try rw [hz10]); (try rw [Hr25.out]); (try rw [hz26]); (try rw [Hr27.out]); (try rw [hz28]); (try rw [hz29]); all_goals first | rfl | simp
            have e2 : 0 = R2 := by rw [← HR2.out]; unfold shy; (try rw [Hr1.out]); (try rw [Hr2.out]); (try rw [Hr3.out]); (try rw [Hr4.out]); (try rw [Hr5.out]); (try rw [Hr6.out]); (try rw [Hr7.out]); (try rw [Hr8.out]); (try rw [Hr9.out]); (try rw [hz10]); (try rw [Hr25.out]); (try rw [hz26]); (try rw [Hr27.out]); (try rw [hz28]); (try rw [hz29]); all_goals first | rfl | simp
            have e3 : 0 = R3 := by rw [← HR3.out]; unfold shw; (try rw [Hr1.out]); (try rw [Hr2.out]); (try rw [Hr3.out]); (try rw [Hr4.out]); (try rw [Hr5.out]); (try rw [Hr6.out]); (try rw [Hr7.out]); (try rw [Hr8.out]); (try rw [Hr9.out]); (try rw [hz10]); (try rw [Hr25.out]); (try rw [hz26]); (try rw [Hr27.out]); (try rw [hz28]); (try rw [hz29]); all_goals first | rfl | simp
            subst e0; subst e1; subst e2; subst e3
            go_wp2
            clear c3_0 c3_1 c3_2 c3_3 c3_4 c3_5 c3_6 c3_7 c3_8 c3_9 c3_10 c3_11 f3_0 f3_1 f3_2 f3_3 f3_4 f3_5 f3_6 f3_7 f3_8 f3_9 f3_10 f3_11 l3
            first | refine post_world ?_
            intro V24 hV24
            clear k8; have D40 := Lib.hid k3.lt; have D41 := Lib.hid hb0.size
            have nk3 : Blk V24 (w.heap.size + 1 + 1) #[.int .u64 0, .int .u64 0, .int .u64 0, .int .u64 0, .int .u64 0, .int .u64 0, .int .u64 0, .int .u64 0, .int .u64 0, .int .u64 0, .int .u64 0, .int .u64 0] 36 := by rw [hV24]; exact (blk_full _ [.int .u64 0, .int .u64 0, .int .u64 0, .int .u64 0, .int .u64 0, .int .u64 0, .int .u64 0, .int .u64 0, .int .u64 0, .int .u64 0, .int .u64 0, .int .u64 0] k3 rfl)
            have nhb0 : Below w.heap.size w V24 := by rw [hV24]; exact (blw_setL hb0 (by omega) 0 [.int .u64 0, .int .u64 0, .int .u64 0, .int .u64 0, .int .u64 0, .int .u64 0, .int .u64 0, .int .u64 0, .int .u64 0, .int .u64 0, .int .u64 0, .int .u64 0])
            clear k3; clear hb0; clear hV24; have k3 := nk3; clear nk3; have hb0 := nhb0; clear nhb0; obtain ⟨g3_0, g3_1, g3_2, g3_3, g3_4, g3_5, g3_6, g3_7, g3_8, g3_9, g3_10, g3_11⟩ := cel12 k3; clear k3
            simp [bodyPost, results, Try.results90, go_sem, g3_0, g3_1, g3_2, g3_3, g3_4, g3_5, g3_6, g3_7, g3_8, g3_9, g3_10, g3_11, wd0_0, wd1_0, wd2_0, wd3_0]
            first | exact hb0 | exact ⟨rfl, hb0⟩
          · obtain rfl : r27 = (-1) := by simpa using hz29
            clear hz29; obtain ⟨c3_0, c3_1, c3_2, c3_3, c3_4, c3_5, c3_6, c3_7, c3_8, c3_9, c3_10, c3_11⟩ := cel12 k3; obtain ⟨f3_0, f3_1, f3_2, f3_3, f3_4, f3_5, f3_6, f3_7, f3_8, f3_9, f3_10, f3_11⟩ := fre12 k3; have l3 := k3.lt
            have e0 : 2 = R0 := by rw [← HR0.out]; unfold shk; (try rw [Hr1.out]); (try rw [Hr2.out]); (try rw [Hr3.out]); (try rw [Hr4.out]); (try rw [Hr5.out]); (try rw [Hr6.out]); (try rw [Hr7.out]); (try rw [Hr8.out]); (try rw [Hr9.out]); (try rw [hz10]); (try rw [Hr25.out]); (try rw [hz26]); (try rw [Hr27.out]); (try rw [hz28]); all_goals first | rfl | simp
            have e1 : 0 = R1 := by rw [← HR1.out]; unfold shx; (try rw [Hr1.out]); (try rw [Hr2.out]); (try rw [Hr3.out]); (try rw [Hr4.out]); (try rw [Hr5.out]); (try rw [Hr6.out]); (try rw [Hr7.out]); (try rw [Hr8.out]); (try rw [Hr9.out]); (try rw [hz10]); (try rw [Hr25.out]); (try rw [hz26]); (try rw [Hr27.out]); (try rw [hz28]); all_goals first | rfl | simp
            have e2 : 0 = R2 := by rw [← HR2.out]; unfold shy; (try rw [Hr1.out]); (try rw [Hr2.out]); (try rw [Hr3.out]); (try rw [Hr4.out]); (try rw [Hr5.out]); (try rw [Hr6.out]); (try rw [Hr7.out]); (try rw [Hr8.out]); (try rw [Hr9.out]); (try rw [hz10]); (try rw [Hr25.out]); (try rw [hz26]); (try rw [Hr27.out]); (try rw [hz28]); all_goals first | rfl | simp
            have e3 : 0 = R3 := by rw [← HR3.out]; unfold shw; (try rw [Hr1.out]); (try rw [Hr2.out]); (try rw [Hr3.out]); (try rw [Hr4.out]); (try rw [Hr5.out]); (try rw [Hr6.out]); (try rw [Hr7.out]); (try rw [Hr8.out]); (try rw [Hr9.out]); (try rw [hz10]); (try rw [Hr25.out]); (try rw [hz26]); (try rw [Hr27.out]); (try rw [hz28]); all_goals first | rfl | simp
            subst e0; subst e1; subst e2; subst e3
            go_wp2
            clear c3_0 c3_1 c3_2 c3_3 c3_4 c3_5 c3_6 c3_7 c3_8 c3_9 c3_10 c3_11 f3_0 f3_1 f3_2 f3_3 f3_4 f3_5 f3_6 f3_7 f3_8 f3_9 f3_10 f3_11 l3
            first | refine post_world ?_
            intro V25 hV25
            clear k8; have D42 := Lib.hid k3.lt; have D43 := Lib.hid hb0.size
            have nk3 : Blk V25 (w.heap.size + 1 + 1) #[.int .u64 0, .int .u64 0, .int .u64 0, .int .u64 0, .int .u64 0, .int .u64 0, .int .u64 0, .int .u64 0, .int .u64 0, .int .u64 0, .int .u64 0, .int .u64 0] 36 := by rw [hV25]; exact (blk_full _ [.int .u64 0, .int .u64 0, .int .u64 0, .int .u64 0, .int .u64 0, .int .u64 0, .int .u64 0, .int .u64 0, .int .u64 0, .int .u64 0, .int .u64 0, .int .u64 0] k3 rfl)
            have nhb0 : Below w.heap.size w V25 := by rw [hV25]; exact (blw_setL hb0 (by omega) 0 [.int .u64 0, .int .u64 0, .int .u64 0, .int .u64 0, .int .u64 0, .int .u64 0, .int .u64 0, .int .u64 0, .int .u64 0, .int .u64 0, .int .u64 0, .int .u64 0])
            clear k3; clear hb0; clear hV25; have k3 := nk3; clear nk3; have hb0 := nhb0; clear nhb0; obtain ⟨g3_0, g3_1, g3_2, g3_3, g3_4, g3_5, g3_6, g3_7, g3_8, g3_9, g3_10, g3_11⟩ := cel12 k3; clear k3
            simp [bodyPost, results, Try.results90, go_sem, g3_0, g3_1, g3_2, g3_3, g3_4, g3_5, g3_6, g3_7, g3_8, g3_9, g3_10, g3_11, wd0_0, wd1_0, wd2_0, wd3_0]
            first | exact hb0 | exact ⟨rfl, hb0⟩
        · obtain rfl : r27 = 0 := by simpa using hz28
          clear hz28; have c8_0 : U23.cell? ⟨V5.heap.size, 0, none⟩ = some (.int .i64 r5) := k8.cell 0; have c8_1 : U23.cell? ⟨V5.heap.size, 1, none⟩ = some (.int .i64 r6) := k8.cell 1; have l8 := k8.lt
          go_wp2_with fail
          clear c8_0 c8_1 l8
          obtain ⟨r30, hr30⟩ : ∃ o_o : Int, atx r5 r6 = o_o := ⟨_, rfl⟩
          have Hr30 := Lib.hid hr30; clear hr30
          obtain ⟨r31, hr31⟩ : ∃ o_o : Int, aty r5 r6 = o_o := ⟨_, rfl⟩
          have Hr31 := Lib.hid hr31; clear hr31
          obtain ⟨r32, hr32⟩ : ∃ o_o : Int, atw r5 r6 = o_o := ⟨_, rfl⟩
          have Hr32 := Lib.hid hr32; clear hr32
          refine (crAt_is r5 r6 r30 r31 r32 Hr30.out Hr31.out Hr32.out (Hr5.out ▸ lwx_in cx cy dx dy _icx _icy _idx _idy) (Hr6.out ▸ lwy_in cx cy dx dy _icx _icy _idx _idy)  _).mono ?_
          rintro e U26 ⟨rfl, hn⟩
          clear k8; replace k3 := k3.of hn
          replace hb0 := hb0.trans (hn.mono hb0.size)
          clear hn; obtain ⟨c3_0, c3_1, c3_2, c3_3, c3_4, c3_5, c3_6, c3_7, c3_8, c3_9, c3_10, c3_11⟩ := cel12 k3; obtain ⟨f3_0, f3_1, f3_2, f3_3, f3_4, f3_5, f3_6, f3_7, f3_8, f3_9, f3_10, f3_11⟩ := fre12 k3; have l3 := k3.lt
          have e0 : 1 = R0 := by rw [← HR0.out]; unfold shk; (try rw [Hr1.out]); (try rw [Hr2.out]); (try rw [Hr3.out]); (try rw [Hr4.out]); (try rw [Hr5.out]); (try rw [Hr6.out]); (try rw [Hr7.out]); (try rw [Hr8.out]); (try rw [Hr9.out]); (try rw [hz10]); (try rw [Hr25.out]); (try rw [hz26]); (try rw [Hr27.out]); (try rw [Hr30.out]); (try rw [Hr31.out]); (try rw [Hr32.out]); all_goals first | rfl | simp
          have e1 : r30 = R1 := by rw [← HR1.out]; unfold shx; (try rw [Hr1.out]); (try rw [Hr2.out]); (try rw [Hr3.out]); (try rw [Hr4.out]); (try rw [Hr5.out]); (try rw [Hr6.out]); (try rw [Hr7.out]); (try rw [Hr8.out]); (try rw [Hr9.out]); (try rw [hz10]); (try rw [Hr25.out]); (try rw [hz26]); (try rw [Hr27.out]); (try rw [Hr30.out]); (try rw [Hr31.out]); (try rw [Hr32.out]); all_goals first | rfl | simp
          have e2 : r31 = R2 := by rw [← HR2.out]; unfold shy; (try rw [Hr1.out]); (try rw [Hr2.out]); (try rw [Hr3.out]); (try rw [Hr4.out]); (try rw [Hr5.out]); (try rw [Hr6.out]); (try rw [Hr7.out]); (try rw [Hr8.out]); (try rw [Hr9.out]); (try rw [hz10]); (try rw [Hr25.out]); (try rw [hz26]); (try rw [Hr27.out]); (try rw [Hr30.out]); (try rw [Hr31.out]); (try rw [Hr32.out]); all_goals first | rfl | simp
          have e3 : r32 = R3 := by rw [← HR3.out]; unfold shw; (try rw [Hr1.out]); (try rw [Hr2.out]); (try rw [Hr3.out]); (try rw [Hr4.out]); (try rw [Hr5.out]); (try rw [Hr6.out]); (try rw [Hr7.out]); (try rw [Hr8.out]); (try rw [Hr9.out]); (try rw [hz10]); (try rw [Hr25.out]); (try rw [hz26]); (try rw [Hr27.out]); (try rw [Hr30.out]); (try rw [Hr31.out]); (try rw [Hr32.out]); all_goals first | rfl | simp
          subst e0; subst e1; subst e2; subst e3
          go_wp2
          clear c3_0 c3_1 c3_2 c3_3 c3_4 c3_5 c3_6 c3_7 c3_8 c3_9 c3_10 c3_11 f3_0 f3_1 f3_2 f3_3 f3_4 f3_5 f3_6 f3_7 f3_8 f3_9 f3_10 f3_11 l3
          first | refine post_world ?_
          intro V27 hV27
          have D44 := Lib.hid k3.lt; have D45 := Lib.hid hb0.size
          have nk3 : Blk V27 (w.heap.size + 1 + 1) #[.int .u64 (wd0 r30), .int .u64 (wd1 r30), .int .u64 (wd2 r30), .int .u64 (wd3 r30), .int .u64 (wd0 r31), .int .u64 (wd1 r31), .int .u64 (wd2 r31), .int .u64 (wd3 r31), .int .u64 (wd0 r32), .int .u64 (wd1 r32), .int .u64 (wd2 r32), .int .u64 (wd3 r32)] 36 := by rw [hV27]; exact (blk_full _ [.int .u64 (wd0 r30), .int .u64 (wd1 r30), .int .u64 (wd2 r30), .int .u64 (wd3 r30), .int .u64 (wd0 r31), .int .u64 (wd1 r31), .int .u64 (wd2 r31), .int .u64 (wd3 r31), .int .u64 (wd0 r32), .int .u64 (wd1 r32), .int .u64 (wd2 r32), .int .u64 (wd3 r32)] k3 rfl)
          have nhb0 : Below w.heap.size w V27 := by rw [hV27]; exact (blw_setL hb0 (by omega) 0 [.int .u64 (wd0 r30), .int .u64 (wd1 r30), .int .u64 (wd2 r30), .int .u64 (wd3 r30), .int .u64 (wd0 r31), .int .u64 (wd1 r31), .int .u64 (wd2 r31), .int .u64 (wd3 r31), .int .u64 (wd0 r32), .int .u64 (wd1 r32), .int .u64 (wd2 r32), .int .u64 (wd3 r32)])
          clear k3; clear hb0; clear hV27; have k3 := nk3; clear nk3; have hb0 := nhb0; clear nhb0; obtain ⟨g3_0, g3_1, g3_2, g3_3, g3_4, g3_5, g3_6, g3_7, g3_8, g3_9, g3_10, g3_11⟩ := cel12 k3; clear k3
          simp [bodyPost, results, Try.results90, go_sem, g3_0, g3_1, g3_2, g3_3, g3_4, g3_5, g3_6, g3_7, g3_8, g3_9, g3_10, g3_11]
          first | exact hb0 | exact ⟨rfl, hb0⟩
      · have c7_0 : U22.cell? ⟨(U4.heap.size + 1), 0, none⟩ = some (.int .i64 r7) := k7.cell 0
        have c7_1 : U22.cell? ⟨(U4.heap.size + 1), 1, none⟩ = some (.int .i64 r8) := k7.cell 1; have l7 := k7.lt; have c8_0 : U22.cell? ⟨V5.heap.size, 0, none⟩ = some (.int .i64 r5) := k8.cell 0; have c8_1 : U22.cell? ⟨V5.heap.size, 1, none⟩ = some (.int .i64 r6) := k8.cell 1; have l8 := k8.lt; have c9_0 : U22.cell? ⟨(V5.heap.size + 1), 0, none⟩ = some (.int .i64 r3) := k9.cell 0; have c9_1 : U22.cell? ⟨(V5.heap.size + 1), 1, none⟩ = some (.int .i64 r4) := k9.cell 1; have f9_0 := k9.free 0; have f9_1 := k9.free 1; have l9 := k9.lt
        have p7_9 : (U4.heap.size + 1) ≠ (V5.heap.size + 1) := (by have := D11.out; omega)
        have p8_9 : V5.heap.size ≠ (V5.heap.size + 1) := (by omega)
        go_wp2_with fail
        clear c7_0 c7_1 l7 c8_0 c8_1 l8 c9_0 c9_1 f9_0 f9_1 l9 p7_9 p8_9
        first | refine calls_w ?_ | refine name_world ?_ | refine list_world ?_ | refine post_world ?_
        intro V28 hV28
        clear k7; have D46 := Lib.hid k3.lt; have D47 := Lib.hid k8.lt; have D48 := Lib.hid k9.lt; have D49 := Lib.hid hb0.size
        have nk3 : Blk V28 (w.heap.size + 1 + 1) #[.int .u64 0, .int .u64 0, .int .u64 0, .int .u64 0, .int .u64 0, .int .u64 0, .int .u64 0, .int .u64 0, .int .u64 0, .int .u64 0, .int .u64 0, .int .u64 0] 36 := by rw [hV28]; exact (blk_setL k3 (by have := D7.out; omega) 0 [.int .i64 r7, .int .i64 r8])
        have nk8 : Blk V28 V5.heap.size #[.int .i64 r5, .int .i64 r6] 44 := by rw [hV28]; exact (blk_setL k8 (by omega) 0 [.int .i64 r7, .int .i64 r8])
        have nk9 : Blk V28 (V5.heap.size + 1) #[.int .i64 r7, .int .i64 r8] 44 := by rw [hV28]; exact (blk_full _ [.int .i64 r7, .int .i64 r8] k9 rfl)
        have nhb0 : Below w.heap.size w V28 := by rw [hV28]; exact (blw_setL hb0 (by have := D12.out; omega) 0 [.int .i64 r7, .int .i64 r8])
        clear k3 k8 k9; clear hb0; clear hV28; have k3 := nk3; clear nk3; have k8 := nk8; clear nk8; have k9 := nk9; clear nk9; have hb0 := nhb0; clear nhb0
        obtain ⟨r33, hr33⟩ : ∃ o_o : Int, cmpP r5 r6 r7 r8 = o_o := ⟨_, rfl⟩
        have Hr33 := Lib.hid hr33; clear hr33
        refine (PtCmp_v r5 r6 r7 r8 r33 Hr33.out _).mono ?_
        rintro e U29 ⟨rfl, hn⟩
        clear k9; replace k3 := k3.of hn; replace k8 := k8.of hn
        replace hb0 := hb0.trans (hn.mono hb0.size)
        clear hn
        obtain ⟨z34, hz34⟩ : ∃ o_o : Bool, (r33 == 0) = o_o := ⟨_, rfl⟩
        cases z34
        · have nz34 : ¬ r33 = 0 := by simpa using hz34
          obtain ⟨z35, hz35⟩ : ∃ o_o : Bool, (r33 == (-1)) = o_o := ⟨_, rfl⟩
          cases z35
          · have nz35 : ¬ r33 = (-1) := by simpa using hz35
            obtain ⟨c3_0, c3_1, c3_2, c3_3, c3_4, c3_5, c3_6, c3_7, c3_8, c3_9, c3_10, c3_11⟩ := cel12 k3; obtain ⟨f3_0, f3_1, f3_2, f3_3, f3_4, f3_5, f3_6, f3_7, f3_8, f3_9, f3_10, f3_11⟩ := fre12 k3; have l3 := k3.lt
            have e0 : 0 = R0 := by rw [← HR0.out]; unfold shk; (try rw [Hr1.out]); (try rw [Hr2.out]); (try rw [Hr3.out]); (try rw [Hr4.out]); (try rw [Hr5.out]); (try rw [Hr6.out]); (try rw [Hr7.out]); (try rw [Hr8.out]); (try rw [Hr9.out]); (try rw [hz10]); (try rw [Hr25.out]); (try rw [hz26]); (try rw [Hr33.out]); (try rw [hz34]); (try rw [hz35]); all_goals first | rfl | simp
            have e1 : 0 = R1 := by rw [← HR1.out]; unfold shx; (try rw [Hr1.out]); (try rw [Hr2.out]); (try rw [Hr3.out]); (try rw [Hr4.out]); (try rw [Hr5.out]); (try rw [Hr6.out]); (try rw [Hr7.out]); (try rw [Hr8.out]); (try rw [Hr9.out]); (try rw [hz10]); (try rw [Hr25.out]); (try rw [hz26]); (try rw [Hr33.out]); (try rw [hz34]); (try rw [hz35]); all_goals first | rfl | simp
            have e2 : 0 = R2 := by rw [← HR2.out]; unfold shy; (try rw [Hr1.out]); (try rw [Hr2.out]); (try rw [Hr3.out]); (try rw [Hr4.out]); (try rw [Hr5.out]); (try rw [Hr6.out]); (try rw [Hr7.out]); (try rw [Hr8.out]); (try rw [Hr9.out]); (try rw [hz10]); (try rw [Hr25.out]); (try rw [hz26]); (try rw [Hr33.out]); (try rw [hz34]); (try rw [hz35]); all_goals first | rfl | simp
            have e3 : 0 = R3 := by rw [← HR3.out]; unfold shw; (try rw [Hr1.out]); (try rw [Hr2.out]); (try rw [Hr3.out]); (try rw [Hr4.out]); (try rw [Hr5.out]); (try rw [Hr6.out]); (try rw [Hr7.out]); (try rw [Hr8.out]); (try rw [Hr9.out]); (try rw [hz10]); (try rw [Hr25.out]); (try rw [hz26]); (try rw [Hr33.out]); (try rw [hz34]); (try rw [hz35]); all_goals first | rfl | simp
            subst e0; subst e1; subst e2; subst e3
            go_wp2
            clear c3_0 c3_1 c3_2 c3_3 c3_4 c3_5 c3_6 c3_7 c3_8 c3_9 c3_10 c3_11 f3_0 f3_1 f3_2 f3_3 f3_4 f3_5 f3_6 f3_7 f3_8 f3_9 f3_10 f3_11 l3
            first | refine post_world ?_
            intro V30 hV30
            clear k8; have D50 := Lib.hid k3.lt; have D51 := Lib.hid hb0.size
            have nk3 : Blk V30 (w.heap.size + 1 + 1) #[.int .u64 0, .int .u64 0, .int .u64 0, .int .u64 0, .int .u64 0, .int .u64 0, .int .u64 0, .int .u64 0, .int .u64 0, .int .u64 0, .int .u64 0, .int .u64 0] 36 := by rw [hV30]; exact (blk_full _ [.int .u64 0, .int .u64 0, .int .u64 0, .int .u64 0, .int .u64 0, .int .u64 0, .int .u64 0, .int .u64 0, .int .u64 0, .int .u64 0, .int .u64 0, .int .u64 0] k3 rfl)
            have nhb0 : Below w.heap.size w V30 := by rw [hV30]; exact (blw_setL hb0 (by omega) 0 [.int .u64 0, .int .u64 0, .int .u64 0, .int .u64 0, .int .u64 0, .int .u64 0, .int .u64 0, .int .u64 0, .int .u64 0, .int .u64 0, .int .u64 0, .int .u64 0])
            clear k3; clear hb0; clear hV30; have k3 := nk3; clear nk3; have hb0 := nhb0; clear nhb0; obtain ⟨g3_0, g3_1, g3_2, g3_3, g3_4, g3_5, g3_6, g3_7, g3_8, g3_9, g3_10, g3_11⟩ := cel12 k3; clear k3
            simp [bodyPost, results, Try.results90, go_sem, g3_0, g3_1, g3_2, g3_3, g3_4, g3_5, g3_6, g3_7, g3_8, g3_9, g3_10, g3_11, wd0_0, wd1_0, wd2_0, wd3_0]
            first | exact hb0 | exact ⟨rfl, hb0⟩
          · obtain rfl : r33 = (-1) := by simpa using hz35
            clear hz35; obtain ⟨c3_0, c3_1, c3_2, c3_3, c3_4, c3_5, c3_6, c3_7, c3_8, c3_9, c3_10, c3_11⟩ := cel12 k3; obtain ⟨f3_0, f3_1, f3_2, f3_3, f3_4, f3_5, f3_6, f3_7, f3_8, f3_9, f3_10, f3_11⟩ := fre12 k3; have l3 := k3.lt
            have e0 : 2 = R0 := by rw [← HR0.out]; unfold shk; (try rw [Hr1.out]); (try rw [Hr2.out]); (try rw [Hr3.out]); (try rw [Hr4.out]); (try rw [Hr5.out]); (try rw [Hr6.out]); (try rw [Hr7.out]); (try rw [Hr8.out]); (try rw [Hr9.out]); (try rw [hz10]); (try rw [Hr25.out]); (try rw [hz26]); (try rw [Hr33.out]); (try rw [hz34]); all_goals first | rfl | simp
            have e1 : 0 = R1 := by rw [← HR1.out]; unfold shx; (try rw [Hr1.out]); (try rw [Hr2.out]); (try rw [Hr3.out]); (try rw [Hr4.out]); (try rw [Hr5.out]); (try rw [Hr6.out]); (try rw [Hr7.out]); (try rw [Hr8.out]); (try rw [Hr9.out]); (try rw [hz10]); (try rw [Hr25.out]); (try rw [hz26]); (try rw [Hr33.out]); (try rw [hz34]); all_goals first | rfl | simp
            have e2 : 0 = R2 := by rw [← HR2.out]; unfold shy; (try rw [Hr1.out]); (try rw [Hr2.out]); (try rw [Hr3.out]); (try rw [Hr4.out]); (try rw [Hr5.out]); (try rw [Hr6.out]); (try rw [Hr7.out]); (try rw [Hr8.out]); (try rw [Hr9.out]); (try rw [hz10]); (try rw [Hr25.out]); (try rw [hz26]); (try rw [Hr33.out]); (try rw [hz34]); all_goals first | rfl | simp
            have e3 : 0 = R3 := by rw [← HR3.out]; unfold shw; (try rw [Hr1.out]); (try rw [Hr2.out]); (try rw [Hr3.out]); (try rw [Hr4.out]); (try rw [Hr5.out]); (try rw [Hr6.out]); (try rw [Hr7.out]); (try rw [Hr8.out]); (try rw [Hr9.out]); (try rw [hz10]); (try rw [Hr25.out]); (try rw [hz26]); (try rw [Hr33.out]); (try rw [hz34]); all_goals first | rfl | simp
            subst e0; subst e1; subst e2; subst e3
            go_wp2
            clear c3_0 c3_1 c3_2 c3_3 c3_4 c3_5 c3_6 c3_7 c3_8 c3_9 c3_10 c3_11 f3_0 f3_1 f3_2 f3_3 f3_4 f3_5 f3_6 f3_7 f3_8 f3_9 f3_10 f3_11 l3
            first | refine post_world ?_
            intro V31 hV31
            clear k8; have D52 := Lib.hid k3.lt; have D53 := Lib.hid hb0.size
            have nk3 : Blk V31 (w.heap.size + 1 + 1) #[.int .u64 0, .int .u64 0, .int .u64 0, .int .u64 0, .int .u64 0, .int .u64 0, .int .u64 0, .int .u64 0, .int .u64 0, .int .u64 0, .int .u64 0, .int .u64 0] 36 := by rw [hV31]; exact (blk_full _ [.int .u64 0, .int .u64 0, .int .u64 0, .int .u64 0, .int .u64 0, .int .u64 0, .int .u64 0, .int .u64 0, .int .u64 0, .int .u64 0, .int .u64 0, .int .u64 0] k3 rfl)
            have nhb0 : Below w.heap.size w V31 := by rw [hV31]; exact (blw_setL hb0 (by omega) 0 [.int .u64 0, .int .u64 0, .int .u64 0, .int .u64 0, .int .u64 0, .int .u64 0, .int .u64 0, .int .u64 0, .int .u64 0, .int .u64 0, .int .u64 0, .int .u64 0])
            clear k3; clear hb0; clear hV31; have k3 := nk3; clear nk3; have hb0 := nhb0; clear nhb0; obtain ⟨g3_0, g3_1, g3_2, g3_3, g3_4, g3_5, g3_6, g3_7, g3_8, g3_9, g3_10, g3_11⟩ := cel12 k3; clear k3
            simp [bodyPost, results, Try.results90, go_sem, g3_0, g3_1, g3_2, g3_3, g3_4, g3_5, g3_6, g3_7, g3_8, g3_9, g3_10, g3_11, wd0_0, wd1_0, wd2_0, wd3_0]
            first | exact hb0 | exact ⟨rfl, hb0⟩
        · obtain rfl : r33 = 0 := by simpa using hz34
          clear hz34; have c8_0 : U29.cell? ⟨V5.heap.size, 0, none⟩ = some (.int .i64 r5) := k8.cell 0; have c8_1 : U29.cell? ⟨V5.heap.size, 1, none⟩ = some (.int .i64 r6) := k8.cell 1; have l8 := k8.lt
          go_wp2_with fail
          clear c8_0 c8_1 l8
          obtain ⟨r36, hr36⟩ : ∃ o_o : Int, atx r5 r6 = o_o := ⟨_, rfl⟩
          have Hr36 := Lib.hid hr36; clear hr36
          obtain ⟨r37, hr37⟩ : ∃ o_o : Int, aty r5 r6 = o_o := ⟨_, rfl⟩
          have Hr37 := Lib.hid hr37; clear hr37
          obtain ⟨r38, hr38⟩ : ∃ o_o : Int, atw r5 r6 = o_o := ⟨_, rfl⟩
          have Hr38 := Lib.hid hr38; clear hr38
          refine (crAt_is r5 r6 r36 r37 r38 Hr36.out Hr37.out Hr38.out (Hr5.out ▸ lwx_in cx cy dx dy _icx _icy _idx _idy) (Hr6.out ▸ lwy_in cx cy dx dy _icx _icy _idx _idy)  _).mono ?_
          rintro e U32 ⟨rfl, hn⟩
          clear k8; replace k3 := k3.of hn
          replace hb0 := hb0.trans (hn.mono hb0.size)
          clear hn; obtain ⟨c3_0, c3_1, c3_2, c3_3, c3_4, c3_5, c3_6, c3_7, c3_8, c3_9, c3_10, c3_11⟩ := cel12 k3; obtain ⟨f3_0, f3_1, f3_2, f3_3, f3_4, f3_5, f3_6, f3_7, f3_8, f3_9, f3_10, f3_11⟩ := fre12 k3; have l3 := k3.lt
          have e0 : 1 = R0 := by rw [← HR0.out]; unfold shk; (try rw [Hr1.out]); (try rw [Hr2.out]); (try rw [Hr3.out]); (try rw [Hr4.out]); (try rw [Hr5.out]); (try rw [Hr6.out]); (try rw [Hr7.out]); (try rw [Hr8.out]); (try rw [Hr9.out]); (try rw [hz10]); (try rw [Hr25.out]); (try rw [hz26]); (try rw [Hr33.out]); (try rw [Hr36.out]); (try rw [Hr37.out]); (try rw [Hr38.out]); all_goals first | rfl | simp
          have e1 : r36 = R1 := by rw [← HR1.out]; unfold shx; (try rw [Hr1.out]); (try rw [Hr2.out]); (try rw [Hr3.out]); (try rw [Hr4.out]); (try rw [Hr5.out]); (try rw [Hr6.out]); (try rw [Hr7.out]); (try rw [Hr8.out]); (try rw [Hr9.out]); (try rw [hz10]); (try rw [Hr25.out]); (try rw [hz26]); (try rw [Hr33.out]); (try rw [Hr36.out]); (try rw [Hr37.out]); (try rw [Hr38.out]); all_goals first | rfl | simp
          have e2 : r37 = R2 := by rw [← HR2.out]; unfold shy; (try rw [Hr1.out]); (try rw [Hr2.out]); (try rw [Hr3.out]); (try rw [Hr4.out]); (try rw [Hr5.out]); (try rw [Hr6.out]); (try rw [Hr7.out]); (try rw [Hr8.out]); (try rw [Hr9.out]); (try rw [hz10]); (try rw [Hr25.out]); (try rw [hz26]); (try rw [Hr33.out]); (try rw [Hr36.out]); (try rw [Hr37.out]); (try rw [Hr38.out]); all_goals first | rfl | simp
          have e3 : r38 = R3 := by rw [← HR3.out]; unfold shw; (try rw [Hr1.out]); (try rw [Hr2.out]); (try rw [Hr3.out]); (try rw [Hr4.out]); (try rw [Hr5.out]); (try rw [Hr6.out]); (try rw [Hr7.out]); (try rw [Hr8.out]); (try rw [Hr9.out]); (try rw [hz10]); (try rw [Hr25.out]); (try rw [hz26]); (try rw [Hr33.out]); (try rw [Hr36.out]); (try rw [Hr37.out]); (try rw [Hr38.out]); all_goals first | rfl | simp
          subst e0; subst e1; subst e2; subst e3
          go_wp2
          clear c3_0 c3_1 c3_2 c3_3 c3_4 c3_5 c3_6 c3_7 c3_8 c3_9 c3_10 c3_11 f3_0 f3_1 f3_2 f3_3 f3_4 f3_5 f3_6 f3_7 f3_8 f3_9 f3_10 f3_11 l3
          first | refine post_world ?_
          intro V33 hV33
          have D54 := Lib.hid k3.lt; have D55 := Lib.hid hb0.size
          have nk3 : Blk V33 (w.heap.size + 1 + 1) #[.int .u64 (wd0 r36), .int .u64 (wd1 r36), .int .u64 (wd2 r36), .int .u64 (wd3 r36), .int .u64 (wd0 r37), .int .u64 (wd1 r37), .int .u64 (wd2 r37), .int .u64 (wd3 r37), .int .u64 (wd0 r38), .int .u64 (wd1 r38), .int .u64 (wd2 r38), .int .u64 (wd3 r38)] 36 := by rw [hV33]; exact (blk_full _ [.int .u64 (wd0 r36), .int .u64 (wd1 r36), .int .u64 (wd2 r36), .int .u64 (wd3 r36), .int .u64 (wd0 r37), .int .u64 (wd1 r37), .int .u64 (wd2 r37), .int .u64 (wd3 r37), .int .u64 (wd0 r38), .int .u64 (wd1 r38), .int .u64 (wd2 r38), .int .u64 (wd3 r38)] k3 rfl)
          have nhb0 : Below w.heap.size w V33 := by rw [hV33]; exact (blw_setL hb0 (by omega) 0 [.int .u64 (wd0 r36), .int .u64 (wd1 r36), .int .u64 (wd2 r36), .int .u64 (wd3 r36), .int .u64 (wd0 r37), .int .u64 (wd1 r37), .int .u64 (wd2 r37), .int .u64 (wd3 r37), .int .u64 (wd0 r38), .int .u64 (wd1 r38), .int .u64 (wd2 r38), .int .u64 (wd3 r38)])
          clear k3; clear hb0; clear hV33; have k3 := nk3; clear nk3; have hb0 := nhb0; clear nhb0; obtain ⟨g3_0, g3_1, g3_2, g3_3, g3_4, g3_5, g3_6, g3_7, g3_8, g3_9, g3_10, g3_11⟩ := cel12 k3; clear k3
          simp [bodyPost, results, Try.results90, go_sem, g3_0, g3_1, g3_2, g3_3, g3_4, g3_5, g3_6, g3_7, g3_8, g3_9, g3_10, g3_11]
          first | exact hb0 | exact ⟨rfl, hb0⟩
  · first | refine name_q ?_ | refine calls_w ?_ | refine name_world ?_ | refine list_world ?_ | refine post_world ?_
    intro U7 hU7
    clear c4_0 c4_1 l4 c5_0 c5_1 l5 l5_0; have D13 := Lib.hid Kk3.out.lt; have D14 := Lib.hid Kk4.out.lt; have D15 := Lib.hid Kk5.out.lt; have D16 := Lib.hid Kk6.out.lt; have D17 := Lib.hid Kk7.out.lt; have D18 := Lib.hid hb0.size
    have hn : Below V5.heap.size V5 U7 := by rw [hU7]; exact (below_a2 _ _ _).drew
    have k3 := Kk3.out.of hn; clear Kk3; have k4 := Kk4.out.of hn; clear Kk4; have k5 := Kk5.out.of hn; clear Kk5; have k6 := Kk6.out.of hn; clear Kk6; have k7 := Kk7.out.of hn; clear Kk7
    have k9 : Blk U7 V5.heap.size #[.int .i64 r3, .int .i64 r4] 44 := by rw [hU7]; exact Blk.drew ((Blk.new _ _ _).alloc _)
    have k8 : Blk U7 (V5.heap.size + 1) #[.int .i64 r1, .int .i64 r2] 44 := by rw [hU7]; exact Blk.drew (Blk.new1 _ _ _ _)
    replace hb0 := hb0.trans (hn.mono hb0.size)
    clear hn hU7; have c4_0 : U7.cell? ⟨U2.heap.size, 0, none⟩ = some (.int .i64 r1) := k4.cell 0; have c4_1 : U7.cell? ⟨U2.heap.size, 1, none⟩ = some (.int .i64 r2) := k4.cell 1; have l4 := k4.lt; have c6_0 : U7.cell? ⟨U4.heap.size, 0, none⟩ = some (.int .i64 r5) := k6.cell 0; have c6_1 : U7.cell? ⟨U4.heap.size, 1, none⟩ = some (.int .i64 r6) := k6.cell 1; have l6 := k6.lt
    go_wp2_with fail
    clear c4_0 c4_1 l4 c6_0 c6_1 l6
    obtain ⟨r39, hr39⟩ : ∃ o_o : Int, cmpP r5 r6 r1 r2 = o_o := ⟨_, rfl⟩
    have Hr39 := Lib.hid hr39; clear hr39
    refine (PtCmp_v r5 r6 r1 r2 r39 Hr39.out _).mono ?_
    rintro e U34 ⟨rfl, hn⟩
    clear k4; replace k3 := k3.of hn; replace k5 := k5.of hn; replace k6 := k6.of hn; replace k7 := k7.of hn; replace k8 := k8.of hn; replace k9 := k9.of hn
    replace hb0 := hb0.trans (hn.mono hb0.size)
    clear hn
    obtain ⟨z40, hz40⟩ : ∃ o_o : Bool, decide (0 < r39) = o_o := ⟨_, rfl⟩
    cases z40
    · have c5_0 : U34.cell? ⟨(U2.heap.size + 1), 0, none⟩ = some (.int .i64 r3) := k5.cell 0
      have c5_1 : U34.cell? ⟨(U2.heap.size + 1), 1, none⟩ = some (.int .i64 r4) := k5.cell 1; have l5 := k5.lt; have c7_0 : U34.cell? ⟨(U4.heap.size + 1), 0, none⟩ = some (.int .i64 r7) := k7.cell 0; have c7_1 : U34.cell? ⟨(U4.heap.size + 1), 1, none⟩ = some (.int .i64 r8) := k7.cell 1; have l7 := k7.lt
      go_wp2_with fail
      clear c5_0 c5_1 l5 c7_0 c7_1 l7
      obtain ⟨r41, hr41⟩ : ∃ o_o : Int, cmpP r7 r8 r3 r4 = o_o := ⟨_, rfl⟩
      have Hr41 := Lib.hid hr41; clear hr41
      refine (PtCmp_v r7 r8 r3 r4 r41 Hr41.out _).mono ?_
      rintro e U35 ⟨rfl, hn⟩
      clear k5 k6; replace k3 := k3.of hn; replace k7 := k7.of hn; replace k8 := k8.of hn; replace k9 := k9.of hn
      replace hb0 := hb0.trans (hn.mono hb0.size)
      clear hn
      obtain ⟨z42, hz42⟩ : ∃ o_o : Bool, decide (r41 < 0) = o_o := ⟨_, rfl⟩
      cases z42
      · have c8_0 : U35.cell? ⟨(V5.heap.size + 1), 0, none⟩ = some (.int .i64 r1) := k8.cell 0
        have c8_1 : U35.cell? ⟨(V5.heap.size + 1), 1, none⟩ = some (.int .i64 r2) := k8.cell 1; have l8 := k8.lt; have c9_0 : U35.cell? ⟨V5.heap.size, 0, none⟩ = some (.int .i64 r3) := k9.cell 0; have c9_1 : U35.cell? ⟨V5.heap.size, 1, none⟩ = some (.int .i64 r4) := k9.cell 1; have l9 := k9.lt
        go_wp2_with fail
        clear c8_0 c8_1 l8 c9_0 c9_1 l9
        obtain ⟨r43, hr43⟩ : ∃ o_o : Int, cmpP r1 r2 r3 r4 = o_o := ⟨_, rfl⟩
        have Hr43 := Lib.hid hr43; clear hr43
        refine (PtCmp_v r1 r2 r3 r4 r43 Hr43.out _).mono ?_
        rintro e U36 ⟨rfl, hn⟩
        clear k7 k9; replace k3 := k3.of hn; replace k8 := k8.of hn
        replace hb0 := hb0.trans (hn.mono hb0.size)
        clear hn
        obtain ⟨z44, hz44⟩ : ∃ o_o : Bool, (r43 == 0) = o_o := ⟨_, rfl⟩
        cases z44
        · have nz44 : ¬ r43 = 0 := by simpa using hz44
          obtain ⟨z45, hz45⟩ : ∃ o_o : Bool, (r43 == (-1)) = o_o := ⟨_, rfl⟩
          cases z45
          · have nz45 : ¬ r43 = (-1) := by simpa using hz45
            obtain ⟨c3_0, c3_1, c3_2, c3_3, c3_4, c3_5, c3_6, c3_7, c3_8, c3_9, c3_10, c3_11⟩ := cel12 k3; obtain ⟨f3_0, f3_1, f3_2, f3_3, f3_4, f3_5, f3_6, f3_7, f3_8, f3_9, f3_10, f3_11⟩ := fre12 k3; have l3 := k3.lt
            have e0 : 0 = R0 := by rw [← HR0.out]; unfold shk; (try rw [Hr1.out]); (try rw [Hr2.out]); (try rw [Hr3.out]); (try rw [Hr4.out]); (try rw [Hr5.out]); (try rw [Hr6.out]); (try rw [Hr7.out]); (try rw [Hr8.out]); (try rw [Hr39.out]); (try rw [hz40]); (try rw [Hr41.out]); (try rw [hz42]); (try rw [Hr43.out]); (try rw [hz44]); (try rw [hz45]); all_goals first | rfl | simp
            have e1 : 0 = R1 := by rw [← HR1.out]; unfold shx; (try rw [Hr1.out]); (try rw [Hr2.out]); (try rw [Hr3.out]); (try rw [Hr4.out]); (try rw [Hr5.out]); (try rw [Hr6.out]); (try rw [Hr7.out]); (try rw [Hr8.out]); (try rw [Hr39.out]); (try rw [hz40]); (try rw [Hr41.out]); (try rw [hz42]); (try rw [Hr43.out]); (try rw [hz44]); (try rw [hz45]); all_goals first | rfl | simp
            have e2 : 0 = R2 := by rw [← HR2.out]; unfold shy; (try rw [Hr1.out]); (try rw [Hr2.out]); (try rw [Hr3.out]); (try rw [Hr4.out]); (try rw [Hr5.out]); (try rw [Hr6.out]); (try rw [Hr7.out]); (try rw [Hr8.out]); (try rw [Hr39.out]); (try rw [hz40]); (try rw [Hr41.out]); (try rw [hz42]); (try rw [Hr43.out]); (try rw [hz44]); (try rw [hz45]); all_goals first | rfl | simp
            have e3 : 0 = R3 := by rw [← HR3.out]; unfold shw; (try rw [Hr1.out]); (try rw [Hr2.out]); (try rw [Hr3.out]); (try rw [Hr4.out]); (try rw [Hr5.out]); (try rw [Hr6.out]); (try rw [Hr7.out]); (try rw [Hr8.out]); (try rw [Hr39.out]); (try rw [hz40]); (try rw [Hr41.out]); (try rw [hz42]); (try rw [Hr43.out]); (try rw [hz44]); (try rw [hz45]); all_goals first | rfl | simp
            subst e0; subst e1; subst e2; subst e3
            go_wp2
            clear c3_0 c3_1 c3_2 c3_3 c3_4 c3_5 c3_6 c3_7 c3_8 c3_9 c3_10 c3_11 f3_0 f3_1 f3_2 f3_3 f3_4 f3_5 f3_6 f3_7 f3_8 f3_9 f3_10 f3_11 l3
            first | refine post_world ?_
            intro V37 hV37
            clear k8; have D56 := Lib.hid k3.lt; have D57 := Lib.hid hb0.size
            have nk3 : Blk V37 (w.heap.size + 1 + 1) #[.int .u64 0, .int .u64 0, .int .u64 0, .int .u64 0, .int .u64 0, .int .u64 0, .int .u64 0, .int .u64 0, .int .u64 0, .int .u64 0, .int .u64 0, .int .u64 0] 36 := by rw [hV37]; exact (blk_full _ [.int .u64 0, .int .u64 0, .int .u64 0, .int .u64 0, .int .u64 0, .int .u64 0, .int .u64 0, .int .u64 0, .int .u64 0, .int .u64 0, .int .u64 0, .int .u64 0] k3 rfl)
            have nhb0 : Below w.heap.size w V37 := by rw [hV37]; exact (blw_setL hb0 (by omega) 0 [.int .u64 0, .int .u64 0, .int .u64 0, .int .u64 0, .int .u64 0, .int .u64 0, .int .u64 0, .int .u64 0, .int .u64 0, .int .u64 0, .int .u64 0, .int .u64 0])
            clear k3; clear hb0; clear hV37; have k3 := nk3; clear nk3; have hb0 := nhb0; clear nhb0; obtain ⟨g3_0, g3_1, g3_2, g3_3, g3_4, g3_5, g3_6, g3_7, g3_8, g3_9, g3_10, g3_11⟩ := cel12 k3; clear k3
            simp [bodyPost, results, Try.results90, go_sem, g3_0, g3_1, g3_2, g3_3, g3_4, g3_5, g3_6, g3_7, g3_8, g3_9, g3_10, g3_11, wd0_0, wd1_0, wd2_0, wd3_0]
            first | exact hb0 | exact ⟨rfl, hb0⟩
          · obtain rfl : r43 = (-1) := by simpa using hz45
            clear hz45; obtain ⟨c3_0, c3_1, c3_2, c3_3, c3_4, c3_5, c3_6, c3_7, c3_8, c3_9, c3_10, c3_11⟩ := cel12 k3; obtain ⟨f3_0, f3_1, f3_2, f3_3, f3_4, f3_5, f3_6, f3_7, f3_8, f3_9, f3_10, f3_11⟩ := fre12 k3; have l3 := k3.lt
            have e0 : 2 = R0 := by rw [← HR0.out]; unfold shk; (try rw [Hr1.out]); (try rw [Hr2.out]); (try rw [Hr3.out]); (try rw [Hr4.out]); (try rw [Hr5.out]); (try rw [Hr6.out]); (try rw [Hr7.out]); (try rw [Hr8.out]); (try rw [Hr39.out]); (try rw [hz40]); (try rw [Hr41.out]); (try rw [hz42]); (try rw [Hr43.out]); (try rw [hz44]); all_goals first | rfl | simp
            have e1 : 0 = R1 := by rw [← HR1.out]; unfold shx; (try rw [Hr1.out]); (try rw [Hr2.out]); (try rw [Hr3.out]); (try rw [Hr4.out]); (try rw [Hr5.out]); (try rw [Hr6.out]); (try rw [Hr7.out]); (try rw [Hr8.out]); (try rw [Hr39.out]); (try rw [hz40]); (try rw [Hr41.out]); (try rw [hz42]); (try rw [Hr43.out]); (try rw [hz44]); all_goals first | rfl | simp
            have e2 : 0 = R2 := by rw [← HR2.out]; unfold shy; (try rw [Hr1.out]); (try rw [Hr2.out]); (try rw [Hr3.out]); (try rw [Hr4.out]); (try rw [Hr5.out]); (try rw [Hr6.out]); (try rw [Hr7.out]); (try rw [Hr8.out]); (try rw [Hr39.out]); (try rw [hz40]); (try rw [Hr41.out]); (try rw [hz42]); (try rw [Hr43.out]); (try rw [hz44]); all_goals first | rfl | simp
            have e3 : 0 = R3 := by rw [← HR3.out]; unfold shw; (try rw [Hr1.out]); (try rw [Hr2.out]); (try rw [Hr3.out]); (try rw [Hr4.out]); (try rw [Hr5.out]); (try rw [Hr6.out]); (try rw [Hr7.out]); (try rw [Hr8.out]); (try rw [Hr39.out]); (try rw [hz40]); (try rw [Hr41.out]); (try rw [hz42]); (try rw [Hr43.out]); (try rw [hz44]); all_goals first | rfl | simp
            subst e0; subst e1; subst e2; subst e3
            go_wp2
            clear c3_0 c3_1 c3_2 c3_3 c3_4 c3_5 c3_6 c3_7 c3_8 c3_9 c3_10 c3_11 f3_0 f3_1 f3_2 f3_3 f3_4 f3_5 f3_6 f3_7 f3_8 f3_9 f3_10 f3_11 l3
            first | refine post_world ?_
            intro V38 hV38
            clear k8; have D58 := Lib.hid k3.lt; have D59 := Lib.hid hb0.size
            have nk3 : Blk V38 (w.heap.size + 1 + 1) #[.int .u64 0, .int .u64 0, .int .u64 0, .int .u64 0, .int .u64 0, .int .u64 0, .int .u64 0, .int .u64 0, .int .u64 0, .int .u64 0, .int .u64 0, .int .u64 0] 36 := by rw [hV38]; exact (blk_full _ [.int .u64 0, .int .u64 0, .int .u64 0, .int .u64 0, .int .u64 0, .int .u64 0, .int .u64 0, .int .u64 0, .int .u64 0, .int .u64 0, .int .u64 0, .int .u64 0] k3 rfl)
            have nhb0 : Below w.heap.size w V38 := by rw [hV38]; exact (blw_setL hb0 (by omega) 0 [.int .u64 0, .int .u64 0, .int .u64 0, .int .u64 0, .int .u64 0, .int .u64 0, .int .u64 0, .int .u64 0, .int .u64 0, .int .u64 0, .int .u64 0, .int .u64 0])
            clear k3; clear hb0; clear hV38; have k3 := nk3; clear nk3; have hb0 := nhb0; clear nhb0; obtain ⟨g3_0, g3_1, g3_2, g3_3, g3_4, g3_5, g3_6, g3_7, g3_8, g3_9, g3_10, g3_11⟩ := cel12 k3; clear k3
            simp [bodyPost, results, Try.results90, go_sem, g3_0, g3_1, g3_2, g3_3, g3_4, g3_5, g3_6, g3_7, g3_8, g3_9, g3_10, g3_11, wd0_0, wd1_0, wd2_0, wd3_0]
            first | exact hb0 | exact ⟨rfl, hb0⟩
        · obtain rfl : r43 = 0 := by simpa using hz44
          clear hz44; have c8_0 : U36.cell? ⟨(V5.heap.size + 1), 0, none⟩ = some (.int .i64 r1) := k8.cell 0; have c8_1 : U36.cell? ⟨(V5.heap.size + 1), 1, none⟩ = some (.int .i64 r2) := k8.cell 1; have l8 := k8.lt
          go_wp2_with fail
          clear c8_0 c8_1 l8
          obtain ⟨r46, hr46⟩ : ∃ o_o : Int, atx r1 r2 = o_o := ⟨_, rfl⟩
          have Hr46 := Lib.hid hr46; clear hr46
          obtain ⟨r47, hr47⟩ : ∃ o_o : Int, aty r1 r2 = o_o := ⟨_, rfl⟩
          have Hr47 := Lib.hid hr47; clear hr47
          obtain ⟨r48, hr48⟩ : ∃ o_o : Int, atw r1 r2 = o_o := ⟨_, rfl⟩
          have Hr48 := Lib.hid hr48; clear hr48
          refine (crAt_is r1 r2 r46 r47 r48 Hr46.out Hr47.out Hr48.out (Hr1.out ▸ lwx_in ax ay bx b_y _iax _iay _ibx _ib_y) (Hr2.out ▸ lwy_in ax ay bx b_y _iax _iay _ibx _ib_y)  _).mono ?_
          rintro e U39 ⟨rfl, hn⟩
          clear k8; replace k3 := k3.of hn
          replace hb0 := hb0.trans (hn.mono hb0.size)
          clear hn; obtain ⟨c3_0, c3_1, c3_2, c3_3, c3_4, c3_5, c3_6, c3_7, c3_8, c3_9, c3_10, c3_11⟩ := cel12 k3; obtain ⟨f3_0, f3_1, f3_2, f3_3, f3_4, f3_5, f3_6, f3_7, f3_8, f3_9, f3_10, f3_11⟩ := fre12 k3; have l3 := k3.lt
          have e0 : 1 = R0 := by rw [← HR0.out]; unfold shk; (try rw [Hr1.out]); (try rw [Hr2.out]); (try rw [Hr3.out]); (try rw [Hr4.out]); (try rw [Hr5.out]); (try rw [Hr6.out]); (try rw [Hr7.out]); (try rw [Hr8.out]); (try rw [Hr39.out]); (try rw [hz40]); (try rw [Hr41.out]); (try rw [hz42]); (try rw [Hr43.out]); (try rw [Hr46.out]); (try rw [Hr47.out]); (try rw [Hr48.out]); all_goals first | rfl | simp
          have e1 : r46 = R1 := by rw [← HR1.out]; unfold shx; (try rw [Hr1.out]); (try rw [Hr2.out]); (try rw [Hr3.out]); (try rw [Hr4.out]); (try rw [Hr5.out]); (try rw [Hr6.out]); (try rw [Hr7.out]); (try rw [Hr8.out]); (try rw [Hr39.out]); (try rw [hz40]); (try rw [Hr41.out]); (try rw [hz42]); (try rw [Hr43.out]); (try rw [Hr46.out]); (try rw [Hr47.out]); (try rw [Hr48.out]); all_goals first | rfl | simp
          have e2 : r47 = R2 := by rw [← HR2.out]; unfold shy; (try rw [Hr1.out]); (try rw [Hr2.out]); (try rw [Hr3.out]); (try rw [Hr4.out]); (try rw [Hr5.out]); (try rw [Hr6.out]); (try rw [Hr7.out]); (try rw [Hr8.out]); (try rw [Hr39.out]); (try rw [hz40]); (try rw [Hr41.out]); (try rw [hz42]); (try rw [Hr43.out]); (try rw [Hr46.out]); (try rw [Hr47.out]); (try rw [Hr48.out]); all_goals first | rfl | simp
          have e3 : r48 = R3 := by rw [← HR3.out]; unfold shw; (try rw [Hr1.out]); (try rw [Hr2.out]); (try rw [Hr3.out]); (try rw [Hr4.out]); (try rw [Hr5.out]); (try rw [Hr6.out]); (try rw [Hr7.out]); (try rw [Hr8.out]); (try rw [Hr39.out]); (try rw [hz40]); (try rw [Hr41.out]); (try rw [hz42]); (try rw [Hr43.out]); (try rw [Hr46.out]); (try rw [Hr47.out]); (try rw [Hr48.out]); all_goals first | rfl | simp
          subst e0; subst e1; subst e2; subst e3
          go_wp2
          clear c3_0 c3_1 c3_2 c3_3 c3_4 c3_5 c3_6 c3_7 c3_8 c3_9 c3_10 c3_11 f3_0 f3_1 f3_2 f3_3 f3_4 f3_5 f3_6 f3_7 f3_8 f3_9 f3_10 f3_11 l3
          first | refine post_world ?_
          intro V40 hV40
          have D60 := Lib.hid k3.lt; have D61 := Lib.hid hb0.size
          have nk3 : Blk V40 (w.heap.size + 1 + 1) #[.int .u64 (wd0 r46), .int .u64 (wd1 r46), .int .u64 (wd2 r46), .int .u64 (wd3 r46), .int .u64 (wd0 r47), .int .u64 (wd1 r47), .int .u64 (wd2 r47), .int .u64 (wd3 r47), .int .u64 (wd0 r48), .int .u64 (wd1 r48), .int .u64 (wd2 r48), .int .u64 (wd3 r48)] 36 := by rw [hV40]; exact (blk_full _ [.int .u64 (wd0 r46), .int .u64 (wd1 r46), .int .u64 (wd2 r46), .int .u64 (wd3 r46), .int .u64 (wd0 r47), .int .u64 (wd1 r47), .int .u64 (wd2 r47), .int .u64 (wd3 r47), .int .u64 (wd0 r48), .int .u64 (wd1 r48), .int .u64 (wd2 r48), .int .u64 (wd3 r48)] k3 rfl)
          have nhb0 : Below w.heap.size w V40 := by rw [hV40]; exact (blw_setL hb0 (by omega) 0 [.int .u64 (wd0 r46), .int .u64 (wd1 r46), .int .u64 (wd2 r46), .int .u64 (wd3 r46), .int .u64 (wd0 r47), .int .u64 (wd1 r47), .int .u64 (wd2 r47), .int .u64 (wd3 r47), .int .u64 (wd0 r48), .int .u64 (wd1 r48), .int .u64 (wd2 r48), .int .u64 (wd3 r48)])
          clear k3; clear hb0; clear hV40; have k3 := nk3; clear nk3; have hb0 := nhb0; clear nhb0; obtain ⟨g3_0, g3_1, g3_2, g3_3, g3_4, g3_5, g3_6, g3_7, g3_8, g3_9, g3_10, g3_11⟩ := cel12 k3; clear k3
          simp [bodyPost, results, Try.results90, go_sem, g3_0, g3_1, g3_2, g3_3, g3_4, g3_5, g3_6, g3_7, g3_8, g3_9, g3_10, g3_11]
          first | exact hb0 | exact ⟨rfl, hb0⟩
      · have c7_0 : U35.cell? ⟨(U4.heap.size + 1), 0, none⟩ = some (.int .i64 r7) := k7.cell 0
        have c7_1 : U35.cell? ⟨(U4.heap.size + 1), 1, none⟩ = some (.int .i64 r8) := k7.cell 1; have l7 := k7.lt; have c8_0 : U35.cell? ⟨(V5.heap.size + 1), 0, none⟩ = some (.int .i64 r1) := k8.cell 0; have c8_1 : U35.cell? ⟨(V5.heap.size + 1), 1, none⟩ = some (.int .i64 r2) := k8.cell 1; have l8 := k8.lt; have c9_0 : U35.cell? ⟨V5.heap.size, 0, none⟩ = some (.int .i64 r3) := k9.cell 0; have c9_1 : U35.cell? ⟨V5.heap.size, 1, none⟩ = some (.int .i64 r4) := k9.cell 1; have f9_0 := k9.free 0; have f9_1 := k9.free 1; have l9 := k9.lt
        have p7_9 : (U4.heap.size + 1) ≠ V5.heap.size := (by have := D17.out; omega)
        have p8_9 : (V5.heap.size + 1) ≠ V5.heap.size := (by omega)
        go_wp2_with fail
        clear c7_0 c7_1 l7 c8_0 c8_1 l8 c9_0 c9_1 f9_0 f9_1 l9 p7_9 p8_9
        first | refine calls_w ?_ | refine name_world ?_ | refine list_world ?_ | refine post_world ?_
        intro V41 hV41
        clear k7; have D62 := Lib.hid k3.lt; have D63 := Lib.hid k8.lt; have D64 := Lib.hid k9.lt; have D65 := Lib.hid hb0.size
        have nk3 : Blk V41 (w.heap.size + 1 + 1) #[.int .u64 0, .int .u64 0, .int .u64 0, .int .u64 0, .int .u64 0, .int .u64 0, .int .u64 0, .int .u64 0, .int .u64 0, .int .u64 0, .int .u64 0, .int .u64 0] 36 := by rw [hV41]; exact (blk_setL k3 (by have := D13.out; omega) 0 [.int .i64 r7, .int .i64 r8])
        have nk8 : Blk V41 (V5.heap.size + 1) #[.int .i64 r1, .int .i64 r2] 44 := by rw [hV41]; exact (blk_setL k8 (by omega) 0 [.int .i64 r7, .int .i64 r8])
        have nk9 : Blk V41 V5.heap.size #[.int .i64 r7, .int .i64 r8] 44 := by rw [hV41]; exact (blk_full _ [.int .i64 r7, .int .i64 r8] k9 rfl)
        have nhb0 : Below w.heap.size w V41 := by rw [hV41]; exact (blw_setL hb0 (by have := D18.out; omega) 0 [.int .i64 r7, .int .i64 r8])
        clear k3 k8 k9; clear hb0; clear hV41; have k3 := nk3; clear nk3; have k8 := nk8; clear nk8; have k9 := nk9; clear nk9; have hb0 := nhb0; clear nhb0
        obtain ⟨r49, hr49⟩ : ∃ o_o : Int, cmpP r1 r2 r7 r8 = o_o := ⟨_, rfl⟩
        have Hr49 := Lib.hid hr49; clear hr49
        refine (PtCmp_v r1 r2 r7 r8 r49 Hr49.out _).mono ?_
        rintro e U42 ⟨rfl, hn⟩
        clear k9; replace k3 := k3.of hn; replace k8 := k8.of hn
        replace hb0 := hb0.trans (hn.mono hb0.size)
        clear hn
        obtain ⟨z50, hz50⟩ : ∃ o_o : Bool, (r49 == 0) = o_o := ⟨_, rfl⟩
        cases z50
        · have nz50 : ¬ r49 = 0 := by simpa using hz50
          obtain ⟨z51, hz51⟩ : ∃ o_o : Bool, (r49 == (-1)) = o_o := ⟨_, rfl⟩
          cases z51
          · have nz51 : ¬ r49 = (-1) := by simpa using hz51
            obtain ⟨c3_0, c3_1, c3_2, c3_3, c3_4, c3_5, c3_6, c3_7, c3_8, c3_9, c3_10, c3_11⟩ := cel12 k3; obtain ⟨f3_0, f3_1, f3_2, f3_3, f3_4, f3_5, f3_6, f3_7, f3_8, f3_9, f3_10, f3_11⟩ := fre12 k3; have l3 := k3.lt
            have e0 : 0 = R0 := by rw [← HR0.out]; unfold shk; (try rw [Hr1.out]); (try rw [Hr2.out]); (try rw [Hr3.out]); (try rw [Hr4.out]); (try rw [Hr5.out]); (try rw [Hr6.out]); (try rw [Hr7.out]); (try rw [Hr8.out]); (try rw [Hr39.out]); (try rw [hz40]); (try rw [Hr41.out]); (try rw [hz42]); (try rw [Hr49.out]); (try rw [hz50]); (try rw [hz51]); all_goals first | rfl | simp
            have e1 : 0 = R1 := by rw [← HR1.out]; unfold shx; (try rw [Hr1.out]); (try rw [Hr2.out]); (try rw [Hr3.out]); (try rw [Hr4.out]); (try rw [Hr5.out]); (try rw [Hr6.out]); (try rw [Hr7.out]); (try rw [Hr8.out]); (try rw [Hr39.out]); (try rw [hz40]); (try rw [Hr41.out]); (try rw [hz42]); (try rw [Hr49.out]); (try rw [hz50]); (try rw [hz51]); all_goals first | rfl | simp
            have e2 : 0 = R2 := by rw [← HR2.out]; unfold shy; (try rw [Hr1.out]); (try rw [Hr2.out]); (try rw [Hr3.out]); (try rw [Hr4.out]); (try rw [Hr5.out]); (try rw [Hr6.out]); (try rw [Hr7.out]); (try rw [Hr8.out]); (try rw [Hr39.out]); (try rw [hz40]); (try rw [Hr41.out]); (try rw [hz42]); (try rw [Hr49.out]); (try rw [hz50]); (try rw [hz51]); all_goals first | rfl | simp
            have e3 : 0 = R3 := by rw [← HR3.out]; unfold shw; (try rw [Hr1.out]); (try rw [Hr2.out]); (try rw [Hr3.out]); (try rw [Hr4.out]); (try rw [Hr5.out]); (try rw [Hr6.out]); (try rw [Hr7.out]); (try rw [Hr8.out]); (try rw [Hr39.out]); (try rw [hz40]); (try rw [Hr41.out]); (try rw [hz42]); (try rw [Hr49.out]); (try rw [hz50]); (try rw [hz51]); all_goals first | rfl | simp
            subst e0; subst e1; subst e2; subst e3
            go_wp2
            clear c3_0 c3_1 c3_2 c3_3 c3_4 c3_5 c3_6 c3_7 c3_8 c3_9 c3_10 c3_11 f3_0 f3_1 f3_2 f3_3 f3_4 f3_5 f3_6 f3_7 f3_8 f3_9 f3_10 f3_11 l3
            first | refine post_world ?_
            intro V43 hV43
            clear k8; have D66 := Lib.hid k3.lt; have D67 := Lib.hid hb0.size
            have nk3 : Blk V43 (w.heap.size + 1 + 1) #[.int .u64 0, .int .u64 0, .int .u64 0, .int .u64 0, .int .u64 0, .int .u64 0, .int .u64 0, .int .u64 0, .int .u64 0, .int .u64 0, .int .u64 0, .int .u64 0] 36 := by rw [hV43]; exact (blk_full _ [.int .u64 0, .int .u64 0, .int .u64 0, .int .u64 0, .int .u64 0, .int .u64 0, .int .u64 0, .int .u64 0, .int .u64 0, .int .u64 0, .int .u64 0, .int .u64 0] k3 rfl)
            have nhb0 : Below w.heap.size w V43 := by rw [hV43]; exact (blw_setL hb0 (by omega) 0 [.int .u64 0, .int .u64 0, .int .u64 0, .int .u64 0, .int .u64 0, .int .u64 0, .int .u64 0, .int .u64 0, .int .u64 0, .int .u64 0, .int .u64 0, .int .u64 0])
            clear k3; clear hb0; clear hV43; have k3 := nk3; clear nk3; have hb0 := nhb0; clear nhb0; obtain ⟨g3_0, g3_1, g3_2, g3_3, g3_4, g3_5, g3_6, g3_7, g3_8, g3_9, g3_10, g3_11⟩ := cel12 k3; clear k3
            simp [bodyPost, results, Try.results90, go_sem, g3_0, g3_1, g3_2, g3_3, g3_4, g3_5, g3_6, g3_7, g3_8, g3_9, g3_10, g3_11, wd0_0, wd1_0, wd2_0, wd3_0]
            first | exact hb0 | exact ⟨rfl, hb0⟩
          · obtain rfl : r49 = (-1) := by simpa using hz51
            clear hz51; obtain ⟨c3_0, c3_1, c3_2, c3_3, c3_4, c3_5, c3_6, c3_7, c3_8, c3_9, c3_10, c3_11⟩ := cel12 k3; obtain ⟨f3_0, f3_1, f3_2, f3_3, f3_4, f3_5, f3_6, f3_7, f3_8, f3_9, f3_10, f3_11⟩ := fre12 k3; have l3 := k3.lt
            have e0 : 2 = R0 := by rw [← HR0.out]; unfold shk; (try rw [Hr1.out]); (try rw [Hr2.out]); (try rw [Hr3.out]); (try rw [Hr4.out]); (try rw [Hr5.out]); (try rw [Hr6.out]); (try rw [Hr7.out]); (try rw [Hr8.out]); (try rw [Hr39.out]); (try rw [hz40]); (try rw [Hr41.out]); (try rw [hz42]); (try rw [Hr49.out]); (try rw [hz50]); all_goals first | rfl | simp
            have e1 : 0 = R1 := by rw [← HR1.out]; unfold shx; (try rw [Hr1.out]); (try rw [Hr2.out]); (try rw [Hr3.out]); (try rw [Hr4.out]); (try rw [Hr5.out]); (try rw [Hr6.out]); (try rw [Hr7.out]); (try rw [Hr8.out]); (try rw [Hr39.out]); (try rw [hz40]); (try rw [Hr41.out]); (try rw [hz42]); (try rw [Hr49.out]); (try rw [hz50]); all_goals first | rfl | simp
            have e2 : 0 = R2 := by rw [← HR2.out]; unfold shy; (try rw [Hr1.out]); (try rw [Hr2.out]); (try rw [Hr3.out]); (try rw [Hr4.out]); (try rw [Hr5.out]); (try rw [Hr6.out]); (try rw [Hr7.out]); (try rw [Hr8.out]); (try rw [Hr39.out]); (try rw [hz40]); (try rw [Hr41.out]); (try rw [hz42]); (try rw [Hr49.out]); (try rw [hz50]); all_goals first | rfl | simp
            have e3 : 0 = R3 := by rw [← HR3.out]; unfold shw; (try rw [Hr1.out]); (try rw [Hr2.out]); (try rw [Hr3.out]); (try rw [Hr4.out]); (try rw [Hr5.out]); (try rw [Hr6.out]); (try rw [Hr7.out]); (try rw [Hr8.out]); (try rw [Hr39.out]); (try rw [hz40]); (try rw [Hr41.out]); (try rw [hz42]); (try rw [Hr49.out]); (try rw [hz50]); all_goals first | rfl | simp
            subst e0; subst e1; subst e2; subst e3
            go_wp2
            clear c3_0 c3_1 c3_2 c3_3 c3_4 c3_5 c3_6 c3_7 c3_8 c3_9 c3_10 c3_11 f3_0 f3_1 f3_2 f3_3 f3_4 f3_5 f3_6 f3_7 f3_8 f3_9 f3_10 f3_11 l3
            first | refine post_world ?_
            intro V44 hV44
            clear k8; have D68 := Lib.hid k3.lt; have D69 := Lib.hid hb0.size
            have nk3 : Blk V44 (w.heap.size + 1 + 1) #[.int .u64 0, .int .u64 0, .int .u64 0, .int .u64 0, .int .u64 0, .int .u64 0, .int .u64 0, .int .u64 0, .int .u64 0, .int .u64 0, .int .u64 0, .int .u64 0] 36 := by rw [hV44]; exact (blk_full _ [.int .u64 0, .int .u64 0, .int .u64 0, .int .u64 0, .int .u64 0, .int .u64 0, .int .u64 0, .int .u64 0, .int .u64 0, .int .u64 0, .int .u64 0, .int .u64 0] k3 rfl)
            have nhb0 : Below w.heap.size w V44 := by rw [hV44]; exact (blw_setL hb0 (by omega) 0 [.int .u64 0, .int .u64 0, .int .u64 0, .int .u64 0, .int .u64 0, .int .u64 0, .int .u64 0, .int .u64 0, .int .u64 0, .int .u64 0, .int .u64 0, .int .u64 0])
            clear k3; clear hb0; clear hV44; have k3 := nk3; clear nk3; have hb0 := nhb0; clear nhb0; obtain ⟨g3_0, g3_1, g3_2, g3_3, g3_4, g3_5, g3_6, g3_7, g3_8, g3_9, g3_10, g3_11⟩ := cel12 k3; clear k3
            simp [bodyPost, results, Try.results90, go_sem, g3_0, g3_1, g3_2, g3_3, g3_4, g3_5, g3_6, g3_7, g3_8, g3_9, g3_10, g3_11, wd0_0, wd1_0, wd2_0, wd3_0]
            first | exact hb0 | exact ⟨rfl, hb0⟩
        · obtain rfl : r49 = 0 := by simpa using hz50
          clear hz50; have c8_0 : U42.cell? ⟨(V5.heap.size + 1), 0, none⟩ = some (.int .i64 r1) := k8.cell 0; have c8_1 : U42.cell? ⟨(V5.heap.size + 1), 1, none⟩ = some (.int .i64 r2) := k8.cell 1; have l8 := k8.lt
          go_wp2_with fail
          clear c8_0 c8_1 l8
          obtain ⟨r52, hr52⟩ : ∃ o_o : Int, atx r1 r2 = o_o := ⟨_, rfl⟩
          have Hr52 := Lib.hid hr52; clear hr52
          obtain ⟨r53, hr53⟩ : ∃ o_o : Int, aty r1 r2 = o_o := ⟨_, rfl⟩
          have Hr53 := Lib.hid hr53; clear hr53
          obtain ⟨r54, hr54⟩ : ∃ o_o : Int, atw r1 r2 = o_o := ⟨_, rfl⟩
          have Hr54 := Lib.hid hr54; clear hr54
          refine (crAt_is r1 r2 r52 r53 r54 Hr52.out Hr53.out Hr54.out (Hr1.out ▸ lwx_in ax ay bx b_y _iax _iay _ibx _ib_y) (Hr2.out ▸ lwy_in ax ay bx b_y _iax _iay _ibx _ib_y)  _).mono ?_
          rintro e U45 ⟨rfl, hn⟩
          clear k8; replace k3 := k3.of hn
          replace hb0 := hb0.trans (hn.mono hb0.size)
          clear hn; obtain ⟨c3_0, c3_1, c3_2, c3_3, c3_4, c3_5, c3_6, c3_7, c3_8, c3_9, c3_10, c3_11⟩ := cel12 k3; obtain ⟨f3_0, f3_1, f3_2, f3_3, f3_4, f3_5, f3_6, f3_7, f3_8, f3_9, f3_10, f3_11⟩ := fre12 k3; have l3 := k3.lt
          have e0 : 1 = R0 := by rw [← HR0.out]; unfold shk; (try rw [Hr1.out]); (try rw [Hr2.out]); (try rw [Hr3.out]); (try rw [Hr4.out]); (try rw [Hr5.out]); (try rw [Hr6.out]); (try rw [Hr7.out]); (try rw [Hr8.out]); (try rw [Hr39.out]); (try rw [hz40]); (try rw [Hr41.out]); (try rw [hz42]); (try rw [Hr49.out]); (try rw [Hr52.out]); (try rw [Hr53.out]); (try rw [Hr54.out]); all_goals first | rfl | simp
          have e1 : r52 = R1 := by rw [← HR1.out]; unfold shx; (try rw [Hr1.out]); (try rw [Hr2.out]); (try rw [Hr3.out]); (try rw [Hr4.out]); (try rw [Hr5.out]); (try rw [Hr6.out]); (try rw [Hr7.out]); (try rw [Hr8.out]); (try rw [Hr39.out]); (try rw [hz40]); (try rw [Hr41.out]); (try rw [hz42]); (try rw [Hr49.out]); (try rw [Hr52.out]); (try rw [Hr53.out]); (try rw [Hr54.out]); all_goals first | rfl | simp
          have e2 : r53 = R2 := by rw [← HR2.out]; unfold shy; (try rw [Hr1.out]); (try rw [Hr2.out]); (try rw [Hr3.out]); (try rw [Hr4.out]); (try rw [Hr5.out]); (try rw [Hr6.out]); (try rw [Hr7.out]); (try rw [Hr8.out]); (try rw [Hr39.out]); (try rw [hz40]); (try rw [Hr41.out]); (try rw [hz42]); (try rw [Hr49.out]); (try rw [Hr52.out]); (try rw [Hr53.out]); (try rw [Hr54.out]); all_goals first | rfl | simp
          have e3 : r54 = R3 := by rw [← HR3.out]; unfold shw; (try rw [Hr1.out]); (try rw [Hr2.out]); (try rw [Hr3.out]); (try rw [Hr4.out]); (try rw [Hr5.out]); (try rw [Hr6.out]); (try rw [Hr7.out]); (try rw [Hr8.out]); (try rw [Hr39.out]); (try rw [hz40]); (try rw [Hr41.out]); (try rw [hz42]); (try rw [Hr49.out]); (try rw [Hr52.out]); (try rw [Hr53.out]); (try rw [Hr54.out]); all_goals first | rfl | simp
          subst e0; subst e1; subst e2; subst e3
          go_wp2
          clear c3_0 c3_1 c3_2 c3_3 c3_4 c3_5 c3_6 c3_7 c3_8 c3_9 c3_10 c3_11 f3_0 f3_1 f3_2 f3_3 f3_4 f3_5 f3_6 f3_7 f3_8 f3_9 f3_10 f3_11 l3
          first | refine post_world ?_
          intro V46 hV46
          have D70 := Lib.hid k3.lt; have D71 := Lib.hid hb0.size
          have nk3 : Blk V46 (w.heap.size + 1 + 1) #[.int .u64 (wd0 r52), .int .u64 (wd1 r52), .int .u64 (wd2 r52), .int .u64 (wd3 r52), .int .u64 (wd0 r53), .int .u64 (wd1 r53), .int .u64 (wd2 r53), .int .u64 (wd3 r53), .int .u64 (wd0 r54), .int .u64 (wd1 r54), .int .u64 (wd2 r54), .int .u64 (wd3 r54)] 36 := by rw [hV46]; exact (blk_full _ [.int .u64 (wd0 r52), .int .u64 (wd1 r52), .int .u64 (wd2 r52), .int .u64 (wd3 r52), .int .u64 (wd0 r53), .int .u64 (wd1 r53), .int .u64 (wd2 r53), .int .u64 (wd3 r53), .int .u64 (wd0 r54), .int .u64 (wd1 r54), .int .u64 (wd2 r54), .int .u64 (wd3 r54)] k3 rfl)
          have nhb0 : Below w.heap.size w V46 := by rw [hV46]; exact (blw_setL hb0 (by omega) 0 [.int .u64 (wd0 r52), .int .u64 (wd1 r52), .int .u64 (wd2 r52), .int .u64 (wd3 r52), .int .u64 (wd0 r53), .int .u64 (wd1 r53), .int .u64 (wd2 r53), .int .u64 (wd3 r53), .int .u64 (wd0 r54), .int .u64 (wd1 r54), .int .u64 (wd2 r54), .int .u64 (wd3 r54)])
          clear k3; clear hb0; clear hV46; have k3 := nk3; clear nk3; have hb0 := nhb0; clear nhb0; obtain ⟨g3_0, g3_1, g3_2, g3_3, g3_4, g3_5, g3_6, g3_7, g3_8, g3_9, g3_10, g3_11⟩ := cel12 k3; clear k3
          simp [bodyPost, results, Try.results90, go_sem, g3_0, g3_1, g3_2, g3_3, g3_4, g3_5, g3_6, g3_7, g3_8, g3_9, g3_10, g3_11]
          first | exact hb0 | exact ⟨rfl, hb0⟩
    · have c5_0 : U34.cell? ⟨(U2.heap.size + 1), 0, none⟩ = some (.int .i64 r3) := k5.cell 0
      have c5_1 : U34.cell? ⟨(U2.heap.size + 1), 1, none⟩ = some (.int .i64 r4) := k5.cell 1; have l5 := k5.lt; have c6_0 : U34.cell? ⟨U4.heap.size, 0, none⟩ = some (.int .i64 r5) := k6.cell 0; have c6_1 : U34.cell? ⟨U4.heap.size, 1, none⟩ = some (.int .i64 r6) := k6.cell 1; have l6 := k6.lt; have c7_0 : U34.cell? ⟨(U4.heap.size + 1), 0, none⟩ = some (.int .i64 r7) := k7.cell 0; have c7_1 : U34.cell? ⟨(U4.heap.size + 1), 1, none⟩ = some (.int .i64 r8) := k7.cell 1; have l7 := k7.lt; have c8_0 : U34.cell? ⟨(V5.heap.size + 1), 0, none⟩ = some (.int .i64 r1) := k8.cell 0
      have c8_1 : U34.cell? ⟨(V5.heap.size + 1), 1, none⟩ = some (.int .i64 r2) := k8.cell 1; have f8_0 := k8.free 0; have f8_1 := k8.free 1; have l8 := k8.lt
      have p5_8 : (U2.heap.size + 1) ≠ (V5.heap.size + 1) := (by have := D15.out; omega)
      have p6_8 : U4.heap.size ≠ (V5.heap.size + 1) := (by have := D16.out; omega)
      have p7_8 : (U4.heap.size + 1) ≠ (V5.heap.size + 1) := (by have := D17.out; omega)
      go_wp2_with fail
      clear c5_0 c5_1 l5 c6_0 c6_1 l6 c7_0 c7_1 l7 c8_0 c8_1 f8_0 f8_1 l8 p5_8 p6_8 p7_8
      first | refine calls_w ?_ | refine name_world ?_ | refine list_world ?_ | refine post_world ?_
      intro V47 hV47
      clear k5 k6; have D72 := Lib.hid k3.lt; have D73 := Lib.hid k7.lt; have D74 := Lib.hid k8.lt; have D75 := Lib.hid k9.lt; have D76 := Lib.hid hb0.size
      have nk3 : Blk V47 (w.heap.size + 1 + 1) #[.int .u64 0, .int .u64 0, .int .u64 0, .int .u64 0, .int .u64 0, .int .u64 0, .int .u64 0, .int .u64 0, .int .u64 0, .int .u64 0, .int .u64 0, .int .u64 0] 36 := by rw [hV47]; exact (blk_setL k3 (by have := D13.out; omega) 0 [.int .i64 r5, .int .i64 r6])
      have nk7 : Blk V47 (U4.heap.size + 1) #[.int .i64 r7, .int .i64 r8] 44 := by rw [hV47]; exact (blk_setL k7 (by have := D17.out; omega) 0 [.int .i64 r5, .int .i64 r6])
      have nk8 : Blk V47 (V5.heap.size + 1) #[.int .i64 r5, .int .i64 r6] 44 := by rw [hV47]; exact (blk_full _ [.int .i64 r5, .int .i64 r6] k8 rfl)
      have nk9 : Blk V47 V5.heap.size #[.int .i64 r3, .int .i64 r4] 44 := by rw [hV47]; exact (blk_setL k9 (by omega) 0 [.int .i64 r5, .int .i64 r6])
      have nhb0 : Below w.heap.size w V47 := by rw [hV47]; exact (blw_setL hb0 (by have := D18.out; omega) 0 [.int .i64 r5, .int .i64 r6])
      clear k3 k7 k8 k9; clear hb0; clear hV47; have k3 := nk3; clear nk3; have k7 := nk7; clear nk7; have k8 := nk8; clear nk8; have k9 := nk9; clear nk9; have hb0 := nhb0; clear nhb0
      obtain ⟨r55, hr55⟩ : ∃ o_o : Int, cmpP r7 r8 r3 r4 = o_o := ⟨_, rfl⟩
      have Hr55 := Lib.hid hr55; clear hr55
      refine (PtCmp_v r7 r8 r3 r4 r55 Hr55.out _).mono ?_
      rintro e U48 ⟨rfl, hn⟩
      replace k3 := k3.of hn; replace k7 := k7.of hn; replace k8 := k8.of hn; replace k9 := k9.of hn
      replace hb0 := hb0.trans (hn.mono hb0.size)
      clear hn
      obtain ⟨z56, hz56⟩ : ∃ o_o : Bool, decide (r55 < 0) = o_o := ⟨_, rfl⟩
      cases z56
      · have c8_0 : U48.cell? ⟨(V5.heap.size + 1), 0, none⟩ = some (.int .i64 r5) := k8.cell 0
        have c8_1 : U48.cell? ⟨(V5.heap.size + 1), 1, none⟩ = some (.int .i64 r6) := k8.cell 1; have l8 := k8.lt; have c9_0 : U48.cell? ⟨V5.heap.size, 0, none⟩ = some (.int .i64 r3) := k9.cell 0; have c9_1 : U48.cell? ⟨V5.heap.size, 1, none⟩ = some (.int .i64 r4) := k9.cell 1; have l9 := k9.lt
        go_wp2_with fail
        clear c8_0 c8_1 l8 c9_0 c9_1 l9
        obtain ⟨r57, hr57⟩ : ∃ o_o : Int, cmpP r5 r6 r3 r4 = o_o := ⟨_, rfl⟩
        have Hr57 := Lib.hid hr57; clear hr57
        refine (PtCmp_v r5 r6 r3 r4 r57 Hr57.out _).mono ?_
        rintro e U49 ⟨rfl, hn⟩
        clear k7 k9; replace k3 := k3.of hn; replace k8 := k8.of hn
        replace hb0 := hb0.trans (hn.mono hb0.size)
        clear hn
        obtain ⟨z58, hz58⟩ : ∃ o_o : Bool, (r57 == 0) = o_o := ⟨_, rfl⟩
        cases z58
        · have nz58 : ¬ r57 = 0 := by simpa using hz58
          obtain ⟨z59, hz59⟩ : ∃ o_o : Bool, (r57 == (-1)) = o_o := ⟨_, rfl⟩
          cases z59
          · have nz59 : ¬ r57 = (-1) := by simpa using hz59
            obtain ⟨c3_0, c3_1, c3_2, c3_3, c3_4, c3_5, c3_6, c3_7, c3_8, c3_9, c3_10, c3_11⟩ := cel12 k3; obtain ⟨f3_0, f3_1, f3_2, f3_3, f3_4, f3_5, f3_6, f3_7, f3_8, f3_9, f3_10, f3_11⟩ := fre12 k3; have l3 := k3.lt
            have e0 : 0 = R0 := by rw [← HR0.out]; unfold shk; (try rw [Hr1.out]); (try rw [Hr2.out]); (try rw [Hr3.out]); (try rw [Hr4.out]); (try rw [Hr5.out]); (try rw [Hr6.out]); (try rw [Hr7.out]); (try rw [Hr8.out]); (try rw [Hr39.out]); (try rw [hz40]); (try rw [Hr55.out]); (try rw [hz56]); (try rw [Hr57.out]); (try rw [hz58]); (try rw [hz59]); all_goals first | rfl | simp
            have e1 : 0 = R1 := by rw [← HR1.out]; unfold shx; (try rw [Hr1.out]); (try rw [Hr2.out]); (try rw [Hr3.out]); (try rw [Hr4.out]); (try rw [Hr5.out]); (try rw [Hr6.out]); (try rw [Hr7.out]); (try rw [Hr8.out]); (try rw [Hr39.out]); (try rw [hz40]); (try rw [Hr55.out]); (try rw [hz56]); (try rw [Hr57.out]); (try rw [hz58]); (try rw [hz59]); all_goals first | rfl | simp
            have e2 : 0 = R2 := by rw [← HR2.out]; unfold shy; (try rw [Hr1.out]); (try rw [Hr2.out]); (try rw [Hr3.out]); (try rw [Hr4.out]); (try rw [Hr5.out]); (try rw [Hr6.out]); (try rw [Hr7.out]); (try rw [Hr8.out]); (try rw [Hr39.out]); (try rw [hz40]); (try rw [Hr55.out]); (try rw [hz56]); (try rw [Hr57.out]); (try rw [hz58]); (try rw [hz59]); all_goals first | rfl | simp
            have e3 : 0 = R3 := by rw [← HR3.out]; unfold shw; (try rw [Hr1.out]); (try rw [Hr2.out]); (try rw [Hr3.out]); (try rw [Hr4.out]); (try rw [Hr5.out]); (try rw [Hr6.out]); (try rw [Hr7.out]); (try rw [Hr8.out]); (try rw [Hr39.out]); (try rw [hz40]); (try rw [Hr55.out]); (try rw [hz56]); (try rw [Hr57.out]); (try rw [hz58]); (try rw [hz59]); all_goals first | rfl | simp
            subst e0; subst e1; subst e2; subst e3
            go_wp2
            clear c3_0 c3_1 c3_2 c3_3 c3_4 c3_5 c3_6 c3_7 c3_8 c3_9 c3_10 c3_11 f3_0 f3_1 f3_2 f3_3 f3_4 f3_5 f3_6 f3_7 f3_8 f3_9 f3_10 f3_11 l3
            first | refine post_world ?_
            intro V50 hV50
            clear k8; have D77 := Lib.hid k3.lt; have D78 := Lib.hid hb0.size
            have nk3 : Blk V50 (w.heap.size + 1 + 1) #[.int .u64 0, .int .u64 0, .int .u64 0, .int .u64 0, .int .u64 0, .int .u64 0, .int .u64 0, .int .u64 0, .int .u64 0, .int .u64 0, .int .u64 0, .int .u64 0] 36 := by rw [hV50]; exact (blk_full _ [.int .u64 0, .int .u64 0, .int .u64 0, .int .u64 0, .int .u64 0, .int .u64 0, .int .u64 0, .int .u64 0, .int .u64 0, .int .u64 0, .int .u64 0, .int .u64 0] k3 rfl)
            have nhb0 : Below w.heap.size w V50 := by rw [hV50]; exact (blw_setL hb0 (by omega) 0 [.int .u64 0, .int .u64 0, .int .u64 0, .int .u64 0, .int .u64 0, .int .u64 0, .int .u64 0, .int .u64 0, .int .u64 0, .int .u64 0, .int .u64 0, .int .u64 0])
            clear k3; clear hb0; clear hV50; have k3 := nk3; clear nk3; have hb0 := nhb0; clear nhb0; obtain ⟨g3_0, g3_1, g3_2, g3_3, g3_4, g3_5, g3_6, g3_7, g3_8, g3_9, g3_10, g3_11⟩ := cel12 k3; clear k3
            simp [bodyPost, results, Try.results90, go_sem, g3_0, g3_1, g3_2, g3_3, g3_4, g3_5, g3_6, g3_7, g3_8, g3_9, g3_10, g3_11, wd0_0, wd1_0, wd2_0, wd3_0]
            first | exact hb0 | exact ⟨rfl, hb0⟩
          · obtain rfl : r57 = (-1) := by simpa using hz59
            clear hz59; obtain ⟨c3_0, c3_1, c3_2, c3_3, c3_4, c3_5, c3_6, c3_7, c3_8, c3_9, c3_10, c3_11⟩ := cel12 k3; obtain ⟨f3_0, f3_1, f3_2, f3_3, f3_4, f3_5, f3_6, f3_7, f3_8, f3_9, f3_10, f3_11⟩ := fre12 k3; have l3 := k3.lt
            have e0 : 2 = R0 := by rw [← HR0.out]; unfold shk; (try rw [Hr1.out]); (try rw [Hr2.out]); (try rw [Hr3.out]); (try rw [Hr4.out]); (try rw [Hr5.out]); (try rw [Hr6.out]); (try rw [Hr7.out]); (try rw [Hr8.out]); (try rw [Hr39.out]); (try rw [hz40]); (try rw [Hr55.out]); (try rw [hz56]); (try rw [Hr57.out]); (try rw [hz58]); all_goals first | rfl | simp
            have e1 : 0 = R1 := by rw [← HR1.out]; unfold shx; (try rw [Hr1.out]); (try rw [Hr2.out]); (try rw [Hr3.out]); (try rw [Hr4.out]); (try rw [Hr5.out]); (try rw [Hr6.out]); (try rw [Hr7.out]); (try rw [Hr8.out]); (try rw [Hr39.out]); (try rw [hz40]); (try rw [Hr55.out]); (try rw [hz56]); (try rw [Hr57.out]); (try rw [hz58]); all_goals first | rfl | simp
            have e2 : 0 = R2 := by rw [← HR2.out]; unfold shy; (try rw [Hr1.out]); (try rw [Hr2.out]); (try rw [Hr3.out]); (try rw [Hr4.out]); (try rw [Hr5.out]); (try rw [Hr6.out]); (try rw [Hr7.out]); (try rw [Hr8.out]); (try rw [Hr39.out]); (try rw [hz40]); (try rw [Hr55.out]); (try rw [hz56]); (try rw [Hr57.out]); (try rw [hz58]); all_goals first | rfl | simp
            have e3 : 0 = R3 := by rw [← HR3.out]; unfold shw; (try rw [Hr1.out]); (try rw [Hr2.out]); (try rw [Hr3.out]); (try rw [Hr4.out]); (try rw [Hr5.out]); (try rw [Hr6.out]); (try rw [Hr7.out]); (try rw [Hr8.out]); (try rw [Hr39.out]); (try rw [hz40]); (try rw [Hr55.out]); (try rw [hz56]); (try rw [Hr57.out]); (try rw [hz58]); all_goals first | rfl | simp
            subst e0; subst e1; subst e2; subst e3
            go_wp2
            clear c3_0 c3_1 c3_2 c3_3 c3_4 c3_5 c3_6 c3_7 c3_8 c3_9 c3_10 c3_11 f3_0 f3_1 f3_2 f3_3 f3_4 f3_5 f3_6 f3_7 f3_8 f3_9 f3_10 f3_11 l3
            first | refine post_world ?_
            intro V51 hV51
            clear k8; have D79 := Lib.hid k3.lt; have D80 := Lib.hid hb0.size
            have nk3 : Blk V51 (w.heap.size + 1 + 1) #[.int .u64 0, .int .u64 0, .int .u64 0, .int .u64 0, .int .u64 0, .int .u64 0, .int .u64 0, .int .u64 0, .int .u64 0, .int .u64 0, .int .u64 0, .int .u64 0] 36 := by rw [hV51]; exact (blk_full _ [.int .u64 0, .int .u64 0, .int .u64 0, .int .u64 0, .int .u64 0, .int .u64 0, .int .u64 0, .int .u64 0, .int .u64 0, .int .u64 0, .int .u64 0, .int .u64 0] k3 rfl)
            have nhb0 : Below w.heap.size w V51 := by rw [hV51]; exact (blw_setL hb0 (by omega) 0 [.int .u64 0, .int .u64 0, .int .u64 0, .int .u64 0, .int .u64 0, .int .u64 0, .int .u64 0, .int .u64 0, .int .u64 0, .int .u64 0, .int .u64 0, .int .u64 0])
            clear k3; clear hb0; clear hV51; have k3 := nk3; clear nk3; have hb0 := nhb0; clear nhb0; obtain ⟨g3_0, g3_1, g3_2, g3_3, g3_4, g3_5, g3_6, g3_7, g3_8, g3_9, g3_10, g3_11⟩ := cel12 k3; clear k3
            simp [bodyPost, results, Try.results90, go_sem, g3_0, g3_1, g3_2, g3_3, g3_4, g3_5, g3_6, g3_7, g3_8, g3_9, g3_10, g3_11, wd0_0, wd1_0, wd2_0, wd3_0]
            first | exact hb0 | exact ⟨rfl, hb0⟩
        · obtain rfl : r57 = 0 := by simpa using hz58
          clear hz58; have c8_0 : U49.cell? ⟨(V5.heap.size + 1), 0, none⟩ = some (.int .i64 r5) := k8.cell 0; have c8_1 : U49.cell? ⟨(V5.heap.size + 1), 1, none⟩ = some (.int .i64 r6) := k8.cell 1; have l8 := k8.lt
          go_wp2_with fail
          clear c8_0 c8_1 l8
          obtain ⟨r60, hr60⟩ : ∃ o_o : Int, atx r5 r6 = o_o := ⟨_, rfl⟩
          have Hr60 := Lib.hid hr60; clear hr60
          obtain ⟨r61, hr61⟩ : ∃ o_o : Int, aty r5 r6 = o_o := ⟨_, rfl⟩
          have Hr61 := Lib.hid hr61; clear hr61
          obtain ⟨r62, hr62⟩ : ∃ o_o : Int, atw r5 r6 = o_o := ⟨_, rfl⟩
          have Hr62 := Lib.hid hr62; clear hr62
          refine (crAt_is r5 r6 r60 r61 r62 Hr60.out Hr61.out Hr62.out (Hr5.out ▸ lwx_in cx cy dx dy _icx _icy _idx _idy) (Hr6.out ▸ lwy_in cx cy dx dy _icx _icy _idx _idy)  _).mono ?_
          rintro e U52 ⟨rfl, hn⟩
          clear k8; replace k3 := k3.of hn
          replace hb0 := hb0.trans (hn.mono hb0.size)
          clear hn; obtain ⟨c3_0, c3_1, c3_2, c3_3, c3_4, c3_5, c3_6, c3_7, c3_8, c3_9, c3_10, c3_11⟩ := cel12 k3; obtain ⟨f3_0, f3_1, f3_2, f3_3, f3_4, f3_5, f3_6, f3_7, f3_8, f3_9, f3_10, f3_11⟩ := fre12 k3; have l3 := k3.lt
          have e0 : 1 = R0 := by rw [← HR0.out]; unfold shk; (try rw [Hr1.out]); (try rw [Hr2.out]); (try rw [Hr3.out]); (try rw [Hr4.out]); (try rw [Hr5.out]); (try rw [Hr6.out]); (try rw [Hr7.out]); (try rw [Hr8.out]); (try rw [Hr39.out]); (try rw [hz40]); (try rw [Hr55.out]); (try rw [hz56]); (try rw [Hr57.out]); (try rw [Hr60.out]); (try rw [Hr61.out]); (try rw [Hr62.out]); all_goals first | rfl | simp
          have e1 : r60 = R1 := by rw [← HR1.out]; unfold shx; (try rw [Hr1.out]); (try rw [Hr2.out]); (try rw [Hr3.out]); (try rw [Hr4.out]); (try rw [Hr5.out]); (try rw [Hr6.out]); (try rw [Hr7.out]); (try rw [Hr8.out]); (try rw [Hr39.out]); (try rw [hz40]); (try rw [Hr55.out]); (try rw [hz56]); (try rw [Hr57.out]); (try rw [Hr60.out]); (try rw [Hr61.out]); (try rw [Hr62.out]); all_goals first | rfl | simp
          have e2 : r61 = R2 := by rw [← HR2.out]; unfold shy; (try rw [Hr1.out]); (try rw [Hr2.out]); (try rw [Hr3.out]); (try rw [Hr4.out]); (try rw [Hr5.out]); (try rw [Hr6.out]); (try rw [Hr7.out]); (try rw [Hr8.out]); (try rw [Hr39.out]); (try rw [hz40]); (try rw [Hr55.out]); (try rw [hz56]); (try rw [Hr57.out]); (try rw [Hr60.out]); (try rw [Hr61.out]); (try rw [Hr62.out]); all_goals first | rfl | simp
          have e3 : r62 = R3 := by rw [← HR3.out]; unfold shw; (try rw [Hr1.out]); (try rw [Hr2.out]); (try rw [Hr3.out]); (try rw [Hr4.out]); (try rw [Hr5.out]); (try rw [Hr6.out]); (try rw [Hr7.out]); (try rw [Hr8.out]); (try rw [Hr39.out]); (try rw [hz40]); (try rw [Hr55.out]); (try rw [hz56]); (try rw [Hr57.out]); (try rw [Hr60.out]); (try rw [Hr61.out]); (try rw [Hr62.out]); all_goals first | rfl | simp
          subst e0; subst e1; subst e2; subst e3
          go_wp2
          clear c3_0 c3_1 c3_2 c3_3 c3_4 c3_5 c3_6 c3_7 c3_8 c3_9 c3_10 c3_11 f3_0 f3_1 f3_2 f3_3 f3_4 f3_5 f3_6 f3_7 f3_8 f3_9 f3_10 f3_11 l3
          first | refine post_world ?_
          intro V53 hV53
          have D81 := Lib.hid k3.lt; have D82 := Lib.hid hb0.size
          have nk3 : Blk V53 (w.heap.size + 1 + 1) #[.int .u64 (wd0 r60), .int .u64 (wd1 r60), .int .u64 (wd2 r60), .int .u64 (wd3 r60), .int .u64 (wd0 r61), .int .u64 (wd1 r61), .int .u64 (wd2 r61), .int .u64 (wd3 r61), .int .u64 (wd0 r62), .int .u64 (wd1 r62), .int .u64 (wd2 r62), .int .u64 (wd3 r62)] 36 := by rw [hV53]; exact (blk_full _ [.int .u64 (wd0 r60), .int .u64 (wd1 r60), .int .u64 (wd2 r60), .int .u64 (wd3 r60), .int .u64 (wd0 r61), .int .u64 (wd1 r61), .int .u64 (wd2 r61), .int .u64 (wd3 r61), .int .u64 (wd0 r62), .int .u64 (wd1 r62), .int .u64 (wd2 r62), .int .u64 (wd3 r62)] k3 rfl)
          have nhb0 : Below w.heap.size w V53 := by rw [hV53]; exact (blw_setL hb0 (by omega) 0 [.int .u64 (wd0 r60), .int .u64 (wd1 r60), .int .u64 (wd2 r60), .int .u64 (wd3 r60), .int .u64 (wd0 r61), .int .u64 (wd1 r61), .int .u64 (wd2 r61), .int .u64 (wd3 r61), .int .u64 (wd0 r62), .int .u64 (wd1 r62), .int .u64 (wd2 r62), .int .u64 (wd3 r62)])
          clear k3; clear hb0; clear hV53; have k3 := nk3; clear nk3; have hb0 := nhb0; clear nhb0; obtain ⟨g3_0, g3_1, g3_2, g3_3, g3_4, g3_5, g3_6, g3_7, g3_8, g3_9, g3_10, g3_11⟩ := cel12 k3; clear k3
          simp [bodyPost, results, Try.results90, go_sem, g3_0, g3_1, g3_2, g3_3, g3_4, g3_5, g3_6, g3_7, g3_8, g3_9, g3_10, g3_11]
          first | exact hb0 | exact ⟨rfl, hb0⟩
      · have c7_0 : U48.cell? ⟨(U4.heap.size + 1), 0, none⟩ = some (.int .i64 r7) := k7.cell 0
        have c7_1 : U48.cell? ⟨(U4.heap.size + 1), 1, none⟩ = some (.int .i64 r8) := k7.cell 1; have l7 := k7.lt; have c8_0 : U48.cell? ⟨(V5.heap.size + 1), 0, none⟩ = some (.int .i64 r5) := k8.cell 0; have c8_1 : U48.cell? ⟨(V5.heap.size + 1), 1, none⟩ = some (.int .i64 r6) := k8.cell 1; have l8 := k8.lt; have c9_0 : U48.cell? ⟨V5.heap.size, 0, none⟩ = some (.int .i64 r3) := k9.cell 0; have c9_1 : U48.cell? ⟨V5.heap.size, 1, none⟩ = some (.int .i64 r4) := k9.cell 1; have f9_0 := k9.free 0; have f9_1 := k9.free 1; have l9 := k9.lt
        have p7_9 : (U4.heap.size + 1) ≠ V5.heap.size := (by have := D17.out; omega)
        have p8_9 : (V5.heap.size + 1) ≠ V5.heap.size := (by omega)
        go_wp2_with fail
        clear c7_0 c7_1 l7 c8_0 c8_1 l8 c9_0 c9_1 f9_0 f9_1 l9 p7_9 p8_9
        first | refine calls_w ?_ | refine name_world ?_ | refine list_world ?_ | refine post_world ?_
        intro V54 hV54
        clear k7; have D83 := Lib.hid k3.lt; have D84 := Lib.hid k8.lt; have D85 := Lib.hid k9.lt; have D86 := Lib.hid hb0.size
        have nk3 : Blk V54 (w.heap.size + 1 + 1) #[.int .u64 0, .int .u64 0, .int .u64 0, .int .u64 0, .int .u64 0, .int .u64 0, .int .u64 0, .int .u64 0, .int .u64 0, .int .u64 0, .int .u64 0, .int .u64 0] 36 := by rw [hV54]; exact (blk_setL k3 (by have := D13.out; omega) 0 [.int .i64 r7, .int .i64 r8])
        have nk8 : Blk V54 (V5.heap.size + 1) #[.int .i64 r5, .int .i64 r6] 44 := by rw [hV54]; exact (blk_setL k8 (by omega) 0 [.int .i64 r7, .int .i64 r8])
        have nk9 : Blk V54 V5.heap.size #[.int .i64 r7, .int .i64 r8] 44 := by rw [hV54]; exact (blk_full _ [.int .i64 r7, .int .i64 r8] k9 rfl)
        have nhb0 : Below w.heap.size w V54 := by rw [hV54]; exact (blw_setL hb0 (by have := D18.out; omega) 0 [.int .i64 r7, .int .i64 r8])
        clear k3 k8 k9; clear hb0; clear hV54; have k3 := nk3; clear nk3; have k8 := nk8; clear nk8; have k9 := nk9; clear nk9; have hb0 := nhb0; clear nhb0
        obtain ⟨r63, hr63⟩ : ∃ o_o : Int, cmpP r5 r6 r7 r8 = o_o := ⟨_, rfl⟩
        have Hr63 := Lib.hid hr63; clear hr63
        refine (PtCmp_v r5 r6 r7 r8 r63 Hr63.out _).mono ?_
        rintro e U55 ⟨rfl, hn⟩
        clear k9; replace k3 := k3.of hn; replace k8 := k8.of hn
        replace hb0 := hb0.trans (hn.mono hb0.size)
        clear hn
        obtain ⟨z64, hz64⟩ : ∃ o_o : Bool, (r63 == 0) = o_o := ⟨_, rfl⟩
        cases z64
        · have nz64 : ¬ r63 = 0 := by simpa using hz64
          obtain ⟨z65, hz65⟩ : ∃ o_o : Bool, (r63 == (-1)) = o_o := ⟨_, rfl⟩
          cases z65
          · have nz65 : ¬ r63 = (-1) := by simpa using hz65
            obtain ⟨c3_0, c3_1, c3_2, c3_3, c3_4, c3_5, c3_6, c3_7, c3_8, c3_9, c3_10, c3_11⟩ := cel12 k3; obtain ⟨f3_0, f3_1, f3_2, f3_3, f3_4, f3_5, f3_6, f3_7, f3_8, f3_9, f3_10, f3_11⟩ := fre12 k3; have l3 := k3.lt
            have e0 : 0 = R0 := by rw [← HR0.out]; unfold shk; (try rw [Hr1.out]); (try rw [Hr2.out]); (try rw [Hr3.out]); (try rw [Hr4.out]); (try rw [Hr5.out]); (try rw [Hr6.out]); (try rw [Hr7.out]); (try rw [Hr8.out]); (try rw [Hr39.out]); (try rw [hz40]); (try rw [Hr55.out]); (try rw [hz56]); (try rw [Hr63.out]); (try rw [hz64]); (try rw [hz65]); all_goals first | rfl | simp
            have e1 : 0 = R1 := by rw [← HR1.out]; unfold shx; (try rw [Hr1.out]); (try rw [Hr2.out]); (try rw [Hr3.out]); (try rw [Hr4.out]); (try rw [Hr5.out]); (try rw [Hr6.out]); (try rw [Hr7.out]); (try rw [Hr8.out]); (try rw [Hr39.out]); (try rw [hz40]); (try rw [Hr55.out]); (try rw [hz56]); (try rw [Hr63.out]); (try rw [hz64]); (try rw [hz65]); all_goals first | rfl | simp
            have e2 : 0 = R2 := by rw [← HR2.out]; unfold shy; (try rw [Hr1.out]); (try rw [Hr2.out]); (try rw [Hr3.out]); (try rw [Hr4.out]); (try rw [Hr5.out]); (try rw [Hr6.out]); (try rw [Hr7.out]); (try rw [Hr8.out]); (try rw [Hr39.out]); (try rw [hz40]); (try rw [Hr55.out]); (try rw [hz56]); (try rw [Hr63.out]); (try rw [hz64]); (try rw [hz65]); all_goals first | rfl | simp
            have e3 : 0 = R3 := by rw [← HR3.out]; unfold shw; (try rw [Hr1.out]); (try rw [Hr2.out]); (try rw [Hr3.out]); (try rw [Hr4.out]); (try rw [Hr5.out]); (try rw [Hr6.out]); (try rw [Hr7.out]); (try rw [Hr8.out]); (try rw [Hr39.out]); (try rw [hz40]); (try rw [Hr55.out]); (try rw [hz56]); (try rw [Hr63.out]); (try rw [hz64]); (try rw [hz65]); all_goals first | rfl | simp
            subst e0; subst e1; subst e2; subst e3
            go_wp2
            clear c3_0 c3_1 c3_2 c3_3 c3_4 c3_5 c3_6 c3_7 c3_8 c3_9 c3_10 c3_11 f3_0 f3_1 f3_2 f3_3 f3_4 f3_5 f3_6 f3_7 f3_8 f3_9 f3_10 f3_11 l3
            first | refine post_world ?_
            intro V56 hV56
            clear k8; have D87 := Lib.hid k3.lt; have D88 := Lib.hid hb0.size
            have nk3 : Blk V56 (w.heap.size + 1 + 1) #[.int .u64 0, .int .u64 0, .int .u64 0, .int .u64 0, .int .u64 0, .int .u64 0, .int .u64 0, .int .u64 0, .int .u64 0, .int .u64 0, .int .u64 0, .int .u64 0] 36 := by rw [hV56]; exact (blk_full _ [.int .u64 0, .int .u64 0, .int .u64 0, .int .u64 0, .int .u64 0, .int .u64 0, .int .u64 0, .int .u64 0, .int .u64 0, .int .u64 0, .int .u64 0, .int .u64 0] k3 rfl)
            have nhb0 : Below w.heap.size w V56 := by rw [hV56]; exact (blw_setL hb0 (by omega) 0 [.int .u64 0, .int .u64 0, .int .u64 0, .int .u64 0, .int .u64 0, .int .u64 0, .int .u64 0, .int .u64 0, .int .u64 0, .int .u64 0, .int .u64 0, .int .u64 0])
            clear k3; clear hb0; clear hV56; have k3 := nk3; clear nk3; have hb0 := nhb0; clear nhb0; obtain ⟨g3_0, g3_1, g3_2, g3_3, g3_4, g3_5, g3_6, g3_7, g3_8, g3_9, g3_10, g3_11⟩ := cel12 k3; clear k3
            simp [bodyPost, results, Try.results90, go_sem, g3_0, g3_1, g3_2, g3_3, g3_4, g3_5, g3_6, g3_7, g3_8, g3_9, g3_10, g3_11, wd0_0, wd1_0, wd2_0, wd3_0]
            first | exact hb0 | exact ⟨rfl, hb0⟩
          · obtain rfl : r63 = (-1) := by simpa using hz65
            clear hz65; obtain ⟨c3_0, c3_1, c3_2, c3_3, c3_4, c3_5, c3_6, c3_7, c3_8, c3_9, c3_10, c3_11⟩ := cel12 k3; obtain ⟨f3_0, f3_1, f3_2, f3_3, f3_4, f3_5, f3_6, f3_7, f3_8, f3_9, f3_10, f3_11⟩ := fre12 k3; have l3 := k3.lt
            have e0 : 2 = R0 := by rw [← HR0.out]; unfold shk; (try rw [Hr1.out]); (try rw [Hr2.out]); (try rw [Hr3.out]); (try rw [Hr4.out]); (try rw [Hr5.out]); (try rw [Hr6.out]); (try rw [Hr7.out]); (try rw [Hr8.out]); (try rw [Hr39.out]); (try rw [hz40]); (try rw [Hr55.out]); (try rw [hz56]); (try rw [Hr63.out]); (try rw [hz64]); all_goals first | rfl | simp
            have e1 : 0 = R1 := by rw [← HR1.out]; unfold shx; (try rw [Hr1.out]); (try rw [Hr2.out]); (try rw [Hr3.out]); (try rw [Hr4.out]); (try rw [Hr5.out]); (try rw [Hr6.out]); (try rw [Hr7.out]); (try rw [Hr8.out]); (try rw [Hr39.out]); (try rw [hz40]); (try rw [Hr55.out]); (try rw [hz56]); (try rw [Hr63.out]); (try rw [hz64]); all_goals first | rfl | simp
            have e2 : 0 = R2 := by rw [← HR2.out]; unfold shy; (try rw [Hr1.out]); (try rw [Hr2.out]); (try rw [Hr3.out]); (try rw [Hr4.out]); (try rw [Hr5.out]); (try rw [Hr6.out]); (try rw [Hr7.out]); (try rw [Hr8.out]); (try rw [Hr39.out]); (try rw [hz40]); (try rw [Hr55.out]); (try rw [hz56]); (try rw [Hr63.out]); (try rw [hz64]); all_goals first | rfl | simp
            have e3 : 0 = R3 := by rw [← HR3.out]; unfold shw; (try rw [Hr1.out]); (try rw [Hr2.out]); (try rw [Hr3.out]); (try rw [Hr4.out]); (try rw [Hr5.out]); (try rw [Hr6.out]); (try rw [Hr7.out]); (try rw [Hr8.out]); (try rw [Hr39.out]); (try rw [hz40]); (try rw [Hr55.out]); (try rw [hz56]); (try rw [Hr63.out]); (try rw [hz64]); all_goals first | rfl | simp
            subst e0; subst e1; subst e2; subst e3
            go_wp2
            clear c3_0 c3_1 c3_2 c3_3 c3_4 c3_5 c3_6 c3_7 c3_8 c3_9 c3_10 c3_11 f3_0 f3_1 f3_2 f3_3 f3_4 f3_5 f3_6 f3_7 f3_8 f3_9 f3_10 f3_11 l3
            first | refine post_world ?_
            intro V57 hV57
            clear k8; have D89 := Lib.hid k3.lt; have D90 := Lib.hid hb0.size
            have nk3 : Blk V57 (w.heap.size + 1 + 1) #[.int .u64 0, .int .u64 0, .int .u64 0, .int .u64 0, .int .u64 0, .int .u64 0, .int .u64 0, .int .u64 0, .int .u64 0, .int .u64 0, .int .u64 0, .int .u64 0] 36 := by rw [hV57]; exact (blk_full _ [.int .u64 0, .int .u64 0, .int .u64 0, .int .u64 0, .int .u64 0, .int .u64 0, .int .u64 0, .int .u64 0, .int .u64 0, .int .u64 0, .int .u64 0, .int .u64 0] k3 rfl)
            have nhb0 : Below w.heap.size w V57 := by rw [hV57]; exact (blw_setL hb0 (by omega) 0 [.int .u64 0, .int .u64 0, .int .u64 0, .int .u64 0, .int .u64 0, .int .u64 0, .int .u64 0, .int .u64 0, .int .u64 0, .int .u64 0, .int .u64 0, .int .u64 0])
            clear k3; clear hb0; clear hV57; have k3 := nk3; clear nk3; have hb0 := nhb0; clear nhb0; obtain ⟨g3_0, g3_1, g3_2, g3_3, g3_4, g3_5, g3_6, g3_7, g3_8, g3_9, g3_10, g3_11⟩ := cel12 k3; clear k3
            simp [bodyPost, results, Try.results90, go_sem, g3_0, g3_1, g3_2, g3_3, g3_4, g3_5, g3_6, g3_7, g3_8, g3_9, g3_10, g3_11, wd0_0, wd1_0, wd2_0, wd3_0]
            first | exact hb0 | exact ⟨rfl, hb0⟩
        · obtain rfl : r63 = 0 := by simpa using hz64
          clear hz64; have c8_0 : U55.cell? ⟨(V5.heap.size + 1), 0, none⟩ = some (.int .i64 r5) := k8.cell 0; have c8_1 : U55.cell? ⟨(V5.heap.size + 1), 1, none⟩ = some (.int .i64 r6) := k8.cell 1; have l8 := k8.lt
          go_wp2_with fail
          clear c8_0 c8_1 l8
          obtain ⟨r66, hr66⟩ : ∃ o_o : Int, atx r5 r6 = o_o := ⟨_, rfl⟩
          have Hr66 := Lib.hid hr66; clear hr66
          obtain ⟨r67, hr67⟩ : ∃ o_o : Int, aty r5 r6 = o_o := ⟨_, rfl⟩
          have Hr67 := Lib.hid hr67; clear hr67
          obtain ⟨r68, hr68⟩ : ∃ o_o : Int, atw r5 r6 = o_o := ⟨_, rfl⟩
          have Hr68 := Lib.hid hr68; clear hr68
          refine (crAt_is r5 r6 r66 r67 r68 Hr66.out Hr67.out Hr68.out (Hr5.out ▸ lwx_in cx cy dx dy _icx _icy _idx _idy) (Hr6.out ▸ lwy_in cx cy dx dy _icx _icy _idx _idy)  _).mono ?_
          rintro e U58 ⟨rfl, hn⟩
          clear k8; replace k3 := k3.of hn
          replace hb0 := hb0.trans (hn.mono hb0.size)
          clear hn; obtain ⟨c3_0, c3_1, c3_2, c3_3, c3_4, c3_5, c3_6, c3_7, c3_8, c3_9, c3_10, c3_11⟩ := cel12 k3; obtain ⟨f3_0, f3_1, f3_2, f3_3, f3_4, f3_5, f3_6, f3_7, f3_8, f3_9, f3_10, f3_11⟩ := fre12 k3; have l3 := k3.lt
          have e0 : 1 = R0 := by rw [← HR0.out]; unfold shk; (try rw [Hr1.out]); (try rw [Hr2.out]); (try rw [Hr3.out]); (try rw [Hr4.out]); (try rw [Hr5.out]); (try rw [Hr6.out]); (try rw [Hr7.out]); (try rw [Hr8.out]); (try rw [Hr39.out]); (try rw [hz40]); (try rw [Hr55.out]); (try rw [hz56]); (try rw [Hr63.out]); (try rw [Hr66.out]); (try rw [Hr67.out]); (try rw [Hr68.out]); all_goals first | rfl | simp
          have e1 : r66 = R1 := by rw [← HR1.out]; unfold shx; (try rw [Hr1.out]); (try rw [Hr2.out]); (try rw [Hr3.out]); (try rw [Hr4.out]); (try rw [Hr5.out]); (try rw [Hr6.out]); (try rw [Hr7.out]); (try rw [Hr8.out]); (try rw [Hr39.out]); (try rw [hz40]); (try rw [Hr55.out]); (try rw [hz56]); (try rw [Hr63.out]); (try rw [Hr66.out]); (try rw [Hr67.out]); (try rw [Hr68.out]); all_goals first | rfl | simp
          have e2 : r67 = R2 := by rw [← HR2.out]; unfold shy; (try rw [Hr1.out]); (try rw [Hr2.out]); (try rw [Hr3.out]); (try rw [Hr4.out]); (try rw [Hr5.out]); (try rw [Hr6.out]); (try rw [Hr7.out]); (try rw [Hr8.out]); (try rw [Hr39.out]); (try rw [hz40]); (try rw [Hr55.out]); (try rw [hz56]); (try rw [Hr63.out]); (try rw [Hr66.out]); (try rw [Hr67.out]); (try rw [Hr68.out]); all_goals first | rfl | simp
          have e3 : r68 = R3 := by rw [← HR3.out]; unfold shw; (try rw [Hr1.out]); (try rw [Hr2.out]); (try rw [Hr3.out]); (try rw [Hr4.out]); (try rw [Hr5.out]); (try rw [Hr6.out]); (try rw [Hr7.out]); (try rw [Hr8.out]); (try rw [Hr39.out]); (try rw [hz40]); (try rw [Hr55.out]); (try rw [hz56]); (try rw [Hr63.out]); (try rw [Hr66.out]); (try rw [Hr67.out]); (try rw [Hr68.out]); all_goals first | rfl | simp
          subst e0; subst e1; subst e2; subst e3
          go_wp2
          clear c3_0 c3_1 c3_2 c3_3 c3_4 c3_5 c3_6 c3_7 c3_8 c3_9 c3_10 c3_11 f3_0 f3_1 f3_2 f3_3 f3_4 f3_5 f3_6 f3_7 f3_8 f3_9 f3_10 f3_11 l3
          first | refine post_world ?_
          intro V59 hV59
          have D91 := Lib.hid k3.lt; have D92 := Lib.hid hb0.size
          have nk3 : Blk V59 (w.heap.size + 1 + 1) #[.int .u64 (wd0 r66), .int .u64 (wd1 r66), .int .u64 (wd2 r66), .int .u64 (wd3 r66), .int .u64 (wd0 r67), .int .u64 (wd1 r67), .int .u64 (wd2 r67), .int .u64 (wd3 r67), .int .u64 (wd0 r68), .int .u64 (wd1 r68), .int .u64 (wd2 r68), .int .u64 (wd3 r68)] 36 := by rw [hV59]; exact (blk_full _ [.int .u64 (wd0 r66), .int .u64 (wd1 r66), .int .u64 (wd2 r66), .int .u64 (wd3 r66), .int .u64 (wd0 r67), .int .u64 (wd1 r67), .int .u64 (wd2 r67), .int .u64 (wd3 r67), .int .u64 (wd0 r68), .int .u64 (wd1 r68), .int .u64 (wd2 r68), .int .u64 (wd3 r68)] k3 rfl)
          have nhb0 : Below w.heap.size w V59 := by rw [hV59]; exact (blw_setL hb0 (by omega) 0 [.int .u64 (wd0 r66), .int .u64 (wd1 r66), .int .u64 (wd2 r66), .int .u64 (wd3 r66), .int .u64 (wd0 r67), .int .u64 (wd1 r67), .int .u64 (wd2 r67), .int .u64 (wd3 r67), .int .u64 (wd0 r68), .int .u64 (wd1 r68), .int .u64 (wd2 r68), .int .u64 (wd3 r68)])
          clear k3; clear hb0; clear hV59; have k3 := nk3; clear nk3; have hb0 := nhb0; clear nhb0; obtain ⟨g3_0, g3_1, g3_2, g3_3, g3_4, g3_5, g3_6, g3_7, g3_8, g3_9, g3_10, g3_11⟩ := cel12 k3; clear k3
          simp [bodyPost, results, Try.results90, go_sem, g3_0, g3_1, g3_2, g3_3, g3_4, g3_5, g3_6, g3_7, g3_8, g3_9, g3_10, g3_11]
          first | exact hb0 | exact ⟨rfl, hb0⟩
end Go.Proofs.Ytkaolhlmimalkaa

