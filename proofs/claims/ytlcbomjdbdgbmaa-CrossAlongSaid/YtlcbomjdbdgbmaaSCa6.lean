/- My texts CrL6, CrN, CrN2, joined: what the last one needs of them. Conditions: as each lemma says. -/
import Derived.Test.YtlcbomjdbdgbmaaSCa5
import Derived.KernelRfl
import Derived.StillTail
import Derived.OrdersHeld
import Derived.Deep.Quiet
import Derived.Below
import Derived.WalkKit
import Derived.Test.YtlcbomjdbdgbmaaProg
import Derived.WalkSpells
import Derived.StillTactics
import Derived.Laws.Pointers
import Derived.Deep.RegionHeld3
import Derived.RowKit3
import Derived.Deep.QuietTactic
import Derived.BigQuiet
import Derived.BigRegion
import Derived.Lib.Hide
import Derived.WalkSmall
import Derived.Laws.BitsAllLaws
import Derived.IntWalk
import Derived.Deep.OwnRows
import Derived.Deep.LoopGhost
import Derived.Shelf.Bits.Mul64
import Derived.ProofKit
import Derived.OpenShut
import Derived.ShutString
import Derived.ChangeOld
import Derived.Lib.SmallJoins
import Derived.Laws.IdiomArrays
namespace Go.Proofs.Ytlcbomjdbdgbmaa
open Go.RowKit

set_option maxRecDepth 100000 in
set_option maxHeartbeats 4000000 in

theorem CAlong_A (ax : Int) (ay : Int) (bx : Int) (b_y : Int) (cx : Int) (cy : Int) (dx : Int) (dy : Int) (k : Int) (px : Int) (py : Int) (pw : Int) (sx : Int) (sy : Int) (sw : Int)   (hP0 : mtk ax ay bx b_y cx cy dx dy = k) (hP1 : mtx ax ay bx b_y cx cy dx dy = px) (hP2 : mty ax ay bx b_y cx cy dx dy = py) (hP3 : mtw ax ay bx b_y cx cy dx dy = pw) (hP4 : mtk ax ay bx b_y dx dy cx cy = k) (hP5 : mtx ax ay bx b_y dx dy cx cy = px) (hP6 : mty ax ay bx b_y dx dy cx cy = py) (hP7 : mtw ax ay bx b_y dx dy cx cy = pw) (hP8 : mtk bx b_y ax ay cx cy dx dy = k) (hP9 : mtx bx b_y ax ay cx cy dx dy = px) (hP10 : mty bx b_y ax ay cx cy dx dy = py) (hP11 : mtw bx b_y ax ay cx cy dx dy = pw) (hP12 : mtk bx b_y ax ay dx dy cx cy = k) (hP13 : mtx bx b_y ax ay dx dy cx cy = px) (hP14 : mty bx b_y ax ay dx dy cx cy = py) (hP15 : mtw bx b_y ax ay dx dy cx cy = pw) (hP16 : spC px py pw px py pw = 0) (hP17 : crR ax ay bx b_y = false) (hP18 : mtk ax ay bx b_y ax ay bx b_y = 0) (hP19 : mtx ax ay bx b_y ax ay bx b_y = sx) (hP20 : mty ax ay bx b_y ax ay bx b_y = sy) (hP21 : mtw ax ay bx b_y ax ay bx b_y = sw) (_ipx : InI px) (_ipy : InI py) (_ipw : InI pw) (_iax : In64 ax) (_iay : In64 ay) (_ibx : In64 bx) (_ib_y : In64 b_y) (_icx : In64 cx) (_icy : In64 cy) (_idx : In64 dx) (_idy : In64 dy)  (w : World)  :
    Calls Try.prog 13 #[.agg #[.int .i64 ax, .int .i64 ay, .int .i64 bx, .int .i64 b_y], .agg #[.int .i64 cx, .int .i64 cy, .int .i64 dx, .int .i64 dy]] w fun e w' => e = .returned (.bool true) ∧ Below w.heap.size w w' := by

  have HP0 := Lib.hid hP0
  clear hP0
  have HP1 := Lib.hid hP1
  clear hP1
  have HP2 := Lib.hid hP2
  clear hP2
  have HP3 := Lib.hid hP3
  clear hP3
  have HP4 := Lib.hid hP4
  clear hP4
  have HP5 := Lib.hid hP5
  clear hP5
  have HP6 := Lib.hid hP6
  clear hP6
  have HP7 := Lib.hid hP7
  clear hP7
  have HP8 := Lib.hid hP8
  clear hP8
  have HP9 := Lib.hid hP9
  clear hP9
  have HP10 := Lib.hid hP10
  clear hP10
  have HP11 := Lib.hid hP11
  clear hP11
  have HP12 := Lib.hid hP12
  clear hP12
  have HP13 := Lib.hid hP13
  clear hP13
  have HP14 := Lib.hid hP14
  clear hP14
  have HP15 := Lib.hid hP15
  clear hP15
  have HP16 := Lib.hid hP16
  clear hP16
  have HP17 := Lib.hid hP17
  clear hP17
  have HP18 := Lib.hid hP18
  clear hP18
  have HP19 := Lib.hid hP19
  clear hP19
  have HP20 := Lib.hid hP20
  clear hP20
  have HP21 := Lib.hid hP21
  clear hP21
  go_enter Try.func13, Try.ntmps13
  go_wp2_with fail
  first | refine calls_w ?_ | refine name_world ?_ | refine list_world ?_ | refine post_world ?_
  intro V1 hV1
  have hn : Below w.heap.size w V1 := by rw [hV1]; exact below_a2 _ _ _
  have nhb0 := hn
  have k1 : Blk V1 w.heap.size #[.int .i64 ax, .int .i64 ay, .int .i64 bx, .int .i64 b_y] 50 := by rw [hV1]; exact ((Blk.new _ _ _).alloc _)
  have k2 : Blk V1 (w.heap.size + 1) #[.int .i64 cx, .int .i64 cy, .int .i64 dx, .int .i64 dy] 50 := by rw [hV1]; exact (Blk.new1 _ _ _ _)
  clear hV1
  have hb0 := nhb0
  clear nhb0
  refine (Meet_is ax ay bx b_y cx cy dx dy k px py pw HP0.out HP1.out HP2.out HP3.out _iax _iay _ibx _ib_y _icx _icy _idx _idy  _).mono ?_
  rintro e U2 ⟨rfl, hn⟩
  replace k1 := k1.of hn
  replace k2 := k2.of hn
  replace hb0 := hb0.trans (hn.mono hb0.size)
  clear hn
  have c1_0 : U2.cell? ⟨w.heap.size, 0, none⟩ = some (.int .i64 ax) := k1.cell 0
  have c1_1 : U2.cell? ⟨w.heap.size, 1, none⟩ = some (.int .i64 ay) := k1.cell 1
  have c1_2 : U2.cell? ⟨w.heap.size, 2, none⟩ = some (.int .i64 bx) := k1.cell 2
  have c1_3 : U2.cell? ⟨w.heap.size, 3, none⟩ = some (.int .i64 b_y) := k1.cell 3
  have l1 := k1.lt
  go_wp2_with fail
  clear c1_0 c1_1 c1_2 c1_3 l1
  refine wp_loop_in ?_
  first | refine loop_world ?_
  intro V3 hV3
  have D1 := Lib.hid k1.lt
  have D2 := Lib.hid k2.lt
  have D3 := Lib.hid hb0.size
  have hn : Below U2.heap.size U2 V3 := by rw [hV3]; exact below_a2 _ _ _
  have nk1 := k1.of hn
  have nk2 := k2.of hn
  have nhb0 := hb0.trans (hn.mono hb0.size)
  clear hn
  have k3 : Blk V3 U2.heap.size #[.int .u64 (wd0 px), .int .u64 (wd1 px), .int .u64 (wd2 px), .int .u64 (wd3 px), .int .u64 (wd0 py), .int .u64 (wd1 py), .int .u64 (wd2 py), .int .u64 (wd3 py), .int .u64 (wd0 pw), .int .u64 (wd1 pw), .int .u64 (wd2 pw), .int .u64 (wd3 pw)] 67 := by rw [hV3]; exact ((Blk.new _ _ _).alloc _)
  have k4 : Blk V3 (U2.heap.size + 1) #[.int .i64 ax, .int .i64 ay, .int .i64 bx, .int .i64 b_y, .int .i64 bx, .int .i64 b_y, .int .i64 ax, .int .i64 ay] 50 := by rw [hV3]; exact (Blk.new1 _ _ _ _)
  clear k1 k2
  clear hb0
  clear hV3
  have k1 := nk1
  clear nk1
  have k2 := nk2
  clear nk2
  have hb0 := nhb0
  clear nhb0
  refine loopin_round ?_
  intro KL1 hKL1
  have c2_0 : V3.cell? ⟨(w.heap.size + 1), 0, none⟩ = some (.int .i64 cx) := k2.cell 0
  have c2_1 : V3.cell? ⟨(w.heap.size + 1), 1, none⟩ = some (.int .i64 cy) := k2.cell 1
  have c2_2 : V3.cell? ⟨(w.heap.size + 1), 2, none⟩ = some (.int .i64 dx) := k2.cell 2
  have c2_3 : V3.cell? ⟨(w.heap.size + 1), 3, none⟩ = some (.int .i64 dy) := k2.cell 3
  have l2 := k2.lt
  have l2_0 : w.heap.size < V3.heap.size := by have := k2.lt; omega
  have c4_0 : V3.cell? ⟨(U2.heap.size + 1), 0, none⟩ = some (.int .i64 ax) := k4.cell 0
  have c4_1 : V3.cell? ⟨(U2.heap.size + 1), 1, none⟩ = some (.int .i64 ay) := k4.cell 1
  have c4_2 : V3.cell? ⟨(U2.heap.size + 1), 2, none⟩ = some (.int .i64 bx) := k4.cell 2
  have c4_3 : V3.cell? ⟨(U2.heap.size + 1), 3, none⟩ = some (.int .i64 b_y) := k4.cell 3
  have l4 := k4.lt
  have l4_0 : U2.heap.size < V3.heap.size := by have := k4.lt; omega
  go_wp2_with fail
  clear c2_0 c2_1 c2_2 c2_3 l2 l2_0 c4_0 c4_1 c4_2 c4_3 l4 l4_0
  refine wp_loop_in ?_
  first | refine loop_world ?_
  intro V4 hV4
  have D4 := Lib.hid k1.lt
  have D5 := Lib.hid k2.lt
  have D6 := Lib.hid k3.lt
  have D7 := Lib.hid k4.lt
  have D8 := Lib.hid hb0.size
  have hn : Below V3.heap.size V3 V4 := by rw [hV4]; exact below_a2 _ _ _
  have nk1 := k1.of hn
  have nk2 := k2.of hn
  have nk3 := k3.of hn
  have nk4 := k4.of hn
  have nhb0 := hb0.trans (hn.mono hb0.size)
  clear hn
  have k5 : Blk V4 V3.heap.size #[.int .i64 ax, .int .i64 ay, .int .i64 bx, .int .i64 b_y] 50 := by rw [hV4]; exact ((Blk.new _ _ _).alloc _)
  have k6 : Blk V4 (V3.heap.size + 1) #[.int .i64 cx, .int .i64 cy, .int .i64 dx, .int .i64 dy, .int .i64 dx, .int .i64 dy, .int .i64 cx, .int .i64 cy] 50 := by rw [hV4]; exact (Blk.new1 _ _ _ _)
  clear k1 k2 k3 k4
  clear hb0
  clear hV4
  have k1 := nk1
  clear nk1
  have k2 := nk2
  clear nk2
  have k3 := nk3
  clear nk3
  have k4 := nk4
  clear nk4
  have hb0 := nhb0
  clear nhb0
  refine loopin_round ?_
  intro KL2 hKL2
  have c5_0 : V4.cell? ⟨V3.heap.size, 0, none⟩ = some (.int .i64 ax) := k5.cell 0
  have c5_1 : V4.cell? ⟨V3.heap.size, 1, none⟩ = some (.int .i64 ay) := k5.cell 1
  have c5_2 : V4.cell? ⟨V3.heap.size, 2, none⟩ = some (.int .i64 bx) := k5.cell 2
  have c5_3 : V4.cell? ⟨V3.heap.size, 3, none⟩ = some (.int .i64 b_y) := k5.cell 3
  have l5 := k5.lt
  have c6_0 : V4.cell? ⟨(V3.heap.size + 1), 0, none⟩ = some (.int .i64 cx) := k6.cell 0
  have c6_1 : V4.cell? ⟨(V3.heap.size + 1), 1, none⟩ = some (.int .i64 cy) := k6.cell 1
  have c6_2 : V4.cell? ⟨(V3.heap.size + 1), 2, none⟩ = some (.int .i64 dx) := k6.cell 2
  have c6_3 : V4.cell? ⟨(V3.heap.size + 1), 3, none⟩ = some (.int .i64 dy) := k6.cell 3
  have l6 := k6.lt
  have l6_0 : V3.heap.size < V4.heap.size := by have := k6.lt; omega
  go_wp2_with fail
  clear c5_0 c5_1 c5_2 c5_3 l5 c6_0 c6_1 c6_2 c6_3 l6 l6_0
  first | refine calls_w ?_ | refine name_world ?_ | refine list_world ?_ | refine post_world ?_
  intro V5 hV5
  have D9 := Lib.hid k1.lt
  have D10 := Lib.hid k2.lt
  have D11 := Lib.hid k3.lt
  have D12 := Lib.hid k4.lt
  have D13 := Lib.hid k5.lt
  have D14 := Lib.hid k6.lt
  have D15 := Lib.hid hb0.size
  have hn : Below V4.heap.size V4 V5 := by rw [hV5]; exact below_a1 _ _
  have nk1 := k1.of hn
  have nk2 := k2.of hn
  have nk3 := k3.of hn
  have nk4 := k4.of hn
  have nk5 := k5.of hn
  have nk6 := k6.of hn
  have nhb0 := hb0.trans (hn.mono hb0.size)
  clear hn
  have k7 : Blk V5 V4.heap.size #[.int .i64 cx, .int .i64 cy, .int .i64 dx, .int .i64 dy] 50 := by rw [hV5]; exact (Blk.new _ _ _)
  clear k1 k2 k3 k4 k5 k6
  clear hb0
  clear hV5
  have k1 := nk1
  clear nk1
  have k2 := nk2
  clear nk2
  have k3 := nk3
  clear nk3
  have k4 := nk4
  clear nk4
  have k5 := nk5
  clear nk5
  have k6 := nk6
  clear nk6
  have hb0 := nhb0
  clear nhb0
  refine (Meet_is ax ay bx b_y cx cy dx dy k px py pw HP0.out HP1.out HP2.out HP3.out _iax _iay _ibx _ib_y _icx _icy _idx _idy  _).mono ?_
  rintro e U6 ⟨rfl, hn⟩
  replace k1 := k1.of hn
  replace k2 := k2.of hn
  replace k3 := k3.of hn
  replace k4 := k4.of hn
  replace k5 := k5.of hn
  replace k6 := k6.of hn
  replace k7 := k7.of hn
  replace hb0 := hb0.trans (hn.mono hb0.size)
  clear hn
  obtain ⟨z1, hz1⟩ : ∃ o_o : Bool, (k == 1) = o_o := ⟨_, rfl⟩
  cases z1
  · have nz1 : ¬ k = 1 := by simpa using hz1
    go_wp2_with fail
    refine hKL2.out _ _ ?_
    clear hKL2
    try clear KL2
    first | refine loop_world ?_
    intro V7 hV7
    have D16 := Lib.hid k1.lt
    have D17 := Lib.hid k2.lt
    have D18 := Lib.hid k3.lt
    have D19 := Lib.hid k4.lt
    have D20 := Lib.hid k5.lt
    have D21 := Lib.hid k6.lt
    have D22 := Lib.hid k7.lt
    have D23 := Lib.hid hb0.size
    have hn : Below U6.heap.size U6 V7 := by rw [hV7]; exact below_a1 _ _
    have nk1 := k1.of hn
    have nk2 := k2.of hn
    have nk3 := k3.of hn
    have nk4 := k4.of hn
    have nk5 := k5.of hn
    have nk6 := k6.of hn
    have nk7 := k7.of hn
    have nhb0 := hb0.trans (hn.mono hb0.size)
    clear hn
    have k9 : Blk V7 U6.heap.size #[.int .u64 (wd0 px), .int .u64 (wd1 px), .int .u64 (wd2 px), .int .u64 (wd3 px), .int .u64 (wd0 py), .int .u64 (wd1 py), .int .u64 (wd2 py), .int .u64 (wd3 py), .int .u64 (wd0 pw), .int .u64 (wd1 pw), .int .u64 (wd2 pw), .int .u64 (wd3 pw)] 67 := by rw [hV7]; exact (Blk.new _ _ _)
    clear k1 k2 k3 k4 k5 k6 k7
    clear hb0
    clear hV7
    have k1 := nk1
    clear nk1
    have k2 := nk2
    clear nk2
    have k3 := nk3
    clear nk3
    have k4 := nk4
    clear nk4
    have k5 := nk5
    clear nk5
    have k6 := nk6
    clear nk6
    have k7 := nk7
    clear nk7
    have hb0 := nhb0
    clear nhb0
    refine loopin_round ?_
    intro KL2 hKL2
    have c5_0 : V7.cell? ⟨V3.heap.size, 0, none⟩ = some (.int .i64 ax) := k5.cell 0
    have c5_1 : V7.cell? ⟨V3.heap.size, 1, none⟩ = some (.int .i64 ay) := k5.cell 1
    have c5_2 : V7.cell? ⟨V3.heap.size, 2, none⟩ = some (.int .i64 bx) := k5.cell 2
    have c5_3 : V7.cell? ⟨V3.heap.size, 3, none⟩ = some (.int .i64 b_y) := k5.cell 3
    have l5 := k5.lt
    have c6_4 : V7.cell? ⟨(V3.heap.size + 1), 4, none⟩ = some (.int .i64 dx) := k6.cell 4
    have c6_5 : V7.cell? ⟨(V3.heap.size + 1), 5, none⟩ = some (.int .i64 dy) := k6.cell 5
    have c6_6 : V7.cell? ⟨(V3.heap.size + 1), 6, none⟩ = some (.int .i64 cx) := k6.cell 6
    have c6_7 : V7.cell? ⟨(V3.heap.size + 1), 7, none⟩ = some (.int .i64 cy) := k6.cell 7
    have l6 := k6.lt
    have l6_0 : V3.heap.size < V7.heap.size := by have := k6.lt; omega
    go_wp2_with fail
    clear c5_0 c5_1 c5_2 c5_3 l5 c6_4 c6_5 c6_6 c6_7 l6 l6_0
    first | refine calls_w ?_ | refine name_world ?_ | refine list_world ?_ | refine post_world ?_
    intro V8 hV8
    clear k7
    have D24 := Lib.hid k1.lt
    have D25 := Lib.hid k2.lt
    have D26 := Lib.hid k3.lt
    have D27 := Lib.hid k4.lt
    have D28 := Lib.hid k5.lt
    have D29 := Lib.hid k6.lt
    have D30 := Lib.hid k9.lt
    have D31 := Lib.hid hb0.size
    have hn : Below V7.heap.size V7 V8 := by rw [hV8]; exact below_a1 _ _
    have nk1 := k1.of hn
    have nk2 := k2.of hn
    have nk3 := k3.of hn
    have nk4 := k4.of hn
    have nk5 := k5.of hn
    have nk6 := k6.of hn
    have nk9 := k9.of hn
    have nhb0 := hb0.trans (hn.mono hb0.size)
    clear hn
    have k10 : Blk V8 V7.heap.size #[.int .i64 dx, .int .i64 dy, .int .i64 cx, .int .i64 cy] 50 := by rw [hV8]; exact (Blk.new _ _ _)
    clear k1 k2 k3 k4 k5 k6 k9
    clear hb0
    clear hV8
    have k1 := nk1
    clear nk1
    have k2 := nk2
    clear nk2
    have k3 := nk3
    clear nk3
    have k4 := nk4
    clear nk4
    have k5 := nk5
    clear nk5
    have k6 := nk6
    clear nk6
    have k9 := nk9
    clear nk9
    have hb0 := nhb0
    clear nhb0
    refine (Meet_is ax ay bx b_y dx dy cx cy k px py pw HP4.out HP5.out HP6.out HP7.out _iax _iay _ibx _ib_y _idx _idy _icx _icy  _).mono ?_
    rintro e U9 ⟨rfl, hn⟩
    replace k1 := k1.of hn
    replace k2 := k2.of hn
    replace k3 := k3.of hn
    replace k4 := k4.of hn
    replace k5 := k5.of hn
    replace k6 := k6.of hn
    replace k9 := k9.of hn
    replace k10 := k10.of hn
    replace hb0 := hb0.trans (hn.mono hb0.size)
    clear hn
    go_wp2_with fail
    refine hKL2.out _ _ ?_
    clear hKL2
    try clear KL2
    first | refine loop_world ?_
    intro V10 hV10
    clear k9
    have D32 := Lib.hid k1.lt
    have D33 := Lib.hid k2.lt
    have D34 := Lib.hid k3.lt
    have D35 := Lib.hid k4.lt
    have D36 := Lib.hid k5.lt
    have D37 := Lib.hid k6.lt
    have D38 := Lib.hid k10.lt
    have D39 := Lib.hid hb0.size
    have hn : Below U9.heap.size U9 V10 := by rw [hV10]; exact below_a1 _ _
    have nk1 := k1.of hn
    have nk2 := k2.of hn
    have nk3 := k3.of hn
    have nk4 := k4.of hn
    have nk5 := k5.of hn
    have nk6 := k6.of hn
    have nk10 := k10.of hn
    have nhb0 := hb0.trans (hn.mono hb0.size)
    clear hn
    have k11 : Blk V10 U9.heap.size #[.int .u64 (wd0 px), .int .u64 (wd1 px), .int .u64 (wd2 px), .int .u64 (wd3 px), .int .u64 (wd0 py), .int .u64 (wd1 py), .int .u64 (wd2 py), .int .u64 (wd3 py), .int .u64 (wd0 pw), .int .u64 (wd1 pw), .int .u64 (wd2 pw), .int .u64 (wd3 pw)] 67 := by rw [hV10]; exact (Blk.new _ _ _)
    clear k1 k2 k3 k4 k5 k6 k10
    clear hb0
    clear hV10
    have k1 := nk1
    clear nk1
    have k2 := nk2
    clear nk2
    have k3 := nk3
    clear nk3
    have k4 := nk4
    clear nk4
    have k5 := nk5
    clear nk5
    have k6 := nk6
    clear nk6
    have k10 := nk10
    clear nk10
    have hb0 := nhb0
    clear nhb0
    refine loopin_round ?_
    intro KL2 hKL2
    go_wp2_with fail
    refine hKL1.out _ _ ?_
    clear hKL2 hKL1
    try clear KL2
    try clear KL1
    refine loopin_round ?_
    intro KL1 hKL1
    have c2_0 : V10.cell? ⟨(w.heap.size + 1), 0, none⟩ = some (.int .i64 cx) := k2.cell 0
    have c2_1 : V10.cell? ⟨(w.heap.size + 1), 1, none⟩ = some (.int .i64 cy) := k2.cell 1
    have c2_2 : V10.cell? ⟨(w.heap.size + 1), 2, none⟩ = some (.int .i64 dx) := k2.cell 2
    have c2_3 : V10.cell? ⟨(w.heap.size + 1), 3, none⟩ = some (.int .i64 dy) := k2.cell 3
    have l2 := k2.lt
    have l2_0 : w.heap.size < V10.heap.size := by have := k2.lt; omega
    have c4_4 : V10.cell? ⟨(U2.heap.size + 1), 4, none⟩ = some (.int .i64 bx) := k4.cell 4
    have c4_5 : V10.cell? ⟨(U2.heap.size + 1), 5, none⟩ = some (.int .i64 b_y) := k4.cell 5
    have c4_6 : V10.cell? ⟨(U2.heap.size + 1), 6, none⟩ = some (.int .i64 ax) := k4.cell 6
    have c4_7 : V10.cell? ⟨(U2.heap.size + 1), 7, none⟩ = some (.int .i64 ay) := k4.cell 7
    have l4 := k4.lt
    have l4_0 : U2.heap.size < V10.heap.size := by have := k4.lt; omega
    go_wp2_with fail
    clear c2_0 c2_1 c2_2 c2_3 l2 l2_0 c4_4 c4_5 c4_6 c4_7 l4 l4_0
    refine wp_loop_in ?_
    first | refine loop_world ?_
    intro V11 hV11
    clear k5
    have D40 := Lib.hid k1.lt
    have D41 := Lib.hid k2.lt
    have D42 := Lib.hid k3.lt
    have D43 := Lib.hid k4.lt
    have D44 := Lib.hid k6.lt
    have D45 := Lib.hid k10.lt
    have D46 := Lib.hid k11.lt
    have D47 := Lib.hid hb0.size
    have hn : Below V10.heap.size V10 V11 := by rw [hV11]; exact below_a2 _ _ _
    have nk1 := k1.of hn
    have nk2 := k2.of hn
    have nk3 := k3.of hn
    have nk4 := k4.of hn
    have nk6 := k6.of hn
    have nk10 := k10.of hn
    have nk11 := k11.of hn
    have nhb0 := hb0.trans (hn.mono hb0.size)
    clear hn
    have k12 : Blk V11 V10.heap.size #[.int .i64 bx, .int .i64 b_y, .int .i64 ax, .int .i64 ay] 50 := by rw [hV11]; exact ((Blk.new _ _ _).alloc _)
    have k13 : Blk V11 (V10.heap.size + 1) #[.int .i64 cx, .int .i64 cy, .int .i64 dx, .int .i64 dy, .int .i64 dx, .int .i64 dy, .int .i64 cx, .int .i64 cy] 50 := by rw [hV11]; exact (Blk.new1 _ _ _ _)
    clear k1 k2 k3 k4 k6 k10 k11
    clear hb0
    clear hV11
    have k1 := nk1
    clear nk1
    have k2 := nk2
    clear nk2
    have k3 := nk3
    clear nk3
    have k4 := nk4
    clear nk4
    have k6 := nk6
    clear nk6
    have k10 := nk10
    clear nk10
    have k11 := nk11
    clear nk11
    have hb0 := nhb0
    clear nhb0
    refine loopin_round ?_
    intro KL3 hKL3
    have c12_0 : V11.cell? ⟨V10.heap.size, 0, none⟩ = some (.int .i64 bx) := k12.cell 0
    have c12_1 : V11.cell? ⟨V10.heap.size, 1, none⟩ = some (.int .i64 b_y) := k12.cell 1
    have c12_2 : V11.cell? ⟨V10.heap.size, 2, none⟩ = some (.int .i64 ax) := k12.cell 2
    have c12_3 : V11.cell? ⟨V10.heap.size, 3, none⟩ = some (.int .i64 ay) := k12.cell 3
    have l12 := k12.lt
    have c13_0 : V11.cell? ⟨(V10.heap.size + 1), 0, none⟩ = some (.int .i64 cx) := k13.cell 0
    have c13_1 : V11.cell? ⟨(V10.heap.size + 1), 1, none⟩ = some (.int .i64 cy) := k13.cell 1
    have c13_2 : V11.cell? ⟨(V10.heap.size + 1), 2, none⟩ = some (.int .i64 dx) := k13.cell 2
    have c13_3 : V11.cell? ⟨(V10.heap.size + 1), 3, none⟩ = some (.int .i64 dy) := k13.cell 3
    have l13 := k13.lt
    have l13_0 : V10.heap.size < V11.heap.size := by have := k13.lt; omega
    go_wp2_with fail
    clear c12_0 c12_1 c12_2 c12_3 l12 c13_0 c13_1 c13_2 c13_3 l13 l13_0
    first | refine calls_w ?_ | refine name_world ?_ | refine list_world ?_ | refine post_world ?_
    intro V12 hV12
    clear k6 k10
    have D48 := Lib.hid k1.lt
    have D49 := Lib.hid k2.lt
    have D50 := Lib.hid k3.lt
    have D51 := Lib.hid k4.lt
    have D52 := Lib.hid k11.lt
    have D53 := Lib.hid k12.lt
    have D54 := Lib.hid k13.lt
    have D55 := Lib.hid hb0.size
    have hn : Below V11.heap.size V11 V12 := by rw [hV12]; exact below_a1 _ _
    have nk1 := k1.of hn
    have nk2 := k2.of hn
    have nk3 := k3.of hn
    have nk4 := k4.of hn
    have nk11 := k11.of hn
    have nk12 := k12.of hn
    have nk13 := k13.of hn
    have nhb0 := hb0.trans (hn.mono hb0.size)
    clear hn
    have k14 : Blk V12 V11.heap.size #[.int .i64 cx, .int .i64 cy, .int .i64 dx, .int .i64 dy] 50 := by rw [hV12]; exact (Blk.new _ _ _)
    clear k1 k2 k3 k4 k11 k12 k13
    clear hb0
    clear hV12
    have k1 := nk1
    clear nk1
    have k2 := nk2
    clear nk2
    have k3 := nk3
    clear nk3
    have k4 := nk4
    clear nk4
    have k11 := nk11
    clear nk11
    have k12 := nk12
    clear nk12
    have k13 := nk13
    clear nk13
    have hb0 := nhb0
    clear nhb0
    refine (Meet_is bx b_y ax ay cx cy dx dy k px py pw HP8.out HP9.out HP10.out HP11.out _ibx _ib_y _iax _iay _icx _icy _idx _idy  _).mono ?_
    rintro e U13 ⟨rfl, hn⟩
    replace k1 := k1.of hn
    replace k2 := k2.of hn
    replace k3 := k3.of hn
    replace k4 := k4.of hn
    replace k11 := k11.of hn
    replace k12 := k12.of hn
    replace k13 := k13.of hn
    replace k14 := k14.of hn
    replace hb0 := hb0.trans (hn.mono hb0.size)
    clear hn
    go_wp2_with fail
    refine hKL3.out _ _ ?_
    clear hKL3
    try clear KL3
    first | refine loop_world ?_
    intro V14 hV14
    clear k11
    have D56 := Lib.hid k1.lt
    have D57 := Lib.hid k2.lt
    have D58 := Lib.hid k3.lt
    have D59 := Lib.hid k4.lt
    have D60 := Lib.hid k12.lt
    have D61 := Lib.hid k13.lt
    have D62 := Lib.hid k14.lt
    have D63 := Lib.hid hb0.size
    have hn : Below U13.heap.size U13 V14 := by rw [hV14]; exact below_a1 _ _
    have nk1 := k1.of hn
    have nk2 := k2.of hn
    have nk3 := k3.of hn
    have nk4 := k4.of hn
    have nk12 := k12.of hn
    have nk13 := k13.of hn
    have nk14 := k14.of hn
    have nhb0 := hb0.trans (hn.mono hb0.size)
    clear hn
    have k15 : Blk V14 U13.heap.size #[.int .u64 (wd0 px), .int .u64 (wd1 px), .int .u64 (wd2 px), .int .u64 (wd3 px), .int .u64 (wd0 py), .int .u64 (wd1 py), .int .u64 (wd2 py), .int .u64 (wd3 py), .int .u64 (wd0 pw), .int .u64 (wd1 pw), .int .u64 (wd2 pw), .int .u64 (wd3 pw)] 67 := by rw [hV14]; exact (Blk.new _ _ _)
    clear k1 k2 k3 k4 k12 k13 k14
    clear hb0
    clear hV14
    have k1 := nk1
    clear nk1
    have k2 := nk2
    clear nk2
    have k3 := nk3
    clear nk3
    have k4 := nk4
    clear nk4
    have k12 := nk12
    clear nk12
    have k13 := nk13
    clear nk13
    have k14 := nk14
    clear nk14
    have hb0 := nhb0
    clear nhb0
    refine loopin_round ?_
    intro KL3 hKL3
    have c12_0 : V14.cell? ⟨V10.heap.size, 0, none⟩ = some (.int .i64 bx) := k12.cell 0
    have c12_1 : V14.cell? ⟨V10.heap.size, 1, none⟩ = some (.int .i64 b_y) := k12.cell 1
    have c12_2 : V14.cell? ⟨V10.heap.size, 2, none⟩ = some (.int .i64 ax) := k12.cell 2
    have c12_3 : V14.cell? ⟨V10.heap.size, 3, none⟩ = some (.int .i64 ay) := k12.cell 3
    have l12 := k12.lt
    have c13_4 : V14.cell? ⟨(V10.heap.size + 1), 4, none⟩ = some (.int .i64 dx) := k13.cell 4
    have c13_5 : V14.cell? ⟨(V10.heap.size + 1), 5, none⟩ = some (.int .i64 dy) := k13.cell 5
    have c13_6 : V14.cell? ⟨(V10.heap.size + 1), 6, none⟩ = some (.int .i64 cx) := k13.cell 6
    have c13_7 : V14.cell? ⟨(V10.heap.size + 1), 7, none⟩ = some (.int .i64 cy) := k13.cell 7
    have l13 := k13.lt
    have l13_0 : V10.heap.size < V14.heap.size := by have := k13.lt; omega
    go_wp2_with fail
    clear c12_0 c12_1 c12_2 c12_3 l12 c13_4 c13_5 c13_6 c13_7 l13 l13_0
    first | refine calls_w ?_ | refine name_world ?_ | refine list_world ?_ | refine post_world ?_
    intro V15 hV15
    clear k14
    have D64 := Lib.hid k1.lt
    have D65 := Lib.hid k2.lt
    have D66 := Lib.hid k3.lt
    have D67 := Lib.hid k4.lt
    have D68 := Lib.hid k12.lt
    have D69 := Lib.hid k13.lt
    have D70 := Lib.hid k15.lt
    have D71 := Lib.hid hb0.size
    have hn : Below V14.heap.size V14 V15 := by rw [hV15]; exact below_a1 _ _
    have nk1 := k1.of hn
    have nk2 := k2.of hn
    have nk3 := k3.of hn
    have nk4 := k4.of hn
    have nk12 := k12.of hn
    have nk13 := k13.of hn
    have nk15 := k15.of hn
    have nhb0 := hb0.trans (hn.mono hb0.size)
    clear hn
    have k16 : Blk V15 V14.heap.size #[.int .i64 dx, .int .i64 dy, .int .i64 cx, .int .i64 cy] 50 := by rw [hV15]; exact (Blk.new _ _ _)
    clear k1 k2 k3 k4 k12 k13 k15
    clear hb0
    clear hV15
    have k1 := nk1
    clear nk1
    have k2 := nk2
    clear nk2
    have k3 := nk3
    clear nk3
    have k4 := nk4
    clear nk4
    have k12 := nk12
    clear nk12
    have k13 := nk13
    clear nk13
    have k15 := nk15
    clear nk15
    have hb0 := nhb0
    clear nhb0
    refine (Meet_is bx b_y ax ay dx dy cx cy k px py pw HP12.out HP13.out HP14.out HP15.out _ibx _ib_y _iax _iay _idx _idy _icx _icy  _).mono ?_
    rintro e U16 ⟨rfl, hn⟩
    replace k1 := k1.of hn
    replace k2 := k2.of hn
    replace k3 := k3.of hn
    replace k4 := k4.of hn
    replace k12 := k12.of hn
    replace k13 := k13.of hn
    replace k15 := k15.of hn
    replace k16 := k16.of hn
    replace hb0 := hb0.trans (hn.mono hb0.size)
    clear hn
    go_wp2_with fail
    refine hKL3.out _ _ ?_
    clear hKL3
    try clear KL3
    first | refine loop_world ?_
    intro V17 hV17
    clear k15
    have D72 := Lib.hid k1.lt
    have D73 := Lib.hid k2.lt
    have D74 := Lib.hid k3.lt
    have D75 := Lib.hid k4.lt
    have D76 := Lib.hid k12.lt
    have D77 := Lib.hid k13.lt
    have D78 := Lib.hid k16.lt
    have D79 := Lib.hid hb0.size
    have hn : Below U16.heap.size U16 V17 := by rw [hV17]; exact below_a1 _ _
    have nk1 := k1.of hn
    have nk2 := k2.of hn
    have nk3 := k3.of hn
    have nk4 := k4.of hn
    have nk12 := k12.of hn
    have nk13 := k13.of hn
    have nk16 := k16.of hn
    have nhb0 := hb0.trans (hn.mono hb0.size)
    clear hn
    have k17 : Blk V17 U16.heap.size #[.int .u64 (wd0 px), .int .u64 (wd1 px), .int .u64 (wd2 px), .int .u64 (wd3 px), .int .u64 (wd0 py), .int .u64 (wd1 py), .int .u64 (wd2 py), .int .u64 (wd3 py), .int .u64 (wd0 pw), .int .u64 (wd1 pw), .int .u64 (wd2 pw), .int .u64 (wd3 pw)] 67 := by rw [hV17]; exact (Blk.new _ _ _)
    clear k1 k2 k3 k4 k12 k13 k16
    clear hb0
    clear hV17
    have k1 := nk1
    clear nk1
    have k2 := nk2
    clear nk2
    have k3 := nk3
    clear nk3
    have k4 := nk4
    clear nk4
    have k12 := nk12
    clear nk12
    have k13 := nk13
    clear nk13
    have k16 := nk16
    clear nk16
    have hb0 := nhb0
    clear nhb0
    refine loopin_round ?_
    intro KL3 hKL3
    go_wp2_with fail
    refine hKL1.out _ _ ?_
    clear hKL3 hKL1
    try clear KL3
    try clear KL1
    refine loopin_round ?_
    intro KL1 hKL1
    have c1_0 : V17.cell? ⟨w.heap.size, 0, none⟩ = some (.int .i64 ax) := k1.cell 0
    have c1_1 : V17.cell? ⟨w.heap.size, 1, none⟩ = some (.int .i64 ay) := k1.cell 1
    have c1_2 : V17.cell? ⟨w.heap.size, 2, none⟩ = some (.int .i64 bx) := k1.cell 2
    have c1_3 : V17.cell? ⟨w.heap.size, 3, none⟩ = some (.int .i64 b_y) := k1.cell 3
    have l1 := k1.lt
    go_wp2_with fail
    clear c1_0 c1_1 c1_2 c1_3 l1
    refine (Meet_is ax ay bx b_y ax ay bx b_y 0 sx sy sw HP18.out HP19.out HP20.out HP21.out _iax _iay _ibx _ib_y _iax _iay _ibx _ib_y  _).mono ?_
    rintro e U18 ⟨rfl, hn⟩
    clear k2 k3 k4 k12 k13 k16 k17
    replace k1 := k1.of hn
    replace hb0 := hb0.trans (hn.mono hb0.size)
    clear hn
    obtain ⟨z2, hz2⟩ : ∃ o_o : Bool, (ax == bx) = o_o := ⟨_, rfl⟩
    cases z2
    · have nz2 : ¬ ax = bx := by simpa using hz2
      have nz2_ : ¬ bx = ax := fun e_ => nz2 e_.symm
      have c1_0 : U18.cell? ⟨w.heap.size, 0, none⟩ = some (.int .i64 ax) := k1.cell 0
      have c1_1 : U18.cell? ⟨w.heap.size, 1, none⟩ = some (.int .i64 ay) := k1.cell 1
      have c1_2 : U18.cell? ⟨w.heap.size, 2, none⟩ = some (.int .i64 bx) := k1.cell 2
      have c1_3 : U18.cell? ⟨w.heap.size, 3, none⟩ = some (.int .i64 b_y) := k1.cell 3
      have l1 := k1.lt
      go_wp2_with fail
      clear c1_0 c1_1 c1_2 c1_3 l1
      first | refine calls_w ?_ | refine name_world ?_ | refine list_world ?_ | refine post_world ?_
      intro V19 hV19
      clear k1
      have D80 := Lib.hid hb0.size
      have hn : Below U18.heap.size U18 V19 := by rw [hV19]; exact below_a1 _ _
      have nhb0 := hb0.trans (hn.mono hb0.size)
      clear hn
      have k19 : Blk V19 U18.heap.size #[.int .u64 (wd0 sx), .int .u64 (wd1 sx), .int .u64 (wd2 sx), .int .u64 (wd3 sx), .int .u64 (wd0 sy), .int .u64 (wd1 sy), .int .u64 (wd2 sy), .int .u64 (wd3 sy), .int .u64 (wd0 sw), .int .u64 (wd1 sw), .int .u64 (wd2 sw), .int .u64 (wd3 sw)] 67 := by rw [hV19]; exact (Blk.new _ _ _)
      clear hb0
      clear hV19
      have hb0 := nhb0
      clear nhb0
      refine (cright_is ax ay bx b_y false HP17.out _iax _iay _ibx _ib_y  _).mono ?_
      rintro e U20 ⟨rfl, hn⟩
      clear k19
      replace hb0 := hb0.trans (hn.mono hb0.size)
      clear hn
      go_wp2_with fail
      refine (cawake_any _).mono ?_
      rintro e U21 ⟨rfl, hn⟩
      replace hb0 := hb0.trans (hn.mono hb0.size)
      clear hn
      go_wp2
      first | go_ret | go_ret2
      exact ⟨by first | rfl | (simp; done) | (simp; assumption), hb0⟩
    · have qz2 : ax = bx := by simpa using hz2
      clear hz2
      subst qz2
      obtain ⟨z3, hz3⟩ : ∃ o_o : Bool, (ay == b_y) = o_o := ⟨_, rfl⟩
      cases z3
      · have nz3 : ¬ ay = b_y := by simpa using hz3
        have nz3_ : ¬ b_y = ay := fun e_ => nz3 e_.symm
        have c1_0 : U18.cell? ⟨w.heap.size, 0, none⟩ = some (.int .i64 ax) := k1.cell 0
        have c1_1 : U18.cell? ⟨w.heap.size, 1, none⟩ = some (.int .i64 ay) := k1.cell 1
        have c1_2 : U18.cell? ⟨w.heap.size, 2, none⟩ = some (.int .i64 ax) := k1.cell 2
        have c1_3 : U18.cell? ⟨w.heap.size, 3, none⟩ = some (.int .i64 b_y) := k1.cell 3
        have l1 := k1.lt
        go_wp2_with fail
        clear c1_0 c1_1 c1_2 c1_3 l1
        first | refine calls_w ?_ | refine name_world ?_ | refine list_world ?_ | refine post_world ?_
        intro V22 hV22
        clear k1
        have D81 := Lib.hid hb0.size
        have hn : Below U18.heap.size U18 V22 := by rw [hV22]; exact below_a1 _ _
        have nhb0 := hb0.trans (hn.mono hb0.size)
        clear hn
        have k21 : Blk V22 U18.heap.size #[.int .u64 (wd0 sx), .int .u64 (wd1 sx), .int .u64 (wd2 sx), .int .u64 (wd3 sx), .int .u64 (wd0 sy), .int .u64 (wd1 sy), .int .u64 (wd2 sy), .int .u64 (wd3 sy), .int .u64 (wd0 sw), .int .u64 (wd1 sw), .int .u64 (wd2 sw), .int .u64 (wd3 sw)] 67 := by rw [hV22]; exact (Blk.new _ _ _)
        clear hb0
        clear hV22
        have hb0 := nhb0
        clear nhb0
        refine (cright_is ax ay ax b_y false HP17.out _iax _iay _iax _ib_y  _).mono ?_
        rintro e U23 ⟨rfl, hn⟩
        clear k21
        replace hb0 := hb0.trans (hn.mono hb0.size)
        clear hn
        go_wp2_with fail
        refine (cawake_any _).mono ?_
        rintro e U24 ⟨rfl, hn⟩
        replace hb0 := hb0.trans (hn.mono hb0.size)
        clear hn
        go_wp2
        first | go_ret | go_ret2
        exact ⟨by first | rfl | (simp; done) | (simp; assumption), hb0⟩
      · have qz3 : ay = b_y := by simpa using hz3
        clear hz3
        subst qz3
        have c1_0 : U18.cell? ⟨w.heap.size, 0, none⟩ = some (.int .i64 ax) := k1.cell 0
        have c1_1 : U18.cell? ⟨w.heap.size, 1, none⟩ = some (.int .i64 ay) := k1.cell 1
        have c1_2 : U18.cell? ⟨w.heap.size, 2, none⟩ = some (.int .i64 ax) := k1.cell 2
        have c1_3 : U18.cell? ⟨w.heap.size, 3, none⟩ = some (.int .i64 ay) := k1.cell 3
        have l1 := k1.lt
        go_wp2_with fail
        clear c1_0 c1_1 c1_2 c1_3 l1
        first | refine calls_w ?_ | refine name_world ?_ | refine list_world ?_ | refine post_world ?_
        intro V25 hV25
        clear k1
        have D82 := Lib.hid hb0.size
        have hn : Below U18.heap.size U18 V25 := by rw [hV25]; exact below_a1 _ _
        have nhb0 := hb0.trans (hn.mono hb0.size)
        clear hn
        have k22 : Blk V25 U18.heap.size #[.int .u64 (wd0 sx), .int .u64 (wd1 sx), .int .u64 (wd2 sx), .int .u64 (wd3 sx), .int .u64 (wd0 sy), .int .u64 (wd1 sy), .int .u64 (wd2 sy), .int .u64 (wd3 sy), .int .u64 (wd0 sw), .int .u64 (wd1 sw), .int .u64 (wd2 sw), .int .u64 (wd3 sw)] 67 := by rw [hV25]; exact (Blk.new _ _ _)
        clear hb0
        clear hV25
        have hb0 := nhb0
        clear nhb0
        refine (cright_is ax ay ax ay false HP17.out _iax _iay _iax _iay  _).mono ?_
        rintro e U26 ⟨rfl, hn⟩
        clear k22
        replace hb0 := hb0.trans (hn.mono hb0.size)
        clear hn
        go_wp2_with fail
        refine (cawake_any _).mono ?_
        rintro e U27 ⟨rfl, hn⟩
        replace hb0 := hb0.trans (hn.mono hb0.size)
        clear hn
        go_wp2
        first | go_ret | go_ret2
        exact ⟨by first | rfl | (simp; done) | (simp; assumption), hb0⟩
  · obtain rfl : k = 1 := by simpa using hz1
    clear hz1
    have c3_0 : U6.cell? ⟨U2.heap.size, 0, none⟩ = some (.int .u64 (wd0 px)) := k3.cell 0
    have c3_1 : U6.cell? ⟨U2.heap.size, 1, none⟩ = some (.int .u64 (wd1 px)) := k3.cell 1
    have c3_2 : U6.cell? ⟨U2.heap.size, 2, none⟩ = some (.int .u64 (wd2 px)) := k3.cell 2
    have c3_3 : U6.cell? ⟨U2.heap.size, 3, none⟩ = some (.int .u64 (wd3 px)) := k3.cell 3
    have c3_4 : U6.cell? ⟨U2.heap.size, 4, none⟩ = some (.int .u64 (wd0 py)) := k3.cell 4
    have c3_5 : U6.cell? ⟨U2.heap.size, 5, none⟩ = some (.int .u64 (wd1 py)) := k3.cell 5
    have c3_6 : U6.cell? ⟨U2.heap.size, 6, none⟩ = some (.int .u64 (wd2 py)) := k3.cell 6
    have c3_7 : U6.cell? ⟨U2.heap.size, 7, none⟩ = some (.int .u64 (wd3 py)) := k3.cell 7
    have c3_8 : U6.cell? ⟨U2.heap.size, 8, none⟩ = some (.int .u64 (wd0 pw)) := k3.cell 8
    have c3_9 : U6.cell? ⟨U2.heap.size, 9, none⟩ = some (.int .u64 (wd1 pw)) := k3.cell 9
    have c3_10 : U6.cell? ⟨U2.heap.size, 10, none⟩ = some (.int .u64 (wd2 pw)) := k3.cell 10
    have c3_11 : U6.cell? ⟨U2.heap.size, 11, none⟩ = some (.int .u64 (wd3 pw)) := k3.cell 11
    have l3 := k3.lt
    go_wp2_with fail
    clear c3_0 c3_1 c3_2 c3_3 c3_4 c3_5 c3_6 c3_7 c3_8 c3_9 c3_10 c3_11 l3
    first | refine calls_w ?_ | refine name_world ?_ | refine list_world ?_ | refine post_world ?_
    intro V28 hV28
    have D83 := Lib.hid k1.lt
    have D84 := Lib.hid k2.lt
    have D85 := Lib.hid k3.lt
    have D86 := Lib.hid k4.lt
    have D87 := Lib.hid k5.lt
    have D88 := Lib.hid k6.lt
    have D89 := Lib.hid k7.lt
    have D90 := Lib.hid hb0.size
    have hn : Below U6.heap.size U6 V28 := by rw [hV28]; exact below_a1 _ _
    have nk1 := k1.of hn
    have nk2 := k2.of hn
    have nk3 := k3.of hn
    have nk4 := k4.of hn
    have nk5 := k5.of hn
    have nk6 := k6.of hn
    have nk7 := k7.of hn
    have nhb0 := hb0.trans (hn.mono hb0.size)
    clear hn
    have k23 : Blk V28 U6.heap.size #[.int .u64 (wd0 px), .int .u64 (wd1 px), .int .u64 (wd2 px), .int .u64 (wd3 px), .int .u64 (wd0 py), .int .u64 (wd1 py), .int .u64 (wd2 py), .int .u64 (wd3 py), .int .u64 (wd0 pw), .int .u64 (wd1 pw), .int .u64 (wd2 pw), .int .u64 (wd3 pw)] 67 := by rw [hV28]; exact (Blk.new _ _ _)
    clear k1 k2 k3 k4 k5 k6 k7
    clear hb0
    clear hV28
    have k1 := nk1
    clear nk1
    have k2 := nk2
    clear nk2
    have k3 := nk3
    clear nk3
    have k4 := nk4
    clear nk4
    have k5 := nk5
    clear nk5
    have k6 := nk6
    clear nk6
    have k7 := nk7
    clear nk7
    have hb0 := nhb0
    clear nhb0
    refine (SpCmp_is px py pw px py pw 0 HP16.out _ipx _ipy _ipw _ipx _ipy _ipw  _).mono ?_
    rintro e U29 ⟨rfl, hn⟩
    replace k1 := k1.of hn
    replace k2 := k2.of hn
    replace k3 := k3.of hn
    replace k4 := k4.of hn
    replace k5 := k5.of hn
    replace k6 := k6.of hn
    replace k7 := k7.of hn
    replace k23 := k23.of hn
    replace hb0 := hb0.trans (hn.mono hb0.size)
    clear hn
    go_wp2_with fail
    refine hKL2.out _ _ ?_
    clear hKL2
    try clear KL2
    refine loopin_round ?_
    intro KL2 hKL2
    have c5_0 : U29.cell? ⟨V3.heap.size, 0, none⟩ = some (.int .i64 ax) := k5.cell 0
    have c5_1 : U29.cell? ⟨V3.heap.size, 1, none⟩ = some (.int .i64 ay) := k5.cell 1
    have c5_2 : U29.cell? ⟨V3.heap.size, 2, none⟩ = some (.int .i64 bx) := k5.cell 2
    have c5_3 : U29.cell? ⟨V3.heap.size, 3, none⟩ = some (.int .i64 b_y) := k5.cell 3
    have l5 := k5.lt
    have c6_4 : U29.cell? ⟨(V3.heap.size + 1), 4, none⟩ = some (.int .i64 dx) := k6.cell 4
    have c6_5 : U29.cell? ⟨(V3.heap.size + 1), 5, none⟩ = some (.int .i64 dy) := k6.cell 5
    have c6_6 : U29.cell? ⟨(V3.heap.size + 1), 6, none⟩ = some (.int .i64 cx) := k6.cell 6
    have c6_7 : U29.cell? ⟨(V3.heap.size + 1), 7, none⟩ = some (.int .i64 cy) := k6.cell 7
    have l6 := k6.lt
    have l6_0 : V3.heap.size < U29.heap.size := by have := k6.lt; omega
    go_wp2_with fail
    clear c5_0 c5_1 c5_2 c5_3 l5 c6_4 c6_5 c6_6 c6_7 l6 l6_0
    first | refine calls_w ?_ | refine name_world ?_ | refine list_world ?_ | refine post_world ?_
    intro V30 hV30
    clear k7
    have D91 := Lib.hid k1.lt
    have D92 := Lib.hid k2.lt
    have D93 := Lib.hid k3.lt
    have D94 := Lib.hid k4.lt
    have D95 := Lib.hid k5.lt
    have D96 := Lib.hid k6.lt
    have D97 := Lib.hid k23.lt
    have D98 := Lib.hid hb0.size
    have hn : Below U29.heap.size U29 V30 := by rw [hV30]; exact below_a1 _ _
    have nk1 := k1.of hn
    have nk2 := k2.of hn
    have nk3 := k3.of hn
    have nk4 := k4.of hn
    have nk5 := k5.of hn
    have nk6 := k6.of hn
    have nk23 := k23.of hn
    have nhb0 := hb0.trans (hn.mono hb0.size)
    clear hn
    have k24 : Blk V30 U29.heap.size #[.int .i64 dx, .int .i64 dy, .int .i64 cx, .int .i64 cy] 50 := by rw [hV30]; exact (Blk.new _ _ _)
    clear k1 k2 k3 k4 k5 k6 k23
    clear hb0
    clear hV30
    have k1 := nk1
    clear nk1
    have k2 := nk2
    clear nk2
    have k3 := nk3
    clear nk3
    have k4 := nk4
    clear nk4
    have k5 := nk5
    clear nk5
    have k6 := nk6
    clear nk6
    have k23 := nk23
    clear nk23
    have hb0 := nhb0
    clear nhb0
    refine (Meet_is ax ay bx b_y dx dy cx cy 1 px py pw HP4.out HP5.out HP6.out HP7.out _iax _iay _ibx _ib_y _idx _idy _icx _icy  _).mono ?_
    rintro e U31 ⟨rfl, hn⟩
    replace k1 := k1.of hn
    replace k2 := k2.of hn
    replace k3 := k3.of hn
    replace k4 := k4.of hn
    replace k5 := k5.of hn
    replace k6 := k6.of hn
    replace k23 := k23.of hn
    replace k24 := k24.of hn
    replace hb0 := hb0.trans (hn.mono hb0.size)
    clear hn
    have c3_0 : U31.cell? ⟨U2.heap.size, 0, none⟩ = some (.int .u64 (wd0 px)) := k3.cell 0
    have c3_1 : U31.cell? ⟨U2.heap.size, 1, none⟩ = some (.int .u64 (wd1 px)) := k3.cell 1
    have c3_2 : U31.cell? ⟨U2.heap.size, 2, none⟩ = some (.int .u64 (wd2 px)) := k3.cell 2
    have c3_3 : U31.cell? ⟨U2.heap.size, 3, none⟩ = some (.int .u64 (wd3 px)) := k3.cell 3
    have c3_4 : U31.cell? ⟨U2.heap.size, 4, none⟩ = some (.int .u64 (wd0 py)) := k3.cell 4
    have c3_5 : U31.cell? ⟨U2.heap.size, 5, none⟩ = some (.int .u64 (wd1 py)) := k3.cell 5
    have c3_6 : U31.cell? ⟨U2.heap.size, 6, none⟩ = some (.int .u64 (wd2 py)) := k3.cell 6
    have c3_7 : U31.cell? ⟨U2.heap.size, 7, none⟩ = some (.int .u64 (wd3 py)) := k3.cell 7
    have c3_8 : U31.cell? ⟨U2.heap.size, 8, none⟩ = some (.int .u64 (wd0 pw)) := k3.cell 8
    have c3_9 : U31.cell? ⟨U2.heap.size, 9, none⟩ = some (.int .u64 (wd1 pw)) := k3.cell 9
    have c3_10 : U31.cell? ⟨U2.heap.size, 10, none⟩ = some (.int .u64 (wd2 pw)) := k3.cell 10
    have c3_11 : U31.cell? ⟨U2.heap.size, 11, none⟩ = some (.int .u64 (wd3 pw)) := k3.cell 11
    have l3 := k3.lt
    go_wp2_with fail
    clear c3_0 c3_1 c3_2 c3_3 c3_4 c3_5 c3_6 c3_7 c3_8 c3_9 c3_10 c3_11 l3
    first | refine calls_w ?_ | refine name_world ?_ | refine list_world ?_ | refine post_world ?_
    intro V32 hV32
    clear k23
    have D99 := Lib.hid k1.lt
    have D100 := Lib.hid k2.lt
    have D101 := Lib.hid k3.lt
    have D102 := Lib.hid k4.lt
    have D103 := Lib.hid k5.lt
    have D104 := Lib.hid k6.lt
    have D105 := Lib.hid k24.lt
    have D106 := Lib.hid hb0.size
    have hn : Below U31.heap.size U31 V32 := by rw [hV32]; exact below_a1 _ _
    have nk1 := k1.of hn
    have nk2 := k2.of hn
    have nk3 := k3.of hn
    have nk4 := k4.of hn
    have nk5 := k5.of hn
    have nk6 := k6.of hn
    have nk24 := k24.of hn
    have nhb0 := hb0.trans (hn.mono hb0.size)
    clear hn
    have k25 : Blk V32 U31.heap.size #[.int .u64 (wd0 px), .int .u64 (wd1 px), .int .u64 (wd2 px), .int .u64 (wd3 px), .int .u64 (wd0 py), .int .u64 (wd1 py), .int .u64 (wd2 py), .int .u64 (wd3 py), .int .u64 (wd0 pw), .int .u64 (wd1 pw), .int .u64 (wd2 pw), .int .u64 (wd3 pw)] 67 := by rw [hV32]; exact (Blk.new _ _ _)
    clear k1 k2 k3 k4 k5 k6 k24
    clear hb0
    clear hV32
    have k1 := nk1
    clear nk1
    have k2 := nk2
    clear nk2
    have k3 := nk3
    clear nk3
    have k4 := nk4
    clear nk4
    have k5 := nk5
    clear nk5
    have k6 := nk6
    clear nk6
    have k24 := nk24
    clear nk24
    have hb0 := nhb0
    clear nhb0
    refine (SpCmp_is px py pw px py pw 0 HP16.out _ipx _ipy _ipw _ipx _ipy _ipw  _).mono ?_
    rintro e U33 ⟨rfl, hn⟩
    replace k1 := k1.of hn
    replace k2 := k2.of hn
    replace k3 := k3.of hn
    replace k4 := k4.of hn
    replace k5 := k5.of hn
    replace k6 := k6.of hn
    replace k24 := k24.of hn
    replace k25 := k25.of hn
    replace hb0 := hb0.trans (hn.mono hb0.size)
    clear hn
    go_wp2_with fail
    refine hKL2.out _ _ ?_
    clear hKL2
    try clear KL2
    refine loopin_round ?_
    intro KL2 hKL2
    go_wp2_with fail
    refine hKL1.out _ _ ?_
    clear hKL2 hKL1
    try clear KL2
    try clear KL1
    refine loopin_round ?_
    intro KL1 hKL1
    have c2_0 : U33.cell? ⟨(w.heap.size + 1), 0, none⟩ = some (.int .i64 cx) := k2.cell 0
    have c2_1 : U33.cell? ⟨(w.heap.size + 1), 1, none⟩ = some (.int .i64 cy) := k2.cell 1
    have c2_2 : U33.cell? ⟨(w.heap.size + 1), 2, none⟩ = some (.int .i64 dx) := k2.cell 2
    have c2_3 : U33.cell? ⟨(w.heap.size + 1), 3, none⟩ = some (.int .i64 dy) := k2.cell 3
    have l2 := k2.lt
    have l2_0 : w.heap.size < U33.heap.size := by have := k2.lt; omega
    have c4_4 : U33.cell? ⟨(U2.heap.size + 1), 4, none⟩ = some (.int .i64 bx) := k4.cell 4
    have c4_5 : U33.cell? ⟨(U2.heap.size + 1), 5, none⟩ = some (.int .i64 b_y) := k4.cell 5
    have c4_6 : U33.cell? ⟨(U2.heap.size + 1), 6, none⟩ = some (.int .i64 ax) := k4.cell 6
    have c4_7 : U33.cell? ⟨(U2.heap.size + 1), 7, none⟩ = some (.int .i64 ay) := k4.cell 7
    have l4 := k4.lt
    have l4_0 : U2.heap.size < U33.heap.size := by have := k4.lt; omega
    go_wp2_with fail
    clear c2_0 c2_1 c2_2 c2_3 l2 l2_0 c4_4 c4_5 c4_6 c4_7 l4 l4_0
    refine wp_loop_in ?_
    first | refine loop_world ?_
    intro V34 hV34
    clear k5
    have D107 := Lib.hid k1.lt
    have D108 := Lib.hid k2.lt
    have D109 := Lib.hid k3.lt
    have D110 := Lib.hid k4.lt
    have D111 := Lib.hid k6.lt
    have D112 := Lib.hid k24.lt
    have D113 := Lib.hid k25.lt
    have D114 := Lib.hid hb0.size
    have hn : Below U33.heap.size U33 V34 := by rw [hV34]; exact below_a2 _ _ _
    have nk1 := k1.of hn
    have nk2 := k2.of hn
    have nk3 := k3.of hn
    have nk4 := k4.of hn
    have nk6 := k6.of hn
    have nk24 := k24.of hn
    have nk25 := k25.of hn
    have nhb0 := hb0.trans (hn.mono hb0.size)
    clear hn
    have k26 : Blk V34 U33.heap.size #[.int .i64 bx, .int .i64 b_y, .int .i64 ax, .int .i64 ay] 50 := by rw [hV34]; exact ((Blk.new _ _ _).alloc _)
    have k27 : Blk V34 (U33.heap.size + 1) #[.int .i64 cx, .int .i64 cy, .int .i64 dx, .int .i64 dy, .int .i64 dx, .int .i64 dy, .int .i64 cx, .int .i64 cy] 50 := by rw [hV34]; exact (Blk.new1 _ _ _ _)
    clear k1 k2 k3 k4 k6 k24 k25
    clear hb0
    clear hV34
    have k1 := nk1
    clear nk1
    have k2 := nk2
    clear nk2
    have k3 := nk3
    clear nk3
    have k4 := nk4
    clear nk4
    have k6 := nk6
    clear nk6
    have k24 := nk24
    clear nk24
    have k25 := nk25
    clear nk25
    have hb0 := nhb0
    clear nhb0
    refine loopin_round ?_
    intro KL4 hKL4
    have c26_0 : V34.cell? ⟨U33.heap.size, 0, none⟩ = some (.int .i64 bx) := k26.cell 0
    have c26_1 : V34.cell? ⟨U33.heap.size, 1, none⟩ = some (.int .i64 b_y) := k26.cell 1
    have c26_2 : V34.cell? ⟨U33.heap.size, 2, none⟩ = some (.int .i64 ax) := k26.cell 2
    have c26_3 : V34.cell? ⟨U33.heap.size, 3, none⟩ = some (.int .i64 ay) := k26.cell 3
    have l26 := k26.lt
    have c27_0 : V34.cell? ⟨(U33.heap.size + 1), 0, none⟩ = some (.int .i64 cx) := k27.cell 0
    have c27_1 : V34.cell? ⟨(U33.heap.size + 1), 1, none⟩ = some (.int .i64 cy) := k27.cell 1
    have c27_2 : V34.cell? ⟨(U33.heap.size + 1), 2, none⟩ = some (.int .i64 dx) := k27.cell 2
    have c27_3 : V34.cell? ⟨(U33.heap.size + 1), 3, none⟩ = some (.int .i64 dy) := k27.cell 3
    have l27 := k27.lt
    have l27_0 : U33.heap.size < V34.heap.size := by have := k27.lt; omega
    go_wp2_with fail
    clear c26_0 c26_1 c26_2 c26_3 l26 c27_0 c27_1 c27_2 c27_3 l27 l27_0
    first | refine calls_w ?_ | refine name_world ?_ | refine list_world ?_ | refine post_world ?_
    intro V35 hV35
    clear k6 k24
    have D115 := Lib.hid k1.lt
    have D116 := Lib.hid k2.lt
    have D117 := Lib.hid k3.lt
    have D118 := Lib.hid k4.lt
    have D119 := Lib.hid k25.lt
    have D120 := Lib.hid k26.lt
    have D121 := Lib.hid k27.lt
    have D122 := Lib.hid hb0.size
    have hn : Below V34.heap.size V34 V35 := by rw [hV35]; exact below_a1 _ _
    have nk1 := k1.of hn
    have nk2 := k2.of hn
    have nk3 := k3.of hn
    have nk4 := k4.of hn
    have nk25 := k25.of hn
    have nk26 := k26.of hn
    have nk27 := k27.of hn
    have nhb0 := hb0.trans (hn.mono hb0.size)
    clear hn
    have k28 : Blk V35 V34.heap.size #[.int .i64 cx, .int .i64 cy, .int .i64 dx, .int .i64 dy] 50 := by rw [hV35]; exact (Blk.new _ _ _)
    clear k1 k2 k3 k4 k25 k26 k27
    clear hb0
    clear hV35
    have k1 := nk1
    clear nk1
    have k2 := nk2
    clear nk2
    have k3 := nk3
    clear nk3
    have k4 := nk4
    clear nk4
    have k25 := nk25
    clear nk25
    have k26 := nk26
    clear nk26
    have k27 := nk27
    clear nk27
    have hb0 := nhb0
    clear nhb0
    refine (Meet_is bx b_y ax ay cx cy dx dy 1 px py pw HP8.out HP9.out HP10.out HP11.out _ibx _ib_y _iax _iay _icx _icy _idx _idy  _).mono ?_
    rintro e U36 ⟨rfl, hn⟩
    replace k1 := k1.of hn
    replace k2 := k2.of hn
    replace k3 := k3.of hn
    replace k4 := k4.of hn
    replace k25 := k25.of hn
    replace k26 := k26.of hn
    replace k27 := k27.of hn
    replace k28 := k28.of hn
    replace hb0 := hb0.trans (hn.mono hb0.size)
    clear hn
    have c3_0 : U36.cell? ⟨U2.heap.size, 0, none⟩ = some (.int .u64 (wd0 px)) := k3.cell 0
    have c3_1 : U36.cell? ⟨U2.heap.size, 1, none⟩ = some (.int .u64 (wd1 px)) := k3.cell 1
    have c3_2 : U36.cell? ⟨U2.heap.size, 2, none⟩ = some (.int .u64 (wd2 px)) := k3.cell 2
    have c3_3 : U36.cell? ⟨U2.heap.size, 3, none⟩ = some (.int .u64 (wd3 px)) := k3.cell 3
    have c3_4 : U36.cell? ⟨U2.heap.size, 4, none⟩ = some (.int .u64 (wd0 py)) := k3.cell 4
    have c3_5 : U36.cell? ⟨U2.heap.size, 5, none⟩ = some (.int .u64 (wd1 py)) := k3.cell 5
    have c3_6 : U36.cell? ⟨U2.heap.size, 6, none⟩ = some (.int .u64 (wd2 py)) := k3.cell 6
    have c3_7 : U36.cell? ⟨U2.heap.size, 7, none⟩ = some (.int .u64 (wd3 py)) := k3.cell 7
    have c3_8 : U36.cell? ⟨U2.heap.size, 8, none⟩ = some (.int .u64 (wd0 pw)) := k3.cell 8
    have c3_9 : U36.cell? ⟨U2.heap.size, 9, none⟩ = some (.int .u64 (wd1 pw)) := k3.cell 9
    have c3_10 : U36.cell? ⟨U2.heap.size, 10, none⟩ = some (.int .u64 (wd2 pw)) := k3.cell 10
    have c3_11 : U36.cell? ⟨U2.heap.size, 11, none⟩ = some (.int .u64 (wd3 pw)) := k3.cell 11
    have l3 := k3.lt
    go_wp2_with fail
    clear c3_0 c3_1 c3_2 c3_3 c3_4 c3_5 c3_6 c3_7 c3_8 c3_9 c3_10 c3_11 l3
    first | refine calls_w ?_ | refine name_world ?_ | refine list_world ?_ | refine post_world ?_
    intro V37 hV37
    clear k25
    have D123 := Lib.hid k1.lt
    have D124 := Lib.hid k2.lt
    have D125 := Lib.hid k3.lt
    have D126 := Lib.hid k4.lt
    have D127 := Lib.hid k26.lt
    have D128 := Lib.hid k27.lt
    have D129 := Lib.hid k28.lt
    have D130 := Lib.hid hb0.size
    have hn : Below U36.heap.size U36 V37 := by rw [hV37]; exact below_a1 _ _
    have nk1 := k1.of hn
    have nk2 := k2.of hn
    have nk3 := k3.of hn
    have nk4 := k4.of hn
    have nk26 := k26.of hn
    have nk27 := k27.of hn
    have nk28 := k28.of hn
    have nhb0 := hb0.trans (hn.mono hb0.size)
    clear hn
    have k29 : Blk V37 U36.heap.size #[.int .u64 (wd0 px), .int .u64 (wd1 px), .int .u64 (wd2 px), .int .u64 (wd3 px), .int .u64 (wd0 py), .int .u64 (wd1 py), .int .u64 (wd2 py), .int .u64 (wd3 py), .int .u64 (wd0 pw), .int .u64 (wd1 pw), .int .u64 (wd2 pw), .int .u64 (wd3 pw)] 67 := by rw [hV37]; exact (Blk.new _ _ _)
    clear k1 k2 k3 k4 k26 k27 k28
    clear hb0
    clear hV37
    have k1 := nk1
    clear nk1
    have k2 := nk2
    clear nk2
    have k3 := nk3
    clear nk3
    have k4 := nk4
    clear nk4
    have k26 := nk26
    clear nk26
    have k27 := nk27
    clear nk27
    have k28 := nk28
    clear nk28
    have hb0 := nhb0
    clear nhb0
    refine (SpCmp_is px py pw px py pw 0 HP16.out _ipx _ipy _ipw _ipx _ipy _ipw  _).mono ?_
    rintro e U38 ⟨rfl, hn⟩
    replace k1 := k1.of hn
    replace k2 := k2.of hn
    replace k3 := k3.of hn
    replace k4 := k4.of hn
    replace k26 := k26.of hn
    replace k27 := k27.of hn
    replace k28 := k28.of hn
    replace k29 := k29.of hn
    replace hb0 := hb0.trans (hn.mono hb0.size)
    clear hn
    go_wp2_with fail
    refine hKL4.out _ _ ?_
    clear hKL4
    try clear KL4
    refine loopin_round ?_
    intro KL4 hKL4
    have c26_0 : U38.cell? ⟨U33.heap.size, 0, none⟩ = some (.int .i64 bx) := k26.cell 0
    have c26_1 : U38.cell? ⟨U33.heap.size, 1, none⟩ = some (.int .i64 b_y) := k26.cell 1
    have c26_2 : U38.cell? ⟨U33.heap.size, 2, none⟩ = some (.int .i64 ax) := k26.cell 2
    have c26_3 : U38.cell? ⟨U33.heap.size, 3, none⟩ = some (.int .i64 ay) := k26.cell 3
    have l26 := k26.lt
    have c27_4 : U38.cell? ⟨(U33.heap.size + 1), 4, none⟩ = some (.int .i64 dx) := k27.cell 4
    have c27_5 : U38.cell? ⟨(U33.heap.size + 1), 5, none⟩ = some (.int .i64 dy) := k27.cell 5
    have c27_6 : U38.cell? ⟨(U33.heap.size + 1), 6, none⟩ = some (.int .i64 cx) := k27.cell 6
    have c27_7 : U38.cell? ⟨(U33.heap.size + 1), 7, none⟩ = some (.int .i64 cy) := k27.cell 7
    have l27 := k27.lt
    have l27_0 : U33.heap.size < U38.heap.size := by have := k27.lt; omega
    go_wp2_with fail
    clear c26_0 c26_1 c26_2 c26_3 l26 c27_4 c27_5 c27_6 c27_7 l27 l27_0
    first | refine calls_w ?_ | refine name_world ?_ | refine list_world ?_ | refine post_world ?_
    intro V39 hV39
    clear k28
    have D131 := Lib.hid k1.lt
    have D132 := Lib.hid k2.lt
    have D133 := Lib.hid k3.lt
    have D134 := Lib.hid k4.lt
    have D135 := Lib.hid k26.lt
    have D136 := Lib.hid k27.lt
    have D137 := Lib.hid k29.lt
    have D138 := Lib.hid hb0.size
    have hn : Below U38.heap.size U38 V39 := by rw [hV39]; exact below_a1 _ _
    have nk1 := k1.of hn
    have nk2 := k2.of hn
    have nk3 := k3.of hn
    have nk4 := k4.of hn
    have nk26 := k26.of hn
    have nk27 := k27.of hn
    have nk29 := k29.of hn
    have nhb0 := hb0.trans (hn.mono hb0.size)
    clear hn
    have k30 : Blk V39 U38.heap.size #[.int .i64 dx, .int .i64 dy, .int .i64 cx, .int .i64 cy] 50 := by rw [hV39]; exact (Blk.new _ _ _)
    clear k1 k2 k3 k4 k26 k27 k29
    clear hb0
    clear hV39
    have k1 := nk1
    clear nk1
    have k2 := nk2
    clear nk2
    have k3 := nk3
    clear nk3
    have k4 := nk4
    clear nk4
    have k26 := nk26
    clear nk26
    have k27 := nk27
    clear nk27
    have k29 := nk29
    clear nk29
    have hb0 := nhb0
    clear nhb0
    refine (Meet_is bx b_y ax ay dx dy cx cy 1 px py pw HP12.out HP13.out HP14.out HP15.out _ibx _ib_y _iax _iay _idx _idy _icx _icy  _).mono ?_
    rintro e U40 ⟨rfl, hn⟩
    replace k1 := k1.of hn
    replace k2 := k2.of hn
    replace k3 := k3.of hn
    replace k4 := k4.of hn
    replace k26 := k26.of hn
    replace k27 := k27.of hn
    replace k29 := k29.of hn
    replace k30 := k30.of hn
    replace hb0 := hb0.trans (hn.mono hb0.size)
    clear hn
    have c3_0 : U40.cell? ⟨U2.heap.size, 0, none⟩ = some (.int .u64 (wd0 px)) := k3.cell 0
    have c3_1 : U40.cell? ⟨U2.heap.size, 1, none⟩ = some (.int .u64 (wd1 px)) := k3.cell 1
    have c3_2 : U40.cell? ⟨U2.heap.size, 2, none⟩ = some (.int .u64 (wd2 px)) := k3.cell 2
    have c3_3 : U40.cell? ⟨U2.heap.size, 3, none⟩ = some (.int .u64 (wd3 px)) := k3.cell 3
    have c3_4 : U40.cell? ⟨U2.heap.size, 4, none⟩ = some (.int .u64 (wd0 py)) := k3.cell 4
    have c3_5 : U40.cell? ⟨U2.heap.size, 5, none⟩ = some (.int .u64 (wd1 py)) := k3.cell 5
    have c3_6 : U40.cell? ⟨U2.heap.size, 6, none⟩ = some (.int .u64 (wd2 py)) := k3.cell 6
    have c3_7 : U40.cell? ⟨U2.heap.size, 7, none⟩ = some (.int .u64 (wd3 py)) := k3.cell 7
    have c3_8 : U40.cell? ⟨U2.heap.size, 8, none⟩ = some (.int .u64 (wd0 pw)) := k3.cell 8
    have c3_9 : U40.cell? ⟨U2.heap.size, 9, none⟩ = some (.int .u64 (wd1 pw)) := k3.cell 9
    have c3_10 : U40.cell? ⟨U2.heap.size, 10, none⟩ = some (.int .u64 (wd2 pw)) := k3.cell 10
    have c3_11 : U40.cell? ⟨U2.heap.size, 11, none⟩ = some (.int .u64 (wd3 pw)) := k3.cell 11
    have l3 := k3.lt
    go_wp2_with fail
    clear c3_0 c3_1 c3_2 c3_3 c3_4 c3_5 c3_6 c3_7 c3_8 c3_9 c3_10 c3_11 l3
    first | refine calls_w ?_ | refine name_world ?_ | refine list_world ?_ | refine post_world ?_
    intro V41 hV41
    clear k29
    have D139 := Lib.hid k1.lt
    have D140 := Lib.hid k2.lt
    have D141 := Lib.hid k3.lt
    have D142 := Lib.hid k4.lt
    have D143 := Lib.hid k26.lt
    have D144 := Lib.hid k27.lt
    have D145 := Lib.hid k30.lt
    have D146 := Lib.hid hb0.size
    have hn : Below U40.heap.size U40 V41 := by rw [hV41]; exact below_a1 _ _
    have nk1 := k1.of hn
    have nk2 := k2.of hn
    have nk3 := k3.of hn
    have nk4 := k4.of hn
    have nk26 := k26.of hn
    have nk27 := k27.of hn
    have nk30 := k30.of hn
    have nhb0 := hb0.trans (hn.mono hb0.size)
    clear hn
    have k31 : Blk V41 U40.heap.size #[.int .u64 (wd0 px), .int .u64 (wd1 px), .int .u64 (wd2 px), .int .u64 (wd3 px), .int .u64 (wd0 py), .int .u64 (wd1 py), .int .u64 (wd2 py), .int .u64 (wd3 py), .int .u64 (wd0 pw), .int .u64 (wd1 pw), .int .u64 (wd2 pw), .int .u64 (wd3 pw)] 67 := by rw [hV41]; exact (Blk.new _ _ _)
    clear k1 k2 k3 k4 k26 k27 k30
    clear hb0
    clear hV41
    have k1 := nk1
    clear nk1
    have k2 := nk2
    clear nk2
    have k3 := nk3
    clear nk3
    have k4 := nk4
    clear nk4
    have k26 := nk26
    clear nk26
    have k27 := nk27
    clear nk27
    have k30 := nk30
    clear nk30
    have hb0 := nhb0
    clear nhb0
    refine (SpCmp_is px py pw px py pw 0 HP16.out _ipx _ipy _ipw _ipx _ipy _ipw  _).mono ?_
    rintro e U42 ⟨rfl, hn⟩
    replace k1 := k1.of hn
    replace k2 := k2.of hn
    replace k3 := k3.of hn
    replace k4 := k4.of hn
    replace k26 := k26.of hn
    replace k27 := k27.of hn
    replace k30 := k30.of hn
    replace k31 := k31.of hn
    replace hb0 := hb0.trans (hn.mono hb0.size)
    clear hn
    go_wp2_with fail
    refine hKL4.out _ _ ?_
    clear hKL4
    try clear KL4
    refine loopin_round ?_
    intro KL4 hKL4
    go_wp2_with fail
    refine hKL1.out _ _ ?_
    clear hKL4 hKL1
    try clear KL4
    try clear KL1
    refine loopin_round ?_
    intro KL1 hKL1
    have c1_0 : U42.cell? ⟨w.heap.size, 0, none⟩ = some (.int .i64 ax) := k1.cell 0
    have c1_1 : U42.cell? ⟨w.heap.size, 1, none⟩ = some (.int .i64 ay) := k1.cell 1
    have c1_2 : U42.cell? ⟨w.heap.size, 2, none⟩ = some (.int .i64 bx) := k1.cell 2
    have c1_3 : U42.cell? ⟨w.heap.size, 3, none⟩ = some (.int .i64 b_y) := k1.cell 3
    have l1 := k1.lt
    go_wp2_with fail
    clear c1_0 c1_1 c1_2 c1_3 l1
    refine (Meet_is ax ay bx b_y ax ay bx b_y 0 sx sy sw HP18.out HP19.out HP20.out HP21.out _iax _iay _ibx _ib_y _iax _iay _ibx _ib_y  _).mono ?_
    rintro e U43 ⟨rfl, hn⟩
    clear k2 k3 k4 k26 k27 k30 k31
    replace k1 := k1.of hn
    replace hb0 := hb0.trans (hn.mono hb0.size)
    clear hn
    obtain ⟨z4, hz4⟩ : ∃ o_o : Bool, (ax == bx) = o_o := ⟨_, rfl⟩
    cases z4
    · have nz4 : ¬ ax = bx := by simpa using hz4
      have nz4_ : ¬ bx = ax := fun e_ => nz4 e_.symm
      have c1_0 : U43.cell? ⟨w.heap.size, 0, none⟩ = some (.int .i64 ax) := k1.cell 0
      have c1_1 : U43.cell? ⟨w.heap.size, 1, none⟩ = some (.int .i64 ay) := k1.cell 1
      have c1_2 : U43.cell? ⟨w.heap.size, 2, none⟩ = some (.int .i64 bx) := k1.cell 2
      have c1_3 : U43.cell? ⟨w.heap.size, 3, none⟩ = some (.int .i64 b_y) := k1.cell 3
      have l1 := k1.lt
      go_wp2_with fail
      clear c1_0 c1_1 c1_2 c1_3 l1
      first | refine calls_w ?_ | refine name_world ?_ | refine list_world ?_ | refine post_world ?_
      intro V44 hV44
      clear k1
      have D147 := Lib.hid hb0.size
      have hn : Below U43.heap.size U43 V44 := by rw [hV44]; exact below_a1 _ _
      have nhb0 := hb0.trans (hn.mono hb0.size)
      clear hn
      have k33 : Blk V44 U43.heap.size #[.int .u64 (wd0 sx), .int .u64 (wd1 sx), .int .u64 (wd2 sx), .int .u64 (wd3 sx), .int .u64 (wd0 sy), .int .u64 (wd1 sy), .int .u64 (wd2 sy), .int .u64 (wd3 sy), .int .u64 (wd0 sw), .int .u64 (wd1 sw), .int .u64 (wd2 sw), .int .u64 (wd3 sw)] 67 := by rw [hV44]; exact (Blk.new _ _ _)
      clear hb0
      clear hV44
      have hb0 := nhb0
      clear nhb0
      refine (cright_is ax ay bx b_y false HP17.out _iax _iay _ibx _ib_y  _).mono ?_
      rintro e U45 ⟨rfl, hn⟩
      clear k33
      replace hb0 := hb0.trans (hn.mono hb0.size)
      clear hn
      go_wp2_with fail
      refine (cawake_any _).mono ?_
      rintro e U46 ⟨rfl, hn⟩
      replace hb0 := hb0.trans (hn.mono hb0.size)
      clear hn
      go_wp2
      first | go_ret | go_ret2
      exact ⟨by first | rfl | (simp; done) | (simp; assumption), hb0⟩
    · have qz4 : ax = bx := by simpa using hz4
      clear hz4
      subst qz4
      obtain ⟨z5, hz5⟩ : ∃ o_o : Bool, (ay == b_y) = o_o := ⟨_, rfl⟩
      cases z5
      · have nz5 : ¬ ay = b_y := by simpa using hz5
        have nz5_ : ¬ b_y = ay := fun e_ => nz5 e_.symm
        have c1_0 : U43.cell? ⟨w.heap.size, 0, none⟩ = some (.int .i64 ax) := k1.cell 0
        have c1_1 : U43.cell? ⟨w.heap.size, 1, none⟩ = some (.int .i64 ay) := k1.cell 1
        have c1_2 : U43.cell? ⟨w.heap.size, 2, none⟩ = some (.int .i64 ax) := k1.cell 2
        have c1_3 : U43.cell? ⟨w.heap.size, 3, none⟩ = some (.int .i64 b_y) := k1.cell 3
        have l1 := k1.lt
        go_wp2_with fail
        clear c1_0 c1_1 c1_2 c1_3 l1
        first | refine calls_w ?_ | refine name_world ?_ | refine list_world ?_ | refine post_world ?_
        intro V47 hV47
        clear k1
        have D148 := Lib.hid hb0.size
        have hn : Below U43.heap.size U43 V47 := by rw [hV47]; exact below_a1 _ _
        have nhb0 := hb0.trans (hn.mono hb0.size)
        clear hn
        have k35 : Blk V47 U43.heap.size #[.int .u64 (wd0 sx), .int .u64 (wd1 sx), .int .u64 (wd2 sx), .int .u64 (wd3 sx), .int .u64 (wd0 sy), .int .u64 (wd1 sy), .int .u64 (wd2 sy), .int .u64 (wd3 sy), .int .u64 (wd0 sw), .int .u64 (wd1 sw), .int .u64 (wd2 sw), .int .u64 (wd3 sw)] 67 := by rw [hV47]; exact (Blk.new _ _ _)
        clear hb0
        clear hV47
        have hb0 := nhb0
        clear nhb0
        refine (cright_is ax ay ax b_y false HP17.out _iax _iay _iax _ib_y  _).mono ?_
        rintro e U48 ⟨rfl, hn⟩
        clear k35
        replace hb0 := hb0.trans (hn.mono hb0.size)
        clear hn
        go_wp2_with fail
        refine (cawake_any _).mono ?_
        rintro e U49 ⟨rfl, hn⟩
        replace hb0 := hb0.trans (hn.mono hb0.size)
        clear hn
        go_wp2
        first | go_ret | go_ret2
        exact ⟨by first | rfl | (simp; done) | (simp; assumption), hb0⟩
      · have qz5 : ay = b_y := by simpa using hz5
        clear hz5
        subst qz5
        have c1_0 : U43.cell? ⟨w.heap.size, 0, none⟩ = some (.int .i64 ax) := k1.cell 0
        have c1_1 : U43.cell? ⟨w.heap.size, 1, none⟩ = some (.int .i64 ay) := k1.cell 1
        have c1_2 : U43.cell? ⟨w.heap.size, 2, none⟩ = some (.int .i64 ax) := k1.cell 2
        have c1_3 : U43.cell? ⟨w.heap.size, 3, none⟩ = some (.int .i64 ay) := k1.cell 3
        have l1 := k1.lt
        go_wp2_with fail
        clear c1_0 c1_1 c1_2 c1_3 l1
        first | refine calls_w ?_ | refine name_world ?_ | refine list_world ?_ | refine post_world ?_
        intro V50 hV50
        clear k1
        have D149 := Lib.hid hb0.size
        have hn : Below U43.heap.size U43 V50 := by rw [hV50]; exact below_a1 _ _
        have nhb0 := hb0.trans (hn.mono hb0.size)
        clear hn
        have k36 : Blk V50 U43.heap.size #[.int .u64 (wd0 sx), .int .u64 (wd1 sx), .int .u64 (wd2 sx), .int .u64 (wd3 sx), .int .u64 (wd0 sy), .int .u64 (wd1 sy), .int .u64 (wd2 sy), .int .u64 (wd3 sy), .int .u64 (wd0 sw), .int .u64 (wd1 sw), .int .u64 (wd2 sw), .int .u64 (wd3 sw)] 67 := by rw [hV50]; exact (Blk.new _ _ _)
        clear hb0
        clear hV50
        have hb0 := nhb0
        clear nhb0
        refine (cright_is ax ay ax ay false HP17.out _iax _iay _iax _iay  _).mono ?_
        rintro e U51 ⟨rfl, hn⟩
        clear k36
        replace hb0 := hb0.trans (hn.mono hb0.size)
        clear hn
        go_wp2_with fail
        refine (cawake_any _).mono ?_
        rintro e U52 ⟨rfl, hn⟩
        replace hb0 := hb0.trans (hn.mono hb0.size)
        clear hn
        go_wp2
        first | go_ret | go_ret2
        exact ⟨by first | rfl | (simp; done) | (simp; assumption), hb0⟩

set_option maxRecDepth 100000 in
set_option maxHeartbeats 4000000 in

theorem CAlong_D (ax : Int) (ay : Int) (cx : Int) (cy : Int) (dx : Int) (dy : Int) (k : Int) (px : Int) (py : Int) (pw : Int) (sx : Int) (sy : Int) (sw : Int)   (hP0 : mtk ax ay ax ay cx cy dx dy = k) (hP1 : mtx ax ay ax ay cx cy dx dy = px) (hP2 : mty ax ay ax ay cx cy dx dy = py) (hP3 : mtw ax ay ax ay cx cy dx dy = pw) (hP4 : mtk ax ay ax ay dx dy cx cy = k) (hP5 : mtx ax ay ax ay dx dy cx cy = px) (hP6 : mty ax ay ax ay dx dy cx cy = py) (hP7 : mtw ax ay ax ay dx dy cx cy = pw) (hP8 : spC px py pw px py pw = 0) (hP9 : crR ax ay ax ay = true) (hP10 : mtk ax ay ax ay ax ay ax ay = 1) (hP11 : mtx ax ay ax ay ax ay ax ay = sx) (hP12 : mty ax ay ax ay ax ay ax ay = sy) (hP13 : mtw ax ay ax ay ax ay ax ay = sw) (_ipx : InI px) (_ipy : InI py) (_ipw : InI pw) (_iax : In64 ax) (_iay : In64 ay) (_icx : In64 cx) (_icy : In64 cy) (_idx : In64 dx) (_idy : In64 dy)  (w : World)  :
    Calls Try.prog 13 #[.agg #[.int .i64 ax, .int .i64 ay, .int .i64 ax, .int .i64 ay], .agg #[.int .i64 cx, .int .i64 cy, .int .i64 dx, .int .i64 dy]] w fun e w' => e = .returned (.bool true) ∧ Below w.heap.size w w' := by

  have HP0 := Lib.hid hP0
  clear hP0
  have HP1 := Lib.hid hP1
  clear hP1
  have HP2 := Lib.hid hP2
  clear hP2
  have HP3 := Lib.hid hP3
  clear hP3
  have HP4 := Lib.hid hP4
  clear hP4
  have HP5 := Lib.hid hP5
  clear hP5
  have HP6 := Lib.hid hP6
  clear hP6
  have HP7 := Lib.hid hP7
  clear hP7
  have HP8 := Lib.hid hP8
  clear hP8
  have HP9 := Lib.hid hP9
  clear hP9
  have HP10 := Lib.hid hP10
  clear hP10
  have HP11 := Lib.hid hP11
  clear hP11
  have HP12 := Lib.hid hP12
  clear hP12
  have HP13 := Lib.hid hP13
  clear hP13
  go_enter Try.func13, Try.ntmps13
  go_wp2_with fail
  first | refine calls_w ?_ | refine name_world ?_ | refine list_world ?_ | refine post_world ?_
  intro V1 hV1
  have hn : Below w.heap.size w V1 := by rw [hV1]; exact below_a2 _ _ _
  have nhb0 := hn
  have k1 : Blk V1 w.heap.size #[.int .i64 ax, .int .i64 ay, .int .i64 ax, .int .i64 ay] 50 := by rw [hV1]; exact ((Blk.new _ _ _).alloc _)
  have k2 : Blk V1 (w.heap.size + 1) #[.int .i64 cx, .int .i64 cy, .int .i64 dx, .int .i64 dy] 50 := by rw [hV1]; exact (Blk.new1 _ _ _ _)
  clear hV1
  have hb0 := nhb0
  clear nhb0
  refine (Meet_is ax ay ax ay cx cy dx dy k px py pw HP0.out HP1.out HP2.out HP3.out _iax _iay _iax _iay _icx _icy _idx _idy  _).mono ?_
  rintro e U2 ⟨rfl, hn⟩
  replace k1 := k1.of hn
  replace k2 := k2.of hn
  replace hb0 := hb0.trans (hn.mono hb0.size)
  clear hn
  have c1_0 : U2.cell? ⟨w.heap.size, 0, none⟩ = some (.int .i64 ax) := k1.cell 0
  have c1_1 : U2.cell? ⟨w.heap.size, 1, none⟩ = some (.int .i64 ay) := k1.cell 1
  have c1_2 : U2.cell? ⟨w.heap.size, 2, none⟩ = some (.int .i64 ax) := k1.cell 2
  have c1_3 : U2.cell? ⟨w.heap.size, 3, none⟩ = some (.int .i64 ay) := k1.cell 3
  have l1 := k1.lt
  go_wp2_with fail
  clear c1_0 c1_1 c1_2 c1_3 l1
  refine wp_loop_in ?_
  first | refine loop_world ?_
  intro V3 hV3
  have D1 := Lib.hid k1.lt
  have D2 := Lib.hid k2.lt
  have D3 := Lib.hid hb0.size
  have hn : Below U2.heap.size U2 V3 := by rw [hV3]; exact below_a2 _ _ _
  have nk1 := k1.of hn
  have nk2 := k2.of hn
  have nhb0 := hb0.trans (hn.mono hb0.size)
  clear hn
  have k3 : Blk V3 U2.heap.size #[.int .u64 (wd0 px), .int .u64 (wd1 px), .int .u64 (wd2 px), .int .u64 (wd3 px), .int .u64 (wd0 py), .int .u64 (wd1 py), .int .u64 (wd2 py), .int .u64 (wd3 py), .int .u64 (wd0 pw), .int .u64 (wd1 pw), .int .u64 (wd2 pw), .int .u64 (wd3 pw)] 67 := by rw [hV3]; exact ((Blk.new _ _ _).alloc _)
  have k4 : Blk V3 (U2.heap.size + 1) #[.int .i64 ax, .int .i64 ay, .int .i64 ax, .int .i64 ay, .int .i64 ax, .int .i64 ay, .int .i64 ax, .int .i64 ay] 50 := by rw [hV3]; exact (Blk.new1 _ _ _ _)
  clear k1 k2
  clear hb0
  clear hV3
  have k1 := nk1
  clear nk1
  have k2 := nk2
  clear nk2
  have hb0 := nhb0
  clear nhb0
  refine loopin_round ?_
  intro KL1 hKL1
  have c2_0 : V3.cell? ⟨(w.heap.size + 1), 0, none⟩ = some (.int .i64 cx) := k2.cell 0
  have c2_1 : V3.cell? ⟨(w.heap.size + 1), 1, none⟩ = some (.int .i64 cy) := k2.cell 1
  have c2_2 : V3.cell? ⟨(w.heap.size + 1), 2, none⟩ = some (.int .i64 dx) := k2.cell 2
  have c2_3 : V3.cell? ⟨(w.heap.size + 1), 3, none⟩ = some (.int .i64 dy) := k2.cell 3
  have l2 := k2.lt
  have l2_0 : w.heap.size < V3.heap.size := by have := k2.lt; omega
  have c4_0 : V3.cell? ⟨(U2.heap.size + 1), 0, none⟩ = some (.int .i64 ax) := k4.cell 0
  have c4_1 : V3.cell? ⟨(U2.heap.size + 1), 1, none⟩ = some (.int .i64 ay) := k4.cell 1
  have c4_2 : V3.cell? ⟨(U2.heap.size + 1), 2, none⟩ = some (.int .i64 ax) := k4.cell 2
  have c4_3 : V3.cell? ⟨(U2.heap.size + 1), 3, none⟩ = some (.int .i64 ay) := k4.cell 3
  have l4 := k4.lt
  have l4_0 : U2.heap.size < V3.heap.size := by have := k4.lt; omega
  go_wp2_with fail
  clear c2_0 c2_1 c2_2 c2_3 l2 l2_0 c4_0 c4_1 c4_2 c4_3 l4 l4_0
  refine wp_loop_in ?_
  first | refine loop_world ?_
  intro V4 hV4
  have D4 := Lib.hid k1.lt
  have D5 := Lib.hid k2.lt
  have D6 := Lib.hid k3.lt
  have D7 := Lib.hid k4.lt
  have D8 := Lib.hid hb0.size
  have hn : Below V3.heap.size V3 V4 := by rw [hV4]; exact below_a2 _ _ _
  have nk1 := k1.of hn
  have nk2 := k2.of hn
  have nk3 := k3.of hn
  have nk4 := k4.of hn
  have nhb0 := hb0.trans (hn.mono hb0.size)
  clear hn
  have k5 : Blk V4 V3.heap.size #[.int .i64 ax, .int .i64 ay, .int .i64 ax, .int .i64 ay] 50 := by rw [hV4]; exact ((Blk.new _ _ _).alloc _)
  have k6 : Blk V4 (V3.heap.size + 1) #[.int .i64 cx, .int .i64 cy, .int .i64 dx, .int .i64 dy, .int .i64 dx, .int .i64 dy, .int .i64 cx, .int .i64 cy] 50 := by rw [hV4]; exact (Blk.new1 _ _ _ _)
  clear k1 k2 k3 k4
  clear hb0
  clear hV4
  have k1 := nk1
  clear nk1
  have k2 := nk2
  clear nk2
  have k3 := nk3
  clear nk3
  have k4 := nk4
  clear nk4
  have hb0 := nhb0
  clear nhb0
  refine loopin_round ?_
  intro KL2 hKL2
  have c5_0 : V4.cell? ⟨V3.heap.size, 0, none⟩ = some (.int .i64 ax) := k5.cell 0
  have c5_1 : V4.cell? ⟨V3.heap.size, 1, none⟩ = some (.int .i64 ay) := k5.cell 1
  have c5_2 : V4.cell? ⟨V3.heap.size, 2, none⟩ = some (.int .i64 ax) := k5.cell 2
  have c5_3 : V4.cell? ⟨V3.heap.size, 3, none⟩ = some (.int .i64 ay) := k5.cell 3
  have l5 := k5.lt
  have c6_0 : V4.cell? ⟨(V3.heap.size + 1), 0, none⟩ = some (.int .i64 cx) := k6.cell 0
  have c6_1 : V4.cell? ⟨(V3.heap.size + 1), 1, none⟩ = some (.int .i64 cy) := k6.cell 1
  have c6_2 : V4.cell? ⟨(V3.heap.size + 1), 2, none⟩ = some (.int .i64 dx) := k6.cell 2
  have c6_3 : V4.cell? ⟨(V3.heap.size + 1), 3, none⟩ = some (.int .i64 dy) := k6.cell 3
  have l6 := k6.lt
  have l6_0 : V3.heap.size < V4.heap.size := by have := k6.lt; omega
  go_wp2_with fail
  clear c5_0 c5_1 c5_2 c5_3 l5 c6_0 c6_1 c6_2 c6_3 l6 l6_0
  first | refine calls_w ?_ | refine name_world ?_ | refine list_world ?_ | refine post_world ?_
  intro V5 hV5
  have D9 := Lib.hid k1.lt
  have D10 := Lib.hid k2.lt
  have D11 := Lib.hid k3.lt
  have D12 := Lib.hid k4.lt
  have D13 := Lib.hid k5.lt
  have D14 := Lib.hid k6.lt
  have D15 := Lib.hid hb0.size
  have hn : Below V4.heap.size V4 V5 := by rw [hV5]; exact below_a1 _ _
  have nk1 := k1.of hn
  have nk2 := k2.of hn
  have nk3 := k3.of hn
  have nk4 := k4.of hn
  have nk5 := k5.of hn
  have nk6 := k6.of hn
  have nhb0 := hb0.trans (hn.mono hb0.size)
  clear hn
  have k7 : Blk V5 V4.heap.size #[.int .i64 cx, .int .i64 cy, .int .i64 dx, .int .i64 dy] 50 := by rw [hV5]; exact (Blk.new _ _ _)
  clear k1 k2 k3 k4 k5 k6
  clear hb0
  clear hV5
  have k1 := nk1
  clear nk1
  have k2 := nk2
  clear nk2
  have k3 := nk3
  clear nk3
  have k4 := nk4
  clear nk4
  have k5 := nk5
  clear nk5
  have k6 := nk6
  clear nk6
  have hb0 := nhb0
  clear nhb0
  refine (Meet_is ax ay ax ay cx cy dx dy k px py pw HP0.out HP1.out HP2.out HP3.out _iax _iay _iax _iay _icx _icy _idx _idy  _).mono ?_
  rintro e U6 ⟨rfl, hn⟩
  replace k1 := k1.of hn
  replace k2 := k2.of hn
  replace k3 := k3.of hn
  replace k4 := k4.of hn
  replace k5 := k5.of hn
  replace k6 := k6.of hn
  replace k7 := k7.of hn
  replace hb0 := hb0.trans (hn.mono hb0.size)
  clear hn
  obtain ⟨z1, hz1⟩ : ∃ o_o : Bool, (k == 1) = o_o := ⟨_, rfl⟩
  cases z1
  · have nz1 : ¬ k = 1 := by simpa using hz1
    go_wp2_with fail
    refine hKL2.out _ _ ?_
    clear hKL2
    try clear KL2
    first | refine loop_world ?_
    intro V7 hV7
    have D16 := Lib.hid k1.lt
    have D17 := Lib.hid k2.lt
    have D18 := Lib.hid k3.lt
    have D19 := Lib.hid k4.lt
    have D20 := Lib.hid k5.lt
    have D21 := Lib.hid k6.lt
    have D22 := Lib.hid k7.lt
    have D23 := Lib.hid hb0.size
    have hn : Below U6.heap.size U6 V7 := by rw [hV7]; exact below_a1 _ _
    have nk1 := k1.of hn
    have nk2 := k2.of hn
    have nk3 := k3.of hn
    have nk4 := k4.of hn
    have nk5 := k5.of hn
    have nk6 := k6.of hn
    have nk7 := k7.of hn
    have nhb0 := hb0.trans (hn.mono hb0.size)
    clear hn
    have k9 : Blk V7 U6.heap.size #[.int .u64 (wd0 px), .int .u64 (wd1 px), .int .u64 (wd2 px), .int .u64 (wd3 px), .int .u64 (wd0 py), .int .u64 (wd1 py), .int .u64 (wd2 py), .int .u64 (wd3 py), .int .u64 (wd0 pw), .int .u64 (wd1 pw), .int .u64 (wd2 pw), .int .u64 (wd3 pw)] 67 := by rw [hV7]; exact (Blk.new _ _ _)
    clear k1 k2 k3 k4 k5 k6 k7
    clear hb0
    clear hV7
    have k1 := nk1
    clear nk1
    have k2 := nk2
    clear nk2
    have k3 := nk3
    clear nk3
    have k4 := nk4
    clear nk4
    have k5 := nk5
    clear nk5
    have k6 := nk6
    clear nk6
    have k7 := nk7
    clear nk7
    have hb0 := nhb0
    clear nhb0
    refine loopin_round ?_
    intro KL2 hKL2
    have c5_0 : V7.cell? ⟨V3.heap.size, 0, none⟩ = some (.int .i64 ax) := k5.cell 0
    have c5_1 : V7.cell? ⟨V3.heap.size, 1, none⟩ = some (.int .i64 ay) := k5.cell 1
    have c5_2 : V7.cell? ⟨V3.heap.size, 2, none⟩ = some (.int .i64 ax) := k5.cell 2
    have c5_3 : V7.cell? ⟨V3.heap.size, 3, none⟩ = some (.int .i64 ay) := k5.cell 3
    have l5 := k5.lt
    have c6_4 : V7.cell? ⟨(V3.heap.size + 1), 4, none⟩ = some (.int .i64 dx) := k6.cell 4
    have c6_5 : V7.cell? ⟨(V3.heap.size + 1), 5, none⟩ = some (.int .i64 dy) := k6.cell 5
    have c6_6 : V7.cell? ⟨(V3.heap.size + 1), 6, none⟩ = some (.int .i64 cx) := k6.cell 6
    have c6_7 : V7.cell? ⟨(V3.heap.size + 1), 7, none⟩ = some (.int .i64 cy) := k6.cell 7
    have l6 := k6.lt
    have l6_0 : V3.heap.size < V7.heap.size := by have := k6.lt; omega
    go_wp2_with fail
    clear c5_0 c5_1 c5_2 c5_3 l5 c6_4 c6_5 c6_6 c6_7 l6 l6_0
    first | refine calls_w ?_ | refine name_world ?_ | refine list_world ?_ | refine post_world ?_
    intro V8 hV8
    clear k7
    have D24 := Lib.hid k1.lt
    have D25 := Lib.hid k2.lt
    have D26 := Lib.hid k3.lt
    have D27 := Lib.hid k4.lt
    have D28 := Lib.hid k5.lt
    have D29 := Lib.hid k6.lt
    have D30 := Lib.hid k9.lt
    have D31 := Lib.hid hb0.size
    have hn : Below V7.heap.size V7 V8 := by rw [hV8]; exact below_a1 _ _
    have nk1 := k1.of hn
    have nk2 := k2.of hn
    have nk3 := k3.of hn
    have nk4 := k4.of hn
    have nk5 := k5.of hn
    have nk6 := k6.of hn
    have nk9 := k9.of hn
    have nhb0 := hb0.trans (hn.mono hb0.size)
    clear hn
    have k10 : Blk V8 V7.heap.size #[.int .i64 dx, .int .i64 dy, .int .i64 cx, .int .i64 cy] 50 := by rw [hV8]; exact (Blk.new _ _ _)
    clear k1 k2 k3 k4 k5 k6 k9
    clear hb0
    clear hV8
    have k1 := nk1
    clear nk1
    have k2 := nk2
    clear nk2
    have k3 := nk3
    clear nk3
    have k4 := nk4
    clear nk4
    have k5 := nk5
    clear nk5
    have k6 := nk6
    clear nk6
    have k9 := nk9
    clear nk9
    have hb0 := nhb0
    clear nhb0
    refine (Meet_is ax ay ax ay dx dy cx cy k px py pw HP4.out HP5.out HP6.out HP7.out _iax _iay _iax _iay _idx _idy _icx _icy  _).mono ?_
    rintro e U9 ⟨rfl, hn⟩
    replace k1 := k1.of hn
    replace k2 := k2.of hn
    replace k3 := k3.of hn
    replace k4 := k4.of hn
    replace k5 := k5.of hn
    replace k6 := k6.of hn
    replace k9 := k9.of hn
    replace k10 := k10.of hn
    replace hb0 := hb0.trans (hn.mono hb0.size)
    clear hn
    go_wp2_with fail
    refine hKL2.out _ _ ?_
    clear hKL2
    try clear KL2
    first | refine loop_world ?_
    intro V10 hV10
    clear k9
    have D32 := Lib.hid k1.lt
    have D33 := Lib.hid k2.lt
    have D34 := Lib.hid k3.lt
    have D35 := Lib.hid k4.lt
    have D36 := Lib.hid k5.lt
    have D37 := Lib.hid k6.lt
    have D38 := Lib.hid k10.lt
    have D39 := Lib.hid hb0.size
    have hn : Below U9.heap.size U9 V10 := by rw [hV10]; exact below_a1 _ _
    have nk1 := k1.of hn
    have nk2 := k2.of hn
    have nk3 := k3.of hn
    have nk4 := k4.of hn
    have nk5 := k5.of hn
    have nk6 := k6.of hn
    have nk10 := k10.of hn
    have nhb0 := hb0.trans (hn.mono hb0.size)
    clear hn
    have k11 : Blk V10 U9.heap.size #[.int .u64 (wd0 px), .int .u64 (wd1 px), .int .u64 (wd2 px), .int .u64 (wd3 px), .int .u64 (wd0 py), .int .u64 (wd1 py), .int .u64 (wd2 py), .int .u64 (wd3 py), .int .u64 (wd0 pw), .int .u64 (wd1 pw), .int .u64 (wd2 pw), .int .u64 (wd3 pw)] 67 := by rw [hV10]; exact (Blk.new _ _ _)
    clear k1 k2 k3 k4 k5 k6 k10
    clear hb0
    clear hV10
    have k1 := nk1
    clear nk1
    have k2 := nk2
    clear nk2
    have k3 := nk3
    clear nk3
    have k4 := nk4
    clear nk4
    have k5 := nk5
    clear nk5
    have k6 := nk6
    clear nk6
    have k10 := nk10
    clear nk10
    have hb0 := nhb0
    clear nhb0
    refine loopin_round ?_
    intro KL2 hKL2
    go_wp2_with fail
    refine hKL1.out _ _ ?_
    clear hKL2 hKL1
    try clear KL2
    try clear KL1
    refine loopin_round ?_
    intro KL1 hKL1
    have c2_0 : V10.cell? ⟨(w.heap.size + 1), 0, none⟩ = some (.int .i64 cx) := k2.cell 0
    have c2_1 : V10.cell? ⟨(w.heap.size + 1), 1, none⟩ = some (.int .i64 cy) := k2.cell 1
    have c2_2 : V10.cell? ⟨(w.heap.size + 1), 2, none⟩ = some (.int .i64 dx) := k2.cell 2
    have c2_3 : V10.cell? ⟨(w.heap.size + 1), 3, none⟩ = some (.int .i64 dy) := k2.cell 3
    have l2 := k2.lt
    have l2_0 : w.heap.size < V10.heap.size := by have := k2.lt; omega
    have c4_4 : V10.cell? ⟨(U2.heap.size + 1), 4, none⟩ = some (.int .i64 ax) := k4.cell 4
    have c4_5 : V10.cell? ⟨(U2.heap.size + 1), 5, none⟩ = some (.int .i64 ay) := k4.cell 5
    have c4_6 : V10.cell? ⟨(U2.heap.size + 1), 6, none⟩ = some (.int .i64 ax) := k4.cell 6
    have c4_7 : V10.cell? ⟨(U2.heap.size + 1), 7, none⟩ = some (.int .i64 ay) := k4.cell 7
    have l4 := k4.lt
    have l4_0 : U2.heap.size < V10.heap.size := by have := k4.lt; omega
    go_wp2_with fail
    clear c2_0 c2_1 c2_2 c2_3 l2 l2_0 c4_4 c4_5 c4_6 c4_7 l4 l4_0
    refine wp_loop_in ?_
    first | refine loop_world ?_
    intro V11 hV11
    clear k5
    have D40 := Lib.hid k1.lt
    have D41 := Lib.hid k2.lt
    have D42 := Lib.hid k3.lt
    have D43 := Lib.hid k4.lt
    have D44 := Lib.hid k6.lt
    have D45 := Lib.hid k10.lt
    have D46 := Lib.hid k11.lt
    have D47 := Lib.hid hb0.size
    have hn : Below V10.heap.size V10 V11 := by rw [hV11]; exact below_a2 _ _ _
    have nk1 := k1.of hn
    have nk2 := k2.of hn
    have nk3 := k3.of hn
    have nk4 := k4.of hn
    have nk6 := k6.of hn
    have nk10 := k10.of hn
    have nk11 := k11.of hn
    have nhb0 := hb0.trans (hn.mono hb0.size)
    clear hn
    have k12 : Blk V11 V10.heap.size #[.int .i64 ax, .int .i64 ay, .int .i64 ax, .int .i64 ay] 50 := by rw [hV11]; exact ((Blk.new _ _ _).alloc _)
    have k13 : Blk V11 (V10.heap.size + 1) #[.int .i64 cx, .int .i64 cy, .int .i64 dx, .int .i64 dy, .int .i64 dx, .int .i64 dy, .int .i64 cx, .int .i64 cy] 50 := by rw [hV11]; exact (Blk.new1 _ _ _ _)
    clear k1 k2 k3 k4 k6 k10 k11
    clear hb0
    clear hV11
    have k1 := nk1
    clear nk1
    have k2 := nk2
    clear nk2
    have k3 := nk3
    clear nk3
    have k4 := nk4
    clear nk4
    have k6 := nk6
    clear nk6
    have k10 := nk10
    clear nk10
    have k11 := nk11
    clear nk11
    have hb0 := nhb0
    clear nhb0
    refine loopin_round ?_
    intro KL3 hKL3
    have c12_0 : V11.cell? ⟨V10.heap.size, 0, none⟩ = some (.int .i64 ax) := k12.cell 0
    have c12_1 : V11.cell? ⟨V10.heap.size, 1, none⟩ = some (.int .i64 ay) := k12.cell 1
    have c12_2 : V11.cell? ⟨V10.heap.size, 2, none⟩ = some (.int .i64 ax) := k12.cell 2
    have c12_3 : V11.cell? ⟨V10.heap.size, 3, none⟩ = some (.int .i64 ay) := k12.cell 3
    have l12 := k12.lt
    have c13_0 : V11.cell? ⟨(V10.heap.size + 1), 0, none⟩ = some (.int .i64 cx) := k13.cell 0
    have c13_1 : V11.cell? ⟨(V10.heap.size + 1), 1, none⟩ = some (.int .i64 cy) := k13.cell 1
    have c13_2 : V11.cell? ⟨(V10.heap.size + 1), 2, none⟩ = some (.int .i64 dx) := k13.cell 2
    have c13_3 : V11.cell? ⟨(V10.heap.size + 1), 3, none⟩ = some (.int .i64 dy) := k13.cell 3
    have l13 := k13.lt
    have l13_0 : V10.heap.size < V11.heap.size := by have := k13.lt; omega
    go_wp2_with fail
    clear c12_0 c12_1 c12_2 c12_3 l12 c13_0 c13_1 c13_2 c13_3 l13 l13_0
    first | refine calls_w ?_ | refine name_world ?_ | refine list_world ?_ | refine post_world ?_
    intro V12 hV12
    clear k6 k10
    have D48 := Lib.hid k1.lt
    have D49 := Lib.hid k2.lt
    have D50 := Lib.hid k3.lt
    have D51 := Lib.hid k4.lt
    have D52 := Lib.hid k11.lt
    have D53 := Lib.hid k12.lt
    have D54 := Lib.hid k13.lt
    have D55 := Lib.hid hb0.size
    have hn : Below V11.heap.size V11 V12 := by rw [hV12]; exact below_a1 _ _
    have nk1 := k1.of hn
    have nk2 := k2.of hn
    have nk3 := k3.of hn
    have nk4 := k4.of hn
    have nk11 := k11.of hn
    have nk12 := k12.of hn
    have nk13 := k13.of hn
    have nhb0 := hb0.trans (hn.mono hb0.size)
    clear hn
    have k14 : Blk V12 V11.heap.size #[.int .i64 cx, .int .i64 cy, .int .i64 dx, .int .i64 dy] 50 := by rw [hV12]; exact (Blk.new _ _ _)
    clear k1 k2 k3 k4 k11 k12 k13
    clear hb0
    clear hV12
    have k1 := nk1
    clear nk1
    have k2 := nk2
    clear nk2
    have k3 := nk3
    clear nk3
    have k4 := nk4
    clear nk4
    have k11 := nk11
    clear nk11
    have k12 := nk12
    clear nk12
    have k13 := nk13
    clear nk13
    have hb0 := nhb0
    clear nhb0
    refine (Meet_is ax ay ax ay cx cy dx dy k px py pw HP0.out HP1.out HP2.out HP3.out _iax _iay _iax _iay _icx _icy _idx _idy  _).mono ?_
    rintro e U13 ⟨rfl, hn⟩
    replace k1 := k1.of hn
    replace k2 := k2.of hn
    replace k3 := k3.of hn
    replace k4 := k4.of hn
    replace k11 := k11.of hn
    replace k12 := k12.of hn
    replace k13 := k13.of hn
    replace k14 := k14.of hn
    replace hb0 := hb0.trans (hn.mono hb0.size)
    clear hn
    go_wp2_with fail
    refine hKL3.out _ _ ?_
    clear hKL3
    try clear KL3
    first | refine loop_world ?_
    intro V14 hV14
    clear k11
    have D56 := Lib.hid k1.lt
    have D57 := Lib.hid k2.lt
    have D58 := Lib.hid k3.lt
    have D59 := Lib.hid k4.lt
    have D60 := Lib.hid k12.lt
    have D61 := Lib.hid k13.lt
    have D62 := Lib.hid k14.lt
    have D63 := Lib.hid hb0.size
    have hn : Below U13.heap.size U13 V14 := by rw [hV14]; exact below_a1 _ _
    have nk1 := k1.of hn
    have nk2 := k2.of hn
    have nk3 := k3.of hn
    have nk4 := k4.of hn
    have nk12 := k12.of hn
    have nk13 := k13.of hn
    have nk14 := k14.of hn
    have nhb0 := hb0.trans (hn.mono hb0.size)
    clear hn
    have k15 : Blk V14 U13.heap.size #[.int .u64 (wd0 px), .int .u64 (wd1 px), .int .u64 (wd2 px), .int .u64 (wd3 px), .int .u64 (wd0 py), .int .u64 (wd1 py), .int .u64 (wd2 py), .int .u64 (wd3 py), .int .u64 (wd0 pw), .int .u64 (wd1 pw), .int .u64 (wd2 pw), .int .u64 (wd3 pw)] 67 := by rw [hV14]; exact (Blk.new _ _ _)
    clear k1 k2 k3 k4 k12 k13 k14
    clear hb0
    clear hV14
    have k1 := nk1
    clear nk1
    have k2 := nk2
    clear nk2
    have k3 := nk3
    clear nk3
    have k4 := nk4
    clear nk4
    have k12 := nk12
    clear nk12
    have k13 := nk13
    clear nk13
    have k14 := nk14
    clear nk14
    have hb0 := nhb0
    clear nhb0
    refine loopin_round ?_
    intro KL3 hKL3
    have c12_0 : V14.cell? ⟨V10.heap.size, 0, none⟩ = some (.int .i64 ax) := k12.cell 0
    have c12_1 : V14.cell? ⟨V10.heap.size, 1, none⟩ = some (.int .i64 ay) := k12.cell 1
    have c12_2 : V14.cell? ⟨V10.heap.size, 2, none⟩ = some (.int .i64 ax) := k12.cell 2
    have c12_3 : V14.cell? ⟨V10.heap.size, 3, none⟩ = some (.int .i64 ay) := k12.cell 3
    have l12 := k12.lt
    have c13_4 : V14.cell? ⟨(V10.heap.size + 1), 4, none⟩ = some (.int .i64 dx) := k13.cell 4
    have c13_5 : V14.cell? ⟨(V10.heap.size + 1), 5, none⟩ = some (.int .i64 dy) := k13.cell 5
    have c13_6 : V14.cell? ⟨(V10.heap.size + 1), 6, none⟩ = some (.int .i64 cx) := k13.cell 6
    have c13_7 : V14.cell? ⟨(V10.heap.size + 1), 7, none⟩ = some (.int .i64 cy) := k13.cell 7
    have l13 := k13.lt
    have l13_0 : V10.heap.size < V14.heap.size := by have := k13.lt; omega
    go_wp2_with fail
    clear c12_0 c12_1 c12_2 c12_3 l12 c13_4 c13_5 c13_6 c13_7 l13 l13_0
    first | refine calls_w ?_ | refine name_world ?_ | refine list_world ?_ | refine post_world ?_
    intro V15 hV15
    clear k14
    have D64 := Lib.hid k1.lt
    have D65 := Lib.hid k2.lt
    have D66 := Lib.hid k3.lt
    have D67 := Lib.hid k4.lt
    have D68 := Lib.hid k12.lt
    have D69 := Lib.hid k13.lt
    have D70 := Lib.hid k15.lt
    have D71 := Lib.hid hb0.size
    have hn : Below V14.heap.size V14 V15 := by rw [hV15]; exact below_a1 _ _
    have nk1 := k1.of hn
    have nk2 := k2.of hn
    have nk3 := k3.of hn
    have nk4 := k4.of hn
    have nk12 := k12.of hn
    have nk13 := k13.of hn
    have nk15 := k15.of hn
    have nhb0 := hb0.trans (hn.mono hb0.size)
    clear hn
    have k16 : Blk V15 V14.heap.size #[.int .i64 dx, .int .i64 dy, .int .i64 cx, .int .i64 cy] 50 := by rw [hV15]; exact (Blk.new _ _ _)
    clear k1 k2 k3 k4 k12 k13 k15
    clear hb0
    clear hV15
    have k1 := nk1
    clear nk1
    have k2 := nk2
    clear nk2
    have k3 := nk3
    clear nk3
    have k4 := nk4
    clear nk4
    have k12 := nk12
    clear nk12
    have k13 := nk13
    clear nk13
    have k15 := nk15
    clear nk15
    have hb0 := nhb0
    clear nhb0
    refine (Meet_is ax ay ax ay dx dy cx cy k px py pw HP4.out HP5.out HP6.out HP7.out _iax _iay _iax _iay _idx _idy _icx _icy  _).mono ?_
    rintro e U16 ⟨rfl, hn⟩
    replace k1 := k1.of hn
    replace k2 := k2.of hn
    replace k3 := k3.of hn
    replace k4 := k4.of hn
    replace k12 := k12.of hn
    replace k13 := k13.of hn
    replace k15 := k15.of hn
    replace k16 := k16.of hn
    replace hb0 := hb0.trans (hn.mono hb0.size)
    clear hn
    go_wp2_with fail
    refine hKL3.out _ _ ?_
    clear hKL3
    try clear KL3
    first | refine loop_world ?_
    intro V17 hV17
    clear k15
    have D72 := Lib.hid k1.lt
    have D73 := Lib.hid k2.lt
    have D74 := Lib.hid k3.lt
    have D75 := Lib.hid k4.lt
    have D76 := Lib.hid k12.lt
    have D77 := Lib.hid k13.lt
    have D78 := Lib.hid k16.lt
    have D79 := Lib.hid hb0.size
    have hn : Below U16.heap.size U16 V17 := by rw [hV17]; exact below_a1 _ _
    have nk1 := k1.of hn
    have nk2 := k2.of hn
    have nk3 := k3.of hn
    have nk4 := k4.of hn
    have nk12 := k12.of hn
    have nk13 := k13.of hn
    have nk16 := k16.of hn
    have nhb0 := hb0.trans (hn.mono hb0.size)
    clear hn
    have k17 : Blk V17 U16.heap.size #[.int .u64 (wd0 px), .int .u64 (wd1 px), .int .u64 (wd2 px), .int .u64 (wd3 px), .int .u64 (wd0 py), .int .u64 (wd1 py), .int .u64 (wd2 py), .int .u64 (wd3 py), .int .u64 (wd0 pw), .int .u64 (wd1 pw), .int .u64 (wd2 pw), .int .u64 (wd3 pw)] 67 := by rw [hV17]; exact (Blk.new _ _ _)
    clear k1 k2 k3 k4 k12 k13 k16
    clear hb0
    clear hV17
    have k1 := nk1
    clear nk1
    have k2 := nk2
    clear nk2
    have k3 := nk3
    clear nk3
    have k4 := nk4
    clear nk4
    have k12 := nk12
    clear nk12
    have k13 := nk13
    clear nk13
    have k16 := nk16
    clear nk16
    have hb0 := nhb0
    clear nhb0
    refine loopin_round ?_
    intro KL3 hKL3
    go_wp2_with fail
    refine hKL1.out _ _ ?_
    clear hKL3 hKL1
    try clear KL3
    try clear KL1
    refine loopin_round ?_
    intro KL1 hKL1
    have c1_0 : V17.cell? ⟨w.heap.size, 0, none⟩ = some (.int .i64 ax) := k1.cell 0
    have c1_1 : V17.cell? ⟨w.heap.size, 1, none⟩ = some (.int .i64 ay) := k1.cell 1
    have c1_2 : V17.cell? ⟨w.heap.size, 2, none⟩ = some (.int .i64 ax) := k1.cell 2
    have c1_3 : V17.cell? ⟨w.heap.size, 3, none⟩ = some (.int .i64 ay) := k1.cell 3
    have l1 := k1.lt
    go_wp2_with fail
    clear c1_0 c1_1 c1_2 c1_3 l1
    refine (Meet_is ax ay ax ay ax ay ax ay 1 sx sy sw HP10.out HP11.out HP12.out HP13.out _iax _iay _iax _iay _iax _iay _iax _iay  _).mono ?_
    rintro e U18 ⟨rfl, hn⟩
    clear k2 k3 k4 k12 k13 k16 k17
    replace k1 := k1.of hn
    replace hb0 := hb0.trans (hn.mono hb0.size)
    clear hn
    have c1_0 : U18.cell? ⟨w.heap.size, 0, none⟩ = some (.int .i64 ax) := k1.cell 0
    have c1_1 : U18.cell? ⟨w.heap.size, 1, none⟩ = some (.int .i64 ay) := k1.cell 1
    have c1_2 : U18.cell? ⟨w.heap.size, 2, none⟩ = some (.int .i64 ax) := k1.cell 2
    have c1_3 : U18.cell? ⟨w.heap.size, 3, none⟩ = some (.int .i64 ay) := k1.cell 3
    have l1 := k1.lt
    go_wp2_with fail
    clear c1_0 c1_1 c1_2 c1_3 l1
    first | refine calls_w ?_ | refine name_world ?_ | refine list_world ?_ | refine post_world ?_
    intro V19 hV19
    clear k1
    have D80 := Lib.hid hb0.size
    have hn : Below U18.heap.size U18 V19 := by rw [hV19]; exact below_a1 _ _
    have nhb0 := hb0.trans (hn.mono hb0.size)
    clear hn
    have k18 : Blk V19 U18.heap.size #[.int .u64 (wd0 sx), .int .u64 (wd1 sx), .int .u64 (wd2 sx), .int .u64 (wd3 sx), .int .u64 (wd0 sy), .int .u64 (wd1 sy), .int .u64 (wd2 sy), .int .u64 (wd3 sy), .int .u64 (wd0 sw), .int .u64 (wd1 sw), .int .u64 (wd2 sw), .int .u64 (wd3 sw)] 67 := by rw [hV19]; exact (Blk.new _ _ _)
    clear hb0
    clear hV19
    have hb0 := nhb0
    clear nhb0
    refine (cright_is ax ay ax ay true HP9.out _iax _iay _iax _iay  _).mono ?_
    rintro e U20 ⟨rfl, hn⟩
    clear k18
    replace hb0 := hb0.trans (hn.mono hb0.size)
    clear hn
    go_wp2_with fail
    refine (cawake_any _).mono ?_
    rintro e U21 ⟨rfl, hn⟩
    replace hb0 := hb0.trans (hn.mono hb0.size)
    clear hn
    go_wp2
    first | go_ret | go_ret2
    exact ⟨by first | rfl | (simp; done) | (simp; assumption), hb0⟩
  · obtain rfl : k = 1 := by simpa using hz1
    clear hz1
    have c3_0 : U6.cell? ⟨U2.heap.size, 0, none⟩ = some (.int .u64 (wd0 px)) := k3.cell 0
    have c3_1 : U6.cell? ⟨U2.heap.size, 1, none⟩ = some (.int .u64 (wd1 px)) := k3.cell 1
    have c3_2 : U6.cell? ⟨U2.heap.size, 2, none⟩ = some (.int .u64 (wd2 px)) := k3.cell 2
    have c3_3 : U6.cell? ⟨U2.heap.size, 3, none⟩ = some (.int .u64 (wd3 px)) := k3.cell 3
    have c3_4 : U6.cell? ⟨U2.heap.size, 4, none⟩ = some (.int .u64 (wd0 py)) := k3.cell 4
    have c3_5 : U6.cell? ⟨U2.heap.size, 5, none⟩ = some (.int .u64 (wd1 py)) := k3.cell 5
    have c3_6 : U6.cell? ⟨U2.heap.size, 6, none⟩ = some (.int .u64 (wd2 py)) := k3.cell 6
    have c3_7 : U6.cell? ⟨U2.heap.size, 7, none⟩ = some (.int .u64 (wd3 py)) := k3.cell 7
    have c3_8 : U6.cell? ⟨U2.heap.size, 8, none⟩ = some (.int .u64 (wd0 pw)) := k3.cell 8
    have c3_9 : U6.cell? ⟨U2.heap.size, 9, none⟩ = some (.int .u64 (wd1 pw)) := k3.cell 9
    have c3_10 : U6.cell? ⟨U2.heap.size, 10, none⟩ = some (.int .u64 (wd2 pw)) := k3.cell 10
    have c3_11 : U6.cell? ⟨U2.heap.size, 11, none⟩ = some (.int .u64 (wd3 pw)) := k3.cell 11
    have l3 := k3.lt
    go_wp2_with fail
    clear c3_0 c3_1 c3_2 c3_3 c3_4 c3_5 c3_6 c3_7 c3_8 c3_9 c3_10 c3_11 l3
    first | refine calls_w ?_ | refine name_world ?_ | refine list_world ?_ | refine post_world ?_
    intro V22 hV22
    have D81 := Lib.hid k1.lt
    have D82 := Lib.hid k2.lt
    have D83 := Lib.hid k3.lt
    have D84 := Lib.hid k4.lt
    have D85 := Lib.hid k5.lt
    have D86 := Lib.hid k6.lt
    have D87 := Lib.hid k7.lt
    have D88 := Lib.hid hb0.size
    have hn : Below U6.heap.size U6 V22 := by rw [hV22]; exact below_a1 _ _
    have nk1 := k1.of hn
    have nk2 := k2.of hn
    have nk3 := k3.of hn
    have nk4 := k4.of hn
    have nk5 := k5.of hn
    have nk6 := k6.of hn
    have nk7 := k7.of hn
    have nhb0 := hb0.trans (hn.mono hb0.size)
    clear hn
    have k19 : Blk V22 U6.heap.size #[.int .u64 (wd0 px), .int .u64 (wd1 px), .int .u64 (wd2 px), .int .u64 (wd3 px), .int .u64 (wd0 py), .int .u64 (wd1 py), .int .u64 (wd2 py), .int .u64 (wd3 py), .int .u64 (wd0 pw), .int .u64 (wd1 pw), .int .u64 (wd2 pw), .int .u64 (wd3 pw)] 67 := by rw [hV22]; exact (Blk.new _ _ _)
    clear k1 k2 k3 k4 k5 k6 k7
    clear hb0
    clear hV22
    have k1 := nk1
    clear nk1
    have k2 := nk2
    clear nk2
    have k3 := nk3
    clear nk3
    have k4 := nk4
    clear nk4
    have k5 := nk5
    clear nk5
    have k6 := nk6
    clear nk6
    have k7 := nk7
    clear nk7
    have hb0 := nhb0
    clear nhb0
    refine (SpCmp_is px py pw px py pw 0 HP8.out _ipx _ipy _ipw _ipx _ipy _ipw  _).mono ?_
    rintro e U23 ⟨rfl, hn⟩
    replace k1 := k1.of hn
    replace k2 := k2.of hn
    replace k3 := k3.of hn
    replace k4 := k4.of hn
    replace k5 := k5.of hn
    replace k6 := k6.of hn
    replace k7 := k7.of hn
    replace k19 := k19.of hn
    replace hb0 := hb0.trans (hn.mono hb0.size)
    clear hn
    go_wp2_with fail
    refine hKL2.out _ _ ?_
    clear hKL2
    try clear KL2
    refine loopin_round ?_
    intro KL2 hKL2
    have c5_0 : U23.cell? ⟨V3.heap.size, 0, none⟩ = some (.int .i64 ax) := k5.cell 0
    have c5_1 : U23.cell? ⟨V3.heap.size, 1, none⟩ = some (.int .i64 ay) := k5.cell 1
    have c5_2 : U23.cell? ⟨V3.heap.size, 2, none⟩ = some (.int .i64 ax) := k5.cell 2
    have c5_3 : U23.cell? ⟨V3.heap.size, 3, none⟩ = some (.int .i64 ay) := k5.cell 3
    have l5 := k5.lt
    have c6_4 : U23.cell? ⟨(V3.heap.size + 1), 4, none⟩ = some (.int .i64 dx) := k6.cell 4
    have c6_5 : U23.cell? ⟨(V3.heap.size + 1), 5, none⟩ = some (.int .i64 dy) := k6.cell 5
    have c6_6 : U23.cell? ⟨(V3.heap.size + 1), 6, none⟩ = some (.int .i64 cx) := k6.cell 6
    have c6_7 : U23.cell? ⟨(V3.heap.size + 1), 7, none⟩ = some (.int .i64 cy) := k6.cell 7
    have l6 := k6.lt
    have l6_0 : V3.heap.size < U23.heap.size := by have := k6.lt; omega
    go_wp2_with fail
    clear c5_0 c5_1 c5_2 c5_3 l5 c6_4 c6_5 c6_6 c6_7 l6 l6_0
    first | refine calls_w ?_ | refine name_world ?_ | refine list_world ?_ | refine post_world ?_
    intro V24 hV24
    clear k7
    have D89 := Lib.hid k1.lt
    have D90 := Lib.hid k2.lt
    have D91 := Lib.hid k3.lt
    have D92 := Lib.hid k4.lt
    have D93 := Lib.hid k5.lt
    have D94 := Lib.hid k6.lt
    have D95 := Lib.hid k19.lt
    have D96 := Lib.hid hb0.size
    have hn : Below U23.heap.size U23 V24 := by rw [hV24]; exact below_a1 _ _
    have nk1 := k1.of hn
    have nk2 := k2.of hn
    have nk3 := k3.of hn
    have nk4 := k4.of hn
    have nk5 := k5.of hn
    have nk6 := k6.of hn
    have nk19 := k19.of hn
    have nhb0 := hb0.trans (hn.mono hb0.size)
    clear hn
    have k20 : Blk V24 U23.heap.size #[.int .i64 dx, .int .i64 dy, .int .i64 cx, .int .i64 cy] 50 := by rw [hV24]; exact (Blk.new _ _ _)
    clear k1 k2 k3 k4 k5 k6 k19
    clear hb0
    clear hV24
    have k1 := nk1
    clear nk1
    have k2 := nk2
    clear nk2
    have k3 := nk3
    clear nk3
    have k4 := nk4
    clear nk4
    have k5 := nk5
    clear nk5
    have k6 := nk6
    clear nk6
    have k19 := nk19
    clear nk19
    have hb0 := nhb0
    clear nhb0
    refine (Meet_is ax ay ax ay dx dy cx cy 1 px py pw HP4.out HP5.out HP6.out HP7.out _iax _iay _iax _iay _idx _idy _icx _icy  _).mono ?_
    rintro e U25 ⟨rfl, hn⟩
    replace k1 := k1.of hn
    replace k2 := k2.of hn
    replace k3 := k3.of hn
    replace k4 := k4.of hn
    replace k5 := k5.of hn
    replace k6 := k6.of hn
    replace k19 := k19.of hn
    replace k20 := k20.of hn
    replace hb0 := hb0.trans (hn.mono hb0.size)
    clear hn
    have c3_0 : U25.cell? ⟨U2.heap.size, 0, none⟩ = some (.int .u64 (wd0 px)) := k3.cell 0
    have c3_1 : U25.cell? ⟨U2.heap.size, 1, none⟩ = some (.int .u64 (wd1 px)) := k3.cell 1
    have c3_2 : U25.cell? ⟨U2.heap.size, 2, none⟩ = some (.int .u64 (wd2 px)) := k3.cell 2
    have c3_3 : U25.cell? ⟨U2.heap.size, 3, none⟩ = some (.int .u64 (wd3 px)) := k3.cell 3
    have c3_4 : U25.cell? ⟨U2.heap.size, 4, none⟩ = some (.int .u64 (wd0 py)) := k3.cell 4
    have c3_5 : U25.cell? ⟨U2.heap.size, 5, none⟩ = some (.int .u64 (wd1 py)) := k3.cell 5
    have c3_6 : U25.cell? ⟨U2.heap.size, 6, none⟩ = some (.int .u64 (wd2 py)) := k3.cell 6
    have c3_7 : U25.cell? ⟨U2.heap.size, 7, none⟩ = some (.int .u64 (wd3 py)) := k3.cell 7
    have c3_8 : U25.cell? ⟨U2.heap.size, 8, none⟩ = some (.int .u64 (wd0 pw)) := k3.cell 8
    have c3_9 : U25.cell? ⟨U2.heap.size, 9, none⟩ = some (.int .u64 (wd1 pw)) := k3.cell 9
    have c3_10 : U25.cell? ⟨U2.heap.size, 10, none⟩ = some (.int .u64 (wd2 pw)) := k3.cell 10
    have c3_11 : U25.cell? ⟨U2.heap.size, 11, none⟩ = some (.int .u64 (wd3 pw)) := k3.cell 11
    have l3 := k3.lt
    go_wp2_with fail
    clear c3_0 c3_1 c3_2 c3_3 c3_4 c3_5 c3_6 c3_7 c3_8 c3_9 c3_10 c3_11 l3
    first | refine calls_w ?_ | refine name_world ?_ | refine list_world ?_ | refine post_world ?_
    intro V26 hV26
    clear k19
    have D97 := Lib.hid k1.lt
    have D98 := Lib.hid k2.lt
    have D99 := Lib.hid k3.lt
    have D100 := Lib.hid k4.lt
    have D101 := Lib.hid k5.lt
    have D102 := Lib.hid k6.lt
    have D103 := Lib.hid k20.lt
    have D104 := Lib.hid hb0.size
    have hn : Below U25.heap.size U25 V26 := by rw [hV26]; exact below_a1 _ _
    have nk1 := k1.of hn
    have nk2 := k2.of hn
    have nk3 := k3.of hn
    have nk4 := k4.of hn
    have nk5 := k5.of hn
    have nk6 := k6.of hn
    have nk20 := k20.of hn
    have nhb0 := hb0.trans (hn.mono hb0.size)
    clear hn
    have k21 : Blk V26 U25.heap.size #[.int .u64 (wd0 px), .int .u64 (wd1 px), .int .u64 (wd2 px), .int .u64 (wd3 px), .int .u64 (wd0 py), .int .u64 (wd1 py), .int .u64 (wd2 py), .int .u64 (wd3 py), .int .u64 (wd0 pw), .int .u64 (wd1 pw), .int .u64 (wd2 pw), .int .u64 (wd3 pw)] 67 := by rw [hV26]; exact (Blk.new _ _ _)
    clear k1 k2 k3 k4 k5 k6 k20
    clear hb0
    clear hV26
    have k1 := nk1
    clear nk1
    have k2 := nk2
    clear nk2
    have k3 := nk3
    clear nk3
    have k4 := nk4
    clear nk4
    have k5 := nk5
    clear nk5
    have k6 := nk6
    clear nk6
    have k20 := nk20
    clear nk20
    have hb0 := nhb0
    clear nhb0
    refine (SpCmp_is px py pw px py pw 0 HP8.out _ipx _ipy _ipw _ipx _ipy _ipw  _).mono ?_
    rintro e U27 ⟨rfl, hn⟩
    replace k1 := k1.of hn
    replace k2 := k2.of hn
    replace k3 := k3.of hn
    replace k4 := k4.of hn
    replace k5 := k5.of hn
    replace k6 := k6.of hn
    replace k20 := k20.of hn
    replace k21 := k21.of hn
    replace hb0 := hb0.trans (hn.mono hb0.size)
    clear hn
    go_wp2_with fail
    refine hKL2.out _ _ ?_
    clear hKL2
    try clear KL2
    refine loopin_round ?_
    intro KL2 hKL2
    go_wp2_with fail
    refine hKL1.out _ _ ?_
    clear hKL2 hKL1
    try clear KL2
    try clear KL1
    refine loopin_round ?_
    intro KL1 hKL1
    have c2_0 : U27.cell? ⟨(w.heap.size + 1), 0, none⟩ = some (.int .i64 cx) := k2.cell 0
    have c2_1 : U27.cell? ⟨(w.heap.size + 1), 1, none⟩ = some (.int .i64 cy) := k2.cell 1
    have c2_2 : U27.cell? ⟨(w.heap.size + 1), 2, none⟩ = some (.int .i64 dx) := k2.cell 2
    have c2_3 : U27.cell? ⟨(w.heap.size + 1), 3, none⟩ = some (.int .i64 dy) := k2.cell 3
    have l2 := k2.lt
    have l2_0 : w.heap.size < U27.heap.size := by have := k2.lt; omega
    have c4_4 : U27.cell? ⟨(U2.heap.size + 1), 4, none⟩ = some (.int .i64 ax) := k4.cell 4
    have c4_5 : U27.cell? ⟨(U2.heap.size + 1), 5, none⟩ = some (.int .i64 ay) := k4.cell 5
    have c4_6 : U27.cell? ⟨(U2.heap.size + 1), 6, none⟩ = some (.int .i64 ax) := k4.cell 6
    have c4_7 : U27.cell? ⟨(U2.heap.size + 1), 7, none⟩ = some (.int .i64 ay) := k4.cell 7
    have l4 := k4.lt
    have l4_0 : U2.heap.size < U27.heap.size := by have := k4.lt; omega
    go_wp2_with fail
    clear c2_0 c2_1 c2_2 c2_3 l2 l2_0 c4_4 c4_5 c4_6 c4_7 l4 l4_0
    refine wp_loop_in ?_
    first | refine loop_world ?_
    intro V28 hV28
    clear k5
    have D105 := Lib.hid k1.lt
    have D106 := Lib.hid k2.lt
    have D107 := Lib.hid k3.lt
    have D108 := Lib.hid k4.lt
    have D109 := Lib.hid k6.lt
    have D110 := Lib.hid k20.lt
    have D111 := Lib.hid k21.lt
    have D112 := Lib.hid hb0.size
    have hn : Below U27.heap.size U27 V28 := by rw [hV28]; exact below_a2 _ _ _
    have nk1 := k1.of hn
    have nk2 := k2.of hn
    have nk3 := k3.of hn
    have nk4 := k4.of hn
    have nk6 := k6.of hn
    have nk20 := k20.of hn
    have nk21 := k21.of hn
    have nhb0 := hb0.trans (hn.mono hb0.size)
    clear hn
    have k22 : Blk V28 U27.heap.size #[.int .i64 ax, .int .i64 ay, .int .i64 ax, .int .i64 ay] 50 := by rw [hV28]; exact ((Blk.new _ _ _).alloc _)
    have k23 : Blk V28 (U27.heap.size + 1) #[.int .i64 cx, .int .i64 cy, .int .i64 dx, .int .i64 dy, .int .i64 dx, .int .i64 dy, .int .i64 cx, .int .i64 cy] 50 := by rw [hV28]; exact (Blk.new1 _ _ _ _)
    clear k1 k2 k3 k4 k6 k20 k21
    clear hb0
    clear hV28
    have k1 := nk1
    clear nk1
    have k2 := nk2
    clear nk2
    have k3 := nk3
    clear nk3
    have k4 := nk4
    clear nk4
    have k6 := nk6
    clear nk6
    have k20 := nk20
    clear nk20
    have k21 := nk21
    clear nk21
    have hb0 := nhb0
    clear nhb0
    refine loopin_round ?_
    intro KL4 hKL4
    have c22_0 : V28.cell? ⟨U27.heap.size, 0, none⟩ = some (.int .i64 ax) := k22.cell 0
    have c22_1 : V28.cell? ⟨U27.heap.size, 1, none⟩ = some (.int .i64 ay) := k22.cell 1
    have c22_2 : V28.cell? ⟨U27.heap.size, 2, none⟩ = some (.int .i64 ax) := k22.cell 2
    have c22_3 : V28.cell? ⟨U27.heap.size, 3, none⟩ = some (.int .i64 ay) := k22.cell 3
    have l22 := k22.lt
    have c23_0 : V28.cell? ⟨(U27.heap.size + 1), 0, none⟩ = some (.int .i64 cx) := k23.cell 0
    have c23_1 : V28.cell? ⟨(U27.heap.size + 1), 1, none⟩ = some (.int .i64 cy) := k23.cell 1
    have c23_2 : V28.cell? ⟨(U27.heap.size + 1), 2, none⟩ = some (.int .i64 dx) := k23.cell 2
    have c23_3 : V28.cell? ⟨(U27.heap.size + 1), 3, none⟩ = some (.int .i64 dy) := k23.cell 3
    have l23 := k23.lt
    have l23_0 : U27.heap.size < V28.heap.size := by have := k23.lt; omega
    go_wp2_with fail
    clear c22_0 c22_1 c22_2 c22_3 l22 c23_0 c23_1 c23_2 c23_3 l23 l23_0
    first | refine calls_w ?_ | refine name_world ?_ | refine list_world ?_ | refine post_world ?_
    intro V29 hV29
    clear k6 k20
    have D113 := Lib.hid k1.lt
    have D114 := Lib.hid k2.lt
    have D115 := Lib.hid k3.lt
    have D116 := Lib.hid k4.lt
    have D117 := Lib.hid k21.lt
    have D118 := Lib.hid k22.lt
    have D119 := Lib.hid k23.lt
    have D120 := Lib.hid hb0.size
    have hn : Below V28.heap.size V28 V29 := by rw [hV29]; exact below_a1 _ _
    have nk1 := k1.of hn
    have nk2 := k2.of hn
    have nk3 := k3.of hn
    have nk4 := k4.of hn
    have nk21 := k21.of hn
    have nk22 := k22.of hn
    have nk23 := k23.of hn
    have nhb0 := hb0.trans (hn.mono hb0.size)
    clear hn
    have k24 : Blk V29 V28.heap.size #[.int .i64 cx, .int .i64 cy, .int .i64 dx, .int .i64 dy] 50 := by rw [hV29]; exact (Blk.new _ _ _)
    clear k1 k2 k3 k4 k21 k22 k23
    clear hb0
    clear hV29
    have k1 := nk1
    clear nk1
    have k2 := nk2
    clear nk2
    have k3 := nk3
    clear nk3
    have k4 := nk4
    clear nk4
    have k21 := nk21
    clear nk21
    have k22 := nk22
    clear nk22
    have k23 := nk23
    clear nk23
    have hb0 := nhb0
    clear nhb0
    refine (Meet_is ax ay ax ay cx cy dx dy 1 px py pw HP0.out HP1.out HP2.out HP3.out _iax _iay _iax _iay _icx _icy _idx _idy  _).mono ?_
    rintro e U30 ⟨rfl, hn⟩
    replace k1 := k1.of hn
    replace k2 := k2.of hn
    replace k3 := k3.of hn
    replace k4 := k4.of hn
    replace k21 := k21.of hn
    replace k22 := k22.of hn
    replace k23 := k23.of hn
    replace k24 := k24.of hn
    replace hb0 := hb0.trans (hn.mono hb0.size)
    clear hn
    have c3_0 : U30.cell? ⟨U2.heap.size, 0, none⟩ = some (.int .u64 (wd0 px)) := k3.cell 0
    have c3_1 : U30.cell? ⟨U2.heap.size, 1, none⟩ = some (.int .u64 (wd1 px)) := k3.cell 1
    have c3_2 : U30.cell? ⟨U2.heap.size, 2, none⟩ = some (.int .u64 (wd2 px)) := k3.cell 2
    have c3_3 : U30.cell? ⟨U2.heap.size, 3, none⟩ = some (.int .u64 (wd3 px)) := k3.cell 3
    have c3_4 : U30.cell? ⟨U2.heap.size, 4, none⟩ = some (.int .u64 (wd0 py)) := k3.cell 4
    have c3_5 : U30.cell? ⟨U2.heap.size, 5, none⟩ = some (.int .u64 (wd1 py)) := k3.cell 5
    have c3_6 : U30.cell? ⟨U2.heap.size, 6, none⟩ = some (.int .u64 (wd2 py)) := k3.cell 6
    have c3_7 : U30.cell? ⟨U2.heap.size, 7, none⟩ = some (.int .u64 (wd3 py)) := k3.cell 7
    have c3_8 : U30.cell? ⟨U2.heap.size, 8, none⟩ = some (.int .u64 (wd0 pw)) := k3.cell 8
    have c3_9 : U30.cell? ⟨U2.heap.size, 9, none⟩ = some (.int .u64 (wd1 pw)) := k3.cell 9
    have c3_10 : U30.cell? ⟨U2.heap.size, 10, none⟩ = some (.int .u64 (wd2 pw)) := k3.cell 10
    have c3_11 : U30.cell? ⟨U2.heap.size, 11, none⟩ = some (.int .u64 (wd3 pw)) := k3.cell 11
    have l3 := k3.lt
    go_wp2_with fail
    clear c3_0 c3_1 c3_2 c3_3 c3_4 c3_5 c3_6 c3_7 c3_8 c3_9 c3_10 c3_11 l3
    first | refine calls_w ?_ | refine name_world ?_ | refine list_world ?_ | refine post_world ?_
    intro V31 hV31
    clear k21
    have D121 := Lib.hid k1.lt
    have D122 := Lib.hid k2.lt
    have D123 := Lib.hid k3.lt
    have D124 := Lib.hid k4.lt
    have D125 := Lib.hid k22.lt
    have D126 := Lib.hid k23.lt
    have D127 := Lib.hid k24.lt
    have D128 := Lib.hid hb0.size
    have hn : Below U30.heap.size U30 V31 := by rw [hV31]; exact below_a1 _ _
    have nk1 := k1.of hn
    have nk2 := k2.of hn
    have nk3 := k3.of hn
    have nk4 := k4.of hn
    have nk22 := k22.of hn
    have nk23 := k23.of hn
    have nk24 := k24.of hn
    have nhb0 := hb0.trans (hn.mono hb0.size)
    clear hn
    have k25 : Blk V31 U30.heap.size #[.int .u64 (wd0 px), .int .u64 (wd1 px), .int .u64 (wd2 px), .int .u64 (wd3 px), .int .u64 (wd0 py), .int .u64 (wd1 py), .int .u64 (wd2 py), .int .u64 (wd3 py), .int .u64 (wd0 pw), .int .u64 (wd1 pw), .int .u64 (wd2 pw), .int .u64 (wd3 pw)] 67 := by rw [hV31]; exact (Blk.new _ _ _)
    clear k1 k2 k3 k4 k22 k23 k24
    clear hb0
    clear hV31
    have k1 := nk1
    clear nk1
    have k2 := nk2
    clear nk2
    have k3 := nk3
    clear nk3
    have k4 := nk4
    clear nk4
    have k22 := nk22
    clear nk22
    have k23 := nk23
    clear nk23
    have k24 := nk24
    clear nk24
    have hb0 := nhb0
    clear nhb0
    refine (SpCmp_is px py pw px py pw 0 HP8.out _ipx _ipy _ipw _ipx _ipy _ipw  _).mono ?_
    rintro e U32 ⟨rfl, hn⟩
    replace k1 := k1.of hn
    replace k2 := k2.of hn
    replace k3 := k3.of hn
    replace k4 := k4.of hn
    replace k22 := k22.of hn
    replace k23 := k23.of hn
    replace k24 := k24.of hn
    replace k25 := k25.of hn
    replace hb0 := hb0.trans (hn.mono hb0.size)
    clear hn
    go_wp2_with fail
    refine hKL4.out _ _ ?_
    clear hKL4
    try clear KL4
    refine loopin_round ?_
    intro KL4 hKL4
    have c22_0 : U32.cell? ⟨U27.heap.size, 0, none⟩ = some (.int .i64 ax) := k22.cell 0
    have c22_1 : U32.cell? ⟨U27.heap.size, 1, none⟩ = some (.int .i64 ay) := k22.cell 1
    have c22_2 : U32.cell? ⟨U27.heap.size, 2, none⟩ = some (.int .i64 ax) := k22.cell 2
    have c22_3 : U32.cell? ⟨U27.heap.size, 3, none⟩ = some (.int .i64 ay) := k22.cell 3
    have l22 := k22.lt
    have c23_4 : U32.cell? ⟨(U27.heap.size + 1), 4, none⟩ = some (.int .i64 dx) := k23.cell 4
    have c23_5 : U32.cell? ⟨(U27.heap.size + 1), 5, none⟩ = some (.int .i64 dy) := k23.cell 5
    have c23_6 : U32.cell? ⟨(U27.heap.size + 1), 6, none⟩ = some (.int .i64 cx) := k23.cell 6
    have c23_7 : U32.cell? ⟨(U27.heap.size + 1), 7, none⟩ = some (.int .i64 cy) := k23.cell 7
    have l23 := k23.lt
    have l23_0 : U27.heap.size < U32.heap.size := by have := k23.lt; omega
    go_wp2_with fail
    clear c22_0 c22_1 c22_2 c22_3 l22 c23_4 c23_5 c23_6 c23_7 l23 l23_0
    first | refine calls_w ?_ | refine name_world ?_ | refine list_world ?_ | refine post_world ?_
    intro V33 hV33
    clear k24
    have D129 := Lib.hid k1.lt
    have D130 := Lib.hid k2.lt
    have D131 := Lib.hid k3.lt
    have D132 := Lib.hid k4.lt
    have D133 := Lib.hid k22.lt
    have D134 := Lib.hid k23.lt
    have D135 := Lib.hid k25.lt
    have D136 := Lib.hid hb0.size
    have hn : Below U32.heap.size U32 V33 := by rw [hV33]; exact below_a1 _ _
    have nk1 := k1.of hn
    have nk2 := k2.of hn
    have nk3 := k3.of hn
    have nk4 := k4.of hn
    have nk22 := k22.of hn
    have nk23 := k23.of hn
    have nk25 := k25.of hn
    have nhb0 := hb0.trans (hn.mono hb0.size)
    clear hn
    have k26 : Blk V33 U32.heap.size #[.int .i64 dx, .int .i64 dy, .int .i64 cx, .int .i64 cy] 50 := by rw [hV33]; exact (Blk.new _ _ _)
    clear k1 k2 k3 k4 k22 k23 k25
    clear hb0
    clear hV33
    have k1 := nk1
    clear nk1
    have k2 := nk2
    clear nk2
    have k3 := nk3
    clear nk3
    have k4 := nk4
    clear nk4
    have k22 := nk22
    clear nk22
    have k23 := nk23
    clear nk23
    have k25 := nk25
    clear nk25
    have hb0 := nhb0
    clear nhb0
    refine (Meet_is ax ay ax ay dx dy cx cy 1 px py pw HP4.out HP5.out HP6.out HP7.out _iax _iay _iax _iay _idx _idy _icx _icy  _).mono ?_
    rintro e U34 ⟨rfl, hn⟩
    replace k1 := k1.of hn
    replace k2 := k2.of hn
    replace k3 := k3.of hn
    replace k4 := k4.of hn
    replace k22 := k22.of hn
    replace k23 := k23.of hn
    replace k25 := k25.of hn
    replace k26 := k26.of hn
    replace hb0 := hb0.trans (hn.mono hb0.size)
    clear hn
    have c3_0 : U34.cell? ⟨U2.heap.size, 0, none⟩ = some (.int .u64 (wd0 px)) := k3.cell 0
    have c3_1 : U34.cell? ⟨U2.heap.size, 1, none⟩ = some (.int .u64 (wd1 px)) := k3.cell 1
    have c3_2 : U34.cell? ⟨U2.heap.size, 2, none⟩ = some (.int .u64 (wd2 px)) := k3.cell 2
    have c3_3 : U34.cell? ⟨U2.heap.size, 3, none⟩ = some (.int .u64 (wd3 px)) := k3.cell 3
    have c3_4 : U34.cell? ⟨U2.heap.size, 4, none⟩ = some (.int .u64 (wd0 py)) := k3.cell 4
    have c3_5 : U34.cell? ⟨U2.heap.size, 5, none⟩ = some (.int .u64 (wd1 py)) := k3.cell 5
    have c3_6 : U34.cell? ⟨U2.heap.size, 6, none⟩ = some (.int .u64 (wd2 py)) := k3.cell 6
    have c3_7 : U34.cell? ⟨U2.heap.size, 7, none⟩ = some (.int .u64 (wd3 py)) := k3.cell 7
    have c3_8 : U34.cell? ⟨U2.heap.size, 8, none⟩ = some (.int .u64 (wd0 pw)) := k3.cell 8
    have c3_9 : U34.cell? ⟨U2.heap.size, 9, none⟩ = some (.int .u64 (wd1 pw)) := k3.cell 9
    have c3_10 : U34.cell? ⟨U2.heap.size, 10, none⟩ = some (.int .u64 (wd2 pw)) := k3.cell 10
    have c3_11 : U34.cell? ⟨U2.heap.size, 11, none⟩ = some (.int .u64 (wd3 pw)) := k3.cell 11
    have l3 := k3.lt
    go_wp2_with fail
    clear c3_0 c3_1 c3_2 c3_3 c3_4 c3_5 c3_6 c3_7 c3_8 c3_9 c3_10 c3_11 l3
    first | refine calls_w ?_ | refine name_world ?_ | refine list_world ?_ | refine post_world ?_
    intro V35 hV35
    clear k25
    have D137 := Lib.hid k1.lt
    have D138 := Lib.hid k2.lt
    have D139 := Lib.hid k3.lt
    have D140 := Lib.hid k4.lt
    have D141 := Lib.hid k22.lt
    have D142 := Lib.hid k23.lt
    have D143 := Lib.hid k26.lt
    have D144 := Lib.hid hb0.size
    have hn : Below U34.heap.size U34 V35 := by rw [hV35]; exact below_a1 _ _
    have nk1 := k1.of hn
    have nk2 := k2.of hn
    have nk3 := k3.of hn
    have nk4 := k4.of hn
    have nk22 := k22.of hn
    have nk23 := k23.of hn
    have nk26 := k26.of hn
    have nhb0 := hb0.trans (hn.mono hb0.size)
    clear hn
    have k27 : Blk V35 U34.heap.size #[.int .u64 (wd0 px), .int .u64 (wd1 px), .int .u64 (wd2 px), .int .u64 (wd3 px), .int .u64 (wd0 py), .int .u64 (wd1 py), .int .u64 (wd2 py), .int .u64 (wd3 py), .int .u64 (wd0 pw), .int .u64 (wd1 pw), .int .u64 (wd2 pw), .int .u64 (wd3 pw)] 67 := by rw [hV35]; exact (Blk.new _ _ _)
    clear k1 k2 k3 k4 k22 k23 k26
    clear hb0
    clear hV35
    have k1 := nk1
    clear nk1
    have k2 := nk2
    clear nk2
    have k3 := nk3
    clear nk3
    have k4 := nk4
    clear nk4
    have k22 := nk22
    clear nk22
    have k23 := nk23
    clear nk23
    have k26 := nk26
    clear nk26
    have hb0 := nhb0
    clear nhb0
    refine (SpCmp_is px py pw px py pw 0 HP8.out _ipx _ipy _ipw _ipx _ipy _ipw  _).mono ?_
    rintro e U36 ⟨rfl, hn⟩
    replace k1 := k1.of hn
    replace k2 := k2.of hn
    replace k3 := k3.of hn
    replace k4 := k4.of hn
    replace k22 := k22.of hn
    replace k23 := k23.of hn
    replace k26 := k26.of hn
    replace k27 := k27.of hn
    replace hb0 := hb0.trans (hn.mono hb0.size)
    clear hn
    go_wp2_with fail
    refine hKL4.out _ _ ?_
    clear hKL4
    try clear KL4
    refine loopin_round ?_
    intro KL4 hKL4
    go_wp2_with fail
    refine hKL1.out _ _ ?_
    clear hKL4 hKL1
    try clear KL4
    try clear KL1
    refine loopin_round ?_
    intro KL1 hKL1
    have c1_0 : U36.cell? ⟨w.heap.size, 0, none⟩ = some (.int .i64 ax) := k1.cell 0
    have c1_1 : U36.cell? ⟨w.heap.size, 1, none⟩ = some (.int .i64 ay) := k1.cell 1
    have c1_2 : U36.cell? ⟨w.heap.size, 2, none⟩ = some (.int .i64 ax) := k1.cell 2
    have c1_3 : U36.cell? ⟨w.heap.size, 3, none⟩ = some (.int .i64 ay) := k1.cell 3
    have l1 := k1.lt
    go_wp2_with fail
    clear c1_0 c1_1 c1_2 c1_3 l1
    refine (Meet_is ax ay ax ay ax ay ax ay 1 sx sy sw HP10.out HP11.out HP12.out HP13.out _iax _iay _iax _iay _iax _iay _iax _iay  _).mono ?_
    rintro e U37 ⟨rfl, hn⟩
    clear k2 k3 k4 k22 k23 k26 k27
    replace k1 := k1.of hn
    replace hb0 := hb0.trans (hn.mono hb0.size)
    clear hn
    have c1_0 : U37.cell? ⟨w.heap.size, 0, none⟩ = some (.int .i64 ax) := k1.cell 0
    have c1_1 : U37.cell? ⟨w.heap.size, 1, none⟩ = some (.int .i64 ay) := k1.cell 1
    have c1_2 : U37.cell? ⟨w.heap.size, 2, none⟩ = some (.int .i64 ax) := k1.cell 2
    have c1_3 : U37.cell? ⟨w.heap.size, 3, none⟩ = some (.int .i64 ay) := k1.cell 3
    have l1 := k1.lt
    go_wp2_with fail
    clear c1_0 c1_1 c1_2 c1_3 l1
    first | refine calls_w ?_ | refine name_world ?_ | refine list_world ?_ | refine post_world ?_
    intro V38 hV38
    clear k1
    have D145 := Lib.hid hb0.size
    have hn : Below U37.heap.size U37 V38 := by rw [hV38]; exact below_a1 _ _
    have nhb0 := hb0.trans (hn.mono hb0.size)
    clear hn
    have k28 : Blk V38 U37.heap.size #[.int .u64 (wd0 sx), .int .u64 (wd1 sx), .int .u64 (wd2 sx), .int .u64 (wd3 sx), .int .u64 (wd0 sy), .int .u64 (wd1 sy), .int .u64 (wd2 sy), .int .u64 (wd3 sy), .int .u64 (wd0 sw), .int .u64 (wd1 sw), .int .u64 (wd2 sw), .int .u64 (wd3 sw)] 67 := by rw [hV38]; exact (Blk.new _ _ _)
    clear hb0
    clear hV38
    have hb0 := nhb0
    clear nhb0
    refine (cright_is ax ay ax ay true HP9.out _iax _iay _iax _iay  _).mono ?_
    rintro e U39 ⟨rfl, hn⟩
    clear k28
    replace hb0 := hb0.trans (hn.mono hb0.size)
    clear hn
    go_wp2_with fail
    refine (cawake_any _).mono ?_
    rintro e U40 ⟨rfl, hn⟩
    replace hb0 := hb0.trans (hn.mono hb0.size)
    clear hn
    go_wp2
    first | go_ret | go_ret2
    exact ⟨by first | rfl | (simp; done) | (simp; assumption), hb0⟩

set_option maxRecDepth 100000 in
set_option maxHeartbeats 4000000 in

theorem CAlong_L1 (ax : Int) (ay : Int) (bx : Int) (b_y : Int) (cx : Int) (cy : Int) (dx : Int) (dy : Int) (k : Int) (px : Int) (py : Int) (pw : Int) (sx : Int) (sy : Int) (sw : Int)   (hP0 : mtk ax ay bx b_y cx cy dx dy = k) (hP1 : mtx ax ay bx b_y cx cy dx dy = px) (hP2 : mty ax ay bx b_y cx cy dx dy = py) (hP3 : mtw ax ay bx b_y cx cy dx dy = pw) (hP4 : mtk ax ay bx b_y dx dy cx cy = k) (hP5 : mtx ax ay bx b_y dx dy cx cy = px) (hP6 : mty ax ay bx b_y dx dy cx cy = py) (hP7 : mtw ax ay bx b_y dx dy cx cy = pw) (hP8 : mtk bx b_y ax ay cx cy dx dy = k) (hP9 : mtx bx b_y ax ay cx cy dx dy = px) (hP10 : mty bx b_y ax ay cx cy dx dy = py) (hP11 : mtw bx b_y ax ay cx cy dx dy = pw) (hP12 : mtk bx b_y ax ay dx dy cx cy = k) (hP13 : mtx bx b_y ax ay dx dy cx cy = px) (hP14 : mty bx b_y ax ay dx dy cx cy = py) (hP15 : mtw bx b_y ax ay dx dy cx cy = pw) (hP16 : spC px py pw px py pw = 0) (hP17 : crR ax ay bx b_y = true) (hP18 : mtk ax ay bx b_y ax ay bx b_y = 2) (hP19 : mtx ax ay bx b_y ax ay bx b_y = sx) (hP20 : mty ax ay bx b_y ax ay bx b_y = sy) (hP21 : mtw ax ay bx b_y ax ay bx b_y = sw) (hP22 : (ax == bx) = false) (_ipx : InI px) (_ipy : InI py) (_ipw : InI pw) (_iax : In64 ax) (_iay : In64 ay) (_ibx : In64 bx) (_ib_y : In64 b_y) (_icx : In64 cx) (_icy : In64 cy) (_idx : In64 dx) (_idy : In64 dy)  (w : World)  :
    Calls Try.prog 13 #[.agg #[.int .i64 ax, .int .i64 ay, .int .i64 bx, .int .i64 b_y], .agg #[.int .i64 cx, .int .i64 cy, .int .i64 dx, .int .i64 dy]] w fun e w' => e = .returned (.bool true) ∧ Below w.heap.size w w' := by

  have HP0 := Lib.hid hP0
  clear hP0
  have HP1 := Lib.hid hP1
  clear hP1
  have HP2 := Lib.hid hP2
  clear hP2
  have HP3 := Lib.hid hP3
  clear hP3
  have HP4 := Lib.hid hP4
  clear hP4
  have HP5 := Lib.hid hP5
  clear hP5
  have HP6 := Lib.hid hP6
  clear hP6
  have HP7 := Lib.hid hP7
  clear hP7
  have HP8 := Lib.hid hP8
  clear hP8
  have HP9 := Lib.hid hP9
  clear hP9
  have HP10 := Lib.hid hP10
  clear hP10
  have HP11 := Lib.hid hP11
  clear hP11
  have HP12 := Lib.hid hP12
  clear hP12
  have HP13 := Lib.hid hP13
  clear hP13
  have HP14 := Lib.hid hP14
  clear hP14
  have HP15 := Lib.hid hP15
  clear hP15
  have HP16 := Lib.hid hP16
  clear hP16
  have HP17 := Lib.hid hP17
  clear hP17
  have HP18 := Lib.hid hP18
  clear hP18
  have HP19 := Lib.hid hP19
  clear hP19
  have HP20 := Lib.hid hP20
  clear hP20
  have HP21 := Lib.hid hP21
  clear hP21
  have nP22 : ¬ ax = bx := by simpa using hP22
  go_enter Try.func13, Try.ntmps13
  go_wp2_with fail
  first | refine calls_w ?_ | refine name_world ?_ | refine list_world ?_ | refine post_world ?_
  intro V1 hV1
  have hn : Below w.heap.size w V1 := by rw [hV1]; exact below_a2 _ _ _
  have nhb0 := hn
  have k1 : Blk V1 w.heap.size #[.int .i64 ax, .int .i64 ay, .int .i64 bx, .int .i64 b_y] 50 := by rw [hV1]; exact ((Blk.new _ _ _).alloc _)
  have k2 : Blk V1 (w.heap.size + 1) #[.int .i64 cx, .int .i64 cy, .int .i64 dx, .int .i64 dy] 50 := by rw [hV1]; exact (Blk.new1 _ _ _ _)
  clear hV1
  have hb0 := nhb0
  clear nhb0
  refine (Meet_is ax ay bx b_y cx cy dx dy k px py pw HP0.out HP1.out HP2.out HP3.out _iax _iay _ibx _ib_y _icx _icy _idx _idy  _).mono ?_
  rintro e U2 ⟨rfl, hn⟩
  replace k1 := k1.of hn
  replace k2 := k2.of hn
  replace hb0 := hb0.trans (hn.mono hb0.size)
  clear hn
  have c1_0 : U2.cell? ⟨w.heap.size, 0, none⟩ = some (.int .i64 ax) := k1.cell 0
  have c1_1 : U2.cell? ⟨w.heap.size, 1, none⟩ = some (.int .i64 ay) := k1.cell 1
  have c1_2 : U2.cell? ⟨w.heap.size, 2, none⟩ = some (.int .i64 bx) := k1.cell 2
  have c1_3 : U2.cell? ⟨w.heap.size, 3, none⟩ = some (.int .i64 b_y) := k1.cell 3
  have l1 := k1.lt
  go_wp2_with fail
  clear c1_0 c1_1 c1_2 c1_3 l1
  refine wp_loop_in ?_
  first | refine loop_world ?_
  intro V3 hV3
  have D1 := Lib.hid k1.lt
  have D2 := Lib.hid k2.lt
  have D3 := Lib.hid hb0.size
  have hn : Below U2.heap.size U2 V3 := by rw [hV3]; exact below_a2 _ _ _
  have nk1 := k1.of hn
  have nk2 := k2.of hn
  have nhb0 := hb0.trans (hn.mono hb0.size)
  clear hn
  have k3 : Blk V3 U2.heap.size #[.int .u64 (wd0 px), .int .u64 (wd1 px), .int .u64 (wd2 px), .int .u64 (wd3 px), .int .u64 (wd0 py), .int .u64 (wd1 py), .int .u64 (wd2 py), .int .u64 (wd3 py), .int .u64 (wd0 pw), .int .u64 (wd1 pw), .int .u64 (wd2 pw), .int .u64 (wd3 pw)] 67 := by rw [hV3]; exact ((Blk.new _ _ _).alloc _)
  have k4 : Blk V3 (U2.heap.size + 1) #[.int .i64 ax, .int .i64 ay, .int .i64 bx, .int .i64 b_y, .int .i64 bx, .int .i64 b_y, .int .i64 ax, .int .i64 ay] 50 := by rw [hV3]; exact (Blk.new1 _ _ _ _)
  clear k1 k2
  clear hb0
  clear hV3
  have k1 := nk1
  clear nk1
  have k2 := nk2
  clear nk2
  have hb0 := nhb0
  clear nhb0
  refine loopin_round ?_
  intro KL1 hKL1
  have c2_0 : V3.cell? ⟨(w.heap.size + 1), 0, none⟩ = some (.int .i64 cx) := k2.cell 0
  have c2_1 : V3.cell? ⟨(w.heap.size + 1), 1, none⟩ = some (.int .i64 cy) := k2.cell 1
  have c2_2 : V3.cell? ⟨(w.heap.size + 1), 2, none⟩ = some (.int .i64 dx) := k2.cell 2
  have c2_3 : V3.cell? ⟨(w.heap.size + 1), 3, none⟩ = some (.int .i64 dy) := k2.cell 3
  have l2 := k2.lt
  have l2_0 : w.heap.size < V3.heap.size := by have := k2.lt; omega
  have c4_0 : V3.cell? ⟨(U2.heap.size + 1), 0, none⟩ = some (.int .i64 ax) := k4.cell 0
  have c4_1 : V3.cell? ⟨(U2.heap.size + 1), 1, none⟩ = some (.int .i64 ay) := k4.cell 1
  have c4_2 : V3.cell? ⟨(U2.heap.size + 1), 2, none⟩ = some (.int .i64 bx) := k4.cell 2
  have c4_3 : V3.cell? ⟨(U2.heap.size + 1), 3, none⟩ = some (.int .i64 b_y) := k4.cell 3
  have l4 := k4.lt
  have l4_0 : U2.heap.size < V3.heap.size := by have := k4.lt; omega
  go_wp2_with fail
  clear c2_0 c2_1 c2_2 c2_3 l2 l2_0 c4_0 c4_1 c4_2 c4_3 l4 l4_0
  refine wp_loop_in ?_
  first | refine loop_world ?_
  intro V4 hV4
  have D4 := Lib.hid k1.lt
  have D5 := Lib.hid k2.lt
  have D6 := Lib.hid k3.lt
  have D7 := Lib.hid k4.lt
  have D8 := Lib.hid hb0.size
  have hn : Below V3.heap.size V3 V4 := by rw [hV4]; exact below_a2 _ _ _
  have nk1 := k1.of hn
  have nk2 := k2.of hn
  have nk3 := k3.of hn
  have nk4 := k4.of hn
  have nhb0 := hb0.trans (hn.mono hb0.size)
  clear hn
  have k5 : Blk V4 V3.heap.size #[.int .i64 ax, .int .i64 ay, .int .i64 bx, .int .i64 b_y] 50 := by rw [hV4]; exact ((Blk.new _ _ _).alloc _)
  have k6 : Blk V4 (V3.heap.size + 1) #[.int .i64 cx, .int .i64 cy, .int .i64 dx, .int .i64 dy, .int .i64 dx, .int .i64 dy, .int .i64 cx, .int .i64 cy] 50 := by rw [hV4]; exact (Blk.new1 _ _ _ _)
  clear k1 k2 k3 k4
  clear hb0
  clear hV4
  have k1 := nk1
  clear nk1
  have k2 := nk2
  clear nk2
  have k3 := nk3
  clear nk3
  have k4 := nk4
  clear nk4
  have hb0 := nhb0
  clear nhb0
  refine loopin_round ?_
  intro KL2 hKL2
  have c5_0 : V4.cell? ⟨V3.heap.size, 0, none⟩ = some (.int .i64 ax) := k5.cell 0
  have c5_1 : V4.cell? ⟨V3.heap.size, 1, none⟩ = some (.int .i64 ay) := k5.cell 1
  have c5_2 : V4.cell? ⟨V3.heap.size, 2, none⟩ = some (.int .i64 bx) := k5.cell 2
  have c5_3 : V4.cell? ⟨V3.heap.size, 3, none⟩ = some (.int .i64 b_y) := k5.cell 3
  have l5 := k5.lt
  have c6_0 : V4.cell? ⟨(V3.heap.size + 1), 0, none⟩ = some (.int .i64 cx) := k6.cell 0
  have c6_1 : V4.cell? ⟨(V3.heap.size + 1), 1, none⟩ = some (.int .i64 cy) := k6.cell 1
  have c6_2 : V4.cell? ⟨(V3.heap.size + 1), 2, none⟩ = some (.int .i64 dx) := k6.cell 2
  have c6_3 : V4.cell? ⟨(V3.heap.size + 1), 3, none⟩ = some (.int .i64 dy) := k6.cell 3
  have l6 := k6.lt
  have l6_0 : V3.heap.size < V4.heap.size := by have := k6.lt; omega
  go_wp2_with fail
  clear c5_0 c5_1 c5_2 c5_3 l5 c6_0 c6_1 c6_2 c6_3 l6 l6_0
  first | refine calls_w ?_ | refine name_world ?_ | refine list_world ?_ | refine post_world ?_
  intro V5 hV5
  have D9 := Lib.hid k1.lt
  have D10 := Lib.hid k2.lt
  have D11 := Lib.hid k3.lt
  have D12 := Lib.hid k4.lt
  have D13 := Lib.hid k5.lt
  have D14 := Lib.hid k6.lt
  have D15 := Lib.hid hb0.size
  have hn : Below V4.heap.size V4 V5 := by rw [hV5]; exact below_a1 _ _
  have nk1 := k1.of hn
  have nk2 := k2.of hn
  have nk3 := k3.of hn
  have nk4 := k4.of hn
  have nk5 := k5.of hn
  have nk6 := k6.of hn
  have nhb0 := hb0.trans (hn.mono hb0.size)
  clear hn
  have k7 : Blk V5 V4.heap.size #[.int .i64 cx, .int .i64 cy, .int .i64 dx, .int .i64 dy] 50 := by rw [hV5]; exact (Blk.new _ _ _)
  clear k1 k2 k3 k4 k5 k6
  clear hb0
  clear hV5
  have k1 := nk1
  clear nk1
  have k2 := nk2
  clear nk2
  have k3 := nk3
  clear nk3
  have k4 := nk4
  clear nk4
  have k5 := nk5
  clear nk5
  have k6 := nk6
  clear nk6
  have hb0 := nhb0
  clear nhb0
  refine (Meet_is ax ay bx b_y cx cy dx dy k px py pw HP0.out HP1.out HP2.out HP3.out _iax _iay _ibx _ib_y _icx _icy _idx _idy  _).mono ?_
  rintro e U6 ⟨rfl, hn⟩
  replace k1 := k1.of hn
  replace k2 := k2.of hn
  replace k3 := k3.of hn
  replace k4 := k4.of hn
  replace k5 := k5.of hn
  replace k6 := k6.of hn
  replace k7 := k7.of hn
  replace hb0 := hb0.trans (hn.mono hb0.size)
  clear hn
  obtain ⟨z1, hz1⟩ : ∃ o_o : Bool, (k == 1) = o_o := ⟨_, rfl⟩
  cases z1
  · have nz1 : ¬ k = 1 := by simpa using hz1
    go_wp2_with fail
    refine hKL2.out _ _ ?_
    clear hKL2
    try clear KL2
    first | refine loop_world ?_
    intro V7 hV7
    have D16 := Lib.hid k1.lt
    have D17 := Lib.hid k2.lt
    have D18 := Lib.hid k3.lt
    have D19 := Lib.hid k4.lt
    have D20 := Lib.hid k5.lt
    have D21 := Lib.hid k6.lt
    have D22 := Lib.hid k7.lt
    have D23 := Lib.hid hb0.size
    have hn : Below U6.heap.size U6 V7 := by rw [hV7]; exact below_a1 _ _
    have nk1 := k1.of hn
    have nk2 := k2.of hn
    have nk3 := k3.of hn
    have nk4 := k4.of hn
    have nk5 := k5.of hn
    have nk6 := k6.of hn
    have nk7 := k7.of hn
    have nhb0 := hb0.trans (hn.mono hb0.size)
    clear hn
    have k9 : Blk V7 U6.heap.size #[.int .u64 (wd0 px), .int .u64 (wd1 px), .int .u64 (wd2 px), .int .u64 (wd3 px), .int .u64 (wd0 py), .int .u64 (wd1 py), .int .u64 (wd2 py), .int .u64 (wd3 py), .int .u64 (wd0 pw), .int .u64 (wd1 pw), .int .u64 (wd2 pw), .int .u64 (wd3 pw)] 67 := by rw [hV7]; exact (Blk.new _ _ _)
    clear k1 k2 k3 k4 k5 k6 k7
    clear hb0
    clear hV7
    have k1 := nk1
    clear nk1
    have k2 := nk2
    clear nk2
    have k3 := nk3
    clear nk3
    have k4 := nk4
    clear nk4
    have k5 := nk5
    clear nk5
    have k6 := nk6
    clear nk6
    have k7 := nk7
    clear nk7
    have hb0 := nhb0
    clear nhb0
    refine loopin_round ?_
    intro KL2 hKL2
    have c5_0 : V7.cell? ⟨V3.heap.size, 0, none⟩ = some (.int .i64 ax) := k5.cell 0
    have c5_1 : V7.cell? ⟨V3.heap.size, 1, none⟩ = some (.int .i64 ay) := k5.cell 1
    have c5_2 : V7.cell? ⟨V3.heap.size, 2, none⟩ = some (.int .i64 bx) := k5.cell 2
    have c5_3 : V7.cell? ⟨V3.heap.size, 3, none⟩ = some (.int .i64 b_y) := k5.cell 3
    have l5 := k5.lt
    have c6_4 : V7.cell? ⟨(V3.heap.size + 1), 4, none⟩ = some (.int .i64 dx) := k6.cell 4
    have c6_5 : V7.cell? ⟨(V3.heap.size + 1), 5, none⟩ = some (.int .i64 dy) := k6.cell 5
    have c6_6 : V7.cell? ⟨(V3.heap.size + 1), 6, none⟩ = some (.int .i64 cx) := k6.cell 6
    have c6_7 : V7.cell? ⟨(V3.heap.size + 1), 7, none⟩ = some (.int .i64 cy) := k6.cell 7
    have l6 := k6.lt
    have l6_0 : V3.heap.size < V7.heap.size := by have := k6.lt; omega
    go_wp2_with fail
    clear c5_0 c5_1 c5_2 c5_3 l5 c6_4 c6_5 c6_6 c6_7 l6 l6_0
    first | refine calls_w ?_ | refine name_world ?_ | refine list_world ?_ | refine post_world ?_
    intro V8 hV8
    clear k7
    have D24 := Lib.hid k1.lt
    have D25 := Lib.hid k2.lt
    have D26 := Lib.hid k3.lt
    have D27 := Lib.hid k4.lt
    have D28 := Lib.hid k5.lt
    have D29 := Lib.hid k6.lt
    have D30 := Lib.hid k9.lt
    have D31 := Lib.hid hb0.size
    have hn : Below V7.heap.size V7 V8 := by rw [hV8]; exact below_a1 _ _
    have nk1 := k1.of hn
    have nk2 := k2.of hn
    have nk3 := k3.of hn
    have nk4 := k4.of hn
    have nk5 := k5.of hn
    have nk6 := k6.of hn
    have nk9 := k9.of hn
    have nhb0 := hb0.trans (hn.mono hb0.size)
    clear hn
    have k10 : Blk V8 V7.heap.size #[.int .i64 dx, .int .i64 dy, .int .i64 cx, .int .i64 cy] 50 := by rw [hV8]; exact (Blk.new _ _ _)
    clear k1 k2 k3 k4 k5 k6 k9
    clear hb0
    clear hV8
    have k1 := nk1
    clear nk1
    have k2 := nk2
    clear nk2
    have k3 := nk3
    clear nk3
    have k4 := nk4
    clear nk4
    have k5 := nk5
    clear nk5
    have k6 := nk6
    clear nk6
    have k9 := nk9
    clear nk9
    have hb0 := nhb0
    clear nhb0
    refine (Meet_is ax ay bx b_y dx dy cx cy k px py pw HP4.out HP5.out HP6.out HP7.out _iax _iay _ibx _ib_y _idx _idy _icx _icy  _).mono ?_
    rintro e U9 ⟨rfl, hn⟩
    replace k1 := k1.of hn
    replace k2 := k2.of hn
    replace k3 := k3.of hn
    replace k4 := k4.of hn
    replace k5 := k5.of hn
    replace k6 := k6.of hn
    replace k9 := k9.of hn
    replace k10 := k10.of hn
    replace hb0 := hb0.trans (hn.mono hb0.size)
    clear hn
    go_wp2_with fail
    refine hKL2.out _ _ ?_
    clear hKL2
    try clear KL2
    first | refine loop_world ?_
    intro V10 hV10
    clear k9
    have D32 := Lib.hid k1.lt
    have D33 := Lib.hid k2.lt
    have D34 := Lib.hid k3.lt
    have D35 := Lib.hid k4.lt
    have D36 := Lib.hid k5.lt
    have D37 := Lib.hid k6.lt
    have D38 := Lib.hid k10.lt
    have D39 := Lib.hid hb0.size
    have hn : Below U9.heap.size U9 V10 := by rw [hV10]; exact below_a1 _ _
    have nk1 := k1.of hn
    have nk2 := k2.of hn
    have nk3 := k3.of hn
    have nk4 := k4.of hn
    have nk5 := k5.of hn
    have nk6 := k6.of hn
    have nk10 := k10.of hn
    have nhb0 := hb0.trans (hn.mono hb0.size)
    clear hn
    have k11 : Blk V10 U9.heap.size #[.int .u64 (wd0 px), .int .u64 (wd1 px), .int .u64 (wd2 px), .int .u64 (wd3 px), .int .u64 (wd0 py), .int .u64 (wd1 py), .int .u64 (wd2 py), .int .u64 (wd3 py), .int .u64 (wd0 pw), .int .u64 (wd1 pw), .int .u64 (wd2 pw), .int .u64 (wd3 pw)] 67 := by rw [hV10]; exact (Blk.new _ _ _)
    clear k1 k2 k3 k4 k5 k6 k10
    clear hb0
    clear hV10
    have k1 := nk1
    clear nk1
    have k2 := nk2
    clear nk2
    have k3 := nk3
    clear nk3
    have k4 := nk4
    clear nk4
    have k5 := nk5
    clear nk5
    have k6 := nk6
    clear nk6
    have k10 := nk10
    clear nk10
    have hb0 := nhb0
    clear nhb0
    refine loopin_round ?_
    intro KL2 hKL2
    go_wp2_with fail
    refine hKL1.out _ _ ?_
    clear hKL2 hKL1
    try clear KL2
    try clear KL1
    refine loopin_round ?_
    intro KL1 hKL1
    have c2_0 : V10.cell? ⟨(w.heap.size + 1), 0, none⟩ = some (.int .i64 cx) := k2.cell 0
    have c2_1 : V10.cell? ⟨(w.heap.size + 1), 1, none⟩ = some (.int .i64 cy) := k2.cell 1
    have c2_2 : V10.cell? ⟨(w.heap.size + 1), 2, none⟩ = some (.int .i64 dx) := k2.cell 2
    have c2_3 : V10.cell? ⟨(w.heap.size + 1), 3, none⟩ = some (.int .i64 dy) := k2.cell 3
    have l2 := k2.lt
    have l2_0 : w.heap.size < V10.heap.size := by have := k2.lt; omega
    have c4_4 : V10.cell? ⟨(U2.heap.size + 1), 4, none⟩ = some (.int .i64 bx) := k4.cell 4
    have c4_5 : V10.cell? ⟨(U2.heap.size + 1), 5, none⟩ = some (.int .i64 b_y) := k4.cell 5
    have c4_6 : V10.cell? ⟨(U2.heap.size + 1), 6, none⟩ = some (.int .i64 ax) := k4.cell 6
    have c4_7 : V10.cell? ⟨(U2.heap.size + 1), 7, none⟩ = some (.int .i64 ay) := k4.cell 7
    have l4 := k4.lt
    have l4_0 : U2.heap.size < V10.heap.size := by have := k4.lt; omega
    go_wp2_with fail
    clear c2_0 c2_1 c2_2 c2_3 l2 l2_0 c4_4 c4_5 c4_6 c4_7 l4 l4_0
    refine wp_loop_in ?_
    first | refine loop_world ?_
    intro V11 hV11
    clear k5
    have D40 := Lib.hid k1.lt
    have D41 := Lib.hid k2.lt
    have D42 := Lib.hid k3.lt
    have D43 := Lib.hid k4.lt
    have D44 := Lib.hid k6.lt
    have D45 := Lib.hid k10.lt
    have D46 := Lib.hid k11.lt
    have D47 := Lib.hid hb0.size
    have hn : Below V10.heap.size V10 V11 := by rw [hV11]; exact below_a2 _ _ _
    have nk1 := k1.of hn
    have nk2 := k2.of hn
    have nk3 := k3.of hn
    have nk4 := k4.of hn
    have nk6 := k6.of hn
    have nk10 := k10.of hn
    have nk11 := k11.of hn
    have nhb0 := hb0.trans (hn.mono hb0.size)
    clear hn
    have k12 : Blk V11 V10.heap.size #[.int .i64 bx, .int .i64 b_y, .int .i64 ax, .int .i64 ay] 50 := by rw [hV11]; exact ((Blk.new _ _ _).alloc _)
    have k13 : Blk V11 (V10.heap.size + 1) #[.int .i64 cx, .int .i64 cy, .int .i64 dx, .int .i64 dy, .int .i64 dx, .int .i64 dy, .int .i64 cx, .int .i64 cy] 50 := by rw [hV11]; exact (Blk.new1 _ _ _ _)
    clear k1 k2 k3 k4 k6 k10 k11
    clear hb0
    clear hV11
    have k1 := nk1
    clear nk1
    have k2 := nk2
    clear nk2
    have k3 := nk3
    clear nk3
    have k4 := nk4
    clear nk4
    have k6 := nk6
    clear nk6
    have k10 := nk10
    clear nk10
    have k11 := nk11
    clear nk11
    have hb0 := nhb0
    clear nhb0
    refine loopin_round ?_
    intro KL3 hKL3
    have c12_0 : V11.cell? ⟨V10.heap.size, 0, none⟩ = some (.int .i64 bx) := k12.cell 0
    have c12_1 : V11.cell? ⟨V10.heap.size, 1, none⟩ = some (.int .i64 b_y) := k12.cell 1
    have c12_2 : V11.cell? ⟨V10.heap.size, 2, none⟩ = some (.int .i64 ax) := k12.cell 2
    have c12_3 : V11.cell? ⟨V10.heap.size, 3, none⟩ = some (.int .i64 ay) := k12.cell 3
    have l12 := k12.lt
    have c13_0 : V11.cell? ⟨(V10.heap.size + 1), 0, none⟩ = some (.int .i64 cx) := k13.cell 0
    have c13_1 : V11.cell? ⟨(V10.heap.size + 1), 1, none⟩ = some (.int .i64 cy) := k13.cell 1
    have c13_2 : V11.cell? ⟨(V10.heap.size + 1), 2, none⟩ = some (.int .i64 dx) := k13.cell 2
    have c13_3 : V11.cell? ⟨(V10.heap.size + 1), 3, none⟩ = some (.int .i64 dy) := k13.cell 3
    have l13 := k13.lt
    have l13_0 : V10.heap.size < V11.heap.size := by have := k13.lt; omega
    go_wp2_with fail
    clear c12_0 c12_1 c12_2 c12_3 l12 c13_0 c13_1 c13_2 c13_3 l13 l13_0
    first | refine calls_w ?_ | refine name_world ?_ | refine list_world ?_ | refine post_world ?_
    intro V12 hV12
    clear k6 k10
    have D48 := Lib.hid k1.lt
    have D49 := Lib.hid k2.lt
    have D50 := Lib.hid k3.lt
    have D51 := Lib.hid k4.lt
    have D52 := Lib.hid k11.lt
    have D53 := Lib.hid k12.lt
    have D54 := Lib.hid k13.lt
    have D55 := Lib.hid hb0.size
    have hn : Below V11.heap.size V11 V12 := by rw [hV12]; exact below_a1 _ _
    have nk1 := k1.of hn
    have nk2 := k2.of hn
    have nk3 := k3.of hn
    have nk4 := k4.of hn
    have nk11 := k11.of hn
    have nk12 := k12.of hn
    have nk13 := k13.of hn
    have nhb0 := hb0.trans (hn.mono hb0.size)
    clear hn
    have k14 : Blk V12 V11.heap.size #[.int .i64 cx, .int .i64 cy, .int .i64 dx, .int .i64 dy] 50 := by rw [hV12]; exact (Blk.new _ _ _)
    clear k1 k2 k3 k4 k11 k12 k13
    clear hb0
    clear hV12
    have k1 := nk1
    clear nk1
    have k2 := nk2
    clear nk2
    have k3 := nk3
    clear nk3
    have k4 := nk4
    clear nk4
    have k11 := nk11
    clear nk11
    have k12 := nk12
    clear nk12
    have k13 := nk13
    clear nk13
    have hb0 := nhb0
    clear nhb0
    refine (Meet_is bx b_y ax ay cx cy dx dy k px py pw HP8.out HP9.out HP10.out HP11.out _ibx _ib_y _iax _iay _icx _icy _idx _idy  _).mono ?_
    rintro e U13 ⟨rfl, hn⟩
    replace k1 := k1.of hn
    replace k2 := k2.of hn
    replace k3 := k3.of hn
    replace k4 := k4.of hn
    replace k11 := k11.of hn
    replace k12 := k12.of hn
    replace k13 := k13.of hn
    replace k14 := k14.of hn
    replace hb0 := hb0.trans (hn.mono hb0.size)
    clear hn
    go_wp2_with fail
    refine hKL3.out _ _ ?_
    clear hKL3
    try clear KL3
    first | refine loop_world ?_
    intro V14 hV14
    clear k11
    have D56 := Lib.hid k1.lt
    have D57 := Lib.hid k2.lt
    have D58 := Lib.hid k3.lt
    have D59 := Lib.hid k4.lt
    have D60 := Lib.hid k12.lt
    have D61 := Lib.hid k13.lt
    have D62 := Lib.hid k14.lt
    have D63 := Lib.hid hb0.size
    have hn : Below U13.heap.size U13 V14 := by rw [hV14]; exact below_a1 _ _
    have nk1 := k1.of hn
    have nk2 := k2.of hn
    have nk3 := k3.of hn
    have nk4 := k4.of hn
    have nk12 := k12.of hn
    have nk13 := k13.of hn
    have nk14 := k14.of hn
    have nhb0 := hb0.trans (hn.mono hb0.size)
    clear hn
    have k15 : Blk V14 U13.heap.size #[.int .u64 (wd0 px), .int .u64 (wd1 px), .int .u64 (wd2 px), .int .u64 (wd3 px), .int .u64 (wd0 py), .int .u64 (wd1 py), .int .u64 (wd2 py), .int .u64 (wd3 py), .int .u64 (wd0 pw), .int .u64 (wd1 pw), .int .u64 (wd2 pw), .int .u64 (wd3 pw)] 67 := by rw [hV14]; exact (Blk.new _ _ _)
    clear k1 k2 k3 k4 k12 k13 k14
    clear hb0
    clear hV14
    have k1 := nk1
    clear nk1
    have k2 := nk2
    clear nk2
    have k3 := nk3
    clear nk3
    have k4 := nk4
    clear nk4
    have k12 := nk12
    clear nk12
    have k13 := nk13
    clear nk13
    have k14 := nk14
    clear nk14
    have hb0 := nhb0
    clear nhb0
    refine loopin_round ?_
    intro KL3 hKL3
    have c12_0 : V14.cell? ⟨V10.heap.size, 0, none⟩ = some (.int .i64 bx) := k12.cell 0
    have c12_1 : V14.cell? ⟨V10.heap.size, 1, none⟩ = some (.int .i64 b_y) := k12.cell 1
    have c12_2 : V14.cell? ⟨V10.heap.size, 2, none⟩ = some (.int .i64 ax) := k12.cell 2
    have c12_3 : V14.cell? ⟨V10.heap.size, 3, none⟩ = some (.int .i64 ay) := k12.cell 3
    have l12 := k12.lt
    have c13_4 : V14.cell? ⟨(V10.heap.size + 1), 4, none⟩ = some (.int .i64 dx) := k13.cell 4
    have c13_5 : V14.cell? ⟨(V10.heap.size + 1), 5, none⟩ = some (.int .i64 dy) := k13.cell 5
    have c13_6 : V14.cell? ⟨(V10.heap.size + 1), 6, none⟩ = some (.int .i64 cx) := k13.cell 6
    have c13_7 : V14.cell? ⟨(V10.heap.size + 1), 7, none⟩ = some (.int .i64 cy) := k13.cell 7
    have l13 := k13.lt
    have l13_0 : V10.heap.size < V14.heap.size := by have := k13.lt; omega
    go_wp2_with fail
    clear c12_0 c12_1 c12_2 c12_3 l12 c13_4 c13_5 c13_6 c13_7 l13 l13_0
    first | refine calls_w ?_ | refine name_world ?_ | refine list_world ?_ | refine post_world ?_
    intro V15 hV15
    clear k14
    have D64 := Lib.hid k1.lt
    have D65 := Lib.hid k2.lt
    have D66 := Lib.hid k3.lt
    have D67 := Lib.hid k4.lt
    have D68 := Lib.hid k12.lt
    have D69 := Lib.hid k13.lt
    have D70 := Lib.hid k15.lt
    have D71 := Lib.hid hb0.size
    have hn : Below V14.heap.size V14 V15 := by rw [hV15]; exact below_a1 _ _
    have nk1 := k1.of hn
    have nk2 := k2.of hn
    have nk3 := k3.of hn
    have nk4 := k4.of hn
    have nk12 := k12.of hn
    have nk13 := k13.of hn
    have nk15 := k15.of hn
    have nhb0 := hb0.trans (hn.mono hb0.size)
    clear hn
    have k16 : Blk V15 V14.heap.size #[.int .i64 dx, .int .i64 dy, .int .i64 cx, .int .i64 cy] 50 := by rw [hV15]; exact (Blk.new _ _ _)
    clear k1 k2 k3 k4 k12 k13 k15
    clear hb0
    clear hV15
    have k1 := nk1
    clear nk1
    have k2 := nk2
    clear nk2
    have k3 := nk3
    clear nk3
    have k4 := nk4
    clear nk4
    have k12 := nk12
    clear nk12
    have k13 := nk13
    clear nk13
    have k15 := nk15
    clear nk15
    have hb0 := nhb0
    clear nhb0
    refine (Meet_is bx b_y ax ay dx dy cx cy k px py pw HP12.out HP13.out HP14.out HP15.out _ibx _ib_y _iax _iay _idx _idy _icx _icy  _).mono ?_
    rintro e U16 ⟨rfl, hn⟩
    replace k1 := k1.of hn
    replace k2 := k2.of hn
    replace k3 := k3.of hn
    replace k4 := k4.of hn
    replace k12 := k12.of hn
    replace k13 := k13.of hn
    replace k15 := k15.of hn
    replace k16 := k16.of hn
    replace hb0 := hb0.trans (hn.mono hb0.size)
    clear hn
    go_wp2_with fail
    refine hKL3.out _ _ ?_
    clear hKL3
    try clear KL3
    first | refine loop_world ?_
    intro V17 hV17
    clear k15
    have D72 := Lib.hid k1.lt
    have D73 := Lib.hid k2.lt
    have D74 := Lib.hid k3.lt
    have D75 := Lib.hid k4.lt
    have D76 := Lib.hid k12.lt
    have D77 := Lib.hid k13.lt
    have D78 := Lib.hid k16.lt
    have D79 := Lib.hid hb0.size
    have hn : Below U16.heap.size U16 V17 := by rw [hV17]; exact below_a1 _ _
    have nk1 := k1.of hn
    have nk2 := k2.of hn
    have nk3 := k3.of hn
    have nk4 := k4.of hn
    have nk12 := k12.of hn
    have nk13 := k13.of hn
    have nk16 := k16.of hn
    have nhb0 := hb0.trans (hn.mono hb0.size)
    clear hn
    have k17 : Blk V17 U16.heap.size #[.int .u64 (wd0 px), .int .u64 (wd1 px), .int .u64 (wd2 px), .int .u64 (wd3 px), .int .u64 (wd0 py), .int .u64 (wd1 py), .int .u64 (wd2 py), .int .u64 (wd3 py), .int .u64 (wd0 pw), .int .u64 (wd1 pw), .int .u64 (wd2 pw), .int .u64 (wd3 pw)] 67 := by rw [hV17]; exact (Blk.new _ _ _)
    clear k1 k2 k3 k4 k12 k13 k16
    clear hb0
    clear hV17
    have k1 := nk1
    clear nk1
    have k2 := nk2
    clear nk2
    have k3 := nk3
    clear nk3
    have k4 := nk4
    clear nk4
    have k12 := nk12
    clear nk12
    have k13 := nk13
    clear nk13
    have k16 := nk16
    clear nk16
    have hb0 := nhb0
    clear nhb0
    refine loopin_round ?_
    intro KL3 hKL3
    go_wp2_with fail
    refine hKL1.out _ _ ?_
    clear hKL3 hKL1
    try clear KL3
    try clear KL1
    refine loopin_round ?_
    intro KL1 hKL1
    have c1_0 : V17.cell? ⟨w.heap.size, 0, none⟩ = some (.int .i64 ax) := k1.cell 0
    have c1_1 : V17.cell? ⟨w.heap.size, 1, none⟩ = some (.int .i64 ay) := k1.cell 1
    have c1_2 : V17.cell? ⟨w.heap.size, 2, none⟩ = some (.int .i64 bx) := k1.cell 2
    have c1_3 : V17.cell? ⟨w.heap.size, 3, none⟩ = some (.int .i64 b_y) := k1.cell 3
    have l1 := k1.lt
    go_wp2_with fail
    clear c1_0 c1_1 c1_2 c1_3 l1
    refine (Meet_is ax ay bx b_y ax ay bx b_y 2 sx sy sw HP18.out HP19.out HP20.out HP21.out _iax _iay _ibx _ib_y _iax _iay _ibx _ib_y  _).mono ?_
    rintro e U18 ⟨rfl, hn⟩
    clear k2 k3 k4 k12 k13 k16 k17
    replace k1 := k1.of hn
    replace hb0 := hb0.trans (hn.mono hb0.size)
    clear hn
    have c1_0 : U18.cell? ⟨w.heap.size, 0, none⟩ = some (.int .i64 ax) := k1.cell 0
    have c1_1 : U18.cell? ⟨w.heap.size, 1, none⟩ = some (.int .i64 ay) := k1.cell 1
    have c1_2 : U18.cell? ⟨w.heap.size, 2, none⟩ = some (.int .i64 bx) := k1.cell 2
    have c1_3 : U18.cell? ⟨w.heap.size, 3, none⟩ = some (.int .i64 b_y) := k1.cell 3
    have l1 := k1.lt
    go_wp2_with fail
    clear c1_0 c1_1 c1_2 c1_3 l1
    first | refine calls_w ?_ | refine name_world ?_ | refine list_world ?_ | refine post_world ?_
    intro V19 hV19
    clear k1
    have D80 := Lib.hid hb0.size
    have hn : Below U18.heap.size U18 V19 := by rw [hV19]; exact below_a1 _ _
    have nhb0 := hb0.trans (hn.mono hb0.size)
    clear hn
    have k18 : Blk V19 U18.heap.size #[.int .u64 (wd0 sx), .int .u64 (wd1 sx), .int .u64 (wd2 sx), .int .u64 (wd3 sx), .int .u64 (wd0 sy), .int .u64 (wd1 sy), .int .u64 (wd2 sy), .int .u64 (wd3 sy), .int .u64 (wd0 sw), .int .u64 (wd1 sw), .int .u64 (wd2 sw), .int .u64 (wd3 sw)] 67 := by rw [hV19]; exact (Blk.new _ _ _)
    clear hb0
    clear hV19
    have hb0 := nhb0
    clear nhb0
    refine (cright_is ax ay bx b_y true HP17.out _iax _iay _ibx _ib_y  _).mono ?_
    rintro e U20 ⟨rfl, hn⟩
    clear k18
    replace hb0 := hb0.trans (hn.mono hb0.size)
    clear hn
    go_wp2_with fail
    refine (cawake_any _).mono ?_
    rintro e U21 ⟨rfl, hn⟩
    replace hb0 := hb0.trans (hn.mono hb0.size)
    clear hn
    go_wp2
    first | go_ret | go_ret2
    exact ⟨by first | rfl | (simp; done) | (simp; assumption), hb0⟩
  · obtain rfl : k = 1 := by simpa using hz1
    clear hz1
    have c3_0 : U6.cell? ⟨U2.heap.size, 0, none⟩ = some (.int .u64 (wd0 px)) := k3.cell 0
    have c3_1 : U6.cell? ⟨U2.heap.size, 1, none⟩ = some (.int .u64 (wd1 px)) := k3.cell 1
    have c3_2 : U6.cell? ⟨U2.heap.size, 2, none⟩ = some (.int .u64 (wd2 px)) := k3.cell 2
    have c3_3 : U6.cell? ⟨U2.heap.size, 3, none⟩ = some (.int .u64 (wd3 px)) := k3.cell 3
    have c3_4 : U6.cell? ⟨U2.heap.size, 4, none⟩ = some (.int .u64 (wd0 py)) := k3.cell 4
    have c3_5 : U6.cell? ⟨U2.heap.size, 5, none⟩ = some (.int .u64 (wd1 py)) := k3.cell 5
    have c3_6 : U6.cell? ⟨U2.heap.size, 6, none⟩ = some (.int .u64 (wd2 py)) := k3.cell 6
    have c3_7 : U6.cell? ⟨U2.heap.size, 7, none⟩ = some (.int .u64 (wd3 py)) := k3.cell 7
    have c3_8 : U6.cell? ⟨U2.heap.size, 8, none⟩ = some (.int .u64 (wd0 pw)) := k3.cell 8
    have c3_9 : U6.cell? ⟨U2.heap.size, 9, none⟩ = some (.int .u64 (wd1 pw)) := k3.cell 9
    have c3_10 : U6.cell? ⟨U2.heap.size, 10, none⟩ = some (.int .u64 (wd2 pw)) := k3.cell 10
    have c3_11 : U6.cell? ⟨U2.heap.size, 11, none⟩ = some (.int .u64 (wd3 pw)) := k3.cell 11
    have l3 := k3.lt
    go_wp2_with fail
    clear c3_0 c3_1 c3_2 c3_3 c3_4 c3_5 c3_6 c3_7 c3_8 c3_9 c3_10 c3_11 l3
    first | refine calls_w ?_ | refine name_world ?_ | refine list_world ?_ | refine post_world ?_
    intro V22 hV22
    have D81 := Lib.hid k1.lt
    have D82 := Lib.hid k2.lt
    have D83 := Lib.hid k3.lt
    have D84 := Lib.hid k4.lt
    have D85 := Lib.hid k5.lt
    have D86 := Lib.hid k6.lt
    have D87 := Lib.hid k7.lt
    have D88 := Lib.hid hb0.size
    have hn : Below U6.heap.size U6 V22 := by rw [hV22]; exact below_a1 _ _
    have nk1 := k1.of hn
    have nk2 := k2.of hn
    have nk3 := k3.of hn
    have nk4 := k4.of hn
    have nk5 := k5.of hn
    have nk6 := k6.of hn
    have nk7 := k7.of hn
    have nhb0 := hb0.trans (hn.mono hb0.size)
    clear hn
    have k19 : Blk V22 U6.heap.size #[.int .u64 (wd0 px), .int .u64 (wd1 px), .int .u64 (wd2 px), .int .u64 (wd3 px), .int .u64 (wd0 py), .int .u64 (wd1 py), .int .u64 (wd2 py), .int .u64 (wd3 py), .int .u64 (wd0 pw), .int .u64 (wd1 pw), .int .u64 (wd2 pw), .int .u64 (wd3 pw)] 67 := by rw [hV22]; exact (Blk.new _ _ _)
    clear k1 k2 k3 k4 k5 k6 k7
    clear hb0
    clear hV22
    have k1 := nk1
    clear nk1
    have k2 := nk2
    clear nk2
    have k3 := nk3
    clear nk3
    have k4 := nk4
    clear nk4
    have k5 := nk5
    clear nk5
    have k6 := nk6
    clear nk6
    have k7 := nk7
    clear nk7
    have hb0 := nhb0
    clear nhb0
    refine (SpCmp_is px py pw px py pw 0 HP16.out _ipx _ipy _ipw _ipx _ipy _ipw  _).mono ?_
    rintro e U23 ⟨rfl, hn⟩
    replace k1 := k1.of hn
    replace k2 := k2.of hn
    replace k3 := k3.of hn
    replace k4 := k4.of hn
    replace k5 := k5.of hn
    replace k6 := k6.of hn
    replace k7 := k7.of hn
    replace k19 := k19.of hn
    replace hb0 := hb0.trans (hn.mono hb0.size)
    clear hn
    go_wp2_with fail
    refine hKL2.out _ _ ?_
    clear hKL2
    try clear KL2
    refine loopin_round ?_
    intro KL2 hKL2
    have c5_0 : U23.cell? ⟨V3.heap.size, 0, none⟩ = some (.int .i64 ax) := k5.cell 0
    have c5_1 : U23.cell? ⟨V3.heap.size, 1, none⟩ = some (.int .i64 ay) := k5.cell 1
    have c5_2 : U23.cell? ⟨V3.heap.size, 2, none⟩ = some (.int .i64 bx) := k5.cell 2
    have c5_3 : U23.cell? ⟨V3.heap.size, 3, none⟩ = some (.int .i64 b_y) := k5.cell 3
    have l5 := k5.lt
    have c6_4 : U23.cell? ⟨(V3.heap.size + 1), 4, none⟩ = some (.int .i64 dx) := k6.cell 4
    have c6_5 : U23.cell? ⟨(V3.heap.size + 1), 5, none⟩ = some (.int .i64 dy) := k6.cell 5
    have c6_6 : U23.cell? ⟨(V3.heap.size + 1), 6, none⟩ = some (.int .i64 cx) := k6.cell 6
    have c6_7 : U23.cell? ⟨(V3.heap.size + 1), 7, none⟩ = some (.int .i64 cy) := k6.cell 7
    have l6 := k6.lt
    have l6_0 : V3.heap.size < U23.heap.size := by have := k6.lt; omega
    go_wp2_with fail
    clear c5_0 c5_1 c5_2 c5_3 l5 c6_4 c6_5 c6_6 c6_7 l6 l6_0
    first | refine calls_w ?_ | refine name_world ?_ | refine list_world ?_ | refine post_world ?_
    intro V24 hV24
    clear k7
    have D89 := Lib.hid k1.lt
    have D90 := Lib.hid k2.lt
    have D91 := Lib.hid k3.lt
    have D92 := Lib.hid k4.lt
    have D93 := Lib.hid k5.lt
    have D94 := Lib.hid k6.lt
    have D95 := Lib.hid k19.lt
    have D96 := Lib.hid hb0.size
    have hn : Below U23.heap.size U23 V24 := by rw [hV24]; exact below_a1 _ _
    have nk1 := k1.of hn
    have nk2 := k2.of hn
    have nk3 := k3.of hn
    have nk4 := k4.of hn
    have nk5 := k5.of hn
    have nk6 := k6.of hn
    have nk19 := k19.of hn
    have nhb0 := hb0.trans (hn.mono hb0.size)
    clear hn
    have k20 : Blk V24 U23.heap.size #[.int .i64 dx, .int .i64 dy, .int .i64 cx, .int .i64 cy] 50 := by rw [hV24]; exact (Blk.new _ _ _)
    clear k1 k2 k3 k4 k5 k6 k19
    clear hb0
    clear hV24
    have k1 := nk1
    clear nk1
    have k2 := nk2
    clear nk2
    have k3 := nk3
    clear nk3
    have k4 := nk4
    clear nk4
    have k5 := nk5
    clear nk5
    have k6 := nk6
    clear nk6
    have k19 := nk19
    clear nk19
    have hb0 := nhb0
    clear nhb0
    refine (Meet_is ax ay bx b_y dx dy cx cy 1 px py pw HP4.out HP5.out HP6.out HP7.out _iax _iay _ibx _ib_y _idx _idy _icx _icy  _).mono ?_
    rintro e U25 ⟨rfl, hn⟩
    replace k1 := k1.of hn
    replace k2 := k2.of hn
    replace k3 := k3.of hn
    replace k4 := k4.of hn
    replace k5 := k5.of hn
    replace k6 := k6.of hn
    replace k19 := k19.of hn
    replace k20 := k20.of hn
    replace hb0 := hb0.trans (hn.mono hb0.size)
    clear hn
    have c3_0 : U25.cell? ⟨U2.heap.size, 0, none⟩ = some (.int .u64 (wd0 px)) := k3.cell 0
    have c3_1 : U25.cell? ⟨U2.heap.size, 1, none⟩ = some (.int .u64 (wd1 px)) := k3.cell 1
    have c3_2 : U25.cell? ⟨U2.heap.size, 2, none⟩ = some (.int .u64 (wd2 px)) := k3.cell 2
    have c3_3 : U25.cell? ⟨U2.heap.size, 3, none⟩ = some (.int .u64 (wd3 px)) := k3.cell 3
    have c3_4 : U25.cell? ⟨U2.heap.size, 4, none⟩ = some (.int .u64 (wd0 py)) := k3.cell 4
    have c3_5 : U25.cell? ⟨U2.heap.size, 5, none⟩ = some (.int .u64 (wd1 py)) := k3.cell 5
    have c3_6 : U25.cell? ⟨U2.heap.size, 6, none⟩ = some (.int .u64 (wd2 py)) := k3.cell 6
    have c3_7 : U25.cell? ⟨U2.heap.size, 7, none⟩ = some (.int .u64 (wd3 py)) := k3.cell 7
    have c3_8 : U25.cell? ⟨U2.heap.size, 8, none⟩ = some (.int .u64 (wd0 pw)) := k3.cell 8
    have c3_9 : U25.cell? ⟨U2.heap.size, 9, none⟩ = some (.int .u64 (wd1 pw)) := k3.cell 9
    have c3_10 : U25.cell? ⟨U2.heap.size, 10, none⟩ = some (.int .u64 (wd2 pw)) := k3.cell 10
    have c3_11 : U25.cell? ⟨U2.heap.size, 11, none⟩ = some (.int .u64 (wd3 pw)) := k3.cell 11
    have l3 := k3.lt
    go_wp2_with fail
    clear c3_0 c3_1 c3_2 c3_3 c3_4 c3_5 c3_6 c3_7 c3_8 c3_9 c3_10 c3_11 l3
    first | refine calls_w ?_ | refine name_world ?_ | refine list_world ?_ | refine post_world ?_
    intro V26 hV26
    clear k19
    have D97 := Lib.hid k1.lt
    have D98 := Lib.hid k2.lt
    have D99 := Lib.hid k3.lt
    have D100 := Lib.hid k4.lt
    have D101 := Lib.hid k5.lt
    have D102 := Lib.hid k6.lt
    have D103 := Lib.hid k20.lt
    have D104 := Lib.hid hb0.size
    have hn : Below U25.heap.size U25 V26 := by rw [hV26]; exact below_a1 _ _
    have nk1 := k1.of hn
    have nk2 := k2.of hn
    have nk3 := k3.of hn
    have nk4 := k4.of hn
    have nk5 := k5.of hn
    have nk6 := k6.of hn
    have nk20 := k20.of hn
    have nhb0 := hb0.trans (hn.mono hb0.size)
    clear hn
    have k21 : Blk V26 U25.heap.size #[.int .u64 (wd0 px), .int .u64 (wd1 px), .int .u64 (wd2 px), .int .u64 (wd3 px), .int .u64 (wd0 py), .int .u64 (wd1 py), .int .u64 (wd2 py), .int .u64 (wd3 py), .int .u64 (wd0 pw), .int .u64 (wd1 pw), .int .u64 (wd2 pw), .int .u64 (wd3 pw)] 67 := by rw [hV26]; exact (Blk.new _ _ _)
    clear k1 k2 k3 k4 k5 k6 k20
    clear hb0
    clear hV26
    have k1 := nk1
    clear nk1
    have k2 := nk2
    clear nk2
    have k3 := nk3
    clear nk3
    have k4 := nk4
    clear nk4
    have k5 := nk5
    clear nk5
    have k6 := nk6
    clear nk6
    have k20 := nk20
    clear nk20
    have hb0 := nhb0
    clear nhb0
    refine (SpCmp_is px py pw px py pw 0 HP16.out _ipx _ipy _ipw _ipx _ipy _ipw  _).mono ?_
    rintro e U27 ⟨rfl, hn⟩
    replace k1 := k1.of hn
    replace k2 := k2.of hn
    replace k3 := k3.of hn
    replace k4 := k4.of hn
    replace k5 := k5.of hn
    replace k6 := k6.of hn
    replace k20 := k20.of hn
    replace k21 := k21.of hn
    replace hb0 := hb0.trans (hn.mono hb0.size)
    clear hn
    go_wp2_with fail
    refine hKL2.out _ _ ?_
    clear hKL2
    try clear KL2
    refine loopin_round ?_
    intro KL2 hKL2
    go_wp2_with fail
    refine hKL1.out _ _ ?_
    clear hKL2 hKL1
    try clear KL2
    try clear KL1
    refine loopin_round ?_
    intro KL1 hKL1
    have c2_0 : U27.cell? ⟨(w.heap.size + 1), 0, none⟩ = some (.int .i64 cx) := k2.cell 0
    have c2_1 : U27.cell? ⟨(w.heap.size + 1), 1, none⟩ = some (.int .i64 cy) := k2.cell 1
    have c2_2 : U27.cell? ⟨(w.heap.size + 1), 2, none⟩ = some (.int .i64 dx) := k2.cell 2
    have c2_3 : U27.cell? ⟨(w.heap.size + 1), 3, none⟩ = some (.int .i64 dy) := k2.cell 3
    have l2 := k2.lt
    have l2_0 : w.heap.size < U27.heap.size := by have := k2.lt; omega
    have c4_4 : U27.cell? ⟨(U2.heap.size + 1), 4, none⟩ = some (.int .i64 bx) := k4.cell 4
    have c4_5 : U27.cell? ⟨(U2.heap.size + 1), 5, none⟩ = some (.int .i64 b_y) := k4.cell 5
    have c4_6 : U27.cell? ⟨(U2.heap.size + 1), 6, none⟩ = some (.int .i64 ax) := k4.cell 6
    have c4_7 : U27.cell? ⟨(U2.heap.size + 1), 7, none⟩ = some (.int .i64 ay) := k4.cell 7
    have l4 := k4.lt
    have l4_0 : U2.heap.size < U27.heap.size := by have := k4.lt; omega
    go_wp2_with fail
    clear c2_0 c2_1 c2_2 c2_3 l2 l2_0 c4_4 c4_5 c4_6 c4_7 l4 l4_0
    refine wp_loop_in ?_
    first | refine loop_world ?_
    intro V28 hV28
    clear k5
    have D105 := Lib.hid k1.lt
    have D106 := Lib.hid k2.lt
    have D107 := Lib.hid k3.lt
    have D108 := Lib.hid k4.lt
    have D109 := Lib.hid k6.lt
    have D110 := Lib.hid k20.lt
    have D111 := Lib.hid k21.lt
    have D112 := Lib.hid hb0.size
    have hn : Below U27.heap.size U27 V28 := by rw [hV28]; exact below_a2 _ _ _
    have nk1 := k1.of hn
    have nk2 := k2.of hn
    have nk3 := k3.of hn
    have nk4 := k4.of hn
    have nk6 := k6.of hn
    have nk20 := k20.of hn
    have nk21 := k21.of hn
    have nhb0 := hb0.trans (hn.mono hb0.size)
    clear hn
    have k22 : Blk V28 U27.heap.size #[.int .i64 bx, .int .i64 b_y, .int .i64 ax, .int .i64 ay] 50 := by rw [hV28]; exact ((Blk.new _ _ _).alloc _)
    have k23 : Blk V28 (U27.heap.size + 1) #[.int .i64 cx, .int .i64 cy, .int .i64 dx, .int .i64 dy, .int .i64 dx, .int .i64 dy, .int .i64 cx, .int .i64 cy] 50 := by rw [hV28]; exact (Blk.new1 _ _ _ _)
    clear k1 k2 k3 k4 k6 k20 k21
    clear hb0
    clear hV28
    have k1 := nk1
    clear nk1
    have k2 := nk2
    clear nk2
    have k3 := nk3
    clear nk3
    have k4 := nk4
    clear nk4
    have k6 := nk6
    clear nk6
    have k20 := nk20
    clear nk20
    have k21 := nk21
    clear nk21
    have hb0 := nhb0
    clear nhb0
    refine loopin_round ?_
    intro KL4 hKL4
    have c22_0 : V28.cell? ⟨U27.heap.size, 0, none⟩ = some (.int .i64 bx) := k22.cell 0
    have c22_1 : V28.cell? ⟨U27.heap.size, 1, none⟩ = some (.int .i64 b_y) := k22.cell 1
    have c22_2 : V28.cell? ⟨U27.heap.size, 2, none⟩ = some (.int .i64 ax) := k22.cell 2
    have c22_3 : V28.cell? ⟨U27.heap.size, 3, none⟩ = some (.int .i64 ay) := k22.cell 3
    have l22 := k22.lt
    have c23_0 : V28.cell? ⟨(U27.heap.size + 1), 0, none⟩ = some (.int .i64 cx) := k23.cell 0
    have c23_1 : V28.cell? ⟨(U27.heap.size + 1), 1, none⟩ = some (.int .i64 cy) := k23.cell 1
    have c23_2 : V28.cell? ⟨(U27.heap.size + 1), 2, none⟩ = some (.int .i64 dx) := k23.cell 2
    have c23_3 : V28.cell? ⟨(U27.heap.size + 1), 3, none⟩ = some (.int .i64 dy) := k23.cell 3
    have l23 := k23.lt
    have l23_0 : U27.heap.size < V28.heap.size := by have := k23.lt; omega
    go_wp2_with fail
    clear c22_0 c22_1 c22_2 c22_3 l22 c23_0 c23_1 c23_2 c23_3 l23 l23_0
    first | refine calls_w ?_ | refine name_world ?_ | refine list_world ?_ | refine post_world ?_
    intro V29 hV29
    clear k6 k20
    have D113 := Lib.hid k1.lt
    have D114 := Lib.hid k2.lt
    have D115 := Lib.hid k3.lt
    have D116 := Lib.hid k4.lt
    have D117 := Lib.hid k21.lt
    have D118 := Lib.hid k22.lt
    have D119 := Lib.hid k23.lt
    have D120 := Lib.hid hb0.size
    have hn : Below V28.heap.size V28 V29 := by rw [hV29]; exact below_a1 _ _
    have nk1 := k1.of hn
    have nk2 := k2.of hn
    have nk3 := k3.of hn
    have nk4 := k4.of hn
    have nk21 := k21.of hn
    have nk22 := k22.of hn
    have nk23 := k23.of hn
    have nhb0 := hb0.trans (hn.mono hb0.size)
    clear hn
    have k24 : Blk V29 V28.heap.size #[.int .i64 cx, .int .i64 cy, .int .i64 dx, .int .i64 dy] 50 := by rw [hV29]; exact (Blk.new _ _ _)
    clear k1 k2 k3 k4 k21 k22 k23
    clear hb0
    clear hV29
    have k1 := nk1
    clear nk1
    have k2 := nk2
    clear nk2
    have k3 := nk3
    clear nk3
    have k4 := nk4
    clear nk4
    have k21 := nk21
    clear nk21
    have k22 := nk22
    clear nk22
    have k23 := nk23
    clear nk23
    have hb0 := nhb0
    clear nhb0
    refine (Meet_is bx b_y ax ay cx cy dx dy 1 px py pw HP8.out HP9.out HP10.out HP11.out _ibx _ib_y _iax _iay _icx _icy _idx _idy  _).mono ?_
    rintro e U30 ⟨rfl, hn⟩
    replace k1 := k1.of hn
    replace k2 := k2.of hn
    replace k3 := k3.of hn
    replace k4 := k4.of hn
    replace k21 := k21.of hn
    replace k22 := k22.of hn
    replace k23 := k23.of hn
    replace k24 := k24.of hn
    replace hb0 := hb0.trans (hn.mono hb0.size)
    clear hn
    have c3_0 : U30.cell? ⟨U2.heap.size, 0, none⟩ = some (.int .u64 (wd0 px)) := k3.cell 0
    have c3_1 : U30.cell? ⟨U2.heap.size, 1, none⟩ = some (.int .u64 (wd1 px)) := k3.cell 1
    have c3_2 : U30.cell? ⟨U2.heap.size, 2, none⟩ = some (.int .u64 (wd2 px)) := k3.cell 2
    have c3_3 : U30.cell? ⟨U2.heap.size, 3, none⟩ = some (.int .u64 (wd3 px)) := k3.cell 3
    have c3_4 : U30.cell? ⟨U2.heap.size, 4, none⟩ = some (.int .u64 (wd0 py)) := k3.cell 4
    have c3_5 : U30.cell? ⟨U2.heap.size, 5, none⟩ = some (.int .u64 (wd1 py)) := k3.cell 5
    have c3_6 : U30.cell? ⟨U2.heap.size, 6, none⟩ = some (.int .u64 (wd2 py)) := k3.cell 6
    have c3_7 : U30.cell? ⟨U2.heap.size, 7, none⟩ = some (.int .u64 (wd3 py)) := k3.cell 7
    have c3_8 : U30.cell? ⟨U2.heap.size, 8, none⟩ = some (.int .u64 (wd0 pw)) := k3.cell 8
    have c3_9 : U30.cell? ⟨U2.heap.size, 9, none⟩ = some (.int .u64 (wd1 pw)) := k3.cell 9
    have c3_10 : U30.cell? ⟨U2.heap.size, 10, none⟩ = some (.int .u64 (wd2 pw)) := k3.cell 10
    have c3_11 : U30.cell? ⟨U2.heap.size, 11, none⟩ = some (.int .u64 (wd3 pw)) := k3.cell 11
    have l3 := k3.lt
    go_wp2_with fail
    clear c3_0 c3_1 c3_2 c3_3 c3_4 c3_5 c3_6 c3_7 c3_8 c3_9 c3_10 c3_11 l3
    first | refine calls_w ?_ | refine name_world ?_ | refine list_world ?_ | refine post_world ?_
    intro V31 hV31
    clear k21
    have D121 := Lib.hid k1.lt
    have D122 := Lib.hid k2.lt
    have D123 := Lib.hid k3.lt
    have D124 := Lib.hid k4.lt
    have D125 := Lib.hid k22.lt
    have D126 := Lib.hid k23.lt
    have D127 := Lib.hid k24.lt
    have D128 := Lib.hid hb0.size
    have hn : Below U30.heap.size U30 V31 := by rw [hV31]; exact below_a1 _ _
    have nk1 := k1.of hn
    have nk2 := k2.of hn
    have nk3 := k3.of hn
    have nk4 := k4.of hn
    have nk22 := k22.of hn
    have nk23 := k23.of hn
    have nk24 := k24.of hn
    have nhb0 := hb0.trans (hn.mono hb0.size)
    clear hn
    have k25 : Blk V31 U30.heap.size #[.int .u64 (wd0 px), .int .u64 (wd1 px), .int .u64 (wd2 px), .int .u64 (wd3 px), .int .u64 (wd0 py), .int .u64 (wd1 py), .int .u64 (wd2 py), .int .u64 (wd3 py), .int .u64 (wd0 pw), .int .u64 (wd1 pw), .int .u64 (wd2 pw), .int .u64 (wd3 pw)] 67 := by rw [hV31]; exact (Blk.new _ _ _)
    clear k1 k2 k3 k4 k22 k23 k24
    clear hb0
    clear hV31
    have k1 := nk1
    clear nk1
    have k2 := nk2
    clear nk2
    have k3 := nk3
    clear nk3
    have k4 := nk4
    clear nk4
    have k22 := nk22
    clear nk22
    have k23 := nk23
    clear nk23
    have k24 := nk24
    clear nk24
    have hb0 := nhb0
    clear nhb0
    refine (SpCmp_is px py pw px py pw 0 HP16.out _ipx _ipy _ipw _ipx _ipy _ipw  _).mono ?_
    rintro e U32 ⟨rfl, hn⟩
    replace k1 := k1.of hn
    replace k2 := k2.of hn
    replace k3 := k3.of hn
    replace k4 := k4.of hn
    replace k22 := k22.of hn
    replace k23 := k23.of hn
    replace k24 := k24.of hn
    replace k25 := k25.of hn
    replace hb0 := hb0.trans (hn.mono hb0.size)
    clear hn
    go_wp2_with fail
    refine hKL4.out _ _ ?_
    clear hKL4
    try clear KL4
    refine loopin_round ?_
    intro KL4 hKL4
    have c22_0 : U32.cell? ⟨U27.heap.size, 0, none⟩ = some (.int .i64 bx) := k22.cell 0
    have c22_1 : U32.cell? ⟨U27.heap.size, 1, none⟩ = some (.int .i64 b_y) := k22.cell 1
    have c22_2 : U32.cell? ⟨U27.heap.size, 2, none⟩ = some (.int .i64 ax) := k22.cell 2
    have c22_3 : U32.cell? ⟨U27.heap.size, 3, none⟩ = some (.int .i64 ay) := k22.cell 3
    have l22 := k22.lt
    have c23_4 : U32.cell? ⟨(U27.heap.size + 1), 4, none⟩ = some (.int .i64 dx) := k23.cell 4
    have c23_5 : U32.cell? ⟨(U27.heap.size + 1), 5, none⟩ = some (.int .i64 dy) := k23.cell 5
    have c23_6 : U32.cell? ⟨(U27.heap.size + 1), 6, none⟩ = some (.int .i64 cx) := k23.cell 6
    have c23_7 : U32.cell? ⟨(U27.heap.size + 1), 7, none⟩ = some (.int .i64 cy) := k23.cell 7
    have l23 := k23.lt
    have l23_0 : U27.heap.size < U32.heap.size := by have := k23.lt; omega
    go_wp2_with fail
    clear c22_0 c22_1 c22_2 c22_3 l22 c23_4 c23_5 c23_6 c23_7 l23 l23_0
    first | refine calls_w ?_ | refine name_world ?_ | refine list_world ?_ | refine post_world ?_
    intro V33 hV33
    clear k24
    have D129 := Lib.hid k1.lt
    have D130 := Lib.hid k2.lt
    have D131 := Lib.hid k3.lt
    have D132 := Lib.hid k4.lt
    have D133 := Lib.hid k22.lt
    have D134 := Lib.hid k23.lt
    have D135 := Lib.hid k25.lt
    have D136 := Lib.hid hb0.size
    have hn : Below U32.heap.size U32 V33 := by rw [hV33]; exact below_a1 _ _
    have nk1 := k1.of hn
    have nk2 := k2.of hn
    have nk3 := k3.of hn
    have nk4 := k4.of hn
    have nk22 := k22.of hn
    have nk23 := k23.of hn
    have nk25 := k25.of hn
    have nhb0 := hb0.trans (hn.mono hb0.size)
    clear hn
    have k26 : Blk V33 U32.heap.size #[.int .i64 dx, .int .i64 dy, .int .i64 cx, .int .i64 cy] 50 := by rw [hV33]; exact (Blk.new _ _ _)
    clear k1 k2 k3 k4 k22 k23 k25
    clear hb0
    clear hV33
    have k1 := nk1
    clear nk1
    have k2 := nk2
    clear nk2
    have k3 := nk3
    clear nk3
    have k4 := nk4
    clear nk4
    have k22 := nk22
    clear nk22
    have k23 := nk23
    clear nk23
    have k25 := nk25
    clear nk25
    have hb0 := nhb0
    clear nhb0
    refine (Meet_is bx b_y ax ay dx dy cx cy 1 px py pw HP12.out HP13.out HP14.out HP15.out _ibx _ib_y _iax _iay _idx _idy _icx _icy  _).mono ?_
    rintro e U34 ⟨rfl, hn⟩
    replace k1 := k1.of hn
    replace k2 := k2.of hn
    replace k3 := k3.of hn
    replace k4 := k4.of hn
    replace k22 := k22.of hn
    replace k23 := k23.of hn
    replace k25 := k25.of hn
    replace k26 := k26.of hn
    replace hb0 := hb0.trans (hn.mono hb0.size)
    clear hn
    have c3_0 : U34.cell? ⟨U2.heap.size, 0, none⟩ = some (.int .u64 (wd0 px)) := k3.cell 0
    have c3_1 : U34.cell? ⟨U2.heap.size, 1, none⟩ = some (.int .u64 (wd1 px)) := k3.cell 1
    have c3_2 : U34.cell? ⟨U2.heap.size, 2, none⟩ = some (.int .u64 (wd2 px)) := k3.cell 2
    have c3_3 : U34.cell? ⟨U2.heap.size, 3, none⟩ = some (.int .u64 (wd3 px)) := k3.cell 3
    have c3_4 : U34.cell? ⟨U2.heap.size, 4, none⟩ = some (.int .u64 (wd0 py)) := k3.cell 4
    have c3_5 : U34.cell? ⟨U2.heap.size, 5, none⟩ = some (.int .u64 (wd1 py)) := k3.cell 5
    have c3_6 : U34.cell? ⟨U2.heap.size, 6, none⟩ = some (.int .u64 (wd2 py)) := k3.cell 6
    have c3_7 : U34.cell? ⟨U2.heap.size, 7, none⟩ = some (.int .u64 (wd3 py)) := k3.cell 7
    have c3_8 : U34.cell? ⟨U2.heap.size, 8, none⟩ = some (.int .u64 (wd0 pw)) := k3.cell 8
    have c3_9 : U34.cell? ⟨U2.heap.size, 9, none⟩ = some (.int .u64 (wd1 pw)) := k3.cell 9
    have c3_10 : U34.cell? ⟨U2.heap.size, 10, none⟩ = some (.int .u64 (wd2 pw)) := k3.cell 10
    have c3_11 : U34.cell? ⟨U2.heap.size, 11, none⟩ = some (.int .u64 (wd3 pw)) := k3.cell 11
    have l3 := k3.lt
    go_wp2_with fail
    clear c3_0 c3_1 c3_2 c3_3 c3_4 c3_5 c3_6 c3_7 c3_8 c3_9 c3_10 c3_11 l3
    first | refine calls_w ?_ | refine name_world ?_ | refine list_world ?_ | refine post_world ?_
    intro V35 hV35
    clear k25
    have D137 := Lib.hid k1.lt
    have D138 := Lib.hid k2.lt
    have D139 := Lib.hid k3.lt
    have D140 := Lib.hid k4.lt
    have D141 := Lib.hid k22.lt
    have D142 := Lib.hid k23.lt
    have D143 := Lib.hid k26.lt
    have D144 := Lib.hid hb0.size
    have hn : Below U34.heap.size U34 V35 := by rw [hV35]; exact below_a1 _ _
    have nk1 := k1.of hn
    have nk2 := k2.of hn
    have nk3 := k3.of hn
    have nk4 := k4.of hn
    have nk22 := k22.of hn
    have nk23 := k23.of hn
    have nk26 := k26.of hn
    have nhb0 := hb0.trans (hn.mono hb0.size)
    clear hn
    have k27 : Blk V35 U34.heap.size #[.int .u64 (wd0 px), .int .u64 (wd1 px), .int .u64 (wd2 px), .int .u64 (wd3 px), .int .u64 (wd0 py), .int .u64 (wd1 py), .int .u64 (wd2 py), .int .u64 (wd3 py), .int .u64 (wd0 pw), .int .u64 (wd1 pw), .int .u64 (wd2 pw), .int .u64 (wd3 pw)] 67 := by rw [hV35]; exact (Blk.new _ _ _)
    clear k1 k2 k3 k4 k22 k23 k26
    clear hb0
    clear hV35
    have k1 := nk1
    clear nk1
    have k2 := nk2
    clear nk2
    have k3 := nk3
    clear nk3
    have k4 := nk4
    clear nk4
    have k22 := nk22
    clear nk22
    have k23 := nk23
    clear nk23
    have k26 := nk26
    clear nk26
    have hb0 := nhb0
    clear nhb0
    refine (SpCmp_is px py pw px py pw 0 HP16.out _ipx _ipy _ipw _ipx _ipy _ipw  _).mono ?_
    rintro e U36 ⟨rfl, hn⟩
    replace k1 := k1.of hn
    replace k2 := k2.of hn
    replace k3 := k3.of hn
    replace k4 := k4.of hn
    replace k22 := k22.of hn
    replace k23 := k23.of hn
    replace k26 := k26.of hn
    replace k27 := k27.of hn
    replace hb0 := hb0.trans (hn.mono hb0.size)
    clear hn
    go_wp2_with fail
    refine hKL4.out _ _ ?_
    clear hKL4
    try clear KL4
    refine loopin_round ?_
    intro KL4 hKL4
    go_wp2_with fail
    refine hKL1.out _ _ ?_
    clear hKL4 hKL1
    try clear KL4
    try clear KL1
    refine loopin_round ?_
    intro KL1 hKL1
    have c1_0 : U36.cell? ⟨w.heap.size, 0, none⟩ = some (.int .i64 ax) := k1.cell 0
    have c1_1 : U36.cell? ⟨w.heap.size, 1, none⟩ = some (.int .i64 ay) := k1.cell 1
    have c1_2 : U36.cell? ⟨w.heap.size, 2, none⟩ = some (.int .i64 bx) := k1.cell 2
    have c1_3 : U36.cell? ⟨w.heap.size, 3, none⟩ = some (.int .i64 b_y) := k1.cell 3
    have l1 := k1.lt
    go_wp2_with fail
    clear c1_0 c1_1 c1_2 c1_3 l1
    refine (Meet_is ax ay bx b_y ax ay bx b_y 2 sx sy sw HP18.out HP19.out HP20.out HP21.out _iax _iay _ibx _ib_y _iax _iay _ibx _ib_y  _).mono ?_
    rintro e U37 ⟨rfl, hn⟩
    clear k2 k3 k4 k22 k23 k26 k27
    replace k1 := k1.of hn
    replace hb0 := hb0.trans (hn.mono hb0.size)
    clear hn
    have c1_0 : U37.cell? ⟨w.heap.size, 0, none⟩ = some (.int .i64 ax) := k1.cell 0
    have c1_1 : U37.cell? ⟨w.heap.size, 1, none⟩ = some (.int .i64 ay) := k1.cell 1
    have c1_2 : U37.cell? ⟨w.heap.size, 2, none⟩ = some (.int .i64 bx) := k1.cell 2
    have c1_3 : U37.cell? ⟨w.heap.size, 3, none⟩ = some (.int .i64 b_y) := k1.cell 3
    have l1 := k1.lt
    go_wp2_with fail
    clear c1_0 c1_1 c1_2 c1_3 l1
    first | refine calls_w ?_ | refine name_world ?_ | refine list_world ?_ | refine post_world ?_
    intro V38 hV38
    clear k1
    have D145 := Lib.hid hb0.size
    have hn : Below U37.heap.size U37 V38 := by rw [hV38]; exact below_a1 _ _
    have nhb0 := hb0.trans (hn.mono hb0.size)
    clear hn
    have k28 : Blk V38 U37.heap.size #[.int .u64 (wd0 sx), .int .u64 (wd1 sx), .int .u64 (wd2 sx), .int .u64 (wd3 sx), .int .u64 (wd0 sy), .int .u64 (wd1 sy), .int .u64 (wd2 sy), .int .u64 (wd3 sy), .int .u64 (wd0 sw), .int .u64 (wd1 sw), .int .u64 (wd2 sw), .int .u64 (wd3 sw)] 67 := by rw [hV38]; exact (Blk.new _ _ _)
    clear hb0
    clear hV38
    have hb0 := nhb0
    clear nhb0
    refine (cright_is ax ay bx b_y true HP17.out _iax _iay _ibx _ib_y  _).mono ?_
    rintro e U39 ⟨rfl, hn⟩
    clear k28
    replace hb0 := hb0.trans (hn.mono hb0.size)
    clear hn
    go_wp2_with fail
    refine (cawake_any _).mono ?_
    rintro e U40 ⟨rfl, hn⟩
    replace hb0 := hb0.trans (hn.mono hb0.size)
    clear hn
    go_wp2
    first | go_ret | go_ret2
    exact ⟨by first | rfl | (simp; done) | (simp; assumption), hb0⟩

set_option maxRecDepth 100000 in
set_option maxHeartbeats 4000000 in

theorem CAlong_L2 (ax : Int) (ay : Int) (b_y : Int) (cx : Int) (cy : Int) (dx : Int) (dy : Int) (k : Int) (px : Int) (py : Int) (pw : Int) (sx : Int) (sy : Int) (sw : Int)   (hP0 : mtk ax ay ax b_y cx cy dx dy = k) (hP1 : mtx ax ay ax b_y cx cy dx dy = px) (hP2 : mty ax ay ax b_y cx cy dx dy = py) (hP3 : mtw ax ay ax b_y cx cy dx dy = pw) (hP4 : mtk ax ay ax b_y dx dy cx cy = k) (hP5 : mtx ax ay ax b_y dx dy cx cy = px) (hP6 : mty ax ay ax b_y dx dy cx cy = py) (hP7 : mtw ax ay ax b_y dx dy cx cy = pw) (hP8 : mtk ax b_y ax ay cx cy dx dy = k) (hP9 : mtx ax b_y ax ay cx cy dx dy = px) (hP10 : mty ax b_y ax ay cx cy dx dy = py) (hP11 : mtw ax b_y ax ay cx cy dx dy = pw) (hP12 : mtk ax b_y ax ay dx dy cx cy = k) (hP13 : mtx ax b_y ax ay dx dy cx cy = px) (hP14 : mty ax b_y ax ay dx dy cx cy = py) (hP15 : mtw ax b_y ax ay dx dy cx cy = pw) (hP16 : spC px py pw px py pw = 0) (hP17 : crR ax ay ax b_y = true) (hP18 : mtk ax ay ax b_y ax ay ax b_y = 2) (hP19 : mtx ax ay ax b_y ax ay ax b_y = sx) (hP20 : mty ax ay ax b_y ax ay ax b_y = sy) (hP21 : mtw ax ay ax b_y ax ay ax b_y = sw) (hP22 : (ay == b_y) = false) (_ipx : InI px) (_ipy : InI py) (_ipw : InI pw) (_iax : In64 ax) (_iay : In64 ay) (_ib_y : In64 b_y) (_icx : In64 cx) (_icy : In64 cy) (_idx : In64 dx) (_idy : In64 dy)  (w : World)  :
    Calls Try.prog 13 #[.agg #[.int .i64 ax, .int .i64 ay, .int .i64 ax, .int .i64 b_y], .agg #[.int .i64 cx, .int .i64 cy, .int .i64 dx, .int .i64 dy]] w fun e w' => e = .returned (.bool true) ∧ Below w.heap.size w w' := by

  have HP0 := Lib.hid hP0
  clear hP0
  have HP1 := Lib.hid hP1
  clear hP1
  have HP2 := Lib.hid hP2
  clear hP2
  have HP3 := Lib.hid hP3
  clear hP3
  have HP4 := Lib.hid hP4
  clear hP4
  have HP5 := Lib.hid hP5
  clear hP5
  have HP6 := Lib.hid hP6
  clear hP6
  have HP7 := Lib.hid hP7
  clear hP7
  have HP8 := Lib.hid hP8
  clear hP8
  have HP9 := Lib.hid hP9
  clear hP9
  have HP10 := Lib.hid hP10
  clear hP10
  have HP11 := Lib.hid hP11
  clear hP11
  have HP12 := Lib.hid hP12
  clear hP12
  have HP13 := Lib.hid hP13
  clear hP13
  have HP14 := Lib.hid hP14
  clear hP14
  have HP15 := Lib.hid hP15
  clear hP15
  have HP16 := Lib.hid hP16
  clear hP16
  have HP17 := Lib.hid hP17
  clear hP17
  have HP18 := Lib.hid hP18
  clear hP18
  have HP19 := Lib.hid hP19
  clear hP19
  have HP20 := Lib.hid hP20
  clear hP20
  have HP21 := Lib.hid hP21
  clear hP21
  have nP22 : ¬ ay = b_y := by simpa using hP22
  go_enter Try.func13, Try.ntmps13
  go_wp2_with fail
  first | refine calls_w ?_ | refine name_world ?_ | refine list_world ?_ | refine post_world ?_
  intro V1 hV1
  have hn : Below w.heap.size w V1 := by rw [hV1]; exact below_a2 _ _ _
  have nhb0 := hn
  have k1 : Blk V1 w.heap.size #[.int .i64 ax, .int .i64 ay, .int .i64 ax, .int .i64 b_y] 50 := by rw [hV1]; exact ((Blk.new _ _ _).alloc _)
  have k2 : Blk V1 (w.heap.size + 1) #[.int .i64 cx, .int .i64 cy, .int .i64 dx, .int .i64 dy] 50 := by rw [hV1]; exact (Blk.new1 _ _ _ _)
  clear hV1
  have hb0 := nhb0
  clear nhb0
  refine (Meet_is ax ay ax b_y cx cy dx dy k px py pw HP0.out HP1.out HP2.out HP3.out _iax _iay _iax _ib_y _icx _icy _idx _idy  _).mono ?_
  rintro e U2 ⟨rfl, hn⟩
  replace k1 := k1.of hn
  replace k2 := k2.of hn
  replace hb0 := hb0.trans (hn.mono hb0.size)
  clear hn
  have c1_0 : U2.cell? ⟨w.heap.size, 0, none⟩ = some (.int .i64 ax) := k1.cell 0
  have c1_1 : U2.cell? ⟨w.heap.size, 1, none⟩ = some (.int .i64 ay) := k1.cell 1
  have c1_2 : U2.cell? ⟨w.heap.size, 2, none⟩ = some (.int .i64 ax) := k1.cell 2
  have c1_3 : U2.cell? ⟨w.heap.size, 3, none⟩ = some (.int .i64 b_y) := k1.cell 3
  have l1 := k1.lt
  go_wp2_with fail
  clear c1_0 c1_1 c1_2 c1_3 l1
  refine wp_loop_in ?_
  first | refine loop_world ?_
  intro V3 hV3
  have D1 := Lib.hid k1.lt
  have D2 := Lib.hid k2.lt
  have D3 := Lib.hid hb0.size
  have hn : Below U2.heap.size U2 V3 := by rw [hV3]; exact below_a2 _ _ _
  have nk1 := k1.of hn
  have nk2 := k2.of hn
  have nhb0 := hb0.trans (hn.mono hb0.size)
  clear hn
  have k3 : Blk V3 U2.heap.size #[.int .u64 (wd0 px), .int .u64 (wd1 px), .int .u64 (wd2 px), .int .u64 (wd3 px), .int .u64 (wd0 py), .int .u64 (wd1 py), .int .u64 (wd2 py), .int .u64 (wd3 py), .int .u64 (wd0 pw), .int .u64 (wd1 pw), .int .u64 (wd2 pw), .int .u64 (wd3 pw)] 67 := by rw [hV3]; exact ((Blk.new _ _ _).alloc _)
  have k4 : Blk V3 (U2.heap.size + 1) #[.int .i64 ax, .int .i64 ay, .int .i64 ax, .int .i64 b_y, .int .i64 ax, .int .i64 b_y, .int .i64 ax, .int .i64 ay] 50 := by rw [hV3]; exact (Blk.new1 _ _ _ _)
  clear k1 k2
  clear hb0
  clear hV3
  have k1 := nk1
  clear nk1
  have k2 := nk2
  clear nk2
  have hb0 := nhb0
  clear nhb0
  refine loopin_round ?_
  intro KL1 hKL1
  have c2_0 : V3.cell? ⟨(w.heap.size + 1), 0, none⟩ = some (.int .i64 cx) := k2.cell 0
  have c2_1 : V3.cell? ⟨(w.heap.size + 1), 1, none⟩ = some (.int .i64 cy) := k2.cell 1
  have c2_2 : V3.cell? ⟨(w.heap.size + 1), 2, none⟩ = some (.int .i64 dx) := k2.cell 2
  have c2_3 : V3.cell? ⟨(w.heap.size + 1), 3, none⟩ = some (.int .i64 dy) := k2.cell 3
  have l2 := k2.lt
  have l2_0 : w.heap.size < V3.heap.size := by have := k2.lt; omega
  have c4_0 : V3.cell? ⟨(U2.heap.size + 1), 0, none⟩ = some (.int .i64 ax) := k4.cell 0
  have c4_1 : V3.cell? ⟨(U2.heap.size + 1), 1, none⟩ = some (.int .i64 ay) := k4.cell 1
  have c4_2 : V3.cell? ⟨(U2.heap.size + 1), 2, none⟩ = some (.int .i64 ax) := k4.cell 2
  have c4_3 : V3.cell? ⟨(U2.heap.size + 1), 3, none⟩ = some (.int .i64 b_y) := k4.cell 3
  have l4 := k4.lt
  have l4_0 : U2.heap.size < V3.heap.size := by have := k4.lt; omega
  go_wp2_with fail
  clear c2_0 c2_1 c2_2 c2_3 l2 l2_0 c4_0 c4_1 c4_2 c4_3 l4 l4_0
  refine wp_loop_in ?_
  first | refine loop_world ?_
  intro V4 hV4
  have D4 := Lib.hid k1.lt
  have D5 := Lib.hid k2.lt
  have D6 := Lib.hid k3.lt
  have D7 := Lib.hid k4.lt
  have D8 := Lib.hid hb0.size
  have hn : Below V3.heap.size V3 V4 := by rw [hV4]; exact below_a2 _ _ _
  have nk1 := k1.of hn
  have nk2 := k2.of hn
  have nk3 := k3.of hn
  have nk4 := k4.of hn
  have nhb0 := hb0.trans (hn.mono hb0.size)
  clear hn
  have k5 : Blk V4 V3.heap.size #[.int .i64 ax, .int .i64 ay, .int .i64 ax, .int .i64 b_y] 50 := by rw [hV4]; exact ((Blk.new _ _ _).alloc _)
  have k6 : Blk V4 (V3.heap.size + 1) #[.int .i64 cx, .int .i64 cy, .int .i64 dx, .int .i64 dy, .int .i64 dx, .int .i64 dy, .int .i64 cx, .int .i64 cy] 50 := by rw [hV4]; exact (Blk.new1 _ _ _ _)
  clear k1 k2 k3 k4
  clear hb0
  clear hV4
  have k1 := nk1
  clear nk1
  have k2 := nk2
  clear nk2
  have k3 := nk3
  clear nk3
  have k4 := nk4
  clear nk4
  have hb0 := nhb0
  clear nhb0
  refine loopin_round ?_
  intro KL2 hKL2
  have c5_0 : V4.cell? ⟨V3.heap.size, 0, none⟩ = some (.int .i64 ax) := k5.cell 0
  have c5_1 : V4.cell? ⟨V3.heap.size, 1, none⟩ = some (.int .i64 ay) := k5.cell 1
  have c5_2 : V4.cell? ⟨V3.heap.size, 2, none⟩ = some (.int .i64 ax) := k5.cell 2
  have c5_3 : V4.cell? ⟨V3.heap.size, 3, none⟩ = some (.int .i64 b_y) := k5.cell 3
  have l5 := k5.lt
  have c6_0 : V4.cell? ⟨(V3.heap.size + 1), 0, none⟩ = some (.int .i64 cx) := k6.cell 0
  have c6_1 : V4.cell? ⟨(V3.heap.size + 1), 1, none⟩ = some (.int .i64 cy) := k6.cell 1
  have c6_2 : V4.cell? ⟨(V3.heap.size + 1), 2, none⟩ = some (.int .i64 dx) := k6.cell 2
  have c6_3 : V4.cell? ⟨(V3.heap.size + 1), 3, none⟩ = some (.int .i64 dy) := k6.cell 3
  have l6 := k6.lt
  have l6_0 : V3.heap.size < V4.heap.size := by have := k6.lt; omega
  go_wp2_with fail
  clear c5_0 c5_1 c5_2 c5_3 l5 c6_0 c6_1 c6_2 c6_3 l6 l6_0
  first | refine calls_w ?_ | refine name_world ?_ | refine list_world ?_ | refine post_world ?_
  intro V5 hV5
  have D9 := Lib.hid k1.lt
  have D10 := Lib.hid k2.lt
  have D11 := Lib.hid k3.lt
  have D12 := Lib.hid k4.lt
  have D13 := Lib.hid k5.lt
  have D14 := Lib.hid k6.lt
  have D15 := Lib.hid hb0.size
  have hn : Below V4.heap.size V4 V5 := by rw [hV5]; exact below_a1 _ _
  have nk1 := k1.of hn
  have nk2 := k2.of hn
  have nk3 := k3.of hn
  have nk4 := k4.of hn
  have nk5 := k5.of hn
  have nk6 := k6.of hn
  have nhb0 := hb0.trans (hn.mono hb0.size)
  clear hn
  have k7 : Blk V5 V4.heap.size #[.int .i64 cx, .int .i64 cy, .int .i64 dx, .int .i64 dy] 50 := by rw [hV5]; exact (Blk.new _ _ _)
  clear k1 k2 k3 k4 k5 k6
  clear hb0
  clear hV5
  have k1 := nk1
  clear nk1
  have k2 := nk2
  clear nk2
  have k3 := nk3
  clear nk3
  have k4 := nk4
  clear nk4
  have k5 := nk5
  clear nk5
  have k6 := nk6
  clear nk6
  have hb0 := nhb0
  clear nhb0
  refine (Meet_is ax ay ax b_y cx cy dx dy k px py pw HP0.out HP1.out HP2.out HP3.out _iax _iay _iax _ib_y _icx _icy _idx _idy  _).mono ?_
  rintro e U6 ⟨rfl, hn⟩
  replace k1 := k1.of hn
  replace k2 := k2.of hn
  replace k3 := k3.of hn
  replace k4 := k4.of hn
  replace k5 := k5.of hn
  replace k6 := k6.of hn
  replace k7 := k7.of hn
  replace hb0 := hb0.trans (hn.mono hb0.size)
  clear hn
  obtain ⟨z1, hz1⟩ : ∃ o_o : Bool, (k == 1) = o_o := ⟨_, rfl⟩
  cases z1
  · have nz1 : ¬ k = 1 := by simpa using hz1
    go_wp2_with fail
    refine hKL2.out _ _ ?_
    clear hKL2
    try clear KL2
    first | refine loop_world ?_
    intro V7 hV7
    have D16 := Lib.hid k1.lt
    have D17 := Lib.hid k2.lt
    have D18 := Lib.hid k3.lt
    have D19 := Lib.hid k4.lt
    have D20 := Lib.hid k5.lt
    have D21 := Lib.hid k6.lt
    have D22 := Lib.hid k7.lt
    have D23 := Lib.hid hb0.size
    have hn : Below U6.heap.size U6 V7 := by rw [hV7]; exact below_a1 _ _
    have nk1 := k1.of hn
    have nk2 := k2.of hn
    have nk3 := k3.of hn
    have nk4 := k4.of hn
    have nk5 := k5.of hn
    have nk6 := k6.of hn
    have nk7 := k7.of hn
    have nhb0 := hb0.trans (hn.mono hb0.size)
    clear hn
    have k9 : Blk V7 U6.heap.size #[.int .u64 (wd0 px), .int .u64 (wd1 px), .int .u64 (wd2 px), .int .u64 (wd3 px), .int .u64 (wd0 py), .int .u64 (wd1 py), .int .u64 (wd2 py), .int .u64 (wd3 py), .int .u64 (wd0 pw), .int .u64 (wd1 pw), .int .u64 (wd2 pw), .int .u64 (wd3 pw)] 67 := by rw [hV7]; exact (Blk.new _ _ _)
    clear k1 k2 k3 k4 k5 k6 k7
    clear hb0
    clear hV7
    have k1 := nk1
    clear nk1
    have k2 := nk2
    clear nk2
    have k3 := nk3
    clear nk3
    have k4 := nk4
    clear nk4
    have k5 := nk5
    clear nk5
    have k6 := nk6
    clear nk6
    have k7 := nk7
    clear nk7
    have hb0 := nhb0
    clear nhb0
    refine loopin_round ?_
    intro KL2 hKL2
    have c5_0 : V7.cell? ⟨V3.heap.size, 0, none⟩ = some (.int .i64 ax) := k5.cell 0
    have c5_1 : V7.cell? ⟨V3.heap.size, 1, none⟩ = some (.int .i64 ay) := k5.cell 1
    have c5_2 : V7.cell? ⟨V3.heap.size, 2, none⟩ = some (.int .i64 ax) := k5.cell 2
    have c5_3 : V7.cell? ⟨V3.heap.size, 3, none⟩ = some (.int .i64 b_y) := k5.cell 3
    have l5 := k5.lt
    have c6_4 : V7.cell? ⟨(V3.heap.size + 1), 4, none⟩ = some (.int .i64 dx) := k6.cell 4
    have c6_5 : V7.cell? ⟨(V3.heap.size + 1), 5, none⟩ = some (.int .i64 dy) := k6.cell 5
    have c6_6 : V7.cell? ⟨(V3.heap.size + 1), 6, none⟩ = some (.int .i64 cx) := k6.cell 6
    have c6_7 : V7.cell? ⟨(V3.heap.size + 1), 7, none⟩ = some (.int .i64 cy) := k6.cell 7
    have l6 := k6.lt
    have l6_0 : V3.heap.size < V7.heap.size := by have := k6.lt; omega
    go_wp2_with fail
    clear c5_0 c5_1 c5_2 c5_3 l5 c6_4 c6_5 c6_6 c6_7 l6 l6_0
    first | refine calls_w ?_ | refine name_world ?_ | refine list_world ?_ | refine post_world ?_
    intro V8 hV8
    clear k7
    have D24 := Lib.hid k1.lt
    have D25 := Lib.hid k2.lt
    have D26 := Lib.hid k3.lt
    have D27 := Lib.hid k4.lt
    have D28 := Lib.hid k5.lt
    have D29 := Lib.hid k6.lt
    have D30 := Lib.hid k9.lt
    have D31 := Lib.hid hb0.size
    have hn : Below V7.heap.size V7 V8 := by rw [hV8]; exact below_a1 _ _
    have nk1 := k1.of hn
    have nk2 := k2.of hn
    have nk3 := k3.of hn
    have nk4 := k4.of hn
    have nk5 := k5.of hn
    have nk6 := k6.of hn
    have nk9 := k9.of hn
    have nhb0 := hb0.trans (hn.mono hb0.size)
    clear hn
    have k10 : Blk V8 V7.heap.size #[.int .i64 dx, .int .i64 dy, .int .i64 cx, .int .i64 cy] 50 := by rw [hV8]; exact (Blk.new _ _ _)
    clear k1 k2 k3 k4 k5 k6 k9
    clear hb0
    clear hV8
    have k1 := nk1
    clear nk1
    have k2 := nk2
    clear nk2
    have k3 := nk3
    clear nk3
    have k4 := nk4
    clear nk4
    have k5 := nk5
    clear nk5
    have k6 := nk6
    clear nk6
    have k9 := nk9
    clear nk9
    have hb0 := nhb0
    clear nhb0
    refine (Meet_is ax ay ax b_y dx dy cx cy k px py pw HP4.out HP5.out HP6.out HP7.out _iax _iay _iax _ib_y _idx _idy _icx _icy  _).mono ?_
    rintro e U9 ⟨rfl, hn⟩
    replace k1 := k1.of hn
    replace k2 := k2.of hn
    replace k3 := k3.of hn
    replace k4 := k4.of hn
    replace k5 := k5.of hn
    replace k6 := k6.of hn
    replace k9 := k9.of hn
    replace k10 := k10.of hn
    replace hb0 := hb0.trans (hn.mono hb0.size)
    clear hn
    go_wp2_with fail
    refine hKL2.out _ _ ?_
    clear hKL2
    try clear KL2
    first | refine loop_world ?_
    intro V10 hV10
    clear k9
    have D32 := Lib.hid k1.lt
    have D33 := Lib.hid k2.lt
    have D34 := Lib.hid k3.lt
    have D35 := Lib.hid k4.lt
    have D36 := Lib.hid k5.lt
    have D37 := Lib.hid k6.lt
    have D38 := Lib.hid k10.lt
    have D39 := Lib.hid hb0.size
    have hn : Below U9.heap.size U9 V10 := by rw [hV10]; exact below_a1 _ _
    have nk1 := k1.of hn
    have nk2 := k2.of hn
    have nk3 := k3.of hn
    have nk4 := k4.of hn
    have nk5 := k5.of hn
    have nk6 := k6.of hn
    have nk10 := k10.of hn
    have nhb0 := hb0.trans (hn.mono hb0.size)
    clear hn
    have k11 : Blk V10 U9.heap.size #[.int .u64 (wd0 px), .int .u64 (wd1 px), .int .u64 (wd2 px), .int .u64 (wd3 px), .int .u64 (wd0 py), .int .u64 (wd1 py), .int .u64 (wd2 py), .int .u64 (wd3 py), .int .u64 (wd0 pw), .int .u64 (wd1 pw), .int .u64 (wd2 pw), .int .u64 (wd3 pw)] 67 := by rw [hV10]; exact (Blk.new _ _ _)
    clear k1 k2 k3 k4 k5 k6 k10
    clear hb0
    clear hV10
    have k1 := nk1
    clear nk1
    have k2 := nk2
    clear nk2
    have k3 := nk3
    clear nk3
    have k4 := nk4
    clear nk4
    have k5 := nk5
    clear nk5
    have k6 := nk6
    clear nk6
    have k10 := nk10
    clear nk10
    have hb0 := nhb0
    clear nhb0
    refine loopin_round ?_
    intro KL2 hKL2
    go_wp2_with fail
    refine hKL1.out _ _ ?_
    clear hKL2 hKL1
    try clear KL2
    try clear KL1
    refine loopin_round ?_
    intro KL1 hKL1
    have c2_0 : V10.cell? ⟨(w.heap.size + 1), 0, none⟩ = some (.int .i64 cx) := k2.cell 0
    have c2_1 : V10.cell? ⟨(w.heap.size + 1), 1, none⟩ = some (.int .i64 cy) := k2.cell 1
    have c2_2 : V10.cell? ⟨(w.heap.size + 1), 2, none⟩ = some (.int .i64 dx) := k2.cell 2
    have c2_3 : V10.cell? ⟨(w.heap.size + 1), 3, none⟩ = some (.int .i64 dy) := k2.cell 3
    have l2 := k2.lt
    have l2_0 : w.heap.size < V10.heap.size := by have := k2.lt; omega
    have c4_4 : V10.cell? ⟨(U2.heap.size + 1), 4, none⟩ = some (.int .i64 ax) := k4.cell 4
    have c4_5 : V10.cell? ⟨(U2.heap.size + 1), 5, none⟩ = some (.int .i64 b_y) := k4.cell 5
    have c4_6 : V10.cell? ⟨(U2.heap.size + 1), 6, none⟩ = some (.int .i64 ax) := k4.cell 6
    have c4_7 : V10.cell? ⟨(U2.heap.size + 1), 7, none⟩ = some (.int .i64 ay) := k4.cell 7
    have l4 := k4.lt
    have l4_0 : U2.heap.size < V10.heap.size := by have := k4.lt; omega
    go_wp2_with fail
    clear c2_0 c2_1 c2_2 c2_3 l2 l2_0 c4_4 c4_5 c4_6 c4_7 l4 l4_0
    refine wp_loop_in ?_
    first | refine loop_world ?_
    intro V11 hV11
    clear k5
    have D40 := Lib.hid k1.lt
    have D41 := Lib.hid k2.lt
    have D42 := Lib.hid k3.lt
    have D43 := Lib.hid k4.lt
    have D44 := Lib.hid k6.lt
    have D45 := Lib.hid k10.lt
    have D46 := Lib.hid k11.lt
    have D47 := Lib.hid hb0.size
    have hn : Below V10.heap.size V10 V11 := by rw [hV11]; exact below_a2 _ _ _
    have nk1 := k1.of hn
    have nk2 := k2.of hn
    have nk3 := k3.of hn
    have nk4 := k4.of hn
    have nk6 := k6.of hn
    have nk10 := k10.of hn
    have nk11 := k11.of hn
    have nhb0 := hb0.trans (hn.mono hb0.size)
    clear hn
    have k12 : Blk V11 V10.heap.size #[.int .i64 ax, .int .i64 b_y, .int .i64 ax, .int .i64 ay] 50 := by rw [hV11]; exact ((Blk.new _ _ _).alloc _)
    have k13 : Blk V11 (V10.heap.size + 1) #[.int .i64 cx, .int .i64 cy, .int .i64 dx, .int .i64 dy, .int .i64 dx, .int .i64 dy, .int .i64 cx, .int .i64 cy] 50 := by rw [hV11]; exact (Blk.new1 _ _ _ _)
    clear k1 k2 k3 k4 k6 k10 k11
    clear hb0
    clear hV11
    have k1 := nk1
    clear nk1
    have k2 := nk2
    clear nk2
    have k3 := nk3
    clear nk3
    have k4 := nk4
    clear nk4
    have k6 := nk6
    clear nk6
    have k10 := nk10
    clear nk10
    have k11 := nk11
    clear nk11
    have hb0 := nhb0
    clear nhb0
    refine loopin_round ?_
    intro KL3 hKL3
    have c12_0 : V11.cell? ⟨V10.heap.size, 0, none⟩ = some (.int .i64 ax) := k12.cell 0
    have c12_1 : V11.cell? ⟨V10.heap.size, 1, none⟩ = some (.int .i64 b_y) := k12.cell 1
    have c12_2 : V11.cell? ⟨V10.heap.size, 2, none⟩ = some (.int .i64 ax) := k12.cell 2
    have c12_3 : V11.cell? ⟨V10.heap.size, 3, none⟩ = some (.int .i64 ay) := k12.cell 3
    have l12 := k12.lt
    have c13_0 : V11.cell? ⟨(V10.heap.size + 1), 0, none⟩ = some (.int .i64 cx) := k13.cell 0
    have c13_1 : V11.cell? ⟨(V10.heap.size + 1), 1, none⟩ = some (.int .i64 cy) := k13.cell 1
    have c13_2 : V11.cell? ⟨(V10.heap.size + 1), 2, none⟩ = some (.int .i64 dx) := k13.cell 2
    have c13_3 : V11.cell? ⟨(V10.heap.size + 1), 3, none⟩ = some (.int .i64 dy) := k13.cell 3
    have l13 := k13.lt
    have l13_0 : V10.heap.size < V11.heap.size := by have := k13.lt; omega
    go_wp2_with fail
    clear c12_0 c12_1 c12_2 c12_3 l12 c13_0 c13_1 c13_2 c13_3 l13 l13_0
    first | refine calls_w ?_ | refine name_world ?_ | refine list_world ?_ | refine post_world ?_
    intro V12 hV12
    clear k6 k10
    have D48 := Lib.hid k1.lt
    have D49 := Lib.hid k2.lt
    have D50 := Lib.hid k3.lt
    have D51 := Lib.hid k4.lt
    have D52 := Lib.hid k11.lt
    have D53 := Lib.hid k12.lt
    have D54 := Lib.hid k13.lt
    have D55 := Lib.hid hb0.size
    have hn : Below V11.heap.size V11 V12 := by rw [hV12]; exact below_a1 _ _
    have nk1 := k1.of hn
    have nk2 := k2.of hn
    have nk3 := k3.of hn
    have nk4 := k4.of hn
    have nk11 := k11.of hn
    have nk12 := k12.of hn
    have nk13 := k13.of hn
    have nhb0 := hb0.trans (hn.mono hb0.size)
    clear hn
    have k14 : Blk V12 V11.heap.size #[.int .i64 cx, .int .i64 cy, .int .i64 dx, .int .i64 dy] 50 := by rw [hV12]; exact (Blk.new _ _ _)
    clear k1 k2 k3 k4 k11 k12 k13
    clear hb0
    clear hV12
    have k1 := nk1
    clear nk1
    have k2 := nk2
    clear nk2
    have k3 := nk3
    clear nk3
    have k4 := nk4
    clear nk4
    have k11 := nk11
    clear nk11
    have k12 := nk12
    clear nk12
    have k13 := nk13
    clear nk13
    have hb0 := nhb0
    clear nhb0
    refine (Meet_is ax b_y ax ay cx cy dx dy k px py pw HP8.out HP9.out HP10.out HP11.out _iax _ib_y _iax _iay _icx _icy _idx _idy  _).mono ?_
    rintro e U13 ⟨rfl, hn⟩
    replace k1 := k1.of hn
    replace k2 := k2.of hn
    replace k3 := k3.of hn
    replace k4 := k4.of hn
    replace k11 := k11.of hn
    replace k12 := k12.of hn
    replace k13 := k13.of hn
    replace k14 := k14.of hn
    replace hb0 := hb0.trans (hn.mono hb0.size)
    clear hn
    go_wp2_with fail
    refine hKL3.out _ _ ?_
    clear hKL3
    try clear KL3
    first | refine loop_world ?_
    intro V14 hV14
    clear k11
    have D56 := Lib.hid k1.lt
    have D57 := Lib.hid k2.lt
    have D58 := Lib.hid k3.lt
    have D59 := Lib.hid k4.lt
    have D60 := Lib.hid k12.lt
    have D61 := Lib.hid k13.lt
    have D62 := Lib.hid k14.lt
    have D63 := Lib.hid hb0.size
    have hn : Below U13.heap.size U13 V14 := by rw [hV14]; exact below_a1 _ _
    have nk1 := k1.of hn
    have nk2 := k2.of hn
    have nk3 := k3.of hn
    have nk4 := k4.of hn
    have nk12 := k12.of hn
    have nk13 := k13.of hn
    have nk14 := k14.of hn
    have nhb0 := hb0.trans (hn.mono hb0.size)
    clear hn
    have k15 : Blk V14 U13.heap.size #[.int .u64 (wd0 px), .int .u64 (wd1 px), .int .u64 (wd2 px), .int .u64 (wd3 px), .int .u64 (wd0 py), .int .u64 (wd1 py), .int .u64 (wd2 py), .int .u64 (wd3 py), .int .u64 (wd0 pw), .int .u64 (wd1 pw), .int .u64 (wd2 pw), .int .u64 (wd3 pw)] 67 := by rw [hV14]; exact (Blk.new _ _ _)
    clear k1 k2 k3 k4 k12 k13 k14
    clear hb0
    clear hV14
    have k1 := nk1
    clear nk1
    have k2 := nk2
    clear nk2
    have k3 := nk3
    clear nk3
    have k4 := nk4
    clear nk4
    have k12 := nk12
    clear nk12
    have k13 := nk13
    clear nk13
    have k14 := nk14
    clear nk14
    have hb0 := nhb0
    clear nhb0
    refine loopin_round ?_
    intro KL3 hKL3
    have c12_0 : V14.cell? ⟨V10.heap.size, 0, none⟩ = some (.int .i64 ax) := k12.cell 0
    have c12_1 : V14.cell? ⟨V10.heap.size, 1, none⟩ = some (.int .i64 b_y) := k12.cell 1
    have c12_2 : V14.cell? ⟨V10.heap.size, 2, none⟩ = some (.int .i64 ax) := k12.cell 2
    have c12_3 : V14.cell? ⟨V10.heap.size, 3, none⟩ = some (.int .i64 ay) := k12.cell 3
    have l12 := k12.lt
    have c13_4 : V14.cell? ⟨(V10.heap.size + 1), 4, none⟩ = some (.int .i64 dx) := k13.cell 4
    have c13_5 : V14.cell? ⟨(V10.heap.size + 1), 5, none⟩ = some (.int .i64 dy) := k13.cell 5
    have c13_6 : V14.cell? ⟨(V10.heap.size + 1), 6, none⟩ = some (.int .i64 cx) := k13.cell 6
    have c13_7 : V14.cell? ⟨(V10.heap.size + 1), 7, none⟩ = some (.int .i64 cy) := k13.cell 7
    have l13 := k13.lt
    have l13_0 : V10.heap.size < V14.heap.size := by have := k13.lt; omega
    go_wp2_with fail
    clear c12_0 c12_1 c12_2 c12_3 l12 c13_4 c13_5 c13_6 c13_7 l13 l13_0
    first | refine calls_w ?_ | refine name_world ?_ | refine list_world ?_ | refine post_world ?_
    intro V15 hV15
    clear k14
    have D64 := Lib.hid k1.lt
    have D65 := Lib.hid k2.lt
    have D66 := Lib.hid k3.lt
    have D67 := Lib.hid k4.lt
    have D68 := Lib.hid k12.lt
    have D69 := Lib.hid k13.lt
    have D70 := Lib.hid k15.lt
    have D71 := Lib.hid hb0.size
    have hn : Below V14.heap.size V14 V15 := by rw [hV15]; exact below_a1 _ _
    have nk1 := k1.of hn
    have nk2 := k2.of hn
    have nk3 := k3.of hn
    have nk4 := k4.of hn
    have nk12 := k12.of hn
    have nk13 := k13.of hn
    have nk15 := k15.of hn
    have nhb0 := hb0.trans (hn.mono hb0.size)
    clear hn
    have k16 : Blk V15 V14.heap.size #[.int .i64 dx, .int .i64 dy, .int .i64 cx, .int .i64 cy] 50 := by rw [hV15]; exact (Blk.new _ _ _)
    clear k1 k2 k3 k4 k12 k13 k15
    clear hb0
    clear hV15
    have k1 := nk1
    clear nk1
    have k2 := nk2
    clear nk2
    have k3 := nk3
    clear nk3
    have k4 := nk4
    clear nk4
    have k12 := nk12
    clear nk12
    have k13 := nk13
    clear nk13
    have k15 := nk15
    clear nk15
    have hb0 := nhb0
    clear nhb0
    refine (Meet_is ax b_y ax ay dx dy cx cy k px py pw HP12.out HP13.out HP14.out HP15.out _iax _ib_y _iax _iay _idx _idy _icx _icy  _).mono ?_
    rintro e U16 ⟨rfl, hn⟩
    replace k1 := k1.of hn
    replace k2 := k2.of hn
    replace k3 := k3.of hn
    replace k4 := k4.of hn
    replace k12 := k12.of hn
    replace k13 := k13.of hn
    replace k15 := k15.of hn
    replace k16 := k16.of hn
    replace hb0 := hb0.trans (hn.mono hb0.size)
    clear hn
    go_wp2_with fail
    refine hKL3.out _ _ ?_
    clear hKL3
    try clear KL3
    first | refine loop_world ?_
    intro V17 hV17
    clear k15
    have D72 := Lib.hid k1.lt
    have D73 := Lib.hid k2.lt
    have D74 := Lib.hid k3.lt
    have D75 := Lib.hid k4.lt
    have D76 := Lib.hid k12.lt
    have D77 := Lib.hid k13.lt
    have D78 := Lib.hid k16.lt
    have D79 := Lib.hid hb0.size
    have hn : Below U16.heap.size U16 V17 := by rw [hV17]; exact below_a1 _ _
    have nk1 := k1.of hn
    have nk2 := k2.of hn
    have nk3 := k3.of hn
    have nk4 := k4.of hn
    have nk12 := k12.of hn
    have nk13 := k13.of hn
    have nk16 := k16.of hn
    have nhb0 := hb0.trans (hn.mono hb0.size)
    clear hn
    have k17 : Blk V17 U16.heap.size #[.int .u64 (wd0 px), .int .u64 (wd1 px), .int .u64 (wd2 px), .int .u64 (wd3 px), .int .u64 (wd0 py), .int .u64 (wd1 py), .int .u64 (wd2 py), .int .u64 (wd3 py), .int .u64 (wd0 pw), .int .u64 (wd1 pw), .int .u64 (wd2 pw), .int .u64 (wd3 pw)] 67 := by rw [hV17]; exact (Blk.new _ _ _)
    clear k1 k2 k3 k4 k12 k13 k16
    clear hb0
    clear hV17
    have k1 := nk1
    clear nk1
    have k2 := nk2
    clear nk2
    have k3 := nk3
    clear nk3
    have k4 := nk4
    clear nk4
    have k12 := nk12
    clear nk12
    have k13 := nk13
    clear nk13
    have k16 := nk16
    clear nk16
    have hb0 := nhb0
    clear nhb0
    refine loopin_round ?_
    intro KL3 hKL3
    go_wp2_with fail
    refine hKL1.out _ _ ?_
    clear hKL3 hKL1
    try clear KL3
    try clear KL1
    refine loopin_round ?_
    intro KL1 hKL1
    have c1_0 : V17.cell? ⟨w.heap.size, 0, none⟩ = some (.int .i64 ax) := k1.cell 0
    have c1_1 : V17.cell? ⟨w.heap.size, 1, none⟩ = some (.int .i64 ay) := k1.cell 1
    have c1_2 : V17.cell? ⟨w.heap.size, 2, none⟩ = some (.int .i64 ax) := k1.cell 2
    have c1_3 : V17.cell? ⟨w.heap.size, 3, none⟩ = some (.int .i64 b_y) := k1.cell 3
    have l1 := k1.lt
    go_wp2_with fail
    clear c1_0 c1_1 c1_2 c1_3 l1
    refine (Meet_is ax ay ax b_y ax ay ax b_y 2 sx sy sw HP18.out HP19.out HP20.out HP21.out _iax _iay _iax _ib_y _iax _iay _iax _ib_y  _).mono ?_
    rintro e U18 ⟨rfl, hn⟩
    clear k2 k3 k4 k12 k13 k16 k17
    replace k1 := k1.of hn
    replace hb0 := hb0.trans (hn.mono hb0.size)
    clear hn
    have c1_0 : U18.cell? ⟨w.heap.size, 0, none⟩ = some (.int .i64 ax) := k1.cell 0
    have c1_1 : U18.cell? ⟨w.heap.size, 1, none⟩ = some (.int .i64 ay) := k1.cell 1
    have c1_2 : U18.cell? ⟨w.heap.size, 2, none⟩ = some (.int .i64 ax) := k1.cell 2
    have c1_3 : U18.cell? ⟨w.heap.size, 3, none⟩ = some (.int .i64 b_y) := k1.cell 3
    have l1 := k1.lt
    go_wp2_with fail
    clear c1_0 c1_1 c1_2 c1_3 l1
    first | refine calls_w ?_ | refine name_world ?_ | refine list_world ?_ | refine post_world ?_
    intro V19 hV19
    clear k1
    have D80 := Lib.hid hb0.size
    have hn : Below U18.heap.size U18 V19 := by rw [hV19]; exact below_a1 _ _
    have nhb0 := hb0.trans (hn.mono hb0.size)
    clear hn
    have k18 : Blk V19 U18.heap.size #[.int .u64 (wd0 sx), .int .u64 (wd1 sx), .int .u64 (wd2 sx), .int .u64 (wd3 sx), .int .u64 (wd0 sy), .int .u64 (wd1 sy), .int .u64 (wd2 sy), .int .u64 (wd3 sy), .int .u64 (wd0 sw), .int .u64 (wd1 sw), .int .u64 (wd2 sw), .int .u64 (wd3 sw)] 67 := by rw [hV19]; exact (Blk.new _ _ _)
    clear hb0
    clear hV19
    have hb0 := nhb0
    clear nhb0
    refine (cright_is ax ay ax b_y true HP17.out _iax _iay _iax _ib_y  _).mono ?_
    rintro e U20 ⟨rfl, hn⟩
    clear k18
    replace hb0 := hb0.trans (hn.mono hb0.size)
    clear hn
    go_wp2_with fail
    refine (cawake_any _).mono ?_
    rintro e U21 ⟨rfl, hn⟩
    replace hb0 := hb0.trans (hn.mono hb0.size)
    clear hn
    go_wp2
    first | go_ret | go_ret2
    exact ⟨by first | rfl | (simp; done) | (simp; assumption), hb0⟩
  · obtain rfl : k = 1 := by simpa using hz1
    clear hz1
    have c3_0 : U6.cell? ⟨U2.heap.size, 0, none⟩ = some (.int .u64 (wd0 px)) := k3.cell 0
    have c3_1 : U6.cell? ⟨U2.heap.size, 1, none⟩ = some (.int .u64 (wd1 px)) := k3.cell 1
    have c3_2 : U6.cell? ⟨U2.heap.size, 2, none⟩ = some (.int .u64 (wd2 px)) := k3.cell 2
    have c3_3 : U6.cell? ⟨U2.heap.size, 3, none⟩ = some (.int .u64 (wd3 px)) := k3.cell 3
    have c3_4 : U6.cell? ⟨U2.heap.size, 4, none⟩ = some (.int .u64 (wd0 py)) := k3.cell 4
    have c3_5 : U6.cell? ⟨U2.heap.size, 5, none⟩ = some (.int .u64 (wd1 py)) := k3.cell 5
    have c3_6 : U6.cell? ⟨U2.heap.size, 6, none⟩ = some (.int .u64 (wd2 py)) := k3.cell 6
    have c3_7 : U6.cell? ⟨U2.heap.size, 7, none⟩ = some (.int .u64 (wd3 py)) := k3.cell 7
    have c3_8 : U6.cell? ⟨U2.heap.size, 8, none⟩ = some (.int .u64 (wd0 pw)) := k3.cell 8
    have c3_9 : U6.cell? ⟨U2.heap.size, 9, none⟩ = some (.int .u64 (wd1 pw)) := k3.cell 9
    have c3_10 : U6.cell? ⟨U2.heap.size, 10, none⟩ = some (.int .u64 (wd2 pw)) := k3.cell 10
    have c3_11 : U6.cell? ⟨U2.heap.size, 11, none⟩ = some (.int .u64 (wd3 pw)) := k3.cell 11
    have l3 := k3.lt
    go_wp2_with fail
    clear c3_0 c3_1 c3_2 c3_3 c3_4 c3_5 c3_6 c3_7 c3_8 c3_9 c3_10 c3_11 l3
    first | refine calls_w ?_ | refine name_world ?_ | refine list_world ?_ | refine post_world ?_
    intro V22 hV22
    have D81 := Lib.hid k1.lt
    have D82 := Lib.hid k2.lt
    have D83 := Lib.hid k3.lt
    have D84 := Lib.hid k4.lt
    have D85 := Lib.hid k5.lt
    have D86 := Lib.hid k6.lt
    have D87 := Lib.hid k7.lt
    have D88 := Lib.hid hb0.size
    have hn : Below U6.heap.size U6 V22 := by rw [hV22]; exact below_a1 _ _
    have nk1 := k1.of hn
    have nk2 := k2.of hn
    have nk3 := k3.of hn
    have nk4 := k4.of hn
    have nk5 := k5.of hn
    have nk6 := k6.of hn
    have nk7 := k7.of hn
    have nhb0 := hb0.trans (hn.mono hb0.size)
    clear hn
    have k19 : Blk V22 U6.heap.size #[.int .u64 (wd0 px), .int .u64 (wd1 px), .int .u64 (wd2 px), .int .u64 (wd3 px), .int .u64 (wd0 py), .int .u64 (wd1 py), .int .u64 (wd2 py), .int .u64 (wd3 py), .int .u64 (wd0 pw), .int .u64 (wd1 pw), .int .u64 (wd2 pw), .int .u64 (wd3 pw)] 67 := by rw [hV22]; exact (Blk.new _ _ _)
    clear k1 k2 k3 k4 k5 k6 k7
    clear hb0
    clear hV22
    have k1 := nk1
    clear nk1
    have k2 := nk2
    clear nk2
    have k3 := nk3
    clear nk3
    have k4 := nk4
    clear nk4
    have k5 := nk5
    clear nk5
    have k6 := nk6
    clear nk6
    have k7 := nk7
    clear nk7
    have hb0 := nhb0
    clear nhb0
    refine (SpCmp_is px py pw px py pw 0 HP16.out _ipx _ipy _ipw _ipx _ipy _ipw  _).mono ?_
    rintro e U23 ⟨rfl, hn⟩
    replace k1 := k1.of hn
    replace k2 := k2.of hn
    replace k3 := k3.of hn
    replace k4 := k4.of hn
    replace k5 := k5.of hn
    replace k6 := k6.of hn
    replace k7 := k7.of hn
    replace k19 := k19.of hn
    replace hb0 := hb0.trans (hn.mono hb0.size)
    clear hn
    go_wp2_with fail
    refine hKL2.out _ _ ?_
    clear hKL2
    try clear KL2
    refine loopin_round ?_
    intro KL2 hKL2
    have c5_0 : U23.cell? ⟨V3.heap.size, 0, none⟩ = some (.int .i64 ax) := k5.cell 0
    have c5_1 : U23.cell? ⟨V3.heap.size, 1, none⟩ = some (.int .i64 ay) := k5.cell 1
    have c5_2 : U23.cell? ⟨V3.heap.size, 2, none⟩ = some (.int .i64 ax) := k5.cell 2
    have c5_3 : U23.cell? ⟨V3.heap.size, 3, none⟩ = some (.int .i64 b_y) := k5.cell 3
    have l5 := k5.lt
    have c6_4 : U23.cell? ⟨(V3.heap.size + 1), 4, none⟩ = some (.int .i64 dx) := k6.cell 4
    have c6_5 : U23.cell? ⟨(V3.heap.size + 1), 5, none⟩ = some (.int .i64 dy) := k6.cell 5
    have c6_6 : U23.cell? ⟨(V3.heap.size + 1), 6, none⟩ = some (.int .i64 cx) := k6.cell 6
    have c6_7 : U23.cell? ⟨(V3.heap.size + 1), 7, none⟩ = some (.int .i64 cy) := k6.cell 7
    have l6 := k6.lt
    have l6_0 : V3.heap.size < U23.heap.size := by have := k6.lt; omega
    go_wp2_with fail
    clear c5_0 c5_1 c5_2 c5_3 l5 c6_4 c6_5 c6_6 c6_7 l6 l6_0
    first | refine calls_w ?_ | refine name_world ?_ | refine list_world ?_ | refine post_world ?_
    intro V24 hV24
    clear k7
    have D89 := Lib.hid k1.lt
    have D90 := Lib.hid k2.lt
    have D91 := Lib.hid k3.lt
    have D92 := Lib.hid k4.lt
    have D93 := Lib.hid k5.lt
    have D94 := Lib.hid k6.lt
    have D95 := Lib.hid k19.lt
    have D96 := Lib.hid hb0.size
    have hn : Below U23.heap.size U23 V24 := by rw [hV24]; exact below_a1 _ _
    have nk1 := k1.of hn
    have nk2 := k2.of hn
    have nk3 := k3.of hn
    have nk4 := k4.of hn
    have nk5 := k5.of hn
    have nk6 := k6.of hn
    have nk19 := k19.of hn
    have nhb0 := hb0.trans (hn.mono hb0.size)
    clear hn
    have k20 : Blk V24 U23.heap.size #[.int .i64 dx, .int .i64 dy, .int .i64 cx, .int .i64 cy] 50 := by rw [hV24]; exact (Blk.new _ _ _)
    clear k1 k2 k3 k4 k5 k6 k19
    clear hb0
    clear hV24
    have k1 := nk1
    clear nk1
    have k2 := nk2
    clear nk2
    have k3 := nk3
    clear nk3
    have k4 := nk4
    clear nk4
    have k5 := nk5
    clear nk5
    have k6 := nk6
    clear nk6
    have k19 := nk19
    clear nk19
    have hb0 := nhb0
    clear nhb0
    refine (Meet_is ax ay ax b_y dx dy cx cy 1 px py pw HP4.out HP5.out HP6.out HP7.out _iax _iay _iax _ib_y _idx _idy _icx _icy  _).mono ?_
    rintro e U25 ⟨rfl, hn⟩
    replace k1 := k1.of hn
    replace k2 := k2.of hn
    replace k3 := k3.of hn
    replace k4 := k4.of hn
    replace k5 := k5.of hn
    replace k6 := k6.of hn
    replace k19 := k19.of hn
    replace k20 := k20.of hn
    replace hb0 := hb0.trans (hn.mono hb0.size)
    clear hn
    have c3_0 : U25.cell? ⟨U2.heap.size, 0, none⟩ = some (.int .u64 (wd0 px)) := k3.cell 0
    have c3_1 : U25.cell? ⟨U2.heap.size, 1, none⟩ = some (.int .u64 (wd1 px)) := k3.cell 1
    have c3_2 : U25.cell? ⟨U2.heap.size, 2, none⟩ = some (.int .u64 (wd2 px)) := k3.cell 2
    have c3_3 : U25.cell? ⟨U2.heap.size, 3, none⟩ = some (.int .u64 (wd3 px)) := k3.cell 3
    have c3_4 : U25.cell? ⟨U2.heap.size, 4, none⟩ = some (.int .u64 (wd0 py)) := k3.cell 4
    have c3_5 : U25.cell? ⟨U2.heap.size, 5, none⟩ = some (.int .u64 (wd1 py)) := k3.cell 5
    have c3_6 : U25.cell? ⟨U2.heap.size, 6, none⟩ = some (.int .u64 (wd2 py)) := k3.cell 6
    have c3_7 : U25.cell? ⟨U2.heap.size, 7, none⟩ = some (.int .u64 (wd3 py)) := k3.cell 7
    have c3_8 : U25.cell? ⟨U2.heap.size, 8, none⟩ = some (.int .u64 (wd0 pw)) := k3.cell 8
    have c3_9 : U25.cell? ⟨U2.heap.size, 9, none⟩ = some (.int .u64 (wd1 pw)) := k3.cell 9
    have c3_10 : U25.cell? ⟨U2.heap.size, 10, none⟩ = some (.int .u64 (wd2 pw)) := k3.cell 10
    have c3_11 : U25.cell? ⟨U2.heap.size, 11, none⟩ = some (.int .u64 (wd3 pw)) := k3.cell 11
    have l3 := k3.lt
    go_wp2_with fail
    clear c3_0 c3_1 c3_2 c3_3 c3_4 c3_5 c3_6 c3_7 c3_8 c3_9 c3_10 c3_11 l3
    first | refine calls_w ?_ | refine name_world ?_ | refine list_world ?_ | refine post_world ?_
    intro V26 hV26
    clear k19
    have D97 := Lib.hid k1.lt
    have D98 := Lib.hid k2.lt
    have D99 := Lib.hid k3.lt
    have D100 := Lib.hid k4.lt
    have D101 := Lib.hid k5.lt
    have D102 := Lib.hid k6.lt
    have D103 := Lib.hid k20.lt
    have D104 := Lib.hid hb0.size
    have hn : Below U25.heap.size U25 V26 := by rw [hV26]; exact below_a1 _ _
    have nk1 := k1.of hn
    have nk2 := k2.of hn
    have nk3 := k3.of hn
    have nk4 := k4.of hn
    have nk5 := k5.of hn
    have nk6 := k6.of hn
    have nk20 := k20.of hn
    have nhb0 := hb0.trans (hn.mono hb0.size)
    clear hn
    have k21 : Blk V26 U25.heap.size #[.int .u64 (wd0 px), .int .u64 (wd1 px), .int .u64 (wd2 px), .int .u64 (wd3 px), .int .u64 (wd0 py), .int .u64 (wd1 py), .int .u64 (wd2 py), .int .u64 (wd3 py), .int .u64 (wd0 pw), .int .u64 (wd1 pw), .int .u64 (wd2 pw), .int .u64 (wd3 pw)] 67 := by rw [hV26]; exact (Blk.new _ _ _)
    clear k1 k2 k3 k4 k5 k6 k20
    clear hb0
    clear hV26
    have k1 := nk1
    clear nk1
    have k2 := nk2
    clear nk2
    have k3 := nk3
    clear nk3
    have k4 := nk4
    clear nk4
    have k5 := nk5
    clear nk5
    have k6 := nk6
    clear nk6
    have k20 := nk20
    clear nk20
    have hb0 := nhb0
    clear nhb0
    refine (SpCmp_is px py pw px py pw 0 HP16.out _ipx _ipy _ipw _ipx _ipy _ipw  _).mono ?_
    rintro e U27 ⟨rfl, hn⟩
    replace k1 := k1.of hn
    replace k2 := k2.of hn
    replace k3 := k3.of hn
    replace k4 := k4.of hn
    replace k5 := k5.of hn
    replace k6 := k6.of hn
    replace k20 := k20.of hn
    replace k21 := k21.of hn
    replace hb0 := hb0.trans (hn.mono hb0.size)
    clear hn
    go_wp2_with fail
    refine hKL2.out _ _ ?_
    clear hKL2
    try clear KL2
    refine loopin_round ?_
    intro KL2 hKL2
    go_wp2_with fail
    refine hKL1.out _ _ ?_
    clear hKL2 hKL1
    try clear KL2
    try clear KL1
    refine loopin_round ?_
    intro KL1 hKL1
    have c2_0 : U27.cell? ⟨(w.heap.size + 1), 0, none⟩ = some (.int .i64 cx) := k2.cell 0
    have c2_1 : U27.cell? ⟨(w.heap.size + 1), 1, none⟩ = some (.int .i64 cy) := k2.cell 1
    have c2_2 : U27.cell? ⟨(w.heap.size + 1), 2, none⟩ = some (.int .i64 dx) := k2.cell 2
    have c2_3 : U27.cell? ⟨(w.heap.size + 1), 3, none⟩ = some (.int .i64 dy) := k2.cell 3
    have l2 := k2.lt
    have l2_0 : w.heap.size < U27.heap.size := by have := k2.lt; omega
    have c4_4 : U27.cell? ⟨(U2.heap.size + 1), 4, none⟩ = some (.int .i64 ax) := k4.cell 4
    have c4_5 : U27.cell? ⟨(U2.heap.size + 1), 5, none⟩ = some (.int .i64 b_y) := k4.cell 5
    have c4_6 : U27.cell? ⟨(U2.heap.size + 1), 6, none⟩ = some (.int .i64 ax) := k4.cell 6
    have c4_7 : U27.cell? ⟨(U2.heap.size + 1), 7, none⟩ = some (.int .i64 ay) := k4.cell 7
    have l4 := k4.lt
    have l4_0 : U2.heap.size < U27.heap.size := by have := k4.lt; omega
    go_wp2_with fail
    clear c2_0 c2_1 c2_2 c2_3 l2 l2_0 c4_4 c4_5 c4_6 c4_7 l4 l4_0
    refine wp_loop_in ?_
    first | refine loop_world ?_
    intro V28 hV28
    clear k5
    have D105 := Lib.hid k1.lt
    have D106 := Lib.hid k2.lt
    have D107 := Lib.hid k3.lt
    have D108 := Lib.hid k4.lt
    have D109 := Lib.hid k6.lt
    have D110 := Lib.hid k20.lt
    have D111 := Lib.hid k21.lt
    have D112 := Lib.hid hb0.size
    have hn : Below U27.heap.size U27 V28 := by rw [hV28]; exact below_a2 _ _ _
    have nk1 := k1.of hn
    have nk2 := k2.of hn
    have nk3 := k3.of hn
    have nk4 := k4.of hn
    have nk6 := k6.of hn
    have nk20 := k20.of hn
    have nk21 := k21.of hn
    have nhb0 := hb0.trans (hn.mono hb0.size)
    clear hn
    have k22 : Blk V28 U27.heap.size #[.int .i64 ax, .int .i64 b_y, .int .i64 ax, .int .i64 ay] 50 := by rw [hV28]; exact ((Blk.new _ _ _).alloc _)
    have k23 : Blk V28 (U27.heap.size + 1) #[.int .i64 cx, .int .i64 cy, .int .i64 dx, .int .i64 dy, .int .i64 dx, .int .i64 dy, .int .i64 cx, .int .i64 cy] 50 := by rw [hV28]; exact (Blk.new1 _ _ _ _)
    clear k1 k2 k3 k4 k6 k20 k21
    clear hb0
    clear hV28
    have k1 := nk1
    clear nk1
    have k2 := nk2
    clear nk2
    have k3 := nk3
    clear nk3
    have k4 := nk4
    clear nk4
    have k6 := nk6
    clear nk6
    have k20 := nk20
    clear nk20
    have k21 := nk21
    clear nk21
    have hb0 := nhb0
    clear nhb0
    refine loopin_round ?_
    intro KL4 hKL4
    have c22_0 : V28.cell? ⟨U27.heap.size, 0, none⟩ = some (.int .i64 ax) := k22.cell 0
    have c22_1 : V28.cell? ⟨U27.heap.size, 1, none⟩ = some (.int .i64 b_y) := k22.cell 1
    have c22_2 : V28.cell? ⟨U27.heap.size, 2, none⟩ = some (.int .i64 ax) := k22.cell 2
    have c22_3 : V28.cell? ⟨U27.heap.size, 3, none⟩ = some (.int .i64 ay) := k22.cell 3
    have l22 := k22.lt
    have c23_0 : V28.cell? ⟨(U27.heap.size + 1), 0, none⟩ = some (.int .i64 cx) := k23.cell 0
    have c23_1 : V28.cell? ⟨(U27.heap.size + 1), 1, none⟩ = some (.int .i64 cy) := k23.cell 1
    have c23_2 : V28.cell? ⟨(U27.heap.size + 1), 2, none⟩ = some (.int .i64 dx) := k23.cell 2
    have c23_3 : V28.cell? ⟨(U27.heap.size + 1), 3, none⟩ = some (.int .i64 dy) := k23.cell 3
    have l23 := k23.lt
    have l23_0 : U27.heap.size < V28.heap.size := by have := k23.lt; omega
    go_wp2_with fail
    clear c22_0 c22_1 c22_2 c22_3 l22 c23_0 c23_1 c23_2 c23_3 l23 l23_0
    first | refine calls_w ?_ | refine name_world ?_ | refine list_world ?_ | refine post_world ?_
    intro V29 hV29
    clear k6 k20
    have D113 := Lib.hid k1.lt
    have D114 := Lib.hid k2.lt
    have D115 := Lib.hid k3.lt
    have D116 := Lib.hid k4.lt
    have D117 := Lib.hid k21.lt
    have D118 := Lib.hid k22.lt
    have D119 := Lib.hid k23.lt
    have D120 := Lib.hid hb0.size
    have hn : Below V28.heap.size V28 V29 := by rw [hV29]; exact below_a1 _ _
    have nk1 := k1.of hn
    have nk2 := k2.of hn
    have nk3 := k3.of hn
    have nk4 := k4.of hn
    have nk21 := k21.of hn
    have nk22 := k22.of hn
    have nk23 := k23.of hn
    have nhb0 := hb0.trans (hn.mono hb0.size)
    clear hn
    have k24 : Blk V29 V28.heap.size #[.int .i64 cx, .int .i64 cy, .int .i64 dx, .int .i64 dy] 50 := by rw [hV29]; exact (Blk.new _ _ _)
    clear k1 k2 k3 k4 k21 k22 k23
    clear hb0
    clear hV29
    have k1 := nk1
    clear nk1
    have k2 := nk2
    clear nk2
    have k3 := nk3
    clear nk3
    have k4 := nk4
    clear nk4
    have k21 := nk21
    clear nk21
    have k22 := nk22
    clear nk22
    have k23 := nk23
    clear nk23
    have hb0 := nhb0
    clear nhb0
    refine (Meet_is ax b_y ax ay cx cy dx dy 1 px py pw HP8.out HP9.out HP10.out HP11.out _iax _ib_y _iax _iay _icx _icy _idx _idy  _).mono ?_
    rintro e U30 ⟨rfl, hn⟩
    replace k1 := k1.of hn
    replace k2 := k2.of hn
    replace k3 := k3.of hn
    replace k4 := k4.of hn
    replace k21 := k21.of hn
    replace k22 := k22.of hn
    replace k23 := k23.of hn
    replace k24 := k24.of hn
    replace hb0 := hb0.trans (hn.mono hb0.size)
    clear hn
    have c3_0 : U30.cell? ⟨U2.heap.size, 0, none⟩ = some (.int .u64 (wd0 px)) := k3.cell 0
    have c3_1 : U30.cell? ⟨U2.heap.size, 1, none⟩ = some (.int .u64 (wd1 px)) := k3.cell 1
    have c3_2 : U30.cell? ⟨U2.heap.size, 2, none⟩ = some (.int .u64 (wd2 px)) := k3.cell 2
    have c3_3 : U30.cell? ⟨U2.heap.size, 3, none⟩ = some (.int .u64 (wd3 px)) := k3.cell 3
    have c3_4 : U30.cell? ⟨U2.heap.size, 4, none⟩ = some (.int .u64 (wd0 py)) := k3.cell 4
    have c3_5 : U30.cell? ⟨U2.heap.size, 5, none⟩ = some (.int .u64 (wd1 py)) := k3.cell 5
    have c3_6 : U30.cell? ⟨U2.heap.size, 6, none⟩ = some (.int .u64 (wd2 py)) := k3.cell 6
    have c3_7 : U30.cell? ⟨U2.heap.size, 7, none⟩ = some (.int .u64 (wd3 py)) := k3.cell 7
    have c3_8 : U30.cell? ⟨U2.heap.size, 8, none⟩ = some (.int .u64 (wd0 pw)) := k3.cell 8
    have c3_9 : U30.cell? ⟨U2.heap.size, 9, none⟩ = some (.int .u64 (wd1 pw)) := k3.cell 9
    have c3_10 : U30.cell? ⟨U2.heap.size, 10, none⟩ = some (.int .u64 (wd2 pw)) := k3.cell 10
    have c3_11 : U30.cell? ⟨U2.heap.size, 11, none⟩ = some (.int .u64 (wd3 pw)) := k3.cell 11
    have l3 := k3.lt
    go_wp2_with fail
    clear c3_0 c3_1 c3_2 c3_3 c3_4 c3_5 c3_6 c3_7 c3_8 c3_9 c3_10 c3_11 l3
    first | refine calls_w ?_ | refine name_world ?_ | refine list_world ?_ | refine post_world ?_
    intro V31 hV31
    clear k21
    have D121 := Lib.hid k1.lt
    have D122 := Lib.hid k2.lt
    have D123 := Lib.hid k3.lt
    have D124 := Lib.hid k4.lt
    have D125 := Lib.hid k22.lt
    have D126 := Lib.hid k23.lt
    have D127 := Lib.hid k24.lt
    have D128 := Lib.hid hb0.size
    have hn : Below U30.heap.size U30 V31 := by rw [hV31]; exact below_a1 _ _
    have nk1 := k1.of hn
    have nk2 := k2.of hn
    have nk3 := k3.of hn
    have nk4 := k4.of hn
    have nk22 := k22.of hn
    have nk23 := k23.of hn
    have nk24 := k24.of hn
    have nhb0 := hb0.trans (hn.mono hb0.size)
    clear hn
    have k25 : Blk V31 U30.heap.size #[.int .u64 (wd0 px), .int .u64 (wd1 px), .int .u64 (wd2 px), .int .u64 (wd3 px), .int .u64 (wd0 py), .int .u64 (wd1 py), .int .u64 (wd2 py), .int .u64 (wd3 py), .int .u64 (wd0 pw), .int .u64 (wd1 pw), .int .u64 (wd2 pw), .int .u64 (wd3 pw)] 67 := by rw [hV31]; exact (Blk.new _ _ _)
    clear k1 k2 k3 k4 k22 k23 k24
    clear hb0
    clear hV31
    have k1 := nk1
    clear nk1
    have k2 := nk2
    clear nk2
    have k3 := nk3
    clear nk3
    have k4 := nk4
    clear nk4
    have k22 := nk22
    clear nk22
    have k23 := nk23
    clear nk23
    have k24 := nk24
    clear nk24
    have hb0 := nhb0
    clear nhb0
    refine (SpCmp_is px py pw px py pw 0 HP16.out _ipx _ipy _ipw _ipx _ipy _ipw  _).mono ?_
    rintro e U32 ⟨rfl, hn⟩
    replace k1 := k1.of hn
    replace k2 := k2.of hn
    replace k3 := k3.of hn
    replace k4 := k4.of hn
    replace k22 := k22.of hn
    replace k23 := k23.of hn
    replace k24 := k24.of hn
    replace k25 := k25.of hn
    replace hb0 := hb0.trans (hn.mono hb0.size)
    clear hn
    go_wp2_with fail
    refine hKL4.out _ _ ?_
    clear hKL4
    try clear KL4
    refine loopin_round ?_
    intro KL4 hKL4
    have c22_0 : U32.cell? ⟨U27.heap.size, 0, none⟩ = some (.int .i64 ax) := k22.cell 0
    have c22_1 : U32.cell? ⟨U27.heap.size, 1, none⟩ = some (.int .i64 b_y) := k22.cell 1
    have c22_2 : U32.cell? ⟨U27.heap.size, 2, none⟩ = some (.int .i64 ax) := k22.cell 2
    have c22_3 : U32.cell? ⟨U27.heap.size, 3, none⟩ = some (.int .i64 ay) := k22.cell 3
    have l22 := k22.lt
    have c23_4 : U32.cell? ⟨(U27.heap.size + 1), 4, none⟩ = some (.int .i64 dx) := k23.cell 4
    have c23_5 : U32.cell? ⟨(U27.heap.size + 1), 5, none⟩ = some (.int .i64 dy) := k23.cell 5
    have c23_6 : U32.cell? ⟨(U27.heap.size + 1), 6, none⟩ = some (.int .i64 cx) := k23.cell 6
    have c23_7 : U32.cell? ⟨(U27.heap.size + 1), 7, none⟩ = some (.int .i64 cy) := k23.cell 7
    have l23 := k23.lt
    have l23_0 : U27.heap.size < U32.heap.size := by have := k23.lt; omega
    go_wp2_with fail
    clear c22_0 c22_1 c22_2 c22_3 l22 c23_4 c23_5 c23_6 c23_7 l23 l23_0
    first | refine calls_w ?_ | refine name_world ?_ | refine list_world ?_ | refine post_world ?_
    intro V33 hV33
    clear k24
    have D129 := Lib.hid k1.lt
    have D130 := Lib.hid k2.lt
    have D131 := Lib.hid k3.lt
    have D132 := Lib.hid k4.lt
    have D133 := Lib.hid k22.lt
    have D134 := Lib.hid k23.lt
    have D135 := Lib.hid k25.lt
    have D136 := Lib.hid hb0.size
    have hn : Below U32.heap.size U32 V33 := by rw [hV33]; exact below_a1 _ _
    have nk1 := k1.of hn
    have nk2 := k2.of hn
    have nk3 := k3.of hn
    have nk4 := k4.of hn
    have nk22 := k22.of hn
    have nk23 := k23.of hn
    have nk25 := k25.of hn
    have nhb0 := hb0.trans (hn.mono hb0.size)
    clear hn
    have k26 : Blk V33 U32.heap.size #[.int .i64 dx, .int .i64 dy, .int .i64 cx, .int .i64 cy] 50 := by rw [hV33]; exact (Blk.new _ _ _)
    clear k1 k2 k3 k4 k22 k23 k25
    clear hb0
    clear hV33
    have k1 := nk1
    clear nk1
    have k2 := nk2
    clear nk2
    have k3 := nk3
    clear nk3
    have k4 := nk4
    clear nk4
    have k22 := nk22
    clear nk22
    have k23 := nk23
    clear nk23
    have k25 := nk25
    clear nk25
    have hb0 := nhb0
    clear nhb0
    refine (Meet_is ax b_y ax ay dx dy cx cy 1 px py pw HP12.out HP13.out HP14.out HP15.out _iax _ib_y _iax _iay _idx _idy _icx _icy  _).mono ?_
    rintro e U34 ⟨rfl, hn⟩
    replace k1 := k1.of hn
    replace k2 := k2.of hn
    replace k3 := k3.of hn
    replace k4 := k4.of hn
    replace k22 := k22.of hn
    replace k23 := k23.of hn
    replace k25 := k25.of hn
    replace k26 := k26.of hn
    replace hb0 := hb0.trans (hn.mono hb0.size)
    clear hn
    have c3_0 : U34.cell? ⟨U2.heap.size, 0, none⟩ = some (.int .u64 (wd0 px)) := k3.cell 0
    have c3_1 : U34.cell? ⟨U2.heap.size, 1, none⟩ = some (.int .u64 (wd1 px)) := k3.cell 1
    have c3_2 : U34.cell? ⟨U2.heap.size, 2, none⟩ = some (.int .u64 (wd2 px)) := k3.cell 2
    have c3_3 : U34.cell? ⟨U2.heap.size, 3, none⟩ = some (.int .u64 (wd3 px)) := k3.cell 3
    have c3_4 : U34.cell? ⟨U2.heap.size, 4, none⟩ = some (.int .u64 (wd0 py)) := k3.cell 4
    have c3_5 : U34.cell? ⟨U2.heap.size, 5, none⟩ = some (.int .u64 (wd1 py)) := k3.cell 5
    have c3_6 : U34.cell? ⟨U2.heap.size, 6, none⟩ = some (.int .u64 (wd2 py)) := k3.cell 6
    have c3_7 : U34.cell? ⟨U2.heap.size, 7, none⟩ = some (.int .u64 (wd3 py)) := k3.cell 7
    have c3_8 : U34.cell? ⟨U2.heap.size, 8, none⟩ = some (.int .u64 (wd0 pw)) := k3.cell 8
    have c3_9 : U34.cell? ⟨U2.heap.size, 9, none⟩ = some (.int .u64 (wd1 pw)) := k3.cell 9
    have c3_10 : U34.cell? ⟨U2.heap.size, 10, none⟩ = some (.int .u64 (wd2 pw)) := k3.cell 10
    have c3_11 : U34.cell? ⟨U2.heap.size, 11, none⟩ = some (.int .u64 (wd3 pw)) := k3.cell 11
    have l3 := k3.lt
    go_wp2_with fail
    clear c3_0 c3_1 c3_2 c3_3 c3_4 c3_5 c3_6 c3_7 c3_8 c3_9 c3_10 c3_11 l3
    first | refine calls_w ?_ | refine name_world ?_ | refine list_world ?_ | refine post_world ?_
    intro V35 hV35
    clear k25
    have D137 := Lib.hid k1.lt
    have D138 := Lib.hid k2.lt
    have D139 := Lib.hid k3.lt
    have D140 := Lib.hid k4.lt
    have D141 := Lib.hid k22.lt
    have D142 := Lib.hid k23.lt
    have D143 := Lib.hid k26.lt
    have D144 := Lib.hid hb0.size
    have hn : Below U34.heap.size U34 V35 := by rw [hV35]; exact below_a1 _ _
    have nk1 := k1.of hn
    have nk2 := k2.of hn
    have nk3 := k3.of hn
    have nk4 := k4.of hn
    have nk22 := k22.of hn
    have nk23 := k23.of hn
    have nk26 := k26.of hn
    have nhb0 := hb0.trans (hn.mono hb0.size)
    clear hn
    have k27 : Blk V35 U34.heap.size #[.int .u64 (wd0 px), .int .u64 (wd1 px), .int .u64 (wd2 px), .int .u64 (wd3 px), .int .u64 (wd0 py), .int .u64 (wd1 py), .int .u64 (wd2 py), .int .u64 (wd3 py), .int .u64 (wd0 pw), .int .u64 (wd1 pw), .int .u64 (wd2 pw), .int .u64 (wd3 pw)] 67 := by rw [hV35]; exact (Blk.new _ _ _)
    clear k1 k2 k3 k4 k22 k23 k26
    clear hb0
    clear hV35
    have k1 := nk1
    clear nk1
    have k2 := nk2
    clear nk2
    have k3 := nk3
    clear nk3
    have k4 := nk4
    clear nk4
    have k22 := nk22
    clear nk22
    have k23 := nk23
    clear nk23
    have k26 := nk26
    clear nk26
    have hb0 := nhb0
    clear nhb0
    refine (SpCmp_is px py pw px py pw 0 HP16.out _ipx _ipy _ipw _ipx _ipy _ipw  _).mono ?_
    rintro e U36 ⟨rfl, hn⟩
    replace k1 := k1.of hn
    replace k2 := k2.of hn
    replace k3 := k3.of hn
    replace k4 := k4.of hn
    replace k22 := k22.of hn
    replace k23 := k23.of hn
    replace k26 := k26.of hn
    replace k27 := k27.of hn
    replace hb0 := hb0.trans (hn.mono hb0.size)
    clear hn
    go_wp2_with fail
    refine hKL4.out _ _ ?_
    clear hKL4
    try clear KL4
    refine loopin_round ?_
    intro KL4 hKL4
    go_wp2_with fail
    refine hKL1.out _ _ ?_
    clear hKL4 hKL1
    try clear KL4
    try clear KL1
    refine loopin_round ?_
    intro KL1 hKL1
    have c1_0 : U36.cell? ⟨w.heap.size, 0, none⟩ = some (.int .i64 ax) := k1.cell 0
    have c1_1 : U36.cell? ⟨w.heap.size, 1, none⟩ = some (.int .i64 ay) := k1.cell 1
    have c1_2 : U36.cell? ⟨w.heap.size, 2, none⟩ = some (.int .i64 ax) := k1.cell 2
    have c1_3 : U36.cell? ⟨w.heap.size, 3, none⟩ = some (.int .i64 b_y) := k1.cell 3
    have l1 := k1.lt
    go_wp2_with fail
    clear c1_0 c1_1 c1_2 c1_3 l1
    refine (Meet_is ax ay ax b_y ax ay ax b_y 2 sx sy sw HP18.out HP19.out HP20.out HP21.out _iax _iay _iax _ib_y _iax _iay _iax _ib_y  _).mono ?_
    rintro e U37 ⟨rfl, hn⟩
    clear k2 k3 k4 k22 k23 k26 k27
    replace k1 := k1.of hn
    replace hb0 := hb0.trans (hn.mono hb0.size)
    clear hn
    have c1_0 : U37.cell? ⟨w.heap.size, 0, none⟩ = some (.int .i64 ax) := k1.cell 0
    have c1_1 : U37.cell? ⟨w.heap.size, 1, none⟩ = some (.int .i64 ay) := k1.cell 1
    have c1_2 : U37.cell? ⟨w.heap.size, 2, none⟩ = some (.int .i64 ax) := k1.cell 2
    have c1_3 : U37.cell? ⟨w.heap.size, 3, none⟩ = some (.int .i64 b_y) := k1.cell 3
    have l1 := k1.lt
    go_wp2_with fail
    clear c1_0 c1_1 c1_2 c1_3 l1
    first | refine calls_w ?_ | refine name_world ?_ | refine list_world ?_ | refine post_world ?_
    intro V38 hV38
    clear k1
    have D145 := Lib.hid hb0.size
    have hn : Below U37.heap.size U37 V38 := by rw [hV38]; exact below_a1 _ _
    have nhb0 := hb0.trans (hn.mono hb0.size)
    clear hn
    have k28 : Blk V38 U37.heap.size #[.int .u64 (wd0 sx), .int .u64 (wd1 sx), .int .u64 (wd2 sx), .int .u64 (wd3 sx), .int .u64 (wd0 sy), .int .u64 (wd1 sy), .int .u64 (wd2 sy), .int .u64 (wd3 sy), .int .u64 (wd0 sw), .int .u64 (wd1 sw), .int .u64 (wd2 sw), .int .u64 (wd3 sw)] 67 := by rw [hV38]; exact (Blk.new _ _ _)
    clear hb0
    clear hV38
    have hb0 := nhb0
    clear nhb0
    refine (cright_is ax ay ax b_y true HP17.out _iax _iay _iax _ib_y  _).mono ?_
    rintro e U39 ⟨rfl, hn⟩
    clear k28
    replace hb0 := hb0.trans (hn.mono hb0.size)
    clear hn
    go_wp2_with fail
    refine (cawake_any _).mono ?_
    rintro e U40 ⟨rfl, hn⟩
    replace hb0 := hb0.trans (hn.mono hb0.size)
    clear hn
    go_wp2
    first | go_ret | go_ret2
    exact ⟨by first | rfl | (simp; done) | (simp; assumption), hb0⟩
end Go.Proofs.Ytlcbomjdbdgbmaa

namespace Go.Proofs.Ytlcbomjdbdgbmaa
open Go.RowKit

theorem sg_true {ax ay bx b_y : Int} (h : sgR ax ay bx b_y = true) : rp ax ay = true ∧ rp bx b_y = true := by
  unfold sgR at h
  cases h1 : rp ax ay
  · rw [h1] at h; cases h
  · rw [h1] at h; exact ⟨rfl, h⟩
theorem co_wrap {x y : Int} (hx : Co x) (hy : Co y) : wrap64 (x - y) = x - y := wrap64_id (by unfold Co at hx hy; unfold In64; omega)
theorem mul_64 {a b : Int} (ha : In64 a) (hb : In64 b) : -85070591730234615865843651857942052864 ≤ a * b ∧ a * b ≤ 85070591730234615865843651857942052864 :=
  mul_bd (a := 9223372036854775808) (b := 9223372036854775808) (by decide) (by unfold In64 at ha; omega) (by unfold In64 at hb; omega)
theorem mulv_64 {a b : Int} (ha : In64 a) (hb : In64 b) : mulv a b = a * b := mulv_id (by have := mul_64 ha hb; unfold InI b255; omega)
theorem subv_64 {a b c d : Int} (ha : In64 a) (hb : In64 b) (hc : In64 c) (hd : In64 d) : subv (a * b) (c * d) = a * b - c * d := subv_id (by
  have h1 := mul_64 ha hb
  have h2 := mul_64 hc hd
  generalize a * b = p at *
  generalize c * d = q at *
  unfold InI b255; omega)
theorem wyx_64 (ax ay bx b_y : Int) : In64 (wyx ax ay bx b_y) := wrap64_in _
theorem wyy_64 (ax ay bx b_y : Int) : In64 (wyy ax ay bx b_y) := wrap64_in _
theorem slp_eq {ax ay bx b_y cx cy dx dy : Int} (h1 : sgR ax ay bx b_y = true) (h2 : sgR cx cy dx dy = true) :
    slp ax ay bx b_y cx cy dx dy = (wyx cx cy dx dy * wyy ax ay bx b_y - wyy cx cy dx dy * wyx ax ay bx b_y).sign := by
  unfold slp
  rw [h1, h2, cond_true, cond_true, mulv_64 (wyx_64 _ _ _ _) (wyy_64 _ _ _ _), mulv_64 (wyy_64 _ _ _ _) (wyx_64 _ _ _ _), subv_64 (wyx_64 _ _ _ _) (wyy_64 _ _ _ _) (wyy_64 _ _ _ _) (wyx_64 _ _ _ _)]
/-- the spots that are right, in numbers -/
theorem sp_most {v : Int} (h0 : 0 < v) (h1 : v ≤ 1237940039285380274899124224) : mulv v 2199023255552 = 2199023255552 * v ∧ subv 0 (2199023255552 * v) = -(2199023255552 * v) := by
  refine ⟨?_, ?_⟩
  · rw [mulv_id (by unfold InI b255; omega)]; omega
  · rw [subv_id (by unfold InI b255; omega)]; omega
theorem most90 : mulv 35184372088832 35184372088832 = 1237940039285380274899124224 := by decide
theorem spR_eq (x y v : Int) : spR x y v = rspR x y v := by
  unfold spR rspR
  rw [most90]
  by_cases h0 : v.sign ≤ 0
  · rw [decide_eq_true h0]; rfl
  · rw [decide_eq_false h0]
    by_cases h1 : 0 < cmpI v 1237940039285380274899124224
    · rw [decide_eq_true h1]; rfl
    · rw [decide_eq_false h1]
      have p0 : 0 < v := by
        rcases Int.lt_trichotomy v 0 with h | h | h
        · exact absurd (by rw [Int.sign_eq_neg_one_of_neg h]; decide) h0
        · exact absurd (by rw [h]; decide) h0
        · exact h
      have p1 : v ≤ 1237940039285380274899124224 := by
        rcases Int.lt_trichotomy v 1237940039285380274899124224 with h | h | h
        · omega
        · omega
        · exact absurd (by rw [cmpI_gt h]; decide) h1
      obtain ⟨e1, e2⟩ := sp_most p0 p1
      rw [e1, e2]
theorem cmp_le0 {a b : Int} : decide (cmpI a b ≤ 0) = decide (a ≤ b) := by
  rcases Int.lt_trichotomy a b with h | h | h
  · rw [cmpI_lt h, decide_eq_true (show a ≤ b by omega)]; rfl
  · subst h; rw [cmpI_eq, decide_eq_true (Int.le_refl a)]; rfl
  · rw [cmpI_gt h, decide_eq_false (show ¬ a ≤ b by omega)]; rfl
theorem cmp_ge0 {a b : Int} : decide (0 ≤ cmpI a b) = decide (b ≤ a) := by
  rcases Int.lt_trichotomy a b with h | h | h
  · rw [cmpI_lt h, decide_eq_false (show ¬ b ≤ a by omega)]; rfl
  · subst h; rw [cmpI_eq, decide_eq_true (Int.le_refl a)]; rfl
  · rw [cmpI_gt h, decide_eq_true (show b ≤ a by omega)]; rfl
theorem cmp_gt0 {a b : Int} : decide (0 < cmpI a b) = decide (b < a) := by
  rcases Int.lt_trichotomy a b with h | h | h
  · rw [cmpI_lt h, decide_eq_false (show ¬ b < a by omega)]; rfl
  · subst h; rw [cmpI_eq, decide_eq_false (show ¬ a < a by omega)]; rfl
  · rw [cmpI_gt h, decide_eq_true h]; rfl
theorem cmp_lt0 {a b : Int} : decide (cmpI a b < 0) = decide (a < b) := by
  rcases Int.lt_trichotomy a b with h | h | h
  · rw [cmpI_lt h, decide_eq_true h]; rfl
  · subst h; rw [cmpI_eq, decide_eq_false (show ¬ a < a by omega)]; rfl
  · rw [cmpI_gt h, decide_eq_false (show ¬ a < b by omega)]; rfl
theorem sign_le0 {x : Int} : decide (x.sign ≤ 0) = decide (x ≤ 0) := by rw [← cmpI_sign, cmp_le0]
structure SpOk (x y v : Int) : Prop where
  v0 : 0 < v
  v1 : v ≤ 1237940039285380274899124224
  x0 : -(2199023255552 * v) ≤ x
  x1 : x ≤ 2199023255552 * v
  y0 : -(2199023255552 * v) ≤ y
  y1 : y ≤ 2199023255552 * v
theorem sp_ok {x y v : Int} (h : rspR x y v = true) : SpOk x y v := by
  unfold rspR at h
  rw [sign_le0, cmp_gt0, cmp_ge0, cmp_le0, cmp_ge0, cmp_le0] at h
  by_cases h0 : v ≤ 0
  · rw [decide_eq_true h0] at h; cases h
  · rw [decide_eq_false h0] at h
    by_cases h1 : 1237940039285380274899124224 < v
    · rw [decide_eq_true h1] at h; cases h
    · rw [decide_eq_false h1] at h
      by_cases h2 : -(2199023255552 * v) ≤ x
      · by_cases h3 : x ≤ 2199023255552 * v
        · by_cases h4 : -(2199023255552 * v) ≤ y
          · rw [decide_eq_true h2, decide_eq_true h3, decide_eq_true h4] at h
            exact ⟨by omega, by omega, h2, h3, h4, of_decide_eq_true h⟩
          · rw [decide_eq_true h2, decide_eq_true h3, decide_eq_false h4] at h; cases h
        · rw [decide_eq_true h2, decide_eq_false h3] at h; cases h
      · rw [decide_eq_false h2] at h; cases h
theorem ok_sp {x y v : Int} (h : SpOk x y v) : rspR x y v = true := by
  unfold rspR
  rw [sign_le0, cmp_gt0, cmp_ge0, cmp_le0, cmp_ge0, cmp_le0, decide_eq_false (show ¬ v ≤ 0 by have := h.v0; omega), decide_eq_false (show ¬ 1237940039285380274899124224 < v by have := h.v1; omega), decide_eq_true h.x0, decide_eq_true h.x1, decide_eq_true h.y0, decide_eq_true h.y1]
  rfl
theorem SpOk.xb {x y v : Int} (h : SpOk x y v) : -2722258935367507707706996859454145691648 ≤ x ∧ x ≤ 2722258935367507707706996859454145691648 := by
  have := h.v1; have := h.x0; have := h.x1; omega
theorem SpOk.yb {x y v : Int} (h : SpOk x y v) : -2722258935367507707706996859454145691648 ≤ y ∧ y ≤ 2722258935367507707706996859454145691648 := by
  have := h.v1; have := h.y0; have := h.y1; omega
theorem mulv_xv {x v : Int} (hx : -2722258935367507707706996859454145691648 ≤ x ∧ x ≤ 2722258935367507707706996859454145691648) (h0 : 0 < v) (h1 : v ≤ 1237940039285380274899124224) : mulv x v = x * v :=
  mulv_id (by have := mul_bd (by decide) hx (show -1237940039285380274899124224 ≤ v ∧ v ≤ 1237940039285380274899124224 by omega); unfold InI b255; omega)
theorem spC_eq {x y v x2 y2 v2 : Int} (h1 : rspR x y v = true) (h2 : rspR x2 y2 v2 = true) : spC x y v x2 y2 v2 = rspC x y v x2 y2 v2 := by
  have o1 := sp_ok h1
  have o2 := sp_ok h2
  unfold spC rspC
  rw [spR_eq, spR_eq, h1, h2, cond_true, cond_true, mulv_xv o1.xb o2.v0 o2.v1, mulv_xv o2.xb o1.v0 o1.v1, mulv_xv o1.yb o2.v0 o2.v1, mulv_xv o2.yb o1.v0 o1.v1]
  rfl
theorem spC_0 {x y v x2 y2 v2 : Int} (h : rspR x y v = false ∨ rspR x2 y2 v2 = false) : spC x y v x2 y2 v2 = 0 := by
  unfold spC
  rw [spR_eq, spR_eq]
  rcases h with h | h
  · rw [h]; rfl
  · rw [h]; cases rspR x y v <;> rfl
/-- a point's spot -/
theorem at_ok {x y : Int} (h : rp x y = true) : rspR x y 1 = true := by
  obtain ⟨h1, h2⟩ := rp_co h
  unfold Co at h1 h2
  exact ok_sp ⟨by omega, by omega, by omega, by omega, by omega, by omega⟩
theorem at_eqs {x y : Int} (h : rp x y = true) : atx x y = x ∧ aty x y = y ∧ atw x y = 1 := by unfold atx aty atw; rw [h]; exact ⟨rfl, rfl, rfl⟩
end Go.Proofs.Ytlcbomjdbdgbmaa

namespace Go.Proofs.Ytlcbomjdbdgbmaa
open Go.RowKit

theorem cmpP_lt0 (ax ay bx b_y : Int) : decide (cmpP ax ay bx b_y < 0) = ahd ax ay bx b_y := by
  unfold cmpP ahd or2
  rcases Int.lt_trichotomy ax bx with h | h | h
  · rw [cmpI_lt h, decide_eq_true h]; rfl
  · subst h
    rw [cmpI_eq, decide_eq_false (show ¬ ax < ax by omega), decide_eq_true (rfl : ax = ax), Bool.false_or, Bool.true_and]
    exact cmp_lt0
  · rw [cmpI_gt h, decide_eq_false (show ¬ ax < bx by omega), decide_eq_false (show ¬ ax = bx by omega)]; rfl
theorem ends_t {ax ay bx b_y : Int} (h : ahd bx b_y ax ay = true) : lwx ax ay bx b_y = bx ∧ lwy ax ay bx b_y = b_y ∧ hgx ax ay bx b_y = ax ∧ hgy ax ay bx b_y = ay := by
  unfold lwx lwy hgx hgy; rw [cmpP_lt0, h]; exact ⟨rfl, rfl, rfl, rfl⟩
theorem ends_f {ax ay bx b_y : Int} (h : ahd bx b_y ax ay = false) : lwx ax ay bx b_y = ax ∧ lwy ax ay bx b_y = ay ∧ hgx ax ay bx b_y = bx ∧ hgy ax ay bx b_y = b_y := by
  unfold lwx lwy hgx hgy; rw [cmpP_lt0, h]; exact ⟨rfl, rfl, rfl, rfl⟩
theorem ends_co {ax ay bx b_y : Int} (h : sgR ax ay bx b_y = true) : Co (lwx ax ay bx b_y) ∧ Co (lwy ax ay bx b_y) ∧ Co (hgx ax ay bx b_y) ∧ Co (hgy ax ay bx b_y) := by
  obtain ⟨h1, h2⟩ := sg_true h
  obtain ⟨a1, a2⟩ := rp_co h1
  obtain ⟨b1, b2⟩ := rp_co h2
  cases hh : ahd bx b_y ax ay
  · obtain ⟨e1, e2, e3, e4⟩ := ends_f hh; rw [e1, e2, e3, e4]; exact ⟨a1, a2, b1, b2⟩
  · obtain ⟨e1, e2, e3, e4⟩ := ends_t hh; rw [e1, e2, e3, e4]; exact ⟨b1, b2, a1, a2⟩
/-- a number of a spot, less a coordinate times its W -/
theorem part_bd {l y v : Int} (hl : Co l) (hy : -2722258935367507707706996859454145691648 ≤ y ∧ y ≤ 2722258935367507707706996859454145691648) (h0 : 0 < v) (h1 : v ≤ 1237940039285380274899124224) :
    subv y (mulv l v) = y - l * v ∧ -5444517870735015415413993718908291383296 ≤ y - l * v ∧ y - l * v ≤ 5444517870735015415413993718908291383296 := by
  have hb := mul_bd (a := 2199023255552) (b := 1237940039285380274899124224) (by decide) (show -2199023255552 ≤ l ∧ l ≤ 2199023255552 from hl) (show -1237940039285380274899124224 ≤ v ∧ v ≤ 1237940039285380274899124224 by omega)
  have e : mulv l v = l * v := mulv_id (by unfold InI b255; omega)
  rw [e]
  generalize l * v = p at *
  exact ⟨subv_id (by unfold InI b255; omega), by omega, by omega⟩
theorem side_ex {c d p q : Int} (hc : -4398046511104 ≤ c ∧ c ≤ 4398046511104) (hd : -4398046511104 ≤ d ∧ d ≤ 4398046511104)
    (hp : -5444517870735015415413993718908291383296 ≤ p ∧ p ≤ 5444517870735015415413993718908291383296) (hq : -5444517870735015415413993718908291383296 ≤ q ∧ q ≤ 5444517870735015415413993718908291383296) :
    subv (mulv c p) (mulv d q) = c * p - d * q := by
  have h1 := mul_bd (by decide) hc hp
  have h2 := mul_bd (by decide) hd hq
  rw [mulv_id (show InI (c * p) by unfold InI b255; omega), mulv_id (show InI (d * q) by unfold InI b255; omega)]
  generalize c * p = s at *
  generalize d * q = t at *
  exact subv_id (by unfold InI b255; omega)
theorem sde_eq {ax ay bx b_y x y v : Int} (hs : sgR ax ay bx b_y = true) (hp : rspR x y v = true) :
    sde ax ay bx b_y x y v = rsde (lwx ax ay bx b_y) (lwy ax ay bx b_y) (hgx ax ay bx b_y) (hgy ax ay bx b_y) x y v := by
  obtain ⟨c1, c2, c3, c4⟩ := ends_co hs
  have o := sp_ok hp
  obtain ⟨e1, b1⟩ := part_bd c2 o.yb o.v0 o.v1
  obtain ⟨e2, b2⟩ := part_bd c1 o.xb o.v0 o.v1
  unfold sde rsde
  rw [e1, e2]
  have w1 : wyx ax ay bx b_y = hgx ax ay bx b_y - lwx ax ay bx b_y := co_wrap c3 c1
  have w2 : wyy ax ay bx b_y = hgy ax ay bx b_y - lwy ax ay bx b_y := co_wrap c4 c2
  rw [w1, w2, co_wrap c3 c1, co_wrap c4 c2, side_ex (co_sub c3 c1) (co_sub c4 c2) b1 b2]
theorem rsde_turn {ax ay bx b_y x y v : Int} (h1 : Co ax) (h2 : Co ay) (h3 : Co bx) (h4 : Co b_y) : rsde bx b_y ax ay x y v = -rsde ax ay bx b_y x y v := by
  unfold rsde
  rw [co_wrap h1 h3, co_wrap h2 h4, co_wrap h3 h1, co_wrap h4 h2, ← Int.sign_neg]
  congr 1
  grind
theorem neg_eq0 (s : Int) : (-s == 0) = (s == 0) := by
  by_cases h : s = 0
  · subst h; rfl
  · rw [show (s == 0) = false by simpa using h, show (-s == 0) = false by simpa using h]
theorem hld_eq {ax ay bx b_y x y v : Int} (hs : sgR ax ay bx b_y = true) (hp : rspR x y v = true) : hldB ax ay bx b_y x y v = rhld ax ay bx b_y x y v := by
  obtain ⟨r1, r2⟩ := sg_true hs
  obtain ⟨a1, a2⟩ := rp_co r1
  obtain ⟨b1, b2⟩ := rp_co r2
  unfold hldB rhld
  rw [spR_eq, hs, hp, cond_true, cond_true, sde_eq hs hp]
  cases hh : ahd bx b_y ax ay
  · obtain ⟨e1, e2, e3, e4⟩ := ends_f hh
    rw [e1, e2, e3, e4, (at_eqs r1).1, (at_eqs r1).2.1, (at_eqs r1).2.2, (at_eqs r2).1, (at_eqs r2).2.1, (at_eqs r2).2.2, spC_eq (at_ok r1) hp, spC_eq hp (at_ok r2)]
    rfl
  · obtain ⟨e1, e2, e3, e4⟩ := ends_t hh
    rw [e1, e2, e3, e4, (at_eqs r1).1, (at_eqs r1).2.1, (at_eqs r1).2.2, (at_eqs r2).1, (at_eqs r2).2.1, (at_eqs r2).2.2, spC_eq (at_ok r2) hp, spC_eq hp (at_ok r1), rsde_turn a1 a2 b1 b2, neg_eq0]
    rfl
end Go.Proofs.Ytlcbomjdbdgbmaa

