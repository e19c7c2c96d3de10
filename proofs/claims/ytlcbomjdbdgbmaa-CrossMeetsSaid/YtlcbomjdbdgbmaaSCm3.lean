/- My texts Cr1, Cr2, Cr3, Cr4, joined: what the last one needs of them. Conditions: as each lemma says. -/
import Derived.Test.YtlcbomjdbdgbmaaSCm2
import Derived.KernelRfl
import Derived.StillTail
import Derived.OrdersHeld
import Derived.Deep.Quiet
import Derived.Below
import Derived.WalkKit
import Derived.Test.YtlcbomjdbdgbmaaProg
import Derived.WalkSpells
import Derived.StillTactics
import Derived.Laws.Pointers
import Derived.Deep.RegionHeld3
import Derived.RowKit3
import Derived.Deep.QuietTactic
import Derived.BigQuiet
import Derived.BigRegion
import Derived.Lib.Hide
import Derived.WalkSmall
import Derived.Laws.BitsAllLaws
import Derived.IntWalk
import Derived.Deep.OwnRows
import Derived.Deep.LoopGhost
import Derived.Shelf.Bits.Mul64
import Derived.ProofKit
import Derived.OpenShut
import Derived.ShutString
import Derived.ChangeOld
import Derived.Lib.SmallJoins
import Derived.Laws.IdiomArrays
namespace Go.Proofs.Ytlcbomjdbdgbmaa
open Go.RowKit

set_option maxRecDepth 100000 in
set_option maxHeartbeats 4000000 in

theorem crtimes_is (x : Int) (y : Int)  (R0 : Int) (hR0 : mulv x y = R0) (_ix : InI x) (_iy : InI y)  (w : World)  :
    Calls Try.prog 106 #[.agg #[.int .u64 (wd0 x), .int .u64 (wd1 x), .int .u64 (wd2 x), .int .u64 (wd3 x)], .agg #[.int .u64 (wd0 y), .int .u64 (wd1 y), .int .u64 (wd2 y), .int .u64 (wd3 y)]] w fun e w' => e = .returned (.agg #[.int .u64 (wd0 R0), .int .u64 (wd1 R0), .int .u64 (wd2 R0), .int .u64 (wd3 R0)]) ∧ Below w.heap.size w w' := by

  have HR0 := Lib.hid hR0
  clear hR0
  go_enter Try.func106, Try.ntmps106
  go_wp2_with fail
  first | refine calls_w ?_ | refine name_world ?_ | refine list_world ?_ | refine post_world ?_
  intro V1 hV1
  have hn : Below w.heap.size w V1 := by rw [hV1]; exact below_a3 _ _ _ _
  have nhb0 := hn
  have k1 : Blk V1 w.heap.size #[.int .u64 (wd0 x), .int .u64 (wd1 x), .int .u64 (wd2 x), .int .u64 (wd3 x)] 35 := by rw [hV1]; exact (((Blk.new _ _ _).alloc _).alloc _)
  have k2 : Blk V1 (w.heap.size + 1) #[.int .u64 (wd0 y), .int .u64 (wd1 y), .int .u64 (wd2 y), .int .u64 (wd3 y)] 35 := by rw [hV1]; exact ((Blk.new1 _ _ _ _).alloc _)
  have k3 : Blk V1 (w.heap.size + 1 + 1) #[.int .u64 0, .int .u64 0, .int .u64 0, .int .u64 0] 35 := by rw [hV1]; exact (Blk.new2 _ _ _ _ _)
  clear hV1
  have hb0 := nhb0
  clear nhb0
  obtain ⟨r1, hr1⟩ : ∃ o_o : Int, mulv x y = o_o := ⟨_, rfl⟩
  have Hr1 := Lib.hid hr1
  clear hr1
  obtain ⟨z2, hz2⟩ : ∃ o_o : Bool, okI (x * y) = o_o := ⟨_, rfl⟩
  have Hz2 := Lib.hid hz2
  clear hz2
  refine (Mul_v x y r1 z2 Hr1.out Hz2.out _ix _iy _).mono ?_
  rintro e U2 ⟨rfl, hn⟩
  clear k1 k2
  replace k3 := k3.of hn
  replace hb0 := hb0.trans (hn.mono hb0.size)
  clear hn
  have c3_0 : U2.cell? ⟨(w.heap.size + 1 + 1), 0, none⟩ = some (.int .u64 0) := k3.cell 0
  have c3_1 : U2.cell? ⟨(w.heap.size + 1 + 1), 1, none⟩ = some (.int .u64 0) := k3.cell 1
  have c3_2 : U2.cell? ⟨(w.heap.size + 1 + 1), 2, none⟩ = some (.int .u64 0) := k3.cell 2
  have c3_3 : U2.cell? ⟨(w.heap.size + 1 + 1), 3, none⟩ = some (.int .u64 0) := k3.cell 3
  have f3_0 := k3.free 0
  have f3_1 := k3.free 1
  have f3_2 := k3.free 2
  have f3_3 := k3.free 3
  have l3 := k3.lt
  have l3_0 : w.heap.size < U2.heap.size := by have := k3.lt; omega
  have l3_1 : w.heap.size + 1 < U2.heap.size := by have := k3.lt; omega
  have e0 : r1 = R0 := by rw [← HR0.out]; (try rw [Hr1.out]); (try rw [Hz2.out]); all_goals first | rfl | simp
  subst e0
  go_wp2
  clear c3_0 c3_1 c3_2 c3_3 f3_0 f3_1 f3_2 f3_3 l3 l3_0 l3_1
  first | refine post_world ?_
  intro V3 hV3
  have D1 := Lib.hid k3.lt
  have D2 := Lib.hid hb0.size
  have nk3 : Blk V3 (w.heap.size + 1 + 1) #[.int .u64 (wd0 r1), .int .u64 (wd1 r1), .int .u64 (wd2 r1), .int .u64 (wd3 r1)] 35 := by rw [hV3]; exact ((blk_full _ [.int .u64 (wd0 r1), .int .u64 (wd1 r1), .int .u64 (wd2 r1), .int .u64 (wd3 r1)] k3 rfl).alloc _)
  have nhb0 : Below w.heap.size w V3 := by rw [hV3]; exact (blw_al (blw_setL hb0 (by omega) 0 [.int .u64 (wd0 r1), .int .u64 (wd1 r1), .int .u64 (wd2 r1), .int .u64 (wd3 r1)]) _)
  clear k3
  clear hb0
  clear hV3
  have k3 := nk3
  clear nk3
  have hb0 := nhb0
  clear nhb0
  have g3_0 : V3.cell? ⟨(w.heap.size + 1 + 1), 0, none⟩ = some (.int .u64 (wd0 r1)) := k3.cell 0
  have g3_1 : V3.cell? ⟨(w.heap.size + 1 + 1), 1, none⟩ = some (.int .u64 (wd1 r1)) := k3.cell 1
  have g3_2 : V3.cell? ⟨(w.heap.size + 1 + 1), 2, none⟩ = some (.int .u64 (wd2 r1)) := k3.cell 2
  have g3_3 : V3.cell? ⟨(w.heap.size + 1 + 1), 3, none⟩ = some (.int .u64 (wd3 r1)) := k3.cell 3
  clear k3
  simp [bodyPost, results, Try.results106, go_sem, g3_0, g3_1, g3_2, g3_3]
  first | exact hb0 | exact ⟨rfl, hb0⟩

set_option maxRecDepth 100000 in
set_option maxHeartbeats 4000000 in

theorem crless_is (x : Int) (y : Int)  (R0 : Int) (hR0 : subv x y = R0) (_ix : InI x) (_iy : InI y)  (w : World)  :
    Calls Try.prog 108 #[.agg #[.int .u64 (wd0 x), .int .u64 (wd1 x), .int .u64 (wd2 x), .int .u64 (wd3 x)], .agg #[.int .u64 (wd0 y), .int .u64 (wd1 y), .int .u64 (wd2 y), .int .u64 (wd3 y)]] w fun e w' => e = .returned (.agg #[.int .u64 (wd0 R0), .int .u64 (wd1 R0), .int .u64 (wd2 R0), .int .u64 (wd3 R0)]) ∧ Below w.heap.size w w' := by

  have HR0 := Lib.hid hR0
  clear hR0
  go_enter Try.func108, Try.ntmps108
  go_wp2_with fail
  first | refine calls_w ?_ | refine name_world ?_ | refine list_world ?_ | refine post_world ?_
  intro V1 hV1
  have hn : Below w.heap.size w V1 := by rw [hV1]; exact below_a3 _ _ _ _
  have nhb0 := hn
  have k1 : Blk V1 w.heap.size #[.int .u64 (wd0 x), .int .u64 (wd1 x), .int .u64 (wd2 x), .int .u64 (wd3 x)] 35 := by rw [hV1]; exact (((Blk.new _ _ _).alloc _).alloc _)
  have k2 : Blk V1 (w.heap.size + 1) #[.int .u64 (wd0 y), .int .u64 (wd1 y), .int .u64 (wd2 y), .int .u64 (wd3 y)] 35 := by rw [hV1]; exact ((Blk.new1 _ _ _ _).alloc _)
  have k3 : Blk V1 (w.heap.size + 1 + 1) #[.int .u64 0, .int .u64 0, .int .u64 0, .int .u64 0] 35 := by rw [hV1]; exact (Blk.new2 _ _ _ _ _)
  clear hV1
  have hb0 := nhb0
  clear nhb0
  obtain ⟨r1, hr1⟩ : ∃ o_o : Int, subv x y = o_o := ⟨_, rfl⟩
  have Hr1 := Lib.hid hr1
  clear hr1
  obtain ⟨z2, hz2⟩ : ∃ o_o : Bool, okI (x - y) = o_o := ⟨_, rfl⟩
  have Hz2 := Lib.hid hz2
  clear hz2
  refine (Sub_v x y r1 z2 Hr1.out Hz2.out _ix _iy _).mono ?_
  rintro e U2 ⟨rfl, hn⟩
  clear k1 k2
  replace k3 := k3.of hn
  replace hb0 := hb0.trans (hn.mono hb0.size)
  clear hn
  have c3_0 : U2.cell? ⟨(w.heap.size + 1 + 1), 0, none⟩ = some (.int .u64 0) := k3.cell 0
  have c3_1 : U2.cell? ⟨(w.heap.size + 1 + 1), 1, none⟩ = some (.int .u64 0) := k3.cell 1
  have c3_2 : U2.cell? ⟨(w.heap.size + 1 + 1), 2, none⟩ = some (.int .u64 0) := k3.cell 2
  have c3_3 : U2.cell? ⟨(w.heap.size + 1 + 1), 3, none⟩ = some (.int .u64 0) := k3.cell 3
  have f3_0 := k3.free 0
  have f3_1 := k3.free 1
  have f3_2 := k3.free 2
  have f3_3 := k3.free 3
  have l3 := k3.lt
  have l3_0 : w.heap.size < U2.heap.size := by have := k3.lt; omega
  have l3_1 : w.heap.size + 1 < U2.heap.size := by have := k3.lt; omega
  have e0 : r1 = R0 := by rw [← HR0.out]; (try rw [Hr1.out]); (try rw [Hz2.out]); all_goals first | rfl | simp
  subst e0
  go_wp2
  clear c3_0 c3_1 c3_2 c3_3 f3_0 f3_1 f3_2 f3_3 l3 l3_0 l3_1
  first | refine post_world ?_
  intro V3 hV3
  have D1 := Lib.hid k3.lt
  have D2 := Lib.hid hb0.size
  have nk3 : Blk V3 (w.heap.size + 1 + 1) #[.int .u64 (wd0 r1), .int .u64 (wd1 r1), .int .u64 (wd2 r1), .int .u64 (wd3 r1)] 35 := by rw [hV3]; exact ((blk_full _ [.int .u64 (wd0 r1), .int .u64 (wd1 r1), .int .u64 (wd2 r1), .int .u64 (wd3 r1)] k3 rfl).alloc _)
  have nhb0 : Below w.heap.size w V3 := by rw [hV3]; exact (blw_al (blw_setL hb0 (by omega) 0 [.int .u64 (wd0 r1), .int .u64 (wd1 r1), .int .u64 (wd2 r1), .int .u64 (wd3 r1)]) _)
  clear k3
  clear hb0
  clear hV3
  have k3 := nk3
  clear nk3
  have hb0 := nhb0
  clear nhb0
  have g3_0 : V3.cell? ⟨(w.heap.size + 1 + 1), 0, none⟩ = some (.int .u64 (wd0 r1)) := k3.cell 0
  have g3_1 : V3.cell? ⟨(w.heap.size + 1 + 1), 1, none⟩ = some (.int .u64 (wd1 r1)) := k3.cell 1
  have g3_2 : V3.cell? ⟨(w.heap.size + 1 + 1), 2, none⟩ = some (.int .u64 (wd2 r1)) := k3.cell 2
  have g3_3 : V3.cell? ⟨(w.heap.size + 1 + 1), 3, none⟩ = some (.int .u64 (wd3 r1)) := k3.cell 3
  clear k3
  simp [bodyPost, results, Try.results108, go_sem, g3_0, g3_1, g3_2, g3_3]
  first | exact hb0 | exact ⟨rfl, hb0⟩

set_option maxRecDepth 100000 in
set_option maxHeartbeats 4000000 in

theorem crplus_is (x : Int) (y : Int)  (R0 : Int) (hR0 : addv x y = R0) (_ix : InI x) (_iy : InI y)  (w : World)  :
    Calls Try.prog 133 #[.agg #[.int .u64 (wd0 x), .int .u64 (wd1 x), .int .u64 (wd2 x), .int .u64 (wd3 x)], .agg #[.int .u64 (wd0 y), .int .u64 (wd1 y), .int .u64 (wd2 y), .int .u64 (wd3 y)]] w fun e w' => e = .returned (.agg #[.int .u64 (wd0 R0), .int .u64 (wd1 R0), .int .u64 (wd2 R0), .int .u64 (wd3 R0)]) ∧ Below w.heap.size w w' := by

  have HR0 := Lib.hid hR0
  clear hR0
  go_enter Try.func133, Try.ntmps133
  go_wp2_with fail
  first | refine calls_w ?_ | refine name_world ?_ | refine list_world ?_ | refine post_world ?_
  intro V1 hV1
  have hn : Below w.heap.size w V1 := by rw [hV1]; exact below_a3 _ _ _ _
  have nhb0 := hn
  have k1 : Blk V1 w.heap.size #[.int .u64 (wd0 x), .int .u64 (wd1 x), .int .u64 (wd2 x), .int .u64 (wd3 x)] 35 := by rw [hV1]; exact (((Blk.new _ _ _).alloc _).alloc _)
  have k2 : Blk V1 (w.heap.size + 1) #[.int .u64 (wd0 y), .int .u64 (wd1 y), .int .u64 (wd2 y), .int .u64 (wd3 y)] 35 := by rw [hV1]; exact ((Blk.new1 _ _ _ _).alloc _)
  have k3 : Blk V1 (w.heap.size + 1 + 1) #[.int .u64 0, .int .u64 0, .int .u64 0, .int .u64 0] 35 := by rw [hV1]; exact (Blk.new2 _ _ _ _ _)
  clear hV1
  have hb0 := nhb0
  clear nhb0
  obtain ⟨r1, hr1⟩ : ∃ o_o : Int, addv x y = o_o := ⟨_, rfl⟩
  have Hr1 := Lib.hid hr1
  clear hr1
  obtain ⟨z2, hz2⟩ : ∃ o_o : Bool, okI (x + y) = o_o := ⟨_, rfl⟩
  have Hz2 := Lib.hid hz2
  clear hz2
  refine (Add_v x y r1 z2 Hr1.out Hz2.out _ix _iy _).mono ?_
  rintro e U2 ⟨rfl, hn⟩
  clear k1 k2
  replace k3 := k3.of hn
  replace hb0 := hb0.trans (hn.mono hb0.size)
  clear hn
  have c3_0 : U2.cell? ⟨(w.heap.size + 1 + 1), 0, none⟩ = some (.int .u64 0) := k3.cell 0
  have c3_1 : U2.cell? ⟨(w.heap.size + 1 + 1), 1, none⟩ = some (.int .u64 0) := k3.cell 1
  have c3_2 : U2.cell? ⟨(w.heap.size + 1 + 1), 2, none⟩ = some (.int .u64 0) := k3.cell 2
  have c3_3 : U2.cell? ⟨(w.heap.size + 1 + 1), 3, none⟩ = some (.int .u64 0) := k3.cell 3
  have f3_0 := k3.free 0
  have f3_1 := k3.free 1
  have f3_2 := k3.free 2
  have f3_3 := k3.free 3
  have l3 := k3.lt
  have l3_0 : w.heap.size < U2.heap.size := by have := k3.lt; omega
  have l3_1 : w.heap.size + 1 < U2.heap.size := by have := k3.lt; omega
  have e0 : r1 = R0 := by rw [← HR0.out]; (try rw [Hr1.out]); (try rw [Hz2.out]); all_goals first | rfl | simp
  subst e0
  go_wp2
  clear c3_0 c3_1 c3_2 c3_3 f3_0 f3_1 f3_2 f3_3 l3 l3_0 l3_1
  first | refine post_world ?_
  intro V3 hV3
  have D1 := Lib.hid k3.lt
  have D2 := Lib.hid hb0.size
  have nk3 : Blk V3 (w.heap.size + 1 + 1) #[.int .u64 (wd0 r1), .int .u64 (wd1 r1), .int .u64 (wd2 r1), .int .u64 (wd3 r1)] 35 := by rw [hV3]; exact ((blk_full _ [.int .u64 (wd0 r1), .int .u64 (wd1 r1), .int .u64 (wd2 r1), .int .u64 (wd3 r1)] k3 rfl).alloc _)
  have nhb0 : Below w.heap.size w V3 := by rw [hV3]; exact (blw_al (blw_setL hb0 (by omega) 0 [.int .u64 (wd0 r1), .int .u64 (wd1 r1), .int .u64 (wd2 r1), .int .u64 (wd3 r1)]) _)
  clear k3
  clear hb0
  clear hV3
  have k3 := nk3
  clear nk3
  have hb0 := nhb0
  clear nhb0
  have g3_0 : V3.cell? ⟨(w.heap.size + 1 + 1), 0, none⟩ = some (.int .u64 (wd0 r1)) := k3.cell 0
  have g3_1 : V3.cell? ⟨(w.heap.size + 1 + 1), 1, none⟩ = some (.int .u64 (wd1 r1)) := k3.cell 1
  have g3_2 : V3.cell? ⟨(w.heap.size + 1 + 1), 2, none⟩ = some (.int .u64 (wd2 r1)) := k3.cell 2
  have g3_3 : V3.cell? ⟨(w.heap.size + 1 + 1), 3, none⟩ = some (.int .u64 (wd3 r1)) := k3.cell 3
  clear k3
  simp [bodyPost, results, Try.results133, go_sem, g3_0, g3_1, g3_2, g3_3]
  first | exact hb0 | exact ⟨rfl, hb0⟩

def sgR (ax : Int) (ay : Int) (bx : Int) (b_y : Int) : Bool := (bif (rp ax ay) then (rp bx b_y) else false)

set_option maxRecDepth 100000 in
set_option maxHeartbeats 4000000 in

theorem SegRight_is (ax : Int) (ay : Int) (bx : Int) (b_y : Int)  (R0 : Bool) (hR0 : sgR ax ay bx b_y = R0) (_iax : In64 ax) (_iay : In64 ay) (_ibx : In64 bx) (_ib_y : In64 b_y)  (w : World)  :
    Calls Try.prog 53 #[.agg #[.int .i64 ax, .int .i64 ay, .int .i64 bx, .int .i64 b_y]] w fun e w' => e = .returned (.bool R0) ∧ Below w.heap.size w w' := by

  have HR0 := Lib.hid hR0
  clear hR0
  go_enter Try.func53, Try.ntmps53
  go_wp2_with fail
  first | refine calls_w ?_ | refine name_world ?_ | refine list_world ?_ | refine post_world ?_
  intro V1 hV1
  have hn : Below w.heap.size w V1 := by rw [hV1]; exact below_a1 _ _
  have nhb0 := hn
  have k1 : Blk V1 w.heap.size #[.int .i64 ax, .int .i64 ay, .int .i64 bx, .int .i64 b_y] 50 := by rw [hV1]; exact (Blk.new _ _ _)
  clear hV1
  have hb0 := nhb0
  clear nhb0
  obtain ⟨z1, hz1⟩ : ∃ o_o : Bool, rp ax ay = o_o := ⟨_, rfl⟩
  have Hz1 := Lib.hid hz1
  clear hz1
  refine (PtRight_v ax ay z1 Hz1.out _).mono ?_
  rintro e U2 ⟨rfl, hn⟩
  replace k1 := k1.of hn
  replace hb0 := hb0.trans (hn.mono hb0.size)
  clear hn
  cases z1
  · have e0 : false = R0 := by rw [← HR0.out]; unfold sgR; (try rw [Hz1.out]); all_goals first | rfl | simp
    subst e0
    go_wp2
    first | go_ret | go_ret2
    exact ⟨by first | rfl | simp, hb0⟩
  · have c1_2 : U2.cell? ⟨w.heap.size, 2, none⟩ = some (.int .i64 bx) := k1.cell 2
    have c1_3 : U2.cell? ⟨w.heap.size, 3, none⟩ = some (.int .i64 b_y) := k1.cell 3
    have l1 := k1.lt
    go_wp2_with fail
    clear c1_2 c1_3 l1
    obtain ⟨z2, hz2⟩ : ∃ o_o : Bool, rp bx b_y = o_o := ⟨_, rfl⟩
    have Hz2 := Lib.hid hz2
    clear hz2
    refine (PtRight_v bx b_y z2 Hz2.out _).mono ?_
    rintro e U3 ⟨rfl, hn⟩
    clear k1
    replace hb0 := hb0.trans (hn.mono hb0.size)
    clear hn
    have e0 : z2 = R0 := by rw [← HR0.out]; unfold sgR; (try rw [Hz1.out]); (try rw [Hz2.out]); all_goals first | rfl | simp
    subst e0
    go_wp2
    first | go_ret | go_ret2
    exact ⟨by first | rfl | simp, hb0⟩

def lwx (ax : Int) (ay : Int) (bx : Int) (b_y : Int) : Int := (bif decide ((cmpP bx b_y ax ay) < 0) then bx else ax)

def lwy (ax : Int) (ay : Int) (bx : Int) (b_y : Int) : Int := (bif decide ((cmpP bx b_y ax ay) < 0) then b_y else ay)

def hgx (ax : Int) (ay : Int) (bx : Int) (b_y : Int) : Int := (bif decide ((cmpP bx b_y ax ay) < 0) then ax else bx)

def hgy (ax : Int) (ay : Int) (bx : Int) (b_y : Int) : Int := (bif decide ((cmpP bx b_y ax ay) < 0) then ay else b_y)

theorem lwx_in (ax : Int) (ay : Int) (bx : Int) (b_y : Int) (_iax : In64 ax) (_iay : In64 ay) (_ibx : In64 bx) (_ib_y : In64 b_y) : In64 (lwx ax ay bx b_y) := by
  unfold lwx
  exact (cond_64 _ibx _iax)

theorem lwy_in (ax : Int) (ay : Int) (bx : Int) (b_y : Int) (_iax : In64 ax) (_iay : In64 ay) (_ibx : In64 bx) (_ib_y : In64 b_y) : In64 (lwy ax ay bx b_y) := by
  unfold lwy
  exact (cond_64 _ib_y _iay)

theorem hgx_in (ax : Int) (ay : Int) (bx : Int) (b_y : Int) (_iax : In64 ax) (_iay : In64 ay) (_ibx : In64 bx) (_ib_y : In64 b_y) : In64 (hgx ax ay bx b_y) := by
  unfold hgx
  exact (cond_64 _iax _ibx)

theorem hgy_in (ax : Int) (ay : Int) (bx : Int) (b_y : Int) (_iax : In64 ax) (_iay : In64 ay) (_ibx : In64 bx) (_ib_y : In64 b_y) : In64 (hgy ax ay bx b_y) := by
  unfold hgy
  exact (cond_64 _iay _ib_y)

set_option maxRecDepth 100000 in
set_option maxHeartbeats 4000000 in

theorem Ends_is (ax : Int) (ay : Int) (bx : Int) (b_y : Int)  (R0 : Int) (R1 : Int) (R2 : Int) (R3 : Int) (hR0 : lwx ax ay bx b_y = R0) (hR1 : lwy ax ay bx b_y = R1) (hR2 : hgx ax ay bx b_y = R2) (hR3 : hgy ax ay bx b_y = R3) (_iax : In64 ax) (_iay : In64 ay) (_ibx : In64 bx) (_ib_y : In64 b_y)  (w : World)  :
    Calls Try.prog 64 #[.agg #[.int .i64 ax, .int .i64 ay, .int .i64 bx, .int .i64 b_y]] w fun e w' => e = .returned (.tuple #[.agg #[.int .i64 R0, .int .i64 R1], .agg #[.int .i64 R2, .int .i64 R3]]) ∧ Below w.heap.size w w' := by

  have HR0 := Lib.hid hR0
  clear hR0
  have HR1 := Lib.hid hR1
  clear hR1
  have HR2 := Lib.hid hR2
  clear hR2
  have HR3 := Lib.hid hR3
  clear hR3
  go_enter Try.func64, Try.ntmps64
  go_wp2_with fail
  first | refine calls_w ?_ | refine name_world ?_ | refine list_world ?_ | refine post_world ?_
  intro V1 hV1
  have hn : Below w.heap.size w V1 := by rw [hV1]; exact below_a3 _ _ _ _
  have nhb0 := hn
  have k1 : Blk V1 w.heap.size #[.int .i64 ax, .int .i64 ay, .int .i64 bx, .int .i64 b_y] 50 := by rw [hV1]; exact (((Blk.new _ _ _).alloc _).alloc _)
  have k2 : Blk V1 (w.heap.size + 1) #[.int .i64 0, .int .i64 0] 24 := by rw [hV1]; exact ((Blk.new1 _ _ _ _).alloc _)
  have k3 : Blk V1 (w.heap.size + 1 + 1) #[.int .i64 0, .int .i64 0] 24 := by rw [hV1]; exact (Blk.new2 _ _ _ _ _)
  clear hV1
  have hb0 := nhb0
  clear nhb0
  obtain ⟨r1, hr1⟩ : ∃ o_o : Int, cmpP bx b_y ax ay = o_o := ⟨_, rfl⟩
  have Hr1 := Lib.hid hr1
  clear hr1
  refine (PtCmp_v bx b_y ax ay r1 Hr1.out _).mono ?_
  rintro e U2 ⟨rfl, hn⟩
  replace k1 := k1.of hn
  replace k2 := k2.of hn
  replace k3 := k3.of hn
  replace hb0 := hb0.trans (hn.mono hb0.size)
  clear hn
  obtain ⟨z2, hz2⟩ : ∃ o_o : Bool, decide (r1 < 0) = o_o := ⟨_, rfl⟩
  cases z2
  · go_wp2_with fail
    have c1_0 : U2.cell? ⟨w.heap.size, 0, none⟩ = some (.int .i64 ax) := k1.cell 0
    have c1_1 : U2.cell? ⟨w.heap.size, 1, none⟩ = some (.int .i64 ay) := k1.cell 1
    have c1_2 : U2.cell? ⟨w.heap.size, 2, none⟩ = some (.int .i64 bx) := k1.cell 2
    have c1_3 : U2.cell? ⟨w.heap.size, 3, none⟩ = some (.int .i64 b_y) := k1.cell 3
    have l1 := k1.lt
    have c2_0 : U2.cell? ⟨(w.heap.size + 1), 0, none⟩ = some (.int .i64 0) := k2.cell 0
    have c2_1 : U2.cell? ⟨(w.heap.size + 1), 1, none⟩ = some (.int .i64 0) := k2.cell 1
    have f2_0 := k2.free 0
    have f2_1 := k2.free 1
    have l2 := k2.lt
    have c3_0 : U2.cell? ⟨(w.heap.size + 1 + 1), 0, none⟩ = some (.int .i64 0) := k3.cell 0
    have c3_1 : U2.cell? ⟨(w.heap.size + 1 + 1), 1, none⟩ = some (.int .i64 0) := k3.cell 1
    have f3_0 := k3.free 0
    have f3_1 := k3.free 1
    have l3 := k3.lt
    have p1_2 : w.heap.size ≠ (w.heap.size + 1) := (by omega)
    have p1_3 : w.heap.size ≠ (w.heap.size + 1 + 1) := (by omega)
    have p2_3 : (w.heap.size + 1) ≠ (w.heap.size + 1 + 1) := (by omega)
    have Kk1 := Lib.hid k1
    clear k1
    have Kk2 := Lib.hid k2
    clear k2
    have Kk3 := Lib.hid k3
    clear k3
    go_region
    first | refine name_q ?_ | refine calls_w ?_ | refine name_world ?_ | refine list_world ?_ | refine post_world ?_
    intro U3 hU3
    clear c1_0 c1_1 c1_2 c1_3 l1 c2_0 c2_1 f2_0 f2_1 l2 c3_0 c3_1 f3_0 f3_1 l3 p1_2 p1_3 p2_3
    have k1 : Blk U3 w.heap.size #[.int .i64 ax, .int .i64 ay, .int .i64 bx, .int .i64 b_y] 50 := by rw [hU3]; exact Blk.drew (blk_setL (blk_setL Kk1.out (by omega) 0 [.int .i64 ax, .int .i64 ay]) (by omega) 0 [.int .i64 bx, .int .i64 b_y])
    clear Kk1
    have k2 : Blk U3 (w.heap.size + 1) #[.int .i64 ax, .int .i64 ay] 24 := by rw [hU3]; exact Blk.drew (blk_setL (blk_full _ [.int .i64 ax, .int .i64 ay] Kk2.out rfl) (by omega) 0 [.int .i64 bx, .int .i64 b_y])
    clear Kk2
    have k3 : Blk U3 (w.heap.size + 1 + 1) #[.int .i64 bx, .int .i64 b_y] 24 := by rw [hU3]; exact Blk.drew (blk_full _ [.int .i64 bx, .int .i64 b_y] (blk_setL Kk3.out (by omega) 0 [.int .i64 ax, .int .i64 ay]) rfl)
    clear Kk3
    replace hb0 : Below w.heap.size w U3 := by rw [hU3]; exact Below.drew (blw_setL (blw_setL hb0 (by omega) 0 [.int .i64 ax, .int .i64 ay]) (by omega) 0 [.int .i64 bx, .int .i64 b_y])
    clear hU3
    have e0 : ax = R0 := by rw [← HR0.out]; unfold lwx; (try rw [Hr1.out]); (try rw [hz2]); all_goals first | rfl | simp
    have e1 : ay = R1 := by rw [← HR1.out]; unfold lwy; (try rw [Hr1.out]); (try rw [hz2]); all_goals first | rfl | simp
    have e2 : bx = R2 := by rw [← HR2.out]; unfold hgx; (try rw [Hr1.out]); (try rw [hz2]); all_goals first | rfl | simp
    have e3 : b_y = R3 := by rw [← HR3.out]; unfold hgy; (try rw [Hr1.out]); (try rw [hz2]); all_goals first | rfl | simp
    subst e0
    subst e1
    subst e2
    subst e3
    go_wp2
    have g2_0 : U3.cell? ⟨(w.heap.size + 1), 0, none⟩ = some (.int .i64 ax) := k2.cell 0
    have g2_1 : U3.cell? ⟨(w.heap.size + 1), 1, none⟩ = some (.int .i64 ay) := k2.cell 1
    have g3_0 : U3.cell? ⟨(w.heap.size + 1 + 1), 0, none⟩ = some (.int .i64 bx) := k3.cell 0
    have g3_1 : U3.cell? ⟨(w.heap.size + 1 + 1), 1, none⟩ = some (.int .i64 b_y) := k3.cell 1
    clear k1 k2 k3
    simp [bodyPost, results, Try.results64, go_sem, g2_0, g2_1, g3_0, g3_1]
    first | exact hb0 | exact ⟨rfl, hb0⟩
  · go_wp2_with fail
    have c1_0 : U2.cell? ⟨w.heap.size, 0, none⟩ = some (.int .i64 ax) := k1.cell 0
    have c1_1 : U2.cell? ⟨w.heap.size, 1, none⟩ = some (.int .i64 ay) := k1.cell 1
    have c1_2 : U2.cell? ⟨w.heap.size, 2, none⟩ = some (.int .i64 bx) := k1.cell 2
    have c1_3 : U2.cell? ⟨w.heap.size, 3, none⟩ = some (.int .i64 b_y) := k1.cell 3
    have l1 := k1.lt
    have c2_0 : U2.cell? ⟨(w.heap.size + 1), 0, none⟩ = some (.int .i64 0) := k2.cell 0
    have c2_1 : U2.cell? ⟨(w.heap.size + 1), 1, none⟩ = some (.int .i64 0) := k2.cell 1
    have f2_0 := k2.free 0
    have f2_1 := k2.free 1
    have l2 := k2.lt
    have c3_0 : U2.cell? ⟨(w.heap.size + 1 + 1), 0, none⟩ = some (.int .i64 0) := k3.cell 0
    have c3_1 : U2.cell? ⟨(w.heap.size + 1 + 1), 1, none⟩ = some (.int .i64 0) := k3.cell 1
    have f3_0 := k3.free 0
    have f3_1 := k3.free 1
    have l3 := k3.lt
    have p1_2 : w.heap.size ≠ (w.heap.size + 1) := (by omega)
    have p1_3 : w.heap.size ≠ (w.heap.size + 1 + 1) := (by omega)
    have p2_3 : (w.heap.size + 1) ≠ (w.heap.size + 1 + 1) := (by omega)
    have Kk1 := Lib.hid k1
    clear k1
    have Kk2 := Lib.hid k2
    clear k2
    have Kk3 := Lib.hid k3
    clear k3
    go_region
    first | refine name_q ?_ | refine calls_w ?_ | refine name_world ?_ | refine list_world ?_ | refine post_world ?_
    intro U4 hU4
    clear c1_0 c1_1 c1_2 c1_3 l1 c2_0 c2_1 f2_0 f2_1 l2 c3_0 c3_1 f3_0 f3_1 l3 p1_2 p1_3 p2_3
    have k1 : Blk U4 w.heap.size #[.int .i64 ax, .int .i64 ay, .int .i64 bx, .int .i64 b_y] 50 := by rw [hU4]; exact Blk.drew (blk_setL (blk_setL Kk1.out (by omega) 0 [.int .i64 bx, .int .i64 b_y]) (by omega) 0 [.int .i64 ax, .int .i64 ay])
    clear Kk1
    have k2 : Blk U4 (w.heap.size + 1) #[.int .i64 bx, .int .i64 b_y] 24 := by rw [hU4]; exact Blk.drew (blk_setL (blk_full _ [.int .i64 bx, .int .i64 b_y] Kk2.out rfl) (by omega) 0 [.int .i64 ax, .int .i64 ay])
    clear Kk2
    have k3 : Blk U4 (w.heap.size + 1 + 1) #[.int .i64 ax, .int .i64 ay] 24 := by rw [hU4]; exact Blk.drew (blk_full _ [.int .i64 ax, .int .i64 ay] (blk_setL Kk3.out (by omega) 0 [.int .i64 bx, .int .i64 b_y]) rfl)
    clear Kk3
    replace hb0 : Below w.heap.size w U4 := by rw [hU4]; exact Below.drew (blw_setL (blw_setL hb0 (by omega) 0 [.int .i64 bx, .int .i64 b_y]) (by omega) 0 [.int .i64 ax, .int .i64 ay])
    clear hU4
    have e0 : bx = R0 := by rw [← HR0.out]; unfold lwx; (try rw [Hr1.out]); (try rw [hz2]); all_goals first | rfl | simp
    have e1 : b_y = R1 := by rw [← HR1.out]; unfold lwy; (try rw [Hr1.out]); (try rw [hz2]); all_goals first | rfl | simp
    have e2 : ax = R2 := by rw [← HR2.out]; unfold hgx; (try rw [Hr1.out]); (try rw [hz2]); all_goals first | rfl | simp
    have e3 : ay = R3 := by rw [← HR3.out]; unfold hgy; (try rw [Hr1.out]); (try rw [hz2]); all_goals first | rfl | simp
    subst e0
    subst e1
    subst e2
    subst e3
    go_wp2
    have g2_0 : U4.cell? ⟨(w.heap.size + 1), 0, none⟩ = some (.int .i64 bx) := k2.cell 0
    have g2_1 : U4.cell? ⟨(w.heap.size + 1), 1, none⟩ = some (.int .i64 b_y) := k2.cell 1
    have g3_0 : U4.cell? ⟨(w.heap.size + 1 + 1), 0, none⟩ = some (.int .i64 ax) := k3.cell 0
    have g3_1 : U4.cell? ⟨(w.heap.size + 1 + 1), 1, none⟩ = some (.int .i64 ay) := k3.cell 1
    clear k1 k2 k3
    simp [bodyPost, results, Try.results64, go_sem, g2_0, g2_1, g3_0, g3_1]
    first | exact hb0 | exact ⟨rfl, hb0⟩
end Go.Proofs.Ytlcbomjdbdgbmaa

namespace Go.Proofs.Ytlcbomjdbdgbmaa
open Go.RowKit

def atx (x : Int) (y : Int) : Int := (bif (rp x y) then x else 0)

def aty (x : Int) (y : Int) : Int := (bif (rp x y) then y else 0)

def atw (x : Int) (y : Int) : Int := (bif (rp x y) then 1 else 0)

theorem atx_in (x : Int) (y : Int) (_ix : In64 x) (_iy : In64 y) : InI (atx x y) := by
  unfold atx
  exact (cond_in (in64_I' _ix) in_0)

theorem aty_in (x : Int) (y : Int) (_ix : In64 x) (_iy : In64 y) : InI (aty x y) := by
  unfold aty
  exact (cond_in (in64_I' _iy) in_0)

theorem atw_in (x : Int) (y : Int) (_ix : In64 x) (_iy : In64 y) : InI (atw x y) := by
  unfold atw
  exact (cond_in (by unfold InI b255; omega) in_0)

set_option maxRecDepth 100000 in
set_option maxHeartbeats 4000000 in

theorem crAt_is (x : Int) (y : Int)  (R0 : Int) (R1 : Int) (R2 : Int) (hR0 : atx x y = R0) (hR1 : aty x y = R1) (hR2 : atw x y = R2) (_ix : In64 x) (_iy : In64 y)  (w : World)  :
    Calls Try.prog 47 #[.agg #[.int .i64 x, .int .i64 y]] w fun e w' => e = .returned (.agg #[.int .u64 (wd0 R0), .int .u64 (wd1 R0), .int .u64 (wd2 R0), .int .u64 (wd3 R0), .int .u64 (wd0 R1), .int .u64 (wd1 R1), .int .u64 (wd2 R1), .int .u64 (wd3 R1), .int .u64 (wd0 R2), .int .u64 (wd1 R2), .int .u64 (wd2 R2), .int .u64 (wd3 R2)]) ∧ Below w.heap.size w w' := by

  have HR0 := Lib.hid hR0
  clear hR0
  have HR1 := Lib.hid hR1
  clear hR1
  have HR2 := Lib.hid hR2
  clear hR2
  go_enter Try.func47, Try.ntmps47
  go_wp2_with fail
  first | refine calls_w ?_ | refine name_world ?_ | refine list_world ?_ | refine post_world ?_
  intro V1 hV1
  have hn : Below w.heap.size w V1 := by rw [hV1]; exact below_a2 _ _ _
  have nhb0 := hn
  have k1 : Blk V1 w.heap.size #[.int .i64 x, .int .i64 y] 24 := by rw [hV1]; exact ((Blk.new _ _ _).alloc _)
  have k2 : Blk V1 (w.heap.size + 1) #[.int .u64 0, .int .u64 0, .int .u64 0, .int .u64 0, .int .u64 0, .int .u64 0, .int .u64 0, .int .u64 0, .int .u64 0, .int .u64 0, .int .u64 0, .int .u64 0] 67 := by rw [hV1]; exact (Blk.new1 _ _ _ _)
  clear hV1
  have hb0 := nhb0
  clear nhb0
  obtain ⟨z1, hz1⟩ : ∃ o_o : Bool, rp x y = o_o := ⟨_, rfl⟩
  have Hz1 := Lib.hid hz1
  clear hz1
  refine (PtRight_v x y z1 Hz1.out _).mono ?_
  rintro e U2 ⟨rfl, hn⟩
  replace k1 := k1.of hn
  replace k2 := k2.of hn
  replace hb0 := hb0.trans (hn.mono hb0.size)
  clear hn
  cases z1
  · have c2_0 : U2.cell? ⟨(w.heap.size + 1), 0, none⟩ = some (.int .u64 0) := k2.cell 0
    have c2_1 : U2.cell? ⟨(w.heap.size + 1), 1, none⟩ = some (.int .u64 0) := k2.cell 1
    have c2_2 : U2.cell? ⟨(w.heap.size + 1), 2, none⟩ = some (.int .u64 0) := k2.cell 2
    have c2_3 : U2.cell? ⟨(w.heap.size + 1), 3, none⟩ = some (.int .u64 0) := k2.cell 3
    have c2_4 : U2.cell? ⟨(w.heap.size + 1), 4, none⟩ = some (.int .u64 0) := k2.cell 4
    have c2_5 : U2.cell? ⟨(w.heap.size + 1), 5, none⟩ = some (.int .u64 0) := k2.cell 5
    have c2_6 : U2.cell? ⟨(w.heap.size + 1), 6, none⟩ = some (.int .u64 0) := k2.cell 6
    have c2_7 : U2.cell? ⟨(w.heap.size + 1), 7, none⟩ = some (.int .u64 0) := k2.cell 7
    have c2_8 : U2.cell? ⟨(w.heap.size + 1), 8, none⟩ = some (.int .u64 0) := k2.cell 8
    have c2_9 : U2.cell? ⟨(w.heap.size + 1), 9, none⟩ = some (.int .u64 0) := k2.cell 9
    have c2_10 : U2.cell? ⟨(w.heap.size + 1), 10, none⟩ = some (.int .u64 0) := k2.cell 10
    have c2_11 : U2.cell? ⟨(w.heap.size + 1), 11, none⟩ = some (.int .u64 0) := k2.cell 11
    have f2_0 := k2.free 0
    have f2_1 := k2.free 1
    have f2_2 := k2.free 2
    have f2_3 := k2.free 3
    have f2_4 := k2.free 4
    have f2_5 := k2.free 5
    have f2_6 := k2.free 6
    have f2_7 := k2.free 7
    have f2_8 := k2.free 8
    have f2_9 := k2.free 9
    have f2_10 := k2.free 10
    have f2_11 := k2.free 11
    have l2 := k2.lt
    have e0 : 0 = R0 := by rw [← HR0.out]; unfold atx; (try rw [Hz1.out]); all_goals first | rfl | simp
    have e1 : 0 = R1 := by rw [← HR1.out]; unfold aty; (try rw [Hz1.out]); all_goals first | rfl | simp
    have e2 : 0 = R2 := by rw [← HR2.out]; unfold atw; (try rw [Hz1.out]); all_goals first | rfl | simp
    subst e0
    subst e1
    subst e2
    go_wp2
    clear c2_0 c2_1 c2_2 c2_3 c2_4 c2_5 c2_6 c2_7 c2_8 c2_9 c2_10 c2_11 f2_0 f2_1 f2_2 f2_3 f2_4 f2_5 f2_6 f2_7 f2_8 f2_9 f2_10 f2_11 l2
    first | refine post_world ?_
    intro V3 hV3
    have D1 := Lib.hid k1.lt
    have D2 := Lib.hid k2.lt
    have D3 := Lib.hid hb0.size
    clear k1
    have nk2 : Blk V3 (w.heap.size + 1) #[.int .u64 0, .int .u64 0, .int .u64 0, .int .u64 0, .int .u64 0, .int .u64 0, .int .u64 0, .int .u64 0, .int .u64 0, .int .u64 0, .int .u64 0, .int .u64 0] 67 := by rw [hV3]; exact (blk_full _ [.int .u64 0, .int .u64 0, .int .u64 0, .int .u64 0, .int .u64 0, .int .u64 0, .int .u64 0, .int .u64 0, .int .u64 0, .int .u64 0, .int .u64 0, .int .u64 0] k2 rfl)
    have nhb0 : Below w.heap.size w V3 := by rw [hV3]; exact (blw_setL hb0 (by omega) 0 [.int .u64 0, .int .u64 0, .int .u64 0, .int .u64 0, .int .u64 0, .int .u64 0, .int .u64 0, .int .u64 0, .int .u64 0, .int .u64 0, .int .u64 0, .int .u64 0])
    clear k2
    clear hb0
    clear hV3
    have k2 := nk2
    clear nk2
    have hb0 := nhb0
    clear nhb0
    have g2_0 : V3.cell? ⟨(w.heap.size + 1), 0, none⟩ = some (.int .u64 0) := k2.cell 0
    have g2_1 : V3.cell? ⟨(w.heap.size + 1), 1, none⟩ = some (.int .u64 0) := k2.cell 1
    have g2_2 : V3.cell? ⟨(w.heap.size + 1), 2, none⟩ = some (.int .u64 0) := k2.cell 2
    have g2_3 : V3.cell? ⟨(w.heap.size + 1), 3, none⟩ = some (.int .u64 0) := k2.cell 3
    have g2_4 : V3.cell? ⟨(w.heap.size + 1), 4, none⟩ = some (.int .u64 0) := k2.cell 4
    have g2_5 : V3.cell? ⟨(w.heap.size + 1), 5, none⟩ = some (.int .u64 0) := k2.cell 5
    have g2_6 : V3.cell? ⟨(w.heap.size + 1), 6, none⟩ = some (.int .u64 0) := k2.cell 6
    have g2_7 : V3.cell? ⟨(w.heap.size + 1), 7, none⟩ = some (.int .u64 0) := k2.cell 7
    have g2_8 : V3.cell? ⟨(w.heap.size + 1), 8, none⟩ = some (.int .u64 0) := k2.cell 8
    have g2_9 : V3.cell? ⟨(w.heap.size + 1), 9, none⟩ = some (.int .u64 0) := k2.cell 9
    have g2_10 : V3.cell? ⟨(w.heap.size + 1), 10, none⟩ = some (.int .u64 0) := k2.cell 10
    have g2_11 : V3.cell? ⟨(w.heap.size + 1), 11, none⟩ = some (.int .u64 0) := k2.cell 11
    clear k2
    simp [bodyPost, results, Try.results47, go_sem, g2_0, g2_1, g2_2, g2_3, g2_4, g2_5, g2_6, g2_7, g2_8, g2_9, g2_10, g2_11, wd0_0, wd1_0, wd2_0, wd3_0]
    first | exact hb0 | exact ⟨rfl, hb0⟩
  · go_wp2_with fail
    have c1_0 : U2.cell? ⟨w.heap.size, 0, none⟩ = some (.int .i64 x) := k1.cell 0
    have c1_1 : U2.cell? ⟨w.heap.size, 1, none⟩ = some (.int .i64 y) := k1.cell 1
    have l1 := k1.lt
    have Kk1 := Lib.hid k1
    clear k1
    have Kk2 := Lib.hid k2
    clear k2
    refine wp_region_up U2.heap.size 5 [(true, 0), (true, 1), (true, 3), (true, 4), (false, 2)] (by kernel_rfl) (by kernel_rfl) (fun _ _ d _ _ h => by cases d <;> exact h) ?_
    have hb : Below U2.heap.size U2 U2.drew := (Below.refl _ _).drew
    iterate 4
      refine wpS_takeL rfl rfl ?_
      go_big_quiet_step (rfl)
      refine wpQuiet_nil ?_
    refine wpS_doL rfl ?_
    intro K hK
    go_wp2_with ((go_at_call 62; (with_reducible refine (Of_v x x rfl _ix _).mono ?_); rintro e w2 ⟨rfl, hn⟩))
    replace hb := hb.trans (hn.mono hb.size)
    refine hK.out _ _ (up_iff.2 hb) ?_
    clear hK K
    clear hn
    refine wpS_nil ?_
    simp only [List.drop_succ_cons, List.drop_zero]
    first | refine calls_w ?_ | refine name_world ?_ | refine list_world ?_ | refine post_world ?_
    intro U4 hU4
    first | subst hU4 | (rw [← hU4] at hb; clear hU4)
    clear c1_0 c1_1 l1
    have k1 := Kk1.out.of hb
    clear Kk1
    have k2 := Kk2.out.of hb
    clear Kk2
    replace hb0 := hb0.trans (hb.mono hb0.size)
    clear hb
    go_wp2_with fail
    refine (Of_v y y rfl _iy _).mono ?_
    rintro e U5 ⟨rfl, hn⟩
    clear k1
    replace k2 := k2.of hn
    replace hb0 := hb0.trans (hn.mono hb0.size)
    clear hn
    go_wp2_with fail
    refine (Of_v 1 1 rfl (by unfold In64; omega) _).mono ?_
    rintro e U6 ⟨rfl, hn⟩
    replace k2 := k2.of hn
    replace hb0 := hb0.trans (hn.mono hb0.size)
    clear hn
    have c2_0 : U6.cell? ⟨(w.heap.size + 1), 0, none⟩ = some (.int .u64 0) := k2.cell 0
    have c2_1 : U6.cell? ⟨(w.heap.size + 1), 1, none⟩ = some (.int .u64 0) := k2.cell 1
    have c2_2 : U6.cell? ⟨(w.heap.size + 1), 2, none⟩ = some (.int .u64 0) := k2.cell 2
    have c2_3 : U6.cell? ⟨(w.heap.size + 1), 3, none⟩ = some (.int .u64 0) := k2.cell 3
    have c2_4 : U6.cell? ⟨(w.heap.size + 1), 4, none⟩ = some (.int .u64 0) := k2.cell 4
    have c2_5 : U6.cell? ⟨(w.heap.size + 1), 5, none⟩ = some (.int .u64 0) := k2.cell 5
    have c2_6 : U6.cell? ⟨(w.heap.size + 1), 6, none⟩ = some (.int .u64 0) := k2.cell 6
    have c2_7 : U6.cell? ⟨(w.heap.size + 1), 7, none⟩ = some (.int .u64 0) := k2.cell 7
    have c2_8 : U6.cell? ⟨(w.heap.size + 1), 8, none⟩ = some (.int .u64 0) := k2.cell 8
    have c2_9 : U6.cell? ⟨(w.heap.size + 1), 9, none⟩ = some (.int .u64 0) := k2.cell 9
    have c2_10 : U6.cell? ⟨(w.heap.size + 1), 10, none⟩ = some (.int .u64 0) := k2.cell 10
    have c2_11 : U6.cell? ⟨(w.heap.size + 1), 11, none⟩ = some (.int .u64 0) := k2.cell 11
    have f2_0 := k2.free 0
    have f2_1 := k2.free 1
    have f2_2 := k2.free 2
    have f2_3 := k2.free 3
    have f2_4 := k2.free 4
    have f2_5 := k2.free 5
    have f2_6 := k2.free 6
    have f2_7 := k2.free 7
    have f2_8 := k2.free 8
    have f2_9 := k2.free 9
    have f2_10 := k2.free 10
    have f2_11 := k2.free 11
    have l2 := k2.lt
    have e0 : x = R0 := by rw [← HR0.out]; unfold atx; (try rw [Hz1.out]); all_goals first | rfl | simp
    have e1 : y = R1 := by rw [← HR1.out]; unfold aty; (try rw [Hz1.out]); all_goals first | rfl | simp
    have e2 : 1 = R2 := by rw [← HR2.out]; unfold atw; (try rw [Hz1.out]); all_goals first | rfl | simp
    subst e0
    subst e1
    subst e2
    go_wp2
    clear c2_0 c2_1 c2_2 c2_3 c2_4 c2_5 c2_6 c2_7 c2_8 c2_9 c2_10 c2_11 f2_0 f2_1 f2_2 f2_3 f2_4 f2_5 f2_6 f2_7 f2_8 f2_9 f2_10 f2_11 l2
    first | refine post_world ?_
    intro V7 hV7
    have D4 := Lib.hid k2.lt
    have D5 := Lib.hid hb0.size
    have nk2 : Blk V7 (w.heap.size + 1) #[.int .u64 (wd0 x), .int .u64 (wd1 x), .int .u64 (wd2 x), .int .u64 (wd3 x), .int .u64 (wd0 y), .int .u64 (wd1 y), .int .u64 (wd2 y), .int .u64 (wd3 y), .int .u64 (wd0 1), .int .u64 (wd1 1), .int .u64 (wd2 1), .int .u64 (wd3 1)] 67 := by rw [hV7]; exact (blk_full _ [.int .u64 (wd0 x), .int .u64 (wd1 x), .int .u64 (wd2 x), .int .u64 (wd3 x), .int .u64 (wd0 y), .int .u64 (wd1 y), .int .u64 (wd2 y), .int .u64 (wd3 y), .int .u64 (wd0 1), .int .u64 (wd1 1), .int .u64 (wd2 1), .int .u64 (wd3 1)] k2 rfl)
    have nhb0 : Below w.heap.size w V7 := by rw [hV7]; exact (blw_setL hb0 (by omega) 0 [.int .u64 (wd0 x), .int .u64 (wd1 x), .int .u64 (wd2 x), .int .u64 (wd3 x), .int .u64 (wd0 y), .int .u64 (wd1 y), .int .u64 (wd2 y), .int .u64 (wd3 y), .int .u64 (wd0 1), .int .u64 (wd1 1), .int .u64 (wd2 1), .int .u64 (wd3 1)])
    clear k2
    clear hb0
    clear hV7
    have k2 := nk2
    clear nk2
    have hb0 := nhb0
    clear nhb0
    have g2_0 : V7.cell? ⟨(w.heap.size + 1), 0, none⟩ = some (.int .u64 (wd0 x)) := k2.cell 0
    have g2_1 : V7.cell? ⟨(w.heap.size + 1), 1, none⟩ = some (.int .u64 (wd1 x)) := k2.cell 1
    have g2_2 : V7.cell? ⟨(w.heap.size + 1), 2, none⟩ = some (.int .u64 (wd2 x)) := k2.cell 2
    have g2_3 : V7.cell? ⟨(w.heap.size + 1), 3, none⟩ = some (.int .u64 (wd3 x)) := k2.cell 3
    have g2_4 : V7.cell? ⟨(w.heap.size + 1), 4, none⟩ = some (.int .u64 (wd0 y)) := k2.cell 4
    have g2_5 : V7.cell? ⟨(w.heap.size + 1), 5, none⟩ = some (.int .u64 (wd1 y)) := k2.cell 5
    have g2_6 : V7.cell? ⟨(w.heap.size + 1), 6, none⟩ = some (.int .u64 (wd2 y)) := k2.cell 6
    have g2_7 : V7.cell? ⟨(w.heap.size + 1), 7, none⟩ = some (.int .u64 (wd3 y)) := k2.cell 7
    have g2_8 : V7.cell? ⟨(w.heap.size + 1), 8, none⟩ = some (.int .u64 (wd0 1)) := k2.cell 8
    have g2_9 : V7.cell? ⟨(w.heap.size + 1), 9, none⟩ = some (.int .u64 (wd1 1)) := k2.cell 9
    have g2_10 : V7.cell? ⟨(w.heap.size + 1), 10, none⟩ = some (.int .u64 (wd2 1)) := k2.cell 10
    have g2_11 : V7.cell? ⟨(w.heap.size + 1), 11, none⟩ = some (.int .u64 (wd3 1)) := k2.cell 11
    clear k2
    simp [bodyPost, results, Try.results47, go_sem, g2_0, g2_1, g2_2, g2_3, g2_4, g2_5, g2_6, g2_7, g2_8, g2_9, g2_10, g2_11]
    first | exact hb0 | exact ⟨rfl, hb0⟩

theorem alCr1_0 : AllocRuns Try.prog 35 #[.int .u64 0, .int .u64 0, .int .u64 0, .int .u64 0] := fun w => by kernel_rfl

def spR (x : Int) (y : Int) (v : Int) : Bool := (bif decide ((v.sign) ≤ 0) then false else (bif decide (0 < (cmpI v (mulv 35184372088832 35184372088832))) then false else (bif decide (0 ≤ (cmpI x (subv 0 (mulv v 2199023255552)))) then (bif decide ((cmpI x (mulv v 2199023255552)) ≤ 0) then (bif decide (0 ≤ (cmpI y (subv 0 (mulv v 2199023255552)))) then decide ((cmpI y (mulv v 2199023255552)) ≤ 0) else false) else false) else false)))

set_option maxRecDepth 100000 in
set_option maxHeartbeats 4000000 in

theorem SpRight_is (x : Int) (y : Int) (v : Int)  (R0 : Bool) (hR0 : spR x y v = R0) (_ix : InI x) (_iy : InI y) (_iv : InI v)  (w : World)  :
    Calls Try.prog 59 #[.agg #[.int .u64 (wd0 x), .int .u64 (wd1 x), .int .u64 (wd2 x), .int .u64 (wd3 x), .int .u64 (wd0 y), .int .u64 (wd1 y), .int .u64 (wd2 y), .int .u64 (wd3 y), .int .u64 (wd0 v), .int .u64 (wd1 v), .int .u64 (wd2 v), .int .u64 (wd3 v)]] w fun e w' => e = .returned (.bool R0) ∧ Below w.heap.size w w' := by

  have HR0 := Lib.hid hR0
  clear hR0
  go_enter Try.func59, Try.ntmps59
  go_wp2_with fail
  first | refine calls_w ?_ | refine name_world ?_ | refine list_world ?_ | refine post_world ?_
  intro V1 hV1
  have hn : Below w.heap.size w V1 := by rw [hV1]; exact below_a1 _ _
  have nhb0 := hn
  have k1 : Blk V1 w.heap.size #[.int .u64 (wd0 x), .int .u64 (wd1 x), .int .u64 (wd2 x), .int .u64 (wd3 x), .int .u64 (wd0 y), .int .u64 (wd1 y), .int .u64 (wd2 y), .int .u64 (wd3 y), .int .u64 (wd0 v), .int .u64 (wd1 v), .int .u64 (wd2 v), .int .u64 (wd3 v)] 67 := by rw [hV1]; exact (Blk.new _ _ _)
  clear hV1
  have hb0 := nhb0
  clear nhb0
  obtain ⟨r1, hr1⟩ : ∃ o_o : Int, v.sign = o_o := ⟨_, rfl⟩
  have Hr1 := Lib.hid hr1
  clear hr1
  obtain ⟨z2, hz2⟩ : ∃ o_o : Bool, decide (r1 ≤ 0) = o_o := ⟨_, rfl⟩
  cases z2
  · obtain ⟨r3, hr3⟩ : ∃ o_o : Int, mulv 35184372088832 35184372088832 = o_o := ⟨_, rfl⟩
    have Hr3 := Lib.hid hr3
    clear hr3
    have c1_8 : V1.cell? ⟨w.heap.size, 8, none⟩ = some (.int .u64 (wd0 v)) := k1.cell 8
    have c1_9 : V1.cell? ⟨w.heap.size, 9, none⟩ = some (.int .u64 (wd1 v)) := k1.cell 9
    have c1_10 : V1.cell? ⟨w.heap.size, 10, none⟩ = some (.int .u64 (wd2 v)) := k1.cell 10
    have c1_11 : V1.cell? ⟨w.heap.size, 11, none⟩ = some (.int .u64 (wd3 v)) := k1.cell 11
    have l1 := k1.lt
    have Kk1 := Lib.hid k1
    clear k1
    refine wp_region_up V1.heap.size 10 [(true, 0), (true, 1), (false, 2), (true, 3), (true, 4), (true, 5), (true, 6), (false, 7), (false, 8), (false, 9)] (by kernel_rfl) (by kernel_rfl) (fun _ _ d _ _ h => by cases d <;> exact h) ?_
    have hb : Below V1.heap.size V1 V1.drew := (Below.refl _ _).drew
    iterate 2
      refine wpS_takeL rfl rfl ?_
      go_big_quiet_step (rfl)
      refine wpQuiet_nil ?_
    refine wpS_doL rfl ?_
    intro K hK
    go_wp2_with ((go_at_call 22; (with_reducible refine (Sign_v v r1 Hr1.out _iv _).mono ?_); rintro e w2 ⟨rfl, hn⟩))
    replace hb := hb.trans (hn.mono hb.size)
    refine hK.out _ _ (up_iff.2 hb) ?_
    clear hK K
    clear hn
    iterate 4
      refine wpS_takeL rfl rfl ?_
      go_big_quiet_step (rfl)
      refine wpQuiet_nil ?_
    refine wpS_doL rfl ?_
    intro K hK
    go_wp2_with ((go_at_call 62; (with_reducible refine (Of_v 35184372088832 35184372088832 rfl (by unfold In64; omega) _).mono ?_); rintro e w2 ⟨rfl, hn⟩))
    try replace hb := hb.trans (hn.mono hb.size)
    refine hK.out _ _ (up_iff.2 hb) ?_
    clear hK K
    try clear hn
    refine wpS_doL rfl ?_
    intro K hK
    go_wp2_with ((go_at_call 62; (with_reducible refine (Of_v 35184372088832 35184372088832 rfl (by unfold In64; omega) _).mono ?_); rintro e w2 ⟨rfl, hn⟩))
    try replace hb := hb.trans (hn.mono hb.size)
    refine hK.out _ _ (up_iff.2 hb) ?_
    clear hK K
    try clear hn
    refine wpS_doL rfl ?_
    intro K hK
    go_wp2_with ((go_at_call 106; (with_reducible refine (crtimes_is 35184372088832 35184372088832 r3 Hr3.out (by unfold InI b255; omega) (by unfold InI b255; omega)  _).mono ?_); rintro e w2 ⟨rfl, hn⟩))
    try replace hb := hb.trans (hn.mono hb.size)
    refine hK.out _ _ (up_iff.2 hb) ?_
    clear hK K
    try clear hn
    refine wpS_nil ?_
    simp only [List.drop_succ_cons, List.drop_zero]
    first | refine calls_w ?_ | refine name_world ?_ | refine list_world ?_ | refine post_world ?_
    intro U2 hU2
    first | subst hU2 | (rw [← hU2] at hb; clear hU2)
    clear c1_8 c1_9 c1_10 c1_11 l1
    have k1 := Kk1.out.of hb
    clear Kk1
    replace hb0 := hb0.trans (hb.mono hb0.size)
    clear hb
    go_wp2_with fail
    obtain ⟨r4, hr4⟩ : ∃ o_o : Int, cmpI v r3 = o_o := ⟨_, rfl⟩
    have Hr4 := Lib.hid hr4
    clear hr4
    refine (Cmp_v v r3 r4 Hr4.out _iv (Hr3.out ▸ mulv_in 35184372088832 35184372088832) _).mono ?_
    rintro e U3 ⟨rfl, hn⟩
    replace k1 := k1.of hn
    replace hb0 := hb0.trans (hn.mono hb0.size)
    clear hn
    obtain ⟨z5, hz5⟩ : ∃ o_o : Bool, decide (0 < r4) = o_o := ⟨_, rfl⟩
    cases z5
    · go_wp2_with fail
      obtain ⟨r6, hr6⟩ : ∃ o_o : Int, mulv v 2199023255552 = o_o := ⟨_, rfl⟩
      have Hr6 := Lib.hid hr6
      clear hr6
      have c1_8 : U3.cell? ⟨w.heap.size, 8, none⟩ = some (.int .u64 (wd0 v)) := k1.cell 8
      have c1_9 : U3.cell? ⟨w.heap.size, 9, none⟩ = some (.int .u64 (wd1 v)) := k1.cell 9
      have c1_10 : U3.cell? ⟨w.heap.size, 10, none⟩ = some (.int .u64 (wd2 v)) := k1.cell 10
      have c1_11 : U3.cell? ⟨w.heap.size, 11, none⟩ = some (.int .u64 (wd3 v)) := k1.cell 11
      have l1 := k1.lt
      have Kk1 := Lib.hid k1
      clear k1
      refine wp_region_float1 5 4 [(true, 0), (true, 1), (false, 2), (false, 3)] (by kernel_rfl) (by kernel_rfl) (fun _ _ d _ _ => by cases d <;> exact Iff.rfl) rfl rfl rfl alCr1_0 ?_
      have hb : Below U3.heap.size U3 U3.drew := (Below.refl _ _).drew
      iterate 2
        refine wpF_take rfl rfl ?_
        go_big_quiet_step (rfl)
        refine wpQuiet_nil ?_
      refine wpF_do rfl ?_
      intro w1 hg K hK
      replace hb := hb.trans (hg.mono hb.size)
      clear hg
      go_wp2_with ((go_at_call 62; (with_reducible refine (Of_v 2199023255552 2199023255552 rfl (by unfold In64; omega) _).mono ?_); rintro e w2 ⟨rfl, hn⟩))
      refine hK.out _ _ hn ?_
      replace hb := hb.trans (hn.mono hb.size)
      clear hK K
      clear hn
      refine wpF_do rfl ?_
      intro w1 hg K hK
      replace hb := hb.trans (hg.mono hb.size)
      clear hg
      go_wp2_with ((go_at_call 106; (with_reducible refine (crtimes_is v 2199023255552 r6 Hr6.out _iv (by unfold InI b255; omega)  _).mono ?_); rintro e w2 ⟨rfl, hn⟩))
      refine hK.out _ _ hn ?_
      replace hb := hb.trans (hn.mono hb.size)
      clear hK K
      clear hn
      refine wpF_nil ?_
      clear hb
      intro w1 hg hb b1 lb1 nb1
      clear hg
      simp only [Act.put, ptrTo, List.setIfInBounds_toArray, List.set_cons_succ, List.set_cons_zero]
      simp only [List.drop_succ_cons, List.drop_zero]
      clear c1_8 c1_9 c1_10 c1_11 l1
      first | refine calls_w ?_ | refine name_world ?_ | refine list_world ?_ | refine post_world ?_
      intro U4 hU4
      subst hU4
      have D1 := Lib.hid Kk1.out.lt
      have D2 := Lib.hid hb0.size
      have k2 : Blk U4 b1 #[.int .u64 0, .int .u64 0, .int .u64 0, .int .u64 0] 35 := nb1
      have k1 := Kk1.out.of hb
      clear Kk1
      have D3 := Lib.hid lb1
      clear nb1 lb1
      replace hb0 := hb0.trans (hb.mono hb0.size)
      clear hb
      generalize b1 = q2 at *
      have c2_0 : U4.cell? ⟨q2, 0, none⟩ = some (.int .u64 0) := k2.cell 0
      have c2_1 : U4.cell? ⟨q2, 1, none⟩ = some (.int .u64 0) := k2.cell 1
      have c2_2 : U4.cell? ⟨q2, 2, none⟩ = some (.int .u64 0) := k2.cell 2
      have c2_3 : U4.cell? ⟨q2, 3, none⟩ = some (.int .u64 0) := k2.cell 3
      have f2_0 := k2.free 0
      have f2_1 := k2.free 1
      have f2_2 := k2.free 2
      have f2_3 := k2.free 3
      have l2 := k2.lt
      go_wp2_with fail
      clear c2_0 c2_1 c2_2 c2_3 f2_0 f2_1 f2_2 f2_3 l2
      first | refine calls_w ?_ | refine name_world ?_ | refine list_world ?_ | refine post_world ?_
      intro V5 hV5
      have D4 := Lib.hid k1.lt
      have D5 := Lib.hid k2.lt
      have D6 := Lib.hid hb0.size
      have nk1 : Blk V5 w.heap.size #[.int .u64 (wd0 x), .int .u64 (wd1 x), .int .u64 (wd2 x), .int .u64 (wd3 x), .int .u64 (wd0 y), .int .u64 (wd1 y), .int .u64 (wd2 y), .int .u64 (wd3 y), .int .u64 (wd0 v), .int .u64 (wd1 v), .int .u64 (wd2 v), .int .u64 (wd3 v)] 67 := by rw [hV5]; exact (blk_setL k1 (by have := D1.out; have := D3.out; omega) 0 [.int .u64 (wd0 r6), .int .u64 (wd1 r6), .int .u64 (wd2 r6), .int .u64 (wd3 r6)])
      have nk2 : Blk V5 q2 #[.int .u64 (wd0 r6), .int .u64 (wd1 r6), .int .u64 (wd2 r6), .int .u64 (wd3 r6)] 35 := by rw [hV5]; exact (blk_full _ [.int .u64 (wd0 r6), .int .u64 (wd1 r6), .int .u64 (wd2 r6), .int .u64 (wd3 r6)] k2 rfl)
      have nhb0 : Below w.heap.size w V5 := by rw [hV5]; exact (blw_setL hb0 (by have := D2.out; have := D3.out; omega) 0 [.int .u64 (wd0 r6), .int .u64 (wd1 r6), .int .u64 (wd2 r6), .int .u64 (wd3 r6)])
      clear k1 k2
      clear hb0
      clear hV5
      have k1 := nk1
      clear nk1
      have k2 := nk2
      clear nk2
      have hb0 := nhb0
      clear nhb0
      obtain ⟨r7, hr7⟩ : ∃ o_o : Int, subv 0 r6 = o_o := ⟨_, rfl⟩
      have Hr7 := Lib.hid hr7
      clear hr7
      refine (args_eq (a' := #[.agg #[.int .u64 0, .int .u64 0, .int .u64 0, .int .u64 0], .agg #[.int .u64 (wd0 r6), .int .u64 (wd1 r6), .int .u64 (wd2 r6), .int .u64 (wd3 r6)]]) (crless_is 0 r6 r7 Hr7.out (by unfold InI b255; omega) (Hr6.out ▸ mulv_in v 2199023255552)  _) (by kernel_rfl)).mono ?_
      rintro e U6 ⟨rfl, hn⟩
      replace k1 := k1.of hn
      replace k2 := k2.of hn
      replace hb0 := hb0.trans (hn.mono hb0.size)
      clear hn
      have c1_0 : U6.cell? ⟨w.heap.size, 0, none⟩ = some (.int .u64 (wd0 x)) := k1.cell 0
      have c1_1 : U6.cell? ⟨w.heap.size, 1, none⟩ = some (.int .u64 (wd1 x)) := k1.cell 1
      have c1_2 : U6.cell? ⟨w.heap.size, 2, none⟩ = some (.int .u64 (wd2 x)) := k1.cell 2
      have c1_3 : U6.cell? ⟨w.heap.size, 3, none⟩ = some (.int .u64 (wd3 x)) := k1.cell 3
      have l1 := k1.lt
      go_wp2_with fail
      clear c1_0 c1_1 c1_2 c1_3 l1
      first | refine calls_w ?_ | refine name_world ?_ | refine list_world ?_ | refine post_world ?_
      intro V7 hV7
      have D7 := Lib.hid k1.lt
      have D8 := Lib.hid k2.lt
      have D9 := Lib.hid hb0.size
      have hn : Below U6.heap.size U6 V7 := by rw [hV7]; exact below_a1 _ _
      have nk1 := k1.of hn
      have nk2 := k2.of hn
      have nhb0 := hb0.trans (hn.mono hb0.size)
      clear hn
      have k3 : Blk V7 U6.heap.size #[.int .u64 (wd0 r7), .int .u64 (wd1 r7), .int .u64 (wd2 r7), .int .u64 (wd3 r7)] 35 := by rw [hV7]; exact (Blk.new _ _ _)
      clear k1 k2
      clear hb0
      clear hV7
      have k1 := nk1
      clear nk1
      have k2 := nk2
      clear nk2
      have hb0 := nhb0
      clear nhb0
      obtain ⟨r8, hr8⟩ : ∃ o_o : Int, cmpI x r7 = o_o := ⟨_, rfl⟩
      have Hr8 := Lib.hid hr8
      clear hr8
      refine (Cmp_v x r7 r8 Hr8.out _ix (Hr7.out ▸ subv_in 0 r6) _).mono ?_
      rintro e U8 ⟨rfl, hn⟩
      replace k1 := k1.of hn
      replace k2 := k2.of hn
      replace k3 := k3.of hn
      replace hb0 := hb0.trans (hn.mono hb0.size)
      clear hn
      obtain ⟨z9, hz9⟩ : ∃ o_o : Bool, decide (0 ≤ r8) = o_o := ⟨_, rfl⟩
      cases z9
      · have e0 : false = R0 := by rw [← HR0.out]; unfold spR; (try rw [Hr1.out]); (try rw [hz2]); (try rw [Hr3.out]); (try rw [Hr4.out]); (try rw [hz5]); (try rw [Hr6.out]); (try rw [Hr7.out]); (try rw [Hr8.out]); (try rw [hz9]); all_goals first | rfl | simp
        subst e0
        go_wp2
        first | go_ret | go_ret2
        exact ⟨by first | rfl | simp, hb0⟩
      · have c1_0 : U8.cell? ⟨w.heap.size, 0, none⟩ = some (.int .u64 (wd0 x)) := k1.cell 0
        have c1_1 : U8.cell? ⟨w.heap.size, 1, none⟩ = some (.int .u64 (wd1 x)) := k1.cell 1
        have c1_2 : U8.cell? ⟨w.heap.size, 2, none⟩ = some (.int .u64 (wd2 x)) := k1.cell 2
        have c1_3 : U8.cell? ⟨w.heap.size, 3, none⟩ = some (.int .u64 (wd3 x)) := k1.cell 3
        have l1 := k1.lt
        have c2_0 : U8.cell? ⟨q2, 0, none⟩ = some (.int .u64 (wd0 r6)) := k2.cell 0
        have c2_1 : U8.cell? ⟨q2, 1, none⟩ = some (.int .u64 (wd1 r6)) := k2.cell 1
        have c2_2 : U8.cell? ⟨q2, 2, none⟩ = some (.int .u64 (wd2 r6)) := k2.cell 2
        have c2_3 : U8.cell? ⟨q2, 3, none⟩ = some (.int .u64 (wd3 r6)) := k2.cell 3
        have l2 := k2.lt
        go_wp2_with fail
        clear c1_0 c1_1 c1_2 c1_3 l1 c2_0 c2_1 c2_2 c2_3 l2
        obtain ⟨r10, hr10⟩ : ∃ o_o : Int, cmpI x r6 = o_o := ⟨_, rfl⟩
        have Hr10 := Lib.hid hr10
        clear hr10
        refine (Cmp_v x r6 r10 Hr10.out _ix (Hr6.out ▸ mulv_in v 2199023255552) _).mono ?_
        rintro e U9 ⟨rfl, hn⟩
        replace k1 := k1.of hn
        replace k2 := k2.of hn
        replace k3 := k3.of hn
        replace hb0 := hb0.trans (hn.mono hb0.size)
        clear hn
        obtain ⟨z11, hz11⟩ : ∃ o_o : Bool, decide (r10 ≤ 0) = o_o := ⟨_, rfl⟩
        cases z11
        · have e0 : false = R0 := by rw [← HR0.out]; unfold spR; (try rw [Hr1.out]); (try rw [hz2]); (try rw [Hr3.out]); (try rw [Hr4.out]); (try rw [hz5]); (try rw [Hr6.out]); (try rw [Hr7.out]); (try rw [Hr8.out]); (try rw [hz9]); (try rw [Hr10.out]); (try rw [hz11]); all_goals first | rfl | simp
          subst e0
          go_wp2
          first | go_ret | go_ret2
          exact ⟨by first | rfl | simp, hb0⟩
        · have c1_4 : U9.cell? ⟨w.heap.size, 4, none⟩ = some (.int .u64 (wd0 y)) := k1.cell 4
          have c1_5 : U9.cell? ⟨w.heap.size, 5, none⟩ = some (.int .u64 (wd1 y)) := k1.cell 5
          have c1_6 : U9.cell? ⟨w.heap.size, 6, none⟩ = some (.int .u64 (wd2 y)) := k1.cell 6
          have c1_7 : U9.cell? ⟨w.heap.size, 7, none⟩ = some (.int .u64 (wd3 y)) := k1.cell 7
          have l1 := k1.lt
          have c3_0 : U9.cell? ⟨U6.heap.size, 0, none⟩ = some (.int .u64 (wd0 r7)) := k3.cell 0
          have c3_1 : U9.cell? ⟨U6.heap.size, 1, none⟩ = some (.int .u64 (wd1 r7)) := k3.cell 1
          have c3_2 : U9.cell? ⟨U6.heap.size, 2, none⟩ = some (.int .u64 (wd2 r7)) := k3.cell 2
          have c3_3 : U9.cell? ⟨U6.heap.size, 3, none⟩ = some (.int .u64 (wd3 r7)) := k3.cell 3
          have l3 := k3.lt
          go_wp2_with fail
          clear c1_4 c1_5 c1_6 c1_7 l1 c3_0 c3_1 c3_2 c3_3 l3
          obtain ⟨r12, hr12⟩ : ∃ o_o : Int, cmpI y r7 = o_o := ⟨_, rfl⟩
          have Hr12 := Lib.hid hr12
          clear hr12
          refine (Cmp_v y r7 r12 Hr12.out _iy (Hr7.out ▸ subv_in 0 r6) _).mono ?_
          rintro e U10 ⟨rfl, hn⟩
          clear k3
          replace k1 := k1.of hn
          replace k2 := k2.of hn
          replace hb0 := hb0.trans (hn.mono hb0.size)
          clear hn
          obtain ⟨z13, hz13⟩ : ∃ o_o : Bool, decide (0 ≤ r12) = o_o := ⟨_, rfl⟩
          cases z13
          · have e0 : false = R0 := by rw [← HR0.out]; unfold spR; (try rw [Hr1.out]); (try rw [hz2]); (try rw [Hr3.out]); (try rw [Hr4.out]); (try rw [hz5]); (try rw [Hr6.out]); (try rw [Hr7.out]); (try rw [Hr8.out]); (try rw [hz9]); (try rw [Hr10.out]); (try rw [hz11]); (try rw [Hr12.out]); (try rw [hz13]); all_goals first | rfl | simp
            subst e0
            go_wp2
            first | go_ret | go_ret2
            exact ⟨by first | rfl | simp, hb0⟩
          · have c1_4 : U10.cell? ⟨w.heap.size, 4, none⟩ = some (.int .u64 (wd0 y)) := k1.cell 4
            have c1_5 : U10.cell? ⟨w.heap.size, 5, none⟩ = some (.int .u64 (wd1 y)) := k1.cell 5
            have c1_6 : U10.cell? ⟨w.heap.size, 6, none⟩ = some (.int .u64 (wd2 y)) := k1.cell 6
            have c1_7 : U10.cell? ⟨w.heap.size, 7, none⟩ = some (.int .u64 (wd3 y)) := k1.cell 7
            have l1 := k1.lt
            have c2_0 : U10.cell? ⟨q2, 0, none⟩ = some (.int .u64 (wd0 r6)) := k2.cell 0
            have c2_1 : U10.cell? ⟨q2, 1, none⟩ = some (.int .u64 (wd1 r6)) := k2.cell 1
            have c2_2 : U10.cell? ⟨q2, 2, none⟩ = some (.int .u64 (wd2 r6)) := k2.cell 2
            have c2_3 : U10.cell? ⟨q2, 3, none⟩ = some (.int .u64 (wd3 r6)) := k2.cell 3
            have l2 := k2.lt
            go_wp2_with fail
            clear c1_4 c1_5 c1_6 c1_7 l1 c2_0 c2_1 c2_2 c2_3 l2
            obtain ⟨r14, hr14⟩ : ∃ o_o : Int, cmpI y r6 = o_o := ⟨_, rfl⟩
            have Hr14 := Lib.hid hr14
            clear hr14
            refine (Cmp_v y r6 r14 Hr14.out _iy (Hr6.out ▸ mulv_in v 2199023255552) _).mono ?_
            rintro e U11 ⟨rfl, hn⟩
            clear k1 k2
            replace hb0 := hb0.trans (hn.mono hb0.size)
            clear hn
            have e0 : decide (r14 ≤ 0) = R0 := by rw [← HR0.out]; unfold spR; (try rw [Hr1.out]); (try rw [hz2]); (try rw [Hr3.out]); (try rw [Hr4.out]); (try rw [hz5]); (try rw [Hr6.out]); (try rw [Hr7.out]); (try rw [Hr8.out]); (try rw [hz9]); (try rw [Hr10.out]); (try rw [hz11]); (try rw [Hr12.out]); (try rw [hz13]); (try rw [Hr14.out]); all_goals first | rfl | simp
            subst e0
            go_wp2
            first | go_ret | go_ret2
            exact ⟨by first | rfl | simp, hb0⟩
    · have e0 : false = R0 := by rw [← HR0.out]; unfold spR; (try rw [Hr1.out]); (try rw [hz2]); (try rw [Hr3.out]); (try rw [Hr4.out]); (try rw [hz5]); all_goals first | rfl | simp
      subst e0
      go_wp2
      first | go_ret | go_ret2
      exact ⟨by first | rfl | simp, hb0⟩
  · have c1_8 : V1.cell? ⟨w.heap.size, 8, none⟩ = some (.int .u64 (wd0 v)) := k1.cell 8
    have c1_9 : V1.cell? ⟨w.heap.size, 9, none⟩ = some (.int .u64 (wd1 v)) := k1.cell 9
    have c1_10 : V1.cell? ⟨w.heap.size, 10, none⟩ = some (.int .u64 (wd2 v)) := k1.cell 10
    have c1_11 : V1.cell? ⟨w.heap.size, 11, none⟩ = some (.int .u64 (wd3 v)) := k1.cell 11
    have l1 := k1.lt
    have Kk1 := Lib.hid k1
    clear k1
    refine wp_region_up V1.heap.size 10 [(true, 0), (true, 1), (false, 2), (true, 3), (true, 4), (true, 5), (true, 6), (false, 7), (false, 8), (false, 9)] (by kernel_rfl) (by kernel_rfl) (fun _ _ d _ _ h => by cases d <;> exact h) ?_
    have hb : Below V1.heap.size V1 V1.drew := (Below.refl _ _).drew
    iterate 2
      refine wpS_takeL rfl rfl ?_
      go_big_quiet_step (rfl)
      refine wpQuiet_nil ?_
    refine wpS_doL rfl ?_
    intro K hK
    go_wp2_with ((go_at_call 22; (with_reducible refine (Sign_v v r1 Hr1.out _iv _).mono ?_); rintro e w2 ⟨rfl, hn⟩))
    replace hb := hb.trans (hn.mono hb.size)
    refine hK.out _ _ (up_iff.2 hb) ?_
    clear hK K
    clear hn
    iterate 4
      refine wpS_takeL rfl rfl ?_
      go_big_quiet_step (rfl)
      refine wpQuiet_nil ?_
    refine wpS_doL rfl ?_
    intro K hK
    go_wp2_with ((go_at_call 22; (with_reducible refine (Sign_v v r1 Hr1.out _iv _).mono ?_); rintro e w2 ⟨rfl, hn⟩))
    try replace hb := hb.trans (hn.mono hb.size)
    refine hK.out _ _ (up_iff.2 hb) ?_
    clear hK K
    try clear hn
    refine wpS_doL rfl ?_
    intro K hK
    go_wp2_with ((go_at_call 22; (with_reducible refine (Sign_v v r1 Hr1.out _iv _).mono ?_); rintro e w2 ⟨rfl, hn⟩))
    try replace hb := hb.trans (hn.mono hb.size)
    refine hK.out _ _ (up_iff.2 hb) ?_
    clear hK K
    try clear hn
    refine wpS_doL rfl ?_
    intro K hK
    go_wp2_with ((go_at_call 22; (with_reducible refine (Sign_v v r1 Hr1.out _iv _).mono ?_); rintro e w2 ⟨rfl, hn⟩))
    try replace hb := hb.trans (hn.mono hb.size)
    refine hK.out _ _ (up_iff.2 hb) ?_
    clear hK K
    try clear hn
    refine wpS_nil ?_
    simp only [List.drop_succ_cons, List.drop_zero]
    first | refine calls_w ?_ | refine name_world ?_ | refine list_world ?_ | refine post_world ?_
    intro U12 hU12
    first | subst hU12 | (rw [← hU12] at hb; clear hU12)
    clear c1_8 c1_9 c1_10 c1_11 l1
    have k1 := Kk1.out.of hb
    clear Kk1
    replace hb0 := hb0.trans (hb.mono hb0.size)
    clear hb
    have e0 : false = R0 := by rw [← HR0.out]; unfold spR; (try rw [Hr1.out]); (try rw [hz2]); all_goals first | rfl | simp
    subst e0
    go_wp2
    first | go_ret | go_ret2
    exact ⟨by first | rfl | simp, hb0⟩

def wyx (ax : Int) (ay : Int) (bx : Int) (b_y : Int) : Int := ((wrap64 ((hgx ax ay bx b_y) - (lwx ax ay bx b_y))))

def wyy (ax : Int) (ay : Int) (bx : Int) (b_y : Int) : Int := ((wrap64 ((hgy ax ay bx b_y) - (lwy ax ay bx b_y))))

theorem wyx_in (ax : Int) (ay : Int) (bx : Int) (b_y : Int) (_iax : In64 ax) (_iay : In64 ay) (_ibx : In64 bx) (_ib_y : In64 b_y) : InI (wyx ax ay bx b_y) := by
  unfold wyx
  exact (in64_I' (wrap64_in _))

theorem wyy_in (ax : Int) (ay : Int) (bx : Int) (b_y : Int) (_iax : In64 ax) (_iay : In64 ay) (_ibx : In64 bx) (_ib_y : In64 b_y) : InI (wyy ax ay bx b_y) := by
  unfold wyy
  exact (in64_I' (wrap64_in _))

set_option maxRecDepth 100000 in
set_option maxHeartbeats 4000000 in

theorem crway_is (ax : Int) (ay : Int) (bx : Int) (b_y : Int)  (R0 : Int) (R1 : Int) (hR0 : wyx ax ay bx b_y = R0) (hR1 : wyy ax ay bx b_y = R1) (_iax : In64 ax) (_iay : In64 ay) (_ibx : In64 bx) (_ib_y : In64 b_y)  (w : World)  :
    Calls Try.prog 111 #[.agg #[.int .i64 ax, .int .i64 ay, .int .i64 bx, .int .i64 b_y]] w fun e w' => e = .returned (.tuple #[.agg #[.int .u64 (wd0 R0), .int .u64 (wd1 R0), .int .u64 (wd2 R0), .int .u64 (wd3 R0)], .agg #[.int .u64 (wd0 R1), .int .u64 (wd1 R1), .int .u64 (wd2 R1), .int .u64 (wd3 R1)]]) ∧ Below w.heap.size w w' := by

  have HR0 := Lib.hid hR0
  clear hR0
  have HR1 := Lib.hid hR1
  clear hR1
  go_enter Try.func111, Try.ntmps111
  go_wp2_with fail
  first | refine calls_w ?_ | refine name_world ?_ | refine list_world ?_ | refine post_world ?_
  intro V1 hV1
  have hn : Below w.heap.size w V1 := by rw [hV1]; exact below_a3 _ _ _ _
  have nhb0 := hn
  have k1 : Blk V1 w.heap.size #[.int .i64 ax, .int .i64 ay, .int .i64 bx, .int .i64 b_y] 50 := by rw [hV1]; exact (((Blk.new _ _ _).alloc _).alloc _)
  have k2 : Blk V1 (w.heap.size + 1) #[.int .u64 0, .int .u64 0, .int .u64 0, .int .u64 0] 35 := by rw [hV1]; exact ((Blk.new1 _ _ _ _).alloc _)
  have k3 : Blk V1 (w.heap.size + 1 + 1) #[.int .u64 0, .int .u64 0, .int .u64 0, .int .u64 0] 35 := by rw [hV1]; exact (Blk.new2 _ _ _ _ _)
  clear hV1
  have hb0 := nhb0
  clear nhb0
  obtain ⟨r1, hr1⟩ : ∃ o_o : Int, lwx ax ay bx b_y = o_o := ⟨_, rfl⟩
  have Hr1 := Lib.hid hr1
  clear hr1
  obtain ⟨r2, hr2⟩ : ∃ o_o : Int, lwy ax ay bx b_y = o_o := ⟨_, rfl⟩
  have Hr2 := Lib.hid hr2
  clear hr2
  obtain ⟨r3, hr3⟩ : ∃ o_o : Int, hgx ax ay bx b_y = o_o := ⟨_, rfl⟩
  have Hr3 := Lib.hid hr3
  clear hr3
  obtain ⟨r4, hr4⟩ : ∃ o_o : Int, hgy ax ay bx b_y = o_o := ⟨_, rfl⟩
  have Hr4 := Lib.hid hr4
  clear hr4
  refine (Ends_is ax ay bx b_y r1 r2 r3 r4 Hr1.out Hr2.out Hr3.out Hr4.out _iax _iay _ibx _ib_y  _).mono ?_
  rintro e U2 ⟨rfl, hn⟩
  clear k1
  replace k2 := k2.of hn
  replace k3 := k3.of hn
  replace hb0 := hb0.trans (hn.mono hb0.size)
  clear hn
  go_wp2_with fail
  first | refine calls_w ?_ | refine name_world ?_ | refine list_world ?_ | refine post_world ?_
  intro V3 hV3
  have D1 := Lib.hid k2.lt
  have D2 := Lib.hid k3.lt
  have D3 := Lib.hid hb0.size
  have hn : Below U2.heap.size U2 V3 := by rw [hV3]; exact below_a2 _ _ _
  have nk2 := k2.of hn
  have nk3 := k3.of hn
  have nhb0 := hb0.trans (hn.mono hb0.size)
  clear hn
  have k4 : Blk V3 U2.heap.size #[.int .i64 r1, .int .i64 r2] 24 := by rw [hV3]; exact ((Blk.new _ _ _).alloc _)
  have k5 : Blk V3 (U2.heap.size + 1) #[.int .i64 r3, .int .i64 r4] 24 := by rw [hV3]; exact (Blk.new1 _ _ _ _)
  clear k2 k3
  clear hb0
  clear hV3
  have k2 := nk2
  clear nk2
  have k3 := nk3
  clear nk3
  have hb0 := nhb0
  clear nhb0
  obtain ⟨r5, hr5⟩ : ∃ o_o : Int, (wrap64 (r3 - r1)) = o_o := ⟨_, rfl⟩
  have Hr5 := Lib.hid hr5
  clear hr5
  obtain ⟨r6, hr6⟩ : ∃ o_o : Int, (wrap64 (r4 - r2)) = o_o := ⟨_, rfl⟩
  have Hr6 := Lib.hid hr6
  clear hr6
  have c2_0 : V3.cell? ⟨(w.heap.size + 1), 0, none⟩ = some (.int .u64 0) := k2.cell 0
  have c2_1 : V3.cell? ⟨(w.heap.size + 1), 1, none⟩ = some (.int .u64 0) := k2.cell 1
  have c2_2 : V3.cell? ⟨(w.heap.size + 1), 2, none⟩ = some (.int .u64 0) := k2.cell 2
  have c2_3 : V3.cell? ⟨(w.heap.size + 1), 3, none⟩ = some (.int .u64 0) := k2.cell 3
  have f2_0 := k2.free 0
  have f2_1 := k2.free 1
  have f2_2 := k2.free 2
  have f2_3 := k2.free 3
  have l2 := k2.lt
  have c3_0 : V3.cell? ⟨(w.heap.size + 1 + 1), 0, none⟩ = some (.int .u64 0) := k3.cell 0
  have c3_1 : V3.cell? ⟨(w.heap.size + 1 + 1), 1, none⟩ = some (.int .u64 0) := k3.cell 1
  have c3_2 : V3.cell? ⟨(w.heap.size + 1 + 1), 2, none⟩ = some (.int .u64 0) := k3.cell 2
  have c3_3 : V3.cell? ⟨(w.heap.size + 1 + 1), 3, none⟩ = some (.int .u64 0) := k3.cell 3
  have f3_0 := k3.free 0
  have f3_1 := k3.free 1
  have f3_2 := k3.free 2
  have f3_3 := k3.free 3
  have l3 := k3.lt
  have c4_0 : V3.cell? ⟨U2.heap.size, 0, none⟩ = some (.int .i64 r1) := k4.cell 0
  have c4_1 : V3.cell? ⟨U2.heap.size, 1, none⟩ = some (.int .i64 r2) := k4.cell 1
  have l4 := k4.lt
  have c5_0 : V3.cell? ⟨(U2.heap.size + 1), 0, none⟩ = some (.int .i64 r3) := k5.cell 0
  have c5_1 : V3.cell? ⟨(U2.heap.size + 1), 1, none⟩ = some (.int .i64 r4) := k5.cell 1
  have l5 := k5.lt
  have p2_3 : (w.heap.size + 1) ≠ (w.heap.size + 1 + 1) := (by omega)
  have p4_2 : U2.heap.size ≠ (w.heap.size + 1) := (by have := D1.out; omega)
  have p4_3 : U2.heap.size ≠ (w.heap.size + 1 + 1) := (by have := D2.out; omega)
  have p5_2 : (U2.heap.size + 1) ≠ (w.heap.size + 1) := (by have := D1.out; omega)
  have p5_3 : (U2.heap.size + 1) ≠ (w.heap.size + 1 + 1) := (by have := D2.out; omega)
  have Kk2 := Lib.hid k2
  clear k2
  have Kk3 := Lib.hid k3
  clear k3
  have Kk4 := Lib.hid k4
  clear k4
  have Kk5 := Lib.hid k5
  clear k5
  refine wp_region_G 12 [(0, 0), (0, 1), (0, 2), (0, 3), (0, 4), (2, 6), (0, 7), (2, 8), (0, 9), (0, 10), (1, 5), (1, 11), (3, 12), (3, 13)] (by kernel_rfl) (by kernel_rfl) (fun _ _ d _ _ => by cases d <;> exact Iff.rfl) ?_
  have hb : Below V3.heap.size V3 V3.drew := (Below.refl _ _).drew
  iterate 5
    refine wpG_take0 rfl rfl ?_
    go_big_quiet_step (rfl)
    refine wpQuiet_nil ?_
  refine wpG_take2 rfl rfl ?_
  go_big_quiet_step (rfl)
  refine wpQuiet_nil ?_
  refine wpG_take0 rfl rfl ?_
  go_big_quiet_step (rfl)
  refine wpQuiet_nil ?_
  refine wpG_take2 rfl rfl ?_
  go_big_quiet_step (rfl)
  refine wpQuiet_nil ?_
  iterate 2
    refine wpG_take0 rfl rfl ?_
    go_big_quiet_step (rfl)
    refine wpQuiet_nil ?_
  refine wpG_do1 rfl ?_
  intro K hK
  go_wp2_with ((first | (go_at_call 62; (with_reducible refine (Of_v (wrap64 (r3 - r1)) r5 Hr5.out (wrap64_in _) _).mono ?_); rintro e w2 ⟨rfl, hn⟩) | (go_at_call 62; (with_reducible refine (Of_v (wrap64 (r4 - r2)) r6 Hr6.out (wrap64_in _) _).mono ?_); rintro e w2 ⟨rfl, hn⟩)))
  replace hb := hb.trans (hn.mono hb.size)
  refine hK.out _ _ (up_iff.2 hb) ?_
  clear hK K
  clear hn
  refine wpG_do1 rfl ?_
  intro K hK
  go_wp2_with ((first | (go_at_call 62; (with_reducible refine (Of_v (wrap64 (r3 - r1)) r5 Hr5.out (wrap64_in _) _).mono ?_); rintro e w2 ⟨rfl, hn⟩) | (go_at_call 62; (with_reducible refine (Of_v (wrap64 (r4 - r2)) r6 Hr6.out (wrap64_in _) _).mono ?_); rintro e w2 ⟨rfl, hn⟩)))
  replace hb := hb.trans (hn.mono hb.size)
  refine hK.out _ _ (up_iff.2 hb) ?_
  clear hK K
  clear hn
  have Mk2 := Kk2.out.of hb
  have Mk2_0 := Mk2.cell 0
  have Nk2_0 := Mk2.free 0
  have Mk2_1 := Mk2.cell 1
  have Nk2_1 := Mk2.free 1
  have Mk2_2 := Mk2.cell 2
  have Nk2_2 := Mk2.free 2
  have Mk2_3 := Mk2.cell 3
  have Nk2_3 := Mk2.free 3
  have Mk3 := Kk3.out.of hb
  have Mk3_0 := Mk3.cell 0
  have Nk3_0 := Mk3.free 0
  have Mk3_1 := Mk3.cell 1
  have Nk3_1 := Mk3.free 1
  have Mk3_2 := Mk3.cell 2
  have Nk3_2 := Mk3.free 2
  have Mk3_3 := Mk3.cell 3
  have Nk3_3 := Mk3.free 3
  simp only [List.getElem?_toArray, List.getElem?_cons_zero, List.getElem?_cons_succ] at Mk2_0 Mk2_1 Mk2_2 Mk2_3 Mk3_0 Mk3_1 Mk3_2 Mk3_3
  refine wpG_do3 rfl ?_
  intro K hK
  go_wp2_with (fail)
  refine hK.out _ _ ?_
  clear hK K
  refine wpG_do3 rfl ?_
  intro K hK
  go_wp2_with (fail)
  refine hK.out _ _ ?_
  clear hK K
  refine wpG_nil ?_
  refine list_world ?_
  intro U4 hU4
  clear c2_0 c2_1 c2_2 c2_3 f2_0 f2_1 f2_2 f2_3 l2 c3_0 c3_1 c3_2 c3_3 f3_0 f3_1 f3_2 f3_3 l3 c4_0 c4_1 l4 c5_0 c5_1 l5 p2_3 p4_2 p4_3 p5_2 p5_3 Mk2 Mk2_0 Nk2_0 Mk2_1 Nk2_1 Mk2_2 Nk2_2 Mk2_3 Nk2_3 Mk3 Mk3_0 Nk3_0 Mk3_1 Nk3_1 Mk3_2 Nk3_2 Mk3_3 Nk3_3
  have D4 := Lib.hid Kk2.out.lt
  have D5 := Lib.hid Kk3.out.lt
  have D6 := Lib.hid Kk4.out.lt
  have D7 := Lib.hid Kk5.out.lt
  have D8 := Lib.hid hb0.size
  have k2 : Blk U4 (w.heap.size + 1) #[.int .u64 (wd0 r5), .int .u64 (wd1 r5), .int .u64 (wd2 r5), .int .u64 (wd3 r5)] 35 := by rw [hU4]; exact (blk_setL (blk_full _ [.int .u64 (wd0 r5), .int .u64 (wd1 r5), .int .u64 (wd2 r5), .int .u64 (wd3 r5)] (Kk2.out.of hb) rfl) (by omega) 0 [.int .u64 (wd0 r6), .int .u64 (wd1 r6), .int .u64 (wd2 r6), .int .u64 (wd3 r6)])
  have k3 : Blk U4 (w.heap.size + 1 + 1) #[.int .u64 (wd0 r6), .int .u64 (wd1 r6), .int .u64 (wd2 r6), .int .u64 (wd3 r6)] 35 := by rw [hU4]; exact (blk_full _ [.int .u64 (wd0 r6), .int .u64 (wd1 r6), .int .u64 (wd2 r6), .int .u64 (wd3 r6)] (blk_setL (Kk3.out.of hb) (by omega) 0 [.int .u64 (wd0 r5), .int .u64 (wd1 r5), .int .u64 (wd2 r5), .int .u64 (wd3 r5)]) rfl)
  have k4 : Blk U4 U2.heap.size #[.int .i64 r1, .int .i64 r2] 24 := by rw [hU4]; exact (blk_setL (blk_setL (Kk4.out.of hb) (by have := D1.out; omega) 0 [.int .u64 (wd0 r5), .int .u64 (wd1 r5), .int .u64 (wd2 r5), .int .u64 (wd3 r5)]) (by have := D2.out; omega) 0 [.int .u64 (wd0 r6), .int .u64 (wd1 r6), .int .u64 (wd2 r6), .int .u64 (wd3 r6)])
  have k5 : Blk U4 (U2.heap.size + 1) #[.int .i64 r3, .int .i64 r4] 24 := by rw [hU4]; exact (blk_setL (blk_setL (Kk5.out.of hb) (by have := D1.out; omega) 0 [.int .u64 (wd0 r5), .int .u64 (wd1 r5), .int .u64 (wd2 r5), .int .u64 (wd3 r5)]) (by have := D2.out; omega) 0 [.int .u64 (wd0 r6), .int .u64 (wd1 r6), .int .u64 (wd2 r6), .int .u64 (wd3 r6)])
  replace hb0 : Below w.heap.size w U4 := by rw [hU4]; exact (blw_setL (blw_setL (hb0.trans (hb.mono hb0.size)) (by omega) 0 [.int .u64 (wd0 r5), .int .u64 (wd1 r5), .int .u64 (wd2 r5), .int .u64 (wd3 r5)]) (by omega) 0 [.int .u64 (wd0 r6), .int .u64 (wd1 r6), .int .u64 (wd2 r6), .int .u64 (wd3 r6)])
  clear hU4 hb Kk2 Kk3 Kk4 Kk5
  have e0 : r5 = R0 := by rw [← HR0.out]; unfold wyx; (try rw [Hr1.out]); (try rw [Hr2.out]); (try rw [Hr3.out]); (try rw [Hr4.out]); (try rw [Hr5.out]); (try rw [Hr6.out]); all_goals first | rfl | simp
  have e1 : r6 = R1 := by rw [← HR1.out]; unfold wyy; (try rw [Hr1.out]); (try rw [Hr2.out]); (try rw [Hr3.out]); (try rw [Hr4.out]); (try rw [Hr5.out]); (try rw [Hr6.out]); all_goals first | rfl | simp
  subst e0
  subst e1
  go_wp2
  have g2_0 : U4.cell? ⟨(w.heap.size + 1), 0, none⟩ = some (.int .u64 (wd0 r5)) := k2.cell 0
  have g2_1 : U4.cell? ⟨(w.heap.size + 1), 1, none⟩ = some (.int .u64 (wd1 r5)) := k2.cell 1
  have g2_2 : U4.cell? ⟨(w.heap.size + 1), 2, none⟩ = some (.int .u64 (wd2 r5)) := k2.cell 2
  have g2_3 : U4.cell? ⟨(w.heap.size + 1), 3, none⟩ = some (.int .u64 (wd3 r5)) := k2.cell 3
  have g3_0 : U4.cell? ⟨(w.heap.size + 1 + 1), 0, none⟩ = some (.int .u64 (wd0 r6)) := k3.cell 0
  have g3_1 : U4.cell? ⟨(w.heap.size + 1 + 1), 1, none⟩ = some (.int .u64 (wd1 r6)) := k3.cell 1
  have g3_2 : U4.cell? ⟨(w.heap.size + 1 + 1), 2, none⟩ = some (.int .u64 (wd2 r6)) := k3.cell 2
  have g3_3 : U4.cell? ⟨(w.heap.size + 1 + 1), 3, none⟩ = some (.int .u64 (wd3 r6)) := k3.cell 3
  clear k2 k3 k4 k5
  simp [bodyPost, results, Try.results111, go_sem, g2_0, g2_1, g2_2, g2_3, g3_0, g3_1, g3_2, g3_3]
  first | exact hb0 | exact ⟨rfl, hb0⟩

def dotB (ax : Int) (ay : Int) (bx : Int) (b_y : Int) : Bool := (bif (ax == bx) then (bif (ay == b_y) then true else false) else false)

set_option maxRecDepth 100000 in
set_option maxHeartbeats 4000000 in

theorem dot_is (ax : Int) (ay : Int) (bx : Int) (b_y : Int)  (R0 : Bool) (hR0 : dotB ax ay bx b_y = R0) (_iax : In64 ax) (_iay : In64 ay) (_ibx : In64 bx) (_ib_y : In64 b_y)  (w : World)  :
    Calls Try.prog 101 #[.agg #[.int .i64 ax, .int .i64 ay, .int .i64 bx, .int .i64 b_y]] w fun e w' => e = .returned (.bool R0) ∧ Below w.heap.size w w' := by

  have HR0 := Lib.hid hR0
  clear hR0
  obtain ⟨z1, hz1⟩ : ∃ o_o : Bool, (ax == bx) = o_o := ⟨_, rfl⟩
  cases z1
  · have nz1 : ¬ ax = bx := by simpa using hz1
    go_enter Try.func101, Try.ntmps101
    have e0 : false = R0 := by rw [← HR0.out]; unfold dotB; (try rw [hz1]); all_goals first | rfl | simp
    subst e0
    go_wp2
    first | refine post_world ?_
    intro V1 hV1
    have hn : Below w.heap.size w V1 := by rw [hV1]; exact below_a1 _ _
    have nhb0 := hn
    clear hV1
    have hb0 := nhb0
    clear nhb0
    simp [bodyPost, results, Try.results101, go_sem]
    first | exact hb0 | exact ⟨rfl, hb0⟩
  · have qz1 : ax = bx := by simpa using hz1
    clear hz1
    subst qz1
    obtain ⟨z2, hz2⟩ : ∃ o_o : Bool, (ay == b_y) = o_o := ⟨_, rfl⟩
    cases z2
    · have nz2 : ¬ ay = b_y := by simpa using hz2
      go_enter Try.func101, Try.ntmps101
      have e0 : false = R0 := by rw [← HR0.out]; unfold dotB; (try rw [hz2]); all_goals first | rfl | simp
      subst e0
      go_wp2
      first | refine post_world ?_
      intro V2 hV2
      have hn : Below w.heap.size w V2 := by rw [hV2]; exact below_a1 _ _
      have nhb0 := hn
      clear hV2
      have hb0 := nhb0
      clear nhb0
      simp [bodyPost, results, Try.results101, go_sem]
      first | exact hb0 | exact ⟨rfl, hb0⟩
    · have qz2 : ay = b_y := by simpa using hz2
      clear hz2
      subst qz2
      go_enter Try.func101, Try.ntmps101
      have e0 : true = R0 := by rw [← HR0.out]; unfold dotB; all_goals first | rfl | simp
      subst e0
      go_wp2
      first | refine post_world ?_
      intro V3 hV3
      have hn : Below w.heap.size w V3 := by rw [hV3]; exact below_a1 _ _
      have nhb0 := hn
      clear hV3
      have hb0 := nhb0
      clear nhb0
      simp [bodyPost, results, Try.results101, go_sem]
      first | exact hb0 | exact ⟨rfl, hb0⟩
end Go.Proofs.Ytlcbomjdbdgbmaa

namespace Go.Proofs.Ytlcbomjdbdgbmaa
open Go.RowKit

def spC (x : Int) (y : Int) (v : Int) (x2 : Int) (y2 : Int) (v2 : Int) : Int := (bif (spR x y v) then (bif (spR x2 y2 v2) then (or2 (cmpI (mulv x v2) (mulv x2 v)) (cmpI (mulv y v2) (mulv y2 v))) else 0) else 0)

set_option maxRecDepth 100000 in
set_option maxHeartbeats 4000000 in

theorem SpCmp_is (x : Int) (y : Int) (v : Int) (x2 : Int) (y2 : Int) (v2 : Int)  (R0 : Int) (hR0 : spC x y v x2 y2 v2 = R0) (_ix : InI x) (_iy : InI y) (_iv : InI v) (_ix2 : InI x2) (_iy2 : InI y2) (_iv2 : InI v2)  (w : World)  :
    Calls Try.prog 58 #[.agg #[.int .u64 (wd0 x), .int .u64 (wd1 x), .int .u64 (wd2 x), .int .u64 (wd3 x), .int .u64 (wd0 y), .int .u64 (wd1 y), .int .u64 (wd2 y), .int .u64 (wd3 y), .int .u64 (wd0 v), .int .u64 (wd1 v), .int .u64 (wd2 v), .int .u64 (wd3 v)], .agg #[.int .u64 (wd0 x2), .int .u64 (wd1 x2), .int .u64 (wd2 x2), .int .u64 (wd3 x2), .int .u64 (wd0 y2), .int .u64 (wd1 y2), .int .u64 (wd2 y2), .int .u64 (wd3 y2), .int .u64 (wd0 v2), .int .u64 (wd1 v2), .int .u64 (wd2 v2), .int .u64 (wd3 v2)]] w fun e w' => e = .returned (.int .i64 R0) ∧ Below w.heap.size w w' := by

  have HR0 := Lib.hid hR0
  clear hR0
  go_enter Try.func58, Try.ntmps58
  go_wp2_with fail
  first | refine calls_w ?_ | refine name_world ?_ | refine list_world ?_ | refine post_world ?_
  intro V1 hV1
  have hn : Below w.heap.size w V1 := by rw [hV1]; exact below_a2 _ _ _
  have nhb0 := hn
  have k1 : Blk V1 w.heap.size #[.int .u64 (wd0 x), .int .u64 (wd1 x), .int .u64 (wd2 x), .int .u64 (wd3 x), .int .u64 (wd0 y), .int .u64 (wd1 y), .int .u64 (wd2 y), .int .u64 (wd3 y), .int .u64 (wd0 v), .int .u64 (wd1 v), .int .u64 (wd2 v), .int .u64 (wd3 v)] 67 := by rw [hV1]; exact ((Blk.new _ _ _).alloc _)
  have k2 : Blk V1 (w.heap.size + 1) #[.int .u64 (wd0 x2), .int .u64 (wd1 x2), .int .u64 (wd2 x2), .int .u64 (wd3 x2), .int .u64 (wd0 y2), .int .u64 (wd1 y2), .int .u64 (wd2 y2), .int .u64 (wd3 y2), .int .u64 (wd0 v2), .int .u64 (wd1 v2), .int .u64 (wd2 v2), .int .u64 (wd3 v2)] 67 := by rw [hV1]; exact (Blk.new1 _ _ _ _)
  clear hV1
  have hb0 := nhb0
  clear nhb0
  obtain ⟨z1, hz1⟩ : ∃ o_o : Bool, spR x y v = o_o := ⟨_, rfl⟩
  have Hz1 := Lib.hid hz1
  clear hz1
  refine (SpRight_is x y v z1 Hz1.out _ix _iy _iv  _).mono ?_
  rintro e U2 ⟨rfl, hn⟩
  replace k1 := k1.of hn
  replace k2 := k2.of hn
  replace hb0 := hb0.trans (hn.mono hb0.size)
  clear hn
  cases z1
  · have e0 : 0 = R0 := by rw [← HR0.out]; unfold spC; (try rw [Hz1.out]); all_goals first | rfl | simp
    subst e0
    go_wp2
    first | go_ret | go_ret2
    exact ⟨by first | rfl | simp, hb0⟩
  · have c2_0 : U2.cell? ⟨(w.heap.size + 1), 0, none⟩ = some (.int .u64 (wd0 x2)) := k2.cell 0
    have c2_1 : U2.cell? ⟨(w.heap.size + 1), 1, none⟩ = some (.int .u64 (wd1 x2)) := k2.cell 1
    have c2_2 : U2.cell? ⟨(w.heap.size + 1), 2, none⟩ = some (.int .u64 (wd2 x2)) := k2.cell 2
    have c2_3 : U2.cell? ⟨(w.heap.size + 1), 3, none⟩ = some (.int .u64 (wd3 x2)) := k2.cell 3
    have c2_4 : U2.cell? ⟨(w.heap.size + 1), 4, none⟩ = some (.int .u64 (wd0 y2)) := k2.cell 4
    have c2_5 : U2.cell? ⟨(w.heap.size + 1), 5, none⟩ = some (.int .u64 (wd1 y2)) := k2.cell 5
    have c2_6 : U2.cell? ⟨(w.heap.size + 1), 6, none⟩ = some (.int .u64 (wd2 y2)) := k2.cell 6
    have c2_7 : U2.cell? ⟨(w.heap.size + 1), 7, none⟩ = some (.int .u64 (wd3 y2)) := k2.cell 7
    have c2_8 : U2.cell? ⟨(w.heap.size + 1), 8, none⟩ = some (.int .u64 (wd0 v2)) := k2.cell 8
    have c2_9 : U2.cell? ⟨(w.heap.size + 1), 9, none⟩ = some (.int .u64 (wd1 v2)) := k2.cell 9
    have c2_10 : U2.cell? ⟨(w.heap.size + 1), 10, none⟩ = some (.int .u64 (wd2 v2)) := k2.cell 10
    have c2_11 : U2.cell? ⟨(w.heap.size + 1), 11, none⟩ = some (.int .u64 (wd3 v2)) := k2.cell 11
    have l2 := k2.lt
    go_wp2_with fail
    clear c2_0 c2_1 c2_2 c2_3 c2_4 c2_5 c2_6 c2_7 c2_8 c2_9 c2_10 c2_11 l2
    obtain ⟨z2, hz2⟩ : ∃ o_o : Bool, spR x2 y2 v2 = o_o := ⟨_, rfl⟩
    have Hz2 := Lib.hid hz2
    clear hz2
    refine (SpRight_is x2 y2 v2 z2 Hz2.out _ix2 _iy2 _iv2  _).mono ?_
    rintro e U3 ⟨rfl, hn⟩
    replace k1 := k1.of hn
    replace k2 := k2.of hn
    replace hb0 := hb0.trans (hn.mono hb0.size)
    clear hn
    cases z2
    · have e0 : 0 = R0 := by rw [← HR0.out]; unfold spC; (try rw [Hz1.out]); (try rw [Hz2.out]); all_goals first | rfl | simp
      subst e0
      go_wp2
      first | go_ret | go_ret2
      exact ⟨by first | rfl | simp, hb0⟩
    · go_wp2_with fail
      obtain ⟨r3, hr3⟩ : ∃ o_o : Int, mulv x v2 = o_o := ⟨_, rfl⟩
      have Hr3 := Lib.hid hr3
      clear hr3
      obtain ⟨r4, hr4⟩ : ∃ o_o : Int, mulv x2 v = o_o := ⟨_, rfl⟩
      have Hr4 := Lib.hid hr4
      clear hr4
      obtain ⟨r5, hr5⟩ : ∃ o_o : Int, cmpI r3 r4 = o_o := ⟨_, rfl⟩
      have Hr5 := Lib.hid hr5
      clear hr5
      obtain ⟨r6, hr6⟩ : ∃ o_o : Int, mulv y v2 = o_o := ⟨_, rfl⟩
      have Hr6 := Lib.hid hr6
      clear hr6
      have c1_0 : U3.cell? ⟨w.heap.size, 0, none⟩ = some (.int .u64 (wd0 x)) := k1.cell 0
      have c1_1 : U3.cell? ⟨w.heap.size, 1, none⟩ = some (.int .u64 (wd1 x)) := k1.cell 1
      have c1_2 : U3.cell? ⟨w.heap.size, 2, none⟩ = some (.int .u64 (wd2 x)) := k1.cell 2
      have c1_3 : U3.cell? ⟨w.heap.size, 3, none⟩ = some (.int .u64 (wd3 x)) := k1.cell 3
      have c1_4 : U3.cell? ⟨w.heap.size, 4, none⟩ = some (.int .u64 (wd0 y)) := k1.cell 4
      have c1_5 : U3.cell? ⟨w.heap.size, 5, none⟩ = some (.int .u64 (wd1 y)) := k1.cell 5
      have c1_6 : U3.cell? ⟨w.heap.size, 6, none⟩ = some (.int .u64 (wd2 y)) := k1.cell 6
      have c1_7 : U3.cell? ⟨w.heap.size, 7, none⟩ = some (.int .u64 (wd3 y)) := k1.cell 7
      have c1_8 : U3.cell? ⟨w.heap.size, 8, none⟩ = some (.int .u64 (wd0 v)) := k1.cell 8
      have c1_9 : U3.cell? ⟨w.heap.size, 9, none⟩ = some (.int .u64 (wd1 v)) := k1.cell 9
      have c1_10 : U3.cell? ⟨w.heap.size, 10, none⟩ = some (.int .u64 (wd2 v)) := k1.cell 10
      have c1_11 : U3.cell? ⟨w.heap.size, 11, none⟩ = some (.int .u64 (wd3 v)) := k1.cell 11
      have l1 := k1.lt
      have c2_0 : U3.cell? ⟨(w.heap.size + 1), 0, none⟩ = some (.int .u64 (wd0 x2)) := k2.cell 0
      have c2_1 : U3.cell? ⟨(w.heap.size + 1), 1, none⟩ = some (.int .u64 (wd1 x2)) := k2.cell 1
      have c2_2 : U3.cell? ⟨(w.heap.size + 1), 2, none⟩ = some (.int .u64 (wd2 x2)) := k2.cell 2
      have c2_3 : U3.cell? ⟨(w.heap.size + 1), 3, none⟩ = some (.int .u64 (wd3 x2)) := k2.cell 3
      have c2_4 : U3.cell? ⟨(w.heap.size + 1), 4, none⟩ = some (.int .u64 (wd0 y2)) := k2.cell 4
      have c2_5 : U3.cell? ⟨(w.heap.size + 1), 5, none⟩ = some (.int .u64 (wd1 y2)) := k2.cell 5
      have c2_6 : U3.cell? ⟨(w.heap.size + 1), 6, none⟩ = some (.int .u64 (wd2 y2)) := k2.cell 6
      have c2_7 : U3.cell? ⟨(w.heap.size + 1), 7, none⟩ = some (.int .u64 (wd3 y2)) := k2.cell 7
      have c2_8 : U3.cell? ⟨(w.heap.size + 1), 8, none⟩ = some (.int .u64 (wd0 v2)) := k2.cell 8
      have c2_9 : U3.cell? ⟨(w.heap.size + 1), 9, none⟩ = some (.int .u64 (wd1 v2)) := k2.cell 9
      have c2_10 : U3.cell? ⟨(w.heap.size + 1), 10, none⟩ = some (.int .u64 (wd2 v2)) := k2.cell 10
      have c2_11 : U3.cell? ⟨(w.heap.size + 1), 11, none⟩ = some (.int .u64 (wd3 v2)) := k2.cell 11
      have l2 := k2.lt
      have Kk1 := Lib.hid k1
      clear k1
      have Kk2 := Lib.hid k2
      clear k2
      refine wp_region_up U3.heap.size 20 [(true, 0), (true, 1), (true, 2), (true, 3), (true, 5), (true, 6), (true, 7), (true, 8), (true, 11), (true, 12), (true, 13), (true, 14), (true, 16), (true, 17), (true, 18), (true, 19), (false, 4), (false, 9), (false, 10), (false, 15)] (by kernel_rfl) (by kernel_rfl) (fun _ _ d _ _ h => by cases d <;> exact h) ?_
      have hb : Below U3.heap.size U3 U3.drew := (Below.refl _ _).drew
      iterate 16
        refine wpS_takeL rfl rfl ?_
        go_big_quiet_step (rfl)
        refine wpQuiet_nil ?_
      refine wpS_doL rfl ?_
      intro K hK
      go_wp2_with ((first | (go_at_call 106; (with_reducible refine (crtimes_is x v2 r3 Hr3.out _ix _iv2  _).mono ?_); rintro e w2 ⟨rfl, hn⟩) | (go_at_call 106; (with_reducible refine (crtimes_is x2 v r4 Hr4.out _ix2 _iv  _).mono ?_); rintro e w2 ⟨rfl, hn⟩) | (go_at_call 106; (with_reducible refine (crtimes_is y v2 r6 Hr6.out _iy _iv2  _).mono ?_); rintro e w2 ⟨rfl, hn⟩)))
      replace hb := hb.trans (hn.mono hb.size)
      refine hK.out _ _ (up_iff.2 hb) ?_
      clear hK K
      clear hn
      refine wpS_doL rfl ?_
      intro K hK
      go_wp2_with ((first | (go_at_call 106; (with_reducible refine (crtimes_is x v2 r3 Hr3.out _ix _iv2  _).mono ?_); rintro e w2 ⟨rfl, hn⟩) | (go_at_call 106; (with_reducible refine (crtimes_is x2 v r4 Hr4.out _ix2 _iv  _).mono ?_); rintro e w2 ⟨rfl, hn⟩) | (go_at_call 106; (with_reducible refine (crtimes_is y v2 r6 Hr6.out _iy _iv2  _).mono ?_); rintro e w2 ⟨rfl, hn⟩)))
      replace hb := hb.trans (hn.mono hb.size)
      refine hK.out _ _ (up_iff.2 hb) ?_
      clear hK K
      clear hn
      refine wpS_doL rfl ?_
      intro K hK
      go_wp2_with ((go_at_call 107; (with_reducible refine (Cmp_v r3 r4 r5 Hr5.out (Hr3.out ▸ mulv_in x v2) (Hr4.out ▸ mulv_in x2 v) _).mono ?_); rintro e w2 ⟨rfl, hn⟩))
      replace hb := hb.trans (hn.mono hb.size)
      refine hK.out _ _ (up_iff.2 hb) ?_
      clear hK K
      clear hn
      refine wpS_doL rfl ?_
      intro K hK
      go_wp2_with ((first | (go_at_call 106; (with_reducible refine (crtimes_is x v2 r3 Hr3.out _ix _iv2  _).mono ?_); rintro e w2 ⟨rfl, hn⟩) | (go_at_call 106; (with_reducible refine (crtimes_is x2 v r4 Hr4.out _ix2 _iv  _).mono ?_); rintro e w2 ⟨rfl, hn⟩) | (go_at_call 106; (with_reducible refine (crtimes_is y v2 r6 Hr6.out _iy _iv2  _).mono ?_); rintro e w2 ⟨rfl, hn⟩)))
      replace hb := hb.trans (hn.mono hb.size)
      refine hK.out _ _ (up_iff.2 hb) ?_
      clear hK K
      clear hn
      refine wpS_nil ?_
      simp only [List.drop_succ_cons, List.drop_zero]
      first | refine calls_w ?_ | refine name_world ?_ | refine list_world ?_ | refine post_world ?_
      intro U4 hU4
      first | subst hU4 | (rw [← hU4] at hb; clear hU4)
      clear c1_0 c1_1 c1_2 c1_3 c1_4 c1_5 c1_6 c1_7 c1_8 c1_9 c1_10 c1_11 l1 c2_0 c2_1 c2_2 c2_3 c2_4 c2_5 c2_6 c2_7 c2_8 c2_9 c2_10 c2_11 l2
      have k1 := Kk1.out.of hb
      clear Kk1
      have k2 := Kk2.out.of hb
      clear Kk2
      replace hb0 := hb0.trans (hb.mono hb0.size)
      clear hb
      go_wp2_with fail
      obtain ⟨r7, hr7⟩ : ∃ o_o : Int, mulv y2 v = o_o := ⟨_, rfl⟩
      have Hr7 := Lib.hid hr7
      clear hr7
      refine (crtimes_is y2 v r7 Hr7.out _iy2 _iv  _).mono ?_
      rintro e U5 ⟨rfl, hn⟩
      clear k1 k2
      replace hb0 := hb0.trans (hn.mono hb0.size)
      clear hn
      go_wp2_with fail
      obtain ⟨r8, hr8⟩ : ∃ o_o : Int, cmpI r6 r7 = o_o := ⟨_, rfl⟩
      have Hr8 := Lib.hid hr8
      clear hr8
      refine (Cmp_v r6 r7 r8 Hr8.out (Hr6.out ▸ mulv_in y v2) (Hr7.out ▸ mulv_in y2 v) _).mono ?_
      rintro e U6 ⟨rfl, hn⟩
      replace hb0 := hb0.trans (hn.mono hb0.size)
      clear hn
      go_wp2_with fail
      first | refine calls_w ?_ | refine name_world ?_ | refine list_world ?_ | refine post_world ?_
      intro V7 hV7
      have D1 := Lib.hid hb0.size
      have hn : Below U6.heap.size U6 V7 := by rw [hV7]; exact below_a1 _ _
      have nhb0 := hb0.trans (hn.mono hb0.size)
      clear hn
      have k3 : Blk V7 U6.heap.size #[.int .i64 r5, .int .i64 r8] 3 := by rw [hV7]; exact (Blk.new _ _ _)
      clear hb0
      clear hV7
      have hb0 := nhb0
      clear nhb0
      obtain ⟨r9, hr9⟩ : ∃ o_o : Int, or2 r5 r8 = o_o := ⟨_, rfl⟩
      have Hr9 := Lib.hid hr9
      clear hr9
      refine (Or2_v r5 r8 r9 Hr9.out k3).mono ?_
      rintro e U8 ⟨rfl, hn⟩
      clear k3
      replace hb0 := hb0.trans (hn.mono hb0.size)
      clear hn
      have e0 : r9 = R0 := by rw [← HR0.out]; unfold spC; (try rw [Hz1.out]); (try rw [Hz2.out]); (try rw [Hr3.out]); (try rw [Hr4.out]); (try rw [Hr5.out]); (try rw [Hr6.out]); (try rw [Hr7.out]); (try rw [Hr8.out]); (try rw [Hr9.out]); all_goals first | rfl | simp
      subst e0
      go_wp2
      first | go_ret | go_ret2
      exact ⟨by first | rfl | simp, hb0⟩

def whx (x : Int) (y : Int) (v : Int) : Int := (bif (spR x y v) then (bif (((dvr x v).sign) == 0) then (bif (((dvr y v).sign) == 0) then (smk (dvq x v)) else 0) else 0) else 0)

def why (x : Int) (y : Int) (v : Int) : Int := (bif (spR x y v) then (bif (((dvr x v).sign) == 0) then (bif (((dvr y v).sign) == 0) then (smk (dvq y v)) else 0) else 0) else 0)

def whk (x : Int) (y : Int) (v : Int) : Bool := (bif (spR x y v) then (bif (((dvr x v).sign) == 0) then (bif (((dvr y v).sign) == 0) then true else false) else false) else false)

set_option maxRecDepth 100000 in
set_option maxHeartbeats 4000000 in

theorem Whole_is (x : Int) (y : Int) (v : Int)  (R0 : Int) (R1 : Int) (R2 : Bool) (hR0 : whx x y v = R0) (hR1 : why x y v = R1) (hR2 : whk x y v = R2) (_ix : InI x) (_iy : InI y) (_iv : InI v)  (w : World)  :
    Calls Try.prog 60 #[.agg #[.int .u64 (wd0 x), .int .u64 (wd1 x), .int .u64 (wd2 x), .int .u64 (wd3 x), .int .u64 (wd0 y), .int .u64 (wd1 y), .int .u64 (wd2 y), .int .u64 (wd3 y), .int .u64 (wd0 v), .int .u64 (wd1 v), .int .u64 (wd2 v), .int .u64 (wd3 v)]] w fun e w' => e = .returned (.tuple #[.agg #[.int .i64 R0, .int .i64 R1], .bool R2]) ∧ Below w.heap.size w w' := by

  have HR0 := Lib.hid hR0
  clear hR0
  have HR1 := Lib.hid hR1
  clear hR1
  have HR2 := Lib.hid hR2
  clear hR2
  go_enter Try.func60, Try.ntmps60
  go_wp2_with fail
  first | refine calls_w ?_ | refine name_world ?_ | refine list_world ?_ | refine post_world ?_
  intro V1 hV1
  have hn : Below w.heap.size w V1 := by rw [hV1]; exact below_a2 _ _ _
  have nhb0 := hn
  have k1 : Blk V1 w.heap.size #[.int .u64 (wd0 x), .int .u64 (wd1 x), .int .u64 (wd2 x), .int .u64 (wd3 x), .int .u64 (wd0 y), .int .u64 (wd1 y), .int .u64 (wd2 y), .int .u64 (wd3 y), .int .u64 (wd0 v), .int .u64 (wd1 v), .int .u64 (wd2 v), .int .u64 (wd3 v)] 67 := by rw [hV1]; exact ((Blk.new _ _ _).alloc _)
  have k2 : Blk V1 (w.heap.size + 1) #[.int .i64 0, .int .i64 0] 24 := by rw [hV1]; exact (Blk.new1 _ _ _ _)
  clear hV1
  have hb0 := nhb0
  clear nhb0
  obtain ⟨z1, hz1⟩ : ∃ o_o : Bool, spR x y v = o_o := ⟨_, rfl⟩
  have Hz1 := Lib.hid hz1
  clear hz1
  refine (SpRight_is x y v z1 Hz1.out _ix _iy _iv  _).mono ?_
  rintro e U2 ⟨rfl, hn⟩
  replace k1 := k1.of hn
  replace k2 := k2.of hn
  replace hb0 := hb0.trans (hn.mono hb0.size)
  clear hn
  cases z1
  · have c2_0 : U2.cell? ⟨(w.heap.size + 1), 0, none⟩ = some (.int .i64 0) := k2.cell 0
    have c2_1 : U2.cell? ⟨(w.heap.size + 1), 1, none⟩ = some (.int .i64 0) := k2.cell 1
    have f2_0 := k2.free 0
    have f2_1 := k2.free 1
    have l2 := k2.lt
    have e0 : 0 = R0 := by rw [← HR0.out]; unfold whx; (try rw [Hz1.out]); all_goals first | rfl | simp
    have e1 : 0 = R1 := by rw [← HR1.out]; unfold why; (try rw [Hz1.out]); all_goals first | rfl | simp
    have e2 : false = R2 := by rw [← HR2.out]; unfold whk; (try rw [Hz1.out]); all_goals first | rfl | simp
    subst e0
    subst e1
    subst e2
    go_wp2
    clear c2_0 c2_1 f2_0 f2_1 l2
    first | refine post_world ?_
    intro V3 hV3
    have D1 := Lib.hid k1.lt
    have D2 := Lib.hid k2.lt
    have D3 := Lib.hid hb0.size
    clear k1
    have nk2 : Blk V3 (w.heap.size + 1) #[.int .i64 0, .int .i64 0] 24 := by rw [hV3]; exact (blk_full _ [.int .i64 0, .int .i64 0] k2 rfl)
    have nhb0 : Below w.heap.size w V3 := by rw [hV3]; exact (blw_setL hb0 (by omega) 0 [.int .i64 0, .int .i64 0])
    clear k2
    clear hb0
    clear hV3
    have k2 := nk2
    clear nk2
    have hb0 := nhb0
    clear nhb0
    have g2_0 : V3.cell? ⟨(w.heap.size + 1), 0, none⟩ = some (.int .i64 0) := k2.cell 0
    have g2_1 : V3.cell? ⟨(w.heap.size + 1), 1, none⟩ = some (.int .i64 0) := k2.cell 1
    clear k2
    simp [bodyPost, results, Try.results60, go_sem, g2_0, g2_1]
    first | exact hb0 | exact ⟨rfl, hb0⟩
  · have c1_0 : U2.cell? ⟨w.heap.size, 0, none⟩ = some (.int .u64 (wd0 x)) := k1.cell 0
    have c1_1 : U2.cell? ⟨w.heap.size, 1, none⟩ = some (.int .u64 (wd1 x)) := k1.cell 1
    have c1_2 : U2.cell? ⟨w.heap.size, 2, none⟩ = some (.int .u64 (wd2 x)) := k1.cell 2
    have c1_3 : U2.cell? ⟨w.heap.size, 3, none⟩ = some (.int .u64 (wd3 x)) := k1.cell 3
    have c1_8 : U2.cell? ⟨w.heap.size, 8, none⟩ = some (.int .u64 (wd0 v)) := k1.cell 8
    have c1_9 : U2.cell? ⟨w.heap.size, 9, none⟩ = some (.int .u64 (wd1 v)) := k1.cell 9
    have c1_10 : U2.cell? ⟨w.heap.size, 10, none⟩ = some (.int .u64 (wd2 v)) := k1.cell 10
    have c1_11 : U2.cell? ⟨w.heap.size, 11, none⟩ = some (.int .u64 (wd3 v)) := k1.cell 11
    have l1 := k1.lt
    go_wp2_with fail
    clear c1_0 c1_1 c1_2 c1_3 c1_8 c1_9 c1_10 c1_11 l1
    obtain ⟨r2, hr2⟩ : ∃ o_o : Int, dvq x v = o_o := ⟨_, rfl⟩
    have Hr2 := Lib.hid hr2
    clear hr2
    obtain ⟨r3, hr3⟩ : ∃ o_o : Int, dvr x v = o_o := ⟨_, rfl⟩
    have Hr3 := Lib.hid hr3
    clear hr3
    obtain ⟨z4, hz4⟩ : ∃ o_o : Bool, dvOk x v = o_o := ⟨_, rfl⟩
    have Hz4 := Lib.hid hz4
    clear hz4
    refine (Div_v x v r2 r3 z4 Hr2.out Hr3.out Hz4.out _ix _iv _).mono ?_
    rintro e U4 ⟨rfl, hn⟩
    replace k1 := k1.of hn
    replace k2 := k2.of hn
    replace hb0 := hb0.trans (hn.mono hb0.size)
    clear hn
    have c1_4 : U4.cell? ⟨w.heap.size, 4, none⟩ = some (.int .u64 (wd0 y)) := k1.cell 4
    have c1_5 : U4.cell? ⟨w.heap.size, 5, none⟩ = some (.int .u64 (wd1 y)) := k1.cell 5
    have c1_6 : U4.cell? ⟨w.heap.size, 6, none⟩ = some (.int .u64 (wd2 y)) := k1.cell 6
    have c1_7 : U4.cell? ⟨w.heap.size, 7, none⟩ = some (.int .u64 (wd3 y)) := k1.cell 7
    have c1_8 : U4.cell? ⟨w.heap.size, 8, none⟩ = some (.int .u64 (wd0 v)) := k1.cell 8
    have c1_9 : U4.cell? ⟨w.heap.size, 9, none⟩ = some (.int .u64 (wd1 v)) := k1.cell 9
    have c1_10 : U4.cell? ⟨w.heap.size, 10, none⟩ = some (.int .u64 (wd2 v)) := k1.cell 10
    have c1_11 : U4.cell? ⟨w.heap.size, 11, none⟩ = some (.int .u64 (wd3 v)) := k1.cell 11
    have l1 := k1.lt
    go_wp2_with fail
    clear c1_4 c1_5 c1_6 c1_7 c1_8 c1_9 c1_10 c1_11 l1
    first | refine calls_w ?_ | refine name_world ?_ | refine list_world ?_ | refine post_world ?_
    intro V5 hV5
    clear k1
    have D4 := Lib.hid k2.lt
    have D5 := Lib.hid hb0.size
    have hn : Below U4.heap.size U4 V5 := by rw [hV5]; exact below_a2 _ _ _
    have nk2 := k2.of hn
    have nhb0 := hb0.trans (hn.mono hb0.size)
    clear hn
    have k3 : Blk V5 U4.heap.size #[.int .u64 (wd0 r2), .int .u64 (wd1 r2), .int .u64 (wd2 r2), .int .u64 (wd3 r2)] 35 := by rw [hV5]; exact ((Blk.new _ _ _).alloc _)
    have k4 : Blk V5 (U4.heap.size + 1) #[.int .u64 (wd0 r3), .int .u64 (wd1 r3), .int .u64 (wd2 r3), .int .u64 (wd3 r3)] 35 := by rw [hV5]; exact (Blk.new1 _ _ _ _)
    clear k2
    clear hb0
    clear hV5
    have k2 := nk2
    clear nk2
    have hb0 := nhb0
    clear nhb0
    obtain ⟨r5, hr5⟩ : ∃ o_o : Int, dvq y v = o_o := ⟨_, rfl⟩
    have Hr5 := Lib.hid hr5
    clear hr5
    obtain ⟨r6, hr6⟩ : ∃ o_o : Int, dvr y v = o_o := ⟨_, rfl⟩
    have Hr6 := Lib.hid hr6
    clear hr6
    obtain ⟨z7, hz7⟩ : ∃ o_o : Bool, dvOk y v = o_o := ⟨_, rfl⟩
    have Hz7 := Lib.hid hz7
    clear hz7
    refine (Div_v y v r5 r6 z7 Hr5.out Hr6.out Hz7.out _iy _iv _).mono ?_
    rintro e U6 ⟨rfl, hn⟩
    replace k2 := k2.of hn
    replace k3 := k3.of hn
    replace k4 := k4.of hn
    replace hb0 := hb0.trans (hn.mono hb0.size)
    clear hn
    have c4_0 : U6.cell? ⟨(U4.heap.size + 1), 0, none⟩ = some (.int .u64 (wd0 r3)) := k4.cell 0
    have c4_1 : U6.cell? ⟨(U4.heap.size + 1), 1, none⟩ = some (.int .u64 (wd1 r3)) := k4.cell 1
    have c4_2 : U6.cell? ⟨(U4.heap.size + 1), 2, none⟩ = some (.int .u64 (wd2 r3)) := k4.cell 2
    have c4_3 : U6.cell? ⟨(U4.heap.size + 1), 3, none⟩ = some (.int .u64 (wd3 r3)) := k4.cell 3
    have l4 := k4.lt
    have l4_0 : U4.heap.size < U6.heap.size := by have := k4.lt; omega
    go_wp2_with fail
    clear c4_0 c4_1 c4_2 c4_3 l4 l4_0
    first | refine calls_w ?_ | refine name_world ?_ | refine list_world ?_ | refine post_world ?_
    intro V7 hV7
    clear k4
    have D6 := Lib.hid k2.lt
    have D7 := Lib.hid k3.lt
    have D8 := Lib.hid hb0.size
    have hn : Below U6.heap.size U6 V7 := by rw [hV7]; exact below_a2 _ _ _
    have nk2 := k2.of hn
    have nk3 := k3.of hn
    have nhb0 := hb0.trans (hn.mono hb0.size)
    clear hn
    have k5 : Blk V7 U6.heap.size #[.int .u64 (wd0 r5), .int .u64 (wd1 r5), .int .u64 (wd2 r5), .int .u64 (wd3 r5)] 35 := by rw [hV7]; exact ((Blk.new _ _ _).alloc _)
    have k6 : Blk V7 (U6.heap.size + 1) #[.int .u64 (wd0 r6), .int .u64 (wd1 r6), .int .u64 (wd2 r6), .int .u64 (wd3 r6)] 35 := by rw [hV7]; exact (Blk.new1 _ _ _ _)
    clear k2 k3
    clear hb0
    clear hV7
    have k2 := nk2
    clear nk2
    have k3 := nk3
    clear nk3
    have hb0 := nhb0
    clear nhb0
    obtain ⟨r8, hr8⟩ : ∃ o_o : Int, r3.sign = o_o := ⟨_, rfl⟩
    have Hr8 := Lib.hid hr8
    clear hr8
    refine (Sign_v r3 r8 Hr8.out (Hr3.out ▸ dvr_in _ix _iv) _).mono ?_
    rintro e U8 ⟨rfl, hn⟩
    replace k2 := k2.of hn
    replace k3 := k3.of hn
    replace k5 := k5.of hn
    replace k6 := k6.of hn
    replace hb0 := hb0.trans (hn.mono hb0.size)
    clear hn
    obtain ⟨z9, hz9⟩ : ∃ o_o : Bool, (r8 == 0) = o_o := ⟨_, rfl⟩
    cases z9
    · have nz9 : ¬ r8 = 0 := by simpa using hz9
      have c2_0 : U8.cell? ⟨(w.heap.size + 1), 0, none⟩ = some (.int .i64 0) := k2.cell 0
      have c2_1 : U8.cell? ⟨(w.heap.size + 1), 1, none⟩ = some (.int .i64 0) := k2.cell 1
      have f2_0 := k2.free 0
      have f2_1 := k2.free 1
      have l2 := k2.lt
      have e0 : 0 = R0 := by rw [← HR0.out]; unfold whx; (try rw [Hz1.out]); (try rw [Hr2.out]); (try rw [Hr3.out]); (try rw [Hz4.out]); (try rw [Hr5.out]); (try rw [Hr6.out]); (try rw [Hz7.out]); (try rw [Hr8.out]); (try rw [hz9]); all_goals first | rfl | simp
      have e1 : 0 = R1 := by rw [← HR1.out]; unfold why; (try rw [Hz1.out]); (try rw [Hr2.out]); (try rw [Hr3.out]); (try rw [Hz4.out]); (try rw [Hr5.out]); (try rw [Hr6.out]); (try rw [Hz7.out]); (try rw [Hr8.out]); (try rw [hz9]); all_goals first | rfl | simp
      have e2 : false = R2 := by rw [← HR2.out]; unfold whk; (try rw [Hz1.out]); (try rw [Hr2.out]); (try rw [Hr3.out]); (try rw [Hz4.out]); (try rw [Hr5.out]); (try rw [Hr6.out]); (try rw [Hz7.out]); (try rw [Hr8.out]); (try rw [hz9]); all_goals first | rfl | simp
      subst e0
      subst e1
      subst e2
      go_wp2
      clear c2_0 c2_1 f2_0 f2_1 l2
      first | refine post_world ?_
      intro V9 hV9
      clear k6
      have D9 := Lib.hid k2.lt
      have D10 := Lib.hid k3.lt
      have D11 := Lib.hid k5.lt
      have D12 := Lib.hid hb0.size
      clear k3 k5
      have nk2 : Blk V9 (w.heap.size + 1) #[.int .i64 0, .int .i64 0] 24 := by rw [hV9]; exact (blk_full _ [.int .i64 0, .int .i64 0] k2 rfl)
      have nhb0 : Below w.heap.size w V9 := by rw [hV9]; exact (blw_setL hb0 (by omega) 0 [.int .i64 0, .int .i64 0])
      clear k2
      clear hb0
      clear hV9
      have k2 := nk2
      clear nk2
      have hb0 := nhb0
      clear nhb0
      have g2_0 : V9.cell? ⟨(w.heap.size + 1), 0, none⟩ = some (.int .i64 0) := k2.cell 0
      have g2_1 : V9.cell? ⟨(w.heap.size + 1), 1, none⟩ = some (.int .i64 0) := k2.cell 1
      clear k2
      simp [bodyPost, results, Try.results60, go_sem, g2_0, g2_1]
      first | exact hb0 | exact ⟨rfl, hb0⟩
    · obtain rfl : r8 = 0 := by simpa using hz9
      clear hz9
      have c6_0 : U8.cell? ⟨(U6.heap.size + 1), 0, none⟩ = some (.int .u64 (wd0 r6)) := k6.cell 0
      have c6_1 : U8.cell? ⟨(U6.heap.size + 1), 1, none⟩ = some (.int .u64 (wd1 r6)) := k6.cell 1
      have c6_2 : U8.cell? ⟨(U6.heap.size + 1), 2, none⟩ = some (.int .u64 (wd2 r6)) := k6.cell 2
      have c6_3 : U8.cell? ⟨(U6.heap.size + 1), 3, none⟩ = some (.int .u64 (wd3 r6)) := k6.cell 3
      have l6 := k6.lt
      go_wp2_with fail
      clear c6_0 c6_1 c6_2 c6_3 l6
      obtain ⟨r10, hr10⟩ : ∃ o_o : Int, r6.sign = o_o := ⟨_, rfl⟩
      have Hr10 := Lib.hid hr10
      clear hr10
      refine (Sign_v r6 r10 Hr10.out (Hr6.out ▸ dvr_in _iy _iv) _).mono ?_
      rintro e U10 ⟨rfl, hn⟩
      clear k6
      replace k2 := k2.of hn
      replace k3 := k3.of hn
      replace k5 := k5.of hn
      replace hb0 := hb0.trans (hn.mono hb0.size)
      clear hn
      obtain ⟨z11, hz11⟩ : ∃ o_o : Bool, (r10 == 0) = o_o := ⟨_, rfl⟩
      cases z11
      · have nz11 : ¬ r10 = 0 := by simpa using hz11
        have c2_0 : U10.cell? ⟨(w.heap.size + 1), 0, none⟩ = some (.int .i64 0) := k2.cell 0
        have c2_1 : U10.cell? ⟨(w.heap.size + 1), 1, none⟩ = some (.int .i64 0) := k2.cell 1
        have f2_0 := k2.free 0
        have f2_1 := k2.free 1
        have l2 := k2.lt
        have e0 : 0 = R0 := by rw [← HR0.out]; unfold whx; (try rw [Hz1.out]); (try rw [Hr2.out]); (try rw [Hr3.out]); (try rw [Hz4.out]); (try rw [Hr5.out]); (try rw [Hr6.out]); (try rw [Hz7.out]); (try rw [Hr8.out]); (try rw [Hr10.out]); (try rw [hz11]); all_goals first | rfl | simp
        have e1 : 0 = R1 := by rw [← HR1.out]; unfold why; (try rw [Hz1.out]); (try rw [Hr2.out]); (try rw [Hr3.out]); (try rw [Hz4.out]); (try rw [Hr5.out]); (try rw [Hr6.out]); (try rw [Hz7.out]); (try rw [Hr8.out]); (try rw [Hr10.out]); (try rw [hz11]); all_goals first | rfl | simp
        have e2 : false = R2 := by rw [← HR2.out]; unfold whk; (try rw [Hz1.out]); (try rw [Hr2.out]); (try rw [Hr3.out]); (try rw [Hz4.out]); (try rw [Hr5.out]); (try rw [Hr6.out]); (try rw [Hz7.out]); (try rw [Hr8.out]); (try rw [Hr10.out]); (try rw [hz11]); all_goals first | rfl | simp
        subst e0
        subst e1
        subst e2
        go_wp2
        clear c2_0 c2_1 f2_0 f2_1 l2
        first | refine post_world ?_
        intro V11 hV11
        have D13 := Lib.hid k2.lt
        have D14 := Lib.hid k3.lt
        have D15 := Lib.hid k5.lt
        have D16 := Lib.hid hb0.size
        clear k3 k5
        have nk2 : Blk V11 (w.heap.size + 1) #[.int .i64 0, .int .i64 0] 24 := by rw [hV11]; exact (blk_full _ [.int .i64 0, .int .i64 0] k2 rfl)
        have nhb0 : Below w.heap.size w V11 := by rw [hV11]; exact (blw_setL hb0 (by omega) 0 [.int .i64 0, .int .i64 0])
        clear k2
        clear hb0
        clear hV11
        have k2 := nk2
        clear nk2
        have hb0 := nhb0
        clear nhb0
        have g2_0 : V11.cell? ⟨(w.heap.size + 1), 0, none⟩ = some (.int .i64 0) := k2.cell 0
        have g2_1 : V11.cell? ⟨(w.heap.size + 1), 1, none⟩ = some (.int .i64 0) := k2.cell 1
        clear k2
        simp [bodyPost, results, Try.results60, go_sem, g2_0, g2_1]
        first | exact hb0 | exact ⟨rfl, hb0⟩
      · obtain rfl : r10 = 0 := by simpa using hz11
        clear hz11
        have c3_0 : U10.cell? ⟨U4.heap.size, 0, none⟩ = some (.int .u64 (wd0 r2)) := k3.cell 0
        have c3_1 : U10.cell? ⟨U4.heap.size, 1, none⟩ = some (.int .u64 (wd1 r2)) := k3.cell 1
        have c3_2 : U10.cell? ⟨U4.heap.size, 2, none⟩ = some (.int .u64 (wd2 r2)) := k3.cell 2
        have c3_3 : U10.cell? ⟨U4.heap.size, 3, none⟩ = some (.int .u64 (wd3 r2)) := k3.cell 3
        have l3 := k3.lt
        go_wp2_with fail
        clear c3_0 c3_1 c3_2 c3_3 l3
        obtain ⟨r12, hr12⟩ : ∃ o_o : Int, smk r2 = o_o := ⟨_, rfl⟩
        have Hr12 := Lib.hid hr12
        clear hr12
        obtain ⟨z13, hz13⟩ : ∃ o_o : Bool, decide (In64 r2) = o_o := ⟨_, rfl⟩
        have Hz13 := Lib.hid hz13
        clear hz13
        refine (Small_v r2 r12 z13 Hr12.out Hz13.out (Hr2.out ▸ dvq_in _ix _iv) _).mono ?_
        rintro e U12 ⟨rfl, hn⟩
        clear k3
        replace k2 := k2.of hn
        replace k5 := k5.of hn
        replace hb0 := hb0.trans (hn.mono hb0.size)
        clear hn
        have c5_0 : U12.cell? ⟨U6.heap.size, 0, none⟩ = some (.int .u64 (wd0 r5)) := k5.cell 0
        have c5_1 : U12.cell? ⟨U6.heap.size, 1, none⟩ = some (.int .u64 (wd1 r5)) := k5.cell 1
        have c5_2 : U12.cell? ⟨U6.heap.size, 2, none⟩ = some (.int .u64 (wd2 r5)) := k5.cell 2
        have c5_3 : U12.cell? ⟨U6.heap.size, 3, none⟩ = some (.int .u64 (wd3 r5)) := k5.cell 3
        have l5 := k5.lt
        go_wp2_with fail
        clear c5_0 c5_1 c5_2 c5_3 l5
        obtain ⟨r14, hr14⟩ : ∃ o_o : Int, smk r5 = o_o := ⟨_, rfl⟩
        have Hr14 := Lib.hid hr14
        clear hr14
        obtain ⟨z15, hz15⟩ : ∃ o_o : Bool, decide (In64 r5) = o_o := ⟨_, rfl⟩
        have Hz15 := Lib.hid hz15
        clear hz15
        refine (Small_v r5 r14 z15 Hr14.out Hz15.out (Hr5.out ▸ dvq_in _iy _iv) _).mono ?_
        rintro e U13 ⟨rfl, hn⟩
        clear k5
        replace k2 := k2.of hn
        replace hb0 := hb0.trans (hn.mono hb0.size)
        clear hn
        have c2_0 : U13.cell? ⟨(w.heap.size + 1), 0, none⟩ = some (.int .i64 0) := k2.cell 0
        have c2_1 : U13.cell? ⟨(w.heap.size + 1), 1, none⟩ = some (.int .i64 0) := k2.cell 1
        have f2_0 := k2.free 0
        have f2_1 := k2.free 1
        have l2 := k2.lt
        have e0 : r12 = R0 := by rw [← HR0.out]; unfold whx; (try rw [Hz1.out]); (try rw [Hr2.out]); (try rw [Hr3.out]); (try rw [Hz4.out]); (try rw [Hr5.out]); (try rw [Hr6.out]); (try rw [Hz7.out]); (try rw [Hr8.out]); (try rw [Hr10.out]); (try rw [Hr12.out]); (try rw [Hz13.out]); (try rw [Hr14.out]); (try rw [Hz15.out]); all_goals first | rfl | simp
        have e1 : r14 = R1 := by rw [← HR1.out]; unfold why; (try rw [Hz1.out]); (try rw [Hr2.out]); (try rw [Hr3.out]); (try rw [Hz4.out]); (try rw [Hr5.out]); (try rw [Hr6.out]); (try rw [Hz7.out]); (try rw [Hr8.out]); (try rw [Hr10.out]); (try rw [Hr12.out]); (try rw [Hz13.out]); (try rw [Hr14.out]); (try rw [Hz15.out]); all_goals first | rfl | simp
        have e2 : true = R2 := by rw [← HR2.out]; unfold whk; (try rw [Hz1.out]); (try rw [Hr2.out]); (try rw [Hr3.out]); (try rw [Hz4.out]); (try rw [Hr5.out]); (try rw [Hr6.out]); (try rw [Hz7.out]); (try rw [Hr8.out]); (try rw [Hr10.out]); (try rw [Hr12.out]); (try rw [Hz13.out]); (try rw [Hr14.out]); (try rw [Hz15.out]); all_goals first | rfl | simp
        subst e0
        subst e1
        subst e2
        go_wp2
        clear c2_0 c2_1 f2_0 f2_1 l2
        first | refine post_world ?_
        intro V14 hV14
        have D17 := Lib.hid k2.lt
        have D18 := Lib.hid hb0.size
        have nk2 : Blk V14 (w.heap.size + 1) #[.int .i64 r12, .int .i64 r14] 24 := by rw [hV14]; exact (blk_full _ [.int .i64 r12, .int .i64 r14] k2 rfl)
        have nhb0 : Below w.heap.size w V14 := by rw [hV14]; exact (blw_setL hb0 (by omega) 0 [.int .i64 r12, .int .i64 r14])
        clear k2
        clear hb0
        clear hV14
        have k2 := nk2
        clear nk2
        have hb0 := nhb0
        clear nhb0
        have g2_0 : V14.cell? ⟨(w.heap.size + 1), 0, none⟩ = some (.int .i64 r12) := k2.cell 0
        have g2_1 : V14.cell? ⟨(w.heap.size + 1), 1, none⟩ = some (.int .i64 r14) := k2.cell 1
        clear k2
        simp [bodyPost, results, Try.results60, go_sem, g2_0, g2_1]
        first | exact hb0 | exact ⟨rfl, hb0⟩

def sde (ax : Int) (ay : Int) (bx : Int) (b_y : Int) (x : Int) (y : Int) (v : Int) : Int := ((subv (mulv (wyx ax ay bx b_y) (subv y (mulv (lwy ax ay bx b_y) v))) (mulv (wyy ax ay bx b_y) (subv x (mulv (lwx ax ay bx b_y) v)))).sign)

set_option maxRecDepth 100000 in
set_option maxHeartbeats 4000000 in

theorem crside_is (ax : Int) (ay : Int) (bx : Int) (b_y : Int) (x : Int) (y : Int) (v : Int)  (R0 : Int) (hR0 : sde ax ay bx b_y x y v = R0) (_iax : In64 ax) (_iay : In64 ay) (_ibx : In64 bx) (_ib_y : In64 b_y) (_ix : InI x) (_iy : InI y) (_iv : InI v)  (w : World)  :
    Calls Try.prog 112 #[.agg #[.int .i64 ax, .int .i64 ay, .int .i64 bx, .int .i64 b_y], .agg #[.int .u64 (wd0 x), .int .u64 (wd1 x), .int .u64 (wd2 x), .int .u64 (wd3 x), .int .u64 (wd0 y), .int .u64 (wd1 y), .int .u64 (wd2 y), .int .u64 (wd3 y), .int .u64 (wd0 v), .int .u64 (wd1 v), .int .u64 (wd2 v), .int .u64 (wd3 v)]] w fun e w' => e = .returned (.int .i64 R0) ∧ Below w.heap.size w w' := by

  have HR0 := Lib.hid hR0
  clear hR0
  go_enter Try.func112, Try.ntmps112
  go_wp2_with fail
  first | refine calls_w ?_ | refine name_world ?_ | refine list_world ?_ | refine post_world ?_
  intro V1 hV1
  have hn : Below w.heap.size w V1 := by rw [hV1]; exact below_a2 _ _ _
  have nhb0 := hn
  have k1 : Blk V1 w.heap.size #[.int .i64 ax, .int .i64 ay, .int .i64 bx, .int .i64 b_y] 50 := by rw [hV1]; exact ((Blk.new _ _ _).alloc _)
  have k2 : Blk V1 (w.heap.size + 1) #[.int .u64 (wd0 x), .int .u64 (wd1 x), .int .u64 (wd2 x), .int .u64 (wd3 x), .int .u64 (wd0 y), .int .u64 (wd1 y), .int .u64 (wd2 y), .int .u64 (wd3 y), .int .u64 (wd0 v), .int .u64 (wd1 v), .int .u64 (wd2 v), .int .u64 (wd3 v)] 67 := by rw [hV1]; exact (Blk.new1 _ _ _ _)
  clear hV1
  have hb0 := nhb0
  clear nhb0
  obtain ⟨r1, hr1⟩ : ∃ o_o : Int, lwx ax ay bx b_y = o_o := ⟨_, rfl⟩
  have Hr1 := Lib.hid hr1
  clear hr1
  obtain ⟨r2, hr2⟩ : ∃ o_o : Int, lwy ax ay bx b_y = o_o := ⟨_, rfl⟩
  have Hr2 := Lib.hid hr2
  clear hr2
  obtain ⟨r3, hr3⟩ : ∃ o_o : Int, hgx ax ay bx b_y = o_o := ⟨_, rfl⟩
  have Hr3 := Lib.hid hr3
  clear hr3
  obtain ⟨r4, hr4⟩ : ∃ o_o : Int, hgy ax ay bx b_y = o_o := ⟨_, rfl⟩
  have Hr4 := Lib.hid hr4
  clear hr4
  refine (Ends_is ax ay bx b_y r1 r2 r3 r4 Hr1.out Hr2.out Hr3.out Hr4.out _iax _iay _ibx _ib_y  _).mono ?_
  rintro e U2 ⟨rfl, hn⟩
  replace k1 := k1.of hn
  replace k2 := k2.of hn
  replace hb0 := hb0.trans (hn.mono hb0.size)
  clear hn
  have c1_0 : U2.cell? ⟨w.heap.size, 0, none⟩ = some (.int .i64 ax) := k1.cell 0
  have c1_1 : U2.cell? ⟨w.heap.size, 1, none⟩ = some (.int .i64 ay) := k1.cell 1
  have c1_2 : U2.cell? ⟨w.heap.size, 2, none⟩ = some (.int .i64 bx) := k1.cell 2
  have c1_3 : U2.cell? ⟨w.heap.size, 3, none⟩ = some (.int .i64 b_y) := k1.cell 3
  have l1 := k1.lt
  go_wp2_with fail
  clear c1_0 c1_1 c1_2 c1_3 l1
  first | refine calls_w ?_ | refine name_world ?_ | refine list_world ?_ | refine post_world ?_
  intro V3 hV3
  clear k1
  have D1 := Lib.hid k2.lt
  have D2 := Lib.hid hb0.size
  have hn : Below U2.heap.size U2 V3 := by rw [hV3]; exact below_a2 _ _ _
  have nk2 := k2.of hn
  have nhb0 := hb0.trans (hn.mono hb0.size)
  clear hn
  have k3 : Blk V3 U2.heap.size #[.int .i64 r1, .int .i64 r2] 24 := by rw [hV3]; exact ((Blk.new _ _ _).alloc _)
  have k4 : Blk V3 (U2.heap.size + 1) #[.int .i64 r3, .int .i64 r4] 24 := by rw [hV3]; exact (Blk.new1 _ _ _ _)
  clear k2
  clear hb0
  clear hV3
  have k2 := nk2
  clear nk2
  have hb0 := nhb0
  clear nhb0
  obtain ⟨r5, hr5⟩ : ∃ o_o : Int, wyx ax ay bx b_y = o_o := ⟨_, rfl⟩
  have Hr5 := Lib.hid hr5
  clear hr5
  obtain ⟨r6, hr6⟩ : ∃ o_o : Int, wyy ax ay bx b_y = o_o := ⟨_, rfl⟩
  have Hr6 := Lib.hid hr6
  clear hr6
  refine (crway_is ax ay bx b_y r5 r6 Hr5.out Hr6.out _iax _iay _ibx _ib_y  _).mono ?_
  rintro e U4 ⟨rfl, hn⟩
  clear k4
  replace k2 := k2.of hn
  replace k3 := k3.of hn
  replace hb0 := hb0.trans (hn.mono hb0.size)
  clear hn
  go_wp2_with fail
  first | refine calls_w ?_ | refine name_world ?_ | refine list_world ?_ | refine post_world ?_
  intro V5 hV5
  have D3 := Lib.hid k2.lt
  have D4 := Lib.hid k3.lt
  have D5 := Lib.hid hb0.size
  have hn : Below U4.heap.size U4 V5 := by rw [hV5]; exact below_a2 _ _ _
  have nk2 := k2.of hn
  have nk3 := k3.of hn
  have nhb0 := hb0.trans (hn.mono hb0.size)
  clear hn
  have k5 : Blk V5 U4.heap.size #[.int .u64 (wd0 r5), .int .u64 (wd1 r5), .int .u64 (wd2 r5), .int .u64 (wd3 r5)] 35 := by rw [hV5]; exact ((Blk.new _ _ _).alloc _)
  have k6 : Blk V5 (U4.heap.size + 1) #[.int .u64 (wd0 r6), .int .u64 (wd1 r6), .int .u64 (wd2 r6), .int .u64 (wd3 r6)] 35 := by rw [hV5]; exact (Blk.new1 _ _ _ _)
  clear k2 k3
  clear hb0
  clear hV5
  have k2 := nk2
  clear nk2
  have k3 := nk3
  clear nk3
  have hb0 := nhb0
  clear nhb0
  obtain ⟨r7, hr7⟩ : ∃ o_o : Int, mulv r2 v = o_o := ⟨_, rfl⟩
  have Hr7 := Lib.hid hr7
  clear hr7
  obtain ⟨r8, hr8⟩ : ∃ o_o : Int, subv y r7 = o_o := ⟨_, rfl⟩
  have Hr8 := Lib.hid hr8
  clear hr8
  obtain ⟨r9, hr9⟩ : ∃ o_o : Int, mulv r5 r8 = o_o := ⟨_, rfl⟩
  have Hr9 := Lib.hid hr9
  clear hr9
  obtain ⟨r10, hr10⟩ : ∃ o_o : Int, mulv r1 v = o_o := ⟨_, rfl⟩
  have Hr10 := Lib.hid hr10
  clear hr10
  obtain ⟨r11, hr11⟩ : ∃ o_o : Int, subv x r10 = o_o := ⟨_, rfl⟩
  have Hr11 := Lib.hid hr11
  clear hr11
  have c2_0 : V5.cell? ⟨(w.heap.size + 1), 0, none⟩ = some (.int .u64 (wd0 x)) := k2.cell 0
  have c2_1 : V5.cell? ⟨(w.heap.size + 1), 1, none⟩ = some (.int .u64 (wd1 x)) := k2.cell 1
  have c2_2 : V5.cell? ⟨(w.heap.size + 1), 2, none⟩ = some (.int .u64 (wd2 x)) := k2.cell 2
  have c2_3 : V5.cell? ⟨(w.heap.size + 1), 3, none⟩ = some (.int .u64 (wd3 x)) := k2.cell 3
  have c2_4 : V5.cell? ⟨(w.heap.size + 1), 4, none⟩ = some (.int .u64 (wd0 y)) := k2.cell 4
  have c2_5 : V5.cell? ⟨(w.heap.size + 1), 5, none⟩ = some (.int .u64 (wd1 y)) := k2.cell 5
  have c2_6 : V5.cell? ⟨(w.heap.size + 1), 6, none⟩ = some (.int .u64 (wd2 y)) := k2.cell 6
  have c2_7 : V5.cell? ⟨(w.heap.size + 1), 7, none⟩ = some (.int .u64 (wd3 y)) := k2.cell 7
  have c2_8 : V5.cell? ⟨(w.heap.size + 1), 8, none⟩ = some (.int .u64 (wd0 v)) := k2.cell 8
  have c2_9 : V5.cell? ⟨(w.heap.size + 1), 9, none⟩ = some (.int .u64 (wd1 v)) := k2.cell 9
  have c2_10 : V5.cell? ⟨(w.heap.size + 1), 10, none⟩ = some (.int .u64 (wd2 v)) := k2.cell 10
  have c2_11 : V5.cell? ⟨(w.heap.size + 1), 11, none⟩ = some (.int .u64 (wd3 v)) := k2.cell 11
  have l2 := k2.lt
  have c3_0 : V5.cell? ⟨U2.heap.size, 0, none⟩ = some (.int .i64 r1) := k3.cell 0
  have c3_1 : V5.cell? ⟨U2.heap.size, 1, none⟩ = some (.int .i64 r2) := k3.cell 1
  have l3 := k3.lt
  have c5_0 : V5.cell? ⟨U4.heap.size, 0, none⟩ = some (.int .u64 (wd0 r5)) := k5.cell 0
  have c5_1 : V5.cell? ⟨U4.heap.size, 1, none⟩ = some (.int .u64 (wd1 r5)) := k5.cell 1
  have c5_2 : V5.cell? ⟨U4.heap.size, 2, none⟩ = some (.int .u64 (wd2 r5)) := k5.cell 2
  have c5_3 : V5.cell? ⟨U4.heap.size, 3, none⟩ = some (.int .u64 (wd3 r5)) := k5.cell 3
  have l5 := k5.lt
  have c6_0 : V5.cell? ⟨(U4.heap.size + 1), 0, none⟩ = some (.int .u64 (wd0 r6)) := k6.cell 0
  have c6_1 : V5.cell? ⟨(U4.heap.size + 1), 1, none⟩ = some (.int .u64 (wd1 r6)) := k6.cell 1
  have c6_2 : V5.cell? ⟨(U4.heap.size + 1), 2, none⟩ = some (.int .u64 (wd2 r6)) := k6.cell 2
  have c6_3 : V5.cell? ⟨(U4.heap.size + 1), 3, none⟩ = some (.int .u64 (wd3 r6)) := k6.cell 3
  have l6 := k6.lt
  have Kk2 := Lib.hid k2
  clear k2
  have Kk3 := Lib.hid k3
  clear k3
  have Kk5 := Lib.hid k5
  clear k5
  have Kk6 := Lib.hid k6
  clear k6
  refine wp_region_up V5.heap.size 21 [(true, 0), (true, 1), (true, 2), (true, 3), (true, 4), (true, 6), (true, 7), (true, 11), (true, 12), (true, 13), (true, 14), (true, 15), (true, 17), (true, 18), (false, 5), (false, 8), (false, 9), (false, 10), (false, 16), (false, 19), (false, 20)] (by kernel_rfl) (by kernel_rfl) (fun _ _ d _ _ h => by cases d <;> exact h) ?_
  have hb : Below V5.heap.size V5 V5.drew := (Below.refl _ _).drew
  iterate 14
    refine wpS_takeL rfl rfl ?_
    go_big_quiet_step (rfl)
    refine wpQuiet_nil ?_
  refine wpS_doL rfl ?_
  intro K hK
  go_wp2_with ((first | (go_at_call 62; (with_reducible refine (Of_v r2 r2 rfl (Hr2.out ▸ lwy_in ax ay bx b_y _iax _iay _ibx _ib_y) _).mono ?_); rintro e w2 ⟨rfl, hn⟩) | (go_at_call 62; (with_reducible refine (Of_v r1 r1 rfl (Hr1.out ▸ lwx_in ax ay bx b_y _iax _iay _ibx _ib_y) _).mono ?_); rintro e w2 ⟨rfl, hn⟩)))
  replace hb := hb.trans (hn.mono hb.size)
  refine hK.out _ _ (up_iff.2 hb) ?_
  clear hK K
  clear hn
  refine wpS_doL rfl ?_
  intro K hK
  go_wp2_with ((first | (go_at_call 106; (with_reducible refine (crtimes_is r2 v r7 Hr7.out (in64_I' (Hr2.out ▸ lwy_in ax ay bx b_y _iax _iay _ibx _ib_y)) _iv  _).mono ?_); rintro e w2 ⟨rfl, hn⟩) | (go_at_call 106; (with_reducible refine (crtimes_is r5 r8 r9 Hr9.out (Hr5.out ▸ wyx_in ax ay bx b_y _iax _iay _ibx _ib_y) (Hr8.out ▸ subv_in y r7)  _).mono ?_); rintro e w2 ⟨rfl, hn⟩) | (go_at_call 106; (with_reducible refine (crtimes_is r1 v r10 Hr10.out (in64_I' (Hr1.out ▸ lwx_in ax ay bx b_y _iax _iay _ibx _ib_y)) _iv  _).mono ?_); rintro e w2 ⟨rfl, hn⟩)))
  replace hb := hb.trans (hn.mono hb.size)
  refine hK.out _ _ (up_iff.2 hb) ?_
  clear hK K
  clear hn
  refine wpS_doL rfl ?_
  intro K hK
  go_wp2_with ((first | (go_at_call 108; (with_reducible refine (crless_is y r7 r8 Hr8.out _iy (Hr7.out ▸ mulv_in r2 v)  _).mono ?_); rintro e w2 ⟨rfl, hn⟩) | (go_at_call 108; (with_reducible refine (crless_is x r10 r11 Hr11.out _ix (Hr10.out ▸ mulv_in r1 v)  _).mono ?_); rintro e w2 ⟨rfl, hn⟩)))
  replace hb := hb.trans (hn.mono hb.size)
  refine hK.out _ _ (up_iff.2 hb) ?_
  clear hK K
  clear hn
  refine wpS_doL rfl ?_
  intro K hK
  go_wp2_with ((first | (go_at_call 106; (with_reducible refine (crtimes_is r2 v r7 Hr7.out (in64_I' (Hr2.out ▸ lwy_in ax ay bx b_y _iax _iay _ibx _ib_y)) _iv  _).mono ?_); rintro e w2 ⟨rfl, hn⟩) | (go_at_call 106; (with_reducible refine (crtimes_is r5 r8 r9 Hr9.out (Hr5.out ▸ wyx_in ax ay bx b_y _iax _iay _ibx _ib_y) (Hr8.out ▸ subv_in y r7)  _).mono ?_); rintro e w2 ⟨rfl, hn⟩) | (go_at_call 106; (with_reducible refine (crtimes_is r1 v r10 Hr10.out (in64_I' (Hr1.out ▸ lwx_in ax ay bx b_y _iax _iay _ibx _ib_y)) _iv  _).mono ?_); rintro e w2 ⟨rfl, hn⟩)))
  replace hb := hb.trans (hn.mono hb.size)
  refine hK.out _ _ (up_iff.2 hb) ?_
  clear hK K
  clear hn
  refine wpS_doL rfl ?_
  intro K hK
  go_wp2_with ((first | (go_at_call 62; (with_reducible refine (Of_v r2 r2 rfl (Hr2.out ▸ lwy_in ax ay bx b_y _iax _iay _ibx _ib_y) _).mono ?_); rintro e w2 ⟨rfl, hn⟩) | (go_at_call 62; (with_reducible refine (Of_v r1 r1 rfl (Hr1.out ▸ lwx_in ax ay bx b_y _iax _iay _ibx _ib_y) _).mono ?_); rintro e w2 ⟨rfl, hn⟩)))
  replace hb := hb.trans (hn.mono hb.size)
  refine hK.out _ _ (up_iff.2 hb) ?_
  clear hK K
  clear hn
  refine wpS_doL rfl ?_
  intro K hK
  go_wp2_with ((first | (go_at_call 106; (with_reducible refine (crtimes_is r2 v r7 Hr7.out (in64_I' (Hr2.out ▸ lwy_in ax ay bx b_y _iax _iay _ibx _ib_y)) _iv  _).mono ?_); rintro e w2 ⟨rfl, hn⟩) | (go_at_call 106; (with_reducible refine (crtimes_is r5 r8 r9 Hr9.out (Hr5.out ▸ wyx_in ax ay bx b_y _iax _iay _ibx _ib_y) (Hr8.out ▸ subv_in y r7)  _).mono ?_); rintro e w2 ⟨rfl, hn⟩) | (go_at_call 106; (with_reducible refine (crtimes_is r1 v r10 Hr10.out (in64_I' (Hr1.out ▸ lwx_in ax ay bx b_y _iax _iay _ibx _ib_y)) _iv  _).mono ?_); rintro e w2 ⟨rfl, hn⟩)))
  replace hb := hb.trans (hn.mono hb.size)
  refine hK.out _ _ (up_iff.2 hb) ?_
  clear hK K
  clear hn
  refine wpS_doL rfl ?_
  intro K hK
  go_wp2_with ((first | (go_at_call 108; (with_reducible refine (crless_is y r7 r8 Hr8.out _iy (Hr7.out ▸ mulv_in r2 v)  _).mono ?_); rintro e w2 ⟨rfl, hn⟩) | (go_at_call 108; (with_reducible refine (crless_is x r10 r11 Hr11.out _ix (Hr10.out ▸ mulv_in r1 v)  _).mono ?_); rintro e w2 ⟨rfl, hn⟩)))
  replace hb := hb.trans (hn.mono hb.size)
  refine hK.out _ _ (up_iff.2 hb) ?_
  clear hK K
  clear hn
  refine wpS_nil ?_
  simp only [List.drop_succ_cons, List.drop_zero]
  first | refine calls_w ?_ | refine name_world ?_ | refine list_world ?_ | refine post_world ?_
  intro U6 hU6
  first | subst hU6 | (rw [← hU6] at hb; clear hU6)
  clear c2_0 c2_1 c2_2 c2_3 c2_4 c2_5 c2_6 c2_7 c2_8 c2_9 c2_10 c2_11 l2 c3_0 c3_1 l3 c5_0 c5_1 c5_2 c5_3 l5 c6_0 c6_1 c6_2 c6_3 l6
  have k2 := Kk2.out.of hb
  clear Kk2
  have k3 := Kk3.out.of hb
  clear Kk3
  have k5 := Kk5.out.of hb
  clear Kk5
  have k6 := Kk6.out.of hb
  clear Kk6
  replace hb0 := hb0.trans (hb.mono hb0.size)
  clear hb
  go_wp2_with fail
  obtain ⟨r12, hr12⟩ : ∃ o_o : Int, mulv r6 r11 = o_o := ⟨_, rfl⟩
  have Hr12 := Lib.hid hr12
  clear hr12
  refine (crtimes_is r6 r11 r12 Hr12.out (Hr6.out ▸ wyy_in ax ay bx b_y _iax _iay _ibx _ib_y) (Hr11.out ▸ subv_in x r10)  _).mono ?_
  rintro e U7 ⟨rfl, hn⟩
  clear k2 k3 k5 k6
  replace hb0 := hb0.trans (hn.mono hb0.size)
  clear hn
  go_wp2_with fail
  obtain ⟨r13, hr13⟩ : ∃ o_o : Int, subv r9 r12 = o_o := ⟨_, rfl⟩
  have Hr13 := Lib.hid hr13
  clear hr13
  refine (crless_is r9 r12 r13 Hr13.out (Hr9.out ▸ mulv_in r5 r8) (Hr12.out ▸ mulv_in r6 r11)  _).mono ?_
  rintro e U8 ⟨rfl, hn⟩
  replace hb0 := hb0.trans (hn.mono hb0.size)
  clear hn
  go_wp2_with fail
  obtain ⟨r14, hr14⟩ : ∃ o_o : Int, r13.sign = o_o := ⟨_, rfl⟩
  have Hr14 := Lib.hid hr14
  clear hr14
  refine (Sign_v r13 r14 Hr14.out (Hr13.out ▸ subv_in r9 r12) _).mono ?_
  rintro e U9 ⟨rfl, hn⟩
  replace hb0 := hb0.trans (hn.mono hb0.size)
  clear hn
  have e0 : r14 = R0 := by rw [← HR0.out]; unfold sde; (try rw [Hr1.out]); (try rw [Hr2.out]); (try rw [Hr3.out]); (try rw [Hr4.out]); (try rw [Hr5.out]); (try rw [Hr6.out]); (try rw [Hr7.out]); (try rw [Hr8.out]); (try rw [Hr9.out]); (try rw [Hr10.out]); (try rw [Hr11.out]); (try rw [Hr12.out]); (try rw [Hr13.out]); (try rw [Hr14.out]); all_goals first | rfl | simp
  subst e0
  go_wp2
  first | go_ret | go_ret2
  exact ⟨by first | rfl | simp, hb0⟩
end Go.Proofs.Ytlcbomjdbdgbmaa

namespace Go.Proofs.Ytlcbomjdbdgbmaa
open Go.RowKit

def hldB (ax : Int) (ay : Int) (bx : Int) (b_y : Int) (x : Int) (y : Int) (v : Int) : Bool := (bif (sgR ax ay bx b_y) then (bif (spR x y v) then (bif ((sde ax ay bx b_y x y v) == 0) then (bif decide ((spC (atx (lwx ax ay bx b_y) (lwy ax ay bx b_y)) (aty (lwx ax ay bx b_y) (lwy ax ay bx b_y)) (atw (lwx ax ay bx b_y) (lwy ax ay bx b_y)) x y v) ≤ 0) then decide ((spC x y v (atx (hgx ax ay bx b_y) (hgy ax ay bx b_y)) (aty (hgx ax ay bx b_y) (hgy ax ay bx b_y)) (atw (hgx ax ay bx b_y) (hgy ax ay bx b_y))) ≤ 0) else false) else false) else false) else false)

set_option maxRecDepth 100000 in
set_option maxHeartbeats 4000000 in

theorem SegHolds_is (ax : Int) (ay : Int) (bx : Int) (b_y : Int) (x : Int) (y : Int) (v : Int)  (R0 : Bool) (hR0 : hldB ax ay bx b_y x y v = R0) (_iax : In64 ax) (_iay : In64 ay) (_ibx : In64 bx) (_ib_y : In64 b_y) (_ix : InI x) (_iy : InI y) (_iv : InI v)  (w : World)  :
    Calls Try.prog 70 #[.agg #[.int .i64 ax, .int .i64 ay, .int .i64 bx, .int .i64 b_y], .agg #[.int .u64 (wd0 x), .int .u64 (wd1 x), .int .u64 (wd2 x), .int .u64 (wd3 x), .int .u64 (wd0 y), .int .u64 (wd1 y), .int .u64 (wd2 y), .int .u64 (wd3 y), .int .u64 (wd0 v), .int .u64 (wd1 v), .int .u64 (wd2 v), .int .u64 (wd3 v)]] w fun e w' => e = .returned (.bool R0) ∧ Below w.heap.size w w' := by

  have HR0 := Lib.hid hR0
  clear hR0
  go_enter Try.func70, Try.ntmps70
  go_wp2_with fail
  first | refine calls_w ?_ | refine name_world ?_ | refine list_world ?_ | refine post_world ?_
  intro V1 hV1
  have hn : Below w.heap.size w V1 := by rw [hV1]; exact below_a2 _ _ _
  have nhb0 := hn
  have k1 : Blk V1 w.heap.size #[.int .i64 ax, .int .i64 ay, .int .i64 bx, .int .i64 b_y] 50 := by rw [hV1]; exact ((Blk.new _ _ _).alloc _)
  have k2 : Blk V1 (w.heap.size + 1) #[.int .u64 (wd0 x), .int .u64 (wd1 x), .int .u64 (wd2 x), .int .u64 (wd3 x), .int .u64 (wd0 y), .int .u64 (wd1 y), .int .u64 (wd2 y), .int .u64 (wd3 y), .int .u64 (wd0 v), .int .u64 (wd1 v), .int .u64 (wd2 v), .int .u64 (wd3 v)] 67 := by rw [hV1]; exact (Blk.new1 _ _ _ _)
  clear hV1
  have hb0 := nhb0
  clear nhb0
  obtain ⟨z1, hz1⟩ : ∃ o_o : Bool, sgR ax ay bx b_y = o_o := ⟨_, rfl⟩
  have Hz1 := Lib.hid hz1
  clear hz1
  refine (SegRight_is ax ay bx b_y z1 Hz1.out _iax _iay _ibx _ib_y  _).mono ?_
  rintro e U2 ⟨rfl, hn⟩
  replace k1 := k1.of hn
  replace k2 := k2.of hn
  replace hb0 := hb0.trans (hn.mono hb0.size)
  clear hn
  cases z1
  · have e0 : false = R0 := by rw [← HR0.out]; unfold hldB; (try rw [Hz1.out]); all_goals first | rfl | simp
    subst e0
    go_wp2
    first | go_ret | go_ret2
    exact ⟨by first | rfl | simp, hb0⟩
  · have c2_0 : U2.cell? ⟨(w.heap.size + 1), 0, none⟩ = some (.int .u64 (wd0 x)) := k2.cell 0
    have c2_1 : U2.cell? ⟨(w.heap.size + 1), 1, none⟩ = some (.int .u64 (wd1 x)) := k2.cell 1
    have c2_2 : U2.cell? ⟨(w.heap.size + 1), 2, none⟩ = some (.int .u64 (wd2 x)) := k2.cell 2
    have c2_3 : U2.cell? ⟨(w.heap.size + 1), 3, none⟩ = some (.int .u64 (wd3 x)) := k2.cell 3
    have c2_4 : U2.cell? ⟨(w.heap.size + 1), 4, none⟩ = some (.int .u64 (wd0 y)) := k2.cell 4
    have c2_5 : U2.cell? ⟨(w.heap.size + 1), 5, none⟩ = some (.int .u64 (wd1 y)) := k2.cell 5
    have c2_6 : U2.cell? ⟨(w.heap.size + 1), 6, none⟩ = some (.int .u64 (wd2 y)) := k2.cell 6
    have c2_7 : U2.cell? ⟨(w.heap.size + 1), 7, none⟩ = some (.int .u64 (wd3 y)) := k2.cell 7
    have c2_8 : U2.cell? ⟨(w.heap.size + 1), 8, none⟩ = some (.int .u64 (wd0 v)) := k2.cell 8
    have c2_9 : U2.cell? ⟨(w.heap.size + 1), 9, none⟩ = some (.int .u64 (wd1 v)) := k2.cell 9
    have c2_10 : U2.cell? ⟨(w.heap.size + 1), 10, none⟩ = some (.int .u64 (wd2 v)) := k2.cell 10
    have c2_11 : U2.cell? ⟨(w.heap.size + 1), 11, none⟩ = some (.int .u64 (wd3 v)) := k2.cell 11
    have l2 := k2.lt
    go_wp2_with fail
    clear c2_0 c2_1 c2_2 c2_3 c2_4 c2_5 c2_6 c2_7 c2_8 c2_9 c2_10 c2_11 l2
    obtain ⟨z2, hz2⟩ : ∃ o_o : Bool, spR x y v = o_o := ⟨_, rfl⟩
    have Hz2 := Lib.hid hz2
    clear hz2
    refine (SpRight_is x y v z2 Hz2.out _ix _iy _iv  _).mono ?_
    rintro e U3 ⟨rfl, hn⟩
    replace k1 := k1.of hn
    replace k2 := k2.of hn
    replace hb0 := hb0.trans (hn.mono hb0.size)
    clear hn
    cases z2
    · have e0 : false = R0 := by rw [← HR0.out]; unfold hldB; (try rw [Hz1.out]); (try rw [Hz2.out]); all_goals first | rfl | simp
      subst e0
      go_wp2
      first | go_ret | go_ret2
      exact ⟨by first | rfl | simp, hb0⟩
    · have c1_0 : U3.cell? ⟨w.heap.size, 0, none⟩ = some (.int .i64 ax) := k1.cell 0
      have c1_1 : U3.cell? ⟨w.heap.size, 1, none⟩ = some (.int .i64 ay) := k1.cell 1
      have c1_2 : U3.cell? ⟨w.heap.size, 2, none⟩ = some (.int .i64 bx) := k1.cell 2
      have c1_3 : U3.cell? ⟨w.heap.size, 3, none⟩ = some (.int .i64 b_y) := k1.cell 3
      have l1 := k1.lt
      have c2_0 : U3.cell? ⟨(w.heap.size + 1), 0, none⟩ = some (.int .u64 (wd0 x)) := k2.cell 0
      have c2_1 : U3.cell? ⟨(w.heap.size + 1), 1, none⟩ = some (.int .u64 (wd1 x)) := k2.cell 1
      have c2_2 : U3.cell? ⟨(w.heap.size + 1), 2, none⟩ = some (.int .u64 (wd2 x)) := k2.cell 2
      have c2_3 : U3.cell? ⟨(w.heap.size + 1), 3, none⟩ = some (.int .u64 (wd3 x)) := k2.cell 3
      have c2_4 : U3.cell? ⟨(w.heap.size + 1), 4, none⟩ = some (.int .u64 (wd0 y)) := k2.cell 4
      have c2_5 : U3.cell? ⟨(w.heap.size + 1), 5, none⟩ = some (.int .u64 (wd1 y)) := k2.cell 5
      have c2_6 : U3.cell? ⟨(w.heap.size + 1), 6, none⟩ = some (.int .u64 (wd2 y)) := k2.cell 6
      have c2_7 : U3.cell? ⟨(w.heap.size + 1), 7, none⟩ = some (.int .u64 (wd3 y)) := k2.cell 7
      have c2_8 : U3.cell? ⟨(w.heap.size + 1), 8, none⟩ = some (.int .u64 (wd0 v)) := k2.cell 8
      have c2_9 : U3.cell? ⟨(w.heap.size + 1), 9, none⟩ = some (.int .u64 (wd1 v)) := k2.cell 9
      have c2_10 : U3.cell? ⟨(w.heap.size + 1), 10, none⟩ = some (.int .u64 (wd2 v)) := k2.cell 10
      have c2_11 : U3.cell? ⟨(w.heap.size + 1), 11, none⟩ = some (.int .u64 (wd3 v)) := k2.cell 11
      have l2 := k2.lt
      go_wp2_with fail
      clear c1_0 c1_1 c1_2 c1_3 l1 c2_0 c2_1 c2_2 c2_3 c2_4 c2_5 c2_6 c2_7 c2_8 c2_9 c2_10 c2_11 l2
      obtain ⟨r3, hr3⟩ : ∃ o_o : Int, sde ax ay bx b_y x y v = o_o := ⟨_, rfl⟩
      have Hr3 := Lib.hid hr3
      clear hr3
      refine (crside_is ax ay bx b_y x y v r3 Hr3.out _iax _iay _ibx _ib_y _ix _iy _iv  _).mono ?_
      rintro e U4 ⟨rfl, hn⟩
      replace k1 := k1.of hn
      replace k2 := k2.of hn
      replace hb0 := hb0.trans (hn.mono hb0.size)
      clear hn
      obtain ⟨z4, hz4⟩ : ∃ o_o : Bool, (r3 == 0) = o_o := ⟨_, rfl⟩
      cases z4
      · have nz4 : ¬ r3 = 0 := by simpa using hz4
        have e0 : false = R0 := by rw [← HR0.out]; unfold hldB; (try rw [Hz1.out]); (try rw [Hz2.out]); (try rw [Hr3.out]); (try rw [hz4]); all_goals first | rfl | simp
        subst e0
        go_wp2
        first | go_ret | go_ret2
        exact ⟨by first | rfl | simp, hb0⟩
      · obtain rfl : r3 = 0 := by simpa using hz4
        clear hz4
        have c1_0 : U4.cell? ⟨w.heap.size, 0, none⟩ = some (.int .i64 ax) := k1.cell 0
        have c1_1 : U4.cell? ⟨w.heap.size, 1, none⟩ = some (.int .i64 ay) := k1.cell 1
        have c1_2 : U4.cell? ⟨w.heap.size, 2, none⟩ = some (.int .i64 bx) := k1.cell 2
        have c1_3 : U4.cell? ⟨w.heap.size, 3, none⟩ = some (.int .i64 b_y) := k1.cell 3
        have l1 := k1.lt
        go_wp2_with fail
        clear c1_0 c1_1 c1_2 c1_3 l1
        obtain ⟨r5, hr5⟩ : ∃ o_o : Int, lwx ax ay bx b_y = o_o := ⟨_, rfl⟩
        have Hr5 := Lib.hid hr5
        clear hr5
        obtain ⟨r6, hr6⟩ : ∃ o_o : Int, lwy ax ay bx b_y = o_o := ⟨_, rfl⟩
        have Hr6 := Lib.hid hr6
        clear hr6
        obtain ⟨r7, hr7⟩ : ∃ o_o : Int, hgx ax ay bx b_y = o_o := ⟨_, rfl⟩
        have Hr7 := Lib.hid hr7
        clear hr7
        obtain ⟨r8, hr8⟩ : ∃ o_o : Int, hgy ax ay bx b_y = o_o := ⟨_, rfl⟩
        have Hr8 := Lib.hid hr8
        clear hr8
        refine (Ends_is ax ay bx b_y r5 r6 r7 r8 Hr5.out Hr6.out Hr7.out Hr8.out _iax _iay _ibx _ib_y  _).mono ?_
        rintro e U5 ⟨rfl, hn⟩
        clear k1
        replace k2 := k2.of hn
        replace hb0 := hb0.trans (hn.mono hb0.size)
        clear hn
        go_wp2_with fail
        first | refine calls_w ?_ | refine name_world ?_ | refine list_world ?_ | refine post_world ?_
        intro V6 hV6
        have D1 := Lib.hid k2.lt
        have D2 := Lib.hid hb0.size
        have hn : Below U5.heap.size U5 V6 := by rw [hV6]; exact below_a2 _ _ _
        have nk2 := k2.of hn
        have nhb0 := hb0.trans (hn.mono hb0.size)
        clear hn
        have k3 : Blk V6 U5.heap.size #[.int .i64 r5, .int .i64 r6] 24 := by rw [hV6]; exact ((Blk.new _ _ _).alloc _)
        have k4 : Blk V6 (U5.heap.size + 1) #[.int .i64 r7, .int .i64 r8] 24 := by rw [hV6]; exact (Blk.new1 _ _ _ _)
        clear k2
        clear hb0
        clear hV6
        have k2 := nk2
        clear nk2
        have hb0 := nhb0
        clear nhb0
        obtain ⟨r9, hr9⟩ : ∃ o_o : Int, atx r5 r6 = o_o := ⟨_, rfl⟩
        have Hr9 := Lib.hid hr9
        clear hr9
        obtain ⟨r10, hr10⟩ : ∃ o_o : Int, aty r5 r6 = o_o := ⟨_, rfl⟩
        have Hr10 := Lib.hid hr10
        clear hr10
        obtain ⟨r11, hr11⟩ : ∃ o_o : Int, atw r5 r6 = o_o := ⟨_, rfl⟩
        have Hr11 := Lib.hid hr11
        clear hr11
        obtain ⟨r12, hr12⟩ : ∃ o_o : Int, spC r9 r10 r11 x y v = o_o := ⟨_, rfl⟩
        have Hr12 := Lib.hid hr12
        clear hr12
        obtain ⟨z13, hz13⟩ : ∃ o_o : Bool, decide (r12 ≤ 0) = o_o := ⟨_, rfl⟩
        cases z13
        · have c2_0 : V6.cell? ⟨(w.heap.size + 1), 0, none⟩ = some (.int .u64 (wd0 x)) := k2.cell 0
          have c2_1 : V6.cell? ⟨(w.heap.size + 1), 1, none⟩ = some (.int .u64 (wd1 x)) := k2.cell 1
          have c2_2 : V6.cell? ⟨(w.heap.size + 1), 2, none⟩ = some (.int .u64 (wd2 x)) := k2.cell 2
          have c2_3 : V6.cell? ⟨(w.heap.size + 1), 3, none⟩ = some (.int .u64 (wd3 x)) := k2.cell 3
          have c2_4 : V6.cell? ⟨(w.heap.size + 1), 4, none⟩ = some (.int .u64 (wd0 y)) := k2.cell 4
          have c2_5 : V6.cell? ⟨(w.heap.size + 1), 5, none⟩ = some (.int .u64 (wd1 y)) := k2.cell 5
          have c2_6 : V6.cell? ⟨(w.heap.size + 1), 6, none⟩ = some (.int .u64 (wd2 y)) := k2.cell 6
          have c2_7 : V6.cell? ⟨(w.heap.size + 1), 7, none⟩ = some (.int .u64 (wd3 y)) := k2.cell 7
          have c2_8 : V6.cell? ⟨(w.heap.size + 1), 8, none⟩ = some (.int .u64 (wd0 v)) := k2.cell 8
          have c2_9 : V6.cell? ⟨(w.heap.size + 1), 9, none⟩ = some (.int .u64 (wd1 v)) := k2.cell 9
          have c2_10 : V6.cell? ⟨(w.heap.size + 1), 10, none⟩ = some (.int .u64 (wd2 v)) := k2.cell 10
          have c2_11 : V6.cell? ⟨(w.heap.size + 1), 11, none⟩ = some (.int .u64 (wd3 v)) := k2.cell 11
          have l2 := k2.lt
          have c3_0 : V6.cell? ⟨U5.heap.size, 0, none⟩ = some (.int .i64 r5) := k3.cell 0
          have c3_1 : V6.cell? ⟨U5.heap.size, 1, none⟩ = some (.int .i64 r6) := k3.cell 1
          have l3 := k3.lt
          have Kk2 := Lib.hid k2
          clear k2
          have Kk3 := Lib.hid k3
          clear k3
          have Kk4 := Lib.hid k4
          clear k4
          refine wp_region_up V6.heap.size 9 [(true, 0), (true, 2), (false, 1), (false, 3), (true, 4), (true, 5), (true, 6), (true, 7), (false, 8)] (by kernel_rfl) (by kernel_rfl) (fun _ _ d _ _ h => by cases d <;> exact h) ?_
          have hb : Below V6.heap.size V6 V6.drew := (Below.refl _ _).drew
          iterate 2
            refine wpS_takeL rfl rfl ?_
            go_big_quiet_step (rfl)
            refine wpQuiet_nil ?_
          refine wpS_doL rfl ?_
          intro K hK
          go_wp2_with ((go_at_call 47; (with_reducible refine (crAt_is r5 r6 r9 r10 r11 Hr9.out Hr10.out Hr11.out (Hr5.out ▸ lwx_in ax ay bx b_y _iax _iay _ibx _ib_y) (Hr6.out ▸ lwy_in ax ay bx b_y _iax _iay _ibx _ib_y)  _).mono ?_); rintro e w2 ⟨rfl, hn⟩))
          replace hb := hb.trans (hn.mono hb.size)
          refine hK.out _ _ (up_iff.2 hb) ?_
          clear hK K
          clear hn
          refine wpS_doL rfl ?_
          intro K hK
          go_wp2_with ((go_at_call 58; (with_reducible refine (SpCmp_is r9 r10 r11 x y v r12 Hr12.out (Hr9.out ▸ atx_in r5 r6 (Hr5.out ▸ lwx_in ax ay bx b_y _iax _iay _ibx _ib_y) (Hr6.out ▸ lwy_in ax ay bx b_y _iax _iay _ibx _ib_y)) (Hr10.out ▸ aty_in r5 r6 (Hr5.out ▸ lwx_in ax ay bx b_y _iax _iay _ibx _ib_y) (Hr6.out ▸ lwy_in ax ay bx b_y _iax _iay _ibx _ib_y)) (Hr11.out ▸ atw_in r5 r6 (Hr5.out ▸ lwx_in ax ay bx b_y _iax _iay _ibx _ib_y) (Hr6.out ▸ lwy_in ax ay bx b_y _iax _iay _ibx _ib_y)) _ix _iy _iv  _).mono ?_); rintro e w2 ⟨rfl, hn⟩))
          replace hb := hb.trans (hn.mono hb.size)
          refine hK.out _ _ (up_iff.2 hb) ?_
          clear hK K
          clear hn
          iterate 4
            refine wpS_takeL rfl rfl ?_
            go_big_quiet_step (rfl)
            refine wpQuiet_nil ?_
          refine wpS_doL rfl ?_
          intro K hK
          go_wp2_with ((go_at_call 47; (with_reducible refine (crAt_is r5 r6 r9 r10 r11 Hr9.out Hr10.out Hr11.out (Hr5.out ▸ lwx_in ax ay bx b_y _iax _iay _ibx _ib_y) (Hr6.out ▸ lwy_in ax ay bx b_y _iax _iay _ibx _ib_y)  _).mono ?_); rintro e w2 ⟨rfl, hn⟩))
          try replace hb := hb.trans (hn.mono hb.size)
          refine hK.out _ _ (up_iff.2 hb) ?_
          clear hK K
          try clear hn
          refine wpS_nil ?_
          simp only [List.drop_succ_cons, List.drop_zero]
          first | refine calls_w ?_ | refine name_world ?_ | refine list_world ?_ | refine post_world ?_
          intro U7 hU7
          first | subst hU7 | (rw [← hU7] at hb; clear hU7)
          clear c2_0 c2_1 c2_2 c2_3 c2_4 c2_5 c2_6 c2_7 c2_8 c2_9 c2_10 c2_11 l2 c3_0 c3_1 l3
          have k2 := Kk2.out.of hb
          clear Kk2
          have k3 := Kk3.out.of hb
          clear Kk3
          have k4 := Kk4.out.of hb
          clear Kk4
          replace hb0 := hb0.trans (hb.mono hb0.size)
          clear hb
          have e0 : false = R0 := by rw [← HR0.out]; unfold hldB; (try rw [Hz1.out]); (try rw [Hz2.out]); (try rw [Hr3.out]); (try rw [Hr5.out]); (try rw [Hr6.out]); (try rw [Hr7.out]); (try rw [Hr8.out]); (try rw [Hr9.out]); (try rw [Hr10.out]); (try rw [Hr11.out]); (try rw [Hr12.out]); (try rw [hz13]); all_goals first | rfl | simp
          subst e0
          go_wp2
          first | go_ret | go_ret2
          exact ⟨by first | rfl | simp, hb0⟩
        · obtain ⟨r14, hr14⟩ : ∃ o_o : Int, atx r7 r8 = o_o := ⟨_, rfl⟩
          have Hr14 := Lib.hid hr14
          clear hr14
          obtain ⟨r15, hr15⟩ : ∃ o_o : Int, aty r7 r8 = o_o := ⟨_, rfl⟩
          have Hr15 := Lib.hid hr15
          clear hr15
          obtain ⟨r16, hr16⟩ : ∃ o_o : Int, atw r7 r8 = o_o := ⟨_, rfl⟩
          have Hr16 := Lib.hid hr16
          clear hr16
          have c2_0 : V6.cell? ⟨(w.heap.size + 1), 0, none⟩ = some (.int .u64 (wd0 x)) := k2.cell 0
          have c2_1 : V6.cell? ⟨(w.heap.size + 1), 1, none⟩ = some (.int .u64 (wd1 x)) := k2.cell 1
          have c2_2 : V6.cell? ⟨(w.heap.size + 1), 2, none⟩ = some (.int .u64 (wd2 x)) := k2.cell 2
          have c2_3 : V6.cell? ⟨(w.heap.size + 1), 3, none⟩ = some (.int .u64 (wd3 x)) := k2.cell 3
          have c2_4 : V6.cell? ⟨(w.heap.size + 1), 4, none⟩ = some (.int .u64 (wd0 y)) := k2.cell 4
          have c2_5 : V6.cell? ⟨(w.heap.size + 1), 5, none⟩ = some (.int .u64 (wd1 y)) := k2.cell 5
          have c2_6 : V6.cell? ⟨(w.heap.size + 1), 6, none⟩ = some (.int .u64 (wd2 y)) := k2.cell 6
          have c2_7 : V6.cell? ⟨(w.heap.size + 1), 7, none⟩ = some (.int .u64 (wd3 y)) := k2.cell 7
          have c2_8 : V6.cell? ⟨(w.heap.size + 1), 8, none⟩ = some (.int .u64 (wd0 v)) := k2.cell 8
          have c2_9 : V6.cell? ⟨(w.heap.size + 1), 9, none⟩ = some (.int .u64 (wd1 v)) := k2.cell 9
          have c2_10 : V6.cell? ⟨(w.heap.size + 1), 10, none⟩ = some (.int .u64 (wd2 v)) := k2.cell 10
          have c2_11 : V6.cell? ⟨(w.heap.size + 1), 11, none⟩ = some (.int .u64 (wd3 v)) := k2.cell 11
          have l2 := k2.lt
          have c3_0 : V6.cell? ⟨U5.heap.size, 0, none⟩ = some (.int .i64 r5) := k3.cell 0
          have c3_1 : V6.cell? ⟨U5.heap.size, 1, none⟩ = some (.int .i64 r6) := k3.cell 1
          have l3 := k3.lt
          have c4_0 : V6.cell? ⟨(U5.heap.size + 1), 0, none⟩ = some (.int .i64 r7) := k4.cell 0
          have c4_1 : V6.cell? ⟨(U5.heap.size + 1), 1, none⟩ = some (.int .i64 r8) := k4.cell 1
          have l4 := k4.lt
          have Kk2 := Lib.hid k2
          clear k2
          have Kk3 := Lib.hid k3
          clear k3
          have Kk4 := Lib.hid k4
          clear k4
          refine wp_region_up V6.heap.size 9 [(true, 0), (true, 2), (false, 1), (false, 3), (true, 4), (true, 5), (true, 6), (true, 7), (false, 8)] (by kernel_rfl) (by kernel_rfl) (fun _ _ d _ _ h => by cases d <;> exact h) ?_
          have hb : Below V6.heap.size V6 V6.drew := (Below.refl _ _).drew
          iterate 2
            refine wpS_takeL rfl rfl ?_
            go_big_quiet_step (rfl)
            refine wpQuiet_nil ?_
          refine wpS_doL rfl ?_
          intro K hK
          go_wp2_with ((first | (go_at_call 47; (with_reducible refine (crAt_is r5 r6 r9 r10 r11 Hr9.out Hr10.out Hr11.out (Hr5.out ▸ lwx_in ax ay bx b_y _iax _iay _ibx _ib_y) (Hr6.out ▸ lwy_in ax ay bx b_y _iax _iay _ibx _ib_y)  _).mono ?_); rintro e w2 ⟨rfl, hn⟩) | (go_at_call 47; (with_reducible refine (crAt_is r7 r8 r14 r15 r16 Hr14.out Hr15.out Hr16.out (Hr7.out ▸ hgx_in ax ay bx b_y _iax _iay _ibx _ib_y) (Hr8.out ▸ hgy_in ax ay bx b_y _iax _iay _ibx _ib_y)  _).mono ?_); rintro e w2 ⟨rfl, hn⟩)))
          replace hb := hb.trans (hn.mono hb.size)
          refine hK.out _ _ (up_iff.2 hb) ?_
          clear hK K
          clear hn
          refine wpS_doL rfl ?_
          intro K hK
          go_wp2_with ((go_at_call 58; (with_reducible refine (SpCmp_is r9 r10 r11 x y v r12 Hr12.out (Hr9.out ▸ atx_in r5 r6 (Hr5.out ▸ lwx_in ax ay bx b_y _iax _iay _ibx _ib_y) (Hr6.out ▸ lwy_in ax ay bx b_y _iax _iay _ibx _ib_y)) (Hr10.out ▸ aty_in r5 r6 (Hr5.out ▸ lwx_in ax ay bx b_y _iax _iay _ibx _ib_y) (Hr6.out ▸ lwy_in ax ay bx b_y _iax _iay _ibx _ib_y)) (Hr11.out ▸ atw_in r5 r6 (Hr5.out ▸ lwx_in ax ay bx b_y _iax _iay _ibx _ib_y) (Hr6.out ▸ lwy_in ax ay bx b_y _iax _iay _ibx _ib_y)) _ix _iy _iv  _).mono ?_); rintro e w2 ⟨rfl, hn⟩))
          replace hb := hb.trans (hn.mono hb.size)
          refine hK.out _ _ (up_iff.2 hb) ?_
          clear hK K
          clear hn
          iterate 4
            refine wpS_takeL rfl rfl ?_
            go_big_quiet_step (rfl)
            refine wpQuiet_nil ?_
          refine wpS_doL rfl ?_
          intro K hK
          go_wp2_with ((first | (go_at_call 47; (with_reducible refine (crAt_is r5 r6 r9 r10 r11 Hr9.out Hr10.out Hr11.out (Hr5.out ▸ lwx_in ax ay bx b_y _iax _iay _ibx _ib_y) (Hr6.out ▸ lwy_in ax ay bx b_y _iax _iay _ibx _ib_y)  _).mono ?_); rintro e w2 ⟨rfl, hn⟩) | (go_at_call 47; (with_reducible refine (crAt_is r7 r8 r14 r15 r16 Hr14.out Hr15.out Hr16.out (Hr7.out ▸ hgx_in ax ay bx b_y _iax _iay _ibx _ib_y) (Hr8.out ▸ hgy_in ax ay bx b_y _iax _iay _ibx _ib_y)  _).mono ?_); rintro e w2 ⟨rfl, hn⟩)))
          try replace hb := hb.trans (hn.mono hb.size)
          refine hK.out _ _ (up_iff.2 hb) ?_
          clear hK K
          try clear hn
          refine wpS_nil ?_
          simp only [List.drop_succ_cons, List.drop_zero]
          first | refine calls_w ?_ | refine name_world ?_ | refine list_world ?_ | refine post_world ?_
          intro U8 hU8
          first | subst hU8 | (rw [← hU8] at hb; clear hU8)
          clear c2_0 c2_1 c2_2 c2_3 c2_4 c2_5 c2_6 c2_7 c2_8 c2_9 c2_10 c2_11 l2 c3_0 c3_1 l3 c4_0 c4_1 l4
          have k2 := Kk2.out.of hb
          clear Kk2
          have k3 := Kk3.out.of hb
          clear Kk3
          have k4 := Kk4.out.of hb
          clear Kk4
          replace hb0 := hb0.trans (hb.mono hb0.size)
          clear hb
          go_wp2_with fail
          obtain ⟨r17, hr17⟩ : ∃ o_o : Int, spC x y v r14 r15 r16 = o_o := ⟨_, rfl⟩
          have Hr17 := Lib.hid hr17
          clear hr17
          refine (SpCmp_is x y v r14 r15 r16 r17 Hr17.out _ix _iy _iv (Hr14.out ▸ atx_in r7 r8 (Hr7.out ▸ hgx_in ax ay bx b_y _iax _iay _ibx _ib_y) (Hr8.out ▸ hgy_in ax ay bx b_y _iax _iay _ibx _ib_y)) (Hr15.out ▸ aty_in r7 r8 (Hr7.out ▸ hgx_in ax ay bx b_y _iax _iay _ibx _ib_y) (Hr8.out ▸ hgy_in ax ay bx b_y _iax _iay _ibx _ib_y)) (Hr16.out ▸ atw_in r7 r8 (Hr7.out ▸ hgx_in ax ay bx b_y _iax _iay _ibx _ib_y) (Hr8.out ▸ hgy_in ax ay bx b_y _iax _iay _ibx _ib_y))  _).mono ?_
          rintro e U9 ⟨rfl, hn⟩
          clear k2 k3 k4
          replace hb0 := hb0.trans (hn.mono hb0.size)
          clear hn
          have e0 : decide (r17 ≤ 0) = R0 := by rw [← HR0.out]; unfold hldB; (try rw [Hz1.out]); (try rw [Hz2.out]); (try rw [Hr3.out]); (try rw [Hr5.out]); (try rw [Hr6.out]); (try rw [Hr7.out]); (try rw [Hr8.out]); (try rw [Hr9.out]); (try rw [Hr10.out]); (try rw [Hr11.out]); (try rw [Hr12.out]); (try rw [hz13]); (try rw [Hr14.out]); (try rw [Hr15.out]); (try rw [Hr16.out]); (try rw [Hr17.out]); all_goals first | rfl | simp
          subst e0
          go_wp2
          first | go_ret | go_ret2
          exact ⟨by first | rfl | simp, hb0⟩

def slp (ax : Int) (ay : Int) (bx : Int) (b_y : Int) (cx : Int) (cy : Int) (dx : Int) (dy : Int) : Int := (bif (sgR ax ay bx b_y) then (bif (sgR cx cy dx dy) then ((subv (mulv (wyx cx cy dx dy) (wyy ax ay bx b_y)) (mulv (wyy cx cy dx dy) (wyx ax ay bx b_y))).sign) else 0) else 0)

set_option maxRecDepth 100000 in
set_option maxHeartbeats 4000000 in

theorem Slope_is (ax : Int) (ay : Int) (bx : Int) (b_y : Int) (cx : Int) (cy : Int) (dx : Int) (dy : Int)  (R0 : Int) (hR0 : slp ax ay bx b_y cx cy dx dy = R0) (_iax : In64 ax) (_iay : In64 ay) (_ibx : In64 bx) (_ib_y : In64 b_y) (_icx : In64 cx) (_icy : In64 cy) (_idx : In64 dx) (_idy : In64 dy)  (w : World)  :
    Calls Try.prog 63 #[.agg #[.int .i64 ax, .int .i64 ay, .int .i64 bx, .int .i64 b_y], .agg #[.int .i64 cx, .int .i64 cy, .int .i64 dx, .int .i64 dy]] w fun e w' => e = .returned (.int .i64 R0) ∧ Below w.heap.size w w' := by

  have HR0 := Lib.hid hR0
  clear hR0
  go_enter Try.func63, Try.ntmps63
  go_wp2_with fail
  first | refine calls_w ?_ | refine name_world ?_ | refine list_world ?_ | refine post_world ?_
  intro V1 hV1
  have hn : Below w.heap.size w V1 := by rw [hV1]; exact below_a2 _ _ _
  have nhb0 := hn
  have k1 : Blk V1 w.heap.size #[.int .i64 ax, .int .i64 ay, .int .i64 bx, .int .i64 b_y] 50 := by rw [hV1]; exact ((Blk.new _ _ _).alloc _)
  have k2 : Blk V1 (w.heap.size + 1) #[.int .i64 cx, .int .i64 cy, .int .i64 dx, .int .i64 dy] 50 := by rw [hV1]; exact (Blk.new1 _ _ _ _)
  clear hV1
  have hb0 := nhb0
  clear nhb0
  obtain ⟨z1, hz1⟩ : ∃ o_o : Bool, sgR ax ay bx b_y = o_o := ⟨_, rfl⟩
  have Hz1 := Lib.hid hz1
  clear hz1
  refine (SegRight_is ax ay bx b_y z1 Hz1.out _iax _iay _ibx _ib_y  _).mono ?_
  rintro e U2 ⟨rfl, hn⟩
  replace k1 := k1.of hn
  replace k2 := k2.of hn
  replace hb0 := hb0.trans (hn.mono hb0.size)
  clear hn
  cases z1
  · have e0 : 0 = R0 := by rw [← HR0.out]; unfold slp; (try rw [Hz1.out]); all_goals first | rfl | simp
    subst e0
    go_wp2
    first | go_ret | go_ret2
    exact ⟨by first | rfl | simp, hb0⟩
  · have c2_0 : U2.cell? ⟨(w.heap.size + 1), 0, none⟩ = some (.int .i64 cx) := k2.cell 0
    have c2_1 : U2.cell? ⟨(w.heap.size + 1), 1, none⟩ = some (.int .i64 cy) := k2.cell 1
    have c2_2 : U2.cell? ⟨(w.heap.size + 1), 2, none⟩ = some (.int .i64 dx) := k2.cell 2
    have c2_3 : U2.cell? ⟨(w.heap.size + 1), 3, none⟩ = some (.int .i64 dy) := k2.cell 3
    have l2 := k2.lt
    go_wp2_with fail
    clear c2_0 c2_1 c2_2 c2_3 l2
    obtain ⟨z2, hz2⟩ : ∃ o_o : Bool, sgR cx cy dx dy = o_o := ⟨_, rfl⟩
    have Hz2 := Lib.hid hz2
    clear hz2
    refine (SegRight_is cx cy dx dy z2 Hz2.out _icx _icy _idx _idy  _).mono ?_
    rintro e U3 ⟨rfl, hn⟩
    replace k1 := k1.of hn
    replace k2 := k2.of hn
    replace hb0 := hb0.trans (hn.mono hb0.size)
    clear hn
    cases z2
    · have e0 : 0 = R0 := by rw [← HR0.out]; unfold slp; (try rw [Hz1.out]); (try rw [Hz2.out]); all_goals first | rfl | simp
      subst e0
      go_wp2
      first | go_ret | go_ret2
      exact ⟨by first | rfl | simp, hb0⟩
    · have c1_0 : U3.cell? ⟨w.heap.size, 0, none⟩ = some (.int .i64 ax) := k1.cell 0
      have c1_1 : U3.cell? ⟨w.heap.size, 1, none⟩ = some (.int .i64 ay) := k1.cell 1
      have c1_2 : U3.cell? ⟨w.heap.size, 2, none⟩ = some (.int .i64 bx) := k1.cell 2
      have c1_3 : U3.cell? ⟨w.heap.size, 3, none⟩ = some (.int .i64 b_y) := k1.cell 3
      have l1 := k1.lt
      go_wp2_with fail
      clear c1_0 c1_1 c1_2 c1_3 l1
      obtain ⟨r3, hr3⟩ : ∃ o_o : Int, wyx ax ay bx b_y = o_o := ⟨_, rfl⟩
      have Hr3 := Lib.hid hr3
      clear hr3
      obtain ⟨r4, hr4⟩ : ∃ o_o : Int, wyy ax ay bx b_y = o_o := ⟨_, rfl⟩
      have Hr4 := Lib.hid hr4
      clear hr4
      refine (crway_is ax ay bx b_y r3 r4 Hr3.out Hr4.out _iax _iay _ibx _ib_y  _).mono ?_
      rintro e U4 ⟨rfl, hn⟩
      clear k1
      replace k2 := k2.of hn
      replace hb0 := hb0.trans (hn.mono hb0.size)
      clear hn
      have c2_0 : U4.cell? ⟨(w.heap.size + 1), 0, none⟩ = some (.int .i64 cx) := k2.cell 0
      have c2_1 : U4.cell? ⟨(w.heap.size + 1), 1, none⟩ = some (.int .i64 cy) := k2.cell 1
      have c2_2 : U4.cell? ⟨(w.heap.size + 1), 2, none⟩ = some (.int .i64 dx) := k2.cell 2
      have c2_3 : U4.cell? ⟨(w.heap.size + 1), 3, none⟩ = some (.int .i64 dy) := k2.cell 3
      have l2 := k2.lt
      have l2_0 : w.heap.size < U4.heap.size := by have := k2.lt; omega
      go_wp2_with fail
      clear c2_0 c2_1 c2_2 c2_3 l2 l2_0
      first | refine calls_w ?_ | refine name_world ?_ | refine list_world ?_ | refine post_world ?_
      intro V5 hV5
      clear k2
      have D1 := Lib.hid hb0.size
      have hn : Below U4.heap.size U4 V5 := by rw [hV5]; exact below_a2 _ _ _
      have nhb0 := hb0.trans (hn.mono hb0.size)
      clear hn
      have k3 : Blk V5 U4.heap.size #[.int .u64 (wd0 r3), .int .u64 (wd1 r3), .int .u64 (wd2 r3), .int .u64 (wd3 r3)] 35 := by rw [hV5]; exact ((Blk.new _ _ _).alloc _)
      have k4 : Blk V5 (U4.heap.size + 1) #[.int .u64 (wd0 r4), .int .u64 (wd1 r4), .int .u64 (wd2 r4), .int .u64 (wd3 r4)] 35 := by rw [hV5]; exact (Blk.new1 _ _ _ _)
      clear hb0
      clear hV5
      have hb0 := nhb0
      clear nhb0
      obtain ⟨r5, hr5⟩ : ∃ o_o : Int, wyx cx cy dx dy = o_o := ⟨_, rfl⟩
      have Hr5 := Lib.hid hr5
      clear hr5
      obtain ⟨r6, hr6⟩ : ∃ o_o : Int, wyy cx cy dx dy = o_o := ⟨_, rfl⟩
      have Hr6 := Lib.hid hr6
      clear hr6
      refine (crway_is cx cy dx dy r5 r6 Hr5.out Hr6.out _icx _icy _idx _idy  _).mono ?_
      rintro e U6 ⟨rfl, hn⟩
      replace k3 := k3.of hn
      replace k4 := k4.of hn
      replace hb0 := hb0.trans (hn.mono hb0.size)
      clear hn
      go_wp2_with fail
      first | refine calls_w ?_ | refine name_world ?_ | refine list_world ?_ | refine post_world ?_
      intro V7 hV7
      have D2 := Lib.hid k3.lt
      have D3 := Lib.hid k4.lt
      have D4 := Lib.hid hb0.size
      have hn : Below U6.heap.size U6 V7 := by rw [hV7]; exact below_a2 _ _ _
      have nk3 := k3.of hn
      have nk4 := k4.of hn
      have nhb0 := hb0.trans (hn.mono hb0.size)
      clear hn
      have k5 : Blk V7 U6.heap.size #[.int .u64 (wd0 r5), .int .u64 (wd1 r5), .int .u64 (wd2 r5), .int .u64 (wd3 r5)] 35 := by rw [hV7]; exact ((Blk.new _ _ _).alloc _)
      have k6 : Blk V7 (U6.heap.size + 1) #[.int .u64 (wd0 r6), .int .u64 (wd1 r6), .int .u64 (wd2 r6), .int .u64 (wd3 r6)] 35 := by rw [hV7]; exact (Blk.new1 _ _ _ _)
      clear k3 k4
      clear hb0
      clear hV7
      have k3 := nk3
      clear nk3
      have k4 := nk4
      clear nk4
      have hb0 := nhb0
      clear nhb0
      obtain ⟨r7, hr7⟩ : ∃ o_o : Int, mulv r5 r4 = o_o := ⟨_, rfl⟩
      have Hr7 := Lib.hid hr7
      clear hr7
      have c3_0 : V7.cell? ⟨U4.heap.size, 0, none⟩ = some (.int .u64 (wd0 r3)) := k3.cell 0
      have c3_1 : V7.cell? ⟨U4.heap.size, 1, none⟩ = some (.int .u64 (wd1 r3)) := k3.cell 1
      have c3_2 : V7.cell? ⟨U4.heap.size, 2, none⟩ = some (.int .u64 (wd2 r3)) := k3.cell 2
      have c3_3 : V7.cell? ⟨U4.heap.size, 3, none⟩ = some (.int .u64 (wd3 r3)) := k3.cell 3
      have l3 := k3.lt
      have c4_0 : V7.cell? ⟨(U4.heap.size + 1), 0, none⟩ = some (.int .u64 (wd0 r4)) := k4.cell 0
      have c4_1 : V7.cell? ⟨(U4.heap.size + 1), 1, none⟩ = some (.int .u64 (wd1 r4)) := k4.cell 1
      have c4_2 : V7.cell? ⟨(U4.heap.size + 1), 2, none⟩ = some (.int .u64 (wd2 r4)) := k4.cell 2
      have c4_3 : V7.cell? ⟨(U4.heap.size + 1), 3, none⟩ = some (.int .u64 (wd3 r4)) := k4.cell 3
      have l4 := k4.lt
      have c5_0 : V7.cell? ⟨U6.heap.size, 0, none⟩ = some (.int .u64 (wd0 r5)) := k5.cell 0
      have c5_1 : V7.cell? ⟨U6.heap.size, 1, none⟩ = some (.int .u64 (wd1 r5)) := k5.cell 1
      have c5_2 : V7.cell? ⟨U6.heap.size, 2, none⟩ = some (.int .u64 (wd2 r5)) := k5.cell 2
      have c5_3 : V7.cell? ⟨U6.heap.size, 3, none⟩ = some (.int .u64 (wd3 r5)) := k5.cell 3
      have l5 := k5.lt
      have c6_0 : V7.cell? ⟨(U6.heap.size + 1), 0, none⟩ = some (.int .u64 (wd0 r6)) := k6.cell 0
      have c6_1 : V7.cell? ⟨(U6.heap.size + 1), 1, none⟩ = some (.int .u64 (wd1 r6)) := k6.cell 1
      have c6_2 : V7.cell? ⟨(U6.heap.size + 1), 2, none⟩ = some (.int .u64 (wd2 r6)) := k6.cell 2
      have c6_3 : V7.cell? ⟨(U6.heap.size + 1), 3, none⟩ = some (.int .u64 (wd3 r6)) := k6.cell 3
      have l6 := k6.lt
      have Kk3 := Lib.hid k3
      clear k3
      have Kk4 := Lib.hid k4
      clear k4
      have Kk5 := Lib.hid k5
      clear k5
      have Kk6 := Lib.hid k6
      clear k6
      refine wp_region_up V7.heap.size 5 [(true, 0), (true, 1), (true, 3), (true, 4), (false, 2)] (by kernel_rfl) (by kernel_rfl) (fun _ _ d _ _ h => by cases d <;> exact h) ?_
      have hb : Below V7.heap.size V7 V7.drew := (Below.refl _ _).drew
      iterate 4
        refine wpS_takeL rfl rfl ?_
        go_big_quiet_step (rfl)
        refine wpQuiet_nil ?_
      refine wpS_doL rfl ?_
      intro K hK
      go_wp2_with ((go_at_call 106; (with_reducible refine (crtimes_is r5 r4 r7 Hr7.out (Hr5.out ▸ wyx_in cx cy dx dy _icx _icy _idx _idy) (Hr4.out ▸ wyy_in ax ay bx b_y _iax _iay _ibx _ib_y)  _).mono ?_); rintro e w2 ⟨rfl, hn⟩))
      replace hb := hb.trans (hn.mono hb.size)
      refine hK.out _ _ (up_iff.2 hb) ?_
      clear hK K
      clear hn
      refine wpS_nil ?_
      simp only [List.drop_succ_cons, List.drop_zero]
      first | refine calls_w ?_ | refine name_world ?_ | refine list_world ?_ | refine post_world ?_
      intro U8 hU8
      first | subst hU8 | (rw [← hU8] at hb; clear hU8)
      clear c3_0 c3_1 c3_2 c3_3 l3 c4_0 c4_1 c4_2 c4_3 l4 c5_0 c5_1 c5_2 c5_3 l5 c6_0 c6_1 c6_2 c6_3 l6
      have k3 := Kk3.out.of hb
      clear Kk3
      have k4 := Kk4.out.of hb
      clear Kk4
      have k5 := Kk5.out.of hb
      clear Kk5
      have k6 := Kk6.out.of hb
      clear Kk6
      replace hb0 := hb0.trans (hb.mono hb0.size)
      clear hb
      go_wp2_with fail
      obtain ⟨r8, hr8⟩ : ∃ o_o : Int, mulv r6 r3 = o_o := ⟨_, rfl⟩
      have Hr8 := Lib.hid hr8
      clear hr8
      refine (crtimes_is r6 r3 r8 Hr8.out (Hr6.out ▸ wyy_in cx cy dx dy _icx _icy _idx _idy) (Hr3.out ▸ wyx_in ax ay bx b_y _iax _iay _ibx _ib_y)  _).mono ?_
      rintro e U9 ⟨rfl, hn⟩
      clear k3 k4 k5 k6
      replace hb0 := hb0.trans (hn.mono hb0.size)
      clear hn
      go_wp2_with fail
      obtain ⟨r9, hr9⟩ : ∃ o_o : Int, subv r7 r8 = o_o := ⟨_, rfl⟩
      have Hr9 := Lib.hid hr9
      clear hr9
      refine (crless_is r7 r8 r9 Hr9.out (Hr7.out ▸ mulv_in r5 r4) (Hr8.out ▸ mulv_in r6 r3)  _).mono ?_
      rintro e U10 ⟨rfl, hn⟩
      replace hb0 := hb0.trans (hn.mono hb0.size)
      clear hn
      go_wp2_with fail
      obtain ⟨r10, hr10⟩ : ∃ o_o : Int, r9.sign = o_o := ⟨_, rfl⟩
      have Hr10 := Lib.hid hr10
      clear hr10
      refine (Sign_v r9 r10 Hr10.out (Hr9.out ▸ subv_in r7 r8) _).mono ?_
      rintro e U11 ⟨rfl, hn⟩
      replace hb0 := hb0.trans (hn.mono hb0.size)
      clear hn
      have e0 : r10 = R0 := by rw [← HR0.out]; unfold slp; (try rw [Hz1.out]); (try rw [Hz2.out]); (try rw [Hr3.out]); (try rw [Hr4.out]); (try rw [Hr5.out]); (try rw [Hr6.out]); (try rw [Hr7.out]); (try rw [Hr8.out]); (try rw [Hr9.out]); (try rw [Hr10.out]); all_goals first | rfl | simp
      subst e0
      go_wp2
      first | go_ret | go_ret2
      exact ⟨by first | rfl | simp, hb0⟩
end Go.Proofs.Ytlcbomjdbdgbmaa

