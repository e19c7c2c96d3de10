/- The walks of package cross: Side, Holds, Slope. Conditions: the numbers are ints and numbers of 256 bits. -/
import Derived.Test.YtlcbomjdbdgbmaaCr3
namespace Go.Proofs.Ytlcbomjdbdgbmaa
open Go.RowKit

def Sde (ax : Int) (ay : Int) (bx : Int) (b_y : Int) (x : Int) (y : Int) (v : Int) : Int := (bif (sgR ax ay bx b_y) then (bif (spR x y v) then (sde ax ay bx b_y x y v) else 0) else 0)

theorem Sde_in (ax : Int) (ay : Int) (bx : Int) (b_y : Int) (x : Int) (y : Int) (v : Int) (_iax : In64 ax) (_iay : In64 ay) (_ibx : In64 bx) (_ib_y : In64 b_y) (_ix : InI x) (_iy : InI y) (_iv : InI v) : In64 (Sde ax ay bx b_y x y v) := by
  unfold Sde
  exact (cond_64 (cond_64 (sde_in ax ay bx b_y x y v _iax _iay _ibx _ib_y _ix _iy _iv) i64_0) i64_0)

set_option maxRecDepth 100000 in
set_option maxHeartbeats 4000000 in

theorem SegSide_is (ax : Int) (ay : Int) (bx : Int) (b_y : Int) (x : Int) (y : Int) (v : Int)  (R0 : Int) (hR0 : Sde ax ay bx b_y x y v = R0) (_iax : In64 ax) (_iay : In64 ay) (_ibx : In64 bx) (_ib_y : In64 b_y) (_ix : InI x) (_iy : InI y) (_iv : InI v)  (w : World)  :
    Calls Try.prog 69 #[.agg #[.int .i64 ax, .int .i64 ay, .int .i64 bx, .int .i64 b_y], .agg #[.int .u64 (wd0 x), .int .u64 (wd1 x), .int .u64 (wd2 x), .int .u64 (wd3 x), .int .u64 (wd0 y), .int .u64 (wd1 y), .int .u64 (wd2 y), .int .u64 (wd3 y), .int .u64 (wd0 v), .int .u64 (wd1 v), .int .u64 (wd2 v), .int .u64 (wd3 v)]] w fun e w' => e = .returned (.int .i64 R0) ∧ Below w.heap.size w w' := by

  have HR0 := Lib.hid hR0
  clear hR0
  go_enter Try.func69, Try.ntmps69
  go_wp2_with fail
  first | refine calls_w ?_ | refine name_world ?_ | refine list_world ?_ | refine post_world ?_
  intro V1 hV1
  have hn : Below w.heap.size w V1 := by rw [hV1]; exact below_a2 _ _ _
  have nhb0 := hn
  have k1 : Blk V1 w.heap.size #[.int .i64 ax, .int .i64 ay, .int .i64 bx, .int .i64 b_y] 50 := by rw [hV1]; exact ((Blk.new _ _ _).alloc _)
  have k2 : Blk V1 (w.heap.size + 1) #[.int .u64 (wd0 x), .int .u64 (wd1 x), .int .u64 (wd2 x), .int .u64 (wd3 x), .int .u64 (wd0 y), .int .u64 (wd1 y), .int .u64 (wd2 y), .int .u64 (wd3 y), .int .u64 (wd0 v), .int .u64 (wd1 v), .int .u64 (wd2 v), .int .u64 (wd3 v)] 67 := by rw [hV1]; exact (Blk.new1 _ _ _ _)
  clear hV1
  have hb0 := nhb0
  clear nhb0
  obtain ⟨z1, hz1⟩ : ∃ o_o : Bool, sgR ax ay bx b_y = o_o := ⟨_, rfl⟩
  have Hz1 := Lib.hid hz1
  clear hz1
  refine (SegRight_is ax ay bx b_y z1 Hz1.out _iax _iay _ibx _ib_y  _).mono ?_
  rintro e U2 ⟨rfl, hn⟩
  replace k1 := k1.of hn
  replace k2 := k2.of hn
  replace hb0 := hb0.trans (hn.mono hb0.size)
  clear hn
  cases z1
  · have e0 : 0 = R0 := by rw [← HR0.out]; unfold Sde; (try rw [Hz1.out]); all_goals first | rfl | simp
    subst e0
    go_wp2
    first | go_ret | go_ret2
    exact ⟨by first | rfl | simp, hb0⟩
  · have c2_0 : U2.cell? ⟨(w.heap.size + 1), 0, none⟩ = some (.int .u64 (wd0 x)) := k2.cell 0
    have c2_1 : U2.cell? ⟨(w.heap.size + 1), 1, none⟩ = some (.int .u64 (wd1 x)) := k2.cell 1
    have c2_2 : U2.cell? ⟨(w.heap.size + 1), 2, none⟩ = some (.int .u64 (wd2 x)) := k2.cell 2
    have c2_3 : U2.cell? ⟨(w.heap.size + 1), 3, none⟩ = some (.int .u64 (wd3 x)) := k2.cell 3
    have c2_4 : U2.cell? ⟨(w.heap.size + 1), 4, none⟩ = some (.int .u64 (wd0 y)) := k2.cell 4
    have c2_5 : U2.cell? ⟨(w.heap.size + 1), 5, none⟩ = some (.int .u64 (wd1 y)) := k2.cell 5
    have c2_6 : U2.cell? ⟨(w.heap.size + 1), 6, none⟩ = some (.int .u64 (wd2 y)) := k2.cell 6
    have c2_7 : U2.cell? ⟨(w.heap.size + 1), 7, none⟩ = some (.int .u64 (wd3 y)) := k2.cell 7
    have c2_8 : U2.cell? ⟨(w.heap.size + 1), 8, none⟩ = some (.int .u64 (wd0 v)) := k2.cell 8
    have c2_9 : U2.cell? ⟨(w.heap.size + 1), 9, none⟩ = some (.int .u64 (wd1 v)) := k2.cell 9
    have c2_10 : U2.cell? ⟨(w.heap.size + 1), 10, none⟩ = some (.int .u64 (wd2 v)) := k2.cell 10
    have c2_11 : U2.cell? ⟨(w.heap.size + 1), 11, none⟩ = some (.int .u64 (wd3 v)) := k2.cell 11
    have l2 := k2.lt
    go_wp2_with fail
    clear c2_0 c2_1 c2_2 c2_3 c2_4 c2_5 c2_6 c2_7 c2_8 c2_9 c2_10 c2_11 l2
    obtain ⟨z2, hz2⟩ : ∃ o_o : Bool, spR x y v = o_o := ⟨_, rfl⟩
    have Hz2 := Lib.hid hz2
    clear hz2
    refine (SpRight_is x y v z2 Hz2.out _ix _iy _iv  _).mono ?_
    rintro e U3 ⟨rfl, hn⟩
    replace k1 := k1.of hn
    replace k2 := k2.of hn
    replace hb0 := hb0.trans (hn.mono hb0.size)
    clear hn
    cases z2
    · have e0 : 0 = R0 := by rw [← HR0.out]; unfold Sde; (try rw [Hz1.out]); (try rw [Hz2.out]); all_goals first | rfl | simp
      subst e0
      go_wp2
      first | go_ret | go_ret2
      exact ⟨by first | rfl | simp, hb0⟩
    · have c1_0 : U3.cell? ⟨w.heap.size, 0, none⟩ = some (.int .i64 ax) := k1.cell 0
      have c1_1 : U3.cell? ⟨w.heap.size, 1, none⟩ = some (.int .i64 ay) := k1.cell 1
      have c1_2 : U3.cell? ⟨w.heap.size, 2, none⟩ = some (.int .i64 bx) := k1.cell 2
      have c1_3 : U3.cell? ⟨w.heap.size, 3, none⟩ = some (.int .i64 b_y) := k1.cell 3
      have l1 := k1.lt
      have c2_0 : U3.cell? ⟨(w.heap.size + 1), 0, none⟩ = some (.int .u64 (wd0 x)) := k2.cell 0
      have c2_1 : U3.cell? ⟨(w.heap.size + 1), 1, none⟩ = some (.int .u64 (wd1 x)) := k2.cell 1
      have c2_2 : U3.cell? ⟨(w.heap.size + 1), 2, none⟩ = some (.int .u64 (wd2 x)) := k2.cell 2
      have c2_3 : U3.cell? ⟨(w.heap.size + 1), 3, none⟩ = some (.int .u64 (wd3 x)) := k2.cell 3
      have c2_4 : U3.cell? ⟨(w.heap.size + 1), 4, none⟩ = some (.int .u64 (wd0 y)) := k2.cell 4
      have c2_5 : U3.cell? ⟨(w.heap.size + 1), 5, none⟩ = some (.int .u64 (wd1 y)) := k2.cell 5
      have c2_6 : U3.cell? ⟨(w.heap.size + 1), 6, none⟩ = some (.int .u64 (wd2 y)) := k2.cell 6
      have c2_7 : U3.cell? ⟨(w.heap.size + 1), 7, none⟩ = some (.int .u64 (wd3 y)) := k2.cell 7
      have c2_8 : U3.cell? ⟨(w.heap.size + 1), 8, none⟩ = some (.int .u64 (wd0 v)) := k2.cell 8
      have c2_9 : U3.cell? ⟨(w.heap.size + 1), 9, none⟩ = some (.int .u64 (wd1 v)) := k2.cell 9
      have c2_10 : U3.cell? ⟨(w.heap.size + 1), 10, none⟩ = some (.int .u64 (wd2 v)) := k2.cell 10
      have c2_11 : U3.cell? ⟨(w.heap.size + 1), 11, none⟩ = some (.int .u64 (wd3 v)) := k2.cell 11
      have l2 := k2.lt
      go_wp2_with fail
      clear c1_0 c1_1 c1_2 c1_3 l1 c2_0 c2_1 c2_2 c2_3 c2_4 c2_5 c2_6 c2_7 c2_8 c2_9 c2_10 c2_11 l2
      obtain ⟨r3, hr3⟩ : ∃ o_o : Int, sde ax ay bx b_y x y v = o_o := ⟨_, rfl⟩
      have Hr3 := Lib.hid hr3
      clear hr3
      refine (crside_is ax ay bx b_y x y v r3 Hr3.out _iax _iay _ibx _ib_y _ix _iy _iv  _).mono ?_
      rintro e U4 ⟨rfl, hn⟩
      clear k1 k2
      replace hb0 := hb0.trans (hn.mono hb0.size)
      clear hn
      have e0 : r3 = R0 := by rw [← HR0.out]; unfold Sde; (try rw [Hz1.out]); (try rw [Hz2.out]); (try rw [Hr3.out]); all_goals first | rfl | simp
      subst e0
      go_wp2
      first | go_ret | go_ret2
      exact ⟨by first | rfl | simp, hb0⟩

def hldB (ax : Int) (ay : Int) (bx : Int) (b_y : Int) (x : Int) (y : Int) (v : Int) : Bool := (bif (sgR ax ay bx b_y) then (bif (spR x y v) then (bif ((sde ax ay bx b_y x y v) == 0) then (bif decide ((spC (atx (lwx ax ay bx b_y) (lwy ax ay bx b_y)) (aty (lwx ax ay bx b_y) (lwy ax ay bx b_y)) (atw (lwx ax ay bx b_y) (lwy ax ay bx b_y)) x y v) ≤ 0) then decide ((spC x y v (atx (hgx ax ay bx b_y) (hgy ax ay bx b_y)) (aty (hgx ax ay bx b_y) (hgy ax ay bx b_y)) (atw (hgx ax ay bx b_y) (hgy ax ay bx b_y))) ≤ 0) else false) else false) else false) else false)

set_option maxRecDepth 100000 in
set_option maxHeartbeats 4000000 in

theorem SegHolds_is (ax : Int) (ay : Int) (bx : Int) (b_y : Int) (x : Int) (y : Int) (v : Int)  (R0 : Bool) (hR0 : hldB ax ay bx b_y x y v = R0) (_iax : In64 ax) (_iay : In64 ay) (_ibx : In64 bx) (_ib_y : In64 b_y) (_ix : InI x) (_iy : InI y) (_iv : InI v)  (w : World)  :
    Calls Try.prog 70 #[.agg #[.int .i64 ax, .int .i64 ay, .int .i64 bx, .int .i64 b_y], .agg #[.int .u64 (wd0 x), .int .u64 (wd1 x), .int .u64 (wd2 x), .int .u64 (wd3 x), .int .u64 (wd0 y), .int .u64 (wd1 y), .int .u64 (wd2 y), .int .u64 (wd3 y), .int .u64 (wd0 v), .int .u64 (wd1 v), .int .u64 (wd2 v), .int .u64 (wd3 v)]] w fun e w' => e = .returned (.bool R0) ∧ Below w.heap.size w w' := by

  have HR0 := Lib.hid hR0
  clear hR0
  go_enter Try.func70, Try.ntmps70
  go_wp2_with fail
  first | refine calls_w ?_ | refine name_world ?_ | refine list_world ?_ | refine post_world ?_
  intro V1 hV1
  have hn : Below w.heap.size w V1 := by rw [hV1]; exact below_a2 _ _ _
  have nhb0 := hn
  have k1 : Blk V1 w.heap.size #[.int .i64 ax, .int .i64 ay, .int .i64 bx, .int .i64 b_y] 50 := by rw [hV1]; exact ((Blk.new _ _ _).alloc _)
  have k2 : Blk V1 (w.heap.size + 1) #[.int .u64 (wd0 x), .int .u64 (wd1 x), .int .u64 (wd2 x), .int .u64 (wd3 x), .int .u64 (wd0 y), .int .u64 (wd1 y), .int .u64 (wd2 y), .int .u64 (wd3 y), .int .u64 (wd0 v), .int .u64 (wd1 v), .int .u64 (wd2 v), .int .u64 (wd3 v)] 67 := by rw [hV1]; exact (Blk.new1 _ _ _ _)
  clear hV1
  have hb0 := nhb0
  clear nhb0
  obtain ⟨z1, hz1⟩ : ∃ o_o : Bool, sgR ax ay bx b_y = o_o := ⟨_, rfl⟩
  have Hz1 := Lib.hid hz1
  clear hz1
  refine (SegRight_is ax ay bx b_y z1 Hz1.out _iax _iay _ibx _ib_y  _).mono ?_
  rintro e U2 ⟨rfl, hn⟩
  replace k1 := k1.of hn
  replace k2 := k2.of hn
  replace hb0 := hb0.trans (hn.mono hb0.size)
  clear hn
  cases z1
  · have e0 : false = R0 := by rw [← HR0.out]; unfold hldB; (try rw [Hz1.out]); all_goals first | rfl | simp
    subst e0
    go_wp2
    first | go_ret | go_ret2
    exact ⟨by first | rfl | simp, hb0⟩
  · have c2_0 : U2.cell? ⟨(w.heap.size + 1), 0, none⟩ = some (.int .u64 (wd0 x)) := k2.cell 0
    have c2_1 : U2.cell? ⟨(w.heap.size + 1), 1, none⟩ = some (.int .u64 (wd1 x)) := k2.cell 1
    have c2_2 : U2.cell? ⟨(w.heap.size + 1), 2, none⟩ = some (.int .u64 (wd2 x)) := k2.cell 2
    have c2_3 : U2.cell? ⟨(w.heap.size + 1), 3, none⟩ = some (.int .u64 (wd3 x)) := k2.cell 3
    have c2_4 : U2.cell? ⟨(w.heap.size + 1), 4, none⟩ = some (.int .u64 (wd0 y)) := k2.cell 4
    have c2_5 : U2.cell? ⟨(w.heap.size + 1), 5, none⟩ = some (.int .u64 (wd1 y)) := k2.cell 5
    have c2_6 : U2.cell? ⟨(w.heap.size + 1), 6, none⟩ = some (.int .u64 (wd2 y)) := k2.cell 6
    have c2_7 : U2.cell? ⟨(w.heap.size + 1), 7, none⟩ = some (.int .u64 (wd3 y)) := k2.cell 7
    have c2_8 : U2.cell? ⟨(w.heap.size + 1), 8, none⟩ = some (.int .u64 (wd0 v)) := k2.cell 8
    have c2_9 : U2.cell? ⟨(w.heap.size + 1), 9, none⟩ = some (.int .u64 (wd1 v)) := k2.cell 9
    have c2_10 : U2.cell? ⟨(w.heap.size + 1), 10, none⟩ = some (.int .u64 (wd2 v)) := k2.cell 10
    have c2_11 : U2.cell? ⟨(w.heap.size + 1), 11, none⟩ = some (.int .u64 (wd3 v)) := k2.cell 11
    have l2 := k2.lt
    go_wp2_with fail
    clear c2_0 c2_1 c2_2 c2_3 c2_4 c2_5 c2_6 c2_7 c2_8 c2_9 c2_10 c2_11 l2
    obtain ⟨z2, hz2⟩ : ∃ o_o : Bool, spR x y v = o_o := ⟨_, rfl⟩
    have Hz2 := Lib.hid hz2
    clear hz2
    refine (SpRight_is x y v z2 Hz2.out _ix _iy _iv  _).mono ?_
    rintro e U3 ⟨rfl, hn⟩
    replace k1 := k1.of hn
    replace k2 := k2.of hn
    replace hb0 := hb0.trans (hn.mono hb0.size)
    clear hn
    cases z2
    · have e0 : false = R0 := by rw [← HR0.out]; unfold hldB; (try rw [Hz1.out]); (try rw [Hz2.out]); all_goals first | rfl | simp
      subst e0
      go_wp2
      first | go_ret | go_ret2
      exact ⟨by first | rfl | simp, hb0⟩
    · have c1_0 : U3.cell? ⟨w.heap.size, 0, none⟩ = some (.int .i64 ax) := k1.cell 0
      have c1_1 : U3.cell? ⟨w.heap.size, 1, none⟩ = some (.int .i64 ay) := k1.cell 1
      have c1_2 : U3.cell? ⟨w.heap.size, 2, none⟩ = some (.int .i64 bx) := k1.cell 2
      have c1_3 : U3.cell? ⟨w.heap.size, 3, none⟩ = some (.int .i64 b_y) := k1.cell 3
      have l1 := k1.lt
      have c2_0 : U3.cell? ⟨(w.heap.size + 1), 0, none⟩ = some (.int .u64 (wd0 x)) := k2.cell 0
      have c2_1 : U3.cell? ⟨(w.heap.size + 1), 1, none⟩ = some (.int .u64 (wd1 x)) := k2.cell 1
      have c2_2 : U3.cell? ⟨(w.heap.size + 1), 2, none⟩ = some (.int .u64 (wd2 x)) := k2.cell 2
      have c2_3 : U3.cell? ⟨(w.heap.size + 1), 3, none⟩ = some (.int .u64 (wd3 x)) := k2.cell 3
      have c2_4 : U3.cell? ⟨(w.heap.size + 1), 4, none⟩ = some (.int .u64 (wd0 y)) := k2.cell 4
      have c2_5 : U3.cell? ⟨(w.heap.size + 1), 5, none⟩ = some (.int .u64 (wd1 y)) := k2.cell 5
      have c2_6 : U3.cell? ⟨(w.heap.size + 1), 6, none⟩ = some (.int .u64 (wd2 y)) := k2.cell 6
      have c2_7 : U3.cell? ⟨(w.heap.size + 1), 7, none⟩ = some (.int .u64 (wd3 y)) := k2.cell 7
      have c2_8 : U3.cell? ⟨(w.heap.size + 1), 8, none⟩ = some (.int .u64 (wd0 v)) := k2.cell 8
      have c2_9 : U3.cell? ⟨(w.heap.size + 1), 9, none⟩ = some (.int .u64 (wd1 v)) := k2.cell 9
      have c2_10 : U3.cell? ⟨(w.heap.size + 1), 10, none⟩ = some (.int .u64 (wd2 v)) := k2.cell 10
      have c2_11 : U3.cell? ⟨(w.heap.size + 1), 11, none⟩ = some (.int .u64 (wd3 v)) := k2.cell 11
      have l2 := k2.lt
      go_wp2_with fail
      clear c1_0 c1_1 c1_2 c1_3 l1 c2_0 c2_1 c2_2 c2_3 c2_4 c2_5 c2_6 c2_7 c2_8 c2_9 c2_10 c2_11 l2
      obtain ⟨r3, hr3⟩ : ∃ o_o : Int, sde ax ay bx b_y x y v = o_o := ⟨_, rfl⟩
      have Hr3 := Lib.hid hr3
      clear hr3
      refine (crside_is ax ay bx b_y x y v r3 Hr3.out _iax _iay _ibx _ib_y _ix _iy _iv  _).mono ?_
      rintro e U4 ⟨rfl, hn⟩
      replace k1 := k1.of hn
      replace k2 := k2.of hn
      replace hb0 := hb0.trans (hn.mono hb0.size)
      clear hn
      obtain ⟨z4, hz4⟩ : ∃ o_o : Bool, (r3 == 0) = o_o := ⟨_, rfl⟩
      cases z4
      · have nz4 : ¬ r3 = 0 := by simpa using hz4
        have e0 : false = R0 := by rw [← HR0.out]; unfold hldB; (try rw [Hz1.out]); (try rw [Hz2.out]); (try rw [Hr3.out]); (try rw [hz4]); all_goals first | rfl | simp
        subst e0
        go_wp2
        first | go_ret | go_ret2
        exact ⟨by first | rfl | simp, hb0⟩
      · obtain rfl : r3 = 0 := by simpa using hz4
        clear hz4
        have c1_0 : U4.cell? ⟨w.heap.size, 0, none⟩ = some (.int .i64 ax) := k1.cell 0
        have c1_1 : U4.cell? ⟨w.heap.size, 1, none⟩ = some (.int .i64 ay) := k1.cell 1
        have c1_2 : U4.cell? ⟨w.heap.size, 2, none⟩ = some (.int .i64 bx) := k1.cell 2
        have c1_3 : U4.cell? ⟨w.heap.size, 3, none⟩ = some (.int .i64 b_y) := k1.cell 3
        have l1 := k1.lt
        go_wp2_with fail
        clear c1_0 c1_1 c1_2 c1_3 l1
        obtain ⟨r5, hr5⟩ : ∃ o_o : Int, lwx ax ay bx b_y = o_o := ⟨_, rfl⟩
        have Hr5 := Lib.hid hr5
        clear hr5
        obtain ⟨r6, hr6⟩ : ∃ o_o : Int, lwy ax ay bx b_y = o_o := ⟨_, rfl⟩
        have Hr6 := Lib.hid hr6
        clear hr6
        obtain ⟨r7, hr7⟩ : ∃ o_o : Int, hgx ax ay bx b_y = o_o := ⟨_, rfl⟩
        have Hr7 := Lib.hid hr7
        clear hr7
        obtain ⟨r8, hr8⟩ : ∃ o_o : Int, hgy ax ay bx b_y = o_o := ⟨_, rfl⟩
        have Hr8 := Lib.hid hr8
        clear hr8
        refine (Ends_is ax ay bx b_y r5 r6 r7 r8 Hr5.out Hr6.out Hr7.out Hr8.out _iax _iay _ibx _ib_y  _).mono ?_
        rintro e U5 ⟨rfl, hn⟩
        clear k1
        replace k2 := k2.of hn
        replace hb0 := hb0.trans (hn.mono hb0.size)
        clear hn
        go_wp2_with fail
        first | refine calls_w ?_ | refine name_world ?_ | refine list_world ?_ | refine post_world ?_
        intro V6 hV6
        have D1 := Lib.hid k2.lt
        have D2 := Lib.hid hb0.size
        have hn : Below U5.heap.size U5 V6 := by rw [hV6]; exact below_a2 _ _ _
        have nk2 := k2.of hn
        have nhb0 := hb0.trans (hn.mono hb0.size)
        clear hn
        have k3 : Blk V6 U5.heap.size #[.int .i64 r5, .int .i64 r6] 24 := by rw [hV6]; exact ((Blk.new _ _ _).alloc _)
        have k4 : Blk V6 (U5.heap.size + 1) #[.int .i64 r7, .int .i64 r8] 24 := by rw [hV6]; exact (Blk.new1 _ _ _ _)
        clear k2
        clear hb0
        clear hV6
        have k2 := nk2
        clear nk2
        have hb0 := nhb0
        clear nhb0
        obtain ⟨r9, hr9⟩ : ∃ o_o : Int, atx r5 r6 = o_o := ⟨_, rfl⟩
        have Hr9 := Lib.hid hr9
        clear hr9
        obtain ⟨r10, hr10⟩ : ∃ o_o : Int, aty r5 r6 = o_o := ⟨_, rfl⟩
        have Hr10 := Lib.hid hr10
        clear hr10
        obtain ⟨r11, hr11⟩ : ∃ o_o : Int, atw r5 r6 = o_o := ⟨_, rfl⟩
        have Hr11 := Lib.hid hr11
        clear hr11
        obtain ⟨r12, hr12⟩ : ∃ o_o : Int, spC r9 r10 r11 x y v = o_o := ⟨_, rfl⟩
        have Hr12 := Lib.hid hr12
        clear hr12
        obtain ⟨z13, hz13⟩ : ∃ o_o : Bool, decide (r12 ≤ 0) = o_o := ⟨_, rfl⟩
        cases z13
        · have c2_0 : V6.cell? ⟨(w.heap.size + 1), 0, none⟩ = some (.int .u64 (wd0 x)) := k2.cell 0
          have c2_1 : V6.cell? ⟨(w.heap.size + 1), 1, none⟩ = some (.int .u64 (wd1 x)) := k2.cell 1
          have c2_2 : V6.cell? ⟨(w.heap.size + 1), 2, none⟩ = some (.int .u64 (wd2 x)) := k2.cell 2
          have c2_3 : V6.cell? ⟨(w.heap.size + 1), 3, none⟩ = some (.int .u64 (wd3 x)) := k2.cell 3
          have c2_4 : V6.cell? ⟨(w.heap.size + 1), 4, none⟩ = some (.int .u64 (wd0 y)) := k2.cell 4
          have c2_5 : V6.cell? ⟨(w.heap.size + 1), 5, none⟩ = some (.int .u64 (wd1 y)) := k2.cell 5
          have c2_6 : V6.cell? ⟨(w.heap.size + 1), 6, none⟩ = some (.int .u64 (wd2 y)) := k2.cell 6
          have c2_7 : V6.cell? ⟨(w.heap.size + 1), 7, none⟩ = some (.int .u64 (wd3 y)) := k2.cell 7
          have c2_8 : V6.cell? ⟨(w.heap.size + 1), 8, none⟩ = some (.int .u64 (wd0 v)) := k2.cell 8
          have c2_9 : V6.cell? ⟨(w.heap.size + 1), 9, none⟩ = some (.int .u64 (wd1 v)) := k2.cell 9
          have c2_10 : V6.cell? ⟨(w.heap.size + 1), 10, none⟩ = some (.int .u64 (wd2 v)) := k2.cell 10
          have c2_11 : V6.cell? ⟨(w.heap.size + 1), 11, none⟩ = some (.int .u64 (wd3 v)) := k2.cell 11
          have l2 := k2.lt
          have c3_0 : V6.cell? ⟨U5.heap.size, 0, none⟩ = some (.int .i64 r5) := k3.cell 0
          have c3_1 : V6.cell? ⟨U5.heap.size, 1, none⟩ = some (.int .i64 r6) := k3.cell 1
          have l3 := k3.lt
          have Kk2 := Lib.hid k2
          clear k2
          have Kk3 := Lib.hid k3
          clear k3
          have Kk4 := Lib.hid k4
          clear k4
          refine wp_region_up V6.heap.size 9 [(true, 0), (true, 2), (false, 1), (false, 3), (true, 4), (true, 5), (true, 6), (true, 7), (false, 8)] (by kernel_rfl) (by kernel_rfl) (fun _ _ d _ _ h => by cases d <;> exact h) ?_
          have hb : Below V6.heap.size V6 V6.drew := (Below.refl _ _).drew
          iterate 2
            refine wpS_takeL rfl rfl ?_
            go_big_quiet_step (rfl)
            refine wpQuiet_nil ?_
          refine wpS_doL rfl ?_
          intro K hK
          go_wp2_with ((first | (go_at_call 47; (with_reducible refine (crAt_is r5 r6 r9 r10 r11 Hr9.out Hr10.out Hr11.out (Hr5.out ▸ lwx_in ax ay bx b_y _iax _iay _ibx _ib_y) (Hr6.out ▸ lwy_in ax ay bx b_y _iax _iay _ibx _ib_y)  _).mono ?_); rintro e w2 ⟨rfl, hn⟩) | (go_at_call 58; (with_reducible refine (SpCmp_is r9 r10 r11 x y v r12 Hr12.out (Hr9.out ▸ atx_in r5 r6 (Hr5.out ▸ lwx_in ax ay bx b_y _iax _iay _ibx _ib_y) (Hr6.out ▸ lwy_in ax ay bx b_y _iax _iay _ibx _ib_y)) (Hr10.out ▸ aty_in r5 r6 (Hr5.out ▸ lwx_in ax ay bx b_y _iax _iay _ibx _ib_y) (Hr6.out ▸ lwy_in ax ay bx b_y _iax _iay _ibx _ib_y)) (Hr11.out ▸ atw_in r5 r6 (Hr5.out ▸ lwx_in ax ay bx b_y _iax _iay _ibx _ib_y) (Hr6.out ▸ lwy_in ax ay bx b_y _iax _iay _ibx _ib_y)) _ix _iy _iv  _).mono ?_); rintro e w2 ⟨rfl, hn⟩)))
          replace hb := hb.trans (hn.mono hb.size)
          refine hK.out _ _ (up_iff.2 hb) ?_
          clear hK K
          clear hn
          refine wpS_doL rfl ?_
          intro K hK
          go_wp2_with ((first | (go_at_call 47; (with_reducible refine (crAt_is r5 r6 r9 r10 r11 Hr9.out Hr10.out Hr11.out (Hr5.out ▸ lwx_in ax ay bx b_y _iax _iay _ibx _ib_y) (Hr6.out ▸ lwy_in ax ay bx b_y _iax _iay _ibx _ib_y)  _).mono ?_); rintro e w2 ⟨rfl, hn⟩) | (go_at_call 58; (with_reducible refine (SpCmp_is r9 r10 r11 x y v r12 Hr12.out (Hr9.out ▸ atx_in r5 r6 (Hr5.out ▸ lwx_in ax ay bx b_y _iax _iay _ibx _ib_y) (Hr6.out ▸ lwy_in ax ay bx b_y _iax _iay _ibx _ib_y)) (Hr10.out ▸ aty_in r5 r6 (Hr5.out ▸ lwx_in ax ay bx b_y _iax _iay _ibx _ib_y) (Hr6.out ▸ lwy_in ax ay bx b_y _iax _iay _ibx _ib_y)) (Hr11.out ▸ atw_in r5 r6 (Hr5.out ▸ lwx_in ax ay bx b_y _iax _iay _ibx _ib_y) (Hr6.out ▸ lwy_in ax ay bx b_y _iax _iay _ibx _ib_y)) _ix _iy _iv  _).mono ?_); rintro e w2 ⟨rfl, hn⟩)))
          replace hb := hb.trans (hn.mono hb.size)
          refine hK.out _ _ (up_iff.2 hb) ?_
          clear hK K
          clear hn
          iterate 4
            refine wpS_takeL rfl rfl ?_
            go_big_quiet_step (rfl)
            refine wpQuiet_nil ?_
          refine wpS_doL rfl ?_
          intro K hK
          go_wp2_with ((first | (go_at_call 47; (with_reducible refine (crAt_is r5 r6 r9 r10 r11 Hr9.out Hr10.out Hr11.out (Hr5.out ▸ lwx_in ax ay bx b_y _iax _iay _ibx _ib_y) (Hr6.out ▸ lwy_in ax ay bx b_y _iax _iay _ibx _ib_y)  _).mono ?_); rintro e w2 ⟨rfl, hn⟩) | (go_at_call 58; (with_reducible refine (SpCmp_is r9 r10 r11 x y v r12 Hr12.out (Hr9.out ▸ atx_in r5 r6 (Hr5.out ▸ lwx_in ax ay bx b_y _iax _iay _ibx _ib_y) (Hr6.out ▸ lwy_in ax ay bx b_y _iax _iay _ibx _ib_y)) (Hr10.out ▸ aty_in r5 r6 (Hr5.out ▸ lwx_in ax ay bx b_y _iax _iay _ibx _ib_y) (Hr6.out ▸ lwy_in ax ay bx b_y _iax _iay _ibx _ib_y)) (Hr11.out ▸ atw_in r5 r6 (Hr5.out ▸ lwx_in ax ay bx b_y _iax _iay _ibx _ib_y) (Hr6.out ▸ lwy_in ax ay bx b_y _iax _iay _ibx _ib_y)) _ix _iy _iv  _).mono ?_); rintro e w2 ⟨rfl, hn⟩)))
          try replace hb := hb.trans (hn.mono hb.size)
          refine hK.out _ _ (up_iff.2 hb) ?_
          clear hK K
          try clear hn
          refine wpS_nil ?_
          simp only [List.drop_succ_cons, List.drop_zero]
          first | refine calls_w ?_ | refine name_world ?_ | refine list_world ?_ | refine post_world ?_
          intro U7 hU7
          first | subst hU7 | (rw [← hU7] at hb; clear hU7)
          clear c2_0 c2_1 c2_2 c2_3 c2_4 c2_5 c2_6 c2_7 c2_8 c2_9 c2_10 c2_11 l2 c3_0 c3_1 l3
          have k2 := Kk2.out.of hb
          clear Kk2
          have k3 := Kk3.out.of hb
          clear Kk3
          have k4 := Kk4.out.of hb
          clear Kk4
          replace hb0 := hb0.trans (hb.mono hb0.size)
          clear hb
          have e0 : false = R0 := by rw [← HR0.out]; unfold hldB; (try rw [Hz1.out]); (try rw [Hz2.out]); (try rw [Hr3.out]); (try rw [Hr5.out]); (try rw [Hr6.out]); (try rw [Hr7.out]); (try rw [Hr8.out]); (try rw [Hr9.out]); (try rw [Hr10.out]); (try rw [Hr11.out]); (try rw [Hr12.out]); (try rw [hz13]); all_goals first | rfl | simp
          subst e0
          go_wp2
          first | go_ret | go_ret2
          exact ⟨by first | rfl | simp, hb0⟩
        · obtain ⟨r14, hr14⟩ : ∃ o_o : Int, atx r7 r8 = o_o := ⟨_, rfl⟩
          have Hr14 := Lib.hid hr14
          clear hr14
          obtain ⟨r15, hr15⟩ : ∃ o_o : Int, aty r7 r8 = o_o := ⟨_, rfl⟩
          have Hr15 := Lib.hid hr15
          clear hr15
          obtain ⟨r16, hr16⟩ : ∃ o_o : Int, atw r7 r8 = o_o := ⟨_, rfl⟩
          have Hr16 := Lib.hid hr16
          clear hr16
          have c2_0 : V6.cell? ⟨(w.heap.size + 1), 0, none⟩ = some (.int .u64 (wd0 x)) := k2.cell 0
          have c2_1 : V6.cell? ⟨(w.heap.size + 1), 1, none⟩ = some (.int .u64 (wd1 x)) := k2.cell 1
          have c2_2 : V6.cell? ⟨(w.heap.size + 1), 2, none⟩ = some (.int .u64 (wd2 x)) := k2.cell 2
          have c2_3 : V6.cell? ⟨(w.heap.size + 1), 3, none⟩ = some (.int .u64 (wd3 x)) := k2.cell 3
          have c2_4 : V6.cell? ⟨(w.heap.size + 1), 4, none⟩ = some (.int .u64 (wd0 y)) := k2.cell 4
          have c2_5 : V6.cell? ⟨(w.heap.size + 1), 5, none⟩ = some (.int .u64 (wd1 y)) := k2.cell 5
          have c2_6 : V6.cell? ⟨(w.heap.size + 1), 6, none⟩ = some (.int .u64 (wd2 y)) := k2.cell 6
          have c2_7 : V6.cell? ⟨(w.heap.size + 1), 7, none⟩ = some (.int .u64 (wd3 y)) := k2.cell 7
          have c2_8 : V6.cell? ⟨(w.heap.size + 1), 8, none⟩ = some (.int .u64 (wd0 v)) := k2.cell 8
          have c2_9 : V6.cell? ⟨(w.heap.size + 1), 9, none⟩ = some (.int .u64 (wd1 v)) := k2.cell 9
          have c2_10 : V6.cell? ⟨(w.heap.size + 1), 10, none⟩ = some (.int .u64 (wd2 v)) := k2.cell 10
          have c2_11 : V6.cell? ⟨(w.heap.size + 1), 11, none⟩ = some (.int .u64 (wd3 v)) := k2.cell 11
          have l2 := k2.lt
          have c3_0 : V6.cell? ⟨U5.heap.size, 0, none⟩ = some (.int .i64 r5) := k3.cell 0
          have c3_1 : V6.cell? ⟨U5.heap.size, 1, none⟩ = some (.int .i64 r6) := k3.cell 1
          have l3 := k3.lt
          have c4_0 : V6.cell? ⟨(U5.heap.size + 1), 0, none⟩ = some (.int .i64 r7) := k4.cell 0
          have c4_1 : V6.cell? ⟨(U5.heap.size + 1), 1, none⟩ = some (.int .i64 r8) := k4.cell 1
          have l4 := k4.lt
          have Kk2 := Lib.hid k2
          clear k2
          have Kk3 := Lib.hid k3
          clear k3
          have Kk4 := Lib.hid k4
          clear k4
          refine wp_region_up V6.heap.size 9 [(true, 0), (true, 2), (false, 1), (false, 3), (true, 4), (true, 5), (true, 6), (true, 7), (false, 8)] (by kernel_rfl) (by kernel_rfl) (fun _ _ d _ _ h => by cases d <;> exact h) ?_
          have hb : Below V6.heap.size V6 V6.drew := (Below.refl _ _).drew
          iterate 2
            refine wpS_takeL rfl rfl ?_
            go_big_quiet_step (rfl)
            refine wpQuiet_nil ?_
          refine wpS_doL rfl ?_
          intro K hK
          go_wp2_with ((first | (go_at_call 47; (with_reducible refine (crAt_is r5 r6 r9 r10 r11 Hr9.out Hr10.out Hr11.out (Hr5.out ▸ lwx_in ax ay bx b_y _iax _iay _ibx _ib_y) (Hr6.out ▸ lwy_in ax ay bx b_y _iax _iay _ibx _ib_y)  _).mono ?_); rintro e w2 ⟨rfl, hn⟩) | (go_at_call 58; (with_reducible refine (SpCmp_is r9 r10 r11 x y v r12 Hr12.out (Hr9.out ▸ atx_in r5 r6 (Hr5.out ▸ lwx_in ax ay bx b_y _iax _iay _ibx _ib_y) (Hr6.out ▸ lwy_in ax ay bx b_y _iax _iay _ibx _ib_y)) (Hr10.out ▸ aty_in r5 r6 (Hr5.out ▸ lwx_in ax ay bx b_y _iax _iay _ibx _ib_y) (Hr6.out ▸ lwy_in ax ay bx b_y _iax _iay _ibx _ib_y)) (Hr11.out ▸ atw_in r5 r6 (Hr5.out ▸ lwx_in ax ay bx b_y _iax _iay _ibx _ib_y) (Hr6.out ▸ lwy_in ax ay bx b_y _iax _iay _ibx _ib_y)) _ix _iy _iv  _).mono ?_); rintro e w2 ⟨rfl, hn⟩) | (go_at_call 47; (with_reducible refine (crAt_is r7 r8 r14 r15 r16 Hr14.out Hr15.out Hr16.out (Hr7.out ▸ hgx_in ax ay bx b_y _iax _iay _ibx _ib_y) (Hr8.out ▸ hgy_in ax ay bx b_y _iax _iay _ibx _ib_y)  _).mono ?_); rintro e w2 ⟨rfl, hn⟩)))
          replace hb := hb.trans (hn.mono hb.size)
          refine hK.out _ _ (up_iff.2 hb) ?_
          clear hK K
          clear hn
          refine wpS_doL rfl ?_
          intro K hK
          go_wp2_with ((first | (go_at_call 47; (with_reducible refine (crAt_is r5 r6 r9 r10 r11 Hr9.out Hr10.out Hr11.out (Hr5.out ▸ lwx_in ax ay bx b_y _iax _iay _ibx _ib_y) (Hr6.out ▸ lwy_in ax ay bx b_y _iax _iay _ibx _ib_y)  _).mono ?_); rintro e w2 ⟨rfl, hn⟩) | (go_at_call 58; (with_reducible refine (SpCmp_is r9 r10 r11 x y v r12 Hr12.out (Hr9.out ▸ atx_in r5 r6 (Hr5.out ▸ lwx_in ax ay bx b_y _iax _iay _ibx _ib_y) (Hr6.out ▸ lwy_in ax ay bx b_y _iax _iay _ibx _ib_y)) (Hr10.out ▸ aty_in r5 r6 (Hr5.out ▸ lwx_in ax ay bx b_y _iax _iay _ibx _ib_y) (Hr6.out ▸ lwy_in ax ay bx b_y _iax _iay _ibx _ib_y)) (Hr11.out ▸ atw_in r5 r6 (Hr5.out ▸ lwx_in ax ay bx b_y _iax _iay _ibx _ib_y) (Hr6.out ▸ lwy_in ax ay bx b_y _iax _iay _ibx _ib_y)) _ix _iy _iv  _).mono ?_); rintro e w2 ⟨rfl, hn⟩) | (go_at_call 47; (with_reducible refine (crAt_is r7 r8 r14 r15 r16 Hr14.out Hr15.out Hr16.out (Hr7.out ▸ hgx_in ax ay bx b_y _iax _iay _ibx _ib_y) (Hr8.out ▸ hgy_in ax ay bx b_y _iax _iay _ibx _ib_y)  _).mono ?_); rintro e w2 ⟨rfl, hn⟩)))
          replace hb := hb.trans (hn.mono hb.size)
          refine hK.out _ _ (up_iff.2 hb) ?_
          clear hK K
          clear hn
          iterate 4
            refine wpS_takeL rfl rfl ?_
            go_big_quiet_step (rfl)
            refine wpQuiet_nil ?_
          refine wpS_doL rfl ?_
          intro K hK
          go_wp2_with ((first | (go_at_call 47; (with_reducible refine (crAt_is r5 r6 r9 r10 r11 Hr9.out Hr10.out Hr11.out (Hr5.out ▸ lwx_in ax ay bx b_y _iax _iay _ibx _ib_y) (Hr6.out ▸ lwy_in ax ay bx b_y _iax _iay _ibx _ib_y)  _).mono ?_); rintro e w2 ⟨rfl, hn⟩) | (go_at_call 58; (with_reducible refine (SpCmp_is r9 r10 r11 x y v r12 Hr12.out (Hr9.out ▸ atx_in r5 r6 (Hr5.out ▸ lwx_in ax ay bx b_y _iax _iay _ibx _ib_y) (Hr6.out ▸ lwy_in ax ay bx b_y _iax _iay _ibx _ib_y)) (Hr10.out ▸ aty_in r5 r6 (Hr5.out ▸ lwx_in ax ay bx b_y _iax _iay _ibx _ib_y) (Hr6.out ▸ lwy_in ax ay bx b_y _iax _iay _ibx _ib_y)) (Hr11.out ▸ atw_in r5 r6 (Hr5.out ▸ lwx_in ax ay bx b_y _iax _iay _ibx _ib_y) (Hr6.out ▸ lwy_in ax ay bx b_y _iax _iay _ibx _ib_y)) _ix _iy _iv  _).mono ?_); rintro e w2 ⟨rfl, hn⟩) | (go_at_call 47; (with_reducible refine (crAt_is r7 r8 r14 r15 r16 Hr14.out Hr15.out Hr16.out (Hr7.out ▸ hgx_in ax ay bx b_y _iax _iay _ibx _ib_y) (Hr8.out ▸ hgy_in ax ay bx b_y _iax _iay _ibx _ib_y)  _).mono ?_); rintro e w2 ⟨rfl, hn⟩)))
          try replace hb := hb.trans (hn.mono hb.size)
          refine hK.out _ _ (up_iff.2 hb) ?_
          clear hK K
          try clear hn
          refine wpS_nil ?_
          simp only [List.drop_succ_cons, List.drop_zero]
          first | refine calls_w ?_ | refine name_world ?_ | refine list_world ?_ | refine post_world ?_
          intro U8 hU8
          first | subst hU8 | (rw [← hU8] at hb; clear hU8)
          clear c2_0 c2_1 c2_2 c2_3 c2_4 c2_5 c2_6 c2_7 c2_8 c2_9 c2_10 c2_11 l2 c3_0 c3_1 l3 c4_0 c4_1 l4
          have k2 := Kk2.out.of hb
          clear Kk2
          have k3 := Kk3.out.of hb
          clear Kk3
          have k4 := Kk4.out.of hb
          clear Kk4
          replace hb0 := hb0.trans (hb.mono hb0.size)
          clear hb
          go_wp2_with fail
          obtain ⟨r17, hr17⟩ : ∃ o_o : Int, spC x y v r14 r15 r16 = o_o := ⟨_, rfl⟩
          have Hr17 := Lib.hid hr17
          clear hr17
          refine (SpCmp_is x y v r14 r15 r16 r17 Hr17.out _ix _iy _iv (Hr14.out ▸ atx_in r7 r8 (Hr7.out ▸ hgx_in ax ay bx b_y _iax _iay _ibx _ib_y) (Hr8.out ▸ hgy_in ax ay bx b_y _iax _iay _ibx _ib_y)) (Hr15.out ▸ aty_in r7 r8 (Hr7.out ▸ hgx_in ax ay bx b_y _iax _iay _ibx _ib_y) (Hr8.out ▸ hgy_in ax ay bx b_y _iax _iay _ibx _ib_y)) (Hr16.out ▸ atw_in r7 r8 (Hr7.out ▸ hgx_in ax ay bx b_y _iax _iay _ibx _ib_y) (Hr8.out ▸ hgy_in ax ay bx b_y _iax _iay _ibx _ib_y))  _).mono ?_
          rintro e U9 ⟨rfl, hn⟩
          clear k2 k3 k4
          replace hb0 := hb0.trans (hn.mono hb0.size)
          clear hn
          have e0 : decide (r17 ≤ 0) = R0 := by rw [← HR0.out]; unfold hldB; (try rw [Hz1.out]); (try rw [Hz2.out]); (try rw [Hr3.out]); (try rw [Hr5.out]); (try rw [Hr6.out]); (try rw [Hr7.out]); (try rw [Hr8.out]); (try rw [Hr9.out]); (try rw [Hr10.out]); (try rw [Hr11.out]); (try rw [Hr12.out]); (try rw [hz13]); (try rw [Hr14.out]); (try rw [Hr15.out]); (try rw [Hr16.out]); (try rw [Hr17.out]); all_goals first | rfl | simp
          subst e0
          go_wp2
          first | go_ret | go_ret2
          exact ⟨by first | rfl | simp, hb0⟩

def slp (ax : Int) (ay : Int) (bx : Int) (b_y : Int) (cx : Int) (cy : Int) (dx : Int) (dy : Int) : Int := (bif (sgR ax ay bx b_y) then (bif (sgR cx cy dx dy) then ((subv (mulv (wyx cx cy dx dy) (wyy ax ay bx b_y)) (mulv (wyy cx cy dx dy) (wyx ax ay bx b_y))).sign) else 0) else 0)

theorem slp_in (ax : Int) (ay : Int) (bx : Int) (b_y : Int) (cx : Int) (cy : Int) (dx : Int) (dy : Int) (_iax : In64 ax) (_iay : In64 ay) (_ibx : In64 bx) (_ib_y : In64 b_y) (_icx : In64 cx) (_icy : In64 cy) (_idx : In64 dx) (_idy : In64 dy) : In64 (slp ax ay bx b_y cx cy dx dy) := by
  unfold slp
  exact (cond_64 (cond_64 (sign_64 _) i64_0) i64_0)

set_option maxRecDepth 100000 in
set_option maxHeartbeats 4000000 in

theorem Slope_is (ax : Int) (ay : Int) (bx : Int) (b_y : Int) (cx : Int) (cy : Int) (dx : Int) (dy : Int)  (R0 : Int) (hR0 : slp ax ay bx b_y cx cy dx dy = R0) (_iax : In64 ax) (_iay : In64 ay) (_ibx : In64 bx) (_ib_y : In64 b_y) (_icx : In64 cx) (_icy : In64 cy) (_idx : In64 dx) (_idy : In64 dy)  (w : World)  :
    Calls Try.prog 63 #[.agg #[.int .i64 ax, .int .i64 ay, .int .i64 bx, .int .i64 b_y], .agg #[.int .i64 cx, .int .i64 cy, .int .i64 dx, .int .i64 dy]] w fun e w' => e = .returned (.int .i64 R0) ∧ Below w.heap.size w w' := by

  have HR0 := Lib.hid hR0
  clear hR0
  go_enter Try.func63, Try.ntmps63
  go_wp2_with fail
  first | refine calls_w ?_ | refine name_world ?_ | refine list_world ?_ | refine post_world ?_
  intro V1 hV1
  have hn : Below w.heap.size w V1 := by rw [hV1]; exact below_a2 _ _ _
  have nhb0 := hn
  have k1 : Blk V1 w.heap.size #[.int .i64 ax, .int .i64 ay, .int .i64 bx, .int .i64 b_y] 50 := by rw [hV1]; exact ((Blk.new _ _ _).alloc _)
  have k2 : Blk V1 (w.heap.size + 1) #[.int .i64 cx, .int .i64 cy, .int .i64 dx, .int .i64 dy] 50 := by rw [hV1]; exact (Blk.new1 _ _ _ _)
  clear hV1
  have hb0 := nhb0
  clear nhb0
  obtain ⟨z1, hz1⟩ : ∃ o_o : Bool, sgR ax ay bx b_y = o_o := ⟨_, rfl⟩
  have Hz1 := Lib.hid hz1
  clear hz1
  refine (SegRight_is ax ay bx b_y z1 Hz1.out _iax _iay _ibx _ib_y  _).mono ?_
  rintro e U2 ⟨rfl, hn⟩
  replace k1 := k1.of hn
  replace k2 := k2.of hn
  replace hb0 := hb0.trans (hn.mono hb0.size)
  clear hn
  cases z1
  · have e0 : 0 = R0 := by rw [← HR0.out]; unfold slp; (try rw [Hz1.out]); all_goals first | rfl | simp
    subst e0
    go_wp2
    first | go_ret | go_ret2
    exact ⟨by first | rfl | simp, hb0⟩
  · have c2_0 : U2.cell? ⟨(w.heap.size + 1), 0, none⟩ = some (.int .i64 cx) := k2.cell 0
    have c2_1 : U2.cell? ⟨(w.heap.size + 1), 1, none⟩ = some (.int .i64 cy) := k2.cell 1
    have c2_2 : U2.cell? ⟨(w.heap.size + 1), 2, none⟩ = some (.int .i64 dx) := k2.cell 2
    have c2_3 : U2.cell? ⟨(w.heap.size + 1), 3, none⟩ = some (.int .i64 dy) := k2.cell 3
    have l2 := k2.lt
    go_wp2_with fail
    clear c2_0 c2_1 c2_2 c2_3 l2
    obtain ⟨z2, hz2⟩ : ∃ o_o : Bool, sgR cx cy dx dy = o_o := ⟨_, rfl⟩
    have Hz2 := Lib.hid hz2
    clear hz2
    refine (SegRight_is cx cy dx dy z2 Hz2.out _icx _icy _idx _idy  _).mono ?_
    rintro e U3 ⟨rfl, hn⟩
    replace k1 := k1.of hn
    replace k2 := k2.of hn
    replace hb0 := hb0.trans (hn.mono hb0.size)
    clear hn
    cases z2
    · have e0 : 0 = R0 := by rw [← HR0.out]; unfold slp; (try rw [Hz1.out]); (try rw [Hz2.out]); all_goals first | rfl | simp
      subst e0
      go_wp2
      first | go_ret | go_ret2
      exact ⟨by first | rfl | simp, hb0⟩
    · have c1_0 : U3.cell? ⟨w.heap.size, 0, none⟩ = some (.int .i64 ax) := k1.cell 0
      have c1_1 : U3.cell? ⟨w.heap.size, 1, none⟩ = some (.int .i64 ay) := k1.cell 1
      have c1_2 : U3.cell? ⟨w.heap.size, 2, none⟩ = some (.int .i64 bx) := k1.cell 2
      have c1_3 : U3.cell? ⟨w.heap.size, 3, none⟩ = some (.int .i64 b_y) := k1.cell 3
      have l1 := k1.lt
      go_wp2_with fail
      clear c1_0 c1_1 c1_2 c1_3 l1
      obtain ⟨r3, hr3⟩ : ∃ o_o : Int, wyx ax ay bx b_y = o_o := ⟨_, rfl⟩
      have Hr3 := Lib.hid hr3
      clear hr3
      obtain ⟨r4, hr4⟩ : ∃ o_o : Int, wyy ax ay bx b_y = o_o := ⟨_, rfl⟩
      have Hr4 := Lib.hid hr4
      clear hr4
      refine (crway_is ax ay bx b_y r3 r4 Hr3.out Hr4.out _iax _iay _ibx _ib_y  _).mono ?_
      rintro e U4 ⟨rfl, hn⟩
      clear k1
      replace k2 := k2.of hn
      replace hb0 := hb0.trans (hn.mono hb0.size)
      clear hn
      have c2_0 : U4.cell? ⟨(w.heap.size + 1), 0, none⟩ = some (.int .i64 cx) := k2.cell 0
      have c2_1 : U4.cell? ⟨(w.heap.size + 1), 1, none⟩ = some (.int .i64 cy) := k2.cell 1
      have c2_2 : U4.cell? ⟨(w.heap.size + 1), 2, none⟩ = some (.int .i64 dx) := k2.cell 2
      have c2_3 : U4.cell? ⟨(w.heap.size + 1), 3, none⟩ = some (.int .i64 dy) := k2.cell 3
      have l2 := k2.lt
      have l2_0 : w.heap.size < U4.heap.size := by have := k2.lt; omega
      go_wp2_with fail
      clear c2_0 c2_1 c2_2 c2_3 l2 l2_0
      first | refine calls_w ?_ | refine name_world ?_ | refine list_world ?_ | refine post_world ?_
      intro V5 hV5
      clear k2
      have D1 := Lib.hid hb0.size
      have hn : Below U4.heap.size U4 V5 := by rw [hV5]; exact below_a2 _ _ _
      have nhb0 := hb0.trans (hn.mono hb0.size)
      clear hn
      have k3 : Blk V5 U4.heap.size #[.int .u64 (wd0 r3), .int .u64 (wd1 r3), .int .u64 (wd2 r3), .int .u64 (wd3 r3)] 35 := by rw [hV5]; exact ((Blk.new _ _ _).alloc _)
      have k4 : Blk V5 (U4.heap.size + 1) #[.int .u64 (wd0 r4), .int .u64 (wd1 r4), .int .u64 (wd2 r4), .int .u64 (wd3 r4)] 35 := by rw [hV5]; exact (Blk.new1 _ _ _ _)
      clear hb0
      clear hV5
      have hb0 := nhb0
      clear nhb0
      obtain ⟨r5, hr5⟩ : ∃ o_o : Int, wyx cx cy dx dy = o_o := ⟨_, rfl⟩
      have Hr5 := Lib.hid hr5
      clear hr5
      obtain ⟨r6, hr6⟩ : ∃ o_o : Int, wyy cx cy dx dy = o_o := ⟨_, rfl⟩
      have Hr6 := Lib.hid hr6
      clear hr6
      refine (crway_is cx cy dx dy r5 r6 Hr5.out Hr6.out _icx _icy _idx _idy  _).mono ?_
      rintro e U6 ⟨rfl, hn⟩
      replace k3 := k3.of hn
      replace k4 := k4.of hn
      replace hb0 := hb0.trans (hn.mono hb0.size)
      clear hn
      go_wp2_with fail
      first | refine calls_w ?_ | refine name_world ?_ | refine list_world ?_ | refine post_world ?_
      intro V7 hV7
      have D2 := Lib.hid k3.lt
      have D3 := Lib.hid k4.lt
      have D4 := Lib.hid hb0.size
      have hn : Below U6.heap.size U6 V7 := by rw [hV7]; exact below_a2 _ _ _
      have nk3 := k3.of hn
      have nk4 := k4.of hn
      have nhb0 := hb0.trans (hn.mono hb0.size)
      clear hn
      have k5 : Blk V7 U6.heap.size #[.int .u64 (wd0 r5), .int .u64 (wd1 r5), .int .u64 (wd2 r5), .int .u64 (wd3 r5)] 35 := by rw [hV7]; exact ((Blk.new _ _ _).alloc _)
      have k6 : Blk V7 (U6.heap.size + 1) #[.int .u64 (wd0 r6), .int .u64 (wd1 r6), .int .u64 (wd2 r6), .int .u64 (wd3 r6)] 35 := by rw [hV7]; exact (Blk.new1 _ _ _ _)
      clear k3 k4
      clear hb0
      clear hV7
      have k3 := nk3
      clear nk3
      have k4 := nk4
      clear nk4
      have hb0 := nhb0
      clear nhb0
      obtain ⟨r7, hr7⟩ : ∃ o_o : Int, mulv r5 r4 = o_o := ⟨_, rfl⟩
      have Hr7 := Lib.hid hr7
      clear hr7
      have c3_0 : V7.cell? ⟨U4.heap.size, 0, none⟩ = some (.int .u64 (wd0 r3)) := k3.cell 0
      have c3_1 : V7.cell? ⟨U4.heap.size, 1, none⟩ = some (.int .u64 (wd1 r3)) := k3.cell 1
      have c3_2 : V7.cell? ⟨U4.heap.size, 2, none⟩ = some (.int .u64 (wd2 r3)) := k3.cell 2
      have c3_3 : V7.cell? ⟨U4.heap.size, 3, none⟩ = some (.int .u64 (wd3 r3)) := k3.cell 3
      have l3 := k3.lt
      have c4_0 : V7.cell? ⟨(U4.heap.size + 1), 0, none⟩ = some (.int .u64 (wd0 r4)) := k4.cell 0
      have c4_1 : V7.cell? ⟨(U4.heap.size + 1), 1, none⟩ = some (.int .u64 (wd1 r4)) := k4.cell 1
      have c4_2 : V7.cell? ⟨(U4.heap.size + 1), 2, none⟩ = some (.int .u64 (wd2 r4)) := k4.cell 2
      have c4_3 : V7.cell? ⟨(U4.heap.size + 1), 3, none⟩ = some (.int .u64 (wd3 r4)) := k4.cell 3
      have l4 := k4.lt
      have c5_0 : V7.cell? ⟨U6.heap.size, 0, none⟩ = some (.int .u64 (wd0 r5)) := k5.cell 0
      have c5_1 : V7.cell? ⟨U6.heap.size, 1, none⟩ = some (.int .u64 (wd1 r5)) := k5.cell 1
      have c5_2 : V7.cell? ⟨U6.heap.size, 2, none⟩ = some (.int .u64 (wd2 r5)) := k5.cell 2
      have c5_3 : V7.cell? ⟨U6.heap.size, 3, none⟩ = some (.int .u64 (wd3 r5)) := k5.cell 3
      have l5 := k5.lt
      have c6_0 : V7.cell? ⟨(U6.heap.size + 1), 0, none⟩ = some (.int .u64 (wd0 r6)) := k6.cell 0
      have c6_1 : V7.cell? ⟨(U6.heap.size + 1), 1, none⟩ = some (.int .u64 (wd1 r6)) := k6.cell 1
      have c6_2 : V7.cell? ⟨(U6.heap.size + 1), 2, none⟩ = some (.int .u64 (wd2 r6)) := k6.cell 2
      have c6_3 : V7.cell? ⟨(U6.heap.size + 1), 3, none⟩ = some (.int .u64 (wd3 r6)) := k6.cell 3
      have l6 := k6.lt
      have Kk3 := Lib.hid k3
      clear k3
      have Kk4 := Lib.hid k4
      clear k4
      have Kk5 := Lib.hid k5
      clear k5
      have Kk6 := Lib.hid k6
      clear k6
      refine wp_region_up V7.heap.size 5 [(true, 0), (true, 1), (true, 3), (true, 4), (false, 2)] (by kernel_rfl) (by kernel_rfl) (fun _ _ d _ _ h => by cases d <;> exact h) ?_
      have hb : Below V7.heap.size V7 V7.drew := (Below.refl _ _).drew
      iterate 4
        refine wpS_takeL rfl rfl ?_
        go_big_quiet_step (rfl)
        refine wpQuiet_nil ?_
      refine wpS_doL rfl ?_
      intro K hK
      go_wp2_with ((go_at_call 106; (with_reducible refine (crtimes_is r5 r4 r7 Hr7.out (Hr5.out ▸ wyx_in cx cy dx dy _icx _icy _idx _idy) (Hr4.out ▸ wyy_in ax ay bx b_y _iax _iay _ibx _ib_y)  _).mono ?_); rintro e w2 ⟨rfl, hn⟩))
      replace hb := hb.trans (hn.mono hb.size)
      refine hK.out _ _ (up_iff.2 hb) ?_
      clear hK K
      clear hn
      refine wpS_nil ?_
      simp only [List.drop_succ_cons, List.drop_zero]
      first | refine calls_w ?_ | refine name_world ?_ | refine list_world ?_ | refine post_world ?_
      intro U8 hU8
      first | subst hU8 | (rw [← hU8] at hb; clear hU8)
      clear c3_0 c3_1 c3_2 c3_3 l3 c4_0 c4_1 c4_2 c4_3 l4 c5_0 c5_1 c5_2 c5_3 l5 c6_0 c6_1 c6_2 c6_3 l6
      have k3 := Kk3.out.of hb
      clear Kk3
      have k4 := Kk4.out.of hb
      clear Kk4
      have k5 := Kk5.out.of hb
      clear Kk5
      have k6 := Kk6.out.of hb
      clear Kk6
      replace hb0 := hb0.trans (hb.mono hb0.size)
      clear hb
      go_wp2_with fail
      obtain ⟨r8, hr8⟩ : ∃ o_o : Int, mulv r6 r3 = o_o := ⟨_, rfl⟩
      have Hr8 := Lib.hid hr8
      clear hr8
      refine (crtimes_is r6 r3 r8 Hr8.out (Hr6.out ▸ wyy_in cx cy dx dy _icx _icy _idx _idy) (Hr3.out ▸ wyx_in ax ay bx b_y _iax _iay _ibx _ib_y)  _).mono ?_
      rintro e U9 ⟨rfl, hn⟩
      clear k3 k4 k5 k6
      replace hb0 := hb0.trans (hn.mono hb0.size)
      clear hn
      go_wp2_with fail
      obtain ⟨r9, hr9⟩ : ∃ o_o : Int, subv r7 r8 = o_o := ⟨_, rfl⟩
      have Hr9 := Lib.hid hr9
      clear hr9
      refine (crless_is r7 r8 r9 Hr9.out (Hr7.out ▸ mulv_in r5 r4) (Hr8.out ▸ mulv_in r6 r3)  _).mono ?_
      rintro e U10 ⟨rfl, hn⟩
      replace hb0 := hb0.trans (hn.mono hb0.size)
      clear hn
      go_wp2_with fail
      obtain ⟨r10, hr10⟩ : ∃ o_o : Int, r9.sign = o_o := ⟨_, rfl⟩
      have Hr10 := Lib.hid hr10
      clear hr10
      refine (Sign_v r9 r10 Hr10.out (Hr9.out ▸ subv_in r7 r8) _).mono ?_
      rintro e U11 ⟨rfl, hn⟩
      replace hb0 := hb0.trans (hn.mono hb0.size)
      clear hn
      have e0 : r10 = R0 := by rw [← HR0.out]; unfold slp; (try rw [Hz1.out]); (try rw [Hz2.out]); (try rw [Hr3.out]); (try rw [Hr4.out]); (try rw [Hr5.out]); (try rw [Hr6.out]); (try rw [Hr7.out]); (try rw [Hr8.out]); (try rw [Hr9.out]); (try rw [Hr10.out]); all_goals first | rfl | simp
      subst e0
      go_wp2
      first | go_ret | go_ret2
      exact ⟨by first | rfl | simp, hb0⟩
end Go.Proofs.Ytlcbomjdbdgbmaa
